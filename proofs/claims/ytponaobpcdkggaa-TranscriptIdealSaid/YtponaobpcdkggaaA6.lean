/-
  Parts of the proofs that the laws of this seat hold of every input, merged by a program: a machine over pure data that is sound for the model, what each function of the translation does in it, and plain lemmas. No conditions but those in each theorem.
-/
import Derived.Test.YtponaobpcdkggaaA5
set_option linter.all false
set_option maxRecDepth 100000
noncomputable section
namespace Go.Proofs.Ytponaobpcdkggaa
open Go Go.Bv Go.Cv Go.Md Go.RowKit
def k1f:Con TB.den:=Con.mk0 79 [.one (.row 0),.one (.d (.int .i64)),.one (.d (.int .i64)),.one (.d (.int .i64))] [.vec (.int .i64)] (.tup []) [.vec (.int .i64)]
abbrev kes:=HL TB.den (hsT k1f.ins (hsOs k1f.pre))
abbrev ky:=HL TB.den (hsV k1f.res (hsOs k1f.post))
noncomputable def k1z:Cx TB:=⟨inf,[k77],[],4,[]⟩
noncomputable def k3e:Code:=Try.f79.body.getD .skip
noncomputable def k6v:List ResultVar:=Try.f79.results.toList
def kph (o:ky):=blockT TB 0 (retTQ TB k1z k1f k6v o)
def km:Tm:=⟨[0],[.vec (.int .i64)],[0,2,3,8],[.one (.row 0),.one (.d (.int .i64)),.one (.d (.int .i64)),.one (.d (.int .i64))],1⟩
def k95 (o:ky) (nx1:NX TB km):=qM TB 1 km nx1 (kph o)
def k58:Tm:=⟨[0],[.vec (.int .i64)],[0,2,3,8,9],[.one (.row 0),.one (.d (.int .i64)),.one (.d (.int .i64)),.one (.d (.int .i64)),.one (.d (.int .i64))],81⟩
def kd3 (o:ky) (nx1:NX TB km) (i:HL TB.den k58.hs):Prop:=ghs TB [] (k58.fill TB i) fun s=>WP TB k1z 76 1 (cB (cB (cB (cA (cA (cA (cB k3e))))))) .no s (blockT TB 1 (k95 o nx1))
structure k34 (o:ky) (nx1:NX TB km) (i:HL TB.den k58.hs):Prop where
 h:kd3 o nx1 i
def kpn (o:ky) (nx1:NX TB km):=qM TB 1 k58 (k34 o nx1) (blockT TB 1 (k95 o nx1))
def k6m:Tm:=⟨[0],[.vec (.int .i64)],[0,2,3,8,9,36],[.one (.row 0),.one (.d (.int .i64)),.one (.d (.int .i64)),.one (.d (.int .i64)),.one (.d (.int .i64)),.one (.d (.bool))],81⟩
def kd6 (o:ky) (nx1:NX TB km) (i:HL TB.den k6m.hs):Prop:=ghs TB [] (k6m.fill TB i) fun s=>WP TB k1z 76 1 (cB (cA (cB (cB (cA (cA (cA (cB k3e)))))))) .no s (kpn o nx1)
structure k49 (o:ky) (nx1:NX TB km) (i:HL TB.den k6m.hs):Prop where
 h:kd6 o nx1 i
noncomputable def kpe (o:ky) (nx1:NX TB km):An TB:= .jn k6m (k49 o nx1) [] .no [] .no
noncomputable def kpk (o:ky) (nx1:NX TB km):An TB:= .jn k58 (k34 o nx1) [] (kpe o nx1) [] .no
noncomputable def kdx (o:ky) (nx1:NX TB km):An TB:= .nd [] .no [] (.nd [] .no [] (kpk o nx1))
def k5q (o:ky) (nx1:NX TB km) (i:HL TB.den km.hs):Prop:=WP TB k1z 76 1 (cA (cA (cB k3e))) (kdx o nx1) (km.fill TB i) (k95 o nx1)
noncomputable def ko8 (o:ky):An TB:= .lp [] km (k5q o) fun nx1=>(kdx o nx1)
noncomputable def kdo (o:ky):An TB:= .nd [] .no [] (ko8 o)
def k8i (x:kes) (o:ky):Prop:=WPh TB k1z 76 1 k3e (kdo o) (k1f.st TB x) (retTQ TB k1z k1f k6v o)
theorem koz (o:ky):OblH TB k1z 76 1 k3e (kdo o) (retTQ TB k1z k1f k6v o):=
 OblH.ofC (X:=((∀nx i,(k5q o) nx i=(k5q o) nx i)∧(∀nx1:NX TB km,((∀i,(k49 o nx1) i=kd6 o nx1 i)∧(∀i,(k34 o nx1) i=kd3 o nx1 i)∧True))∧True)) (by kernel_rfl) ⟨fun _ _=>rfl,fun _=>⟨fun _=>propext ⟨fun h=>h.1,fun h=>⟨h⟩⟩,fun _=>propext ⟨fun h=>h.1,fun h=>⟨h⟩⟩,trivial⟩,trivial⟩
theorem kob {x:kes} {o:ky} (h:k8i x o):k1f.Snd Try.prog x o:=
 Con.soundH (c:=k1f) (C:=k1z) TBok ⟨inf_ok,(all_cons k8q all_nil),all_nil⟩ mix Try.func79 (show Try.f79.body=some k3e by kernel_rfl) (show Try.f79.ntmps=76 by kernel_rfl) (show Try.f79.results.toList=k6v by kernel_rfl) rfl h (koz o)
theorem kpc {p1:Int} {p2:Int} {p3:Int} {w0:List Int} {e0:List Int} (h:
((w0.length=w0.length)∧Md.Loop (p2,p3,p1,w0,()) (k5q (e0,())))):k8i (p1,p2,p3,w0,()) (e0,()):=WPh.of_eq (by kernel_rfl) h
theorem kmj {e0:List Int} {nx1:NX TB km} {s2:Int} {s3:Int} {s8:Int} {s9:Int} {s36:Bool} {g0:List Int} (h:
((s36=true→
(g0.length=g0.length)∧k34 (e0,()) nx1 (s2,s3,s8,(IntKind.i64.wrap (s9+1):Int),g0,()))∧
(s36=false→
(g0.length=g0.length)∧k34 (e0,()) nx1 (s2,s3,s8,s9,g0,())))):k49 (e0,()) nx1 (s2,s3,s8,s9,s36,g0,()):=⟨mpr_of (by kernel_rfl) h⟩
theorem kmc {e0:List Int} {nx1:NX TB km} {s2:Int} {s3:Int} {s8:Int} {s9:Int} {g0:List Int} (h:
((0≤IntKind.i64.wrap (s3+s8)∧IntKind.i64.wrap (s3+s8)<(g0.length:Int))∧(0≤IntKind.i64.wrap (s3+s8)∧IntKind.i64.wrap (s3+s8)<(g0.length:Int))∧(0≤IntKind.i64.wrap (s3+s9)∧IntKind.i64.wrap (s3+s9)<(g0.length:Int))∧(0≤IntKind.i64.wrap (s3+s9)∧IntKind.i64.wrap (s3+s9)<(g0.length:Int))∧let r5:Bool:=(decide ((ix g0 (IntKind.i64.wrap (s3+s8)))<(ix g0 (IntKind.i64.wrap (s3+s9)))))
((!r5)=true→
 g0=e0)∧
((!r5)=false→
(0≤IntKind.i64.wrap (s3+s9)∧IntKind.i64.wrap (s3+s9)<(g0.length:Int))∧(0≤IntKind.i64.wrap (s3+s9)∧IntKind.i64.wrap (s3+s9)<(g0.length:Int))∧(0≤IntKind.i64.wrap (s3+s8)∧IntKind.i64.wrap (s3+s8)<(g0.length:Int))∧(0≤IntKind.i64.wrap (s3+s8)∧IntKind.i64.wrap (s3+s8)<(g0.length:Int))∧(0≤IntKind.i64.wrap (s3+s8)∧IntKind.i64.wrap (s3+s8)<(g0.length:Int))∧(0≤IntKind.i64.wrap (s3+s8)∧IntKind.i64.wrap (s3+s8)<(g0.length:Int))∧(0≤IntKind.i64.wrap (s3+s9)∧IntKind.i64.wrap (s3+s9)<(g0.length:Int))∧(0≤IntKind.i64.wrap (s3+s9)∧IntKind.i64.wrap (s3+s9)<((g0.set (IntKind.i64.wrap (s3+s8)).toNat (ix g0 (IntKind.i64.wrap (s3+s9)))).length:Int))∧(g0.length=((g0.set (IntKind.i64.wrap (s3+s8)).toNat (ix g0 (IntKind.i64.wrap (s3+s9)))).set (IntKind.i64.wrap (s3+s9)).toNat (ix g0 (IntKind.i64.wrap (s3+s8)))).length)∧nx1 (s2,s3,s9,((g0.set (IntKind.i64.wrap (s3+s8)).toNat (ix g0 (IntKind.i64.wrap (s3+s9)))).set (IntKind.i64.wrap (s3+s9)).toNat (ix g0 (IntKind.i64.wrap (s3+s8))):List Int),())))):k34 (e0,()) nx1 (s2,s3,s8,s9,g0,()):=⟨mpr_of (by kernel_rfl) h⟩
def k96 (e0:List Int) (nx1:NX TB km) (k1:Int→List Int→Prop) (s2:Int) (s3:Int) (s8:Int) (g0:List Int):Prop:=
 let v1:Int:=IntKind.i64.wrap ((IntKind.i64.wrap (2*s8))+1)
(decide (s2≤v1)=true→
 g0=e0)∧
(decide (s2≤v1)=false→
 let v2:Bool:=decide ((IntKind.i64.wrap (v1+1))<s2)
(v2=true→
(0≤IntKind.i64.wrap (s3+v1)∧IntKind.i64.wrap (s3+v1)<(g0.length:Int))∧(0≤IntKind.i64.wrap (s3+v1)∧IntKind.i64.wrap (s3+v1)<(g0.length:Int))∧let v3:Int:=IntKind.i64.wrap ((IntKind.i64.wrap (s3+v1))+1)
(0≤v3∧v3<(g0.length:Int))∧(0≤v3∧v3<(g0.length:Int))∧let r4:Bool:=(decide ((ix g0 (IntKind.i64.wrap (s3+v1)))<(ix g0 v3)))
(g0.length=g0.length)∧k49 (e0,()) nx1 (s2,s3,s8,v1,r4,g0,()))∧
(v2=false→
(g0.length=g0.length)∧k49 (e0,()) nx1 (s2,s3,s8,v1,false,g0,())))
theorem kp2 {e0:List Int} {s2:Int} {s3:Int} {s8:Int} {g0:List Int} (inv:Int→List Int→Prop) (μ:Int→List Int→Nat) (h0:inv s8 g0) (hs:∀(s8:Int) (g0:List Int),inv s8 g0→k96 e0 (fun s:Int×Int×Int×(List Int)×Unit=>((s.1=s2∧s.2.1=s3)∧inv s.2.2.1 s.2.2.2.1)∧μ s.2.2.1 s.2.2.2.1<μ s8 g0) (fun s8q g0q=>inv s8q g0q∧μ s8q g0q<μ s8 g0) s2 s3 s8 g0):Md.Loop (s2,s3,s8,g0,()) (k5q (e0,())):=
 ⟨⟨fun s:Int×Int×Int×(List Int)×Unit=>(s.1=s2∧s.2.1=s3)∧inv s.2.2.1 s.2.2.2.1,fun s:Int×Int×Int×(List Int)×Unit=>μ s.2.2.1 s.2.2.2.1,⟨⟨rfl,rfl⟩,h0⟩,fun(s2p,s3p,s8p,g0p,()) ⟨⟨eq0,eq1⟩,hi⟩=>by
  have eq0:s2p=s2:=eq0;subst s2p;have eq1:s3p=s3:=eq1;subst s3p;exact mpr_of (by kernel_rfl) ((congrArg (fun k=>k96 e0 (fun s:Int×Int×Int×(List Int)×Unit=>((s.1=s2∧s.2.1=s3)∧inv s.2.2.1 s.2.2.2.1)∧μ s.2.2.1 s.2.2.2.1<μ s8p g0p) k s2 s3 s8p g0p) (lpk2 (⟨rfl,rfl⟩:s2=s2∧s3=s3) inv (fun s8q g0q=>μ s8q g0q<μ s8p g0p))).mpr (hs s8p g0p hi))⟩⟩
theorem bd79:Callable Try.prog 79:=⟨by rw[Try.func79];kernel_rfl,by rw[Try.func79];show some _≠some _;decide⟩
theorem knl (p1:Int) (p2:Int) (p3:Int) (w0:List Int) (h:(0≤p1∧p1≤1099511627776)∧(0≤p2∧0≤p3∧p3+p2≤w0.length)∧w0.length≤1099511627776):k8i (p1,p2,p3,w0,()) (((sdS w0 p1 p2 p3):List Int),()):=by
 obtain⟨⟨h0,h1⟩,⟨h2,h3,h4⟩,h5⟩:=h
 refine kpc ⟨rfl,?_⟩
 refine kp2 (fun root g=>(0≤root∧root≤1099511627776)∧g.length=w0.length∧Sort.siftDown Sort.ltInt p2.toNat p3.toNat root.toNat g.toArray=Sort.siftDown Sort.ltInt p2.toNat p3.toNat p1.toNat w0.toArray) (fun root _=>(p2-root).toNat) ⟨⟨h0,h1⟩,rfl,rfl⟩ ?_
 rintro root g ⟨⟨g0,g1⟩,g2,g3⟩
 unfold k96
 rw[wi (2*root) (by omega) (by omega),wi (2*root+1) (by omega) (by omega)]
 dsimp only
 rw[wi (2*root+1+1) (by omega) (by omega)]
 refine⟨fun hh=> ?_,fun hh=> ?_⟩
 ·have hh:=of_decide_eq_true hh
  rw[k1d5 g0 hh]at g3
  unfold sdS
  rw[←g3]
 have hh:=of_decide_eq_false hh
 have hc:=chS_rng (g:=g) (hi:=p2) (first:=p3) (root:=root) (by omega)
 rw[k1dm g0 h3 (by omega) (by omega)]at g3
 have key:∀c:Int,c=chS g p2 p3 root→∀nx:NX TB km,(∀g' :List Int,((0≤c∧c≤1099511627776)∧g'.length=w0.length∧Sort.siftDown Sort.ltInt p2.toNat p3.toNat c.toNat g'.toArray=Sort.siftDown Sort.ltInt p2.toNat p3.toNat p1.toNat w0.toArray)∧(p2-c).toNat<(p2-root).toNat→nx (p2,p3,c,g',()))→k34 (sdS w0 p1 p2 p3,()) nx (p2,p3,root,c,g,()):=by
  rintro c rfl nx hn
  rw[←wi (p3+root) (by omega) (by omega)]at g3
  rw[←wi (p3+chS g p2 p3 root) (by omega) (by omega)]at g3
  have w1:=wi (p3+root) (by omega) (by omega)
  have w2:=wi (p3+chS g p2 p3 root) (by omega) (by omega)
  generalize hcc:chS g p2 p3 root=c at *
  refine kmc ?_
  generalize IntKind.i64.wrap (p3+root)=u at *
  generalize IntKind.i64.wrap (p3+c)=v at *
  refine⟨⟨by omega,by omega⟩,⟨by omega,by omega⟩,⟨by omega,by omega⟩,⟨by omega,by omega⟩,fun e=> ?_,fun e=> ?_⟩
  ·have e:¬ix g u<ix g v:=by simpa using e
   rw[if_neg e]at g3
   unfold sdS
   rw[←g3]
  ·have e:ix g u<ix g v:=by simpa using e
   rw[if_pos e]at g3
   exact⟨⟨by omega,by omega⟩,⟨by omega,by omega⟩,⟨by omega,by omega⟩,⟨by omega,by omega⟩,⟨by omega,by omega⟩,⟨by omega,by omega⟩,⟨by omega,by omega⟩,⟨by omega,by rw[List.length_set];omega⟩,by rw[List.length_set,List.length_set],hn _ ⟨⟨⟨by omega,by omega⟩,by rw[List.length_set,List.length_set];exact g2,g3⟩,by omega⟩⟩
 have j1:∀s:Bool,(s=true↔(2*root+2<p2∧ix g (p3+(2*root+1))<ix g (p3+(2*root+1)+1)))→∀nx:NX TB km,(∀(c:Int) (g' :List Int),((0≤c∧c≤1099511627776)∧g'.length=w0.length∧Sort.siftDown Sort.ltInt p2.toNat p3.toNat c.toNat g'.toArray=Sort.siftDown Sort.ltInt p2.toNat p3.toNat p1.toNat w0.toArray)∧(p2-c).toNat<(p2-root).toNat→nx (p2,p3,c,g',()))→k49 (sdS w0 p1 p2 p3,()) nx (p2,p3,root,2*root+1,s,g,()):=by
  intro s hs nx hn
  refine kmj ⟨fun e=>⟨rfl,?_⟩,fun e=>⟨rfl,?_⟩⟩
  ·exact key _ (by show IntKind.i64.wrap (2*root+1+1)=chS g p2 p3 root;rw[wi (2*root+1+1) (by omega) (by omega)];unfold chS;rw[if_pos (hs.1 e)];omega) nx fun g' =>hn _ g'
  ·exact key _ (Eq.symm (if_neg fun q=>by rw[hs.2 q]at e;cases e)) nx fun g' =>hn _ g'
 refine⟨fun e=> ?_,fun e=> ?_⟩
 ·have e:=of_decide_eq_true e
  have w1:=wi (p3+(2*root+1)) (by omega) (by omega)
  rw[w1,wi (p3+(2*root+1)+1) (by omega) (by omega)]
  refine⟨⟨by omega,by omega⟩,⟨by omega,by omega⟩,⟨by omega,by omega⟩,⟨by omega,by omega⟩,rfl,?_⟩
  exact j1 _ ⟨fun q=>⟨by omega,of_decide_eq_true q⟩,fun q=>decide_eq_true q.2⟩ _ fun c g' q=>⟨⟨⟨rfl,rfl⟩,q.1⟩,q.2⟩
 ·have e:=of_decide_eq_false e
  exact⟨rfl,j1 _ ⟨fun q=>(by cases q),fun q=>absurd q.1 (by omega)⟩ _ fun c g' q=>⟨⟨⟨rfl,rfl⟩,q.1⟩,q.2⟩⟩
noncomputable def kd2:Con TB.den:=k1f.fnR (fun x=>(fun(p1:Int) (p2:Int) (p3:Int) (w0:List Int)=>(0≤p1∧p1≤1099511627776)∧(0≤p2∧0≤p3∧p3+p2≤w0.length)∧w0.length≤1099511627776) x.1 x.2.1 x.2.2.1 x.2.2.2.1) fun x=>((fun(p1:Int) (p2:Int) (p3:Int) (w0:List Int)=>((sdS w0 p1 p2 p3):List Int)) x.1 x.2.1 x.2.2.1 x.2.2.2.1,())
theorem kpq:kd2.Ok Try.prog TB:=Con.ok_fn k1f bd79 fun x h=>kob (knl x.1 x.2.1 x.2.2.1 x.2.2.2.1 h)
def k1c:Con TB.den:=Con.mk0 56 [.one (.row 0),.one (.d (.int .i64)),.one (.d (.int .i64))] [.vec (.int .i64)] (.tup []) [.vec (.int .i64)]
abbrev ket:=HL TB.den (hsT k1c.ins (hsOs k1c.pre))
abbrev k1b:=HL TB.den (hsV k1c.res (hsOs k1c.post))
noncomputable def k1v:Cx TB:=⟨inf,[kd2],[],4,[]⟩
noncomputable def k3f:Code:=Try.f56.body.getD .skip
noncomputable def k5p:List ResultVar:=Try.f56.results.toList
def kpo (o:k1b):=blockT TB 2 (retTQ TB k1v k1c k5p o)
def k35:Tm:=⟨[0],[.vec (.int .i64)],[0,6,7,10],[.one (.row 0),.one (.d (.int .i64)),.one (.d (.int .i64)),.one (.d (.int .i64))],1⟩
def kpp (o:k1b) (nx2:NX TB k35):=qM TB 1 k35 nx2 (kpo o)
def k5o (o:k1b) (nx2:NX TB k35) (i:HL TB.den k35.hs):Prop:=WP TB k1v 56 1 (cA (cA (cB (cB (cB (cB (cB k3f))))))) .no (k35.fill TB i) (kpp o nx2)
noncomputable def kdn (o:k1b):An TB:= .lp [] k35 (k5o o) fun nx2=> .no
def kpb (o:k1b):=qS TB k1v 56 1 (cB (cB (cB (cB k3f)))) (.nd [] .no [] (kdn o)) (retTQ TB k1v k1c k5p o)
def k36:Tm:=⟨[0],[.vec (.int .i64)],[0,6,7,8,9],[.one (.row 0),.one (.d (.int .i64)),.one (.d (.int .i64)),.one (.d (.int .i64)),.one (.d (.int .i64))],1⟩
def kpl (o:k1b) (nx1:NX TB k36):=qM TB 1 k36 nx1 (blockT TB 0 (kpb o))
def k5r (o:k1b) (nx1:NX TB k36) (i:HL TB.den k36.hs):Prop:=WP TB k1v 56 1 (cA (cA (cB (cA (cB (cB (cB k3f))))))) .no (k36.fill TB i) (kpl o nx1)
noncomputable def kp9 (o:k1b):An TB:= .lp [] k36 (k5r o) fun nx1=> .no
noncomputable def koj (o:k1b):An TB:= .nd [] (.nd [] .no [] (kp9 o)) [] (.nd [] .no [] (kdn o))
noncomputable def koi (o:k1b):An TB:= .nd [] .no [] (.nd [] .no [] (koj o))
noncomputable def kdk (o:k1b):An TB:= .nd [] .no [] (koi o)
def k8g (x:ket) (o:k1b):Prop:=WPh TB k1v 56 1 k3f (kdk o) (k1c.st TB x) (retTQ TB k1v k1c k5p o)
theorem kod (o:k1b):OblH TB k1v 56 1 k3f (kdk o) (retTQ TB k1v k1c k5p o):=
 OblH.ofC (X:=((∀nx i,(k5r o) nx i=(k5r o) nx i)∧(∀nx1:NX TB k36,True)∧(∀nx i,(k5o o) nx i=(k5o o) nx i)∧(∀nx2:NX TB k35,True)∧True)) (by kernel_rfl) ⟨fun _ _=>rfl,fun _=>trivial,fun _ _=>rfl,fun _=>trivial,trivial⟩
theorem ko5 {x:ket} {o:k1b} (h:k8g x o):k1c.Snd Try.prog x o:=
 Con.soundH (c:=k1c) (C:=k1v) TBok ⟨inf_ok,(all_cons kpq all_nil),all_nil⟩ mix Try.func56 (show Try.f56.body=some k3f by kernel_rfl) (show Try.f56.ntmps=56 by kernel_rfl) (show Try.f56.results.toList=k5p by kernel_rfl) rfl h (kod o)
theorem kpa {p1:Int} {p2:Int} {w0:List Int} {e0:List Int} (h:
(let v1:Int:=IntKind.i64.wrap ((IntKind.i64.wrap (p2-p1))-1)
(w0.length=w0.length)∧Md.Loop (p1,(0:Int),(IntKind.i64.wrap (p2-p1):Int),(IntKind.i64.wrap (Int.tdiv v1 2):Int),w0,()) (k5r (e0,())))):k8g (p1,p2,w0,()) (e0,()):=WPh.of_eq (by kernel_rfl) h
def kdz (e0:List Int) (k1:Int→List Int→Prop) (s6:Int) (s7:Int) (s8:Int) (s9:Int) (g0:List Int):Prop:=
(decide (0≤s9)=true→
(g0.length=g0.length)∧((0≤s9∧s9≤1099511627776)∧(0≤s8∧0≤s6∧s6+s8≤g0.length)∧g0.length≤1099511627776)∧(g0.length=(sdS g0 s9 s8 s6).length)∧k1 (IntKind.i64.wrap (s9-1):Int) ((sdS g0 s9 s8 s6):List Int))∧
(decide (0≤s9)=false→
(g0.length=g0.length)∧Md.Loop (s6,s7,(IntKind.i64.wrap (s8-1):Int),g0,()) (k5o (e0,())))
theorem ko9 {e0:List Int} {s6:Int} {s7:Int} {s8:Int} {s9:Int} {g0:List Int} (inv:Int→List Int→Prop) (μ:Int→List Int→Nat) (h0:inv s9 g0) (hs:∀(s9:Int) (g0:List Int),inv s9 g0→kdz e0 (fun s9q g0q=>inv s9q g0q∧μ s9q g0q<μ s9 g0) s6 s7 s8 s9 g0):Md.Loop (s6,s7,s8,s9,g0,()) (k5r (e0,())):=
 ⟨⟨fun s:Int×Int×Int×Int×(List Int)×Unit=>(s.1=s6∧s.2.1=s7∧s.2.2.1=s8)∧inv s.2.2.2.1 s.2.2.2.2.1,fun s:Int×Int×Int×Int×(List Int)×Unit=>μ s.2.2.2.1 s.2.2.2.2.1,⟨⟨rfl,rfl,rfl⟩,h0⟩,fun(s6p,s7p,s8p,s9p,g0p,()) ⟨⟨eq0,eq1,eq2⟩,hi⟩=>by
  have eq0:s6p=s6:=eq0;subst s6p;have eq1:s7p=s7:=eq1;subst s7p;have eq2:s8p=s8:=eq2;subst s8p;exact mpr_of (by kernel_rfl) ((congrArg (fun k=>kdz e0 k s6 s7 s8 s9p g0p) (lpk2 (⟨rfl,rfl,rfl⟩:s6=s6∧s7=s7∧s8=s8) inv (fun s9q g0q=>μ s9q g0q<μ s9p g0p))).mpr (hs s9p g0p hi))⟩⟩
def kdw (e0:List Int) (k2:Int→List Int→Prop) (s6:Int) (s7:Int) (s10:Int) (g0:List Int):Prop:=
(decide (0≤s10)=true→
(0≤IntKind.i64.wrap (s6+s10)∧IntKind.i64.wrap (s6+s10)<(g0.length:Int))∧(0≤IntKind.i64.wrap (s6+s10)∧IntKind.i64.wrap (s6+s10)<(g0.length:Int))∧(0≤s6∧s6<(g0.length:Int))∧(0≤s6∧s6<(g0.length:Int))∧(0≤s6∧s6<(g0.length:Int))∧(0≤s6∧s6<(g0.length:Int))∧(0≤IntKind.i64.wrap (s6+s10)∧IntKind.i64.wrap (s6+s10)<(g0.length:Int))∧(0≤IntKind.i64.wrap (s6+s10)∧IntKind.i64.wrap (s6+s10)<((g0.set s6.toNat (ix g0 (IntKind.i64.wrap (s6+s10)))).length:Int))∧(g0.length=((g0.set s6.toNat (ix g0 (IntKind.i64.wrap (s6+s10)))).set (IntKind.i64.wrap (s6+s10)).toNat (ix g0 s6)).length)∧((0≤s7∧s7≤1099511627776)∧(0≤s10∧0≤s6∧s6+s10≤((g0.set s6.toNat (ix g0 (IntKind.i64.wrap (s6+s10)))).set (IntKind.i64.wrap (s6+s10)).toNat (ix g0 s6)).length)∧((g0.set s6.toNat (ix g0 (IntKind.i64.wrap (s6+s10)))).set (IntKind.i64.wrap (s6+s10)).toNat (ix g0 s6)).length≤1099511627776)∧let r2:List Int:=(sdS ((g0.set s6.toNat (ix g0 (IntKind.i64.wrap (s6+s10)))).set (IntKind.i64.wrap (s6+s10)).toNat (ix g0 s6)) s7 s10 s6)
(g0.length=r2.length)∧k2 (IntKind.i64.wrap (s10-1):Int) r2)∧
(decide (0≤s10)=false→
 g0=e0)
theorem koc {e0:List Int} {s6:Int} {s7:Int} {s10:Int} {g0:List Int} (inv:Int→List Int→Prop) (μ:Int→List Int→Nat) (h0:inv s10 g0) (hs:∀(s10:Int) (g0:List Int),inv s10 g0→kdw e0 (fun s10q g0q=>inv s10q g0q∧μ s10q g0q<μ s10 g0) s6 s7 s10 g0):Md.Loop (s6,s7,s10,g0,()) (k5o (e0,())):=
 ⟨⟨fun s:Int×Int×Int×(List Int)×Unit=>(s.1=s6∧s.2.1=s7)∧inv s.2.2.1 s.2.2.2.1,fun s:Int×Int×Int×(List Int)×Unit=>μ s.2.2.1 s.2.2.2.1,⟨⟨rfl,rfl⟩,h0⟩,fun(s6p,s7p,s10p,g0p,()) ⟨⟨eq0,eq1⟩,hi⟩=>by
  have eq0:s6p=s6:=eq0;subst s6p;have eq1:s7p=s7:=eq1;subst s7p;exact mpr_of (by kernel_rfl) ((congrArg (fun k=>kdw e0 k s6 s7 s10p g0p) (lpk2 (⟨rfl,rfl⟩:s6=s6∧s7=s7) inv (fun s10q g0q=>μ s10q g0q<μ s10p g0p))).mpr (hs s10p g0p hi))⟩⟩
theorem bd56:Callable Try.prog 56:=⟨by rw[Try.func56];kernel_rfl,by rw[Try.func56];show some _≠some _;decide⟩
theorem knq (p1:Int) (p2:Int) (w0:List Int) (h:(0≤p1∧p1<p2∧p2≤w0.length)∧w0.length≤1099511627776):k8g (p1,p2,w0,()) (((heapS w0 p1 p2):List Int),()):=by
 obtain⟨⟨h1,h2,h3⟩,h4⟩:=h
 have e1:=wi (p2-p1) (by omega) (by omega)
 have e2:=wi (p2-p1-1) (by omega) (by omega)
 have e3:Int.tdiv (p2-p1-1) 2=(p2-p1-1)/2:=Int.tdiv_eq_ediv_of_nonneg (by omega)
 have e4:=wi ((p2-p1-1)/2) (by omega) (by omega)
 refine kpa ?_
 dsimp only
 rw[e1,e2,e3,e4]
 refine⟨rfl,?_⟩
 refine ko9 (fun i g=>(-1≤i∧i≤1099511627776)∧g.length=w0.length∧Sort.heapPop Sort.ltInt p1.toNat (p2-p1).toNat (Sort.heapBuild Sort.ltInt (p2-p1).toNat p1.toNat (i+1).toNat g.toArray)=Sort.heapSort Sort.ltInt w0.toArray p1.toNat p2.toNat) (fun i _=>(i+1).toNat) ⟨⟨by omega,by omega⟩,rfl,?_⟩ ?_
 ·unfold Sort.heapSort
  rw[show(p2-p1).toNat=p2.toNat-p1.toNat by omega,show((p2-p1-1)/2+1).toNat=(p2.toNat-p1.toNat-1)/2+1 by omega]
 rintro i g ⟨⟨g0,g1⟩,g2,g3⟩
 refine⟨fun hh=> ?_,fun hh=> ?_⟩
 ·have hh:=of_decide_eq_true hh
  rw[k1bc hh]at g3
  have hl:(sdS g i (p2-p1) p1).length=g.length:=sdS_len
  refine⟨rfl,⟨⟨by omega,by omega⟩,⟨by omega,by omega,by omega⟩,by omega⟩,?_⟩
  dsimp only
  rw[wi (i-1) (by omega) (by omega)]
  refine⟨hl.symm,⟨⟨by omega,by omega⟩,hl.trans g2,?_⟩,by omega⟩
  rw[show(i-1+1).toNat=i.toNat by omega]
  exact g3
 ·have hh:=of_decide_eq_false hh
  rw[show(i+1).toNat=0 by omega,Sort.heapBuild]at g3
  rw[e2]
  refine⟨rfl,?_⟩
  refine koc (fun i g=>(-1≤i∧i<p2-p1)∧g.length=w0.length∧Sort.heapPop Sort.ltInt p1.toNat (i+1).toNat g.toArray=Sort.heapSort Sort.ltInt w0.toArray p1.toNat p2.toNat) (fun i _=>(i+1).toNat) ⟨⟨by omega,by omega⟩,g2,by rw[show(p2-p1-1+1).toNat=(p2-p1).toNat by omega];exact g3⟩ ?_
  rintro i g ⟨⟨g0,g1⟩,g2,g3⟩
  refine⟨fun hh=> ?_,fun hh=> ?_⟩
  ·have hh:=of_decide_eq_true hh
   rw[k1f2 hh]at g3
   have w1:=wi (p1+i) (by omega) (by omega)
   rw[w1]
   have hs:=swp_arr (g:=g) (i:=p1) (j:=p1+i) (by omega) (by omega) (by omega) (by omega)
   rw[show p1.toNat+i.toNat=(p1+i).toNat by omega,hs]at g3
   have hl0:(swpL g p1 (p1+i)).length=g.length:=kms
   have hl:(sdS (swpL g p1 (p1+i)) 0 i p1).length=(swpL g p1 (p1+i)).length:=sdS_len
   refine⟨⟨by omega,by omega⟩,⟨by omega,by omega⟩,⟨by omega,by omega⟩,⟨by omega,by omega⟩,⟨by omega,by omega⟩,⟨by omega,by omega⟩,⟨by omega,by omega⟩,⟨by omega,by rw[List.length_set];omega⟩,by rw[List.length_set,List.length_set],⟨⟨by omega,by omega⟩,⟨by omega,by omega,?_⟩,?_⟩,?_⟩
   ·rw[List.length_set,List.length_set];omega
   ·rw[List.length_set,List.length_set];omega
   dsimp only
   rw[wi (i-1) (by omega) (by omega)]
   refine⟨(hl.trans hl0).symm,⟨⟨by omega,by omega⟩,(hl.trans hl0).trans g2,?_⟩,by omega⟩
   rw[show(i-1+1).toNat=i.toNat by omega]
   exact g3
  ·have hh:=of_decide_eq_false hh
   rw[show(i+1).toNat=0 by omega,Sort.heapPop]at g3
   unfold heapS
   rw[←g3]
noncomputable def kcz:Con TB.den:=k1c.fnR (fun x=>(fun(p1:Int) (p2:Int) (w0:List Int)=>(0≤p1∧p1<p2∧p2≤w0.length)∧w0.length≤1099511627776) x.1 x.2.1 x.2.2.1) fun x=>((fun(p1:Int) (p2:Int) (w0:List Int)=>((heapS w0 p1 p2):List Int)) x.1 x.2.1 x.2.2.1,())
theorem kpi:kcz.Ok Try.prog TB:=Con.ok_fn k1c bd56 fun x h=>ko5 (knq x.1 x.2.1 x.2.2.1 h)
def k18:Con TB.den:=Con.mk0 55 [.one (.row 0),.one (.d (.int .i64)),.one (.d (.int .i64))] [.vec (.int .i64)] (.tup []) [.vec (.int .i64)]
abbrev kbm:=HL TB.den (hsT k18.ins (hsOs k18.pre))
abbrev kx:=HL TB.den (hsV k18.res (hsOs k18.post))
noncomputable def k1l:Cx TB:=⟨inf,[k77],[],4,[]⟩
noncomputable def k2k:Code:=Try.f55.body.getD .skip
noncomputable def k5u:List ResultVar:=Try.f55.results.toList
def kky (o:kx):=blockT TB 0 (retTQ TB k1l k18 k5u o)
def kn:Tm:=⟨[0],[.vec (.int .i64)],[0,1,2,6],[.one (.row 0),.one (.d (.int .i64)),.one (.d (.int .i64)),.one (.d (.int .i64))],1⟩
def kaw (o:kx) (nx2:NX TB kn):=qM TB 1 kn nx2 (kky o)
def kl8 (o:kx) (nx2:NX TB kn):=qS TB k1l 49 1 (cB (cB (cA (cA (cB k2k))))) .no (kaw o nx2)
def klb (o:kx) (nx2:NX TB kn):=blockT TB 2 (blockT TB 1 (kl8 o nx2))
def k2a:Tm:=⟨[0],[.vec (.int .i64)],[0,1,2,6,7],[.one (.row 0),.one (.d (.int .i64)),.one (.d (.int .i64)),.one (.d (.int .i64)),.one (.d (.int .i64))],1⟩
def kla (o:kx) (nx2:NX TB kn) (nx1:NX TB k2a):=qM TB 1 k2a nx1 (klb o nx2)
def k43 (o:kx) (nx2:NX TB kn) (nx1:NX TB k2a) (i:HL TB.den k2a.hs):Prop:=WP TB k1l 49 1 (cA (cA (cB (cA (cA (cB (cA (cA (cB k2k))))))))) .no (k2a.fill TB i) (kla o nx2 nx1)
noncomputable def kkp (o:kx) (nx2:NX TB kn):An TB:= .lp [] k2a (k43 o nx2) fun nx1=> .no
noncomputable def kb0 (o:kx) (nx2:NX TB kn):An TB:= .nd [] (.nd [] .no [] (kkp o nx2)) [] .no
def k48 (o:kx) (nx2:NX TB kn) (i:HL TB.den kn.hs):Prop:=WP TB k1l 49 1 (cA (cA (cB k2k))) (.nd [] .no [] (kb0 o nx2)) (kn.fill TB i) (kaw o nx2)
noncomputable def kjd (o:kx):An TB:= .lp [] kn (k48 o) fun nx2=>(.nd [] .no [] (kb0 o nx2))
noncomputable def kax (o:kx):An TB:= .nd [] .no [] (kjd o)
def k7a (x:kbm) (o:kx):Prop:=WPh TB k1l 49 1 k2k (kax o) (k18.st TB x) (retTQ TB k1l k18 k5u o)
theorem kjj (o:kx):OblH TB k1l 49 1 k2k (kax o) (retTQ TB k1l k18 k5u o):=
 OblH.ofC (X:=((∀nx i,(k48 o) nx i=(k48 o) nx i)∧(∀nx2:NX TB kn,((∀nx i,(k43 o nx2) nx i=(k43 o nx2) nx i)∧(∀nx1:NX TB k2a,True)∧True))∧True)) (by kernel_rfl) ⟨fun _ _=>rfl,fun _=>⟨fun _ _=>rfl,fun _=>trivial,trivial⟩,trivial⟩
theorem kjg {x:kbm} {o:kx} (h:k7a x o):k18.Snd Try.prog x o:=
 Con.soundH (c:=k18) (C:=k1l) TBok ⟨inf_ok,(all_cons k8q all_nil),all_nil⟩ mix Try.func55 (show Try.f55.body=some k2k by kernel_rfl) (show Try.f55.ntmps=49 by kernel_rfl) (show Try.f55.results.toList=k5u by kernel_rfl) rfl h (kjj o)
theorem kkx {p1:Int} {p2:Int} {w0:List Int} {e0:List Int} (h:
((w0.length=w0.length)∧Md.Loop (p1,p2,(IntKind.i64.wrap (p1+1):Int),w0,()) (k48 (e0,())))):k7a (p1,p2,w0,()) (e0,()):=WPh.of_eq (by kernel_rfl) h
def kat (e0:List Int) (nx2:NX TB kn) (k2:Int→List Int→Prop) (s1:Int) (s2:Int) (s6:Int) (g0:List Int):Prop:=
(decide (s6<s2)=true→
(g0.length=g0.length)∧Md.Loop (s1,s2,s6,s6,g0,()) (k43 (e0,()) nx2))∧
(decide (s6<s2)=false→
 g0=e0)
theorem kji {e0:List Int} {s1:Int} {s2:Int} {s6:Int} {g0:List Int} (inv:Int→List Int→Prop) (μ:Int→List Int→Nat) (h0:inv s6 g0) (hs:∀(s6:Int) (g0:List Int),inv s6 g0→kat e0 (fun s:Int×Int×Int×(List Int)×Unit=>((s.1=s1∧s.2.1=s2)∧inv s.2.2.1 s.2.2.2.1)∧μ s.2.2.1 s.2.2.2.1<μ s6 g0) (fun s6q g0q=>inv s6q g0q∧μ s6q g0q<μ s6 g0) s1 s2 s6 g0):Md.Loop (s1,s2,s6,g0,()) (k48 (e0,())):=
 ⟨⟨fun s:Int×Int×Int×(List Int)×Unit=>(s.1=s1∧s.2.1=s2)∧inv s.2.2.1 s.2.2.2.1,fun s:Int×Int×Int×(List Int)×Unit=>μ s.2.2.1 s.2.2.2.1,⟨⟨rfl,rfl⟩,h0⟩,fun(s1p,s2p,s6p,g0p,()) ⟨⟨eq0,eq1⟩,hi⟩=>by
  have eq0:s1p=s1:=eq0;subst s1p;have eq1:s2p=s2:=eq1;subst s2p;exact mpr_of (by kernel_rfl) ((congrArg (fun k=>kat e0 (fun s:Int×Int×Int×(List Int)×Unit=>((s.1=s1∧s.2.1=s2)∧inv s.2.2.1 s.2.2.2.1)∧μ s.2.2.1 s.2.2.2.1<μ s6p g0p) k s1 s2 s6p g0p) (lpk2 (⟨rfl,rfl⟩:s1=s1∧s2=s2) inv (fun s6q g0q=>μ s6q g0q<μ s6p g0p))).mpr (hs s6p g0p hi))⟩⟩
def kau (e0:List Int) (nx2:NX TB kn) (k1:Int→List Int→Prop) (s1:Int) (s2:Int) (s6:Int) (s7:Int) (g0:List Int):Prop:=
(decide (s1<s7)=true→
(0≤s7∧s7<(g0.length:Int))∧(0≤s7∧s7<(g0.length:Int))∧(0≤IntKind.i64.wrap (s7-1)∧IntKind.i64.wrap (s7-1)<(g0.length:Int))∧(0≤IntKind.i64.wrap (s7-1)∧IntKind.i64.wrap (s7-1)<(g0.length:Int))∧let r1:Bool:=(decide ((ix g0 s7)<(ix g0 (IntKind.i64.wrap (s7-1)))))
(r1=true→
(0≤IntKind.i64.wrap (s7-1)∧IntKind.i64.wrap (s7-1)<(g0.length:Int))∧(0≤IntKind.i64.wrap (s7-1)∧IntKind.i64.wrap (s7-1)<(g0.length:Int))∧(0≤s7∧s7<(g0.length:Int))∧(0≤s7∧s7<(g0.length:Int))∧(0≤s7∧s7<(g0.length:Int))∧(0≤s7∧s7<(g0.length:Int))∧(0≤IntKind.i64.wrap (s7-1)∧IntKind.i64.wrap (s7-1)<(g0.length:Int))∧(0≤IntKind.i64.wrap (s7-1)∧IntKind.i64.wrap (s7-1)<((g0.set s7.toNat (ix g0 (IntKind.i64.wrap (s7-1)))).length:Int))∧(g0.length=((g0.set s7.toNat (ix g0 (IntKind.i64.wrap (s7-1)))).set (IntKind.i64.wrap (s7-1)).toNat (ix g0 s7)).length)∧k1 (IntKind.i64.wrap (s7-1):Int) ((g0.set s7.toNat (ix g0 (IntKind.i64.wrap (s7-1)))).set (IntKind.i64.wrap (s7-1)).toNat (ix g0 s7):List Int))∧
(r1=false→
(g0.length=g0.length)∧nx2 (s1,s2,(IntKind.i64.wrap (s6+1):Int),g0,())))∧
(decide (s1<s7)=false→
(g0.length=g0.length)∧nx2 (s1,s2,(IntKind.i64.wrap (s6+1):Int),g0,()))
theorem kk3 {e0:List Int} {nx2:NX TB kn} {s1:Int} {s2:Int} {s6:Int} {s7:Int} {g0:List Int} (inv:Int→List Int→Prop) (μ:Int→List Int→Nat) (h0:inv s7 g0) (hs:∀(s7:Int) (g0:List Int),inv s7 g0→kau e0 nx2 (fun s7q g0q=>inv s7q g0q∧μ s7q g0q<μ s7 g0) s1 s2 s6 s7 g0):Md.Loop (s1,s2,s6,s7,g0,()) (k43 (e0,()) nx2):=
 ⟨⟨fun s:Int×Int×Int×Int×(List Int)×Unit=>(s.1=s1∧s.2.1=s2∧s.2.2.1=s6)∧inv s.2.2.2.1 s.2.2.2.2.1,fun s:Int×Int×Int×Int×(List Int)×Unit=>μ s.2.2.2.1 s.2.2.2.2.1,⟨⟨rfl,rfl,rfl⟩,h0⟩,fun(s1p,s2p,s6p,s7p,g0p,()) ⟨⟨eq0,eq1,eq2⟩,hi⟩=>by
  have eq0:s1p=s1:=eq0;subst s1p;have eq1:s2p=s2:=eq1;subst s2p;have eq2:s6p=s6:=eq2;subst s6p;exact mpr_of (by kernel_rfl) ((congrArg (fun k=>kau e0 nx2 k s1 s2 s6 s7p g0p) (lpk2 (⟨rfl,rfl,rfl⟩:s1=s1∧s2=s2∧s6=s6) inv (fun s7q g0q=>μ s7q g0q<μ s7p g0p))).mpr (hs s7p g0p hi))⟩⟩
theorem bd55:Callable Try.prog 55:=⟨by rw[Try.func55];kernel_rfl,by rw[Try.func55];show some _≠some _;decide⟩
theorem kj0 (p1:Int) (p2:Int) (w0:List Int) (h:(0≤p1∧p1≤p2∧p2≤w0.length)∧w0.length≤1099511627776):k7a (p1,p2,w0,()) (((insS w0 p1 p2):List Int),()):=by
 obtain⟨⟨h1,h2,h3⟩,h4⟩:=h
 refine kkx ⟨rfl,?_⟩
 rw[wi (p1+1) (by omega) (by omega)]
 refine kji (fun i g=>(p1+1≤i∧i≤1099511627777)∧g.length=w0.length∧Sort.insOuter Sort.ltInt p1.toNat p2.toNat i.toNat g.toArray=Sort.insertionSort Sort.ltInt w0.toArray p1.toNat p2.toNat) (fun i _=>(1099511627778-i).toNat) ⟨⟨by omega,by omega⟩,rfl,by unfold Sort.insertionSort;rw[show(p1+1).toNat=p1.toNat+1 by omega]⟩ ?_
 rintro i g ⟨⟨g0,g1⟩,g2,g3⟩
 refine⟨fun hh=> ?_,fun hh=> ?_⟩
 ·have hh:=of_decide_eq_true hh
  refine⟨rfl,?_⟩
  rw[k1ed (by omega) hh]at g3
  refine kk3 (fun j g' =>(p1≤j∧j≤i)∧g'.length=w0.length∧Sort.insInner Sort.ltInt p1.toNat j.toNat g'.toArray=Sort.insInner Sort.ltInt p1.toNat i.toNat g.toArray) (fun j _=>j.toNat) ⟨⟨by omega,by omega⟩,g2,rfl⟩ ?_
  rintro j g' ⟨⟨k0,k1⟩,k2,k3⟩
  have nxt:g'.toArray=Sort.insInner Sort.ltInt p1.toNat i.toNat g.toArray→((p1+1≤IntKind.i64.wrap (i+1)∧IntKind.i64.wrap (i+1)≤1099511627777)∧g'.length=w0.length∧Sort.insOuter Sort.ltInt p1.toNat p2.toNat (IntKind.i64.wrap (i+1)).toNat g'.toArray=Sort.insertionSort Sort.ltInt w0.toArray p1.toNat p2.toNat)∧(1099511627778-IntKind.i64.wrap (i+1)).toNat<(1099511627778-i).toNat:=by
   intro e
   rw[wi (i+1) (by omega) (by omega),e]
   exact⟨⟨⟨by omega,by omega⟩,k2,g3⟩,by omega⟩
  refine⟨fun h2=> ?_,fun h2=> ?_⟩
  ·have h2:=of_decide_eq_true h2
   rw[wi (j-1) (by omega) (by omega)]
   rw[k1dd h1 h2 (by omega)]at k3
   refine⟨⟨by omega,by omega⟩,⟨by omega,by omega⟩,⟨by omega,by omega⟩,⟨by omega,by omega⟩,fun h5=> ?_,fun h5=> ?_⟩
   ·have h5:=of_decide_eq_true h5
    rw[if_pos h5]at k3
    exact⟨⟨by omega,by omega⟩,⟨by omega,by omega⟩,⟨by omega,by omega⟩,⟨by omega,by omega⟩,⟨by omega,by omega⟩,⟨by omega,by omega⟩,⟨by omega,by omega⟩,⟨by omega,by rw[List.length_set];omega⟩,by rw[List.length_set,List.length_set],⟨⟨by omega,by omega⟩,by rw[List.length_set,List.length_set];exact k2,k3⟩,by omega⟩
   ·have h5:=of_decide_eq_false h5
    rw[if_neg h5]at k3
    exact⟨rfl,⟨⟨rfl,rfl⟩,(nxt k3).1⟩,(nxt k3).2⟩
  ·have h2:=of_decide_eq_false h2
   rw[k1b2 h2]at k3
   exact⟨rfl,⟨⟨rfl,rfl⟩,(nxt k3).1⟩,(nxt k3).2⟩
 ·have hh:=of_decide_eq_false hh
  rw[k1ca (by omega) hh]at g3
  unfold insS
  rw[←g3]
noncomputable def kaf:Con TB.den:=k18.fnR (fun x=>(fun(p1:Int) (p2:Int) (w0:List Int)=>(0≤p1∧p1≤p2∧p2≤w0.length)∧w0.length≤1099511627776) x.1 x.2.1 x.2.2.1) fun x=>((fun(p1:Int) (p2:Int) (w0:List Int)=>((insS w0 p1 p2):List Int)) x.1 x.2.1 x.2.2.1,())
theorem kkn:kaf.Ok Try.prog TB:=Con.ok_fn k18 bd55 fun x h=>kjg (kj0 x.1 x.2.1 x.2.2.1 h)
def ko:Con TB.den:=Con.mk0 60 [.one (.row 0),.one (.d (.int .i64)),.one (.d (.int .i64))] [.vec (.int .i64)] (.one (.one (.d (.bool)))) [.vec (.int .i64)]
abbrev k8y:=HL TB.den (hsT ko.ins (hsOs ko.pre))
abbrev kb:=HL TB.den (hsV ko.res (hsOs ko.post))
noncomputable def kk:Cx TB:=⟨inf,[k77],[],4,[]⟩
noncomputable def kq:Code:=Try.f60.body.getD .skip
noncomputable def k40:List ResultVar:=Try.f60.results.toList
def kfw (o:kb):=qS TB kk 133 1 (cB (cB (cB kq))) .no (retTQ TB kk ko k40 o)
def ka:Tm:=⟨[0],[.vec (.int .i64)],[0,1,2,7,8],[.one (.row 0),.one (.d (.int .i64)),.one (.d (.int .i64)),.one (.d (.int .i64)),.one (.d (.int .i64))],1⟩
def k8n (o:kb) (nx2:NX TB ka):=qM TB 1 ka nx2 (blockT TB 0 (kfw o))
def kfs (o:kb) (nx2:NX TB ka):=qS TB kk 133 1 (cB (cB (cA (cA (cB (cA (cB (cB kq)))))))) .no (k8n o nx2)
def k2q (o:kb) (nx2:NX TB ka):=blockT TB 1 (kfs o nx2)
def kfr (o:kb) (nx2:NX TB ka):=blockT TB 6 (k2q o nx2)
def k1o:Tm:=⟨[0],[.vec (.int .i64)],[0,1,2,7,8,10],[.one (.row 0),.one (.d (.int .i64)),.one (.d (.int .i64)),.one (.d (.int .i64)),.one (.d (.int .i64)),.one (.d (.int .i64))],137⟩
def kfv (o:kb) (nx2:NX TB ka) (nx4:NX TB k1o):=qM TB 1 k1o nx4 (kfr o nx2)
def k2o (o:kb) (nx2:NX TB ka) (nx4:NX TB k1o) (i:HL TB.den k1o.hs):Prop:=WP TB kk 133 1 (cA (cA (cB (cA (cB (cB (cB (cB (cB (cB (cA (cA (cB (cA (cA (cB (cA (cB (cB kq))))))))))))))))))) .no (k1o.fill TB i) (kfv o nx2 nx4)
noncomputable def kef (o:kb) (nx2:NX TB ka):An TB:= .lp [] k1o (k2o o nx2) fun nx4=> .no
noncomputable def kfm (o:kb) (nx2:NX TB ka):An TB:= .nd [] .no [] (kef o nx2)
noncomputable def kfj (o:kb) (nx2:NX TB ka):An TB:= .nd [] (kfm o nx2) [] .no
noncomputable def k8c (o:kb) (nx2:NX TB ka):An TB:= .nd [] .no [] (kfj o nx2)
def k2l:Tm:=⟨[0],[.vec (.int .i64)],[0,1,2,7,8],[.one (.row 0),.one (.d (.int .i64)),.one (.d (.int .i64)),.one (.d (.int .i64)),.one (.d (.int .i64))],137⟩
def k8a (o:kb) (nx2:NX TB ka) (i:HL TB.den k2l.hs):Prop:=ghs TB [] (k2l.fill TB i) fun s=>WP TB kk 133 1 (cB (cB (cB (cB (cB (cA (cA (cB (cA (cA (cB (cA (cB (cB kq)))))))))))))) (k8c o nx2) s (k2q o nx2)
structure k1j (o:kb) (nx2:NX TB ka) (i:HL TB.den k2l.hs):Prop where
 h:k8a o nx2 i
def kf8 (o:kb) (nx2:NX TB ka):=qM TB 1 k2l (k1j o nx2) (k2q o nx2)
def kfn (o:kb) (nx2:NX TB ka):=blockT TB 4 (kf8 o nx2)
def k1p:Tm:=⟨[0],[.vec (.int .i64)],[0,1,2,7,8,9],[.one (.row 0),.one (.d (.int .i64)),.one (.d (.int .i64)),.one (.d (.int .i64)),.one (.d (.int .i64)),.one (.d (.int .i64))],137⟩
def kez (o:kb) (nx2:NX TB ka) (nx3:NX TB k1p):=qM TB 1 k1p nx3 (kfn o nx2)
def k2r (o:kb) (nx2:NX TB ka) (nx3:NX TB k1p) (i:HL TB.den k1p.hs):Prop:=WP TB kk 133 1 (cA (cA (cB (cA (cB (cA (cB (cB (cB (cB (cA (cA (cB (cA (cA (cB (cA (cB (cB kq))))))))))))))))))) .no (k1p.fill TB i) (kez o nx2 nx3)
noncomputable def kek (o:kb) (nx2:NX TB ka):An TB:= .lp [] k1p (k2r o nx2) fun nx3=> .no
noncomputable def kex (o:kb) (nx2:NX TB ka):An TB:= .nd [] .no [] (kek o nx2)
noncomputable def kfi (o:kb) (nx2:NX TB ka):An TB:= .nd [] (kex o nx2) [] .no
noncomputable def kfk (o:kb) (nx2:NX TB ka):An TB:= .nd [] .no [] (kfi o nx2)
noncomputable def kee (o:kb) (nx2:NX TB ka):An TB:= .jn k2l (k1j o nx2) [] (kfk o nx2) [] (k8c o nx2)
noncomputable def kfb (o:kb) (nx2:NX TB ka):An TB:= .nd [] .no [] (kee o nx2)
noncomputable def kf0 (o:kb) (nx2:NX TB ka):An TB:= .nd [] .no [] (kfb o nx2)
noncomputable def k8e (o:kb) (nx2:NX TB ka):An TB:= .nd [] .no [] (kf0 o nx2)
def k2m:Tm:=⟨[0],[.vec (.int .i64)],[0,1,2,7,8],[.one (.row 0),.one (.d (.int .i64)),.one (.d (.int .i64)),.one (.d (.int .i64)),.one (.d (.int .i64))],65⟩
def k8b (o:kb) (nx2:NX TB ka) (i:HL TB.den k2m.hs):Prop:=ghs TB [] (k2m.fill TB i) fun s=>WP TB kk 133 1 (cB (cA (cA (cB (cA (cA (cB (cA (cB (cB kq)))))))))) (k8e o nx2) s (k2q o nx2)
structure k1q (o:kb) (nx2:NX TB ka) (i:HL TB.den k2m.hs):Prop where
 h:k8b o nx2 i
def ked (o:kb) (nx2:NX TB ka):=qM TB 1 k2m (k1q o nx2) (k2q o nx2)
def ken (o:kb) (nx2:NX TB ka):=blockT TB 2 (ked o nx2)
def k1r:Tm:=⟨[0],[.vec (.int .i64)],[0,1,2,7,8],[.one (.row 0),.one (.d (.int .i64)),.one (.d (.int .i64)),.one (.d (.int .i64)),.one (.d (.int .i64))],1⟩
def kem (o:kb) (nx2:NX TB ka) (nx1:NX TB k1r):=qM TB 1 k1r nx1 (ken o nx2)
def k2p (o:kb) (nx2:NX TB ka) (nx1:NX TB k1r) (i:HL TB.den k1r.hs):Prop:=WP TB kk 133 1 (cA (cA (cA (cA (cA (cB (cA (cA (cB (cA (cB (cB kq)))))))))))) .no (k1r.fill TB i) (kem o nx2 nx1)
noncomputable def keb (o:kb) (nx2:NX TB ka):An TB:= .lp [] k1r (k2p o nx2) fun nx1=> .no
noncomputable def kfq (o:kb) (nx2:NX TB ka):An TB:= .jn k2m (k1q o nx2) [] (keb o nx2) [] (k8e o nx2)
noncomputable def kec (o:kb) (nx2:NX TB ka):An TB:= .nd [] (kfq o nx2) [] .no
noncomputable def k89 (o:kb) (nx2:NX TB ka):An TB:= .nd [] .no [] (kec o nx2)
def k2s (o:kb) (nx2:NX TB ka) (i:HL TB.den ka.hs):Prop:=WP TB kk 133 1 (cA (cA (cB (cA (cB (cB kq)))))) (k89 o nx2) (ka.fill TB i) (k8n o nx2)
noncomputable def ker (o:kb):An TB:= .lp [] ka (k2s o) fun nx2=>(k89 o nx2)
noncomputable def keg (o:kb):An TB:= .nd [] (.nd [] .no [] (ker o)) [] .no
noncomputable def k8o (o:kb):An TB:= .nd [] .no [] (.nd [] .no [] (keg o))
def k5t (x:k8y) (o:kb):Prop:=WPh TB kk 133 1 kq (k8o o) (ko.st TB x) (retTQ TB kk ko k40 o)
theorem kf1 (o:kb):OblH TB kk 133 1 kq (k8o o) (retTQ TB kk ko k40 o):=
 OblH.ofC (X:=((∀nx i,(k2s o) nx i=(k2s o) nx i)∧(∀nx2:NX TB ka,((∀nx i,(k2p o nx2) nx i=(k2p o nx2) nx i)∧(∀nx1:NX TB k1r,True)∧(∀i,(k1q o nx2) i=k8b o nx2 i)∧(∀nx i,(k2r o nx2) nx i=(k2r o nx2) nx i)∧(∀nx3:NX TB k1p,True)∧(∀i,(k1j o nx2) i=k8a o nx2 i)∧(∀nx i,(k2o o nx2) nx i=(k2o o nx2) nx i)∧(∀nx4:NX TB k1o,True)∧True))∧True)) (by kernel_rfl) ⟨fun _ _=>rfl,fun _=>⟨fun _ _=>rfl,fun _=>trivial,fun _=>propext ⟨fun h=>h.1,fun h=>⟨h⟩⟩,fun _ _=>rfl,fun _=>trivial,fun _=>propext ⟨fun h=>h.1,fun h=>⟨h⟩⟩,fun _ _=>rfl,fun _=>trivial,trivial⟩,trivial⟩
theorem ke8 {x:k8y} {o:kb} (h:k5t x o):ko.Snd Try.prog x o:=
 Con.soundH (c:=ko) (C:=kk) TBok ⟨inf_ok,(all_cons k8q all_nil),all_nil⟩ mix Try.func60 (show Try.f60.body=some kq by kernel_rfl) (show Try.f60.ntmps=133 by kernel_rfl) (show Try.f60.results.toList=k40 by kernel_rfl) rfl h (kf1 o)
theorem kft {p1:Int} {p2:Int} {w0:List Int} {r0:Bool} {e0:List Int} (h:
((w0.length=w0.length)∧Md.Loop (p1,p2,(IntKind.i64.wrap (p1+1):Int),(0:Int),w0,()) (k2s (r0,e0,())))):k5t (p1,p2,w0,()) (r0,e0,()):=WPh.of_eq (by kernel_rfl) h
theorem kdh {r0:Bool} {e0:List Int} {nx2:NX TB ka} {s1:Int} {s2:Int} {s7:Int} {s8:Int} {g0:List Int} (h:
(((s7==s2)=true→
 true=r0∧g0=e0)∧
((s7==s2)=false→
 let v2:Bool:=decide ((IntKind.i64.wrap (s2-s1))<50)
(v2=true→
 false=r0∧g0=e0)∧
(v2=false→
(0≤IntKind.i64.wrap (s7-1)∧IntKind.i64.wrap (s7-1)<(g0.length:Int))∧(0≤IntKind.i64.wrap (s7-1)∧IntKind.i64.wrap (s7-1)<(g0.length:Int))∧(0≤s7∧s7<(g0.length:Int))∧(0≤s7∧s7<(g0.length:Int))∧(0≤s7∧s7<(g0.length:Int))∧(0≤s7∧s7<(g0.length:Int))∧(0≤IntKind.i64.wrap (s7-1)∧IntKind.i64.wrap (s7-1)<(g0.length:Int))∧(0≤IntKind.i64.wrap (s7-1)∧IntKind.i64.wrap (s7-1)<((g0.set s7.toNat (ix g0 (IntKind.i64.wrap (s7-1)))).length:Int))∧let v3:Bool:=decide (2≤(IntKind.i64.wrap (s7-s1)))
(v3=true→
(g0.length=((g0.set s7.toNat (ix g0 (IntKind.i64.wrap (s7-1)))).set (IntKind.i64.wrap (s7-1)).toNat (ix g0 s7)).length)∧Md.Loop (s1,s2,s7,s8,(IntKind.i64.wrap (s7-1):Int),((g0.set s7.toNat (ix g0 (IntKind.i64.wrap (s7-1)))).set (IntKind.i64.wrap (s7-1)).toNat (ix g0 s7):List Int),()) (k2r (r0,e0,()) nx2))∧
(v3=false→
(g0.length=((g0.set s7.toNat (ix g0 (IntKind.i64.wrap (s7-1)))).set (IntKind.i64.wrap (s7-1)).toNat (ix g0 s7)).length)∧k1j (r0,e0,()) nx2 (s1,s2,s7,s8,((g0.set s7.toNat (ix g0 (IntKind.i64.wrap (s7-1)))).set (IntKind.i64.wrap (s7-1)).toNat (ix g0 s7):List Int),())))))):k1q (r0,e0,()) nx2 (s1,s2,s7,s8,g0,()):=⟨mpr_of (by kernel_rfl) h⟩
theorem kdg {r0:Bool} {e0:List Int} {nx2:NX TB ka} {s1:Int} {s2:Int} {s7:Int} {s8:Int} {g0:List Int} (h:
(let v5:Bool:=decide (2≤(IntKind.i64.wrap (s2-s7)))
(v5=true→
(g0.length=g0.length)∧Md.Loop (s1,s2,s7,s8,(IntKind.i64.wrap (s7+1):Int),g0,()) (k2o (r0,e0,()) nx2))∧
(v5=false→
(g0.length=g0.length)∧nx2 (s1,s2,s7,(IntKind.i64.wrap (s8+1):Int),g0,())))):k1j (r0,e0,()) nx2 (s1,s2,s7,s8,g0,()):=⟨mpr_of (by kernel_rfl) h⟩
def k8m (r0:Bool) (e0:List Int) (nx2:NX TB ka) (k2:Int→Int→List Int→Prop) (s1:Int) (s2:Int) (s7:Int) (s8:Int) (g0:List Int):Prop:=
(decide (s8<5)=true→
(g0.length=g0.length)∧Md.Loop (s1,s2,s7,s8,g0,()) (k2p (r0,e0,()) nx2))∧
(decide (s8<5)=false→
 false=r0∧g0=e0)
theorem kfo {r0:Bool} {e0:List Int} {s1:Int} {s2:Int} {s7:Int} {s8:Int} {g0:List Int} (inv:Int→Int→List Int→Prop) (μ:Int→Int→List Int→Nat) (h0:inv s7 s8 g0) (hs:∀(s7:Int) (s8:Int) (g0:List Int),inv s7 s8 g0→k8m r0 e0 (fun s:Int×Int×Int×Int×(List Int)×Unit=>((s.1=s1∧s.2.1=s2)∧inv s.2.2.1 s.2.2.2.1 s.2.2.2.2.1)∧μ s.2.2.1 s.2.2.2.1 s.2.2.2.2.1<μ s7 s8 g0) (fun s7q s8q g0q=>inv s7q s8q g0q∧μ s7q s8q g0q<μ s7 s8 g0) s1 s2 s7 s8 g0):Md.Loop (s1,s2,s7,s8,g0,()) (k2s (r0,e0,())):=
 ⟨⟨fun s:Int×Int×Int×Int×(List Int)×Unit=>(s.1=s1∧s.2.1=s2)∧inv s.2.2.1 s.2.2.2.1 s.2.2.2.2.1,fun s:Int×Int×Int×Int×(List Int)×Unit=>μ s.2.2.1 s.2.2.2.1 s.2.2.2.2.1,⟨⟨rfl,rfl⟩,h0⟩,fun(s1p,s2p,s7p,s8p,g0p,()) ⟨⟨eq0,eq1⟩,hi⟩=>by
  have eq0:s1p=s1:=eq0;subst s1p;have eq1:s2p=s2:=eq1;subst s2p;exact mpr_of (by kernel_rfl) ((congrArg (fun k=>k8m r0 e0 (fun s:Int×Int×Int×Int×(List Int)×Unit=>((s.1=s1∧s.2.1=s2)∧inv s.2.2.1 s.2.2.2.1 s.2.2.2.2.1)∧μ s.2.2.1 s.2.2.2.1 s.2.2.2.2.1<μ s7p s8p g0p) k s1 s2 s7p s8p g0p) (lpk3 (⟨rfl,rfl⟩:s1=s1∧s2=s2) inv (fun s7q s8q g0q=>μ s7q s8q g0q<μ s7p s8p g0p))).mpr (hs s7p s8p g0p hi))⟩⟩
def k8l (r0:Bool) (e0:List Int) (nx2:NX TB ka) (k1:Int→Prop) (s1:Int) (s2:Int) (s8:Int) (g0:List Int) (s7:Int):Prop:=
(decide (s7<s2)=true→
(0≤s7∧s7<(g0.length:Int))∧(0≤s7∧s7<(g0.length:Int))∧(0≤IntKind.i64.wrap (s7-1)∧IntKind.i64.wrap (s7-1)<(g0.length:Int))∧(0≤IntKind.i64.wrap (s7-1)∧IntKind.i64.wrap (s7-1)<(g0.length:Int))∧let r1:Bool:=(decide ((ix g0 s7)<(ix g0 (IntKind.i64.wrap (s7-1)))))
((!r1)=true→
(g0.length=g0.length)∧k1 (IntKind.i64.wrap (s7+1):Int))∧
((!r1)=false→
(g0.length=g0.length)∧k1q (r0,e0,()) nx2 (s1,s2,s7,s8,g0,())))∧
(decide (s7<s2)=false→
(g0.length=g0.length)∧k1q (r0,e0,()) nx2 (s1,s2,s7,s8,g0,()))
theorem kfa {r0:Bool} {e0:List Int} {nx2:NX TB ka} {s1:Int} {s2:Int} {s8:Int} {g0:List Int} {s7:Int} (inv:Int→Prop) (μ:Int→Nat) (h0:inv s7) (hs:∀(s7:Int),inv s7→k8l r0 e0 nx2 (fun s7q=>inv s7q∧μ s7q<μ s7) s1 s2 s8 g0 s7):Md.Loop (s1,s2,s7,s8,g0,()) (k2p (r0,e0,()) nx2):=
 ⟨⟨fun s:Int×Int×Int×Int×(List Int)×Unit=>(s.1=s1∧s.2.1=s2∧s.2.2.2.1=s8∧s.2.2.2.2.1=g0)∧inv s.2.2.1,fun s:Int×Int×Int×Int×(List Int)×Unit=>μ s.2.2.1,⟨⟨rfl,rfl,rfl,rfl⟩,h0⟩,fun(s1p,s2p,s7p,s8p,g0p,()) ⟨⟨eq0,eq1,eq2,eq3⟩,hi⟩=>by
  have eq0:s1p=s1:=eq0;subst s1p;have eq1:s2p=s2:=eq1;subst s2p;have eq2:s8p=s8:=eq2;subst s8p;have eq3:g0p=g0:=eq3;subst g0p;exact mpr_of (by kernel_rfl) ((congrArg (fun k=>k8l r0 e0 nx2 k s1 s2 s8 g0 s7p) (lpk1 (⟨rfl,rfl,rfl,rfl⟩:s1=s1∧s2=s2∧s8=s8∧g0=g0) inv (fun s7q=>μ s7q<μ s7p))).mpr (hs s7p hi))⟩⟩
def k8j (r0:Bool) (e0:List Int) (nx2:NX TB ka) (k3:Int→List Int→Prop) (s1:Int) (s2:Int) (s7:Int) (s8:Int) (s9:Int) (g0:List Int):Prop:=
(decide (1≤s9)=true→
(0≤s9∧s9<(g0.length:Int))∧(0≤s9∧s9<(g0.length:Int))∧(0≤IntKind.i64.wrap (s9-1)∧IntKind.i64.wrap (s9-1)<(g0.length:Int))∧(0≤IntKind.i64.wrap (s9-1)∧IntKind.i64.wrap (s9-1)<(g0.length:Int))∧let r4:Bool:=(decide ((ix g0 s9)<(ix g0 (IntKind.i64.wrap (s9-1)))))
((!r4)=true→
(g0.length=g0.length)∧k1j (r0,e0,()) nx2 (s1,s2,s7,s8,g0,()))∧
((!r4)=false→
(0≤IntKind.i64.wrap (s9-1)∧IntKind.i64.wrap (s9-1)<(g0.length:Int))∧(0≤IntKind.i64.wrap (s9-1)∧IntKind.i64.wrap (s9-1)<(g0.length:Int))∧(0≤s9∧s9<(g0.length:Int))∧(0≤s9∧s9<(g0.length:Int))∧(0≤s9∧s9<(g0.length:Int))∧(0≤s9∧s9<(g0.length:Int))∧(0≤IntKind.i64.wrap (s9-1)∧IntKind.i64.wrap (s9-1)<(g0.length:Int))∧(0≤IntKind.i64.wrap (s9-1)∧IntKind.i64.wrap (s9-1)<((g0.set s9.toNat (ix g0 (IntKind.i64.wrap (s9-1)))).length:Int))∧(g0.length=((g0.set s9.toNat (ix g0 (IntKind.i64.wrap (s9-1)))).set (IntKind.i64.wrap (s9-1)).toNat (ix g0 s9)).length)∧k3 (IntKind.i64.wrap (s9-1):Int) ((g0.set s9.toNat (ix g0 (IntKind.i64.wrap (s9-1)))).set (IntKind.i64.wrap (s9-1)).toNat (ix g0 s9):List Int)))∧
(decide (1≤s9)=false→
(g0.length=g0.length)∧k1j (r0,e0,()) nx2 (s1,s2,s7,s8,g0,()))
theorem ke9 {r0:Bool} {e0:List Int} {nx2:NX TB ka} {s1:Int} {s2:Int} {s7:Int} {s8:Int} {s9:Int} {g0:List Int} (inv:Int→List Int→Prop) (μ:Int→List Int→Nat) (h0:inv s9 g0) (hs:∀(s9:Int) (g0:List Int),inv s9 g0→k8j r0 e0 nx2 (fun s9q g0q=>inv s9q g0q∧μ s9q g0q<μ s9 g0) s1 s2 s7 s8 s9 g0):Md.Loop (s1,s2,s7,s8,s9,g0,()) (k2r (r0,e0,()) nx2):=
 ⟨⟨fun s:Int×Int×Int×Int×Int×(List Int)×Unit=>(s.1=s1∧s.2.1=s2∧s.2.2.1=s7∧s.2.2.2.1=s8)∧inv s.2.2.2.2.1 s.2.2.2.2.2.1,fun s:Int×Int×Int×Int×Int×(List Int)×Unit=>μ s.2.2.2.2.1 s.2.2.2.2.2.1,⟨⟨rfl,rfl,rfl,rfl⟩,h0⟩,fun(s1p,s2p,s7p,s8p,s9p,g0p,()) ⟨⟨eq0,eq1,eq2,eq3⟩,hi⟩=>by
  have eq0:s1p=s1:=eq0;subst s1p;have eq1:s2p=s2:=eq1;subst s2p;have eq2:s7p=s7:=eq2;subst s7p;have eq3:s8p=s8:=eq3;subst s8p;exact mpr_of (by kernel_rfl) ((congrArg (fun k=>k8j r0 e0 nx2 k s1 s2 s7 s8 s9p g0p) (lpk2 (⟨rfl,rfl,rfl,rfl⟩:s1=s1∧s2=s2∧s7=s7∧s8=s8) inv (fun s9q g0q=>μ s9q g0q<μ s9p g0p))).mpr (hs s9p g0p hi))⟩⟩
def k8k (r0:Bool) (e0:List Int) (nx2:NX TB ka) (k4:Int→List Int→Prop) (s1:Int) (s2:Int) (s7:Int) (s8:Int) (s10:Int) (g0:List Int):Prop:=
(decide (s10<s2)=true→
(0≤s10∧s10<(g0.length:Int))∧(0≤s10∧s10<(g0.length:Int))∧(0≤IntKind.i64.wrap (s10-1)∧IntKind.i64.wrap (s10-1)<(g0.length:Int))∧(0≤IntKind.i64.wrap (s10-1)∧IntKind.i64.wrap (s10-1)<(g0.length:Int))∧let r6:Bool:=(decide ((ix g0 s10)<(ix g0 (IntKind.i64.wrap (s10-1)))))
((!r6)=true→
(g0.length=g0.length)∧nx2 (s1,s2,s7,(IntKind.i64.wrap (s8+1):Int),g0,()))∧
((!r6)=false→
(0≤IntKind.i64.wrap (s10-1)∧IntKind.i64.wrap (s10-1)<(g0.length:Int))∧(0≤IntKind.i64.wrap (s10-1)∧IntKind.i64.wrap (s10-1)<(g0.length:Int))∧(0≤s10∧s10<(g0.length:Int))∧(0≤s10∧s10<(g0.length:Int))∧(0≤s10∧s10<(g0.length:Int))∧(0≤s10∧s10<(g0.length:Int))∧(0≤IntKind.i64.wrap (s10-1)∧IntKind.i64.wrap (s10-1)<(g0.length:Int))∧(0≤IntKind.i64.wrap (s10-1)∧IntKind.i64.wrap (s10-1)<((g0.set s10.toNat (ix g0 (IntKind.i64.wrap (s10-1)))).length:Int))∧(g0.length=((g0.set s10.toNat (ix g0 (IntKind.i64.wrap (s10-1)))).set (IntKind.i64.wrap (s10-1)).toNat (ix g0 s10)).length)∧k4 (IntKind.i64.wrap (s10+1):Int) ((g0.set s10.toNat (ix g0 (IntKind.i64.wrap (s10-1)))).set (IntKind.i64.wrap (s10-1)).toNat (ix g0 s10):List Int)))∧
(decide (s10<s2)=false→
(g0.length=g0.length)∧nx2 (s1,s2,s7,(IntKind.i64.wrap (s8+1):Int),g0,()))
theorem kff {r0:Bool} {e0:List Int} {nx2:NX TB ka} {s1:Int} {s2:Int} {s7:Int} {s8:Int} {s10:Int} {g0:List Int} (inv:Int→List Int→Prop) (μ:Int→List Int→Nat) (h0:inv s10 g0) (hs:∀(s10:Int) (g0:List Int),inv s10 g0→k8k r0 e0 nx2 (fun s10q g0q=>inv s10q g0q∧μ s10q g0q<μ s10 g0) s1 s2 s7 s8 s10 g0):Md.Loop (s1,s2,s7,s8,s10,g0,()) (k2o (r0,e0,()) nx2):=
 ⟨⟨fun s:Int×Int×Int×Int×Int×(List Int)×Unit=>(s.1=s1∧s.2.1=s2∧s.2.2.1=s7∧s.2.2.2.1=s8)∧inv s.2.2.2.2.1 s.2.2.2.2.2.1,fun s:Int×Int×Int×Int×Int×(List Int)×Unit=>μ s.2.2.2.2.1 s.2.2.2.2.2.1,⟨⟨rfl,rfl,rfl,rfl⟩,h0⟩,fun(s1p,s2p,s7p,s8p,s10p,g0p,()) ⟨⟨eq0,eq1,eq2,eq3⟩,hi⟩=>by
  have eq0:s1p=s1:=eq0;subst s1p;have eq1:s2p=s2:=eq1;subst s2p;have eq2:s7p=s7:=eq2;subst s7p;have eq3:s8p=s8:=eq3;subst s8p;exact mpr_of (by kernel_rfl) ((congrArg (fun k=>k8k r0 e0 nx2 k s1 s2 s7 s8 s10p g0p) (lpk2 (⟨rfl,rfl,rfl,rfl⟩:s1=s1∧s2=s2∧s7=s7∧s8=s8) inv (fun s10q g0q=>μ s10q g0q<μ s10p g0p))).mpr (hs s10p g0p hi))⟩⟩
theorem bd60:Callable Try.prog 60:=⟨by rw[Try.func60];kernel_rfl,by rw[Try.func60];show some _≠some _;decide⟩
set_option maxHeartbeats 1000000 in
theorem ke1 (p1:Int) (p2:Int) (w0:List Int) (h:(0≤p1∧p1<p2∧p2≤w0.length)∧w0.length≤1099511627776):k5t (p1,p2,w0,()) ((((pisS w0 p1 p2).2):Bool),(((pisS w0 p1 p2).1.toList):List Int),()):=by
 obtain⟨⟨h1,h2,h3⟩,h4⟩:=h
 refine kft ⟨rfl,?_⟩
 rw[wi (p1+1) (by omega) (by omega)]
 have hst:pisS w0 p1 p2=Sort.partialIns Sort.ltInt p1.toNat p2.toNat 5 (p1.toNat+1) w0.toArray:=rfl
 generalize pisS w0 p1 p2=R at *
 refine kfo (fun i jj g=>(p1<i∧i≤p2)∧(0≤jj∧jj≤5)∧g.length=w0.length∧R=Sort.partialIns Sort.ltInt p1.toNat p2.toNat (5-jj).toNat i.toNat g.toArray) (fun _ jj _=>(5-jj).toNat) ⟨⟨by omega,by omega⟩,⟨by omega,by omega⟩,rfl,by rw[hst,show(p1+1).toNat=p1.toNat+1 by omega];rfl⟩ ?_
 clear hst
 rintro i jj g ⟨⟨i0,i1⟩,⟨j0,j1⟩,g2,g3⟩
 refine⟨fun hh=> ?_,fun hh=> ?_⟩
 ·have hh:=of_decide_eq_true hh
  refine⟨rfl,?_⟩
  rw[show(5-jj).toNat=(5-(jj+1)).toNat+1 by omega,Sort.partialIns_succ]at g3
  have wj:=wi (jj+1) (by omega) (by omega)
  have last:∀(nx:NX TB ka) (i' :Int) (g' :List Int),(p1<i'∧i'≤p2)→g'.length=w0.length→R=Sort.partialIns Sort.ltInt p1.toNat p2.toNat (5-(jj+1)).toNat i'.toNat g'.toArray→(((p1<i'∧i'≤p2)∧(0≤IntKind.i64.wrap (jj+1)∧IntKind.i64.wrap (jj+1)≤5)∧g'.length=w0.length∧R=Sort.partialIns Sort.ltInt p1.toNat p2.toNat (5-IntKind.i64.wrap (jj+1)).toNat i'.toNat g'.toArray)∧(5-IntKind.i64.wrap (jj+1)).toNat<(5-jj).toNat):=by
   intro _ i' g' q1 q2 q3
   rw[wj]
   exact⟨⟨q1,⟨by omega,by omega⟩,q2,q3⟩,by omega⟩
  have j2:∀(nx:NX TB ka) (i' :Int) (g' :List Int),(p1<i'∧i' <p2)→g'.length=w0.length→R=Sort.partialIns Sort.ltInt p1.toNat p2.toNat (5-(jj+1)).toNat i'.toNat (Sort.fixUp Sort.ltInt p2.toNat i'.toNat g'.toArray)→
    (∀g' :List Int,(((p1<i'∧i'≤p2)∧(0≤IntKind.i64.wrap (jj+1)∧IntKind.i64.wrap (jj+1)≤5)∧g'.length=w0.length∧R=Sort.partialIns Sort.ltInt p1.toNat p2.toNat (5-IntKind.i64.wrap (jj+1)).toNat i'.toNat g'.toArray)∧(5-IntKind.i64.wrap (jj+1)).toNat<(5-jj).toNat)→nx (p1,p2,i',IntKind.i64.wrap (jj+1),g',()))→k1j (R.2,R.1.toList,()) nx (p1,p2,i',jj,g',()):=by
   intro nx i' g' ⟨q0,q1⟩ q2 q3 hn
   refine kdg ?_
   rw[wi (p2-i') (by omega) (by omega),wi (i' +1) (by omega) (by omega)]
   refine⟨fun e=>⟨rfl,?_⟩,fun e=>⟨rfl,hn _ (last nx _ _ ⟨q0,by omega⟩ q2 ?_)⟩⟩
   ·have e:=of_decide_eq_true e
    unfold Sort.fixUp at q3
    rw[if_pos (by omega),show i'.toNat+1=(i' +1).toNat by omega]at q3
    refine kff (fun k g2=>(i' +1≤k∧k≤p2)∧g2.length=w0.length∧Sort.shiftUp Sort.ltInt p2.toNat k.toNat g2.toArray=Sort.shiftUp Sort.ltInt p2.toNat (i' +1).toNat g'.toArray) (fun k _=>(p2-k).toNat) ⟨⟨by omega,by omega⟩,q2,rfl⟩ ?_
    rintro k g2 ⟨⟨k0,k1⟩,k2,k3⟩
    refine⟨fun c=> ?_,fun c=> ?_⟩
    ·have c:=of_decide_eq_true c
     rw[wi (k-1) (by omega) (by omega),wi (k+1) (by omega) (by omega)]
     rw[k1ey (by omega) c (by omega)]at k3
     refine⟨⟨by omega,by omega⟩,⟨by omega,by omega⟩,⟨by omega,by omega⟩,⟨by omega,by omega⟩,fun d=> ?_,fun d=> ?_⟩
     ·have d:¬ix g2 k<ix g2 (k-1):=by simpa using d
      rw[if_neg d]at k3
      exact⟨rfl,hn _ (last nx _ _ ⟨q0,by omega⟩ k2 (by rw[q3,←k3]))⟩
     ·have d:ix g2 k<ix g2 (k-1):=by simpa using d
      rw[if_pos d]at k3
      exact⟨⟨by omega,by omega⟩,⟨by omega,by omega⟩,⟨by omega,by omega⟩,⟨by omega,by omega⟩,⟨by omega,by omega⟩,⟨by omega,by omega⟩,⟨by omega,by omega⟩,⟨by omega,by rw[List.length_set];omega⟩,by rw[List.length_set,List.length_set],⟨⟨by omega,by omega⟩,by rw[List.length_set,List.length_set];exact k2,k3⟩,by omega⟩
    ·have c:=of_decide_eq_false c
     rw[k1dt (by omega) c]at k3
     exact⟨rfl,hn _ (last nx _ _ ⟨q0,by omega⟩ k2 (by rw[q3,←k3]))⟩
   ·have e:=of_decide_eq_false e
    unfold Sort.fixUp at q3
    rw[if_neg (by omega)]at q3
    exact q3
  have jj1:∀(nx:NX TB ka) (i' :Int),(p1<i'∧i'≤p2)→Sort.scanSorted Sort.ltInt g.toArray p2.toNat i.toNat=i'.toNat→
    (∀g' :List Int,(((p1<i'∧i'≤p2)∧(0≤IntKind.i64.wrap (jj+1)∧IntKind.i64.wrap (jj+1)≤5)∧g'.length=w0.length∧R=Sort.partialIns Sort.ltInt p1.toNat p2.toNat (5-IntKind.i64.wrap (jj+1)).toNat i'.toNat g'.toArray)∧(5-IntKind.i64.wrap (jj+1)).toNat<(5-jj).toNat)→nx (p1,p2,i',IntKind.i64.wrap (jj+1),g',()))→k1q (R.2,R.1.toList,()) nx (p1,p2,i',jj,g,()):=by
   intro nx i' ⟨q0,q1⟩ q2 hn
   rw[q2]at g3
   refine kdh ?_
   rw[wi (p2-p1) (by omega) (by omega),wi (i' -1) (by omega) (by omega),wi (i' -p1) (by omega) (by omega)]
   refine⟨fun e=> ?_,fun e=>⟨fun e2=> ?_,fun e2=> ?_⟩⟩
   ·have e:i' =p2:=by simpa using e
    rw[if_pos (by omega)]at g3
    rw[g3]
    exact⟨rfl,rfl⟩
   ·have e:¬i' =p2:=by simpa using e
    have e2:=of_decide_eq_true e2
    rw[if_neg (by omega),if_pos (by omega)]at g3
    rw[g3]
    exact⟨rfl,rfl⟩
   ·have e:¬i' =p2:=by simpa using e
    have e2:=of_decide_eq_false e2
    rw[if_neg (by omega),if_neg (by omega)]at g3
    have hs:=swp_arr (g:=g) (i:=i') (j:=i' -1) (by omega) (by omega) (by omega) (by omega)
    rw[show i'.toNat-1=(i' -1).toNat by omega,hs]at g3
    have sl:(swpL g i' (i' -1)).length=w0.length:=by rw[kms];exact g2
    refine⟨⟨by omega,by omega⟩,⟨by omega,by omega⟩,⟨by omega,by omega⟩,⟨by omega,by omega⟩,⟨by omega,by omega⟩,⟨by omega,by omega⟩,⟨by omega,by omega⟩,⟨by omega,by rw[List.length_set];omega⟩,fun e3=> ?_,fun e3=> ?_⟩
    ·have e3:=of_decide_eq_true e3
     refine⟨by rw[List.length_set,List.length_set],?_⟩
     unfold Sort.fixDown at g3
     rw[if_pos (by omega),show i'.toNat-1=(i' -1).toNat by omega]at g3
     refine ke9 (fun k g2=>(0≤k∧k<p2)∧g2.length=w0.length∧Sort.shiftDown Sort.ltInt k.toNat g2.toArray=Sort.shiftDown Sort.ltInt (i' -1).toNat (swpL g i' (i' -1)).toArray) (fun k _=>k.toNat) ⟨⟨by omega,by omega⟩,sl,rfl⟩ ?_
     rintro k g2 ⟨⟨k0,k1⟩,k2,k3⟩
     refine⟨fun c=> ?_,fun c=> ?_⟩
     ·have c:=of_decide_eq_true c
      rw[wi (k-1) (by omega) (by omega)]
      rw[k1c1 c (by omega)]at k3
      refine⟨⟨by omega,by omega⟩,⟨by omega,by omega⟩,⟨by omega,by omega⟩,⟨by omega,by omega⟩,fun d=> ?_,fun d=> ?_⟩
      ·have d:¬ix g2 k<ix g2 (k-1):=by simpa using d
       rw[if_neg d]at k3
       exact⟨rfl,j2 nx _ _ ⟨q0,by omega⟩ k2 (by rw[g3,k3]) hn⟩
      ·have d:ix g2 k<ix g2 (k-1):=by simpa using d
       rw[if_pos d]at k3
       exact⟨⟨by omega,by omega⟩,⟨by omega,by omega⟩,⟨by omega,by omega⟩,⟨by omega,by omega⟩,⟨by omega,by omega⟩,⟨by omega,by omega⟩,⟨by omega,by omega⟩,⟨by omega,by rw[List.length_set];omega⟩,by rw[List.length_set,List.length_set],⟨⟨by omega,by omega⟩,by rw[List.length_set,List.length_set];exact k2,k3⟩,by omega⟩
     ·have c:=of_decide_eq_false c
      rw[k1ah c]at k3
      exact⟨rfl,j2 nx _ _ ⟨q0,by omega⟩ k2 (by rw[g3,k3]) hn⟩
    ·have e3:=of_decide_eq_false e3
     unfold Sort.fixDown at g3
     rw[if_neg (by omega)]at g3
     exact⟨by rw[List.length_set,List.length_set],j2 nx _ _ ⟨q0,by omega⟩ sl g3 hn⟩
  refine kfa (fun i' =>(p1<i'∧i'≤p2)∧Sort.scanSorted Sort.ltInt g.toArray p2.toNat i'.toNat=Sort.scanSorted Sort.ltInt g.toArray p2.toNat i.toNat) (fun i' =>(p2-i').toNat) ⟨⟨i0,i1⟩,rfl⟩ ?_
  rintro i' ⟨⟨q0,q1⟩,q2⟩
  refine⟨fun c=> ?_,fun c=> ?_⟩
  ·have c:=of_decide_eq_true c
   rw[k1as (by omega) c (by omega)]at q2
   rw[wi (i' -1) (by omega) (by omega),wi (i' +1) (by omega) (by omega)]
   refine⟨⟨by omega,by omega⟩,⟨by omega,by omega⟩,⟨by omega,by omega⟩,⟨by omega,by omega⟩,fun d=>⟨rfl,⟨⟨by omega,by omega⟩,?_⟩,by omega⟩,fun d=>⟨rfl,jj1 _ _ ⟨q0,q1⟩ ?_ fun g' q=>⟨⟨⟨rfl,rfl⟩,q.1⟩,q.2⟩⟩⟩
   ·have d:¬ix g i' <ix g (i' -1):=by simpa using d
    rw[if_neg d]at q2
    exact q2
   ·have d:ix g i' <ix g (i' -1):=by simpa using d
    rw[if_pos d]at q2
    exact q2.symm
  ·have c:=of_decide_eq_false c
   rw[k18f (by omega) c]at q2
   exact⟨rfl,jj1 _ _ ⟨q0,q1⟩ q2.symm fun g' q=>⟨⟨⟨rfl,rfl⟩,q.1⟩,q.2⟩⟩
 ·have hh:=of_decide_eq_false hh
  rw[show(5-jj).toNat=0 by omega]at g3
  rw[g3]
  exact⟨rfl,rfl⟩
noncomputable def k8d:Con TB.den:=ko.fnR (fun x=>(fun(p1:Int) (p2:Int) (w0:List Int)=>(0≤p1∧p1<p2∧p2≤w0.length)∧w0.length≤1099511627776) x.1 x.2.1 x.2.2.1) fun x=>((fun(p1:Int) (p2:Int) (w0:List Int)=>(((pisS w0 p1 p2).2):Bool)) x.1 x.2.1 x.2.2.1,(fun(p1:Int) (p2:Int) (w0:List Int)=>(((pisS w0 p1 p2).1.toList):List Int)) x.1 x.2.1 x.2.2.1,())
theorem kfu:k8d.Ok Try.prog TB:=Con.ok_fn ko bd60 fun x h=>ke8 (ke1 x.1 x.2.1 x.2.2.1 h)
def k13:Con TB.den:=Con.mk0 62 [.one (.row 0),.one (.d (.int .i64)),.one (.d (.int .i64)),.one (.d (.int .i64))] [.vec (.int .i64)] (.one (.one (.d (.int .i64)))) [.vec (.int .i64)]
abbrev kaz:=HL TB.den (hsT k13.ins (hsOs k13.pre))
abbrev kh:=HL TB.den (hsV k13.res (hsOs k13.post))
noncomputable def k12:Cx TB:=⟨inf,[k77],[],4,[]⟩
noncomputable def k1i:Code:=Try.f62.body.getD .skip
noncomputable def k5k:List ResultVar:=Try.f62.results.toList
def kk1 (o:kh):=qS TB k12 84 1 (cB (cB (cB (cB k1i)))) .no (retTQ TB k12 k13 k5k o)
def ke:Tm:=⟨[0],[.vec (.int .i64)],[0,1,9,10],[.one (.row 0),.one (.d (.int .i64)),.one (.d (.int .i64)),.one (.d (.int .i64))],65⟩
def k3t (o:kh) (nx2:NX TB ke):=qM TB 1 ke nx2 (blockT TB 0 (kk1 o))
def k3g:Tm:=⟨[0],[.vec (.int .i64)],[0,1,9,10],[.one (.row 0),.one (.d (.int .i64)),.one (.d (.int .i64)),.one (.d (.int .i64))],181⟩
def k9q (o:kh) (nx2:NX TB ke) (i:HL TB.den k3g.hs):Prop:=ghs TB [] (k3g.fill TB i) fun s=>WP TB k12 84 1 (cB (cB (cA (cA (cA (cA (cB (cB (cB k1i))))))))) .no s (blockT TB 1 (k3t o nx2))
structure k28 (o:kh) (nx2:NX TB ke) (i:HL TB.den k3g.hs):Prop where
 h:k9q o nx2 i
def kjr (o:kh) (nx2:NX TB ke):=qM TB 1 k3g (k28 o nx2) (blockT TB 1 (k3t o nx2))
def k25:Tm:=⟨[0],[.vec (.int .i64)],[0,1,9,10],[.one (.row 0),.one (.d (.int .i64)),.one (.d (.int .i64)),.one (.d (.int .i64))],125⟩
def kjy (o:kh) (nx2:NX TB ke) (nx3:NX TB k25):=qM TB 1 k25 nx3 (blockT TB 4 (kjr o nx2))
def k3p (o:kh) (nx2:NX TB ke) (nx3:NX TB k25) (i:HL TB.den k25.hs):Prop:=WP TB k12 84 1 (cA (cA (cA (cB (cA (cA (cA (cA (cB (cB (cB k1i))))))))))) .no (k25.fill TB i) (kjy o nx2 nx3)
noncomputable def kk4 (o:kh) (nx2:NX TB ke):An TB:= .lp [] k25 (k3p o nx2) fun nx3=> .no
noncomputable def ka7 (o:kh) (nx2:NX TB ke):An TB:= .jn k3g (k28 o nx2) [] (kk4 o nx2) [] .no
def k3n:Tm:=⟨[0],[.vec (.int .i64)],[0,1,9,10],[.one (.row 0),.one (.d (.int .i64)),.one (.d (.int .i64)),.one (.d (.int .i64))],125⟩
def k9r (o:kh) (nx2:NX TB ke) (i:HL TB.den k3n.hs):Prop:=ghs TB [] (k3n.fill TB i) fun s=>WP TB k12 84 1 (cB (cA (cA (cA (cA (cB (cB (cB k1i)))))))) (ka7 o nx2) s (blockT TB 1 (k3t o nx2))
structure k26 (o:kh) (nx2:NX TB ke) (i:HL TB.den k3n.hs):Prop where
 h:k9r o nx2 i
def kjh (o:kh) (nx2:NX TB ke):=qM TB 1 k3n (k26 o nx2) (blockT TB 1 (k3t o nx2))
def k27:Tm:=⟨[0],[.vec (.int .i64)],[0,1,9,10],[.one (.row 0),.one (.d (.int .i64)),.one (.d (.int .i64)),.one (.d (.int .i64))],65⟩
def kiv (o:kh) (nx2:NX TB ke) (nx1:NX TB k27):=qM TB 1 k27 nx1 (blockT TB 2 (kjh o nx2))
def k3u (o:kh) (nx2:NX TB ke) (nx1:NX TB k27) (i:HL TB.den k27.hs):Prop:=WP TB k12 84 1 (cA (cA (cA (cA (cA (cA (cA (cB (cB (cB k1i)))))))))) .no (k27.fill TB i) (kiv o nx2 nx1)
noncomputable def kjb (o:kh) (nx2:NX TB ke):An TB:= .lp [] k27 (k3u o nx2) fun nx1=> .no
noncomputable def k9v (o:kh) (nx2:NX TB ke):An TB:= .jn k3n (k26 o nx2) [] (kjb o nx2) [] (ka7 o nx2)
def k3r (o:kh) (nx2:NX TB ke) (i:HL TB.den ke.hs):Prop:=WP TB k12 84 1 (cA (cA (cA (cB (cB (cB k1i)))))) (k9v o nx2) (ke.fill TB i) (k3t o nx2)
noncomputable def kj8 (o:kh):An TB:= .lp [] ke (k3r o) fun nx2=>(k9v o nx2)
noncomputable def kj6 (o:kh):An TB:= .nd [] .no [] (.nd [] (kj8 o) [] .no)
noncomputable def kab (o:kh):An TB:= .nd [] .no [] (.nd [] .no [] (kj6 o))
def k6r (x:kaz) (o:kh):Prop:=WPh TB k12 84 1 k1i (kab o) (k13.st TB x) (retTQ TB k12 k13 k5k o)
theorem ki0 (o:kh):OblH TB k12 84 1 k1i (kab o) (retTQ TB k12 k13 k5k o):=
 OblH.ofC (X:=((∀nx i,(k3r o) nx i=(k3r o) nx i)∧(∀nx2:NX TB ke,((∀nx i,(k3u o nx2) nx i=(k3u o nx2) nx i)∧(∀nx1:NX TB k27,True)∧(∀i,(k26 o nx2) i=k9r o nx2 i)∧(∀nx i,(k3p o nx2) nx i=(k3p o nx2) nx i)∧(∀nx3:NX TB k25,True)∧(∀i,(k28 o nx2) i=k9q o nx2 i)∧True))∧True)) (by kernel_rfl) ⟨fun _ _=>rfl,fun _=>⟨fun _ _=>rfl,fun _=>trivial,fun _=>propext ⟨fun h=>h.1,fun h=>⟨h⟩⟩,fun _ _=>rfl,fun _=>trivial,fun _=>propext ⟨fun h=>h.1,fun h=>⟨h⟩⟩,trivial⟩,trivial⟩
theorem kij {x:kaz} {o:kh} (h:k6r x o):k13.Snd Try.prog x o:=
 Con.soundH (c:=k13) (C:=k12) TBok ⟨inf_ok,(all_cons k8q all_nil),all_nil⟩ mix Try.func62 (show Try.f62.body=some k1i by kernel_rfl) (show Try.f62.ntmps=84 by kernel_rfl) (show Try.f62.results.toList=k5k by kernel_rfl) rfl h (ki0 o)
theorem kk5 {p1:Int} {p2:Int} {p3:Int} {w0:List Int} {r0:Int} {e0:List Int} (h:
((0≤p3∧p3<(w0.length:Int))∧(0≤p3∧p3<(w0.length:Int))∧(0≤p1∧p1<(w0.length:Int))∧(0≤p1∧p1<(w0.length:Int))∧(0≤p1∧p1<(w0.length:Int))∧(0≤p1∧p1<(w0.length:Int))∧(0≤p3∧p3<(w0.length:Int))∧(0≤p3∧p3<((w0.set p1.toNat (ix w0 p3)).length:Int))∧(w0.length=((w0.set p1.toNat (ix w0 p3)).set p3.toNat (ix w0 p1)).length)∧Md.Loop (p1,(IntKind.i64.wrap (p1+1):Int),(IntKind.i64.wrap (p2-1):Int),((w0.set p1.toNat (ix w0 p3)).set p3.toNat (ix w0 p1):List Int),()) (k3r (r0,e0,())))):k6r (p1,p2,p3,w0,()) (r0,e0,()):=WPh.of_eq (by kernel_rfl) h
theorem kh4 {r0:Int} {e0:List Int} {nx2:NX TB ke} {s1:Int} {s9:Int} {s10:Int} {g0:List Int} (h:
((g0.length=g0.length)∧Md.Loop (s1,s9,s10,g0,()) (k3p (r0,e0,()) nx2))):k26 (r0,e0,()) nx2 (s1,s9,s10,g0,()):=⟨mpr_of (by kernel_rfl) h⟩
theorem kh6 {r0:Int} {e0:List Int} {nx2:NX TB ke} {s1:Int} {s9:Int} {s10:Int} {g0:List Int} (h:
((decide (s10<s9)=true→
 s9=r0∧g0=e0)∧
(decide (s10<s9)=false→
(0≤s10∧s10<(g0.length:Int))∧(0≤s10∧s10<(g0.length:Int))∧(0≤s9∧s9<(g0.length:Int))∧(0≤s9∧s9<(g0.length:Int))∧(0≤s9∧s9<(g0.length:Int))∧(0≤s9∧s9<(g0.length:Int))∧(0≤s10∧s10<(g0.length:Int))∧(0≤s10∧s10<((g0.set s9.toNat (ix g0 s10)).length:Int))∧(g0.length=((g0.set s9.toNat (ix g0 s10)).set s10.toNat (ix g0 s9)).length)∧nx2 (s1,(IntKind.i64.wrap (s9+1):Int),(IntKind.i64.wrap (s10-1):Int),((g0.set s9.toNat (ix g0 s10)).set s10.toNat (ix g0 s9):List Int),())))):k28 (r0,e0,()) nx2 (s1,s9,s10,g0,()):=⟨mpr_of (by kernel_rfl) h⟩
def ka5 (r0:Int) (e0:List Int) (nx2:NX TB ke) (k2:Int→Int→List Int→Prop) (s1:Int) (s9:Int) (s10:Int) (g0:List Int):Prop:=
(g0.length=g0.length)∧Md.Loop (s1,s9,s10,g0,()) (k3u (r0,e0,()) nx2)
theorem kim {r0:Int} {e0:List Int} {s1:Int} {s9:Int} {s10:Int} {g0:List Int} (inv:Int→Int→List Int→Prop) (μ:Int→Int→List Int→Nat) (h0:inv s9 s10 g0) (hs:∀(s9:Int) (s10:Int) (g0:List Int),inv s9 s10 g0→ka5 r0 e0 (fun s:Int×Int×Int×(List Int)×Unit=>((s.1=s1)∧inv s.2.1 s.2.2.1 s.2.2.2.1)∧μ s.2.1 s.2.2.1 s.2.2.2.1<μ s9 s10 g0) (fun s9q s10q g0q=>inv s9q s10q g0q∧μ s9q s10q g0q<μ s9 s10 g0) s1 s9 s10 g0):Md.Loop (s1,s9,s10,g0,()) (k3r (r0,e0,())):=
 ⟨⟨fun s:Int×Int×Int×(List Int)×Unit=>(s.1=s1)∧inv s.2.1 s.2.2.1 s.2.2.2.1,fun s:Int×Int×Int×(List Int)×Unit=>μ s.2.1 s.2.2.1 s.2.2.2.1,⟨rfl,h0⟩,fun(s1p,s9p,s10p,g0p,()) ⟨eq0,hi⟩=>by
  have eq0:s1p=s1:=eq0;subst s1p;exact mpr_of (by kernel_rfl) ((congrArg (fun k=>ka5 r0 e0 (fun s:Int×Int×Int×(List Int)×Unit=>((s.1=s1)∧inv s.2.1 s.2.2.1 s.2.2.2.1)∧μ s.2.1 s.2.2.1 s.2.2.2.1<μ s9p s10p g0p) k s1 s9p s10p g0p) (lpk3 (rfl:s1=s1) inv (fun s9q s10q g0q=>μ s9q s10q g0q<μ s9p s10p g0p))).mpr (hs s9p s10p g0p hi))⟩⟩
def ka4 (r0:Int) (e0:List Int) (nx2:NX TB ke) (k1:Int→Prop) (s1:Int) (s10:Int) (g0:List Int) (s9:Int):Prop:=
(decide (s9≤s10)=true→
(0≤s1∧s1<(g0.length:Int))∧(0≤s1∧s1<(g0.length:Int))∧(0≤s9∧s9<(g0.length:Int))∧(0≤s9∧s9<(g0.length:Int))∧((!(decide ((ix g0 s1)<(ix g0 s9))))=true→
(g0.length=g0.length)∧k1 (IntKind.i64.wrap (s9+1):Int))∧
((!(decide ((ix g0 s1)<(ix g0 s9))))=false→
(g0.length=g0.length)∧k26 (r0,e0,()) nx2 (s1,s9,s10,g0,())))∧
(decide (s9≤s10)=false→
(g0.length=g0.length)∧k26 (r0,e0,()) nx2 (s1,s9,s10,g0,()))
theorem ki9 {r0:Int} {e0:List Int} {nx2:NX TB ke} {s1:Int} {s10:Int} {g0:List Int} {s9:Int} (inv:Int→Prop) (μ:Int→Nat) (h0:inv s9) (hs:∀(s9:Int),inv s9→ka4 r0 e0 nx2 (fun s9q=>inv s9q∧μ s9q<μ s9) s1 s10 g0 s9):Md.Loop (s1,s9,s10,g0,()) (k3u (r0,e0,()) nx2):=
 ⟨⟨fun s:Int×Int×Int×(List Int)×Unit=>(s.1=s1∧s.2.2.1=s10∧s.2.2.2.1=g0)∧inv s.2.1,fun s:Int×Int×Int×(List Int)×Unit=>μ s.2.1,⟨⟨rfl,rfl,rfl⟩,h0⟩,fun(s1p,s9p,s10p,g0p,()) ⟨⟨eq0,eq1,eq2⟩,hi⟩=>by
  have eq0:s1p=s1:=eq0;subst s1p;have eq1:s10p=s10:=eq1;subst s10p;have eq2:g0p=g0:=eq2;subst g0p;exact mpr_of (by kernel_rfl) ((congrArg (fun k=>ka4 r0 e0 nx2 k s1 s10 g0 s9p) (lpk1 (⟨rfl,rfl,rfl⟩:s1=s1∧s10=s10∧g0=g0) inv (fun s9q=>μ s9q<μ s9p))).mpr (hs s9p hi))⟩⟩
def ka9 (r0:Int) (e0:List Int) (nx2:NX TB ke) (k3:Int→Prop) (s1:Int) (s9:Int) (g0:List Int) (s10:Int):Prop:=
(decide (s9≤s10)=true→
(0≤s1∧s1<(g0.length:Int))∧(0≤s1∧s1<(g0.length:Int))∧(0≤s10∧s10<(g0.length:Int))∧(0≤s10∧s10<(g0.length:Int))∧((decide ((ix g0 s1)<(ix g0 s10)))=true→
(g0.length=g0.length)∧k3 (IntKind.i64.wrap (s10-1):Int))∧
((decide ((ix g0 s1)<(ix g0 s10)))=false→
(g0.length=g0.length)∧k28 (r0,e0,()) nx2 (s1,s9,s10,g0,())))∧
(decide (s9≤s10)=false→
(g0.length=g0.length)∧k28 (r0,e0,()) nx2 (s1,s9,s10,g0,()))
theorem kj4 {r0:Int} {e0:List Int} {nx2:NX TB ke} {s1:Int} {s9:Int} {g0:List Int} {s10:Int} (inv:Int→Prop) (μ:Int→Nat) (h0:inv s10) (hs:∀(s10:Int),inv s10→ka9 r0 e0 nx2 (fun s10q=>inv s10q∧μ s10q<μ s10) s1 s9 g0 s10):Md.Loop (s1,s9,s10,g0,()) (k3p (r0,e0,()) nx2):=
 ⟨⟨fun s:Int×Int×Int×(List Int)×Unit=>(s.1=s1∧s.2.1=s9∧s.2.2.2.1=g0)∧inv s.2.2.1,fun s:Int×Int×Int×(List Int)×Unit=>μ s.2.2.1,⟨⟨rfl,rfl,rfl⟩,h0⟩,fun(s1p,s9p,s10p,g0p,()) ⟨⟨eq0,eq1,eq2⟩,hi⟩=>by
  have eq0:s1p=s1:=eq0;subst s1p;have eq1:s9p=s9:=eq1;subst s9p;have eq2:g0p=g0:=eq2;subst g0p;exact mpr_of (by kernel_rfl) ((congrArg (fun k=>ka9 r0 e0 nx2 k s1 s9 g0 s10p) (lpk1 (⟨rfl,rfl,rfl⟩:s1=s1∧s9=s9∧g0=g0) inv (fun s10q=>μ s10q<μ s10p))).mpr (hs s10p hi))⟩⟩
theorem bd62:Callable Try.prog 62:=⟨by rw[Try.func62];kernel_rfl,by rw[Try.func62];show some _≠some _;decide⟩
set_option maxHeartbeats 1000000 in
theorem khp (p1:Int) (p2:Int) (p3:Int) (w0:List Int) (h:(0≤p1∧p1≤p3∧p3<p2∧p2≤w0.length)∧w0.length≤1099511627776):k6r (p1,p2,p3,w0,()) ((((peqS w0 p1 p2 p3).1:Int):Int),(((peqS w0 p1 p2 p3).2.toList):List Int),()):=by
 obtain⟨⟨h1,h2,h3,h4⟩,h5⟩:=h
 have hs0:=swp_arr (g:=w0) (i:=p1) (j:=p3) (by omega) (by omega) (by omega) (by omega)
 have hst:peqS w0 p1 p2 p3=Sort.partEqLoop Sort.ltInt p1.toNat (p1.toNat+1) (p2.toNat-1) (Sort.swp w0.toArray p1.toNat p3.toNat):=rfl
 rw[hs0]at hst
 refine kk5 ⟨⟨by omega,by omega⟩,⟨by omega,by omega⟩,⟨by omega,by omega⟩,⟨by omega,by omega⟩,⟨by omega,by omega⟩,⟨by omega,by omega⟩,⟨by omega,by omega⟩,⟨by omega,by rw[List.length_set];omega⟩,by rw[List.length_set,List.length_set],?_⟩
 rw[wi (p1+1) (by omega) (by omega),wi (p2-1) (by omega) (by omega)]
 generalize peqS w0 p1 p2 p3=R at *
 refine kim (fun i j g=>(p1<i∧i≤j+1∧j<p2)∧g.length=w0.length∧R=Sort.partEqLoop Sort.ltInt p1.toNat i.toNat j.toNat g.toArray) (fun i j _=>(j+1-i).toNat) ⟨⟨by omega,by omega,by omega⟩,by rw[List.length_set,List.length_set],by rw[hst,show(p1+1).toNat=p1.toNat+1 by omega,show(p2-1).toNat=p2.toNat-1 by omega]⟩ ?_
 clear hst hs0
 rintro i j g ⟨⟨i0,i1,i2⟩,g2,g3⟩
 refine⟨rfl,?_⟩
 rw[Sort.partEqLoop_eq]at g3
 have xa:=arr_ix (g:=g) (i:=p1) (by omega) (by omega)
 rw[xa]at g3
 have jj2:∀(nx:NX TB ke) (i' j' :Int),(i≤i'∧i'≤j+1∧i' -1≤j'∧j'≤j)→Sort.scanUp (fun x=> !Sort.ltInt (ix g p1) x) g.toArray j.toNat i.toNat=i'.toNat→Sort.scanDown (fun x=>Sort.ltInt (ix g p1) x) g.toArray i'.toNat j.toNat=j'.toNat→(i'≤j'→i' <j')→
   (∀g' :List Int,(((p1<IntKind.i64.wrap (i' +1)∧IntKind.i64.wrap (i' +1)≤IntKind.i64.wrap (j' -1)+1∧IntKind.i64.wrap (j' -1)<p2)∧g'.length=w0.length∧R=Sort.partEqLoop Sort.ltInt p1.toNat (IntKind.i64.wrap (i' +1)).toNat (IntKind.i64.wrap (j' -1)).toNat g'.toArray)∧(IntKind.i64.wrap (j' -1)+1-(IntKind.i64.wrap (i' +1))).toNat<(j+1-i).toNat)→nx (p1,(IntKind.i64.wrap (i' +1):Int),(IntKind.i64.wrap (j' -1):Int),g',()))→k28 ((R.1:Int),R.2.toList,()) nx (p1,i',j',g,()):=by
  intro nx i' j' ⟨q0,q1,q2,q3⟩ e1 e2 e3 hn
  rw[e1,e2]at g3
  refine kh6 ⟨fun c=> ?_,fun c=> ?_⟩
  ·have c:=of_decide_eq_true c
   rw[if_pos (by omega)]at g3
   rw[g3]
   exact⟨(Int.toNat_of_nonneg (by omega)).symm,rfl⟩
  ·have c:=of_decide_eq_false c
   have hs:=swp_arr (g:=g) (i:=i') (j:=j') (by omega) (by omega) (by omega) (by omega)
   rw[if_neg (by omega),hs,show i'.toNat+1=(i' +1).toNat by omega,show j'.toNat-1=(j' -1).toNat by omega]at g3
   have w1:=wi (i' +1) (by omega) (by omega)
   have w2:=wi (j' -1) (by omega) (by omega)
   have e4:=e3 (by omega)
   have:=hn (swpL g i' j') (by rw[w1,w2];exact⟨⟨⟨by omega,by omega,by omega⟩,by rw[kms];exact g2,g3⟩,by omega⟩)
   exact⟨⟨by omega,by omega⟩,⟨by omega,by omega⟩,⟨by omega,by omega⟩,⟨by omega,by omega⟩,⟨by omega,by omega⟩,⟨by omega,by omega⟩,⟨by omega,by omega⟩,⟨by omega,by rw[List.length_set];omega⟩,by rw[List.length_set,List.length_set],this⟩
 have jj1:∀(nx:NX TB ke) (i' :Int),(i≤i'∧i'≤j+1)→Sort.scanUp (fun x=> !Sort.ltInt (ix g p1) x) g.toArray j.toNat i.toNat=i'.toNat→(i'≤j→ix g p1<ix g i')→
   (∀(j' :Int) (g' :List Int),(((p1<IntKind.i64.wrap (i' +1)∧IntKind.i64.wrap (i' +1)≤IntKind.i64.wrap (j' -1)+1∧IntKind.i64.wrap (j' -1)<p2)∧g'.length=w0.length∧R=Sort.partEqLoop Sort.ltInt p1.toNat (IntKind.i64.wrap (i' +1)).toNat (IntKind.i64.wrap (j' -1)).toNat g'.toArray)∧(IntKind.i64.wrap (j' -1)+1-(IntKind.i64.wrap (i' +1))).toNat<(j+1-i).toNat)→nx (p1,(IntKind.i64.wrap (i' +1):Int),(IntKind.i64.wrap (j' -1):Int),g',()))→k26 ((R.1:Int),R.2.toList,()) nx (p1,i',j,g,()):=by
  intro nx i' ⟨q0,q1⟩ e1 e2 hn
  refine kh4 ⟨rfl,?_⟩
  refine kj4 (fun j' =>(i' -1≤j'∧j'≤j)∧Sort.scanDown (fun x=>Sort.ltInt (ix g p1) x) g.toArray i'.toNat j'.toNat=Sort.scanDown (fun x=>Sort.ltInt (ix g p1) x) g.toArray i'.toNat j.toNat) (fun j' =>(j' +1).toNat) ⟨⟨by omega,by omega⟩,rfl⟩ ?_
  rintro j' ⟨⟨k0,k1⟩,k2⟩
  refine⟨fun c=> ?_,fun c=> ?_⟩
  ·have c:=of_decide_eq_true c
   have xj:=arr_ix (g:=g) (i:=j') (by omega) (by omega)
   rw[kx0 (by omega) c,xj,ltI_iff]at k2
   rw[wi (j' -1) (by omega) (by omega)]
   refine⟨⟨by omega,by omega⟩,⟨by omega,by omega⟩,⟨by omega,by omega⟩,⟨by omega,by omega⟩,fun d=>⟨rfl,⟨⟨by omega,by omega⟩,?_⟩,by omega⟩,fun d=>⟨rfl,?_⟩⟩
   ·rw[if_pos d]at k2
    exact k2
   ·rw[if_neg (by rw[d];decide)]at k2
    refine jj2 nx i' j' ⟨q0,q1,k0,k1⟩ e1 k2.symm (fun e=> ?_) (hn j')
    have:=e2 (by omega)
    have d:=of_decide_eq_false d
    by_cases hij:i' =j'
    ·subst hij;exact absurd this d
    ·omega
  ·have c:=of_decide_eq_false c
   rw[ktk (by omega) c]at k2
   exact⟨rfl,jj2 nx i' j' ⟨q0,q1,k0,k1⟩ e1 k2.symm (fun e=>absurd e c) (hn j')⟩
 refine ki9 (fun i' =>(i≤i'∧i'≤j+1)∧Sort.scanUp (fun x=> !Sort.ltInt (ix g p1) x) g.toArray j.toNat i'.toNat=Sort.scanUp (fun x=> !Sort.ltInt (ix g p1) x) g.toArray j.toNat i.toNat) (fun i' =>(j+2-i').toNat) ⟨⟨by omega,by omega⟩,rfl⟩ ?_
 rintro i' ⟨⟨k0,k1⟩,k2⟩
 refine⟨fun c=> ?_,fun c=> ?_⟩
 ·have c:=of_decide_eq_true c
  have xj:=arr_ix (g:=g) (i:=i') (by omega) (by omega)
  rw[k126 (by omega) c,xj,ltI_iff]at k2
  rw[wi (i' +1) (by omega) (by omega)]
  refine⟨⟨by omega,by omega⟩,⟨by omega,by omega⟩,⟨by omega,by omega⟩,⟨by omega,by omega⟩,fun d=>⟨rfl,⟨⟨by omega,by omega⟩,?_⟩,by omega⟩,fun d=>⟨rfl,?_⟩⟩
  ·rw[if_pos d]at k2
   exact k2
  ·rw[if_neg (by rw[d];decide)]at k2
   exact jj1 _ i' ⟨k0,k1⟩ k2.symm (fun _=>by simpa using d) fun j' g' q=>⟨⟨rfl,q.1⟩,q.2⟩
 ·have c:=of_decide_eq_false c
  rw[kyg (by omega) c]at k2
  exact⟨rfl,jj1 _ i' ⟨k0,k1⟩ k2.symm (fun e=>absurd e c) fun j' g' q=>⟨⟨rfl,q.1⟩,q.2⟩⟩
noncomputable def k9y:Con TB.den:=k13.fnR (fun x=>(fun(p1:Int) (p2:Int) (p3:Int) (w0:List Int)=>(0≤p1∧p1≤p3∧p3<p2∧p2≤w0.length)∧w0.length≤1099511627776) x.1 x.2.1 x.2.2.1 x.2.2.2.1) fun x=>((fun(p1:Int) (p2:Int) (p3:Int) (w0:List Int)=>(((peqS w0 p1 p2 p3).1:Int):Int)) x.1 x.2.1 x.2.2.1 x.2.2.2.1,(fun(p1:Int) (p2:Int) (p3:Int) (w0:List Int)=>(((peqS w0 p1 p2 p3).2.toList):List Int)) x.1 x.2.1 x.2.2.1 x.2.2.2.1,())
theorem kk8:k9y.Ok Try.prog TB:=Con.ok_fn k13 bd62 fun x h=>kij (khp x.1 x.2.1 x.2.2.1 x.2.2.2.1 h)
def ku:Con TB.den:=Con.mk0 63 [.one (.row 0),.one (.d (.int .i64)),.one (.d (.int .i64)),.one (.d (.int .i64))] [.vec (.int .i64)] (.tup [.one (.d (.int .i64)),.one (.d (.bool))]) [.vec (.int .i64)]
abbrev kds:=HL TB.den (hsT ku.ins (hsOs ku.pre))
abbrev kc:=HL TB.den (hsV ku.res (hsOs ku.post))
noncomputable def kj:Cx TB:=⟨inf,[k77],[],4,[]⟩
noncomputable def k15:Code:=Try.f63.body.getD .skip
noncomputable def k2b:List ResultVar:=Try.f63.results.toList
def koq (o:kc):=qS TB kj 168 1 (cB (cB (cB (cB (cB (cB (cB (cB (cB (cB k15)))))))))) .no (retTQ TB kj ku k2b o)
def kg:Tm:=⟨[0],[.vec (.int .i64)],[0,1,10,11],[.one (.row 0),.one (.d (.int .i64)),.one (.d (.int .i64)),.one (.d (.int .i64))],245⟩
def k56 (o:kc) (nx4:NX TB kg):=qM TB 1 kg nx4 (blockT TB 4 (koq o))
def k51:Tm:=⟨[0],[.vec (.int .i64)],[0,1,10,11],[.one (.row 0),.one (.d (.int .i64)),.one (.d (.int .i64)),.one (.d (.int .i64))],361⟩
def kc9 (o:kc) (nx4:NX TB kg) (i:HL TB.den k51.hs):Prop:=ghs TB [] (k51.fill TB i) fun s=>WP TB kj 168 1 (cB (cB (cA (cA (cA (cA (cB (cB (cB (cB (cB (cB (cB (cB (cB k15))))))))))))))) .no s (blockT TB 5 (k56 o nx4))
structure k2z (o:kc) (nx4:NX TB kg) (i:HL TB.den k51.hs):Prop where
 h:kc9 o nx4 i
def ko2 (o:kc) (nx4:NX TB kg):=qM TB 1 k51 (k2z o nx4) (blockT TB 5 (k56 o nx4))
def k2w:Tm:=⟨[0],[.vec (.int .i64)],[0,1,10,11],[.one (.row 0),.one (.d (.int .i64)),.one (.d (.int .i64)),.one (.d (.int .i64))],301⟩
def kp5 (o:kc) (nx4:NX TB kg) (nx5:NX TB k2w):=qM TB 1 k2w nx5 (blockT TB 8 (ko2 o nx4))
def k5e (o:kc) (nx4:NX TB kg) (nx5:NX TB k2w) (i:HL TB.den k2w.hs):Prop:=WP TB kj 168 1 (cA (cA (cA (cB (cA (cA (cA (cA (cB (cB (cB (cB (cB (cB (cB (cB (cB k15))))))))))))))))) .no (k2w.fill TB i) (kp5 o nx4 nx5)
noncomputable def kp6 (o:kc) (nx4:NX TB kg):An TB:= .lp [] k2w (k5e o nx4) fun nx5=> .no
noncomputable def kct (o:kc) (nx4:NX TB kg):An TB:= .jn k51 (k2z o nx4) [] (kp6 o nx4) [] .no
def k52:Tm:=⟨[0],[.vec (.int .i64)],[0,1,10,11],[.one (.row 0),.one (.d (.int .i64)),.one (.d (.int .i64)),.one (.d (.int .i64))],301⟩
def kcc (o:kc) (nx4:NX TB kg) (i:HL TB.den k52.hs):Prop:=ghs TB [] (k52.fill TB i) fun s=>WP TB kj 168 1 (cB (cA (cA (cA (cA (cB (cB (cB (cB (cB (cB (cB (cB (cB k15)))))))))))))) (kct o nx4) s (blockT TB 5 (k56 o nx4))
structure k2u (o:kc) (nx4:NX TB kg) (i:HL TB.den k52.hs):Prop where
 h:kcc o nx4 i
def kov (o:kc) (nx4:NX TB kg):=qM TB 1 k52 (k2u o nx4) (blockT TB 5 (k56 o nx4))
def k30:Tm:=⟨[0],[.vec (.int .i64)],[0,1,10,11],[.one (.row 0),.one (.d (.int .i64)),.one (.d (.int .i64)),.one (.d (.int .i64))],245⟩
def knh (o:kc) (nx4:NX TB kg) (nx3:NX TB k30):=qM TB 1 k30 nx3 (blockT TB 6 (kov o nx4))
def k5c (o:kc) (nx4:NX TB kg) (nx3:NX TB k30) (i:HL TB.den k30.hs):Prop:=WP TB kj 168 1 (cA (cA (cA (cA (cA (cA (cA (cB (cB (cB (cB (cB (cB (cB (cB (cB k15)))))))))))))))) .no (k30.fill TB i) (knh o nx4 nx3)
noncomputable def knr (o:kc) (nx4:NX TB kg):An TB:= .lp [] k30 (k5c o nx4) fun nx3=> .no
noncomputable def kce (o:kc) (nx4:NX TB kg):An TB:= .jn k52 (k2u o nx4) [] (knr o nx4) [] (kct o nx4)
def k3o (o:kc) (nx4:NX TB kg) (i:HL TB.den kg.hs):Prop:=WP TB kj 168 1 (cA (cA (cA (cB (cB (cB (cB (cB (cB (cB (cB (cB k15)))))))))))) (kce o nx4) (kg.fill TB i) (k56 o nx4)
noncomputable def kna (o:kc):An TB:= .lp [] kg (k3o o) fun nx4=>(kce o nx4)
noncomputable def knv (o:kc):An TB:= .nd [] .no [] (.nd [] (kna o) [] .no)
noncomputable def kcd (o:kc):An TB:= .nd [] .no [] (.nd [] .no [] (knv o))
def k53:Tm:=⟨[0],[.vec (.int .i64)],[0,1,10,11],[.one (.row 0),.one (.d (.int .i64)),.one (.d (.int .i64)),.one (.d (.int .i64))],181⟩
def kch (o:kc) (i:HL TB.den k53.hs):Prop:=ghs TB [] (k53.fill TB i) fun s=>WP TB kj 168 1 (cB (cB (cB (cB (cB k15))))) (.nd [] .no [] (kcd o)) s (retTQ TB kj ku k2b o)
structure k2v (o:kc) (i:HL TB.den k53.hs):Prop where
 h:kch o i
def knd (o:kc):=qM TB 1 k53 (k2v o) (retTQ TB kj ku k2b o)
def k2y:Tm:=⟨[0],[.vec (.int .i64)],[0,1,10,11],[.one (.row 0),.one (.d (.int .i64)),.one (.d (.int .i64)),.one (.d (.int .i64))],121⟩
def knu (o:kc) (nx2:NX TB k2y):=qM TB 1 k2y nx2 (blockT TB 2 (knd o))
def k5f (o:kc) (nx2:NX TB k2y) (i:HL TB.den k2y.hs):Prop:=WP TB kj 168 1 (cA (cA (cA (cB (cB (cB (cB k15))))))) .no (k2y.fill TB i) (knu o nx2)
noncomputable def knt (o:kc):An TB:= .lp [] k2y (k5f o) fun nx2=> .no
noncomputable def kca (o:kc):An TB:= .jn k53 (k2v o) [] (knt o) [] (.nd [] .no [] (kcd o))
def k50:Tm:=⟨[0],[.vec (.int .i64)],[0,1,10,11],[.one (.row 0),.one (.d (.int .i64)),.one (.d (.int .i64)),.one (.d (.int .i64))],121⟩
def kcf (o:kc) (i:HL TB.den k50.hs):Prop:=ghs TB [] (k50.fill TB i) fun s=>WP TB kj 168 1 (cB (cB (cB (cB k15)))) (kca o) s (retTQ TB kj ku k2b o)
structure k31 (o:kc) (i:HL TB.den k50.hs):Prop where
 h:kcf o i
def knz (o:kc):=qM TB 1 k50 (k31 o) (retTQ TB kj ku k2b o)
def k2x:Tm:=⟨[0],[.vec (.int .i64)],[0,1,10,11],[.one (.row 0),.one (.d (.int .i64)),.one (.d (.int .i64)),.one (.d (.int .i64))],65⟩
def knw (o:kc) (nx1:NX TB k2x):=qM TB 1 k2x nx1 (blockT TB 0 (knz o))
def k5d (o:kc) (nx1:NX TB k2x) (i:HL TB.den k2x.hs):Prop:=WP TB kj 168 1 (cA (cA (cA (cB (cB (cB k15)))))) .no (k2x.fill TB i) (knw o nx1)
noncomputable def kno (o:kc):An TB:= .lp [] k2x (k5d o) fun nx1=> .no
noncomputable def knj (o:kc):An TB:= .jn k50 (k31 o) [] (kno o) [] (kca o)
noncomputable def knc (o:kc):An TB:= .nd [] .no [] (.nd [] .no [] (knj o))
noncomputable def kdc (o:kc):An TB:= .nd [] .no [] (knc o)
def k86 (x:kds) (o:kc):Prop:=WPh TB kj 168 1 k15 (kdc o) (ku.st TB x) (retTQ TB kj ku k2b o)
theorem knb (o:kc):OblH TB kj 168 1 k15 (kdc o) (retTQ TB kj ku k2b o):=
 OblH.ofC (X:=((∀nx i,(k5d o) nx i=(k5d o) nx i)∧(∀nx1:NX TB k2x,True)∧(∀i,(k31 o) i=kcf o i)∧(∀nx i,(k5f o) nx i=(k5f o) nx i)∧(∀nx2:NX TB k2y,True)∧(∀i,(k2v o) i=kch o i)∧(∀nx i,(k3o o) nx i=(k3o o) nx i)∧(∀nx4:NX TB kg,((∀nx i,(k5c o nx4) nx i=(k5c o nx4) nx i)∧(∀nx3:NX TB k30,True)∧(∀i,(k2u o nx4) i=kcc o nx4 i)∧(∀nx i,(k5e o nx4) nx i=(k5e o nx4) nx i)∧(∀nx5:NX TB k2w,True)∧(∀i,(k2z o nx4) i=kc9 o nx4 i)∧True))∧True)) (by kernel_rfl) ⟨fun _ _=>rfl,fun _=>trivial,fun _=>propext ⟨fun h=>h.1,fun h=>⟨h⟩⟩,fun _ _=>rfl,fun _=>trivial,fun _=>propext ⟨fun h=>h.1,fun h=>⟨h⟩⟩,fun _ _=>rfl,fun _=>⟨fun _ _=>rfl,fun _=>trivial,fun _=>propext ⟨fun h=>h.1,fun h=>⟨h⟩⟩,fun _ _=>rfl,fun _=>trivial,fun _=>propext ⟨fun h=>h.1,fun h=>⟨h⟩⟩,trivial⟩,trivial⟩
theorem kny {x:kds} {o:kc} (h:k86 x o):ku.Snd Try.prog x o:=
 Con.soundH (c:=ku) (C:=kj) TBok ⟨inf_ok,(all_cons k8q all_nil),all_nil⟩ mix Try.func63 (show Try.f63.body=some k15 by kernel_rfl) (show Try.f63.ntmps=168 by kernel_rfl) (show Try.f63.results.toList=k2b by kernel_rfl) rfl h (knb o)
theorem kou {p1:Int} {p2:Int} {p3:Int} {w0:List Int} {r0:Int} {r1:Bool} {e0:List Int} (h:
((0≤p3∧p3<(w0.length:Int))∧(0≤p3∧p3<(w0.length:Int))∧(0≤p1∧p1<(w0.length:Int))∧(0≤p1∧p1<(w0.length:Int))∧(0≤p1∧p1<(w0.length:Int))∧(0≤p1∧p1<(w0.length:Int))∧(0≤p3∧p3<(w0.length:Int))∧(0≤p3∧p3<((w0.set p1.toNat (ix w0 p3)).length:Int))∧(w0.length=((w0.set p1.toNat (ix w0 p3)).set p3.toNat (ix w0 p1)).length)∧Md.Loop (p1,(IntKind.i64.wrap (p1+1):Int),(IntKind.i64.wrap (p2-1):Int),((w0.set p1.toNat (ix w0 p3)).set p3.toNat (ix w0 p1):List Int),()) (k5d (r0,r1,e0,())))):k86 (p1,p2,p3,w0,()) (r0,r1,e0,()):=WPh.of_eq (by kernel_rfl) h
theorem kln {r0:Int} {r1:Bool} {e0:List Int} {s1:Int} {s10:Int} {s11:Int} {g0:List Int} (h:
((g0.length=g0.length)∧Md.Loop (s1,s10,s11,g0,()) (k5f (r0,r1,e0,())))):k31 (r0,r1,e0,()) (s1,s10,s11,g0,()):=⟨mpr_of (by kernel_rfl) h⟩
theorem km4 {r0:Int} {r1:Bool} {e0:List Int} {s1:Int} {s10:Int} {s11:Int} {g0:List Int} (h:
((decide (s11<s10)=true→
(0≤s1∧s1<(g0.length:Int))∧(0≤s1∧s1<(g0.length:Int))∧(0≤s11∧s11<(g0.length:Int))∧(0≤s11∧s11<(g0.length:Int))∧(0≤s11∧s11<(g0.length:Int))∧(0≤s11∧s11<(g0.length:Int))∧(0≤s1∧s1<(g0.length:Int))∧(0≤s1∧s1<((g0.set s11.toNat (ix g0 s1)).length:Int))∧s11=r0∧true=r1∧(g0.set s11.toNat (ix g0 s1)).set s1.toNat (ix g0 s11)=e0)∧
(decide (s11<s10)=false→
(0≤s11∧s11<(g0.length:Int))∧(0≤s11∧s11<(g0.length:Int))∧(0≤s10∧s10<(g0.length:Int))∧(0≤s10∧s10<(g0.length:Int))∧(0≤s10∧s10<(g0.length:Int))∧(0≤s10∧s10<(g0.length:Int))∧(0≤s11∧s11<(g0.length:Int))∧(0≤s11∧s11<((g0.set s10.toNat (ix g0 s11)).length:Int))∧(g0.length=((g0.set s10.toNat (ix g0 s11)).set s11.toNat (ix g0 s10)).length)∧Md.Loop (s1,(IntKind.i64.wrap (s10+1):Int),(IntKind.i64.wrap (s11-1):Int),((g0.set s10.toNat (ix g0 s11)).set s11.toNat (ix g0 s10):List Int),()) (k3o (r0,r1,e0,()))))):k2v (r0,r1,e0,()) (s1,s10,s11,g0,()):=⟨mpr_of (by kernel_rfl) h⟩
theorem kle {r0:Int} {r1:Bool} {e0:List Int} {nx4:NX TB kg} {s1:Int} {s10:Int} {s11:Int} {g0:List Int} (h:
((g0.length=g0.length)∧Md.Loop (s1,s10,s11,g0,()) (k5e (r0,r1,e0,()) nx4))):k2u (r0,r1,e0,()) nx4 (s1,s10,s11,g0,()):=⟨mpr_of (by kernel_rfl) h⟩
theorem kli {r0:Int} {r1:Bool} {e0:List Int} {nx4:NX TB kg} {s1:Int} {s10:Int} {s11:Int} {g0:List Int} (h:
((decide (s11<s10)=true→
(0≤s1∧s1<(g0.length:Int))∧(0≤s1∧s1<(g0.length:Int))∧(0≤s11∧s11<(g0.length:Int))∧(0≤s11∧s11<(g0.length:Int))∧(0≤s11∧s11<(g0.length:Int))∧(0≤s11∧s11<(g0.length:Int))∧(0≤s1∧s1<(g0.length:Int))∧(0≤s1∧s1<((g0.set s11.toNat (ix g0 s1)).length:Int))∧s11=r0∧false=r1∧(g0.set s11.toNat (ix g0 s1)).set s1.toNat (ix g0 s11)=e0)∧
(decide (s11<s10)=false→
(0≤s11∧s11<(g0.length:Int))∧(0≤s11∧s11<(g0.length:Int))∧(0≤s10∧s10<(g0.length:Int))∧(0≤s10∧s10<(g0.length:Int))∧(0≤s10∧s10<(g0.length:Int))∧(0≤s10∧s10<(g0.length:Int))∧(0≤s11∧s11<(g0.length:Int))∧(0≤s11∧s11<((g0.set s10.toNat (ix g0 s11)).length:Int))∧(g0.length=((g0.set s10.toNat (ix g0 s11)).set s11.toNat (ix g0 s10)).length)∧nx4 (s1,(IntKind.i64.wrap (s10+1):Int),(IntKind.i64.wrap (s11-1):Int),((g0.set s10.toNat (ix g0 s11)).set s11.toNat (ix g0 s10):List Int),())))):k2z (r0,r1,e0,()) nx4 (s1,s10,s11,g0,()):=⟨mpr_of (by kernel_rfl) h⟩
def kcs (r0:Int) (r1:Bool) (e0:List Int) (k1:Int→Prop) (s1:Int) (s11:Int) (g0:List Int) (s10:Int):Prop:=
(decide (s10≤s11)=true→
(0≤s10∧s10<(g0.length:Int))∧(0≤s10∧s10<(g0.length:Int))∧(0≤s1∧s1<(g0.length:Int))∧(0≤s1∧s1<(g0.length:Int))∧((decide ((ix g0 s10)<(ix g0 s1)))=true→
(g0.length=g0.length)∧k1 (IntKind.i64.wrap (s10+1):Int))∧
((decide ((ix g0 s10)<(ix g0 s1)))=false→
(g0.length=g0.length)∧k31 (r0,r1,e0,()) (s1,s10,s11,g0,())))∧
(decide (s10≤s11)=false→
(g0.length=g0.length)∧k31 (r0,r1,e0,()) (s1,s10,s11,g0,()))
theorem knn {r0:Int} {r1:Bool} {e0:List Int} {s1:Int} {s11:Int} {g0:List Int} {s10:Int} (inv:Int→Prop) (μ:Int→Nat) (h0:inv s10) (hs:∀(s10:Int),inv s10→kcs r0 r1 e0 (fun s10q=>inv s10q∧μ s10q<μ s10) s1 s11 g0 s10):Md.Loop (s1,s10,s11,g0,()) (k5d (r0,r1,e0,())):=
 ⟨⟨fun s:Int×Int×Int×(List Int)×Unit=>(s.1=s1∧s.2.2.1=s11∧s.2.2.2.1=g0)∧inv s.2.1,fun s:Int×Int×Int×(List Int)×Unit=>μ s.2.1,⟨⟨rfl,rfl,rfl⟩,h0⟩,fun(s1p,s10p,s11p,g0p,()) ⟨⟨eq0,eq1,eq2⟩,hi⟩=>by
  have eq0:s1p=s1:=eq0;subst s1p;have eq1:s11p=s11:=eq1;subst s11p;have eq2:g0p=g0:=eq2;subst g0p;exact mpr_of (by kernel_rfl) ((congrArg (fun k=>kcs r0 r1 e0 k s1 s11 g0 s10p) (lpk1 (⟨rfl,rfl,rfl⟩:s1=s1∧s11=s11∧g0=g0) inv (fun s10q=>μ s10q<μ s10p))).mpr (hs s10p hi))⟩⟩
def kdb (r0:Int) (r1:Bool) (e0:List Int) (k2:Int→Prop) (s1:Int) (s10:Int) (g0:List Int) (s11:Int):Prop:=
(decide (s10≤s11)=true→
(0≤s11∧s11<(g0.length:Int))∧(0≤s11∧s11<(g0.length:Int))∧(0≤s1∧s1<(g0.length:Int))∧(0≤s1∧s1<(g0.length:Int))∧((!(decide ((ix g0 s11)<(ix g0 s1))))=true→
(g0.length=g0.length)∧k2 (IntKind.i64.wrap (s11-1):Int))∧
((!(decide ((ix g0 s11)<(ix g0 s1))))=false→
(g0.length=g0.length)∧k2v (r0,r1,e0,()) (s1,s10,s11,g0,())))∧
(decide (s10≤s11)=false→
(g0.length=g0.length)∧k2v (r0,r1,e0,()) (s1,s10,s11,g0,()))
theorem kng {r0:Int} {r1:Bool} {e0:List Int} {s1:Int} {s10:Int} {g0:List Int} {s11:Int} (inv:Int→Prop) (μ:Int→Nat) (h0:inv s11) (hs:∀(s11:Int),inv s11→kdb r0 r1 e0 (fun s11q=>inv s11q∧μ s11q<μ s11) s1 s10 g0 s11):Md.Loop (s1,s10,s11,g0,()) (k5f (r0,r1,e0,())):=
 ⟨⟨fun s:Int×Int×Int×(List Int)×Unit=>(s.1=s1∧s.2.1=s10∧s.2.2.2.1=g0)∧inv s.2.2.1,fun s:Int×Int×Int×(List Int)×Unit=>μ s.2.2.1,⟨⟨rfl,rfl,rfl⟩,h0⟩,fun(s1p,s10p,s11p,g0p,()) ⟨⟨eq0,eq1,eq2⟩,hi⟩=>by
  have eq0:s1p=s1:=eq0;subst s1p;have eq1:s10p=s10:=eq1;subst s10p;have eq2:g0p=g0:=eq2;subst g0p;exact mpr_of (by kernel_rfl) ((congrArg (fun k=>kdb r0 r1 e0 k s1 s10 g0 s11p) (lpk1 (⟨rfl,rfl,rfl⟩:s1=s1∧s10=s10∧g0=g0) inv (fun s11q=>μ s11q<μ s11p))).mpr (hs s11p hi))⟩⟩
def kcr (r0:Int) (r1:Bool) (e0:List Int) (nx4:NX TB kg) (k4:Int→Int→List Int→Prop) (s1:Int) (s10:Int) (s11:Int) (g0:List Int):Prop:=
(g0.length=g0.length)∧Md.Loop (s1,s10,s11,g0,()) (k5c (r0,r1,e0,()) nx4)
theorem kni {r0:Int} {r1:Bool} {e0:List Int} {s1:Int} {s10:Int} {s11:Int} {g0:List Int} (inv:Int→Int→List Int→Prop) (μ:Int→Int→List Int→Nat) (h0:inv s10 s11 g0) (hs:∀(s10:Int) (s11:Int) (g0:List Int),inv s10 s11 g0→kcr r0 r1 e0 (fun s:Int×Int×Int×(List Int)×Unit=>((s.1=s1)∧inv s.2.1 s.2.2.1 s.2.2.2.1)∧μ s.2.1 s.2.2.1 s.2.2.2.1<μ s10 s11 g0) (fun s10q s11q g0q=>inv s10q s11q g0q∧μ s10q s11q g0q<μ s10 s11 g0) s1 s10 s11 g0):Md.Loop (s1,s10,s11,g0,()) (k3o (r0,r1,e0,())):=
 ⟨⟨fun s:Int×Int×Int×(List Int)×Unit=>(s.1=s1)∧inv s.2.1 s.2.2.1 s.2.2.2.1,fun s:Int×Int×Int×(List Int)×Unit=>μ s.2.1 s.2.2.1 s.2.2.2.1,⟨rfl,h0⟩,fun(s1p,s10p,s11p,g0p,()) ⟨eq0,hi⟩=>by
  have eq0:s1p=s1:=eq0;subst s1p;exact mpr_of (by kernel_rfl) ((congrArg (fun k=>kcr r0 r1 e0 (fun s:Int×Int×Int×(List Int)×Unit=>((s.1=s1)∧inv s.2.1 s.2.2.1 s.2.2.2.1)∧μ s.2.1 s.2.2.1 s.2.2.2.1<μ s10p s11p g0p) k s1 s10p s11p g0p) (lpk3 (rfl:s1=s1) inv (fun s10q s11q g0q=>μ s10q s11q g0q<μ s10p s11p g0p))).mpr (hs s10p s11p g0p hi))⟩⟩
def kd7 (r0:Int) (r1:Bool) (e0:List Int) (nx4:NX TB kg) (k3:Int→Prop) (s1:Int) (s11:Int) (g0:List Int) (s10:Int):Prop:=
(decide (s10≤s11)=true→
(0≤s10∧s10<(g0.length:Int))∧(0≤s10∧s10<(g0.length:Int))∧(0≤s1∧s1<(g0.length:Int))∧(0≤s1∧s1<(g0.length:Int))∧((decide ((ix g0 s10)<(ix g0 s1)))=true→
(g0.length=g0.length)∧k3 (IntKind.i64.wrap (s10+1):Int))∧
((decide ((ix g0 s10)<(ix g0 s1)))=false→
(g0.length=g0.length)∧k2u (r0,r1,e0,()) nx4 (s1,s10,s11,g0,())))∧
(decide (s10≤s11)=false→
(g0.length=g0.length)∧k2u (r0,r1,e0,()) nx4 (s1,s10,s11,g0,()))
theorem kne {r0:Int} {r1:Bool} {e0:List Int} {nx4:NX TB kg} {s1:Int} {s11:Int} {g0:List Int} {s10:Int} (inv:Int→Prop) (μ:Int→Nat) (h0:inv s10) (hs:∀(s10:Int),inv s10→kd7 r0 r1 e0 nx4 (fun s10q=>inv s10q∧μ s10q<μ s10) s1 s11 g0 s10):Md.Loop (s1,s10,s11,g0,()) (k5c (r0,r1,e0,()) nx4):=
 ⟨⟨fun s:Int×Int×Int×(List Int)×Unit=>(s.1=s1∧s.2.2.1=s11∧s.2.2.2.1=g0)∧inv s.2.1,fun s:Int×Int×Int×(List Int)×Unit=>μ s.2.1,⟨⟨rfl,rfl,rfl⟩,h0⟩,fun(s1p,s10p,s11p,g0p,()) ⟨⟨eq0,eq1,eq2⟩,hi⟩=>by
  have eq0:s1p=s1:=eq0;subst s1p;have eq1:s11p=s11:=eq1;subst s11p;have eq2:g0p=g0:=eq2;subst g0p;exact mpr_of (by kernel_rfl) ((congrArg (fun k=>kd7 r0 r1 e0 nx4 k s1 s11 g0 s10p) (lpk1 (⟨rfl,rfl,rfl⟩:s1=s1∧s11=s11∧g0=g0) inv (fun s10q=>μ s10q<μ s10p))).mpr (hs s10p hi))⟩⟩
def kd0 (r0:Int) (r1:Bool) (e0:List Int) (nx4:NX TB kg) (k5:Int→Prop) (s1:Int) (s10:Int) (g0:List Int) (s11:Int):Prop:=
(decide (s10≤s11)=true→
(0≤s11∧s11<(g0.length:Int))∧(0≤s11∧s11<(g0.length:Int))∧(0≤s1∧s1<(g0.length:Int))∧(0≤s1∧s1<(g0.length:Int))∧((!(decide ((ix g0 s11)<(ix g0 s1))))=true→
(g0.length=g0.length)∧k5 (IntKind.i64.wrap (s11-1):Int))∧
((!(decide ((ix g0 s11)<(ix g0 s1))))=false→
(g0.length=g0.length)∧k2z (r0,r1,e0,()) nx4 (s1,s10,s11,g0,())))∧
(decide (s10≤s11)=false→
(g0.length=g0.length)∧k2z (r0,r1,e0,()) nx4 (s1,s10,s11,g0,()))
theorem knk {r0:Int} {r1:Bool} {e0:List Int} {nx4:NX TB kg} {s1:Int} {s10:Int} {g0:List Int} {s11:Int} (inv:Int→Prop) (μ:Int→Nat) (h0:inv s11) (hs:∀(s11:Int),inv s11→kd0 r0 r1 e0 nx4 (fun s11q=>inv s11q∧μ s11q<μ s11) s1 s10 g0 s11):Md.Loop (s1,s10,s11,g0,()) (k5e (r0,r1,e0,()) nx4):=
 ⟨⟨fun s:Int×Int×Int×(List Int)×Unit=>(s.1=s1∧s.2.1=s10∧s.2.2.2.1=g0)∧inv s.2.2.1,fun s:Int×Int×Int×(List Int)×Unit=>μ s.2.2.1,⟨⟨rfl,rfl,rfl⟩,h0⟩,fun(s1p,s10p,s11p,g0p,()) ⟨⟨eq0,eq1,eq2⟩,hi⟩=>by
  have eq0:s1p=s1:=eq0;subst s1p;have eq1:s10p=s10:=eq1;subst s10p;have eq2:g0p=g0:=eq2;subst g0p;exact mpr_of (by kernel_rfl) ((congrArg (fun k=>kd0 r0 r1 e0 nx4 k s1 s10 g0 s11p) (lpk1 (⟨rfl,rfl,rfl⟩:s1=s1∧s10=s10∧g0=g0) inv (fun s11q=>μ s11q<μ s11p))).mpr (hs s11p hi))⟩⟩
theorem bd63:Callable Try.prog 63:=⟨by rw[Try.func63];kernel_rfl,by rw[Try.func63];show some _≠some _;decide⟩
set_option maxHeartbeats 1000000 in
theorem kmt (p1:Int) (p2:Int) (p3:Int) (w0:List Int) (h:(0≤p1∧p1≤p3∧p3<p2∧p2≤w0.length)∧w0.length≤1099511627776):k86 (p1,p2,p3,w0,()) ((((partS w0 p1 p2 p3).1:Int):Int),(((partS w0 p1 p2 p3).2.1):Bool),(((partS w0 p1 p2 p3).2.2.toList):List Int),()):=by
 obtain⟨⟨h1,h2,h3,h4⟩,h5⟩:=h
 have hs0:=swp_arr (g:=w0) (i:=p1) (j:=p3) (by omega) (by omega) (by omega) (by omega)
 have hst:partS w0 p1 p2 p3=Sort.partition Sort.ltInt w0.toArray p1.toNat p2.toNat p3.toNat:=rfl
 unfold Sort.partition at hst
 dsimp only at hst
 rw[hs0]at hst
 have hl0:(swpL w0 p1 p3).length=w0.length:=kms
 refine kou ⟨⟨by omega,by omega⟩,⟨by omega,by omega⟩,⟨by omega,by omega⟩,⟨by omega,by omega⟩,⟨by omega,by omega⟩,⟨by omega,by omega⟩,⟨by omega,by omega⟩,⟨by omega,by rw[List.length_set];omega⟩,by rw[List.length_set,List.length_set],?_⟩
 rw[wi (p1+1) (by omega) (by omega),wi (p2-1) (by omega) (by omega)]
 generalize partS w0 p1 p2 p3=R at *
 change Md.Loop (p1,p1+1,p2-1,swpL w0 p1 p3,()) _
 generalize swpL w0 p1 p3=gs at *
 rw[show p2.toNat-1=(p2-1).toNat by omega,show p1.toNat+1=(p1+1).toNat by omega,arr_ix (g:=gs) (i:=p1) (by omega) (by omega)]at hst
 
 have rounds:∀(i j:Int) (g:List Int),(p1<i∧i≤j+1∧j<p2)→g.length=w0.length→R=((Sort.partLoop Sort.ltInt p1.toNat i.toNat j.toNat g.toArray).1,false,Sort.swp (Sort.partLoop Sort.ltInt p1.toNat i.toNat j.toNat g.toArray).2 (Sort.partLoop Sort.ltInt p1.toNat i.toNat j.toNat g.toArray).1 p1.toNat)→Md.Loop (p1,i,j,g,()) (k3o ((R.1:Int),R.2.1,R.2.2.toList,())):=by
  intro i j g a0 a1 a2
  refine kni (fun i j g=>(p1<i∧i≤j+1∧j<p2)∧g.length=w0.length∧R=((Sort.partLoop Sort.ltInt p1.toNat i.toNat j.toNat g.toArray).1,false,Sort.swp (Sort.partLoop Sort.ltInt p1.toNat i.toNat j.toNat g.toArray).2 (Sort.partLoop Sort.ltInt p1.toNat i.toNat j.toNat g.toArray).1 p1.toNat)) (fun i j _=>(j+1-i).toNat) ⟨a0,a1,a2⟩ ?_
  clear a0 a1 a2 hst hs0
  rintro i j g ⟨⟨i0,i1,i2⟩,g2,g3⟩
  refine⟨rfl,?_⟩
  rw[Sort.partLoop_eq]at g3
  have xa:=arr_ix (g:=g) (i:=p1) (by omega) (by omega)
  rw[xa]at g3
  have jj2:∀(nx:NX TB kg) (i' j' :Int),(i≤i'∧i'≤j+1∧i' -1≤j'∧j'≤j)→Sort.scanUp (fun x=>Sort.ltInt x (ix g p1)) g.toArray j.toNat i.toNat=i'.toNat→Sort.scanDown (fun x=> !Sort.ltInt x (ix g p1)) g.toArray i'.toNat j.toNat=j'.toNat→(i'≤j'→i' <j')→
    (∀g' :List Int,(((p1<IntKind.i64.wrap (i' +1)∧IntKind.i64.wrap (i' +1)≤IntKind.i64.wrap (j' -1)+1∧IntKind.i64.wrap (j' -1)<p2)∧g'.length=w0.length∧R=((Sort.partLoop Sort.ltInt p1.toNat (IntKind.i64.wrap (i' +1)).toNat (IntKind.i64.wrap (j' -1)).toNat g'.toArray).1,false,Sort.swp (Sort.partLoop Sort.ltInt p1.toNat (IntKind.i64.wrap (i' +1)).toNat (IntKind.i64.wrap (j' -1)).toNat g'.toArray).2 (Sort.partLoop Sort.ltInt p1.toNat (IntKind.i64.wrap (i' +1)).toNat (IntKind.i64.wrap (j' -1)).toNat g'.toArray).1 p1.toNat))∧(IntKind.i64.wrap (j' -1)+1-(IntKind.i64.wrap (i' +1))).toNat<(j+1-i).toNat)→nx (p1,(IntKind.i64.wrap (i' +1):Int),(IntKind.i64.wrap (j' -1):Int),g',()))→k2z ((R.1:Int),R.2.1,R.2.2.toList,()) nx (p1,i',j',g,()):=by
   intro nx i' j' ⟨q0,q1,q2,q3⟩ e1 e2 e3 hn
   rw[e1,e2]at g3
   refine kli ⟨fun c=> ?_,fun c=> ?_⟩
   ·have c:=of_decide_eq_true c
    rw[if_pos (by omega)]at g3
    have hs:=swp_arr (g:=g) (i:=j') (j:=p1) (by omega) (by omega) (by omega) (by omega)
    dsimp only at g3
    rw[hs]at g3
    rw[g3]
    exact⟨⟨by omega,by omega⟩,⟨by omega,by omega⟩,⟨by omega,by omega⟩,⟨by omega,by omega⟩,⟨by omega,by omega⟩,⟨by omega,by omega⟩,⟨by omega,by omega⟩,⟨by omega,by rw[List.length_set];omega⟩,(Int.toNat_of_nonneg (by omega)).symm,rfl,rfl⟩
   ·have c:=of_decide_eq_false c
    have hs:=swp_arr (g:=g) (i:=i') (j:=j') (by omega) (by omega) (by omega) (by omega)
    rw[if_neg (by omega),hs,show i'.toNat+1=(i' +1).toNat by omega,show j'.toNat-1=(j' -1).toNat by omega]at g3
    have w1:=wi (i' +1) (by omega) (by omega)
    have w2:=wi (j' -1) (by omega) (by omega)
    have e4:=e3 (by omega)
    have:=hn (swpL g i' j') (by rw[w1,w2];exact⟨⟨⟨by omega,by omega,by omega⟩,by rw[kms];exact g2,g3⟩,by omega⟩)
    exact⟨⟨by omega,by omega⟩,⟨by omega,by omega⟩,⟨by omega,by omega⟩,⟨by omega,by omega⟩,⟨by omega,by omega⟩,⟨by omega,by omega⟩,⟨by omega,by omega⟩,⟨by omega,by rw[List.length_set];omega⟩,by rw[List.length_set,List.length_set],this⟩
  have jj1:∀(nx:NX TB kg) (i' :Int),(i≤i'∧i'≤j+1)→Sort.scanUp (fun x=>Sort.ltInt x (ix g p1)) g.toArray j.toNat i.toNat=i'.toNat→(i'≤j→¬ix g i' <ix g p1)→
    (∀(j' :Int) (g' :List Int),(((p1<IntKind.i64.wrap (i' +1)∧IntKind.i64.wrap (i' +1)≤IntKind.i64.wrap (j' -1)+1∧IntKind.i64.wrap (j' -1)<p2)∧g'.length=w0.length∧R=((Sort.partLoop Sort.ltInt p1.toNat (IntKind.i64.wrap (i' +1)).toNat (IntKind.i64.wrap (j' -1)).toNat g'.toArray).1,false,Sort.swp (Sort.partLoop Sort.ltInt p1.toNat (IntKind.i64.wrap (i' +1)).toNat (IntKind.i64.wrap (j' -1)).toNat g'.toArray).2 (Sort.partLoop Sort.ltInt p1.toNat (IntKind.i64.wrap (i' +1)).toNat (IntKind.i64.wrap (j' -1)).toNat g'.toArray).1 p1.toNat))∧(IntKind.i64.wrap (j' -1)+1-(IntKind.i64.wrap (i' +1))).toNat<(j+1-i).toNat)→nx (p1,(IntKind.i64.wrap (i' +1):Int),(IntKind.i64.wrap (j' -1):Int),g',()))→k2u ((R.1:Int),R.2.1,R.2.2.toList,()) nx (p1,i',j,g,()):=by
   intro nx i' ⟨q0,q1⟩ e1 e2 hn
   refine kle ⟨rfl,?_⟩
   refine knk (fun j' =>(i' -1≤j'∧j'≤j)∧Sort.scanDown (fun x=> !Sort.ltInt x (ix g p1)) g.toArray i'.toNat j'.toNat=Sort.scanDown (fun x=> !Sort.ltInt x (ix g p1)) g.toArray i'.toNat j.toNat) (fun j' =>(j' +1).toNat) ⟨⟨by omega,by omega⟩,rfl⟩ ?_
   rintro j' ⟨⟨k0,k1⟩,k2⟩
   refine⟨fun c=> ?_,fun c=> ?_⟩
   ·have c:=of_decide_eq_true c
    have xj:=arr_ix (g:=g) (i:=j') (by omega) (by omega)
    rw[kx0 (by omega) c,xj,ltI_iff]at k2
    rw[wi (j' -1) (by omega) (by omega)]
    refine⟨⟨by omega,by omega⟩,⟨by omega,by omega⟩,⟨by omega,by omega⟩,⟨by omega,by omega⟩,fun d=>⟨rfl,⟨⟨by omega,by omega⟩,?_⟩,by omega⟩,fun d=>⟨rfl,?_⟩⟩
    ·rw[if_pos d]at k2
     exact k2
    ·rw[if_neg (by rw[d];decide)]at k2
     refine jj2 nx i' j' ⟨q0,q1,k0,k1⟩ e1 k2.symm (fun e=> ?_) (hn j')
     have:=e2 (by omega)
     have d:ix g j' <ix g p1:=by simpa using d
     by_cases hij:i' =j'
     ·subst hij;exact absurd d this
     ·omega
   ·have c:=of_decide_eq_false c
    rw[ktk (by omega) c]at k2
    exact⟨rfl,jj2 nx i' j' ⟨q0,q1,k0,k1⟩ e1 k2.symm (fun e=>absurd e c) (hn j')⟩
  refine kne (fun i' =>(i≤i'∧i'≤j+1)∧Sort.scanUp (fun x=>Sort.ltInt x (ix g p1)) g.toArray j.toNat i'.toNat=Sort.scanUp (fun x=>Sort.ltInt x (ix g p1)) g.toArray j.toNat i.toNat) (fun i' =>(j+2-i').toNat) ⟨⟨by omega,by omega⟩,rfl⟩ ?_
  rintro i' ⟨⟨k0,k1⟩,k2⟩
  refine⟨fun c=> ?_,fun c=> ?_⟩
  ·have c:=of_decide_eq_true c
   have xj:=arr_ix (g:=g) (i:=i') (by omega) (by omega)
   rw[k126 (by omega) c,xj,ltI_iff]at k2
   rw[wi (i' +1) (by omega) (by omega)]
   refine⟨⟨by omega,by omega⟩,⟨by omega,by omega⟩,⟨by omega,by omega⟩,⟨by omega,by omega⟩,fun d=>⟨rfl,⟨⟨by omega,by omega⟩,?_⟩,by omega⟩,fun d=>⟨rfl,?_⟩⟩
   ·rw[if_pos d]at k2
    exact k2
   ·rw[if_neg (by rw[d];decide)]at k2
    exact jj1 _ i' ⟨k0,k1⟩ k2.symm (fun _=>of_decide_eq_false d) fun j' g' q=>⟨⟨rfl,q.1⟩,q.2⟩
  ·have c:=of_decide_eq_false c
   rw[kyg (by omega) c]at k2
   exact⟨rfl,jj1 _ i' ⟨k0,k1⟩ k2.symm (fun e=>absurd e c) fun j' g' q=>⟨⟨rfl,q.1⟩,q.2⟩⟩
 
 have jj2:∀(i' j' :Int),(p1+1≤i'∧i'≤p2∧i' -1≤j'∧j'≤p2-1)→Sort.scanUp (fun x=>Sort.ltInt x (ix gs p1)) gs.toArray (p2-1).toNat (p1+1).toNat=i'.toNat→Sort.scanDown (fun x=> !Sort.ltInt x (ix gs p1)) gs.toArray i'.toNat (p2-1).toNat=j'.toNat→(i'≤j'→i' <j')→k2v ((R.1:Int),R.2.1,R.2.2.toList,()) (p1,i',j',gs,()):=by
  intro i' j' ⟨q0,q1,q2,q3⟩ e1 e2 e3
  rw[e1,e2]at hst
  refine km4 ⟨fun c=> ?_,fun c=> ?_⟩
  ·have c:=of_decide_eq_true c
   rw[if_pos (by omega)]at hst
   have hs:=swp_arr (g:=gs) (i:=j') (j:=p1) (by omega) (by omega) (by omega) (by omega)
   rw[hs]at hst
   rw[hst]
   exact⟨⟨by omega,by omega⟩,⟨by omega,by omega⟩,⟨by omega,by omega⟩,⟨by omega,by omega⟩,⟨by omega,by omega⟩,⟨by omega,by omega⟩,⟨by omega,by omega⟩,⟨by omega,by rw[List.length_set];omega⟩,(Int.toNat_of_nonneg (by omega)).symm,rfl,rfl⟩
  ·have c:=of_decide_eq_false c
   have hs:=swp_arr (g:=gs) (i:=i') (j:=j') (by omega) (by omega) (by omega) (by omega)
   rw[if_neg (by omega),hs,show i'.toNat+1=(i' +1).toNat by omega,show j'.toNat-1=(j' -1).toNat by omega]at hst
   have e4:=e3 (by omega)
   rw[wi (i' +1) (by omega) (by omega),wi (j' -1) (by omega) (by omega)]
   exact⟨⟨by omega,by omega⟩,⟨by omega,by omega⟩,⟨by omega,by omega⟩,⟨by omega,by omega⟩,⟨by omega,by omega⟩,⟨by omega,by omega⟩,⟨by omega,by omega⟩,⟨by omega,by rw[List.length_set];omega⟩,by rw[List.length_set,List.length_set],rounds _ _ (swpL gs i' j') ⟨by omega,by omega,by omega⟩ (by rw[kms];exact hl0) hst⟩
 have jj1:∀(i' :Int),(p1+1≤i'∧i'≤p2)→Sort.scanUp (fun x=>Sort.ltInt x (ix gs p1)) gs.toArray (p2-1).toNat (p1+1).toNat=i'.toNat→(i'≤p2-1→¬ix gs i' <ix gs p1)→k31 ((R.1:Int),R.2.1,R.2.2.toList,()) (p1,i',p2-1,gs,()):=by
  intro i' ⟨q0,q1⟩ e1 e2
  refine kln ⟨rfl,?_⟩
  refine kng (fun j' =>(i' -1≤j'∧j'≤p2-1)∧Sort.scanDown (fun x=> !Sort.ltInt x (ix gs p1)) gs.toArray i'.toNat j'.toNat=Sort.scanDown (fun x=> !Sort.ltInt x (ix gs p1)) gs.toArray i'.toNat (p2-1).toNat) (fun j' =>(j' +1).toNat) ⟨⟨by omega,by omega⟩,rfl⟩ ?_
  rintro j' ⟨⟨k0,k1⟩,k2⟩
  refine⟨fun c=> ?_,fun c=> ?_⟩
  ·have c:=of_decide_eq_true c
   have xj:=arr_ix (g:=gs) (i:=j') (by omega) (by omega)
   rw[kx0 (by omega) c,xj,ltI_iff]at k2
   rw[wi (j' -1) (by omega) (by omega)]
   refine⟨⟨by omega,by omega⟩,⟨by omega,by omega⟩,⟨by omega,by omega⟩,⟨by omega,by omega⟩,fun d=>⟨rfl,⟨⟨by omega,by omega⟩,?_⟩,by omega⟩,fun d=>⟨rfl,?_⟩⟩
   ·rw[if_pos d]at k2
    exact k2
   ·rw[if_neg (by rw[d];decide)]at k2
    refine jj2 i' j' ⟨q0,q1,k0,k1⟩ e1 k2.symm (fun e=> ?_)
    have:=e2 (by omega)
    have d:ix gs j' <ix gs p1:=by simpa using d
    by_cases hij:i' =j'
    ·subst hij;exact absurd d this
    ·omega
  ·have c:=of_decide_eq_false c
   rw[ktk (by omega) c]at k2
   exact⟨rfl,jj2 i' j' ⟨q0,q1,k0,k1⟩ e1 k2.symm (fun e=>absurd e c)⟩
 refine knn (fun i' =>(p1+1≤i'∧i'≤p2)∧Sort.scanUp (fun x=>Sort.ltInt x (ix gs p1)) gs.toArray (p2-1).toNat i'.toNat=Sort.scanUp (fun x=>Sort.ltInt x (ix gs p1)) gs.toArray (p2-1).toNat (p1+1).toNat) (fun i' =>(p2+2-i').toNat) ⟨⟨by omega,by omega⟩,rfl⟩ ?_
 rintro i' ⟨⟨k0,k1⟩,k2⟩
 refine⟨fun c=> ?_,fun c=> ?_⟩
 ·have c:=of_decide_eq_true c
  have xj:=arr_ix (g:=gs) (i:=i') (by omega) (by omega)
  rw[k126 (by omega) c,xj,ltI_iff]at k2
  rw[wi (i' +1) (by omega) (by omega)]
  refine⟨⟨by omega,by omega⟩,⟨by omega,by omega⟩,⟨by omega,by omega⟩,⟨by omega,by omega⟩,fun d=>⟨rfl,⟨⟨by omega,by omega⟩,?_⟩,by omega⟩,fun d=>⟨rfl,?_⟩⟩
  ·rw[if_pos d]at k2
   exact k2
  ·rw[if_neg (by rw[d];decide)]at k2
   exact jj1 i' ⟨k0,k1⟩ k2.symm (fun _=>of_decide_eq_false d)
 ·have c:=of_decide_eq_false c
  rw[kyg (by omega) c]at k2
  exact⟨rfl,jj1 i' ⟨k0,k1⟩ k2.symm (fun e=>absurd e c)⟩
noncomputable def kcg:Con TB.den:=ku.fnR (fun x=>(fun(p1:Int) (p2:Int) (p3:Int) (w0:List Int)=>(0≤p1∧p1≤p3∧p3<p2∧p2≤w0.length)∧w0.length≤1099511627776) x.1 x.2.1 x.2.2.1 x.2.2.2.1) fun x=>((fun(p1:Int) (p2:Int) (p3:Int) (w0:List Int)=>(((partS w0 p1 p2 p3).1:Int):Int)) x.1 x.2.1 x.2.2.1 x.2.2.2.1,(fun(p1:Int) (p2:Int) (p3:Int) (w0:List Int)=>(((partS w0 p1 p2 p3).2.1):Bool)) x.1 x.2.1 x.2.2.1 x.2.2.2.1,(fun(p1:Int) (p2:Int) (p3:Int) (w0:List Int)=>(((partS w0 p1 p2 p3).2.2.toList):List Int)) x.1 x.2.1 x.2.2.1 x.2.2.2.1,())
theorem kof:kcg.Ok Try.prog TB:=Con.ok_fn ku bd63 fun x h=>kny (kmt x.1 x.2.1 x.2.2.1 x.2.2.2.1 h)
def k19:Con TB.den:=Con.mk0 59 [.one (.row 0),.one (.d (.int .i64)),.one (.d (.int .i64))] [.vec (.int .i64)] (.tup []) [.vec (.int .i64)]
abbrev kc2:=HL TB.den (hsT k19.ins (hsOs k19.pre))
abbrev k20:=HL TB.den (hsV k19.res (hsOs k19.post))
noncomputable def k2e:Cx TB:=⟨inf,[],[],4,[]⟩
noncomputable def k5l:Code:=Try.f59.body.getD .skip
noncomputable def k65:List ResultVar:=Try.f59.results.toList
def klu (o:k20):=blockT TB 0 (retTQ TB k2e k19 k65 o)
def k2d:Tm:=⟨[0],[.vec (.int .i64)],[0,6,7],[.one (.row 0),.one (.d (.int .i64)),.one (.d (.int .i64))],1⟩
def klh (o:k20) (nx1:NX TB k2d):=qM TB 1 k2d nx1 (klu o)
def k4h (o:k20) (nx1:NX TB k2d) (i:HL TB.den k2d.hs):Prop:=WP TB k2e 32 1 (cA (cA (cB (cB k5l)))) .no (k2d.fill TB i) (klh o nx1)
noncomputable def kls (o:k20):An TB:= .lp [] k2d (k4h o) fun nx1=> .no
noncomputable def kbf (o:k20):An TB:= .nd [] .no [] (.nd [] .no [] (kls o))
def k7g (x:kc2) (o:k20):Prop:=WPh TB k2e 32 1 k5l (kbf o) (k19.st TB x) (retTQ TB k2e k19 k65 o)
theorem kkq (o:k20):OblH TB k2e 32 1 k5l (kbf o) (retTQ TB k2e k19 k65 o):=
 OblH.ofC (X:=((∀nx i,(k4h o) nx i=(k4h o) nx i)∧(∀nx1:NX TB k2d,True)∧True)) (by kernel_rfl) ⟨fun _ _=>rfl,fun _=>trivial,trivial⟩
theorem kku {x:kc2} {o:k20} (h:k7g x o):k19.Snd Try.prog x o:=
 Con.soundH (c:=k19) (C:=k2e) TBok ⟨inf_ok,all_nil,all_nil⟩ mix Try.func59 (show Try.f59.body=some k5l by kernel_rfl) (show Try.f59.ntmps=32 by kernel_rfl) (show Try.f59.results.toList=k65 by kernel_rfl) rfl h (kkq o)
theorem klj {p1:Int} {p2:Int} {w0:List Int} {e0:List Int} (h:
((w0.length=w0.length)∧Md.Loop (p1,(IntKind.i64.wrap (p2-1):Int),w0,()) (k4h (e0,())))):k7g (p1,p2,w0,()) (e0,()):=WPh.of_eq (by kernel_rfl) h
def kbj (e0:List Int) (k1:Int→Int→List Int→Prop) (s6:Int) (s7:Int) (g0:List Int):Prop:=
(decide (s6<s7)=true→
(0≤s7∧s7<(g0.length:Int))∧(0≤s7∧s7<(g0.length:Int))∧(0≤s6∧s6<(g0.length:Int))∧(0≤s6∧s6<(g0.length:Int))∧(0≤s6∧s6<(g0.length:Int))∧(0≤s6∧s6<(g0.length:Int))∧(0≤s7∧s7<(g0.length:Int))∧(0≤s7∧s7<((g0.set s6.toNat (ix g0 s7)).length:Int))∧(g0.length=((g0.set s6.toNat (ix g0 s7)).set s7.toNat (ix g0 s6)).length)∧k1 (IntKind.i64.wrap (s6+1):Int) (IntKind.i64.wrap (s7-1):Int) ((g0.set s6.toNat (ix g0 s7)).set s7.toNat (ix g0 s6):List Int))∧
(decide (s6<s7)=false→
 g0=e0)
theorem kkw {e0:List Int} {s6:Int} {s7:Int} {g0:List Int} (inv:Int→Int→List Int→Prop) (μ:Int→Int→List Int→Nat) (h0:inv s6 s7 g0) (hs:∀(s6:Int) (s7:Int) (g0:List Int),inv s6 s7 g0→kbj e0 (fun s6q s7q g0q=>inv s6q s7q g0q∧μ s6q s7q g0q<μ s6 s7 g0) s6 s7 g0):Md.Loop (s6,s7,g0,()) (k4h (e0,())):=
 ⟨⟨fun s:Int×Int×(List Int)×Unit=>(True)∧inv s.1 s.2.1 s.2.2.1,fun s:Int×Int×(List Int)×Unit=>μ s.1 s.2.1 s.2.2.1,⟨trivial,h0⟩,fun(s6p,s7p,g0p,()) ⟨_,hi⟩=>by
  exact mpr_of (by kernel_rfl) ((congrArg (fun k=>kbj e0 k s6p s7p g0p) (lpk3 (trivial:True) inv (fun s6q s7q g0q=>μ s6q s7q g0q<μ s6p s7p g0p))).mpr (hs s6p s7p g0p hi))⟩⟩
theorem bd59:Callable Try.prog 59:=⟨by rw[Try.func59];kernel_rfl,by rw[Try.func59];show some _≠some _;decide⟩
theorem kjf (p1:Int) (p2:Int) (w0:List Int) (h:(0≤p1∧p1≤p2∧p2≤w0.length)∧w0.length≤1099511627776):k7g (p1,p2,w0,()) (((revS w0 p1 p2):List Int),()):=by
 obtain⟨⟨h1,h2,h3⟩,h4⟩:=h
 refine klj ⟨rfl,?_⟩
 rw[wi (p2-1) (by omega) (by omega)]
 refine kkw (fun i j g=>(0≤i∧-1≤j∧i≤2199023255552∧j<w0.length)∧g.length=w0.length∧revS w0 p1 p2=(Sort.reverseLoop i.toNat j.toNat g.toArray).toList) (fun i j _=>(j-i).toNat) ⟨⟨by omega,by omega,by omega,by omega⟩,rfl,by unfold revS Sort.reverseRange;rw[show(p2-1).toNat=p2.toNat-1 by omega]⟩ ?_
 rintro i j g ⟨⟨g0,g1,g2,g3⟩,g4,g5⟩
 refine⟨fun hh=> ?_,fun hh=> ?_⟩
 ·have hh:=of_decide_eq_true hh
  rw[k17z g0 hh (by omega)]at g5
  rw[wi (i+1) (by omega) (by omega),wi (j-1) (by omega) (by omega)]
  exact⟨⟨by omega,by omega⟩,⟨by omega,by omega⟩,⟨by omega,by omega⟩,⟨by omega,by omega⟩,⟨by omega,by omega⟩,⟨by omega,by omega⟩,⟨by omega,by omega⟩,⟨by omega,by rw[List.length_set];omega⟩,by rw[List.length_set,List.length_set],⟨⟨by omega,by omega,by omega,by omega⟩,by rw[List.length_set,List.length_set];exact g4,g5⟩,by omega⟩
 ·have hh:=of_decide_eq_false hh
  rw[k16a g0 hh]at g5
  rw[g5]
noncomputable def kb1:Con TB.den:=k19.fnR (fun x=>(fun(p1:Int) (p2:Int) (w0:List Int)=>(0≤p1∧p1≤p2∧p2≤w0.length)∧w0.length≤1099511627776) x.1 x.2.1 x.2.2.1) fun x=>((fun(p1:Int) (p2:Int) (w0:List Int)=>((revS w0 p1 p2):List Int)) x.1 x.2.1 x.2.2.1,())
theorem klt:kb1.Ok Try.prog TB:=Con.ok_fn k19 bd59 fun x h=>kku (kjf x.1 x.2.1 x.2.2.1 h)
def k14:Con TB.den:=Con.mk0 46 [.one (.row 0),.one (.d (.int .i64)),.one (.d (.int .i64)),.one (.d (.int .i64))] [.vec (.int .i64)] (.tup []) [.vec (.int .i64)]
abbrev kg0:=HL TB.den (hsT k14.ins (hsOs k14.pre))
abbrev ki:=HL TB.den (hsV k14.res (hsOs k14.post))
noncomputable def k8h (rn:Nat):Con TB.den:=k14.fnR (fun x=>(fun(p1:Int) (p2:Int) (p3:Int) (w0:List Int)=>((0≤p1∧p1≤p2∧p2≤w0.length)∧w0.length≤1099511627776∧Sort.Below Sort.ltInt p1.toNat p2.toNat w0.toArray)∧(p2-p1).toNat<rn) x.1 x.2.1 x.2.2.1 x.2.2.2.1) fun x=>((fun(p1:Int) (p2:Int) (p3:Int) (w0:List Int)=>((insS w0 p1 p2):List Int)) x.1 x.2.1 x.2.2.1 x.2.2.2.1,())
noncomputable def k1e (rn:Nat):Cx TB:=⟨inf,[kaf,kcz,ka8,kbi,kb1,k8d,k77,k9y,kcg,(k8h rn)],[],4,[]⟩
noncomputable def k1n:Code:=Try.f46.body.getD .skip
noncomputable def k7i:List ResultVar:=Try.f46.results.toList
def kqs (rn:Nat) (o:ki):=blockT TB 0 (retTQ TB (k1e rn) k14 k7i o)
def kf:Tm:=⟨[0],[.vec (.int .i64)],[0,1,2,3,8,9],[.one (.row 0),.one (.d (.int .i64)),.one (.d (.int .i64)),.one (.d (.int .i64)),.one (.d (.bool)),.one (.d (.bool))],1⟩
def k4i (rn:Nat) (o:ki) (nx1:NX TB kf):=qM TB 1 kf nx1 ((kqs rn) o)
def kq2 (rn:Nat) (o:ki) (nx1:NX TB kf):=qS TB (k1e rn) 134 1 (cB (cB (cB (cB (cB (cB (cB (cB (cA (cA (cA (cB (cB k1n))))))))))))) .no (blockT TB 1 ((k4i rn) o nx1))
def k6t:Tm:=⟨[0],[.vec (.int .i64)],[0,1,2,3,8,9,10,11,87],[.one (.row 0),.one (.d (.int .i64)),.one (.d (.int .i64)),.one (.d (.int .i64)),.one (.d (.bool)),.one (.d (.bool)),.one (.d (.int .i64)),.one (.d (.int .i64)),.one (.d (.bool))],61⟩
def ke0 (rn:Nat) (o:ki) (nx1:NX TB kf) (i:HL TB.den k6t.hs):Prop:=ghs TB [] (k6t.fill TB i) fun s=>WP TB (k1e rn) 134 1 (cB (cA (cB (cB (cB (cB (cB (cB (cB (cA (cA (cA (cB (cB k1n)))))))))))))) .no s ((kq2 rn) o nx1)
structure k4j (rn:Nat) (o:ki) (nx1:NX TB kf) (i:HL TB.den k6t.hs):Prop where
 h:(ke0 rn) o nx1 i
noncomputable def kfh (rn:Nat) (o:ki) (nx1:NX TB kf):An TB:= .jn k6t ((k4j rn) o nx1) [] .no [] .no
def k5s:Tm:=⟨[0],[.vec (.int .i64)],[0,1,2,3,8,9,10,11],[.one (.row 0),.one (.d (.int .i64)),.one (.d (.int .i64)),.one (.d (.int .i64)),.one (.d (.bool)),.one (.d (.bool)),.one (.d (.int .i64)),.one (.d (.int .i64))],1⟩
def kdv (rn:Nat) (o:ki) (nx1:NX TB kf) (i:HL TB.den k5s.hs):Prop:=ghs TB [] (k5s.fill TB i) fun s=>WP TB (k1e rn) 134 1 (cB (cB (cB (cB (cB (cB (cB (cA (cA (cA (cB (cB k1n)))))))))))) (.nd [] ((kfh rn) o nx1) [] .no) s (blockT TB 1 ((k4i rn) o nx1))
structure k38 (rn:Nat) (o:ki) (nx1:NX TB kf) (i:HL TB.den k5s.hs):Prop where
 h:(kdv rn) o nx1 i
def kqd (rn:Nat) (o:ki) (nx1:NX TB kf):=qM TB 1 k5s ((k38 rn) o nx1) (blockT TB 1 ((k4i rn) o nx1))
def k6x:Tm:=⟨[0],[.vec (.int .i64)],[0,1,2,3,8,9,10,11,68],[.one (.row 0),.one (.d (.int .i64)),.one (.d (.int .i64)),.one (.d (.int .i64)),.one (.d (.bool)),.one (.d (.bool)),.one (.d (.int .i64)),.one (.d (.int .i64)),.one (.d (.bool))],1⟩
def kdq (rn:Nat) (o:ki) (nx1:NX TB kf) (i:HL TB.den k6x.hs):Prop:=ghs TB [] (k6x.fill TB i) fun s=>WP TB (k1e rn) 134 1 (cB (cA (cB (cB (cB (cB (cB (cB (cA (cA (cA (cB (cB k1n))))))))))))) .no s ((kqd rn) o nx1)
structure k39 (rn:Nat) (o:ki) (nx1:NX TB kf) (i:HL TB.den k6x.hs):Prop where
 h:(kdq rn) o nx1 i
noncomputable def kqi (rn:Nat) (o:ki) (nx1:NX TB kf):An TB:= .jn k6x ((k39 rn) o nx1) [] .no [] .no
noncomputable def kej (rn:Nat) (o:ki) (nx1:NX TB kf):An TB:= .jn k5s ((k38 rn) o nx1) [] ((kqi rn) o nx1) [] (.nd [] ((kfh rn) o nx1) [] .no)
def k6w:Tm:=⟨[0],[.vec (.int .i64)],[0,1,2,3,8,9,10,11,12],[.one (.row 0),.one (.d (.int .i64)),.one (.d (.int .i64)),.one (.d (.int .i64)),.one (.d (.bool)),.one (.d (.bool)),.one (.d (.int .i64)),.one (.d (.int .i64)),.one (.d (.int .i64))],1⟩
def kdp (rn:Nat) (o:ki) (nx1:NX TB kf) (i:HL TB.den k6w.hs):Prop:=ghs TB [] (k6w.fill TB i) fun s=>WP TB (k1e rn) 134 1 (cB (cB (cB (cB (cB (cB (cA (cA (cA (cB (cB k1n))))))))))) ((kej rn) o nx1) s (blockT TB 1 ((k4i rn) o nx1))
structure k4k (rn:Nat) (o:ki) (nx1:NX TB kf) (i:HL TB.den k6w.hs):Prop where
 h:(kdp rn) o nx1 i
noncomputable def kdt (rn:Nat) (o:ki) (nx1:NX TB kf):An TB:= .jn k6w ((k4k rn) o nx1) [] .no [] ((kej rn) o nx1)
def k6u:Tm:=⟨[0],[.vec (.int .i64)],[0,1,2,3,8,9,10],[.one (.row 0),.one (.d (.int .i64)),.one (.d (.int .i64)),.one (.d (.int .i64)),.one (.d (.bool)),.one (.d (.bool)),.one (.d (.int .i64))],1⟩
def kdm (rn:Nat) (o:ki) (nx1:NX TB kf) (i:HL TB.den k6u.hs):Prop:=ghs TB [] (k6u.fill TB i) fun s=>WP TB (k1e rn) 134 1 (cB (cB (cB (cB (cA (cA (cA (cB (cB k1n))))))))) (.nd [] .no [] ((kdt rn) o nx1)) s (blockT TB 1 ((k4i rn) o nx1))
structure k4l (rn:Nat) (o:ki) (nx1:NX TB kf) (i:HL TB.den k6u.hs):Prop where
 h:(kdm rn) o nx1 i
noncomputable def kpj (rn:Nat) (o:ki) (nx1:NX TB kf):An TB:= .jn k6u ((k4l rn) o nx1) [] .no [] (.nd [] .no [] ((kdt rn) o nx1))
noncomputable def kdr (rn:Nat) (o:ki) (nx1:NX TB kf):An TB:= .nd [] .no [] (.nd [] .no [] ((kpj rn) o nx1))
def k63 (rn:Nat) (o:ki) (nx1:NX TB kf) (i:HL TB.den kf.hs):Prop:=WP TB (k1e rn) 134 1 (cA (cA (cB (cB k1n)))) (.nd [] .no [] ((kdr rn) o nx1)) (kf.fill TB i) ((k4i rn) o nx1)
noncomputable def kpm (rn:Nat) (o:ki):An TB:= .lp [] kf ((k63 rn) o) fun nx1=>(.nd [] .no [] ((kdr rn) o nx1))
noncomputable def keo (rn:Nat) (o:ki):An TB:= .nd [] .no [] (.nd [] .no [] ((kpm rn) o))
def k8p (rn:Nat) (x:kg0) (o:ki):Prop:=WPh TB (k1e rn) 134 1 k1n ((keo rn) o) (k14.st TB x) (retTQ TB (k1e rn) k14 k7i o)
theorem kpf {rn:Nat} (o:ki):OblH TB (k1e rn) 134 1 k1n ((keo rn) o) (retTQ TB (k1e rn) k14 k7i o):=
 OblH.ofC (X:=((∀nx i,((k63 rn) o) nx i=((k63 rn) o) nx i)∧(∀nx1:NX TB kf,((∀i,((k4l rn) o nx1) i=(kdm rn) o nx1 i)∧(∀i,((k4k rn) o nx1) i=(kdp rn) o nx1 i)∧(∀i,((k39 rn) o nx1) i=(kdq rn) o nx1 i)∧(∀i,((k38 rn) o nx1) i=(kdv rn) o nx1 i)∧(∀i,((k4j rn) o nx1) i=(ke0 rn) o nx1 i)∧True))∧True)) (by kernel_rfl) ⟨fun _ _=>rfl,fun _=>⟨fun _=>propext ⟨fun h=>h.1,fun h=>⟨h⟩⟩,fun _=>propext ⟨fun h=>h.1,fun h=>⟨h⟩⟩,fun _=>propext ⟨fun h=>h.1,fun h=>⟨h⟩⟩,fun _=>propext ⟨fun h=>h.1,fun h=>⟨h⟩⟩,fun _=>propext ⟨fun h=>h.1,fun h=>⟨h⟩⟩,trivial⟩,trivial⟩
theorem kdy {rn:Nat} (hr:(k8h rn).Ok Try.prog TB) {x:kg0} {o:ki} (h:(k8p rn) x o):k14.Snd Try.prog x o:=
 Con.soundH (c:=k14) (C:=(k1e rn)) TBok ⟨inf_ok,(all_cons kkn (all_cons kpi (all_cons kkv (all_cons kn0 (all_cons klt (all_cons kfu (all_cons k8q (all_cons kk8 (all_cons kof (all_cons hr all_nil)))))))))),all_nil⟩ mix Try.func46 (show Try.f46.body=some k1n by kernel_rfl) (show Try.f46.ntmps=134 by kernel_rfl) (show Try.f46.results.toList=k7i by kernel_rfl) rfl h (kpf o)
theorem kqh {rn:Nat} {p1:Int} {p2:Int} {p3:Int} {w0:List Int} {e0:List Int} (h:
((w0.length=w0.length)∧Md.Loop (p1,p2,p3,true,true,w0,()) ((k63 rn) (e0,())))):(k8p rn) (p1,p2,p3,w0,()) (e0,()):=WPh.of_eq (by kernel_rfl) h
theorem knx {rn:Nat} {e0:List Int} {nx1:NX TB kf} {s1:Int} {s2:Int} {s3:Int} {s8:Bool} {s9:Bool} {s10:Int} {g0:List Int} (h:
((g0.length=g0.length)∧((0≤s1∧s1<s2∧s2≤g0.length)∧g0.length≤1099511627776)∧(((hintN (cpS g0 s1 s2).2)==2)=true→
(g0.length=g0.length)∧((0≤s1∧s1≤s2∧s2≤g0.length)∧g0.length≤1099511627776)∧let v2:Int:=IntKind.i64.wrap (((cpS g0 s1 s2).1:Int)-s1)
 let v3:Int:=IntKind.i64.wrap ((IntKind.i64.wrap (s2-1))-v2)
(g0.length=(revS g0 s1 s2).length)∧(k4k rn) (e0,()) nx1 (s1,s2,s3,s8,s9,s10,v3,(1:Int),((revS g0 s1 s2):List Int),()))∧
(((hintN (cpS g0 s1 s2).2)==2)=false→
(g0.length=g0.length)∧(k4k rn) (e0,()) nx1 (s1,s2,s3,s8,s9,s10,(((cpS g0 s1 s2).1:Int):Int),((hintN (cpS g0 s1 s2).2):Int),g0,())))):(k4l rn) (e0,()) nx1 (s1,s2,s3,s8,s9,s10,g0,()):=⟨mpr_of (by kernel_rfl) h⟩
theorem kns {rn:Nat} {e0:List Int} {nx1:NX TB kf} {s1:Int} {s2:Int} {s3:Int} {s8:Bool} {s9:Bool} {s10:Int} {s11:Int} {s12:Int} {g0:List Int} (h:
((s8=true→
(s9=true→
(g0.length=g0.length)∧(k39 rn) (e0,()) nx1 (s1,s2,s3,s8,s9,s10,s11,((s12==1):Bool),g0,()))∧
(s9=false→
(g0.length=g0.length)∧(k39 rn) (e0,()) nx1 (s1,s2,s3,s8,s9,s10,s11,false,g0,())))∧
(s8=false→
(g0.length=g0.length)∧(k39 rn) (e0,()) nx1 (s1,s2,s3,s8,s9,s10,s11,false,g0,())))):(k4k rn) (e0,()) nx1 (s1,s2,s3,s8,s9,s10,s11,s12,g0,()):=⟨mpr_of (by kernel_rfl) h⟩
theorem knp {rn:Nat} {e0:List Int} {nx1:NX TB kf} {s1:Int} {s2:Int} {s3:Int} {s8:Bool} {s9:Bool} {s10:Int} {s11:Int} {s68:Bool} {g0:List Int} (h:
((s68=true→
(g0.length=g0.length)∧((0≤s1∧s1<s2∧s2≤g0.length)∧g0.length≤1099511627776)∧(((pisS g0 s1 s2).2)=true→
((pisS g0 s1 s2).1.toList)=e0)∧
(((pisS g0 s1 s2).2)=false→
(g0.length=((pisS g0 s1 s2).1.toList).length)∧(k38 rn) (e0,()) nx1 (s1,s2,s3,s8,s9,s10,s11,(((pisS g0 s1 s2).1.toList):List Int),())))∧
(s68=false→
(g0.length=g0.length)∧(k38 rn) (e0,()) nx1 (s1,s2,s3,s8,s9,s10,s11,g0,())))):(k39 rn) (e0,()) nx1 (s1,s2,s3,s8,s9,s10,s11,s68,g0,()):=⟨mpr_of (by kernel_rfl) h⟩
theorem knm {rn:Nat} {e0:List Int} {nx1:NX TB kf} {s1:Int} {s2:Int} {s3:Int} {s8:Bool} {s9:Bool} {s10:Int} {s11:Int} {g0:List Int} (h:
((decide (0<s1)=true→
(0≤IntKind.i64.wrap (s1-1)∧IntKind.i64.wrap (s1-1)<(g0.length:Int))∧(0≤IntKind.i64.wrap (s1-1)∧IntKind.i64.wrap (s1-1)<(g0.length:Int))∧(0≤s11∧s11<(g0.length:Int))∧(0≤s11∧s11<(g0.length:Int))∧let r4:Bool:=(decide ((ix g0 (IntKind.i64.wrap (s1-1)))<(ix g0 s11)))
(g0.length=g0.length)∧(k4j rn) (e0,()) nx1 (s1,s2,s3,s8,s9,s10,s11,((!r4):Bool),g0,()))∧
(decide (0<s1)=false→
(g0.length=g0.length)∧(k4j rn) (e0,()) nx1 (s1,s2,s3,s8,s9,s10,s11,false,g0,())))):(k38 rn) (e0,()) nx1 (s1,s2,s3,s8,s9,s10,s11,g0,()):=⟨mpr_of (by kernel_rfl) h⟩
theorem knf {rn:Nat} {e0:List Int} {nx1:NX TB kf} {s1:Int} {s2:Int} {s3:Int} {s8:Bool} {s9:Bool} {s10:Int} {s11:Int} {s87:Bool} {g0:List Int} (h:
((s87=true→
(g0.length=g0.length)∧((0≤s1∧s1≤s11∧s11<s2∧s2≤g0.length)∧g0.length≤1099511627776)∧(g0.length=((peqS g0 s1 s2 s11).2.toList).length)∧nx1 ((((peqS g0 s1 s2 s11).1:Int):Int),s2,s3,s8,s9,(((peqS g0 s1 s2 s11).2.toList):List Int),()))∧
(s87=false→
(g0.length=g0.length)∧((0≤s1∧s1≤s11∧s11<s2∧s2≤g0.length)∧g0.length≤1099511627776)∧let v5:Int:=IntKind.i64.wrap (((partS g0 s1 s2 s11).1:Int)-s1)
 let v6:Int:=IntKind.i64.wrap (s2-((partS g0 s1 s2 s11).1:Int))
(decide (v5<v6)=true→
 let v7:Bool:=decide ((IntKind.i64.wrap (Int.tdiv s10 8))≤v5)
(g0.length=((partS g0 s1 s2 s11).2.2.toList).length)∧(((0≤s1∧s1≤((partS g0 s1 s2 s11).1:Int)∧((partS g0 s1 s2 s11).1:Int)≤((partS g0 s1 s2 s11).2.2.toList).length)∧((partS g0 s1 s2 s11).2.2.toList).length≤1099511627776∧Sort.Below Sort.ltInt s1.toNat ((partS g0 s1 s2 s11).1:Int).toNat ((partS g0 s1 s2 s11).2.2.toList).toArray)∧(((partS g0 s1 s2 s11).1:Int)-s1).toNat<rn)∧let r8:List Int:=(insS ((partS g0 s1 s2 s11).2.2.toList) s1 ((partS g0 s1 s2 s11).1:Int))
 let v9:Int:=IntKind.i64.wrap (((partS g0 s1 s2 s11).1:Int)+1)
(g0.length=r8.length)∧nx1 (v9,s2,s3,v7,(((partS g0 s1 s2 s11).2.1):Bool),r8,()))∧
(decide (v5<v6)=false→
 let v10:Bool:=decide ((IntKind.i64.wrap (Int.tdiv s10 8))≤v6)
 let v11:Int:=IntKind.i64.wrap (((partS g0 s1 s2 s11).1:Int)+1)
(g0.length=((partS g0 s1 s2 s11).2.2.toList).length)∧(((0≤v11∧v11≤s2∧s2≤((partS g0 s1 s2 s11).2.2.toList).length)∧((partS g0 s1 s2 s11).2.2.toList).length≤1099511627776∧Sort.Below Sort.ltInt v11.toNat s2.toNat ((partS g0 s1 s2 s11).2.2.toList).toArray)∧(s2-v11).toNat<rn)∧let r12:List Int:=(insS ((partS g0 s1 s2 s11).2.2.toList) v11 s2)
(g0.length=r12.length)∧nx1 (s1,(((partS g0 s1 s2 s11).1:Int):Int),s3,v10,(((partS g0 s1 s2 s11).2.1):Bool),r12,()))))):(k4j rn) (e0,()) nx1 (s1,s2,s3,s8,s9,s10,s11,s87,g0,()):=⟨mpr_of (by kernel_rfl) h⟩
def k9c (rn:Nat) (e0:List Int) (nx1:NX TB kf) (k1:Int→Int→Int→Bool→Bool→List Int→Prop) (s1:Int) (s2:Int) (s3:Int) (s8:Bool) (s9:Bool) (g0:List Int):Prop:=
 let v1:Bool:=decide ((IntKind.i64.wrap (s2-s1))≤12)
(v1=true→
(g0.length=g0.length)∧((0≤s1∧s1≤s2∧s2≤g0.length)∧g0.length≤1099511627776)∧(insS g0 s1 s2)=e0)∧
(v1=false→
((s3==0)=true→
(g0.length=g0.length)∧((0≤s1∧s1<s2∧s2≤g0.length)∧g0.length≤1099511627776)∧(heapS g0 s1 s2)=e0)∧
((s3==0)=false→
((!s8)=true→
(g0.length=g0.length)∧((0≤s1∧s1≤s2∧s2≤g0.length)∧g0.length≤1099511627776)∧(g0.length=(brkS g0 s1 s2).length)∧(k4l rn) (e0,()) nx1 (s1,s2,(IntKind.i64.wrap (s3-1):Int),s8,s9,(IntKind.i64.wrap (s2-s1):Int),((brkS g0 s1 s2):List Int),()))∧
((!s8)=false→
(g0.length=g0.length)∧(k4l rn) (e0,()) nx1 (s1,s2,s3,s8,s9,(IntKind.i64.wrap (s2-s1):Int),g0,()))))
theorem kpr {rn:Nat} {e0:List Int} {s1:Int} {s2:Int} {s3:Int} {s8:Bool} {s9:Bool} {g0:List Int} (inv:Int→Int→Int→Bool→Bool→List Int→Prop) (μ:Int→Int→Int→Bool→Bool→List Int→Nat) (h0:inv s1 s2 s3 s8 s9 g0) (hs:∀(s1:Int) (s2:Int) (s3:Int) (s8:Bool) (s9:Bool) (g0:List Int),inv s1 s2 s3 s8 s9 g0→(k9c rn) e0 (fun s:Int×Int×Int×Bool×Bool×(List Int)×Unit=>((True)∧inv s.1 s.2.1 s.2.2.1 s.2.2.2.1 s.2.2.2.2.1 s.2.2.2.2.2.1)∧μ s.1 s.2.1 s.2.2.1 s.2.2.2.1 s.2.2.2.2.1 s.2.2.2.2.2.1<μ s1 s2 s3 s8 s9 g0) (fun s1q s2q s3q s8q s9q g0q=>inv s1q s2q s3q s8q s9q g0q∧μ s1q s2q s3q s8q s9q g0q<μ s1 s2 s3 s8 s9 g0) s1 s2 s3 s8 s9 g0):Md.Loop (s1,s2,s3,s8,s9,g0,()) ((k63 rn) (e0,())):=
 ⟨⟨fun s:Int×Int×Int×Bool×Bool×(List Int)×Unit=>(True)∧inv s.1 s.2.1 s.2.2.1 s.2.2.2.1 s.2.2.2.2.1 s.2.2.2.2.2.1,fun s:Int×Int×Int×Bool×Bool×(List Int)×Unit=>μ s.1 s.2.1 s.2.2.1 s.2.2.2.1 s.2.2.2.2.1 s.2.2.2.2.2.1,⟨trivial,h0⟩,fun(s1p,s2p,s3p,s8p,s9p,g0p,()) ⟨_,hi⟩=>by
  exact mpr_of (by kernel_rfl) ((congrArg (fun k=>(k9c rn) e0 (fun s:Int×Int×Int×Bool×Bool×(List Int)×Unit=>((True)∧inv s.1 s.2.1 s.2.2.1 s.2.2.2.1 s.2.2.2.2.1 s.2.2.2.2.2.1)∧μ s.1 s.2.1 s.2.2.1 s.2.2.2.1 s.2.2.2.2.1 s.2.2.2.2.2.1<μ s1p s2p s3p s8p s9p g0p) k s1p s2p s3p s8p s9p g0p) (lpk6 (trivial:True) inv (fun s1q s2q s3q s8q s9q g0q=>μ s1q s2q s3q s8q s9q g0q<μ s1p s2p s3p s8p s9p g0p))).mpr (hs s1p s2p s3p s8p s9p g0p hi))⟩⟩
theorem bd46:Callable Try.prog 46:=⟨by rw[Try.func46];kernel_rfl,by rw[Try.func46];show some _≠some _;decide⟩
set_option maxHeartbeats 1000000 in
theorem kd1 (rn:Nat) (p1:Int) (p2:Int) (p3:Int) (w0:List Int) (h:(0≤p1∧p1≤p2∧p2≤w0.length)∧w0.length≤1099511627776∧Sort.Below Sort.ltInt p1.toNat p2.toNat w0.toArray) (hm:((p2-p1).toNat)≤rn):k8p rn (p1,p2,p3,w0,()) (((insS w0 p1 p2):List Int),()):=by
 obtain⟨⟨h1,h2,h3⟩,h4,hB⟩:=h
 have h0:=PdqI.start h1 h2 h3 hB
 have hR:insS w0 p1 p2=(insS w0 p1 p2).toArray.toList:=rfl
 rw[hR]
 generalize (insS w0 p1 p2).toArray=R at *
 refine kqh ⟨rfl,?_⟩
 refine kpr (fun a b _ _ _ g=>PdqI R w0.length a b g∧(b-a).toNat≤rn) (fun a b _ _ _ _=>(b-a).toNat) ⟨h0,hm⟩ ?_
 clear h0 hm h1 h2 h3 hB hR
 rintro a b l wb wp g ⟨hP,hb⟩
 have j5:∀(nx:NX TB kf) (l:Int) (wb wp:Bool) (len p:Int) (s:Bool) (g:List Int),PdqI R w0.length a b g→(a≤p∧p<b)→(s=true→0<a∧¬ix g (a-1)<ix g p)→(∀(a' b' l' :Int) (wb' wp' :Bool) (g' :List Int),(PdqI R w0.length a' b' g'∧(b' -a').toNat≤rn)∧(b' -a').toNat<(b-a).toNat→nx (a',b',l',wb',wp',g',()))→k4j rn (R.toList,()) nx (a,b,l,wb,wp,len,p,s,g,()):=by
  intro nx l wb wp len p s g hP ⟨q0,q1⟩ hs hn
  have a0:=hP.a0
  have bl:=hP.bl
  have gl:=hP.n
  refine knf ⟨fun e=> ?_,fun e=> ?_⟩
  ·obtain⟨s1,s2⟩:=hs e
   obtain⟨m1,m2,m3⟩:=hP.peq s1 q0 q1 s2
   have ml:=m3.n
   exact⟨rfl,⟨⟨a0,q0,q1,bl⟩,by omega⟩,by omega,hn _ _ _ _ _ _ ⟨⟨m3,by omega⟩,by omega⟩⟩
  ·obtain⟨m1,m2,m3,m4,m5,m6,m7⟩:=hP.part q0 q1
   have l6:=m6.n
   have l7:=m7.n
   generalize partS g a b p=P at *
   have dl:P.2.2.toList.length=w0.length:=by simpa using m3
   refine⟨rfl,⟨⟨a0,q0,q1,bl⟩,by omega⟩,?_⟩
   dsimp only
   have w1:=wi ((P.1:Int)-a) (by omega) (by omega)
   have w2:=wi (b-(P.1:Int)) (by omega) (by omega)
   have w3:=wi ((P.1:Int)+1) (by omega) (by omega)
   rw[w1,w2,w3]
   refine⟨fun c=>⟨by omega,⟨⟨⟨a0,m1,by omega⟩,by omega,by simpa using m4⟩,by omega⟩,by omega,hn _ _ _ _ _ _ ⟨⟨m6,by omega⟩,by omega⟩⟩,fun c=>⟨by omega,⟨⟨⟨by omega,by omega,by omega⟩,by omega,?_⟩,by omega⟩,by omega,hn _ _ _ _ _ _ ⟨⟨m7,by omega⟩,by omega⟩⟩⟩
   rw[show((P.1:Int)+1).toNat=P.1+1 by omega]
   simpa using m5
 have j4:∀(nx:NX TB kf) (l:Int) (wb wp:Bool) (len p:Int) (g:List Int),PdqI R w0.length a b g→(a≤p∧p<b)→(∀(a' b' l' :Int) (wb' wp' :Bool) (g' :List Int),(PdqI R w0.length a' b' g'∧(b' -a').toNat≤rn)∧(b' -a').toNat<(b-a).toNat→nx (a',b',l',wb',wp',g',()))→k38 rn (R.toList,()) nx (a,b,l,wb,wp,len,p,g,()):=by
  intro nx l wb wp len p g hP hp hn
  have a0:=hP.a0
  have bl:=hP.bl
  have gl:=hP.n
  refine knm ⟨fun e=> ?_,fun e=>⟨rfl,j5 nx _ _ _ _ _ _ _ hP hp (fun h=>by cases h) hn⟩⟩
  have e:=of_decide_eq_true e
  rw[wi (a-1) (by omega) (by omega)]
  refine⟨⟨by omega,by omega⟩,⟨by omega,by omega⟩,⟨by omega,by omega⟩,⟨by omega,by omega⟩,rfl,j5 nx _ _ _ _ _ _ _ hP hp (fun h=>⟨e,?_⟩) hn⟩
  simpa using h
 have j3:∀(nx:NX TB kf) (l:Int) (wb wp:Bool) (len p:Int) (s:Bool) (g:List Int),PdqI R w0.length a b g→(a≤p∧p<b)→(∀(a' b' l' :Int) (wb' wp' :Bool) (g' :List Int),(PdqI R w0.length a' b' g'∧(b' -a').toNat≤rn)∧(b' -a').toNat<(b-a).toNat→nx (a',b',l',wb',wp',g',()))→k39 rn (R.toList,()) nx (a,b,l,wb,wp,len,p,s,g,()):=by
  intro nx l wb wp len p s g hP hp hn
  have a0:=hP.a0
  have bl:=hP.bl
  have gl:=hP.n
  refine knp ⟨fun e=> ?_,fun e=>⟨rfl,j4 nx _ _ _ _ _ _ hP hp hn⟩⟩
  obtain⟨m1,m2⟩:=hP.pis (by omega)
  have ml:=m1.n
  exact⟨rfl,⟨⟨a0,by omega,bl⟩,by omega⟩,fun e2=>m2 e2,fun e2=>⟨by omega,j4 nx _ _ _ _ _ _ m1 hp hn⟩⟩
 have j2:∀(nx:NX TB kf) (l:Int) (wb wp:Bool) (len p h:Int) (g:List Int),PdqI R w0.length a b g→(a≤p∧p<b)→(∀(a' b' l' :Int) (wb' wp' :Bool) (g' :List Int),(PdqI R w0.length a' b' g'∧(b' -a').toNat≤rn)∧(b' -a').toNat<(b-a).toNat→nx (a',b',l',wb',wp',g',()))→k4k rn (R.toList,()) nx (a,b,l,wb,wp,len,p,h,g,()):=by
  intro nx l wb wp len p h g hP hp hn
  exact kns ⟨fun e=>⟨fun e2=>⟨rfl,j3 nx _ _ _ _ _ _ _ hP hp hn⟩,fun e2=>⟨rfl,j3 nx _ _ _ _ _ _ _ hP hp hn⟩⟩,fun e=>⟨rfl,j3 nx _ _ _ _ _ _ _ hP hp hn⟩⟩
 have j1:∀(nx:NX TB kf) (l:Int) (wb wp:Bool) (len:Int) (g:List Int),a<b→PdqI R w0.length a b g→(∀(a' b' l' :Int) (wb' wp' :Bool) (g' :List Int),(PdqI R w0.length a' b' g'∧(b' -a').toNat≤rn)∧(b' -a').toNat<(b-a).toNat→nx (a',b',l',wb',wp',g',()))→k4l rn (R.toList,()) nx (a,b,l,wb,wp,len,g,()):=by
  intro nx l wb wp len g hab hP hn
  have a0:=hP.a0
  have bl:=hP.bl
  have gl:=hP.n
  have hc:=cpS_rng (g:=g) (a:=a) (b:=b) a0 hab
  have hr:=hP.rev
  have rl:=hr.n
  refine knx ⟨rfl,⟨⟨a0,hab,bl⟩,by omega⟩,fun e=>⟨rfl,⟨⟨a0,by omega,bl⟩,by omega⟩,?_⟩,fun e=>⟨rfl,j2 nx _ _ _ _ _ _ _ hP ⟨hc.1,hc.2⟩ hn⟩⟩
  dsimp only
  rw[wi (((cpS g a b).1:Int)-a) (by omega) (by omega),wi (b-1) (by omega) (by omega),wi (b-1-(((cpS g a b).1:Int)-a)) (by omega) (by omega)]
  exact⟨by omega,j2 nx _ _ _ _ _ _ _ hr ⟨by omega,by omega⟩ hn⟩
 have a0:=hP.a0
 have ab:=hP.ab
 have bl:=hP.bl
 have gl:=hP.n
 unfold k9c
 dsimp only
 have w1:=wi (b-a) (by omega) (by omega)
 refine⟨fun e=>⟨rfl,⟨⟨a0,ab,bl⟩,by omega⟩,hP.ins⟩,fun e=> ?_⟩
 have e:¬b-a≤12:=by rw[w1]at e;exact of_decide_eq_false e
 refine⟨fun e2=>⟨rfl,⟨⟨a0,by omega,bl⟩,by omega⟩,hP.heap⟩,fun e2=>⟨fun e3=> ?_,fun e3=> ?_⟩⟩
 ·have hk:=hP.brk
  have kl:=hk.n
  exact⟨rfl,⟨⟨a0,ab,bl⟩,by omega⟩,by omega,j1 _ _ _ _ _ _ (by omega) hk fun a' b' l' wb' wp' g' q=>⟨⟨trivial,q.1⟩,q.2⟩⟩
 ·exact⟨rfl,j1 _ _ _ _ _ _ (by omega) hP fun a' b' l' wb' wp' g' q=>⟨⟨trivial,q.1⟩,q.2⟩⟩
theorem kdu:∀rn:Nat,(k8h rn).Ok Try.prog TB
 |0=>Con.ok_fn k14 bd46 fun _ h=>absurd h.2 (Nat.not_lt_zero _)
 |rn+1=>Con.ok_fn k14 bd46 fun x h=>kdy (kdu rn) (kd1 rn x.1 x.2.1 x.2.2.1 x.2.2.2.1 h.1 (Nat.lt_succ_iff.1 h.2))
noncomputable def kdl:Con TB.den:=k14.fnR (fun x=>(fun(p1:Int) (p2:Int) (p3:Int) (w0:List Int)=>(0≤p1∧p1≤p2∧p2≤w0.length)∧w0.length≤1099511627776∧Sort.Below Sort.ltInt p1.toNat p2.toNat w0.toArray) x.1 x.2.1 x.2.2.1 x.2.2.2.1) fun x=>((fun(p1:Int) (p2:Int) (p3:Int) (w0:List Int)=>((insS w0 p1 p2):List Int)) x.1 x.2.1 x.2.2.1 x.2.2.2.1,())
theorem kq4:kdl.Ok Try.prog TB:=Con.ok_fn k14 bd46 fun x h=>kdy (kdu ((fun(p1:Int) (p2:Int) (p3:Int) (w0:List Int)=>((p2-p1).toNat:Nat)) x.1 x.2.1 x.2.2.1 x.2.2.2.1)) (kd1 ((fun(p1:Int) (p2:Int) (p3:Int) (w0:List Int)=>((p2-p1).toNat:Nat)) x.1 x.2.1 x.2.2.1 x.2.2.2.1) x.1 x.2.1 x.2.2.1 x.2.2.2.1 h (Nat.le_refl _))
def k3i:Con TB.den:=Con.mk0 37 [.one (.row 0)] [.vec (.int .i64)] (.tup []) [.vec (.int .i64)]
abbrev kso:=HL TB.den (hsT k3i.ins (hsOs k3i.pre))
abbrev ke4:=HL TB.den (hsV k3i.res (hsOs k3i.post))
noncomputable def k9t:Cx TB:=⟨inf,[kuc,kdl],[],4,[]⟩
noncomputable def kg2:Code:=Try.f37.body.getD .skip
noncomputable def kiy:List ResultVar:=Try.f37.results.toList
noncomputable def krj (o:ke4):An TB:= .no
def kg9 (x:kso) (o:ke4):Prop:=WPh TB k9t 11 1 kg2 (krj o) (k3i.st TB x) (retTQ TB k9t k3i kiy o)
theorem k10b (o:ke4):OblH TB k9t 11 1 kg2 (krj o) (retTQ TB k9t k3i kiy o):=
 OblH.ofC (X:=True) (by kernel_rfl) trivial
theorem k10d {x:kso} {o:ke4} (h:kg9 x o):k3i.Snd Try.prog x o:=
 Con.soundH (c:=k3i) (C:=k9t) TBok ⟨inf_ok,(all_cons k13e (all_cons kq4 all_nil)),all_nil⟩ mix Try.func37 (show Try.f37.body=some kg2 by kernel_rfl) (show Try.f37.ntmps=11 by kernel_rfl) (show Try.f37.results.toList=kiy by kernel_rfl) rfl h (k10b o)
theorem k128 {w0:List Int} {e0:List Int} (h:
((U64 (IntKind.u64.wrap (w0.length:Int)))∧let r1:Int:=(len64 (IntKind.u64.wrap (w0.length:Int)))
(w0.length=w0.length)∧((0≤(0:Int)∧(0:Int)≤(w0.length:Int)∧(w0.length:Int)≤w0.length)∧w0.length≤1099511627776∧Sort.Below Sort.ltInt (0:Int).toNat (w0.length:Int).toNat w0.toArray)∧(insS w0 (0:Int) (w0.length:Int))=e0)):kg9 (w0,()) (e0,()):=WPh.of_eq (by kernel_rfl) h
theorem bd37:Callable Try.prog 37:=⟨by rw[Try.func37];kernel_rfl,by rw[Try.func37];show some _≠some _;decide⟩
theorem kye (w0:List Int) (h:w0.length≤1099511627776):kg9 (w0,()) (((srt w0):List Int),()):=by
 refine k128 ⟨by rw[wu _ (by omega) (by omega)];omega,?_⟩
 refine⟨rfl,⟨⟨by omega,by omega,by omega⟩,h,Or.inl rfl⟩,?_⟩
 exact k1ho w0
noncomputable def kpv:Con TB.den:=k3i.fnR (fun x=>(fun(w0:List Int)=>w0.length≤1099511627776) x.1) fun x=>((fun(w0:List Int)=>((srt w0):List Int)) x.1,())
theorem k11f:kpv.Ok Try.prog TB:=Con.ok_fn k3i bd37 fun x h=>k10d (kye x.1 h)
def k1g:Con TB.den:=Con.mk0 26 [.one (.ptr 0 0),.agg [.d (.int .u64),.d (.int .u64)],.one (.d (.int .i64)),.one (.d (.int .i64))] [.cells [.d (.bool),.d (.int .u64),.d (.int .i64),.own 1,.mp 2,.mp 3,.mp 4],.tip (.st 1),.map (.str) (.int .i64),.map (.str) (.sl (.int .u64)),.map (.str) (.bool)] (.tup [.one (.d (.sl (.int .i64))),.agg [.d (.int .u64),.d (.int .u64)]]) [.cells [.d (.bool),.d (.int .u64),.d (.int .i64),.own 1,.mp 2,.mp 3,.mp 4],.tip (.st 1),.map (.str) (.int .i64),.map (.str) (.sl (.int .u64)),.map (.str) (.bool)]
abbrev khw:=HL TB.den (hsT k1g.ins (hsOs k1g.pre))
abbrev kw:=HL TB.den (hsV k1g.res (hsOs k1g.post))
noncomputable def k1h:Cx TB:=⟨inf,[k7z,koo,kpv],[],4,[]⟩
noncomputable def k2c:Code:=Try.f26.body.getD .skip
noncomputable def k5n:List ResultVar:=Try.f26.results.toList
noncomputable def khb (o:kw):An TB:= .nd [] .no [] (.nd [] .no [] (.nd [] .no [] (.rt [.frz 8 [8]])))
def kt3 (o:kw):=qS TB k1h 82 5 (cB (cB (cB (cB (cB k2c))))) (khb o) (retTQ TB k1h k1g k5n o)
def k4b:Tm:=⟨[0,1,2,3,4,5,6,7],[.cells [.d (.bool),.d (.int .u64),.d (.int .i64),.own 1,.mp 2,.mp 3,.mp 4],.tip (.st 1),.map (.str) (.int .i64),.map (.str) (.sl (.int .u64)),.map (.str) (.bool),.cells [.d (.int .u64),.d (.int .u64)],.cells [.d (.int .u64),.d (.int .u64)],.vec (.int .i64)],[0,2,3,5,9,10,40,41],[.one (.ptr 0 0),.one (.d (.int .i64)),.one (.d (.int .i64)),.one (.ptr 5 0),.one (.ptr 6 0),.one (.row 7),.one (.d (.int .i64)),.one (.d (.int .i64))],8⟩
def kt0 (o:kw) (nx2:NX TB k4b):=qM TB 5 k4b nx2 (blockT TB 2 (kt3 o))
def k6n (o:kw) (nx2:NX TB k4b) (i:HL TB.den k4b.hs):Prop:=WP TB k1h 82 5 (cA (cA (cB (cA (cB (cB (cB (cB k2c)))))))) .no (k4b.fill TB i) (kt0 o nx2)
noncomputable def ktf (o:kw):An TB:= .lp [] k4b (k6n o) fun nx2=> .no
noncomputable def khj (o:kw):An TB:= .nd [] (.nd [] .no [] (ktf o)) [] (khb o)
def kta (o:kw):=qS TB k1h 82 5 (cB (cB (cB (cB k2c)))) (khj o) (retTQ TB k1h k1g k5n o)
def k4a:Tm:=⟨[0,1,2,3,4,5,6,7],[.cells [.d (.bool),.d (.int .u64),.d (.int .i64),.own 1,.mp 2,.mp 3,.mp 4],.tip (.st 1),.map (.str) (.int .i64),.map (.str) (.sl (.int .u64)),.map (.str) (.bool),.cells [.d (.int .u64),.d (.int .u64)],.cells [.d (.int .u64),.d (.int .u64)],.vec (.int .i64)],[0,2,3,5,9,10,31,32],[.one (.ptr 0 0),.one (.d (.int .i64)),.one (.d (.int .i64)),.one (.ptr 5 0),.one (.ptr 6 0),.one (.row 7),.one (.d (.int .i64)),.one (.d (.int .i64))],8⟩
def ksz (o:kw) (nx1:NX TB k4a):=qM TB 5 k4a nx1 (blockT TB 0 (kta o))
def k6p (o:kw) (nx1:NX TB k4a) (i:HL TB.den k4a.hs):Prop:=WP TB k1h 82 5 (cA (cA (cB (cA (cB (cB (cB k2c))))))) .no (k4a.fill TB i) (ksz o nx1)
noncomputable def ks3 (o:kw):An TB:= .lp [] k4a (k6p o) fun nx1=> .no
noncomputable def kgk (o:kw):An TB:= .nd [] (.nd [] .no [] (ks3 o)) [] (khj o)
def ksa (o:kw):=qS TB k1h 82 5 (cB (cB k2c)) (.nd [] .no [] (kgk o)) (retTQ TB k1h k1g k5n o)
def k80:Tm:=⟨[0,1,2,3,4,5,6],[.cells [.d (.bool),.d (.int .u64),.d (.int .i64),.own 1,.mp 2,.mp 3,.mp 4],.tip (.st 1),.map (.str) (.int .i64),.map (.str) (.sl (.int .u64)),.map (.str) (.bool),.cells [.d (.int .u64),.d (.int .u64)],.cells [.d (.int .u64),.d (.int .u64)]],[0,2,3,5,9,26],[.one (.ptr 0 0),.one (.d (.int .i64)),.one (.d (.int .i64)),.one (.ptr 5 0),.one (.ptr 6 0),.one (.d (.bool))],7⟩
def kgq (o:kw) (i:HL TB.den k80.hs):Prop:=ghs TB [] (k80.fill TB i) fun s=>WP TB k1h 82 5 (cB (cA (cB k2c))) .no s (ksa o)
structure k4c (o:kw) (i:HL TB.den k80.hs):Prop where
 h:kgq o i
noncomputable def ksb (o:kw):An TB:= .jn k80 (k4c o) [] .no [] .no
noncomputable def ks4 (o:kw):An TB:= .nd [] (ksb o) [] (.nd [] .no [] (kgk o))
noncomputable def khk (o:kw):An TB:= .nd [] .no [] (ks4 o)
def k9o (x:khw) (o:kw):Prop:=WPh TB k1h 82 5 k2c (khk o) (k1g.st TB x) (retTQ TB k1h k1g k5n o)
theorem ks9 (o:kw):OblH TB k1h 82 5 k2c (khk o) (retTQ TB k1h k1g k5n o):=
 OblH.ofC (X:=((∀i,(k4c o) i=kgq o i)∧(∀nx i,(k6p o) nx i=(k6p o) nx i)∧(∀nx1:NX TB k4a,True)∧(∀nx i,(k6n o) nx i=(k6n o) nx i)∧(∀nx2:NX TB k4b,True)∧True)) (by kernel_rfl) ⟨fun _=>propext ⟨fun h=>h.1,fun h=>⟨h⟩⟩,fun _ _=>rfl,fun _=>trivial,fun _ _=>rfl,fun _=>trivial,trivial⟩
theorem ksd {x:khw} {o:kw} (h:k9o x o):k1g.Snd Try.prog x o:=
 Con.soundH (c:=k1g) (C:=k1h) TBok ⟨inf_ok,(all_cons kbb (all_cons k10a (all_cons k11f all_nil))),all_nil⟩ mix Try.func26 (show Try.f26.body=some k2c by kernel_rfl) (show Try.f26.ntmps=82 by kernel_rfl) (show Try.f26.results.toList=k5n by kernel_rfl) rfl h (ks9 o)
theorem kt6 {p1:TTranscript} {p2:Int} {p3:Int} {c0_0:Bool} {c0_1:Int} {c0_2:Int} {w1:List TQuestion} {w2k:List ByteArray} {w2v:List Int} {w3k:List ByteArray} {w3v:List (List Int)} {w4k:List ByteArray} {w4v:List Bool} {r0:List Int} {r1:TTranscript} {d0_0:Bool} {d0_1:Int} {d0_2:Int} {e1:List TQuestion} {e2k:List ByteArray} {e2v:List Int} {e3k:List ByteArray} {e3v:List (List Int)} {e4k:List ByteArray} {e4v:List Bool} (h:
((decide (p3<0)=true→
(w1=w1)∧k4c (r0,r1.State,r1.Count,d0_0,d0_1,d0_2,e1,e2k,e2v,e3k,e3v,e4k,e4v,()) (p2,p3,true,c0_0,c0_1,c0_2,p1.State,p1.Count,(0:Int),(0:Int),w1,w2k,w2v,w3k,w3v,w4k,w4v,()))∧
(decide (p3<0)=false→
(decide (p2<p3)=true→
(w1=w1)∧k4c (r0,r1.State,r1.Count,d0_0,d0_1,d0_2,e1,e2k,e2v,e3k,e3v,e4k,e4v,()) (p2,p3,true,c0_0,c0_1,c0_2,p1.State,p1.Count,(0:Int),(0:Int),w1,w2k,w2v,w3k,w3v,w4k,w4v,()))∧
(decide (p2<p3)=false→
(w1=w1)∧k4c (r0,r1.State,r1.Count,d0_0,d0_1,d0_2,e1,e2k,e2v,e3k,e3v,e4k,e4v,()) (p2,p3,(decide (1024<p2):Bool),c0_0,c0_1,c0_2,p1.State,p1.Count,(0:Int),(0:Int),w1,w2k,w2v,w3k,w3v,w4k,w4v,()))))):k9o (p1.State,p1.Count,p2,p3,c0_0,c0_1,c0_2,w1,w2k,w2v,w3k,w3v,w4k,w4v,()) (r0,r1.State,r1.Count,d0_0,d0_1,d0_2,e1,e2k,e2v,e3k,e3v,e4k,e4v,()):=WPh.of_eq (by kernel_rfl) h
theorem kf4 {r0:List Int} {r1:TTranscript} {d0_0:Bool} {d0_1:Int} {d0_2:Int} {e1:List TQuestion} {e2k:List ByteArray} {e2v:List Int} {e3k:List ByteArray} {e3v:List (List Int)} {e4k:List ByteArray} {e4v:List Bool} {s2:Int} {s3:Int} {s26:Bool} {h0_0:Bool} {h0_1:Int} {h0_2:Int} {h5_0:Int} {h5_1:Int} {h6_0:Int} {h6_1:Int} {g1:List TQuestion} {g2k:List ByteArray} {g2v:List Int} {g3k:List ByteArray} {g3v:List (List Int)} {g4k:List ByteArray} {g4v:List Bool} (h:
((s26=true→
(g1=g1)∧([]:List Int)=r0∧h5_0=r1.State∧h5_1=r1.Count∧h0_0=d0_0∧h0_1=d0_1∧h0_2=d0_2∧g1=e1∧g2k=e2k∧g2v=e2v∧g3k=e3k∧g3v=e3v∧g4k=e4k∧g4v=e4v)∧
(s26=false→
 0≤s2∧s2≤s2∧(s2.toNat*8≤140737488355328)∧(s2.toNat≤maxLen)∧(g1=g1)∧(s2.toNat=(List.replicate s2.toNat (0:Int)).length)∧Md.Loop (s2,s3,((s2.toNat:Int):Int),(0:Int),h0_0,h0_1,h0_2,h5_0,h5_1,h6_0,h6_1,g1,g2k,g2v,g3k,g3v,g4k,g4v,(List.replicate s2.toNat (0:Int):List Int),()) (k6p (r0,r1.State,r1.Count,d0_0,d0_1,d0_2,e1,e2k,e2v,e3k,e3v,e4k,e4v,()))))):k4c (r0,r1.State,r1.Count,d0_0,d0_1,d0_2,e1,e2k,e2v,e3k,e3v,e4k,e4v,()) (s2,s3,s26,h0_0,h0_1,h0_2,h5_0,h5_1,h6_0,h6_1,g1,g2k,g2v,g3k,g3v,g4k,g4v,()):=⟨mpr_of (by kernel_rfl) h⟩
def khc (r0:List Int) (r1:TTranscript) (d0_0:Bool) (d0_1:Int) (d0_2:Int) (e1:List TQuestion) (e2k:List ByteArray) (e2v:List Int) (e3k:List ByteArray) (e3v:List (List Int)) (e4k:List ByteArray) (e4v:List Bool) (k1:Int→List Int→Prop) (s2:Int) (s3:Int) (s31:Int) (h0_0:Bool) (h0_1:Int) (h0_2:Int) (h5_0:Int) (h5_1:Int) (h6_0:Int) (h6_1:Int) (g1:List TQuestion) (g2k:List ByteArray) (g2v:List Int) (g3k:List ByteArray) (g3v:List (List Int)) (g4k:List ByteArray) (g4v:List Bool) (s32:Int) (g7:List Int):Prop:=
(decide (s32<s31)=true→
(0≤s32∧s32<(g7.length:Int))∧(0≤s32∧s32<(g7.length:Int))∧(g1=g1)∧(g7.length=(g7.set s32.toNat s32).length)∧k1 (IntKind.i64.wrap (s32+1):Int) (g7.set s32.toNat s32:List Int))∧
(decide (s32<s31)=false→
(g1=g1)∧(g7.length=g7.length)∧Md.Loop (s2,s3,s3,(0:Int),h0_0,h0_1,h0_2,h5_0,h5_1,h6_0,h6_1,g1,g2k,g2v,g3k,g3v,g4k,g4v,g7,()) (k6n (r0,r1.State,r1.Count,d0_0,d0_1,d0_2,e1,e2k,e2v,e3k,e3v,e4k,e4v,())))
theorem ks2 {r0:List Int} {r1:TTranscript} {d0_0:Bool} {d0_1:Int} {d0_2:Int} {e1:List TQuestion} {e2k:List ByteArray} {e2v:List Int} {e3k:List ByteArray} {e3v:List (List Int)} {e4k:List ByteArray} {e4v:List Bool} {s2:Int} {s3:Int} {s31:Int} {h0_0:Bool} {h0_1:Int} {h0_2:Int} {h5_0:Int} {h5_1:Int} {h6_0:Int} {h6_1:Int} {g1:List TQuestion} {g2k:List ByteArray} {g2v:List Int} {g3k:List ByteArray} {g3v:List (List Int)} {g4k:List ByteArray} {g4v:List Bool} {s32:Int} {g7:List Int} (inv:Int→List Int→Prop) (μ:Int→List Int→Nat) (h0:inv s32 g7) (hs:∀(s32:Int) (g7:List Int),inv s32 g7→khc r0 r1 d0_0 d0_1 d0_2 e1 e2k e2v e3k e3v e4k e4v (fun s32q g7q=>inv s32q g7q∧μ s32q g7q<μ s32 g7) s2 s3 s31 h0_0 h0_1 h0_2 h5_0 h5_1 h6_0 h6_1 g1 g2k g2v g3k g3v g4k g4v s32 g7):Md.Loop (s2,s3,s31,s32,h0_0,h0_1,h0_2,h5_0,h5_1,h6_0,h6_1,g1,g2k,g2v,g3k,g3v,g4k,g4v,g7,()) (k6p (r0,r1.State,r1.Count,d0_0,d0_1,d0_2,e1,e2k,e2v,e3k,e3v,e4k,e4v,())):=
 ⟨⟨fun s:Int×Int×Int×Int×Bool×Int×Int×Int×Int×Int×Int×(List TQuestion)×(List ByteArray)×(List Int)×(List ByteArray)×(List (List Int))×(List ByteArray)×(List Bool)×(List Int)×Unit=>(s.1=s2∧s.2.1=s3∧s.2.2.1=s31∧s.2.2.2.2.1=h0_0∧s.2.2.2.2.2.1=h0_1∧s.2.2.2.2.2.2.1=h0_2∧s.2.2.2.2.2.2.2.1=h5_0∧s.2.2.2.2.2.2.2.2.1=h5_1∧s.2.2.2.2.2.2.2.2.2.1=h6_0∧s.2.2.2.2.2.2.2.2.2.2.1=h6_1∧s.2.2.2.2.2.2.2.2.2.2.2.1=g1∧s.2.2.2.2.2.2.2.2.2.2.2.2.1=g2k∧s.2.2.2.2.2.2.2.2.2.2.2.2.2.1=g2v∧s.2.2.2.2.2.2.2.2.2.2.2.2.2.2.1=g3k∧s.2.2.2.2.2.2.2.2.2.2.2.2.2.2.2.1=g3v∧s.2.2.2.2.2.2.2.2.2.2.2.2.2.2.2.2.1=g4k∧s.2.2.2.2.2.2.2.2.2.2.2.2.2.2.2.2.2.1=g4v)∧inv s.2.2.2.1 s.2.2.2.2.2.2.2.2.2.2.2.2.2.2.2.2.2.2.1,fun s:Int×Int×Int×Int×Bool×Int×Int×Int×Int×Int×Int×(List TQuestion)×(List ByteArray)×(List Int)×(List ByteArray)×(List (List Int))×(List ByteArray)×(List Bool)×(List Int)×Unit=>μ s.2.2.2.1 s.2.2.2.2.2.2.2.2.2.2.2.2.2.2.2.2.2.2.1,⟨⟨rfl,rfl,rfl,rfl,rfl,rfl,rfl,rfl,rfl,rfl,rfl,rfl,rfl,rfl,rfl,rfl,rfl⟩,h0⟩,fun(s2p,s3p,s31p,s32p,h0_0p,h0_1p,h0_2p,h5_0p,h5_1p,h6_0p,h6_1p,g1p,g2kp,g2vp,g3kp,g3vp,g4kp,g4vp,g7p,()) ⟨⟨eq0,eq1,eq2,eq3,eq4,eq5,eq6,eq7,eq8,eq9,eq10,eq11,eq12,eq13,eq14,eq15,eq16⟩,hi⟩=>by
  have eq0:s2p=s2:=eq0;subst s2p;have eq1:s3p=s3:=eq1;subst s3p;have eq2:s31p=s31:=eq2;subst s31p;have eq3:h0_0p=h0_0:=eq3;subst h0_0p;have eq4:h0_1p=h0_1:=eq4;subst h0_1p;have eq5:h0_2p=h0_2:=eq5;subst h0_2p;have eq6:h5_0p=h5_0:=eq6;subst h5_0p;have eq7:h5_1p=h5_1:=eq7;subst h5_1p;have eq8:h6_0p=h6_0:=eq8;subst h6_0p;have eq9:h6_1p=h6_1:=eq9;subst h6_1p;have eq10:g1p=g1:=eq10;subst g1p;have eq11:g2kp=g2k:=eq11;subst g2kp;have eq12:g2vp=g2v:=eq12;subst g2vp;have eq13:g3kp=g3k:=eq13;subst g3kp;have eq14:g3vp=g3v:=eq14;subst g3vp;have eq15:g4kp=g4k:=eq15;subst g4kp;have eq16:g4vp=g4v:=eq16;subst g4vp;exact mpr_of (by kernel_rfl) ((congrArg (fun k=>khc r0 r1 d0_0 d0_1 d0_2 e1 e2k e2v e3k e3v e4k e4v k s2 s3 s31 h0_0 h0_1 h0_2 h5_0 h5_1 h6_0 h6_1 g1 g2k g2v g3k g3v g4k g4v s32p g7p) (lpk2 (⟨rfl,rfl,rfl,rfl,rfl,rfl,rfl,rfl,rfl,rfl,rfl,rfl,rfl,rfl,rfl,rfl,rfl⟩:s2=s2∧s3=s3∧s31=s31∧h0_0=h0_0∧h0_1=h0_1∧h0_2=h0_2∧h5_0=h5_0∧h5_1=h5_1∧h6_0=h6_0∧h6_1=h6_1∧g1=g1∧g2k=g2k∧g2v=g2v∧g3k=g3k∧g3v=g3v∧g4k=g4k∧g4v=g4v) inv (fun s32q g7q=>μ s32q g7q<μ s32p g7p))).mpr (hs s32p g7p hi))⟩⟩
def kho (r0:List Int) (r1:TTranscript) (d0_0:Bool) (d0_1:Int) (d0_2:Int) (e1:List TQuestion) (e2k:List ByteArray) (e2v:List Int) (e3k:List ByteArray) (e3v:List (List Int)) (e4k:List ByteArray) (e4v:List Bool) (k2:Int→Bool→Int→Int→Int→Int→List TQuestion→List ByteArray→List Int→List ByteArray→List (List Int)→List ByteArray→List Bool→List Int→Prop) (s2:Int) (s3:Int) (s40:Int) (h6_0:Int) (h6_1:Int) (s41:Int) (h0_0:Bool) (h0_1:Int) (h0_2:Int) (h5_0:Int) (h5_1:Int) (g1:List TQuestion) (g2k:List ByteArray) (g2v:List Int) (g3k:List ByteArray) (g3v:List (List Int)) (g4k:List ByteArray) (g4v:List Bool) (g7:List Int):Prop:=
(decide (s41<s40)=true→
(g1=g1)∧((U64 (TTranscript.mk h5_0 h5_1).State∧U64 (TTranscript.mk h5_0 h5_1).Count)∧OOk (OS.mk h0_0 h0_1 h0_2 g1 g2k g2v g3k g3v g4k g4v))∧let r2:Int:=((chO (OS.mk h0_0 h0_1 h0_2 g1 g2k g2v g3k g3v g4k g4v) (TTranscript.mk h5_0 h5_1) (18446744069414584321:Int)).n)
 let r3:Int:=((chO (OS.mk h0_0 h0_1 h0_2 g1 g2k g2v g3k g3v g4k g4v) (TTranscript.mk h5_0 h5_1) (18446744069414584321:Int)).t).State
 let r4:Int:=((chO (OS.mk h0_0 h0_1 h0_2 g1 g2k g2v g3k g3v g4k g4v) (TTranscript.mk h5_0 h5_1) (18446744069414584321:Int)).t).Count
 let r5:Bool:=((chO (OS.mk h0_0 h0_1 h0_2 g1 g2k g2v g3k g3v g4k g4v) (TTranscript.mk h5_0 h5_1) (18446744069414584321:Int)).o.a)
 let r6:Int:=((chO (OS.mk h0_0 h0_1 h0_2 g1 g2k g2v g3k g3v g4k g4v) (TTranscript.mk h5_0 h5_1) (18446744069414584321:Int)).o.b)
 let r7:Int:=((chO (OS.mk h0_0 h0_1 h0_2 g1 g2k g2v g3k g3v g4k g4v) (TTranscript.mk h5_0 h5_1) (18446744069414584321:Int)).o.c)
 let r8:List TQuestion:=((chO (OS.mk h0_0 h0_1 h0_2 g1 g2k g2v g3k g3v g4k g4v) (TTranscript.mk h5_0 h5_1) (18446744069414584321:Int)).o.q)
 let r9:List ByteArray:=((chO (OS.mk h0_0 h0_1 h0_2 g1 g2k g2v g3k g3v g4k g4v) (TTranscript.mk h5_0 h5_1) (18446744069414584321:Int)).o.k)
 let r10:List Int:=((chO (OS.mk h0_0 h0_1 h0_2 g1 g2k g2v g3k g3v g4k g4v) (TTranscript.mk h5_0 h5_1) (18446744069414584321:Int)).o.v)
 let r11:List ByteArray:=((chO (OS.mk h0_0 h0_1 h0_2 g1 g2k g2v g3k g3v g4k g4v) (TTranscript.mk h5_0 h5_1) (18446744069414584321:Int)).o.s)
 let r12:List (List Int):=((chO (OS.mk h0_0 h0_1 h0_2 g1 g2k g2v g3k g3v g4k g4v) (TTranscript.mk h5_0 h5_1) (18446744069414584321:Int)).o.t)
 let r13:List ByteArray:=((chO (OS.mk h0_0 h0_1 h0_2 g1 g2k g2v g3k g3v g4k g4v) (TTranscript.mk h5_0 h5_1) (18446744069414584321:Int)).o.x)
 let r14:List Bool:=((chO (OS.mk h0_0 h0_1 h0_2 g1 g2k g2v g3k g3v g4k g4v) (TTranscript.mk h5_0 h5_1) (18446744069414584321:Int)).o.y)
 let v15:Int:=IntKind.u64.wrap (IntKind.i64.wrap (s2-s41))
(v15≠0)∧let v16:Int:=IntKind.i64.wrap (s41+(IntKind.i64.wrap (Int.tmod r2 v15)))
(0≤v16∧v16<(g7.length:Int))∧(0≤v16∧v16<(g7.length:Int))∧(0≤s41∧s41<(g7.length:Int))∧(0≤s41∧s41<(g7.length:Int))∧(0≤s41∧s41<(g7.length:Int))∧(0≤s41∧s41<(g7.length:Int))∧(0≤v16∧v16<(g7.length:Int))∧(0≤v16∧v16<((g7.set s41.toNat (ix g7 v16)).length:Int))∧(r8=r8)∧(g7.length=((g7.set s41.toNat (ix g7 v16)).set v16.toNat (ix g7 s41)).length)∧k2 (IntKind.i64.wrap (s41+1):Int) r5 r6 r7 r3 r4 r8 r9 r10 r11 r12 r13 r14 ((g7.set s41.toNat (ix g7 v16)).set v16.toNat (ix g7 s41):List Int))∧
(decide (s41<s40)=false→
(0≤s3)∧s3≤(g7.length:Int)∧(0≤(0:Int)∧0≤(s3.toNat:Int)∧(0:Int).toNat+(s3.toNat:Int).toNat≤g7.length∧g7.length≤1000000)∧let r17:List Int:=((g7.drop (0:Int).toNat).take (s3.toNat:Int).toNat)
(r17.length=r17.length)∧(r17.length≤1099511627776)∧(r17.length=(srt r17).length)∧(g1=g1)∧(srt r17)=r0∧h5_0=r1.State∧h5_1=r1.Count∧h0_0=d0_0∧h0_1=d0_1∧h0_2=d0_2∧g1=e1∧g2k=e2k∧g2v=e2v∧g3k=e3k∧g3v=e3v∧g4k=e4k∧g4v=e4v)
theorem ks1 {r0:List Int} {r1:TTranscript} {d0_0:Bool} {d0_1:Int} {d0_2:Int} {e1:List TQuestion} {e2k:List ByteArray} {e2v:List Int} {e3k:List ByteArray} {e3v:List (List Int)} {e4k:List ByteArray} {e4v:List Bool} {s2:Int} {s3:Int} {s40:Int} {h6_0:Int} {h6_1:Int} {s41:Int} {h0_0:Bool} {h0_1:Int} {h0_2:Int} {h5_0:Int} {h5_1:Int} {g1:List TQuestion} {g2k:List ByteArray} {g2v:List Int} {g3k:List ByteArray} {g3v:List (List Int)} {g4k:List ByteArray} {g4v:List Bool} {g7:List Int} (inv:Int→Bool→Int→Int→Int→Int→List TQuestion→List ByteArray→List Int→List ByteArray→List (List Int)→List ByteArray→List Bool→List Int→Prop) (μ:Int→Bool→Int→Int→Int→Int→List TQuestion→List ByteArray→List Int→List ByteArray→List (List Int)→List ByteArray→List Bool→List Int→Nat) (h0:inv s41 h0_0 h0_1 h0_2 h5_0 h5_1 g1 g2k g2v g3k g3v g4k g4v g7) (hs:∀(s41:Int) (h0_0:Bool) (h0_1:Int) (h0_2:Int) (h5_0:Int) (h5_1:Int) (g1:List TQuestion) (g2k:List ByteArray) (g2v:List Int) (g3k:List ByteArray) (g3v:List (List Int)) (g4k:List ByteArray) (g4v:List Bool) (g7:List Int),inv s41 h0_0 h0_1 h0_2 h5_0 h5_1 g1 g2k g2v g3k g3v g4k g4v g7→kho r0 r1 d0_0 d0_1 d0_2 e1 e2k e2v e3k e3v e4k e4v (fun s41q h0_0q h0_1q h0_2q h5_0q h5_1q g1q g2kq g2vq g3kq g3vq g4kq g4vq g7q=>inv s41q h0_0q h0_1q h0_2q h5_0q h5_1q g1q g2kq g2vq g3kq g3vq g4kq g4vq g7q∧μ s41q h0_0q h0_1q h0_2q h5_0q h5_1q g1q g2kq g2vq g3kq g3vq g4kq g4vq g7q<μ s41 h0_0 h0_1 h0_2 h5_0 h5_1 g1 g2k g2v g3k g3v g4k g4v g7) s2 s3 s40 h6_0 h6_1 s41 h0_0 h0_1 h0_2 h5_0 h5_1 g1 g2k g2v g3k g3v g4k g4v g7):Md.Loop (s2,s3,s40,s41,h0_0,h0_1,h0_2,h5_0,h5_1,h6_0,h6_1,g1,g2k,g2v,g3k,g3v,g4k,g4v,g7,()) (k6n (r0,r1.State,r1.Count,d0_0,d0_1,d0_2,e1,e2k,e2v,e3k,e3v,e4k,e4v,())):=
 ⟨⟨fun s:Int×Int×Int×Int×Bool×Int×Int×Int×Int×Int×Int×(List TQuestion)×(List ByteArray)×(List Int)×(List ByteArray)×(List (List Int))×(List ByteArray)×(List Bool)×(List Int)×Unit=>(s.1=s2∧s.2.1=s3∧s.2.2.1=s40∧s.2.2.2.2.2.2.2.2.2.1=h6_0∧s.2.2.2.2.2.2.2.2.2.2.1=h6_1)∧inv s.2.2.2.1 s.2.2.2.2.1 s.2.2.2.2.2.1 s.2.2.2.2.2.2.1 s.2.2.2.2.2.2.2.1 s.2.2.2.2.2.2.2.2.1 s.2.2.2.2.2.2.2.2.2.2.2.1 s.2.2.2.2.2.2.2.2.2.2.2.2.1 s.2.2.2.2.2.2.2.2.2.2.2.2.2.1 s.2.2.2.2.2.2.2.2.2.2.2.2.2.2.1 s.2.2.2.2.2.2.2.2.2.2.2.2.2.2.2.1 s.2.2.2.2.2.2.2.2.2.2.2.2.2.2.2.2.1 s.2.2.2.2.2.2.2.2.2.2.2.2.2.2.2.2.2.1 s.2.2.2.2.2.2.2.2.2.2.2.2.2.2.2.2.2.2.1,fun s:Int×Int×Int×Int×Bool×Int×Int×Int×Int×Int×Int×(List TQuestion)×(List ByteArray)×(List Int)×(List ByteArray)×(List (List Int))×(List ByteArray)×(List Bool)×(List Int)×Unit=>μ s.2.2.2.1 s.2.2.2.2.1 s.2.2.2.2.2.1 s.2.2.2.2.2.2.1 s.2.2.2.2.2.2.2.1 s.2.2.2.2.2.2.2.2.1 s.2.2.2.2.2.2.2.2.2.2.2.1 s.2.2.2.2.2.2.2.2.2.2.2.2.1 s.2.2.2.2.2.2.2.2.2.2.2.2.2.1 s.2.2.2.2.2.2.2.2.2.2.2.2.2.2.1 s.2.2.2.2.2.2.2.2.2.2.2.2.2.2.2.1 s.2.2.2.2.2.2.2.2.2.2.2.2.2.2.2.2.1 s.2.2.2.2.2.2.2.2.2.2.2.2.2.2.2.2.2.1 s.2.2.2.2.2.2.2.2.2.2.2.2.2.2.2.2.2.2.1,⟨⟨rfl,rfl,rfl,rfl,rfl⟩,h0⟩,fun(s2p,s3p,s40p,s41p,h0_0p,h0_1p,h0_2p,h5_0p,h5_1p,h6_0p,h6_1p,g1p,g2kp,g2vp,g3kp,g3vp,g4kp,g4vp,g7p,()) ⟨⟨eq0,eq1,eq2,eq3,eq4⟩,hi⟩=>by
  have eq0:s2p=s2:=eq0;subst s2p;have eq1:s3p=s3:=eq1;subst s3p;have eq2:s40p=s40:=eq2;subst s40p;have eq3:h6_0p=h6_0:=eq3;subst h6_0p;have eq4:h6_1p=h6_1:=eq4;subst h6_1p;exact mpr_of (by kernel_rfl) ((congrArg (fun k=>kho r0 r1 d0_0 d0_1 d0_2 e1 e2k e2v e3k e3v e4k e4v k s2 s3 s40 h6_0 h6_1 s41p h0_0p h0_1p h0_2p h5_0p h5_1p g1p g2kp g2vp g3kp g3vp g4kp g4vp g7p) (lpk14 (⟨rfl,rfl,rfl,rfl,rfl⟩:s2=s2∧s3=s3∧s40=s40∧h6_0=h6_0∧h6_1=h6_1) inv (fun s41q h0_0q h0_1q h0_2q h5_0q h5_1q g1q g2kq g2vq g3kq g3vq g4kq g4vq g7q=>μ s41q h0_0q h0_1q h0_2q h5_0q h5_1q g1q g2kq g2vq g3kq g3vq g4kq g4vq g7q<μ s41p h0_0p h0_1p h0_2p h5_0p h5_1p g1p g2kp g2vp g3kp g3vp g4kp g4vp g7p))).mpr (hs s41p h0_0p h0_1p h0_2p h5_0p h5_1p g1p g2kp g2vp g3kp g3vp g4kp g4vp g7p hi))⟩⟩
theorem bd26:Callable Try.prog 26:=⟨by rw[Try.func26];kernel_rfl,by rw[Try.func26];show some _≠some _;decide⟩
theorem kri (p1:TTranscript) (p2:Int) (p3:Int) (c0_0:Bool) (c0_1:Int) (c0_2:Int) (w1:List TQuestion) (w2k:List ByteArray) (w2v:List Int) (w3k:List ByteArray) (w3v:List (List Int)) (w4k:List ByteArray) (w4v:List Bool) (h:(U64 p1.State∧U64 p1.Count)∧OOk (OS.mk c0_0 c0_1 c0_2 w1 w2k w2v w3k w3v w4k w4v)∧w1.length≤900000):k9o (p1.State,p1.Count,p2,p3,c0_0,c0_1,c0_2,w1,w2k,w2v,w3k,w3v,w4k,w4v,()) ((((posO (OS.mk c0_0 c0_1 c0_2 w1 w2k w2v w3k w3v w4k w4v) p1 p2 p3).g):List Int),(((posO (OS.mk c0_0 c0_1 c0_2 w1 w2k w2v w3k w3v w4k w4v) p1 p2 p3).t).State:Int),(((posO (OS.mk c0_0 c0_1 c0_2 w1 w2k w2v w3k w3v w4k w4v) p1 p2 p3).t).Count:Int),(((posO (OS.mk c0_0 c0_1 c0_2 w1 w2k w2v w3k w3v w4k w4v) p1 p2 p3).o.a):Bool),(((posO (OS.mk c0_0 c0_1 c0_2 w1 w2k w2v w3k w3v w4k w4v) p1 p2 p3).o.b):Int),(((posO (OS.mk c0_0 c0_1 c0_2 w1 w2k w2v w3k w3v w4k w4v) p1 p2 p3).o.c):Int),(((posO (OS.mk c0_0 c0_1 c0_2 w1 w2k w2v w3k w3v w4k w4v) p1 p2 p3).o.q):List TQuestion),(((posO (OS.mk c0_0 c0_1 c0_2 w1 w2k w2v w3k w3v w4k w4v) p1 p2 p3).o.k):List ByteArray),(((posO (OS.mk c0_0 c0_1 c0_2 w1 w2k w2v w3k w3v w4k w4v) p1 p2 p3).o.v):List Int),(((posO (OS.mk c0_0 c0_1 c0_2 w1 w2k w2v w3k w3v w4k w4v) p1 p2 p3).o.s):List ByteArray),(((posO (OS.mk c0_0 c0_1 c0_2 w1 w2k w2v w3k w3v w4k w4v) p1 p2 p3).o.t):List (List Int)),(((posO (OS.mk c0_0 c0_1 c0_2 w1 w2k w2v w3k w3v w4k w4v) p1 p2 p3).o.x):List ByteArray),(((posO (OS.mk c0_0 c0_1 c0_2 w1 w2k w2v w3k w3v w4k w4v) p1 p2 p3).o.y):List Bool),()):=by
 obtain⟨⟨h1,h2⟩,h3,h4⟩:=h
 generalize hA:posO (OS.mk c0_0 c0_1 c0_2 w1 w2k w2v w3k w3v w4k w4v) p1 p2 p3=A
 have bad:(p3<0∨p2<p3∨1024<p2)→A=⟨OS.mk c0_0 c0_1 c0_2 w1 w2k w2v w3k w3v w4k w4v,p1,[]⟩:=fun hb=>by rw[←hA];exact if_pos hb
 have jb:A=⟨OS.mk c0_0 c0_1 c0_2 w1 w2k w2v w3k w3v w4k w4v,p1,[]⟩→k4c (A.g,A.t.State,A.t.Count,A.o.a,A.o.b,A.o.c,A.o.q,A.o.k,A.o.v,A.o.s,A.o.t,A.o.x,A.o.y,()) (p2,p3,true,c0_0,c0_1,c0_2,p1.State,p1.Count,(0:Int),(0:Int),w1,w2k,w2v,w3k,w3v,w4k,w4v,()):=by
  rintro rfl
  exact kf4 (r1:=p1) ⟨fun _=>⟨rfl,rfl,rfl,rfl,rfl,rfl,rfl,rfl,rfl,rfl,rfl,rfl,rfl,rfl⟩,fun h=>by cases h⟩
 refine kt6 (r1:=A.t) ⟨fun e=>⟨rfl,jb (bad (.inl (of_decide_eq_true e)))⟩,fun e=>⟨fun e2=>⟨rfl,jb (bad (.inr (.inl (of_decide_eq_true e2))))⟩,fun e2=>⟨rfl,?_⟩⟩⟩
 have e:=of_decide_eq_false e
 have e2:=of_decide_eq_false e2
 by_cases e3:1024<p2
 ·rw[decide_eq_true e3]
  exact jb (bad (.inr (.inr e3)))
 rw[decide_eq_false e3]
 have hg:A=⟨(posS p2 p3.toNat 0 ⟨OS.mk c0_0 c0_1 c0_2 w1 w2k w2v w3k w3v w4k w4v,p1,rng p2.toNat⟩).o,(posS p2 p3.toNat 0 ⟨OS.mk c0_0 c0_1 c0_2 w1 w2k w2v w3k w3v w4k w4v,p1,rng p2.toNat⟩).t,srt ((posS p2 p3.toNat 0 ⟨OS.mk c0_0 c0_1 c0_2 w1 w2k w2v w3k w3v w4k w4v,p1,rng p2.toNat⟩).g.take p3.toNat)⟩:=by
  rw[←hA];exact if_neg (by omega)
 clear hA bad jb
 generalize hS:posS p2 p3.toNat 0 ⟨OS.mk c0_0 c0_1 c0_2 w1 w2k w2v w3k w3v w4k w4v,p1,rng p2.toNat⟩=S at hg
 subst hg
 refine kf4 (r1:=S.t) ⟨(fun h=>by cases h),fun _=>⟨by omega,by omega,by omega,by unfold maxLen;omega,rfl,by simp,?_⟩⟩
 refine ks2 (r1:=S.t) (SetI (fun(j:Nat)=>(j:Int)) p2.toNat) (fun i _=>(p2.toNat-i).toNat) (SetI.start (by simp)) ?_
 intro i g hi
 have i0:=hi.1
 have il:=hi.2.2.1
 refine⟨fun hh=> ?_,fun hh=> ?_⟩
 ·have hh:=of_decide_eq_true hh
  exact⟨⟨i0,by omega⟩,⟨i0,by omega⟩,rfl,by rw[List.length_set],hi.next hh (by omega) (by omega)⟩
 have hh:=of_decide_eq_false hh
 have hgr:g=rng p2.toNat:=hi.done hh
 subst hgr
 refine⟨rfl,rfl,?_⟩
 refine ks1 (r1:=S.t) (fun i a b c ts tc q k v s t x y g=>(0≤i∧i≤p3)∧U64 ts∧U64 tc∧(OOk (OS.mk a b c q k v s t x y)∧q.length≤900000+i.toNat)∧(g.length:Int)=p2∧posS p2 (p3-i).toNat i ⟨OS.mk a b c q k v s t x y,⟨ts,tc⟩,g⟩=S)
  (fun i _ _ _ _ _ _ _ _ _ _ _ _ _=>(p3-i).toNat) ⟨⟨by omega,by omega⟩,h1,h2,⟨h3,by omega⟩,by rw[kyy];omega,by rw[Int.sub_zero];exact hS⟩ ?_
 rintro i a b c ts tc q k v s t x y g ⟨⟨g0,g1⟩,g2,g3,⟨g4,g5⟩,g6,g7⟩
 refine⟨fun hh=> ?_,fun hh=> ?_⟩
 ·have hh:=of_decide_eq_true hh
  refine⟨rfl,⟨⟨g2,g3⟩,g4⟩,?_⟩
  dsimp only
  obtain⟨q1,q2,q3,q4⟩:=g4.ch ⟨ts,tc⟩ 18446744069414584321 (show q.length≤999999 by omega)
  obtain⟨q5,q6,q7⟩:=q4 rfl
  rw[show(p3-i).toNat=(p3-(i+1)).toNat+1 by omega]at g7
  have e5:IntKind.u64.wrap (IntKind.i64.wrap (p2-i))=p2-i:=by rw[wi _ (by omega) (by omega),wu _ (by omega) (by omega)]
  rw[e5]
  generalize hC:chO (OS.mk a b c q k v s t x y) ⟨ts,tc⟩ 18446744069414584321=C at *
  have hj:0≤C.n%(p2-i)∧C.n%(p2-i)<p2-i:=⟨Int.emod_nonneg _ (by omega),Int.emod_lt_of_pos _ (by omega)⟩
  have e6:IntKind.i64.wrap (i+IntKind.i64.wrap (Int.tmod C.n (p2-i)))=i+C.n%(p2-i):=by
   rw[tmod_nn _ _ q5,wi (C.n%(p2-i)) (by omega) (by omega),wi _ (by omega) (by omega)]
  rw[e6,wi (i+1) (by omega) (by omega)]
  have e7:posN p2 i ⟨OS.mk a b c q k v s t x y,⟨ts,tc⟩,g⟩=⟨C.o,C.t,swp g i (i+C.n%(p2-i))⟩:=by unfold posN;simp only[hC]
  have g7:posS p2 (p3-(i+1)).toNat (i+1) (posN p2 i ⟨OS.mk a b c q k v s t x y,⟨ts,tc⟩,g⟩)=S:=g7
  rw[e7]at g7
  refine⟨by omega,⟨by omega,by omega⟩,⟨by omega,by omega⟩,⟨by omega,by omega⟩,⟨by omega,by omega⟩,⟨by omega,by omega⟩,⟨by omega,by omega⟩,⟨by omega,by omega⟩,⟨by omega,by rw[List.length_set];omega⟩,rfl,by rw[List.length_set,List.length_set],⟨⟨by omega,by omega⟩,?_,q7,⟨q1,?_⟩,?_,g7⟩,by omega⟩
  ·rw[q3];exact g2
  ·have q2:C.o.q.length≤q.length+1:=q2
   omega
  ·rw[List.length_set,List.length_set];exact g6
 ·have hh:=of_decide_eq_false hh
  rw[show(p3-i).toNat=0 by omega]at g7
  have g7:(⟨OS.mk a b c q k v s t x y,⟨ts,tc⟩,g⟩:PS)=S:=g7
  subst g7
  refine⟨by omega,by omega,⟨by omega,by omega,by simp;omega,by omega⟩,?_⟩
  dsimp only
  refine⟨rfl,?_,?_⟩
  ·rw[List.length_take];simp;omega
  ·refine⟨by rw[k16v],rfl,by rw[Int.toNat_natCast,show(0:Int).toNat=0 from rfl,List.drop_zero],rfl,rfl,rfl,rfl,rfl,rfl,rfl,rfl,rfl,rfl,rfl,rfl⟩
noncomputable def kaq:Con TB.den:=k1g.fnR (fun x=>(fun(p1:TTranscript) (p2:Int) (p3:Int) (c0_0:Bool) (c0_1:Int) (c0_2:Int) (w1:List TQuestion) (w2k:List ByteArray) (w2v:List Int) (w3k:List ByteArray) (w3v:List (List Int)) (w4k:List ByteArray) (w4v:List Bool)=>(U64 p1.State∧U64 p1.Count)∧OOk (OS.mk c0_0 c0_1 c0_2 w1 w2k w2v w3k w3v w4k w4v)∧w1.length≤900000) (TTranscript.mk x.1 x.2.1) x.2.2.1 x.2.2.2.1 x.2.2.2.2.1 x.2.2.2.2.2.1 x.2.2.2.2.2.2.1 x.2.2.2.2.2.2.2.1 x.2.2.2.2.2.2.2.2.1 x.2.2.2.2.2.2.2.2.2.1 x.2.2.2.2.2.2.2.2.2.2.1 x.2.2.2.2.2.2.2.2.2.2.2.1 x.2.2.2.2.2.2.2.2.2.2.2.2.1 x.2.2.2.2.2.2.2.2.2.2.2.2.2.1) fun x=>((fun(p1:TTranscript) (p2:Int) (p3:Int) (c0_0:Bool) (c0_1:Int) (c0_2:Int) (w1:List TQuestion) (w2k:List ByteArray) (w2v:List Int) (w3k:List ByteArray) (w3v:List (List Int)) (w4k:List ByteArray) (w4v:List Bool)=>(((posO (OS.mk c0_0 c0_1 c0_2 w1 w2k w2v w3k w3v w4k w4v) p1 p2 p3).g):List Int)) (TTranscript.mk x.1 x.2.1) x.2.2.1 x.2.2.2.1 x.2.2.2.2.1 x.2.2.2.2.2.1 x.2.2.2.2.2.2.1 x.2.2.2.2.2.2.2.1 x.2.2.2.2.2.2.2.2.1 x.2.2.2.2.2.2.2.2.2.1 x.2.2.2.2.2.2.2.2.2.2.1 x.2.2.2.2.2.2.2.2.2.2.2.1 x.2.2.2.2.2.2.2.2.2.2.2.2.1 x.2.2.2.2.2.2.2.2.2.2.2.2.2.1,(fun(p1:TTranscript) (p2:Int) (p3:Int) (c0_0:Bool) (c0_1:Int) (c0_2:Int) (w1:List TQuestion) (w2k:List ByteArray) (w2v:List Int) (w3k:List ByteArray) (w3v:List (List Int)) (w4k:List ByteArray) (w4v:List Bool)=>(((posO (OS.mk c0_0 c0_1 c0_2 w1 w2k w2v w3k w3v w4k w4v) p1 p2 p3).t).State:Int)) (TTranscript.mk x.1 x.2.1) x.2.2.1 x.2.2.2.1 x.2.2.2.2.1 x.2.2.2.2.2.1 x.2.2.2.2.2.2.1 x.2.2.2.2.2.2.2.1 x.2.2.2.2.2.2.2.2.1 x.2.2.2.2.2.2.2.2.2.1 x.2.2.2.2.2.2.2.2.2.2.1 x.2.2.2.2.2.2.2.2.2.2.2.1 x.2.2.2.2.2.2.2.2.2.2.2.2.1 x.2.2.2.2.2.2.2.2.2.2.2.2.2.1,(fun(p1:TTranscript) (p2:Int) (p3:Int) (c0_0:Bool) (c0_1:Int) (c0_2:Int) (w1:List TQuestion) (w2k:List ByteArray) (w2v:List Int) (w3k:List ByteArray) (w3v:List (List Int)) (w4k:List ByteArray) (w4v:List Bool)=>(((posO (OS.mk c0_0 c0_1 c0_2 w1 w2k w2v w3k w3v w4k w4v) p1 p2 p3).t).Count:Int)) (TTranscript.mk x.1 x.2.1) x.2.2.1 x.2.2.2.1 x.2.2.2.2.1 x.2.2.2.2.2.1 x.2.2.2.2.2.2.1 x.2.2.2.2.2.2.2.1 x.2.2.2.2.2.2.2.2.1 x.2.2.2.2.2.2.2.2.2.1 x.2.2.2.2.2.2.2.2.2.2.1 x.2.2.2.2.2.2.2.2.2.2.2.1 x.2.2.2.2.2.2.2.2.2.2.2.2.1 x.2.2.2.2.2.2.2.2.2.2.2.2.2.1,(fun(p1:TTranscript) (p2:Int) (p3:Int) (c0_0:Bool) (c0_1:Int) (c0_2:Int) (w1:List TQuestion) (w2k:List ByteArray) (w2v:List Int) (w3k:List ByteArray) (w3v:List (List Int)) (w4k:List ByteArray) (w4v:List Bool)=>(((posO (OS.mk c0_0 c0_1 c0_2 w1 w2k w2v w3k w3v w4k w4v) p1 p2 p3).o.a):Bool)) (TTranscript.mk x.1 x.2.1) x.2.2.1 x.2.2.2.1 x.2.2.2.2.1 x.2.2.2.2.2.1 x.2.2.2.2.2.2.1 x.2.2.2.2.2.2.2.1 x.2.2.2.2.2.2.2.2.1 x.2.2.2.2.2.2.2.2.2.1 x.2.2.2.2.2.2.2.2.2.2.1 x.2.2.2.2.2.2.2.2.2.2.2.1 x.2.2.2.2.2.2.2.2.2.2.2.2.1 x.2.2.2.2.2.2.2.2.2.2.2.2.2.1,(fun(p1:TTranscript) (p2:Int) (p3:Int) (c0_0:Bool) (c0_1:Int) (c0_2:Int) (w1:List TQuestion) (w2k:List ByteArray) (w2v:List Int) (w3k:List ByteArray) (w3v:List (List Int)) (w4k:List ByteArray) (w4v:List Bool)=>(((posO (OS.mk c0_0 c0_1 c0_2 w1 w2k w2v w3k w3v w4k w4v) p1 p2 p3).o.b):Int)) (TTranscript.mk x.1 x.2.1) x.2.2.1 x.2.2.2.1 x.2.2.2.2.1 x.2.2.2.2.2.1 x.2.2.2.2.2.2.1 x.2.2.2.2.2.2.2.1 x.2.2.2.2.2.2.2.2.1 x.2.2.2.2.2.2.2.2.2.1 x.2.2.2.2.2.2.2.2.2.2.1 x.2.2.2.2.2.2.2.2.2.2.2.1 x.2.2.2.2.2.2.2.2.2.2.2.2.1 x.2.2.2.2.2.2.2.2.2.2.2.2.2.1,(fun(p1:TTranscript) (p2:Int) (p3:Int) (c0_0:Bool) (c0_1:Int) (c0_2:Int) (w1:List TQuestion) (w2k:List ByteArray) (w2v:List Int) (w3k:List ByteArray) (w3v:List (List Int)) (w4k:List ByteArray) (w4v:List Bool)=>(((posO (OS.mk c0_0 c0_1 c0_2 w1 w2k w2v w3k w3v w4k w4v) p1 p2 p3).o.c):Int)) (TTranscript.mk x.1 x.2.1) x.2.2.1 x.2.2.2.1 x.2.2.2.2.1 x.2.2.2.2.2.1 x.2.2.2.2.2.2.1 x.2.2.2.2.2.2.2.1 x.2.2.2.2.2.2.2.2.1 x.2.2.2.2.2.2.2.2.2.1 x.2.2.2.2.2.2.2.2.2.2.1 x.2.2.2.2.2.2.2.2.2.2.2.1 x.2.2.2.2.2.2.2.2.2.2.2.2.1 x.2.2.2.2.2.2.2.2.2.2.2.2.2.1,(fun(p1:TTranscript) (p2:Int) (p3:Int) (c0_0:Bool) (c0_1:Int) (c0_2:Int) (w1:List TQuestion) (w2k:List ByteArray) (w2v:List Int) (w3k:List ByteArray) (w3v:List (List Int)) (w4k:List ByteArray) (w4v:List Bool)=>(((posO (OS.mk c0_0 c0_1 c0_2 w1 w2k w2v w3k w3v w4k w4v) p1 p2 p3).o.q):List TQuestion)) (TTranscript.mk x.1 x.2.1) x.2.2.1 x.2.2.2.1 x.2.2.2.2.1 x.2.2.2.2.2.1 x.2.2.2.2.2.2.1 x.2.2.2.2.2.2.2.1 x.2.2.2.2.2.2.2.2.1 x.2.2.2.2.2.2.2.2.2.1 x.2.2.2.2.2.2.2.2.2.2.1 x.2.2.2.2.2.2.2.2.2.2.2.1 x.2.2.2.2.2.2.2.2.2.2.2.2.1 x.2.2.2.2.2.2.2.2.2.2.2.2.2.1,(fun(p1:TTranscript) (p2:Int) (p3:Int) (c0_0:Bool) (c0_1:Int) (c0_2:Int) (w1:List TQuestion) (w2k:List ByteArray) (w2v:List Int) (w3k:List ByteArray) (w3v:List (List Int)) (w4k:List ByteArray) (w4v:List Bool)=>(((posO (OS.mk c0_0 c0_1 c0_2 w1 w2k w2v w3k w3v w4k w4v) p1 p2 p3).o.k):List ByteArray)) (TTranscript.mk x.1 x.2.1) x.2.2.1 x.2.2.2.1 x.2.2.2.2.1 x.2.2.2.2.2.1 x.2.2.2.2.2.2.1 x.2.2.2.2.2.2.2.1 x.2.2.2.2.2.2.2.2.1 x.2.2.2.2.2.2.2.2.2.1 x.2.2.2.2.2.2.2.2.2.2.1 x.2.2.2.2.2.2.2.2.2.2.2.1 x.2.2.2.2.2.2.2.2.2.2.2.2.1 x.2.2.2.2.2.2.2.2.2.2.2.2.2.1,(fun(p1:TTranscript) (p2:Int) (p3:Int) (c0_0:Bool) (c0_1:Int) (c0_2:Int) (w1:List TQuestion) (w2k:List ByteArray) (w2v:List Int) (w3k:List ByteArray) (w3v:List (List Int)) (w4k:List ByteArray) (w4v:List Bool)=>(((posO (OS.mk c0_0 c0_1 c0_2 w1 w2k w2v w3k w3v w4k w4v) p1 p2 p3).o.v):List Int)) (TTranscript.mk x.1 x.2.1) x.2.2.1 x.2.2.2.1 x.2.2.2.2.1 x.2.2.2.2.2.1 x.2.2.2.2.2.2.1 x.2.2.2.2.2.2.2.1 x.2.2.2.2.2.2.2.2.1 x.2.2.2.2.2.2.2.2.2.1 x.2.2.2.2.2.2.2.2.2.2.1 x.2.2.2.2.2.2.2.2.2.2.2.1 x.2.2.2.2.2.2.2.2.2.2.2.2.1 x.2.2.2.2.2.2.2.2.2.2.2.2.2.1,(fun(p1:TTranscript) (p2:Int) (p3:Int) (c0_0:Bool) (c0_1:Int) (c0_2:Int) (w1:List TQuestion) (w2k:List ByteArray) (w2v:List Int) (w3k:List ByteArray) (w3v:List (List Int)) (w4k:List ByteArray) (w4v:List Bool)=>(((posO (OS.mk c0_0 c0_1 c0_2 w1 w2k w2v w3k w3v w4k w4v) p1 p2 p3).o.s):List ByteArray)) (TTranscript.mk x.1 x.2.1) x.2.2.1 x.2.2.2.1 x.2.2.2.2.1 x.2.2.2.2.2.1 x.2.2.2.2.2.2.1 x.2.2.2.2.2.2.2.1 x.2.2.2.2.2.2.2.2.1 x.2.2.2.2.2.2.2.2.2.1 x.2.2.2.2.2.2.2.2.2.2.1 x.2.2.2.2.2.2.2.2.2.2.2.1 x.2.2.2.2.2.2.2.2.2.2.2.2.1 x.2.2.2.2.2.2.2.2.2.2.2.2.2.1,(fun(p1:TTranscript) (p2:Int) (p3:Int) (c0_0:Bool) (c0_1:Int) (c0_2:Int) (w1:List TQuestion) (w2k:List ByteArray) (w2v:List Int) (w3k:List ByteArray) (w3v:List (List Int)) (w4k:List ByteArray) (w4v:List Bool)=>(((posO (OS.mk c0_0 c0_1 c0_2 w1 w2k w2v w3k w3v w4k w4v) p1 p2 p3).o.t):List (List Int))) (TTranscript.mk x.1 x.2.1) x.2.2.1 x.2.2.2.1 x.2.2.2.2.1 x.2.2.2.2.2.1 x.2.2.2.2.2.2.1 x.2.2.2.2.2.2.2.1 x.2.2.2.2.2.2.2.2.1 x.2.2.2.2.2.2.2.2.2.1 x.2.2.2.2.2.2.2.2.2.2.1 x.2.2.2.2.2.2.2.2.2.2.2.1 x.2.2.2.2.2.2.2.2.2.2.2.2.1 x.2.2.2.2.2.2.2.2.2.2.2.2.2.1,(fun(p1:TTranscript) (p2:Int) (p3:Int) (c0_0:Bool) (c0_1:Int) (c0_2:Int) (w1:List TQuestion) (w2k:List ByteArray) (w2v:List Int) (w3k:List ByteArray) (w3v:List (List Int)) (w4k:List ByteArray) (w4v:List Bool)=>(((posO (OS.mk c0_0 c0_1 c0_2 w1 w2k w2v w3k w3v w4k w4v) p1 p2 p3).o.x):List ByteArray)) (TTranscript.mk x.1 x.2.1) x.2.2.1 x.2.2.2.1 x.2.2.2.2.1 x.2.2.2.2.2.1 x.2.2.2.2.2.2.1 x.2.2.2.2.2.2.2.1 x.2.2.2.2.2.2.2.2.1 x.2.2.2.2.2.2.2.2.2.1 x.2.2.2.2.2.2.2.2.2.2.1 x.2.2.2.2.2.2.2.2.2.2.2.1 x.2.2.2.2.2.2.2.2.2.2.2.2.1 x.2.2.2.2.2.2.2.2.2.2.2.2.2.1,(fun(p1:TTranscript) (p2:Int) (p3:Int) (c0_0:Bool) (c0_1:Int) (c0_2:Int) (w1:List TQuestion) (w2k:List ByteArray) (w2v:List Int) (w3k:List ByteArray) (w3v:List (List Int)) (w4k:List ByteArray) (w4v:List Bool)=>(((posO (OS.mk c0_0 c0_1 c0_2 w1 w2k w2v w3k w3v w4k w4v) p1 p2 p3).o.y):List Bool)) (TTranscript.mk x.1 x.2.1) x.2.2.1 x.2.2.2.1 x.2.2.2.2.1 x.2.2.2.2.2.1 x.2.2.2.2.2.2.1 x.2.2.2.2.2.2.2.1 x.2.2.2.2.2.2.2.2.1 x.2.2.2.2.2.2.2.2.2.1 x.2.2.2.2.2.2.2.2.2.2.1 x.2.2.2.2.2.2.2.2.2.2.2.1 x.2.2.2.2.2.2.2.2.2.2.2.2.1 x.2.2.2.2.2.2.2.2.2.2.2.2.2.1,())
theorem khg:kaq.Ok Try.prog TB:=Con.ok_fn k1g bd26 fun x h=>ksd (kri (TTranscript.mk x.1 x.2.1) x.2.2.1 x.2.2.2.1 x.2.2.2.2.1 x.2.2.2.2.2.1 x.2.2.2.2.2.2.1 x.2.2.2.2.2.2.2.1 x.2.2.2.2.2.2.2.2.1 x.2.2.2.2.2.2.2.2.2.1 x.2.2.2.2.2.2.2.2.2.2.1 x.2.2.2.2.2.2.2.2.2.2.2.1 x.2.2.2.2.2.2.2.2.2.2.2.2.1 x.2.2.2.2.2.2.2.2.2.2.2.2.2.1 h)
def k70:Con TB.den:=Con.mk0 10 [] [] (.one (.one (.d (.bool)))) []
abbrev k13h:=HL TB.den (hsT k70.ins (hsOs k70.pre))
abbrev kra:=HL TB.den (hsV k70.res (hsOs k70.post))
noncomputable def kj3:Cx TB:=⟨inf,[ksk,kht,k7z,kaq,k11d,kus],[],4,[]⟩
noncomputable def kqz:Code:=Try.f10.body.getD .skip
noncomputable def kv1:List ResultVar:=Try.f10.results.toList
noncomputable def k121 (o:kra):An TB:= .no
def kqk (x:k13h) (o:kra):Prop:=WPh TB kj3 49 0 kqz (k121 o) (k70.st TB x) (retTQ TB kj3 k70 kv1 o)
theorem k1ap (o:kra):OblH TB kj3 49 0 kqz (k121 o) (retTQ TB kj3 k70 kv1 o):=
 OblH.ofC (X:=True) (by kernel_rfl) trivial
theorem k1ak {x:k13h} {o:kra} (h:kqk x o):k70.Snd Try.prog x o:=
 Con.soundH (c:=k70) (C:=kj3) TBok ⟨inf_ok,(all_cons k154 (all_cons ksl (all_cons kbb (all_cons khg (all_cons k1dg (all_cons k13a all_nil)))))),all_nil⟩ mix Try.func10 (show Try.f10.body=some kqz by kernel_rfl) (show Try.f10.ntmps=49 by kernel_rfl) (show Try.f10.results.toList=kv1 by kernel_rfl) rfl h (k1ap o)
theorem k1bp  {r0:Bool} (h:
((([]:List TQuestion)=([]:List TQuestion))∧((U64 (TTranscript.mk (5:Int) 0).State∧U64 (TTranscript.mk (5:Int) 0).Count)∧OOk (OS.mk false (0:Int) (0:Int) ([]:List TQuestion) [] [] [] [] [] []))∧let r1:Int:=((chO (OS.mk false (0:Int) (0:Int) ([]:List TQuestion) [] [] [] [] [] []) (TTranscript.mk (5:Int) 0) (18446744069414584321:Int)).n)
 let r2:Int:=((chO (OS.mk false (0:Int) (0:Int) ([]:List TQuestion) [] [] [] [] [] []) (TTranscript.mk (5:Int) 0) (18446744069414584321:Int)).t).State
 let r3:Int:=((chO (OS.mk false (0:Int) (0:Int) ([]:List TQuestion) [] [] [] [] [] []) (TTranscript.mk (5:Int) 0) (18446744069414584321:Int)).t).Count
 let r4:Bool:=((chO (OS.mk false (0:Int) (0:Int) ([]:List TQuestion) [] [] [] [] [] []) (TTranscript.mk (5:Int) 0) (18446744069414584321:Int)).o.a)
 let r5:Int:=((chO (OS.mk false (0:Int) (0:Int) ([]:List TQuestion) [] [] [] [] [] []) (TTranscript.mk (5:Int) 0) (18446744069414584321:Int)).o.b)
 let r6:Int:=((chO (OS.mk false (0:Int) (0:Int) ([]:List TQuestion) [] [] [] [] [] []) (TTranscript.mk (5:Int) 0) (18446744069414584321:Int)).o.c)
 let r7:List TQuestion:=((chO (OS.mk false (0:Int) (0:Int) ([]:List TQuestion) [] [] [] [] [] []) (TTranscript.mk (5:Int) 0) (18446744069414584321:Int)).o.q)
 let r8:List ByteArray:=((chO (OS.mk false (0:Int) (0:Int) ([]:List TQuestion) [] [] [] [] [] []) (TTranscript.mk (5:Int) 0) (18446744069414584321:Int)).o.k)
 let r9:List Int:=((chO (OS.mk false (0:Int) (0:Int) ([]:List TQuestion) [] [] [] [] [] []) (TTranscript.mk (5:Int) 0) (18446744069414584321:Int)).o.v)
 let r10:List ByteArray:=((chO (OS.mk false (0:Int) (0:Int) ([]:List TQuestion) [] [] [] [] [] []) (TTranscript.mk (5:Int) 0) (18446744069414584321:Int)).o.s)
 let r11:List (List Int):=((chO (OS.mk false (0:Int) (0:Int) ([]:List TQuestion) [] [] [] [] [] []) (TTranscript.mk (5:Int) 0) (18446744069414584321:Int)).o.t)
 let r12:List ByteArray:=((chO (OS.mk false (0:Int) (0:Int) ([]:List TQuestion) [] [] [] [] [] []) (TTranscript.mk (5:Int) 0) (18446744069414584321:Int)).o.x)
 let r13:List Bool:=((chO (OS.mk false (0:Int) (0:Int) ([]:List TQuestion) [] [] [] [] [] []) (TTranscript.mk (5:Int) 0) (18446744069414584321:Int)).o.y)
(r7=r7)∧((U64 (TTranscript.mk r2 r3).State∧U64 (TTranscript.mk r2 r3).Count)∧OOk (OS.mk r4 r5 r6 r7 r8 r9 r10 r11 r12 r13))∧let r14:Int:=((chO (OS.mk r4 r5 r6 r7 r8 r9 r10 r11 r12 r13) (TTranscript.mk r2 r3) (97:Int)).n)
 let r15:Int:=((chO (OS.mk r4 r5 r6 r7 r8 r9 r10 r11 r12 r13) (TTranscript.mk r2 r3) (97:Int)).t).State
 let r16:Int:=((chO (OS.mk r4 r5 r6 r7 r8 r9 r10 r11 r12 r13) (TTranscript.mk r2 r3) (97:Int)).t).Count
 let r17:Bool:=((chO (OS.mk r4 r5 r6 r7 r8 r9 r10 r11 r12 r13) (TTranscript.mk r2 r3) (97:Int)).o.a)
 let r18:Int:=((chO (OS.mk r4 r5 r6 r7 r8 r9 r10 r11 r12 r13) (TTranscript.mk r2 r3) (97:Int)).o.b)
 let r19:Int:=((chO (OS.mk r4 r5 r6 r7 r8 r9 r10 r11 r12 r13) (TTranscript.mk r2 r3) (97:Int)).o.c)
 let r20:List TQuestion:=((chO (OS.mk r4 r5 r6 r7 r8 r9 r10 r11 r12 r13) (TTranscript.mk r2 r3) (97:Int)).o.q)
 let r21:List ByteArray:=((chO (OS.mk r4 r5 r6 r7 r8 r9 r10 r11 r12 r13) (TTranscript.mk r2 r3) (97:Int)).o.k)
 let r22:List Int:=((chO (OS.mk r4 r5 r6 r7 r8 r9 r10 r11 r12 r13) (TTranscript.mk r2 r3) (97:Int)).o.v)
 let r23:List ByteArray:=((chO (OS.mk r4 r5 r6 r7 r8 r9 r10 r11 r12 r13) (TTranscript.mk r2 r3) (97:Int)).o.s)
 let r24:List (List Int):=((chO (OS.mk r4 r5 r6 r7 r8 r9 r10 r11 r12 r13) (TTranscript.mk r2 r3) (97:Int)).o.t)
 let r25:List ByteArray:=((chO (OS.mk r4 r5 r6 r7 r8 r9 r10 r11 r12 r13) (TTranscript.mk r2 r3) (97:Int)).o.x)
 let r26:List Bool:=((chO (OS.mk r4 r5 r6 r7 r8 r9 r10 r11 r12 r13) (TTranscript.mk r2 r3) (97:Int)).o.y)
(r20=r20)∧((U64 (TTranscript.mk r15 r16).State∧U64 (TTranscript.mk r15 r16).Count)∧OOk (OS.mk r17 r18 r19 r20 r21 r22 r23 r24 r25 r26)∧r20.length≤900000)∧let r27:List Int:=((posO (OS.mk r17 r18 r19 r20 r21 r22 r23 r24 r25 r26) (TTranscript.mk r15 r16) (4:Int) (4:Int)).g)
 let r28:Int:=((posO (OS.mk r17 r18 r19 r20 r21 r22 r23 r24 r25 r26) (TTranscript.mk r15 r16) (4:Int) (4:Int)).t).State
 let r29:Int:=((posO (OS.mk r17 r18 r19 r20 r21 r22 r23 r24 r25 r26) (TTranscript.mk r15 r16) (4:Int) (4:Int)).t).Count
 let r30:Bool:=((posO (OS.mk r17 r18 r19 r20 r21 r22 r23 r24 r25 r26) (TTranscript.mk r15 r16) (4:Int) (4:Int)).o.a)
 let r31:Int:=((posO (OS.mk r17 r18 r19 r20 r21 r22 r23 r24 r25 r26) (TTranscript.mk r15 r16) (4:Int) (4:Int)).o.b)
 let r32:Int:=((posO (OS.mk r17 r18 r19 r20 r21 r22 r23 r24 r25 r26) (TTranscript.mk r15 r16) (4:Int) (4:Int)).o.c)
 let r33:List TQuestion:=((posO (OS.mk r17 r18 r19 r20 r21 r22 r23 r24 r25 r26) (TTranscript.mk r15 r16) (4:Int) (4:Int)).o.q)
 let r34:List ByteArray:=((posO (OS.mk r17 r18 r19 r20 r21 r22 r23 r24 r25 r26) (TTranscript.mk r15 r16) (4:Int) (4:Int)).o.k)
 let r35:List Int:=((posO (OS.mk r17 r18 r19 r20 r21 r22 r23 r24 r25 r26) (TTranscript.mk r15 r16) (4:Int) (4:Int)).o.v)
 let r36:List ByteArray:=((posO (OS.mk r17 r18 r19 r20 r21 r22 r23 r24 r25 r26) (TTranscript.mk r15 r16) (4:Int) (4:Int)).o.s)
 let r37:List (List Int):=((posO (OS.mk r17 r18 r19 r20 r21 r22 r23 r24 r25 r26) (TTranscript.mk r15 r16) (4:Int) (4:Int)).o.t)
 let r38:List ByteArray:=((posO (OS.mk r17 r18 r19 r20 r21 r22 r23 r24 r25 r26) (TTranscript.mk r15 r16) (4:Int) (4:Int)).o.x)
 let r39:List Bool:=((posO (OS.mk r17 r18 r19 r20 r21 r22 r23 r24 r25 r26) (TTranscript.mk r15 r16) (4:Int) (4:Int)).o.y)
((18446744069414584321:Int)=18446744069414584321∧U64 (19:Int)∧Us [5,0]∧[5,0].length≤1099511627776)∧((r1==(hashS (19:Int) [5,0]))=true→
((18446744069414584321:Int)=18446744069414584321∧U64 (19:Int)∧Us [5,1]∧[5,1].length≤1099511627776)∧let v40:Bool:=(r14==(Int.tmod (hashS (19:Int) [5,1]) 97))
(v40=true→
(((r15==5)&&((r16==2)&&true))=true→
(r27.length≤9223372036854775807)∧(decide (r27=[0,1,2,3]))=r0)∧
(((r15==5)&&((r16==2)&&true))=false→
 false=r0))∧
(v40=false→
 false=r0))∧
((r1==(hashS (19:Int) [5,0]))=false→
 false=r0))):kqk (()) (r0,()):=WPh.of_eq (by kernel_rfl) h
theorem bd10:Callable Try.prog 10:=⟨by rw[Try.func10];kernel_rfl,by rw[Try.func10];show some _≠some _;decide⟩
theorem k181:kqk (()) ((true:Bool),()):=by
 have z:RR (OS.mk false 0 0 [] [] [] [] [] [] []):=RR.z
 have zo:OOk (OS.mk false 0 0 [] [] [] [] [] [] []):=OOk.z false 0
 obtain⟨a1,a2,_,a4⟩:=z.ch (t:=⟨5,0⟩) (p:=18446744069414584321) (by decide) (by decide) (by decide)
 have b1:=zo.ch ⟨5,0⟩ 18446744069414584321 (by decide)
 refine k1bp ⟨rfl,⟨⟨by decide,by decide⟩,zo⟩,?_⟩
 dsimp only
 generalize chO (OS.mk false 0 0 [] [] [] [] [] [] []) ⟨5,0⟩ 18446744069414584321=c1 at *
 simp only[OS_eta,kw3]
 have e2:c1.t=⟨5,1⟩:=a2
 rw[e2]
 have b2:c1.o.q.length≤1:=b1.2.1
 obtain⟨d1,d2,_,d4⟩:=a4.ch (t:=⟨5,1⟩) (p:=97) (by decide) (by decide) (by decide)
 have f1:=b1.1.ch ⟨5,1⟩ 97 (by omega)
 refine⟨(by first|exact rfl|exact True.intro),⟨⟨by decide,by decide⟩,b1.1⟩,?_⟩
 generalize chO c1.o ⟨5,1⟩ 97=c2 at *
 have e3:c2.t=⟨5,2⟩:=d2
 rw[e3]
 have f2:c2.o.q.length≤c1.o.q.length+1:=f1.2.1
 refine⟨(by first|exact rfl|exact True.intro),⟨⟨by decide,by decide⟩,f1.1,by omega⟩,?_⟩
 have hp:=k1gt f1.1 ⟨5,2⟩ (n:=4) (by decide) (by omega)
 have h5:valH 19 [5,0]=hashS 19 [5,0]:=rfl
 have h6:valH 19 [5,1]=hashS 19 [5,1]:=rfl
 have g5:Int.tmod (hashS 19 [5,0]) 18446744069414584321=hashS 19 [5,0]:=by
  have:=k193 19 [5,0]
  have:=k1bu 19 [5,0]
  rw[tmod_nn _ _ (by omega)]
  omega
 rw[hp,a1,d1,h5,h6,g5]
 refine⟨⟨(by first|exact rfl|exact True.intro),by decide,(by intro x hx;simp at hx;omega),by decide⟩,fun _=>⟨⟨(by first|exact rfl|exact True.intro),by decide,(by intro x hx;simp at hx;omega),by decide⟩,fun _=>⟨fun _=>⟨by decide,by decide⟩,fun h=>by simp at h⟩,fun h=>by simp at h⟩,fun h=>by simp at h⟩
noncomputable def kz4:Con TB.den:=k70.totR fun x=>((true:Bool),())
theorem k1bh:kz4.Ok Try.prog TB:=Con.ok_tot k70 bd10 fun x=>k1ak (k181)
theorem bd24:Callable Try.prog 24:=⟨by rw[Try.func24];kernel_rfl,by rw[Try.func24];show some _≠some _;decide⟩
def k44:Con TB.den:=Con.mk0 24 [.one (.d (.int .u64))] [] (.one (.one (.ptr 0 0))) [.cells [.d (.bool),.d (.int .u64),.d (.int .i64),.own 1,.mp 2,.mp 3,.mp 4],.tip (.st 1),.map (.str) (.int .i64),.map (.str) (.sl (.int .u64)),.map (.str) (.bool)]
abbrev kty:=HL TB.den (hsT k44.ins (hsOs k44.pre))
abbrev kgc:=HL TB.den (hsV k44.res (hsOs k44.post))
noncomputable def kb4:Cx TB:=⟨inf,[kdj],[],4,[]⟩
noncomputable def kgy:Code:=Try.f24.body.getD .skip
noncomputable def kko:List ResultVar:=Try.f24.results.toList
noncomputable def ksr (o:kgc):An TB:= .no
def kh5 (x:kty) (o:kgc):Prop:=WPh TB kb4 13 0 kgy (ksr o) (k44.st TB x) (retTQ TB kb4 k44 kko o)
theorem k11p (o:kgc):OblH TB kb4 13 0 kgy (ksr o) (retTQ TB kb4 k44 kko o):=
 OblH.ofC (X:=True) (by kernel_rfl) trivial
theorem k10x {x:kty} {o:kgc} (h:kh5 x o):k44.Snd Try.prog x o:=
 Con.soundH (c:=k44) (C:=kb4) TBok ⟨inf_ok,(all_cons kn2 all_nil),all_nil⟩ mix Try.func24 (show Try.f24.body=some kgy by kernel_rfl) (show Try.f24.ntmps=13 by kernel_rfl) (show Try.f24.results.toList=kko by kernel_rfl) rfl h (k11p o)
theorem k12i {p0:Int} {d0_0:Bool} {d0_1:Int} {d0_2:Int} {e1:List TQuestion} {e2k:List ByteArray} {e2v:List Int} {e3k:List ByteArray} {e3v:List (List Int)} {e4k:List ByteArray} {e4v:List Bool} (h:
((([]:List TQuestion)=([]:List TQuestion))∧true=d0_0∧p0=d0_1∧0=d0_2∧([]:List TQuestion)=e1∧[]=e2k∧[]=e2v∧[]=e3k∧[]=e3v∧[]=e4k∧[]=e4v)):kh5 (p0,()) (d0_0,d0_1,d0_2,e1,e2k,e2v,e3k,e3v,e4k,e4v,()):=WPh.of_eq (by kernel_rfl) h
theorem k10i (p0:Int):kh5 (p0,()) ((true:Bool),(p0:Int),(0:Int),(([]:List TQuestion):List TQuestion),([]:List ByteArray),([]:List Int),([]:List ByteArray),([]:List (List Int)),([]:List ByteArray),([]:List Bool),()):=by
 exact k12i ⟨rfl,rfl,rfl,rfl,rfl,rfl,rfl,rfl,rfl,rfl,rfl⟩
noncomputable def krk:Con TB.den:=k44.totR fun x=>((fun(p0:Int)=>(true:Bool)) x.1,(fun(p0:Int)=>(p0:Int)) x.1,(fun(p0:Int)=>(0:Int)) x.1,(fun(p0:Int)=>(([]:List TQuestion):List TQuestion)) x.1,(fun(p0:Int)=>([]:List ByteArray)) x.1,(fun(p0:Int)=>([]:List Int)) x.1,(fun(p0:Int)=>([]:List ByteArray)) x.1,(fun(p0:Int)=>([]:List (List Int))) x.1,(fun(p0:Int)=>([]:List ByteArray)) x.1,(fun(p0:Int)=>([]:List Bool)) x.1,())
theorem k134:krk.Ok Try.prog TB:=Con.ok_tot k44 bd24 fun x=>k10x (k10i x.1)
def k6f:Con TB.den:=Con.mk0 16 [.one (.d (.sl (.st 0)))] [] (.one (.one (.d (.bool)))) []
abbrev k13b:=HL TB.den (hsT k6f.ins (hsOs k6f.pre))
abbrev kdi:=HL TB.den (hsV k6f.res (hsOs k6f.post))
noncomputable def k9m:Cx TB:=⟨inf,[],[],4,[]⟩
noncomputable def kf2:Code:=Try.f16.body.getD .skip
noncomputable def kon:List ResultVar:=Try.f16.results.toList
def k1c6 (o:kdi):=qS TB k9m 20 0 (cB (cB kf2)) .no (retTQ TB k9m k6f kon o)
def kf3:Tm:=⟨[],[],[0,3],[.one (.d (.sl (.st 0))),.one (.d (.int .i64))],0⟩
def khz (o:kdi) (nx1:NX TB kf3) (i:HL TB.den kf3.hs):Prop:=WP TB k9m 20 0 (cA (cA (cB (cA (cB kf2))))) .no (kf3.fill TB i) (qM TB 0 kf3 nx1 (blockT TB 0 (k1c6 o)))
noncomputable def k1bg (o:kdi):An TB:= .nd [] .no [] (.lp [] kf3 (khz o) fun nx1=> .no)
noncomputable def k10q (o:kdi):An TB:= .nd [] .no [] (.nd [] (k1bg o) [] .no)
def kqc (x:k13b) (o:kdi):Prop:=WPh TB k9m 20 0 kf2 (k10q o) (k6f.st TB x) (retTQ TB k9m k6f kon o)
theorem k19x (o:kdi):OblH TB k9m 20 0 kf2 (k10q o) (retTQ TB k9m k6f kon o):=
 OblH.ofC (X:=((∀nx i,(khz o) nx i=(khz o) nx i)∧(∀nx1:NX TB kf3,True)∧True)) (by kernel_rfl) ⟨fun _ _=>rfl,fun _=>trivial,trivial⟩
theorem k1ai {x:k13b} {o:kdi} (h:kqc x o):k6f.Snd Try.prog x o:=
 Con.soundH (c:=k6f) (C:=k9m) TBok ⟨inf_ok,all_nil,all_nil⟩ mix Try.func16 (show Try.f16.body=some kf2 by kernel_rfl) (show Try.f16.ntmps=20 by kernel_rfl) (show Try.f16.results.toList=kon by kernel_rfl) rfl h (k19x o)
theorem k1cw {p0:List TMessage} {r0:Bool} (h:
(Md.Loop (p0,(0:Int),()) (khz (r0,())))):kqc (p0,()) (r0,()):=WPh.of_eq (by kernel_rfl) h
def k11a (r0:Bool) (k1:Int→Prop) (s0:List TMessage) (s3:Int):Prop:=
(decide (s3<(s0.length:Int))=true→
(0≤s3)∧s3<(s0.length:Int)∧let v1:Bool:=decide (40<(((ix s0 s3).L).length:Int))
(v1=true→
 false=r0)∧
(v1=false→
 k1 (IntKind.i64.wrap (s3+1):Int)))∧
(decide (s3<(s0.length:Int))=false→
 decide ((s0.length:Int)≤20)=r0)
theorem k1al {r0:Bool} {s0:List TMessage} {s3:Int} (inv:Int→Prop) (μ:Int→Nat) (h0:inv s3) (hs:∀(s3:Int),inv s3→k11a r0 (fun s3q=>inv s3q∧μ s3q<μ s3) s0 s3):Md.Loop (s0,s3,()) (khz (r0,())):=
 ⟨⟨fun s:(List TMessage)×Int×Unit=>(s.1=s0)∧inv s.2.1,fun s:(List TMessage)×Int×Unit=>μ s.2.1,⟨rfl,h0⟩,fun(s0p,s3p,()) ⟨eq0,hi⟩=>by
  have eq0:s0p=s0:=eq0;subst s0p;exact mpr_of (by kernel_rfl) ((congrArg (fun k=>k11a r0 k s0 s3p) (lpk1 (rfl:s0=s0) inv (fun s3q=>μ s3q<μ s3p))).mpr (hs s3p hi))⟩⟩
theorem bd16:Callable Try.prog 16:=⟨by rw[Try.func16];kernel_rfl,by rw[Try.func16];show some _≠some _;decide⟩
theorem k18a (p0:List TMessage) (h:p0.length≤9223372036854775807):kqc (p0,()) (((decide (p0.length≤20)&&p0.all (fun m=>decide (m.L.length≤40))):Bool),()):=by
 refine k1cw (k1al (AllI (fun m=>decide (m.L.length≤40)) p0) (fun i=>(p0.length-i).toNat) AllI.start ?_)
 intro i hi
 refine⟨fun hh=> ?_,fun hh=> ?_⟩
 ·have hh:=of_decide_eq_true hh
  refine⟨hi.1,hh,?_⟩
  try dsimp only
  refine⟨fun e=> ?_,fun e=> ?_⟩
  ·have e:=of_decide_eq_true e
   rw[hi.bad hh (decide_eq_false (by omega)),Bool.and_false]
  ·have e:=of_decide_eq_false e
   exact hi.next hh (by omega) (decide_eq_true (by omega))
 ·have hh:=of_decide_eq_false hh
  rw[hi.done hh,Bool.and_true]
  congr 1
  exact propext ⟨fun h=>by omega,fun h=>by omega⟩
noncomputable def kzw:Con TB.den:=k6f.fnR (fun x=>(fun(p0:List TMessage)=>p0.length≤9223372036854775807) x.1) fun x=>((fun(p0:List TMessage)=>((decide (p0.length≤20)&&p0.all (fun m=>decide (m.L.length≤40))):Bool)) x.1,())
theorem k1cg:kzw.Ok Try.prog TB:=Con.ok_fn k6f bd16 fun x h=>k1ai (k18a x.1 h)
end Go.Proofs.Ytponaobpcdkggaa
end
