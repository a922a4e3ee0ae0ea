/-
  Parts of the proofs that the laws of this seat hold of every input, merged by a program: a machine over pure data that is sound for the model, what each function of the translation does in it, and plain lemmas. No conditions but those in each theorem.
-/
import Derived.Test.YtcilpmmlfpkdoaaA6
set_option maxRecDepth 100000
noncomputable section
namespace Go.Proofs.Ytcilpmmlfpkdoaa
open Go Go.Bv Go.Cv Go.Md Go.RowKit
def k17:Con TB.den:=Con.mk0 63 [.one (.row 0),.one (.d (.int .i64)),.one (.d (.int .i64)),.one (.d (.int .i64))] [.vec (.int .i64)] (.one (.one (.d (.int .i64)))) [.vec (.int .i64)]
abbrev kdn:=HL TB.den (hsT k17.ins (hsOs k17.pre))
abbrev kj:=HL TB.den (hsV k17.res (hsOs k17.post))
noncomputable def k16:Cx TB:=⟨inf,[k8l],[],4,[]⟩
noncomputable def k1n:Code:=Try.f63.body.getD .skip
noncomputable def k6k:List ResultVar:=Try.f63.results.toList
def knz (o:kj):=qS TB k16 84 1 (cB (cB (cB (cB k1n)))) .no (retTQ TB k16 k17 k6k o)
def kg:Tm:=⟨[0],[.vec (.int .i64)],[0,1,9,10],[.one (.row 0),.one (.d (.int .i64)),.one (.d (.int .i64)),.one (.d (.int .i64))],65⟩
def k48 (o:kj) (nx2:NX TB kg):=qM TB 1 kg nx2 (blockT TB 0 (knz o))
def k43:Tm:=⟨[0],[.vec (.int .i64)],[0,1,9,10],[.one (.row 0),.one (.d (.int .i64)),.one (.d (.int .i64)),.one (.d (.int .i64))],181⟩
def kbp (o:kj) (nx2:NX TB kg) (i:HL TB.den k43.hs):Prop:=ghs TB [] (k43.fill TB i) fun s=>WP TB k16 84 1 (cB (cB (cA (cA (cA (cA (cB (cB (cB k1n))))))))) .no s (blockT TB 1 (k48 o nx2))
structure k2g (o:kj) (nx2:NX TB kg) (i:HL TB.den k43.hs):Prop where
 h:kbp o nx2 i
def koc (o:kj) (nx2:NX TB kg):=qM TB 1 k43 (k2g o nx2) (blockT TB 1 (k48 o nx2))
def k2f:Tm:=⟨[0],[.vec (.int .i64)],[0,1,9,10],[.one (.row 0),.one (.d (.int .i64)),.one (.d (.int .i64)),.one (.d (.int .i64))],125⟩
def knr (o:kj) (nx2:NX TB kg) (nx3:NX TB k2f):=qM TB 1 k2f nx3 (blockT TB 4 (koc o nx2))
def k4f (o:kj) (nx2:NX TB kg) (nx3:NX TB k2f) (i:HL TB.den k2f.hs):Prop:=WP TB k16 84 1 (cA (cA (cA (cB (cA (cA (cA (cA (cB (cB (cB k1n))))))))))) .no (k2f.fill TB i) (knr o nx2 nx3)
noncomputable def koq (o:kj) (nx2:NX TB kg):An TB:= .lp [] k2f (k4f o nx2) fun nx3=> .no
noncomputable def kci (o:kj) (nx2:NX TB kg):An TB:= .jn k43 (k2g o nx2) [] (koq o nx2) [] .no
def k40:Tm:=⟨[0],[.vec (.int .i64)],[0,1,9,10],[.one (.row 0),.one (.d (.int .i64)),.one (.d (.int .i64)),.one (.d (.int .i64))],125⟩
def kce (o:kj) (nx2:NX TB kg) (i:HL TB.den k40.hs):Prop:=ghs TB [] (k40.fill TB i) fun s=>WP TB k16 84 1 (cB (cA (cA (cA (cA (cB (cB (cB k1n)))))))) (kci o nx2) s (blockT TB 1 (k48 o nx2))
structure k2h (o:kj) (nx2:NX TB kg) (i:HL TB.den k40.hs):Prop where
 h:kce o nx2 i
def ko0 (o:kj) (nx2:NX TB kg):=qM TB 1 k40 (k2h o nx2) (blockT TB 1 (k48 o nx2))
def k2d:Tm:=⟨[0],[.vec (.int .i64)],[0,1,9,10],[.one (.row 0),.one (.d (.int .i64)),.one (.d (.int .i64)),.one (.d (.int .i64))],65⟩
def knm (o:kj) (nx2:NX TB kg) (nx1:NX TB k2d):=qM TB 1 k2d nx1 (blockT TB 2 (ko0 o nx2))
def k4d (o:kj) (nx2:NX TB kg) (nx1:NX TB k2d) (i:HL TB.den k2d.hs):Prop:=WP TB k16 84 1 (cA (cA (cA (cA (cA (cA (cA (cB (cB (cB k1n)))))))))) .no (k2d.fill TB i) (knm o nx2 nx1)
noncomputable def kn2 (o:kj) (nx2:NX TB kg):An TB:= .lp [] k2d (k4d o nx2) fun nx1=> .no
noncomputable def kbs (o:kj) (nx2:NX TB kg):An TB:= .jn k40 (k2h o nx2) [] (kn2 o nx2) [] (kci o nx2)
def k4a (o:kj) (nx2:NX TB kg) (i:HL TB.den kg.hs):Prop:=WP TB k16 84 1 (cA (cA (cA (cB (cB (cB k1n)))))) (kbs o nx2) (kg.fill TB i) (k48 o nx2)
noncomputable def kmw (o:kj):An TB:= .lp [] kg (k4a o) fun nx2=>(kbs o nx2)
noncomputable def knc (o:kj):An TB:= .nd [] .no [] (.nd [] (kmw o) [] .no)
noncomputable def kco (o:kj):An TB:= .nd [] .no [] (.nd [] .no [] (knc o))
def k85 (x:kdn) (o:kj):Prop:=WPh TB k16 84 1 k1n (kco o) (k17.st TB x) (retTQ TB k16 k17 k6k o)
theorem kmd (o:kj):OblH TB k16 84 1 k1n (kco o) (retTQ TB k16 k17 k6k o):=
 OblH.ofC (X:=((∀nx i,(k4a o) nx i=(k4a o) nx i)∧(∀nx2:NX TB kg,((∀nx i,(k4d o nx2) nx i=(k4d o nx2) nx i)∧(∀nx1:NX TB k2d,True)∧(∀i,(k2h o nx2) i=kce o nx2 i)∧(∀nx i,(k4f o nx2) nx i=(k4f o nx2) nx i)∧(∀nx3:NX TB k2f,True)∧(∀i,(k2g o nx2) i=kbp o nx2 i)∧True))∧True)) (by kernel_rfl) ⟨fun _ _=>rfl,fun _=>⟨fun _ _=>rfl,fun _=>trivial,fun _=>propext ⟨fun h=>h.1,fun h=>⟨h⟩⟩,fun _ _=>rfl,fun _=>trivial,fun _=>propext ⟨fun h=>h.1,fun h=>⟨h⟩⟩,trivial⟩,trivial⟩
theorem kmn {x:kdn} {o:kj} (h:k85 x o):k17.Snd Try.prog x o:=
 Con.soundH (c:=k17) (C:=k16) TBok ⟨inf_ok,(all_cons kar all_nil),all_nil⟩ mix Try.func63 (show Try.f63.body=some k1n by kernel_rfl) (show Try.f63.ntmps=84 by kernel_rfl) (show Try.f63.results.toList=k6k by kernel_rfl) rfl h (kmd o)
theorem ko5 {p1:Int} {p2:Int} {p3:Int} {w0:List Int} {r0:Int} {e0:List Int} (h:
((0≤p3∧p3<(w0.length:Int))∧(0≤p3∧p3<(w0.length:Int))∧(0≤p1∧p1<(w0.length:Int))∧(0≤p1∧p1<(w0.length:Int))∧(0≤p1∧p1<(w0.length:Int))∧(0≤p1∧p1<(w0.length:Int))∧(0≤p3∧p3<(w0.length:Int))∧(0≤p3∧p3<((w0.set p1.toNat (ix w0 p3)).length:Int))∧(w0.length=((w0.set p1.toNat (ix w0 p3)).set p3.toNat (ix w0 p1)).length)∧Md.Loop (p1,(IntKind.i64.wrap (p1+1):Int),(IntKind.i64.wrap (p2-1):Int),((w0.set p1.toNat (ix w0 p3)).set p3.toNat (ix w0 p1):List Int),()) (k4a (r0,e0,())))):k85 (p1,p2,p3,w0,()) (r0,e0,()):=WPh.of_eq (by kernel_rfl) h
theorem kko {r0:Int} {e0:List Int} {nx2:NX TB kg} {s1:Int} {s9:Int} {s10:Int} {g0:List Int} (h:
((g0.length=g0.length)∧Md.Loop (s1,s9,s10,g0,()) (k4f (r0,e0,()) nx2))):k2h (r0,e0,()) nx2 (s1,s9,s10,g0,()):=⟨mpr_of (by kernel_rfl) h⟩
theorem kkm {r0:Int} {e0:List Int} {nx2:NX TB kg} {s1:Int} {s9:Int} {s10:Int} {g0:List Int} (h:
((decide (s10<s9)=true→
s9=r0∧g0=e0)∧
(decide (s10<s9)=false→
(0≤s10∧s10<(g0.length:Int))∧(0≤s10∧s10<(g0.length:Int))∧(0≤s9∧s9<(g0.length:Int))∧(0≤s9∧s9<(g0.length:Int))∧(0≤s9∧s9<(g0.length:Int))∧(0≤s9∧s9<(g0.length:Int))∧(0≤s10∧s10<(g0.length:Int))∧(0≤s10∧s10<((g0.set s9.toNat (ix g0 s10)).length:Int))∧(g0.length=((g0.set s9.toNat (ix g0 s10)).set s10.toNat (ix g0 s9)).length)∧nx2 (s1,(IntKind.i64.wrap (s9+1):Int),(IntKind.i64.wrap (s10-1):Int),((g0.set s9.toNat (ix g0 s10)).set s10.toNat (ix g0 s9):List Int),())))):k2g (r0,e0,()) nx2 (s1,s9,s10,g0,()):=⟨mpr_of (by kernel_rfl) h⟩
def kcj (r0:Int) (e0:List Int) (nx2:NX TB kg) (k2:Int→Int→List Int→Prop) (s1:Int) (s9:Int) (s10:Int) (g0:List Int):Prop:=
(g0.length=g0.length)∧Md.Loop (s1,s9,s10,g0,()) (k4d (r0,e0,()) nx2)
theorem kmo {r0:Int} {e0:List Int} {s1:Int} {s9:Int} {s10:Int} {g0:List Int} (inv:Int→Int→List Int→Prop) (μ:Int→Int→List Int→Nat) (h0:inv s9 s10 g0) (hs:∀(s9:Int) (s10:Int) (g0:List Int),inv s9 s10 g0→kcj r0 e0 (fun s:Int×Int×Int×(List Int)×Unit=>((s.1=s1)∧inv s.2.1 s.2.2.1 s.2.2.2.1)∧μ s.2.1 s.2.2.1 s.2.2.2.1<μ s9 s10 g0) (fun s9q s10q g0q=>inv s9q s10q g0q∧μ s9q s10q g0q<μ s9 s10 g0) s1 s9 s10 g0):Md.Loop (s1,s9,s10,g0,()) (k4a (r0,e0,())):=
 ⟨⟨fun s:Int×Int×Int×(List Int)×Unit=>(s.1=s1)∧inv s.2.1 s.2.2.1 s.2.2.2.1,fun s:Int×Int×Int×(List Int)×Unit=>μ s.2.1 s.2.2.1 s.2.2.2.1,⟨rfl,h0⟩,fun(s1p,s9p,s10p,g0p,()) ⟨eq0,hi⟩=>by
  have eq0:s1p=s1:=eq0;subst s1p;exact mpr_of (by kernel_rfl) ((congrArg (fun k=>kcj r0 e0 (fun s:Int×Int×Int×(List Int)×Unit=>((s.1=s1)∧inv s.2.1 s.2.2.1 s.2.2.2.1)∧μ s.2.1 s.2.2.1 s.2.2.2.1<μ s9p s10p g0p) k s1 s9p s10p g0p) (lpk3 (rfl:s1=s1) inv (fun s9q s10q g0q=>μ s9q s10q g0q<μ s9p s10p g0p))).mpr (hs s9p s10p g0p hi))⟩⟩
def kch (r0:Int) (e0:List Int) (nx2:NX TB kg) (k1:Int→Prop) (s1:Int) (s10:Int) (g0:List Int) (s9:Int):Prop:=
(decide (s9≤s10)=true→
(0≤s1∧s1<(g0.length:Int))∧(0≤s1∧s1<(g0.length:Int))∧(0≤s9∧s9<(g0.length:Int))∧(0≤s9∧s9<(g0.length:Int))∧((!(decide ((ix g0 s1)<(ix g0 s9))))=true→
(g0.length=g0.length)∧k1 (IntKind.i64.wrap (s9+1):Int))∧
((!(decide ((ix g0 s1)<(ix g0 s9))))=false→
(g0.length=g0.length)∧k2h (r0,e0,()) nx2 (s1,s9,s10,g0,())))∧
(decide (s9≤s10)=false→
(g0.length=g0.length)∧k2h (r0,e0,()) nx2 (s1,s9,s10,g0,()))
theorem km8 {r0:Int} {e0:List Int} {nx2:NX TB kg} {s1:Int} {s10:Int} {g0:List Int} {s9:Int} (inv:Int→Prop) (μ:Int→Nat) (h0:inv s9) (hs:∀(s9:Int),inv s9→kch r0 e0 nx2 (fun s9q=>inv s9q∧μ s9q<μ s9) s1 s10 g0 s9):Md.Loop (s1,s9,s10,g0,()) (k4d (r0,e0,()) nx2):=
 ⟨⟨fun s:Int×Int×Int×(List Int)×Unit=>(s.1=s1∧s.2.2.1=s10∧s.2.2.2.1=g0)∧inv s.2.1,fun s:Int×Int×Int×(List Int)×Unit=>μ s.2.1,⟨⟨rfl,rfl,rfl⟩,h0⟩,fun(s1p,s9p,s10p,g0p,()) ⟨⟨eq0,eq1,eq2⟩,hi⟩=>by
  have eq0:s1p=s1:=eq0;subst s1p;have eq1:s10p=s10:=eq1;subst s10p;have eq2:g0p=g0:=eq2;subst g0p;exact mpr_of (by kernel_rfl) ((congrArg (fun k=>kch r0 e0 nx2 k s1 s10 g0 s9p) (lpk1 (⟨rfl,rfl,rfl⟩:s1=s1∧s10=s10∧g0=g0) inv (fun s9q=>μ s9q<μ s9p))).mpr (hs s9p hi))⟩⟩
def kcl (r0:Int) (e0:List Int) (nx2:NX TB kg) (k3:Int→Prop) (s1:Int) (s9:Int) (g0:List Int) (s10:Int):Prop:=
(decide (s9≤s10)=true→
(0≤s1∧s1<(g0.length:Int))∧(0≤s1∧s1<(g0.length:Int))∧(0≤s10∧s10<(g0.length:Int))∧(0≤s10∧s10<(g0.length:Int))∧((decide ((ix g0 s1)<(ix g0 s10)))=true→
(g0.length=g0.length)∧k3 (IntKind.i64.wrap (s10-1):Int))∧
((decide ((ix g0 s1)<(ix g0 s10)))=false→
(g0.length=g0.length)∧k2g (r0,e0,()) nx2 (s1,s9,s10,g0,())))∧
(decide (s9≤s10)=false→
(g0.length=g0.length)∧k2g (r0,e0,()) nx2 (s1,s9,s10,g0,()))
theorem kmf {r0:Int} {e0:List Int} {nx2:NX TB kg} {s1:Int} {s9:Int} {g0:List Int} {s10:Int} (inv:Int→Prop) (μ:Int→Nat) (h0:inv s10) (hs:∀(s10:Int),inv s10→kcl r0 e0 nx2 (fun s10q=>inv s10q∧μ s10q<μ s10) s1 s9 g0 s10):Md.Loop (s1,s9,s10,g0,()) (k4f (r0,e0,()) nx2):=
 ⟨⟨fun s:Int×Int×Int×(List Int)×Unit=>(s.1=s1∧s.2.1=s9∧s.2.2.2.1=g0)∧inv s.2.2.1,fun s:Int×Int×Int×(List Int)×Unit=>μ s.2.2.1,⟨⟨rfl,rfl,rfl⟩,h0⟩,fun(s1p,s9p,s10p,g0p,()) ⟨⟨eq0,eq1,eq2⟩,hi⟩=>by
  have eq0:s1p=s1:=eq0;subst s1p;have eq1:s9p=s9:=eq1;subst s9p;have eq2:g0p=g0:=eq2;subst g0p;exact mpr_of (by kernel_rfl) ((congrArg (fun k=>kcl r0 e0 nx2 k s1 s9 g0 s10p) (lpk1 (⟨rfl,rfl,rfl⟩:s1=s1∧s9=s9∧g0=g0) inv (fun s10q=>μ s10q<μ s10p))).mpr (hs s10p hi))⟩⟩
theorem bd63:Callable Try.prog 63:=⟨by rw[Try.func63];kernel_rfl,by rw[Try.func63];show some _≠some _;decide⟩
set_option maxHeartbeats 1000000 in
theorem kln (p1:Int) (p2:Int) (p3:Int) (w0:List Int) (h:(0≤p1∧p1≤p3∧p3<p2∧p2≤w0.length)∧w0.length≤1099511627776):k85 (p1,p2,p3,w0,()) ((((peqS w0 p1 p2 p3).1:Int):Int),(((peqS w0 p1 p2 p3).2.toList):List Int),()):=by
 obtain⟨⟨h1,h2,h3,h4⟩,h5⟩:=h
 have hs0:=swp_arr (g:=w0) (i:=p1) (j:=p3) (by omega) (by omega) (by omega) (by omega)
 have hst:peqS w0 p1 p2 p3=Sort.partEqLoop Sort.ltInt p1.toNat (p1.toNat+1) (p2.toNat-1) (Sort.swp w0.toArray p1.toNat p3.toNat):=rfl
 rw[hs0]at hst
 refine ko5 ⟨⟨by omega,by omega⟩,⟨by omega,by omega⟩,⟨by omega,by omega⟩,⟨by omega,by omega⟩,⟨by omega,by omega⟩,⟨by omega,by omega⟩,⟨by omega,by omega⟩,⟨by omega,by rw[List.length_set];omega⟩,by rw[List.length_set,List.length_set],?_⟩
 rw[wi (p1+1) (by omega) (by omega),wi (p2-1) (by omega) (by omega)]
 generalize peqS w0 p1 p2 p3=R at *
 refine kmo (fun i j g=>(p1<i∧i≤j+1∧j<p2)∧g.length=w0.length∧R=Sort.partEqLoop Sort.ltInt p1.toNat i.toNat j.toNat g.toArray) (fun i j _=>(j+1-i).toNat) ⟨⟨by omega,by omega,by omega⟩,by rw[List.length_set,List.length_set],by rw[hst,show(p1+1).toNat=p1.toNat+1 by omega,show(p2-1).toNat=p2.toNat-1 by omega]⟩ ?_
 clear hst hs0
 rintro i j g ⟨⟨i0,i1,i2⟩,g2,g3⟩
 refine⟨rfl,?_⟩
 rw[Sort.partEqLoop_eq]at g3
 have xa:=arr_ix (g:=g) (i:=p1) (by omega) (by omega)
 rw[xa]at g3
 have jj2:∀(nx:NX TB kg) (i' j' :Int),(i≤i'∧i'≤j+1∧i' -1≤j'∧j'≤j)→Sort.scanUp (fun x=> !Sort.ltInt (ix g p1) x) g.toArray j.toNat i.toNat=i'.toNat→Sort.scanDown (fun x=>Sort.ltInt (ix g p1) x) g.toArray i'.toNat j.toNat=j'.toNat→(i'≤j'→i' <j')→
   (∀g' :List Int,(((p1<IntKind.i64.wrap (i' +1)∧IntKind.i64.wrap (i' +1)≤IntKind.i64.wrap (j' -1)+1∧IntKind.i64.wrap (j' -1)<p2)∧g'.length=w0.length∧R=Sort.partEqLoop Sort.ltInt p1.toNat (IntKind.i64.wrap (i' +1)).toNat (IntKind.i64.wrap (j' -1)).toNat g'.toArray)∧(IntKind.i64.wrap (j' -1)+1-(IntKind.i64.wrap (i' +1))).toNat<(j+1-i).toNat)→nx (p1,(IntKind.i64.wrap (i' +1):Int),(IntKind.i64.wrap (j' -1):Int),g',()))→k2g ((R.1:Int),R.2.toList,()) nx (p1,i',j',g,()):=by
  intro nx i' j' ⟨q0,q1,q2,q3⟩ e1 e2 e3 hn
  rw[e1,e2]at g3
  refine kkm ⟨fun c=> ?_,fun c=> ?_⟩
  ·have c:=of_decide_eq_true c
   rw[if_pos (by omega)]at g3
   rw[g3]
   exact⟨(Int.toNat_of_nonneg (by omega)).symm,rfl⟩
  ·have c:=of_decide_eq_false c
   have hs:=swp_arr (g:=g) (i:=i') (j:=j') (by omega) (by omega) (by omega) (by omega)
   rw[if_neg (by omega),hs,show i'.toNat+1=(i' +1).toNat by omega,show j'.toNat-1=(j' -1).toNat by omega]at g3
   have w1:=wi (i' +1) (by omega) (by omega)
   have w2:=wi (j' -1) (by omega) (by omega)
   have e4:=e3 (by omega)
   have:=hn (swpL g i' j') (by rw[w1,w2];exact⟨⟨⟨by omega,by omega,by omega⟩,by rw[krp];exact g2,g3⟩,by omega⟩)
   exact⟨⟨by omega,by omega⟩,⟨by omega,by omega⟩,⟨by omega,by omega⟩,⟨by omega,by omega⟩,⟨by omega,by omega⟩,⟨by omega,by omega⟩,⟨by omega,by omega⟩,⟨by omega,by rw[List.length_set];omega⟩,by rw[List.length_set,List.length_set],this⟩
 have jj1:∀(nx:NX TB kg) (i' :Int),(i≤i'∧i'≤j+1)→Sort.scanUp (fun x=> !Sort.ltInt (ix g p1) x) g.toArray j.toNat i.toNat=i'.toNat→(i'≤j→ix g p1<ix g i')→
   (∀(j' :Int) (g' :List Int),(((p1<IntKind.i64.wrap (i' +1)∧IntKind.i64.wrap (i' +1)≤IntKind.i64.wrap (j' -1)+1∧IntKind.i64.wrap (j' -1)<p2)∧g'.length=w0.length∧R=Sort.partEqLoop Sort.ltInt p1.toNat (IntKind.i64.wrap (i' +1)).toNat (IntKind.i64.wrap (j' -1)).toNat g'.toArray)∧(IntKind.i64.wrap (j' -1)+1-(IntKind.i64.wrap (i' +1))).toNat<(j+1-i).toNat)→nx (p1,(IntKind.i64.wrap (i' +1):Int),(IntKind.i64.wrap (j' -1):Int),g',()))→k2h ((R.1:Int),R.2.toList,()) nx (p1,i',j,g,()):=by
  intro nx i' ⟨q0,q1⟩ e1 e2 hn
  refine kko ⟨rfl,?_⟩
  refine kmf (fun j' =>(i' -1≤j'∧j'≤j)∧Sort.scanDown (fun x=>Sort.ltInt (ix g p1) x) g.toArray i'.toNat j'.toNat=Sort.scanDown (fun x=>Sort.ltInt (ix g p1) x) g.toArray i'.toNat j.toNat) (fun j' =>(j' +1).toNat) ⟨⟨by omega,by omega⟩,rfl⟩ ?_
  rintro j' ⟨⟨k0,k1⟩,k2⟩
  refine⟨fun c=> ?_,fun c=> ?_⟩
  ·have c:=of_decide_eq_true c
   have xj:=arr_ix (g:=g) (i:=j') (by omega) (by omega)
   rw[k144 (by omega) c,xj,ltI_iff]at k2
   rw[wi (j' -1) (by omega) (by omega)]
   refine⟨⟨by omega,by omega⟩,⟨by omega,by omega⟩,⟨by omega,by omega⟩,⟨by omega,by omega⟩,fun d=>⟨rfl,⟨⟨by omega,by omega⟩,?_⟩,by omega⟩,fun d=>⟨rfl,?_⟩⟩
   ·rw[if_pos d]at k2
    exact k2
   ·rw[if_neg (by rw[d];decide)]at k2
    refine jj2 nx i' j' ⟨q0,q1,k0,k1⟩ e1 k2.symm (fun e=> ?_) (hn j')
    have:=e2 (by omega)
    have d:=of_decide_eq_false d
    by_cases hij:i' =j'
    ·subst hij;exact absurd this d
    ·omega
  ·have c:=of_decide_eq_false c
   rw[k11v (by omega) c]at k2
   exact⟨rfl,jj2 nx i' j' ⟨q0,q1,k0,k1⟩ e1 k2.symm (fun e=>absurd e c) (hn j')⟩
 refine km8 (fun i' =>(i≤i'∧i'≤j+1)∧Sort.scanUp (fun x=> !Sort.ltInt (ix g p1) x) g.toArray j.toNat i'.toNat=Sort.scanUp (fun x=> !Sort.ltInt (ix g p1) x) g.toArray j.toNat i.toNat) (fun i' =>(j+2-i').toNat) ⟨⟨by omega,by omega⟩,rfl⟩ ?_
 rintro i' ⟨⟨k0,k1⟩,k2⟩
 refine⟨fun c=> ?_,fun c=> ?_⟩
 ·have c:=of_decide_eq_true c
  have xj:=arr_ix (g:=g) (i:=i') (by omega) (by omega)
  rw[k1a3 (by omega) c,xj,ltI_iff]at k2
  rw[wi (i' +1) (by omega) (by omega)]
  refine⟨⟨by omega,by omega⟩,⟨by omega,by omega⟩,⟨by omega,by omega⟩,⟨by omega,by omega⟩,fun d=>⟨rfl,⟨⟨by omega,by omega⟩,?_⟩,by omega⟩,fun d=>⟨rfl,?_⟩⟩
  ·rw[if_pos d]at k2
   exact k2
  ·rw[if_neg (by rw[d];decide)]at k2
   exact jj1 _ i' ⟨k0,k1⟩ k2.symm (fun _=>by simpa using d) fun j' g' q=>⟨⟨rfl,q.1⟩,q.2⟩
 ·have c:=of_decide_eq_false c
  rw[k15y (by omega) c]at k2
  exact⟨rfl,jj1 _ i' ⟨k0,k1⟩ k2.symm (fun e=>absurd e c) fun j' g' q=>⟨⟨rfl,q.1⟩,q.2⟩⟩
noncomputable def kbv:Con TB.den:=k17.fnR (fun x=>(fun(p1:Int) (p2:Int) (p3:Int) (w0:List Int)=>(0≤p1∧p1≤p3∧p3<p2∧p2≤w0.length)∧w0.length≤1099511627776) x.1 x.2.1 x.2.2.1 x.2.2.2.1) fun x=>(fun(p1:Int) (p2:Int) (p3:Int) (w0:List Int)=>((((peqS w0 p1 p2 p3).1:Int):Int),(((peqS w0 p1 p2 p3).2.toList):List Int),())) x.1 x.2.1 x.2.2.1 x.2.2.2.1
theorem kof:kbv.Ok Try.prog TB:=Con.ok_fn k17 bd63 fun x h=>kmn (kln x.1 x.2.1 x.2.2.1 x.2.2.2.1 h)
def kx:Con TB.den:=Con.mk0 64 [.one (.row 0),.one (.d (.int .i64)),.one (.d (.int .i64)),.one (.d (.int .i64))] [.vec (.int .i64)] (.tup [.one (.d (.int .i64)),.one (.d (.bool))]) [.vec (.int .i64)]
abbrev kgy:=HL TB.den (hsT kx.ins (hsOs kx.pre))
abbrev kf:=HL TB.den (hsV kx.res (hsOs kx.post))
noncomputable def km:Cx TB:=⟨inf,[k8l],[],4,[]⟩
noncomputable def k19:Code:=Try.f64.body.getD .skip
noncomputable def k2q:List ResultVar:=Try.f64.results.toList
def kt8 (o:kf):=qS TB km 168 1 (cB (cB (cB (cB (cB (cB (cB (cB (cB (cB k19)))))))))) .no (retTQ TB km kx k2q o)
def ki:Tm:=⟨[0],[.vec (.int .i64)],[0,1,10,11],[.one (.row 0),.one (.d (.int .i64)),.one (.d (.int .i64)),.one (.d (.int .i64))],245⟩
def k64 (o:kf) (nx4:NX TB ki):=qM TB 1 ki nx4 (blockT TB 4 (kt8 o))
def k5w:Tm:=⟨[0],[.vec (.int .i64)],[0,1,10,11],[.one (.row 0),.one (.d (.int .i64)),.one (.d (.int .i64)),.one (.d (.int .i64))],361⟩
def kfa (o:kf) (nx4:NX TB ki) (i:HL TB.den k5w.hs):Prop:=ghs TB [] (k5w.fill TB i) fun s=>WP TB km 168 1 (cB (cB (cA (cA (cA (cA (cB (cB (cB (cB (cB (cB (cB (cB (cB k19))))))))))))))) .no s (blockT TB 5 (k64 o nx4))
structure k3a (o:kf) (nx4:NX TB ki) (i:HL TB.den k5w.hs):Prop where
 h:kfa o nx4 i
def ktw (o:kf) (nx4:NX TB ki):=qM TB 1 k5w (k3a o nx4) (blockT TB 5 (k64 o nx4))
def k3h:Tm:=⟨[0],[.vec (.int .i64)],[0,1,10,11],[.one (.row 0),.one (.d (.int .i64)),.one (.d (.int .i64)),.one (.d (.int .i64))],301⟩
def ktr (o:kf) (nx4:NX TB ki) (nx5:NX TB k3h):=qM TB 1 k3h nx5 (blockT TB 8 (ktw o nx4))
def k6e (o:kf) (nx4:NX TB ki) (nx5:NX TB k3h) (i:HL TB.den k3h.hs):Prop:=WP TB km 168 1 (cA (cA (cA (cB (cA (cA (cA (cA (cB (cB (cB (cB (cB (cB (cB (cB (cB k19))))))))))))))))) .no (k3h.fill TB i) (ktr o nx4 nx5)
noncomputable def ku9 (o:kf) (nx4:NX TB ki):An TB:= .lp [] k3h (k6e o nx4) fun nx5=> .no
noncomputable def kg4 (o:kf) (nx4:NX TB ki):An TB:= .jn k5w (k3a o nx4) [] (ku9 o nx4) [] .no
def k5v:Tm:=⟨[0],[.vec (.int .i64)],[0,1,10,11],[.one (.row 0),.one (.d (.int .i64)),.one (.d (.int .i64)),.one (.d (.int .i64))],301⟩
def kfc (o:kf) (nx4:NX TB ki) (i:HL TB.den k5v.hs):Prop:=ghs TB [] (k5v.fill TB i) fun s=>WP TB km 168 1 (cB (cA (cA (cA (cA (cB (cB (cB (cB (cB (cB (cB (cB (cB k19)))))))))))))) (kg4 o nx4) s (blockT TB 5 (k64 o nx4))
structure k3f (o:kf) (nx4:NX TB ki) (i:HL TB.den k5v.hs):Prop where
 h:kfc o nx4 i
def ktk (o:kf) (nx4:NX TB ki):=qM TB 1 k5v (k3f o nx4) (blockT TB 5 (k64 o nx4))
def k3g:Tm:=⟨[0],[.vec (.int .i64)],[0,1,10,11],[.one (.row 0),.one (.d (.int .i64)),.one (.d (.int .i64)),.one (.d (.int .i64))],245⟩
def ksb (o:kf) (nx4:NX TB ki) (nx3:NX TB k3g):=qM TB 1 k3g nx3 (blockT TB 6 (ktk o nx4))
def k68 (o:kf) (nx4:NX TB ki) (nx3:NX TB k3g) (i:HL TB.den k3g.hs):Prop:=WP TB km 168 1 (cA (cA (cA (cA (cA (cA (cA (cB (cB (cB (cB (cB (cB (cB (cB (cB k19)))))))))))))))) .no (k3g.fill TB i) (ksb o nx4 nx3)
noncomputable def ksr (o:kf) (nx4:NX TB ki):An TB:= .lp [] k3g (k68 o nx4) fun nx3=> .no
noncomputable def kfd (o:kf) (nx4:NX TB ki):An TB:= .jn k5v (k3f o nx4) [] (ksr o nx4) [] (kg4 o nx4)
def k4b (o:kf) (nx4:NX TB ki) (i:HL TB.den ki.hs):Prop:=WP TB km 168 1 (cA (cA (cA (cB (cB (cB (cB (cB (cB (cB (cB (cB k19)))))))))))) (kfd o nx4) (ki.fill TB i) (k64 o nx4)
noncomputable def ksh (o:kf):An TB:= .lp [] ki (k4b o) fun nx4=>(kfd o nx4)
noncomputable def ks7 (o:kf):An TB:= .nd [] .no [] (.nd [] (ksh o) [] .no)
noncomputable def kfb (o:kf):An TB:= .nd [] .no [] (.nd [] .no [] (ks7 o))
def k5t:Tm:=⟨[0],[.vec (.int .i64)],[0,1,10,11],[.one (.row 0),.one (.d (.int .i64)),.one (.d (.int .i64)),.one (.d (.int .i64))],181⟩
def kf9 (o:kf) (i:HL TB.den k5t.hs):Prop:=ghs TB [] (k5t.fill TB i) fun s=>WP TB km 168 1 (cB (cB (cB (cB (cB k19))))) (.nd [] .no [] (kfb o)) s (retTQ TB km kx k2q o)
structure k3c (o:kf) (i:HL TB.den k5t.hs):Prop where
 h:kf9 o i
def kss (o:kf):=qM TB 1 k5t (k3c o) (retTQ TB km kx k2q o)
def k3d:Tm:=⟨[0],[.vec (.int .i64)],[0,1,10,11],[.one (.row 0),.one (.d (.int .i64)),.one (.d (.int .i64)),.one (.d (.int .i64))],121⟩
def ksi (o:kf) (nx2:NX TB k3d):=qM TB 1 k3d nx2 (blockT TB 2 (kss o))
def k66 (o:kf) (nx2:NX TB k3d) (i:HL TB.den k3d.hs):Prop:=WP TB km 168 1 (cA (cA (cA (cB (cB (cB (cB k19))))))) .no (k3d.fill TB i) (ksi o nx2)
noncomputable def ksk (o:kf):An TB:= .lp [] k3d (k66 o) fun nx2=> .no
noncomputable def kf8 (o:kf):An TB:= .jn k5t (k3c o) [] (ksk o) [] (.nd [] .no [] (kfb o))
def k5u:Tm:=⟨[0],[.vec (.int .i64)],[0,1,10,11],[.one (.row 0),.one (.d (.int .i64)),.one (.d (.int .i64)),.one (.d (.int .i64))],121⟩
def kf6 (o:kf) (i:HL TB.den k5u.hs):Prop:=ghs TB [] (k5u.fill TB i) fun s=>WP TB km 168 1 (cB (cB (cB (cB k19)))) (kf8 o) s (retTQ TB km kx k2q o)
structure k3b (o:kf) (i:HL TB.den k5u.hs):Prop where
 h:kf6 o i
def ksp (o:kf):=qM TB 1 k5u (k3b o) (retTQ TB km kx k2q o)
def k3e:Tm:=⟨[0],[.vec (.int .i64)],[0,1,10,11],[.one (.row 0),.one (.d (.int .i64)),.one (.d (.int .i64)),.one (.d (.int .i64))],65⟩
def ksj (o:kf) (nx1:NX TB k3e):=qM TB 1 k3e nx1 (blockT TB 0 (ksp o))
def k6c (o:kf) (nx1:NX TB k3e) (i:HL TB.den k3e.hs):Prop:=WP TB km 168 1 (cA (cA (cA (cB (cB (cB k19)))))) .no (k3e.fill TB i) (ksj o nx1)
noncomputable def ks8 (o:kf):An TB:= .lp [] k3e (k6c o) fun nx1=> .no
noncomputable def kst (o:kf):An TB:= .jn k5u (k3b o) [] (ks8 o) [] (kf8 o)
noncomputable def ksq (o:kf):An TB:= .nd [] .no [] (.nd [] .no [] (kst o))
noncomputable def kg5 (o:kf):An TB:= .nd [] .no [] (ksq o)
def k9v (x:kgy) (o:kf):Prop:=WPh TB km 168 1 k19 (kg5 o) (kx.st TB x) (retTQ TB km kx k2q o)
theorem ksg (o:kf):OblH TB km 168 1 k19 (kg5 o) (retTQ TB km kx k2q o):=
 OblH.ofC (X:=((∀nx i,(k6c o) nx i=(k6c o) nx i)∧(∀nx1:NX TB k3e,True)∧(∀i,(k3b o) i=kf6 o i)∧(∀nx i,(k66 o) nx i=(k66 o) nx i)∧(∀nx2:NX TB k3d,True)∧(∀i,(k3c o) i=kf9 o i)∧(∀nx i,(k4b o) nx i=(k4b o) nx i)∧(∀nx4:NX TB ki,((∀nx i,(k68 o nx4) nx i=(k68 o nx4) nx i)∧(∀nx3:NX TB k3g,True)∧(∀i,(k3f o nx4) i=kfc o nx4 i)∧(∀nx i,(k6e o nx4) nx i=(k6e o nx4) nx i)∧(∀nx5:NX TB k3h,True)∧(∀i,(k3a o nx4) i=kfa o nx4 i)∧True))∧True)) (by kernel_rfl) ⟨fun _ _=>rfl,fun _=>trivial,fun _=>propext ⟨fun h=>h.1,fun h=>⟨h⟩⟩,fun _ _=>rfl,fun _=>trivial,fun _=>propext ⟨fun h=>h.1,fun h=>⟨h⟩⟩,fun _ _=>rfl,fun _=>⟨fun _ _=>rfl,fun _=>trivial,fun _=>propext ⟨fun h=>h.1,fun h=>⟨h⟩⟩,fun _ _=>rfl,fun _=>trivial,fun _=>propext ⟨fun h=>h.1,fun h=>⟨h⟩⟩,trivial⟩,trivial⟩
theorem ksl {x:kgy} {o:kf} (h:k9v x o):kx.Snd Try.prog x o:=
 Con.soundH (c:=kx) (C:=km) TBok ⟨inf_ok,(all_cons kar all_nil),all_nil⟩ mix Try.func64 (show Try.f64.body=some k19 by kernel_rfl) (show Try.f64.ntmps=168 by kernel_rfl) (show Try.f64.results.toList=k2q by kernel_rfl) rfl h (ksg o)
theorem ku8 {p1:Int} {p2:Int} {p3:Int} {w0:List Int} {r0:Int} {r1:Bool} {e0:List Int} (h:
((0≤p3∧p3<(w0.length:Int))∧(0≤p3∧p3<(w0.length:Int))∧(0≤p1∧p1<(w0.length:Int))∧(0≤p1∧p1<(w0.length:Int))∧(0≤p1∧p1<(w0.length:Int))∧(0≤p1∧p1<(w0.length:Int))∧(0≤p3∧p3<(w0.length:Int))∧(0≤p3∧p3<((w0.set p1.toNat (ix w0 p3)).length:Int))∧(w0.length=((w0.set p1.toNat (ix w0 p3)).set p3.toNat (ix w0 p1)).length)∧Md.Loop (p1,(IntKind.i64.wrap (p1+1):Int),(IntKind.i64.wrap (p2-1):Int),((w0.set p1.toNat (ix w0 p3)).set p3.toNat (ix w0 p1):List Int),()) (k6c (r0,r1,e0,())))):k9v (p1,p2,p3,w0,()) (r0,r1,e0,()):=WPh.of_eq (by kernel_rfl) h
theorem kpz {r0:Int} {r1:Bool} {e0:List Int} {s1:Int} {s10:Int} {s11:Int} {g0:List Int} (h:
((g0.length=g0.length)∧Md.Loop (s1,s10,s11,g0,()) (k66 (r0,r1,e0,())))):k3b (r0,r1,e0,()) (s1,s10,s11,g0,()):=⟨mpr_of (by kernel_rfl) h⟩
theorem kqk {r0:Int} {r1:Bool} {e0:List Int} {s1:Int} {s10:Int} {s11:Int} {g0:List Int} (h:
((decide (s11<s10)=true→
(0≤s1∧s1<(g0.length:Int))∧(0≤s1∧s1<(g0.length:Int))∧(0≤s11∧s11<(g0.length:Int))∧(0≤s11∧s11<(g0.length:Int))∧(0≤s11∧s11<(g0.length:Int))∧(0≤s11∧s11<(g0.length:Int))∧(0≤s1∧s1<(g0.length:Int))∧(0≤s1∧s1<((g0.set s11.toNat (ix g0 s1)).length:Int))∧s11=r0∧true=r1∧(g0.set s11.toNat (ix g0 s1)).set s1.toNat (ix g0 s11)=e0)∧
(decide (s11<s10)=false→
(0≤s11∧s11<(g0.length:Int))∧(0≤s11∧s11<(g0.length:Int))∧(0≤s10∧s10<(g0.length:Int))∧(0≤s10∧s10<(g0.length:Int))∧(0≤s10∧s10<(g0.length:Int))∧(0≤s10∧s10<(g0.length:Int))∧(0≤s11∧s11<(g0.length:Int))∧(0≤s11∧s11<((g0.set s10.toNat (ix g0 s11)).length:Int))∧(g0.length=((g0.set s10.toNat (ix g0 s11)).set s11.toNat (ix g0 s10)).length)∧Md.Loop (s1,(IntKind.i64.wrap (s10+1):Int),(IntKind.i64.wrap (s11-1):Int),((g0.set s10.toNat (ix g0 s11)).set s11.toNat (ix g0 s10):List Int),()) (k4b (r0,r1,e0,()))))):k3c (r0,r1,e0,()) (s1,s10,s11,g0,()):=⟨mpr_of (by kernel_rfl) h⟩
theorem kqc {r0:Int} {r1:Bool} {e0:List Int} {nx4:NX TB ki} {s1:Int} {s10:Int} {s11:Int} {g0:List Int} (h:
((g0.length=g0.length)∧Md.Loop (s1,s10,s11,g0,()) (k6e (r0,r1,e0,()) nx4))):k3f (r0,r1,e0,()) nx4 (s1,s10,s11,g0,()):=⟨mpr_of (by kernel_rfl) h⟩
theorem kqi {r0:Int} {r1:Bool} {e0:List Int} {nx4:NX TB ki} {s1:Int} {s10:Int} {s11:Int} {g0:List Int} (h:
((decide (s11<s10)=true→
(0≤s1∧s1<(g0.length:Int))∧(0≤s1∧s1<(g0.length:Int))∧(0≤s11∧s11<(g0.length:Int))∧(0≤s11∧s11<(g0.length:Int))∧(0≤s11∧s11<(g0.length:Int))∧(0≤s11∧s11<(g0.length:Int))∧(0≤s1∧s1<(g0.length:Int))∧(0≤s1∧s1<((g0.set s11.toNat (ix g0 s1)).length:Int))∧s11=r0∧false=r1∧(g0.set s11.toNat (ix g0 s1)).set s1.toNat (ix g0 s11)=e0)∧
(decide (s11<s10)=false→
(0≤s11∧s11<(g0.length:Int))∧(0≤s11∧s11<(g0.length:Int))∧(0≤s10∧s10<(g0.length:Int))∧(0≤s10∧s10<(g0.length:Int))∧(0≤s10∧s10<(g0.length:Int))∧(0≤s10∧s10<(g0.length:Int))∧(0≤s11∧s11<(g0.length:Int))∧(0≤s11∧s11<((g0.set s10.toNat (ix g0 s11)).length:Int))∧(g0.length=((g0.set s10.toNat (ix g0 s11)).set s11.toNat (ix g0 s10)).length)∧nx4 (s1,(IntKind.i64.wrap (s10+1):Int),(IntKind.i64.wrap (s11-1):Int),((g0.set s10.toNat (ix g0 s11)).set s11.toNat (ix g0 s10):List Int),())))):k3a (r0,r1,e0,()) nx4 (s1,s10,s11,g0,()):=⟨mpr_of (by kernel_rfl) h⟩
def kfr (r0:Int) (r1:Bool) (e0:List Int) (k1:Int→Prop) (s1:Int) (s11:Int) (g0:List Int) (s10:Int):Prop:=
(decide (s10≤s11)=true→
(0≤s10∧s10<(g0.length:Int))∧(0≤s10∧s10<(g0.length:Int))∧(0≤s1∧s1<(g0.length:Int))∧(0≤s1∧s1<(g0.length:Int))∧((decide ((ix g0 s10)<(ix g0 s1)))=true→
(g0.length=g0.length)∧k1 (IntKind.i64.wrap (s10+1):Int))∧
((decide ((ix g0 s10)<(ix g0 s1)))=false→
(g0.length=g0.length)∧k3b (r0,r1,e0,()) (s1,s10,s11,g0,())))∧
(decide (s10≤s11)=false→
(g0.length=g0.length)∧k3b (r0,r1,e0,()) (s1,s10,s11,g0,()))
theorem ksm {r0:Int} {r1:Bool} {e0:List Int} {s1:Int} {s11:Int} {g0:List Int} {s10:Int} (inv:Int→Prop) (μ:Int→Nat) (h0:inv s10) (hs:∀(s10:Int),inv s10→kfr r0 r1 e0 (fun s10q=>inv s10q∧μ s10q<μ s10) s1 s11 g0 s10):Md.Loop (s1,s10,s11,g0,()) (k6c (r0,r1,e0,())):=
 ⟨⟨fun s:Int×Int×Int×(List Int)×Unit=>(s.1=s1∧s.2.2.1=s11∧s.2.2.2.1=g0)∧inv s.2.1,fun s:Int×Int×Int×(List Int)×Unit=>μ s.2.1,⟨⟨rfl,rfl,rfl⟩,h0⟩,fun(s1p,s10p,s11p,g0p,()) ⟨⟨eq0,eq1,eq2⟩,hi⟩=>by
  have eq0:s1p=s1:=eq0;subst s1p;have eq1:s11p=s11:=eq1;subst s11p;have eq2:g0p=g0:=eq2;subst g0p;exact mpr_of (by kernel_rfl) ((congrArg (fun k=>kfr r0 r1 e0 k s1 s11 g0 s10p) (lpk1 (⟨rfl,rfl,rfl⟩:s1=s1∧s11=s11∧g0=g0) inv (fun s10q=>μ s10q<μ s10p))).mpr (hs s10p hi))⟩⟩
def kgb (r0:Int) (r1:Bool) (e0:List Int) (k2:Int→Prop) (s1:Int) (s10:Int) (g0:List Int) (s11:Int):Prop:=
(decide (s10≤s11)=true→
(0≤s11∧s11<(g0.length:Int))∧(0≤s11∧s11<(g0.length:Int))∧(0≤s1∧s1<(g0.length:Int))∧(0≤s1∧s1<(g0.length:Int))∧((!(decide ((ix g0 s11)<(ix g0 s1))))=true→
(g0.length=g0.length)∧k2 (IntKind.i64.wrap (s11-1):Int))∧
((!(decide ((ix g0 s11)<(ix g0 s1))))=false→
(g0.length=g0.length)∧k3c (r0,r1,e0,()) (s1,s10,s11,g0,())))∧
(decide (s10≤s11)=false→
(g0.length=g0.length)∧k3c (r0,r1,e0,()) (s1,s10,s11,g0,()))
theorem ksc {r0:Int} {r1:Bool} {e0:List Int} {s1:Int} {s10:Int} {g0:List Int} {s11:Int} (inv:Int→Prop) (μ:Int→Nat) (h0:inv s11) (hs:∀(s11:Int),inv s11→kgb r0 r1 e0 (fun s11q=>inv s11q∧μ s11q<μ s11) s1 s10 g0 s11):Md.Loop (s1,s10,s11,g0,()) (k66 (r0,r1,e0,())):=
 ⟨⟨fun s:Int×Int×Int×(List Int)×Unit=>(s.1=s1∧s.2.1=s10∧s.2.2.2.1=g0)∧inv s.2.2.1,fun s:Int×Int×Int×(List Int)×Unit=>μ s.2.2.1,⟨⟨rfl,rfl,rfl⟩,h0⟩,fun(s1p,s10p,s11p,g0p,()) ⟨⟨eq0,eq1,eq2⟩,hi⟩=>by
  have eq0:s1p=s1:=eq0;subst s1p;have eq1:s10p=s10:=eq1;subst s10p;have eq2:g0p=g0:=eq2;subst g0p;exact mpr_of (by kernel_rfl) ((congrArg (fun k=>kgb r0 r1 e0 k s1 s10 g0 s11p) (lpk1 (⟨rfl,rfl,rfl⟩:s1=s1∧s10=s10∧g0=g0) inv (fun s11q=>μ s11q<μ s11p))).mpr (hs s11p hi))⟩⟩
def kft (r0:Int) (r1:Bool) (e0:List Int) (nx4:NX TB ki) (k4:Int→Int→List Int→Prop) (s1:Int) (s10:Int) (s11:Int) (g0:List Int):Prop:=
(g0.length=g0.length)∧Md.Loop (s1,s10,s11,g0,()) (k68 (r0,r1,e0,()) nx4)
theorem ksf {r0:Int} {r1:Bool} {e0:List Int} {s1:Int} {s10:Int} {s11:Int} {g0:List Int} (inv:Int→Int→List Int→Prop) (μ:Int→Int→List Int→Nat) (h0:inv s10 s11 g0) (hs:∀(s10:Int) (s11:Int) (g0:List Int),inv s10 s11 g0→kft r0 r1 e0 (fun s:Int×Int×Int×(List Int)×Unit=>((s.1=s1)∧inv s.2.1 s.2.2.1 s.2.2.2.1)∧μ s.2.1 s.2.2.1 s.2.2.2.1<μ s10 s11 g0) (fun s10q s11q g0q=>inv s10q s11q g0q∧μ s10q s11q g0q<μ s10 s11 g0) s1 s10 s11 g0):Md.Loop (s1,s10,s11,g0,()) (k4b (r0,r1,e0,())):=
 ⟨⟨fun s:Int×Int×Int×(List Int)×Unit=>(s.1=s1)∧inv s.2.1 s.2.2.1 s.2.2.2.1,fun s:Int×Int×Int×(List Int)×Unit=>μ s.2.1 s.2.2.1 s.2.2.2.1,⟨rfl,h0⟩,fun(s1p,s10p,s11p,g0p,()) ⟨eq0,hi⟩=>by
  have eq0:s1p=s1:=eq0;subst s1p;exact mpr_of (by kernel_rfl) ((congrArg (fun k=>kft r0 r1 e0 (fun s:Int×Int×Int×(List Int)×Unit=>((s.1=s1)∧inv s.2.1 s.2.2.1 s.2.2.2.1)∧μ s.2.1 s.2.2.1 s.2.2.2.1<μ s10p s11p g0p) k s1 s10p s11p g0p) (lpk3 (rfl:s1=s1) inv (fun s10q s11q g0q=>μ s10q s11q g0q<μ s10p s11p g0p))).mpr (hs s10p s11p g0p hi))⟩⟩
def kfv (r0:Int) (r1:Bool) (e0:List Int) (nx4:NX TB ki) (k3:Int→Prop) (s1:Int) (s11:Int) (g0:List Int) (s10:Int):Prop:=
(decide (s10≤s11)=true→
(0≤s10∧s10<(g0.length:Int))∧(0≤s10∧s10<(g0.length:Int))∧(0≤s1∧s1<(g0.length:Int))∧(0≤s1∧s1<(g0.length:Int))∧((decide ((ix g0 s10)<(ix g0 s1)))=true→
(g0.length=g0.length)∧k3 (IntKind.i64.wrap (s10+1):Int))∧
((decide ((ix g0 s10)<(ix g0 s1)))=false→
(g0.length=g0.length)∧k3f (r0,r1,e0,()) nx4 (s1,s10,s11,g0,())))∧
(decide (s10≤s11)=false→
(g0.length=g0.length)∧k3f (r0,r1,e0,()) nx4 (s1,s10,s11,g0,()))
theorem ksd {r0:Int} {r1:Bool} {e0:List Int} {nx4:NX TB ki} {s1:Int} {s11:Int} {g0:List Int} {s10:Int} (inv:Int→Prop) (μ:Int→Nat) (h0:inv s10) (hs:∀(s10:Int),inv s10→kfv r0 r1 e0 nx4 (fun s10q=>inv s10q∧μ s10q<μ s10) s1 s11 g0 s10):Md.Loop (s1,s10,s11,g0,()) (k68 (r0,r1,e0,()) nx4):=
 ⟨⟨fun s:Int×Int×Int×(List Int)×Unit=>(s.1=s1∧s.2.2.1=s11∧s.2.2.2.1=g0)∧inv s.2.1,fun s:Int×Int×Int×(List Int)×Unit=>μ s.2.1,⟨⟨rfl,rfl,rfl⟩,h0⟩,fun(s1p,s10p,s11p,g0p,()) ⟨⟨eq0,eq1,eq2⟩,hi⟩=>by
  have eq0:s1p=s1:=eq0;subst s1p;have eq1:s11p=s11:=eq1;subst s11p;have eq2:g0p=g0:=eq2;subst g0p;exact mpr_of (by kernel_rfl) ((congrArg (fun k=>kfv r0 r1 e0 nx4 k s1 s11 g0 s10p) (lpk1 (⟨rfl,rfl,rfl⟩:s1=s1∧s11=s11∧g0=g0) inv (fun s10q=>μ s10q<μ s10p))).mpr (hs s10p hi))⟩⟩
def kg3 (r0:Int) (r1:Bool) (e0:List Int) (nx4:NX TB ki) (k5:Int→Prop) (s1:Int) (s10:Int) (g0:List Int) (s11:Int):Prop:=
(decide (s10≤s11)=true→
(0≤s11∧s11<(g0.length:Int))∧(0≤s11∧s11<(g0.length:Int))∧(0≤s1∧s1<(g0.length:Int))∧(0≤s1∧s1<(g0.length:Int))∧((!(decide ((ix g0 s11)<(ix g0 s1))))=true→
(g0.length=g0.length)∧k5 (IntKind.i64.wrap (s11-1):Int))∧
((!(decide ((ix g0 s11)<(ix g0 s1))))=false→
(g0.length=g0.length)∧k3a (r0,r1,e0,()) nx4 (s1,s10,s11,g0,())))∧
(decide (s10≤s11)=false→
(g0.length=g0.length)∧k3a (r0,r1,e0,()) nx4 (s1,s10,s11,g0,()))
theorem ksw {r0:Int} {r1:Bool} {e0:List Int} {nx4:NX TB ki} {s1:Int} {s10:Int} {g0:List Int} {s11:Int} (inv:Int→Prop) (μ:Int→Nat) (h0:inv s11) (hs:∀(s11:Int),inv s11→kg3 r0 r1 e0 nx4 (fun s11q=>inv s11q∧μ s11q<μ s11) s1 s10 g0 s11):Md.Loop (s1,s10,s11,g0,()) (k6e (r0,r1,e0,()) nx4):=
 ⟨⟨fun s:Int×Int×Int×(List Int)×Unit=>(s.1=s1∧s.2.1=s10∧s.2.2.2.1=g0)∧inv s.2.2.1,fun s:Int×Int×Int×(List Int)×Unit=>μ s.2.2.1,⟨⟨rfl,rfl,rfl⟩,h0⟩,fun(s1p,s10p,s11p,g0p,()) ⟨⟨eq0,eq1,eq2⟩,hi⟩=>by
  have eq0:s1p=s1:=eq0;subst s1p;have eq1:s10p=s10:=eq1;subst s10p;have eq2:g0p=g0:=eq2;subst g0p;exact mpr_of (by kernel_rfl) ((congrArg (fun k=>kg3 r0 r1 e0 nx4 k s1 s10 g0 s11p) (lpk1 (⟨rfl,rfl,rfl⟩:s1=s1∧s10=s10∧g0=g0) inv (fun s11q=>μ s11q<μ s11p))).mpr (hs s11p hi))⟩⟩
theorem bd64:Callable Try.prog 64:=⟨by rw[Try.func64];kernel_rfl,by rw[Try.func64];show some _≠some _;decide⟩
set_option maxHeartbeats 1000000 in
theorem kr6 (p1:Int) (p2:Int) (p3:Int) (w0:List Int) (h:(0≤p1∧p1≤p3∧p3<p2∧p2≤w0.length)∧w0.length≤1099511627776):k9v (p1,p2,p3,w0,()) ((((partS w0 p1 p2 p3).1:Int):Int),(((partS w0 p1 p2 p3).2.1):Bool),(((partS w0 p1 p2 p3).2.2.toList):List Int),()):=by
 obtain⟨⟨h1,h2,h3,h4⟩,h5⟩:=h
 have hs0:=swp_arr (g:=w0) (i:=p1) (j:=p3) (by omega) (by omega) (by omega) (by omega)
 have hst:partS w0 p1 p2 p3=Sort.partition Sort.ltInt w0.toArray p1.toNat p2.toNat p3.toNat:=rfl
 unfold Sort.partition at hst
 dsimp only at hst
 rw[hs0]at hst
 have hl0:(swpL w0 p1 p3).length=w0.length:=krp
 refine ku8 ⟨⟨by omega,by omega⟩,⟨by omega,by omega⟩,⟨by omega,by omega⟩,⟨by omega,by omega⟩,⟨by omega,by omega⟩,⟨by omega,by omega⟩,⟨by omega,by omega⟩,⟨by omega,by rw[List.length_set];omega⟩,by rw[List.length_set,List.length_set],?_⟩
 rw[wi (p1+1) (by omega) (by omega),wi (p2-1) (by omega) (by omega)]
 generalize partS w0 p1 p2 p3=R at *
 change Md.Loop (p1,p1+1,p2-1,swpL w0 p1 p3,()) _
 generalize swpL w0 p1 p3=gs at *
 rw[show p2.toNat-1=(p2-1).toNat by omega,show p1.toNat+1=(p1+1).toNat by omega,arr_ix (g:=gs) (i:=p1) (by omega) (by omega)]at hst
 
 have rounds:∀(i j:Int) (g:List Int),(p1<i∧i≤j+1∧j<p2)→g.length=w0.length→R=((Sort.partLoop Sort.ltInt p1.toNat i.toNat j.toNat g.toArray).1,false,Sort.swp (Sort.partLoop Sort.ltInt p1.toNat i.toNat j.toNat g.toArray).2 (Sort.partLoop Sort.ltInt p1.toNat i.toNat j.toNat g.toArray).1 p1.toNat)→Md.Loop (p1,i,j,g,()) (k4b ((R.1:Int),R.2.1,R.2.2.toList,())):=by
  intro i j g a0 a1 a2
  refine ksf (fun i j g=>(p1<i∧i≤j+1∧j<p2)∧g.length=w0.length∧R=((Sort.partLoop Sort.ltInt p1.toNat i.toNat j.toNat g.toArray).1,false,Sort.swp (Sort.partLoop Sort.ltInt p1.toNat i.toNat j.toNat g.toArray).2 (Sort.partLoop Sort.ltInt p1.toNat i.toNat j.toNat g.toArray).1 p1.toNat)) (fun i j _=>(j+1-i).toNat) ⟨a0,a1,a2⟩ ?_
  clear a0 a1 a2 hst hs0
  rintro i j g ⟨⟨i0,i1,i2⟩,g2,g3⟩
  refine⟨rfl,?_⟩
  rw[Sort.partLoop_eq]at g3
  have xa:=arr_ix (g:=g) (i:=p1) (by omega) (by omega)
  rw[xa]at g3
  have jj2:∀(nx:NX TB ki) (i' j' :Int),(i≤i'∧i'≤j+1∧i' -1≤j'∧j'≤j)→Sort.scanUp (fun x=>Sort.ltInt x (ix g p1)) g.toArray j.toNat i.toNat=i'.toNat→Sort.scanDown (fun x=> !Sort.ltInt x (ix g p1)) g.toArray i'.toNat j.toNat=j'.toNat→(i'≤j'→i' <j')→
    (∀g' :List Int,(((p1<IntKind.i64.wrap (i' +1)∧IntKind.i64.wrap (i' +1)≤IntKind.i64.wrap (j' -1)+1∧IntKind.i64.wrap (j' -1)<p2)∧g'.length=w0.length∧R=((Sort.partLoop Sort.ltInt p1.toNat (IntKind.i64.wrap (i' +1)).toNat (IntKind.i64.wrap (j' -1)).toNat g'.toArray).1,false,Sort.swp (Sort.partLoop Sort.ltInt p1.toNat (IntKind.i64.wrap (i' +1)).toNat (IntKind.i64.wrap (j' -1)).toNat g'.toArray).2 (Sort.partLoop Sort.ltInt p1.toNat (IntKind.i64.wrap (i' +1)).toNat (IntKind.i64.wrap (j' -1)).toNat g'.toArray).1 p1.toNat))∧(IntKind.i64.wrap (j' -1)+1-(IntKind.i64.wrap (i' +1))).toNat<(j+1-i).toNat)→nx (p1,(IntKind.i64.wrap (i' +1):Int),(IntKind.i64.wrap (j' -1):Int),g',()))→k3a ((R.1:Int),R.2.1,R.2.2.toList,()) nx (p1,i',j',g,()):=by
   intro nx i' j' ⟨q0,q1,q2,q3⟩ e1 e2 e3 hn
   rw[e1,e2]at g3
   refine kqi ⟨fun c=> ?_,fun c=> ?_⟩
   ·have c:=of_decide_eq_true c
    rw[if_pos (by omega)]at g3
    have hs:=swp_arr (g:=g) (i:=j') (j:=p1) (by omega) (by omega) (by omega) (by omega)
    dsimp only at g3
    rw[hs]at g3
    rw[g3]
    exact⟨⟨by omega,by omega⟩,⟨by omega,by omega⟩,⟨by omega,by omega⟩,⟨by omega,by omega⟩,⟨by omega,by omega⟩,⟨by omega,by omega⟩,⟨by omega,by omega⟩,⟨by omega,by rw[List.length_set];omega⟩,(Int.toNat_of_nonneg (by omega)).symm,rfl,rfl⟩
   ·have c:=of_decide_eq_false c
    have hs:=swp_arr (g:=g) (i:=i') (j:=j') (by omega) (by omega) (by omega) (by omega)
    rw[if_neg (by omega),hs,show i'.toNat+1=(i' +1).toNat by omega,show j'.toNat-1=(j' -1).toNat by omega]at g3
    have w1:=wi (i' +1) (by omega) (by omega)
    have w2:=wi (j' -1) (by omega) (by omega)
    have e4:=e3 (by omega)
    have:=hn (swpL g i' j') (by rw[w1,w2];exact⟨⟨⟨by omega,by omega,by omega⟩,by rw[krp];exact g2,g3⟩,by omega⟩)
    exact⟨⟨by omega,by omega⟩,⟨by omega,by omega⟩,⟨by omega,by omega⟩,⟨by omega,by omega⟩,⟨by omega,by omega⟩,⟨by omega,by omega⟩,⟨by omega,by omega⟩,⟨by omega,by rw[List.length_set];omega⟩,by rw[List.length_set,List.length_set],this⟩
  have jj1:∀(nx:NX TB ki) (i' :Int),(i≤i'∧i'≤j+1)→Sort.scanUp (fun x=>Sort.ltInt x (ix g p1)) g.toArray j.toNat i.toNat=i'.toNat→(i'≤j→¬ix g i' <ix g p1)→
    (∀(j' :Int) (g' :List Int),(((p1<IntKind.i64.wrap (i' +1)∧IntKind.i64.wrap (i' +1)≤IntKind.i64.wrap (j' -1)+1∧IntKind.i64.wrap (j' -1)<p2)∧g'.length=w0.length∧R=((Sort.partLoop Sort.ltInt p1.toNat (IntKind.i64.wrap (i' +1)).toNat (IntKind.i64.wrap (j' -1)).toNat g'.toArray).1,false,Sort.swp (Sort.partLoop Sort.ltInt p1.toNat (IntKind.i64.wrap (i' +1)).toNat (IntKind.i64.wrap (j' -1)).toNat g'.toArray).2 (Sort.partLoop Sort.ltInt p1.toNat (IntKind.i64.wrap (i' +1)).toNat (IntKind.i64.wrap (j' -1)).toNat g'.toArray).1 p1.toNat))∧(IntKind.i64.wrap (j' -1)+1-(IntKind.i64.wrap (i' +1))).toNat<(j+1-i).toNat)→nx (p1,(IntKind.i64.wrap (i' +1):Int),(IntKind.i64.wrap (j' -1):Int),g',()))→k3f ((R.1:Int),R.2.1,R.2.2.toList,()) nx (p1,i',j,g,()):=by
   intro nx i' ⟨q0,q1⟩ e1 e2 hn
   refine kqc ⟨rfl,?_⟩
   refine ksw (fun j' =>(i' -1≤j'∧j'≤j)∧Sort.scanDown (fun x=> !Sort.ltInt x (ix g p1)) g.toArray i'.toNat j'.toNat=Sort.scanDown (fun x=> !Sort.ltInt x (ix g p1)) g.toArray i'.toNat j.toNat) (fun j' =>(j' +1).toNat) ⟨⟨by omega,by omega⟩,rfl⟩ ?_
   rintro j' ⟨⟨k0,k1⟩,k2⟩
   refine⟨fun c=> ?_,fun c=> ?_⟩
   ·have c:=of_decide_eq_true c
    have xj:=arr_ix (g:=g) (i:=j') (by omega) (by omega)
    rw[k144 (by omega) c,xj,ltI_iff]at k2
    rw[wi (j' -1) (by omega) (by omega)]
    refine⟨⟨by omega,by omega⟩,⟨by omega,by omega⟩,⟨by omega,by omega⟩,⟨by omega,by omega⟩,fun d=>⟨rfl,⟨⟨by omega,by omega⟩,?_⟩,by omega⟩,fun d=>⟨rfl,?_⟩⟩
    ·rw[if_pos d]at k2
     exact k2
    ·rw[if_neg (by rw[d];decide)]at k2
     refine jj2 nx i' j' ⟨q0,q1,k0,k1⟩ e1 k2.symm (fun e=> ?_) (hn j')
     have:=e2 (by omega)
     have d:ix g j' <ix g p1:=by simpa using d
     by_cases hij:i' =j'
     ·subst hij;exact absurd d this
     ·omega
   ·have c:=of_decide_eq_false c
    rw[k11v (by omega) c]at k2
    exact⟨rfl,jj2 nx i' j' ⟨q0,q1,k0,k1⟩ e1 k2.symm (fun e=>absurd e c) (hn j')⟩
  refine ksd (fun i' =>(i≤i'∧i'≤j+1)∧Sort.scanUp (fun x=>Sort.ltInt x (ix g p1)) g.toArray j.toNat i'.toNat=Sort.scanUp (fun x=>Sort.ltInt x (ix g p1)) g.toArray j.toNat i.toNat) (fun i' =>(j+2-i').toNat) ⟨⟨by omega,by omega⟩,rfl⟩ ?_
  rintro i' ⟨⟨k0,k1⟩,k2⟩
  refine⟨fun c=> ?_,fun c=> ?_⟩
  ·have c:=of_decide_eq_true c
   have xj:=arr_ix (g:=g) (i:=i') (by omega) (by omega)
   rw[k1a3 (by omega) c,xj,ltI_iff]at k2
   rw[wi (i' +1) (by omega) (by omega)]
   refine⟨⟨by omega,by omega⟩,⟨by omega,by omega⟩,⟨by omega,by omega⟩,⟨by omega,by omega⟩,fun d=>⟨rfl,⟨⟨by omega,by omega⟩,?_⟩,by omega⟩,fun d=>⟨rfl,?_⟩⟩
   ·rw[if_pos d]at k2
    exact k2
   ·rw[if_neg (by rw[d];decide)]at k2
    exact jj1 _ i' ⟨k0,k1⟩ k2.symm (fun _=>of_decide_eq_false d) fun j' g' q=>⟨⟨rfl,q.1⟩,q.2⟩
  ·have c:=of_decide_eq_false c
   rw[k15y (by omega) c]at k2
   exact⟨rfl,jj1 _ i' ⟨k0,k1⟩ k2.symm (fun e=>absurd e c) fun j' g' q=>⟨⟨rfl,q.1⟩,q.2⟩⟩
 
 have jj2:∀(i' j' :Int),(p1+1≤i'∧i'≤p2∧i' -1≤j'∧j'≤p2-1)→Sort.scanUp (fun x=>Sort.ltInt x (ix gs p1)) gs.toArray (p2-1).toNat (p1+1).toNat=i'.toNat→Sort.scanDown (fun x=> !Sort.ltInt x (ix gs p1)) gs.toArray i'.toNat (p2-1).toNat=j'.toNat→(i'≤j'→i' <j')→k3c ((R.1:Int),R.2.1,R.2.2.toList,()) (p1,i',j',gs,()):=by
  intro i' j' ⟨q0,q1,q2,q3⟩ e1 e2 e3
  rw[e1,e2]at hst
  refine kqk ⟨fun c=> ?_,fun c=> ?_⟩
  ·have c:=of_decide_eq_true c
   rw[if_pos (by omega)]at hst
   have hs:=swp_arr (g:=gs) (i:=j') (j:=p1) (by omega) (by omega) (by omega) (by omega)
   rw[hs]at hst
   rw[hst]
   exact⟨⟨by omega,by omega⟩,⟨by omega,by omega⟩,⟨by omega,by omega⟩,⟨by omega,by omega⟩,⟨by omega,by omega⟩,⟨by omega,by omega⟩,⟨by omega,by omega⟩,⟨by omega,by rw[List.length_set];omega⟩,(Int.toNat_of_nonneg (by omega)).symm,rfl,rfl⟩
  ·have c:=of_decide_eq_false c
   have hs:=swp_arr (g:=gs) (i:=i') (j:=j') (by omega) (by omega) (by omega) (by omega)
   rw[if_neg (by omega),hs,show i'.toNat+1=(i' +1).toNat by omega,show j'.toNat-1=(j' -1).toNat by omega]at hst
   have e4:=e3 (by omega)
   rw[wi (i' +1) (by omega) (by omega),wi (j' -1) (by omega) (by omega)]
   exact⟨⟨by omega,by omega⟩,⟨by omega,by omega⟩,⟨by omega,by omega⟩,⟨by omega,by omega⟩,⟨by omega,by omega⟩,⟨by omega,by omega⟩,⟨by omega,by omega⟩,⟨by omega,by rw[List.length_set];omega⟩,by rw[List.length_set,List.length_set],rounds _ _ (swpL gs i' j') ⟨by omega,by omega,by omega⟩ (by rw[krp];exact hl0) hst⟩
 have jj1:∀(i' :Int),(p1+1≤i'∧i'≤p2)→Sort.scanUp (fun x=>Sort.ltInt x (ix gs p1)) gs.toArray (p2-1).toNat (p1+1).toNat=i'.toNat→(i'≤p2-1→¬ix gs i' <ix gs p1)→k3b ((R.1:Int),R.2.1,R.2.2.toList,()) (p1,i',p2-1,gs,()):=by
  intro i' ⟨q0,q1⟩ e1 e2
  refine kpz ⟨rfl,?_⟩
  refine ksc (fun j' =>(i' -1≤j'∧j'≤p2-1)∧Sort.scanDown (fun x=> !Sort.ltInt x (ix gs p1)) gs.toArray i'.toNat j'.toNat=Sort.scanDown (fun x=> !Sort.ltInt x (ix gs p1)) gs.toArray i'.toNat (p2-1).toNat) (fun j' =>(j' +1).toNat) ⟨⟨by omega,by omega⟩,rfl⟩ ?_
  rintro j' ⟨⟨k0,k1⟩,k2⟩
  refine⟨fun c=> ?_,fun c=> ?_⟩
  ·have c:=of_decide_eq_true c
   have xj:=arr_ix (g:=gs) (i:=j') (by omega) (by omega)
   rw[k144 (by omega) c,xj,ltI_iff]at k2
   rw[wi (j' -1) (by omega) (by omega)]
   refine⟨⟨by omega,by omega⟩,⟨by omega,by omega⟩,⟨by omega,by omega⟩,⟨by omega,by omega⟩,fun d=>⟨rfl,⟨⟨by omega,by omega⟩,?_⟩,by omega⟩,fun d=>⟨rfl,?_⟩⟩
   ·rw[if_pos d]at k2
    exact k2
   ·rw[if_neg (by rw[d];decide)]at k2
    refine jj2 i' j' ⟨q0,q1,k0,k1⟩ e1 k2.symm (fun e=> ?_)
    have:=e2 (by omega)
    have d:ix gs j' <ix gs p1:=by simpa using d
    by_cases hij:i' =j'
    ·subst hij;exact absurd d this
    ·omega
  ·have c:=of_decide_eq_false c
   rw[k11v (by omega) c]at k2
   exact⟨rfl,jj2 i' j' ⟨q0,q1,k0,k1⟩ e1 k2.symm (fun e=>absurd e c)⟩
 refine ksm (fun i' =>(p1+1≤i'∧i'≤p2)∧Sort.scanUp (fun x=>Sort.ltInt x (ix gs p1)) gs.toArray (p2-1).toNat i'.toNat=Sort.scanUp (fun x=>Sort.ltInt x (ix gs p1)) gs.toArray (p2-1).toNat (p1+1).toNat) (fun i' =>(p2+2-i').toNat) ⟨⟨by omega,by omega⟩,rfl⟩ ?_
 rintro i' ⟨⟨k0,k1⟩,k2⟩
 refine⟨fun c=> ?_,fun c=> ?_⟩
 ·have c:=of_decide_eq_true c
  have xj:=arr_ix (g:=gs) (i:=i') (by omega) (by omega)
  rw[k1a3 (by omega) c,xj,ltI_iff]at k2
  rw[wi (i' +1) (by omega) (by omega)]
  refine⟨⟨by omega,by omega⟩,⟨by omega,by omega⟩,⟨by omega,by omega⟩,⟨by omega,by omega⟩,fun d=>⟨rfl,⟨⟨by omega,by omega⟩,?_⟩,by omega⟩,fun d=>⟨rfl,?_⟩⟩
  ·rw[if_pos d]at k2
   exact k2
  ·rw[if_neg (by rw[d];decide)]at k2
   exact jj1 i' ⟨k0,k1⟩ k2.symm (fun _=>of_decide_eq_false d)
 ·have c:=of_decide_eq_false c
  rw[k15y (by omega) c]at k2
  exact⟨rfl,jj1 i' ⟨k0,k1⟩ k2.symm (fun e=>absurd e c)⟩
noncomputable def kfe:Con TB.den:=kx.fnR (fun x=>(fun(p1:Int) (p2:Int) (p3:Int) (w0:List Int)=>(0≤p1∧p1≤p3∧p3<p2∧p2≤w0.length)∧w0.length≤1099511627776) x.1 x.2.1 x.2.2.1 x.2.2.2.1) fun x=>(fun(p1:Int) (p2:Int) (p3:Int) (w0:List Int)=>((((partS w0 p1 p2 p3).1:Int):Int),(((partS w0 p1 p2 p3).2.1):Bool),(((partS w0 p1 p2 p3).2.2.toList):List Int),())) x.1 x.2.1 x.2.2.1 x.2.2.2.1
theorem ktv:kfe.Ok Try.prog TB:=Con.ok_fn kx bd64 fun x h=>ksl (kr6 x.1 x.2.1 x.2.2.1 x.2.2.2.1 h)
def k1d:Con TB.den:=Con.mk0 60 [.one (.row 0),.one (.d (.int .i64)),.one (.d (.int .i64))] [.vec (.int .i64)] (.tup []) [.vec (.int .i64)]
abbrev kec:=HL TB.den (hsT k1d.ins (hsOs k1d.pre))
abbrev k27:=HL TB.den (hsV k1d.res (hsOs k1d.post))
noncomputable def k2t:Cx TB:=⟨inf,[],[],4,[]⟩
noncomputable def k6o:Code:=Try.f60.body.getD .skip
noncomputable def k7a:List ResultVar:=Try.f60.results.toList
def kqj (o:k27):=blockT TB 0 (retTQ TB k2t k1d k7a o)
def k2u:Tm:=⟨[0],[.vec (.int .i64)],[0,6,7],[.one (.row 0),.one (.d (.int .i64)),.one (.d (.int .i64))],1⟩
def kq8 (o:k27) (nx1:NX TB k2u):=qM TB 1 k2u nx1 (kqj o)
def k53 (o:k27) (nx1:NX TB k2u) (i:HL TB.den k2u.hs):Prop:=WP TB k2t 32 1 (cA (cA (cB (cB k6o)))) .no (k2u.fill TB i) (kq8 o nx1)
noncomputable def kq3 (o:k27):An TB:= .lp [] k2u (k53 o) fun nx1=> .no
noncomputable def kdy (o:k27):An TB:= .nd [] .no [] (.nd [] .no [] (kq3 o))
def k92 (x:kec) (o:k27):Prop:=WPh TB k2t 32 1 k6o (kdy o) (k1d.st TB x) (retTQ TB k2t k1d k7a o)
theorem kp7 (o:k27):OblH TB k2t 32 1 k6o (kdy o) (retTQ TB k2t k1d k7a o):=
 OblH.ofC (X:=((∀nx i,(k53 o) nx i=(k53 o) nx i)∧(∀nx1:NX TB k2u,True)∧True)) (by kernel_rfl) ⟨fun _ _=>rfl,fun _=>trivial,trivial⟩
theorem kpo {x:kec} {o:k27} (h:k92 x o):k1d.Snd Try.prog x o:=
 Con.soundH (c:=k1d) (C:=k2t) TBok ⟨inf_ok,all_nil,all_nil⟩ mix Try.func60 (show Try.f60.body=some k6o by kernel_rfl) (show Try.f60.ntmps=32 by kernel_rfl) (show Try.f60.results.toList=k7a by kernel_rfl) rfl h (kp7 o)
theorem kpw {p1:Int} {p2:Int} {w0:List Int} {e0:List Int} (h:
((w0.length=w0.length)∧Md.Loop (p1,(IntKind.i64.wrap (p2-1):Int),w0,()) (k53 (e0,())))):k92 (p1,p2,w0,()) (e0,()):=WPh.of_eq (by kernel_rfl) h
def ke4 (e0:List Int) (k1:Int→Int→List Int→Prop) (s6:Int) (s7:Int) (g0:List Int):Prop:=
(decide (s6<s7)=true→
(0≤s7∧s7<(g0.length:Int))∧(0≤s7∧s7<(g0.length:Int))∧(0≤s6∧s6<(g0.length:Int))∧(0≤s6∧s6<(g0.length:Int))∧(0≤s6∧s6<(g0.length:Int))∧(0≤s6∧s6<(g0.length:Int))∧(0≤s7∧s7<(g0.length:Int))∧(0≤s7∧s7<((g0.set s6.toNat (ix g0 s7)).length:Int))∧(g0.length=((g0.set s6.toNat (ix g0 s7)).set s7.toNat (ix g0 s6)).length)∧k1 (IntKind.i64.wrap (s6+1):Int) (IntKind.i64.wrap (s7-1):Int) ((g0.set s6.toNat (ix g0 s7)).set s7.toNat (ix g0 s6):List Int))∧
(decide (s6<s7)=false→
g0=e0)
theorem kp3 {e0:List Int} {s6:Int} {s7:Int} {g0:List Int} (inv:Int→Int→List Int→Prop) (μ:Int→Int→List Int→Nat) (h0:inv s6 s7 g0) (hs:∀(s6:Int) (s7:Int) (g0:List Int),inv s6 s7 g0→ke4 e0 (fun s6q s7q g0q=>inv s6q s7q g0q∧μ s6q s7q g0q<μ s6 s7 g0) s6 s7 g0):Md.Loop (s6,s7,g0,()) (k53 (e0,())):=
 ⟨⟨fun s:Int×Int×(List Int)×Unit=>(True)∧inv s.1 s.2.1 s.2.2.1,fun s:Int×Int×(List Int)×Unit=>μ s.1 s.2.1 s.2.2.1,⟨trivial,h0⟩,fun(s6p,s7p,g0p,()) ⟨_,hi⟩=>by
  exact mpr_of (by kernel_rfl) ((congrArg (fun k=>ke4 e0 k s6p s7p g0p) (lpk3 (trivial:True) inv (fun s6q s7q g0q=>μ s6q s7q g0q<μ s6p s7p g0p))).mpr (hs s6p s7p g0p hi))⟩⟩
theorem bd60:Callable Try.prog 60:=⟨by rw[Try.func60];kernel_rfl,by rw[Try.func60];show some _≠some _;decide⟩
theorem knq (p1:Int) (p2:Int) (w0:List Int) (h:(0≤p1∧p1≤p2∧p2≤w0.length)∧w0.length≤1099511627776):k92 (p1,p2,w0,()) (((revS w0 p1 p2):List Int),()):=by
 obtain⟨⟨h1,h2,h3⟩,h4⟩:=h
 refine kpw ⟨rfl,?_⟩
 rw[wi (p2-1) (by omega) (by omega)]
 refine kp3 (fun i j g=>(0≤i∧-1≤j∧i≤2199023255552∧j<w0.length)∧g.length=w0.length∧revS w0 p1 p2=(Sort.reverseLoop i.toNat j.toNat g.toArray).toList) (fun i j _=>(j-i).toNat) ⟨⟨by omega,by omega,by omega,by omega⟩,rfl,by unfold revS Sort.reverseRange;rw[show(p2-1).toNat=p2.toNat-1 by omega]⟩ ?_
 rintro i j g ⟨⟨g0,g1,g2,g3⟩,g4,g5⟩
 refine⟨fun hh=> ?_,fun hh=> ?_⟩
 ·have hh:=of_decide_eq_true hh
  rw[k1ki g0 hh (by omega)]at g5
  rw[wi (i+1) (by omega) (by omega),wi (j-1) (by omega) (by omega)]
  exact⟨⟨by omega,by omega⟩,⟨by omega,by omega⟩,⟨by omega,by omega⟩,⟨by omega,by omega⟩,⟨by omega,by omega⟩,⟨by omega,by omega⟩,⟨by omega,by omega⟩,⟨by omega,by rw[List.length_set];omega⟩,by rw[List.length_set,List.length_set],⟨⟨by omega,by omega,by omega,by omega⟩,by rw[List.length_set,List.length_set];exact g4,g5⟩,by omega⟩
 ·have hh:=of_decide_eq_false hh
  rw[k1h4 g0 hh]at g5
  rw[g5]
noncomputable def kdg:Con TB.den:=k1d.fnR (fun x=>(fun(p1:Int) (p2:Int) (w0:List Int)=>(0≤p1∧p1≤p2∧p2≤w0.length)∧w0.length≤1099511627776) x.1 x.2.1 x.2.2.1) fun x=>(fun(p1:Int) (p2:Int) (w0:List Int)=>(((revS w0 p1 p2):List Int),())) x.1 x.2.1 x.2.2.1
theorem kq4:kdg.Ok Try.prog TB:=Con.ok_fn k1d bd60 fun x h=>kpo (knq x.1 x.2.1 x.2.2.1 h)
def k18:Con TB.den:=Con.mk0 42 [.one (.row 0),.one (.d (.int .i64)),.one (.d (.int .i64)),.one (.d (.int .i64))] [.vec (.int .i64)] (.tup []) [.vec (.int .i64)]
abbrev kj8:=HL TB.den (hsT k18.ins (hsOs k18.pre))
abbrev kk:=HL TB.den (hsV k18.res (hsOs k18.post))
noncomputable def kaa (rn:Nat):Con TB.den:=k18.fnR (fun x=>(fun(p1:Int) (p2:Int) (p3:Int) (w0:List Int)=>((0≤p1∧p1≤p2∧p2≤w0.length)∧w0.length≤1099511627776∧Sort.Below Sort.ltInt p1.toNat p2.toNat w0.toArray)∧(p2-p1).toNat<rn) x.1 x.2.1 x.2.2.1 x.2.2.2.1) fun x=>(fun(p1:Int) (p2:Int) (p3:Int) (w0:List Int)=>(((insS w0 p1 p2):List Int),())) x.1 x.2.1 x.2.2.1 x.2.2.2.1
noncomputable def k1i (rn:Nat):Cx TB:=⟨inf,[kcn,kfx,kck,ke0,kdg,ka9,k8l,kbv,kfe,(kaa rn)],[],4,[]⟩
noncomputable def k1t:Code:=Try.f42.body.getD .skip
noncomputable def k95:List ResultVar:=Try.f42.results.toList
def kvp (rn:Nat) (o:kk):=blockT TB 0 (retTQ TB (k1i rn) k18 k95 o)
def kh:Tm:=⟨[0],[.vec (.int .i64)],[0,1,2,3,8,9],[.one (.row 0),.one (.d (.int .i64)),.one (.d (.int .i64)),.one (.d (.int .i64)),.one (.d (.bool)),.one (.d (.bool))],1⟩
def k58 (rn:Nat) (o:kk) (nx1:NX TB kh):=qM TB 1 kh nx1 ((kvp rn) o)
def kvd (rn:Nat) (o:kk) (nx1:NX TB kh):=qS TB (k1i rn) 134 1 (cB (cB (cB (cB (cB (cB (cB (cB (cA (cA (cA (cB (cB k1t))))))))))))) .no (blockT TB 1 ((k58 rn) o nx1))
def k87:Tm:=⟨[0],[.vec (.int .i64)],[0,1,2,3,8,9,10,11,87],[.one (.row 0),.one (.d (.int .i64)),.one (.d (.int .i64)),.one (.d (.int .i64)),.one (.d (.bool)),.one (.d (.bool)),.one (.d (.int .i64)),.one (.d (.int .i64)),.one (.d (.bool))],61⟩
def kgm (rn:Nat) (o:kk) (nx1:NX TB kh) (i:HL TB.den k87.hs):Prop:=ghs TB [] (k87.fill TB i) fun s=>WP TB (k1i rn) 134 1 (cB (cA (cB (cB (cB (cB (cB (cB (cB (cA (cA (cA (cB (cB k1t)))))))))))))) .no s ((kvd rn) o nx1)
structure k56 (rn:Nat) (o:kk) (nx1:NX TB kh) (i:HL TB.den k87.hs):Prop where
 h:(kgm rn) o nx1 i
noncomputable def kic (rn:Nat) (o:kk) (nx1:NX TB kh):An TB:= .jn k87 ((k56 rn) o nx1) [] .no [] .no
def k6t:Tm:=⟨[0],[.vec (.int .i64)],[0,1,2,3,8,9,10,11],[.one (.row 0),.one (.d (.int .i64)),.one (.d (.int .i64)),.one (.d (.int .i64)),.one (.d (.bool)),.one (.d (.bool)),.one (.d (.int .i64)),.one (.d (.int .i64))],1⟩
def kgv (rn:Nat) (o:kk) (nx1:NX TB kh) (i:HL TB.den k6t.hs):Prop:=ghs TB [] (k6t.fill TB i) fun s=>WP TB (k1i rn) 134 1 (cB (cB (cB (cB (cB (cB (cB (cA (cA (cA (cB (cB k1t)))))))))))) (.nd [] ((kic rn) o nx1) [] .no) s (blockT TB 1 ((k58 rn) o nx1))
structure k3u (rn:Nat) (o:kk) (nx1:NX TB kh) (i:HL TB.den k6t.hs):Prop where
 h:(kgv rn) o nx1 i
def kvt (rn:Nat) (o:kk) (nx1:NX TB kh):=qM TB 1 k6t ((k3u rn) o nx1) (blockT TB 1 ((k58 rn) o nx1))
def k8b:Tm:=⟨[0],[.vec (.int .i64)],[0,1,2,3,8,9,10,11,68],[.one (.row 0),.one (.d (.int .i64)),.one (.d (.int .i64)),.one (.d (.int .i64)),.one (.d (.bool)),.one (.d (.bool)),.one (.d (.int .i64)),.one (.d (.int .i64)),.one (.d (.bool))],1⟩
def kgn (rn:Nat) (o:kk) (nx1:NX TB kh) (i:HL TB.den k8b.hs):Prop:=ghs TB [] (k8b.fill TB i) fun s=>WP TB (k1i rn) 134 1 (cB (cA (cB (cB (cB (cB (cB (cB (cA (cA (cA (cB (cB k1t))))))))))))) .no s ((kvt rn) o nx1)
structure k3q (rn:Nat) (o:kk) (nx1:NX TB kh) (i:HL TB.den k8b.hs):Prop where
 h:(kgn rn) o nx1 i
noncomputable def kvy (rn:Nat) (o:kk) (nx1:NX TB kh):An TB:= .jn k8b ((k3q rn) o nx1) [] .no [] .no
noncomputable def ki2 (rn:Nat) (o:kk) (nx1:NX TB kh):An TB:= .jn k6t ((k3u rn) o nx1) [] ((kvy rn) o nx1) [] (.nd [] ((kic rn) o nx1) [] .no)
def k8a:Tm:=⟨[0],[.vec (.int .i64)],[0,1,2,3,8,9,10,11,12],[.one (.row 0),.one (.d (.int .i64)),.one (.d (.int .i64)),.one (.d (.int .i64)),.one (.d (.bool)),.one (.d (.bool)),.one (.d (.int .i64)),.one (.d (.int .i64)),.one (.d (.int .i64))],1⟩
def kgs (rn:Nat) (o:kk) (nx1:NX TB kh) (i:HL TB.den k8a.hs):Prop:=ghs TB [] (k8a.fill TB i) fun s=>WP TB (k1i rn) 134 1 (cB (cB (cB (cB (cB (cB (cA (cA (cA (cB (cB k1t))))))))))) ((ki2 rn) o nx1) s (blockT TB 1 ((k58 rn) o nx1))
structure k59 (rn:Nat) (o:kk) (nx1:NX TB kh) (i:HL TB.den k8a.hs):Prop where
 h:(kgs rn) o nx1 i
noncomputable def kgr (rn:Nat) (o:kk) (nx1:NX TB kh):An TB:= .jn k8a ((k59 rn) o nx1) [] .no [] ((ki2 rn) o nx1)
def k88:Tm:=⟨[0],[.vec (.int .i64)],[0,1,2,3,8,9,10],[.one (.row 0),.one (.d (.int .i64)),.one (.d (.int .i64)),.one (.d (.int .i64)),.one (.d (.bool)),.one (.d (.bool)),.one (.d (.int .i64))],1⟩
def kgo (rn:Nat) (o:kk) (nx1:NX TB kh) (i:HL TB.den k88.hs):Prop:=ghs TB [] (k88.fill TB i) fun s=>WP TB (k1i rn) 134 1 (cB (cB (cB (cB (cA (cA (cA (cB (cB k1t))))))))) (.nd [] .no [] ((kgr rn) o nx1)) s (blockT TB 1 ((k58 rn) o nx1))
structure k57 (rn:Nat) (o:kk) (nx1:NX TB kh) (i:HL TB.den k88.hs):Prop where
 h:(kgo rn) o nx1 i
noncomputable def kue (rn:Nat) (o:kk) (nx1:NX TB kh):An TB:= .jn k88 ((k57 rn) o nx1) [] .no [] (.nd [] .no [] ((kgr rn) o nx1))
noncomputable def kh1 (rn:Nat) (o:kk) (nx1:NX TB kh):An TB:= .nd [] .no [] (.nd [] .no [] ((kue rn) o nx1))
def k75 (rn:Nat) (o:kk) (nx1:NX TB kh) (i:HL TB.den kh.hs):Prop:=WP TB (k1i rn) 134 1 (cA (cA (cB (cB k1t)))) (.nd [] .no [] ((kh1 rn) o nx1)) (kh.fill TB i) ((k58 rn) o nx1)
noncomputable def kuu (rn:Nat) (o:kk):An TB:= .lp [] kh ((k75 rn) o) fun nx1=>(.nd [] .no [] ((kh1 rn) o nx1))
noncomputable def khi (rn:Nat) (o:kk):An TB:= .nd [] .no [] (.nd [] .no [] ((kuu rn) o))
def kaq (rn:Nat) (x:kj8) (o:kk):Prop:=WPh TB (k1i rn) 134 1 k1t ((khi rn) o) (k18.st TB x) (retTQ TB (k1i rn) k18 k95 o)
theorem kul {rn:Nat} (o:kk):OblH TB (k1i rn) 134 1 k1t ((khi rn) o) (retTQ TB (k1i rn) k18 k95 o):=
 OblH.ofC (X:=((∀nx i,((k75 rn) o) nx i=((k75 rn) o) nx i)∧(∀nx1:NX TB kh,((∀i,((k57 rn) o nx1) i=(kgo rn) o nx1 i)∧(∀i,((k59 rn) o nx1) i=(kgs rn) o nx1 i)∧(∀i,((k3q rn) o nx1) i=(kgn rn) o nx1 i)∧(∀i,((k3u rn) o nx1) i=(kgv rn) o nx1 i)∧(∀i,((k56 rn) o nx1) i=(kgm rn) o nx1 i)∧True))∧True)) (by kernel_rfl) ⟨fun _ _=>rfl,fun _=>⟨fun _=>propext ⟨fun h=>h.1,fun h=>⟨h⟩⟩,fun _=>propext ⟨fun h=>h.1,fun h=>⟨h⟩⟩,fun _=>propext ⟨fun h=>h.1,fun h=>⟨h⟩⟩,fun _=>propext ⟨fun h=>h.1,fun h=>⟨h⟩⟩,fun _=>propext ⟨fun h=>h.1,fun h=>⟨h⟩⟩,trivial⟩,trivial⟩
theorem kgw {rn:Nat} (hr:(kaa rn).Ok Try.prog TB) {x:kj8} {o:kk} (h:(kaq rn) x o):k18.Snd Try.prog x o:=
 Con.soundH (c:=k18) (C:=(k1i rn)) TBok ⟨inf_ok,(all_cons kpi (all_cons kuh (all_cons kpl (all_cons krg (all_cons kq4 (all_cons kj7 (all_cons kar (all_cons kof (all_cons ktv (all_cons hr all_nil)))))))))),all_nil⟩ mix Try.func42 (show Try.f42.body=some k1t by kernel_rfl) (show Try.f42.ntmps=134 by kernel_rfl) (show Try.f42.results.toList=k95 by kernel_rfl) rfl h (kul o)
theorem kw4 {rn:Nat} {p1:Int} {p2:Int} {p3:Int} {w0:List Int} {e0:List Int} (h:
((w0.length=w0.length)∧Md.Loop (p1,p2,p3,true,true,w0,()) ((k75 rn) (e0,())))):(kaq rn) (p1,p2,p3,w0,()) (e0,()):=WPh.of_eq (by kernel_rfl) h
theorem ksv {rn:Nat} {e0:List Int} {nx1:NX TB kh} {s1:Int} {s2:Int} {s3:Int} {s8:Bool} {s9:Bool} {s10:Int} {g0:List Int} (h:
((g0.length=g0.length)∧((0≤s1∧s1<s2∧s2≤g0.length)∧g0.length≤1099511627776)∧(((hintN (cpS g0 s1 s2).2)==2)=true→
(g0.length=g0.length)∧((0≤s1∧s1≤s2∧s2≤g0.length)∧g0.length≤1099511627776)∧let v2:Int:=IntKind.i64.wrap (((cpS g0 s1 s2).1:Int)-s1)
let v3:Int:=IntKind.i64.wrap ((IntKind.i64.wrap (s2-1))-v2)
(g0.length=(revS g0 s1 s2).length)∧(k59 rn) (e0,()) nx1 (s1,s2,s3,s8,s9,s10,v3,(1:Int),((revS g0 s1 s2):List Int),()))∧
(((hintN (cpS g0 s1 s2).2)==2)=false→
(g0.length=g0.length)∧(k59 rn) (e0,()) nx1 (s1,s2,s3,s8,s9,s10,(((cpS g0 s1 s2).1:Int):Int),((hintN (cpS g0 s1 s2).2):Int),g0,())))):(k57 rn) (e0,()) nx1 (s1,s2,s3,s8,s9,s10,g0,()):=⟨mpr_of (by kernel_rfl) h⟩
theorem ksu {rn:Nat} {e0:List Int} {nx1:NX TB kh} {s1:Int} {s2:Int} {s3:Int} {s8:Bool} {s9:Bool} {s10:Int} {s11:Int} {s12:Int} {g0:List Int} (h:
((s8=true→
(s9=true→
(g0.length=g0.length)∧(k3q rn) (e0,()) nx1 (s1,s2,s3,s8,s9,s10,s11,((s12==1):Bool),g0,()))∧
(s9=false→
(g0.length=g0.length)∧(k3q rn) (e0,()) nx1 (s1,s2,s3,s8,s9,s10,s11,false,g0,())))∧
(s8=false→
(g0.length=g0.length)∧(k3q rn) (e0,()) nx1 (s1,s2,s3,s8,s9,s10,s11,false,g0,())))):(k59 rn) (e0,()) nx1 (s1,s2,s3,s8,s9,s10,s11,s12,g0,()):=⟨mpr_of (by kernel_rfl) h⟩
theorem ksn {rn:Nat} {e0:List Int} {nx1:NX TB kh} {s1:Int} {s2:Int} {s3:Int} {s8:Bool} {s9:Bool} {s10:Int} {s11:Int} {s68:Bool} {g0:List Int} (h:
((s68=true→
(g0.length=g0.length)∧((0≤s1∧s1<s2∧s2≤g0.length)∧g0.length≤1099511627776)∧(((pisS g0 s1 s2).2)=true→
((pisS g0 s1 s2).1.toList)=e0)∧
(((pisS g0 s1 s2).2)=false→
(g0.length=((pisS g0 s1 s2).1.toList).length)∧(k3u rn) (e0,()) nx1 (s1,s2,s3,s8,s9,s10,s11,(((pisS g0 s1 s2).1.toList):List Int),())))∧
(s68=false→
(g0.length=g0.length)∧(k3u rn) (e0,()) nx1 (s1,s2,s3,s8,s9,s10,s11,g0,())))):(k3q rn) (e0,()) nx1 (s1,s2,s3,s8,s9,s10,s11,s68,g0,()):=⟨mpr_of (by kernel_rfl) h⟩
theorem ks9 {rn:Nat} {e0:List Int} {nx1:NX TB kh} {s1:Int} {s2:Int} {s3:Int} {s8:Bool} {s9:Bool} {s10:Int} {s11:Int} {g0:List Int} (h:
((decide (0<s1)=true→
(0≤IntKind.i64.wrap (s1-1)∧IntKind.i64.wrap (s1-1)<(g0.length:Int))∧(0≤IntKind.i64.wrap (s1-1)∧IntKind.i64.wrap (s1-1)<(g0.length:Int))∧(0≤s11∧s11<(g0.length:Int))∧(0≤s11∧s11<(g0.length:Int))∧let r4:Bool:=(decide ((ix g0 (IntKind.i64.wrap (s1-1)))<(ix g0 s11)))
(g0.length=g0.length)∧(k56 rn) (e0,()) nx1 (s1,s2,s3,s8,s9,s10,s11,((!r4):Bool),g0,()))∧
(decide (0<s1)=false→
(g0.length=g0.length)∧(k56 rn) (e0,()) nx1 (s1,s2,s3,s8,s9,s10,s11,false,g0,())))):(k3u rn) (e0,()) nx1 (s1,s2,s3,s8,s9,s10,s11,g0,()):=⟨mpr_of (by kernel_rfl) h⟩
theorem kse {rn:Nat} {e0:List Int} {nx1:NX TB kh} {s1:Int} {s2:Int} {s3:Int} {s8:Bool} {s9:Bool} {s10:Int} {s11:Int} {s87:Bool} {g0:List Int} (h:
((s87=true→
(g0.length=g0.length)∧((0≤s1∧s1≤s11∧s11<s2∧s2≤g0.length)∧g0.length≤1099511627776)∧(g0.length=((peqS g0 s1 s2 s11).2.toList).length)∧nx1 ((((peqS g0 s1 s2 s11).1:Int):Int),s2,s3,s8,s9,(((peqS g0 s1 s2 s11).2.toList):List Int),()))∧
(s87=false→
(g0.length=g0.length)∧((0≤s1∧s1≤s11∧s11<s2∧s2≤g0.length)∧g0.length≤1099511627776)∧let v5:Int:=IntKind.i64.wrap (((partS g0 s1 s2 s11).1:Int)-s1)
let v6:Int:=IntKind.i64.wrap (s2-((partS g0 s1 s2 s11).1:Int))
(decide (v5<v6)=true→
let v7:Bool:=decide ((IntKind.i64.wrap (Int.tdiv s10 8))≤v5)
(g0.length=((partS g0 s1 s2 s11).2.2.toList).length)∧(((0≤s1∧s1≤((partS g0 s1 s2 s11).1:Int)∧((partS g0 s1 s2 s11).1:Int)≤((partS g0 s1 s2 s11).2.2.toList).length)∧((partS g0 s1 s2 s11).2.2.toList).length≤1099511627776∧Sort.Below Sort.ltInt s1.toNat ((partS g0 s1 s2 s11).1:Int).toNat ((partS g0 s1 s2 s11).2.2.toList).toArray)∧(((partS g0 s1 s2 s11).1:Int)-s1).toNat<rn)∧let r8:List Int:=(insS ((partS g0 s1 s2 s11).2.2.toList) s1 ((partS g0 s1 s2 s11).1:Int))
let v9:Int:=IntKind.i64.wrap (((partS g0 s1 s2 s11).1:Int)+1)
(g0.length=r8.length)∧nx1 (v9,s2,s3,v7,(((partS g0 s1 s2 s11).2.1):Bool),r8,()))∧
(decide (v5<v6)=false→
let v10:Bool:=decide ((IntKind.i64.wrap (Int.tdiv s10 8))≤v6)
let v11:Int:=IntKind.i64.wrap (((partS g0 s1 s2 s11).1:Int)+1)
(g0.length=((partS g0 s1 s2 s11).2.2.toList).length)∧(((0≤v11∧v11≤s2∧s2≤((partS g0 s1 s2 s11).2.2.toList).length)∧((partS g0 s1 s2 s11).2.2.toList).length≤1099511627776∧Sort.Below Sort.ltInt v11.toNat s2.toNat ((partS g0 s1 s2 s11).2.2.toList).toArray)∧(s2-v11).toNat<rn)∧let r12:List Int:=(insS ((partS g0 s1 s2 s11).2.2.toList) v11 s2)
(g0.length=r12.length)∧nx1 (s1,(((partS g0 s1 s2 s11).1:Int):Int),s3,v10,(((partS g0 s1 s2 s11).2.1):Bool),r12,()))))):(k56 rn) (e0,()) nx1 (s1,s2,s3,s8,s9,s10,s11,s87,g0,()):=⟨mpr_of (by kernel_rfl) h⟩
def kbf (rn:Nat) (e0:List Int) (nx1:NX TB kh) (k1:Int→Int→Int→Bool→Bool→List Int→Prop) (s1:Int) (s2:Int) (s3:Int) (s8:Bool) (s9:Bool) (g0:List Int):Prop:=
let v1:Bool:=decide ((IntKind.i64.wrap (s2-s1))≤12)
(v1=true→
(g0.length=g0.length)∧((0≤s1∧s1≤s2∧s2≤g0.length)∧g0.length≤1099511627776)∧(insS g0 s1 s2)=e0)∧
(v1=false→
((s3==0)=true→
(g0.length=g0.length)∧((0≤s1∧s1<s2∧s2≤g0.length)∧g0.length≤1099511627776)∧(heapS g0 s1 s2)=e0)∧
((s3==0)=false→
((!s8)=true→
(g0.length=g0.length)∧((0≤s1∧s1≤s2∧s2≤g0.length)∧g0.length≤1099511627776)∧(g0.length=(brkS g0 s1 s2).length)∧(k57 rn) (e0,()) nx1 (s1,s2,(IntKind.i64.wrap (s3-1):Int),s8,s9,(IntKind.i64.wrap (s2-s1):Int),((brkS g0 s1 s2):List Int),()))∧
((!s8)=false→
(g0.length=g0.length)∧(k57 rn) (e0,()) nx1 (s1,s2,s3,s8,s9,(IntKind.i64.wrap (s2-s1):Int),g0,()))))
theorem kuf {rn:Nat} {e0:List Int} {s1:Int} {s2:Int} {s3:Int} {s8:Bool} {s9:Bool} {g0:List Int} (inv:Int→Int→Int→Bool→Bool→List Int→Prop) (μ:Int→Int→Int→Bool→Bool→List Int→Nat) (h0:inv s1 s2 s3 s8 s9 g0) (hs:∀(s1:Int) (s2:Int) (s3:Int) (s8:Bool) (s9:Bool) (g0:List Int),inv s1 s2 s3 s8 s9 g0→(kbf rn) e0 (fun s:Int×Int×Int×Bool×Bool×(List Int)×Unit=>((True)∧inv s.1 s.2.1 s.2.2.1 s.2.2.2.1 s.2.2.2.2.1 s.2.2.2.2.2.1)∧μ s.1 s.2.1 s.2.2.1 s.2.2.2.1 s.2.2.2.2.1 s.2.2.2.2.2.1<μ s1 s2 s3 s8 s9 g0) (fun s1q s2q s3q s8q s9q g0q=>inv s1q s2q s3q s8q s9q g0q∧μ s1q s2q s3q s8q s9q g0q<μ s1 s2 s3 s8 s9 g0) s1 s2 s3 s8 s9 g0):Md.Loop (s1,s2,s3,s8,s9,g0,()) ((k75 rn) (e0,())):=
 ⟨⟨fun s:Int×Int×Int×Bool×Bool×(List Int)×Unit=>(True)∧inv s.1 s.2.1 s.2.2.1 s.2.2.2.1 s.2.2.2.2.1 s.2.2.2.2.2.1,fun s:Int×Int×Int×Bool×Bool×(List Int)×Unit=>μ s.1 s.2.1 s.2.2.1 s.2.2.2.1 s.2.2.2.2.1 s.2.2.2.2.2.1,⟨trivial,h0⟩,fun(s1p,s2p,s3p,s8p,s9p,g0p,()) ⟨_,hi⟩=>by
  exact mpr_of (by kernel_rfl) ((congrArg (fun k=>(kbf rn) e0 (fun s:Int×Int×Int×Bool×Bool×(List Int)×Unit=>((True)∧inv s.1 s.2.1 s.2.2.1 s.2.2.2.1 s.2.2.2.2.1 s.2.2.2.2.2.1)∧μ s.1 s.2.1 s.2.2.1 s.2.2.2.1 s.2.2.2.2.1 s.2.2.2.2.2.1<μ s1p s2p s3p s8p s9p g0p) k s1p s2p s3p s8p s9p g0p) (lpk6 (trivial:True) inv (fun s1q s2q s3q s8q s9q g0q=>μ s1q s2q s3q s8q s9q g0q<μ s1p s2p s3p s8p s9p g0p))).mpr (hs s1p s2p s3p s8p s9p g0p hi))⟩⟩
theorem bd42:Callable Try.prog 42:=⟨by rw[Try.func42];kernel_rfl,by rw[Try.func42];show some _≠some _;decide⟩
set_option maxHeartbeats 1000000 in
theorem kg0 (rn:Nat) (p1:Int) (p2:Int) (p3:Int) (w0:List Int) (h:(0≤p1∧p1≤p2∧p2≤w0.length)∧w0.length≤1099511627776∧Sort.Below Sort.ltInt p1.toNat p2.toNat w0.toArray) (hm:((p2-p1).toNat)≤rn):kaq rn (p1,p2,p3,w0,()) (((insS w0 p1 p2):List Int),()):=by
 obtain⟨⟨h1,h2,h3⟩,h4,hB⟩:=h
 have h0:=PdqI.start h1 h2 h3 hB
 have hR:insS w0 p1 p2=(insS w0 p1 p2).toArray.toList:=rfl
 rw[hR]
 generalize (insS w0 p1 p2).toArray=R at *
 refine kw4 ⟨rfl,?_⟩
 refine kuf (fun a b _ _ _ g=>PdqI R w0.length a b g∧(b-a).toNat≤rn) (fun a b _ _ _ _=>(b-a).toNat) ⟨h0,hm⟩ ?_
 clear h0 hm h1 h2 h3 hB hR
 rintro a b l wb wp g ⟨hP,hb⟩
 have j5:∀(nx:NX TB kh) (l:Int) (wb wp:Bool) (len p:Int) (s:Bool) (g:List Int),PdqI R w0.length a b g→(a≤p∧p<b)→(s=true→0<a∧¬ix g (a-1)<ix g p)→(∀(a' b' l' :Int) (wb' wp' :Bool) (g' :List Int),(PdqI R w0.length a' b' g'∧(b' -a').toNat≤rn)∧(b' -a').toNat<(b-a).toNat→nx (a',b',l',wb',wp',g',()))→k56 rn (R.toList,()) nx (a,b,l,wb,wp,len,p,s,g,()):=by
  intro nx l wb wp len p s g hP ⟨q0,q1⟩ hs hn
  have a0:=hP.a0
  have bl:=hP.bl
  have gl:=hP.n
  refine kse ⟨fun e=> ?_,fun e=> ?_⟩
  ·obtain⟨s1,s2⟩:=hs e
   obtain⟨m1,m2,m3⟩:=hP.peq s1 q0 q1 s2
   have ml:=m3.n
   exact⟨rfl,⟨⟨a0,q0,q1,bl⟩,by omega⟩,by omega,hn _ _ _ _ _ _ ⟨⟨m3,by omega⟩,by omega⟩⟩
  ·obtain⟨m1,m2,m3,m4,m5,m6,m7⟩:=hP.part q0 q1
   have l6:=m6.n
   have l7:=m7.n
   generalize partS g a b p=P at *
   have dl:P.2.2.toList.length=w0.length:=by simpa using m3
   refine⟨rfl,⟨⟨a0,q0,q1,bl⟩,by omega⟩,?_⟩
   dsimp only
   have w1:=wi ((P.1:Int)-a) (by omega) (by omega)
   have w2:=wi (b-(P.1:Int)) (by omega) (by omega)
   have w3:=wi ((P.1:Int)+1) (by omega) (by omega)
   rw[w1,w2,w3]
   refine⟨fun c=>⟨by omega,⟨⟨⟨a0,m1,by omega⟩,by omega,by simpa using m4⟩,by omega⟩,by omega,hn _ _ _ _ _ _ ⟨⟨m6,by omega⟩,by omega⟩⟩,fun c=>⟨by omega,⟨⟨⟨by omega,by omega,by omega⟩,by omega,?_⟩,by omega⟩,by omega,hn _ _ _ _ _ _ ⟨⟨m7,by omega⟩,by omega⟩⟩⟩
   rw[show((P.1:Int)+1).toNat=P.1+1 by omega]
   simpa using m5
 have j4:∀(nx:NX TB kh) (l:Int) (wb wp:Bool) (len p:Int) (g:List Int),PdqI R w0.length a b g→(a≤p∧p<b)→(∀(a' b' l' :Int) (wb' wp' :Bool) (g' :List Int),(PdqI R w0.length a' b' g'∧(b' -a').toNat≤rn)∧(b' -a').toNat<(b-a).toNat→nx (a',b',l',wb',wp',g',()))→k3u rn (R.toList,()) nx (a,b,l,wb,wp,len,p,g,()):=by
  intro nx l wb wp len p g hP hp hn
  have a0:=hP.a0
  have bl:=hP.bl
  have gl:=hP.n
  refine ks9 ⟨fun e=> ?_,fun e=>⟨rfl,j5 nx _ _ _ _ _ _ _ hP hp (fun h=>by cases h) hn⟩⟩
  have e:=of_decide_eq_true e
  rw[wi (a-1) (by omega) (by omega)]
  refine⟨⟨by omega,by omega⟩,⟨by omega,by omega⟩,⟨by omega,by omega⟩,⟨by omega,by omega⟩,rfl,j5 nx _ _ _ _ _ _ _ hP hp (fun h=>⟨e,?_⟩) hn⟩
  simpa using h
 have j3:∀(nx:NX TB kh) (l:Int) (wb wp:Bool) (len p:Int) (s:Bool) (g:List Int),PdqI R w0.length a b g→(a≤p∧p<b)→(∀(a' b' l' :Int) (wb' wp' :Bool) (g' :List Int),(PdqI R w0.length a' b' g'∧(b' -a').toNat≤rn)∧(b' -a').toNat<(b-a).toNat→nx (a',b',l',wb',wp',g',()))→k3q rn (R.toList,()) nx (a,b,l,wb,wp,len,p,s,g,()):=by
  intro nx l wb wp len p s g hP hp hn
  have a0:=hP.a0
  have bl:=hP.bl
  have gl:=hP.n
  refine ksn ⟨fun e=> ?_,fun e=>⟨rfl,j4 nx _ _ _ _ _ _ hP hp hn⟩⟩
  obtain⟨m1,m2⟩:=hP.pis (by omega)
  have ml:=m1.n
  exact⟨rfl,⟨⟨a0,by omega,bl⟩,by omega⟩,fun e2=>m2 e2,fun e2=>⟨by omega,j4 nx _ _ _ _ _ _ m1 hp hn⟩⟩
 have j2:∀(nx:NX TB kh) (l:Int) (wb wp:Bool) (len p h:Int) (g:List Int),PdqI R w0.length a b g→(a≤p∧p<b)→(∀(a' b' l' :Int) (wb' wp' :Bool) (g' :List Int),(PdqI R w0.length a' b' g'∧(b' -a').toNat≤rn)∧(b' -a').toNat<(b-a).toNat→nx (a',b',l',wb',wp',g',()))→k59 rn (R.toList,()) nx (a,b,l,wb,wp,len,p,h,g,()):=by
  intro nx l wb wp len p h g hP hp hn
  exact ksu ⟨fun e=>⟨fun e2=>⟨rfl,j3 nx _ _ _ _ _ _ _ hP hp hn⟩,fun e2=>⟨rfl,j3 nx _ _ _ _ _ _ _ hP hp hn⟩⟩,fun e=>⟨rfl,j3 nx _ _ _ _ _ _ _ hP hp hn⟩⟩
 have j1:∀(nx:NX TB kh) (l:Int) (wb wp:Bool) (len:Int) (g:List Int),a<b→PdqI R w0.length a b g→(∀(a' b' l' :Int) (wb' wp' :Bool) (g' :List Int),(PdqI R w0.length a' b' g'∧(b' -a').toNat≤rn)∧(b' -a').toNat<(b-a).toNat→nx (a',b',l',wb',wp',g',()))→k57 rn (R.toList,()) nx (a,b,l,wb,wp,len,g,()):=by
  intro nx l wb wp len g hab hP hn
  have a0:=hP.a0
  have bl:=hP.bl
  have gl:=hP.n
  have hc:=cpS_rng (g:=g) (a:=a) (b:=b) a0 hab
  have hr:=hP.rev
  have rl:=hr.n
  refine ksv ⟨rfl,⟨⟨a0,hab,bl⟩,by omega⟩,fun e=>⟨rfl,⟨⟨a0,by omega,bl⟩,by omega⟩,?_⟩,fun e=>⟨rfl,j2 nx _ _ _ _ _ _ _ hP ⟨hc.1,hc.2⟩ hn⟩⟩
  dsimp only
  rw[wi (((cpS g a b).1:Int)-a) (by omega) (by omega),wi (b-1) (by omega) (by omega),wi (b-1-(((cpS g a b).1:Int)-a)) (by omega) (by omega)]
  exact⟨by omega,j2 nx _ _ _ _ _ _ _ hr ⟨by omega,by omega⟩ hn⟩
 have a0:=hP.a0
 have ab:=hP.ab
 have bl:=hP.bl
 have gl:=hP.n
 unfold kbf
 dsimp only
 have w1:=wi (b-a) (by omega) (by omega)
 refine⟨fun e=>⟨rfl,⟨⟨a0,ab,bl⟩,by omega⟩,hP.ins⟩,fun e=> ?_⟩
 have e:¬b-a≤12:=by rw[w1]at e;exact of_decide_eq_false e
 refine⟨fun e2=>⟨rfl,⟨⟨a0,by omega,bl⟩,by omega⟩,hP.heap⟩,fun e2=>⟨fun e3=> ?_,fun e3=> ?_⟩⟩
 ·have hk:=hP.brk
  have kl:=hk.n
  exact⟨rfl,⟨⟨a0,ab,bl⟩,by omega⟩,by omega,j1 _ _ _ _ _ _ (by omega) hk fun a' b' l' wb' wp' g' q=>⟨⟨trivial,q.1⟩,q.2⟩⟩
 ·exact⟨rfl,j1 _ _ _ _ _ _ (by omega) hP fun a' b' l' wb' wp' g' q=>⟨⟨trivial,q.1⟩,q.2⟩⟩
theorem kgp:∀rn:Nat,(kaa rn).Ok Try.prog TB
 |0=>Con.ok_fn k18 bd42 fun _ h=>absurd h.2 (Nat.not_lt_zero _)
 |rn+1=>Con.ok_fn k18 bd42 fun x h=>kgw (kgp rn) (kg0 rn x.1 x.2.1 x.2.2.1 x.2.2.2.1 h.1 (Nat.lt_succ_iff.1 h.2))
noncomputable def kgz:Con TB.den:=k18.fnR (fun x=>(fun(p1:Int) (p2:Int) (p3:Int) (w0:List Int)=>(0≤p1∧p1≤p2∧p2≤w0.length)∧w0.length≤1099511627776∧Sort.Below Sort.ltInt p1.toNat p2.toNat w0.toArray) x.1 x.2.1 x.2.2.1 x.2.2.2.1) fun x=>(fun(p1:Int) (p2:Int) (p3:Int) (w0:List Int)=>(((insS w0 p1 p2):List Int),())) x.1 x.2.1 x.2.2.1 x.2.2.2.1
theorem kv8:kgz.Ok Try.prog TB:=Con.ok_fn k18 bd42 fun x h=>kgw (kgp ((fun(p1:Int) (p2:Int) (p3:Int) (w0:List Int)=>((p2-p1).toNat:Nat)) x.1 x.2.1 x.2.2.1 x.2.2.2.1)) (kg0 ((fun(p1:Int) (p2:Int) (p3:Int) (w0:List Int)=>((p2-p1).toNat:Nat)) x.1 x.2.1 x.2.2.1 x.2.2.2.1) x.1 x.2.1 x.2.2.1 x.2.2.2.1 h (Nat.le_refl _))
def k45:Con TB.den:=Con.mk0 29 [.one (.row 0)] [.vec (.int .i64)] (.tup []) [.vec (.int .i64)]
abbrev kyx:=HL TB.den (hsT k45.ins (hsOs k45.pre))
abbrev kh7:=HL TB.den (hsV k45.res (hsOs k45.post))
noncomputable def kc1:Cx TB:=⟨inf,[k120,kgz],[],4,[]⟩
noncomputable def kjt:Code:=Try.f29.body.getD .skip
noncomputable def kmh:List ResultVar:=Try.f29.results.toList
noncomputable def kwz (o:kh7):An TB:= .no
def kjl (x:kyx) (o:kh7):Prop:=WPh TB kc1 11 1 kjt (kwz o) (k45.st TB x) (retTQ TB kc1 k45 kmh o)
theorem k193 (o:kh7):OblH TB kc1 11 1 kjt (kwz o) (retTQ TB kc1 k45 kmh o):=
 OblH.ofC (X:=True) (by kernel_rfl) trivial
theorem k192 {x:kyx} {o:kh7} (h:kjl x o):k45.Snd Try.prog x o:=
 Con.soundH (c:=k45) (C:=kc1) TBok ⟨inf_ok,(all_cons k1dj (all_cons kv8 all_nil)),all_nil⟩ mix Try.func29 (show Try.f29.body=some kjt by kernel_rfl) (show Try.f29.ntmps=11 by kernel_rfl) (show Try.f29.results.toList=kmh by kernel_rfl) rfl h (k193 o)
theorem k19s {w0:List Int} {e0:List Int} (h:
((U64 (IntKind.u64.wrap (w0.length:Int)))∧let r1:Int:=(len64 (IntKind.u64.wrap (w0.length:Int)))
(w0.length=w0.length)∧((0≤(0:Int)∧(0:Int)≤(w0.length:Int)∧(w0.length:Int)≤w0.length)∧w0.length≤1099511627776∧Sort.Below Sort.ltInt (0:Int).toNat (w0.length:Int).toNat w0.toArray)∧(insS w0 (0:Int) (w0.length:Int))=e0)):kjl (w0,()) (e0,()):=WPh.of_eq (by kernel_rfl) h
theorem bd29:Callable Try.prog 29:=⟨by rw[Try.func29];kernel_rfl,by rw[Try.func29];show some _≠some _;decide⟩
theorem k16z (w0:List Int) (h:w0.length≤1099511627776):kjl (w0,()) (((srt w0):List Int),()):=by
 refine k19s ⟨by rw[wu _ (by omega) (by omega)];omega,?_⟩
 refine⟨rfl,⟨⟨by omega,by omega,by omega⟩,h,Or.inl rfl⟩,?_⟩
 exact k1t1 w0
noncomputable def kv0:Con TB.den:=k45.fnR (fun x=>(fun(w0:List Int)=>w0.length≤1099511627776) x.1) fun x=>(fun(w0:List Int)=>(((srt w0):List Int),())) x.1
theorem k1ac:kv0.Ok Try.prog TB:=Con.ok_fn k45 bd29 fun x h=>k192 (k16z x.1 h)
def k1k:Con TB.den:=Con.mk0 15 [.one (.ptr 0 0),.agg [.d (.int .u64),.d (.int .u64)],.one (.d (.int .i64)),.one (.d (.int .i64))] [.cells [.d (.bool),.d (.int .u64),.d (.int .i64),.own 1,.mp 2,.mp 3,.mp 4],.tip (.st 1),.map (.str) (.int .i64),.map (.str) (.sl (.int .u64)),.map (.str) (.bool)] (.tup [.one (.d (.sl (.int .i64))),.agg [.d (.int .u64),.d (.int .u64)]]) [.cells [.d (.bool),.d (.int .u64),.d (.int .i64),.own 1,.mp 2,.mp 3,.mp 4],.tip (.st 1),.map (.str) (.int .i64),.map (.str) (.sl (.int .u64)),.map (.str) (.bool)]
abbrev knf:=HL TB.den (hsT k1k.ins (hsOs k1k.pre))
abbrev kz:=HL TB.den (hsV k1k.res (hsOs k1k.post))
noncomputable def k1m:Cx TB:=⟨inf,[k9n,ktg,kv0],[],4,[]⟩
noncomputable def k2p:Code:=Try.f15.body.getD .skip
noncomputable def k6m:List ResultVar:=Try.f15.results.toList
noncomputable def kl9 (o:kz):An TB:= .nd [] .no [] (.nd [] .no [] (.nd [] .no [] (.rt [.frz 8 [8]])))
def kzu (o:kz):=qS TB k1m 82 5 (cB (cB (cB (cB (cB k2p))))) (kl9 o) (retTQ TB k1m k1k k6m o)
def k50:Tm:=⟨[0,1,2,3,4,5,6,7],[.cells [.d (.bool),.d (.int .u64),.d (.int .i64),.own 1,.mp 2,.mp 3,.mp 4],.tip (.st 1),.map (.str) (.int .i64),.map (.str) (.sl (.int .u64)),.map (.str) (.bool),.cells [.d (.int .u64),.d (.int .u64)],.cells [.d (.int .u64),.d (.int .u64)],.vec (.int .i64)],[0,2,3,5,9,10,40,41],[.one (.ptr 0 0),.one (.d (.int .i64)),.one (.d (.int .i64)),.one (.ptr 5 0),.one (.ptr 6 0),.one (.row 7),.one (.d (.int .i64)),.one (.d (.int .i64))],8⟩
def kzn (o:kz) (nx2:NX TB k50):=qM TB 5 k50 nx2 (blockT TB 2 (kzu o))
def k7y (o:kz) (nx2:NX TB k50) (i:HL TB.den k50.hs):Prop:=WP TB k1m 82 5 (cA (cA (cB (cA (cB (cB (cB (cB k2p)))))))) .no (k50.fill TB i) (kzn o nx2)
noncomputable def kzt (o:kz):An TB:= .lp [] k50 (k7y o) fun nx2=> .no
noncomputable def kl1 (o:kz):An TB:= .nd [] (.nd [] .no [] (kzt o)) [] (kl9 o)
def k105 (o:kz):=qS TB k1m 82 5 (cB (cB (cB (cB k2p)))) (kl1 o) (retTQ TB k1m k1k k6m o)
def k4z:Tm:=⟨[0,1,2,3,4,5,6,7],[.cells [.d (.bool),.d (.int .u64),.d (.int .i64),.own 1,.mp 2,.mp 3,.mp 4],.tip (.st 1),.map (.str) (.int .i64),.map (.str) (.sl (.int .u64)),.map (.str) (.bool),.cells [.d (.int .u64),.d (.int .u64)],.cells [.d (.int .u64),.d (.int .u64)],.vec (.int .i64)],[0,2,3,5,9,10,31,32],[.one (.ptr 0 0),.one (.d (.int .i64)),.one (.d (.int .i64)),.one (.ptr 5 0),.one (.ptr 6 0),.one (.row 7),.one (.d (.int .i64)),.one (.d (.int .i64))],8⟩
def k104 (o:kz) (nx1:NX TB k4z):=qM TB 5 k4z nx1 (blockT TB 0 (k105 o))
def k83 (o:kz) (nx1:NX TB k4z) (i:HL TB.den k4z.hs):Prop:=WP TB k1m 82 5 (cA (cA (cB (cA (cB (cB (cB k2p))))))) .no (k4z.fill TB i) (k104 o nx1)
noncomputable def kxz (o:kz):An TB:= .lp [] k4z (k83 o) fun nx1=> .no
noncomputable def kke (o:kz):An TB:= .nd [] (.nd [] .no [] (kxz o)) [] (kl1 o)
def ky5 (o:kz):=qS TB k1m 82 5 (cB (cB k2p)) (.nd [] .no [] (kke o)) (retTQ TB k1m k1k k6m o)
def k9m:Tm:=⟨[0,1,2,3,4,5,6],[.cells [.d (.bool),.d (.int .u64),.d (.int .i64),.own 1,.mp 2,.mp 3,.mp 4],.tip (.st 1),.map (.str) (.int .i64),.map (.str) (.sl (.int .u64)),.map (.str) (.bool),.cells [.d (.int .u64),.d (.int .u64)],.cells [.d (.int .u64),.d (.int .u64)]],[0,2,3,5,9,26],[.one (.ptr 0 0),.one (.d (.int .i64)),.one (.d (.int .i64)),.one (.ptr 5 0),.one (.ptr 6 0),.one (.d (.bool))],7⟩
def kk2 (o:kz) (i:HL TB.den k9m.hs):Prop:=ghs TB [] (k9m.fill TB i) fun s=>WP TB k1m 82 5 (cB (cA (cB k2p))) .no s (ky5 o)
structure k4w (o:kz) (i:HL TB.den k9m.hs):Prop where
 h:kk2 o i
noncomputable def kxw (o:kz):An TB:= .jn k9m (k4w o) [] .no [] .no
noncomputable def kya (o:kz):An TB:= .nd [] (kxw o) [] (.nd [] .no [] (kke o))
noncomputable def klc (o:kz):An TB:= .nd [] .no [] (kya o)
def kbt (x:knf) (o:kz):Prop:=WPh TB k1m 82 5 k2p (klc o) (k1k.st TB x) (retTQ TB k1m k1k k6m o)
theorem kyi (o:kz):OblH TB k1m 82 5 k2p (klc o) (retTQ TB k1m k1k k6m o):=
 OblH.ofC (X:=((∀i,(k4w o) i=kk2 o i)∧(∀nx i,(k83 o) nx i=(k83 o) nx i)∧(∀nx1:NX TB k4z,True)∧(∀nx i,(k7y o) nx i=(k7y o) nx i)∧(∀nx2:NX TB k50,True)∧True)) (by kernel_rfl) ⟨fun _=>propext ⟨fun h=>h.1,fun h=>⟨h⟩⟩,fun _ _=>rfl,fun _=>trivial,fun _ _=>rfl,fun _=>trivial,trivial⟩
theorem ky0 {x:knf} {o:kz} (h:kbt x o):k1k.Snd Try.prog x o:=
 Con.soundH (c:=k1k) (C:=k1m) TBok ⟨inf_ok,(all_cons kdt (all_cons k19a (all_cons k1ac all_nil))),all_nil⟩ mix Try.func15 (show Try.f15.body=some k2p by kernel_rfl) (show Try.f15.ntmps=82 by kernel_rfl) (show Try.f15.results.toList=k6m by kernel_rfl) rfl h (kyi o)
theorem k103 {p1:TTranscript} {p2:Int} {p3:Int} {c0_0:Bool} {c0_1:Int} {c0_2:Int} {w1:List TQuestion} {w2k:List ByteArray} {w2v:List Int} {w3k:List ByteArray} {w3v:List (List Int)} {w4k:List ByteArray} {w4v:List Bool} {r0:List Int} {r1:TTranscript} {d0_0:Bool} {d0_1:Int} {d0_2:Int} {e1:List TQuestion} {e2k:List ByteArray} {e2v:List Int} {e3k:List ByteArray} {e3v:List (List Int)} {e4k:List ByteArray} {e4v:List Bool} (h:
((decide (p3<0)=true→
(w1=w1)∧k4w (r0,r1.State,r1.Count,d0_0,d0_1,d0_2,e1,e2k,e2v,e3k,e3v,e4k,e4v,()) (p2,p3,true,c0_0,c0_1,c0_2,p1.State,p1.Count,(0:Int),(0:Int),w1,w2k,w2v,w3k,w3v,w4k,w4v,()))∧
(decide (p3<0)=false→
(decide (p2<p3)=true→
(w1=w1)∧k4w (r0,r1.State,r1.Count,d0_0,d0_1,d0_2,e1,e2k,e2v,e3k,e3v,e4k,e4v,()) (p2,p3,true,c0_0,c0_1,c0_2,p1.State,p1.Count,(0:Int),(0:Int),w1,w2k,w2v,w3k,w3v,w4k,w4v,()))∧
(decide (p2<p3)=false→
(w1=w1)∧k4w (r0,r1.State,r1.Count,d0_0,d0_1,d0_2,e1,e2k,e2v,e3k,e3v,e4k,e4v,()) (p2,p3,(decide (1024<p2):Bool),c0_0,c0_1,c0_2,p1.State,p1.Count,(0:Int),(0:Int),w1,w2k,w2v,w3k,w3v,w4k,w4v,()))))):kbt (p1.State,p1.Count,p2,p3,c0_0,c0_1,c0_2,w1,w2k,w2v,w3k,w3v,w4k,w4v,()) (r0,r1.State,r1.Count,d0_0,d0_1,d0_2,e1,e2k,e2v,e3k,e3v,e4k,e4v,()):=WPh.of_eq (by kernel_rfl) h
theorem kif {r0:List Int} {r1:TTranscript} {d0_0:Bool} {d0_1:Int} {d0_2:Int} {e1:List TQuestion} {e2k:List ByteArray} {e2v:List Int} {e3k:List ByteArray} {e3v:List (List Int)} {e4k:List ByteArray} {e4v:List Bool} {s2:Int} {s3:Int} {s26:Bool} {h0_0:Bool} {h0_1:Int} {h0_2:Int} {h5_0:Int} {h5_1:Int} {h6_0:Int} {h6_1:Int} {g1:List TQuestion} {g2k:List ByteArray} {g2v:List Int} {g3k:List ByteArray} {g3v:List (List Int)} {g4k:List ByteArray} {g4v:List Bool} (h:
((s26=true→
(g1=g1)∧([]:List Int)=r0∧h5_0=r1.State∧h5_1=r1.Count∧h0_0=d0_0∧h0_1=d0_1∧h0_2=d0_2∧g1=e1∧g2k=e2k∧g2v=e2v∧g3k=e3k∧g3v=e3v∧g4k=e4k∧g4v=e4v)∧
(s26=false→
0≤s2∧s2≤s2∧(s2.toNat*8≤140737488355328)∧(s2.toNat≤maxLen)∧(g1=g1)∧(s2.toNat=(List.replicate s2.toNat (0:Int)).length)∧Md.Loop (s2,s3,((s2.toNat:Int):Int),(0:Int),h0_0,h0_1,h0_2,h5_0,h5_1,h6_0,h6_1,g1,g2k,g2v,g3k,g3v,g4k,g4v,(List.replicate s2.toNat (0:Int):List Int),()) (k83 (r0,r1.State,r1.Count,d0_0,d0_1,d0_2,e1,e2k,e2v,e3k,e3v,e4k,e4v,()))))):k4w (r0,r1.State,r1.Count,d0_0,d0_1,d0_2,e1,e2k,e2v,e3k,e3v,e4k,e4v,()) (s2,s3,s26,h0_0,h0_1,h0_2,h5_0,h5_1,h6_0,h6_1,g1,g2k,g2v,g3k,g3v,g4k,g4v,()):=⟨mpr_of (by kernel_rfl) h⟩
def klk (r0:List Int) (r1:TTranscript) (d0_0:Bool) (d0_1:Int) (d0_2:Int) (e1:List TQuestion) (e2k:List ByteArray) (e2v:List Int) (e3k:List ByteArray) (e3v:List (List Int)) (e4k:List ByteArray) (e4v:List Bool) (k1:Int→List Int→Prop) (s2:Int) (s3:Int) (s31:Int) (h0_0:Bool) (h0_1:Int) (h0_2:Int) (h5_0:Int) (h5_1:Int) (h6_0:Int) (h6_1:Int) (g1:List TQuestion) (g2k:List ByteArray) (g2v:List Int) (g3k:List ByteArray) (g3v:List (List Int)) (g4k:List ByteArray) (g4v:List Bool) (s32:Int) (g7:List Int):Prop:=
(decide (s32<s31)=true→
(0≤s32∧s32<(g7.length:Int))∧(0≤s32∧s32<(g7.length:Int))∧(g1=g1)∧(g7.length=(g7.set s32.toNat s32).length)∧k1 (IntKind.i64.wrap (s32+1):Int) (g7.set s32.toNat s32:List Int))∧
(decide (s32<s31)=false→
(g1=g1)∧(g7.length=g7.length)∧Md.Loop (s2,s3,s3,(0:Int),h0_0,h0_1,h0_2,h5_0,h5_1,h6_0,h6_1,g1,g2k,g2v,g3k,g3v,g4k,g4v,g7,()) (k7y (r0,r1.State,r1.Count,d0_0,d0_1,d0_2,e1,e2k,e2v,e3k,e3v,e4k,e4v,())))
theorem kyh {r0:List Int} {r1:TTranscript} {d0_0:Bool} {d0_1:Int} {d0_2:Int} {e1:List TQuestion} {e2k:List ByteArray} {e2v:List Int} {e3k:List ByteArray} {e3v:List (List Int)} {e4k:List ByteArray} {e4v:List Bool} {s2:Int} {s3:Int} {s31:Int} {h0_0:Bool} {h0_1:Int} {h0_2:Int} {h5_0:Int} {h5_1:Int} {h6_0:Int} {h6_1:Int} {g1:List TQuestion} {g2k:List ByteArray} {g2v:List Int} {g3k:List ByteArray} {g3v:List (List Int)} {g4k:List ByteArray} {g4v:List Bool} {s32:Int} {g7:List Int} (inv:Int→List Int→Prop) (μ:Int→List Int→Nat) (h0:inv s32 g7) (hs:∀(s32:Int) (g7:List Int),inv s32 g7→klk r0 r1 d0_0 d0_1 d0_2 e1 e2k e2v e3k e3v e4k e4v (fun s32q g7q=>inv s32q g7q∧μ s32q g7q<μ s32 g7) s2 s3 s31 h0_0 h0_1 h0_2 h5_0 h5_1 h6_0 h6_1 g1 g2k g2v g3k g3v g4k g4v s32 g7):Md.Loop (s2,s3,s31,s32,h0_0,h0_1,h0_2,h5_0,h5_1,h6_0,h6_1,g1,g2k,g2v,g3k,g3v,g4k,g4v,g7,()) (k83 (r0,r1.State,r1.Count,d0_0,d0_1,d0_2,e1,e2k,e2v,e3k,e3v,e4k,e4v,())):=
 ⟨⟨fun s:Int×Int×Int×Int×Bool×Int×Int×Int×Int×Int×Int×(List TQuestion)×(List ByteArray)×(List Int)×(List ByteArray)×(List (List Int))×(List ByteArray)×(List Bool)×(List Int)×Unit=>(s.1=s2∧s.2.1=s3∧s.2.2.1=s31∧s.2.2.2.2.1=h0_0∧s.2.2.2.2.2.1=h0_1∧s.2.2.2.2.2.2.1=h0_2∧s.2.2.2.2.2.2.2.1=h5_0∧s.2.2.2.2.2.2.2.2.1=h5_1∧s.2.2.2.2.2.2.2.2.2.1=h6_0∧s.2.2.2.2.2.2.2.2.2.2.1=h6_1∧s.2.2.2.2.2.2.2.2.2.2.2.1=g1∧s.2.2.2.2.2.2.2.2.2.2.2.2.1=g2k∧s.2.2.2.2.2.2.2.2.2.2.2.2.2.1=g2v∧s.2.2.2.2.2.2.2.2.2.2.2.2.2.2.1=g3k∧s.2.2.2.2.2.2.2.2.2.2.2.2.2.2.2.1=g3v∧s.2.2.2.2.2.2.2.2.2.2.2.2.2.2.2.2.1=g4k∧s.2.2.2.2.2.2.2.2.2.2.2.2.2.2.2.2.2.1=g4v)∧inv s.2.2.2.1 s.2.2.2.2.2.2.2.2.2.2.2.2.2.2.2.2.2.2.1,fun s:Int×Int×Int×Int×Bool×Int×Int×Int×Int×Int×Int×(List TQuestion)×(List ByteArray)×(List Int)×(List ByteArray)×(List (List Int))×(List ByteArray)×(List Bool)×(List Int)×Unit=>μ s.2.2.2.1 s.2.2.2.2.2.2.2.2.2.2.2.2.2.2.2.2.2.2.1,⟨⟨rfl,rfl,rfl,rfl,rfl,rfl,rfl,rfl,rfl,rfl,rfl,rfl,rfl,rfl,rfl,rfl,rfl⟩,h0⟩,fun(s2p,s3p,s31p,s32p,h0_0p,h0_1p,h0_2p,h5_0p,h5_1p,h6_0p,h6_1p,g1p,g2kp,g2vp,g3kp,g3vp,g4kp,g4vp,g7p,()) ⟨⟨eq0,eq1,eq2,eq3,eq4,eq5,eq6,eq7,eq8,eq9,eq10,eq11,eq12,eq13,eq14,eq15,eq16⟩,hi⟩=>by
  have eq0:s2p=s2:=eq0;subst s2p;have eq1:s3p=s3:=eq1;subst s3p;have eq2:s31p=s31:=eq2;subst s31p;have eq3:h0_0p=h0_0:=eq3;subst h0_0p;have eq4:h0_1p=h0_1:=eq4;subst h0_1p;have eq5:h0_2p=h0_2:=eq5;subst h0_2p;have eq6:h5_0p=h5_0:=eq6;subst h5_0p;have eq7:h5_1p=h5_1:=eq7;subst h5_1p;have eq8:h6_0p=h6_0:=eq8;subst h6_0p;have eq9:h6_1p=h6_1:=eq9;subst h6_1p;have eq10:g1p=g1:=eq10;subst g1p;have eq11:g2kp=g2k:=eq11;subst g2kp;have eq12:g2vp=g2v:=eq12;subst g2vp;have eq13:g3kp=g3k:=eq13;subst g3kp;have eq14:g3vp=g3v:=eq14;subst g3vp;have eq15:g4kp=g4k:=eq15;subst g4kp;have eq16:g4vp=g4v:=eq16;subst g4vp;exact mpr_of (by kernel_rfl) ((congrArg (fun k=>klk r0 r1 d0_0 d0_1 d0_2 e1 e2k e2v e3k e3v e4k e4v k s2 s3 s31 h0_0 h0_1 h0_2 h5_0 h5_1 h6_0 h6_1 g1 g2k g2v g3k g3v g4k g4v s32p g7p) (lpk2 (⟨rfl,rfl,rfl,rfl,rfl,rfl,rfl,rfl,rfl,rfl,rfl,rfl,rfl,rfl,rfl,rfl,rfl⟩:s2=s2∧s3=s3∧s31=s31∧h0_0=h0_0∧h0_1=h0_1∧h0_2=h0_2∧h5_0=h5_0∧h5_1=h5_1∧h6_0=h6_0∧h6_1=h6_1∧g1=g1∧g2k=g2k∧g2v=g2v∧g3k=g3k∧g3v=g3v∧g4k=g4k∧g4v=g4v) inv (fun s32q g7q=>μ s32q g7q<μ s32p g7p))).mpr (hs s32p g7p hi))⟩⟩
def kl6 (r0:List Int) (r1:TTranscript) (d0_0:Bool) (d0_1:Int) (d0_2:Int) (e1:List TQuestion) (e2k:List ByteArray) (e2v:List Int) (e3k:List ByteArray) (e3v:List (List Int)) (e4k:List ByteArray) (e4v:List Bool) (k2:Int→Bool→Int→Int→Int→Int→List TQuestion→List ByteArray→List Int→List ByteArray→List (List Int)→List ByteArray→List Bool→List Int→Prop) (s2:Int) (s3:Int) (s40:Int) (h6_0:Int) (h6_1:Int) (s41:Int) (h0_0:Bool) (h0_1:Int) (h0_2:Int) (h5_0:Int) (h5_1:Int) (g1:List TQuestion) (g2k:List ByteArray) (g2v:List Int) (g3k:List ByteArray) (g3v:List (List Int)) (g4k:List ByteArray) (g4v:List Bool) (g7:List Int):Prop:=
(decide (s41<s40)=true→
(g1=g1)∧((U64 (TTranscript.mk h5_0 h5_1).State∧U64 (TTranscript.mk h5_0 h5_1).Count)∧OOk (OS.mk h0_0 h0_1 h0_2 g1 g2k g2v g3k g3v g4k g4v))∧let r2:=chO (OS.mk h0_0 h0_1 h0_2 g1 g2k g2v g3k g3v g4k g4v) (TTranscript.mk h5_0 h5_1) (18446744069414584321:Int)
let r3:=(chO (OS.mk h0_0 h0_1 h0_2 g1 g2k g2v g3k g3v g4k g4v) (TTranscript.mk h5_0 h5_1) (18446744069414584321:Int)).t
let v4:Int:=IntKind.u64.wrap (IntKind.i64.wrap (s2-s41))
(v4≠0)∧let v5:Int:=IntKind.i64.wrap (s41+(IntKind.i64.wrap (Int.tmod r2.n v4)))
(0≤v5∧v5<(g7.length:Int))∧(0≤v5∧v5<(g7.length:Int))∧(0≤s41∧s41<(g7.length:Int))∧(0≤s41∧s41<(g7.length:Int))∧(0≤s41∧s41<(g7.length:Int))∧(0≤s41∧s41<(g7.length:Int))∧(0≤v5∧v5<(g7.length:Int))∧(0≤v5∧v5<((g7.set s41.toNat (ix g7 v5)).length:Int))∧(r2.o.q=r2.o.q)∧(g7.length=((g7.set s41.toNat (ix g7 v5)).set v5.toNat (ix g7 s41)).length)∧k2 (IntKind.i64.wrap (s41+1):Int) r2.o.a r2.o.b r2.o.c r3.State r3.Count r2.o.q r2.o.k r2.o.v r2.o.s r2.o.t r2.o.x r2.o.y ((g7.set s41.toNat (ix g7 v5)).set v5.toNat (ix g7 s41):List Int))∧
(decide (s41<s40)=false→
(0≤s3)∧s3≤(g7.length:Int)∧(0≤(0:Int)∧0≤(s3.toNat:Int)∧(0:Int).toNat+(s3.toNat:Int).toNat≤g7.length∧g7.length≤1000000)∧let r6:List Int:=((g7.drop (0:Int).toNat).take (s3.toNat:Int).toNat)
(r6.length=r6.length)∧(r6.length≤1099511627776)∧(r6.length=(srt r6).length)∧(g1=g1)∧(srt r6)=r0∧h5_0=r1.State∧h5_1=r1.Count∧h0_0=d0_0∧h0_1=d0_1∧h0_2=d0_2∧g1=e1∧g2k=e2k∧g2v=e2v∧g3k=e3k∧g3v=e3v∧g4k=e4k∧g4v=e4v)
theorem ky7 {r0:List Int} {r1:TTranscript} {d0_0:Bool} {d0_1:Int} {d0_2:Int} {e1:List TQuestion} {e2k:List ByteArray} {e2v:List Int} {e3k:List ByteArray} {e3v:List (List Int)} {e4k:List ByteArray} {e4v:List Bool} {s2:Int} {s3:Int} {s40:Int} {h6_0:Int} {h6_1:Int} {s41:Int} {h0_0:Bool} {h0_1:Int} {h0_2:Int} {h5_0:Int} {h5_1:Int} {g1:List TQuestion} {g2k:List ByteArray} {g2v:List Int} {g3k:List ByteArray} {g3v:List (List Int)} {g4k:List ByteArray} {g4v:List Bool} {g7:List Int} (inv:Int→Bool→Int→Int→Int→Int→List TQuestion→List ByteArray→List Int→List ByteArray→List (List Int)→List ByteArray→List Bool→List Int→Prop) (μ:Int→Bool→Int→Int→Int→Int→List TQuestion→List ByteArray→List Int→List ByteArray→List (List Int)→List ByteArray→List Bool→List Int→Nat) (h0:inv s41 h0_0 h0_1 h0_2 h5_0 h5_1 g1 g2k g2v g3k g3v g4k g4v g7) (hs:∀(s41:Int) (h0_0:Bool) (h0_1:Int) (h0_2:Int) (h5_0:Int) (h5_1:Int) (g1:List TQuestion) (g2k:List ByteArray) (g2v:List Int) (g3k:List ByteArray) (g3v:List (List Int)) (g4k:List ByteArray) (g4v:List Bool) (g7:List Int),inv s41 h0_0 h0_1 h0_2 h5_0 h5_1 g1 g2k g2v g3k g3v g4k g4v g7→kl6 r0 r1 d0_0 d0_1 d0_2 e1 e2k e2v e3k e3v e4k e4v (fun s41q h0_0q h0_1q h0_2q h5_0q h5_1q g1q g2kq g2vq g3kq g3vq g4kq g4vq g7q=>inv s41q h0_0q h0_1q h0_2q h5_0q h5_1q g1q g2kq g2vq g3kq g3vq g4kq g4vq g7q∧μ s41q h0_0q h0_1q h0_2q h5_0q h5_1q g1q g2kq g2vq g3kq g3vq g4kq g4vq g7q<μ s41 h0_0 h0_1 h0_2 h5_0 h5_1 g1 g2k g2v g3k g3v g4k g4v g7) s2 s3 s40 h6_0 h6_1 s41 h0_0 h0_1 h0_2 h5_0 h5_1 g1 g2k g2v g3k g3v g4k g4v g7):Md.Loop (s2,s3,s40,s41,h0_0,h0_1,h0_2,h5_0,h5_1,h6_0,h6_1,g1,g2k,g2v,g3k,g3v,g4k,g4v,g7,()) (k7y (r0,r1.State,r1.Count,d0_0,d0_1,d0_2,e1,e2k,e2v,e3k,e3v,e4k,e4v,())):=
 ⟨⟨fun s:Int×Int×Int×Int×Bool×Int×Int×Int×Int×Int×Int×(List TQuestion)×(List ByteArray)×(List Int)×(List ByteArray)×(List (List Int))×(List ByteArray)×(List Bool)×(List Int)×Unit=>(s.1=s2∧s.2.1=s3∧s.2.2.1=s40∧s.2.2.2.2.2.2.2.2.2.1=h6_0∧s.2.2.2.2.2.2.2.2.2.2.1=h6_1)∧inv s.2.2.2.1 s.2.2.2.2.1 s.2.2.2.2.2.1 s.2.2.2.2.2.2.1 s.2.2.2.2.2.2.2.1 s.2.2.2.2.2.2.2.2.1 s.2.2.2.2.2.2.2.2.2.2.2.1 s.2.2.2.2.2.2.2.2.2.2.2.2.1 s.2.2.2.2.2.2.2.2.2.2.2.2.2.1 s.2.2.2.2.2.2.2.2.2.2.2.2.2.2.1 s.2.2.2.2.2.2.2.2.2.2.2.2.2.2.2.1 s.2.2.2.2.2.2.2.2.2.2.2.2.2.2.2.2.1 s.2.2.2.2.2.2.2.2.2.2.2.2.2.2.2.2.2.1 s.2.2.2.2.2.2.2.2.2.2.2.2.2.2.2.2.2.2.1,fun s:Int×Int×Int×Int×Bool×Int×Int×Int×Int×Int×Int×(List TQuestion)×(List ByteArray)×(List Int)×(List ByteArray)×(List (List Int))×(List ByteArray)×(List Bool)×(List Int)×Unit=>μ s.2.2.2.1 s.2.2.2.2.1 s.2.2.2.2.2.1 s.2.2.2.2.2.2.1 s.2.2.2.2.2.2.2.1 s.2.2.2.2.2.2.2.2.1 s.2.2.2.2.2.2.2.2.2.2.2.1 s.2.2.2.2.2.2.2.2.2.2.2.2.1 s.2.2.2.2.2.2.2.2.2.2.2.2.2.1 s.2.2.2.2.2.2.2.2.2.2.2.2.2.2.1 s.2.2.2.2.2.2.2.2.2.2.2.2.2.2.2.1 s.2.2.2.2.2.2.2.2.2.2.2.2.2.2.2.2.1 s.2.2.2.2.2.2.2.2.2.2.2.2.2.2.2.2.2.1 s.2.2.2.2.2.2.2.2.2.2.2.2.2.2.2.2.2.2.1,⟨⟨rfl,rfl,rfl,rfl,rfl⟩,h0⟩,fun(s2p,s3p,s40p,s41p,h0_0p,h0_1p,h0_2p,h5_0p,h5_1p,h6_0p,h6_1p,g1p,g2kp,g2vp,g3kp,g3vp,g4kp,g4vp,g7p,()) ⟨⟨eq0,eq1,eq2,eq3,eq4⟩,hi⟩=>by
  have eq0:s2p=s2:=eq0;subst s2p;have eq1:s3p=s3:=eq1;subst s3p;have eq2:s40p=s40:=eq2;subst s40p;have eq3:h6_0p=h6_0:=eq3;subst h6_0p;have eq4:h6_1p=h6_1:=eq4;subst h6_1p;exact mpr_of (by kernel_rfl) ((congrArg (fun k=>kl6 r0 r1 d0_0 d0_1 d0_2 e1 e2k e2v e3k e3v e4k e4v k s2 s3 s40 h6_0 h6_1 s41p h0_0p h0_1p h0_2p h5_0p h5_1p g1p g2kp g2vp g3kp g3vp g4kp g4vp g7p) (lpk14 (⟨rfl,rfl,rfl,rfl,rfl⟩:s2=s2∧s3=s3∧s40=s40∧h6_0=h6_0∧h6_1=h6_1) inv (fun s41q h0_0q h0_1q h0_2q h5_0q h5_1q g1q g2kq g2vq g3kq g3vq g4kq g4vq g7q=>μ s41q h0_0q h0_1q h0_2q h5_0q h5_1q g1q g2kq g2vq g3kq g3vq g4kq g4vq g7q<μ s41p h0_0p h0_1p h0_2p h5_0p h5_1p g1p g2kp g2vp g3kp g3vp g4kp g4vp g7p))).mpr (hs s41p h0_0p h0_1p h0_2p h5_0p h5_1p g1p g2kp g2vp g3kp g3vp g4kp g4vp g7p hi))⟩⟩
theorem bd15:Callable Try.prog 15:=⟨by rw[Try.func15];kernel_rfl,by rw[Try.func15];show some _≠some _;decide⟩
theorem kxo (p1:TTranscript) (p2:Int) (p3:Int) (c0_0:Bool) (c0_1:Int) (c0_2:Int) (w1:List TQuestion) (w2k:List ByteArray) (w2v:List Int) (w3k:List ByteArray) (w3v:List (List Int)) (w4k:List ByteArray) (w4v:List Bool) (h:(U64 p1.State∧U64 p1.Count)∧OOk (OS.mk c0_0 c0_1 c0_2 w1 w2k w2v w3k w3v w4k w4v)∧w1.length≤900000):kbt (p1.State,p1.Count,p2,p3,c0_0,c0_1,c0_2,w1,w2k,w2v,w3k,w3v,w4k,w4v,()) ((((posO (OS.mk c0_0 c0_1 c0_2 w1 w2k w2v w3k w3v w4k w4v) p1 p2 p3).g):List Int),(((posO (OS.mk c0_0 c0_1 c0_2 w1 w2k w2v w3k w3v w4k w4v) p1 p2 p3).t).State:Int),(((posO (OS.mk c0_0 c0_1 c0_2 w1 w2k w2v w3k w3v w4k w4v) p1 p2 p3).t).Count:Int),(((posO (OS.mk c0_0 c0_1 c0_2 w1 w2k w2v w3k w3v w4k w4v) p1 p2 p3).o.a):Bool),(((posO (OS.mk c0_0 c0_1 c0_2 w1 w2k w2v w3k w3v w4k w4v) p1 p2 p3).o.b):Int),(((posO (OS.mk c0_0 c0_1 c0_2 w1 w2k w2v w3k w3v w4k w4v) p1 p2 p3).o.c):Int),(((posO (OS.mk c0_0 c0_1 c0_2 w1 w2k w2v w3k w3v w4k w4v) p1 p2 p3).o.q):List TQuestion),(((posO (OS.mk c0_0 c0_1 c0_2 w1 w2k w2v w3k w3v w4k w4v) p1 p2 p3).o.k):List ByteArray),(((posO (OS.mk c0_0 c0_1 c0_2 w1 w2k w2v w3k w3v w4k w4v) p1 p2 p3).o.v):List Int),(((posO (OS.mk c0_0 c0_1 c0_2 w1 w2k w2v w3k w3v w4k w4v) p1 p2 p3).o.s):List ByteArray),(((posO (OS.mk c0_0 c0_1 c0_2 w1 w2k w2v w3k w3v w4k w4v) p1 p2 p3).o.t):List (List Int)),(((posO (OS.mk c0_0 c0_1 c0_2 w1 w2k w2v w3k w3v w4k w4v) p1 p2 p3).o.x):List ByteArray),(((posO (OS.mk c0_0 c0_1 c0_2 w1 w2k w2v w3k w3v w4k w4v) p1 p2 p3).o.y):List Bool),()):=by
 obtain⟨⟨h1,h2⟩,h3,h4⟩:=h
 generalize hA:posO (OS.mk c0_0 c0_1 c0_2 w1 w2k w2v w3k w3v w4k w4v) p1 p2 p3=A
 have bad:(p3<0∨p2<p3∨1024<p2)→A=⟨OS.mk c0_0 c0_1 c0_2 w1 w2k w2v w3k w3v w4k w4v,p1,[]⟩:=fun hb=>by rw[←hA];exact if_pos hb
 have jb:A=⟨OS.mk c0_0 c0_1 c0_2 w1 w2k w2v w3k w3v w4k w4v,p1,[]⟩→k4w (A.g,A.t.State,A.t.Count,A.o.a,A.o.b,A.o.c,A.o.q,A.o.k,A.o.v,A.o.s,A.o.t,A.o.x,A.o.y,()) (p2,p3,true,c0_0,c0_1,c0_2,p1.State,p1.Count,(0:Int),(0:Int),w1,w2k,w2v,w3k,w3v,w4k,w4v,()):=by
  rintro rfl
  exact kif (r1:=p1) ⟨fun _=>⟨rfl,rfl,rfl,rfl,rfl,rfl,rfl,rfl,rfl,rfl,rfl,rfl,rfl,rfl⟩,fun h=>by cases h⟩
 refine k103 (r1:=A.t) ⟨fun e=>⟨rfl,jb (bad (.inl (of_decide_eq_true e)))⟩,fun e=>⟨fun e2=>⟨rfl,jb (bad (.inr (.inl (of_decide_eq_true e2))))⟩,fun e2=>⟨rfl,?_⟩⟩⟩
 have e:=of_decide_eq_false e
 have e2:=of_decide_eq_false e2
 by_cases e3:1024<p2
 ·rw[decide_eq_true e3]
  exact jb (bad (.inr (.inr e3)))
 rw[decide_eq_false e3]
 have hg:A=⟨(posS p2 p3.toNat 0 ⟨OS.mk c0_0 c0_1 c0_2 w1 w2k w2v w3k w3v w4k w4v,p1,rng p2.toNat⟩).o,(posS p2 p3.toNat 0 ⟨OS.mk c0_0 c0_1 c0_2 w1 w2k w2v w3k w3v w4k w4v,p1,rng p2.toNat⟩).t,srt ((posS p2 p3.toNat 0 ⟨OS.mk c0_0 c0_1 c0_2 w1 w2k w2v w3k w3v w4k w4v,p1,rng p2.toNat⟩).g.take p3.toNat)⟩:=by
  rw[←hA];exact if_neg (by omega)
 clear hA bad jb
 generalize hS:posS p2 p3.toNat 0 ⟨OS.mk c0_0 c0_1 c0_2 w1 w2k w2v w3k w3v w4k w4v,p1,rng p2.toNat⟩=S at hg
 subst hg
 refine kif (r1:=S.t) ⟨(fun h=>by cases h),fun _=>⟨by omega,by omega,by omega,by unfold maxLen;omega,rfl,by simp,?_⟩⟩
 refine kyh (r1:=S.t) (SetI (fun(j:Nat)=>(j:Int)) p2.toNat) (fun i _=>(p2.toNat-i).toNat) (SetI.start (by simp)) ?_
 intro i g hi
 have i0:=hi.1
 have il:=hi.2.2.1
 refine⟨fun hh=> ?_,fun hh=> ?_⟩
 ·have hh:=of_decide_eq_true hh
  exact⟨⟨i0,by omega⟩,⟨i0,by omega⟩,rfl,by rw[List.length_set],hi.next hh (by omega) (by omega)⟩
 have hh:=of_decide_eq_false hh
 have hgr:g=rng p2.toNat:=hi.done hh
 subst hgr
 refine⟨rfl,rfl,?_⟩
 refine ky7 (r1:=S.t) (fun i a b c ts tc q k v s t x y g=>(0≤i∧i≤p3)∧U64 ts∧U64 tc∧(OOk (OS.mk a b c q k v s t x y)∧q.length≤900000+i.toNat)∧(g.length:Int)=p2∧posS p2 (p3-i).toNat i ⟨OS.mk a b c q k v s t x y,⟨ts,tc⟩,g⟩=S)
  (fun i _ _ _ _ _ _ _ _ _ _ _ _ _=>(p3-i).toNat) ⟨⟨by omega,by omega⟩,h1,h2,⟨h3,by omega⟩,by rw[k1hq];omega,by rw[Int.sub_zero];exact hS⟩ ?_
 rintro i a b c ts tc q k v s t x y g ⟨⟨g0,g1⟩,g2,g3,⟨g4,g5⟩,g6,g7⟩
 refine⟨fun hh=> ?_,fun hh=> ?_⟩
 ·have hh:=of_decide_eq_true hh
  refine⟨rfl,⟨⟨g2,g3⟩,g4⟩,?_⟩
  dsimp only
  obtain⟨q1,q2,q3,q4⟩:=g4.ch ⟨ts,tc⟩ 18446744069414584321 (show q.length≤999999 by omega)
  obtain⟨q5,q6,q7⟩:=q4 rfl
  rw[show(p3-i).toNat=(p3-(i+1)).toNat+1 by omega]at g7
  have e5:IntKind.u64.wrap (IntKind.i64.wrap (p2-i))=p2-i:=by rw[wi _ (by omega) (by omega),wu _ (by omega) (by omega)]
  rw[e5]
  generalize hC:chO (OS.mk a b c q k v s t x y) ⟨ts,tc⟩ 18446744069414584321=C at *
  have hj:0≤C.n%(p2-i)∧C.n%(p2-i)<p2-i:=⟨Int.emod_nonneg _ (by omega),Int.emod_lt_of_pos _ (by omega)⟩
  have e6:IntKind.i64.wrap (i+IntKind.i64.wrap (Int.tmod C.n (p2-i)))=i+C.n%(p2-i):=by
   rw[tmod_nn _ _ q5,wi (C.n%(p2-i)) (by omega) (by omega),wi _ (by omega) (by omega)]
  rw[e6,wi (i+1) (by omega) (by omega)]
  have e7:posN p2 i ⟨OS.mk a b c q k v s t x y,⟨ts,tc⟩,g⟩=⟨C.o,C.t,swp g i (i+C.n%(p2-i))⟩:=by unfold posN;simp only[hC]
  have g7:posS p2 (p3-(i+1)).toNat (i+1) (posN p2 i ⟨OS.mk a b c q k v s t x y,⟨ts,tc⟩,g⟩)=S:=g7
  rw[e7]at g7
  refine⟨by omega,⟨by omega,by omega⟩,⟨by omega,by omega⟩,⟨by omega,by omega⟩,⟨by omega,by omega⟩,⟨by omega,by omega⟩,⟨by omega,by omega⟩,⟨by omega,by omega⟩,⟨by omega,by rw[List.length_set];omega⟩,rfl,by rw[List.length_set,List.length_set],⟨⟨by omega,by omega⟩,?_,q7,⟨q1,?_⟩,?_,g7⟩,by omega⟩
  ·rw[q3];exact g2
  ·have q2:C.o.q.length≤q.length+1:=q2
   omega
  ·rw[List.length_set,List.length_set];exact g6
 ·have hh:=of_decide_eq_false hh
  rw[show(p3-i).toNat=0 by omega]at g7
  have g7:(⟨OS.mk a b c q k v s t x y,⟨ts,tc⟩,g⟩:PS)=S:=g7
  subst g7
  refine⟨by omega,by omega,⟨by omega,by omega,by simp;omega,by omega⟩,?_⟩
  dsimp only
  refine⟨rfl,?_,?_⟩
  ·rw[List.length_take];simp;omega
  ·refine⟨by rw[k1gz],rfl,by rw[Int.toNat_natCast,show(0:Int).toNat=0 from rfl,List.drop_zero],rfl,rfl,rfl,rfl,rfl,rfl,rfl,rfl,rfl,rfl,rfl,rfl⟩
noncomputable def kkf:Con TB.den:=k1k.fnR (fun x=>(fun(p1:TTranscript) (p2:Int) (p3:Int) (c0_0:Bool) (c0_1:Int) (c0_2:Int) (w1:List TQuestion) (w2k:List ByteArray) (w2v:List Int) (w3k:List ByteArray) (w3v:List (List Int)) (w4k:List ByteArray) (w4v:List Bool)=>(U64 p1.State∧U64 p1.Count)∧OOk (OS.mk c0_0 c0_1 c0_2 w1 w2k w2v w3k w3v w4k w4v)∧w1.length≤900000) (TTranscript.mk x.1 x.2.1) x.2.2.1 x.2.2.2.1 x.2.2.2.2.1 x.2.2.2.2.2.1 x.2.2.2.2.2.2.1 x.2.2.2.2.2.2.2.1 x.2.2.2.2.2.2.2.2.1 x.2.2.2.2.2.2.2.2.2.1 x.2.2.2.2.2.2.2.2.2.2.1 x.2.2.2.2.2.2.2.2.2.2.2.1 x.2.2.2.2.2.2.2.2.2.2.2.2.1 x.2.2.2.2.2.2.2.2.2.2.2.2.2.1) fun x=>(fun(p1:TTranscript) (p2:Int) (p3:Int) (c0_0:Bool) (c0_1:Int) (c0_2:Int) (w1:List TQuestion) (w2k:List ByteArray) (w2v:List Int) (w3k:List ByteArray) (w3v:List (List Int)) (w4k:List ByteArray) (w4v:List Bool)=>((((posO (OS.mk c0_0 c0_1 c0_2 w1 w2k w2v w3k w3v w4k w4v) p1 p2 p3).g):List Int),(((posO (OS.mk c0_0 c0_1 c0_2 w1 w2k w2v w3k w3v w4k w4v) p1 p2 p3).t).State:Int),(((posO (OS.mk c0_0 c0_1 c0_2 w1 w2k w2v w3k w3v w4k w4v) p1 p2 p3).t).Count:Int),(((posO (OS.mk c0_0 c0_1 c0_2 w1 w2k w2v w3k w3v w4k w4v) p1 p2 p3).o.a):Bool),(((posO (OS.mk c0_0 c0_1 c0_2 w1 w2k w2v w3k w3v w4k w4v) p1 p2 p3).o.b):Int),(((posO (OS.mk c0_0 c0_1 c0_2 w1 w2k w2v w3k w3v w4k w4v) p1 p2 p3).o.c):Int),(((posO (OS.mk c0_0 c0_1 c0_2 w1 w2k w2v w3k w3v w4k w4v) p1 p2 p3).o.q):List TQuestion),(((posO (OS.mk c0_0 c0_1 c0_2 w1 w2k w2v w3k w3v w4k w4v) p1 p2 p3).o.k):List ByteArray),(((posO (OS.mk c0_0 c0_1 c0_2 w1 w2k w2v w3k w3v w4k w4v) p1 p2 p3).o.v):List Int),(((posO (OS.mk c0_0 c0_1 c0_2 w1 w2k w2v w3k w3v w4k w4v) p1 p2 p3).o.s):List ByteArray),(((posO (OS.mk c0_0 c0_1 c0_2 w1 w2k w2v w3k w3v w4k w4v) p1 p2 p3).o.t):List (List Int)),(((posO (OS.mk c0_0 c0_1 c0_2 w1 w2k w2v w3k w3v w4k w4v) p1 p2 p3).o.x):List ByteArray),(((posO (OS.mk c0_0 c0_1 c0_2 w1 w2k w2v w3k w3v w4k w4v) p1 p2 p3).o.y):List Bool),())) (TTranscript.mk x.1 x.2.1) x.2.2.1 x.2.2.2.1 x.2.2.2.2.1 x.2.2.2.2.2.1 x.2.2.2.2.2.2.1 x.2.2.2.2.2.2.2.1 x.2.2.2.2.2.2.2.2.1 x.2.2.2.2.2.2.2.2.2.1 x.2.2.2.2.2.2.2.2.2.2.1 x.2.2.2.2.2.2.2.2.2.2.2.1 x.2.2.2.2.2.2.2.2.2.2.2.2.1 x.2.2.2.2.2.2.2.2.2.2.2.2.2.1
theorem kzx:kkf.Ok Try.prog TB:=Con.ok_fn k1k bd15 fun x h=>ky0 (kxo (TTranscript.mk x.1 x.2.1) x.2.2.1 x.2.2.2.1 x.2.2.2.2.1 x.2.2.2.2.2.1 x.2.2.2.2.2.2.1 x.2.2.2.2.2.2.2.1 x.2.2.2.2.2.2.2.2.1 x.2.2.2.2.2.2.2.2.2.1 x.2.2.2.2.2.2.2.2.2.2.1 x.2.2.2.2.2.2.2.2.2.2.2.1 x.2.2.2.2.2.2.2.2.2.2.2.2.1 x.2.2.2.2.2.2.2.2.2.2.2.2.2.1 h)
def k1y:Con TB.den:=Con.mk0 3 [.one (.d (.int .u64)),.agg [.d (.sl (.sl (.int .u64))),.d (.sl (.int .u64))],.agg [.d (.sl (.sl (.int .u64))),.d (.sl (.int .u64))]] [] (.one (.one (.d (.bool)))) []
abbrev kn1:=HL TB.den (hsT k1y.ins (hsOs k1y.pre))
abbrev ku:=HL TB.den (hsV k1y.res (hsOs k1y.post))
noncomputable def k1l:Cx TB:=⟨inf,[k13d,k12u,kx6,kmk,kkk,ktn,k135,k10p,kmq,kov,k9n,kkf,kmg],[],4,[]⟩
noncomputable def k2o:Code:=Try.f3.body.getD .skip
noncomputable def k6l:List ResultVar:=Try.f3.results.toList
def kzo (o:ku):=qS TB k1l 179 0 (cB (cB (cB (cB (cB (cB (cB (cB (cB (cB (cB (cB (cB k2o))))))))))))) .no (retTQ TB k1l k1y k6l o)
def k4x:Tm:=⟨[2,7,3,4,5,6,8,9,10,11],[.cells [.d (.bool),.d (.int .u64),.d (.int .i64),.own 2,.mp 3,.mp 4,.mp 5],.cells [.d (.bool),.d (.int .u64),.d (.int .i64),.own 6,.mp 7,.mp 8,.mp 9],.tip (.st 1),.map (.str) (.int .i64),.map (.str) (.sl (.int .u64)),.map (.str) (.bool),.tip (.st 1),.map (.str) (.int .i64),.map (.str) (.sl (.int .u64)),.map (.str) (.bool)],[7,8,18,20,160,161],[.one (.ptr 0 0),.one (.ptr 1 0),.one (.d (.sl (.int .i64))),.one (.d (.sl (.int .i64))),.one (.d (.int .i64)),.one (.d (.int .i64))],180⟩
def k10d (o:ku) (nx2:NX TB k4x):=qM TB 0 k4x nx2 (blockT TB 2 (kzo o))
def k7v (o:ku) (nx2:NX TB k4x) (i:HL TB.den k4x.hs):Prop:=WP TB k1l 179 0 (cA (cA (cB (cA (cB (cB (cB (cB (cB (cB (cB (cB (cB (cB (cB (cB k2o)))))))))))))))) .no (k4x.fill TB i) (k10d o nx2)
noncomputable def kzv (o:ku):An TB:= .lp [] k4x (k7v o) fun nx2=> .no
noncomputable def k101 (o:ku):An TB:= .nd [] .no [] (.nd [] (.nd [] .no [] (kzv o)) [] .no)
noncomputable def kl0 (o:ku):An TB:= .nd [] .no [] (.nd [] .no [] (.nd [] .no [] (k101 o)))
def k102 (o:ku):=qS TB k1l 179 0 (cB (cB (cB (cB (cB (cB (cB k2o))))))) (.nd [] .no [] (kl0 o)) (retTQ TB k1l k1y k6l o)
def k51:Tm:=⟨[2,7,12,13,3,4,5,6,8,9,10,11],[.cells [.d (.bool),.d (.int .u64),.d (.int .i64),.own 4,.mp 5,.mp 6,.mp 7],.cells [.d (.bool),.d (.int .u64),.d (.int .i64),.own 8,.mp 9,.mp 10,.mp 11],.cells [.d (.sl (.sl (.int .u64)))],.cells [.d (.sl (.sl (.int .u64)))],.tip (.st 1),.map (.str) (.int .i64),.map (.str) (.sl (.int .u64)),.map (.str) (.bool),.tip (.st 1),.map (.str) (.int .i64),.map (.str) (.sl (.int .u64)),.map (.str) (.bool)],[7,8,9,11,94,95],[.one (.ptr 0 0),.one (.ptr 1 0),.one (.ptr 2 0),.one (.ptr 3 0),.one (.d (.int .i64)),.one (.d (.int .i64))],66⟩
def ky6 (o:ku) (nx1:NX TB k51):=qM TB 0 k51 nx1 (blockT TB 0 (k102 o))
def k7w (o:ku) (nx1:NX TB k51) (i:HL TB.den k51.hs):Prop:=WP TB k1l 179 0 (cA (cA (cB (cA (cB (cB (cB (cB (cB (cB k2o)))))))))) .no (k51.fill TB i) (ky6 o nx1)
noncomputable def kxs (o:ku):An TB:= .lp [] k51 (k7w o) fun nx1=> .no
noncomputable def kym (o:ku):An TB:= .nd [] (.nd [] .no [] (kxs o)) [] (.nd [] .no [] (kl0 o))
noncomputable def kk5 (o:ku):An TB:= .nd [] .no [] (.nd [] .no [] (.nd [] .no [] (kym o)))
def kyg (o:ku):=qS TB k1l 179 0 (cB (cB k2o)) (.nd [] .no [] (kk5 o)) (retTQ TB k1l k1y k6l o)
def k9r:Tm:=⟨[0,1],[.cells [.d (.sl (.sl (.int .u64))),.d (.sl (.int .u64))],.cells [.d (.sl (.sl (.int .u64))),.d (.sl (.int .u64))]],[0,4,5,55],[.one (.d (.int .u64)),.one (.ptr 0 0),.one (.ptr 1 0),.one (.d (.bool))],2⟩
def kkc (o:ku) (i:HL TB.den k9r.hs):Prop:=ghs TB [] (k9r.fill TB i) fun s=>WP TB k1l 179 0 (cB (cA (cB k2o))) .no s (kyg o)
structure k2j (o:ku) (i:HL TB.den k9r.hs):Prop where
 h:kkc o i
noncomputable def ky1 (o:ku):An TB:= .jn k9r (k2j o) [] .no [] .no
noncomputable def kxx (o:ku):An TB:= .nd [] (ky1 o) [] (.nd [] .no [] (kk5 o))
noncomputable def klf (o:ku):An TB:= .nd [] .no [] (kxx o)
def kcd (x:kn1) (o:ku):Prop:=WPh TB k1l 179 0 k2o (klf o) (k1y.st TB x) (retTQ TB k1l k1y k6l o)
theorem ky8 (o:ku):OblH TB k1l 179 0 k2o (klf o) (retTQ TB k1l k1y k6l o):=
 OblH.ofC (X:=((∀i,(k2j o) i=kkc o i)∧(∀nx i,(k7w o) nx i=(k7w o) nx i)∧(∀nx1:NX TB k51,True)∧(∀nx i,(k7v o) nx i=(k7v o) nx i)∧(∀nx2:NX TB k4x,True)∧True)) (by kernel_rfl) ⟨fun _=>propext ⟨fun h=>h.1,fun h=>⟨h⟩⟩,fun _ _=>rfl,fun _=>trivial,fun _ _=>rfl,fun _=>trivial,trivial⟩
theorem kyb {x:kn1} {o:ku} (h:kcd x o):k1y.Snd Try.prog x o:=
 Con.soundH (c:=k1y) (C:=k1l) TBok ⟨inf_ok,(all_cons k1jp (all_cons k1j7 (all_cons k1ct (all_cons kyo (all_cons kxd (all_cons k14r (all_cons k1ju (all_cons k1e7 (all_cons kz9 (all_cons k13s (all_cons kdt (all_cons kzx (all_cons kz8 all_nil))))))))))))),all_nil⟩ mix Try.func3 (show Try.f3.body=some k2o by kernel_rfl) (show Try.f3.ntmps=179 by kernel_rfl) (show Try.f3.results.toList=k6l by kernel_rfl) rfl h (ky8 o)
theorem kzy {p0:Int} {p1:TList13} {p2:TList13} {r0:Bool} (h:
(((!true)=true→
k2j (r0,()) (p0,true,p1.Leaves,p1.Salts,p2.Leaves,p2.Salts,()))∧
((!true)=false→
(p1.Leaves.length≤9223372036854775807∧(p1.Salts.length≤9223372036854775807∧∀l∈p1.Leaves,l.length≤9223372036854775807))∧((!(rightB p1))=true→
k2j (r0,()) (p0,true,p1.Leaves,p1.Salts,p2.Leaves,p2.Salts,()))∧
((!(rightB p1))=false→
(p2.Leaves.length≤9223372036854775807∧(p2.Salts.length≤9223372036854775807∧∀l∈p2.Leaves,l.length≤9223372036854775807))∧((!(rightB p2))=true→
k2j (r0,()) (p0,true,p1.Leaves,p1.Salts,p2.Leaves,p2.Salts,()))∧
((!(rightB p2))=false→
let v1:Bool:=((p1.Leaves.length:Int) !=(p2.Leaves.length:Int))
(v1=true→
k2j (r0,()) (p0,true,p1.Leaves,p1.Salts,p2.Leaves,p2.Salts,()))∧
(v1=false→
(p1.Salts.length≤9223372036854775807)∧((!(decide (p1.Salts.Nodup)))=true→
k2j (r0,()) (p0,true,p1.Leaves,p1.Salts,p2.Leaves,p2.Salts,()))∧
((!(decide (p1.Salts.Nodup)))=false→
(p2.Salts.length≤9223372036854775807)∧k2j (r0,()) (p0,((!(decide (p2.Salts.Nodup))):Bool),p1.Leaves,p1.Salts,p2.Leaves,p2.Salts,())))))))):kcd (p0,p1.Leaves,p1.Salts,p2.Leaves,p2.Salts,()) (r0,()):=WPh.of_eq (by kernel_rfl) h
theorem kw5 {r0:Bool} {s0:Int} {s55:Bool} {h0_0:List (List Int)} {h0_1:List Int} {h1_0:List (List Int)} {h1_1:List Int} (h:
((s55=true→
true=r0)∧
(s55=false→
(([]:List TQuestion)=([]:List TQuestion))∧(((h0_0.length≤1000000∧∀l∈h0_0,Us l∧l.length≤99999999)∧Us h0_1∧h0_1.length≤1000000)∧OOk (OS.mk true s0 (0:Int) ([]:List TQuestion) [] [] [] [] [] [])∧([]:List TQuestion).length≤800000)∧let r2:List (List Int):=((comO (OS.mk true s0 (0:Int) ([]:List TQuestion) [] [] [] [] [] []) h0_0 h0_1).t).Levels
let r3:=comO (OS.mk true s0 (0:Int) ([]:List TQuestion) [] [] [] [] [] []) h0_0 h0_1
(([]:List TQuestion)=([]:List TQuestion))∧(((h1_0.length≤1000000∧∀l∈h1_0,Us l∧l.length≤99999999)∧Us h1_1∧h1_1.length≤1000000)∧OOk (OS.mk true s0 (0:Int) ([]:List TQuestion) [] [] [] [] [] [])∧([]:List TQuestion).length≤800000)∧let r4:List (List Int):=((comO (OS.mk true s0 (0:Int) ([]:List TQuestion) [] [] [] [] [] []) h1_0 h1_1).t).Levels
let r5:=comO (OS.mk true s0 (0:Int) ([]:List TQuestion) [] [] [] [] [] []) h1_0 h1_1
((r3.e !=0)=true→
false=r0)∧
((r3.e !=0)=false→
((r5.e !=0)=true→
false=r0)∧
((r5.e !=0)=false→
((TTree.mk r2).Levels.length≤1000000∧∀l∈(TTree.mk r2).Levels,l.length≤1000000000)∧((TTree.mk r4).Levels.length≤1000000∧∀l∈(TTree.mk r4).Levels,l.length≤1000000000)∧let v6:Bool:=((rootT (TTree.mk r2)) !=(rootT (TTree.mk r4)))
(v6=true→
false=r0)∧
(v6=false→
(r5.o.q=r5.o.q)∧(r3.o.q=r3.o.q)∧Md.Loop (((h0_0.length:Int):Int),(0:Int),r3.o.a,r3.o.b,r3.o.c,r5.o.a,r5.o.b,r5.o.c,r2,r4,r3.o.q,r3.o.k,r3.o.v,r3.o.s,r3.o.t,r3.o.x,r3.o.y,r5.o.q,r5.o.k,r5.o.v,r5.o.s,r5.o.t,r5.o.x,r5.o.y,()) (k7w (r0,())))))))):k2j (r0,()) (s0,s55,h0_0,h0_1,h1_0,h1_1,()):=⟨mpr_of (by kernel_rfl) h⟩
def klm (r0:Bool) (k1:Int→Prop) (s94:Int) (h2_0:Bool) (h2_1:Int) (h2_2:Int) (h7_0:Bool) (h7_1:Int) (h7_2:Int) (h12_0:List (List Int)) (h13_0:List (List Int)) (g3:List TQuestion) (g4k:List ByteArray) (g4v:List Int) (g5k:List ByteArray) (g5v:List (List Int)) (g6k:List ByteArray) (g6v:List Bool) (g8:List TQuestion) (g9k:List ByteArray) (g9v:List Int) (g10k:List ByteArray) (g10v:List (List Int)) (g11k:List ByteArray) (g11v:List Bool) (s95:Int):Prop:=
(decide (s95<s94)=true→
(((TTree.mk h12_0).Levels.length≤1000000∧∀l∈(TTree.mk h12_0).Levels,l.length≤1000000000)∧s95<9223372036854775807∧-9223372036854775808≤s95)∧(((TTree.mk h13_0).Levels.length≤1000000∧∀l∈(TTree.mk h13_0).Levels,l.length≤1000000000)∧s95<9223372036854775807∧-9223372036854775808≤s95)∧((pathT (TTree.mk h12_0) s95).length≤9223372036854775807)∧let r7:Bool:=(decide ((pathT (TTree.mk h12_0) s95)=(pathT (TTree.mk h13_0) s95)))
((!r7)=true→
false=r0)∧
((!r7)=false→
(g8=g8)∧(g3=g3)∧k1 (IntKind.i64.wrap (s95+1):Int)))∧
(decide (s95<s94)=false→
((TTree.mk h12_0).Levels.length≤1000000∧∀l∈(TTree.mk h12_0).Levels,l.length≤1000000000)∧(g3=g3)∧(U64 (TTranscript.mk (1:Int) 0).State∧U64 (2:Int)∧(Us [(rootT (TTree.mk h12_0))]∧[(rootT (TTree.mk h12_0))].length≤999999990)∧OOk (OS.mk h2_0 h2_1 h2_2 g3 g4k g4v g5k g5v g6k g6v))∧let r8:=(abO (OS.mk h2_0 h2_1 h2_2 g3 g4k g4v g5k g5v g6k g6v) (TTranscript.mk (1:Int) 0) (2:Int) [(rootT (TTree.mk h12_0))]).t
let r9:=abO (OS.mk h2_0 h2_1 h2_2 g3 g4k g4v g5k g5v g6k g6v) (TTranscript.mk (1:Int) 0) (2:Int) [(rootT (TTree.mk h12_0))]
(r9.o.q=r9.o.q)∧((U64 r8.State∧U64 r8.Count)∧OOk (OS.mk r9.o.a r9.o.b r9.o.c r9.o.q r9.o.k r9.o.v r9.o.s r9.o.t r9.o.x r9.o.y))∧let r10:=chO (OS.mk r9.o.a r9.o.b r9.o.c r9.o.q r9.o.k r9.o.v r9.o.s r9.o.t r9.o.x r9.o.y) r8 (97:Int)
let r11:=(chO (OS.mk r9.o.a r9.o.b r9.o.c r9.o.q r9.o.k r9.o.v r9.o.s r9.o.t r9.o.x r9.o.y) r8 (97:Int)).t
((TTree.mk h13_0).Levels.length≤1000000∧∀l∈(TTree.mk h13_0).Levels,l.length≤1000000000)∧(g8=g8)∧(U64 (TTranscript.mk (1:Int) 0).State∧U64 (2:Int)∧(Us [(rootT (TTree.mk h13_0))]∧[(rootT (TTree.mk h13_0))].length≤999999990)∧OOk (OS.mk h7_0 h7_1 h7_2 g8 g9k g9v g10k g10v g11k g11v))∧let r12:=(abO (OS.mk h7_0 h7_1 h7_2 g8 g9k g9v g10k g10v g11k g11v) (TTranscript.mk (1:Int) 0) (2:Int) [(rootT (TTree.mk h13_0))]).t
let r13:=abO (OS.mk h7_0 h7_1 h7_2 g8 g9k g9v g10k g10v g11k g11v) (TTranscript.mk (1:Int) 0) (2:Int) [(rootT (TTree.mk h13_0))]
(r13.o.q=r13.o.q)∧((U64 r12.State∧U64 r12.Count)∧OOk (OS.mk r13.o.a r13.o.b r13.o.c r13.o.q r13.o.k r13.o.v r13.o.s r13.o.t r13.o.x r13.o.y))∧let r14:=chO (OS.mk r13.o.a r13.o.b r13.o.c r13.o.q r13.o.k r13.o.v r13.o.s r13.o.t r13.o.x r13.o.y) r12 (97:Int)
let r15:=(chO (OS.mk r13.o.a r13.o.b r13.o.c r13.o.q r13.o.k r13.o.v r13.o.s r13.o.t r13.o.x r13.o.y) r12 (97:Int)).t
(r10.o.q=r10.o.q)∧((U64 r11.State∧U64 r11.Count)∧OOk (OS.mk r10.o.a r10.o.b r10.o.c r10.o.q r10.o.k r10.o.v r10.o.s r10.o.t r10.o.x r10.o.y)∧r10.o.q.length≤900000)∧let r16:=posO (OS.mk r10.o.a r10.o.b r10.o.c r10.o.q r10.o.k r10.o.v r10.o.s r10.o.t r10.o.x r10.o.y) r11 (16:Int) (8:Int)
let r17:=(posO (OS.mk r10.o.a r10.o.b r10.o.c r10.o.q r10.o.k r10.o.v r10.o.s r10.o.t r10.o.x r10.o.y) r11 (16:Int) (8:Int)).t
(r14.o.q=r14.o.q)∧((U64 r15.State∧U64 r15.Count)∧OOk (OS.mk r14.o.a r14.o.b r14.o.c r14.o.q r14.o.k r14.o.v r14.o.s r14.o.t r14.o.x r14.o.y)∧r14.o.q.length≤900000)∧let r18:=posO (OS.mk r14.o.a r14.o.b r14.o.c r14.o.q r14.o.k r14.o.v r14.o.s r14.o.t r14.o.x r14.o.y) r15 (16:Int) (8:Int)
let r19:=(posO (OS.mk r14.o.a r14.o.b r14.o.c r14.o.q r14.o.k r14.o.v r14.o.s r14.o.t r14.o.x r14.o.y) r15 (16:Int) (8:Int)).t
((r10.n !=r14.n)=true→
false=r0)∧
((r10.n !=r14.n)=false→
let v20:Bool:=(!((r11.State==r15.State)&&((r11.Count==r15.Count)&&true)))
(v20=true→
false=r0)∧
(v20=false→
(((r16.g.length:Int) !=8)=true→
false=r0)∧
(((r16.g.length:Int) !=8)=false→
(((r18.g.length:Int) !=8)=true→
false=r0)∧
(((r18.g.length:Int) !=8)=false→
(r18.o.q=r18.o.q)∧(r16.o.q=r16.o.q)∧Md.Loop (r16.g,r18.g,((r16.g.length:Int):Int),(0:Int),r16.o.a,r16.o.b,r16.o.c,r18.o.a,r18.o.b,r18.o.c,r16.o.q,r16.o.k,r16.o.v,r16.o.s,r16.o.t,r16.o.x,r16.o.y,r18.o.q,r18.o.k,r18.o.v,r18.o.s,r18.o.t,r18.o.x,r18.o.y,()) (k7v (r0,())))))))
theorem kyl {r0:Bool} {s94:Int} {h2_0:Bool} {h2_1:Int} {h2_2:Int} {h7_0:Bool} {h7_1:Int} {h7_2:Int} {h12_0:List (List Int)} {h13_0:List (List Int)} {g3:List TQuestion} {g4k:List ByteArray} {g4v:List Int} {g5k:List ByteArray} {g5v:List (List Int)} {g6k:List ByteArray} {g6v:List Bool} {g8:List TQuestion} {g9k:List ByteArray} {g9v:List Int} {g10k:List ByteArray} {g10v:List (List Int)} {g11k:List ByteArray} {g11v:List Bool} {s95:Int} (inv:Int→Prop) (μ:Int→Nat) (h0:inv s95) (hs:∀(s95:Int),inv s95→klm r0 (fun s95q=>inv s95q∧μ s95q<μ s95) s94 h2_0 h2_1 h2_2 h7_0 h7_1 h7_2 h12_0 h13_0 g3 g4k g4v g5k g5v g6k g6v g8 g9k g9v g10k g10v g11k g11v s95):Md.Loop (s94,s95,h2_0,h2_1,h2_2,h7_0,h7_1,h7_2,h12_0,h13_0,g3,g4k,g4v,g5k,g5v,g6k,g6v,g8,g9k,g9v,g10k,g10v,g11k,g11v,()) (k7w (r0,())):=
 ⟨⟨fun s:Int×Int×Bool×Int×Int×Bool×Int×Int×(List (List Int))×(List (List Int))×(List TQuestion)×(List ByteArray)×(List Int)×(List ByteArray)×(List (List Int))×(List ByteArray)×(List Bool)×(List TQuestion)×(List ByteArray)×(List Int)×(List ByteArray)×(List (List Int))×(List ByteArray)×(List Bool)×Unit=>(s.1=s94∧s.2.2.1=h2_0∧s.2.2.2.1=h2_1∧s.2.2.2.2.1=h2_2∧s.2.2.2.2.2.1=h7_0∧s.2.2.2.2.2.2.1=h7_1∧s.2.2.2.2.2.2.2.1=h7_2∧s.2.2.2.2.2.2.2.2.1=h12_0∧s.2.2.2.2.2.2.2.2.2.1=h13_0∧s.2.2.2.2.2.2.2.2.2.2.1=g3∧s.2.2.2.2.2.2.2.2.2.2.2.1=g4k∧s.2.2.2.2.2.2.2.2.2.2.2.2.1=g4v∧s.2.2.2.2.2.2.2.2.2.2.2.2.2.1=g5k∧s.2.2.2.2.2.2.2.2.2.2.2.2.2.2.1=g5v∧s.2.2.2.2.2.2.2.2.2.2.2.2.2.2.2.1=g6k∧s.2.2.2.2.2.2.2.2.2.2.2.2.2.2.2.2.1=g6v∧s.2.2.2.2.2.2.2.2.2.2.2.2.2.2.2.2.2.1=g8∧s.2.2.2.2.2.2.2.2.2.2.2.2.2.2.2.2.2.2.1=g9k∧s.2.2.2.2.2.2.2.2.2.2.2.2.2.2.2.2.2.2.2.1=g9v∧s.2.2.2.2.2.2.2.2.2.2.2.2.2.2.2.2.2.2.2.2.1=g10k∧s.2.2.2.2.2.2.2.2.2.2.2.2.2.2.2.2.2.2.2.2.2.1=g10v∧s.2.2.2.2.2.2.2.2.2.2.2.2.2.2.2.2.2.2.2.2.2.2.1=g11k∧s.2.2.2.2.2.2.2.2.2.2.2.2.2.2.2.2.2.2.2.2.2.2.2.1=g11v)∧inv s.2.1,fun s:Int×Int×Bool×Int×Int×Bool×Int×Int×(List (List Int))×(List (List Int))×(List TQuestion)×(List ByteArray)×(List Int)×(List ByteArray)×(List (List Int))×(List ByteArray)×(List Bool)×(List TQuestion)×(List ByteArray)×(List Int)×(List ByteArray)×(List (List Int))×(List ByteArray)×(List Bool)×Unit=>μ s.2.1,⟨⟨rfl,rfl,rfl,rfl,rfl,rfl,rfl,rfl,rfl,rfl,rfl,rfl,rfl,rfl,rfl,rfl,rfl,rfl,rfl,rfl,rfl,rfl,rfl⟩,h0⟩,fun(s94p,s95p,h2_0p,h2_1p,h2_2p,h7_0p,h7_1p,h7_2p,h12_0p,h13_0p,g3p,g4kp,g4vp,g5kp,g5vp,g6kp,g6vp,g8p,g9kp,g9vp,g10kp,g10vp,g11kp,g11vp,()) ⟨⟨eq0,eq1,eq2,eq3,eq4,eq5,eq6,eq7,eq8,eq9,eq10,eq11,eq12,eq13,eq14,eq15,eq16,eq17,eq18,eq19,eq20,eq21,eq22⟩,hi⟩=>by
  have eq0:s94p=s94:=eq0;subst s94p;have eq1:h2_0p=h2_0:=eq1;subst h2_0p;have eq2:h2_1p=h2_1:=eq2;subst h2_1p;have eq3:h2_2p=h2_2:=eq3;subst h2_2p;have eq4:h7_0p=h7_0:=eq4;subst h7_0p;have eq5:h7_1p=h7_1:=eq5;subst h7_1p;have eq6:h7_2p=h7_2:=eq6;subst h7_2p;have eq7:h12_0p=h12_0:=eq7;subst h12_0p;have eq8:h13_0p=h13_0:=eq8;subst h13_0p;have eq9:g3p=g3:=eq9;subst g3p;have eq10:g4kp=g4k:=eq10;subst g4kp;have eq11:g4vp=g4v:=eq11;subst g4vp;have eq12:g5kp=g5k:=eq12;subst g5kp;have eq13:g5vp=g5v:=eq13;subst g5vp;have eq14:g6kp=g6k:=eq14;subst g6kp;have eq15:g6vp=g6v:=eq15;subst g6vp;have eq16:g8p=g8:=eq16;subst g8p;have eq17:g9kp=g9k:=eq17;subst g9kp;have eq18:g9vp=g9v:=eq18;subst g9vp;have eq19:g10kp=g10k:=eq19;subst g10kp;have eq20:g10vp=g10v:=eq20;subst g10vp;have eq21:g11kp=g11k:=eq21;subst g11kp;have eq22:g11vp=g11v:=eq22;subst g11vp;exact mpr_of (by kernel_rfl) ((congrArg (fun k=>klm r0 k s94 h2_0 h2_1 h2_2 h7_0 h7_1 h7_2 h12_0 h13_0 g3 g4k g4v g5k g5v g6k g6v g8 g9k g9v g10k g10v g11k g11v s95p) (lpk1 (⟨rfl,rfl,rfl,rfl,rfl,rfl,rfl,rfl,rfl,rfl,rfl,rfl,rfl,rfl,rfl,rfl,rfl,rfl,rfl,rfl,rfl,rfl,rfl⟩:s94=s94∧h2_0=h2_0∧h2_1=h2_1∧h2_2=h2_2∧h7_0=h7_0∧h7_1=h7_1∧h7_2=h7_2∧h12_0=h12_0∧h13_0=h13_0∧g3=g3∧g4k=g4k∧g4v=g4v∧g5k=g5k∧g5v=g5v∧g6k=g6k∧g6v=g6v∧g8=g8∧g9k=g9k∧g9v=g9v∧g10k=g10k∧g10v=g10v∧g11k=g11k∧g11v=g11v) inv (fun s95q=>μ s95q<μ s95p))).mpr (hs s95p hi))⟩⟩
def kl3 (r0:Bool) (k2:Int→Prop) (s18:List Int) (s20:List Int) (s160:Int) (h2_0:Bool) (h2_1:Int) (h2_2:Int) (h7_0:Bool) (h7_1:Int) (h7_2:Int) (g3:List TQuestion) (g4k:List ByteArray) (g4v:List Int) (g5k:List ByteArray) (g5v:List (List Int)) (g6k:List ByteArray) (g6v:List Bool) (g8:List TQuestion) (g9k:List ByteArray) (g9v:List Int) (g10k:List ByteArray) (g10v:List (List Int)) (g11k:List ByteArray) (g11v:List Bool) (s161:Int):Prop:=
(decide (s161<s160)=true→
(0≤s161)∧s161<(s18.length:Int)∧(0≤s161)∧s161<(s20.length:Int)∧(((ix s18 s161) !=(ix s20 s161))=true→
false=r0)∧
(((ix s18 s161) !=(ix s20 s161))=false→
(g8=g8)∧(g3=g3)∧k2 (IntKind.i64.wrap (s161+1):Int)))∧
(decide (s161<s160)=false→
(g3=g3)∧(g8=g8)∧(h2_2==h7_2)=r0)
theorem kyj {r0:Bool} {s18:List Int} {s20:List Int} {s160:Int} {h2_0:Bool} {h2_1:Int} {h2_2:Int} {h7_0:Bool} {h7_1:Int} {h7_2:Int} {g3:List TQuestion} {g4k:List ByteArray} {g4v:List Int} {g5k:List ByteArray} {g5v:List (List Int)} {g6k:List ByteArray} {g6v:List Bool} {g8:List TQuestion} {g9k:List ByteArray} {g9v:List Int} {g10k:List ByteArray} {g10v:List (List Int)} {g11k:List ByteArray} {g11v:List Bool} {s161:Int} (inv:Int→Prop) (μ:Int→Nat) (h0:inv s161) (hs:∀(s161:Int),inv s161→kl3 r0 (fun s161q=>inv s161q∧μ s161q<μ s161) s18 s20 s160 h2_0 h2_1 h2_2 h7_0 h7_1 h7_2 g3 g4k g4v g5k g5v g6k g6v g8 g9k g9v g10k g10v g11k g11v s161):Md.Loop (s18,s20,s160,s161,h2_0,h2_1,h2_2,h7_0,h7_1,h7_2,g3,g4k,g4v,g5k,g5v,g6k,g6v,g8,g9k,g9v,g10k,g10v,g11k,g11v,()) (k7v (r0,())):=
 ⟨⟨fun s:(List Int)×(List Int)×Int×Int×Bool×Int×Int×Bool×Int×Int×(List TQuestion)×(List ByteArray)×(List Int)×(List ByteArray)×(List (List Int))×(List ByteArray)×(List Bool)×(List TQuestion)×(List ByteArray)×(List Int)×(List ByteArray)×(List (List Int))×(List ByteArray)×(List Bool)×Unit=>(s.1=s18∧s.2.1=s20∧s.2.2.1=s160∧s.2.2.2.2.1=h2_0∧s.2.2.2.2.2.1=h2_1∧s.2.2.2.2.2.2.1=h2_2∧s.2.2.2.2.2.2.2.1=h7_0∧s.2.2.2.2.2.2.2.2.1=h7_1∧s.2.2.2.2.2.2.2.2.2.1=h7_2∧s.2.2.2.2.2.2.2.2.2.2.1=g3∧s.2.2.2.2.2.2.2.2.2.2.2.1=g4k∧s.2.2.2.2.2.2.2.2.2.2.2.2.1=g4v∧s.2.2.2.2.2.2.2.2.2.2.2.2.2.1=g5k∧s.2.2.2.2.2.2.2.2.2.2.2.2.2.2.1=g5v∧s.2.2.2.2.2.2.2.2.2.2.2.2.2.2.2.1=g6k∧s.2.2.2.2.2.2.2.2.2.2.2.2.2.2.2.2.1=g6v∧s.2.2.2.2.2.2.2.2.2.2.2.2.2.2.2.2.2.1=g8∧s.2.2.2.2.2.2.2.2.2.2.2.2.2.2.2.2.2.2.1=g9k∧s.2.2.2.2.2.2.2.2.2.2.2.2.2.2.2.2.2.2.2.1=g9v∧s.2.2.2.2.2.2.2.2.2.2.2.2.2.2.2.2.2.2.2.2.1=g10k∧s.2.2.2.2.2.2.2.2.2.2.2.2.2.2.2.2.2.2.2.2.2.1=g10v∧s.2.2.2.2.2.2.2.2.2.2.2.2.2.2.2.2.2.2.2.2.2.2.1=g11k∧s.2.2.2.2.2.2.2.2.2.2.2.2.2.2.2.2.2.2.2.2.2.2.2.1=g11v)∧inv s.2.2.2.1,fun s:(List Int)×(List Int)×Int×Int×Bool×Int×Int×Bool×Int×Int×(List TQuestion)×(List ByteArray)×(List Int)×(List ByteArray)×(List (List Int))×(List ByteArray)×(List Bool)×(List TQuestion)×(List ByteArray)×(List Int)×(List ByteArray)×(List (List Int))×(List ByteArray)×(List Bool)×Unit=>μ s.2.2.2.1,⟨⟨rfl,rfl,rfl,rfl,rfl,rfl,rfl,rfl,rfl,rfl,rfl,rfl,rfl,rfl,rfl,rfl,rfl,rfl,rfl,rfl,rfl,rfl,rfl⟩,h0⟩,fun(s18p,s20p,s160p,s161p,h2_0p,h2_1p,h2_2p,h7_0p,h7_1p,h7_2p,g3p,g4kp,g4vp,g5kp,g5vp,g6kp,g6vp,g8p,g9kp,g9vp,g10kp,g10vp,g11kp,g11vp,()) ⟨⟨eq0,eq1,eq2,eq3,eq4,eq5,eq6,eq7,eq8,eq9,eq10,eq11,eq12,eq13,eq14,eq15,eq16,eq17,eq18,eq19,eq20,eq21,eq22⟩,hi⟩=>by
  have eq0:s18p=s18:=eq0;subst s18p;have eq1:s20p=s20:=eq1;subst s20p;have eq2:s160p=s160:=eq2;subst s160p;have eq3:h2_0p=h2_0:=eq3;subst h2_0p;have eq4:h2_1p=h2_1:=eq4;subst h2_1p;have eq5:h2_2p=h2_2:=eq5;subst h2_2p;have eq6:h7_0p=h7_0:=eq6;subst h7_0p;have eq7:h7_1p=h7_1:=eq7;subst h7_1p;have eq8:h7_2p=h7_2:=eq8;subst h7_2p;have eq9:g3p=g3:=eq9;subst g3p;have eq10:g4kp=g4k:=eq10;subst g4kp;have eq11:g4vp=g4v:=eq11;subst g4vp;have eq12:g5kp=g5k:=eq12;subst g5kp;have eq13:g5vp=g5v:=eq13;subst g5vp;have eq14:g6kp=g6k:=eq14;subst g6kp;have eq15:g6vp=g6v:=eq15;subst g6vp;have eq16:g8p=g8:=eq16;subst g8p;have eq17:g9kp=g9k:=eq17;subst g9kp;have eq18:g9vp=g9v:=eq18;subst g9vp;have eq19:g10kp=g10k:=eq19;subst g10kp;have eq20:g10vp=g10v:=eq20;subst g10vp;have eq21:g11kp=g11k:=eq21;subst g11kp;have eq22:g11vp=g11v:=eq22;subst g11vp;exact mpr_of (by kernel_rfl) ((congrArg (fun k=>kl3 r0 k s18 s20 s160 h2_0 h2_1 h2_2 h7_0 h7_1 h7_2 g3 g4k g4v g5k g5v g6k g6v g8 g9k g9v g10k g10v g11k g11v s161p) (lpk1 (⟨rfl,rfl,rfl,rfl,rfl,rfl,rfl,rfl,rfl,rfl,rfl,rfl,rfl,rfl,rfl,rfl,rfl,rfl,rfl,rfl,rfl,rfl,rfl⟩:s18=s18∧s20=s20∧s160=s160∧h2_0=h2_0∧h2_1=h2_1∧h2_2=h2_2∧h7_0=h7_0∧h7_1=h7_1∧h7_2=h7_2∧g3=g3∧g4k=g4k∧g4v=g4v∧g5k=g5k∧g5v=g5v∧g6k=g6k∧g6v=g6v∧g8=g8∧g9k=g9k∧g9v=g9v∧g10k=g10k∧g10v=g10v∧g11k=g11k∧g11v=g11v) inv (fun s161q=>μ s161q<μ s161p))).mpr (hs s161p hi))⟩⟩
theorem kxe (p0:Int) (p1:TList13) (p2:TList13) (h:LU p1∧LU p2):kcd (p0,p1.Leaves,p1.Salts,p2.Leaves,p2.Salts,()) ((true:Bool),()):=by
 obtain⟨u1,u2⟩:=h
 have j1:∀s,(s=false→rightB p1=true∧rightB p2=true∧p1.Leaves.length=p2.Leaves.length∧p1.Salts.Nodup∧p2.Salts.Nodup)→k2j (true,()) (p0,s,p1.Leaves,p1.Salts,p2.Leaves,p2.Salts,()):=by
  intro s hs
  refine kw5 ⟨fun _=>rfl,fun e=> ?_⟩
  obtain⟨q1,q2,q3,q4,q5⟩:=hs e
  obtain⟨c1,n1,m1⟩:=k1kr q1
  obtain⟨c2,n2,m2⟩:=k1kr q2
  obtain⟨s1,_⟩:=kn3 c1
  obtain⟨s2,_⟩:=kn3 c2
  have zo:OOk (OS.mk true p0 0 [] [] [] [] [] [] []):=OOk.z true p0
  have b1:∀l∈p1.Leaves,l.length≤999999999:=fun l hl=>by have:=m1 l hl;omega
  have b2:∀l∈p2.Leaves,l.length≤999999999:=fun l hl=>by have:=m2 l hl;omega
  have rt0:RT (OS.mk true p0 0 [] [] [] [] [] [] []) (OS.mk true p0 0 [] [] [] [] [] [] []):=RT.z p0
  obtain⟨t1,e1,e2,rt⟩:=rt0.com zo c1 c2 q3 u1.u u2.u (fun l hl=>(u1.v l hl).1) (fun l hl=>(u2.v l hl).1) b1 q4 q5 rfl rfl
  have ka:=comO_ok (ls:=p1.Leaves) (ss:=p1.Salts) zo b1 (by show 0≤800000;omega)
  have kb:=comO_ok (ls:=p2.Leaves) (ss:=p2.Salts) zo b2 (by show 0≤800000;omega)
  have la:=comO_lv (ls:=p1.Leaves) (ss:=p1.Salts) zo b1 (by show 0≤800000;omega) (by omega)
  refine⟨rfl,⟨⟨⟨by omega,fun l hl=>⟨(u1.v l hl).1,by have:=m1 l hl;omega⟩⟩,u1.u,by omega⟩,zo,by decide⟩,?_⟩
  dsimp only
  refine⟨rfl,⟨⟨⟨by omega,fun l hl=>⟨(u2.v l hl).1,by have:=m2 l hl;omega⟩⟩,u2.u,by omega⟩,zo,by decide⟩,?_⟩
  generalize comO (OS.mk true p0 0 [] [] [] [] [] [] []) p1.Leaves p1.Salts=A at *
  generalize comO (OS.mk true p0 0 [] [] [] [] [] [] []) p2.Leaves p2.Salts=B at *
  have ka2:A.o.q.length≤2048:=ka.2
  have kb2:B.o.q.length≤2048:=kb.2
  rw[←t1,e1,e2]
  refine⟨fun h=>by simp at h,fun _=>⟨fun h=>by simp at h,fun _=>⟨⟨la.n,la.l⟩,⟨la.n,la.l⟩,fun h=>by simp at h,fun _=>⟨rfl,rfl,?_⟩⟩⟩⟩
  refine kyl (fun i=>0≤i∧i≤p1.Leaves.length) (fun i=>(p1.Leaves.length-i).toNat) ⟨by omega,by omega⟩ ?_
  rintro i ⟨g0,g1⟩
  refine⟨fun hh=> ?_,fun _=> ?_⟩
  ·have hh:=of_decide_eq_true hh
   have:=k1sg A.t i
   have:=la.n
   refine⟨⟨⟨la.n,la.l⟩,by omega,by omega⟩,⟨⟨la.n,la.l⟩,by omega,by omega⟩,by show(pathT A.t i).length≤_;omega,?_⟩
   dsimp only
   refine⟨fun h=>by simp at h,fun _=>⟨rfl,rfl,?_⟩⟩
   rw[inc i p1.Leaves.length g0 hh (by omega)]
   exact⟨⟨by omega,by omega⟩,by omega⟩
  have hroot:U64 (rootT A.t):=LV.root la
  try simp only[OS_eta,k1s1]
  have ur:Us [rootT A.t]:=fun x hx=>by rw[List.mem_singleton.1 hx];exact hroot
  obtain⟨v1,v2⟩:=rt.ab (t:=⟨1,0⟩) (tag:=2) (l:=[rootT A.t]) (by decide) (by decide) ur
  have w1:=ka.1.h 18 (l:=[(1:Int),2]++[rootT A.t]) (by simp) (by omega)
  have w2:=kb.1.h 18 (l:=[(1:Int),2]++[rootT A.t]) (by simp) (by omega)
  have w3:=ka.1.lt 18 ([(1:Int),2]++[rootT A.t])
  have w1:OOk (abO A.o ⟨1,0⟩ 2 [rootT A.t]).o∧A.o.q.length≤(abO A.o ⟨1,0⟩ 2 [rootT A.t]).o.q.length∧(abO A.o ⟨1,0⟩ 2 [rootT A.t]).o.q.length≤A.o.q.length+1:=w1
  have w2:OOk (abO B.o ⟨1,0⟩ 2 [rootT A.t]).o∧B.o.q.length≤(abO B.o ⟨1,0⟩ 2 [rootT A.t]).o.q.length∧(abO B.o ⟨1,0⟩ 2 [rootT A.t]).o.q.length≤B.o.q.length+1:=w2
  have w3:0≤(abO A.o ⟨1,0⟩ 2 [rootT A.t]).t.State∧(abO A.o ⟨1,0⟩ 2 [rootT A.t]).t.State<18446744069414584321:=w3
  have w4:(abO A.o ⟨1,0⟩ 2 [rootT A.t]).t.Count=0:=rfl
  refine⟨⟨la.n,la.l⟩,(by first|exact rfl|exact True.intro),⟨by decide,by decide,⟨ur,by simp⟩,ka.1⟩,?_⟩
  generalize abO A.o ⟨1,0⟩ 2 [rootT A.t]=P at *
  generalize hQ:abO B.o ⟨1,0⟩ 2 [rootT A.t]=Q at *
  try simp only[OS_eta,k132]
  obtain⟨x1,x2,x3⟩:=v2.ch (t:=P.t) (m:=97) ⟨w3.1,by omega⟩ (by rw[w4];decide)
  have y1:=w1.1.ch P.t 97 (by omega)
  have y2:=w2.1.ch P.t 97 (by omega)
  have y3:U64 (chO P.o P.t 97).t.Count:=by
   unfold chO
   rw[if_neg (by decide)]
   show U64 (IntKind.u64.wrap _)
   rw[u64w];omega
  have uP:U64 P.t.State∧U64 P.t.Count:=⟨⟨w3.1,by omega⟩,by rw[w4];decide⟩
  rw[←v1]
  refine⟨(by first|exact rfl|exact True.intro),⟨uP,w1.1⟩,⟨la.n,la.l⟩,(by first|exact rfl|exact True.intro),⟨by decide,by decide,⟨ur,by simp⟩,kb.1⟩,(by first|exact rfl|exact True.intro),⟨uP,w2.1⟩,?_⟩
  generalize chO P.o P.t 97=K at *
  generalize chO Q.o P.t 97=M at *
  try simp only[OS_eta,k132]
  have uK:U64 K.t.State∧U64 K.t.Count:=⟨by rw[y1.2.2.1];exact uP.1,y3⟩
  obtain⟨z1,z2,z3⟩:=x3.pos (t:=K.t) 16 8 uK.1 uK.2
  have f1:=k1sx y1.1 K.t (n:=16) (c:=8) (by decide) (by decide) (by omega)
  rw[←x1,←x2]
  refine⟨(by first|exact rfl|exact True.intro),⟨uK,y1.1,by omega⟩,(by first|exact rfl|exact True.intro),⟨uK,y2.1,by omega⟩,fun h=>by simp at h,fun _=>⟨fun h=>by simp at h,fun _=> ?_⟩⟩
  rw[←z1]
  refine⟨fun h=>by rw[f1]at h;simp at h,fun _=>⟨fun h=>by rw[f1]at h;simp at h,fun _=>⟨(by first|exact rfl|exact True.intro),(by first|exact rfl|exact True.intro),?_⟩⟩⟩
  generalize posO K.o K.t 16 8=E at *
  generalize posO M.o K.t 16 8=F at *
  refine kyj (fun i=>0≤i∧i≤E.g.length) (fun i=>(E.g.length-i).toNat) ⟨by omega,by omega⟩ ?_
  rintro i ⟨g0,g1⟩
  refine⟨fun hh=> ?_,fun _=>⟨rfl,rfl,?_⟩⟩
  ·have hh:=of_decide_eq_true hh
   refine⟨g0,hh,g0,hh,fun h=>by simp at h,fun _=>⟨rfl,rfl,?_⟩⟩
   rw[inc i E.g.length g0 hh (by omega)]
   exact⟨⟨by omega,by omega⟩,by omega⟩
  ·rw[z3.c];simp
 refine kzy ⟨fun h=>by simp at h,fun _=>⟨⟨u1.l,u1.s,fun l hl=>(u1.v l hl).2⟩,fun _=>j1 _ (fun h=>by cases h),fun e=>⟨⟨u2.l,u2.s,fun l hl=>(u2.v l hl).2⟩,fun _=>j1 _ (fun h=>by cases h),fun e2=> ?_⟩⟩⟩
 dsimp only
 refine⟨fun _=>j1 _ (fun h=>by cases h),fun e3=>⟨u1.s,fun _=>j1 _ (fun h=>by cases h),fun e4=>⟨u2.s,j1 _ fun e5=> ?_⟩⟩⟩
 have e3:(p1.Leaves.length:Int)=p2.Leaves.length:=by simpa using e3
 have e3:p1.Leaves.length=p2.Leaves.length:=by omega
 exact⟨by simpa using e,by simpa using e2,e3,by simpa using e4,by simpa using e5⟩
end Go.Proofs.Ytcilpmmlfpkdoaa
end
