/-
  Parts of the proofs that the laws of this seat hold of every input, merged by a program: a machine over pure data that is sound for the model, what each function of the translation does in it, and plain lemmas. No conditions but those in each theorem.
-/
import Derived.Test.YtcghahkoioeddaaGreatDoorA1
set_option linter.all false
set_option maxRecDepth 100000
noncomputable section
namespace Go.Bv
open Go.RowKit
section
variable {P:Program} {T:Tk} {G0 G:Gh} {w0 w:World} {N:Nat} {s:St} {a:Act} {h:Hp} {nx:Nat}
theorem R.kill (hR:R T G0 w0 N s a G w) {id:Nat} (hid:id<s.nx):R T G0 w0 N ⟨s.sl,(id,.dead)::s.h,s.nx⟩ a G w:=by
 have hw:=hR.wr
 have hget:∀i o,o≠Ob.dead->Hp.get ((id,.dead)::s.h) i=some o->i≠id/\s.h.get i=some o:=by
  intro i o ho hg;simp only[Hp.get]at hg;split at hg
  ·injection hg with hg;exact(ho hg.symm).elim
  ·rename_i h;exact⟨h,hg⟩
 have he:Ext G w s.h s.nx G w ((id,.dead)::s.h) s.nx:=⟨Mono.refl _ _,qt _,fun _ _ _ h=>h,fun tok t' _ h1=>⟨t',(hget tok _ qqs h1).2,qt _,fun _ _ hb=>⟨hb,rfl,rfl⟩⟩,fun _ _ h=>h⟩;have olive:∀i,live ((id,.dead)::s.h) i->live s.h i:=by intro i l;obtain⟨o,ho,hd⟩:=live_of l;have:=(hget i o hd ho).2;unfold live;rw[this];cases o<;>first|trivial|exact hd rfl
 refine⟨hR.fr,⟨?_,hw.mob.ext he (fun i es hg=>(hget i _ qqs hg).2) hw.hid (fun _ _ _ _ _=>rfl),hw.here,fun i j b hi hj h1 h2 l1 l2=>hw.inj i j b hi hj h1 h2 (olive i l1) (olive j l2),?_,hw.lim⟩,hR.df,hR.sz,fun t=>(hR.sl t).ext he,hR.ex.ext he⟩
 ·intro i l hg;rcases hw.obj i l (hget i _ qqs hg).2 with h0|⟨b,e,cs,h1,h2,h3,h4,h5,h6⟩
  ·exact .inl h0
  exact .inr ⟨b,e,cs,h1,h2,h3,h4,h5,fun j v x hv hx=>(h6 j v x hv hx).ext he⟩
 ·intro i o hg;simp only[Hp.get]at hg;split at hg
  ·rename_i h;subst h;exact hid
  ·exact hw.hid i o hg
theorem R.relabel (hR:R T G0 w0 N s a G w) {id:Nat} {l:List V} (hg:s.h.get id=some (.cells l)) (m:Nat) {k:Nat} (hk:k<s.nx) (hkl:G.loc k=none) (hkt:G.tloc k=none) (hkh:s.h.get k=none):
  ∃G',R T G0 w0 N ⟨s.sl,(k,.cells (l.take m))::(id,.dead)::s.h,s.nx⟩ a G' w/\Ext G w s.h s.nx G' w ((k,.cells (l.take m))::(id,.dead)::s.h) s.nx/\G'.loc k=G.loc id/\G'.lim=G.lim/\∀i,i≠k->G'.loc i=G.loc i/\G'.tloc i=G.tloc i:=by
 have hw:=hR.wr;have hid:id<s.nx:=hw.hid _ _ hg;have hik:id≠k:=by rintro rfl;rw[hg]at hkh;cases hkh
 have hlv:=kh hg;let G' :Gh:=⟨fun i=>if i=k then G.loc id else G.loc i,fun i=>if i=k then none else G.tloc i,G.lim⟩;have hlo:∀i,i≠k->G'.loc i=G.loc i/\G'.tloc i=G.tloc i:=fun i hi=>by simp[G',hi]
 have hget:∀i,i≠k->i≠id->Hp.get ((k,.cells (l.take m))::(id,.dead)::s.h) i=s.h.get i:=fun i k1 k2=>by simp[Hp.get,k1,k2]
 have hgid:Hp.get ((k,.cells (l.take m))::(id,.dead)::s.h) id=some .dead:=by simp[Hp.get,hik]
 have old:∀i o,i≠k->o≠Ob.dead->Hp.get ((k,.cells (l.take m))::(id,.dead)::s.h) i=some o->i≠id/\s.h.get i=some o:=by
  intro i o hi ho hgo;have:i≠id:=by rintro rfl;rw[hgid]at hgo;injection hgo with hgo;exact ho hgo.symm
  exact⟨this,by rw[hget i hi this]at hgo;exact hgo⟩
 have olive:∀i,i≠k->live ((k,.cells (l.take m))::(id,.dead)::s.h) i->i≠id/\live s.h i:=by intro i hi l;obtain⟨o,ho,hd⟩:=live_of l;obtain⟨k2,k3⟩:=old i o hi hd ho;exact⟨k2,live_eq (hget i hi k2) l⟩
 have he:Ext G w s.h s.nx G' w ((k,.cells (l.take m))::(id,.dead)::s.h) s.nx:=by
  refine⟨Mono.refl _ _,qt _,fun i b' hi hb=> ?_,fun tok t' ht k1=> ?_,fun _ _ h=>h⟩
  ·by_cases h:i=k
   ·subst h;rw[hkl]at hb;cases hb
   ·rw[(hlo i h).1];exact hb
  ·have htk:tok≠k:=by rintro rfl;simp[Hp.get]at k1
   obtain⟨k2,k3⟩:=old tok _ htk qqs k1;exact⟨t',k3,qt _,fun _ b' hb=>⟨by rw[(hlo tok htk).2];exact hb,rfl,rfl⟩⟩
 refine⟨G',⟨⟨hR.fr.os,hR.fr.tape,hR.fr.output,hR.fr.size,hR.fr.same,hR.fr.mono⟩,⟨?_,hw.mob.ext he (fun i es hgo=> ?_) hw.hid (fun _ _ _ _ _=>rfl),?_,?_,?_,hw.lim⟩,hR.df,hR.sz,fun t=>(hR.sl t).ext he,hR.ex.ext he⟩,he,by simp[G'],rfl,hlo⟩
 ·intro i l' hgo;by_cases hi:i=k
  ·subst hi;simp only[Hp.get,qce,qah,Ob.cells.injEq]at hgo;subst hgo;rcases hw.obj id l hg with⟨z1,z2⟩|⟨b',e',cs',q1,q2,q3,q4,q5,q6⟩
   ·exact .inl ⟨by rw[z1];simp,by simp[G',z2]⟩
   ·refine .inr ⟨b',e',cs',by simp[G',q1],q2,q3,by rw[qo];omega,fun x hx=>q5 x (qat hx),fun j v x hv hx=> ?_⟩;rw[qau]at hx;split at hx
    ·exact(q6 j v x hv hx).ext he
    ·cases hx
  ·obtain⟨k2,k3⟩:=old i _ hi qqs hgo;rcases hw.obj i l' k3 with⟨z1,z2⟩|⟨b',e',cs',q1,q2,q3,q4,q5,q6⟩
   ·exact .inl ⟨z1,by rw[(hlo i hi).1];exact z2⟩
   exact .inr ⟨b',e',cs',by rw[(hlo i hi).1];exact q1,q2,q3,q4,q5,fun j v x hv hx=>(q6 j v x hv hx).ext he⟩
 ·have hi:i≠k:=by rintro rfl;simp[Hp.get]at hgo
  exact(old i _ hi qqs hgo).2
 ·intro i b' hi hb;by_cases hin:i=k
  ·subst hin;simp[G']at hb;exact hw.here id b' hid (.inl hb)
  ·rw[(hlo i hin).1,(hlo i hin).2]at hb;exact hw.here i b' hi hb
 ·intro i j b' hi hj hbi hbj li lj;by_cases hin:i=k<;>by_cases hjn:j=k
  ·omega
  ·subst hin;simp[G']at hbi;rw[(hlo j hjn).1,(hlo j hjn).2]at hbj;obtain⟨q1,q2⟩:=olive j hjn lj;exact(q1 (hw.inj j id b' hj hid hbj (.inl hbi) q2 hlv)).elim
  ·subst hjn;simp[G']at hbj;rw[(hlo i hin).1,(hlo i hin).2]at hbi;obtain⟨q1,q2⟩:=olive i hin li;exact(q1 (hw.inj i id b' hi hid hbi (.inl hbj) q2 hlv)).elim
  ·rw[(hlo j hjn).1,(hlo j hjn).2]at hbj;rw[(hlo i hin).1,(hlo i hin).2]at hbi;exact hw.inj i j b' hi hj hbi hbj (olive i hin li).2 (olive j hjn lj).2
 ·intro i ob hgo;show i<s.nx;simp only[Hp.get]at hgo;split at hgo
  ·omega
  ·split at hgo
   ·omega
   ·exact hw.hid _ _ hgo
theorem R.storeExt (hR:R T G0 w0 N s a G w) {id b:Nat} {l:List V} (hl:s.h.get id=some (.cells l)) (hb:G.loc id=some b) {cur:Array Value} {e:TypeId} (hheap:w.heap[b]? =some (.cells cur e (0,0)))
  {us:List Value} {xs:List V} (hul:us.length=xs.length)
  (hur:∀(j:Nat) (u:Value) (c:V),us[j]? =some u->xs[j]? =some c->RepV G w s.h s.nx u c) (hone:∀c∈xs,c.one=true) (hfit:l.length+us.length<=cur.size) (hlc:l.length<=cur.size):
  R T G0 w0 N ⟨s.sl,(id,.cells (l++xs))::s.h,s.nx⟩ a G (w.setRow b (cur.toList.take l.length++us++cur.toList.drop (l.length+us.length)).toArray):=by
 have hw:=hR.wr;have hid:id<s.nx:=hw.hid _ _ hl
 have hlim:G.lim b=0:=by
  rcases hw.obj id l hl with⟨_,z2⟩|⟨b',e,cs,h1,h2,h3,h4,h5,h6⟩
  ·rw[hb]at z2;cases z2
  ·rw[hb]at h1;injection h1 with h1;subst h1;exact h3
 have he:=k76 (m' :=G.lim b) (cs' :=(cur.toList.take l.length++us++cur.toList.drop (l.length+us.length)).toArray) hw hid (kh hl) (.inl hb) hheap (qt _) (fun o v ho _=>by rw[hlim]at ho;omega)
  qqm (.cells (l++xs)) (fun t' h=>by cases h)
 have hfr:=Fr.setRow (m' :=G.lim b) hR.fr hw hid (.inl hb) (cs' :=(cur.toList.take l.length++us++cur.toList.drop (l.length+us.length)).toArray) he.mono;have hobjo:=fun {id' :Nat} (hne:id'≠id) {l' :List V} (hl' :s.h.get id' =some (.cells l'))=>k7v (m' :=G.lim b) hw hid (kh hl) (.inl hb) he hne hl';have hmob:=k7x (m' :=G.lim b) hw hheap he (fun id es hg=>by simp only[Hp.get]at hg;split at hg;(· cases hg);exact hg);rw[k3s]at he hfr hmob;refine⟨hfr,⟨?_,hmob,?_,fun i j b hi hj h1 h2 l1 l2=>hw.inj i j b hi hj h1 h2 (k1c (kh hl) l1) (k1c (kh hl) l2),?_,?_⟩,hR.df,hR.sz,fun t=>(hR.sl t).ext he,hR.ex.ext he⟩
 ·intro id' l' hl';simp only[Hp.get]at hl';split at hl'
  ·rename_i hid';subst hid';injection hl' with hl';injection hl' with hl';subst hl';rcases hw.obj id' l hl with⟨_,z2⟩|⟨b',e',cs,h1,h2,h3,h4,h5,h6⟩
   ·rw[hb]at z2;cases z2
   obtain rfl:b' =b:=by rw[hb]at h1;injection h1 with h1;exact h1.symm
   have hcs:cur=cs.toArray:=by rw[h2]at hheap;injection hheap with hheap;injection hheap with hheap;exact hheap.symm
   subst hcs;refine .inr ⟨b',e,_,hb,setRow_heap w b' cs.toArray _ e _ hheap,hlim,?_,?_,?_⟩
   ·simp only[qbz]at hlc hfit;simp only[qj,qo,qan];omega
   ·intro y hy;rcases qal.1 hy with hy|hy
    ·exact h5 y hy
    ·exact hone y hy
   ·intro j v' x' hv' hx';rw[getElem?_splice _ _ _ _ (by simpa using hfit)]at hv';split at hv'
    ·rename_i hj;rw[qap hj]at hx';exact(h6 j v' x' (by simpa using hv') hx').ext he
    ·rename_i hj;rw[qaw qqo]at hx';split at hv'
     ·exact(hur _ _ _ hv' hx').ext he
     ·rename_i hj2;have:=(qf.1 hx').1;omega
  ·rename_i hne;have:=hobjo hne hl';rw[k3s]at this;exact this
 ·intro id' b'' hi' hb'';have:=hw.here id' b'' hi' hb'';exact⟨by simpa[World.setRow]using this.1,this.2⟩
 ·intro id' ob hg';simp only[Hp.get]at hg';split at hg'
  ·rename_i h;subst h;exact hid
  ·exact hw.hid id' ob hg'
 ·intro b'' hb'';exact hw.lim b'' (by simpa[World.setRow]using hb'')
theorem R.rowNil (hR:R T G0 w0 N s a G w) {k:Nat} (hk:k<s.nx) (hkl:G.loc k=none) (hkt:G.tloc k=none) (hkh:s.h.get k=none):R T G0 w0 N ⟨s.sl,(k,.cells [])::s.h,s.nx⟩ a G w:=by
 have hw:=hR.wr;have hh:∀i,i≠k->Hp.get ((k,.cells [])::s.h) i=s.h.get i:=fun i hi=>by simp[Hp.get,hi]
 have he:Ext G w s.h s.nx G w ((k,.cells [])::s.h) s.nx:=
  ⟨Mono.refl _ _,qt _,fun _ _ _ h=>h,fun tok t' ht h1=>by
   have:tok≠k:=by rintro rfl;simp[Hp.get]at h1
   rw[hh tok this]at h1;exact⟨t',h1,qt _,fun _ b hb=>⟨hb,rfl,rfl⟩⟩,fun _ _ h=>h⟩
 have no:∀i b,(G.loc i=some b∨G.tloc i=some b)->i≠k:=by rintro i b hb rfl;rw[hkl,hkt]at hb;rcases hb with hb|hb<;>cases hb
 refine⟨hR.fr,⟨?_,hw.mob.ext he (fun i es hgo=> ?_) hw.hid (fun _ _ _ _ _=>rfl),hw.here,fun i j b hi hj h1 h2 l1 l2=>hw.inj i j b hi hj h1 h2 (live_eq (hh i (no i b h1)) l1) (live_eq (hh j (no j b h2)) l2),?_,hw.lim⟩,hR.df,hR.sz,fun t=>(hR.sl t).ext he,hR.ex.ext he⟩
 ·intro id l' hl';simp only[Hp.get]at hl';split at hl'
  ·rename_i h;injection hl' with hl';injection hl' with hl';exact .inl ⟨hl'.symm,by rw[h];exact hkl⟩
  ·rcases hw.obj id l' hl' with h0|⟨b,e',cs',h1,h2,h3,h4,h5,h6⟩
   ·exact .inl h0
   exact .inr ⟨b,e',cs',h1,h2,h3,h4,h5,fun j v x hv hx=>(h6 j v x hv hx).ext he⟩
 ·simp only[Hp.get]at hgo;split at hgo
  ·cases hgo
  ·exact hgo
 ·intro id ob hg;simp only[Hp.get]at hg;split at hg
  ·rename_i h;subst h;exact hk
  ·exact hw.hid id ob hg
def Src (P:Program) (G:Gh) (w:World) (sz:Nat) (vy:Value) (l2:List D):Prop:=
  ∃A2 cap2 vs2,vy= .slice A2 l2.length cap2/\(Builtin.firstCells sz l2.length vy).run P w= .ok (List.toArray vs2) w/\vs2.length=l2.length*sz/\vs2.length=(l2.flatMap D.cells).length/\(∀u∈vs2,u.oneCell' =true)/\
   (∀d∈l2,d.cells.length=sz/\∀c∈d.cells,c.one=true)/\(∀(j:Nat) (u:Value) (c:D),vs2[j]? =some u->(l2.flatMap D.cells)[j]? =some c->RepD G.lim w u c)/\
   (l2≠[]->∃b2 off2,A2=some ⟨b2,off2,none⟩/\∀(j:Nat) (u:Value),vs2[j]? =some u->w.cell? ((⟨b2,off2,none⟩:Addr).add j)=some u)
theorem src_els {y:V} {vy:Value} {sz:Nat} {l2:List D} (hy:RepV G w h nx vy y) (hl2:y.els sz=some l2):Src P G w sz vy l2:=by
 have hd2:=els_rep hl2 hy;obtain⟨A2,cap2,vs2,hvy,hcap2,hmax2,hsz2,hlen2,hno2,hc2,hr2⟩:=hd2.flat;refine⟨A2,cap2,vs2,hvy,k3w hvy hsz2 hlen2 hno2 hc2,by rw[hlen2,ki hsz2],hlen2,k7w hlen2 hr2,hsz2,hr2,fun hne=> ?_⟩;cases A2 with
 |none=>exact(hne (hno2 rfl).1).elim
 |some ad=>
  rcases hc2 ad rfl with⟨_,hz⟩|⟨b2,off2,rfl,h2⟩
  ·exact(hne hz).elim
  ·exact⟨b2,off2,rfl,fun j u hu=>by rw[add_mk];exact(h2 j u hu).2⟩
def srcV (h:Hp) (sz:Nat) (y:V) (l2:List D):Prop:=y.els sz=some l2∨
 ∃(id k n:Nat) (ls:List D),y= .row id (k*sz) n sz/\h.get id=some (.cells ((ls.flatMap D.cells).map .d))/\(∀d∈ls,d.cells.length=sz/\∀c∈d.cells,c.one=true)/\k+n<=ls.length/\l2=(ls.drop k).take n
theorem RepV.d_inv' {v:Value} {x:D} (hv:RepV G w h nx v (.d x)):RepD G.lim w v x:=by
 generalize hx:V.d x=y at hv;cases hv<;>first|cases hx|skip
 rename_i hd;exact hd
theorem src_of (hw:WR T w0.heap.size G w h nx) {y:V} {vy:Value} {sz:Nat} {l2:List D} (hy:RepV G w h nx vy y) (hs:srcV h sz y l2):Src P G w sz vy l2:=by
 rcases hs with hs|⟨id,k,n,ls,rfl,hg,hsz,hkn,rfl⟩
 ·exact src_els hy hs
 ·have hll:((ls.drop k).take n).length=n:=by rw[qo,qan];omega
  have hsz' :∀d∈(ls.drop k).take n,d.cells.length=sz/\∀c∈d.cells,c.one=true:=fun d hd=>hsz d (qbo (qat hd));have hfl:((ls.drop k).take n).flatMap D.cells=((ls.flatMap D.cells).drop (k*sz)).take (n*sz):=by rw[k56 (fun d hd=>hsz d (qbo hd)) n,k93 hsz]
  cases hy with
  |rown A _ _ _ _=>
   refine⟨A,0,[],by rw[hll],?_,by rw[hll];simp,by simp,fun u hu=>by simp at hu,hsz',fun j u c hu=>by simp at hu,fun hne=> ?_⟩
   ·rw[hll];cases A with
    |none=>simp[Builtin.firstCells]
    |some ad=>simpa using qdq (P:=P) w sz 0 ad 0 0 [] qqs (fun j u hu=>by simp at hu)
   ·exact(hne qqs).elim
  |row _ _ _ _ b o cap m hid' hlb ho hc hm hn hs=>
   rcases hw.obj id _ hg with⟨z1,z2⟩|⟨b',e',cs,g1,g2,g3,g4,g5,g6⟩
   ·rw[hlb]at z2;cases z2
   obtain rfl:b' =b:=by rw[hlb]at g1;injection g1 with g1;exact g1.symm
   have hfs:=ki hsz;rw[qm,hfs]at g4;have hkn' :(k+n)*sz<=ls.length*sz:=qbc _ hkn;rw[qbj]at hkn';have hvl:((cs.drop (k*sz)).take (n*sz)).length=n*sz:=by rw[qo,qan];omega
   have hcell:n≠0->∀(j:Nat) (u:Value),((cs.drop (k*sz)).take (n*sz))[j]? =some u->w.cell? ((⟨b',o,none⟩:Addr).add j)=some u:=by
    intro hn0 j u hu;rw[qau]at hu;split at hu
    ·rw[qba]at hu;rw[ho qqo,add_mk,cell_of_row w b' _ cs.toArray e' _ g2];simpa using hu
    ·cases hu
   have hrep:∀(j:Nat) (u:Value) (c:D),((cs.drop (k*sz)).take (n*sz))[j]? =some u->(((ls.drop k).take n).flatMap D.cells)[j]? =some c->RepD G.lim w u c:=by
    intro j u c hu hc';rw[hfl]at hc';rw[qau]at hu hc';split at hu
    ·rename_i hj;rw[qh hj,qba]at hc';rw[qba]at hu;exact(g6 _ u (.d c) hu (by rw[ql,hc'];rfl)).d_inv'
    ·cases hu
   refine⟨some ⟨b',o,none⟩,cap,(cs.drop (k*sz)).take (n*sz),by rw[hll],?_,by rw[hvl,hll],by rw[hvl,ki hsz',hll],k7w (by rw[hvl,ki hsz',hll]) hrep,hsz',hrep,fun hne=> ?_⟩
   ·rw[hll];refine qdq w sz n ⟨b',o,none⟩ n cap _ (by rw[hvl]) fun j u hu=> ?_;by_cases hn0:n=0
    ·subst hn0;simp at hu
    ·exact hcell hn0 j u hu
   ·refine⟨b',o,rfl,hcell ?_⟩;rintro rfl;exact hne qqs
theorem kku {G:Gh} {w:World} {h:Hp} {nx:Nat} {vs2:List Value} {l2:List D} (hr:∀(j:Nat) (u:Value) (c:D),vs2[j]? =some u->(l2.flatMap D.cells)[j]? =some c->RepD G.lim w u c):
  ∀(j:Nat) (u:Value) (c:V),vs2[j]? =some u->((l2.flatMap D.cells).map V.d)[j]? =some c->RepV G w h nx u c:=by
 intro j u c hu hc;rw[ql,qv]at hc;obtain⟨d,hd,rfl⟩:=hc;exact .d _ _ (hr j u d hu hd)
theorem kh1 {l2:List D} {sz:Nat} (hsz:∀d∈l2,d.cells.length=sz/\∀c∈d.cells,c.one=true):∀c∈(l2.flatMap D.cells).map V.d,c.one=true:=by intro c hc;obtain⟨d,hd,rfl⟩:=qag.1 hc;obtain⟨x,hx,hdx⟩:=qdr.1 hd;exact(hsz x hx).2 d hdx
theorem R.grownRow (hR:R T G0 w0 N s a G w) {t ty e:TypeId} {i:TypeInfo} {z:Value} {sz bt:Nat} (hu:P.underlying t=some (.slice e)) (hi:P.info? e=some i) (hz:i.zero=some z) (hzs:z.cells.size=sz) (hisz:i.size=sz) (hibt:i.bytes=bt)
  {A:Option Addr} {n cap:Nat} {vs:List Value} {l:List V} (hvs:vs.length=n*sz) (hlvs:l.length=vs.length) (hone:∀c∈l,c.one=true) (hr:∀(j:Nat) (u:Value) (c:V),vs[j]? =some u->l[j]? =some c->RepV G w s.h s.nx u c)
  (hA:(A=none/\n=0/\cap=0)∨∃ad,A=some ad/\∀(j:Nat) (u:Value),vs[j]? =some u->w.cell? (ad.add j)=some u)
  {vy:Value} {l2:List D} (hy:Src P G w sz vy l2) (hne:l2≠[]) (hroom:cap<n+l2.length) (hb:(n+l2.length)*bt<=140737488355328) (hmx:n+l2.length<=maxLen)
  {k:Nat} (hk:k<s.nx) (hkl:G.loc k=none) (hkt:G.tloc k=none) (hkh:s.h.get k=none):
  ∃v' w' G',(Builtin.append_ #[t,t] ty #[.slice A n cap,vy]).run P w= .ok v' w'/\R T G0 w0 N ⟨s.sl,(k,.cells (l++(l2.flatMap D.cells).map .d))::s.h,s.nx⟩ a G' w'/\
   RepV G' w' ((k,.cells (l++(l2.flatMap D.cells).map .d))::s.h) s.nx v' (.row k 0 (n+l2.length) sz)/\∀i,i≠k->G'.loc i=G.loc i/\G'.tloc i=G.tloc i:=by
 have hy0:=hy;obtain⟨A2,cap2,vs2,hvy,hf2,hv2,hlen2,hone2,hsz2,hr2,hb2⟩:=hy;obtain⟨b2,off2,rfl,hcell2⟩:=hb2 hne;have h0:0<l2.length:=qda.2 hne;have hgc:=grownCap_ge w (n+l2.length) cap e;have hgm:=grownCap_le_maxLen w (n+l2.length) cap e hmx
 have hrun:(Builtin.append_ #[t,t] ty #[.slice A n cap,vy]).run P w=
   .ok (.slice (some ⟨w.heap.size,0,none⟩) (n+l2.length) (grownCap w (n+l2.length) cap e))
    (w.drew.alloc (.cells (vs++vs2++(Builtin.zeroCells z.cells (grownCap w (n+l2.length) cap e-(n+l2.length))).toList).toArray e)):=by
  have hmx' :((n+l2.length:Nat):Int)<=9223372036854775807:=by simp only[maxLen]at hmx;omega
  have hfitb:Builtin.nextslicecap (n+l2.length) cap*i.bytes<=281474976710656:=growslice_fits qqo (by rw[hibt];exact hb);subst hvy;rcases hA with⟨rfl,rfl,rfl⟩|⟨ad,rfl,hcad⟩
  ·have:vs=[]:=qac (by simpa using hvs);subst this
   have:=run_append_nil (P:=P) w t ty e i z hu hi hz ⟨b2,off2,none⟩ l2.length cap2 vs2 (by rw[hv2,hisz]) hcell2 qqo (by simpa using hmx') (by
    rw[hibt];simp at hb;omega)
   simp only[qaj,qcc];rw[this];congr 3;simp
  ·have:=run_append_grow (P:=P) w t ty e i z hu hi hz ad n cap vs (by rw[hvs,hisz]) hcad ⟨b2,off2,none⟩ l2.length cap2 vs2 (by rw[hv2,hisz]) hcell2 qqo hmx' hfitb;rw[this];congr 3;simp
 have hRd:=hR.drew;have hall:(l++(l2.flatMap D.cells).map V.d).length=n*sz+l2.length*sz:=by rw[qj,hlvs,hvs,qm,<-hlen2,hv2]
 obtain⟨G',hR',hp,hfr⟩:=hRd.allocAtP k hk hkl hkt hkh e (vs++vs2++(Builtin.zeroCells z.cells (grownCap w (n+l2.length) cap e-(n+l2.length))).toList) (l++(l2.flatMap D.cells).map .d)
  (by rw[hall];simp only[qj,hvs,hv2];omega)
  (fun x hx=>by
   rcases qal.1 hx with hx|hx
   ·exact hone x hx
   ·exact kh1 hsz2 x hx)
  (fun j v x hv hx=>by
   by_cases hj:j<l.length
   ·rw[qap hj]at hx;rw[qap (by rw[qj];omega),qap qqo]at hv;exact(hr j v x hv hx).drew
   ·rw[qaw qqo]at hx;have hj2:=(qf.1 hx).1;rw[qm,<-hlen2]at hj2;rw[qap (by rw[qj];omega),qaw qqo,<-hlvs]at hv;exact(kku hr2 (j-l.length) v x hv hx).drew)
 refine⟨_,_,G',hrun,hR',?_,hfr⟩;cases hp with
 |ptr _ _ b hid hl=>refine .row k 0 (n+l2.length) sz w.heap.size 0 (grownCap w (n+l2.length) cap e) _ hid hl (fun _=>rfl) hgc hgm (csz_of (qcw w.drew _)) ?_;simp only[qbz,qj,qci,size_zeroCells,hzs,hvs,hv2,qaj];rw[<-qbj,<-qbj];exact qbc _ qqo
theorem R.rowAppend (hR:R T G0 w0 N s a G w) {t:TypeId} {sz bt:Nat} (hrow:rowOf P t=some (sz,bt)) {id n:Nat} {vx vy:Value} (hx:RepV G w s.h s.nx vx (.row id 0 n sz))
  {l:List V} (hg:s.h.get id=some (.cells l)) (hfit:n*sz<=l.length) {l2:List D} (hy:Src P G w sz vy l2) (hb:(n+l2.length)*bt<=140737488355328) (ty:TypeId) (hmx:n+l2.length<=maxLen)
  {k:Nat} (hk:k<s.nx) (hkl:G.loc k=none) (hkt:G.tloc k=none) (hkh:s.h.get k=none):
  ∃v' w' G',(Builtin.append_ #[t,t] ty #[vx,vy]).run P w= .ok v' w'/\R T G0 w0 N ⟨s.sl,(k,.cells (l.take (n*sz)++(l2.flatMap D.cells).map .d))::(id,.dead)::s.h,s.nx⟩ a G' w'/\
   RepV G' w' ((k,.cells (l.take (n*sz)++(l2.flatMap D.cells).map .d))::(id,.dead)::s.h) s.nx v' (.row k 0 (n+l2.length) sz)/\∀i,i≠k->G'.loc i=G.loc i/\G'.tloc i=G.tloc i:=by
 obtain⟨e,i,z,hu,hi,hz,hzs,hsz0,hisz,hibt⟩:=k1t hrow;have hw:=hR.wr;have hid:id<s.nx:=hw.hid _ _ hg;have hik:id≠k:=by rintro rfl;rw[hg]at hkh;cases hkh
 have hy0:=hy;obtain⟨A2,cap2,vs2,hvy,hf2,hv2,hlen2,hone2,hsz2,hr2,hb2⟩:=hy;by_cases h0:l2=[]
 ·subst h0;obtain⟨G',hR',he,hl',hlim,hfr⟩:=hR.relabel hg (n*sz) hk hkl hkt hkh;have hv20:vs2=[]:=qac (by simpa using hv2);have hf0:(Builtin.firstCells i.size 0 vy).run P w= .ok #[] w:=by rw[hisz];rw[hv20]at hf2;simpa using hf2
  cases hx with
  |rown A _ _ _ _=>refine⟨_,w,G',k19 (P:=P) (w:=w) t ty e i hu hi A 0 0 (qt _) vy ⟨A2,cap2,hvy⟩ hf0,by simpa using hR',.rown A k 0 sz hk,hfr⟩
  |row _ _ _ _ b o cap m hid' hlb ho hc hm hn hs=>refine⟨_,w,G',k19 (P:=P) (w:=w) t ty e i hu hi _ n cap hc vy ⟨A2,cap2,hvy⟩ hf0,by simpa using hR',.row k 0 n sz b o cap m hk (by rw[hl'];exact hlb) ho hc hm (he.csz b m hn) hs,hfr⟩
 ·have h1:0<l2.length:=qda.2 h0;have hRk:=hR.kill hid;have hkh' :Hp.get ((id,.dead)::s.h) k=none:=by simp[Hp.get,hik.symm,hkh]
  have heK:∀{v:Value} {x:V},RepV G w s.h s.nx v x->RepV G w ((id,.dead)::s.h) s.nx v x:=by
   intro v x hv;refine hv.ext ⟨Mono.refl _ _,qt _,fun _ _ _ h=>h,fun tok t' _ h1=> ?_,fun _ _ h=>h⟩;simp only[Hp.get]at h1;split at h1
   ·cases h1
   ·exact⟨t',h1,qt _,fun _ _ hb=>⟨hb,rfl,rfl⟩⟩
  have hnl:(l.take (n*sz)).length=n*sz:=by rw[qo];omega
  cases hx with
  |rown A _ _ _ _=>
   have hl0:l.take (0*sz)=[]:=by simp
   rw[hl0];refine hRk.grownRow hu hi hz hzs hisz hibt (A:=A) (n:=0) (cap:=0) (vs:=[]) (l:=[]) qqs rfl (fun c hc=>by cases hc) (fun j u c hu=>by simp at hu) ?_ hy0 h0 qqo hb hmx hk hkl hkt hkh';cases A with
   |none=>exact .inl ⟨rfl,rfl,rfl⟩
   |some ad=>exact .inr ⟨ad,rfl,fun j u hu=>by simp at hu⟩
  |row _ _ _ _ b o cap m hid' hlb ho hc hm hn hs=>
   rcases hw.obj id l hg with⟨_,z2⟩|⟨b',e',cs,g1,g2,g3,g4,g5,g6⟩
   ·rw[hlb]at z2;cases z2
   obtain rfl:b' =b:=by rw[hlb]at g1;injection g1 with g1;exact g1.symm
   rw[csz_of g2]at hn;injection hn with hn;simp only[qbz]at hn;by_cases hroom:n+l2.length<=cap
   ·
    have ho0:o=0:=ho qqo;subst ho0;have hcap1:(n+l2.length)*sz<=cap*sz:=qbc _ hroom;rw[qbj]at hcap1;have hfitc:0+n*i.size+vs2.length<=cs.toArray.size:=by rw[hisz];simp;omega
    have hrun:=k4o (P:=P) (w:=w) t ty e i hu hi b' 0 n cap l2.length cs.toArray e' g2 vy ⟨_,_,hvy⟩ vs2 (by rw[hisz];exact hf2) hone2 hroom hfitc;rw[hisz,qaj]at hrun;obtain⟨G',hR',he,hl',hlim,hfr⟩:=hR.relabel hg (n*sz) hk hkl hkt hkh;have hlb' :G'.loc k=some b' :=by rw[hl'];exact hlb
    have hst:=hR'.storeExt (id:=k) (b:=b') (l:=l.take (n*sz)) (by simp[Hp.get]) hlb' g2 (us:=vs2) (xs:=(l2.flatMap D.cells).map .d) (by rw[qm];exact hlen2)
     (fun j u c hu hc=>(kku (h:=s.h) (nx:=s.nx) hr2 j u c hu hc).ext he) (kh1 hsz2) (by rw[hnl];simp;omega) (by rw[hnl];simp;omega)
    rw[hnl]at hst
    have hst2:=hst.same (s' :=⟨s.sl,(k,.cells (l.take (n*sz)++(l2.flatMap D.cells).map .d))::(id,.dead)::s.h,s.nx⟩) (fun _=>rfl) (fun i=>by
     by_cases hi:i=k
     ·subst hi;simp[Hp.get]
     ·simp[Hp.get,hi]) rfl
    refine⟨_,_,G',hrun,hst2,.row k 0 (n+l2.length) sz b' 0 cap cs.length hk hlb' (fun _=>rfl) hroom hm ?_ qqo,hfr⟩;rw[csz_of (setRow_heap w b' cs.toArray _ e' _ g2)];simp only[qbz,qj,qo,qan];congr 1;omega
   ·
    have hcells:∀(j:Nat) (u:Value),(cs.take (n*sz))[j]? =some u->w.cell? ((⟨b',o,none⟩:Addr).add j)=some u:=by
     intro j u hu;rw[qau]at hu;split at hu
     ·rename_i hj
      have hcap0:cap≠0:=by
       rintro rfl;have:n=0:=by omega
       subst this;omega
      rw[ho hcap0,add_mk,qaj,cell_of_row w b' j cs.toArray e' _ g2];simpa using hu
     ·cases hu
    exact hRk.grownRow hu hi hz hzs hisz hibt (A:=some ⟨b',o,none⟩) (n:=n) (cap:=cap) (vs:=cs.take (n*sz)) (l:=l.take (n*sz)) (by rw[qo];omega) (by rw[hnl,qo];omega)
     (fun c hc=>g5 c (qat hc)) (fun j u c hu hc=>by
      rw[qau]at hu hc;split at hu
      ·rename_i hj;rw[qh hj]at hc;exact heK (g6 j u c hu hc)
      ·cases hu) (.inr ⟨_,rfl,hcells⟩) hy0 h0 qqo hb hmx hk hkl hkt hkh'
theorem R.rowNew (hR:R T G0 w0 N s a G w) {t:TypeId} {sz bt:Nat} (hrow:rowOf P t=some (sz,bt)) {A:Option Addr} {vy:Value}
  {l2:List D} (hy:Src P G w sz vy l2) (hb:l2.length*bt<=140737488355328) (ty:TypeId) (hmx:l2.length<=maxLen)
  {k:Nat} (hk:k<s.nx) (hkl:G.loc k=none) (hkt:G.tloc k=none) (hkh:s.h.get k=none):
  ∃v' w' G',(Builtin.append_ #[t,t] ty #[.slice A 0 0,vy]).run P w= .ok v' w'/\R T G0 w0 N ⟨s.sl,(k,.cells ((l2.flatMap D.cells).map .d))::s.h,s.nx⟩ a G' w'/\
   RepV G' w' ((k,.cells ((l2.flatMap D.cells).map .d))::s.h) s.nx v' (.row k 0 l2.length sz)/\∀i,i≠k->G'.loc i=G.loc i/\G'.tloc i=G.tloc i:=by
 obtain⟨e,i,z,hu,hi,hz,hzs,hsz0,hisz,hibt⟩:=k1t hrow;by_cases h0:l2=[]
 ·subst h0;obtain⟨A2,cap2,vs2,hvy,hf2,hv2,hlen2,hone2,hsz2,hr2,hb2⟩:=hy;have hv20:vs2=[]:=qac (by simpa using hv2);have hf0:(Builtin.firstCells i.size 0 vy).run P w= .ok #[] w:=by rw[hisz];rw[hv20]at hf2;simpa using hf2
  exact⟨_,w,G,k19 (P:=P) (w:=w) t ty e i hu hi A 0 0 (qt _) vy ⟨A2,cap2,hvy⟩ hf0,hR.rowNil hk hkl hkt hkh,.rown A k 0 sz hk,fun _ _=>⟨rfl,rfl⟩⟩
 ·have:=hR.grownRow hu hi hz hzs hisz hibt (ty:=ty) (A:=A) (n:=0) (cap:=0) (vs:=[]) (l:=[]) qqs rfl (fun c hc=>by cases hc) (fun j u c hu=>by simp at hu) (by
   cases A with
   |none=>exact .inl ⟨rfl,rfl,rfl⟩
   |some ad=>exact .inr ⟨ad,rfl,fun j u hu=>by simp at hu⟩) hy h0 (by have:=qda.2 h0;omega) (by simpa using hb) (by simpa using hmx) hk hkl hkt hkh
  simpa using this
theorem R.appData (hR:R T G0 w0 N s a G w) {t:TypeId} {sz bt:Nat} (hrow:rowOf P t=some (sz,bt)) {A:Option Addr} {l:List D} (hd:RepD G.lim w (.slice A l.length l.length) (.slice sz l)) {vy:Value}
  {l2:List D} (hy:Src P G w sz vy l2) (hb:(l.length+l2.length)*bt<=140737488355328) (ty:TypeId) (hmx:l.length+l2.length<=maxLen)
  {k:Nat} (hk:k<s.nx) (hkh:s.h.get k=none):
  ∃v' w' G',(Builtin.append_ #[t,t] ty #[.slice A l.length l.length,vy]).run P w= .ok v' w'/\R T G0 w0 N ⟨s.sl,s.h,s.nx⟩ a G' w'/\
   RepD G'.lim w' v' (.slice sz (l++l2))/\∀i,i≠k->i<s.nx->G'.loc i=G.loc i/\G'.tloc i=G.tloc i:=by
 obtain⟨e,i,z,hu,hi,hz,hzs,hsz0,hisz,hibt⟩:=k1t hrow;obtain⟨A',cap,vs,hA,hcap,hmax,hsz1,hlen1,hno1,hc1,hr1⟩:=hd.flat;injection hA with q1 q2 q3;subst q1;subst q3;obtain⟨A2,cap2,vs2,hvy,hf2,hv2,hlen2,hone2,hsz2,hr2,hb2⟩:=hy;have hv1:vs.length=l.length*sz:=by rw[hlen1,ki hsz1]
 by_cases h0:l2=[]
 ·subst h0;have hv20:vs2=[]:=qac (by simpa using hv2);have hf0:(Builtin.firstCells i.size 0 vy).run P w= .ok #[] w:=by rw[hisz];rw[hv20]at hf2;simpa using hf2
  exact⟨_,w,G,k19 (P:=P) (w:=w) t ty e i hu hi A l.length l.length (qt _) vy ⟨A2,cap2,hvy⟩ hf0,hR,by simpa using hd,fun _ _ _=>⟨rfl,rfl⟩⟩
 ·obtain⟨b2,off2,rfl,hcell2⟩:=hb2 h0;have hl2:0<l2.length:=qda.2 h0;have hgc:=grownCap_ge w (l.length+l2.length) l.length e;have hgm:=grownCap_le_maxLen w (l.length+l2.length) l.length e hmx
  have hrun:(Builtin.append_ #[t,t] ty #[.slice A l.length l.length,vy]).run P w=
    .ok (.slice (some ⟨w.heap.size,0,none⟩) (l.length+l2.length) (grownCap w (l.length+l2.length) l.length e))
     (w.drew.alloc (.cells (vs++vs2++(Builtin.zeroCells z.cells (grownCap w (l.length+l2.length) l.length e-(l.length+l2.length))).toList).toArray e)):=by
   have hmx' :((l.length+l2.length:Nat):Int)<=9223372036854775807:=by simp only[maxLen]at hmx;omega
   have hfitb:Builtin.nextslicecap (l.length+l2.length) l.length*i.bytes<=281474976710656:=growslice_fits qqo (by rw[hibt];exact hb);subst hvy;cases A with
   |none=>
    obtain⟨q4,q5⟩:=hno1 rfl;subst q4;have:vs=[]:=qac (by simpa using hv1);subst this
    have:=run_append_nil (P:=P) w t ty e i z hu hi hz ⟨b2,off2,none⟩ l2.length cap2 vs2 (by rw[hv2,hisz]) hcell2 qqo (by simpa using hmx') (by
     rw[hibt];simp at hb;omega)
    simp only[qbf,qaj,qcc];rw[this];congr 3;simp
   |some ad=>
    have hcad:∀(j:Nat) (u:Value),vs[j]? =some u->w.cell? (ad.add j)=some u:=by
     rcases hc1 ad rfl with⟨_,hz2⟩|⟨b,off,rfl,h2⟩
     ·intro j u hu;have:vs=[]:=qac (by rw[hlen1,hz2];rfl);subst this;simp at hu
     ·exact fun j u hj=>by rw[add_mk];exact(h2 j u hj).2
    have:=run_append_grow (P:=P) w t ty e i z hu hi hz ad l.length l.length vs (by rw[hv1,hisz]) hcad ⟨b2,off2,none⟩ l2.length cap2 vs2 (by rw[hv2,hisz]) hcell2 qqo hmx' hfitb;rw[this];congr 3;simp
  have hszall:∀d∈l++l2,d.cells.length=sz/\∀c∈d.cells,c.one=true:=fun d hd=>(qal.1 hd).elim (hsz1 d) (hsz2 d);have hlenall:(vs++vs2).length=((l++l2).flatMap D.cells).length:=by rw[qbh,qj,qj,hlen1,hlen2]
  have hrall:∀(j:Nat) (u:Value) (c:D),(vs++vs2)[j]? =some u->((l++l2).flatMap D.cells)[j]? =some c->RepD G.lim w u c:=by
   intro j u c hj hcj;rw[qbh,qdh,<-hlen1]at hcj;rw[qdh]at hj;split at hj
   ·rename_i hlt;rw[qh hlt]at hcj;exact hr1 j u c hj hcj
   ·rename_i hlt;rw[qe hlt]at hcj;exact hr2 _ u c hj hcj
  have hRd:=hR.drew
  obtain⟨G',hR',he,hrep,_,_,hG⟩:=R.newRow hRd e (vs++vs2++(Builtin.zeroCells z.cells (grownCap w (l.length+l2.length) l.length e-(l.length+l2.length))).toList) sz (l++l2) (vs++vs2) hszall hlenall
   (by rw[qfm];rfl) (fun j u c hj hcj=>RepD.mono (m:=G.lim) (w:=w) (m' :=G.lim) (w' :=w.drew) (fun _ _ _ h1 h2=>⟨h1,h2⟩) (hrall j u c hj hcj)) k s.nx s.h (.inr ⟨hk,rfl⟩) (fun _ _=>rfl)
   (fun ob hob=>by rw[hkh]at hob;cases hob)
  have hrep' :=hrep (grownCap w (l.length+l2.length) l.length e) (by simpa using hgc) hgm;rw[qj]at hrep';exact⟨_,_,G',hrun,hR',hrep',hG⟩
def emptyV (sz:Nat) (x:V):Prop:=x= .k (.slice none 0 0)∨x= .full sz []
def allV (sz:Nat) (x:V) (l:List D):Prop:=(x= .k (.slice none 0 0)/\l=[])∨x= .full sz l
def appRowE (P:Program) (h:Hp) (k:Nat) (t:TypeId) (x y r:V) (hu:Hp):Prop:=∃sz bt l2,rowOf P t=some (sz,bt)/\srcV h sz y l2/\
 ((∃id n l,x= .row id 0 n sz/\h.get id=some (.cells l)/\n*sz<=l.length/\(n+l2.length)*bt<=140737488355328/\n+l2.length<=maxLen/\
   hu=[(k,.cells (l.take (n*sz)++(l2.flatMap D.cells).map .d)),(id,.dead)]/\r= .row k 0 (n+l2.length) sz)∨
  (emptyV sz x/\l2.length*bt<=140737488355328/\l2.length<=maxLen/\hu=[(k,.cells ((l2.flatMap D.cells).map .d))]/\r= .row k 0 l2.length sz)∨
  ∃l,allV sz x l/\(l.length+l2.length)*bt<=140737488355328/\l.length+l2.length<=maxLen/\hu=[]/\r= .d (.slice sz (l++l2)))
def appRowA (P:Program) (s:St) (t:TypeId) (x y:V) (d:Option Nat) (K:St->Prop):Prop:=∃r hu,appRowE P s.h s.nx t x y r hu/\K (St.put ⟨s.sl,hu++s.h,s.nx+1⟩ d r)
theorem R.appRowAt (hR:R T G0 w0 N s a G w) {t ty:TypeId} {x y:V} {vx vy:Value} (hx:RepV G w s.h s.nx vx x) (hy:RepV G w s.h s.nx vy y) {k:Nat} (hk:k<s.nx) (hkl:G.loc k=none) (hkt:G.tloc k=none) (hkh:s.h.get k=none)
  {r:V} {hu:Hp} (h:appRowE P s.h k t x y r hu):
  ∃v' w' G',(Builtin.append_ #[t,t] ty #[vx,vy]).run P w= .ok v' w'/\R T G0 w0 N ⟨s.sl,hu++s.h,s.nx⟩ a G' w'/\RepV G' w' (hu++s.h) s.nx v' r/\∀i,i≠k->i<s.nx->G'.loc i=G.loc i/\G'.tloc i=G.tloc i:=by
 obtain⟨sz,bt,l2,hrow,hs,h⟩:=h;have hsrc:=src_of (P:=P) hR.wr hy hs;rcases h with⟨id,n,l,rfl,hg,hf,hb,hm,rfl,rfl⟩|⟨he,hb,hm,rfl,rfl⟩|⟨l,hl,hb,hm,rfl,rfl⟩
 ·obtain⟨v',w',G',h1,h2,h3,h4⟩:=hR.rowAppend hrow hx hg hf hsrc hb ty hm hk hkl hkt hkh;exact⟨v',w',G',h1,h2,h3,fun i hi _=>h4 i hi⟩
 ·have hA:∃A,vx= .slice A 0 0:=by
   rcases he with rfl|rfl
   ·exact⟨none,hx.k_inv⟩
   ·cases hx with|full A _ _ _=>exact⟨A,rfl⟩
  obtain⟨A,rfl⟩:=hA;obtain⟨v',w',G',h1,h2,h3,h4⟩:=hR.rowNew (A:=A) hrow hsrc hb ty hm hk hkl hkt hkh;exact⟨v',w',G',h1,h2,h3,fun i hi _=>h4 i hi⟩
 ·have hA:∃A,vx= .slice A l.length l.length/\RepD G.lim w (.slice A l.length l.length) (.slice sz l):=by
   rcases hl with⟨rfl,rfl⟩|rfl
   ·exact⟨none,hx.k_inv,.nil none sz⟩
   ·cases hx with|full A _ _ hd=>exact⟨A,rfl,hd⟩
  obtain⟨A,rfl,hd⟩:=hA;obtain⟨v',w',G',h1,h2,h3,h4⟩:=hR.appData hrow hd hsrc hb ty hm hk hkh;exact⟨v',w',G',h1,h2,.d _ _ h3,h4⟩
theorem R.appRow (hR:R T G0 w0 N s a G w) {t ty:TypeId} {x y:Operand} {d:Option Nat} (hd:∀t,d=some t->t<N) {K:St->Prop} (h:appRowA P s t (s.ev x) (s.ev y) d K):
  ∃v' w' G' s',(Builtin.append_ #[t,t] ty #[a.eval x,a.eval y]).run P w= .ok v' w'/\K s'/\R T G0 w0 N s' (a.put d v') G' w' :=by
 obtain⟨r,hu,h,hK⟩:=h;obtain⟨G1,hR1,hG1⟩:=hR.raise 1
 have hn:s.h.get s.nx=none:=by
  cases hgn:s.h.get s.nx with
  |none=>rfl
  |some ob=>exact absurd (hR.wr.hid _ _ hgn) qqo
 obtain⟨v',w',G',h1,h2,h3,_⟩:=hR1.appRowAt (ty:=ty) (hR1.ev x) (hR1.ev y) (k:=s.nx) (by show s.nx<s.nx+1;omega) (hG1 _ (qt _)).1 (hG1 _ (qt _)).2 hn h;exact⟨v',w',G',_,h1,hK,h2.put h3 d hd⟩
end
end Go.Bv
namespace Go.Bv
open Go.RowKit
def D.isKey (d:TypeDesc):D->Prop
 | .int k _=>d= .int k
 | .str _=>d= .string
 | .bool _=>d= .bool
 |_=>False
def D.keq:D->D->Bool
 | .int k a,.int k' b=>decide (k=k')&&a==b
 | .str a,.str b=>a==b
 | .bool a,.bool b=>a==b
 |_,_=>false
def mpos (k:D):List (D×V)->Option Nat
 |[]=>none
 |e::r=>bif k.keq e.1 then some 0 else(mpos k r).map (·+1)
def mget (es:List (D×V)) (k:D):Option V:=match mpos k es with
 |some j=>(es[j]?).map (·.2)
 |none=>none
def mset (es:List (D×V)) (k:D) (v:V):List (D×V):=match mpos k es with
 |some j=>es.set j (k,v)
 |none=>es++[(k,v)]
def mdel (es:List (D×V)) (k:D):List (D×V):=match mpos k es with
 |some j=>es.eraseIdx j
 |none=>es
def zIs (P:Program) (et:TypeId) (z:V):Prop:=∃i v,P.info? et=some i/\i.zero=some v/\le0 (V.ofK v) z
def zV (P:Program) (et:TypeId):Option V:=(P.info? et).bind fun i=>i.zero.map V.ofK
theorem zIs_mk {P:Program} {et:TypeId} {z0 z:V} (h:zV P et=some z0) (hl:le0 z0 z):zIs P et z:=by
 unfold zV at h;cases hi:P.info? et with
 |none=>rw[hi]at h;cases h
 |some i=>rw[hi]at h;simp only[qer,qv]at h;obtain⟨v,h1,rfl⟩:=h;exact⟨i,v,hi,h1,hl⟩
def mapT (P:Program) (t et:TypeId) (d:TypeDesc):Prop:=∃kt,P.underlying t=some (.map kt et)/\P.underlying kt=some d
def mapOf (h:Hp) (x:V) (es:List (D×V)):Prop:=(∃id,x= .mp id/\h.get id=some (.map (.m es)))∨(x= .k (.map none)/\es=[])
def notTupV:V->Prop
 | .tup _=>False
 |_=>True
def lookV (P:Program) (h:Hp) (ev:Operand->V) (t:TypeId) (x i:Operand) (c:Bool) (r:V):Prop:=∃et d k es z,mapT P t et d/\ev i= .d k/\k.isKey d/\mapOf h (ev x) es/\(∀e∈es,e.1.isKey d)/\zIs P et z/\
 r=(bif c then .tup [(mget es k).getD z,.d (.bool (mget es k).isSome)]else(mget es k).getD z)
def AOpX (P:Program) (_:Nat) (o:Oper) (K:St->Prop) (s:St):Prop:=match o.op with
 | .makeMap t r=>(match r with
   |none=>True
   |some x=>(∃kt et,P.underlying t=some (.map kt et))/\∃q n,s.ev x= .d (.int q n))/\K (St.put ⟨s.sl,(s.nx,.map (.m []))::s.h,s.nx+1⟩ o.dst (.mp s.nx))
 | .lookup t x i c=>∃r,lookV P s.h s.ev t x i c r/\K (s.put o.dst r)
 | .mapUpdate t m k v=>noIt s.h/\∃et d kd es id,mapT P t et d/\s.ev k= .d kd/\kd.isKey d/\s.ev m= .mp id/\s.h.get id=some (.map (.m es))/\(∀e∈es,e.1.isKey d)/\∃y,le0 (s.ev v) y/\notTupV y/\
   K (St.put ⟨s.sl,(id,.map (.m (mset es kd y)))::s.h,s.nx⟩ o.dst .any)
 | .range t x=>∃et d es id,mapT P t et d/\s.ev x= .mp id/\s.h.get id=some (.map (.m es))/\K (St.put ⟨s.sl,(s.nx,.map (.it id es none))::s.h,s.nx+1⟩ o.dst (.ptr s.nx 0))
 | .next x b=>b=false/\∃id mid es rest last,s.ev x= .ptr id 0/\s.h.get id=some (.map (.it mid rest last))/\s.h.get mid=some (.map (.m es))/\
   (rest=[]->K (St.put ⟨s.sl,(id,.dead)::s.h,s.nx⟩ o.dst (.tup [.d (.bool false)])))/\
   ∀j e,rest[j]? =some e->K (St.put ⟨s.sl,(id,.map (.it mid (rest.eraseIdx j) (some e)))::s.h,s.nx⟩ o.dst (.tup [.d (.bool true),.d e.1,e.2]))
 | .entry x=>∃id mid es rest e,s.ev x= .ptr id 0/\s.h.get id=some (.map (.it mid rest (some e)))/\s.h.get mid=some (.map (.m es))/\K (s.put o.dst (.tup [.d e.1,e.2]))
 | .call c=>(match c.callee with
  | .builtin .delete=>(c.args.size=2/\c.argTypes.size=2)/\noIt s.h/\∃et d kd es id,mapT P (c.argTypes.getD 0 0) et d/\s.ev (c.args.getD 1 (.const .nilIface))= .d kd/\kd.isKey d/\s.ev (c.args.getD 0 (.const .nilIface))= .mp id/\s.h.get id=some (.map (.m es))/\(∀e∈es,e.1.isKey d)/\
    K (St.put ⟨s.sl,(id,.map (.m (mdel es kd)))::s.h,s.nx⟩ o.dst .any)
  | .builtin .len=>(c.args.size=1/\c.argTypes.size=1)/\∃et d es id,mapT P (c.argTypes.getD 0 0) et d/\s.ev (c.args.getD 0 (.const .nilIface))= .mp id/\s.h.get id=some (.map (.m es))/\K (s.put o.dst (.d (.int .i64 es.length)))
  |_=>False)
 |_=>False
section
variable {P:Program} {T:Tk} {G0 G:Gh} {w0 w:World} {N:Nat} {s:St} {a:Act} {h:Hp} {nx:Nat}
theorem key_rep {m:Nat->Nat} {v:Value} {x:D} {d:TypeDesc} (hr:RepD m w v x) (hk:x.isKey d):MapKept.IsKey d v:=by
 cases hr with
 |int k n=>have hk:d= .int k:=hk;subst hk;rfl
 |bool b=>have hk:d= .bool:=hk;subst hk;trivial
 |str s=>have hk:d= .string:=hk;subst hk;trivial
 |nil=>exact hk.elim
 |slice=>exact hk.elim
theorem kqa {m:Nat->Nat} {u v:Value} {x y:D} {d:TypeDesc} (hu:RepD m w u x) (hv:RepD m w v y) (hx:x.isKey d) (hy:y.isKey d):Instr.sameNow d u v=some (x.keq y)/\(x.keq y=true->u=v/\x=y):=by
  cases hu with
  | int k n=>
    have hx:d= .int k:=hx;subst hx;cases hv with
    | int k' n' =>have hy:TypeDesc.int k= .int k' :=hy;injection hy with hy;subst hy;refine⟨by simp[Instr.sameNow,D.keq],fun h=> ?_⟩;simp[D.keq]at h;subst h;exact⟨rfl,rfl⟩
    |bool=>cases (show TypeDesc.int k= .bool from hy)
    |str=>cases (show TypeDesc.int k= .string from hy)
    |nil=>exact hy.elim
    |slice=>exact hy.elim
  | bool b=>
    have hx:d= .bool:=hx;subst hx;cases hv with
    |int k' n' =>cases (show TypeDesc.bool= .int k' from hy)
    | bool b' => exact ⟨rfl, fun h => by have h:b=b' :=by simpa[D.keq]using h
                                         subst h;exact⟨rfl,rfl⟩⟩
    |str=>cases (show TypeDesc.bool= .string from hy)
    |nil=>exact hy.elim
    |slice=>exact hy.elim
  | str b=>
    have hx:d= .string:=hx;subst hx;cases hv with
    |int k' n' =>cases (show TypeDesc.string= .int k' from hy)
    |bool b' =>cases (show TypeDesc.string= .bool from hy)
    | str b' => exact ⟨rfl, fun h => by have h:b=b' :=(MapKept.bytes_beq b b').1 h
                                        subst h;exact⟨rfl,rfl⟩⟩
    |nil=>exact hy.elim
    |slice=>exact hy.elim
  |nil=>exact hx.elim
  |slice=>exact hx.elim
theorem k4g {m:Nat->Nat} {kv:Value} {k:D} {d:TypeDesc} (hk:RepD m w kv k) (hd:k.isKey d):∀(ms:List MapEntry) (es:List (D×V)) (i:Nat),ms.length=es.length->
  (∀(j:Nat) (x:MapEntry) (e:D×V),ms[j]? =some x->es[j]? =some e->RepD m w x.key e.1)->(∀e∈es,e.1.isKey d)->
  (mpos k es=none/\Instr.findNow d kv ms i=some none)∨∃j x e,mpos k es=some j/\ms[j]? =some x/\es[j]? =some e/\Instr.findNow d kv ms i=some (some (i+j,x.val))/\x.key=kv
 |[],[],_,_,_,_=> .inl ⟨rfl,rfl⟩
 |[],_::_,_,h,_,_=>by simp at h
 |_::_,[],_,h,_,_=>by simp at h
 |x::ms,e::es,i,hl,hr,hi=>by
  obtain⟨h1,h2⟩:=kqa hk (hr 0 x e rfl rfl) hd (hi e qqs);cases hq:k.keq e.1 with
  |true=>refine .inr ⟨0,x,e,by simp[mpos,hq],rfl,rfl,?_,(h2 hq).1.symm⟩;simp[Instr.findNow,h1,hq]
  |false=>
   rcases k4g hk hd ms es (i+1) (by simpa using hl) (fun j x' e' hx he=>hr (j+1) x' e' hx he) (fun e' he=>hi e' (by simp[he]))with⟨g1,g2⟩|⟨j,x',e',g1,g2,g3,g4,g5⟩
   ·exact .inl ⟨by simp[mpos,hq,g1],by simp[Instr.findNow,h1,hq,g2]⟩
   ·exact .inr ⟨j+1,x',e',by simp[mpos,hq,g1],g2,g3,by simp[Instr.findNow,h1,hq,g4];omega,g5⟩
theorem zIs_rep {et:TypeId} {z:V} (hz:zIs P et z):∃v,(zeroValue et).run P w= .ok v w/\RepV G w h nx v z:=by obtain⟨i,v,hi,hv,hz⟩:=hz;exact⟨v,by simp[zeroValue,typeInfo,hi,hv],(ofK_rep v).le0 hz⟩
theorem RepV.d_inv {v:Value} {x:D} (hv:RepV G w h nx v (.d x)):RepD G.lim w v x:=by
 generalize hx:V.d x=y at hv;cases hv<;>first|cases hx|skip
 rename_i hd;exact hd
theorem RepV.map_inv {v:Value} {id:Nat} (hv:RepV G w h nx v (.mp id)):∃b,v= .map (some b)/\id<nx/\G.loc id=some b:=by
 generalize hx:V.mp id=y at hv;cases hv<;>first|cases hx|skip
 rename_i b hid hl;exact⟨b,rfl,hid,hl⟩
theorem keh {t kt et:TypeId} {d:TypeDesc} {x i v:Value} {ms:List MapEntry} {c b:Bool} (hu:P.underlying t=some (.map kt et)) (hkt:P.underlying kt=some d) (hkey:MapKept.IsKey d i)
  (hx:(∃r clk,x= .map (some r)/\w.heap[r]? =some (.map (List.toArray ms) clk))∨(x= .map none/\ms=[]))
  (hf:(∃j,b=true/\Instr.findNow d i ms 0=some (some (j,v)))∨(b=false/\Instr.findNow d i ms 0=some none/\(zeroValue et).run P w= .ok v w)):
  (Instr.lookup t x i c).run P w= .ok (if c then .tuple #[v,.bool b]else v) w:=by
 have hck:∀em,(Instr.checkKey em 10000 kt i).run P w= .ok () w:=fun em=>MapKept.run_checkKey hkt hkey em 9999;rcases hx with⟨r,clk,rfl,hr⟩|⟨rfl,rfl⟩<;>rcases hf with⟨j,rfl,hf⟩|⟨rfl,hf,hz⟩
 ·simp[Instr.lookup,qz hu,MapKept.run_getObj_map hr,hck,MapKept.run_findKey hkt hf,Result.andThen]
 ·simp[Instr.lookup,qz hu,MapKept.run_getObj_map hr,hck,MapKept.run_findKey hkt hf,hz,Result.andThen]
 ·simp[Instr.findNow]at hf
 ·simp[Instr.lookup,qz hu,hck,MapKept.run_findKey hkt hf,hz,Result.andThen]
theorem MoR.ext {G' :Gh} {w' :World} {h' :Hp} {nx' id:Nat} {x:MO} (hr:MoR G w h nx id x) (he:Ext G w h nx G' w' h' nx') (hid:id<nx) (hb:∀b,G.loc id=some b->w'.heap[b]? =w.heap[b]?)
  (hm:∀mid rest last es,x= .it mid rest last->h'.get mid=some (.map (.m es))->h.get mid=some (.map (.m es))/\∀bm,G.loc mid=some bm->w'.heap[bm]? =w.heap[bm]?):MoR G' w' h' nx' id x:=by
 cases x with
 |m es=>obtain⟨b,clk,ms,h1,h2,h3,h4⟩:=hr;exact⟨b,clk,ms,he.loc id b hid h1,(hb b h1).trans h2,h3.ext he,h4⟩
 |it mid rest last=>obtain⟨b,bm,since,seen,c0,h1,h2,h3,h4,h5,h6⟩:=hr;refine⟨b,bm,since,seen,c0,he.loc id b hid h1,(hb b h1).trans h2,qas h3 he.hnx,he.loc mid bm h3 h4,h5,fun es hm' => ?_⟩;obtain⟨q1,q2⟩:=hm mid rest last es rfl hm';obtain⟨clk,ms,r1,r2,r3,r4⟩:=h6 es q1;refine⟨clk,ms,(q2 bm h4).trans r1,r2,r3.ext he,fun e hl=> ?_⟩;obtain⟨n1,m,seen0,n2,n3,n4,n5⟩:=r4 e hl;exact⟨n1,m,seen0,n2,n3,n4.mono he.mono,n5.ext he⟩
theorem R.allocMO (hR:R T G0 w0 N s a G w) (o:Obj) (x:MO)
  (hx:∀G' w' h' nx',Ext G w s.h s.nx G' w' h' nx'->G'.loc s.nx=some w.heap.size->w'.heap[w.heap.size]? =some o->(∀b,b<w.heap.size->w'.heap[b]? =w.heap[b]?)->(∀i,i<s.nx->h'.get i=s.h.get i)->MoR G' w' h' nx' s.nx x):
  ∃G',R T G0 w0 N ⟨s.sl,(s.nx,.map x)::s.h,s.nx+1⟩ a G' (w.alloc o)/\G'.loc s.nx=some w.heap.size:=by
 have hw:=hR.wr;let G' :Gh:=⟨fun i=>if i=s.nx then some w.heap.size else G.loc i,fun i=>if i=s.nx then none else G.tloc i,G.lim⟩;have hll:∀i,i<s.nx->G'.loc i=G.loc i/\G'.tloc i=G.tloc i:=fun i hi=>by simp[G',show i≠s.nx by omega]
 have hge:∀i,i<s.nx->Hp.get ((s.nx,.map x)::s.h) i=s.h.get i:=fun i hi=>by simp[Hp.get,show i≠s.nx by omega]
 have he:=kgi (w0:=w0) hw o G' ((s.nx,.map x)::s.h) (fun _ _=>rfl) hll hge (nx' :=s.nx+1) qqo;have hG:G'.loc s.nx=some w.heap.size:=by simp[G']
 refine⟨G',⟨hR.fr.alloc hw.lim _ G' (fun _ _=>rfl),⟨?_,?_,?_,?_,?_,?_⟩,hR.df,hR.sz,fun t=>(hR.sl t).ext he,hR.ex.ext he⟩,hG⟩
 ·intro id l' hl';simp only[Hp.get]at hl';split at hl'
  ·cases hl'
  ·have hid:=hw.hid id _ hl';rcases hw.obj id l' hl' with⟨z1,z2⟩|⟨b,e',cs',h1,h2,h3,h4,h5,h6⟩
   ·exact .inl ⟨z1,by rw[(hll id hid).1];exact z2⟩
   have hb:=(hw.here id b hid (.inl h1)).1;exact .inr ⟨b,e',cs',by rw[(hll id hid).1];exact h1,by rw[Below.heap_alloc w _ b hb];exact h2,h3,h4,h5,fun j v x hv hx=>(h6 j v x hv hx).ext he⟩
 ·intro id es hes;by_cases hi:id=s.nx
  ·subst hi;obtain rfl:x=es:=by simpa[Hp.get]using hes
   exact hx _ _ _ _ he hG (qcw w _) (fun b hb=>Below.heap_alloc w _ b hb) hge
  ·have hes' :s.h.get id=some (.map es):=by simpa[Hp.get,hi]using hes
   have hid:=hw.hid id _ hes';refine(hw.mob id es hes').ext he hid (fun b hb=>Below.heap_alloc w _ b (hw.here id b hid (.inl hb)).1) fun mid rest last es0 hxe hm=> ?_;subst hxe;obtain⟨_,_,_,_,_,_,_,q,_⟩:=hw.mob id _ hes';rw[hge mid q]at hm;exact⟨hm,fun bm hbm=>Below.heap_alloc w _ bm (hw.here mid bm q (.inl hbm)).1⟩
 ·intro id b hid hb;have hid:id<s.nx+1:=hid;by_cases hi:id=s.nx
  ·subst hi;simp[G']at hb;subst hb;have:=hR.fr.size;exact⟨by simp,.inl this⟩
  ·have h1:=hll id qqo;rw[h1.1,h1.2]at hb;obtain⟨h2,h3⟩:=hw.here id b qqo hb;exact⟨by simp;omega,h3⟩
 ·intro i j b hi hj hbi hbj li lj
  have key:∀i,i<s.nx+1->(G'.loc i=some b∨G'.tloc i=some b)->(i=s.nx/\b=w.heap.size)∨(i<s.nx/\b<w.heap.size/\(G.loc i=some b∨G.tloc i=some b)):=by
   intro i hi hb;by_cases h0:i=s.nx
   ·subst h0;simp[G']at hb;exact .inl ⟨rfl,hb.symm⟩
   ·have h1:=hll i qqo;rw[h1.1,h1.2]at hb;exact .inr ⟨by omega,(hw.here i b qqo hb).1,hb⟩
  rcases key i hi hbi with⟨h1,h2⟩|⟨h1,h2,h3⟩<;>rcases key j hj hbj with⟨h4,h5⟩|⟨h4,h5,h6⟩
  ·omega
  ·omega
  ·omega
  ·exact hw.inj i j b h1 h4 h3 h6 (live_eq (hge i h1) li) (live_eq (hge j h4) lj)
 ·intro id ob hg;show id<s.nx+1;simp only[Hp.get]at hg;split at hg
  ·omega
  ·have:=hw.hid id ob hg;omega
 ·intro b hb;exact hw.lim b (by simp at hb;omega)
theorem EntR.nil:EntR G w h nx [] []:=⟨rfl,(fun e he=>by cases he),(fun j m e hm=>by simp at hm)⟩
theorem Stp.nil (clk:Nat):Stp [] clk:=⟨(fun m hm=>by cases hm),qfq⟩
theorem R.allocMap (hR:R T G0 w0 N s a G w):
  ∃G',R T G0 w0 N ⟨s.sl,(s.nx,.map (.m []))::s.h,s.nx+1⟩ a G' (w.alloc (.map #[] 0))/\RepV G' (w.alloc (.map #[] 0)) ((s.nx,.map (.m []))::s.h) (s.nx+1) (.map (some w.heap.size)) (.mp s.nx):=by
 obtain⟨G',h1,h2⟩:=hR.allocMO (.map #[] 0) (.m []) fun G' w' h' nx' _ h1 h2 _ _=>⟨_,0,[],h1,h2,.nil,.nil 0⟩;exact⟨G',h1,.mp _ _ qqo h2⟩
theorem R.moAt (hR:R T G0 w0 N s a G w) {id b:Nat} {x x' :MO} {o o' :Obj} (hg:s.h.get id=some (.map x)) (hb:G.loc id=some b) (ho:w.heap[b]? =some o) (hno:∀c e p,o≠ .cells c e p) (hno' :∀c e p,o'≠ .cells c e p) (hni:(∃es,x' = .m es)->noIt s.h)
  (hx:∀w' h',Ext G w s.h s.nx G w' h' s.nx->w'.heap[b]? =some o'->(∀b',b'≠b->w'.heap[b']? =w.heap[b']?)->(∀i,i≠id->h'.get i=s.h.get i)->MoR G w' h' s.nx id x'):
  R T G0 w0 N ⟨s.sl,(id,.map x')::s.h,s.nx⟩ a G {w with heap:=w.heap.setIfInBounds b o'}/\Ext G w s.h s.nx G {w with heap:=w.heap.setIfInBounds b o'} ((id,.map x')::s.h) s.nx:=by
 have hw:=hR.wr;have hid:id<s.nx:=hw.hid _ _ hg;have hset:=MapKept.heap_set (o' :=o') ho;have oth:∀b',b'≠b->({w with heap:=w.heap.setIfInBounds b o'}:World).heap[b']? =w.heap[b']? :=hset.2
 have he:Ext G w s.h s.nx G {w with heap:=w.heap.setIfInBounds b o'} ((id,.map x')::s.h) s.nx:=by
  refine⟨?_,qt _,fun _ _ _ h=>h,?_,?_⟩
  ·intro b' q v g1 g2;by_cases hbb:b' =b
   ·subst hbb;exfalso;cases o<;>first|exact hno _ _ _ rfl|simp[World.cell?,ho]at g2
   ·exact⟨g1,by rw[World.cell?_of_block (w:=w) (a:=⟨b',q,none⟩) (oth b' hbb)];exact g2⟩
  ·intro tok t' ht g1;simp only[Hp.get]at g1;split at g1
   ·cases g1
   ·rename_i hti;refine⟨t',g1,qt _,fun _ b' hb' => ?_⟩;have hbb:b'≠b:=fun h=>hti (hw.inj tok id b ht hid (.inr (h▸hb')) (.inl hb) (k1b g1) (k1g hg));exact⟨hb',oth b' hbb,rfl⟩
  ·intro b' n hn;by_cases hbb:b' =b
   ·subst hbb;cases o<;>first|exact absurd rfl (hno _ _ _)|simp[csz,ho]at hn
   ·rw[k3h (oth b' hbb)];exact hn
 refine⟨⟨⟨hR.fr.os,hR.fr.tape,hR.fr.output,by simpa using hR.fr.size,fun b' hb' hT=> ?_,hR.fr.mono.trans he.mono⟩,⟨?_,?_,?_,?_,?_,?_⟩,hR.df,hR.sz,fun t=>(hR.sl t).ext he,hR.ex.ext he⟩,he⟩
 ·have hne:b'≠b:=by
   rintro rfl;rcases(hw.here id b' hid (.inl hb)).2 with h|h
   ·omega
   ·exact hT h
  obtain⟨g1,g2⟩:=hR.fr.same b' hb' hT;exact⟨(oth b' hne).trans g1,g2⟩
 ·intro id' l hl;simp only[Hp.get]at hl;split at hl
  ·cases hl
  ·rcases hw.obj id' l hl with h0|⟨b',e,cs,g1,g2,g3,g4,g5,g6⟩
   ·exact .inl h0
   have hbb:b'≠b:=by rintro rfl;rw[ho]at g2;injection g2 with g2;exact hno _ _ _ g2
   exact .inr ⟨b',e,cs,g1,(oth b' hbb).trans g2,g3,g4,g5,fun j v x hv hx=>(g6 j v x hv hx).ext he⟩
 ·intro id' x2 hes;by_cases hii:id' =id
  ·subst hii;obtain rfl:x' =x2:=by simpa[Hp.get]using hes
   exact hx _ _ he hset.1 oth (fun i hi=>by simp[Hp.get,hi])
  ·have hes' :s.h.get id' =some (.map x2):=by simpa[Hp.get,hii]using hes
   have hid' :=hw.hid _ _ hes';refine(hw.mob id' x2 hes').ext he hid' (fun b' hb' =>oth b' fun h=>hii (hw.inj id' id b hid' hid (.inl (h▸hb')) (.inl hb) (k1g hes') (k1g hg))) fun mid rest last es hxe hm=> ?_;subst hxe;by_cases hmi:mid=id
   ·subst hmi;have:x' = .m es:=by simpa[Hp.get]using hm
    exact(hni ⟨es,this⟩ _ _ hes').elim
   ·have hm' :s.h.get mid=some (.map (.m es)):=by simpa[Hp.get,hmi]using hm
    exact⟨hm',fun bm hbm=>oth bm fun h=>hmi (hw.inj mid id b (hw.hid _ _ hm') hid (.inl (h▸hbm)) (.inl hb) (k1g hm') (k1g hg))⟩
 ·intro id' b' hi hb';have:=hw.here id' b' hi hb';exact⟨by simpa using this.1,this.2⟩
 ·intro i j b' hi hj g1 g2 l1 l2;exact hw.inj i j b' hi hj g1 g2 (k1c (k1g hg) l1) (k1c (k1g hg) l2)
 ·intro id' ob hgo;simp only[Hp.get]at hgo;split at hgo
  ·rename_i h;subst h;exact hid
  ·exact hw.hid id' ob hgo
 ·intro b' hb';exact hw.lim b' (by simpa using hb')
theorem R.mapAt (hR:R T G0 w0 N s a G w) (hni:noIt s.h) {id b clk clk' :Nat} {es es' :List (D×V)} {ms ms' :List MapEntry} (hg:s.h.get id=some (.map (.m es))) (hb:G.loc id=some b) (ho:w.heap[b]? =some (.map (List.toArray ms) clk)) (hent:EntR G w s.h s.nx ms' es') (hst:Stp ms' clk'):
  R T G0 w0 N ⟨s.sl,(id,.map (.m es'))::s.h,s.nx⟩ a G {w with heap:=w.heap.setIfInBounds b (.map (List.toArray ms') clk')}:=
 (hR.moAt (x' := .m es') hg hb ho (fun _ _ _ h=>by cases h) (fun _ _ _ h=>by cases h) (fun _=>hni) fun w' h' he hbo _ _=>⟨b,clk',ms',hb,hbo,hent.ext he,hst⟩).1
theorem kkd (hR:R T G0 w0 N s a G w) {t:TypeId} {x i:Operand} {c:Bool} {r:V} (ho:lookV P s.h s.ev t x i c r):∃v,(Instr.lookup t (a.eval x) (a.eval i) c).run P w= .ok v w/\RepV G w s.h s.nx v r:=by
 have hev:=hR.ev;have hw:=hR.wr;obtain⟨et,d,k,es,z,⟨kt,hu,hkt⟩,hi,hk,hm,hks,hz,rfl⟩:=ho;obtain⟨zv,hz1,hz2⟩:=zIs_rep (G:=G) (w:=w) (h:=s.h) (nx:=s.nx) hz;have hvi:=hev i;rw[hi]at hvi;have hdi:=hvi.d_inv;have hkey:=key_rep hdi hk;have hvx:=hev x
 have main:∃ms:List MapEntry,((∃r clk,a.eval x= .map (some r)/\w.heap[r]? =some (.map (List.toArray ms) clk))∨(a.eval x= .map none/\ms=[]))/\ms.length=es.length/\(∀(j:Nat) (m:MapEntry) (e:D×V),ms[j]? =some m->es[j]? =some e->RepD G.lim w m.key e.1/\RepV G w s.h s.nx m.val e.2)/\∀e∈es,∀l,e.2≠V.tup l:=by
  rcases hm with⟨id,hx,hg⟩|⟨hx,rfl⟩
  ·rw[hx]at hvx;obtain⟨b,hb,hid,hl⟩:=hvx.map_inv;obtain⟨b',clk,ms,g1,g2,⟨g3,g0,g4⟩,_⟩:=hw.mob id _ hg;obtain rfl:b=b' :=by rw[hl]at g1;injection g1
   exact⟨ms,.inl ⟨b,clk,hb,g2⟩,g3,g4,g0⟩
  ·rw[hx]at hvx;exact⟨[],.inr ⟨hvx.k_inv,rfl⟩,rfl,fun j m e hm=>by simp at hm,fun e he=>by simp at he⟩
 obtain⟨ms,m1,m2,m3,m4⟩:=main
 have put:∀(v:Value) (b:Bool) (y:V),RepV G w s.h s.nx v y->RepV G w s.h s.nx (if c then .tuple #[v,.bool b]else v) (bif c then .tup [y,.d (.bool b)]else y):=by
  intro v b y hy;cases c with
  |false=>exact hy
  |true=>
   refine .tup [v,.bool b] [y,.d (.bool b)] rfl fun j u z hu hz=> ?_
   match j with
   |0=>simp at hu hz;subst hu;subst hz;exact hy
   |1=>simp at hu hz;subst hu;subst hz;exact .d _ _ (.bool b)
   |j+2=>simp at hu
 rcases k4g hdi hk ms es 0 m2 (fun j x e hx he=>(m3 j x e hx he).1) hks with⟨p1,p2⟩|⟨j,y,e,p1,p2,p3,p4,p5⟩
 ·have e1:mget es k=none:=by unfold mget;rw[p1]
  rw[e1];exact⟨_,keh hu hkt hkey m1 (.inr ⟨rfl,p2,hz1⟩),put zv false z hz2⟩
 ·have e1:mget es k=some e.2:=by unfold mget;rw[p1];simp[p3]
  rw[e1];exact⟨_,keh hu hkt hkey m1 (.inl ⟨_,rfl,p4⟩),put y.val true e.2 (m3 j y e p2 p3).2⟩
def updV (P:Program) (h:Hp) (ev:Operand->V) (t:TypeId) (m k v:Operand) (id:Nat) (es' :List (D×V)):Prop:=∃et d kd es,mapT P t et d/\ev k= .d kd/\kd.isKey d/\ev m= .mp id/\h.get id=some (.map (.m es))/\(∀e∈es,e.1.isKey d)/\∃y,le0 (ev v) y/\notTupV y/\es' =mset es kd y
theorem Stp.snoc {ms:List MapEntry} {clk:Nat} (h:Stp ms clk) (k v:Value):Stp (ms++[{key:=k,val:=v,born:=clk}]) (clk+1):=by
 refine⟨fun m hm=> ?_,?_⟩
 ·rcases qal.1 hm with hm|hm
  ·have:=h.1 m hm;omega
  ·rw[qav.1 hm];exact Nat.lt_succ_self clk
 ·rw[qbm,qck];refine⟨h.2,by simp,fun x hx y hy=> ?_⟩;obtain⟨m,hm,rfl⟩:=qag.1 hx;have:=h.1 m hm;simp at hy;omega
theorem Stp.set {ms:List MapEntry} {clk:Nat} (h:Stp ms clk) (j:Nat) (m:MapEntry) (hb:∀x,ms[j]? =some x->m.born=x.born):Stp (ms.set j m) clk:=by
 have e:(ms.set j m).map (·.born)=ms.map (·.born):=by
  apply qcy;intro q;rw[ql,ql,qcj];split
  ·rename_i hq;subst hq;split
   ·rename_i hl;rw[qd hl];simp[hb _ (qd hl)]
   ·rename_i hl;rw[qdd qqo]
  ·rfl
 refine⟨fun x hx=> ?_,by rw[e];exact h.2⟩;have:x.born∈ms.map (·.born):=by rw[<-e];exact qag.2 ⟨x,hx,rfl⟩
 obtain⟨y,hy,hyx⟩:=qag.1 this;rw[<-hyx];exact h.1 y hy
theorem Stp.erase {ms:List MapEntry} {clk:Nat} (h:Stp ms clk) (j:Nat):Stp (ms.eraseIdx j) clk:=by refine⟨fun m hm=>h.1 m (qfa hm),?_⟩;have:=List.Sublist.map (·.born) (List.eraseIdx_sublist ms j);exact this.nodup h.2
theorem EntR.erase {ms:List MapEntry} {es:List (D×V)} (hr:EntR G w h nx ms es) (j:Nat):EntR G w h nx (ms.eraseIdx j) (es.eraseIdx j):=by
 obtain⟨h1,h2,h3⟩:=hr;refine⟨by rw[List.length_eraseIdx,List.length_eraseIdx,h1],fun e he=>h2 e (qfa he),fun q m e hm he=> ?_⟩;rw[List.getElem?_eraseIdx]at hm he;split at hm
 ·rename_i hq;rw[qh hq]at he;exact h3 q m e hm he
 ·rename_i hq;rw[qe hq]at he;exact h3 (q+1) m e hm he
theorem upd_run (hR:R T G0 w0 N s a G w) (hni:noIt s.h) {t:TypeId} {m k v:Operand} {id:Nat} {es' :List (D×V)} (ho:updV P s.h s.ev t m k v id es'):
  ∃w',(Instr.mapUpdate t (a.eval m) (a.eval k) (a.eval v)).run P w= .ok () w'/\R T G0 w0 N ⟨s.sl,(id,.map (.m es'))::s.h,s.nx⟩ a G w' :=by
 have hev:=hR.ev;have hw:=hR.wr;obtain⟨et,d,kd,es,⟨kt,hu,hkt⟩,hk0,hk,hm,hg,hks,y,hly,hnt,rfl⟩:=ho;have hvk:=hev k;rw[hk0]at hvk;have hdk:=hvk.d_inv;have hkey:=key_rep hdk hk;have hvm:=hev m;rw[hm]at hvm;obtain⟨b,hvme,hid,hl⟩:=hvm.map_inv;obtain⟨b',clk,ms,g1,g2,⟨g3,g0,g4⟩,gs⟩:=hw.mob id _ hg;obtain rfl:b=b' :=by rw[hl]at g1;injection g1
 have hvv:=(hev v).le0 hly;have hnv:∀l,y≠V.tup l:=fun l e=>by rw[e]at hnt;exact hnt
 rcases k4g hdk hk ms es 0 g3 (fun j x e hx he=>(g4 j x e hx he).1) hks with⟨p1,p2⟩|⟨j,x,e,p1,p2,p3,p4,p5⟩
 ·have hR' :=hR.mapAt hni (clk' :=clk+1) hg hl g2 (es' :=es++[(kd,y)]) (ms' :=ms++[{key:=a.eval k,val:=a.eval v,born:=clk}]) ⟨by simp[g3],
   (fun e he l=>by
    rcases qal.1 he with he|he
    ·exact g0 e he l
    ·rw[qav.1 he];exact hnv l),
   (fun j m e hm he=>by
    rw[qdh]at hm he;rw[g3]at hm;split at hm
    ·rename_i hj;rw[qh hj]at he;exact g4 j m e hm he
    ·rename_i hj;rw[qe hj]at he;cases hq:j-es.length with
     |zero=>rw[hq]at hm he;simp at hm he;subst hm;subst he;exact⟨hdk,hvv⟩
     |succ q=>rw[hq]at hm;simp at hm)⟩ (gs.snoc _ _)
  have e1:mset es kd y=es++[(kd,y)]:=by unfold mset;rw[p1]
  rw[e1];refine⟨_,?_,hR'⟩;rw[hvme];simp[Instr.mapUpdate,qz hu,MapKept.run_getObj_map g2,MapKept.run_checkKey hkt hkey,MapKept.run_findKey hkt p2,MapKept.run_setObj_map _ g2,Result.andThen]
 ·have hR' :=hR.mapAt hni (clk' :=clk) hg hl g2 (es' :=es.set j (kd,y)) (ms' :=ms.set j {key:=a.eval k,val:=a.eval v,born:=x.born}) ⟨by simp[g3],
   (fun e he l=>by
    rcases qex he with he|he
    ·exact g0 e he l
    ·rw[he];exact hnv l),
   (fun j' m e hm he=>by
    rw[qcj]at hm he;split at hm
    ·rename_i hj;rw[qh hj]at he;split at hm
     ·split at he
      ·injection hm with hm;injection he with he;subst hm;subst he;exact⟨hdk,hvv⟩
      ·cases he
     ·cases hm
    ·rename_i hj;rw[qe hj]at he;exact g4 j' m e hm he)⟩ (gs.set _ _ fun z hz=>by rw[p2]at hz;injection hz with hz;rw[<-hz])
  have e1:mset es kd y=es.set j (kd,y):=by unfold mset;rw[p1]
  rw[e1];refine⟨_,?_,hR'⟩;rw[hvme];have hjl:j<ms.length:=(qf.1 p2).1;have hxj:ms[j]'hjl=x:=(qf.1 p2).2;simp[Instr.mapUpdate,qz hu,MapKept.run_getObj_map g2,MapKept.run_checkKey hkt hkey,MapKept.run_findKey hkt p4,p2,p5,MapKept.run_keyThatStays hkey,MapKept.run_setObj_map _ g2,Result.andThen]
  have em:(ms.modify j fun e=>{key:=a.eval k,val:=a.eval v,born:=e.born})=ms.set j {key:=a.eval k,val:=a.eval v,born:=x.born}:=by
   apply qcy;intro q;rw[List.getElem?_modify,qcj];by_cases hq:j=q
   ·subst hq;simp[hjl,hxj]
   ·simp[hq]
  rw[em]
theorem del_run (hR:R T G0 w0 N s a G w) (hni:noIt s.h) {t et ty:TypeId} {ts:Array TypeId} (hts:ts[0]? =some t) {m k:Operand} {d:TypeDesc} {kd:D} {id:Nat} {es:List (D×V)} (hmt:mapT P t et d) (hk0:s.ev k= .d kd) (hk:kd.isKey d) (hm:s.ev m= .mp id) (hg:s.h.get id=some (.map (.m es))) (hks:∀e∈es,e.1.isKey d):
  ∃w',(Builtin.delete_ ts ty #[a.eval m,a.eval k]).run P w= .ok (.tuple #[]) w'/\R T G0 w0 N ⟨s.sl,(id,.map (.m (mdel es kd)))::s.h,s.nx⟩ a G w' :=by
 have hev:=hR.ev;have hw:=hR.wr;obtain⟨kt,hu,hkt⟩:=hmt;have hvk:=hev k;rw[hk0]at hvk;have hdk:=hvk.d_inv;have hkey:=key_rep hdk hk;have hvm:=hev m;rw[hm]at hvm;obtain⟨b,hvme,hid,hl⟩:=hvm.map_inv;obtain⟨b',clk,ms,g1,g2,g3,gs⟩:=hw.mob id _ hg;obtain rfl:b=b' :=by rw[hl]at g1;injection g1
 rcases k4g hdk hk ms es 0 g3.1 (fun j x e hx he=>(g3.2.2 j x e hx he).1) hks with⟨p1,p2⟩|⟨j,x,e,p1,p2,p3,p4,p5⟩
 ·have hR' :=hR.mapAt hni (clk' :=clk) hg hl g2 (es' :=es) (ms' :=ms) g3 gs;have e1:mdel es kd=es:=by unfold mdel;rw[p1]
  rw[e1];refine⟨_,?_,hR'⟩;rw[hvme];simp[Builtin.delete_,hts,qz hu,MapKept.run_getObj_map g2,MapKept.run_checkKey hkt hkey,MapKept.run_findKey hkt p2,MapKept.run_setObj_map _ g2,Result.andThen]
 ·have hR' :=hR.mapAt hni (clk' :=clk) hg hl g2 (es' :=es.eraseIdx j) (ms' :=ms.eraseIdx j) (g3.erase j) (gs.erase j);have e1:mdel es kd=es.eraseIdx j:=by unfold mdel;rw[p1]
  rw[e1];refine⟨_,?_,hR'⟩;rw[hvme];have hjl:j<ms.length:=(qf.1 p2).1;have em:(List.toArray ms).eraseIdxIfInBounds j=List.toArray (ms.eraseIdx j):=by simp[Array.eraseIdxIfInBounds,hjl]
  simp[Builtin.delete_,hts,qz hu,MapKept.run_getObj_map g2,MapKept.run_checkKey hkt hkey,MapKept.run_findKey hkt p4,MapKept.run_setObj_map _ g2,Result.andThen]
theorem knu (hR:R T G0 w0 N s a G w) {t et:TypeId} {x:Operand} {d:TypeDesc} {id:Nat} {es:List (D×V)} (hmt:mapT P t et d) (hm:s.ev x= .mp id) (hg:s.h.get id=some (.map (.m es))):
  ∃v w' G',(Instr.range t (a.eval x)).run P w= .ok v w'/\R T G0 w0 N ⟨s.sl,(s.nx,.map (.it id es none))::s.h,s.nx+1⟩ a G' w'/\RepV G' w' ((s.nx,.map (.it id es none))::s.h) (s.nx+1) v (.ptr s.nx 0):=by
 have hw:=hR.wr;obtain⟨kt,hu,_⟩:=hmt;have hvm:=hR.ev x;rw[hm]at hvm;obtain⟨b,hvme,hid,hl⟩:=hvm.map_inv;obtain⟨b',clk,ms,g1,g2,g3,gs⟩:=hw.mob id _ hg;obtain rfl:b=b' :=by rw[hl]at g1;injection g1
 have hbs:b<w.heap.size:=(hw.here id b hid (.inl hl)).1
 obtain⟨G',h1,h2⟩:=hR.allocMO (.mapIter (some b) clk #[] clk) (.it id es none) fun G' w' h' nx' he h1 h2 h3 h4=>
  ⟨_,b,clk,#[],clk,h1,h2,qas hid he.hnx,he.loc id b hid hl,qt _,fun es2 hm2=>by
   rw[h4 id hid,hg]at hm2;obtain rfl:es=es2:=by simpa using hm2
   have e0:(ms.filter fun m=> !(#[]:Array Nat).contains m.born)=ms:=qew.2 (fun x _=>by simp);exact⟨clk,ms,(h3 b hbs).trans g2,⟨gs.1,rfl⟩,by rw[e0];exact g3.ext he,fun e h=>by cases h⟩⟩
 refine⟨_,_,G',?_,h1,.ptr _ _ _ qqo h2⟩;rw[hvme];simp[Instr.range,qz hu,MapKept.run_getObj_map g2,newObj,Sem.run,Result.andThen]
theorem k9n {α:Type} (f:α->Nat):∀(l:List α) (j:Nat) (e:α),(l.map f).Nodup->l[j]? =some e->l.filter (fun x=> !(f x==f e))=l.eraseIdx j
 |[],j,e,_,h=>by simp at h
 |x::l,0,e,hn,h=>by simp at h;subst h;rw[qae,qcz]at hn;simp only[List.filter_cons,beq_self_eq_true,Bool.not_true,qbd,qdl,List.eraseIdx_cons_zero];apply qew.2;intro y hy;have:f y≠f x:=fun h=>hn.1 (h▸qag.2 ⟨y,hy,rfl⟩);simpa using this
 |x::l,j+1,e,hn,h=>by rw[qae,qcz]at hn;rw[qao]at h;have:f x≠f e:=fun h2=>hn.1 (h2▸qag.2 ⟨e,qbb h,rfl⟩);simp[this,k9n f l j e hn.2 h]
theorem ko8 (hR:R T G0 w0 N s a G w) {x:Operand} (ty:TypeId) {id mid:Nat} {es rest:List (D×V)} {last:Option (D×V)} (hx:s.ev x= .ptr id 0) (hg:s.h.get id=some (.map (.it mid rest last))) (hm:s.h.get mid=some (.map (.m es))):
  (rest=[]/\(Instr.next (a.eval x) false ty).run P w= .ok (.tuple #[.bool false]) w)∨
  ∃j e v w',rest[j]? =some e/\(Instr.next (a.eval x) false ty).run P w= .ok v w'/\R T G0 w0 N ⟨s.sl,(id,.map (.it mid (rest.eraseIdx j) (some e)))::s.h,s.nx⟩ a G w'/\RepV G w' ((id,.map (.it mid (rest.eraseIdx j) (some e)))::s.h) s.nx v (.tup [.d (.bool true),.d e.1,e.2]):=by
 have hw:=hR.wr;have hvx:=hR.ev x;rw[hx]at hvx;obtain⟨b,hvb,hid,hl⟩:∃b,a.eval x= .pointer (some ⟨b,0,none⟩)/\id<s.nx/\G.loc id=some b:=by generalize a.eval x=v at hvx;cases hvx with|ptr _ _ b h1 h2=>exact⟨b,rfl,h1,h2⟩
 obtain⟨b',bm,since,seen,c0,g1,g2,g3,g4,g5,g6⟩:=hw.mob id _ hg;obtain rfl:b=b' :=by rw[hl]at g1;injection g1
 obtain⟨clk,ms,k1,k2,k3,_⟩:=g6 es hm;obtain⟨bm',clk',ms',q1,q2,q3,q4⟩:=hw.mob mid _ hm;obtain rfl:bm=bm' :=by rw[g4]at q1;injection q1
 obtain⟨rfl,rfl⟩:ms=ms'/\clk=clk' :=by rw[k1]at q2;injection q2 with q2;injection q2 with q2 q2';exact⟨by simpa using congrArg Array.toList q2,q2'⟩
 rw[hvb];have hlo:(leftOf (List.toArray ms) seen).toList=ms.filter fun m=> !seen.contains m.born:=by simp[leftOf]
 rcases run_next_at (P:=P) w ty b bm since c0 seen (List.toArray ms) clk g2 k1 (fun x hx=>k2.1 x (by simpa using hx)) g5 with⟨r1,r2⟩|⟨me,r1,w1,r2,r3⟩
 ·have h0:(ms.filter fun m=> !seen.contains m.born).length=0:=by rw[<-hlo];simpa using r1
  exact .inl ⟨qac (by rw[<-k3.1];exact h0),r2⟩
 ·rw[hlo]at r1;obtain⟨j,hj⟩:=qcf r1;have hjl:j<rest.length:=by have:=(qf.1 hj).1;rw[k3.1]at this;exact this
  have hR1:R T G0 w0 N s a G w1:=by rcases r2 with rfl|rfl<;>first|exact hR|exact hR.drew
  have hh:w1.heap=w.heap:=by rcases r2 with rfl|rfl<;>rfl
  obtain⟨t1,t2⟩:=k3.2.2 j me _ hj (qd hjl);have e1:Ext G w s.h s.nx G w1 s.h s.nx:=by rcases r2 with rfl|rfl<;>first|exact Ext.refl _ _ _ _|exact Ext.drew _ _ _ _
  obtain⟨hR2,he2⟩:=hR1.moAt (x' := .it mid (rest.eraseIdx j) (some rest[j])) (o' := .mapIter (some bm) since (seen.push me.born) clk) hg hl (by rw[hh];exact g2) (fun _ _ _ h=>by cases h) (fun _ _ _ h=>by cases h) (fun⟨_,h⟩=>by cases h)
   fun w' h' he hbo hoth hget=>by
    have hmi:mid≠id:=fun h=>by subst h;rw[hg]at hm;cases hm
    have hbb:bm≠b:=fun h=>hmi (hw.inj mid id b qqo hid (.inl (h▸g4)) (.inl hl) (k1g hm) (k1g hg));refine⟨b,bm,since,seen.push me.born,clk,hl,hbo,g3,g4,by rw[<-k2.2];exact g5,fun es2 hm2=>⟨clk,ms,(hoth bm hbb).trans (by rw[hh];exact k1),⟨k2.1,rfl⟩,?_,fun e he2=> ?_⟩⟩;have e2:(ms.filter fun m=> !(seen.push me.born).contains m.born)=(ms.filter fun m=> !seen.contains m.born).eraseIdx j:=by rw[<-k9n (·.born) (ms.filter fun m=> !seen.contains m.born) j me ((List.Sublist.map _ List.filter_sublist).nodup q4.2) hj,List.filter_filter];congr 1;funext m;simp only[Array.contains_push];cases (seen.contains m.born)<;>cases (m.born==me.born)<;>rfl
    rotate_left
    ·injection he2 with he2;subst he2;exact⟨k3.2.1 _ (qak hjl),me,seen,(List.mem_filter.1 r1).1,rfl,(t1.mono e1.mono).mono he.mono,(t2.ext e1).ext he⟩
    rw[e2];exact((k3.erase j).ext e1).ext he
  refine .inr ⟨j,rest[j],_,_,qd hjl,r3,hR2,?_⟩;have e3:=e1.trans he2;refine .tup [.bool true,me.key,me.val] [_,_,_] rfl fun q u z hu hz=> ?_
  match q with
  |0=>simp at hu hz;subst hu;subst hz;exact .d _ _ (.bool true)
  |1=>simp at hu hz;subst hu;subst hz;exact .d _ _ (t1.mono e3.mono)
  |2=>simp at hu hz;subst hu;subst hz;exact t2.ext e3
  |q+3=>simp at hu
theorem knc (hR:R T G0 w0 N s a G w) {x:Operand} {id mid:Nat} {es rest:List (D×V)} {e:D×V} (hx:s.ev x= .ptr id 0) (hg:s.h.get id=some (.map (.it mid rest (some e)))) (hm:s.h.get mid=some (.map (.m es))):
  ∃v,(Instr.entry (a.eval x)).run P w= .ok v w/\RepV G w s.h s.nx v (.tup [.d e.1,e.2]):=by
 have hw:=hR.wr;have hvx:=hR.ev x;rw[hx]at hvx;obtain⟨b,hvb,hid,hl⟩:∃b,a.eval x= .pointer (some ⟨b,0,none⟩)/\id<s.nx/\G.loc id=some b:=by generalize a.eval x=v at hvx;cases hvx with|ptr _ _ b h1 h2=>exact⟨b,rfl,h1,h2⟩
 obtain⟨b',bm,since,seen,c0,g1,g2,g3,g4,g5,g6⟩:=hw.mob id _ hg;obtain rfl:b=b' :=by rw[hl]at g1;injection g1
 obtain⟨clk,ms,k1,k2,k3,k4⟩:=g6 es hm;obtain⟨bm',clk',ms',q1,q2,q3,q4⟩:=hw.mob mid _ hm;obtain rfl:bm=bm' :=by rw[g4]at q1;injection q1
 obtain⟨rfl,rfl⟩:ms=ms'/\clk=clk' :=by rw[k1]at q2;injection q2 with q2;injection q2 with q2 q2';exact⟨by simpa using congrArg Array.toList q2,q2'⟩
 obtain⟨n1,m,seen0,n2,n3,n4,n5⟩:=k4 e rfl;subst n3;rw[hvb];refine⟨_,run_entry_at (P:=P) w b bm since seen0 (List.toArray ms) clk m (by rw[<-k2.2];exact g2) k1 (by simpa using n2) (by simpa using q4.2),?_⟩;refine .tup [m.key,m.val] [_,_] rfl fun q u z hu hz=> ?_
 match q with
 |0=>simp at hu hz;subst hu;subst hz;exact .d _ _ n4
 |1=>simp at hu hz;subst hu;subst hz;exact n5
 |q+2=>simp at hu
theorem k1r (hR:R T G0 w0 N s a G w) {o:Oper} {K:St->Prop} (ho:AOpX P N o K s) (hdst:∀t,o.dst=some t->t<N) {K' :Act->World->Prop} {Q:Exit->Act->World->Prop}
  (hK:∀s' a' G' w',K s'->R T G0 w0 N s' a' G' w'->K' a' w'):o.wp P a w K' Q:=by
 have hev:=hR.ev;have hw:=hR.wr;obtain⟨dst,op,ty,pos,after,guard⟩:=o;have value:∀(v:Value) (w' :World),(execOp a.eval ⟨dst,op,ty,pos,after,guard⟩).run P w= .ok (.value v) w'->K' (a.put dst v) w'->Oper.wp P ⟨dst,op,ty,pos,after,guard⟩ a w K' Q:=by intro v w' h1 h2;unfold Oper.wp;rw[h1];exact h2
 have val:∀(sv:Sem Value) (v:Value) (w' :World),sv.run P w= .ok v w'->(do pure (.value (<-sv)):Sem Next).run P w= .ok (.value v) w' :=by intro sv v w' hv;simp only[qp,hv,qi,qw]
 cases op with
 |makeMap t r=>
  obtain⟨h1,h2⟩:=ho;obtain⟨G',hR',hp⟩:=hR.allocMap;refine value _ _ (val _ _ _ ?_) (hK _ _ _ _ h2 (hR'.put hp dst hdst));cases r with
  |none=>exact run_makeMap t w
  |some x=>obtain⟨⟨kt,et,hu⟩,q,n,hx⟩:=h1;have hv:=hev x;rw[hx]at hv;have hv:=hv.int_inv;show(Instr.makeMap t (some (a.eval x))).run P w=_;rw[hv];simp[Instr.makeMap,qz hu,asInt,asIntOf,Result.andThen,newObj,Sem.run]
 |lookup t x i c=>obtain⟨r,h1,h2⟩:=ho;obtain⟨v,g1,g2⟩:=kkd hR h1;exact value _ _ (val _ _ _ g1) (hK _ _ _ _ h2 (hR.put g2 dst hdst))
 |mapUpdate t m k v=>
  obtain⟨hni,et,d,kd,es,id,h1,h2,h3,h4,h5,h6,y,h7,h8,hKs⟩:=ho;obtain⟨w',hrun,hR'⟩:=upd_run (id:=id) hR hni ⟨et,d,kd,es,h1,h2,h3,h4,h5,h6,y,h7,h8,rfl⟩;unfold Oper.wp;have:(execOp a.eval ⟨dst,.mapUpdate t m k v,ty,pos,after,guard⟩).run P w= .ok .skip w' :=by simp only[execOp,qp,hrun,qi,qw]
  rw[this];exact hK _ _ _ _ hKs (hR'.put (.any _) dst hdst)
 |range t x=>obtain⟨et,d,es,id,h1,h2,h3,hKs⟩:=ho;obtain⟨v,w',G',g1,g2,g3⟩:=knu hR h1 h2 h3;exact value _ _ (val _ _ _ g1) (hK _ _ _ _ hKs (g2.put g3 dst hdst))
 |next x b=>
  obtain⟨rfl,id,mid,es,rest,last,h1,h2,h3,hK0,hK1⟩:=ho;rcases ko8 hR ty h1 h2 h3 with⟨r1,r2⟩|⟨j,e,v,w',r1,r2,r3,r4⟩
  ·have hk:=hR.kill (id:=id) (hR.wr.hid _ _ h2);refine value _ _ (val _ _ _ r2) (hK _ _ _ _ (hK0 r1) (hk.put (.tup [.bool false] [_] rfl fun q u z hu hz=> ?_) dst hdst))
   match q with
   |0=>simp at hu hz;subst hu;subst hz;exact .d _ _ (.bool false)
   |q+1=>simp at hu
  ·exact value _ _ (val _ _ _ r2) (hK _ _ _ _ (hK1 j e r1) (r3.put r4 dst hdst))
 |entry x=>obtain⟨id,mid,es,rest,e,h1,h2,h3,hKs⟩:=ho;obtain⟨v,g1,g2⟩:=knc hR h1 h2 h3;exact value _ _ (val _ _ _ g1) (hK _ _ _ _ hKs (hR.put g2 dst hdst))
 |call c=>
  obtain⟨callee,args,argTypes⟩:=c;cases callee with
  |builtin bi=>
   cases bi with
   |delete=>
    obtain⟨⟨h1,h2⟩,hni,et,d,kd,es,id,h3,h4,h5,h6,h7,h8,hKs⟩:=ho
    obtain⟨x,y,rfl⟩:∃x y,args= #[x,y]:=by
     obtain⟨l⟩:=args
     match l,h1 with
     |[x,y],_=>exact⟨x,y,rfl⟩
    obtain⟨t,t',rfl⟩:∃x y,argTypes= #[x,y]:=by
     obtain⟨l⟩:=argTypes
     match l,h2 with
     |[x,y],_=>exact⟨x,y,rfl⟩
    obtain⟨w',g1,g2⟩:=del_run (ty:=ty) (ts:= #[t,t']) (m:=x) (k:=y) hR hni rfl h3 h4 h5 h6 h7 h8;unfold Oper.wp;have:(execOp a.eval ⟨dst,.call ⟨.builtin .delete,#[x,y],#[t,t']⟩,ty,pos,after,guard⟩).run P w= .ok (.value (.tuple #[])) w' :=by simp only[execOp,resolve,invoke,builtin,qp,qw,qi,qco,qae,qdb,g1]
    rw[this];exact hK _ _ _ _ hKs (g2.put (.any _) dst hdst)
   |len=>
    obtain⟨⟨h1,h2⟩,et,d,es,id,⟨kt,hu,_⟩,h4,h5,hKs⟩:=ho
    obtain⟨x,rfl⟩:∃x,args= #[x]:=by
     obtain⟨l⟩:=args
     match l,h1 with
     |[x],_=>exact⟨x,rfl⟩
    obtain⟨t,rfl⟩:∃x,argTypes= #[x]:=by
     obtain⟨l⟩:=argTypes
     match l,h2 with
     |[x],_=>exact⟨x,rfl⟩
    have hvm:=hev x;have h4:s.ev x= .mp id:=h4;rw[h4]at hvm;obtain⟨b,hvme,hid,hl⟩:=hvm.map_inv;obtain⟨b',clk,ms,g1,g2,g3,gs⟩:=hw.mob id _ h5;obtain rfl:b=b' :=by rw[hl]at g1;injection g1
    have hu:P.underlying t=some (.map kt et):=hu;have g1:(Builtin.len_ #[t] ty #[a.eval x]).run P w= .ok (goInt es.length) w:=by rw[hvme];simp[Builtin.len_,qz hu,MapKept.run_getObj_map g2,Result.andThen,g3.1]
    refine value (goInt es.length) w ?_ (hK _ _ _ _ hKs (hR.put (.d _ _ (.int _ _)) dst hdst));simp only[execOp,resolve,invoke,builtin,qp,qw,qi,qco,qae,qdb,g1]
   |_=>exact ho.elim
  |_=>exact ho.elim
 |_=>exact ho.elim
end
end Go.Bv
namespace Go.Bv
open Go.RowKit
def dstOk (N:Nat):Option Nat->Prop
 |some t=>t<N
 |none=>True
def guardV (s:St) (tb:List (Option Nat)) (j:Nat):V:=match tb[j]? with
 |some (some t)=>getS s.sl t
 |_=> .any
def storeOk (ty:Option (Bool×Nat)) (h:Hp) (x:V):V->Prop
 | .ptr id off=>match ty,h.get id with
  |some (_,n),some (.cells l)=>x.flat n/\off+n<=l.length
  |_,_=>False
 |_=>False
def storeH (h:Hp) (x:V):V->Hp
 | .ptr id off=>match h.get id with
  |some (.cells l)=>(id,.cells (setAt l off x.cells))::h
  |_=>h
 |_=>h
def fillOk (pl:List (Nat×Nat)):List V->List (Nat×V)->Prop
 |_,[]=>True
 |l,(i,x)::r=>match pl[i]? with
  |some (off,n)=>x.flat n/\off+n<=l.length/\fillOk pl (setAt l off x.cells) r
  |none=>False
def fillR (pl:List (Nat×Nat)):List V->List (Nat×V)->List V
 |l,[]=>l
 |l,(i,x)::r=>match pl[i]? with
  |some (off,_)=>fillR pl (setAt l off x.cells) r
  |none=>l
theorem kbr {pl:List (Nat×Nat)} {K:List V->Prop}:∀(ps:List (Nat×V)) (l:List V),fillOk pl l ps->K (fillR pl l ps)->fillV (pl[·]?) K l ps
 |[],_,_,hk=>hk
 |(i,x)::r,l,ho,hk=>by
  simp only[fillOk,fillR,fillV]at *
  cases hp:pl[i]? with
  |none=>simp only[hp]at ho
  |some q=>obtain⟨off,n⟩:=q;simp only[hp]at ho hk ⊢;exact⟨ho.1,ho.2.1,kbr r _ ho.2.2 hk⟩
def zeroD (P:Program) (t:TypeId):List V:=(zeroV P t).getD []
def plD (P:Program) (t:TypeId):List (Nat×Nat):=(plOf P t).getD []
def toDs (l:List V):Option (List D):=l.mapM V.toD
def sizesOk (sz:Nat):List D->Prop
 |[]=>True
 |d::r=>d.cells.length=sz/\sizesOk sz r
def rowD (P:Program) (t:TypeId):Nat×Nat:=(rowOf P t).getD (0,0)
def growD (s:St) (sz:Nat) (x:V):Nat×Nat×List D:=(growA s sz x).getD (0,0,[])
def appOk (P:Program) (s:St) (t:TypeId) (x y:V):Prop:=
 (rowOf P t).isSome=true/\(growA s (rowD P t).1 x).isSome=true/\isEls (rowD P t).1 y/\
  ((growD s (rowD P t).1 x).2.2.length+(y.elsD (rowD P t).1).length)*(rowD P t).2<=140737488355328/\(growD s (rowD P t).1 x).2.2.length+(y.elsD (rowD P t).1).length<=maxLen
def appS (P:Program) (s:St) (t:TypeId) (x y:V) (d:Option Nat):St:=
 St.put ⟨s.sl,((growD s (rowD P t).1 x).1,.tip ((growD s (rowD P t).1 x).2.2.length+(y.elsD (rowD P t).1).length))::s.h,(growD s (rowD P t).1 x).2.1⟩ d
  (.own (growD s (rowD P t).1 x).1 (rowD P t).1 ((growD s (rowD P t).1 x).2.2++y.elsD (rowD P t).1))
def leArgs (σ:Nat->Nat) (m:Nat):List V->List V->Prop
 |[],[]=>True
 |x::xs,y::ys=>(le x (ren σ y)/\ok m y)/\leArgs σ m xs ys
 |_,_=>False
def callS (s:St) (ids:List Nat) (pre post:List Ob) (d:Option Nat) (r:V):St:=St.put ⟨s.sl,hpNew (sgm ids s.nx) 0 post++s.h,s.nx+(post.length-pre.length)⟩ d (ren (sgm ids s.nx) r)
def cloV (l:List (Option (Nat×Nat))):List V:=l.map fun p=>match p with
 |some q=> .ptr q.1 q.2
 |none=> .any
def fnG:V->Option Nat
 | .k (.func (.func g) a b)=>bif Nat.beq a.size 0&&Nat.beq b.size 0 then some g else none
 | .clo g _ _=>some g
 |_=>none
def fnA:V->List V->List V
 | .clo _ fs cs,xs=>cloV fs++(xs++cloV cs)
 |_,xs=>xs
def RepL (G:Gh) (w:World) (h:Hp) (nx:Nat) (l:List Value) (m:List V):Prop:=l.length=m.length/\∀(j:Nat) (v:Value) (x:V),l[j]? =some v->m[j]? =some x->RepV G w h nx v x
theorem RepL.app {G:Gh} {w:World} {h:Hp} {nx:Nat} {l l' :List Value} {m m' :List V} (a:RepL G w h nx l m) (b:RepL G w h nx l' m'):RepL G w h nx (l++l') (m++m'):=by
 refine⟨by rw[qj,qj,a.1,b.1],fun j v x hv hx=> ?_⟩;by_cases hj:j<l.length
 ·rw[qap hj]at hv;rw[qap (by rw[<-a.1];exact hj)]at hx;exact a.2 j v x hv hx
 ·rw[qaw qqo]at hv;rw[qaw (by rw[<-a.1];omega),<-a.1]at hx;exact b.2 _ v x hv hx
theorem RepL.clo {G:Gh} {w:World} {h:Hp} {nx:Nat}:∀{ps:List (Option (Nat×Nat))} {vs:List Value},PtrsR G nx ps vs->RepL G w h nx vs (cloV ps)
 |[],[],_=>⟨rfl,fun j v x hv=>by simp at hv⟩
 |[],_::_,hh=>hh.elim
 |_::_,[],hh=>hh.elim
 |p::ps,v::vs,hh=>by
  have ih:=RepL.clo (w:=w) (h:=h) hh.2;refine⟨by simpa[cloV]using ih.1,fun j u x hu hx=> ?_⟩;cases j with
  |zero=>
   simp only[qdn,qah]at hu;subst hu;cases p with
   |none=>simp[cloV]at hx;subst hx;exact .any _
   |some q=>simp[cloV]at hx;subst hx;obtain⟨h1,b,h2,rfl⟩:=hh.1;exact .ptr _ _ b h1 h2
  |succ j=>rw[qao]at hu;exact ih.2 j u x hu (by simpa[cloV]using hx)
theorem fn_rep {G:Gh} {w:World} {h:Hp} {nx:Nat} {v:Value} {f:V} {g:Nat} (hv:RepV G w h nx v f) (hg:fnG f=some g):
  ∃vs us:List Value,v= .func (.func g) vs.toArray us.toArray/\∀(a1:List Value) (xs:List V),RepL G w h nx a1 xs->RepL G w h nx (vs++(a1++us)) (fnA f xs):=by
 unfold fnG at hg;split at hg
 ·rename_i g' a b;rw[hv.k_inv];cases hc:(Nat.beq a.size 0&&Nat.beq b.size 0)with
  |false=>rw[hc]at hg;cases hg
  |true=>rw[hc]at hg;injection hg with hg;subst hg;rw[qg]at hc;have ha:a= #[]:=qbq (qdt hc.1);have hb:b= #[]:=qbq (qdt hc.2);subst ha;subst hb;exact⟨[],[],rfl,fun a1 xs hh=>by simpa[fnA]using hh⟩
 ·injection hg with hg;subst hg;cases hv with|clo _ _ _ vs us hf hc=>exact⟨vs,us,rfl,fun a1 xs hh=>(RepL.clo hf).app (hh.app (RepL.clo hc))⟩
 ·cases hg
def callA (P:Program) (s:St) (f:V) (args:List V) (K:List Nat->List Ob->List Ob->V->Prop):Prop:=
 ∃g xs pre r post ids,fnG f=some g/\(P.funcs[g]?.bind (·.body)).isSome=true/\P.funcs[g]?.map (·.name)≠some "runtime.NumGoroutine" /\SoundH P g xs pre r post/\noIt s.h/\
  preOk s.h (sgm ids s.nx) pre.length s.nx s.nx ids pre/\ids.Nodup/\ppOk pre post/\leArgs (sgm ids s.nx) pre.length (fnA f args) xs/\noTup r/\K ids pre post r
def SoundX (P:Program) (g:FuncId) (xs:List V) (r:V):Prop:=
 ∀(G:Gh) (w:World) (h:Hp) (nx:Nat) (vs:List Value),vs.length=xs.length->(∀(j:Nat) (v:Value) (x:V),vs[j]? =some v->xs[j]? =some x->RepV G w h nx v x)->
  ∃v,(callFunc g vs.toArray).run P w= .ok (.value v) w/\RepV G w h nx v r
def callX (P:Program) (f:V) (args:List V) (K:V->Prop):Prop:=∃g r,f= .k (.func (.func g) #[] #[])/\SoundX P g args r/\K r
def isNilV:V->Bool
 | .k (.slice none 0 0)=>true
 |_=>false
def isSl:Option TypeDesc->Prop
 |some (.slice _)=>True
 |_=>False
def nilOk:V->Prop
 | .d (.slice _ _)=>True
 | .own _ _ _=>True
 | .full _ _=>True
 | .row _ _ _ _=>True
 |_=>False
def nilMay:V->Prop
 | .d (.slice _ l)=>l=[]
 | .own _ _ l=>l=[]
 | .full _ l=>l=[]
 | .row _ _ len _=>len=0
 |_=>False
def natOf:V->Nat
 | .d (.int _ n)=>n.toNat
 |_=>0
def mkOk (P:Program) (t:TypeId):V->V->Prop
 | .d (.int _ n),.d (.int _ c)=>((rowOf P t).isSome=true/\(elZ P t).isSome=true)/\0<=n/\n<=c/\c.toNat*(rowD P t).2<=140737488355328/\c.toNat<=maxLen
 |_,_=>False
def elZD (P:Program) (t:TypeId):List V:=(elZ P t).getD []
def fitsO (off n:Nat):Option Ob->Prop
 |some (.cells l)=>off+n<=l.length
 |_=>False
def copyOk (P:Program) (t:TypeId) (h:Hp):V->V->Prop
 | .row id off len sz,y=>((rowOf P t).isSome=true/\sz=(rowD P t).1)/\isEls sz y/\fitsO off (len*sz) (h.get id)
 |_,_=>False
def copyO (h:Hp) (id off len:Nat) (l2:List D):Option Ob->Hp
 |some (.cells l)=>(id,.cells (setAt l off (((l2.take (min l2.length len)).flatMap D.cells).map .d)))::h
 |_=>h
def copyH (h:Hp):V->V->Hp
 | .row id off len sz,y=>copyO h id off len (y.elsD sz) (h.get id)
 |_,_=>h
def copyN:V->V->V
 | .row _ _ len sz,y=> .d (.int .i64 (min (y.elsD sz).length len:Nat))
 |_,_=> .any
def AOp (P:Program) (N:Nat) (o:Oper) (K:St->Prop) (s:St):Prop:=
 dstOk N o.dst/\match o.op with
 | .alloc t=>(zeroV P t).isSome=true/\K (St.put ⟨s.sl,(s.nx,.cells (zeroD P t))::s.h,s.nx+1⟩ o.dst (.ptr s.nx 0))
 | .box _ x=>(∃n,(s.ev x).flat n)/\K (St.put ⟨s.sl,(s.nx,.cells (s.ev x).cells)::s.h,s.nx+1⟩ o.dst (.ptr s.nx 0))
 | .store t a x=>storeOk (tyOf P t) s.h (s.ev x) (s.ev a)/\K (St.put ⟨s.sl,storeH s.h (s.ev x) (s.ev a),s.nx⟩ o.dst .any)
 | .build t parts=>(plOf P t).isSome=true/\(zeroV P t).isSome=true/\fillOk (plD P t) (zeroD P t) (parts.toList.map fun p=>(p.1,s.ev p.2))/\
   K (s.put o.dst (.agg (fillR (plD P t) (zeroD P t) (parts.toList.map fun p=>(p.1,s.ev p.2)))))
 | .buildSlice t n parts=>(rowOf P t).isSome=true/\parts.toList.map (·.1)=List.range n/\(toDs (parts.toList.map fun p=>s.ev p.2)).isSome=true/\
   sizesOk (rowD P t).1 ((toDs (parts.toList.map fun p=>s.ev p.2)).getD [])/\n*(rowD P t).1<=16777216/\
   (K (St.put ⟨s.sl,s.h,s.nx+1⟩ o.dst (.full (rowD P t).1 ((toDs (parts.toList.map fun p=>s.ev p.2)).getD [])))∨
    K (St.put ⟨s.sl,(s.nx,.cells ((((toDs (parts.toList.map fun p=>s.ev p.2)).getD []).flatMap D.cells).map .d))::s.h,s.nx+1⟩ o.dst (.row s.nx 0 n (rowD P t).1)))
 | .call c=>match c.callee with
  | .builtin .append=>(c.args.size=2/\c.argTypes.size=2/\c.argTypes.getD 0 0=c.argTypes.getD 1 0)/\
    ((appOk P s (c.argTypes.getD 0 0) (s.ev (c.args.getD 0 (.const .nilIface))) (s.ev (c.args.getD 1 (.const .nilIface)))/\
     K (appS P s (c.argTypes.getD 0 0) (s.ev (c.args.getD 0 (.const .nilIface))) (s.ev (c.args.getD 1 (.const .nilIface))) o.dst))∨
    appRowA P s (c.argTypes.getD 0 0) (s.ev (c.args.getD 0 (.const .nilIface))) (s.ev (c.args.getD 1 (.const .nilIface))) o.dst K)
  | .builtin .copy=>(c.args.size=2/\c.argTypes.size=2)/\copyOk P (c.argTypes.getD 0 0) s.h (s.ev (c.args.getD 0 (.const .nilIface))) (s.ev (c.args.getD 1 (.const .nilIface)))/\
    K (St.put ⟨s.sl,copyH s.h (s.ev (c.args.getD 0 (.const .nilIface))) (s.ev (c.args.getD 1 (.const .nilIface))),s.nx⟩ o.dst (copyN (s.ev (c.args.getD 0 (.const .nilIface))) (s.ev (c.args.getD 1 (.const .nilIface)))))
  | .builtin .delete=>AOpX P N o K s
  | .builtin .len=>(avOk P s.h s.ev (.call c)/\K (s.put o.dst (av P s.h s.ev (.call c))))∨AOpX P N o K s
  | .value f=>callX P (s.ev f) (c.args.toList.map s.ev) (fun r=>K (s.put o.dst r))∨callA P s (s.ev f) (c.args.toList.map s.ev) fun ids pre post r=>K (callS s ids pre post o.dst r)
  |_=>avOk P s.h s.ev (.call c)/\K (s.put o.dst (av P s.h s.ev (.call c)))
 | .binOp op t x y t' =>match isNilV (s.ev y)with
  |true=>isEq op/\isSl (P.underlying t)/\nilOk (s.ev x)/\∀b:Bool,(b=true->nilMay (s.ev x))->K (s.put o.dst (aggV op b))
  |false=>avOk P s.h s.ev (.binOp op t x y t')/\K (s.put o.dst (av P s.h s.ev (.binOp op t x y t')))
 | .makeSlice t l c=>mkOk P t (s.ev l) (s.ev c)/\K (St.put ⟨s.sl,(s.nx,.cells (zrow (natOf (s.ev l)) (elZD P t)))::s.h,s.nx+1⟩ o.dst (.row s.nx 0 (natOf (s.ev l)) (rowD P t).1))
 | .makeMap _ _=>AOpX P N o K s
 | .lookup _ _ _ _=>AOpX P N o K s
 | .mapUpdate _ _ _ _=>AOpX P N o K s
 | .range _ _=>AOpX P N o K s
 | .next _ _=>AOpX P N o K s
 | .entry _=>AOpX P N o K s
 |op=>avOk P s.h s.ev op/\K (s.put o.dst (av P s.h s.ev op))
section
variable {P:Program} {T:Tk} {G0 G:Gh} {w0 w:World} {N:Nat} {s:St} {a:Act}
theorem toDs_eq (s:St) (parts:List (Nat×Operand)):toDs (parts.map fun p=>s.ev p.2)=parts.mapM (fun p=>(s.ev p.2).toD):=by
 unfold toDs;induction parts with
 |nil=>rfl
 |cons p ps ih=>simp only[qae,qel,ih]
theorem k21 {sz:Nat}:∀{l:List D},sizesOk sz l->∀d∈l,d.cells.length=sz
 |[],_,d,hd=>by cases hd
 |x::r,hh,d,hd=>by
  rcases qam.1 hd with rfl|hd
  ·exact hh.1
  ·exact k21 hh.2 d hd
theorem k6a {σ:Nat->Nat} {m:Nat}:∀{l l' :List V},leArgs σ m l l'->l.length=l'.length/\∀(j:Nat) (x y:V),l[j]? =some x->l'[j]? =some y->Bv.le x (ren σ y)/\ok m y
 |[],[],_=>⟨rfl,by simp⟩
 |x::xs,y::ys,hh=>by
  obtain⟨h1,h3⟩:=hh;obtain⟨g1,g3⟩:=k6a h3;refine⟨by simp[g1],fun j a b ha hb=> ?_⟩;cases j with
  |zero=>simp at ha hb;subst ha;subst hb;exact h1
  |succ j=>simp at ha hb;exact g3 j a b ha hb
 |[],_::_,hh=>hh.elim
 |_::_,[],hh=>hh.elim
theorem kpe (hR:R T G0 w0 N s a G w) {o:Oper} {K:St->Prop} (ho:AOp P N o K s) {K' :Act->World->Prop} {Q:Exit->Act->World->Prop}
  (hK:∀s' a' G' w',K s'->R T G0 w0 N s' a' G' w'->K' a' w'):o.wp P a w K' Q:=by
 obtain⟨hd,ho⟩:=ho;have hdst:∀t,o.dst=some t->t<N:=fun t ht=>by rw[ht]at hd;exact hd
 have hev:=hR.ev;obtain⟨dst,op,ty,pos,after,guard⟩:=o;have value:∀(v:Value) (w' :World),(execOp a.eval ⟨dst,op,ty,pos,after,guard⟩).run P w= .ok (.value v) w'->K' (a.put dst v) w'->Oper.wp P ⟨dst,op,ty,pos,after,guard⟩ a w K' Q:=by intro v w' h1 h2;unfold Oper.wp;rw[h1];exact h2
 have val:∀(sv:Sem Value) (v:Value) (w' :World),sv.run P w= .ok v w'->(do pure (.value (<-sv)):Sem Next).run P w= .ok (.value v) w' :=by intro sv v w' hv;simp only[qp,hv,qi,qw]
 have quiet:avOk P s.h s.ev op->K (s.put dst (av P s.h s.ev op))->Oper.wp P ⟨dst,op,ty,pos,after,guard⟩ a w K' Q:=by intro h1 h2;obtain⟨v,g1,g2⟩:=kc7 (o:=⟨dst,op,ty,pos,after,guard⟩) hev hR.wr.obj h1;exact value v w g1 (hK _ _ _ _ h2 (hR.put g2 dst hdst))
 cases op with
 |alloc t=>
  obtain⟨h1,h2⟩:=ho;obtain⟨l,hl⟩:=qab.1 h1;obtain⟨i,z,hi,hz,hrow⟩:=k5o (G:=G) (w:=w) (h:=s.h) (nx:=s.nx) hl;obtain⟨G',hR',hp⟩:=hR.alloc t z.cells.toList l hrow.1 hrow.2.1 hrow.2.2;have e1:zeroD P t=l:=by simp[zeroD,hl]
  rw[e1]at h2;refine value _ _ (val _ _ _ ?_) (hK _ _ _ _ h2 (hR'.put hp dst hdst));have hzr:(zeroValue t).run P w= .ok z w:=by simp[zeroValue,typeInfo,hi,hz]
  simp only[Instr.alloc,qp,hzr,qi,newVar,newRow,newObj,Sem.run,qw,qdj];rfl
 |box t x=>obtain⟨⟨n,h1⟩,h2⟩:=ho;obtain⟨g1,g2⟩:=k98 (hev x) h1;obtain⟨G',hR',hp⟩:=hR.alloc t (a.eval x).cells.toList (s.ev x).cells g2.1 g2.2.1 g2.2.2;refine value _ _ (val _ _ _ ?_) (hK _ _ _ _ h2 (hR'.put hp dst hdst));simp only[Instr.box,newVar,newRow,newObj,qp,Sem.run,qi,qw,qdj];rfl
 |store t p x=>
  obtain⟨h1,h2⟩:=ho;simp only at h1 h2;have hp:=hev p;generalize hpe:s.ev p=vp at hp h1 h2;cases vp with
  |ptr id off=>
   simp only[storeOk,storeH]at h1 h2;cases hty:tyOf P t with
   |none=>simp only[hty]at h1
   |some q=>
    obtain⟨g,n⟩:=q;cases hg:s.h.get id with
    |none=>simp only[hty,hg]at h1
    |some ob=>cases ob with
     |cells l=>
      simp only[hty,hg]at h1 h2;obtain⟨w',hrun,hR'⟩:=hR.store (P:=P) hg (hev x) hp h1.1.2 hty h1.1.1 h1.2;unfold Oper.wp;have:(execOp a.eval ⟨dst,.store t p x,ty,pos,after,guard⟩).run P w= .ok .skip w' :=by simp only[execOp,qp,hrun,qi,qw]
      rw[this];exact hK _ _ _ _ h2 (hR'.put (.any _) dst hdst)
     |_=>simp only[hty,hg]at h1
  |_=>exact h1.elim
 |build t parts=>
  obtain⟨h1,h2,h3,h4⟩:=ho;obtain⟨pl,hpl⟩:=qab.1 h1;obtain⟨l0,hl0⟩:=qab.1 h2;have e1:plD P t=pl:=by simp[plD,hpl]
  have e2:zeroD P t=l0:=by simp[zeroD,hl0]
  rw[e1,e2]at h3 h4;obtain⟨v,z,g1,g2,g3⟩:=kbl (P:=P) (G:=G) (w:=w) (K:=fun z=>K (s.put dst z)) hev parts.toList hpl hl0 (kbr _ _ h3 h4);refine value v w (val _ _ _ ?_) (hK _ _ _ _ g3 (hR.put g2 dst hdst));rw[<-g1];congr 2;apply qct;simp
 |buildSlice t n parts=>
  obtain⟨h1,h2,h3,h4,h5,h6⟩:=ho;obtain⟨q,hq⟩:=qab.1 h1;obtain⟨sz,bt⟩:=q;obtain⟨l,hl⟩:=qab.1 h3;have e1:rowD P t=(sz,bt):=by simp[rowD,hq]
  simp only[e1,hl,qbl]at h4 h5 h6;rw[toDs_eq]at hl
  obtain⟨v,w',G',g1,g2,g3,_⟩:=hR.buildSlice hq parts.toList n h2 hl (k21 h4) h5 s.nx (s.nx+1) (.inl ⟨rfl,rfl⟩) (by
   cases hgn:s.h.get s.nx with
   |none=>rfl
   |some ob=>exact absurd (hR.wr.hid _ _ hgn) qqo)
  rcases h6 with h6|h6
  case inr=>obtain⟨v,w',G',g1,g2,g3⟩:=hR.buildRow hq parts.toList n h2 hl (k21 h4) h5;refine value v w' (val _ _ _ ?_) (hK _ _ _ _ h6 (g2.put g3 dst hdst));rw[<-g1];congr 2;apply qct;simp
  refine value v w' (val _ _ _ ?_) (hK _ _ _ _ h6 (g2.put g3 dst hdst));rw[<-g1];congr 2;apply qct;simp
 |call c=>
  obtain⟨callee,args,argTypes⟩:=c;cases callee with
  |builtin b=>
   cases b with
   |append=>
    obtain⟨⟨h1,h2,h3⟩,h45⟩:=ho
    obtain⟨x,y,rfl⟩:∃x y,args= #[x,y]:=by
     obtain⟨l⟩:=args
     match l,h1 with
     |[x,y],_=>exact⟨x,y,rfl⟩
    obtain⟨t,t',rfl⟩:∃x y,argTypes= #[x,y]:=by
     obtain⟨l⟩:=argTypes
     match l,h2 with
     |[x,y],_=>exact⟨x,y,rfl⟩
    have e0:(#[t,t']:Array TypeId).getD 0 0=t:=rfl;have e0' :(#[t,t']:Array TypeId).getD 1 0=t' :=rfl;simp only at h3 h45;rw[e0,e0']at h3;subst h3;have ex:(#[x,y]:Array Operand).getD 0 (.const .nilIface)=x:=rfl;have ey:(#[x,y]:Array Operand).getD 1 (.const .nilIface)=y:=rfl;have e0:(#[t,t]:Array TypeId).getD 0 0=t:=rfl;simp only[ex,ey,e0]at h45;rcases h45 with⟨h4,h5⟩|h45
    case inr=>obtain⟨v',w',G',s',q1,q2,q3⟩:=hR.appRow (ty:=ty) (x:=x) (y:=y) hdst h45;refine value v' w' ?_ (hK _ _ _ _ q2 q3);simp only[execOp,resolve,invoke,builtin,qp,qw,qi,qco,qae,qdb,q1]
    obtain⟨k1,k2,k3,k4,k5⟩:=h4;obtain⟨q,hq⟩:=qab.1 k1;obtain⟨sz,bt⟩:=q;have e1:rowD P t=(sz,bt):=by simp[rowD,hq]
    unfold appS at h5;simp only[e1]at k2 k3 k4 k5 h5;obtain⟨g,hg⟩:=qab.1 k2;obtain⟨k,nx',l⟩:=g;obtain⟨l2,hl2⟩:=qab.1 (show((s.ev y).els sz).isSome=true from k3);have e2:growD s sz (s.ev x)=(k,nx',l):=by simp[growD,hg]
    have e3:(s.ev y).elsD sz=l2:=by simp[V.elsD,hl2]
    simp only[e2,e3]at k4 k5 h5;obtain⟨v,w',G',g1,g2,g3,_⟩:=hR.append hq (hev x) (hev y) hg hl2 k4 ty k5;refine value v w' ?_ (hK _ _ _ _ h5 (g2.put g3 dst hdst));simp only[execOp,resolve,invoke,builtin,qp,qw,qi,qco,qae,qdb,g1]
   |copy=>
    obtain⟨⟨h1,h2⟩,h4,h5⟩:=ho
    obtain⟨x,y,rfl⟩:∃x y,args= #[x,y]:=by
     obtain⟨l⟩:=args
     match l,h1 with
     |[x,y],_=>exact⟨x,y,rfl⟩
    obtain⟨t,t',rfl⟩:∃x y,argTypes= #[x,y]:=by
     obtain⟨l⟩:=argTypes
     match l,h2 with
     |[x,y],_=>exact⟨x,y,rfl⟩
    have e0:(#[t,t']:Array TypeId).getD 0 0=t:=rfl;have ex:(#[x,y]:Array Operand).getD 0 (.const .nilIface)=x:=rfl;have ey:(#[x,y]:Array Operand).getD 1 (.const .nilIface)=y:=rfl;simp only[ex,ey,e0]at h4 h5;have hx:=hev x;have hy:=hev y;generalize s.ev x=xv at hx h4 h5;cases xv with
    |row id off len sz=>
     simp only[copyOk,copyH,copyN]at h4 h5;obtain⟨⟨k1,k2⟩,k3,k4⟩:=h4;obtain⟨q,hq⟩:=qab.1 k1;obtain⟨sz',bt⟩:=q;have e1:rowD P t=(sz',bt):=by simp[rowD,hq]
     rw[e1]at k2;simp only at k2;subst k2;obtain⟨l2,hl2⟩:=qab.1 (show((s.ev y).els sz).isSome=true from k3);have e3:(s.ev y).elsD sz=l2:=by simp[V.elsD,hl2]
     rw[e3]at h5;cases hg:s.h.get id with
     |none=>rw[hg]at k4;exact k4.elim
     |some ob=>cases ob with
      |cells l=>rw[hg]at k4 h5;simp only[copyO]at h5;obtain⟨w',g1,g2⟩:=hR.copy (t' :=t') (ty:=ty) hq hx hy hl2 hg k4;refine value _ w' ?_ (hK _ _ _ _ h5 (g2.put (.d _ _ (.int _ _)) dst hdst));simp only[execOp,resolve,invoke,builtin,qp,qw,qi,qco,qae,qdb,g1];rfl
      |_=>rw[hg]at k4;exact k4.elim
    |_=>exact h4.elim
   |delete=>exact k1r hR ho hdst hK
   |len=>
    rcases ho with ho|ho
    ·exact quiet ho.1 ho.2
    ·exact k1r hR ho hdst hK
   |_=>exact quiet ho.1 ho.2
  |value f=>
   rcases ho with⟨g,r,h1,h2,h3⟩|ho
   ·have hf:=hev f;rw[h1]at hf;have hfv:=hf.k_inv
    obtain⟨v,g1,g2⟩:=h2 G w s.h s.nx (args.toList.map a.eval) qqs (fun j v x hv hx=>by
     rw[ql,qv]at hv;obtain⟨o',ho',rfl⟩:=hv;simp only[ql,ho',qax,qah]at hx;rw[<-hx];exact hev o')
    refine value v w ?_ (hK _ _ _ _ h3 (hR.put g2 dst hdst));simp only[execOp,resolve,Deferred.ofValue,hfv,qp,qw,qi,invoke];rw[<-g1];congr 2;apply qct;simp
   obtain⟨g,xs,pre,r,post,ids,h1,h2,h3,h4,pni,p1,p2,p3,h5,h6,h7⟩:=ho;obtain⟨vs,us,hfv,hrep⟩:=fn_rep (hev f) h1;obtain⟨g1,g2⟩:=k6a h5
   have hrl:=hrep (args.toList.map a.eval) (args.toList.map s.ev) ⟨by simp,fun j v x hv hx=>by
    rw[ql,qv]at hv;obtain⟨o',ho',rfl⟩:=hv;rw[ql,ho']at hx;injection hx with hx;subst hx;exact hev o'⟩
   have hlen:(vs++(args.toList.map a.eval++us)).length=xs.length:=hrl.1.trans g1
   have hcall:=hR.call h4 pni p1 p2 p3 (.inl ⟨rfl,rfl⟩) hlen (fun j v x hv hx=>by
    have hj:j<(fnA (s.ev f) (args.toList.map s.ev)).length:=by have:=(qf.1 hv).1;have:=hrl.1;omega
    obtain⟨q1,q2⟩:=g2 j _ x (qd hj) hx;exact⟨(hrl.2 j v _ hv (qd hj)).le q1,q2⟩) h6
   unfold Oper.wp
   have hrun:(execOp a.eval ⟨dst,.call ⟨.value f,args,argTypes⟩,ty,pos,after,guard⟩).run P w= .ok (.enter g (vs++(args.toList.map a.eval++us)).toArray) w:=by
    simp only[execOp,resolve,Deferred.ofValue,hfv,qp,qw,qi,invoke,callFunc,run_program];cases hfn:P.funcs[g]? with
    |none=>simp[hfn]at h2
    |some fn=>
     simp only[hfn,qer,qax,ne_eq,qah]at h2 h3;have hnm:(fn.name== "runtime.NumGoroutine")=false:=by simpa using h3
     have hbn:fn.body.isNone=false:=by cases hb:fn.body with|none=>simp[hb]at h2|some _=>rfl
     simp only[hnm,hbn,qbd,qdl,qw];congr 2;apply qct;simp
   rw[hrun];refine hcall.mono fun e w' ⟨v,G',he,hR',hv,_⟩=> ?_;subst he;exact hK _ _ _ _ h7 (hR'.put hv dst hdst)
  |invoke r m=>exact quiet ho.1 ho.2
 |binOp op t x y t' =>
  simp only at ho;cases hn:isNilV (s.ev y)with
  |false=>rw[hn]at ho;exact quiet ho.1 ho.2
  |true=>
   rw[hn]at ho;obtain⟨h1,h2,h3,h4⟩:=ho;have hy:=hev y
   have hye:s.ev y= .k (.slice none 0 0):=by
    unfold isNilV at hn;split at hn
    ·assumption
    ·cases hn
   rw[hye]at hy;have hyv:=hy.k_inv
   obtain⟨e,hu⟩:∃e,P.underlying t=some (.slice e):=by
    unfold isSl at h2;split at h2
    ·rename_i q;exact⟨_,q⟩
    ·exact h2.elim
   obtain⟨A,n,c,hxv,hm⟩:∃A n c,a.eval x= .slice A n c/\(A=none->nilMay (s.ev x)):=by
    have hx:=hev x
    have hd:∀(v:Value) (sz:Nat) (l:List D),RepD G.lim w v (.slice sz l)->∃A n c,v= .slice A n c/\(A=none->l=[]):=by
     intro v sz l hd;cases hd with
     |nil A=>exact⟨A,0,0,rfl,fun _=>rfl⟩
     |slice b off cap _ _ vs hcap hmax=>exact⟨_,_,_,rfl,fun h=>by cases h⟩
    generalize a.eval x=v at hx;generalize s.ev x=z at hx h3;unfold nilOk at h3;split at h3
    ·cases hx with|d _ _ h=>exact hd _ _ _ h
    ·cases hx with|own _ _ _ _ h=>exact hd _ _ _ h
    ·obtain⟨A,rfl,h⟩:=hx.full_inv;obtain⟨A',n',c',e1,e2⟩:=hd _ _ _ h;injection e1 with e1;subst e1;exact⟨_,_,_,rfl,e2⟩
    ·cases hx with
     |row=>exact⟨_,_,_,rfl,fun h=>by cases h⟩
     |rown A _ _ _ _=>exact⟨A,0,0,rfl,fun _=>rfl⟩
    ·exact h3.elim
   have hrun:(Op.equal t (.slice A n c) (.slice none 0 0)).run P w= .ok A.isNone w:=by
    have key:∀d,(Op.equalIn (d+1) t (.slice A n c) (.slice none 0 0)).run P w= .ok A.isNone w:=by intro d;cases A<;>simp[Op.equalIn,qz hu]
    exact key 9999
   have hg:(eqGuard op t x y (.slice A n c) (.slice none 0 0)).run P w= .ok () w:=by unfold eqGuard;cases op<;>simp
   have hb:(a.eval x= .slice A n c):=hxv;refine value (.bool (if op= .eql then A.isNone else !A.isNone)) w ?_ ?_
   ·simp only[execOp,hxv,hyv];refine val _ _ _ ?_;simp only[qp,hg,qi];cases op<;>simp only[isEq]at h1<;>simp[binOp,hrun]
   ·refine hK _ _ _ _ (h4 A.isNone (fun hA=>hm (by simpa using hA))) (hR.put ?_ dst hdst);cases op<;>simp only[isEq]at h1<;>exact .d _ _ (.bool _)
 |makeSlice t l c=>
  obtain⟨h1,h2⟩:=ho;simp only at h1 h2;have hx:=hev l;have hy:=hev c;generalize s.ev l=lv at hx h1 h2;generalize s.ev c=cv at hy h1;unfold mkOk at h1;split at h1
  ·rename_i q n q' m;obtain⟨⟨k1,k2⟩,k3,k4,k5,k6⟩:=h1;obtain⟨r,hr⟩:=qab.1 k1;obtain⟨sz,bt⟩:=r;obtain⟨zs,hzs⟩:=qab.1 k2;have e1:rowD P t=(sz,bt):=by simp[rowD,hr]
   have e2:elZD P t=zs:=by simp[elZD,hzs]
   simp only[e1,e2,natOf]at h2 k5;obtain⟨n',rfl⟩:=qn k3;obtain⟨c',rfl⟩:=qn (qez k3 k4);obtain⟨v,w',G',g1,g2,g3,_⟩:=hR.make hr hzs (n:=n') (c:=c') (q:=q) (q' :=q') qqo (by simpa using k5) (by simpa using k6) s.nx (s.nx+1) (.inl ⟨rfl,rfl⟩);refine value v w' (val _ _ _ ?_) (hK _ _ _ _ (by simpa using h2) (g2.put g3 dst hdst));simp only[hx.int_inv,hy.int_inv];exact g1
  ·exact h1.elim
 |makeMap t r=>exact k1r hR ho hdst hK
 |lookup t x i c=>exact k1r hR ho hdst hK
 |mapUpdate t m k v=>exact k1r hR ho hdst hK
 |range t x=>exact k1r hR ho hdst hK
 |next x b=>exact k1r hR ho hdst hK
 |entry x=>exact k1r hR ho hdst hK
 |_=>exact quiet ho.1 ho.2
end
end Go.Bv
namespace Go.Bv
open Go.RowKit
section
variable {P:Program} {T:Tk} {G0 G:Gh} {w0 w:World} {N:Nat} {s:St} {a:Act}
theorem k6d (hR:R T G0 w0 N s a G w) {ops:List Oper} {j:Nat} {t:Bool} (hg:guardV s (ops.map (·.dst)) j= .d (.bool t)):yielded ops.toArray a.tmps j=some t:=by
 unfold guardV at hg;split at hg
 ·rename_i u hu;rw[ql,qv]at hu;obtain⟨o,ho,hod⟩:=hu;have hv:=hR.sl u;rw[hg]at hv;have hb:=hv.bool_inv;unfold yielded;have e1:(ops.toArray[j]?).bind (·.dst)=some u:=by simp[ho,hod]
  rw[e1];simp only[qer]
  have:a.tmps[u]? =some (.bool t):=by
   rcases qaz u a.tmps.size with h|h
   ·rw[Array.getElem?_eq_getElem h];simpa[h]using hb
   ·simp[Nat.not_lt.2 h]at hb;cases hb
  rw[this]
 ·cases hg
theorem ket (hR:R T G0 w0 N s a G w) {ops:List Oper} {j:Nat} (hg:guardV s (ops.map (·.dst)) j= .k undef):yielded ops.toArray a.tmps j=none:=by
 unfold guardV at hg;split at hg
 ·rename_i u hu;rw[ql,qv]at hu;obtain⟨o,ho,hod⟩:=hu;have hv:=hR.sl u;rw[hg]at hv;have hb:=hv.k_inv;unfold yielded;have e1:(ops.toArray[j]?).bind (·.dst)=some u:=by simp[ho,hod]
  rw[e1];simp only[qer];cases hc:a.tmps[u]? with
  |none=>rfl
  |some v=>
   have:v=undef:=by rw[<-hb,qep,hc];rfl
   subst this;rfl
 ·cases hg
def Sat (P:Program) (T:Tk) (G0:Gh) (w0:World) (N:Nat) (c:Code) (s:St) (Q:Exit->St->Prop):Prop:=∀G a w,R T G0 w0 N s a G w->c.wp P (fun e a' w' =>∃s' G',Q e s'/\R T G0 w0 N s' a' G' w') a w
def thenA (K:St->Prop) (Q:Exit->St->Prop):Exit->St->Prop
 | .normal,s=>K s
 |e,s=>Q e s
def blockA (id:Nat) (Q:Exit->St->Prop):Exit->St->Prop
 | .exit id',s=>if id' =id then Q .normal s else Q (.exit id') s
 |e,s=>Q e s
variable {Q:Exit->St->Prop}
theorem sat_seq {x y:Code} (h:Sat P T G0 w0 N x s (thenA (fun s' =>Sat P T G0 w0 N y s' Q) Q)):Sat P T G0 w0 N (.seq x y) s Q:=by
 intro G a w hR;refine wp_seq (wp_mono (h G a w hR) ?_);rintro e a' w' ⟨s',G',hq,hR'⟩;cases e with
 |normal=>exact hq G' a' w' hR'
 |_=>exact⟨s',G',hq,hR'⟩
theorem kke (h:Q .normal s):Sat P T G0 w0 N .skip s Q:=fun G _ _ hR=>wp_skip ⟨s,G,h,hR⟩
theorem kkr {id:Nat} (h:Q (.exit id) s):Sat P T G0 w0 N (.exit id) s Q:=fun G _ _ hR=>wp_exit ⟨s,G,h,hR⟩
theorem sat_ret (h:Q .ret s):Sat P T G0 w0 N .ret s Q:=fun G _ _ hR=>wp_ret ⟨s,G,h,hR⟩
theorem kg9 {l:Nat} (h:Q .normal s):Sat P T G0 w0 N (.label l) s Q:=fun G _ _ hR=>wp_label ⟨s,G,h,hR⟩
theorem k8d {c:Operand} {x y:Code} {t:Bool} (hc:s.ev c= .d (.bool t)) (ht:t=true->Sat P T G0 w0 N x s Q) (hf:t=false->Sat P T G0 w0 N y s Q):Sat P T G0 w0 N (.cond c x y) s Q:=by intro G a w hR;have hv:=hR.ev c;rw[hc]at hv;exact wp_cond_split hv.bool_inv (fun h=>ht h G a w hR) (fun h=>hf h G a w hR)
theorem kgd {id:Nat} {c:Code} (h:Sat P T G0 w0 N c s (blockA id Q)):Sat P T G0 w0 N (.block id c) s Q:=by
 intro G a w hR;refine wp_block (wp_mono (h G a w hR) ?_);rintro e a' w' ⟨s',G',hq,hR'⟩;cases e with
 |exit id' =>
  simp only[blockA]at hq;simp only[Exit.inBlock];split
  ·rename_i h;rw[qh h]at hq;exact⟨s',G',hq,hR'⟩
  ·rename_i h;rw[qe h]at hq;exact⟨s',G',hq,hR'⟩
 |_=>exact⟨s',G',hq,hR'⟩
theorem ky {c:Code} {Q' :Exit->St->Prop} (h:Sat P T G0 w0 N c s Q) (hq:∀e s,Q e s->Q' e s):Sat P T G0 w0 N c s Q' :=fun G a w hR=>wp_mono (h G a w hR) fun _ _ _ ⟨s',G',h1,h2⟩=>⟨s',G',hq _ _ h1,h2⟩
def initSl:Nat->List V->List (Nat×V)
 |_,[]=>[]
 |k,x::r=>(k,x)::initSl (k+1) r
theorem keb:∀(xs:List V) (k t:Nat),getS (initSl k xs) t=if k<=t then(xs[t-k]?).getD .any else .any
 |[],k,t=>by simp[initSl,getS]
 |x::r,k,t=>by
  simp only[initSl,getS];by_cases ht:t=k
  ·subst ht;simp
  ·rw[qe ht,keb r (k+1) t];by_cases hk:k<=t
   ·rw[qh hk,qh qqo,show t-k=(t-(k+1))+1 by omega,qao]
   ·rw[qe hk,qe qqo]
def resV (P:Program) (s:St):ResultVar->V
 | .tmp t=>getS s.sl t
 | .cell t ty=>loadV (tyOf P ty) s.h (getS s.sl t)
def resOk (P:Program) (s:St):ResultVar->Prop
 | .tmp _=>True
 | .cell t ty=>loadOk (tyOf P ty) s.h (getS s.sl t)
def retV:List V->V
 |[x]=>x
 |l=> .tup l
def allOk (P:Program) (s:St):List ResultVar->Prop
 |[]=>True
 |r::rs=>resOk P s r/\allOk P s rs
def rh (ρ:List Nat) (i:Nat):Nat:=ρ.getD i 0
def postOk (h:Hp) (σ:Nat->Nat) (m nx:Nat):List Nat->List Ob->Prop
 |[],[]=>True
 |k::ks,o::os=>(k<nx/\obLe (h.get k) (renO σ o)/\okO m o)/\postOk h σ m nx ks os
 |_,_=>False
theorem kbg {h:Hp} {nx:Nat} {σ:Nat->Nat} {m:Nat}:∀{ks:List Nat} {os:List Ob},postOk h σ m nx ks os->ks.length=os.length/\∀(i k:Nat) (o:Ob),ks[i]? =some k->os[i]? =some o->k<nx/\obLe (h.get k) (renO σ o)/\okO m o
 |[],[],_=>⟨rfl,by simp⟩
 |k::ks,o::os,hh=>by
  obtain⟨h1,h2⟩:=kbg hh.2;refine⟨by simp[h1],fun i k' o' hk ho=> ?_⟩;cases i with
  |zero=>simp at hk ho;subst hk;subst ho;exact hh.1
  |succ i=>simp at hk ho;exact h2 i k' o' hk ho
 |[],_::_,hh=>hh.elim
 |_::_,[],hh=>hh.elim
def RetA (P:Program) (rs:List ResultVar) (r:V) (np:Nat) (post:List Ob) (s:St):Prop:=allOk P s rs/\∃ρ:List Nat,le (retV (rs.map (resV P s))) (ren (rh ρ) r)/\ok post.length r/\noTup r/\postOk s.h (rh ρ) post.length s.nx ρ post/\ρ.Nodup/\np<=post.length/\∀i,i<np->ρ[i]? =some i
def retQ (P:Program) (rs:List ResultVar) (r:V) (np:Nat) (post:List Ob):Exit->St->Prop
 | .normal,s=>RetA P rs r np post s
 | .ret,s=>RetA P rs r np post s
 |_,_=>False
def resSem (tmps:Array Value):ResultVar->Sem Value
 | .tmp t=>pure (tmps.getD t undef)
 | .cell q t=>do loadVar t (<-asAddr (tmps.getD q undef))
theorem kmn (fn:Func) (tmps:Array Value):results fn tmps=(do let vs<-fn.results.mapM (resSem tmps);pure (if h:vs.size=1 then vs[0]else .tuple vs)):=by unfold results;congr 1
theorem kbe (hR:R T G0 w0 N s a G w):∀(rs:List ResultVar),allOk P s rs->∃vs:List Value,(rs.mapM (resSem a.tmps)).run P w= .ok vs w/\vs.length=rs.length/\∀(j:Nat) (v:Value) (x:V),vs[j]? =some v->(rs.map (resV P s))[j]? =some x->RepV G w s.h s.nx v x
 |[],_=>⟨[],by simp,rfl,by simp⟩
 |r::rs,ho=>by
  obtain⟨vs,h1,h2,h3⟩:=kbe hR rs ho.2
  have hone:∃v,(resSem a.tmps r).run P w= .ok v w/\RepV G w s.h s.nx v (resV P s r):=by
   cases r with
   |tmp t=>exact⟨_,rfl,hR.sl t⟩
   |cell q t=>
    obtain⟨v,g1,g2⟩:=kc7 (P:=P) (ρ:=a.eval) (ev:=s.ev) hR.ev hR.wr.obj (o:=⟨none,.load t (.tmp q),0, "",#[],none⟩) ho.1;refine⟨v,?_,g2⟩;simp only[execOp,Instr.loadAt,qp]at g1;simp only[resSem,qp];have ev:a.eval (.tmp q)=a.tmps.getD q undef:=rfl;rw[ev]at g1;generalize a.tmps.getD q undef=vq at g1 ⊢;cases vq with
    |pointer p=>cases p with
     |none=>simp[Instr.sureAddr,stuck]at g1
     |some ad=>
      simp only[Instr.sureAddr,asAddr,qw,qi]at g1 ⊢;cases hl:(loadVar t ad).run P w with
      |ok v' w' =>rw[hl]at g1;simp at g1;rw[g1.1,g1.2]
      |halt h w' =>rw[hl]at g1;simp at g1
    |_=>simp[Instr.sureAddr,stuck]at g1
  obtain⟨v,g1,g2⟩:=hone;refine⟨v::vs,?_,by simp[h2],fun j u x hu hx=> ?_⟩
  ·simp only[qel,qp,g1,qi,h1,qw]
  ·cases j with
   |zero=>simp at hu hx;subst hu;subst hx;exact g2
   |succ j=>simp only[qae,qao]at hu hx;exact h3 j u x hu hx
theorem kio {f:FuncId} {fn:Func} {c:Code} {xs:List V} {pre:List Ob} {r:V} {post:List Ob} (hf:P.funcs[f]? =some fn) (hb:fn.body=some c) (hN:fn.ntmps=N) (hxs:xs.length<=N)
  (hsat:∀G0 w0,Sat P (tkOf G0 pre) G0 w0 N c ⟨initSl 0 xs,hpOf 0 pre,pre.length⟩ (retQ P fn.results.toList r pre.length post)):SoundH P f xs pre r post:=by
 intro G w vs hlen hrep hW;refine calls_of_wp hf hb ?_
 have hR:R (tkOf G pre) G w N ⟨initSl 0 xs,hpOf 0 pre,pre.length⟩ ⟨vs.toArray++Array.replicate (fn.ntmps-vs.toArray.size) undef,[]⟩ G w:=by
  refine⟨⟨rfl,rfl,rfl,qt _,fun _ _ _=>⟨rfl,rfl⟩,Mono.refl _ _⟩,hW,rfl,by simp;omega,fun t=> ?_,⟨qt _,fun _ _ _ h=>h,fun tok t' _ h=>⟨t',h,qt _,fun _ _ hb=>⟨hb,rfl,rfl⟩⟩,fun _ _ h=>h⟩⟩;rw[keb,qh (qbg _),Nat.sub_zero];rcases qaz t xs.length with ht|ht
  ·rw[qd ht,qbl];have hv:vs[t]? =some (vs[t]' qqo):=qd qqo;have e:(vs.toArray++Array.replicate (fn.ntmps-vs.toArray.size) undef).getD t undef=vs[t]' qqo:=by rw[qep,Array.getElem?_append_left qqm];simp[hv]
   rw[e];exact hrep t _ _ hv (qd ht)
  ·rw[qdd ht];exact .any _
 refine wp_mono (hsat G w G _ w hR) ?_;rintro e a' w' ⟨s',G',hq,hR'⟩
 have main:RetA P fn.results.toList r pre.length post s'->∃v,(results fn a'.tmps).run P w' = .ok v w'/\∃v' G'',(.returned v:Ending)= .returned v'/\RepV G'' w' (hpOf 0 post) post.length v' r/\WR (tkOf G pre) w.heap.size G'' w' (hpOf 0 post) post.length/\Fr (tkOf G pre) G w G'' w'/\Ex (tkOf G pre) G w G'' w' (hpOf 0 post) post.length:=by
  rintro ⟨hok,ρ,h1,h2,h3,h4,h5,h6,h7⟩;obtain⟨us,k1,k2,k3⟩:=kbe hR' fn.results.toList hok
  
  obtain⟨v,hv1,hv2⟩:∃v,(results fn a'.tmps).run P w' = .ok v w'/\RepV G' w' s'.h s'.nx v (retV (fn.results.toList.map (resV P s'))):=by
   have hm:(fn.results.mapM (resSem a'.tmps)).run P w' = .ok us.toArray w' :=by rw[Array.mapM_eq_mapM_toList];simp only[Sem.run_map,k1,qi]
   refine⟨if h:us.toArray.size=1 then us.toArray[0]else .tuple us.toArray,?_,?_⟩
   ·rw[kmn,qp,hm];rfl
   ·match us,hrs:fn.results.toList.map (resV P s'),(show us.length=(fn.results.toList.map (resV P s')).length by simpa using k2)with
    |[u],[x],_=>simp only[qbz,qad,qbf,qaj,dite_true,retV];exact k3 0 u x rfl (by rw[hrs];rfl)
    |[],[],_=>simp only[retV];exact .tup [] [] rfl qqs
    |u::u2::us',x::x2::xs',hl=>
     have:¬((u::u2::us').toArray.size=1):=by simp
     rw[dif_neg this];simp only[retV];exact .tup _ _ hl (fun j v x hv hx=>k3 j v x hv (by rw[hrs];exact hx))
  obtain⟨hpl,hpo⟩:=kbg h4
  have hρ:∀i,i<post.length->ρ[i]? =some (rh ρ i):=fun i hi=>by
   have:i<ρ.length:=by omega
   simp[rh,this]
  have hob:∀i o,post[i]? =some o->rh ρ i<s'.nx/\obLe (s'.h.get (rh ρ i)) (renO (rh ρ) o)/\okO post.length o:=fun i o ho=>hpo i _ o (hρ i (qf.1 ho).1) ho;have hlt:∀i,i<post.length->rh ρ i<s'.nx:=fun i hi=>(hob i _ (qd hi)).1;have hself:∀i,i<pre.length->rh ρ i=i:=fun i hi=>by simp[rh,h7 i hi]
  have hinj:∀i j,i<post.length->j<post.length->rh ρ i=rh ρ j->i=j:=by intro i j hi hj hij;exact(List.getElem?_inj qqo h5).1 (by rw[hρ i hi,hρ j hj,hij])
  let G'' :Gh:=⟨fun i=>G'.loc (rh ρ i),fun i=>G'.tloc (rh ρ i),G'.lim⟩;have hw:=hR'.wr;have htip:∀i t,i<post.length->(hpOf 0 post).get i=some (.tip t)->s'.h.get (rh ρ i)=some (.tip t):=by intro i t hi hg;rw[ko]at hg;exact k3n (hob i _ hg).2.1
  have hlive:∀i,live (hpOf 0 post) i->live s'.h (rh ρ i):=by
   intro i l;obtain⟨o,ho,hd⟩:=live_of l;rw[ko]at ho;obtain⟨_,q,_⟩:=hob i o ho;cases o with
   |cells l=>obtain⟨l0,q1,_⟩:=k27 q;exact kh q1
   |tip t=>exact k1b (k3n q)
   |map es=>exact k7u q
   |dead=>exact(hd rfl).elim
  refine⟨v,hv1,v,G'',rfl,?_,⟨?_,?_,?_,?_,?_,hw.lim⟩,⟨hR'.fr.os,hR'.fr.tape,hR'.fr.output,hR'.fr.size,hR'.fr.same,hR'.fr.mono⟩,⟨h6,?_,?_,hR'.ex.csz⟩⟩
  ·exact kc1 (σ:=rh ρ) (G:=G') (G' :=G'') (h:=s'.h) (nx:=s'.nx) rfl (fun _ _=>rfl) (fun _ _=>rfl) htip (hv2.le h1) h2
  ·intro id l hg;rw[ko]at hg;obtain⟨_,q1,q2⟩:=hob id _ hg;obtain⟨l0,hgt,hle⟩:=k27 q1;obtain⟨n1,n2,n3⟩:=k2g hle;rw[qm]at n1;rcases hw.obj (rh ρ id) l0 hgt with⟨z1,z2⟩|⟨b,e',cs,m1,m2,m3,m4,m5,m6⟩
   ·exact .inl ⟨qac (by rw[z1]at n1;simpa using n1.symm),z2⟩
   refine .inr ⟨b,e',cs,m1,m2,m3,by omega,fun x hx=> ?_,fun j u x hu hx=> ?_⟩
   ·rw[<-k3o (rh ρ) x];exact n2 _ (qag.2 ⟨x,hx,rfl⟩)
   ·have hj:j<l0.length:=by have:=(qf.1 hx).1;omega
    have:=(m6 j u _ hu (qd hj)).le1 (n3 j _ (ren1 (rh ρ) x) (qd hj) (by rw[ql,hx];rfl));exact k40 (G:=G') (G' :=G'') rfl (fun _ _=>rfl) (fun _ _=>rfl) htip this (k54 q2 j x hx)
  ·intro id es hg;rw[ko]at hg;obtain⟨_,q1,q2⟩:=hob id _ hg;have hr:=hw.mobLe q1
   have tr:∀{ms:List MapEntry} {l:List (D×V)},okM post.length l->EntR G' w' s'.h s'.nx ms (l.map fun e=>(e.1,ren0 (rh ρ) e.2))->EntR G'' w' (hpOf 0 post) post.length ms l:=fun ho hl=>hl.tr qqs fun j e e' n1 n2=>by
    rw[ql,n2]at n1;obtain rfl:(e'.1,ren0 (rh ρ) e'.2)=e:=by simpa using n1
    exact⟨renE_tup',fun _ k v r1 r2=>⟨r1,k24 (G:=G') (G' :=G'') rfl (fun _ _=>rfl) (fun _ _=>rfl) htip r2 (k4s ho j e' n2)⟩⟩
   cases es with
   |m es=>obtain⟨b,clk,ms,m1,m2,m3,m4⟩:=hr;exact⟨b,clk,ms,m1,m2,tr q2 m3,m4⟩
   |it mid rest last=>obtain⟨b,bm,since,seen,c0,m1,m2,m3,m4,m5,m6⟩:=hr;refine⟨b,bm,since,seen,c0,m1,m2,q2.1,m4,m5,fun es hm=> ?_⟩;rw[ko]at hm;obtain⟨clk,ms,n1,n2,n3,n4⟩:=m6 _ (obLe_m (hob mid _ hm).2.1);refine⟨clk,ms,n1,n2,tr q2.2.1 n3,fun e hl=> ?_⟩;obtain⟨p1,m,seen0,p2,p3,p4,p5⟩:=n4 (e.1,ren0 (rh ρ) e.2) (by rw[hl];rfl);exact⟨fun l hl=>by obtain⟨l',hl'⟩:=renE_tup' (σ:=rh ρ) l hl;exact p1 l' hl',m,seen0,p2,p3,p4,k24 (G:=G') (G' :=G'') rfl (fun _ _=>rfl) (fun _ _=>rfl) htip p5 (q2.2.2 e hl)⟩
  ·intro id b hi hb;exact hw.here (rh ρ id) b (hlt id hi) hb
  ·intro i j b hi hj hbi hbj li lj;exact hinj i j hi hj (hw.inj (rh ρ i) (rh ρ j) b (hlt i hi) (hlt j hj) hbi hbj (hlive i li) (hlive j lj))
  ·intro id ob hg;rw[ko]at hg;exact(qf.1 hg).1
  ·intro id b hi hb;have hi:id<pre.length:=hi;show G'.loc (rh ρ id)=some b;rw[hself id hi];exact hR'.ex.loc id b hi hb
  ·intro tok t' ht hg;have ht:tok<pre.length:=ht;have:=htip tok t' qqo hg;rw[hself tok ht]at this;obtain⟨t0,q1,q2,q3⟩:=hR'.ex.tok tok t' ht this;refine⟨t0,q1,q2,fun htt b hb=> ?_⟩;obtain⟨r1,r2,r3⟩:=q3 htt b hb;exact⟨by show G'.tloc (rh ρ tok)=some b;rw[hself tok ht];exact r1,r2,r3⟩
 cases e with
 |normal=>obtain⟨v,h1,h2⟩:=main hq;exact⟨hR'.df,v,h1,h2⟩
 |ret=>obtain⟨v,h1,h2⟩:=main hq;exact⟨hR'.df,v,h1,h2⟩
 |_=>exact hq.elim
end
end Go.Bv
namespace Go.Bv
open Go.RowKit
structure Eff where
 d:Option Nat
 x:V
 hu:Hp
 rd:List Nat
def Eff.app (e:Eff) (s:St):St:=St.put ⟨s.sl,e.hu++s.h,s.nx⟩ e.d e.x
def stE (E:Nat->Bool):List Eff->Nat->St->St
 |[],_,s=>s
 |e::es,k,s=>stE E es (k+1) (if E k then e.app s else s)
def slotE (E:Nat->Bool) (t:Nat):List Eff->Nat->V->V
 |[],_,v=>v
 |e::es,k,v=>slotE E t es (k+1) (if E k=true/\e.d=some t then e.x else v)
def heapE (E:Nat->Bool) (i:Nat):List Eff->Nat->Option Ob->Option Ob
 |[],_,o=>o
 |e::es,k,o=>heapE E i es (k+1) (if E k=true/\(Hp.get e.hu i).isSome=true then Hp.get e.hu i else o)
theorem app_nx (e:Eff) (s:St):(e.app s).nx=s.nx:=by unfold Eff.app St.put;split<;>rfl
theorem app_h (e:Eff) (s:St):(e.app s).h=e.hu++s.h:=by unfold Eff.app St.put;split<;>rfl
theorem app_get (e:Eff) (s:St) (t:Nat):getS (e.app s).sl t=if e.d=some t then e.x else getS s.sl t:=by
 unfold Eff.app;cases hd:e.d with
 |none=>simp[St.put]
 |some u=>
  simp only[St.put,getS,qah];by_cases h:t=u
  ·subst h;simp
  ·rw[qe h,qe (Ne.symm h)]
theorem kks (e:Eff) (s:St) (i:Nat):(e.app s).h.get i=if(Hp.get e.hu i).isSome=true then Hp.get e.hu i else s.h.get i:=by
 rw[app_h,k28];cases hh:Hp.get e.hu i with
 |none=>simp
 |some o=>simp
theorem stE_nx (E:Nat->Bool):∀(es:List Eff) (k:Nat) (s:St),(stE E es k s).nx=s.nx
 |[],_,_=>rfl
 |e::es,k,s=>by
  rw[stE,stE_nx E es];split
  ·exact app_nx e s
  ·rfl
theorem stE_get (E:Nat->Bool) (t:Nat):∀(es:List Eff) (k:Nat) (s:St),getS (stE E es k s).sl t=slotE E t es k (getS s.sl t)
 |[],_,_=>rfl
 |e::es,k,s=>by
  rw[stE,stE_get E t es,slotE];congr 1;by_cases hE:E k=true
  ·rw[qh hE,app_get];simp only[hE,true_and]
  ·rw[qe hE,qe (fun h=>hE h.1)]
theorem k1m (E:Nat->Bool) (i:Nat):∀(es:List Eff) (k:Nat) (s:St),(stE E es k s).h.get i=heapE E i es k (s.h.get i)
 |[],_,_=>rfl
 |e::es,k,s=>by
  rw[stE,k1m E i es,heapE];congr 1;by_cases hE:E k=true
  ·rw[qh hE,kks];simp only[hE,true_and]
  ·rw[qe hE,qe (fun h=>hE h.1)]
theorem k3v {E E' :Nat->Bool} {t:Nat}:∀(es:List Eff) (k:Nat) (v:V),(∀(j:Nat) (e:Eff),es[j]? =some e->e.d=some t->E (k+j)=E' (k+j))->slotE E t es k v=slotE E' t es k v
 |[],_,_,_=>rfl
 |e::es,k,v,h=>by
  have h0:=h 0 e rfl;simp only[qcq]at h0
  have hv:(if E k=true/\e.d=some t then e.x else v)=(if E' k=true/\e.d=some t then e.x else v):=by
   by_cases hd:e.d=some t
   ·rw[h0 hd]
   ·rw[qe (fun h=>hd h.2),qe (fun h=>hd h.2)]
  rw[slotE,slotE,hv];exact k3v es (k+1) _ (fun j e' he' hd=>by rw[show k+1+j=k+(j+1)by omega];exact h (j+1) e' (by simpa using he') hd)
theorem k3t {E E' :Nat->Bool} {i:Nat}:∀(es:List Eff) (k:Nat) (o:Option Ob),(∀(j:Nat) (e:Eff),es[j]? =some e->(Hp.get e.hu i).isSome=true->E (k+j)=E' (k+j))->heapE E i es k o=heapE E' i es k o
 |[],_,_,_=>rfl
 |e::es,k,o,h=>by
  have h0:=h 0 e rfl;simp only[qcq]at h0
  have hv:(if E k=true/\(Hp.get e.hu i).isSome=true then Hp.get e.hu i else o)=(if E' k=true/\(Hp.get e.hu i).isSome=true then Hp.get e.hu i else o):=by
   by_cases hd:(Hp.get e.hu i).isSome=true
   ·rw[h0 hd]
   ·rw[qe (fun h=>hd h.2),qe (fun h=>hd h.2)]
  rw[heapE,heapE,hv];exact k3t es (k+1) _ (fun j e' he' hd=>by rw[show k+1+j=k+(j+1)by omega];exact h (j+1) e' (by simpa using he') hd)
theorem kgs {E:Nat->Bool} {t i:Nat}:∀(es:List Eff) (k:Nat) (v:V) (e:Eff),es[i]? =some e->E (k+i)=false->(∀(j:Nat) (e' :Eff),i<j->es[j]? =some e'->E (k+j)=true->e.d=some t->e'.d≠some t)->
  slotE (fun n=>if n=k+i then true else E n) t es k v=if e.d=some t then e.x else slotE E t es k v
 |[],_,_,_,he,_,_=>by simp at he
 |e0::es,k,v,e,he,hE,hl=>by
  cases i with
  |zero=>
   simp at he;subst he;simp only[qcq]at hE ⊢;rw[slotE,slotE];simp only[qce,true_and,hE,qbd,false_and,qdl];have hcong:∀v',slotE (fun n=>if n=k then true else E n) t es (k+1) v' =slotE E t es (k+1) v' :=fun v' =>k3v es (k+1) v' (fun j _ _ _=>by rw[qe qqo]);rw[hcong];by_cases hd:e0.d=some t
   ·rw[qh hd,qh hd]
    have none_later:∀(es' :List Eff) (k' :Nat) (v' :V),(∀(j:Nat) (e' :Eff),es'[j]? =some e'->E (k' +j)=true->e'.d≠some t)->slotE E t es' k' v' =v' :=by
     intro es';induction es' with
     |nil=>intro _ _ _;rfl
     |cons e1 es' ih=>intro k' v' h';rw[slotE,ih (k' +1) _ (fun j e' he' hE' =>h' (j+1) e' (by simpa using he') (by rw[show k' +(j+1)=k' +1+j by omega];exact hE'))];rw[qe];rintro ⟨h1,h2⟩;exact h' 0 e1 rfl (by simpa using h1) h2
    exact none_later es (k+1) e0.x (fun j e' he' hE' =>hl (j+1) e' qqo (by simpa using he') (by rw[show k+(j+1)=k+1+j by omega];exact hE') hd)
   ·rw[qe hd,qe hd]
  |succ i=>
   rw[slotE,slotE];have hk:k≠k+(i+1):=by omega
   simp only[qe hk]
   have:=kgs (E:=E) (t:=t) (i:=i) es (k+1) (if E k=true/\e0.d=some t then e0.x else v) e (by simpa using he) (by rw[show k+1+i=k+(i+1)by omega];exact hE)
    (fun j e' hij he' hE' =>hl (j+1) e' qqo (by simpa using he') (by rw[show k+(j+1)=k+1+j by omega];exact hE'))
   rw[show k+1+i=k+(i+1)by omega]at this;exact this
theorem kgw {E:Nat->Bool} {t i:Nat}:∀(es:List Eff) (k:Nat) (v:Option Ob) (e:Eff),es[i]? =some e->E (k+i)=false->(∀(j:Nat) (e' :Eff),i<j->es[j]? =some e'->E (k+j)=true->(Hp.get e.hu t).isSome=true->(Hp.get e'.hu t).isSome≠true)->
  heapE (fun n=>if n=k+i then true else E n) t es k v=if(Hp.get e.hu t).isSome=true then Hp.get e.hu t else heapE E t es k v
 |[],_,_,_,he,_,_=>by simp at he
 |e0::es,k,v,e,he,hE,hl=>by
  cases i with
  |zero=>
   simp at he;subst he;simp only[qcq]at hE ⊢;rw[heapE,heapE];simp only[qce,true_and,hE,qbd,false_and,qdl];have hcong:∀v',heapE (fun n=>if n=k then true else E n) t es (k+1) v' =heapE E t es (k+1) v' :=fun v' =>k3t es (k+1) v' (fun j _ _ _=>by rw[qe qqo]);rw[hcong];by_cases hd:(Hp.get e0.hu t).isSome=true
   ·rw[qh hd,qh hd]
    have none_later:∀(es' :List Eff) (k' :Nat) (v' :Option Ob),(∀(j:Nat) (e' :Eff),es'[j]? =some e'->E (k' +j)=true->(Hp.get e'.hu t).isSome≠true)->heapE E t es' k' v' =v' :=by
     intro es';induction es' with
     |nil=>intro _ _ _;rfl
     |cons e1 es' ih=>intro k' v' h';rw[heapE,ih (k' +1) _ (fun j e' he' hE' =>h' (j+1) e' (by simpa using he') (by rw[show k' +(j+1)=k' +1+j by omega];exact hE'))];rw[qe];rintro ⟨h1,h2⟩;exact h' 0 e1 rfl (by simpa using h1) h2
    exact none_later es (k+1) _ (fun j e' he' hE' =>hl (j+1) e' qqo (by simpa using he') (by rw[show k+(j+1)=k+1+j by omega];exact hE') hd)
   ·rw[qe hd,qe hd]
  |succ i=>
   rw[heapE,heapE];have hk:k≠k+(i+1):=by omega
   simp only[qe hk]
   have:=kgw (E:=E) (t:=t) (i:=i) es (k+1) (if E k=true/\(Hp.get e0.hu t).isSome=true then Hp.get e0.hu t else v) e (by simpa using he) (by rw[show k+1+i=k+(i+1)by omega];exact hE)
    (fun j e' hij he' hE' =>hl (j+1) e' qqo (by simpa using he') (by rw[show k+(j+1)=k+1+j by omega];exact hE'))
   rw[show k+1+i=k+(i+1)by omega]at this;exact this
section
variable {P:Program} {T:Tk} {G0 G:Gh} {w0 w:World} {N:Nat} {s s' :St} {a:Act}
end
end Go.Bv
namespace Go.Bv
open Go.RowKit
def edgeB (af:Array Edge) (k:Nat):Bool:=af.any fun e=>Region.binds .any e&&e.on==k
def frs (nb S k:Nat):Nat:=nb+k*S
def opD (P:Program) (nb S k:Nat) (op:Op) (e:Eff) (s:St):Prop:=match op with
 | .alloc t=>(zeroV P t).isSome=true/\0<S/\e.x= .ptr (frs nb S k) 0/\e.hu=[(frs nb S k,.cells (zeroD P t))]
 | .box _ x=>(∃n,(s.ev x).flat n)/\0<S/\e.x= .ptr (frs nb S k) 0/\e.hu=[(frs nb S k,.cells (s.ev x).cells)]
 | .store t a x=>∃id off l g n,s.ev a= .ptr id off/\s.h.get id=some (.cells l)/\tyOf P t=some (g,n)/\(s.ev x).flat n/\off+n<=l.length/\e.x= .any/\e.hu=[(id,.cells (setAt l off (s.ev x).cells))]
 | .build t parts=>(plOf P t).isSome=true/\(zeroV P t).isSome=true/\fillOk (plD P t) (zeroD P t) (parts.toList.map fun p=>(p.1,s.ev p.2))/\
   e.x= .agg (fillR (plD P t) (zeroD P t) (parts.toList.map fun p=>(p.1,s.ev p.2)))/\e.hu=[]
 | .buildSlice t n parts=>((rowOf P t).isSome=true/\parts.toList.map (·.1)=List.range n/\(toDs (parts.toList.map fun p=>s.ev p.2)).isSome=true/\
   sizesOk (rowD P t).1 ((toDs (parts.toList.map fun p=>s.ev p.2)).getD [])/\n*(rowD P t).1<=16777216)/\0<S/\
   ((e.x= .full (rowD P t).1 ((toDs (parts.toList.map fun p=>s.ev p.2)).getD [])/\e.hu=[])∨
    (e.x= .row (frs nb S k) 0 n (rowD P t).1/\e.hu=[(frs nb S k,.cells ((((toDs (parts.toList.map fun p=>s.ev p.2)).getD []).flatMap D.cells).map .d))]))
 | .load t a=>loadOk (tyOf P t) s.h (s.ev a)/\(∀id off,s.ev a= .ptr id off->id∈e.rd)/\e.x=loadV (tyOf P t) s.h (s.ev a)/\e.hu=[]
 | .makeSlice t l c=>mkOk P t (s.ev l) (s.ev c)/\0<S/\e.x= .row (frs nb S k) 0 (natOf (s.ev l)) (rowD P t).1/\e.hu=[(frs nb S k,.cells (zrow (natOf (s.ev l)) (elZD P t)))]
 | .call c=>match c.callee with
  | .value f=>(∃g r,s.ev f= .k (.func (.func g) #[] #[])/\SoundX P g (c.args.toList.map s.ev) r/\e.x=r/\e.hu=[])∨
    ∃g xs pre r post ids,fnG (s.ev f)=some g/\((P.funcs[g]?.bind (·.body)).isSome=true/\P.funcs[g]?.map (·.name)≠some "runtime.NumGoroutine" /\SoundH P g xs pre r post)/\
     preOk s.h (sgm ids (frs nb S k)) pre.length (frs nb S k) (frs nb S k) ids pre/\ids.Nodup/\ppOk pre post/\leArgs (sgm ids (frs nb S k)) pre.length (fnA (s.ev f) (c.args.toList.map s.ev)) xs/\noTup r/\
     (post.length-pre.length<=S/\∀j o,post[pre.length+j]? =some o->notTip o)/\e.x=ren (sgm ids (frs nb S k)) r/\e.hu=hpNew (sgm ids (frs nb S k)) 0 post
  | .builtin .append=>(c.args.size=2/\c.argTypes.size=2/\c.argTypes.getD 0 0=c.argTypes.getD 1 0)/\
    ((∃tok sz bt l,rowOf P (c.argTypes.getD 0 0)=some (sz,bt)/\s.ev (c.args.getD 0 (.const .nilIface))= .own tok sz l/\s.h.get tok=some (.tip l.length)/\isEls sz (s.ev (c.args.getD 1 (.const .nilIface)))/\
     (l.length+((s.ev (c.args.getD 1 (.const .nilIface))).elsD sz).length)*bt<=140737488355328/\l.length+((s.ev (c.args.getD 1 (.const .nilIface))).elsD sz).length<=maxLen/\
     e.x= .own tok sz (l++(s.ev (c.args.getD 1 (.const .nilIface))).elsD sz)/\e.hu=[(tok,.tip (l.length+((s.ev (c.args.getD 1 (.const .nilIface))).elsD sz).length))])∨
     (0<S/\appRowE P s.h (frs nb S k) (c.argTypes.getD 0 0) (s.ev (c.args.getD 0 (.const .nilIface))) (s.ev (c.args.getD 1 (.const .nilIface))) e.x e.hu/\∀id off n z,s.ev (c.args.getD 1 (.const .nilIface))= .row id off n z->id∈e.rd))
  | .builtin .copy=>False
  | .builtin .delete=>False
  |_=>avOk P [] s.ev (.call c)/\e.x=av P [] s.ev (.call c)/\e.hu=[]
 | .makeMap _ _=>False
 | .lookup t x i c=>lookV P s.h s.ev t x i c e.x/\(∀id,s.ev x= .mp id->id∈e.rd)/\e.hu=[]
 | .mapUpdate t m k v=>∃id es',updV P s.h s.ev t m k v id es'/\e.x= .any/\e.hu=[(id,.map (.m es'))]
 |op=>avOk P [] s.ev op/\e.x=av P [] s.ev op/\e.hu=[]
def stepD (P:Program) (N:Nat) (tb:List (Option Nat)) (nb S k:Nat) (o:Oper) (e:Eff) (s:St):Prop:=
 dstOk N o.dst/\e.d=o.dst/\match o.guard with
 |none=>opD P nb S k o.op e s
 |some (j,b)=>(guardV s tb j= .k undef/\e.x= .k undef/\e.hu=[])∨∃t,guardV s tb j= .d (.bool t)/\(t=b->opD P nb S k o.op e s)/\(t≠b->e.x= .k undef/\e.hu=[])
theorem av_h {P:Program} {ev:Operand->V} {op:Op} (h:Hp) (hl:∀t a,op≠ .load t a):av P h ev op=av P [] ev op/\avOk P h ev op=avOk P [] ev op:=by
 cases op<;>first|exact⟨rfl,rfl⟩|skip
 rename_i t a;exact(hl t a rfl).elim
section
variable {P:Program} {T:Tk} {G0 G:Gh} {w0 w:World} {N:Nat} {s s' :St} {a:Act}
theorem keu {h:Hp} {σ:Nat->Nat} {m fb nx nx' :Nat} (hn:nx<=nx'):∀{ks:List Nat} {os:List Ob},preOk h σ m fb nx ks os->preOk h σ m fb nx' ks os
 |[],[],_=>trivial
 |_::_,_::_,hh=>⟨⟨hh.1.1,by have:=hh.1.2.1;omega,hh.1.2.2⟩,keu hn hh.2⟩
 |[],_::_,hh=>hh.elim
 |_::_,[],hh=>hh.elim
theorem kbm {h h' :Hp} {σ:Nat->Nat} {m fb nx:Nat}:∀{ks:List Nat} {os:List Ob},(∀k∈ks,h.get k=h'.get k)->preOk h σ m fb nx ks os->preOk h' σ m fb nx ks os
 |[],[],_,_=>trivial
 |k::_,_::_,he,hh=>⟨⟨hh.1.1,hh.1.2.1,by rw[<-he k qqs];exact hh.1.2.2.1,hh.1.2.2.2⟩,kbm (fun k hk=>he k (by simp[hk])) hh.2⟩
 |[],_::_,_,hh=>hh.elim
 |_::_,[],_,hh=>hh.elim
theorem k7m {σ:Nat->Nat}:∀(os:List Ob) (k i:Nat),k<=i->i<k+os.length->(Hp.get (hpNew σ k os) (σ i)).isSome=true
 |[],k,i,h1,h2=>by simp at h2;omega
 |o::r,k,i,h1,h2=>by
  simp only[hpNew,Hp.get];split
  ·rfl
  ·rename_i hne;have:i≠k:=fun h=>hne (by rw[h]);exact k7m r (k+1) i qqo (by simp at h2;omega)
theorem kmg {h h' :Hp} {sz:Nat} {y:V} {l2:List D} (hy:∀id off n z,y= .row id off n z->h.get id≠none->h.get id=h'.get id) (hs:srcV h sz y l2):srcV h' sz y l2:=by
 rcases hs with hs|⟨id,k,n,ls,rfl,hg,hr⟩
 ·exact .inl hs
 ·exact .inr ⟨id,k,n,ls,rfl,by rw[<-hy _ _ _ _ rfl (by rw[hg];simp)];exact hg,hr⟩
theorem khh {P:Program} {h h' :Hp} {k:Nat} {t:TypeId} {x y r:V} {hu:Hp} (hh:∀id,(Hp.get hu id).isSome=true->h.get id≠none->h.get id=h'.get id)
  (hy:∀id off n z,y= .row id off n z->h.get id≠none->h.get id=h'.get id) (ho:appRowE P h k t x y r hu):appRowE P h' k t x y r hu:=by
 obtain⟨sz,bt,l2,hrow,hs,ho⟩:=ho;refine⟨sz,bt,l2,hrow,kmg hy hs,?_⟩;rcases ho with⟨id,n,l,rfl,hg,hf,hb,hm,rfl,rfl⟩|ho
 ·refine .inl ⟨id,n,l,rfl,?_,hf,hb,hm,rfl,rfl⟩;rw[<-hh id (by simp only[Hp.get];split<;>simp) (by rw[hg];simp)];exact hg
 ·exact .inr ho
theorem k13:noIt []:=fun i o h=>by cases h
theorem k18 {i:Nat} {o:Ob} {h:Hp} (ho:notIt o) (hh:noIt h):noIt ((i,o)::h):=by
 intro j o' hj;simp only[Hp.get]at hj;split at hj
 ·injection hj with hj;subst hj;exact ho
 ·exact hh j o' hj
theorem kki {σ:Nat->Nat}:∀(os:List Ob) (k:Nat),(∀o∈os,notIt o)->noIt (hpNew σ k os)
 |[],_,_=>k13
 |o::r,k,h=>k18 (klw (h o qqs)) (kki r (k+1) fun o ho=>h o (by simp[ho]))
theorem kkf {nb S k:Nat} {op:Op} {e:Eff} (ho:opD P nb S k op e s):noIt e.hu:=by
 have nil:e.hu=[]->noIt e.hu:=fun h=>by rw[h];exact k13
 cases op with
 |alloc t=>rw[ho.2.2.2];exact k18 trivial k13
 |box t x=>rw[ho.2.2.2];exact k18 trivial k13
 |store t p x=>obtain⟨id,off,l,g,n,_,_,_,_,_,_,h⟩:=ho;rw[h];exact k18 trivial k13
 |build t ps=>exact nil ho.2.2.2.2
 |buildSlice t n ps=>
  rcases ho.2.2 with h|h
  ·exact nil h.2
  ·rw[h.2];exact k18 trivial k13
 |load t x=>exact nil ho.2.2.2
 |makeSlice t l c=>rw[ho.2.2.2];exact k18 trivial k13
 |makeMap t r=>exact ho.elim
 |lookup t x i c=>exact nil ho.2.2
 |mapUpdate t m k v=>obtain⟨id,es',_,_,h⟩:=ho;rw[h];exact k18 trivial k13
 |call c=>
  obtain⟨callee,args,argTypes⟩:=c;cases callee with
  |invoke r m=>exact nil ho.2.2
  |builtin b=>
   cases b with
   |copy=>exact ho.elim
   |delete=>exact ho.elim
   |append=>
    obtain⟨_,ho⟩:=ho;rcases ho with⟨tok,sz,bt,l,_,_,_,_,_,_,_,h⟩|⟨_,⟨sz,bt,l2,_,_,ho⟩,_⟩
    ·rw[h];exact k18 trivial k13
    ·rcases ho with⟨id,n,l,_,_,_,_,_,h,_⟩|⟨_,_,_,h,_⟩|⟨l,_,_,_,h,_⟩
     ·rw[h];exact k18 trivial (k18 trivial k13)
     ·rw[h];exact k18 trivial k13
     ·exact nil h
   |_=>exact nil ho.2.2
  |value f=>
   rcases ho with⟨g,r,_,_,_,h⟩|⟨g,xs,pre,r,post,ids,_,_,_,_,p3,_,_,_,_,h⟩
   ·exact nil h
   ·rw[h];exact kki post 0 p3.n
 |_=>exact nil ho.2.2
theorem kmr (hR:R T G0 w0 N s a G w) {nb S k:Nat} {o:Oper} {e:Eff} (hd:dstOk N o.dst) (hed:e.d=o.dst) (hni:noIt s.h) (ho:opD P nb S k o.op e s) (hk:frs nb S k+S<=s.nx)
  (hfree:∀j,j<S->G.loc (frs nb S k+j)=none/\G.tloc (frs nb S k+j)=none/\s.h.get (frs nb S k+j)=none) {K' :Act->World->Prop} {Q:Exit->Act->World->Prop}
  (hK:∀a' G' w',R T G0 w0 N (e.app s) a' G' w'->(∀i,i<s.nx->(i<frs nb S k∨frs nb S k+S<=i)->(Hp.get e.hu i).isSome=false->G'.loc i=G.loc i/\G'.tloc i=G.tloc i)->K' a' w'):o.wp P a w K' Q:=by
 have hdst:∀t,o.dst=some t->t<N:=fun t ht=>by rw[ht]at hd;exact hd
 have hev:=hR.ev;obtain⟨dst,op,ty,pos,after,guard⟩:=o;obtain⟨ed,ex,ehu,erd⟩:=e;simp only at hed;subst hed;generalize hfb:frs nb S k=fb at *
 have value:∀(v:Value) (w' :World),(execOp a.eval ⟨ed,op,ty,pos,after,guard⟩).run P w= .ok (.value v) w'->K' (a.put ed v) w'->Oper.wp P ⟨ed,op,ty,pos,after,guard⟩ a w K' Q:=by intro v w' h1 h2;unfold Oper.wp;rw[h1];exact h2
 have val:∀(sv:Sem Value) (v:Value) (w' :World),sv.run P w= .ok v w'->(do pure (.value (<-sv)):Sem Next).run P w= .ok (.value v) w' :=by intro sv v w' hv;simp only[qp,hv,qi,qw]
 have quiet:avOk P s.h s.ev op->ex=av P s.h s.ev op->ehu=[]->Oper.wp P ⟨ed,op,ty,pos,after,guard⟩ a w K' Q:=by intro h1 h2 h3;subst h2;subst h3;obtain⟨v,g1,g2⟩:=kc7 (o:=⟨ed,op,ty,pos,after,guard⟩) hev hR.wr.obj h1;exact value v w g1 (hK _ _ _ (hR.put g2 ed hdst) (fun i _ _ _=>⟨rfl,rfl⟩))
 have quiet' :(∀t x,op≠ .load t x)->avOk P [] s.ev op->ex=av P [] s.ev op->ehu=[]->Oper.wp P ⟨ed,op,ty,pos,after,guard⟩ a w K' Q:=by intro h0 h1 h2 h3;obtain⟨q1,q2⟩:=av_h (P:=P) (ev:=s.ev) s.h h0;exact quiet (by rw[q2];exact h1) (by rw[q1];exact h2) h3
 cases op with
 |alloc t=>
  obtain⟨h1,hS,h2,h3⟩:=ho;simp only[hfb]at h2 h3;subst h2;subst h3;obtain⟨l,hl⟩:=qab.1 h1;obtain⟨f1,f2,f3⟩:=hfree 0 hS;obtain⟨i,z,hi,hz,hrow⟩:=k5o (G:=G) (w:=w) (h:=s.h) (nx:=s.nx) hl;obtain⟨G',hR',hp,hG⟩:=hR.allocAt fb qqo f1 f2 f3 t z.cells.toList l hrow.1 hrow.2.1 hrow.2.2;have e1:zeroD P t=l:=by simp[zeroD,hl]
  refine value _ _ (val _ _ _ ?_) (hK _ _ _ (by rw[e1];exact hR'.put hp ed hdst) (fun i _ hi _=>hG i qqo));have hzr:(zeroValue t).run P w= .ok z w:=by simp[zeroValue,typeInfo,hi,hz]
  simp only[Instr.alloc,qp,hzr,qi,newVar,newRow,newObj,Sem.run,qw,qdj];rfl
 |box t x=>obtain⟨⟨n,h1⟩,hS,h2,h3⟩:=ho;simp only[hfb]at h2 h3;subst h2;subst h3;obtain⟨f1,f2,f3⟩:=hfree 0 hS;obtain⟨g1,g2⟩:=k98 (hev x) h1;obtain⟨G',hR',hp,hG⟩:=hR.allocAt fb qqo f1 f2 f3 t (a.eval x).cells.toList (s.ev x).cells g2.1 g2.2.1 g2.2.2;refine value _ _ (val _ _ _ ?_) (hK _ _ _ (hR'.put hp ed hdst) (fun i _ hi _=>hG i qqo));simp only[Instr.box,newVar,newRow,newObj,qp,Sem.run,qi,qw,qdj];rfl
 |store t p x=>
  obtain⟨id,off,l,g,n,h1,h3,h4,h5,h6,h7,h8⟩:=ho;simp only at h7 h8;subst h7;subst h8;have hp:=hev p;rw[h1]at hp;obtain⟨w',hrun,hR'⟩:=hR.store (P:=P) h3 (hev x) hp h5.2 h4 h5.1 h6;unfold Oper.wp;have:(execOp a.eval ⟨ed,.store t p x,ty,pos,after,guard⟩).run P w= .ok .skip w' :=by simp only[execOp,qp,hrun,qi,qw]
  rw[this];exact hK _ _ _ (hR'.put (.any _) ed hdst) (fun i _ _ _=>⟨rfl,rfl⟩)
 |build t parts=>
  obtain⟨h1,h2,h3,h4,h5⟩:=ho;simp only at h4 h5;subst h4;subst h5;obtain⟨pl,hpl⟩:=qab.1 h1;obtain⟨l0,hl0⟩:=qab.1 h2;have e1:plD P t=pl:=by simp[plD,hpl]
  have e2:zeroD P t=l0:=by simp[zeroD,hl0]
  rw[e1,e2]at h3 hK;obtain⟨v,z,g1,g2,g3⟩:=kbl (P:=P) (G:=G) (w:=w) (K:=fun z=>z= .agg (fillR pl l0 (parts.toList.map fun p=>(p.1,s.ev p.2)))) hev parts.toList hpl hl0 (kbr _ _ h3 rfl);subst g3;refine value v w (val _ _ _ ?_) (hK _ _ _ (hR.put g2 ed hdst) (fun i _ _ _=>⟨rfl,rfl⟩));rw[<-g1];congr 2;apply qct;simp
 |buildSlice t n parts=>
  obtain⟨⟨h1,h2,h3,h4,h5⟩,hS,h67⟩:=ho;obtain⟨q,hq⟩:=qab.1 h1;obtain⟨sz,bt⟩:=q;obtain⟨l,hl⟩:=qab.1 h3;have e1:rowD P t=(sz,bt):=by simp[rowD,hq]
  simp only[e1,hl,qbl]at h4 h5 h67;rw[toDs_eq]at hl;obtain⟨f1,f2,f3⟩:=hfree 0 hS;rcases h67 with⟨h6,h7⟩|⟨h6,h7⟩
  case inr=>
   simp only[hfb]at h6 h7;subst h6;subst h7;obtain⟨e,vs,hrun,hvl,hszl,hrep,hln,hsz0⟩:=hR.buildRaw hq parts.toList n h2 hl (k21 h4) h5
   obtain⟨G',hR',hp,hG⟩:=hR.allocAt fb qqo f1 f2 f3 e vs ((l.flatMap D.cells).map .d) (by rw[hvl,qm,ki hszl,hln]) (fun c hc=>by
     obtain⟨d,hd,rfl⟩:=qag.1 hc;obtain⟨x,hx,hdx⟩:=qdr.1 hd;exact(hszl x hx).2 d hdx) (fun j u c hu hc=>by
     rw[ql,qv]at hc;obtain⟨d,hd,rfl⟩:=hc;exact .d _ _ (hrep j u d hu hd))
   have hmx:n<=maxLen:=by have:n<=n*sz:=qfd _ hsz0;simp only[maxLen];omega
   have hv:RepV G' (w.alloc (.cells vs.toArray e)) ((fb,.cells ((l.flatMap D.cells).map .d))::s.h) s.nx (.slice (some ⟨w.heap.size,0,none⟩) n n) (.row fb 0 n sz):=by
    cases hp with
    |ptr _ _ b hid hl=>refine .row fb 0 n sz w.heap.size 0 n _ hid hl (fun _=>rfl) (qt _) hmx (csz_of (qcw w _)) ?_;simp[hvl]
   refine value _ _ (val _ _ _ ?_) (hK _ _ _ (hR'.put hv ed hdst) (fun i _ hi _=>hG i qqo));rw[<-hrun];congr 2;apply qct;simp
  subst h6;subst h7;obtain⟨v,w',G',g1,g2,g3,hG⟩:=hR.buildSlice hq parts.toList n h2 hl (k21 h4) h5 fb s.nx (.inr ⟨by omega,rfl⟩) f3;refine value v w' (val _ _ _ ?_) (hK _ _ _ (g2.put g3 ed hdst) (fun i hi hi2 _=>hG i qqo hi));rw[<-g1];congr 2;apply qct;simp
 |load t x=>obtain⟨h1,_,h3,h4⟩:=ho;exact quiet h1 h3 h4
 |lookup t x i c=>obtain⟨h1,h2,h3⟩:=ho;simp only at h1 h3;subst h3;obtain⟨v,g1,g2⟩:=kkd hR h1;exact value v w (val _ _ _ g1) (hK _ _ _ (hR.put g2 ed hdst) (fun i _ _ _=>⟨rfl,rfl⟩))
 |makeSlice t l c=>
  obtain⟨h1,hS,h2,h3⟩:=ho;simp only[hfb]at h2 h3;have hx:=hev l;have hy:=hev c;generalize s.ev l=lv at hx h1 h2 h3;generalize s.ev c=cv at hy h1;unfold mkOk at h1;split at h1
  ·rename_i q n q' m;obtain⟨⟨k1,k2⟩,k3,k4,k5,k6⟩:=h1;obtain⟨r,hr⟩:=qab.1 k1;obtain⟨sz,bt⟩:=r;obtain⟨zs,hzs⟩:=qab.1 k2;have e1:rowD P t=(sz,bt):=by simp[rowD,hr]
   have e2:elZD P t=zs:=by simp[elZD,hzs]
   simp only[e1,e2,natOf]at h2 h3 k5;obtain⟨n',rfl⟩:=qn k3;obtain⟨c',rfl⟩:=qn (qez k3 k4);simp only[qr]at h2 h3 k5 k6;subst h2;subst h3;obtain⟨f1,f2,f3⟩:=hfree 0 hS;obtain⟨v,w',G',g1,g2,g3,hG⟩:=hR.make hr hzs (n:=n') (c:=c') (q:=q) (q' :=q') qqo k5 k6 fb s.nx (.inr ⟨by omega,rfl,f1,f2,f3⟩);refine value v w' (val _ _ _ ?_) (hK _ _ _ (g2.put g3 ed hdst) (fun i hi hi2 _=>hG i qqo hi));simp only[hx.int_inv,hy.int_inv];exact g1
  ·exact h1.elim
 |makeMap t r=>exact ho.elim
 |mapUpdate t m k v=>
  obtain⟨id,es',h1,h2,h3⟩:=ho;simp only at h2 h3;subst h2;subst h3;obtain⟨w',hrun,hR'⟩:=upd_run (P:=P) hR hni h1;unfold Oper.wp;have:(execOp a.eval ⟨ed,.mapUpdate t m k v,ty,pos,after,guard⟩).run P w= .ok .skip w' :=by simp only[execOp,qp,hrun,qi,qw]
  rw[this];exact hK _ _ _ (hR'.put (.any _) ed hdst) (fun i _ _ _=>⟨rfl,rfl⟩)
 |call c=>
  obtain⟨callee,args,argTypes⟩:=c;cases callee with
  |invoke r m=>exact quiet' (fun _ _ h=>by cases h) ho.1 ho.2.1 ho.2.2
  |builtin b=>
   cases b with
   |copy=>exact ho.elim
   |delete=>exact ho.elim
   |append=>
    obtain⟨⟨h1,h2,h3⟩,ho⟩:=ho
    obtain⟨x,y,rfl⟩:∃x y,args= #[x,y]:=by
     obtain⟨l⟩:=args
     match l,h1 with
     |[x,y],_=>exact⟨x,y,rfl⟩
    obtain⟨t,t',rfl⟩:∃x y,argTypes= #[x,y]:=by
     obtain⟨l⟩:=argTypes
     match l,h2 with
     |[x,y],_=>exact⟨x,y,rfl⟩
    have e0:(#[t,t']:Array TypeId).getD 0 0=t:=rfl;have e0' :(#[t,t']:Array TypeId).getD 1 0=t' :=rfl;rw[e0,e0']at h3;subst h3;have ex' :(#[x,y]:Array Operand).getD 0 (.const .nilIface)=x:=rfl;have ey' :(#[x,y]:Array Operand).getD 1 (.const .nilIface)=y:=rfl;have e0:(#[t,t]:Array TypeId).getD 0 0=t:=rfl;simp only[ex',ey',e0]at ho;rcases ho with⟨tok,sz,bt,l,k1,k2,k3,k4,k5,k6,k7,k8⟩|⟨hS,ho,_⟩
    ·subst k7;subst k8;obtain⟨l2,hl2⟩:=qab.1 (show((s.ev y).els sz).isSome=true from k4);have e3:(s.ev y).elsD sz=l2:=by simp[V.elsD,hl2]
     simp only[e3]at k5 k6 hK;have hg:growA s sz (.own tok sz l)=some (tok,s.nx,l):=by simp[growA,k3]
     have hx:=hev x;rw[k2]at hx;obtain⟨v,w',G',g1,g2,g3,hG⟩:=hR.append k1 hx (hev y) hg hl2 k5 ty k6;refine value v w' ?_ (hK _ _ _ (g2.put g3 ed hdst) (fun i hi hi2 hn=>hG i ?_ hi))
     ·simp only[execOp,resolve,invoke,builtin,qp,qw,qi,qco,qae,qdb,g1]
     ·rintro rfl;simp[Hp.get]at hn
    ·simp only[hfb]at ho;obtain⟨f1,f2,f3⟩:=hfree 0 hS;obtain⟨v,w',G',g1,g2,g3,hG⟩:=hR.appRowAt (ty:=ty) (hev x) (hev y) (k:=fb) qqo f1 f2 f3 ho;refine value v w' ?_ (hK _ _ _ (g2.put g3 ed hdst) (fun i hi hi2 _=>hG i qqo hi));simp only[execOp,resolve,invoke,builtin,qp,qw,qi,qco,qae,qdb,g1]
   |_=>exact quiet' (fun _ _ h=>by cases h) ho.1 ho.2.1 ho.2.2
  |value f=>
   rcases ho with⟨g,r,h1,h2,h3,h4⟩|⟨g,xs,pre,r,post,ids,h1,⟨h2,h3,h4⟩,p1,p2,p3,h5,h6,⟨p4,p5⟩,h7,h8⟩
   ·simp only at h3 h4;subst h3;subst h4;have hf:=hev f;rw[h1]at hf;have hfv:=hf.k_inv
    obtain⟨v,g1,g2⟩:=h2 G w s.h s.nx (args.toList.map a.eval) qqs (fun j v x hv hx=>by
     rw[ql,qv]at hv;obtain⟨o',ho',rfl⟩:=hv;simp only[ql,ho',qax,qah]at hx;rw[<-hx];exact hev o')
    refine value v w ?_ (hK _ _ _ (hR.put g2 ed hdst) (fun i _ _ _=>⟨rfl,rfl⟩));simp only[execOp,resolve,Deferred.ofValue,hfv,qp,qw,qi,invoke];rw[<-g1];congr 2;apply qct;simp
   simp only[hfb]at p1 h5 h7 h8;subst h7;subst h8;obtain⟨vs,us,hfv,hrep⟩:=fn_rep (hev f) h1;obtain⟨g1,g2⟩:=k6a h5
   have hrl:=hrep (args.toList.map a.eval) (args.toList.map s.ev) ⟨by simp,fun j v x hv hx=>by
    rw[ql,qv]at hv;obtain⟨o',ho',rfl⟩:=hv;rw[ql,ho']at hx;injection hx with hx;subst hx;exact hev o'⟩
   have hlen:(vs++(args.toList.map a.eval++us)).length=xs.length:=hrl.1.trans g1
   have hcall:=hR.call (nx' :=s.nx) h4 hni (keu qqo p1) p2 p3 (.inr ⟨rfl,fun j hj=>⟨by omega,(hfree j qqo).1,(hfree j qqo).2.1,fun o ho=>p5 j o ho⟩⟩) hlen (fun j v x hv hx=>by
    have hj:j<(fnA (s.ev f) (args.toList.map s.ev)).length:=by have:=(qf.1 hv).1;have:=hrl.1;omega
    obtain⟨q1,q2⟩:=g2 j _ x (qd hj) hx;exact⟨(hrl.2 j v _ hv (qd hj)).le q1,q2⟩) h6
   unfold Oper.wp
   have hrun:(execOp a.eval ⟨ed,.call ⟨.value f,args,argTypes⟩,ty,pos,after,guard⟩).run P w= .ok (.enter g (vs++(args.toList.map a.eval++us)).toArray) w:=by
    simp only[execOp,resolve,Deferred.ofValue,hfv,qp,qw,qi,invoke,callFunc,run_program];cases hfn:P.funcs[g]? with
    |none=>simp[hfn]at h2
    |some fn=>
     simp only[hfn,qer,qax,ne_eq,qah]at h2 h3;have hnm:(fn.name== "runtime.NumGoroutine")=false:=by simpa using h3
     have hbn:fn.body.isNone=false:=by cases hb:fn.body with|none=>simp[hb]at h2|some _=>rfl
     simp only[hnm,hbn,qbd,qdl,qw];congr 2;apply qct;simp
   rw[hrun];refine hcall.mono fun e w' ⟨v,G',he,hR',hv,hG⟩=> ?_;subst he;refine hK _ _ _ (hR'.put hv ed hdst) (fun i hi hi2 hn=>hG i hi (fun q hq heq=> ?_));subst heq;rw[k7m post 0 q (qbg _) qqo]at hn;cases hn
 |_=>exact quiet' (fun _ _ h=>by cases h) ho.1 ho.2.1 ho.2.2
theorem kn9 {nb S k:Nat} {op:Op} {e:Eff} (hev:∀x∈op.operands,s.ev x=s'.ev x)
  (hh:∀id,((Hp.get e.hu id).isSome=true∨id∈e.rd)->(id<frs nb S k∨frs nb S k+S<=id)->s.h.get id=s'.h.get id)
  (hh0:∀id,(Hp.get e.hu id).isSome=true->(∃t,op= .store t (op.operands.getD 0 (.const .nilIface)) (op.operands.getD 1 (.const .nilIface)))∨(∃c,op= .call c)∨(∃t m k v,op= .mapUpdate t m k v)->s.h.get id≠none->s.h.get id=s'.h.get id) (hrd:∀id,id∈e.rd->s.h.get id≠none->s.h.get id=s'.h.get id) (ho:opD P nb S k op e s):opD P nb S k op e s' :=by
 have quiet:∀(op:Op),(∀x∈op.operands,s.ev x=s'.ev x)->(∀t a,op≠ .load t a)->avOk P [] s.ev op->avOk P [] s'.ev op/\av P [] s.ev op=av P [] s'.ev op:=by
  intro op hev hl;cases op<;>simp only[avOk,av]<;>simp only[Op.operands,Call.operands]at hev<;>first|(intro h;exact h.elim)|skip
  case move x=>rw[hev x qqs];exact fun _=>⟨trivial,rfl⟩
  case assign x=>rw[hev x qqs];exact fun _=>⟨trivial,rfl⟩
  case pick c x y=>rw[hev c qqs,hev x qqs,hev y qqs];exact fun h=>⟨h,rfl⟩
  case load t x=>exact(hl t x rfl).elim
  case fieldAddr t x f=>rw[hev x qqs];exact fun h=>⟨h,rfl⟩
  case field t x f=>rw[hev x qqs];exact fun h=>⟨h,rfl⟩
  case indexAddr t x i=>rw[hev x qqs,hev i qqs];exact fun h=>⟨h,rfl⟩
  case index t x i=>rw[hev x qqs,hev i qqs];exact fun h=>⟨h,rfl⟩
  case extract x i=>rw[hev x qqs];exact fun h=>⟨h,rfl⟩
  case binOp op t x y t' =>rw[hev x qqs,hev y qqs];exact fun h=>⟨h,rfl⟩
  case unOp op t x=>rw[hev x qqs];exact fun h=>⟨h,rfl⟩
  case convert t t' x=>rw[hev x qqs];exact fun h=>⟨h,rfl⟩
  case slice t x lo hi mx=>
   rw[hev x qqs];have e1:lo.map s.ev=lo.map s'.ev:=by cases lo with|none=>rfl|some y=>simp[hev y qqs]
   have e2:hi.map s.ev=hi.map s'.ev:=by cases hi with|none=>rfl|some y=>simp[hev y qqs]
   rw[e1,e2];exact fun h=>⟨h,rfl⟩
  case nilCheck x=>rw[hev x qqs];exact fun h=>⟨h,rfl⟩
  case makeFunc fn fs cs=>have e1:cs.toList.map s.ev=cs.toList.map s'.ev:=qar (fun y hy=>hev y (by simp;exact .inr (by simpa using hy)));rw[e1];exact fun _=>⟨trivial,rfl⟩
  case call c=>
   have two:c.args.size=2->s.ev (c.args.getD 0 (.const .nilIface))=s'.ev (c.args.getD 0 (.const .nilIface))/\s.ev (c.args.getD 1 (.const .nilIface))=s'.ev (c.args.getD 1 (.const .nilIface)):=by
    intro h2;have e0:c.args.getD 0 (.const .nilIface)=c.args[0]:=by simp[h2]
    have e1:c.args.getD 1 (.const .nilIface)=c.args[1]:=by simp[h2]
    rw[e0,e1];exact⟨hev _ qqs,hev _ qqs⟩
   unfold callVOk callV;split
   ·rintro ⟨h1,h2⟩;obtain⟨e0,e1⟩:=two h1;rw[e0,e1]at h2 ⊢;exact⟨⟨h1,h2⟩,rfl⟩
   ·rintro ⟨h1,h2⟩;obtain⟨e0,e1⟩:=two h1;rw[e0,e1]at h2 ⊢;exact⟨⟨h1,h2⟩,rfl⟩
   rintro ⟨h1,h2⟩
   have e1:s.ev (c.args.getD 0 (.const .nilIface))=s'.ev (c.args.getD 0 (.const .nilIface)):=by
    have hs:0<c.args.size:=by rw[h1.2.1];omega
    have:c.args.getD 0 (.const .nilIface)=c.args[0]:=by simp[hs]
    rw[this];refine hev _ ?_;rw[h1.1];simp
   rw[e1]at h2 ⊢;exact⟨⟨h1,h2⟩,rfl⟩
 cases op with
 |alloc t=>exact ho
 |box t x=>simp only[Op.operands]at hev;simp only[opD,hev x qqs]at ho ⊢;exact ho
 |store t p x=>obtain⟨id,off,l,g,n,h1,h3,h4,h5,h6,h7,h8⟩:=ho;simp only[Op.operands]at hev;have ep:=hev p qqs;have ex:=hev x qqs;have hg:=hh0 id (by rw[h8];simp[Hp.get]) (.inl ⟨t,rfl⟩) (by rw[h3];simp);exact⟨id,off,l,g,n,by rw[<-ep];exact h1,by rw[<-hg];exact h3,h4,by rw[<-ex];exact h5,h6,h7,by rw[<-ex];exact h8⟩
 |build t parts=>
  obtain⟨h1,h2,h3,h4,h5⟩:=ho;have e1:(parts.toList.map fun p=>(p.1,s.ev p.2))=parts.toList.map fun p=>(p.1,s'.ev p.2):=by apply qar;intro p hp;rw[hev p.2 (by simp only[Op.operands];simp;exact⟨p.1,by simpa using hp⟩)]
  rw[e1]at h3 h4;exact⟨h1,h2,h3,h4,h5⟩
 |buildSlice t n parts=>
  have e1:(parts.toList.map fun p=>s.ev p.2)=parts.toList.map fun p=>s'.ev p.2:=by apply qar;intro p hp;rw[hev p.2 (by simp only[Op.operands];simp;exact⟨p.1,by simpa using hp⟩)]
  simp only[opD,e1]at ho ⊢;exact ho
 |makeSlice t l c=>simp only[Op.operands]at hev;simp only[opD,hev l qqs,hev c qqs]at ho ⊢;exact ho
 |makeMap t r=>exact ho.elim
 |lookup t x i c=>
  obtain⟨⟨et,d,k,es,z,h1,h2,h3,h4,h5,h6,h7⟩,h8,h9⟩:=ho;simp only[Op.operands]at hev;have ex:=hev x qqs;have ei:=hev i qqs;refine⟨⟨et,d,k,es,z,h1,by rw[<-ei];exact h2,h3,?_,h5,h6,h7⟩,by rw[<-ex];exact h8,h9⟩;rcases h4 with⟨id,q1,q2⟩|⟨q1,q2⟩
  ·exact .inl ⟨id,by rw[<-ex];exact q1,by rw[<-hrd id (h8 id q1) (by rw[q2];simp)];exact q2⟩
  ·exact .inr ⟨by rw[<-ex];exact q1,q2⟩
 |mapUpdate t m k v=>obtain⟨id,es',⟨et,d,kd,es,h1,h2,h3,h4,h5,h6,y,h7,h8,h9⟩,hx,hu⟩:=ho;simp only[Op.operands]at hev;have hg:=hh0 id (by rw[hu];simp[Hp.get]) (.inr (.inr ⟨t,m,k,v,rfl⟩)) (by rw[h5];simp);exact⟨id,es',⟨et,d,kd,es,h1,by rw[<-hev k qqs];exact h2,h3,by rw[<-hev m qqs];exact h4,by rw[<-hg];exact h5,h6,y,by rw[<-hev v qqs];exact h7,h8,h9⟩,hx,hu⟩
 |load t x=>
  obtain⟨h1,h2,h3,h4⟩:=ho;simp only[Op.operands]at hev;have ex:=hev x qqs;rw[ex]at h1 h2 h3
  have key:loadOk (tyOf P t) s'.h (s'.ev x)=loadOk (tyOf P t) s.h (s'.ev x)/\loadV (tyOf P t) s'.h (s'.ev x)=loadV (tyOf P t) s.h (s'.ev x):=by
   generalize s'.ev x=v at *
   cases v<;>first|exact⟨rfl,rfl⟩|skip
   rename_i id off;have hne:s.h.get id≠none:=by intro hn;simp only[loadOk,hn]at h1;split at h1<;>simp_all
   have:=hrd id (h2 id off rfl) hne;simp only[loadOk,loadV,this];exact⟨trivial,trivial⟩
  exact⟨by rw[key.1];exact h1,h2,by rw[key.2];exact h3,h4⟩
 |call c=>
  obtain⟨callee,args,argTypes⟩:=c;cases callee with
  |invoke r m=>obtain⟨q1,q2⟩:=quiet _ hev (fun _ _ h=>by cases h) ho.1;exact⟨q1,by rw[<-q2];exact ho.2.1,ho.2.2⟩
  |builtin b=>
   cases b with
   |copy=>exact ho.elim
   |delete=>exact ho.elim
   |append=>
    obtain⟨⟨h1,h2,h3⟩,ho⟩:=ho;simp only at h1
    have a0:s.ev (args.getD 0 (.const .nilIface))=s'.ev (args.getD 0 (.const .nilIface)):=by
     have:args.getD 0 (.const .nilIface)=args[0]:=by simp[h1]
     rw[this];exact hev _ (by simp only[Op.operands,Call.operands];simp)
    have a1:s.ev (args.getD 1 (.const .nilIface))=s'.ev (args.getD 1 (.const .nilIface)):=by
     have:args.getD 1 (.const .nilIface)=args[1]:=by simp[h1]
     rw[this];exact hev _ (by simp only[Op.operands,Call.operands];simp)
    rcases ho with⟨tok,sz,bt,l,k1,k2,k3,k4,k5,k6,k7,k8⟩|⟨hS,ho,hr⟩
    ·have hg:=hh0 tok (by rw[k8];simp[Hp.get]) (.inr (.inl ⟨_,rfl⟩)) (by rw[k3];simp);simp only[a0,a1]at k2 k4 k5 k6 k7 k8;exact⟨⟨h1,h2,h3⟩,.inl ⟨tok,sz,bt,l,k1,k2,by rw[<-hg];exact k3,k4,k5,k6,k7,k8⟩⟩
    ·simp only[a0,a1]at ho hr;refine⟨⟨h1,h2,h3⟩,.inr ⟨hS,?_,hr⟩⟩;simp only;refine khh (fun id hi=> ?_) (fun id off n z hi hne=>hrd id (hr id off n z hi) hne) ho;exact fun hne=>hh0 id hi (.inr (.inl ⟨_,rfl⟩)) hne
   |_=>obtain⟨q1,q2⟩:=quiet _ hev (fun _ _ h=>by cases h) ho.1;exact⟨q1,by rw[<-q2];exact ho.2.1,ho.2.2⟩
  |value f=>
   simp only[Op.operands,Call.operands]at hev;have ef:=hev f qqs;have ea:args.toList.map s.ev=args.toList.map s'.ev:=qar (fun y hy=>hev y (by simp;exact .inr (by simpa using hy)));rcases ho with⟨g,r,h1,h2,h3,h4⟩|⟨g,xs,pre,r,post,ids,h1,h4,p1,p2,p3,h5,h6,p4,h7,h8⟩
   ·exact .inl ⟨g,r,by rw[<-ef];exact h1,by rw[<-ea];exact h2,h3,h4⟩
   ·refine .inr ⟨g,xs,pre,r,post,ids,by rw[<-ef];exact h1,h4,kbm (fun k hk=> ?_) p1,p2,p3,by rw[<-ea,<-ef];exact h5,h6,p4,h7,h8⟩;obtain⟨hil,hpo⟩:=k7l p1;obtain⟨i,hi,rfl⟩:=qbu hk;obtain⟨q1,_⟩:=hpo i _ _ (qd hi) (qd qqo);refine hh _ (.inl ?_) (.inl q1);have e1:sgm ids (frs nb S k) i=ids[i]:=by simp[sgm,hi]
    rw[h8,<-e1];exact k7m post 0 i (qbg _) (by have:=p3.l;omega)
 |_=>obtain⟨q1,q2⟩:=quiet _ hev (fun _ _ h=>by cases h) ho.1;exact⟨q1,by rw[<-q2];exact ho.2.1,ho.2.2⟩
end
end Go.Bv
namespace Go.Bv
open Go.RowKit
theorem kmj (es:List Eff):∀(i k:Nat) (s:St),stE (fun n=>decide (n<k+i)) es k s=(es.take i).foldl (fun s e=>e.app s) s:=by
 induction es with
 |nil=>intro i k s;simp[stE]
 |cons e es ih=>
  intro i k s;rw[stE];cases i with
  |zero=>
   simp only[qcq,Nat.lt_irrefl,decide_false,qbd,qdl,List.take_zero,List.foldl_nil]
   have:∀(es:List Eff) (k' :Nat),k<=k'->∀s,stE (fun n=>decide (n<k)) es k' s=s:=by
    intro es;induction es with
    |nil=>intro _ _ _;rfl
    |cons e es ih=>intro k' hk s;rw[stE,ih (k' +1) qqo,qe qqm]
   exact this es (k+1) qqo s
  |succ i=>rw[qh qqs];have:=ih i (k+1) (e.app s);rw[show k+1+i=k+(i+1)by omega]at this;rw[this];rfl
theorem cnt_le (p p' :Nat->Bool) (h:∀i,p' i=true->p i=true):∀l:List Nat,(l.filter p').length<=(l.filter p).length
 |[]=>by simp
 |x::l=>by
  have ih:=cnt_le p p' h l;simp only[List.filter_cons];by_cases h1:p' x=true
  ·rw[qh h1,qh (h x h1)];simp;omega
  ·rw[qe h1];split
   ·simp;omega
   ·exact ih
theorem cnt_lt (p p' :Nat->Bool) (h:∀i,p' i=true->p i=true) (i:Nat) (h1:p i=true) (h2:p' i=false):∀l:List Nat,i∈l->(l.filter p').length<(l.filter p).length
 |[],hm=>by cases hm
 |x::l,hm=>by
  simp only[List.filter_cons];rcases qam.1 hm with rfl|hm
  ·rw[qe (by rw[h2];simp),qh h1];have:=cnt_le p p' h l;simp;omega
  ·have ih:=cnt_lt p p' h i h1 h2 l hm;by_cases h3:p' x=true
   ·rw[qh h3,qh (h x h3)];simp;omega
   ·rw[qe h3];split
    ·simp;omega
    ·exact ih
theorem kkv {ops:Array Oper}:∀(fuel k:Nat) (listed:Array Bool),listed.size=ops.size->k+fuel=ops.size->(∀i,i<ops.size->(listed.getD i true=decide (i<k)/\listed.getD i false=decide (i<k)))->Region.lexFrom .any ops fuel k listed=true->
  ∀i,k<=i->i<ops.size->∀oi,ops[i]? =some oi->(∀e∈oi.after,Region.binds .any e=true->e.on<i)/\(∀j oj,i<j->ops[j]? =some oj->oi.apart ops oj=true∨∃e∈oj.after,Region.binds .any e=true/\e.on=i)
 |0,k,listed,_,hk,_,_,i,h1,h2,_,_=>by omega
 |fuel+1,k,listed,hs,hk,hl,hB,i,h1,h2,oi,hoi=>by
  simp only[Region.lexFrom,qg]at hB;obtain⟨⟨hr,hf⟩,hB'⟩:=hB;rcases qaz k i with hki|hki
  ·refine kkv fuel (k+1) (listed.setIfInBounds k true) (by simpa using hs) qqo (fun n hn=> ?_) hB' i hki h2 oi hoi;by_cases hnk:n=k
   ·subst hnk;simp[hs,hn]
   ·rw[getD_set_ne true (Ne.symm hnk),getD_set_ne false (Ne.symm hnk),(hl n hn).1,(hl n hn).2];have:(n<k)=(n<k+1):=by apply propext;omega
    simp only[this,and_self]
  ·have hik:i=k:=by omega
   subst hik;refine⟨fun e he hb=> ?_,fun j oj hij hoj=> ?_⟩
   ·have hmem:i∈Region.ready .any ops listed:=by simpa using hr
    obtain⟨_,o',ho',hall⟩:=mem_ready.1 hmem;rw[hoi]at ho';injection ho' with ho';subst ho';have:=hall e he hb;rcases qaz e.on ops.size with h3|h3
    ·rw[(hl _ h3).2]at this;simpa using this
    ·have hsz:listed.size<=e.on:=by omega
     simp[Array.getD,Nat.not_lt.2 hsz]at this
   ·by_cases hex:∃e∈oj.after,Region.binds .any e=true/\e.on=i
    ·exact .inr hex
    ·refine .inl (Region.free_spec hoi hf j oj hoj qqo ?_ (fun e he hb heq=>hex ⟨e,he,hb,heq⟩));have hjs:j<ops.size:=(qdx.1 hoj).1;rw[(hl j hjs).1];simp;omega
section
variable {P:Program} {T:Tk} {G0:Gh} {w0:World} {N:Nat}
theorem ke3 {E:Nat->Bool} {id:Nat}:∀(es:List Eff) (k:Nat),heapE E id es k none≠none->∃(j:Nat) (e:Eff),es[j]? =some e/\E (k+j)=true/\(Hp.get e.hu id).isSome=true:=by
 have gen:∀(es:List Eff) (k:Nat) (o:Option Ob),heapE E id es k o≠none->o≠none∨∃(j:Nat) (e:Eff),es[j]? =some e/\E (k+j)=true/\(Hp.get e.hu id).isSome=true:=by
  intro es;induction es with
  |nil=>intro k o h;exact .inl h
  |cons e es ih=>
   intro k o h;rw[heapE]at h;rcases ih (k+1) _ h with h1|⟨j,e',h1,h2,h3⟩
   ·split at h1
    ·rename_i hc;exact .inr ⟨0,e,rfl,by simpa using hc.1,hc.2⟩
    ·exact .inl h1
   ·exact .inr ⟨j+1,e',by simpa using h1,by rw[show k+(j+1)=k+1+j by omega];exact h2,h3⟩
 intro es k h;rcases gen es k none h with h1|h1
 ·exact(h1 rfl).elim
 ·exact h1
theorem kh9 {E:Nat->Bool} {id:Nat} {ob:Ob}:∀(es:List Eff) (k:Nat) (o:Option Ob),heapE E id es k o=some ob->o=some ob∨∃e∈es,Hp.get e.hu id=some ob
 |[],_,_,h=> .inl h
 |e::es,k,o,h=>by
  rw[heapE]at h;rcases kh9 es (k+1) _ h with h1|⟨e',h1,h2⟩
  ·split at h1
   ·exact .inr ⟨e,by simp,h1⟩
   ·exact .inl h1
  ·exact .inr ⟨e',by simp[h1],h2⟩
theorem km4 {P:Program} {N:Nat} {tb:List (Option Nat)} {nb S k:Nat} {o:Oper} {e:Eff} {s:St} (h:stepD P N tb nb S k o e s):noIt e.hu:=by
 obtain⟨_,_,h⟩:=h;split at h
 ·exact kkf h
 ·rename_i j b hg;rcases h with⟨_,_,h⟩|⟨t,_,h1,h2⟩
  ·rw[h];exact k13
  ·by_cases ht:t=b
   ·exact kkf (h1 ht)
   ·rw[(h2 ht).2];exact k13
theorem k55 (nb S k:Nat):frs nb S (k+1)=frs nb S k+S:=by unfold frs;rw[qed];omega
theorem k3k (nb S:Nat) {k j:Nat} (h:k<=j):frs nb S k<=frs nb S j:=by unfold frs;have:=qbc S h;omega
inductive Anc (l:List Oper):Nat->Nat->Prop
 |edge {j:Nat} {o:Oper} {e:Edge} (h:l[j]? =some o) (he:e∈o.after) (hb:Region.binds .any e=true):Anc l j e.on
 |trans {j i:Nat} {o:Oper} {e:Edge} (h:l[j]? =some o) (he:e∈o.after) (hb:Region.binds .any e=true) (ht:Anc l e.on i):Anc l j i
theorem Anc.closed {l:List Oper} {p:Nat->Prop} (hcl:∀(j:Nat) (oj:Oper),l[j]? =some oj->p j->∀e∈oj.after,Region.binds .any e=true->p e.on) {j i:Nat} (h:Anc l j i) (hj:p j):p i:=by
 induction h with
 |edge h he hb=>exact hcl _ _ h hj _ he hb
 |trans h he hb ht ih=>exact ih (hcl _ _ h hj _ he hb)
theorem Anc.ready {l:List Oper} {p:Nat->Prop} (hcl:∀(j:Nat) (oj:Oper),l[j]? =some oj->p j->∀e∈oj.after,Region.binds .any e=true->p e.on) {j i:Nat} {o:Oper} (ho:l[j]? =some o) (hall:∀e∈o.after,Region.binds .any e=true->p e.on) (h:Anc l j i):p i:=by
 cases h with
 |edge h he hb=>rw[ho]at h;injection h with h;subst h;exact hall _ he hb
 |trans h he hb ht=>rw[ho]at h;injection h with h;subst h;exact ht.closed hcl (hall _ he hb)
theorem drawn {l:List Oper} {es:List Eff} {s0:St} {nb S:Nat} {Q:Exit->Act->World->Prop} (hlen:es.length=l.length) (hnb:s0.nx=frs nb S l.length) (hold:∀id,nb<=id->s0.h.get id=none) (H0:noIt s0.h)
  (H1:∀(i:Nat) (o:Oper) (e:Eff),l[i]? =some o->es[i]? =some e->stepD P N (l.map (·.dst)) nb S i o e (stE (fun k=>decide (k<i)) es 0 s0))
  (H2:Region.lexB .any l.toArray=true)
  (H3:∀(i j:Nat) (ei ej:Eff) (oj:Oper) (id:Nat),i<j->es[i]? =some ei->es[j]? =some ej->l[j]? =some oj->(((Hp.get ei.hu id).isSome=true/\((Hp.get ej.hu id).isSome=true∨id∈ej.rd))∨(id∈ei.rd/\(Hp.get ej.hu id).isSome=true))->Anc l j i)
  (H4:∀(j:Nat) (e:Eff) (id:Nat),es[j]? =some e->(Hp.get e.hu id).isSome=true->id<frs nb S (j+1))
  (H5:∀(j:Nat) (e:Eff) (id:Nat),es[j]? =some e->(Hp.get e.hu id).isSome=true->frs nb S j<=id∨(stE (fun k=>decide (k<j)) es 0 s0).h.get id≠none)
  (hQ:∀a' G' w',R T G0 w0 N (stE (fun _=>true) es 0 s0) a' G' w'->Q .normal a' w'):
  ∀(fuel:Nat) (listed:Array Bool) (a:Act) (G:Gh) (w:World),listed.size=l.length->(∀(j:Nat) (oj:Oper),l[j]? =some oj->listed.getD j false=true->∀e∈oj.after,Region.binds .any e=true->listed.getD e.on false=true)->
   R T G0 w0 N (stE (fun k=>listed.getD k false) es 0 s0) a G w->(∀k,k<l.length->listed.getD k false=false->∀id,frs nb S k<=id->id<frs nb S k+S->G.loc id=none/\G.tloc id=none)->
   ((List.range l.length).filter (fun i=> !listed.getD i false)).length<=fuel->wpAny P .any l.toArray Q fuel listed a w:=by
 
 have maker:∀(j k:Nat) (ej ek:Eff) (id:Nat),es[j]? =some ej->es[k]? =some ek->(Hp.get ej.hu id).isSome=true->frs nb S k<=id->id<frs nb S k+S->k<=j/\(Hp.get ek.hu id).isSome=true:=by
  intro j;induction j using Nat.strongRecOn with
  |_ j ih=>
   intro k ej ek id hj hk hw h1 h2;have h4:=H4 j ej id hj hw
   have hkj:k<=j:=by
    rcases qaz j k with h|h
    ·have:=k3k nb S (show j+1<=k by omega);omega
    ·exact h
   refine⟨hkj,?_⟩;by_cases hkj' :k=j
   ·subst hkj';rw[hj]at hk;injection hk with hk;subst hk;exact hw
   ·rcases H5 j ej id hj hw with h5|h5
    ·have:=k3k nb S (show k+1<=j by omega);rw[k55]at this;omega
    ·rw[k1m,hold id (by unfold frs at h1;omega)]at h5;obtain⟨j',e',g1,g2,g3⟩:=ke3 es 0 h5;simp at g2;exact(ih j' qqo k e' ek id g1 hk g3 h1 h2).2
 simp only[Region.lexB,qg]at H2;have hlex:=kkv (ops:=l.toArray) l.toArray.size 0 (Array.replicate l.toArray.size false) qqs qqs (fun i hi=>by simp at hi;simp[hi]) (by simpa using H2.2)
 have hlx:∀(i:Nat) (oi:Oper),l[i]? =some oi->(∀e∈oi.after,Region.binds .any e=true->e.on<i)/\(∀j oj,i<j->l[j]? =some oj->oi.apart l.toArray oj=true∨∃e∈oj.after,Region.binds .any e=true/\e.on=i):=by
  intro i oi hoi;have hi:i<l.length:=(qf.1 hoi).1;obtain⟨h1,h2⟩:=hlex i (qbg _) (by simpa using hi) oi (by simpa using hoi);exact⟨h1,fun j oj hij hoj=>h2 j oj hij (by simpa using hoj)⟩
 
 have atEnd:∀(listed:Array Bool) (a:Act) (G:Gh) (w:World),(∀k,k<l.length->listed.getD k false=true)->R T G0 w0 N (stE (fun k=>listed.getD k false) es 0 s0) a G w->Q .normal a w:=by
  intro listed a G w hall hR;refine hQ a G w (hR.same (fun t=> ?_) (fun i=> ?_) (by rw[stE_nx,stE_nx]))
  ·rw[stE_get,stE_get];exact k3v es 0 _ (fun j e he _=>by have:j<es.length:=(qf.1 he).1;rw[qaj,hall j qqo])
  ·rw[k1m,k1m];exact k3t es 0 _ (fun j e he _=>by have:j<es.length:=(qf.1 he).1;rw[qaj,hall j qqo])
 
 have someReady:∀(listed:Array Bool),listed.size=l.length->Region.ready .any l.toArray listed=[]->∀k,k<l.length->listed.getD k false=true:=by
  intro listed hsz hre k;induction k using Nat.strongRecOn with
  |_ k ih=>
   intro hk;cases hkl:listed.getD k false with
   |true=>rfl
   |false=>
    exfalso
    have hm:k∈Region.ready .any l.toArray listed:=by
     refine mem_ready.2 ⟨?_,l[k],by simp[hk],fun e he hb=> ?_⟩
     ·have:k<listed.size:=by omega
      simp[this]at hkl ⊢;exact hkl
     ·have:=(hlx k l[k] (qd hk)).1 e he hb;exact ih e.on this qqo
    rw[hre]at hm;cases hm
 intro fuel;induction fuel with
 |zero=>
  intro listed a G w hsz _ hR _ hc
  have hall:∀k,k<l.length->listed.getD k false=true:=by
   intro k hk;cases hkl:listed.getD k false with
   |true=>rfl
   |false=>
    have hm:k∈(List.range l.length).filter (fun i=> !listed.getD i false):=by simp only[List.mem_filter,List.mem_range,hkl];exact⟨hk,rfl⟩
    have:(List.range l.length).filter (fun i=> !listed.getD i false)=[]:=qac qqo;rw[this]at hm;cases hm
  refine⟨?_,atEnd listed a G w hall hR⟩;apply List.eq_nil_iff_forall_not_mem.2;intro i hi;obtain⟨h1,o,ho,_⟩:=mem_ready.1 hi;have hil:i<l.length:=by have:=(qdx.1 ho).1;simpa using this
  have h2:=hall i hil;have:i<listed.size:=by omega
  simp[this]at h1 h2;rw[h1]at h2;cases h2
 |succ fuel ih=>
  intro listed a G w hsz hcl hR hfree hc;refine⟨fun hre=>atEnd listed a G w (someReady listed hsz hre) hR,fun i hi=> ?_⟩;obtain⟨hun,o,ho,hall⟩:=mem_ready.1 hi;have ho' :l[i]? =some o:=by simpa using ho
  have hil:i<l.length:=(qf.1 ho').1;have hisz:i<listed.size:=by omega
  have hun' :listed.getD i false=false:=by simp[hisz]at hun ⊢;exact hun
  have hei:es[i]? =some es[i]:=qd qqo;generalize es[i]=e at hei
  
  have before:∀(j:Nat) (oj:Oper),j≠i->l[j]? =some oj->(oj.apart l.toArray o=true->False)->(o.apart l.toArray oj=true->False)->listed.getD j false=decide (j<i):=by
   intro j oj hji hoj hn1 hn2;rcases qaz j i with h|h
   ·rcases(hlx j oj hoj).2 i o h ho' with h3|⟨ed,he1,he2,he3⟩
    ·exact(hn1 h3).elim
    ·rw[<-he3,hall ed he1 he2];simp;omega
   ·have h:i<j:=by omega
    rcases(hlx i o ho').2 j oj h hoj with h3|⟨ed,he1,he2,he3⟩
    ·exact(hn2 h3).elim
    ·cases hj:listed.getD j false with
     |false=>simp;omega
     |true=>have:=hcl j oj hoj hj ed he1 he2;rw[he3,hun']at this;cases this
  have hed:e.d=o.dst:=(H1 i o e ho' hei).2.1;have hedj:∀(j:Nat) (ej:Eff) (oj:Oper),es[j]? =some ej->l[j]? =some oj->ej.d=oj.dst:=fun j ej oj h1 h2=>(H1 j oj ej h2 h1).2.1
  have slot:∀t,t∈o.looksAt l.toArray->getS (stE (fun k=>listed.getD k false) es 0 s0).sl t=getS (stE (fun k=>decide (k<i)) es 0 s0).sl t:=by
   intro t ht;rw[stE_get,stE_get];refine k3v es 0 _ (fun j ej hej hd=> ?_);rw[qaj];have hjl:j<l.length:=by have:=(qf.1 hej).1;omega
   have hoj:l[j]? =some l[j]:=qd hjl;have hdj:l[j].dst=some t:=by rw[<-hedj j ej _ hej hoj];exact hd
   by_cases hji:j=i
   ·subst hji;rw[hun'];simp
   ·exact before j _ hji hoj (fun h=>(Oper.apart_spec h).1 t hdj ht) (fun h=>(Oper.apart_spec h).2.2 t hdj ht)
  have hev:∀x∈o.op.operands,(stE (fun k=>decide (k<i)) es 0 s0).ev x=(stE (fun k=>listed.getD k false) es 0 s0).ev x:=by
   intro x hx;cases x with
   |tmp t=>refine(slot t ?_).symm;unfold Oper.looksAt;refine List.mem_append_left _ (List.mem_filterMap.2 ⟨.tmp t,by simpa using hx,rfl⟩)
   |_=>rfl
  have heap:∀id,((Hp.get e.hu id).isSome=true∨id∈e.rd)->(stE (fun k=>decide (k<i)) es 0 s0).h.get id=(stE (fun k=>listed.getD k false) es 0 s0).h.get id:=by
   intro id hid;rw[k1m,k1m];refine k3t es 0 _ (fun j ej hej hd=> ?_);rw[qaj];have hjl:j<l.length:=by have:=(qf.1 hej).1;omega
   have hoj:l[j]? =some l[j]:=qd hjl;by_cases hji:j=i
   ·subst hji;rw[hun'];simp
   ·rcases qaz j i with h|h
    ·rw[(H3 j i ej e o id h hej hei ho' (.inl ⟨hd,hid⟩)).ready (p:=fun k=>listed.getD k false=true) hcl ho' hall];simp;omega
    ·have hanc:=H3 i j e ej _ id qqo hei hej hoj (by
      rcases hid with hid|hid
      ·exact .inl ⟨hid,.inl hd⟩
      ·exact .inr ⟨hid,hd⟩)
     cases hj:listed.getD j false with
     |false=>simp;omega
     |true=>have:=hanc.closed (p:=fun k=>listed.getD k false=true) hcl hj;rw[hun']at this;cases this
  have hstep:=H1 i o e ho' hei;obtain⟨hd,_,hgd⟩:=hstep
  
  have next:∀(a' :Act) (G' :Gh) (w' :World),R T G0 w0 N (e.app (stE (fun k=>listed.getD k false) es 0 s0)) a' G' w'->(∀n,n<s0.nx->(n<frs nb S i∨frs nb S i+S<=n)->(Hp.get e.hu n).isSome=false->G'.loc n=G.loc n/\G'.tloc n=G.tloc n)->
    wpAny P .any l.toArray Q fuel (listed.setIfInBounds i true) a' w' :=by
   intro a' G' w' hR' hG'
   have hE:∀k,(listed.setIfInBounds i true).getD k false=if k=0+i then true else listed.getD k false:=by
    intro k;rw[qaj];by_cases hk:k=i
    ·subst hk;simp[hisz]
    ·rw[getD_set_ne false (Ne.symm hk),qe hk]
   refine ih _ a' G' w' (by simpa using hsz) ?_ ?_ ?_ ?_
   ·intro j oj hoj hj ed he hb;rw[hE]at hj ⊢;split
    ·rfl
    ·by_cases hji:j=i
     ·subst hji;rw[ho']at hoj;injection hoj with hoj;subst hoj;exact hall ed he hb
     ·rw[qe qqo]at hj;exact hcl j oj hoj hj ed he hb
   ·refine hR'.same (fun t=> ?_) (fun n=> ?_) (by rw[stE_nx,app_nx,stE_nx])
    ·have e1:(fun k=>(listed.setIfInBounds i true).getD k false)=fun k=>if k=0+i then true else listed.getD k false:=funext hE;rw[e1,stE_get,kgs es 0 _ e hei (by rw[qaj];exact hun') (fun j ej hij hej hEj hdt hdj=> ?_),app_get,stE_get];rw[qaj]at hEj;have hjl:j<l.length:=by have:=(qf.1 hej).1;omega
     have hoj:l[j]? =some l[j]:=qd hjl;rcases(hlx i o ho').2 j _ hij hoj with h3|⟨ed,he1,he2,he3⟩
     ·exact(Oper.apart_spec h3).2.1 t (by rw[<-hed];exact hdt) (by rw[<-hedj j ej _ hej hoj];exact hdj)
     ·have:=hcl j _ hoj hEj ed he1 he2;rw[he3,hun']at this;cases this
    ·have e1:(fun k=>(listed.setIfInBounds i true).getD k false)=fun k=>if k=0+i then true else listed.getD k false:=funext hE;rw[e1,k1m,kgw es 0 _ e hei (by rw[qaj];exact hun') (fun j ej hij hej hEj hdt hdj=> ?_),kks,k1m];rw[qaj]at hEj;have hjl:j<l.length:=by have:=(qf.1 hej).1;omega
     have hoj:l[j]? =some l[j]:=qd hjl;have:=(H3 i j e ej _ n hij hei hej hoj (.inl ⟨hdt,.inl hdj⟩)).closed (p:=fun k=>listed.getD k false=true) hcl hEj;rw[hun']at this;cases this
   ·intro k hk hkl;rw[hE]at hkl;split at hkl
    ·cases hkl
    ·rename_i hki;intro id hid1 hid2;obtain⟨q1,q2⟩:=hfree k hk hkl id hid1 hid2;have hki:k≠i:=by omega
     have hfar:id<frs nb S i∨frs nb S i+S<=id:=by
      rcases qaz k i with h|h
      ·have:=k3k nb S (show k+1<=i by omega);rw[k55]at this;omega
      ·have:=k3k nb S (show i+1<=k by omega);rw[k55]at this;omega
     have hnx:id<s0.nx:=by have:=k3k nb S (show k+1<=l.length by omega);rw[k55]at this;omega
     have hnw:(Hp.get e.hu id).isSome=false:=by
      cases hw:(Hp.get e.hu id).isSome with
      |false=>rfl
      |true=>exfalso;obtain⟨g1,g2⟩:=maker i k e es[k] id hei (qd qqo) hw hid1 hid2;have:=(H3 k i _ e o id qqo (qd qqo) hei ho' (.inl ⟨g2,.inl hw⟩)).ready (p:=fun k=>listed.getD k false=true) hcl ho' hall;rw[hkl]at this;cases this
     obtain⟨q3,q4⟩:=hG' id hnx hfar hnw;exact⟨q3.trans q1,q4.trans q2⟩
   ·have:=cnt_lt (fun n=> !listed.getD n false) (fun n=> !(listed.setIfInBounds i true).getD n false) (fun n hn=>by
     simp only[qbe]at hn ⊢;rw[hE]at hn;split at hn
     ·cases hn
     ·exact hn) i (by simp only[hun'];rfl) (by simp only[hE];rw[qh qqo];rfl) (List.range l.length) (by simpa using hil)
    omega
  have hnoit:noIt (stE (fun k=>listed.getD k false) es 0 s0).h:=by
   intro id ob hob;rw[k1m]at hob;rcases kh9 es 0 _ hob with h|⟨e',he',h⟩
   ·exact H0 id ob h
   ·obtain⟨q,hq⟩:=qcf he';have hql:q<l.length:=by have:=(qf.1 hq).1;omega
    exact km4 (H1 q _ e' (qd hql) hq) id ob h
  have run:opD P nb S i o.op e (stE (fun k=>decide (k<i)) es 0 s0)->o.wp P a w (wpAny P .any l.toArray Q fuel (listed.setIfInBounds i true)) Q:=by
   intro hop;have hop' :opD P nb S i o.op e (stE (fun k=>listed.getD k false) es 0 s0):=kn9 hev (fun id h _=>heap id h) (fun id h _ _=>heap id (.inl h)) (fun id h _=>heap id (.inr h)) hop;refine kmr hR hd hed hnoit hop' (by rw[stE_nx,hnb,<-k55];exact k3k nb S qqo) (fun j hj=> ?_) (fun a' G' w' hR' hG' =>next a' G' w' hR' (fun n hn1 hn2 hn3=>hG' n (by rw[stE_nx];exact hn1) hn2 hn3));obtain⟨q1,q2⟩:=hfree i hil hun' (frs nb S i+j) qqo qqo;refine⟨q1,q2,?_⟩;cases hg:(stE (fun k=>listed.getD k false) es 0 s0).h.get (frs nb S i+j)with
   |none=>rfl
   |some ob=>
    exfalso;have hne:(stE (fun k=>listed.getD k false) es 0 s0).h.get (frs nb S i+j)≠none:=by rw[hg];simp
    rw[k1m,hold _ (by unfold frs;omega)]at hne;obtain⟨j',e',g1,g2,g3⟩:=ke3 es 0 hne;rw[qaj]at g2;obtain⟨m1,m2⟩:=maker j' i e' e _ g1 hei g3 qqo qqo;have hjl:j' <l.length:=by have:=(qf.1 g1).1;omega
    have hji:i≠j' :=by rintro rfl;rw[hun']at g2;cases g2
    have:=(H3 i j' e e' _ _ qqo hei g1 (qd hjl) (.inl ⟨m2,.inl g3⟩)).closed (p:=fun k=>listed.getD k false=true) hcl g2;rw[hun']at this;cases this
  unfold wpOp;rw[ho];simp only;cases hgo:o.guard with
  |none=>rw[hgo]at hgd;rw[qh (by simp[Region.wanted,hgo])];exact .inl (run hgd)
  |some g=>
   obtain⟨j,b⟩:=g;rw[hgo]at hgd
   have hgs:guardV (stE (fun k=>listed.getD k false) es 0 s0) (l.map (·.dst)) j=guardV (stE (fun k=>decide (k<i)) es 0 s0) (l.map (·.dst)) j:=by
    unfold guardV;cases hj:(l.map (·.dst))[j]? with
    |none=>rfl
    |some od=>cases od with
     |none=>rfl
     |some u=>refine slot u ?_;unfold Oper.looksAt;refine qfk _ ?_;rw[hgo];rw[ql,qv]at hj;obtain⟨oj,hoj,hdj⟩:=hj;simp[hoj,hdj]
   have skip:e.x= .k undef->e.hu=[]->wpAny P .any l.toArray Q fuel (listed.setIfInBounds i true) (a.put o.dst undef) w:=by
    intro h4 h5;refine next _ G w ?_ (fun _ _ _ _=>⟨rfl,rfl⟩)
    have:e.app (stE (fun k=>listed.getD k false) es 0 s0)=(stE (fun k=>listed.getD k false) es 0 s0).put o.dst (.k undef):=by unfold Eff.app;rw[h4,h5,hed];rfl
    rw[this];exact hR.put (.k _) o.dst (fun u hu=>by rw[hu]at hd;exact hd)
   rcases hgd with⟨h1,h2,h3⟩|hgd
   ·have hy:=ket hR (hgs.trans h1);rw[qe (by simp[Region.wanted,hgo,hy])];exact skip h2 h3
   obtain⟨t,h1,h2,h3⟩:=hgd;have hy:=k6d hR (hgs.trans h1);by_cases htb:t=b
   ·rw[qh (by simp[Region.wanted,hgo,hy,htb])];exact .inl (run (h2 htb))
   ·rw[qe (by simp[Region.wanted,hgo,hy,htb])];obtain⟨h4,h5⟩:=h3 htb;exact skip h4 h5
end
end Go.Bv
namespace Go.Bv
open Go.RowKit
section
variable (P:Program) (N:Nat) (tb:List (Option Nat)) (d:Option Nat) (ty:TypeId) (p:String) (af:Array Edge) (r:List Oper) (K:St->Prop) (s:St)
def Callable (P:Program) (g:FuncId):Prop:=(P.funcs[g]?.bind (·.body)).isSome=true/\P.funcs[g]?.map (·.name)≠some "runtime.NumGoroutine"
end
end Go.Bv
namespace Go.Bv
open Go.RowKit
def wsL (ws:List (Nat×Nat)) (af:Array Edge) (id:Nat):Prop:=∀p∈ws,p.1=id->edgeB af p.2=true
def wrOk (nb S k:Nat) (ws rs:List (Nat×Nat)) (af:Array Edge) (h:Hp) (ids:List Nat):Prop:=∀id∈ids,wsL ws af id/\wsL rs af id/\id<frs nb S (k+1)/\(frs nb S k<=id∨(h.get id).isSome=true)
def rdOk (ws:List (Nat×Nat)) (af:Array Edge) (ids:List Nat):Prop:=∀id∈ids,wsL ws af id
def keys (h:Hp):List Nat:=h.map (·.1)
theorem k4x (h:Hp) (id:Nat):(h.get id).isSome=true↔id∈keys h:=by
 unfold keys;induction h with
 |nil=>simp[Hp.get]
 |cons p r ih=>
  obtain⟨i,o⟩:=p;simp only[Hp.get,qae,qam];split
  ·rename_i h;simp[h]
  ·rename_i h;rw[ih];simp[h]
def DOps (P:Program) (N:Nat) (tb:List (Option Nat)) (nb S:Nat):List (Nat×Nat)->List (Nat×Nat)->Nat->List Oper->(St->Prop)->St->Prop
 |_,_,_,[],K,s=>K s
 |ws,rs,k,o::r,K,s=>∃e,stepD P N tb nb S k o e s/\(wrOk nb S k ws rs o.after s.h (keys e.hu)/\rdOk ws o.after e.rd)/\DOps P N tb nb S ((keys e.hu).map (·,k)++ws) (e.rd.map (·,k)++rs) (k+1) r K (e.app s)
theorem k7k {af:Array Edge} {k:Nat} (h:edgeB af k=true):∃e∈af,Region.binds .any e=true/\e.on=k:=by unfold edgeB at h;obtain⟨e,he,h1⟩:=Array.any_eq_true'.1 h;simp only[qg,beq_iff_eq]at h1;exact⟨e,he,h1.1,h1.2⟩
def ancM (aq:List Nat) (af:Array Edge):Nat:=af.toList.foldl (fun m e=>bif Region.binds .any e then Nat.lor m (Nat.lor (2^e.on) (aq.getD e.on 0))else m) 0
def mEdges (m:Nat):Nat->List Edge
 |0=>[]
 |k+1=>bif Nat.testBit m k then⟨k,.data⟩::mEdges m k else mEdges m k
def closeGo:List Nat->Nat->List Oper->List Oper
 |_,_,[]=>[]
 |aq,k,o::r=>{o with after:=(mEdges (ancM aq o.after) k).toArray}::closeGo (aq++[ancM aq o.after]) (k+1) r
def closeOps (l:List Oper):List Oper:=closeGo [] 0 l
theorem k6c:∀(l:List Oper) (aq:List Nat) (k i:Nat),∃f:Oper->Array Edge,(closeGo aq k l)[i]? =(l[i]?).map fun o=>{o with after:=f o}
 |[],_,_,_=>⟨fun o=>o.after,by simp[closeGo]⟩
 |o::l,aq,k,0=>⟨fun o=>(mEdges (ancM aq o.after) k).toArray,by simp[closeGo]⟩
 |o::l,aq,k,i+1=>by obtain⟨f,hf⟩:=k6c l (aq++[ancM aq o.after]) (k+1) i;exact⟨f,by simp only[closeGo,qao];exact hf⟩
theorem k6y:∀(l:List Oper) (aq:List Nat) (k:Nat),(closeGo aq k l).length=l.length
 |[],_,_=>rfl
 |o::l,aq,k=>by simp[closeGo,k6y l]
theorem k7i {m:Nat}:∀{k:Nat} {e:Edge},e∈mEdges m k->Nat.testBit m e.on=true
 |0,_,h=>by cases h
 |k+1,e,h=>by
  simp only[mEdges]at h;cases hb:Nat.testBit m k with
  |false=>rw[hb]at h;exact k7i h
  |true=>
   rw[hb]at h;rcases qam.1 h with rfl|h
   ·exact hb
   ·exact k7i h
theorem kn2 {aq:List Nat} {af:Array Edge} {i:Nat} (h:Nat.testBit (ancM aq af) i=true):∃e∈af,Region.binds .any e=true/\(e.on=i∨Nat.testBit (aq.getD e.on 0) i=true):=by
 have key:∀(l:List Edge) (m:Nat),Nat.testBit (l.foldl (fun m e=>bif Region.binds .any e then Nat.lor m (Nat.lor (2^e.on) (aq.getD e.on 0))else m) m) i=true->Nat.testBit m i=true∨∃e∈l,Region.binds .any e=true/\(e.on=i∨Nat.testBit (aq.getD e.on 0) i=true):=by
  intro l;induction l with
  |nil=>intro m h;exact .inl h
  |cons e l ih=>
   intro m h;rw[qfn]at h;rcases ih _ h with h1|⟨e',q1,q2⟩
   ·cases hb:Region.binds .any e with
    |false=>rw[hb]at h1;exact .inl h1
    |true=>
     rw[hb]at h1;have h1:Nat.testBit (m|||(2^e.on|||aq.getD e.on 0)) i=true:=h1;rw[Nat.testBit_or,Nat.testBit_or,Nat.testBit_two_pow]at h1;simp only[qcv,qaf]at h1;rcases h1 with h1|h1|h1
     ·exact .inl h1
     ·exact .inr ⟨e,by simp,hb,.inl h1⟩
     ·exact .inr ⟨e,by simp,hb,.inr h1⟩
   ·exact .inr ⟨e',by simp[q1],q2⟩
 rcases key af.toList 0 h with h0|⟨e,h1,h2⟩
 ·simp at h0
 ·exact⟨e,by simpa using h1,h2⟩
theorem kbd (L:List Oper):∀(l:List Oper) (aq:List Nat) (k:Nat),aq.length=k->(∀i,l[i]? =L[k+i]?)->(∀t i,Nat.testBit (aq.getD t 0) i=true->Anc L t i)->
  ∀(j:Nat) (o:Oper) (e:Edge),(closeGo aq k l)[j]? =some o->e∈o.after->Anc L (k+j) e.on
 |[],_,_,_,_,_,j,o,e,h,_=>by simp[closeGo]at h
 |a::l,aq,k,hk,hl,ha,j,o,e,h,he=>by
  have hLk:L[k]? =some a:=by have:=hl 0;simpa using this.symm
  have hm:∀i,Nat.testBit (ancM aq a.after) i=true->Anc L k i:=by
   intro i hi;obtain⟨e,h1,h2,h3⟩:=kn2 hi;rcases h3 with h3|h3
   ·rw[<-h3];exact .edge hLk h1 h2
   ·exact .trans hLk h1 h2 (ha _ _ h3)
  cases j with
  |zero=>simp only[closeGo,qdn,qah]at h;subst h;exact hm _ (k7i (by simpa using he))
  |succ j=>
   simp only[closeGo,qao]at h;rw[show k+(j+1)=k+1+j by omega];refine kbd L l _ (k+1) (by simp[hk]) (fun i=>by have:=hl (i+1);rw[show k+1+i=k+(i+1)by omega];simpa using this) (fun t i hi=> ?_) j o e h he;by_cases ht:t<k
   ·rw[qcd,qap qqo,<-qcd]at hi;exact ha t i hi
   ·by_cases htk:t=k
    ·rw[qcd,htk,qaw qqo,hk]at hi;rw[htk];exact hm i (by simpa using hi)
    ·rw[qcd,qaw qqo,hk,qdd qqm]at hi;simp at hi
theorem dops_es {P:Program} {N:Nat} {tb:List (Option Nat)} {nb S:Nat}:∀(l:List Oper) (ws rs:List (Nat×Nat)) (k:Nat) (K:St->Prop) (s:St),DOps P N tb nb S ws rs k l K s->
  ∃es:List Eff,es.length=l.length/\K (es.foldl (fun s e=>e.app s) s)/\
   (∀(i:Nat) (o:Oper) (e:Eff),l[i]? =some o->es[i]? =some e->stepD P N tb nb S (k+i) o e ((es.take i).foldl (fun s e=>e.app s) s))/\
   (∀(i j:Nat) (ei ej:Eff) (oj:Oper) (id:Nat),i<j->es[i]? =some ei->es[j]? =some ej->l[j]? =some oj->(((Hp.get ei.hu id).isSome=true/\((Hp.get ej.hu id).isSome=true∨id∈ej.rd))∨(id∈ei.rd/\(Hp.get ej.hu id).isSome=true))->∃e∈oj.after,Region.binds .any e=true/\e.on=k+i)/\
   (∀(j:Nat) (ej:Eff) (oj:Oper) (id:Nat),es[j]? =some ej->l[j]? =some oj->((Hp.get ej.hu id).isSome=true∨id∈ej.rd)->∀p∈ws,p.1=id->∃e∈oj.after,Region.binds .any e=true/\e.on=p.2)/\
   (∀(j:Nat) (ej:Eff) (oj:Oper) (id:Nat),es[j]? =some ej->l[j]? =some oj->(Hp.get ej.hu id).isSome=true->∀p∈rs,p.1=id->∃e∈oj.after,Region.binds .any e=true/\e.on=p.2)/\
   (∀(j:Nat) (e:Eff) (id:Nat),es[j]? =some e->(Hp.get e.hu id).isSome=true->id<frs nb S (k+j+1))/\
   (∀(j:Nat) (e:Eff) (id:Nat),es[j]? =some e->(Hp.get e.hu id).isSome=true->frs nb S (k+j)<=id∨((es.take j).foldl (fun s e=>e.app s) s).h.get id≠none)
 |[],ws,rs,k,K,s,h=>⟨[],rfl,h,by simp,by simp,by simp,by simp,by simp,by simp⟩
 |o::l,ws,rs,k,K,s,h=>by
  obtain⟨e,h1,⟨h2,h2r⟩,h3⟩:=h;obtain⟨es,g1,g2,g3,g4,g5,g6,g7,g8⟩:=dops_es l _ _ (k+1) K _ h3;refine⟨e::es,by simp[g1],g2,?_,?_,?_,?_,?_,?_⟩
  ·intro i o' e' ho he;cases i with
   |zero=>simp at ho he;subst ho;subst he;simpa using h1
   |succ i=>simp at ho he;have:=g3 i o' e' ho he;rw[show k+(i+1)=k+1+i by omega];simpa using this
  ·intro i j ei ej oj id hij hi hj hoj hc;cases j with
   |zero=>omega
   |succ j=>
    simp at hj hoj;cases i with
    |zero=>
     simp at hi;subst hi;rcases hc with⟨c1,c2⟩|⟨c1,c2⟩
     ·have:=g5 j ej oj id hj hoj c2 (id,k) (List.mem_append_left _ (qag.2 ⟨id,(k4x _ _).1 c1,rfl⟩)) rfl;simpa using this
     ·have:=g6 j ej oj id hj hoj c2 (id,k) (List.mem_append_left _ (qag.2 ⟨id,c1,rfl⟩)) rfl;simpa using this
    |succ i=>simp at hi;have:=g4 i j ei ej oj id qqo hi hj hoj hc;rw[show k+(i+1)=k+1+i by omega];exact this
  ·intro j ej oj id hj hoj hc p hp hpi;cases j with
   |zero=>
    simp at hj hoj;subst hj;subst hoj;rcases hc with hc|hc
    ·exact k7k ((h2 id ((k4x _ _).1 hc)).1 p hp hpi)
    ·exact k7k (h2r id hc p hp hpi)
   |succ j=>simp at hj hoj;exact g5 j ej oj id hj hoj hc p (qfk _ hp) hpi
  ·intro j ej oj id hj hoj hc p hp hpi;cases j with
   |zero=>simp at hj hoj;subst hj;subst hoj;exact k7k ((h2 id ((k4x _ _).1 hc)).2.1 p hp hpi)
   |succ j=>simp at hj hoj;exact g6 j ej oj id hj hoj hc p (qfk _ hp) hpi
  ·intro j e' id hj hc;cases j with
   |zero=>simp at hj;subst hj;exact(h2 id ((k4x _ _).1 hc)).2.2.1
   |succ j=>simp at hj;have:=g7 j e' id hj hc;rw[show k+(j+1)+1=k+1+j+1 by omega];exact this
  ·intro j e' id hj hc;cases j with
   |zero=>
    simp at hj;subst hj;rcases(h2 id ((k4x _ _).1 hc)).2.2.2 with h|h
    ·exact .inl h
    ·exact .inr (by simpa using Option.isSome_iff_ne_none.1 h)
   |succ j=>simp at hj;have:=g8 j e' id hj hc;rw[show k+(j+1)=k+1+j by omega];simpa using this
section
variable {P:Program} {T:Tk} {G0:Gh} {w0:World} {N:Nat} {s:St} {Q:Exit->St->Prop}
theorem stE_all (es:List Eff):∀(k:Nat) (s:St),stE (fun _=>true) es k s=es.foldl (fun s e=>e.app s) s:=by
 induction es with
 |nil=>intro _ _;rfl
 |cons e es ih=>intro k s;rw[stE,ih];rfl
theorem ko3 (E:Nat->Bool) (es:List Eff):∀(k:Nat) (s:St),(∀n,k<=n->n<k+es.length->E n=false)->stE E es k s=s:=by
 induction es with
 |nil=>intro _ _ _;rfl
 |cons e es ih=>intro k s h;rw[stE,ih (k+1) _ (fun n h1 h2=>h n qqo qqm),h k (qt _) qqs];rfl
theorem kgc (S:Nat) {id:Nat} {l:List Oper} (hm:P.follows .mixedOrders=true) (hni:noIt s.h) (hB:Region.lexB .any l.toArray=true)
  (h:∀K:St->Prop,(∀s',Q .normal s'->K s')->DOps P N (l.map (·.dst)) s.nx S [] [] 0 (closeOps l) K ⟨s.sl,s.h,s.nx+l.length*S⟩):Sat P T G0 w0 N (.region id l.toArray true) s Q:=by
 intro G a w hR;obtain⟨es,g1,g2,g3',g4',_,_,g7,g8⟩:=dops_es (closeOps l) [] [] 0 (Q .normal) _ (h _ fun _ h=>h);rw[show(closeOps l).length=l.length from k6y l [] 0]at g1;have g3:∀(i:Nat) (o:Oper) (e:Eff),l[i]? =some o->es[i]? =some e->stepD P N (l.map (·.dst)) s.nx S (0+i) o e ((es.take i).foldl (fun s e=>e.app s) ⟨s.sl,s.h,s.nx+l.length*S⟩):=by intro i o e ho he;obtain⟨f,hf⟩:=k6c l [] 0 i;exact g3' i {o with after:=f o} e (by unfold closeOps;rw[hf,ho];rfl) he
 have g4:∀(i j:Nat) (ei ej:Eff) (oj:Oper) (id:Nat),i<j->es[i]? =some ei->es[j]? =some ej->l[j]? =some oj->(((Hp.get ei.hu id).isSome=true/\((Hp.get ej.hu id).isSome=true∨id∈ej.rd))∨(id∈ei.rd/\(Hp.get ej.hu id).isSome=true))->Anc l j i:=by
  intro i j ei ej oj id hij hi hj hoj hc;obtain⟨f,hf⟩:=k6c l [] 0 j;have hcj:(closeGo [] 0 l)[j]? =some {oj with after:=f oj}:=by rw[hf,hoj];rfl
  obtain⟨e,q1,_,q3⟩:=g4' i j ei ej _ id hij hi hj hcj hc;have:=kbd l l [] 0 rfl (fun i=>by simp) (fun t i ht=>by simp at ht) j _ e hcj q1;rw[qaj,q3,qaj]at this;exact this
 have hRd:R T G0 w0 N s a G {w with drawn:=w.drawn+1}:=hR.drew;obtain⟨G',hR',hG'⟩:=hRd.raise (l.length*S);refine wp_region_any hm ?_;have hrep:∀n,(Array.replicate l.length false).getD n false=false:=fun n=>by rw[qep,Array.getElem?_replicate];split<;>rfl
 have hpre:∀i,stE (fun k=>decide (k<i)) es 0 ⟨s.sl,s.h,s.nx+l.length*S⟩=(es.take i).foldl (fun s e=>e.app s) ⟨s.sl,s.h,s.nx+l.length*S⟩:=fun i=>by have hp:=kmj es i 0 ⟨s.sl,s.h,s.nx+l.length*S⟩;simpa only[qaj]using hp
 have hmain:=drawn (P:=P) (T:=T) (G0:=G0) (w0:=w0) (N:=N) (l:=l) (es:=es) (s0:=⟨s.sl,s.h,s.nx+l.length*S⟩) (nb:=s.nx) (S:=S) (Q:=fun e a' w' =>∃s' G',Q e s'/\R T G0 w0 N s' a' G' w') g1 rfl
  (fun k hk=>by
   cases hg:s.h.get k with
   |none=>rfl
   |some ob=>have:=hR.wr.hid _ _ hg;omega) hni
  (fun i o e ho he=>by
   have:=g3 i o e ho he;simp only[qaj]at this;rw[hpre];exact this) hB
  (fun i j ei ej oj id hij hi hj hoj h1=>g4 i j ei ej oj id hij hi hj hoj h1)
  (fun j e id hj h1=>by simpa using g7 j e id hj h1)
  (fun j e id hj h1=>by rw[hpre];simpa using g8 j e id hj h1)
  (fun a' G'' w' hRR=>⟨_,G'',g2,by rw[<-stE_all es 0];exact hRR⟩)
  l.length (Array.replicate l.length false) a G' {w with drawn:=w.drawn+1} qqs
  (fun j oj _ hj=>by rw[hrep]at hj;cases hj)
  (by
   rw[ko3 _ es 0 _ (fun n _ _=>hrep n)];exact hR')
  (fun k _ _ id hid _=>hG' _ (by unfold frs at hid;omega))
  (by
   have:=List.length_filter_le (fun i=> !(Array.replicate l.length false).getD i false) (List.range l.length);simpa using this)
 simpa using hmain
end
section
variable (P:Program) (N:Nat) (tb:List (Option Nat)) (nb S:Nat) (ws rs:List (Nat×Nat)) (k:Nat) (d:Option Nat) (ty:TypeId) (p:String) (af:Array Edge) (r:List Oper) (K:St->Prop) (s:St)
end
section
variable {P:Program} {N:Nat} {tb:List (Option Nat)} {nb S:Nat} {ws rs:List (Nat×Nat)} {k:Nat} {d:Option Nat} {ty:TypeId} {p:String} {af:Array Edge} {r:List Oper} {K:St->Prop} {s:St}
end
end Go.Bv
namespace Go.Bv
open Go.RowKit
def storeO (x:V) (n off:Nat):Option Ob->Prop
 |some (.cells l)=>x.flat n/\off+n<=l.length
 |_=>False
theorem kn5 (a:Bool) (n:Nat) (h:Hp) (x:V) (id off:Nat):storeOk (some (a,n)) h x (.ptr id off)=storeO x n off (h.get id):=by
 cases hh:h.get id with
 |none=>simp[storeOk,storeO,hh]
 |some o=>cases o<;>simp[storeOk,storeO,hh]
def storeHO (h:Hp) (x:V) (id off:Nat):Option Ob->Hp
 |some (.cells l)=>(id,.cells (setAt l off x.cells))::h
 |_=>h
theorem kpu (h:Hp) (x:V) (id off:Nat):storeH h x (.ptr id off)=storeHO h x id off (h.get id):=by
 cases hh:h.get id with
 |none=>simp[storeH,storeHO,hh]
 |some o=>cases o<;>simp[storeH,storeHO,hh]
theorem r_toDs1 (x:V) (l:List V):toDs (x::l)=(x.toD).bind fun d=>(toDs l).bind fun ds=>some (d::ds):=by simp only[toDs,qel];rfl
theorem k4u (l:List V) (h:∀x∈l,x.one=true):leL l l:=by
 induction l with
 |nil=>trivial
 |cons x l ih=>exact⟨⟨ka x,h x qqs⟩,ih (fun y hy=>h y (by simp[hy]))⟩
theorem le_any (x:V):le x .any=True:=by cases x<;>simp[le,le0,le1]
end Go.Bv
namespace Go.Bv
open Go.RowKit
section
variable {P:Program} {T:Tk} {G0 G:Gh} {w0 w:World} {N:Nat} {s:St} {a:Act}
theorem R.reslot (hR:R T G0 w0 N s a G w) (t:Nat) {y:V} (hv:RepV G w s.h s.nx (a.tmps.getD t undef) y):R T G0 w0 N ⟨(t,y)::s.sl,s.h,s.nx⟩ a G w:=
 ⟨hR.fr,hR.wr,hR.df,hR.sz,fun u=>by
  simp only[getS];split
  ·rename_i h;subst h;exact hv
  ·exact hR.sl u,hR.ex⟩
theorem R.recell (hR:R T G0 w0 N s a G w) {id j:Nat} {l:List V} {x y:V} (hg:s.h.get id=some (.cells l)) (hx:l[j]? =some x) (hy:y.one=true) (hv:∀v,RepV G w s.h s.nx v x->RepV G w s.h s.nx v y):
  R T G0 w0 N ⟨s.sl,(id,.cells (l.set j y))::s.h,s.nx⟩ a G w:=by
 have hw:=hR.wr
 have he:Ext G w s.h s.nx G w ((id,.cells (l.set j y))::s.h) s.nx:=by
  refine⟨Mono.refl _ _,qt _,fun _ _ _ h=>h,fun tok t' _ h1=> ?_,fun _ _ h=>h⟩;simp only[Hp.get]at h1;split at h1
  ·cases h1
  ·exact⟨t',h1,qt _,fun _ _ hb=>⟨hb,rfl,rfl⟩⟩
 refine⟨hR.fr,⟨?_,hw.mob.ext he (fun i es hgo=> ?_) hw.hid (fun _ _ _ _ _=>rfl),hw.here,fun i k b hi hk h1 h2 l1 l2=>hw.inj i k b hi hk h1 h2 (k1c (kh hg) l1) (k1c (kh hg) l2),?_,hw.lim⟩,hR.df,hR.sz,fun t=>(hR.sl t).ext he,hR.ex.ext he⟩
 ·intro i l' hl';simp only[Hp.get]at hl';split at hl'
  ·rename_i hi;subst hi;injection hl' with hl';injection hl' with hl';subst hl';rcases hw.obj i l hg with⟨z1,z2⟩|⟨b,e,cs,h1,h2,h3,h4,h5,h6⟩
   ·exact .inl ⟨by rw[z1];rfl,z2⟩
   refine .inr ⟨b,e,cs,h1,h2,h3,by simpa using h4,fun z hz=> ?_,fun k v z hkv hz=> ?_⟩
   ·rcases qex hz with h|h
    ·exact h5 z h
    ·rw[h];exact hy
   ·rw[qcj]at hz;split at hz
    ·rename_i hk;subst hk;split at hz
     ·injection hz with hz;subst hz;exact(hv v (h6 j v x hkv hx)).ext he
     ·cases hz
    ·exact(h6 k v z hkv hz).ext he
  ·rcases hw.obj i l' hl' with h0|⟨b,e,cs,h1,h2,h3,h4,h5,h6⟩
   ·exact .inl h0
   exact .inr ⟨b,e,cs,h1,h2,h3,h4,h5,fun k v x hv hx=>(h6 k v x hv hx).ext he⟩
 ·simp only[Hp.get]at hgo;split at hgo
  ·cases hgo
  ·exact hgo
 ·intro i ob hgo;simp only[Hp.get]at hgo;split at hgo
  ·rename_i h;subst h;exact hw.hid _ _ hg
  ·exact hw.hid _ _ hgo
def growsFrom (sz:Nat) (l:List D):V->Prop
 | .full z m=>z=sz/\m=l
 | .k (.slice none 0 0)=>l=[]
 |_=>False
theorem R.tok (hR:R T G0 w0 N s a G w) (sz:Nat) (l:List D):
  ∃G',R T G0 w0 N ⟨s.sl,(s.nx,.tip l.length)::s.h,s.nx+1⟩ a G' w/\∀x v,growsFrom sz l x->RepV G' w ((s.nx,.tip l.length)::s.h) (s.nx+1) v x->RepV G' w ((s.nx,.tip l.length)::s.h) (s.nx+1) v (.own s.nx sz l):=by
 have hw:=hR.wr;let G' :Gh:=⟨fun i=>if i=s.nx then none else G.loc i,fun i=>if i=s.nx then none else G.tloc i,G.lim⟩;have hlo:∀i,i<s.nx->G'.loc i=G.loc i/\G'.tloc i=G.tloc i:=fun i hi=>by simp[G',show i≠s.nx by omega]
 have hh:∀i,i≠s.nx->Hp.get ((s.nx,.tip l.length)::s.h) i=s.h.get i:=fun i hi=>by simp[Hp.get,hi]
 have he:Ext G w s.h s.nx G' w ((s.nx,.tip l.length)::s.h) (s.nx+1):=
  ⟨Mono.refl _ _,by omega,fun id b hi hb=>by rw[(hlo id hi).1];exact hb,fun tok t' ht h1=>by
   rw[hh tok qqo]at h1;exact⟨t',h1,qt _,fun _ b hb=>⟨by rw[(hlo tok ht).2];exact hb,rfl,rfl⟩⟩,fun _ _ h=>h⟩
 have hsome:∀i b,i<s.nx+1->(G'.loc i=some b∨G'.tloc i=some b)->i<s.nx/\(G.loc i=some b∨G.tloc i=some b):=by
  intro i b hi hb;by_cases hin:i=s.nx
  ·subst hin;simp[G']at hb
  ·have hi' :i<s.nx:=by omega
   rw[(hlo i hi').1,(hlo i hi').2]at hb;exact⟨hi',hb⟩
 refine⟨G',⟨⟨hR.fr.os,hR.fr.tape,hR.fr.output,hR.fr.size,hR.fr.same,hR.fr.mono⟩,⟨?_,hw.mob.ext he (fun i es hgo=> ?_) hw.hid (fun _ _ _ _ _=>rfl),?_,?_,?_,hw.lim⟩,hR.df,hR.sz,fun t=>(hR.sl t).ext he,hR.ex.ext he⟩,fun x v hg hv=> ?_⟩
 ·intro id l' hl';simp only[Hp.get]at hl';split at hl'
  ·cases hl'
  ·have hid:=hw.hid id _ hl';rcases hw.obj id l' hl' with⟨z1,z2⟩|⟨b,e',cs',h1,h2,h3,h4,h5,h6⟩
   ·exact .inl ⟨z1,by rw[(hlo id hid).1];exact z2⟩
   exact .inr ⟨b,e',cs',by rw[(hlo id hid).1];exact h1,h2,h3,h4,h5,fun j v x hv hx=>(h6 j v x hv hx).ext he⟩
 ·simp only[Hp.get]at hgo;split at hgo
  ·cases hgo
  ·exact hgo
 ·intro id b hid hb;obtain⟨h1,h2⟩:=hsome id b hid hb;exact hw.here id b h1 h2
 ·intro i j b hi hj hbi hbj li lj;obtain⟨h1,h2⟩:=hsome i b hi hbi;obtain⟨h3,h4⟩:=hsome j b hj hbj;exact hw.inj i j b h1 h3 h2 h4 (live_eq (hh i qqo) li) (live_eq (hh j qqo) lj)
 ·intro id ob hg;show id<s.nx+1;simp only[Hp.get]at hg;split at hg
  ·omega
  ·have:=hw.hid id ob hg;omega
 ·have main:∃A,v= .slice A l.length l.length/\RepD G'.lim w v (.slice sz l):=by
   cases x with
   |full z m=>obtain⟨rfl,rfl⟩:=hg;exact hv.full_inv
   |k u=>
    unfold growsFrom at hg;split at hg
    ·rename_i h;cases h
    ·subst hg;rw[hv.k_inv];exact⟨none,by simp_all,by simp_all;exact .nil none sz⟩
    ·exact hg.elim
   |_=>exact hg.elim
  obtain⟨A,hA,hd⟩:=main;refine .own _ _ _ _ hd qqo fun t' ht' => ?_;simp only[Hp.get,qce,qah,Ob.tip.injEq]at ht';rw[hA];exact⟨by omega,fun _=> .inl rfl⟩
end
section
variable {P:Program} {T:Tk} {G0:Gh} {w0:World} {N:Nat} {tb:List (Option Nat)} {d:Option Nat} {ty:TypeId} {p:String} {af:Array Edge} {r:List Oper} {K:St->Prop} {s:St} {Q:Exit->St->Prop}
theorem kh7 {c:Operand} {x y:Code} (hc:s.ev c= .d (.bool true)) (ht:Sat P T G0 w0 N x s Q):Sat P T G0 w0 N (.cond c x y) s Q:=k8d hc (fun _=>ht) (fun h=>by cases h)
theorem kgl {c:Operand} {x y:Code} (hc:s.ev c= .d (.bool false)) (hf:Sat P T G0 w0 N y s Q):Sat P T G0 w0 N (.cond c x y) s Q:=k8d hc (fun h=>by cases h) (fun _=>hf)
def selfP:Nat->Nat->List Nat->Prop
 |_,0,_=>True
 |i,n+1,a::r=>a=i/\selfP (i+1) n r
 |_,_+1,[]=>False
theorem kep:∀(n k:Nat) (r:List Nat),selfP k n r->∀i,i<n->r[i]? =some (k+i)
 |0,_,_,_,i,hi=>by omega
 |n+1,k,[],h,_,_=>h.elim
 |n+1,k,a::r,h,i,hi=>by
  cases i with
  |zero=>simp[h.1]
  |succ i=>rw[qao,kep n (k+1) r h.2 i qqo];congr 1;omega
theorem retN (ρ:List Nat) {np:Nat} {post:List Ob} {rs:List ResultVar} {rv:V} (h:allOk P s rs/\le (retV (rs.map (resV P s))) (ren (rh ρ) rv)/\ok post.length rv/\noTup rv/\postOk s.h (rh ρ) post.length s.nx ρ post/\ρ.Nodup/\np<=post.length/\selfP 0 np ρ):RetA P rs rv np post s:=⟨h.1,ρ,h.2.1,h.2.2.1,h.2.2.2.1,h.2.2.2.2.1,h.2.2.2.2.2.1,h.2.2.2.2.2.2.1,fun i hi=>by have:=kep np 0 ρ h.2.2.2.2.2.2.2 i hi;simpa using this⟩
end
end Go.Bv
namespace Go.Md
open Go Go.Bv
def ix {α:Type} [Inhabited α] (l:List α) (i:Int):α:=(l[i.toNat]?).getD default
structure Loop {σ:Type} (s0:σ) (body:(σ->Prop)->σ->Prop):Prop where
 ex:∃(inv:σ->Prop) (μ:σ->Nat),inv s0/\∀s,inv s->body (fun s' =>inv s'/\μ s' <μ s) s
theorem ix_get {α:Type} [Inhabited α] (l:List α) (k:Nat) (h:k<l.length):ix l (k:Int)=l[k]:=by simp[ix,h]
theorem wrap_u64 (n:Int) (h0:0<=n) (h:n<18446744073709551616):IntKind.u64.wrap n=n:=IntWalk.u64_in n ⟨h0,by omega⟩
theorem kp (n:Int) (h0: -9223372036854775808<=n) (h:n<9223372036854775808):IntKind.i64.wrap n=n:=IntWalk.i64_in n ⟨by omega,by omega⟩
def rowOver {α:Type} (l m:List α) (n:Nat):List α:=m.take (min m.length n)++l.drop (min m.length n)
end Go.Md
namespace Go.Bv
open Go.RowKit Go.Md
theorem elt_ix {α:Type} [Inhabited α] (f:α->D) (l:List α) (i:Int) (h0:0<=i) (h1:i<(l.length:Int)):elt (l.map f) i.toNat=f (ix l i):=by
 have:i.toNat<l.length:=by omega
 simp[elt,ix,this]
theorem kc9 {G:Gh} {w:World} {h:Hp} {nx:Nat} {v:Value} {k:IntKind} {n:Int} (hv:RepV G w h nx v (.d (.int k n))):v= .int k n:=by cases hv with|d _ _ hd=>cases hd;rfl
theorem kok {G:Gh} {w:World} {h:Hp} {nx:Nat} (k k' :IntKind) (a b:Int):RepV G w h nx (.tuple #[.int k a,.int k' b]) (.tup [.d (.int k a),.d (.int k' b)]):=by
 refine .tup [.int k a,.int k' b] _ rfl fun j v x hv hx=> ?_
 match j with
 |0=>simp at hv hx;subst hv;subst hx;exact .d _ _ (.int _ _)
 |1=>simp at hv hx;subst hv;subst hx;exact .d _ _ (.int _ _)
 |j+2=>simp at hv
theorem kkb {P:Program} {f:FuncId} {fn:Func} (hf:P.funcs[f]? =some fn) (hname:(fn.name== "runtime.NumGoroutine")=false) (hb:fn.body.isNone=true) (hn:Extern.findNext fn=none) (he:Extern.find fn=some add64Entry)
  (x y c:Int) (hx:0<=x) (hy:0<=y) (hc0:0<=c) (hc:c<=1):
  SoundX P f [.d (.int .u64 x),.d (.int .u64 y),.d (.int .u64 c)] (.tup [.d (.int .u64 ((x+y+c)%18446744073709551616)),.d (.int .u64 ((x+y+c)/18446744073709551616))]):=by
 intro G w h nx vs hl hr
 match vs,hl with
 |[v0,v1,v2],_=>have e0:=kc9 (hr 0 v0 _ rfl rfl);have e1:=kc9 (hr 1 v1 _ rfl rfl);have e2:=kc9 (hr 2 v2 _ rfl rfl);subst e0;subst e1;subst e2;refine⟨_,?_,kok _ _ _ _⟩;rw[run_callFunc_extern hf hname hb hn he];show((add64Entry #[.int .u64 x,.int .u64 y,.int .u64 c]).run P w).andThen _=_;rw[run_add64 x y c hx hy hc0 hc w];rfl
end Go.Bv
namespace Go.Cv
open Go Go.Bv Go.RowKit Go.Md
inductive Ty where
 |int (k:IntKind)
 |bool
 |str
 |sl (e:Ty)
 |st (n:Nat)
def Ty.beq:Ty->Ty->Bool
 | .int k,.int k' =>decide (k=k')
 | .bool,.bool=>true
 | .str,.str=>true
 | .sl a,.sl b=>a.beq b
 | .st n,.st m=>Nat.beq n m
 |_,_=>false
theorem Ty.eq_of_beq:∀{a b:Ty},a.beq b=true->a=b
 | .int k,.int k',h=>by simp[Ty.beq]at h;rw[h]
 | .bool,.bool,_=>rfl
 | .str,.str,_=>rfl
 | .sl a,.sl b,h=>by rw[Ty.eq_of_beq (a:=a) (b:=b) h]
 | .st n,.st m,h=>by rw[qdt (n:=n) (m:=m) h]
 | .int _,.bool,h=>by cases h
 | .int _,.str,h=>by cases h
 | .int _,.sl _,h=>by cases h
 | .int _,.st _,h=>by cases h
 | .bool,.int _,h=>by cases h
 | .bool,.str,h=>by cases h
 | .bool,.sl _,h=>by cases h
 | .bool,.st _,h=>by cases h
 | .str,.int _,h=>by cases h
 | .str,.bool,h=>by cases h
 | .str,.sl _,h=>by cases h
 | .str,.st _,h=>by cases h
 | .sl _,.int _,h=>by cases h
 | .sl _,.bool,h=>by cases h
 | .sl _,.str,h=>by cases h
 | .sl _,.st _,h=>by cases h
 | .st _,.int _,h=>by cases h
 | .st _,.bool,h=>by cases h
 | .st _,.str,h=>by cases h
 | .st _,.sl _,h=>by cases h
def Ty.agg:Ty->Bool
 | .st _=>true
 |_=>false
def Ty.prim:Ty->Bool
 | .st _=>false
 | .sl _=>false
 |_=>true
def Ty.den (S:Nat->Type):Ty->Type
 | .int _=>Int
 | .bool=>Bool
 | .str=>ByteArray
 | .sl e=>List (e.den S)
 | .st n=>S n
def HL (S:Nat->Type):List Ty->Type
 |[]=>Unit
 |t::r=>t.den S×HL S r
def Ty.cast (F:Ty->Type) (a b:Ty) (x:F a):Option (F b):=if h:a.beq b=true then some (Ty.eq_of_beq h▸x)else none
theorem Ty.cast_some {F:Ty->Type} {a b:Ty} {x:F a} {y:F b} (h:Ty.cast F a b x=some y):∃e:a=b,e▸x=y:=by
 unfold Ty.cast at h;split at h
 ·rename_i hb;injection h with h;exact⟨Ty.eq_of_beq hb,h⟩
 ·cases h
structure Tab where
 den:Nat->Type
 inh:∀n,den n
 tys:Nat->List Ty
 cells:∀n,den n->HL den (tys n)
 pack:∀n,HL den (tys n)->den n
 enc:∀n,den n->D
def Tab.sz (T:Tab):Ty->Nat
 | .st n=>(T.tys n).length
 |_=>1
def Tab.e (T:Tab):(t:Ty)->t.den T.den->D
 | .int k,n=> .int k n
 | .bool,b=> .bool b
 | .str,s=> .str s
 | .sl e,l=> .slice (T.sz e) (List.map (T.e e) l)
 | .st n,x=>T.enc n x
def Tab.eL (T:Tab):(ts:List Ty)->HL T.den ts->List D
 |[],_=>[]
 |t::r,x=>T.e t x.1::T.eL r x.2
def Tab.dflt (T:Tab):(t:Ty)->t.den T.den
 | .int _=>(0:Int)
 | .bool=>false
 | .str=>ByteArray.empty
 | .sl _=>[]
 | .st n=>T.inh n
structure Tab.Ok (T:Tab):Prop where
 one:∀n,(T.tys n).all (fun t=> !t.agg)=true
 pc:∀n x,T.cells n (T.pack n x)=x
 en:∀n x,T.enc n x= .agg (T.eL (T.tys n) (T.cells n x))
structure TD (S:Nat->Type) where
 t:Ty
 x:t.den S
inductive TV (S:Nat->Type) where
 |any
 |k (v:Value)
 |lit (b:Bool)
 |d (t:Ty) (x:t.den S)
 |full (e:Ty) (l:List (e.den S))
 |own (tok:Nat) (e:Ty) (l:List (e.den S))
 |ptr (id off:Nat)
 |aptr (id off n:Nat) (i:Int)
 |ro (l:List (TD S))
 |row (id:Nat) (e:Ty) (len:Nat)
 |view (id:Nat) (e:Ty) (off len:Nat)
 |eptr (id:Nat) (e:Ty) (i:Int) (off:Nat)
 |mp (id:Nat)
 |clo (g:Nat) (fs cs:List (Option (Nat×Nat)))
 |agg (l:List (TV S))
 |tup (l:List (TV S))
inductive TOb (S:Nat->Type) where
 |cells (l:List (TV S))
 |tip (e:Ty) (l:List (e.den S))
 |vec (e:Ty) (l:List (e.den S))
 |map (k v:Ty) (ks:List (k.den S)) (vs:List (v.den S))
 |it (mid:Nat) (k v:Ty) (ks:List (k.den S)) (vs:List (v.den S)) (last:Option (k.den S×v.den S))
 |foc (e:Ty) (l:List (e.den S)) (i:Int) (off rid:Nat) (re:Ty) (n:Nat)
 |dead
abbrev THp (S:Nat->Type):=List (Nat×TOb S)
structure TSt (S:Nat->Type) where
 sl:List (Nat×TV S)
 h:THp S
 nx:Nat
section
variable {S:Nat->Type}
def TD.v (d:TD S):TV S:= .d d.t d.x
def getT:List (Nat×TV S)->Nat->TV S
 |[],_=> .any
 |p::r,j=>bif Nat.beq j p.1 then p.2 else getT r j
def getH:THp S->Nat->Option (TOb S)
 |[],_=>none
 |p::r,j=>bif Nat.beq j p.1 then some p.2 else getH r j
def TSt.put (s:TSt S):Option Nat->TV S->TSt S
 |some t,x=>⟨(t,x)::s.sl,s.h,s.nx⟩
 |none,_=>s
def tofK1:Value->TV S
 | .int q n=> .d (.int q) n
 | .bool b=> .lit b
 | .string s=> .d .str s
 |v=>bif v.oneCell' then .k v else .any
def tofK:Value->TV S
 | .agg cs=>bif cs.all (·.oneCell')then .agg (cs.toList.map tofK1)else .any
 |v=>tofK1 v
def TSt.ev (s:TSt S):Operand->TV S
 | .tmp t=>getT s.sl t
 | .const v=>tofK v
 | .global _=> .any
 | .func f=> .k (.func (.func f) #[] #[])
def castL (a b:Ty) (l:List (a.den S)):Option (List (b.den S)):=Ty.cast (fun t=>List (t.den S)) a b l
def TV.one:TV S->Bool
 | .any=>false
 | .k v=>v.oneCell'
 | .d t _=> !t.agg
 | .agg _=>false
 | .tup _=>false
 |_=>true
def TV.asI:TV S->Option (IntKind×Int)
 | .d (.int q) n=>some (q,n)
 |_=>none
def TV.cells:TV S->List (TV S)
 | .agg l=>l
 |v=>[v]
end
section
variable (T:Tab)
def TD.e (d:TD T.den):D:=T.e d.t d.x
def er1:TV T.den->V
 | .any=> .any
 | .k v=> .k v
 | .lit b=> .d (.bool b)
 | .d t x=> .d (T.e t x)
 | .full e l=> .full (T.sz e) (l.map (T.e e))
 | .own tok e l=> .own tok (T.sz e) (l.map (T.e e))
 | .ptr id off=> .ptr id off
 | .aptr id off _ i=> .ptr id (off+i.toNat)
 | .ro l=> .ro (l.map (TD.e T))
 | .row id e len=> .row id 0 len (T.sz e)
 | .view id e off len=> .row id (off*T.sz e) len (T.sz e)
 | .eptr id e i off=> .ptr id (i.toNat*T.sz e+off)
 | .mp id=> .mp id
 | .clo g fs cs=> .clo g fs cs
 | .agg _=> .any
 | .tup _=> .any
def er0:TV T.den->V
 | .agg l=> .agg (l.map (er1 T))
 |v=>er1 T v
def er:TV T.den->V
 | .tup l=> .tup (l.map (er0 T))
 |v=>er0 T v
def erO:TOb T.den->Ob
 | .cells l=> .cells (l.map (er1 T))
 | .tip _ l=> .tip l.length
 | .vec e l=> .cells (((l.map (T.e e)).flatMap D.cells).map .d)
 | .map k v ks vs=> .map (.m ((ks.zip vs).map fun p=>(T.e k p.1,V.ofD (T.e v p.2))))
 | .it mid k v ks vs last=> .map (.it mid ((ks.zip vs).map fun p=>(T.e k p.1,V.ofD (T.e v p.2))) (last.map fun p=>(T.e k p.1,V.ofD (T.e v p.2))))
 | .foc e l i off rid re n=> .cells ((((l.map (T.e e)).flatMap D.cells).map .d).set (i.toNat*T.sz e+off) (.row rid 0 n (T.sz re)))
 | .dead=> .dead
def erH (h:THp T.den):Hp:=h.map fun p=>(p.1,erO T p.2)
end
def erS (T:Tab) (s:TSt T.den):St:=⟨s.sl.map fun p=>(p.1,er T p.2),erH T s.h,s.nx⟩
theorem nb_ne {a b:Nat} (h:a≠b):Nat.beq a b=false:=Bool.eq_false_iff.2 fun e=>h (qdt e)
theorem nb_self (a:Nat):Nat.beq a a=true:=Nat.beq_refl a
theorem nb_eq {a b:Nat} (h:Nat.beq a b=true):a=b:=qdt h
section
variable {T:Tab}
theorem getS_er:∀(sl:List (Nat×TV T.den)) (t:Nat),getS (sl.map fun p=>(p.1,er T p.2)) t=er T (getT sl t)
 |[],_=>rfl
 |p::r,t=>by
  simp only[qae,getS,getT];by_cases e:t=p.1
  ·subst e;simp
  ·rw[qe e,nb_ne e,qbt];exact getS_er r t
theorem getH_er:∀(l:THp T.den) (i:Nat),(erH T l).get i=(getH l i).map (erO T)
 |[],_=>rfl
 |p::r,t=>by
  show Hp.get ((p.1,erO T p.2)::erH T r) t=_;simp only[Hp.get,getH];by_cases e:t=p.1
  ·subst e;simp
  ·rw[qe e,nb_ne e,qbt];exact getH_er r t
theorem kr (v:Value):er1 T (tofK1 v)=V.ofK1 v:=by
 cases v<;>simp only[tofK1,V.ofK1,er1]<;>first|rfl|skip
 all_goals (rename_i x;first|(cases x;simp[Value.oneCell',er1];done)|simp[Value.oneCell',er1]|skip)
theorem er0_of1 {v:TV T.den} (hv:v.one=true):er0 T v=er1 T v:=by cases v<;>first|rfl|cases hv
theorem er_of1 {v:TV T.den} (hv:v.one=true):er T v=er1 T v:=by cases v<;>first|rfl|cases hv
end
end Go.Cv
namespace Go.Cv
open Go Go.Bv Go.RowKit Go.Md
inductive BT (α:Type) where
 |lf
 |nd (l:BT α) (k:Nat) (v:α) (r:BT α)
def BT.find {α:Type}:BT α->Nat->Option α
 | .lf,_=>none
 | .nd l k v r,j=>bif Nat.beq j k then some v else bif Nat.ble j k then l.find j else r.find j
structure TI (S:Nat->Type) where
 ty:Option (Bool×Nat):=none
 fl:List (Nat×Bool×Nat):=[]
 el:Option (Ty×Nat):=none
 ez:Bool:=false
 ar:Option (Nat×Bool×Nat):=none
 ze:Option (List (TV S)):=none
 pl:List (Nat×Nat):=[]
 un:Option TypeDesc:=none
 eq:Option (List TypeDesc):=none
 mp:Option (Ty×Ty):=none
def TI.of {S:Nat->Type} (I:BT (TI S)) (t:TypeId):TI S:=(I.find t).getD {}
section
variable {S:Nat->Type}
def isNilK:Value->Bool
 | .slice none 0 0=>true
 |_=>false
def els (e:Ty):TV S->Option (List (e.den S))
 | .d (.sl e') l=>castL e' e l
 | .full e' l=>castL e' e l
 | .own _ e' l=>castL e' e l
 | .k v=>bif isNilK v then some []else none
 |_=>none
def TV.isB:TV S->Option Bool
 | .lit b=>some b
 | .d .bool b=>some b
 |_=>none
def toEl2 (t:Ty):TV S->Option (t.den S)
 | .d t' x=>Ty.cast (Ty.den S) t' t x
 |_=>none
def toEl1:(t:Ty)->TV S->Option (t.den S)
 | .sl e,v=>els e v
 | .bool,v=>v.isB
 | .int k,v=>toEl2 (.int k) v
 | .str,v=>toEl2 .str v
 | .st _,_=>none
def tds:(ts:List Ty)->HL S ts->List (TD S)
 |[],_=>[]
 |t::r,x=>⟨t,x.1⟩::tds r x.2
def packL:(ts:List Ty)->List (TV S)->Option (HL S ts)
 |[],[]=>some ()
 |t::r,v::vs=>match toEl1 t v with
  |some x=>match packL r vs with
   |some y=>some (x,y)
   |none=>none
  |none=>none
 |_,_=>none
def colT (t:Ty):List (TV S)->Option (List (t.den S))
 |[]=>some []
 | .d t' x::r=>match Ty.cast (Ty.den S) t' t x with
  |some x=>match colT t r with
   |some y=>some (x::y)
   |none=>none
  |none=>none
 |_=>none
def selI (K:TV S->Prop) (i:Int) (df:(t:Ty)->t.den S):List (TV S)->Prop
 | .d t x::r=>bif t.agg then False else match colT t r with
  |some xs=>K (.d t (@ix _ ⟨df t⟩ (x::xs) i))
  |none=>False
 |_=>False
def tPart (a:Bool) (n:Nat) (l:List (TV S)) (off:Nat) (K:TV S->Prop):Prop:=match a with
 |true=>bif Nat.ble (off+n) l.length then K (.agg ((l.drop off).take n))else False
 |false=>match l[off]? with
  |some x=>bif x.one then K x else False
  |none=>False
def TV.tupB:TV S->Bool
 | .tup _=>true
 |_=>false
def TV.setL (l:List (TV S)) (off:Nat) (cs:List (TV S)):List (TV S):=l.take off++cs++l.drop (off+cs.length)
def allOne:List (TV S)->Bool
 |[]=>true
 |v::r=>v.one&&allOne r
def litI:Operand->Bool
 | .const _=>true
 |_=>false
def ask (o:Operand) (C:Prop) [Decidable C] (K:Prop):Prop:=match litI o with
 |true=>bif decide C then K else False
 |false=>C/\K
def TV.toB:TV S->TV S
 | .lit b=> .d .bool b
 |v=>v
def tPick (c a b:TV S) (K:TV S->Prop):Prop:=match c with
 | .lit true=>K a
 | .lit false=>K b
 | .d .bool t=>match a.toB,b.toB with
  | .d ta x,.d tb y=>match Ty.cast (Ty.den S) tb ta y with
   |some y=>K (.d ta (bif t then x else y))
   |none=>False
  |_,_=>False
 |_=>False
def tInt (yo:Operand) (op:BinOp) (k k' :IntKind) (a b:Int) (K:TV S->Prop):Prop:=match op with
 | .shl=>ask yo (0<=b) (K (.d (.int k) (ishl k a b)))
 | .shr=>ask yo (0<=b) (K (.d (.int k) (ishr k a b)))
 |op=>bif decide (k=k')then(match op with
  | .add=>K (.d (.int k) (k.wrap (a+b)))
  | .sub=>K (.d (.int k) (k.wrap (a-b)))
  | .mul=>K (.d (.int k) (k.wrap (a*b)))
  | .quo=>ask yo (b≠0) (K (.d (.int k) (k.wrap (a.tdiv b))))
  | .rem=>ask yo (b≠0) (K (.d (.int k) (a.tmod b)))
  | .and=>K (.d (.int k) (iand k a b))
  | .or=>K (.d (.int k) (ior k a b))
  | .xor=>K (.d (.int k) (ixor k a b))
  | .andNot=>K (.d (.int k) (ianot k a b))
  | .eql=>K (.d .bool (a==b))
  | .neq=>K (.d .bool (a !=b))
  | .lss=>K (.d .bool (decide (a<b)))
  | .leq=>K (.d .bool (decide (a<=b)))
  | .gtr=>K (.d .bool (decide (b<a)))
  | .geq=>K (.d .bool (decide (b<=a)))
  |_=>False)else False
def tEqB (op:BinOp) (e:Bool) (K:TV S->Prop):Prop:=match op with
 | .eql=>K (.d .bool e)
 | .neq=>K (.d .bool (!e))
 |_=>False
def tEqK (op:BinOp) (e:Bool) (K:TV S->Prop):Prop:=match op with
 | .eql=>K (.lit e)
 | .neq=>K (.lit (!e))
 |_=>False
def tEqL:List TypeDesc->List (TV S)->List (TV S)->Option Bool
 |[],[],[]=>some true
 | .int k::ts,.d (.int k1) a::l,.d (.int k2) b::m=>bif decide (k1=k2)&&decide (k1=k)then(match tEqL ts l m with
  |some e=>some ((@BEq.beq Int _ a b)&&e)
  |none=>none)else none
 | .bool::ts,x::l,y::m=>match x.isB,y.isB,tEqL ts l m with
  |some a,some b,some e=>some ((a==b)&&e)
  |_,_,_=>none
 |_,_,_=>none
def TV.isNil:TV S->Bool
 | .k v=>isNilK v
 |_=>false
def isMapK:Value->Bool
 | .map none=>true
 |_=>false
def isPtrK:Value->Bool
 | .pointer none=>true
 |_=>false
def tBin (ti:TI S) (yo:Operand) (op:BinOp) (x y:TV S) (K:TV S->Prop):Prop:=match x,y with
 | .d (.int k) a,.d (.int k') b=>tInt yo op k k' a b K
 | .agg l,.agg m=>match ti.eq with
  |some ts=>match tEqL ts l m with
   |some e=>tEqB op e K
   |none=>False
  |none=>False
 | .ptr _ _,.k v=>bif isPtrK v then(match ti.un with
  |some (.pointer _)=>tEqK op false K
  |_=>False)else False
 | .ro _,.k v=>bif isPtrK v then(match ti.un with
  |some (.pointer _)=>tEqK op false K
  |_=>False)else False
 | .mp _,.k v=>bif isMapK v then(match ti.un with
  |some (.map _ _)=>tEqK op false K
  |_=>False)else False
 | .k u,.k v=>bif isPtrK u&&isPtrK v then(match ti.un with
  |some (.pointer _)=>tEqK op true K
  |_=>False)else bif isMapK u&&isMapK v then(match ti.un with
  |some (.map _ _)=>tEqK op true K
  |_=>False)else False
 | .d .str a,.d .str b=>tEqB op (a.toList==b.toList) K
 |x,y=>match x.isB,y.isB,ti.un with
  |some a,some b,some .bool=>tEqB op (a==b) K
  |_,_,_=>False
end
def mIdx {α:Type} (p:α->Bool):List α->Option Nat
 |[]=>none
 |x::r=>bif p x then some 0 else(mIdx p r).map (·+1)
def mHas {α:Type} (p:α->Bool) (ks:List α):Bool:=(mIdx p ks).isSome
def mVal {α β:Type} (p:α->Bool) (ks:List α) (vs:List β) (z:β):β:=match mIdx p ks with
 |some j=>(vs[j]?).getD z
 |none=>z
def mPutK {α:Type} (p:α->Bool) (ks:List α) (k:α):List α:=match mIdx p ks with
 |some j=>ks.set j k
 |none=>ks++[k]
def mPutV {α β:Type} (p:α->Bool) (ks:List α) (vs:List β) (v:β):List β:=match mIdx p ks with
 |some j=>vs.set j v
 |none=>vs++[v]
def mDelK {α:Type} (p:α->Bool) (ks:List α):List α:=match mIdx p ks with
 |some j=>ks.eraseIdx j
 |none=>ks
def mDelV {α β:Type} (p:α->Bool) (ks:List α) (vs:List β):List β:=match mIdx p ks with
 |some j=>vs.eraseIdx j
 |none=>vs
def Ty.keq {S:Nat->Type}:(k:Ty)->k.den S->k.den S->Bool
 | .int _,a,b=> @BEq.beq Int _ a b
 | .bool,a,b=> @BEq.beq Bool _ a b
 | .str,a,b=> @BEq.beq ByteArray _ a b
 |_,_,_=>false
def byteAt (s:ByteArray) (i:Int):Int:=(((s[i.toNat]?).getD 0).toNat:Int)
section
variable (T:Tab)
def tcells:(e:Ty)->e.den T.den->List (TD T.den)
 | .st n,x=>tds (T.tys n) (T.cells n x)
 |t,x=>[⟨t,x⟩]
def tdv (t:Ty) (x:t.den T.den):TV T.den:=bif t.agg then .agg ((tcells T t x).map TD.v)else .d t x
def toElS (n:Nat):TV T.den->Option (T.den n)
 | .agg l=>(packL (T.tys n) l).map (T.pack n)
 |_=>none
def toEl:(e:Ty)->TV T.den->Option (e.den T.den)
 | .st n,v=>toElS T n v
 | .sl e,v=>toEl1 (.sl e) v
 | .bool,v=>toEl1 .bool v
 | .int k,v=>toEl1 (.int k) v
 | .str,v=>toEl1 .str v
def tLoad (ti:TI T.den) (h:THp T.den) (v:TV T.den) (K:TV T.den->Prop):Prop:=match ti.ty with
 |none=>False
 |some (a,n)=>match v with
  | .ptr id off=>match getH h id with
   |some (.cells l)=>tPart a n l off K
   |_=>False
  | .ro l=>tPart a n (l.map TD.v) 0 K
  | .aptr id off m i=>match a,getH h id with
   |false,some (.cells l)=>bif Nat.ble (off+m) l.length then(0<=i/\i<(m:Int))/\selI K i T.dflt ((l.drop off).take m)else False
   |_,_=>False
  | .eptr id e i off=>match getH h id with
   |some (.vec e' l)=>bif e.beq e' then(0<=i/\i<(l.length:Int))/\tPart a n ((tcells T e' (@ix _ ⟨T.dflt e'⟩ l i)).map TD.v) off K else False
   |some (.foc e' l i' off' rid re m)=>bif e.beq e' && !a&&Nat.blt off (T.sz e')&&Nat.blt off' (T.sz e')then(0<=i/\i<(l.length:Int))/\(match Nat.beq off off' with
    |true=>i=i'/\K (.row rid re m)
    |false=>tPart false n ((tcells T e' (@ix _ ⟨T.dflt e'⟩ l i)).map TD.v) off K)else False
   |_=>False
  |_=>False
def tFaddr (ti:TI T.den) (f:Nat) (v:TV T.den) (K:TV T.den->Prop):Prop:=match ti.fl[f]? with
 |none=>False
 |some (o,_,_)=>match v with
  | .ptr id off=>K (.ptr id (off+o))
  | .ro l=>K (.ro (l.drop o))
  | .eptr id e i off=>K (.eptr id e i (off+o))
  |_=>False
def tIaddr (ti:TI T.den) (io:Operand) (x i:TV T.den) (K:TV T.den->Prop):Prop:=match i.asI with
 |some (_,i)=>match ti.el with
  |some (e,_)=>match x with
   | .row id e' len=>bif e'.beq e then(0<=i/\i<(len:Int))/\K (.eptr id e' i 0)else False
   | .view id e' off len=>bif e'.beq e then(0<=i/\i<(len:Int))/\K (.eptr id e' ((off:Int)+i) 0)else False
   |x=>match els e x with
    |some l=>ask io (0<=i) (i<(l.length:Int)/\K (.ro (tcells T e (@ix _ ⟨T.dflt e⟩ l i))))
    |none=>False
  |none=>match ti.ar with
   |some (n,_,sz)=>match litI io with
    |true=>bif decide (0<=i)&&decide (i<(n:Int))then(match x with
     | .ptr id off=>K (.ptr id (off+i.toNat*sz))
     | .ro l=>K (.ro (l.drop (i.toNat*sz)))
     | .eptr id e j off=>K (.eptr id e j (off+i.toNat*sz))
     |_=>False)else False
    |false=>match x with
     | .ptr id off=>bif Nat.beq sz 1 then(0<=i/\i<(n:Int))/\K (.aptr id off n i)else False
     |_=>False
   |none=>False
 |none=>False
def tIndex (ti:TI T.den) (io:Operand) (x i:TV T.den) (K:TV T.den->Prop):Prop:=match x,i.asI with
 | .agg l,some (_,i)=>match ti.ar with
  |some (n,a,sz)=>match litI io with
   |true=>bif decide (0<=i)&&decide (i<(n:Int))then tPart a sz l (i.toNat*sz) K else False
   |false=>bif !a&&Nat.beq sz 1&&Nat.beq l.length n then(0<=i/\i<(n:Int))/\selI K i T.dflt l else False
  |none=>False
 | .d .str s,some (_,i)=>match ti.un with
  |some .string=>(0<=i/\i<(s.size:Int))/\K (.d (.int .u8) (byteAt s i))
  |_=>False
 |_,_=>False
def tLen (ti:TI T.den) (x:TV T.den) (K:TV T.den->Prop):Prop:=match ti.el with
 |some (e,_)=>match x with
  | .k v=>bif isNilK v then K (.d (.int .i64) (0:Int))else False
  | .row _ _ len=>K (.d (.int .i64) (len:Int))
  | .view _ _ _ len=>K (.d (.int .i64) (len:Int))
  |x=>match els e x with
   |some l=>K (.d (.int .i64) (l.length:Int))
   |none=>False
 |none=>match x,ti.un with
  | .d .str s,some .string=>K (.d (.int .i64) (s.size:Int))
  |_,_=>False
def bndI (s:TSt T.den):Option Operand->Option (Option Int)
 |none=>some none
 |some o=>match(s.ev o).asI with
  |some (_,n)=>some (some n)
  |none=>none
def askO (o:Option Operand) (C:Prop) [Decidable C] (K:Prop):Prop:=match o with
 |none=>K
 |some o=>ask o C K
def tSlice (ti:TI T.den) (s:TSt T.den) (x:TV T.den) (lo hi:Option Operand) (K:TV T.den->Prop):Prop:=match ti.el with
 |some (e,_)=>match bndI T s lo,bndI T s hi with
  |some lo',some hi' =>match x with
   | .row id e' len=>bif e'.beq e then(match lo',hi' with
    |none,none=>K (.row id e' len)
    |some a,none=>askO lo (0<=a) (a<=(len:Int)/\K (.view id e' a.toNat (len-a.toNat)))
    |none,some b=>askO hi (0<=b) (b<=(len:Int)/\K (.view id e' 0 b.toNat))
    |some a,some b=>askO lo (0<=a) (a<=b/\b<=(len:Int)/\K (.view id e' a.toNat (b.toNat-a.toNat))))else False
   | .view id e' off len=>bif e'.beq e then(match lo',hi' with
    |none,none=>K (.view id e' off len)
    |some a,none=>askO lo (0<=a) (a<=(len:Int)/\K (.view id e' (off+a.toNat) (len-a.toNat)))
    |none,some b=>askO hi (0<=b) (b<=(len:Int)/\K (.view id e' off b.toNat))
    |some a,some b=>askO lo (0<=a) (a<=b/\b<=(len:Int)/\K (.view id e' (off+a.toNat) (b.toNat-a.toNat))))else False
   |x=>match els e x with
    |some l=>match lo',hi' with
     |none,none=>match x with
      | .k v=>K (.k v)
      | .full _ _=>K (.full e l)
      |_=>K (.d (.sl e) l)
     |some a,none=>askO lo (0<=a) (a<=(l.length:Int)/\(match x with
      | .k v=>K (.k v)
      | .full _ _=>K (.full e (l.drop a.toNat))
      |_=>K (.d (.sl e) (l.drop a.toNat))))
     |none,some b=>askO hi (0<=b) (b<=(l.length:Int)/\(match x with
      | .k v=>K (.k v)
      |_=>K (.d (.sl e) (l.take b.toNat))))
     |some a,some b=>askO lo (0<=a) (a<=b/\b<=(l.length:Int)/\(match x with
      | .k v=>K (.k v)
      |_=>K (.d (.sl e) ((l.take b.toNat).drop a.toNat))))
    |none=>False
  |_,_=>False
 |none=>False
def tNil (op:BinOp) (ti:TI T.den) (x:TV T.den) (K:TV T.den->Prop):Prop:=match ti.el with
 |some (e,_)=>match x with
  | .k _=>False
  | .row _ _ n=>∀z:Bool,(z=true->n=0)->tEqB op z K
  | .view _ _ _ n=>∀z:Bool,(z=true->n=0)->tEqB op z K
  |x=>match els e x with
   |some l=>∀z:Bool,(z=true->l=[])->tEqB op z K
   |none=>False
 |none=>False
def elUn {S:Nat->Type} (I:BT (TI S)) (a:TypeId):Option TypeDesc:=match(TI.of I a).un with
 |some (.slice e)=>(TI.of I e).un
 |_=>none
def tConv (ti:TI T.den) (sk:Bool) (se:Option TypeDesc) (x:TV T.den) (K:TV T.den->Prop):Prop:=match x.asI,ti.un with
 |some (_,n),some (.int k)=>bif sk then K (.d (.int k) (k.wrap n))else False
 |none,some .string=>match se,els (.int .u8) x with
  |some (.int .u8),some l=>K (.d .str (strOfNums l))
  |_,_=>False
 |_,_=>False
def tMin (x y:TV T.den) (K:TV T.den->Prop):Prop:=match x.asI,y.asI with
 |some (k,a),some (_,b)=>K (.d (.int k) (if b<a then b else a))
 |_,_=>False
def tMax (x y:TV T.den) (K:TV T.den->Prop):Prop:=match x.asI,y.asI with
 |some (k,a),some (_,b)=>K (.d (.int k) (if a<b then b else a))
 |_,_=>False
def tUn (op:UnOp) (x:TV T.den) (K:TV T.den->Prop):Prop:=match op,x with
 | .not,.lit b=>K (.lit (!b))
 | .not,.d .bool b=>K (.d .bool (!b))
 | .neg,x=>match x.asI with
  |some (k,n)=>K (.d (.int k) (k.wrap (0-n)))
  |none=>False
 |_,_=>False
def tNilCk (x:TV T.den) (K:TV T.den->Prop):Prop:=match x with
 | .ptr id off=>K (.ptr id off)
 | .ro l=>K (.ro l)
 | .eptr id e i off=>K (.eptr id e i off)
 | .aptr id off n i=>K (.aptr id off n i)
 |_=>False
def a2 (c:Call) (j:Nat):Operand:=c.args.getD j (.const .nilIface)
def tcaps:List (TV T.den)->Option (List (Option (Nat×Nat)))
 |[]=>some []
 | .ptr id off::r=>(tcaps r).map fun l=>some (id,off)::l
 |_::_=>none
def tq (I:BT (TI T.den)) (s:TSt T.den) (K:TV T.den->Prop):Op->Prop
 | .move x=>K (s.ev x)
 | .assign x=>K (s.ev x)
 | .pick c a b=>tPick (s.ev c) (s.ev a) (s.ev b) K
 | .load t a=>tLoad T (TI.of I t) s.h (s.ev a) K
 | .fieldAddr t x f=>tFaddr T (TI.of I t) f (s.ev x) K
 | .field t x f=>match(TI.of I t).fl[f]?,s.ev x with
  |some (o,a,n),.agg l=>tPart a n l o K
  |_,_=>False
 | .indexAddr t x i=>tIaddr T (TI.of I t) i (s.ev x) (s.ev i) K
 | .index t x i=>tIndex T (TI.of I t) i (s.ev x) (s.ev i) K
 | .extract x i=>match s.ev x with
  | .tup l=>match l[i]? with
   |some v=>bif v.tupB then False else K v
   |none=>False
  |_=>False
 | .binOp op t x y _=>tBin (TI.of I t) y op (s.ev x) (s.ev y) K
 | .unOp op _ x=>tUn T op (s.ev x) K
 | .convert a b x=>tConv T (TI.of I b) (TI.of I a).un.isSome (elUn I a) (s.ev x) K
 | .slice t x lo hi mx=>match mx with
  |none=>tSlice T (TI.of I t) s (s.ev x) lo hi K
  |some _=>False
 | .nilCheck x=>tNilCk T (s.ev x) K
 | .makeFunc fn fs cs=>match fn,tcaps T (cs.toList.map s.ev)with
  | .func g,some l=>K (.clo g (List.replicate fs.size none) l)
  |_,_=>False
 | .call c=>match c.callee with
  | .builtin .len=>bif Nat.beq c.args.size 1&&Nat.beq c.argTypes.size 1 then tLen T (TI.of I (c.argTypes.getD 0 0)) (s.ev (a2 c 0)) K else False
  | .builtin .min=>bif Nat.beq c.args.size 2 then tMin T (s.ev (a2 c 0)) (s.ev (a2 c 1)) K else False
  | .builtin .max=>bif Nat.beq c.args.size 2 then tMax T (s.ev (a2 c 0)) (s.ev (a2 c 1)) K else False
  |_=>False
 |_=>False
end
end Go.Cv
namespace Go.Cv
open Go Go.Bv Go.RowKit Go.Md
theorem cnd {b:Bool} {X:Prop} (h:bif b then X else False):b=true/\X:=by cases b;exact h.elim;exact⟨rfl,h⟩
theorem ask_and {o:Operand} {C K:Prop} [Decidable C] (h:ask o C K):C/\K:=by
 unfold ask at h;split at h
 ·obtain⟨h1,h2⟩:=cnd h;exact⟨qb h1,h2⟩
 ·exact h
theorem k3c {o:Option Operand} {C K:Prop} [Decidable C] (hn:o=none->C) (h:askO o C K):C/\K:=by
 unfold askO at h;split at h
 ·exact⟨hn rfl,h⟩
 ·exact ask_and h
theorem ble_le {a b:Nat} (h:Nat.ble a b=true):a<=b:=qdu h
section
variable {T:Tab}
theorem e_one {t:Ty} (ht:t.agg=false) (x:t.den T.den):(T.e t x).one=true:=by cases t<;>first|rfl|cases ht
theorem e_cells {t:Ty} (ht:t.agg=false) (x:t.den T.den):(T.e t x).cells=[T.e t x]:=by cases t<;>first|rfl|cases ht
theorem sz_one {t:Ty} (ht:t.agg=false):T.sz t=1:=by cases t<;>first|rfl|cases ht
theorem eL_len:∀(ts:List Ty) (x:HL T.den ts),(T.eL ts x).length=ts.length
 |[],_=>rfl
 |_::r,x=>by simp only[Tab.eL,qad,eL_len r x.2]
theorem eL_one:∀(ts:List Ty) (x:HL T.den ts),ts.all (fun t=> !t.agg)=true->∀c∈T.eL ts x,c.one=true
 |[],_,_,c,hc=>by cases hc
 |t::r,x,h,c,hc=>by
  simp only[qeu,qg,qbe]at h;rcases qam.1 hc with rfl|hc
  ·exact e_one h.1 _
  ·exact eL_one r x.2 h.2 c hc
theorem e_sz (hT:T.Ok) (t:Ty) (x:t.den T.den):(T.e t x).cells.length=T.sz t/\∀c∈(T.e t x).cells,c.one=true:=by
 cases t with
 |st n=>show(T.enc n x).cells.length=_/\∀c∈(T.enc n x).cells,c.one=true;rw[hT.en n x];exact⟨eL_len _ _,eL_one _ _ (hT.one n)⟩
 |_=>exact⟨rfl,fun c hc=>by rw[e_cells rfl]at hc;simp at hc;subst hc;exact e_one rfl _⟩
theorem map_sz (hT:T.Ok) {t:Ty} (l:List (t.den T.den)):∀d∈l.map (T.e t),d.cells.length=T.sz t/\∀c∈d.cells,c.one=true:=by intro d hd;obtain⟨x,_,rfl⟩:=qag.1 hd;exact e_sz hT t x
theorem tds_e:∀(ts:List Ty) (x:HL T.den ts),(tds ts x).map (TD.e T)=T.eL ts x
 |[],_=>rfl
 |_::r,x=>by simp only[tds,qae,Tab.eL,tds_e r x.2];rfl
theorem kij (hT:T.Ok) (e:Ty) (x:e.den T.den):(tcells T e x).map (TD.e T)=(T.e e x).cells:=by
 cases e with
 |st n=>show(tds (T.tys n) (T.cells n x)).map _=(T.enc n x).cells;rw[hT.en n x,tds_e];rfl
 |_=>rfl
theorem map_v (l:List (TD T.den)):(l.map TD.v).map (er1 T)=(l.map (TD.e T)).map V.d:=by rw[qbi,qbi];rfl
theorem k7n (hT:T.Ok) (e:Ty) (x:e.den T.den):((tcells T e x).map TD.v).map (er1 T)=(T.e e x).cells.map V.d:=by rw[map_v,kij hT]
theorem er1_one {v:TV T.den} (ho:v.one=true):(er1 T v).one=true:=by
 cases v<;>first|rfl|exact ho|cases ho|skip
 rename_i t x;simp only[TV.one,qbe]at ho;exact e_one ho _
theorem ofK_er (v:Value):er T (tofK v)=V.ofK v:=by
 cases v with
 |agg cs=>
  simp only[tofK,V.ofK];cases hc:cs.all (·.oneCell')
  ·rfl
  ·simp only[qdf,qce,er,er0,qbi];congr 1;refine qar fun v _=>kr v
 |bool b=>exact kr (T:=T) (.bool b)
 |int q n=>exact kr (T:=T) (.int q n)
 |float q n=>exact kr (T:=T) (.float q n)
 |complex q n m=>exact kr (T:=T) (.complex q n m)
 |string b=>exact kr (T:=T) (.string b)
 |pointer b=>exact kr (T:=T) (.pointer b)
 |slice b n m=>exact kr (T:=T) (.slice b n m)
 |map b=>exact kr (T:=T) (.map b)
 |chan b=>exact kr (T:=T) (.chan b)
 |func a b c=>exact kr (T:=T) (.func a b c)
 |nilFunc=>exact kr (T:=T) .nilFunc
 |iface a b=>exact kr (T:=T) (.iface a b)
 |nilIface=>exact kr (T:=T) .nilIface
 |tuple a=>exact kr (T:=T) (.tuple a)
theorem ev_er (s:TSt T.den) (x:Operand):(erS T s).ev x=er T (s.ev x):=by
 cases x with
 |tmp t=>exact getS_er s.sl t
 |const v=>exact(ofK_er v).symm
 |global _=>rfl
 |func f=>rfl
structure TI.Ok (P:Program) (T:Tab) (t:TypeId) (x:TI T.den):Prop where
 ty:∀q,x.ty=some q->tyOf P t=some q:=by(first|(intro _ h;cases h;done)|(intro _ h;exact .trans qqk h))
 fl:∀f q,x.fl[f]? =some q->fldOf P t f=some q:=by(intro _ _ h;cases h)
 el:∀e b,x.el=some (e,b)->Bv.elemOf P t=some (e.agg,T.sz e)/\rowOf P t=some (T.sz e,b):=by(first|(intro _ _ h;cases h;done)|(intro _ _ h;cases h;exact⟨by kernel_rfl,by kernel_rfl⟩))
 ez:x.ez=true->∀e b,x.el=some (e,b)->∃zs,elZ P t=some zs/\leL zs ((T.e e (T.dflt e)).cells.map .d):=by(intro h;cases h)
 ar:∀q,x.ar=some q->Bv.elemOf P t=none/\arrOf P t=some q:=by(first|(intro _ h;cases h;done)|(intro _ h;cases h;exact⟨by kernel_rfl,by kernel_rfl⟩))
 ze:∀z,x.ze=some z->zeroV P t=some (z.map (er1 T))/\∀v∈z,v.one=true:=by(first|(intro _ h;cases h;done)|(intro _ h;cases h;exact⟨by kernel_rfl,k4k qqk⟩))
 pl:x.pl≠[]->plOf P t=some x.pl:=by(first|(intro h;exact(h rfl).elim)|(intro _;kernel_rfl))
 un:∀u,x.un=some u->P.underlying t=some u:=by(first|(intro _ h;cases h;done)|(intro _ h;exact .trans qqk h))
 eq:∀u,x.eq=some u->eqT P t=some u:=by(first|(intro _ h;cases h;done)|(intro _ h;exact .trans qqk h))
 mp:∀k v,x.mp=some (k,v)->∃et d,mapT P t et d/\(∀y:k.den T.den,(T.e k y).isKey d)/\zIs P et (V.ofD (T.e v (T.dflt v))):=by(intro _ _ h;cases h)
theorem TI.ok_empty (P:Program) (T:Tab) (t:TypeId):TI.Ok P T t {}:=by constructor<;>simp
def InfoOk (P:Program) (T:Tab) (I:BT (TI T.den)):Prop:=∀t x,I.find t=some x->TI.Ok P T t x
theorem InfoOk.of {P:Program} {I:BT (TI T.den)} (hI:InfoOk P T I) (t:TypeId):TI.Ok P T t (TI.of I t):=by
 unfold TI.of;cases h:I.find t with
 |none=>exact TI.ok_empty P T t
 |some x=>exact hI t x h
theorem km {a b:Ty} {l:List (a.den T.den)} {m:List (b.den T.den)} (h:castL a b l=some m):T.sz a=T.sz b/\l.map (T.e a)=m.map (T.e b)/\l.length=m.length:=by obtain⟨rfl,rfl⟩:=Ty.cast_some h;exact⟨rfl,rfl,rfl⟩
theorem k1s {v:Value} (h:isNilK v=true):v= .slice none 0 0:=by
 unfold isNilK at h;split at h
 ·rfl
 ·cases h
theorem els_er {e:Ty} {v:TV T.den} {l:List (e.den T.den)} (he:els e v=some l):(er1 T v).els (T.sz e)=some (l.map (T.e e))/\v.one=true:=by
 unfold els at he;split at he
 ·obtain⟨h1,h2,_⟩:=km he;refine⟨?_,rfl⟩;show V.els _ (.d (.slice (T.sz _) (List.map (T.e _) _)))=_;rw[h1,h2];simp[V.els]
 ·obtain⟨h1,h2,_⟩:=km he;exact⟨by simp only[er1,h1,h2,V.els,qce],rfl⟩
 ·obtain⟨h1,h2,_⟩:=km he;exact⟨by simp only[er1,h1,h2,V.els,qce],rfl⟩
 ·rename_i v;cases hn:isNilK v with
  |false=>rw[hn]at he;cases he
  |true=>rw[hn]at he;injection he with he;subst he;rw[k1s hn];exact⟨rfl,rfl⟩
 ·cases he
theorem els_erS {e:Ty} {v:TV T.den} {l:List (e.den T.den)} (he:els e v=some l):(er T v).els (T.sz e)=some (l.map (T.e e)):=by rw[er_of1 (els_er he).2];exact(els_er he).1
theorem k4p {e:Ty} {v:TV T.den} {l:List (e.den T.den)} (he:els e v=some l):(er T v).elsD (T.sz e)=l.map (T.e e)/\isEls (T.sz e) (er T v):=by unfold V.elsD isEls;rw[els_erS he];exact⟨rfl,rfl⟩
theorem elt_ix {α:Type} (df:α) (f:α->D) (l:List α) (i:Int) (h0:0<=i) (h:i<(l.length:Int)):elt (l.map f) i.toNat=f (@ix _ ⟨df⟩ l i):=by
 have hi:i.toNat<l.length:=by omega
 simp only[elt,ix,ql,qd hi,qax,qbl]
theorem ix_mem {α:Type} (df:α) (l:List α) (i:Int) (h0:0<=i) (h:i<(l.length:Int)):l[i.toNat]? =some (@ix _ ⟨df⟩ l i):=by
 have hi:i.toNat<l.length:=by omega
 simp only[ix,qd hi,qbl]
theorem k2r {a:Bool} {n off:Nat} {l:List (TV T.den)} {K:TV T.den->Prop} (h:tPart a n l off K):∃v,K v/\partOk a n (l.map (er1 T)) off/\partOf a n (l.map (er1 T)) off=er T v:=by
 unfold tPart at h;cases a with
 |true=>
  obtain⟨h1,h2⟩:=cnd h;refine⟨_,h2,?_,?_⟩
  ·simpa[partOk]using ble_le h1
  ·simp only[partOf,er,er0,qby,qcr]
 |false=>
  simp only at h;cases hx:l[off]? with
  |none=>rw[hx]at h;exact h.elim
  |some x=>
   rw[hx]at h;obtain⟨h1,h2⟩:=cnd h;have hlt:off<l.length:=(qf.1 hx).1;refine⟨_,h2,?_,?_⟩
   ·simpa[partOk]using hlt
   ·simp only[partOf,ql,hx,qax,qbl,er_of1 h1]
theorem colT_eq {t:Ty}:∀{r:List (TV T.den)} {xs:List (t.den T.den)},colT t r=some xs->r=xs.map (TV.d t)
 |[],xs,h=>by simp only[colT,qah]at h;subst h;rfl
 |v::r,xs,h=>by
  unfold colT at h;split at h
  ·rename_i h';cases h'
  ·rename_i t' x r' hh;injection hh with h1 h2;subst h1;subst h2;cases hc:Ty.cast (Ty.den T.den) t' t x with
   |none=>rw[hc]at h;cases h
   |some y=>
    rw[hc]at h;obtain⟨rfl,rfl⟩:=Ty.cast_some hc;simp only at h;cases hr:colT t' r with
    |none=>rw[hr]at h;cases h
    |some ys=>rw[hr]at h;injection h with h;subst h;rw[colT_eq hr];rfl
  ·cases h
theorem kir {K:TV T.den->Prop} {i:Int} {l:List (TV T.den)} (h:selI K i T.dflt l) (h0:0<=i) (h1:i<(l.length:Int)):∃v,K v/\(l.map (er1 T))[i.toNat]? =some (er T v):=by
 unfold selI at h;split at h
 ·rename_i t x r;cases ha:t.agg with
  |true=>rw[ha]at h;exact h.elim
  |false=>
   rw[ha]at h;simp only[qbt]at h;cases hc:colT t r with
   |none=>rw[hc]at h;exact h.elim
   |some xs=>rw[hc]at h;have he:=colT_eq hc;subst he;have e2:(TV.d t x::xs.map (TV.d t))=(x::xs).map (TV.d t):=rfl;rw[e2]at h1 ⊢;rw[qm]at h1;refine⟨_,h,?_⟩;rw[ql,ql,ix_mem (T.dflt t) (x::xs) i h0 h1];rfl
 ·exact h.elim
theorem kmt (hT:T.Ok) {e:Ty} (l:List (e.den T.den)) (i:Int) (h0:0<=i) (h1:i<(l.length:Int)) (off n:Nat) (h:off+n<=T.sz e):
  ((((l.map (T.e e)).flatMap D.cells).map V.d).drop (i.toNat*T.sz e+off)).take n=((((T.e e (@ix _ ⟨T.dflt e⟩ l i)).cells).map V.d).drop off).take n:=by
 refine qcy fun j=> ?_;rw[qau,qau];split
 ·rename_i hj;rw[qba,qba,ql,ql,qdw];rw[k7p (map_sz hT l) (d:=T.e e (@ix _ ⟨T.dflt e⟩ l i)) (by rw[ql,ix_mem (T.dflt e) l i h0 h1];rfl) (off+j) qqo]
 ·rfl
theorem k12 (hT:T.Ok) {e:Ty} (l:List (e.den T.den)):((l.map (T.e e)).flatMap D.cells).length=l.length*T.sz e:=by rw[ki (map_sz hT l),qm]
theorem kgj (hT:T.Ok) {a:Bool} {n off:Nat} {e:Ty} {l:List (e.den T.den)} {i:Int} (h0:0<=i) (h1:i<(l.length:Int))
  (ho:partOk a n ((T.e e (@ix _ ⟨T.dflt e⟩ l i)).cells.map V.d) off):
  partOk a n (((l.map (T.e e)).flatMap D.cells).map V.d) (i.toNat*T.sz e+off)/\partOf a n (((l.map (T.e e)).flatMap D.cells).map V.d) (i.toNat*T.sz e+off)=partOf a n ((T.e e (@ix _ ⟨T.dflt e⟩ l i)).cells.map V.d) off:=by
 have hs:=(e_sz hT e (@ix _ ⟨T.dflt e⟩ l i)).1;have hm:(i.toNat+1)*T.sz e<=l.length*T.sz e:=qbc _ qqo;rw[qbj,qcs]at hm;cases a with
 |true=>
  simp only[partOk,qm,hs]at ho;refine⟨?_,?_⟩
  ·simp only[partOk,qm,k12 hT];omega
  ·simp only[partOf];rw[kmt hT l i h0 h1 off n ho]
 |false=>
  simp only[partOk,qm,hs]at ho;refine⟨?_,?_⟩
  ·simp only[partOk,qm,k12 hT];omega
  ·simp only[partOf,ql];rw[k7p (map_sz hT l) (d:=T.e e (@ix _ ⟨T.dflt e⟩ l i)) (by rw[ql,ix_mem (T.dflt e) l i h0 h1];rfl) off ho]
variable {P:Program} {I:BT (TI T.den)}
theorem kgu (hT:T.Ok) {t:TypeId} {x:TI T.den} (hx:TI.Ok P T t x) {h:THp T.den} {v:TV T.den} {K:TV T.den->Prop} (hh:tLoad T x h v K):
  ∃u,K u/\loadOk (tyOf P t) (erH T h) (er T v)/\loadV (tyOf P t) (erH T h) (er T v)=er T u:=by
 unfold tLoad at hh;split at hh
 ·exact hh.elim
 ·rename_i a n hty;rw[hx.ty _ hty];split at hh
  ·rename_i id off;simp only[er,er0,er1,loadOk,loadV,getH_er];cases hg:getH h id with
   |none=>rw[hg]at hh;exact hh.elim
   |some o=>
    rw[hg]at hh;cases o with
    |cells l=>exact k2r hh
    |_=>exact hh.elim
  ·rename_i l;simp only[er,er0,er1,loadOk,loadV];obtain⟨u,h1,h2,h3⟩:=k2r hh;rw[map_v]at h2 h3;exact⟨u,h1,h2,h3⟩
  ·rename_i id off m i;split at hh
   ·rename_i l hg;obtain⟨h1,⟨h2,h3⟩,h4⟩:=cnd hh;have hle:=ble_le h1;have hlen:((l.drop off).take m).length=m:=by simp;omega
    obtain⟨u,g1,g2⟩:=kir h4 h2 (by rw[hlen];exact h3);rw[qby,qcr,qau,qh qqo,qba]at g2;simp only[er,er0,er1,loadOk,loadV,getH_er,hg,qax,erO];refine⟨u,g1,?_,?_⟩
    ·simp only[partOk,qm];omega
    ·simp only[partOf,g2,qbl];rfl
   ·exact hh.elim
  ·rename_i id e i off;split at hh
   ·rename_i e' l hg;obtain⟨h1,⟨h2,h3⟩,h4⟩:=cnd hh;have he:=Ty.eq_of_beq h1;subst he;simp only[er,er0,er1,loadOk,loadV,getH_er,hg,qax,erO];obtain⟨u,g1,g2,g3⟩:=k2r h4;rw[k7n hT]at g2 g3;obtain⟨q1,q2⟩:=kgj hT h2 h3 g2;exact⟨u,g1,q1,q2.trans g3⟩
   ·rename_i e' l i' off' rid re m hg;obtain⟨h1,⟨h2,h3⟩,h4⟩:=cnd hh;simp only[qg,qbe]at h1;obtain⟨⟨⟨he,ha⟩,ho1⟩,ho2⟩:=h1;have he:=Ty.eq_of_beq he;subst he;subst ha;have ho1:off<T.sz e:=qdu ho1;have ho2:off' <T.sz e:=qdu ho2;simp only[er,er0,er1,loadOk,loadV,getH_er,hg,qax,erO];have hlen:(((l.map (T.e e)).flatMap D.cells).map V.d).length=l.length*T.sz e:=by rw[qm,k12 hT]
    have hm:(i.toNat+1)*T.sz e<=l.length*T.sz e:=qbc _ qqo;rw[qbj,qcs]at hm;cases hb:Nat.beq off off' with
    |true=>
     rw[hb]at h4;obtain⟨rfl,h5⟩:=h4;obtain rfl:=nb_eq hb;refine⟨_,h5,?_,?_⟩
     ·simp only[partOk,qy,hlen];omega
     ·simp only[partOf];rw[List.getElem?_set_self (by rw[hlen];omega)];rfl
    |false=>
     rw[hb]at h4;obtain⟨u,g1,g2,g3⟩:=k2r h4;rw[k7n hT]at g2 g3;obtain⟨q1,q2⟩:=kgj hT h2 h3 g2;have hne:i'.toNat*T.sz e+off'≠i.toNat*T.sz e+off:=by intro h;have h:=congrArg (·%T.sz e) h;simp only[qee _ (T.sz e),Nat.mul_add_mod,Nat.mod_eq_of_lt ho1,Nat.mod_eq_of_lt ho2]at h;rw[h,nb_self]at hb;cases hb
     refine⟨u,g1,?_,?_⟩
     ·simp only[partOk,qy]at q1 ⊢;exact q1
     ·have q:partOf false n ((((l.map (T.e e)).flatMap D.cells).map V.d).set (i'.toNat*T.sz e+off') (.row rid 0 m (T.sz re))) (i.toNat*T.sz e+off)=partOf false n (((l.map (T.e e)).flatMap D.cells).map V.d) (i.toNat*T.sz e+off):=by simp only[partOf];rw[List.getElem?_set_ne hne]
      exact q.trans (q2.trans g3)
   ·exact hh.elim
  ·exact hh.elim
theorem kma {t:TypeId} {x:TI T.den} (hx:TI.Ok P T t x) {f:Nat} {v:TV T.den} {K:TV T.den->Prop} (hh:tFaddr T x f v K):
  ∃u,K u/\faddrOk (fldOf P t f) (er T v)/\faddrV (fldOf P t f) (er T v)=er T u:=by
 unfold tFaddr at hh;split at hh
 ·exact hh.elim
 ·rename_i o a n hf;rw[hx.fl _ _ hf];split at hh
  ·exact⟨_,hh,trivial,rfl⟩
  ·exact⟨_,hh,trivial,by simp only[er,er0,er1,faddrV,qcr]⟩
  ·exact⟨_,hh,trivial,by simp only[er,er0,er1,faddrV,qdw]⟩
  ·exact hh.elim
theorem asI_eq {v:TV T.den} {q:IntKind} {n:Int} (h:v.asI=some (q,n)):v= .d (.int q) n:=by
 unfold TV.asI at h;split at h
 ·injection h with h;injection h with h1 h2;subst h1;subst h2;rfl
 ·cases h
theorem kmf (hT:T.Ok) {t:TypeId} {x:TI T.den} (hx:TI.Ok P T t x) {io:Operand} {v iv:TV T.den} {K:TV T.den->Prop} (hh:tIaddr T x io v iv K):
  ∃u,K u/\iaddrOk (Bv.elemOf P t) (arrOf P t) (er T v) (er T iv)/\iaddrV (Bv.elemOf P t) (arrOf P t) (er T v) (er T iv)=er T u:=by
 unfold tIaddr at hh;split at hh
 ·rename_i q i hi;have hi:=asI_eq hi;subst hi;have ei:er T (TV.d (.int q) i)=V.d (D.int q i):=rfl;rw[ei];split at hh
  ·rename_i e b hel;rw[(hx.el _ _ hel).1];split at hh
   ·rename_i id e' len;obtain⟨h1,⟨h2,h3⟩,h4⟩:=cnd hh;have he:=Ty.eq_of_beq h1;subst he;exact⟨_,h4,⟨rfl,h2,h3⟩,by simp only[er,er0,er1,iaddrV,rowIx,qaj,qcq]⟩
   ·rename_i id e' off len;obtain⟨h1,⟨h2,h3⟩,h4⟩:=cnd hh;have he:=Ty.eq_of_beq h1;subst he;refine⟨_,h4,⟨rfl,h2,h3⟩,?_⟩;simp only[er,er0,er1,iaddrV,rowIx,qcq];rw[show((off:Int)+i).toNat=off+i.toNat by omega,qbj]
   ·cases hl:els e v with
    |none=>rw[hl]at hh;exact hh.elim
    |some l=>
     rw[hl]at hh;obtain⟨h1,h2,h3⟩:=ask_and hh;obtain⟨g1,g2⟩:=k4p hl;have hlen:((l.map (T.e e)).length:Int)=l.length:=by rw[qm]
     have key:iaddrOk (some (e.agg,T.sz e)) (arrOf P t) (er T v) (.d (.int q i))=iaddrDOk (some (e.agg,T.sz e)) (arrOf P t) (er T v) (.d (.int q i))/\iaddrV (some (e.agg,T.sz e)) (arrOf P t) (er T v) (.d (.int q i))=iaddrDV (some (e.agg,T.sz e)) (arrOf P t) (er T v) (.d (.int q i)):=by have:=els_erS hl;generalize er T v=y at this;cases y<;>first|exact⟨rfl,rfl⟩|cases this
     rw[key.1,key.2];refine⟨_,h3,⟨g2,h1,by rw[g1,hlen];exact h2⟩,?_⟩;simp only[iaddrDV,g1];rw[elt_ix (T.dflt e) (T.e e) l i h1 h2,<-kij hT];rfl
  ·split at hh
   ·rename_i n a sz har;rw[(hx.ar _ har).1,(hx.ar _ har).2];split at hh
    ·obtain⟨h1,h2⟩:=cnd hh;simp only[qg,qaf]at h1;split at h2
     ·exact⟨_,h2,h1,rfl⟩
     ·exact⟨_,h2,h1,by simp only[er,er0,er1,iaddrV,iaddrDV,qcr]⟩
     ·exact⟨_,h2,h1,by simp only[er,er0,er1,iaddrV,iaddrDV,qdw]⟩
     ·exact h2.elim
    ·split at hh
     ·obtain⟨h1,h2,h3⟩:=cnd hh;refine⟨_,h3,h2,?_⟩;simp only[er,er0,er1,iaddrV,iaddrDV,nb_eq h1,Nat.mul_one]
     ·exact hh.elim
   ·exact hh.elim
 ·exact hh.elim
theorem km3 {t:TypeId} {x:TI T.den} (hx:TI.Ok P T t x) {io:Operand} {v iv:TV T.den} {K:TV T.den->Prop} (hh:tIndex T x io v iv K):
  ∃u,K u/\indexOk P t (arrOf P t) (er T v) (er T iv)/\indexV (arrOf P t) (er T v) (er T iv)=er T u:=by
 unfold tIndex at hh;split at hh
 ·rename_i l q i hi;have hi:=asI_eq hi;subst hi;split at hh
  ·rename_i n a sz har;rw[(hx.ar _ har).2];split at hh
   ·obtain⟨h1,h2⟩:=cnd hh;simp only[qg,qaf]at h1;obtain⟨u,g1,g2,g3⟩:=k2r h2;exact⟨u,g1,⟨h1.1,h1.2,g2⟩,g3⟩
   ·obtain⟨h1,⟨h2,h3⟩,h4⟩:=cnd hh;simp only[qg,qbe]at h1;obtain⟨⟨ha,hs⟩,hn⟩:=h1;have hs:=nb_eq hs;have hn:=nb_eq hn;subst ha;subst hs;obtain⟨u,g1,g2⟩:=kir h4 h2 (by rw[hn];exact h3);refine⟨u,g1,⟨h2,h3,?_⟩,?_⟩
    ·simp only[partOk,qm];omega
    ·show partOf false 1 (l.map (er1 T)) (i.toNat*1)=_;simp only[partOf,Nat.mul_one,g2,qbl]
  ·exact hh.elim
 ·rename_i s q i hi;have hi:=asI_eq hi;subst hi;split at hh
  ·rename_i hu;obtain⟨⟨h1,h2⟩,h3⟩:=hh;have hu:=hx.un _ hu;have ha:arrOf P t=none:=by unfold arrOf;rw[hu]
   exact⟨_,h3,⟨ha,hu,h1,h2⟩,rfl⟩
  ·exact hh.elim
 ·exact hh.elim
end
end Go.Cv
end
