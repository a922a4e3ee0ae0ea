/- Parts of the proofs, merged by a program. -/
import Derived.Test.YtghlnaoogfcldaaGreatA3
set_option maxRecDepth 100000
set_option linter.all false
noncomputable section
namespace Go.Bv
open Go.RowKit
section
variable {G:Gh} {w:World} {h:Hp} {nx:Nat}
theorem PtrsR.ok:∀{ps:List (Option (Nat×Nat))} {vs:List Value},PtrsR G nx ps vs->okP nx ps
 |[],[],_=>trivial
 |[],_::_,h=>h.elim
 |_::_,[],h=>h.elim
 |none::r,_::_,h=>PtrsR.ok (ps:=r) h.2
 |some _::r,_::_,h=>⟨h.1.1,PtrsR.ok (ps:=r) h.2⟩
theorem RepV.ok1 {v:Value} {x:V} (hr:RepV G w h nx v x) (h1:∀l,x≠ .agg l) (h2:∀l,x≠ .tup l):Bv.ok1 nx x:=by
 cases hr with
 |agg _ l=>grind
 |tup _ l=>grind
 |ptr id _ b hid=>exact hid
 |own _ tok _ _ _ ht=>exact ht
 |row id _ _ _ _ _ _ _ hid=>exact hid
 |rown _ id _ _ hid=>exact hid
 |mp id _ hid=>exact hid
 |clo g fs cs vs us hf hc=>exact⟨hf.ok,hc.ok⟩
 |_=>trivial
theorem okL_of:∀{l:List V},(∀(j:Nat) (x:V),l[j]? =some x->Bv.ok1 nx x)->okL nx l
 |[],_=>trivial
 |x::r,h=>⟨h 0 x rfl,okL_of fun j y hj=>h (j+1) y (by grind)⟩
theorem one_na {x:V} (h:x.one=true):(∀l,x≠ .agg l)/\∀l,x≠ .tup l:=by constructor<;>(intro l e;rw[e]at h;cases h)
theorem RepV.ok0 {v:Value} {x:V} (hr:RepV G w h nx v x) (h2:∀l,x≠ .tup l):Bv.ok0 nx x/\Bv.le0 x x:=by
 by_cases ha:∃l,x= .agg l
 ·obtain⟨l,rfl⟩:=ha;cases hr with
  |agg vs _ hlen hone hr=>
   refine⟨okL_of fun j x hx=> ?_,k4r l hone⟩;have hj:j<vs.length:=by have:=(qq.1 hx).1;omega
   have h1:=one_na (hone x (qam hx));exact(hr j _ x (qd hj) hx).ok1 h1.1 h1.2
 ·have h1:=hr.ok1 (fun l e=>ha ⟨l,e⟩) h2;cases x with
  |agg l=>exact(ha ⟨l,rfl⟩).elim
  |tup l=>exact(h2 l rfl).elim
  |_=>exact⟨h1,by unfold Bv.le0;exact ka _⟩
theorem okT_of:∀{l:List V},(∀(j:Nat) (x:V),l[j]? =some x->Bv.ok0 nx x/\Bv.le0 x x)->okT nx l/\leT l l
 |[],_=>⟨trivial,trivial⟩
 |x::r,h=>by obtain⟨g1,g2⟩:=okT_of (l:=r) fun j y hj=>h (j+1) y (by simpa using hj);obtain⟨k1,k2⟩:=h 0 x rfl;exact⟨⟨k1,g1⟩,⟨k2,g2⟩⟩
theorem RepV.ok {v:Value} {x:V} (hr:RepV G w h nx v x) (ht:∀l,x= .tup l->∀y∈l,∀l',y≠ .tup l'):Bv.ok nx x/\Bv.le x x:=by
 by_cases ha:∃l,x= .tup l
 ·obtain⟨l,rfl⟩:=ha;cases hr with
  |tup vs _ hlen hr=>
   exact okT_of fun j y hy=>by
    have hj:j<vs.length:=by have:=(qq.1 hy).1;omega
    exact(hr j _ y (qd hj) hy).ok0 (ht l rfl y (qam hy))
 ·have h1:=hr.ok0 (fun l e=>ha ⟨l,e⟩);cases x with
  |tup l=>exact(ha ⟨l,rfl⟩).elim
  |_=>exact h1
theorem k1u {m:Nat} (h:nx<=m):∀{l:List (Option (Nat×Nat))},okP nx l->okP m l
 |[],_=>trivial
 |none::r,hx=>k1u h (l:=r) hx
 |some _::r,hx=>⟨qaq hx.1 h,k1u h (l:=r) hx.2⟩
theorem kn6 {m:Nat} (h:nx<=m) {x:V} (hx:Bv.ok1 nx x):Bv.ok1 m x:=by cases x<;>first|exact qaq hx h|exact hx|exact⟨k1u h hx.1,k1u h hx.2⟩
theorem k6s {m:Nat} (h:nx<=m):∀{l:List V},okL nx l->okL m l
 |[],_=>trivial
 |_::_,hx=>⟨kn6 h hx.1,k6s h hx.2⟩
theorem khu {m:Nat} (h:nx<=m) {x:V} (hx:Bv.ok0 nx x):Bv.ok0 m x:=by
 cases x with
 |agg l=>exact k6s h (l:=l) hx
 |ptr=>exact qaq hx h
 |own=>exact qaq hx h
 |row=>exact qaq hx h
 |mp=>exact qaq hx h
 |clo=>exact⟨k1u h hx.1,k1u h hx.2⟩
 |_=>exact hx
theorem kfj {m:Nat} (h:nx<=m):∀{l:List V},okT nx l->okT m l
 |[],_=>trivial
 |_::_,hx=>⟨khu h hx.1,kfj h hx.2⟩
theorem ok_mono {m:Nat} (h:nx<=m) {x:V} (hx:Bv.ok nx x):Bv.ok m x:=by
 cases x with
 |tup l=>exact kfj h (l:=l) hx
 |agg l=>exact k6s h (l:=l) hx
 |ptr=>exact qaq hx h
 |own=>exact qaq hx h
 |row=>exact qaq hx h
 |mp=>exact qaq hx h
 |clo=>exact⟨k1u h hx.1,k1u h hx.2⟩
 |_=>exact hx
theorem kfc {m:Nat} (h:nx<=m):∀{l:List (D×V)},okM nx l->okM m l
 |[],_=>trivial
 |_::_,hx=>⟨khu h hx.1,kfc h hx.2⟩
theorem klr {m:Nat} (h:nx<=m) {o:Ob} (ho:okO nx o):okO m o:=by
 cases o with
 |cells l=>exact k6s h (l:=l) ho
 |map x=>cases x with
  |m l=>exact kfc h (l:=l) ho
 |_=>trivial
theorem k5g {σ:Nat->Nat} (hσ:∀i,i<nx->σ i=i):∀{l:List (Option (Nat×Nat))},okP nx l->renP σ l=l
 |[],_=>rfl
 |none::r,h=>congrArg (List.cons none) (k5g (l:=r) hσ h)
 |some (i,_)::_,h=>by unfold renP;rw[hσ i h.1,k5g hσ h.2]
theorem ren1_id {σ:Nat->Nat} (hσ:∀i,i<nx->σ i=i) {x:V} (h:Bv.ok1 nx x):Bv.ren1 σ x=x:=by cases x<;>first|rfl|(simp only[Bv.ren1];rw[hσ _ h])|(simp only[Bv.ren1];rw[k5g hσ h.1,k5g hσ h.2])
theorem renL_id {σ:Nat->Nat} (hσ:∀i,i<nx->σ i=i):∀{l:List V},okL nx l->l.map (Bv.ren1 σ)=l
 |[],_=>rfl
 |x::r,h=>by rw[qx,ren1_id hσ h.1,renL_id hσ h.2]
theorem ren0_id {σ:Nat->Nat} (hσ:∀i,i<nx->σ i=i) {x:V} (h:Bv.ok0 nx x):Bv.ren0 σ x=x:=by
 cases x with
 |agg l=>exact congrArg V.agg (renL_id hσ h)
 |ptr i o=>exact ren1_id (x:= .ptr i o) hσ h
 |own a b c=>exact ren1_id (x:= .own a b c) hσ h
 |row a b c d=>exact ren1_id (x:= .row a b c d) hσ h
 |mp a=>exact ren1_id (x:= .mp a) hσ h
 |clo a b c=>exact ren1_id (x:= .clo a b c) hσ h
 |_=>rfl
theorem renT_id {σ:Nat->Nat} (hσ:∀i,i<nx->σ i=i):∀{l:List V},okT nx l->l.map (Bv.ren0 σ)=l
 |[],_=>rfl
 |x::r,h=>by rw[qx,ren0_id hσ h.1,renT_id hσ h.2]
theorem ren_id {σ:Nat->Nat} (hσ:∀i,i<nx->σ i=i) {x:V} (h:Bv.ok nx x):Bv.ren σ x=x:=by
 cases x with
 |tup l=>exact congrArg V.tup (renT_id hσ h)
 |agg l=>exact congrArg V.agg (renL_id hσ h)
 |ptr i o=>exact ren1_id (x:= .ptr i o) hσ h
 |own a b c=>exact ren1_id (x:= .own a b c) hσ h
 |row a b c d=>exact ren1_id (x:= .row a b c d) hσ h
 |mp a=>exact ren1_id (x:= .mp a) hσ h
 |clo a b c=>exact ren1_id (x:= .clo a b c) hσ h
 |_=>rfl
theorem renM_id {σ:Nat->Nat} (hσ:∀i,i<nx->σ i=i):∀{l:List (D×V)},okM nx l->(l.map fun e=>(e.1,Bv.ren0 σ e.2))=l
 |[],_=>rfl
 |x::r,h=>by rw[qx,ren0_id hσ h.1,renM_id hσ h.2]
theorem renO_id {σ:Nat->Nat} (hσ:∀i,i<nx->σ i=i) {o:Ob} (h:okO nx o):renO σ o=o:=by
 cases o with
 |cells l=>exact congrArg Ob.cells (renL_id hσ h)
 |map x=>cases x with
  |m l=>exact congrArg (fun z=>Ob.map (.m z)) (renM_id hσ h)
 |_=>rfl
end
end Go.Bv
namespace Go.Cv
open Go Go.Bv Go.RowKit Go.Md
section
variable {T:Tab} {P:Program} {C:Cx T} {N:Nat}
structure Gd (s:TSt T.den):Prop where
 sl:∀t,ok s.nx (er T (getT s.sl t))/\le (er T (getT s.sl t)) (er T (getT s.sl t))
 h:∀id ob,(erS T s).h.get id=some ob->id<s.nx/\okO s.nx ob/\obLe (some ob) ob
theorem er_tup {v:TV T.den}:∀l,er T v= .tup l->∀y∈l,∀l',y≠ .tup l' :=by
 intro l h y hy;cases v with
 |tup l0=>injection h with h;grind[k1a]
 |_=>cases h
theorem okM_D {nx:Nat} {k v:Ty}:∀(l:List (k.den T.den×v.den T.den)),okM nx (l.map fun p=>(T.e k p.1,V.ofD (T.e v p.2)))
 |[]=>trivial
 | p::r=>⟨by
   show ok0 nx (V.ofD (T.e v p.2));generalize T.e v p.2=d;cases d with
   |agg l=>exact okL_of fun j x hx=>by rw[qh,qo]at hx;obtain⟨_,_,rfl⟩:=hx;trivial
   |_=>trivial,okM_D r⟩
theorem kld:∀x:MO,moLe x x
 | .m _=>rfl
theorem gd_of {Tk:Tk} {G0:Gh} {w0:World} {s:TSt T.den} {a:Act} {G:Gh} {w:World} (hR:R Tk G0 w0 N (erS T s) a G w):Gd s:=by
 refine⟨fun t=> ?_,fun id ob hg=> ?_⟩
 ·have:=hR.sl t;rw[show getS (erS T s).sl t=er T (getT s.sl t)from getS_er s.sl t]at this;exact this.ok er_tup
 ·refine⟨hR.wr.hid id ob hg,?_⟩;have hg0:=hg;have hg:(erH T s.h).get id=some ob:=hg;rw[getH_er,qo]at hg;obtain⟨o,ho,rfl⟩:=hg
  have cell:∀l,erO T o= .cells l->okO s.nx (.cells l)/\obLe (some (.cells l)) (.cells l):=by
   intro l hl;rw[hl]at hg0;rcases hR.wr.obj id l hg0 with⟨z1,z2⟩|⟨b,e,cs,k1,k2,k3,k4,k5,k6⟩
   ·subst z1;exact⟨trivial,trivial⟩
   ·refine⟨okL_of fun j x hx=> ?_,k4r l k5⟩;have hj:j<cs.length:=by have:=(qq.1 hx).1;omega
    have h1:=one_na (k5 x (qam hx));exact(k6 j _ x (qd hj) hx).ok1 h1.1 h1.2
  cases o with
  |cells l=>exact cell _ rfl
  |vec e l=>exact cell _ rfl
  |foc e l i off rid re n=>exact cell _ rfl
  |tip e l=>exact⟨trivial,rfl⟩
  |dead=>exact⟨trivial,trivial⟩
  |map k v ks vs=>exact⟨okM_D _,by show moLe (MO.m _) (MO.m _);exact kld _⟩
theorem kap {sl' :List (Nat×TV T.den)} {t:Nat}:∀{sl:List (Nat×TV T.den)},hasK T sl t=false->getT (sl++sl') t=getT sl' t
 |[],_=>rfl
 |p::r,h=>by simp only[hasK,qdr]at h;show(bif Nat.beq t p.1 then p.2 else getT (r++sl') t)=_;rw[h.1];exact kap h.2
theorem kfl {sl' :List (Nat×TV T.den)} {t:Nat}:∀{sl:List (Nat×TV T.den)},hasK T sl t=true->getT (sl++sl') t=getT sl t
 |[],h=>by cases h
 |p::r,h=>by
  show(bif Nat.beq t p.1 then p.2 else getT (r++sl') t)=(bif Nat.beq t p.1 then p.2 else getT r t);cases e:Nat.beq t p.1 with
  |true=>rfl
  |false=>simp only[hasK,e,Bool.false_or]at h;exact kfl h
theorem kcq {t:Nat}:∀{sl:List (Nat×TV T.den)},hasK T sl t=false->getT sl t= .any
 |[],_=>rfl
 |p::r,h=>by simp only[hasK,qdr]at h;show(bif Nat.beq t p.1 then p.2 else getT r t)=_;rw[h.1];exact kcq h.2
theorem memB_in:∀{x:Nat} {l:Ln},memB x l=true->x∈l
 |_,[],h=>by cases h
 |x,y::r,h=>by
  simp only[memB,qcv]at h;rcases h with h|h
  ·rw[nb_eq h];simp
  ·exact qds _ (memB_in h)
theorem kgi {ts:Ln} {sl:List (Nat×TV T.den)}:∀{l:List (Nat×TV T.den)} {t:Nat},chS T ts sl l=true->hasK T l t=true->t∈ts∨hasK T sl t=false
 |[],t,_,h=>by cases h
 |p::r,t,h,hk=>by
  simp only[chS,qe,qcv,qav]at h;simp only[hasK,qcv]at hk;rcases hk with hk|hk
  ·rw[nb_eq hk];rcases h.1 with h1|h1
   ·exact .inl (memB_in h1)
   ·exact .inr h1
  ·exact kgi h.2 hk
theorem kgc {d:Dl} {nx:Nat}:∀{l:THp T.den} {i:Nat} {o:Ob},chH T d nx l=true->(erH T l).get i=some o->i∈d.old∨i∈d.dd∨nx<=i
 |[],i,o,_,h=>by cases h
 |p::r,i,o,h,hk=>by
  simp only[chH,qe,qcv]at h;have hk:Hp.get ((p.1,erO T p.2)::erH T r) i=some o:=hk;simp only[Hp.get]at hk;split at hk
  ·rename_i e;rw[e];rcases h.1 with(h1|h1)|h1
   ·exact .inl (memB_in h1)
   ·grind[memB_in]
   simp_all
  ·exact kgc h.2 hk
theorem pre_app {α:Type} {a b:List α}:pre (a++b) b=a:=by unfold pre;simp_all
theorem ke1 {nx:Nat} {dd:Ln}:∀{a b:Ln},fixD nx dd a b=true->a.length=b.length/\(∀(p i j:Nat),a[p]? =some i->b[p]? =some j->(i<nx->i=j)/\(nx<=i->nx<=j∨j∈dd))
 |[],[],_=>(by grind)
 |[],_::_,h=>by cases h
 |_::_,[],h=>by cases h
 |x::a,y::b,h=>by
  simp only[fixD,qe]at h;obtain⟨g1,g2⟩:=ke1 h.2;refine⟨by simp[g1],fun p i j hi hj=> ?_⟩;cases p with
  |zero=>
   simp at hi hj;subst hi;subst hj;have h1:=h.1;by_cases e:x<nx
   ·simp_all
   ·rw[show Nat.blt x nx=false by cases hb:Nat.blt x nx with|false=>rfl|true=>exact absurd (blt_lt hb) e]at h1;simp only[qce,qcv]at h1;grind[ble_le,memB_in]
  |succ p=>grind
theorem rho_no:∀{a b:Ln} {i:Nat},i∉a->rho a b i=i
 |[],_,_,_=>rfl
 |_::_,[],_,_=>rfl
 |x::a,y::b,i,h=>by simp only[rho];rw[qm (fun e=>h (by simp[e])),rho_no (fun e=>h (by simp[e]))]
theorem sgs_get {l:Ln} {p:Nat} (h:p<l.length):l[p]? =some (sgs l p):=by simp[sgs,h]
theorem ups_mem:∀{k n i:Nat},i∈ups k n↔k<=i/\i<k+n
 |k,0,i=>by simp[ups];try omega
 |k,n+1,i=>by simp only[ups,qal,ups_mem];omega
theorem zip_has {t:Nat}:∀{ts:Ln} {vs:List (TV T.den)},ts.length=vs.length->t∈ts->hasK T (zipS T ts vs) t=true
 |[],_,_,h=>by cases h
 |u::ts,[],h,_=>by cases h
 |u::ts,v::vs,h,hm=>by
  simp only[zipS,hasK,qcv];rcases qal.1 hm with rfl|hm
  ·exact .inl (nb_self _)
  ·exact .inr (zip_has qqh hm)
theorem zip_no {t:Nat}:∀{ts:Ln} {vs:List (TV T.den)},t∉ts->hasK T (zipS T ts vs) t=false
 |[],[],_=>rfl
 |[],_::_,_=>rfl
 |_::_,[],_=>rfl
 |u::ts,v::vs,hm=>by simp only[zipS,hasK,qdr];exact⟨nb_ne fun e=>hm (by simp[e]),zip_no fun e=>hm (by simp[e])⟩
theorem kd1:∀{a l:Ln},disB a l=true->∀x∈a,x∉l
 |[],_,_,x,h=>by cases h
 |y::a,l,h,x,hx=>by
  simp only[disB,qe,qav]at h;rcases qal.1 hx with rfl|hx
  ·exact k8k h.1
  ·exact kd1 h.2 x hx
theorem hpN_hit {σ:Nat->Nat}:∀{os:List (TOb T.den)} {k p:Nat},p<os.length->Hp.get (erH T (hpN σ k os)) (σ (k+p))≠none
 |[],_,_,h=>by cases h
 |o::os,k,p,h=>by
  show Hp.get ((σ k,erO T o)::erH T (hpN σ (k+1) os)) _≠none;simp only[Hp.get];split
  ·simp
  ·rename_i hne;cases p with
   |zero=>exact(hne rfl).elim
   |succ p=>have:=hpN_hit (σ:=σ) (os:=os) (k:=k+1) (p:=p) qqh;rw[show k+1+p=k+(p+1)by omega]at this;exact this
theorem ki0 {h:THp T.den}:∀{dd:Ln} {i:Nat} {o:Ob},(erH T ((dd.map fun i=>(i,TOb.dead))++h)).get i=some o->(i∈dd/\o= .dead)∨(i∉dd/\(erH T h).get i=some o)
 |[],i,o,hg=> .inr ⟨by simp,hg⟩
 |x::dd,i,o,hg=>by
  have hg:Hp.get ((x,Ob.dead)::erH T ((dd.map fun i=>(i,TOb.dead))++h)) i=some o:=hg;simp only[Hp.get]at hg;split at hg
  ·rename_i e;injection hg with hg;exact .inl ⟨by simp[e],hg.symm⟩
  ·rename_i e;rcases ki0 hg with⟨h1,h2⟩|⟨h1,h2⟩
   ·exact .inl ⟨by simp[h1],h2⟩
   ·exact .inr ⟨by simp[e,h1],h2⟩
theorem k7f (hT:T.Ok) {Tk:Tk} {d:Dl} {s0 s:TSt T.den} {J:HL T.den d.hs->Prop} (hx:Xt s0 s) (hg:Gd s0) (hn:Tk.nx<=s0.nx) (h:d.mat T s0 s J):∃i,J i/\Lk Tk (erS T s) (erS T (d.fill T s0 i)):=by
 unfold Dl.mat at h;obtain⟨h1,h2⟩:=cnd h;simp only[qe,Dl.okB]at h1;obtain⟨⟨⟨⟨⟨⟨⟨⟨⟨⟨⟨b1,b2⟩,b3⟩,b4⟩,b6⟩,b7⟩,a1⟩,a2⟩,a3⟩,a4⟩,a5⟩,a6⟩:=h1;replace h2:=fcL_eq h2;generalize d.at T s0.nx s=ids at h2;obtain⟨h3,h4⟩:=cnd h2;simp only[qe]at h3;obtain⟨⟨c2,c3⟩,c4⟩:=h3;have c1:=k19 a1;have c2:=k19 c2;have c3:=k16 c3;obtain⟨c5,c6⟩:=ke1 c4;have a2:=k16 a2;have a3:=k16 a3;have a4:=kd1 a4;obtain⟨⟨psl,hpsl⟩,⟨ph,hph⟩,hnx⟩:=hx;rw[hpsl,pre_app]at a5;rw[hph,pre_app]at a6
 have hlen:(d.ids s0.nx).length=d.os.length:=by
  have ul:∀k n,(ups k n).length=n:=fun k n=>by induction n generalizing k with|zero=>rfl|succ n ih=>simp[ups,ih]
  have:=ble_le b3;simp only[Dl.ids,Dl.n,qj,ul];omega
 have hidm:∀i,i∈d.ids s0.nx↔i∈d.old∨(s0.nx<=i/\i<s0.nx+d.n):=fun i=>by simp only[Dl.ids,qaz,ups_mem]
 have hlt:∀j,j<d.os.length->sgs (d.ids s0.nx) j<s0.nx+d.n:=fun j hj=>by
  have:=qam (sgs_get (l:=d.ids s0.nx) (p:=j) qqo);rcases(hidm _).1 this with h|h
  ·have:=a2 _ h;omega
  ·exact h.2
 generalize hI:d.ids s0.nx=I at *
 split at h4
 ·rename_i b hb;obtain⟨y,g1,g2,g3⟩:=k6o hT b7 hb h4;obtain⟨x,k1,k2,_,k4⟩:=mtT_snd d.ss _ _ y _ b6 g1;have hf:d.f T x=tkB d.os b:=by unfold Dl.f;rw[k2,g2]
  have hrho:∀j,j<d.os.length->rho I ids (sgs I j)=sgs ids j:=fun j hj=>rho_at c1 qqo qqo;have hid1:∀j,j<d.os.length->idf j<d.os.length:=fun j h=>h
  have hsm:∀i,i<s0.nx->rho I ids i=i:=fun i hi=>by
   by_cases hm:i∈I
   ·obtain⟨p,hp⟩:=qcb hm;have hpl:=(qq.1 hp).1;have e1:sgs I p=i:=by have:=sgs_get hpl;rw[hp]at this;injection this with this;exact this.symm
    have:=hrho p qqo;rw[e1]at this;rw[this];exact((c6 p i _ hp (sgs_get qqo)).1 hi).symm
   ·exact rho_no hm
  refine⟨x,k1,fun G0 w0 N a G w hR=> ?_⟩;have efill:erS T (d.fill T s0 x)=⟨(zipS T d.ts (tkT (sgs I) (tkB d.os b) d.ss _ x).1++s0.sl).map fun p=>(p.1,er T p.2),erH T (hpN (sgs I) 0 (tkC (sgs I) (tkB d.os b) 0 d.os _ y).1++(d.dd.map fun i=>(i,TOb.dead))++s0.h),s0.nx+d.n⟩:=by unfold Dl.fill;rw[hI,hf,k2];rfl
  have hget:∀id ob,(erS T (d.fill T s0 x)).h.get id=some ob->(∃p o,(tkC (sgs I) (tkB d.os b) 0 d.os (hsB d.os) y).1[p]? =some o/\p<d.os.length/\id=sgs I p/\ob=erO T o)∨(id∈d.dd/\id∉I/\ob= .dead)∨(id∉I/\id∉d.dd/\(erS T s0).h.get id=some ob):=by
   intro id ob hgt;rw[efill]at hgt;have hgt:Hp.get (erH T (hpN (sgs I) 0 (tkC (sgs I) (tkB d.os b) 0 d.os _ y).1++(d.dd.map fun i=>(i,TOb.dead))++s0.h)) id=some ob:=hgt;rw[qas,erH_app,k29]at hgt;split at hgt
   ·rename_i o1 ho1;injection hgt with hgt;subst hgt;obtain⟨p,o,q1,q2,q3⟩:=hpN_get _ _ _ _ ho1;rw[qan]at q2;exact .inl ⟨p,o,q1,by have:=(qq.1 q1).1;rw[tkC_len]at this;exact this,q2,q3⟩
   ·rename_i hnone
    have hni:id∉I:=by
     intro hm;obtain⟨p,hp⟩:=qcb hm;have hpl:=(qq.1 hp).1;have:=hpN_hit (T:=T) (σ:=sgs I) (os:=(tkC (sgs I) (tkB d.os b) 0 d.os (hsB d.os) y).1) (k:=0) (p:=p) (by rw[tkC_len];omega);have e1:sgs I p=id:=by have:=sgs_get hpl;rw[hp]at this;injection this with this;exact this.symm
     rw[qan,e1]at this;exact this hnone
    rcases ki0 hgt with⟨q1,q2⟩|⟨q1,q2⟩
    ·exact .inr (.inl ⟨q1,hni,q2⟩)
    ·exact .inr (.inr ⟨hni,q1,q2⟩)
  have hkeep:∀id,id<s0.nx->id∉I->id∉d.dd->(erS T s).h.get id=(erS T s0).h.get id:=by
   intro id h1 h2 h3;show(erH T s.h).get id=(erH T s0.h).get id;rw[hph,erH_app,k29];split
   ·rename_i o ho;rcases kgc a6 ho with q|q|q
    ·exact(h2 ((hidm id).2 (.inl q))).elim
    ·exact(h3 q).elim
    ·omega
   ·rfl
  have hnew:∀p,p<d.os.length->s0.nx<=sgs I p->∀j,j<s0.nx->j∉d.dd->sgs ids p≠j:=by
   intro p hp h1 j hj hjd e;rcases(c6 p _ _ (sgs_get qqo) (sgs_get qqo)).2 h1 with q|q
   ·omega
   ·rw[e]at q;exact hjd q
  have hcross:∀p j,p<d.os.length->j∉I->j∉d.dd->j<s0.nx->sgs ids p≠j:=by
   intro p j hp hj1 hj2 hj3 e;by_cases hs:sgs I p<s0.nx
   ·have:=(c6 p _ _ (sgs_get qqo) (sgs_get qqo)).1 hs;rw[e]at this;exact hj1 (this▸qam (sgs_get qqo))
   ·exact hnew p hp qqo j hj3 hj2 e
  have hnx' :(erS T (d.fill T s0 x)).nx=s0.nx+d.n:=rfl;have hsnx:(erS T s).nx=s.nx:=rfl;refine hR.leRen (σ:=rho I ids) (by rw[hnx'];omega) (fun i hi=>hsm i qqo) (fun i hi=> ?_) (fun i j li lj hij=> ?_) (fun id ob hgt=> ?_) ?_
  ·rw[hnx']at hi;rw[hsnx];by_cases hs:i<s0.nx
   ·rw[hsm i hs];omega
   ·have hm:i∈I:=(hidm i).2 (.inr ⟨by omega,hi⟩);obtain⟨p,hp⟩:=qcb hm;have hpl:=(qq.1 hp).1;have e1:sgs I p=i:=by have:=sgs_get hpl;rw[hp]at this;injection this with this;exact this.symm
    rw[<-e1,hrho p qqo];exact c3 _ (qam (sgs_get qqo))
  ·obtain⟨oi,hoi,ni⟩:=live_of li;obtain⟨oj,hoj,nj⟩:=live_of lj;rcases hget i oi hoi with⟨p,_,_,q1,q2,_⟩|⟨_,_,q3⟩|⟨q1,q2,q3⟩
   ·rcases hget j oj hoj with⟨q,_,_,r1,r2,_⟩|⟨_,_,r3⟩|⟨r1,r2,r3⟩
    ·rw[q2,r2,hrho p q1,hrho q r1]at hij;have:=ka6 c2 (sgs_get (show p<ids.length by omega)) (by rw[hij];exact sgs_get (show q<ids.length by omega));rw[q2,r2,this]
    ·exact(nj r3).elim
    ·have hj:=(hg.h j oj r3).1;rw[q2,hrho p q1,hsm j hj]at hij;exact(hcross p j q1 r1 r2 hj hij).elim
   ·exact(ni q3).elim
   ·have hi:=(hg.h i oi q3).1;rcases hget j oj hoj with⟨q,_,_,r1,r2,_⟩|⟨_,_,r3⟩|⟨r1,r2,r3⟩
    ·rw[r2,hrho q r1,hsm i hi]at hij;exact(hcross q i r1 q1 q2 hi hij.symm).elim
    ·exact(nj r3).elim
    ·have hj:=(hg.h j oj r3).1;rw[hsm i hi,hsm j hj]at hij;exact hij
  ·rcases hget id ob hgt with⟨p,o,q1,q2,rfl,rfl⟩|⟨q1,q2,rfl⟩|⟨q1,q2,q3⟩
   ·refine⟨hlt p q2,?_,tkC_ok (ky _ _) hlt 0 d.os _ y b2 p o q1⟩;have hl1:p<(tkC (sgs ids) (tkB d.os b) 0 d.os (hsB d.os) y).1.length:=by rw[tkC_len];exact q2
    have hl0:p<(tkC idf (tkB d.os b) 0 d.os (hsB d.os) y).1.length:=by rw[tkC_len];exact q2
    have w1:=congrArg (fun l=>l[p]?) (tkC_ren (sgs I) (tkB d.os b) (ky d.os b) 0 d.os (hsB d.os) y);have w2:=congrArg (fun l=>l[p]?) (tkC_ren (sgs ids) (tkB d.os b) (ky d.os b) 0 d.os (hsB d.os) y);simp only[qh,q1,qba,qd hl0,qd hl1,qai]at w1 w2;have w3:=tkC_ok (ky d.os b) hid1 0 d.os (hsB d.os) y b2 p _ (qd hl0);rw[hrho p q2,w1,kfv hrho w3,<-w2];exact g3 p _ (qd hl1)
   ·refine⟨by rw[hnx'];have:=a3 _ q1;omega,?_,trivial⟩;show obLe _ Ob.dead;cases (erS T s).h.get (rho I ids id)with
    |none=>trivial
    |some o=>cases o<;>trivial
   ·obtain⟨r1,r2,r3⟩:=hg.h id ob q3;have mono:∀{m:Nat},s0.nx<=m->okO s0.nx ob->okO m ob:=fun hm ho=>klr hm ho;refine⟨by rw[hnx'];omega,?_,mono (by rw[hnx'];omega) r2⟩;rw[hsm id r1,renO_id hsm r2,hkeep id r1 q1 q2,q3];exact r3
  ·intro t
   have key:leAll ((d.ts.map (getT s.sl)).map (er T)) (((tkT (sgs I) (tkB d.os b) d.ss (hsOs d.os) x).1.map (er T)).map (ren (rho I ids))):=by
    have e1:((tkT (sgs I) (tkB d.os b) d.ss (hsOs d.os) x).1.map (er T)).map (ren (rho I ids))=(tkT (sgs ids) (tkB d.os b) d.ss (hsOs d.os) x).1.map (er T):=by
     rw[tkT_er,tkT_er];have:((tkT (sgs I) (tkB d.os b) d.ss (hsOs d.os) x).1.map (er0 T)).map (ren (rho I ids))=((tkT (sgs I) (tkB d.os b) d.ss (hsOs d.os) x).1.map (er0 T)).map (ren0 (rho I ids)):=by rw[qaa,qaa];exact qy fun v _=>ren_0 _ k1a
     rw[this,k2m (sgs I),k2m (sgs ids)];exact kat hrho (tkT_ok hid1 d.ss _ x b1)
    rw[e1];exact k4
   rw[efill];show getS ((zipS T d.ts (tkT (sgs I) (tkB d.os b) d.ss _ x).1++s0.sl).map fun p=>(p.1,er T p.2)) t= .any∨_;rw[getS_er];by_cases ht:t∈d.ts
   ·rw[kfl (zip_has (by rw[tkT_len];exact nb_eq b4) ht)];have:=slotsR (sl:=s.sl) (nx:=s0.nx+d.n) d.ts _ key (args_ok hlt d.ss _ x b1) t;rw[getS_er]at this;exact this
   ·rw[kap (zip_no ht)];by_cases hk:hasK T s0.sl t=true
    ·right
     have e:getT s.sl t=getT s0.sl t:=by
      rw[hpsl];refine kap ?_;cases hp:hasK T psl t with
      |false=>rfl
      |true=>
       rcases kgi a5 hp with q|q
       ·exact(ht q).elim
       ·rw[q]at hk;cases hk
     obtain⟨r1,r2⟩:=hg.sl t;refine⟨?_,ok_mono (qcx _ _) r1⟩;rw[ren_id hsm r1,show getS (erS T s).sl t=er T (getT s.sl t)from getS_er s.sl t,e];exact r2
    ·left;rw[kcq (by simpa using hk)];rfl
 ·exact h4.elim
theorem Xt.cons {s:TSt T.den} (a:List (Nat×TV T.den)) (b:THp T.den) (n:Nat):Xt s ⟨a++s.sl,b++s.h,s.nx+n⟩:=⟨⟨a,rfl⟩,⟨b,rfl⟩,qcx _ _⟩
theorem Xt.h1 {s:TSt T.den} (b:THp T.den) (n:Nat):Xt s ⟨s.sl,b++s.h,s.nx+n⟩:=⟨⟨[],rfl⟩,⟨b,rfl⟩,qcx _ _⟩
theorem kht {id n z:Nat} {v:TV T.den}:∀(ts:Ln) (sl:List (Nat×TV T.den)) {K K' :List (Nat×TV T.den)->Prop},(∀a,K (a++sl)->K' (a++sl))->rowsTo T id v n z ts sl K->rowsTo T id v n z ts sl K'
 |[],sl,K,K',hk,h=>hk [] h
 |t::ts,sl,K,K',hk,h=>by
  simp only[rowsTo]at h ⊢;split at h
  ·obtain⟨h1,h2,h3⟩:=cnd h;rw[h1,qdk];exact⟨h2,kht ts _ (fun a ha=>by have:=hk (a++[(t,v)]);grind) h3⟩
  grind
theorem trimV_X {h:THp T.den} {v:TV T.den} {K K' :Nat->(e:Ty)->List (e.den T.den)->Prop} (hk:∀id e l,K id e l->K' id e l) (hh:trimV T h v K):trimV T h v K' :=by
 unfold trimV at hh ⊢;split at hh<;>try exact hh.elim
 all_goals
  grind
theorem frzC_X {s:TSt T.den} {K K' :TSt T.den->Prop} (hk:∀s',Xt s s'->K s'->K' s') {id i j:Nat} (h:frzC T s K id i j):frzC T s K' id i j:=by
 unfold frzC at h ⊢;split at h
 ·split at h
  ·obtain⟨h1,h2,h3⟩:=cnd h;rw[h1,qdk];exact⟨h2,hk _ ⟨⟨[],rfl⟩,⟨[_,_,_],rfl⟩,qcg _⟩ h3⟩
  grind
 grind
theorem rtyV_X {b:Ty} {K K' :TV T.den->Prop} (hk:∀v,K v->K' v) {v:TV T.den} (h:rtyV T b K v):rtyV T b K' v:=by
 unfold rtyV at h ⊢;split at h
 ·split at h
  ·obtain⟨h1,h2,h3⟩:=cnd h;rw[h1,qdk];exact⟨h2,hk _ h3⟩
  ·exact h.elim
 ·exact h.elim
theorem gh1_X {s:TSt T.den} {K K' :TSt T.den->Prop} (hk:∀s',Xt s s'->K s'->K' s'):∀(g:Gs),gh1 T s K g->gh1 T s K' g
 | .frz id ts,h=>by
  simp only[gh1]at h ⊢;split at h
  ·exact kht ts _ (fun a=>hk _ ⟨⟨a,rfl⟩,⟨[_,_],rfl⟩,qcg _⟩) h
  grind
 | .frzc id i j,h=>frzC_X hk h
 | .frzi i j,h=>by
  simp only[gh1]at h ⊢;split at h
  ·split at h
   ·exact frzC_X hk h
   ·exact hk _ ⟨⟨[],rfl⟩,⟨[],rfl⟩,qr _⟩ h
  grind
 | .tok t e,h=>by
  simp only[gh1]at h ⊢;split at h
  ·exact hk _ ⟨⟨[_],rfl⟩,⟨[_],rfl⟩,qcg _⟩ h
  grind
 | .tokc id j e,h=>by
  simp only[gh1]at h ⊢;split at h
  ·split at h
   ·split at h
    ·exact hk _ ⟨⟨[],rfl⟩,⟨[_,_],rfl⟩,qcg _⟩ h
    grind
   grind
  grind
 | .trim t,h=>by simp only[gh1]at h ⊢;exact trimV_X (fun _ _ _=>hk _ ⟨⟨[_],rfl⟩,⟨[_,_],rfl⟩,qcg _⟩) h
 | .trimc id j,h=>by
  simp only[gh1]at h ⊢;split at h
  ·split at h
   ·refine trimV_X (fun id' e l hh=> ?_) h;revert hh;cases Nat.beq id' id with
    |true=>grind
    |false=>exact hk _ ⟨⟨[],rfl⟩,⟨[_,_,_],rfl⟩,qcg _⟩
   grind
  grind
 | .rnil t e,h=>by simp only[gh1]at h ⊢;obtain⟨h1,h2⟩:=cnd h;rw[h1,qdk];exact hk _ ⟨⟨[_],rfl⟩,⟨[_],rfl⟩,qcg _⟩ h2
 | .rnilc id j e,h=>by
  simp only[gh1]at h ⊢;split at h
  ·split at h
   ·obtain⟨h1,h2⟩:=cnd h;rw[h1,qdk];exact hk _ ⟨⟨[],rfl⟩,⟨[_,_],rfl⟩,qcg _⟩ h2
   grind
  grind
 | .rty t b,h=>by simp only[gh1]at h ⊢;exact rtyV_X (K:=fun v=>K ⟨(t,v)::s.sl,s.h,s.nx⟩) (K' :=fun v=>K' ⟨(t,v)::s.sl,s.h,s.nx⟩) (fun v hv=>hk _ ⟨⟨[_],rfl⟩,⟨[],rfl⟩,qr _⟩ hv) h
 | .rtyc id j b,h=>by
  simp only[gh1]at h ⊢;cases hi:getH s.h id with
  |none=>rw[hi]at h;exact h.elim
  |some o=>
   rw[hi]at h;cases o with
   |cells cs=>
    simp only at h ⊢;cases hj:cs[j]? with
    |none=>rw[hj]at h;exact h.elim
    |some v=>rw[hj]at h;exact rtyV_X (K:=fun v=>K ⟨s.sl,(id,.cells (cs.set j v))::s.h,s.nx⟩) (K' :=fun v=>K' ⟨s.sl,(id,.cells (cs.set j v))::s.h,s.nx⟩) (fun v hv=>hk _ ⟨⟨[],rfl⟩,⟨[_],rfl⟩,qr _⟩ hv) h
   |_=>exact h.elim
 | .frzf id i,h=>by
  simp only[gh1]at h ⊢;split at h
  ·obtain⟨h1,h⟩:=cnd h;rw[h1,qdk];split at h
   ·exact⟨h.1,hk _ ⟨⟨[],rfl⟩,⟨[_,_,_],rfl⟩,qcg _⟩ h.2⟩
   grind
  grind
theorem ghs_X:∀(gs:List Gs) {s:TSt T.den} {K K' :TSt T.den->Prop},(∀s',Xt s s'->K s'->K' s')->ghs T gs s K->ghs T gs s K'
 |[],s,_,_,hk,h=>hk s (Xt.refl s) h
 |g::gs,s,_,_,hk,h=>gh1_X (fun s1 h1 h2=>ghs_X gs (fun s' h3=>hk s' (h1.trans h3)) h2) g h
theorem fill_X {d:Dl} {s:TSt T.den} {i:HL T.den d.hs}:Xt s (d.fill T s i):=⟨⟨_,rfl⟩,⟨_,rfl⟩,qcx _ _⟩
theorem sat_ghX (hT:T.Ok) {Tk:Tk} {G0:Gh} {w0:World} {gs:List Gs} {s:TSt T.den} {K:TSt T.den->Prop} {c:Code} {Q:Exit->St->Prop} (h:ghs T gs s K) (hk:∀s',K s'->Xt s s'->Sat P Tk G0 w0 N c (erS T s') Q):Sat P Tk G0 w0 N c (erS T s) Q:=sat_ghs hT (K:=fun s' =>K s'/\Xt s s') (ghs_X gs (by grind) h) fun s' hs=>hk s' hs.1 hs.2
def QX (s:TSt T.den) (Q:Exit->TSt T.den->Prop) (e:Exit) (t:St):Prop:=KE (fun t=>Q e t/\Xt s t) t
theorem QX.of {s s' :TSt T.den} {Q:Exit->TSt T.den->Prop} {e:Exit} {t:St} (hx:Xt s s') (h:QX s' Q e t):QX s Q e t:=let⟨u,h1,h2⟩:=h;⟨u,⟨h1.1,hx.trans h1.2⟩,h2⟩
theorem QX.mk {s t:TSt T.den} {Q:Exit->TSt T.den->Prop} {e:Exit} (hx:Xt s t) (h:Q e t):QX s Q e (erS T t):=⟨t,⟨h,hx⟩,Wk.refl _⟩
theorem ni_snd (hT:T.Ok):∀(f:Nat) {t:Ty} (x:t.den T.den),Ty.ni T f t=true->NI (T.e t x)
 |0,_,_,h=>by cases h
 |f+1,t,x,h=>by
  cases t with
  |int k=>cases h
  |bool=>exact .bool _
  |str=>exact .str _
  |ji k=>exact .ji k
  |sl e=>exact .sl _ _ _ fun d hd=>by obtain⟨y,_,rfl⟩:=qad.1 hd;exact ni_snd hT f y h
  |ms e=>exact .sl _ _ _ fun d hd=>by obtain⟨y,_,rfl⟩:=qad.1 hd;exact ni_snd hT f y h
  |st n=>
   have h:(T.tys n).all (Ty.ni T f)=true:=h;have e:T.enc n x= .agg (T.eL (T.tys n) (T.cells n x)):=hT.en n x;show NI (T.enc n x);refine e▸ .agg _ ?_;clear e;have:∀y:HL T.den (T.tys n),∀d∈T.eL (T.tys n) y,NI d:= ?_
   ·exact this _
   clear x;intro y;generalize T.tys n=ts at h y;induction ts with
   |nil=>intro d hd;cases hd
   |cons t r ih=>
    rw[qcq,qe]at h;intro d hd;rcases qal.1 hd with rfl|hd
    ·exact ni_snd hT f y.1 h.1
    ·exact ih h.2 y.2 d hd
theorem sd_snd (hT:T.Ok) {t:Ty} (x:t.den T.den) (h:Ty.sd T t=true):StD (T.e t x):=by
 cases t with
 |int k=>exact .inl ⟨k,x,rfl⟩
 |_=>exact .inr (ni_snd hT 9 x h)
theorem st1_snd (hT:T.Ok) {v:TV T.den} (h:st1 T v=true):St1 (er1 T v):=by
 cases v with
 |d t x=>exact sd_snd hT x h
 |full e l=>intro d hd;obtain⟨y,_,rfl⟩:=qad.1 hd;exact ni_snd hT 9 y h
 |own tok e l=>intro d hd;obtain⟨y,_,rfl⟩:=qad.1 hd;exact ni_snd hT 9 y h
 |ro l=>intro c hc;obtain⟨y,hy,rfl⟩:=qad.1 hc;exact ni_snd hT 9 y.x (qbi.1 h y hy)
 |lit b=>exact .inr (.bool b)
 |_=>trivial
theorem st0_snd (hT:T.Ok) {v:TV T.den} (h:st0 T v=true):St0 (er0 T v):=by
 cases v with
 |agg l=>intro x hx;obtain⟨y,hy,rfl⟩:=qad.1 hx;exact st1_snd hT (qbi.1 h y hy)
 |d t x=>exact sd_snd hT x h
 |full e l=>exact st1_snd hT (v:= .full e l) h
 |own tok e l=>exact st1_snd hT (v:= .own tok e l) h
 |ro l=>exact st1_snd hT (v:= .ro l) h
 |lit b=>exact .inr (.bool b)
 |_=>trivial
theorem stv_snd (hT:T.Ok) {v:TV T.den} (h:stv T v=true):StV (er T v):=by
 cases v with
 |tup l=>intro x hx;obtain⟨y,hy,rfl⟩:=qad.1 hx;exact st0_snd hT (qbi.1 h y hy)
 |agg l=>exact st0_snd hT (v:= .agg l) h
 |d t x=>exact sd_snd hT x h
 |full e l=>exact st1_snd hT (v:= .full e l) h
 |own tok e l=>exact st1_snd hT (v:= .own tok e l) h
 |ro l=>exact st1_snd hT (v:= .ro l) h
 |lit b=>exact .inr (.bool b)
 |_=>trivial
theorem stS_snd (hT:T.Ok) {s:TSt T.den} (h:stS T s=true):Stab (erS T s):=by
 unfold stS at h;rw[qe]at h;refine⟨fun t=> ?_,fun id ob hg=> ?_⟩
 ·show StV (getS (erS T s).sl t);rw[show getS (erS T s).sl t=er T (getT s.sl t)from getS_er s.sl t];refine stv_snd hT ?_;have:=h.1;generalize s.sl=l at this;induction l with
  |nil=>rfl
  |cons p r ih=>
   rw[qcq,qe]at this;show stv T (bif Nat.beq t p.1 then p.2 else getT r t)=true;cases Nat.beq t p.1 with
   |true=>exact this.1
   |false=>exact ih this.2
 ·have hg:(erH T s.h).get id=some ob:=hg;rw[getH_er,qo]at hg;obtain⟨o,ho,rfl⟩:=hg
  have:stO T o=true:=by
   have:=h.2;generalize s.h=l at this ho;induction l with
   |nil=>cases ho
   |cons p r ih=>
    rw[qcq,qe]at this;simp only[getH]at ho;cases hb:Nat.beq id p.1 with
    |true=>rw[hb]at ho;injection ho with ho;subst ho;exact this.1
    |false=>rw[hb]at ho;exact ih this.2 ho
  cases o with
  |cells l=>intro x hx;obtain⟨y,hy,rfl⟩:=qad.1 hx;exact st1_snd hT (qbi.1 this y hy)
  |tip e l=>trivial
  |dead=>trivial
  |_=>cases this
theorem km6 (hT:T.Ok) (hC:C.Ok P T) {Tk:Tk} {G0:Gh} {w0:World} (hP:PkH Tk G0 w0) {s:TSt T.den} {o:Oper} (hb:pokeB T C s o=true) {a:Act} {G:Gh} {w:World} (hR:R Tk G0 w0 N (erS T s) a G w) {K:Act->World->Prop} {Q:Exit->Act->World->Prop}
  (hK:∀w',R Tk G0 w0 N (erS T s) a G w'->K a w'):o.guard=none/\o.wp P a w K Q:=by
 obtain⟨dst,op,ty,pos,after,guard⟩:=o;unfold pokeB at hb;split at hb
 ·rename_i t x y h1 h2 h3;simp only at h1 h2 h3;subst h1;subst h2;subst h3;refine⟨rfl,?_⟩;rw[qe,qe]at hb;obtain⟨⟨h1,h2⟩,h3⟩:=hb
  have hty:tyOf P t=some (false,1):=by
   unfold cell1 at h2;split at h2
   ·rename_i hh;exact(hC.ti.of t).ty _ hh
   ·cases h2
  have hx:=hR.ev x;have hy:=hR.ev y;rw[ev_er]at hx hy
  have main:∀k l,er T (s.ev x)= .ro (.ji k::l)->(∃n',a.eval y= .int k n')->Oper.wp P ⟨none,.store t x y,ty,pos,after,none⟩ a w K Q:=by
   rintro k l e1 ⟨n',e2⟩;rw[e1]at hx;generalize hax:a.eval x=vx at hx;cases hx with
   |ro b off _ vs hlen hone hc hr=>
    match vs,hlen with
    |u::vs,_=>
     obtain⟨q1,q2⟩:=hc 0 u rfl;have q3:=hr 0 u _ rfl rfl;cases q3 with
     |ji _ n=>
      obtain⟨w',hrun,hR'⟩:=hR.poke (P:=P) (n' :=n') hP (stS_snd hT h3) (fun t l e=>by
       rw[show getS (erS T s).sl t=er T (getT s.sl t)from getS_er s.sl t]at e;exact er_tup l e) (by simpa using q2) (by simpa using q1)
      have hsz:=(ki hty w).2;have hst:(Instr.storeAt t (.pointer (some ⟨b,off,none⟩)) (.int k n')).run P w= .ok () w' :=by simp only[Instr.storeAt,Instr.sureAddr,storeVar,qp,qt,qg,hsz];simpa[Value.cells]using hrun
      unfold Oper.wp;have:(execOp a.eval ⟨none,.store t x y,ty,pos,after,none⟩).run P w= .ok .skip w' :=by simp only[execOp,hax,e2,qp,hst,qg,qt]
      rw[this];exact hK w' hR'
  unfold pkV at h1;split at h1
  ·rename_i k _ r k' _ e1 e2;have:=qb h1;subst this;refine main k (r.map (TD.e T)) (by rw[e1];rfl) ?_;rw[e2]at hy;generalize a.eval y=v at hy;cases hy with|d _ _ hd=>cases hd with|ji _ n=>exact⟨n,rfl⟩
  ·rename_i k _ r k' n e1 e2;have:=qb h1;subst this;refine main k (r.map (TD.e T)) (by rw[e1];rfl) ?_;rw[e2]at hy;generalize a.eval y=v at hy;cases hy with|d _ _ hd=>cases hd with|int _ n=>exact⟨_,rfl⟩
  ·cases h1
 ·cases hb
theorem k9d (hT:T.Ok) (hC:C.Ok P T) {Tk:Tk} {G0:Gh} {w0:World} (hP:PkH Tk G0 w0) {ops:List Oper} {Q:Exit->Act->World->Prop}:∀(l:List Oper) (K:TSt T.den->Prop) (s0 s:TSt T.den) (a:Act) (G:Gh) (w:World),Xt s0 s->R Tk G0 w0 N (erS T s) a G w->tOpsP T C N (ops.map (·.dst)) l s K->
  (∀s' a' G' w',K s'->Xt s0 s'->R Tk G0 w0 N (erS T s') a' G' w'->Q .normal a' w')->wpList P ops.toArray Q l a w
 |[],K,s0,s,a,G,w,hx,hR,hk,hQ=>hQ _ _ _ _ hk hx hR
 |o::r,K,s0,s,a,G,w,hx,hR,hk,hQ=>by
  refine wpList_step fun K1 hK1=> ?_;simp only[tOpsP]at hk;have rest:∀s' a' G' w',tOpsP T C N (ops.map (·.dst)) r s' K->Xt s0 s'->R Tk G0 w0 N (erS T s') a' G' w'->K1 a' w' :=fun s' a' G' w' h1 hx h2=>hK1 _ _ (k9d hT hC hP r K s0 s' a' G' w' hx h2 h1 hQ);cases hb:pokeB T C s o with
  |true=>rw[hb]at hk;obtain⟨hg,h1⟩:=km6 hT hC hP hb hR (K:=K1) (Q:=Q) fun w' hR' =>rest s a G w' hk hx hR';rw[ql (by simp[Region.wanted,hg])];exact h1
  |false=>
  rw[hb]at hk;simp only at hk;obtain⟨hd,hk⟩:=cnd hk;have hdo:=dstB_ok hd;have run:∀s' :TSt T.den,Xt s0 s'->R Tk G0 w0 N (erS T s') a G w->tStep T C (rwB C.rw o.dst) s' (fun v hu nf=>tOpsP T C N (ops.map (·.dst)) r (TSt.put ⟨s'.sl,hu++s'.h,s'.nx+nf⟩ o.dst v) K) o.op->o.wp P a w K1 Q:=by intro s' hx' hR' hs;refine kgj hR' (k9h hT hC hd hs) ?_;rintro s1 a' G' w' ⟨v,hu,nf,h1,h2⟩ hR1;exact rest _ a' G' w' h1 (hx'.put _ _ _ _) (h2 _ _ _ _ _ _ _ hR1)
  have no:∀s' :TSt T.den,Xt s0 s'->R Tk G0 w0 N (erS T s') a G w->tOpsP T C N (ops.map (·.dst)) r (s'.put o.dst (.k undef)) K->K1 (a.put o.dst undef) w:=by intro s' hx' hR' hs;refine rest _ _ G w hs (hx'.put [] 0 _ _) ?_;rw[erS_put];exact hR'.put (.k _) o.dst (fun u hu=>by rw[hu]at hdo;exact hdo)
  rcases k6g hk with⟨hg,h1⟩|⟨j,b,hg,⟨h1,h2⟩|⟨t,s',h1,he,⟨htb,h2⟩|⟨htb,h2⟩⟩⟩
  ·rw[ql (by simp[Region.wanted,hg])];exact run s hx hR h1
  ·have hy:=k6p hR h1;rw[qm (by simp[Region.wanted,hg,hy])];exact no s hx hR h2
  ·have hy:=k2h hR h1;rw[ql (by simp[Region.wanted,hg,hy,htb])];exact run s' (hx.trans he.2) (he.1.wk _ _ _ _ _ _ _ hR) h2
  ·have hy:=k2h hR h1;rw[qm (by simp[Region.wanted,hg,hy,htb])];exact no s' (hx.trans he.2) (he.1.wk _ _ _ _ _ _ _ hR) h2
theorem khf (hT:T.Ok) (hC:C.Ok P T) (hm:P.follows .mixedOrders=true) {Tk:Tk} {G0:Gh} {w0:World} (hP:pkB T C=true->PkH Tk G0 w0):∀(c:Code) (an:Nt) (s:TSt T.den) (Q:Exit->TSt T.den->Prop),Tk.nx<=s.nx->WQ T C N c an s Q->Sat P Tk G0 w0 N c (erS T s) (QX s Q):=by
 intro c;induction c with
 |skip=>intro an s Q _ h;exact khm (QX.mk (Xt.refl s) (by simpa[WQ]using h))
 |region id ops dr=>
  intro an s Q _ h;obtain⟨l⟩:=ops;have h:regQ T C N ⟨l⟩ dr s (Q .normal):=by simpa[WQ]using h
  unfold regQ at h;cases hb:pkB T C&& !dr with
  |true=>
   rw[hb]at h;rw[qe]at hb;cases dr with
   |true=>cases hb.2
   |false=>intro G a w hR;exact wp_region_lit (k9d hT hC (hP hb.1) l (Q .normal) s s a G w (Xt.refl s) hR h fun s' a' G' w' hk hx hR' =>⟨erS T s',G',QX.mk hx hk,hR'⟩)
  |false=>
  rw[hb]at h;have h:regW T C N ⟨l⟩ dr s (Q .normal):=h;cases dr with
  |false=>intro G a w hR;exact wp_region_lit (k5q hT hC l (Q .normal) s s a G w (Xt.refl s) hR h fun s' a' G' w' hk hx hR' =>⟨erS T s',G',QX.mk hx hk,hR'⟩)
  |true=>unfold regW at h;obtain⟨h1,h2⟩:=cnd h;refine kde C.S hm h1 fun K hK=> ?_;have hx:Xt s ⟨s.sl,s.h,s.nx+l.length*C.S⟩:=⟨⟨[],rfl⟩,⟨[],rfl⟩,qcx _ _⟩;exact k4m (K:=KE fun t=>Q .normal t/\Xt s t) (fun a b he ⟨t,q1,q2⟩=>hK a ⟨t,q1,he.wk.trans q2⟩) (closeOps l) _ _ _ _ _ (Eqv.refl _) (k47 hT hC (s0:=s) (closeOps l) _ _ _ _ hx h2)
 |seq x y ihx ihy=>
  intro an s Q hn h
  have plain:∀(ga gb:List Gs) (a b:Nt),(ghs T ga s fun s=>WQ T C N x a s (thenT T (fun s' =>ghs T gb s' fun s' =>WQ T C N y b s' Q) Q))->Sat P Tk G0 w0 N (.seq x y) (erS T s) (QX s Q):=by
   intro ga gb a b h1;refine sat_ghX hT h1 fun s' hs' hx=>sat_seq (kr (ihx a s' _ (qbl hn hx.2.2) hs') fun e s1 hq=> ?_);obtain⟨t,⟨q1,q2⟩,q3⟩:=hq;cases e with
   |normal=>exact sat_lk q3.lk (sat_ghX hT q1 fun s2 hs2 hx2=>kr (ihy b s2 Q (qbl hn ((hx.trans q2).trans hx2).2.2) hs2) fun _ _=>QX.of ((hx.trans q2).trans hx2))
   |_=>exact⟨t,⟨q1,hx.trans q2⟩,q3⟩
  cases an with
  |jn d ga a gb b=>
   have h:ghs T ga s fun s=>∀J:Ar T.den d.hs Prop,alH d.hs (fun i=>(ghs T gb (d.fill T s i) fun s' =>WQ T C N y b s' Q)->apA d.hs J i)->WQ T C N x a s (thenT T (fun s1=>d.mat T s s1 (apA d.hs J)) Q):=by simpa only[WQ]using h
   refine sat_ghX hT h fun s' hs' hx=> ?_;have hn' :=qbl hn hx.2.2;intro G ac w hR;have hg:=gd_of hR
   have h1:=hs' (cuA d.hs fun i=>Sat P Tk G0 w0 N y (erS T (d.fill T s' i)) (QX s Q)) (alH_iff.2 fun i hi=>by
    rw[ap_cu];exact sat_ghX hT hi fun s2 hs2 hx2=>kr (ihy b s2 Q (qbl hn' (fill_X.trans hx2).2.2) hs2) fun _ _=>QX.of (hx.trans (fill_X.trans hx2)))
   refine sat_seq (kr (ihx a s' _ hn' h1) fun e s1 hq=> ?_) G ac w hR;obtain⟨t,⟨q1,q2⟩,q3⟩:=hq;cases e with
   |normal=>obtain⟨i,k1,k2⟩:=k7f hT q2 hg hn' q1;rw[ap_cu]at k1;exact sat_lk (q3.lk.trans k2) k1
   |_=>exact⟨t,⟨q1,hx.trans q2⟩,q3⟩
  |no=>simp only[WQ]at h;exact plain _ _ _ _ h
  |r n b=>simp only[WQ]at h;exact plain _ _ _ _ h
  |nd ga a gb b=>simp only[WQ]at h;exact plain _ _ _ _ h
  |lp g d a=>simp only[WQ]at h;exact plain _ _ _ _ h
  |rt g=>simp only[WQ]at h;exact plain _ _ _ _ h
 |cond c x y ihx ihy=>
  intro an s Q hn h;simp only[WQ]at h;split at h
  ·rename_i hv;exact kdd (by rw[ev_er,hv];rfl) (sat_ghX hT h fun s' hs' hx=>kr (ihx _ s' Q (qbl hn hx.2.2) hs') fun _ _=>QX.of hx)
  ·rename_i hv;exact kdy (by rw[ev_er,hv];rfl) (sat_ghX hT h fun s' hs' hx=>kr (ihy _ s' Q (qbl hn hx.2.2) hs') fun _ _=>QX.of hx)
  ·rename_i t hv;exact k6y (t:=t) (by rw[ev_er,hv];rfl) (fun ht=>sat_ghX hT (h.1 ht) fun s' hs' hx=>kr (ihx _ s' Q (qbl hn hx.2.2) hs') fun _ _=>QX.of hx) (fun ht=>sat_ghX hT (h.2 ht) fun s' hs' hx=>kr (ihy _ s' Q (qbl hn hx.2.2) hs') fun _ _=>QX.of hx)
  ·exact h.elim
 |block id x ih=>
  intro an s Q hn h;simp only[WQ]at h;refine kdp (kr (ih an s _ hn h) fun e s1 hq=> ?_);obtain⟨t,⟨q1,q2⟩,q3⟩:=hq;cases e with
  |exit id' =>
   simp only[blockT]at q1;simp only[blockA];by_cases hi:id' =id
   ·rw[ql hi];rw[hi,nb_self]at q1;exact⟨t,⟨q1,q2⟩,q3⟩
   ·rw[qm hi];rw[nb_ne hi]at q1;exact⟨t,⟨q1,q2⟩,q3⟩
  |_=>exact⟨t,⟨q1,q2⟩,q3⟩
 |loop x ih=>
  intro an s Q hn h;cases an with
  |lp g d a=>
   simp only[WQ]at h;refine sat_ghX hT h fun s' hs' hx=> ?_;have hn' :=qbl hn hx.2.2;intro G ac w hR;have hg:=gd_of hR;obtain⟨i,⟨inv,μ,k0,k1⟩,k2⟩:=k7f hT (Xt.refl s') hg hn' hs';refine kdr (fun i=>erS T (d.fill T s' i)) (apA d.hs inv) (apA d.hs μ) i k0 k2 (fun i hi=> ?_) G ac w hR;refine kr (ih _ _ _ (qbl hn' fill_X.2.2) (alH_iff.1 k1 i hi)) fun e s1 hq=> ?_;obtain⟨t,⟨q1,q2⟩,q3⟩:=hq;cases e with
   |normal=>obtain⟨i',⟨m1,m2⟩,m3⟩:=k7f hT (fill_X.trans q2) hg hn' q1;exact⟨i',m1,m2,q3.lk.trans m3⟩
   |_=>exact⟨t,⟨q1,hx.trans (fill_X.trans q2)⟩,q3⟩
  |_=>simp only[WQ]at h
 |exit id=>intro an s Q _ h;simp only[WQ]at h;exact khr (QX.mk (Xt.refl s) h)
 |ret=>intro an s Q _ h;simp only[WQ]at h;exact sat_ghX hT h fun s' hs' hx=>sat_ret (QX.mk hx hs')
 |label l=>intro an s Q _ h;simp only[WQ]at h;exact kds (QX.mk (Xt.refl s) h)
 |_=>intro an s Q _ h;simp only[WQ]at h
theorem Con.soundQ (hT:T.Ok) (hC:C.Ok P T) (hpk:pkB T C=false) (hm:P.follows .mixedOrders=true) {c:Con T.den} {fn:Func} {code:Code} (hf:P.funcs[c.f]? =some fn) (hb:fn.body=some code) (hl:Nat.ble c.ins.length fn.ntmps=true)
  {x:HL T.den (hsT c.ins (hsOs c.pre))} {o:HL T.den (hsV c.res (hsOs c.post))} {an:Nt} (hW:WQ T C fn.ntmps code an (c.st T x) (retTQ T C c fn.results.toList o)):
  SoundH P c.f ((c.args idf x).map (er T)) ((c.obs idf x).map (erO T)) (er T (c.val idf o)) ((c.ops idf o).map (erO T)):=by
 have hpl:((c.obs idf x).map (erO T)).length=c.pre.length:=by rw[qf];unfold Con.obs;rw[tkC_len]
 have hal:((c.args idf x).map (er T)).length=c.ins.length:=by rw[qf];unfold Con.args;rw[tkT_len]
 refine kgm hf hb rfl (by simp_all) fun G0 w0=> ?_;have e:erS T (c.st T x)=⟨initSl 0 ((c.args idf x).map (er T)),hpOf 0 ((c.obs idf x).map (erO T)),((c.obs idf x).map (erO T)).length⟩:=by rw[hpl];show St.mk _ _ _=_;unfold Con.st;rw[kae,hpN_idf]
 rw[<-e];refine khv (khf hT hC hm (fun h=>by rw[hpk]at h;cases h) code an _ _ (qdz hpl) hW) fun ex s1 hq=> ?_;obtain⟨t,⟨q1,_⟩,q2⟩:=hq;refine⟨erS T t,?_,q2.lk⟩;cases ex with
 |normal=>have:=k6d hT hC (s:=t) q1;rw[<-hpl]at this;exact this
 |ret=>have:=k6d hT hC (s:=t) q1;rw[<-hpl]at this;exact this
 |_=>exact q1
end
structure WPh (T:Tab) (C:Cx T) (N n0:Nat) (c:Code) (an:An T) (s:TSt T.den) (Q:Exit->TSt T.den->Prop):Prop where
 h:WP T C N n0 c an s Q
structure OblH (T:Tab) (C:Cx T) (N n0:Nat) (c:Code) (an:An T) (Q:Exit->TSt T.den->Prop):Prop where
 h:Obl T C N n0 c an Q
theorem mpr_of {A B:Prop} (e:A=B) (h:B):A:=e.mpr h
def flAll (F:Nat->Option (Nat×Bool×Nat)):Nat->List (Nat×Bool×Nat)->Prop
 |_,[]=>True
 |k,q::r=>F k=some q/\flAll F (k+1) r
theorem kct {F:Nat->Option (Nat×Bool×Nat)}:∀{l:List (Nat×Bool×Nat)} {k:Nat},flAll F k l->∀i q,l[i]? =some q->F (k+i)=some q
 |[],_,_,i,q,h=>by simp at h
 |p::r,k,ha,i,q,h=>by
  cases i with
  |zero=>simp at h;subst h;exact ha.1
  |succ i=>rw[show k+(i+1)=k+1+i by omega];exact kct ha.2 i q qqh
theorem km {P:Program} {t:TypeId} {l:List (Nat×Bool×Nat)} (h:flAll (fldOf P t) 0 l) (f:Nat) (q:Nat×Bool×Nat) (hq:l[f]? =some q):fldOf P t f=some q:=by grind[kct]
section
variable {T:Tab} {P:Program}
theorem all_cons {α:Type} {p:α->Prop} {a:α} {l:List α} (h:p a) (h' :∀c∈l,p c):∀c∈a::l,p c:=(by grind)
theorem kb {P:Program} {T:Tab}:InfoOk P T .lf:=fun _ _ h=>by cases h
theorem find_nd {P:Program} {T:Tab} {l r:BT (TI T.den)} {k:Nat} {v:TI T.den} (hv:TI.Ok P T k v) (hl:InfoOk P T l) (hr:InfoOk P T r):InfoOk P T (.nd l k v r):=fun t x h=>by
 unfold BT.find at h;cases h1:Nat.beq t k with
 |true=>simp_all
 |false=>
  rw[h1]at h;cases h2:Nat.ble t k with
  |true=>rw[h2]at h;exact hl t x h
  |false=>rw[h2]at h;exact hr t x h
end
section
variable {S:Nat->Type}
def apH:(a:List Ty)->{b:List Ty}->HL S a->HL S b->HL S (a++b)
 |[],_,_,y=>y
 |_::r,_,x,y=>(x.1,apH r x.2 y)
def spA:(a:List Ty)->{b:List Ty}->HL S (a++b)->HL S a
 |[],_,_=>()
 |_::r,_,x=>(x.1,spA r x.2)
def spB:(a:List Ty)->{b:List Ty}->HL S (a++b)->HL S b
 |[],_,x=>x
 |_::r,_,x=>spB r x.2
theorem ap_sp:∀(a:List Ty) {b:List Ty} (x:HL S (a++b)),apH a (spA a x) (spB a x)=x
 |[],_,_=>rfl
 |_::r,_,x=>congrArg (fun z=>(x.1,z)) (ap_sp r x.2)
def cst {a b:List Ty} (h:a=b) (x:HL S b):HL S a:=h▸x
theorem cst_cst {a b:List Ty} (h:a=b) (x:HL S b):cst h.symm (cst h x)=x:=by subst h;rfl
def cnj:List Prop->Prop
 |[]=>True
 |[a]=>a
 |a::b::r=>a/\cnj (b::r)
def eqs:List Prop->Prop->Prop
 |[],K=>K
 |a::l,K=>cnj (a::l)->K
def alM:Lo->(ts:List Ty)->HL S ts->(HL S ts->List Prop->Prop)->Prop
 |true::m,t::r,x,K=>∀v:t.den S,alM m r x.2 fun y l=>K (v,y) ((v=x.1)::l)
 |false::m,t::r,x,K=>alM m r x.2 fun y l=>K (x.1,y) l
 |_,_,x,K=>K x []
def alE:(ts:List Ty)->HL S ts->(HL S ts->Prop)->Prop
 |t::r,x,K=>∀v:t.den S,x.1=v->alE r x.2 fun y=>K (v,y)
 |[],x,K=>K x
theorem cnj_of:∀{l:List Prop},(∀p∈l,p)->cnj l
 |[],_=>trivial
 |[_],h=>h _ (List.mem_singleton_self _)
 |_::b::r,h=>⟨h _ (List.mem_cons_self ..),cnj_of (l:=b::r) (by grind)⟩
theorem alM_at:∀{m:Lo} {ts:List Ty} {x:HL S ts} {K:HL S ts->List Prop->Prop},alM m ts x K->∃l,K x l/\∀p∈l,p
 |[],[],_,_,h=>⟨_,h,fun _ hp=>by cases hp⟩
 |[],_::_,_,_,h=>⟨_,h,fun _ hp=>by cases hp⟩
 |true::_,[],_,_,h=>⟨_,h,fun _ hp=>by cases hp⟩
 |false::_,[],_,_,h=>⟨_,h,fun _ hp=>by cases hp⟩
 |true::m,_::r,x,_,h=>by
  obtain⟨l,h1,h2⟩:=alM_at (m:=m) (ts:=r) (h x.1);refine⟨_,h1,fun p hp=> ?_⟩;rcases qal.1 hp with rfl|hp
  ·rfl
  ·exact h2 p hp
 |false::m,_::r,_,_,h=>alM_at (m:=m) (ts:=r) h
theorem eqs_at {l:List Prop} {K:Prop} (h:eqs l K) (hl:∀p∈l,p):K:=by
 cases l with
 |nil=>exact h
 |cons a l=>exact h (cnj_of hl)
theorem alE_at:∀{ts:List Ty} {x:HL S ts} {K:HL S ts->Prop},alE ts x K->K x
 |[],_,_,h=>h
 |_::r,x,_,h=>alE_at (ts:=r) (h x.1 rfl)
end
section
variable (T:Tab)
def flT:List Ty->List Ty
 |[]=>[]
 | .st n::r=>T.tys n++flT r
 | .int k::r=> .int k::flT r
 | .bool::r=> .bool::flT r
 | .str::r=> .str::flT r
 | .sl e::r=> .sl e::flT r
 | .ji e::r=> .ji e::flT r
 | .ms e::r=> .ms e::flT r
def flH:(ts:List Ty)->HL T.den ts->HL T.den (flT T ts)
 |[],_=>()
 | .st n::r,x=>apH (T.tys n) (T.cells n x.1) (flH r x.2)
 | .int _::r,x=>(x.1,flH r x.2)
 | .bool::r,x=>(x.1,flH r x.2)
 | .str::r,x=>(x.1,flH r x.2)
 | .sl _::r,x=>(x.1,flH r x.2)
 | .ji _::r,x=>(x.1,flH r x.2)
 | .ms _::r,x=>(x.1,flH r x.2)
def unH:(ts:List Ty)->HL T.den (flT T ts)->HL T.den ts
 |[],_=>()
 | .st n::r,x=>(T.pack n (spA (T.tys n) x),unH r (spB (T.tys n) x))
 | .int _::r,x=>(x.1,unH r x.2)
 | .bool::r,x=>(x.1,unH r x.2)
 | .str::r,x=>(x.1,unH r x.2)
 | .sl _::r,x=>(x.1,unH r x.2)
 | .ji _::r,x=>(x.1,unH r x.2)
 | .ms _::r,x=>(x.1,unH r x.2)
theorem fl_un (hT:T.Ok):∀(ts:List Ty) (x:HL T.den (flT T ts)),flH T ts (unH T ts x)=x
 |[],_=>rfl
 | .st n::r,x=>by show apH (T.tys n) (T.cells n (T.pack n (spA (T.tys n) x))) (flH T r (unH T r (spB (T.tys n) x)))=x;rw[hT.pc,fl_un hT r];exact ap_sp _ _
 | .int _::r,x=>congrArg (fun z=>(x.1,z)) (fl_un hT r x.2)
 | .bool::r,x=>congrArg (fun z=>(x.1,z)) (fl_un hT r x.2)
 | .str::r,x=>congrArg (fun z=>(x.1,z)) (fl_un hT r x.2)
 | .sl _::r,x=>congrArg (fun z=>(x.1,z)) (fl_un hT r x.2)
 | .ji _::r,x=>congrArg (fun z=>(x.1,z)) (fl_un hT r x.2)
 | .ms _::r,x=>congrArg (fun z=>(x.1,z)) (fl_un hT r x.2)
end
structure Shp where
 f:Nat
 ins:List Sh0
 pre:List OSh
 res:Sh
 post:List OSh
 alt:Bool:=false
abbrev gk (f:Nat) (i:List Sh0) (h:List OSh) (r:Sh):Shp:=⟨f,i,h,r,h,false⟩
abbrev Shp.I (c:Shp):List Ty:=hsT c.ins (hsOs c.pre)
abbrev Shp.O (c:Shp):List Ty:=hsV c.res (hsOs c.post)
def Shp.c {S:Nat->Type} (c:Shp) (R:HL S c.I->(HL S c.O->Prop)->Prop):Con S:=⟨c.f,c.ins,c.pre,c.res,c.post,R,c.alt⟩
def Con.g {T:Tab} (c:Shp) (pk qk:List Ty) (m:Lo) (sp:Ar T.den pk (Prop×HL T.den qk)) (h:flT T pk=c.I:=by kernel_rfl) (h' :flT T qk=c.O:=by kernel_rfl):Con T.den:=c.c fun x K=>(apA pk sp (unH T pk (cst h x))).1/\alM m qk (apA pk sp (unH T pk (cst h x))).2 fun o l=>eqs l (K (cst h'.symm (flH T qk o)))
def Con.t {T:Tab} (c:Shp) (pk qk:List Ty) (m:Lo) (sp:Ar T.den pk (HL T.den qk)) (h:flT T pk=c.I:=by kernel_rfl) (h' :flT T qk=c.O:=by kernel_rfl):Con T.den:=c.c fun x K=>alM m qk (apA pk sp (unH T pk (cst h x))) fun o l=>eqs l (K (cst h'.symm (flH T qk o)))
def dS (T:Tab):Ty->Sh0
 | .st n=> .agg ((T.tys n).map .d)
 |t=> .one (.d t)
def dV (T:Tab):List Ty->Sh
 |[t]=> .one (dS T t)
 |l=> .tup (l.map (dS T))
def Shp.p (T:Tab) (f:Nat) (pk qk:List Ty):Shp:=⟨f,pk.map (dS T),[],dV T qk,[],false⟩
def NoGo (fn:Func):Bool:=decide (fn.name≠ "runtime.NumGoroutine")
structure Base (P:Program) (T:Tab) (I:BT (TI T.den)):Prop where
 tb:T.Ok
 ti:InfoOk P T I
 mix:P.follows .mixedOrders=true
def AllC (P:Program) (T:Tab) (l:List (Con T.den)):Prop:=∀c∈l,c.Ok P T
def AllX (P:Program) (T:Tab) (l:List (XCon T.den)):Prop:=∀c∈l,c.Ok P T
section
variable {P:Program} {T:Tab}
theorem c0:AllC P T []:=fun _ h=>by cases h
theorem x0:AllX P T []:=fun _ h=>by cases h
theorem Con.Ok.c {c:Con T.den} {l:List (Con T.den)} (h:c.Ok P T) (h' :AllC P T l):AllC P T (c::l):=all_cons h h'
theorem x1 {c:XCon T.den} {l:List (XCon T.den)} (h:c.Ok P T) (h' :AllX P T l):AllX P T (c::l):=all_cons h h'
theorem callable {f:Nat} {fn:Func} {code:Code} (hf:P.funcs[f]? =some fn) (hb:fn.body=some code) (hg:NoGo fn=true):Callable P f:=by refine⟨by grind,?_⟩;rw[hf];intro h;simp only[qba,qai]at h;exact qb hg h
def obF (C:Cx T) (fn:Func) (an:Nt) (k:Con T.den) (pk qk:List Ty) (h:flT T pk=hsT k.ins (hsOs k.pre)) (h' :flT T qk=hsV k.res (hsOs k.post)) (sp:HL T.den pk->(HL T.den qk->Prop)->Prop):Prop:=match fn.body with
 | some code=>bif NoGo fn&&Nat.ble k.ins.length fn.ntmps then
   alH pk fun y=>sp y fun o=>WQ T C fn.ntmps code an (k.st T (cst h.symm (flH T pk y))) (retTQ T C k fn.results.toList (cst h'.symm (flH T qk o)))
  else False
 |none=>False
theorem obF_ok {I:BT (TI T.den)} (B:Base P T I) {cs:List (Con T.den)} {xs:List (XCon T.den)} {rw:Ln} {fn:Func} {an:Nt} {k:Con T.den} {pk qk:List Ty} {h:flT T pk=hsT k.ins (hsOs k.pre)} {h' :flT T qk=hsV k.res (hsOs k.post)} {sp:HL T.den pk->(HL T.den qk->Prop)->Prop}
  (hf:P.funcs[k.f]? =some fn) (hcs:AllC P T cs) (hxs:AllX P T xs) (q:obF ⟨I,cs,xs,16,rw⟩ fn an k pk qk h h' sp)
  (hR:∀x K,k.R x K->∀L,sp (unH T pk (cst h x)) L->∃o,K (cst h'.symm (flH T qk o))/\L o):k.Ok P T:=by
 unfold obF at q;split at q
 ·rename_i code hb;obtain⟨q1,q2⟩:=cnd q;rw[qe]at q1;refine⟨callable hf hb q1.1,fun x K hx=> ?_⟩;obtain⟨o,h1,h2⟩:=hR x K hx _ (alH_iff.1 q2 (unH T pk (cst h x)));have e:cst h.symm (flH T pk (unH T pk (cst h x)))=x:=by rw[fl_un T B.tb];exact cst_cst h x
  rw[e]at h2;exact⟨_,h1,Con.soundQ (C:=⟨I,cs,xs,16,rw⟩) B.tb ⟨B.ti,hcs,hxs⟩ rfl B.mix hf hb q1.2 h2⟩
 grind
variable {I:BT (TI T.den)} {cs:List (Con T.den)} {xs:List (XCon T.den)} {rw:Ln} {fn:Func} {an:Nt} {c:Shp} {pk qk:List Ty} {m:Lo} {h:flT T pk=c.I} {h' :flT T qk=c.O} {Q:Prop}
theorem prx (B:Base P T I) (rw:Ln) {sp:Ar T.den pk (Prop×HL T.den qk)} (hf:P.funcs[c.f]? =some fn) (an:Nt) (hxs:AllX P T xs) (hcs:AllC P T cs)
  (q:Q) (e:obF ⟨I,cs,xs,16,rw⟩ fn an (Con.g c pk qk m sp h h') pk qk h h' (fun y L=>(apA pk sp y).1->alE qk (apA pk sp y).2 L)=Q:=by kernel_rfl):(Con.g c pk qk m sp h h').Ok P T:=
 obF_ok B hf hcs hxs (e.mpr q) fun _ _ hx _ hL=>let⟨_,h1,h2⟩:=alM_at hx.2;⟨_,eqs_at h1 h2,alE_at (hL hx.1)⟩
theorem ptx (B:Base P T I) (rw:Ln) {sp:Ar T.den pk (HL T.den qk)} (hf:P.funcs[c.f]? =some fn) (an:Nt) (hxs:AllX P T xs) (hcs:AllC P T cs)
  (q:Q) (e:obF ⟨I,cs,xs,16,rw⟩ fn an (Con.t c pk qk m sp h h') pk qk h h' (fun y L=>alE qk (apA pk sp y) L)=Q:=by kernel_rfl):(Con.t c pk qk m sp h h').Ok P T:=
 obF_ok B hf hcs hxs (e.mpr q) fun _ _ hx _ hL=>let⟨_,h1,h2⟩:=alM_at hx;⟨_,eqs_at h1 h2,alE_at hL⟩
theorem prv (B:Base P T I) {sp:Ar T.den pk (Prop×HL T.den qk)} (hf:P.funcs[c.f]? =some fn) (an:Nt) (hcs:AllC P T cs)
  (q:Q) (e:obF ⟨I,cs,[],16,[]⟩ fn an (Con.g c pk qk m sp h h') pk qk h h' (fun y L=>(apA pk sp y).1->alE qk (apA pk sp y).2 L)=Q:=by kernel_rfl):(Con.g c pk qk m sp h h').Ok P T:=prx B [] hf an x0 hcs q e
theorem ptv (B:Base P T I) {sp:Ar T.den pk (HL T.den qk)} (hf:P.funcs[c.f]? =some fn) (an:Nt) (hcs:AllC P T cs)
  (q:Q) (e:obF ⟨I,cs,[],16,[]⟩ fn an (Con.t c pk qk m sp h h') pk qk h h' (fun y L=>alE qk (apA pk sp y) L)=Q:=by kernel_rfl):(Con.t c pk qk m sp h h').Ok P T:=ptx B [] hf an x0 hcs q e
theorem cal {f:Nat} (hf:P.funcs[f]? =some fn) (h:(fn.body.isSome&&NoGo fn)=true):Callable P f:=by rw[qe,qv]at h;grind[callable]
theorem Con.Ok.at {k:Con T.den} (hk:k.Ok P T) (x:HL T.den (hsT k.ins (hsOs k.pre))) (o:HL T.den (hsV k.res (hsOs k.post))) (hx:k.R x fun o' =>o' =o):SoundH P k.f ((k.args idf x).map (er T)) ((k.obs idf x).map (erO T)) (er T (k.val idf o)) ((k.ops idf o).map (erO T)):=by obtain⟨o',rfl,h⟩:=hk.snd x _ hx;exact h
def reS (pk qk:List Ty) (sp:Ar T.den pk (Prop×HL T.den qk)) (μ:Ar T.den pk Nat) (rn:Nat):Ar T.den pk (Prop×HL T.den qk):=cuA pk fun y=>((apA pk sp y).1/\apA pk μ y<rn,(apA pk sp y).2)
theorem rec_ok {sp:Ar T.den pk (Prop×HL T.den qk)} {μ:Ar T.den pk Nat} (cl:Callable P c.f) (st:∀rn,(Con.g c pk qk m (reS pk qk sp μ rn) h h').Ok P T->(Con.g c pk qk m (reS pk qk sp μ (rn+1)) h h').Ok P T):(Con.g c pk qk m sp h h').Ok P T:=by
 have all:∀rn,(Con.g c pk qk m (reS pk qk sp μ rn) h h').Ok P T:=by
  intro rn;induction rn with
  |zero=>refine⟨cl,fun x K hx=> ?_⟩;have hx:_/\_:=hx;rw[reS,ap_cu]at hx;grind
  |succ rn ih=>grind
 refine⟨cl,fun x K hx=>(all (apA pk μ (unH T pk (cst h x))+1)).snd x K ?_⟩;show _/\_;rw[reS,ap_cu];exact⟨⟨hx.1,Nat.lt_succ_self _⟩,hx.2⟩
theorem hsL_d:∀(l r:List Ty),hsL (l.map .d) r=l++r
 |[],_=>rfl
 |t::l,r=>congrArg (t::·) (hsL_d l r)
theorem hs0_d (t:Ty) (r:List Ty):hs0 (dS T t) r=flT T [t]++r:=by
 cases t with
 |st n=>show hsL ((T.tys n).map .d) r=(T.tys n++[])++r;rw[hsL_d,qck]
 |_=>rfl
theorem km0 (t:Ty) (r:List Ty):flT T (t::r)=flT T [t]++flT T r:=by
 cases t with
 |st n=>show T.tys n++flT T r=(T.tys n++[])++flT T r;grind
 |_=>rfl
theorem hsT_d:∀(l:List Ty),flT T l=hsT (l.map (dS T)) []
 |[]=>rfl
 |t::l=>by rw[km0,hsT_d l];exact(hs0_d t _).symm
theorem hsV_d:∀(l:List Ty),flT T l=hsV (dV T l) []
 |[]=>rfl
 |[t]=>by show _=hs0 (dS T t) [];rw[hs0_d,qck]
 |t::u::l=>hsT_d (t::u::l)
def Con.gp {T:Tab} (f:Nat) (pk qk:List Ty) (m:Lo) (sp:Ar T.den pk (Prop×HL T.den qk)):Con T.den:=Con.g (.p T f pk qk) pk qk m sp (hsT_d pk) (hsV_d qk)
def Con.tp {T:Tab} (f:Nat) (pk qk:List Ty) (m:Lo) (sp:Ar T.den pk (HL T.den qk)):Con T.den:=Con.t (.p T f pk qk) pk qk m sp (hsT_d pk) (hsV_d qk)
section
variable {f:Nat}
theorem qrx (B:Base P T I) (rw:Ln) {sp:Ar T.den pk (Prop×HL T.den qk)} (hf:P.funcs[f]? =some fn) (an:Nt) (hxs:AllX P T xs) (hcs:AllC P T cs)
  (q:Q) (e:obF ⟨I,cs,xs,16,rw⟩ fn an (Con.gp f pk qk m sp) pk qk (hsT_d pk) (hsV_d qk) (fun y L=>(apA pk sp y).1->alE qk (apA pk sp y).2 L)=Q:=by kernel_rfl):(Con.gp f pk qk m sp).Ok P T:=prx (c:= .p T f pk qk) (h:=hsT_d pk) (h' :=hsV_d qk) B rw hf an hxs hcs q e
theorem qtx (B:Base P T I) (rw:Ln) {sp:Ar T.den pk (HL T.den qk)} (hf:P.funcs[f]? =some fn) (an:Nt) (hxs:AllX P T xs) (hcs:AllC P T cs)
  (q:Q) (e:obF ⟨I,cs,xs,16,rw⟩ fn an (Con.tp f pk qk m sp) pk qk (hsT_d pk) (hsV_d qk) (fun y L=>alE qk (apA pk sp y) L)=Q:=by kernel_rfl):(Con.tp f pk qk m sp).Ok P T:=ptx (c:= .p T f pk qk) (h:=hsT_d pk) (h' :=hsV_d qk) B rw hf an hxs hcs q e
theorem qrv (B:Base P T I) {sp:Ar T.den pk (Prop×HL T.den qk)} (hf:P.funcs[f]? =some fn) (an:Nt) (hcs:AllC P T cs)
  (q:Q) (e:obF ⟨I,cs,[],16,[]⟩ fn an (Con.gp f pk qk m sp) pk qk (hsT_d pk) (hsV_d qk) (fun y L=>(apA pk sp y).1->alE qk (apA pk sp y).2 L)=Q:=by kernel_rfl):(Con.gp f pk qk m sp).Ok P T:=qrx B [] hf an x0 hcs q e
theorem qtv (B:Base P T I) {sp:Ar T.den pk (HL T.den qk)} (hf:P.funcs[f]? =some fn) (an:Nt) (hcs:AllC P T cs)
  (q:Q) (e:obF ⟨I,cs,[],16,[]⟩ fn an (Con.tp f pk qk m sp) pk qk (hsT_d pk) (hsV_d qk) (fun y L=>alE qk (apA pk sp y) L)=Q:=by kernel_rfl):(Con.tp f pk qk m sp).Ok P T:=qtx B [] hf an x0 hcs q e
end
def Con.b {T:Tab} (c:Shp) (pk qk:List Ty) {B:Type} (sp:Ar T.den pk (Prop×B×(B->HL T.den qk))) (h:flT T pk=c.I:=by kernel_rfl) (h' :flT T qk=c.O:=by kernel_rfl):Con T.den:=c.c fun x K=>(apA pk sp (unH T pk (cst h x))).1/\K (cst h'.symm (flH T qk ((apA pk sp (unH T pk (cst h x))).2.2 (apA pk sp (unH T pk (cst h x))).2.1)))
def Con.bp {T:Tab} (f:Nat) (pk qk:List Ty) {B:Type} (sp:Ar T.den pk (Prop×B×(B->HL T.den qk))):Con T.den:=Con.b (.p T f pk qk) pk qk sp (hsT_d pk) (hsV_d qk)
section
variable {f:Nat} {B' :Type} {sp:Ar T.den pk (Prop×B'×(B'->HL T.den qk))}
theorem pbx (B:Base P T I) (rw:Ln) (hf:P.funcs[c.f]? =some fn) (an:Nt) (hxs:AllX P T xs) (hcs:AllC P T cs)
  (q:Q) (e:obF ⟨I,cs,xs,16,rw⟩ fn an (Con.b c pk qk sp h h') pk qk h h' (fun y L=>(apA pk sp y).1->∀R,(apA pk sp y).2.1=R->L ((apA pk sp y).2.2 R))=Q:=by kernel_rfl):(Con.b c pk qk sp h h').Ok P T:=
 obF_ok B hf hcs hxs (e.mpr q) fun _ _ hx _ hL=>⟨_,hx.2,hL hx.1 _ rfl⟩
theorem pbv (B:Base P T I) (hf:P.funcs[c.f]? =some fn) (an:Nt) (hcs:AllC P T cs)
  (q:Q) (e:obF ⟨I,cs,[],16,[]⟩ fn an (Con.b c pk qk sp h h') pk qk h h' (fun y L=>(apA pk sp y).1->∀R,(apA pk sp y).2.1=R->L ((apA pk sp y).2.2 R))=Q:=by kernel_rfl):(Con.b c pk qk sp h h').Ok P T:=pbx B [] hf an x0 hcs q e
theorem qbx (B:Base P T I) (rw:Ln) (hf:P.funcs[f]? =some fn) (an:Nt) (hxs:AllX P T xs) (hcs:AllC P T cs)
  (q:Q) (e:obF ⟨I,cs,xs,16,rw⟩ fn an (Con.bp f pk qk sp) pk qk (hsT_d pk) (hsV_d qk) (fun y L=>(apA pk sp y).1->∀R,(apA pk sp y).2.1=R->L ((apA pk sp y).2.2 R))=Q:=by kernel_rfl):(Con.bp f pk qk sp).Ok P T:=pbx (c:= .p T f pk qk) (h:=hsT_d pk) (h' :=hsV_d qk) B rw hf an hxs hcs q e
theorem qbv (B:Base P T I) (hf:P.funcs[f]? =some fn) (an:Nt) (hcs:AllC P T cs)
  (q:Q) (e:obF ⟨I,cs,[],16,[]⟩ fn an (Con.bp f pk qk sp) pk qk (hsT_d pk) (hsV_d qk) (fun y L=>(apA pk sp y).1->∀R,(apA pk sp y).2.1=R->L ((apA pk sp y).2.2 R))=Q:=by kernel_rfl):(Con.bp f pk qk sp).Ok P T:=qbx B [] hf an x0 hcs q e
end
end
end Go.Cv
namespace Go.Proofs.YtghlnaoogfcldaaGreat
open Go Go.Bv Go.Cv Go.Md Go.RowKit
open Go.IntKind (i64 u64)
structure wR where
 wW:Int
 wP:Int
 wO:Int
 wF:Li
 deriving Inhabited,DecidableEq
structure wAA where
 wAF:Bool
 wo:Int
 wv:Li
 wz:List wR
 wg:Int
 we:Int
 wAB:Int
 wh:Int
 wt:Int
 wl:Int
 ww:Li
 deriving Inhabited,DecidableEq
structure wC where
 wN:Int
 wD:Li
 wB:List wR
 wH:Int
 wG:Int
 Fee:Int
 wI:Int
 wM:Int
 wJ:Int
 wK:Li
 deriving Inhabited,DecidableEq
structure wA where
 wm:Int
 wQ:Li
 wy:List wR
 wS:Int
 wd:Int
 wU:Int
 wT:Int
 wX:Int
 wn:Int
 wq:Li
 id:Int
 weight:Int
 deriving Inhabited,DecidableEq
structure wAD where
 a0:Int
 a1:Int
 deriving Inhabited,DecidableEq
structure wY where
 P:Int
 deriving Inhabited,DecidableEq
structure wZ where
 a0:Int
 a1:Int
 a2:Int
 deriving Inhabited,DecidableEq
structure wV where
 wE:Int
 L:List wC
 deriving Inhabited,DecidableEq
structure wa where
 wW:Int
 wP:Int
 wO:Int
 wF:Bool×Li
 deriving Inhabited,DecidableEq
structure wx where
 wN:Int
 wD:Bool×Li
 wB:Bool×List wa
 wH:Int
 wG:Int
 Fee:Int
 wI:Int
 wM:Int
 wJ:Int
 wK:Bool×Li
 deriving Inhabited,DecidableEq
structure wc where
 wm:Int
 wQ:Bool×Li
 wy:Bool×List wa
 wS:Int
 wd:Int
 wU:Int
 wT:Int
 wX:Int
 wn:Int
 wq:Bool×Li
 id:Int
 weight:Int
 deriving Inhabited,DecidableEq
structure wAE where
 wW:Unit
 wP:Unit
 wO:Unit
 wF:List Unit
 deriving Inhabited,DecidableEq
structure wAC where
 wN:Unit
 wD:List Unit
 wB:List wAE
 wH:Unit
 wG:Unit
 Fee:Unit
 wI:Unit
 wM:Unit
 wJ:Unit
 wK:List Unit
 deriving Inhabited,DecidableEq
def denT:Nat->Type
 |0=>wR
 |1=>wAA
 |2=>wC
 |3=>wA
 |4=>wAD
 |5=>wY
 |6=>wZ
 |7=>wV
 |8=>wa
 |9=>wx
 |10=>wc
 |11=>wAE
 |12=>wAC
 |_=>Unit
def tysT:Nat->List Ty
 |0=>[.int .u64,.int .u64,.int .u64,.sl (.int .u64)]
 |1=>[.bool,.int .u64,.sl (.int .u64),.sl (.st 0),.int .u64,.int .u64,.int .u64,.int .u64,.int .u64,.int .i64,.sl (.int .u8)]
 |2=>[.int .u64,.sl (.int .u64),.sl (.st 0),.int .u64,.int .u64,.int .u64,.int .u64,.int .u64,.int .i64,.sl (.int .u8)]
 |3=>[.int .u64,.sl (.int .u64),.sl (.st 0),.int .u64,.int .u64,.int .u64,.int .u64,.int .u64,.int .i64,.sl (.int .u8),.int .u64,.int .i64]
 |4=>[.int .u64,.int .u64]
 |5=>[.int .u64]
 |6=>[.int .u64,.int .u64,.int .u64]
 |7=>[.int .i64,.sl (.st 2)]
 |8=>[.int .u64,.int .u64,.int .u64,.ms (.int .u64)]
 |9=>[.int .u64,.ms (.int .u64),.ms (.st 8),.int .u64,.int .u64,.int .u64,.int .u64,.int .u64,.int .i64,.ms (.int .u8)]
 |10=>[.int .u64,.ms (.int .u64),.ms (.st 8),.int .u64,.int .u64,.int .u64,.int .u64,.int .u64,.int .i64,.ms (.int .u8),.int .u64,.int .i64]
 |11=>[.ji .u64,.ji .u64,.ji .u64,.sl (.ji .u64)]
 |12=>[.ji .u64,.sl (.ji .u64),.sl (.st 11),.ji .u64,.ji .u64,.ji .u64,.ji .u64,.ji .u64,.ji .i64,.sl (.ji .u8)]
 |_=>[]
theorem TTx_eta (x:wC):wC.mk x.wN x.wD x.wB x.wH x.wG x.Fee x.wI x.wM x.wJ x.wK=x:=rfl
def encTOut (x:wR):D:= .agg [.int .u64 x.wW,.int .u64 x.wP,.int .u64 x.wO,.slice 1 (x.wF.map (D.int .u64))]
def encTOp (x:wAA):D:= .agg [.bool x.wAF,.int .u64 x.wo,.slice 1 (x.wv.map (D.int .u64)),.slice 4 (x.wz.map encTOut),.int .u64 x.wg,.int .u64 x.we,.int .u64 x.wAB,.int .u64 x.wh,.int .u64 x.wt,.int .i64 x.wl,.slice 1 (x.ww.map (D.int .u8))]
def encTTx (x:wC):D:= .agg [.int .u64 x.wN,.slice 1 (x.wD.map (D.int .u64)),.slice 4 (x.wB.map encTOut),.int .u64 x.wH,.int .u64 x.wG,.int .u64 x.Fee,.int .u64 x.wI,.int .u64 x.wM,.int .i64 x.wJ,.slice 1 (x.wK.map (D.int .u8))]
def encTentry (x:wA):D:= .agg [.int .u64 x.wm,.slice 1 (x.wQ.map (D.int .u64)),.slice 4 (x.wy.map encTOut),.int .u64 x.wS,.int .u64 x.wd,.int .u64 x.wU,.int .u64 x.wT,.int .u64 x.wX,.int .i64 x.wn,.slice 1 (x.wq.map (D.int .u8)),.int .u64 x.id,.int .i64 x.weight]
def encTA2 (x:wAD):D:= .agg [.int .u64 x.a0,.int .u64 x.a1]
def encTField (x:wY):D:= .agg [.int .u64 x.P]
def encTA3 (x:wZ):D:= .agg [.int .u64 x.a0,.int .u64 x.a1,.int .u64 x.a2]
def encTPool (x:wV):D:= .agg [.int .i64 x.wE,.slice 10 (x.L.map encTTx)]
def encTOutm (x:wa):D:= .agg [.int .u64 x.wW,.int .u64 x.wP,.int .u64 x.wO,.sl x.wF.1 1 (x.wF.2.map (D.int .u64))]
def encTTxm (x:wx):D:= .agg [.int .u64 x.wN,.sl x.wD.1 1 (x.wD.2.map (D.int .u64)),.sl x.wB.1 4 (x.wB.2.map encTOutm),.int .u64 x.wH,.int .u64 x.wG,.int .u64 x.Fee,.int .u64 x.wI,.int .u64 x.wM,.int .i64 x.wJ,.sl x.wK.1 1 (x.wK.2.map (D.int .u8))]
def encTentrym (x:wc):D:= .agg [.int .u64 x.wm,.sl x.wQ.1 1 (x.wQ.2.map (D.int .u64)),.sl x.wy.1 4 (x.wy.2.map encTOutm),.int .u64 x.wS,.int .u64 x.wd,.int .u64 x.wU,.int .u64 x.wT,.int .u64 x.wX,.int .i64 x.wn,.sl x.wq.1 1 (x.wq.2.map (D.int .u8)),.int .u64 x.id,.int .i64 x.weight]
def encTOutj (x:wAE):D:= .agg [.ji .u64,.ji .u64,.ji .u64,.slice 1 (x.wF.map (fun _=> .ji .u64))]
def encTTxj (x:wAC):D:= .agg [.ji .u64,.slice 1 (x.wD.map (fun _=> .ji .u64)),.slice 4 (x.wB.map encTOutj),.ji .u64,.ji .u64,.ji .u64,.ji .u64,.ji .u64,.ji .i64,.slice 1 (x.wK.map (fun _=> .ji .u8))]
def TB:Tab where
 den:=denT
 tys:=tysT
 inh:=fun n=>match n with
  |0=>(default:wR)
  |1=>(default:wAA)
  |2=>(default:wC)
  |3=>(default:wA)
  |4=>(default:wAD)
  |5=>(default:wY)
  |6=>(default:wZ)
  |7=>(default:wV)
  |8=>(default:wa)
  |9=>(default:wx)
  |10=>(default:wc)
  |11=>(default:wAE)
  |12=>(default:wAC)
  |_+13=>()
 cells:=fun n=>match n with
  |0=>fun(x:wR)=>(x.wW,x.wP,x.wO,x.wF,())
  |1=>fun(x:wAA)=>(x.wAF,x.wo,x.wv,x.wz,x.wg,x.we,x.wAB,x.wh,x.wt,x.wl,x.ww,())
  |2=>fun(x:wC)=>(x.wN,x.wD,x.wB,x.wH,x.wG,x.Fee,x.wI,x.wM,x.wJ,x.wK,())
  |3=>fun(x:wA)=>(x.wm,x.wQ,x.wy,x.wS,x.wd,x.wU,x.wT,x.wX,x.wn,x.wq,x.id,x.weight,())
  |4=>fun(x:wAD)=>(x.a0,x.a1,())
  |5=>fun(x:wY)=>(x.P,())
  |6=>fun(x:wZ)=>(x.a0,x.a1,x.a2,())
  |7=>fun(x:wV)=>(x.wE,x.L,())
  |8=>fun(x:wa)=>(x.wW,x.wP,x.wO,x.wF,())
  |9=>fun(x:wx)=>(x.wN,x.wD,x.wB,x.wH,x.wG,x.Fee,x.wI,x.wM,x.wJ,x.wK,())
  |10=>fun(x:wc)=>(x.wm,x.wQ,x.wy,x.wS,x.wd,x.wU,x.wT,x.wX,x.wn,x.wq,x.id,x.weight,())
  |11=>fun(x:wAE)=>(x.wW,x.wP,x.wO,x.wF,())
  |12=>fun(x:wAC)=>(x.wN,x.wD,x.wB,x.wH,x.wG,x.Fee,x.wI,x.wM,x.wJ,x.wK,())
  |_+13=>fun _=>()
 pack:=fun n=>match n with
  |0=>fun(q0,q1,q2,q3,())=>wR.mk q0 q1 q2 q3
  |1=>fun(q0,q1,q2,q3,q4,q5,q6,q7,q8,q9,q10,())=>wAA.mk q0 q1 q2 q3 q4 q5 q6 q7 q8 q9 q10
  |2=>fun(q0,q1,q2,q3,q4,q5,q6,q7,q8,q9,())=>wC.mk q0 q1 q2 q3 q4 q5 q6 q7 q8 q9
  |3=>fun(q0,q1,q2,q3,q4,q5,q6,q7,q8,q9,q10,q11,())=>wA.mk q0 q1 q2 q3 q4 q5 q6 q7 q8 q9 q10 q11
  |4=>fun(q0,q1,())=>wAD.mk q0 q1
  |5=>fun(q0,())=>wY.mk q0
  |6=>fun(q0,q1,q2,())=>wZ.mk q0 q1 q2
  |7=>fun(q0,q1,())=>wV.mk q0 q1
  |8=>fun(q0,q1,q2,q3,())=>wa.mk q0 q1 q2 q3
  |9=>fun(q0,q1,q2,q3,q4,q5,q6,q7,q8,q9,())=>wx.mk q0 q1 q2 q3 q4 q5 q6 q7 q8 q9
  |10=>fun(q0,q1,q2,q3,q4,q5,q6,q7,q8,q9,q10,q11,())=>wc.mk q0 q1 q2 q3 q4 q5 q6 q7 q8 q9 q10 q11
  |11=>fun(q0,q1,q2,q3,())=>wAE.mk q0 q1 q2 q3
  |12=>fun(q0,q1,q2,q3,q4,q5,q6,q7,q8,q9,())=>wAC.mk q0 q1 q2 q3 q4 q5 q6 q7 q8 q9
  |_+13=>fun _=>()
 enc:=fun n=>match n with
  |0=>encTOut
  |1=>encTOp
  |2=>encTTx
  |3=>encTentry
  |4=>encTA2
  |5=>encTField
  |6=>encTA3
  |7=>encTPool
  |8=>encTOutm
  |9=>encTTxm
  |10=>encTentrym
  |11=>encTOutj
  |12=>encTTxj
  |_+13=>fun _=> .agg []
abbrev Ct:=Con TB.den
abbrev _root_.Go.Cv.Con.O (k:Ct):Prop:=k.Ok Tryz.prog TB
theorem TBok:TB.Ok where
 one:=fun n=>match n with
  |0=>rfl
  |1=>rfl
  |2=>rfl
  |3=>rfl
  |4=>rfl
  |5=>rfl
  |6=>rfl
  |7=>rfl
  |8=>rfl
  |9=>rfl
  |10=>rfl
  |11=>rfl
  |12=>rfl
  |_+13=>rfl
 pc:=fun n x=>match n with
  |0=>rfl
  |1=>rfl
  |2=>rfl
  |3=>rfl
  |4=>rfl
  |5=>rfl
  |6=>rfl
  |7=>rfl
  |8=>rfl
  |9=>rfl
  |10=>rfl
  |11=>rfl
  |12=>rfl
  |_+13=>rfl
 en:=fun n x=>match n with
  |0=>rfl
  |1=>rfl
  |2=>rfl
  |3=>rfl
  |4=>rfl
  |5=>rfl
  |6=>rfl
  |7=>rfl
  |8=>rfl
  |9=>rfl
  |10=>rfl
  |11=>rfl
  |12=>rfl
  |_+13=>rfl
def ti3:TI TB.den:={ty:=some (false,1),ze:=some [.d (.int .i64) (0:Int)],un:=some (.int .i64)}
theorem ti3_ok:TI.Ok Tryz.prog TB 3 ti3:={  }
def ti4:TI TB.den:={ty:=some (false,1),ze:=some [.d (.bool) (false:Bool)],un:=some (.bool)}
theorem ti4_ok:TI.Ok Tryz.prog TB 4 ti4:={  }
def ti5:TI TB.den:={ty:=some (false,1),ze:=some [.d (.int .u8) (0:Int)],un:=some (.int .u8)}
theorem ti5_ok:TI.Ok Tryz.prog TB 5 ti5:={  }
def ti9:TI TB.den:={ty:=some (false,1),ze:=some [.d (.str) (ByteArray.empty:ByteArray)],un:=some (.string)}
theorem ti9_ok:TI.Ok Tryz.prog TB 9 ti9:={  }
def ti22:TI TB.den:={ty:=some (false,1),el:=some (.st 1,136),ez:=true,ze:=some [.full (.st 1) []],un:=some (.slice 54)}
theorem ti22_ok:TI.Ok Tryz.prog TB 22 ti22:={ez:=fun _ _ _ h=>by cases h;exact⟨[.d (.bool false),.d (.int .u64 0),.full 1 [],.full 4 [],.d (.int .u64 0),.d (.int .u64 0),.d (.int .u64 0),.d (.int .u64 0),.d (.int .u64 0),.d (.int .i64 0),.full 1 []],by kernel_rfl,⟨⟨ka _,rfl⟩,⟨ka _,rfl⟩,⟨⟨rfl,rfl⟩,rfl⟩,⟨⟨rfl,rfl⟩,rfl⟩,⟨ka _,rfl⟩,⟨ka _,rfl⟩,⟨ka _,rfl⟩,⟨ka _,rfl⟩,⟨ka _,rfl⟩,⟨ka _,rfl⟩,⟨⟨rfl,rfl⟩,rfl⟩,trivial⟩⟩}
def ti23:TI TB.den:={ty:=some (false,1),ze:=some [.d (.int .u64) (0:Int)],un:=some (.int .u64)}
theorem ti23_ok:TI.Ok Tryz.prog TB 23 ti23:={  }
def ti24:TI TB.den:={ty:=some (false,1),el:=some (.int .u64,8),ez:=true,ze:=some [.full (.int .u64) []],un:=some (.slice 23)}
theorem ti24_ok:TI.Ok Tryz.prog TB 24 ti24:={ez:=fun _ _ _ h=>by cases h;exact⟨[.d (.int .u64 0)],by kernel_rfl,⟨⟨ka _,rfl⟩,trivial⟩⟩}
def ti25:TI TB.den:={ty:=some (false,1),el:=some (.st 0,48),ez:=true,ze:=some [.full (.st 0) []],un:=some (.slice 46)}
theorem ti25_ok:TI.Ok Tryz.prog TB 25 ti25:={ez:=fun _ _ _ h=>by cases h;exact⟨[.d (.int .u64 0),.d (.int .u64 0),.d (.int .u64 0),.full 1 []],by kernel_rfl,⟨⟨ka _,rfl⟩,⟨ka _,rfl⟩,⟨ka _,rfl⟩,⟨⟨rfl,rfl⟩,rfl⟩,trivial⟩⟩}
def ti26:TI TB.den:={ty:=some (false,1),el:=some (.int .u8,1),ez:=true,ze:=some [.full (.int .u8) []],un:=some (.slice 5)}
theorem ti26_ok:TI.Ok Tryz.prog TB 26 ti26:={ez:=fun _ _ _ h=>by cases h;exact⟨[.d (.int .u8 0)],by kernel_rfl,⟨⟨ka _,rfl⟩,trivial⟩⟩}
def ti28:TI TB.den:={ty:=some (true,10),fl:=[(0,false,1),(1,false,1),(2,false,1),(3,false,1),(4,false,1),(5,false,1),(6,false,1),(7,false,1),(8,false,1),(9,false,1)],ze:=some [.d (.int .u64) (0:Int),.full (.int .u64) [],.full (.st 0) [],.d (.int .u64) (0:Int),.d (.int .u64) (0:Int),.d (.int .u64) (0:Int),.d (.int .u64) (0:Int),.d (.int .u64) (0:Int),.d (.int .i64) (0:Int),.full (.int .u8) []],pl:=[(0,1),(1,1),(2,1),(3,1),(4,1),(5,1),(6,1),(7,1),(8,1),(9,1)]}
theorem ti28_ok:TI.Ok Tryz.prog TB 28 ti28:={fl:=km ⟨by kernel_rfl,by kernel_rfl,by kernel_rfl,by kernel_rfl,by kernel_rfl,by kernel_rfl,by kernel_rfl,by kernel_rfl,by kernel_rfl,by kernel_rfl,trivial⟩}
def ti31:TI TB.den:={ty:=some (false,1),ze:=some [.k KC.nilPtr.v],un:=some (.pointer 74)}
theorem ti31_ok:TI.Ok Tryz.prog TB 31 ti31:={  }
def ti32:TI TB.den:={ty:=some (false,1),el:=some (.st 2,128),ez:=true,ze:=some [.full (.st 2) []],un:=some (.slice 28)}
theorem ti32_ok:TI.Ok Tryz.prog TB 32 ti32:={ez:=fun _ _ _ h=>by cases h;exact⟨[.d (.int .u64 0),.full 1 [],.full 4 [],.d (.int .u64 0),.d (.int .u64 0),.d (.int .u64 0),.d (.int .u64 0),.d (.int .u64 0),.d (.int .i64 0),.full 1 []],by kernel_rfl,⟨⟨ka _,rfl⟩,⟨⟨rfl,rfl⟩,rfl⟩,⟨⟨rfl,rfl⟩,rfl⟩,⟨ka _,rfl⟩,⟨ka _,rfl⟩,⟨ka _,rfl⟩,⟨ka _,rfl⟩,⟨ka _,rfl⟩,⟨ka _,rfl⟩,⟨⟨rfl,rfl⟩,rfl⟩,trivial⟩⟩}
def ti34:TI TB.den:={ty:=some (true,2),fl:=[(0,false,1),(1,false,1)],ze:=some [.d (.int .i64) (0:Int),.full (.st 2) []],pl:=[(0,1),(1,1)]}
theorem ti34_ok:TI.Ok Tryz.prog TB 34 ti34:={fl:=km ⟨by kernel_rfl,by kernel_rfl,trivial⟩}
def ti44:TI TB.den:={ty:=some (true,2),ar:=some (2,false,1),ze:=some [.d (.int .u64) (0:Int),.d (.int .u64) (0:Int)],pl:=[(0,1),(1,1)],un:=some (.array 2 23),eq:=some [.int .u64,.int .u64]}
theorem ti44_ok:TI.Ok Tryz.prog TB 44 ti44:={  }
def ti46:TI TB.den:={ty:=some (true,4),fl:=[(0,false,1),(1,true,2),(3,false,1)],ze:=some [.d (.int .u64) (0:Int),.d (.int .u64) (0:Int),.d (.int .u64) (0:Int),.full (.int .u64) []],pl:=[(0,1),(1,2),(3,1)]}
theorem ti46_ok:TI.Ok Tryz.prog TB 46 ti46:={fl:=km ⟨by kernel_rfl,by kernel_rfl,by kernel_rfl,trivial⟩}
def ti54:TI TB.den:={ty:=some (true,11),fl:=[(0,false,1),(1,true,10)],ze:=some [.d (.bool) (false:Bool),.d (.int .u64) (0:Int),.full (.int .u64) [],.full (.st 0) [],.d (.int .u64) (0:Int),.d (.int .u64) (0:Int),.d (.int .u64) (0:Int),.d (.int .u64) (0:Int),.d (.int .u64) (0:Int),.d (.int .i64) (0:Int),.full (.int .u8) []],pl:=[(0,1),(1,10)]}
theorem ti54_ok:TI.Ok Tryz.prog TB 54 ti54:={fl:=km ⟨by kernel_rfl,by kernel_rfl,trivial⟩}
def ti68:TI TB.den:={ty:=some (true,12),fl:=[(0,true,10),(10,false,1),(11,false,1)],ze:=some [.d (.int .u64) (0:Int),.full (.int .u64) [],.full (.st 0) [],.d (.int .u64) (0:Int),.d (.int .u64) (0:Int),.d (.int .u64) (0:Int),.d (.int .u64) (0:Int),.d (.int .u64) (0:Int),.d (.int .i64) (0:Int),.full (.int .u8) [],.d (.int .u64) (0:Int),.d (.int .i64) (0:Int)],pl:=[(0,10),(10,1),(11,1)]}
theorem ti68_ok:TI.Ok Tryz.prog TB 68 ti68:={fl:=km ⟨by kernel_rfl,by kernel_rfl,by kernel_rfl,trivial⟩}
def ti72:TI TB.den:={ty:=some (false,1),el:=some (.st 3,144),ez:=true,ze:=some [.full (.st 3) []],un:=some (.slice 68)}
theorem ti72_ok:TI.Ok Tryz.prog TB 72 ti72:={ez:=fun _ _ _ h=>by cases h;exact⟨[.d (.int .u64 0),.full 1 [],.full 4 [],.d (.int .u64 0),.d (.int .u64 0),.d (.int .u64 0),.d (.int .u64 0),.d (.int .u64 0),.d (.int .i64 0),.full 1 [],.d (.int .u64 0),.d (.int .i64 0)],by kernel_rfl,⟨⟨ka _,rfl⟩,⟨⟨rfl,rfl⟩,rfl⟩,⟨⟨rfl,rfl⟩,rfl⟩,⟨ka _,rfl⟩,⟨ka _,rfl⟩,⟨ka _,rfl⟩,⟨ka _,rfl⟩,⟨ka _,rfl⟩,⟨ka _,rfl⟩,⟨⟨rfl,rfl⟩,rfl⟩,⟨ka _,rfl⟩,⟨ka _,rfl⟩,trivial⟩⟩}
def ti74:TI TB.den:={ty:=some (true,2),fl:=[(0,false,1),(1,false,1)],ze:=some [.d (.int .i64) (0:Int),.full (.st 3) []],pl:=[(0,1),(1,1)]}
theorem ti74_ok:TI.Ok Tryz.prog TB 74 ti74:={fl:=km ⟨by kernel_rfl,by kernel_rfl,trivial⟩}
def ti91:TI TB.den:={ty:=some (false,1),ze:=some [.d (.int .u64) (0:Int)],un:=some (.int .u64)}
theorem ti91_ok:TI.Ok Tryz.prog TB 91 ti91:={  }
def ti116:TI TB.den:={ty:=some (true,3),ar:=some (3,false,1),ze:=some [.d (.int .u64) (0:Int),.d (.int .u64) (0:Int),.d (.int .u64) (0:Int)],pl:=[(0,1),(1,1),(2,1)],un:=some (.array 3 23),eq:=some [.int .u64,.int .u64,.int .u64]}
theorem kn3:TI.Ok Tryz.prog TB 116 ti116:={  }
def ti120:TI TB.den:={ty:=some (false,1),ze:=some [.d (.int .u64) (0:Int)],un:=some (.int .u64)}
theorem kme:TI.Ok Tryz.prog TB 120 ti120:={  }
def ti134:TI TB.den:={ty:=some (true,1),fl:=[(0,false,1)],ze:=some [.d (.int .u64) (0:Int)],pl:=[(0,1)],eq:=some [.int .u64]}
theorem kml:TI.Ok Tryz.prog TB 134 ti134:={fl:=km ⟨by kernel_rfl,trivial⟩}
def inf:BT (TI TB.den):=(.nd (.nd (.nd (.nd (.nd .lf 3 ti3 .lf) 4 ti4 .lf) 5 ti5 (.nd (.nd .lf 9 ti9 .lf) 22 ti22 .lf)) 23 ti23 (.nd (.nd (.nd .lf 24 ti24 .lf) 25 ti25 .lf) 26 ti26 (.nd (.nd .lf 28 ti28 .lf) 31 ti31 .lf))) 32 ti32 (.nd (.nd (.nd (.nd .lf 34 ti34 .lf) 44 ti44 .lf) 46 ti46 (.nd (.nd .lf 54 ti54 .lf) 68 ti68 .lf)) 72 ti72 (.nd (.nd (.nd .lf 74 ti74 .lf) 91 ti91 .lf) 116 ti116 (.nd (.nd .lf 120 ti120 .lf) 134 ti134 .lf))))
theorem inf_ok:InfoOk Tryz.prog TB inf:=(find_nd ti32_ok (find_nd ti23_ok (find_nd ti5_ok (find_nd ti4_ok (find_nd ti3_ok kb kb) kb) (find_nd ti22_ok (find_nd ti9_ok kb kb) kb)) (find_nd ti26_ok (find_nd ti25_ok (find_nd ti24_ok kb kb) kb) (find_nd ti31_ok (find_nd ti28_ok kb kb) kb))) (find_nd ti72_ok (find_nd ti46_ok (find_nd ti44_ok (find_nd ti34_ok kb kb) kb) (find_nd ti68_ok (find_nd ti54_ok kb kb) kb)) (find_nd kn3 (find_nd ti91_ok (find_nd ti74_ok kb kb) kb) (find_nd kml (find_nd kme kb kb) kb))))
def ti3_0:TI TB.den:={ty:=some (false,1),ze:=some [.d (.int .i64) (0:Int)],un:=some (.int .i64)}
theorem kn0:TI.Ok Tryz.prog TB 3 ti3_0:={  }
def ti23_0:TI TB.den:={ty:=some (false,1),ze:=some [.d (.int .u64) (0:Int)],un:=some (.int .u64)}
theorem kks:TI.Ok Tryz.prog TB 23 ti23_0:={  }
def ti24_0:TI TB.den:={ty:=some (false,1),el:=some (.int .u64,8),ez:=true,ze:=some [.full (.int .u64) []],un:=some (.slice 23)}
theorem kkz:TI.Ok Tryz.prog TB 24 ti24_0:={ez:=fun _ _ _ h=>by cases h;exact⟨[.d (.int .u64 0)],by kernel_rfl,⟨⟨ka _,rfl⟩,trivial⟩⟩}
def ti25_0:TI TB.den:={ty:=some (false,1),el:=some (.st 8,48),ez:=true,ze:=some [.full (.st 8) []],un:=some (.slice 46)}
theorem kkw:TI.Ok Tryz.prog TB 25 ti25_0:={ez:=fun _ _ _ h=>by cases h;exact⟨[.d (.int .u64 0),.d (.int .u64 0),.d (.int .u64 0),.full 1 []],by kernel_rfl,⟨⟨ka _,rfl⟩,⟨ka _,rfl⟩,⟨ka _,rfl⟩,⟨⟨rfl,rfl⟩,rfl⟩,trivial⟩⟩}
def ti26_0:TI TB.den:={ty:=some (false,1),el:=some (.int .u8,1),ez:=true,ze:=some [.full (.int .u8) []],un:=some (.slice 5)}
theorem kll:TI.Ok Tryz.prog TB 26 ti26_0:={ez:=fun _ _ _ h=>by cases h;exact⟨[.d (.int .u8 0)],by kernel_rfl,⟨⟨ka _,rfl⟩,trivial⟩⟩}
def ti28_0:TI TB.den:={ty:=some (true,10),fl:=[(0,false,1),(1,false,1),(2,false,1),(3,false,1),(4,false,1),(5,false,1),(6,false,1),(7,false,1),(8,false,1),(9,false,1)],ze:=some [.d (.int .u64) (0:Int),.full (.int .u64) [],.full (.st 8) [],.d (.int .u64) (0:Int),.d (.int .u64) (0:Int),.d (.int .u64) (0:Int),.d (.int .u64) (0:Int),.d (.int .u64) (0:Int),.d (.int .i64) (0:Int),.full (.int .u8) []],pl:=[(0,1),(1,1),(2,1),(3,1),(4,1),(5,1),(6,1),(7,1),(8,1),(9,1)]}
theorem kku:TI.Ok Tryz.prog TB 28 ti28_0:={fl:=km ⟨by kernel_rfl,by kernel_rfl,by kernel_rfl,by kernel_rfl,by kernel_rfl,by kernel_rfl,by kernel_rfl,by kernel_rfl,by kernel_rfl,by kernel_rfl,trivial⟩}
def ti46_0:TI TB.den:={ty:=some (true,4),fl:=[(0,false,1),(1,true,2),(3,false,1)],ze:=some [.d (.int .u64) (0:Int),.d (.int .u64) (0:Int),.d (.int .u64) (0:Int),.full (.int .u64) []],pl:=[(0,1),(1,2),(3,1)]}
theorem klc:TI.Ok Tryz.prog TB 46 ti46_0:={fl:=km ⟨by kernel_rfl,by kernel_rfl,by kernel_rfl,trivial⟩}
def ti68_0:TI TB.den:={ty:=some (true,12),fl:=[(0,true,10),(10,false,1),(11,false,1)],ze:=some [.d (.int .u64) (0:Int),.full (.int .u64) [],.full (.st 8) [],.d (.int .u64) (0:Int),.d (.int .u64) (0:Int),.d (.int .u64) (0:Int),.d (.int .u64) (0:Int),.d (.int .u64) (0:Int),.d (.int .i64) (0:Int),.full (.int .u8) [],.d (.int .u64) (0:Int),.d (.int .i64) (0:Int)],pl:=[(0,10),(10,1),(11,1)]}
theorem kkg:TI.Ok Tryz.prog TB 68 ti68_0:={fl:=km ⟨by kernel_rfl,by kernel_rfl,by kernel_rfl,trivial⟩}
def ti72_0:TI TB.den:={ty:=some (false,1),el:=some (.st 3,144),ez:=true,ze:=some [.full (.st 3) []],un:=some (.slice 68)}
theorem kl6:TI.Ok Tryz.prog TB 72 ti72_0:={ez:=fun _ _ _ h=>by cases h;exact⟨[.d (.int .u64 0),.full 1 [],.full 4 [],.d (.int .u64 0),.d (.int .u64 0),.d (.int .u64 0),.d (.int .u64 0),.d (.int .u64 0),.d (.int .i64 0),.full 1 [],.d (.int .u64 0),.d (.int .i64 0)],by kernel_rfl,⟨⟨ka _,rfl⟩,⟨⟨rfl,rfl⟩,rfl⟩,⟨⟨rfl,rfl⟩,rfl⟩,⟨ka _,rfl⟩,⟨ka _,rfl⟩,⟨ka _,rfl⟩,⟨ka _,rfl⟩,⟨ka _,rfl⟩,⟨ka _,rfl⟩,⟨⟨rfl,rfl⟩,rfl⟩,⟨ka _,rfl⟩,⟨ka _,rfl⟩,trivial⟩⟩}
def ti74_0:TI TB.den:={ty:=some (true,2),fl:=[(0,false,1),(1,false,1)],ze:=some [.d (.int .i64) (0:Int),.full (.st 3) []],pl:=[(0,1),(1,1)]}
theorem kkt:TI.Ok Tryz.prog TB 74 ti74_0:={fl:=km ⟨by kernel_rfl,by kernel_rfl,trivial⟩}
def inf_0:BT (TI TB.den):=(.nd (.nd (.nd (.nd .lf 3 ti3_0 .lf) 23 ti23_0 .lf) 24 ti24_0 (.nd (.nd .lf 25 ti25_0 .lf) 26 ti26_0 .lf)) 28 ti28_0 (.nd (.nd (.nd .lf 46 ti46_0 .lf) 68 ti68_0 .lf) 72 ti72_0 (.nd .lf 74 ti74_0 .lf)))
theorem kmo:InfoOk Tryz.prog TB inf_0:=(find_nd kku (find_nd kkz (find_nd kks (find_nd kn0 kb kb) kb) (find_nd kll (find_nd kkw kb kb) kb)) (find_nd kl6 (find_nd kkg (find_nd klc kb kb) kb) (find_nd kkt kb kb)))
def kgx:TI TB.den:={ty:=some (true,10),fl:=[(0,false,1),(1,false,1),(2,false,1),(3,false,1),(4,false,1),(5,false,1),(6,false,1),(7,false,1),(8,false,1),(9,false,1)],ze:=some [.d (.int .u64) (0:Int),.full (.int .u64) [],.full (.st 8) [],.d (.int .u64) (0:Int),.d (.int .u64) (0:Int),.d (.int .u64) (0:Int),.d (.int .u64) (0:Int),.d (.int .u64) (0:Int),.d (.int .i64) (0:Int),.full (.int .u8) []],pl:=[(0,1),(1,1),(2,1),(3,1),(4,1),(5,1),(6,1),(7,1),(8,1),(9,1)]}
theorem kix:TI.Ok Tryz.prog TB 28 kgx:={fl:=km ⟨by kernel_rfl,by kernel_rfl,by kernel_rfl,by kernel_rfl,by kernel_rfl,by kernel_rfl,by kernel_rfl,by kernel_rfl,by kernel_rfl,by kernel_rfl,trivial⟩}
def khp:TI TB.den:={ty:=some (false,1),el:=some (.st 2,128),ez:=true,ze:=some [.full (.st 2) []],un:=some (.slice 28)}
theorem kid:TI.Ok Tryz.prog TB 32 khp:={ez:=fun _ _ _ h=>by cases h;exact⟨[.d (.int .u64 0),.full 1 [],.full 4 [],.d (.int .u64 0),.d (.int .u64 0),.d (.int .u64 0),.d (.int .u64 0),.d (.int .u64 0),.d (.int .i64 0),.full 1 []],by kernel_rfl,⟨⟨ka _,rfl⟩,⟨⟨rfl,rfl⟩,rfl⟩,⟨⟨rfl,rfl⟩,rfl⟩,⟨ka _,rfl⟩,⟨ka _,rfl⟩,⟨ka _,rfl⟩,⟨ka _,rfl⟩,⟨ka _,rfl⟩,⟨ka _,rfl⟩,⟨⟨rfl,rfl⟩,rfl⟩,trivial⟩⟩}
def kge:TI TB.den:={ty:=some (true,12),fl:=[(0,true,10),(10,false,1),(11,false,1)],ze:=some [.d (.int .u64) (0:Int),.full (.int .u64) [],.full (.st 8) [],.d (.int .u64) (0:Int),.d (.int .u64) (0:Int),.d (.int .u64) (0:Int),.d (.int .u64) (0:Int),.d (.int .u64) (0:Int),.d (.int .i64) (0:Int),.full (.int .u8) [],.d (.int .u64) (0:Int),.d (.int .i64) (0:Int)],pl:=[(0,10),(10,1),(11,1)]}
theorem kig:TI.Ok Tryz.prog TB 68 kge:={fl:=km ⟨by kernel_rfl,by kernel_rfl,by kernel_rfl,trivial⟩}
def kg8:TI TB.den:={ty:=some (false,1),el:=some (.st 10,144),ez:=true,ze:=some [.full (.st 10) []],un:=some (.slice 68)}
theorem kir:TI.Ok Tryz.prog TB 72 kg8:={ez:=fun _ _ _ h=>by cases h;exact⟨[.d (.int .u64 0),.full 1 [],.full 4 [],.d (.int .u64 0),.d (.int .u64 0),.d (.int .u64 0),.d (.int .u64 0),.d (.int .u64 0),.d (.int .i64 0),.full 1 [],.d (.int .u64 0),.d (.int .i64 0)],by kernel_rfl,⟨⟨ka _,rfl⟩,⟨⟨rfl,rfl⟩,rfl⟩,⟨⟨rfl,rfl⟩,rfl⟩,⟨ka _,rfl⟩,⟨ka _,rfl⟩,⟨ka _,rfl⟩,⟨ka _,rfl⟩,⟨ka _,rfl⟩,⟨ka _,rfl⟩,⟨⟨rfl,rfl⟩,rfl⟩,⟨ka _,rfl⟩,⟨ka _,rfl⟩,trivial⟩⟩}
def kh8:TI TB.den:={ty:=some (true,2),fl:=[(0,false,1),(1,false,1)],ze:=some [.d (.int .i64) (0:Int),.full (.st 10) []],pl:=[(0,1),(1,1)]}
theorem kim:TI.Ok Tryz.prog TB 74 kh8:={fl:=km ⟨by kernel_rfl,by kernel_rfl,trivial⟩}
def inf_0_3:BT (TI TB.den):=(.nd (.nd (.nd .lf 28 kgx .lf) 32 khp .lf) 68 kge (.nd (.nd .lf 72 kg8 .lf) 74 kh8 .lf))
theorem kjb:InfoOk Tryz.prog TB inf_0_3:=(find_nd kig (find_nd kid (find_nd kix kb kb) kb) (find_nd kim (find_nd kir kb kb) kb))
def kgu:TI TB.den:={ty:=some (false,1),ze:=some [.d (.int .u8) (0:Int)],un:=some (.int .u8)}
theorem kis:TI.Ok Tryz.prog TB 5 kgu:={  }
def kdn:TI TB.den:={ty:=some (false,1),ze:=some [.d (.int .u64) (0:Int)],un:=some (.int .u64)}
theorem kf5:TI.Ok Tryz.prog TB 23 kdn:={  }
def kdo:TI TB.den:={ty:=some (false,1),el:=some (.ji .u64,8),ze:=some [.full (.ji .u64) []],un:=some (.slice 23)}
theorem khn:TI.Ok Tryz.prog TB 24 kdo:={  }
def kdc:TI TB.den:={ty:=some (false,1),el:=some (.st 11,48),ze:=some [.full (.st 11) []],un:=some (.slice 46)}
theorem kf2:TI.Ok Tryz.prog TB 25 kdc:={  }
def kd5:TI TB.den:={ty:=some (false,1),el:=some (.ji .u8,1),ze:=some [.full (.ji .u8) []],un:=some (.slice 5)}
theorem kho:TI.Ok Tryz.prog TB 26 kd5:={  }
def kdx:TI TB.den:={ty:=some (true,10),fl:=[(0,false,1),(1,false,1),(2,false,1),(3,false,1),(4,false,1),(5,false,1),(6,false,1),(7,false,1),(8,false,1),(9,false,1)],ze:=some [.d (.int .u64) (0:Int),.full (.ji .u64) [],.full (.st 11) [],.d (.int .u64) (0:Int),.d (.int .u64) (0:Int),.d (.int .u64) (0:Int),.d (.int .u64) (0:Int),.d (.int .u64) (0:Int),.d (.int .i64) (0:Int),.full (.ji .u8) []],pl:=[(0,1),(1,1),(2,1),(3,1),(4,1),(5,1),(6,1),(7,1),(8,1),(9,1)]}
theorem kg1:TI.Ok Tryz.prog TB 28 kdx:={fl:=km ⟨by kernel_rfl,by kernel_rfl,by kernel_rfl,by kernel_rfl,by kernel_rfl,by kernel_rfl,by kernel_rfl,by kernel_rfl,by kernel_rfl,by kernel_rfl,trivial⟩}
def kdf:TI TB.den:={ty:=some (false,1),el:=some (.st 12,128),ze:=some [.full (.st 12) []],un:=some (.slice 28)}
theorem kfa:TI.Ok Tryz.prog TB 32 kdf:={  }
def kda:TI TB.den:={ty:=some (true,4),fl:=[(0,false,1),(1,true,2),(3,false,1)],ze:=some [.d (.int .u64) (0:Int),.d (.int .u64) (0:Int),.d (.int .u64) (0:Int),.full (.ji .u64) []],pl:=[(0,1),(1,2),(3,1)]}
theorem kgn:TI.Ok Tryz.prog TB 46 kda:={fl:=km ⟨by kernel_rfl,by kernel_rfl,by kernel_rfl,trivial⟩}
def k6u:BT (TI TB.den):=(.nd (.nd (.nd (.nd .lf 5 kgu .lf) 23 kdn .lf) 24 kdo (.nd .lf 25 kdc .lf)) 26 kd5 (.nd (.nd .lf 28 kdx .lf) 32 kdf (.nd .lf 46 kda .lf)))
theorem kj2:InfoOk Tryz.prog TB k6u:=(find_nd kho (find_nd khn (find_nd kf5 (find_nd kis kb kb) kb) (find_nd kf2 kb kb)) (find_nd kfa (find_nd kg1 kb kb) (find_nd kgn kb kb)))
theorem mix:Tryz.prog.follows .mixedOrders=true:=by kernel_rfl
theorem Bs:Base Tryz.prog TB inf:=⟨TBok,inf_ok,mix⟩
theorem Bs_0:Base Tryz.prog TB inf_0:=⟨TBok,kmo,mix⟩
theorem Bs_0_3:Base Tryz.prog TB inf_0_3:=⟨TBok,kjb,mix⟩
theorem Bs_9999:Base Tryz.prog TB k6u:=⟨TBok,kj2,mix⟩
def x124:XCon TB.den:=⟨124,[.int .u64,.int .u64,.int .u64],[.int .u64,.int .u64],fun x=>(fun(a0 a1 a2:Int)=>0<=a0/\0<=a1/\0<=a2/\a2<=1) x.1 x.2.1 x.2.2.1,fun x=>((fun(a0 a1 a2:Int)=>(a0+a1+a2)%18446744073709551616) x.1 x.2.1 x.2.2.1,(fun(a0 a1 a2:Int)=>(a0+a1+a2)/18446744073709551616) x.1 x.2.1 x.2.2.1,())⟩
theorem x124_ok:x124.Ok Tryz.prog TB:=⟨rfl,fun x h=>kgq Tryz.func124 qqk qqk qqk qqk x.1 x.2.1 x.2.2.1 h.1 h.2.1 h.2.2.1 h.2.2.2⟩
abbrev yqi:Ty:= .int .i64
abbrev yqu:Ty:= .int .u64
abbrev yqb:Ty:= .int .u8
abbrev zqi:Sh1:= .d yqi
abbrev zqu:Sh1:= .d yqu
abbrev zqb:Sh1:= .d yqb
abbrev zql:Sh1:= .d (.sl yqu)
abbrev yN:List Ty:=[yqu,yqu,.sl yqu]
abbrev yM:List Ty:=[yqi,.sl (.st 3)]
abbrev yL:List Ty:=[yqi,yqi,.sl (.st 3)]
abbrev yK:List Ty:=[yqu,yqi,.sl (.st 3)]
abbrev yJ:List Sh1:=[zqi,.d (.sl (.st 2))]
abbrev yI:List OSh:=[.cells [zqu,zqu,zqu]]
abbrev yH:List Ty:=[.bool,yqi,.sl (.st 3)]
abbrev yG:List Ty:=[yqi,yqi,yqi,.sl (.st 3)]
abbrev yF:List OSh:=[.vec (.st 3),.cells [zqi]]
abbrev yE:List OSh:=[.cells [zqi,.row 1],.vec (.st 3)]
abbrev yD:List OSh:=[.cells [zqi,.row 2],.dead,.vec (.st 3)]
abbrev yC:List Sh1:=[zqu,zql,.d (.sl (.st 0)),zqu,zqu,zqu,zqu,zqu,zqi,.d (.sl yqb)]
abbrev yB:List OSh:=[.cells yJ,.cells [zqi,.row 2],.vec (.st 3)]
abbrev yA:List Sh1:=[zqu,zql,.d (.sl (.st 0)),zqu,zqu,zqu,zqu,zqu,zqi,.d (.sl yqb),zqu,zqi]
end Go.Proofs.YtghlnaoogfcldaaGreat
namespace Go.Bv
open Go.RowKit Go.Deep
def limOf (w:World) (b:Nat):Nat:=match w.heap[b]? with
 |some (.cells c _ _)=>c.size
 |_=>0
theorem kjp {w:World} {b o:Nat} {v:Value} (h:w.cell? ⟨b,o,none⟩=some v):o<limOf w b:=by unfold World.cell? at h;unfold limOf;grind
def isAggT (P:Program) (e:TypeId):Bool:=match P.underlying e with
 |some (.struct _)=>true
 |some (.array _ _)=>true
 |_=>false
def mkD (P:Program) (e:TypeId) (cs:List D):D:=if isAggT P e then .agg cs else cs.headD (.bool false)
def tiles (P:Program) (tot:Nat):List (TypeId×Nat)->Nat->Bool
 |[],o=>o==tot
 |p::r,o=>p.2==o&&tiles P tot r (o+P.cellsOf p.1)
def fsOf (fs:Array Field):List (TypeId×Nat):=fs.toList.map fun f=>(f.type,f.offset)
def arOf (P:Program) (n:Nat) (e:TypeId):List (TypeId×Nat):=(List.range n).map fun i=>(e,i*P.cellsOf e)
def dataT (P:Program):Nat->TypeId->Bool
 |0,_=>false
 |k+1,t=>match P.underlying t with
  |some .bool=>true
  |some (.int _)=>true
  |some .string=>true
  |some (.slice e)=>decide (0<P.cellsOf e)&&dataT P k e
  |some (.struct fs)=>tiles P (P.cellsOf t) (fsOf fs) 0&&(fsOf fs).all fun p=>dataT P k p.1
  |some (.array n e)=>tiles P (P.cellsOf t) (arOf P n e) 0&&dataT P k e
  |_=>false
def RelFs {H:Type} (R:TypeId->List D->DataW H->Prop):List (TypeId×Nat)->List D->List (DataW H)->Prop
 |[],ds,ps=>ds=[]/\ps=[]
 |t::ts,ds,ps=>∃d1 d2 p qs,R t.1 d1 p/\RelFs R ts d2 qs/\ds=d1++d2/\ps=p::qs
def Rel {H:Type} (P:Program):Nat->TypeId->List D->DataW H->Prop
 |0,_,_,_=>False
 |k+1,t,ds,d=>match P.underlying t with
  |some .bool=>∃b,ds=[.bool b]/\d= .lit (.bool b)
  |some (.int q)=>∃i,ds=[.int q i]/\d= .lit (.int q i)/\(Lit.int q i).wf=true
  |some .string=>∃s:ByteArray,ds=[.str s]/\d= .lit (.string s.data.toList)
  | some (.slice e)=>∃l:List (List D),ds=[.slice (P.cellsOf e) (l.map (mkD P e))]/\l.length<=maxLen/\
    ((l=[]/\d= .nil)∨∃elems spare,d= .slice elems spare/\l.length=elems.length/\∀(j:Nat) (x:List D) (y:DataW H),l[j]? =some x->elems[j]? =some y->Rel P k e x y)
  |some (.struct fs)=>∃ps,d= .agg ps/\RelFs (Rel P k) (fsOf fs) ds ps
  |some (.array n e)=>∃ps,d= .agg ps/\RelFs (Rel P k) (arOf P n e) ds ps
  |_=>False
def Holds (w:World) (cs:List Value) (ds:List D):Prop:=ds.length=cs.length/\∀(j:Nat) (v:Value) (c:D),cs[j]? =some v->ds[j]? =some c->RepD (fun _=>False) (limOf w) w v c
theorem Holds.append {w:World} {a b:List Value} {x y:List D} (h1:Holds w a x) (h2:Holds w b y):Holds w (a++b) (x++y):=by
 refine⟨by simp[h1.1,h2.1],fun j v c hv hc=> ?_⟩;by_cases hj:j<a.length
 ·rw[qat hj]at hv;rw[qat (by rw[h1.1];exact hj)]at hc;exact h1.2 j v c hv hc
 ·rw[qar qqo]at hv;rw[qar (by rw[h1.1];omega),h1.1]at hc;exact h2.2 _ v c hv hc
theorem Holds.one {w:World} {v:Value} {d:D} (h:RepD (fun _=>False) (limOf w) w v d):Holds w [v] [d]:=by refine⟨rfl,fun j u c hu hc=> ?_⟩;grind
section
variable {H:Type} {P:Program} {w:World} {cs:List Value}
theorem k8f {tot:Nat} (htot:cs.length=tot) (ok:Value->Prop) (hok:∀v∈cs,ok v) (R:TypeId->List D->DataW H->Prop) (g:TypeId->List Value->Option (DataW H×List MemPlace)):
  ∀(L:List (TypeId×Nat)) (o:Nat) (xs:List (DataW H×List MemPlace)),tiles P tot L o=true->xs.length=L.length->
   (∀p∈L,∀cs' y,(∀v∈cs',ok v)->g p.1 cs' =some y->∃ds,Holds w cs' ds/\R p.1 ds y.1)->
   (∀(i:Nat) (p:TypeId×Nat),L[i]? =some p->g p.1 ((cs.drop p.2).take (P.cellsOf p.1))=xs[i]?)->
   ∃ds,Holds w (cs.drop o) ds/\RelFs R L ds (xs.map (·.1))
 |[],o,xs,ht,hl,_,_=>by
  simp[tiles]at ht;have:xs=[]:=by grind
  subst this;refine⟨[],⟨?_,?_⟩,rfl,rfl⟩
  ·simp;omega
  grind
 |p::L,o,xs,ht,hl,hg,hx=>by
  simp[tiles]at ht;obtain⟨h0,ht⟩:=ht;cases xs with
  |nil=>simp at hl
  |cons y ys=>have h1:=hx 0 p rfl;simp only[qdf]at h1;obtain⟨d1,hd1,hr1⟩:=hg p qqs _ y (by grind) h1;obtain⟨d2,hd2,hr2⟩:=k8f htot ok hok R g L (o+P.cellsOf p.1) ys ht (by grind) (fun q hq=>hg q (by simp[hq])) (fun i q hq=>by simpa using hx (i+1) q (by grind));refine⟨d1++d2,?_,d1,d2,y.1,_,hr1,hr2,rfl,rfl⟩;have:=hd1.append hd2;grind[List.drop_drop,List.take_append_drop]
end
section
variable {H:Type} {enc:TypeId×Value->H} {P:Program} {w:World}
theorem rel_mk {k:Nat} {e:TypeId} {x:List D} {d:DataW H} (hr:Rel P k e x d) (h1:∀c∈x,c.one=true):(mkD P e x).cells=x:=by
 cases k with
 |zero=>exact hr.elim
 |succ k=>
  unfold mkD;split
  ·rfl
  ·rename_i ha;unfold Rel at hr;split at hr
   ·obtain⟨b,rfl,_⟩:=hr;rfl
   ·obtain⟨b,rfl,_⟩:=hr;rfl
   ·obtain⟨b,rfl,_⟩:=hr;rfl
   ·obtain⟨b,rfl,_⟩:=hr;rfl
   ·rename_i h;exact absurd (by simp[isAggT,h]) ha
   ·rename_i h;exact absurd (by simp[isAggT,h]) ha
   grind
theorem k4f:∀(k:Nat) (t:TypeId),dataT P k t=true->∀(n:Nat) (cs:List Value) (y:DataW H×List MemPlace),
  DataW.trod enc P w 0 (fun _=>true) true n t cs=some y->∃ds,Holds w cs ds/\Rel P k t ds y.1
 |0,_,h=>by cases h
 |k+1,t,hT=>by
  intro n cs y h;unfold dataT at hT;split at hT
  ·rename_i hu;obtain⟨b,rfl,rfl⟩:=DataW.trod_bool hu h;exact⟨[.bool b],Holds.one (.bool b),by simp[Rel,hu]⟩
  ·rename_i q hu;obtain⟨i,rfl,rfl,hw⟩:=DataW.trod_int hu h;exact⟨[.int q i],Holds.one (.int q i),by simp[Rel,hu,hw]⟩
  ·rename_i hu;obtain⟨s,rfl,rfl,hs⟩:=DataW.trod_string hu h;exact⟨[.str s],Holds.one (.str s),by simp only[Rel,hu];grind⟩
  ·rename_i e hu;simp only[qe,qaw]at hT;obtain⟨hpos,hT⟩:=hT;rcases open_slice hu h with⟨rfl,rfl⟩|⟨a,len,cap,m,n',Dd,Pl,rfl,_,hlc,hcm,hm,rfl,hel⟩
   ·exact⟨[.slice (P.cellsOf e) []],Holds.one (.nil none _),by simp only[Rel,hu];grind⟩
   ·simp only[qcd]at hm;subst hm;by_cases hm0:m=0
    ·subst hm0;have hl0:len=0:=by omega
     subst hl0;refine⟨[.slice (P.cellsOf e) []],Holds.one (.nil (some a) _),?_⟩;simp only[Rel,hu];simp_all
    have hel' :∀i,i<len->∃x:List D,∃cs',w.cells? 0 (a.add (i*P.cellsOf e)) (P.cellsOf e)=some cs'/\Holds w cs' x/\Rel P k e x (Dd i):=by intro i hi;obtain⟨cs',h1,h2⟩:=hel i qqo;obtain⟨ds,h3,h4⟩:=k4f k e hT n' cs' _ h2;exact⟨ds,cs',h1,h3,h4⟩
    obtain⟨f,hf⟩:=choose_lt hel'
    have hspot:a.spot=none:=by
     obtain⟨cs',h1,h2⟩:=hel 0 qqo;have h3:=(World.cells?_some h1).2.2 0 qqo;have h4:=(World.cells?_some h1).2.1;rw[qd qqo]at h3;unfold World.cell? at h3;split at h3
     ·split at h3
      ·cases h3
      ·rename_i hs;simpa[Addr.add]using hs
     ·cases h3
    obtain⟨b,off,sp⟩:=a;simp only at hspot;subst hspot
    have hone:∀i,i<len->∀c∈f i,c.one=true:=by
     intro i hi c hc;obtain⟨cs',h1,h2,h3⟩:=hf i hi;obtain⟨j,hj⟩:=qcb hc;have hjl:j<cs'.length:=by rw[<-h2.1];grind
     exact(h2.2 j _ c (qd hjl) hj).done
    have hmk:∀i,i<len->(mkD P e (f i)).cells=f i:=fun i hi=>by grind[rel_mk]
    have hsz:∀d∈((List.range len).map f).map (mkD P e),d.cells.length=P.cellsOf e/\∀c∈d.cells,c.one=true:=by intro d hd;simp only[qaa,qad,List.mem_range,Function.comp]at hd;obtain⟨i,hi,rfl⟩:=hd;obtain⟨cs',h1,h2,h3⟩:=hf i hi;rw[hmk i hi];exact⟨by rw[h2.1];exact(World.cells?_some h1).2.1,hone i hi⟩
    have hget:∀i,i<len->(((List.range len).map f).map (mkD P e))[i]? =some (mkD P e (f i)):=by grind
    have hfl:=kg hsz;simp only[qf,List.length_range]at hfl
    have hat:∀(j:Nat) (u:Value),((List.range (len*P.cellsOf e)).map fun j=>(w.cell? ⟨b,off+j,none⟩).getD undef)[j]? =some u->j<len*P.cellsOf e/\w.cell? ⟨b,off+j,none⟩=some u:=by
     intro j u hu;have hj:j<len*P.cellsOf e:=by grind
     refine⟨hj,?_⟩;simp only[qh,List.getElem?_range hj,qba,qai]at hu;have hi:j/P.cellsOf e<len:=by rw[qeq hpos];exact hj
     have hr:j%P.cellsOf e<P.cellsOf e:=Nat.mod_lt _ hpos;obtain⟨cs',h1,h2,h3⟩:=hf _ hi;have e1:j/P.cellsOf e*P.cellsOf e+j%P.cellsOf e=j:=by rw[qeu];exact Nat.div_add_mod j _
     have h4:=(World.cells?_some h1).2.2 _ hr;have h5:=(World.cells?_some h1).2.1;have e2:(Addr.add ⟨b,off,none⟩ (j/P.cellsOf e*P.cellsOf e)).add (j%P.cellsOf e)=⟨b,off+j,none⟩:=by rw[add_add,e1];simp[Addr.add]
     grind
    refine⟨[.slice (P.cellsOf e) (((List.range len).map f).map (mkD P e))],Holds.one ?_,?_⟩
    ·have:=RepD.slice (X:=fun _=>False) (x:=false) (m:=limOf w) (w:=w) b off m (P.cellsOf e) (((List.range len).map f).map (mkD P e)) ((List.range (len*P.cellsOf e)).map fun j=>(w.cell? ⟨b,off+j,none⟩).getD undef) (by grind) hcm hsz (by grind) (not_x fun h=>h) ?_ ?_
     ·grind
     ·intro j u hu;obtain⟨hj,hcell⟩:=hat j u hu;exact⟨kjp hcell,hcell⟩
     ·intro j u c hu hc;obtain⟨hj,hcell⟩:=hat j u hu;have hi:j/P.cellsOf e<len:=by rw[qeq hpos];exact hj
      have hr:j%P.cellsOf e<P.cellsOf e:=Nat.mod_lt _ hpos;obtain⟨cs',h1,h2,h3⟩:=hf _ hi;have e1:j/P.cellsOf e*P.cellsOf e+j%P.cellsOf e=j:=by rw[qeu];exact Nat.div_add_mod j _
      rw[<-e1,k6c hsz (hget _ hi) _ hr,hmk _ hi]at hc;refine h2.2 _ u c ?_ hc;rw[<-(World.cells?_some h1).2.2 _ hr,<-hcell];congr 1;rw[add_add,e1];simp[Addr.add]
    ·simp only[Rel,hu];grind
  ·rename_i fs hu;simp only[qe]at hT;obtain⟨xs,n',rfl,rfl,hl,hxl,hx⟩:=DataW.trod_struct hu h
   obtain⟨ds,h1,h2⟩:=k8f (P:=P) hl (fun _=>True) (fun _ _=>trivial) (Rel P k) (fun t c=>DataW.trod enc P w 0 (fun _=>true) true n' t c) (fsOf fs) 0 xs hT.1 (by simp[fsOf,hxl])
    (fun p hp cs' y _ hy=>k4f k p.1 (by grind) n' cs' y hy)
    (fun i p hp=>by
     simp only[fsOf,qh,qo]at hp;grind)
   exact⟨ds,by grind,by simp only[Rel,hu];grind⟩
  ·rename_i m e hu;simp only[qe]at hT;obtain⟨xs,n',rfl,rfl,hl,hxl,hx⟩:=DataW.trod_array hu h
   obtain⟨ds,h1,h2⟩:=k8f (P:=P) hl (fun _=>True) (fun _ _=>trivial) (Rel P k) (fun t c=>DataW.trod enc P w 0 (fun _=>true) true n' t c) (arOf P m e) 0 xs hT.1 (by simp[arOf,hxl])
    (fun p hp cs' y _ hy=>by
     simp only[arOf,qad]at hp;obtain⟨i,_,rfl⟩:=hp;exact k4f k e hT.2 n' cs' y hy)
    (fun i p hp=>by
     simp only[arOf,qh,qo]at hp;grind)
   exact⟨ds,by grind,by simp only[Rel,hu];grind⟩
  ·cases hT
end
end Go.Bv
namespace Go.Bv
open Go.RowKit Go.ChangeShapes Go.WideShapes
def G0 (W:World):Gh:=⟨fun _=>none,fun _=>none,limOf W,fun _=>False⟩
def vOf (P:Program) (t:TypeId) (ds:List D):V:=if isAggT P t then .agg (ds.map V.d)else .d (ds.headD (.bool false))
section
variable {H:Type} {enc:TypeId×Value->H} {P:Program} {W:World}
theorem arg_rep {k:Nat} {r:Reach} {base:Nat} {t:TypeId} {v:Value} {d:DataW H} {ps:List MemPlace} {h:Hp} {nx:Nat} (hT:dataT P k t=true) (hval:Value.okWide P W r base t v)
  (hd:DataW.Trod enc P W 0 (fun _=>true) true t v d ps):∃ds,Rel P k t ds d/\RepV (G0 W) W h nx v (vOf P t ds):=by
 obtain⟨n,hn⟩:=hd;by_cases ha:isAggT P t=true
 ·have hval' :∃cs,v= .agg cs/\cs.size=P.cellsOf t/\Row.okWide P W r base t cs:=by unfold isAggT at ha;unfold Value.okWide at hval;grind
  obtain⟨cs,rfl,_,ts,_,_,hc⟩:=hval';obtain⟨ds,h1,h2⟩:=k4f k t hT n cs.toList _ hn;refine⟨ds,h2,?_⟩;unfold vOf;rw[ql ha];have:=RepV.agg (G:=G0 W) (w:=W) (h:=h) (nx:=nx) cs.toList (ds.map V.d) (by simpa using h1.1.symm) ?_ ?_
  ·omega
  ·intro x hx;obtain⟨c,hcm,rfl⟩:=qad.1 hx;obtain⟨j,hj⟩:=qcb hcm;have hjl:j<cs.toList.length:=by have:=h1.1;grind
   exact(h1.2 j _ c (qd hjl) hj).done
  ·intro j u x hu hx;rw[qh,qo]at hx;obtain⟨c,hcj,rfl⟩:=hx;exact .d _ _ (h1.2 j u c hu hcj)
 ·have hval' :Cell.okWide P W r base t v:=by
   unfold Value.okWide at hval;split at hval
   ·rename_i h1;exact absurd (by simp[isAggT,h1]) ha
   ·rename_i h1;exact absurd (by simp[isAggT,h1]) ha
   grind
  have hcs:v.cells.toList=[v]:=by
   cases v with
   |agg cs=>exfalso;unfold Cell.okWide Cell.ok at hval';grind
   |_=>rfl
  rw[hcs]at hn;obtain⟨ds,h1,h2⟩:=k4f k t hT n _ _ hn;refine⟨ds,h2,?_⟩;unfold vOf;rw[qm ha];have hl:=h1.1
  match ds,hl with
  |[c],_=>exact .d _ _ (h1.2 0 v c rfl rfl)
theorem law_of {f:FuncId} {xs:List V} {r:V} (hS:SoundH P f xs [] r []) {vs:List Value} (hlen:vs.length=xs.length)
  (hrep:∀(j:Nat) (v:Value) (x:V),vs[j]? =some v->xs[j]? =some x->RepV (G0 W) W [] 0 v x):
  Calls P f vs.toArray W fun e W' =>(∃v G',e= .returned v/\RepV G' W' [] 0 v r)/\Below W.heap.size W W' :=by
 refine(hS (G0 W) W vs hlen hrep ?_ fun b h=>h.elim).mono fun e W' hh=> ?_
 ·refine⟨?_,?_,?_,?_,?_,?_⟩
  ·intro id l h;simp[hpOf,Hp.get]at h
  ·intro id es h;simp[hpOf,Hp.get]at h
  ·grind
  ·grind
  ·intro id ob h;simp[hpOf,Hp.get]at h
  ·intro b hb;show limOf W b=0;unfold limOf;grind
 ·obtain⟨v,G',rfl,h1,h2,h3,h4⟩:=hh;refine⟨⟨v,G',rfl,h1⟩,h3.os,h3.tape,h3.output,h3.size,fun b hb=>(h3.same b hb ?_).1⟩;rintro ⟨i,hi,_⟩;simp at hi
def typesOk (P:Program) (ts:List TypeId):Bool:=ts.all fun t=>P.readableRec t&&decide (t<P.types.size)
theorem k7o (hl:laidOutB P=true) {W' :World} (hb:Below W.heap.size W W'):∀{ts:List TypeId} {vs:List Value} {ds:List (DataW H)} {ps:List MemPlace},typesOk P ts=true->
  DataW.TrodAll enc P W 0 (fun _=>true) true ts vs ds ps->(∀x∈ps,x.block<W.heap.size)->DataW.TrodAll enc P W' 0 (fun b=>decide (b<W.heap.size)) true ts vs ds ps
 |[],[],[],_,_,h,_=>h
 |[],[],_::_,_,_,h,_=>h.elim
 |[],_::_,_,_,_,h,_=>h.elim
 |_::_,[],_,_,_,h,_=>h.elim
 |_::_,_::_,[],_,_,h,_=>h.elim
 |t::ts,v::vs,d::ds,ps,ht,h,hp=>by simp only[typesOk,qcq,qe,qaw]at ht;obtain⟨p,q,h1,h2,rfl⟩:=h;exact⟨p,q,Below.trod hl ht.1.1 ht.1.2 h1 hb (by grind),k7o hl hb (by simpa[typesOk]using ht.2) h2 (by grind),rfl⟩
theorem kma {k:Nat} {t:TypeId} {ds:List D} {d:DataW H} (hu:P.underlying t=some .bool) (h:Rel P (k+1) t ds d):∃b,ds=[.bool b]/\d= .lit (.bool b):=by unfold Rel at h;grind
theorem rel_int {k:Nat} {t:TypeId} {q:IntKind} {ds:List D} {d:DataW H} (hu:P.underlying t=some (.int q)) (h:Rel P (k+1) t ds d):∃i,ds=[.int q i]/\d= .lit (.int q i)/\(Lit.int q i).wf=true:=by unfold Rel at h;grind
theorem kjr {k:Nat} {t:TypeId} {fs:Array Field} {ds:List D} {d:DataW H} (hu:P.underlying t=some (.struct fs)) (h:Rel P (k+1) t ds d):∃ps,d= .agg ps/\RelFs (Rel P k) (fsOf fs) ds ps:=by unfold Rel at h;grind
theorem kkp {k:Nat} {t e:TypeId} {n:Nat} {ds:List D} {d:DataW H} (hu:P.underlying t=some (.array n e)) (h:Rel P (k+1) t ds d):∃ps,d= .agg ps/\RelFs (Rel P k) (arOf P n e) ds ps:=by unfold Rel at h;grind
theorem kkm {k:Nat} {t e:TypeId} {ds:List D} {d:DataW H} {α:Type} [Inhabited α] (f:α->D) (p:α->Prop) (hu:P.underlying t=some (.slice e)) (h:Rel P (k+1) t ds d)
  (tp:∀(x:List D) (y:DataW H),Rel P k e x y->∃a,mkD P e x=f a/\p a):
  ∃l:List α,ds=[.slice (P.cellsOf e) (l.map f)]/\l.length<=maxLen/\(∀a∈l,p a)/\((l=[]/\d= .nil)∨∃elems spare,d= .slice elems spare/\l.length=elems.length):=by
 unfold Rel at h;rw[hu]at h;obtain⟨l,rfl,hmx,h⟩:=h;rcases h with⟨rfl,rfl⟩|⟨elems,spare,rfl,hlen,hh⟩
 ·simp_all
 ·have:∀i,i<l.length->∃a,mkD P e (l.getD i [])=f a/\p a:=by intro i hi;refine tp _ _ (hh i _ _ ?_ (qd qqo));grind
  obtain⟨g,hg⟩:=Deep.choose_lt this;refine⟨(List.range l.length).map g,?_,by grind,?_,(by grind)⟩
  ·have:l.map (mkD P e)=((List.range l.length).map g).map f:=by rw[Deep.map_by_index l [] (mkD P e),qaa];simp_all
   rw[this]
  grind
theorem kmu {fn:Func} {s:ChangeSpec} {W' :World} {args:Array Value} {ds:List (DataW H)} {before:List MemPlace} {tb:TypeId} (hv:s.vars=[]) (hW:DataW.Whole enc P fn.params.toList s.vars false W args.toList ds [] before)
  (hl:laidOutB P=true) (hty:typesOk P fn.params.toList=true) (hr:fn.resultTypes= #[tb]) (hub:P.underlying tb=some .bool)
  (h1:(s.fn H (ds++[])).results=[.lit (.bool true)]) (h2:(s.fn H (ds++[])).args=ds) (h3:(s.fn H (ds++[])).vars=[]) (hb:Below W.heap.size W W'):
  s.post enc P fn false true false false W args (.bool true) W' :=by
 have hW' :=hW;obtain⟨p,q,hA,hV,rfl,_,_⟩:=hW;have hq:q=[]:=by rw[hv]at hV;exact hV
 subst hq;refine⟨ds,[],p++[],[],p,[],hW',?_,?_,?_,hb.frame _,fun h=>by cases h⟩
 ·rw[h1,hr];exact trodAll_cons_mk (shut_bool hub _) trodAll_mk0
 ·rw[h2];exact k7o hl hb hty hA (fun x hx=>by simpa using hW'.lt x (by grind))
 ·rw[hv,h3];rfl
end
structure RelH {H:Type} (P:Program) (k:Nat) (t:TypeId) (ds:List D) (d:DataW H):Prop where
 h:Rel P k t ds d
section
variable {H:Type} {enc:TypeId×Value->H} {P:Program} {W:World} {k:Nat}
theorem relFs_h:∀{L:List (TypeId×Nat)} {ds:List D} {ps:List (DataW H)},RelFs (Rel P k) L ds ps->RelFs (RelH P k) L ds ps
 |[],_,_,h=>h
 |_::_,_,_,⟨d1,d2,p,qs,h1,h2,e1,e2⟩=>⟨d1,d2,p,qs,⟨h1⟩,relFs_h h2,e1,e2⟩
theorem kkk {t:TypeId} {ds:List D} {d:DataW H} (hu:P.underlying t=some .bool) (h:RelH P (k+1) t ds d):∃b,ds=[.bool b]/\d= .lit (.bool b):=kma hu h.h
theorem kan {t:TypeId} {q:IntKind} {ds:List D} {d:DataW H} (hu:P.underlying t=some (.int q)) (h:RelH P (k+1) t ds d):∃i,ds=[.int q i]/\d= .lit (.int q i)/\(Lit.int q i).wf=true:=rel_int hu h.h
theorem k5i {t:TypeId} {fs:Array Field} {ds:List D} {d:DataW H} {L:List (TypeId×Nat)} (hu:P.underlying t=some (.struct fs)) (hf:fsOf fs=L) (h:RelH P (k+1) t ds d):∃ps,d= .agg ps/\RelFs (RelH P k) L ds ps:=by obtain⟨ps,h1,h2⟩:=kjr hu h.h;grind[relFs_h]
theorem kjx {t e:TypeId} {n:Nat} {ds:List D} {d:DataW H} {L:List (TypeId×Nat)} (hu:P.underlying t=some (.array n e)) (hf:arOf P n e=L) (h:RelH P (k+1) t ds d):∃ps,d= .agg ps/\RelFs (RelH P k) L ds ps:=by obtain⟨ps,h1,h2⟩:=kkp hu h.h;grind[relFs_h]
theorem k42 {t e:TypeId} {ds:List D} {d:DataW H} {α:Type} [Inhabited α] (f:α->D) (p:α->Prop) (sz:Nat) (hu:P.underlying t=some (.slice e)) (hs:P.cellsOf e=sz) (h:RelH P (k+1) t ds d)
  (tp:∀(x:List D) (y:DataW H),RelH P k e x y->∃a,mkD P e x=f a/\p a):∃l:List α,ds=[.slice sz (l.map f)]/\l.length<=9223372036854775807/\∀a∈l,p a:=by
 obtain⟨l,h1,h2,h3,_⟩:=kkm f p hu h.h (fun x y hh=>tp x y ⟨hh⟩);subst hs;exact⟨l,h1,h2,h3⟩
theorem mk_agg {e:TypeId} {ds cs:List D} (ha:isAggT P e=true) (h:ds=(D.agg cs).cells):mkD P e ds= .agg cs:=by subst h;unfold mkD;rw[ha];rfl
theorem mk_one {e:TypeId} {ds:List D} {x:D} (ha:isAggT P e=false) (h:ds=[x]):mkD P e ds=x:=by subst h;unfold mkD;rw[ha];rfl
theorem kac {r:Reach} {base:Nat} {t:TypeId} {v:Value} {d:DataW H} {ps:List MemPlace} {h:Hp} {nx:Nat} (hT:dataT P k t=true) (hval:Value.okWide P W r base t v)
  (hd:DataW.Trod enc P W 0 (fun _=>true) true t v d ps):∃ds,RelH P k t ds d/\RepV (G0 W) W h nx v (vOf P t ds):=by
 obtain⟨ds,h1,h2⟩:=arg_rep hT hval hd;exact⟨ds,⟨h1⟩,h2⟩
end
end Go.Bv
namespace Go.Proofs.YtghlnaoogfcldaaGreat
open Go Go.Bv Go.Cv Go.Md Go.RowKit Go.ChangeShapes Go.WideShapes
theorem wf_u8 {i:Int} (h:(Lit.int .u8 i).wf=true):0<=i/\i<256:=by simp only[Lit.wf,IntKind.min,IntKind.max,IntKind.signed,IntKind.bits,qe]at h;simp at h;omega
theorem wf_u64 {i:Int} (h:(Lit.int .u64 i).wf=true):0<=i/\i<18446744073709551616:=by simp only[Lit.wf,IntKind.min,IntKind.max,IntKind.signed,IntKind.bits,qe]at h;simp at h;omega
theorem wf_i64 {i:Int} (h:(Lit.int .i64 i).wf=true):(-9223372036854775808)<=i/\i<9223372036854775808:=by simp only[Lit.wf,IntKind.min,IntKind.max,IntKind.signed,IntKind.bits,qe]at h;simp at h;omega
theorem op3 {H:Type} {k:Nat} {ds:List D} {d:DataW H} (h:RelH Tryz.prog (k+1) 3 ds d):∃x:Int,ds=[D.int .i64 x]/\((-9223372036854775808)<=x/\x<9223372036854775808):=by obtain⟨i,rfl,_,w⟩:=kan (q:= .i64) (show Tryz.prog.underlying 3=some (.int .i64)by kernel_rfl) h;exact⟨i,rfl,wf_i64 w⟩
structure k8c (x:wR):Prop where
 wW:(0<=x.wW/\x.wW<18446744073709551616)
 wP:(0<=x.wP/\x.wP<18446744073709551616)
 wO:(0<=x.wO/\x.wO<18446744073709551616)
 wF:(x.wF.length<=9223372036854775807/\∀y∈x.wF,(0<=y/\y<18446744073709551616))
structure k5f (x:wAA):Prop where
 wo:(0<=x.wo/\x.wo<18446744073709551616)
 wv:(x.wv.length<=9223372036854775807/\∀y∈x.wv,(0<=y/\y<18446744073709551616))
 wz:(x.wz.length<=9223372036854775807/\∀y∈x.wz,k8c y)
 wg:(0<=x.wg/\x.wg<18446744073709551616)
 we:(0<=x.we/\x.we<18446744073709551616)
 wAB:(0<=x.wAB/\x.wAB<18446744073709551616)
 wh:(0<=x.wh/\x.wh<18446744073709551616)
 wt:(0<=x.wt/\x.wt<18446744073709551616)
 wl:((-9223372036854775808)<=x.wl/\x.wl<9223372036854775808)
 ww:(x.ww.length<=9223372036854775807/\∀y∈x.ww,(0<=y/\y<256))
theorem op4 {H:Type} {k:Nat} {ds:List D} {d:DataW H} (h:RelH Tryz.prog (k+1) 4 ds d):∃x:Bool,ds=[D.bool x]/\True:=by obtain⟨b,rfl,_⟩:=kkk (show Tryz.prog.underlying 4=some (.bool)by kernel_rfl) h;exact⟨b,rfl,trivial⟩
structure k5h (x:wC):Prop where
 wN:(0<=x.wN/\x.wN<18446744073709551616)
 wD:(x.wD.length<=9223372036854775807/\∀y∈x.wD,(0<=y/\y<18446744073709551616))
 wB:(x.wB.length<=9223372036854775807/\∀y∈x.wB,k8c y)
 wH:(0<=x.wH/\x.wH<18446744073709551616)
 wG:(0<=x.wG/\x.wG<18446744073709551616)
 Fee:(0<=x.Fee/\x.Fee<18446744073709551616)
 wI:(0<=x.wI/\x.wI<18446744073709551616)
 wM:(0<=x.wM/\x.wM<18446744073709551616)
 wJ:((-9223372036854775808)<=x.wJ/\x.wJ<9223372036854775808)
 wK:(x.wK.length<=9223372036854775807/\∀y∈x.wK,(0<=y/\y<256))
theorem op23 {H:Type} {k:Nat} {ds:List D} {d:DataW H} (h:RelH Tryz.prog (k+1) 23 ds d):∃x:Int,ds=[D.int .u64 x]/\(0<=x/\x<18446744073709551616):=by obtain⟨i,rfl,_,w⟩:=kan (q:= .u64) (show Tryz.prog.underlying 23=some (.int .u64)by kernel_rfl) h;exact⟨i,rfl,wf_u64 w⟩
theorem op24 {H:Type} {k:Nat} {ds:List D} {d:DataW H} (h:RelH Tryz.prog (k+2) 24 ds d):∃x:Li,ds=[D.slice 1 (x.map (D.int .u64))]/\(x.length<=9223372036854775807/\∀y∈x,(0<=y/\y<18446744073709551616)):=by
 obtain⟨l,rfl,hm,hl⟩:=k42 (D.int .u64) (fun(y:Int)=>(0<=y/\y<18446744073709551616)) 1 (show Tryz.prog.underlying 24=some (.slice 23)by kernel_rfl) qqk h (fun x y hh=>by
  obtain⟨a,e,ha⟩:=op23 (k:=k+0) hh;exact⟨a,mk_one qqk e,ha⟩)
 exact⟨l,rfl,⟨hm,hl⟩⟩
structure kna (x:wAD):Prop where
 a0:(0<=x.a0/\x.a0<18446744073709551616)
 a1:(0<=x.a1/\x.a1<18446744073709551616)
theorem op44 {H:Type} {k:Nat} {ds:List D} {d:DataW H} (h:RelH Tryz.prog (k+2) 44 ds d):∃x:wAD,ds=(encTA2 x).cells/\kna x:=by obtain⟨ps,rfl,h1⟩:=kjx (n:=2) (e:=23) (L:=[(23,0),(23,1)]) (show Tryz.prog.underlying 44=some (.array 2 23)by kernel_rfl) qqk h;obtain⟨_,_,_,_,g0,⟨_,_,_,_,g1,⟨rfl,rfl⟩,rfl,rfl⟩,rfl,rfl⟩:=h1;obtain⟨a0,rfl,r0⟩:=op23 (k:=k+0) g0;obtain⟨a1,rfl,r1⟩:=op23 (k:=k+0) g1;exact⟨⟨a0,a1⟩,rfl,⟨r0,r1⟩⟩
theorem op46 {H:Type} {k:Nat} {ds:List D} {d:DataW H} (h:RelH Tryz.prog (k+3) 46 ds d):∃x:wR,ds=(encTOut x).cells/\k8c x:=by obtain⟨ps,rfl,h1⟩:=k5i (L:=[(23,0),(44,1),(24,3)]) (Tryz.underlying46) qqk h;obtain⟨_,_,_,_,g0,⟨_,_,_,_,g1,⟨_,_,_,_,g2,⟨rfl,rfl⟩,rfl,rfl⟩,rfl,rfl⟩,rfl,rfl⟩:=h1;obtain⟨a0,rfl,r0⟩:=op23 (k:=k+1) g0;obtain⟨a1,rfl,r1⟩:=op44 (k:=k+0) g1;obtain⟨a2,rfl,r2⟩:=op24 (k:=k+0) g2;exact⟨⟨a0,a1.a0,a1.a1,a2⟩,rfl,⟨r0,r1.a0,r1.a1,r2⟩⟩
theorem op25 {H:Type} {k:Nat} {ds:List D} {d:DataW H} (h:RelH Tryz.prog (k+4) 25 ds d):∃x:List wR,ds=[D.slice 4 (x.map encTOut)]/\(x.length<=9223372036854775807/\∀y∈x,k8c y):=by
 obtain⟨l,rfl,hm,hl⟩:=k42 encTOut (fun(y:wR)=>k8c y) 4 (show Tryz.prog.underlying 25=some (.slice 46)by kernel_rfl) qqk h (fun x y hh=>by
  obtain⟨a,e,ha⟩:=op46 (k:=k+0) hh;exact⟨a,mk_agg qqk e,ha⟩)
 exact⟨l,rfl,⟨hm,hl⟩⟩
theorem op5 {H:Type} {k:Nat} {ds:List D} {d:DataW H} (h:RelH Tryz.prog (k+1) 5 ds d):∃x:Int,ds=[D.int .u8 x]/\(0<=x/\x<256):=by obtain⟨i,rfl,_,w⟩:=kan (q:= .u8) (show Tryz.prog.underlying 5=some (.int .u8)by kernel_rfl) h;exact⟨i,rfl,wf_u8 w⟩
theorem op26 {H:Type} {k:Nat} {ds:List D} {d:DataW H} (h:RelH Tryz.prog (k+2) 26 ds d):∃x:Li,ds=[D.slice 1 (x.map (D.int .u8))]/\(x.length<=9223372036854775807/\∀y∈x,(0<=y/\y<256)):=by
 obtain⟨l,rfl,hm,hl⟩:=k42 (D.int .u8) (fun(y:Int)=>(0<=y/\y<256)) 1 (show Tryz.prog.underlying 26=some (.slice 5)by kernel_rfl) qqk h (fun x y hh=>by
  obtain⟨a,e,ha⟩:=op5 (k:=k+0) hh;exact⟨a,mk_one qqk e,ha⟩)
 exact⟨l,rfl,⟨hm,hl⟩⟩
theorem op28 {H:Type} {k:Nat} {ds:List D} {d:DataW H} (h:RelH Tryz.prog (k+5) 28 ds d):∃x:wC,ds=(encTTx x).cells/\k5h x:=by obtain⟨ps,rfl,h1⟩:=k5i (L:=[(23,0),(24,1),(25,2),(23,3),(23,4),(23,5),(23,6),(23,7),(3,8),(26,9)]) (Tryz.underlying28) qqk h;obtain⟨_,_,_,_,g0,⟨_,_,_,_,g1,⟨_,_,_,_,g2,⟨_,_,_,_,g3,⟨_,_,_,_,g4,⟨_,_,_,_,g5,⟨_,_,_,_,g6,⟨_,_,_,_,g7,⟨_,_,_,_,g8,⟨_,_,_,_,g9,⟨rfl,rfl⟩,rfl,rfl⟩,rfl,rfl⟩,rfl,rfl⟩,rfl,rfl⟩,rfl,rfl⟩,rfl,rfl⟩,rfl,rfl⟩,rfl,rfl⟩,rfl,rfl⟩,rfl,rfl⟩:=h1;obtain⟨a0,rfl,r0⟩:=op23 (k:=k+3) g0;obtain⟨a1,rfl,r1⟩:=op24 (k:=k+2) g1;obtain⟨a2,rfl,r2⟩:=op25 (k:=k+0) g2;obtain⟨a3,rfl,r3⟩:=op23 (k:=k+3) g3;obtain⟨a4,rfl,r4⟩:=op23 (k:=k+3) g4;obtain⟨a5,rfl,r5⟩:=op23 (k:=k+3) g5;obtain⟨a6,rfl,r6⟩:=op23 (k:=k+3) g6;obtain⟨a7,rfl,r7⟩:=op23 (k:=k+3) g7;obtain⟨a8,rfl,r8⟩:=op3 (k:=k+3) g8;obtain⟨a9,rfl,r9⟩:=op26 (k:=k+2) g9;exact⟨⟨a0,a1,a2,a3,a4,a5,a6,a7,a8,a9⟩,rfl,⟨r0,r1,r2,r3,r4,r5,r6,r7,r8,r9⟩⟩
theorem op54 {H:Type} {k:Nat} {ds:List D} {d:DataW H} (h:RelH Tryz.prog (k+6) 54 ds d):∃x:wAA,ds=(encTOp x).cells/\k5f x:=by obtain⟨ps,rfl,h1⟩:=k5i (L:=[(4,0),(28,1)]) (Tryz.underlying54) qqk h;obtain⟨_,_,_,_,g0,⟨_,_,_,_,g1,⟨rfl,rfl⟩,rfl,rfl⟩,rfl,rfl⟩:=h1;obtain⟨a0,rfl,r0⟩:=op4 (k:=k+4) g0;obtain⟨a1,rfl,r1⟩:=op28 (k:=k+0) g1;exact⟨⟨a0,a1.wN,a1.wD,a1.wB,a1.wH,a1.wG,a1.Fee,a1.wI,a1.wM,a1.wJ,a1.wK⟩,rfl,⟨r1.wN,r1.wD,r1.wB,r1.wH,r1.wG,r1.Fee,r1.wI,r1.wM,r1.wJ,r1.wK⟩⟩
theorem op22 {H:Type} {k:Nat} {ds:List D} {d:DataW H} (h:RelH Tryz.prog (k+7) 22 ds d):∃x:List wAA,ds=[D.slice 11 (x.map encTOp)]/\(x.length<=9223372036854775807/\∀y∈x,k5f y):=by
 obtain⟨l,rfl,hm,hl⟩:=k42 encTOp (fun(y:wAA)=>k5f y) 11 (show Tryz.prog.underlying 22=some (.slice 54)by kernel_rfl) qqk h (fun x y hh=>by
  obtain⟨a,e,ha⟩:=op54 (k:=k+0) hh;exact⟨a,mk_agg qqk e,ha⟩)
 exact⟨l,rfl,⟨hm,hl⟩⟩
theorem dt3:dataT Tryz.prog 1 3=true:=by kernel_rfl
theorem dt22:dataT Tryz.prog 7 22=true:=by kernel_rfl
theorem dt28:dataT Tryz.prog 5 28=true:=by kernel_rfl
theorem own:ownKnob Tryz.prog.godebug=none:=by kernel_rfl
theorem laid:laidOutB Tryz.prog=true:=by kernel_rfl
end Go.Proofs.YtghlnaoogfcldaaGreat
namespace Go.Md
open Go Go.Bv
theorem u64w (n:Int):IntKind.u64.wrap n=n%18446744073709551616:=IntKind.wrap_u64 n
theorem u8w (n:Int):IntKind.u8.wrap n=n%256:=IntKind.wrap_u8 n
theorem k3d (k:IntKind) (a b:Int):ishr k a b=a/((2^min b.toNat k.bits:Nat):Int):=by unfold ishr;rw[show(2:Int)^min b.toNat k.bits=((2^min b.toNat k.bits:Nat):Int)from(Int.natCast_pow 2 _).symm,Int.fdiv_eq_ediv_of_nonneg _ (Int.natCast_nonneg _)]
theorem kft (a b:Int):ishl .u64 a b=(a*((2^min b.toNat 64:Nat):Int))%18446744073709551616:=by unfold ishl;rw[u64w,show(2:Int)^min b.toNat IntKind.u64.bits=((2^min b.toNat 64:Nat):Int)by rw[show IntKind.u64.bits=64 from rfl];exact(Int.natCast_pow 2 _).symm]
theorem k58 (n:Nat) (h:n<18446744073709551616):(BitVec.ofInt 64 (n:Int)).toNat=n:=by rw[BitVec.toNat_ofInt];omega
theorem k9s (a b:Nat) (ha:a<18446744073709551616) (hb:b<18446744073709551616):iand .u64 a b=((a&&&b:Nat):Int):=by unfold iand;rw[u64w];show(((BitVec.ofInt 64 a&&&BitVec.ofInt 64 b).toNat:Nat):Int)%_=_;rw[BitVec.toNat_and,k58 a ha,k58 b hb];have:=Nat.and_le_left (n:=a) (m:=b);omega
theorem ior_nat (a b:Nat) (ha:a<18446744073709551616) (hb:b<18446744073709551616):ior .u64 a b=((a|||b:Nat):Int):=by unfold ior;rw[u64w];show(((BitVec.ofInt 64 a|||BitVec.ofInt 64 b).toNat:Nat):Int)%_=_;rw[BitVec.toNat_or,k58 a ha,k58 b hb];have:=Nat.or_lt_two_pow (x:=a) (y:=b) (n:=64) qqo qqo;omega
theorem k2e (a:Int) (h:0<=a/\a<18446744073709551616):iand .u64 a 4294967295=a%4294967296:=by obtain⟨n,rfl⟩:=qag h.1;have:=k9s n 4294967295 qqo qqo;rw[show((4294967295:Nat):Int)=4294967295 from rfl]at this;rw[this,show(4294967295:Nat)=2^32-1 from rfl,Nat.and_two_pow_sub_one_eq_mod];exact Int.natCast_emod _ _
theorem kmk (a:Int) (h:0<=a/\a<18446744073709551616):iand .u64 a 1=a%2:=by obtain⟨n,rfl⟩:=qag h.1;have:=k9s n 1 qqo qqo;rw[show((1:Nat):Int)=1 from rfl]at this;rw[this,Nat.and_one_is_mod];exact Int.natCast_emod _ _
theorem ior_add (a c k:Nat) (ha:a<2^k) (h:a+2^k*c<18446744073709551616):ior .u64 a ((2^k*c:Nat):Int)=((a+2^k*c:Nat):Int):=by rw[ior_nat _ _ qqo qqo,Nat.or_comm,<-Nat.two_pow_add_eq_or_of_lt ha,Nat.add_comm]
theorem ior_add' (a c k:Nat) (ha:a<2^k) (h:a+2^k*c<18446744073709551616):ior .u64 ((2^k*c:Nat):Int) a=((a+2^k*c:Nat):Int):=by rw[ior_nat _ _ qqo qqo,<-Nat.two_pow_add_eq_or_of_lt ha,Nat.add_comm]
theorem ishr32 (a:Int):ishr .u64 a 32=a/4294967296:=k3d _ _ _
theorem ishr16 (a:Int):ishr .u64 a 16=a/65536:=k3d _ _ _
theorem ishr8 (a:Int):ishr .u64 a 8=a/256:=k3d _ _ _
theorem ishr1 (a:Int):ishr .u64 a 1=a/2:=k3d _ _ _
theorem km7 (a b:Int) (ha:0<=a/\a<18446744073709551616) (hb:0<=b/\b<18446744073709551616):
  ((a/4294967296*(b/4294967296)+((a/4294967296*(b%4294967296)+a%4294967296*(b%4294967296)/4294967296)/4294967296))+((a/4294967296*(b%4294967296)+a%4294967296*(b%4294967296)/4294967296)%4294967296+a%4294967296*(b/4294967296))/4294967296)=a*b/18446744073709551616/\
  a%4294967296*(b%4294967296)<18446744073709551616/\a/4294967296*(b%4294967296)+a%4294967296*(b%4294967296)/4294967296<18446744073709551616/\
  a%4294967296*(b/4294967296)<18446744073709551616-4294967296/\a/4294967296*(b/4294967296)<18446744065119617026/\0<=a%4294967296*(b%4294967296)/\0<=a/4294967296*(b%4294967296)/\0<=a%4294967296*(b/4294967296)/\0<=a/4294967296*(b/4294967296):=by
 have h1:∀x y:Int,0<=x->x<=4294967295->0<=y->y<=4294967295->0<=x*y/\x*y<=18446744065119617025:=by intro x y h0 h1 h2 h3;exact⟨qbj h0 h2,by have:=qbw h1 h3 h2 qqo;omega⟩
 have a1:=h1 (a%4294967296) (b%4294967296) qqo qqo qqo qqo;have a2:=h1 (a/4294967296) (b%4294967296) qqo qqo qqo qqo;have a3:=h1 (a%4294967296) (b/4294967296) qqo qqo qqo qqo;have a4:=h1 (a/4294967296) (b/4294967296) qqo qqo qqo qqo
 have e:a*b=a/4294967296*(b/4294967296)*18446744073709551616+(a/4294967296*(b%4294967296)+a%4294967296*(b/4294967296))*4294967296+a%4294967296*(b%4294967296):=by
  have ea:a=a/4294967296*4294967296+a%4294967296:=by omega
  have eb:b=b/4294967296*4294967296+b%4294967296:=by omega
  conv=>lhs;rw[ea,eb]
  generalize a/4294967296=x;generalize a%4294967296=y;generalize b/4294967296=z;generalize b%4294967296=t;grind
 generalize a%4294967296*(b%4294967296)=p0 at *
 generalize a/4294967296*(b%4294967296)=p1 at *
 generalize a%4294967296*(b/4294967296)=p2 at *
 generalize a/4294967296*(b/4294967296)=p3 at *
 generalize a*b=ab at *
 refine⟨?_,?_,?_,?_,?_,?_,?_,?_,?_⟩<;>omega
structure Half (U x a b Q:Int):Prop where
 hU:0<=U
 hUv:U<a*4294967296+b
 hx:0<=x/\x<4294967296
 ha:2147483648<=a/\a<4294967296
 hb:0<=b/\b<4294967296
 hQ:Q=(U*4294967296+x)/(a*4294967296+b)
theorem Half.q {U x a b Q:Int} (h:Half U x a b Q):0<=Q/\Q<4294967296/\Q*(a*4294967296+b)<=U*4294967296+x/\U*4294967296+x<(Q+1)*(a*4294967296+b):=by
 obtain⟨h1,h2,h3,h4,h5,h6⟩:=h;have hv:0<a*4294967296+b:=by omega
 have e:=qdn (U*4294967296+x) (a*4294967296+b);have l:=qbm (U*4294967296+x) (by omega:a*4294967296+b≠0);have r:=qbf (U*4294967296+x) hv;rw[<-h6]at e;generalize hvv:a*4294967296+b=v at *
 have e2:(Q+1)*v=Q*v+v:=by grind
 have e3:v*Q=Q*v:=by grind
 have q0:0<=Q:=by rw[h6];exact qeg qqo qqo
 have q1:Q<4294967296:=by rw[h6];exact Int.ediv_lt_of_lt_mul hv qqo
 refine⟨q0,q1,by omega,by omega⟩
theorem Half.exit {U x a b Q q r:Int} (h:Half U x a b Q) (e:q*a+r=U) (hq:Q<=q) (h2:q*b<=r*4294967296+x):q=Q:=by
 obtain⟨q0,q1,q2,q3⟩:=h.q;have h4:=h.ha
 have:q*(a*4294967296+b)<=U*4294967296+x:=by
  have:q*(a*4294967296+b)=q*a*4294967296+q*b:=by grind
  rw[this];generalize q*a=qa at *
  omega
 have h5:q<Q+1:=by
  have hv:0<a*4294967296+b:=by have:=h.hb;omega
  exact qcw qqo (qdj hv)
 omega
theorem Half.down {U x a b Q q r:Int} (h:Half U x a b Q) (e:q*a+r=U) (h2:4294967296<=q∨r*4294967296+x<q*b):Q<=q-1:=by
 obtain⟨q0,q1,q2,q3⟩:=h.q;rcases h2 with h2|h2
 ·omega
 ·have:U*4294967296+x<q*(a*4294967296+b):=by
   have:q*(a*4294967296+b)=q*a*4294967296+q*b:=by grind
   rw[this];generalize q*a=qa at *
   omega
  have h5:Q<q:=by
   have hv:0<a*4294967296+b:=by have:=h.hb;have:=h.ha;omega
   exact qcw (a:=a*4294967296+b) qqo (qdj hv)
  omega
theorem Half.small {U x a b Q q r:Int} (h:Half U x a b Q) (e:q*a+r=U) (hr:4294967296<=r):q<4294967296:=by
 have h2:=h.hUv;have h4:=h.ha;have h5:=h.hb;have:q*a<4294967296*a:=by generalize q*a=qa at *;omega
 exact qcw this qqo
theorem Half.done {U x a b Q q r:Int} (h:Half U x a b Q) (e:q*a+r=U) (hq:Q<=q) (hr:4294967296<=r):q=Q:=by refine h.exit e hq ?_;have h1:=h.small e hr;obtain⟨q0,_⟩:=h.q;have h5:=h.hb;have h6:=h.hx;have:q*b<=4294967296*4294967296:=qbw qqo qqo qqo qqo;omega
theorem Half.rest {U x a b Q:Int} (h:Half U x a b Q):(U*4294967296+x)-Q*(a*4294967296+b)=(U*4294967296+x)%(a*4294967296+b)/\0<=(U*4294967296+x)%(a*4294967296+b)/\(U*4294967296+x)%(a*4294967296+b)<a*4294967296+b:=by
 have hv:0<a*4294967296+b:=by have:=h.hb;have:=h.ha;omega
 have e:=qdn (U*4294967296+x) (a*4294967296+b);rw[<-h.hQ]at e;have:=qeb (a*4294967296+b) Q;exact⟨by omega,qbm _ qqo,qbf _ hv⟩
theorem kjh {N y p U un1 un0 Q1 R1 Q0 R0:Int} (hp:0<p) (hy:0<y) (hN:N*p=U*18446744073709551616+un1*4294967296+un0) (h1:U*4294967296+un1-Q1*(y*p)=R1) (h0:R1*4294967296+un0-Q0*(y*p)=R0)
  (hr:0<=R0/\R0<y*p):Q1*4294967296+Q0=N/y/\R0/p=N%y:=by
 have e:N*p=(Q1*4294967296+Q0)*(y*p)+R0:=by
  rw[hN];have:(Q1*4294967296+Q0)*(y*p)=Q1*(y*p)*4294967296+Q0*(y*p):=by grind
  rw[this];generalize Q1*(y*p)=a at *
  generalize Q0*(y*p)=b at *
  omega
 have e2:R0=(N-(Q1*4294967296+Q0)*y)*p:=by grind
 have h3:0<=N-(Q1*4294967296+Q0)*y:=by
  rcases Int.lt_or_le (N-(Q1*4294967296+Q0)*y) 0 with h|h
  ·exfalso;have:(N-(Q1*4294967296+Q0)*y)*p<0:=Int.mul_neg_of_neg_of_pos h hp;omega
  ·exact h
 have h4:N-(Q1*4294967296+Q0)*y<y:=by refine qcw (a:=p) ?_ (qdj hp);omega
 have e3:N=(N-(Q1*4294967296+Q0)*y)+y*(Q1*4294967296+Q0):=by grind
 constructor
 ·conv=>rhs;rw[e3]
  rw[Int.add_mul_ediv_left _ _ qqo,Int.ediv_eq_zero_of_lt h3 h4];omega
 ·rw[e2,Int.mul_ediv_cancel _ qqo];conv=>rhs;rw[e3]
  rw[Int.add_mul_emod_self_left,qdd h3 h4]
end Go.Md
namespace Go.Md
open Go Go.Bv
theorem ix_nat {α:Type} [Inhabited α] (l:List α) (i:Int) (h0:0<=i) (h1:i<(l.length:Int)):ix l i=l[i.toNat]' qqo:=by
 have:i.toNat<l.length:=by omega
 simp[ix,this]
theorem ix_mem {α:Type} [Inhabited α] (l:List α) (i:Int) (h0:0<=i) (h1:i<(l.length:Int)):ix l i∈l:=by rw[ix_nat l i h0 h1];exact qab _
theorem inc (i n:Int) (h0:0<=i) (h:i<n) (hn:n<=9223372036854775807):IntKind.i64.wrap (i+1)=i+1:=kar _ qqo qqo
theorem wi (n:Int) (h0: -9223372036854775808<=n) (h:n<=9223372036854775807):IntKind.i64.wrap n=n:=kar n h0 qqo
theorem wu (n:Int) (h0:0<=n) (h:n<=18446744073709551615):IntKind.u64.wrap n=n:=wrap_u64 n h0 qqo
theorem tdiv_nn (a b:Int) (h:0<=a):Int.tdiv a b=a/b:=Int.tdiv_eq_ediv_of_nonneg h
theorem tmod_nn (a b:Int) (h:0<=a):Int.tmod a b=a%b:=Int.tmod_eq_emod_of_nonneg h
theorem ke {α:Type} [Inhabited α] (l:List α) (i:Int) (h0:0<=i) (h1:i<(l.length:Int)):l.take (i+1).toNat=l.take i.toNat++[ix l i]:=by rw[ix_nat l i h0 h1,show(i+1).toNat=i.toNat+1 by omega,qu qqo]
theorem drop_ix {α:Type} [Inhabited α] (l:List α) (i:Int) (h0:0<=i) (h1:i<(l.length:Int)):l.drop i.toNat=ix l i::l.drop (i+1).toNat:=by rw[ix_nat l i h0 h1,show(i+1).toNat=i.toNat+1 by omega];exact qbr qqo
theorem kil {α:Type} (l m:List α) (h:l.length=m.length):rowOver l m l.length=m:=by simp[rowOver,h]
theorem k6v (a m:Int):∀k:Nat,(a%m)^k%m=a^k%m
 |0=>by simp
 |k+1=>by rw[qcn,qcn,qco,k6v a m k,qdc _ (qej _),<-qco]
abbrev U64 (n:Int):Prop:=0<=n/\n<18446744073709551616
abbrev By (l:Li):Prop:=∀x∈l,0<=x/\x<256
abbrev Us (l:Li):Prop:=∀x∈l,0<=x/\x<18446744073709551616
def dig:Nat->Int->Li
 |0,_=>[]
 |k+1,n=>n%256::dig k (n/256)
def val:Li->Int
 |[]=>0
 |x::r=>x+256*val r
@[simp] theorem kf:∀(k:Nat) (n:Int),(dig k n).length=k
 |0,_=>rfl
 |k+1,n=>by simp[dig,kf k]
theorem k2f (k:Nat):(256:Int)^(k+1)=256*256^k:=by rw[qcn,qeb]
theorem k26 (k:Nat):(0:Int)<256^k:=Int.pow_pos qqo
theorem k6l:∀(k:Nat) (n:Int),dig (k+1) n=dig k n++[n/256^k%256]
 |0,n=>by simp[dig]
 |k+1,n=>by show n%256::dig (k+1) (n/256)=n%256::dig k (n/256)++_;rw[k6l k (n/256),k2f,qdv qqo];rfl
theorem dig_by:∀(k:Nat) (n:Int),By (dig k n)
 |0,_=>by intro x hx;cases hx
 |k+1,n=>by
  intro x hx;rcases qal.1 hx with rfl|hx
  ·omega
  ·exact dig_by k _ x hx
theorem k3k (k:Nat):(256:Int)^k=((2^(8*k):Nat):Int):=by rw[Nat.pow_mul,Int.natCast_pow];rfl
theorem k53 {k m:Nat} (h:k<=m):(256:Int)^k<=256^m:=by rw[k3k,k3k];exact Int.ofNat_le.2 (Nat.pow_le_pow_right qqo qqo)
theorem k5b:∀(l:Li),By l->0<=val l/\val l<256^l.length
 |[],_=>by simp[val]
 |x::r,h=>by have h1:=k5b r (fun y hy=>h y (by simp[hy]));have h2:=h x qqs;rw[qay,k2f];simp only[val];omega
theorem k72:∀(l:Li) (x:Int),val (l++[x])=val l+256^l.length*x
 |[],x=>by simp[val]
 |y::r,x=>by simp only[List.cons_append,val,k72 r x,qay,k2f];grind
theorem val8 (l:Li) (h:By l) (hl:l.length<=8):U64 (val l):=by have h1:=k5b l h;have:(256:Int)^l.length<=256^8:=k53 hl;exact⟨h1.1,by omega⟩
theorem ior_val (l:Li) (x:Int) (hl:By l) (h8:l.length<8) (hx:0<=x/\x<256):ior .u64 (val l) (ishl .u64 x (8*(l.length:Int)))=val (l++[x]):=by
 have h1:=k5b l hl;rw[k72,kft,show min (8*(l.length:Int)).toNat 64=8*l.length by omega,<-k3k];have h2:x*256^l.length+256^l.length<=256*256^l.length:=by have:=k26 l.length;have:(x+1)*256^l.length<=256*256^l.length:=Int.mul_le_mul_of_nonneg_right qqo qqo;grind
 have h3:(256:Int)*256^l.length<=256^8:=by rw[<-k2f];exact k53 qqo
 have h4:0<=x*256^l.length:=qbj hx.1 (qdj (k26 _));rw[qdd h4 qqo];obtain⟨a,ha⟩:=qag h1.1;obtain⟨c,hc⟩:=qag hx.1;have key:=ior_add a c (8*l.length);rw[k3k]at h1 h2 h3 h4 ⊢;generalize 2^(8*l.length)=P at *
 rw[ha]at h1;rw[hc]at h2 h4;have e:(c:Int)*(P:Int)=((P*c:Nat):Int):=by rw[qeu];exact(qdb _ _).symm
 have e' :(P:Int)*(c:Int)=((P*c:Nat):Int):=(qdb _ _).symm;rw[e]at h2 h4;rw[ha,hc,e,e'];generalize P*c=R at *
 rw[key qqo qqo];exact Int.natCast_add _ _
def len4 (n:Int):Int:=if n<0∨4294967295<n then 0 else n
theorem len4_in {n:Int} (h:0<=n/\n<=4294967295):len4 n=n:=qm qqo
def encL (l:Li):Li:=dig 4 (len4 l.length)++l.flatMap (dig 8)
def encB (l:Li):Li:=dig 4 (len4 l.length)++l
theorem k1y (l:Li):(l.flatMap (dig 8)).length=8*l.length:=by
 induction l with
 |nil=>rfl
 |cons x r ih=>rw[qbe,qj,ih,kf,qay];omega
@[simp] theorem kq (l:Li):(encL l).length=4+8*l.length:=by rw[encL,qj,k1y,kf]
@[simp] theorem k3m (l:Li):(encB l).length=4+l.length:=by simp[encB]
theorem By.append {a b:Li} (ha:By a) (hb:By b):By (a++b):=fun x hx=>(qaz.1 hx).elim (ha x) (hb x)
theorem km4 (l:Li):By (l.flatMap (dig 8)):=fun x hx=>by obtain⟨y,_,hy⟩:=qcm.1 hx;exact dig_by 8 y x hy
theorem encL_by (l:Li):By (encL l):=(dig_by _ _).append (km4 l)
theorem encB_by {l:Li} (h:By l):By (encB l):=(dig_by _ _).append h
theorem By.take {l:Li} (h:By l) (n:Nat):By (l.take n):=fun x hx=>h x (qbz hx)
theorem By.drop {l:Li} (h:By l) (n:Nat):By (l.drop n):=fun x hx=>h x (qby hx)
theorem By.us {l:Li} (h:By l):Us l:=fun x hx=>by have:=h x hx;omega
def packN:Nat->Li->Li
 |0,_=>[]
 |n+1,l=>match l with
  |[]=>[]
  |x::r=>val ((x::r).take 7)::packN n ((x::r).drop 7)
def packS (l:Li):Li:=(l.length:Int)::packN l.length l
theorem kb2:∀(n m:Nat) (l:Li),l.length<=n->l.length<=m->packN n l=packN m l
 |0,0,_,_,_=>rfl
 |0,m+1,[],_,_=>rfl
 |n+1,0,[],_,_=>rfl
 |n+1,m+1,[],_,_=>rfl
 |0,_,_::_,h,_=>by simp at h
 |n+1,0,_::_,_,h=>by simp at h
 |n+1,m+1,x::r,h,h' =>by simp only[packN];rw[kb2 n m _ (by simp at h ⊢;omega) (by simp at h' ⊢;omega)]
theorem k4a (n:Nat) (l:Li) (h:l.length<=n) (h0:l≠[]):packN n l=val (l.take 7)::packN n (l.drop 7):=by
 cases l with
 |nil=>exact absurd rfl h0
 |cons x r=>
  cases n with
  |zero=>simp at h
  |succ n=>show val ((x::r).take 7)::packN n ((x::r).drop 7)=_;rw[kb2 n (n+1) _ (by simp at h ⊢;omega) (by simp at h ⊢;omega)]
theorem ka3:∀(n:Nat) (l:Li),By l->Us (packN n l)
 |0,_,_=>by intro x hx;cases hx
 |n+1,[],_=>by intro x hx;cases hx
 |n+1,x::r,h=>by
  intro y hy;rcases qal.1 hy with rfl|hy
  ·exact val8 _ (h.take 7) qqm
  ·exact ka3 n _ (h.drop 7) y hy
theorem k31:∀(n:Nat) (l:Li),(packN n l).length<=n
 |0,_=>by simp[packN]
 |n+1,[]=>by simp[packN]
 |n+1,x::r=>by simp only[packN,qay];have:=k31 n ((x::r).drop 7);omega
end Go.Md
namespace Go.Md
open Go Go.Bv
def len64 (x:Int):Int:=if x=0 then 0 else(Nat.log2 x.toNat+1:Nat)
theorem k5k (x:Int) (k:Nat) (h:((2^k:Nat):Int)<=x):len64 (x/((2^k:Nat):Int))+k=len64 x:=by
 obtain⟨n,rfl⟩:=qag (by have:=qeh k;omega:0<=x);have hp:0<2^k:=qeh k;have hn:2^k<=n:=by omega
 have e:((n:Int)/((2^k:Nat):Int))=((n/2^k:Nat):Int):=(Int.natCast_ediv _ _).symm;have h1:0<n/2^k:=Nat.div_pos hn hp;unfold len64;rw[e,qm qqo,qm qqo,qac,qac]
 have:Nat.log2 n=Nat.log2 (n/2^k)+k:=by
  rw[Nat.log2_eq_iff qqo];have a:=Nat.log2_self_le (n:=n/2^k) qqo;have b:=Nat.lt_log2_self (n:=n/2^k);rw[Nat.le_div_iff_mul_le hp]at a;rw[qeq hp]at b;constructor
  ·rw[Nat.pow_add];exact a
  ·rw[show Nat.log2 (n/2^k)+k+1=Nat.log2 (n/2^k)+1+k by omega,Nat.pow_add];exact b
 omega
theorem kbi (y:Int) (h:0<y/\y<18446744073709551616):∃s:Nat,64-len64 y=(s:Int)/\s<=63/\9223372036854775808<=y*((2^s:Nat):Int)/\y*((2^s:Nat):Int)<18446744073709551616:=by
 obtain⟨n,rfl⟩:=qag (by omega:0<=y);have l:Nat.log2 n<64:=(Nat.log2_lt qqo).2 qqo;have a:=Nat.log2_self_le (n:=n) qqo;have b:=Nat.lt_log2_self (n:=n);refine⟨63-Nat.log2 n,?_,by omega,?_,?_⟩
 ·unfold len64;rw[qm qqo,qac];omega
 ·have:2^63<=n*2^(63-Nat.log2 n):=by rw[show(63:Nat)=Nat.log2 n+(63-Nat.log2 n)by omega,Nat.pow_add,show Nat.log2 n+(63-Nat.log2 n)-Nat.log2 n=63-Nat.log2 n by omega];exact qau _ a
  rw[<-qdb];generalize n*2^(63-Nat.log2 n)=m at *
  omega
 ·have:n*2^(63-Nat.log2 n)<2^64:=by rw[show(64:Nat)=Nat.log2 n+1+(63-Nat.log2 n)by omega,Nat.pow_add];exact Nat.mul_lt_mul_of_pos_right b (qeh _)
  rw[<-qdb];generalize n*2^(63-Nat.log2 n)=m at *
  omega
def tab8:ByteArray:=⟨#[0,1,2,2,3,3,3,3,4,4,4,4,4,4,4,4,5,5,5,5,5,5,5,5,5,5,5,5,5,5,5,5,6,6,6,6,6,6,6,6,6,6,6,6,6,6,6,6,6,6,6,6,6,6,6,6,6,6,6,6,6,6,6,6,7,7,7,7,7,7,7,7,7,7,7,7,7,7,7,7,7,7,7,7,7,7,7,7,7,7,7,7,7,7,7,7,7,7,7,7,7,7,7,7,7,7,7,7,7,7,7,7,7,7,7,7,7,7,7,7,7,7,7,7,7,7,7,7,8,8,8,8,8,8,8,8,8,8,8,8,8,8,8,8,8,8,8,8,8,8,8,8,8,8,8,8,8,8,8,8,8,8,8,8,8,8,8,8,8,8,8,8,8,8,8,8,8,8,8,8,8,8,8,8,8,8,8,8,8,8,8,8,8,8,8,8,8,8,8,8,8,8,8,8,8,8,8,8,8,8,8,8,8,8,8,8,8,8,8,8,8,8,8,8,8,8,8,8,8,8,8,8,8,8,8,8,8,8,8,8,8,8,8,8,8,8,8,8,8,8,8,8,8,8,8,8]⟩
theorem kly:∀b:Nat,b<256->Cv.byteAt tab8 (b:Int)=len64 (b:Int):=by decide +kernel
theorem khg (x:Int) (h:0<=x/\x<256):Cv.byteAt tab8 x=len64 x:=by obtain⟨n,rfl⟩:=qag h.1;exact kly n qqo
theorem kia (x:Int) (h:0<=x/\x<256):0<=len64 x/\len64 x<=8:=by
 rw[<-khg x h];obtain⟨n,rfl⟩:=qag h.1;have:∀b:Nat,b<256->0<=Cv.byteAt tab8 (b:Int)/\Cv.byteAt tab8 (b:Int)<=8:=by decide +kernel
 exact this n qqo
theorem klf:tab8.size=256:=by decide +kernel
end Go.Md
namespace Go.Md
open Go Go.Bv Go.Cv Go.Md Go.RowKit
section
variable {α β:Type}
def AllI (f:α->Bool) (l:List α) (i:Int):Prop:=0<=i/\i<=l.length/\∀x∈l.take i.toNat,f x=true
theorem AllI.start {f:α->Bool} {l:List α}:AllI f l 0:=⟨by omega,by omega,by simp⟩
theorem AllI.next [Inhabited α] {f:α->Bool} {l:List α} {i:Int} (h:AllI f l i) (hh:i<l.length) (hl:(l.length:Int)<=9223372036854775807) (hf:f (ix l i)=true):
  AllI f l (IntKind.i64.wrap (i+1))/\(l.length-IntKind.i64.wrap (i+1)).toNat<(l.length-i).toNat:=by
 obtain⟨g0,g1,g2⟩:=h;rw[inc i l.length g0 hh hl];refine⟨⟨by omega,by omega,?_⟩,by omega⟩;rw[ke l i g0 hh];intro x hx;rcases qaz.1 hx with hx|hx
 ·exact g2 x hx
 ·have:x=ix l i:=by simpa using hx
  rw[this];exact hf
theorem AllI.bad [Inhabited α] {f:α->Bool} {l:List α} {i:Int} (h:AllI f l i) (hh:i<l.length) (hf:f (ix l i)=false):l.all f=false:=qci.2 ⟨ix l i,Md.ix_mem l i h.1 hh,by simp[hf]⟩
theorem AllI.done {f:α->Bool} {l:List α} {i:Int} (h:AllI f l i) (hh:¬i<l.length):l.all f=true:=by obtain⟨g0,g1,g2⟩:=h;rw[qi qqo]at g2;exact qbi.2 g2
def FoldI (f:β->α->β) (z:β) (l:List α) (i:Int) (s:β):Prop:=0<=i/\i<=l.length/\s=(l.take i.toNat).foldl f z
theorem FoldI.start {f:β->α->β} {z:β} {l:List α}:FoldI f z l 0 z:=⟨by omega,by omega,by simp⟩
theorem FoldI.next [Inhabited α] {f:β->α->β} {z:β} {l:List α} {i:Int} {s s' :β} (h:FoldI f z l i s) (hh:i<l.length) (hl:(l.length:Int)<=9223372036854775807) (hs:s' =f s (ix l i)):
  FoldI f z l (IntKind.i64.wrap (i+1)) s'/\(l.length-IntKind.i64.wrap (i+1)).toNat<(l.length-i).toNat:=by
 obtain⟨g0,g1,g2⟩:=h;rw[inc i l.length g0 hh hl];refine⟨⟨by omega,by omega,?_⟩,by omega⟩;rw[ke l i g0 hh,List.foldl_append,<-g2,hs];rfl
theorem FoldI.done {f:β->α->β} {z:β} {l:List α} {i:Int} {s:β} (h:FoldI f z l i s) (hh:¬i<l.length):s=l.foldl f z:=by
 obtain⟨g0,g1,g2⟩:=h
 rwa [qi qqo]at g2
def FlatI (f:α->List β) (z:List β) (l:List α) (i:Int) (s:List β):Prop:=0<=i/\i<=l.length/\s=z++(l.take i.toNat).flatMap f
theorem FlatI.start {f:α->List β} {z:List β} {l:List α}:FlatI f z l 0 z:=⟨by omega,by omega,by simp⟩
theorem FlatI.next [Inhabited α] {f:α->List β} {z:List β} {l:List α} {i:Int} {s s' :List β} (h:FlatI f z l i s) (hh:i<l.length) (hl:(l.length:Int)<=9223372036854775807) (hs:s' =s++f (ix l i)):
  FlatI f z l (IntKind.i64.wrap (i+1)) s'/\(l.length-IntKind.i64.wrap (i+1)).toNat<(l.length-i).toNat:=by
 obtain⟨g0,g1,g2⟩:=h;rw[inc i l.length g0 hh hl];refine⟨⟨by omega,by omega,?_⟩,by omega⟩;rw[ke l i g0 hh,qbp,hs,g2];simp
theorem FlatI.done {f:α->List β} {z:List β} {l:List α} {i:Int} {s:List β} (h:FlatI f z l i s) (hh:¬i<l.length):s=z++l.flatMap f:=by
 obtain⟨g0,g1,g2⟩:=h
 rwa [qi qqo]at g2
theorem FlatI.len {f:α->List β} {z:List β} {l:List α} {i:Int} {s:List β} (h:FlatI f z l i s) (k:Nat) (hk:∀x∈l,(f x).length<=k):s.length<=z.length+k*l.length:=by
 obtain⟨g0,g1,g2⟩:=h
 have key:∀(m:List α),(∀x∈m,(f x).length<=k)->(m.flatMap f).length<=k*m.length:=by
  intro m;induction m with
  |nil=>simp
  |cons a m ih=>intro hm;have h1:=ih (fun x hx=>hm x (by simp[hx]));have h2:=hm a qqs;rw[qbe,qj,qay,Nat.mul_add];omega
 have h1:=key (l.take i.toNat) (fun x hx=>hk x (qbz hx));have h2:k*(l.take i.toNat).length<=k*l.length:=Nat.mul_le_mul_left _ (by rw[qn];omega);rw[g2,qj];omega
def MapI (f:α->β) (l:List α) (i:Int) (s:List β):Prop:=0<=i/\i<=l.length/\s=(l.take i.toNat).map f
theorem MapI.start {f:α->β} {l:List α}:MapI f l 0 []:=⟨by omega,by omega,by simp⟩
theorem MapI.next [Inhabited α] {f:α->β} {l:List α} {i:Int} {s s' :List β} (h:MapI f l i s) (hh:i<l.length) (hl:(l.length:Int)<=9223372036854775807) (hs:s' =s++[f (ix l i)]):
  MapI f l (IntKind.i64.wrap (i+1)) s'/\(l.length-IntKind.i64.wrap (i+1)).toNat<(l.length-i).toNat:=by
 obtain⟨g0,g1,g2⟩:=h;rw[inc i l.length g0 hh hl];refine⟨⟨by omega,by omega,?_⟩,by omega⟩;rw[ke l i g0 hh,qbd,hs,g2];simp
theorem MapI.done {f:α->β} {l:List α} {i:Int} {s:List β} (h:MapI f l i s) (hh:¬i<l.length):s=l.map f:=by
 obtain⟨g0,g1,g2⟩:=h
 rwa [qi qqo]at g2
theorem MapI.len {f:α->β} {l:List α} {i:Int} {s:List β} (h:MapI f l i s):s.length=i.toNat:=by obtain⟨g0,g1,g2⟩:=h;rw[g2,qf,qn];omega
def EqI [Inhabited α] (f:α->α->Bool) (l m:List α) (i:Int):Prop:=0<=i/\i<=l.length/\∀j:Nat,(j:Int)<i->f (ix l j) (ix m j)=true
theorem EqI.start [Inhabited α] {f:α->α->Bool} {l m:List α}:EqI f l m 0:=⟨by omega,by omega,fun j hj=>by omega⟩
theorem EqI.next [Inhabited α] {f:α->α->Bool} {l m:List α} {i:Int} (h:EqI f l m i) (hh:i<l.length) (hl:(l.length:Int)<=9223372036854775807) (hf:f (ix l i) (ix m i)=true):
  EqI f l m (IntKind.i64.wrap (i+1))/\(l.length-IntKind.i64.wrap (i+1)).toNat<(l.length-i).toNat:=by
 obtain⟨g0,g1,g2⟩:=h;rw[inc i l.length g0 hh hl];refine⟨⟨by omega,by omega,fun j hj=> ?_⟩,by omega⟩;by_cases hji:(j:Int)=i
 ·rw[hji];exact hf
 ·exact g2 j qqo
def eqB (f:α->α->Bool):List α->List α->Bool
 |[],[]=>true
 |a::l,b::m=>f a b&&eqB f l m
 |_,_=>false
theorem eqB_iff [Inhabited α] {f:α->α->Bool}:∀{l m:List α},eqB f l m=true↔l.length=m.length/\∀j:Nat,j<l.length->f (ix l (j:Int)) (ix m (j:Int))=true
 |[],[]=>by simp[eqB]
 |[],_::_=>by simp[eqB]
 |_::_,[]=>by simp[eqB]
 |a::l,b::m=>by
  have e:∀(a:α) (l:List α) (j:Nat),j<l.length->ix (a::l) ((j+1:Nat):Int)=ix l (j:Int):=by intro a l j hj;rw[ix_nat _ _ qqo qqm,ix_nat _ _ qqo qqo];rfl
  have e0:∀(a:α) (l:List α),ix (a::l) ((0:Nat):Int)=a:=fun a l=>by rw[ix_nat _ _ qqo qqs];rfl
  simp only[eqB,qe,eqB_iff,qay];constructor
  ·rintro ⟨h1,h2,h3⟩;refine⟨by omega,fun j hj=> ?_⟩;cases j with
   |zero=>rw[e0,e0];exact h1
   |succ j=>rw[e a l j qqo,e b m j qqo];exact h3 j qqo
  ·rintro ⟨h1,h2⟩;have h3:=h2 0 qqo;rw[e0,e0]at h3;refine⟨h3,by omega,fun j hj=> ?_⟩;have:=h2 (j+1) qqo
   rwa [e a l j qqo,e b m j qqo]at this
theorem EqI.bad [Inhabited α] {f:α->α->Bool} {l m:List α} {i:Int} (h:EqI f l m i) (hh:i<l.length) (hf:f (ix l i) (ix m i)=false):eqB f l m=false:=by
 cases hq:eqB f l m with
 |false=>rfl
 |true=>have h0:=h.1;have:=(eqB_iff.1 hq).2 i.toNat qqo;rw[Int.toNat_of_nonneg h.1,hf]at this;cases this
theorem EqI.done [Inhabited α] {f:α->α->Bool} {l m:List α} {i:Int} (h:EqI f l m i) (hlm:l.length=m.length) (hh:¬i<l.length):eqB f l m=true:=eqB_iff.2 ⟨hlm,fun j hj=>h.2.2 j qqo⟩
end
@[simp] theorem knc {α:Type} (p:α->Bool):mHas p []=false:=rfl
@[simp] theorem knb {α β:Type} (p:α->Bool) (z:β) (vs:List β):mVal p [] vs z=z:=rfl
end Go.Md
namespace Go.Proofs.YtghlnaoogfcldaaGreat
open Go Go.Bv Go.Cv Go.Md Go.RowKit
open Go.IntKind (i64 u64)
def rc (r i:Int):Int:=(3*r+i+1)*11400714819323198485%18446744073709551616%18446744069414584321
def mixS (s:wZ):wZ:=⟨(s.a0+((s.a0+s.a1)%18446744069414584321+s.a2)%18446744069414584321)%18446744069414584321,(s.a1+((s.a0+s.a1)%18446744069414584321+s.a2)%18446744069414584321)%18446744069414584321,(s.a2+((s.a0+s.a1)%18446744069414584321+s.a2)%18446744069414584321)%18446744069414584321⟩
def pw (a e:Int):Int:=a^e.toNat%18446744069414584321
def rnd (s:wZ) (r:Int):wZ:=mixS ⟨pw ((s.a0+rc r 0)%18446744069414584321) 7,pw ((s.a1+rc r 1)%18446744069414584321) 7,pw ((s.a2+rc r 2)%18446744069414584321) 7⟩
def rnds:Nat->wZ->wZ
 |0,s=>s
 |n+1,s=>rnd (rnds n s) n
def permS (s:wZ):wZ:=rnds 8 s
def absL:Li->wZ->wZ
 |[],s=>s
 |[x],s=>permS ⟨(s.a0+x)%18446744069414584321,s.a1,s.a2⟩
 |x::y::r,s=>absL r (permS ⟨(s.a0+x)%18446744069414584321,(s.a1+y)%18446744069414584321,s.a2⟩)
def absI (label:Int) (l:Li):wZ:=⟨0,0,(label*65536%18446744069414584321+(l.length:Int))%18446744069414584321⟩
def absS (label:Int) (l:Li):wZ:=if l=[]then permS (absI label l)else absL l (absI label l)
def hashS (label:Int) (l:Li):Int:=(absS label l).a0
def hashB (label:Int) (b:Li):Int:=hashS label (packS b)
def S3 (s:wZ):Prop:=U64 s.a0/\U64 s.a1/\U64 s.a2
theorem S3m {a b c:Int} (ha:U64 a) (hb:U64 b) (hc:U64 c):S3 ⟨a,b,c⟩:=⟨ha,hb,hc⟩
theorem kic (s:wZ):S3 (permS s):=by show S3 (rnd _ _);unfold rnd mixS S3;dsimp only;omega
def idxI (l:Li) (v:Int):Int:=if v∈l then(l.idxOf v:Int)else -1
def vMarks (l:Li):Bool:=decide (l.length<=4)&&l.all (fun x=>decide (x<18446744069414584321))&&decide l.Nodup
def vPoint (a b:Int):Bool:=decide (a<18446744069414584321)&&(decide (b<18446744069414584321)&&(a !=0||b !=0))
def vOut (x:wR):Bool:=decide (x.wW<18446744069414584321)&&vPoint x.wP x.wO&&decide (x.wF.length=3)&&x.wF.all (fun n=>decide (n<18446744069414584321))
def vOuts (l:List wR):Bool:=decide (l.length<=4)&&l.all vOut
def vAmounts (t:wC):Bool:=decide (t.wH<=4294967295)&&decide (t.wG<=4294967295)&&decide (t.Fee<=4294967295)&&decide (t.wI<18446744069414584321)&&decide (t.wM<18446744069414584321)&&
 (if 0<t.wH then t.wG==0 else !t.wD.isEmpty&&t.wM==0&&(decide (0<t.wG)||t.wI==0))
def vRest (t:wC):Bool:=decide (t.wN<18446744069414584321)&&decide (0<=t.wJ)&&decide (t.wJ<=1048576)
def validE (t:wC):Int:=if vMarks t.wD&&vOuts t.wB&&vAmounts t&&vRest t then(if t.wK.length<=1048576 then 0 else 3)else 1
theorem k15 (t:wC):vAmounts t=true↔t.wH<=4294967295/\t.wG<=4294967295/\t.Fee<=4294967295/\t.wI<18446744069414584321/\t.wM<18446744069414584321/\(0<t.wH->t.wG=0)/\(¬0<t.wH->t.wD≠[]/\t.wM=0/\(0<t.wG∨t.wI=0)):=by
 unfold vAmounts;by_cases h:0<t.wH
 ·simp[h,and_assoc]
 ·simp[h,and_assoc]
structure OR (x:wR):Prop where
 c:U64 x.wW
 p0:U64 x.wP
 p1:U64 x.wO
 ci:Us x.wF
structure TR (t:wC):Prop where
 a:U64 t.wN
 m:Us t.wD
 o:∀x∈t.wB,OR x
 d:U64 t.wH
 w:U64 t.wG
 f:U64 t.Fee
 ac:U64 t.wI
 n:U64 t.wM
 e: -9223372036854775808<=t.wJ/\t.wJ<=9223372036854775807
 p:By t.wK
def encO (x:wR):Li:=dig 8 x.wW++dig 8 x.wP++dig 8 x.wO++encL x.wF
def encT (t:wC) (p:Li):Li:=dig 8 t.wN++encL t.wD++dig 4 (len4 t.wB.length)++t.wB.flatMap encO++dig 8 t.wH++dig 8 t.wG++dig 8 t.Fee++dig 8 t.wI++dig 8 t.wM++dig 4 (len4 t.wJ)++encB p
def weightS (t:wC):Int:=if validE t=0 then(encT t t.wK).length else 0
def idS (t:wC):Int:=if validE t=0 then hashB 14 (encT t t.wK)else 0
def smallB (t:wC) (p:Int):Bool:=decide (t.wD.length<=10)&&decide (t.wB.length<=10)&&t.wB.all (fun x=>decide (x.wF.length<=10))&&decide ((t.wK.length:Int)<=p)
structure TL (t:wC):Prop where
 m:t.wD.length<=4294967295
 o:t.wB.length<=4294967295
 c:∀x∈t.wB,x.wF.length<=4294967295
 p:t.wK.length<=4294967295
structure VO (x:wR):Prop where
 c:x.wW<18446744069414584321
 p:vPoint x.wP x.wO=true
 l:x.wF.length=3
 ci:∀n∈x.wF,n<18446744069414584321
theorem k78 (x:wR):vOut x=true↔VO x:=by unfold vOut;simp only[qe,qaw,qbi];exact⟨fun h=>⟨h.1.1.1,h.1.1.2,h.1.2,h.2⟩,fun h=>⟨⟨⟨h.c,h.p⟩,h.l⟩,h.ci⟩⟩
structure VT (t:wC):Prop where
 ml:t.wD.length<=4
 m:∀x∈t.wD,x<18446744069414584321
 mn:t.wD.Nodup
 ol:t.wB.length<=4
 o:∀x∈t.wB,VO x
 am:vAmounts t=true
 re:vRest t=true
 pl:t.wK.length<=1048576
theorem k3j (t:wC):validE t=0↔VT t:=by
 unfold validE;constructor
 ·intro h;split at h
  ·rename_i h1;split at h
   ·rename_i h2;simp only[qe,vMarks,vOuts,qaw,qbi]at h1;exact⟨h1.1.1.1.1.1,h1.1.1.1.1.2,h1.1.1.1.2,h1.1.1.2.1,fun x hx=>(k78 x).1 (h1.1.1.2.2 x hx),h1.1.2,h1.2,h2⟩
   ·simp at h
  ·simp at h
 ·intro h;have:(vMarks t.wD&&vOuts t.wB&&vAmounts t&&vRest t)=true:=by simp only[qe,vMarks,vOuts,qaw,qbi];exact⟨⟨⟨⟨⟨h.ml,h.m⟩,h.mn⟩,h.ol,fun x hx=>(k78 x).2 (h.o x hx)⟩,h.am⟩,h.re⟩
  rw[ql this,ql h.pl]
theorem VT.tl {t:wC} (h:VT t):TL t:=⟨by have:=h.ml;omega,by have:=h.ol;omega,fun x hx=>by have:=(h.o x hx).l;omega,by have:=h.pl;omega⟩
theorem encO_by {x:wR}:By (encO x):=((((dig_by _ _).append (dig_by _ _)).append (dig_by _ _)).append (encL_by _))
theorem kmi (l:List wR):By (l.flatMap encO):=fun x hx=>by obtain⟨y,_,hy⟩:=qcm.1 hx;exact encO_by x hy
theorem encT_by {t:wC} {p:Li} (h:By p):By (encT t p):=((((((((((dig_by _ _).append (encL_by _)).append (dig_by _ _)).append (kmi _)).append (dig_by _ _)).append (dig_by _ _)).append (dig_by _ _)).append (dig_by _ _)).append (dig_by _ _)).append (dig_by _ _)).append (encB_by h)
theorem kif (x:wR):(encO x).length=28+8*x.wF.length:=by simp[encO];omega
theorem k1d:∀(l:List wR) (k:Nat),(∀x∈l,x.wF.length<=k)->(l.flatMap encO).length<=(28+8*k)*l.length
 |[],_,_=>by simp
 |x::r,k,h=>by have h1:=k1d r k (fun y hy=>h y (by simp[hy]));have h2:=h x qqs;rw[qbe,qj,kif,qay,Nat.mul_add];omega
theorem k9o (t:wC) (p:Li):(encT t p).length=64+8*t.wD.length+(t.wB.flatMap encO).length+p.length:=by simp only[encT,qj,kf,kq,k3m];omega
theorem VT.enc_len {t:wC} (h:VT t) (p:Li):(encT t p).length<=304+p.length:=by have h1:=h.ml;have h2:=h.ol;have h3:=k1d t.wB 3 (fun x hx=>by have:=(h.o x hx).l;omega);rw[k9o];omega
theorem kg2 {t:wC} {p:Int} (h:smallB t p=true) (hp:p<=1048576:=by omega):TL t:=by unfold smallB at h;simp only[qe,qaw,qbi]at h;exact⟨by omega,by omega,fun x hx=>by have:=h.1.2 x hx;omega,by omega⟩
structure RD where
 n:Int
 ok:Bool
 pos:Int
 fail:Bool
structure RL where
 l:Li
 pos:Int
 fail:Bool
structure RdOk (b:Li) (pos:Int):Prop where
 by_:By b
 len:b.length<=137438953472
 pos0:0<=pos
 pos1:pos<=b.length
def rdD (b:Li) (pos:Int) (f:Bool) (size:Int):RD:=if f=true∨(b.length:Int)-pos<size then⟨0,false,pos,true⟩else⟨val ((b.drop pos.toNat).take size.toNat),true,pos+size,false⟩
def rdI (b:Li) (pos:Int) (f:Bool) (m:Int):RD:=if(rdD b pos f 4).ok=false∨m<(rdD b pos f 4).n then⟨0,false,(rdD b pos f 4).pos,true⟩else rdD b pos f 4
def rdB (b:Li) (pos:Int) (f:Bool) (m:Int):RL:=if(rdI b pos f m).fail=true∨(b.length:Int)-(rdI b pos f m).pos<(rdI b pos f m).n then⟨[],(rdI b pos f m).pos,true⟩else⟨(b.take ((rdI b pos f m).pos+(rdI b pos f m).n).toNat).drop (rdI b pos f m).pos.toNat,(rdI b pos f m).pos+(rdI b pos f m).n,false⟩
def nums:Nat->Li->Li
 |0,_=>[]
 |k+1,b=>val (b.take 8)::nums k (b.drop 8)
@[simp] theorem kio:∀(k:Nat) (b:Li),(nums k b).length=k
 |0,_=>rfl
 |k+1,b=>by simp[nums,kio k]
structure Enc (t:wC) (b:Li):Prop where
 r:TR t
 v:VT t
 e:encT t t.wK=b
open Classical in
theorem Enc.us {t:wC} {b:Li} (h:Enc t b):t.wN<=18446744069414584320/\t.wH<=4294967295/\t.wG<=4294967295/\t.Fee<=4294967295/\t.wI<=18446744069414584320/\t.wM<=18446744069414584320/\0<=t.wJ/\t.wJ<=1048576:=by have h1:=(k15 t).1 h.v.am;have h2:=h.v.re;unfold vRest at h2;simp only[qe,qaw]at h2;omega
theorem VO.us {x:wR} (h:VO x):x.wW<=18446744069414584320/\x.wP<=18446744069414584320/\x.wO<=18446744069414584320:=by have h1:=h.c;have h2:=h.p;unfold vPoint at h2;simp only[qe,qaw]at h2;omega
structure TD (t:wC):Prop where
 r:TR t
 l:TL t
 o:t.wB.length<=1048576
 c:∀x∈t.wB,x.wF.length<=1024
theorem Enc.td {t:wC} {b:Li} (h:Enc t b):TD t:=⟨h.r,h.v.tl,by have:=h.v.ol;omega,fun x hx=>by have:=(h.v.o x hx).l;omega⟩
def sameT (a b:wC):Bool:=decide (a.wB.length=b.wB.length)&&a.wJ==b.wJ&&decide (a.wB.map (·.wF.length)=b.wB.map (·.wF.length))&&decide (encT a a.wK=encT b b.wK)
@[simp] theorem kjz (a:wC):sameT a a=true:=by simp[sameT]
structure TK where
 n:Int
 r:Li
 ok:Bool
structure TKL where
 l:Li
 r:Li
 ok:Bool
structure RB where
 l:Li
 b:Li
 f:Bool
structure RN where
 n:Int
 b:Li
 f:Bool
def tkB (b:Li) (f:Bool) (k:Int):RB:=if f=true∨(b.length:Int)<k then⟨[],b,true⟩else⟨b.take k.toNat,b.drop k.toNat,false⟩
theorem k8i:∀(q n:Nat) (l m:Li),l.length=7*q->l.length+m.length<=n->packN n (l++m)=packN n l++packN n m
 |0,n,l,m,h,_=>by
  have:l=[]:=qap qqo;subst this;have:packN n []=[]:=by cases n<;>rfl
  rw[this];rfl
 |q+1,n,l,m,h,hn=>by
  have hl:l≠[]:=by rintro rfl;simp at h
  have hlm:l++m≠[]:=by simp[hl]
  rw[k4a n l qqo hl,k4a n (l++m) qqm hlm];have e1:(l++m).take 7=l.take 7:=by rw[List.take_append_of_le_length qqo]
  have e2:(l++m).drop 7=l.drop 7++m:=by rw[List.drop_append_of_le_length qqo]
  rw[e1,e2,k8i q n (l.drop 7) m qqm qqm];rfl
theorem kcp {n:Nat} {l:Li} (h0:l≠[]) (h7:l.length<=7) (hn:l.length<=n):packN n l=[val l]:=by rw[k4a n l hn h0,qi h7,qbg h7];cases n<;>rfl
def pkF (p:Li) (i:Nat):Li:=packN p.length (p.take (7*(i/7)))
def pkV (p:Li) (i:Nat):Int:=val ((p.drop (7*(i/7))).take (i%7))
def pkI (p:Li) (i:Nat):Li:=if i%7=0 then pkF p i else pkF p i++[pkV p i]
theorem kf9 {p:Li} {i:Nat} (h:i<p.length) (hr:(i+1)%7≠0):pkF p (i+1)=pkF p i/\pkV p (i+1)=pkV p i+256^(i%7)*p[i]:=by
 have e1:(i+1)/7=i/7:=by omega
 have e2:(i+1)%7=i%7+1:=by omega
 refine⟨by unfold pkF;rw[e1],?_⟩;unfold pkV;rw[e1,e2];have hlt:i%7<(p.drop (7*(i/7))).length:=by rw[qaj];omega
 have e4:(p.drop (7*(i/7)))[i%7]=p[i]:=by rw[List.getElem_drop];congr 1;omega
 rw[qu hlt,k72,qn,qca qqo,e4]
theorem kmz {p:Li} {i:Nat} (h:i<p.length) (hr:(i+1)%7=0):pkF p (i+1)=pkF p i++[pkV p i+256^(i%7)*p[i]]:=by
 have e1:(i+1)/7=i/7+1:=by omega
 have e2:i%7=6:=by omega
 unfold pkF pkV;rw[e1,show 7*(i/7+1)=7*(i/7)+7 by omega,List.take_add];have hl1:(p.take (7*(i/7))).length=7*(i/7):=by rw[qn];omega
 have hl2:((p.drop (7*(i/7))).take 7).length=7:=by rw[qn,qaj];omega
 rw[k8i (i/7) p.length _ _ hl1 (by rw[hl1,hl2];omega),kcp (l:=(p.drop (7*(i/7))).take 7) (by intro h;rw[h]at hl2;simp at hl2) qqo qqo];have hlt:6<(p.drop (7*(i/7))).length:=by rw[qaj];omega
 have e4:(p.drop (7*(i/7)))[6]=p[i]:=by rw[List.getElem_drop];congr 1;omega
 rw[qu hlt,k72,qn,qca qqo,e4,e2]
theorem klz {p:Li} {i:Nat} (h:i<p.length):pkI p (i+1)=pkF p i++[(if i%7=0 then 0 else pkV p i)+256^(i%7)*p[i]]:=by
 have hz:i%7=0->pkV p i=0:=fun h0=>by unfold pkV;rw[h0];rfl
 have e:(if i%7=0 then(0:Int)else pkV p i)=pkV p i:=by split<;>simp_all
 rw[e];unfold pkI;by_cases hr:(i+1)%7=0
 ·rw[ql hr,kmz h hr]
 ·rw[qm hr,(kf9 h hr).1,(kf9 h hr).2]
theorem klx (p:Li):pkI p 0=[]:=by show packN p.length []=[];cases p.length<;>rfl
theorem kn5 (p:Li):pkI p p.length=packN p.length p:=by
 unfold pkI;split
 ·rename_i h;unfold pkF;rw[qi qqo]
 ·rename_i h;unfold pkF pkV;have hl1:(p.take (7*(p.length/7))).length=7*(p.length/7):=by rw[qn];omega
  have hl2:(p.drop (7*(p.length/7))).length=p.length%7:=by rw[qaj];omega
  have h1:=k8i (p.length/7) p.length (p.take (7*(p.length/7))) (p.drop (7*(p.length/7))) hl1 (by rw[hl1,hl2];omega);rw[qcl]at h1;rw[h1,kcp (l:=p.drop (7*(p.length/7))) (by intro h2;rw[h2]at hl2;simp at hl2;omega) qqo qqo,qi (l:=p.drop (7*(p.length/7))) qqo]
theorem kkv {p:Li} (hp:By p) (i:Nat):0<=pkV p i/\pkV p i<256^(i%7):=by have h:=k5b ((p.drop (7*(i/7))).take (i%7)) ((hp.drop _).take _);refine⟨h.1,Int.lt_of_lt_of_le h.2 (k53 ?_)⟩;rw[qn];omega
theorem kbt (p:Li) (i:Nat):(pkF p i).length<=p.length:=k31 _ _
theorem kjc (p:Li) (i:Nat):(pkI p i).length<=p.length+1:=by
 unfold pkI;have:=kbt p i;split
 ·omega
 ·simp;omega
theorem km2 (l:Li) (a b:Int):(l++[a]).set l.length b=l++[b]:=by simp
theorem inc_i64 (i:Nat) (h:i<4611686018427387904):i64.wrap ((i:Int)+1)=((i+1:Nat):Int):=by rw[kar _ qqo qqo];omega
def cmp3 (a b:Int):Int:=if a<b then -1 else if b<a then 1 else 0
theorem cmp3_lt {a b:Int}:(cmp3 a b<0)↔a<b:=by unfold cmp3;split<;>(try split)<;>omega
theorem cmp3_eq {a b:Int}:(cmp3 a b=0)↔a=b:=by unfold cmp3;split<;>(try split)<;>omega
def tOf (e:wA):wC:=⟨e.wm,e.wQ,e.wy,e.wS,e.wd,e.wU,e.wT,e.wX,e.wn,e.wq⟩
def mkE (t:wC) (i w:Int):wA:=⟨t.wN,t.wD,t.wB,t.wH,t.wG,t.Fee,t.wI,t.wM,t.wJ,t.wK,i,w⟩
def eOf (t:wC):wA:=mkE t (idS t) (weightS t)
@[simp] theorem tOf_eOf (t:wC):tOf (eOf t)=t:=rfl
structure GE (e:wA):Prop where
 f0:0<=e.wU
 f1:e.wU<=4294967295
 w0:1<=e.weight
 w1:e.weight<=4294967295
instance (e:wA):Decidable (GE e):=decidable_of_iff (0<=e.wU/\e.wU<=4294967295/\1<=e.weight/\e.weight<=4294967295) ⟨fun h=>⟨h.1,h.2.1,h.2.2.1,h.2.2.2⟩,fun h=>⟨h.f0,h.f1,h.w0,h.w1⟩⟩
def betE (a b:wA):Prop:=b.wU*a.weight<a.wU*b.weight∨(b.wU*a.weight=a.wU*b.weight/\a.id<b.id)
instance (a b:wA):Decidable (betE a b):=inferInstanceAs (Decidable (_∨_))
def cmpE (a b:wA):Int:=if b.wU*a.weight=a.wU*b.weight then cmp3 a.id b.id else cmp3 (b.wU*a.weight) (a.wU*b.weight)
def cmpG (a b:wA):Int:=if GE a then(if GE b then cmpE a b else -1)else if GE b then 1 else 0
theorem cmpE_lt {a b:wA}:cmpE a b<0↔betE a b:=by
 unfold cmpE betE;split
 ·rw[cmp3_lt];omega
 ·rw[cmp3_lt];omega
theorem k5e {a b:wA} (ha:GE a) (hb:GE b):cmpG a b=cmpE a b:=by unfold cmpG;rw[ql ha,ql hb]
instance:LT wA:=⟨fun a b=>cmpG a b<0⟩
instance (a b:wA):Decidable (a<b):=inferInstanceAs (Decidable (cmpG a b<0))
theorem lt_good {a b:wA} (ha:GE a) (hb:GE b):a<b↔betE a b:=by show cmpG a b<0↔_;rw[k5e ha hb,cmpE_lt]
theorem ki1 (a:wA):¬betE a a:=by unfold betE;omega
theorem k1j {a b c x y z:Int} (hy:0<y) (hx:0<x) (hz:0<z) (h1:b*x<=a*y) (h2:c*y<=b*z):c*x<=a*z:=by
 have e1:b*x*z<=a*y*z:=Int.mul_le_mul_of_nonneg_right h1 qqo;have e2:c*y*x<=b*z*x:=Int.mul_le_mul_of_nonneg_right h2 qqo
 have e3:c*x*y<=a*z*y:=by
  calc c*x*y=c*y*x:=by rw[Int.mul_right_comm]
   _<=b*z*x:=e2
   _=b*x*z:=by rw[Int.mul_right_comm]
   _<=a*y*z:=e1
   _=a*z*y:=by rw[Int.mul_right_comm]
 exact Int.le_of_mul_le_mul_right e3 hy
theorem k3w {a b c x y z:Int} (hy:0<y) (hx:0<x) (hz:0<z) (h1:b*x<=a*y) (h2:c*y<=b*z) (h:b*x<a*y∨c*y<b*z):c*x<a*z:=by
 have h3:=k1j hy hx hz h1 h2;rcases Int.lt_or_eq_of_le h3 with h4|h4
 ·exact h4
 ·rcases h with h|h
  ·have:=k1j (a:=b) (b:=c) (c:=a) (x:=y) (y:=z) (z:=x) hz hy hx h2 qqo;omega
  ·have:=k1j (a:=c) (b:=a) (c:=b) (x:=z) (y:=x) (z:=y) hx hz hy qqo h1;omega
theorem k34 {a b c:wA} (ha:GE a) (hb:GE b) (hc:GE c) (h1:betE a b) (h2:betE b c):betE a c:=by
 have x:=ha.w0;have y:=hb.w0;have z:=hc.w0;unfold betE at *
 rcases h1 with h1|⟨h1,i1⟩<;>rcases h2 with h2|⟨h2,i2⟩
 ·exact .inl (k3w (y:=b.weight) qqo qqo qqo qqo qqo (.inl h1))
 ·exact .inl (k3w (y:=b.weight) qqo qqo qqo qqo qqo (.inl h1))
 ·exact .inl (k3w (y:=b.weight) qqo qqo qqo qqo qqo (.inr h2))
 ·have e1:=k1j (a:=a.wU) (b:=b.wU) (c:=c.wU) (x:=a.weight) (y:=b.weight) (z:=c.weight) qqo qqo qqo qqo qqo;have e2:=k1j (a:=c.wU) (b:=b.wU) (c:=a.wU) (x:=c.weight) (y:=b.weight) (z:=a.weight) qqo qqo qqo qqo qqo;exact .inr ⟨by omega,by omega⟩
theorem k7d {a b:wA}:betE a b∨betE b a∨(b.wU*a.weight=a.wU*b.weight/\a.id=b.id):=by unfold betE;omega
theorem k21 {a b:wA}:a<b↔(GE a/\GE b/\betE a b)∨(GE a/\¬GE b):=by show cmpG a b<0↔_;unfold cmpG;by_cases ha:GE a<;>by_cases hb:GE b<;>simp[ha,hb,cmpE_lt]
structure VR (t:wC):Prop where
 v:validE t=0
 r:TR t
theorem VR.vt {t:wC} (h:VR t):VT t:=(k3j t).1 h.v
theorem VR.tl {t:wC} (h:VR t):TL t:=h.vt.tl
theorem k2i {t:wC} (h:VR t):1<=weightS t/\weightS t<=4294967295:=by
 have hv:=h.vt;have l1:=hv.ml;have l2:=hv.ol;have l3:=hv.pl
 have hf:∀l:List wR,(∀x∈l,VO x)->(l.flatMap encO).length<=l.length*1000:=by
  intro l;induction l with
  |nil=>intro _;simp
  |cons x l ih=>intro hx;have:=ih fun y hy=>hx y (by simp[hy]);have hc:=(hx x qqs).l;simp only[qbe,qj,qay,encO,kf,kq,hc];omega
 have:=hf t.wB hv.o;unfold weightS;rw[ql h.v];simp only[encT,qj,kf,kq,k3m];omega
theorem ge_of {t:wC} (h:VR t):GE (eOf t):=by have hf:=(k15 t).1 h.vt.am;have hw:=k2i h;exact⟨h.r.f.1,hf.2.2.1,hw.1,hw.2⟩
def VL (L:List wC):Prop:=∀t∈L,VR t
def wL (L:List wC):Int:=(L.map weightS).sum
theorem wL_app (L M:List wC):wL (L++M)=wL L+wL M:=by simp[wL]
theorem wL_b:∀{L:List wC},VL L->(L.length:Int)<=wL L/\wL L<=L.length*4294967295
 |[],_=>by simp[wL]
 |t::L,h=>by
  have ih:=wL_b (L:=L) fun x hx=>h x (by simp[hx]);have:=k2i (h t qqs);unfold wL at *
  simp only[qx,qel,qay];omega
def confT (a b:wC):Bool:=if idS a=idS b then false else a.wD.any (fun m=>decide (m∈b.wD))||(decide (0<a.wH)&&decide (0<b.wH)&&decide (a.wI=b.wI)&&decide (a.wM=b.wM))
def cfl (L:List wC) (t:wC):Li:=(L.filter (confT t)).map idS
def fndL (L:List wC) (i:Int):Int:=idxI (L.map idS) i
def betT (a b:wC):Bool:=decide (betE (eOf a) (eOf b))
def betB (a b:wC):Bool:=decide (validE a=0)&&(decide (validE b=0)&&betT a b)
def putL (L:List wC) (t:wC):List wC:=L.takeWhile (betT · t)++t::L.dropWhile (betT · t)
structure EV where
 ok:Bool
 g:Li
 k:Nat
def evL (c i:Int) (L:List wC):Nat->Li->EV
 |0,g=>⟨true,g,0⟩
 |k+1,g=>if c<wL (L.take (k+1))then(if idS (ix L (k:Int))=i then⟨false,[],0⟩else evL c i L k (g++[idS (ix L (k:Int))]))else⟨true,g,k+1⟩
structure AR where
 g:Li
 e:Int
 l:List wC
def addL (c:Int) (L:List wC) (t:wC):AR:=
 if validE t≠0 then⟨[],validE t,L⟩
 else if 0<=fndL L (idS t)then⟨[],5,L⟩
 else if cfl L t≠[]then⟨[],12,L⟩
 else if c<weightS t then⟨[],3,L⟩
 else if(evL c (idS t) (putL L t) (putL L t).length []).ok then⟨(evL c (idS t) (putL L t) (putL L t).length []).g,0,(putL L t).take (evL c (idS t) (putL L t) (putL L t).length []).k⟩
 else⟨[],16,L⟩
structure RR where
 b:Bool
 l:List wC
def remL (L:List wC) (i:Int):RR:=if fndL L i<0 then⟨false,L⟩else⟨true,L.take (fndL L i).toNat++L.drop ((fndL L i).toNat+1)⟩
structure PL (L:List wC):Prop where
 v:VL L
 s:L.Pairwise (fun a b=>betT a b=true)
 i:(L.map idS).Nodup
 c:L.Pairwise (fun a b=>confT a b=false)
def eL (L:List wC):List wA:=L.map eOf
def tL (w:List wA):List wC:=w.map tOf
@[simp] theorem tL_eL (L:List wC):tL (eL L)=L:=by
 unfold tL eL;rw[qaa];have:(tOf∘eOf)=id:=by funext t;rfl
 rw[this,List.map_id]
@[simp] theorem eL_len (L:List wC):(eL L).length=L.length:=by simp[eL]
theorem eL_ix {L:List wC} {i:Nat} (h:i<L.length):ix (eL L) (i:Int)=eOf L[i]:=by rw[ix_get _ _ qqh];simp[eL]
theorem idx_b (l:Li) (v:Int): -1<=idxI l v/\idxI l v<l.length:=by
 unfold idxI;split
 ·rename_i h;have:=List.idxOf_lt_length_of_mem h;omega
 ·omega
theorem idx_at {l:Li} {v:Int} {k:Nat} (h:k<l.length) (hn:v∉l.take k) (he:l[k]=v):idxI l v=k:=by
 unfold idxI;have hm:v∈l:=he▸qab h;rw[ql hm]
 have:l.idxOf v=k:=by
  conv=>lhs;rw[<-qcl k l]
  rw[List.idxOf_append,qm hn,qbr h,he,List.idxOf_cons_self,qn];omega
 rw[this]
theorem idx_no {l:Li} {v:Int} (h:v∉l):idxI l v= -1:=by unfold idxI;rw[qm h]
theorem fnd_b (L:List wC) (i:Int): -1<=fndL L i/\fndL L i<L.length:=by have:=idx_b (L.map idS) i;simpa[fndL]using this
theorem fnd_has (L:List wC) (i:Int):0<=fndL L i↔i∈L.map idS:=by
 unfold fndL idxI;split
 ·rename_i h;exact⟨fun _=>h,fun _=>by omega⟩
 ·rename_i h;exact⟨fun q=>by omega,fun q=>absurd q h⟩
theorem kab {L:List wC} {t:wC} {k:Nat} (h:k<L.length):cfl (L.take (k+1)) t=if confT t L[k]=true then cfl (L.take k) t++[idS L[k]]else cfl (L.take k) t:=by
 unfold cfl;rw[qu h,List.filter_append,qbd];by_cases hc:confT t L[k]=true
 ·rw[ql hc];simp[hc]
 ·rw[qm hc];simp[hc]
theorem cfl_len (L:List wC) (t:wC):(cfl L t).length<=L.length:=by unfold cfl;rw[qf];exact List.length_filter_le ..
structure EL (w:List wA):Prop where
 e:w=eL (tL w)
 v:VL (tL w)
 n:w.length<=100000
theorem EL.of {L:List wC} (h:VL L) (hn:L.length<=100000):EL (eL L):=⟨by simp,by simpa using h,by simpa using hn⟩
theorem EL.at {w:List wA} (h:EL w):∃L,w=eL L/\VL L/\L.length<=100000:=⟨tL w,h.e,h.v,by have:=h.n;simpa[tL]using this⟩
theorem eL_id (L:List wC):(eL L).map (·.id)=L.map idS:=by unfold eL;rw[qaa];rfl
theorem VR.dcap {t:wC} (h:VR t):t.wB.length<=1048576/\∀x∈t.wB,x.wF.length<=1024:=⟨by have:=h.vt.ol;omega,fun x hx=>by have:=(h.vt.o x hx).l;omega⟩
theorem VR.td {t:wC} (h:VR t):TD t:=⟨h.r,h.tl,h.dcap.1,h.dcap.2⟩
theorem wL_take {L:List wC} {k:Nat} (h:k<L.length):wL (L.take (k+1))=wL (L.take k)+weightS L[k]:=by rw[qu h,wL_app];simp[wL]
theorem VL.take {L:List wC} (h:VL L) (k:Nat):VL (L.take k):=fun t ht=>h t (qbz ht)
theorem wL_tb {L:List wC} (h:VL L) (hn:L.length<=100000) (k:Nat):0<=wL (L.take k)/\wL (L.take k)<=429496729500000:=by
 have:=wL_b (h.take k);have hl:(L.take k).length<=100000:=by rw[qn];omega
 omega
open Classical in
def sameL (l m:List wC):Bool:=decide (l.length=m.length)&&decide (∀j (a:j<l.length) (b:j<m.length),sameT l[j] m[j]=true)
theorem kmc {l m:List wC} {k:Nat} (a:k<l.length) (b:k<m.length) (h:sameT l[k] m[k]=false):sameL l m=false:=by unfold sameL;rw[qaf (p:=∀j (a:j<l.length) (b:j<m.length),sameT l[j] m[j]=true) (fun q=>by rw[q k a b]at h;cases h),Bool.and_false]
theorem kcz {l m:List wC} (e:l.length=m.length) (h:∀j (a:j<l.length) (b:j<m.length),sameT l[j] m[j]=true):sameL l m=true:=by unfold sameL;rw[qae e,qae h];rfl
theorem kjk (l:List wC):sameL l l=true:=kcz rfl fun j _ _=>kjz _
theorem kli {P:Program} (w:World) (t e ty:TypeId) (z:Value) (ht:P.underlying t=some (.slice e)) (hv:∀w,(zeroValue e).run P w= .ok z w) (b o n c:Nat) (hn:0<n) (zs:List Value) (hz:(Builtin.zeroCells z.cells n).toList=zs) (h1:∀u∈zs,u.oneCell' =true)
  (hc:∀j,j<zs.length->(w.cell? ⟨b,o+j,none⟩).isSome=true) (hf:∀j,j<zs.length->w.frozen? ⟨b,o+j,none⟩=false):
  (Builtin.clear_ #[t] ty #[.slice (some ⟨b,o,none⟩) n c]).run P w= .ok (.tuple #[]) (w.setCells b o zs):=by
 have hst:=run_storeCells_cells (P:=P) b o zs 0 w (by simpa using hc) (by simpa using hf) h1;simp only[qbt]at hst;obtain⟨m,rfl⟩:∃m,n=m+1:=⟨n-1,by omega⟩;simp[Builtin.clear_,qz ht,hv,hz,hst]
theorem kjw:∃i0,Tryz.prog.info? 68=some i0/\i0.size=12:=by
 have h:(Tryz.prog.info? 68).map (·.size)=some 12:=by kernel_rfl
 cases h2:Tryz.prog.info? 68 with
 |none=>rw[h2]at h;cases h
 |some i0=>rw[h2]at h;injection h with h;exact⟨i0,rfl,h⟩
set_option maxHeartbeats 4000000 in
set_option maxRecDepth 1000000 in
theorem kjv (blk off cap n i j:Nat) (w:World) (cs zs:List Value) (hlen:cs.length=n*12) (hcell:∀k u,cs[k]? =some u->w.cell? ⟨blk,off+k,none⟩=some u) (hone:∀u∈cs,u.oneCell' =true)
  (hfz:∀k,k<n*12->w.frozen? ⟨blk,off+k,none⟩=false) (hcap:n<=cap) (hm:cap<=9223372036854775807) (hij:i<j) (hj:j<=n)
  (W1:World) (hW1:W1=w.drew.setCells blk (off+i*12) (cs.drop (j*12))) (W2:World) (hW2:W2=W1.setCells blk (off+(i+(n-j))*12) zs)
  (hz:∀z,(∀w,(zeroValue 68).run Tryz.prog w= .ok z w)->(Builtin.zeroCells z.cells (n-(i+(n-j)))).toList=zs) (hz1:∀u∈zs,u.oneCell' =true) (hzl:zs.length=(j-i)*12)
  (hc1:∀k,k<n*12->(W1.cell? ⟨blk,off+k,none⟩).isSome=true/\W1.frozen? ⟨blk,off+k,none⟩=false):
  Calls Tryz.prog 38 #[.slice (some ⟨blk,off,none⟩) n cap,.int .i64 i,.int .i64 j] w fun e w' =>e= .returned (.slice (some ⟨blk,off,none⟩) (i+(n-j)) cap)/\w' =W2:=by
 obtain⟨A,hA,hsrc⟩:∃A:Addr,(if cap=j then some (⟨blk,off,none⟩:Addr)else some ⟨blk,off+j*12,none⟩)=some A/\Hid (∀t u,(cs.drop (j*12))[t]? =some u->w.drew.cell? (A.add t)=some u):=by
  by_cases h:cap=j
  ·refine⟨⟨blk,off,none⟩,by simp[h],fun t u hu=> ?_⟩;rw[qbg (by rw[hlen,show n=j by omega];exact qr _)]at hu;simp at hu
  ·refine⟨⟨blk,off+j*12,none⟩,by simp[h],fun t u hu=> ?_⟩;rw[qao]at hu;rw[Addr.add_lit,show off+j*12+t=off+(j*12+t)by omega];exact hcell _ u hu
 have s1:Hid ((cs.drop (j*12)).length=(n-j)*12):=by show _=_;rw[qaj,hlen,Nat.sub_mul]
 have s2:Hid (∀u∈cs.drop (j*12),u.oneCell' =true):=fun u hu=>hone u (qby hu);have s3:Hid (∀t,t<(cs.drop (j*12)).length->(w.drew.cell? ⟨blk,off+i*12+t,none⟩).isSome=true/\w.drew.frozen? ⟨blk,off+i*12+t,none⟩=false):=by intro t ht;rw[qaj,hlen]at ht;rw[qcp];refine⟨?_,hfz (i*12+t) qqo⟩;show(w.cell? _).isSome=true;rw[hcell (i*12+t) _ (qd (by rw[hlen];omega))];rfl
 obtain⟨i0,hi0,hi1⟩:=kjw
 have hcl:∀ty,(Builtin.clear_ #[72] ty #[.slice (some ⟨blk,off+(i+(n-j))*12,none⟩) (n-(i+(n-j))) (cap-(i+(n-j)))]).run Tryz.prog W1= .ok (.tuple #[]) W2:=by
  intro ty;rw[hW2];refine kli W1 72 68 ty _ Tryz.underlying72 Tryz.zeroValue68 blk _ _ _ qqo zs (hz _ Tryz.zeroValue68) hz1 (fun k hk=> ?_) (fun k hk=> ?_)
  ·rw[qcp];exact(hc1 _ (by rw[hzl]at hk;omega)).1
  ·rw[qcp];exact(hc1 _ (by rw[hzl]at hk;omega)).2
 have hW:Hid (W1=w.drew.setCells blk (off+i*12) (cs.drop (j*12))):=hW1;have hic:i<=cap:=by omega
 have hjc:j<=cap:=by omega
 have hne:¬i=j:=by omega
 clear hW1 hW2 hc1 hcell hone hfz hlen hz hz1 hzl
 go_enter Tryz.func38,Tryz.ntmps38
 go_wp2_with fail
 go_region_law (refine step_append_room rfl (.tmp 22) (.tmp 25) 72 rfl 68 i0 12 Tryz.underlying72 hi0 hi1 blk off i cap (by simp[Act.eval,Act.put]) A (n-j) (cap-j) (cs.drop (j*12)) (by simp[Act.eval,Act.put]) s1.out hsrc.out s2.out qqo s3.out ?_;rw[<-hW.out])
 go_wp2
 go_ret
 exact⟨rfl,rfl⟩
theorem k40 {w:World} {b o:Nat} {cs:Array Value} {e:TypeId} (h:w.heap[b]? =some (.cells cs e (0,0))):w.frozen? ⟨b,o,none⟩=false:=by simp[World.frozen?,h]
theorem kav (x:wA):(encTentry x).cells.length=12/\∀c∈(encTentry x).cells,c.one=true:=by refine⟨rfl,fun c hc=> ?_⟩;simp only[encTentry,D.cells,qal,List.mem_nil_iff,or_false]at hc;rcases hc with rfl|rfl|rfl|rfl|rfl|rfl|rfl|rfl|rfl|rfl|rfl|rfl<;>rfl
def flE (l:List wA):List V:=((l.map encTentry).flatMap D.cells).map V.d
theorem flE_len (l:List wA):(flE l).length=l.length*12:=by unfold flE;rw[qf,kg (sz:=12) (fun d hd=>by obtain⟨x,_,rfl⟩:=qad.1 hd;exact kav x),qf]
theorem flE_app (l m:List wA):flE (l++m)=flE l++flE m:=by simp[flE]
theorem flE_one (l:List wA):∀c∈flE l,c.one=true:=by intro c hc;simp only[flE,qad,qcm]at hc;obtain⟨d,⟨_,⟨x,_,rfl⟩,hd⟩,rfl⟩:=hc;exact(kav x).2 d hd
theorem kdz (l:List wA) (k:Nat) (hk:k<=l.length):(flE l).take (k*12)=flE (l.take k)/\(flE l).drop (k*12)=flE (l.drop k):=by
 have e:flE l=flE (l.take k)++flE (l.drop k):=by rw[<-flE_app,qcl]
 have hl:(flE (l.take k)).length=k*12:=by rw[flE_len,qn];congr 1;omega
 rw[e,qes hl,List.drop_left' hl];exact⟨rfl,rfl⟩
def zE:List Value:=[.int .u64 0,.slice none 0 0,.slice none 0 0,.int .u64 0,.int .u64 0,.int .u64 0,.int .u64 0,.int .u64 0,.int .i64 0,.slice none 0 0,.int .u64 0,.int .i64 0]
theorem zE_rep {G:Gh} {w:World} {h:Hp} {nx:Nat}:∀(j:Nat) (u:Value) (c:V),zE[j]? =some u->(flE [default])[j]? =some c->RepV G w h nx u c:=by
 intro j u c hu hc;have hf:flE [default]=[.d (.int .u64 0),.d (.slice 1 []),.d (.slice 4 []),.d (.int .u64 0),.d (.int .u64 0),.d (.int .u64 0),.d (.int .u64 0),.d (.int .u64 0),.d (.int .i64 0),.d (.slice 1 []),.d (.int .u64 0),.d (.int .i64 0)]:=rfl;rw[hf]at hc
 match j with
 |0=>cases hu;cases hc;exact .d _ _ (.int _ _)
 |1=>cases hu;cases hc;exact .d _ _ (.nil _ _)
 |2=>cases hu;cases hc;exact .d _ _ (.nil _ _)
 |3=>cases hu;cases hc;exact .d _ _ (.int _ _)
 |4=>cases hu;cases hc;exact .d _ _ (.int _ _)
 |5=>cases hu;cases hc;exact .d _ _ (.int _ _)
 |6=>cases hu;cases hc;exact .d _ _ (.int _ _)
 |7=>cases hu;cases hc;exact .d _ _ (.int _ _)
 |8=>cases hu;cases hc;exact .d _ _ (.int _ _)
 |9=>cases hu;cases hc;exact .d _ _ (.nil _ _)
 |10=>cases hu;cases hc;exact .d _ _ (.int _ _)
 |11=>cases hu;cases hc;exact .d _ _ (.int _ _)
 |j+12=>simp[zE]at hu
theorem zE_zero:(Builtin.zeroCells (Value.agg zE.toArray).cells 1).toList=zE:=by kernel_rfl
theorem zE_one:∀u∈zE,u.oneCell' =true:=by intro u hu;simp only[zE,qal,List.mem_nil_iff,or_false]at hu;rcases hu with rfl|rfl|rfl|rfl|rfl|rfl|rfl|rfl|rfl|rfl|rfl|rfl<;>rfl
theorem kkn (l:List wA) (i:Nat) (hi:i<l.length):setAt (setAt (flE l) (i*12) (flE (l.drop (i+1)))) ((i+(l.length-(i+1)))*12) (flE [default])=flE (l.take i++l.drop (i+1)++[default]):=by
 have h1:=kdz l i qqo;have hl:=flE_len (l.drop (i+1));rw[qaj]at hl;have hA:setAt (flE l) (i*12) (flE (l.drop (i+1)))=flE (l.take i++l.drop (i+1))++(flE l).drop (i*12+(l.length-(i+1))*12):=by unfold setAt;rw[h1.1,hl,flE_app]
 rw[hA];have hB:(flE (l.take i++l.drop (i+1))).length=(i+(l.length-(i+1)))*12:=by rw[flE_len,qj,qn,qaj];congr 1;omega
 have hC:(flE [default]).length=12:=rfl;unfold setAt;have hD:(flE (l.take i++l.drop (i+1))++(flE l).drop (i*12+(l.length-(i+1))*12)).drop ((i+(l.length-(i+1)))*12+12)=[]:=qbg (by rw[qj,hB,qaj,flE_len];omega);rw[qes hB,hC,flE_app _ [default],hD,qck]
theorem kfi (l:List wA) (i:Nat) (hi:i<l.length):SoundH Tryz.prog 38 [.row 0 0 l.length 12,.d (.int .i64 (i:Int)),.d (.int .i64 ((i+1:Nat):Int))] [.cells (flE l)] (.row 0 0 (i+(l.length-(i+1))) 12) [.cells (flE (l.take i++l.drop (i+1)++[default]))]:=by
 obtain⟨n,hn⟩:∃n,n=l.length:=⟨_,rfl⟩;rw[<-hn]at hi ⊢;intro G w vs hlen hrep hW hXE
 match vs,hlen with
 |[v0,v1,v2],_=>
  have e1:=k1z (hrep 1 v1 _ rfl rfl);have e2:=k1z (hrep 2 v2 _ rfl rfl);have h0:=hrep 0 v0 _ rfl rfl;subst e1;subst e2;cases h0 with
  |rown=>omega
  |row _ _ _ _ b o cap m hid hl ho hc hm hcs hs=>
   obtain rfl:=ho qqo;have hL:=flE_len l;rcases hW.obj 0 (flE l) (by rfl)with⟨z1,_⟩|⟨b',e,cs,g1,g2,g3,g4,g5,g6⟩
   ·rw[z1]at hL;simp at hL;omega
   obtain rfl:b' =b:=by rw[hl]at g1;injection g1 with g1;exact g1.symm
   rw[hL,<-hn]at g4;have hR0:R (tkOf G [.cells (flE l)]) G w 0 ⟨[],hpOf 0 [.cells (flE l)],1⟩ ⟨#[],[]⟩ G w:=⟨⟨rfl,rfl,rfl,qr _,fun _ _ _=>⟨rfl,rfl⟩,Mono.refl _ _,⟨rfl,hXE⟩,fun _ h=>h⟩,hW,rfl,rfl,fun t=> .any _,⟨qr _,fun _ _ _ h=>h,fun tok t' _ h=>⟨t',h,qr _,fun _ _ hb=>⟨hb,rfl,rfl⟩⟩,fun _ _ h=>h⟩⟩;have hR:=hR0.drew;have g6' :=fun j v x hv hx=>(g6 j v x hv hx).drew
   have hcl:∀k u,(cs.take (n*12))[k]? =some u->w.cell? ⟨b',0+k,none⟩=some u:=by
    intro k u hu;rw[qak]at hu;split at hu
    ·rw[cell_of_row w b' _ cs.toArray e _ g2,qan];simpa using hu
    ·cases hu
   have hone:∀u∈cs.take (n*12),u.oneCell' =true:=by
    intro u hu;obtain⟨k,hk⟩:=qcb hu;rw[qak]at hk;split at hk
    ·have hx:(flE l)[k]? =some ((flE l)[k]' qqo):=qd qqo;exact(g6 k u _ hk hx).one (g5 _ (qab _))
    ·cases hk
   have sp:=kdz l (i+1) qqo;have hlen1:((cs.take (n*12)).drop ((i+1)*12)).length=(flE (l.drop (i+1))).length:=by rw[flE_len,qaj,qaj,qn,qca g4,<-hn,Nat.sub_mul]
   obtain⟨w1,r1,hR1⟩:=hR.storeAt (P:=Tryz.prog) (id:=0) (off:=i*12) (b:=b') (l:=flE l) rfl hl (us:=(cs.take (n*12)).drop ((i+1)*12)) (xs:=flE (l.drop (i+1))) hlen1 (fun u hu=>hone u (qby hu))
    (fun j u c hu hc=>by
     rw[qao,qak]at hu;rw[<-sp.2,qao]at hc;split at hu
     ·exact g6' _ _ _ hu hc
     ·cases hu) (flE_one _) (by rw[flE_len,flE_len,qaj,<-hn];omega)
   obtain⟨w2,r2,hR2⟩:=hR1.storeAt (P:=Tryz.prog) (id:=0) (off:=(i+(n-(i+1)))*12) (b:=b') (l:=setAt (flE l) (i*12) (flE (l.drop (i+1)))) rfl hl (us:=zE) (xs:=flE [default]) rfl zE_one zE_rep (flE_one _) (by
     have h1:(flE [default]).length=12:=rfl;have h2:(flE (l.drop (i+1))).length=(n-(i+1))*12:=by rw[flE_len,qaj,hn]
     unfold setAt;rw[qj,qj,qn,qaj,h1,h2,flE_len,<-hn];omega)
   have k1:=run_storeCells_cells (P:=Tryz.prog) b' (i*12) ((cs.take (n*12)).drop ((i+1)*12)) 0 w.drew (fun j hj=> ?_) (fun j hj=>k40 (w:=w.drew) g2) (fun u hu=>hone u (qby hu))
   ·rw[qbt,r1]at k1;injection k1 with _ k1;have hb1:=hR1.wr.obj 0 _ rfl;rcases hb1 with⟨_,z2⟩|⟨b1,e1,cs1,q1,q2,q3,q4,q5,q6⟩
    ·rw[hl]at z2;cases z2
    obtain rfl:b1=b' :=by rw[hl]at q1;injection q1 with q1;exact q1.symm
    have q4' :n*12<=cs1.length:=by
     have:(setAt (flE l) (i*12) (flE (l.drop (i+1)))).length=n*12:=by
      have h2:(flE (l.drop (i+1))).length=(n-(i+1))*12:=by rw[flE_len,qaj,hn]
      unfold setAt;rw[qj,qj,qn,qaj,h2,flE_len,<-hn];omega
     omega
    have c1:∀k,k<n*12->(w1.cell? ⟨b1,0+k,none⟩).isSome=true:=by intro k hk;rw[cell_of_row w1 b1 _ cs1.toArray e1 _ q2,qan];simp[show k<cs1.length by omega]
    have k2:=run_storeCells_cells (P:=Tryz.prog) b1 ((i+(n-(i+1)))*12) zE 0 w1 (fun j hj=> ?_) (fun j hj=>k40 q2) zE_one
    ·rw[qbt,r2]at k2;injection k2 with _ k2;refine(kjv b1 0 cap n i (i+1) w (cs.take (n*12)) zE (by rw[qn];omega) hcl hone (fun k hk=>k40 g2) hc (by unfold maxLen at hm;omega) qqo qqo w1 (by rw[qan];exact k1) w2 (by rw[qan];exact k2) (fun z hz=> ?_) zE_one (by show 12=_;omega) (fun k hk=>⟨c1 k hk,k40 q2⟩)).mono ?_
     ·have ez:=(hz w).symm.trans (Tryz.zeroValue68 w);injection ez with ez;subst ez;rw[show n-(i+(n-(i+1)))=1 by omega];exact zE_zero
     ·rintro e w' ⟨rfl,rfl⟩;rw[hn,kkn l i qqo]at hR2
      have hm0:∀k,Hp.get ((0,Ob.cells (flE (l.take i++l.drop (i+1)++[default])))::(0,Ob.cells (setAt (flE l) (i*12) (flE (l.drop (i+1)))))::hpOf 0 [.cells (flE l)]) k=Hp.get (hpOf 0 [.cells (flE (l.take i++l.drop (i+1)++[default]))]) k:=by
       intro k;simp only[Hp.get,hpOf];split
       ·rfl
       ·rfl
      have hR3:=hR2.same (s' :=⟨[],hpOf 0 [.cells (flE (l.take i++l.drop (i+1)++[default]))],1⟩) (fun _=>rfl) (fun k=>(hm0 k).symm) rfl;refine⟨.slice (some ⟨b1,0,none⟩) (i+(n-(i+1))) cap,G,rfl,?_,hR3.wr,hR3.fr,hR3.ex⟩;exact .row 0 0 _ 12 b1 0 cap m Nat.zero_lt_one hl (fun _=>rfl) qqo hm (hR3.ex.csz _ _ hcs) hs
    ·rw[qbt];have:=c1 ((i+(n-(i+1)))*12+j) (by have:zE.length=12:=rfl;omega)
     rwa [qan]at this
   ·rw[qbt];have hj' :j<(n-(i+1))*12:=by rw[hlen1,flE_len,qaj]at hj;omega
    show(w.cell? _).isSome=true;rw[cell_of_row w b' _ cs.toArray e _ g2];simp[show i*12+j<cs.length by omega]
end Go.Proofs.YtghlnaoogfcldaaGreat
namespace Go.Md
open Go Go.Bv Go.Cv Go.Md Go.RowKit
variable {α:Type}
def ltA [LT α] [DecidableLT α] (x y:α):Bool:=decide (x<y)
class OrdA (α:Type) [LT α] [DecidableLT α]:Prop where
 swo:Sort.SWO (ltA (α:=α))
abbrev swpL [Inhabited α] (g:List α) (i j:Int):List α:=(g.set i.toNat (ix g j)).set j.toNat (ix g i)
theorem k7b [Inhabited α] {g:List α} {i j:Int}:(swpL g i j).length=g.length:=by simp[swpL]
section
variable {g:List α} {a b i j:Int} {d:Array α}
theorem arrN [Inhabited α] {n:Nat} (h:n<g.length):g.toArray[n]! =ix g (n:Int):=by rw[ix_nat g _ qqo qqo,getElem!_pos g.toArray n qqh];simp
theorem arr_ix [Inhabited α] (h0:0<=i) (h1:i<g.length):g.toArray[i.toNat]! =ix g i:=by rw[arrN qqo,show((i.toNat:Nat):Int)=i by omega]
theorem swpN [Inhabited α] {i j:Nat} (hi:i<g.length) (hj:j<g.length):Sort.swp g.toArray i j=(swpL g i j).toArray:=by unfold Sort.swp;rw[arrN hi,arrN hj];simp[swpL]
theorem swp_arr [Inhabited α] (hi0:0<=i) (hi:i<g.length) (hj0:0<=j) (hj:j<g.length):Sort.swp g.toArray i.toNat j.toNat=(swpL g i j).toArray:=by rw[swpN qqo qqo,show((i.toNat:Nat):Int)=i by omega,show((j.toNat:Nat):Int)=j by omega]
theorem ltI_iff [LT α] [DecidableLT α] {x y:α}:ltA x y=decide (x<y):=rfl
theorem kih [Inhabited α] [LT α] [DecidableLT α] (hi:0<=i) (h:i<b):Sort.insOuter ltA a.toNat b.toNat i.toNat d=Sort.insOuter ltA a.toNat b.toNat (i+1).toNat (Sort.insInner ltA a.toNat i.toNat d):=by rw[Sort.insOuter,ql qqo,show(i+1).toNat=i.toNat+1 by omega]
theorem kfe [Inhabited α] [LT α] [DecidableLT α] (hi:0<=i) (h:¬i<b):Sort.insOuter ltA a.toNat b.toNat i.toNat d=d:=by rw[Sort.insOuter,qm qqo]
theorem kie [Inhabited α] [LT α] [DecidableLT α] (ha:0<=a) (hj:a<j) (hl:j<g.length):Sort.insInner ltA a.toNat j.toNat g.toArray=if ix g j<ix g (j-1)then Sort.insInner ltA a.toNat (j-1).toNat (swpL g j (j-1)).toArray else g.toArray:=by
 have e1:j.toNat=(j-1).toNat+1:=by omega
 have hs:=swp_arr (g:=g) (i:=j) (j:=j-1) qqo hl qqo qqo;have x1:=arr_ix (g:=g) (i:=j) qqo hl;have x2:=arr_ix (g:=g) (i:=j-1) qqo qqo;generalize (j-1).toNat=m at *
 rw[e1]at hs x1 ⊢;rw[Sort.insInner,x1,x2,hs];have:m+1>a.toNat:=by omega
 simp only[this,decide_true,Bool.true_and,ltI_iff,qaw]
theorem kf6 [Inhabited α] [LT α] [DecidableLT α] (h:¬a<j):Sort.insInner ltA a.toNat j.toNat d=d:=by
 have h2:¬j.toNat>a.toNat:=by omega
 generalize j.toNat=n at *
 cases n with
 |zero=>rfl
 |succ n=>rw[Sort.insInner,qm qqm]
def chS [Inhabited α] [LT α] [DecidableLT α] (g:List α) (hi first root:Int):Int:=if 2*root+2<hi/\ix g (first+(2*root+1))<ix g (first+(2*root+1)+1)then 2*root+2 else 2*root+1
theorem chS_rng [Inhabited α] [LT α] [DecidableLT α] {hi first root:Int} (hh:2*root+1<hi):2*root+1<=chS g hi first root/\chS g hi first root<=2*root+2/\chS g hi first root<hi:=by
 unfold chS;split
 ·omega
 ·omega
theorem kgh [Inhabited α] [LT α] [DecidableLT α] {hi first root:Int} (h0:0<=root) (h:hi<=2*root+1):Sort.siftDown ltA hi.toNat first.toNat root.toNat d=d:=by rw[Sort.siftDown,dif_pos qqo]
theorem kiv [Inhabited α] [LT α] [DecidableLT α] {hi first root:Int} (h0:0<=root) (h1:0<=first) (hh:2*root+1<hi) (hl:first+hi<=g.length):Sort.siftDown ltA hi.toNat first.toNat root.toNat g.toArray=
  if ix g (first+root)<ix g (first+chS g hi first root)then Sort.siftDown ltA hi.toNat first.toNat (chS g hi first root).toNat (swpL g (first+root) (first+chS g hi first root)).toArray else g.toArray:=by
 obtain⟨r,rfl⟩:=qag h0;obtain⟨f,rfl⟩:=qag h1;obtain⟨n,rfl⟩:=qag (show 0<=hi by omega);simp only[qac];have x1:g.toArray[f+(2*r+1)]! =ix g ((f:Int)+(2*r+1)):=by rw[arrN qqo];congr 1
 have x0:g.toArray[f+r]! =ix g ((f:Int)+r):=by rw[arrN qqo];congr 1
 by_cases hc:2*(r:Int)+2<n/\ix g ((f:Int)+(2*r+1))<ix g ((f:Int)+(2*r+1)+1)
 ·have x2:g.toArray[f+(2*r+1)+1]! =ix g ((f:Int)+(2*r+1)+1):=by rw[arrN qqo];congr 1
  have x3:g.toArray[f+(2*r+2)]! =ix g ((f:Int)+(2*r+2)):=by rw[arrN qqo];congr 1
  have ec:chS g n f r=2*(r:Int)+2:=by unfold chS;rw[ql hc]
  have hs:Sort.swp g.toArray (f+r) (f+(2*r+2))=(swpL g ((f:Int)+r) ((f:Int)+(2*r+2))).toArray:=by rw[swpN qqo qqo];congr 2
  have et:(2*(r:Int)+2).toNat=2*r+2:=by omega
  rw[Sort.siftDown,dif_neg qqo,ql,ec,x0,x3,hs,dif_pos qqo,et]
  ·simp only[ltI_iff,qav,decide_eq_false_iff_not];split<;>first|rfl|(rename_i h;first|rw[qm h]|rw[ql (Decidable.not_not.1 h)])
  ·rw[x1,x2,ltI_iff,qae hc.2,qae (show 2*r+1+1<n by omega)];rfl
 ·have ec:chS g n f r=2*(r:Int)+1:=by unfold chS;rw[qm hc]
  have hs:Sort.swp g.toArray (f+r) (f+(2*r+1))=(swpL g ((f:Int)+r) ((f:Int)+(2*r+1))).toArray:=by rw[swpN qqo qqo];congr 2
  have et:(2*(r:Int)+1).toNat=2*r+1:=by omega
  rw[Sort.siftDown,dif_neg qqo,qm,ec,x0,x1,hs,et]
  ·simp only[ltI_iff,qav,decide_eq_false_iff_not];split<;>first|rfl|(rename_i h;first|rw[qm h]|rw[ql (Decidable.not_not.1 h)])
  ·intro h;rw[qe,qaw]at h;have x2:g.toArray[f+(2*r+1)+1]! =ix g ((f:Int)+(2*r+1)+1):=by rw[arrN qqo];congr 1
   rw[x1,x2,ltI_iff,qaw]at h;exact hc ⟨by omega,h.2⟩
theorem kea [Inhabited α] [LT α] [DecidableLT α] (hi first:Nat):∀(n root:Nat) (d:Array α),hi-root<=n->(Sort.siftDown ltA hi first root d).size=d.size:=by
 intro n;induction n with
 |zero=>intro root d h;rw[Sort.siftDown,dif_pos qqo]
 |succ n ih=>
  intro root d h;rw[Sort.siftDown];split
  ·rfl
  ·split
   ·split
    ·rfl
    ·split
     ·rw[ih _ _ qqo];exact Sort.size_swp _ _ _
     ·rfl
   ·split
    ·rfl
    ·rw[ih _ _ qqo];exact Sort.size_swp _ _ _
theorem kfm [Inhabited α] [LT α] [DecidableLT α] {hi first:Nat} (h:0<=i):Sort.heapBuild ltA hi first (i+1).toNat d=Sort.heapBuild ltA hi first i.toNat (Sort.siftDown ltA hi first i.toNat d):=by rw[show(i+1).toNat=i.toNat+1 by omega,Sort.heapBuild]
theorem kjn [Inhabited α] [LT α] [DecidableLT α] {first:Nat} (h:0<=i):Sort.heapPop ltA first (i+1).toNat d=Sort.heapPop ltA first i.toNat (Sort.siftDown ltA i.toNat first 0 (Sort.swp d first (first+i.toNat))):=by rw[show(i+1).toNat=i.toNat+1 by omega,Sort.heapPop]
theorem k82 [Inhabited α] {p:α->Bool} (h0:0<=i) (h:i<=j):Sort.scanUp p d j.toNat i.toNat=if p d[i.toNat]! =true then Sort.scanUp p d j.toNat (i+1).toNat else i.toNat:=by rw[Sort.scanUp,show(i+1).toNat=i.toNat+1 by omega];simp only[qae (show i.toNat<=j.toNat by omega),Bool.true_and]
theorem k73 [Inhabited α] {p:α->Bool} (h0:1<=i) (h:¬i<=j):Sort.scanUp p d j.toNat i.toNat=i.toNat:=by rw[Sort.scanUp];simp only[qaf (show¬i.toNat<=j.toNat by omega),Bool.false_and];rfl
theorem k5l [Inhabited α] {p:α->Bool} (h0:1<=i) (h:i<=j):Sort.scanDown p d i.toNat j.toNat=if p d[j.toNat]! =true then Sort.scanDown p d i.toNat (j-1).toNat else j.toNat:=by
 have e1:j.toNat=(j-1).toNat+1:=by omega
 have e2:i.toNat<=j.toNat:=by omega
 generalize (j-1).toNat=m at *
 rw[e1]at e2 ⊢;rw[Sort.scanDown];simp only[qae e2,Bool.true_and]
theorem k4s [Inhabited α] {p:α->Bool} (h0:1<=i) (h:¬i<=j):Sort.scanDown p d i.toNat j.toNat=j.toNat:=by
 have e2:¬i.toNat<=j.toNat:=by omega
 generalize j.toNat=m at *
 cases m with
 |zero=>rfl
 |succ m=>rw[Sort.scanDown];simp only[qaf e2,Bool.false_and];rfl
theorem ke3 [Inhabited α] [LT α] [DecidableLT α] (h0:1<=i) (h:i<b) (hl:b<=g.length):Sort.scanSorted ltA g.toArray b.toNat i.toNat=if ix g i<ix g (i-1)then i.toNat else Sort.scanSorted ltA g.toArray b.toNat (i+1).toNat:=by have x1:=arr_ix (g:=g) (i:=i) qqo qqo;have x2:=arr_ix (g:=g) (i:=i-1) qqo qqo;rw[Sort.scanSorted,show(i+1).toNat=i.toNat+1 by omega,x1,show i.toNat-1=(i-1).toNat by omega,x2];simp only[qae (show i.toNat<b.toNat by omega),Bool.true_and,ltI_iff,qav,decide_eq_false_iff_not];split<;>first|rfl|(rename_i h;first|rw[qm h]|rw[ql (Decidable.not_not.1 h)])
theorem kcd [Inhabited α] [LT α] [DecidableLT α] (h0:0<=i) (h:¬i<b):Sort.scanSorted ltA d b.toNat i.toNat=i.toNat:=by rw[Sort.scanSorted];simp only[qaf (show¬i.toNat<b.toNat by omega),Bool.false_and];rfl
theorem kgp [Inhabited α] [LT α] [DecidableLT α] (h:1<=j) (hl:j<g.length):Sort.shiftDown ltA j.toNat g.toArray=if ix g j<ix g (j-1)then Sort.shiftDown ltA (j-1).toNat (swpL g j (j-1)).toArray else g.toArray:=by
 have e1:j.toNat=(j-1).toNat+1:=by omega
 have hs:=swp_arr (g:=g) (i:=j) (j:=j-1) qqo hl qqo qqo;have x1:=arr_ix (g:=g) (i:=j) qqo hl;have x2:=arr_ix (g:=g) (i:=j-1) qqo qqo;generalize (j-1).toNat=m at *
 rw[e1]at hs x1 ⊢;rw[Sort.shiftDown,x1,x2,hs];simp only[ltI_iff,qav,decide_eq_false_iff_not];split<;>first|rfl|(rename_i h;first|rw[qm h]|rw[ql (Decidable.not_not.1 h)])
theorem kem [Inhabited α] [LT α] [DecidableLT α] (h:¬1<=j):Sort.shiftDown ltA j.toNat d=d:=by rw[show j.toNat=0 by omega,Sort.shiftDown]
theorem kk1 [Inhabited α] [LT α] [DecidableLT α] (h0:1<=j) (h:j<b) (hl:b<=g.length):Sort.shiftUp ltA b.toNat j.toNat g.toArray=if ix g j<ix g (j-1)then Sort.shiftUp ltA b.toNat (j+1).toNat (swpL g j (j-1)).toArray else g.toArray:=by have hs:=swp_arr (g:=g) (i:=j) (j:=j-1) qqo qqo qqo qqo;have x1:=arr_ix (g:=g) (i:=j) qqo qqo;have x2:=arr_ix (g:=g) (i:=j-1) qqo qqo;rw[Sort.shiftUp,ql qqo,show(j+1).toNat=j.toNat+1 by omega,x1,show j.toNat-1=(j-1).toNat by omega,x2,hs];simp only[ltI_iff,qav,decide_eq_false_iff_not];split<;>first|rfl|(rename_i h;first|rw[qm h]|rw[ql (Decidable.not_not.1 h)])
theorem kj6 [Inhabited α] [LT α] [DecidableLT α] (h0:0<=j) (h:¬j<b):Sort.shiftUp ltA b.toNat j.toNat d=d:=by rw[Sort.shiftUp,qm qqo]
theorem kc7 [Inhabited α] (h0:0<=i) (h:i<j) (hl:j<g.length):Sort.reverseLoop i.toNat j.toNat g.toArray=Sort.reverseLoop (i+1).toNat (j-1).toNat (swpL g i j).toArray:=by rw[Sort.reverseLoop,ql qqo,swp_arr (g:=g) h0 qqo qqo hl,show(i+1).toNat=i.toNat+1 by omega,show(j-1).toNat=j.toNat-1 by omega]
theorem kaz [Inhabited α] (h0:0<=i) (h:¬i<j):Sort.reverseLoop i.toNat j.toNat d=d:=by rw[Sort.reverseLoop,qm qqo]
end
def insS [Inhabited α] [LT α] [DecidableLT α] (g:List α) (a b:Int):List α:=(Sort.insertionSort ltA g.toArray a.toNat b.toNat).toList
def sdS [Inhabited α] [LT α] [DecidableLT α] (g:List α) (lo hi first:Int):List α:=(Sort.siftDown ltA hi.toNat first.toNat lo.toNat g.toArray).toList
def heapS [Inhabited α] [LT α] [DecidableLT α] (g:List α) (a b:Int):List α:=(Sort.heapSort ltA g.toArray a.toNat b.toNat).toList
def revS [Inhabited α] (g:List α) (a b:Int):List α:=(Sort.reverseRange g.toArray a.toNat b.toNat).toList
def brkS [Inhabited α] (g:List α) (a b:Int):List α:=(Sort.breakPatterns g.toArray a.toNat b.toNat).toList
def pisS [Inhabited α] [LT α] [DecidableLT α] (g:List α) (a b:Int):Array α×Bool:=Sort.partialInsertionSort ltA g.toArray a.toNat b.toNat
def partS [Inhabited α] [LT α] [DecidableLT α] (g:List α) (a b p:Int):Nat×Bool×Array α:=Sort.partition ltA g.toArray a.toNat b.toNat p.toNat
def peqS [Inhabited α] [LT α] [DecidableLT α] (g:List α) (a b p:Int):Nat×Array α:=Sort.partitionEqual ltA g.toArray a.toNat b.toNat p.toNat
def cpS [Inhabited α] [LT α] [DecidableLT α] (g:List α) (a b:Int):Nat×Sort.Hint:=Sort.choosePivot ltA g.toArray a.toNat b.toNat
def hintN:Sort.Hint->Int
 | .unknown=>0
 | .increasing=>1
 | .decreasing=>2
section
variable {g:List α} {a b p:Int}
theorem ka5 [Inhabited α] [LT α] [DecidableLT α] [OrdA α] (h0:0<=a) (h1:a<=b) (h2:b<=g.length):(insS g a b).length=g.length:=by have:=(Sort.insertionSort_holds (lt:=ltA) (OrdA.swo (α:=α)) g.toArray a.toNat b.toNat qqo qqm).1.1;simpa[insS]using this
theorem cpS_rng [Inhabited α] [LT α] [DecidableLT α] (h0:0<=a) (h1:a<b):a<=(cpS g a b).1/\(cpS g a b).1<b:=by have:=Sort.choosePivot_holds ltA g.toArray a.toNat b.toNat qqo;unfold cpS;omega
theorem sdS_len [Inhabited α] [LT α] [DecidableLT α] {lo hi first:Int}:(sdS g lo hi first).length=g.length:=by
 have:=kea hi.toNat first.toNat _ lo.toNat g.toArray (qr _)
 simpa[sdS]using this
end
theorem kgl (a b:Nat) (ha:a<18446744073709551616) (hb:b<18446744073709551616):ixor .u64 a b=((a^^^b:Nat):Int):=by unfold ixor;show IntKind.u64.wrap ((BitVec.ofInt 64 (a:Int)^^^BitVec.ofInt 64 (b:Int)).toNat:Int)=_;rw[BitVec.ofInt_natCast,BitVec.ofInt_natCast,BitVec.toNat_xor,BitVec.toNat_ofNat,BitVec.toNat_ofNat,Nat.mod_eq_of_lt ha,Nat.mod_eq_of_lt hb];have:a^^^b<2^64:=Nat.xor_lt_two_pow ha hb;exact wu _ qqo qqo
theorem xor_shl (r:UInt64) (k:Nat) (hk:k<64):ixor .u64 (r.toNat:Int) (ishl .u64 (r.toNat:Int) (k:Int))=((r^^^(r<<<(UInt64.ofNat k))).toNat:Int):=by
 have hr:=r.toNat_lt
 have e:ishl .u64 (r.toNat:Int) (k:Int)=((r.toNat<<<k%18446744073709551616:Nat):Int):=by
  unfold ishl;rw[IntKind.wrap_u64,Nat.shiftLeft_eq];have:min (k:Int).toNat IntKind.u64.bits=k:=by show min (k:Int).toNat 64=k;omega
  rw[this,Int.natCast_emod,qdb,Int.natCast_pow];rfl
 rw[e,kgl _ _ qqo qqo,UInt64.toNat_xor,UInt64.toNat_shiftLeft];have:(UInt64.ofNat k).toNat%64=k:=by rw[UInt64.toNat_ofNat'];omega
 rw[this]
theorem xor_shr (r:UInt64) (k:Nat) (hk:k<64):ixor .u64 (r.toNat:Int) (ishr .u64 (r.toNat:Int) (k:Int))=((r^^^(r>>>(UInt64.ofNat k))).toNat:Int):=by
 have hr:=r.toNat_lt
 have e:ishr .u64 (r.toNat:Int) (k:Int)=((r.toNat>>>k:Nat):Int):=by
  unfold ishr;have:min (k:Int).toNat IntKind.u64.bits=k:=by show min (k:Int).toNat 64=k;omega
  rw[this,Nat.shiftRight_eq_div_pow,Int.fdiv_eq_ediv_of_nonneg _ (by exact qdj (Int.pow_pos qqd)),Int.natCast_ediv,Int.natCast_pow];rfl
 have hs:r.toNat>>>k<=r.toNat:=by rw[Nat.shiftRight_eq_div_pow];exact Nat.div_le_self _ _
 rw[e,kgl _ _ qqo qqo,UInt64.toNat_xor,UInt64.toNat_shiftRight];have:(UInt64.ofNat k).toNat%64=k:=by rw[UInt64.toNat_ofNat'];omega
 rw[this]
def xnI (s:Int):Int:=
 let a:=ixor .u64 s (ishl .u64 s 13);let b:=ixor .u64 a (ishr .u64 a 7)
 ixor .u64 b (ishl .u64 b 17)
theorem xnI_eq (r:UInt64):xnI (r.toNat:Int)=((Sort.xorNext r).toNat:Int):=by unfold xnI Sort.xorNext;dsimp only;have h1:=xor_shl r 13 qqd;rw[show((13:Nat):Int)=13 from rfl]at h1;rw[h1];have h2:=xor_shr (r^^^(r<<<(UInt64.ofNat 13))) 7 qqd;rw[show((7:Nat):Int)=7 from rfl]at h2;rw[h2];exact xor_shl _ 17 qqd
def brkL [Inhabited α] (a length modulus:Nat):Nat->UInt64×Array α->Nat->Array α
 |0,st,_=>st.2
 |k+1,st,idx=>brkL a length modulus k (Sort.breakStep a length modulus st idx) (idx+1)
theorem brkL_go [Inhabited α] (a len md k:Nat) (u:UInt64) (d:Array α) (i:Nat):brkL a len md (k+1) (u,d) i=brkL a len md k (Sort.xorNext u,Sort.swp d i (a+(if(Sort.xorNext u).toNat&&&(md-1)≥len then((Sort.xorNext u).toNat&&&(md-1))-len else(Sort.xorNext u).toNat&&&(md-1)))) (i+1):=rfl
theorem brk_eq [Inhabited α] (d:Array α) (a b:Nat) (h:8<=b-a):Sort.breakPatterns d a b=brkL a (b-a) (1<<<Sort.bitsLen (b-a)) 3 (UInt64.ofNat (b-a),d) (a+(b-a)/4*2-1):=by unfold Sort.breakPatterns;rw[ql h];rfl
theorem brk_no [Inhabited α] (d:Array α) (a b:Nat) (h:¬8<=b-a):Sort.breakPatterns d a b=d:=by unfold Sort.breakPatterns;rw[qm h]
theorem kbv (n:Nat):len64 (n:Int)=((Sort.bitsLen n:Nat):Int):=by
 unfold len64 Sort.bitsLen;by_cases h:n=0
 ·subst h;rfl
 ·rw[qm h,qm qqo];simp
theorem npo (n:Nat) (hn:n<4611686018427387904):ishl .u64 1 (len64 (n:Int))=((1<<<Sort.bitsLen n:Nat):Int):=by
 rw[kbv];have hk:Sort.bitsLen n<=62:=(Sort.bitsLen_le_iff n 62).2 hn;unfold ishl;have:min ((Sort.bitsLen n:Nat):Int).toNat IntKind.u64.bits=Sort.bitsLen n:=by show min ((Sort.bitsLen n:Nat):Int).toNat 64=_;omega
 rw[this,Nat.shiftLeft_eq,qdh,Int.one_mul];have hp:2^Sort.bitsLen n<=2^62:=Nat.pow_le_pow_right qqd hk;rw[wu]
 ·rw[Int.natCast_pow];rfl
 ·exact qdj (Int.pow_pos qqd)
 ·have h1:((2^Sort.bitsLen n:Nat):Int)<=((2^62:Nat):Int):=Int.ofNat_le.2 hp;rw[Int.natCast_pow]at h1;have h2:((2^62:Nat):Int)=4611686018427387904:=by decide
  have h3:(((2:Nat):Int)^Sort.bitsLen n)=(2:Int)^Sort.bitsLen n:=rfl;omega
theorem npo_le (n:Nat) (h:0<n):1<<<Sort.bitsLen n<=2*n/\n<1<<<Sort.bitsLen n:=by rw[Nat.shiftLeft_eq,qdh];exact⟨Sort.two_pow_bitsLen_le h,Sort.lt_two_pow_bitsLen n⟩
theorem k2b [Inhabited α] [LT α] [DecidableLT α] {d:Array α} {a b c n:Nat} (ha:a<n) (hb:b<n):(Sort.order2 ltA d a b c).1<n/\(Sort.order2 ltA d a b c).2.1<n/\(Sort.order2 ltA d a b c).2.2<=c+1:=by
 unfold Sort.order2;split
 ·exact⟨hb,ha,qr _⟩
 ·exact⟨ha,hb,qcg _⟩
theorem k74 [Inhabited α] [LT α] [DecidableLT α] {d:Array α} {a b c s n:Nat} (ha:a<n) (hb:b<n) (hc:c<n):(Sort.median ltA d a b c s).1<n/\(Sort.median ltA d a b c s).2<=s+3:=by
 unfold Sort.median;dsimp only;have h1:=k2b (d:=d) (c:=s) ha hb;generalize Sort.order2 ltA d a b s=r1 at *
 have h2:=k2b (d:=d) (c:=r1.2.2) h1.2.1 hc;generalize Sort.order2 ltA d r1.2.1 c r1.2.2=r2 at *
 have h3:=k2b (d:=d) (c:=r2.2.2) h1.1 h2.1;exact⟨h3.2.1,by omega⟩
end Go.Md
namespace Go.Proofs.YtghlnaoogfcldaaGreat
open Go Go.Bv Go.Cv Go.Md Go.RowKit
open Go.IntKind (i64 u64)
instance:OrdA wA where
 swo:=by
  refine⟨fun x=>qaf fun h=> ?_,fun x y z h1 h2=>qae ?_,fun x y z h1 h2=>qaf ?_⟩
  ·rcases k21.1 h with⟨_,_,h⟩|⟨h1,h2⟩
   ·exact ki1 x h
   ·exact h2 h1
  ·have h1:=k21.1 (qb h1);have h2:=k21.1 (qb h2);refine k21.2 ?_;rcases h1 with⟨a,b,c⟩|⟨a,b⟩
   ·rcases h2 with⟨d,e,f⟩|⟨d,e⟩
    ·exact .inl ⟨a,e,k34 a b e c f⟩
    ·exact .inr ⟨a,e⟩
   ·rcases h2 with⟨d,e,f⟩|⟨d,e⟩
    ·exact absurd d b
    ·exact absurd d b
  ·have h1:=mt k21.2 (qc h1);have h2:=mt k21.2 (qc h2);refine mt k21.1 ?_;rintro (⟨a,c,h⟩|⟨a,c⟩)
   ·have hb:GE y:=Decidable.by_contra fun hb=>h1 (.inr ⟨a,hb⟩);have n1:¬betE x y:=fun q=>h1 (.inl ⟨a,hb,q⟩);have n2:¬betE y z:=fun q=>h2 (.inl ⟨hb,c,q⟩);rcases k7d (a:=x) (b:=y)with q|q|⟨q1,q2⟩
    ·exact n1 q
    ·exact n2 (k34 hb a c q h)
    ·rcases k7d (a:=y) (b:=z)with r|r|⟨r1,r2⟩
     ·exact n2 r
     ·exact n1 (k34 a c hb h r)
     ·have x1:=a.w0;have y1:=hb.w0;have z1:=c.w0;have s1:=k1j (a:=x.wU) (b:=y.wU) (c:=z.wU) (x:=x.weight) (y:=y.weight) (z:=z.weight) qqo qqo qqo qqo qqo;have s2:=k1j (a:=z.wU) (b:=y.wU) (c:=x.wU) (x:=z.weight) (y:=y.weight) (z:=x.weight) qqo qqo qqo qqo qqo;unfold betE at h;omega
   ·by_cases hb:GE y
    ·exact h2 (.inr ⟨hb,c⟩)
    ·exact h1 (.inr ⟨a,hb⟩)
theorem nlt_of {a b:wA} (h:(!decide (cmpG a b<0))=true):¬a<b:=fun q=>by rw[qae (show cmpG a b<0 from q)]at h;cases h
theorem lt_of {a b:wA} (h:(!decide (cmpG a b<0))=false):a<b:=Decidable.byContradiction fun q=>by rw[qaf (show¬cmpG a b<0 from q)]at h;cases h
def AntiL (g:List wA):Prop:=∀x∈g,∀y∈g,¬x<y->¬y<x->x=y
structure GL (g:List wA):Prop where
 e:∀x∈g,GE x
 a:AntiL g
theorem GL.sub {g g' :List wA} (h:GL g) (hs:∀x∈g',x∈g):GL g' :=⟨fun x hx=>h.e x (hs x hx),fun x hx y hy=>h.a x (hs x hx) y (hs y hy)⟩
theorem GL.ix {g:List wA} (h:GL g) {i:Int} (h0:0<=i) (h1:i<g.length):GE (ix g i):=by rw[ix_nat g i h0 h1];exact h.e _ (qab _)
theorem GL.swp {g:List wA} (h:GL g) {i j:Int} (h0:0<=i) (h1:i<g.length) (h2:0<=j) (h3:j<g.length):GL (swpL g i j):=by
 refine h.sub fun x hx=> ?_;have hp:(swpL g i j).Perm g:=by unfold swpL;rw[ix_nat g i h0 h1,ix_nat g j h2 h3];exact List.set_set_perm qqo qqo
 exact hp.mem_iff.1 hx
theorem kad {d:Array wA} {k:Nat} (h:k<d.size):d[k]! ∈d.toList:=by rw[getElem!_pos d k h];simp
theorem kn4 {d:Array wA} {x:wA} (h:x∈d.toList):∃k,k<d.size/\d[k]! =x:=by obtain⟨k,hk,e⟩:=qbo h;exact⟨k,by simpa using hk,by rw[getElem!_pos d k (by simpa using hk)];simpa using e⟩
theorem k2p (d:Array wA) (a b k:Nat) (hb:b<=d.size) (hk:a+k<b):(d.extract a b).toList[k]? =some d[a+k]! :=by rw[Sort.extract_toList d a b hb,qh,List.getElem?_range' qqo];simp
theorem k45 {d d' :Array wA} {a b:Nat} (hb:b<=d.size) (h:Sort.PermIn a b d d') {x:wA} (hx:x∈d'.toList):x∈d.toList:=by
 obtain⟨h1,h2,h3⟩:=h;obtain⟨k,hk,rfl⟩:=kn4 hx;by_cases hc:k<a∨b<=k
 ·rw[h2 k hc];exact kad qqo
 ·have e:=k2p d' a b (k-a) qqo qqo;rw[show a+(k-a)=k by omega]at e;have:d'[k]! ∈(d.extract a b).toList:=h3.mem_iff.1 (qam e);obtain⟨q,hq⟩:=qcb this;have hql:q<(d.extract a b).toList.length:=(qq.1 hq).1;simp at hql;rw[k2p d a b q hb qqo]at hq;rw[<-Option.some.inj hq];exact kad qqo
theorem GL.perm {g:List wA} {d:Array wA} {a b:Nat} (h:GL g) (hb:b<=g.length) (hp:Sort.PermIn a b g.toArray d):GL d.toList:=h.sub fun x hx=>(by have:=k45 (by simpa using hb) hp hx;simpa using this)
theorem k9j {d d' :Array wA} {a b:Nat} (h:Sort.PermIn a b d d'):Sort.PermIn a b d' d:=⟨h.1.symm,fun i hi=>(h.2.1 i hi).symm,h.2.2.symm⟩
theorem GL.back {g:List wA} {d R:Array wA} {a b a' b' :Nat} (h:GL g) (hb:b<=g.length) (hb' :b'<=d.size) (h1:Sort.PermIn a b g.toArray R) (h2:Sort.PermIn a' b' d R):GL d.toList:=(h.perm hb h1).sub fun x hx=>k45 (by rw[h2.1];exact hb') (k9j h2) hx
theorem swp_mem {d:Array wA} {i j:Nat} (hi:i<d.size) (hj:j<d.size) {x:wA} (hx:x∈(Sort.swp d i j).toList):x∈d.toList:=by
 have e:=swpN (g:=d.toList) (i:=i) (j:=j) (by simpa using hi) (by simpa using hj);rw[show d.toList.toArray=d by simp]at e;rw[e]at hx;have hp:(swpL d.toList i j).Perm d.toList:=by unfold swpL;rw[ix_nat d.toList i qqo (by simpa using hi),ix_nat d.toList j qqo (by simpa using hj)];exact List.set_set_perm (by simpa using hi) (by simpa using hj)
 exact hp.mem_iff.1 (by simpa using hx)
theorem kfq (hi first:Nat):∀(n root:Nat) (d:Array wA),hi-root<=n->first+hi<=d.size->∀x∈(Sort.siftDown ltA hi first root d).toList,x∈d.toList:=by
 intro n;induction n with
 |zero=>intro root d h _ x;rw[Sort.siftDown,dif_pos qqo];exact id
 |succ n ih=>
  intro root d h hs x;rw[Sort.siftDown];split
  ·exact id
  ·split
   ·split
    ·exact id
    ·split
     ·intro hx;exact swp_mem qqo qqo (ih _ _ qqo (by rw[Sort.size_swp];exact hs) x hx)
     ·exact id
   ·split
    ·exact id
    ·intro hx;exact swp_mem qqo qqo (ih _ _ qqo (by rw[Sort.size_swp];exact hs) x hx)
theorem GL.sd {g:List wA} (h:GL g) {lo hi first:Int} (h0:0<=hi) (h1:0<=first) (hl:first+hi<=g.length):GL (sdS g lo hi first):=h.sub fun x hx=>(by
 have:=kfq hi.toNat first.toNat _ lo.toNat g.toArray (qr _) qqm x hx
 simpa using this)
theorem k3z:∀(l m:List wA),l.Perm m->AntiL l->l.Pairwise (fun x y=>¬y<x)->m.Pairwise (fun x y=>¬y<x)->l=m
 |[],m,h,_,_,_=>by rw[h.symm.eq_nil]
 |x::l,[],h,_,_,_=>by cases h.eq_nil
 |x::l,y::m,h,ha,hl,hm=>by
  rw[List.pairwise_cons]at hl hm;have hx:x∈y::m:=h.mem_iff.1 qqs;have hy:y∈x::l:=h.mem_iff.2 qqs
  have e:x=y:=by
   rcases qal.1 hx with e|hx
   ·exact e
   ·rcases qal.1 hy with e|hy
    ·exact e.symm
    ·exact ha x qqs y (qds _ hy) (hm.1 x hx) (hl.1 y hy)
  subst e;rw[k3z l m ((List.perm_cons x).1 h) (fun a h1 b h2=>ha a (qds _ h1) b (qds _ h2)) hl.2 hm.2]
theorem k5r {d:Array wA} {a b:Nat} (hb:b<=d.size) (h:Sort.SortedIn ltA a b d):(d.extract a b).toList.Pairwise (fun x y=>¬y<x):=by
 rw[qei];intro i j hi hj hij;have hl:(d.extract a b).toList.length=b-a:=by simp;omega
 have e1:=k2p d a b i hb qqo;have e2:=k2p d a b j hb qqo;rw[qd hi]at e1;rw[qd hj]at e2;rw[Option.some.inj e1,Option.some.inj e2];have:=h (a+i) (a+j) qqo qqo qqo;rw[ltI_iff]at this;exact qc this
theorem kex {d R R' :Array wA} {a b:Nat} (hb:b<=d.size) (hA:AntiL d.toList) (h1:Sort.PermIn a b d R) (h2:Sort.SortedIn ltA a b R) (h3:Sort.PermIn a b d R') (h4:Sort.SortedIn ltA a b R'):R=R' :=by
 have hm:∀x,x∈(R.extract a b).toList->x∈d.toList:=fun x hx=>k45 hb h1 (by
  obtain⟨k,hk⟩:=qcb hx;have hkl:k<(R.extract a b).toList.length:=(qq.1 hk).1;have h11:=h1.1;simp at hkl;rw[k2p R a b k qqo qqo]at hk;rw[<-Option.some.inj hk];exact kad qqo)
 have e:=k3z _ _ (h1.2.2.trans h3.2.2.symm) (fun x hx y hy=>hA x (hm x hx) y (hm y hy)) (k5r (by rw[h1.1];exact hb) h2) (k5r (by rw[h3.1];exact hb) h4);refine Array.ext (by rw[h1.1,h3.1]) fun i hi hi' => ?_;have q1:R[i]! =R[i]:=getElem!_pos R i hi;have q2:R'[i]! =R'[i]:=getElem!_pos R' i hi';rw[<-q1,<-q2];by_cases hc:a<=i/\i<b
 ·have e1:=k2p R a b (i-a) (by rw[h1.1];exact hb) qqo;have e2:=k2p R' a b (i-a) (by rw[h3.1];exact hb) qqo;rw[e,e2,show a+(i-a)=i by omega]at e1;exact(Option.some.inj e1).symm
 ·rw[h1.2.1 i qqo,h3.2.1 i qqo]
theorem kz {g:List wA} {a b:Int} (h0:0<=a) (h1:a<=b) (h2:b<=g.length):Sort.PermIn a.toNat b.toNat g.toArray (insS g a b).toArray/\Sort.SortedIn ltA a.toNat b.toNat (insS g a b).toArray:=by have:=Sort.insertionSort_holds (lt:=ltA) (OrdA.swo (α:=wA)) g.toArray a.toNat b.toNat qqo qqm;unfold insS;simpa using this
theorem kj8 {g:List wA} {a b:Int} (h0:0<=a) (h1:a<=b) (h2:b<=g.length):Sort.PermIn a.toNat b.toNat g.toArray (heapS g a b).toArray/\Sort.SortedIn ltA a.toNat b.toNat (heapS g a b).toArray:=by have:=Sort.heapSort_holds (lt:=ltA) (OrdA.swo (α:=wA)) g.toArray a.toNat b.toNat qqo qqm;unfold heapS;simpa using this
theorem GL.unins {g:List wA} {a b:Int} (h:GL (insS g a b)) (h0:0<=a) (h1:a<=b) (h2:b<=g.length):GL g:=h.sub fun x hx=>by have l:=kz h0 h1 h2;have:=k45 (by rw[l.1.1];simp;omega) (k9j l.1) (x:=x) (by simpa using hx);simpa using this
structure PdqI (R0:Array wA) (n:Nat) (a b:Int) (g:List wA):Prop where
 a0:0<=a
 ab:a<=b
 bl:b<=g.length
 n:g.length=n
 be:Sort.Below ltA a.toNat b.toNat g.toArray
 gl:GL g
 u:∀R,Sort.PermIn a.toNat b.toNat g.toArray R->Sort.SortedIn ltA a.toNat b.toNat R->R=R0
theorem PdqI.perm {R0:Array wA} {n:Nat} {a b:Int} {g:List wA} {d:Array wA} (h:PdqI R0 n a b g) (hp:Sort.PermIn a.toNat b.toNat g.toArray d):PdqI R0 n a b d.toList:=by have hb:=h.bl;have ha:=h.a0;have hs:=hp.1;simp at hs;refine⟨ha,h.ab,by simp;omega,by simp;rw[hs];exact h.n,?_,h.gl.perm qqo hp,fun R h1 h2=>h.u R (Sort.permIn_trans _ _ _ _ _ hp (by simpa using h1)) h2⟩;simpa using h.be.perm qqm hp
theorem PdqI.ins {R0:Array wA} {n:Nat} {a b:Int} {g:List wA} (h:PdqI R0 n a b g):insS g a b=R0.toList:=by obtain⟨h1,h2⟩:=kz h.a0 h.ab h.bl;rw[<-h.u _ h1 h2]
theorem PdqI.heap {R0:Array wA} {n:Nat} {a b:Int} {g:List wA} (h:PdqI R0 n a b g):heapS g a b=R0.toList:=by obtain⟨h1,h2⟩:=kj8 h.a0 h.ab h.bl;rw[<-h.u _ h1 h2]
theorem PdqI.brk {R0:Array wA} {n:Nat} {a b:Int} {g:List wA} (h:PdqI R0 n a b g):PdqI R0 n a b (brkS g a b):=by have h1:=h.a0;have h2:=h.ab;have h3:=h.bl;exact h.perm (Sort.breakPatterns_holds g.toArray a.toNat b.toNat qqo qqm)
theorem PdqI.rev {R0:Array wA} {n:Nat} {a b:Int} {g:List wA} (h:PdqI R0 n a b g):PdqI R0 n a b (revS g a b):=by have h1:=h.a0;have h2:=h.ab;have h3:=h.bl;exact h.perm (Sort.reverseRange_holds g.toArray a.toNat b.toNat qqo qqm)
theorem PdqI.pis {R0:Array wA} {n:Nat} {a b:Int} {g:List wA} (h:PdqI R0 n a b g) (hab:a<b):PdqI R0 n a b (pisS g a b).1.toList/\((pisS g a b).2=true->(pisS g a b).1.toList=R0.toList):=by have h1:=h.a0;have h2:=h.ab;have h3:=h.bl;obtain⟨q1,q2⟩:=Sort.partialInsertionSort_holds (lt:=ltA) (OrdA.swo (α:=wA)) g.toArray a.toNat b.toNat qqo qqm h.be;exact⟨h.perm q1,fun e=>by rw[<-h.u _ q1 (q2 e)];rfl⟩
theorem PdqI.peq {R0:Array wA} {n:Nat} {a b p:Int} {g:List wA} (h:PdqI R0 n a b g) (ha:0<a) (h1:a<=p) (h2:p<b) (hn:¬ix g (a-1)<ix g p):a<(peqS g a b p).1/\(peqS g a b p).1<=b/\PdqI R0 n (peqS g a b p).1 b (peqS g a b p).2.toList:=by
 have h3:=h.bl;have e1:g.toArray[a.toNat-1]! =ix g (a-1):=by rw[show a.toNat-1=(a-1).toNat by omega];exact arr_ix qqo qqo
 have e2:g.toArray[p.toNat]! =ix g p:=arr_ix qqo qqo;obtain⟨q1,q2,q3,q4,q5⟩:=Sort.round_eq (lt:=ltA) (d3:=g.toArray) (d4:=(peqS g a b p).2) (a:=a.toNat) (b:=b.toNat) (pivot:=p.toNat) (mid:=(peqS g a b p).1) (OrdA.swo (α:=wA)) (Sort.partitionEqual_holds ltA) qqo qqo qqo qqm h.be (by rw[e1,e2,ltI_iff];exact qaf hn) rfl;simp at q3;have l1:=kz (g:=(peqS g a b p).2.toList) (a:=(peqS g a b p).1) (b:=b) qqo qqo qqm;simp only[qcs,qac]at l1;have gl:GL (peqS g a b p).2.toList:=h.gl.back qqo qqo (q5 _ l1.1 l1.2).1 l1.1;refine⟨by omega,by omega,⟨by omega,by omega,by simp;omega,by simp;rw[q3];exact h.n,by simpa using q4,gl,fun R r1 r2=> ?_⟩⟩;simp only[qac,qcs]at r1 r2;obtain⟨s1,s2⟩:=q5 R r1 r2;exact h.u R s1 s2
theorem PdqI.part {R0:Array wA} {n:Nat} {a b p:Int} {g:List wA} (h:PdqI R0 n a b g) (h1:a<=p) (h2:p<b):a<=(partS g a b p).1/\(partS g a b p).1<b/\(partS g a b p).2.2.size=n/\
  Sort.Below ltA a.toNat (partS g a b p).1 (partS g a b p).2.2/\Sort.Below ltA ((partS g a b p).1+1) b.toNat (partS g a b p).2.2/\
  PdqI R0 n ((partS g a b p).1+1) b (insS (partS g a b p).2.2.toList a (partS g a b p).1)/\PdqI R0 n a (partS g a b p).1 (insS (partS g a b p).2.2.toList ((partS g a b p).1+1) b):=by
 have h3:=h.bl;have h0:=h.a0;obtain⟨q1,q2,q3,q4,q5,q6,q7⟩:=Sort.round_part (lt:=ltA) (d3:=g.toArray) (d4:=(partS g a b p).2.2) (a:=a.toNat) (b:=b.toNat) (pivot:=p.toNat) (mid:=(partS g a b p).1) (ap:=(partS g a b p).2.1) (OrdA.swo (α:=wA)) (Sort.partition_holds ltA) qqo qqo qqm h.be rfl;simp at q3;have hn:=h.n;generalize partS g a b p=P at *
 obtain⟨m,ap,d⟩:=P;dsimp only at *
 have l1:=kz (g:=d.toList) (a:=a) (b:=m) h0 qqo qqm;have l2:=kz (g:=d.toList) (a:=(m:Int)+1) (b:=b) qqo qqo qqm;simp only[qcs,qac]at l1 l2;rw[show((m:Int)+1).toNat=m+1 by omega]at l2;have n1:(insS d.toList a m).length=d.toList.length:=ka5 h0 qqo qqm;have n2:(insS d.toList ((m:Int)+1) b).length=d.toList.length:=ka5 qqo qqo qqm;simp at n1 n2;obtain⟨w1,w2⟩:=q6 _ l1.1 l1.2;obtain⟨w3,w4⟩:=q7 _ l2.1 l2.2;have g1:GL (insS d.toList a m):=by have l3:=kz (g:=insS d.toList a m) (a:=(m:Int)+1) (b:=b) qqo qqo qqo;rw[show((m:Int)+1).toNat=m+1 by omega]at l3;have:=h.gl.back (d:=(insS d.toList a m).toArray) qqo qqm (w2 _ l3.1 l3.2).1 l3.1;simpa using this
 have g2:GL (insS d.toList ((m:Int)+1) b):=by have l3:=kz (g:=insS d.toList ((m:Int)+1) b) (a:=a) (b:=m) qqo qqo qqo;rw[qac]at l3;have:=h.gl.back (d:=(insS d.toList ((m:Int)+1) b).toArray) qqo qqm (w4 _ l3.1 l3.2).1 l3.1;simpa using this
 refine⟨by omega,by omega,by omega,q4,q5,⟨by omega,by omega,by omega,by omega,by rw[show((m:Int)+1).toNat=m+1 by omega];exact w1,g1,fun R r1 r2=> ?_⟩,⟨h0,by omega,by omega,by omega,by simpa using w3,g2,fun R r1 r2=> ?_⟩⟩
 ·rw[show((m:Int)+1).toNat=m+1 by omega]at r1 r2;obtain⟨s1,s2⟩:=w2 R r1 r2;exact h.u R s1 s2
 ·simp only[qac]at r1 r2;obtain⟨s1,s2⟩:=w4 R r1 r2;exact h.u R s1 s2
theorem PdqI.start {g:List wA} {a b:Int} (hG:GL g) (h0:0<=a) (h1:a<=b) (h2:b<=g.length) (hB:Sort.Below ltA a.toNat b.toNat g.toArray):PdqI (insS g a b).toArray g.length a b g:=by obtain⟨q1,q2⟩:=kz h0 h1 h2;exact⟨h0,h1,h2,rfl,hB,hG,fun R r1 r2=>kex qqm (by simpa using hG.a) r1 r2 q1 q2⟩
theorem k38 {a b:wC}:betT a b=true↔betE (eOf a) (eOf b):=by unfold betT;exact decide_eq_true_iff
theorem kl1 {a b c:wC} (ha:VR a) (hb:VR b) (hc:VR c) (h1:betT a b=true) (h2:betT b c=true):betT a c=true:=k38.2 (k34 (ge_of ha) (ge_of hb) (ge_of hc) (k38.1 h1) (k38.1 h2))
theorem bet_tot {a b:wC} (hi:idS a≠idS b) (h:betT a b=false):betT b a=true:=by
 rcases k7d (a:=eOf a) (b:=eOf b)with q|q|⟨_,q⟩
 ·rw[k38.2 q]at h;cases h
 ·exact k38.2 q
 ·exact absurd q hi
theorem k3h (L:List wC) (t:wC):(putL L t).Perm (t::L):=by unfold putL;have h:(L.takeWhile (betT · t)++L.dropWhile (betT · t))=L:=List.takeWhile_append_dropWhile;exact List.perm_middle.trans (by rw[h])
theorem wL_perm {L M:List wC} (h:L.Perm M):wL L=wL M:=by
 unfold wL;induction h with
 |nil=>rfl
 |cons x _ ih=>simp only[qx,qel];omega
 |swap x y l=>simp only[qx,qel];omega
 |trans _ _ a b=>exact a.trans b
theorem put_len (L:List wC) (t:wC):(putL L t).length=L.length+1:=(k3h L t).length_eq
theorem dw_head {p:wC->Bool}:∀{L:List wC} {y:wC} {r:List wC},L.dropWhile p=y::r->p y=false
 |[],_,_,h=>by cases h
 |x::L,y,r,h=>by
  rw[List.dropWhile_cons]at h;split at h
  ·exact dw_head h
  ·rename_i hp;injection h with h1 h2;subst h1;simpa using hp
theorem tw_all {p:wC->Bool}:∀{L:List wC} {y:wC},y∈L.takeWhile p->p y=true
 |[],_,h=>by cases h
 |x::L,y,h=>by
  rw[qev]at h;split at h
  ·rename_i hp;rcases qal.1 h with rfl|h
   ·exact hp
   ·exact tw_all h
  ·cases h
theorem kb7 {L:List wC} {t:wC} (hv:VL L) (hs:L.Pairwise (fun a b=>betT a b=true)) (ht:VR t) (hi:idS t∉L.map idS):(putL L t).Pairwise (fun a b=>betT a b=true):=by
 have h:(L.takeWhile (betT · t)++L.dropWhile (betT · t))=L:=List.takeWhile_append_dropWhile;have hm1:∀x∈L.takeWhile (betT · t),x∈L:=fun x hx=>by rw[<-h];exact List.mem_append_left _ hx
 have hm2:∀x∈L.dropWhile (betT · t),x∈L:=fun x hx=>by rw[<-h];exact qec _ hx
 rw[<-h,List.pairwise_append]at hs;obtain⟨s1,s2,s3⟩:=hs;unfold putL;rw[List.pairwise_append,List.pairwise_cons]
 have hd:∀z∈L.dropWhile (betT · t),betT t z=true:=by
  intro z hz;cases hq:L.dropWhile (betT · t)with
  |nil=>rw[hq]at hz;cases hz
  |cons y r=>
   have hy:betT y t=false:=dw_head (p:=fun x=>betT x t) hq;have hyL:=hm2 y (by rw[hq];simp);have hty:betT t y=true:=bet_tot (fun e=>hi (e▸List.mem_map_of_mem hyL)) hy;rw[hq]at hz s2;rcases qal.1 hz with rfl|hz
   ·exact hty
   ·exact kl1 ht (hv y hyL) (hv z (hm2 z (by rw[hq];exact qds _ hz))) hty ((List.pairwise_cons.1 s2).1 z hz)
 refine⟨s1,⟨hd,s2⟩,fun a ha b hb=> ?_⟩;rcases qal.1 hb with rfl|hb
 ·exact tw_all (p:=fun x=>betT x b) ha
 ·exact s3 a ha b hb
theorem kkc {L:List wC} (hv:VL L) (hs:L.Pairwise (fun a b=>betT a b=true)):(eL L).Pairwise (fun x y=>¬y<x):=by unfold eL;rw[List.pairwise_map];refine(qei.2 fun i j hi hj hij=> ?_);have h:=qei.1 hs i j hi hj hij;have v1:=hv _ (qab hi);have v2:=hv _ (qab hj);intro q;have q:=(lt_good (ge_of v2) (ge_of v1)).1 q;exact ki1 _ (k34 (ge_of v1) (ge_of v2) (ge_of v1) (k38.1 h) q)
theorem eL_gl {L:List wC} (hv:VL L) (hi:(L.map idS).Nodup):GL (eL L):=by
 refine⟨fun x hx=> ?_,fun x hx y hy h1 h2=> ?_⟩
 ·obtain⟨t,ht,rfl⟩:=qad.1 hx;exact ge_of (hv t ht)
 ·obtain⟨t,ht,rfl⟩:=qad.1 hx;obtain⟨u,hu,rfl⟩:=qad.1 hy;have n1:=mt (lt_good (ge_of (hv t ht)) (ge_of (hv u hu))).2 h1;have n2:=mt (lt_good (ge_of (hv u hu)) (ge_of (hv t ht))).2 h2;rcases k7d (a:=eOf t) (b:=eOf u)with q|q|⟨_,q⟩
  ·exact absurd q n1
  ·exact absurd q n2
  ·have q:idS t=idS u:=q;have:t=u:=by obtain⟨i,hi',rfl⟩:=qbo ht;obtain⟨j,hj',rfl⟩:=qbo hu;have:=(List.getElem_inj (i:=i) (j:=j) (h₀:=by simpa using hi') (h₁:=by simpa using hj') hi).1 (by simpa using q);subst this;rfl
   rw[this]
theorem ins_put {L:List wC} {t:wC} (hv:VL L) (hs:L.Pairwise (fun a b=>betT a b=true)) (hi:(L.map idS).Nodup) (ht:VR t) (hn:idS t∉L.map idS):
  GL (eL L++[eOf t])/\insS (eL L++[eOf t]) 0 (eL L++[eOf t]).length=eL (putL L t):=by
 have hvt:VL (L++[t]):=fun x hx=>by
  rcases qaz.1 hx with hx|hx
  ·exact hv x hx
  ·rw[qbn.1 hx];exact ht
 have hit:((L++[t]).map idS).Nodup:=by rw[qbd,qdq];refine⟨hi,by simp,fun a ha b hb=> ?_⟩;rw[List.map_singleton,qbn]at hb;rintro rfl;rw[hb]at ha;exact hn ha
 have e1:eL L++[eOf t]=eL (L++[t]):=by simp[eL]
 rw[e1];have hG:=eL_gl hvt hit;refine⟨hG,?_⟩;have hp:(putL L t).Perm (L++[t]):=(k3h L t).trans (List.perm_append_comm (l₁:=[t]) (l₂:=L));have f:=kz (g:=eL (L++[t])) (a:=0) (b:=(eL (L++[t])).length) qqo qqo qqo;have hl:(insS (eL (L++[t])) 0 (eL (L++[t])).length).length=(eL (L++[t])).length:=ka5 qqo qqo qqo;have e:=f.1.2.2;have s:=k5r (d:=(insS (eL (L++[t])) 0 (eL (L++[t])).length).toArray) (by simp only[qct,qac];rw[hl];exact qr _) f.2;have key:∀l:List wA,(l.toArray.extract 0 l.length).toList=l:=by intro l;simp
 have x1:((insS (eL (L++[t])) 0 (eL (L++[t])).length).toArray.extract (0:Int).toNat ((eL (L++[t])).length:Int).toNat).toList=insS (eL (L++[t])) 0 (eL (L++[t])).length:=by have:=key (insS (eL (L++[t])) 0 (eL (L++[t])).length);rw[hl]at this;simp only[qac,Int.toNat_zero];exact this
 have x2:((eL (L++[t])).toArray.extract (0:Int).toNat ((eL (L++[t])).length:Int).toNat).toList=eL (L++[t]):=by simp only[qac,Int.toNat_zero];exact key _
 rw[x1]at s e;rw[x2]at e;refine k3z _ _ (e.trans (hp.map eOf).symm) (fun x hx y hy=>hG.a x (e.mem_iff.1 hx) y (e.mem_iff.1 hy)) s (kkc (fun x hx=>hvt x (hp.mem_iff.1 hx)) (kb7 hv hs ht hn))
theorem k84 (a b:wC):confT a b=confT b a:=by
 unfold confT;by_cases h:idS a=idS b
 ·rw[ql h,ql h.symm]
 ·rw[qm h,qm (Ne.symm h)];have e:(a.wD.any fun m=>decide (m∈b.wD))=b.wD.any fun m=>decide (m∈a.wD):=by rw[Bool.eq_iff_iff,List.any_eq_true,List.any_eq_true];exact⟨fun⟨m,h1,h2⟩=>⟨m,qb h2,qae h1⟩,fun⟨m,h1,h2⟩=>⟨m,qb h2,qae h1⟩⟩
  rw[e,show decide (a.wI=b.wI)=decide (b.wI=a.wI)from decide_eq_decide.2 ⟨Eq.symm,Eq.symm⟩,show decide (a.wM=b.wM)=decide (b.wM=a.wM)from decide_eq_decide.2 ⟨Eq.symm,Eq.symm⟩,Bool.and_comm (decide (0<a.wH))]
theorem PL.nil:PL []:=⟨fun _ h=>(by cases h),.nil,.nil,.nil⟩
theorem PL.put {L:List wC} {t:wC} (h:PL L) (ht:VR t) (hn:idS t∉L.map idS) (hc:cfl L t=[]):PL (putL L t):=by
 have hp:=k3h L t;refine⟨fun x hx=> ?_,kb7 h.v h.s ht hn,?_,?_⟩
 ·rcases qal.1 (hp.mem_iff.1 hx)with rfl|hx
  ·exact ht
  ·exact h.v x hx
 ·exact(hp.map idS).nodup_iff.2 (qdl.2 ⟨hn,h.i⟩)
 ·refine(hp.pairwise_iff (fun {x y} q=>by rw[k84];exact q)).2 (List.pairwise_cons.2 ⟨fun x hx=> ?_,h.c⟩);cases hq:confT t x with
  |false=>rfl
  |true=>have:idS x∈cfl L t:=List.mem_map_of_mem (List.mem_filter.2 ⟨hx,hq⟩);rw[hc]at this;cases this
theorem PL.take {L:List wC} (h:PL L) (k:Nat):PL (L.take k):=⟨h.v.take k,h.s.sublist (List.take_sublist ..),h.i.sublist ((List.take_sublist ..).map _),h.c.sublist (List.take_sublist ..)⟩
theorem PL.del {L:List wC} (h:PL L) (k:Nat):PL (L.take k++L.drop (k+1)):=by
 have hs:(L.take k++L.drop (k+1)).Sublist L:=by
  have:=List.Sublist.append (List.Sublist.refl (L.take k)) (show(L.drop (k+1)).Sublist (L.drop k)by rw[<-qdu];exact List.drop_sublist 1 _)
  rwa [qcl]at this
 exact⟨fun x hx=>h.v x (hs.subset hx),h.s.sublist hs,h.i.sublist (hs.map _),h.c.sublist hs⟩
theorem khx {c i:Int} {L:List wC} (h0:0<=c):∀(k:Nat) (g:Li),k<=L.length->(evL c i L k g).ok=true->
  (evL c i L k g).k<=k/\wL (L.take (evL c i L k g).k)<=c/\(evL c i L k g).g=g++(((L.take k).drop (evL c i L k g).k).map idS).reverse/\(∀j (hj:j<k),(evL c i L k g).k<=j->∀hl:j<L.length,idS L[j]≠i)/\((evL c i L k g).k<k->c<wL (L.take ((evL c i L k g).k+1)))
 |0,g,_,_=>by unfold evL;exact⟨qr _,by simpa[wL]using h0,by simp,fun j hj=>by omega,fun h=>by cases h⟩
 |k+1,g,hk,ho=>by
  unfold evL at ho ⊢;by_cases h1:c<wL (L.take (k+1))
  ·rw[ql h1]at ho ⊢;by_cases h2:idS (ix L (k:Int))=i
   ·rw[ql h2]at ho;cases ho
   ·rw[qm h2]at ho ⊢;rw[ix_get _ _ hk]at h2;obtain⟨q1,q2,q3,q4,q5⟩:=khx h0 k _ qqo ho;generalize evL c i L k (g++[idS (ix L (k:Int))])=E at *
    refine⟨by omega,q2,?_,fun j hj h3 hl=> ?_,fun h3=> ?_⟩
    ·rw[q3,qu hk,List.drop_append_of_le_length (by rw[qn];omega),qbd,List.reverse_append,ix_get _ _ hk,qas];rfl
    ·by_cases e:j=k
     ·subst e;exact h2
     ·exact q4 j qqo h3 hl
    ·by_cases e:E.k=k
     ·rw[e];exact h1
     ·exact q5 qqo
  ·rw[qm h1];exact⟨qr _,(show wL (L.take (k+1))<=c by omega),by simp,fun j hj (h3:k+1<=j)=>by omega,fun(h3:k+1<k+1)=>by omega⟩
structure PW (w:List wA):Prop where
 e:w=eL (tL w)
 p:PL (tL w)
 n:w.length<=1000
theorem PW.at {w:List wA} (h:PW w):∃L,w=eL L/\PL L/\L.length<=1000:=⟨tL w,h.e,h.p,by have:=h.n;simpa[tL]using this⟩
theorem PW.of {L:List wC} (h:PL L) (hn:L.length<=1000):PW (eL L):=⟨by simp,by simpa using h,by simpa using hn⟩
theorem PW.el {w:List wA} (h:PW w):EL w:=⟨h.e,h.p.v,by have:=h.n;omega⟩
theorem addL_ok {c:Int} {L:List wC} {t:wC} (h:PL L) (hr:TR t):PL (addL c L t).l/\(addL c L t).l.length<=L.length+1:=by
 unfold addL;by_cases h1:validE t≠0
 ·rw[ql h1];exact⟨h,qcg _⟩
 ·rw[qm h1];have hv:VR t:=⟨Decidable.not_not.1 h1,hr⟩;by_cases h2:0<=fndL L (idS t)
  ·rw[ql h2];exact⟨h,qcg _⟩
  ·rw[qm h2];by_cases h3:cfl L t≠[]
   ·rw[ql h3];exact⟨h,qcg _⟩
   ·rw[qm h3];by_cases h4:c<weightS t
    ·rw[ql h4];exact⟨h,qcg _⟩
    ·rw[qm h4];split
     ·have hp:=h.put hv (fun q=>h2 ((fnd_has _ _).2 q)) (Decidable.not_not.1 h3);refine⟨hp.take _,?_⟩;rw[qn,put_len];omega
     ·exact⟨h,qcg _⟩
theorem remL_ok {L:List wC} {i:Int} (h:PL L):PL (remL L i).l/\(remL L i).l.length<=L.length:=by
 unfold remL;split
 ·exact⟨h,qr _⟩
 ·refine⟨h.del _,?_⟩;rw[qj,qn,qaj];omega
abbrev opT (o:wAA):wC:=wC.mk o.wo o.wv o.wz o.wg o.we o.wAB o.wh o.wt o.wl o.ww
def fewB (l:List wAA) (m:List wC):Bool:=l.all (fun o=>smallB (opT o) 400)&&m.all (fun t=>smallB t 400)&&decide (l.length<=16)&&decide (m.length<=12)
def capS (c:Int):Int:=if 0<c then c else 0
theorem capS_nn (c:Int):0<=capS c:=by unfold capS;split<;>omega
def stepL (c:Int) (L:List wC) (o:wAA):List wC:=if o.wAF=true then(remL L (idS (opT o))).l else(addL c L (opT o)).l
def runL (c:Int) (l:List wAA):List wC:=l.foldl (stepL c) []
theorem kdm {c:Int} {l:List wAA} {k:Nat} (h:k<l.length):runL c (l.take (k+1))=stepL c (runL c (l.take k)) l[k]:=by unfold runL;rw[qu h,List.foldl_append];rfl
structure OA (l:List wAA) (m:List wC):Prop where
 a:l.length<=9223372036854775807
 r:∀o∈l,TR (opT o)/\(opT o).wB.length<=9223372036854775807
 b:m.length<=9223372036854775807
 s:∀t∈m,TR t/\t.wB.length<=9223372036854775807
structure FA (l:List wAA) (m:List wC):Prop where
 a:l.length<=16
 r:∀o∈l,TR (opT o)/\TL (opT o)
 b:m.length<=12
 s:∀t∈m,TR t/\TL t
theorem few_fa {l:List wAA} {m:List wC} (h:OA l m) (hf:fewB l m=true):FA l m:=by unfold fewB at hf;simp only[qe,qbi,qaw]at hf;obtain⟨⟨⟨h1,h2⟩,h3⟩,h4⟩:=hf;exact⟨h3,fun o ho=>⟨(h.r o ho).1,kg2 (h1 o ho)⟩,h4,fun t ht=>⟨(h.s t ht).1,kg2 (h2 t ht)⟩⟩
theorem step_ok {c:Int} {L:List wC} {o:wAA} (h:PL L) (hr:TR (opT o)):PL (stepL c L o)/\(stepL c L o).length<=L.length+1:=by
 unfold stepL;split
 ·have:=remL_ok (i:=idS (opT o)) h;exact⟨this.1,by omega⟩
 ·exact addL_ok h hr
theorem run_ok {c:Int} {l:List wAA} (h:∀o∈l,TR (opT o)):∀k,k<=l.length->PL (runL c (l.take k))/\(runL c (l.take k)).length<=k
 |0,_=>⟨PL.nil,qr _⟩
 |k+1,hk=>by obtain⟨q1,q2⟩:=run_ok h k qqo;rw[kdm hk];obtain⟨r1,r2⟩:=step_ok (c:=c) q1 (h _ (qab hk));exact⟨r1,by omega⟩
theorem run_all {c:Int} {l:List wAA} {m:List wC} (h:FA l m):PL (runL c l)/\(runL c l).length<=16:=by have:=run_ok (c:=c) (fun o ho=>(h.r o ho).1) l.length (qr _);rw[qbu]at this;exact⟨this.1,by have:=h.a;omega⟩
theorem kln {c:Int} {L:List wC} {t:wC} (h0:0<=c):(addL c L t).g.length<=L.length+1:=by
 unfold addL;split
 ·exact qbq _
 split
 ·exact qbq _
 split
 ·exact qbq _
 split
 ·exact qbq _
 split
 ·rename_i h;have:=khx h0 _ [] (qr _) h;show(evL c (idS t) (putL L t) (putL L t).length []).g.length<=_;rw[this.2.2.1];simp only[qcf,List.length_reverse,qf,qaj,qn,put_len];omega
 ·exact qbq _
def pay (a f:Int):wC:=wC.mk 0 [] [] 5 0 f a 0 0 []
theorem pay_r (a f:Int) (h:0<=a/\a<=100) (h2:0<=f/\f<=100):TR (pay a f):=⟨by show U64 0;omega,(by intro x hx;cases hx),(by intro x hx;cases hx),by show U64 5;omega,by show U64 0;omega,by show U64 f;omega,by show U64 a;omega,by show U64 0;omega,by show _<=(0:Int)/\(0:Int)<=_;omega,(by intro x hx;cases hx)⟩
theorem ex1:addL 0 [] (pay 1 9)=⟨[],3,[]⟩:=by kernel_rfl
theorem ex2:addL 64 [] (pay 1 3)=⟨[],0,[pay 1 3]⟩:=by kernel_rfl
theorem ex3:addL 64 [pay 1 3] (pay 2 4)=⟨[idS (pay 1 3)],0,[pay 2 4]⟩:=by kernel_rfl
theorem ex4:addL 64 [pay 2 4] (pay 3 2)=⟨[],16,[pay 2 4]⟩:=by kernel_rfl
theorem ex5:wL [pay 2 4]=64:=by kernel_rfl
theorem ex6:betB (pay 2 4) (pay 1 3)=true:=by kernel_rfl
theorem ex7:PL [pay 1 3]/\PL [pay 2 4]:=by have h1:=(addL_ok (c:=64) (t:=pay 1 3) PL.nil (pay_r 1 3 qqo qqo)).1;rw[ex2]at h1;have h2:=(addL_ok (c:=64) (t:=pay 2 4) h1 (pay_r 2 4 qqo qqo)).1;rw[ex3]at h2;exact⟨h1,h2⟩
def allL (ts:List wC):List wC:=ts.foldl putL []
theorem k61:∀(ts L:List wC),(ts.foldl putL L).Perm (ts++L)
 |[],L=>List.Perm.refl _
 |t::ts,L=>by rw[qfc];refine(k61 ts (putL L t)).trans ?_;exact((k3h L t).append_left ts).trans List.perm_middle
theorem kl8 (ts:List wC):(allL ts).Perm ts:=by
 have:=k61 ts []
 rwa [qck]at this
structure OK (ts:List wC):Prop where
 v:VL ts
 i:(ts.map idS).Nodup
 c:ts.Pairwise (fun a b=>confT a b=false)
theorem OK.perm {l m:List wC} (h:OK l) (hp:l.Perm m):OK m:=⟨fun x hx=>h.v x (hp.mem_iff.2 hx),(hp.map idS).nodup_iff.1 h.i,(hp.pairwise_iff (fun {x y} q=>by rw[k84];exact q)).1 h.c⟩
theorem OK.take {l:List wC} (h:OK l) (k:Nat):OK (l.take k):=⟨h.v.take k,h.i.sublist ((List.take_sublist ..).map _),h.c.sublist (List.take_sublist ..)⟩
theorem OK.new {l:List wC} (h:OK l) {k:Nat} (hk:k<l.length):idS l[k]∉(allL (l.take k)).map idS/\∀x∈allL (l.take k),confT l[k] x=false:=by
 have h2:=h.take (k+1);rw[qu hk]at h2;have hi:=h2.i;have hc:=h2.c;rw[qbd,qdq]at hi;rw[List.pairwise_append]at hc;have hp:=kl8 (l.take k);refine⟨fun q=> ?_,fun x hx=> ?_⟩
 ·have q:=(hp.map idS).mem_iff.1 q;exact hi.2.2 _ q _ qqs rfl
 ·rw[k84];exact hc.2.2 x (hp.mem_iff.1 hx) _ qqs
structure DS (c:Int) (L:List wC) (t:wC) (n:Nat):Prop where
 a:n<=L.length
 g:(addL c L t).g=((L.drop n).map idS).reverse
 l:(addL c L t).l.length=n+1
 h:∀i:Int,i∈(addL c L t).l.map idS↔i=idS t∨i∈(L.take n).map idS
 b:∀x∈L.drop n,betT t x=true
 w:n<L.length->c<wL (L.take (n+1))+weightS t
 v:VR t
 ni:idS t∉L.map idS
mutual
def plD:D->D
 | .sl _ sz l=> .sl false sz (plL l)
 | .agg l=> .agg (plL l)
 | .int k n=> .int k n
 | .bool b=> .bool b
 | .str s=> .str s
 | .ji k=> .ji k
def plL:List D->List D
 |[]=>[]
 |d::r=>plD d::plL r
end
theorem plL_eq:∀l:List D,plL l=l.map plD
 |[]=>rfl
 |d::r=>by rw[plL,plL_eq r];rfl
theorem kdl (d:D):(plD d).cells=d.cells.map plD:=by
 cases d with
 |agg l=>show plL l=l.map plD;exact plL_eq l
 |_=>rfl
theorem plD_one (d:D):(plD d).one=d.one:=by cases d<;>rfl
theorem kga (l:List D):(l.map plD).flatMap D.cells=(l.flatMap D.cells).map plD:=by rw[List.flatMap_map,List.map_flatMap];simp only[kdl]
theorem RepD.pl {X:Nat->Prop} {m:Nat->Nat} {w:World} {v:Value} {d:D} (h:RepD X m w v d):RepD (fun _=>False) m w v (plD d):=by
 induction h with
 |int k n=>exact .int k n
 |bool b=>exact .bool b
 |ji k n=>exact .ji k n
 |str s=>exact .str s
 |nil A sz=>exact .nil A sz
 |slice b off cap sz l vs hcap hmax hsz hlen hX hc hr ih=>
  have hl:(l.map plD).length=l.length:=qf ..;show RepD _ m w _ (.sl false sz (plL l));rw[plL_eq,<-hl];refine .slice b off cap sz (l.map plD) vs (by rw[hl];exact hcap) hmax (fun d hd=> ?_) (by rw[kga,qf];exact hlen) (not_x fun h=>h) hc (fun j u c hu hcc=> ?_)
  ·obtain⟨d0,h0,rfl⟩:=qad.1 hd;obtain⟨q1,q2⟩:=hsz d0 h0;rw[kdl,qf];refine⟨q1,fun c hcm=> ?_⟩;obtain⟨c0,h1,rfl⟩:=qad.1 hcm;rw[plD_one];exact q2 c0 h1
  ·rw[kga,qh,qo]at hcc;obtain⟨c0,h1,rfl⟩:=hcc;exact ih j u c0 hu h1
def Gh.re (G:Gh) (X:Nat->Prop):Gh:=⟨G.loc,G.tloc,G.lim,X⟩
theorem repv_pl {G:Gh} {w:World} {h:Hp} {nx:Nat} {v:Value} {d:D} (hv:RepV G w h nx v (V.ofD d)):RepV (Gh.re G fun _=>False) w h nx v (V.ofD (plD d)):=by
 cases d with
 |agg l=>
  obtain⟨vs,rfl,h1,h2,h3⟩:=hv.agg_inv;show RepV _ w h nx _ (.agg ((plL l).map .d));rw[plL_eq];rw[qf]at h1;refine .agg vs _ (by rw[qf,qf];exact h1) (fun x hx=> ?_) (fun j u x hu hx=> ?_)
  ·obtain⟨c,hc,rfl⟩:=qad.1 hx;obtain⟨c0,h0,rfl⟩:=qad.1 hc;show(plD c0).one=true;rw[plD_one];exact h2 (.d c0) (List.mem_map_of_mem h0)
  ·rw[qh,qo]at hx;obtain⟨c,hc,rfl⟩:=hx;rw[qh,qo]at hc;obtain⟨c0,h0,rfl⟩:=hc;exact .d _ _ (RepD.pl (RepV.d_inv (G:=G) (h3 j u (.d c0) hu (by rw[qh,h0];rfl))))
 |_=>exact .d _ _ (RepD.pl (RepV.d_inv (G:=G) hv))
theorem wr_re {T:Go.Bv.Tk} {G:Gh} {w:World} {X:Nat->Prop} {b:Nat} (h:Go.Bv.WR T b G w (hpOf 0 []) 0):Go.Bv.WR T b (Gh.re G X) w (hpOf 0 []) 0:=⟨fun id l hl=>by simp[hpOf,Hp.get]at hl,fun id x hx=>by simp[hpOf,Hp.get]at hx,fun id b hid=>absurd hid (Nat.not_lt_zero _),fun i j b hi=>absurd hi (Nat.not_lt_zero _),fun id ob hg=>by simp[hpOf,Hp.get]at hg,h.lim⟩
theorem borrow {P:Program} {f:Nat} {ds:List D} {r:D} (hs:SoundH P f ((ds.map plD).map V.ofD) [] (.d r) []) (hr:plD r=r/\∀X m w v,RepD (fun _=>False) m w v r->RepD X m w v r):SoundH P f (ds.map V.ofD) [] (.d r) []:=by
 intro G w vs hlen hrep hW hX;refine(hs (Gh.re G fun _=>False) w vs (by simpa using hlen) (fun j v x hv hx=> ?_) (wr_re (T:=tkOf G []) hW) (fun b hb=>hb.elim)).mono fun e w' hh=> ?_
 ·rw[qaa,qh,qo]at hx;obtain⟨d,hd,rfl⟩:=hx;exact repv_pl (hrep j v _ hv (by rw[qh,hd];rfl))
 ·obtain⟨v,G',h1,h2,h3,h4,h5⟩:=hh;refine⟨v,Gh.re G' G.X,h1,.d _ _ (hr.2 _ _ _ _ ?_),wr_re (T:=tkOf G []) h3,⟨h4.os,h4.tape,h4.output,h4.size,h4.same,h4.mono,⟨rfl,hX⟩,h4.fz⟩,⟨h5.hnx,h5.loc,h5.tok,h5.csz⟩⟩;have h7:=RepD.pl (RepV.d_inv h2);rw[hr.1]at h7;exact h7
theorem re_int (k:IntKind) (n:Int):plD (.int k n)= .int k n/\∀X m w v,RepD (fun _=>False) m w v (.int k n)->RepD X m w v (.int k n):=⟨rfl,fun _ _ _ _ h=>by cases h;exact .int k n⟩
theorem re_bool (b:Bool):plD (.bool b)= .bool b/\∀X m w v,RepD (fun _=>False) m w v (.bool b)->RepD X m w v (.bool b):=⟨rfl,fun _ _ _ _ h=>by cases h;exact .bool b⟩
def unO (x:wa):wR:=⟨x.wW,x.wP,x.wO,x.wF.2⟩
def plO (x:wa):wa:=⟨x.wW,x.wP,x.wO,(false,x.wF.2)⟩
def unT (x:wx):wC:=⟨x.wN,x.wD.2,x.wB.2.map unO,x.wH,x.wG,x.Fee,x.wI,x.wM,x.wJ,x.wK.2⟩
def unE (x:wc):wA:=⟨x.wm,x.wQ.2,x.wy.2.map unO,x.wS,x.wd,x.wU,x.wT,x.wX,x.wn,x.wq.2,x.id,x.weight⟩
def eOm (x:wx):wc:=⟨x.wN,x.wD,x.wB,x.wH,x.wG,x.Fee,x.wI,x.wM,x.wJ,x.wK,idS (unT x),weightS (unT x)⟩
theorem k4i (k:IntKind) (l:Li):plL (l.map (D.int k))=l.map (D.int k):=by rw[plL_eq,qaa];rfl
theorem pl_Om (x:wa):plD (encTOutm x)=encTOut (unO x):=by simp only[encTOutm,encTOut,unO,plD,plL,k4i]
theorem pl_O (x:wR):plD (encTOut x)=encTOut x:=by simp only[encTOut,D.slice,plD,plL,k4i]
theorem plL_Om (l:List wa):plL (l.map encTOutm)=(l.map unO).map encTOut:=by rw[plL_eq,qaa,qaa];exact qy fun x _=>pl_Om x
theorem plL_O (l:List wR):plL (l.map encTOut)=l.map encTOut:=by rw[plL_eq,qaa];exact qy fun x _=>pl_O x
theorem pl_Tm (x:wx):plD (encTTxm x)=encTTx (unT x):=by simp only[encTTxm,encTTx,unT,plD,plL,k4i,plL_Om]
theorem pl_Em (x:wc):plD (encTentrym x)=encTentry (unE x):=by simp only[encTentrym,encTentry,unE,plD,plL,k4i,plL_Om]
theorem pl_E (x:wA):plD (encTentry x)=encTentry x:=by simp only[encTentry,D.slice,plD,plL,k4i,plL_O]
theorem rty_O (l:List wa):RtyOk TB (.st 8) (.st 0) (l.map plO) ((l.map plO).map fun x=>wR.mk x.wW x.wP x.wO x.wF.2):=by show List.map encTOutm (l.map plO)=List.map encTOut ((l.map plO).map fun x=>wR.mk x.wW x.wP x.wO x.wF.2);rw[qaa,qaa,qaa];rfl
theorem un_plO (l:List wa):((l.map plO).map fun x=>wR.mk x.wW x.wP x.wO x.wF.2)=l.map unO:=by rw[qaa];rfl
noncomputable def body:Code:=match Tryz.f3.body with
 |some c=>c
 |none=> .skip
def sqA:Code->Code
 | .seq (.seq a _) _=>a
 |c=>c
def sqB:Code->Code
 | .seq (.seq _ b) _=>b
 |c=>c
abbrev tvd (t:Ty) (x:t.den TB.den):TV TB.den:= .d t x
def mkO (x:wR):wa:=⟨x.wW,x.wP,x.wO,(true,x.wF)⟩
def mkT (x:wC):wx:=⟨x.wN,(true,x.wD),(true,x.wB.map mkO),x.wH,x.wG,x.Fee,x.wI,x.wM,x.wJ,(true,x.wK)⟩
def mkN (x:wA):wc:=⟨x.wm,(true,x.wQ),(true,x.wy.map mkO),x.wS,x.wd,x.wU,x.wT,x.wX,x.wn,(true,x.wq),x.id,x.weight⟩
def jkO (x:wR):wAE:=⟨(),(),(),x.wF.map fun _=>()⟩
def jkT (x:wC):wAC:=⟨(),x.wD.map fun _=>(),x.wB.map jkO,(),(),(),(),(),(),x.wK.map fun _=>()⟩
theorem un_mkO (l:List wR):(l.map mkO).map unO=l:=by rw[qaa];exact(qy fun x _=>rfl).trans (List.map_id l)
theorem un_mkT (x:wC):unT (mkT x)=x:=by show wC.mk x.wN x.wD ((x.wB.map mkO).map unO) x.wH x.wG x.Fee x.wI x.wM x.wJ x.wK=x;rw[un_mkO]
theorem un_mkN (x:wA):unE (mkN x)=x:=by show wA.mk x.wm x.wQ ((x.wy.map mkO).map unO) x.wS x.wd x.wU x.wT x.wX x.wn x.wq x.id x.weight=x;rw[un_mkO]
theorem un_mkNs (l:List wA):(l.map mkN).map unE=l:=by rw[qaa];exact(qy fun x _=>un_mkN x).trans (List.map_id l)
def JL (x:wAC):Prop:=x.wD.length<=4294967295/\x.wK.length<=4294967295/\x.wB.length<=4294967295/\∀o∈x.wB,o.wF.length<=4294967295
theorem jk_jl {x:wC} (h:TL x):JL (jkT x):=by
 refine⟨?_,?_,?_,fun o ho=> ?_⟩
 ·show(x.wD.map _).length<=_;rw[qf];exact h.m
 ·show(x.wK.map _).length<=_;rw[qf];exact h.p
 ·show(x.wB.map _).length<=_;rw[qf];exact h.o
 ·obtain⟨y,hy,rfl⟩:=qad.1 (show o∈x.wB.map jkO from ho);show(y.wF.map _).length<=_;rw[qf];exact h.c y hy
theorem k5h.tr {t:wC} (h:k5h t):TR t/\t.wB.length<=9223372036854775807:=⟨⟨h.wN,h.wD.2,fun x hx=>let y:=h.wB.2 x hx;⟨y.wW,y.wP,y.wO,y.wF.2⟩,h.wH,h.wG,h.Fee,h.wI,h.wM,by have:=h.wJ;omega,h.wK.2⟩,h.wB.1⟩
theorem k5f.tr {o:wAA} (h:k5f o):TR (opT o)/\(opT o).wB.length<=9223372036854775807:=⟨⟨h.wo,h.wv.2,fun x hx=>let y:=h.wz.2 x hx;⟨y.wW,y.wP,y.wO,y.wF.2⟩,h.wg,h.we,h.wAB,h.wh,h.wt,by have:=h.wl;show _<=o.wl/\o.wl<=_;omega,h.ww.2⟩,h.wz.1⟩
theorem l46_arg {p1:List wAA} {m:List wC} (h1:p1.length<=9223372036854775807/\∀y∈p1,k5f y) (h2:m.length<=9223372036854775807/\∀y∈m,k5h y):OA p1 m:=⟨h1.1,fun o ho=>(h1.2 o ho).tr,h2.1,fun t ht=>(h2.2 t ht).tr⟩
theorem l46_one {t:wC} (h:k5h t):[t].length<=9223372036854775807/\∀y∈[t],k5h y:=⟨by simp,fun y hy=>by rw[qbn.1 hy];exact h⟩
theorem k4x {p0:Int} {p1:List wAA} {p2:wC} (h0: -9223372036854775808<=p0/\p0<9223372036854775808) (h1:p1.length<=9223372036854775807/\∀y∈p1,k5f y) (h2:k5h p2):OA p1 [p2]:=l46_arg h1 (l46_one h2)
noncomputable def __moidore_mempool_Pool__find_1_con:Ct:= .t (gk 61 [.agg yA,.one (.ptr 0 0)] [.cells [zqu]] (.one (.one (.d (.bool))))) [.st 3,yqu] [.bool,yqu] [] fun(p0:wA) (Aa:Int)=>(((p0.id==Aa):Bool),Aa,())
theorem __moidore_mempool_Pool__find_1_ok:__moidore_mempool_Pool__find_1_con.O:=ptv Bs Tryz.func61 .no c0 (Q:=∀(p0:wA) (Aa:Int),∀r0:Bool,(p0.id==Aa)=r0->∀Ac:Int,Aa=Ac-> 
(p0.id==Aa)=r0/\Aa=Ac)<|by rintro p0 Aa _ rfl _ rfl;exact⟨rfl,rfl⟩
noncomputable def k3x:Ct:= .g (gk 60 [.one (.row 0),.one (.clo 61 [] [some (1,0)])] [.vec (.st 3),.cells [zqu]] (.one (.one (zqi)))) [yqu,.sl (.st 3)] [yqi,yqu,.sl (.st 3)] [] fun(Ab:Int) (w0:List wA)=>(w0.length<=1000000,(idxI (w0.map (·.id)) Ab:Int),Ab,w0,())
theorem k43:k3x.O:=prv Bs Tryz.func60 (.r 0 (.nd [] (.r 0 (.lp [] ⟨[1],[.cells [zqu]],[8],[.one (zqi)],[]⟩ .no)) [] .no)) (__moidore_mempool_Pool__find_1_ok.c c0) (Q:=∀(Ab:Int) (w0:List wA),(w0.length<=1000000)->∀r0:Int,(idxI (w0.map (·.id)) Ab)=r0->∀d1_0:Int,Ab=d1_0->∀e0:List wA,w0=e0-> 
∃(I1:Int->Int->Prop) (M1:Int->Int->Nat),I1 0 Ab/\∀b1 f1,(I1 b1 f1->
(decide (b1<(w0.length:Int))=true->
(0<=b1/\b1<(w0.length:Int))/\(0<=b1/\b1<(w0.length:Int))/\(((ix w0 b1).id==f1)=true->
b1=r0/\f1=d1_0/\w0=e0)/\
(((ix w0 b1).id==f1)=false->
I1 (i64.wrap (b1+1)) f1/\M1 (i64.wrap (b1+1)) f1<M1 b1 f1))/\
(decide (b1<(w0.length:Int))=false->
(-1)=r0/\f1=d1_0/\w0=e0)))<|by
 rintro Ab w0 h _ rfl _ rfl _ rfl;refine⟨(fun i f=>f=Ab/\∃k:Nat,i=(k:Int)/\k<=w0.length/\Ab∉(w0.map (·.id)).take k),fun i _=>(w0.length-i).toNat,⟨rfl,0,rfl,by omega,by simp⟩,?_⟩;rintro _ f ⟨hf,k,rfl,h1,h2⟩;subst f;have hl:(w0.map (·.id)).length=w0.length:=qf ..;refine⟨fun e=> ?_,fun e=> ?_⟩
 ·have e:k<w0.length:=by have:=qb e;omega
  rw[ix_get _ _ e,inc_i64 _ qqo];refine⟨by omega,by omega,fun e2=> ?_,fun e2=>⟨⟨rfl,k+1,rfl,by omega,?_⟩,by(dsimp only;omega)⟩⟩
  ·have e2:w0[k].id=Ab:=by simpa using e2
   exact⟨(idx_at qqo h2 (by simpa using e2)).symm,rfl,rfl⟩
  ·have e2:¬w0[k].id=Ab:=by simpa using e2
   rw[qu qqo];simp only[qaz,qbn,List.getElem_map];exact fun hh=>hh.elim h2 fun q=>e2 q.symm
 ·have e:k=w0.length:=by have:=qc e;omega
  rw[qi qqo]at h2;exact⟨(idx_no h2).symm,rfl,rfl⟩
noncomputable def ke6:Ct:= .g (gk 37 [.one (.ptr 0 0),.one (zqu)] yE (.one (.one (zqi)))) yK yL [] fun(p1 Aa:Int) (w1:List wA)=>(w1.length<=1000000,(idxI (w1.map (·.id)) p1:Int),Aa,w1,())
theorem k86:ke6.O:=prv Bs Tryz.func37 .no (k43.c c0) (Q:=∀(p1 Aa:Int) (w1:List wA),(w1.length<=1000000)->∀r0:Int,(idxI (w1.map (·.id)) p1)=r0->∀Ac:Int,Aa=Ac->∀e1:List wA,w1=e1-> 
lz w1/\(w1.length<=1000000)/\lz w1/\(idxI (w1.map (·.id)) p1)=r0/\Aa=Ac/\w1=e1)<|by rintro p1 Aa w1 h _ rfl _ rfl _ rfl;exact⟨rfl,h,rfl,rfl,rfl,rfl⟩
noncomputable def kff:Ct:= .g (gk 28 [.one (.ptr 0 0),.one (zqu)] yE (.one (.one (.d (.bool))))) yK yH [] fun(p1 Aa:Int) (w1:List wA)=>(w1.length<=1000000,(decide (0<=idxI (w1.map (·.id)) p1):Bool),Aa,w1,())
theorem k9k:kff.O:=prv Bs Tryz.func28 .no (k86.c c0) (Q:=∀(p1 Aa:Int) (w1:List wA),(w1.length<=1000000)->∀r0:Bool,(decide (0<=idxI (w1.map (·.id)) p1))=r0->∀Ac:Int,Aa=Ac->∀e1:List wA,w1=e1-> 
lz w1/\(w1.length<=1000000)/\lz w1/\decide (0<=(idxI (w1.map (·.id)) p1))=r0/\Aa=Ac/\w1=e1)<|by rintro p1 Aa w1 h _ rfl _ rfl _ rfl;exact⟨rfl,h,rfl,rfl,rfl,rfl⟩
end Go.Proofs.YtghlnaoogfcldaaGreat
end
