/-
  Parts of the proofs that the laws of this seat hold of every input, merged by a program: a machine over pure data that is sound for the model, what each function of the translation does in it, and plain lemmas. No conditions but those in each theorem.
-/
import Derived.Test.YtcghahkoioeddaaGreatDoorA3
set_option linter.all false
set_option maxRecDepth 100000
noncomputable section
namespace Go.Bv
open Go.RowKit
def Lk (T:Tk) (s s' :St):Prop:=∀(G0:Gh) (w0:World) (N:Nat) (a:Act) (G:Gh) (w:World),R T G0 w0 N s a G w->∃G',R T G0 w0 N s' a G' w
theorem Wk.lk {T:Tk} {s s' :St} (h:Wk s s'):Lk T s s' :=fun G0 w0 N a G w hR=>⟨G,h T G0 w0 N a G w hR⟩
theorem Lk.trans {T:Tk} {a b c:St} (h:Lk T a b) (h' :Lk T b c):Lk T a c:=fun G0 w0 N x G w hR=>let⟨G1,h1⟩:=h G0 w0 N x G w hR;h' G0 w0 N x G1 w h1
section
variable {P:Program} {T:Tk} {G0:Gh} {w0:World} {N:Nat} {s:St} {Q:Exit->St->Prop}
theorem sat_lk {c:Code} {s' :St} (hl:Lk T s s') (h:Sat P T G0 w0 N c s' Q):Sat P T G0 w0 N c s Q:=fun G a w hR=>let⟨G1,h1⟩:=hl _ _ _ _ _ _ hR;h G1 a w h1
theorem kjk {c:Code} {Q' :Exit->St->Prop} (h:Sat P T G0 w0 N c s Q) (hq:∀e s,Q e s->∃s',Q' e s'/\Lk T s s'):Sat P T G0 w0 N c s Q' :=fun G a w hR=>wp_mono (h G a w hR) fun _ _ _ ⟨s',G',h1,h2⟩=>let⟨s2,k1,k2⟩:=hq _ s' h1;let⟨G2,h3⟩:=k2 _ _ _ _ _ _ h2;⟨s2,G2,k1,h3⟩
theorem kgx {ι:Type} (st:ι->St) (p:ι->Prop) (μ:ι->Nat) {c:Code} (i0:ι) (h0:p i0) (hl:Lk T s (st i0))
  (round:∀i,p i->Sat P T G0 w0 N c (st i) (thenA (fun s' =>∃i',p i'/\μ i' <μ i/\Lk T s' (st i')) Q)):Sat P T G0 w0 N (.loop c) s Q:=by
 intro G a w hR
 have key:∀n i,μ i=n->p i->∀G a w,R T G0 w0 N (st i) a G w->∀(b:Frame) (k:List Item) (cs:List Frame),∃e a' w',(∃s' G',Q e s'/\R T G0 w0 N s' a' G' w')/\Arrives P (lone (b.at a (.code c:: .inLoop c::k)) cs w) b k cs e a' w' :=by
  intro n;induction n using Nat.strongRecOn with
  |_ n ih=>
   intro i hn hp G a w hR b k cs;obtain⟨e,a1,w1,⟨s1,G1,hq,hR1⟩,harr⟩:=round i hp G a w hR b (.inLoop c::k) cs;cases e with
   |normal=>obtain⟨i',h1,h2,h3⟩:=hq;obtain⟨G2,hR2⟩:=h3 _ _ _ _ _ _ hR1;obtain⟨e2,a2,w2,hq2,harr2⟩:=ih (μ i') (hn▸h2) i' rfl h1 G2 a1 w1 hR2 b k cs;exact⟨e2,a2,w2,hq2,.of_steps (Steps.trans harr (.one step_inLoop)) harr2⟩
   |exit id=>exact⟨_,a1,w1,⟨s1,G1,hq,hR1⟩,.pass (x:= .inLoop c) rfl (fun _ _=> .inl qqs) harr⟩
   |goto l=>exact⟨_,a1,w1,⟨s1,G1,hq,hR1⟩,.pass (x:= .inLoop c) rfl (fun _ _=> .inl qqs) harr⟩
   |ret=>exact⟨_,a1,w1,⟨s1,G1,hq,hR1⟩,.pass (x:= .inLoop c) rfl (fun _ _=> .inl qqs) harr⟩
   |panic ch=>exact⟨_,a1,w1,⟨s1,G1,hq,hR1⟩,.pass (x:= .inLoop c) rfl (fun _ _=> .inl qqs) harr⟩
   |outgrown=>exact⟨_,a1,w1,⟨s1,G1,hq,hR1⟩,.pass (x:= .inLoop c) rfl (fun _ _=> .inl qqs) harr⟩
 intro b k cs;obtain⟨G1,hR1⟩:=hl _ _ _ _ _ _ hR;obtain⟨e,a',w',hq,harr⟩:=key _ i0 rfl h0 G1 a w hR1 b k cs;exact⟨e,a',w',hq,.of_steps (.one step_loop) harr⟩
end
end Go.Bv
namespace Go.Cv
open Go Go.Bv Go.RowKit Go.Md
section
variable {T:Tab} {P:Program} {C:Cx T} {N:Nat}
theorem args_ok {σ:Nat->Nat} {f:List (Option (TOb T.den))} {m nx:Nat} (hσ:∀j,j<m->σ j<nx) (l:List Sh0) (r:List Ty) (x:HL T.den (hsT l r)) (h:okTB m l=true):∀z∈(tkT σ f l r x).1.map (er T),ok nx z:=by intro z hz;rw[tkT_er]at hz;obtain⟨u,_,rfl⟩:=qag.1 hz;exact ok_of0 (okT_mem (tkT_ok hσ l r x h) _ hz) k1l
theorem sgs_lt {ids:List Nat} {n nx:Nat} (h:allLt nx ids=true) (hl:ids.length=n):∀j,j<n->sgs ids j<nx:=by
 intro j hj;have hj:j<ids.length:=by omega
 have e:sgs ids j=ids[j]:=by simp[sgs,hj]
 rw[e];exact k1i h _ (qak hj)
def rho:List Nat->List Nat->Nat->Nat
 |x::a,y::b,i=>if i=x then y else rho a b i
 |_,_,i=>i
theorem kcx {x:Nat}:∀{l:List Nat} {p q:Nat},l.Nodup->l[p]? =some x->l[q]? =some x->p=q
 |[],p,q,_,h,_=>by simp at h
 |y::l,0,0,_,_,_=>rfl
 |y::l,0,q+1,hn,h1,h2=>by simp at h1 h2;exact absurd (qbb h2) (by rw[<-h1];exact(qcz.1 hn).1)
 |y::l,p+1,0,hn,h1,h2=>by simp at h1 h2;exact absurd (qbb h1) (by rw[<-h2];exact(qcz.1 hn).1)
 |y::l,p+1,q+1,hn,h1,h2=>by simp at h1 h2;rw[kcx (qcz.1 hn).2 h1 h2]
theorem rho_at:∀{a b:List Nat} {j:Nat},a.Nodup->j<a.length->j<b.length->rho a b (sgs a j)=sgs b j
 |[],_,j,_,h,_=>by simp at h
 |_::_,[],j,_,_,h=>by simp at h
 |x::a,y::b,0,_,_,_=>by simp[rho,sgs]
 |x::a,y::b,j+1,hn,h1,h2=>by
  have h1:j<a.length:=by simpa using h1
  have h2:j<b.length:=by simpa using h2
  have e1:sgs (x::a) (j+1)=sgs a j:=by simp[sgs]
  have e2:sgs (y::b) (j+1)=sgs b j:=by simp[sgs]
  have hne:sgs a j≠x:=by
   intro e;rw[qcz]at hn;apply hn.1;have:sgs a j=a[j]:=by simp[sgs,h1]
   rw[<-e,this];exact qak h1
  rw[e1,e2];simp only[rho];rw[qe hne];exact rho_at (qcz.1 hn).2 h1 h2
theorem rho_fix {n0:Nat}:∀{a b:List Nat},fixB n0 a b=true->a.length=b.length/\∀i,i<n0->rho a b i=i
 |[],[],_=>⟨rfl,fun _ _=>rfl⟩
 |[],_::_,h=>by cases h
 |_::_,[],h=>by cases h
 |x::a,y::b,h=>by
  simp only[fixB,qg,qcv,qbe]at h;obtain⟨g1,g2⟩:=rho_fix h.2;refine⟨by simp[g1],fun i hi=> ?_⟩;simp only[rho];split
  ·rename_i e;subst e;rcases h.1 with h1|h1
   ·have:Nat.blt i n0=true:=by simp[Nat.blt_eq,hi]
    rw[this]at h1;cases h1
   ·exact(nb_eq h1).symm
  ·exact g2 i hi
theorem rho_lt {n:Nat}:∀{a b:List Nat} {i:Nat},(∀x∈b,x<n)->i<n->rho a b i<n
 |[],[],_,_,h=>h
 |[],_::_,_,_,h=>h
 |_::_,[],_,_,h=>h
 |x::a,y::b,i,hb,h=>by
  simp only[rho];split
  ·exact hb y qqs
  ·exact rho_lt (fun z hz=>hb z (by simp[hz])) h
theorem k3d {ρ σ τ:Nat->Nat} {m:Nat} (h:∀j,j<m->ρ (σ j)=τ j):∀{l:List (Option (Nat×Nat))},okP m l->renP ρ (renP σ l)=renP τ l
 |[],_=>rfl
 |none::_,hl=>congrArg (List.cons none) (k3d h (l:=_) hl)
 |some (i,_)::_,hl=>by simp only[renP];rw[h i hl.1,k3d h hl.2]
theorem kpx {ρ σ τ:Nat->Nat} {m:Nat} (h:∀j,j<m->ρ (σ j)=τ j) {x:V} (hx:ok1 m x):ren1 ρ (ren1 σ x)=ren1 τ x:=by cases x<;>first|rfl|(simp only[ren1];rw[h _ hx])|(simp only[ren1];rw[k3d h hx.1,k3d h hx.2])|exact False.elim hx
theorem kcq {ρ σ τ:Nat->Nat} {m:Nat} (h:∀j,j<m->ρ (σ j)=τ j):∀{l:List V},okL m l->(l.map (ren1 σ)).map (ren1 ρ)=l.map (ren1 τ)
 |[],_=>rfl
 |x::l,hl=>by simp only[qae];rw[kpx h hl.1,kcq h hl.2]
theorem kc8 {ρ σ τ:Nat->Nat} {m:Nat} (h:∀j,j<m->ρ (σ j)=τ j) {x:V} (hx:ok0 m x):ren0 ρ (ren0 σ x)=ren0 τ x:=by
 cases x with
 |agg l=>exact congrArg V.agg (kcq h hx)
 |_=>first|rfl|exact False.elim hx|(simp only[ren0,ren1];rw[h _ hx])|(simp only[ren0,ren1];rw[k3d h hx.1,k3d h hx.2])
theorem kcm {ρ σ τ:Nat->Nat} {m:Nat} (h:∀j,j<m->ρ (σ j)=τ j):∀{l:List V},okT m l->(l.map (ren0 σ)).map (ren0 ρ)=l.map (ren0 τ)
 |[],_=>rfl
 |x::l,hl=>by simp only[qae];rw[kc8 h hl.1,kcm h hl.2]
theorem kc6 {ρ σ τ:Nat->Nat} {m:Nat} (h:∀j,j<m->ρ (σ j)=τ j):∀{l:List (D×V)},okM m l->(l.map fun e=>(e.1,ren0 σ e.2)).map (fun e=>(e.1,ren0 ρ e.2))=l.map fun e=>(e.1,ren0 τ e.2)
 |[],_=>rfl
 |x::l,hl=>by simp only[qae];rw[kc8 h hl.1,kc6 h hl.2]
theorem kia {ρ σ τ:Nat->Nat} {m:Nat} (h:∀j,j<m->ρ (σ j)=τ j) {o:Ob} (ho:okO m o):renO ρ (renO σ o)=renO τ o:=by
 cases o with
 |cells l=>exact congrArg Ob.cells (kcq h ho)
 |map x=>cases x with
  |m l=>exact congrArg (fun z=>Ob.map (.m z)) (kc6 h ho)
  |it mid l last=>
   show Ob.map (.it (ρ (σ mid)) _ _)=Ob.map (.it (τ mid) _ _);rw[h mid ho.1,kc6 h ho.2.1];cases last with
   |none=>rfl
   |some e=>show Ob.map (.it _ _ (some (e.1,ren0 ρ (ren0 σ e.2))))=Ob.map (.it _ _ (some (e.1,ren0 τ e.2)));rw[kc8 h (ho.2.2 e rfl)]
 |_=>rfl
theorem hpN_get {σ:Nat->Nat}:∀(os:List (TOb T.den)) (k i:Nat) (ob:Ob),Hp.get (erH T (hpN σ k os)) i=some ob->∃p o,os[p]? =some o/\i=σ (k+p)/\ob=erO T o
 |[],k,i,ob,h=>by cases h
 |o::os,k,i,ob,h=>by
  have h:Hp.get ((σ k,erO T o)::erH T (hpN σ (k+1) os)) i=some ob:=h;simp only[Hp.get]at h;split at h
  ·rename_i e;injection h with h;exact⟨0,o,rfl,e,h.symm⟩
  ·obtain⟨p,o',h1,h2,h3⟩:=hpN_get os (k+1) i ob h;exact⟨p+1,o',by simpa using h1,by rw[h2];congr 1;omega,h3⟩
theorem slotsR {sl:List (Nat×TV T.den)} {nx:Nat} {ρ:Nat->Nat}:∀(ts:List Nat) (vs:List (TV T.den)),leAll ((ts.map (getT sl)).map (er T)) ((vs.map (er T)).map (ren ρ))->(∀z∈vs.map (er T),ok nx z)->∀t,
  getS ((zipS T ts vs).map fun p=>(p.1,er T p.2)) t= .any∨(le (getS (sl.map fun p=>(p.1,er T p.2)) t) (ren ρ (getS ((zipS T ts vs).map fun p=>(p.1,er T p.2)) t))/\ok nx (getS ((zipS T ts vs).map fun p=>(p.1,er T p.2)) t))
 |[],[],_,_,_=> .inl rfl
 |[],_::_,h,_,_=>h.elim
 |_::_,[],h,_,_=>h.elim
 |u::ts,v::vs,h,ho,t=>by
  simp only[zipS,qae,getS];split
  ·rename_i e;subst e;refine .inr ⟨?_,ho _ qqs⟩;rw[getS_er];exact h.1
  ·exact slotsR ts vs h.2 (fun z hz=>ho z (by simp only[qae,qam];exact .inr hz)) t
theorem fcL_eq:∀{l:List Nat} {K:List Nat->Prop},fcL l K->K l
 |[],_,h=>h
 |x::r,K,h=>fcL_eq (l:=r) (K:=fun r=>K (x::r)) h
theorem mat_snd (hT:T.Ok) {Tk:Tk} {m:Tm} {s:TSt T.den} {J:HL T.den m.hs->Prop} (h:m.mat T Tk.nx s J):∃i,J i/\Lk Tk (erS T s) (erS T (m.fill T i)):=by
 unfold Tm.mat at h;obtain⟨h1,h2⟩:=cnd h;simp only[qg,Tm.okB]at h1;obtain⟨⟨a1,a2⟩,⟨⟨⟨⟨⟨⟨b1,b2⟩,b3⟩,b4⟩,b5⟩,b6⟩,b7⟩⟩:=h1;replace h2:=fcL_eq h2;generalize m.at T Tk.nx s=ids at h2;obtain⟨h3,h4⟩:=cnd h2;simp only[qg]at h3;obtain⟨⟨⟨c1,c2⟩,c3⟩,c4⟩:=h3;have c1:=k1n c1;have c2:=k1n c2;obtain⟨c5,c6⟩:=rho_fix c4;split at h4
 ·rename_i b hb;obtain⟨y,g1,g2,g3⟩:=k79 hT b7 hb h4;obtain⟨x,k1,k2,_,k4⟩:=mtT_snd m.ss _ _ y _ b6 g1;have hf:m.f T x=tkB m.os b:=by unfold Tm.f;rw[k2,g2]
  have hlt:=sgs_lt b3 (nb_eq b4);have hlen:m.os.length=m.ids.length:=(nb_eq b4).symm;have hrho:∀j,j<m.os.length->rho m.ids ids (sgs m.ids j)=sgs ids j:=fun j hj=>rho_at c1 qqo qqo;have hid1:∀j,j<m.os.length->idf j<m.os.length:=fun j h=>h;refine⟨x,k1,fun G0 w0 N a G w hR=> ?_⟩;have hget:∀id ob,(erS T (m.fill T x)).h.get id=some ob->∃p o,(tkC (sgs m.ids) (tkB m.os b) 0 m.os (hsB m.os) y).1[p]? =some o/\p<m.os.length/\id=sgs m.ids p/\ob=erO T o:=by intro id ob hg;have hg:Hp.get (erH T (hpN (sgs m.ids) 0 (tkC (sgs m.ids) (m.f T x) 0 m.os _ (drT m.ss _ x)).1)) id=some ob:=hg;rw[hf,k2]at hg;obtain⟨p,o,q1,q2,q3⟩:=hpN_get _ _ _ _ hg;rw[qaj]at q2;exact⟨p,o,q1,by have:=(qf.1 q1).1;rw[tkC_len]at this;exact this,q2,q3⟩
  refine hR.leRen (σ:=rho m.ids ids) (ble_le a1) c6 (fun i hi=>rho_lt (k1i c3) (qas hi (ble_le a2))) (fun i j li lj hij=> ?_) (fun id ob hg=> ?_) ?_
  ·obtain⟨oi,hoi,_⟩:=live_of li;obtain⟨oj,hoj,_⟩:=live_of lj;obtain⟨p,_,_,q1,q2,_⟩:=hget i oi hoi;obtain⟨q,_,_,r1,r2,_⟩:=hget j oj hoj;rw[q2,r2,hrho p q1,hrho q r1]at hij;have e1:sgs ids p=ids[p]' qqo:=by simp[sgs,show p<ids.length by omega]
   have e2:sgs ids q=ids[q]' qqo:=by simp[sgs,show q<ids.length by omega]
   rw[e1,e2]at hij;have:=kcx c2 (qd (show p<ids.length by omega)) (by rw[hij];exact qd (show q<ids.length by omega));rw[q2,r2,this]
  ·obtain⟨p,o,q1,q2,rfl,rfl⟩:=hget id ob hg;refine⟨hlt p q2,?_,tkC_ok (k1a _ _) hlt 0 m.os _ y b2 p o q1⟩
   
   have hl1:p<(tkC (sgs ids) (tkB m.os b) 0 m.os (hsB m.os) y).1.length:=by rw[tkC_len];exact q2
   have hl0:p<(tkC idf (tkB m.os b) 0 m.os (hsB m.os) y).1.length:=by rw[tkC_len];exact q2
   have w1:=congrArg (fun l=>l[p]?) (tkC_ren (sgs m.ids) (tkB m.os b) (k1a m.os b) 0 m.os (hsB m.os) y);have w2:=congrArg (fun l=>l[p]?) (tkC_ren (sgs ids) (tkB m.os b) (k1a m.os b) 0 m.os (hsB m.os) y);simp only[ql,q1,qax,qd hl0,qd hl1,qah]at w1 w2;have w3:=tkC_ok (k1a m.os b) hid1 0 m.os (hsB m.os) y b2 p _ (qd hl0);rw[hrho p q2,w1,kia hrho w3,<-w2];exact g3 p _ (qd hl1)
  ·intro t
   have key:leAll ((m.ts.map (getT s.sl)).map (er T)) (((tkT (sgs m.ids) (m.f T x) m.ss (hsOs m.os) x).1.map (er T)).map (ren (rho m.ids ids))):=by
    have e1:((tkT (sgs m.ids) (m.f T x) m.ss (hsOs m.os) x).1.map (er T)).map (ren (rho m.ids ids))=(tkT (sgs ids) (tkB m.os b) m.ss (hsOs m.os) x).1.map (er T):=by
     rw[hf,tkT_er,tkT_er];have:((tkT (sgs m.ids) (tkB m.os b) m.ss (hsOs m.os) x).1.map (er0 T)).map (ren (rho m.ids ids))=((tkT (sgs m.ids) (tkB m.os b) m.ss (hsOs m.os) x).1.map (er0 T)).map (ren0 (rho m.ids ids)):=by rw[qbi,qbi];exact qar fun v _=>ren_0 _ k1l
     rw[this,k2m (sgs m.ids),k2m (sgs ids)];exact kcm hrho (tkT_ok hid1 m.ss _ x b1)
    rw[e1];exact k4
   exact slotsR m.ts _ key (args_ok hlt m.ss _ x b1) t
 ·exact h4.elim
section
variable {Tk:Tk} {G0:Gh} {w0:World} {a:Act} {G:Gh} {w:World}
theorem kez {id n z:Nat} {v:TV T.den} {h:THp T.den} {nx:Nat} (hv:∀u,RepV G w (erH T h) nx u (.row id 0 n z)->RepV G w (erH T h) nx u (er T v)):∀(ts:List Nat) (sl:List (Nat×TV T.den)) (K:List (Nat×TV T.den)->Prop),rowsTo T id v n z ts sl K->R Tk G0 w0 N (erS T ⟨sl,h,nx⟩) a G w->∃sl',K sl'/\R Tk G0 w0 N (erS T ⟨sl',h,nx⟩) a G w
 |[],sl,K,hk,hR=>⟨sl,hk,hR⟩
 |t::ts,sl,K,hk,hR=>by
  simp only[rowsTo]at hk;split at hk
  ·rename_i i e' m hg;obtain⟨h1,h2,h3⟩:=cnd hk;simp only[qg]at h1;refine kez hv ts _ K h3 ?_;have hs:=hR.sl t;rw[show getS (erS T ⟨sl,h,nx⟩).sl t=er T (getT sl t)from getS_er sl t,hg]at hs;have hs:RepV G w (erH T h) nx (a.tmps.getD t undef) (.row i 0 m (T.sz e')):=hs;rw[nb_eq h1.1,h2,nb_eq h1.2]at hs;exact hR.reslot t (hv _ hs)
  ·exact hk.elim
theorem kge {e:Ty} {v:TV T.den} {l:List (e.den T.den)} (h:growE T e v=some l):growsFrom (T.sz e) (l.map (T.e e)) (er1 T v)/\v.sim=true:=by
 unfold growE at h;split at h
 ·obtain⟨c1,c2,_⟩:=km h;exact⟨⟨c1,c2⟩,rfl⟩
 ·rename_i u;cases hn:isNilK u with
  |false=>rw[hn]at h;cases h
  |true=>rw[hn]at h;injection h with h;subst h;rw[k1s hn];exact⟨rfl,rfl⟩
 ·cases h
theorem kgm {h:THp T.den} {v:TV T.den} {K:Nat->(e:Ty)->List (e.den T.den)->Prop} (hh:trimV T h v K):
  ∃id e l l0,K id e l/\getH h id=some (.vec e l0)/\l=l0.take l.length/\l.length<=l0.length/\er1 T v= .row id 0 l.length (T.sz e)/\v.sim=true:=by
 unfold trimV at hh;split at hh
 ·rename_i id e n;split at hh
  ·rename_i e' l hg;obtain⟨h1,h2,h3⟩:=cnd hh;obtain rfl:=Ty.eq_of_beq h1;exact⟨id,e,l,l,h3,hg,by simp,qt _,by rw[h2];rfl,rfl⟩
  ·exact hh.elim
 ·rename_i id e off n;split at hh
  ·rename_i e' l hg;obtain⟨h1,h2,h3,h4⟩:=cnd hh;obtain rfl:=Ty.eq_of_beq h1;have e1:(l.take n).length=n:=by rw[qo];omega
   exact⟨id,e,l.take n,l,h4,hg,by rw[e1],by rw[e1];exact h3,by rw[e1,h2];simp[er1],rfl⟩
  ·exact hh.elim
 ·exact hh.elim
theorem trim_ob (hT:T.Ok) {e:Ty} {l l0:List (e.den T.den)} (h1:l=l0.take l.length) (h2:l.length<=l0.length):(((l0.map (T.e e)).flatMap D.cells).map V.d).take (l.length*T.sz e)=((l.map (T.e e)).flatMap D.cells).map V.d:=by rw[<-qby,k9y hT l0 _ h2,<-h1]
theorem vec_set {e:Ty} (l:List (e.den T.den)) (i:Nat) (y:e.den T.den) (hi:i<l.length):erO T (.vec e (l.set i y))= .cells ((((l.take i).map (T.e e)).flatMap D.cells).map V.d++(T.e e y).cells.map V.d++(((l.drop (i+1)).map (T.e e)).flatMap D.cells).map V.d):=by show Ob.cells ((((l.set i y).map (T.e e)).flatMap D.cells).map V.d)=_;rw[qeb,qh hi];simp only[qbm,qae,qbh,qay,qx]
theorem gh1_snd (hT:T.Ok) {s:TSt T.den} {K:TSt T.den->Prop}:∀(g:Gs),gh1 T s K g->R Tk G0 w0 N (erS T s) a G w->∃s' G',K s'/\R Tk G0 w0 N (erS T s') a G' w
 | .frz id ts,h,hR=>by
  simp only[gh1]at h;split at h
  ·rename_i e l hg;have hgl:(erS T s).h.get id=some (.cells (((l.map (T.e e)).flatMap D.cells).map V.d)):=by show(erH T s.h).get id=_;rw[getH_er,hg];rfl
   obtain⟨G',h1,_,h2⟩:=hR.freeze hgl (map_sz hT l) (by rw[qm]:(l.map (T.e e)).length=l.length);obtain⟨sl',k1,k2⟩:=kez (T:=T) (h:=(s.nx,.tip e l)::(id,.dead)::s.h) (nx:=s.nx+1) (v:= .own s.nx e l) (z:=T.sz e) (n:=l.length) (id:=id) (G:=G') (w:=w) (fun u hu=>h2 u hu) ts s.sl _ h h1;exact⟨_,G',k1,k2⟩
  ·exact h.elim
 | .frzc id i j,h,hR=>by
  simp only[gh1]at h;split at h
  ·rename_i e l cs hg hi;split at h
   ·rename_i id' e' m hj;obtain⟨h1,h2,h3⟩:=cnd h;simp only[qg,qbe]at h1;have q1:=nb_eq h1.1.1;have q2:=Ty.eq_of_beq h1.1.2;have q3:i≠id:=fun e=>by rw[e,nb_self]at h1;cases h1.2
    subst q1;subst q2;subst h2;have hgl:(erS T s).h.get id' =some (.cells (((l.map (T.e e')).flatMap D.cells).map V.d)):=by show(erH T s.h).get id' =_;rw[getH_er,hg];rfl
    have hil:(erS T s).h.get i=some (.cells (cs.map (er1 T))):=by show(erH T s.h).get i=_;rw[getH_er,hi];rfl
    obtain⟨G',f1,_,f2⟩:=hR.freeze hgl (map_sz hT l) (by rw[qm]:(l.map (T.e e')).length=l.length);have hin:i<s.nx:=hR.wr.hid _ _ hil;have hg' :Hp.get ((s.nx,Ob.tip l.length)::(id',.dead)::erH T s.h) i=some (.cells (cs.map (er1 T))):=by simp only[Hp.get];rw[qe qqo,qe q3];exact hil
    have hx:(cs.map (er1 T))[j]? =some (.row id' 0 l.length (T.sz e')):=by rw[ql,hj];rfl
    have:=f1.recell (s:=⟨(erS T s).sl,(s.nx,.tip l.length)::(id',.dead)::erH T s.h,s.nx+1⟩) (y:= .own s.nx (T.sz e') (l.map (T.e e'))) hg' hx rfl (fun v=>f2 v);refine⟨_,G',h3,?_⟩;have e:erS T ⟨s.sl,(i,.cells (cs.set j (.own s.nx e' l)))::(s.nx,.tip e' l)::(id',.dead)::s.h,s.nx+1⟩=⟨(erS T s).sl,(i,.cells ((cs.map (er1 T)).set j (.own s.nx (T.sz e') (l.map (T.e e')))))::(s.nx,.tip l.length)::(id',.dead)::erH T s.h,s.nx+1⟩:=by show St.mk _ ((i,Ob.cells ((cs.set j (.own s.nx e' l)).map (er1 T)))::_) _=_;rw[qfp];rfl
    rw[e];exact this
   ·exact h.elim
  ·exact h.elim
 | .tok t e,h,hR=>by
  simp only[gh1]at h;split at h
  ·rename_i l hl;obtain⟨g1,g2⟩:=kge hl;obtain⟨G',h1,h2⟩:=hR.tok (T.sz e) (l.map (T.e e));rw[qm]at h1 h2;have hs:=h1.sl t;have hs:RepV G' w ((s.nx,.tip l.length)::erH T s.h) (s.nx+1) (a.tmps.getD t undef) (getS (erS T s).sl t):=hs;rw[show getS (erS T s).sl t=er T (getT s.sl t)from getS_er s.sl t,er_sim g2]at hs;exact⟨_,G',h,h1.reslot t (h2 _ _ g1 hs)⟩
  ·exact h.elim
 | .tokc id j e,h,hR=>by
  simp only[gh1]at h;split at h
  ·rename_i cs hi;split at h
   ·rename_i v hj;split at h
    ·rename_i l hl;obtain⟨g1,g2⟩:=kge hl;have hil:(erS T s).h.get id=some (.cells (cs.map (er1 T))):=by show(erH T s.h).get id=_;rw[getH_er,hi];rfl
     obtain⟨G',h1,h2⟩:=hR.tok (T.sz e) (l.map (T.e e));rw[qm]at h1 h2;have hin:id<s.nx:=hR.wr.hid _ _ hil;have hg' :Hp.get ((s.nx,Ob.tip l.length)::erH T s.h) id=some (.cells (cs.map (er1 T))):=by simp only[Hp.get];rw[qe qqo];exact hil
     have hx:(cs.map (er1 T))[j]? =some (er1 T v):=by rw[ql,hj];rfl
     have:=h1.recell (s:=⟨(erS T s).sl,(s.nx,.tip l.length)::erH T s.h,s.nx+1⟩) (y:= .own s.nx (T.sz e) (l.map (T.e e))) hg' hx rfl (fun u=>h2 _ u g1);refine⟨_,G',h,?_⟩;have e:erS T ⟨s.sl,(id,.cells (cs.set j (.own s.nx e l)))::(s.nx,.tip e l)::s.h,s.nx+1⟩=⟨(erS T s).sl,(id,.cells ((cs.map (er1 T)).set j (.own s.nx (T.sz e) (l.map (T.e e)))))::(s.nx,.tip l.length)::erH T s.h,s.nx+1⟩:=by show St.mk _ ((id,Ob.cells ((cs.set j (.own s.nx e l)).map (er1 T)))::_) _=_;rw[qfp];rfl
     rw[e];exact this
    ·exact h.elim
   ·exact h.elim
  ·exact h.elim
 | .trim t,h,hR=>by
  simp only[gh1]at h;obtain⟨id,e,l,l0,h1,h2,h3,h4,h5,h6⟩:=kgm h;have hgl:(erS T s).h.get id=some (.cells (((l0.map (T.e e)).flatMap D.cells).map V.d)):=by show(erH T s.h).get id=_;rw[getH_er,h2];rfl
  obtain⟨G',f1,f2⟩:=hR.trim hgl (l.length*T.sz e);rw[trim_ob hT h3 h4]at f1 f2;have hs:=f1.sl t;have hs:RepV G' w ((s.nx,.cells (((l.map (T.e e)).flatMap D.cells).map V.d))::(id,.dead)::erH T s.h) (s.nx+1) (a.tmps.getD t undef) (getS (erS T s).sl t):=hs;rw[show getS (erS T s).sl t=er T (getT s.sl t)from getS_er s.sl t,er_sim h6,h5]at hs;exact⟨_,G',h1,f1.reslot t (f2 _ _ _ hs)⟩
 | .trimc id j,h,hR=>by
  simp only[gh1]at h;split at h
  ·rename_i cs hi;split at h
   ·rename_i v hj;obtain⟨id',e,l,l0,h1,h2,h3,h4,h5,h6⟩:=kgm h;have hne:id'≠id:=by rintro rfl;rw[hi]at h2;cases h2
    rw[nb_ne hne,qbt]at h1;have hgl:(erS T s).h.get id' =some (.cells (((l0.map (T.e e)).flatMap D.cells).map V.d)):=by show(erH T s.h).get id' =_;rw[getH_er,h2];rfl
    have hil:(erS T s).h.get id=some (.cells (cs.map (er1 T))):=by show(erH T s.h).get id=_;rw[getH_er,hi];rfl
    obtain⟨G',f1,f2⟩:=hR.trim hgl (l.length*T.sz e);rw[trim_ob hT h3 h4]at f1 f2;have hin:id<s.nx:=hR.wr.hid _ _ hil;have hg' :Hp.get ((s.nx,Ob.cells (((l.map (T.e e)).flatMap D.cells).map V.d))::(id',.dead)::erH T s.h) id=some (.cells (cs.map (er1 T))):=by simp only[Hp.get];rw[qe qqo,qe (Ne.symm hne)];exact hil
    have hx:(cs.map (er1 T))[j]? =some (.row id' 0 l.length (T.sz e)):=by rw[ql,hj,<-h5];rfl
    have:=f1.recell (s:=⟨(erS T s).sl,(s.nx,.cells (((l.map (T.e e)).flatMap D.cells).map V.d))::(id',.dead)::erH T s.h,s.nx+1⟩) (y:= .row s.nx 0 l.length (T.sz e)) hg' hx rfl (fun u=>f2 u _ _);refine⟨_,G',h1,?_⟩;have e1:erS T ⟨s.sl,(id,.cells (cs.set j (.row s.nx e l.length)))::(s.nx,.vec e l)::(id',.dead)::s.h,s.nx+1⟩=⟨(erS T s).sl,(id,.cells ((cs.map (er1 T)).set j (.row s.nx 0 l.length (T.sz e))))::(s.nx,.cells (((l.map (T.e e)).flatMap D.cells).map V.d))::(id',.dead)::erH T s.h,s.nx+1⟩:=by show St.mk _ ((id,Ob.cells ((cs.set j (.row s.nx e l.length)).map (er1 T)))::_) _=_;rw[qfp];rfl
    rw[e1];exact this
   ·exact h.elim
  ·exact h.elim
 | .rnil t e,h,hR=>by simp only[gh1]at h;obtain⟨h1,h2⟩:=cnd h;obtain⟨q1,q2⟩:=isE_er (T:=T) h1;obtain⟨G',f1,f2⟩:=hR.rnil;have hs:=f1.sl t;have hs:RepV G' w ((s.nx,.cells [])::erH T s.h) (s.nx+1) (a.tmps.getD t undef) (getS (erS T s).sl t):=hs;rw[show getS (erS T s).sl t=er T (getT s.sl t)from getS_er s.sl t]at hs;exact⟨_,G',h2,f1.reslot t (f2 _ _ _ q1 hs)⟩
 | .rnilc id j e,h,hR=>by
  simp only[gh1]at h;split at h
  ·rename_i cs hi;split at h
   ·rename_i v hj;obtain⟨h1,h2⟩:=cnd h;obtain⟨q1,q2⟩:=isE_er (T:=T) h1;rw[er_of1 q2]at q1;have hil:(erS T s).h.get id=some (.cells (cs.map (er1 T))):=by show(erH T s.h).get id=_;rw[getH_er,hi];rfl
    obtain⟨G',f1,f2⟩:=hR.rnil;have hin:id<s.nx:=hR.wr.hid _ _ hil;have hg' :Hp.get ((s.nx,Ob.cells [])::erH T s.h) id=some (.cells (cs.map (er1 T))):=by simp only[Hp.get];rw[qe qqo];exact hil
    have hx:(cs.map (er1 T))[j]? =some (er1 T v):=by rw[ql,hj];rfl
    have:=f1.recell (s:=⟨(erS T s).sl,(s.nx,.cells [])::erH T s.h,s.nx+1⟩) (y:= .row s.nx 0 0 (T.sz e)) hg' hx rfl (fun u=>f2 u _ _ q1);refine⟨_,G',h2,?_⟩;have e1:erS T ⟨s.sl,(id,.cells (cs.set j (.row s.nx e 0)))::(s.nx,.vec e [])::s.h,s.nx+1⟩=⟨(erS T s).sl,(id,.cells ((cs.map (er1 T)).set j (.row s.nx 0 0 (T.sz e))))::(s.nx,.cells [])::erH T s.h,s.nx+1⟩:=by show St.mk _ ((id,Ob.cells ((cs.set j (.row s.nx e 0)).map (er1 T)))::_) _=_;rw[qfp];rfl
    rw[e1];exact this
   ·exact h.elim
  ·exact h.elim
 | .frzf id i,h,hR=>by
  simp only[gh1]at h;split at h
  ·rename_i e l z x k off rid re m hg hi;obtain⟨h1,h⟩:=cnd h;simp only[qg,qbe]at h1;obtain⟨⟨⟨p1,p2⟩,p3⟩,p4⟩:=h1;obtain rfl:=nb_eq p1;obtain rfl:=Ty.eq_of_beq p2;have q3:i≠rid:=fun e=>by rw[e,nb_self]at p3;cases p3
   have q4:off<(T.tys z).length:=qdu p4;split at h
   ·rename_i y hy;obtain⟨⟨rfl,h3,h4⟩,h5⟩:=h;have hgl:(erS T s).h.get rid=some (.cells (((l.map (T.e re)).flatMap D.cells).map V.d)):=by show(erH T s.h).get rid=_;rw[getH_er,hg];rfl
    have hil:(erS T s).h.get i=some (.cells ((((x.map (T.e (.st z))).flatMap D.cells).map V.d).set (k.toNat*T.sz (.st z)+off) (.row rid 0 l.length (T.sz re)))):=by show(erH T s.h).get i=_;rw[getH_er,hi];rfl
    have hm:(k.toNat+1)*T.sz (.st z)<=x.length*T.sz (.st z):=qbc _ qqo;rw[qbj,qcs]at hm;have q4:off<T.sz (.st z):=q4;have hlen:k.toNat*T.sz (.st z)+off<(((x.map (T.e (.st z))).flatMap D.cells).map V.d).length:=by rw[qm,k12 hT];omega
    obtain⟨G',f1,_,f2⟩:=hR.freeze hgl (map_sz hT l) (by rw[qm]:(l.map (T.e re)).length=l.length);have hin:i<s.nx:=hR.wr.hid _ _ hil;have hg' :Hp.get ((s.nx,Ob.tip l.length)::(rid,.dead)::erH T s.h) i=some (.cells ((((x.map (T.e (.st z))).flatMap D.cells).map V.d).set (k.toNat*T.sz (.st z)+off) (.row rid 0 l.length (T.sz re)))):=by simp only[Hp.get];rw[qe qqo,qe q3];exact hil
    have hx:((((x.map (T.e (.st z))).flatMap D.cells).map V.d).set (k.toNat*T.sz (.st z)+off) (.row rid 0 l.length (T.sz re)))[k.toNat*T.sz (.st z)+off]? =some (.row rid 0 l.length (T.sz re)):=List.getElem?_set_self hlen;have hle:le1 (.own s.nx (T.sz re) (l.map (T.e re))) (.d (.slice (T.sz re) (l.map (T.e re)))):=⟨rfl,rfl⟩;have:=f1.recell (s:=⟨(erS T s).sl,(s.nx,.tip l.length)::(rid,.dead)::erH T s.h,s.nx+1⟩) (y:= .d (.slice (T.sz re) (l.map (T.e re)))) hg' hx rfl (fun v hv=>(f2 v hv).le1 hle);refine⟨_,G',h5,?_⟩
    have hallD:∀(t:List (TD T.den)) (j:Nat),allD T ((t.map TD.v).set j (.d (.sl re) l))=true:=by
     intro t;induction t with
     |nil=>intro j;rfl
     |cons d t ih=>
      intro j;cases j with
      |zero=>
       show allD T (t.map TD.v)=true;clear ih;induction t with
       |nil=>rfl
       |cons d t ih=>exact ih
      |succ j=>exact ih j
    have hk:=kbq hy (hallD _ off);rw[qfp]at hk;have hk:((T.e (.st z) (@ix _ ⟨T.dflt (.st z)⟩ x k)).cells.map V.d).set off (.d (.slice (T.sz re) (l.map (T.e re))))=(T.eL (T.tys z) y).map V.d:=by rw[<-hk,<-k7n hT (.st z)];rfl
    have hc:(T.e (.st z) (T.pack z y)).cells=T.eL (T.tys z) y:=by show(T.enc z (T.pack z y)).cells=_;rw[hT.en,hT.pc];rfl
    have hi2:k.toNat<x.length:=by omega
    have e1:erO T (.vec (.st z) (x.set k.toNat (T.pack z y)))= .cells (((((x.map (T.e (.st z))).flatMap D.cells).map V.d).set (k.toNat*T.sz (.st z)+off) (.row rid 0 l.length (T.sz re))).set (k.toNat*T.sz (.st z)+off) (.d (.slice (T.sz re) (l.map (T.e re))))):=by rw[List.set_set,<-ka9 _ hlen,kix hT x k h3 h4 off _ (by show off+1<=_;omega),ka9 _ (by rw[qm,(e_sz hT _ _).1];exact q4),hk,<-hc];exact vec_set (e:= .st z) x k.toNat (T.pack z y) hi2
    have e2:erS T ⟨s.sl,(i,.vec (.st z) (x.set k.toNat (T.pack z y)))::(s.nx,.tip re l)::(rid,.dead)::s.h,s.nx+1⟩=⟨(erS T s).sl,(i,.cells (((((x.map (T.e (.st z))).flatMap D.cells).map V.d).set (k.toNat*T.sz (.st z)+off) (.row rid 0 l.length (T.sz re))).set (k.toNat*T.sz (.st z)+off) (.d (.slice (T.sz re) (l.map (T.e re))))))::(s.nx,.tip l.length)::(rid,.dead)::erH T s.h,s.nx+1⟩:=by rw[<-e1];rfl
    rw[e2];exact this
   ·exact h.elim
  ·exact h.elim
end
theorem ghs_snd (hT:T.Ok) {Tk:Tk} {G0:Gh} {w0:World} {a:Act} {w:World}:∀(gs:List Gs) (s:TSt T.den) (K:TSt T.den->Prop) (G:Gh),ghs T gs s K->R Tk G0 w0 N (erS T s) a G w->∃s' G',K s'/\R Tk G0 w0 N (erS T s') a G' w
 |[],s,K,G,h,hR=>⟨s,G,h,hR⟩
 |g::gs,s,K,G,h,hR=>by obtain⟨s1,G1,h1,h2⟩:=gh1_snd hT g h hR;exact ghs_snd hT gs s1 K G1 h1 h2
theorem sat_ghs (hT:T.Ok) {Tk:Tk} {G0:Gh} {w0:World} {gs:List Gs} {s:TSt T.den} {K:TSt T.den->Prop} {c:Code} {Q:Exit->St->Prop} (h:ghs T gs s K) (hk:∀s',K s'->Sat P Tk G0 w0 N c (erS T s') Q):Sat P Tk G0 w0 N c (erS T s) Q:=by intro G a w hR;obtain⟨s',G',h1,h2⟩:=ghs_snd hT gs s K G h hR;exact hk s' h1 G' a w h2
def QE (Q:Exit->TSt T.den->Prop) (e:Exit) (s:St):Prop:=KE (Q e) s
theorem KE.lk {K:TSt T.den->Prop} {s:TSt T.den} (h:K s):KE K (erS T s):=⟨s,h,Wk.refl _⟩
theorem kpb (hT:T.Ok) (hC:C.Ok P T) (hm:P.follows .mixedOrders=true) {Tk:Tk} {G0:Gh} {w0:World}:∀(c:Code) (an:An T) (s:TSt T.den) (Q:Exit->TSt T.den->Prop),WP T C N Tk.nx c an s Q->Obl T C N Tk.nx c an Q->Sat P Tk G0 w0 N c (erS T s) (QE Q):=by
 intro c;induction c with
 |skip=>intro an s Q h _;exact kke (KE.lk (by simpa[WP]using h))
 |region id ops dr=>
  intro an s Q h _;obtain⟨l⟩:=ops;have h:regW T C N ⟨l⟩ dr s (Q .normal):=by simpa[WP]using h
  cases dr with
  |false=>intro G a w hR;exact wp_region_lit (klq hT hC l (Q .normal) s a G w hR h fun s' a' G' w' hk hR' =>⟨erS T s',G',KE.lk hk,hR'⟩)
  |true=>unfold regW at h;obtain⟨h1,h2⟩:=cnd h;rw[qg]at h1;refine kgc C.S hm (noIt_er h1.2) h1.1 fun K hK=> ?_;exact k58 (K:=KE (Q .normal)) (fun a b he ⟨t,q1,q2⟩=>hK a ⟨t,q1,he.wk.trans q2⟩) (closeOps l) _ _ _ _ _ (Eqv.refl _) (kmx hT hC (closeOps l) _ _ _ _ h2)
 |seq x y ihx ihy=>
  intro an s Q h ho
  have plain:∀(ga gb:List Gs) (a b:An T),(ghs T ga s fun s=>WP T C N Tk.nx x a s (thenT T (fun s' =>ghs T gb s' fun s' =>WP T C N Tk.nx y b s' Q) Q))->Obl T C N Tk.nx x a (thenT T (fun s' =>ghs T gb s' fun s' =>WP T C N Tk.nx y b s' Q) Q)->Obl T C N Tk.nx y b Q->Sat P Tk G0 w0 N (.seq x y) (erS T s) (QE Q):=by
   intro ga gb a b h1 h2 h3;refine sat_ghs hT h1 fun s' hs' =>sat_seq (ky (ihx a s' _ hs' h2) fun e s1 hq=> ?_);obtain⟨t,q1,q2⟩:=hq;cases e with
   |normal=>exact sat_lk q2.lk (sat_ghs hT q1 fun s2 hs2=>ihy b s2 Q hs2 h3)
   |_=>exact⟨t,q1,q2⟩
  cases an with
  |jn tm J ga a gb b=>
   have h:ghs T ga s fun s=>WP T C N Tk.nx x a s (thenT T (fun s' =>tm.mat T Tk.nx s' J) Q):=by simpa only[WP]using h
   simp only[Obl]at ho;obtain⟨o1,o2,o3⟩:=ho;refine sat_ghs hT h fun s' hs' =>sat_seq (ky (ihx a s' _ hs' o1) fun e s1 hq=> ?_);obtain⟨t,q1,q2⟩:=hq;cases e with
   |normal=>obtain⟨i,k1,k2⟩:=mat_snd hT q1;refine sat_lk (q2.lk.trans k2) ?_;rw[o2 i]at k1;exact sat_ghs hT k1 fun s2 hs2=>ihy b s2 Q hs2 o3
   |_=>exact⟨t,q1,q2⟩
  |no=>simp only[WP]at h;simp only[Obl]at ho;exact plain _ _ _ _ h ho.1 ho.2
  |nd ga a gb b=>simp only[WP]at h;simp only[Obl]at ho;exact plain _ _ _ _ h ho.1 ho.2
  |lp g tm L a=>simp only[WP]at h;simp only[Obl]at ho;exact plain _ _ _ _ h ho.1 ho.2
  |rt g=>simp only[WP]at h;simp only[Obl]at ho;exact plain _ _ _ _ h ho.1 ho.2
 |cond c x y ihx ihy=>
  intro an s Q h ho;simp only[WP]at h;simp only[Obl]at ho;split at h
  ·rename_i hv;exact kh7 (by rw[ev_er,hv];rfl) (sat_ghs hT h fun s' hs' =>ihx _ s' Q hs' ho.1)
  ·rename_i hv;exact kgl (by rw[ev_er,hv];rfl) (sat_ghs hT h fun s' hs' =>ihy _ s' Q hs' ho.2)
  ·rename_i t hv;exact k8d (t:=t) (by rw[ev_er,hv];rfl) (fun ht=>sat_ghs hT (h.1 ht) fun s' hs' =>ihx _ s' Q hs' ho.1) (fun ht=>sat_ghs hT (h.2 ht) fun s' hs' =>ihy _ s' Q hs' ho.2)
  ·exact h.elim
 |block id x ih=>
  intro an s Q h ho;simp only[WP]at h;simp only[Obl]at ho;refine kgd (ky (ih an s _ h ho) fun e s1 hq=> ?_);obtain⟨t,q1,q2⟩:=hq;cases e with
  |exit id' =>
   simp only[blockT]at q1;simp only[blockA];by_cases hi:id' =id
   ·rw[qh hi];rw[hi,nb_self]at q1;exact⟨t,q1,q2⟩
   ·rw[qe hi];rw[nb_ne hi]at q1;exact⟨t,q1,q2⟩
  |_=>exact⟨t,q1,q2⟩
 |loop x ih=>
  intro an s Q h ho;cases an with
  |lp g tm L a=>
   simp only[WP]at h;simp only[Obl]at ho;obtain⟨o1,o2⟩:=ho;refine sat_ghs hT h fun s' hs' => ?_;obtain⟨i,⟨⟨inv,μ,k0,k1⟩⟩,k2⟩:=mat_snd hT hs';refine kgx (fun i=>erS T (tm.fill T i)) inv μ i k0 k2 fun i hi=> ?_;have hr:=k1 i hi;rw[o1]at hr;refine ky (ih _ _ _ hr (o2 _)) fun e s1 hq=> ?_;obtain⟨t,q1,q2⟩:=hq;cases e with
   |normal=>obtain⟨i',⟨m1,m2⟩,m3⟩:=mat_snd hT q1;exact⟨i',m1,m2,q2.lk.trans m3⟩
   |_=>exact⟨t,q1,q2⟩
  |_=>simp only[WP]at h
 |exit id=>intro an s Q h _;simp only[WP]at h;exact kkr (KE.lk h)
 |ret=>intro an s Q h _;simp only[WP]at h;exact sat_ghs hT h fun s' hs' =>sat_ret (KE.lk hs')
 |label l=>intro an s Q h _;simp only[WP]at h;exact kg9 (KE.lk h)
 |_=>intro an s Q h _;simp only[WP]at h
theorem eqH_eq:∀{ts:List Ty} {x y:HL T.den ts},eqH ts x y->x=y
 |[],_,_,_=>rfl
 |[_],x,y,h=>by obtain⟨a,b⟩:=x;obtain⟨c,d⟩:=y;have h:a=c:=h;subst h;rfl
 |_::t::r,x,y,h=>by obtain⟨a,b⟩:=x;obtain⟨c,d⟩:=y;obtain⟨h1,h2⟩:=h;have g1:a=c:=h1;have g2:b=d:=eqH_eq (ts:=t::r) h2;rw[g1,g2]
theorem kck (hT:T.Ok) (hI:InfoOk P T C.ti) {s:TSt T.den}:∀(rs:List ResultVar) (K:List (TV T.den)->Prop),resT T C.ti s rs K->∃l,K l/\allOk P (erS T s) rs/\rs.map (resV P (erS T s))=l.map (er T)
 |[],K,h=>⟨[],h,trivial,rfl⟩
 | .tmp t::r,K,h=>by obtain⟨l,h1,h2,h3⟩:=kck hT hI r _ h;refine⟨_,h1,⟨trivial,h2⟩,?_⟩;simp only[qae,h3];congr 1;exact getS_er s.sl t
 | .cell t ty::r,K,h=>by obtain⟨u,h0,h4,h5⟩:=kgu hT (hI.of ty) h;obtain⟨l,h1,h2,h3⟩:=kck hT hI r _ h0;have e:getS (erS T s).sl t=er T (getT s.sl t):=getS_er s.sl t;refine⟨_,h1,⟨by show loadOk _ _ (getS (erS T s).sl t);rw[e];exact h4,h2⟩,?_⟩;simp only[qae,h3];congr 1;show loadV _ _ (getS (erS T s).sl t)=_;rw[e];exact h5
theorem kj7:∀{l:List (TV T.den)},noTupB T l=true->l.map (er T)=l.map (er0 T)
 |[],_=>rfl
 |v::r,h=>by cases v<;>first|(cases h;done)|(simp only[qae];rw[kj7 (l:=r) h];rfl)
theorem ret_er {l:List (TV T.den)} (h:noTupB T l=true):retV (l.map (er T))=er T (retTV T l):=by
 match l,h with
 |[],_=>rfl
 |[x],_=>rfl
 |x::y::r,h=>exact congrArg V.tup (kj7 h)
theorem kgz {h:Hp} {σ:Nat->Nat} {m nx:Nat}:∀{ks:List Nat} {os:List Ob},ks.length=os.length->(∀(i k:Nat) (o:Ob),ks[i]? =some k->os[i]? =some o->k<nx/\obLe (h.get k) (renO σ o)/\okO m o)->postOk h σ m nx ks os
 |[],[],_,_=>trivial
 |[],_::_,h,_=>by cases h
 |_::_,[],h,_=>by cases h
 |k::ks,o::os,h,hh=>⟨hh 0 k o rfl rfl,kgz qqh fun i k' o' h1 h2=>hh (i+1) k' o' (by simpa using h1) (by simpa using h2)⟩
theorem ke4:∀{n k:Nat} {l:List Nat},selfB n k l=true->selfP k n l
 |0,_,l,_=>by cases l<;>trivial
 |n+1,k,[],h=>by cases h
 |n+1,k,i::r,h=>by simp only[selfB,qg]at h;exact⟨nb_eq h.1,ke4 h.2⟩
theorem k7g (hT:T.Ok) (hC:C.Ok P T) {c:Con T.den} {rs:List ResultVar} {o:HL T.den (hsV c.res (hsOs c.post))} {s:TSt T.den} (h:retT T C c rs o s):RetA P rs (er T (c.val idf o)) c.pre.length ((c.ops idf o).map (erO T)) (erS T s):=by
 unfold retT at h;obtain⟨l,h1,h2,h3⟩:=kck hT hC.ti rs _ h;split at h1
 ·exact h1.elim
 ·rename_i ids hids;split at h1
  ·exact h1.elim
  ·rename_i b hb;obtain⟨a1,a2⟩:=cnd h1;simp only[qg,Con.okB]at a1;obtain⟨⟨⟨⟨⟨hok,hnd⟩,hlt⟩,hlen⟩,hself⟩,hnt⟩:=a1;obtain⟨⟨⟨⟨⟨⟨⟨⟨⟨⟨o1,o2⟩,o3⟩,o4⟩,o5⟩,o6⟩,o7⟩,o8⟩,o9⟩,o10⟩,o11⟩:=hok;have hlen:=nb_eq hlen;obtain⟨y,g1,g2,g3⟩:=k79 hT o10 hb a2;obtain⟨x,k1,k2,k3⟩:=mtV_snd c.res _ _ y _ o9 g1;have hx:=eqH_eq k1;subst hx;have hfo:c.fo x=tkB c.post b:=by unfold Con.fo;rw[k2,g2]
   have hops:c.ops idf x=(tkC idf (tkB c.post b) 0 c.post _ y).1:=by unfold Con.ops;rw[hfo,k2]
   have hql:((c.ops idf x).map (erO T)).length=c.post.length:=by rw[qm,hops,tkC_len]
   have hval:c.val idf x=(tkV idf (tkB c.post b) c.res _ x).1:=by unfold Con.val;rw[hfo]
   refine retN ids ⟨h2,?_,?_,?_,?_,k1n hnd,by rw[hql];exact ble_le o5,ke4 hself⟩
   ·rw[h3,ret_er hnt,hval,<-tkV_ren];exact k3
   ·rw[hql,hval];exact tkV_ok (fun j hj=>hj) c.res _ x o3
   ·rw[hval];exact kgo _ _ _
   ·refine kgz (by rw[hql];exact hlen) fun i k ob hk ho=> ?_;have hkm:k<s.nx:=k1i hlt k (qbb hk);rw[hql];rw[ql,qv]at ho;obtain⟨ot,ho,rfl⟩:=ho;rw[hops]at ho;refine⟨hkm,?_,tkC_ok (k1a _ _) (fun j hj=>hj) 0 c.post _ y o4 i ot ho⟩;have hr:=tkC_ren (rh ids) (tkB c.post b) (k1a _ _) 0 c.post _ y;have hi:i<(tkC idf (tkB c.post b) 0 c.post (hsB c.post) y).1.length:=(qf.1 ho).1;have hi2:i<(tkC (rh ids) (tkB c.post b) 0 c.post (hsB c.post) y).1.length:=by rw[tkC_len]at hi ⊢;exact hi
    have e:=congrArg (fun l=>l[i]?) hr;simp only[ql,ho,qax,qd hi2,qah]at e;have:=g3 i _ (qd hi2);have hrk:rh ids i=k:=by simp[rh,hk]
    rw[e,hrk]at this;exact this
theorem kcz:∀(k:Nat) (l:List (TV T.den)),(initT T k l).map (fun p=>(p.1,er T p.2))=initSl k (l.map (er T))
 |_,[]=>rfl
 |k,x::r=>by show(k,er T x)::(initT T (k+1) r).map (fun p=>(p.1,er T p.2))=(k,er T x)::initSl (k+1) (r.map (er T));rw[kcz (k+1) r]
theorem hpN_idf:∀(k:Nat) (l:List (TOb T.den)),erH T (hpN idf k l)=hpOf k (l.map (erO T))
 |_,[]=>rfl
 |k,x::r=>by show(k,erO T x)::erH T (hpN idf (k+1) r)=(k,erO T x)::hpOf (k+1) (r.map (erO T));rw[hpN_idf (k+1) r]
theorem Con.sound (hT:T.Ok) (hC:C.Ok P T) (hm:P.follows .mixedOrders=true) {c:Con T.den} {fn:Func} {code:Code} {rs:List ResultVar} (hf:P.funcs[c.f]? =some fn) (hb:fn.body=some code) (hN:fn.ntmps=N) (hrs:fn.results.toList=rs) (hl:Nat.ble c.ins.length N=true)
  {x:HL T.den (hsT c.ins (hsOs c.pre))} {o:HL T.den (hsV c.res (hsOs c.post))} {an:An T} (hW:WP T C N c.pre.length code an (c.st T x) (retTQ T C c rs o)) (hO:Obl T C N c.pre.length code an (retTQ T C c rs o)):
  SoundH P c.f ((c.args idf x).map (er T)) ((c.obs idf x).map (erO T)) (er T (c.val idf o)) ((c.ops idf o).map (erO T)):=by
 have hpl:((c.obs idf x).map (erO T)).length=c.pre.length:=by rw[qm];unfold Con.obs;rw[tkC_len]
 have hal:((c.args idf x).map (er T)).length=c.ins.length:=by rw[qm];unfold Con.args;rw[tkT_len]
 refine kio hf hb hN (by rw[hal];exact ble_le hl) fun G0 w0=> ?_;have e:erS T (c.st T x)=⟨initSl 0 ((c.args idf x).map (er T)),hpOf 0 ((c.obs idf x).map (erO T)),((c.obs idf x).map (erO T)).length⟩:=by rw[hpl];show St.mk _ _ _=_;unfold Con.st;rw[kcz,hpN_idf]
 rw[<-e,hrs];have hnx:(tkOf G0 ((c.obs idf x).map (erO T))).nx=c.pre.length:=hpl;rw[<-hnx]at hW hO;refine kjk (kpb hT hC hm code an _ _ hW hO) fun ex s1 hq=> ?_;obtain⟨t,q1,q2⟩:=hq;refine⟨erS T t,?_,q2.lk⟩;cases ex with
 |normal=>have:=k7g hT hC (s:=t) q1;rw[<-hpl]at this;exact this
 |ret=>have:=k7g hT hC (s:=t) q1;rw[<-hpl]at this;exact this
 |_=>exact q1
end
end Go.Cv
namespace Go.Bv
open Go.RowKit
section
variable {G:Gh} {w:World} {h:Hp} {nx:Nat}
theorem PtrsR.ok:∀{ps:List (Option (Nat×Nat))} {vs:List Value},PtrsR G nx ps vs->okP nx ps
 |[],[],_=>trivial
 |[],_::_,h=>h.elim
 |_::_,[],h=>h.elim
 |none::r,_::_,h=>PtrsR.ok (ps:=r) h.2
 |some _::r,_::_,h=>⟨h.1.1,PtrsR.ok (ps:=r) h.2⟩
theorem RepV.ok1 {v:Value} {x:V} (hr:RepV G w h nx v x) (h1:∀l,x≠ .agg l) (h2:∀l,x≠ .tup l):Bv.ok1 nx x:=by
 cases hr with
 |agg _ l=>exact(h1 l rfl).elim
 |tup _ l=>exact(h2 l rfl).elim
 |ptr id _ b hid=>exact hid
 |own _ tok _ _ _ ht=>exact ht
 |row id _ _ _ _ _ _ _ hid=>exact hid
 |rown _ id _ _ hid=>exact hid
 |mp id _ hid=>exact hid
 |clo g fs cs vs us hf hc=>exact⟨hf.ok,hc.ok⟩
 |_=>trivial
theorem okL_of:∀{l:List V},(∀(j:Nat) (x:V),l[j]? =some x->Bv.ok1 nx x)->okL nx l
 |[],_=>trivial
 |x::r,h=>⟨h 0 x rfl,okL_of fun j y hj=>h (j+1) y (by simpa using hj)⟩
theorem one_na {x:V} (h:x.one=true):(∀l,x≠ .agg l)/\∀l,x≠ .tup l:=by constructor<;>(intro l e;rw[e]at h;cases h)
theorem RepV.ok0 {v:Value} {x:V} (hr:RepV G w h nx v x) (h2:∀l,x≠ .tup l):Bv.ok0 nx x/\Bv.le0 x x:=by
 by_cases ha:∃l,x= .agg l
 ·obtain⟨l,rfl⟩:=ha;cases hr with
  |agg vs _ hlen hone hr=>
   refine⟨okL_of fun j x hx=> ?_,k4u l hone⟩;have hj:j<vs.length:=by have:=(qf.1 hx).1;omega
   have h1:=one_na (hone x (qbb hx));exact(hr j _ x (qd hj) hx).ok1 h1.1 h1.2
 ·have h1:=hr.ok1 (fun l e=>ha ⟨l,e⟩) h2;cases x with
  |agg l=>exact(ha ⟨l,rfl⟩).elim
  |tup l=>exact(h2 l rfl).elim
  |_=>exact⟨h1,by unfold Bv.le0;exact ka _⟩
theorem okT_of:∀{l:List V},(∀(j:Nat) (x:V),l[j]? =some x->Bv.ok0 nx x/\Bv.le0 x x)->okT nx l/\leT l l
 |[],_=>⟨trivial,trivial⟩
 |x::r,h=>by obtain⟨g1,g2⟩:=okT_of (l:=r) fun j y hj=>h (j+1) y (by simpa using hj);obtain⟨k1,k2⟩:=h 0 x rfl;exact⟨⟨k1,g1⟩,⟨k2,g2⟩⟩
theorem RepV.ok {v:Value} {x:V} (hr:RepV G w h nx v x) (ht:∀l,x= .tup l->∀y∈l,∀l',y≠ .tup l'):Bv.ok nx x/\Bv.le x x:=by
 by_cases ha:∃l,x= .tup l
 ·obtain⟨l,rfl⟩:=ha;cases hr with
  |tup vs _ hlen hr=>
   exact okT_of fun j y hy=>by
    have hj:j<vs.length:=by have:=(qf.1 hy).1;omega
    exact(hr j _ y (qd hj) hy).ok0 (ht l rfl y (qbb hy))
 ·have h1:=hr.ok0 (fun l e=>ha ⟨l,e⟩);cases x with
  |tup l=>exact(ha ⟨l,rfl⟩).elim
  |_=>exact h1
theorem k22 {m:Nat} (h:nx<=m):∀{l:List (Option (Nat×Nat))},okP nx l->okP m l
 |[],_=>trivial
 |none::r,hx=>k22 h (l:=r) hx
 |some _::r,hx=>⟨qas hx.1 h,k22 h (l:=r) hx.2⟩
theorem kqb {m:Nat} (h:nx<=m) {x:V} (hx:Bv.ok1 nx x):Bv.ok1 m x:=by cases x<;>first|exact qas hx h|exact hx|exact⟨k22 h hx.1,k22 h hx.2⟩
theorem k89 {m:Nat} (h:nx<=m):∀{l:List V},okL nx l->okL m l
 |[],_=>trivial
 |_::_,hx=>⟨kqb h hx.1,k89 h hx.2⟩
theorem kc2 {m:Nat} (h:nx<=m) {x:V} (hx:Bv.ok0 nx x):Bv.ok0 m x:=by
 cases x with
 |agg l=>exact k89 h (l:=l) hx
 |ptr=>exact qas hx h
 |own=>exact qas hx h
 |row=>exact qas hx h
 |mp=>exact qas hx h
 |clo=>exact⟨k22 h hx.1,k22 h hx.2⟩
 |_=>exact hx
theorem kjt {m:Nat} (h:nx<=m):∀{l:List V},okT nx l->okT m l
 |[],_=>trivial
 |_::_,hx=>⟨kc2 h hx.1,kjt h hx.2⟩
theorem ok_mono {m:Nat} (h:nx<=m) {x:V} (hx:Bv.ok nx x):Bv.ok m x:=by
 cases x with
 |tup l=>exact kjt h (l:=l) hx
 |agg l=>exact k89 h (l:=l) hx
 |ptr=>exact qas hx h
 |own=>exact qas hx h
 |row=>exact qas hx h
 |mp=>exact qas hx h
 |clo=>exact⟨k22 h hx.1,k22 h hx.2⟩
 |_=>exact hx
theorem kbz {m:Nat} (h:nx<=m):∀{l:List (D×V)},okM nx l->okM m l
 |[],_=>trivial
 |_::_,hx=>⟨kc2 h hx.1,kbz h hx.2⟩
theorem kod {m:Nat} (h:nx<=m) {o:Ob} (ho:okO nx o):okO m o:=by
 cases o with
 |cells l=>exact k89 h (l:=l) ho
 |map x=>cases x with
  |m l=>exact kbz h (l:=l) ho
  |it mid l last=>exact⟨qas ho.1 h,kbz h ho.2.1,fun e he=>kc2 h (ho.2.2 e he)⟩
 |_=>trivial
theorem k5x {σ:Nat->Nat} (hσ:∀i,i<nx->σ i=i):∀{l:List (Option (Nat×Nat))},okP nx l->renP σ l=l
 |[],_=>rfl
 |none::r,h=>congrArg (List.cons none) (k5x (l:=r) hσ h)
 |some (i,_)::_,h=>by unfold renP;rw[hσ i h.1,k5x hσ h.2]
theorem ren1_id {σ:Nat->Nat} (hσ:∀i,i<nx->σ i=i) {x:V} (h:Bv.ok1 nx x):Bv.ren1 σ x=x:=by cases x<;>first|rfl|(simp only[Bv.ren1];rw[hσ _ h])|(simp only[Bv.ren1];rw[k5x hσ h.1,k5x hσ h.2])
theorem renL_id {σ:Nat->Nat} (hσ:∀i,i<nx->σ i=i):∀{l:List V},okL nx l->l.map (Bv.ren1 σ)=l
 |[],_=>rfl
 |x::r,h=>by rw[qae,ren1_id hσ h.1,renL_id hσ h.2]
theorem ren0_id {σ:Nat->Nat} (hσ:∀i,i<nx->σ i=i) {x:V} (h:Bv.ok0 nx x):Bv.ren0 σ x=x:=by
 cases x with
 |agg l=>exact congrArg V.agg (renL_id hσ h)
 |ptr i o=>exact ren1_id (x:= .ptr i o) hσ h
 |own a b c=>exact ren1_id (x:= .own a b c) hσ h
 |row a b c d=>exact ren1_id (x:= .row a b c d) hσ h
 |mp a=>exact ren1_id (x:= .mp a) hσ h
 |clo a b c=>exact ren1_id (x:= .clo a b c) hσ h
 |_=>rfl
theorem renT_id {σ:Nat->Nat} (hσ:∀i,i<nx->σ i=i):∀{l:List V},okT nx l->l.map (Bv.ren0 σ)=l
 |[],_=>rfl
 |x::r,h=>by rw[qae,ren0_id hσ h.1,renT_id hσ h.2]
theorem ren_id {σ:Nat->Nat} (hσ:∀i,i<nx->σ i=i) {x:V} (h:Bv.ok nx x):Bv.ren σ x=x:=by
 cases x with
 |tup l=>exact congrArg V.tup (renT_id hσ h)
 |agg l=>exact congrArg V.agg (renL_id hσ h)
 |ptr i o=>exact ren1_id (x:= .ptr i o) hσ h
 |own a b c=>exact ren1_id (x:= .own a b c) hσ h
 |row a b c d=>exact ren1_id (x:= .row a b c d) hσ h
 |mp a=>exact ren1_id (x:= .mp a) hσ h
 |clo a b c=>exact ren1_id (x:= .clo a b c) hσ h
 |_=>rfl
theorem renM_id {σ:Nat->Nat} (hσ:∀i,i<nx->σ i=i):∀{l:List (D×V)},okM nx l->(l.map fun e=>(e.1,Bv.ren0 σ e.2))=l
 |[],_=>rfl
 |x::r,h=>by rw[qae,ren0_id hσ h.1,renM_id hσ h.2]
theorem renO_id {σ:Nat->Nat} (hσ:∀i,i<nx->σ i=i) {o:Ob} (h:okO nx o):renO σ o=o:=by
 cases o with
 |cells l=>exact congrArg Ob.cells (renL_id hσ h)
 |map x=>cases x with
  |m l=>exact congrArg (fun z=>Ob.map (.m z)) (renM_id hσ h)
  |it mid l last=>
   obtain⟨h1,h2,h3⟩:=h;show Ob.map (.it (σ mid) _ (last.map _))=_;rw[hσ mid h1,renM_id hσ h2];cases last with
   |none=>rfl
   |some e=>simp only[qax];rw[ren0_id hσ (h3 e rfl)]
 |_=>rfl
end
end Go.Bv
namespace Go.Cv
open Go Go.Bv Go.RowKit Go.Md
section
variable {T:Tab} {P:Program} {C:Cx T} {N:Nat}
structure Gd (s:TSt T.den):Prop where
 sl:∀t,ok s.nx (er T (getT s.sl t))/\le (er T (getT s.sl t)) (er T (getT s.sl t))
 h:∀id ob,(erS T s).h.get id=some ob->id<s.nx/\okO s.nx ob/\obLe (some ob) ob
theorem er_tup {v:TV T.den}:∀l,er T v= .tup l->∀y∈l,∀l',y≠ .tup l' :=by
 intro l h y hy;cases v with
 |tup l0=>injection h with h;subst h;obtain⟨u,_,rfl⟩:=qag.1 hy;exact k1l
 |_=>cases h
theorem okM_D {nx:Nat} {k v:Ty}:∀(l:List (k.den T.den×v.den T.den)),okM nx (l.map fun p=>(T.e k p.1,V.ofD (T.e v p.2)))
 |[]=>trivial
 | p::r=>⟨by
   show ok0 nx (V.ofD (T.e v p.2));generalize T.e v p.2=d;cases d with
   |agg l=>exact okL_of fun j x hx=>by rw[ql,qv]at hx;obtain⟨_,_,rfl⟩:=hx;trivial
   |_=>trivial,okM_D r⟩
theorem kh3:∀x:MO,moLe x x
 | .m _=>rfl
 | .it _ _ none=>⟨rfl,rfl⟩
 | .it _ _ (some _)=>rfl
theorem gd_of {Tk:Tk} {G0:Gh} {w0:World} {s:TSt T.den} {a:Act} {G:Gh} {w:World} (hR:R Tk G0 w0 N (erS T s) a G w):Gd s:=by
 refine⟨fun t=> ?_,fun id ob hg=> ?_⟩
 ·have:=hR.sl t;rw[show getS (erS T s).sl t=er T (getT s.sl t)from getS_er s.sl t]at this;exact this.ok er_tup
 ·refine⟨hR.wr.hid id ob hg,?_⟩;have hg0:=hg;have hg:(erH T s.h).get id=some ob:=hg;rw[getH_er,qv]at hg;obtain⟨o,ho,rfl⟩:=hg
  have cell:∀l,erO T o= .cells l->okO s.nx (.cells l)/\obLe (some (.cells l)) (.cells l):=by
   intro l hl;rw[hl]at hg0;rcases hR.wr.obj id l hg0 with⟨z1,z2⟩|⟨b,e,cs,k1,k2,k3,k4,k5,k6⟩
   ·subst z1;exact⟨trivial,trivial⟩
   ·refine⟨okL_of fun j x hx=> ?_,k4u l k5⟩;have hj:j<cs.length:=by have:=(qf.1 hx).1;omega
    have h1:=one_na (k5 x (qbb hx));exact(k6 j _ x (qd hj) hx).ok1 h1.1 h1.2
  cases o with
  |cells l=>exact cell _ rfl
  |vec e l=>exact cell _ rfl
  |foc e l i off rid re n=>exact cell _ rfl
  |tip e l=>exact⟨trivial,rfl⟩
  |dead=>exact⟨trivial,trivial⟩
  |map k v ks vs=>exact⟨okM_D _,by show moLe (MO.m _) (MO.m _);exact kh3 _⟩
  |it mid k v ks vs last=>
   refine⟨⟨?_,okM_D _,fun e he=> ?_⟩,kh3 _⟩
   ·obtain⟨b,bm,since,seen,c0,h1,h2,h3,_⟩:=hR.wr.mob id _ hg0;exact h3
   ·cases last with
    |none=>cases he
    |some p=>exact k4s (okM_D [p]) 0 e (by simpa using he)
theorem kcu {sl' :List (Nat×TV T.den)} {t:Nat}:∀{sl:List (Nat×TV T.den)},hasK T sl t=false->getT (sl++sl') t=getT sl' t
 |[],_=>rfl
 |p::r,h=>by simp only[hasK,qdz]at h;show(bif Nat.beq t p.1 then p.2 else getT (r++sl') t)=_;rw[h.1];exact kcu h.2
theorem kih {sl' :List (Nat×TV T.den)} {t:Nat}:∀{sl:List (Nat×TV T.den)},hasK T sl t=true->getT (sl++sl') t=getT sl t
 |[],h=>by cases h
 |p::r,h=>by
  show(bif Nat.beq t p.1 then p.2 else getT (r++sl') t)=(bif Nat.beq t p.1 then p.2 else getT r t);cases e:Nat.beq t p.1 with
  |true=>rfl
  |false=>simp only[hasK,e,qfh]at h;exact kih h
theorem kgy {t:Nat}:∀{sl:List (Nat×TV T.den)},hasK T sl t=false->getT sl t= .any
 |[],_=>rfl
 |p::r,h=>by simp only[hasK,qdz]at h;show(bif Nat.beq t p.1 then p.2 else getT r t)=_;rw[h.1];exact kgy h.2
theorem memB_in:∀{x:Nat} {l:List Nat},memB x l=true->x∈l
 |_,[],h=>by cases h
 |x,y::r,h=>by
  simp only[memB,qcv]at h;rcases h with h|h
  ·rw[nb_eq h];simp
  ·exact qes _ (memB_in h)
theorem kk1 {ts:List Nat} {sl:List (Nat×TV T.den)}:∀{l:List (Nat×TV T.den)} {t:Nat},chS T ts sl l=true->hasK T l t=true->t∈ts∨hasK T sl t=false
 |[],t,_,h=>by cases h
 |p::r,t,h,hk=>by
  simp only[chS,qg,qcv,qbe]at h;simp only[hasK,qcv]at hk;rcases hk with hk|hk
  ·rw[nb_eq hk];rcases h.1 with h1|h1
   ·exact .inl (memB_in h1)
   ·exact .inr h1
  ·exact kk1 h.2 hk
theorem kj2 {d:Dl} {nx:Nat}:∀{l:THp T.den} {i:Nat} {o:Ob},chH T d nx l=true->(erH T l).get i=some o->i∈d.old∨i∈d.dd∨nx<=i
 |[],i,o,_,h=>by cases h
 |p::r,i,o,h,hk=>by
  simp only[chH,qg,qcv]at h;have hk:Hp.get ((p.1,erO T p.2)::erH T r) i=some o:=hk;simp only[Hp.get]at hk;split at hk
  ·rename_i e;rw[e];rcases h.1 with(h1|h1)|h1
   ·exact .inl (memB_in h1)
   ·exact .inr (.inl (memB_in h1))
   ·exact .inr (.inr (ble_le h1))
  ·exact kj2 h.2 hk
theorem pre_app {α:Type} {a b:List α}:pre (a++b) b=a:=by unfold pre;rw[qj,Nat.add_sub_cancel,qfm rfl]
theorem kgk {nx:Nat} {dd:List Nat}:∀{a b:List Nat},fixD nx dd a b=true->a.length=b.length/\(∀(p i j:Nat),a[p]? =some i->b[p]? =some j->(i<nx->i=j)/\(nx<=i->nx<=j∨j∈dd))
 |[],[],_=>⟨rfl,fun p i j h=>by simp at h⟩
 |[],_::_,h=>by cases h
 |_::_,[],h=>by cases h
 |x::a,y::b,h=>by
  simp only[fixD,qg]at h;obtain⟨g1,g2⟩:=kgk h.2;refine⟨by simp[g1],fun p i j hi hj=> ?_⟩;cases p with
  |zero=>
   simp at hi hj;subst hi;subst hj;have h1:=h.1;by_cases e:x<nx
   ·rw[show Nat.blt x nx=true by simp[Nat.blt_eq,e]]at h1;exact⟨fun _=>nb_eq h1,fun h=>by omega⟩
   ·rw[show Nat.blt x nx=false by cases hb:Nat.blt x nx with|false=>rfl|true=>exact absurd (blt_lt hb) e]at h1;simp only[qbt,qcv]at h1;refine⟨fun h=>absurd h e,fun _=> ?_⟩;rcases h1 with h1|h1
    ·exact .inl (ble_le h1)
    ·exact .inr (memB_in h1)
  |succ p=>exact g2 p i j (by simpa using hi) (by simpa using hj)
theorem rho_no:∀{a b:List Nat} {i:Nat},i∉a->rho a b i=i
 |[],_,_,_=>rfl
 |_::_,[],_,_=>rfl
 |x::a,y::b,i,h=>by simp only[rho];rw[qe (fun e=>h (by simp[e])),rho_no (fun e=>h (by simp[e]))]
theorem sgs_get {l:List Nat} {p:Nat} (h:p<l.length):l[p]? =some (sgs l p):=by simp[sgs,h]
theorem ups_mem:∀{k n i:Nat},i∈ups k n↔k<=i/\i<k+n
 |k,0,i=>by simp[ups];try omega
 |k,n+1,i=>by simp only[ups,qam,ups_mem];omega
theorem zip_has {t:Nat}:∀{ts:List Nat} {vs:List (TV T.den)},ts.length=vs.length->t∈ts->hasK T (zipS T ts vs) t=true
 |[],_,_,h=>by cases h
 |u::ts,[],h,_=>by cases h
 |u::ts,v::vs,h,hm=>by
  simp only[zipS,hasK,qcv];rcases qam.1 hm with rfl|hm
  ·exact .inl (nb_self _)
  ·exact .inr (zip_has qqh hm)
theorem zip_no {t:Nat}:∀{ts:List Nat} {vs:List (TV T.den)},t∉ts->hasK T (zipS T ts vs) t=false
 |[],[],_=>rfl
 |[],_::_,_=>rfl
 |_::_,[],_=>rfl
 |u::ts,v::vs,hm=>by simp only[zipS,hasK,qdz];exact⟨nb_ne fun e=>hm (by simp[e]),zip_no fun e=>hm (by simp[e])⟩
theorem kg8:∀{a l:List Nat},disB a l=true->∀x∈a,x∉l
 |[],_,_,x,h=>by cases h
 |y::a,l,h,x,hx=>by
  simp only[disB,qg,qbe]at h;rcases qam.1 hx with rfl|hx
  ·exact k9x h.1
  ·exact kg8 h.2 x hx
theorem hpN_hit {σ:Nat->Nat}:∀{os:List (TOb T.den)} {k p:Nat},p<os.length->Hp.get (erH T (hpN σ k os)) (σ (k+p))≠none
 |[],_,_,h=>by cases h
 |o::os,k,p,h=>by
  show Hp.get ((σ k,erO T o)::erH T (hpN σ (k+1) os)) _≠none;simp only[Hp.get];split
  ·simp
  ·rename_i hne;cases p with
   |zero=>exact(hne rfl).elim
   |succ p=>have:=hpN_hit (σ:=σ) (os:=os) (k:=k+1) (p:=p) qqh;rw[show k+1+p=k+(p+1)by omega]at this;exact this
theorem kji {h:THp T.den}:∀{dd:List Nat} {i:Nat} {o:Ob},(erH T ((dd.map fun i=>(i,TOb.dead))++h)).get i=some o->(i∈dd/\o= .dead)∨(i∉dd/\(erH T h).get i=some o)
 |[],i,o,hg=> .inr ⟨by simp,hg⟩
 |x::dd,i,o,hg=>by
  have hg:Hp.get ((x,Ob.dead)::erH T ((dd.map fun i=>(i,TOb.dead))++h)) i=some o:=hg;simp only[Hp.get]at hg;split at hg
  ·rename_i e;injection hg with hg;exact .inl ⟨by simp[e],hg.symm⟩
  ·rename_i e;rcases kji hg with⟨h1,h2⟩|⟨h1,h2⟩
   ·exact .inl ⟨by simp[h1],h2⟩
   ·exact .inr ⟨by simp[e,h1],h2⟩
theorem kc3 (hT:T.Ok) {Tk:Tk} {d:Dl} {s0 s:TSt T.den} {J:HL T.den d.hs->Prop} (hx:Xt s0 s) (hg:Gd s0) (hn:Tk.nx<=s0.nx) (h:d.mat T s0 s J):∃i,J i/\Lk Tk (erS T s) (erS T (d.fill T s0 i)):=by
 unfold Dl.mat at h;obtain⟨h1,h2⟩:=cnd h;simp only[qg,Dl.okB]at h1;obtain⟨⟨⟨⟨⟨⟨⟨⟨⟨⟨⟨b1,b2⟩,b3⟩,b4⟩,b6⟩,b7⟩,a1⟩,a2⟩,a3⟩,a4⟩,a5⟩,a6⟩:=h1;replace h2:=fcL_eq h2;generalize d.at T s0.nx s=ids at h2;obtain⟨h3,h4⟩:=cnd h2;simp only[qg]at h3;obtain⟨⟨c2,c3⟩,c4⟩:=h3;have c1:=k1n a1;have c2:=k1n c2;have c3:=k1i c3;obtain⟨c5,c6⟩:=kgk c4;have a2:=k1i a2;have a3:=k1i a3;have a4:=kg8 a4;obtain⟨⟨psl,hpsl⟩,⟨ph,hph⟩,hnx⟩:=hx;rw[hpsl,pre_app]at a5;rw[hph,pre_app]at a6
 have hlen:(d.ids s0.nx).length=d.os.length:=by
  have ul:∀k n,(ups k n).length=n:=fun k n=>by induction n generalizing k with|zero=>rfl|succ n ih=>simp[ups,ih]
  have:=ble_le b3;simp only[Dl.ids,Dl.n,qj,ul];omega
 have hidm:∀i,i∈d.ids s0.nx↔i∈d.old∨(s0.nx<=i/\i<s0.nx+d.n):=fun i=>by simp only[Dl.ids,qal,ups_mem]
 have hlt:∀j,j<d.os.length->sgs (d.ids s0.nx) j<s0.nx+d.n:=fun j hj=>by
  have:=qbb (sgs_get (l:=d.ids s0.nx) (p:=j) qqo);rcases(hidm _).1 this with h|h
  ·have:=a2 _ h;omega
  ·exact h.2
 generalize hI:d.ids s0.nx=I at *
 split at h4
 ·rename_i b hb;obtain⟨y,g1,g2,g3⟩:=k79 hT b7 hb h4;obtain⟨x,k1,k2,_,k4⟩:=mtT_snd d.ss _ _ y _ b6 g1;have hf:d.f T x=tkB d.os b:=by unfold Dl.f;rw[k2,g2]
  have hrho:∀j,j<d.os.length->rho I ids (sgs I j)=sgs ids j:=fun j hj=>rho_at c1 qqo qqo;have hid1:∀j,j<d.os.length->idf j<d.os.length:=fun j h=>h
  have hsm:∀i,i<s0.nx->rho I ids i=i:=fun i hi=>by
   by_cases hm:i∈I
   ·obtain⟨p,hp⟩:=qcf hm;have hpl:=(qf.1 hp).1;have e1:sgs I p=i:=by have:=sgs_get hpl;rw[hp]at this;injection this with this;exact this.symm
    have:=hrho p qqo;rw[e1]at this;rw[this];exact((c6 p i _ hp (sgs_get qqo)).1 hi).symm
   ·exact rho_no hm
  refine⟨x,k1,fun G0 w0 N a G w hR=> ?_⟩;have efill:erS T (d.fill T s0 x)=⟨(zipS T d.ts (tkT (sgs I) (tkB d.os b) d.ss _ x).1++s0.sl).map fun p=>(p.1,er T p.2),erH T (hpN (sgs I) 0 (tkC (sgs I) (tkB d.os b) 0 d.os _ y).1++(d.dd.map fun i=>(i,TOb.dead))++s0.h),s0.nx+d.n⟩:=by unfold Dl.fill;rw[hI,hf,k2];rfl
  have hget:∀id ob,(erS T (d.fill T s0 x)).h.get id=some ob->(∃p o,(tkC (sgs I) (tkB d.os b) 0 d.os (hsB d.os) y).1[p]? =some o/\p<d.os.length/\id=sgs I p/\ob=erO T o)∨(id∈d.dd/\id∉I/\ob= .dead)∨(id∉I/\id∉d.dd/\(erS T s0).h.get id=some ob):=by
   intro id ob hgt;rw[efill]at hgt;have hgt:Hp.get (erH T (hpN (sgs I) 0 (tkC (sgs I) (tkB d.os b) 0 d.os _ y).1++(d.dd.map fun i=>(i,TOb.dead))++s0.h)) id=some ob:=hgt;rw[qx,erH_app,k28]at hgt;split at hgt
   ·rename_i o1 ho1;injection hgt with hgt;subst hgt;obtain⟨p,o,q1,q2,q3⟩:=hpN_get _ _ _ _ ho1;rw[qaj]at q2;exact .inl ⟨p,o,q1,by have:=(qf.1 q1).1;rw[tkC_len]at this;exact this,q2,q3⟩
   ·rename_i hnone
    have hni:id∉I:=by
     intro hm;obtain⟨p,hp⟩:=qcf hm;have hpl:=(qf.1 hp).1;have:=hpN_hit (T:=T) (σ:=sgs I) (os:=(tkC (sgs I) (tkB d.os b) 0 d.os (hsB d.os) y).1) (k:=0) (p:=p) (by rw[tkC_len];omega);have e1:sgs I p=id:=by have:=sgs_get hpl;rw[hp]at this;injection this with this;exact this.symm
     rw[qaj,e1]at this;exact this hnone
    rcases kji hgt with⟨q1,q2⟩|⟨q1,q2⟩
    ·exact .inr (.inl ⟨q1,hni,q2⟩)
    ·exact .inr (.inr ⟨hni,q1,q2⟩)
  have hkeep:∀id,id<s0.nx->id∉I->id∉d.dd->(erS T s).h.get id=(erS T s0).h.get id:=by
   intro id h1 h2 h3;show(erH T s.h).get id=(erH T s0.h).get id;rw[hph,erH_app,k28];split
   ·rename_i o ho;rcases kj2 a6 ho with q|q|q
    ·exact(h2 ((hidm id).2 (.inl q))).elim
    ·exact(h3 q).elim
    ·omega
   ·rfl
  have hnew:∀p,p<d.os.length->s0.nx<=sgs I p->∀j,j<s0.nx->j∉d.dd->sgs ids p≠j:=by
   intro p hp h1 j hj hjd e;rcases(c6 p _ _ (sgs_get qqo) (sgs_get qqo)).2 h1 with q|q
   ·omega
   ·rw[e]at q;exact hjd q
  have hcross:∀p j,p<d.os.length->j∉I->j∉d.dd->j<s0.nx->sgs ids p≠j:=by
   intro p j hp hj1 hj2 hj3 e;by_cases hs:sgs I p<s0.nx
   ·have:=(c6 p _ _ (sgs_get qqo) (sgs_get qqo)).1 hs;rw[e]at this;exact hj1 (this▸qbb (sgs_get qqo))
   ·exact hnew p hp qqo j hj3 hj2 e
  have hnx' :(erS T (d.fill T s0 x)).nx=s0.nx+d.n:=rfl;have hsnx:(erS T s).nx=s.nx:=rfl;refine hR.leRen (σ:=rho I ids) (by rw[hnx'];omega) (fun i hi=>hsm i qqo) (fun i hi=> ?_) (fun i j li lj hij=> ?_) (fun id ob hgt=> ?_) ?_
  ·rw[hnx']at hi;rw[hsnx];by_cases hs:i<s0.nx
   ·rw[hsm i hs];omega
   ·have hm:i∈I:=(hidm i).2 (.inr ⟨by omega,hi⟩);obtain⟨p,hp⟩:=qcf hm;have hpl:=(qf.1 hp).1;have e1:sgs I p=i:=by have:=sgs_get hpl;rw[hp]at this;injection this with this;exact this.symm
    rw[<-e1,hrho p qqo];exact c3 _ (qbb (sgs_get qqo))
  ·obtain⟨oi,hoi,ni⟩:=live_of li;obtain⟨oj,hoj,nj⟩:=live_of lj;rcases hget i oi hoi with⟨p,_,_,q1,q2,_⟩|⟨_,_,q3⟩|⟨q1,q2,q3⟩
   ·rcases hget j oj hoj with⟨q,_,_,r1,r2,_⟩|⟨_,_,r3⟩|⟨r1,r2,r3⟩
    ·rw[q2,r2,hrho p q1,hrho q r1]at hij;have:=kcx c2 (sgs_get (show p<ids.length by omega)) (by rw[hij];exact sgs_get (show q<ids.length by omega));rw[q2,r2,this]
    ·exact(nj r3).elim
    ·have hj:=(hg.h j oj r3).1;rw[q2,hrho p q1,hsm j hj]at hij;exact(hcross p j q1 r1 r2 hj hij).elim
   ·exact(ni q3).elim
   ·have hi:=(hg.h i oi q3).1;rcases hget j oj hoj with⟨q,_,_,r1,r2,_⟩|⟨_,_,r3⟩|⟨r1,r2,r3⟩
    ·rw[r2,hrho q r1,hsm i hi]at hij;exact(hcross q i r1 q1 q2 hi hij.symm).elim
    ·exact(nj r3).elim
    ·have hj:=(hg.h j oj r3).1;rw[hsm i hi,hsm j hj]at hij;exact hij
  ·rcases hget id ob hgt with⟨p,o,q1,q2,rfl,rfl⟩|⟨q1,q2,rfl⟩|⟨q1,q2,q3⟩
   ·refine⟨hlt p q2,?_,tkC_ok (k1a _ _) hlt 0 d.os _ y b2 p o q1⟩;have hl1:p<(tkC (sgs ids) (tkB d.os b) 0 d.os (hsB d.os) y).1.length:=by rw[tkC_len];exact q2
    have hl0:p<(tkC idf (tkB d.os b) 0 d.os (hsB d.os) y).1.length:=by rw[tkC_len];exact q2
    have w1:=congrArg (fun l=>l[p]?) (tkC_ren (sgs I) (tkB d.os b) (k1a d.os b) 0 d.os (hsB d.os) y);have w2:=congrArg (fun l=>l[p]?) (tkC_ren (sgs ids) (tkB d.os b) (k1a d.os b) 0 d.os (hsB d.os) y);simp only[ql,q1,qax,qd hl0,qd hl1,qah]at w1 w2;have w3:=tkC_ok (k1a d.os b) hid1 0 d.os (hsB d.os) y b2 p _ (qd hl0);rw[hrho p q2,w1,kia hrho w3,<-w2];exact g3 p _ (qd hl1)
   ·refine⟨by rw[hnx'];have:=a3 _ q1;omega,?_,trivial⟩;show obLe _ Ob.dead;cases (erS T s).h.get (rho I ids id)with
    |none=>trivial
    |some o=>cases o<;>trivial
   ·obtain⟨r1,r2,r3⟩:=hg.h id ob q3;have mono:∀{m:Nat},s0.nx<=m->okO s0.nx ob->okO m ob:=fun hm ho=>kod hm ho;refine⟨by rw[hnx'];omega,?_,mono (by rw[hnx'];omega) r2⟩;rw[hsm id r1,renO_id hsm r2,hkeep id r1 q1 q2,q3];exact r3
  ·intro t
   have key:leAll ((d.ts.map (getT s.sl)).map (er T)) (((tkT (sgs I) (tkB d.os b) d.ss (hsOs d.os) x).1.map (er T)).map (ren (rho I ids))):=by
    have e1:((tkT (sgs I) (tkB d.os b) d.ss (hsOs d.os) x).1.map (er T)).map (ren (rho I ids))=(tkT (sgs ids) (tkB d.os b) d.ss (hsOs d.os) x).1.map (er T):=by
     rw[tkT_er,tkT_er];have:((tkT (sgs I) (tkB d.os b) d.ss (hsOs d.os) x).1.map (er0 T)).map (ren (rho I ids))=((tkT (sgs I) (tkB d.os b) d.ss (hsOs d.os) x).1.map (er0 T)).map (ren0 (rho I ids)):=by rw[qbi,qbi];exact qar fun v _=>ren_0 _ k1l
     rw[this,k2m (sgs I),k2m (sgs ids)];exact kcm hrho (tkT_ok hid1 d.ss _ x b1)
    rw[e1];exact k4
   rw[efill];show getS ((zipS T d.ts (tkT (sgs I) (tkB d.os b) d.ss _ x).1++s0.sl).map fun p=>(p.1,er T p.2)) t= .any∨_;rw[getS_er];by_cases ht:t∈d.ts
   ·rw[kih (zip_has (by rw[tkT_len];exact nb_eq b4) ht)];have:=slotsR (sl:=s.sl) (nx:=s0.nx+d.n) d.ts _ key (args_ok hlt d.ss _ x b1) t;rw[getS_er]at this;exact this
   ·rw[kcu (zip_no ht)];by_cases hk:hasK T s0.sl t=true
    ·right
     have e:getT s.sl t=getT s0.sl t:=by
      rw[hpsl];refine kcu ?_;cases hp:hasK T psl t with
      |false=>rfl
      |true=>
       rcases kk1 a5 hp with q|q
       ·exact(ht q).elim
       ·rw[q]at hk;cases hk
     obtain⟨r1,r2⟩:=hg.sl t;refine⟨?_,ok_mono (qef _ _) r1⟩;rw[ren_id hsm r1,show getS (erS T s).sl t=er T (getT s.sl t)from getS_er s.sl t,e];exact r2
    ·left;rw[kgy (by simpa using hk)];rfl
 ·exact h4.elim
theorem kkg {id n z:Nat} {v:TV T.den}:∀(ts:List Nat) (sl:List (Nat×TV T.den)) {K K' :List (Nat×TV T.den)->Prop},(∀a,K (a++sl)->K' (a++sl))->rowsTo T id v n z ts sl K->rowsTo T id v n z ts sl K'
 |[],sl,K,K',hk,h=>hk [] h
 |t::ts,sl,K,K',hk,h=>by
  simp only[rowsTo]at h ⊢;split at h
  ·obtain⟨h1,h2,h3⟩:=cnd h;rw[h1,qdf];exact⟨h2,kkg ts _ (fun a ha=>by have:=hk (a++[(t,v)]);simp only[qx,List.singleton_append]at this;exact this ha) h3⟩
  ·exact h.elim
theorem trimV_X {h:THp T.den} {v:TV T.den} {K K' :Nat->(e:Ty)->List (e.den T.den)->Prop} (hk:∀id e l,K id e l->K' id e l) (hh:trimV T h v K):trimV T h v K' :=by
 unfold trimV at hh ⊢;split at hh<;>try exact hh.elim
 all_goals
  split at hh
  ·obtain⟨h1,h2⟩:=cnd hh;rw[h1,qdf];first|exact⟨h2.1,hk _ _ _ h2.2⟩|exact⟨h2.1,h2.2.1,hk _ _ _ h2.2.2⟩
  ·exact hh.elim
theorem gh1_X {s:TSt T.den} {K K' :TSt T.den->Prop} (hk:∀s',Xt s s'->K s'->K' s'):∀(g:Gs),gh1 T s K g->gh1 T s K' g
 | .frz id ts,h=>by
  simp only[gh1]at h ⊢;split at h
  ·exact kkg ts _ (fun a=>hk _ ⟨⟨a,rfl⟩,⟨[_,_],rfl⟩,qdg _⟩) h
  ·exact h.elim
 | .frzc id i j,h=>by
  simp only[gh1]at h ⊢;split at h
  ·split at h
   ·obtain⟨h1,h2,h3⟩:=cnd h;rw[h1,qdf];exact⟨h2,hk _ ⟨⟨[],rfl⟩,⟨[_,_,_],rfl⟩,qdg _⟩ h3⟩
   ·exact h.elim
  ·exact h.elim
 | .tok t e,h=>by
  simp only[gh1]at h ⊢;split at h
  ·exact hk _ ⟨⟨[_],rfl⟩,⟨[_],rfl⟩,qdg _⟩ h
  ·exact h.elim
 | .tokc id j e,h=>by
  simp only[gh1]at h ⊢;split at h
  ·split at h
   ·split at h
    ·exact hk _ ⟨⟨[],rfl⟩,⟨[_,_],rfl⟩,qdg _⟩ h
    ·exact h.elim
   ·exact h.elim
  ·exact h.elim
 | .trim t,h=>by simp only[gh1]at h ⊢;exact trimV_X (fun _ _ _=>hk _ ⟨⟨[_],rfl⟩,⟨[_,_],rfl⟩,qdg _⟩) h
 | .trimc id j,h=>by
  simp only[gh1]at h ⊢;split at h
  ·split at h
   ·refine trimV_X (fun id' e l hh=> ?_) h;revert hh;cases Nat.beq id' id with
    |true=>exact fun hh=>hh
    |false=>exact hk _ ⟨⟨[],rfl⟩,⟨[_,_,_],rfl⟩,qdg _⟩
   ·exact h.elim
  ·exact h.elim
 | .rnil t e,h=>by simp only[gh1]at h ⊢;obtain⟨h1,h2⟩:=cnd h;rw[h1,qdf];exact hk _ ⟨⟨[_],rfl⟩,⟨[_],rfl⟩,qdg _⟩ h2
 | .rnilc id j e,h=>by
  simp only[gh1]at h ⊢;split at h
  ·split at h
   ·obtain⟨h1,h2⟩:=cnd h;rw[h1,qdf];exact hk _ ⟨⟨[],rfl⟩,⟨[_,_],rfl⟩,qdg _⟩ h2
   ·exact h.elim
  ·exact h.elim
 | .frzf id i,h=>by
  simp only[gh1]at h ⊢;split at h
  ·obtain⟨h1,h⟩:=cnd h;rw[h1,qdf];split at h
   ·exact⟨h.1,hk _ ⟨⟨[],rfl⟩,⟨[_,_,_],rfl⟩,qdg _⟩ h.2⟩
   ·exact h.elim
  ·exact h.elim
theorem ghs_X:∀(gs:List Gs) {s:TSt T.den} {K K' :TSt T.den->Prop},(∀s',Xt s s'->K s'->K' s')->ghs T gs s K->ghs T gs s K'
 |[],s,_,_,hk,h=>hk s (Xt.refl s) h
 |g::gs,s,_,_,hk,h=>gh1_X (fun s1 h1 h2=>ghs_X gs (fun s' h3=>hk s' (h1.trans h3)) h2) g h
theorem fill_X {d:Dl} {s:TSt T.den} {i:HL T.den d.hs}:Xt s (d.fill T s i):=⟨⟨_,rfl⟩,⟨_,rfl⟩,qef _ _⟩
theorem sat_ghX (hT:T.Ok) {Tk:Tk} {G0:Gh} {w0:World} {gs:List Gs} {s:TSt T.den} {K:TSt T.den->Prop} {c:Code} {Q:Exit->St->Prop} (h:ghs T gs s K) (hk:∀s',K s'->Xt s s'->Sat P Tk G0 w0 N c (erS T s') Q):Sat P Tk G0 w0 N c (erS T s) Q:=sat_ghs hT (K:=fun s' =>K s'/\Xt s s') (ghs_X gs (fun _ hx hs=>⟨hs,hx⟩) h) fun s' hs=>hk s' hs.1 hs.2
def QX (s:TSt T.den) (Q:Exit->TSt T.den->Prop) (e:Exit) (t:St):Prop:=KE (fun t=>Q e t/\Xt s t) t
theorem QX.of {s s' :TSt T.den} {Q:Exit->TSt T.den->Prop} {e:Exit} {t:St} (hx:Xt s s') (h:QX s' Q e t):QX s Q e t:=let⟨u,h1,h2⟩:=h;⟨u,⟨h1.1,hx.trans h1.2⟩,h2⟩
theorem QX.mk {s t:TSt T.den} {Q:Exit->TSt T.den->Prop} {e:Exit} (hx:Xt s t) (h:Q e t):QX s Q e (erS T t):=⟨t,⟨h,hx⟩,Wk.refl _⟩
theorem kpr (hT:T.Ok) (hC:C.Ok P T) (hm:P.follows .mixedOrders=true) {Tk:Tk} {G0:Gh} {w0:World}:∀(c:Code) (an:Nt) (s:TSt T.den) (Q:Exit->TSt T.den->Prop),Tk.nx<=s.nx->WQ T C N c an s Q->Sat P Tk G0 w0 N c (erS T s) (QX s Q):=by
 intro c;induction c with
 |skip=>intro an s Q _ h;exact kke (QX.mk (Xt.refl s) (by simpa[WQ]using h))
 |region id ops dr=>
  intro an s Q _ h;obtain⟨l⟩:=ops;have h:regW T C N ⟨l⟩ dr s (Q .normal):=by simpa[WQ]using h
  cases dr with
  |false=>intro G a w hR;exact wp_region_lit (k65 hT hC l (Q .normal) s s a G w (Xt.refl s) hR h fun s' a' G' w' hk hx hR' =>⟨erS T s',G',QX.mk hx hk,hR'⟩)
  |true=>unfold regW at h;obtain⟨h1,h2⟩:=cnd h;rw[qg]at h1;refine kgc C.S hm (noIt_er h1.2) h1.1 fun K hK=> ?_;have hx:Xt s ⟨s.sl,s.h,s.nx+l.length*C.S⟩:=⟨⟨[],rfl⟩,⟨[],rfl⟩,qef _ _⟩;exact k58 (K:=KE fun t=>Q .normal t/\Xt s t) (fun a b he ⟨t,q1,q2⟩=>hK a ⟨t,q1,he.wk.trans q2⟩) (closeOps l) _ _ _ _ _ (Eqv.refl _) (k4c hT hC (s0:=s) (closeOps l) _ _ _ _ hx h2)
 |seq x y ihx ihy=>
  intro an s Q hn h
  have plain:∀(ga gb:List Gs) (a b:Nt),(ghs T ga s fun s=>WQ T C N x a s (thenT T (fun s' =>ghs T gb s' fun s' =>WQ T C N y b s' Q) Q))->Sat P Tk G0 w0 N (.seq x y) (erS T s) (QX s Q):=by
   intro ga gb a b h1;refine sat_ghX hT h1 fun s' hs' hx=>sat_seq (ky (ihx a s' _ (qbk hn hx.2.2) hs') fun e s1 hq=> ?_);obtain⟨t,⟨q1,q2⟩,q3⟩:=hq;cases e with
   |normal=>exact sat_lk q3.lk (sat_ghX hT q1 fun s2 hs2 hx2=>ky (ihy b s2 Q (qbk hn ((hx.trans q2).trans hx2).2.2) hs2) fun _ _=>QX.of ((hx.trans q2).trans hx2))
   |_=>exact⟨t,⟨q1,hx.trans q2⟩,q3⟩
  cases an with
  |jn d ga a gb b=>
   have h:ghs T ga s fun s=>∀J:Ar T.den d.hs Prop,alH d.hs (fun i=>(ghs T gb (d.fill T s i) fun s' =>WQ T C N y b s' Q)->apA d.hs J i)->WQ T C N x a s (thenT T (fun s1=>d.mat T s s1 (apA d.hs J)) Q):=by simpa only[WQ]using h
   refine sat_ghX hT h fun s' hs' hx=> ?_;have hn' :=qbk hn hx.2.2;intro G ac w hR;have hg:=gd_of hR
   have h1:=hs' (cuA d.hs fun i=>Sat P Tk G0 w0 N y (erS T (d.fill T s' i)) (QX s Q)) (alH_iff.2 fun i hi=>by
    rw[ap_cu];exact sat_ghX hT hi fun s2 hs2 hx2=>ky (ihy b s2 Q (qbk hn' (fill_X.trans hx2).2.2) hs2) fun _ _=>QX.of (hx.trans (fill_X.trans hx2)))
   refine sat_seq (ky (ihx a s' _ hn' h1) fun e s1 hq=> ?_) G ac w hR;obtain⟨t,⟨q1,q2⟩,q3⟩:=hq;cases e with
   |normal=>obtain⟨i,k1,k2⟩:=kc3 hT q2 hg hn' q1;rw[ap_cu]at k1;exact sat_lk (q3.lk.trans k2) k1
   |_=>exact⟨t,⟨q1,hx.trans q2⟩,q3⟩
  |no=>simp only[WQ]at h;exact plain _ _ _ _ h
  |r n b=>simp only[WQ]at h;exact plain _ _ _ _ h
  |nd ga a gb b=>simp only[WQ]at h;exact plain _ _ _ _ h
  |lp g d a=>simp only[WQ]at h;exact plain _ _ _ _ h
  |rt g=>simp only[WQ]at h;exact plain _ _ _ _ h
 |cond c x y ihx ihy=>
  intro an s Q hn h;simp only[WQ]at h;split at h
  ·rename_i hv;exact kh7 (by rw[ev_er,hv];rfl) (sat_ghX hT h fun s' hs' hx=>ky (ihx _ s' Q (qbk hn hx.2.2) hs') fun _ _=>QX.of hx)
  ·rename_i hv;exact kgl (by rw[ev_er,hv];rfl) (sat_ghX hT h fun s' hs' hx=>ky (ihy _ s' Q (qbk hn hx.2.2) hs') fun _ _=>QX.of hx)
  ·rename_i t hv;exact k8d (t:=t) (by rw[ev_er,hv];rfl) (fun ht=>sat_ghX hT (h.1 ht) fun s' hs' hx=>ky (ihx _ s' Q (qbk hn hx.2.2) hs') fun _ _=>QX.of hx) (fun ht=>sat_ghX hT (h.2 ht) fun s' hs' hx=>ky (ihy _ s' Q (qbk hn hx.2.2) hs') fun _ _=>QX.of hx)
  ·exact h.elim
 |block id x ih=>
  intro an s Q hn h;simp only[WQ]at h;refine kgd (ky (ih an s _ hn h) fun e s1 hq=> ?_);obtain⟨t,⟨q1,q2⟩,q3⟩:=hq;cases e with
  |exit id' =>
   simp only[blockT]at q1;simp only[blockA];by_cases hi:id' =id
   ·rw[qh hi];rw[hi,nb_self]at q1;exact⟨t,⟨q1,q2⟩,q3⟩
   ·rw[qe hi];rw[nb_ne hi]at q1;exact⟨t,⟨q1,q2⟩,q3⟩
  |_=>exact⟨t,⟨q1,q2⟩,q3⟩
 |loop x ih=>
  intro an s Q hn h;cases an with
  |lp g d a=>
   simp only[WQ]at h;refine sat_ghX hT h fun s' hs' hx=> ?_;have hn' :=qbk hn hx.2.2;intro G ac w hR;have hg:=gd_of hR;obtain⟨i,⟨inv,μ,k0,k1⟩,k2⟩:=kc3 hT (Xt.refl s') hg hn' hs';refine kgx (fun i=>erS T (d.fill T s' i)) (apA d.hs inv) (apA d.hs μ) i k0 k2 (fun i hi=> ?_) G ac w hR;refine ky (ih _ _ _ (qbk hn' fill_X.2.2) (alH_iff.1 k1 i hi)) fun e s1 hq=> ?_;obtain⟨t,⟨q1,q2⟩,q3⟩:=hq;cases e with
   |normal=>obtain⟨i',⟨m1,m2⟩,m3⟩:=kc3 hT (fill_X.trans q2) hg hn' q1;exact⟨i',m1,m2,q3.lk.trans m3⟩
   |_=>exact⟨t,⟨q1,hx.trans (fill_X.trans q2)⟩,q3⟩
  |_=>simp only[WQ]at h
 |exit id=>intro an s Q _ h;simp only[WQ]at h;exact kkr (QX.mk (Xt.refl s) h)
 |ret=>intro an s Q _ h;simp only[WQ]at h;exact sat_ghX hT h fun s' hs' hx=>sat_ret (QX.mk hx hs')
 |label l=>intro an s Q _ h;simp only[WQ]at h;exact kg9 (QX.mk (Xt.refl s) h)
 |_=>intro an s Q _ h;simp only[WQ]at h
theorem Con.soundQ (hT:T.Ok) (hC:C.Ok P T) (hm:P.follows .mixedOrders=true) {c:Con T.den} {fn:Func} {code:Code} (hf:P.funcs[c.f]? =some fn) (hb:fn.body=some code) (hl:Nat.ble c.ins.length fn.ntmps=true)
  {x:HL T.den (hsT c.ins (hsOs c.pre))} {o:HL T.den (hsV c.res (hsOs c.post))} {an:Nt} (hW:WQ T C fn.ntmps code an (c.st T x) (retTQ T C c fn.results.toList o)):
  SoundH P c.f ((c.args idf x).map (er T)) ((c.obs idf x).map (erO T)) (er T (c.val idf o)) ((c.ops idf o).map (erO T)):=by
 have hpl:((c.obs idf x).map (erO T)).length=c.pre.length:=by rw[qm];unfold Con.obs;rw[tkC_len]
 have hal:((c.args idf x).map (er T)).length=c.ins.length:=by rw[qm];unfold Con.args;rw[tkT_len]
 refine kio hf hb rfl (by rw[hal];exact ble_le hl) fun G0 w0=> ?_;have e:erS T (c.st T x)=⟨initSl 0 ((c.args idf x).map (er T)),hpOf 0 ((c.obs idf x).map (erO T)),((c.obs idf x).map (erO T)).length⟩:=by rw[hpl];show St.mk _ _ _=_;unfold Con.st;rw[kcz,hpN_idf]
 rw[<-e];refine kjk (kpr hT hC hm code an _ _ (qey hpl) hW) fun ex s1 hq=> ?_;obtain⟨t,⟨q1,_⟩,q2⟩:=hq;refine⟨erS T t,?_,q2.lk⟩;cases ex with
 |normal=>have:=k7g hT hC (s:=t) q1;rw[<-hpl]at this;exact this
 |ret=>have:=k7g hT hC (s:=t) q1;rw[<-hpl]at this;exact this
 |_=>exact q1
end
end Go.Cv
namespace Go.Cv
open Go Go.Bv Go.RowKit Go.Md
theorem mpr_of {A B:Prop} (e:A=B) (h:B):A:=e.mpr h
section
variable {S:Nat->Type}
end
def flAll (F:Nat->Option (Nat×Bool×Nat)):Nat->List (Nat×Bool×Nat)->Prop
 |_,[]=>True
 |k,q::r=>F k=some q/\flAll F (k+1) r
theorem kh6 {F:Nat->Option (Nat×Bool×Nat)}:∀{l:List (Nat×Bool×Nat)} {k:Nat},flAll F k l->∀i q,l[i]? =some q->F (k+i)=some q
 |[],_,_,i,q,h=>by simp at h
 |p::r,k,ha,i,q,h=>by
  cases i with
  |zero=>simp at h;subst h;exact ha.1
  |succ i=>rw[show k+(i+1)=k+1+i by omega];exact kh6 ha.2 i q qqh
theorem kf {P:Program} {t:TypeId} {l:List (Nat×Bool×Nat)} (h:flAll (fldOf P t) 0 l) (f:Nat) (q:Nat×Bool×Nat) (hq:l[f]? =some q):fldOf P t f=some q:=by have:=kh6 h f q hq;simpa using this
section
variable {T:Tab} {P:Program}
theorem all_cons {α:Type} {p:α->Prop} {a:α} {l:List α} (h:p a) (h' :∀c∈l,p c):∀c∈a::l,p c:=fun c hc=>by
 rcases qam.1 hc with rfl|hc
 ·exact h
 ·exact h' c hc
theorem kc {P:Program} {T:Tab}:InfoOk P T .lf:=fun _ _ h=>by cases h
theorem find_nd {P:Program} {T:Tab} {l r:BT (TI T.den)} {k:Nat} {v:TI T.den} (hv:TI.Ok P T k v) (hl:InfoOk P T l) (hr:InfoOk P T r):InfoOk P T (.nd l k v r):=fun t x h=>by
 unfold BT.find at h;cases h1:Nat.beq t k with
 |true=>rw[h1]at h;have:=nb_eq h1;subst this;injection h with h;subst h;exact hv
 |false=>
  rw[h1]at h;cases h2:Nat.ble t k with
  |true=>rw[h2]at h;exact hl t x h
  |false=>rw[h2]at h;exact hr t x h
end
end Go.Cv
namespace Go.Cv
open Go Go.Bv Go.RowKit Go.Md
section
variable {S:Nat->Type}
def apH:(a:List Ty)->{b:List Ty}->HL S a->HL S b->HL S (a++b)
 |[],_,_,y=>y
 |_::r,_,x,y=>(x.1,apH r x.2 y)
def spA:(a:List Ty)->{b:List Ty}->HL S (a++b)->HL S a
 |[],_,_=>()
 |_::r,_,x=>(x.1,spA r x.2)
def spB:(a:List Ty)->{b:List Ty}->HL S (a++b)->HL S b
 |[],_,x=>x
 |_::r,_,x=>spB r x.2
theorem ap_sp:∀(a:List Ty) {b:List Ty} (x:HL S (a++b)),apH a (spA a x) (spB a x)=x
 |[],_,_=>rfl
 |_::r,_,x=>congrArg (fun z=>(x.1,z)) (ap_sp r x.2)
def cst {a b:List Ty} (h:a=b) (x:HL S b):HL S a:=h▸x
theorem cst_cst {a b:List Ty} (h:a=b) (x:HL S b):cst h.symm (cst h x)=x:=by subst h;rfl
def cnj:List Prop->Prop
 |[]=>True
 |[a]=>a
 |a::b::r=>a/\cnj (b::r)
def eqs:List Prop->Prop->Prop
 |[],K=>K
 |a::l,K=>cnj (a::l)->K
def alM:List Bool->(ts:List Ty)->HL S ts->(HL S ts->List Prop->Prop)->Prop
 |true::m,t::r,x,K=>∀v:t.den S,alM m r x.2 fun y l=>K (v,y) ((v=x.1)::l)
 |false::m,t::r,x,K=>alM m r x.2 fun y l=>K (x.1,y) l
 |_,_,x,K=>K x []
def alE:(ts:List Ty)->HL S ts->(HL S ts->Prop)->Prop
 |t::r,x,K=>∀v:t.den S,x.1=v->alE r x.2 fun y=>K (v,y)
 |[],x,K=>K x
theorem cnj_of:∀{l:List Prop},(∀p∈l,p)->cnj l
 |[],_=>trivial
 |[_],h=>h _ (List.mem_singleton_self _)
 |_::b::r,h=>⟨h _ (qfb ..),cnj_of (l:=b::r) fun p hp=>h p (qes _ hp)⟩
theorem alM_at:∀{m:List Bool} {ts:List Ty} {x:HL S ts} {K:HL S ts->List Prop->Prop},alM m ts x K->∃l,K x l/\∀p∈l,p
 |[],[],_,_,h=>⟨_,h,fun _ hp=>by cases hp⟩
 |[],_::_,_,_,h=>⟨_,h,fun _ hp=>by cases hp⟩
 |true::_,[],_,_,h=>⟨_,h,fun _ hp=>by cases hp⟩
 |false::_,[],_,_,h=>⟨_,h,fun _ hp=>by cases hp⟩
 |true::m,_::r,x,_,h=>by
  obtain⟨l,h1,h2⟩:=alM_at (m:=m) (ts:=r) (h x.1);refine⟨_,h1,fun p hp=> ?_⟩;rcases qam.1 hp with rfl|hp
  ·rfl
  ·exact h2 p hp
 |false::m,_::r,_,_,h=>alM_at (m:=m) (ts:=r) h
theorem eqs_at {l:List Prop} {K:Prop} (h:eqs l K) (hl:∀p∈l,p):K:=by
 cases l with
 |nil=>exact h
 |cons a l=>exact h (cnj_of hl)
theorem alE_at:∀{ts:List Ty} {x:HL S ts} {K:HL S ts->Prop},alE ts x K->K x
 |[],_,_,h=>h
 |_::r,x,_,h=>alE_at (ts:=r) (h x.1 rfl)
end
section
variable (T:Tab)
def flT:List Ty->List Ty
 |[]=>[]
 | .st n::r=>T.tys n++flT r
 | .int k::r=> .int k::flT r
 | .bool::r=> .bool::flT r
 | .str::r=> .str::flT r
 | .sl e::r=> .sl e::flT r
def flH:(ts:List Ty)->HL T.den ts->HL T.den (flT T ts)
 |[],_=>()
 | .st n::r,x=>apH (T.tys n) (T.cells n x.1) (flH r x.2)
 | .int _::r,x=>(x.1,flH r x.2)
 | .bool::r,x=>(x.1,flH r x.2)
 | .str::r,x=>(x.1,flH r x.2)
 | .sl _::r,x=>(x.1,flH r x.2)
def unH:(ts:List Ty)->HL T.den (flT T ts)->HL T.den ts
 |[],_=>()
 | .st n::r,x=>(T.pack n (spA (T.tys n) x),unH r (spB (T.tys n) x))
 | .int _::r,x=>(x.1,unH r x.2)
 | .bool::r,x=>(x.1,unH r x.2)
 | .str::r,x=>(x.1,unH r x.2)
 | .sl _::r,x=>(x.1,unH r x.2)
theorem fl_un (hT:T.Ok):∀(ts:List Ty) (x:HL T.den (flT T ts)),flH T ts (unH T ts x)=x
 |[],_=>rfl
 | .st n::r,x=>by show apH (T.tys n) (T.cells n (T.pack n (spA (T.tys n) x))) (flH T r (unH T r (spB (T.tys n) x)))=x;rw[hT.pc,fl_un hT r];exact ap_sp _ _
 | .int _::r,x=>congrArg (fun z=>(x.1,z)) (fl_un hT r x.2)
 | .bool::r,x=>congrArg (fun z=>(x.1,z)) (fl_un hT r x.2)
 | .str::r,x=>congrArg (fun z=>(x.1,z)) (fl_un hT r x.2)
 | .sl _::r,x=>congrArg (fun z=>(x.1,z)) (fl_un hT r x.2)
end
structure Shp where
 f:Nat
 ins:List Sh0
 pre:List OSh
 res:Sh
 post:List OSh
 alt:Bool:=false
abbrev gk (f:Nat) (i:List Sh0) (h:List OSh) (r:Sh):Shp:=⟨f,i,h,r,h,false⟩
abbrev Shp.I (c:Shp):List Ty:=hsT c.ins (hsOs c.pre)
abbrev Shp.O (c:Shp):List Ty:=hsV c.res (hsOs c.post)
def Shp.c {S:Nat->Type} (c:Shp) (R:HL S c.I->(HL S c.O->Prop)->Prop):Con S:=⟨c.f,c.ins,c.pre,c.res,c.post,R,c.alt⟩
def Con.g {T:Tab} (c:Shp) (pk qk:List Ty) (m:List Bool) (sp:Ar T.den pk (Prop×HL T.den qk)) (h:flT T pk=c.I:=by kernel_rfl) (h' :flT T qk=c.O:=by kernel_rfl):Con T.den:=c.c fun x K=>(apA pk sp (unH T pk (cst h x))).1/\alM m qk (apA pk sp (unH T pk (cst h x))).2 fun o l=>eqs l (K (cst h'.symm (flH T qk o)))
def Con.t {T:Tab} (c:Shp) (pk qk:List Ty) (m:List Bool) (sp:Ar T.den pk (HL T.den qk)) (h:flT T pk=c.I:=by kernel_rfl) (h' :flT T qk=c.O:=by kernel_rfl):Con T.den:=c.c fun x K=>alM m qk (apA pk sp (unH T pk (cst h x))) fun o l=>eqs l (K (cst h'.symm (flH T qk o)))
def dS (T:Tab):Ty->Sh0
 | .st n=> .agg ((T.tys n).map .d)
 |t=> .one (.d t)
def dV (T:Tab):List Ty->Sh
 |[t]=> .one (dS T t)
 |l=> .tup (l.map (dS T))
def Shp.p (T:Tab) (f:Nat) (pk qk:List Ty):Shp:=⟨f,pk.map (dS T),[],dV T qk,[],false⟩
def NoGo (fn:Func):Bool:=decide (fn.name≠ "runtime.NumGoroutine")
structure Base (P:Program) (T:Tab) (I:BT (TI T.den)):Prop where
 tb:T.Ok
 ti:InfoOk P T I
 mix:P.follows .mixedOrders=true
def AllC (P:Program) (T:Tab) (l:List (Con T.den)):Prop:=∀c∈l,c.Ok P T
def AllX (P:Program) (T:Tab) (l:List (XCon T.den)):Prop:=∀c∈l,c.Ok P T
section
variable {P:Program} {T:Tab}
theorem c0:AllC P T []:=fun _ h=>by cases h
theorem x0:AllX P T []:=fun _ h=>by cases h
theorem Con.Ok.c {c:Con T.den} {l:List (Con T.den)} (h:c.Ok P T) (h' :AllC P T l):AllC P T (c::l):=all_cons h h'
theorem x1 {c:XCon T.den} {l:List (XCon T.den)} (h:c.Ok P T) (h' :AllX P T l):AllX P T (c::l):=all_cons h h'
theorem callable {f:Nat} {fn:Func} {code:Code} (hf:P.funcs[f]? =some fn) (hb:fn.body=some code) (hg:NoGo fn=true):Callable P f:=by refine⟨by rw[hf];simp[hb],?_⟩;rw[hf];intro h;simp only[qax,qah]at h;exact qb hg h
def obF (C:Cx T) (fn:Func) (an:Nt) (k:Con T.den) (pk qk:List Ty) (h:flT T pk=hsT k.ins (hsOs k.pre)) (h' :flT T qk=hsV k.res (hsOs k.post)) (sp:HL T.den pk->(HL T.den qk->Prop)->Prop):Prop:=match fn.body with
 | some code=>bif NoGo fn&&Nat.ble k.ins.length fn.ntmps then
   alH pk fun y=>sp y fun o=>WQ T C fn.ntmps code an (k.st T (cst h.symm (flH T pk y))) (retTQ T C k fn.results.toList (cst h'.symm (flH T qk o)))
  else False
 |none=>False
theorem obF_ok {I:BT (TI T.den)} (B:Base P T I) {cs:List (Con T.den)} {xs:List (XCon T.den)} {z:Nat} {rw:List Nat} {fn:Func} {an:Nt} {k:Con T.den} {pk qk:List Ty} {h:flT T pk=hsT k.ins (hsOs k.pre)} {h' :flT T qk=hsV k.res (hsOs k.post)} {sp:HL T.den pk->(HL T.den qk->Prop)->Prop}
  (hf:P.funcs[k.f]? =some fn) (hcs:AllC P T cs) (hxs:AllX P T xs) (q:obF ⟨I,cs,xs,z,rw⟩ fn an k pk qk h h' sp)
  (hR:∀x K,k.R x K->∀L,sp (unH T pk (cst h x)) L->∃o,K (cst h'.symm (flH T qk o))/\L o):k.Ok P T:=by
 unfold obF at q;split at q
 ·rename_i code hb;obtain⟨q1,q2⟩:=cnd q;rw[qg]at q1;refine⟨callable hf hb q1.1,fun x K hx=> ?_⟩;obtain⟨o,h1,h2⟩:=hR x K hx _ (alH_iff.1 q2 (unH T pk (cst h x)));have e:cst h.symm (flH T pk (unH T pk (cst h x)))=x:=by rw[fl_un T B.tb];exact cst_cst h x
  rw[e]at h2;exact⟨_,h1,Con.soundQ (C:=⟨I,cs,xs,z,rw⟩) B.tb ⟨B.ti,hcs,hxs⟩ B.mix hf hb q1.2 h2⟩
 ·exact q.elim
variable {I:BT (TI T.den)} {cs:List (Con T.den)} {xs:List (XCon T.den)} {rw:List Nat} {fn:Func} {an:Nt} {c:Shp} {pk qk:List Ty} {m:List Bool} {h:flT T pk=c.I} {h' :flT T qk=c.O} {Q:Prop}
theorem prx (B:Base P T I) (rw:List Nat) {sp:Ar T.den pk (Prop×HL T.den qk)} (hf:P.funcs[c.f]? =some fn) (an:Nt) (hxs:AllX P T xs) (hcs:AllC P T cs)
  (q:Q) (e:obF ⟨I,cs,xs,16,rw⟩ fn an (Con.g c pk qk m sp h h') pk qk h h' (fun y L=>(apA pk sp y).1->alE qk (apA pk sp y).2 L)=Q:=by kernel_rfl):(Con.g c pk qk m sp h h').Ok P T:=
 obF_ok B hf hcs hxs (e.mpr q) fun _ _ hx _ hL=>let⟨_,h1,h2⟩:=alM_at hx.2;⟨_,eqs_at h1 h2,alE_at (hL hx.1)⟩
theorem ptx (B:Base P T I) (rw:List Nat) {sp:Ar T.den pk (HL T.den qk)} (hf:P.funcs[c.f]? =some fn) (an:Nt) (hxs:AllX P T xs) (hcs:AllC P T cs)
  (q:Q) (e:obF ⟨I,cs,xs,16,rw⟩ fn an (Con.t c pk qk m sp h h') pk qk h h' (fun y L=>alE qk (apA pk sp y) L)=Q:=by kernel_rfl):(Con.t c pk qk m sp h h').Ok P T:=
 obF_ok B hf hcs hxs (e.mpr q) fun _ _ hx _ hL=>let⟨_,h1,h2⟩:=alM_at hx;⟨_,eqs_at h1 h2,alE_at hL⟩
theorem prv (B:Base P T I) {sp:Ar T.den pk (Prop×HL T.den qk)} (hf:P.funcs[c.f]? =some fn) (an:Nt) (hcs:AllC P T cs)
  (q:Q) (e:obF ⟨I,cs,[],16,[]⟩ fn an (Con.g c pk qk m sp h h') pk qk h h' (fun y L=>(apA pk sp y).1->alE qk (apA pk sp y).2 L)=Q:=by kernel_rfl):(Con.g c pk qk m sp h h').Ok P T:=prx B [] hf an x0 hcs q e
theorem ptv (B:Base P T I) {sp:Ar T.den pk (HL T.den qk)} (hf:P.funcs[c.f]? =some fn) (an:Nt) (hcs:AllC P T cs)
  (q:Q) (e:obF ⟨I,cs,[],16,[]⟩ fn an (Con.t c pk qk m sp h h') pk qk h h' (fun y L=>alE qk (apA pk sp y) L)=Q:=by kernel_rfl):(Con.t c pk qk m sp h h').Ok P T:=ptx B [] hf an x0 hcs q e
theorem cal {f:Nat} (hf:P.funcs[f]? =some fn) (h:(fn.body.isSome&&NoGo fn)=true):Callable P f:=by rw[qg,qab]at h;obtain⟨⟨_,h1⟩,h2⟩:=h;exact callable hf h1 h2
def reS (pk qk:List Ty) (sp:Ar T.den pk (Prop×HL T.den qk)) (μ:Ar T.den pk Nat) (rn:Nat):Ar T.den pk (Prop×HL T.den qk):=cuA pk fun y=>((apA pk sp y).1/\apA pk μ y<rn,(apA pk sp y).2)
theorem rec_ok {sp:Ar T.den pk (Prop×HL T.den qk)} {μ:Ar T.den pk Nat} (cl:Callable P c.f) (st:∀rn,(Con.g c pk qk m (reS pk qk sp μ rn) h h').Ok P T->(Con.g c pk qk m (reS pk qk sp μ (rn+1)) h h').Ok P T):(Con.g c pk qk m sp h h').Ok P T:=by
 have all:∀rn,(Con.g c pk qk m (reS pk qk sp μ rn) h h').Ok P T:=by
  intro rn;induction rn with
  |zero=>refine⟨cl,fun x K hx=> ?_⟩;have hx:_/\_:=hx;rw[reS,ap_cu]at hx;exact absurd hx.1.2 (Nat.not_lt_zero _)
  |succ rn ih=>exact st rn ih
 refine⟨cl,fun x K hx=>(all (apA pk μ (unH T pk (cst h x))+1)).snd x K ?_⟩;show _/\_;rw[reS,ap_cu];exact⟨⟨hx.1,Nat.lt_succ_self _⟩,hx.2⟩
theorem hsL_d:∀(l r:List Ty),hsL (l.map .d) r=l++r
 |[],_=>rfl
 |t::l,r=>congrArg (t::·) (hsL_d l r)
theorem hs0_d (t:Ty) (r:List Ty):hs0 (dS T t) r=flT T [t]++r:=by
 cases t with
 |st n=>show hsL ((T.tys n).map .d) r=(T.tys n++[])++r;rw[hsL_d,qcu]
 |_=>rfl
theorem koa (t:Ty) (r:List Ty):flT T (t::r)=flT T [t]++flT T r:=by
 cases t with
 |st n=>show T.tys n++flT T r=(T.tys n++[])++flT T r;rw[qcu]
 |_=>rfl
theorem hsT_d:∀(l:List Ty),flT T l=hsT (l.map (dS T)) []
 |[]=>rfl
 |t::l=>by rw[koa,hsT_d l];exact(hs0_d t _).symm
theorem hsV_d:∀(l:List Ty),flT T l=hsV (dV T l) []
 |[]=>rfl
 |[t]=>by show _=hs0 (dS T t) [];rw[hs0_d,qcu]
 |t::u::l=>hsT_d (t::u::l)
def Con.gp {T:Tab} (f:Nat) (pk qk:List Ty) (m:List Bool) (sp:Ar T.den pk (Prop×HL T.den qk)):Con T.den:=Con.g (.p T f pk qk) pk qk m sp (hsT_d pk) (hsV_d qk)
def Con.tp {T:Tab} (f:Nat) (pk qk:List Ty) (m:List Bool) (sp:Ar T.den pk (HL T.den qk)):Con T.den:=Con.t (.p T f pk qk) pk qk m sp (hsT_d pk) (hsV_d qk)
section
variable {f:Nat}
theorem qrx (B:Base P T I) (rw:List Nat) {sp:Ar T.den pk (Prop×HL T.den qk)} (hf:P.funcs[f]? =some fn) (an:Nt) (hxs:AllX P T xs) (hcs:AllC P T cs)
  (q:Q) (e:obF ⟨I,cs,xs,16,rw⟩ fn an (Con.gp f pk qk m sp) pk qk (hsT_d pk) (hsV_d qk) (fun y L=>(apA pk sp y).1->alE qk (apA pk sp y).2 L)=Q:=by kernel_rfl):(Con.gp f pk qk m sp).Ok P T:=prx (c:= .p T f pk qk) (h:=hsT_d pk) (h' :=hsV_d qk) B rw hf an hxs hcs q e
theorem qtx (B:Base P T I) (rw:List Nat) {sp:Ar T.den pk (HL T.den qk)} (hf:P.funcs[f]? =some fn) (an:Nt) (hxs:AllX P T xs) (hcs:AllC P T cs)
  (q:Q) (e:obF ⟨I,cs,xs,16,rw⟩ fn an (Con.tp f pk qk m sp) pk qk (hsT_d pk) (hsV_d qk) (fun y L=>alE qk (apA pk sp y) L)=Q:=by kernel_rfl):(Con.tp f pk qk m sp).Ok P T:=ptx (c:= .p T f pk qk) (h:=hsT_d pk) (h' :=hsV_d qk) B rw hf an hxs hcs q e
theorem qrv (B:Base P T I) {sp:Ar T.den pk (Prop×HL T.den qk)} (hf:P.funcs[f]? =some fn) (an:Nt) (hcs:AllC P T cs)
  (q:Q) (e:obF ⟨I,cs,[],16,[]⟩ fn an (Con.gp f pk qk m sp) pk qk (hsT_d pk) (hsV_d qk) (fun y L=>(apA pk sp y).1->alE qk (apA pk sp y).2 L)=Q:=by kernel_rfl):(Con.gp f pk qk m sp).Ok P T:=qrx B [] hf an x0 hcs q e
theorem qtv (B:Base P T I) {sp:Ar T.den pk (HL T.den qk)} (hf:P.funcs[f]? =some fn) (an:Nt) (hcs:AllC P T cs)
  (q:Q) (e:obF ⟨I,cs,[],16,[]⟩ fn an (Con.tp f pk qk m sp) pk qk (hsT_d pk) (hsV_d qk) (fun y L=>alE qk (apA pk sp y) L)=Q:=by kernel_rfl):(Con.tp f pk qk m sp).Ok P T:=qtx B [] hf an x0 hcs q e
end
def Con.b {T:Tab} (c:Shp) (pk qk:List Ty) {B:Type} (sp:Ar T.den pk (Prop×B×(B->HL T.den qk))) (h:flT T pk=c.I:=by kernel_rfl) (h' :flT T qk=c.O:=by kernel_rfl):Con T.den:=c.c fun x K=>(apA pk sp (unH T pk (cst h x))).1/\K (cst h'.symm (flH T qk ((apA pk sp (unH T pk (cst h x))).2.2 (apA pk sp (unH T pk (cst h x))).2.1)))
def Con.bp {T:Tab} (f:Nat) (pk qk:List Ty) {B:Type} (sp:Ar T.den pk (Prop×B×(B->HL T.den qk))):Con T.den:=Con.b (.p T f pk qk) pk qk sp (hsT_d pk) (hsV_d qk)
section
variable {f:Nat} {B' :Type} {sp:Ar T.den pk (Prop×B'×(B'->HL T.den qk))}
theorem pbx (B:Base P T I) (rw:List Nat) (hf:P.funcs[c.f]? =some fn) (an:Nt) (hxs:AllX P T xs) (hcs:AllC P T cs)
  (q:Q) (e:obF ⟨I,cs,xs,16,rw⟩ fn an (Con.b c pk qk sp h h') pk qk h h' (fun y L=>(apA pk sp y).1->∀R,(apA pk sp y).2.1=R->L ((apA pk sp y).2.2 R))=Q:=by kernel_rfl):(Con.b c pk qk sp h h').Ok P T:=
 obF_ok B hf hcs hxs (e.mpr q) fun _ _ hx _ hL=>⟨_,hx.2,hL hx.1 _ rfl⟩
theorem pbv (B:Base P T I) (hf:P.funcs[c.f]? =some fn) (an:Nt) (hcs:AllC P T cs)
  (q:Q) (e:obF ⟨I,cs,[],16,[]⟩ fn an (Con.b c pk qk sp h h') pk qk h h' (fun y L=>(apA pk sp y).1->∀R,(apA pk sp y).2.1=R->L ((apA pk sp y).2.2 R))=Q:=by kernel_rfl):(Con.b c pk qk sp h h').Ok P T:=pbx B [] hf an x0 hcs q e
theorem qbx (B:Base P T I) (rw:List Nat) (hf:P.funcs[f]? =some fn) (an:Nt) (hxs:AllX P T xs) (hcs:AllC P T cs)
  (q:Q) (e:obF ⟨I,cs,xs,16,rw⟩ fn an (Con.bp f pk qk sp) pk qk (hsT_d pk) (hsV_d qk) (fun y L=>(apA pk sp y).1->∀R,(apA pk sp y).2.1=R->L ((apA pk sp y).2.2 R))=Q:=by kernel_rfl):(Con.bp f pk qk sp).Ok P T:=pbx (c:= .p T f pk qk) (h:=hsT_d pk) (h' :=hsV_d qk) B rw hf an hxs hcs q e
theorem qbv (B:Base P T I) (hf:P.funcs[f]? =some fn) (an:Nt) (hcs:AllC P T cs)
  (q:Q) (e:obF ⟨I,cs,[],16,[]⟩ fn an (Con.bp f pk qk sp) pk qk (hsT_d pk) (hsV_d qk) (fun y L=>(apA pk sp y).1->∀R,(apA pk sp y).2.1=R->L ((apA pk sp y).2.2 R))=Q:=by kernel_rfl):(Con.bp f pk qk sp).Ok P T:=qbx B [] hf an x0 hcs q e
end
end
end Go.Cv
namespace Go.Proofs.YtcghahkoioeddaaGreatDoor
open Go Go.Bv Go.Cv Go.Md Go.RowKit
open Go.IntKind (i64 u64)
structure wB where
 wX:Int
 wC:Int
 wN:Int
 wM:Int
 wJ:Int
 wS:Int
 wV:Int
 wO:Int
 wR:Int
 deriving Inhabited,DecidableEq
structure wAA where
 we:Int
 wAG:Int
 wAB:Int
 wm:List Int
 deriving Inhabited,DecidableEq
structure wa where
 wg:Int
 wL:List Int
 wE:List wAA
 wP:Int
 wT:Int
 Fee:Int
 wW:Int
 wU:Int
 wAE:Int
 ww:List Int
 deriving Inhabited,DecidableEq
structure wI where
 wd:Int
 wQ:Int
 wAF:Int
 wR:Int
 wU:Int
 Txs:List wa
 deriving Inhabited,DecidableEq
structure wH where
 wBX:Int
 wBW:List Int
 wBE:Int
 deriving Inhabited,DecidableEq
structure wz where
 wAV:Int
 wAI:Int
 wAU:Int
 deriving Inhabited,DecidableEq
structure wD where
 wC:Int
 wZ:Int
 wc:List Int
 deriving Inhabited,DecidableEq
structure wo where
 P:Int
 deriving Inhabited,DecidableEq
structure wAD where
 a0:Int
 a1:Int
 a2:Int
 deriving Inhabited,DecidableEq
structure wA where
 ID:Int
 wY:Int
 wU:Int
 deriving Inhabited,DecidableEq
structure wG where
 wAY:Int
 wAZ:Int
 wAe:List Int
 leaves:Int
 marks:List Int
 wAS:List wA
 hidden:Int
 deriving Inhabited,DecidableEq
structure wK where
 wAH:Int
 wAC:Int
 wAM:Int
 wAP:Int
 wAN:Int
 wAT:List wa
 work:Int
 deriving Inhabited,DecidableEq
structure wAx where
 a0:Int
 a1:Int
 deriving Inhabited,DecidableEq
structure wx where
 wC:Int
 wg:Int
 wL:List Int
 wn:List Int
 wAK:List Int
 wP:Int
 wT:Int
 Fee:Int
 wW:Int
 wAj:Int
 deriving Inhabited,DecidableEq
structure wv where
 wAJ:Int
 wAW:Int
 wAQ:Int
 wAa:Int
 Key:Int
 wAO:Int
 wy:Int
 wAR:List Int
 wAq:Bool
 deriving Inhabited,DecidableEq
structure wh where
 Value:Int
 wAX:Int
 Rho:Int
 wAc:Int
 deriving Inhabited,DecidableEq
structure wt where
 Ins:List wv
 wE:List wh
 wAL:Int
 deriving Inhabited,DecidableEq
structure wl where
 wF:List wA
 deriving Inhabited,DecidableEq
structure wAi where
 wAy:Int
 wAp:Int
 wAf:Int
 wAd:Int
 wAb:Int
 wAl:Int
 wAk:Int
 wAg:Int
 wAz:Int
 L:List wI
 deriving Inhabited,DecidableEq
structure wBC where
 root:Int
 leaves:Int
 deriving Inhabited,DecidableEq
structure wAv where
 wBa:Int
 wQ:Int
 Tx:Int
 wBQ:Int
 wBM:List Int
 wBG:Int
 wBP:Int
 wBK:List Int
 wBF:Int
 deriving Inhabited,DecidableEq
structure wAo where
 wBY:Int
 wBZ:Int
 wBB:Int
 wBO:Int
 wBT:Int
 wBD:Int
 wBA:Int
 wBH:Int
 wAu:Int
 wAs:List Int
 wAm:Int
 wAr:Int
 wAt:List Int
 wAn:Int
 deriving Inhabited,DecidableEq
structure wAh where
 Key:Int
 wU:Int
 wBV:List Int
 wBS:List Int
 deriving Inhabited,DecidableEq
structure wAw where
 wBU:Bool
 wBN:Int
 wBL:Int
 wBR:List wH
 wBJ:List wAh
 wBI:List wAh
 deriving Inhabited,DecidableEq
def denT:Nat->Type
 |0=>wB
 |1=>wAA
 |2=>wa
 |3=>wI
 |4=>wH
 |5=>wz
 |6=>wD
 |7=>wo
 |8=>wAD
 |9=>wA
 |10=>wG
 |11=>wK
 |12=>wAx
 |13=>wx
 |14=>wv
 |15=>wh
 |16=>wt
 |17=>wl
 |18=>wAi
 |19=>wBC
 |20=>wAv
 |21=>wAo
 |22=>wAh
 |23=>wAw
 |_=>Unit
def tysT:Nat->List Ty
 |0=>[.int .i64,.int .i64,.int .i64,.int .i64,.int .i64,.int .u64,.int .i64,.int .i64,.int .u64]
 |1=>[.int .u64,.int .u64,.int .u64,.sl (.int .u64)]
 |2=>[.int .u64,.sl (.int .u64),.sl (.st 1),.int .u64,.int .u64,.int .u64,.int .u64,.int .u64,.int .i64,.sl (.int .u8)]
 |3=>[.int .u64,.int .i64,.int .u64,.int .u64,.int .u64,.sl (.st 2)]
 |4=>[.int .u64,.sl (.int .u64),.int .u64]
 |5=>[.int .i64,.int .i64,.int .i64]
 |6=>[.int .i64,.int .i64,.sl (.int .u64)]
 |7=>[.int .u64]
 |8=>[.int .u64,.int .u64,.int .u64]
 |9=>[.int .u64,.int .u64,.int .u64]
 |10=>[.int .i64,.int .i64,.sl (.int .u64),.int .i64,.sl (.int .u64),.sl (.st 9),.int .u64]
 |11=>[.int .u64,.int .i64,.int .u64,.int .u64,.int .u64,.sl (.st 2),.int .u64]
 |12=>[.int .u64,.int .u64]
 |13=>[.int .i64,.int .u64,.sl (.int .u64),.sl (.int .u64),.sl (.int .u64),.int .u64,.int .u64,.int .u64,.int .u64,.int .u64]
 |14=>[.int .u64,.int .u64,.int .u64,.int .u64,.int .u64,.int .i64,.int .i64,.sl (.int .u64),.bool]
 |15=>[.int .u64,.int .u64,.int .u64,.int .u64]
 |16=>[.sl (.st 14),.sl (.st 15),.int .u64]
 |17=>[.sl (.st 9)]
 |18=>[.int .i64,.int .i64,.int .i64,.int .i64,.int .i64,.int .u64,.int .i64,.int .i64,.int .u64,.sl (.st 3)]
 |19=>[.int .u64,.int .i64]
 |20=>[.int .i64,.int .i64,.int .i64,.int .u64,.sl (.int .u64),.int .u64,.int .u64,.sl (.int .u64),.int .u64]
 |21=>[.int .u64,.int .u64,.int .u64,.int .i64,.int .i64,.int .i64,.int .i64,.int .i64,.int .u64,.sl (.int .u64),.int .u64,.int .u64,.sl (.int .u64),.int .u64]
 |22=>[.int .u64,.int .u64,.sl (.int .u64),.sl (.int .u64)]
 |23=>[.bool,.int .u64,.int .i64,.sl (.st 4),.sl (.st 22),.sl (.st 22)]
 |_=>[]
theorem kn0 (x:wh):wh.mk x.Value x.wAX x.Rho x.wAc=x:=rfl
def encTRules (x:wB):D:= .agg [.int .i64 x.wX,.int .i64 x.wC,.int .i64 x.wN,.int .i64 x.wM,.int .i64 x.wJ,.int .u64 x.wS,.int .i64 x.wV,.int .i64 x.wO,.int .u64 x.wR]
def encTOut (x:wAA):D:= .agg [.int .u64 x.we,.int .u64 x.wAG,.int .u64 x.wAB,.slice 1 (x.wm.map (D.int .u64))]
def encTTx (x:wa):D:= .agg [.int .u64 x.wg,.slice 1 (x.wL.map (D.int .u64)),.slice 4 (x.wE.map encTOut),.int .u64 x.wP,.int .u64 x.wT,.int .u64 x.Fee,.int .u64 x.wW,.int .u64 x.wU,.int .i64 x.wAE,.slice 1 (x.ww.map (D.int .u8))]
def encTBlock (x:wI):D:= .agg [.int .u64 x.wd,.int .i64 x.wQ,.int .u64 x.wAF,.int .u64 x.wR,.int .u64 x.wU,.slice 10 (x.Txs.map encTTx)]
def encTQuestion (x:wH):D:= .agg [.int .u64 x.wBX,.slice 1 (x.wBW.map (D.int .u64)),.int .u64 x.wBE]
def encTProofParams (x:wz):D:= .agg [.int .i64 x.wAV,.int .i64 x.wAI,.int .i64 x.wAU]
def encTFrontier (x:wD):D:= .agg [.int .i64 x.wC,.int .i64 x.wZ,.slice 1 (x.wc.map (D.int .u64))]
def encTField (x:wo):D:= .agg [.int .u64 x.P]
def encTA3 (x:wAD):D:= .agg [.int .u64 x.a0,.int .u64 x.a1,.int .u64 x.a2]
def encTAccount (x:wA):D:= .agg [.int .u64 x.ID,.int .u64 x.wY,.int .u64 x.wU]
def encTbefore (x:wG):D:= .agg [.int .i64 x.wAY,.int .i64 x.wAZ,.slice 1 (x.wAe.map (D.int .u64)),.int .i64 x.leaves,.slice 1 (x.marks.map (D.int .u64)),.slice 3 (x.wAS.map encTAccount),.int .u64 x.hidden]
def encTstored (x:wK):D:= .agg [.int .u64 x.wAH,.int .i64 x.wAC,.int .u64 x.wAM,.int .u64 x.wAP,.int .u64 x.wAN,.slice 10 (x.wAT.map encTTx),.int .u64 x.work]
def encTA2 (x:wAx):D:= .agg [.int .u64 x.a0,.int .u64 x.a1]
def encTStatement (x:wx):D:= .agg [.int .i64 x.wC,.int .u64 x.wg,.slice 1 (x.wL.map (D.int .u64)),.slice 1 (x.wn.map (D.int .u64)),.slice 1 (x.wAK.map (D.int .u64)),.int .u64 x.wP,.int .u64 x.wT,.int .u64 x.Fee,.int .u64 x.wW,.int .u64 x.wAj]
def encTSpent (x:wv):D:= .agg [.int .u64 x.wAJ,.int .u64 x.wAW,.int .u64 x.wAQ,.int .u64 x.wAa,.int .u64 x.Key,.int .i64 x.wAO,.int .i64 x.wy,.slice 1 (x.wAR.map (D.int .u64)),.bool x.wAq]
def encTNote (x:wh):D:= .agg [.int .u64 x.Value,.int .u64 x.wAX,.int .u64 x.Rho,.int .u64 x.wAc]
def encTWitness (x:wt):D:= .agg [.slice 9 (x.Ins.map encTSpent),.slice 4 (x.wE.map encTNote),.int .u64 x.wAL]
def encTLedger (x:wl):D:= .agg [.slice 3 (x.wF.map encTAccount)]
def encTChain55 (x:wAi):D:= .agg [.int .i64 x.wAy,.int .i64 x.wAp,.int .i64 x.wAf,.int .i64 x.wAd,.int .i64 x.wAb,.int .u64 x.wAl,.int .i64 x.wAk,.int .i64 x.wAg,.int .u64 x.wAz,.slice 6 (x.L.map encTBlock)]
def encTtree (x:wBC):D:= .agg [.int .u64 x.root,.int .i64 x.leaves]
def encTFault (x:wAv):D:= .agg [.int .i64 x.wBa,.int .i64 x.wQ,.int .i64 x.Tx,.int .u64 x.wBQ,.slice 1 (x.wBM.map (D.int .u64)),.int .u64 x.wBG,.int .u64 x.wBP,.slice 1 (x.wBK.map (D.int .u64)),.int .u64 x.wBF]
def encTReport (x:wAo):D:= .agg [.int .u64 x.wBY,.int .u64 x.wBZ,.int .u64 x.wBB,.int .i64 x.wBO,.int .i64 x.wBT,.int .i64 x.wBD,.int .i64 x.wBA,.int .i64 x.wBH,.int .u64 x.wAu,.slice 1 (x.wAs.map (D.int .u64)),.int .u64 x.wAm,.int .u64 x.wAr,.slice 1 (x.wAt.map (D.int .u64)),.int .u64 x.wAn]
def encTStored (x:wAh):D:= .agg [.int .u64 x.Key,.int .u64 x.wU,.slice 1 (x.wBV.map (D.int .u64)),.slice 1 (x.wBS.map (D.int .u64))]
def encTPlace (x:wAw):D:= .agg [.bool x.wBU,.int .u64 x.wBN,.int .i64 x.wBL,.slice 3 (x.wBR.map encTQuestion),.slice 4 (x.wBJ.map encTStored),.slice 4 (x.wBI.map encTStored)]
def TB:Tab where
 den:=denT
 tys:=tysT
 inh:=fun n=>match n with
  |0=>(default:wB)
  |1=>(default:wAA)
  |2=>(default:wa)
  |3=>(default:wI)
  |4=>(default:wH)
  |5=>(default:wz)
  |6=>(default:wD)
  |7=>(default:wo)
  |8=>(default:wAD)
  |9=>(default:wA)
  |10=>(default:wG)
  |11=>(default:wK)
  |12=>(default:wAx)
  |13=>(default:wx)
  |14=>(default:wv)
  |15=>(default:wh)
  |16=>(default:wt)
  |17=>(default:wl)
  |18=>(default:wAi)
  |19=>(default:wBC)
  |20=>(default:wAv)
  |21=>(default:wAo)
  |22=>(default:wAh)
  |23=>(default:wAw)
  |_+24=>()
 cells:=fun n=>match n with
  |0=>fun(x:wB)=>(x.wX,x.wC,x.wN,x.wM,x.wJ,x.wS,x.wV,x.wO,x.wR,())
  |1=>fun(x:wAA)=>(x.we,x.wAG,x.wAB,x.wm,())
  |2=>fun(x:wa)=>(x.wg,x.wL,x.wE,x.wP,x.wT,x.Fee,x.wW,x.wU,x.wAE,x.ww,())
  |3=>fun(x:wI)=>(x.wd,x.wQ,x.wAF,x.wR,x.wU,x.Txs,())
  |4=>fun(x:wH)=>(x.wBX,x.wBW,x.wBE,())
  |5=>fun(x:wz)=>(x.wAV,x.wAI,x.wAU,())
  |6=>fun(x:wD)=>(x.wC,x.wZ,x.wc,())
  |7=>fun(x:wo)=>(x.P,())
  |8=>fun(x:wAD)=>(x.a0,x.a1,x.a2,())
  |9=>fun(x:wA)=>(x.ID,x.wY,x.wU,())
  |10=>fun(x:wG)=>(x.wAY,x.wAZ,x.wAe,x.leaves,x.marks,x.wAS,x.hidden,())
  |11=>fun(x:wK)=>(x.wAH,x.wAC,x.wAM,x.wAP,x.wAN,x.wAT,x.work,())
  |12=>fun(x:wAx)=>(x.a0,x.a1,())
  |13=>fun(x:wx)=>(x.wC,x.wg,x.wL,x.wn,x.wAK,x.wP,x.wT,x.Fee,x.wW,x.wAj,())
  |14=>fun(x:wv)=>(x.wAJ,x.wAW,x.wAQ,x.wAa,x.Key,x.wAO,x.wy,x.wAR,x.wAq,())
  |15=>fun(x:wh)=>(x.Value,x.wAX,x.Rho,x.wAc,())
  |16=>fun(x:wt)=>(x.Ins,x.wE,x.wAL,())
  |17=>fun(x:wl)=>(x.wF,())
  |18=>fun(x:wAi)=>(x.wAy,x.wAp,x.wAf,x.wAd,x.wAb,x.wAl,x.wAk,x.wAg,x.wAz,x.L,())
  |19=>fun(x:wBC)=>(x.root,x.leaves,())
  |20=>fun(x:wAv)=>(x.wBa,x.wQ,x.Tx,x.wBQ,x.wBM,x.wBG,x.wBP,x.wBK,x.wBF,())
  |21=>fun(x:wAo)=>(x.wBY,x.wBZ,x.wBB,x.wBO,x.wBT,x.wBD,x.wBA,x.wBH,x.wAu,x.wAs,x.wAm,x.wAr,x.wAt,x.wAn,())
  |22=>fun(x:wAh)=>(x.Key,x.wU,x.wBV,x.wBS,())
  |23=>fun(x:wAw)=>(x.wBU,x.wBN,x.wBL,x.wBR,x.wBJ,x.wBI,())
  |_+24=>fun _=>()
 pack:=fun n=>match n with
  |0=>fun(q0,q1,q2,q3,q4,q5,q6,q7,q8,())=>wB.mk q0 q1 q2 q3 q4 q5 q6 q7 q8
  |1=>fun(q0,q1,q2,q3,())=>wAA.mk q0 q1 q2 q3
  |2=>fun(q0,q1,q2,q3,q4,q5,q6,q7,q8,q9,())=>wa.mk q0 q1 q2 q3 q4 q5 q6 q7 q8 q9
  |3=>fun(q0,q1,q2,q3,q4,q5,())=>wI.mk q0 q1 q2 q3 q4 q5
  |4=>fun(q0,q1,q2,())=>wH.mk q0 q1 q2
  |5=>fun(q0,q1,q2,())=>wz.mk q0 q1 q2
  |6=>fun(q0,q1,q2,())=>wD.mk q0 q1 q2
  |7=>fun(q0,())=>wo.mk q0
  |8=>fun(q0,q1,q2,())=>wAD.mk q0 q1 q2
  |9=>fun(q0,q1,q2,())=>wA.mk q0 q1 q2
  |10=>fun(q0,q1,q2,q3,q4,q5,q6,())=>wG.mk q0 q1 q2 q3 q4 q5 q6
  |11=>fun(q0,q1,q2,q3,q4,q5,q6,())=>wK.mk q0 q1 q2 q3 q4 q5 q6
  |12=>fun(q0,q1,())=>wAx.mk q0 q1
  |13=>fun(q0,q1,q2,q3,q4,q5,q6,q7,q8,q9,())=>wx.mk q0 q1 q2 q3 q4 q5 q6 q7 q8 q9
  |14=>fun(q0,q1,q2,q3,q4,q5,q6,q7,q8,())=>wv.mk q0 q1 q2 q3 q4 q5 q6 q7 q8
  |15=>fun(q0,q1,q2,q3,())=>wh.mk q0 q1 q2 q3
  |16=>fun(q0,q1,q2,())=>wt.mk q0 q1 q2
  |17=>fun(q0,())=>wl.mk q0
  |18=>fun(q0,q1,q2,q3,q4,q5,q6,q7,q8,q9,())=>wAi.mk q0 q1 q2 q3 q4 q5 q6 q7 q8 q9
  |19=>fun(q0,q1,())=>wBC.mk q0 q1
  |20=>fun(q0,q1,q2,q3,q4,q5,q6,q7,q8,())=>wAv.mk q0 q1 q2 q3 q4 q5 q6 q7 q8
  |21=>fun(q0,q1,q2,q3,q4,q5,q6,q7,q8,q9,q10,q11,q12,q13,())=>wAo.mk q0 q1 q2 q3 q4 q5 q6 q7 q8 q9 q10 q11 q12 q13
  |22=>fun(q0,q1,q2,q3,())=>wAh.mk q0 q1 q2 q3
  |23=>fun(q0,q1,q2,q3,q4,q5,())=>wAw.mk q0 q1 q2 q3 q4 q5
  |_+24=>fun _=>()
 enc:=fun n=>match n with
  |0=>encTRules
  |1=>encTOut
  |2=>encTTx
  |3=>encTBlock
  |4=>encTQuestion
  |5=>encTProofParams
  |6=>encTFrontier
  |7=>encTField
  |8=>encTA3
  |9=>encTAccount
  |10=>encTbefore
  |11=>encTstored
  |12=>encTA2
  |13=>encTStatement
  |14=>encTSpent
  |15=>encTNote
  |16=>encTWitness
  |17=>encTLedger
  |18=>encTChain55
  |19=>encTtree
  |20=>encTFault
  |21=>encTReport
  |22=>encTStored
  |23=>encTPlace
  |_+24=>fun _=> .agg []
theorem TBok:TB.Ok where
 one:=fun n=>match n with
  |0=>rfl
  |1=>rfl
  |2=>rfl
  |3=>rfl
  |4=>rfl
  |5=>rfl
  |6=>rfl
  |7=>rfl
  |8=>rfl
  |9=>rfl
  |10=>rfl
  |11=>rfl
  |12=>rfl
  |13=>rfl
  |14=>rfl
  |15=>rfl
  |16=>rfl
  |17=>rfl
  |18=>rfl
  |19=>rfl
  |20=>rfl
  |21=>rfl
  |22=>rfl
  |23=>rfl
  |_+24=>rfl
 pc:=fun n x=>match n with
  |0=>rfl
  |1=>rfl
  |2=>rfl
  |3=>rfl
  |4=>rfl
  |5=>rfl
  |6=>rfl
  |7=>rfl
  |8=>rfl
  |9=>rfl
  |10=>rfl
  |11=>rfl
  |12=>rfl
  |13=>rfl
  |14=>rfl
  |15=>rfl
  |16=>rfl
  |17=>rfl
  |18=>rfl
  |19=>rfl
  |20=>rfl
  |21=>rfl
  |22=>rfl
  |23=>rfl
  |_+24=>rfl
 en:=fun n x=>match n with
  |0=>rfl
  |1=>rfl
  |2=>rfl
  |3=>rfl
  |4=>rfl
  |5=>rfl
  |6=>rfl
  |7=>rfl
  |8=>rfl
  |9=>rfl
  |10=>rfl
  |11=>rfl
  |12=>rfl
  |13=>rfl
  |14=>rfl
  |15=>rfl
  |16=>rfl
  |17=>rfl
  |18=>rfl
  |19=>rfl
  |20=>rfl
  |21=>rfl
  |22=>rfl
  |23=>rfl
  |_+24=>rfl
def ti3:TI TB.den:={ty:=some (false,1),ze:=some [.d (.int .i64) (0:Int)],un:=some (.int .i64)}
theorem ti3_ok:TI.Ok Tryz.prog TB 3 ti3:={  }
def ti4:TI TB.den:={ty:=some (false,1),ze:=some [.d (.bool) (false:Bool)],un:=some (.bool)}
theorem ti4_ok:TI.Ok Tryz.prog TB 4 ti4:={  }
def ti5:TI TB.den:={ty:=some (false,1),ze:=some [.d (.int .u8) (0:Int)],un:=some (.int .u8)}
theorem ti5_ok:TI.Ok Tryz.prog TB 5 ti5:={  }
def ti9:TI TB.den:={ty:=some (false,1),ze:=some [.d (.str) (ByteArray.empty:ByteArray)],un:=some (.string)}
theorem ti9_ok:TI.Ok Tryz.prog TB 9 ti9:={  }
def ti23:TI TB.den:={ty:=some (true,3),fl:=[(0,false,1),(1,false,1),(2,false,1)],ze:=some [.d (.int .i64) (0:Int),.d (.int .i64) (0:Int),.d (.int .i64) (0:Int)],pl:=[(0,1),(1,1),(2,1)],eq:=some [.int .i64,.int .i64,.int .i64]}
theorem ti23_ok:TI.Ok Tryz.prog TB 23 ti23:={fl:=kf ⟨by kernel_rfl,by kernel_rfl,by kernel_rfl,trivial⟩}
def ti24:TI TB.den:={ty:=some (false,1),ze:=some [.d (.int .u64) (0:Int)],un:=some (.int .u64)}
theorem ti24_ok:TI.Ok Tryz.prog TB 24 ti24:={  }
def ti26:TI TB.den:={ty:=some (true,9),fl:=[(0,false,1),(1,false,1),(2,true,3),(5,false,1),(6,false,1),(7,false,1),(8,false,1)],ze:=some [.d (.int .i64) (0:Int),.d (.int .i64) (0:Int),.d (.int .i64) (0:Int),.d (.int .i64) (0:Int),.d (.int .i64) (0:Int),.d (.int .u64) (0:Int),.d (.int .i64) (0:Int),.d (.int .i64) (0:Int),.d (.int .u64) (0:Int)],pl:=[(0,1),(1,1),(2,3),(5,1),(6,1),(7,1),(8,1)]}
theorem ti26_ok:TI.Ok Tryz.prog TB 26 ti26:={fl:=kf ⟨by kernel_rfl,by kernel_rfl,by kernel_rfl,by kernel_rfl,by kernel_rfl,by kernel_rfl,by kernel_rfl,trivial⟩}
def ti27:TI TB.den:={ty:=some (false,1),el:=some (.st 3,64),ez:=true,ze:=some [.full (.st 3) []],un:=some (.slice 41)}
theorem ti27_ok:TI.Ok Tryz.prog TB 27 ti27:={ez:=fun _ _ _ h=>by cases h;exact⟨[.d (.int .u64 0),.d (.int .i64 0),.d (.int .u64 0),.d (.int .u64 0),.d (.int .u64 0),.full 10 []],by kernel_rfl,⟨⟨ka _,rfl⟩,⟨ka _,rfl⟩,⟨ka _,rfl⟩,⟨ka _,rfl⟩,⟨ka _,rfl⟩,⟨⟨rfl,rfl⟩,rfl⟩,trivial⟩⟩}
def ti28:TI TB.den:={ty:=some (false,1),el:=some (.int .u8,1),ez:=true,ze:=some [.full (.int .u8) []],un:=some (.slice 5)}
theorem ti28_ok:TI.Ok Tryz.prog TB 28 ti28:={ez:=fun _ _ _ h=>by cases h;exact⟨[.d (.int .u8 0)],by kernel_rfl,⟨⟨ka _,rfl⟩,trivial⟩⟩}
def ti34:TI TB.den:={ty:=some (false,1),ze:=some [.k KC.nilPtr.v],un:=some (.pointer 108)}
theorem ti34_ok:TI.Ok Tryz.prog TB 34 ti34:={  }
def ti37:TI TB.den:={ty:=some (false,1),ze:=some [.k KC.nilPtr.v],un:=some (.pointer 174)}
theorem ti37_ok:TI.Ok Tryz.prog TB 37 ti37:={  }
def ti39:TI TB.den:={ty:=some (false,1),el:=some (.st 2,128),ez:=true,ze:=some [.full (.st 2) []],un:=some (.slice 116)}
theorem ti39_ok:TI.Ok Tryz.prog TB 39 ti39:={ez:=fun _ _ _ h=>by cases h;exact⟨[.d (.int .u64 0),.full 1 [],.full 4 [],.d (.int .u64 0),.d (.int .u64 0),.d (.int .u64 0),.d (.int .u64 0),.d (.int .u64 0),.d (.int .i64 0),.full 1 []],by kernel_rfl,⟨⟨ka _,rfl⟩,⟨⟨rfl,rfl⟩,rfl⟩,⟨⟨rfl,rfl⟩,rfl⟩,⟨ka _,rfl⟩,⟨ka _,rfl⟩,⟨ka _,rfl⟩,⟨ka _,rfl⟩,⟨ka _,rfl⟩,⟨ka _,rfl⟩,⟨⟨rfl,rfl⟩,rfl⟩,trivial⟩⟩}
def ti41:TI TB.den:={ty:=some (true,6),fl:=[(0,false,1),(1,false,1),(2,false,1),(3,false,1),(4,false,1),(5,false,1)],ze:=some [.d (.int .u64) (0:Int),.d (.int .i64) (0:Int),.d (.int .u64) (0:Int),.d (.int .u64) (0:Int),.d (.int .u64) (0:Int),.full (.st 2) []],pl:=[(0,1),(1,1),(2,1),(3,1),(4,1),(5,1)]}
theorem ti41_ok:TI.Ok Tryz.prog TB 41 ti41:={fl:=kf ⟨by kernel_rfl,by kernel_rfl,by kernel_rfl,by kernel_rfl,by kernel_rfl,by kernel_rfl,trivial⟩}
def ti44:TI TB.den:={ty:=some (false,1),el:=some (.st 4,40),ez:=true,ze:=some [.full (.st 4) []],un:=some (.slice 88)}
theorem ti44_ok:TI.Ok Tryz.prog TB 44 ti44:={ez:=fun _ _ _ h=>by cases h;exact⟨[.d (.int .u64 0),.full 1 [],.d (.int .u64 0)],by kernel_rfl,⟨⟨ka _,rfl⟩,⟨⟨rfl,rfl⟩,rfl⟩,⟨ka _,rfl⟩,trivial⟩⟩}
def ti47:TI TB.den:={ty:=some (true,5),fl:=[(0,false,1),(1,false,1),(2,false,1),(3,false,1),(4,false,1)],ze:=some [.d (.int .u64) (0:Int),.d (.int .i64) (0:Int),.full (.st 4) [],.full (.st 22) [],.full (.st 22) []],pl:=[(0,1),(1,1),(2,1),(3,1),(4,1)]}
theorem ti47_ok:TI.Ok Tryz.prog TB 47 ti47:={fl:=kf ⟨by kernel_rfl,by kernel_rfl,by kernel_rfl,by kernel_rfl,by kernel_rfl,trivial⟩}
def ti49:TI TB.den:={ty:=some (true,6),fl:=[(0,false,1),(1,true,5)],ze:=some [.d (.bool) (false:Bool),.d (.int .u64) (0:Int),.d (.int .i64) (0:Int),.full (.st 4) [],.full (.st 22) [],.full (.st 22) []],pl:=[(0,1),(1,5)]}
theorem ti49_ok:TI.Ok Tryz.prog TB 49 ti49:={fl:=kf ⟨by kernel_rfl,by kernel_rfl,trivial⟩}
def ti57:TI TB.den:={ty:=some (false,1),ze:=some [.k KC.nilPtr.v],un:=some (.pointer 143)}
theorem ti57_ok:TI.Ok Tryz.prog TB 57 ti57:={  }
def ti60:TI TB.den:={ty:=some (false,1),el:=some (.int .u64,8),ez:=true,ze:=some [.full (.int .u64) []],un:=some (.slice 24)}
theorem ti60_ok:TI.Ok Tryz.prog TB 60 ti60:={ez:=fun _ _ _ h=>by cases h;exact⟨[.d (.int .u64 0)],by kernel_rfl,⟨⟨ka _,rfl⟩,trivial⟩⟩}
def ti73:TI TB.den:={ty:=some (false,1),el:=some (.st 9,24),ez:=true,ze:=some [.full (.st 9) []],un:=some (.slice 78)}
theorem ti73_ok:TI.Ok Tryz.prog TB 73 ti73:={ez:=fun _ _ _ h=>by cases h;exact⟨[.d (.int .u64 0),.d (.int .u64 0),.d (.int .u64 0)],by kernel_rfl,⟨⟨ka _,rfl⟩,⟨ka _,rfl⟩,⟨ka _,rfl⟩,trivial⟩⟩}
def ti75:TI TB.den:={ty:=some (true,1),fl:=[(0,false,1)],ze:=some [.full (.st 9) []],pl:=[(0,1)]}
theorem ti75_ok:TI.Ok Tryz.prog TB 75 ti75:={fl:=kf ⟨by kernel_rfl,trivial⟩}
def ti78:TI TB.den:={ty:=some (true,3),fl:=[(0,false,1),(1,false,1),(2,false,1)],ze:=some [.d (.int .u64) (0:Int),.d (.int .u64) (0:Int),.d (.int .u64) (0:Int)],pl:=[(0,1),(1,1),(2,1)],eq:=some [.int .u64,.int .u64,.int .u64]}
theorem ti78_ok:TI.Ok Tryz.prog TB 78 ti78:={fl:=kf ⟨by kernel_rfl,by kernel_rfl,by kernel_rfl,trivial⟩}
def ti83:TI TB.den:={ty:=some (true,10),fl:=[(0,true,9),(9,false,1)],ze:=some [.d (.int .i64) (0:Int),.d (.int .i64) (0:Int),.d (.int .i64) (0:Int),.d (.int .i64) (0:Int),.d (.int .i64) (0:Int),.d (.int .u64) (0:Int),.d (.int .i64) (0:Int),.d (.int .i64) (0:Int),.d (.int .u64) (0:Int),.full (.st 3) []],pl:=[(0,9),(9,1)]}
theorem ti83_ok:TI.Ok Tryz.prog TB 83 ti83:={fl:=kf ⟨by kernel_rfl,by kernel_rfl,trivial⟩}
def ti88:TI TB.den:={ty:=some (true,3),fl:=[(0,false,1),(1,false,1),(2,false,1)],ze:=some [.d (.int .u64) (0:Int),.full (.int .u64) [],.d (.int .u64) (0:Int)],pl:=[(0,1),(1,1),(2,1)]}
theorem ti88_ok:TI.Ok Tryz.prog TB 88 ti88:={fl:=kf ⟨by kernel_rfl,by kernel_rfl,by kernel_rfl,trivial⟩}
def ti90:TI TB.den:={ty:=some (true,9),fl:=[(0,false,1),(1,false,1),(2,false,1),(3,true,3),(6,true,3)],ze:=some [.d (.int .i64) (0:Int),.d (.int .i64) (0:Int),.d (.int .i64) (0:Int),.d (.int .u64) (0:Int),.full (.int .u64) [],.d (.int .u64) (0:Int),.d (.int .u64) (0:Int),.full (.int .u64) [],.d (.int .u64) (0:Int)],pl:=[(0,1),(1,1),(2,1),(3,3),(6,3)]}
theorem ti90_ok:TI.Ok Tryz.prog TB 90 ti90:={fl:=kf ⟨by kernel_rfl,by kernel_rfl,by kernel_rfl,by kernel_rfl,by kernel_rfl,trivial⟩}
def ti92:TI TB.den:={ty:=some (true,14),fl:=[(0,false,1),(1,false,1),(2,false,1),(3,false,1),(4,false,1),(5,true,9)],ze:=some [.d (.int .u64) (0:Int),.d (.int .u64) (0:Int),.d (.int .u64) (0:Int),.d (.int .i64) (0:Int),.d (.int .i64) (0:Int),.d (.int .i64) (0:Int),.d (.int .i64) (0:Int),.d (.int .i64) (0:Int),.d (.int .u64) (0:Int),.full (.int .u64) [],.d (.int .u64) (0:Int),.d (.int .u64) (0:Int),.full (.int .u64) [],.d (.int .u64) (0:Int)],pl:=[(0,1),(1,1),(2,1),(3,1),(4,1),(5,9)]}
theorem ti92_ok:TI.Ok Tryz.prog TB 92 ti92:={fl:=kf ⟨by kernel_rfl,by kernel_rfl,by kernel_rfl,by kernel_rfl,by kernel_rfl,by kernel_rfl,trivial⟩}
def ti95:TI TB.den:={ty:=some (true,9),fl:=[(0,false,1),(1,false,1),(2,false,1),(3,true,3),(6,true,3)],ze:=some [.d (.int .i64) (0:Int),.d (.int .i64) (0:Int),.d (.int .i64) (0:Int),.d (.int .u64) (0:Int),.full (.int .u64) [],.d (.int .u64) (0:Int),.d (.int .u64) (0:Int),.full (.int .u64) [],.d (.int .u64) (0:Int)],pl:=[(0,1),(1,1),(2,1),(3,3),(6,3)]}
theorem ti95_ok:TI.Ok Tryz.prog TB 95 ti95:={fl:=kf ⟨by kernel_rfl,by kernel_rfl,by kernel_rfl,by kernel_rfl,by kernel_rfl,trivial⟩}
def ti106:TI TB.den:={ty:=some (false,1),ze:=some [.k KC.nilMap.v],mp:=some (.int .u64,.st 11),un:=some (.map 24 111)}
theorem kom:TI.Ok Tryz.prog TB 106 ti106:={mp:=fun _ _ h=>by cases h;exact⟨111,.int .u64,⟨24,by kernel_rfl,by kernel_rfl⟩,fun _=>rfl,zIs_mk (z0:= .agg [.d (.int .u64 0),.d (.int .i64 0),.d (.int .u64 0),.d (.int .u64 0),.d (.int .u64 0),.k (.slice none 0 0),.d (.int .u64 0)]) qqk (⟨⟨ka (V.d (.int .u64 0)),rfl⟩,⟨ka (V.d (.int .i64 0)),rfl⟩,⟨ka (V.d (.int .u64 0)),rfl⟩,⟨ka (V.d (.int .u64 0)),rfl⟩,⟨ka (V.d (.int .u64 0)),rfl⟩,⟨rfl,rfl⟩,⟨ka (V.d (.int .u64 0)),rfl⟩,trivial⟩)⟩}
def ti108:TI TB.den:={ty:=some (true,15),fl:=[(0,false,1),(1,true,9),(10,false,1),(11,false,1),(12,false,1),(13,false,1),(14,false,1)],ze:=some [.k KC.nilPtr.v,.d (.int .i64) (0:Int),.d (.int .i64) (0:Int),.d (.int .i64) (0:Int),.d (.int .i64) (0:Int),.d (.int .i64) (0:Int),.d (.int .u64) (0:Int),.d (.int .i64) (0:Int),.d (.int .i64) (0:Int),.d (.int .u64) (0:Int),.k KC.nilMap.v,.full (.int .u64) [],.k KC.nilPtr.v,.d (.int .u64) (0:Int),.d (.int .i64) (0:Int)],pl:=[(0,1),(1,9),(10,1),(11,1),(12,1),(13,1),(14,1)]}
theorem kpm:TI.Ok Tryz.prog TB 108 ti108:={fl:=kf ⟨by kernel_rfl,by kernel_rfl,by kernel_rfl,by kernel_rfl,by kernel_rfl,by kernel_rfl,by kernel_rfl,trivial⟩}
def ti111:TI TB.den:={ty:=some (true,7),fl:=[(0,true,6),(6,false,1)],ze:=some [.d (.int .u64) (0:Int),.d (.int .i64) (0:Int),.d (.int .u64) (0:Int),.d (.int .u64) (0:Int),.d (.int .u64) (0:Int),.full (.st 2) [],.d (.int .u64) (0:Int)],pl:=[(0,6),(6,1)]}
theorem kqf:TI.Ok Tryz.prog TB 111 ti111:={fl:=kf ⟨by kernel_rfl,by kernel_rfl,trivial⟩}
def ti114:TI TB.den:={ty:=some (false,1),el:=some (.st 1,48),ez:=true,ze:=some [.full (.st 1) []],un:=some (.slice 164)}
theorem ko9:TI.Ok Tryz.prog TB 114 ti114:={ez:=fun _ _ _ h=>by cases h;exact⟨[.d (.int .u64 0),.d (.int .u64 0),.d (.int .u64 0),.full 1 []],by kernel_rfl,⟨⟨ka _,rfl⟩,⟨ka _,rfl⟩,⟨ka _,rfl⟩,⟨⟨rfl,rfl⟩,rfl⟩,trivial⟩⟩}
def ti116:TI TB.den:={ty:=some (true,10),fl:=[(0,false,1),(1,false,1),(2,false,1),(3,false,1),(4,false,1),(5,false,1),(6,false,1),(7,false,1),(8,false,1),(9,false,1)],ze:=some [.d (.int .u64) (0:Int),.full (.int .u64) [],.full (.st 1) [],.d (.int .u64) (0:Int),.d (.int .u64) (0:Int),.d (.int .u64) (0:Int),.d (.int .u64) (0:Int),.d (.int .u64) (0:Int),.d (.int .i64) (0:Int),.full (.int .u8) []],pl:=[(0,1),(1,1),(2,1),(3,1),(4,1),(5,1),(6,1),(7,1),(8,1),(9,1)]}
theorem kp5:TI.Ok Tryz.prog TB 116 ti116:={fl:=kf ⟨by kernel_rfl,by kernel_rfl,by kernel_rfl,by kernel_rfl,by kernel_rfl,by kernel_rfl,by kernel_rfl,by kernel_rfl,by kernel_rfl,by kernel_rfl,trivial⟩}
def ti139:TI TB.den:={ty:=some (true,3),fl:=[(0,false,1),(1,false,1),(2,false,1)],ze:=some [.d (.int .i64) (0:Int),.d (.int .i64) (0:Int),.full (.int .u64) []],pl:=[(0,1),(1,1),(2,1)]}
theorem ko5:TI.Ok Tryz.prog TB 139 ti139:={fl:=kf ⟨by kernel_rfl,by kernel_rfl,by kernel_rfl,trivial⟩}
def ti140:TI TB.den:={ty:=some (false,1),ze:=some [.k KC.nilPtr.v],un:=some (.pointer 192)}
theorem kpi:TI.Ok Tryz.prog TB 140 ti140:={  }
def ti141:TI TB.den:={ty:=some (false,1),el:=some (.st 10,104),ez:=true,ze:=some [.full (.st 10) []],un:=some (.slice 151)}
theorem kox:TI.Ok Tryz.prog TB 141 ti141:={ez:=fun _ _ _ h=>by cases h;exact⟨[.d (.int .i64 0),.d (.int .i64 0),.full 1 [],.d (.int .i64 0),.full 1 [],.full 3 [],.d (.int .u64 0)],by kernel_rfl,⟨⟨ka _,rfl⟩,⟨ka _,rfl⟩,⟨⟨rfl,rfl⟩,rfl⟩,⟨ka _,rfl⟩,⟨⟨rfl,rfl⟩,rfl⟩,⟨⟨rfl,rfl⟩,rfl⟩,⟨ka _,rfl⟩,trivial⟩⟩}
def ti143:TI TB.den:={ty:=some (true,18),fl:=[(0,true,9),(9,true,3),(12,false,1),(13,false,1),(14,true,1),(15,false,1),(16,false,1),(17,false,1)],ze:=some [.d (.int .i64) (0:Int),.d (.int .i64) (0:Int),.d (.int .i64) (0:Int),.d (.int .i64) (0:Int),.d (.int .i64) (0:Int),.d (.int .u64) (0:Int),.d (.int .i64) (0:Int),.d (.int .i64) (0:Int),.d (.int .u64) (0:Int),.d (.int .i64) (0:Int),.d (.int .i64) (0:Int),.full (.int .u64) [],.full (.int .u64) [],.k KC.nilPtr.v,.full (.st 9) [],.d (.int .u64) (0:Int),.full (.int .u64) [],.full (.st 10) []],pl:=[(0,9),(9,3),(12,1),(13,1),(14,1),(15,1),(16,1),(17,1)]}
theorem kq0:TI.Ok Tryz.prog TB 143 ti143:={fl:=kf ⟨by kernel_rfl,by kernel_rfl,by kernel_rfl,by kernel_rfl,by kernel_rfl,by kernel_rfl,by kernel_rfl,by kernel_rfl,trivial⟩}
def ti151:TI TB.den:={ty:=some (true,7),fl:=[(0,true,3),(3,false,1),(4,false,1),(5,true,1),(6,false,1)],ze:=some [.d (.int .i64) (0:Int),.d (.int .i64) (0:Int),.full (.int .u64) [],.d (.int .i64) (0:Int),.full (.int .u64) [],.full (.st 9) [],.d (.int .u64) (0:Int)],pl:=[(0,3),(3,1),(4,1),(5,1),(6,1)]}
theorem kp1:TI.Ok Tryz.prog TB 151 ti151:={fl:=kf ⟨by kernel_rfl,by kernel_rfl,by kernel_rfl,by kernel_rfl,by kernel_rfl,trivial⟩}
def ti162:TI TB.den:={ty:=some (true,2),ar:=some (2,false,1),ze:=some [.d (.int .u64) (0:Int),.d (.int .u64) (0:Int)],pl:=[(0,1),(1,1)],un:=some (.array 2 24),eq:=some [.int .u64,.int .u64]}
theorem kp8:TI.Ok Tryz.prog TB 162 ti162:={  }
def ti164:TI TB.den:={ty:=some (true,4),fl:=[(0,false,1),(1,true,2),(3,false,1)],ze:=some [.d (.int .u64) (0:Int),.d (.int .u64) (0:Int),.d (.int .u64) (0:Int),.full (.int .u64) []],pl:=[(0,1),(1,2),(3,1)]}
theorem kob:TI.Ok Tryz.prog TB 164 ti164:={fl:=kf ⟨by kernel_rfl,by kernel_rfl,by kernel_rfl,trivial⟩}
def ti170:TI TB.den:={ty:=some (false,1),ze:=some [.k KC.nilMap.v],mp:=some (.str,.int .i64),un:=some (.map 9 3)}
theorem kpp:TI.Ok Tryz.prog TB 170 ti170:={mp:=fun _ _ h=>by cases h;exact⟨3,.string,⟨9,by kernel_rfl,by kernel_rfl⟩,fun _=>rfl,zIs_mk (z0:= .d (.int .i64 0)) qqk (ka (V.d (.int .i64 0)))⟩}
def ti171:TI TB.den:={ty:=some (false,1),ze:=some [.k KC.nilMap.v],mp:=some (.str,.sl (.int .u64)),un:=some (.map 9 60)}
theorem kpq:TI.Ok Tryz.prog TB 171 ti171:={mp:=fun _ _ h=>by cases h;exact⟨60,.string,⟨9,by kernel_rfl,by kernel_rfl⟩,fun _=>rfl,zIs_mk (z0:= .k (.slice none 0 0)) qqk (rfl)⟩}
def ti172:TI TB.den:={ty:=some (false,1),ze:=some [.k KC.nilMap.v],mp:=some (.str,.bool),un:=some (.map 9 4)}
theorem kof:TI.Ok Tryz.prog TB 172 ti172:={mp:=fun _ _ h=>by cases h;exact⟨4,.string,⟨9,by kernel_rfl,by kernel_rfl⟩,fun _=>rfl,zIs_mk (z0:= .d (.bool false)) qqk (ka (V.d (.bool false)))⟩}
def ti174:TI TB.den:={ty:=some (true,7),fl:=[(0,false,1),(1,false,1),(2,false,1),(3,false,1),(4,false,1),(5,false,1),(6,false,1)],ze:=some [.d (.bool) (false:Bool),.d (.int .u64) (0:Int),.d (.int .i64) (0:Int),.full (.st 4) [],.k KC.nilMap.v,.k KC.nilMap.v,.k KC.nilMap.v],pl:=[(0,1),(1,1),(2,1),(3,1),(4,1),(5,1),(6,1)]}
theorem koy:TI.Ok Tryz.prog TB 174 ti174:={fl:=kf ⟨by kernel_rfl,by kernel_rfl,by kernel_rfl,by kernel_rfl,by kernel_rfl,by kernel_rfl,by kernel_rfl,trivial⟩}
def ti178:TI TB.den:={ty:=some (true,10),fl:=[(0,false,1),(1,false,1),(2,false,1),(3,false,1),(4,false,1),(5,false,1),(6,false,1),(7,false,1),(8,false,1),(9,false,1)],ze:=some [.d (.int .i64) (0:Int),.d (.int .u64) (0:Int),.full (.int .u64) [],.full (.int .u64) [],.full (.int .u64) [],.d (.int .u64) (0:Int),.d (.int .u64) (0:Int),.d (.int .u64) (0:Int),.d (.int .u64) (0:Int),.d (.int .u64) (0:Int)],pl:=[(0,1),(1,1),(2,1),(3,1),(4,1),(5,1),(6,1),(7,1),(8,1),(9,1)]}
theorem kq1:TI.Ok Tryz.prog TB 178 ti178:={fl:=kf ⟨by kernel_rfl,by kernel_rfl,by kernel_rfl,by kernel_rfl,by kernel_rfl,by kernel_rfl,by kernel_rfl,by kernel_rfl,by kernel_rfl,by kernel_rfl,trivial⟩}
def ti190:TI TB.den:={ty:=some (false,1),ze:=some [.k KC.nilMap.v],mp:=some (.int .u64,.bool),un:=some (.map 24 4)}
theorem kos:TI.Ok Tryz.prog TB 190 ti190:={mp:=fun _ _ h=>by cases h;exact⟨4,.int .u64,⟨24,by kernel_rfl,by kernel_rfl⟩,fun _=>rfl,zIs_mk (z0:= .d (.bool false)) qqk (ka (V.d (.bool false)))⟩}
def ti192:TI TB.den:={ty:=some (true,1),fl:=[(0,false,1)],ze:=some [.k KC.nilMap.v],pl:=[(0,1)]}
theorem knz:TI.Ok Tryz.prog TB 192 ti192:={fl:=kf ⟨by kernel_rfl,trivial⟩}
def ti202:TI TB.den:={ty:=some (false,1),ze:=some [.k KC.nilMap.v],mp:=some (.int .i64,.st 14),un:=some (.map 3 275)}
theorem ko4:TI.Ok Tryz.prog TB 202 ti202:={mp:=fun _ _ h=>by cases h;exact⟨275,.int .i64,⟨3,by kernel_rfl,by kernel_rfl⟩,fun _=>rfl,zIs_mk (z0:= .agg [.d (.int .u64 0),.d (.int .u64 0),.d (.int .u64 0),.d (.int .u64 0),.d (.int .u64 0),.d (.int .i64 0),.d (.int .i64 0),.k (.slice none 0 0),.d (.bool false)]) qqk (⟨⟨ka (V.d (.int .u64 0)),rfl⟩,⟨ka (V.d (.int .u64 0)),rfl⟩,⟨ka (V.d (.int .u64 0)),rfl⟩,⟨ka (V.d (.int .u64 0)),rfl⟩,⟨ka (V.d (.int .u64 0)),rfl⟩,⟨ka (V.d (.int .i64 0)),rfl⟩,⟨ka (V.d (.int .i64 0)),rfl⟩,⟨rfl,rfl⟩,⟨ka (V.d (.bool false)),rfl⟩,trivial⟩)⟩}
def ti203:TI TB.den:={ty:=some (false,1),el:=some (.st 19,16),ez:=true,ze:=some [.full (.st 19) []],un:=some (.slice 208)}
theorem kq6:TI.Ok Tryz.prog TB 203 ti203:={ez:=fun _ _ _ h=>by cases h;exact⟨[.d (.int .u64 0),.d (.int .i64 0)],by kernel_rfl,⟨⟨ka _,rfl⟩,⟨ka _,rfl⟩,trivial⟩⟩}
def ti204:TI TB.den:={ty:=some (false,1),el:=some (.st 15,32),ez:=true,ze:=some [.full (.st 15) []],un:=some (.slice 270)}
theorem kpy:TI.Ok Tryz.prog TB 204 ti204:={ez:=fun _ _ _ h=>by cases h;exact⟨[.d (.int .u64 0),.d (.int .u64 0),.d (.int .u64 0),.d (.int .u64 0)],by kernel_rfl,⟨⟨ka _,rfl⟩,⟨ka _,rfl⟩,⟨ka _,rfl⟩,⟨ka _,rfl⟩,trivial⟩⟩}
def ti206:TI TB.den:={ty:=some (true,20),fl:=[(0,false,1),(1,false,1),(2,false,1),(3,false,1),(4,false,1),(5,false,1),(6,true,14)],ze:=some [.k KC.nilPtr.v,.d (.int .i64) (0:Int),.full (.st 19) [],.full (.int .u64) [],.full (.st 15) [],.k KC.nilMap.v,.d (.int .u64) (0:Int),.d (.int .u64) (0:Int),.d (.int .u64) (0:Int),.d (.int .i64) (0:Int),.d (.int .i64) (0:Int),.d (.int .i64) (0:Int),.d (.int .i64) (0:Int),.d (.int .i64) (0:Int),.d (.int .u64) (0:Int),.full (.int .u64) [],.d (.int .u64) (0:Int),.d (.int .u64) (0:Int),.full (.int .u64) [],.d (.int .u64) (0:Int)],pl:=[(0,1),(1,1),(2,1),(3,1),(4,1),(5,1),(6,14)]}
theorem kpo:TI.Ok Tryz.prog TB 206 ti206:={fl:=kf ⟨by kernel_rfl,by kernel_rfl,by kernel_rfl,by kernel_rfl,by kernel_rfl,by kernel_rfl,by kernel_rfl,trivial⟩}
def ti208:TI TB.den:={ty:=some (true,2),fl:=[(0,false,1),(1,false,1)],ze:=some [.d (.int .u64) (0:Int),.d (.int .i64) (0:Int)],pl:=[(0,1),(1,1)],eq:=some [.int .u64,.int .i64]}
theorem kq4:TI.Ok Tryz.prog TB 208 ti208:={fl:=kf ⟨by kernel_rfl,by kernel_rfl,trivial⟩}
def ti210:TI TB.den:={ty:=some (false,1),el:=some (.st 14,88),ez:=true,ze:=some [.full (.st 14) []],un:=some (.slice 275)}
theorem kpn:TI.Ok Tryz.prog TB 210 ti210:={ez:=fun _ _ _ h=>by cases h;exact⟨[.d (.int .u64 0),.d (.int .u64 0),.d (.int .u64 0),.d (.int .u64 0),.d (.int .u64 0),.d (.int .i64 0),.d (.int .i64 0),.full 1 [],.d (.bool false)],by kernel_rfl,⟨⟨ka _,rfl⟩,⟨ka _,rfl⟩,⟨ka _,rfl⟩,⟨ka _,rfl⟩,⟨ka _,rfl⟩,⟨ka _,rfl⟩,⟨ka _,rfl⟩,⟨⟨rfl,rfl⟩,rfl⟩,⟨ka _,rfl⟩,trivial⟩⟩}
def ti212:TI TB.den:={ty:=some (true,3),fl:=[(0,false,1),(1,false,1),(2,false,1)],ze:=some [.full (.st 14) [],.full (.st 15) [],.d (.int .u64) (0:Int)],pl:=[(0,1),(1,1),(2,1)]}
theorem koz:TI.Ok Tryz.prog TB 212 ti212:={fl:=kf ⟨by kernel_rfl,by kernel_rfl,by kernel_rfl,trivial⟩}
def ti254:TI TB.den:={ty:=some (false,1),ze:=some [.d (.int .u64) (0:Int)],un:=some (.int .u64)}
theorem kpj:TI.Ok Tryz.prog TB 254 ti254:={  }
def ti270:TI TB.den:={ty:=some (true,4),fl:=[(0,false,1),(1,false,1),(2,false,1),(3,false,1)],ze:=some [.d (.int .u64) (0:Int),.d (.int .u64) (0:Int),.d (.int .u64) (0:Int),.d (.int .u64) (0:Int)],pl:=[(0,1),(1,1),(2,1),(3,1)],eq:=some [.int .u64,.int .u64,.int .u64,.int .u64]}
theorem kp3:TI.Ok Tryz.prog TB 270 ti270:={fl:=kf ⟨by kernel_rfl,by kernel_rfl,by kernel_rfl,by kernel_rfl,trivial⟩}
def ti275:TI TB.den:={ty:=some (true,9),fl:=[(0,true,4),(4,false,1),(5,false,1),(6,false,1),(7,false,1),(8,false,1)],ze:=some [.d (.int .u64) (0:Int),.d (.int .u64) (0:Int),.d (.int .u64) (0:Int),.d (.int .u64) (0:Int),.d (.int .u64) (0:Int),.d (.int .i64) (0:Int),.d (.int .i64) (0:Int),.full (.int .u64) [],.d (.bool) (false:Bool)],pl:=[(0,4),(4,1),(5,1),(6,1),(7,1),(8,1)]}
theorem kph:TI.Ok Tryz.prog TB 275 ti275:={fl:=kf ⟨by kernel_rfl,by kernel_rfl,by kernel_rfl,by kernel_rfl,by kernel_rfl,by kernel_rfl,trivial⟩}
def ti277:TI TB.den:={ty:=some (true,3),ar:=some (3,false,1),ze:=some [.d (.int .u64) (0:Int),.d (.int .u64) (0:Int),.d (.int .u64) (0:Int)],pl:=[(0,1),(1,1),(2,1)],un:=some (.array 3 24),eq:=some [.int .u64,.int .u64,.int .u64]}
theorem kou:TI.Ok Tryz.prog TB 277 ti277:={  }
def ti322:TI TB.den:={ty:=some (true,1),fl:=[(0,false,1)],ze:=some [.d (.int .u64) (0:Int)],pl:=[(0,1)],eq:=some [.int .u64]}
theorem kov:TI.Ok Tryz.prog TB 322 ti322:={fl:=kf ⟨by kernel_rfl,trivial⟩}
def ti330:TI TB.den:={ty:=some (true,3),fl:=[(0,false,1),(1,false,1),(2,false,1)],ze:=some [.full (.int .u8) [],.d (.int .i64) (0:Int),.d (.bool) (false:Bool)],pl:=[(0,1),(1,1),(2,1)]}
theorem kp0:TI.Ok Tryz.prog TB 330 ti330:={fl:=kf ⟨by kernel_rfl,by kernel_rfl,by kernel_rfl,trivial⟩}
def ti427:TI TB.den:={ty:=some (false,1),el:=some (.st 12,16),ez:=true,ze:=some [.full (.st 12) []],un:=some (.slice 162)}
theorem kp4:TI.Ok Tryz.prog TB 427 ti427:={ez:=fun _ _ _ h=>by cases h;exact⟨[.d (.int .u64 0),.d (.int .u64 0)],by kernel_rfl,⟨⟨ka _,rfl⟩,⟨ka _,rfl⟩,trivial⟩⟩}
def ti511:TI TB.den:={ty:=some (false,1),ze:=some [.d (.int .u64) (0:Int)],un:=some (.int .u64)}
theorem kpw:TI.Ok Tryz.prog TB 511 ti511:={  }
def inf:BT (TI TB.den):=(.nd (.nd (.nd (.nd (.nd (.nd .lf 3 ti3 .lf) 4 ti4 (.nd .lf 5 ti5 .lf)) 9 ti9 (.nd (.nd .lf 23 ti23 .lf) 24 ti24 (.nd .lf 26 ti26 .lf))) 27 ti27 (.nd (.nd (.nd .lf 28 ti28 .lf) 34 ti34 (.nd .lf 37 ti37 .lf)) 39 ti39 (.nd (.nd .lf 41 ti41 .lf) 44 ti44 (.nd .lf 47 ti47 .lf)))) 49 ti49 (.nd (.nd (.nd (.nd .lf 57 ti57 .lf) 60 ti60 (.nd .lf 73 ti73 .lf)) 75 ti75 (.nd (.nd .lf 78 ti78 .lf) 83 ti83 (.nd .lf 88 ti88 .lf))) 90 ti90 (.nd (.nd (.nd .lf 92 ti92 .lf) 95 ti95 (.nd .lf 106 ti106 .lf)) 108 ti108 (.nd (.nd .lf 111 ti111 .lf) 114 ti114 .lf)))) 116 ti116 (.nd (.nd (.nd (.nd (.nd .lf 139 ti139 .lf) 140 ti140 (.nd .lf 141 ti141 .lf)) 143 ti143 (.nd (.nd .lf 151 ti151 .lf) 162 ti162 (.nd .lf 164 ti164 .lf))) 170 ti170 (.nd (.nd (.nd .lf 171 ti171 .lf) 172 ti172 (.nd .lf 174 ti174 .lf)) 178 ti178 (.nd (.nd .lf 190 ti190 .lf) 192 ti192 .lf))) 202 ti202 (.nd (.nd (.nd (.nd .lf 203 ti203 .lf) 204 ti204 (.nd .lf 206 ti206 .lf)) 208 ti208 (.nd (.nd .lf 210 ti210 .lf) 212 ti212 (.nd .lf 254 ti254 .lf))) 270 ti270 (.nd (.nd (.nd .lf 275 ti275 .lf) 277 ti277 (.nd .lf 322 ti322 .lf)) 330 ti330 (.nd (.nd .lf 427 ti427 .lf) 511 ti511 .lf)))))
theorem inf_ok:InfoOk Tryz.prog TB inf:=(find_nd kp5 (find_nd ti49_ok (find_nd ti27_ok (find_nd ti9_ok (find_nd ti4_ok (find_nd ti3_ok kc kc) (find_nd ti5_ok kc kc)) (find_nd ti24_ok (find_nd ti23_ok kc kc) (find_nd ti26_ok kc kc))) (find_nd ti39_ok (find_nd ti34_ok (find_nd ti28_ok kc kc) (find_nd ti37_ok kc kc)) (find_nd ti44_ok (find_nd ti41_ok kc kc) (find_nd ti47_ok kc kc)))) (find_nd ti90_ok (find_nd ti75_ok (find_nd ti60_ok (find_nd ti57_ok kc kc) (find_nd ti73_ok kc kc)) (find_nd ti83_ok (find_nd ti78_ok kc kc) (find_nd ti88_ok kc kc))) (find_nd kpm (find_nd ti95_ok (find_nd ti92_ok kc kc) (find_nd kom kc kc)) (find_nd ko9 (find_nd kqf kc kc) kc)))) (find_nd ko4 (find_nd kpp (find_nd kq0 (find_nd kpi (find_nd ko5 kc kc) (find_nd kox kc kc)) (find_nd kp8 (find_nd kp1 kc kc) (find_nd kob kc kc))) (find_nd kq1 (find_nd kof (find_nd kpq kc kc) (find_nd koy kc kc)) (find_nd knz (find_nd kos kc kc) kc))) (find_nd kp3 (find_nd kq4 (find_nd kpy (find_nd kq6 kc kc) (find_nd kpo kc kc)) (find_nd koz (find_nd kpn kc kc) (find_nd kpj kc kc))) (find_nd kp0 (find_nd kou (find_nd kph kc kc) (find_nd kov kc kc)) (find_nd kpw (find_nd kp4 kc kc) kc)))))
theorem mix:Tryz.prog.follows .mixedOrders=true:=by kernel_rfl
theorem Bs:Base Tryz.prog TB inf:=⟨TBok,inf_ok,mix⟩
def x81:XCon TB.den:=⟨81,[.int .u64,.int .u64,.int .u64],[.int .u64,.int .u64],fun x=>(fun(a0 a1 a2:Int)=>0<=a0/\0<=a1/\0<=a2/\a2<=1) x.1 x.2.1 x.2.2.1,fun x=>((fun(a0 a1 a2:Int)=>(a0+a1+a2)%18446744073709551616) x.1 x.2.1 x.2.2.1,(fun(a0 a1 a2:Int)=>(a0+a1+a2)/18446744073709551616) x.1 x.2.1 x.2.2.1,())⟩
theorem x81_ok:x81.Ok Tryz.prog TB:=⟨rfl,fun x h=>kkb Tryz.func81 qqk qqk qqk qqk x.1 x.2.1 x.2.2.1 h.1 h.2.1 h.2.2.1 h.2.2.2⟩
abbrev yqi:Ty:= .int .i64
abbrev yqu:Ty:= .int .u64
abbrev yqb:Ty:= .int .u8
abbrev zqi:Sh1:= .d yqi
abbrev zqu:Sh1:= .d yqu
abbrev zqb:Sh1:= .d yqb
abbrev zql:Sh1:= .d (.sl yqu)
abbrev yL1:List Ty:=[yqi,yqi,.sl yqu]
abbrev yK1:List Ty:=[.sl yqb,.sl yqu]
abbrev yJ1:List OSh:=[.map yqu (.bool)]
abbrev yI1:List Ty:=[.sl yqb,yqi,.bool]
abbrev yH1:List Ty:=[yqi,yqi,yqi,.sl yqu]
abbrev yG1:List OSh:=[.cells [zqu,zqu,zqu]]
abbrev yF1:List OSh:=[.vec yqu,.cells [zqi]]
abbrev yE1:List Ty:=[yqi,.sl yqb,yqi,.bool]
abbrev yD1:List OSh:=[.cells [.mp 1],.map yqu (.bool)]
abbrev yC1:List Sh1:=[zqi,zqi,zqi,zqi,zqi,zqu,zqi,zqi,zqu]
abbrev yB1:List OSh:=[.cells [.d (.sl yqb),zqi,.d (.bool)]]
abbrev yA1:List Sh1:=[zqu,zqi,zqu,zqu,zqu,.d (.sl (.st 2))]
abbrev yZ:List Sh1:=[zqi,zqu,zql,zql,zql,zqu,zqu,zqu,zqu,zqu]
abbrev yY:List Sh1:=[.d (.bool),zqu,zqi,.d (.sl (.st 4)),.mp 4,.mp 5,.mp 6]
abbrev yX:List Sh1:=[zqu,zql,.d (.sl (.st 1)),zqu,zqu,zqu,zqu,zqu,zqi,.d (.sl yqb)]
abbrev yW:List Sh1:=[.ptr 1 0,zqi,zqi,zqi,zqi,zqi,zqu,zqi,zqi,zqu,.mp 2,zql,.ptr 3 0,zqu,zqi]
abbrev yV:List OSh:=[.cells [.own 2,.own 3,zqu],.cells [.d (.sl yqb),zqi,.d (.bool)],.tip (.st 14),.tip (.st 15)]
abbrev yU:List Ty:=[.bool,yqu,yqi,.sl (.st 4),.sl (.str),.sl yqi,.sl (.str),.sl (.sl yqu),.sl (.str),.sl (.bool)]
abbrev yT:List Ty:=[yqi,.bool,yqu,yqi,.sl (.st 4),.sl (.str),.sl yqi,.sl (.str),.sl (.sl yqu),.sl (.str),.sl (.bool)]
abbrev yS:List Ty:=[.st 0,.bool,yqu,yqi,.sl (.st 4),.sl (.str),.sl yqi,.sl (.str),.sl (.sl yqu),.sl (.str),.sl (.bool)]
abbrev yR:List Ty:=[.bool,.bool,yqu,yqi,.sl (.st 4),.sl (.str),.sl yqi,.sl (.str),.sl (.sl yqu),.sl (.str),.sl (.bool)]
abbrev yQ:List Sh1:=[zqi,zqi,zqi,zqi,zqi,zqu,zqi,zqi,zqu,zqi,zqi,zql,.row 7,.ptr 8 0,.d (.sl (.st 9)),zqu,.row 9,.row 10]
abbrev yP:List Ty:=[yqu,.bool,.bool,yqu,yqi,.sl (.st 4),.sl (.str),.sl yqi,.sl (.str),.sl (.sl yqu),.sl (.str),.sl (.bool)]
abbrev yO:List Ty:=[yqi,yqi,yqi,yqi,yqi,yqu,yqi,yqi,yqu,yqi,yqi,.sl yqu,.sl (.st 9),yqu,.sl yqu,.sl yqu,.sl (.st 10),.sl yqu,.sl (.bool)]
abbrev yN:List OSh:=[.map (.str) (.bool),.map (.str) (.sl yqu),.map (.str) yqi,.cells [.d (.bool),zqu,zqi,.d (.sl (.st 4)),.mp 2,.mp 1,.mp 0]]
abbrev yM:List OSh:=[.cells [.d (.bool),zqu,zqi,.d (.sl (.st 4)),.mp 1,.mp 2,.mp 3],.map (.str) yqi,.map (.str) (.sl yqu),.map (.str) (.bool)]
abbrev yL:List Ty:=[yqi,yqi,yqi,yqi,yqi,yqi,yqu,yqi,yqi,yqu,yqi,yqi,.sl yqu,.sl (.st 9),yqu,.sl yqu,.sl yqu,.sl (.st 10),.sl yqu,.sl (.bool)]
abbrev yK:List Ty:=[yqi,yqi,yqi,yqi,yqi,yqi,yqu,yqi,yqi,yqu,yqi,yqi,.sl yqu,.sl (.st 9),yqu,yqi,yqi,.sl yqu,yqi,.sl (.st 9),yqu,.sl yqu,.sl (.st 10),.sl yqu,.sl yqu,.sl (.bool),.sl yqu]
abbrev yJ:List OSh:=[.map yqu (.bool),.cells [.mp 0],.cells [zqi,zqi,zqi,zqi,zqi,zqu,zqi,zqi,zqu,zqi,zqi,zql,.row 3,.ptr 1 0,.d (.sl (.st 9)),zqu,.row 4,.row 5],.vec yqu,.vec yqu,.vec (.st 10)]
abbrev yI:List OSh:=[.cells [zqi,zqi,zqi,zqi,zqi,zqu,zqi,zqi,zqu,zqi,zqi,zql,.row 1,.ptr 2 0,.d (.sl (.st 9)),zqu,.row 3,.row 4],.vec yqu,.cells [.mp 5],.vec yqu,.vec (.st 10),.map yqu (.bool)]
abbrev yH:List OSh:=[.cells [zqi,zqi,zqi,zqi,zqi,zqu,zqi,zqi,zqu,zqi,zqi,zql,.row 6,.ptr 2 0,.d (.sl (.st 9)),zqu,.row 7,.row 8],.dead,.cells [.mp 5],.dead,.dead,.map yqu (.bool),.vec yqu,.vec yqu,.vec (.st 10)]
abbrev yG:List Ty:=[yqu,yqi,.sl (.st 4),yqi,yqi,yqi,yqi,yqi,yqu,yqi,yqi,yqu,yqi,yqi,.sl yqu,.sl (.st 9),yqu,.sl yqu,.sl (.st 11),.sl (.str),.sl yqi,.sl (.str),.sl (.sl yqu),.sl (.str),.sl (.bool),.sl yqu,.sl (.bool),.sl yqu,.sl yqu,.sl (.st 10)]
abbrev yF:List Ty:=[yqu,yqi,.sl (.st 4),yqi,yqi,yqi,yqi,yqi,yqu,yqi,yqi,yqu,yqi,yqi,.sl yqu,.sl (.st 9),yqu,.sl yqu,.sl (.st 11),.sl (.str),.sl yqi,.sl (.str),.sl (.sl yqu),.sl (.str),.sl (.bool),.sl yqu,.sl yqu,.sl (.st 10),.sl yqu,.sl (.bool)]
abbrev yE:List Ty:=[yqi,.sl (.st 4),yqi,yqi,yqi,yqi,yqi,yqu,yqi,yqi,yqu,yqi,yqi,.sl yqu,.sl (.st 9),yqu,.sl yqu,.sl (.st 11),.sl yqu,.sl (.str),.sl yqi,.sl (.str),.sl (.sl yqu),.sl (.str),.sl (.bool),.sl yqu,.sl yqu,.sl (.st 10),.sl yqu,.sl (.bool)]
abbrev yD:List OSh:=[.cells [zqi,zqi,zqi,zqi,zqi,zqu,zqi,zqi,zqu,zqi,zqi,zql,.row 2,.ptr 3 0,.d (.sl (.st 9)),zqu,.row 4,.row 5],.cells [zqi,zqi,zql,zqi,.own 6,.d (.sl (.st 9)),zqu],.vec yqu,.cells [.mp 7],.vec yqu,.vec (.st 10),.tip yqu,.map yqu (.bool)]
abbrev yC:List OSh:=[.cells [zqi,zqi,zqi,zqi,zqi,zqu,zqi,zqi,zqu,zqi,zqi,zql,.row 8,.ptr 3 0,.d (.sl (.st 9)),zqu,.row 4,.row 5],.cells [zqi,zqi,zql,zqi,.own 6,.d (.sl (.st 9)),zqu],.dead,.cells [.mp 7],.vec yqu,.vec (.st 10),.tip yqu,.map yqu (.bool),.vec yqu]
abbrev yB:List OSh:=[.cells yW,.cells yY,.map yqu (.st 11),.cells yQ,.map (.str) yqi,.map (.str) (.sl yqu),.map (.str) (.bool),.vec yqu,.cells [.mp 11],.vec yqu,.vec (.st 10),.map yqu (.bool)]
abbrev yA:List OSh:=[.cells yW,.cells yY,.map yqu (.st 11),.cells [zqi,zqi,zqi,zqi,zqi,zqu,zqi,zqi,zqu,zqi,zqi,zql,.row 12,.ptr 8 0,.d (.sl (.st 9)),zqu,.row 13,.row 14],.map (.str) yqi,.map (.str) (.sl yqu),.map (.str) (.bool),.dead,.cells [.mp 11],.dead,.dead,.map yqu (.bool),.vec yqu,.vec yqu,.vec (.st 10)]
end Go.Proofs.YtcghahkoioeddaaGreatDoor
namespace Go.Bv
open Go.RowKit Go.Deep
def limOf (w:World) (b:Nat):Nat:=match w.heap[b]? with
 |some (.cells c _ _)=>c.size
 |_=>0
theorem kmh {w:World} {b o:Nat} {v:Value} (h:w.cell? ⟨b,o,none⟩=some v):o<limOf w b:=by
 unfold World.cell? at h;unfold limOf;simp only at h;split at h
 ·rename_i c _ _ hh;rw[hh];simp only[Option.isSome_none,qbd,qdl]at h;exact(qdx.1 h).1
 ·cases h
def isAggT (P:Program) (e:TypeId):Bool:=match P.underlying e with
 |some (.struct _)=>true
 |some (.array _ _)=>true
 |_=>false
def mkD (P:Program) (e:TypeId) (cs:List D):D:=if isAggT P e then .agg cs else cs.headD (.bool false)
def tiles (P:Program) (tot:Nat):List (TypeId×Nat)->Nat->Bool
 |[],o=>o==tot
 |p::r,o=>p.2==o&&tiles P tot r (o+P.cellsOf p.1)
def fsOf (fs:Array Field):List (TypeId×Nat):=fs.toList.map fun f=>(f.type,f.offset)
def arOf (P:Program) (n:Nat) (e:TypeId):List (TypeId×Nat):=(List.range n).map fun i=>(e,i*P.cellsOf e)
def dataT (P:Program):Nat->TypeId->Bool
 |0,_=>false
 |k+1,t=>match P.underlying t with
  |some .bool=>true
  |some (.int _)=>true
  |some .string=>true
  |some (.slice e)=>decide (0<P.cellsOf e)&&dataT P k e
  |some (.struct fs)=>tiles P (P.cellsOf t) (fsOf fs) 0&&(fsOf fs).all fun p=>dataT P k p.1
  |some (.array n e)=>tiles P (P.cellsOf t) (arOf P n e) 0&&dataT P k e
  |_=>false
def RelFs {H:Type} (R:TypeId->List D->DataW H->Prop):List (TypeId×Nat)->List D->List (DataW H)->Prop
 |[],ds,ps=>ds=[]/\ps=[]
 |t::ts,ds,ps=>∃d1 d2 p qs,R t.1 d1 p/\RelFs R ts d2 qs/\ds=d1++d2/\ps=p::qs
def Rel {H:Type} (P:Program):Nat->TypeId->List D->DataW H->Prop
 |0,_,_,_=>False
 |k+1,t,ds,d=>match P.underlying t with
  |some .bool=>∃b,ds=[.bool b]/\d= .lit (.bool b)
  |some (.int q)=>∃i,ds=[.int q i]/\d= .lit (.int q i)/\(Lit.int q i).wf=true
  |some .string=>∃s:ByteArray,ds=[.str s]/\d= .lit (.string s.data.toList)
  | some (.slice e)=>∃l:List (List D),ds=[.slice (P.cellsOf e) (l.map (mkD P e))]/\l.length<=maxLen/\
    ((l=[]/\d= .nil)∨∃elems spare,d= .slice elems spare/\l.length=elems.length/\∀(j:Nat) (x:List D) (y:DataW H),l[j]? =some x->elems[j]? =some y->Rel P k e x y)
  |some (.struct fs)=>∃ps,d= .agg ps/\RelFs (Rel P k) (fsOf fs) ds ps
  |some (.array n e)=>∃ps,d= .agg ps/\RelFs (Rel P k) (arOf P n e) ds ps
  |_=>False
def Holds (w:World) (cs:List Value) (ds:List D):Prop:=ds.length=cs.length/\∀(j:Nat) (v:Value) (c:D),cs[j]? =some v->ds[j]? =some c->RepD (limOf w) w v c
theorem Holds.append {w:World} {a b:List Value} {x y:List D} (h1:Holds w a x) (h2:Holds w b y):Holds w (a++b) (x++y):=by
 refine⟨by simp[h1.1,h2.1],fun j v c hv hc=> ?_⟩;by_cases hj:j<a.length
 ·rw[qap hj]at hv;rw[qap (by rw[h1.1];exact hj)]at hc;exact h1.2 j v c hv hc
 ·rw[qaw qqo]at hv;rw[qaw (by rw[h1.1];omega),h1.1]at hc;exact h2.2 _ v c hv hc
theorem Holds.one {w:World} {v:Value} {d:D} (h:RepD (limOf w) w v d):Holds w [v] [d]:=by
 refine⟨rfl,fun j u c hu hc=> ?_⟩;cases j with
 |zero=>simp at hu hc;subst hu;subst hc;exact h
 |succ j=>simp at hu
section
variable {H:Type} {P:Program} {w:World} {cs:List Value}
theorem ka1 {tot:Nat} (htot:cs.length=tot) (ok:Value->Prop) (hok:∀v∈cs,ok v) (R:TypeId->List D->DataW H->Prop) (g:TypeId->List Value->Option (DataW H×List MemPlace)):
  ∀(L:List (TypeId×Nat)) (o:Nat) (xs:List (DataW H×List MemPlace)),tiles P tot L o=true->xs.length=L.length->
   (∀p∈L,∀cs' y,(∀v∈cs',ok v)->g p.1 cs' =some y->∃ds,Holds w cs' ds/\R p.1 ds y.1)->
   (∀(i:Nat) (p:TypeId×Nat),L[i]? =some p->g p.1 ((cs.drop p.2).take (P.cellsOf p.1))=xs[i]?)->
   ∃ds,Holds w (cs.drop o) ds/\RelFs R L ds (xs.map (·.1))
 |[],o,xs,ht,hl,_,_=>by
  simp[tiles]at ht;have:xs=[]:=by simpa using hl
  subst this;refine⟨[],⟨?_,?_⟩,rfl,rfl⟩
  ·simp;omega
  ·intro j v c _ hc;simp at hc
 |p::L,o,xs,ht,hl,hg,hx=>by
  simp[tiles]at ht;obtain⟨h0,ht⟩:=ht;cases xs with
  |nil=>simp at hl
  |cons y ys=>have h1:=hx 0 p rfl;simp only[qdn]at h1;obtain⟨d1,hd1,hr1⟩:=hg p qqs _ y (fun v hv=>hok v (qbo (qat hv))) h1;obtain⟨d2,hd2,hr2⟩:=ka1 htot ok hok R g L (o+P.cellsOf p.1) ys ht (by simpa using hl) (fun q hq=>hg q (by simp[hq])) (fun i q hq=>by simpa using hx (i+1) q (by simpa using hq));refine⟨d1++d2,?_,d1,d2,y.1,_,hr1,hr2,rfl,rfl⟩;have:=hd1.append hd2;rw[h0,<-qfc,qbs]at this;exact this
end
section
variable {H:Type} {enc:TypeId×Value->H} {P:Program} {w:World}
theorem rel_mk {k:Nat} {e:TypeId} {x:List D} {d:DataW H} (hr:Rel P k e x d) (h1:∀c∈x,c.one=true):(mkD P e x).cells=x:=by
 cases k with
 |zero=>exact hr.elim
 |succ k=>
  unfold mkD;split
  ·rfl
  ·rename_i ha;unfold Rel at hr;split at hr
   ·obtain⟨b,rfl,_⟩:=hr;rfl
   ·obtain⟨b,rfl,_⟩:=hr;rfl
   ·obtain⟨b,rfl,_⟩:=hr;rfl
   ·obtain⟨b,rfl,_⟩:=hr;rfl
   ·rename_i h;exact absurd (by simp[isAggT,h]) ha
   ·rename_i h;exact absurd (by simp[isAggT,h]) ha
   ·exact hr.elim
theorem k51:∀(k:Nat) (t:TypeId),dataT P k t=true->∀(n:Nat) (cs:List Value) (y:DataW H×List MemPlace),
  DataW.trod enc P w 0 (fun _=>true) true n t cs=some y->∃ds,Holds w cs ds/\Rel P k t ds y.1
 |0,_,h=>by cases h
 |k+1,t,hT=>by
  intro n cs y h;unfold dataT at hT;split at hT
  ·rename_i hu;obtain⟨b,rfl,rfl⟩:=DataW.trod_bool hu h;exact⟨[.bool b],Holds.one (.bool b),by simp[Rel,hu]⟩
  ·rename_i q hu;obtain⟨i,rfl,rfl,hw⟩:=DataW.trod_int hu h;exact⟨[.int q i],Holds.one (.int q i),by simp[Rel,hu,hw]⟩
  ·rename_i hu;obtain⟨s,rfl,rfl,hs⟩:=DataW.trod_string hu h;exact⟨[.str s],Holds.one (.str s),by simp only[Rel,hu];exact⟨s,rfl,rfl⟩⟩
  ·rename_i e hu;simp only[qg,qaf]at hT;obtain⟨hpos,hT⟩:=hT;rcases open_slice hu h with⟨rfl,rfl⟩|⟨a,len,cap,m,n',Dd,Pl,rfl,_,hlc,hcm,hm,rfl,hel⟩
   ·exact⟨[.slice (P.cellsOf e) []],Holds.one (.nil none _),by simp only[Rel,hu];exact⟨[],rfl,qbg _,.inl ⟨by trivial,by trivial⟩⟩⟩
   ·simp only[qce]at hm;subst hm;by_cases hm0:m=0
    ·subst hm0;have hl0:len=0:=by omega
     subst hl0;refine⟨[.slice (P.cellsOf e) []],Holds.one (.nil (some a) _),?_⟩;simp only[Rel,hu];exact⟨[],rfl,qbg _,.inr ⟨_,_,rfl,by simp,by intro j x y hx;simp at hx⟩⟩
    have hel' :∀i,i<len->∃x:List D,∃cs',w.cells? 0 (a.add (i*P.cellsOf e)) (P.cellsOf e)=some cs'/\Holds w cs' x/\Rel P k e x (Dd i):=by intro i hi;obtain⟨cs',h1,h2⟩:=hel i qqo;obtain⟨ds,h3,h4⟩:=k51 k e hT n' cs' _ h2;exact⟨ds,cs',h1,h3,h4⟩
    obtain⟨f,hf⟩:=choose_lt hel'
    have hspot:a.spot=none:=by
     obtain⟨cs',h1,h2⟩:=hel 0 qqo;have h3:=(World.cells?_some h1).2.2 0 qqo;have h4:=(World.cells?_some h1).2.1;rw[qd qqo]at h3;unfold World.cell? at h3;split at h3
     ·split at h3
      ·cases h3
      ·rename_i hs;simpa[Addr.add]using hs
     ·cases h3
    obtain⟨b,off,sp⟩:=a;simp only at hspot;subst hspot
    have hone:∀i,i<len->∀c∈f i,c.one=true:=by
     intro i hi c hc;obtain⟨cs',h1,h2,h3⟩:=hf i hi;obtain⟨j,hj⟩:=qcf hc;have hjl:j<cs'.length:=by rw[<-h2.1];exact(qf.1 hj).1
     exact(h2.2 j _ c (qd hjl) hj).done
    have hmk:∀i,i<len->(mkD P e (f i)).cells=f i:=fun i hi=>by obtain⟨cs',h1,h2,h3⟩:=hf i hi;exact rel_mk h3 (hone i hi)
    have hsz:∀d∈((List.range len).map f).map (mkD P e),d.cells.length=P.cellsOf e/\∀c∈d.cells,c.one=true:=by intro d hd;simp only[qbi,qag,List.mem_range,Function.comp]at hd;obtain⟨i,hi,rfl⟩:=hd;obtain⟨cs',h1,h2,h3⟩:=hf i hi;rw[hmk i hi];exact⟨by rw[h2.1];exact(World.cells?_some h1).2.1,hone i hi⟩
    have hget:∀i,i<len->(((List.range len).map f).map (mkD P e))[i]? =some (mkD P e (f i)):=by intro i hi;simp[ql,qev hi]
    have hfl:=ki hsz;simp only[qm,List.length_range]at hfl
    have hat:∀(j:Nat) (u:Value),((List.range (len*P.cellsOf e)).map fun j=>(w.cell? ⟨b,off+j,none⟩).getD undef)[j]? =some u->j<len*P.cellsOf e/\w.cell? ⟨b,off+j,none⟩=some u:=by
     intro j u hu;have hj:j<len*P.cellsOf e:=by simpa using(qf.1 hu).1
     refine⟨hj,?_⟩;simp only[ql,qev hj,qax,qah]at hu;have hi:j/P.cellsOf e<len:=by rw[qfj hpos];exact hj
     have hr:j%P.cellsOf e<P.cellsOf e:=Nat.mod_lt _ hpos;obtain⟨cs',h1,h2,h3⟩:=hf _ hi;have e1:j/P.cellsOf e*P.cellsOf e+j%P.cellsOf e=j:=by rw[qee];exact Nat.div_add_mod j _
     have h4:=(World.cells?_some h1).2.2 _ hr;have h5:=(World.cells?_some h1).2.1;have e2:(Addr.add ⟨b,off,none⟩ (j/P.cellsOf e*P.cellsOf e)).add (j%P.cellsOf e)=⟨b,off+j,none⟩:=by rw[add_add,e1];simp[Addr.add]
     rw[e2,qd qqo]at h4;rw[h4]at hu ⊢;simpa using hu
    refine⟨[.slice (P.cellsOf e) (((List.range len).map f).map (mkD P e))],Holds.one ?_,?_⟩
    ·have:=RepD.slice (m:=limOf w) (w:=w) b off m (P.cellsOf e) (((List.range len).map f).map (mkD P e)) ((List.range (len*P.cellsOf e)).map fun j=>(w.cell? ⟨b,off+j,none⟩).getD undef) (by simpa using hlc) hcm hsz (by rw[hfl];simp) ?_ ?_
     ·simpa using this
     ·intro j u hu;obtain⟨hj,hcell⟩:=hat j u hu;exact⟨kmh hcell,hcell⟩
     ·intro j u c hu hc;obtain⟨hj,hcell⟩:=hat j u hu;have hi:j/P.cellsOf e<len:=by rw[qfj hpos];exact hj
      have hr:j%P.cellsOf e<P.cellsOf e:=Nat.mod_lt _ hpos;obtain⟨cs',h1,h2,h3⟩:=hf _ hi;have e1:j/P.cellsOf e*P.cellsOf e+j%P.cellsOf e=j:=by rw[qee];exact Nat.div_add_mod j _
      rw[<-e1,k7p hsz (hget _ hi) _ hr,hmk _ hi]at hc;refine h2.2 _ u c ?_ hc;rw[<-(World.cells?_some h1).2.2 _ hr,<-hcell];congr 1;rw[add_add,e1];simp[Addr.add]
    ·simp only[Rel,hu];refine⟨(List.range len).map f,rfl,by simp;omega,.inr ⟨_,_,rfl,by simp,?_⟩⟩;intro j x y hx hy;have hj:j<len:=by simpa using(qf.1 hx).1
     simp only[ql,qev hj,qax,qah]at hx hy;subst hx;subst hy;obtain⟨_,_,_,h3⟩:=hf j hj;exact h3
  ·rename_i fs hu;simp only[qg]at hT;obtain⟨xs,n',rfl,rfl,hl,hxl,hx⟩:=DataW.trod_struct hu h
   obtain⟨ds,h1,h2⟩:=ka1 (P:=P) hl (fun _=>True) (fun _ _=>trivial) (Rel P k) (fun t c=>DataW.trod enc P w 0 (fun _=>true) true n' t c) (fsOf fs) 0 xs hT.1 (by simp[fsOf,hxl])
    (fun p hp cs' y _ hy=>k51 k p.1 (qbw.1 hT.2 p hp) n' cs' y hy)
    (fun i p hp=>by
     simp only[fsOf,ql,qv]at hp;obtain⟨f,hf,rfl⟩:=hp;exact hx i f (by simpa using hf))
   exact⟨ds,by simpa using h1,by simp only[Rel,hu];exact⟨_,rfl,h2⟩⟩
  ·rename_i m e hu;simp only[qg]at hT;obtain⟨xs,n',rfl,rfl,hl,hxl,hx⟩:=DataW.trod_array hu h
   obtain⟨ds,h1,h2⟩:=ka1 (P:=P) hl (fun _=>True) (fun _ _=>trivial) (Rel P k) (fun t c=>DataW.trod enc P w 0 (fun _=>true) true n' t c) (arOf P m e) 0 xs hT.1 (by simp[arOf,hxl])
    (fun p hp cs' y _ hy=>by
     simp only[arOf,qag]at hp;obtain⟨i,_,rfl⟩:=hp;exact k51 k e hT.2 n' cs' y hy)
    (fun i p hp=>by
     simp only[arOf,ql,qv]at hp;obtain⟨f,hf,rfl⟩:=hp;obtain⟨hi,rfl⟩:=qf.1 hf;have hi' :i<m:=by simpa using hi
     simpa using hx i hi')
   exact⟨ds,by simpa using h1,by simp only[Rel,hu];exact⟨_,rfl,h2⟩⟩
  ·cases hT
end
end Go.Bv
namespace Go.Bv
open Go.RowKit Go.ChangeShapes Go.WideShapes
def G0 (W:World):Gh:=⟨fun _=>none,fun _=>none,limOf W⟩
def vOf (P:Program) (t:TypeId) (ds:List D):V:=if isAggT P t then .agg (ds.map V.d)else .d (ds.headD (.bool false))
section
variable {H:Type} {enc:TypeId×Value->H} {P:Program} {W:World}
theorem arg_rep {k:Nat} {r:Reach} {base:Nat} {t:TypeId} {v:Value} {d:DataW H} {ps:List MemPlace} {h:Hp} {nx:Nat} (hT:dataT P k t=true) (hval:Value.okWide P W r base t v)
  (hd:DataW.Trod enc P W 0 (fun _=>true) true t v d ps):∃ds,Rel P k t ds d/\RepV (G0 W) W h nx v (vOf P t ds):=by
 obtain⟨n,hn⟩:=hd;by_cases ha:isAggT P t=true
 ·have hval' :∃cs,v= .agg cs/\cs.size=P.cellsOf t/\Row.okWide P W r base t cs:=by
   unfold isAggT at ha;unfold Value.okWide at hval;split at ha
   ·rename_i h1;rw[h1]at hval;exact hval
   ·rename_i h1;rw[h1]at hval;exact hval
   ·cases ha
  obtain⟨cs,rfl,_,ts,_,_,hc⟩:=hval';obtain⟨ds,h1,h2⟩:=k51 k t hT n cs.toList _ hn;refine⟨ds,h2,?_⟩;unfold vOf;rw[qh ha];have:=RepV.agg (G:=G0 W) (w:=W) (h:=h) (nx:=nx) cs.toList (ds.map V.d) (by simpa using h1.1.symm) ?_ ?_
  ·simpa using this
  ·intro x hx;obtain⟨c,hcm,rfl⟩:=qag.1 hx;obtain⟨j,hj⟩:=qcf hcm;have hjl:j<cs.toList.length:=by have:=h1.1;have:=(qf.1 hj).1;simp[Value.cells]at *;omega
   exact(h1.2 j _ c (qd hjl) hj).done
  ·intro j u x hu hx;rw[ql,qv]at hx;obtain⟨c,hcj,rfl⟩:=hx;exact .d _ _ (h1.2 j u c hu hcj)
 ·have hval' :Cell.okWide P W r base t v:=by
   unfold Value.okWide at hval;split at hval
   ·rename_i h1;exact absurd (by simp[isAggT,h1]) ha
   ·rename_i h1;exact absurd (by simp[isAggT,h1]) ha
   ·exact hval
  have hcs:v.cells.toList=[v]:=by
   cases v with
   |agg cs=>
    exfalso;unfold Cell.okWide Cell.ok at hval';split at hval'
    all_goals first|(split at hval';all_goals simp_all)|simp_all
   |_=>rfl
  rw[hcs]at hn;obtain⟨ds,h1,h2⟩:=k51 k t hT n _ _ hn;refine⟨ds,h2,?_⟩;unfold vOf;rw[qe ha];have hl:=h1.1
  match ds,hl with
  |[c],_=>exact .d _ _ (h1.2 0 v c rfl rfl)
theorem law_of {f:FuncId} {xs:List V} {r:V} (hS:SoundH P f xs [] r []) {vs:List Value} (hlen:vs.length=xs.length)
  (hrep:∀(j:Nat) (v:Value) (x:V),vs[j]? =some v->xs[j]? =some x->RepV (G0 W) W [] 0 v x):
  Calls P f vs.toArray W fun e W' =>(∃v G',e= .returned v/\RepV G' W' [] 0 v r)/\Below W.heap.size W W' :=by
 refine(hS (G0 W) W vs hlen hrep ?_).mono fun e W' hh=> ?_
 ·refine⟨?_,?_,?_,?_,?_,?_⟩
  ·intro id l h;simp[hpOf,Hp.get]at h
  ·intro id es h;simp[hpOf,Hp.get]at h
  ·intro id b h;simp at h
  ·intro i j b h;simp at h
  ·intro id ob h;simp[hpOf,Hp.get]at h
  ·intro b hb;show limOf W b=0;unfold limOf;rw[Array.getElem?_eq_none hb]
 ·obtain⟨v,G',rfl,h1,h2,h3,h4⟩:=hh;refine⟨⟨v,G',rfl,h1⟩,h3.os,h3.tape,h3.output,h3.size,fun b hb=>(h3.same b hb ?_).1⟩;rintro ⟨i,hi,_⟩;simp at hi
def typesOk (P:Program) (ts:List TypeId):Bool:=ts.all fun t=>P.readableRec t&&decide (t<P.types.size)
theorem k8k (hl:laidOutB P=true) {W' :World} (hb:Below W.heap.size W W'):∀{ts:List TypeId} {vs:List Value} {ds:List (DataW H)} {ps:List MemPlace},typesOk P ts=true->
  DataW.TrodAll enc P W 0 (fun _=>true) true ts vs ds ps->(∀x∈ps,x.block<W.heap.size)->DataW.TrodAll enc P W' 0 (fun b=>decide (b<W.heap.size)) true ts vs ds ps
 |[],[],[],_,_,h,_=>h
 |[],[],_::_,_,_,h,_=>h.elim
 |[],_::_,_,_,_,h,_=>h.elim
 |_::_,[],_,_,_,h,_=>h.elim
 |_::_,_::_,[],_,_,h,_=>h.elim
 |t::ts,v::vs,d::ds,ps,ht,h,hp=>by simp only[typesOk,qeu,qg,qaf]at ht;obtain⟨p,q,h1,h2,rfl⟩:=h;exact⟨p,q,Below.trod hl ht.1.1 ht.1.2 h1 hb (fun x hx=>hp x (by simp[hx])),k8k hl hb (by simpa[typesOk]using ht.2) h2 (fun x hx=>hp x (by simp[hx])),rfl⟩
theorem rel_int {k:Nat} {t:TypeId} {q:IntKind} {ds:List D} {d:DataW H} (hu:P.underlying t=some (.int q)) (h:Rel P (k+1) t ds d):∃i,ds=[.int q i]/\d= .lit (.int q i)/\(Lit.int q i).wf=true:=by unfold Rel at h;rw[hu]at h;exact h
theorem kme {k:Nat} {t:TypeId} {fs:Array Field} {ds:List D} {d:DataW H} (hu:P.underlying t=some (.struct fs)) (h:Rel P (k+1) t ds d):∃ps,d= .agg ps/\RelFs (Rel P k) (fsOf fs) ds ps:=by unfold Rel at h;rw[hu]at h;exact h
theorem kne {k:Nat} {t e:TypeId} {n:Nat} {ds:List D} {d:DataW H} (hu:P.underlying t=some (.array n e)) (h:Rel P (k+1) t ds d):∃ps,d= .agg ps/\RelFs (Rel P k) (arOf P n e) ds ps:=by unfold Rel at h;rw[hu]at h;exact h
theorem kn3 {k:Nat} {t e:TypeId} {ds:List D} {d:DataW H} {α:Type} [Inhabited α] (f:α->D) (p:α->Prop) (hu:P.underlying t=some (.slice e)) (h:Rel P (k+1) t ds d)
  (tp:∀(x:List D) (y:DataW H),Rel P k e x y->∃a,mkD P e x=f a/\p a):
  ∃l:List α,ds=[.slice (P.cellsOf e) (l.map f)]/\l.length<=maxLen/\(∀a∈l,p a)/\((l=[]/\d= .nil)∨∃elems spare,d= .slice elems spare/\l.length=elems.length):=by
 unfold Rel at h;rw[hu]at h;obtain⟨l,rfl,hmx,h⟩:=h;rcases h with⟨rfl,rfl⟩|⟨elems,spare,rfl,hlen,hh⟩
 ·exact⟨[],rfl,qbg _,by simp,.inl ⟨rfl,rfl⟩⟩
 ·have:∀i,i<l.length->∃a,mkD P e (l.getD i [])=f a/\p a:=by intro i hi;refine tp _ _ (hh i _ _ ?_ (qd qqo));simp[qd hi]
  obtain⟨g,hg⟩:=Deep.choose_lt this;refine⟨(List.range l.length).map g,?_,by simpa using hmx,?_,.inr ⟨elems,spare,rfl,by simpa using hlen⟩⟩
  ·have:l.map (mkD P e)=((List.range l.length).map g).map f:=by rw[Deep.map_by_index l [] (mkD P e),qbi];refine qar fun i hi=> ?_;exact(hg i (by simpa using hi)).1
   rw[this]
  ·intro a ha;obtain⟨i,hi,rfl⟩:=qag.1 ha;exact(hg i (by simpa using hi)).2
theorem kqe {fn:Func} {s:ChangeSpec} {W' :World} {args:Array Value} {ds:List (DataW H)} {before:List MemPlace} {tb:TypeId} (hv:s.vars=[]) (hW:DataW.Whole enc P fn.params.toList s.vars false W args.toList ds [] before)
  (hl:laidOutB P=true) (hty:typesOk P fn.params.toList=true) (hr:fn.resultTypes= #[tb]) (hub:P.underlying tb=some .bool)
  (h1:(s.fn H (ds++[])).results=[.lit (.bool true)]) (h2:(s.fn H (ds++[])).args=ds) (h3:(s.fn H (ds++[])).vars=[]) (hb:Below W.heap.size W W'):
  s.post enc P fn false true false false W args (.bool true) W' :=by
 have hW' :=hW;obtain⟨p,q,hA,hV,rfl,_,_⟩:=hW;have hq:q=[]:=by rw[hv]at hV;exact hV
 subst hq;refine⟨ds,[],p++[],[],p,[],hW',?_,?_,?_,hb.frame _,fun h=>by cases h⟩
 ·rw[h1,hr];exact trodAll_cons_mk (shut_bool hub _) trodAll_mk0
 ·rw[h2];exact k8k hl hb hty hA (fun x hx=>by simpa using hW'.lt x (by simpa using hx))
 ·rw[hv,h3];rfl
end
structure RelH {H:Type} (P:Program) (k:Nat) (t:TypeId) (ds:List D) (d:DataW H):Prop where
 h:Rel P k t ds d
section
variable {H:Type} {enc:TypeId×Value->H} {P:Program} {W:World} {k:Nat}
theorem relFs_h:∀{L:List (TypeId×Nat)} {ds:List D} {ps:List (DataW H)},RelFs (Rel P k) L ds ps->RelFs (RelH P k) L ds ps
 |[],_,_,h=>h
 |_::_,_,_,⟨d1,d2,p,qs,h1,h2,e1,e2⟩=>⟨d1,d2,p,qs,⟨h1⟩,relFs_h h2,e1,e2⟩
theorem kd4 {t:TypeId} {q:IntKind} {ds:List D} {d:DataW H} (hu:P.underlying t=some (.int q)) (h:RelH P (k+1) t ds d):∃i,ds=[.int q i]/\d= .lit (.int q i)/\(Lit.int q i).wf=true:=rel_int hu h.h
theorem k2c {t:TypeId} {fs:Array Field} {ds:List D} {d:DataW H} {L:List (TypeId×Nat)} (hu:P.underlying t=some (.struct fs)) (hf:fsOf fs=L) (h:RelH P (k+1) t ds d):∃ps,d= .agg ps/\RelFs (RelH P k) L ds ps:=by obtain⟨ps,h1,h2⟩:=kme hu h.h;rw[hf]at h2;exact⟨ps,h1,relFs_h h2⟩
theorem klz {t e:TypeId} {n:Nat} {ds:List D} {d:DataW H} {L:List (TypeId×Nat)} (hu:P.underlying t=some (.array n e)) (hf:arOf P n e=L) (h:RelH P (k+1) t ds d):∃ps,d= .agg ps/\RelFs (RelH P k) L ds ps:=by obtain⟨ps,h1,h2⟩:=kne hu h.h;rw[hf]at h2;exact⟨ps,h1,relFs_h h2⟩
theorem k33 {t e:TypeId} {ds:List D} {d:DataW H} {α:Type} [Inhabited α] (f:α->D) (p:α->Prop) (sz:Nat) (hu:P.underlying t=some (.slice e)) (hs:P.cellsOf e=sz) (h:RelH P (k+1) t ds d)
  (tp:∀(x:List D) (y:DataW H),RelH P k e x y->∃a,mkD P e x=f a/\p a):∃l:List α,ds=[.slice sz (l.map f)]/\l.length<=9223372036854775807/\∀a∈l,p a:=by
 obtain⟨l,h1,h2,h3,_⟩:=kn3 f p hu h.h (fun x y hh=>tp x y ⟨hh⟩);subst hs;exact⟨l,h1,h2,h3⟩
theorem mk_agg {e:TypeId} {ds cs:List D} (ha:isAggT P e=true) (h:ds=(D.agg cs).cells):mkD P e ds= .agg cs:=by subst h;unfold mkD;rw[ha];rfl
theorem mk_one {e:TypeId} {ds:List D} {x:D} (ha:isAggT P e=false) (h:ds=[x]):mkD P e ds=x:=by subst h;unfold mkD;rw[ha];rfl
theorem kjg {r:Reach} {base:Nat} {t:TypeId} {v:Value} {d:DataW H} {ps:List MemPlace} {h:Hp} {nx:Nat} (hT:dataT P k t=true) (hval:Value.okWide P W r base t v)
  (hd:DataW.Trod enc P W 0 (fun _=>true) true t v d ps):∃ds,RelH P k t ds d/\RepV (G0 W) W h nx v (vOf P t ds):=by
 obtain⟨ds,h1,h2⟩:=arg_rep hT hval hd;exact⟨ds,⟨h1⟩,h2⟩
end
end Go.Bv
namespace Go.Proofs.YtcghahkoioeddaaGreatDoor
open Go Go.Bv Go.Cv Go.Md Go.RowKit Go.ChangeShapes Go.WideShapes
theorem wf_u8 {i:Int} (h:(Lit.int .u8 i).wf=true):0<=i/\i<256:=by simp only[Lit.wf,IntKind.min,IntKind.max,IntKind.signed,IntKind.bits,qg]at h;simp at h;omega
theorem wf_u64 {i:Int} (h:(Lit.int .u64 i).wf=true):0<=i/\i<18446744073709551616:=by simp only[Lit.wf,IntKind.min,IntKind.max,IntKind.signed,IntKind.bits,qg]at h;simp at h;omega
theorem wf_i64 {i:Int} (h:(Lit.int .i64 i).wf=true):(-9223372036854775808)<=i/\i<9223372036854775808:=by simp only[Lit.wf,IntKind.min,IntKind.max,IntKind.signed,IntKind.bits,qg]at h;simp at h;omega
structure kbo (x:wB):Prop where
 wX:((-9223372036854775808)<=x.wX/\x.wX<9223372036854775808)
 wC:((-9223372036854775808)<=x.wC/\x.wC<9223372036854775808)
 wN:((-9223372036854775808)<=x.wN/\x.wN<9223372036854775808)
 wM:((-9223372036854775808)<=x.wM/\x.wM<9223372036854775808)
 wJ:((-9223372036854775808)<=x.wJ/\x.wJ<9223372036854775808)
 wS:(0<=x.wS/\x.wS<18446744073709551616)
 wV:((-9223372036854775808)<=x.wV/\x.wV<9223372036854775808)
 wO:((-9223372036854775808)<=x.wO/\x.wO<9223372036854775808)
 wR:(0<=x.wR/\x.wR<18446744073709551616)
theorem op3 {H:Type} {k:Nat} {ds:List D} {d:DataW H} (h:RelH Tryz.prog (k+1) 3 ds d):∃x:Int,ds=[D.int .i64 x]/\((-9223372036854775808)<=x/\x<9223372036854775808):=by obtain⟨i,rfl,_,w⟩:=kd4 (q:= .i64) (show Tryz.prog.underlying 3=some (.int .i64)by kernel_rfl) h;exact⟨i,rfl,wf_i64 w⟩
structure kfk (x:wz):Prop where
 wAV:((-9223372036854775808)<=x.wAV/\x.wAV<9223372036854775808)
 wAI:((-9223372036854775808)<=x.wAI/\x.wAI<9223372036854775808)
 wAU:((-9223372036854775808)<=x.wAU/\x.wAU<9223372036854775808)
theorem op23 {H:Type} {k:Nat} {ds:List D} {d:DataW H} (h:RelH Tryz.prog (k+2) 23 ds d):∃x:wz,ds=(encTProofParams x).cells/\kfk x:=by obtain⟨ps,rfl,h1⟩:=k2c (L:=[(3,0),(3,1),(3,2)]) (Tryz.underlying23) qqk h;obtain⟨_,_,_,_,g0,⟨_,_,_,_,g1,⟨_,_,_,_,g2,⟨rfl,rfl⟩,rfl,rfl⟩,rfl,rfl⟩,rfl,rfl⟩:=h1;obtain⟨a0,rfl,r0⟩:=op3 (k:=k+0) g0;obtain⟨a1,rfl,r1⟩:=op3 (k:=k+0) g1;obtain⟨a2,rfl,r2⟩:=op3 (k:=k+0) g2;exact⟨⟨a0,a1,a2⟩,rfl,⟨r0,r1,r2⟩⟩
theorem op24 {H:Type} {k:Nat} {ds:List D} {d:DataW H} (h:RelH Tryz.prog (k+1) 24 ds d):∃x:Int,ds=[D.int .u64 x]/\(0<=x/\x<18446744073709551616):=by obtain⟨i,rfl,_,w⟩:=kd4 (q:= .u64) (show Tryz.prog.underlying 24=some (.int .u64)by kernel_rfl) h;exact⟨i,rfl,wf_u64 w⟩
theorem op26 {H:Type} {k:Nat} {ds:List D} {d:DataW H} (h:RelH Tryz.prog (k+3) 26 ds d):∃x:wB,ds=(encTRules x).cells/\kbo x:=by obtain⟨ps,rfl,h1⟩:=k2c (L:=[(3,0),(3,1),(23,2),(24,5),(3,6),(3,7),(24,8)]) (Tryz.underlying26) qqk h;obtain⟨_,_,_,_,g0,⟨_,_,_,_,g1,⟨_,_,_,_,g2,⟨_,_,_,_,g3,⟨_,_,_,_,g4,⟨_,_,_,_,g5,⟨_,_,_,_,g6,⟨rfl,rfl⟩,rfl,rfl⟩,rfl,rfl⟩,rfl,rfl⟩,rfl,rfl⟩,rfl,rfl⟩,rfl,rfl⟩,rfl,rfl⟩:=h1;obtain⟨a0,rfl,r0⟩:=op3 (k:=k+1) g0;obtain⟨a1,rfl,r1⟩:=op3 (k:=k+1) g1;obtain⟨a2,rfl,r2⟩:=op23 (k:=k+0) g2;obtain⟨a3,rfl,r3⟩:=op24 (k:=k+1) g3;obtain⟨a4,rfl,r4⟩:=op3 (k:=k+1) g4;obtain⟨a5,rfl,r5⟩:=op3 (k:=k+1) g5;obtain⟨a6,rfl,r6⟩:=op24 (k:=k+1) g6;exact⟨⟨a0,a1,a2.wAV,a2.wAI,a2.wAU,a3,a4,a5,a6⟩,rfl,⟨r0,r1,r2.wAV,r2.wAI,r2.wAU,r3,r4,r5,r6⟩⟩
structure kei (x:wAA):Prop where
 we:(0<=x.we/\x.we<18446744073709551616)
 wAG:(0<=x.wAG/\x.wAG<18446744073709551616)
 wAB:(0<=x.wAB/\x.wAB<18446744073709551616)
 wm:(x.wm.length<=9223372036854775807/\∀y∈x.wm,(0<=y/\y<18446744073709551616))
structure kaf (x:wa):Prop where
 wg:(0<=x.wg/\x.wg<18446744073709551616)
 wL:(x.wL.length<=9223372036854775807/\∀y∈x.wL,(0<=y/\y<18446744073709551616))
 wE:(x.wE.length<=9223372036854775807/\∀y∈x.wE,kei y)
 wP:(0<=x.wP/\x.wP<18446744073709551616)
 wT:(0<=x.wT/\x.wT<18446744073709551616)
 Fee:(0<=x.Fee/\x.Fee<18446744073709551616)
 wW:(0<=x.wW/\x.wW<18446744073709551616)
 wU:(0<=x.wU/\x.wU<18446744073709551616)
 wAE:((-9223372036854775808)<=x.wAE/\x.wAE<9223372036854775808)
 ww:(x.ww.length<=9223372036854775807/\∀y∈x.ww,(0<=y/\y<256))
structure k3f (x:wI):Prop where
 wd:(0<=x.wd/\x.wd<18446744073709551616)
 wQ:((-9223372036854775808)<=x.wQ/\x.wQ<9223372036854775808)
 wAF:(0<=x.wAF/\x.wAF<18446744073709551616)
 wR:(0<=x.wR/\x.wR<18446744073709551616)
 wU:(0<=x.wU/\x.wU<18446744073709551616)
 Txs:(x.Txs.length<=9223372036854775807/\∀y∈x.Txs,kaf y)
theorem op60 {H:Type} {k:Nat} {ds:List D} {d:DataW H} (h:RelH Tryz.prog (k+2) 60 ds d):∃x:List Int,ds=[D.slice 1 (x.map (D.int .u64))]/\(x.length<=9223372036854775807/\∀y∈x,(0<=y/\y<18446744073709551616)):=by
 obtain⟨l,rfl,hm,hl⟩:=k33 (D.int .u64) (fun(y:Int)=>(0<=y/\y<18446744073709551616)) 1 (show Tryz.prog.underlying 60=some (.slice 24)by kernel_rfl) qqk h (fun x y hh=>by
  obtain⟨a,e,ha⟩:=op24 (k:=k+0) hh;exact⟨a,mk_one qqk e,ha⟩)
 exact⟨l,rfl,⟨hm,hl⟩⟩
structure kqi (x:wAx):Prop where
 a0:(0<=x.a0/\x.a0<18446744073709551616)
 a1:(0<=x.a1/\x.a1<18446744073709551616)
theorem op162 {H:Type} {k:Nat} {ds:List D} {d:DataW H} (h:RelH Tryz.prog (k+2) 162 ds d):∃x:wAx,ds=(encTA2 x).cells/\kqi x:=by obtain⟨ps,rfl,h1⟩:=klz (n:=2) (e:=24) (L:=[(24,0),(24,1)]) (show Tryz.prog.underlying 162=some (.array 2 24)by kernel_rfl) qqk h;obtain⟨_,_,_,_,g0,⟨_,_,_,_,g1,⟨rfl,rfl⟩,rfl,rfl⟩,rfl,rfl⟩:=h1;obtain⟨a0,rfl,r0⟩:=op24 (k:=k+0) g0;obtain⟨a1,rfl,r1⟩:=op24 (k:=k+0) g1;exact⟨⟨a0,a1⟩,rfl,⟨r0,r1⟩⟩
theorem op164 {H:Type} {k:Nat} {ds:List D} {d:DataW H} (h:RelH Tryz.prog (k+3) 164 ds d):∃x:wAA,ds=(encTOut x).cells/\kei x:=by obtain⟨ps,rfl,h1⟩:=k2c (L:=[(24,0),(162,1),(60,3)]) (Tryz.underlying164) qqk h;obtain⟨_,_,_,_,g0,⟨_,_,_,_,g1,⟨_,_,_,_,g2,⟨rfl,rfl⟩,rfl,rfl⟩,rfl,rfl⟩,rfl,rfl⟩:=h1;obtain⟨a0,rfl,r0⟩:=op24 (k:=k+1) g0;obtain⟨a1,rfl,r1⟩:=op162 (k:=k+0) g1;obtain⟨a2,rfl,r2⟩:=op60 (k:=k+0) g2;exact⟨⟨a0,a1.a0,a1.a1,a2⟩,rfl,⟨r0,r1.a0,r1.a1,r2⟩⟩
theorem op114 {H:Type} {k:Nat} {ds:List D} {d:DataW H} (h:RelH Tryz.prog (k+4) 114 ds d):∃x:List wAA,ds=[D.slice 4 (x.map encTOut)]/\(x.length<=9223372036854775807/\∀y∈x,kei y):=by
 obtain⟨l,rfl,hm,hl⟩:=k33 encTOut (fun(y:wAA)=>kei y) 4 (show Tryz.prog.underlying 114=some (.slice 164)by kernel_rfl) qqk h (fun x y hh=>by
  obtain⟨a,e,ha⟩:=op164 (k:=k+0) hh;exact⟨a,mk_agg qqk e,ha⟩)
 exact⟨l,rfl,⟨hm,hl⟩⟩
theorem op5 {H:Type} {k:Nat} {ds:List D} {d:DataW H} (h:RelH Tryz.prog (k+1) 5 ds d):∃x:Int,ds=[D.int .u8 x]/\(0<=x/\x<256):=by obtain⟨i,rfl,_,w⟩:=kd4 (q:= .u8) (show Tryz.prog.underlying 5=some (.int .u8)by kernel_rfl) h;exact⟨i,rfl,wf_u8 w⟩
theorem op28 {H:Type} {k:Nat} {ds:List D} {d:DataW H} (h:RelH Tryz.prog (k+2) 28 ds d):∃x:List Int,ds=[D.slice 1 (x.map (D.int .u8))]/\(x.length<=9223372036854775807/\∀y∈x,(0<=y/\y<256)):=by
 obtain⟨l,rfl,hm,hl⟩:=k33 (D.int .u8) (fun(y:Int)=>(0<=y/\y<256)) 1 (show Tryz.prog.underlying 28=some (.slice 5)by kernel_rfl) qqk h (fun x y hh=>by
  obtain⟨a,e,ha⟩:=op5 (k:=k+0) hh;exact⟨a,mk_one qqk e,ha⟩)
 exact⟨l,rfl,⟨hm,hl⟩⟩
theorem op116 {H:Type} {k:Nat} {ds:List D} {d:DataW H} (h:RelH Tryz.prog (k+5) 116 ds d):∃x:wa,ds=(encTTx x).cells/\kaf x:=by obtain⟨ps,rfl,h1⟩:=k2c (L:=[(24,0),(60,1),(114,2),(24,3),(24,4),(24,5),(24,6),(24,7),(3,8),(28,9)]) (Tryz.underlying116) qqk h;obtain⟨_,_,_,_,g0,⟨_,_,_,_,g1,⟨_,_,_,_,g2,⟨_,_,_,_,g3,⟨_,_,_,_,g4,⟨_,_,_,_,g5,⟨_,_,_,_,g6,⟨_,_,_,_,g7,⟨_,_,_,_,g8,⟨_,_,_,_,g9,⟨rfl,rfl⟩,rfl,rfl⟩,rfl,rfl⟩,rfl,rfl⟩,rfl,rfl⟩,rfl,rfl⟩,rfl,rfl⟩,rfl,rfl⟩,rfl,rfl⟩,rfl,rfl⟩,rfl,rfl⟩:=h1;obtain⟨a0,rfl,r0⟩:=op24 (k:=k+3) g0;obtain⟨a1,rfl,r1⟩:=op60 (k:=k+2) g1;obtain⟨a2,rfl,r2⟩:=op114 (k:=k+0) g2;obtain⟨a3,rfl,r3⟩:=op24 (k:=k+3) g3;obtain⟨a4,rfl,r4⟩:=op24 (k:=k+3) g4;obtain⟨a5,rfl,r5⟩:=op24 (k:=k+3) g5;obtain⟨a6,rfl,r6⟩:=op24 (k:=k+3) g6;obtain⟨a7,rfl,r7⟩:=op24 (k:=k+3) g7;obtain⟨a8,rfl,r8⟩:=op3 (k:=k+3) g8;obtain⟨a9,rfl,r9⟩:=op28 (k:=k+2) g9;exact⟨⟨a0,a1,a2,a3,a4,a5,a6,a7,a8,a9⟩,rfl,⟨r0,r1,r2,r3,r4,r5,r6,r7,r8,r9⟩⟩
theorem op39 {H:Type} {k:Nat} {ds:List D} {d:DataW H} (h:RelH Tryz.prog (k+6) 39 ds d):∃x:List wa,ds=[D.slice 10 (x.map encTTx)]/\(x.length<=9223372036854775807/\∀y∈x,kaf y):=by
 obtain⟨l,rfl,hm,hl⟩:=k33 encTTx (fun(y:wa)=>kaf y) 10 (show Tryz.prog.underlying 39=some (.slice 116)by kernel_rfl) qqk h (fun x y hh=>by
  obtain⟨a,e,ha⟩:=op116 (k:=k+0) hh;exact⟨a,mk_agg qqk e,ha⟩)
 exact⟨l,rfl,⟨hm,hl⟩⟩
theorem op41 {H:Type} {k:Nat} {ds:List D} {d:DataW H} (h:RelH Tryz.prog (k+7) 41 ds d):∃x:wI,ds=(encTBlock x).cells/\k3f x:=by obtain⟨ps,rfl,h1⟩:=k2c (L:=[(24,0),(3,1),(24,2),(24,3),(24,4),(39,5)]) (Tryz.underlying41) qqk h;obtain⟨_,_,_,_,g0,⟨_,_,_,_,g1,⟨_,_,_,_,g2,⟨_,_,_,_,g3,⟨_,_,_,_,g4,⟨_,_,_,_,g5,⟨rfl,rfl⟩,rfl,rfl⟩,rfl,rfl⟩,rfl,rfl⟩,rfl,rfl⟩,rfl,rfl⟩,rfl,rfl⟩:=h1;obtain⟨a0,rfl,r0⟩:=op24 (k:=k+5) g0;obtain⟨a1,rfl,r1⟩:=op3 (k:=k+5) g1;obtain⟨a2,rfl,r2⟩:=op24 (k:=k+5) g2;obtain⟨a3,rfl,r3⟩:=op24 (k:=k+5) g3;obtain⟨a4,rfl,r4⟩:=op24 (k:=k+5) g4;obtain⟨a5,rfl,r5⟩:=op39 (k:=k+0) g5;exact⟨⟨a0,a1,a2,a3,a4,a5⟩,rfl,⟨r0,r1,r2,r3,r4,r5⟩⟩
theorem op27 {H:Type} {k:Nat} {ds:List D} {d:DataW H} (h:RelH Tryz.prog (k+8) 27 ds d):∃x:List wI,ds=[D.slice 6 (x.map encTBlock)]/\(x.length<=9223372036854775807/\∀y∈x,k3f y):=by
 obtain⟨l,rfl,hm,hl⟩:=k33 encTBlock (fun(y:wI)=>k3f y) 6 (show Tryz.prog.underlying 27=some (.slice 41)by kernel_rfl) qqk h (fun x y hh=>by
  obtain⟨a,e,ha⟩:=op41 (k:=k+0) hh;exact⟨a,mk_agg qqk e,ha⟩)
 exact⟨l,rfl,⟨hm,hl⟩⟩
structure kqg (x:wAi):Prop where
 wAy:((-9223372036854775808)<=x.wAy/\x.wAy<9223372036854775808)
 wAp:((-9223372036854775808)<=x.wAp/\x.wAp<9223372036854775808)
 wAf:((-9223372036854775808)<=x.wAf/\x.wAf<9223372036854775808)
 wAd:((-9223372036854775808)<=x.wAd/\x.wAd<9223372036854775808)
 wAb:((-9223372036854775808)<=x.wAb/\x.wAb<9223372036854775808)
 wAl:(0<=x.wAl/\x.wAl<18446744073709551616)
 wAk:((-9223372036854775808)<=x.wAk/\x.wAk<9223372036854775808)
 wAg:((-9223372036854775808)<=x.wAg/\x.wAg<9223372036854775808)
 wAz:(0<=x.wAz/\x.wAz<18446744073709551616)
 L:(x.L.length<=9223372036854775807/\∀y∈x.L,k3f y)
theorem dt26:dataT Tryz.prog 3 26=true:=by kernel_rfl
theorem dt27:dataT Tryz.prog 8 27=true:=by kernel_rfl
theorem own:ownKnob Tryz.prog.godebug=none:=by kernel_rfl
end Go.Proofs.YtcghahkoioeddaaGreatDoor
namespace Go.Md
open Go Go.Bv
theorem u64w (n:Int):IntKind.u64.wrap n=n%18446744073709551616:=IntKind.wrap_u64 n
theorem u8w (n:Int):IntKind.u8.wrap n=n%256:=IntKind.wrap_u8 n
theorem k20 (k:IntKind) (a b:Int):ishr k a b=a/((2^min b.toNat k.bits:Nat):Int):=by unfold ishr;rw[show(2:Int)^min b.toNat k.bits=((2^min b.toNat k.bits:Nat):Int)from(Int.natCast_pow 2 _).symm,Int.fdiv_eq_ediv_of_nonneg _ (Int.natCast_nonneg _)]
theorem kid (a b:Int):ishl .u64 a b=(a*((2^min b.toNat 64:Nat):Int))%18446744073709551616:=by unfold ishl;rw[u64w,show(2:Int)^min b.toNat IntKind.u64.bits=((2^min b.toNat 64:Nat):Int)by rw[show IntKind.u64.bits=64 from rfl];exact(Int.natCast_pow 2 _).symm]
theorem k2n (n:Nat) (h:n<18446744073709551616):(BitVec.ofInt 64 (n:Int)).toNat=n:=by rw[BitVec.toNat_ofInt];omega
theorem kd6 (a b:Nat) (ha:a<18446744073709551616) (hb:b<18446744073709551616):iand .u64 a b=((a&&&b:Nat):Int):=by unfold iand;rw[u64w];show(((BitVec.ofInt 64 a&&&BitVec.ofInt 64 b).toNat:Nat):Int)%_=_;rw[BitVec.toNat_and,k2n a ha,k2n b hb];have:=Nat.and_le_left (n:=a) (m:=b);omega
theorem ior_nat (a b:Nat) (ha:a<18446744073709551616) (hb:b<18446744073709551616):ior .u64 a b=((a|||b:Nat):Int):=by unfold ior;rw[u64w];show(((BitVec.ofInt 64 a|||BitVec.ofInt 64 b).toNat:Nat):Int)%_=_;rw[BitVec.toNat_or,k2n a ha,k2n b hb];have:=Nat.or_lt_two_pow (x:=a) (y:=b) (n:=64) qqo qqo;omega
theorem k2d (a:Int) (h:0<=a/\a<18446744073709551616):iand .u64 a 4294967295=a%4294967296:=by obtain⟨n,rfl⟩:=qn h.1;have:=kd6 n 4294967295 qqo qqo;rw[show((4294967295:Nat):Int)=4294967295 from rfl]at this;rw[this,show(4294967295:Nat)=2^32-1 from rfl,Nat.and_two_pow_sub_one_eq_mod];exact Int.natCast_emod _ _
theorem kol (a:Int) (h:0<=a/\a<18446744073709551616):iand .u64 a 1=a%2:=by obtain⟨n,rfl⟩:=qn h.1;have:=kd6 n 1 qqo qqo;rw[show((1:Nat):Int)=1 from rfl]at this;rw[this,Nat.and_one_is_mod];exact Int.natCast_emod _ _
theorem ior_add (a c k:Nat) (ha:a<2^k) (h:a+2^k*c<18446744073709551616):ior .u64 a ((2^k*c:Nat):Int)=((a+2^k*c:Nat):Int):=by rw[ior_nat _ _ qqo qqo,Nat.or_comm,<-Nat.two_pow_add_eq_or_of_lt ha,Nat.add_comm]
theorem ior_add' (a c k:Nat) (ha:a<2^k) (h:a+2^k*c<18446744073709551616):ior .u64 ((2^k*c:Nat):Int) a=((a+2^k*c:Nat):Int):=by rw[ior_nat _ _ qqo qqo,<-Nat.two_pow_add_eq_or_of_lt ha,Nat.add_comm]
theorem ishr32 (a:Int):ishr .u64 a 32=a/4294967296:=k20 _ _ _
theorem ishr16 (a:Int):ishr .u64 a 16=a/65536:=k20 _ _ _
theorem ishr8 (a:Int):ishr .u64 a 8=a/256:=k20 _ _ _
theorem ishr1 (a:Int):ishr .u64 a 1=a/2:=k20 _ _ _
theorem kpk (a b:Int) (ha:0<=a/\a<18446744073709551616) (hb:0<=b/\b<18446744073709551616):
  ((a/4294967296*(b/4294967296)+((a/4294967296*(b%4294967296)+a%4294967296*(b%4294967296)/4294967296)/4294967296))+((a/4294967296*(b%4294967296)+a%4294967296*(b%4294967296)/4294967296)%4294967296+a%4294967296*(b/4294967296))/4294967296)=a*b/18446744073709551616/\
  a%4294967296*(b%4294967296)<18446744073709551616/\a/4294967296*(b%4294967296)+a%4294967296*(b%4294967296)/4294967296<18446744073709551616/\
  a%4294967296*(b/4294967296)<18446744073709551616-4294967296/\a/4294967296*(b/4294967296)<18446744065119617026/\0<=a%4294967296*(b%4294967296)/\0<=a/4294967296*(b%4294967296)/\0<=a%4294967296*(b/4294967296)/\0<=a/4294967296*(b/4294967296):=by
 have h1:∀x y:Int,0<=x->x<=4294967295->0<=y->y<=4294967295->0<=x*y/\x*y<=18446744065119617025:=by intro x y h0 h1 h2 h3;exact⟨qde h0 h2,by have:=qem h1 h3 h2 qqo;omega⟩
 have a1:=h1 (a%4294967296) (b%4294967296) qqo qqo qqo qqo;have a2:=h1 (a/4294967296) (b%4294967296) qqo qqo qqo qqo;have a3:=h1 (a%4294967296) (b/4294967296) qqo qqo qqo qqo;have a4:=h1 (a/4294967296) (b/4294967296) qqo qqo qqo qqo
 have e:a*b=a/4294967296*(b/4294967296)*18446744073709551616+(a/4294967296*(b%4294967296)+a%4294967296*(b/4294967296))*4294967296+a%4294967296*(b%4294967296):=by
  have ea:a=a/4294967296*4294967296+a%4294967296:=by omega
  have eb:b=b/4294967296*4294967296+b%4294967296:=by omega
  conv=>lhs;rw[ea,eb]
  generalize a/4294967296=x;generalize a%4294967296=y;generalize b/4294967296=z;generalize b%4294967296=t;grind
 generalize a%4294967296*(b%4294967296)=p0 at *
 generalize a/4294967296*(b%4294967296)=p1 at *
 generalize a%4294967296*(b/4294967296)=p2 at *
 generalize a/4294967296*(b/4294967296)=p3 at *
 generalize a*b=ab at *
 refine⟨?_,?_,?_,?_,?_,?_,?_,?_,?_⟩<;>omega
structure Half (U x a b Q:Int):Prop where
 hU:0<=U
 hUv:U<a*4294967296+b
 hx:0<=x/\x<4294967296
 ha:2147483648<=a/\a<4294967296
 hb:0<=b/\b<4294967296
 hQ:Q=(U*4294967296+x)/(a*4294967296+b)
theorem Half.q {U x a b Q:Int} (h:Half U x a b Q):0<=Q/\Q<4294967296/\Q*(a*4294967296+b)<=U*4294967296+x/\U*4294967296+x<(Q+1)*(a*4294967296+b):=by
 obtain⟨h1,h2,h3,h4,h5,h6⟩:=h;have hv:0<a*4294967296+b:=by omega
 have e:=qdv (U*4294967296+x) (a*4294967296+b);have l:=qcm (U*4294967296+x) (by omega:a*4294967296+b≠0);have r:=qca (U*4294967296+x) hv;rw[<-h6]at e;generalize hvv:a*4294967296+b=v at *
 have e2:(Q+1)*v=Q*v+v:=by grind
 have e3:v*Q=Q*v:=by grind
 have q0:0<=Q:=by rw[h6];exact qei qqo qqo
 have q1:Q<4294967296:=by rw[h6];exact qfl hv qqo
 refine⟨q0,q1,by omega,by omega⟩
theorem Half.exit {U x a b Q q r:Int} (h:Half U x a b Q) (e:q*a+r=U) (hq:Q<=q) (h2:q*b<=r*4294967296+x):q=Q:=by
 obtain⟨q0,q1,q2,q3⟩:=h.q;have h4:=h.ha
 have:q*(a*4294967296+b)<=U*4294967296+x:=by
  have:q*(a*4294967296+b)=q*a*4294967296+q*b:=by grind
  rw[this];generalize q*a=qa at *
  omega
 have h5:q<Q+1:=by
  have hv:0<a*4294967296+b:=by have:=h.hb;omega
  exact qdc qqo (qdk hv)
 omega
theorem Half.down {U x a b Q q r:Int} (h:Half U x a b Q) (e:q*a+r=U) (h2:4294967296<=q∨r*4294967296+x<q*b):Q<=q-1:=by
 obtain⟨q0,q1,q2,q3⟩:=h.q;rcases h2 with h2|h2
 ·omega
 ·have:U*4294967296+x<q*(a*4294967296+b):=by
   have:q*(a*4294967296+b)=q*a*4294967296+q*b:=by grind
   rw[this];generalize q*a=qa at *
   omega
  have h5:Q<q:=by
   have hv:0<a*4294967296+b:=by have:=h.hb;have:=h.ha;omega
   exact qdc (a:=a*4294967296+b) qqo (qdk hv)
  omega
theorem Half.small {U x a b Q q r:Int} (h:Half U x a b Q) (e:q*a+r=U) (hr:4294967296<=r):q<4294967296:=by
 have h2:=h.hUv;have h4:=h.ha;have h5:=h.hb;have:q*a<4294967296*a:=by generalize q*a=qa at *;omega
 exact qdc this qqo
theorem Half.done {U x a b Q q r:Int} (h:Half U x a b Q) (e:q*a+r=U) (hq:Q<=q) (hr:4294967296<=r):q=Q:=by refine h.exit e hq ?_;have h1:=h.small e hr;obtain⟨q0,_⟩:=h.q;have h5:=h.hb;have h6:=h.hx;have:q*b<=4294967296*4294967296:=qem qqo qqo qqo qqo;omega
theorem Half.rest {U x a b Q:Int} (h:Half U x a b Q):(U*4294967296+x)-Q*(a*4294967296+b)=(U*4294967296+x)%(a*4294967296+b)/\0<=(U*4294967296+x)%(a*4294967296+b)/\(U*4294967296+x)%(a*4294967296+b)<a*4294967296+b:=by
 have hv:0<a*4294967296+b:=by have:=h.hb;have:=h.ha;omega
 have e:=qdv (U*4294967296+x) (a*4294967296+b);rw[<-h.hQ]at e;have:=qen (a*4294967296+b) Q;exact⟨by omega,qcm _ qqo,qca _ hv⟩
theorem kmi {N y p U un1 un0 Q1 R1 Q0 R0:Int} (hp:0<p) (hy:0<y) (hN:N*p=U*18446744073709551616+un1*4294967296+un0) (h1:U*4294967296+un1-Q1*(y*p)=R1) (h0:R1*4294967296+un0-Q0*(y*p)=R0)
  (hr:0<=R0/\R0<y*p):Q1*4294967296+Q0=N/y/\R0/p=N%y:=by
 have e:N*p=(Q1*4294967296+Q0)*(y*p)+R0:=by
  rw[hN];have:(Q1*4294967296+Q0)*(y*p)=Q1*(y*p)*4294967296+Q0*(y*p):=by grind
  rw[this];generalize Q1*(y*p)=a at *
  generalize Q0*(y*p)=b at *
  omega
 have e2:R0=(N-(Q1*4294967296+Q0)*y)*p:=by grind
 have h3:0<=N-(Q1*4294967296+Q0)*y:=by
  rcases Int.lt_or_le (N-(Q1*4294967296+Q0)*y) 0 with h|h
  ·exfalso;have:(N-(Q1*4294967296+Q0)*y)*p<0:=Int.mul_neg_of_neg_of_pos h hp;omega
  ·exact h
 have h4:N-(Q1*4294967296+Q0)*y<y:=by refine qdc (a:=p) ?_ (qdk hp);omega
 have e3:N=(N-(Q1*4294967296+Q0)*y)+y*(Q1*4294967296+Q0):=by grind
 constructor
 ·conv=>rhs;rw[e3]
  rw[Int.add_mul_ediv_left _ _ qqo,Int.ediv_eq_zero_of_lt h3 h4];omega
 ·rw[e2,Int.mul_ediv_cancel _ qqo];conv=>rhs;rw[e3]
  rw[Int.add_mul_emod_self_left,qdy h3 h4]
end Go.Md
namespace Go.Md
open Go Go.Bv
theorem ix_nat {α:Type} [Inhabited α] (l:List α) (i:Int) (h0:0<=i) (h1:i<(l.length:Int)):ix l i=l[i.toNat]' qqo:=by
 have:i.toNat<l.length:=by omega
 simp[ix,this]
theorem ix_mem {α:Type} [Inhabited α] (l:List α) (i:Int) (h0:0<=i) (h1:i<(l.length:Int)):ix l i∈l:=by rw[ix_nat l i h0 h1];exact qak _
theorem inc (i n:Int) (h0:0<=i) (h:i<n) (hn:n<=9223372036854775807):IntKind.i64.wrap (i+1)=i+1:=kp _ qqo qqo
theorem wi (n:Int) (h0: -9223372036854775808<=n) (h:n<=9223372036854775807):IntKind.i64.wrap n=n:=kp n h0 qqo
theorem wu (n:Int) (h0:0<=n) (h:n<=18446744073709551615):IntKind.u64.wrap n=n:=wrap_u64 n h0 qqo
theorem tdiv_nn (a b:Int) (h:0<=a):Int.tdiv a b=a/b:=Int.tdiv_eq_ediv_of_nonneg h
theorem tmod_nn (a b:Int) (h:0<=a):Int.tmod a b=a%b:=Int.tmod_eq_emod_of_nonneg h
theorem kg {α:Type} [Inhabited α] (l:List α) (i:Int) (h0:0<=i) (h1:i<(l.length:Int)):l.take (i+1).toNat=l.take i.toNat++[ix l i]:=by rw[ix_nat l i h0 h1,show(i+1).toNat=i.toNat+1 by omega,qai qqo]
theorem drop_ix {α:Type} [Inhabited α] (l:List α) (i:Int) (h0:0<=i) (h1:i<(l.length:Int)):l.drop i.toNat=ix l i::l.drop (i+1).toNat:=by rw[ix_nat l i h0 h1,show(i+1).toNat=i.toNat+1 by omega];exact qch qqo
theorem kbc {α:Type} (l m:List α) (h:l.length=m.length):rowOver l m l.length=m:=by simp[rowOver,h]
theorem kjm (a m:Int):∀k:Nat,(a%m)^k%m=a^k%m
 |0=>by simp
 |k+1=>by rw[qds,qds,qeo,kjm a m k,qea _ (qfo _),<-qeo]
abbrev U64 (n:Int):Prop:=0<=n/\n<18446744073709551616
abbrev By (l:List Int):Prop:=∀x∈l,0<=x/\x<256
abbrev Us (l:List Int):Prop:=∀x∈l,0<=x/\x<18446744073709551616
def dig:Nat->Int->List Int
 |0,_=>[]
 |k+1,n=>n%256::dig k (n/256)
def val:List Int->Int
 |[]=>0
 |x::r=>x+256*val r
@[simp] theorem ke:∀(k:Nat) (n:Int),(dig k n).length=k
 |0,_=>rfl
 |k+1,n=>by simp[dig,ke k]
theorem k2e (k:Nat):(256:Int)^(k+1)=256*256^k:=by rw[qds,qen]
theorem k2w (k:Nat):(0:Int)<256^k:=Int.pow_pos qqo
theorem kd5:∀(k:Nat) (n:Int),dig (k+1) n=dig k n++[n/256^k%256]
 |0,n=>by simp[dig]
 |k+1,n=>by show n%256::dig (k+1) (n/256)=n%256::dig k (n/256)++_;rw[kd5 k (n/256),k2e,qeg qqo];rfl
theorem dig_by:∀(k:Nat) (n:Int),By (dig k n)
 |0,_=>by intro x hx;cases hx
 |k+1,n=>by
  intro x hx;rcases qam.1 hx with rfl|hx
  ·omega
  ·exact dig_by k _ x hx
theorem val_dig:∀(k:Nat) (n:Int),0<=n->n<256^k->val (dig k n)=n
 |0,n,h0,h=>by simp at h;simp[dig,val];omega
 |k+1,n,h0,h=>by rw[k2e]at h;simp only[dig,val];rw[val_dig k (n/256) qqo (qfl qqo (by rw[qen];exact h))];omega
theorem k3u (k:Nat):(256:Int)^k=((2^(8*k):Nat):Int):=by rw[Nat.pow_mul,Int.natCast_pow];rfl
theorem kgh {k m:Nat} (h:k<=m):(256:Int)^k<=256^m:=by rw[k3u,k3u];exact Int.ofNat_le.2 (qcp qqo qqo)
theorem k5n:∀(l:List Int),By l->0<=val l/\val l<256^l.length
 |[],_=>by simp[val]
 |x::r,h=>by have h1:=k5n r (fun y hy=>h y (by simp[hy]));have h2:=h x qqs;rw[qad,k2e];simp only[val];omega
theorem dig_val:∀(l:List Int),By l->dig l.length (val l)=l
 |[],_=>rfl
 |x::r,h=>by have h1:=dig_val r (fun y hy=>h y (by simp[hy]));have h2:=h x qqs;simp only[qad,dig,val];rw[show(x+256*val r)%256=x by omega,show(x+256*val r)/256=val r by omega,h1]
theorem kik:∀(l:List Int) (x:Int),val (l++[x])=val l+256^l.length*x
 |[],x=>by simp[val]
 |y::r,x=>by simp only[List.cons_append,val,kik r x,qad,k2e];grind
theorem val8 (l:List Int) (h:By l) (hl:l.length<=8):U64 (val l):=by have h1:=k5n l h;have:(256:Int)^l.length<=256^8:=kgh hl;exact⟨h1.1,by omega⟩
theorem ior_val (l:List Int) (x:Int) (hl:By l) (h8:l.length<8) (hx:0<=x/\x<256):ior .u64 (val l) (ishl .u64 x (8*(l.length:Int)))=val (l++[x]):=by
 have h1:=k5n l hl;rw[kik,kid,show min (8*(l.length:Int)).toNat 64=8*l.length by omega,<-k3u];have h2:x*256^l.length+256^l.length<=256*256^l.length:=by have:=k2w l.length;have:(x+1)*256^l.length<=256*256^l.length:=Int.mul_le_mul_of_nonneg_right qqo qqo;grind
 have h3:(256:Int)*256^l.length<=256^8:=by rw[<-k2e];exact kgh qqo
 have h4:0<=x*256^l.length:=qde hx.1 (qdk (k2w _));rw[qdy h4 qqo];obtain⟨a,ha⟩:=qn h1.1;obtain⟨c,hc⟩:=qn hx.1;have key:=ior_add a c (8*l.length);rw[k3u]at h1 h2 h3 h4 ⊢;generalize 2^(8*l.length)=P at *
 rw[ha]at h1;rw[hc]at h2 h4;have e:(c:Int)*(P:Int)=((P*c:Nat):Int):=by rw[qee];exact(qdi _ _).symm
 have e' :(P:Int)*(c:Int)=((P*c:Nat):Int):=(qdi _ _).symm;rw[e]at h2 h4;rw[ha,hc,e,e'];generalize P*c=R at *
 rw[key qqo qqo];exact Int.natCast_add _ _
def len4 (n:Int):Int:=if n<0∨4294967295<n then 0 else n
theorem len4_in {n:Int} (h:0<=n/\n<=4294967295):len4 n=n:=qe qqo
def encL (l:List Int):List Int:=dig 4 (len4 l.length)++l.flatMap (dig 8)
def encB (l:List Int):List Int:=dig 4 (len4 l.length)++l
theorem k1p (l:List Int):(l.flatMap (dig 8)).length=8*l.length:=by
 induction l with
 |nil=>rfl
 |cons x r ih=>rw[qay,qj,ih,ke,qad];omega
@[simp] theorem k16 (l:List Int):(encL l).length=4+8*l.length:=by rw[encL,qj,k1p,ke]
@[simp] theorem kl8 (l:List Int):(encB l).length=4+l.length:=by simp[encB]
theorem By.append {a b:List Int} (ha:By a) (hb:By b):By (a++b):=fun x hx=>(qal.1 hx).elim (ha x) (hb x)
theorem kkp (l:List Int):By (l.flatMap (dig 8)):=fun x hx=>by obtain⟨y,_,hy⟩:=qdr.1 hx;exact dig_by 8 y x hy
theorem encL_by (l:List Int):By (encL l):=(dig_by _ _).append (kkp l)
theorem encB_by {l:List Int} (h:By l):By (encB l):=(dig_by _ _).append h
theorem By.take {l:List Int} (h:By l) (n:Nat):By (l.take n):=fun x hx=>h x (qat hx)
theorem By.drop {l:List Int} (h:By l) (n:Nat):By (l.drop n):=fun x hx=>h x (qbo hx)
def packN:Nat->List Int->List Int
 |0,_=>[]
 |n+1,l=>match l with
  |[]=>[]
  |x::r=>val ((x::r).take 7)::packN n ((x::r).drop 7)
def packS (l:List Int):List Int:=(l.length:Int)::packN l.length l
theorem keg:∀(n m:Nat) (l:List Int),l.length<=n->l.length<=m->packN n l=packN m l
 |0,0,_,_,_=>rfl
 |0,m+1,[],_,_=>rfl
 |n+1,0,[],_,_=>rfl
 |n+1,m+1,[],_,_=>rfl
 |0,_,_::_,h,_=>by simp at h
 |n+1,0,_::_,_,h=>by simp at h
 |n+1,m+1,x::r,h,h' =>by simp only[packN];rw[keg n m _ (by simp at h ⊢;omega) (by simp at h' ⊢;omega)]
theorem kmb (n:Nat) (l:List Int) (h:l.length<=n) (h0:l≠[]):packN n l=val (l.take 7)::packN n (l.drop 7):=by
 cases l with
 |nil=>exact absurd rfl h0
 |cons x r=>
  cases n with
  |zero=>simp at h
  |succ n=>show val ((x::r).take 7)::packN n ((x::r).drop 7)=_;rw[keg n (n+1) _ (by simp at h ⊢;omega) (by simp at h ⊢;omega)]
theorem kjy:∀(n:Nat) (l:List Int),By l->Us (packN n l)
 |0,_,_=>by intro x hx;cases hx
 |n+1,[],_=>by intro x hx;cases hx
 |n+1,x::r,h=>by
  intro y hy;rcases qam.1 hy with rfl|hy
  ·exact val8 _ (h.take 7) qqm
  ·exact kjy n _ (h.drop 7) y hy
theorem k92:∀(n:Nat) (l:List Int),(packN n l).length<=n
 |0,_=>by simp[packN]
 |n+1,[]=>by simp[packN]
 |n+1,x::r=>by simp only[packN,qad];have:=k92 n ((x::r).drop 7);omega
end Go.Md
namespace Go.Md
open Go Go.Bv
def len64 (x:Int):Int:=if x=0 then 0 else(Nat.log2 x.toNat+1:Nat)
theorem k60 (x:Int) (k:Nat) (h:((2^k:Nat):Int)<=x):len64 (x/((2^k:Nat):Int))+k=len64 x:=by
 obtain⟨n,rfl⟩:=qn (by have:=qcg k;omega:0<=x);have hp:0<2^k:=qcg k;have hn:2^k<=n:=by omega
 have e:((n:Int)/((2^k:Nat):Int))=((n/2^k:Nat):Int):=(Int.natCast_ediv _ _).symm;have h1:0<n/2^k:=Nat.div_pos hn hp;unfold len64;rw[e,qe qqo,qe qqo,qr,qr]
 have:Nat.log2 n=Nat.log2 (n/2^k)+k:=by
  rw[Nat.log2_eq_iff qqo];have a:=Nat.log2_self_le (n:=n/2^k) qqo;have b:=Nat.lt_log2_self (n:=n/2^k);rw[Nat.le_div_iff_mul_le hp]at a;rw[qfj hp]at b;constructor
  ·rw[Nat.pow_add];exact a
  ·rw[show Nat.log2 (n/2^k)+k+1=Nat.log2 (n/2^k)+1+k by omega,Nat.pow_add];exact b
 omega
theorem ken (y:Int) (h:0<y/\y<18446744073709551616):∃s:Nat,64-len64 y=(s:Int)/\s<=63/\9223372036854775808<=y*((2^s:Nat):Int)/\y*((2^s:Nat):Int)<18446744073709551616:=by
 obtain⟨n,rfl⟩:=qn (by omega:0<=y);have l:Nat.log2 n<64:=(Nat.log2_lt qqo).2 qqo;have a:=Nat.log2_self_le (n:=n) qqo;have b:=Nat.lt_log2_self (n:=n);refine⟨63-Nat.log2 n,?_,by omega,?_,?_⟩
 ·unfold len64;rw[qe qqo,qr];omega
 ·have:2^63<=n*2^(63-Nat.log2 n):=by rw[show(63:Nat)=Nat.log2 n+(63-Nat.log2 n)by omega,Nat.pow_add,show Nat.log2 n+(63-Nat.log2 n)-Nat.log2 n=63-Nat.log2 n by omega];exact qbc _ a
  rw[<-qdi];generalize n*2^(63-Nat.log2 n)=m at *
  omega
 ·have:n*2^(63-Nat.log2 n)<2^64:=by rw[show(64:Nat)=Nat.log2 n+1+(63-Nat.log2 n)by omega,Nat.pow_add];exact Nat.mul_lt_mul_of_pos_right b (qcg _)
  rw[<-qdi];generalize n*2^(63-Nat.log2 n)=m at *
  omega
def tab8:ByteArray:=⟨#[0,1,2,2,3,3,3,3,4,4,4,4,4,4,4,4,5,5,5,5,5,5,5,5,5,5,5,5,5,5,5,5,6,6,6,6,6,6,6,6,6,6,6,6,6,6,6,6,6,6,6,6,6,6,6,6,6,6,6,6,6,6,6,6,7,7,7,7,7,7,7,7,7,7,7,7,7,7,7,7,7,7,7,7,7,7,7,7,7,7,7,7,7,7,7,7,7,7,7,7,7,7,7,7,7,7,7,7,7,7,7,7,7,7,7,7,7,7,7,7,7,7,7,7,7,7,7,7,8,8,8,8,8,8,8,8,8,8,8,8,8,8,8,8,8,8,8,8,8,8,8,8,8,8,8,8,8,8,8,8,8,8,8,8,8,8,8,8,8,8,8,8,8,8,8,8,8,8,8,8,8,8,8,8,8,8,8,8,8,8,8,8,8,8,8,8,8,8,8,8,8,8,8,8,8,8,8,8,8,8,8,8,8,8,8,8,8,8,8,8,8,8,8,8,8,8,8,8,8,8,8,8,8,8,8,8,8,8,8,8,8,8,8,8,8,8,8,8,8,8,8,8,8,8,8,8]⟩
theorem ko0:∀b:Nat,b<256->Cv.byteAt tab8 (b:Int)=len64 (b:Int):=by decide +kernel
theorem kko (x:Int) (h:0<=x/\x<256):Cv.byteAt tab8 x=len64 x:=by obtain⟨n,rfl⟩:=qn h.1;exact ko0 n qqo
theorem kle (x:Int) (h:0<=x/\x<256):0<=len64 x/\len64 x<=8:=by
 rw[<-kko x h];obtain⟨n,rfl⟩:=qn h.1;have:∀b:Nat,b<256->0<=Cv.byteAt tab8 (b:Int)/\Cv.byteAt tab8 (b:Int)<=8:=by decide +kernel
 exact this n qqo
theorem knj:tab8.size=256:=by decide +kernel
end Go.Md
namespace Go.Md
open Go Go.Bv Go.Cv Go.Md Go.RowKit
section
variable {α β:Type}
def AllI (f:α->Bool) (l:List α) (i:Int):Prop:=0<=i/\i<=l.length/\∀x∈l.take i.toNat,f x=true
theorem AllI.start {f:α->Bool} {l:List α}:AllI f l 0:=⟨by omega,by omega,by simp⟩
theorem AllI.next [Inhabited α] {f:α->Bool} {l:List α} {i:Int} (h:AllI f l i) (hh:i<l.length) (hl:(l.length:Int)<=9223372036854775807) (hf:f (ix l i)=true):
  AllI f l (IntKind.i64.wrap (i+1))/\(l.length-IntKind.i64.wrap (i+1)).toNat<(l.length-i).toNat:=by
 obtain⟨g0,g1,g2⟩:=h;rw[inc i l.length g0 hh hl];refine⟨⟨by omega,by omega,?_⟩,by omega⟩;rw[kg l i g0 hh];intro x hx;rcases qal.1 hx with hx|hx
 ·exact g2 x hx
 ·have:x=ix l i:=by simpa using hx
  rw[this];exact hf
theorem AllI.bad [Inhabited α] {f:α->Bool} {l:List α} {i:Int} (h:AllI f l i) (hh:i<l.length) (hf:f (ix l i)=false):l.all f=false:=qdm.2 ⟨ix l i,Md.ix_mem l i h.1 hh,by simp[hf]⟩
theorem AllI.done {f:α->Bool} {l:List α} {i:Int} (h:AllI f l i) (hh:¬i<l.length):l.all f=true:=by obtain⟨g0,g1,g2⟩:=h;rw[qu qqo]at g2;exact qbw.2 g2
def FoldI (f:β->α->β) (z:β) (l:List α) (i:Int) (s:β):Prop:=0<=i/\i<=l.length/\s=(l.take i.toNat).foldl f z
theorem FoldI.start {f:β->α->β} {z:β} {l:List α}:FoldI f z l 0 z:=⟨by omega,by omega,by simp⟩
theorem FoldI.next [Inhabited α] {f:β->α->β} {z:β} {l:List α} {i:Int} {s s' :β} (h:FoldI f z l i s) (hh:i<l.length) (hl:(l.length:Int)<=9223372036854775807) (hs:s' =f s (ix l i)):
  FoldI f z l (IntKind.i64.wrap (i+1)) s'/\(l.length-IntKind.i64.wrap (i+1)).toNat<(l.length-i).toNat:=by
 obtain⟨g0,g1,g2⟩:=h;rw[inc i l.length g0 hh hl];refine⟨⟨by omega,by omega,?_⟩,by omega⟩;rw[kg l i g0 hh,List.foldl_append,<-g2,hs];rfl
theorem FoldI.done {f:β->α->β} {z:β} {l:List α} {i:Int} {s:β} (h:FoldI f z l i s) (hh:¬i<l.length):s=l.foldl f z:=by
 obtain⟨g0,g1,g2⟩:=h
 rwa [qu qqo]at g2
def FlatI (f:α->List β) (z:List β) (l:List α) (i:Int) (s:List β):Prop:=0<=i/\i<=l.length/\s=z++(l.take i.toNat).flatMap f
theorem FlatI.start {f:α->List β} {z:List β} {l:List α}:FlatI f z l 0 z:=⟨by omega,by omega,by simp⟩
theorem FlatI.next [Inhabited α] {f:α->List β} {z:List β} {l:List α} {i:Int} {s s' :List β} (h:FlatI f z l i s) (hh:i<l.length) (hl:(l.length:Int)<=9223372036854775807) (hs:s' =s++f (ix l i)):
  FlatI f z l (IntKind.i64.wrap (i+1)) s'/\(l.length-IntKind.i64.wrap (i+1)).toNat<(l.length-i).toNat:=by
 obtain⟨g0,g1,g2⟩:=h;rw[inc i l.length g0 hh hl];refine⟨⟨by omega,by omega,?_⟩,by omega⟩;rw[kg l i g0 hh,qbh,hs,g2];simp
theorem FlatI.done {f:α->List β} {z:List β} {l:List α} {i:Int} {s:List β} (h:FlatI f z l i s) (hh:¬i<l.length):s=z++l.flatMap f:=by
 obtain⟨g0,g1,g2⟩:=h
 rwa [qu qqo]at g2
theorem FlatI.len {f:α->List β} {z:List β} {l:List α} {i:Int} {s:List β} (h:FlatI f z l i s) (k:Nat) (hk:∀x∈l,(f x).length<=k):s.length<=z.length+k*l.length:=by
 obtain⟨g0,g1,g2⟩:=h
 have key:∀(m:List α),(∀x∈m,(f x).length<=k)->(m.flatMap f).length<=k*m.length:=by
  intro m;induction m with
  |nil=>simp
  |cons a m ih=>intro hm;have h1:=ih (fun x hx=>hm x (by simp[hx]));have h2:=hm a qqs;rw[qay,qj,qad,Nat.mul_add];omega
 have h1:=key (l.take i.toNat) (fun x hx=>hk x (qat hx));have h2:k*(l.take i.toNat).length<=k*l.length:=Nat.mul_le_mul_left _ (by rw[qo];omega);rw[g2,qj];omega
end
theorem kg4 {α:Type} {p:α->Bool}:∀{l:List α},mIdx p l=none↔∀x∈l,p x=false
 |[]=>by simp[mIdx]
 |x::l=>by
  cases hp:p x with
  |true=>simp[mIdx,hp]
  |false=>simp only[mIdx,hp,qbt,Option.map_eq_none_iff,kg4,qam,forall_eq_or_imp,true_and]
theorem k5t {α:Type} {p:α->Bool}:∀{l:List α} {j:Nat},mIdx p l=some j->∃x,l[j]? =some x/\p x=true
 |[],_,h=>by cases h
 |x::l,j,h=>by
  cases hp:p x with
  |true=>simp only[mIdx,hp,qdf,qah]at h;subst h;exact⟨x,rfl,hp⟩
  |false=>simp only[mIdx,hp,qbt,qv]at h;obtain⟨i,h1,rfl⟩:=h;obtain⟨y,h2,h3⟩:=k5t h1;exact⟨y,by simpa using h2,h3⟩
@[simp] theorem kqj {α:Type} (p:α->Bool):mHas p []=false:=rfl
@[simp] theorem kqk {α β:Type} (p:α->Bool) (z:β) (vs:List β):mVal p [] vs z=z:=rfl
theorem kow {α:Type} {p:α->Bool} {l:List α}:mHas p l=true↔∃x∈l,p x=true:=by
 unfold mHas;cases h:mIdx p l with
 |none=>simp only[Option.isSome_none,qbd,false_iff,not_exists,not_and];intro x hx;rw[kg4.1 h x hx];simp
 |some j=>obtain⟨x,h1,h2⟩:=k5t h;simp only[Option.isSome_some,true_iff];exact⟨x,qbb h1,h2⟩
theorem kpa {α β:Type} {p:α->Bool} {ks:List α} {vs:List β} {z:β} (h:mHas p ks=true) (hl:ks.length=vs.length):mVal p ks vs z∈vs:=by
 unfold mHas at h;unfold mVal;cases hm:mIdx p ks with
 |none=>rw[hm]at h;cases h
 |some j=>
  obtain⟨x,h1,h2⟩:=k5t hm;have hj:j<vs.length:=by have:=(qf.1 h1).1;omega
  simp only[qd hj,qbl];exact qak hj
theorem k9r (a:Int) (h:0<=a/\a<4611686018427387904):iand .i64 a 1=a%2:=by obtain⟨n,rfl⟩:=qn h.1;unfold iand;have e1:(BitVec.ofInt IntKind.i64.bits (n:Int)).toNat=n:=k2n n qqo;have e2:(BitVec.ofInt IntKind.i64.bits (1:Int)).toNat=1:=k2n 1 qqo;rw[BitVec.toNat_and,e1,e2,Nat.and_one_is_mod];rw[wi _ qqo qqo];omega
end Go.Md
namespace Go.Proofs.YtcghahkoioeddaaGreatDoor
open Go Go.Bv Go.Cv Go.Md Go.RowKit
open Go.IntKind (i64 u64)
def rc (r i:Int):Int:=(3*r+i+1)*11400714819323198485%18446744073709551616%18446744069414584321
def mixS (s:wAD):wAD:=⟨(s.a0+((s.a0+s.a1)%18446744069414584321+s.a2)%18446744069414584321)%18446744069414584321,(s.a1+((s.a0+s.a1)%18446744069414584321+s.a2)%18446744069414584321)%18446744069414584321,(s.a2+((s.a0+s.a1)%18446744069414584321+s.a2)%18446744069414584321)%18446744069414584321⟩
def pw (a e:Int):Int:=a^e.toNat%18446744069414584321
def rnd (s:wAD) (r:Int):wAD:=mixS ⟨pw ((s.a0+rc r 0)%18446744069414584321) 7,pw ((s.a1+rc r 1)%18446744069414584321) 7,pw ((s.a2+rc r 2)%18446744069414584321) 7⟩
def rnds:Nat->wAD->wAD
 |0,s=>s
 |n+1,s=>rnd (rnds n s) n
def permS (s:wAD):wAD:=rnds 8 s
def absL:List Int->wAD->wAD
 |[],s=>s
 |[x],s=>permS ⟨(s.a0+x)%18446744069414584321,s.a1,s.a2⟩
 |x::y::r,s=>absL r (permS ⟨(s.a0+x)%18446744069414584321,(s.a1+y)%18446744069414584321,s.a2⟩)
def absI (label:Int) (l:List Int):wAD:=⟨0,0,(label*65536%18446744069414584321+(l.length:Int))%18446744069414584321⟩
def absS (label:Int) (l:List Int):wAD:=if l=[]then permS (absI label l)else absL l (absI label l)
def hashS (label:Int) (l:List Int):Int:=(absS label l).a0
def hashB (label:Int) (b:List Int):Int:=hashS label (packS b)
def S3 (s:wAD):Prop:=U64 s.a0/\U64 s.a1/\U64 s.a2
theorem S3m {a b c:Int} (ha:U64 a) (hb:U64 b) (hc:U64 c):S3 ⟨a,b,c⟩:=⟨ha,hb,hc⟩
theorem k2b (s:wAD):S3 (permS s):=by show S3 (rnd _ _);unfold rnd mixS S3;dsimp only;omega
theorem kf0:∀(l:List Int) (s:wAD),S3 s->S3 (absL l s)
 |[],_,h=>h
 |[_],_,_=>k2b _
 |_::_::r,_,_=>kf0 r _ (k2b _)
theorem kz (label:Int) (l:List Int):U64 (hashS label l):=by
 unfold hashS absS;split
 ·exact(k2b _).1
 ·rename_i h
  match l,h with
  |[_],_=>exact(k2b _).1
  |_::_::r,_=>exact(kf0 r _ (k2b _)).1
theorem kbx (s:wAD):(permS s).a0<18446744069414584321:=by show(rnd _ _).a0<_;unfold rnd mixS;dsimp only;omega
theorem absL_lt:∀(l:List Int) (s:wAD),l≠[]->(absL l s).a0<18446744069414584321
 |[],_,h=>(h rfl).elim
 |[_],_,_=>kbx _
 |[_,_],_,_=>kbx _
 |_::_::x::r,s,_=>absL_lt (x::r) _ qqs
theorem k4m (label:Int) (l:List Int):hashS label l<18446744069414584321:=by
 unfold hashS absS;split
 ·exact kbx _
 ·rename_i h;exact absL_lt _ _ h
def idxI (l:List Int) (v:Int):Int:=if v∈l then(l.idxOf v:Int)else -1
def vMarks (l:List Int):Bool:=decide (l.length<=4)&&l.all (fun x=>decide (x<18446744069414584321))&&decide l.Nodup
def vPoint (a b:Int):Bool:=decide (a<18446744069414584321)&&(decide (b<18446744069414584321)&&(a !=0||b !=0))
def vOut (x:wAA):Bool:=decide (x.we<18446744069414584321)&&vPoint x.wAG x.wAB&&decide (x.wm.length=3)&&x.wm.all (fun n=>decide (n<18446744069414584321))
def vOuts (l:List wAA):Bool:=decide (l.length<=4)&&l.all vOut
def vAmounts (t:wa):Bool:=decide (t.wP<=4294967295)&&decide (t.wT<=4294967295)&&decide (t.Fee<=4294967295)&&decide (t.wW<18446744069414584321)&&decide (t.wU<18446744069414584321)&&
 (if 0<t.wP then t.wT==0 else !t.wL.isEmpty&&t.wU==0&&(decide (0<t.wT)||t.wW==0))
def vRest (t:wa):Bool:=decide (t.wg<18446744069414584321)&&decide (0<=t.wAE)&&decide (t.wAE<=1048576)
def validE (t:wa):Int:=if vMarks t.wL&&vOuts t.wE&&vAmounts t&&vRest t then(if t.ww.length<=1048576 then 0 else 3)else 1
structure OR (x:wAA):Prop where
 c:U64 x.we
 p0:U64 x.wAG
 p1:U64 x.wAB
 ci:Us x.wm
structure TR (t:wa):Prop where
 a:U64 t.wg
 m:Us t.wL
 o:∀x∈t.wE,OR x
 d:U64 t.wP
 w:U64 t.wT
 f:U64 t.Fee
 ac:U64 t.wW
 n:U64 t.wU
 e: -9223372036854775808<=t.wAE/\t.wAE<=9223372036854775807
 p:By t.ww
def encO (x:wAA):List Int:=dig 8 x.we++dig 8 x.wAG++dig 8 x.wAB++encL x.wm
def encT (t:wa) (p:List Int):List Int:=dig 8 t.wg++encL t.wL++dig 4 (len4 t.wE.length)++t.wE.flatMap encO++dig 8 t.wP++dig 8 t.wT++dig 8 t.Fee++dig 8 t.wW++dig 8 t.wU++dig 4 (len4 t.wAE)++encB p
def weightS (t:wa):Int:=if validE t=0 then(encT t t.ww).length else 0
def idS (t:wa):Int:=if validE t=0 then hashB 14 (encT t t.ww)else 0
def bindS (t:wa):Int:=if validE t=0 then hashB 13 (encT t [])else 0
def originS (t:wa):Int:=if validE t=0 then(if t.wL=[]then hashS 5 [t.wW,t.wU]else ix t.wL 0)else 0
structure TL (t:wa):Prop where
 m:t.wL.length<=4294967295
 o:t.wE.length<=4294967295
 c:∀x∈t.wE,x.wm.length<=4294967295
 p:t.ww.length<=4294967295
structure VO (x:wAA):Prop where
 c:x.we<18446744069414584321
 p:vPoint x.wAG x.wAB=true
 l:x.wm.length=3
 ci:∀n∈x.wm,n<18446744069414584321
theorem kc0 (x:wAA):vOut x=true↔VO x:=by unfold vOut;simp only[qg,qaf,qbw];exact⟨fun h=>⟨h.1.1.1,h.1.1.2,h.1.2,h.2⟩,fun h=>⟨⟨⟨h.c,h.p⟩,h.l⟩,h.ci⟩⟩
structure VT (t:wa):Prop where
 ml:t.wL.length<=4
 m:∀x∈t.wL,x<18446744069414584321
 mn:t.wL.Nodup
 ol:t.wE.length<=4
 o:∀x∈t.wE,VO x
 am:vAmounts t=true
 re:vRest t=true
 pl:t.ww.length<=1048576
theorem k15 (t:wa):validE t=0↔VT t:=by
 unfold validE;constructor
 ·intro h;split at h
  ·rename_i h1;split at h
   ·rename_i h2;simp only[qg,vMarks,vOuts,qaf,qbw]at h1;exact⟨h1.1.1.1.1.1,h1.1.1.1.1.2,h1.1.1.1.2,h1.1.1.2.1,fun x hx=>(kc0 x).1 (h1.1.1.2.2 x hx),h1.1.2,h1.2,h2⟩
   ·simp at h
  ·simp at h
 ·intro h;have:(vMarks t.wL&&vOuts t.wE&&vAmounts t&&vRest t)=true:=by simp only[qg,vMarks,vOuts,qaf,qbw];exact⟨⟨⟨⟨⟨h.ml,h.m⟩,h.mn⟩,h.ol,fun x hx=>(kc0 x).2 (h.o x hx)⟩,h.am⟩,h.re⟩
  rw[qh this,qh h.pl]
theorem VT.tl {t:wa} (h:VT t):TL t:=⟨by have:=h.ml;omega,by have:=h.ol;omega,fun x hx=>by have:=(h.o x hx).l;omega,by have:=h.pl;omega⟩
theorem encO_by {x:wAA}:By (encO x):=((((dig_by _ _).append (dig_by _ _)).append (dig_by _ _)).append (encL_by _))
theorem kqd (l:List wAA):By (l.flatMap encO):=fun x hx=>by obtain⟨y,_,hy⟩:=qdr.1 hx;exact encO_by x hy
theorem encT_by {t:wa} {p:List Int} (h:By p):By (encT t p):=((((((((((dig_by _ _).append (encL_by _)).append (dig_by _ _)).append (kqd _)).append (dig_by _ _)).append (dig_by _ _)).append (dig_by _ _)).append (dig_by _ _)).append (dig_by _ _)).append (dig_by _ _)).append (encB_by h)
theorem kkz (x:wAA):(encO x).length=28+8*x.wm.length:=by simp[encO];omega
theorem k30:∀(l:List wAA) (k:Nat),(∀x∈l,x.wm.length<=k)->(l.flatMap encO).length<=(28+8*k)*l.length
 |[],_,_=>by simp
 |x::r,k,h=>by have h1:=k30 r k (fun y hy=>h y (by simp[hy]));have h2:=h x qqs;rw[qay,qj,kkz,qad,Nat.mul_add];omega
theorem kli (t:wa) (p:List Int):(encT t p).length=64+8*t.wL.length+(t.wE.flatMap encO).length+p.length:=by simp only[encT,qj,ke,k16,kl8];omega
theorem VT.enc_len {t:wa} (h:VT t) (p:List Int):(encT t p).length<=304+p.length:=by have h1:=h.ml;have h2:=h.ol;have h3:=k30 t.wE 3 (fun x hx=>by have:=(h.o x hx).l;omega);rw[kli];omega
theorem kky {t:wa} (h:TR t):U64 (originS t):=by
 unfold originS;split
 ·split
  ·exact kz _ _
  ·rename_i hne;exact h.m _ (ix_mem _ 0 qqo (by have:=qda.2 hne;omega))
 ·omega
structure RD where
 n:Int
 ok:Bool
 pos:Int
 fail:Bool
structure RL where
 l:List Int
 pos:Int
 fail:Bool
structure RdOk (b:List Int) (pos:Int):Prop where
 by_:By b
 len:b.length<=137438953472
 pos0:0<=pos
 pos1:pos<=b.length
def rdD (b:List Int) (pos:Int) (f:Bool) (size:Int):RD:=if f=true∨(b.length:Int)-pos<size then⟨0,false,pos,true⟩else⟨val ((b.drop pos.toNat).take size.toNat),true,pos+size,false⟩
def rdU (b:List Int) (pos:Int) (f:Bool) (m:Int):RD:=if(rdD b pos f 8).ok=false∨m<(rdD b pos f 8).n then⟨0,false,(rdD b pos f 8).pos,true⟩else rdD b pos f 8
def rdI (b:List Int) (pos:Int) (f:Bool) (m:Int):RD:=if(rdD b pos f 4).ok=false∨m<(rdD b pos f 4).n then⟨0,false,(rdD b pos f 4).pos,true⟩else rdD b pos f 4
def rdLs (b:List Int) (p:Int):Nat->Int->List Int->RL
 |0,pos,acc=>⟨acc,pos,false⟩
 |k+1,pos,acc=>if p<=val ((b.drop pos.toNat).take 8)then⟨[],pos+8,true⟩else rdLs b p k (pos+8) (acc++[val ((b.drop pos.toNat).take 8)])
def rdL (b:List Int) (pos:Int) (f:Bool) (m p:Int):RL:=if(rdI b pos f m).fail=true∨((b.length:Int)-(rdI b pos f m).pos)/8<(rdI b pos f m).n then⟨[],(rdI b pos f m).pos,true⟩else rdLs b p (rdI b pos f m).n.toNat (rdI b pos f m).pos []
def rdB (b:List Int) (pos:Int) (f:Bool) (m:Int):RL:=if(rdI b pos f m).fail=true∨(b.length:Int)-(rdI b pos f m).pos<(rdI b pos f m).n then⟨[],(rdI b pos f m).pos,true⟩else⟨(b.take ((rdI b pos f m).pos+(rdI b pos f m).n).toNat).drop (rdI b pos f m).pos.toNat,(rdI b pos f m).pos+(rdI b pos f m).n,false⟩
theorem ka2 {b:List Int} {pos p:Int} {f:Bool} (h:RdOk b pos) (h0:1<=p) (h1:p<=8):0<=(rdD b pos f p).n/\(rdD b pos f p).n<256^p.toNat:=by
 unfold rdD;split
 ·exact⟨qec 0,k2w _⟩
 ·rename_i hn;have hb:=k5n _ ((h.by_.drop pos.toNat).take p.toNat);rw[qo,qan,qcb (by have:=h.pos0;omega)]at hb;exact hb
theorem rdD_ok {b:List Int} {pos p:Int} {f:Bool} (h:RdOk b pos) (h0:1<=p):RdOk b (rdD b pos f p).pos:=by
 unfold rdD;have:=h.pos0;split
 ·exact h
 ·rename_i hn;exact⟨h.by_,h.len,by show 0<=pos+p;omega,by show pos+p<=_;omega⟩
theorem rdU_ok {b:List Int} {pos m:Int} {f:Bool} (h:RdOk b pos):RdOk b (rdU b pos f m).pos:=by
 unfold rdU;split
 ·exact rdD_ok h qqo
 ·exact rdD_ok h qqo
theorem rdI_ok {b:List Int} {pos m:Int} {f:Bool} (h:RdOk b pos):RdOk b (rdI b pos f m).pos:=by
 unfold rdI;split
 ·exact rdD_ok h qqo
 ·exact rdD_ok h qqo
theorem rdI_n {b:List Int} {pos m:Int} {f:Bool} (h:RdOk b pos) (hm:0<=m):0<=(rdI b pos f m).n/\(rdI b pos f m).n<=m:=by
 have:=ka2 h (p:=4) (f:=f) qqo qqo;unfold rdI;split
 ·exact⟨qec 0,hm⟩
 ·rename_i hn;exact⟨this.1,by omega⟩
theorem rdU_n {b:List Int} {pos m:Int} {f:Bool} (h:RdOk b pos):U64 (rdU b pos f m).n:=by
 have:=ka2 h (p:=8) (f:=f) qqo qqo;unfold rdU;split
 ·exact⟨qec 0,(by decide:(0:Int)<18446744073709551616)⟩
 ·exact⟨this.1,this.2⟩
theorem cut_dig {b:List Int} (h:By b) (k:Nat) (hk:k<=b.length):b=dig k (val (b.take k))++b.drop k:=by have:=dig_val (b.take k) (h.take k);rw[qo,qcb hk]at this;rw[this,qbs]
theorem put_dig {b r:List Int} {k:Nat} {n:Int} (h:b=dig k n++r) (h0:0<=n) (h1:n<256^k):val (b.take k)=n/\b.drop k=r/\k<=b.length:=by subst h;rw[qfm (ke k n),List.drop_left' (ke k n),qj,ke];exact⟨val_dig k n h0 h1,rfl,by omega⟩
def nums:Nat->List Int->List Int
 |0,_=>[]
 |k+1,b=>val (b.take 8)::nums k (b.drop 8)
@[simp] theorem k6e:∀(k:Nat) (b:List Int),(nums k b).length=k
 |0,_=>rfl
 |k+1,b=>by simp[nums,k6e k]
theorem nums_us:∀(k:Nat) {b:List Int},By b->Us (nums k b)
 |0,_,_=>by intro x hx;cases hx
 |k+1,b,h=>by
  intro x hx;rcases qam.1 hx with rfl|hx
  ·exact val8 _ (h.take 8) (by rw[qo];omega)
  ·exact nums_us k (h.drop 8) x hx
theorem kig:∀(k:Nat) {b:List Int},By b->8*k<=b.length->b=(nums k b).flatMap (dig 8)++b.drop (8*k)
 |0,_,_,_=>rfl
 |k+1,b,h,hk=>by have h1:=cut_dig h 8 qqo;have h2:=kig k (h.drop 8) (by rw[qan];omega);rw[qfc,show 8+8*k=8*(k+1)by omega]at h2;simp only[nums,qay,qx];rw[<-h2];exact h1
theorem kjn:∀(l:List Int) {b r:List Int},b=l.flatMap (dig 8)++r->Us l->nums l.length b=l/\b.drop (8*l.length)=r/\8*l.length<=b.length
 |[],b,r,h,_=>⟨rfl,by simpa using h,by simp⟩
 |x::l,b,r,h,hu=>by
  rw[qay,qx]at h;have hx:=hu x qqs;obtain⟨h1,h2,h3⟩:=put_dig h hx.1 qqo;obtain⟨g1,g2,g3⟩:=kjn l h2 (fun y hy=>hu y (by simp[hy]));rw[qan]at g3;refine⟨?_,?_,?_⟩
  ·simp only[qad,nums,h1,g1]
  ·rw[qfc,show 8+8*l.length=8*(l.length+1)by omega]at g2;simpa using g2
  ·rw[qad];omega
section
variable {b:List Int} {pos m p:Int} {f:Bool}
theorem k3i (h0:0<=pos) (k:Nat):b.drop (pos+(k:Int)).toNat=(b.drop pos.toNat).drop k:=by rw[qfc,show(pos+(k:Int)).toNat=pos.toNat+k by omega]
theorem rdD_snd (h:RdOk b pos) (k:Nat) (hf:(rdD b pos f k).ok=true):f=false/\b.drop pos.toNat=dig k (rdD b pos f k).n++b.drop (rdD b pos f k).pos.toNat/\(rdD b pos f k).fail=false:=by
 unfold rdD at *
 split at hf
 ·cases hf
 ·rename_i hn;rw[qe hn];have h0:=h.pos0;refine⟨?_,?_,rfl⟩
  ·cases f
   ·rfl
   ·exact absurd (.inl rfl) hn
  ·show b.drop pos.toNat=dig k (val ((b.drop pos.toNat).take (k:Int).toNat))++b.drop (pos+(k:Int)).toNat;rw[k3i h0,qr];refine cut_dig (h.by_.drop _) k ?_;have:¬(b.length:Int)-pos<k:=fun h=>hn (.inr h);rw[qan];omega
theorem rdD_cpl (h:RdOk b pos) (k:Nat) {n:Int} {r:List Int} (hf:f=false) (hr:b.drop pos.toNat=dig k n++r) (h0:0<=n) (h1:n<256^k):rdD b pos f k=⟨n,true,pos+k,false⟩/\b.drop (pos+(k:Int)).toNat=r:=by
 obtain⟨g1,g2,g3⟩:=put_dig hr h0 h1;rw[qan]at g3;have hp:=h.pos1;have hp0:=h.pos0;refine⟨?_,by rw[k3i hp0];exact g2⟩;unfold rdD;have hk:¬(f=true∨(b.length:Int)-pos<k):=by rw[hf];simp only[qbd,false_or];rcases Nat.eq_zero_or_pos k with h|h<;>omega
 rw[qe hk,qr,g1]
theorem rdU_snd (h:RdOk b pos) (hf:(rdU b pos f m).fail=false):f=false/\b.drop pos.toNat=dig 8 (rdU b pos f m).n++b.drop (rdU b pos f m).pos.toNat/\(rdU b pos f m).n<=m:=by
 unfold rdU at *
 split at hf
 ·cases hf
 ·rename_i hn;rw[qe hn]
  have ho:(rdD b pos f 8).ok=true:=by
   cases hc:(rdD b pos f 8).ok
   ·exact absurd (.inl hc) hn
   ·rfl
  obtain⟨g1,g2,g3⟩:=rdD_snd h 8 ho;exact⟨g1,g2,by have:¬m<(rdD b pos f 8).n:=fun h=>hn (.inr h);omega⟩
theorem rdU_cpl (h:RdOk b pos) {n:Int} {r:List Int} (hf:f=false) (hr:b.drop pos.toNat=dig 8 n++r) (hn:U64 n) (hm:n<=m):(rdU b pos f m).fail=false/\(rdU b pos f m).n=n/\b.drop (rdU b pos f m).pos.toNat=r:=by
 obtain⟨g1,g2⟩:=rdD_cpl h 8 hf hr hn.1 hn.2;have e:rdU b pos f m=⟨n,true,pos+8,false⟩:=by unfold rdU;have g1:rdD b pos f 8=⟨n,true,pos+8,false⟩:=g1;rw[g1];exact qe qqm
 rw[e];exact⟨rfl,rfl,g2⟩
theorem rdI_snd (h:RdOk b pos) (hf:(rdI b pos f m).fail=false):f=false/\b.drop pos.toNat=dig 4 (rdI b pos f m).n++b.drop (rdI b pos f m).pos.toNat/\(rdI b pos f m).n<=m:=by
 unfold rdI at *
 split at hf
 ·cases hf
 ·rename_i hn;rw[qe hn]
  have ho:(rdD b pos f 4).ok=true:=by
   cases hc:(rdD b pos f 4).ok
   ·exact absurd (.inl hc) hn
   ·rfl
  obtain⟨g1,g2,g3⟩:=rdD_snd h 4 ho;exact⟨g1,g2,by have:¬m<(rdD b pos f 4).n:=fun h=>hn (.inr h);omega⟩
theorem rdI_cpl (h:RdOk b pos) {n:Int} {r:List Int} (hf:f=false) (hr:b.drop pos.toNat=dig 4 n++r) (h0:0<=n) (h1:n<4294967296) (hm:n<=m):(rdI b pos f m).fail=false/\(rdI b pos f m).n=n/\b.drop (rdI b pos f m).pos.toNat=r:=by
 obtain⟨g1,g2⟩:=rdD_cpl h 4 hf hr h0 h1;have e:rdI b pos f m=⟨n,true,pos+4,false⟩:=by unfold rdI;have g1:rdD b pos f 4=⟨n,true,pos+4,false⟩:=g1;rw[g1];exact qe qqm
 rw[e];exact⟨rfl,rfl,g2⟩
theorem rdLs_ok:∀(k:Nat) {pos:Int} {acc:List Int},RdOk b pos->pos+8*k<=b.length->RdOk b (rdLs b p k pos acc).pos
 |0,pos,acc,h,_=>h
 |k+1,pos,acc,h,hk=>by
  have h2:RdOk b (pos+8):=⟨h.by_,h.len,by have:=h.pos0;omega,by omega⟩;unfold rdLs;split
  ·exact h2
  ·exact rdLs_ok k h2 qqo
theorem kd3:∀(k:Nat) {pos:Int} {acc:List Int},RdOk b pos->pos+8*k<=b.length->(rdLs b p k pos acc).fail=false->
  (rdLs b p k pos acc).l=acc++nums k (b.drop pos.toNat)/\(∀x∈nums k (b.drop pos.toNat),x<p)/\(rdLs b p k pos acc).pos=pos+8*k
 |0,pos,acc,h,_,_=>⟨by simp[rdLs,nums],by simp[nums],by simp[rdLs]⟩
 |k+1,pos,acc,h,hk,hf=>by
  have h2:RdOk b (pos+8):=⟨h.by_,h.len,by have:=h.pos0;omega,by omega⟩;have hd:b.drop (pos+8).toNat=(b.drop pos.toNat).drop 8:=k3i h.pos0 8;unfold rdLs at *
  split at hf
  ·cases hf
  ·rename_i hn;rw[qe hn];obtain⟨g1,g2,g3⟩:=kd3 k h2 qqo hf;rw[hd]at g1 g2;refine⟨?_,?_,?_⟩
   ·rw[g1,qx];rfl
   ·intro x hx;rcases qam.1 hx with rfl|hx
    ·omega
    ·exact g2 x hx
   ·rw[g3];omega
theorem kii:∀(k:Nat) {pos:Int} {acc:List Int},RdOk b pos->pos+8*k<=b.length->(∀x∈nums k (b.drop pos.toNat),x<p)->(rdLs b p k pos acc).fail=false
 |0,pos,acc,h,_,_=>rfl
 |k+1,pos,acc,h,hk,hf=>by have h2:RdOk b (pos+8):=⟨h.by_,h.len,by have:=h.pos0;omega,by omega⟩;have hd:b.drop (pos+8).toNat=(b.drop pos.toNat).drop 8:=k3i h.pos0 8;unfold rdLs;have h3:=hf (val ((b.drop pos.toNat).take 8)) (by simp[nums]);rw[qe qqo];exact kii k h2 qqo (by rw[hd];exact fun x hx=>hf x (qes _ hx))
theorem rdL_ok (h:RdOk b pos) (hm:0<=m):RdOk b (rdL b pos f m p).pos:=by
 unfold rdL;split
 ·exact rdI_ok h
 ·rename_i hn;have:=rdI_n h (f:=f) hm;have:¬((b.length:Int)-(rdI b pos f m).pos)/8<(rdI b pos f m).n:=fun h=>hn (.inr h);exact rdLs_ok _ (rdI_ok h) qqo
theorem rdL_snd (h:RdOk b pos) (hm:0<=m/\m<=4294967295) (hf:(rdL b pos f m p).fail=false):f=false/\b.drop pos.toNat=encL (rdL b pos f m p).l++b.drop (rdL b pos f m p).pos.toNat/\((rdL b pos f m p).l.length:Int)<=m/\(∀x∈(rdL b pos f m p).l,x<p)/\Us (rdL b pos f m p).l:=by
 unfold rdL at *
 split at hf
 ·cases hf
 ·rename_i hn;rw[qe hn]
  have hI:(rdI b pos f m).fail=false:=by
   cases hc:(rdI b pos f m).fail
   ·rfl
   ·exact absurd (.inl hc) hn
  have hI2:=rdI_n h (f:=f) hm.1;have hok:=rdI_ok h (f:=f) (m:=m);obtain⟨g1,g2,g3⟩:=rdI_snd h hI;have hle:¬((b.length:Int)-(rdI b pos f m).pos)/8<(rdI b pos f m).n:=fun h=>hn (.inr h);obtain⟨k1,k2,k3⟩:=kd3 _ hok qqo hf;rw[qcc]at k1;rw[k1,k3];have hp0:=hok.pos0;have hp1:=hok.pos1;refine⟨g1,?_,by rw[k6e];omega,k2,nums_us _ (h.by_.drop _)⟩;rw[g2];unfold encL;rw[k6e,show(((rdI b pos f m).n.toNat:Nat):Int)=(rdI b pos f m).n by omega,len4_in qqo,qx];congr 1;have:=kig (rdI b pos f m).n.toNat (h.by_.drop (rdI b pos f m).pos.toNat) (by rw[qan];omega);have e:=k3i (b:=b) hp0 (8*(rdI b pos f m).n.toNat);rw[show((rdI b pos f m).pos+((8*(rdI b pos f m).n.toNat:Nat):Int))=(rdI b pos f m).pos+8*((rdI b pos f m).n.toNat:Int)by omega,show(((rdI b pos f m).n.toNat:Nat):Int)=(rdI b pos f m).n by omega]at e;rw[e];exact this
theorem rdL_cpl (h:RdOk b pos) (hm:0<=m/\m<=4294967295) {l r:List Int} (hf:f=false) (hr:b.drop pos.toNat=encL l++r) (hl:(l.length:Int)<=m) (hp:∀x∈l,x<p) (hu:Us l):(rdL b pos f m p).fail=false/\(rdL b pos f m p).l=l/\b.drop (rdL b pos f m p).pos.toNat=r:=by
 unfold encL at hr;rw[len4_in qqo,qx]at hr;have hok:=rdI_ok h (f:=f) (m:=m);obtain⟨g1,g2,g3⟩:=rdI_cpl h hf hr qqo qqo hl;obtain⟨k1,k2,k3⟩:=kjn l g3 hu;rw[qan]at k3;have hp0:=hok.pos0;have hp1:=hok.pos1;have hn:¬((rdI b pos f m).fail=true∨((b.length:Int)-(rdI b pos f m).pos)/8<(rdI b pos f m).n):=by rw[g1,g2];simp only[qbd,false_or];omega
 unfold rdL;rw[qe hn,g2,qr];have hc:=kii (p:=p) (acc:=[]) l.length hok qqo (by rw[k1];exact hp);obtain⟨q1,q2,q3⟩:=kd3 _ hok qqo hc;refine⟨hc,by rw[q1,k1];rfl,?_⟩;rw[q3,show(rdI b pos f m).pos+8*(l.length:Int)=(rdI b pos f m).pos+((8*l.length:Nat):Int)by omega,k3i hp0];exact k2
end
open Classical in
structure TD (t:wa):Prop where
 r:TR t
 l:TL t
 o:t.wE.length<=1048576
 c:∀x∈t.wE,x.wm.length<=1024
def sameT (a b:wa):Bool:=decide (a.wE.length=b.wE.length)&&a.wAE==b.wAE&&decide (a.wE.map (·.wm.length)=b.wE.map (·.wm.length))&&decide (encT a a.ww=encT b b.ww)
@[simp] theorem kqh (a:wa):sameT a a=true:=by simp[sameT]
section
variable {b r:List Int} {n m:Int}
end
def rhoS (o i:Int):Int:=if o<18446744069414584321 then hashS 4 [o,i]else 0
def stmtS (t:wa) (depth:Int):wx:=if validE t=0 then⟨depth,t.wg,t.wL,t.wE.map (·.we),(List.range t.wE.length).map (fun i:Nat=>rhoS (originS t) (i:Int)),t.wP,t.wT,t.Fee,t.wW,bindS t⟩else⟨0,0,[],[],[],0,0,0,0,0⟩
structure RB where
 l:List Int
 b:List Int
 f:Bool
def tkB (b:List Int) (f:Bool) (k:Int):RB:=if f=true∨(b.length:Int)<k then⟨[],b,true⟩else⟨b.take k.toNat,b.drop k.toNat,false⟩
section
variable {b r:List Int} {f:Bool} {k m n:Int}
end
def allB (l:List Int):Bool:=l.all (fun x=>decide (x<18446744069414584321))
theorem kiz {l:List Int}:allB l=true↔∀x∈l,x<18446744069414584321:=by unfold allB;simp
def keyB (ns l:List Int):ByteArray:=strOfNums (ns.flatMap (dig 8)++l.flatMap (dig 8))
structure OrOk (ks:List ByteArray) (vs:List Int) (qs:List wH):Prop where
 len:ks.length=vs.length
 rng:∀v∈vs,0<=v/\v<qs.length
def pk (ideal:Bool) (qs:List wH) (ks:List ByteArray) (vs:List Int) (label:Int) (l:List Int):Option Int:=if allB l=true then(if mHas (BEq.beq (keyB [label] l)) ks=true then some (ix qs (mVal (BEq.beq (keyB [label] l)) ks vs 0)).wBE else if ideal=true then none else some (hashS label l))else none
def pkR (label:Int) (l:List Int):Option Int:=if allB l=true then some (hashS label l)else none
theorem pk_real (qs:List wH) (label:Int) (l:List Int):pk false qs [] [] label l=pkR label l:=by unfold pk pkR;simp
def noteV (n:wh):Bool:=decide (n.Value<=4294967295)&&decide (n.wAX<18446744069414584321)&&decide (n.Rho<18446744069414584321)&&decide (n.wAc<18446744069414584321)
def noteL (n:wh):List Int:=[n.Value,n.wAX,n.Rho,n.wAc]
def noteOf (x:wv):wh:=⟨x.wAJ,x.wAW,x.wAQ,x.wAa⟩
def spendV (x:wv):Bool:=noteV (noteOf x)&&decide (x.Key<18446744069414584321)&&decide (0<=x.wAO)&&decide (x.wAO<4)&&decide (0<=x.wy)&&decide (x.wy<=4095)&&decide (x.wAR.length<=12)&&allB x.wAR
def inV (depth:Int) (x:wv):Bool:=spendV x&&decide ((x.wAR.length:Int)=depth)&&decide (x.wy<2^depth.toNat)
def relV (s:wx) (w:wt):Bool:=
 decide (1<=s.wC)&&decide (s.wC<=12)&&allB [s.wg,s.wW,s.wAj,w.wAL]&&decide (s.wP<=4294967295)&&decide (s.wT<=4294967295)&&decide (s.Fee<=4294967295)&&
 allB s.wL&&allB s.wn&&allB s.wAK&&decide (w.Ins.length=s.wL.length)&&decide (w.Ins.length<=4)&&decide (w.wE.length=s.wn.length)&&decide (w.wE.length=s.wAK.length)&&decide (w.wE.length<=4)&&
 w.Ins.all (inV s.wC)&&w.wE.all noteV
def climbL:Int->Int->List Int->Int
 |d,_,[]=>d
 |d,p,n::r=>climbL (if p%2=0 then hashS 6 [d,n]else hashS 6 [n,d]) (p/2) r
def climbS (leaf pos:Int) (path:List Int):Int:=if path.length<=12/\0<=pos/\pos<2^path.length/\leaf<18446744069414584321/\allB path=true then climbL leaf pos path else 0
def ownerS (key number:Int):Int:=if 0<=number/\number<4 then hashS 1 [key,number]else 0
def acctS (secret:Int):Int:=hashS 7 [secret]
abbrev Ask:=Int->List Int->Option Int
def markP (f:Ask) (key rho:Int):Option Int:=if key<18446744069414584321/\rho<18446744069414584321 then f 3 [key,rho]else none
def commP (f:Ask) (n:wh):Option Int:=if noteV n=true then f 2 (noteL n)else none
def inE (f:Ask) (anchor mark:Int) (x:wv):Int:=
 if x.wAW≠ownerS x.Key x.wAO then 21 else
 if(markP f x.Key x.wAQ).isSome=false∨(markP f x.Key x.wAQ).getD 0≠mark then 12 else
 if x.wAq=true then(if x.wAJ≠0 then 13 else 0)else
 if(commP f (noteOf x)).isSome=false∨climbS ((commP f (noteOf x)).getD 0) x.wy x.wAR≠anchor then 11 else 0
def insE (f:Ask) (anchor:Int):List wv->List Int->Int
 |x::r,m::ms=>if inE f anchor m x≠0 then inE f anchor m x else insE f anchor r ms
 |_,_=>0
def outB (f:Ask) (n:wh) (c r:Int):Bool:=(commP f n).isSome&&(commP f n).getD 0==c&&n.Rho==r
def outsB (f:Ask):List wh->List Int->List Int->Bool
 |n::l,c::cs,r::rs=>outB f n c r&&outsB f l cs rs
 |_,_,_=>true
def inS (l:List wv):Int:=l.foldl (fun s x=>(s+x.wAJ)%18446744073709551616) 0
def outS (l:List wh):Int:=l.foldl (fun s x=>(s+x.Value)%18446744073709551616) 0
def checkS (f:Ask) (s:wx) (w:wt):Int:=
 if relV s w=false then 1 else
 if insE f s.wg w.Ins s.wL≠0 then insE f s.wg w.Ins s.wL else
 if outsB f w.wE s.wn s.wAK=false then 1 else
 if 0<s.wP/\s.wW≠acctS w.wAL then 21 else
 if(inS w.Ins+s.wP)%18446744073709551616≠((outS w.wE+s.wT)%18446744073709551616+s.Fee)%18446744073709551616 then 13 else 0
structure NR (n:wh):Prop where
 v:U64 n.Value
 o:U64 n.wAX
 r:U64 n.Rho
 b:U64 n.wAc
structure PR (x:wv):Prop where
 n:NR (noteOf x)
 k:U64 x.Key
 nu: -9223372036854775808<=x.wAO/\x.wAO<=9223372036854775807
 po: -9223372036854775808<=x.wy/\x.wy<=9223372036854775807
 pa:Us x.wAR
 pl:x.wAR.length<=1073741824
structure WR (w:wt):Prop where
 i:∀x∈w.Ins,PR x
 il:w.Ins.length<=1073741824
 o:∀x∈w.wE,NR x
 ol:w.wE.length<=1073741824
 s:U64 w.wAL
structure SR (s:wx):Prop where
 d: -9223372036854775808<=s.wC/\s.wC<=9223372036854775807
 a:U64 s.wg
 m:Us s.wL
 ml:s.wL.length<=1073741824
 c:Us s.wn
 cl:s.wn.length<=1073741824
 r:Us s.wAK
 rl:s.wAK.length<=1073741824
 de:U64 s.wP
 wi:U64 s.wT
 f:U64 s.Fee
 ac:U64 s.wW
 b:U64 s.wAj
structure PQ (x:wv):Prop where
 n:NR (noteOf x)
 k:U64 x.Key
 nu: -9223372036854775808<=x.wAO/\x.wAO<=9223372036854775807
 po: -9223372036854775808<=x.wy/\x.wy<=9223372036854775807
 pa:Us x.wAR
 pl:x.wAR.length<=9223372036854775807
structure WQ (w:wt):Prop where
 i:∀x∈w.Ins,PQ x
 il:w.Ins.length<=9223372036854775807
 o:∀x∈w.wE,NR x
 ol:w.wE.length<=9223372036854775807
 s:U64 w.wAL
theorem pkR_u {l:Int} {a:List Int}:pkR l a=none∨∃n,pkR l a=some n/\U64 n:=by
 unfold pkR;split
 ·exact .inr ⟨_,rfl,kz _ _⟩
 ·exact .inl rfl
structure Pz {α:Type} (enc:α->List Int) (G:α->Prop) (r:List Int) (f:Bool) (v:α) (r' :List Int) (f' :Bool):Prop where
 snd:f' =false->f=false/\r=enc v++r'/\G v
 cpl:∀v0 s,f=false->r=enc v0++s->G v0->f' =false/\v=v0/\r' =s
theorem Pz.two {α β:Type} {e1:α->List Int} {G1:α->Prop} {e2:β->List Int} {G2:β->Prop} {r r1 r2:List Int} {f f1 f2:Bool} {a:α} {b:β}
  (h1:Pz e1 G1 r f a r1 f1) (h2:Pz e2 G2 r1 f1 b r2 f2):Pz (fun p:α×β=>e1 p.1++e2 p.2) (fun p=>G1 p.1/\G2 p.2) r f (a,b) r2 f2 where
 snd h:=by obtain⟨x1,x2,x3⟩:=h2.snd h;obtain⟨y1,y2,y3⟩:=h1.snd x1;exact⟨y1,by rw[y2,x2,qx],y3,x3⟩
 cpl v0 s hf hr hG:=by rw[qx]at hr;obtain⟨y1,y2,y3⟩:=h1.cpl v0.1 _ hf hr hG.1;obtain⟨x1,x2,x3⟩:=h2.cpl v0.2 _ y1 y3 hG.2;exact⟨x1,by rw[y2,x2],x3⟩
theorem Pz.to {α β:Type} {e1:α->List Int} {G1:α->Prop} {e2:β->List Int} {G2:β->Prop} {r r1:List Int} {f f1:Bool} {a:α}
  (h1:Pz e1 G1 r f a r1 f1) (φ:α->β) (ψ:β->α) (he:∀x,G1 x->e2 (φ x)=e1 x/\G2 (φ x)) (hi:∀y,G2 y->φ (ψ y)=y/\e1 (ψ y)=e2 y/\G1 (ψ y)):Pz e2 G2 r f (φ a) r1 f1 where
 snd h:=by obtain⟨x1,x2,x3⟩:=h1.snd h;exact⟨x1,by rw[x2,(he a x3).1],(he a x3).2⟩
 cpl v0 s hf hr hG:=by obtain⟨i1,i2,i3⟩:=hi v0 hG;obtain⟨y1,y2,y3⟩:=h1.cpl (ψ v0) s hf (by rw[i2];exact hr) i3;exact⟨y1,by rw[y2,i1],y3⟩
def Gl {α:Type} (G:α->Prop) (n:Nat) (l:List α):Prop:=l.length=n/\∀x∈l,G x
theorem Pz.nil {α:Type} {e:α->List Int} {G:α->Prop} {r:List Int} {f:Bool}:Pz (fun l:List α=>l.flatMap e) (Gl G 0) r f [] r f where
 snd h:=⟨h,rfl,rfl,by intro x hx;cases hx⟩
 cpl v0 s hf hr hG:=by have:v0=[]:=qcx.1 hG.1;subst this;exact⟨hf,rfl,hr⟩
theorem Pz.snoc {α:Type} {e:α->List Int} {G:α->Prop} {r r1 r2:List Int} {f f1 f2:Bool} {l:List α} {x:α} {n:Nat}
  (h1:Pz (fun l:List α=>l.flatMap e) (Gl G n) r f l r1 f1) (h2:Pz e G r1 f1 x r2 f2):Pz (fun l:List α=>l.flatMap e) (Gl G (n+1)) r f (l++[x]) r2 f2 where
 snd h:=by
  obtain⟨x1,x2,x3⟩:=h2.snd h;obtain⟨y1,y2,y3⟩:=h1.snd x1;refine⟨y1,by rw[y2,x2];simp,by simp[y3.1],?_⟩;intro y hy;rcases qal.1 hy with hy|hy
  ·exact y3.2 y hy
  ·rw[qav.1 hy];exact x3
 cpl v0 s hf hr hG:=by
  have hne:v0≠[]:=by intro h;have:=hG.1;rw[h]at this;simp at this
  have hd:=List.dropLast_concat_getLast hne;generalize v0.dropLast=i at *
  generalize v0.getLast hne=z at *
  subst hd;obtain⟨g1,g2⟩:=hG;have hr:r=i.flatMap e++(e z++s):=by rw[hr];simp
  obtain⟨y1,y2,y3⟩:=h1.cpl i _ hf hr ⟨by simpa using g1,fun y hy=>g2 y (by simp[hy])⟩;obtain⟨x1,x2,x3⟩:=h2.cpl z _ y1 y3 (g2 z qqs);exact⟨x1,by rw[y2,x2],x3⟩
def encC {α:Type} (e:α->List Int) (l:List α):List Int:=dig 4 (l.length:Int)++l.flatMap e
def Gn (m n:Int):Prop:=0<=n/\n<4294967296/\n<=m
def Gc {α:Type} (G:α->Prop) (m:Int) (l:List α):Prop:=Gn m (l.length:Int)/\∀x∈l,G x
theorem Pz.list {α:Type} {e:α->List Int} {G:α->Prop} {r r1 r2:List Int} {f f1 f2:Bool} {l:List α} {n m:Int}
  (h1:Pz (dig 4) (Gn m) r f n r1 f1) (h2:Pz (fun l:List α=>l.flatMap e) (Gl G n.toNat) r1 f1 l r2 f2):Pz (encC e) (Gc G m) r f l r2 f2 where
 snd h:=by
  obtain⟨x1,x2,x3⟩:=h2.snd h;obtain⟨y1,y2,y3⟩:=h1.snd x1;have hn:(l.length:Int)=n:=by rw[x3.1];have:=y3.1;omega
  exact⟨y1,by unfold encC;rw[hn,y2,x2,qx],by unfold Gc;rw[hn];exact⟨y3,x3.2⟩⟩
 cpl v0 s hf hr hG:=by unfold encC at hr;rw[qx]at hr;obtain⟨y1,y2,y3⟩:=h1.cpl _ _ hf hr hG.1;obtain⟨x1,x2,x3⟩:=h2.cpl v0 s y1 y3 ⟨by rw[y2];simp,hG.2⟩;exact⟨x1,x2,x3⟩
def Gu (m n:Int):Prop:=U64 n/\n<=m
def Gp (m p:Int) (l:List Int):Prop:=(l.length:Int)<=m/\(∀x∈l,x<p)/\Us l
section
variable {b:List Int} {pos m p:Int} {f:Bool}
theorem rdU_pz (h:RdOk b pos):Pz (dig 8) (Gu m) (b.drop pos.toNat) f (rdU b pos f m).n (b.drop (rdU b pos f m).pos.toNat) (rdU b pos f m).fail where
 snd hf:=by obtain⟨h1,h2,h3⟩:=rdU_snd h hf;exact⟨h1,h2,rdU_n h,h3⟩
 cpl v0 s hf hr hG:=rdU_cpl h hf hr hG.1 hG.2
theorem rdI_pz (h:RdOk b pos) (hm:0<=m/\m<4294967296):Pz (dig 4) (Gn m) (b.drop pos.toNat) f (rdI b pos f m).n (b.drop (rdI b pos f m).pos.toNat) (rdI b pos f m).fail where
 snd hf:=by obtain⟨h1,h2,h3⟩:=rdI_snd h hf;have:=rdI_n (f:=f) h hm.1;exact⟨h1,h2,this.1,by omega,h3⟩
 cpl v0 s hf hr hG:=rdI_cpl h hf hr hG.1 hG.2.1 hG.2.2
theorem rdL_pz (h:RdOk b pos) (hm:0<=m/\m<=4294967295):Pz encL (Gp m p) (b.drop pos.toNat) f (rdL b pos f m p).l (b.drop (rdL b pos f m p).pos.toNat) (rdL b pos f m p).fail where
 snd hf:=by obtain⟨h1,h2,h3,h4,h5⟩:=rdL_snd h hm hf;exact⟨h1,h2,h3,h4,h5⟩
 cpl v0 s hf hr hG:=rdL_cpl h hm hf hr hG.1 hG.2.1 hG.2.2
end
section
variable {b:List Int} {f:Bool} {m p:Int}
end
def encN (n:wh):List Int:=dig 8 n.Value++(dig 8 n.wAX++(dig 8 n.Rho++dig 8 n.wAc))
def encSp (x:wv):List Int:=encN (noteOf x)++(dig 8 x.Key++(dig 4 (len4 x.wAO)++(dig 4 (len4 x.wy)++(encL x.wAR++dig 4 (len4 (if x.wAq=true then 1 else 0))))))
def encW (w:wt):List Int:=dig 4 (len4 (w.Ins.length:Int))++(w.Ins.flatMap encSp++(dig 4 (len4 (w.wE.length:Int))++(w.wE.flatMap encN++dig 8 w.wAL)))
def rightV (w:wt):Bool:=decide (w.Ins.length<=4)&&decide (w.wE.length<=4)&&decide (w.wAL<18446744069414584321)&&w.Ins.all spendV&&w.wE.all noteV
structure Lim where
 m:Int
 p:Int
 n:Int
 q:Int
 hm:m<=18446744073709551615
 hp:p<=18446744073709551615
 hn:3<=n
 hq:4095<=q
 hm' :4294967295<=m
 hp' :18446744069414584320<=p
def limW:Lim:=⟨4294967295,18446744069414584320,3,4095,by omega,by omega,by omega,by omega,by omega,by omega⟩
def GN (L:Lim) (n:wh):Prop:=Gu L.m n.Value/\Gu L.p n.wAX/\Gu L.p n.Rho/\Gu L.p n.wAc
def GS (L:Lim) (x:wv):Prop:=GN L (noteOf x)/\Gu L.p x.Key/\Gn L.n x.wAO/\Gn L.q x.wy/\Gp 12 18446744069414584321 x.wAR
theorem GN.nr {L:Lim} {n:wh} (h:GN L n):NR n:=⟨h.1.1,h.2.1.1,h.2.2.1.1,h.2.2.2.1⟩
theorem GS.pq {L:Lim} {x:wv} (h:GS L x):PQ x:=by obtain⟨h1,h2,h3,h4,h5⟩:=h;obtain⟨a1,a2,a3⟩:=h3;obtain⟨b1,b2,b3⟩:=h4;obtain⟨c1,c2,c3⟩:=h5;exact⟨h1.nr,h2.1,by omega,by omega,c3,by omega⟩
theorem kgv {n:wh}:noteV n=true↔n.Value<=4294967295/\n.wAX<18446744069414584321/\n.Rho<18446744069414584321/\n.wAc<18446744069414584321:=by unfold noteV;simp only[qg,qaf,and_assoc]
theorem k78 {x:wv}:spendV x=true↔noteV (noteOf x)=true/\x.Key<18446744069414584321/\0<=x.wAO/\x.wAO<4/\0<=x.wy/\x.wy<=4095/\x.wAR.length<=12/\allB x.wAR=true:=by unfold spendV;simp only[qg,qaf,and_assoc]
theorem k83 {w:wt}:rightV w=true↔w.Ins.length<=4/\w.wE.length<=4/\w.wAL<18446744069414584321/\(∀x∈w.Ins,spendV x=true)/\∀x∈w.wE,noteV x=true:=by unfold rightV;simp only[qg,qaf,and_assoc,qbw]
theorem NR.gn {n:wh} (h:NR n) (hv:noteV n=true) (L:Lim):GN L n:=by obtain⟨h1,h2,h3,h4⟩:=kgv.1 hv;have:=L.hm';have:=L.hp';exact⟨⟨h.v,by omega⟩,⟨h.o,by omega⟩,⟨h.r,by omega⟩,⟨h.b,by omega⟩⟩
theorem PQ.gs {x:wv} (h:PQ x) (hv:spendV x=true) (L:Lim):GS L x:=by obtain⟨h1,h2,h3,h4,h5,h6,h7,h8⟩:=k78.1 hv;have:=L.hp';have:=L.hn;have:=L.hq;exact⟨h.n.gn h1 L,⟨h.k,by omega⟩,⟨h3,by omega,by omega⟩,⟨h5,by omega,by omega⟩,by omega,kiz.1 h8,h.pa⟩
theorem GN.noteV {n:wh} (h:GN limW n):noteV n=true:=by obtain⟨h1,h2,h3,h4⟩:=h;have e1:n.Value<=4294967295:=h1.2;have e2:n.wAX<=18446744069414584320:=h2.2;have e3:n.Rho<=18446744069414584320:=h3.2;have e4:n.wAc<=18446744069414584320:=h4.2;exact kgv.2 ⟨e1,by omega,by omega,by omega⟩
theorem GS.spendV {x:wv} (h:GS limW x):spendV x=true:=by obtain⟨h1,h2,h3,h4,h5⟩:=h;have e1:x.Key<=18446744069414584320:=h2.2;have e2:x.wAO<=3:=h3.2.2;have e3:x.wy<=4095:=h4.2.2;have e4:=h5.1;exact k78.2 ⟨h1.noteV,by omega,h3.1,by omega,h4.1,e3,by omega,kiz.2 h5.2.1⟩
theorem pz_note {L:Lim} {r r1 r2 r3 r4:List Int} {f f1 f2 f3 f4:Bool} {a b c d:Int} (h1:Pz (dig 8) (Gu L.m) r f a r1 f1) (h2:Pz (dig 8) (Gu L.p) r1 f1 b r2 f2) (h3:Pz (dig 8) (Gu L.p) r2 f2 c r3 f3) (h4:Pz (dig 8) (Gu L.p) r3 f3 d r4 f4):Pz encN (GN L) r f ⟨a,b,c,d⟩ r4 f4:=(((h3.two h4)|>h2.two)|>h1.two).to (fun p:Int×Int×Int×Int=>wh.mk p.1 p.2.1 p.2.2.1 p.2.2.2) (fun n=>(n.Value,n.wAX,n.Rho,n.wAc)) (fun _ h=>⟨rfl,h⟩) (fun _ h=>⟨rfl,rfl,h⟩)
theorem koj {L:Lim} {r r1 r2 r3 r4 r5 r6:List Int} {f f1 f2 f3 f4 f5 f6:Bool} {a:wh} {k n q:Int} {p:List Int} {d:Int} (h1:Pz encN (GN L) r f a r1 f1) (h2:Pz (dig 8) (Gu L.p) r1 f1 k r2 f2) (h3:Pz (dig 4) (Gn L.n) r2 f2 n r3 f3) (h4:Pz (dig 4) (Gn L.q) r3 f3 q r4 f4)
  (h5:Pz encL (Gp 12 18446744069414584321) r4 f4 p r5 f5) (h6:Pz (dig 4) (Gn 1) r5 f5 d r6 f6):Pz encSp (GS L) r f ⟨a.Value,a.wAX,a.Rho,a.wAc,k,n,q,p,d==1⟩ r6 f6:=by
 refine(((((h5.two h6)|>h4.two)|>h3.two)|>h2.two)|>h1.two).to (fun x:wh×Int×Int×Int×List Int×Int=>wv.mk x.1.Value x.1.wAX x.1.Rho x.1.wAc x.2.1 x.2.2.1 x.2.2.2.1 x.2.2.2.2.1 (x.2.2.2.2.2==1)) (fun x=>(noteOf x,x.Key,x.wAO,x.wy,x.wAR,if x.wAq=true then 1 else 0)) ?_ ?_
 ·rintro ⟨a,k,n,q,p,d⟩ ⟨g1,g2,g3,g4,g5,g6⟩;refine⟨?_,g1,g2,g3,g4,g5⟩;obtain⟨d0,d1,d2⟩:=g6;obtain⟨n0,n1,n2⟩:=g3;obtain⟨q0,q1,q2⟩:=g4;have e:(if(d==1)=true then(1:Int)else 0)=d:=by have d2:d<=1:=d2;have d0:0<=d:=d0;rcases(by omega:d=0∨d=1)with rfl|rfl<;>rfl
  show encN a++(dig 8 k++(dig 4 (len4 n)++(dig 4 (len4 q)++(encL p++dig 4 (len4 (if(d==1)=true then 1 else 0))))))=encN a++(dig 8 k++(dig 4 n++(dig 4 q++(encL p++dig 4 d))));rw[e,len4_in (n:=n) ⟨n0,by have:n<4294967296:=n1;omega⟩,len4_in (n:=q) ⟨q0,by have:q<4294967296:=q1;omega⟩,len4_in (n:=d) ⟨d0,by have:d<4294967296:=d1;omega⟩]
 ·rintro ⟨v,o,rh,bl,k,n,q,p,d⟩ ⟨g1,g2,g3,g4,g5⟩;obtain⟨n0,n1,n2⟩:=g3;obtain⟨q0,q1,q2⟩:=g4;refine⟨?_,?_,g1,g2,⟨n0,n1,n2⟩,⟨q0,q1,q2⟩,g5,?_⟩
  ·cases d<;>rfl
  ·show encN ⟨v,o,rh,bl⟩++(dig 8 k++(dig 4 n++(dig 4 q++(encL p++dig 4 (if d=true then 1 else 0)))))=encN ⟨v,o,rh,bl⟩++(dig 8 k++(dig 4 (len4 n)++(dig 4 (len4 q)++(encL p++dig 4 (len4 (if d=true then 1 else 0))))));rw[len4_in (n:=n) (by exact⟨n0,by have:n<4294967296:=n1;omega⟩),len4_in (n:=q) (by exact⟨q0,by have:q<4294967296:=q1;omega⟩),len4_in (n:=if d=true then 1 else 0) (by split<;>omega)]
  ·cases d
   ·exact(⟨by decide,by decide,by decide⟩:Gn 1 0)
   ·exact(⟨by decide,by decide,by decide⟩:Gn 1 1)
structure EW (w:wt) (b:List Int):Prop where
 r:WQ w
 v:rightV w=true
 e:encW w=b
def zeroW:wt:=⟨[],[],0⟩
open Classical in
def decW (b:List Int):wt×Int:=if h:∃w,EW w b then(Classical.choose h,0)else(zeroW,2)
theorem koi {b:List Int} {t:wt} (h:EW t b) (hu:∀u,EW u b->t=u):decW b=(t,0):=by unfold decW;have hex:∃t,EW t b:=⟨t,h⟩;rw[dif_pos hex,<-hu _ (Classical.choose_spec hex)]
theorem decW_no {b:List Int} (h:∀u,¬EW u b):decW b=(zeroW,2):=by unfold decW;rw[dif_neg fun⟨u,hu⟩=>h u hu]
def Gw (L:Lim) (w:wt):Prop:=Gc (GS L) 4 w.Ins/\Gc (GN L) 4 w.wE/\Gu L.p w.wAL
theorem Gw.wq {L:Lim} {w:wt} (h:Gw L w):WQ w:=by obtain⟨⟨i,hi⟩,⟨o,ho⟩,s⟩:=h;have:=i.2.2;have:=o.2.2;exact⟨fun x hx=>(hi x hx).pq,by omega,fun x hx=>(ho x hx).nr,by omega,s.1⟩
theorem encC_in {α:Type} (e:α->List Int) (l:List α) (h:l.length<=4):encC e l=dig 4 (len4 (l.length:Int))++l.flatMap e:=by unfold encC;rw[len4_in qqo]
theorem pz_wit {L:Lim} {b r1 r2 r3:List Int} {f1 f2 f3:Bool} {is:List wv} {os:List wh} {s:Int} (h1:Pz (encC encSp) (Gc (GS L) 4) b false is r1 f1) (h2:Pz (encC encN) (Gc (GN L) 4) r1 f1 os r2 f2) (h3:Pz (dig 8) (Gu L.p) r2 f2 s r3 f3):
  (f3=false->r3=[]->encW ⟨is,os,s⟩=b/\Gw L ⟨is,os,s⟩)/\∀w,EW w b->f3=false/\r3=[]/\(⟨is,os,s⟩:wt)=w:=by
 constructor
 ·rintro rfl rfl;obtain⟨a1,a2,a3⟩:=h3.snd rfl;obtain⟨b1,b2,b3⟩:=h2.snd a1;obtain⟨c1,c2,c3⟩:=h1.snd b1;refine⟨?_,c3,b3,a3⟩;have l1:=c3.1.2.2;have l2:=b3.1.2.2;rw[c2,b2,a2,encC_in _ _ qqo,encC_in _ _ qqo];simp[encW,qx]
 ·rintro ⟨is0,os0,s0⟩ ⟨hr,hv,he⟩;obtain⟨v1,v2,v3,v4,v5⟩:=k83.1 hv;have v1:is0.length<=4:=v1;have v2:os0.length<=4:=v2;have v3:s0<18446744069414584321:=v3;have hp:=L.hp';have e:b=encC encSp is0++(encC encN os0++(dig 8 s0++[])):=by rw[<-he,encC_in _ _ v1,encC_in _ _ v2];simp[encW,qx]
  obtain⟨c1,c2,c3⟩:=h1.cpl is0 _ rfl e ⟨⟨by omega,by omega,by omega⟩,fun x hx=>(hr.i x hx).gs (v4 x hx) L⟩;obtain⟨b1,b2,b3⟩:=h2.cpl os0 _ c1 c3 ⟨⟨by omega,by omega,by omega⟩,fun x hx=>(hr.o x hx).gn (v5 x hx) L⟩;obtain⟨a1,a2,a3⟩:=h3.cpl s0 _ b1 b3 ⟨hr.s,by omega⟩;exact⟨a1,a3,by rw[c2,b2,a2]⟩
structure RNt where
 n:wh
 pos:Int
 f:Bool
def rdNt (b:List Int) (pos:Int) (f:Bool):RNt:=
 let A:=rdU b pos f 4294967295;let B:=rdU b A.pos A.fail 18446744069414584320;let C:=rdU b B.pos B.fail 18446744069414584320;let D:=rdU b C.pos C.fail 18446744069414584320
 ⟨⟨A.n,B.n,C.n,D.n⟩,D.pos,D.fail⟩
theorem rdNt_ok {b:List Int} {pos:Int} {f:Bool} (h:RdOk b pos):RdOk b (rdNt b pos f).pos:=rdU_ok (rdU_ok (rdU_ok (rdU_ok h)))
theorem rdNt_pz {b:List Int} {pos:Int} {f:Bool} (h:RdOk b pos):Pz encN (GN limW) (b.drop pos.toNat) f (rdNt b pos f).n (b.drop (rdNt b pos f).pos.toNat) (rdNt b pos f).f:=pz_note (L:=limW) (rdU_pz h) (rdU_pz (rdU_ok h)) (rdU_pz (rdU_ok (rdU_ok h))) (rdU_pz (rdU_ok (rdU_ok (rdU_ok h))))
theorem k12 {α:Type} (e:α->List Int) (k:Nat):∀(l:List α),(∀x∈l,(e x).length<=k)->(l.flatMap e).length<=k*l.length
 |[],_=>by simp
 |x::r,h=>by have h1:=k12 e k r fun y hy=>h y (qes _ hy);have h2:=h x qqs;rw[qay,qj,qad,Nat.mul_add];omega
theorem km6 (b:List Int):(∃w,EW w b/\decW b=(w,0))∨decW b=(zeroW,2):=by
 unfold decW;by_cases h:∃w,EW w b
 ·rw[dif_pos h];exact .inl ⟨_,Classical.choose_spec h,rfl⟩
 ·rw[dif_neg h];exact .inr rfl
end Go.Proofs.YtcghahkoioeddaaGreatDoor
namespace Go.Md
open Go Go.Bv Go.Cv Go.Md Go.RowKit
abbrev swpL (g:List Int) (i j:Int):List Int:=(g.set i.toNat (ix g j)).set j.toNat (ix g i)
theorem k7a {g:List Int} {i j:Int}:(swpL g i j).length=g.length:=by simp[swpL]
section
variable {g:List Int} {a b i j:Int} {d:Array Int}
theorem arrN {n:Nat} (h:n<g.length):g.toArray[n]! =ix g (n:Int):=by rw[ix_nat g _ qqo qqo,getElem!_pos g.toArray n qqh];simp
theorem arr_ix (h0:0<=i) (h1:i<g.length):g.toArray[i.toNat]! =ix g i:=by rw[arrN qqo,show((i.toNat:Nat):Int)=i by omega]
theorem swpN {i j:Nat} (hi:i<g.length) (hj:j<g.length):Sort.swp g.toArray i j=(swpL g i j).toArray:=by unfold Sort.swp;rw[arrN hi,arrN hj];simp[swpL]
theorem swp_arr (hi0:0<=i) (hi:i<g.length) (hj0:0<=j) (hj:j<g.length):Sort.swp g.toArray i.toNat j.toNat=(swpL g i j).toArray:=by rw[swpN qqo qqo,show((i.toNat:Nat):Int)=i by omega,show((j.toNat:Nat):Int)=j by omega]
theorem ltI_iff {x y:Int}:Sort.ltInt x y=decide (x<y):=rfl
theorem klf (hi:0<=i) (h:i<b):Sort.insOuter Sort.ltInt a.toNat b.toNat i.toNat d=Sort.insOuter Sort.ltInt a.toNat b.toNat (i+1).toNat (Sort.insInner Sort.ltInt a.toNat i.toNat d):=by rw[Sort.insOuter,qh qqo,show(i+1).toNat=i.toNat+1 by omega]
theorem kj5 (hi:0<=i) (h:¬i<b):Sort.insOuter Sort.ltInt a.toNat b.toNat i.toNat d=d:=by rw[Sort.insOuter,qe qqo]
theorem kl6 (ha:0<=a) (hj:a<j) (hl:j<g.length):Sort.insInner Sort.ltInt a.toNat j.toNat g.toArray=if ix g j<ix g (j-1)then Sort.insInner Sort.ltInt a.toNat (j-1).toNat (swpL g j (j-1)).toArray else g.toArray:=by
 have e1:j.toNat=(j-1).toNat+1:=by omega
 have hs:=swp_arr (g:=g) (i:=j) (j:=j-1) qqo hl qqo qqo;have x1:=arr_ix (g:=g) (i:=j) qqo hl;have x2:=arr_ix (g:=g) (i:=j-1) qqo qqo;generalize (j-1).toNat=m at *
 rw[e1]at hs x1 ⊢;rw[Sort.insInner,x1,x2,hs];have:m+1>a.toNat:=by omega
 simp only[this,decide_true,Bool.true_and,ltI_iff,qaf]
theorem kkc (h:¬a<j):Sort.insInner Sort.ltInt a.toNat j.toNat d=d:=by
 have h2:¬j.toNat>a.toNat:=by omega
 generalize j.toNat=n at *
 cases n with
 |zero=>rfl
 |succ n=>rw[Sort.insInner,qe qqm]
def chS (g:List Int) (hi first root:Int):Int:=if 2*root+2<hi/\ix g (first+(2*root+1))<ix g (first+(2*root+1)+1)then 2*root+2 else 2*root+1
theorem chS_rng {hi first root:Int} (hh:2*root+1<hi):2*root+1<=chS g hi first root/\chS g hi first root<=2*root+2/\chS g hi first root<hi:=by
 unfold chS;split
 ·omega
 ·omega
theorem kja {hi first root:Int} (h0:0<=root) (h:hi<=2*root+1):Sort.siftDown Sort.ltInt hi.toNat first.toNat root.toNat d=d:=by rw[Sort.siftDown,dif_pos qqo]
theorem kl2 {hi first root:Int} (h0:0<=root) (h1:0<=first) (hh:2*root+1<hi) (hl:first+hi<=g.length):Sort.siftDown Sort.ltInt hi.toNat first.toNat root.toNat g.toArray=
  if ix g (first+root)<ix g (first+chS g hi first root)then Sort.siftDown Sort.ltInt hi.toNat first.toNat (chS g hi first root).toNat (swpL g (first+root) (first+chS g hi first root)).toArray else g.toArray:=by
 obtain⟨r,rfl⟩:=qn h0;obtain⟨f,rfl⟩:=qn h1;obtain⟨n,rfl⟩:=qn (show 0<=hi by omega);simp only[qr];have x1:g.toArray[f+(2*r+1)]! =ix g ((f:Int)+(2*r+1)):=by rw[arrN qqo];congr 1
 have x0:g.toArray[f+r]! =ix g ((f:Int)+r):=by rw[arrN qqo];congr 1
 by_cases hc:2*(r:Int)+2<n/\ix g ((f:Int)+(2*r+1))<ix g ((f:Int)+(2*r+1)+1)
 ·have x2:g.toArray[f+(2*r+1)+1]! =ix g ((f:Int)+(2*r+1)+1):=by rw[arrN qqo];congr 1
  have x3:g.toArray[f+(2*r+2)]! =ix g ((f:Int)+(2*r+2)):=by rw[arrN qqo];congr 1
  have ec:chS g n f r=2*(r:Int)+2:=by unfold chS;rw[qh hc]
  have hs:Sort.swp g.toArray (f+r) (f+(2*r+2))=(swpL g ((f:Int)+r) ((f:Int)+(2*r+2))).toArray:=by rw[swpN qqo qqo];congr 2
  have et:(2*(r:Int)+2).toNat=2*r+2:=by omega
  rw[Sort.siftDown,dif_neg qqo,qh,ec,x0,x3,hs,dif_pos qqo,et]
  ·simp only[ltI_iff,qbe,decide_eq_false_iff_not];split<;>first|rfl|(rename_i h;first|rw[qe h]|rw[qh (Decidable.not_not.1 h)])
  ·rw[x1,x2,ltI_iff,qbn hc.2,qbn (show 2*r+1+1<n by omega)];rfl
 ·have ec:chS g n f r=2*(r:Int)+1:=by unfold chS;rw[qe hc]
  have hs:Sort.swp g.toArray (f+r) (f+(2*r+1))=(swpL g ((f:Int)+r) ((f:Int)+(2*r+1))).toArray:=by rw[swpN qqo qqo];congr 2
  have et:(2*(r:Int)+1).toNat=2*r+1:=by omega
  rw[Sort.siftDown,dif_neg qqo,qe,ec,x0,x1,hs,et]
  ·simp only[ltI_iff,qbe,decide_eq_false_iff_not];split<;>first|rfl|(rename_i h;first|rw[qe h]|rw[qh (Decidable.not_not.1 h)])
  ·intro h;rw[qg,qaf]at h;have x2:g.toArray[f+(2*r+1)+1]! =ix g ((f:Int)+(2*r+1)+1):=by rw[arrN qqo];congr 1
   rw[x1,x2,ltI_iff,qaf]at h;exact hc ⟨by omega,h.2⟩
theorem khb (hi first:Nat):∀(n root:Nat) (d:Array Int),hi-root<=n->(Sort.siftDown Sort.ltInt hi first root d).size=d.size:=by
 intro n;induction n with
 |zero=>intro root d h;rw[Sort.siftDown,dif_pos qqo]
 |succ n ih=>
  intro root d h;rw[Sort.siftDown];split
  ·rfl
  ·split
   ·split
    ·rfl
    ·split
     ·rw[ih _ _ qqo];exact Sort.size_swp _ _ _
     ·rfl
   ·split
    ·rfl
    ·rw[ih _ _ qqo];exact Sort.size_swp _ _ _
theorem kj9 {hi first:Nat} (h:0<=i):Sort.heapBuild Sort.ltInt hi first (i+1).toNat d=Sort.heapBuild Sort.ltInt hi first i.toNat (Sort.siftDown Sort.ltInt hi first i.toNat d):=by rw[show(i+1).toNat=i.toNat+1 by omega,Sort.heapBuild]
theorem km1 {first:Nat} (h:0<=i):Sort.heapPop Sort.ltInt first (i+1).toNat d=Sort.heapPop Sort.ltInt first i.toNat (Sort.siftDown Sort.ltInt i.toNat first 0 (Sort.swp d first (first+i.toNat))):=by rw[show(i+1).toNat=i.toNat+1 by omega,Sort.heapPop]
theorem k9f {p:Int->Bool} (h0:0<=i) (h:i<=j):Sort.scanUp p d j.toNat i.toNat=if p d[i.toNat]! =true then Sort.scanUp p d j.toNat (i+1).toNat else i.toNat:=by rw[Sort.scanUp,show(i+1).toNat=i.toNat+1 by omega];simp only[qbn (show i.toNat<=j.toNat by omega),Bool.true_and]
theorem k8b {p:Int->Bool} (h0:1<=i) (h:¬i<=j):Sort.scanUp p d j.toNat i.toNat=i.toNat:=by rw[Sort.scanUp];simp only[qbr (show¬i.toNat<=j.toNat by omega),Bool.false_and];rfl
theorem k6b {p:Int->Bool} (h0:1<=i) (h:i<=j):Sort.scanDown p d i.toNat j.toNat=if p d[j.toNat]! =true then Sort.scanDown p d i.toNat (j-1).toNat else j.toNat:=by
 have e1:j.toNat=(j-1).toNat+1:=by omega
 have e2:i.toNat<=j.toNat:=by omega
 generalize (j-1).toNat=m at *
 rw[e1]at e2 ⊢;rw[Sort.scanDown];simp only[qbn e2,Bool.true_and]
theorem k57 {p:Int->Bool} (h0:1<=i) (h:¬i<=j):Sort.scanDown p d i.toNat j.toNat=j.toNat:=by
 have e2:¬i.toNat<=j.toNat:=by omega
 generalize j.toNat=m at *
 cases m with
 |zero=>rfl
 |succ m=>rw[Sort.scanDown];simp only[qbr e2,Bool.false_and];rfl
theorem khg (h0:1<=i) (h:i<b) (hl:b<=g.length):Sort.scanSorted Sort.ltInt g.toArray b.toNat i.toNat=if ix g i<ix g (i-1)then i.toNat else Sort.scanSorted Sort.ltInt g.toArray b.toNat (i+1).toNat:=by have x1:=arr_ix (g:=g) (i:=i) qqo qqo;have x2:=arr_ix (g:=g) (i:=i-1) qqo qqo;rw[Sort.scanSorted,show(i+1).toNat=i.toNat+1 by omega,x1,show i.toNat-1=(i-1).toNat by omega,x2];simp only[qbn (show i.toNat<b.toNat by omega),Bool.true_and,ltI_iff,qbe,decide_eq_false_iff_not];split<;>first|rfl|(rename_i h;first|rw[qe h]|rw[qh (Decidable.not_not.1 h)])
theorem kfz (h0:0<=i) (h:¬i<b):Sort.scanSorted Sort.ltInt d b.toNat i.toNat=i.toNat:=by rw[Sort.scanSorted];simp only[qbr (show¬i.toNat<b.toNat by omega),Bool.false_and];rfl
theorem kjd (h:1<=j) (hl:j<g.length):Sort.shiftDown Sort.ltInt j.toNat g.toArray=if ix g j<ix g (j-1)then Sort.shiftDown Sort.ltInt (j-1).toNat (swpL g j (j-1)).toArray else g.toArray:=by
 have e1:j.toNat=(j-1).toNat+1:=by omega
 have hs:=swp_arr (g:=g) (i:=j) (j:=j-1) qqo hl qqo qqo;have x1:=arr_ix (g:=g) (i:=j) qqo hl;have x2:=arr_ix (g:=g) (i:=j-1) qqo qqo;generalize (j-1).toNat=m at *
 rw[e1]at hs x1 ⊢;rw[Sort.shiftDown,x1,x2,hs];simp only[ltI_iff,qbe,decide_eq_false_iff_not];split<;>first|rfl|(rename_i h;first|rw[qe h]|rw[qh (Decidable.not_not.1 h)])
theorem ki3 (h:¬1<=j):Sort.shiftDown Sort.ltInt j.toNat d=d:=by rw[show j.toNat=0 by omega,Sort.shiftDown]
theorem km5 (h0:1<=j) (h:j<b) (hl:b<=g.length):Sort.shiftUp Sort.ltInt b.toNat j.toNat g.toArray=if ix g j<ix g (j-1)then Sort.shiftUp Sort.ltInt b.toNat (j+1).toNat (swpL g j (j-1)).toArray else g.toArray:=by have hs:=swp_arr (g:=g) (i:=j) (j:=j-1) qqo qqo qqo qqo;have x1:=arr_ix (g:=g) (i:=j) qqo qqo;have x2:=arr_ix (g:=g) (i:=j-1) qqo qqo;rw[Sort.shiftUp,qh qqo,show(j+1).toNat=j.toNat+1 by omega,x1,show j.toNat-1=(j-1).toNat by omega,x2,hs];simp only[ltI_iff,qbe,decide_eq_false_iff_not];split<;>first|rfl|(rename_i h;first|rw[qe h]|rw[qh (Decidable.not_not.1 h)])
theorem kld (h0:0<=j) (h:¬j<b):Sort.shiftUp Sort.ltInt b.toNat j.toNat d=d:=by rw[Sort.shiftUp,qe qqo]
theorem kfp (h0:0<=i) (h:i<j) (hl:j<g.length):Sort.reverseLoop i.toNat j.toNat g.toArray=Sort.reverseLoop (i+1).toNat (j-1).toNat (swpL g i j).toArray:=by rw[Sort.reverseLoop,qh qqo,swp_arr (g:=g) h0 qqo qqo hl,show(i+1).toNat=i.toNat+1 by omega,show(j-1).toNat=j.toNat-1 by omega]
theorem ke9 (h0:0<=i) (h:¬i<j):Sort.reverseLoop i.toNat j.toNat d=d:=by rw[Sort.reverseLoop,qe qqo]
end
def insS (g:List Int) (a b:Int):List Int:=(Sort.insertionSort Sort.ltInt g.toArray a.toNat b.toNat).toList
def sdS (g:List Int) (lo hi first:Int):List Int:=(Sort.siftDown Sort.ltInt hi.toNat first.toNat lo.toNat g.toArray).toList
def heapS (g:List Int) (a b:Int):List Int:=(Sort.heapSort Sort.ltInt g.toArray a.toNat b.toNat).toList
def revS (g:List Int) (a b:Int):List Int:=(Sort.reverseRange g.toArray a.toNat b.toNat).toList
def brkS (g:List Int) (a b:Int):List Int:=(Sort.breakPatterns g.toArray a.toNat b.toNat).toList
def pisS (g:List Int) (a b:Int):Array Int×Bool:=Sort.partialInsertionSort Sort.ltInt g.toArray a.toNat b.toNat
def partS (g:List Int) (a b p:Int):Nat×Bool×Array Int:=Sort.partition Sort.ltInt g.toArray a.toNat b.toNat p.toNat
def peqS (g:List Int) (a b p:Int):Nat×Array Int:=Sort.partitionEqual Sort.ltInt g.toArray a.toNat b.toNat p.toNat
def cpS (g:List Int) (a b:Int):Nat×Sort.Hint:=Sort.choosePivot Sort.ltInt g.toArray a.toNat b.toNat
def hintN:Sort.Hint->Int
 | .unknown=>0
 | .increasing=>1
 | .decreasing=>2
section
variable {g:List Int} {a b p:Int}
theorem kcf (h0:0<=a) (h1:a<=b) (h2:b<=g.length):(insS g a b).length=g.length:=by have:=(Sort.insertionSort_holds (lt:=Sort.ltInt) Sort.swo_ltInt g.toArray a.toNat b.toNat qqo qqm).1.1;simpa[insS]using this
theorem cpS_rng (h0:0<=a) (h1:a<b):a<=(cpS g a b).1/\(cpS g a b).1<b:=by have:=Sort.choosePivot_holds Sort.ltInt g.toArray a.toNat b.toNat qqo;unfold cpS;omega
theorem sdS_len {lo hi first:Int}:(sdS g lo hi first).length=g.length:=by
 have:=khb hi.toNat first.toNat _ lo.toNat g.toArray (qt _)
 simpa[sdS]using this
end
theorem kj8 (a b:Nat) (ha:a<18446744073709551616) (hb:b<18446744073709551616):ixor .u64 a b=((a^^^b:Nat):Int):=by unfold ixor;show IntKind.u64.wrap ((BitVec.ofInt 64 (a:Int)^^^BitVec.ofInt 64 (b:Int)).toNat:Int)=_;rw[BitVec.ofInt_natCast,BitVec.ofInt_natCast,BitVec.toNat_xor,BitVec.toNat_ofNat,BitVec.toNat_ofNat,Nat.mod_eq_of_lt ha,Nat.mod_eq_of_lt hb];have:a^^^b<2^64:=Nat.xor_lt_two_pow ha hb;exact wu _ qqo qqo
theorem xor_shl (r:UInt64) (k:Nat) (hk:k<64):ixor .u64 (r.toNat:Int) (ishl .u64 (r.toNat:Int) (k:Int))=((r^^^(r<<<(UInt64.ofNat k))).toNat:Int):=by
 have hr:=r.toNat_lt
 have e:ishl .u64 (r.toNat:Int) (k:Int)=((r.toNat<<<k%18446744073709551616:Nat):Int):=by
  unfold ishl;rw[IntKind.wrap_u64,Nat.shiftLeft_eq];have:min (k:Int).toNat IntKind.u64.bits=k:=by show min (k:Int).toNat 64=k;omega
  rw[this,Int.natCast_emod,qdi,Int.natCast_pow];rfl
 rw[e,kj8 _ _ qqo qqo,UInt64.toNat_xor,UInt64.toNat_shiftLeft];have:(UInt64.ofNat k).toNat%64=k:=by rw[UInt64.toNat_ofNat'];omega
 rw[this]
theorem xor_shr (r:UInt64) (k:Nat) (hk:k<64):ixor .u64 (r.toNat:Int) (ishr .u64 (r.toNat:Int) (k:Int))=((r^^^(r>>>(UInt64.ofNat k))).toNat:Int):=by
 have hr:=r.toNat_lt
 have e:ishr .u64 (r.toNat:Int) (k:Int)=((r.toNat>>>k:Nat):Int):=by
  unfold ishr;have:min (k:Int).toNat IntKind.u64.bits=k:=by show min (k:Int).toNat 64=k;omega
  rw[this,Nat.shiftRight_eq_div_pow,Int.fdiv_eq_ediv_of_nonneg _ (by exact qdk (Int.pow_pos qqd)),Int.natCast_ediv,Int.natCast_pow];rfl
 have hs:r.toNat>>>k<=r.toNat:=by rw[Nat.shiftRight_eq_div_pow];exact Nat.div_le_self _ _
 rw[e,kj8 _ _ qqo qqo,UInt64.toNat_xor,UInt64.toNat_shiftRight];have:(UInt64.ofNat k).toNat%64=k:=by rw[UInt64.toNat_ofNat'];omega
 rw[this]
def xnI (s:Int):Int:=
 let a:=ixor .u64 s (ishl .u64 s 13);let b:=ixor .u64 a (ishr .u64 a 7)
 ixor .u64 b (ishl .u64 b 17)
theorem xnI_eq (r:UInt64):xnI (r.toNat:Int)=((Sort.xorNext r).toNat:Int):=by unfold xnI Sort.xorNext;dsimp only;have h1:=xor_shl r 13 qqd;rw[show((13:Nat):Int)=13 from rfl]at h1;rw[h1];have h2:=xor_shr (r^^^(r<<<(UInt64.ofNat 13))) 7 qqd;rw[show((7:Nat):Int)=7 from rfl]at h2;rw[h2];exact xor_shl _ 17 qqd
def brkL (a length modulus:Nat):Nat->UInt64×Array Int->Nat->Array Int
 |0,st,_=>st.2
 |k+1,st,idx=>brkL a length modulus k (Sort.breakStep a length modulus st idx) (idx+1)
theorem brkL_go (a len md k:Nat) (u:UInt64) (d:Array Int) (i:Nat):brkL a len md (k+1) (u,d) i=brkL a len md k (Sort.xorNext u,Sort.swp d i (a+(if(Sort.xorNext u).toNat&&&(md-1)≥len then((Sort.xorNext u).toNat&&&(md-1))-len else(Sort.xorNext u).toNat&&&(md-1)))) (i+1):=rfl
theorem brk_eq (d:Array Int) (a b:Nat) (h:8<=b-a):Sort.breakPatterns d a b=brkL a (b-a) (1<<<Sort.bitsLen (b-a)) 3 (UInt64.ofNat (b-a),d) (a+(b-a)/4*2-1):=by unfold Sort.breakPatterns;rw[qh h];rfl
theorem brk_no (d:Array Int) (a b:Nat) (h:¬8<=b-a):Sort.breakPatterns d a b=d:=by unfold Sort.breakPatterns;rw[qe h]
theorem kdv (n:Nat):len64 (n:Int)=((Sort.bitsLen n:Nat):Int):=by
 unfold len64 Sort.bitsLen;by_cases h:n=0
 ·subst h;rfl
 ·rw[qe h,qe qqo];simp
theorem npo (n:Nat) (hn:n<4611686018427387904):ishl .u64 1 (len64 (n:Int))=((1<<<Sort.bitsLen n:Nat):Int):=by
 rw[kdv];have hk:Sort.bitsLen n<=62:=(Sort.bitsLen_le_iff n 62).2 hn;unfold ishl;have:min ((Sort.bitsLen n:Nat):Int).toNat IntKind.u64.bits=Sort.bitsLen n:=by show min ((Sort.bitsLen n:Nat):Int).toNat 64=_;omega
 rw[this,Nat.shiftLeft_eq,qcs,Int.one_mul];have hp:2^Sort.bitsLen n<=2^62:=qcp qqd hk;rw[wu]
 ·rw[Int.natCast_pow];rfl
 ·exact qdk (Int.pow_pos qqd)
 ·have h1:((2^Sort.bitsLen n:Nat):Int)<=((2^62:Nat):Int):=Int.ofNat_le.2 hp;rw[Int.natCast_pow]at h1;have h2:((2^62:Nat):Int)=4611686018427387904:=by decide
  have h3:(((2:Nat):Int)^Sort.bitsLen n)=(2:Int)^Sort.bitsLen n:=rfl;omega
theorem npo_le (n:Nat) (h:0<n):1<<<Sort.bitsLen n<=2*n/\n<1<<<Sort.bitsLen n:=by rw[Nat.shiftLeft_eq,qcs];exact⟨Sort.two_pow_bitsLen_le h,Sort.lt_two_pow_bitsLen n⟩
theorem k25 {d:Array Int} {a b c n:Nat} (ha:a<n) (hb:b<n):(Sort.order2 Sort.ltInt d a b c).1<n/\(Sort.order2 Sort.ltInt d a b c).2.1<n/\(Sort.order2 Sort.ltInt d a b c).2.2<=c+1:=by
 unfold Sort.order2;split
 ·exact⟨hb,ha,qt _⟩
 ·exact⟨ha,hb,qdg _⟩
theorem k7q {d:Array Int} {a b c s n:Nat} (ha:a<n) (hb:b<n) (hc:c<n):(Sort.median Sort.ltInt d a b c s).1<n/\(Sort.median Sort.ltInt d a b c s).2<=s+3:=by
 unfold Sort.median;dsimp only;have h1:=k25 (d:=d) (c:=s) ha hb;generalize Sort.order2 Sort.ltInt d a b s=r1 at *
 have h2:=k25 (d:=d) (c:=r1.2.2) h1.2.1 hc;generalize Sort.order2 Sort.ltInt d r1.2.1 c r1.2.2=r2 at *
 have h3:=k25 (d:=d) (c:=r2.2.2) h1.1 h2.1;exact⟨h3.2.1,by omega⟩
end Go.Md
end
