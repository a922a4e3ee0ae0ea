/-
  Parts of the proofs that the laws of this seat hold of every input, merged by a program: a machine over pure data that is sound for the model, what each function of the translation does in it, and plain lemmas. No conditions but those in each theorem.
-/
import Derived.Test.YtchoejpclejjhaaA3
set_option maxRecDepth 100000
noncomputable section
namespace Go.Bv
open Go.RowKit
def Lk (T:Tk) (s s' :St):Prop:=∀(G0:Gh) (w0:World) (N:Nat) (a:Act) (G:Gh) (w:World),R T G0 w0 N s a G w->∃G',R T G0 w0 N s' a G' w
theorem Wk.lk {T:Tk} {s s' :St} (h:Wk s s'):Lk T s s' :=fun G0 w0 N a G w hR=>⟨G,h T G0 w0 N a G w hR⟩
theorem St.le.lk {T:Tk} {s s' :St} (h:St.le T.nx s s'):Lk T s s' :=fun _ _ _ _ G _ hR=>⟨G,hR.le h⟩
theorem Lk.trans {T:Tk} {a b c:St} (h:Lk T a b) (h' :Lk T b c):Lk T a c:=fun G0 w0 N x G w hR=>let⟨G1,h1⟩:=h G0 w0 N x G w hR;h' G0 w0 N x G1 w h1
section
variable {P:Program} {T:Tk} {G0:Gh} {w0:World} {N:Nat} {s:St} {Q:Exit->St->Prop}
theorem sat_lk {c:Code} {s' :St} (hl:Lk T s s') (h:Sat P T G0 w0 N c s' Q):Sat P T G0 w0 N c s Q:=fun G a w hR=>let⟨G1,h1⟩:=hl _ _ _ _ _ _ hR;h G1 a w h1
theorem kc3 {c:Code} {Q' :Exit->St->Prop} (h:Sat P T G0 w0 N c s Q) (hq:∀e s,Q e s->∃s',Q' e s'/\Lk T s s'):Sat P T G0 w0 N c s Q' :=
 fun G a w hR=>wp_mono (h G a w hR) fun _ _ _ ⟨s',G',h1,h2⟩=>let⟨s2,k1,k2⟩:=hq _ s' h1;let⟨G2,h3⟩:=k2 _ _ _ _ _ _ h2;⟨s2,G2,k1,h3⟩
theorem ka0 {ι:Type} (st:ι->St) (p:ι->Prop) (μ:ι->Nat) {c:Code} (i0:ι) (h0:p i0) (hl:Lk T s (st i0))
  (round:∀i,p i->Sat P T G0 w0 N c (st i) (thenA (fun s' =>∃i',p i'/\μ i' <μ i/\Lk T s' (st i')) Q)):Sat P T G0 w0 N (.loop c) s Q:=by
 intro G a w hR
 have key:∀n i,μ i=n->p i->∀G a w,R T G0 w0 N (st i) a G w->∀(b:Frame) (k:List Item) (cs:List Frame),∃e a' w',(∃s' G',Q e s'/\R T G0 w0 N s' a' G' w')/\Arrives P (lone (b.at a (.code c:: .inLoop c::k)) cs w) b k cs e a' w' :=by
  intro n
  induction n using Nat.strongRecOn with
  |_ n ih=>
   intro i hn hp G a w hR b k cs
   obtain⟨e,a1,w1,⟨s1,G1,hq,hR1⟩,harr⟩:=round i hp G a w hR b (.inLoop c::k) cs
   cases e with
   |normal=>
    obtain⟨i',h1,h2,h3⟩:=hq
    obtain⟨G2,hR2⟩:=h3 _ _ _ _ _ _ hR1
    obtain⟨e2,a2,w2,hq2,harr2⟩:=ih (μ i') (hn▸h2) i' rfl h1 G2 a1 w1 hR2 b k cs
    exact⟨e2,a2,w2,hq2,.of_steps (Steps.trans harr (.one step_inLoop)) harr2⟩
   |exit id=>exact⟨_,a1,w1,⟨s1,G1,hq,hR1⟩,.pass (x:= .inLoop c) rfl (fun _ _=> .inl (by simp)) harr⟩
   |goto l=>exact⟨_,a1,w1,⟨s1,G1,hq,hR1⟩,.pass (x:= .inLoop c) rfl (fun _ _=> .inl (by simp)) harr⟩
   |ret=>exact⟨_,a1,w1,⟨s1,G1,hq,hR1⟩,.pass (x:= .inLoop c) rfl (fun _ _=> .inl (by simp)) harr⟩
   |panic ch=>exact⟨_,a1,w1,⟨s1,G1,hq,hR1⟩,.pass (x:= .inLoop c) rfl (fun _ _=> .inl (by simp)) harr⟩
   |outgrown=>exact⟨_,a1,w1,⟨s1,G1,hq,hR1⟩,.pass (x:= .inLoop c) rfl (fun _ _=> .inl (by simp)) harr⟩
 intro b k cs
 obtain⟨G1,hR1⟩:=hl _ _ _ _ _ _ hR
 obtain⟨e,a',w',hq,harr⟩:=key _ i0 rfl h0 G1 a w hR1 b k cs
 exact⟨e,a',w',hq,.of_steps (.one step_loop) harr⟩
end
end Go.Bv
namespace Go.Cv
open Go Go.Bv Go.RowKit Go.Md
section
variable {T:Tab} {P:Program} {C:Cx T} {N:Nat}
theorem args_ok {σ:Nat->Nat} {f:List (Option (TOb T.den))} {m nx:Nat} (hσ:∀j,j<m->σ j<nx) (l:List Sh0) (r:List Ty) (x:HL T.den (hsT l r)) (h:okTB m l=true):∀z∈(tkT σ f l r x).1.map (er T),ok nx z:=by
 intro z hz
 rw[tkT_er]at hz
 obtain⟨u,_,rfl⟩:=List.mem_map.1 hz
 exact ok_of0 (okT_mem (tkT_ok hσ l r x h) _ hz) k1b
theorem sgs_lt {ids:List Nat} {n nx:Nat} (h:allLt nx ids=true) (hl:ids.length=n):∀j,j<n->sgs ids j<nx:=by
 intro j hj
 have hj:j<ids.length:=by omega
 have e:sgs ids j=ids[j]:=by simp[sgs,hj]
 rw[e]
 exact k18 h _ (List.getElem_mem hj)
def rho:List Nat->List Nat->Nat->Nat
 |x::a,y::b,i=>if i=x then y else rho a b i
 |_,_,i=>i
theorem k7s {x:Nat}:∀{l:List Nat} {p q:Nat},l.Nodup->l[p]? =some x->l[q]? =some x->p=q
 |[],p,q,_,h,_=>by simp at h
 |y::l,0,0,_,_,_=>rfl
 |y::l,0,q+1,hn,h1,h2=>by
  simp at h1 h2
  exact absurd (List.mem_of_getElem? h2) (by rw[<-h1];exact(List.nodup_cons.1 hn).1)
 |y::l,p+1,0,hn,h1,h2=>by
  simp at h1 h2
  exact absurd (List.mem_of_getElem? h1) (by rw[<-h2];exact(List.nodup_cons.1 hn).1)
 |y::l,p+1,q+1,hn,h1,h2=>by
  simp at h1 h2
  rw[k7s (List.nodup_cons.1 hn).2 h1 h2]
theorem rho_at:∀{a b:List Nat} {j:Nat},a.Nodup->j<a.length->j<b.length->rho a b (sgs a j)=sgs b j
 |[],_,j,_,h,_=>by simp at h
 |_::_,[],j,_,_,h=>by simp at h
 |x::a,y::b,0,_,_,_=>by simp[rho,sgs]
 |x::a,y::b,j+1,hn,h1,h2=>by
  have h1:j<a.length:=by simpa using h1
  have h2:j<b.length:=by simpa using h2
  have e1:sgs (x::a) (j+1)=sgs a j:=by simp[sgs]
  have e2:sgs (y::b) (j+1)=sgs b j:=by simp[sgs]
  have hne:sgs a j≠x:=by
   intro e
   rw[List.nodup_cons]at hn
   apply hn.1
   have:sgs a j=a[j]:=by simp[sgs,h1]
   rw[<-e,this]
   exact List.getElem_mem h1
  rw[e1,e2]
  simp only[rho]
  rw[if_neg hne]
  exact rho_at (List.nodup_cons.1 hn).2 h1 h2
theorem rho_fix {n0:Nat}:∀{a b:List Nat},fixB n0 a b=true->a.length=b.length/\∀i,i<n0->rho a b i=i
 |[],[],_=>⟨rfl,fun _ _=>rfl⟩
 |[],_::_,h=>by cases h
 |_::_,[],h=>by cases h
 |x::a,y::b,h=>by
  simp only[fixB,Bool.and_eq_true,Bool.or_eq_true,Bool.not_eq_true']at h
  obtain⟨g1,g2⟩:=rho_fix h.2
  refine⟨by simp[g1],fun i hi=> ?_⟩
  simp only[rho]
  split
  ·rename_i e
   subst e
   rcases h.1 with h1|h1
   ·have:Nat.blt i n0=true:=by simp[Nat.blt_eq,hi]
    rw[this]at h1;cases h1
   ·exact(nb_eq h1).symm
  ·exact g2 i hi
theorem rho_lt {n:Nat}:∀{a b:List Nat} {i:Nat},(∀x∈b,x<n)->i<n->rho a b i<n
 |[],[],_,_,h=>h
 |[],_::_,_,_,h=>h
 |_::_,[],_,_,h=>h
 |x::a,y::b,i,hb,h=>by
  simp only[rho]
  split
  ·exact hb y (by simp)
  ·exact rho_lt (fun z hz=>hb z (by simp[hz])) h
theorem k2f {ρ σ τ:Nat->Nat} {m:Nat} (h:∀j,j<m->ρ (σ j)=τ j):∀{l:List (Option (Nat×Nat))},okP m l->renP ρ (renP σ l)=renP τ l
 |[],_=>rfl
 |none::_,hl=>congrArg (List.cons none) (k2f h (l:=_) hl)
 |some (i,_)::_,hl=>by
  simp only[renP]
  rw[h i hl.1,k2f h hl.2]
theorem kh3 {ρ σ τ:Nat->Nat} {m:Nat} (h:∀j,j<m->ρ (σ j)=τ j) {x:V} (hx:ok1 m x):ren1 ρ (ren1 σ x)=ren1 τ x:=by
 cases x<;>first|rfl|(simp only[ren1];rw[h _ hx])|(simp only[ren1];rw[k2f h hx.1,k2f h hx.2])|exact False.elim hx
theorem k7j {ρ σ τ:Nat->Nat} {m:Nat} (h:∀j,j<m->ρ (σ j)=τ j):∀{l:List V},okL m l->(l.map (ren1 σ)).map (ren1 ρ)=l.map (ren1 τ)
 |[],_=>rfl
 |x::l,hl=>by
  simp only[List.map_cons]
  rw[kh3 h hl.1,k7j h hl.2]
theorem k7x {ρ σ τ:Nat->Nat} {m:Nat} (h:∀j,j<m->ρ (σ j)=τ j) {x:V} (hx:ok0 m x):ren0 ρ (ren0 σ x)=ren0 τ x:=by
 cases x with
 |agg l=>exact congrArg V.agg (k7j h hx)
 |_=>first|rfl|exact False.elim hx|(simp only[ren0,ren1];rw[h _ hx])|(simp only[ren0,ren1];rw[k2f h hx.1,k2f h hx.2])
theorem k7a {ρ σ τ:Nat->Nat} {m:Nat} (h:∀j,j<m->ρ (σ j)=τ j):∀{l:List V},okT m l->(l.map (ren0 σ)).map (ren0 ρ)=l.map (ren0 τ)
 |[],_=>rfl
 |x::l,hl=>by
  simp only[List.map_cons]
  rw[k7x h hl.1,k7a h hl.2]
theorem k7v {ρ σ τ:Nat->Nat} {m:Nat} (h:∀j,j<m->ρ (σ j)=τ j):∀{l:List (D×V)},okM m l->(l.map fun e=>(e.1,ren0 σ e.2)).map (fun e=>(e.1,ren0 ρ e.2))=l.map fun e=>(e.1,ren0 τ e.2)
 |[],_=>rfl
 |x::l,hl=>by
  simp only[List.map_cons]
  rw[k7x h hl.1,k7v h hl.2]
theorem kbn {ρ σ τ:Nat->Nat} {m:Nat} (h:∀j,j<m->ρ (σ j)=τ j) {o:Ob} (ho:okO m o):renO ρ (renO σ o)=renO τ o:=by
 cases o with
 |cells l=>exact congrArg Ob.cells (k7j h ho)
 |map x=>cases x with
  |m l=>exact congrArg (fun z=>Ob.map (.m z)) (k7v h ho)
  |it mid l last=>
   show Ob.map (.it (ρ (σ mid)) _ _)=Ob.map (.it (τ mid) _ _)
   rw[h mid ho.1,k7v h ho.2.1]
   cases last with
   |none=>rfl
   |some e=>
    show Ob.map (.it _ _ (some (e.1,ren0 ρ (ren0 σ e.2))))=Ob.map (.it _ _ (some (e.1,ren0 τ e.2)))
    rw[k7x h (ho.2.2 e rfl)]
 |_=>rfl
theorem hpN_get {σ:Nat->Nat}:∀(os:List (TOb T.den)) (k i:Nat) (ob:Ob),Hp.get (erH T (hpN σ k os)) i=some ob->∃p o,os[p]? =some o/\i=σ (k+p)/\ob=erO T o
 |[],k,i,ob,h=>by cases h
 |o::os,k,i,ob,h=>by
  have h:Hp.get ((σ k,erO T o)::erH T (hpN σ (k+1) os)) i=some ob:=h
  simp only[Hp.get]at h
  split at h
  ·rename_i e
   injection h with h
   exact⟨0,o,rfl,e,h.symm⟩
  ·obtain⟨p,o',h1,h2,h3⟩:=hpN_get os (k+1) i ob h
   exact⟨p+1,o',by simpa using h1,by rw[h2];congr 1;omega,h3⟩
theorem slotsR {sl:List (Nat×TV T.den)} {nx:Nat} {ρ:Nat->Nat}:∀(ts:List Nat) (vs:List (TV T.den)),leAll ((ts.map (getT sl)).map (er T)) ((vs.map (er T)).map (ren ρ))->(∀z∈vs.map (er T),ok nx z)->∀t,
  getS ((zipS T ts vs).map fun p=>(p.1,er T p.2)) t= .any∨(le (getS (sl.map fun p=>(p.1,er T p.2)) t) (ren ρ (getS ((zipS T ts vs).map fun p=>(p.1,er T p.2)) t))/\ok nx (getS ((zipS T ts vs).map fun p=>(p.1,er T p.2)) t))
 |[],[],_,_,_=> .inl rfl
 |[],_::_,h,_,_=>h.elim
 |_::_,[],h,_,_=>h.elim
 |u::ts,v::vs,h,ho,t=>by
  simp only[zipS,List.map_cons,getS]
  split
  ·rename_i e
   subst e
   refine .inr ⟨?_,ho _ (by simp)⟩
   rw[getS_er]
   exact h.1
  ·exact slotsR ts vs h.2 (fun z hz=>ho z (by simp only[List.map_cons,List.mem_cons];exact .inr hz)) t
theorem fcL_eq:∀{l:List Nat} {K:List Nat->Prop},fcL l K->K l
 |[],_,h=>h
 |x::r,K,h=>fcL_eq (l:=r) (K:=fun r=>K (x::r)) h
theorem mat_snd (hT:T.Ok) {Tk:Tk} {m:Tm} {s:TSt T.den} {J:HL T.den m.hs->Prop} (h:m.mat T Tk.nx s J):∃i,J i/\Lk Tk (erS T s) (erS T (m.fill T i)):=by
 unfold Tm.mat at h
 obtain⟨h1,h2⟩:=cnd h
 simp only[Bool.and_eq_true,Tm.okB]at h1
 obtain⟨⟨a1,a2⟩,⟨⟨⟨⟨⟨⟨b1,b2⟩,b3⟩,b4⟩,b5⟩,b6⟩,b7⟩⟩:=h1
 replace h2:=fcL_eq h2
 generalize m.at T Tk.nx s=ids at h2
 obtain⟨h3,h4⟩:=cnd h2
 simp only[Bool.and_eq_true]at h3
 obtain⟨⟨⟨c1,c2⟩,c3⟩,c4⟩:=h3
 have c1:=k19 c1
 have c2:=k19 c2
 obtain⟨c5,c6⟩:=rho_fix c4
 split at h4
 ·rename_i b hb
  obtain⟨y,g1,g2,g3⟩:=k5a hT b7 hb h4
  obtain⟨x,k1,k2,_,k4⟩:=mtT_snd m.ss _ _ y _ b6 g1
  have hf:m.f T x=tkB m.os b:=by unfold Tm.f;rw[k2,g2]
  have hlt:=sgs_lt b3 (nb_eq b4)
  have hlen:m.os.length=m.ids.length:=(nb_eq b4).symm
  have hrho:∀j,j<m.os.length->rho m.ids ids (sgs m.ids j)=sgs ids j:=fun j hj=>rho_at c1 (by omega) (by omega)
  have hid1:∀j,j<m.os.length->idf j<m.os.length:=fun j h=>h
  refine⟨x,k1,fun G0 w0 N a G w hR=> ?_⟩
  have hget:∀id ob,(erS T (m.fill T x)).h.get id=some ob->∃p o,(tkC (sgs m.ids) (tkB m.os b) 0 m.os (hsB m.os) y).1[p]? =some o/\p<m.os.length/\id=sgs m.ids p/\ob=erO T o:=by
   intro id ob hg
   have hg:Hp.get (erH T (hpN (sgs m.ids) 0 (tkC (sgs m.ids) (m.f T x) 0 m.os _ (drT m.ss _ x)).1)) id=some ob:=hg
   rw[hf,k2]at hg
   obtain⟨p,o,q1,q2,q3⟩:=hpN_get _ _ _ _ hg
   rw[Nat.zero_add]at q2
   exact⟨p,o,q1,by have:=(List.getElem?_eq_some_iff.1 q1).1;rw[tkC_len]at this;exact this,q2,q3⟩
  refine hR.leRen (σ:=rho m.ids ids) (ble_le a1) c6 (fun i hi=>rho_lt (k18 c3) (Nat.lt_of_lt_of_le hi (ble_le a2))) (fun i j li lj hij=> ?_) (fun id ob hg=> ?_) ?_
  ·obtain⟨oi,hoi,_⟩:=live_of li
   obtain⟨oj,hoj,_⟩:=live_of lj
   obtain⟨p,_,_,q1,q2,_⟩:=hget i oi hoi
   obtain⟨q,_,_,r1,r2,_⟩:=hget j oj hoj
   rw[q2,r2,hrho p q1,hrho q r1]at hij
   have e1:sgs ids p=ids[p]'(by omega):=by simp[sgs,show p<ids.length by omega]
   have e2:sgs ids q=ids[q]'(by omega):=by simp[sgs,show q<ids.length by omega]
   rw[e1,e2]at hij
   have:=k7s c2 (List.getElem?_eq_getElem (show p<ids.length by omega)) (by rw[hij];exact List.getElem?_eq_getElem (show q<ids.length by omega))
   rw[q2,r2,this]
  ·obtain⟨p,o,q1,q2,rfl,rfl⟩:=hget id ob hg
   refine⟨hlt p q2,?_,tkC_ok (kx _ _) hlt 0 m.os _ y b2 p o q1⟩
   
   have hl1:p<(tkC (sgs ids) (tkB m.os b) 0 m.os (hsB m.os) y).1.length:=by rw[tkC_len];exact q2
   have hl0:p<(tkC idf (tkB m.os b) 0 m.os (hsB m.os) y).1.length:=by rw[tkC_len];exact q2
   have w1:=congrArg (fun l=>l[p]?) (tkC_ren (sgs m.ids) (tkB m.os b) (kx m.os b) 0 m.os (hsB m.os) y)
   have w2:=congrArg (fun l=>l[p]?) (tkC_ren (sgs ids) (tkB m.os b) (kx m.os b) 0 m.os (hsB m.os) y)
   simp only[List.getElem?_map,q1,Option.map_some,List.getElem?_eq_getElem hl0,List.getElem?_eq_getElem hl1,Option.some.injEq]at w1 w2
   have w3:=tkC_ok (kx m.os b) hid1 0 m.os (hsB m.os) y b2 p _ (List.getElem?_eq_getElem hl0)
   rw[hrho p q2,w1,kbn hrho w3,<-w2]
   exact g3 p _ (List.getElem?_eq_getElem hl1)
  ·intro t
   have key:leAll ((m.ts.map (getT s.sl)).map (er T)) (((tkT (sgs m.ids) (m.f T x) m.ss (hsOs m.os) x).1.map (er T)).map (ren (rho m.ids ids))):=by
    have e1:((tkT (sgs m.ids) (m.f T x) m.ss (hsOs m.os) x).1.map (er T)).map (ren (rho m.ids ids))=(tkT (sgs ids) (tkB m.os b) m.ss (hsOs m.os) x).1.map (er T):=by
     rw[hf,tkT_er,tkT_er]
     have:((tkT (sgs m.ids) (tkB m.os b) m.ss (hsOs m.os) x).1.map (er0 T)).map (ren (rho m.ids ids))=((tkT (sgs m.ids) (tkB m.os b) m.ss (hsOs m.os) x).1.map (er0 T)).map (ren0 (rho m.ids ids)):=by
      rw[List.map_map,List.map_map]
      exact List.map_congr_left fun v _=>ren_0 _ k1b
     rw[this,k20 (sgs m.ids),k20 (sgs ids)]
     exact k7a hrho (tkT_ok hid1 m.ss _ x b1)
    rw[e1];exact k4
   exact slotsR m.ts _ key (args_ok hlt m.ss _ x b1) t
 ·exact h4.elim
section
variable {Tk:Tk} {G0:Gh} {w0:World} {a:Act} {G:Gh} {w:World}
theorem k8i {id n z:Nat} {v:TV T.den} {h:THp T.den} {nx:Nat} (hv:∀u,RepV G w (erH T h) nx u (.row id 0 n z)->RepV G w (erH T h) nx u (er T v)):∀(ts:List Nat) (sl:List (Nat×TV T.den)) (K:List (Nat×TV T.den)->Prop),rowsTo T id v n z ts sl K->R Tk G0 w0 N (erS T ⟨sl,h,nx⟩) a G w->∃sl',K sl'/\R Tk G0 w0 N (erS T ⟨sl',h,nx⟩) a G w
 |[],sl,K,hk,hR=>⟨sl,hk,hR⟩
 |t::ts,sl,K,hk,hR=>by
  simp only[rowsTo]at hk
  split at hk
  ·rename_i i e' m hg
   obtain⟨h1,h2,h3⟩:=cnd hk
   simp only[Bool.and_eq_true]at h1
   refine k8i hv ts _ K h3 ?_
   have hs:=hR.sl t
   rw[show getS (erS T ⟨sl,h,nx⟩).sl t=er T (getT sl t)from getS_er sl t,hg]at hs
   have hs:RepV G w (erH T h) nx (a.tmps.getD t undef) (.row i 0 m (T.sz e')):=hs
   rw[nb_eq h1.1,h2,nb_eq h1.2]at hs
   exact hR.reslot t (hv _ hs)
  ·exact hk.elim
theorem kaa {e:Ty} {v:TV T.den} {l:List (e.den T.den)} (h:growE T e v=some l):growsFrom (T.sz e) (l.map (T.e e)) (er1 T v)/\v.sim=true:=by
 unfold growE at h
 split at h
 ·obtain⟨c1,c2,_⟩:=ki h
  exact⟨⟨c1,c2⟩,rfl⟩
 ·rename_i u
  cases hn:isNilK u with
  |false=>rw[hn]at h;cases h
  |true=>
   rw[hn]at h
   injection h with h
   subst h
   rw[k1g hn]
   exact⟨rfl,rfl⟩
 ·cases h
theorem ka5 {h:THp T.den} {v:TV T.den} {K:Nat->(e:Ty)->List (e.den T.den)->Prop} (hh:trimV T h v K):
  ∃id e l l0,K id e l/\getH h id=some (.vec e l0)/\l=l0.take l.length/\l.length<=l0.length/\er1 T v= .row id 0 l.length (T.sz e)/\v.sim=true:=by
 unfold trimV at hh
 split at hh
 ·rename_i id e n
  split at hh
  ·rename_i e' l hg
   obtain⟨h1,h2,h3⟩:=cnd hh
   obtain rfl:=Ty.eq_of_beq h1
   exact⟨id,e,l,l,h3,hg,by simp,Nat.le_refl _,by rw[h2];rfl,rfl⟩
  ·exact hh.elim
 ·rename_i id e off n
  split at hh
  ·rename_i e' l hg
   obtain⟨h1,h2,h3,h4⟩:=cnd hh
   obtain rfl:=Ty.eq_of_beq h1
   have e1:(l.take n).length=n:=by rw[List.length_take];omega
   exact⟨id,e,l.take n,l,h4,hg,by rw[e1],by rw[e1];exact h3,by rw[e1,h2];simp[er1],rfl⟩
  ·exact hh.elim
 ·exact hh.elim
theorem trim_ob (hT:T.Ok) {e:Ty} {l l0:List (e.den T.den)} (h1:l=l0.take l.length) (h2:l.length<=l0.length):(((l0.map (T.e e)).flatMap D.cells).map V.d).take (l.length*T.sz e)=((l.map (T.e e)).flatMap D.cells).map V.d:=by
 rw[<-List.map_take,k65 hT l0 _ h2,<-h1]
theorem vec_set {e:Ty} (l:List (e.den T.den)) (i:Nat) (y:e.den T.den) (hi:i<l.length):erO T (.vec e (l.set i y))= .cells ((((l.take i).map (T.e e)).flatMap D.cells).map V.d++(T.e e y).cells.map V.d++(((l.drop (i+1)).map (T.e e)).flatMap D.cells).map V.d):=by
 show Ob.cells ((((l.set i y).map (T.e e)).flatMap D.cells).map V.d)=_
 rw[List.set_eq_take_append_cons_drop,if_pos hi]
 simp only[List.map_append,List.map_cons,List.flatMap_append,List.flatMap_cons,List.append_assoc]
theorem gh1_snd (hT:T.Ok) {s:TSt T.den} {K:TSt T.den->Prop}:∀(g:Gs),gh1 T s K g->R Tk G0 w0 N (erS T s) a G w->∃s' G',K s'/\R Tk G0 w0 N (erS T s') a G' w
 | .frz id ts,h,hR=>by
  simp only[gh1]at h
  split at h
  ·rename_i e l hg
   have hgl:(erS T s).h.get id=some (.cells (((l.map (T.e e)).flatMap D.cells).map V.d)):=by show(erH T s.h).get id=_;rw[getH_er,hg];rfl
   obtain⟨G',h1,_,h2⟩:=hR.freeze hgl (map_sz hT l) (by rw[List.length_map]:(l.map (T.e e)).length=l.length)
   obtain⟨sl',k1,k2⟩:=k8i (T:=T) (h:=(s.nx,.tip e l)::(id,.dead)::s.h) (nx:=s.nx+1) (v:= .own s.nx e l) (z:=T.sz e) (n:=l.length) (id:=id) (G:=G') (w:=w) (fun u hu=>h2 u hu) ts s.sl _ h h1
   exact⟨_,G',k1,k2⟩
  ·exact h.elim
 | .frzc id i j,h,hR=>by
  simp only[gh1]at h
  split at h
  ·rename_i e l cs hg hi
   split at h
   ·rename_i id' e' m hj
    obtain⟨h1,h2,h3⟩:=cnd h
    simp only[Bool.and_eq_true,Bool.not_eq_true']at h1
    have q1:=nb_eq h1.1.1
    have q2:=Ty.eq_of_beq h1.1.2
    have q3:i≠id:=fun e=>by rw[e,nb_self]at h1;cases h1.2
    subst q1
    subst q2
    subst h2
    have hgl:(erS T s).h.get id' =some (.cells (((l.map (T.e e')).flatMap D.cells).map V.d)):=by show(erH T s.h).get id' =_;rw[getH_er,hg];rfl
    have hil:(erS T s).h.get i=some (.cells (cs.map (er1 T))):=by show(erH T s.h).get i=_;rw[getH_er,hi];rfl
    obtain⟨G',f1,_,f2⟩:=hR.freeze hgl (map_sz hT l) (by rw[List.length_map]:(l.map (T.e e')).length=l.length)
    have hin:i<s.nx:=hR.wr.hid _ _ hil
    have hg' :Hp.get ((s.nx,Ob.tip l.length)::(id',.dead)::erH T s.h) i=some (.cells (cs.map (er1 T))):=by simp only[Hp.get];rw[if_neg (by omega),if_neg q3];exact hil
    have hx:(cs.map (er1 T))[j]? =some (.row id' 0 l.length (T.sz e')):=by rw[List.getElem?_map,hj];rfl
    have:=f1.recell (s:=⟨(erS T s).sl,(s.nx,.tip l.length)::(id',.dead)::erH T s.h,s.nx+1⟩) (y:= .own s.nx (T.sz e') (l.map (T.e e'))) hg' hx rfl (fun v=>f2 v)
    refine⟨_,G',h3,?_⟩
    have e:erS T ⟨s.sl,(i,.cells (cs.set j (.own s.nx e' l)))::(s.nx,.tip e' l)::(id',.dead)::s.h,s.nx+1⟩=⟨(erS T s).sl,(i,.cells ((cs.map (er1 T)).set j (.own s.nx (T.sz e') (l.map (T.e e')))))::(s.nx,.tip l.length)::(id',.dead)::erH T s.h,s.nx+1⟩:=by
     show St.mk _ ((i,Ob.cells ((cs.set j (.own s.nx e' l)).map (er1 T)))::_) _=_
     rw[List.map_set];rfl
    rw[e];exact this
   ·exact h.elim
  ·exact h.elim
 | .tok t e,h,hR=>by
  simp only[gh1]at h
  split at h
  ·rename_i l hl
   obtain⟨g1,g2⟩:=kaa hl
   obtain⟨G',h1,h2⟩:=hR.tok (T.sz e) (l.map (T.e e))
   rw[List.length_map]at h1 h2
   have hs:=h1.sl t
   have hs:RepV G' w ((s.nx,.tip l.length)::erH T s.h) (s.nx+1) (a.tmps.getD t undef) (getS (erS T s).sl t):=hs
   rw[show getS (erS T s).sl t=er T (getT s.sl t)from getS_er s.sl t,er_sim g2]at hs
   exact⟨_,G',h,h1.reslot t (h2 _ _ g1 hs)⟩
  ·exact h.elim
 | .tokc id j e,h,hR=>by
  simp only[gh1]at h
  split at h
  ·rename_i cs hi
   split at h
   ·rename_i v hj
    split at h
    ·rename_i l hl
     obtain⟨g1,g2⟩:=kaa hl
     have hil:(erS T s).h.get id=some (.cells (cs.map (er1 T))):=by show(erH T s.h).get id=_;rw[getH_er,hi];rfl
     obtain⟨G',h1,h2⟩:=hR.tok (T.sz e) (l.map (T.e e))
     rw[List.length_map]at h1 h2
     have hin:id<s.nx:=hR.wr.hid _ _ hil
     have hg' :Hp.get ((s.nx,Ob.tip l.length)::erH T s.h) id=some (.cells (cs.map (er1 T))):=by simp only[Hp.get];rw[if_neg (by omega)];exact hil
     have hx:(cs.map (er1 T))[j]? =some (er1 T v):=by rw[List.getElem?_map,hj];rfl
     have:=h1.recell (s:=⟨(erS T s).sl,(s.nx,.tip l.length)::erH T s.h,s.nx+1⟩) (y:= .own s.nx (T.sz e) (l.map (T.e e))) hg' hx rfl (fun u=>h2 _ u g1)
     refine⟨_,G',h,?_⟩
     have e:erS T ⟨s.sl,(id,.cells (cs.set j (.own s.nx e l)))::(s.nx,.tip e l)::s.h,s.nx+1⟩=⟨(erS T s).sl,(id,.cells ((cs.map (er1 T)).set j (.own s.nx (T.sz e) (l.map (T.e e)))))::(s.nx,.tip l.length)::erH T s.h,s.nx+1⟩:=by
      show St.mk _ ((id,Ob.cells ((cs.set j (.own s.nx e l)).map (er1 T)))::_) _=_
      rw[List.map_set];rfl
     rw[e];exact this
    ·exact h.elim
   ·exact h.elim
  ·exact h.elim
 | .trim t,h,hR=>by
  simp only[gh1]at h
  obtain⟨id,e,l,l0,h1,h2,h3,h4,h5,h6⟩:=ka5 h
  have hgl:(erS T s).h.get id=some (.cells (((l0.map (T.e e)).flatMap D.cells).map V.d)):=by show(erH T s.h).get id=_;rw[getH_er,h2];rfl
  obtain⟨G',f1,f2⟩:=hR.trim hgl (l.length*T.sz e)
  rw[trim_ob hT h3 h4]at f1 f2
  have hs:=f1.sl t
  have hs:RepV G' w ((s.nx,.cells (((l.map (T.e e)).flatMap D.cells).map V.d))::(id,.dead)::erH T s.h) (s.nx+1) (a.tmps.getD t undef) (getS (erS T s).sl t):=hs
  rw[show getS (erS T s).sl t=er T (getT s.sl t)from getS_er s.sl t,er_sim h6,h5]at hs
  exact⟨_,G',h1,f1.reslot t (f2 _ _ _ hs)⟩
 | .trimc id j,h,hR=>by
  simp only[gh1]at h
  split at h
  ·rename_i cs hi
   split at h
   ·rename_i v hj
    obtain⟨id',e,l,l0,h1,h2,h3,h4,h5,h6⟩:=ka5 h
    have hne:id'≠id:=by rintro rfl;rw[hi]at h2;cases h2
    rw[nb_ne hne,cond_false]at h1
    have hgl:(erS T s).h.get id' =some (.cells (((l0.map (T.e e)).flatMap D.cells).map V.d)):=by show(erH T s.h).get id' =_;rw[getH_er,h2];rfl
    have hil:(erS T s).h.get id=some (.cells (cs.map (er1 T))):=by show(erH T s.h).get id=_;rw[getH_er,hi];rfl
    obtain⟨G',f1,f2⟩:=hR.trim hgl (l.length*T.sz e)
    rw[trim_ob hT h3 h4]at f1 f2
    have hin:id<s.nx:=hR.wr.hid _ _ hil
    have hg' :Hp.get ((s.nx,Ob.cells (((l.map (T.e e)).flatMap D.cells).map V.d))::(id',.dead)::erH T s.h) id=some (.cells (cs.map (er1 T))):=by simp only[Hp.get];rw[if_neg (by omega),if_neg (Ne.symm hne)];exact hil
    have hx:(cs.map (er1 T))[j]? =some (.row id' 0 l.length (T.sz e)):=by rw[List.getElem?_map,hj,<-h5];rfl
    have:=f1.recell (s:=⟨(erS T s).sl,(s.nx,.cells (((l.map (T.e e)).flatMap D.cells).map V.d))::(id',.dead)::erH T s.h,s.nx+1⟩) (y:= .row s.nx 0 l.length (T.sz e)) hg' hx rfl (fun u=>f2 u _ _)
    refine⟨_,G',h1,?_⟩
    have e1:erS T ⟨s.sl,(id,.cells (cs.set j (.row s.nx e l.length)))::(s.nx,.vec e l)::(id',.dead)::s.h,s.nx+1⟩=⟨(erS T s).sl,(id,.cells ((cs.map (er1 T)).set j (.row s.nx 0 l.length (T.sz e))))::(s.nx,.cells (((l.map (T.e e)).flatMap D.cells).map V.d))::(id',.dead)::erH T s.h,s.nx+1⟩:=by
     show St.mk _ ((id,Ob.cells ((cs.set j (.row s.nx e l.length)).map (er1 T)))::_) _=_
     rw[List.map_set];rfl
    rw[e1];exact this
   ·exact h.elim
  ·exact h.elim
 | .rnil t e,h,hR=>by
  simp only[gh1]at h
  obtain⟨h1,h2⟩:=cnd h
  obtain⟨q1,q2⟩:=isE_er (T:=T) h1
  obtain⟨G',f1,f2⟩:=hR.rnil
  have hs:=f1.sl t
  have hs:RepV G' w ((s.nx,.cells [])::erH T s.h) (s.nx+1) (a.tmps.getD t undef) (getS (erS T s).sl t):=hs
  rw[show getS (erS T s).sl t=er T (getT s.sl t)from getS_er s.sl t]at hs
  exact⟨_,G',h2,f1.reslot t (f2 _ _ _ q1 hs)⟩
 | .rnilc id j e,h,hR=>by
  simp only[gh1]at h
  split at h
  ·rename_i cs hi
   split at h
   ·rename_i v hj
    obtain⟨h1,h2⟩:=cnd h
    obtain⟨q1,q2⟩:=isE_er (T:=T) h1
    rw[er_of1 q2]at q1
    have hil:(erS T s).h.get id=some (.cells (cs.map (er1 T))):=by show(erH T s.h).get id=_;rw[getH_er,hi];rfl
    obtain⟨G',f1,f2⟩:=hR.rnil
    have hin:id<s.nx:=hR.wr.hid _ _ hil
    have hg' :Hp.get ((s.nx,Ob.cells [])::erH T s.h) id=some (.cells (cs.map (er1 T))):=by simp only[Hp.get];rw[if_neg (by omega)];exact hil
    have hx:(cs.map (er1 T))[j]? =some (er1 T v):=by rw[List.getElem?_map,hj];rfl
    have:=f1.recell (s:=⟨(erS T s).sl,(s.nx,.cells [])::erH T s.h,s.nx+1⟩) (y:= .row s.nx 0 0 (T.sz e)) hg' hx rfl (fun u=>f2 u _ _ q1)
    refine⟨_,G',h2,?_⟩
    have e1:erS T ⟨s.sl,(id,.cells (cs.set j (.row s.nx e 0)))::(s.nx,.vec e [])::s.h,s.nx+1⟩=⟨(erS T s).sl,(id,.cells ((cs.map (er1 T)).set j (.row s.nx 0 0 (T.sz e))))::(s.nx,.cells [])::erH T s.h,s.nx+1⟩:=by
     show St.mk _ ((id,Ob.cells ((cs.set j (.row s.nx e 0)).map (er1 T)))::_) _=_
     rw[List.map_set];rfl
    rw[e1];exact this
   ·exact h.elim
  ·exact h.elim
 | .frzf id i,h,hR=>by
  simp only[gh1]at h
  split at h
  ·rename_i e l z x k off rid re m hg hi
   obtain⟨h1,h⟩:=cnd h
   simp only[Bool.and_eq_true,Bool.not_eq_true']at h1
   obtain⟨⟨⟨p1,p2⟩,p3⟩,p4⟩:=h1
   obtain rfl:=nb_eq p1
   obtain rfl:=Ty.eq_of_beq p2
   have q3:i≠rid:=fun e=>by rw[e,nb_self]at p3;cases p3
   have q4:off<(T.tys z).length:=Nat.le_of_ble_eq_true p4
   split at h
   ·rename_i y hy
    obtain⟨⟨rfl,h3,h4⟩,h5⟩:=h
    have hgl:(erS T s).h.get rid=some (.cells (((l.map (T.e re)).flatMap D.cells).map V.d)):=by show(erH T s.h).get rid=_;rw[getH_er,hg];rfl
    have hil:(erS T s).h.get i=some (.cells ((((x.map (T.e (.st z))).flatMap D.cells).map V.d).set (k.toNat*T.sz (.st z)+off) (.row rid 0 l.length (T.sz re)))):=by show(erH T s.h).get i=_;rw[getH_er,hi];rfl
    have hm:(k.toNat+1)*T.sz (.st z)<=x.length*T.sz (.st z):=Nat.mul_le_mul_right _ (by omega)
    rw[Nat.add_mul,Nat.one_mul]at hm
    have q4:off<T.sz (.st z):=q4
    have hlen:k.toNat*T.sz (.st z)+off<(((x.map (T.e (.st z))).flatMap D.cells).map V.d).length:=by rw[List.length_map,k16 hT];omega
    obtain⟨G',f1,_,f2⟩:=hR.freeze hgl (map_sz hT l) (by rw[List.length_map]:(l.map (T.e re)).length=l.length)
    have hin:i<s.nx:=hR.wr.hid _ _ hil
    have hg' :Hp.get ((s.nx,Ob.tip l.length)::(rid,.dead)::erH T s.h) i=some (.cells ((((x.map (T.e (.st z))).flatMap D.cells).map V.d).set (k.toNat*T.sz (.st z)+off) (.row rid 0 l.length (T.sz re)))):=by simp only[Hp.get];rw[if_neg (by omega),if_neg q3];exact hil
    have hx:((((x.map (T.e (.st z))).flatMap D.cells).map V.d).set (k.toNat*T.sz (.st z)+off) (.row rid 0 l.length (T.sz re)))[k.toNat*T.sz (.st z)+off]? =some (.row rid 0 l.length (T.sz re)):=List.getElem?_set_self hlen
    have hle:le1 (.own s.nx (T.sz re) (l.map (T.e re))) (.d (.slice (T.sz re) (l.map (T.e re)))):=⟨rfl,rfl⟩
    have:=f1.recell (s:=⟨(erS T s).sl,(s.nx,.tip l.length)::(rid,.dead)::erH T s.h,s.nx+1⟩) (y:= .d (.slice (T.sz re) (l.map (T.e re)))) hg' hx rfl (fun v hv=>(f2 v hv).le1 hle)
    refine⟨_,G',h5,?_⟩
    have hallD:∀(t:List (TD T.den)) (j:Nat),allD T ((t.map TD.v).set j (.d (.sl re) l))=true:=by
     intro t
     induction t with
     |nil=>intro j;rfl
     |cons d t ih=>
      intro j
      cases j with
      |zero=>
       show allD T (t.map TD.v)=true
       clear ih
       induction t with
       |nil=>rfl
       |cons d t ih=>exact ih
      |succ j=>exact ih j
    have hk:=k6y hy (hallD _ off)
    rw[List.map_set]at hk
    have hk:((T.e (.st z) (@ix _ ⟨T.dflt (.st z)⟩ x k)).cells.map V.d).set off (.d (.slice (T.sz re) (l.map (T.e re))))=(T.eL (T.tys z) y).map V.d:=by
     rw[<-hk,<-k57 hT (.st z)];rfl
    have hc:(T.e (.st z) (T.pack z y)).cells=T.eL (T.tys z) y:=by
     show(T.enc z (T.pack z y)).cells=_
     rw[hT.en,hT.pc];rfl
    have hi2:k.toNat<x.length:=by omega
    have e1:erO T (.vec (.st z) (x.set k.toNat (T.pack z y)))= .cells (((((x.map (T.e (.st z))).flatMap D.cells).map V.d).set (k.toNat*T.sz (.st z)+off) (.row rid 0 l.length (T.sz re))).set (k.toNat*T.sz (.st z)+off) (.d (.slice (T.sz re) (l.map (T.e re))))):=by
     rw[List.set_set,<-k66 _ hlen,kcz hT x k h3 h4 off _ (by show off+1<=_;omega),k66 _ (by rw[List.length_map,(e_sz hT _ _).1];exact q4),hk,<-hc]
     exact vec_set (e:= .st z) x k.toNat (T.pack z y) hi2
    have e2:erS T ⟨s.sl,(i,.vec (.st z) (x.set k.toNat (T.pack z y)))::(s.nx,.tip re l)::(rid,.dead)::s.h,s.nx+1⟩=⟨(erS T s).sl,(i,.cells (((((x.map (T.e (.st z))).flatMap D.cells).map V.d).set (k.toNat*T.sz (.st z)+off) (.row rid 0 l.length (T.sz re))).set (k.toNat*T.sz (.st z)+off) (.d (.slice (T.sz re) (l.map (T.e re))))))::(s.nx,.tip l.length)::(rid,.dead)::erH T s.h,s.nx+1⟩:=by
     rw[<-e1];rfl
    rw[e2];exact this
   ·exact h.elim
  ·exact h.elim
end
theorem ghs_snd (hT:T.Ok) {Tk:Tk} {G0:Gh} {w0:World} {a:Act} {w:World}:∀(gs:List Gs) (s:TSt T.den) (K:TSt T.den->Prop) (G:Gh),ghs T gs s K->R Tk G0 w0 N (erS T s) a G w->∃s' G',K s'/\R Tk G0 w0 N (erS T s') a G' w
 |[],s,K,G,h,hR=>⟨s,G,h,hR⟩
 |g::gs,s,K,G,h,hR=>by
  obtain⟨s1,G1,h1,h2⟩:=gh1_snd hT g h hR
  exact ghs_snd hT gs s1 K G1 h1 h2
theorem sat_ghs (hT:T.Ok) {Tk:Tk} {G0:Gh} {w0:World} {gs:List Gs} {s:TSt T.den} {K:TSt T.den->Prop} {c:Code} {Q:Exit->St->Prop} (h:ghs T gs s K) (hk:∀s',K s'->Sat P Tk G0 w0 N c (erS T s') Q):Sat P Tk G0 w0 N c (erS T s) Q:=by
 intro G a w hR
 obtain⟨s',G',h1,h2⟩:=ghs_snd hT gs s K G h hR
 exact hk s' h1 G' a w h2
def QE (Q:Exit->TSt T.den->Prop) (e:Exit) (s:St):Prop:=KE (Q e) s
theorem KE.lk {K:TSt T.den->Prop} {s:TSt T.den} (h:K s):KE K (erS T s):=⟨s,h,Wk.refl _⟩
theorem kh2 (hT:T.Ok) (hC:C.Ok P T) (hm:P.follows .mixedOrders=true) {Tk:Tk} {G0:Gh} {w0:World}:∀(c:Code) (an:An T) (s:TSt T.den) (Q:Exit->TSt T.den->Prop),WP T C N Tk.nx c an s Q->Obl T C N Tk.nx c an Q->Sat P Tk G0 w0 N c (erS T s) (QE Q):=by
 intro c
 induction c with
 |skip=>intro an s Q h _;exact kcy (KE.lk (by simpa[WP]using h))
 |region id ops dr=>
  intro an s Q h _
  obtain⟨l⟩:=ops
  have h:regW T C N ⟨l⟩ dr s (Q .normal):=by simpa[WP]using h
  cases dr with
  |false=>
   intro G a w hR
   exact wp_region_lit (kek hT hC l (Q .normal) s a G w hR h fun s' a' G' w' hk hR' =>⟨erS T s',G',KE.lk hk,hR'⟩)
  |true=>
   unfold regW at h
   obtain⟨h1,h2⟩:=cnd h
   rw[Bool.and_eq_true]at h1
   refine k9w C.S hm (noIt_er h1.2) h1.1 fun K hK=> ?_
   exact k39 (K:=KE (Q .normal)) (fun a b he ⟨t,q1,q2⟩=>hK a ⟨t,q1,he.wk.trans q2⟩) (closeOps l) _ _ _ _ _ (Eqv.refl _) (kft hT hC (closeOps l) _ _ _ _ h2)
 |seq x y ihx ihy=>
  intro an s Q h ho
  have plain:∀(ga gb:List Gs) (a b:An T),(ghs T ga s fun s=>WP T C N Tk.nx x a s (thenT T (fun s' =>ghs T gb s' fun s' =>WP T C N Tk.nx y b s' Q) Q))->Obl T C N Tk.nx x a (thenT T (fun s' =>ghs T gb s' fun s' =>WP T C N Tk.nx y b s' Q) Q)->Obl T C N Tk.nx y b Q->Sat P Tk G0 w0 N (.seq x y) (erS T s) (QE Q):=by
   intro ga gb a b h1 h2 h3
   refine sat_ghs hT h1 fun s' hs' =>sat_seq (kn (ihx a s' _ hs' h2) fun e s1 hq=> ?_)
   obtain⟨t,q1,q2⟩:=hq
   cases e with
   |normal=>exact sat_lk q2.lk (sat_ghs hT q1 fun s2 hs2=>ihy b s2 Q hs2 h3)
   |_=>exact⟨t,q1,q2⟩
  cases an with
  |jn tm J ga a gb b=>
   have h:ghs T ga s fun s=>WP T C N Tk.nx x a s (thenT T (fun s' =>tm.mat T Tk.nx s' J) Q):=by simpa only[WP]using h
   simp only[Obl]at ho
   obtain⟨o1,o2,o3⟩:=ho
   refine sat_ghs hT h fun s' hs' =>sat_seq (kn (ihx a s' _ hs' o1) fun e s1 hq=> ?_)
   obtain⟨t,q1,q2⟩:=hq
   cases e with
   |normal=>
    obtain⟨i,k1,k2⟩:=mat_snd hT q1
    refine sat_lk (q2.lk.trans k2) ?_
    rw[o2 i]at k1
    exact sat_ghs hT k1 fun s2 hs2=>ihy b s2 Q hs2 o3
   |_=>exact⟨t,q1,q2⟩
  |no=>simp only[WP]at h;simp only[Obl]at ho;exact plain _ _ _ _ h ho.1 ho.2
  |nd ga a gb b=>simp only[WP]at h;simp only[Obl]at ho;exact plain _ _ _ _ h ho.1 ho.2
  |lp g tm L a=>simp only[WP]at h;simp only[Obl]at ho;exact plain _ _ _ _ h ho.1 ho.2
  |rt g=>simp only[WP]at h;simp only[Obl]at ho;exact plain _ _ _ _ h ho.1 ho.2
 |cond c x y ihx ihy=>
  intro an s Q h ho
  simp only[WP]at h
  simp only[Obl]at ho
  split at h
  ·rename_i hv
   exact k9p (by rw[ev_er,hv];rfl) (sat_ghs hT h fun s' hs' =>ihx _ s' Q hs' ho.1)
  ·rename_i hv
   exact k9g (by rw[ev_er,hv];rfl) (sat_ghs hT h fun s' hs' =>ihy _ s' Q hs' ho.2)
  ·rename_i t hv
   exact k53 (t:=t) (by rw[ev_er,hv];rfl) (fun ht=>sat_ghs hT (h.1 ht) fun s' hs' =>ihx _ s' Q hs' ho.1) (fun ht=>sat_ghs hT (h.2 ht) fun s' hs' =>ihy _ s' Q hs' ho.2)
  ·exact h.elim
 |block id x ih=>
  intro an s Q h ho
  simp only[WP]at h
  simp only[Obl]at ho
  refine k9v (kn (ih an s _ h ho) fun e s1 hq=> ?_)
  obtain⟨t,q1,q2⟩:=hq
  cases e with
  |exit id' =>
   simp only[blockT]at q1
   simp only[blockA]
   by_cases hi:id' =id
   ·rw[if_pos hi]
    rw[hi,nb_self]at q1
    exact⟨t,q1,q2⟩
   ·rw[if_neg hi]
    rw[nb_ne hi]at q1
    exact⟨t,q1,q2⟩
  |_=>exact⟨t,q1,q2⟩
 |loop x ih=>
  intro an s Q h ho
  cases an with
  |lp g tm L a=>
   simp only[WP]at h
   simp only[Obl]at ho
   obtain⟨o1,o2⟩:=ho
   refine sat_ghs hT h fun s' hs' => ?_
   obtain⟨i,⟨⟨inv,μ,k0,k1⟩⟩,k2⟩:=mat_snd hT hs'
   refine ka0 (fun i=>erS T (tm.fill T i)) inv μ i k0 k2 fun i hi=> ?_
   have hr:=k1 i hi
   rw[o1]at hr
   refine kn (ih _ _ _ hr (o2 _)) fun e s1 hq=> ?_
   obtain⟨t,q1,q2⟩:=hq
   cases e with
   |normal=>
    obtain⟨i',⟨m1,m2⟩,m3⟩:=mat_snd hT q1
    exact⟨i',m1,m2,q2.lk.trans m3⟩
   |_=>exact⟨t,q1,q2⟩
  |_=>simp only[WP]at h
 |exit id=>intro an s Q h _;simp only[WP]at h;exact kcm (KE.lk h)
 |ret=>
  intro an s Q h _
  simp only[WP]at h
  exact sat_ghs hT h fun s' hs' =>sat_ret (KE.lk hs')
 |label l=>intro an s Q h _;simp only[WP]at h;exact kag (KE.lk h)
 |_=>intro an s Q h _;simp only[WP]at h
theorem eqH_eq:∀{ts:List Ty} {x y:HL T.den ts},eqH ts x y->x=y
 |[],_,_,_=>rfl
 |[_],x,y,h=>by
  obtain⟨a,b⟩:=x
  obtain⟨c,d⟩:=y
  have h:a=c:=h
  subst h;rfl
 |_::t::r,x,y,h=>by
  obtain⟨a,b⟩:=x
  obtain⟨c,d⟩:=y
  obtain⟨h1,h2⟩:=h
  have g1:a=c:=h1
  have g2:b=d:=eqH_eq (ts:=t::r) h2
  rw[g1,g2]
theorem k7m (hT:T.Ok) (hI:InfoOk P T C.ti) {s:TSt T.den}:∀(rs:List ResultVar) (K:List (TV T.den)->Prop),resT T C.ti s rs K->∃l,K l/\allOk P (erS T s) rs/\rs.map (resV P (erS T s))=l.map (er T)
 |[],K,h=>⟨[],h,trivial,rfl⟩
 | .tmp t::r,K,h=>by
  obtain⟨l,h1,h2,h3⟩:=k7m hT hI r _ h
  refine⟨_,h1,⟨trivial,h2⟩,?_⟩
  simp only[List.map_cons,h3]
  congr 1
  exact getS_er s.sl t
 | .cell t ty::r,K,h=>by
  obtain⟨u,h0,h4,h5⟩:=k9q hT (hI.of ty) h
  obtain⟨l,h1,h2,h3⟩:=k7m hT hI r _ h0
  have e:getS (erS T s).sl t=er T (getT s.sl t):=getS_er s.sl t
  refine⟨_,h1,⟨by show loadOk _ _ (getS (erS T s).sl t);rw[e];exact h4,h2⟩,?_⟩
  simp only[List.map_cons,h3]
  congr 1
  show loadV _ _ (getS (erS T s).sl t)=_
  rw[e];exact h5
theorem kbo:∀{l:List (TV T.den)},noTupB T l=true->l.map (er T)=l.map (er0 T)
 |[],_=>rfl
 |v::r,h=>by
  cases v<;>first|(cases h;done)|(simp only[List.map_cons];rw[kbo (l:=r) h];rfl)
theorem ret_er {l:List (TV T.den)} (h:noTupB T l=true):retV (l.map (er T))=er T (retTV T l):=by
 match l,h with
 |[],_=>rfl
 |[x],_=>rfl
 |x::y::r,h=>
  exact congrArg V.tup (kbo h)
theorem k9h {h:Hp} {σ:Nat->Nat} {m nx:Nat}:∀{ks:List Nat} {os:List Ob},ks.length=os.length->(∀(i k:Nat) (o:Ob),ks[i]? =some k->os[i]? =some o->k<nx/\obLe (h.get k) (renO σ o)/\okO m o)->postOk h σ m nx ks os
 |[],[],_,_=>trivial
 |[],_::_,h,_=>by cases h
 |_::_,[],h,_=>by cases h
 |k::ks,o::os,h,hh=>⟨hh 0 k o rfl rfl,k9h (by simpa using h) fun i k' o' h1 h2=>hh (i+1) k' o' (by simpa using h1) (by simpa using h2)⟩
theorem k8s:∀{n k:Nat} {l:List Nat},selfB n k l=true->selfP k n l
 |0,_,l,_=>by cases l<;>trivial
 |n+1,k,[],h=>by cases h
 |n+1,k,i::r,h=>by
  simp only[selfB,Bool.and_eq_true]at h
  exact⟨nb_eq h.1,k8s h.2⟩
theorem k4i (hT:T.Ok) (hC:C.Ok P T) {c:Con T.den} {rs:List ResultVar} {o:HL T.den (hsV c.res (hsOs c.post))} {s:TSt T.den} (h:retT T C c rs o s):RetA P rs (er T (c.val idf o)) c.pre.length ((c.ops idf o).map (erO T)) (erS T s):=by
 unfold retT at h
 obtain⟨l,h1,h2,h3⟩:=k7m hT hC.ti rs _ h
 split at h1
 ·exact h1.elim
 ·rename_i ids hids
  split at h1
  ·exact h1.elim
  ·rename_i b hb
   obtain⟨a1,a2⟩:=cnd h1
   simp only[Bool.and_eq_true,Con.okB]at a1
   obtain⟨⟨⟨⟨⟨hok,hnd⟩,hlt⟩,hlen⟩,hself⟩,hnt⟩:=a1
   obtain⟨⟨⟨⟨⟨⟨⟨⟨⟨⟨o1,o2⟩,o3⟩,o4⟩,o5⟩,o6⟩,o7⟩,o8⟩,o9⟩,o10⟩,o11⟩:=hok
   have hlen:=nb_eq hlen
   obtain⟨y,g1,g2,g3⟩:=k5a hT o10 hb a2
   obtain⟨x,k1,k2,k3⟩:=mtV_snd c.res _ _ y _ o9 g1
   have hx:=eqH_eq k1
   subst hx
   have hfo:c.fo x=tkB c.post b:=by unfold Con.fo;rw[k2,g2]
   have hops:c.ops idf x=(tkC idf (tkB c.post b) 0 c.post _ y).1:=by unfold Con.ops;rw[hfo,k2]
   have hql:((c.ops idf x).map (erO T)).length=c.post.length:=by rw[List.length_map,hops,tkC_len]
   have hval:c.val idf x=(tkV idf (tkB c.post b) c.res _ x).1:=by unfold Con.val;rw[hfo]
   refine retN ids ⟨h2,?_,?_,?_,?_,k19 hnd,by rw[hql];exact ble_le o5,k8s hself⟩
   ·rw[h3,ret_er hnt,hval,<-tkV_ren];exact k3
   ·rw[hql,hval];exact tkV_ok (fun j hj=>hj) c.res _ x o3
   ·rw[hval];exact ka4 _ _ _
   ·refine k9h (by rw[hql];exact hlen) fun i k ob hk ho=> ?_
    have hkm:k<s.nx:=k18 hlt k (List.mem_of_getElem? hk)
    rw[hql]
    rw[List.getElem?_map,Option.map_eq_some_iff]at ho
    obtain⟨ot,ho,rfl⟩:=ho
    rw[hops]at ho
    refine⟨hkm,?_,tkC_ok (kx _ _) (fun j hj=>hj) 0 c.post _ y o4 i ot ho⟩
    have hr:=tkC_ren (rh ids) (tkB c.post b) (kx _ _) 0 c.post _ y
    have hi:i<(tkC idf (tkB c.post b) 0 c.post (hsB c.post) y).1.length:=(List.getElem?_eq_some_iff.1 ho).1
    have hi2:i<(tkC (rh ids) (tkB c.post b) 0 c.post (hsB c.post) y).1.length:=by rw[tkC_len]at hi ⊢;exact hi
    have e:=congrArg (fun l=>l[i]?) hr
    simp only[List.getElem?_map,ho,Option.map_some,List.getElem?_eq_getElem hi2,Option.some.injEq]at e
    have:=g3 i _ (List.getElem?_eq_getElem hi2)
    have hrk:rh ids i=k:=by simp[rh,hk]
    rw[e,hrk]at this
    exact this
theorem k6z:∀(k:Nat) (l:List (TV T.den)),(initT T k l).map (fun p=>(p.1,er T p.2))=initSl k (l.map (er T))
 |_,[]=>rfl
 |k,x::r=>by
  show(k,er T x)::(initT T (k+1) r).map (fun p=>(p.1,er T p.2))=(k,er T x)::initSl (k+1) (r.map (er T))
  rw[k6z (k+1) r]
theorem hpN_idf:∀(k:Nat) (l:List (TOb T.den)),erH T (hpN idf k l)=hpOf k (l.map (erO T))
 |_,[]=>rfl
 |k,x::r=>by
  show(k,erO T x)::erH T (hpN idf (k+1) r)=(k,erO T x)::hpOf (k+1) (r.map (erO T))
  rw[hpN_idf (k+1) r]
theorem Con.sound (hT:T.Ok) (hC:C.Ok P T) (hm:P.follows .mixedOrders=true) {c:Con T.den} {fn:Func} {code:Code} {rs:List ResultVar} (hf:P.funcs[c.f]? =some fn) (hb:fn.body=some code) (hN:fn.ntmps=N) (hrs:fn.results.toList=rs) (hl:Nat.ble c.ins.length N=true)
  {x:HL T.den (hsT c.ins (hsOs c.pre))} {o:HL T.den (hsV c.res (hsOs c.post))} {an:An T} (hW:WP T C N c.pre.length code an (c.st T x) (retTQ T C c rs o)) (hO:Obl T C N c.pre.length code an (retTQ T C c rs o)):
  SoundH P c.f ((c.args idf x).map (er T)) ((c.obs idf x).map (erO T)) (er T (c.val idf o)) ((c.ops idf o).map (erO T)):=by
 have hpl:((c.obs idf x).map (erO T)).length=c.pre.length:=by rw[List.length_map];unfold Con.obs;rw[tkC_len]
 have hal:((c.args idf x).map (er T)).length=c.ins.length:=by rw[List.length_map];unfold Con.args;rw[tkT_len]
 refine kc2 hf hb hN (by rw[hal];exact ble_le hl) fun G0 w0=> ?_
 have e:erS T (c.st T x)=⟨initSl 0 ((c.args idf x).map (er T)),hpOf 0 ((c.obs idf x).map (erO T)),((c.obs idf x).map (erO T)).length⟩:=by
  rw[hpl]
  show St.mk _ _ _=_
  unfold Con.st
  rw[k6z,hpN_idf]
 rw[<-e,hrs]
 have hnx:(tkOf G0 ((c.obs idf x).map (erO T))).nx=c.pre.length:=hpl
 rw[<-hnx]at hW hO
 refine kc3 (kh2 hT hC hm code an _ _ hW hO) fun ex s1 hq=> ?_
 obtain⟨t,q1,q2⟩:=hq
 refine⟨erS T t,?_,q2.lk⟩
 cases ex with
 |normal=>have:=k4i hT hC (s:=t) q1;rw[<-hpl]at this;exact this
 |ret=>have:=k4i hT hC (s:=t) q1;rw[<-hpl]at this;exact this
 |_=>exact q1
end
end Go.Cv
namespace Go.Bv
open Go.RowKit
section
variable {G:Gh} {w:World} {h:Hp} {nx:Nat}
theorem PtrsR.ok:∀{ps:List (Option (Nat×Nat))} {vs:List Value},PtrsR G nx ps vs->okP nx ps
 |[],[],_=>trivial
 |[],_::_,h=>h.elim
 |_::_,[],h=>h.elim
 |none::r,_::_,h=>PtrsR.ok (ps:=r) h.2
 |some _::r,_::_,h=>⟨h.1.1,PtrsR.ok (ps:=r) h.2⟩
theorem RepV.ok1 {v:Value} {x:V} (hr:RepV G w h nx v x) (h1:∀l,x≠ .agg l) (h2:∀l,x≠ .tup l):Bv.ok1 nx x:=by
 cases hr with
 |agg _ l=>exact(h1 l rfl).elim
 |tup _ l=>exact(h2 l rfl).elim
 |ptr id _ b hid=>exact hid
 |own _ tok _ _ _ ht=>exact ht
 |row id _ _ _ _ _ _ _ hid=>exact hid
 |rown _ id _ _ hid=>exact hid
 |mp id _ hid=>exact hid
 |clo g fs cs vs us hf hc=>exact⟨hf.ok,hc.ok⟩
 |_=>trivial
theorem okL_of:∀{l:List V},(∀(j:Nat) (x:V),l[j]? =some x->Bv.ok1 nx x)->okL nx l
 |[],_=>trivial
 |x::r,h=>⟨h 0 x rfl,okL_of fun j y hj=>h (j+1) y (by simpa using hj)⟩
theorem one_na {x:V} (h:x.one=true):(∀l,x≠ .agg l)/\∀l,x≠ .tup l:=by
 constructor<;>(intro l e;rw[e]at h;cases h)
theorem RepV.ok0 {v:Value} {x:V} (hr:RepV G w h nx v x) (h2:∀l,x≠ .tup l):Bv.ok0 nx x/\Bv.le0 x x:=by
 by_cases ha:∃l,x= .agg l
 ·obtain⟨l,rfl⟩:=ha
  cases hr with
  |agg vs _ hlen hone hr=>
   refine⟨okL_of fun j x hx=> ?_,k3h l hone⟩
   have hj:j<vs.length:=by have:=(List.getElem?_eq_some_iff.1 hx).1;omega
   have h1:=one_na (hone x (List.mem_of_getElem? hx))
   exact(hr j _ x (List.getElem?_eq_getElem hj) hx).ok1 h1.1 h1.2
 ·have h1:=hr.ok1 (fun l e=>ha ⟨l,e⟩) h2
  cases x with
  |agg l=>exact(ha ⟨l,rfl⟩).elim
  |tup l=>exact(h2 l rfl).elim
  |_=>exact⟨h1,by unfold Bv.le0;exact kc _⟩
theorem okT_of:∀{l:List V},(∀(j:Nat) (x:V),l[j]? =some x->Bv.ok0 nx x/\Bv.le0 x x)->okT nx l/\leT l l
 |[],_=>⟨trivial,trivial⟩
 |x::r,h=>by
  obtain⟨g1,g2⟩:=okT_of (l:=r) fun j y hj=>h (j+1) y (by simpa using hj)
  obtain⟨k1,k2⟩:=h 0 x rfl
  exact⟨⟨k1,g1⟩,⟨k2,g2⟩⟩
theorem RepV.ok {v:Value} {x:V} (hr:RepV G w h nx v x) (ht:∀l,x= .tup l->∀y∈l,∀l',y≠ .tup l'):Bv.ok nx x/\Bv.le x x:=by
 by_cases ha:∃l,x= .tup l
 ·obtain⟨l,rfl⟩:=ha
  cases hr with
  |tup vs _ hlen hr=>
   exact okT_of fun j y hy=>by
    have hj:j<vs.length:=by have:=(List.getElem?_eq_some_iff.1 hy).1;omega
    exact(hr j _ y (List.getElem?_eq_getElem hj) hy).ok0 (ht l rfl y (List.mem_of_getElem? hy))
 ·have h1:=hr.ok0 (fun l e=>ha ⟨l,e⟩)
  cases x with
  |tup l=>exact(ha ⟨l,rfl⟩).elim
  |_=>exact h1
theorem k1r {m:Nat} (h:nx<=m):∀{l:List (Option (Nat×Nat))},okP nx l->okP m l
 |[],_=>trivial
 |none::r,hx=>k1r h (l:=r) hx
 |some _::r,hx=>⟨Nat.lt_of_lt_of_le hx.1 h,k1r h (l:=r) hx.2⟩
theorem kh9 {m:Nat} (h:nx<=m) {x:V} (hx:Bv.ok1 nx x):Bv.ok1 m x:=by
 cases x<;>first|exact Nat.lt_of_lt_of_le hx h|exact hx|exact⟨k1r h hx.1,k1r h hx.2⟩
theorem k4h {m:Nat} (h:nx<=m):∀{l:List V},okL nx l->okL m l
 |[],_=>trivial
 |_::_,hx=>⟨kh9 h hx.1,k4h h hx.2⟩
theorem k7w {m:Nat} (h:nx<=m) {x:V} (hx:Bv.ok0 nx x):Bv.ok0 m x:=by
 cases x with
 |agg l=>exact k4h h (l:=l) hx
 |ptr=>exact Nat.lt_of_lt_of_le hx h
 |own=>exact Nat.lt_of_lt_of_le hx h
 |row=>exact Nat.lt_of_lt_of_le hx h
 |mp=>exact Nat.lt_of_lt_of_le hx h
 |clo=>exact⟨k1r h hx.1,k1r h hx.2⟩
 |_=>exact hx
theorem kda {m:Nat} (h:nx<=m):∀{l:List V},okT nx l->okT m l
 |[],_=>trivial
 |_::_,hx=>⟨k7w h hx.1,kda h hx.2⟩
theorem ok_mono {m:Nat} (h:nx<=m) {x:V} (hx:Bv.ok nx x):Bv.ok m x:=by
 cases x with
 |tup l=>exact kda h (l:=l) hx
 |agg l=>exact k4h h (l:=l) hx
 |ptr=>exact Nat.lt_of_lt_of_le hx h
 |own=>exact Nat.lt_of_lt_of_le hx h
 |row=>exact Nat.lt_of_lt_of_le hx h
 |mp=>exact Nat.lt_of_lt_of_le hx h
 |clo=>exact⟨k1r h hx.1,k1r h hx.2⟩
 |_=>exact hx
theorem k6w {m:Nat} (h:nx<=m):∀{l:List (D×V)},okM nx l->okM m l
 |[],_=>trivial
 |_::_,hx=>⟨k7w h hx.1,k6w h hx.2⟩
theorem khi {m:Nat} (h:nx<=m) {o:Ob} (ho:okO nx o):okO m o:=by
 cases o with
 |cells l=>exact k4h h (l:=l) ho
 |map x=>cases x with
  |m l=>exact k6w h (l:=l) ho
  |it mid l last=>exact⟨Nat.lt_of_lt_of_le ho.1 h,k6w h ho.2.1,fun e he=>k7w h (ho.2.2 e he)⟩
 |_=>trivial
theorem k3s {σ:Nat->Nat} (hσ:∀i,i<nx->σ i=i):∀{l:List (Option (Nat×Nat))},okP nx l->renP σ l=l
 |[],_=>rfl
 |none::r,h=>congrArg (List.cons none) (k3s (l:=r) hσ h)
 |some (i,_)::_,h=>by unfold renP;rw[hσ i h.1,k3s hσ h.2]
theorem ren1_id {σ:Nat->Nat} (hσ:∀i,i<nx->σ i=i) {x:V} (h:Bv.ok1 nx x):Bv.ren1 σ x=x:=by
 cases x<;>first|rfl|(simp only[Bv.ren1];rw[hσ _ h])|(simp only[Bv.ren1];rw[k3s hσ h.1,k3s hσ h.2])
theorem renL_id {σ:Nat->Nat} (hσ:∀i,i<nx->σ i=i):∀{l:List V},okL nx l->l.map (Bv.ren1 σ)=l
 |[],_=>rfl
 |x::r,h=>by rw[List.map_cons,ren1_id hσ h.1,renL_id hσ h.2]
theorem ren0_id {σ:Nat->Nat} (hσ:∀i,i<nx->σ i=i) {x:V} (h:Bv.ok0 nx x):Bv.ren0 σ x=x:=by
 cases x with
 |agg l=>exact congrArg V.agg (renL_id hσ h)
 |ptr i o=>exact ren1_id (x:= .ptr i o) hσ h
 |own a b c=>exact ren1_id (x:= .own a b c) hσ h
 |row a b c d=>exact ren1_id (x:= .row a b c d) hσ h
 |mp a=>exact ren1_id (x:= .mp a) hσ h
 |clo a b c=>exact ren1_id (x:= .clo a b c) hσ h
 |_=>rfl
theorem renT_id {σ:Nat->Nat} (hσ:∀i,i<nx->σ i=i):∀{l:List V},okT nx l->l.map (Bv.ren0 σ)=l
 |[],_=>rfl
 |x::r,h=>by rw[List.map_cons,ren0_id hσ h.1,renT_id hσ h.2]
theorem ren_id {σ:Nat->Nat} (hσ:∀i,i<nx->σ i=i) {x:V} (h:Bv.ok nx x):Bv.ren σ x=x:=by
 cases x with
 |tup l=>exact congrArg V.tup (renT_id hσ h)
 |agg l=>exact congrArg V.agg (renL_id hσ h)
 |ptr i o=>exact ren1_id (x:= .ptr i o) hσ h
 |own a b c=>exact ren1_id (x:= .own a b c) hσ h
 |row a b c d=>exact ren1_id (x:= .row a b c d) hσ h
 |mp a=>exact ren1_id (x:= .mp a) hσ h
 |clo a b c=>exact ren1_id (x:= .clo a b c) hσ h
 |_=>rfl
theorem renM_id {σ:Nat->Nat} (hσ:∀i,i<nx->σ i=i):∀{l:List (D×V)},okM nx l->(l.map fun e=>(e.1,Bv.ren0 σ e.2))=l
 |[],_=>rfl
 |x::r,h=>by rw[List.map_cons,ren0_id hσ h.1,renM_id hσ h.2]
theorem renO_id {σ:Nat->Nat} (hσ:∀i,i<nx->σ i=i) {o:Ob} (h:okO nx o):renO σ o=o:=by
 cases o with
 |cells l=>exact congrArg Ob.cells (renL_id hσ h)
 |map x=>cases x with
  |m l=>exact congrArg (fun z=>Ob.map (.m z)) (renM_id hσ h)
  |it mid l last=>
   obtain⟨h1,h2,h3⟩:=h
   show Ob.map (.it (σ mid) _ (last.map _))=_
   rw[hσ mid h1,renM_id hσ h2]
   cases last with
   |none=>rfl
   |some e=>simp only[Option.map_some];rw[ren0_id hσ (h3 e rfl)]
 |_=>rfl
end
end Go.Bv
namespace Go.Cv
open Go Go.Bv Go.RowKit Go.Md
section
variable {T:Tab} {P:Program} {C:Cx T} {N:Nat}
structure Gd (s:TSt T.den):Prop where
 sl:∀t,ok s.nx (er T (getT s.sl t))/\le (er T (getT s.sl t)) (er T (getT s.sl t))
 h:∀id ob,(erS T s).h.get id=some ob->id<s.nx/\okO s.nx ob/\obLe (some ob) ob
theorem er_tup {v:TV T.den}:∀l,er T v= .tup l->∀y∈l,∀l',y≠ .tup l' :=by
 intro l h y hy
 cases v with
 |tup l0=>
  injection h with h
  subst h
  obtain⟨u,_,rfl⟩:=List.mem_map.1 hy
  exact k1b
 |_=>cases h
theorem okM_D {nx:Nat} {k v:Ty}:∀(l:List (k.den T.den×v.den T.den)),okM nx (l.map fun p=>(T.e k p.1,V.ofD (T.e v p.2)))
 |[]=>trivial
 | p::r=>⟨by
   show ok0 nx (V.ofD (T.e v p.2))
   generalize T.e v p.2=d
   cases d with
   |agg l=>exact okL_of fun j x hx=>by rw[List.getElem?_map,Option.map_eq_some_iff]at hx;obtain⟨_,_,rfl⟩:=hx;trivial
   |_=>trivial,okM_D r⟩
theorem k9s:∀x:MO,moLe x x
 | .m _=>rfl
 | .it _ _ none=>⟨rfl,rfl⟩
 | .it _ _ (some _)=>rfl
theorem gd_of {Tk:Tk} {G0:Gh} {w0:World} {s:TSt T.den} {a:Act} {G:Gh} {w:World} (hR:R Tk G0 w0 N (erS T s) a G w):Gd s:=by
 refine⟨fun t=> ?_,fun id ob hg=> ?_⟩
 ·have:=hR.sl t
  rw[show getS (erS T s).sl t=er T (getT s.sl t)from getS_er s.sl t]at this
  exact this.ok er_tup
 ·refine⟨hR.wr.hid id ob hg,?_⟩
  have hg0:=hg
  have hg:(erH T s.h).get id=some ob:=hg
  rw[getH_er,Option.map_eq_some_iff]at hg
  obtain⟨o,ho,rfl⟩:=hg
  have cell:∀l,erO T o= .cells l->okO s.nx (.cells l)/\obLe (some (.cells l)) (.cells l):=by
   intro l hl
   rw[hl]at hg0
   rcases hR.wr.obj id l hg0 with⟨z1,z2⟩|⟨b,e,cs,k1,k2,k3,k4,k5,k6⟩
   ·subst z1;exact⟨trivial,trivial⟩
   ·refine⟨okL_of fun j x hx=> ?_,k3h l k5⟩
    have hj:j<cs.length:=by have:=(List.getElem?_eq_some_iff.1 hx).1;omega
    have h1:=one_na (k5 x (List.mem_of_getElem? hx))
    exact(k6 j _ x (List.getElem?_eq_getElem hj) hx).ok1 h1.1 h1.2
  cases o with
  |cells l=>exact cell _ rfl
  |vec e l=>exact cell _ rfl
  |foc e l i off rid re n=>exact cell _ rfl
  |tip e l=>exact⟨trivial,rfl⟩
  |dead=>exact⟨trivial,trivial⟩
  |map k v ks vs=>exact⟨okM_D _,by show moLe (MO.m _) (MO.m _);exact k9s _⟩
  |it mid k v ks vs last=>
   refine⟨⟨?_,okM_D _,fun e he=> ?_⟩,k9s _⟩
   ·obtain⟨b,bm,since,seen,c0,h1,h2,h3,_⟩:=hR.wr.mob id _ hg0
    exact h3
   ·cases last with
    |none=>cases he
    |some p=>exact k2h (okM_D [p]) 0 e (by simpa using he)
theorem k7l {sl' :List (Nat×TV T.den)} {t:Nat}:∀{sl:List (Nat×TV T.den)},hasK T sl t=false->getT (sl++sl') t=getT sl' t
 |[],_=>rfl
 |p::r,h=>by
  simp only[hasK,Bool.or_eq_false_iff]at h
  show(bif Nat.beq t p.1 then p.2 else getT (r++sl') t)=_
  rw[h.1]
  exact k7l h.2
theorem kbm {sl' :List (Nat×TV T.den)} {t:Nat}:∀{sl:List (Nat×TV T.den)},hasK T sl t=true->getT (sl++sl') t=getT sl t
 |[],h=>by cases h
 |p::r,h=>by
  show(bif Nat.beq t p.1 then p.2 else getT (r++sl') t)=(bif Nat.beq t p.1 then p.2 else getT r t)
  cases e:Nat.beq t p.1 with
  |true=>rfl
  |false=>
   simp only[hasK,e,Bool.false_or]at h
   exact kbm h
theorem kam {t:Nat}:∀{sl:List (Nat×TV T.den)},hasK T sl t=false->getT sl t= .any
 |[],_=>rfl
 |p::r,h=>by
  simp only[hasK,Bool.or_eq_false_iff]at h
  show(bif Nat.beq t p.1 then p.2 else getT r t)=_
  rw[h.1]
  exact kam h.2
theorem memB_in:∀{x:Nat} {l:List Nat},memB x l=true->x∈l
 |_,[],h=>by cases h
 |x,y::r,h=>by
  simp only[memB,Bool.or_eq_true]at h
  rcases h with h|h
  ·rw[nb_eq h];simp
  ·exact List.mem_cons_of_mem _ (memB_in h)
theorem kch {ts:List Nat} {sl:List (Nat×TV T.den)}:∀{l:List (Nat×TV T.den)} {t:Nat},chS T ts sl l=true->hasK T l t=true->t∈ts∨hasK T sl t=false
 |[],t,_,h=>by cases h
 |p::r,t,h,hk=>by
  simp only[chS,Bool.and_eq_true,Bool.or_eq_true,Bool.not_eq_true']at h
  simp only[hasK,Bool.or_eq_true]at hk
  rcases hk with hk|hk
  ·rw[nb_eq hk]
   rcases h.1 with h1|h1
   ·exact .inl (memB_in h1)
   ·exact .inr h1
  ·exact kch h.2 hk
theorem kc6 {d:Dl} {nx:Nat}:∀{l:THp T.den} {i:Nat} {o:Ob},chH T d nx l=true->(erH T l).get i=some o->i∈d.old∨i∈d.dd∨nx<=i
 |[],i,o,_,h=>by cases h
 |p::r,i,o,h,hk=>by
  simp only[chH,Bool.and_eq_true,Bool.or_eq_true]at h
  have hk:Hp.get ((p.1,erO T p.2)::erH T r) i=some o:=hk
  simp only[Hp.get]at hk
  split at hk
  ·rename_i e
   rw[e]
   rcases h.1 with(h1|h1)|h1
   ·exact .inl (memB_in h1)
   ·exact .inr (.inl (memB_in h1))
   ·exact .inr (.inr (ble_le h1))
  ·exact kc6 h.2 hk
theorem pre_app {α:Type} {a b:List α}:pre (a++b) b=a:=by
 unfold pre
 rw[List.length_append,Nat.add_sub_cancel,List.take_left' rfl]
theorem kak {nx:Nat} {dd:List Nat}:∀{a b:List Nat},fixD nx dd a b=true->a.length=b.length/\(∀(p i j:Nat),a[p]? =some i->b[p]? =some j->(i<nx->i=j)/\(nx<=i->nx<=j∨j∈dd))
 |[],[],_=>⟨rfl,fun p i j h=>by simp at h⟩
 |[],_::_,h=>by cases h
 |_::_,[],h=>by cases h
 |x::a,y::b,h=>by
  simp only[fixD,Bool.and_eq_true]at h
  obtain⟨g1,g2⟩:=kak h.2
  refine⟨by simp[g1],fun p i j hi hj=> ?_⟩
  cases p with
  |zero=>
   simp at hi hj
   subst hi;subst hj
   have h1:=h.1
   by_cases e:x<nx
   ·rw[show Nat.blt x nx=true by simp[Nat.blt_eq,e]]at h1
    exact⟨fun _=>nb_eq h1,fun h=>by omega⟩
   ·rw[show Nat.blt x nx=false by cases hb:Nat.blt x nx with|false=>rfl|true=>exact absurd (blt_lt hb) e]at h1
    simp only[cond_false,Bool.or_eq_true]at h1
    refine⟨fun h=>absurd h e,fun _=> ?_⟩
    rcases h1 with h1|h1
    ·exact .inl (ble_le h1)
    ·exact .inr (memB_in h1)
  |succ p=>exact g2 p i j (by simpa using hi) (by simpa using hj)
theorem rho_no:∀{a b:List Nat} {i:Nat},i∉a->rho a b i=i
 |[],_,_,_=>rfl
 |_::_,[],_,_=>rfl
 |x::a,y::b,i,h=>by
  simp only[rho]
  rw[if_neg (fun e=>h (by simp[e])),rho_no (fun e=>h (by simp[e]))]
theorem sgs_get {l:List Nat} {p:Nat} (h:p<l.length):l[p]? =some (sgs l p):=by simp[sgs,h]
theorem ups_mem:∀{k n i:Nat},i∈ups k n↔k<=i/\i<k+n
 |k,0,i=>by simp[ups];try omega
 |k,n+1,i=>by simp only[ups,List.mem_cons,ups_mem];omega
theorem zip_has {t:Nat}:∀{ts:List Nat} {vs:List (TV T.den)},ts.length=vs.length->t∈ts->hasK T (zipS T ts vs) t=true
 |[],_,_,h=>by cases h
 |u::ts,[],h,_=>by cases h
 |u::ts,v::vs,h,hm=>by
  simp only[zipS,hasK,Bool.or_eq_true]
  rcases List.mem_cons.1 hm with rfl|hm
  ·exact .inl (nb_self _)
  ·exact .inr (zip_has (by simpa using h) hm)
theorem zip_no {t:Nat}:∀{ts:List Nat} {vs:List (TV T.den)},t∉ts->hasK T (zipS T ts vs) t=false
 |[],[],_=>rfl
 |[],_::_,_=>rfl
 |_::_,[],_=>rfl
 |u::ts,v::vs,hm=>by
  simp only[zipS,hasK,Bool.or_eq_false_iff]
  exact⟨nb_ne fun e=>hm (by simp[e]),zip_no fun e=>hm (by simp[e])⟩
theorem ka7:∀{a l:List Nat},disB a l=true->∀x∈a,x∉l
 |[],_,_,x,h=>by cases h
 |y::a,l,h,x,hx=>by
  simp only[disB,Bool.and_eq_true,Bool.not_eq_true']at h
  rcases List.mem_cons.1 hx with rfl|hx
  ·exact k5o h.1
  ·exact ka7 h.2 x hx
theorem hpN_hit {σ:Nat->Nat}:∀{os:List (TOb T.den)} {k p:Nat},p<os.length->Hp.get (erH T (hpN σ k os)) (σ (k+p))≠none
 |[],_,_,h=>by cases h
 |o::os,k,p,h=>by
  show Hp.get ((σ k,erO T o)::erH T (hpN σ (k+1) os)) _≠none
  simp only[Hp.get]
  split
  ·simp
  ·rename_i hne
   cases p with
   |zero=>exact(hne rfl).elim
   |succ p=>have:=hpN_hit (σ:=σ) (os:=os) (k:=k+1) (p:=p) (by simpa using h);rw[show k+1+p=k+(p+1)by omega]at this;exact this
theorem kca {h:THp T.den}:∀{dd:List Nat} {i:Nat} {o:Ob},(erH T ((dd.map fun i=>(i,TOb.dead))++h)).get i=some o->(i∈dd/\o= .dead)∨(i∉dd/\(erH T h).get i=some o)
 |[],i,o,hg=> .inr ⟨by simp,hg⟩
 |x::dd,i,o,hg=>by
  have hg:Hp.get ((x,Ob.dead)::erH T ((dd.map fun i=>(i,TOb.dead))++h)) i=some o:=hg
  simp only[Hp.get]at hg
  split at hg
  ·rename_i e
   injection hg with hg
   exact .inl ⟨by simp[e],hg.symm⟩
  ·rename_i e
   rcases kca hg with⟨h1,h2⟩|⟨h1,h2⟩
   ·exact .inl ⟨by simp[h1],h2⟩
   ·exact .inr ⟨by simp[e,h1],h2⟩
theorem k79 (hT:T.Ok) {Tk:Tk} {d:Dl} {s0 s:TSt T.den} {J:HL T.den d.hs->Prop} (hx:Xt s0 s) (hg:Gd s0) (hn:Tk.nx<=s0.nx) (h:d.mat T s0 s J):∃i,J i/\Lk Tk (erS T s) (erS T (d.fill T s0 i)):=by
 unfold Dl.mat at h
 obtain⟨h1,h2⟩:=cnd h
 simp only[Bool.and_eq_true,Dl.okB]at h1
 obtain⟨⟨⟨⟨⟨⟨⟨⟨⟨⟨⟨b1,b2⟩,b3⟩,b4⟩,b6⟩,b7⟩,a1⟩,a2⟩,a3⟩,a4⟩,a5⟩,a6⟩:=h1
 replace h2:=fcL_eq h2
 generalize d.at T s0.nx s=ids at h2
 obtain⟨h3,h4⟩:=cnd h2
 simp only[Bool.and_eq_true]at h3
 obtain⟨⟨c2,c3⟩,c4⟩:=h3
 have c1:=k19 a1
 have c2:=k19 c2
 have c3:=k18 c3
 obtain⟨c5,c6⟩:=kak c4
 have a2:=k18 a2
 have a3:=k18 a3
 have a4:=ka7 a4
 obtain⟨⟨psl,hpsl⟩,⟨ph,hph⟩,hnx⟩:=hx
 rw[hpsl,pre_app]at a5
 rw[hph,pre_app]at a6
 have hlen:(d.ids s0.nx).length=d.os.length:=by
  have ul:∀k n,(ups k n).length=n:=fun k n=>by induction n generalizing k with|zero=>rfl|succ n ih=>simp[ups,ih]
  have:=ble_le b3
  simp only[Dl.ids,Dl.n,List.length_append,ul];omega
 have hidm:∀i,i∈d.ids s0.nx↔i∈d.old∨(s0.nx<=i/\i<s0.nx+d.n):=fun i=>by simp only[Dl.ids,List.mem_append,ups_mem]
 have hlt:∀j,j<d.os.length->sgs (d.ids s0.nx) j<s0.nx+d.n:=fun j hj=>by
  have:=List.mem_of_getElem? (sgs_get (l:=d.ids s0.nx) (p:=j) (by omega))
  rcases(hidm _).1 this with h|h
  ·have:=a2 _ h;omega
  ·exact h.2
 generalize hI:d.ids s0.nx=I at *
 split at h4
 ·rename_i b hb
  obtain⟨y,g1,g2,g3⟩:=k5a hT b7 hb h4
  obtain⟨x,k1,k2,_,k4⟩:=mtT_snd d.ss _ _ y _ b6 g1
  have hf:d.f T x=tkB d.os b:=by unfold Dl.f;rw[k2,g2]
  have hrho:∀j,j<d.os.length->rho I ids (sgs I j)=sgs ids j:=fun j hj=>rho_at c1 (by omega) (by omega)
  have hid1:∀j,j<d.os.length->idf j<d.os.length:=fun j h=>h
  have hsm:∀i,i<s0.nx->rho I ids i=i:=fun i hi=>by
   by_cases hm:i∈I
   ·obtain⟨p,hp⟩:=List.getElem?_of_mem hm
    have hpl:=(List.getElem?_eq_some_iff.1 hp).1
    have e1:sgs I p=i:=by have:=sgs_get hpl;rw[hp]at this;injection this with this;exact this.symm
    have:=hrho p (by omega)
    rw[e1]at this
    rw[this]
    exact((c6 p i _ hp (sgs_get (by omega))).1 hi).symm
   ·exact rho_no hm
  refine⟨x,k1,fun G0 w0 N a G w hR=> ?_⟩
  have efill:erS T (d.fill T s0 x)=⟨(zipS T d.ts (tkT (sgs I) (tkB d.os b) d.ss _ x).1++s0.sl).map fun p=>(p.1,er T p.2),erH T (hpN (sgs I) 0 (tkC (sgs I) (tkB d.os b) 0 d.os _ y).1++(d.dd.map fun i=>(i,TOb.dead))++s0.h),s0.nx+d.n⟩:=by
   unfold Dl.fill
   rw[hI,hf,k2];rfl
  have hget:∀id ob,(erS T (d.fill T s0 x)).h.get id=some ob->(∃p o,(tkC (sgs I) (tkB d.os b) 0 d.os (hsB d.os) y).1[p]? =some o/\p<d.os.length/\id=sgs I p/\ob=erO T o)∨(id∈d.dd/\id∉I/\ob= .dead)∨(id∉I/\id∉d.dd/\(erS T s0).h.get id=some ob):=by
   intro id ob hgt
   rw[efill]at hgt
   have hgt:Hp.get (erH T (hpN (sgs I) 0 (tkC (sgs I) (tkB d.os b) 0 d.os _ y).1++(d.dd.map fun i=>(i,TOb.dead))++s0.h)) id=some ob:=hgt
   rw[List.append_assoc,erH_app,k1v]at hgt
   split at hgt
   ·rename_i o1 ho1
    injection hgt with hgt
    subst hgt
    obtain⟨p,o,q1,q2,q3⟩:=hpN_get _ _ _ _ ho1
    rw[Nat.zero_add]at q2
    exact .inl ⟨p,o,q1,by have:=(List.getElem?_eq_some_iff.1 q1).1;rw[tkC_len]at this;exact this,q2,q3⟩
   ·rename_i hnone
    have hni:id∉I:=by
     intro hm
     obtain⟨p,hp⟩:=List.getElem?_of_mem hm
     have hpl:=(List.getElem?_eq_some_iff.1 hp).1
     have:=hpN_hit (T:=T) (σ:=sgs I) (os:=(tkC (sgs I) (tkB d.os b) 0 d.os (hsB d.os) y).1) (k:=0) (p:=p) (by rw[tkC_len];omega)
     have e1:sgs I p=id:=by have:=sgs_get hpl;rw[hp]at this;injection this with this;exact this.symm
     rw[Nat.zero_add,e1]at this
     exact this hnone
    rcases kca hgt with⟨q1,q2⟩|⟨q1,q2⟩
    ·exact .inr (.inl ⟨q1,hni,q2⟩)
    ·exact .inr (.inr ⟨hni,q1,q2⟩)
  have hkeep:∀id,id<s0.nx->id∉I->id∉d.dd->(erS T s).h.get id=(erS T s0).h.get id:=by
   intro id h1 h2 h3
   show(erH T s.h).get id=(erH T s0.h).get id
   rw[hph,erH_app,k1v]
   split
   ·rename_i o ho
    rcases kc6 a6 ho with q|q|q
    ·exact(h2 ((hidm id).2 (.inl q))).elim
    ·exact(h3 q).elim
    ·omega
   ·rfl
  have hnew:∀p,p<d.os.length->s0.nx<=sgs I p->∀j,j<s0.nx->j∉d.dd->sgs ids p≠j:=by
   intro p hp h1 j hj hjd e
   rcases(c6 p _ _ (sgs_get (by omega)) (sgs_get (by omega))).2 h1 with q|q
   ·omega
   ·rw[e]at q;exact hjd q
  have hcross:∀p j,p<d.os.length->j∉I->j∉d.dd->j<s0.nx->sgs ids p≠j:=by
   intro p j hp hj1 hj2 hj3 e
   by_cases hs:sgs I p<s0.nx
   ·have:=(c6 p _ _ (sgs_get (by omega)) (sgs_get (by omega))).1 hs
    rw[e]at this
    exact hj1 (this▸List.mem_of_getElem? (sgs_get (by omega)))
   ·exact hnew p hp (by omega) j hj3 hj2 e
  have hnx' :(erS T (d.fill T s0 x)).nx=s0.nx+d.n:=rfl
  have hsnx:(erS T s).nx=s.nx:=rfl
  refine hR.leRen (σ:=rho I ids) (by rw[hnx'];omega) (fun i hi=>hsm i (by omega)) (fun i hi=> ?_) (fun i j li lj hij=> ?_) (fun id ob hgt=> ?_) ?_
  ·rw[hnx']at hi
   rw[hsnx]
   by_cases hs:i<s0.nx
   ·rw[hsm i hs];omega
   ·have hm:i∈I:=(hidm i).2 (.inr ⟨by omega,hi⟩)
    obtain⟨p,hp⟩:=List.getElem?_of_mem hm
    have hpl:=(List.getElem?_eq_some_iff.1 hp).1
    have e1:sgs I p=i:=by have:=sgs_get hpl;rw[hp]at this;injection this with this;exact this.symm
    rw[<-e1,hrho p (by omega)]
    exact c3 _ (List.mem_of_getElem? (sgs_get (by omega)))
  ·obtain⟨oi,hoi,ni⟩:=live_of li
   obtain⟨oj,hoj,nj⟩:=live_of lj
   rcases hget i oi hoi with⟨p,_,_,q1,q2,_⟩|⟨_,_,q3⟩|⟨q1,q2,q3⟩
   ·rcases hget j oj hoj with⟨q,_,_,r1,r2,_⟩|⟨_,_,r3⟩|⟨r1,r2,r3⟩
    ·rw[q2,r2,hrho p q1,hrho q r1]at hij
     have:=k7s c2 (sgs_get (show p<ids.length by omega)) (by rw[hij];exact sgs_get (show q<ids.length by omega))
     rw[q2,r2,this]
    ·exact(nj r3).elim
    ·have hj:=(hg.h j oj r3).1
     rw[q2,hrho p q1,hsm j hj]at hij
     exact(hcross p j q1 r1 r2 hj hij).elim
   ·exact(ni q3).elim
   ·have hi:=(hg.h i oi q3).1
    rcases hget j oj hoj with⟨q,_,_,r1,r2,_⟩|⟨_,_,r3⟩|⟨r1,r2,r3⟩
    ·rw[r2,hrho q r1,hsm i hi]at hij
     exact(hcross q i r1 q1 q2 hi hij.symm).elim
    ·exact(nj r3).elim
    ·have hj:=(hg.h j oj r3).1
     rw[hsm i hi,hsm j hj]at hij
     exact hij
  ·rcases hget id ob hgt with⟨p,o,q1,q2,rfl,rfl⟩|⟨q1,q2,rfl⟩|⟨q1,q2,q3⟩
   ·refine⟨hlt p q2,?_,tkC_ok (kx _ _) hlt 0 d.os _ y b2 p o q1⟩
    have hl1:p<(tkC (sgs ids) (tkB d.os b) 0 d.os (hsB d.os) y).1.length:=by rw[tkC_len];exact q2
    have hl0:p<(tkC idf (tkB d.os b) 0 d.os (hsB d.os) y).1.length:=by rw[tkC_len];exact q2
    have w1:=congrArg (fun l=>l[p]?) (tkC_ren (sgs I) (tkB d.os b) (kx d.os b) 0 d.os (hsB d.os) y)
    have w2:=congrArg (fun l=>l[p]?) (tkC_ren (sgs ids) (tkB d.os b) (kx d.os b) 0 d.os (hsB d.os) y)
    simp only[List.getElem?_map,q1,Option.map_some,List.getElem?_eq_getElem hl0,List.getElem?_eq_getElem hl1,Option.some.injEq]at w1 w2
    have w3:=tkC_ok (kx d.os b) hid1 0 d.os (hsB d.os) y b2 p _ (List.getElem?_eq_getElem hl0)
    rw[hrho p q2,w1,kbn hrho w3,<-w2]
    exact g3 p _ (List.getElem?_eq_getElem hl1)
   ·refine⟨by rw[hnx'];have:=a3 _ q1;omega,?_,trivial⟩
    show obLe _ Ob.dead
    cases (erS T s).h.get (rho I ids id)with
    |none=>trivial
    |some o=>cases o<;>trivial
   ·obtain⟨r1,r2,r3⟩:=hg.h id ob q3
    have mono:∀{m:Nat},s0.nx<=m->okO s0.nx ob->okO m ob:=fun hm ho=>khi hm ho
    refine⟨by rw[hnx'];omega,?_,mono (by rw[hnx'];omega) r2⟩
    rw[hsm id r1,renO_id hsm r2,hkeep id r1 q1 q2,q3]
    exact r3
  ·intro t
   have key:leAll ((d.ts.map (getT s.sl)).map (er T)) (((tkT (sgs I) (tkB d.os b) d.ss (hsOs d.os) x).1.map (er T)).map (ren (rho I ids))):=by
    have e1:((tkT (sgs I) (tkB d.os b) d.ss (hsOs d.os) x).1.map (er T)).map (ren (rho I ids))=(tkT (sgs ids) (tkB d.os b) d.ss (hsOs d.os) x).1.map (er T):=by
     rw[tkT_er,tkT_er]
     have:((tkT (sgs I) (tkB d.os b) d.ss (hsOs d.os) x).1.map (er0 T)).map (ren (rho I ids))=((tkT (sgs I) (tkB d.os b) d.ss (hsOs d.os) x).1.map (er0 T)).map (ren0 (rho I ids)):=by
      rw[List.map_map,List.map_map]
      exact List.map_congr_left fun v _=>ren_0 _ k1b
     rw[this,k20 (sgs I),k20 (sgs ids)]
     exact k7a hrho (tkT_ok hid1 d.ss _ x b1)
    rw[e1];exact k4
   rw[efill]
   show getS ((zipS T d.ts (tkT (sgs I) (tkB d.os b) d.ss _ x).1++s0.sl).map fun p=>(p.1,er T p.2)) t= .any∨_
   rw[getS_er]
   by_cases ht:t∈d.ts
   ·rw[kbm (zip_has (by rw[tkT_len];exact nb_eq b4) ht)]
    have:=slotsR (sl:=s.sl) (nx:=s0.nx+d.n) d.ts _ key (args_ok hlt d.ss _ x b1) t
    rw[getS_er]at this
    exact this
   ·rw[k7l (zip_no ht)]
    by_cases hk:hasK T s0.sl t=true
    ·right
     have e:getT s.sl t=getT s0.sl t:=by
      rw[hpsl]
      refine k7l ?_
      cases hp:hasK T psl t with
      |false=>rfl
      |true=>
       rcases kch a5 hp with q|q
       ·exact(ht q).elim
       ·rw[q]at hk;cases hk
     obtain⟨r1,r2⟩:=hg.sl t
     refine⟨?_,ok_mono (Nat.le_add_right _ _) r1⟩
     rw[ren_id hsm r1,show getS (erS T s).sl t=er T (getT s.sl t)from getS_er s.sl t,e]
     exact r2
    ·left
     rw[kam (by simpa using hk)];rfl
 ·exact h4.elim
theorem Xt.cons {s:TSt T.den} (a:List (Nat×TV T.den)) (b:THp T.den) (n:Nat):Xt s ⟨a++s.sl,b++s.h,s.nx+n⟩:=⟨⟨a,rfl⟩,⟨b,rfl⟩,Nat.le_add_right _ _⟩
theorem Xt.h1 {s:TSt T.den} (b:THp T.den) (n:Nat):Xt s ⟨s.sl,b++s.h,s.nx+n⟩:=⟨⟨[],rfl⟩,⟨b,rfl⟩,Nat.le_add_right _ _⟩
theorem kbx {id n z:Nat} {v:TV T.den}:∀(ts:List Nat) (sl:List (Nat×TV T.den)) {K K' :List (Nat×TV T.den)->Prop},(∀a,K (a++sl)->K' (a++sl))->rowsTo T id v n z ts sl K->rowsTo T id v n z ts sl K'
 |[],sl,K,K',hk,h=>hk [] h
 |t::ts,sl,K,K',hk,h=>by
  simp only[rowsTo]at h ⊢
  split at h
  ·obtain⟨h1,h2,h3⟩:=cnd h
   rw[h1,cond_true]
   exact⟨h2,kbx ts _ (fun a ha=>by have:=hk (a++[(t,v)]);simp only[List.append_assoc,List.singleton_append]at this;exact this ha) h3⟩
  ·exact h.elim
theorem trimV_X {h:THp T.den} {v:TV T.den} {K K' :Nat->(e:Ty)->List (e.den T.den)->Prop} (hk:∀id e l,K id e l->K' id e l) (hh:trimV T h v K):trimV T h v K' :=by
 unfold trimV at hh ⊢
 split at hh<;>try exact hh.elim
 all_goals
  split at hh
  ·obtain⟨h1,h2⟩:=cnd hh
   rw[h1,cond_true]
   first|exact⟨h2.1,hk _ _ _ h2.2⟩|exact⟨h2.1,h2.2.1,hk _ _ _ h2.2.2⟩
  ·exact hh.elim
theorem gh1_X {s:TSt T.den} {K K' :TSt T.den->Prop} (hk:∀s',Xt s s'->K s'->K' s'):∀(g:Gs),gh1 T s K g->gh1 T s K' g
 | .frz id ts,h=>by
  simp only[gh1]at h ⊢
  split at h
  ·exact kbx ts _ (fun a=>hk _ ⟨⟨a,rfl⟩,⟨[_,_],rfl⟩,Nat.le_succ _⟩) h
  ·exact h.elim
 | .frzc id i j,h=>by
  simp only[gh1]at h ⊢
  split at h
  ·split at h
   ·obtain⟨h1,h2,h3⟩:=cnd h
    rw[h1,cond_true]
    exact⟨h2,hk _ ⟨⟨[],rfl⟩,⟨[_,_,_],rfl⟩,Nat.le_succ _⟩ h3⟩
   ·exact h.elim
  ·exact h.elim
 | .tok t e,h=>by
  simp only[gh1]at h ⊢
  split at h
  ·exact hk _ ⟨⟨[_],rfl⟩,⟨[_],rfl⟩,Nat.le_succ _⟩ h
  ·exact h.elim
 | .tokc id j e,h=>by
  simp only[gh1]at h ⊢
  split at h
  ·split at h
   ·split at h
    ·exact hk _ ⟨⟨[],rfl⟩,⟨[_,_],rfl⟩,Nat.le_succ _⟩ h
    ·exact h.elim
   ·exact h.elim
  ·exact h.elim
 | .trim t,h=>by
  simp only[gh1]at h ⊢
  exact trimV_X (fun _ _ _=>hk _ ⟨⟨[_],rfl⟩,⟨[_,_],rfl⟩,Nat.le_succ _⟩) h
 | .trimc id j,h=>by
  simp only[gh1]at h ⊢
  split at h
  ·split at h
   ·refine trimV_X (fun id' e l hh=> ?_) h
    revert hh
    cases Nat.beq id' id with
    |true=>exact fun hh=>hh
    |false=>exact hk _ ⟨⟨[],rfl⟩,⟨[_,_,_],rfl⟩,Nat.le_succ _⟩
   ·exact h.elim
  ·exact h.elim
 | .rnil t e,h=>by
  simp only[gh1]at h ⊢
  obtain⟨h1,h2⟩:=cnd h
  rw[h1,cond_true]
  exact hk _ ⟨⟨[_],rfl⟩,⟨[_],rfl⟩,Nat.le_succ _⟩ h2
 | .rnilc id j e,h=>by
  simp only[gh1]at h ⊢
  split at h
  ·split at h
   ·obtain⟨h1,h2⟩:=cnd h
    rw[h1,cond_true]
    exact hk _ ⟨⟨[],rfl⟩,⟨[_,_],rfl⟩,Nat.le_succ _⟩ h2
   ·exact h.elim
  ·exact h.elim
 | .frzf id i,h=>by
  simp only[gh1]at h ⊢
  split at h
  ·obtain⟨h1,h⟩:=cnd h
   rw[h1,cond_true]
   split at h
   ·exact⟨h.1,hk _ ⟨⟨[],rfl⟩,⟨[_,_,_],rfl⟩,Nat.le_succ _⟩ h.2⟩
   ·exact h.elim
  ·exact h.elim
theorem ghs_X:∀(gs:List Gs) {s:TSt T.den} {K K' :TSt T.den->Prop},(∀s',Xt s s'->K s'->K' s')->ghs T gs s K->ghs T gs s K'
 |[],s,_,_,hk,h=>hk s (Xt.refl s) h
 |g::gs,s,_,_,hk,h=>gh1_X (fun s1 h1 h2=>ghs_X gs (fun s' h3=>hk s' (h1.trans h3)) h2) g h
theorem fill_X {d:Dl} {s:TSt T.den} {i:HL T.den d.hs}:Xt s (d.fill T s i):=⟨⟨_,rfl⟩,⟨_,rfl⟩,Nat.le_add_right _ _⟩
theorem sat_ghX (hT:T.Ok) {Tk:Tk} {G0:Gh} {w0:World} {gs:List Gs} {s:TSt T.den} {K:TSt T.den->Prop} {c:Code} {Q:Exit->St->Prop} (h:ghs T gs s K) (hk:∀s',K s'->Xt s s'->Sat P Tk G0 w0 N c (erS T s') Q):Sat P Tk G0 w0 N c (erS T s) Q:=
 sat_ghs hT (K:=fun s' =>K s'/\Xt s s') (ghs_X gs (fun _ hx hs=>⟨hs,hx⟩) h) fun s' hs=>hk s' hs.1 hs.2
def QX (s:TSt T.den) (Q:Exit->TSt T.den->Prop) (e:Exit) (t:St):Prop:=KE (fun t=>Q e t/\Xt s t) t
theorem QX.of {s s' :TSt T.den} {Q:Exit->TSt T.den->Prop} {e:Exit} {t:St} (hx:Xt s s') (h:QX s' Q e t):QX s Q e t:=let⟨u,h1,h2⟩:=h;⟨u,⟨h1.1,hx.trans h1.2⟩,h2⟩
theorem QX.mk {s t:TSt T.den} {Q:Exit->TSt T.den->Prop} {e:Exit} (hx:Xt s t) (h:Q e t):QX s Q e (erS T t):=⟨t,⟨h,hx⟩,Wk.refl _⟩
theorem kgx (hT:T.Ok) (hC:C.Ok P T) (hm:P.follows .mixedOrders=true) {Tk:Tk} {G0:Gh} {w0:World}:∀(c:Code) (an:Nt) (s:TSt T.den) (Q:Exit->TSt T.den->Prop),Tk.nx<=s.nx->WQ T C N c an s Q->Sat P Tk G0 w0 N c (erS T s) (QX s Q):=by
 intro c
 induction c with
 |skip=>intro an s Q _ h;exact kcy (QX.mk (Xt.refl s) (by simpa[WQ]using h))
 |region id ops dr=>
  intro an s Q _ h
  obtain⟨l⟩:=ops
  have h:regW T C N ⟨l⟩ dr s (Q .normal):=by simpa[WQ]using h
  cases dr with
  |false=>
   intro G a w hR
   exact wp_region_lit (k3w hT hC l (Q .normal) s s a G w (Xt.refl s) hR h fun s' a' G' w' hk hx hR' =>⟨erS T s',G',QX.mk hx hk,hR'⟩)
  |true=>
   unfold regW at h
   obtain⟨h1,h2⟩:=cnd h
   rw[Bool.and_eq_true]at h1
   refine k9w C.S hm (noIt_er h1.2) h1.1 fun K hK=> ?_
   have hx:Xt s ⟨s.sl,s.h,s.nx+l.length*C.S⟩:=⟨⟨[],rfl⟩,⟨[],rfl⟩,Nat.le_add_right _ _⟩
   exact k39 (K:=KE fun t=>Q .normal t/\Xt s t) (fun a b he ⟨t,q1,q2⟩=>hK a ⟨t,q1,he.wk.trans q2⟩) (closeOps l) _ _ _ _ _ (Eqv.refl _) (k2y hT hC (s0:=s) (closeOps l) _ _ _ _ hx h2)
 |seq x y ihx ihy=>
  intro an s Q hn h
  have plain:∀(ga gb:List Gs) (a b:Nt),(ghs T ga s fun s=>WQ T C N x a s (thenT T (fun s' =>ghs T gb s' fun s' =>WQ T C N y b s' Q) Q))->Sat P Tk G0 w0 N (.seq x y) (erS T s) (QX s Q):=by
   intro ga gb a b h1
   refine sat_ghX hT h1 fun s' hs' hx=>sat_seq (kn (ihx a s' _ (Nat.le_trans hn hx.2.2) hs') fun e s1 hq=> ?_)
   obtain⟨t,⟨q1,q2⟩,q3⟩:=hq
   cases e with
   |normal=>exact sat_lk q3.lk (sat_ghX hT q1 fun s2 hs2 hx2=>kn (ihy b s2 Q (Nat.le_trans hn ((hx.trans q2).trans hx2).2.2) hs2) fun _ _=>QX.of ((hx.trans q2).trans hx2))
   |_=>exact⟨t,⟨q1,hx.trans q2⟩,q3⟩
  cases an with
  |jn d ga a gb b=>
   have h:ghs T ga s fun s=>∀J:Ar T.den d.hs Prop,alH d.hs (fun i=>(ghs T gb (d.fill T s i) fun s' =>WQ T C N y b s' Q)->apA d.hs J i)->WQ T C N x a s (thenT T (fun s1=>d.mat T s s1 (apA d.hs J)) Q):=by simpa only[WQ]using h
   refine sat_ghX hT h fun s' hs' hx=> ?_
   have hn' :=Nat.le_trans hn hx.2.2
   intro G ac w hR
   have hg:=gd_of hR
   have h1:=hs' (cuA d.hs fun i=>Sat P Tk G0 w0 N y (erS T (d.fill T s' i)) (QX s Q)) (alH_iff.2 fun i hi=>by
    rw[ap_cu]
    exact sat_ghX hT hi fun s2 hs2 hx2=>kn (ihy b s2 Q (Nat.le_trans hn' (fill_X.trans hx2).2.2) hs2) fun _ _=>QX.of (hx.trans (fill_X.trans hx2)))
   refine sat_seq (kn (ihx a s' _ hn' h1) fun e s1 hq=> ?_) G ac w hR
   obtain⟨t,⟨q1,q2⟩,q3⟩:=hq
   cases e with
   |normal=>
    obtain⟨i,k1,k2⟩:=k79 hT q2 hg hn' q1
    rw[ap_cu]at k1
    exact sat_lk (q3.lk.trans k2) k1
   |_=>exact⟨t,⟨q1,hx.trans q2⟩,q3⟩
  |no=>simp only[WQ]at h;exact plain _ _ _ _ h
  |r n b=>simp only[WQ]at h;exact plain _ _ _ _ h
  |nd ga a gb b=>simp only[WQ]at h;exact plain _ _ _ _ h
  |lp g d a=>simp only[WQ]at h;exact plain _ _ _ _ h
  |rt g=>simp only[WQ]at h;exact plain _ _ _ _ h
 |cond c x y ihx ihy=>
  intro an s Q hn h
  simp only[WQ]at h
  split at h
  ·rename_i hv
   exact k9p (by rw[ev_er,hv];rfl) (sat_ghX hT h fun s' hs' hx=>kn (ihx _ s' Q (Nat.le_trans hn hx.2.2) hs') fun _ _=>QX.of hx)
  ·rename_i hv
   exact k9g (by rw[ev_er,hv];rfl) (sat_ghX hT h fun s' hs' hx=>kn (ihy _ s' Q (Nat.le_trans hn hx.2.2) hs') fun _ _=>QX.of hx)
  ·rename_i t hv
   exact k53 (t:=t) (by rw[ev_er,hv];rfl) (fun ht=>sat_ghX hT (h.1 ht) fun s' hs' hx=>kn (ihx _ s' Q (Nat.le_trans hn hx.2.2) hs') fun _ _=>QX.of hx) (fun ht=>sat_ghX hT (h.2 ht) fun s' hs' hx=>kn (ihy _ s' Q (Nat.le_trans hn hx.2.2) hs') fun _ _=>QX.of hx)
  ·exact h.elim
 |block id x ih=>
  intro an s Q hn h
  simp only[WQ]at h
  refine k9v (kn (ih an s _ hn h) fun e s1 hq=> ?_)
  obtain⟨t,⟨q1,q2⟩,q3⟩:=hq
  cases e with
  |exit id' =>
   simp only[blockT]at q1
   simp only[blockA]
   by_cases hi:id' =id
   ·rw[if_pos hi]
    rw[hi,nb_self]at q1
    exact⟨t,⟨q1,q2⟩,q3⟩
   ·rw[if_neg hi]
    rw[nb_ne hi]at q1
    exact⟨t,⟨q1,q2⟩,q3⟩
  |_=>exact⟨t,⟨q1,q2⟩,q3⟩
 |loop x ih=>
  intro an s Q hn h
  cases an with
  |lp g d a=>
   simp only[WQ]at h
   refine sat_ghX hT h fun s' hs' hx=> ?_
   have hn' :=Nat.le_trans hn hx.2.2
   intro G ac w hR
   have hg:=gd_of hR
   obtain⟨i,⟨inv,μ,k0,k1⟩,k2⟩:=k79 hT (Xt.refl s') hg hn' hs'
   refine ka0 (fun i=>erS T (d.fill T s' i)) (apA d.hs inv) (apA d.hs μ) i k0 k2 (fun i hi=> ?_) G ac w hR
   refine kn (ih _ _ _ (Nat.le_trans hn' fill_X.2.2) (alH_iff.1 k1 i hi)) fun e s1 hq=> ?_
   obtain⟨t,⟨q1,q2⟩,q3⟩:=hq
   cases e with
   |normal=>
    obtain⟨i',⟨m1,m2⟩,m3⟩:=k79 hT (fill_X.trans q2) hg hn' q1
    exact⟨i',m1,m2,q3.lk.trans m3⟩
   |_=>exact⟨t,⟨q1,hx.trans (fill_X.trans q2)⟩,q3⟩
  |_=>simp only[WQ]at h
 |exit id=>intro an s Q _ h;simp only[WQ]at h;exact kcm (QX.mk (Xt.refl s) h)
 |ret=>
  intro an s Q _ h
  simp only[WQ]at h
  exact sat_ghX hT h fun s' hs' hx=>sat_ret (QX.mk hx hs')
 |label l=>intro an s Q _ h;simp only[WQ]at h;exact kag (QX.mk (Xt.refl s) h)
 |_=>intro an s Q _ h;simp only[WQ]at h
theorem Con.soundQ (hT:T.Ok) (hC:C.Ok P T) (hm:P.follows .mixedOrders=true) {c:Con T.den} {fn:Func} {code:Code} (hf:P.funcs[c.f]? =some fn) (hb:fn.body=some code) (hl:Nat.ble c.ins.length fn.ntmps=true)
  {x:HL T.den (hsT c.ins (hsOs c.pre))} {o:HL T.den (hsV c.res (hsOs c.post))} {an:Nt} (hW:WQ T C fn.ntmps code an (c.st T x) (retTQ T C c fn.results.toList o)):
  SoundH P c.f ((c.args idf x).map (er T)) ((c.obs idf x).map (erO T)) (er T (c.val idf o)) ((c.ops idf o).map (erO T)):=by
 have hpl:((c.obs idf x).map (erO T)).length=c.pre.length:=by rw[List.length_map];unfold Con.obs;rw[tkC_len]
 have hal:((c.args idf x).map (er T)).length=c.ins.length:=by rw[List.length_map];unfold Con.args;rw[tkT_len]
 refine kc2 hf hb rfl (by rw[hal];exact ble_le hl) fun G0 w0=> ?_
 have e:erS T (c.st T x)=⟨initSl 0 ((c.args idf x).map (er T)),hpOf 0 ((c.obs idf x).map (erO T)),((c.obs idf x).map (erO T)).length⟩:=by
  rw[hpl]
  show St.mk _ _ _=_
  unfold Con.st
  rw[k6z,hpN_idf]
 rw[<-e]
 refine kc3 (kgx hT hC hm code an _ _ (Nat.le_of_eq hpl) hW) fun ex s1 hq=> ?_
 obtain⟨t,⟨q1,_⟩,q2⟩:=hq
 refine⟨erS T t,?_,q2.lk⟩
 cases ex with
 |normal=>have:=k4i hT hC (s:=t) q1;rw[<-hpl]at this;exact this
 |ret=>have:=k4i hT hC (s:=t) q1;rw[<-hpl]at this;exact this
 |_=>exact q1
end
end Go.Cv
namespace Go.Cv
open Go Go.Bv Go.RowKit Go.Md
structure WPh (T:Tab) (C:Cx T) (N n0:Nat) (c:Code) (an:An T) (s:TSt T.den) (Q:Exit->TSt T.den->Prop):Prop where
 h:WP T C N n0 c an s Q
structure OblH (T:Tab) (C:Cx T) (N n0:Nat) (c:Code) (an:An T) (Q:Exit->TSt T.den->Prop):Prop where
 h:Obl T C N n0 c an Q
theorem mpr_of {A B:Prop} (e:A=B) (h:B):A:=e.mpr h
section
variable {S:Nat->Type}
end
def flAll (F:Nat->Option (Nat×Bool×Nat)):Nat->List (Nat×Bool×Nat)->Prop
 |_,[]=>True
 |k,q::r=>F k=some q/\flAll F (k+1) r
theorem k9x {F:Nat->Option (Nat×Bool×Nat)}:∀{l:List (Nat×Bool×Nat)} {k:Nat},flAll F k l->∀i q,l[i]? =some q->F (k+i)=some q
 |[],_,_,i,q,h=>by simp at h
 |p::r,k,ha,i,q,h=>by
  cases i with
  |zero=>simp at h;subst h;exact ha.1
  |succ i=>rw[show k+(i+1)=k+1+i by omega];exact k9x ha.2 i q (by simpa using h)
theorem kl {P:Program} {t:TypeId} {l:List (Nat×Bool×Nat)} (h:flAll (fldOf P t) 0 l) (f:Nat) (q:Nat×Bool×Nat) (hq:l[f]? =some q):fldOf P t f=some q:=by
 have:=k9x h f q hq
 simpa using this
section
variable {T:Tab} {P:Program}
theorem all_cons {α:Type} {p:α->Prop} {a:α} {l:List α} (h:p a) (h' :∀c∈l,p c):∀c∈a::l,p c:=fun c hc=>by
 rcases List.mem_cons.1 hc with rfl|hc
 ·exact h
 ·exact h' c hc
theorem kj {P:Program} {T:Tab}:InfoOk P T .lf:=fun _ _ h=>by cases h
theorem find_nd {P:Program} {T:Tab} {l r:BT (TI T.den)} {k:Nat} {v:TI T.den} (hv:TI.Ok P T k v) (hl:InfoOk P T l) (hr:InfoOk P T r):InfoOk P T (.nd l k v r):=fun t x h=>by
 unfold BT.find at h
 cases h1:Nat.beq t k with
 |true=>rw[h1]at h;have:=nb_eq h1;subst this;injection h with h;subst h;exact hv
 |false=>
  rw[h1]at h
  cases h2:Nat.ble t k with
  |true=>rw[h2]at h;exact hl t x h
  |false=>rw[h2]at h;exact hr t x h
end
end Go.Cv
namespace Go.Cv
open Go Go.Bv Go.RowKit Go.Md
section
variable {S:Nat->Type}
def apH:(a:List Ty)->{b:List Ty}->HL S a->HL S b->HL S (a++b)
 |[],_,_,y=>y
 |_::r,_,x,y=>(x.1,apH r x.2 y)
def spA:(a:List Ty)->{b:List Ty}->HL S (a++b)->HL S a
 |[],_,_=>()
 |_::r,_,x=>(x.1,spA r x.2)
def spB:(a:List Ty)->{b:List Ty}->HL S (a++b)->HL S b
 |[],_,x=>x
 |_::r,_,x=>spB r x.2
theorem ap_sp:∀(a:List Ty) {b:List Ty} (x:HL S (a++b)),apH a (spA a x) (spB a x)=x
 |[],_,_=>rfl
 |_::r,_,x=>congrArg (fun z=>(x.1,z)) (ap_sp r x.2)
def cst {a b:List Ty} (h:a=b) (x:HL S b):HL S a:=h▸x
theorem cst_cst {a b:List Ty} (h:a=b) (x:HL S b):cst h.symm (cst h x)=x:=by subst h;rfl
def cnj:List Prop->Prop
 |[]=>True
 |[a]=>a
 |a::b::r=>a/\cnj (b::r)
def eqs:List Prop->Prop->Prop
 |[],K=>K
 |a::l,K=>cnj (a::l)->K
def alM:List Bool->(ts:List Ty)->HL S ts->(HL S ts->List Prop->Prop)->Prop
 |true::m,t::r,x,K=>∀v:t.den S,alM m r x.2 fun y l=>K (v,y) ((v=x.1)::l)
 |false::m,t::r,x,K=>alM m r x.2 fun y l=>K (x.1,y) l
 |_,_,x,K=>K x []
def alE:(ts:List Ty)->HL S ts->(HL S ts->Prop)->Prop
 |t::r,x,K=>∀v:t.den S,x.1=v->alE r x.2 fun y=>K (v,y)
 |[],x,K=>K x
theorem cnj_of:∀{l:List Prop},(∀p∈l,p)->cnj l
 |[],_=>trivial
 |[_],h=>h _ (List.mem_singleton_self _)
 |_::b::r,h=>⟨h _ (List.mem_cons_self ..),cnj_of (l:=b::r) fun p hp=>h p (List.mem_cons_of_mem _ hp)⟩
theorem alM_at:∀{m:List Bool} {ts:List Ty} {x:HL S ts} {K:HL S ts->List Prop->Prop},alM m ts x K->∃l,K x l/\∀p∈l,p
 |[],[],_,_,h=>⟨_,h,fun _ hp=>by cases hp⟩
 |[],_::_,_,_,h=>⟨_,h,fun _ hp=>by cases hp⟩
 |true::_,[],_,_,h=>⟨_,h,fun _ hp=>by cases hp⟩
 |false::_,[],_,_,h=>⟨_,h,fun _ hp=>by cases hp⟩
 |true::m,_::r,x,_,h=>by
  obtain⟨l,h1,h2⟩:=alM_at (m:=m) (ts:=r) (h x.1)
  refine⟨_,h1,fun p hp=> ?_⟩
  rcases List.mem_cons.1 hp with rfl|hp
  ·rfl
  ·exact h2 p hp
 |false::m,_::r,_,_,h=>alM_at (m:=m) (ts:=r) h
theorem eqs_at {l:List Prop} {K:Prop} (h:eqs l K) (hl:∀p∈l,p):K:=by
 cases l with
 |nil=>exact h
 |cons a l=>exact h (cnj_of hl)
theorem alE_at:∀{ts:List Ty} {x:HL S ts} {K:HL S ts->Prop},alE ts x K->K x
 |[],_,_,h=>h
 |_::r,x,_,h=>alE_at (ts:=r) (h x.1 rfl)
end
section
variable (T:Tab)
def flT:List Ty->List Ty
 |[]=>[]
 | .st n::r=>T.tys n++flT r
 | .int k::r=> .int k::flT r
 | .bool::r=> .bool::flT r
 | .str::r=> .str::flT r
 | .sl e::r=> .sl e::flT r
def flH:(ts:List Ty)->HL T.den ts->HL T.den (flT T ts)
 |[],_=>()
 | .st n::r,x=>apH (T.tys n) (T.cells n x.1) (flH r x.2)
 | .int _::r,x=>(x.1,flH r x.2)
 | .bool::r,x=>(x.1,flH r x.2)
 | .str::r,x=>(x.1,flH r x.2)
 | .sl _::r,x=>(x.1,flH r x.2)
def unH:(ts:List Ty)->HL T.den (flT T ts)->HL T.den ts
 |[],_=>()
 | .st n::r,x=>(T.pack n (spA (T.tys n) x),unH r (spB (T.tys n) x))
 | .int _::r,x=>(x.1,unH r x.2)
 | .bool::r,x=>(x.1,unH r x.2)
 | .str::r,x=>(x.1,unH r x.2)
 | .sl _::r,x=>(x.1,unH r x.2)
theorem fl_un (hT:T.Ok):∀(ts:List Ty) (x:HL T.den (flT T ts)),flH T ts (unH T ts x)=x
 |[],_=>rfl
 | .st n::r,x=>by
  show apH (T.tys n) (T.cells n (T.pack n (spA (T.tys n) x))) (flH T r (unH T r (spB (T.tys n) x)))=x
  rw[hT.pc,fl_un hT r]
  exact ap_sp _ _
 | .int _::r,x=>congrArg (fun z=>(x.1,z)) (fl_un hT r x.2)
 | .bool::r,x=>congrArg (fun z=>(x.1,z)) (fl_un hT r x.2)
 | .str::r,x=>congrArg (fun z=>(x.1,z)) (fl_un hT r x.2)
 | .sl _::r,x=>congrArg (fun z=>(x.1,z)) (fl_un hT r x.2)
end
structure Shp where
 f:Nat
 ins:List Sh0
 pre:List OSh
 res:Sh
 post:List OSh
 alt:Bool:=false
abbrev Shp.I (c:Shp):List Ty:=hsT c.ins (hsOs c.pre)
abbrev Shp.O (c:Shp):List Ty:=hsV c.res (hsOs c.post)
def Shp.c {S:Nat->Type} (c:Shp) (R:HL S c.I->(HL S c.O->Prop)->Prop):Con S:=⟨c.f,c.ins,c.pre,c.res,c.post,R,c.alt⟩
def Con.g {T:Tab} (c:Shp) (pk qk:List Ty) (m:List Bool) (sp:Ar T.den pk (Prop×HL T.den qk)) (h:flT T pk=c.I:=by kernel_rfl) (h' :flT T qk=c.O:=by kernel_rfl):Con T.den:=
 c.c fun x K=>(apA pk sp (unH T pk (cst h x))).1/\alM m qk (apA pk sp (unH T pk (cst h x))).2 fun o l=>eqs l (K (cst h'.symm (flH T qk o)))
def Con.t {T:Tab} (c:Shp) (pk qk:List Ty) (m:List Bool) (sp:Ar T.den pk (HL T.den qk)) (h:flT T pk=c.I:=by kernel_rfl) (h' :flT T qk=c.O:=by kernel_rfl):Con T.den:=
 c.c fun x K=>alM m qk (apA pk sp (unH T pk (cst h x))) fun o l=>eqs l (K (cst h'.symm (flH T qk o)))
def dS (T:Tab):Ty->Sh0
 | .st n=> .agg ((T.tys n).map .d)
 |t=> .one (.d t)
def dV (T:Tab):List Ty->Sh
 |[t]=> .one (dS T t)
 |l=> .tup (l.map (dS T))
def Shp.p (T:Tab) (f:Nat) (pk qk:List Ty):Shp:=⟨f,pk.map (dS T),[],dV T qk,[],false⟩
def NoGo (fn:Func):Bool:=decide (fn.name≠ "runtime.NumGoroutine")
structure Base (P:Program) (T:Tab) (I:BT (TI T.den)):Prop where
 tb:T.Ok
 ti:InfoOk P T I
 mix:P.follows .mixedOrders=true
def AllC (P:Program) (T:Tab) (l:List (Con T.den)):Prop:=∀c∈l,c.Ok P T
def AllX (P:Program) (T:Tab) (l:List (XCon T.den)):Prop:=∀c∈l,c.Ok P T
section
variable {P:Program} {T:Tab}
theorem c0:AllC P T []:=fun _ h=>by cases h
theorem x0:AllX P T []:=fun _ h=>by cases h
theorem Con.Ok.c {c:Con T.den} {l:List (Con T.den)} (h:c.Ok P T) (h' :AllC P T l):AllC P T (c::l):=all_cons h h'
theorem x1 {c:XCon T.den} {l:List (XCon T.den)} (h:c.Ok P T) (h' :AllX P T l):AllX P T (c::l):=all_cons h h'
theorem callable {f:Nat} {fn:Func} {code:Code} (hf:P.funcs[f]? =some fn) (hb:fn.body=some code) (hg:NoGo fn=true):Callable P f:=by
 refine⟨by rw[hf];simp[hb],?_⟩
 rw[hf]
 intro h
 simp only[Option.map_some,Option.some.injEq]at h
 exact of_decide_eq_true hg h
def obF (C:Cx T) (fn:Func) (an:Nt) (k:Con T.den) (pk qk:List Ty) (h:flT T pk=hsT k.ins (hsOs k.pre)) (h' :flT T qk=hsV k.res (hsOs k.post)) (sp:HL T.den pk->(HL T.den qk->Prop)->Prop):Prop:=match fn.body with
 | some code=>bif NoGo fn&&Nat.ble k.ins.length fn.ntmps then
   alH pk fun y=>sp y fun o=>WQ T C fn.ntmps code an (k.st T (cst h.symm (flH T pk y))) (retTQ T C k fn.results.toList (cst h'.symm (flH T qk o)))
  else False
 |none=>False
theorem obF_ok {I:BT (TI T.den)} (B:Base P T I) {cs:List (Con T.den)} {xs:List (XCon T.den)} {z:Nat} {rw:List Nat} {fn:Func} {an:Nt} {k:Con T.den} {pk qk:List Ty} {h:flT T pk=hsT k.ins (hsOs k.pre)} {h' :flT T qk=hsV k.res (hsOs k.post)} {sp:HL T.den pk->(HL T.den qk->Prop)->Prop}
  (hf:P.funcs[k.f]? =some fn) (hcs:AllC P T cs) (hxs:AllX P T xs) (q:obF ⟨I,cs,xs,z,rw⟩ fn an k pk qk h h' sp)
  (hR:∀x K,k.R x K->∀L,sp (unH T pk (cst h x)) L->∃o,K (cst h'.symm (flH T qk o))/\L o):k.Ok P T:=by
 unfold obF at q
 split at q
 ·rename_i code hb
  obtain⟨q1,q2⟩:=cnd q
  rw[Bool.and_eq_true]at q1
  refine⟨callable hf hb q1.1,fun x K hx=> ?_⟩
  obtain⟨o,h1,h2⟩:=hR x K hx _ (alH_iff.1 q2 (unH T pk (cst h x)))
  have e:cst h.symm (flH T pk (unH T pk (cst h x)))=x:=by rw[fl_un T B.tb];exact cst_cst h x
  rw[e]at h2
  exact⟨_,h1,Con.soundQ (C:=⟨I,cs,xs,z,rw⟩) B.tb ⟨B.ti,hcs,hxs⟩ B.mix hf hb q1.2 h2⟩
 ·exact q.elim
variable {I:BT (TI T.den)} {cs:List (Con T.den)} {xs:List (XCon T.den)} {rw:List Nat} {fn:Func} {an:Nt} {c:Shp} {pk qk:List Ty} {m:List Bool} {h:flT T pk=c.I} {h' :flT T qk=c.O} {Q:Prop}
theorem prx (B:Base P T I) (rw:List Nat) {sp:Ar T.den pk (Prop×HL T.den qk)} (hf:P.funcs[c.f]? =some fn) (an:Nt) (hxs:AllX P T xs) (hcs:AllC P T cs)
  (e:obF ⟨I,cs,xs,4,rw⟩ fn an (Con.g c pk qk m sp h h') pk qk h h' (fun y L=>(apA pk sp y).1->alE qk (apA pk sp y).2 L)=Q) (q:Q):(Con.g c pk qk m sp h h').Ok P T:=
 obF_ok B hf hcs hxs (e.mpr q) fun _ _ hx _ hL=>let⟨_,h1,h2⟩:=alM_at hx.2;⟨_,eqs_at h1 h2,alE_at (hL hx.1)⟩
theorem ptx (B:Base P T I) (rw:List Nat) {sp:Ar T.den pk (HL T.den qk)} (hf:P.funcs[c.f]? =some fn) (an:Nt) (hxs:AllX P T xs) (hcs:AllC P T cs)
  (e:obF ⟨I,cs,xs,4,rw⟩ fn an (Con.t c pk qk m sp h h') pk qk h h' (fun y L=>alE qk (apA pk sp y) L)=Q) (q:Q):(Con.t c pk qk m sp h h').Ok P T:=
 obF_ok B hf hcs hxs (e.mpr q) fun _ _ hx _ hL=>let⟨_,h1,h2⟩:=alM_at hx;⟨_,eqs_at h1 h2,alE_at hL⟩
theorem prv (B:Base P T I) {sp:Ar T.den pk (Prop×HL T.den qk)} (hf:P.funcs[c.f]? =some fn) (an:Nt) (hcs:AllC P T cs)
  (e:obF ⟨I,cs,[],4,[]⟩ fn an (Con.g c pk qk m sp h h') pk qk h h' (fun y L=>(apA pk sp y).1->alE qk (apA pk sp y).2 L)=Q) (q:Q):(Con.g c pk qk m sp h h').Ok P T:=prx B [] hf an x0 hcs e q
theorem ptv (B:Base P T I) {sp:Ar T.den pk (HL T.den qk)} (hf:P.funcs[c.f]? =some fn) (an:Nt) (hcs:AllC P T cs)
  (e:obF ⟨I,cs,[],4,[]⟩ fn an (Con.t c pk qk m sp h h') pk qk h h' (fun y L=>alE qk (apA pk sp y) L)=Q) (q:Q):(Con.t c pk qk m sp h h').Ok P T:=ptx B [] hf an x0 hcs e q
theorem Con.Ok.at {k:Con T.den} (hk:k.Ok P T) (x:HL T.den (hsT k.ins (hsOs k.pre))) (o:HL T.den (hsV k.res (hsOs k.post))) (hx:k.R x fun o' =>o' =o):SoundH P k.f ((k.args idf x).map (er T)) ((k.obs idf x).map (erO T)) (er T (k.val idf o)) ((k.ops idf o).map (erO T)):=by
 obtain⟨o',rfl,h⟩:=hk.snd x _ hx
 exact h
theorem hsL_d:∀(l r:List Ty),hsL (l.map .d) r=l++r
 |[],_=>rfl
 |t::l,r=>congrArg (t::·) (hsL_d l r)
theorem hs0_d (t:Ty) (r:List Ty):hs0 (dS T t) r=flT T [t]++r:=by
 cases t with
 |st n=>show hsL ((T.tys n).map .d) r=(T.tys n++[])++r;rw[hsL_d,List.append_nil]
 |_=>rfl
theorem kgb (t:Ty) (r:List Ty):flT T (t::r)=flT T [t]++flT T r:=by
 cases t with
 |st n=>show T.tys n++flT T r=(T.tys n++[])++flT T r;rw[List.append_nil]
 |_=>rfl
theorem hsT_d:∀(l:List Ty),flT T l=hsT (l.map (dS T)) []
 |[]=>rfl
 |t::l=>by
  rw[kgb,hsT_d l]
  exact(hs0_d t _).symm
theorem hsV_d:∀(l:List Ty),flT T l=hsV (dV T l) []
 |[]=>rfl
 |[t]=>by show _=hs0 (dS T t) [];rw[hs0_d,List.append_nil]
 |t::u::l=>hsT_d (t::u::l)
def Con.gp {T:Tab} (f:Nat) (pk qk:List Ty) (m:List Bool) (sp:Ar T.den pk (Prop×HL T.den qk)):Con T.den:=Con.g (.p T f pk qk) pk qk m sp (hsT_d pk) (hsV_d qk)
def Con.tp {T:Tab} (f:Nat) (pk qk:List Ty) (m:List Bool) (sp:Ar T.den pk (HL T.den qk)):Con T.den:=Con.t (.p T f pk qk) pk qk m sp (hsT_d pk) (hsV_d qk)
section
variable {f:Nat}
theorem qrx (B:Base P T I) (rw:List Nat) {sp:Ar T.den pk (Prop×HL T.den qk)} (hf:P.funcs[f]? =some fn) (an:Nt) (hxs:AllX P T xs) (hcs:AllC P T cs)
  (e:obF ⟨I,cs,xs,4,rw⟩ fn an (Con.gp f pk qk m sp) pk qk (hsT_d pk) (hsV_d qk) (fun y L=>(apA pk sp y).1->alE qk (apA pk sp y).2 L)=Q) (q:Q):(Con.gp f pk qk m sp).Ok P T:=prx (c:= .p T f pk qk) (h:=hsT_d pk) (h' :=hsV_d qk) B rw hf an hxs hcs e q
theorem qtx (B:Base P T I) (rw:List Nat) {sp:Ar T.den pk (HL T.den qk)} (hf:P.funcs[f]? =some fn) (an:Nt) (hxs:AllX P T xs) (hcs:AllC P T cs)
  (e:obF ⟨I,cs,xs,4,rw⟩ fn an (Con.tp f pk qk m sp) pk qk (hsT_d pk) (hsV_d qk) (fun y L=>alE qk (apA pk sp y) L)=Q) (q:Q):(Con.tp f pk qk m sp).Ok P T:=ptx (c:= .p T f pk qk) (h:=hsT_d pk) (h' :=hsV_d qk) B rw hf an hxs hcs e q
theorem qrv (B:Base P T I) {sp:Ar T.den pk (Prop×HL T.den qk)} (hf:P.funcs[f]? =some fn) (an:Nt) (hcs:AllC P T cs)
  (e:obF ⟨I,cs,[],4,[]⟩ fn an (Con.gp f pk qk m sp) pk qk (hsT_d pk) (hsV_d qk) (fun y L=>(apA pk sp y).1->alE qk (apA pk sp y).2 L)=Q) (q:Q):(Con.gp f pk qk m sp).Ok P T:=qrx B [] hf an x0 hcs e q
theorem qtv (B:Base P T I) {sp:Ar T.den pk (HL T.den qk)} (hf:P.funcs[f]? =some fn) (an:Nt) (hcs:AllC P T cs)
  (e:obF ⟨I,cs,[],4,[]⟩ fn an (Con.tp f pk qk m sp) pk qk (hsT_d pk) (hsV_d qk) (fun y L=>alE qk (apA pk sp y) L)=Q) (q:Q):(Con.tp f pk qk m sp).Ok P T:=qtx B [] hf an x0 hcs e q
end
def Con.b {T:Tab} (c:Shp) (pk qk:List Ty) {B:Type} (sp:Ar T.den pk (Prop×B×(B->HL T.den qk))) (h:flT T pk=c.I:=by kernel_rfl) (h' :flT T qk=c.O:=by kernel_rfl):Con T.den:=
 c.c fun x K=>(apA pk sp (unH T pk (cst h x))).1/\K (cst h'.symm (flH T qk ((apA pk sp (unH T pk (cst h x))).2.2 (apA pk sp (unH T pk (cst h x))).2.1)))
section
variable {f:Nat} {B' :Type} {sp:Ar T.den pk (Prop×B'×(B'->HL T.den qk))}
end
end
end Go.Cv
namespace Go.Proofs.Ytchoejpclejjhaa
open Go Go.Bv Go.Cv Go.Md Go.RowKit
open Go.IntKind (i64 u64)
structure wU where
 wV:Int
 wR:Int
 wP:Int
 wC:List Int
 deriving Inhabited,DecidableEq
structure wJ where
 wT:Int
 wF:List Int
 wA:List wU
 wL:Int
 wI:Int
 Fee:Int
 wN:Int
 wD:Int
 wM:Int
 wO:List Int
 deriving Inhabited,DecidableEq
structure wB where
 wH:Int
 wE:Int
 wK:Int
 wG:Int
 wD:Int
 Txs:List wJ
 deriving Inhabited,DecidableEq
structure wX where
 a0:Int
 a1:Int
 deriving Inhabited,DecidableEq
structure wQ where
 P:Int
 deriving Inhabited,DecidableEq
structure wS where
 a0:Int
 a1:Int
 a2:Int
 deriving Inhabited,DecidableEq
structure wW where
 wg:Int
 we:Int
 wa:Int
 wZ:Int
 wY:Int
 wd:Int
 wc:Int
 wb:Int
 wG:Int
 deriving Inhabited,DecidableEq
def denT:Nat->Type
 |0=>wU
 |1=>wJ
 |2=>wB
 |3=>wX
 |4=>wQ
 |5=>wS
 |6=>wW
 |_=>Unit
def tysT:Nat->List Ty
 |0=>[.int .u64,.int .u64,.int .u64,.sl (.int .u64)]
 |1=>[.int .u64,.sl (.int .u64),.sl (.st 0),.int .u64,.int .u64,.int .u64,.int .u64,.int .u64,.int .i64,.sl (.int .u8)]
 |2=>[.int .u64,.int .i64,.int .u64,.int .u64,.int .u64,.sl (.st 1)]
 |3=>[.int .u64,.int .u64]
 |4=>[.int .u64]
 |5=>[.int .u64,.int .u64,.int .u64]
 |6=>[.int .i64,.int .i64,.int .i64,.int .i64,.int .i64,.int .u64,.int .i64,.int .i64,.int .u64]
 |_=>[]
theorem TTx_eta (x:wJ):wJ.mk x.wT x.wF x.wA x.wL x.wI x.Fee x.wN x.wD x.wM x.wO=x:=rfl
def encTOut (x:wU):D:= .agg [.int .u64 x.wV,.int .u64 x.wR,.int .u64 x.wP,.slice 1 (x.wC.map (D.int .u64))]
def encTTx (x:wJ):D:= .agg [.int .u64 x.wT,.slice 1 (x.wF.map (D.int .u64)),.slice 4 (x.wA.map encTOut),.int .u64 x.wL,.int .u64 x.wI,.int .u64 x.Fee,.int .u64 x.wN,.int .u64 x.wD,.int .i64 x.wM,.slice 1 (x.wO.map (D.int .u8))]
def encTBlock (x:wB):D:= .agg [.int .u64 x.wH,.int .i64 x.wE,.int .u64 x.wK,.int .u64 x.wG,.int .u64 x.wD,.slice 10 (x.Txs.map encTTx)]
def encTA2 (x:wX):D:= .agg [.int .u64 x.a0,.int .u64 x.a1]
def encTField (x:wQ):D:= .agg [.int .u64 x.P]
def encTA3 (x:wS):D:= .agg [.int .u64 x.a0,.int .u64 x.a1,.int .u64 x.a2]
def encTRules (x:wW):D:= .agg [.int .i64 x.wg,.int .i64 x.we,.int .i64 x.wa,.int .i64 x.wZ,.int .i64 x.wY,.int .u64 x.wd,.int .i64 x.wc,.int .i64 x.wb,.int .u64 x.wG]
def TB:Tab where
 den:=denT
 tys:=tysT
 inh:=fun n=>match n with
  |0=>(default:wU)
  |1=>(default:wJ)
  |2=>(default:wB)
  |3=>(default:wX)
  |4=>(default:wQ)
  |5=>(default:wS)
  |6=>(default:wW)
  |_+7=>()
 cells:=fun n=>match n with
  |0=>fun(x:wU)=>(x.wV,x.wR,x.wP,x.wC,())
  |1=>fun(x:wJ)=>(x.wT,x.wF,x.wA,x.wL,x.wI,x.Fee,x.wN,x.wD,x.wM,x.wO,())
  |2=>fun(x:wB)=>(x.wH,x.wE,x.wK,x.wG,x.wD,x.Txs,())
  |3=>fun(x:wX)=>(x.a0,x.a1,())
  |4=>fun(x:wQ)=>(x.P,())
  |5=>fun(x:wS)=>(x.a0,x.a1,x.a2,())
  |6=>fun(x:wW)=>(x.wg,x.we,x.wa,x.wZ,x.wY,x.wd,x.wc,x.wb,x.wG,())
  |_+7=>fun _=>()
 pack:=fun n=>match n with
  |0=>fun(q0,q1,q2,q3,())=>wU.mk q0 q1 q2 q3
  |1=>fun(q0,q1,q2,q3,q4,q5,q6,q7,q8,q9,())=>wJ.mk q0 q1 q2 q3 q4 q5 q6 q7 q8 q9
  |2=>fun(q0,q1,q2,q3,q4,q5,())=>wB.mk q0 q1 q2 q3 q4 q5
  |3=>fun(q0,q1,())=>wX.mk q0 q1
  |4=>fun(q0,())=>wQ.mk q0
  |5=>fun(q0,q1,q2,())=>wS.mk q0 q1 q2
  |6=>fun(q0,q1,q2,q3,q4,q5,q6,q7,q8,())=>wW.mk q0 q1 q2 q3 q4 q5 q6 q7 q8
  |_+7=>fun _=>()
 enc:=fun n=>match n with
  |0=>encTOut
  |1=>encTTx
  |2=>encTBlock
  |3=>encTA2
  |4=>encTField
  |5=>encTA3
  |6=>encTRules
  |_+7=>fun _=> .agg []
theorem TBok:TB.Ok where
 one:=fun n=>match n with
  |0=>rfl
  |1=>rfl
  |2=>rfl
  |3=>rfl
  |4=>rfl
  |5=>rfl
  |6=>rfl
  |_+7=>rfl
 pc:=fun n x=>match n with
  |0=>rfl
  |1=>rfl
  |2=>rfl
  |3=>rfl
  |4=>rfl
  |5=>rfl
  |6=>rfl
  |_+7=>rfl
 en:=fun n x=>match n with
  |0=>rfl
  |1=>rfl
  |2=>rfl
  |3=>rfl
  |4=>rfl
  |5=>rfl
  |6=>rfl
  |_+7=>rfl
def ti3:TI TB.den:={ty:=some (false,1),ze:=some [.d (.int .i64) (0:Int)],un:=some (.int .i64)}
theorem ti3_ok:TI.Ok Try.prog TB 3 ti3:=
  ⟨(fun _ h=>(show tyOf Try.prog 3=some (false,1)by kernel_rfl).trans h),
   (kl trivial),
   (fun _ _ h=>by cases h),
   (fun h=>by cases h),
   (fun _ h=>by cases h),
   (fun _ h=>by cases h;exact⟨by kernel_rfl,kf (by kernel_rfl)⟩),
   (fun h=>(h rfl).elim),
   (fun _ h=>(show Try.prog.underlying 3=some (.int .i64)by kernel_rfl).trans h),
   (fun _ h=>by cases h),
   (fun _ _ h=>by cases h)⟩
def ti4:TI TB.den:={ty:=some (false,1),ze:=some [.d (.bool) (false:Bool)],un:=some (.bool)}
theorem ti4_ok:TI.Ok Try.prog TB 4 ti4:=
  ⟨(fun _ h=>(show tyOf Try.prog 4=some (false,1)by kernel_rfl).trans h),
   (kl trivial),
   (fun _ _ h=>by cases h),
   (fun h=>by cases h),
   (fun _ h=>by cases h),
   (fun _ h=>by cases h;exact⟨by kernel_rfl,kf (by kernel_rfl)⟩),
   (fun h=>(h rfl).elim),
   (fun _ h=>(show Try.prog.underlying 4=some (.bool)by kernel_rfl).trans h),
   (fun _ h=>by cases h),
   (fun _ _ h=>by cases h)⟩
def ti5:TI TB.den:={ty:=some (false,1),ze:=some [.d (.int .u8) (0:Int)],un:=some (.int .u8)}
theorem ti5_ok:TI.Ok Try.prog TB 5 ti5:=
  ⟨(fun _ h=>(show tyOf Try.prog 5=some (false,1)by kernel_rfl).trans h),
   (kl trivial),
   (fun _ _ h=>by cases h),
   (fun h=>by cases h),
   (fun _ h=>by cases h),
   (fun _ h=>by cases h;exact⟨by kernel_rfl,kf (by kernel_rfl)⟩),
   (fun h=>(h rfl).elim),
   (fun _ h=>(show Try.prog.underlying 5=some (.int .u8)by kernel_rfl).trans h),
   (fun _ h=>by cases h),
   (fun _ _ h=>by cases h)⟩
def ti9:TI TB.den:={ty:=some (false,1),ze:=some [.d (.str) (ByteArray.empty:ByteArray)],un:=some (.string)}
theorem ti9_ok:TI.Ok Try.prog TB 9 ti9:=
  ⟨(fun _ h=>(show tyOf Try.prog 9=some (false,1)by kernel_rfl).trans h),
   (kl trivial),
   (fun _ _ h=>by cases h),
   (fun h=>by cases h),
   (fun _ h=>by cases h),
   (fun _ h=>by cases h;exact⟨by kernel_rfl,kf (by kernel_rfl)⟩),
   (fun h=>(h rfl).elim),
   (fun _ h=>(show Try.prog.underlying 9=some (.string)by kernel_rfl).trans h),
   (fun _ h=>by cases h),
   (fun _ _ h=>by cases h)⟩
def ti22:TI TB.den:={ty:=some (false,1),ze:=some [.d (.int .u64) (0:Int)],un:=some (.int .u64)}
theorem ti22_ok:TI.Ok Try.prog TB 22 ti22:=
  ⟨(fun _ h=>(show tyOf Try.prog 22=some (false,1)by kernel_rfl).trans h),
   (kl trivial),
   (fun _ _ h=>by cases h),
   (fun h=>by cases h),
   (fun _ h=>by cases h),
   (fun _ h=>by cases h;exact⟨by kernel_rfl,kf (by kernel_rfl)⟩),
   (fun h=>(h rfl).elim),
   (fun _ h=>(show Try.prog.underlying 22=some (.int .u64)by kernel_rfl).trans h),
   (fun _ h=>by cases h),
   (fun _ _ h=>by cases h)⟩
def ti23:TI TB.den:={ty:=some (false,1),el:=some (.st 1,128),ez:=true,ze:=some [.full (.st 1) []],un:=some (.slice 45)}
theorem ti23_ok:TI.Ok Try.prog TB 23 ti23:=
  ⟨(fun _ h=>(show tyOf Try.prog 23=some (false,1)by kernel_rfl).trans h),
   (kl trivial),
   (fun _ _ h=>by cases h;exact⟨by kernel_rfl,by kernel_rfl⟩),
   (fun _ _ _ h=>by cases h;exact⟨[.d (.int .u64 0),.full 1 [],.full 4 [],.d (.int .u64 0),.d (.int .u64 0),.d (.int .u64 0),.d (.int .u64 0),.d (.int .u64 0),.d (.int .i64 0),.full 1 []],by kernel_rfl,⟨⟨kc _,rfl⟩,⟨⟨rfl,rfl⟩,rfl⟩,⟨⟨rfl,rfl⟩,rfl⟩,⟨kc _,rfl⟩,⟨kc _,rfl⟩,⟨kc _,rfl⟩,⟨kc _,rfl⟩,⟨kc _,rfl⟩,⟨kc _,rfl⟩,⟨⟨rfl,rfl⟩,rfl⟩,trivial⟩⟩),
   (fun _ h=>by cases h),
   (fun _ h=>by cases h;exact⟨by kernel_rfl,kf (by kernel_rfl)⟩),
   (fun h=>(h rfl).elim),
   (fun _ h=>(show Try.prog.underlying 23=some (.slice 45)by kernel_rfl).trans h),
   (fun _ h=>by cases h),
   (fun _ _ h=>by cases h)⟩
def ti25:TI TB.den:={ty:=some (true,6),fl:=[(0,false,1),(1,false,1),(2,false,1),(3,false,1),(4,false,1),(5,false,1)],ze:=some [.d (.int .u64) (0:Int),.d (.int .i64) (0:Int),.d (.int .u64) (0:Int),.d (.int .u64) (0:Int),.d (.int .u64) (0:Int),.full (.st 1) []],pl:=[(0,1),(1,1),(2,1),(3,1),(4,1),(5,1)]}
theorem ti25_ok:TI.Ok Try.prog TB 25 ti25:=
  ⟨(fun _ h=>(show tyOf Try.prog 25=some (true,6)by kernel_rfl).trans h),
   (kl ⟨by kernel_rfl,by kernel_rfl,by kernel_rfl,by kernel_rfl,by kernel_rfl,by kernel_rfl,trivial⟩),
   (fun _ _ h=>by cases h),
   (fun h=>by cases h),
   (fun _ h=>by cases h),
   (fun _ h=>by cases h;exact⟨by kernel_rfl,kf (by kernel_rfl)⟩),
   (fun _=>by kernel_rfl),
   (fun _ h=>by cases h),
   (fun _ h=>by cases h),
   (fun _ _ h=>by cases h)⟩
def ti36:TI TB.den:={ty:=some (true,9),fl:=[(0,false,1),(1,false,1),(2,true,3),(5,false,1),(6,false,1),(7,false,1),(8,false,1)],ze:=some [.d (.int .i64) (0:Int),.d (.int .i64) (0:Int),.d (.int .i64) (0:Int),.d (.int .i64) (0:Int),.d (.int .i64) (0:Int),.d (.int .u64) (0:Int),.d (.int .i64) (0:Int),.d (.int .i64) (0:Int),.d (.int .u64) (0:Int)],pl:=[(0,1),(1,1),(2,3),(5,1),(6,1),(7,1),(8,1)]}
theorem ti36_ok:TI.Ok Try.prog TB 36 ti36:=
  ⟨(fun _ h=>(show tyOf Try.prog 36=some (true,9)by kernel_rfl).trans h),
   (kl ⟨by kernel_rfl,by kernel_rfl,by kernel_rfl,by kernel_rfl,by kernel_rfl,by kernel_rfl,by kernel_rfl,trivial⟩),
   (fun _ _ h=>by cases h),
   (fun h=>by cases h),
   (fun _ h=>by cases h),
   (fun _ h=>by cases h;exact⟨by kernel_rfl,kf (by kernel_rfl)⟩),
   (fun _=>by kernel_rfl),
   (fun _ h=>by cases h),
   (fun _ h=>by cases h),
   (fun _ _ h=>by cases h)⟩
def ti38:TI TB.den:={ty:=some (false,1),el:=some (.int .u8,1),ez:=true,ze:=some [.full (.int .u8) []],un:=some (.slice 5)}
theorem ti38_ok:TI.Ok Try.prog TB 38 ti38:=
  ⟨(fun _ h=>(show tyOf Try.prog 38=some (false,1)by kernel_rfl).trans h),
   (kl trivial),
   (fun _ _ h=>by cases h;exact⟨by kernel_rfl,by kernel_rfl⟩),
   (fun _ _ _ h=>by cases h;exact⟨[.d (.int .u8 0)],by kernel_rfl,⟨⟨kc _,rfl⟩,trivial⟩⟩),
   (fun _ h=>by cases h),
   (fun _ h=>by cases h;exact⟨by kernel_rfl,kf (by kernel_rfl)⟩),
   (fun h=>(h rfl).elim),
   (fun _ h=>(show Try.prog.underlying 38=some (.slice 5)by kernel_rfl).trans h),
   (fun _ h=>by cases h),
   (fun _ _ h=>by cases h)⟩
def ti42:TI TB.den:={ty:=some (false,1),el:=some (.int .u64,8),ez:=true,ze:=some [.full (.int .u64) []],un:=some (.slice 22)}
theorem ti42_ok:TI.Ok Try.prog TB 42 ti42:=
  ⟨(fun _ h=>(show tyOf Try.prog 42=some (false,1)by kernel_rfl).trans h),
   (kl trivial),
   (fun _ _ h=>by cases h;exact⟨by kernel_rfl,by kernel_rfl⟩),
   (fun _ _ _ h=>by cases h;exact⟨[.d (.int .u64 0)],by kernel_rfl,⟨⟨kc _,rfl⟩,trivial⟩⟩),
   (fun _ h=>by cases h),
   (fun _ h=>by cases h;exact⟨by kernel_rfl,kf (by kernel_rfl)⟩),
   (fun h=>(h rfl).elim),
   (fun _ h=>(show Try.prog.underlying 42=some (.slice 22)by kernel_rfl).trans h),
   (fun _ h=>by cases h),
   (fun _ _ h=>by cases h)⟩
def ti43:TI TB.den:={ty:=some (false,1),el:=some (.st 0,48),ez:=true,ze:=some [.full (.st 0) []],un:=some (.slice 57)}
theorem ti43_ok:TI.Ok Try.prog TB 43 ti43:=
  ⟨(fun _ h=>(show tyOf Try.prog 43=some (false,1)by kernel_rfl).trans h),
   (kl trivial),
   (fun _ _ h=>by cases h;exact⟨by kernel_rfl,by kernel_rfl⟩),
   (fun _ _ _ h=>by cases h;exact⟨[.d (.int .u64 0),.d (.int .u64 0),.d (.int .u64 0),.full 1 []],by kernel_rfl,⟨⟨kc _,rfl⟩,⟨kc _,rfl⟩,⟨kc _,rfl⟩,⟨⟨rfl,rfl⟩,rfl⟩,trivial⟩⟩),
   (fun _ h=>by cases h),
   (fun _ h=>by cases h;exact⟨by kernel_rfl,kf (by kernel_rfl)⟩),
   (fun h=>(h rfl).elim),
   (fun _ h=>(show Try.prog.underlying 43=some (.slice 57)by kernel_rfl).trans h),
   (fun _ h=>by cases h),
   (fun _ _ h=>by cases h)⟩
def ti45:TI TB.den:={ty:=some (true,10),fl:=[(0,false,1),(1,false,1),(2,false,1),(3,false,1),(4,false,1),(5,false,1),(6,false,1),(7,false,1),(8,false,1),(9,false,1)],ze:=some [.d (.int .u64) (0:Int),.full (.int .u64) [],.full (.st 0) [],.d (.int .u64) (0:Int),.d (.int .u64) (0:Int),.d (.int .u64) (0:Int),.d (.int .u64) (0:Int),.d (.int .u64) (0:Int),.d (.int .i64) (0:Int),.full (.int .u8) []],pl:=[(0,1),(1,1),(2,1),(3,1),(4,1),(5,1),(6,1),(7,1),(8,1),(9,1)]}
theorem ti45_ok:TI.Ok Try.prog TB 45 ti45:=
  ⟨(fun _ h=>(show tyOf Try.prog 45=some (true,10)by kernel_rfl).trans h),
   (kl ⟨by kernel_rfl,by kernel_rfl,by kernel_rfl,by kernel_rfl,by kernel_rfl,by kernel_rfl,by kernel_rfl,by kernel_rfl,by kernel_rfl,by kernel_rfl,trivial⟩),
   (fun _ _ h=>by cases h),
   (fun h=>by cases h),
   (fun _ h=>by cases h),
   (fun _ h=>by cases h;exact⟨by kernel_rfl,kf (by kernel_rfl)⟩),
   (fun _=>by kernel_rfl),
   (fun _ h=>by cases h),
   (fun _ h=>by cases h),
   (fun _ _ h=>by cases h)⟩
def ti55:TI TB.den:={ty:=some (true,2),ar:=some (2,false,1),ze:=some [.d (.int .u64) (0:Int),.d (.int .u64) (0:Int)],pl:=[(0,1),(1,1)],un:=some (.array 2 22)}
theorem ti55_ok:TI.Ok Try.prog TB 55 ti55:=
  ⟨(fun _ h=>(show tyOf Try.prog 55=some (true,2)by kernel_rfl).trans h),
   (kl trivial),
   (fun _ _ h=>by cases h),
   (fun h=>by cases h),
   (fun _ h=>by cases h;exact⟨by kernel_rfl,by kernel_rfl⟩),
   (fun _ h=>by cases h;exact⟨by kernel_rfl,kf (by kernel_rfl)⟩),
   (fun _=>by kernel_rfl),
   (fun _ h=>(show Try.prog.underlying 55=some (.array 2 22)by kernel_rfl).trans h),
   (fun _ h=>by cases h),
   (fun _ _ h=>by cases h)⟩
def ti57:TI TB.den:={ty:=some (true,4),fl:=[(0,false,1),(1,true,2),(3,false,1)],ze:=some [.d (.int .u64) (0:Int),.d (.int .u64) (0:Int),.d (.int .u64) (0:Int),.full (.int .u64) []],pl:=[(0,1),(1,2),(3,1)]}
theorem ti57_ok:TI.Ok Try.prog TB 57 ti57:=
  ⟨(fun _ h=>(show tyOf Try.prog 57=some (true,4)by kernel_rfl).trans h),
   (kl ⟨by kernel_rfl,by kernel_rfl,by kernel_rfl,trivial⟩),
   (fun _ _ h=>by cases h),
   (fun h=>by cases h),
   (fun _ h=>by cases h),
   (fun _ h=>by cases h;exact⟨by kernel_rfl,kf (by kernel_rfl)⟩),
   (fun _=>by kernel_rfl),
   (fun _ h=>by cases h),
   (fun _ h=>by cases h),
   (fun _ _ h=>by cases h)⟩
def ti84:TI TB.den:={ty:=some (false,1),ze:=some [.d (.int .u64) (0:Int)],un:=some (.int .u64)}
theorem ti84_ok:TI.Ok Try.prog TB 84 ti84:=
  ⟨(fun _ h=>(show tyOf Try.prog 84=some (false,1)by kernel_rfl).trans h),
   (kl trivial),
   (fun _ _ h=>by cases h),
   (fun h=>by cases h),
   (fun _ h=>by cases h),
   (fun _ h=>by cases h;exact⟨by kernel_rfl,kf (by kernel_rfl)⟩),
   (fun h=>(h rfl).elim),
   (fun _ h=>(show Try.prog.underlying 84=some (.int .u64)by kernel_rfl).trans h),
   (fun _ h=>by cases h),
   (fun _ _ h=>by cases h)⟩
def ti86:TI TB.den:={ty:=some (true,1),fl:=[(0,false,1)],ze:=some [.d (.int .u64) (0:Int)],pl:=[(0,1)],eq:=some [.int .u64]}
theorem ti86_ok:TI.Ok Try.prog TB 86 ti86:=
  ⟨(fun _ h=>(show tyOf Try.prog 86=some (true,1)by kernel_rfl).trans h),
   (kl ⟨by kernel_rfl,trivial⟩),
   (fun _ _ h=>by cases h),
   (fun h=>by cases h),
   (fun _ h=>by cases h),
   (fun _ h=>by cases h;exact⟨by kernel_rfl,kf (by kernel_rfl)⟩),
   (fun _=>by kernel_rfl),
   (fun _ h=>by cases h),
   (fun _ h=>(show eqT Try.prog 86=some [.int .u64]by kernel_rfl).trans h),
   (fun _ _ h=>by cases h)⟩
def ti87:TI TB.den:={ty:=some (true,3),ar:=some (3,false,1),ze:=some [.d (.int .u64) (0:Int),.d (.int .u64) (0:Int),.d (.int .u64) (0:Int)],pl:=[(0,1),(1,1),(2,1)],un:=some (.array 3 22)}
theorem ti87_ok:TI.Ok Try.prog TB 87 ti87:=
  ⟨(fun _ h=>(show tyOf Try.prog 87=some (true,3)by kernel_rfl).trans h),
   (kl trivial),
   (fun _ _ h=>by cases h),
   (fun h=>by cases h),
   (fun _ h=>by cases h;exact⟨by kernel_rfl,by kernel_rfl⟩),
   (fun _ h=>by cases h;exact⟨by kernel_rfl,kf (by kernel_rfl)⟩),
   (fun _=>by kernel_rfl),
   (fun _ h=>(show Try.prog.underlying 87=some (.array 3 22)by kernel_rfl).trans h),
   (fun _ h=>by cases h),
   (fun _ _ h=>by cases h)⟩
def inf:BT (TI TB.den):=(.nd (.nd (.nd (.nd (.nd .lf 3 ti3 .lf) 4 ti4 .lf) 5 ti5 (.nd .lf 9 ti9 .lf)) 22 ti22 (.nd (.nd .lf 23 ti23 .lf) 25 ti25 (.nd .lf 36 ti36 .lf))) 38 ti38 (.nd (.nd (.nd (.nd .lf 42 ti42 .lf) 43 ti43 .lf) 45 ti45 (.nd .lf 55 ti55 .lf)) 57 ti57 (.nd (.nd .lf 84 ti84 .lf) 86 ti86 (.nd .lf 87 ti87 .lf))))
theorem inf_ok:InfoOk Try.prog TB inf:=(find_nd ti38_ok (find_nd ti22_ok (find_nd ti5_ok (find_nd ti4_ok (find_nd ti3_ok kj kj) kj) (find_nd ti9_ok kj kj)) (find_nd ti25_ok (find_nd ti23_ok kj kj) (find_nd ti36_ok kj kj))) (find_nd ti57_ok (find_nd ti45_ok (find_nd ti43_ok (find_nd ti42_ok kj kj) kj) (find_nd ti55_ok kj kj)) (find_nd ti86_ok (find_nd ti84_ok kj kj) (find_nd ti87_ok kj kj))))
theorem mix:Try.prog.follows .mixedOrders=true:=by kernel_rfl
theorem Bs:Base Try.prog TB inf:=⟨TBok,inf_ok,mix⟩
def x84:XCon TB.den:=⟨84,[.int .u64,.int .u64,.int .u64],[.int .u64,.int .u64],fun x=>(fun(a0 a1 a2:Int)=>0<=a0/\0<=a1/\0<=a2/\a2<=1) x.1 x.2.1 x.2.2.1,fun x=>((fun(a0 a1 a2:Int)=>(a0+a1+a2)%18446744073709551616) x.1 x.2.1 x.2.2.1,(fun(a0 a1 a2:Int)=>(a0+a1+a2)/18446744073709551616) x.1 x.2.1 x.2.2.1,())⟩
theorem x84_ok:x84.Ok Try.prog TB:=⟨rfl,fun x h=>kct Try.func84 (by kernel_rfl) (by kernel_rfl) (by kernel_rfl) (by kernel_rfl) x.1 x.2.1 x.2.2.1 h.1 h.2.1 h.2.2.1 h.2.2.2⟩
abbrev yqi:Ty:= .int .i64
abbrev yqu:Ty:= .int .u64
abbrev yqb:Ty:= .int .u8
abbrev zqi:Sh1:= .d yqi
abbrev zqu:Sh1:= .d yqu
abbrev zqb:Sh1:= .d yqb
abbrev zql:Sh1:= .d (.sl yqu)
end Go.Proofs.Ytchoejpclejjhaa
namespace Go.Bv
open Go.RowKit Go.Deep
def limOf (w:World) (b:Nat):Nat:=match w.heap[b]? with
 |some (.cells c _ _)=>c.size
 |_=>0
theorem kf3 {w:World} {b o:Nat} {v:Value} (h:w.cell? ⟨b,o,none⟩=some v):o<limOf w b:=by
 unfold World.cell? at h
 unfold limOf
 simp only at h
 split at h
 ·rename_i c _ _ hh
  rw[hh]
  simp only[Option.isSome_none,Bool.false_eq_true,if_false]at h
  exact(Array.getElem?_eq_some_iff.1 h).1
 ·cases h
def isAggT (P:Program) (e:TypeId):Bool:=match P.underlying e with
 |some (.struct _)=>true
 |some (.array _ _)=>true
 |_=>false
def mkD (P:Program) (e:TypeId) (cs:List D):D:=if isAggT P e then .agg cs else cs.headD (.bool false)
def tiles (P:Program) (tot:Nat):List (TypeId×Nat)->Nat->Bool
 |[],o=>o==tot
 |p::r,o=>p.2==o&&tiles P tot r (o+P.cellsOf p.1)
def fsOf (fs:Array Field):List (TypeId×Nat):=fs.toList.map fun f=>(f.type,f.offset)
def arOf (P:Program) (n:Nat) (e:TypeId):List (TypeId×Nat):=(List.range n).map fun i=>(e,i*P.cellsOf e)
def dataT (P:Program):Nat->TypeId->Bool
 |0,_=>false
 |k+1,t=>match P.underlying t with
  |some .bool=>true
  |some (.int _)=>true
  |some .string=>true
  |some (.slice e)=>decide (0<P.cellsOf e)&&dataT P k e
  |some (.struct fs)=>tiles P (P.cellsOf t) (fsOf fs) 0&&(fsOf fs).all fun p=>dataT P k p.1
  |some (.array n e)=>tiles P (P.cellsOf t) (arOf P n e) 0&&dataT P k e
  |_=>false
def RelFs {H:Type} (R:TypeId->List D->DataW H->Prop):List (TypeId×Nat)->List D->List (DataW H)->Prop
 |[],ds,ps=>ds=[]/\ps=[]
 |t::ts,ds,ps=>∃d1 d2 p qs,R t.1 d1 p/\RelFs R ts d2 qs/\ds=d1++d2/\ps=p::qs
def Rel {H:Type} (P:Program):Nat->TypeId->List D->DataW H->Prop
 |0,_,_,_=>False
 |k+1,t,ds,d=>match P.underlying t with
  |some .bool=>∃b,ds=[.bool b]/\d= .lit (.bool b)
  |some (.int q)=>∃i,ds=[.int q i]/\d= .lit (.int q i)/\(Lit.int q i).wf=true
  |some .string=>∃s:ByteArray,ds=[.str s]/\d= .lit (.string s.data.toList)
  | some (.slice e)=>∃l:List (List D),ds=[.slice (P.cellsOf e) (l.map (mkD P e))]/\l.length<=maxLen/\
    ((l=[]/\d= .nil)∨∃elems spare,d= .slice elems spare/\l.length=elems.length/\∀(j:Nat) (x:List D) (y:DataW H),l[j]? =some x->elems[j]? =some y->Rel P k e x y)
  |some (.struct fs)=>∃ps,d= .agg ps/\RelFs (Rel P k) (fsOf fs) ds ps
  |some (.array n e)=>∃ps,d= .agg ps/\RelFs (Rel P k) (arOf P n e) ds ps
  |_=>False
def Holds (w:World) (cs:List Value) (ds:List D):Prop:=ds.length=cs.length/\∀(j:Nat) (v:Value) (c:D),cs[j]? =some v->ds[j]? =some c->RepD (limOf w) w v c
theorem Holds.append {w:World} {a b:List Value} {x y:List D} (h1:Holds w a x) (h2:Holds w b y):Holds w (a++b) (x++y):=by
 refine⟨by simp[h1.1,h2.1],fun j v c hv hc=> ?_⟩
 by_cases hj:j<a.length
 ·rw[List.getElem?_append_left hj]at hv
  rw[List.getElem?_append_left (by rw[h1.1];exact hj)]at hc
  exact h1.2 j v c hv hc
 ·rw[List.getElem?_append_right (by omega)]at hv
  rw[List.getElem?_append_right (by rw[h1.1];omega),h1.1]at hc
  exact h2.2 _ v c hv hc
theorem Holds.one {w:World} {v:Value} {d:D} (h:RepD (limOf w) w v d):Holds w [v] [d]:=by
 refine⟨rfl,fun j u c hu hc=> ?_⟩
 cases j with
 |zero=>simp at hu hc;subst hu;subst hc;exact h
 |succ j=>simp at hu
section
variable {H:Type} {P:Program} {w:World} {cs:List Value}
theorem k5w {tot:Nat} (htot:cs.length=tot) (ok:Value->Prop) (hok:∀v∈cs,ok v) (R:TypeId->List D->DataW H->Prop) (g:TypeId->List Value->Option (DataW H×List MemPlace)):
  ∀(L:List (TypeId×Nat)) (o:Nat) (xs:List (DataW H×List MemPlace)),tiles P tot L o=true->xs.length=L.length->
   (∀p∈L,∀cs' y,(∀v∈cs',ok v)->g p.1 cs' =some y->∃ds,Holds w cs' ds/\R p.1 ds y.1)->
   (∀(i:Nat) (p:TypeId×Nat),L[i]? =some p->g p.1 ((cs.drop p.2).take (P.cellsOf p.1))=xs[i]?)->
   ∃ds,Holds w (cs.drop o) ds/\RelFs R L ds (xs.map (·.1))
 |[],o,xs,ht,hl,_,_=>by
  simp[tiles]at ht
  have:xs=[]:=by simpa using hl
  subst this
  refine⟨[],⟨?_,?_⟩,rfl,rfl⟩
  ·simp;omega
  ·intro j v c _ hc;simp at hc
 |p::L,o,xs,ht,hl,hg,hx=>by
  simp[tiles]at ht
  obtain⟨h0,ht⟩:=ht
  cases xs with
  |nil=>simp at hl
  |cons y ys=>
   have h1:=hx 0 p rfl
   simp only[List.getElem?_cons_zero]at h1
   obtain⟨d1,hd1,hr1⟩:=hg p (by simp) _ y (fun v hv=>hok v (List.mem_of_mem_drop (List.mem_of_mem_take hv))) h1
   obtain⟨d2,hd2,hr2⟩:=k5w htot ok hok R g L (o+P.cellsOf p.1) ys ht (by simpa using hl) (fun q hq=>hg q (by simp[hq])) (fun i q hq=>by simpa using hx (i+1) q (by simpa using hq))
   refine⟨d1++d2,?_,d1,d2,y.1,_,hr1,hr2,rfl,rfl⟩
   have:=hd1.append hd2
   rw[h0,<-List.drop_drop,List.take_append_drop]at this
   exact this
end
section
variable {H:Type} {enc:TypeId×Value->H} {P:Program} {w:World}
theorem rel_mk {k:Nat} {e:TypeId} {x:List D} {d:DataW H} (hr:Rel P k e x d) (h1:∀c∈x,c.one=true):(mkD P e x).cells=x:=by
 cases k with
 |zero=>exact hr.elim
 |succ k=>
  unfold mkD
  split
  ·rfl
  ·rename_i ha
   unfold Rel at hr
   split at hr
   ·obtain⟨b,rfl,_⟩:=hr;rfl
   ·obtain⟨b,rfl,_⟩:=hr;rfl
   ·obtain⟨b,rfl,_⟩:=hr;rfl
   ·obtain⟨b,rfl,_⟩:=hr;rfl
   ·rename_i h;exact absurd (by simp[isAggT,h]) ha
   ·rename_i h;exact absurd (by simp[isAggT,h]) ha
   ·exact hr.elim
theorem k3d:∀(k:Nat) (t:TypeId),dataT P k t=true->∀(n:Nat) (cs:List Value) (y:DataW H×List MemPlace),
  DataW.trod enc P w 0 (fun _=>true) true n t cs=some y->∃ds,Holds w cs ds/\Rel P k t ds y.1
 |0,_,h=>by cases h
 |k+1,t,hT=>by
  intro n cs y h
  unfold dataT at hT
  split at hT
  ·rename_i hu
   obtain⟨b,rfl,rfl⟩:=DataW.trod_bool hu h
   exact⟨[.bool b],Holds.one (.bool b),by simp[Rel,hu]⟩
  ·rename_i q hu
   obtain⟨i,rfl,rfl,hw⟩:=DataW.trod_int hu h
   exact⟨[.int q i],Holds.one (.int q i),by simp[Rel,hu,hw]⟩
  ·rename_i hu
   obtain⟨s,rfl,rfl,hs⟩:=DataW.trod_string hu h
   exact⟨[.str s],Holds.one (.str s),by simp only[Rel,hu];exact⟨s,rfl,rfl⟩⟩
  ·rename_i e hu
   simp only[Bool.and_eq_true,decide_eq_true_eq]at hT
   obtain⟨hpos,hT⟩:=hT
   rcases open_slice hu h with⟨rfl,rfl⟩|⟨a,len,cap,m,n',Dd,Pl,rfl,_,hlc,hcm,hm,rfl,hel⟩
   ·exact⟨[.slice (P.cellsOf e) []],Holds.one (.nil none _),by simp only[Rel,hu];exact⟨[],rfl,Nat.zero_le _,.inl ⟨by trivial,by trivial⟩⟩⟩
   ·simp only[if_true]at hm
    subst hm
    by_cases hm0:m=0
    ·subst hm0
     have hl0:len=0:=by omega
     subst hl0
     refine⟨[.slice (P.cellsOf e) []],Holds.one (.nil (some a) _),?_⟩
     simp only[Rel,hu]
     exact⟨[],rfl,Nat.zero_le _,.inr ⟨_,_,rfl,by simp,by intro j x y hx;simp at hx⟩⟩
    have hel' :∀i,i<len->∃x:List D,∃cs',w.cells? 0 (a.add (i*P.cellsOf e)) (P.cellsOf e)=some cs'/\Holds w cs' x/\Rel P k e x (Dd i):=by
     intro i hi
     obtain⟨cs',h1,h2⟩:=hel i (by omega)
     obtain⟨ds,h3,h4⟩:=k3d k e hT n' cs' _ h2
     exact⟨ds,cs',h1,h3,h4⟩
    obtain⟨f,hf⟩:=choose_lt hel'
    have hspot:a.spot=none:=by
     obtain⟨cs',h1,h2⟩:=hel 0 (by omega)
     have h3:=(World.cells?_some h1).2.2 0 (by omega)
     have h4:=(World.cells?_some h1).2.1
     rw[List.getElem?_eq_getElem (by omega)]at h3
     unfold World.cell? at h3
     split at h3
     ·split at h3
      ·cases h3
      ·rename_i hs;simpa[Addr.add]using hs
     ·cases h3
    obtain⟨b,off,sp⟩:=a
    simp only at hspot
    subst hspot
    have hone:∀i,i<len->∀c∈f i,c.one=true:=by
     intro i hi c hc
     obtain⟨cs',h1,h2,h3⟩:=hf i hi
     obtain⟨j,hj⟩:=List.getElem?_of_mem hc
     have hjl:j<cs'.length:=by rw[<-h2.1];exact(List.getElem?_eq_some_iff.1 hj).1
     exact(h2.2 j _ c (List.getElem?_eq_getElem hjl) hj).done
    have hmk:∀i,i<len->(mkD P e (f i)).cells=f i:=fun i hi=>by
     obtain⟨cs',h1,h2,h3⟩:=hf i hi
     exact rel_mk h3 (hone i hi)
    have hsz:∀d∈((List.range len).map f).map (mkD P e),d.cells.length=P.cellsOf e/\∀c∈d.cells,c.one=true:=by
     intro d hd
     simp only[List.map_map,List.mem_map,List.mem_range,Function.comp]at hd
     obtain⟨i,hi,rfl⟩:=hd
     obtain⟨cs',h1,h2,h3⟩:=hf i hi
     rw[hmk i hi]
     exact⟨by rw[h2.1];exact(World.cells?_some h1).2.1,hone i hi⟩
    have hget:∀i,i<len->(((List.range len).map f).map (mkD P e))[i]? =some (mkD P e (f i)):=by
     intro i hi
     simp[List.getElem?_map,List.getElem?_range hi]
    have hfl:=kg hsz
    simp only[List.length_map,List.length_range]at hfl
    have hat:∀(j:Nat) (u:Value),((List.range (len*P.cellsOf e)).map fun j=>(w.cell? ⟨b,off+j,none⟩).getD undef)[j]? =some u->j<len*P.cellsOf e/\w.cell? ⟨b,off+j,none⟩=some u:=by
     intro j u hu
     have hj:j<len*P.cellsOf e:=by simpa using(List.getElem?_eq_some_iff.1 hu).1
     refine⟨hj,?_⟩
     simp only[List.getElem?_map,List.getElem?_range hj,Option.map_some,Option.some.injEq]at hu
     have hi:j/P.cellsOf e<len:=by rw[Nat.div_lt_iff_lt_mul hpos];exact hj
     have hr:j%P.cellsOf e<P.cellsOf e:=Nat.mod_lt _ hpos
     obtain⟨cs',h1,h2,h3⟩:=hf _ hi
     have e1:j/P.cellsOf e*P.cellsOf e+j%P.cellsOf e=j:=by rw[Nat.mul_comm];exact Nat.div_add_mod j _
     have h4:=(World.cells?_some h1).2.2 _ hr
     have h5:=(World.cells?_some h1).2.1
     have e2:(Addr.add ⟨b,off,none⟩ (j/P.cellsOf e*P.cellsOf e)).add (j%P.cellsOf e)=⟨b,off+j,none⟩:=by
      rw[add_add,e1]
      simp[Addr.add]
     rw[e2,List.getElem?_eq_getElem (by omega)]at h4
     rw[h4]at hu ⊢
     simpa using hu
    refine⟨[.slice (P.cellsOf e) (((List.range len).map f).map (mkD P e))],Holds.one ?_,?_⟩
    ·have:=RepD.slice (m:=limOf w) (w:=w) b off m (P.cellsOf e) (((List.range len).map f).map (mkD P e)) ((List.range (len*P.cellsOf e)).map fun j=>(w.cell? ⟨b,off+j,none⟩).getD undef) (by simpa using hlc) hcm hsz (by rw[hfl];simp) ?_ ?_
     ·simpa using this
     ·intro j u hu
      obtain⟨hj,hcell⟩:=hat j u hu
      exact⟨kf3 hcell,hcell⟩
     ·intro j u c hu hc
      obtain⟨hj,hcell⟩:=hat j u hu
      have hi:j/P.cellsOf e<len:=by rw[Nat.div_lt_iff_lt_mul hpos];exact hj
      have hr:j%P.cellsOf e<P.cellsOf e:=Nat.mod_lt _ hpos
      obtain⟨cs',h1,h2,h3⟩:=hf _ hi
      have e1:j/P.cellsOf e*P.cellsOf e+j%P.cellsOf e=j:=by rw[Nat.mul_comm];exact Nat.div_add_mod j _
      rw[<-e1,k4s hsz (hget _ hi) _ hr,hmk _ hi]at hc
      refine h2.2 _ u c ?_ hc
      rw[<-(World.cells?_some h1).2.2 _ hr,<-hcell]
      congr 1
      rw[add_add,e1]
      simp[Addr.add]
    ·simp only[Rel,hu]
     refine⟨(List.range len).map f,rfl,by simp;omega,.inr ⟨_,_,rfl,by simp,?_⟩⟩
     intro j x y hx hy
     have hj:j<len:=by simpa using(List.getElem?_eq_some_iff.1 hx).1
     simp only[List.getElem?_map,List.getElem?_range hj,Option.map_some,Option.some.injEq]at hx hy
     subst hx;subst hy
     obtain⟨_,_,_,h3⟩:=hf j hj
     exact h3
  ·rename_i fs hu
   simp only[Bool.and_eq_true]at hT
   obtain⟨xs,n',rfl,rfl,hl,hxl,hx⟩:=DataW.trod_struct hu h
   obtain⟨ds,h1,h2⟩:=k5w (P:=P) hl (fun _=>True) (fun _ _=>trivial) (Rel P k) (fun t c=>DataW.trod enc P w 0 (fun _=>true) true n' t c) (fsOf fs) 0 xs hT.1 (by simp[fsOf,hxl])
    (fun p hp cs' y _ hy=>k3d k p.1 (List.all_eq_true.1 hT.2 p hp) n' cs' y hy)
    (fun i p hp=>by
     simp only[fsOf,List.getElem?_map,Option.map_eq_some_iff]at hp
     obtain⟨f,hf,rfl⟩:=hp
     exact hx i f (by simpa using hf))
   exact⟨ds,by simpa using h1,by simp only[Rel,hu];exact⟨_,rfl,h2⟩⟩
  ·rename_i m e hu
   simp only[Bool.and_eq_true]at hT
   obtain⟨xs,n',rfl,rfl,hl,hxl,hx⟩:=DataW.trod_array hu h
   obtain⟨ds,h1,h2⟩:=k5w (P:=P) hl (fun _=>True) (fun _ _=>trivial) (Rel P k) (fun t c=>DataW.trod enc P w 0 (fun _=>true) true n' t c) (arOf P m e) 0 xs hT.1 (by simp[arOf,hxl])
    (fun p hp cs' y _ hy=>by
     simp only[arOf,List.mem_map]at hp
     obtain⟨i,_,rfl⟩:=hp
     exact k3d k e hT.2 n' cs' y hy)
    (fun i p hp=>by
     simp only[arOf,List.getElem?_map,Option.map_eq_some_iff]at hp
     obtain⟨f,hf,rfl⟩:=hp
     obtain⟨hi,rfl⟩:=List.getElem?_eq_some_iff.1 hf
     have hi' :i<m:=by simpa using hi
     simpa using hx i hi')
   exact⟨ds,by simpa using h1,by simp only[Rel,hu];exact⟨_,rfl,h2⟩⟩
  ·cases hT
end
end Go.Bv
namespace Go.Bv
open Go.RowKit Go.ChangeShapes Go.WideShapes
def G0 (W:World):Gh:=⟨fun _=>none,fun _=>none,limOf W⟩
def vOf (P:Program) (t:TypeId) (ds:List D):V:=if isAggT P t then .agg (ds.map V.d)else .d (ds.headD (.bool false))
section
variable {H:Type} {enc:TypeId×Value->H} {P:Program} {W:World}
theorem arg_rep {k:Nat} {r:Reach} {base:Nat} {t:TypeId} {v:Value} {d:DataW H} {ps:List MemPlace} {h:Hp} {nx:Nat} (hT:dataT P k t=true) (hval:Value.okWide P W r base t v)
  (hd:DataW.Trod enc P W 0 (fun _=>true) true t v d ps):∃ds,Rel P k t ds d/\RepV (G0 W) W h nx v (vOf P t ds):=by
 obtain⟨n,hn⟩:=hd
 by_cases ha:isAggT P t=true
 ·have hval' :∃cs,v= .agg cs/\cs.size=P.cellsOf t/\Row.okWide P W r base t cs:=by
   unfold isAggT at ha
   unfold Value.okWide at hval
   split at ha
   ·rename_i h1;rw[h1]at hval;exact hval
   ·rename_i h1;rw[h1]at hval;exact hval
   ·cases ha
  obtain⟨cs,rfl,_,ts,_,_,hc⟩:=hval'
  obtain⟨ds,h1,h2⟩:=k3d k t hT n cs.toList _ hn
  refine⟨ds,h2,?_⟩
  unfold vOf
  rw[if_pos ha]
  have:=RepV.agg (G:=G0 W) (w:=W) (h:=h) (nx:=nx) cs.toList (ds.map V.d) (by simpa using h1.1.symm) ?_ ?_
  ·simpa using this
  ·intro x hx
   obtain⟨c,hcm,rfl⟩:=List.mem_map.1 hx
   obtain⟨j,hj⟩:=List.getElem?_of_mem hcm
   have hjl:j<cs.toList.length:=by have:=h1.1;have:=(List.getElem?_eq_some_iff.1 hj).1;simp[Value.cells]at *;omega
   exact(h1.2 j _ c (List.getElem?_eq_getElem hjl) hj).done
  ·intro j u x hu hx
   rw[List.getElem?_map,Option.map_eq_some_iff]at hx
   obtain⟨c,hcj,rfl⟩:=hx
   exact .d _ _ (h1.2 j u c hu hcj)
 ·have hval' :Cell.okWide P W r base t v:=by
   unfold Value.okWide at hval
   split at hval
   ·rename_i h1;exact absurd (by simp[isAggT,h1]) ha
   ·rename_i h1;exact absurd (by simp[isAggT,h1]) ha
   ·exact hval
  have hcs:v.cells.toList=[v]:=by
   cases v with
   |agg cs=>
    exfalso
    unfold Cell.okWide Cell.ok at hval'
    split at hval'
    all_goals first|(split at hval';all_goals simp_all)|simp_all
   |_=>rfl
  rw[hcs]at hn
  obtain⟨ds,h1,h2⟩:=k3d k t hT n _ _ hn
  refine⟨ds,h2,?_⟩
  unfold vOf
  rw[if_neg ha]
  have hl:=h1.1
  match ds,hl with
  |[c],_=>exact .d _ _ (h1.2 0 v c rfl rfl)
theorem law_of {f:FuncId} {xs:List V} {r:V} (hS:SoundH P f xs [] r []) {vs:List Value} (hlen:vs.length=xs.length)
  (hrep:∀(j:Nat) (v:Value) (x:V),vs[j]? =some v->xs[j]? =some x->RepV (G0 W) W [] 0 v x):
  Calls P f vs.toArray W fun e W' =>(∃v G',e= .returned v/\RepV G' W' [] 0 v r)/\Below W.heap.size W W' :=by
 refine(hS (G0 W) W vs hlen hrep ?_).mono fun e W' hh=> ?_
 ·refine⟨?_,?_,?_,?_,?_,?_⟩
  ·intro id l h;simp[hpOf,Hp.get]at h
  ·intro id es h;simp[hpOf,Hp.get]at h
  ·intro id b h;simp at h
  ·intro i j b h;simp at h
  ·intro id ob h;simp[hpOf,Hp.get]at h
  ·intro b hb
   show limOf W b=0
   unfold limOf
   rw[Array.getElem?_eq_none hb]
 ·obtain⟨v,G',rfl,h1,h2,h3,h4⟩:=hh
  refine⟨⟨v,G',rfl,h1⟩,h3.os,h3.tape,h3.output,h3.size,fun b hb=>(h3.same b hb ?_).1⟩
  rintro ⟨i,hi,_⟩
  simp at hi
def typesOk (P:Program) (ts:List TypeId):Bool:=ts.all fun t=>P.readableRec t&&decide (t<P.types.size)
theorem k5e (hl:laidOutB P=true) {W' :World} (hb:Below W.heap.size W W'):∀{ts:List TypeId} {vs:List Value} {ds:List (DataW H)} {ps:List MemPlace},typesOk P ts=true->
  DataW.TrodAll enc P W 0 (fun _=>true) true ts vs ds ps->(∀x∈ps,x.block<W.heap.size)->DataW.TrodAll enc P W' 0 (fun b=>decide (b<W.heap.size)) true ts vs ds ps
 |[],[],[],_,_,h,_=>h
 |[],[],_::_,_,_,h,_=>h.elim
 |[],_::_,_,_,_,h,_=>h.elim
 |_::_,[],_,_,_,h,_=>h.elim
 |_::_,_::_,[],_,_,h,_=>h.elim
 |t::ts,v::vs,d::ds,ps,ht,h,hp=>by
  simp only[typesOk,List.all_cons,Bool.and_eq_true,decide_eq_true_eq]at ht
  obtain⟨p,q,h1,h2,rfl⟩:=h
  exact⟨p,q,Below.trod hl ht.1.1 ht.1.2 h1 hb (fun x hx=>hp x (by simp[hx])),k5e hl hb (by simpa[typesOk]using ht.2) h2 (fun x hx=>hp x (by simp[hx])),rfl⟩
theorem rel_int {k:Nat} {t:TypeId} {q:IntKind} {ds:List D} {d:DataW H} (hu:P.underlying t=some (.int q)) (h:Rel P (k+1) t ds d):∃i,ds=[.int q i]/\d= .lit (.int q i)/\(Lit.int q i).wf=true:=by unfold Rel at h;rw[hu]at h;exact h
theorem kem {k:Nat} {t:TypeId} {fs:Array Field} {ds:List D} {d:DataW H} (hu:P.underlying t=some (.struct fs)) (h:Rel P (k+1) t ds d):∃ps,d= .agg ps/\RelFs (Rel P k) (fsOf fs) ds ps:=by unfold Rel at h;rw[hu]at h;exact h
theorem kg0 {k:Nat} {t e:TypeId} {n:Nat} {ds:List D} {d:DataW H} (hu:P.underlying t=some (.array n e)) (h:Rel P (k+1) t ds d):∃ps,d= .agg ps/\RelFs (Rel P k) (arOf P n e) ds ps:=by unfold Rel at h;rw[hu]at h;exact h
theorem kg3 {k:Nat} {t e:TypeId} {ds:List D} {d:DataW H} {α:Type} [Inhabited α] (f:α->D) (p:α->Prop) (hu:P.underlying t=some (.slice e)) (h:Rel P (k+1) t ds d)
  (tp:∀(x:List D) (y:DataW H),Rel P k e x y->∃a,mkD P e x=f a/\p a):
  ∃l:List α,ds=[.slice (P.cellsOf e) (l.map f)]/\l.length<=maxLen/\(∀a∈l,p a)/\((l=[]/\d= .nil)∨∃elems spare,d= .slice elems spare/\l.length=elems.length):=by
 unfold Rel at h
 rw[hu]at h
 obtain⟨l,rfl,hmx,h⟩:=h
 rcases h with⟨rfl,rfl⟩|⟨elems,spare,rfl,hlen,hh⟩
 ·exact⟨[],rfl,Nat.zero_le _,by simp,.inl ⟨rfl,rfl⟩⟩
 ·have:∀i,i<l.length->∃a,mkD P e (l.getD i [])=f a/\p a:=by
   intro i hi
   refine tp _ _ (hh i _ _ ?_ (List.getElem?_eq_getElem (by omega)))
   simp[List.getElem?_eq_getElem hi]
  obtain⟨g,hg⟩:=Deep.choose_lt this
  refine⟨(List.range l.length).map g,?_,by simpa using hmx,?_,.inr ⟨elems,spare,rfl,by simpa using hlen⟩⟩
  ·have:l.map (mkD P e)=((List.range l.length).map g).map f:=by
    rw[Deep.map_by_index l [] (mkD P e),List.map_map]
    refine List.map_congr_left fun i hi=> ?_
    exact(hg i (by simpa using hi)).1
   rw[this]
  ·intro a ha
   obtain⟨i,hi,rfl⟩:=List.mem_map.1 ha
   exact(hg i (by simpa using hi)).2
theorem khg {fn:Func} {s:ChangeSpec} {W' :World} {args:Array Value} {ds:List (DataW H)} {before:List MemPlace} {tb:TypeId} (hv:s.vars=[]) (hW:DataW.Whole enc P fn.params.toList s.vars false W args.toList ds [] before)
  (hl:laidOutB P=true) (hty:typesOk P fn.params.toList=true) (hr:fn.resultTypes= #[tb]) (hub:P.underlying tb=some .bool)
  (h1:(s.fn H (ds++[])).results=[.lit (.bool true)]) (h2:(s.fn H (ds++[])).args=ds) (h3:(s.fn H (ds++[])).vars=[]) (hb:Below W.heap.size W W'):
  s.post enc P fn false true false false W args (.bool true) W' :=by
 have hW' :=hW
 obtain⟨p,q,hA,hV,rfl,_,_⟩:=hW
 have hq:q=[]:=by rw[hv]at hV;exact hV
 subst hq
 refine⟨ds,[],p++[],[],p,[],hW',?_,?_,?_,hb.frame _,fun h=>by cases h⟩
 ·rw[h1,hr]
  exact trodAll_cons_mk (shut_bool hub _) trodAll_mk0
 ·rw[h2]
  exact k5e hl hb hty hA (fun x hx=>by simpa using hW'.lt x (by simpa using hx))
 ·rw[hv,h3]
  rfl
end
structure RelH {H:Type} (P:Program) (k:Nat) (t:TypeId) (ds:List D) (d:DataW H):Prop where
 h:Rel P k t ds d
section
variable {H:Type} {enc:TypeId×Value->H} {P:Program} {W:World} {k:Nat}
theorem relFs_h:∀{L:List (TypeId×Nat)} {ds:List D} {ps:List (DataW H)},RelFs (Rel P k) L ds ps->RelFs (RelH P k) L ds ps
 |[],_,_,h=>h
 |_::_,_,_,⟨d1,d2,p,qs,h1,h2,e1,e2⟩=>⟨d1,d2,p,qs,⟨h1⟩,relFs_h h2,e1,e2⟩
theorem k78 {t:TypeId} {q:IntKind} {ds:List D} {d:DataW H} (hu:P.underlying t=some (.int q)) (h:RelH P (k+1) t ds d):∃i,ds=[.int q i]/\d= .lit (.int q i)/\(Lit.int q i).wf=true:=rel_int hu h.h
theorem k44 {t:TypeId} {fs:Array Field} {ds:List D} {d:DataW H} {L:List (TypeId×Nat)} (hu:P.underlying t=some (.struct fs)) (hf:fsOf fs=L) (h:RelH P (k+1) t ds d):∃ps,d= .agg ps/\RelFs (RelH P k) L ds ps:=by
 obtain⟨ps,h1,h2⟩:=kem hu h.h
 rw[hf]at h2
 exact⟨ps,h1,relFs_h h2⟩
theorem ke8 {t e:TypeId} {n:Nat} {ds:List D} {d:DataW H} {L:List (TypeId×Nat)} (hu:P.underlying t=some (.array n e)) (hf:arOf P n e=L) (h:RelH P (k+1) t ds d):∃ps,d= .agg ps/\RelFs (RelH P k) L ds ps:=by
 obtain⟨ps,h1,h2⟩:=kg0 hu h.h
 rw[hf]at h2
 exact⟨ps,h1,relFs_h h2⟩
theorem k2x {t e:TypeId} {ds:List D} {d:DataW H} {α:Type} [Inhabited α] (f:α->D) (p:α->Prop) (sz:Nat) (hu:P.underlying t=some (.slice e)) (hs:P.cellsOf e=sz) (h:RelH P (k+1) t ds d)
  (tp:∀(x:List D) (y:DataW H),RelH P k e x y->∃a,mkD P e x=f a/\p a):∃l:List α,ds=[.slice sz (l.map f)]/\l.length<=9223372036854775807/\∀a∈l,p a:=by
 obtain⟨l,h1,h2,h3,_⟩:=kg3 f p hu h.h (fun x y hh=>tp x y ⟨hh⟩)
 subst hs
 exact⟨l,h1,h2,h3⟩
theorem mk_agg {e:TypeId} {ds cs:List D} (ha:isAggT P e=true) (h:ds=(D.agg cs).cells):mkD P e ds= .agg cs:=by subst h;unfold mkD;rw[ha];rfl
theorem mk_one {e:TypeId} {ds:List D} {x:D} (ha:isAggT P e=false) (h:ds=[x]):mkD P e ds=x:=by subst h;unfold mkD;rw[ha];rfl
theorem kde {r:Reach} {base:Nat} {t:TypeId} {v:Value} {d:DataW H} {ps:List MemPlace} {h:Hp} {nx:Nat} (hT:dataT P k t=true) (hval:Value.okWide P W r base t v)
  (hd:DataW.Trod enc P W 0 (fun _=>true) true t v d ps):∃ds,RelH P k t ds d/\RepV (G0 W) W h nx v (vOf P t ds):=by
 obtain⟨ds,h1,h2⟩:=arg_rep hT hval hd
 exact⟨ds,⟨h1⟩,h2⟩
end
end Go.Bv
namespace Go.Proofs.Ytchoejpclejjhaa
open Go Go.Bv Go.Cv Go.Md Go.RowKit Go.ChangeShapes Go.WideShapes
theorem wf_u8 {i:Int} (h:(Lit.int .u8 i).wf=true):0<=i/\i<256:=by
 simp only[Lit.wf,IntKind.min,IntKind.max,IntKind.signed,IntKind.bits,Bool.and_eq_true]at h
 simp at h
 omega
theorem wf_u64 {i:Int} (h:(Lit.int .u64 i).wf=true):0<=i/\i<18446744073709551616:=by
 simp only[Lit.wf,IntKind.min,IntKind.max,IntKind.signed,IntKind.bits,Bool.and_eq_true]at h
 simp at h
 omega
theorem wf_i64 {i:Int} (h:(Lit.int .i64 i).wf=true):(-9223372036854775808)<=i/\i<9223372036854775808:=by
 simp only[Lit.wf,IntKind.min,IntKind.max,IntKind.signed,IntKind.bits,Bool.and_eq_true]at h
 simp at h
 omega
structure k8p (x:wU):Prop where
 wV:(0<=x.wV/\x.wV<18446744073709551616)
 wR:(0<=x.wR/\x.wR<18446744073709551616)
 wP:(0<=x.wP/\x.wP<18446744073709551616)
 wC:(x.wC.length<=9223372036854775807/\∀y∈x.wC,(0<=y/\y<18446744073709551616))
structure k6c (x:wJ):Prop where
 wT:(0<=x.wT/\x.wT<18446744073709551616)
 wF:(x.wF.length<=9223372036854775807/\∀y∈x.wF,(0<=y/\y<18446744073709551616))
 wA:(x.wA.length<=9223372036854775807/\∀y∈x.wA,k8p y)
 wL:(0<=x.wL/\x.wL<18446744073709551616)
 wI:(0<=x.wI/\x.wI<18446744073709551616)
 Fee:(0<=x.Fee/\x.Fee<18446744073709551616)
 wN:(0<=x.wN/\x.wN<18446744073709551616)
 wD:(0<=x.wD/\x.wD<18446744073709551616)
 wM:((-9223372036854775808)<=x.wM/\x.wM<9223372036854775808)
 wO:(x.wO.length<=9223372036854775807/\∀y∈x.wO,(0<=y/\y<256))
structure k74 (x:wB):Prop where
 wH:(0<=x.wH/\x.wH<18446744073709551616)
 wE:((-9223372036854775808)<=x.wE/\x.wE<9223372036854775808)
 wK:(0<=x.wK/\x.wK<18446744073709551616)
 wG:(0<=x.wG/\x.wG<18446744073709551616)
 wD:(0<=x.wD/\x.wD<18446744073709551616)
 Txs:(x.Txs.length<=9223372036854775807/\∀y∈x.Txs,k6c y)
theorem op22 {H:Type} {k:Nat} {ds:List D} {d:DataW H} (h:RelH Try.prog (k+1) 22 ds d):∃x:Int,ds=[D.int .u64 x]/\(0<=x/\x<18446744073709551616):=by
 obtain⟨i,rfl,_,w⟩:=k78 (q:= .u64) (show Try.prog.underlying 22=some (.int .u64)by kernel_rfl) h
 exact⟨i,rfl,wf_u64 w⟩
theorem op3 {H:Type} {k:Nat} {ds:List D} {d:DataW H} (h:RelH Try.prog (k+1) 3 ds d):∃x:Int,ds=[D.int .i64 x]/\((-9223372036854775808)<=x/\x<9223372036854775808):=by
 obtain⟨i,rfl,_,w⟩:=k78 (q:= .i64) (show Try.prog.underlying 3=some (.int .i64)by kernel_rfl) h
 exact⟨i,rfl,wf_i64 w⟩
theorem op42 {H:Type} {k:Nat} {ds:List D} {d:DataW H} (h:RelH Try.prog (k+2) 42 ds d):∃x:List Int,ds=[D.slice 1 (x.map (D.int .u64))]/\(x.length<=9223372036854775807/\∀y∈x,(0<=y/\y<18446744073709551616)):=by
 obtain⟨l,rfl,hm,hl⟩:=k2x (D.int .u64) (fun(y:Int)=>(0<=y/\y<18446744073709551616)) 1 (show Try.prog.underlying 42=some (.slice 22)by kernel_rfl) (by kernel_rfl) h (fun x y hh=>by
  obtain⟨a,e,ha⟩:=op22 (k:=k+0) hh
  exact⟨a,mk_one (by kernel_rfl) e,ha⟩)
 exact⟨l,rfl,⟨hm,hl⟩⟩
structure kho (x:wX):Prop where
 a0:(0<=x.a0/\x.a0<18446744073709551616)
 a1:(0<=x.a1/\x.a1<18446744073709551616)
theorem op55 {H:Type} {k:Nat} {ds:List D} {d:DataW H} (h:RelH Try.prog (k+2) 55 ds d):∃x:wX,ds=(encTA2 x).cells/\kho x:=by
 obtain⟨ps,rfl,h1⟩:=ke8 (n:=2) (e:=22) (L:=[(22,0),(22,1)]) (show Try.prog.underlying 55=some (.array 2 22)by kernel_rfl) (by kernel_rfl) h
 obtain⟨_,_,_,_,g0,⟨_,_,_,_,g1,⟨rfl,rfl⟩,rfl,rfl⟩,rfl,rfl⟩:=h1
 obtain⟨a0,rfl,r0⟩:=op22 (k:=k+0) g0
 obtain⟨a1,rfl,r1⟩:=op22 (k:=k+0) g1
 exact⟨⟨a0,a1⟩,rfl,⟨r0,r1⟩⟩
theorem op57 {H:Type} {k:Nat} {ds:List D} {d:DataW H} (h:RelH Try.prog (k+3) 57 ds d):∃x:wU,ds=(encTOut x).cells/\k8p x:=by
 obtain⟨ps,rfl,h1⟩:=k44 (L:=[(22,0),(55,1),(42,3)]) (Try.underlying57) (by kernel_rfl) h
 obtain⟨_,_,_,_,g0,⟨_,_,_,_,g1,⟨_,_,_,_,g2,⟨rfl,rfl⟩,rfl,rfl⟩,rfl,rfl⟩,rfl,rfl⟩:=h1
 obtain⟨a0,rfl,r0⟩:=op22 (k:=k+1) g0
 obtain⟨a1,rfl,r1⟩:=op55 (k:=k+0) g1
 obtain⟨a2,rfl,r2⟩:=op42 (k:=k+0) g2
 exact⟨⟨a0,a1.a0,a1.a1,a2⟩,rfl,⟨r0,r1.a0,r1.a1,r2⟩⟩
theorem op43 {H:Type} {k:Nat} {ds:List D} {d:DataW H} (h:RelH Try.prog (k+4) 43 ds d):∃x:List wU,ds=[D.slice 4 (x.map encTOut)]/\(x.length<=9223372036854775807/\∀y∈x,k8p y):=by
 obtain⟨l,rfl,hm,hl⟩:=k2x encTOut (fun(y:wU)=>k8p y) 4 (show Try.prog.underlying 43=some (.slice 57)by kernel_rfl) (by kernel_rfl) h (fun x y hh=>by
  obtain⟨a,e,ha⟩:=op57 (k:=k+0) hh
  exact⟨a,mk_agg (by kernel_rfl) e,ha⟩)
 exact⟨l,rfl,⟨hm,hl⟩⟩
theorem op5 {H:Type} {k:Nat} {ds:List D} {d:DataW H} (h:RelH Try.prog (k+1) 5 ds d):∃x:Int,ds=[D.int .u8 x]/\(0<=x/\x<256):=by
 obtain⟨i,rfl,_,w⟩:=k78 (q:= .u8) (show Try.prog.underlying 5=some (.int .u8)by kernel_rfl) h
 exact⟨i,rfl,wf_u8 w⟩
theorem op38 {H:Type} {k:Nat} {ds:List D} {d:DataW H} (h:RelH Try.prog (k+2) 38 ds d):∃x:List Int,ds=[D.slice 1 (x.map (D.int .u8))]/\(x.length<=9223372036854775807/\∀y∈x,(0<=y/\y<256)):=by
 obtain⟨l,rfl,hm,hl⟩:=k2x (D.int .u8) (fun(y:Int)=>(0<=y/\y<256)) 1 (show Try.prog.underlying 38=some (.slice 5)by kernel_rfl) (by kernel_rfl) h (fun x y hh=>by
  obtain⟨a,e,ha⟩:=op5 (k:=k+0) hh
  exact⟨a,mk_one (by kernel_rfl) e,ha⟩)
 exact⟨l,rfl,⟨hm,hl⟩⟩
theorem op45 {H:Type} {k:Nat} {ds:List D} {d:DataW H} (h:RelH Try.prog (k+5) 45 ds d):∃x:wJ,ds=(encTTx x).cells/\k6c x:=by
 obtain⟨ps,rfl,h1⟩:=k44 (L:=[(22,0),(42,1),(43,2),(22,3),(22,4),(22,5),(22,6),(22,7),(3,8),(38,9)]) (Try.underlying45) (by kernel_rfl) h
 obtain⟨_,_,_,_,g0,⟨_,_,_,_,g1,⟨_,_,_,_,g2,⟨_,_,_,_,g3,⟨_,_,_,_,g4,⟨_,_,_,_,g5,⟨_,_,_,_,g6,⟨_,_,_,_,g7,⟨_,_,_,_,g8,⟨_,_,_,_,g9,⟨rfl,rfl⟩,rfl,rfl⟩,rfl,rfl⟩,rfl,rfl⟩,rfl,rfl⟩,rfl,rfl⟩,rfl,rfl⟩,rfl,rfl⟩,rfl,rfl⟩,rfl,rfl⟩,rfl,rfl⟩:=h1
 obtain⟨a0,rfl,r0⟩:=op22 (k:=k+3) g0
 obtain⟨a1,rfl,r1⟩:=op42 (k:=k+2) g1
 obtain⟨a2,rfl,r2⟩:=op43 (k:=k+0) g2
 obtain⟨a3,rfl,r3⟩:=op22 (k:=k+3) g3
 obtain⟨a4,rfl,r4⟩:=op22 (k:=k+3) g4
 obtain⟨a5,rfl,r5⟩:=op22 (k:=k+3) g5
 obtain⟨a6,rfl,r6⟩:=op22 (k:=k+3) g6
 obtain⟨a7,rfl,r7⟩:=op22 (k:=k+3) g7
 obtain⟨a8,rfl,r8⟩:=op3 (k:=k+3) g8
 obtain⟨a9,rfl,r9⟩:=op38 (k:=k+2) g9
 exact⟨⟨a0,a1,a2,a3,a4,a5,a6,a7,a8,a9⟩,rfl,⟨r0,r1,r2,r3,r4,r5,r6,r7,r8,r9⟩⟩
theorem op23 {H:Type} {k:Nat} {ds:List D} {d:DataW H} (h:RelH Try.prog (k+6) 23 ds d):∃x:List wJ,ds=[D.slice 10 (x.map encTTx)]/\(x.length<=9223372036854775807/\∀y∈x,k6c y):=by
 obtain⟨l,rfl,hm,hl⟩:=k2x encTTx (fun(y:wJ)=>k6c y) 10 (show Try.prog.underlying 23=some (.slice 45)by kernel_rfl) (by kernel_rfl) h (fun x y hh=>by
  obtain⟨a,e,ha⟩:=op45 (k:=k+0) hh
  exact⟨a,mk_agg (by kernel_rfl) e,ha⟩)
 exact⟨l,rfl,⟨hm,hl⟩⟩
theorem op25 {H:Type} {k:Nat} {ds:List D} {d:DataW H} (h:RelH Try.prog (k+7) 25 ds d):∃x:wB,ds=(encTBlock x).cells/\k74 x:=by
 obtain⟨ps,rfl,h1⟩:=k44 (L:=[(22,0),(3,1),(22,2),(22,3),(22,4),(23,5)]) (Try.underlying25) (by kernel_rfl) h
 obtain⟨_,_,_,_,g0,⟨_,_,_,_,g1,⟨_,_,_,_,g2,⟨_,_,_,_,g3,⟨_,_,_,_,g4,⟨_,_,_,_,g5,⟨rfl,rfl⟩,rfl,rfl⟩,rfl,rfl⟩,rfl,rfl⟩,rfl,rfl⟩,rfl,rfl⟩,rfl,rfl⟩:=h1
 obtain⟨a0,rfl,r0⟩:=op22 (k:=k+5) g0
 obtain⟨a1,rfl,r1⟩:=op3 (k:=k+5) g1
 obtain⟨a2,rfl,r2⟩:=op22 (k:=k+5) g2
 obtain⟨a3,rfl,r3⟩:=op22 (k:=k+5) g3
 obtain⟨a4,rfl,r4⟩:=op22 (k:=k+5) g4
 obtain⟨a5,rfl,r5⟩:=op23 (k:=k+0) g5
 exact⟨⟨a0,a1,a2,a3,a4,a5⟩,rfl,⟨r0,r1,r2,r3,r4,r5⟩⟩
theorem dt3:dataT Try.prog 1 3=true:=by kernel_rfl
theorem dt25:dataT Try.prog 7 25=true:=by kernel_rfl
theorem own:ownKnob Try.prog.godebug=none:=by kernel_rfl
theorem laid:laidOutB Try.prog=true:=by kernel_rfl
end Go.Proofs.Ytchoejpclejjhaa
namespace Go.Md
open Go Go.Bv
theorem u64w (n:Int):IntKind.u64.wrap n=n%18446744073709551616:=IntKind.wrap_u64 n
theorem u8w (n:Int):IntKind.u8.wrap n=n%256:=IntKind.wrap_u8 n
theorem k2a (k:IntKind) (a b:Int):ishr k a b=a/((2^min b.toNat k.bits:Nat):Int):=by
 unfold ishr
 rw[show(2:Int)^min b.toNat k.bits=((2^min b.toNat k.bits:Nat):Int)from(Int.natCast_pow 2 _).symm,Int.fdiv_eq_ediv_of_nonneg _ (Int.natCast_nonneg _)]
theorem kc7 (a b:Int):ishl .u64 a b=(a*((2^min b.toNat 64:Nat):Int))%18446744073709551616:=by
 unfold ishl
 rw[u64w,show(2:Int)^min b.toNat IntKind.u64.bits=((2^min b.toNat 64:Nat):Int)by rw[show IntKind.u64.bits=64 from rfl];exact(Int.natCast_pow 2 _).symm]
theorem k3r (n:Nat) (h:n<18446744073709551616):(BitVec.ofInt 64 (n:Int)).toNat=n:=by
 rw[BitVec.toNat_ofInt]
 omega
theorem kd4 (a b:Nat) (ha:a<18446744073709551616) (hb:b<18446744073709551616):iand .u64 a b=((a&&&b:Nat):Int):=by
 unfold iand
 rw[u64w]
 show(((BitVec.ofInt 64 a&&&BitVec.ofInt 64 b).toNat:Nat):Int)%_=_
 rw[BitVec.toNat_and,k3r a ha,k3r b hb]
 have:=Nat.and_le_left (n:=a) (m:=b)
 omega
theorem ior_nat (a b:Nat) (ha:a<18446744073709551616) (hb:b<18446744073709551616):ior .u64 a b=((a|||b:Nat):Int):=by
 unfold ior
 rw[u64w]
 show(((BitVec.ofInt 64 a|||BitVec.ofInt 64 b).toNat:Nat):Int)%_=_
 rw[BitVec.toNat_or,k3r a ha,k3r b hb]
 have:=Nat.or_lt_two_pow (x:=a) (y:=b) (n:=64) (by omega) (by omega)
 omega
theorem k1y (a:Int) (h:0<=a/\a<18446744073709551616):iand .u64 a 4294967295=a%4294967296:=by
 obtain⟨n,rfl⟩:=Int.eq_ofNat_of_zero_le h.1
 have:=kd4 n 4294967295 (by omega) (by omega)
 rw[show((4294967295:Nat):Int)=4294967295 from rfl]at this
 rw[this,show(4294967295:Nat)=2^32-1 from rfl,Nat.and_two_pow_sub_one_eq_mod]
 exact Int.natCast_emod _ _
theorem kgf (a:Int) (h:0<=a/\a<18446744073709551616):iand .u64 a 1=a%2:=by
 obtain⟨n,rfl⟩:=Int.eq_ofNat_of_zero_le h.1
 have:=kd4 n 1 (by omega) (by omega)
 rw[show((1:Nat):Int)=1 from rfl]at this
 rw[this,Nat.and_one_is_mod]
 exact Int.natCast_emod _ _
theorem ior_add (a c k:Nat) (ha:a<2^k) (h:a+2^k*c<18446744073709551616):ior .u64 a ((2^k*c:Nat):Int)=((a+2^k*c:Nat):Int):=by
 rw[ior_nat _ _ (by omega) (by omega),Nat.or_comm,<-Nat.two_pow_add_eq_or_of_lt ha,Nat.add_comm]
theorem ior_add' (a c k:Nat) (ha:a<2^k) (h:a+2^k*c<18446744073709551616):ior .u64 ((2^k*c:Nat):Int) a=((a+2^k*c:Nat):Int):=by
 rw[ior_nat _ _ (by omega) (by omega),<-Nat.two_pow_add_eq_or_of_lt ha,Nat.add_comm]
theorem ishr32 (a:Int):ishr .u64 a 32=a/4294967296:=k2a _ _ _
theorem ishr16 (a:Int):ishr .u64 a 16=a/65536:=k2a _ _ _
theorem ishr8 (a:Int):ishr .u64 a 8=a/256:=k2a _ _ _
theorem ishr1 (a:Int):ishr .u64 a 1=a/2:=k2a _ _ _
theorem kgq (a b:Int) (ha:0<=a/\a<18446744073709551616) (hb:0<=b/\b<18446744073709551616):
  ((a/4294967296*(b/4294967296)+((a/4294967296*(b%4294967296)+a%4294967296*(b%4294967296)/4294967296)/4294967296))+((a/4294967296*(b%4294967296)+a%4294967296*(b%4294967296)/4294967296)%4294967296+a%4294967296*(b/4294967296))/4294967296)=a*b/18446744073709551616/\
  a%4294967296*(b%4294967296)<18446744073709551616/\a/4294967296*(b%4294967296)+a%4294967296*(b%4294967296)/4294967296<18446744073709551616/\
  a%4294967296*(b/4294967296)<18446744073709551616-4294967296/\a/4294967296*(b/4294967296)<18446744065119617026/\0<=a%4294967296*(b%4294967296)/\0<=a/4294967296*(b%4294967296)/\0<=a%4294967296*(b/4294967296)/\0<=a/4294967296*(b/4294967296):=by
 have h1:∀x y:Int,0<=x->x<=4294967295->0<=y->y<=4294967295->0<=x*y/\x*y<=18446744065119617025:=by
  intro x y h0 h1 h2 h3
  exact⟨Int.mul_nonneg h0 h2,by have:=Int.mul_le_mul h1 h3 h2 (by omega);omega⟩
 have a1:=h1 (a%4294967296) (b%4294967296) (by omega) (by omega) (by omega) (by omega)
 have a2:=h1 (a/4294967296) (b%4294967296) (by omega) (by omega) (by omega) (by omega)
 have a3:=h1 (a%4294967296) (b/4294967296) (by omega) (by omega) (by omega) (by omega)
 have a4:=h1 (a/4294967296) (b/4294967296) (by omega) (by omega) (by omega) (by omega)
 have e:a*b=a/4294967296*(b/4294967296)*18446744073709551616+(a/4294967296*(b%4294967296)+a%4294967296*(b/4294967296))*4294967296+a%4294967296*(b%4294967296):=by
  have ea:a=a/4294967296*4294967296+a%4294967296:=by omega
  have eb:b=b/4294967296*4294967296+b%4294967296:=by omega
  conv=>lhs;rw[ea,eb]
  generalize a/4294967296=x
  generalize a%4294967296=y
  generalize b/4294967296=z
  generalize b%4294967296=t
  grind
 generalize a%4294967296*(b%4294967296)=p0 at *
 generalize a/4294967296*(b%4294967296)=p1 at *
 generalize a%4294967296*(b/4294967296)=p2 at *
 generalize a/4294967296*(b/4294967296)=p3 at *
 generalize a*b=ab at *
 refine⟨?_,?_,?_,?_,?_,?_,?_,?_,?_⟩<;>omega
structure Half (U x a b Q:Int):Prop where
 hU:0<=U
 hUv:U<a*4294967296+b
 hx:0<=x/\x<4294967296
 ha:2147483648<=a/\a<4294967296
 hb:0<=b/\b<4294967296
 hQ:Q=(U*4294967296+x)/(a*4294967296+b)
theorem Half.q {U x a b Q:Int} (h:Half U x a b Q):0<=Q/\Q<4294967296/\Q*(a*4294967296+b)<=U*4294967296+x/\U*4294967296+x<(Q+1)*(a*4294967296+b):=by
 obtain⟨h1,h2,h3,h4,h5,h6⟩:=h
 have hv:0<a*4294967296+b:=by omega
 have e:=Int.emod_add_mul_ediv (U*4294967296+x) (a*4294967296+b)
 have l:=Int.emod_nonneg (U*4294967296+x) (by omega:a*4294967296+b≠0)
 have r:=Int.emod_lt_of_pos (U*4294967296+x) hv
 rw[<-h6]at e
 generalize hvv:a*4294967296+b=v at *
 have e2:(Q+1)*v=Q*v+v:=by grind
 have e3:v*Q=Q*v:=by grind
 have q0:0<=Q:=by
  rw[h6]
  exact Int.ediv_nonneg (by omega) (by omega)
 have q1:Q<4294967296:=by
  rw[h6]
  exact Int.ediv_lt_of_lt_mul hv (by omega)
 refine⟨q0,q1,by omega,by omega⟩
theorem Half.exit {U x a b Q q r:Int} (h:Half U x a b Q) (e:q*a+r=U) (hq:Q<=q) (h2:q*b<=r*4294967296+x):q=Q:=by
 obtain⟨q0,q1,q2,q3⟩:=h.q
 have h4:=h.ha
 have:q*(a*4294967296+b)<=U*4294967296+x:=by
  have:q*(a*4294967296+b)=q*a*4294967296+q*b:=by grind
  rw[this]
  generalize q*a=qa at *
  omega
 have h5:q<Q+1:=by
  have hv:0<a*4294967296+b:=by have:=h.hb;omega
  exact Int.lt_of_mul_lt_mul_right (by omega) (Int.le_of_lt hv)
 omega
theorem Half.down {U x a b Q q r:Int} (h:Half U x a b Q) (e:q*a+r=U) (h2:4294967296<=q∨r*4294967296+x<q*b):Q<=q-1:=by
 obtain⟨q0,q1,q2,q3⟩:=h.q
 rcases h2 with h2|h2
 ·omega
 ·have:U*4294967296+x<q*(a*4294967296+b):=by
   have:q*(a*4294967296+b)=q*a*4294967296+q*b:=by grind
   rw[this]
   generalize q*a=qa at *
   omega
  have h5:Q<q:=by
   have hv:0<a*4294967296+b:=by have:=h.hb;have:=h.ha;omega
   exact Int.lt_of_mul_lt_mul_right (a:=a*4294967296+b) (by omega) (Int.le_of_lt hv)
  omega
theorem Half.small {U x a b Q q r:Int} (h:Half U x a b Q) (e:q*a+r=U) (hr:4294967296<=r):q<4294967296:=by
 have h2:=h.hUv
 have h4:=h.ha
 have h5:=h.hb
 have:q*a<4294967296*a:=by generalize q*a=qa at *;omega
 exact Int.lt_of_mul_lt_mul_right this (by omega)
theorem Half.done {U x a b Q q r:Int} (h:Half U x a b Q) (e:q*a+r=U) (hq:Q<=q) (hr:4294967296<=r):q=Q:=by
 refine h.exit e hq ?_
 have h1:=h.small e hr
 obtain⟨q0,_⟩:=h.q
 have h5:=h.hb
 have h6:=h.hx
 have:q*b<=4294967296*4294967296:=Int.mul_le_mul (by omega) (by omega) (by omega) (by omega)
 omega
theorem Half.rest {U x a b Q:Int} (h:Half U x a b Q):(U*4294967296+x)-Q*(a*4294967296+b)=(U*4294967296+x)%(a*4294967296+b)/\0<=(U*4294967296+x)%(a*4294967296+b)/\(U*4294967296+x)%(a*4294967296+b)<a*4294967296+b:=by
 have hv:0<a*4294967296+b:=by have:=h.hb;have:=h.ha;omega
 have e:=Int.emod_add_mul_ediv (U*4294967296+x) (a*4294967296+b)
 rw[<-h.hQ]at e
 have:=Int.mul_comm (a*4294967296+b) Q
 exact⟨by omega,Int.emod_nonneg _ (by omega),Int.emod_lt_of_pos _ hv⟩
theorem kei {N y p U un1 un0 Q1 R1 Q0 R0:Int} (hp:0<p) (hy:0<y) (hN:N*p=U*18446744073709551616+un1*4294967296+un0) (h1:U*4294967296+un1-Q1*(y*p)=R1) (h0:R1*4294967296+un0-Q0*(y*p)=R0)
  (hr:0<=R0/\R0<y*p):Q1*4294967296+Q0=N/y/\R0/p=N%y:=by
 have e:N*p=(Q1*4294967296+Q0)*(y*p)+R0:=by
  rw[hN]
  have:(Q1*4294967296+Q0)*(y*p)=Q1*(y*p)*4294967296+Q0*(y*p):=by grind
  rw[this]
  generalize Q1*(y*p)=a at *
  generalize Q0*(y*p)=b at *
  omega
 have e2:R0=(N-(Q1*4294967296+Q0)*y)*p:=by grind
 have h3:0<=N-(Q1*4294967296+Q0)*y:=by
  rcases Int.lt_or_le (N-(Q1*4294967296+Q0)*y) 0 with h|h
  ·exfalso
   have:(N-(Q1*4294967296+Q0)*y)*p<0:=Int.mul_neg_of_neg_of_pos h hp
   omega
  ·exact h
 have h4:N-(Q1*4294967296+Q0)*y<y:=by
  refine Int.lt_of_mul_lt_mul_right (a:=p) ?_ (Int.le_of_lt hp)
  omega
 have e3:N=(N-(Q1*4294967296+Q0)*y)+y*(Q1*4294967296+Q0):=by grind
 constructor
 ·conv=>rhs;rw[e3]
  rw[Int.add_mul_ediv_left _ _ (by omega),Int.ediv_eq_zero_of_lt h3 h4]
  omega
 ·rw[e2,Int.mul_ediv_cancel _ (by omega)]
  conv=>rhs;rw[e3]
  rw[Int.add_mul_emod_self_left,Int.emod_eq_of_lt h3 h4]
end Go.Md
namespace Go.Md
open Go Go.Bv
theorem ix_nat {α:Type} [Inhabited α] (l:List α) (i:Int) (h0:0<=i) (h1:i<(l.length:Int)):ix l i=l[i.toNat]'(by omega):=by
 have:i.toNat<l.length:=by omega
 simp[ix,this]
theorem ix_mem {α:Type} [Inhabited α] (l:List α) (i:Int) (h0:0<=i) (h1:i<(l.length:Int)):ix l i∈l:=by
 rw[ix_nat l i h0 h1];exact List.getElem_mem _
theorem inc (i n:Int) (h0:0<=i) (h:i<n) (hn:n<=9223372036854775807):IntKind.i64.wrap (i+1)=i+1:=kbc _ (by omega) (by omega)
theorem wi (n:Int) (h0: -9223372036854775808<=n) (h:n<=9223372036854775807):IntKind.i64.wrap n=n:=kbc n h0 (by omega)
theorem wu (n:Int) (h0:0<=n) (h:n<=18446744073709551615):IntKind.u64.wrap n=n:=wrap_u64 n h0 (by omega)
theorem tdiv_nn (a b:Int) (h:0<=a):Int.tdiv a b=a/b:=Int.tdiv_eq_ediv_of_nonneg h
theorem tmod_nn (a b:Int) (h:0<=a):Int.tmod a b=a%b:=Int.tmod_eq_emod_of_nonneg h
theorem ka {α:Type} [Inhabited α] (l:List α) (i:Int) (h0:0<=i) (h1:i<(l.length:Int)):l.take (i+1).toNat=l.take i.toNat++[ix l i]:=by
 rw[ix_nat l i h0 h1,show(i+1).toNat=i.toNat+1 by omega,List.take_succ_eq_append_getElem (by omega)]
theorem drop_ix {α:Type} [Inhabited α] (l:List α) (i:Int) (h0:0<=i) (h1:i<(l.length:Int)):l.drop i.toNat=ix l i::l.drop (i+1).toNat:=by
 rw[ix_nat l i h0 h1,show(i+1).toNat=i.toNat+1 by omega]
 exact List.drop_eq_getElem_cons (by omega)
theorem ke1 {α:Type} (l m:List α) (h:l.length=m.length):rowOver l m l.length=m:=by
 simp[rowOver,h]
theorem k4u (a m:Int):∀k:Nat,(a%m)^k%m=a^k%m
 |0=>by simp
 |k+1=>by rw[Int.pow_succ,Int.pow_succ,Int.mul_emod,k4u a m k,Int.emod_emod_of_dvd _ (Int.dvd_refl _),<-Int.mul_emod]
abbrev U64 (n:Int):Prop:=0<=n/\n<18446744073709551616
abbrev By (l:List Int):Prop:=∀x∈l,0<=x/\x<256
abbrev Us (l:List Int):Prop:=∀x∈l,0<=x/\x<18446744073709551616
def dig:Nat->Int->List Int
 |0,_=>[]
 |k+1,n=>n%256::dig k (n/256)
def val:List Int->Int
 |[]=>0
 |x::r=>x+256*val r
@[simp] theorem kb:∀(k:Nat) (n:Int),(dig k n).length=k
 |0,_=>rfl
 |k+1,n=>by simp[dig,kb k]
theorem k1x (k:Nat):(256:Int)^(k+1)=256*256^k:=by rw[Int.pow_succ,Int.mul_comm]
theorem k1u (k:Nat):(0:Int)<256^k:=Int.pow_pos (by omega)
theorem k58:∀(k:Nat) (n:Int),dig (k+1) n=dig k n++[n/256^k%256]
 |0,n=>by simp[dig]
 |k+1,n=>by
  show n%256::dig (k+1) (n/256)=n%256::dig k (n/256)++_
  rw[k58 k (n/256),k1x,Int.ediv_ediv_of_nonneg (by omega)]
  rfl
theorem dig_by:∀(k:Nat) (n:Int),By (dig k n)
 |0,_=>by intro x hx;cases hx
 |k+1,n=>by
  intro x hx
  rcases List.mem_cons.1 hx with rfl|hx
  ·omega
  ·exact dig_by k _ x hx
theorem k2r (k:Nat):(256:Int)^k=((2^(8*k):Nat):Int):=by rw[Nat.pow_mul,Int.natCast_pow];rfl
theorem k3u {k m:Nat} (h:k<=m):(256:Int)^k<=256^m:=by
 rw[k2r,k2r]
 exact Int.ofNat_le.2 (Nat.pow_le_pow_right (by omega) (by omega))
theorem k3m:∀(l:List Int),By l->0<=val l/\val l<256^l.length
 |[],_=>by simp[val]
 |x::r,h=>by
  have h1:=k3m r (fun y hy=>h y (by simp[hy]))
  have h2:=h x (by simp)
  rw[List.length_cons,k1x]
  simp only[val]
  omega
theorem k52:∀(l:List Int) (x:Int),val (l++[x])=val l+256^l.length*x
 |[],x=>by simp[val]
 |y::r,x=>by
  simp only[List.cons_append,val,k52 r x,List.length_cons,k1x]
  grind
theorem val8 (l:List Int) (h:By l) (hl:l.length<=8):U64 (val l):=by
 have h1:=k3m l h
 have:(256:Int)^l.length<=256^8:=k3u hl
 exact⟨h1.1,by omega⟩
theorem ior_val (l:List Int) (x:Int) (hl:By l) (h8:l.length<8) (hx:0<=x/\x<256):ior .u64 (val l) (ishl .u64 x (8*(l.length:Int)))=val (l++[x]):=by
 have h1:=k3m l hl
 rw[k52,kc7,show min (8*(l.length:Int)).toNat 64=8*l.length by omega,<-k2r]
 have h2:x*256^l.length+256^l.length<=256*256^l.length:=by
  have:=k1u l.length
  have:(x+1)*256^l.length<=256*256^l.length:=Int.mul_le_mul_of_nonneg_right (by omega) (by omega)
  grind
 have h3:(256:Int)*256^l.length<=256^8:=by rw[<-k1x];exact k3u (by omega)
 have h4:0<=x*256^l.length:=Int.mul_nonneg hx.1 (Int.le_of_lt (k1u _))
 rw[Int.emod_eq_of_lt h4 (by omega)]
 obtain⟨a,ha⟩:=Int.eq_ofNat_of_zero_le h1.1
 obtain⟨c,hc⟩:=Int.eq_ofNat_of_zero_le hx.1
 have key:=ior_add a c (8*l.length)
 rw[k2r]at h1 h2 h3 h4 ⊢
 generalize 2^(8*l.length)=P at *
 rw[ha]at h1
 rw[hc]at h2 h4
 have e:(c:Int)*(P:Int)=((P*c:Nat):Int):=by rw[Nat.mul_comm];exact(Int.natCast_mul _ _).symm
 have e' :(P:Int)*(c:Int)=((P*c:Nat):Int):=(Int.natCast_mul _ _).symm
 rw[e]at h2 h4
 rw[ha,hc,e,e']
 generalize P*c=R at *
 rw[key (by omega) (by omega)]
 exact Int.natCast_add _ _
def len4 (n:Int):Int:=if n<0∨4294967295<n then 0 else n
theorem len4_in {n:Int} (h:0<=n/\n<=4294967295):len4 n=n:=if_neg (by omega)
def encL (l:List Int):List Int:=dig 4 (len4 l.length)++l.flatMap (dig 8)
def encB (l:List Int):List Int:=dig 4 (len4 l.length)++l
theorem k15 (l:List Int):(l.flatMap (dig 8)).length=8*l.length:=by
 induction l with
 |nil=>rfl
 |cons x r ih=>rw[List.flatMap_cons,List.length_append,ih,kb,List.length_cons];omega
@[simp] theorem k12 (l:List Int):(encL l).length=4+8*l.length:=by rw[encL,List.length_append,k15,kb]
@[simp] theorem k2q (l:List Int):(encB l).length=4+l.length:=by simp[encB]
theorem By.append {a b:List Int} (ha:By a) (hb:By b):By (a++b):=fun x hx=>(List.mem_append.1 hx).elim (ha x) (hb x)
theorem k77 (l:List Int):By (l.flatMap (dig 8)):=fun x hx=>by
 obtain⟨y,_,hy⟩:=List.mem_flatMap.1 hx
 exact dig_by 8 y x hy
theorem encL_by (l:List Int):By (encL l):=(dig_by _ _).append (k77 l)
theorem encB_by {l:List Int} (h:By l):By (encB l):=(dig_by _ _).append h
theorem By.take {l:List Int} (h:By l) (n:Nat):By (l.take n):=fun x hx=>h x (List.mem_of_mem_take hx)
theorem By.drop {l:List Int} (h:By l) (n:Nat):By (l.drop n):=fun x hx=>h x (List.mem_of_mem_drop hx)
theorem By.us {l:List Int} (h:By l):Us l:=fun x hx=>by have:=h x hx;omega
def packN:Nat->List Int->List Int
 |0,_=>[]
 |n+1,l=>match l with
  |[]=>[]
  |x::r=>val ((x::r).take 7)::packN n ((x::r).drop 7)
def packS (l:List Int):List Int:=(l.length:Int)::packN l.length l
theorem k8r:∀(n m:Nat) (l:List Int),l.length<=n->l.length<=m->packN n l=packN m l
 |0,0,_,_,_=>rfl
 |0,m+1,[],_,_=>rfl
 |n+1,0,[],_,_=>rfl
 |n+1,m+1,[],_,_=>rfl
 |0,_,_::_,h,_=>by simp at h
 |n+1,0,_::_,_,h=>by simp at h
 |n+1,m+1,x::r,h,h' =>by
  simp only[packN]
  rw[k8r n m _ (by simp at h ⊢;omega) (by simp at h' ⊢;omega)]
theorem k2z (n:Nat) (l:List Int) (h:l.length<=n) (h0:l≠[]):packN n l=val (l.take 7)::packN n (l.drop 7):=by
 cases l with
 |nil=>exact absurd rfl h0
 |cons x r=>
  cases n with
  |zero=>simp at h
  |succ n=>
   show val ((x::r).take 7)::packN n ((x::r).drop 7)=_
   rw[k8r n (n+1) _ (by simp at h ⊢;omega) (by simp at h ⊢;omega)]
theorem k7b:∀(n:Nat) (l:List Int),By l->Us (packN n l)
 |0,_,_=>by intro x hx;cases hx
 |n+1,[],_=>by intro x hx;cases hx
 |n+1,x::r,h=>by
  intro y hy
  rcases List.mem_cons.1 hy with rfl|hy
  ·exact val8 _ (h.take 7) (by simp;omega)
  ·exact k7b n _ (h.drop 7) y hy
theorem k27:∀(n:Nat) (l:List Int),(packN n l).length<=n
 |0,_=>by simp[packN]
 |n+1,[]=>by simp[packN]
 |n+1,x::r=>by simp only[packN,List.length_cons];have:=k27 n ((x::r).drop 7);omega
end Go.Md
namespace Go.Md
open Go Go.Bv
def len64 (x:Int):Int:=if x=0 then 0 else(Nat.log2 x.toNat+1:Nat)
theorem k42 (x:Int) (k:Nat) (h:((2^k:Nat):Int)<=x):len64 (x/((2^k:Nat):Int))+k=len64 x:=by
 obtain⟨n,rfl⟩:=Int.eq_ofNat_of_zero_le (by have:=Nat.two_pow_pos k;omega:0<=x)
 have hp:0<2^k:=Nat.two_pow_pos k
 have hn:2^k<=n:=by omega
 have e:((n:Int)/((2^k:Nat):Int))=((n/2^k:Nat):Int):=(Int.natCast_ediv _ _).symm
 have h1:0<n/2^k:=Nat.div_pos hn hp
 unfold len64
 rw[e,if_neg (by omega),if_neg (by omega),Int.toNat_natCast,Int.toNat_natCast]
 have:Nat.log2 n=Nat.log2 (n/2^k)+k:=by
  rw[Nat.log2_eq_iff (by omega)]
  have a:=Nat.log2_self_le (n:=n/2^k) (by omega)
  have b:=Nat.lt_log2_self (n:=n/2^k)
  rw[Nat.le_div_iff_mul_le hp]at a
  rw[Nat.div_lt_iff_lt_mul hp]at b
  constructor
  ·rw[Nat.pow_add];exact a
  ·rw[show Nat.log2 (n/2^k)+k+1=Nat.log2 (n/2^k)+1+k by omega,Nat.pow_add];exact b
 omega
theorem k8w (y:Int) (h:0<y/\y<18446744073709551616):∃s:Nat,64-len64 y=(s:Int)/\s<=63/\9223372036854775808<=y*((2^s:Nat):Int)/\y*((2^s:Nat):Int)<18446744073709551616:=by
 obtain⟨n,rfl⟩:=Int.eq_ofNat_of_zero_le (by omega:0<=y)
 have l:Nat.log2 n<64:=(Nat.log2_lt (by omega)).2 (by omega)
 have a:=Nat.log2_self_le (n:=n) (by omega)
 have b:=Nat.lt_log2_self (n:=n)
 refine⟨63-Nat.log2 n,?_,by omega,?_,?_⟩
 ·unfold len64
  rw[if_neg (by omega),Int.toNat_natCast]
  omega
 ·have:2^63<=n*2^(63-Nat.log2 n):=by
   rw[show(63:Nat)=Nat.log2 n+(63-Nat.log2 n)by omega,Nat.pow_add,show Nat.log2 n+(63-Nat.log2 n)-Nat.log2 n=63-Nat.log2 n by omega]
   exact Nat.mul_le_mul_right _ a
  rw[<-Int.natCast_mul]
  generalize n*2^(63-Nat.log2 n)=m at *
  omega
 ·have:n*2^(63-Nat.log2 n)<2^64:=by
   rw[show(64:Nat)=Nat.log2 n+1+(63-Nat.log2 n)by omega,Nat.pow_add]
   exact Nat.mul_lt_mul_of_pos_right b (Nat.two_pow_pos _)
  rw[<-Int.natCast_mul]
  generalize n*2^(63-Nat.log2 n)=m at *
  omega
def tab8:ByteArray:=⟨#[0,1,2,2,3,3,3,3,4,4,4,4,4,4,4,4,5,5,5,5,5,5,5,5,5,5,5,5,5,5,5,5,6,6,6,6,6,6,6,6,6,6,6,6,6,6,6,6,6,6,6,6,6,6,6,6,6,6,6,6,6,6,6,6,7,7,7,7,7,7,7,7,7,7,7,7,7,7,7,7,7,7,7,7,7,7,7,7,7,7,7,7,7,7,7,7,7,7,7,7,7,7,7,7,7,7,7,7,7,7,7,7,7,7,7,7,7,7,7,7,7,7,7,7,7,7,7,7,8,8,8,8,8,8,8,8,8,8,8,8,8,8,8,8,8,8,8,8,8,8,8,8,8,8,8,8,8,8,8,8,8,8,8,8,8,8,8,8,8,8,8,8,8,8,8,8,8,8,8,8,8,8,8,8,8,8,8,8,8,8,8,8,8,8,8,8,8,8,8,8,8,8,8,8,8,8,8,8,8,8,8,8,8,8,8,8,8,8,8,8,8,8,8,8,8,8,8,8,8,8,8,8,8,8,8,8,8,8,8,8,8,8,8,8,8,8,8,8,8,8,8,8,8,8,8,8]⟩
theorem kh5:∀b:Nat,b<256->Cv.byteAt tab8 (b:Int)=len64 (b:Int):=by decide +kernel
theorem kcn (x:Int) (h:0<=x/\x<256):Cv.byteAt tab8 x=len64 x:=by
 obtain⟨n,rfl⟩:=Int.eq_ofNat_of_zero_le h.1
 exact kh5 n (by omega)
theorem kdq (x:Int) (h:0<=x/\x<256):0<=len64 x/\len64 x<=8:=by
 rw[<-kcn x h]
 obtain⟨n,rfl⟩:=Int.eq_ofNat_of_zero_le h.1
 have:∀b:Nat,b<256->0<=Cv.byteAt tab8 (b:Int)/\Cv.byteAt tab8 (b:Int)<=8:=by decide +kernel
 exact this n (by omega)
theorem kfx:tab8.size=256:=by decide +kernel
end Go.Md
namespace Go.Md
open Go Go.Bv Go.Cv Go.Md Go.RowKit
section
variable {α β:Type}
def AllI (f:α->Bool) (l:List α) (i:Int):Prop:=0<=i/\i<=l.length/\∀x∈l.take i.toNat,f x=true
theorem AllI.start {f:α->Bool} {l:List α}:AllI f l 0:=⟨by omega,by omega,by simp⟩
theorem AllI.next [Inhabited α] {f:α->Bool} {l:List α} {i:Int} (h:AllI f l i) (hh:i<l.length) (hl:(l.length:Int)<=9223372036854775807) (hf:f (ix l i)=true):
  AllI f l (IntKind.i64.wrap (i+1))/\(l.length-IntKind.i64.wrap (i+1)).toNat<(l.length-i).toNat:=by
 obtain⟨g0,g1,g2⟩:=h
 rw[inc i l.length g0 hh hl]
 refine⟨⟨by omega,by omega,?_⟩,by omega⟩
 rw[ka l i g0 hh]
 intro x hx
 rcases List.mem_append.1 hx with hx|hx
 ·exact g2 x hx
 ·have:x=ix l i:=by simpa using hx
  rw[this];exact hf
theorem AllI.bad [Inhabited α] {f:α->Bool} {l:List α} {i:Int} (h:AllI f l i) (hh:i<l.length) (hf:f (ix l i)=false):l.all f=false:=
 List.all_eq_false.2 ⟨ix l i,Md.ix_mem l i h.1 hh,by simp[hf]⟩
theorem AllI.done {f:α->Bool} {l:List α} {i:Int} (h:AllI f l i) (hh:¬i<l.length):l.all f=true:=by
 obtain⟨g0,g1,g2⟩:=h
 rw[List.take_of_length_le (by omega)]at g2
 exact List.all_eq_true.2 g2
def FoldI (f:β->α->β) (z:β) (l:List α) (i:Int) (s:β):Prop:=0<=i/\i<=l.length/\s=(l.take i.toNat).foldl f z
theorem FoldI.start {f:β->α->β} {z:β} {l:List α}:FoldI f z l 0 z:=⟨by omega,by omega,by simp⟩
theorem FoldI.next [Inhabited α] {f:β->α->β} {z:β} {l:List α} {i:Int} {s s' :β} (h:FoldI f z l i s) (hh:i<l.length) (hl:(l.length:Int)<=9223372036854775807) (hs:s' =f s (ix l i)):
  FoldI f z l (IntKind.i64.wrap (i+1)) s'/\(l.length-IntKind.i64.wrap (i+1)).toNat<(l.length-i).toNat:=by
 obtain⟨g0,g1,g2⟩:=h
 rw[inc i l.length g0 hh hl]
 refine⟨⟨by omega,by omega,?_⟩,by omega⟩
 rw[ka l i g0 hh,List.foldl_append,<-g2,hs]
 rfl
theorem FoldI.done {f:β->α->β} {z:β} {l:List α} {i:Int} {s:β} (h:FoldI f z l i s) (hh:¬i<l.length):s=l.foldl f z:=by
 obtain⟨g0,g1,g2⟩:=h
 rwa [List.take_of_length_le (by omega)]at g2
def FlatI (f:α->List β) (z:List β) (l:List α) (i:Int) (s:List β):Prop:=0<=i/\i<=l.length/\s=z++(l.take i.toNat).flatMap f
theorem FlatI.start {f:α->List β} {z:List β} {l:List α}:FlatI f z l 0 z:=⟨by omega,by omega,by simp⟩
theorem FlatI.next [Inhabited α] {f:α->List β} {z:List β} {l:List α} {i:Int} {s s' :List β} (h:FlatI f z l i s) (hh:i<l.length) (hl:(l.length:Int)<=9223372036854775807) (hs:s' =s++f (ix l i)):
  FlatI f z l (IntKind.i64.wrap (i+1)) s'/\(l.length-IntKind.i64.wrap (i+1)).toNat<(l.length-i).toNat:=by
 obtain⟨g0,g1,g2⟩:=h
 rw[inc i l.length g0 hh hl]
 refine⟨⟨by omega,by omega,?_⟩,by omega⟩
 rw[ka l i g0 hh,List.flatMap_append,hs,g2]
 simp
theorem FlatI.done {f:α->List β} {z:List β} {l:List α} {i:Int} {s:List β} (h:FlatI f z l i s) (hh:¬i<l.length):s=z++l.flatMap f:=by
 obtain⟨g0,g1,g2⟩:=h
 rwa [List.take_of_length_le (by omega)]at g2
theorem FlatI.len {f:α->List β} {z:List β} {l:List α} {i:Int} {s:List β} (h:FlatI f z l i s) (k:Nat) (hk:∀x∈l,(f x).length<=k):s.length<=z.length+k*l.length:=by
 obtain⟨g0,g1,g2⟩:=h
 have key:∀(m:List α),(∀x∈m,(f x).length<=k)->(m.flatMap f).length<=k*m.length:=by
  intro m
  induction m with
  |nil=>simp
  |cons a m ih=>
   intro hm
   have h1:=ih (fun x hx=>hm x (by simp[hx]))
   have h2:=hm a (by simp)
   rw[List.flatMap_cons,List.length_append,List.length_cons,Nat.mul_add]
   omega
 have h1:=key (l.take i.toNat) (fun x hx=>hk x (List.mem_of_mem_take hx))
 have h2:k*(l.take i.toNat).length<=k*l.length:=Nat.mul_le_mul_left _ (by rw[List.length_take];omega)
 rw[g2,List.length_append]
 omega
def MapI (f:α->β) (l:List α) (i:Int) (s:List β):Prop:=0<=i/\i<=l.length/\s=(l.take i.toNat).map f
theorem MapI.start {f:α->β} {l:List α}:MapI f l 0 []:=⟨by omega,by omega,by simp⟩
theorem MapI.next [Inhabited α] {f:α->β} {l:List α} {i:Int} {s s' :List β} (h:MapI f l i s) (hh:i<l.length) (hl:(l.length:Int)<=9223372036854775807) (hs:s' =s++[f (ix l i)]):
  MapI f l (IntKind.i64.wrap (i+1)) s'/\(l.length-IntKind.i64.wrap (i+1)).toNat<(l.length-i).toNat:=by
 obtain⟨g0,g1,g2⟩:=h
 rw[inc i l.length g0 hh hl]
 refine⟨⟨by omega,by omega,?_⟩,by omega⟩
 rw[ka l i g0 hh,List.map_append,hs,g2]
 simp
theorem MapI.done {f:α->β} {l:List α} {i:Int} {s:List β} (h:MapI f l i s) (hh:¬i<l.length):s=l.map f:=by
 obtain⟨g0,g1,g2⟩:=h
 rwa [List.take_of_length_le (by omega)]at g2
theorem MapI.len {f:α->β} {l:List α} {i:Int} {s:List β} (h:MapI f l i s):s.length=i.toNat:=by
 obtain⟨g0,g1,g2⟩:=h
 rw[g2,List.length_map,List.length_take];omega
def EqI [Inhabited α] (f:α->α->Bool) (l m:List α) (i:Int):Prop:=0<=i/\i<=l.length/\∀j:Nat,(j:Int)<i->f (ix l j) (ix m j)=true
theorem EqI.start [Inhabited α] {f:α->α->Bool} {l m:List α}:EqI f l m 0:=⟨by omega,by omega,fun j hj=>by omega⟩
theorem EqI.next [Inhabited α] {f:α->α->Bool} {l m:List α} {i:Int} (h:EqI f l m i) (hh:i<l.length) (hl:(l.length:Int)<=9223372036854775807) (hf:f (ix l i) (ix m i)=true):
  EqI f l m (IntKind.i64.wrap (i+1))/\(l.length-IntKind.i64.wrap (i+1)).toNat<(l.length-i).toNat:=by
 obtain⟨g0,g1,g2⟩:=h
 rw[inc i l.length g0 hh hl]
 refine⟨⟨by omega,by omega,fun j hj=> ?_⟩,by omega⟩
 by_cases hji:(j:Int)=i
 ·rw[hji];exact hf
 ·exact g2 j (by omega)
def eqB (f:α->α->Bool):List α->List α->Bool
 |[],[]=>true
 |a::l,b::m=>f a b&&eqB f l m
 |_,_=>false
theorem eqB_iff [Inhabited α] {f:α->α->Bool}:∀{l m:List α},eqB f l m=true↔l.length=m.length/\∀j:Nat,j<l.length->f (ix l (j:Int)) (ix m (j:Int))=true
 |[],[]=>by simp[eqB]
 |[],_::_=>by simp[eqB]
 |_::_,[]=>by simp[eqB]
 |a::l,b::m=>by
  have e:∀(a:α) (l:List α) (j:Nat),j<l.length->ix (a::l) ((j+1:Nat):Int)=ix l (j:Int):=by
   intro a l j hj
   rw[ix_nat _ _ (by omega) (by simp;omega),ix_nat _ _ (by omega) (by omega)]
   rfl
  have e0:∀(a:α) (l:List α),ix (a::l) ((0:Nat):Int)=a:=fun a l=>by rw[ix_nat _ _ (by omega) (by simp)];rfl
  simp only[eqB,Bool.and_eq_true,eqB_iff,List.length_cons]
  constructor
  ·rintro ⟨h1,h2,h3⟩
   refine⟨by omega,fun j hj=> ?_⟩
   cases j with
   |zero=>rw[e0,e0];exact h1
   |succ j=>rw[e a l j (by omega),e b m j (by omega)];exact h3 j (by omega)
  ·rintro ⟨h1,h2⟩
   have h3:=h2 0 (by omega)
   rw[e0,e0]at h3
   refine⟨h3,by omega,fun j hj=> ?_⟩
   have:=h2 (j+1) (by omega)
   rwa [e a l j (by omega),e b m j (by omega)]at this
theorem EqI.bad [Inhabited α] {f:α->α->Bool} {l m:List α} {i:Int} (h:EqI f l m i) (hh:i<l.length) (hf:f (ix l i) (ix m i)=false):eqB f l m=false:=by
 cases hq:eqB f l m with
 |false=>rfl
 |true=>
  have h0:=h.1
  have:=(eqB_iff.1 hq).2 i.toNat (by omega)
  rw[Int.toNat_of_nonneg h.1,hf]at this
  cases this
theorem EqI.done [Inhabited α] {f:α->α->Bool} {l m:List α} {i:Int} (h:EqI f l m i) (hlm:l.length=m.length) (hh:¬i<l.length):eqB f l m=true:=
 eqB_iff.2 ⟨hlm,fun j hj=>h.2.2 j (by omega)⟩
end
@[simp] theorem khp {α:Type} (p:α->Bool):mHas p []=false:=rfl
@[simp] theorem khq {α β:Type} (p:α->Bool) (z:β) (vs:List β):mVal p [] vs z=z:=rfl
end Go.Md
namespace Go.Proofs.Ytchoejpclejjhaa
open Go Go.Bv Go.Cv Go.Md Go.RowKit
open Go.IntKind (i64 u64)
def rc (r i:Int):Int:=(3*r+i+1)*11400714819323198485%18446744073709551616%18446744069414584321
def mixS (s:wS):wS:=⟨(s.a0+((s.a0+s.a1)%18446744069414584321+s.a2)%18446744069414584321)%18446744069414584321,(s.a1+((s.a0+s.a1)%18446744069414584321+s.a2)%18446744069414584321)%18446744069414584321,(s.a2+((s.a0+s.a1)%18446744069414584321+s.a2)%18446744069414584321)%18446744069414584321⟩
def pw (a e:Int):Int:=a^e.toNat%18446744069414584321
def rnd (s:wS) (r:Int):wS:=mixS ⟨pw ((s.a0+rc r 0)%18446744069414584321) 7,pw ((s.a1+rc r 1)%18446744069414584321) 7,pw ((s.a2+rc r 2)%18446744069414584321) 7⟩
def rnds:Nat->wS->wS
 |0,s=>s
 |n+1,s=>rnd (rnds n s) n
def permS (s:wS):wS:=rnds 8 s
def absL:List Int->wS->wS
 |[],s=>s
 |[x],s=>permS ⟨(s.a0+x)%18446744069414584321,s.a1,s.a2⟩
 |x::y::r,s=>absL r (permS ⟨(s.a0+x)%18446744069414584321,(s.a1+y)%18446744069414584321,s.a2⟩)
def absI (label:Int) (l:List Int):wS:=⟨0,0,(label*65536%18446744069414584321+(l.length:Int))%18446744069414584321⟩
def absS (label:Int) (l:List Int):wS:=if l=[]then permS (absI label l)else absL l (absI label l)
def hashS (label:Int) (l:List Int):Int:=(absS label l).a0
def hashB (label:Int) (b:List Int):Int:=hashS label (packS b)
def S3 (s:wS):Prop:=U64 s.a0/\U64 s.a1/\U64 s.a2
theorem S3m {a b c:Int} (ha:U64 a) (hb:U64 b) (hc:U64 c):S3 ⟨a,b,c⟩:=⟨ha,hb,hc⟩
theorem k1m (s:wS):S3 (permS s):=by
 show S3 (rnd _ _)
 unfold rnd mixS S3
 dsimp only
 omega
theorem k8x:∀(l:List Int) (s:wS),S3 s->S3 (absL l s)
 |[],_,h=>h
 |[_],_,_=>k1m _
 |_::_::r,_,_=>k8x r _ (k1m _)
theorem kfe (label:Int) (l:List Int):U64 (hashS label l):=by
 unfold hashS absS
 split
 ·exact(k1m _).1
 ·rename_i h
  match l,h with
  |[_],_=>exact(k1m _).1
  |_::_::r,_=>exact(k8x r _ (k1m _)).1
def idxI (l:List Int) (v:Int):Int:=if v∈l then(l.idxOf v:Int)else -1
def vMarks (l:List Int):Bool:=decide (l.length<=4)&&l.all (fun x=>decide (x<18446744069414584321))&&decide l.Nodup
def vPoint (a b:Int):Bool:=decide (a<18446744069414584321)&&(decide (b<18446744069414584321)&&(a !=0||b !=0))
def vOut (x:wU):Bool:=decide (x.wV<18446744069414584321)&&vPoint x.wR x.wP&&decide (x.wC.length=3)&&x.wC.all (fun n=>decide (n<18446744069414584321))
def vOuts (l:List wU):Bool:=decide (l.length<=4)&&l.all vOut
def vAmounts (t:wJ):Bool:=decide (t.wL<=4294967295)&&decide (t.wI<=4294967295)&&decide (t.Fee<=4294967295)&&decide (t.wN<18446744069414584321)&&decide (t.wD<18446744069414584321)&&
 (if 0<t.wL then t.wI==0 else !t.wF.isEmpty&&t.wD==0&&(decide (0<t.wI)||t.wN==0))
def vRest (t:wJ):Bool:=decide (t.wT<18446744069414584321)&&decide (0<=t.wM)&&decide (t.wM<=1048576)
def validE (t:wJ):Int:=if vMarks t.wF&&vOuts t.wA&&vAmounts t&&vRest t then(if t.wO.length<=1048576 then 0 else 3)else 1
theorem k1c (t:wJ):vAmounts t=true↔t.wL<=4294967295/\t.wI<=4294967295/\t.Fee<=4294967295/\t.wN<18446744069414584321/\t.wD<18446744069414584321/\(0<t.wL->t.wI=0)/\(¬0<t.wL->t.wF≠[]/\t.wD=0/\(0<t.wI∨t.wN=0)):=by
 unfold vAmounts
 by_cases h:0<t.wL
 ·simp[h,and_assoc]
 ·simp[h,and_assoc]
structure OR (x:wU):Prop where
 c:U64 x.wV
 p0:U64 x.wR
 p1:U64 x.wP
 ci:Us x.wC
structure TR (t:wJ):Prop where
 a:U64 t.wT
 m:Us t.wF
 o:∀x∈t.wA,OR x
 d:U64 t.wL
 w:U64 t.wI
 f:U64 t.Fee
 ac:U64 t.wN
 n:U64 t.wD
 e: -9223372036854775808<=t.wM/\t.wM<=9223372036854775807
 p:By t.wO
def encO (x:wU):List Int:=dig 8 x.wV++dig 8 x.wR++dig 8 x.wP++encL x.wC
def encT (t:wJ) (p:List Int):List Int:=dig 8 t.wT++encL t.wF++dig 4 (len4 t.wA.length)++t.wA.flatMap encO++dig 8 t.wL++dig 8 t.wI++dig 8 t.Fee++dig 8 t.wN++dig 8 t.wD++dig 4 (len4 t.wM)++encB p
def weightS (t:wJ):Int:=if validE t=0 then(encT t t.wO).length else 0
def idS (t:wJ):Int:=if validE t=0 then hashB 14 (encT t t.wO)else 0
def smallB (t:wJ) (p:Int):Bool:=decide (t.wF.length<=10)&&decide (t.wA.length<=10)&&t.wA.all (fun x=>decide (x.wC.length<=10))&&decide ((t.wO.length:Int)<=p)
structure TL (t:wJ):Prop where
 m:t.wF.length<=4294967295
 o:t.wA.length<=4294967295
 c:∀x∈t.wA,x.wC.length<=4294967295
 p:t.wO.length<=4294967295
structure VO (x:wU):Prop where
 c:x.wV<18446744069414584321
 p:vPoint x.wR x.wP=true
 l:x.wC.length=3
 ci:∀n∈x.wC,n<18446744069414584321
theorem k4r (x:wU):vOut x=true↔VO x:=by
 unfold vOut
 simp only[Bool.and_eq_true,decide_eq_true_eq,List.all_eq_true]
 exact⟨fun h=>⟨h.1.1.1,h.1.1.2,h.1.2,h.2⟩,fun h=>⟨⟨⟨h.c,h.p⟩,h.l⟩,h.ci⟩⟩
structure VT (t:wJ):Prop where
 ml:t.wF.length<=4
 m:∀x∈t.wF,x<18446744069414584321
 mn:t.wF.Nodup
 ol:t.wA.length<=4
 o:∀x∈t.wA,VO x
 am:vAmounts t=true
 re:vRest t=true
 pl:t.wO.length<=1048576
theorem kr (t:wJ):validE t=0↔VT t:=by
 unfold validE
 constructor
 ·intro h
  split at h
  ·rename_i h1
   split at h
   ·rename_i h2
    simp only[Bool.and_eq_true,vMarks,vOuts,decide_eq_true_eq,List.all_eq_true]at h1
    exact⟨h1.1.1.1.1.1,h1.1.1.1.1.2,h1.1.1.1.2,h1.1.1.2.1,fun x hx=>(k4r x).1 (h1.1.1.2.2 x hx),h1.1.2,h1.2,h2⟩
   ·simp at h
  ·simp at h
 ·intro h
  have:(vMarks t.wF&&vOuts t.wA&&vAmounts t&&vRest t)=true:=by
   simp only[Bool.and_eq_true,vMarks,vOuts,decide_eq_true_eq,List.all_eq_true]
   exact⟨⟨⟨⟨⟨h.ml,h.m⟩,h.mn⟩,h.ol,fun x hx=>(k4r x).2 (h.o x hx)⟩,h.am⟩,h.re⟩
  rw[if_pos this,if_pos h.pl]
theorem VT.tl {t:wJ} (h:VT t):TL t:=⟨by have:=h.ml;omega,by have:=h.ol;omega,fun x hx=>by have:=(h.o x hx).l;omega,by have:=h.pl;omega⟩
theorem encO_by {x:wU}:By (encO x):=((((dig_by _ _).append (dig_by _ _)).append (dig_by _ _)).append (encL_by _))
theorem khc (l:List wU):By (l.flatMap encO):=fun x hx=>by
 obtain⟨y,_,hy⟩:=List.mem_flatMap.1 hx
 exact encO_by x hy
theorem encT_by {t:wJ} {p:List Int} (h:By p):By (encT t p):=
 ((((((((((dig_by _ _).append (encL_by _)).append (dig_by _ _)).append (khc _)).append (dig_by _ _)).append (dig_by _ _)).append (dig_by _ _)).append (dig_by _ _)).append (dig_by _ _)).append (dig_by _ _)).append (encB_by h)
theorem ke6 (x:wU):(encO x).length=28+8*x.wC.length:=by simp[encO];omega
theorem k1d:∀(l:List wU) (k:Nat),(∀x∈l,x.wC.length<=k)->(l.flatMap encO).length<=(28+8*k)*l.length
 |[],_,_=>by simp
 |x::r,k,h=>by
  have h1:=k1d r k (fun y hy=>h y (by simp[hy]))
  have h2:=h x (by simp)
  rw[List.flatMap_cons,List.length_append,ke6,List.length_cons,Nat.mul_add]
  omega
theorem k6s (t:wJ) (p:List Int):(encT t p).length=64+8*t.wF.length+(t.wA.flatMap encO).length+p.length:=by simp only[encT,List.length_append,kb,k12,k2q];omega
theorem VT.enc_len {t:wJ} (h:VT t) (p:List Int):(encT t p).length<=304+p.length:=by
 have h1:=h.ml
 have h2:=h.ol
 have h3:=k1d t.wA 3 (fun x hx=>by have:=(h.o x hx).l;omega)
 rw[k6s]
 omega
theorem kgw {t:wJ} {p:Int} (h:smallB t p=true) (hp:p<=1048576:=by omega):TL t:=by
 unfold smallB at h
 simp only[Bool.and_eq_true,decide_eq_true_eq,List.all_eq_true]at h
 exact⟨by omega,by omega,fun x hx=>by have:=h.1.2 x hx;omega,by omega⟩
structure RD where
 n:Int
 ok:Bool
 pos:Int
 fail:Bool
structure RL where
 l:List Int
 pos:Int
 fail:Bool
structure RdOk (b:List Int) (pos:Int):Prop where
 by_:By b
 len:b.length<=137438953472
 pos0:0<=pos
 pos1:pos<=b.length
def rdD (b:List Int) (pos:Int) (f:Bool) (size:Int):RD:=
 if f=true∨(b.length:Int)-pos<size then⟨0,false,pos,true⟩else⟨val ((b.drop pos.toNat).take size.toNat),true,pos+size,false⟩
def rdI (b:List Int) (pos:Int) (f:Bool) (m:Int):RD:=
 if(rdD b pos f 4).ok=false∨m<(rdD b pos f 4).n then⟨0,false,(rdD b pos f 4).pos,true⟩else rdD b pos f 4
def rdB (b:List Int) (pos:Int) (f:Bool) (m:Int):RL:=
 if(rdI b pos f m).fail=true∨(b.length:Int)-(rdI b pos f m).pos<(rdI b pos f m).n then⟨[],(rdI b pos f m).pos,true⟩else⟨(b.take ((rdI b pos f m).pos+(rdI b pos f m).n).toNat).drop (rdI b pos f m).pos.toNat,(rdI b pos f m).pos+(rdI b pos f m).n,false⟩
def nums:Nat->List Int->List Int
 |0,_=>[]
 |k+1,b=>val (b.take 8)::nums k (b.drop 8)
@[simp] theorem kdr:∀(k:Nat) (b:List Int),(nums k b).length=k
 |0,_=>rfl
 |k+1,b=>by simp[nums,kdr k]
section
variable {b:List Int} {pos m p:Int} {f:Bool}
end
structure Enc (t:wJ) (b:List Int):Prop where
 r:TR t
 v:VT t
 e:encT t t.wO=b
open Classical in
theorem Enc.us {t:wJ} {b:List Int} (h:Enc t b):t.wT<=18446744069414584320/\t.wL<=4294967295/\t.wI<=4294967295/\t.Fee<=4294967295/\t.wN<=18446744069414584320/\t.wD<=18446744069414584320/\0<=t.wM/\t.wM<=1048576:=by
 have h1:=(k1c t).1 h.v.am
 have h2:=h.v.re
 unfold vRest at h2
 simp only[Bool.and_eq_true,decide_eq_true_eq]at h2
 omega
theorem VO.us {x:wU} (h:VO x):x.wV<=18446744069414584320/\x.wR<=18446744069414584320/\x.wP<=18446744069414584320:=by
 have h1:=h.c
 have h2:=h.p
 unfold vPoint at h2
 simp only[Bool.and_eq_true,decide_eq_true_eq]at h2
 omega
structure TD (t:wJ):Prop where
 r:TR t
 l:TL t
 o:t.wA.length<=1048576
 c:∀x∈t.wA,x.wC.length<=1024
theorem Enc.td {t:wJ} {b:List Int} (h:Enc t b):TD t:=⟨h.r,h.v.tl,by have:=h.v.ol;omega,fun x hx=>by have:=(h.v.o x hx).l;omega⟩
def sameT (a b:wJ):Bool:=decide (a.wA.length=b.wA.length)&&a.wM==b.wM&&decide (a.wA.map (·.wC.length)=b.wA.map (·.wC.length))&&decide (encT a a.wO=encT b b.wO)
@[simp] theorem keb (a:wJ):sameT a a=true:=by simp[sameT]
structure TK where
 n:Int
 r:List Int
 ok:Bool
structure TKL where
 l:List Int
 r:List Int
 ok:Bool
section
variable {b r:List Int} {n m:Int}
end
structure RB where
 l:List Int
 b:List Int
 f:Bool
structure RN where
 n:Int
 b:List Int
 f:Bool
def tkB (b:List Int) (f:Bool) (k:Int):RB:=if f=true∨(b.length:Int)<k then⟨[],b,true⟩else⟨b.take k.toNat,b.drop k.toNat,false⟩
section
variable {b r:List Int} {f:Bool} {k m n:Int}
end
theorem k5t:∀(q n:Nat) (l m:List Int),l.length=7*q->l.length+m.length<=n->packN n (l++m)=packN n l++packN n m
 |0,n,l,m,h,_=>by
  have:l=[]:=List.eq_nil_of_length_eq_zero (by omega)
  subst this
  have:packN n []=[]:=by cases n<;>rfl
  rw[this];rfl
 |q+1,n,l,m,h,hn=>by
  have hl:l≠[]:=by rintro rfl;simp at h
  have hlm:l++m≠[]:=by simp[hl]
  rw[k2z n l (by omega) hl,k2z n (l++m) (by simp;omega) hlm]
  have e1:(l++m).take 7=l.take 7:=by rw[List.take_append_of_le_length (by omega)]
  have e2:(l++m).drop 7=l.drop 7++m:=by rw[List.drop_append_of_le_length (by omega)]
  rw[e1,e2,k5t q n (l.drop 7) m (by simp;omega) (by simp;omega)]
  rfl
theorem ka6 {n:Nat} {l:List Int} (h0:l≠[]) (h7:l.length<=7) (hn:l.length<=n):packN n l=[val l]:=by
 rw[k2z n l hn h0,List.take_of_length_le h7,List.drop_eq_nil_of_le h7]
 cases n<;>rfl
def pkF (p:List Int) (i:Nat):List Int:=packN p.length (p.take (7*(i/7)))
def pkV (p:List Int) (i:Nat):Int:=val ((p.drop (7*(i/7))).take (i%7))
def pkI (p:List Int) (i:Nat):List Int:=if i%7=0 then pkF p i else pkF p i++[pkV p i]
theorem kcg {p:List Int} {i:Nat} (h:i<p.length) (hr:(i+1)%7≠0):pkF p (i+1)=pkF p i/\pkV p (i+1)=pkV p i+256^(i%7)*p[i]:=by
 have e1:(i+1)/7=i/7:=by omega
 have e2:(i+1)%7=i%7+1:=by omega
 refine⟨by unfold pkF;rw[e1],?_⟩
 unfold pkV
 rw[e1,e2]
 have hlt:i%7<(p.drop (7*(i/7))).length:=by rw[List.length_drop];omega
 have e4:(p.drop (7*(i/7)))[i%7]=p[i]:=by
  rw[List.getElem_drop]
  congr 1
  omega
 rw[List.take_succ_eq_append_getElem hlt,k52,List.length_take,Nat.min_eq_left (by omega),e4]
theorem khj {p:List Int} {i:Nat} (h:i<p.length) (hr:(i+1)%7=0):pkF p (i+1)=pkF p i++[pkV p i+256^(i%7)*p[i]]:=by
 have e1:(i+1)/7=i/7+1:=by omega
 have e2:i%7=6:=by omega
 unfold pkF pkV
 rw[e1,show 7*(i/7+1)=7*(i/7)+7 by omega,List.take_add]
 have hl1:(p.take (7*(i/7))).length=7*(i/7):=by rw[List.length_take];omega
 have hl2:((p.drop (7*(i/7))).take 7).length=7:=by rw[List.length_take,List.length_drop];omega
 rw[k5t (i/7) p.length _ _ hl1 (by rw[hl1,hl2];omega),ka6 (l:=(p.drop (7*(i/7))).take 7) (by intro h;rw[h]at hl2;simp at hl2) (by omega) (by omega)]
 have hlt:6<(p.drop (7*(i/7))).length:=by rw[List.length_drop];omega
 have e4:(p.drop (7*(i/7)))[6]=p[i]:=by
  rw[List.getElem_drop]
  congr 1
  omega
 rw[List.take_succ_eq_append_getElem hlt,k52,List.length_take,Nat.min_eq_left (by omega),e4,e2]
theorem kh4 {p:List Int} {i:Nat} (h:i<p.length):pkI p (i+1)=pkF p i++[(if i%7=0 then 0 else pkV p i)+256^(i%7)*p[i]]:=by
 have hz:i%7=0->pkV p i=0:=fun h0=>by unfold pkV;rw[h0];rfl
 have e:(if i%7=0 then(0:Int)else pkV p i)=pkV p i:=by split<;>simp_all
 rw[e]
 unfold pkI
 by_cases hr:(i+1)%7=0
 ·rw[if_pos hr,khj h hr]
 ·rw[if_neg hr,(kcg h hr).1,(kcg h hr).2]
theorem kgl (p:List Int):pkI p 0=[]:=by
 show packN p.length []=[]
 cases p.length<;>rfl
theorem kgy (p:List Int):pkI p p.length=packN p.length p:=by
 unfold pkI
 split
 ·rename_i h
  unfold pkF
  rw[List.take_of_length_le (by omega)]
 ·rename_i h
  unfold pkF pkV
  have hl1:(p.take (7*(p.length/7))).length=7*(p.length/7):=by rw[List.length_take];omega
  have hl2:(p.drop (7*(p.length/7))).length=p.length%7:=by rw[List.length_drop];omega
  have h1:=k5t (p.length/7) p.length (p.take (7*(p.length/7))) (p.drop (7*(p.length/7))) hl1 (by rw[hl1,hl2];omega)
  rw[List.take_append_drop]at h1
  rw[h1,ka6 (l:=p.drop (7*(p.length/7))) (by intro h2;rw[h2]at hl2;simp at hl2;omega) (by omega) (by omega),List.take_of_length_le (l:=p.drop (7*(p.length/7))) (by omega)]
theorem kf6 {p:List Int} (hp:By p) (i:Nat):0<=pkV p i/\pkV p i<256^(i%7):=by
 have h:=k3m ((p.drop (7*(i/7))).take (i%7)) ((hp.drop _).take _)
 refine⟨h.1,Int.lt_of_lt_of_le h.2 (k3u ?_)⟩
 rw[List.length_take];omega
theorem k84 (p:List Int) (i:Nat):(pkF p i).length<=p.length:=k27 _ _
theorem kea (p:List Int) (i:Nat):(pkI p i).length<=p.length+1:=by
 unfold pkI
 have:=k84 p i
 split
 ·omega
 ·simp;omega
theorem kgn (l:List Int) (a b:Int):(l++[a]).set l.length b=l++[b]:=by simp
def sumW (l:List wJ):Int:=(l.map weightS).sum
theorem kbd (l:List wJ) (x:wJ):sumW (l++[x])=sumW l+weightS x:=by simp[sumW]
theorem k59 {t:wJ} (h:validE t=0):0<=weightS t/\weightS t<=1048880:=by
 have v:=(kr t).1 h
 have:=v.enc_len t.wO
 have:=v.pl
 unfold weightS
 rw[if_pos h]
 omega
theorem sumW_bd:∀(l:List wJ),(∀x∈l,validE x=0)->0<=sumW l/\sumW l<=1048880*l.length
 |[],_=>by simp[sumW]
 |x::l,h=>by
  have h1:=sumW_bd l (fun y hy=>h y (by simp[hy]))
  have h2:=k59 (h x (by simp))
  have e:sumW (x::l)=weightS x+sumW l:=by simp[sumW]
  rw[e,List.length_cons]
  omega
structure BR (b:wB):Prop where
 p:U64 b.wH
 m:U64 b.wK
 w:U64 b.wG
 n:U64 b.wD
 h: -9223372036854775808<=b.wE/\b.wE<=9223372036854775807
 t:∀x∈b.Txs,TR x
structure VB0 (b:wB):Prop where
 h0:1<=b.wE
 h1:b.wE<=1048576
 w0:1<=b.wG
 w1:b.wG<=65536
 p:b.wH<18446744069414584321
 m:b.wK<18446744069414584321
 l:b.Txs.length<=64
def vHead (b:wB):Bool:=decide (1<=b.wE)&&decide (b.wE<=1048576)&&decide (1<=b.wG)&&decide (b.wG<=65536)&&decide (b.wH<18446744069414584321)&&decide (b.wK<18446744069414584321)&&decide (b.Txs.length<=64)
theorem k3q (b:wB):vHead b=true↔VB0 b:=by
 unfold vHead
 simp only[Bool.and_eq_true,decide_eq_true_eq]
 constructor
 ·rintro ⟨⟨⟨⟨⟨⟨a,b⟩,c⟩,d⟩,e⟩,f⟩,g⟩
  exact⟨a,b,c,d,e,f,g⟩
 ·rintro ⟨a,b,c,d,e,f,g⟩
  exact⟨⟨⟨⟨⟨⟨a,b⟩,c⟩,d⟩,e⟩,f⟩,g⟩
def validB (b:wB):Int:=if vHead b=true/\∀t∈b.Txs,validE t=0 then(if sumW b.Txs<=2097152 then 0 else 3)else 1
structure VB (b:wB):Prop where
 h:VB0 b
 t:∀x∈b.Txs,validE x=0
 s:sumW b.Txs<=2097152
theorem k1l (b:wB):validB b=0↔VB b:=by
 unfold validB
 split
 ·rename_i h
  split
  ·rename_i hs
   exact⟨fun _=>⟨(k3q b).1 h.1,h.2,hs⟩,fun _=>rfl⟩
  ·rename_i hs
   exact⟨fun e=>absurd e (by decide),fun e=>absurd e.s hs⟩
 ·rename_i h
  exact⟨fun e=>absurd e (by decide),fun e=>absurd ⟨(k3q b).2 e.h,e.t⟩ h⟩
theorem k6m {b:wB} (h:¬VB0 b):validB b=1:=if_neg fun e=>h ((k3q b).1 e.1)
theorem kal {b:wB} {x:wJ} (hx:x∈b.Txs) (h:validE x≠0):validB b=1:=if_neg fun e=>h (e.2 x hx)
theorem k9z {b:wB} (h:VB0 b) (ht:∀x∈b.Txs,validE x=0):validB b=if sumW b.Txs<=2097152 then 0 else 3:=if_pos ⟨(k3q b).2 h,ht⟩
def hdrS (b:wB):List Int:=dig 8 b.wH++dig 4 (len4 b.wE)++dig 8 b.wK++dig 8 b.wG++dig 8 b.wD++dig 4 (len4 (b.Txs.length:Int))
@[simp] theorem k2o (b:wB):(hdrS b).length=40:=by simp[hdrS]
theorem hdrS_by (b:wB):By (hdrS b):=((((((dig_by _ _).append (dig_by _ _)).append (dig_by _ _)).append (dig_by _ _)).append (dig_by _ _)).append (dig_by _ _))
def encTx (t:wJ):List Int:=encB (encT t t.wO)
def encBk (b:wB):List Int:=hdrS b++b.Txs.flatMap encTx
def namS (b:wB):List Int:=hdrS b++(b.Txs.map idS).flatMap (dig 8)
def idB (b:wB):Int:=if validB b=0 then hashB 15 (namS b)else 0
def zeroB:wB:=⟨0,0,0,0,0,[]⟩
structure MN where
 b:wB
 ok:Bool
def mineN:Nat->wB->MN
 |0,_=>⟨zeroB,false⟩
 |k+1,b=>if Int.tmod (hashB 15 (namS b)) b.wG=0 then⟨b,true⟩else if b.wD=18446744073709551615 then⟨zeroB,false⟩else mineN k ⟨b.wH,b.wE,b.wK,b.wG,b.wD+1,b.Txs⟩
def mineS (b:wB) (k:Int):MN:=if k<=0∨validB b≠0 then⟨zeroB,false⟩else mineN k.toNat b
def sameB (a b:wB):Bool:=decide (a.wH=b.wH/\a.wE=b.wE/\a.wK=b.wK/\a.wG=b.wG/\a.wD=b.wD/\a.Txs.length=b.Txs.length/\∀i:Nat,i<a.Txs.length->sameT (ix a.Txs (i:Int)) (ix b.Txs (i:Int))=true)
def smallBk (b:wB):Bool:=decide (b.Txs.length<=6)&&b.Txs.all (fun t=>smallB t 100)
theorem kec {b:wB} (h:smallBk b=true):b.Txs.length<=6/\∀t∈b.Txs,smallB t 100=true:=by
 unfold smallBk at h
 simp only[Bool.and_eq_true,decide_eq_true_eq,List.all_eq_true]at h
 exact h
theorem kfd (label:Int) (l:List Int):U64 (hashB label l):=kfe _ _
theorem idS_u64 (t:wJ):U64 (idS t):=by
 unfold idS
 split
 ·exact kfd _ _
 ·omega
theorem kc5 {t:wJ} (h:validE t=0):(encTx t).length<=1048884:=by
 have v:=(kr t).1 h
 have:=v.enc_len t.wO
 have:=v.pl
 unfold encTx
 rw[k2q]
 omega
theorem k5b:∀(l:List wJ),(∀x∈l,validE x=0)->(l.flatMap encTx).length<=1048884*l.length
 |[],_=>by simp
 |x::l,h=>by
  have h1:=k5b l (fun y hy=>h y (by simp[hy]))
  have h2:=kc5 (h x (by simp))
  rw[List.flatMap_cons,List.length_append,List.length_cons]
  omega
theorem VT.bl {t:wJ} (h:VT t) (r:TR t):TR t/\TL t/\t.wA.length<=1048576/\∀x∈t.wA,x.wC.length<=1024:=⟨r,h.tl,by have:=h.ol;omega,fun x hx=>by have:=(h.o x hx).l;omega⟩
structure EB (x:wB) (b:List Int):Prop where
 r:BR x
 v:VB x
 e:encBk x=b
open Classical in
theorem VB.td {b:wB} (h:VB b) (r:∀x∈b.Txs,TR x):∀x∈b.Txs,TD x:=fun x hx=>Enc.td (b:=encT x x.wO) ⟨r x hx,(kr x).1 (h.t x hx),rfl⟩
theorem kf2 (b:wB):sameB b b=true:=decide_eq_true ⟨rfl,rfl,rfl,rfl,rfl,rfl,fun i _=>keb _⟩
theorem idS_us (l:List wJ):Us (l.map idS):=fun x hx=>by
 obtain⟨t,_,rfl⟩:=List.mem_map.1 hx
 exact idS_u64 t
theorem namS_by (x:wB):By (namS x):=(hdrS_by x).append (k77 _)
theorem kdo (x:wB):(namS x).length=40+8*x.Txs.length:=by
 unfold namS
 rw[List.length_append,k2o,k15,List.length_map]
theorem VB.vt {x:wB} (h:VB x) {t:wJ} (ht:t∈x.Txs):VT t:=(kr t).1 (h.t t ht)
theorem encT_le {t:wJ} (h:VT t):(encT t t.wO).length<=1099511627775:=by
 have h1:=h.enc_len t.wO
 have h2:=h.pl
 omega
theorem kd0:∀(k:Nat) (b c:wB),U64 b.wD->mineN k b=⟨c,true⟩->Int.tmod (hashB 15 (namS c)) c.wG=0/\∃n,U64 n/\c=⟨b.wH,b.wE,b.wK,b.wG,n,b.Txs⟩
 |0,_,_,_,h=>by injection h with _ h;cases h
 |k+1,b,c,hn,h=>by
  unfold mineN at h
  split at h
  ·rename_i hz
   injection h with h1 _
   subst h1
   exact⟨hz,b.wD,hn,rfl⟩
  ·split at h
   ·injection h with _ h;cases h
   ·rename_i h2
    exact kd0 k ⟨b.wH,b.wE,b.wK,b.wG,b.wD+1,b.Txs⟩ c ⟨by have:=hn.1;show 0<=b.wD+1;omega,by have:=hn.2;show b.wD+1<_;omega⟩ h
theorem kgr {b:wB} {k:Int} (hn:U64 b.wD) (h:(mineS b k).ok=true):validB b=0/\Int.tmod (hashB 15 (namS (mineS b k).b)) (mineS b k).b.wG=0/\∃n,U64 n/\(mineS b k).b=⟨b.wH,b.wE,b.wK,b.wG,n,b.Txs⟩:=by
 by_cases hc:k<=0∨validB b≠0
 ·have e:mineS b k=⟨zeroB,false⟩:=if_pos hc
  rw[e]at h
  cases h
 ·have e:mineS b k=mineN k.toNat b:=if_neg hc
  rw[e]at h ⊢
  have h2:mineN k.toNat b=⟨(mineN k.toNat b).b,true⟩:=by rw[<-h]
  exact⟨Classical.byContradiction fun hv=>hc (.inr hv),kd0 _ _ _ hn h2⟩
theorem ka1:∀(k:Nat) (b:wB),(mineN k b).b.Txs=[]∨(mineN k b).b.Txs=b.Txs
 |0,_=> .inl rfl
 |k+1,b=>by
  unfold mineN
  split
  ·exact .inr rfl
  ·split
   ·exact .inl rfl
   ·exact ka1 k _
theorem kf9 (b:wB) (k:Int):(mineS b k).b.Txs=[]∨(validB b=0/\(mineS b k).b.Txs=b.Txs):=by
 by_cases hc:k<=0∨validB b≠0
 ·have e:mineS b k=⟨zeroB,false⟩:=if_pos hc
  rw[e]
  exact .inl rfl
 ·have e:mineS b k=mineN k.toNat b:=if_neg hc
  rw[e]
  rcases ka1 k.toNat b with h|h
  ·exact .inl h
  ·exact .inr ⟨Classical.byContradiction fun hv=>hc (.inr hv),h⟩
theorem kgm {b:wB} {k:Int} (hr:BR b):(mineS b k).b.Txs.length<=9223372036854775807/\∀x∈(mineS b k).b.Txs,TD x:=by
 rcases kf9 b k with h|⟨h1,h2⟩
 ·rw[h]
  exact⟨by decide,fun x hx=>by cases hx⟩
 ·have v:=(k1l b).1 h1
  rw[h2]
  exact⟨by have:=v.h.l;omega,v.td hr.t⟩
def checkB (w:Int) (b:wB):Int:=if validB b≠0 then validB b else if b.wG≠w then 17 else if Int.tmod (hashB 15 (namS b)) b.wG≠0 then 17 else 0
theorem kes {b:wB} {k:Int} (hr:BR b) (h:(mineS b k).ok=true):BR (mineS b k).b/\checkB b.wG (mineS b k).b=0:=by
 obtain⟨h1,h2,n,h3,h4⟩:=kgr hr.n h
 rw[h4]at h2 ⊢
 refine⟨⟨hr.p,hr.m,hr.w,h3,hr.h,hr.t⟩,?_⟩
 have hv:validB ⟨b.wH,b.wE,b.wK,b.wG,n,b.Txs⟩=0:=h1
 unfold checkB
 rw[if_neg (by simp[hv]),if_neg (by simp),if_neg (by simpa using h2)]
theorem k6c.tr {t:wJ} (h:k6c t):TR t/\t.wA.length<=9223372036854775807:=
 ⟨⟨h.wT,h.wF.2,fun x hx=>let y:=h.wA.2 x hx;⟨y.wV,y.wR,y.wP,y.wC.2⟩,h.wL,h.wI,h.Fee,h.wN,h.wD,by have:=h.wM;omega,h.wO.2⟩,h.wA.1⟩
theorem k6i {p0:wB} {p1:Int} (h0:k74 p0) (h1: -9223372036854775808<=p1/\p1<9223372036854775808):(BR p0/\∀x∈p0.Txs,x.wA.length<=9223372036854775807)/\p1<=9223372036854775807:=
 ⟨⟨⟨h0.wH,h0.wK,h0.wG,h0.wD,by have:=h0.wE;omega,fun x hx=>((h0.Txs.2 x hx).tr).1⟩,fun x hx=>((h0.Txs.2 x hx).tr).2⟩,by omega⟩
noncomputable def k5m:Con TB.den:= .tp 42 [.st 1] [.bool] [] fun(p0:wJ)=>((vAmounts p0:Bool),())
theorem k5p:k5m.Ok Try.prog TB:=qtv Bs Try.func42 .no c0 (Q:=∀(p0:wJ),∀r0:Bool,vAmounts p0=r0-> 
(decide (4294967295<p0.wL)=true->
false=r0)/\
(decide (4294967295<p0.wL)=false->
(decide (4294967295<p0.wI)=true->
false=r0)/\
(decide (4294967295<p0.wI)=false->
(decide (4294967295<p0.Fee)=true->
false=r0)/\
(decide (4294967295<p0.Fee)=false->
let v1:Bool:=decide (18446744069414584321<=p0.wN)
(v1=true->
false=r0)/\
(v1=false->
(decide (18446744069414584321<=p0.wD)=true->
false=r0)/\
(decide (18446744069414584321<=p0.wD)=false->
(decide (0<p0.wL)=true->
(p0.wI==0)=r0)/\
(decide (0<p0.wL)=false->
(((p0.wF.length:Int)==0)=true->
false=r0)/\
(((p0.wF.length:Int)==0)=false->
((p0.wD !=0)=true->
false=r0)/\
((p0.wD !=0)=false->
(decide (0<p0.wI)=true->
true=r0)/\
(decide (0<p0.wI)=false->
(p0.wN==0)=r0)))))))))) (by kernel_rfl)<|by
 rintro p0 _ rfl
 refine ?_
 unfold vAmounts
 try simp only[]
 repeat' (apply And.intro<;>intro h)
 all_goals simp only[decide_eq_true_eq,decide_eq_false_iff_not,beq_iff_eq,bne_iff_ne,Bool.not_eq_true,beq_eq_false_iff_ne,bne_eq_false_iff_eq,List.isEmpty_iff,Int.natCast_eq_zero,List.length_eq_zero_iff]at *
 all_goals simp[*]
 all_goals grind
noncomputable def k7r:Con TB.den:= .gp 63 [.sl yqu,yqu] [yqi] [] fun(p0:List Int) (p1:Int)=>(p0.length<=9223372036854775807,(idxI p0 p1:Int),())
theorem k8a:k7r.Ok Try.prog TB:=qrv Bs Try.func63 (.r 0 (.nd [] (.r 0 (.lp [] ⟨[],[],[8],[.one (zqi)],[]⟩ .no)) [] .no)) c0 (Q:=∀(p0:List Int) (p1:Int),(p0.length<=9223372036854775807)->∀r0:Int,idxI p0 p1=r0-> 
∃(I1:Int->Prop) (M1:Int->Nat),I1 0/\∀(b1:Int),(I1 b1->
(decide (b1<(p0.length:Int))=true->
(0<=b1)/\b1<(p0.length:Int)/\((p1==(ix p0 b1))=true->
b1=r0)/\
((p1==(ix p0 b1))=false->
I1 (i64.wrap (b1+1))/\M1 (i64.wrap (b1+1))<M1 b1))/\
(decide (b1<(p0.length:Int))=false->
(-1)=r0))) (by kernel_rfl)<|by
 rintro p0 p1 h _ rfl
 refine(⟨(fun i=>0<=i/\i<=p0.length/\p1∉p0.take i.toNat),(fun i=>(p0.length-i).toNat),⟨by omega,by omega,by simp⟩,?_⟩)
 rintro i ⟨g0,g1,g2⟩
 refine⟨fun h=> ?_,fun h=> ?_⟩
 ·have h:=of_decide_eq_true h
  refine⟨g0,h,fun e=> ?_,fun e=> ?_⟩
  ·have e:p1=ix p0 i:=by simpa using e
   unfold idxI
   rw[if_pos (by rw[e];exact ix_mem p0 i g0 h)]
   have:p0.idxOf p1=i.toNat:=by
    conv=>lhs;rw[<-List.take_append_drop i.toNat p0]
    rw[List.idxOf_append,if_neg g2,drop_ix p0 i g0 h,<-e,List.idxOf_cons_self,List.length_take]
    omega
   rw[this]
   omega
  ·have e:¬p1=ix p0 i:=by simpa using e
   rw[inc i p0.length g0 h (by omega)]
   refine⟨⟨by omega,by omega,?_⟩,by(dsimp only;omega)⟩
   rw[ka p0 i g0 h]
   simp only[List.mem_append,List.mem_singleton]
   exact fun hh=>hh.elim g2 e
 ·have h:=of_decide_eq_false h
  rw[List.take_of_length_le (by omega)]at g2
  unfold idxI
  rw[if_neg g2]
noncomputable def k5k:Con TB.den:= .gp 57 [.sl yqu,yqu] [.bool] [] fun(p0:List Int) (p1:Int)=>(p0.length<=9223372036854775807,(decide (p1∈p0):Bool),())
theorem k64:k5k.Ok Try.prog TB:=qrv Bs Try.func57 .no (k8a.c c0) (Q:=∀(p0:List Int) (p1:Int),(p0.length<=9223372036854775807)->∀r0:Bool,(decide (p1∈p0))=r0-> 
(p0.length<=9223372036854775807)/\decide (0<=(idxI p0 p1))=r0) (by kernel_rfl)<|by
 rintro p0 p1 h _ rfl
 refine⟨h,?_⟩
 unfold idxI
 by_cases hm:p1∈p0
 ·simp[hm]
 ·simp[hm]
noncomputable def k6g:Con TB.den:= .tp 40 [.sl yqu] [.bool] [] fun(p0:List Int)=>((vMarks p0:Bool),())
theorem k7f:k6g.Ok Try.prog TB:=qtv Bs Try.func40 (.r 1 (.nd [] (.r 0 (.lp [] ⟨[],[],[10],[.one (zqi)],[]⟩ .no)) [] .no)) (k64.c c0) (Q:=∀(p0:List Int),∀r0:Bool,vMarks p0=r0-> 
(decide (4<(p0.length:Int))=true->
false=r0)/\
(decide (4<(p0.length:Int))=false->
∃(I1:Int->Prop) (M1:Int->Nat),I1 0/\∀(b1:Int),(I1 b1->
(decide (b1<(p0.length:Int))=true->
(0<=b1)/\b1<(p0.length:Int)/\let v1:Bool:=decide (18446744069414584321<=(ix p0 b1))
(v1=true->
false=r0)/\
(v1=false->
(0<=b1)/\b1<=(p0.length:Int)/\((p0.take b1.toNat).length<=9223372036854775807)/\let r2:Bool:=(decide ((ix p0 b1)∈(p0.take b1.toNat)))
(r2=true->
false=r0)/\
(r2=false->
I1 (i64.wrap (b1+1))/\M1 (i64.wrap (b1+1))<M1 b1)))/\
(decide (b1<(p0.length:Int))=false->
true=r0)))) (by kernel_rfl)<|by
 rintro p0 _ rfl
 refine⟨fun h=> ?_,fun h=> ?_⟩
 ·have h:=of_decide_eq_true h
  unfold vMarks
  rw[decide_eq_false (by omega)]
  rfl
 ·have h:=of_decide_eq_false h
  refine⟨(fun i=>0<=i/\i<=p0.length/\(∀x∈p0.take i.toNat,x<18446744069414584321)/\(p0.take i.toNat).Nodup),(fun i=>(p0.length-i).toNat),⟨by omega,by omega,by simp,by simp⟩,?_⟩
  rintro i ⟨g0,g1,g2,g3⟩
  refine⟨fun hh=> ?_,fun hh=> ?_⟩
  ·have hh:=of_decide_eq_true hh
   have hm:=ix_mem p0 i g0 hh
   refine⟨g0,hh,fun e=> ?_,fun e=>⟨g0,by omega,by simp;omega,fun e2=> ?_,fun e2=> ?_⟩⟩
   ·have e:=of_decide_eq_true e
    unfold vMarks
    have:p0.all (fun x=>decide (x<18446744069414584321))=false:=List.all_eq_false.2 ⟨_,hm,by simp;omega⟩
    rw[this]
    simp
   ·have e2:=of_decide_eq_true e2
    unfold vMarks
    have:¬p0.Nodup:=by
     intro hn
     rw[<-List.take_append_drop i.toNat p0,drop_ix p0 i g0 hh]at hn
     have:=(List.nodup_append.1 hn).2.2 _ e2 _ (List.mem_cons_self ..)
     exact this rfl
    rw[decide_eq_false this]
    simp
   ·have e:=of_decide_eq_false e
    have e2:=of_decide_eq_false e2
    rw[inc i p0.length g0 hh (by omega)]
    refine⟨⟨by omega,by omega,?_,?_⟩,by(dsimp only;omega)⟩
    ·rw[ka p0 i g0 hh]
     intro x hx
     rcases List.mem_append.1 hx with hx|hx
     ·exact g2 x hx
     ·have:x=ix p0 i:=by simpa using hx
      omega
    ·rw[ka p0 i g0 hh]
     refine List.nodup_append.2 ⟨g3,by simp,fun a ha b hb=> ?_⟩
     have:b=ix p0 i:=by simpa using hb
     rintro rfl
     exact e2 (this▸ha)
  ·have hh:=of_decide_eq_false hh
   rw[List.take_of_length_le (by omega)]at g2 g3
   unfold vMarks
   have:p0.all (fun x=>decide (x<18446744069414584321))=true:=by simpa using g2
   rw[this,decide_eq_true g3,decide_eq_true (by omega)]
   rfl
noncomputable def k8n:Con TB.den:= .tp 58 [.st 3] [.bool] [] fun(p0:wX)=>((vPoint p0.a0 p0.a1:Bool),())
theorem k94:k8n.Ok Try.prog TB:=qtv Bs Try.func58 .no c0 (Q:=∀(p0:wX),∀r0:Bool,vPoint p0.a0 p0.a1=r0-> 
(decide (p0.a0<18446744069414584321)=true->
(decide (p0.a1<18446744069414584321)=true->
((p0.a0 !=0)=true->
true=r0)/\
((p0.a0 !=0)=false->
(p0.a1 !=0)=r0))/\
(decide (p0.a1<18446744069414584321)=false->
false=r0))/\
(decide (p0.a0<18446744069414584321)=false->
false=r0)) (by kernel_rfl)<|by
 rintro p0 _ rfl
 refine ?_
 unfold vPoint
 refine⟨fun h=>⟨fun h1=>⟨fun h2=> ?_,fun h2=> ?_⟩,fun h1=> ?_⟩,fun h=> ?_⟩<;>simp_all<;>omega
noncomputable def k72:Con TB.den:= .tp 41 [.sl (.st 0)] [.bool] [] fun(p0:List wU)=>((vOuts p0:Bool),())
theorem k8o:k72.Ok Try.prog TB:=qtv Bs Try.func41 (.r 1 (.nd [] (.r 0 (.lp [] ⟨[],[],[12],[.one (zqi)],[]⟩ (.r 1 (.nd [] (.r 2 (.lp [] ⟨[],[],[34],[.one (zqi)],[]⟩ .no)) [] .no)))) [] .no)) (k94.c c0) (Q:=∀(p0:List wU),∀r0:Bool,vOuts p0=r0-> 
(decide (4<(p0.length:Int))=true->
false=r0)/\
(decide (4<(p0.length:Int))=false->
∃(I1:Int->Prop) (M1:Int->Nat),I1 0/\∀(b1:Int),(I1 b1->
(decide (b1<(p0.length:Int))=true->
(0<=b1)/\b1<(p0.length:Int)/\let v1:Bool:=decide (18446744069414584321<=((ix p0 b1).wV))
(v1=true->
false=r0)/\
(v1=false->
let r2:Bool:=(vPoint (wX.mk ((ix p0 b1).wR) ((ix p0 b1).wP)).a0 (wX.mk ((ix p0 b1).wR) ((ix p0 b1).wP)).a1)
((!r2)=true->
false=r0)/\
((!r2)=false->
let v3:Bool:=((((ix p0 b1).wC).length:Int) !=3)
(v3=true->
false=r0)/\
(v3=false->
∃(I2:Int->Prop) (M2:Int->Nat),I2 0/\∀(f1:Int),(I2 f1->
let v4:Bool:=decide (f1<(((ix p0 b1).wC).length:Int))
(v4=true->
(0<=f1)/\f1<(((ix p0 b1).wC).length:Int)/\let v5:Bool:=decide (18446744069414584321<=(ix ((ix p0 b1).wC) f1))
(v5=true->
false=r0)/\
(v5=false->
I2 (i64.wrap (f1+1))/\M2 (i64.wrap (f1+1))<M2 f1))/\
(v4=false->
I1 (i64.wrap (b1+1))/\M1 (i64.wrap (b1+1))<M1 b1))))))/\
(decide (b1<(p0.length:Int))=false->
true=r0)))) (by kernel_rfl)<|by
 rintro p0 _ rfl
 refine⟨fun h=> ?_,fun h=> ?_⟩
 ·have h:=of_decide_eq_true h
  unfold vOuts
  rw[decide_eq_false (by omega)]
  rfl
 ·have h:=of_decide_eq_false h
  have bad:∀i,0<=i->i<(p0.length:Int)->vOut (ix p0 i)=false->false=vOuts p0:=by
   intro i h0 h1 hb
   unfold vOuts
   have:p0.all vOut=false:=List.all_eq_false.2 ⟨_,ix_mem p0 i h0 h1,by simp[hb]⟩
   rw[this]
   simp
  refine⟨(fun i=>0<=i/\i<=p0.length/\∀x∈p0.take i.toNat,vOut x=true),(fun i=>(p0.length-i).toNat),⟨by omega,by omega,by simp⟩,?_⟩
  rintro i ⟨g0,g1,g2⟩
  refine⟨fun hh=> ?_,fun hh=> ?_⟩
  ·have hh:=of_decide_eq_true hh
   have bd:=bad i g0 hh
   unfold vOut at bd
   refine⟨g0,hh,fun e=>bd ?_,fun e=>⟨fun e2=>bd ?_,fun e2=>⟨fun e3=>bd ?_,fun e3=> ?_⟩⟩⟩
   ·have e:=of_decide_eq_true e
    rw[decide_eq_false (by omega)]
    rfl
   ·have e2:vPoint (ix p0 i).wR (ix p0 i).wP=false:=by simpa using e2
    simp[e2]
   ·have e3:¬(ix p0 i).wC.length=3:=by
     have:¬((ix p0 i).wC.length:Int)=3:=by simpa using e3
     omega
    simp[e3]
   ·have e:=of_decide_eq_false e
    have e2:vPoint (ix p0 i).wR (ix p0 i).wP=true:=by simpa using e2
    have e3:(ix p0 i).wC.length=3:=by
     have:((ix p0 i).wC.length:Int)=3:=by simpa using e3
     omega
    refine⟨(fun k=>0<=k/\k<=3/\∀x∈(ix p0 i).wC.take k.toNat,x<18446744069414584321),(fun k=>(3-k).toNat),⟨by omega,by omega,by simp⟩,?_⟩
    rintro k ⟨k0,k1,k2⟩
    refine⟨fun hk=> ?_,fun hk=> ?_⟩
    ·have hk:=of_decide_eq_true hk
     refine⟨k0,hk,fun e4=>bd ?_,fun e4=> ?_⟩
     ·have e4:=of_decide_eq_true e4
      have:(ix p0 i).wC.all (fun n=>decide (n<18446744069414584321))=false:=List.all_eq_false.2 ⟨_,ix_mem _ k k0 hk,by simp;omega⟩
      rw[this]
      simp
     ·have e4:=of_decide_eq_false e4
      rw[inc k 3 k0 (by omega) (by omega)]
      refine⟨⟨by omega,by omega,?_⟩,by(dsimp only;omega)⟩
      rw[ka _ k k0 hk]
      intro x hx
      rcases List.mem_append.1 hx with hx|hx
      ·exact k2 x hx
      ·have:x=ix (ix p0 i).wC k:=by simpa using hx
       omega
    ·have hk:=of_decide_eq_false hk
     rw[List.take_of_length_le (by omega)]at k2
     have hv:vOut (ix p0 i)=true:=(k4r _).2 ⟨by omega,e2,e3,k2⟩
     have hi:=inc i p0.length g0 hh (by omega)
     rw[hi]
     have nxt:(0<=i+1/\i+1<=p0.length/\∀x∈p0.take (i+1).toNat,vOut x=true)/\(p0.length-(i+1)).toNat<(p0.length-i).toNat:=by
      refine⟨⟨by omega,by omega,?_⟩,by omega⟩
      rw[ka p0 i g0 hh]
      intro x hx
      rcases List.mem_append.1 hx with hx|hx
      ·exact g2 x hx
      ·have:x=ix p0 i:=by simpa using hx
       rw[this];exact hv
     exact nxt
  ·have hh:=of_decide_eq_false hh
   rw[List.take_of_length_le (by omega)]at g2
   unfold vOuts
   have:p0.all vOut=true:=by simpa using g2
   rw[this,decide_eq_true (by omega)]
   rfl
noncomputable def kci:Con TB.den:= .tp 22 [.st 1] [yqi] [] fun(p0:wJ)=>((validE p0:Int),())
theorem k6l:kci.Ok Try.prog TB:=qtv Bs Try.func22 .no (k7f.c (k8o.c (k5p.c c0))) (Q:=∀(p0:wJ),∀r0:Int,validE p0=r0-> 
((!(vMarks p0.wF))=true->
1=r0)/\
((!(vMarks p0.wF))=false->
((!(vOuts p0.wA))=true->
1=r0)/\
((!(vOuts p0.wA))=false->
((!(vAmounts p0))=true->
1=r0)/\
((!(vAmounts p0))=false->
let v1:Bool:=decide (18446744069414584321<=p0.wT)
(v1=true->
1=r0)/\
(v1=false->
(decide (p0.wM<0)=true->
1=r0)/\
(decide (p0.wM<0)=false->
(decide (1048576<p0.wM)=true->
1=r0)/\
(decide (1048576<p0.wM)=false->
let v2:Bool:=decide (1048576<(p0.wO.length:Int))
(v2=true->
3=r0)/\
(v2=false->
0=r0)))))))) (by kernel_rfl)<|by
 rintro p0 _ rfl
 refine ?_
 unfold validE vRest
 grind
noncomputable def k49:Con TB.den:= .g ⟨43,[.one (.own 0),.one (zqu),.one (zqi)],[.tip yqb],(.one (.one (.own 0))),[.tip yqb],false⟩ [yqu,yqi,.sl yqb] [.sl yqb] [] fun(p1 p2:Int) (w0:List Int)=>(U64 p1/\(0<=p2/\p2<=8)/\w0.length<=137438953472,(w0++dig p2.toNat p1:List Int),())
theorem k1i:k49.Ok Try.prog TB:=prv Bs Try.func43 (.r 0 (.nd [] (.r 0 (.lp [] ⟨[0],[.tip yqb],[0,1,8],[.one (.own 0),.one (zqu),.one (zqi)],[]⟩ .no)) [] .no)) c0 (Q:=∀(p1 p2:Int) (w0:List Int),(U64 p1/\(0<=p2/\p2<=8)/\w0.length<=137438953472)->∀e0:List Int,(w0++dig p2.toNat p1)=e0-> 
(w0=w0)/\∃(I1:Int->Int->(List Int)->Prop) (M1:Int->Int->(List Int)->Nat),I1 p1 0 w0/\∀(b1 f1:Int) (i1:List Int),(I1 b1 f1 i1->
(decide (f1<p2)=true->
i1.length=i1.length/\(i1.length+[IntKind.u8.wrap b1].length)*1<=140737488355328/\i1.length+[IntKind.u8.wrap b1].length<=maxLen/\(i1++[IntKind.u8.wrap b1]=i1++[IntKind.u8.wrap b1])/\I1 (ishr .u64 b1 8) (i64.wrap (f1+1)) (i1++[IntKind.u8.wrap b1])/\M1 (ishr .u64 b1 8) (i64.wrap (f1+1)) (i1++[IntKind.u8.wrap b1])<M1 b1 f1 i1)/\
(decide (f1<p2)=false->
(i1=i1)/\i1=e0))) (by kernel_rfl)<|by
 rintro p1 p2 w0 h _ rfl
 obtain⟨h1,h2,h3⟩:=h
 refine⟨rfl,⟨(fun n i g=>0<=i/\i<=p2/\U64 n/\n=p1/256^i.toNat/\g=w0++dig i.toNat p1),(fun _ i _=>(p2-i).toNat),⟨by omega,by omega,h1,by simp,by simp[dig]⟩,?_⟩⟩
 rintro n i g ⟨g0,g1,g2,g3,rfl⟩
 refine⟨fun h=> ?_,fun h=> ?_⟩
 ·have h:=of_decide_eq_true h
  rw[inc i p2 g0 h (by omega),ishr8,u8w]
  refine⟨rfl,?_,?_,rfl,⟨by omega,by omega,⟨by omega,by omega⟩,?_,?_⟩,by(dsimp only;omega)⟩
  ·simp;omega
  ·simp;unfold maxLen;omega
  ·rw[g3,show(i+1).toNat=i.toNat+1 by omega,Int.ediv_ediv_of_nonneg (Int.le_of_lt (k1u _)),Int.pow_succ]
  ·rw[show(i+1).toNat=i.toNat+1 by omega,k58,List.append_assoc,g3]
 ·have h:=of_decide_eq_false h
  exact⟨rfl,by rw[show i=p2 by omega]⟩
noncomputable def k4a:Con TB.den:= .g ⟨38,[.one (.own 0),.one (zqi)],[.tip yqb],(.one (.one (.own 0))),[.tip yqb],false⟩ [yqi,.sl yqb] [.sl yqb] [] fun(p1:Int) (w0:List Int)=>((-9223372036854775808<=p1/\p1<=9223372036854775807)/\w0.length<=137438953472,(w0++dig 4 (len4 p1):List Int),())
theorem k1k:k4a.Ok Try.prog TB:=prv Bs Try.func38 (.r 0 (.jn ⟨[],[],[1],[.one (zqi)],[]⟩ [] .no [] .no)) (k1i.c c0) (Q:=∀(p1:Int) (w0:List Int),((-9223372036854775808<=p1/\p1<=9223372036854775807)/\w0.length<=137438953472)->∀e0:List Int,(w0++dig 4 (len4 p1))=e0-> 
∀J1:Int->Prop,(∀(b1:Int),
((w0=w0)/\(U64 (u64.wrap b1)/\(0<=(4:Int)/\(4:Int)<=8)/\w0.length<=137438953472)/\let r1:List Int:=(w0++dig (4:Int).toNat (u64.wrap b1))
(r1=r1)/\r1=e0)->J1 b1)->
(decide (p1<0)=true->
J1 0)/\
(decide (p1<0)=false->
(decide (4294967295<p1)=true->
J1 0)/\
(decide (4294967295<p1)=false->
J1 p1))) (by kernel_rfl)<|by
 rintro p1 w0 h _ rfl
 obtain⟨h1,h2⟩:=h
 intro J1 j1
 have j:∀n,0<=n->n<=4294967295->len4 p1=n->J1 n:=by
  intro n h0 h1 e
  refine j1 _ ?_
  rw[wu n (by omega) (by omega),e]
  exact⟨rfl,⟨⟨h0,by omega⟩,by omega,h2⟩,by trivial,rfl⟩
 refine⟨fun h=>j 0 (by omega) (by omega) ?_,fun h=>⟨fun h' =>j 0 (by omega) (by omega) ?_,fun h' =>j p1 ?_ ?_ ?_⟩⟩
 ·have h:=of_decide_eq_true h;exact if_pos (.inl h)
 ·have h' :=of_decide_eq_true h';exact if_pos (.inr h')
 ·have h:=of_decide_eq_false h;omega
 ·have h' :=of_decide_eq_false h';omega
 ·have h:=of_decide_eq_false h;have h' :=of_decide_eq_false h';exact len4_in ⟨by omega,by omega⟩
noncomputable def k83:Con TB.den:= .g ⟨39,[.one (.d (.sl yqb)),.one (zqi)],[],(.one (.one (.own 0))),[.tip yqb],false⟩ [.sl yqb,yqi] [.sl yqb] [] fun(p0:List Int) (p1:Int)=>(0<=p1/\p0.length+p1<=140737488355328,p0,())
theorem k1w:k83.Ok Try.prog TB:=prv Bs Try.func39 (.r 3 (.rt [.frz 0 [4]])) c0 (Q:=∀(p0:List Int) (p1:Int),(0<=p1/\p0.length+p1<=140737488355328)->∀e0:List Int,p0=e0-> 
let v1:Int:=i64.wrap ((p0.length:Int)+p1)
0<=(p0.length:Int)/\(p0.length:Int)<=v1/\(v1.toNat*1<=140737488355328)/\(v1.toNat<=maxLen)/\(p0.length:Int).toNat=(List.replicate ((p0.length:Int).toNat) (0:Int)).length/\let v2:Int:=((min p0.length (List.replicate ((p0.length:Int).toNat) (0:Int)).length:Nat):Int)
((p0.length:Int).toNat=(rowOver (List.replicate ((p0.length:Int).toNat) (0:Int)) p0 (List.replicate ((p0.length:Int).toNat) (0:Int)).length).length)/\(rowOver (List.replicate ((p0.length:Int).toNat) (0:Int)) p0 (List.replicate ((p0.length:Int).toNat) (0:Int)).length=rowOver (List.replicate ((p0.length:Int).toNat) (0:Int)) p0 (List.replicate ((p0.length:Int).toNat) (0:Int)).length)/\rowOver (List.replicate ((p0.length:Int).toNat) (0:Int)) p0 (List.replicate ((p0.length:Int).toNat) (0:Int)).length=e0) (by kernel_rfl)<|by
 rintro p0 p1 h _ rfl
 obtain⟨h1,h2⟩:=h
 refine ?_
 rw[wi _ (by omega) (by omega)]
 have e:rowOver (List.replicate ((p0.length:Int).toNat) (0:Int)) p0 (List.replicate ((p0.length:Int).toNat) (0:Int)).length=p0:=ke1 _ _ (by simp)
 simp only[e]
 exact⟨by omega,by omega,by omega,by unfold maxLen;omega,by simp,by omega,by trivial,by trivial⟩
noncomputable def k93:Con TB.den:= .gp 21 [.sl yqb,.sl yqb] [.sl yqb] [] fun(p0 p1:List Int)=>(p0.length<=68719476736/\p1.length<=4294967295,(p0++encB p1:List Int),())
theorem k5h:k93.Ok Try.prog TB:=qrv Bs Try.func21 .no (k1w.c (k1k.c c0)) (Q:=∀(p0 p1:List Int),(p0.length<=68719476736/\p1.length<=4294967295)->∀r0:List Int,(p0++encB p1)=r0-> 
(0<=(i64.wrap (4+(p1.length:Int)))/\p0.length+(i64.wrap (4+(p1.length:Int)))<=140737488355328)/\(p0=p0)/\((-9223372036854775808<=(p1.length:Int)/\(p1.length:Int)<=9223372036854775807)/\p0.length<=137438953472)/\(p0++dig 4 (len4 (p1.length:Int))).length=(p0++dig 4 (len4 (p1.length:Int))).length/\((p0++dig 4 (len4 (p1.length:Int))).length+p1.length)*1<=140737488355328/\(p0++dig 4 (len4 (p1.length:Int))).length+p1.length<=maxLen/\let v1:List Int:=(p0++dig 4 (len4 (p1.length:Int)))++p1
v1=r0) (by kernel_rfl)<|by
 rintro p0 p1 h _ rfl
 obtain⟨h1,h2⟩:=h
 refine ?_
 rw[wi (4+(p1.length:Int)) (by omega) (by omega)]
 refine⟨⟨by omega,by omega⟩,by trivial,⟨by omega,by omega⟩,by trivial,?_,?_,?_⟩
 ·simp;omega
 ·simp;unfold maxLen;omega
 ·rw[List.append_assoc];rfl
noncomputable def kbh:Con TB.den:= .gp 36 [.sl yqb,yqi] [.sl yqb] [] fun(p0:List Int) (p1:Int)=>((-9223372036854775808<=p1/\p1<=9223372036854775807)/\p0.length<=137438953472,(p0++dig 4 (len4 p1):List Int),())
theorem k6u:kbh.Ok Try.prog TB:=qrv Bs Try.func36 .no (k1w.c (k1k.c c0)) (Q:=∀(p0:List Int) (p1:Int),((-9223372036854775808<=p1/\p1<=9223372036854775807)/\p0.length<=137438953472)->∀r0:List Int,(p0++dig 4 (len4 p1))=r0-> 
(0<=(4:Int)/\p0.length+(4:Int)<=140737488355328)/\(p0=p0)/\((-9223372036854775808<=p1/\p1<=9223372036854775807)/\p0.length<=137438953472)/\(p0++dig 4 (len4 p1))=r0) (by kernel_rfl)<|by
 rintro p0 p1 h _ rfl
 obtain⟨h1,h2⟩:=h
 exact⟨⟨by omega,by omega⟩,by trivial,⟨h1,h2⟩,rfl⟩
noncomputable def kb2:Con TB.den:= .gp 56 [.sl yqb,.sl yqu] [.sl yqb] [] fun(p0 p1:List Int)=>(Us p1/\p0.length<=68719476736/\p1.length<=4294967295,(p0++encL p1:List Int),())
theorem kd9:kb2.Ok Try.prog TB:=qrv Bs Try.func56 (.r 1 (.nd [] (.r 0 (.lp [] ⟨[0],[.tip yqb],[5,19],[.one (.own 0),.one (zqi)],[]⟩ .no)) [] .no)) (k1w.c (k1k.c (k1i.c c0))) (Q:=∀(p0 p1:List Int),(Us p1/\p0.length<=68719476736/\p1.length<=4294967295)->∀r0:List Int,(p0++encL p1)=r0-> 
let v1:Int:=i64.wrap (4+(i64.wrap (8*(p1.length:Int))))
(0<=v1/\p0.length+v1<=140737488355328)/\(p0=p0)/\((-9223372036854775808<=(p1.length:Int)/\(p1.length:Int)<=9223372036854775807)/\p0.length<=137438953472)/\((p0++dig 4 (len4 (p1.length:Int)))=(p0++dig 4 (len4 (p1.length:Int))))/\∃(I1:Int->(List Int)->Prop) (M1:Int->(List Int)->Nat),I1 0 (p0++dig 4 (len4 (p1.length:Int)))/\∀(b1:Int) (f1:List Int),(I1 b1 f1->
(decide (b1<(p1.length:Int))=true->
(0<=b1)/\b1<(p1.length:Int)/\(f1=f1)/\(U64 (ix p1 b1)/\(0<=(8:Int)/\(8:Int)<=8)/\f1.length<=137438953472)/\((f1++dig (8:Int).toNat (ix p1 b1))=(f1++dig (8:Int).toNat (ix p1 b1)))/\I1 (i64.wrap (b1+1)) (f1++dig (8:Int).toNat (ix p1 b1))/\M1 (i64.wrap (b1+1)) (f1++dig (8:Int).toNat (ix p1 b1))<M1 b1 f1)/\
(decide (b1<(p1.length:Int))=false->
f1=r0))) (by kernel_rfl)<|by
 rintro p0 p1 h _ rfl
 obtain⟨h1,h2,h3⟩:=h
 refine ?_
 rw[wi (8*(p1.length:Int)) (by omega) (by omega),wi (4+8*(p1.length:Int)) (by omega) (by omega)]
 refine⟨⟨by omega,by omega⟩,by trivial,⟨by omega,by omega⟩,by trivial,?_⟩
 refine⟨(fun i g=>0<=i/\i<=p1.length/\g=p0++dig 4 (len4 p1.length)++(p1.take i.toNat).flatMap (dig 8)),(fun i _=>(p1.length-i).toNat),⟨by omega,by omega,by simp⟩,?_⟩
 rintro i g ⟨g0,g1,rfl⟩
 refine⟨fun h=> ?_,fun h=> ?_⟩
 ·have h:=of_decide_eq_true h
  have hx:=h1 _ (ix_mem p1 i g0 h)
  rw[inc i p1.length g0 h (by omega)]
  refine⟨g0,h,by trivial,⟨hx,by omega,?_⟩,by trivial,⟨by omega,by omega,?_⟩,by(dsimp only;omega)⟩
  ·simp only[List.length_append,kb,k15,List.length_take];omega
  ·rw[ka p1 i g0 h,List.flatMap_append,List.append_assoc]
   simp
 ·have h:=of_decide_eq_false h
  rw[List.take_of_length_le (by omega),List.append_assoc]
  rfl
noncomputable def kb1:Con TB.den:= .gp 25 [.sl yqb,yqu] [.sl yqb] [] fun(p0:List Int) (p1:Int)=>(U64 p1/\p0.length<=137438953472,(p0++dig 8 p1:List Int),())
theorem k3g:kb1.Ok Try.prog TB:=qrv Bs Try.func25 .no (k1w.c (k1i.c c0)) (Q:=∀(p0:List Int) (p1:Int),(U64 p1/\p0.length<=137438953472)->∀r0:List Int,(p0++dig 8 p1)=r0-> 
(0<=(8:Int)/\p0.length+(8:Int)<=140737488355328)/\(p0=p0)/\(U64 p1/\(0<=(8:Int)/\(8:Int)<=8)/\p0.length<=137438953472)/\(p0++dig (8:Int).toNat p1)=r0) (by kernel_rfl)<|by
 rintro p0 p1 h _ rfl
 obtain⟨h1,h2⟩:=h
 refine⟨⟨by omega,by omega⟩,by trivial,⟨h1,by omega,h2⟩,rfl⟩
noncomputable def kb7:Con TB.den:= .gp 37 [.st 1,.sl yqb] [.sl yqb] [] fun(p0:wJ) (p1:List Int)=>(TR p0/\TL p0/\p0.wA.length<=1048576/\(∀x∈p0.wA,x.wC.length<=1024)/\p1.length<=4294967295,(encT p0 p1:List Int),())
theorem kcv:kb7.Ok Try.prog TB:=qrv Bs Try.func37 (.r 3 (.nd [] (.r 0 (.lp [] ⟨[],[],[5,23],[.one (.d (.sl yqb)),.one (zqi)],[]⟩ .no)) [] .no)) (k3g.c (kd9.c (k6u.c (k5h.c c0)))) (Q:=∀(p0:wJ) (p1:List Int),(TR p0/\TL p0/\p0.wA.length<=1048576/\(∀x∈p0.wA,x.wC.length<=1024)/\p1.length<=4294967295)->∀r0:List Int,encT p0 p1=r0-> 
(U64 p0.wT/\([]:List Int).length<=137438953472)/\(Us p0.wF/\(([]:List Int)++dig 8 p0.wT).length<=68719476736/\p0.wF.length<=4294967295)/\let r1:List Int:=((([]:List Int)++dig 8 p0.wT)++encL p0.wF)
((-9223372036854775808<=(p0.wA.length:Int)/\(p0.wA.length:Int)<=9223372036854775807)/\r1.length<=137438953472)/\let r2:List Int:=(r1++dig 4 (len4 (p0.wA.length:Int)))
∃(I1:(List Int)->Int->Prop) (M1:(List Int)->Int->Nat),I1 r2 0/\∀(b1:List Int) (f1:Int),(I1 b1 f1->
(decide (f1<(p0.wA.length:Int))=true->
(0<=f1)/\f1<(p0.wA.length:Int)/\(U64 ((ix p0.wA f1).wV)/\b1.length<=137438953472)/\(U64 ((ix p0.wA f1).wR)/\(b1++dig 8 ((ix p0.wA f1).wV)).length<=137438953472)/\let r3:List Int:=((b1++dig 8 ((ix p0.wA f1).wV))++dig 8 ((ix p0.wA f1).wR))
(U64 ((ix p0.wA f1).wP)/\r3.length<=137438953472)/\(Us ((ix p0.wA f1).wC)/\(r3++dig 8 ((ix p0.wA f1).wP)).length<=68719476736/\((ix p0.wA f1).wC).length<=4294967295)/\let r4:List Int:=((r3++dig 8 ((ix p0.wA f1).wP))++encL ((ix p0.wA f1).wC))
I1 r4 (i64.wrap (f1+1))/\M1 r4 (i64.wrap (f1+1))<M1 b1 f1)/\
(decide (f1<(p0.wA.length:Int))=false->
(U64 p0.wL/\b1.length<=137438953472)/\(U64 p0.wI/\(b1++dig 8 p0.wL).length<=137438953472)/\let r5:List Int:=((b1++dig 8 p0.wL)++dig 8 p0.wI)
(U64 p0.Fee/\r5.length<=137438953472)/\(U64 p0.wN/\(r5++dig 8 p0.Fee).length<=137438953472)/\let r6:List Int:=((r5++dig 8 p0.Fee)++dig 8 p0.wN)
(U64 p0.wD/\r6.length<=137438953472)/\((-9223372036854775808<=p0.wM/\p0.wM<=9223372036854775807)/\(r6++dig 8 p0.wD).length<=137438953472)/\let r7:List Int:=((r6++dig 8 p0.wD)++dig 4 (len4 p0.wM))
(r7.length<=68719476736/\p1.length<=4294967295)/\(r7++encB p1)=r0))) (by kernel_rfl)<|by
 rintro p0 p1 h _ rfl
 obtain⟨hr,hl,ho,hc,hp⟩:=h
 have hm:=hl.m
 have hol:=k1d
 refine⟨⟨hr.a,by simp⟩,⟨hr.m,by simp,hm⟩,⟨by omega,by simp;omega⟩,?_⟩
 refine⟨(fun b i=>0<=i/\i<=p0.wA.length/\b=dig 8 p0.wT++encL p0.wF++dig 4 (len4 p0.wA.length)++(p0.wA.take i.toNat).flatMap encO),(fun _ i=>(p0.wA.length-i).toNat),⟨by omega,by omega,by simp⟩,?_⟩
 rintro b i ⟨g0,g1,rfl⟩
 have hb:=k1d (p0.wA.take i.toNat) 1024 (fun x hx=>hc x (List.mem_of_mem_take hx))
 rw[List.length_take]at hb
 have hb:((p0.wA.take i.toNat).flatMap encO).length<=8700000000:=by
  refine Nat.le_trans hb ?_
  have:min i.toNat p0.wA.length<=1048576:=by omega
  have:=Nat.mul_le_mul_left (28+8*1024) this
  omega
 refine⟨fun h=> ?_,fun h=> ?_⟩
 ·have h:=of_decide_eq_true h
  have hx:=hr.o _ (ix_mem p0.wA i g0 h)
  have hxc:=hc _ (ix_mem p0.wA i g0 h)
  rw[inc i p0.wA.length g0 h (by omega)]
  refine⟨g0,h,⟨hx.c,?_⟩,⟨hx.p0,?_⟩,⟨hx.p1,?_⟩,⟨hx.ci,?_,by omega⟩,⟨by omega,by omega,?_⟩,by(dsimp only;omega)⟩
  ·simp only[List.length_append,kb,k12];omega
  ·simp only[List.length_append,kb,k12];omega
  ·simp only[List.length_append,kb,k12];omega
  ·simp only[List.length_append,kb,k12];omega
  ·rw[ka p0.wA i g0 h,List.flatMap_append]
   simp[encO,List.append_assoc]
 ·have h:=of_decide_eq_false h
  rw[List.take_of_length_le (by omega)]at hb ⊢
  refine⟨⟨hr.d,?_⟩,⟨hr.w,?_⟩,⟨hr.f,?_⟩,⟨hr.ac,?_⟩,⟨hr.n,?_⟩,⟨hr.e,?_⟩,⟨?_,hp⟩,rfl⟩<;>simp only[List.length_append,kb,k12]<;>omega
noncomputable def kb8:Con TB.den:= .gp 20 [.st 1] [.sl yqb,yqi] [] fun(p0:wJ)=>(TR p0,((if validE p0=0 then encT p0 p0.wO else []):List Int),(validE p0:Int),())
theorem k3e:kb8.Ok Try.prog TB:=qrv Bs Try.func20 .no (k6l.c (kcv.c c0)) (Q:=∀(p0:wJ),(TR p0)->∀r0:List Int,((if validE p0=0 then encT p0 p0.wO else []):List Int)=r0->∀r1:Int,validE p0=r1-> 
(((validE p0) !=0)=true->
([]:List Int)=r0/\(validE p0)=r1)/\
(((validE p0) !=0)=false->
(TR p0/\TL p0/\p0.wA.length<=1048576/\(∀x∈p0.wA,x.wC.length<=1024)/\p0.wO.length<=4294967295)/\(encT p0 p0.wO)=r0/\0=r1)) (by kernel_rfl)<|by
 rintro p0 h _ rfl _ rfl
 refine⟨fun e=> ?_,fun e=> ?_⟩
 ·have e:validE p0≠0:=by simpa using e
  rw[if_neg e]
  exact⟨rfl,rfl⟩
 ·have e:validE p0=0:=by simpa using e
  have v:=(kr p0).1 e
  rw[if_pos e,e]
  exact⟨⟨h,v.tl,by have:=v.ol;omega,fun x hx=>by have:=(v.o x hx).l;omega,v.tl.p⟩,rfl,rfl⟩
noncomputable def kb4:Con TB.den:= .gp 23 [.st 1] [yqi] [] fun(p0:wJ)=>(TR p0,(weightS p0:Int),())
theorem kcb:kb4.Ok Try.prog TB:=qrv Bs Try.func23 .no (k3e.c c0) (Q:=∀(p0:wJ),(TR p0)->∀r0:Int,weightS p0=r0-> 
(TR p0)/\let r1:List Int:=(if validE p0=0 then encT p0 p0.wO else [])
(((validE p0) !=0)=true->
0=r0)/\
(((validE p0) !=0)=false->
(r1.length:Int)=r0)) (by kernel_rfl)<|by
 rintro p0 h _ rfl
 refine⟨h,?_⟩
 unfold weightS
 refine⟨fun e=> ?_,fun e=> ?_⟩
 ·have e:validE p0≠0:=by simpa using e
  rw[if_neg e]
 ·have e:validE p0=0:=by simpa using e
  rw[if_pos e,if_pos e]
noncomputable def k89:Con TB.den:= .gp 12 [.st 2] [yqi] [] fun(p0:wB)=>(∀x∈p0.Txs,TR x,(validB p0:Int),())
theorem k2e:k89.Ok Try.prog TB:=qrv Bs Try.func12 (.r 0 (.jn ⟨[],[],[],[],[]⟩ [] (.nd [] (.jn ⟨[],[],[6],[.one (.d (.bool))],[]⟩ [] .no [] (.r 0 (.jn ⟨[],[],[6],[.one (.d (.bool))],[]⟩ [] .no [] (.r 0 (.jn ⟨[],[],[6],[.one (.d (.bool))],[]⟩ [] .no [] .no))))) [] .no) [] (.r 0 (.nd [] (.r 0 (.lp [] ⟨[],[],[3,38],[.one (zqi),.one (zqi)],[]⟩ .no)) [] .no)))) (k6l.c (kcb.c c0)) (Q:=∀(p0:wB),(∀x∈p0.Txs,TR x)->∀r0:Int,validB p0=r0-> 
∀J1:Prop,((∃(I1:Int->Int->Prop) (M1:Int->Int->Nat),I1 0 0/\∀(k1 l1:Int),(I1 k1 l1->
(decide (l1<(p0.Txs.length:Int))=true->
(0<=l1)/\l1<(p0.Txs.length:Int)/\(((validE (ix p0.Txs l1)) !=0)=true->
1=r0)/\
(((validE (ix p0.Txs l1)) !=0)=false->
(TR (ix p0.Txs l1))/\let v2:Int:=i64.wrap (k1+(weightS (ix p0.Txs l1)))
I1 v2 (i64.wrap (l1+1))/\M1 v2 (i64.wrap (l1+1))<M1 k1 l1))/\
(decide (l1<(p0.Txs.length:Int))=false->
(decide (2097152<k1)=true->
3=r0)/\
(decide (2097152<k1)=false->
0=r0))))->J1)->
∀J2:Bool->Prop,(∀(b1:Bool),
((b1=true->
(b1=true->
1=r0)/\
(b1=false->
J1))/\
(b1=false->
∀J3:Bool->Prop,(∀(f1:Bool),
((f1=true->
(f1=true->
1=r0)/\
(f1=false->
J1))/\
(f1=false->
∀J4:Bool->Prop,(∀(i1:Bool),
((i1=true->
(i1=true->
1=r0)/\
(i1=false->
J1))/\
(i1=false->
(decide (64<(p0.Txs.length:Int))=true->
1=r0)/\
(decide (64<(p0.Txs.length:Int))=false->
J1)))->J4 i1)->
let v1:Bool:=decide (18446744069414584321<=p0.wH)
(v1=true->
J4 true)/\
(v1=false->
J4 (decide (18446744069414584321<=p0.wK)))))->J3 f1)->
(decide (p0.wG<1)=true->
J3 true)/\
(decide (p0.wG<1)=false->
J3 (decide (65536<p0.wG)))))->J2 b1)->
(decide (p0.wE<1)=true->
J2 true)/\
(decide (p0.wE<1)=false->
J2 (decide (1048576<p0.wE)))) (by kernel_rfl)<|by
 rintro p0 h _ rfl
 have nv:¬VB0 p0->(1:Int)=validB p0:=fun hn=>(k6m hn).symm
 intro J1 k1
 have j1:VB0 p0->J1:=fun hc=>k1 (by
  have hl:=hc.l
  refine⟨(fun w i=>0<=i/\i<=p0.Txs.length/\w=sumW (p0.Txs.take i.toNat)/\∀t∈p0.Txs.take i.toNat,validE t=0),(fun _ i=>(p0.Txs.length-i).toNat),⟨by omega,by omega,by simp[sumW],by simp⟩,?_⟩
  rintro w i ⟨g0,g1,rfl,g3⟩
  have hb:=sumW_bd _ g3
  rw[List.length_take]at hb
  refine⟨fun hh=> ?_,fun hh=> ?_⟩
  ·have hh:=of_decide_eq_true hh
   have hm:=ix_mem p0.Txs i g0 hh
   refine⟨g0,hh,fun e=> ?_,fun e=>⟨h _ hm,?_⟩⟩
   ·have e:validE (ix p0.Txs i)≠0:=by simpa using e
    exact(kal hm e).symm
   ·have e:validE (ix p0.Txs i)=0:=by simpa using e
    have hw:=k59 e
    try simp only[]
    rw[inc i p0.Txs.length g0 hh (by omega),wi (sumW (p0.Txs.take i.toNat)+weightS (ix p0.Txs i)) (by omega) (by omega)]
    refine⟨⟨by omega,by omega,?_,?_⟩,by(first|omega|(dsimp only;omega))⟩
    ·rw[ka p0.Txs i g0 hh,kbd]
    ·rw[ka p0.Txs i g0 hh]
     intro t ht
     rcases List.mem_append.1 ht with ht|ht
     ·exact g3 t ht
     ·rw[List.mem_singleton.1 ht];exact e
  ·have hh:=of_decide_eq_false hh
   rw[List.take_of_length_le (by omega)]at g3 hb ⊢
   rw[k9z hc g3]
   refine⟨fun e=> ?_,fun e=> ?_⟩
   ·have e:=of_decide_eq_true e
    rw[if_neg (by omega)]
   ·have e:=of_decide_eq_false e
    rw[if_pos (by omega)])
 intro J2 k2
 have j2:∀b:Bool,(b=true->¬VB0 p0)->(b=false->1<=p0.wE/\p0.wE<=1048576)->J2 b:=fun b h1 h2=>k2 b ⟨fun e=>⟨fun _=>nv (h1 e),fun e2=>by rw[e]at e2;cases e2⟩,fun e=>by
  intro J3 k3
  have j3:∀b:Bool,(b=true->¬VB0 p0)->(b=false->1<=p0.wG/\p0.wG<=65536)->J3 b:=fun b h3 h4=>k3 b ⟨fun e=>⟨fun _=>nv (h3 e),fun e2=>by rw[e]at e2;cases e2⟩,fun e3=>by
   intro J4 k4
   have j4:∀b:Bool,(b=true->¬VB0 p0)->(b=false->p0.wH<18446744069414584321/\p0.wK<18446744069414584321)->J4 b:=fun b h5 h6=>k4 b ⟨fun e=>⟨fun _=>nv (h5 e),fun e2=>by rw[e]at e2;cases e2⟩,fun e5=>⟨fun e6=>nv fun v=>by have:=of_decide_eq_true e6;have:=v.l;omega,fun e6=>j1 ⟨(h2 e).1,(h2 e).2,(h4 e3).1,(h4 e3).2,(h6 e5).1,(h6 e5).2,by have:=of_decide_eq_false e6;omega⟩⟩⟩
   exact⟨fun e6=>j4 true (fun _ v=>by have:=of_decide_eq_true e6;have:=v.p;omega) (fun h=>by cases h),fun e6=>j4 _ (fun e7 v=>by have:=of_decide_eq_true e7;have:=v.m;omega) (fun e7=>⟨by have:=of_decide_eq_false e6;omega,by have:=of_decide_eq_false e7;omega⟩)⟩⟩
  exact⟨fun e6=>j3 true (fun _ v=>by have:=of_decide_eq_true e6;have:=v.w0;omega) (fun h=>by cases h),fun e6=>j3 _ (fun e7 v=>by have:=of_decide_eq_true e7;have:=v.w1;omega) (fun e7=>⟨by have:=of_decide_eq_false e6;omega,by have:=of_decide_eq_false e7;omega⟩)⟩⟩
 exact⟨fun e6=>j2 true (fun _ v=>by have:=of_decide_eq_true e6;have:=v.h0;omega) (fun h=>by cases h),fun e6=>j2 _ (fun e7 v=>by have:=of_decide_eq_true e7;have:=v.h1;omega) (fun e7=>⟨by have:=of_decide_eq_false e6;omega,by have:=of_decide_eq_false e7;omega⟩)⟩
noncomputable def k7p:Con TB.den:= .gp 19 [.st 2] [.sl yqb] [] fun(p0:wB)=>(BR p0/\p0.Txs.length<=64,(hdrS p0:List Int),())
theorem k3l:k7p.Ok Try.prog TB:=qrv Bs Try.func19 .no (k3g.c (k6u.c c0)) (Q:=∀(p0:wB),(BR p0/\p0.Txs.length<=64)->∀r0:List Int,hdrS p0=r0-> 
(U64 p0.wH/\([]:List Int).length<=137438953472)/\((-9223372036854775808<=p0.wE/\p0.wE<=9223372036854775807)/\(([]:List Int)++dig 8 p0.wH).length<=137438953472)/\let r1:List Int:=((([]:List Int)++dig 8 p0.wH)++dig 4 (len4 p0.wE))
(U64 p0.wK/\r1.length<=137438953472)/\(U64 p0.wG/\(r1++dig 8 p0.wK).length<=137438953472)/\let r2:List Int:=((r1++dig 8 p0.wK)++dig 8 p0.wG)
(U64 p0.wD/\r2.length<=137438953472)/\((-9223372036854775808<=(p0.Txs.length:Int)/\(p0.Txs.length:Int)<=9223372036854775807)/\(r2++dig 8 p0.wD).length<=137438953472)/\let r3:List Int:=((r2++dig 8 p0.wD)++dig 4 (len4 (p0.Txs.length:Int)))
r3=r0) (by kernel_rfl)<|by
 rintro p0 h _ rfl
 obtain⟨hr,hl⟩:=h
 refine⟨⟨hr.p,by simp⟩,⟨hr.h,by simp⟩,⟨hr.m,by simp⟩,⟨hr.w,by simp⟩,⟨hr.n,by simp⟩,⟨⟨by omega,by omega⟩,by simp⟩,?_⟩
 simp[hdrS]
noncomputable def k8d:Con TB.den:= .gp 59 [.st 4] [.bool] [] fun(p0:wQ)=>(p0.P=18446744069414584321,true,())
theorem k13:k8d.Ok Try.prog TB:=qrv Bs Try.func59 .no c0 (Q:=∀(p0:wQ),(p0.P=18446744069414584321)->∀r0:Bool,(true:Bool)=r0-> 
((p0.P==18446744069414584321)=true->
((p0.P==18446744069414584321)=true->
true=r0)/\
((p0.P==18446744069414584321)=false->
false=r0))/\
((p0.P==18446744069414584321)=false->
((p0.P==17)=true->
((p0.P==17)=true->
true=r0)/\
((p0.P==17)=false->
false=r0))/\
((p0.P==17)=false->
((p0.P==97)=true->
((p0.P==97)=true->
true=r0)/\
((p0.P==97)=false->
false=r0))/\
((p0.P==97)=false->
((p0.P==193)=true->
((p0.P==193)=true->
true=r0)/\
((p0.P==193)=false->
false=r0))/\
((p0.P==193)=false->
((p0.P==257)=true->
((p0.P==257)=true->
true=r0)/\
((p0.P==257)=false->
false=r0))/\
((p0.P==257)=false->
((p0.P==12289)=true->
((p0.P==12289)=true->
true=r0)/\
((p0.P==12289)=false->
false=r0))/\
((p0.P==12289)=false->
((p0.P==65537)=true->
true=r0)/\
((p0.P==65537)=false->
false=r0)))))))) (by kernel_rfl)<|by
 rintro p0 h _ rfl
 refine ?_
 simp[h]
noncomputable def kau:Con TB.den:= .gp 71 [.st 4,yqu,yqu] [yqu] [] fun(p0:wQ) (p1 p2:Int)=>(p0.P=18446744069414584321/\(0<=p1/\p1<18446744069414584321)/\(0<=p2/\p2<18446744069414584321),((p1+p2)%18446744069414584321:Int),())
theorem kce:kau.Ok Try.prog TB:=qrx Bs [] Try.func71 (.r 1 (.nd [] (.jn ⟨[],[],[22],[.one (.d (.bool))],[]⟩ [] .no [] .no) [] .no)) (x1 x84_ok x0) c0 (Q:=∀(p0:wQ) (p1 p2:Int),(p0.P=18446744069414584321/\(0<=p1/\p1<18446744069414584321)/\(0<=p2/\p2<18446744069414584321))->∀r0:Int,((p1+p2)%18446744069414584321)=r0-> 
(0<=p1/\0<=p2/\0<=(0:Int)/\(0:Int)<=1)/\let r1:Int:=(p1+p2+(0:Int))%18446744073709551616
let r2:Int:=(p1+p2+(0:Int))/18446744073709551616
∀J1:Bool->Prop,(∀(b1:Bool),
((b1=true->
u64.wrap (r1-p0.P)=r0)/\
(b1=false->
r1=r0))->J1 b1)->
((r2 !=0)=true->
J1 true)/\
((r2 !=0)=false->
J1 (decide (p0.P<=r1)))) (by kernel_rfl)<|by
 rintro p0 p1 p2 h _ rfl
 obtain⟨hP,h1,h2⟩:=h
 refine⟨by omega,fun J1 j=>⟨fun h=>j _ ⟨fun _=> ?_,fun h=>by simp at h⟩,fun h=>j _ ⟨fun g=> ?_,fun g=> ?_⟩⟩⟩
 ·have h:(p1+p2+0)/18446744073709551616≠0:=by simpa using h
  rw[hP,u64w];omega
 ·have h:(p1+p2+0)/18446744073709551616=0:=by simpa using h
  have g:=of_decide_eq_true g
  rw[hP]at g ⊢
  rw[u64w];omega
 ·have h:(p1+p2+0)/18446744073709551616=0:=by simpa using h
  have g:=of_decide_eq_false g
  rw[hP]at g
  omega
noncomputable def k6d:Con TB.den:= .gp 72 [.st 4,yqu] [yqu] [] fun(p0:wQ) (p1:Int)=>(0<p0.P/\0<=p1,(p1%p0.P:Int),())
theorem k1j:k6d.Ok Try.prog TB:=qrv Bs Try.func72 .no c0 (Q:=∀(p0:wQ) (p1:Int),(0<p0.P/\0<=p1)->∀r0:Int,(p1%p0.P)=r0-> 
(decide (p0.P<=p1)=true->
(p0.P≠0)/\Int.tmod p1 p0.P=r0)/\
(decide (p0.P<=p1)=false->
p1=r0)) (by kernel_rfl)<|by
 rintro p0 p1 h _ rfl
 refine⟨fun h1=>⟨by omega,tmod_nn _ _ h.2⟩,fun h1=> ?_⟩
 simp at h1
 rw[Int.emod_eq_of_lt (by omega) (by omega)]
noncomputable def kba:Con TB.den:= .gp 64 [.st 4,yqu,yqu] [yqu] [] fun(p0:wQ) (p1 p2:Int)=>(p0.P=18446744069414584321/\U64 p1/\U64 p2,((p1+p2)%18446744069414584321:Int),())
theorem k3a:kba.Ok Try.prog TB:=qrv Bs Try.func64 .no (k13.c (k1j.c (kce.c c0))) (Q:=∀(p0:wQ) (p1 p2:Int),(p0.P=18446744069414584321/\U64 p1/\U64 p2)->∀r0:Int,((p1+p2)%18446744069414584321)=r0-> 
(p0.P=18446744069414584321)/\((!true)=true->
0=r0)/\
((!true)=false->
(0<p0.P/\0<=p1)/\(0<p0.P/\0<=p2)/\(p0.P=18446744069414584321/\(0<=(p1%p0.P)/\(p1%p0.P)<18446744069414584321)/\(0<=(p2%p0.P)/\(p2%p0.P)<18446744069414584321))/\let r1:Int:=(((p1%p0.P)+(p2%p0.P))%18446744069414584321)
r1=r0)) (by kernel_rfl)<|by
 rintro p0 p1 p2 h _ rfl
 obtain⟨hP,h1,h2⟩:=h
 refine⟨hP,?_⟩
 simp only[hP]
 refine⟨fun h=>by simp at h,fun _=>⟨by omega,by omega,⟨by trivial,by omega,by omega⟩,?_⟩⟩
 omega
noncomputable def k95:Con TB.den:= .gp 90 [yqu] [yqi] [] fun(p0:Int)=>(U64 p0,(len64 p0:Int),())
theorem kb3:k95.Ok Try.prog TB:=qrv Bs Try.func90 (.r 0 (.jn ⟨[],[],[0,2],[.one (zqu),.one (zqi)],[]⟩ [] .no [] (.jn ⟨[],[],[0,2],[.one (zqu),.one (zqi)],[]⟩ [] .no [] (.jn ⟨[],[],[0,2],[.one (zqu),.one (zqi)],[]⟩ [] .no [] .no)))) c0 (Q:=∀(p0:Int),(U64 p0)->∀r0:Int,len64 p0=r0-> 
∀J1:Int->Int->Prop,(∀(b1 f1:Int),
(∀J2:Int->Int->Prop,(∀(i1 k1:Int),
(∀J3:Int->Int->Prop,(∀(l1 m1:Int),
((0<=IntKind.u8.wrap l1/\IntKind.u8.wrap l1<((⟨#[0,1,2,2,3,3,3,3,4,4,4,4,4,4,4,4,5,5,5,5,5,5,5,5,5,5,5,5,5,5,5,5,6,6,6,6,6,6,6,6,6,6,6,6,6,6,6,6,6,6,6,6,6,6,6,6,6,6,6,6,6,6,6,6,7,7,7,7,7,7,7,7,7,7,7,7,7,7,7,7,7,7,7,7,7,7,7,7,7,7,7,7,7,7,7,7,7,7,7,7,7,7,7,7,7,7,7,7,7,7,7,7,7,7,7,7,7,7,7,7,7,7,7,7,7,7,7,7,8,8,8,8,8,8,8,8,8,8,8,8,8,8,8,8,8,8,8,8,8,8,8,8,8,8,8,8,8,8,8,8,8,8,8,8,8,8,8,8,8,8,8,8,8,8,8,8,8,8,8,8,8,8,8,8,8,8,8,8,8,8,8,8,8,8,8,8,8,8,8,8,8,8,8,8,8,8,8,8,8,8,8,8,8,8,8,8,8,8,8,8,8,8,8,8,8,8,8,8,8,8,8,8,8,8,8,8,8,8,8,8,8,8,8,8,8,8,8,8,8,8,8,8,8,8,8,8]⟩:ByteArray).size:Int))/\let v1:Int:=byteAt (⟨#[0,1,2,2,3,3,3,3,4,4,4,4,4,4,4,4,5,5,5,5,5,5,5,5,5,5,5,5,5,5,5,5,6,6,6,6,6,6,6,6,6,6,6,6,6,6,6,6,6,6,6,6,6,6,6,6,6,6,6,6,6,6,6,6,7,7,7,7,7,7,7,7,7,7,7,7,7,7,7,7,7,7,7,7,7,7,7,7,7,7,7,7,7,7,7,7,7,7,7,7,7,7,7,7,7,7,7,7,7,7,7,7,7,7,7,7,7,7,7,7,7,7,7,7,7,7,7,7,8,8,8,8,8,8,8,8,8,8,8,8,8,8,8,8,8,8,8,8,8,8,8,8,8,8,8,8,8,8,8,8,8,8,8,8,8,8,8,8,8,8,8,8,8,8,8,8,8,8,8,8,8,8,8,8,8,8,8,8,8,8,8,8,8,8,8,8,8,8,8,8,8,8,8,8,8,8,8,8,8,8,8,8,8,8,8,8,8,8,8,8,8,8,8,8,8,8,8,8,8,8,8,8,8,8,8,8,8,8,8,8,8,8,8,8,8,8,8,8,8,8,8,8,8,8,8,8]⟩:ByteArray) (IntKind.u8.wrap l1)
let v2:Int:=i64.wrap (m1+(i64.wrap v1))
v2=r0)->J3 l1 m1)->
(decide (256<=i1)=true->
J3 (ishr .u64 i1 8) (i64.wrap (k1+8)))/\
(decide (256<=i1)=false->
J3 i1 k1))->J2 i1 k1)->
(decide (65536<=b1)=true->
J2 (ishr .u64 b1 16) (i64.wrap (f1+16)))/\
(decide (65536<=b1)=false->
J2 b1 f1))->J1 b1 f1)->
(decide (4294967296<=p0)=true->
J1 (ishr .u64 p0 32) 32)/\
(decide (4294967296<=p0)=false->
J1 p0 0)) (by kernel_rfl)<|by
 rintro p0 h _ rfl
 intro J1 j1
 have j1:∀s0 s2:Int,0<=s0->s0<4294967296->0<=s2->s2<=32->len64 p0=s2+len64 s0->J1 s0 s2:=fun s0 s2 h0 h1 h2 h3 h4=>by
  refine j1 _ _ fun J2 j2=> ?_
  have j2:∀s0 s2:Int,0<=s0->s0<65536->0<=s2->s2<=48->len64 p0=s2+len64 s0->J2 s0 s2:=fun s0 s2 h0 h1 h2 h3 h4=>by
   refine j2 _ _ fun J3 j3=> ?_
   have j3:∀s0 s2:Int,0<=s0->s0<256->0<=s2->s2<=56->len64 p0=s2+len64 s0->J3 s0 s2:=fun s0 s2 h0 h1 h2 h3 h4=>by
    refine j3 _ _ ?_
    have e:IntKind.u8.wrap s0=s0:=by rw[u8w];omega
    have l:=kdq s0 ⟨h0,h1⟩
    show(0<=IntKind.u8.wrap s0/\IntKind.u8.wrap s0<(tab8.size:Int))/\i64.wrap (s2+i64.wrap (byteAt tab8 (IntKind.u8.wrap s0)))=_
    rw[e,kfx,kcn s0 ⟨h0,h1⟩,wi (len64 s0) (by omega) (by omega),wi (s2+len64 s0) (by omega) (by omega),h4]
    exact⟨⟨h0,h1⟩,rfl⟩
   refine⟨fun h=> ?_,fun h=>j3 s0 s2 h0 (by simpa using h) h2 (by omega) h4⟩
   have h:=of_decide_eq_true h
   rw[<-k42 s0 8 (by simpa using h),<-Int.add_assoc,Int.add_right_comm]at h4
   rw[ishr8,wi _ (by omega) (by omega)]
   exact j3 _ _ (by omega) (by omega) (by omega) (by omega) (by omega)
  refine⟨fun h=> ?_,fun h=>j2 s0 s2 h0 (by simpa using h) h2 (by omega) h4⟩
  have h:=of_decide_eq_true h
  rw[<-k42 s0 16 (by simpa using h),<-Int.add_assoc,Int.add_right_comm]at h4
  rw[ishr16,wi _ (by omega) (by omega)]
  exact j2 _ _ (by omega) (by omega) (by omega) (by omega) (by omega)
 refine⟨fun h1=> ?_,fun h1=> ?_⟩
 ·have h1:=of_decide_eq_true h1
  rw[ishr32]
  exact j1 _ _ (by omega) (by omega) (by omega) (by omega) (by rw[<-k42 p0 32 (by simpa using h1),Int.add_comm];rfl)
 ·exact j1 p0 0 h.1 (by simpa using h1) (by omega) (by omega) (by omega)
noncomputable def k3k:Con TB.den:= .gp 88 [yqu] [yqi] [] fun(p0:Int)=>(0<p0/\p0<18446744073709551616,(64-len64 p0:Int),())
theorem k3z:k3k.Ok Try.prog TB:=qrv Bs Try.func88 .no (kb3.c c0) (Q:=∀(p0:Int),(0<p0/\p0<18446744073709551616)->∀r0:Int,(64-len64 p0)=r0-> 
(U64 p0)/\i64.wrap (64-(len64 p0))=r0) (by kernel_rfl)<|by
 rintro p0 h _ rfl
 obtain⟨s,e,h1,_⟩:=k8w p0 h
 refine⟨⟨by omega,h.2⟩,?_⟩
 exact wi _ (by omega) (by omega)
noncomputable def k9e:Con TB.den:= .gp 79 [yqu,yqu,yqu] [yqu,yqu] [] fun(p0 p1 p2:Int)=>(U64 p0/\U64 p1/\U64 p2/\p0<p2,((p0*18446744073709551616+p1)/p2:Int),((p0*18446744073709551616+p1)%p2:Int),())
theorem k5g:k9e.Ok Try.prog TB:=qrv Bs Try.func79 (.r 13 (.jn ⟨[],[],[15,16],[.one (zqu),.one (.any)],[]⟩ [] (.lp [] ⟨[],[],[15,16],[.one (zqu),.one (zqu)],[]⟩ (.jn ⟨[],[],[],[],[]⟩ [] .no [] .no)) [] (.r 2 (.jn ⟨[],[],[16,18],[.one (.any),.one (zqu)],[]⟩ [] (.lp [] ⟨[],[],[16,18],[.one (zqu),.one (zqu)],[]⟩ (.jn ⟨[],[],[],[],[]⟩ [] .no [] .no)) [] .no)))) (k3z.c c0) (Q:=∀(p0 p1 p2:Int),(U64 p0/\U64 p1/\U64 p2/\p0<p2)->∀r0:Int,((p0*18446744073709551616+p1)/p2)=r0->∀r1:Int,((p0*18446744073709551616+p1)%p2)=r1-> 
((p2==0)=true->
False)/\
((p2==0)=false->
(decide (p2<=p0)=true->
False)/\
(decide (p2<=p0)=false->
((p0==0)=true->
(p2≠0)/\(p2≠0)/\u64.wrap (Int.tdiv p1 p2)=r0/\Int.tmod p1 p2=r1)/\
((p0==0)=false->
(0<p2/\p2<18446744073709551616)/\(0<=u64.wrap (64-len64 p2))/\let v2:Int:=ishl .u64 p2 (u64.wrap (64-len64 p2))
(0<=u64.wrap (64-len64 p2))/\let v3:Int:=ishl .u64 p0 (u64.wrap (64-len64 p2))
let v4:Int:=u64.wrap (64-(u64.wrap (64-len64 p2)))
(0<=v4)/\(0<=u64.wrap (64-len64 p2))/\let v5:Int:=ishl .u64 p1 (u64.wrap (64-len64 p2))
(ishr .u64 v2 32≠0)/\let v6:Int:=u64.wrap (Int.tdiv (ior .u64 v3 (ishr .u64 p1 v4)) (ishr .u64 v2 32))
let v7:Int:=u64.wrap (v6*(ishr .u64 v2 32))
let v8:Int:=u64.wrap ((ior .u64 v3 (ishr .u64 p1 v4))-v7)
∀J1:Int->Prop,(∀(b1:Int),
(let v12:Int:=u64.wrap ((ior .u64 v3 (ishr .u64 p1 v4))*4294967296)
let v13:Int:=u64.wrap (v12+(ishr .u64 v5 32))
let v14:Int:=u64.wrap (v13-(u64.wrap (b1*v2)))
(ishr .u64 v2 32≠0)/\let v15:Int:=u64.wrap (Int.tdiv v14 (ishr .u64 v2 32))
let v16:Int:=u64.wrap (v15*(ishr .u64 v2 32))
∀J3:Int->Prop,(∀(k1:Int),
(let v20:Int:=u64.wrap ((u64.wrap (b1*4294967296))+k1)
let v21:Int:=u64.wrap ((u64.wrap (v14*4294967296))+(iand .u64 v5 4294967295))
let v22:Int:=u64.wrap (v21-(u64.wrap (k1*v2)))
(0<=u64.wrap (64-len64 p2))/\let v23:Int:=ishr .u64 v22 (u64.wrap (64-len64 p2))
v20=r0/\v23=r1)->J3 k1)->
∃(I2:Int->Int->Prop) (M2:Int->Int->Nat),I2 (u64.wrap (v14-v16)) v15/\∀(l1 m1:Int),(I2 l1 m1->
∀J4:Prop,((let v19:Int:=u64.wrap (l1+(ishr .u64 v2 32))
(decide (4294967296<=v19)=true->
J3 (u64.wrap (m1-1)))/\
(decide (4294967296<=v19)=false->
I2 v19 (u64.wrap (m1-1))/\M2 v19 (u64.wrap (m1-1))<M2 l1 m1))->J4)->
(decide (4294967296<=m1)=true->
J4)/\
(decide (4294967296<=m1)=false->
let v17:Int:=u64.wrap (m1*(iand .u64 v2 4294967295))
let v18:Int:=u64.wrap ((u64.wrap (4294967296*l1))+(iand .u64 v5 4294967295))
(decide (v18<v17)=true->
J4)/\
(decide (v18<v17)=false->
J3 m1))))->J1 b1)->
∃(I1:Int->Int->Prop) (M1:Int->Int->Nat),I1 v6 v8/\∀(f1 i1:Int),(I1 f1 i1->
∀J2:Prop,((let v11:Int:=u64.wrap (i1+(ishr .u64 v2 32))
(decide (4294967296<=v11)=true->
J1 (u64.wrap (f1-1)))/\
(decide (4294967296<=v11)=false->
I1 (u64.wrap (f1-1)) v11/\M1 (u64.wrap (f1-1)) v11<M1 f1 i1))->J2)->
(decide (4294967296<=f1)=true->
J2)/\
(decide (4294967296<=f1)=false->
let v9:Int:=u64.wrap (f1*(iand .u64 v2 4294967295))
let v10:Int:=u64.wrap ((u64.wrap (4294967296*i1))+(ishr .u64 v5 32))
(decide (v10<v9)=true->
J2)/\
(decide (v10<v9)=false->
J1 f1))))))) (by kernel_rfl)<|by
 rintro p0 p1 p2 h _ rfl _ rfl
 obtain⟨h0,h1,h2,hlt⟩:=h
 refine⟨fun e=> ?_,fun _=>⟨fun e=> ?_,fun _=>⟨fun e=> ?_,fun _=> ?_⟩⟩⟩
 ·simp at e;omega
 ·simp at e;omega
 ·have e:p0=0:=by simpa using e
  subst e
  rw[tdiv_nn _ _ h1.1,tmod_nn _ _ h1.1,Int.zero_mul,Int.zero_add]
  have:=Int.ediv_le_self p2 h1.1
  have:=Int.ediv_nonneg h1.1 h2.1
  exact⟨by omega,by omega,wu _ (by omega) (by have:=Int.ediv_le_self p2 h1.1;omega),rfl⟩
 obtain⟨s,e,hs,n1,n2⟩:=k8w p2 ⟨by omega,h2.2⟩
 have ew:u64.wrap (64-len64 p2)=(s:Int):=by rw[e,wu _ (by omega) (by omega)]
 have ew3:u64.wrap (64-(s:Int))=((64-s:Nat):Int):=by rw[wu _ (by omega) (by omega)];omega
 have hp:0<2^s:=Nat.two_pow_pos s
 have hp' :0<2^(64-s):=Nat.two_pow_pos _
 have hpp:2^s*2^(64-s)=18446744073709551616:=by rw[<-Nat.pow_add,show s+(64-s)=64 by omega]
 have hP:((2^s:Nat):Int)*((2^(64-s):Nat):Int)=18446744073709551616:=by rw[<-Int.natCast_mul,hpp];rfl
 have il:∀a:Int,ishl .u64 a (s:Int)=a*((2^s:Nat):Int)%18446744073709551616:=fun a=>by rw[kc7,Int.toNat_natCast,Nat.min_eq_left (by omega)]
 have ir:∀a:Int,ishr .u64 a (s:Int)=a/((2^s:Nat):Int):=fun a=>by rw[k2a,Int.toNat_natCast,show min s u64.bits=s from Nat.min_eq_left (by show s<=64;omega)]
 have ir' :∀a:Int,ishr .u64 a ((64-s:Nat):Int)=a/((2^(64-s):Nat):Int):=fun a=>by rw[k2a,Int.toNat_natCast,show min (64-s) u64.bits=64-s from Nat.min_eq_left (by show 64-s<=64;omega)]
 have hor:∀c:Int,0<=c->c<((2^s:Nat):Int)->p0*((2^s:Nat):Int)+c<18446744073709551616->ior .u64 (p0*((2^s:Nat):Int)) c=p0*((2^s:Nat):Int)+c:=by
  intro c hc0 hc1 hc2
  obtain⟨a,rfl⟩:=Int.eq_ofNat_of_zero_le h0.1
  obtain⟨c,rfl⟩:=Int.eq_ofNat_of_zero_le hc0
  have key:=ior_add' c a s (by omega)
  rw[Int.mul_comm,<-Int.natCast_mul]at hc2 ⊢
  rw[key (by omega)]
  omega
 simp only[ew,ew3,il,ir',ishr32]
 have hP'0:(0:Int)<((2^(64-s):Nat):Int):=by omega
 generalize hPd:((2^s:Nat):Int)=P at *
 generalize hPd' :((2^(64-s):Nat):Int)=P' at *
 have hP0:0<P:=by omega
 have hlo:p1/P' <P:=Int.ediv_lt_of_lt_mul hP'0 (by omega)
 have hlo0:0<=p1/P' :=Int.ediv_nonneg h1.1 (by omega)
 have hUv:p0*P+P<=p2*P:=by
  have:(p0+1)*P<=p2*P:=Int.mul_le_mul_of_nonneg_right (by omega) (by omega)
  grind
 have hUp:0<=p0*P:=Int.mul_nonneg h0.1 (by omega)
 rw[Int.emod_eq_of_lt (a:=p2*P) (by omega) n2,Int.emod_eq_of_lt (a:=p0*P) hUp (by omega),hor _ hlo0 hlo (by omega)]
 have hN:(p0*18446744073709551616+p1)*P=(p0*P+p1/P')*18446744073709551616+(p1*P%18446744073709551616/4294967296)*4294967296+p1*P%18446744073709551616%4294967296:=by
  have h5:p1*P/18446744073709551616=p1/P' :=by
   rw[<-hP,Int.mul_comm p1 P,Int.mul_ediv_mul_of_pos _ _ hP0]
  have h6:=Int.emod_add_mul_ediv (p1*P) 18446744073709551616
  rw[h5]at h6
  have:(p0*18446744073709551616+p1)*P=p0*P*18446744073709551616+p1*P:=by grind
  rw[this]
  generalize p1*P=w at *
  generalize p0*P=w' at *
  omega
 have hlb:0<=p1*P%18446744073709551616/\p1*P%18446744073709551616<18446744073709551616:=⟨Int.emod_nonneg _ (by omega),Int.emod_lt_of_pos _ (by omega)⟩
 generalize hUd:p0*P+p1/P' =U at *
 generalize hLd:p1*P%18446744073709551616=L at *
 have hVd:p2*P/4294967296*4294967296+p2*P%4294967296=p2*P:=by omega
 have hw:∀{Q R V' :Int},R-Q=V'->0<=V'->V' <18446744073709551616->∀A,R=A*4294967296+(R-A*4294967296)->u64.wrap (u64.wrap (u64.wrap (A*4294967296)+(R-A*4294967296))-u64.wrap Q)=V' :=by
  intro Q R V' hv h0 h1 A hA
  simp only[u64w]
  omega
 rw[k1y (p2*P) (by omega),k1y L (by omega)]
 generalize ha:p2*P/4294967296=a at *
 generalize hb:p2*P%4294967296=b at *
 have hQ1:Half U (L/4294967296) a b ((U*4294967296+L/4294967296)/(a*4294967296+b)):=⟨by omega,by omega,by omega,by omega,by omega,rfl⟩
 have hr1:=hQ1.rest
 have hq1:=hQ1.q
 generalize (U*4294967296+L/4294967296)/(a*4294967296+b)=Q1 at *
 generalize (U*4294967296+L/4294967296)%(a*4294967296+b)=R1 at *
 have hQ0:Half R1 (L%4294967296) a b ((R1*4294967296+L%4294967296)/(a*4294967296+b)):=⟨by omega,by omega,by omega,by omega,by omega,rfl⟩
 have hr0:=hQ0.rest
 have hq0:=hQ0.q
 generalize (R1*4294967296+L%4294967296)/(a*4294967296+b)=Q0 at *
 generalize (R1*4294967296+L%4294967296)%(a*4294967296+b)=R0 at *
 rw[hVd]at hr1 hr0 hq1 hq0
 have fin:=kei hP0 (by omega:0<p2) hN hr1.1 hr0.1 ⟨hr0.2.1,hr0.2.2⟩
 have aux:∀{U x Q q r:Int},Half U x a b Q->U<18446744073709551616->q*a+r=U->Q<=q->0<=r->q<=8589934592:=by
  intro U x Q q r hh hU e hQ hr
  have h1:=hh.ha
  refine Int.le_of_lt_add_one (Int.lt_of_mul_lt_mul_right (a:=a) ?_ (by omega))
  generalize q*a=w at *
  omega
 have init:∀{U x Q:Int},Half U x a b Q->Q<=U/a:=by
  intro U x Q hh
  have h1:=hh.ha
  have h2:=hh.q
  have h3:=hh.hb
  have h4:=hh.hx
  refine(Int.le_ediv_iff_mul_le (by omega)).2 ?_
  have h5:Q*(a*4294967296+b)=Q*a*4294967296+Q*b:=by grind
  have h6:0<=Q*b:=Int.mul_nonneg h2.1 h3.1
  generalize Q*a=w at *
  omega
 have hd:=Int.emod_add_mul_ediv U a
 have hd1:=Int.emod_nonneg U (by omega:a≠0)
 have hd2:=Int.emod_lt_of_pos U (by omega:0<a)
 have hd3:0<=U/a:=Int.ediv_nonneg (by omega) (by omega)
 rw[Int.mul_comm]at hd
 have hd5:0<=U/a*a:=Int.mul_nonneg hd3 (by omega)
 have hd4:=aux hQ1 (by omega) (q:=U/a) (r:=U%a) (by omega) (init hQ1) hd1
 rw[tdiv_nn _ _ (by omega),wu (U/a) (by omega) (by omega),wu (U/a*a) (by omega) (by omega),show U-U/a*a=U%a by omega,wu (U%a) (by omega) (by omega)]
 refine⟨⟨by omega,h2.2⟩,by omega,by omega,by omega,by omega,by omega,fun J1 k1=> ?_⟩
 have j2:J1 Q1:=by
  have e1:=hw (Q:=Q1*(p2*P)) (R:=U*4294967296+L/4294967296) hr1.1 hr1.2.1 (by omega) U (by omega)
  rw[show U*4294967296+L/4294967296-U*4294967296=L/4294967296 by omega]at e1
  refine k1 _ ?_
  simp only[e1]
  have hd:=Int.emod_add_mul_ediv R1 a
  have hd1:=Int.emod_nonneg R1 (by omega:a≠0)
  have hd2:=Int.emod_lt_of_pos R1 (by omega:0<a)
  have hd3:0<=R1/a:=Int.ediv_nonneg hr1.2.1 (by omega)
  rw[Int.mul_comm]at hd
  have hd5:0<=R1/a*a:=Int.mul_nonneg hd3 (by omega)
  have hd4:=aux hQ0 (by omega) (q:=R1/a) (r:=R1%a) (by omega) (init hQ0) hd1
  rw[tdiv_nn _ _ hr1.2.1,wu (R1/a) (by omega) (by omega),wu (R1/a*a) (by omega) (by omega),show R1-R1/a*a=R1%a by omega,wu (R1%a) (by omega) (by omega)]
  refine⟨by omega,fun J3 k3=> ?_⟩
  have j4:J3 Q0:=by
   refine k3 _ ⟨by omega,?_,?_⟩
   ·rw[wu (Q1*4294967296) (by omega) (by omega),wu _ (by omega) (by omega)]
    exact fin.1
   ·have:=hw (Q:=Q0*(p2*P)) (R:=R1*4294967296+L%4294967296) hr0.1 hr0.2.1 (by omega) R1 (by omega)
    rw[show R1*4294967296+L%4294967296-R1*4294967296=L%4294967296 by omega]at this
    rw[this,ir]
    exact fin.2
  refine⟨fun r q=>q*a+r=R1/\Q0<=q/\0<=r/\r<4294967296,fun r q=>q.toNat,⟨by omega,init hQ0,hd1,by omega⟩,?_⟩
  rintro r q ⟨g1,g2,g3,g4⟩ J4 k4
  have g5:=aux hQ0 (by omega) g1 g2 g3
  have nxt:Q0<=q-1->r+a<4294967296->((q-1)*a+(r+a)=R1/\Q0<=q-1/\0<=r+a/\r+a<4294967296)/\(q-1).toNat<q.toNat:=fun h1 h2=>⟨⟨by grind,h1,by omega,h2⟩,by omega⟩
  have j3:Q0<=q-1->J4:=by
   intro hq
   refine k4 ?_
   rw[wu (q-1) (by omega) (by omega),wu (r+a) (by omega) (by omega)]
   refine⟨fun hd=> ?_,fun hd=>nxt hq (by simpa using hd)⟩
   have hd:4294967296<=r+a:=of_decide_eq_true hd
   rw[hQ0.done (q:=q-1) (r:=r+a) (by grind) hq hd]
   exact j4
  refine⟨fun hd=>j3 (hQ0.down g1 (.inl (of_decide_eq_true hd))),fun hd=> ?_⟩
  have hd:q<4294967296:=by simpa using hd
  have hqb:0<=q*b/\q*b<18446744073709551616:=by
   have:=hQ0.hb
   have h1:q*b<=4294967295*4294967295:=Int.mul_le_mul (by omega) (by omega) (by omega) (by omega)
   exact⟨Int.mul_nonneg (by omega) (by omega),by omega⟩
  have:=hQ0.hx
  rw[wu (q*b) (by omega) (by omega),wu (4294967296*r) (by omega) (by omega),wu (4294967296*r+L%4294967296) (by omega) (by omega)]
  refine⟨fun ht=> ?_,fun ht=> ?_⟩
  ·have ht:4294967296*r+L%4294967296<q*b:=of_decide_eq_true ht
   exact j3 (hQ0.down g1 (.inr (by omega)))
  ·have ht:¬(4294967296*r+L%4294967296<q*b):=of_decide_eq_false ht
   rw[hQ0.exit g1 g2 (by omega)]
   exact j4
 refine⟨fun q r=>q*a+r=U/\Q1<=q/\0<=r/\r<4294967296,fun q r=>q.toNat,⟨by omega,init hQ1,hd1,by omega⟩,?_⟩
 rintro q r ⟨g1,g2,g3,g4⟩ J2 k2
 have g5:=aux hQ1 (by omega) g1 g2 g3
 have nxt:Q1<=q-1->r+a<4294967296->((q-1)*a+(r+a)=U/\Q1<=q-1/\0<=r+a/\r+a<4294967296)/\(q-1).toNat<q.toNat:=fun h1 h2=>⟨⟨by grind,h1,by omega,h2⟩,by omega⟩
 have j1:Q1<=q-1->J2:=by
  intro hq
  refine k2 ?_
  rw[wu (q-1) (by omega) (by omega),wu (r+a) (by omega) (by omega)]
  refine⟨fun hd=> ?_,fun hd=>nxt hq (by simpa using hd)⟩
  have hd:4294967296<=r+a:=of_decide_eq_true hd
  rw[hQ1.done (q:=q-1) (r:=r+a) (by grind) hq hd]
  exact j2
 refine⟨fun hd=>j1 (hQ1.down g1 (.inl (of_decide_eq_true hd))),fun hd=> ?_⟩
 have hd:q<4294967296:=by simpa using hd
 have hqb:0<=q*b/\q*b<18446744073709551616:=by
  have:=hQ1.hb
  have h1:q*b<=4294967295*4294967295:=Int.mul_le_mul (by omega) (by omega) (by omega) (by omega)
  exact⟨Int.mul_nonneg (by omega) (by omega),by omega⟩
 have:=hQ1.hx
 rw[wu (q*b) (by omega) (by omega),wu (4294967296*r) (by omega) (by omega),wu (4294967296*r+L/4294967296) (by omega) (by omega)]
 refine⟨fun ht=> ?_,fun ht=> ?_⟩
 ·have ht:4294967296*r+L/4294967296<q*b:=of_decide_eq_true ht
  exact j1 (hQ1.down g1 (.inr (by omega)))
 ·have ht:¬(4294967296*r+L/4294967296<q*b):=of_decide_eq_false ht
  rw[hQ1.exit g1 g2 (by omega)]
  exact j2
end Go.Proofs.Ytchoejpclejjhaa
end
