/-
  Parts of the proofs that the laws of this seat hold of every input, merged by a program: a machine over pure data that is sound for the model, what each function of the translation does in it, and plain lemmas. No conditions but those in each theorem.
-/
import Derived.Test.YtijdfglbhaedoaaGreatA3
set_option maxRecDepth 100000
noncomputable section
namespace Go.Bv
open Go.RowKit
def Lk (T:Tk) (s s' :St):Prop:=∀(G0:Gh) (w0:World) (N:Nat) (a:Act) (G:Gh) (w:World),R T G0 w0 N s a G w->∃G',R T G0 w0 N s' a G' w
theorem Wk.lk {T:Tk} {s s' :St} (h:Wk s s'):Lk T s s' :=fun G0 w0 N a G w hR=>⟨G,h T G0 w0 N a G w hR⟩
theorem St.le.lk {T:Tk} {s s' :St} (h:St.le T.nx s s'):Lk T s s' :=fun _ _ _ _ G _ hR=>⟨G,hR.le h⟩
theorem Lk.trans {T:Tk} {a b c:St} (h:Lk T a b) (h' :Lk T b c):Lk T a c:=fun G0 w0 N x G w hR=>let⟨G1,h1⟩:=h G0 w0 N x G w hR;h' G0 w0 N x G1 w h1
section
variable {P:Program} {T:Tk} {G0:Gh} {w0:World} {N:Nat} {s:St} {Q:Exit->St->Prop}
theorem sat_lk {c:Code} {s' :St} (hl:Lk T s s') (h:Sat P T G0 w0 N c s' Q):Sat P T G0 w0 N c s Q:=fun G a w hR=>let⟨G1,h1⟩:=hl _ _ _ _ _ _ hR;h G1 a w h1
theorem khq {c:Code} {Q' :Exit->St->Prop} (h:Sat P T G0 w0 N c s Q) (hq:∀e s,Q e s->∃s',Q' e s'/\Lk T s s'):Sat P T G0 w0 N c s Q' :=
 fun G a w hR=>wp_mono (h G a w hR) fun _ _ _ ⟨s',G',h1,h2⟩=>let⟨s2,k1,k2⟩:=hq _ s' h1;let⟨G2,h3⟩:=k2 _ _ _ _ _ _ h2;⟨s2,G2,k1,h3⟩
theorem ke4 {ι:Type} (st:ι->St) (p:ι->Prop) (μ:ι->Nat) {c:Code} (i0:ι) (h0:p i0) (hl:Lk T s (st i0))
  (round:∀i,p i->Sat P T G0 w0 N c (st i) (thenA (fun s' =>∃i',p i'/\μ i' <μ i/\Lk T s' (st i')) Q)):Sat P T G0 w0 N (.loop c) s Q:=by
 intro G a w hR
 have key:∀n i,μ i=n->p i->∀G a w,R T G0 w0 N (st i) a G w->∀(b:Frame) (k:List Item) (cs:List Frame),∃e a' w',(∃s' G',Q e s'/\R T G0 w0 N s' a' G' w')/\Arrives P (lone (b.at a (.code c:: .inLoop c::k)) cs w) b k cs e a' w' :=by
  intro n
  induction n using Nat.strongRecOn with
  |_ n ih=>
   intro i hn hp G a w hR b k cs
   obtain⟨e,a1,w1,⟨s1,G1,hq,hR1⟩,harr⟩:=round i hp G a w hR b (.inLoop c::k) cs
   cases e with
   |normal=>
    obtain⟨i',h1,h2,h3⟩:=hq
    obtain⟨G2,hR2⟩:=h3 _ _ _ _ _ _ hR1
    obtain⟨e2,a2,w2,hq2,harr2⟩:=ih (μ i') (hn▸h2) i' rfl h1 G2 a1 w1 hR2 b k cs
    exact⟨e2,a2,w2,hq2,.of_steps (Steps.trans harr (.one step_inLoop)) harr2⟩
   |exit id=>exact⟨_,a1,w1,⟨s1,G1,hq,hR1⟩,.pass (x:= .inLoop c) rfl (fun _ _=> .inl (by simp)) harr⟩
   |goto l=>exact⟨_,a1,w1,⟨s1,G1,hq,hR1⟩,.pass (x:= .inLoop c) rfl (fun _ _=> .inl (by simp)) harr⟩
   |ret=>exact⟨_,a1,w1,⟨s1,G1,hq,hR1⟩,.pass (x:= .inLoop c) rfl (fun _ _=> .inl (by simp)) harr⟩
   |panic ch=>exact⟨_,a1,w1,⟨s1,G1,hq,hR1⟩,.pass (x:= .inLoop c) rfl (fun _ _=> .inl (by simp)) harr⟩
   |outgrown=>exact⟨_,a1,w1,⟨s1,G1,hq,hR1⟩,.pass (x:= .inLoop c) rfl (fun _ _=> .inl (by simp)) harr⟩
 intro b k cs
 obtain⟨G1,hR1⟩:=hl _ _ _ _ _ _ hR
 obtain⟨e,a',w',hq,harr⟩:=key _ i0 rfl h0 G1 a w hR1 b k cs
 exact⟨e,a',w',hq,.of_steps (.one step_loop) harr⟩
end
end Go.Bv
namespace Go.Cv
open Go Go.Bv Go.RowKit Go.Md
section
variable {T:Tab} {P:Program} {C:Cx T} {N:Nat}
theorem args_ok {σ:Nat->Nat} {f:List (Option (TOb T.den))} {m nx:Nat} (hσ:∀j,j<m->σ j<nx) (l:List Sh0) (r:List Ty) (x:HL T.den (hsT l r)) (h:okTB m l=true):∀z∈(tkT σ f l r x).1.map (er T),ok nx z:=by
 intro z hz
 rw[tkT_er]at hz
 obtain⟨u,_,rfl⟩:=List.mem_map.1 hz
 exact ok_of0 (okT_mem (tkT_ok hσ l r x h) _ hz) k1f
theorem sgs_lt {ids:List Nat} {n nx:Nat} (h:allLt nx ids=true) (hl:ids.length=n):∀j,j<n->sgs ids j<nx:=by
 intro j hj
 have hj:j<ids.length:=by omega
 have e:sgs ids j=ids[j]:=by simp[sgs,hj]
 rw[e]
 exact k1d h _ (List.getElem_mem hj)
def rho:List Nat->List Nat->Nat->Nat
 |x::a,y::b,i=>if i=x then y else rho a b i
 |_,_,i=>i
theorem kal {x:Nat}:∀{l:List Nat} {p q:Nat},l.Nodup->l[p]? =some x->l[q]? =some x->p=q
 |[],p,q,_,h,_=>by simp at h
 |y::l,0,0,_,_,_=>rfl
 |y::l,0,q+1,hn,h1,h2=>by
  simp at h1 h2
  exact absurd (List.mem_of_getElem? h2) (by rw[<-h1];exact(List.nodup_cons.1 hn).1)
 |y::l,p+1,0,hn,h1,h2=>by
  simp at h1 h2
  exact absurd (List.mem_of_getElem? h1) (by rw[<-h2];exact(List.nodup_cons.1 hn).1)
 |y::l,p+1,q+1,hn,h1,h2=>by
  simp at h1 h2
  rw[kal (List.nodup_cons.1 hn).2 h1 h2]
theorem rho_at:∀{a b:List Nat} {j:Nat},a.Nodup->j<a.length->j<b.length->rho a b (sgs a j)=sgs b j
 |[],_,j,_,h,_=>by simp at h
 |_::_,[],j,_,_,h=>by simp at h
 |x::a,y::b,0,_,_,_=>by simp[rho,sgs]
 |x::a,y::b,j+1,hn,h1,h2=>by
  have h1:j<a.length:=by simpa using h1
  have h2:j<b.length:=by simpa using h2
  have e1:sgs (x::a) (j+1)=sgs a j:=by simp[sgs]
  have e2:sgs (y::b) (j+1)=sgs b j:=by simp[sgs]
  have hne:sgs a j≠x:=by
   intro e
   rw[List.nodup_cons]at hn
   apply hn.1
   have:sgs a j=a[j]:=by simp[sgs,h1]
   rw[<-e,this]
   exact List.getElem_mem h1
  rw[e1,e2]
  simp only[rho]
  rw[if_neg hne]
  exact rho_at (List.nodup_cons.1 hn).2 h1 h2
theorem rho_fix {n0:Nat}:∀{a b:List Nat},fixB n0 a b=true->a.length=b.length/\∀i,i<n0->rho a b i=i
 |[],[],_=>⟨rfl,fun _ _=>rfl⟩
 |[],_::_,h=>by cases h
 |_::_,[],h=>by cases h
 |x::a,y::b,h=>by
  simp only[fixB,Bool.and_eq_true,Bool.or_eq_true,Bool.not_eq_true']at h
  obtain⟨g1,g2⟩:=rho_fix h.2
  refine⟨by simp[g1],fun i hi=> ?_⟩
  simp only[rho]
  split
  ·rename_i e
   subst e
   rcases h.1 with h1|h1
   ·have:Nat.blt i n0=true:=by simp[Nat.blt_eq,hi]
    rw[this]at h1;cases h1
   ·exact(nb_eq h1).symm
  ·exact g2 i hi
theorem rho_lt {n:Nat}:∀{a b:List Nat} {i:Nat},(∀x∈b,x<n)->i<n->rho a b i<n
 |[],[],_,_,h=>h
 |[],_::_,_,_,h=>h
 |_::_,[],_,_,h=>h
 |x::a,y::b,i,hb,h=>by
  simp only[rho]
  split
  ·exact hb y (by simp)
  ·exact rho_lt (fun z hz=>hb z (by simp[hz])) h
theorem k2v {ρ σ τ:Nat->Nat} {m:Nat} (h:∀j,j<m->ρ (σ j)=τ j):∀{l:List (Option (Nat×Nat))},okP m l->renP ρ (renP σ l)=renP τ l
 |[],_=>rfl
 |none::_,hl=>congrArg (List.cons none) (k2v h (l:=_) hl)
 |some (i,_)::_,hl=>by
  simp only[renP]
  rw[h i hl.1,k2v h hl.2]
theorem kld {ρ σ τ:Nat->Nat} {m:Nat} (h:∀j,j<m->ρ (σ j)=τ j) {x:V} (hx:ok1 m x):ren1 ρ (ren1 σ x)=ren1 τ x:=by
 cases x<;>first|rfl|(simp only[ren1];rw[h _ hx])|(simp only[ren1];rw[k2v h hx.1,k2v h hx.2])|exact False.elim hx
theorem kah {ρ σ τ:Nat->Nat} {m:Nat} (h:∀j,j<m->ρ (σ j)=τ j):∀{l:List V},okL m l->(l.map (ren1 σ)).map (ren1 ρ)=l.map (ren1 τ)
 |[],_=>rfl
 |x::l,hl=>by
  simp only[List.map_cons]
  rw[kld h hl.1,kah h hl.2]
theorem k9w {ρ σ τ:Nat->Nat} {m:Nat} (h:∀j,j<m->ρ (σ j)=τ j) {x:V} (hx:ok0 m x):ren0 ρ (ren0 σ x)=ren0 τ x:=by
 cases x with
 |agg l=>exact congrArg V.agg (kah h hx)
 |_=>first|rfl|exact False.elim hx|(simp only[ren0,ren1];rw[h _ hx])|(simp only[ren0,ren1];rw[k2v h hx.1,k2v h hx.2])
theorem kaw {ρ σ τ:Nat->Nat} {m:Nat} (h:∀j,j<m->ρ (σ j)=τ j):∀{l:List V},okT m l->(l.map (ren0 σ)).map (ren0 ρ)=l.map (ren0 τ)
 |[],_=>rfl
 |x::l,hl=>by
  simp only[List.map_cons]
  rw[k9w h hl.1,kaw h hl.2]
theorem k9n {ρ σ τ:Nat->Nat} {m:Nat} (h:∀j,j<m->ρ (σ j)=τ j):∀{l:List (D×V)},okM m l->(l.map fun e=>(e.1,ren0 σ e.2)).map (fun e=>(e.1,ren0 ρ e.2))=l.map fun e=>(e.1,ren0 τ e.2)
 |[],_=>rfl
 |x::l,hl=>by
  simp only[List.map_cons]
  rw[k9w h hl.1,k9n h hl.2]
theorem kfj {ρ σ τ:Nat->Nat} {m:Nat} (h:∀j,j<m->ρ (σ j)=τ j) {o:Ob} (ho:okO m o):renO ρ (renO σ o)=renO τ o:=by
 cases o with
 |cells l=>exact congrArg Ob.cells (kah h ho)
 |map x=>cases x with
  |m l=>exact congrArg (fun z=>Ob.map (.m z)) (k9n h ho)
  |it mid l last=>
   show Ob.map (.it (ρ (σ mid)) _ _)=Ob.map (.it (τ mid) _ _)
   rw[h mid ho.1,k9n h ho.2.1]
   cases last with
   |none=>rfl
   |some e=>
    show Ob.map (.it _ _ (some (e.1,ren0 ρ (ren0 σ e.2))))=Ob.map (.it _ _ (some (e.1,ren0 τ e.2)))
    rw[k9w h (ho.2.2 e rfl)]
 |_=>rfl
theorem hpN_get {σ:Nat->Nat}:∀(os:List (TOb T.den)) (k i:Nat) (ob:Ob),Hp.get (erH T (hpN σ k os)) i=some ob->∃p o,os[p]? =some o/\i=σ (k+p)/\ob=erO T o
 |[],k,i,ob,h=>by cases h
 |o::os,k,i,ob,h=>by
  have h:Hp.get ((σ k,erO T o)::erH T (hpN σ (k+1) os)) i=some ob:=h
  simp only[Hp.get]at h
  split at h
  ·rename_i e
   injection h with h
   exact⟨0,o,rfl,e,h.symm⟩
  ·obtain⟨p,o',h1,h2,h3⟩:=hpN_get os (k+1) i ob h
   exact⟨p+1,o',by simpa using h1,by rw[h2];congr 1;omega,h3⟩
theorem slotsR {sl:List (Nat×TV T.den)} {nx:Nat} {ρ:Nat->Nat}:∀(ts:List Nat) (vs:List (TV T.den)),leAll ((ts.map (getT sl)).map (er T)) ((vs.map (er T)).map (ren ρ))->(∀z∈vs.map (er T),ok nx z)->∀t,
  getS ((zipS T ts vs).map fun p=>(p.1,er T p.2)) t= .any∨(le (getS (sl.map fun p=>(p.1,er T p.2)) t) (ren ρ (getS ((zipS T ts vs).map fun p=>(p.1,er T p.2)) t))/\ok nx (getS ((zipS T ts vs).map fun p=>(p.1,er T p.2)) t))
 |[],[],_,_,_=> .inl rfl
 |[],_::_,h,_,_=>h.elim
 |_::_,[],h,_,_=>h.elim
 |u::ts,v::vs,h,ho,t=>by
  simp only[zipS,List.map_cons,getS]
  split
  ·rename_i e
   subst e
   refine .inr ⟨?_,ho _ (by simp)⟩
   rw[getS_er]
   exact h.1
  ·exact slotsR ts vs h.2 (fun z hz=>ho z (by simp only[List.map_cons,List.mem_cons];exact .inr hz)) t
theorem fcL_eq:∀{l:List Nat} {K:List Nat->Prop},fcL l K->K l
 |[],_,h=>h
 |x::r,K,h=>fcL_eq (l:=r) (K:=fun r=>K (x::r)) h
theorem mat_snd (hT:T.Ok) {Tk:Tk} {m:Tm} {s:TSt T.den} {J:HL T.den m.hs->Prop} (h:m.mat T Tk.nx s J):∃i,J i/\Lk Tk (erS T s) (erS T (m.fill T i)):=by
 unfold Tm.mat at h
 obtain⟨h1,h2⟩:=cnd h
 simp only[Bool.and_eq_true,Tm.okB]at h1
 obtain⟨⟨a1,a2⟩,⟨⟨⟨⟨⟨⟨b1,b2⟩,b3⟩,b4⟩,b5⟩,b6⟩,b7⟩⟩:=h1
 replace h2:=fcL_eq h2
 generalize m.at T Tk.nx s=ids at h2
 obtain⟨h3,h4⟩:=cnd h2
 simp only[Bool.and_eq_true]at h3
 obtain⟨⟨⟨c1,c2⟩,c3⟩,c4⟩:=h3
 have c1:=k1g c1
 have c2:=k1g c2
 obtain⟨c5,c6⟩:=rho_fix c4
 split at h4
 ·rename_i b hb
  obtain⟨y,g1,g2,g3⟩:=k5m hT b7 hb h4
  obtain⟨x,k1,k2,_,k4⟩:=mtT_snd m.ss _ _ y _ b6 g1
  have hf:m.f T x=tkB m.os b:=by unfold Tm.f;rw[k2,g2]
  have hlt:=sgs_lt b3 (nb_eq b4)
  have hlen:m.os.length=m.ids.length:=(nb_eq b4).symm
  have hrho:∀j,j<m.os.length->rho m.ids ids (sgs m.ids j)=sgs ids j:=fun j hj=>rho_at c1 (by omega) (by omega)
  have hid1:∀j,j<m.os.length->idf j<m.os.length:=fun j h=>h
  refine⟨x,k1,fun G0 w0 N a G w hR=> ?_⟩
  have hget:∀id ob,(erS T (m.fill T x)).h.get id=some ob->∃p o,(tkC (sgs m.ids) (tkB m.os b) 0 m.os (hsB m.os) y).1[p]? =some o/\p<m.os.length/\id=sgs m.ids p/\ob=erO T o:=by
   intro id ob hg
   have hg:Hp.get (erH T (hpN (sgs m.ids) 0 (tkC (sgs m.ids) (m.f T x) 0 m.os _ (drT m.ss _ x)).1)) id=some ob:=hg
   rw[hf,k2]at hg
   obtain⟨p,o,q1,q2,q3⟩:=hpN_get _ _ _ _ hg
   rw[Nat.zero_add]at q2
   exact⟨p,o,q1,by have:=(List.getElem?_eq_some_iff.1 q1).1;rw[tkC_len]at this;exact this,q2,q3⟩
  refine hR.leRen (σ:=rho m.ids ids) (ble_le a1) c6 (fun i hi=>rho_lt (k1d c3) (Nat.lt_of_lt_of_le hi (ble_le a2))) (fun i j li lj hij=> ?_) (fun id ob hg=> ?_) ?_
  ·obtain⟨oi,hoi,_⟩:=live_of li
   obtain⟨oj,hoj,_⟩:=live_of lj
   obtain⟨p,_,_,q1,q2,_⟩:=hget i oi hoi
   obtain⟨q,_,_,r1,r2,_⟩:=hget j oj hoj
   rw[q2,r2,hrho p q1,hrho q r1]at hij
   have e1:sgs ids p=ids[p]'(by omega):=by simp[sgs,show p<ids.length by omega]
   have e2:sgs ids q=ids[q]'(by omega):=by simp[sgs,show q<ids.length by omega]
   rw[e1,e2]at hij
   have:=kal c2 (List.getElem?_eq_getElem (show p<ids.length by omega)) (by rw[hij];exact List.getElem?_eq_getElem (show q<ids.length by omega))
   rw[q2,r2,this]
  ·obtain⟨p,o,q1,q2,rfl,rfl⟩:=hget id ob hg
   refine⟨hlt p q2,?_,tkC_ok (k18 _ _) hlt 0 m.os _ y b2 p o q1⟩
   
   have hl1:p<(tkC (sgs ids) (tkB m.os b) 0 m.os (hsB m.os) y).1.length:=by rw[tkC_len];exact q2
   have hl0:p<(tkC idf (tkB m.os b) 0 m.os (hsB m.os) y).1.length:=by rw[tkC_len];exact q2
   have w1:=congrArg (fun l=>l[p]?) (tkC_ren (sgs m.ids) (tkB m.os b) (k18 m.os b) 0 m.os (hsB m.os) y)
   have w2:=congrArg (fun l=>l[p]?) (tkC_ren (sgs ids) (tkB m.os b) (k18 m.os b) 0 m.os (hsB m.os) y)
   simp only[List.getElem?_map,q1,Option.map_some,List.getElem?_eq_getElem hl0,List.getElem?_eq_getElem hl1,Option.some.injEq]at w1 w2
   have w3:=tkC_ok (k18 m.os b) hid1 0 m.os (hsB m.os) y b2 p _ (List.getElem?_eq_getElem hl0)
   rw[hrho p q2,w1,kfj hrho w3,<-w2]
   exact g3 p _ (List.getElem?_eq_getElem hl1)
  ·intro t
   have key:leAll ((m.ts.map (getT s.sl)).map (er T)) (((tkT (sgs m.ids) (m.f T x) m.ss (hsOs m.os) x).1.map (er T)).map (ren (rho m.ids ids))):=by
    have e1:((tkT (sgs m.ids) (m.f T x) m.ss (hsOs m.os) x).1.map (er T)).map (ren (rho m.ids ids))=(tkT (sgs ids) (tkB m.os b) m.ss (hsOs m.os) x).1.map (er T):=by
     rw[hf,tkT_er,tkT_er]
     have:((tkT (sgs m.ids) (tkB m.os b) m.ss (hsOs m.os) x).1.map (er0 T)).map (ren (rho m.ids ids))=((tkT (sgs m.ids) (tkB m.os b) m.ss (hsOs m.os) x).1.map (er0 T)).map (ren0 (rho m.ids ids)):=by
      rw[List.map_map,List.map_map]
      exact List.map_congr_left fun v _=>ren_0 _ k1f
     rw[this,k2a (sgs m.ids),k2a (sgs ids)]
     exact kaw hrho (tkT_ok hid1 m.ss _ x b1)
    rw[e1];exact k4
   exact slotsR m.ts _ key (args_ok hlt m.ss _ x b1) t
 ·exact h4.elim
section
variable {Tk:Tk} {G0:Gh} {w0:World} {a:Act} {G:Gh} {w:World}
theorem kbz {id n z:Nat} {v:TV T.den} {h:THp T.den} {nx:Nat} (hv:∀u,RepV G w (erH T h) nx u (.row id 0 n z)->RepV G w (erH T h) nx u (er T v)):∀(ts:List Nat) (sl:List (Nat×TV T.den)) (K:List (Nat×TV T.den)->Prop),rowsTo T id v n z ts sl K->R Tk G0 w0 N (erS T ⟨sl,h,nx⟩) a G w->∃sl',K sl'/\R Tk G0 w0 N (erS T ⟨sl',h,nx⟩) a G w
 |[],sl,K,hk,hR=>⟨sl,hk,hR⟩
 |t::ts,sl,K,hk,hR=>by
  simp only[rowsTo]at hk
  split at hk
  ·rename_i i e' m hg
   obtain⟨h1,h2,h3⟩:=cnd hk
   simp only[Bool.and_eq_true]at h1
   refine kbz hv ts _ K h3 ?_
   have hs:=hR.sl t
   rw[show getS (erS T ⟨sl,h,nx⟩).sl t=er T (getT sl t)from getS_er sl t,hg]at hs
   have hs:RepV G w (erH T h) nx (a.tmps.getD t undef) (.row i 0 m (T.sz e')):=hs
   rw[nb_eq h1.1,h2,nb_eq h1.2]at hs
   exact hR.reslot t (hv _ hs)
  ·exact hk.elim
theorem keb {e:Ty} {v:TV T.den} {l:List (e.den T.den)} (h:growE T e v=some l):growsFrom (T.sz e) (l.map (T.e e)) (er1 T v)/\v.sim=true:=by
 unfold growE at h
 split at h
 ·obtain⟨c1,c2,_⟩:=km h
  exact⟨⟨c1,c2⟩,rfl⟩
 ·rename_i u
  cases hn:isNilK u with
  |false=>rw[hn]at h;cases h
  |true=>
   rw[hn]at h
   injection h with h
   subst h
   rw[k1k hn]
   exact⟨rfl,rfl⟩
 ·cases h
theorem kei {h:THp T.den} {v:TV T.den} {K:Nat->(e:Ty)->List (e.den T.den)->Prop} (hh:trimV T h v K):
  ∃id e l l0,K id e l/\getH h id=some (.vec e l0)/\l=l0.take l.length/\l.length<=l0.length/\er1 T v= .row id 0 l.length (T.sz e)/\v.sim=true:=by
 unfold trimV at hh
 split at hh
 ·rename_i id e n
  split at hh
  ·rename_i e' l hg
   obtain⟨h1,h2,h3⟩:=cnd hh
   obtain rfl:=Ty.eq_of_beq h1
   exact⟨id,e,l,l,h3,hg,by simp,Nat.le_refl _,by rw[h2];rfl,rfl⟩
  ·exact hh.elim
 ·rename_i id e off n
  split at hh
  ·rename_i e' l hg
   obtain⟨h1,h2,h3,h4⟩:=cnd hh
   obtain rfl:=Ty.eq_of_beq h1
   have e1:(l.take n).length=n:=by rw[List.length_take];omega
   exact⟨id,e,l.take n,l,h4,hg,by rw[e1],by rw[e1];exact h3,by rw[e1,h2];simp[er1],rfl⟩
  ·exact hh.elim
 ·exact hh.elim
theorem trim_ob (hT:T.Ok) {e:Ty} {l l0:List (e.den T.den)} (h1:l=l0.take l.length) (h2:l.length<=l0.length):(((l0.map (T.e e)).flatMap D.cells).map V.d).take (l.length*T.sz e)=((l.map (T.e e)).flatMap D.cells).map V.d:=by
 rw[<-List.map_take,k84 hT l0 _ h2,<-h1]
theorem vec_set {e:Ty} (l:List (e.den T.den)) (i:Nat) (y:e.den T.den) (hi:i<l.length):erO T (.vec e (l.set i y))= .cells ((((l.take i).map (T.e e)).flatMap D.cells).map V.d++(T.e e y).cells.map V.d++(((l.drop (i+1)).map (T.e e)).flatMap D.cells).map V.d):=by
 show Ob.cells ((((l.set i y).map (T.e e)).flatMap D.cells).map V.d)=_
 rw[List.set_eq_take_append_cons_drop,if_pos hi]
 simp only[List.map_append,List.map_cons,List.flatMap_append,List.flatMap_cons,List.append_assoc]
theorem gh1_snd (hT:T.Ok) {s:TSt T.den} {K:TSt T.den->Prop}:∀(g:Gs),gh1 T s K g->R Tk G0 w0 N (erS T s) a G w->∃s' G',K s'/\R Tk G0 w0 N (erS T s') a G' w
 | .frz id ts,h,hR=>by
  simp only[gh1]at h
  split at h
  ·rename_i e l hg
   have hgl:(erS T s).h.get id=some (.cells (((l.map (T.e e)).flatMap D.cells).map V.d)):=by show(erH T s.h).get id=_;rw[getH_er,hg];rfl
   obtain⟨G',h1,_,h2⟩:=hR.freeze hgl (map_sz hT l) (by rw[List.length_map]:(l.map (T.e e)).length=l.length)
   obtain⟨sl',k1,k2⟩:=kbz (T:=T) (h:=(s.nx,.tip e l)::(id,.dead)::s.h) (nx:=s.nx+1) (v:= .own s.nx e l) (z:=T.sz e) (n:=l.length) (id:=id) (G:=G') (w:=w) (fun u hu=>h2 u hu) ts s.sl _ h h1
   exact⟨_,G',k1,k2⟩
  ·exact h.elim
 | .frzc id i j,h,hR=>by
  simp only[gh1]at h
  split at h
  ·rename_i e l cs hg hi
   split at h
   ·rename_i id' e' m hj
    obtain⟨h1,h2,h3⟩:=cnd h
    simp only[Bool.and_eq_true,Bool.not_eq_true']at h1
    have q1:=nb_eq h1.1.1
    have q2:=Ty.eq_of_beq h1.1.2
    have q3:i≠id:=fun e=>by rw[e,nb_self]at h1;cases h1.2
    subst q1
    subst q2
    subst h2
    have hgl:(erS T s).h.get id' =some (.cells (((l.map (T.e e')).flatMap D.cells).map V.d)):=by show(erH T s.h).get id' =_;rw[getH_er,hg];rfl
    have hil:(erS T s).h.get i=some (.cells (cs.map (er1 T))):=by show(erH T s.h).get i=_;rw[getH_er,hi];rfl
    obtain⟨G',f1,_,f2⟩:=hR.freeze hgl (map_sz hT l) (by rw[List.length_map]:(l.map (T.e e')).length=l.length)
    have hin:i<s.nx:=hR.wr.hid _ _ hil
    have hg' :Hp.get ((s.nx,Ob.tip l.length)::(id',.dead)::erH T s.h) i=some (.cells (cs.map (er1 T))):=by simp only[Hp.get];rw[if_neg (by omega),if_neg q3];exact hil
    have hx:(cs.map (er1 T))[j]? =some (.row id' 0 l.length (T.sz e')):=by rw[List.getElem?_map,hj];rfl
    have:=f1.recell (s:=⟨(erS T s).sl,(s.nx,.tip l.length)::(id',.dead)::erH T s.h,s.nx+1⟩) (y:= .own s.nx (T.sz e') (l.map (T.e e'))) hg' hx rfl (fun v=>f2 v)
    refine⟨_,G',h3,?_⟩
    have e:erS T ⟨s.sl,(i,.cells (cs.set j (.own s.nx e' l)))::(s.nx,.tip e' l)::(id',.dead)::s.h,s.nx+1⟩=⟨(erS T s).sl,(i,.cells ((cs.map (er1 T)).set j (.own s.nx (T.sz e') (l.map (T.e e')))))::(s.nx,.tip l.length)::(id',.dead)::erH T s.h,s.nx+1⟩:=by
     show St.mk _ ((i,Ob.cells ((cs.set j (.own s.nx e' l)).map (er1 T)))::_) _=_
     rw[List.map_set];rfl
    rw[e];exact this
   ·exact h.elim
  ·exact h.elim
 | .tok t e,h,hR=>by
  simp only[gh1]at h
  split at h
  ·rename_i l hl
   obtain⟨g1,g2⟩:=keb hl
   obtain⟨G',h1,h2⟩:=hR.tok (T.sz e) (l.map (T.e e))
   rw[List.length_map]at h1 h2
   have hs:=h1.sl t
   have hs:RepV G' w ((s.nx,.tip l.length)::erH T s.h) (s.nx+1) (a.tmps.getD t undef) (getS (erS T s).sl t):=hs
   rw[show getS (erS T s).sl t=er T (getT s.sl t)from getS_er s.sl t,er_sim g2]at hs
   exact⟨_,G',h,h1.reslot t (h2 _ _ g1 hs)⟩
  ·exact h.elim
 | .tokc id j e,h,hR=>by
  simp only[gh1]at h
  split at h
  ·rename_i cs hi
   split at h
   ·rename_i v hj
    split at h
    ·rename_i l hl
     obtain⟨g1,g2⟩:=keb hl
     have hil:(erS T s).h.get id=some (.cells (cs.map (er1 T))):=by show(erH T s.h).get id=_;rw[getH_er,hi];rfl
     obtain⟨G',h1,h2⟩:=hR.tok (T.sz e) (l.map (T.e e))
     rw[List.length_map]at h1 h2
     have hin:id<s.nx:=hR.wr.hid _ _ hil
     have hg' :Hp.get ((s.nx,Ob.tip l.length)::erH T s.h) id=some (.cells (cs.map (er1 T))):=by simp only[Hp.get];rw[if_neg (by omega)];exact hil
     have hx:(cs.map (er1 T))[j]? =some (er1 T v):=by rw[List.getElem?_map,hj];rfl
     have:=h1.recell (s:=⟨(erS T s).sl,(s.nx,.tip l.length)::erH T s.h,s.nx+1⟩) (y:= .own s.nx (T.sz e) (l.map (T.e e))) hg' hx rfl (fun u=>h2 _ u g1)
     refine⟨_,G',h,?_⟩
     have e:erS T ⟨s.sl,(id,.cells (cs.set j (.own s.nx e l)))::(s.nx,.tip e l)::s.h,s.nx+1⟩=⟨(erS T s).sl,(id,.cells ((cs.map (er1 T)).set j (.own s.nx (T.sz e) (l.map (T.e e)))))::(s.nx,.tip l.length)::erH T s.h,s.nx+1⟩:=by
      show St.mk _ ((id,Ob.cells ((cs.set j (.own s.nx e l)).map (er1 T)))::_) _=_
      rw[List.map_set];rfl
     rw[e];exact this
    ·exact h.elim
   ·exact h.elim
  ·exact h.elim
 | .trim t,h,hR=>by
  simp only[gh1]at h
  obtain⟨id,e,l,l0,h1,h2,h3,h4,h5,h6⟩:=kei h
  have hgl:(erS T s).h.get id=some (.cells (((l0.map (T.e e)).flatMap D.cells).map V.d)):=by show(erH T s.h).get id=_;rw[getH_er,h2];rfl
  obtain⟨G',f1,f2⟩:=hR.trim hgl (l.length*T.sz e)
  rw[trim_ob hT h3 h4]at f1 f2
  have hs:=f1.sl t
  have hs:RepV G' w ((s.nx,.cells (((l.map (T.e e)).flatMap D.cells).map V.d))::(id,.dead)::erH T s.h) (s.nx+1) (a.tmps.getD t undef) (getS (erS T s).sl t):=hs
  rw[show getS (erS T s).sl t=er T (getT s.sl t)from getS_er s.sl t,er_sim h6,h5]at hs
  exact⟨_,G',h1,f1.reslot t (f2 _ _ _ hs)⟩
 | .trimc id j,h,hR=>by
  simp only[gh1]at h
  split at h
  ·rename_i cs hi
   split at h
   ·rename_i v hj
    obtain⟨id',e,l,l0,h1,h2,h3,h4,h5,h6⟩:=kei h
    have hne:id'≠id:=by rintro rfl;rw[hi]at h2;cases h2
    rw[nb_ne hne,cond_false]at h1
    have hgl:(erS T s).h.get id' =some (.cells (((l0.map (T.e e)).flatMap D.cells).map V.d)):=by show(erH T s.h).get id' =_;rw[getH_er,h2];rfl
    have hil:(erS T s).h.get id=some (.cells (cs.map (er1 T))):=by show(erH T s.h).get id=_;rw[getH_er,hi];rfl
    obtain⟨G',f1,f2⟩:=hR.trim hgl (l.length*T.sz e)
    rw[trim_ob hT h3 h4]at f1 f2
    have hin:id<s.nx:=hR.wr.hid _ _ hil
    have hg' :Hp.get ((s.nx,Ob.cells (((l.map (T.e e)).flatMap D.cells).map V.d))::(id',.dead)::erH T s.h) id=some (.cells (cs.map (er1 T))):=by simp only[Hp.get];rw[if_neg (by omega),if_neg (Ne.symm hne)];exact hil
    have hx:(cs.map (er1 T))[j]? =some (.row id' 0 l.length (T.sz e)):=by rw[List.getElem?_map,hj,<-h5];rfl
    have:=f1.recell (s:=⟨(erS T s).sl,(s.nx,.cells (((l.map (T.e e)).flatMap D.cells).map V.d))::(id',.dead)::erH T s.h,s.nx+1⟩) (y:= .row s.nx 0 l.length (T.sz e)) hg' hx rfl (fun u=>f2 u _ _)
    refine⟨_,G',h1,?_⟩
    have e1:erS T ⟨s.sl,(id,.cells (cs.set j (.row s.nx e l.length)))::(s.nx,.vec e l)::(id',.dead)::s.h,s.nx+1⟩=⟨(erS T s).sl,(id,.cells ((cs.map (er1 T)).set j (.row s.nx 0 l.length (T.sz e))))::(s.nx,.cells (((l.map (T.e e)).flatMap D.cells).map V.d))::(id',.dead)::erH T s.h,s.nx+1⟩:=by
     show St.mk _ ((id,Ob.cells ((cs.set j (.row s.nx e l.length)).map (er1 T)))::_) _=_
     rw[List.map_set];rfl
    rw[e1];exact this
   ·exact h.elim
  ·exact h.elim
 | .rnil t e,h,hR=>by
  simp only[gh1]at h
  obtain⟨h1,h2⟩:=cnd h
  obtain⟨q1,q2⟩:=isE_er (T:=T) h1
  obtain⟨G',f1,f2⟩:=hR.rnil
  have hs:=f1.sl t
  have hs:RepV G' w ((s.nx,.cells [])::erH T s.h) (s.nx+1) (a.tmps.getD t undef) (getS (erS T s).sl t):=hs
  rw[show getS (erS T s).sl t=er T (getT s.sl t)from getS_er s.sl t]at hs
  exact⟨_,G',h2,f1.reslot t (f2 _ _ _ q1 hs)⟩
 | .rnilc id j e,h,hR=>by
  simp only[gh1]at h
  split at h
  ·rename_i cs hi
   split at h
   ·rename_i v hj
    obtain⟨h1,h2⟩:=cnd h
    obtain⟨q1,q2⟩:=isE_er (T:=T) h1
    rw[er_of1 q2]at q1
    have hil:(erS T s).h.get id=some (.cells (cs.map (er1 T))):=by show(erH T s.h).get id=_;rw[getH_er,hi];rfl
    obtain⟨G',f1,f2⟩:=hR.rnil
    have hin:id<s.nx:=hR.wr.hid _ _ hil
    have hg' :Hp.get ((s.nx,Ob.cells [])::erH T s.h) id=some (.cells (cs.map (er1 T))):=by simp only[Hp.get];rw[if_neg (by omega)];exact hil
    have hx:(cs.map (er1 T))[j]? =some (er1 T v):=by rw[List.getElem?_map,hj];rfl
    have:=f1.recell (s:=⟨(erS T s).sl,(s.nx,.cells [])::erH T s.h,s.nx+1⟩) (y:= .row s.nx 0 0 (T.sz e)) hg' hx rfl (fun u=>f2 u _ _ q1)
    refine⟨_,G',h2,?_⟩
    have e1:erS T ⟨s.sl,(id,.cells (cs.set j (.row s.nx e 0)))::(s.nx,.vec e [])::s.h,s.nx+1⟩=⟨(erS T s).sl,(id,.cells ((cs.map (er1 T)).set j (.row s.nx 0 0 (T.sz e))))::(s.nx,.cells [])::erH T s.h,s.nx+1⟩:=by
     show St.mk _ ((id,Ob.cells ((cs.set j (.row s.nx e 0)).map (er1 T)))::_) _=_
     rw[List.map_set];rfl
    rw[e1];exact this
   ·exact h.elim
  ·exact h.elim
 | .frzf id i,h,hR=>by
  simp only[gh1]at h
  split at h
  ·rename_i e l z x k off rid re m hg hi
   obtain⟨h1,h⟩:=cnd h
   simp only[Bool.and_eq_true,Bool.not_eq_true']at h1
   obtain⟨⟨⟨p1,p2⟩,p3⟩,p4⟩:=h1
   obtain rfl:=nb_eq p1
   obtain rfl:=Ty.eq_of_beq p2
   have q3:i≠rid:=fun e=>by rw[e,nb_self]at p3;cases p3
   have q4:off<(T.tys z).length:=Nat.le_of_ble_eq_true p4
   split at h
   ·rename_i y hy
    obtain⟨⟨rfl,h3,h4⟩,h5⟩:=h
    have hgl:(erS T s).h.get rid=some (.cells (((l.map (T.e re)).flatMap D.cells).map V.d)):=by show(erH T s.h).get rid=_;rw[getH_er,hg];rfl
    have hil:(erS T s).h.get i=some (.cells ((((x.map (T.e (.st z))).flatMap D.cells).map V.d).set (k.toNat*T.sz (.st z)+off) (.row rid 0 l.length (T.sz re)))):=by show(erH T s.h).get i=_;rw[getH_er,hi];rfl
    have hm:(k.toNat+1)*T.sz (.st z)<=x.length*T.sz (.st z):=Nat.mul_le_mul_right _ (by omega)
    rw[Nat.add_mul,Nat.one_mul]at hm
    have q4:off<T.sz (.st z):=q4
    have hlen:k.toNat*T.sz (.st z)+off<(((x.map (T.e (.st z))).flatMap D.cells).map V.d).length:=by rw[List.length_map,k13 hT];omega
    obtain⟨G',f1,_,f2⟩:=hR.freeze hgl (map_sz hT l) (by rw[List.length_map]:(l.map (T.e re)).length=l.length)
    have hin:i<s.nx:=hR.wr.hid _ _ hil
    have hg' :Hp.get ((s.nx,Ob.tip l.length)::(rid,.dead)::erH T s.h) i=some (.cells ((((x.map (T.e (.st z))).flatMap D.cells).map V.d).set (k.toNat*T.sz (.st z)+off) (.row rid 0 l.length (T.sz re)))):=by simp only[Hp.get];rw[if_neg (by omega),if_neg q3];exact hil
    have hx:((((x.map (T.e (.st z))).flatMap D.cells).map V.d).set (k.toNat*T.sz (.st z)+off) (.row rid 0 l.length (T.sz re)))[k.toNat*T.sz (.st z)+off]? =some (.row rid 0 l.length (T.sz re)):=List.getElem?_set_self hlen
    have hle:le1 (.own s.nx (T.sz re) (l.map (T.e re))) (.d (.slice (T.sz re) (l.map (T.e re)))):=⟨rfl,rfl⟩
    have:=f1.recell (s:=⟨(erS T s).sl,(s.nx,.tip l.length)::(rid,.dead)::erH T s.h,s.nx+1⟩) (y:= .d (.slice (T.sz re) (l.map (T.e re)))) hg' hx rfl (fun v hv=>(f2 v hv).le1 hle)
    refine⟨_,G',h5,?_⟩
    have hallD:∀(t:List (TD T.den)) (j:Nat),allD T ((t.map TD.v).set j (.d (.sl re) l))=true:=by
     intro t
     induction t with
     |nil=>intro j;rfl
     |cons d t ih=>
      intro j
      cases j with
      |zero=>
       show allD T (t.map TD.v)=true
       clear ih
       induction t with
       |nil=>rfl
       |cons d t ih=>exact ih
      |succ j=>exact ih j
    have hk:=kb0 hy (hallD _ off)
    rw[List.map_set]at hk
    have hk:((T.e (.st z) (@ix _ ⟨T.dflt (.st z)⟩ x k)).cells.map V.d).set off (.d (.slice (T.sz re) (l.map (T.e re))))=(T.eL (T.tys z) y).map V.d:=by
     rw[<-hk,<-k5t hT (.st z)];rfl
    have hc:(T.e (.st z) (T.pack z y)).cells=T.eL (T.tys z) y:=by
     show(T.enc z (T.pack z y)).cells=_
     rw[hT.en,hT.pc];rfl
    have hi2:k.toNat<x.length:=by omega
    have e1:erO T (.vec (.st z) (x.set k.toNat (T.pack z y)))= .cells (((((x.map (T.e (.st z))).flatMap D.cells).map V.d).set (k.toNat*T.sz (.st z)+off) (.row rid 0 l.length (T.sz re))).set (k.toNat*T.sz (.st z)+off) (.d (.slice (T.sz re) (l.map (T.e re))))):=by
     rw[List.set_set,<-k7u _ hlen,kht hT x k h3 h4 off _ (by show off+1<=_;omega),k7u _ (by rw[List.length_map,(e_sz hT _ _).1];exact q4),hk,<-hc]
     exact vec_set (e:= .st z) x k.toNat (T.pack z y) hi2
    have e2:erS T ⟨s.sl,(i,.vec (.st z) (x.set k.toNat (T.pack z y)))::(s.nx,.tip re l)::(rid,.dead)::s.h,s.nx+1⟩=⟨(erS T s).sl,(i,.cells (((((x.map (T.e (.st z))).flatMap D.cells).map V.d).set (k.toNat*T.sz (.st z)+off) (.row rid 0 l.length (T.sz re))).set (k.toNat*T.sz (.st z)+off) (.d (.slice (T.sz re) (l.map (T.e re))))))::(s.nx,.tip l.length)::(rid,.dead)::erH T s.h,s.nx+1⟩:=by
     rw[<-e1];rfl
    rw[e2];exact this
   ·exact h.elim
  ·exact h.elim
end
theorem ghs_snd (hT:T.Ok) {Tk:Tk} {G0:Gh} {w0:World} {a:Act} {w:World}:∀(gs:List Gs) (s:TSt T.den) (K:TSt T.den->Prop) (G:Gh),ghs T gs s K->R Tk G0 w0 N (erS T s) a G w->∃s' G',K s'/\R Tk G0 w0 N (erS T s') a G' w
 |[],s,K,G,h,hR=>⟨s,G,h,hR⟩
 |g::gs,s,K,G,h,hR=>by
  obtain⟨s1,G1,h1,h2⟩:=gh1_snd hT g h hR
  exact ghs_snd hT gs s1 K G1 h1 h2
theorem sat_ghs (hT:T.Ok) {Tk:Tk} {G0:Gh} {w0:World} {gs:List Gs} {s:TSt T.den} {K:TSt T.den->Prop} {c:Code} {Q:Exit->St->Prop} (h:ghs T gs s K) (hk:∀s',K s'->Sat P Tk G0 w0 N c (erS T s') Q):Sat P Tk G0 w0 N c (erS T s) Q:=by
 intro G a w hR
 obtain⟨s',G',h1,h2⟩:=ghs_snd hT gs s K G h hR
 exact hk s' h1 G' a w h2
def QE (Q:Exit->TSt T.den->Prop) (e:Exit) (s:St):Prop:=KE (Q e) s
theorem KE.lk {K:TSt T.den->Prop} {s:TSt T.den} (h:K s):KE K (erS T s):=⟨s,h,Wk.refl _⟩
theorem kl4 (hT:T.Ok) (hC:C.Ok P T) (hm:P.follows .mixedOrders=true) {Tk:Tk} {G0:Gh} {w0:World}:∀(c:Code) (an:An T) (s:TSt T.den) (Q:Exit->TSt T.den->Prop),WP T C N Tk.nx c an s Q->Obl T C N Tk.nx c an Q->Sat P Tk G0 w0 N c (erS T s) (QE Q):=by
 intro c
 induction c with
 |skip=>intro an s Q h _;exact kgw (KE.lk (by simpa[WP]using h))
 |region id ops dr=>
  intro an s Q h _
  obtain⟨l⟩:=ops
  have h:regW T C N ⟨l⟩ dr s (Q .normal):=by simpa[WP]using h
  cases dr with
  |false=>
   intro G a w hR
   exact wp_region_lit (kjk hT hC l (Q .normal) s a G w hR h fun s' a' G' w' hk hR' =>⟨erS T s',G',KE.lk hk,hR'⟩)
  |true=>
   unfold regW at h
   obtain⟨h1,h2⟩:=cnd h
   rw[Bool.and_eq_true]at h1
   refine kds C.S hm (noIt_er h1.2) h1.1 fun K hK=> ?_
   exact k3u (K:=KE (Q .normal)) (fun a b he ⟨t,q1,q2⟩=>hK a ⟨t,q1,he.wk.trans q2⟩) (closeOps l) _ _ _ _ _ (Eqv.refl _) (kk4 hT hC (closeOps l) _ _ _ _ h2)
 |seq x y ihx ihy=>
  intro an s Q h ho
  have plain:∀(ga gb:List Gs) (a b:An T),(ghs T ga s fun s=>WP T C N Tk.nx x a s (thenT T (fun s' =>ghs T gb s' fun s' =>WP T C N Tk.nx y b s' Q) Q))->Obl T C N Tk.nx x a (thenT T (fun s' =>ghs T gb s' fun s' =>WP T C N Tk.nx y b s' Q) Q)->Obl T C N Tk.nx y b Q->Sat P Tk G0 w0 N (.seq x y) (erS T s) (QE Q):=by
   intro ga gb a b h1 h2 h3
   refine sat_ghs hT h1 fun s' hs' =>sat_seq (ky (ihx a s' _ hs' h2) fun e s1 hq=> ?_)
   obtain⟨t,q1,q2⟩:=hq
   cases e with
   |normal=>exact sat_lk q2.lk (sat_ghs hT q1 fun s2 hs2=>ihy b s2 Q hs2 h3)
   |_=>exact⟨t,q1,q2⟩
  cases an with
  |jn tm J ga a gb b=>
   have h:ghs T ga s fun s=>WP T C N Tk.nx x a s (thenT T (fun s' =>tm.mat T Tk.nx s' J) Q):=by simpa only[WP]using h
   simp only[Obl]at ho
   obtain⟨o1,o2,o3⟩:=ho
   refine sat_ghs hT h fun s' hs' =>sat_seq (ky (ihx a s' _ hs' o1) fun e s1 hq=> ?_)
   obtain⟨t,q1,q2⟩:=hq
   cases e with
   |normal=>
    obtain⟨i,k1,k2⟩:=mat_snd hT q1
    refine sat_lk (q2.lk.trans k2) ?_
    rw[o2 i]at k1
    exact sat_ghs hT k1 fun s2 hs2=>ihy b s2 Q hs2 o3
   |_=>exact⟨t,q1,q2⟩
  |no=>simp only[WP]at h;simp only[Obl]at ho;exact plain _ _ _ _ h ho.1 ho.2
  |nd ga a gb b=>simp only[WP]at h;simp only[Obl]at ho;exact plain _ _ _ _ h ho.1 ho.2
  |lp g tm L a=>simp only[WP]at h;simp only[Obl]at ho;exact plain _ _ _ _ h ho.1 ho.2
  |rt g=>simp only[WP]at h;simp only[Obl]at ho;exact plain _ _ _ _ h ho.1 ho.2
 |cond c x y ihx ihy=>
  intro an s Q h ho
  simp only[WP]at h
  simp only[Obl]at ho
  split at h
  ·rename_i hv
   exact kdx (by rw[ev_er,hv];rfl) (sat_ghs hT h fun s' hs' =>ihx _ s' Q hs' ho.1)
  ·rename_i hv
   exact ke2 (by rw[ev_er,hv];rfl) (sat_ghs hT h fun s' hs' =>ihy _ s' Q hs' ho.2)
  ·rename_i t hv
   exact k6c (t:=t) (by rw[ev_er,hv];rfl) (fun ht=>sat_ghs hT (h.1 ht) fun s' hs' =>ihx _ s' Q hs' ho.1) (fun ht=>sat_ghs hT (h.2 ht) fun s' hs' =>ihy _ s' Q hs' ho.2)
  ·exact h.elim
 |block id x ih=>
  intro an s Q h ho
  simp only[WP]at h
  simp only[Obl]at ho
  refine kdr (ky (ih an s _ h ho) fun e s1 hq=> ?_)
  obtain⟨t,q1,q2⟩:=hq
  cases e with
  |exit id' =>
   simp only[blockT]at q1
   simp only[blockA]
   by_cases hi:id' =id
   ·rw[if_pos hi]
    rw[hi,nb_self]at q1
    exact⟨t,q1,q2⟩
   ·rw[if_neg hi]
    rw[nb_ne hi]at q1
    exact⟨t,q1,q2⟩
  |_=>exact⟨t,q1,q2⟩
 |loop x ih=>
  intro an s Q h ho
  cases an with
  |lp g tm L a=>
   simp only[WP]at h
   simp only[Obl]at ho
   obtain⟨o1,o2⟩:=ho
   refine sat_ghs hT h fun s' hs' => ?_
   obtain⟨i,⟨⟨inv,μ,k0,k1⟩⟩,k2⟩:=mat_snd hT hs'
   refine ke4 (fun i=>erS T (tm.fill T i)) inv μ i k0 k2 fun i hi=> ?_
   have hr:=k1 i hi
   rw[o1]at hr
   refine ky (ih _ _ _ hr (o2 _)) fun e s1 hq=> ?_
   obtain⟨t,q1,q2⟩:=hq
   cases e with
   |normal=>
    obtain⟨i',⟨m1,m2⟩,m3⟩:=mat_snd hT q1
    exact⟨i',m1,m2,q2.lk.trans m3⟩
   |_=>exact⟨t,q1,q2⟩
  |_=>simp only[WP]at h
 |exit id=>intro an s Q h _;simp only[WP]at h;exact khc (KE.lk h)
 |ret=>
  intro an s Q h _
  simp only[WP]at h
  exact sat_ghs hT h fun s' hs' =>sat_ret (KE.lk hs')
 |label l=>intro an s Q h _;simp only[WP]at h;exact kel (KE.lk h)
 |_=>intro an s Q h _;simp only[WP]at h
theorem eqH_eq:∀{ts:List Ty} {x y:HL T.den ts},eqH ts x y->x=y
 |[],_,_,_=>rfl
 |[_],x,y,h=>by
  obtain⟨a,b⟩:=x
  obtain⟨c,d⟩:=y
  have h:a=c:=h
  subst h;rfl
 |_::t::r,x,y,h=>by
  obtain⟨a,b⟩:=x
  obtain⟨c,d⟩:=y
  obtain⟨h1,h2⟩:=h
  have g1:a=c:=h1
  have g2:b=d:=eqH_eq (ts:=t::r) h2
  rw[g1,g2]
theorem kag (hT:T.Ok) (hI:InfoOk P T C.ti) {s:TSt T.den}:∀(rs:List ResultVar) (K:List (TV T.den)->Prop),resT T C.ti s rs K->∃l,K l/\allOk P (erS T s) rs/\rs.map (resV P (erS T s))=l.map (er T)
 |[],K,h=>⟨[],h,trivial,rfl⟩
 | .tmp t::r,K,h=>by
  obtain⟨l,h1,h2,h3⟩:=kag hT hI r _ h
  refine⟨_,h1,⟨trivial,h2⟩,?_⟩
  simp only[List.map_cons,h3]
  congr 1
  exact getS_er s.sl t
 | .cell t ty::r,K,h=>by
  obtain⟨u,h0,h4,h5⟩:=ke9 hT (hI.of ty) h
  obtain⟨l,h1,h2,h3⟩:=kag hT hI r _ h0
  have e:getS (erS T s).sl t=er T (getT s.sl t):=getS_er s.sl t
  refine⟨_,h1,⟨by show loadOk _ _ (getS (erS T s).sl t);rw[e];exact h4,h2⟩,?_⟩
  simp only[List.map_cons,h3]
  congr 1
  show loadV _ _ (getS (erS T s).sl t)=_
  rw[e];exact h5
theorem kg8:∀{l:List (TV T.den)},noTupB T l=true->l.map (er T)=l.map (er0 T)
 |[],_=>rfl
 |v::r,h=>by
  cases v<;>first|(cases h;done)|(simp only[List.map_cons];rw[kg8 (l:=r) h];rfl)
theorem ret_er {l:List (TV T.den)} (h:noTupB T l=true):retV (l.map (er T))=er T (retTV T l):=by
 match l,h with
 |[],_=>rfl
 |[x],_=>rfl
 |x::y::r,h=>
  exact congrArg V.tup (kg8 h)
theorem ken {h:Hp} {σ:Nat->Nat} {m nx:Nat}:∀{ks:List Nat} {os:List Ob},ks.length=os.length->(∀(i k:Nat) (o:Ob),ks[i]? =some k->os[i]? =some o->k<nx/\obLe (h.get k) (renO σ o)/\okO m o)->postOk h σ m nx ks os
 |[],[],_,_=>trivial
 |[],_::_,h,_=>by cases h
 |_::_,[],h,_=>by cases h
 |k::ks,o::os,h,hh=>⟨hh 0 k o rfl rfl,ken (by simpa using h) fun i k' o' h1 h2=>hh (i+1) k' o' (by simpa using h1) (by simpa using h2)⟩
theorem kbd:∀{n k:Nat} {l:List Nat},selfB n k l=true->selfP k n l
 |0,_,l,_=>by cases l<;>trivial
 |n+1,k,[],h=>by cases h
 |n+1,k,i::r,h=>by
  simp only[selfB,Bool.and_eq_true]at h
  exact⟨nb_eq h.1,kbd h.2⟩
theorem k66 (hT:T.Ok) (hC:C.Ok P T) {c:Con T.den} {rs:List ResultVar} {o:HL T.den (hsV c.res (hsOs c.post))} {s:TSt T.den} (h:retT T C c rs o s):RetA P rs (er T (c.val idf o)) c.pre.length ((c.ops idf o).map (erO T)) (erS T s):=by
 unfold retT at h
 obtain⟨l,h1,h2,h3⟩:=kag hT hC.ti rs _ h
 split at h1
 ·exact h1.elim
 ·rename_i ids hids
  split at h1
  ·exact h1.elim
  ·rename_i b hb
   obtain⟨a1,a2⟩:=cnd h1
   simp only[Bool.and_eq_true,Con.okB]at a1
   obtain⟨⟨⟨⟨⟨hok,hnd⟩,hlt⟩,hlen⟩,hself⟩,hnt⟩:=a1
   obtain⟨⟨⟨⟨⟨⟨⟨⟨⟨⟨o1,o2⟩,o3⟩,o4⟩,o5⟩,o6⟩,o7⟩,o8⟩,o9⟩,o10⟩,o11⟩:=hok
   have hlen:=nb_eq hlen
   obtain⟨y,g1,g2,g3⟩:=k5m hT o10 hb a2
   obtain⟨x,k1,k2,k3⟩:=mtV_snd c.res _ _ y _ o9 g1
   have hx:=eqH_eq k1
   subst hx
   have hfo:c.fo x=tkB c.post b:=by unfold Con.fo;rw[k2,g2]
   have hops:c.ops idf x=(tkC idf (tkB c.post b) 0 c.post _ y).1:=by unfold Con.ops;rw[hfo,k2]
   have hql:((c.ops idf x).map (erO T)).length=c.post.length:=by rw[List.length_map,hops,tkC_len]
   have hval:c.val idf x=(tkV idf (tkB c.post b) c.res _ x).1:=by unfold Con.val;rw[hfo]
   refine retN ids ⟨h2,?_,?_,?_,?_,k1g hnd,by rw[hql];exact ble_le o5,kbd hself⟩
   ·rw[h3,ret_er hnt,hval,<-tkV_ren];exact k3
   ·rw[hql,hval];exact tkV_ok (fun j hj=>hj) c.res _ x o3
   ·rw[hval];exact kef _ _ _
   ·refine ken (by rw[hql];exact hlen) fun i k ob hk ho=> ?_
    have hkm:k<s.nx:=k1d hlt k (List.mem_of_getElem? hk)
    rw[hql]
    rw[List.getElem?_map,Option.map_eq_some_iff]at ho
    obtain⟨ot,ho,rfl⟩:=ho
    rw[hops]at ho
    refine⟨hkm,?_,tkC_ok (k18 _ _) (fun j hj=>hj) 0 c.post _ y o4 i ot ho⟩
    have hr:=tkC_ren (rh ids) (tkB c.post b) (k18 _ _) 0 c.post _ y
    have hi:i<(tkC idf (tkB c.post b) 0 c.post (hsB c.post) y).1.length:=(List.getElem?_eq_some_iff.1 ho).1
    have hi2:i<(tkC (rh ids) (tkB c.post b) 0 c.post (hsB c.post) y).1.length:=by rw[tkC_len]at hi ⊢;exact hi
    have e:=congrArg (fun l=>l[i]?) hr
    simp only[List.getElem?_map,ho,Option.map_some,List.getElem?_eq_getElem hi2,Option.some.injEq]at e
    have:=g3 i _ (List.getElem?_eq_getElem hi2)
    have hrk:rh ids i=k:=by simp[rh,hk]
    rw[e,hrk]at this
    exact this
theorem kau:∀(k:Nat) (l:List (TV T.den)),(initT T k l).map (fun p=>(p.1,er T p.2))=initSl k (l.map (er T))
 |_,[]=>rfl
 |k,x::r=>by
  show(k,er T x)::(initT T (k+1) r).map (fun p=>(p.1,er T p.2))=(k,er T x)::initSl (k+1) (r.map (er T))
  rw[kau (k+1) r]
theorem hpN_idf:∀(k:Nat) (l:List (TOb T.den)),erH T (hpN idf k l)=hpOf k (l.map (erO T))
 |_,[]=>rfl
 |k,x::r=>by
  show(k,erO T x)::erH T (hpN idf (k+1) r)=(k,erO T x)::hpOf (k+1) (r.map (erO T))
  rw[hpN_idf (k+1) r]
theorem Con.sound (hT:T.Ok) (hC:C.Ok P T) (hm:P.follows .mixedOrders=true) {c:Con T.den} {fn:Func} {code:Code} {rs:List ResultVar} (hf:P.funcs[c.f]? =some fn) (hb:fn.body=some code) (hN:fn.ntmps=N) (hrs:fn.results.toList=rs) (hl:Nat.ble c.ins.length N=true)
  {x:HL T.den (hsT c.ins (hsOs c.pre))} {o:HL T.den (hsV c.res (hsOs c.post))} {an:An T} (hW:WP T C N c.pre.length code an (c.st T x) (retTQ T C c rs o)) (hO:Obl T C N c.pre.length code an (retTQ T C c rs o)):
  SoundH P c.f ((c.args idf x).map (er T)) ((c.obs idf x).map (erO T)) (er T (c.val idf o)) ((c.ops idf o).map (erO T)):=by
 have hpl:((c.obs idf x).map (erO T)).length=c.pre.length:=by rw[List.length_map];unfold Con.obs;rw[tkC_len]
 have hal:((c.args idf x).map (er T)).length=c.ins.length:=by rw[List.length_map];unfold Con.args;rw[tkT_len]
 refine kgs hf hb hN (by rw[hal];exact ble_le hl) fun G0 w0=> ?_
 have e:erS T (c.st T x)=⟨initSl 0 ((c.args idf x).map (er T)),hpOf 0 ((c.obs idf x).map (erO T)),((c.obs idf x).map (erO T)).length⟩:=by
  rw[hpl]
  show St.mk _ _ _=_
  unfold Con.st
  rw[kau,hpN_idf]
 rw[<-e,hrs]
 have hnx:(tkOf G0 ((c.obs idf x).map (erO T))).nx=c.pre.length:=hpl
 rw[<-hnx]at hW hO
 refine khq (kl4 hT hC hm code an _ _ hW hO) fun ex s1 hq=> ?_
 obtain⟨t,q1,q2⟩:=hq
 refine⟨erS T t,?_,q2.lk⟩
 cases ex with
 |normal=>have:=k66 hT hC (s:=t) q1;rw[<-hpl]at this;exact this
 |ret=>have:=k66 hT hC (s:=t) q1;rw[<-hpl]at this;exact this
 |_=>exact q1
end
end Go.Cv
namespace Go.Bv
open Go.RowKit
section
variable {G:Gh} {w:World} {h:Hp} {nx:Nat}
theorem PtrsR.ok:∀{ps:List (Option (Nat×Nat))} {vs:List Value},PtrsR G nx ps vs->okP nx ps
 |[],[],_=>trivial
 |[],_::_,h=>h.elim
 |_::_,[],h=>h.elim
 |none::r,_::_,h=>PtrsR.ok (ps:=r) h.2
 |some _::r,_::_,h=>⟨h.1.1,PtrsR.ok (ps:=r) h.2⟩
theorem RepV.ok1 {v:Value} {x:V} (hr:RepV G w h nx v x) (h1:∀l,x≠ .agg l) (h2:∀l,x≠ .tup l):Bv.ok1 nx x:=by
 cases hr with
 |agg _ l=>exact(h1 l rfl).elim
 |tup _ l=>exact(h2 l rfl).elim
 |ptr id _ b hid=>exact hid
 |own _ tok _ _ _ ht=>exact ht
 |row id _ _ _ _ _ _ _ hid=>exact hid
 |rown _ id _ _ hid=>exact hid
 |mp id _ hid=>exact hid
 |clo g fs cs vs us hf hc=>exact⟨hf.ok,hc.ok⟩
 |_=>trivial
theorem okL_of:∀{l:List V},(∀(j:Nat) (x:V),l[j]? =some x->Bv.ok1 nx x)->okL nx l
 |[],_=>trivial
 |x::r,h=>⟨h 0 x rfl,okL_of fun j y hj=>h (j+1) y (by simpa using hj)⟩
theorem one_na {x:V} (h:x.one=true):(∀l,x≠ .agg l)/\∀l,x≠ .tup l:=by
 constructor<;>(intro l e;rw[e]at h;cases h)
theorem RepV.ok0 {v:Value} {x:V} (hr:RepV G w h nx v x) (h2:∀l,x≠ .tup l):Bv.ok0 nx x/\Bv.le0 x x:=by
 by_cases ha:∃l,x= .agg l
 ·obtain⟨l,rfl⟩:=ha
  cases hr with
  |agg vs _ hlen hone hr=>
   refine⟨okL_of fun j x hx=> ?_,k3s l hone⟩
   have hj:j<vs.length:=by have:=(List.getElem?_eq_some_iff.1 hx).1;omega
   have h1:=one_na (hone x (List.mem_of_getElem? hx))
   exact(hr j _ x (List.getElem?_eq_getElem hj) hx).ok1 h1.1 h1.2
 ·have h1:=hr.ok1 (fun l e=>ha ⟨l,e⟩) h2
  cases x with
  |agg l=>exact(ha ⟨l,rfl⟩).elim
  |tup l=>exact(h2 l rfl).elim
  |_=>exact⟨h1,by unfold Bv.le0;exact kc _⟩
theorem okT_of:∀{l:List V},(∀(j:Nat) (x:V),l[j]? =some x->Bv.ok0 nx x/\Bv.le0 x x)->okT nx l/\leT l l
 |[],_=>⟨trivial,trivial⟩
 |x::r,h=>by
  obtain⟨g1,g2⟩:=okT_of (l:=r) fun j y hj=>h (j+1) y (by simpa using hj)
  obtain⟨k1,k2⟩:=h 0 x rfl
  exact⟨⟨k1,g1⟩,⟨k2,g2⟩⟩
theorem RepV.ok {v:Value} {x:V} (hr:RepV G w h nx v x) (ht:∀l,x= .tup l->∀y∈l,∀l',y≠ .tup l'):Bv.ok nx x/\Bv.le x x:=by
 by_cases ha:∃l,x= .tup l
 ·obtain⟨l,rfl⟩:=ha
  cases hr with
  |tup vs _ hlen hr=>
   exact okT_of fun j y hy=>by
    have hj:j<vs.length:=by have:=(List.getElem?_eq_some_iff.1 hy).1;omega
    exact(hr j _ y (List.getElem?_eq_getElem hj) hy).ok0 (ht l rfl y (List.mem_of_getElem? hy))
 ·have h1:=hr.ok0 (fun l e=>ha ⟨l,e⟩)
  cases x with
  |tup l=>exact(ha ⟨l,rfl⟩).elim
  |_=>exact h1
theorem k1t {m:Nat} (h:nx<=m):∀{l:List (Option (Nat×Nat))},okP nx l->okP m l
 |[],_=>trivial
 |none::r,hx=>k1t h (l:=r) hx
 |some _::r,hx=>⟨Nat.lt_of_lt_of_le hx.1 h,k1t h (l:=r) hx.2⟩
theorem klx {m:Nat} (h:nx<=m) {x:V} (hx:Bv.ok1 nx x):Bv.ok1 m x:=by
 cases x<;>first|exact Nat.lt_of_lt_of_le hx h|exact hx|exact⟨k1t h hx.1,k1t h hx.2⟩
theorem k5i {m:Nat} (h:nx<=m):∀{l:List V},okL nx l->okL m l
 |[],_=>trivial
 |_::_,hx=>⟨klx h hx.1,k5i h hx.2⟩
theorem kb1 {m:Nat} (h:nx<=m) {x:V} (hx:Bv.ok0 nx x):Bv.ok0 m x:=by
 cases x with
 |agg l=>exact k5i h (l:=l) hx
 |ptr=>exact Nat.lt_of_lt_of_le hx h
 |own=>exact Nat.lt_of_lt_of_le hx h
 |row=>exact Nat.lt_of_lt_of_le hx h
 |mp=>exact Nat.lt_of_lt_of_le hx h
 |clo=>exact⟨k1t h hx.1,k1t h hx.2⟩
 |_=>exact hx
theorem khr {m:Nat} (h:nx<=m):∀{l:List V},okT nx l->okT m l
 |[],_=>trivial
 |_::_,hx=>⟨kb1 h hx.1,khr h hx.2⟩
theorem ok_mono {m:Nat} (h:nx<=m) {x:V} (hx:Bv.ok nx x):Bv.ok m x:=by
 cases x with
 |tup l=>exact khr h (l:=l) hx
 |agg l=>exact k5i h (l:=l) hx
 |ptr=>exact Nat.lt_of_lt_of_le hx h
 |own=>exact Nat.lt_of_lt_of_le hx h
 |row=>exact Nat.lt_of_lt_of_le hx h
 |mp=>exact Nat.lt_of_lt_of_le hx h
 |clo=>exact⟨k1t h hx.1,k1t h hx.2⟩
 |_=>exact hx
theorem kar {m:Nat} (h:nx<=m):∀{l:List (D×V)},okM nx l->okM m l
 |[],_=>trivial
 |_::_,hx=>⟨kb1 h hx.1,kar h hx.2⟩
theorem klf {m:Nat} (h:nx<=m) {o:Ob} (ho:okO nx o):okO m o:=by
 cases o with
 |cells l=>exact k5i h (l:=l) ho
 |map x=>cases x with
  |m l=>exact kar h (l:=l) ho
  |it mid l last=>exact⟨Nat.lt_of_lt_of_le ho.1 h,kar h ho.2.1,fun e he=>kb1 h (ho.2.2 e he)⟩
 |_=>trivial
theorem k4l {σ:Nat->Nat} (hσ:∀i,i<nx->σ i=i):∀{l:List (Option (Nat×Nat))},okP nx l->renP σ l=l
 |[],_=>rfl
 |none::r,h=>congrArg (List.cons none) (k4l (l:=r) hσ h)
 |some (i,_)::_,h=>by unfold renP;rw[hσ i h.1,k4l hσ h.2]
theorem ren1_id {σ:Nat->Nat} (hσ:∀i,i<nx->σ i=i) {x:V} (h:Bv.ok1 nx x):Bv.ren1 σ x=x:=by
 cases x<;>first|rfl|(simp only[Bv.ren1];rw[hσ _ h])|(simp only[Bv.ren1];rw[k4l hσ h.1,k4l hσ h.2])
theorem renL_id {σ:Nat->Nat} (hσ:∀i,i<nx->σ i=i):∀{l:List V},okL nx l->l.map (Bv.ren1 σ)=l
 |[],_=>rfl
 |x::r,h=>by rw[List.map_cons,ren1_id hσ h.1,renL_id hσ h.2]
theorem ren0_id {σ:Nat->Nat} (hσ:∀i,i<nx->σ i=i) {x:V} (h:Bv.ok0 nx x):Bv.ren0 σ x=x:=by
 cases x with
 |agg l=>exact congrArg V.agg (renL_id hσ h)
 |ptr i o=>exact ren1_id (x:= .ptr i o) hσ h
 |own a b c=>exact ren1_id (x:= .own a b c) hσ h
 |row a b c d=>exact ren1_id (x:= .row a b c d) hσ h
 |mp a=>exact ren1_id (x:= .mp a) hσ h
 |clo a b c=>exact ren1_id (x:= .clo a b c) hσ h
 |_=>rfl
theorem renT_id {σ:Nat->Nat} (hσ:∀i,i<nx->σ i=i):∀{l:List V},okT nx l->l.map (Bv.ren0 σ)=l
 |[],_=>rfl
 |x::r,h=>by rw[List.map_cons,ren0_id hσ h.1,renT_id hσ h.2]
theorem ren_id {σ:Nat->Nat} (hσ:∀i,i<nx->σ i=i) {x:V} (h:Bv.ok nx x):Bv.ren σ x=x:=by
 cases x with
 |tup l=>exact congrArg V.tup (renT_id hσ h)
 |agg l=>exact congrArg V.agg (renL_id hσ h)
 |ptr i o=>exact ren1_id (x:= .ptr i o) hσ h
 |own a b c=>exact ren1_id (x:= .own a b c) hσ h
 |row a b c d=>exact ren1_id (x:= .row a b c d) hσ h
 |mp a=>exact ren1_id (x:= .mp a) hσ h
 |clo a b c=>exact ren1_id (x:= .clo a b c) hσ h
 |_=>rfl
theorem renM_id {σ:Nat->Nat} (hσ:∀i,i<nx->σ i=i):∀{l:List (D×V)},okM nx l->(l.map fun e=>(e.1,Bv.ren0 σ e.2))=l
 |[],_=>rfl
 |x::r,h=>by rw[List.map_cons,ren0_id hσ h.1,renM_id hσ h.2]
theorem renO_id {σ:Nat->Nat} (hσ:∀i,i<nx->σ i=i) {o:Ob} (h:okO nx o):renO σ o=o:=by
 cases o with
 |cells l=>exact congrArg Ob.cells (renL_id hσ h)
 |map x=>cases x with
  |m l=>exact congrArg (fun z=>Ob.map (.m z)) (renM_id hσ h)
  |it mid l last=>
   obtain⟨h1,h2,h3⟩:=h
   show Ob.map (.it (σ mid) _ (last.map _))=_
   rw[hσ mid h1,renM_id hσ h2]
   cases last with
   |none=>rfl
   |some e=>simp only[Option.map_some];rw[ren0_id hσ (h3 e rfl)]
 |_=>rfl
end
end Go.Bv
namespace Go.Cv
open Go Go.Bv Go.RowKit Go.Md
section
variable {T:Tab} {P:Program} {C:Cx T} {N:Nat}
structure Gd (s:TSt T.den):Prop where
 sl:∀t,ok s.nx (er T (getT s.sl t))/\le (er T (getT s.sl t)) (er T (getT s.sl t))
 h:∀id ob,(erS T s).h.get id=some ob->id<s.nx/\okO s.nx ob/\obLe (some ob) ob
theorem er_tup {v:TV T.den}:∀l,er T v= .tup l->∀y∈l,∀l',y≠ .tup l' :=by
 intro l h y hy
 cases v with
 |tup l0=>
  injection h with h
  subst h
  obtain⟨u,_,rfl⟩:=List.mem_map.1 hy
  exact k1f
 |_=>cases h
theorem okM_D {nx:Nat} {k v:Ty}:∀(l:List (k.den T.den×v.den T.den)),okM nx (l.map fun p=>(T.e k p.1,V.ofD (T.e v p.2)))
 |[]=>trivial
 | p::r=>⟨by
   show ok0 nx (V.ofD (T.e v p.2))
   generalize T.e v p.2=d
   cases d with
   |agg l=>exact okL_of fun j x hx=>by rw[List.getElem?_map,Option.map_eq_some_iff]at hx;obtain⟨_,_,rfl⟩:=hx;trivial
   |_=>trivial,okM_D r⟩
theorem kdt:∀x:MO,moLe x x
 | .m _=>rfl
 | .it _ _ none=>⟨rfl,rfl⟩
 | .it _ _ (some _)=>rfl
theorem gd_of {Tk:Tk} {G0:Gh} {w0:World} {s:TSt T.den} {a:Act} {G:Gh} {w:World} (hR:R Tk G0 w0 N (erS T s) a G w):Gd s:=by
 refine⟨fun t=> ?_,fun id ob hg=> ?_⟩
 ·have:=hR.sl t
  rw[show getS (erS T s).sl t=er T (getT s.sl t)from getS_er s.sl t]at this
  exact this.ok er_tup
 ·refine⟨hR.wr.hid id ob hg,?_⟩
  have hg0:=hg
  have hg:(erH T s.h).get id=some ob:=hg
  rw[getH_er,Option.map_eq_some_iff]at hg
  obtain⟨o,ho,rfl⟩:=hg
  have cell:∀l,erO T o= .cells l->okO s.nx (.cells l)/\obLe (some (.cells l)) (.cells l):=by
   intro l hl
   rw[hl]at hg0
   rcases hR.wr.obj id l hg0 with⟨z1,z2⟩|⟨b,e,cs,k1,k2,k3,k4,k5,k6⟩
   ·subst z1;exact⟨trivial,trivial⟩
   ·refine⟨okL_of fun j x hx=> ?_,k3s l k5⟩
    have hj:j<cs.length:=by have:=(List.getElem?_eq_some_iff.1 hx).1;omega
    have h1:=one_na (k5 x (List.mem_of_getElem? hx))
    exact(k6 j _ x (List.getElem?_eq_getElem hj) hx).ok1 h1.1 h1.2
  cases o with
  |cells l=>exact cell _ rfl
  |vec e l=>exact cell _ rfl
  |foc e l i off rid re n=>exact cell _ rfl
  |tip e l=>exact⟨trivial,rfl⟩
  |dead=>exact⟨trivial,trivial⟩
  |map k v ks vs=>exact⟨okM_D _,by show moLe (MO.m _) (MO.m _);exact kdt _⟩
  |it mid k v ks vs last=>
   refine⟨⟨?_,okM_D _,fun e he=> ?_⟩,kdt _⟩
   ·obtain⟨b,bm,since,seen,c0,h1,h2,h3,_⟩:=hR.wr.mob id _ hg0
    exact h3
   ·cases last with
    |none=>cases he
    |some p=>exact k2w (okM_D [p]) 0 e (by simpa using he)
theorem kae {sl' :List (Nat×TV T.den)} {t:Nat}:∀{sl:List (Nat×TV T.den)},hasK T sl t=false->getT (sl++sl') t=getT sl' t
 |[],_=>rfl
 |p::r,h=>by
  simp only[hasK,Bool.or_eq_false_iff]at h
  show(bif Nat.beq t p.1 then p.2 else getT (r++sl') t)=_
  rw[h.1]
  exact kae h.2
theorem khz {sl' :List (Nat×TV T.den)} {t:Nat}:∀{sl:List (Nat×TV T.den)},hasK T sl t=true->getT (sl++sl') t=getT sl t
 |[],h=>by cases h
 |p::r,h=>by
  show(bif Nat.beq t p.1 then p.2 else getT (r++sl') t)=(bif Nat.beq t p.1 then p.2 else getT r t)
  cases e:Nat.beq t p.1 with
  |true=>rfl
  |false=>
   simp only[hasK,e,Bool.false_or]at h
   exact khz h
theorem ke0 {t:Nat}:∀{sl:List (Nat×TV T.den)},hasK T sl t=false->getT sl t= .any
 |[],_=>rfl
 |p::r,h=>by
  simp only[hasK,Bool.or_eq_false_iff]at h
  show(bif Nat.beq t p.1 then p.2 else getT r t)=_
  rw[h.1]
  exact ke0 h.2
theorem memB_in:∀{x:Nat} {l:List Nat},memB x l=true->x∈l
 |_,[],h=>by cases h
 |x,y::r,h=>by
  simp only[memB,Bool.or_eq_true]at h
  rcases h with h|h
  ·rw[nb_eq h];simp
  ·exact List.mem_cons_of_mem _ (memB_in h)
theorem kg4 {ts:List Nat} {sl:List (Nat×TV T.den)}:∀{l:List (Nat×TV T.den)} {t:Nat},chS T ts sl l=true->hasK T l t=true->t∈ts∨hasK T sl t=false
 |[],t,_,h=>by cases h
 |p::r,t,h,hk=>by
  simp only[chS,Bool.and_eq_true,Bool.or_eq_true,Bool.not_eq_true']at h
  simp only[hasK,Bool.or_eq_true]at hk
  rcases hk with hk|hk
  ·rw[nb_eq hk]
   rcases h.1 with h1|h1
   ·exact .inl (memB_in h1)
   ·exact .inr h1
  ·exact kg4 h.2 hk
theorem khk {d:Dl} {nx:Nat}:∀{l:THp T.den} {i:Nat} {o:Ob},chH T d nx l=true->(erH T l).get i=some o->i∈d.old∨i∈d.dd∨nx<=i
 |[],i,o,_,h=>by cases h
 |p::r,i,o,h,hk=>by
  simp only[chH,Bool.and_eq_true,Bool.or_eq_true]at h
  have hk:Hp.get ((p.1,erO T p.2)::erH T r) i=some o:=hk
  simp only[Hp.get]at hk
  split at hk
  ·rename_i e
   rw[e]
   rcases h.1 with(h1|h1)|h1
   ·exact .inl (memB_in h1)
   ·exact .inr (.inl (memB_in h1))
   ·exact .inr (.inr (ble_le h1))
  ·exact khk h.2 hk
theorem pre_app {α:Type} {a b:List α}:pre (a++b) b=a:=by
 unfold pre
 rw[List.length_append,Nat.add_sub_cancel,List.take_left' rfl]
theorem ked {nx:Nat} {dd:List Nat}:∀{a b:List Nat},fixD nx dd a b=true->a.length=b.length/\(∀(p i j:Nat),a[p]? =some i->b[p]? =some j->(i<nx->i=j)/\(nx<=i->nx<=j∨j∈dd))
 |[],[],_=>⟨rfl,fun p i j h=>by simp at h⟩
 |[],_::_,h=>by cases h
 |_::_,[],h=>by cases h
 |x::a,y::b,h=>by
  simp only[fixD,Bool.and_eq_true]at h
  obtain⟨g1,g2⟩:=ked h.2
  refine⟨by simp[g1],fun p i j hi hj=> ?_⟩
  cases p with
  |zero=>
   simp at hi hj
   subst hi;subst hj
   have h1:=h.1
   by_cases e:x<nx
   ·rw[show Nat.blt x nx=true by simp[Nat.blt_eq,e]]at h1
    exact⟨fun _=>nb_eq h1,fun h=>by omega⟩
   ·rw[show Nat.blt x nx=false by cases hb:Nat.blt x nx with|false=>rfl|true=>exact absurd (blt_lt hb) e]at h1
    simp only[cond_false,Bool.or_eq_true]at h1
    refine⟨fun h=>absurd h e,fun _=> ?_⟩
    rcases h1 with h1|h1
    ·exact .inl (ble_le h1)
    ·exact .inr (memB_in h1)
  |succ p=>exact g2 p i j (by simpa using hi) (by simpa using hj)
theorem rho_no:∀{a b:List Nat} {i:Nat},i∉a->rho a b i=i
 |[],_,_,_=>rfl
 |_::_,[],_,_=>rfl
 |x::a,y::b,i,h=>by
  simp only[rho]
  rw[if_neg (fun e=>h (by simp[e])),rho_no (fun e=>h (by simp[e]))]
theorem sgs_get {l:List Nat} {p:Nat} (h:p<l.length):l[p]? =some (sgs l p):=by simp[sgs,h]
theorem ups_mem:∀{k n i:Nat},i∈ups k n↔k<=i/\i<k+n
 |k,0,i=>by simp[ups];try omega
 |k,n+1,i=>by simp only[ups,List.mem_cons,ups_mem];omega
theorem zip_has {t:Nat}:∀{ts:List Nat} {vs:List (TV T.den)},ts.length=vs.length->t∈ts->hasK T (zipS T ts vs) t=true
 |[],_,_,h=>by cases h
 |u::ts,[],h,_=>by cases h
 |u::ts,v::vs,h,hm=>by
  simp only[zipS,hasK,Bool.or_eq_true]
  rcases List.mem_cons.1 hm with rfl|hm
  ·exact .inl (nb_self _)
  ·exact .inr (zip_has (by simpa using h) hm)
theorem zip_no {t:Nat}:∀{ts:List Nat} {vs:List (TV T.den)},t∉ts->hasK T (zipS T ts vs) t=false
 |[],[],_=>rfl
 |[],_::_,_=>rfl
 |_::_,[],_=>rfl
 |u::ts,v::vs,hm=>by
  simp only[zipS,hasK,Bool.or_eq_false_iff]
  exact⟨nb_ne fun e=>hm (by simp[e]),zip_no fun e=>hm (by simp[e])⟩
theorem keh:∀{a l:List Nat},disB a l=true->∀x∈a,x∉l
 |[],_,_,x,h=>by cases h
 |y::a,l,h,x,hx=>by
  simp only[disB,Bool.and_eq_true,Bool.not_eq_true']at h
  rcases List.mem_cons.1 hx with rfl|hx
  ·exact k7k h.1
  ·exact keh h.2 x hx
theorem hpN_hit {σ:Nat->Nat}:∀{os:List (TOb T.den)} {k p:Nat},p<os.length->Hp.get (erH T (hpN σ k os)) (σ (k+p))≠none
 |[],_,_,h=>by cases h
 |o::os,k,p,h=>by
  show Hp.get ((σ k,erO T o)::erH T (hpN σ (k+1) os)) _≠none
  simp only[Hp.get]
  split
  ·simp
  ·rename_i hne
   cases p with
   |zero=>exact(hne rfl).elim
   |succ p=>have:=hpN_hit (σ:=σ) (os:=os) (k:=k+1) (p:=p) (by simpa using h);rw[show k+1+p=k+(p+1)by omega]at this;exact this
theorem kgg {h:THp T.den}:∀{dd:List Nat} {i:Nat} {o:Ob},(erH T ((dd.map fun i=>(i,TOb.dead))++h)).get i=some o->(i∈dd/\o= .dead)∨(i∉dd/\(erH T h).get i=some o)
 |[],i,o,hg=> .inr ⟨by simp,hg⟩
 |x::dd,i,o,hg=>by
  have hg:Hp.get ((x,Ob.dead)::erH T ((dd.map fun i=>(i,TOb.dead))++h)) i=some o:=hg
  simp only[Hp.get]at hg
  split at hg
  ·rename_i e
   injection hg with hg
   exact .inl ⟨by simp[e],hg.symm⟩
  ·rename_i e
   rcases kgg hg with⟨h1,h2⟩|⟨h1,h2⟩
   ·exact .inl ⟨by simp[h1],h2⟩
   ·exact .inr ⟨by simp[e,h1],h2⟩
theorem kb3 (hT:T.Ok) {Tk:Tk} {d:Dl} {s0 s:TSt T.den} {J:HL T.den d.hs->Prop} (hx:Xt s0 s) (hg:Gd s0) (hn:Tk.nx<=s0.nx) (h:d.mat T s0 s J):∃i,J i/\Lk Tk (erS T s) (erS T (d.fill T s0 i)):=by
 unfold Dl.mat at h
 obtain⟨h1,h2⟩:=cnd h
 simp only[Bool.and_eq_true,Dl.okB]at h1
 obtain⟨⟨⟨⟨⟨⟨⟨⟨⟨⟨⟨b1,b2⟩,b3⟩,b4⟩,b6⟩,b7⟩,a1⟩,a2⟩,a3⟩,a4⟩,a5⟩,a6⟩:=h1
 replace h2:=fcL_eq h2
 generalize d.at T s0.nx s=ids at h2
 obtain⟨h3,h4⟩:=cnd h2
 simp only[Bool.and_eq_true]at h3
 obtain⟨⟨c2,c3⟩,c4⟩:=h3
 have c1:=k1g a1
 have c2:=k1g c2
 have c3:=k1d c3
 obtain⟨c5,c6⟩:=ked c4
 have a2:=k1d a2
 have a3:=k1d a3
 have a4:=keh a4
 obtain⟨⟨psl,hpsl⟩,⟨ph,hph⟩,hnx⟩:=hx
 rw[hpsl,pre_app]at a5
 rw[hph,pre_app]at a6
 have hlen:(d.ids s0.nx).length=d.os.length:=by
  have ul:∀k n,(ups k n).length=n:=fun k n=>by induction n generalizing k with|zero=>rfl|succ n ih=>simp[ups,ih]
  have:=ble_le b3
  simp only[Dl.ids,Dl.n,List.length_append,ul];omega
 have hidm:∀i,i∈d.ids s0.nx↔i∈d.old∨(s0.nx<=i/\i<s0.nx+d.n):=fun i=>by simp only[Dl.ids,List.mem_append,ups_mem]
 have hlt:∀j,j<d.os.length->sgs (d.ids s0.nx) j<s0.nx+d.n:=fun j hj=>by
  have:=List.mem_of_getElem? (sgs_get (l:=d.ids s0.nx) (p:=j) (by omega))
  rcases(hidm _).1 this with h|h
  ·have:=a2 _ h;omega
  ·exact h.2
 generalize hI:d.ids s0.nx=I at *
 split at h4
 ·rename_i b hb
  obtain⟨y,g1,g2,g3⟩:=k5m hT b7 hb h4
  obtain⟨x,k1,k2,_,k4⟩:=mtT_snd d.ss _ _ y _ b6 g1
  have hf:d.f T x=tkB d.os b:=by unfold Dl.f;rw[k2,g2]
  have hrho:∀j,j<d.os.length->rho I ids (sgs I j)=sgs ids j:=fun j hj=>rho_at c1 (by omega) (by omega)
  have hid1:∀j,j<d.os.length->idf j<d.os.length:=fun j h=>h
  have hsm:∀i,i<s0.nx->rho I ids i=i:=fun i hi=>by
   by_cases hm:i∈I
   ·obtain⟨p,hp⟩:=List.getElem?_of_mem hm
    have hpl:=(List.getElem?_eq_some_iff.1 hp).1
    have e1:sgs I p=i:=by have:=sgs_get hpl;rw[hp]at this;injection this with this;exact this.symm
    have:=hrho p (by omega)
    rw[e1]at this
    rw[this]
    exact((c6 p i _ hp (sgs_get (by omega))).1 hi).symm
   ·exact rho_no hm
  refine⟨x,k1,fun G0 w0 N a G w hR=> ?_⟩
  have efill:erS T (d.fill T s0 x)=⟨(zipS T d.ts (tkT (sgs I) (tkB d.os b) d.ss _ x).1++s0.sl).map fun p=>(p.1,er T p.2),erH T (hpN (sgs I) 0 (tkC (sgs I) (tkB d.os b) 0 d.os _ y).1++(d.dd.map fun i=>(i,TOb.dead))++s0.h),s0.nx+d.n⟩:=by
   unfold Dl.fill
   rw[hI,hf,k2];rfl
  have hget:∀id ob,(erS T (d.fill T s0 x)).h.get id=some ob->(∃p o,(tkC (sgs I) (tkB d.os b) 0 d.os (hsB d.os) y).1[p]? =some o/\p<d.os.length/\id=sgs I p/\ob=erO T o)∨(id∈d.dd/\id∉I/\ob= .dead)∨(id∉I/\id∉d.dd/\(erS T s0).h.get id=some ob):=by
   intro id ob hgt
   rw[efill]at hgt
   have hgt:Hp.get (erH T (hpN (sgs I) 0 (tkC (sgs I) (tkB d.os b) 0 d.os _ y).1++(d.dd.map fun i=>(i,TOb.dead))++s0.h)) id=some ob:=hgt
   rw[List.append_assoc,erH_app,k21]at hgt
   split at hgt
   ·rename_i o1 ho1
    injection hgt with hgt
    subst hgt
    obtain⟨p,o,q1,q2,q3⟩:=hpN_get _ _ _ _ ho1
    rw[Nat.zero_add]at q2
    exact .inl ⟨p,o,q1,by have:=(List.getElem?_eq_some_iff.1 q1).1;rw[tkC_len]at this;exact this,q2,q3⟩
   ·rename_i hnone
    have hni:id∉I:=by
     intro hm
     obtain⟨p,hp⟩:=List.getElem?_of_mem hm
     have hpl:=(List.getElem?_eq_some_iff.1 hp).1
     have:=hpN_hit (T:=T) (σ:=sgs I) (os:=(tkC (sgs I) (tkB d.os b) 0 d.os (hsB d.os) y).1) (k:=0) (p:=p) (by rw[tkC_len];omega)
     have e1:sgs I p=id:=by have:=sgs_get hpl;rw[hp]at this;injection this with this;exact this.symm
     rw[Nat.zero_add,e1]at this
     exact this hnone
    rcases kgg hgt with⟨q1,q2⟩|⟨q1,q2⟩
    ·exact .inr (.inl ⟨q1,hni,q2⟩)
    ·exact .inr (.inr ⟨hni,q1,q2⟩)
  have hkeep:∀id,id<s0.nx->id∉I->id∉d.dd->(erS T s).h.get id=(erS T s0).h.get id:=by
   intro id h1 h2 h3
   show(erH T s.h).get id=(erH T s0.h).get id
   rw[hph,erH_app,k21]
   split
   ·rename_i o ho
    rcases khk a6 ho with q|q|q
    ·exact(h2 ((hidm id).2 (.inl q))).elim
    ·exact(h3 q).elim
    ·omega
   ·rfl
  have hnew:∀p,p<d.os.length->s0.nx<=sgs I p->∀j,j<s0.nx->j∉d.dd->sgs ids p≠j:=by
   intro p hp h1 j hj hjd e
   rcases(c6 p _ _ (sgs_get (by omega)) (sgs_get (by omega))).2 h1 with q|q
   ·omega
   ·rw[e]at q;exact hjd q
  have hcross:∀p j,p<d.os.length->j∉I->j∉d.dd->j<s0.nx->sgs ids p≠j:=by
   intro p j hp hj1 hj2 hj3 e
   by_cases hs:sgs I p<s0.nx
   ·have:=(c6 p _ _ (sgs_get (by omega)) (sgs_get (by omega))).1 hs
    rw[e]at this
    exact hj1 (this▸List.mem_of_getElem? (sgs_get (by omega)))
   ·exact hnew p hp (by omega) j hj3 hj2 e
  have hnx' :(erS T (d.fill T s0 x)).nx=s0.nx+d.n:=rfl
  have hsnx:(erS T s).nx=s.nx:=rfl
  refine hR.leRen (σ:=rho I ids) (by rw[hnx'];omega) (fun i hi=>hsm i (by omega)) (fun i hi=> ?_) (fun i j li lj hij=> ?_) (fun id ob hgt=> ?_) ?_
  ·rw[hnx']at hi
   rw[hsnx]
   by_cases hs:i<s0.nx
   ·rw[hsm i hs];omega
   ·have hm:i∈I:=(hidm i).2 (.inr ⟨by omega,hi⟩)
    obtain⟨p,hp⟩:=List.getElem?_of_mem hm
    have hpl:=(List.getElem?_eq_some_iff.1 hp).1
    have e1:sgs I p=i:=by have:=sgs_get hpl;rw[hp]at this;injection this with this;exact this.symm
    rw[<-e1,hrho p (by omega)]
    exact c3 _ (List.mem_of_getElem? (sgs_get (by omega)))
  ·obtain⟨oi,hoi,ni⟩:=live_of li
   obtain⟨oj,hoj,nj⟩:=live_of lj
   rcases hget i oi hoi with⟨p,_,_,q1,q2,_⟩|⟨_,_,q3⟩|⟨q1,q2,q3⟩
   ·rcases hget j oj hoj with⟨q,_,_,r1,r2,_⟩|⟨_,_,r3⟩|⟨r1,r2,r3⟩
    ·rw[q2,r2,hrho p q1,hrho q r1]at hij
     have:=kal c2 (sgs_get (show p<ids.length by omega)) (by rw[hij];exact sgs_get (show q<ids.length by omega))
     rw[q2,r2,this]
    ·exact(nj r3).elim
    ·have hj:=(hg.h j oj r3).1
     rw[q2,hrho p q1,hsm j hj]at hij
     exact(hcross p j q1 r1 r2 hj hij).elim
   ·exact(ni q3).elim
   ·have hi:=(hg.h i oi q3).1
    rcases hget j oj hoj with⟨q,_,_,r1,r2,_⟩|⟨_,_,r3⟩|⟨r1,r2,r3⟩
    ·rw[r2,hrho q r1,hsm i hi]at hij
     exact(hcross q i r1 q1 q2 hi hij.symm).elim
    ·exact(nj r3).elim
    ·have hj:=(hg.h j oj r3).1
     rw[hsm i hi,hsm j hj]at hij
     exact hij
  ·rcases hget id ob hgt with⟨p,o,q1,q2,rfl,rfl⟩|⟨q1,q2,rfl⟩|⟨q1,q2,q3⟩
   ·refine⟨hlt p q2,?_,tkC_ok (k18 _ _) hlt 0 d.os _ y b2 p o q1⟩
    have hl1:p<(tkC (sgs ids) (tkB d.os b) 0 d.os (hsB d.os) y).1.length:=by rw[tkC_len];exact q2
    have hl0:p<(tkC idf (tkB d.os b) 0 d.os (hsB d.os) y).1.length:=by rw[tkC_len];exact q2
    have w1:=congrArg (fun l=>l[p]?) (tkC_ren (sgs I) (tkB d.os b) (k18 d.os b) 0 d.os (hsB d.os) y)
    have w2:=congrArg (fun l=>l[p]?) (tkC_ren (sgs ids) (tkB d.os b) (k18 d.os b) 0 d.os (hsB d.os) y)
    simp only[List.getElem?_map,q1,Option.map_some,List.getElem?_eq_getElem hl0,List.getElem?_eq_getElem hl1,Option.some.injEq]at w1 w2
    have w3:=tkC_ok (k18 d.os b) hid1 0 d.os (hsB d.os) y b2 p _ (List.getElem?_eq_getElem hl0)
    rw[hrho p q2,w1,kfj hrho w3,<-w2]
    exact g3 p _ (List.getElem?_eq_getElem hl1)
   ·refine⟨by rw[hnx'];have:=a3 _ q1;omega,?_,trivial⟩
    show obLe _ Ob.dead
    cases (erS T s).h.get (rho I ids id)with
    |none=>trivial
    |some o=>cases o<;>trivial
   ·obtain⟨r1,r2,r3⟩:=hg.h id ob q3
    have mono:∀{m:Nat},s0.nx<=m->okO s0.nx ob->okO m ob:=fun hm ho=>klf hm ho
    refine⟨by rw[hnx'];omega,?_,mono (by rw[hnx'];omega) r2⟩
    rw[hsm id r1,renO_id hsm r2,hkeep id r1 q1 q2,q3]
    exact r3
  ·intro t
   have key:leAll ((d.ts.map (getT s.sl)).map (er T)) (((tkT (sgs I) (tkB d.os b) d.ss (hsOs d.os) x).1.map (er T)).map (ren (rho I ids))):=by
    have e1:((tkT (sgs I) (tkB d.os b) d.ss (hsOs d.os) x).1.map (er T)).map (ren (rho I ids))=(tkT (sgs ids) (tkB d.os b) d.ss (hsOs d.os) x).1.map (er T):=by
     rw[tkT_er,tkT_er]
     have:((tkT (sgs I) (tkB d.os b) d.ss (hsOs d.os) x).1.map (er0 T)).map (ren (rho I ids))=((tkT (sgs I) (tkB d.os b) d.ss (hsOs d.os) x).1.map (er0 T)).map (ren0 (rho I ids)):=by
      rw[List.map_map,List.map_map]
      exact List.map_congr_left fun v _=>ren_0 _ k1f
     rw[this,k2a (sgs I),k2a (sgs ids)]
     exact kaw hrho (tkT_ok hid1 d.ss _ x b1)
    rw[e1];exact k4
   rw[efill]
   show getS ((zipS T d.ts (tkT (sgs I) (tkB d.os b) d.ss _ x).1++s0.sl).map fun p=>(p.1,er T p.2)) t= .any∨_
   rw[getS_er]
   by_cases ht:t∈d.ts
   ·rw[khz (zip_has (by rw[tkT_len];exact nb_eq b4) ht)]
    have:=slotsR (sl:=s.sl) (nx:=s0.nx+d.n) d.ts _ key (args_ok hlt d.ss _ x b1) t
    rw[getS_er]at this
    exact this
   ·rw[kae (zip_no ht)]
    by_cases hk:hasK T s0.sl t=true
    ·right
     have e:getT s.sl t=getT s0.sl t:=by
      rw[hpsl]
      refine kae ?_
      cases hp:hasK T psl t with
      |false=>rfl
      |true=>
       rcases kg4 a5 hp with q|q
       ·exact(ht q).elim
       ·rw[q]at hk;cases hk
     obtain⟨r1,r2⟩:=hg.sl t
     refine⟨?_,ok_mono (Nat.le_add_right _ _) r1⟩
     rw[ren_id hsm r1,show getS (erS T s).sl t=er T (getT s.sl t)from getS_er s.sl t,e]
     exact r2
    ·left
     rw[ke0 (by simpa using hk)];rfl
 ·exact h4.elim
theorem Xt.cons {s:TSt T.den} (a:List (Nat×TV T.den)) (b:THp T.den) (n:Nat):Xt s ⟨a++s.sl,b++s.h,s.nx+n⟩:=⟨⟨a,rfl⟩,⟨b,rfl⟩,Nat.le_add_right _ _⟩
theorem Xt.h1 {s:TSt T.den} (b:THp T.den) (n:Nat):Xt s ⟨s.sl,b++s.h,s.nx+n⟩:=⟨⟨[],rfl⟩,⟨b,rfl⟩,Nat.le_add_right _ _⟩
theorem khw {id n z:Nat} {v:TV T.den}:∀(ts:List Nat) (sl:List (Nat×TV T.den)) {K K' :List (Nat×TV T.den)->Prop},(∀a,K (a++sl)->K' (a++sl))->rowsTo T id v n z ts sl K->rowsTo T id v n z ts sl K'
 |[],sl,K,K',hk,h=>hk [] h
 |t::ts,sl,K,K',hk,h=>by
  simp only[rowsTo]at h ⊢
  split at h
  ·obtain⟨h1,h2,h3⟩:=cnd h
   rw[h1,cond_true]
   exact⟨h2,khw ts _ (fun a ha=>by have:=hk (a++[(t,v)]);simp only[List.append_assoc,List.singleton_append]at this;exact this ha) h3⟩
  ·exact h.elim
theorem trimV_X {h:THp T.den} {v:TV T.den} {K K' :Nat->(e:Ty)->List (e.den T.den)->Prop} (hk:∀id e l,K id e l->K' id e l) (hh:trimV T h v K):trimV T h v K' :=by
 unfold trimV at hh ⊢
 split at hh<;>try exact hh.elim
 all_goals
  split at hh
  ·obtain⟨h1,h2⟩:=cnd hh
   rw[h1,cond_true]
   first|exact⟨h2.1,hk _ _ _ h2.2⟩|exact⟨h2.1,h2.2.1,hk _ _ _ h2.2.2⟩
  ·exact hh.elim
theorem gh1_X {s:TSt T.den} {K K' :TSt T.den->Prop} (hk:∀s',Xt s s'->K s'->K' s'):∀(g:Gs),gh1 T s K g->gh1 T s K' g
 | .frz id ts,h=>by
  simp only[gh1]at h ⊢
  split at h
  ·exact khw ts _ (fun a=>hk _ ⟨⟨a,rfl⟩,⟨[_,_],rfl⟩,Nat.le_succ _⟩) h
  ·exact h.elim
 | .frzc id i j,h=>by
  simp only[gh1]at h ⊢
  split at h
  ·split at h
   ·obtain⟨h1,h2,h3⟩:=cnd h
    rw[h1,cond_true]
    exact⟨h2,hk _ ⟨⟨[],rfl⟩,⟨[_,_,_],rfl⟩,Nat.le_succ _⟩ h3⟩
   ·exact h.elim
  ·exact h.elim
 | .tok t e,h=>by
  simp only[gh1]at h ⊢
  split at h
  ·exact hk _ ⟨⟨[_],rfl⟩,⟨[_],rfl⟩,Nat.le_succ _⟩ h
  ·exact h.elim
 | .tokc id j e,h=>by
  simp only[gh1]at h ⊢
  split at h
  ·split at h
   ·split at h
    ·exact hk _ ⟨⟨[],rfl⟩,⟨[_,_],rfl⟩,Nat.le_succ _⟩ h
    ·exact h.elim
   ·exact h.elim
  ·exact h.elim
 | .trim t,h=>by
  simp only[gh1]at h ⊢
  exact trimV_X (fun _ _ _=>hk _ ⟨⟨[_],rfl⟩,⟨[_,_],rfl⟩,Nat.le_succ _⟩) h
 | .trimc id j,h=>by
  simp only[gh1]at h ⊢
  split at h
  ·split at h
   ·refine trimV_X (fun id' e l hh=> ?_) h
    revert hh
    cases Nat.beq id' id with
    |true=>exact fun hh=>hh
    |false=>exact hk _ ⟨⟨[],rfl⟩,⟨[_,_,_],rfl⟩,Nat.le_succ _⟩
   ·exact h.elim
  ·exact h.elim
 | .rnil t e,h=>by
  simp only[gh1]at h ⊢
  obtain⟨h1,h2⟩:=cnd h
  rw[h1,cond_true]
  exact hk _ ⟨⟨[_],rfl⟩,⟨[_],rfl⟩,Nat.le_succ _⟩ h2
 | .rnilc id j e,h=>by
  simp only[gh1]at h ⊢
  split at h
  ·split at h
   ·obtain⟨h1,h2⟩:=cnd h
    rw[h1,cond_true]
    exact hk _ ⟨⟨[],rfl⟩,⟨[_,_],rfl⟩,Nat.le_succ _⟩ h2
   ·exact h.elim
  ·exact h.elim
 | .frzf id i,h=>by
  simp only[gh1]at h ⊢
  split at h
  ·obtain⟨h1,h⟩:=cnd h
   rw[h1,cond_true]
   split at h
   ·exact⟨h.1,hk _ ⟨⟨[],rfl⟩,⟨[_,_,_],rfl⟩,Nat.le_succ _⟩ h.2⟩
   ·exact h.elim
  ·exact h.elim
theorem ghs_X:∀(gs:List Gs) {s:TSt T.den} {K K' :TSt T.den->Prop},(∀s',Xt s s'->K s'->K' s')->ghs T gs s K->ghs T gs s K'
 |[],s,_,_,hk,h=>hk s (Xt.refl s) h
 |g::gs,s,_,_,hk,h=>gh1_X (fun s1 h1 h2=>ghs_X gs (fun s' h3=>hk s' (h1.trans h3)) h2) g h
theorem fill_X {d:Dl} {s:TSt T.den} {i:HL T.den d.hs}:Xt s (d.fill T s i):=⟨⟨_,rfl⟩,⟨_,rfl⟩,Nat.le_add_right _ _⟩
theorem sat_ghX (hT:T.Ok) {Tk:Tk} {G0:Gh} {w0:World} {gs:List Gs} {s:TSt T.den} {K:TSt T.den->Prop} {c:Code} {Q:Exit->St->Prop} (h:ghs T gs s K) (hk:∀s',K s'->Xt s s'->Sat P Tk G0 w0 N c (erS T s') Q):Sat P Tk G0 w0 N c (erS T s) Q:=
 sat_ghs hT (K:=fun s' =>K s'/\Xt s s') (ghs_X gs (fun _ hx hs=>⟨hs,hx⟩) h) fun s' hs=>hk s' hs.1 hs.2
def QX (s:TSt T.den) (Q:Exit->TSt T.den->Prop) (e:Exit) (t:St):Prop:=KE (fun t=>Q e t/\Xt s t) t
theorem QX.of {s s' :TSt T.den} {Q:Exit->TSt T.den->Prop} {e:Exit} {t:St} (hx:Xt s s') (h:QX s' Q e t):QX s Q e t:=let⟨u,h1,h2⟩:=h;⟨u,⟨h1.1,hx.trans h1.2⟩,h2⟩
theorem QX.mk {s t:TSt T.den} {Q:Exit->TSt T.den->Prop} {e:Exit} (hx:Xt s t) (h:Q e t):QX s Q e (erS T t):=⟨t,⟨h,hx⟩,Wk.refl _⟩
theorem klj (hT:T.Ok) (hC:C.Ok P T) (hm:P.follows .mixedOrders=true) {Tk:Tk} {G0:Gh} {w0:World}:∀(c:Code) (an:Nt) (s:TSt T.den) (Q:Exit->TSt T.den->Prop),Tk.nx<=s.nx->WQ T C N c an s Q->Sat P Tk G0 w0 N c (erS T s) (QX s Q):=by
 intro c
 induction c with
 |skip=>intro an s Q _ h;exact kgw (QX.mk (Xt.refl s) (by simpa[WQ]using h))
 |region id ops dr=>
  intro an s Q _ h
  obtain⟨l⟩:=ops
  have h:regW T C N ⟨l⟩ dr s (Q .normal):=by simpa[WQ]using h
  cases dr with
  |false=>
   intro G a w hR
   exact wp_region_lit (k4p hT hC l (Q .normal) s s a G w (Xt.refl s) hR h fun s' a' G' w' hk hx hR' =>⟨erS T s',G',QX.mk hx hk,hR'⟩)
  |true=>
   unfold regW at h
   obtain⟨h1,h2⟩:=cnd h
   rw[Bool.and_eq_true]at h1
   refine kds C.S hm (noIt_er h1.2) h1.1 fun K hK=> ?_
   have hx:Xt s ⟨s.sl,s.h,s.nx+l.length*C.S⟩:=⟨⟨[],rfl⟩,⟨[],rfl⟩,Nat.le_add_right _ _⟩
   exact k3u (K:=KE fun t=>Q .normal t/\Xt s t) (fun a b he ⟨t,q1,q2⟩=>hK a ⟨t,q1,he.wk.trans q2⟩) (closeOps l) _ _ _ _ _ (Eqv.refl _) (k3h hT hC (s0:=s) (closeOps l) _ _ _ _ hx h2)
 |seq x y ihx ihy=>
  intro an s Q hn h
  have plain:∀(ga gb:List Gs) (a b:Nt),(ghs T ga s fun s=>WQ T C N x a s (thenT T (fun s' =>ghs T gb s' fun s' =>WQ T C N y b s' Q) Q))->Sat P Tk G0 w0 N (.seq x y) (erS T s) (QX s Q):=by
   intro ga gb a b h1
   refine sat_ghX hT h1 fun s' hs' hx=>sat_seq (ky (ihx a s' _ (Nat.le_trans hn hx.2.2) hs') fun e s1 hq=> ?_)
   obtain⟨t,⟨q1,q2⟩,q3⟩:=hq
   cases e with
   |normal=>exact sat_lk q3.lk (sat_ghX hT q1 fun s2 hs2 hx2=>ky (ihy b s2 Q (Nat.le_trans hn ((hx.trans q2).trans hx2).2.2) hs2) fun _ _=>QX.of ((hx.trans q2).trans hx2))
   |_=>exact⟨t,⟨q1,hx.trans q2⟩,q3⟩
  cases an with
  |jn d ga a gb b=>
   have h:ghs T ga s fun s=>∀J:Ar T.den d.hs Prop,alH d.hs (fun i=>(ghs T gb (d.fill T s i) fun s' =>WQ T C N y b s' Q)->apA d.hs J i)->WQ T C N x a s (thenT T (fun s1=>d.mat T s s1 (apA d.hs J)) Q):=by simpa only[WQ]using h
   refine sat_ghX hT h fun s' hs' hx=> ?_
   have hn' :=Nat.le_trans hn hx.2.2
   intro G ac w hR
   have hg:=gd_of hR
   have h1:=hs' (cuA d.hs fun i=>Sat P Tk G0 w0 N y (erS T (d.fill T s' i)) (QX s Q)) (alH_iff.2 fun i hi=>by
    rw[ap_cu]
    exact sat_ghX hT hi fun s2 hs2 hx2=>ky (ihy b s2 Q (Nat.le_trans hn' (fill_X.trans hx2).2.2) hs2) fun _ _=>QX.of (hx.trans (fill_X.trans hx2)))
   refine sat_seq (ky (ihx a s' _ hn' h1) fun e s1 hq=> ?_) G ac w hR
   obtain⟨t,⟨q1,q2⟩,q3⟩:=hq
   cases e with
   |normal=>
    obtain⟨i,k1,k2⟩:=kb3 hT q2 hg hn' q1
    rw[ap_cu]at k1
    exact sat_lk (q3.lk.trans k2) k1
   |_=>exact⟨t,⟨q1,hx.trans q2⟩,q3⟩
  |no=>simp only[WQ]at h;exact plain _ _ _ _ h
  |r n b=>simp only[WQ]at h;exact plain _ _ _ _ h
  |nd ga a gb b=>simp only[WQ]at h;exact plain _ _ _ _ h
  |lp g d a=>simp only[WQ]at h;exact plain _ _ _ _ h
  |rt g=>simp only[WQ]at h;exact plain _ _ _ _ h
 |cond c x y ihx ihy=>
  intro an s Q hn h
  simp only[WQ]at h
  split at h
  ·rename_i hv
   exact kdx (by rw[ev_er,hv];rfl) (sat_ghX hT h fun s' hs' hx=>ky (ihx _ s' Q (Nat.le_trans hn hx.2.2) hs') fun _ _=>QX.of hx)
  ·rename_i hv
   exact ke2 (by rw[ev_er,hv];rfl) (sat_ghX hT h fun s' hs' hx=>ky (ihy _ s' Q (Nat.le_trans hn hx.2.2) hs') fun _ _=>QX.of hx)
  ·rename_i t hv
   exact k6c (t:=t) (by rw[ev_er,hv];rfl) (fun ht=>sat_ghX hT (h.1 ht) fun s' hs' hx=>ky (ihx _ s' Q (Nat.le_trans hn hx.2.2) hs') fun _ _=>QX.of hx) (fun ht=>sat_ghX hT (h.2 ht) fun s' hs' hx=>ky (ihy _ s' Q (Nat.le_trans hn hx.2.2) hs') fun _ _=>QX.of hx)
  ·exact h.elim
 |block id x ih=>
  intro an s Q hn h
  simp only[WQ]at h
  refine kdr (ky (ih an s _ hn h) fun e s1 hq=> ?_)
  obtain⟨t,⟨q1,q2⟩,q3⟩:=hq
  cases e with
  |exit id' =>
   simp only[blockT]at q1
   simp only[blockA]
   by_cases hi:id' =id
   ·rw[if_pos hi]
    rw[hi,nb_self]at q1
    exact⟨t,⟨q1,q2⟩,q3⟩
   ·rw[if_neg hi]
    rw[nb_ne hi]at q1
    exact⟨t,⟨q1,q2⟩,q3⟩
  |_=>exact⟨t,⟨q1,q2⟩,q3⟩
 |loop x ih=>
  intro an s Q hn h
  cases an with
  |lp g d a=>
   simp only[WQ]at h
   refine sat_ghX hT h fun s' hs' hx=> ?_
   have hn' :=Nat.le_trans hn hx.2.2
   intro G ac w hR
   have hg:=gd_of hR
   obtain⟨i,⟨inv,μ,k0,k1⟩,k2⟩:=kb3 hT (Xt.refl s') hg hn' hs'
   refine ke4 (fun i=>erS T (d.fill T s' i)) (apA d.hs inv) (apA d.hs μ) i k0 k2 (fun i hi=> ?_) G ac w hR
   refine ky (ih _ _ _ (Nat.le_trans hn' fill_X.2.2) (alH_iff.1 k1 i hi)) fun e s1 hq=> ?_
   obtain⟨t,⟨q1,q2⟩,q3⟩:=hq
   cases e with
   |normal=>
    obtain⟨i',⟨m1,m2⟩,m3⟩:=kb3 hT (fill_X.trans q2) hg hn' q1
    exact⟨i',m1,m2,q3.lk.trans m3⟩
   |_=>exact⟨t,⟨q1,hx.trans (fill_X.trans q2)⟩,q3⟩
  |_=>simp only[WQ]at h
 |exit id=>intro an s Q _ h;simp only[WQ]at h;exact khc (QX.mk (Xt.refl s) h)
 |ret=>
  intro an s Q _ h
  simp only[WQ]at h
  exact sat_ghX hT h fun s' hs' hx=>sat_ret (QX.mk hx hs')
 |label l=>intro an s Q _ h;simp only[WQ]at h;exact kel (QX.mk (Xt.refl s) h)
 |_=>intro an s Q _ h;simp only[WQ]at h
theorem Con.soundQ (hT:T.Ok) (hC:C.Ok P T) (hm:P.follows .mixedOrders=true) {c:Con T.den} {fn:Func} {code:Code} (hf:P.funcs[c.f]? =some fn) (hb:fn.body=some code) (hl:Nat.ble c.ins.length fn.ntmps=true)
  {x:HL T.den (hsT c.ins (hsOs c.pre))} {o:HL T.den (hsV c.res (hsOs c.post))} {an:Nt} (hW:WQ T C fn.ntmps code an (c.st T x) (retTQ T C c fn.results.toList o)):
  SoundH P c.f ((c.args idf x).map (er T)) ((c.obs idf x).map (erO T)) (er T (c.val idf o)) ((c.ops idf o).map (erO T)):=by
 have hpl:((c.obs idf x).map (erO T)).length=c.pre.length:=by rw[List.length_map];unfold Con.obs;rw[tkC_len]
 have hal:((c.args idf x).map (er T)).length=c.ins.length:=by rw[List.length_map];unfold Con.args;rw[tkT_len]
 refine kgs hf hb rfl (by rw[hal];exact ble_le hl) fun G0 w0=> ?_
 have e:erS T (c.st T x)=⟨initSl 0 ((c.args idf x).map (er T)),hpOf 0 ((c.obs idf x).map (erO T)),((c.obs idf x).map (erO T)).length⟩:=by
  rw[hpl]
  show St.mk _ _ _=_
  unfold Con.st
  rw[kau,hpN_idf]
 rw[<-e]
 refine khq (klj hT hC hm code an _ _ (Nat.le_of_eq hpl) hW) fun ex s1 hq=> ?_
 obtain⟨t,⟨q1,_⟩,q2⟩:=hq
 refine⟨erS T t,?_,q2.lk⟩
 cases ex with
 |normal=>have:=k66 hT hC (s:=t) q1;rw[<-hpl]at this;exact this
 |ret=>have:=k66 hT hC (s:=t) q1;rw[<-hpl]at this;exact this
 |_=>exact q1
end
end Go.Cv
namespace Go.Cv
open Go Go.Bv Go.RowKit Go.Md
structure WPh (T:Tab) (C:Cx T) (N n0:Nat) (c:Code) (an:An T) (s:TSt T.den) (Q:Exit->TSt T.den->Prop):Prop where
 h:WP T C N n0 c an s Q
structure OblH (T:Tab) (C:Cx T) (N n0:Nat) (c:Code) (an:An T) (Q:Exit->TSt T.den->Prop):Prop where
 h:Obl T C N n0 c an Q
theorem mpr_of {A B:Prop} (e:A=B) (h:B):A:=e.mpr h
section
variable {S:Nat->Type}
end
def flAll (F:Nat->Option (Nat×Bool×Nat)):Nat->List (Nat×Bool×Nat)->Prop
 |_,[]=>True
 |k,q::r=>F k=some q/\flAll F (k+1) r
theorem kdz {F:Nat->Option (Nat×Bool×Nat)}:∀{l:List (Nat×Bool×Nat)} {k:Nat},flAll F k l->∀i q,l[i]? =some q->F (k+i)=some q
 |[],_,_,i,q,h=>by simp at h
 |p::r,k,ha,i,q,h=>by
  cases i with
  |zero=>simp at h;subst h;exact ha.1
  |succ i=>rw[show k+(i+1)=k+1+i by omega];exact kdz ha.2 i q (by simpa using h)
theorem kf {P:Program} {t:TypeId} {l:List (Nat×Bool×Nat)} (h:flAll (fldOf P t) 0 l) (f:Nat) (q:Nat×Bool×Nat) (hq:l[f]? =some q):fldOf P t f=some q:=by
 have:=kdz h f q hq
 simpa using this
section
variable {T:Tab} {P:Program}
theorem all_cons {α:Type} {p:α->Prop} {a:α} {l:List α} (h:p a) (h' :∀c∈l,p c):∀c∈a::l,p c:=fun c hc=>by
 rcases List.mem_cons.1 hc with rfl|hc
 ·exact h
 ·exact h' c hc
theorem ke {P:Program} {T:Tab}:InfoOk P T .lf:=fun _ _ h=>by cases h
theorem find_nd {P:Program} {T:Tab} {l r:BT (TI T.den)} {k:Nat} {v:TI T.den} (hv:TI.Ok P T k v) (hl:InfoOk P T l) (hr:InfoOk P T r):InfoOk P T (.nd l k v r):=fun t x h=>by
 unfold BT.find at h
 cases h1:Nat.beq t k with
 |true=>rw[h1]at h;have:=nb_eq h1;subst this;injection h with h;subst h;exact hv
 |false=>
  rw[h1]at h
  cases h2:Nat.ble t k with
  |true=>rw[h2]at h;exact hl t x h
  |false=>rw[h2]at h;exact hr t x h
end
end Go.Cv
namespace Go.Cv
open Go Go.Bv Go.RowKit Go.Md
section
variable {S:Nat->Type}
def apH:(a:List Ty)->{b:List Ty}->HL S a->HL S b->HL S (a++b)
 |[],_,_,y=>y
 |_::r,_,x,y=>(x.1,apH r x.2 y)
def spA:(a:List Ty)->{b:List Ty}->HL S (a++b)->HL S a
 |[],_,_=>()
 |_::r,_,x=>(x.1,spA r x.2)
def spB:(a:List Ty)->{b:List Ty}->HL S (a++b)->HL S b
 |[],_,x=>x
 |_::r,_,x=>spB r x.2
theorem ap_sp:∀(a:List Ty) {b:List Ty} (x:HL S (a++b)),apH a (spA a x) (spB a x)=x
 |[],_,_=>rfl
 |_::r,_,x=>congrArg (fun z=>(x.1,z)) (ap_sp r x.2)
def cst {a b:List Ty} (h:a=b) (x:HL S b):HL S a:=h▸x
theorem cst_cst {a b:List Ty} (h:a=b) (x:HL S b):cst h.symm (cst h x)=x:=by subst h;rfl
def cnj:List Prop->Prop
 |[]=>True
 |[a]=>a
 |a::b::r=>a/\cnj (b::r)
def eqs:List Prop->Prop->Prop
 |[],K=>K
 |a::l,K=>cnj (a::l)->K
def alM:List Bool->(ts:List Ty)->HL S ts->(HL S ts->List Prop->Prop)->Prop
 |true::m,t::r,x,K=>∀v:t.den S,alM m r x.2 fun y l=>K (v,y) ((v=x.1)::l)
 |false::m,t::r,x,K=>alM m r x.2 fun y l=>K (x.1,y) l
 |_,_,x,K=>K x []
def alE:(ts:List Ty)->HL S ts->(HL S ts->Prop)->Prop
 |t::r,x,K=>∀v:t.den S,x.1=v->alE r x.2 fun y=>K (v,y)
 |[],x,K=>K x
theorem cnj_of:∀{l:List Prop},(∀p∈l,p)->cnj l
 |[],_=>trivial
 |[_],h=>h _ (List.mem_singleton_self _)
 |_::b::r,h=>⟨h _ (List.mem_cons_self ..),cnj_of (l:=b::r) fun p hp=>h p (List.mem_cons_of_mem _ hp)⟩
theorem alM_at:∀{m:List Bool} {ts:List Ty} {x:HL S ts} {K:HL S ts->List Prop->Prop},alM m ts x K->∃l,K x l/\∀p∈l,p
 |[],[],_,_,h=>⟨_,h,fun _ hp=>by cases hp⟩
 |[],_::_,_,_,h=>⟨_,h,fun _ hp=>by cases hp⟩
 |true::_,[],_,_,h=>⟨_,h,fun _ hp=>by cases hp⟩
 |false::_,[],_,_,h=>⟨_,h,fun _ hp=>by cases hp⟩
 |true::m,_::r,x,_,h=>by
  obtain⟨l,h1,h2⟩:=alM_at (m:=m) (ts:=r) (h x.1)
  refine⟨_,h1,fun p hp=> ?_⟩
  rcases List.mem_cons.1 hp with rfl|hp
  ·rfl
  ·exact h2 p hp
 |false::m,_::r,_,_,h=>alM_at (m:=m) (ts:=r) h
theorem eqs_at {l:List Prop} {K:Prop} (h:eqs l K) (hl:∀p∈l,p):K:=by
 cases l with
 |nil=>exact h
 |cons a l=>exact h (cnj_of hl)
theorem alE_at:∀{ts:List Ty} {x:HL S ts} {K:HL S ts->Prop},alE ts x K->K x
 |[],_,_,h=>h
 |_::r,x,_,h=>alE_at (ts:=r) (h x.1 rfl)
end
section
variable (T:Tab)
def flT:List Ty->List Ty
 |[]=>[]
 | .st n::r=>T.tys n++flT r
 | .int k::r=> .int k::flT r
 | .bool::r=> .bool::flT r
 | .str::r=> .str::flT r
 | .sl e::r=> .sl e::flT r
def flH:(ts:List Ty)->HL T.den ts->HL T.den (flT T ts)
 |[],_=>()
 | .st n::r,x=>apH (T.tys n) (T.cells n x.1) (flH r x.2)
 | .int _::r,x=>(x.1,flH r x.2)
 | .bool::r,x=>(x.1,flH r x.2)
 | .str::r,x=>(x.1,flH r x.2)
 | .sl _::r,x=>(x.1,flH r x.2)
def unH:(ts:List Ty)->HL T.den (flT T ts)->HL T.den ts
 |[],_=>()
 | .st n::r,x=>(T.pack n (spA (T.tys n) x),unH r (spB (T.tys n) x))
 | .int _::r,x=>(x.1,unH r x.2)
 | .bool::r,x=>(x.1,unH r x.2)
 | .str::r,x=>(x.1,unH r x.2)
 | .sl _::r,x=>(x.1,unH r x.2)
theorem fl_un (hT:T.Ok):∀(ts:List Ty) (x:HL T.den (flT T ts)),flH T ts (unH T ts x)=x
 |[],_=>rfl
 | .st n::r,x=>by
  show apH (T.tys n) (T.cells n (T.pack n (spA (T.tys n) x))) (flH T r (unH T r (spB (T.tys n) x)))=x
  rw[hT.pc,fl_un hT r]
  exact ap_sp _ _
 | .int _::r,x=>congrArg (fun z=>(x.1,z)) (fl_un hT r x.2)
 | .bool::r,x=>congrArg (fun z=>(x.1,z)) (fl_un hT r x.2)
 | .str::r,x=>congrArg (fun z=>(x.1,z)) (fl_un hT r x.2)
 | .sl _::r,x=>congrArg (fun z=>(x.1,z)) (fl_un hT r x.2)
end
structure Shp where
 f:Nat
 ins:List Sh0
 pre:List OSh
 res:Sh
 post:List OSh
 alt:Bool:=false
abbrev Shp.I (c:Shp):List Ty:=hsT c.ins (hsOs c.pre)
abbrev Shp.O (c:Shp):List Ty:=hsV c.res (hsOs c.post)
def Shp.c {S:Nat->Type} (c:Shp) (R:HL S c.I->(HL S c.O->Prop)->Prop):Con S:=⟨c.f,c.ins,c.pre,c.res,c.post,R,c.alt⟩
def Con.g {T:Tab} (c:Shp) (pk qk:List Ty) (m:List Bool) (sp:Ar T.den pk (Prop×HL T.den qk)) (h:flT T pk=c.I:=by kernel_rfl) (h' :flT T qk=c.O:=by kernel_rfl):Con T.den:=
 c.c fun x K=>(apA pk sp (unH T pk (cst h x))).1/\alM m qk (apA pk sp (unH T pk (cst h x))).2 fun o l=>eqs l (K (cst h'.symm (flH T qk o)))
def Con.t {T:Tab} (c:Shp) (pk qk:List Ty) (m:List Bool) (sp:Ar T.den pk (HL T.den qk)) (h:flT T pk=c.I:=by kernel_rfl) (h' :flT T qk=c.O:=by kernel_rfl):Con T.den:=
 c.c fun x K=>alM m qk (apA pk sp (unH T pk (cst h x))) fun o l=>eqs l (K (cst h'.symm (flH T qk o)))
def dS (T:Tab):Ty->Sh0
 | .st n=> .agg ((T.tys n).map .d)
 |t=> .one (.d t)
def dV (T:Tab):List Ty->Sh
 |[t]=> .one (dS T t)
 |l=> .tup (l.map (dS T))
def Shp.p (T:Tab) (f:Nat) (pk qk:List Ty):Shp:=⟨f,pk.map (dS T),[],dV T qk,[],false⟩
def NoGo (fn:Func):Bool:=decide (fn.name≠ "runtime.NumGoroutine")
structure Base (P:Program) (T:Tab) (I:BT (TI T.den)):Prop where
 tb:T.Ok
 ti:InfoOk P T I
 mix:P.follows .mixedOrders=true
def AllC (P:Program) (T:Tab) (l:List (Con T.den)):Prop:=∀c∈l,c.Ok P T
def AllX (P:Program) (T:Tab) (l:List (XCon T.den)):Prop:=∀c∈l,c.Ok P T
section
variable {P:Program} {T:Tab}
theorem c0:AllC P T []:=fun _ h=>by cases h
theorem x0:AllX P T []:=fun _ h=>by cases h
theorem Con.Ok.c {c:Con T.den} {l:List (Con T.den)} (h:c.Ok P T) (h' :AllC P T l):AllC P T (c::l):=all_cons h h'
theorem x1 {c:XCon T.den} {l:List (XCon T.den)} (h:c.Ok P T) (h' :AllX P T l):AllX P T (c::l):=all_cons h h'
theorem callable {f:Nat} {fn:Func} {code:Code} (hf:P.funcs[f]? =some fn) (hb:fn.body=some code) (hg:NoGo fn=true):Callable P f:=by
 refine⟨by rw[hf];simp[hb],?_⟩
 rw[hf]
 intro h
 simp only[Option.map_some,Option.some.injEq]at h
 exact of_decide_eq_true hg h
def obF (C:Cx T) (fn:Func) (an:Nt) (k:Con T.den) (pk qk:List Ty) (h:flT T pk=hsT k.ins (hsOs k.pre)) (h' :flT T qk=hsV k.res (hsOs k.post)) (sp:HL T.den pk->(HL T.den qk->Prop)->Prop):Prop:=match fn.body with
 | some code=>bif NoGo fn&&Nat.ble k.ins.length fn.ntmps then
   alH pk fun y=>sp y fun o=>WQ T C fn.ntmps code an (k.st T (cst h.symm (flH T pk y))) (retTQ T C k fn.results.toList (cst h'.symm (flH T qk o)))
  else False
 |none=>False
theorem obF_ok {I:BT (TI T.den)} (B:Base P T I) {cs:List (Con T.den)} {xs:List (XCon T.den)} {z:Nat} {rw:List Nat} {fn:Func} {an:Nt} {k:Con T.den} {pk qk:List Ty} {h:flT T pk=hsT k.ins (hsOs k.pre)} {h' :flT T qk=hsV k.res (hsOs k.post)} {sp:HL T.den pk->(HL T.den qk->Prop)->Prop}
  (hf:P.funcs[k.f]? =some fn) (hcs:AllC P T cs) (hxs:AllX P T xs) (q:obF ⟨I,cs,xs,z,rw⟩ fn an k pk qk h h' sp)
  (hR:∀x K,k.R x K->∀L,sp (unH T pk (cst h x)) L->∃o,K (cst h'.symm (flH T qk o))/\L o):k.Ok P T:=by
 unfold obF at q
 split at q
 ·rename_i code hb
  obtain⟨q1,q2⟩:=cnd q
  rw[Bool.and_eq_true]at q1
  refine⟨callable hf hb q1.1,fun x K hx=> ?_⟩
  obtain⟨o,h1,h2⟩:=hR x K hx _ (alH_iff.1 q2 (unH T pk (cst h x)))
  have e:cst h.symm (flH T pk (unH T pk (cst h x)))=x:=by rw[fl_un T B.tb];exact cst_cst h x
  rw[e]at h2
  exact⟨_,h1,Con.soundQ (C:=⟨I,cs,xs,z,rw⟩) B.tb ⟨B.ti,hcs,hxs⟩ B.mix hf hb q1.2 h2⟩
 ·exact q.elim
variable {I:BT (TI T.den)} {cs:List (Con T.den)} {xs:List (XCon T.den)} {rw:List Nat} {fn:Func} {an:Nt} {c:Shp} {pk qk:List Ty} {m:List Bool} {h:flT T pk=c.I} {h' :flT T qk=c.O} {Q:Prop}
theorem prx (B:Base P T I) (rw:List Nat) {sp:Ar T.den pk (Prop×HL T.den qk)} (hf:P.funcs[c.f]? =some fn) (an:Nt) (hxs:AllX P T xs) (hcs:AllC P T cs)
  (e:obF ⟨I,cs,xs,4,rw⟩ fn an (Con.g c pk qk m sp h h') pk qk h h' (fun y L=>(apA pk sp y).1->alE qk (apA pk sp y).2 L)=Q) (q:Q):(Con.g c pk qk m sp h h').Ok P T:=
 obF_ok B hf hcs hxs (e.mpr q) fun _ _ hx _ hL=>let⟨_,h1,h2⟩:=alM_at hx.2;⟨_,eqs_at h1 h2,alE_at (hL hx.1)⟩
theorem ptx (B:Base P T I) (rw:List Nat) {sp:Ar T.den pk (HL T.den qk)} (hf:P.funcs[c.f]? =some fn) (an:Nt) (hxs:AllX P T xs) (hcs:AllC P T cs)
  (e:obF ⟨I,cs,xs,4,rw⟩ fn an (Con.t c pk qk m sp h h') pk qk h h' (fun y L=>alE qk (apA pk sp y) L)=Q) (q:Q):(Con.t c pk qk m sp h h').Ok P T:=
 obF_ok B hf hcs hxs (e.mpr q) fun _ _ hx _ hL=>let⟨_,h1,h2⟩:=alM_at hx;⟨_,eqs_at h1 h2,alE_at hL⟩
theorem prv (B:Base P T I) {sp:Ar T.den pk (Prop×HL T.den qk)} (hf:P.funcs[c.f]? =some fn) (an:Nt) (hcs:AllC P T cs)
  (e:obF ⟨I,cs,[],4,[]⟩ fn an (Con.g c pk qk m sp h h') pk qk h h' (fun y L=>(apA pk sp y).1->alE qk (apA pk sp y).2 L)=Q) (q:Q):(Con.g c pk qk m sp h h').Ok P T:=prx B [] hf an x0 hcs e q
theorem ptv (B:Base P T I) {sp:Ar T.den pk (HL T.den qk)} (hf:P.funcs[c.f]? =some fn) (an:Nt) (hcs:AllC P T cs)
  (e:obF ⟨I,cs,[],4,[]⟩ fn an (Con.t c pk qk m sp h h') pk qk h h' (fun y L=>alE qk (apA pk sp y) L)=Q) (q:Q):(Con.t c pk qk m sp h h').Ok P T:=ptx B [] hf an x0 hcs e q
theorem cal {f:Nat} (hf:P.funcs[f]? =some fn) (h:(fn.body.isSome&&NoGo fn)=true):Callable P f:=by
 rw[Bool.and_eq_true,Option.isSome_iff_exists]at h
 obtain⟨⟨_,h1⟩,h2⟩:=h
 exact callable hf h1 h2
theorem Con.Ok.at {k:Con T.den} (hk:k.Ok P T) (x:HL T.den (hsT k.ins (hsOs k.pre))) (o:HL T.den (hsV k.res (hsOs k.post))) (hx:k.R x fun o' =>o' =o):SoundH P k.f ((k.args idf x).map (er T)) ((k.obs idf x).map (erO T)) (er T (k.val idf o)) ((k.ops idf o).map (erO T)):=by
 obtain⟨o',rfl,h⟩:=hk.snd x _ hx
 exact h
theorem hsL_d:∀(l r:List Ty),hsL (l.map .d) r=l++r
 |[],_=>rfl
 |t::l,r=>congrArg (t::·) (hsL_d l r)
theorem hs0_d (t:Ty) (r:List Ty):hs0 (dS T t) r=flT T [t]++r:=by
 cases t with
 |st n=>show hsL ((T.tys n).map .d) r=(T.tys n++[])++r;rw[hsL_d,List.append_nil]
 |_=>rfl
theorem km1 (t:Ty) (r:List Ty):flT T (t::r)=flT T [t]++flT T r:=by
 cases t with
 |st n=>show T.tys n++flT T r=(T.tys n++[])++flT T r;rw[List.append_nil]
 |_=>rfl
theorem hsT_d:∀(l:List Ty),flT T l=hsT (l.map (dS T)) []
 |[]=>rfl
 |t::l=>by
  rw[km1,hsT_d l]
  exact(hs0_d t _).symm
theorem hsV_d:∀(l:List Ty),flT T l=hsV (dV T l) []
 |[]=>rfl
 |[t]=>by show _=hs0 (dS T t) [];rw[hs0_d,List.append_nil]
 |t::u::l=>hsT_d (t::u::l)
def Con.gp {T:Tab} (f:Nat) (pk qk:List Ty) (m:List Bool) (sp:Ar T.den pk (Prop×HL T.den qk)):Con T.den:=Con.g (.p T f pk qk) pk qk m sp (hsT_d pk) (hsV_d qk)
def Con.tp {T:Tab} (f:Nat) (pk qk:List Ty) (m:List Bool) (sp:Ar T.den pk (HL T.den qk)):Con T.den:=Con.t (.p T f pk qk) pk qk m sp (hsT_d pk) (hsV_d qk)
section
variable {f:Nat}
theorem qrx (B:Base P T I) (rw:List Nat) {sp:Ar T.den pk (Prop×HL T.den qk)} (hf:P.funcs[f]? =some fn) (an:Nt) (hxs:AllX P T xs) (hcs:AllC P T cs)
  (e:obF ⟨I,cs,xs,4,rw⟩ fn an (Con.gp f pk qk m sp) pk qk (hsT_d pk) (hsV_d qk) (fun y L=>(apA pk sp y).1->alE qk (apA pk sp y).2 L)=Q) (q:Q):(Con.gp f pk qk m sp).Ok P T:=prx (c:= .p T f pk qk) (h:=hsT_d pk) (h' :=hsV_d qk) B rw hf an hxs hcs e q
theorem qtx (B:Base P T I) (rw:List Nat) {sp:Ar T.den pk (HL T.den qk)} (hf:P.funcs[f]? =some fn) (an:Nt) (hxs:AllX P T xs) (hcs:AllC P T cs)
  (e:obF ⟨I,cs,xs,4,rw⟩ fn an (Con.tp f pk qk m sp) pk qk (hsT_d pk) (hsV_d qk) (fun y L=>alE qk (apA pk sp y) L)=Q) (q:Q):(Con.tp f pk qk m sp).Ok P T:=ptx (c:= .p T f pk qk) (h:=hsT_d pk) (h' :=hsV_d qk) B rw hf an hxs hcs e q
theorem qrv (B:Base P T I) {sp:Ar T.den pk (Prop×HL T.den qk)} (hf:P.funcs[f]? =some fn) (an:Nt) (hcs:AllC P T cs)
  (e:obF ⟨I,cs,[],4,[]⟩ fn an (Con.gp f pk qk m sp) pk qk (hsT_d pk) (hsV_d qk) (fun y L=>(apA pk sp y).1->alE qk (apA pk sp y).2 L)=Q) (q:Q):(Con.gp f pk qk m sp).Ok P T:=qrx B [] hf an x0 hcs e q
theorem qtv (B:Base P T I) {sp:Ar T.den pk (HL T.den qk)} (hf:P.funcs[f]? =some fn) (an:Nt) (hcs:AllC P T cs)
  (e:obF ⟨I,cs,[],4,[]⟩ fn an (Con.tp f pk qk m sp) pk qk (hsT_d pk) (hsV_d qk) (fun y L=>alE qk (apA pk sp y) L)=Q) (q:Q):(Con.tp f pk qk m sp).Ok P T:=qtx B [] hf an x0 hcs e q
end
def Con.b {T:Tab} (c:Shp) (pk qk:List Ty) {B:Type} (sp:Ar T.den pk (Prop×B×(B->HL T.den qk))) (h:flT T pk=c.I:=by kernel_rfl) (h' :flT T qk=c.O:=by kernel_rfl):Con T.den:=
 c.c fun x K=>(apA pk sp (unH T pk (cst h x))).1/\K (cst h'.symm (flH T qk ((apA pk sp (unH T pk (cst h x))).2.2 (apA pk sp (unH T pk (cst h x))).2.1)))
def Con.bp {T:Tab} (f:Nat) (pk qk:List Ty) {B:Type} (sp:Ar T.den pk (Prop×B×(B->HL T.den qk))):Con T.den:=Con.b (.p T f pk qk) pk qk sp (hsT_d pk) (hsV_d qk)
section
variable {f:Nat} {B' :Type} {sp:Ar T.den pk (Prop×B'×(B'->HL T.den qk))}
theorem pbx (B:Base P T I) (rw:List Nat) (hf:P.funcs[c.f]? =some fn) (an:Nt) (hxs:AllX P T xs) (hcs:AllC P T cs)
  (e:obF ⟨I,cs,xs,4,rw⟩ fn an (Con.b c pk qk sp h h') pk qk h h' (fun y L=>(apA pk sp y).1->∀R,(apA pk sp y).2.1=R->L ((apA pk sp y).2.2 R))=Q) (q:Q):(Con.b c pk qk sp h h').Ok P T:=
 obF_ok B hf hcs hxs (e.mpr q) fun _ _ hx _ hL=>⟨_,hx.2,hL hx.1 _ rfl⟩
theorem pbv (B:Base P T I) (hf:P.funcs[c.f]? =some fn) (an:Nt) (hcs:AllC P T cs)
  (e:obF ⟨I,cs,[],4,[]⟩ fn an (Con.b c pk qk sp h h') pk qk h h' (fun y L=>(apA pk sp y).1->∀R,(apA pk sp y).2.1=R->L ((apA pk sp y).2.2 R))=Q) (q:Q):(Con.b c pk qk sp h h').Ok P T:=pbx B [] hf an x0 hcs e q
theorem qbx (B:Base P T I) (rw:List Nat) (hf:P.funcs[f]? =some fn) (an:Nt) (hxs:AllX P T xs) (hcs:AllC P T cs)
  (e:obF ⟨I,cs,xs,4,rw⟩ fn an (Con.bp f pk qk sp) pk qk (hsT_d pk) (hsV_d qk) (fun y L=>(apA pk sp y).1->∀R,(apA pk sp y).2.1=R->L ((apA pk sp y).2.2 R))=Q) (q:Q):(Con.bp f pk qk sp).Ok P T:=pbx (c:= .p T f pk qk) (h:=hsT_d pk) (h' :=hsV_d qk) B rw hf an hxs hcs e q
theorem qbv (B:Base P T I) (hf:P.funcs[f]? =some fn) (an:Nt) (hcs:AllC P T cs)
  (e:obF ⟨I,cs,[],4,[]⟩ fn an (Con.bp f pk qk sp) pk qk (hsT_d pk) (hsV_d qk) (fun y L=>(apA pk sp y).1->∀R,(apA pk sp y).2.1=R->L ((apA pk sp y).2.2 R))=Q) (q:Q):(Con.bp f pk qk sp).Ok P T:=qbx B [] hf an x0 hcs e q
end
end
end Go.Cv
namespace Go.Proofs.YtijdfglbhaedoaaGreat
open Go Go.Bv Go.Cv Go.Md Go.RowKit
open Go.IntKind (i64 u64)
structure wJ where
 wAE:Int
 wC:Int
 wR:Int
 wO:Int
 wN:Int
 wQ:Int
 wm:Int
 wc:Int
 wAJ:Int
 deriving Inhabited,DecidableEq
structure wAn where
 wb:Int
 wAc:Int
 wAX:Int
 wAA:List Int
 deriving Inhabited,DecidableEq
structure wl where
 wW:Int
 wG:List Int
 wB:List wAn
 wI:Int
 wL:Int
 Fee:Int
 wP:Int
 wX:Int
 wAZ:Int
 wAH:List Int
 deriving Inhabited,DecidableEq
structure wT where
 wAx:Int
 wY:Int
 wAo:Int
 wAJ:Int
 wX:Int
 Txs:List wl
 deriving Inhabited,DecidableEq
structure wE where
 wAl:Int
 wAa:List Int
 wAd:Int
 deriving Inhabited,DecidableEq
structure wAb where
 wAp:Int
 wAf:Int
 wAq:Int
 deriving Inhabited,DecidableEq
structure wF where
 wC:Int
 wa:Int
 wh:List Int
 deriving Inhabited,DecidableEq
structure ww where
 P:Int
 deriving Inhabited,DecidableEq
structure wAP where
 a0:Int
 a1:Int
 a2:Int
 deriving Inhabited,DecidableEq
structure wA where
 ID:Int
 wU:Int
 wX:Int
 deriving Inhabited,DecidableEq
structure wS where
 wAs:Int
 wAt:Int
 wAu:List Int
 leaves:Int
 marks:List Int
 wAm:List wA
 hidden:Int
 deriving Inhabited,DecidableEq
structure wK where
 wZ:Int
 wAD:Int
 wAG:Int
 wAQ:Int
 Key:Int
 wAY:Int
 wH:Int
 wn:List Int
 wAv:Bool
 deriving Inhabited,DecidableEq
structure wo where
 root:Int
 leaves:Int
 deriving Inhabited,DecidableEq
structure wM where
 Value:Int
 wAi:Int
 Rho:Int
 wAk:Int
 deriving Inhabited,DecidableEq
structure wAF where
 a0:Int
 a1:Int
 deriving Inhabited,DecidableEq
structure wg where
 wD:List wA
 deriving Inhabited,DecidableEq
structure wV where
 Ins:List wK
 wB:List wM
 wAN:Int
 deriving Inhabited,DecidableEq
structure wx where
 wC:Int
 wW:Int
 wG:List Int
 wj:List Int
 wAO:List Int
 wI:Int
 wL:Int
 Fee:Int
 wP:Int
 wAw:Int
 deriving Inhabited,DecidableEq
structure wAj where
 wAK:Int
 wY:Int
 Tx:Int
 wAT:Int
 wAS:List Int
 wAL:Int
 wAV:Int
 wAU:List Int
 wAM:Int
 deriving Inhabited,DecidableEq
structure wAI where
 wAg:Int
 wAr:Int
 wAe:Int
 wAW:Int
 wAh:Int
 wAC:Int
 wAB:Int
 wAR:Int
 wz:Int
 wd:List Int
 wt:Int
 wy:Int
 we:List Int
 wv:Int
 deriving Inhabited,DecidableEq
def denT:Nat->Type
 |0=>wJ
 |1=>wAn
 |2=>wl
 |3=>wT
 |4=>wE
 |5=>wAb
 |6=>wF
 |7=>ww
 |8=>wAP
 |9=>wA
 |10=>wS
 |11=>wK
 |12=>wo
 |13=>wM
 |14=>wAF
 |15=>wg
 |16=>wV
 |17=>wx
 |18=>wAj
 |19=>wAI
 |_=>Unit
def tysT:Nat->List Ty
 |0=>[.int .i64,.int .i64,.int .i64,.int .i64,.int .i64,.int .u64,.int .i64,.int .i64,.int .u64]
 |1=>[.int .u64,.int .u64,.int .u64,.sl (.int .u64)]
 |2=>[.int .u64,.sl (.int .u64),.sl (.st 1),.int .u64,.int .u64,.int .u64,.int .u64,.int .u64,.int .i64,.sl (.int .u8)]
 |3=>[.int .u64,.int .i64,.int .u64,.int .u64,.int .u64,.sl (.st 2)]
 |4=>[.int .u64,.sl (.int .u64),.int .u64]
 |5=>[.int .i64,.int .i64,.int .i64]
 |6=>[.int .i64,.int .i64,.sl (.int .u64)]
 |7=>[.int .u64]
 |8=>[.int .u64,.int .u64,.int .u64]
 |9=>[.int .u64,.int .u64,.int .u64]
 |10=>[.int .i64,.int .i64,.sl (.int .u64),.int .i64,.sl (.int .u64),.sl (.st 9),.int .u64]
 |11=>[.int .u64,.int .u64,.int .u64,.int .u64,.int .u64,.int .i64,.int .i64,.sl (.int .u64),.bool]
 |12=>[.int .u64,.int .i64]
 |13=>[.int .u64,.int .u64,.int .u64,.int .u64]
 |14=>[.int .u64,.int .u64]
 |15=>[.sl (.st 9)]
 |16=>[.sl (.st 11),.sl (.st 13),.int .u64]
 |17=>[.int .i64,.int .u64,.sl (.int .u64),.sl (.int .u64),.sl (.int .u64),.int .u64,.int .u64,.int .u64,.int .u64,.int .u64]
 |18=>[.int .i64,.int .i64,.int .i64,.int .u64,.sl (.int .u64),.int .u64,.int .u64,.sl (.int .u64),.int .u64]
 |19=>[.int .u64,.int .u64,.int .u64,.int .i64,.int .i64,.int .i64,.int .i64,.int .i64,.int .u64,.sl (.int .u64),.int .u64,.int .u64,.sl (.int .u64),.int .u64]
 |_=>[]
theorem kjs (x:wM):wM.mk x.Value x.wAi x.Rho x.wAk=x:=rfl
def encTRules (x:wJ):D:= .agg [.int .i64 x.wAE,.int .i64 x.wC,.int .i64 x.wR,.int .i64 x.wO,.int .i64 x.wN,.int .u64 x.wQ,.int .i64 x.wm,.int .i64 x.wc,.int .u64 x.wAJ]
def encTOut (x:wAn):D:= .agg [.int .u64 x.wb,.int .u64 x.wAc,.int .u64 x.wAX,.slice 1 (x.wAA.map (D.int .u64))]
def encTTx (x:wl):D:= .agg [.int .u64 x.wW,.slice 1 (x.wG.map (D.int .u64)),.slice 4 (x.wB.map encTOut),.int .u64 x.wI,.int .u64 x.wL,.int .u64 x.Fee,.int .u64 x.wP,.int .u64 x.wX,.int .i64 x.wAZ,.slice 1 (x.wAH.map (D.int .u8))]
def encTBlock (x:wT):D:= .agg [.int .u64 x.wAx,.int .i64 x.wY,.int .u64 x.wAo,.int .u64 x.wAJ,.int .u64 x.wX,.slice 10 (x.Txs.map encTTx)]
def encTQuestion (x:wE):D:= .agg [.int .u64 x.wAl,.slice 1 (x.wAa.map (D.int .u64)),.int .u64 x.wAd]
def encTProofParams (x:wAb):D:= .agg [.int .i64 x.wAp,.int .i64 x.wAf,.int .i64 x.wAq]
def encTFrontier (x:wF):D:= .agg [.int .i64 x.wC,.int .i64 x.wa,.slice 1 (x.wh.map (D.int .u64))]
def encTField (x:ww):D:= .agg [.int .u64 x.P]
def encTA3 (x:wAP):D:= .agg [.int .u64 x.a0,.int .u64 x.a1,.int .u64 x.a2]
def encTAccount (x:wA):D:= .agg [.int .u64 x.ID,.int .u64 x.wU,.int .u64 x.wX]
def encTbefore (x:wS):D:= .agg [.int .i64 x.wAs,.int .i64 x.wAt,.slice 1 (x.wAu.map (D.int .u64)),.int .i64 x.leaves,.slice 1 (x.marks.map (D.int .u64)),.slice 3 (x.wAm.map encTAccount),.int .u64 x.hidden]
def encTSpent (x:wK):D:= .agg [.int .u64 x.wZ,.int .u64 x.wAD,.int .u64 x.wAG,.int .u64 x.wAQ,.int .u64 x.Key,.int .i64 x.wAY,.int .i64 x.wH,.slice 1 (x.wn.map (D.int .u64)),.bool x.wAv]
def encTtree (x:wo):D:= .agg [.int .u64 x.root,.int .i64 x.leaves]
def encTNote (x:wM):D:= .agg [.int .u64 x.Value,.int .u64 x.wAi,.int .u64 x.Rho,.int .u64 x.wAk]
def encTA2 (x:wAF):D:= .agg [.int .u64 x.a0,.int .u64 x.a1]
def encTLedger (x:wg):D:= .agg [.slice 3 (x.wD.map encTAccount)]
def encTWitness (x:wV):D:= .agg [.slice 9 (x.Ins.map encTSpent),.slice 4 (x.wB.map encTNote),.int .u64 x.wAN]
def encTStatement (x:wx):D:= .agg [.int .i64 x.wC,.int .u64 x.wW,.slice 1 (x.wG.map (D.int .u64)),.slice 1 (x.wj.map (D.int .u64)),.slice 1 (x.wAO.map (D.int .u64)),.int .u64 x.wI,.int .u64 x.wL,.int .u64 x.Fee,.int .u64 x.wP,.int .u64 x.wAw]
def encTFault (x:wAj):D:= .agg [.int .i64 x.wAK,.int .i64 x.wY,.int .i64 x.Tx,.int .u64 x.wAT,.slice 1 (x.wAS.map (D.int .u64)),.int .u64 x.wAL,.int .u64 x.wAV,.slice 1 (x.wAU.map (D.int .u64)),.int .u64 x.wAM]
def encTReport (x:wAI):D:= .agg [.int .u64 x.wAg,.int .u64 x.wAr,.int .u64 x.wAe,.int .i64 x.wAW,.int .i64 x.wAh,.int .i64 x.wAC,.int .i64 x.wAB,.int .i64 x.wAR,.int .u64 x.wz,.slice 1 (x.wd.map (D.int .u64)),.int .u64 x.wt,.int .u64 x.wy,.slice 1 (x.we.map (D.int .u64)),.int .u64 x.wv]
def TB:Tab where
 den:=denT
 tys:=tysT
 inh:=fun n=>match n with
  |0=>(default:wJ)
  |1=>(default:wAn)
  |2=>(default:wl)
  |3=>(default:wT)
  |4=>(default:wE)
  |5=>(default:wAb)
  |6=>(default:wF)
  |7=>(default:ww)
  |8=>(default:wAP)
  |9=>(default:wA)
  |10=>(default:wS)
  |11=>(default:wK)
  |12=>(default:wo)
  |13=>(default:wM)
  |14=>(default:wAF)
  |15=>(default:wg)
  |16=>(default:wV)
  |17=>(default:wx)
  |18=>(default:wAj)
  |19=>(default:wAI)
  |_+20=>()
 cells:=fun n=>match n with
  |0=>fun(x:wJ)=>(x.wAE,x.wC,x.wR,x.wO,x.wN,x.wQ,x.wm,x.wc,x.wAJ,())
  |1=>fun(x:wAn)=>(x.wb,x.wAc,x.wAX,x.wAA,())
  |2=>fun(x:wl)=>(x.wW,x.wG,x.wB,x.wI,x.wL,x.Fee,x.wP,x.wX,x.wAZ,x.wAH,())
  |3=>fun(x:wT)=>(x.wAx,x.wY,x.wAo,x.wAJ,x.wX,x.Txs,())
  |4=>fun(x:wE)=>(x.wAl,x.wAa,x.wAd,())
  |5=>fun(x:wAb)=>(x.wAp,x.wAf,x.wAq,())
  |6=>fun(x:wF)=>(x.wC,x.wa,x.wh,())
  |7=>fun(x:ww)=>(x.P,())
  |8=>fun(x:wAP)=>(x.a0,x.a1,x.a2,())
  |9=>fun(x:wA)=>(x.ID,x.wU,x.wX,())
  |10=>fun(x:wS)=>(x.wAs,x.wAt,x.wAu,x.leaves,x.marks,x.wAm,x.hidden,())
  |11=>fun(x:wK)=>(x.wZ,x.wAD,x.wAG,x.wAQ,x.Key,x.wAY,x.wH,x.wn,x.wAv,())
  |12=>fun(x:wo)=>(x.root,x.leaves,())
  |13=>fun(x:wM)=>(x.Value,x.wAi,x.Rho,x.wAk,())
  |14=>fun(x:wAF)=>(x.a0,x.a1,())
  |15=>fun(x:wg)=>(x.wD,())
  |16=>fun(x:wV)=>(x.Ins,x.wB,x.wAN,())
  |17=>fun(x:wx)=>(x.wC,x.wW,x.wG,x.wj,x.wAO,x.wI,x.wL,x.Fee,x.wP,x.wAw,())
  |18=>fun(x:wAj)=>(x.wAK,x.wY,x.Tx,x.wAT,x.wAS,x.wAL,x.wAV,x.wAU,x.wAM,())
  |19=>fun(x:wAI)=>(x.wAg,x.wAr,x.wAe,x.wAW,x.wAh,x.wAC,x.wAB,x.wAR,x.wz,x.wd,x.wt,x.wy,x.we,x.wv,())
  |_+20=>fun _=>()
 pack:=fun n=>match n with
  |0=>fun(q0,q1,q2,q3,q4,q5,q6,q7,q8,())=>wJ.mk q0 q1 q2 q3 q4 q5 q6 q7 q8
  |1=>fun(q0,q1,q2,q3,())=>wAn.mk q0 q1 q2 q3
  |2=>fun(q0,q1,q2,q3,q4,q5,q6,q7,q8,q9,())=>wl.mk q0 q1 q2 q3 q4 q5 q6 q7 q8 q9
  |3=>fun(q0,q1,q2,q3,q4,q5,())=>wT.mk q0 q1 q2 q3 q4 q5
  |4=>fun(q0,q1,q2,())=>wE.mk q0 q1 q2
  |5=>fun(q0,q1,q2,())=>wAb.mk q0 q1 q2
  |6=>fun(q0,q1,q2,())=>wF.mk q0 q1 q2
  |7=>fun(q0,())=>ww.mk q0
  |8=>fun(q0,q1,q2,())=>wAP.mk q0 q1 q2
  |9=>fun(q0,q1,q2,())=>wA.mk q0 q1 q2
  |10=>fun(q0,q1,q2,q3,q4,q5,q6,())=>wS.mk q0 q1 q2 q3 q4 q5 q6
  |11=>fun(q0,q1,q2,q3,q4,q5,q6,q7,q8,())=>wK.mk q0 q1 q2 q3 q4 q5 q6 q7 q8
  |12=>fun(q0,q1,())=>wo.mk q0 q1
  |13=>fun(q0,q1,q2,q3,())=>wM.mk q0 q1 q2 q3
  |14=>fun(q0,q1,())=>wAF.mk q0 q1
  |15=>fun(q0,())=>wg.mk q0
  |16=>fun(q0,q1,q2,())=>wV.mk q0 q1 q2
  |17=>fun(q0,q1,q2,q3,q4,q5,q6,q7,q8,q9,())=>wx.mk q0 q1 q2 q3 q4 q5 q6 q7 q8 q9
  |18=>fun(q0,q1,q2,q3,q4,q5,q6,q7,q8,())=>wAj.mk q0 q1 q2 q3 q4 q5 q6 q7 q8
  |19=>fun(q0,q1,q2,q3,q4,q5,q6,q7,q8,q9,q10,q11,q12,q13,())=>wAI.mk q0 q1 q2 q3 q4 q5 q6 q7 q8 q9 q10 q11 q12 q13
  |_+20=>fun _=>()
 enc:=fun n=>match n with
  |0=>encTRules
  |1=>encTOut
  |2=>encTTx
  |3=>encTBlock
  |4=>encTQuestion
  |5=>encTProofParams
  |6=>encTFrontier
  |7=>encTField
  |8=>encTA3
  |9=>encTAccount
  |10=>encTbefore
  |11=>encTSpent
  |12=>encTtree
  |13=>encTNote
  |14=>encTA2
  |15=>encTLedger
  |16=>encTWitness
  |17=>encTStatement
  |18=>encTFault
  |19=>encTReport
  |_+20=>fun _=> .agg []
theorem TBok:TB.Ok where
 one:=fun n=>match n with
  |0=>rfl
  |1=>rfl
  |2=>rfl
  |3=>rfl
  |4=>rfl
  |5=>rfl
  |6=>rfl
  |7=>rfl
  |8=>rfl
  |9=>rfl
  |10=>rfl
  |11=>rfl
  |12=>rfl
  |13=>rfl
  |14=>rfl
  |15=>rfl
  |16=>rfl
  |17=>rfl
  |18=>rfl
  |19=>rfl
  |_+20=>rfl
 pc:=fun n x=>match n with
  |0=>rfl
  |1=>rfl
  |2=>rfl
  |3=>rfl
  |4=>rfl
  |5=>rfl
  |6=>rfl
  |7=>rfl
  |8=>rfl
  |9=>rfl
  |10=>rfl
  |11=>rfl
  |12=>rfl
  |13=>rfl
  |14=>rfl
  |15=>rfl
  |16=>rfl
  |17=>rfl
  |18=>rfl
  |19=>rfl
  |_+20=>rfl
 en:=fun n x=>match n with
  |0=>rfl
  |1=>rfl
  |2=>rfl
  |3=>rfl
  |4=>rfl
  |5=>rfl
  |6=>rfl
  |7=>rfl
  |8=>rfl
  |9=>rfl
  |10=>rfl
  |11=>rfl
  |12=>rfl
  |13=>rfl
  |14=>rfl
  |15=>rfl
  |16=>rfl
  |17=>rfl
  |18=>rfl
  |19=>rfl
  |_+20=>rfl
def ti3:TI TB.den:={ty:=some (false,1),ze:=some [.d (.int .i64) (0:Int)],un:=some (.int .i64)}
theorem ti3_ok:TI.Ok Tryz.prog TB 3 ti3:=
  ⟨(fun _ h=>(show tyOf Tryz.prog 3=some (false,1)by kernel_rfl).trans h),
   (kf trivial),
   (fun _ _ h=>by cases h),
   (fun h=>by cases h),
   (fun _ h=>by cases h),
   (fun _ h=>by cases h;exact⟨by kernel_rfl,ka (by kernel_rfl)⟩),
   (fun h=>(h rfl).elim),
   (fun _ h=>(show Tryz.prog.underlying 3=some (.int .i64)by kernel_rfl).trans h),
   (fun _ h=>by cases h),
   (fun _ _ h=>by cases h)⟩
def ti4:TI TB.den:={ty:=some (false,1),ze:=some [.d (.bool) (false:Bool)],un:=some (.bool)}
theorem ti4_ok:TI.Ok Tryz.prog TB 4 ti4:=
  ⟨(fun _ h=>(show tyOf Tryz.prog 4=some (false,1)by kernel_rfl).trans h),
   (kf trivial),
   (fun _ _ h=>by cases h),
   (fun h=>by cases h),
   (fun _ h=>by cases h),
   (fun _ h=>by cases h;exact⟨by kernel_rfl,ka (by kernel_rfl)⟩),
   (fun h=>(h rfl).elim),
   (fun _ h=>(show Tryz.prog.underlying 4=some (.bool)by kernel_rfl).trans h),
   (fun _ h=>by cases h),
   (fun _ _ h=>by cases h)⟩
def ti5:TI TB.den:={ty:=some (false,1),ze:=some [.d (.int .u8) (0:Int)],un:=some (.int .u8)}
theorem ti5_ok:TI.Ok Tryz.prog TB 5 ti5:=
  ⟨(fun _ h=>(show tyOf Tryz.prog 5=some (false,1)by kernel_rfl).trans h),
   (kf trivial),
   (fun _ _ h=>by cases h),
   (fun h=>by cases h),
   (fun _ h=>by cases h),
   (fun _ h=>by cases h;exact⟨by kernel_rfl,ka (by kernel_rfl)⟩),
   (fun h=>(h rfl).elim),
   (fun _ h=>(show Tryz.prog.underlying 5=some (.int .u8)by kernel_rfl).trans h),
   (fun _ h=>by cases h),
   (fun _ _ h=>by cases h)⟩
def ti9:TI TB.den:={ty:=some (false,1),ze:=some [.d (.str) (ByteArray.empty:ByteArray)],un:=some (.string)}
theorem ti9_ok:TI.Ok Tryz.prog TB 9 ti9:=
  ⟨(fun _ h=>(show tyOf Tryz.prog 9=some (false,1)by kernel_rfl).trans h),
   (kf trivial),
   (fun _ _ h=>by cases h),
   (fun h=>by cases h),
   (fun _ h=>by cases h),
   (fun _ h=>by cases h;exact⟨by kernel_rfl,ka (by kernel_rfl)⟩),
   (fun h=>(h rfl).elim),
   (fun _ h=>(show Tryz.prog.underlying 9=some (.string)by kernel_rfl).trans h),
   (fun _ h=>by cases h),
   (fun _ _ h=>by cases h)⟩
def ti23:TI TB.den:={ty:=some (true,3),fl:=[(0,false,1),(1,false,1),(2,false,1)],ze:=some [.d (.int .i64) (0:Int),.d (.int .i64) (0:Int),.d (.int .i64) (0:Int)],pl:=[(0,1),(1,1),(2,1)],eq:=some [.int .i64,.int .i64,.int .i64]}
theorem ti23_ok:TI.Ok Tryz.prog TB 23 ti23:=
  ⟨(fun _ h=>(show tyOf Tryz.prog 23=some (true,3)by kernel_rfl).trans h),
   (kf ⟨by kernel_rfl,by kernel_rfl,by kernel_rfl,trivial⟩),
   (fun _ _ h=>by cases h),
   (fun h=>by cases h),
   (fun _ h=>by cases h),
   (fun _ h=>by cases h;exact⟨by kernel_rfl,ka (by kernel_rfl)⟩),
   (fun _=>by kernel_rfl),
   (fun _ h=>by cases h),
   (fun _ h=>(show eqT Tryz.prog 23=some [.int .i64,.int .i64,.int .i64]by kernel_rfl).trans h),
   (fun _ _ h=>by cases h)⟩
def ti24:TI TB.den:={ty:=some (false,1),ze:=some [.d (.int .u64) (0:Int)],un:=some (.int .u64)}
theorem ti24_ok:TI.Ok Tryz.prog TB 24 ti24:=
  ⟨(fun _ h=>(show tyOf Tryz.prog 24=some (false,1)by kernel_rfl).trans h),
   (kf trivial),
   (fun _ _ h=>by cases h),
   (fun h=>by cases h),
   (fun _ h=>by cases h),
   (fun _ h=>by cases h;exact⟨by kernel_rfl,ka (by kernel_rfl)⟩),
   (fun h=>(h rfl).elim),
   (fun _ h=>(show Tryz.prog.underlying 24=some (.int .u64)by kernel_rfl).trans h),
   (fun _ h=>by cases h),
   (fun _ _ h=>by cases h)⟩
def ti26:TI TB.den:={ty:=some (true,9),fl:=[(0,false,1),(1,false,1),(2,true,3),(5,false,1),(6,false,1),(7,false,1),(8,false,1)],ze:=some [.d (.int .i64) (0:Int),.d (.int .i64) (0:Int),.d (.int .i64) (0:Int),.d (.int .i64) (0:Int),.d (.int .i64) (0:Int),.d (.int .u64) (0:Int),.d (.int .i64) (0:Int),.d (.int .i64) (0:Int),.d (.int .u64) (0:Int)],pl:=[(0,1),(1,1),(2,3),(5,1),(6,1),(7,1),(8,1)]}
theorem ti26_ok:TI.Ok Tryz.prog TB 26 ti26:=
  ⟨(fun _ h=>(show tyOf Tryz.prog 26=some (true,9)by kernel_rfl).trans h),
   (kf ⟨by kernel_rfl,by kernel_rfl,by kernel_rfl,by kernel_rfl,by kernel_rfl,by kernel_rfl,by kernel_rfl,trivial⟩),
   (fun _ _ h=>by cases h),
   (fun h=>by cases h),
   (fun _ h=>by cases h),
   (fun _ h=>by cases h;exact⟨by kernel_rfl,ka (by kernel_rfl)⟩),
   (fun _=>by kernel_rfl),
   (fun _ h=>by cases h),
   (fun _ h=>by cases h),
   (fun _ _ h=>by cases h)⟩
def ti27:TI TB.den:={ty:=some (false,1),el:=some (.st 3,64),ez:=true,ze:=some [.full (.st 3) []],un:=some (.slice 62)}
theorem ti27_ok:TI.Ok Tryz.prog TB 27 ti27:=
  ⟨(fun _ h=>(show tyOf Tryz.prog 27=some (false,1)by kernel_rfl).trans h),
   (kf trivial),
   (fun _ _ h=>by cases h;exact⟨by kernel_rfl,by kernel_rfl⟩),
   (fun _ _ _ h=>by cases h;exact⟨[.d (.int .u64 0),.d (.int .i64 0),.d (.int .u64 0),.d (.int .u64 0),.d (.int .u64 0),.full 10 []],by kernel_rfl,⟨⟨kc _,rfl⟩,⟨kc _,rfl⟩,⟨kc _,rfl⟩,⟨kc _,rfl⟩,⟨kc _,rfl⟩,⟨⟨rfl,rfl⟩,rfl⟩,trivial⟩⟩),
   (fun _ h=>by cases h),
   (fun _ h=>by cases h;exact⟨by kernel_rfl,ka (by kernel_rfl)⟩),
   (fun h=>(h rfl).elim),
   (fun _ h=>(show Tryz.prog.underlying 27=some (.slice 62)by kernel_rfl).trans h),
   (fun _ h=>by cases h),
   (fun _ _ h=>by cases h)⟩
def ti30:TI TB.den:={ty:=some (false,1),el:=some (.int .u64,8),ez:=true,ze:=some [.full (.int .u64) []],un:=some (.slice 24)}
theorem ti30_ok:TI.Ok Tryz.prog TB 30 ti30:=
  ⟨(fun _ h=>(show tyOf Tryz.prog 30=some (false,1)by kernel_rfl).trans h),
   (kf trivial),
   (fun _ _ h=>by cases h;exact⟨by kernel_rfl,by kernel_rfl⟩),
   (fun _ _ _ h=>by cases h;exact⟨[.d (.int .u64 0)],by kernel_rfl,⟨⟨kc _,rfl⟩,trivial⟩⟩),
   (fun _ h=>by cases h),
   (fun _ h=>by cases h;exact⟨by kernel_rfl,ka (by kernel_rfl)⟩),
   (fun h=>(h rfl).elim),
   (fun _ h=>(show Tryz.prog.underlying 30=some (.slice 24)by kernel_rfl).trans h),
   (fun _ h=>by cases h),
   (fun _ _ h=>by cases h)⟩
def ti32:TI TB.den:={ty:=some (true,3),fl:=[(0,false,1),(1,false,1),(2,false,1)],ze:=some [.d (.int .u64) (0:Int),.full (.int .u64) [],.d (.int .u64) (0:Int)],pl:=[(0,1),(1,1),(2,1)]}
theorem ti32_ok:TI.Ok Tryz.prog TB 32 ti32:=
  ⟨(fun _ h=>(show tyOf Tryz.prog 32=some (true,3)by kernel_rfl).trans h),
   (kf ⟨by kernel_rfl,by kernel_rfl,by kernel_rfl,trivial⟩),
   (fun _ _ h=>by cases h),
   (fun h=>by cases h),
   (fun _ h=>by cases h),
   (fun _ h=>by cases h;exact⟨by kernel_rfl,ka (by kernel_rfl)⟩),
   (fun _=>by kernel_rfl),
   (fun _ h=>by cases h),
   (fun _ h=>by cases h),
   (fun _ _ h=>by cases h)⟩
def ti34:TI TB.den:={ty:=some (true,9),fl:=[(0,false,1),(1,false,1),(2,false,1),(3,true,3),(6,true,3)],ze:=some [.d (.int .i64) (0:Int),.d (.int .i64) (0:Int),.d (.int .i64) (0:Int),.d (.int .u64) (0:Int),.full (.int .u64) [],.d (.int .u64) (0:Int),.d (.int .u64) (0:Int),.full (.int .u64) [],.d (.int .u64) (0:Int)],pl:=[(0,1),(1,1),(2,1),(3,3),(6,3)]}
theorem ti34_ok:TI.Ok Tryz.prog TB 34 ti34:=
  ⟨(fun _ h=>(show tyOf Tryz.prog 34=some (true,9)by kernel_rfl).trans h),
   (kf ⟨by kernel_rfl,by kernel_rfl,by kernel_rfl,by kernel_rfl,by kernel_rfl,trivial⟩),
   (fun _ _ h=>by cases h),
   (fun h=>by cases h),
   (fun _ h=>by cases h),
   (fun _ h=>by cases h;exact⟨by kernel_rfl,ka (by kernel_rfl)⟩),
   (fun _=>by kernel_rfl),
   (fun _ h=>by cases h),
   (fun _ h=>by cases h),
   (fun _ _ h=>by cases h)⟩
def ti36:TI TB.den:={ty:=some (true,14),fl:=[(0,false,1),(1,false,1),(2,false,1),(3,false,1),(4,false,1),(5,true,9)],ze:=some [.d (.int .u64) (0:Int),.d (.int .u64) (0:Int),.d (.int .u64) (0:Int),.d (.int .i64) (0:Int),.d (.int .i64) (0:Int),.d (.int .i64) (0:Int),.d (.int .i64) (0:Int),.d (.int .i64) (0:Int),.d (.int .u64) (0:Int),.full (.int .u64) [],.d (.int .u64) (0:Int),.d (.int .u64) (0:Int),.full (.int .u64) [],.d (.int .u64) (0:Int)],pl:=[(0,1),(1,1),(2,1),(3,1),(4,1),(5,9)]}
theorem ti36_ok:TI.Ok Tryz.prog TB 36 ti36:=
  ⟨(fun _ h=>(show tyOf Tryz.prog 36=some (true,14)by kernel_rfl).trans h),
   (kf ⟨by kernel_rfl,by kernel_rfl,by kernel_rfl,by kernel_rfl,by kernel_rfl,by kernel_rfl,trivial⟩),
   (fun _ _ h=>by cases h),
   (fun h=>by cases h),
   (fun _ h=>by cases h),
   (fun _ h=>by cases h;exact⟨by kernel_rfl,ka (by kernel_rfl)⟩),
   (fun _=>by kernel_rfl),
   (fun _ h=>by cases h),
   (fun _ h=>by cases h),
   (fun _ _ h=>by cases h)⟩
def ti40:TI TB.den:={ty:=some (false,1),ze:=some [.k KC.nilPtr.v],un:=some (.pointer 75)}
theorem ti40_ok:TI.Ok Tryz.prog TB 40 ti40:=
  ⟨(fun _ h=>(show tyOf Tryz.prog 40=some (false,1)by kernel_rfl).trans h),
   (kf trivial),
   (fun _ _ h=>by cases h),
   (fun h=>by cases h),
   (fun _ h=>by cases h),
   (fun _ h=>by cases h;exact⟨by kernel_rfl,ka (by kernel_rfl)⟩),
   (fun h=>(h rfl).elim),
   (fun _ h=>(show Tryz.prog.underlying 40=some (.pointer 75)by kernel_rfl).trans h),
   (fun _ h=>by cases h),
   (fun _ _ h=>by cases h)⟩
def ti46:TI TB.den:={ty:=some (true,9),fl:=[(0,false,1),(1,false,1),(2,false,1),(3,true,3),(6,true,3)],ze:=some [.d (.int .i64) (0:Int),.d (.int .i64) (0:Int),.d (.int .i64) (0:Int),.d (.int .u64) (0:Int),.full (.int .u64) [],.d (.int .u64) (0:Int),.d (.int .u64) (0:Int),.full (.int .u64) [],.d (.int .u64) (0:Int)],pl:=[(0,1),(1,1),(2,1),(3,3),(6,3)]}
theorem ti46_ok:TI.Ok Tryz.prog TB 46 ti46:=
  ⟨(fun _ h=>(show tyOf Tryz.prog 46=some (true,9)by kernel_rfl).trans h),
   (kf ⟨by kernel_rfl,by kernel_rfl,by kernel_rfl,by kernel_rfl,by kernel_rfl,trivial⟩),
   (fun _ _ h=>by cases h),
   (fun h=>by cases h),
   (fun _ h=>by cases h),
   (fun _ h=>by cases h;exact⟨by kernel_rfl,ka (by kernel_rfl)⟩),
   (fun _=>by kernel_rfl),
   (fun _ h=>by cases h),
   (fun _ h=>by cases h),
   (fun _ _ h=>by cases h)⟩
def ti48:TI TB.den:={ty:=some (true,14),fl:=[(0,false,1),(1,false,1),(2,false,1),(3,false,1),(4,false,1),(5,true,9)],ze:=some [.d (.int .u64) (0:Int),.d (.int .u64) (0:Int),.d (.int .u64) (0:Int),.d (.int .i64) (0:Int),.d (.int .i64) (0:Int),.d (.int .i64) (0:Int),.d (.int .i64) (0:Int),.d (.int .i64) (0:Int),.d (.int .u64) (0:Int),.full (.int .u64) [],.d (.int .u64) (0:Int),.d (.int .u64) (0:Int),.full (.int .u64) [],.d (.int .u64) (0:Int)],pl:=[(0,1),(1,1),(2,1),(3,1),(4,1),(5,9)]}
theorem ti48_ok:TI.Ok Tryz.prog TB 48 ti48:=
  ⟨(fun _ h=>(show tyOf Tryz.prog 48=some (true,14)by kernel_rfl).trans h),
   (kf ⟨by kernel_rfl,by kernel_rfl,by kernel_rfl,by kernel_rfl,by kernel_rfl,by kernel_rfl,trivial⟩),
   (fun _ _ h=>by cases h),
   (fun h=>by cases h),
   (fun _ h=>by cases h),
   (fun _ h=>by cases h;exact⟨by kernel_rfl,ka (by kernel_rfl)⟩),
   (fun _=>by kernel_rfl),
   (fun _ h=>by cases h),
   (fun _ h=>by cases h),
   (fun _ _ h=>by cases h)⟩
def ti60:TI TB.den:={ty:=some (false,1),el:=some (.st 2,128),ez:=true,ze:=some [.full (.st 2) []],un:=some (.slice 67)}
theorem ti60_ok:TI.Ok Tryz.prog TB 60 ti60:=
  ⟨(fun _ h=>(show tyOf Tryz.prog 60=some (false,1)by kernel_rfl).trans h),
   (kf trivial),
   (fun _ _ h=>by cases h;exact⟨by kernel_rfl,by kernel_rfl⟩),
   (fun _ _ _ h=>by cases h;exact⟨[.d (.int .u64 0),.full 1 [],.full 4 [],.d (.int .u64 0),.d (.int .u64 0),.d (.int .u64 0),.d (.int .u64 0),.d (.int .u64 0),.d (.int .i64 0),.full 1 []],by kernel_rfl,⟨⟨kc _,rfl⟩,⟨⟨rfl,rfl⟩,rfl⟩,⟨⟨rfl,rfl⟩,rfl⟩,⟨kc _,rfl⟩,⟨kc _,rfl⟩,⟨kc _,rfl⟩,⟨kc _,rfl⟩,⟨kc _,rfl⟩,⟨kc _,rfl⟩,⟨⟨rfl,rfl⟩,rfl⟩,trivial⟩⟩),
   (fun _ h=>by cases h),
   (fun _ h=>by cases h;exact⟨by kernel_rfl,ka (by kernel_rfl)⟩),
   (fun h=>(h rfl).elim),
   (fun _ h=>(show Tryz.prog.underlying 60=some (.slice 67)by kernel_rfl).trans h),
   (fun _ h=>by cases h),
   (fun _ _ h=>by cases h)⟩
def ti62:TI TB.den:={ty:=some (true,6),fl:=[(0,false,1),(1,false,1),(2,false,1),(3,false,1),(4,false,1),(5,false,1)],ze:=some [.d (.int .u64) (0:Int),.d (.int .i64) (0:Int),.d (.int .u64) (0:Int),.d (.int .u64) (0:Int),.d (.int .u64) (0:Int),.full (.st 2) []],pl:=[(0,1),(1,1),(2,1),(3,1),(4,1),(5,1)]}
theorem ti62_ok:TI.Ok Tryz.prog TB 62 ti62:=
  ⟨(fun _ h=>(show tyOf Tryz.prog 62=some (true,6)by kernel_rfl).trans h),
   (kf ⟨by kernel_rfl,by kernel_rfl,by kernel_rfl,by kernel_rfl,by kernel_rfl,by kernel_rfl,trivial⟩),
   (fun _ _ h=>by cases h),
   (fun h=>by cases h),
   (fun _ h=>by cases h),
   (fun _ h=>by cases h;exact⟨by kernel_rfl,ka (by kernel_rfl)⟩),
   (fun _=>by kernel_rfl),
   (fun _ h=>by cases h),
   (fun _ h=>by cases h),
   (fun _ _ h=>by cases h)⟩
def ti64:TI TB.den:={ty:=some (false,1),el:=some (.st 1,48),ez:=true,ze:=some [.full (.st 1) []],un:=some (.slice 108)}
theorem ti64_ok:TI.Ok Tryz.prog TB 64 ti64:=
  ⟨(fun _ h=>(show tyOf Tryz.prog 64=some (false,1)by kernel_rfl).trans h),
   (kf trivial),
   (fun _ _ h=>by cases h;exact⟨by kernel_rfl,by kernel_rfl⟩),
   (fun _ _ _ h=>by cases h;exact⟨[.d (.int .u64 0),.d (.int .u64 0),.d (.int .u64 0),.full 1 []],by kernel_rfl,⟨⟨kc _,rfl⟩,⟨kc _,rfl⟩,⟨kc _,rfl⟩,⟨⟨rfl,rfl⟩,rfl⟩,trivial⟩⟩),
   (fun _ h=>by cases h),
   (fun _ h=>by cases h;exact⟨by kernel_rfl,ka (by kernel_rfl)⟩),
   (fun h=>(h rfl).elim),
   (fun _ h=>(show Tryz.prog.underlying 64=some (.slice 108)by kernel_rfl).trans h),
   (fun _ h=>by cases h),
   (fun _ _ h=>by cases h)⟩
def ti65:TI TB.den:={ty:=some (false,1),el:=some (.int .u8,1),ez:=true,ze:=some [.full (.int .u8) []],un:=some (.slice 5)}
theorem ti65_ok:TI.Ok Tryz.prog TB 65 ti65:=
  ⟨(fun _ h=>(show tyOf Tryz.prog 65=some (false,1)by kernel_rfl).trans h),
   (kf trivial),
   (fun _ _ h=>by cases h;exact⟨by kernel_rfl,by kernel_rfl⟩),
   (fun _ _ _ h=>by cases h;exact⟨[.d (.int .u8 0)],by kernel_rfl,⟨⟨kc _,rfl⟩,trivial⟩⟩),
   (fun _ h=>by cases h),
   (fun _ h=>by cases h;exact⟨by kernel_rfl,ka (by kernel_rfl)⟩),
   (fun h=>(h rfl).elim),
   (fun _ h=>(show Tryz.prog.underlying 65=some (.slice 5)by kernel_rfl).trans h),
   (fun _ h=>by cases h),
   (fun _ _ h=>by cases h)⟩
def ti67:TI TB.den:={ty:=some (true,10),fl:=[(0,false,1),(1,false,1),(2,false,1),(3,false,1),(4,false,1),(5,false,1),(6,false,1),(7,false,1),(8,false,1),(9,false,1)],ze:=some [.d (.int .u64) (0:Int),.full (.int .u64) [],.full (.st 1) [],.d (.int .u64) (0:Int),.d (.int .u64) (0:Int),.d (.int .u64) (0:Int),.d (.int .u64) (0:Int),.d (.int .u64) (0:Int),.d (.int .i64) (0:Int),.full (.int .u8) []],pl:=[(0,1),(1,1),(2,1),(3,1),(4,1),(5,1),(6,1),(7,1),(8,1),(9,1)]}
theorem ti67_ok:TI.Ok Tryz.prog TB 67 ti67:=
  ⟨(fun _ h=>(show tyOf Tryz.prog 67=some (true,10)by kernel_rfl).trans h),
   (kf ⟨by kernel_rfl,by kernel_rfl,by kernel_rfl,by kernel_rfl,by kernel_rfl,by kernel_rfl,by kernel_rfl,by kernel_rfl,by kernel_rfl,by kernel_rfl,trivial⟩),
   (fun _ _ h=>by cases h),
   (fun h=>by cases h),
   (fun _ h=>by cases h),
   (fun _ h=>by cases h;exact⟨by kernel_rfl,ka (by kernel_rfl)⟩),
   (fun _=>by kernel_rfl),
   (fun _ h=>by cases h),
   (fun _ h=>by cases h),
   (fun _ _ h=>by cases h)⟩
def ti70:TI TB.den:={ty:=some (false,1),el:=some (.st 4,40),ez:=true,ze:=some [.full (.st 4) []],un:=some (.slice 32)}
theorem ti70_ok:TI.Ok Tryz.prog TB 70 ti70:=
  ⟨(fun _ h=>(show tyOf Tryz.prog 70=some (false,1)by kernel_rfl).trans h),
   (kf trivial),
   (fun _ _ h=>by cases h;exact⟨by kernel_rfl,by kernel_rfl⟩),
   (fun _ _ _ h=>by cases h;exact⟨[.d (.int .u64 0),.full 1 [],.d (.int .u64 0)],by kernel_rfl,⟨⟨kc _,rfl⟩,⟨⟨rfl,rfl⟩,rfl⟩,⟨kc _,rfl⟩,trivial⟩⟩),
   (fun _ h=>by cases h),
   (fun _ h=>by cases h;exact⟨by kernel_rfl,ka (by kernel_rfl)⟩),
   (fun h=>(h rfl).elim),
   (fun _ h=>(show Tryz.prog.underlying 70=some (.slice 32)by kernel_rfl).trans h),
   (fun _ h=>by cases h),
   (fun _ _ h=>by cases h)⟩
def ti71:TI TB.den:={ty:=some (false,1),ze:=some [.k KC.nilMap.v],mp:=some (.str,.int .i64),un:=some (.map 9 3)}
theorem ti71_ok:TI.Ok Tryz.prog TB 71 ti71:=
  ⟨(fun _ h=>(show tyOf Tryz.prog 71=some (false,1)by kernel_rfl).trans h),
   (kf trivial),
   (fun _ _ h=>by cases h),
   (fun h=>by cases h),
   (fun _ h=>by cases h),
   (fun _ h=>by cases h;exact⟨by kernel_rfl,ka (by kernel_rfl)⟩),
   (fun h=>(h rfl).elim),
   (fun _ h=>(show Tryz.prog.underlying 71=some (.map 9 3)by kernel_rfl).trans h),
   (fun _ h=>by cases h),
   (fun _ _ h=>by cases h;exact⟨3,.string,⟨9,by kernel_rfl,by kernel_rfl⟩,fun _=>rfl,zIs_mk (z0:= .d (.int .i64 0)) (by kernel_rfl) (kc (V.d (.int .i64 0)))⟩)⟩
def ti72:TI TB.den:={ty:=some (false,1),ze:=some [.k KC.nilMap.v],mp:=some (.str,.sl (.int .u64)),un:=some (.map 9 30)}
theorem ti72_ok:TI.Ok Tryz.prog TB 72 ti72:=
  ⟨(fun _ h=>(show tyOf Tryz.prog 72=some (false,1)by kernel_rfl).trans h),
   (kf trivial),
   (fun _ _ h=>by cases h),
   (fun h=>by cases h),
   (fun _ h=>by cases h),
   (fun _ h=>by cases h;exact⟨by kernel_rfl,ka (by kernel_rfl)⟩),
   (fun h=>(h rfl).elim),
   (fun _ h=>(show Tryz.prog.underlying 72=some (.map 9 30)by kernel_rfl).trans h),
   (fun _ h=>by cases h),
   (fun _ _ h=>by cases h;exact⟨30,.string,⟨9,by kernel_rfl,by kernel_rfl⟩,fun _=>rfl,zIs_mk (z0:= .k (.slice none 0 0)) (by kernel_rfl) (rfl)⟩)⟩
def ti73:TI TB.den:={ty:=some (false,1),ze:=some [.k KC.nilMap.v],mp:=some (.str,.bool),un:=some (.map 9 4)}
theorem ti73_ok:TI.Ok Tryz.prog TB 73 ti73:=
  ⟨(fun _ h=>(show tyOf Tryz.prog 73=some (false,1)by kernel_rfl).trans h),
   (kf trivial),
   (fun _ _ h=>by cases h),
   (fun h=>by cases h),
   (fun _ h=>by cases h),
   (fun _ h=>by cases h;exact⟨by kernel_rfl,ka (by kernel_rfl)⟩),
   (fun h=>(h rfl).elim),
   (fun _ h=>(show Tryz.prog.underlying 73=some (.map 9 4)by kernel_rfl).trans h),
   (fun _ h=>by cases h),
   (fun _ _ h=>by cases h;exact⟨4,.string,⟨9,by kernel_rfl,by kernel_rfl⟩,fun _=>rfl,zIs_mk (z0:= .d (.bool false)) (by kernel_rfl) (kc (V.d (.bool false)))⟩)⟩
def ti75:TI TB.den:={ty:=some (true,7),fl:=[(0,false,1),(1,false,1),(2,false,1),(3,false,1),(4,false,1),(5,false,1),(6,false,1)],ze:=some [.d (.bool) (false:Bool),.d (.int .u64) (0:Int),.d (.int .i64) (0:Int),.full (.st 4) [],.k KC.nilMap.v,.k KC.nilMap.v,.k KC.nilMap.v],pl:=[(0,1),(1,1),(2,1),(3,1),(4,1),(5,1),(6,1)]}
theorem ti75_ok:TI.Ok Tryz.prog TB 75 ti75:=
  ⟨(fun _ h=>(show tyOf Tryz.prog 75=some (true,7)by kernel_rfl).trans h),
   (kf ⟨by kernel_rfl,by kernel_rfl,by kernel_rfl,by kernel_rfl,by kernel_rfl,by kernel_rfl,by kernel_rfl,trivial⟩),
   (fun _ _ h=>by cases h),
   (fun h=>by cases h),
   (fun _ h=>by cases h),
   (fun _ h=>by cases h;exact⟨by kernel_rfl,ka (by kernel_rfl)⟩),
   (fun _=>by kernel_rfl),
   (fun _ h=>by cases h),
   (fun _ h=>by cases h),
   (fun _ _ h=>by cases h)⟩
def ti77:TI TB.den:={ty:=some (false,1),el:=some (.st 11,88),ez:=true,ze:=some [.full (.st 11) []],un:=some (.slice 184)}
theorem ti77_ok:TI.Ok Tryz.prog TB 77 ti77:=
  ⟨(fun _ h=>(show tyOf Tryz.prog 77=some (false,1)by kernel_rfl).trans h),
   (kf trivial),
   (fun _ _ h=>by cases h;exact⟨by kernel_rfl,by kernel_rfl⟩),
   (fun _ _ _ h=>by cases h;exact⟨[.d (.int .u64 0),.d (.int .u64 0),.d (.int .u64 0),.d (.int .u64 0),.d (.int .u64 0),.d (.int .i64 0),.d (.int .i64 0),.full 1 [],.d (.bool false)],by kernel_rfl,⟨⟨kc _,rfl⟩,⟨kc _,rfl⟩,⟨kc _,rfl⟩,⟨kc _,rfl⟩,⟨kc _,rfl⟩,⟨kc _,rfl⟩,⟨kc _,rfl⟩,⟨⟨rfl,rfl⟩,rfl⟩,⟨kc _,rfl⟩,trivial⟩⟩),
   (fun _ h=>by cases h),
   (fun _ h=>by cases h;exact⟨by kernel_rfl,ka (by kernel_rfl)⟩),
   (fun h=>(h rfl).elim),
   (fun _ h=>(show Tryz.prog.underlying 77=some (.slice 184)by kernel_rfl).trans h),
   (fun _ h=>by cases h),
   (fun _ _ h=>by cases h)⟩
def ti78:TI TB.den:={ty:=some (false,1),el:=some (.st 13,32),ez:=true,ze:=some [.full (.st 13) []],un:=some (.slice 86)}
theorem ti78_ok:TI.Ok Tryz.prog TB 78 ti78:=
  ⟨(fun _ h=>(show tyOf Tryz.prog 78=some (false,1)by kernel_rfl).trans h),
   (kf trivial),
   (fun _ _ h=>by cases h;exact⟨by kernel_rfl,by kernel_rfl⟩),
   (fun _ _ _ h=>by cases h;exact⟨[.d (.int .u64 0),.d (.int .u64 0),.d (.int .u64 0),.d (.int .u64 0)],by kernel_rfl,⟨⟨kc _,rfl⟩,⟨kc _,rfl⟩,⟨kc _,rfl⟩,⟨kc _,rfl⟩,trivial⟩⟩),
   (fun _ h=>by cases h),
   (fun _ h=>by cases h;exact⟨by kernel_rfl,ka (by kernel_rfl)⟩),
   (fun h=>(h rfl).elim),
   (fun _ h=>(show Tryz.prog.underlying 78=some (.slice 86)by kernel_rfl).trans h),
   (fun _ h=>by cases h),
   (fun _ _ h=>by cases h)⟩
def ti80:TI TB.den:={ty:=some (true,3),fl:=[(0,false,1),(1,false,1),(2,false,1)],ze:=some [.full (.st 11) [],.full (.st 13) [],.d (.int .u64) (0:Int)],pl:=[(0,1),(1,1),(2,1)]}
theorem ti80_ok:TI.Ok Tryz.prog TB 80 ti80:=
  ⟨(fun _ h=>(show tyOf Tryz.prog 80=some (true,3)by kernel_rfl).trans h),
   (kf ⟨by kernel_rfl,by kernel_rfl,by kernel_rfl,trivial⟩),
   (fun _ _ h=>by cases h),
   (fun h=>by cases h),
   (fun _ h=>by cases h),
   (fun _ h=>by cases h;exact⟨by kernel_rfl,ka (by kernel_rfl)⟩),
   (fun _=>by kernel_rfl),
   (fun _ h=>by cases h),
   (fun _ h=>by cases h),
   (fun _ _ h=>by cases h)⟩
def ti86:TI TB.den:={ty:=some (true,4),fl:=[(0,false,1),(1,false,1),(2,false,1),(3,false,1)],ze:=some [.d (.int .u64) (0:Int),.d (.int .u64) (0:Int),.d (.int .u64) (0:Int),.d (.int .u64) (0:Int)],pl:=[(0,1),(1,1),(2,1),(3,1)],eq:=some [.int .u64,.int .u64,.int .u64,.int .u64]}
theorem ti86_ok:TI.Ok Tryz.prog TB 86 ti86:=
  ⟨(fun _ h=>(show tyOf Tryz.prog 86=some (true,4)by kernel_rfl).trans h),
   (kf ⟨by kernel_rfl,by kernel_rfl,by kernel_rfl,by kernel_rfl,trivial⟩),
   (fun _ _ h=>by cases h),
   (fun h=>by cases h),
   (fun _ h=>by cases h),
   (fun _ h=>by cases h;exact⟨by kernel_rfl,ka (by kernel_rfl)⟩),
   (fun _=>by kernel_rfl),
   (fun _ h=>by cases h),
   (fun _ h=>(show eqT Tryz.prog 86=some [.int .u64,.int .u64,.int .u64,.int .u64]by kernel_rfl).trans h),
   (fun _ _ h=>by cases h)⟩
def ti106:TI TB.den:={ty:=some (true,2),ar:=some (2,false,1),ze:=some [.d (.int .u64) (0:Int),.d (.int .u64) (0:Int)],pl:=[(0,1),(1,1)],un:=some (.array 2 24),eq:=some [.int .u64,.int .u64]}
theorem kmo:TI.Ok Tryz.prog TB 106 ti106:=
  ⟨(fun _ h=>(show tyOf Tryz.prog 106=some (true,2)by kernel_rfl).trans h),
   (kf trivial),
   (fun _ _ h=>by cases h),
   (fun h=>by cases h),
   (fun _ h=>by cases h;exact⟨by kernel_rfl,by kernel_rfl⟩),
   (fun _ h=>by cases h;exact⟨by kernel_rfl,ka (by kernel_rfl)⟩),
   (fun _=>by kernel_rfl),
   (fun _ h=>(show Tryz.prog.underlying 106=some (.array 2 24)by kernel_rfl).trans h),
   (fun _ h=>(show eqT Tryz.prog 106=some [.int .u64,.int .u64]by kernel_rfl).trans h),
   (fun _ _ h=>by cases h)⟩
def ti108:TI TB.den:={ty:=some (true,4),fl:=[(0,false,1),(1,true,2),(3,false,1)],ze:=some [.d (.int .u64) (0:Int),.d (.int .u64) (0:Int),.d (.int .u64) (0:Int),.full (.int .u64) []],pl:=[(0,1),(1,2),(3,1)]}
theorem kkw:TI.Ok Tryz.prog TB 108 ti108:=
  ⟨(fun _ h=>(show tyOf Tryz.prog 108=some (true,4)by kernel_rfl).trans h),
   (kf ⟨by kernel_rfl,by kernel_rfl,by kernel_rfl,trivial⟩),
   (fun _ _ h=>by cases h),
   (fun h=>by cases h),
   (fun _ h=>by cases h),
   (fun _ h=>by cases h;exact⟨by kernel_rfl,ka (by kernel_rfl)⟩),
   (fun _=>by kernel_rfl),
   (fun _ h=>by cases h),
   (fun _ h=>by cases h),
   (fun _ _ h=>by cases h)⟩
def ti113:TI TB.den:={ty:=some (false,1),ze:=some [.k KC.nilMap.v],mp:=some (.int .i64,.st 11),un:=some (.map 3 184)}
theorem km6:TI.Ok Tryz.prog TB 113 ti113:=
  ⟨(fun _ h=>(show tyOf Tryz.prog 113=some (false,1)by kernel_rfl).trans h),
   (kf trivial),
   (fun _ _ h=>by cases h),
   (fun h=>by cases h),
   (fun _ h=>by cases h),
   (fun _ h=>by cases h;exact⟨by kernel_rfl,ka (by kernel_rfl)⟩),
   (fun h=>(h rfl).elim),
   (fun _ h=>(show Tryz.prog.underlying 113=some (.map 3 184)by kernel_rfl).trans h),
   (fun _ h=>by cases h),
   (fun _ _ h=>by cases h;exact⟨184,.int .i64,⟨3,by kernel_rfl,by kernel_rfl⟩,fun _=>rfl,zIs_mk (z0:= .agg [.d (.int .u64 0),.d (.int .u64 0),.d (.int .u64 0),.d (.int .u64 0),.d (.int .u64 0),.d (.int .i64 0),.d (.int .i64 0),.k (.slice none 0 0),.d (.bool false)]) (by kernel_rfl) (⟨⟨kc (V.d (.int .u64 0)),rfl⟩,⟨kc (V.d (.int .u64 0)),rfl⟩,⟨kc (V.d (.int .u64 0)),rfl⟩,⟨kc (V.d (.int .u64 0)),rfl⟩,⟨kc (V.d (.int .u64 0)),rfl⟩,⟨kc (V.d (.int .i64 0)),rfl⟩,⟨kc (V.d (.int .i64 0)),rfl⟩,⟨rfl,rfl⟩,⟨kc (V.d (.bool false)),rfl⟩,trivial⟩)⟩)⟩
def ti114:TI TB.den:={ty:=some (false,1),el:=some (.st 12,16),ez:=true,ze:=some [.full (.st 12) []],un:=some (.slice 119)}
theorem klu:TI.Ok Tryz.prog TB 114 ti114:=
  ⟨(fun _ h=>(show tyOf Tryz.prog 114=some (false,1)by kernel_rfl).trans h),
   (kf trivial),
   (fun _ _ h=>by cases h;exact⟨by kernel_rfl,by kernel_rfl⟩),
   (fun _ _ _ h=>by cases h;exact⟨[.d (.int .u64 0),.d (.int .i64 0)],by kernel_rfl,⟨⟨kc _,rfl⟩,⟨kc _,rfl⟩,trivial⟩⟩),
   (fun _ h=>by cases h),
   (fun _ h=>by cases h;exact⟨by kernel_rfl,ka (by kernel_rfl)⟩),
   (fun h=>(h rfl).elim),
   (fun _ h=>(show Tryz.prog.underlying 114=some (.slice 119)by kernel_rfl).trans h),
   (fun _ h=>by cases h),
   (fun _ _ h=>by cases h)⟩
def ti116:TI TB.den:={ty:=some (true,20),fl:=[(0,false,1),(1,false,1),(2,false,1),(3,false,1),(4,false,1),(5,false,1),(6,true,14)],ze:=some [.k KC.nilPtr.v,.d (.int .i64) (0:Int),.full (.st 12) [],.full (.int .u64) [],.full (.st 13) [],.k KC.nilMap.v,.d (.int .u64) (0:Int),.d (.int .u64) (0:Int),.d (.int .u64) (0:Int),.d (.int .i64) (0:Int),.d (.int .i64) (0:Int),.d (.int .i64) (0:Int),.d (.int .i64) (0:Int),.d (.int .i64) (0:Int),.d (.int .u64) (0:Int),.full (.int .u64) [],.d (.int .u64) (0:Int),.d (.int .u64) (0:Int),.full (.int .u64) [],.d (.int .u64) (0:Int)],pl:=[(0,1),(1,1),(2,1),(3,1),(4,1),(5,1),(6,14)]}
theorem km3:TI.Ok Tryz.prog TB 116 ti116:=
  ⟨(fun _ h=>(show tyOf Tryz.prog 116=some (true,20)by kernel_rfl).trans h),
   (kf ⟨by kernel_rfl,by kernel_rfl,by kernel_rfl,by kernel_rfl,by kernel_rfl,by kernel_rfl,by kernel_rfl,trivial⟩),
   (fun _ _ h=>by cases h),
   (fun h=>by cases h),
   (fun _ h=>by cases h),
   (fun _ h=>by cases h;exact⟨by kernel_rfl,ka (by kernel_rfl)⟩),
   (fun _=>by kernel_rfl),
   (fun _ h=>by cases h),
   (fun _ h=>by cases h),
   (fun _ _ h=>by cases h)⟩
def ti119:TI TB.den:={ty:=some (true,2),fl:=[(0,false,1),(1,false,1)],ze:=some [.d (.int .u64) (0:Int),.d (.int .i64) (0:Int)],pl:=[(0,1),(1,1)],eq:=some [.int .u64,.int .i64]}
theorem km9:TI.Ok Tryz.prog TB 119 ti119:=
  ⟨(fun _ h=>(show tyOf Tryz.prog 119=some (true,2)by kernel_rfl).trans h),
   (kf ⟨by kernel_rfl,by kernel_rfl,trivial⟩),
   (fun _ _ h=>by cases h),
   (fun h=>by cases h),
   (fun _ h=>by cases h),
   (fun _ h=>by cases h;exact⟨by kernel_rfl,ka (by kernel_rfl)⟩),
   (fun _=>by kernel_rfl),
   (fun _ h=>by cases h),
   (fun _ h=>(show eqT Tryz.prog 119=some [.int .u64,.int .i64]by kernel_rfl).trans h),
   (fun _ _ h=>by cases h)⟩
def ti124:TI TB.den:={ty:=some (false,1),el:=some (.st 9,24),ez:=true,ze:=some [.full (.st 9) []],un:=some (.slice 172)}
theorem kmn:TI.Ok Tryz.prog TB 124 ti124:=
  ⟨(fun _ h=>(show tyOf Tryz.prog 124=some (false,1)by kernel_rfl).trans h),
   (kf trivial),
   (fun _ _ h=>by cases h;exact⟨by kernel_rfl,by kernel_rfl⟩),
   (fun _ _ _ h=>by cases h;exact⟨[.d (.int .u64 0),.d (.int .u64 0),.d (.int .u64 0)],by kernel_rfl,⟨⟨kc _,rfl⟩,⟨kc _,rfl⟩,⟨kc _,rfl⟩,trivial⟩⟩),
   (fun _ h=>by cases h),
   (fun _ h=>by cases h;exact⟨by kernel_rfl,ka (by kernel_rfl)⟩),
   (fun h=>(h rfl).elim),
   (fun _ h=>(show Tryz.prog.underlying 124=some (.slice 172)by kernel_rfl).trans h),
   (fun _ h=>by cases h),
   (fun _ _ h=>by cases h)⟩
def ti126:TI TB.den:={ty:=some (true,1),fl:=[(0,false,1)],ze:=some [.full (.st 9) []],pl:=[(0,1)]}
theorem kmd:TI.Ok Tryz.prog TB 126 ti126:=
  ⟨(fun _ h=>(show tyOf Tryz.prog 126=some (true,1)by kernel_rfl).trans h),
   (kf ⟨by kernel_rfl,trivial⟩),
   (fun _ _ h=>by cases h),
   (fun h=>by cases h),
   (fun _ h=>by cases h),
   (fun _ h=>by cases h;exact⟨by kernel_rfl,ka (by kernel_rfl)⟩),
   (fun _=>by kernel_rfl),
   (fun _ h=>by cases h),
   (fun _ h=>by cases h),
   (fun _ _ h=>by cases h)⟩
def ti158:TI TB.den:={ty:=some (true,3),fl:=[(0,false,1),(1,false,1),(2,false,1)],ze:=some [.d (.int .i64) (0:Int),.d (.int .i64) (0:Int),.full (.int .u64) []],pl:=[(0,1),(1,1),(2,1)]}
theorem klt:TI.Ok Tryz.prog TB 158 ti158:=
  ⟨(fun _ h=>(show tyOf Tryz.prog 158=some (true,3)by kernel_rfl).trans h),
   (kf ⟨by kernel_rfl,by kernel_rfl,by kernel_rfl,trivial⟩),
   (fun _ _ h=>by cases h),
   (fun h=>by cases h),
   (fun _ h=>by cases h),
   (fun _ h=>by cases h;exact⟨by kernel_rfl,ka (by kernel_rfl)⟩),
   (fun _=>by kernel_rfl),
   (fun _ h=>by cases h),
   (fun _ h=>by cases h),
   (fun _ _ h=>by cases h)⟩
def ti160:TI TB.den:={ty:=some (false,1),ze:=some [.k KC.nilPtr.v],un:=some (.pointer 212)}
theorem kl3:TI.Ok Tryz.prog TB 160 ti160:=
  ⟨(fun _ h=>(show tyOf Tryz.prog 160=some (false,1)by kernel_rfl).trans h),
   (kf trivial),
   (fun _ _ h=>by cases h),
   (fun h=>by cases h),
   (fun _ h=>by cases h),
   (fun _ h=>by cases h;exact⟨by kernel_rfl,ka (by kernel_rfl)⟩),
   (fun h=>(h rfl).elim),
   (fun _ h=>(show Tryz.prog.underlying 160=some (.pointer 212)by kernel_rfl).trans h),
   (fun _ h=>by cases h),
   (fun _ _ h=>by cases h)⟩
def ti163:TI TB.den:={ty:=some (false,1),el:=some (.st 10,104),ez:=true,ze:=some [.full (.st 10) []],un:=some (.slice 167)}
theorem kl8:TI.Ok Tryz.prog TB 163 ti163:=
  ⟨(fun _ h=>(show tyOf Tryz.prog 163=some (false,1)by kernel_rfl).trans h),
   (kf trivial),
   (fun _ _ h=>by cases h;exact⟨by kernel_rfl,by kernel_rfl⟩),
   (fun _ _ _ h=>by cases h;exact⟨[.d (.int .i64 0),.d (.int .i64 0),.full 1 [],.d (.int .i64 0),.full 1 [],.full 3 [],.d (.int .u64 0)],by kernel_rfl,⟨⟨kc _,rfl⟩,⟨kc _,rfl⟩,⟨⟨rfl,rfl⟩,rfl⟩,⟨kc _,rfl⟩,⟨⟨rfl,rfl⟩,rfl⟩,⟨⟨rfl,rfl⟩,rfl⟩,⟨kc _,rfl⟩,trivial⟩⟩),
   (fun _ h=>by cases h),
   (fun _ h=>by cases h;exact⟨by kernel_rfl,ka (by kernel_rfl)⟩),
   (fun h=>(h rfl).elim),
   (fun _ h=>(show Tryz.prog.underlying 163=some (.slice 167)by kernel_rfl).trans h),
   (fun _ h=>by cases h),
   (fun _ _ h=>by cases h)⟩
def ti165:TI TB.den:={ty:=some (true,18),fl:=[(0,true,9),(9,true,3),(12,false,1),(13,false,1),(14,true,1),(15,false,1),(16,false,1),(17,false,1)],ze:=some [.d (.int .i64) (0:Int),.d (.int .i64) (0:Int),.d (.int .i64) (0:Int),.d (.int .i64) (0:Int),.d (.int .i64) (0:Int),.d (.int .u64) (0:Int),.d (.int .i64) (0:Int),.d (.int .i64) (0:Int),.d (.int .u64) (0:Int),.d (.int .i64) (0:Int),.d (.int .i64) (0:Int),.full (.int .u64) [],.full (.int .u64) [],.k KC.nilPtr.v,.full (.st 9) [],.d (.int .u64) (0:Int),.full (.int .u64) [],.full (.st 10) []],pl:=[(0,9),(9,3),(12,1),(13,1),(14,1),(15,1),(16,1),(17,1)]}
theorem kmk:TI.Ok Tryz.prog TB 165 ti165:=
  ⟨(fun _ h=>(show tyOf Tryz.prog 165=some (true,18)by kernel_rfl).trans h),
   (kf ⟨by kernel_rfl,by kernel_rfl,by kernel_rfl,by kernel_rfl,by kernel_rfl,by kernel_rfl,by kernel_rfl,by kernel_rfl,trivial⟩),
   (fun _ _ h=>by cases h),
   (fun h=>by cases h),
   (fun _ h=>by cases h),
   (fun _ h=>by cases h;exact⟨by kernel_rfl,ka (by kernel_rfl)⟩),
   (fun _=>by kernel_rfl),
   (fun _ h=>by cases h),
   (fun _ h=>by cases h),
   (fun _ _ h=>by cases h)⟩
def ti167:TI TB.den:={ty:=some (true,7),fl:=[(0,true,3),(3,false,1),(4,false,1),(5,true,1),(6,false,1)],ze:=some [.d (.int .i64) (0:Int),.d (.int .i64) (0:Int),.full (.int .u64) [],.d (.int .i64) (0:Int),.full (.int .u64) [],.full (.st 9) [],.d (.int .u64) (0:Int)],pl:=[(0,3),(3,1),(4,1),(5,1),(6,1)]}
theorem kly:TI.Ok Tryz.prog TB 167 ti167:=
  ⟨(fun _ h=>(show tyOf Tryz.prog 167=some (true,7)by kernel_rfl).trans h),
   (kf ⟨by kernel_rfl,by kernel_rfl,by kernel_rfl,by kernel_rfl,by kernel_rfl,trivial⟩),
   (fun _ _ h=>by cases h),
   (fun h=>by cases h),
   (fun _ h=>by cases h),
   (fun _ h=>by cases h;exact⟨by kernel_rfl,ka (by kernel_rfl)⟩),
   (fun _=>by kernel_rfl),
   (fun _ h=>by cases h),
   (fun _ h=>by cases h),
   (fun _ _ h=>by cases h)⟩
def ti172:TI TB.den:={ty:=some (true,3),fl:=[(0,false,1),(1,false,1),(2,false,1)],ze:=some [.d (.int .u64) (0:Int),.d (.int .u64) (0:Int),.d (.int .u64) (0:Int)],pl:=[(0,1),(1,1),(2,1)],eq:=some [.int .u64,.int .u64,.int .u64]}
theorem kkz:TI.Ok Tryz.prog TB 172 ti172:=
  ⟨(fun _ h=>(show tyOf Tryz.prog 172=some (true,3)by kernel_rfl).trans h),
   (kf ⟨by kernel_rfl,by kernel_rfl,by kernel_rfl,trivial⟩),
   (fun _ _ h=>by cases h),
   (fun h=>by cases h),
   (fun _ h=>by cases h),
   (fun _ h=>by cases h;exact⟨by kernel_rfl,ka (by kernel_rfl)⟩),
   (fun _=>by kernel_rfl),
   (fun _ h=>by cases h),
   (fun _ h=>(show eqT Tryz.prog 172=some [.int .u64,.int .u64,.int .u64]by kernel_rfl).trans h),
   (fun _ _ h=>by cases h)⟩
def ti184:TI TB.den:={ty:=some (true,9),fl:=[(0,true,4),(4,false,1),(5,false,1),(6,false,1),(7,false,1),(8,false,1)],ze:=some [.d (.int .u64) (0:Int),.d (.int .u64) (0:Int),.d (.int .u64) (0:Int),.d (.int .u64) (0:Int),.d (.int .u64) (0:Int),.d (.int .i64) (0:Int),.d (.int .i64) (0:Int),.full (.int .u64) [],.d (.bool) (false:Bool)],pl:=[(0,4),(4,1),(5,1),(6,1),(7,1),(8,1)]}
theorem kl1:TI.Ok Tryz.prog TB 184 ti184:=
  ⟨(fun _ h=>(show tyOf Tryz.prog 184=some (true,9)by kernel_rfl).trans h),
   (kf ⟨by kernel_rfl,by kernel_rfl,by kernel_rfl,by kernel_rfl,by kernel_rfl,by kernel_rfl,trivial⟩),
   (fun _ _ h=>by cases h),
   (fun h=>by cases h),
   (fun _ h=>by cases h),
   (fun _ h=>by cases h;exact⟨by kernel_rfl,ka (by kernel_rfl)⟩),
   (fun _=>by kernel_rfl),
   (fun _ h=>by cases h),
   (fun _ h=>by cases h),
   (fun _ _ h=>by cases h)⟩
def ti193:TI TB.den:={ty:=some (true,10),fl:=[(0,false,1),(1,false,1),(2,false,1),(3,false,1),(4,false,1),(5,false,1),(6,false,1),(7,false,1),(8,false,1),(9,false,1)],ze:=some [.d (.int .i64) (0:Int),.d (.int .u64) (0:Int),.full (.int .u64) [],.full (.int .u64) [],.full (.int .u64) [],.d (.int .u64) (0:Int),.d (.int .u64) (0:Int),.d (.int .u64) (0:Int),.d (.int .u64) (0:Int),.d (.int .u64) (0:Int)],pl:=[(0,1),(1,1),(2,1),(3,1),(4,1),(5,1),(6,1),(7,1),(8,1),(9,1)]}
theorem klw:TI.Ok Tryz.prog TB 193 ti193:=
  ⟨(fun _ h=>(show tyOf Tryz.prog 193=some (true,10)by kernel_rfl).trans h),
   (kf ⟨by kernel_rfl,by kernel_rfl,by kernel_rfl,by kernel_rfl,by kernel_rfl,by kernel_rfl,by kernel_rfl,by kernel_rfl,by kernel_rfl,by kernel_rfl,trivial⟩),
   (fun _ _ h=>by cases h),
   (fun h=>by cases h),
   (fun _ h=>by cases h),
   (fun _ h=>by cases h;exact⟨by kernel_rfl,ka (by kernel_rfl)⟩),
   (fun _=>by kernel_rfl),
   (fun _ h=>by cases h),
   (fun _ h=>by cases h),
   (fun _ _ h=>by cases h)⟩
def ti208:TI TB.den:={ty:=some (true,3),ar:=some (3,false,1),ze:=some [.d (.int .u64) (0:Int),.d (.int .u64) (0:Int),.d (.int .u64) (0:Int)],pl:=[(0,1),(1,1),(2,1)],un:=some (.array 3 24),eq:=some [.int .u64,.int .u64,.int .u64]}
theorem kmp:TI.Ok Tryz.prog TB 208 ti208:=
  ⟨(fun _ h=>(show tyOf Tryz.prog 208=some (true,3)by kernel_rfl).trans h),
   (kf trivial),
   (fun _ _ h=>by cases h),
   (fun h=>by cases h),
   (fun _ h=>by cases h;exact⟨by kernel_rfl,by kernel_rfl⟩),
   (fun _ h=>by cases h;exact⟨by kernel_rfl,ka (by kernel_rfl)⟩),
   (fun _=>by kernel_rfl),
   (fun _ h=>(show Tryz.prog.underlying 208=some (.array 3 24)by kernel_rfl).trans h),
   (fun _ h=>(show eqT Tryz.prog 208=some [.int .u64,.int .u64,.int .u64]by kernel_rfl).trans h),
   (fun _ _ h=>by cases h)⟩
def ti210:TI TB.den:={ty:=some (false,1),ze:=some [.k KC.nilMap.v],mp:=some (.int .u64,.bool),un:=some (.map 24 4)}
theorem klv:TI.Ok Tryz.prog TB 210 ti210:=
  ⟨(fun _ h=>(show tyOf Tryz.prog 210=some (false,1)by kernel_rfl).trans h),
   (kf trivial),
   (fun _ _ h=>by cases h),
   (fun h=>by cases h),
   (fun _ h=>by cases h),
   (fun _ h=>by cases h;exact⟨by kernel_rfl,ka (by kernel_rfl)⟩),
   (fun h=>(h rfl).elim),
   (fun _ h=>(show Tryz.prog.underlying 210=some (.map 24 4)by kernel_rfl).trans h),
   (fun _ h=>by cases h),
   (fun _ _ h=>by cases h;exact⟨4,.int .u64,⟨24,by kernel_rfl,by kernel_rfl⟩,fun _=>rfl,zIs_mk (z0:= .d (.bool false)) (by kernel_rfl) (kc (V.d (.bool false)))⟩)⟩
def ti212:TI TB.den:={ty:=some (true,1),fl:=[(0,false,1)],ze:=some [.k KC.nilMap.v],pl:=[(0,1)]}
theorem kl2:TI.Ok Tryz.prog TB 212 ti212:=
  ⟨(fun _ h=>(show tyOf Tryz.prog 212=some (true,1)by kernel_rfl).trans h),
   (kf ⟨by kernel_rfl,trivial⟩),
   (fun _ _ h=>by cases h),
   (fun h=>by cases h),
   (fun _ h=>by cases h),
   (fun _ h=>by cases h;exact⟨by kernel_rfl,ka (by kernel_rfl)⟩),
   (fun _=>by kernel_rfl),
   (fun _ h=>by cases h),
   (fun _ h=>by cases h),
   (fun _ _ h=>by cases h)⟩
def ti225:TI TB.den:={ty:=some (true,3),fl:=[(0,false,1),(1,false,1),(2,false,1)],ze:=some [.full (.int .u8) [],.d (.int .i64) (0:Int),.d (.bool) (false:Bool)],pl:=[(0,1),(1,1),(2,1)]}
theorem klg:TI.Ok Tryz.prog TB 225 ti225:=
  ⟨(fun _ h=>(show tyOf Tryz.prog 225=some (true,3)by kernel_rfl).trans h),
   (kf ⟨by kernel_rfl,by kernel_rfl,by kernel_rfl,trivial⟩),
   (fun _ _ h=>by cases h),
   (fun h=>by cases h),
   (fun _ h=>by cases h),
   (fun _ h=>by cases h;exact⟨by kernel_rfl,ka (by kernel_rfl)⟩),
   (fun _=>by kernel_rfl),
   (fun _ h=>by cases h),
   (fun _ h=>by cases h),
   (fun _ _ h=>by cases h)⟩
def ti229:TI TB.den:={ty:=some (true,1),fl:=[(0,false,1)],ze:=some [.d (.int .u64) (0:Int)],pl:=[(0,1)],eq:=some [.int .u64]}
theorem kmq:TI.Ok Tryz.prog TB 229 ti229:=
  ⟨(fun _ h=>(show tyOf Tryz.prog 229=some (true,1)by kernel_rfl).trans h),
   (kf ⟨by kernel_rfl,trivial⟩),
   (fun _ _ h=>by cases h),
   (fun h=>by cases h),
   (fun _ h=>by cases h),
   (fun _ h=>by cases h;exact⟨by kernel_rfl,ka (by kernel_rfl)⟩),
   (fun _=>by kernel_rfl),
   (fun _ h=>by cases h),
   (fun _ h=>(show eqT Tryz.prog 229=some [.int .u64]by kernel_rfl).trans h),
   (fun _ _ h=>by cases h)⟩
def ti262:TI TB.den:={ty:=some (false,1),el:=some (.st 14,16),ez:=true,ze:=some [.full (.st 14) []],un:=some (.slice 106)}
theorem kms:TI.Ok Tryz.prog TB 262 ti262:=
  ⟨(fun _ h=>(show tyOf Tryz.prog 262=some (false,1)by kernel_rfl).trans h),
   (kf trivial),
   (fun _ _ h=>by cases h;exact⟨by kernel_rfl,by kernel_rfl⟩),
   (fun _ _ _ h=>by cases h;exact⟨[.d (.int .u64 0),.d (.int .u64 0)],by kernel_rfl,⟨⟨kc _,rfl⟩,⟨kc _,rfl⟩,trivial⟩⟩),
   (fun _ h=>by cases h),
   (fun _ h=>by cases h;exact⟨by kernel_rfl,ka (by kernel_rfl)⟩),
   (fun h=>(h rfl).elim),
   (fun _ h=>(show Tryz.prog.underlying 262=some (.slice 106)by kernel_rfl).trans h),
   (fun _ h=>by cases h),
   (fun _ _ h=>by cases h)⟩
def ti268:TI TB.den:={ty:=some (false,1),ze:=some [.d (.int .u64) (0:Int)],un:=some (.int .u64)}
theorem kle:TI.Ok Tryz.prog TB 268 ti268:=
  ⟨(fun _ h=>(show tyOf Tryz.prog 268=some (false,1)by kernel_rfl).trans h),
   (kf trivial),
   (fun _ _ h=>by cases h),
   (fun h=>by cases h),
   (fun _ h=>by cases h),
   (fun _ h=>by cases h;exact⟨by kernel_rfl,ka (by kernel_rfl)⟩),
   (fun h=>(h rfl).elim),
   (fun _ h=>(show Tryz.prog.underlying 268=some (.int .u64)by kernel_rfl).trans h),
   (fun _ h=>by cases h),
   (fun _ _ h=>by cases h)⟩
def inf:BT (TI TB.den):=(.nd (.nd (.nd (.nd (.nd (.nd .lf 3 ti3 .lf) 4 ti4 (.nd .lf 5 ti5 .lf)) 9 ti9 (.nd (.nd .lf 23 ti23 .lf) 24 ti24 .lf)) 26 ti26 (.nd (.nd (.nd .lf 27 ti27 .lf) 30 ti30 (.nd .lf 32 ti32 .lf)) 34 ti34 (.nd (.nd .lf 36 ti36 .lf) 40 ti40 .lf))) 46 ti46 (.nd (.nd (.nd (.nd .lf 48 ti48 .lf) 60 ti60 (.nd .lf 62 ti62 .lf)) 64 ti64 (.nd (.nd .lf 65 ti65 .lf) 67 ti67 .lf)) 70 ti70 (.nd (.nd (.nd .lf 71 ti71 .lf) 72 ti72 .lf) 73 ti73 (.nd (.nd .lf 75 ti75 .lf) 77 ti77 .lf)))) 78 ti78 (.nd (.nd (.nd (.nd (.nd .lf 80 ti80 .lf) 86 ti86 (.nd .lf 106 ti106 .lf)) 108 ti108 (.nd (.nd .lf 113 ti113 .lf) 114 ti114 .lf)) 116 ti116 (.nd (.nd (.nd .lf 119 ti119 .lf) 124 ti124 .lf) 126 ti126 (.nd (.nd .lf 158 ti158 .lf) 160 ti160 .lf))) 163 ti163 (.nd (.nd (.nd (.nd .lf 165 ti165 .lf) 167 ti167 (.nd .lf 172 ti172 .lf)) 184 ti184 (.nd (.nd .lf 193 ti193 .lf) 208 ti208 .lf)) 210 ti210 (.nd (.nd (.nd .lf 212 ti212 .lf) 225 ti225 .lf) 229 ti229 (.nd (.nd .lf 262 ti262 .lf) 268 ti268 .lf)))))
theorem inf_ok:InfoOk Tryz.prog TB inf:=(find_nd ti78_ok (find_nd ti46_ok (find_nd ti26_ok (find_nd ti9_ok (find_nd ti4_ok (find_nd ti3_ok ke ke) (find_nd ti5_ok ke ke)) (find_nd ti24_ok (find_nd ti23_ok ke ke) ke)) (find_nd ti34_ok (find_nd ti30_ok (find_nd ti27_ok ke ke) (find_nd ti32_ok ke ke)) (find_nd ti40_ok (find_nd ti36_ok ke ke) ke))) (find_nd ti70_ok (find_nd ti64_ok (find_nd ti60_ok (find_nd ti48_ok ke ke) (find_nd ti62_ok ke ke)) (find_nd ti67_ok (find_nd ti65_ok ke ke) ke)) (find_nd ti73_ok (find_nd ti72_ok (find_nd ti71_ok ke ke) ke) (find_nd ti77_ok (find_nd ti75_ok ke ke) ke)))) (find_nd kl8 (find_nd km3 (find_nd kkw (find_nd ti86_ok (find_nd ti80_ok ke ke) (find_nd kmo ke ke)) (find_nd klu (find_nd km6 ke ke) ke)) (find_nd kmd (find_nd kmn (find_nd km9 ke ke) ke) (find_nd kl3 (find_nd klt ke ke) ke))) (find_nd klv (find_nd kl1 (find_nd kly (find_nd kmk ke ke) (find_nd kkz ke ke)) (find_nd kmp (find_nd klw ke ke) ke)) (find_nd kmq (find_nd klg (find_nd kl2 ke ke) ke) (find_nd kle (find_nd kms ke ke) ke)))))
theorem mix:Tryz.prog.follows .mixedOrders=true:=by kernel_rfl
theorem Bs:Base Tryz.prog TB inf:=⟨TBok,inf_ok,mix⟩
def x70:XCon TB.den:=⟨70,[.int .u64,.int .u64,.int .u64],[.int .u64,.int .u64],fun x=>(fun(a0 a1 a2:Int)=>0<=a0/\0<=a1/\0<=a2/\a2<=1) x.1 x.2.1 x.2.2.1,fun x=>((fun(a0 a1 a2:Int)=>(a0+a1+a2)%18446744073709551616) x.1 x.2.1 x.2.2.1,(fun(a0 a1 a2:Int)=>(a0+a1+a2)/18446744073709551616) x.1 x.2.1 x.2.2.1,())⟩
theorem x70_ok:x70.Ok Tryz.prog TB:=⟨rfl,fun x h=>kg0 Tryz.func70 (by kernel_rfl) (by kernel_rfl) (by kernel_rfl) (by kernel_rfl) x.1 x.2.1 x.2.2.1 h.1 h.2.1 h.2.2.1 h.2.2.2⟩
abbrev yqi:Ty:= .int .i64
abbrev yqu:Ty:= .int .u64
abbrev yqb:Ty:= .int .u8
abbrev zqi:Sh1:= .d yqi
abbrev zqu:Sh1:= .d yqu
abbrev zqb:Sh1:= .d yqb
abbrev zql:Sh1:= .d (.sl yqu)
end Go.Proofs.YtijdfglbhaedoaaGreat
namespace Go.Bv
open Go.RowKit Go.Deep
def limOf (w:World) (b:Nat):Nat:=match w.heap[b]? with
 |some (.cells c _ _)=>c.size
 |_=>0
theorem kj2 {w:World} {b o:Nat} {v:Value} (h:w.cell? ⟨b,o,none⟩=some v):o<limOf w b:=by
 unfold World.cell? at h
 unfold limOf
 simp only at h
 split at h
 ·rename_i c _ _ hh
  rw[hh]
  simp only[Option.isSome_none,Bool.false_eq_true,if_false]at h
  exact(Array.getElem?_eq_some_iff.1 h).1
 ·cases h
def isAggT (P:Program) (e:TypeId):Bool:=match P.underlying e with
 |some (.struct _)=>true
 |some (.array _ _)=>true
 |_=>false
def mkD (P:Program) (e:TypeId) (cs:List D):D:=if isAggT P e then .agg cs else cs.headD (.bool false)
def tiles (P:Program) (tot:Nat):List (TypeId×Nat)->Nat->Bool
 |[],o=>o==tot
 |p::r,o=>p.2==o&&tiles P tot r (o+P.cellsOf p.1)
def fsOf (fs:Array Field):List (TypeId×Nat):=fs.toList.map fun f=>(f.type,f.offset)
def arOf (P:Program) (n:Nat) (e:TypeId):List (TypeId×Nat):=(List.range n).map fun i=>(e,i*P.cellsOf e)
def dataT (P:Program):Nat->TypeId->Bool
 |0,_=>false
 |k+1,t=>match P.underlying t with
  |some .bool=>true
  |some (.int _)=>true
  |some .string=>true
  |some (.slice e)=>decide (0<P.cellsOf e)&&dataT P k e
  |some (.struct fs)=>tiles P (P.cellsOf t) (fsOf fs) 0&&(fsOf fs).all fun p=>dataT P k p.1
  |some (.array n e)=>tiles P (P.cellsOf t) (arOf P n e) 0&&dataT P k e
  |_=>false
def RelFs {H:Type} (R:TypeId->List D->DataW H->Prop):List (TypeId×Nat)->List D->List (DataW H)->Prop
 |[],ds,ps=>ds=[]/\ps=[]
 |t::ts,ds,ps=>∃d1 d2 p qs,R t.1 d1 p/\RelFs R ts d2 qs/\ds=d1++d2/\ps=p::qs
def Rel {H:Type} (P:Program):Nat->TypeId->List D->DataW H->Prop
 |0,_,_,_=>False
 |k+1,t,ds,d=>match P.underlying t with
  |some .bool=>∃b,ds=[.bool b]/\d= .lit (.bool b)
  |some (.int q)=>∃i,ds=[.int q i]/\d= .lit (.int q i)/\(Lit.int q i).wf=true
  |some .string=>∃s:ByteArray,ds=[.str s]/\d= .lit (.string s.data.toList)
  | some (.slice e)=>∃l:List (List D),ds=[.slice (P.cellsOf e) (l.map (mkD P e))]/\l.length<=maxLen/\
    ((l=[]/\d= .nil)∨∃elems spare,d= .slice elems spare/\l.length=elems.length/\∀(j:Nat) (x:List D) (y:DataW H),l[j]? =some x->elems[j]? =some y->Rel P k e x y)
  |some (.struct fs)=>∃ps,d= .agg ps/\RelFs (Rel P k) (fsOf fs) ds ps
  |some (.array n e)=>∃ps,d= .agg ps/\RelFs (Rel P k) (arOf P n e) ds ps
  |_=>False
def Holds (w:World) (cs:List Value) (ds:List D):Prop:=ds.length=cs.length/\∀(j:Nat) (v:Value) (c:D),cs[j]? =some v->ds[j]? =some c->RepD (limOf w) w v c
theorem Holds.append {w:World} {a b:List Value} {x y:List D} (h1:Holds w a x) (h2:Holds w b y):Holds w (a++b) (x++y):=by
 refine⟨by simp[h1.1,h2.1],fun j v c hv hc=> ?_⟩
 by_cases hj:j<a.length
 ·rw[List.getElem?_append_left hj]at hv
  rw[List.getElem?_append_left (by rw[h1.1];exact hj)]at hc
  exact h1.2 j v c hv hc
 ·rw[List.getElem?_append_right (by omega)]at hv
  rw[List.getElem?_append_right (by rw[h1.1];omega),h1.1]at hc
  exact h2.2 _ v c hv hc
theorem Holds.one {w:World} {v:Value} {d:D} (h:RepD (limOf w) w v d):Holds w [v] [d]:=by
 refine⟨rfl,fun j u c hu hc=> ?_⟩
 cases j with
 |zero=>simp at hu hc;subst hu;subst hc;exact h
 |succ j=>simp at hu
section
variable {H:Type} {P:Program} {w:World} {cs:List Value}
theorem k8a {tot:Nat} (htot:cs.length=tot) (ok:Value->Prop) (hok:∀v∈cs,ok v) (R:TypeId->List D->DataW H->Prop) (g:TypeId->List Value->Option (DataW H×List MemPlace)):
  ∀(L:List (TypeId×Nat)) (o:Nat) (xs:List (DataW H×List MemPlace)),tiles P tot L o=true->xs.length=L.length->
   (∀p∈L,∀cs' y,(∀v∈cs',ok v)->g p.1 cs' =some y->∃ds,Holds w cs' ds/\R p.1 ds y.1)->
   (∀(i:Nat) (p:TypeId×Nat),L[i]? =some p->g p.1 ((cs.drop p.2).take (P.cellsOf p.1))=xs[i]?)->
   ∃ds,Holds w (cs.drop o) ds/\RelFs R L ds (xs.map (·.1))
 |[],o,xs,ht,hl,_,_=>by
  simp[tiles]at ht
  have:xs=[]:=by simpa using hl
  subst this
  refine⟨[],⟨?_,?_⟩,rfl,rfl⟩
  ·simp;omega
  ·intro j v c _ hc;simp at hc
 |p::L,o,xs,ht,hl,hg,hx=>by
  simp[tiles]at ht
  obtain⟨h0,ht⟩:=ht
  cases xs with
  |nil=>simp at hl
  |cons y ys=>
   have h1:=hx 0 p rfl
   simp only[List.getElem?_cons_zero]at h1
   obtain⟨d1,hd1,hr1⟩:=hg p (by simp) _ y (fun v hv=>hok v (List.mem_of_mem_drop (List.mem_of_mem_take hv))) h1
   obtain⟨d2,hd2,hr2⟩:=k8a htot ok hok R g L (o+P.cellsOf p.1) ys ht (by simpa using hl) (fun q hq=>hg q (by simp[hq])) (fun i q hq=>by simpa using hx (i+1) q (by simpa using hq))
   refine⟨d1++d2,?_,d1,d2,y.1,_,hr1,hr2,rfl,rfl⟩
   have:=hd1.append hd2
   rw[h0,<-List.drop_drop,List.take_append_drop]at this
   exact this
end
section
variable {H:Type} {enc:TypeId×Value->H} {P:Program} {w:World}
theorem rel_mk {k:Nat} {e:TypeId} {x:List D} {d:DataW H} (hr:Rel P k e x d) (h1:∀c∈x,c.one=true):(mkD P e x).cells=x:=by
 cases k with
 |zero=>exact hr.elim
 |succ k=>
  unfold mkD
  split
  ·rfl
  ·rename_i ha
   unfold Rel at hr
   split at hr
   ·obtain⟨b,rfl,_⟩:=hr;rfl
   ·obtain⟨b,rfl,_⟩:=hr;rfl
   ·obtain⟨b,rfl,_⟩:=hr;rfl
   ·obtain⟨b,rfl,_⟩:=hr;rfl
   ·rename_i h;exact absurd (by simp[isAggT,h]) ha
   ·rename_i h;exact absurd (by simp[isAggT,h]) ha
   ·exact hr.elim
theorem k3y:∀(k:Nat) (t:TypeId),dataT P k t=true->∀(n:Nat) (cs:List Value) (y:DataW H×List MemPlace),
  DataW.trod enc P w 0 (fun _=>true) true n t cs=some y->∃ds,Holds w cs ds/\Rel P k t ds y.1
 |0,_,h=>by cases h
 |k+1,t,hT=>by
  intro n cs y h
  unfold dataT at hT
  split at hT
  ·rename_i hu
   obtain⟨b,rfl,rfl⟩:=DataW.trod_bool hu h
   exact⟨[.bool b],Holds.one (.bool b),by simp[Rel,hu]⟩
  ·rename_i q hu
   obtain⟨i,rfl,rfl,hw⟩:=DataW.trod_int hu h
   exact⟨[.int q i],Holds.one (.int q i),by simp[Rel,hu,hw]⟩
  ·rename_i hu
   obtain⟨s,rfl,rfl,hs⟩:=DataW.trod_string hu h
   exact⟨[.str s],Holds.one (.str s),by simp only[Rel,hu];exact⟨s,rfl,rfl⟩⟩
  ·rename_i e hu
   simp only[Bool.and_eq_true,decide_eq_true_eq]at hT
   obtain⟨hpos,hT⟩:=hT
   rcases open_slice hu h with⟨rfl,rfl⟩|⟨a,len,cap,m,n',Dd,Pl,rfl,_,hlc,hcm,hm,rfl,hel⟩
   ·exact⟨[.slice (P.cellsOf e) []],Holds.one (.nil none _),by simp only[Rel,hu];exact⟨[],rfl,Nat.zero_le _,.inl ⟨by trivial,by trivial⟩⟩⟩
   ·simp only[if_true]at hm
    subst hm
    by_cases hm0:m=0
    ·subst hm0
     have hl0:len=0:=by omega
     subst hl0
     refine⟨[.slice (P.cellsOf e) []],Holds.one (.nil (some a) _),?_⟩
     simp only[Rel,hu]
     exact⟨[],rfl,Nat.zero_le _,.inr ⟨_,_,rfl,by simp,by intro j x y hx;simp at hx⟩⟩
    have hel' :∀i,i<len->∃x:List D,∃cs',w.cells? 0 (a.add (i*P.cellsOf e)) (P.cellsOf e)=some cs'/\Holds w cs' x/\Rel P k e x (Dd i):=by
     intro i hi
     obtain⟨cs',h1,h2⟩:=hel i (by omega)
     obtain⟨ds,h3,h4⟩:=k3y k e hT n' cs' _ h2
     exact⟨ds,cs',h1,h3,h4⟩
    obtain⟨f,hf⟩:=choose_lt hel'
    have hspot:a.spot=none:=by
     obtain⟨cs',h1,h2⟩:=hel 0 (by omega)
     have h3:=(World.cells?_some h1).2.2 0 (by omega)
     have h4:=(World.cells?_some h1).2.1
     rw[List.getElem?_eq_getElem (by omega)]at h3
     unfold World.cell? at h3
     split at h3
     ·split at h3
      ·cases h3
      ·rename_i hs;simpa[Addr.add]using hs
     ·cases h3
    obtain⟨b,off,sp⟩:=a
    simp only at hspot
    subst hspot
    have hone:∀i,i<len->∀c∈f i,c.one=true:=by
     intro i hi c hc
     obtain⟨cs',h1,h2,h3⟩:=hf i hi
     obtain⟨j,hj⟩:=List.getElem?_of_mem hc
     have hjl:j<cs'.length:=by rw[<-h2.1];exact(List.getElem?_eq_some_iff.1 hj).1
     exact(h2.2 j _ c (List.getElem?_eq_getElem hjl) hj).done
    have hmk:∀i,i<len->(mkD P e (f i)).cells=f i:=fun i hi=>by
     obtain⟨cs',h1,h2,h3⟩:=hf i hi
     exact rel_mk h3 (hone i hi)
    have hsz:∀d∈((List.range len).map f).map (mkD P e),d.cells.length=P.cellsOf e/\∀c∈d.cells,c.one=true:=by
     intro d hd
     simp only[List.map_map,List.mem_map,List.mem_range,Function.comp]at hd
     obtain⟨i,hi,rfl⟩:=hd
     obtain⟨cs',h1,h2,h3⟩:=hf i hi
     rw[hmk i hi]
     exact⟨by rw[h2.1];exact(World.cells?_some h1).2.1,hone i hi⟩
    have hget:∀i,i<len->(((List.range len).map f).map (mkD P e))[i]? =some (mkD P e (f i)):=by
     intro i hi
     simp[List.getElem?_map,List.getElem?_range hi]
    have hfl:=ki hsz
    simp only[List.length_map,List.length_range]at hfl
    have hat:∀(j:Nat) (u:Value),((List.range (len*P.cellsOf e)).map fun j=>(w.cell? ⟨b,off+j,none⟩).getD undef)[j]? =some u->j<len*P.cellsOf e/\w.cell? ⟨b,off+j,none⟩=some u:=by
     intro j u hu
     have hj:j<len*P.cellsOf e:=by simpa using(List.getElem?_eq_some_iff.1 hu).1
     refine⟨hj,?_⟩
     simp only[List.getElem?_map,List.getElem?_range hj,Option.map_some,Option.some.injEq]at hu
     have hi:j/P.cellsOf e<len:=by rw[Nat.div_lt_iff_lt_mul hpos];exact hj
     have hr:j%P.cellsOf e<P.cellsOf e:=Nat.mod_lt _ hpos
     obtain⟨cs',h1,h2,h3⟩:=hf _ hi
     have e1:j/P.cellsOf e*P.cellsOf e+j%P.cellsOf e=j:=by rw[Nat.mul_comm];exact Nat.div_add_mod j _
     have h4:=(World.cells?_some h1).2.2 _ hr
     have h5:=(World.cells?_some h1).2.1
     have e2:(Addr.add ⟨b,off,none⟩ (j/P.cellsOf e*P.cellsOf e)).add (j%P.cellsOf e)=⟨b,off+j,none⟩:=by
      rw[add_add,e1]
      simp[Addr.add]
     rw[e2,List.getElem?_eq_getElem (by omega)]at h4
     rw[h4]at hu ⊢
     simpa using hu
    refine⟨[.slice (P.cellsOf e) (((List.range len).map f).map (mkD P e))],Holds.one ?_,?_⟩
    ·have:=RepD.slice (m:=limOf w) (w:=w) b off m (P.cellsOf e) (((List.range len).map f).map (mkD P e)) ((List.range (len*P.cellsOf e)).map fun j=>(w.cell? ⟨b,off+j,none⟩).getD undef) (by simpa using hlc) hcm hsz (by rw[hfl];simp) ?_ ?_
     ·simpa using this
     ·intro j u hu
      obtain⟨hj,hcell⟩:=hat j u hu
      exact⟨kj2 hcell,hcell⟩
     ·intro j u c hu hc
      obtain⟨hj,hcell⟩:=hat j u hu
      have hi:j/P.cellsOf e<len:=by rw[Nat.div_lt_iff_lt_mul hpos];exact hj
      have hr:j%P.cellsOf e<P.cellsOf e:=Nat.mod_lt _ hpos
      obtain⟨cs',h1,h2,h3⟩:=hf _ hi
      have e1:j/P.cellsOf e*P.cellsOf e+j%P.cellsOf e=j:=by rw[Nat.mul_comm];exact Nat.div_add_mod j _
      rw[<-e1,k67 hsz (hget _ hi) _ hr,hmk _ hi]at hc
      refine h2.2 _ u c ?_ hc
      rw[<-(World.cells?_some h1).2.2 _ hr,<-hcell]
      congr 1
      rw[add_add,e1]
      simp[Addr.add]
    ·simp only[Rel,hu]
     refine⟨(List.range len).map f,rfl,by simp;omega,.inr ⟨_,_,rfl,by simp,?_⟩⟩
     intro j x y hx hy
     have hj:j<len:=by simpa using(List.getElem?_eq_some_iff.1 hx).1
     simp only[List.getElem?_map,List.getElem?_range hj,Option.map_some,Option.some.injEq]at hx hy
     subst hx;subst hy
     obtain⟨_,_,_,h3⟩:=hf j hj
     exact h3
  ·rename_i fs hu
   simp only[Bool.and_eq_true]at hT
   obtain⟨xs,n',rfl,rfl,hl,hxl,hx⟩:=DataW.trod_struct hu h
   obtain⟨ds,h1,h2⟩:=k8a (P:=P) hl (fun _=>True) (fun _ _=>trivial) (Rel P k) (fun t c=>DataW.trod enc P w 0 (fun _=>true) true n' t c) (fsOf fs) 0 xs hT.1 (by simp[fsOf,hxl])
    (fun p hp cs' y _ hy=>k3y k p.1 (List.all_eq_true.1 hT.2 p hp) n' cs' y hy)
    (fun i p hp=>by
     simp only[fsOf,List.getElem?_map,Option.map_eq_some_iff]at hp
     obtain⟨f,hf,rfl⟩:=hp
     exact hx i f (by simpa using hf))
   exact⟨ds,by simpa using h1,by simp only[Rel,hu];exact⟨_,rfl,h2⟩⟩
  ·rename_i m e hu
   simp only[Bool.and_eq_true]at hT
   obtain⟨xs,n',rfl,rfl,hl,hxl,hx⟩:=DataW.trod_array hu h
   obtain⟨ds,h1,h2⟩:=k8a (P:=P) hl (fun _=>True) (fun _ _=>trivial) (Rel P k) (fun t c=>DataW.trod enc P w 0 (fun _=>true) true n' t c) (arOf P m e) 0 xs hT.1 (by simp[arOf,hxl])
    (fun p hp cs' y _ hy=>by
     simp only[arOf,List.mem_map]at hp
     obtain⟨i,_,rfl⟩:=hp
     exact k3y k e hT.2 n' cs' y hy)
    (fun i p hp=>by
     simp only[arOf,List.getElem?_map,Option.map_eq_some_iff]at hp
     obtain⟨f,hf,rfl⟩:=hp
     obtain⟨hi,rfl⟩:=List.getElem?_eq_some_iff.1 hf
     have hi' :i<m:=by simpa using hi
     simpa using hx i hi')
   exact⟨ds,by simpa using h1,by simp only[Rel,hu];exact⟨_,rfl,h2⟩⟩
  ·cases hT
end
end Go.Bv
namespace Go.Bv
open Go.RowKit Go.ChangeShapes Go.WideShapes
def G0 (W:World):Gh:=⟨fun _=>none,fun _=>none,limOf W⟩
def vOf (P:Program) (t:TypeId) (ds:List D):V:=if isAggT P t then .agg (ds.map V.d)else .d (ds.headD (.bool false))
section
variable {H:Type} {enc:TypeId×Value->H} {P:Program} {W:World}
theorem arg_rep {k:Nat} {r:Reach} {base:Nat} {t:TypeId} {v:Value} {d:DataW H} {ps:List MemPlace} {h:Hp} {nx:Nat} (hT:dataT P k t=true) (hval:Value.okWide P W r base t v)
  (hd:DataW.Trod enc P W 0 (fun _=>true) true t v d ps):∃ds,Rel P k t ds d/\RepV (G0 W) W h nx v (vOf P t ds):=by
 obtain⟨n,hn⟩:=hd
 by_cases ha:isAggT P t=true
 ·have hval' :∃cs,v= .agg cs/\cs.size=P.cellsOf t/\Row.okWide P W r base t cs:=by
   unfold isAggT at ha
   unfold Value.okWide at hval
   split at ha
   ·rename_i h1;rw[h1]at hval;exact hval
   ·rename_i h1;rw[h1]at hval;exact hval
   ·cases ha
  obtain⟨cs,rfl,_,ts,_,_,hc⟩:=hval'
  obtain⟨ds,h1,h2⟩:=k3y k t hT n cs.toList _ hn
  refine⟨ds,h2,?_⟩
  unfold vOf
  rw[if_pos ha]
  have:=RepV.agg (G:=G0 W) (w:=W) (h:=h) (nx:=nx) cs.toList (ds.map V.d) (by simpa using h1.1.symm) ?_ ?_
  ·simpa using this
  ·intro x hx
   obtain⟨c,hcm,rfl⟩:=List.mem_map.1 hx
   obtain⟨j,hj⟩:=List.getElem?_of_mem hcm
   have hjl:j<cs.toList.length:=by have:=h1.1;have:=(List.getElem?_eq_some_iff.1 hj).1;simp[Value.cells]at *;omega
   exact(h1.2 j _ c (List.getElem?_eq_getElem hjl) hj).done
  ·intro j u x hu hx
   rw[List.getElem?_map,Option.map_eq_some_iff]at hx
   obtain⟨c,hcj,rfl⟩:=hx
   exact .d _ _ (h1.2 j u c hu hcj)
 ·have hval' :Cell.okWide P W r base t v:=by
   unfold Value.okWide at hval
   split at hval
   ·rename_i h1;exact absurd (by simp[isAggT,h1]) ha
   ·rename_i h1;exact absurd (by simp[isAggT,h1]) ha
   ·exact hval
  have hcs:v.cells.toList=[v]:=by
   cases v with
   |agg cs=>
    exfalso
    unfold Cell.okWide Cell.ok at hval'
    split at hval'
    all_goals first|(split at hval';all_goals simp_all)|simp_all
   |_=>rfl
  rw[hcs]at hn
  obtain⟨ds,h1,h2⟩:=k3y k t hT n _ _ hn
  refine⟨ds,h2,?_⟩
  unfold vOf
  rw[if_neg ha]
  have hl:=h1.1
  match ds,hl with
  |[c],_=>exact .d _ _ (h1.2 0 v c rfl rfl)
theorem law_of {f:FuncId} {xs:List V} {r:V} (hS:SoundH P f xs [] r []) {vs:List Value} (hlen:vs.length=xs.length)
  (hrep:∀(j:Nat) (v:Value) (x:V),vs[j]? =some v->xs[j]? =some x->RepV (G0 W) W [] 0 v x):
  Calls P f vs.toArray W fun e W' =>(∃v G',e= .returned v/\RepV G' W' [] 0 v r)/\Below W.heap.size W W' :=by
 refine(hS (G0 W) W vs hlen hrep ?_).mono fun e W' hh=> ?_
 ·refine⟨?_,?_,?_,?_,?_,?_⟩
  ·intro id l h;simp[hpOf,Hp.get]at h
  ·intro id es h;simp[hpOf,Hp.get]at h
  ·intro id b h;simp at h
  ·intro i j b h;simp at h
  ·intro id ob h;simp[hpOf,Hp.get]at h
  ·intro b hb
   show limOf W b=0
   unfold limOf
   rw[Array.getElem?_eq_none hb]
 ·obtain⟨v,G',rfl,h1,h2,h3,h4⟩:=hh
  refine⟨⟨v,G',rfl,h1⟩,h3.os,h3.tape,h3.output,h3.size,fun b hb=>(h3.same b hb ?_).1⟩
  rintro ⟨i,hi,_⟩
  simp at hi
def typesOk (P:Program) (ts:List TypeId):Bool:=ts.all fun t=>P.readableRec t&&decide (t<P.types.size)
theorem k6q (hl:laidOutB P=true) {W' :World} (hb:Below W.heap.size W W'):∀{ts:List TypeId} {vs:List Value} {ds:List (DataW H)} {ps:List MemPlace},typesOk P ts=true->
  DataW.TrodAll enc P W 0 (fun _=>true) true ts vs ds ps->(∀x∈ps,x.block<W.heap.size)->DataW.TrodAll enc P W' 0 (fun b=>decide (b<W.heap.size)) true ts vs ds ps
 |[],[],[],_,_,h,_=>h
 |[],[],_::_,_,_,h,_=>h.elim
 |[],_::_,_,_,_,h,_=>h.elim
 |_::_,[],_,_,_,h,_=>h.elim
 |_::_,_::_,[],_,_,h,_=>h.elim
 |t::ts,v::vs,d::ds,ps,ht,h,hp=>by
  simp only[typesOk,List.all_cons,Bool.and_eq_true,decide_eq_true_eq]at ht
  obtain⟨p,q,h1,h2,rfl⟩:=h
  exact⟨p,q,Below.trod hl ht.1.1 ht.1.2 h1 hb (fun x hx=>hp x (by simp[hx])),k6q hl hb (by simpa[typesOk]using ht.2) h2 (fun x hx=>hp x (by simp[hx])),rfl⟩
theorem rel_int {k:Nat} {t:TypeId} {q:IntKind} {ds:List D} {d:DataW H} (hu:P.underlying t=some (.int q)) (h:Rel P (k+1) t ds d):∃i,ds=[.int q i]/\d= .lit (.int q i)/\(Lit.int q i).wf=true:=by unfold Rel at h;rw[hu]at h;exact h
theorem kjl {k:Nat} {t:TypeId} {fs:Array Field} {ds:List D} {d:DataW H} (hu:P.underlying t=some (.struct fs)) (h:Rel P (k+1) t ds d):∃ps,d= .agg ps/\RelFs (Rel P k) (fsOf fs) ds ps:=by unfold Rel at h;rw[hu]at h;exact h
theorem kkv {k:Nat} {t e:TypeId} {n:Nat} {ds:List D} {d:DataW H} (hu:P.underlying t=some (.array n e)) (h:Rel P (k+1) t ds d):∃ps,d= .agg ps/\RelFs (Rel P k) (arOf P n e) ds ps:=by unfold Rel at h;rw[hu]at h;exact h
theorem kks {k:Nat} {t e:TypeId} {ds:List D} {d:DataW H} {α:Type} [Inhabited α] (f:α->D) (p:α->Prop) (hu:P.underlying t=some (.slice e)) (h:Rel P (k+1) t ds d)
  (tp:∀(x:List D) (y:DataW H),Rel P k e x y->∃a,mkD P e x=f a/\p a):
  ∃l:List α,ds=[.slice (P.cellsOf e) (l.map f)]/\l.length<=maxLen/\(∀a∈l,p a)/\((l=[]/\d= .nil)∨∃elems spare,d= .slice elems spare/\l.length=elems.length):=by
 unfold Rel at h
 rw[hu]at h
 obtain⟨l,rfl,hmx,h⟩:=h
 rcases h with⟨rfl,rfl⟩|⟨elems,spare,rfl,hlen,hh⟩
 ·exact⟨[],rfl,Nat.zero_le _,by simp,.inl ⟨rfl,rfl⟩⟩
 ·have:∀i,i<l.length->∃a,mkD P e (l.getD i [])=f a/\p a:=by
   intro i hi
   refine tp _ _ (hh i _ _ ?_ (List.getElem?_eq_getElem (by omega)))
   simp[List.getElem?_eq_getElem hi]
  obtain⟨g,hg⟩:=Deep.choose_lt this
  refine⟨(List.range l.length).map g,?_,by simpa using hmx,?_,.inr ⟨elems,spare,rfl,by simpa using hlen⟩⟩
  ·have:l.map (mkD P e)=((List.range l.length).map g).map f:=by
    rw[Deep.map_by_index l [] (mkD P e),List.map_map]
    refine List.map_congr_left fun i hi=> ?_
    exact(hg i (by simpa using hi)).1
   rw[this]
  ·intro a ha
   obtain⟨i,hi,rfl⟩:=List.mem_map.1 ha
   exact(hg i (by simpa using hi)).2
theorem kmc {fn:Func} {s:ChangeSpec} {W' :World} {args:Array Value} {ds:List (DataW H)} {before:List MemPlace} {tb:TypeId} (hv:s.vars=[]) (hW:DataW.Whole enc P fn.params.toList s.vars false W args.toList ds [] before)
  (hl:laidOutB P=true) (hty:typesOk P fn.params.toList=true) (hr:fn.resultTypes= #[tb]) (hub:P.underlying tb=some .bool)
  (h1:(s.fn H (ds++[])).results=[.lit (.bool true)]) (h2:(s.fn H (ds++[])).args=ds) (h3:(s.fn H (ds++[])).vars=[]) (hb:Below W.heap.size W W'):
  s.post enc P fn false true false false W args (.bool true) W' :=by
 have hW' :=hW
 obtain⟨p,q,hA,hV,rfl,_,_⟩:=hW
 have hq:q=[]:=by rw[hv]at hV;exact hV
 subst hq
 refine⟨ds,[],p++[],[],p,[],hW',?_,?_,?_,hb.frame _,fun h=>by cases h⟩
 ·rw[h1,hr]
  exact trodAll_cons_mk (shut_bool hub _) trodAll_mk0
 ·rw[h2]
  exact k6q hl hb hty hA (fun x hx=>by simpa using hW'.lt x (by simpa using hx))
 ·rw[hv,h3]
  rfl
end
structure RelH {H:Type} (P:Program) (k:Nat) (t:TypeId) (ds:List D) (d:DataW H):Prop where
 h:Rel P k t ds d
section
variable {H:Type} {enc:TypeId×Value->H} {P:Program} {W:World} {k:Nat}
theorem relFs_h:∀{L:List (TypeId×Nat)} {ds:List D} {ps:List (DataW H)},RelFs (Rel P k) L ds ps->RelFs (RelH P k) L ds ps
 |[],_,_,h=>h
 |_::_,_,_,⟨d1,d2,p,qs,h1,h2,e1,e2⟩=>⟨d1,d2,p,qs,⟨h1⟩,relFs_h h2,e1,e2⟩
theorem kan {t:TypeId} {q:IntKind} {ds:List D} {d:DataW H} (hu:P.underlying t=some (.int q)) (h:RelH P (k+1) t ds d):∃i,ds=[.int q i]/\d= .lit (.int q i)/\(Lit.int q i).wf=true:=rel_int hu h.h
theorem k27 {t:TypeId} {fs:Array Field} {ds:List D} {d:DataW H} {L:List (TypeId×Nat)} (hu:P.underlying t=some (.struct fs)) (hf:fsOf fs=L) (h:RelH P (k+1) t ds d):∃ps,d= .agg ps/\RelFs (RelH P k) L ds ps:=by
 obtain⟨ps,h1,h2⟩:=kjl hu h.h
 rw[hf]at h2
 exact⟨ps,h1,relFs_h h2⟩
theorem kje {t e:TypeId} {n:Nat} {ds:List D} {d:DataW H} {L:List (TypeId×Nat)} (hu:P.underlying t=some (.array n e)) (hf:arOf P n e=L) (h:RelH P (k+1) t ds d):∃ps,d= .agg ps/\RelFs (RelH P k) L ds ps:=by
 obtain⟨ps,h1,h2⟩:=kkv hu h.h
 rw[hf]at h2
 exact⟨ps,h1,relFs_h h2⟩
theorem k2j {t e:TypeId} {ds:List D} {d:DataW H} {α:Type} [Inhabited α] (f:α->D) (p:α->Prop) (sz:Nat) (hu:P.underlying t=some (.slice e)) (hs:P.cellsOf e=sz) (h:RelH P (k+1) t ds d)
  (tp:∀(x:List D) (y:DataW H),RelH P k e x y->∃a,mkD P e x=f a/\p a):∃l:List α,ds=[.slice sz (l.map f)]/\l.length<=9223372036854775807/\∀a∈l,p a:=by
 obtain⟨l,h1,h2,h3,_⟩:=kks f p hu h.h (fun x y hh=>tp x y ⟨hh⟩)
 subst hs
 exact⟨l,h1,h2,h3⟩
theorem mk_agg {e:TypeId} {ds cs:List D} (ha:isAggT P e=true) (h:ds=(D.agg cs).cells):mkD P e ds= .agg cs:=by subst h;unfold mkD;rw[ha];rfl
theorem mk_one {e:TypeId} {ds:List D} {x:D} (ha:isAggT P e=false) (h:ds=[x]):mkD P e ds=x:=by subst h;unfold mkD;rw[ha];rfl
theorem khu {r:Reach} {base:Nat} {t:TypeId} {v:Value} {d:DataW H} {ps:List MemPlace} {h:Hp} {nx:Nat} (hT:dataT P k t=true) (hval:Value.okWide P W r base t v)
  (hd:DataW.Trod enc P W 0 (fun _=>true) true t v d ps):∃ds,RelH P k t ds d/\RepV (G0 W) W h nx v (vOf P t ds):=by
 obtain⟨ds,h1,h2⟩:=arg_rep hT hval hd
 exact⟨ds,⟨h1⟩,h2⟩
end
end Go.Bv
namespace Go.Proofs.YtijdfglbhaedoaaGreat
open Go Go.Bv Go.Cv Go.Md Go.RowKit Go.ChangeShapes Go.WideShapes
theorem wf_u8 {i:Int} (h:(Lit.int .u8 i).wf=true):0<=i/\i<256:=by
 simp only[Lit.wf,IntKind.min,IntKind.max,IntKind.signed,IntKind.bits,Bool.and_eq_true]at h
 simp at h
 omega
theorem wf_u64 {i:Int} (h:(Lit.int .u64 i).wf=true):0<=i/\i<18446744073709551616:=by
 simp only[Lit.wf,IntKind.min,IntKind.max,IntKind.signed,IntKind.bits,Bool.and_eq_true]at h
 simp at h
 omega
theorem wf_i64 {i:Int} (h:(Lit.int .i64 i).wf=true):(-9223372036854775808)<=i/\i<9223372036854775808:=by
 simp only[Lit.wf,IntKind.min,IntKind.max,IntKind.signed,IntKind.bits,Bool.and_eq_true]at h
 simp at h
 omega
structure k9r (x:wJ):Prop where
 wAE:((-9223372036854775808)<=x.wAE/\x.wAE<9223372036854775808)
 wC:((-9223372036854775808)<=x.wC/\x.wC<9223372036854775808)
 wR:((-9223372036854775808)<=x.wR/\x.wR<9223372036854775808)
 wO:((-9223372036854775808)<=x.wO/\x.wO<9223372036854775808)
 wN:((-9223372036854775808)<=x.wN/\x.wN<9223372036854775808)
 wQ:(0<=x.wQ/\x.wQ<18446744073709551616)
 wm:((-9223372036854775808)<=x.wm/\x.wm<9223372036854775808)
 wc:((-9223372036854775808)<=x.wc/\x.wc<9223372036854775808)
 wAJ:(0<=x.wAJ/\x.wAJ<18446744073709551616)
theorem op3 {H:Type} {k:Nat} {ds:List D} {d:DataW H} (h:RelH Tryz.prog (k+1) 3 ds d):∃x:Int,ds=[D.int .i64 x]/\((-9223372036854775808)<=x/\x<9223372036854775808):=by
 obtain⟨i,rfl,_,w⟩:=kan (q:= .i64) (show Tryz.prog.underlying 3=some (.int .i64)by kernel_rfl) h
 exact⟨i,rfl,wf_i64 w⟩
structure kdb (x:wAb):Prop where
 wAp:((-9223372036854775808)<=x.wAp/\x.wAp<9223372036854775808)
 wAf:((-9223372036854775808)<=x.wAf/\x.wAf<9223372036854775808)
 wAq:((-9223372036854775808)<=x.wAq/\x.wAq<9223372036854775808)
theorem op23 {H:Type} {k:Nat} {ds:List D} {d:DataW H} (h:RelH Tryz.prog (k+2) 23 ds d):∃x:wAb,ds=(encTProofParams x).cells/\kdb x:=by
 obtain⟨ps,rfl,h1⟩:=k27 (L:=[(3,0),(3,1),(3,2)]) (Tryz.underlying23) (by kernel_rfl) h
 obtain⟨_,_,_,_,g0,⟨_,_,_,_,g1,⟨_,_,_,_,g2,⟨rfl,rfl⟩,rfl,rfl⟩,rfl,rfl⟩,rfl,rfl⟩:=h1
 obtain⟨a0,rfl,r0⟩:=op3 (k:=k+0) g0
 obtain⟨a1,rfl,r1⟩:=op3 (k:=k+0) g1
 obtain⟨a2,rfl,r2⟩:=op3 (k:=k+0) g2
 exact⟨⟨a0,a1,a2⟩,rfl,⟨r0,r1,r2⟩⟩
theorem op24 {H:Type} {k:Nat} {ds:List D} {d:DataW H} (h:RelH Tryz.prog (k+1) 24 ds d):∃x:Int,ds=[D.int .u64 x]/\(0<=x/\x<18446744073709551616):=by
 obtain⟨i,rfl,_,w⟩:=kan (q:= .u64) (show Tryz.prog.underlying 24=some (.int .u64)by kernel_rfl) h
 exact⟨i,rfl,wf_u64 w⟩
theorem op26 {H:Type} {k:Nat} {ds:List D} {d:DataW H} (h:RelH Tryz.prog (k+3) 26 ds d):∃x:wJ,ds=(encTRules x).cells/\k9r x:=by
 obtain⟨ps,rfl,h1⟩:=k27 (L:=[(3,0),(3,1),(23,2),(24,5),(3,6),(3,7),(24,8)]) (Tryz.underlying26) (by kernel_rfl) h
 obtain⟨_,_,_,_,g0,⟨_,_,_,_,g1,⟨_,_,_,_,g2,⟨_,_,_,_,g3,⟨_,_,_,_,g4,⟨_,_,_,_,g5,⟨_,_,_,_,g6,⟨rfl,rfl⟩,rfl,rfl⟩,rfl,rfl⟩,rfl,rfl⟩,rfl,rfl⟩,rfl,rfl⟩,rfl,rfl⟩,rfl,rfl⟩:=h1
 obtain⟨a0,rfl,r0⟩:=op3 (k:=k+1) g0
 obtain⟨a1,rfl,r1⟩:=op3 (k:=k+1) g1
 obtain⟨a2,rfl,r2⟩:=op23 (k:=k+0) g2
 obtain⟨a3,rfl,r3⟩:=op24 (k:=k+1) g3
 obtain⟨a4,rfl,r4⟩:=op3 (k:=k+1) g4
 obtain⟨a5,rfl,r5⟩:=op3 (k:=k+1) g5
 obtain⟨a6,rfl,r6⟩:=op24 (k:=k+1) g6
 exact⟨⟨a0,a1,a2.wAp,a2.wAf,a2.wAq,a3,a4,a5,a6⟩,rfl,⟨r0,r1,r2.wAp,r2.wAf,r2.wAq,r3,r4,r5,r6⟩⟩
structure kcb (x:wAn):Prop where
 wb:(0<=x.wb/\x.wb<18446744073709551616)
 wAc:(0<=x.wAc/\x.wAc<18446744073709551616)
 wAX:(0<=x.wAX/\x.wAX<18446744073709551616)
 wAA:(x.wAA.length<=9223372036854775807/\∀y∈x.wAA,(0<=y/\y<18446744073709551616))
structure k8g (x:wl):Prop where
 wW:(0<=x.wW/\x.wW<18446744073709551616)
 wG:(x.wG.length<=9223372036854775807/\∀y∈x.wG,(0<=y/\y<18446744073709551616))
 wB:(x.wB.length<=9223372036854775807/\∀y∈x.wB,kcb y)
 wI:(0<=x.wI/\x.wI<18446744073709551616)
 wL:(0<=x.wL/\x.wL<18446744073709551616)
 Fee:(0<=x.Fee/\x.Fee<18446744073709551616)
 wP:(0<=x.wP/\x.wP<18446744073709551616)
 wX:(0<=x.wX/\x.wX<18446744073709551616)
 wAZ:((-9223372036854775808)<=x.wAZ/\x.wAZ<9223372036854775808)
 wAH:(x.wAH.length<=9223372036854775807/\∀y∈x.wAH,(0<=y/\y<256))
structure k3q (x:wT):Prop where
 wAx:(0<=x.wAx/\x.wAx<18446744073709551616)
 wY:((-9223372036854775808)<=x.wY/\x.wY<9223372036854775808)
 wAo:(0<=x.wAo/\x.wAo<18446744073709551616)
 wAJ:(0<=x.wAJ/\x.wAJ<18446744073709551616)
 wX:(0<=x.wX/\x.wX<18446744073709551616)
 Txs:(x.Txs.length<=9223372036854775807/\∀y∈x.Txs,k8g y)
theorem op30 {H:Type} {k:Nat} {ds:List D} {d:DataW H} (h:RelH Tryz.prog (k+2) 30 ds d):∃x:List Int,ds=[D.slice 1 (x.map (D.int .u64))]/\(x.length<=9223372036854775807/\∀y∈x,(0<=y/\y<18446744073709551616)):=by
 obtain⟨l,rfl,hm,hl⟩:=k2j (D.int .u64) (fun(y:Int)=>(0<=y/\y<18446744073709551616)) 1 (show Tryz.prog.underlying 30=some (.slice 24)by kernel_rfl) (by kernel_rfl) h (fun x y hh=>by
  obtain⟨a,e,ha⟩:=op24 (k:=k+0) hh
  exact⟨a,mk_one (by kernel_rfl) e,ha⟩)
 exact⟨l,rfl,⟨hm,hl⟩⟩
structure kmz (x:wAF):Prop where
 a0:(0<=x.a0/\x.a0<18446744073709551616)
 a1:(0<=x.a1/\x.a1<18446744073709551616)
theorem op106 {H:Type} {k:Nat} {ds:List D} {d:DataW H} (h:RelH Tryz.prog (k+2) 106 ds d):∃x:wAF,ds=(encTA2 x).cells/\kmz x:=by
 obtain⟨ps,rfl,h1⟩:=kje (n:=2) (e:=24) (L:=[(24,0),(24,1)]) (show Tryz.prog.underlying 106=some (.array 2 24)by kernel_rfl) (by kernel_rfl) h
 obtain⟨_,_,_,_,g0,⟨_,_,_,_,g1,⟨rfl,rfl⟩,rfl,rfl⟩,rfl,rfl⟩:=h1
 obtain⟨a0,rfl,r0⟩:=op24 (k:=k+0) g0
 obtain⟨a1,rfl,r1⟩:=op24 (k:=k+0) g1
 exact⟨⟨a0,a1⟩,rfl,⟨r0,r1⟩⟩
theorem op108 {H:Type} {k:Nat} {ds:List D} {d:DataW H} (h:RelH Tryz.prog (k+3) 108 ds d):∃x:wAn,ds=(encTOut x).cells/\kcb x:=by
 obtain⟨ps,rfl,h1⟩:=k27 (L:=[(24,0),(106,1),(30,3)]) (Tryz.underlying108) (by kernel_rfl) h
 obtain⟨_,_,_,_,g0,⟨_,_,_,_,g1,⟨_,_,_,_,g2,⟨rfl,rfl⟩,rfl,rfl⟩,rfl,rfl⟩,rfl,rfl⟩:=h1
 obtain⟨a0,rfl,r0⟩:=op24 (k:=k+1) g0
 obtain⟨a1,rfl,r1⟩:=op106 (k:=k+0) g1
 obtain⟨a2,rfl,r2⟩:=op30 (k:=k+0) g2
 exact⟨⟨a0,a1.a0,a1.a1,a2⟩,rfl,⟨r0,r1.a0,r1.a1,r2⟩⟩
theorem op64 {H:Type} {k:Nat} {ds:List D} {d:DataW H} (h:RelH Tryz.prog (k+4) 64 ds d):∃x:List wAn,ds=[D.slice 4 (x.map encTOut)]/\(x.length<=9223372036854775807/\∀y∈x,kcb y):=by
 obtain⟨l,rfl,hm,hl⟩:=k2j encTOut (fun(y:wAn)=>kcb y) 4 (show Tryz.prog.underlying 64=some (.slice 108)by kernel_rfl) (by kernel_rfl) h (fun x y hh=>by
  obtain⟨a,e,ha⟩:=op108 (k:=k+0) hh
  exact⟨a,mk_agg (by kernel_rfl) e,ha⟩)
 exact⟨l,rfl,⟨hm,hl⟩⟩
theorem op5 {H:Type} {k:Nat} {ds:List D} {d:DataW H} (h:RelH Tryz.prog (k+1) 5 ds d):∃x:Int,ds=[D.int .u8 x]/\(0<=x/\x<256):=by
 obtain⟨i,rfl,_,w⟩:=kan (q:= .u8) (show Tryz.prog.underlying 5=some (.int .u8)by kernel_rfl) h
 exact⟨i,rfl,wf_u8 w⟩
theorem op65 {H:Type} {k:Nat} {ds:List D} {d:DataW H} (h:RelH Tryz.prog (k+2) 65 ds d):∃x:List Int,ds=[D.slice 1 (x.map (D.int .u8))]/\(x.length<=9223372036854775807/\∀y∈x,(0<=y/\y<256)):=by
 obtain⟨l,rfl,hm,hl⟩:=k2j (D.int .u8) (fun(y:Int)=>(0<=y/\y<256)) 1 (show Tryz.prog.underlying 65=some (.slice 5)by kernel_rfl) (by kernel_rfl) h (fun x y hh=>by
  obtain⟨a,e,ha⟩:=op5 (k:=k+0) hh
  exact⟨a,mk_one (by kernel_rfl) e,ha⟩)
 exact⟨l,rfl,⟨hm,hl⟩⟩
theorem op67 {H:Type} {k:Nat} {ds:List D} {d:DataW H} (h:RelH Tryz.prog (k+5) 67 ds d):∃x:wl,ds=(encTTx x).cells/\k8g x:=by
 obtain⟨ps,rfl,h1⟩:=k27 (L:=[(24,0),(30,1),(64,2),(24,3),(24,4),(24,5),(24,6),(24,7),(3,8),(65,9)]) (Tryz.underlying67) (by kernel_rfl) h
 obtain⟨_,_,_,_,g0,⟨_,_,_,_,g1,⟨_,_,_,_,g2,⟨_,_,_,_,g3,⟨_,_,_,_,g4,⟨_,_,_,_,g5,⟨_,_,_,_,g6,⟨_,_,_,_,g7,⟨_,_,_,_,g8,⟨_,_,_,_,g9,⟨rfl,rfl⟩,rfl,rfl⟩,rfl,rfl⟩,rfl,rfl⟩,rfl,rfl⟩,rfl,rfl⟩,rfl,rfl⟩,rfl,rfl⟩,rfl,rfl⟩,rfl,rfl⟩,rfl,rfl⟩:=h1
 obtain⟨a0,rfl,r0⟩:=op24 (k:=k+3) g0
 obtain⟨a1,rfl,r1⟩:=op30 (k:=k+2) g1
 obtain⟨a2,rfl,r2⟩:=op64 (k:=k+0) g2
 obtain⟨a3,rfl,r3⟩:=op24 (k:=k+3) g3
 obtain⟨a4,rfl,r4⟩:=op24 (k:=k+3) g4
 obtain⟨a5,rfl,r5⟩:=op24 (k:=k+3) g5
 obtain⟨a6,rfl,r6⟩:=op24 (k:=k+3) g6
 obtain⟨a7,rfl,r7⟩:=op24 (k:=k+3) g7
 obtain⟨a8,rfl,r8⟩:=op3 (k:=k+3) g8
 obtain⟨a9,rfl,r9⟩:=op65 (k:=k+2) g9
 exact⟨⟨a0,a1,a2,a3,a4,a5,a6,a7,a8,a9⟩,rfl,⟨r0,r1,r2,r3,r4,r5,r6,r7,r8,r9⟩⟩
theorem op60 {H:Type} {k:Nat} {ds:List D} {d:DataW H} (h:RelH Tryz.prog (k+6) 60 ds d):∃x:List wl,ds=[D.slice 10 (x.map encTTx)]/\(x.length<=9223372036854775807/\∀y∈x,k8g y):=by
 obtain⟨l,rfl,hm,hl⟩:=k2j encTTx (fun(y:wl)=>k8g y) 10 (show Tryz.prog.underlying 60=some (.slice 67)by kernel_rfl) (by kernel_rfl) h (fun x y hh=>by
  obtain⟨a,e,ha⟩:=op67 (k:=k+0) hh
  exact⟨a,mk_agg (by kernel_rfl) e,ha⟩)
 exact⟨l,rfl,⟨hm,hl⟩⟩
theorem op62 {H:Type} {k:Nat} {ds:List D} {d:DataW H} (h:RelH Tryz.prog (k+7) 62 ds d):∃x:wT,ds=(encTBlock x).cells/\k3q x:=by
 obtain⟨ps,rfl,h1⟩:=k27 (L:=[(24,0),(3,1),(24,2),(24,3),(24,4),(60,5)]) (Tryz.underlying62) (by kernel_rfl) h
 obtain⟨_,_,_,_,g0,⟨_,_,_,_,g1,⟨_,_,_,_,g2,⟨_,_,_,_,g3,⟨_,_,_,_,g4,⟨_,_,_,_,g5,⟨rfl,rfl⟩,rfl,rfl⟩,rfl,rfl⟩,rfl,rfl⟩,rfl,rfl⟩,rfl,rfl⟩,rfl,rfl⟩:=h1
 obtain⟨a0,rfl,r0⟩:=op24 (k:=k+5) g0
 obtain⟨a1,rfl,r1⟩:=op3 (k:=k+5) g1
 obtain⟨a2,rfl,r2⟩:=op24 (k:=k+5) g2
 obtain⟨a3,rfl,r3⟩:=op24 (k:=k+5) g3
 obtain⟨a4,rfl,r4⟩:=op24 (k:=k+5) g4
 obtain⟨a5,rfl,r5⟩:=op60 (k:=k+0) g5
 exact⟨⟨a0,a1,a2,a3,a4,a5⟩,rfl,⟨r0,r1,r2,r3,r4,r5⟩⟩
theorem op27 {H:Type} {k:Nat} {ds:List D} {d:DataW H} (h:RelH Tryz.prog (k+8) 27 ds d):∃x:List wT,ds=[D.slice 6 (x.map encTBlock)]/\(x.length<=9223372036854775807/\∀y∈x,k3q y):=by
 obtain⟨l,rfl,hm,hl⟩:=k2j encTBlock (fun(y:wT)=>k3q y) 6 (show Tryz.prog.underlying 27=some (.slice 62)by kernel_rfl) (by kernel_rfl) h (fun x y hh=>by
  obtain⟨a,e,ha⟩:=op62 (k:=k+0) hh
  exact⟨a,mk_agg (by kernel_rfl) e,ha⟩)
 exact⟨l,rfl,⟨hm,hl⟩⟩
theorem dt26:dataT Tryz.prog 3 26=true:=by kernel_rfl
theorem dt27:dataT Tryz.prog 8 27=true:=by kernel_rfl
theorem own:ownKnob Tryz.prog.godebug=none:=by kernel_rfl
theorem laid:laidOutB Tryz.prog=true:=by kernel_rfl
end Go.Proofs.YtijdfglbhaedoaaGreat
namespace Go.Md
open Go Go.Bv
theorem u64w (n:Int):IntKind.u64.wrap n=n%18446744073709551616:=IntKind.wrap_u64 n
theorem u8w (n:Int):IntKind.u8.wrap n=n%256:=IntKind.wrap_u8 n
theorem k1n (k:IntKind) (a b:Int):ishr k a b=a/((2^min b.toNat k.bits:Nat):Int):=by
 unfold ishr
 rw[show(2:Int)^min b.toNat k.bits=((2^min b.toNat k.bits:Nat):Int)from(Int.natCast_pow 2 _).symm,Int.fdiv_eq_ediv_of_nonneg _ (Int.natCast_nonneg _)]
theorem kgf (a b:Int):ishl .u64 a b=(a*((2^min b.toNat 64:Nat):Int))%18446744073709551616:=by
 unfold ishl
 rw[u64w,show(2:Int)^min b.toNat IntKind.u64.bits=((2^min b.toNat 64:Nat):Int)by rw[show IntKind.u64.bits=64 from rfl];exact(Int.natCast_pow 2 _).symm]
theorem k2g (n:Nat) (h:n<18446744073709551616):(BitVec.ofInt 64 (n:Int)).toNat=n:=by
 rw[BitVec.toNat_ofInt]
 omega
theorem khv (a b:Nat) (ha:a<18446744073709551616) (hb:b<18446744073709551616):iand .u64 a b=((a&&&b:Nat):Int):=by
 unfold iand
 rw[u64w]
 show(((BitVec.ofInt 64 a&&&BitVec.ofInt 64 b).toNat:Nat):Int)%_=_
 rw[BitVec.toNat_and,k2g a ha,k2g b hb]
 have:=Nat.and_le_left (n:=a) (m:=b)
 omega
theorem ior_nat (a b:Nat) (ha:a<18446744073709551616) (hb:b<18446744073709551616):ior .u64 a b=((a|||b:Nat):Int):=by
 unfold ior
 rw[u64w]
 show(((BitVec.ofInt 64 a|||BitVec.ofInt 64 b).toNat:Nat):Int)%_=_
 rw[BitVec.toNat_or,k2g a ha,k2g b hb]
 have:=Nat.or_lt_two_pow (x:=a) (y:=b) (n:=64) (by omega) (by omega)
 omega
theorem k25 (a:Int) (h:0<=a/\a<18446744073709551616):iand .u64 a 4294967295=a%4294967296:=by
 obtain⟨n,rfl⟩:=Int.eq_ofNat_of_zero_le h.1
 have:=khv n 4294967295 (by omega) (by omega)
 rw[show((4294967295:Nat):Int)=4294967295 from rfl]at this
 rw[this,show(4294967295:Nat)=2^32-1 from rfl,Nat.and_two_pow_sub_one_eq_mod]
 exact Int.natCast_emod _ _
theorem kll (a:Int) (h:0<=a/\a<18446744073709551616):iand .u64 a 1=a%2:=by
 obtain⟨n,rfl⟩:=Int.eq_ofNat_of_zero_le h.1
 have:=khv n 1 (by omega) (by omega)
 rw[show((1:Nat):Int)=1 from rfl]at this
 rw[this,Nat.and_one_is_mod]
 exact Int.natCast_emod _ _
theorem ior_add (a c k:Nat) (ha:a<2^k) (h:a+2^k*c<18446744073709551616):ior .u64 a ((2^k*c:Nat):Int)=((a+2^k*c:Nat):Int):=by
 rw[ior_nat _ _ (by omega) (by omega),Nat.or_comm,<-Nat.two_pow_add_eq_or_of_lt ha,Nat.add_comm]
theorem ior_add' (a c k:Nat) (ha:a<2^k) (h:a+2^k*c<18446744073709551616):ior .u64 ((2^k*c:Nat):Int) a=((a+2^k*c:Nat):Int):=by
 rw[ior_nat _ _ (by omega) (by omega),<-Nat.two_pow_add_eq_or_of_lt ha,Nat.add_comm]
theorem ishr32 (a:Int):ishr .u64 a 32=a/4294967296:=k1n _ _ _
theorem ishr16 (a:Int):ishr .u64 a 16=a/65536:=k1n _ _ _
theorem ishr8 (a:Int):ishr .u64 a 8=a/256:=k1n _ _ _
theorem ishr1 (a:Int):ishr .u64 a 1=a/2:=k1n _ _ _
theorem klo (a b:Int) (ha:0<=a/\a<18446744073709551616) (hb:0<=b/\b<18446744073709551616):
  ((a/4294967296*(b/4294967296)+((a/4294967296*(b%4294967296)+a%4294967296*(b%4294967296)/4294967296)/4294967296))+((a/4294967296*(b%4294967296)+a%4294967296*(b%4294967296)/4294967296)%4294967296+a%4294967296*(b/4294967296))/4294967296)=a*b/18446744073709551616/\
  a%4294967296*(b%4294967296)<18446744073709551616/\a/4294967296*(b%4294967296)+a%4294967296*(b%4294967296)/4294967296<18446744073709551616/\
  a%4294967296*(b/4294967296)<18446744073709551616-4294967296/\a/4294967296*(b/4294967296)<18446744065119617026/\0<=a%4294967296*(b%4294967296)/\0<=a/4294967296*(b%4294967296)/\0<=a%4294967296*(b/4294967296)/\0<=a/4294967296*(b/4294967296):=by
 have h1:∀x y:Int,0<=x->x<=4294967295->0<=y->y<=4294967295->0<=x*y/\x*y<=18446744065119617025:=by
  intro x y h0 h1 h2 h3
  exact⟨Int.mul_nonneg h0 h2,by have:=Int.mul_le_mul h1 h3 h2 (by omega);omega⟩
 have a1:=h1 (a%4294967296) (b%4294967296) (by omega) (by omega) (by omega) (by omega)
 have a2:=h1 (a/4294967296) (b%4294967296) (by omega) (by omega) (by omega) (by omega)
 have a3:=h1 (a%4294967296) (b/4294967296) (by omega) (by omega) (by omega) (by omega)
 have a4:=h1 (a/4294967296) (b/4294967296) (by omega) (by omega) (by omega) (by omega)
 have e:a*b=a/4294967296*(b/4294967296)*18446744073709551616+(a/4294967296*(b%4294967296)+a%4294967296*(b/4294967296))*4294967296+a%4294967296*(b%4294967296):=by
  have ea:a=a/4294967296*4294967296+a%4294967296:=by omega
  have eb:b=b/4294967296*4294967296+b%4294967296:=by omega
  conv=>lhs;rw[ea,eb]
  generalize a/4294967296=x
  generalize a%4294967296=y
  generalize b/4294967296=z
  generalize b%4294967296=t
  grind
 generalize a%4294967296*(b%4294967296)=p0 at *
 generalize a/4294967296*(b%4294967296)=p1 at *
 generalize a%4294967296*(b/4294967296)=p2 at *
 generalize a/4294967296*(b/4294967296)=p3 at *
 generalize a*b=ab at *
 refine⟨?_,?_,?_,?_,?_,?_,?_,?_,?_⟩<;>omega
structure Half (U x a b Q:Int):Prop where
 hU:0<=U
 hUv:U<a*4294967296+b
 hx:0<=x/\x<4294967296
 ha:2147483648<=a/\a<4294967296
 hb:0<=b/\b<4294967296
 hQ:Q=(U*4294967296+x)/(a*4294967296+b)
theorem Half.q {U x a b Q:Int} (h:Half U x a b Q):0<=Q/\Q<4294967296/\Q*(a*4294967296+b)<=U*4294967296+x/\U*4294967296+x<(Q+1)*(a*4294967296+b):=by
 obtain⟨h1,h2,h3,h4,h5,h6⟩:=h
 have hv:0<a*4294967296+b:=by omega
 have e:=Int.emod_add_mul_ediv (U*4294967296+x) (a*4294967296+b)
 have l:=Int.emod_nonneg (U*4294967296+x) (by omega:a*4294967296+b≠0)
 have r:=Int.emod_lt_of_pos (U*4294967296+x) hv
 rw[<-h6]at e
 generalize hvv:a*4294967296+b=v at *
 have e2:(Q+1)*v=Q*v+v:=by grind
 have e3:v*Q=Q*v:=by grind
 have q0:0<=Q:=by
  rw[h6]
  exact Int.ediv_nonneg (by omega) (by omega)
 have q1:Q<4294967296:=by
  rw[h6]
  exact Int.ediv_lt_of_lt_mul hv (by omega)
 refine⟨q0,q1,by omega,by omega⟩
theorem Half.exit {U x a b Q q r:Int} (h:Half U x a b Q) (e:q*a+r=U) (hq:Q<=q) (h2:q*b<=r*4294967296+x):q=Q:=by
 obtain⟨q0,q1,q2,q3⟩:=h.q
 have h4:=h.ha
 have:q*(a*4294967296+b)<=U*4294967296+x:=by
  have:q*(a*4294967296+b)=q*a*4294967296+q*b:=by grind
  rw[this]
  generalize q*a=qa at *
  omega
 have h5:q<Q+1:=by
  have hv:0<a*4294967296+b:=by have:=h.hb;omega
  exact Int.lt_of_mul_lt_mul_right (by omega) (Int.le_of_lt hv)
 omega
theorem Half.down {U x a b Q q r:Int} (h:Half U x a b Q) (e:q*a+r=U) (h2:4294967296<=q∨r*4294967296+x<q*b):Q<=q-1:=by
 obtain⟨q0,q1,q2,q3⟩:=h.q
 rcases h2 with h2|h2
 ·omega
 ·have:U*4294967296+x<q*(a*4294967296+b):=by
   have:q*(a*4294967296+b)=q*a*4294967296+q*b:=by grind
   rw[this]
   generalize q*a=qa at *
   omega
  have h5:Q<q:=by
   have hv:0<a*4294967296+b:=by have:=h.hb;have:=h.ha;omega
   exact Int.lt_of_mul_lt_mul_right (a:=a*4294967296+b) (by omega) (Int.le_of_lt hv)
  omega
theorem Half.small {U x a b Q q r:Int} (h:Half U x a b Q) (e:q*a+r=U) (hr:4294967296<=r):q<4294967296:=by
 have h2:=h.hUv
 have h4:=h.ha
 have h5:=h.hb
 have:q*a<4294967296*a:=by generalize q*a=qa at *;omega
 exact Int.lt_of_mul_lt_mul_right this (by omega)
theorem Half.done {U x a b Q q r:Int} (h:Half U x a b Q) (e:q*a+r=U) (hq:Q<=q) (hr:4294967296<=r):q=Q:=by
 refine h.exit e hq ?_
 have h1:=h.small e hr
 obtain⟨q0,_⟩:=h.q
 have h5:=h.hb
 have h6:=h.hx
 have:q*b<=4294967296*4294967296:=Int.mul_le_mul (by omega) (by omega) (by omega) (by omega)
 omega
theorem Half.rest {U x a b Q:Int} (h:Half U x a b Q):(U*4294967296+x)-Q*(a*4294967296+b)=(U*4294967296+x)%(a*4294967296+b)/\0<=(U*4294967296+x)%(a*4294967296+b)/\(U*4294967296+x)%(a*4294967296+b)<a*4294967296+b:=by
 have hv:0<a*4294967296+b:=by have:=h.hb;have:=h.ha;omega
 have e:=Int.emod_add_mul_ediv (U*4294967296+x) (a*4294967296+b)
 rw[<-h.hQ]at e
 have:=Int.mul_comm (a*4294967296+b) Q
 exact⟨by omega,Int.emod_nonneg _ (by omega),Int.emod_lt_of_pos _ hv⟩
theorem kj4 {N y p U un1 un0 Q1 R1 Q0 R0:Int} (hp:0<p) (hy:0<y) (hN:N*p=U*18446744073709551616+un1*4294967296+un0) (h1:U*4294967296+un1-Q1*(y*p)=R1) (h0:R1*4294967296+un0-Q0*(y*p)=R0)
  (hr:0<=R0/\R0<y*p):Q1*4294967296+Q0=N/y/\R0/p=N%y:=by
 have e:N*p=(Q1*4294967296+Q0)*(y*p)+R0:=by
  rw[hN]
  have:(Q1*4294967296+Q0)*(y*p)=Q1*(y*p)*4294967296+Q0*(y*p):=by grind
  rw[this]
  generalize Q1*(y*p)=a at *
  generalize Q0*(y*p)=b at *
  omega
 have e2:R0=(N-(Q1*4294967296+Q0)*y)*p:=by grind
 have h3:0<=N-(Q1*4294967296+Q0)*y:=by
  rcases Int.lt_or_le (N-(Q1*4294967296+Q0)*y) 0 with h|h
  ·exfalso
   have:(N-(Q1*4294967296+Q0)*y)*p<0:=Int.mul_neg_of_neg_of_pos h hp
   omega
  ·exact h
 have h4:N-(Q1*4294967296+Q0)*y<y:=by
  refine Int.lt_of_mul_lt_mul_right (a:=p) ?_ (Int.le_of_lt hp)
  omega
 have e3:N=(N-(Q1*4294967296+Q0)*y)+y*(Q1*4294967296+Q0):=by grind
 constructor
 ·conv=>rhs;rw[e3]
  rw[Int.add_mul_ediv_left _ _ (by omega),Int.ediv_eq_zero_of_lt h3 h4]
  omega
 ·rw[e2,Int.mul_ediv_cancel _ (by omega)]
  conv=>rhs;rw[e3]
  rw[Int.add_mul_emod_self_left,Int.emod_eq_of_lt h3 h4]
end Go.Md
namespace Go.Md
open Go Go.Bv
theorem ix_nat {α:Type} [Inhabited α] (l:List α) (i:Int) (h0:0<=i) (h1:i<(l.length:Int)):ix l i=l[i.toNat]'(by omega):=by
 have:i.toNat<l.length:=by omega
 simp[ix,this]
theorem ix_mem {α:Type} [Inhabited α] (l:List α) (i:Int) (h0:0<=i) (h1:i<(l.length:Int)):ix l i∈l:=by
 rw[ix_nat l i h0 h1];exact List.getElem_mem _
theorem inc (i n:Int) (h0:0<=i) (h:i<n) (hn:n<=9223372036854775807):IntKind.i64.wrap (i+1)=i+1:=k15 _ (by omega) (by omega)
theorem wi (n:Int) (h0: -9223372036854775808<=n) (h:n<=9223372036854775807):IntKind.i64.wrap n=n:=k15 n h0 (by omega)
theorem wu (n:Int) (h0:0<=n) (h:n<=18446744073709551615):IntKind.u64.wrap n=n:=wrap_u64 n h0 (by omega)
theorem tdiv_nn (a b:Int) (h:0<=a):Int.tdiv a b=a/b:=Int.tdiv_eq_ediv_of_nonneg h
theorem tmod_nn (a b:Int) (h:0<=a):Int.tmod a b=a%b:=Int.tmod_eq_emod_of_nonneg h
theorem kg {α:Type} [Inhabited α] (l:List α) (i:Int) (h0:0<=i) (h1:i<(l.length:Int)):l.take (i+1).toNat=l.take i.toNat++[ix l i]:=by
 rw[ix_nat l i h0 h1,show(i+1).toNat=i.toNat+1 by omega,List.take_succ_eq_append_getElem (by omega)]
theorem drop_ix {α:Type} [Inhabited α] (l:List α) (i:Int) (h0:0<=i) (h1:i<(l.length:Int)):l.drop i.toNat=ix l i::l.drop (i+1).toNat:=by
 rw[ix_nat l i h0 h1,show(i+1).toNat=i.toNat+1 by omega]
 exact List.drop_eq_getElem_cons (by omega)
theorem k9j {α:Type} (l m:List α) (h:l.length=m.length):rowOver l m l.length=m:=by
 simp[rowOver,h]
theorem kgn (a m:Int):∀k:Nat,(a%m)^k%m=a^k%m
 |0=>by simp
 |k+1=>by rw[Int.pow_succ,Int.pow_succ,Int.mul_emod,kgn a m k,Int.emod_emod_of_dvd _ (Int.dvd_refl _),<-Int.mul_emod]
abbrev U64 (n:Int):Prop:=0<=n/\n<18446744073709551616
abbrev By (l:List Int):Prop:=∀x∈l,0<=x/\x<256
abbrev Us (l:List Int):Prop:=∀x∈l,0<=x/\x<18446744073709551616
def dig:Nat->Int->List Int
 |0,_=>[]
 |k+1,n=>n%256::dig k (n/256)
def val:List Int->Int
 |[]=>0
 |x::r=>x+256*val r
@[simp] theorem ko:∀(k:Nat) (n:Int),(dig k n).length=k
 |0,_=>rfl
 |k+1,n=>by simp[dig,ko k]
theorem k26 (k:Nat):(256:Int)^(k+1)=256*256^k:=by rw[Int.pow_succ,Int.mul_comm]
theorem k22 (k:Nat):(0:Int)<256^k:=Int.pow_pos (by omega)
theorem kaj:∀(k:Nat) (n:Int),dig (k+1) n=dig k n++[n/256^k%256]
 |0,n=>by simp[dig]
 |k+1,n=>by
  show n%256::dig (k+1) (n/256)=n%256::dig k (n/256)++_
  rw[kaj k (n/256),k26,Int.ediv_ediv_of_nonneg (by omega)]
  rfl
theorem dig_by:∀(k:Nat) (n:Int),By (dig k n)
 |0,_=>by intro x hx;cases hx
 |k+1,n=>by
  intro x hx
  rcases List.mem_cons.1 hx with rfl|hx
  ·omega
  ·exact dig_by k _ x hx
theorem val_dig:∀(k:Nat) (n:Int),0<=n->n<256^k->val (dig k n)=n
 |0,n,h0,h=>by simp at h;simp[dig,val];omega
 |k+1,n,h0,h=>by
  rw[k26]at h
  simp only[dig,val]
  rw[val_dig k (n/256) (by omega) (Int.ediv_lt_of_lt_mul (by omega) (by rw[Int.mul_comm];exact h))]
  omega
theorem k2z (k:Nat):(256:Int)^k=((2^(8*k):Nat):Int):=by rw[Nat.pow_mul,Int.natCast_pow];rfl
theorem k7x {k m:Nat} (h:k<=m):(256:Int)^k<=256^m:=by
 rw[k2z,k2z]
 exact Int.ofNat_le.2 (Nat.pow_le_pow_right (by omega) (by omega))
theorem k37:∀(l:List Int),By l->0<=val l/\val l<256^l.length
 |[],_=>by simp[val]
 |x::r,h=>by
  have h1:=k37 r (fun y hy=>h y (by simp[hy]))
  have h2:=h x (by simp)
  rw[List.length_cons,k26]
  simp only[val]
  omega
theorem dig_val:∀(l:List Int),By l->dig l.length (val l)=l
 |[],_=>rfl
 |x::r,h=>by
  have h1:=dig_val r (fun y hy=>h y (by simp[hy]))
  have h2:=h x (by simp)
  simp only[List.length_cons,dig,val]
  rw[show(x+256*val r)%256=x by omega,show(x+256*val r)/256=val r by omega,h1]
theorem kfv:∀(l:List Int) (x:Int),val (l++[x])=val l+256^l.length*x
 |[],x=>by simp[val]
 |y::r,x=>by
  simp only[List.cons_append,val,kfv r x,List.length_cons,k26]
  grind
theorem val8 (l:List Int) (h:By l) (hl:l.length<=8):U64 (val l):=by
 have h1:=k37 l h
 have:(256:Int)^l.length<=256^8:=k7x hl
 exact⟨h1.1,by omega⟩
theorem ior_val (l:List Int) (x:Int) (hl:By l) (h8:l.length<8) (hx:0<=x/\x<256):ior .u64 (val l) (ishl .u64 x (8*(l.length:Int)))=val (l++[x]):=by
 have h1:=k37 l hl
 rw[kfv,kgf,show min (8*(l.length:Int)).toNat 64=8*l.length by omega,<-k2z]
 have h2:x*256^l.length+256^l.length<=256*256^l.length:=by
  have:=k22 l.length
  have:(x+1)*256^l.length<=256*256^l.length:=Int.mul_le_mul_of_nonneg_right (by omega) (by omega)
  grind
 have h3:(256:Int)*256^l.length<=256^8:=by rw[<-k26];exact k7x (by omega)
 have h4:0<=x*256^l.length:=Int.mul_nonneg hx.1 (Int.le_of_lt (k22 _))
 rw[Int.emod_eq_of_lt h4 (by omega)]
 obtain⟨a,ha⟩:=Int.eq_ofNat_of_zero_le h1.1
 obtain⟨c,hc⟩:=Int.eq_ofNat_of_zero_le hx.1
 have key:=ior_add a c (8*l.length)
 rw[k2z]at h1 h2 h3 h4 ⊢
 generalize 2^(8*l.length)=P at *
 rw[ha]at h1
 rw[hc]at h2 h4
 have e:(c:Int)*(P:Int)=((P*c:Nat):Int):=by rw[Nat.mul_comm];exact(Int.natCast_mul _ _).symm
 have e' :(P:Int)*(c:Int)=((P*c:Nat):Int):=(Int.natCast_mul _ _).symm
 rw[e]at h2 h4
 rw[ha,hc,e,e']
 generalize P*c=R at *
 rw[key (by omega) (by omega)]
 exact Int.natCast_add _ _
def len4 (n:Int):Int:=if n<0∨4294967295<n then 0 else n
theorem len4_in {n:Int} (h:0<=n/\n<=4294967295):len4 n=n:=if_neg (by omega)
def encL (l:List Int):List Int:=dig 4 (len4 l.length)++l.flatMap (dig 8)
def encB (l:List Int):List Int:=dig 4 (len4 l.length)++l
theorem k3t (l:List Int):(l.flatMap (dig 8)).length=8*l.length:=by
 induction l with
 |nil=>rfl
 |cons x r ih=>rw[List.flatMap_cons,List.length_append,ih,ko,List.length_cons];omega
@[simp] theorem k1s (l:List Int):(encL l).length=4+8*l.length:=by rw[encL,List.length_append,k3t,ko]
@[simp] theorem ki5 (l:List Int):(encB l).length=4+l.length:=by simp[encB]
theorem By.append {a b:List Int} (ha:By a) (hb:By b):By (a++b):=fun x hx=>(List.mem_append.1 hx).elim (ha x) (hb x)
theorem km2 (l:List Int):By (l.flatMap (dig 8)):=fun x hx=>by
 obtain⟨y,_,hy⟩:=List.mem_flatMap.1 hx
 exact dig_by 8 y x hy
theorem encL_by (l:List Int):By (encL l):=(dig_by _ _).append (km2 l)
theorem encB_by {l:List Int} (h:By l):By (encB l):=(dig_by _ _).append h
theorem By.take {l:List Int} (h:By l) (n:Nat):By (l.take n):=fun x hx=>h x (List.mem_of_mem_take hx)
theorem By.drop {l:List Int} (h:By l) (n:Nat):By (l.drop n):=fun x hx=>h x (List.mem_of_mem_drop hx)
theorem By.us {l:List Int} (h:By l):Us l:=fun x hx=>by have:=h x hx;omega
def packN:Nat->List Int->List Int
 |0,_=>[]
 |n+1,l=>match l with
  |[]=>[]
  |x::r=>val ((x::r).take 7)::packN n ((x::r).drop 7)
def packS (l:List Int):List Int:=(l.length:Int)::packN l.length l
theorem kci:∀(n m:Nat) (l:List Int),l.length<=n->l.length<=m->packN n l=packN m l
 |0,0,_,_,_=>rfl
 |0,m+1,[],_,_=>rfl
 |n+1,0,[],_,_=>rfl
 |n+1,m+1,[],_,_=>rfl
 |0,_,_::_,h,_=>by simp at h
 |n+1,0,_::_,_,h=>by simp at h
 |n+1,m+1,x::r,h,h' =>by
  simp only[packN]
  rw[kci n m _ (by simp at h ⊢;omega) (by simp at h' ⊢;omega)]
theorem kji (n:Nat) (l:List Int) (h:l.length<=n) (h0:l≠[]):packN n l=val (l.take 7)::packN n (l.drop 7):=by
 cases l with
 |nil=>exact absurd rfl h0
 |cons x r=>
  cases n with
  |zero=>simp at h
  |succ n=>
   show val ((x::r).take 7)::packN n ((x::r).drop 7)=_
   rw[kci n (n+1) _ (by simp at h ⊢;omega) (by simp at h ⊢;omega)]
theorem kh1:∀(n:Nat) (l:List Int),By l->Us (packN n l)
 |0,_,_=>by intro x hx;cases hx
 |n+1,[],_=>by intro x hx;cases hx
 |n+1,x::r,h=>by
  intro y hy
  rcases List.mem_cons.1 hy with rfl|hy
  ·exact val8 _ (h.take 7) (by simp;omega)
  ·exact kh1 n _ (h.drop 7) y hy
theorem k7t:∀(n:Nat) (l:List Int),(packN n l).length<=n
 |0,_=>by simp[packN]
 |n+1,[]=>by simp[packN]
 |n+1,x::r=>by simp only[packN,List.length_cons];have:=k7t n ((x::r).drop 7);omega
end Go.Md
namespace Go.Md
open Go Go.Bv
def len64 (x:Int):Int:=if x=0 then 0 else(Nat.log2 x.toNat+1:Nat)
theorem k4w (x:Int) (k:Nat) (h:((2^k:Nat):Int)<=x):len64 (x/((2^k:Nat):Int))+k=len64 x:=by
 obtain⟨n,rfl⟩:=Int.eq_ofNat_of_zero_le (by have:=Nat.two_pow_pos k;omega:0<=x)
 have hp:0<2^k:=Nat.two_pow_pos k
 have hn:2^k<=n:=by omega
 have e:((n:Int)/((2^k:Nat):Int))=((n/2^k:Nat):Int):=(Int.natCast_ediv _ _).symm
 have h1:0<n/2^k:=Nat.div_pos hn hp
 unfold len64
 rw[e,if_neg (by omega),if_neg (by omega),Int.toNat_natCast,Int.toNat_natCast]
 have:Nat.log2 n=Nat.log2 (n/2^k)+k:=by
  rw[Nat.log2_eq_iff (by omega)]
  have a:=Nat.log2_self_le (n:=n/2^k) (by omega)
  have b:=Nat.lt_log2_self (n:=n/2^k)
  rw[Nat.le_div_iff_mul_le hp]at a
  rw[Nat.div_lt_iff_lt_mul hp]at b
  constructor
  ·rw[Nat.pow_add];exact a
  ·rw[show Nat.log2 (n/2^k)+k+1=Nat.log2 (n/2^k)+1+k by omega,Nat.pow_add];exact b
 omega
theorem kc7 (y:Int) (h:0<y/\y<18446744073709551616):∃s:Nat,64-len64 y=(s:Int)/\s<=63/\9223372036854775808<=y*((2^s:Nat):Int)/\y*((2^s:Nat):Int)<18446744073709551616:=by
 obtain⟨n,rfl⟩:=Int.eq_ofNat_of_zero_le (by omega:0<=y)
 have l:Nat.log2 n<64:=(Nat.log2_lt (by omega)).2 (by omega)
 have a:=Nat.log2_self_le (n:=n) (by omega)
 have b:=Nat.lt_log2_self (n:=n)
 refine⟨63-Nat.log2 n,?_,by omega,?_,?_⟩
 ·unfold len64
  rw[if_neg (by omega),Int.toNat_natCast]
  omega
 ·have:2^63<=n*2^(63-Nat.log2 n):=by
   rw[show(63:Nat)=Nat.log2 n+(63-Nat.log2 n)by omega,Nat.pow_add,show Nat.log2 n+(63-Nat.log2 n)-Nat.log2 n=63-Nat.log2 n by omega]
   exact Nat.mul_le_mul_right _ a
  rw[<-Int.natCast_mul]
  generalize n*2^(63-Nat.log2 n)=m at *
  omega
 ·have:n*2^(63-Nat.log2 n)<2^64:=by
   rw[show(64:Nat)=Nat.log2 n+1+(63-Nat.log2 n)by omega,Nat.pow_add]
   exact Nat.mul_lt_mul_of_pos_right b (Nat.two_pow_pos _)
  rw[<-Int.natCast_mul]
  generalize n*2^(63-Nat.log2 n)=m at *
  omega
def tab8:ByteArray:=⟨#[0,1,2,2,3,3,3,3,4,4,4,4,4,4,4,4,5,5,5,5,5,5,5,5,5,5,5,5,5,5,5,5,6,6,6,6,6,6,6,6,6,6,6,6,6,6,6,6,6,6,6,6,6,6,6,6,6,6,6,6,6,6,6,6,7,7,7,7,7,7,7,7,7,7,7,7,7,7,7,7,7,7,7,7,7,7,7,7,7,7,7,7,7,7,7,7,7,7,7,7,7,7,7,7,7,7,7,7,7,7,7,7,7,7,7,7,7,7,7,7,7,7,7,7,7,7,7,7,8,8,8,8,8,8,8,8,8,8,8,8,8,8,8,8,8,8,8,8,8,8,8,8,8,8,8,8,8,8,8,8,8,8,8,8,8,8,8,8,8,8,8,8,8,8,8,8,8,8,8,8,8,8,8,8,8,8,8,8,8,8,8,8,8,8,8,8,8,8,8,8,8,8,8,8,8,8,8,8,8,8,8,8,8,8,8,8,8,8,8,8,8,8,8,8,8,8,8,8,8,8,8,8,8,8,8,8,8,8,8,8,8,8,8,8,8,8,8,8,8,8,8,8,8,8,8,8]⟩
theorem kl0:∀b:Nat,b<256->Cv.byteAt tab8 (b:Int)=len64 (b:Int):=by decide +kernel
theorem kgo (x:Int) (h:0<=x/\x<256):Cv.byteAt tab8 x=len64 x:=by
 obtain⟨n,rfl⟩:=Int.eq_ofNat_of_zero_le h.1
 exact kl0 n (by omega)
theorem kim (x:Int) (h:0<=x/\x<256):0<=len64 x/\len64 x<=8:=by
 rw[<-kgo x h]
 obtain⟨n,rfl⟩:=Int.eq_ofNat_of_zero_le h.1
 have:∀b:Nat,b<256->0<=Cv.byteAt tab8 (b:Int)/\Cv.byteAt tab8 (b:Int)<=8:=by decide +kernel
 exact this n (by omega)
theorem kke:tab8.size=256:=by decide +kernel
end Go.Md
namespace Go.Md
open Go Go.Bv Go.Cv Go.Md Go.RowKit
section
variable {α β:Type}
def AllI (f:α->Bool) (l:List α) (i:Int):Prop:=0<=i/\i<=l.length/\∀x∈l.take i.toNat,f x=true
theorem AllI.start {f:α->Bool} {l:List α}:AllI f l 0:=⟨by omega,by omega,by simp⟩
theorem AllI.next [Inhabited α] {f:α->Bool} {l:List α} {i:Int} (h:AllI f l i) (hh:i<l.length) (hl:(l.length:Int)<=9223372036854775807) (hf:f (ix l i)=true):
  AllI f l (IntKind.i64.wrap (i+1))/\(l.length-IntKind.i64.wrap (i+1)).toNat<(l.length-i).toNat:=by
 obtain⟨g0,g1,g2⟩:=h
 rw[inc i l.length g0 hh hl]
 refine⟨⟨by omega,by omega,?_⟩,by omega⟩
 rw[kg l i g0 hh]
 intro x hx
 rcases List.mem_append.1 hx with hx|hx
 ·exact g2 x hx
 ·have:x=ix l i:=by simpa using hx
  rw[this];exact hf
theorem AllI.bad [Inhabited α] {f:α->Bool} {l:List α} {i:Int} (h:AllI f l i) (hh:i<l.length) (hf:f (ix l i)=false):l.all f=false:=
 List.all_eq_false.2 ⟨ix l i,Md.ix_mem l i h.1 hh,by simp[hf]⟩
theorem AllI.done {f:α->Bool} {l:List α} {i:Int} (h:AllI f l i) (hh:¬i<l.length):l.all f=true:=by
 obtain⟨g0,g1,g2⟩:=h
 rw[List.take_of_length_le (by omega)]at g2
 exact List.all_eq_true.2 g2
def FoldI (f:β->α->β) (z:β) (l:List α) (i:Int) (s:β):Prop:=0<=i/\i<=l.length/\s=(l.take i.toNat).foldl f z
theorem FoldI.start {f:β->α->β} {z:β} {l:List α}:FoldI f z l 0 z:=⟨by omega,by omega,by simp⟩
theorem FoldI.next [Inhabited α] {f:β->α->β} {z:β} {l:List α} {i:Int} {s s' :β} (h:FoldI f z l i s) (hh:i<l.length) (hl:(l.length:Int)<=9223372036854775807) (hs:s' =f s (ix l i)):
  FoldI f z l (IntKind.i64.wrap (i+1)) s'/\(l.length-IntKind.i64.wrap (i+1)).toNat<(l.length-i).toNat:=by
 obtain⟨g0,g1,g2⟩:=h
 rw[inc i l.length g0 hh hl]
 refine⟨⟨by omega,by omega,?_⟩,by omega⟩
 rw[kg l i g0 hh,List.foldl_append,<-g2,hs]
 rfl
theorem FoldI.done {f:β->α->β} {z:β} {l:List α} {i:Int} {s:β} (h:FoldI f z l i s) (hh:¬i<l.length):s=l.foldl f z:=by
 obtain⟨g0,g1,g2⟩:=h
 rwa [List.take_of_length_le (by omega)]at g2
def FlatI (f:α->List β) (z:List β) (l:List α) (i:Int) (s:List β):Prop:=0<=i/\i<=l.length/\s=z++(l.take i.toNat).flatMap f
theorem FlatI.start {f:α->List β} {z:List β} {l:List α}:FlatI f z l 0 z:=⟨by omega,by omega,by simp⟩
theorem FlatI.next [Inhabited α] {f:α->List β} {z:List β} {l:List α} {i:Int} {s s' :List β} (h:FlatI f z l i s) (hh:i<l.length) (hl:(l.length:Int)<=9223372036854775807) (hs:s' =s++f (ix l i)):
  FlatI f z l (IntKind.i64.wrap (i+1)) s'/\(l.length-IntKind.i64.wrap (i+1)).toNat<(l.length-i).toNat:=by
 obtain⟨g0,g1,g2⟩:=h
 rw[inc i l.length g0 hh hl]
 refine⟨⟨by omega,by omega,?_⟩,by omega⟩
 rw[kg l i g0 hh,List.flatMap_append,hs,g2]
 simp
theorem FlatI.done {f:α->List β} {z:List β} {l:List α} {i:Int} {s:List β} (h:FlatI f z l i s) (hh:¬i<l.length):s=z++l.flatMap f:=by
 obtain⟨g0,g1,g2⟩:=h
 rwa [List.take_of_length_le (by omega)]at g2
theorem FlatI.len {f:α->List β} {z:List β} {l:List α} {i:Int} {s:List β} (h:FlatI f z l i s) (k:Nat) (hk:∀x∈l,(f x).length<=k):s.length<=z.length+k*l.length:=by
 obtain⟨g0,g1,g2⟩:=h
 have key:∀(m:List α),(∀x∈m,(f x).length<=k)->(m.flatMap f).length<=k*m.length:=by
  intro m
  induction m with
  |nil=>simp
  |cons a m ih=>
   intro hm
   have h1:=ih (fun x hx=>hm x (by simp[hx]))
   have h2:=hm a (by simp)
   rw[List.flatMap_cons,List.length_append,List.length_cons,Nat.mul_add]
   omega
 have h1:=key (l.take i.toNat) (fun x hx=>hk x (List.mem_of_mem_take hx))
 have h2:k*(l.take i.toNat).length<=k*l.length:=Nat.mul_le_mul_left _ (by rw[List.length_take];omega)
 rw[g2,List.length_append]
 omega
def MapI (f:α->β) (l:List α) (i:Int) (s:List β):Prop:=0<=i/\i<=l.length/\s=(l.take i.toNat).map f
theorem MapI.start {f:α->β} {l:List α}:MapI f l 0 []:=⟨by omega,by omega,by simp⟩
theorem MapI.next [Inhabited α] {f:α->β} {l:List α} {i:Int} {s s' :List β} (h:MapI f l i s) (hh:i<l.length) (hl:(l.length:Int)<=9223372036854775807) (hs:s' =s++[f (ix l i)]):
  MapI f l (IntKind.i64.wrap (i+1)) s'/\(l.length-IntKind.i64.wrap (i+1)).toNat<(l.length-i).toNat:=by
 obtain⟨g0,g1,g2⟩:=h
 rw[inc i l.length g0 hh hl]
 refine⟨⟨by omega,by omega,?_⟩,by omega⟩
 rw[kg l i g0 hh,List.map_append,hs,g2]
 simp
theorem MapI.done {f:α->β} {l:List α} {i:Int} {s:List β} (h:MapI f l i s) (hh:¬i<l.length):s=l.map f:=by
 obtain⟨g0,g1,g2⟩:=h
 rwa [List.take_of_length_le (by omega)]at g2
theorem MapI.len {f:α->β} {l:List α} {i:Int} {s:List β} (h:MapI f l i s):s.length=i.toNat:=by
 obtain⟨g0,g1,g2⟩:=h
 rw[g2,List.length_map,List.length_take];omega
def EqI [Inhabited α] (f:α->α->Bool) (l m:List α) (i:Int):Prop:=0<=i/\i<=l.length/\∀j:Nat,(j:Int)<i->f (ix l j) (ix m j)=true
theorem EqI.start [Inhabited α] {f:α->α->Bool} {l m:List α}:EqI f l m 0:=⟨by omega,by omega,fun j hj=>by omega⟩
theorem EqI.next [Inhabited α] {f:α->α->Bool} {l m:List α} {i:Int} (h:EqI f l m i) (hh:i<l.length) (hl:(l.length:Int)<=9223372036854775807) (hf:f (ix l i) (ix m i)=true):
  EqI f l m (IntKind.i64.wrap (i+1))/\(l.length-IntKind.i64.wrap (i+1)).toNat<(l.length-i).toNat:=by
 obtain⟨g0,g1,g2⟩:=h
 rw[inc i l.length g0 hh hl]
 refine⟨⟨by omega,by omega,fun j hj=> ?_⟩,by omega⟩
 by_cases hji:(j:Int)=i
 ·rw[hji];exact hf
 ·exact g2 j (by omega)
def eqB (f:α->α->Bool):List α->List α->Bool
 |[],[]=>true
 |a::l,b::m=>f a b&&eqB f l m
 |_,_=>false
theorem eqB_iff [Inhabited α] {f:α->α->Bool}:∀{l m:List α},eqB f l m=true↔l.length=m.length/\∀j:Nat,j<l.length->f (ix l (j:Int)) (ix m (j:Int))=true
 |[],[]=>by simp[eqB]
 |[],_::_=>by simp[eqB]
 |_::_,[]=>by simp[eqB]
 |a::l,b::m=>by
  have e:∀(a:α) (l:List α) (j:Nat),j<l.length->ix (a::l) ((j+1:Nat):Int)=ix l (j:Int):=by
   intro a l j hj
   rw[ix_nat _ _ (by omega) (by simp;omega),ix_nat _ _ (by omega) (by omega)]
   rfl
  have e0:∀(a:α) (l:List α),ix (a::l) ((0:Nat):Int)=a:=fun a l=>by rw[ix_nat _ _ (by omega) (by simp)];rfl
  simp only[eqB,Bool.and_eq_true,eqB_iff,List.length_cons]
  constructor
  ·rintro ⟨h1,h2,h3⟩
   refine⟨by omega,fun j hj=> ?_⟩
   cases j with
   |zero=>rw[e0,e0];exact h1
   |succ j=>rw[e a l j (by omega),e b m j (by omega)];exact h3 j (by omega)
  ·rintro ⟨h1,h2⟩
   have h3:=h2 0 (by omega)
   rw[e0,e0]at h3
   refine⟨h3,by omega,fun j hj=> ?_⟩
   have:=h2 (j+1) (by omega)
   rwa [e a l j (by omega),e b m j (by omega)]at this
theorem EqI.bad [Inhabited α] {f:α->α->Bool} {l m:List α} {i:Int} (h:EqI f l m i) (hh:i<l.length) (hf:f (ix l i) (ix m i)=false):eqB f l m=false:=by
 cases hq:eqB f l m with
 |false=>rfl
 |true=>
  have h0:=h.1
  have:=(eqB_iff.1 hq).2 i.toNat (by omega)
  rw[Int.toNat_of_nonneg h.1,hf]at this
  cases this
theorem EqI.done [Inhabited α] {f:α->α->Bool} {l m:List α} {i:Int} (h:EqI f l m i) (hlm:l.length=m.length) (hh:¬i<l.length):eqB f l m=true:=
 eqB_iff.2 ⟨hlm,fun j hj=>h.2.2 j (by omega)⟩
end
theorem kdg {α:Type} {p:α->Bool}:∀{l:List α},mIdx p l=none↔∀x∈l,p x=false
 |[]=>by simp[mIdx]
 |x::l=>by
  cases hp:p x with
  |true=>simp[mIdx,hp]
  |false=>simp only[mIdx,hp,cond_false,Option.map_eq_none_iff,kdg,List.mem_cons,forall_eq_or_imp,true_and]
theorem k7j {α:Type} {p:α->Bool}:∀{l:List α} {j:Nat},mIdx p l=some j->∃x,l[j]? =some x/\p x=true
 |[],_,h=>by cases h
 |x::l,j,h=>by
  cases hp:p x with
  |true=>simp only[mIdx,hp,cond_true,Option.some.injEq]at h;subst h;exact⟨x,rfl,hp⟩
  |false=>
   simp only[mIdx,hp,cond_false,Option.map_eq_some_iff]at h
   obtain⟨i,h1,rfl⟩:=h
   obtain⟨y,h2,h3⟩:=k7j h1
   exact⟨y,by simpa using h2,h3⟩
@[simp] theorem kn1 {α:Type} (p:α->Bool):mHas p []=false:=rfl
@[simp] theorem kn2 {α β:Type} (p:α->Bool) (z:β) (vs:List β):mVal p [] vs z=z:=rfl
theorem kmg {α:Type} {p:α->Bool} {l:List α}:mHas p l=true↔∃x∈l,p x=true:=by
 unfold mHas
 cases h:mIdx p l with
 |none=>simp only[Option.isSome_none,Bool.false_eq_true,false_iff,not_exists,not_and];intro x hx;rw[kdg.1 h x hx];simp
 |some j=>
  obtain⟨x,h1,h2⟩:=k7j h
  simp only[Option.isSome_some,true_iff]
  exact⟨x,List.mem_of_getElem? h1,h2⟩
theorem kmx {α β:Type} {p:α->Bool} {ks:List α} {vs:List β} {z:β} (h:mHas p ks=true) (hl:ks.length=vs.length):mVal p ks vs z∈vs:=by
 unfold mHas at h
 unfold mVal
 cases hm:mIdx p ks with
 |none=>rw[hm]at h;cases h
 |some j=>
  obtain⟨x,h1,h2⟩:=k7j hm
  have hj:j<vs.length:=by have:=(List.getElem?_eq_some_iff.1 h1).1;omega
  simp only[List.getElem?_eq_getElem hj,Option.getD_some]
  exact List.getElem_mem hj
theorem k45 (a:Int) (h:0<=a/\a<4611686018427387904):iand .i64 a 1=a%2:=by
 obtain⟨n,rfl⟩:=Int.eq_ofNat_of_zero_le h.1
 unfold iand
 have e1:(BitVec.ofInt IntKind.i64.bits (n:Int)).toNat=n:=k2g n (by omega)
 have e2:(BitVec.ofInt IntKind.i64.bits (1:Int)).toNat=1:=k2g 1 (by omega)
 rw[BitVec.toNat_and,e1,e2,Nat.and_one_is_mod]
 rw[wi _ (by omega) (by omega)]
 omega
end Go.Md
namespace Go.Proofs.YtijdfglbhaedoaaGreat
open Go Go.Bv Go.Cv Go.Md Go.RowKit
open Go.IntKind (i64 u64)
def rc (r i:Int):Int:=(3*r+i+1)*11400714819323198485%18446744073709551616%18446744069414584321
def mixS (s:wAP):wAP:=⟨(s.a0+((s.a0+s.a1)%18446744069414584321+s.a2)%18446744069414584321)%18446744069414584321,(s.a1+((s.a0+s.a1)%18446744069414584321+s.a2)%18446744069414584321)%18446744069414584321,(s.a2+((s.a0+s.a1)%18446744069414584321+s.a2)%18446744069414584321)%18446744069414584321⟩
def pw (a e:Int):Int:=a^e.toNat%18446744069414584321
def rnd (s:wAP) (r:Int):wAP:=mixS ⟨pw ((s.a0+rc r 0)%18446744069414584321) 7,pw ((s.a1+rc r 1)%18446744069414584321) 7,pw ((s.a2+rc r 2)%18446744069414584321) 7⟩
def rnds:Nat->wAP->wAP
 |0,s=>s
 |n+1,s=>rnd (rnds n s) n
def permS (s:wAP):wAP:=rnds 8 s
def absL:List Int->wAP->wAP
 |[],s=>s
 |[x],s=>permS ⟨(s.a0+x)%18446744069414584321,s.a1,s.a2⟩
 |x::y::r,s=>absL r (permS ⟨(s.a0+x)%18446744069414584321,(s.a1+y)%18446744069414584321,s.a2⟩)
def absI (label:Int) (l:List Int):wAP:=⟨0,0,(label*65536%18446744069414584321+(l.length:Int))%18446744069414584321⟩
def absS (label:Int) (l:List Int):wAP:=if l=[]then permS (absI label l)else absL l (absI label l)
def hashS (label:Int) (l:List Int):Int:=(absS label l).a0
def hashB (label:Int) (b:List Int):Int:=hashS label (packS b)
def S3 (s:wAP):Prop:=U64 s.a0/\U64 s.a1/\U64 s.a2
theorem S3m {a b c:Int} (ha:U64 a) (hb:U64 b) (hc:U64 c):S3 ⟨a,b,c⟩:=⟨ha,hb,hc⟩
theorem k28 (s:wAP):S3 (permS s):=by
 show S3 (rnd _ _)
 unfold rnd mixS S3
 dsimp only
 omega
theorem kcf:∀(l:List Int) (s:wAP),S3 s->S3 (absL l s)
 |[],_,h=>h
 |[_],_,_=>k28 _
 |_::_::r,_,_=>kcf r _ (k28 _)
theorem kr (label:Int) (l:List Int):U64 (hashS label l):=by
 unfold hashS absS
 split
 ·exact(k28 _).1
 ·rename_i h
  match l,h with
  |[_],_=>exact(k28 _).1
  |_::_::r,_=>exact(kcf r _ (k28 _)).1
theorem k9y (s:wAP):(permS s).a0<18446744069414584321:=by
 show(rnd _ _).a0<_
 unfold rnd mixS
 dsimp only
 omega
theorem absL_lt:∀(l:List Int) (s:wAP),l≠[]->(absL l s).a0<18446744069414584321
 |[],_,h=>(h rfl).elim
 |[_],_,_=>k9y _
 |[_,_],_,_=>k9y _
 |_::_::x::r,s,_=>absL_lt (x::r) _ (by simp)
theorem k3w (label:Int) (l:List Int):hashS label l<18446744069414584321:=by
 unfold hashS absS
 split
 ·exact k9y _
 ·rename_i h;exact absL_lt _ _ h
def idxI (l:List Int) (v:Int):Int:=if v∈l then(l.idxOf v:Int)else -1
def vMarks (l:List Int):Bool:=decide (l.length<=4)&&l.all (fun x=>decide (x<18446744069414584321))&&decide l.Nodup
def vPoint (a b:Int):Bool:=decide (a<18446744069414584321)&&(decide (b<18446744069414584321)&&(a !=0||b !=0))
def vOut (x:wAn):Bool:=decide (x.wb<18446744069414584321)&&vPoint x.wAc x.wAX&&decide (x.wAA.length=3)&&x.wAA.all (fun n=>decide (n<18446744069414584321))
def vOuts (l:List wAn):Bool:=decide (l.length<=4)&&l.all vOut
def vAmounts (t:wl):Bool:=decide (t.wI<=4294967295)&&decide (t.wL<=4294967295)&&decide (t.Fee<=4294967295)&&decide (t.wP<18446744069414584321)&&decide (t.wX<18446744069414584321)&&
 (if 0<t.wI then t.wL==0 else !t.wG.isEmpty&&t.wX==0&&(decide (0<t.wL)||t.wP==0))
def vRest (t:wl):Bool:=decide (t.wW<18446744069414584321)&&decide (0<=t.wAZ)&&decide (t.wAZ<=1048576)
def validE (t:wl):Int:=if vMarks t.wG&&vOuts t.wB&&vAmounts t&&vRest t then(if t.wAH.length<=1048576 then 0 else 3)else 1
theorem khg (t:wl):vAmounts t=true↔t.wI<=4294967295/\t.wL<=4294967295/\t.Fee<=4294967295/\t.wP<18446744069414584321/\t.wX<18446744069414584321/\(0<t.wI->t.wL=0)/\(¬0<t.wI->t.wG≠[]/\t.wX=0/\(0<t.wL∨t.wP=0)):=by
 unfold vAmounts
 by_cases h:0<t.wI
 ·simp[h,and_assoc]
 ·simp[h,and_assoc]
structure OR (x:wAn):Prop where
 c:U64 x.wb
 p0:U64 x.wAc
 p1:U64 x.wAX
 ci:Us x.wAA
structure TR (t:wl):Prop where
 a:U64 t.wW
 m:Us t.wG
 o:∀x∈t.wB,OR x
 d:U64 t.wI
 w:U64 t.wL
 f:U64 t.Fee
 ac:U64 t.wP
 n:U64 t.wX
 e: -9223372036854775808<=t.wAZ/\t.wAZ<=9223372036854775807
 p:By t.wAH
def encO (x:wAn):List Int:=dig 8 x.wb++dig 8 x.wAc++dig 8 x.wAX++encL x.wAA
def encT (t:wl) (p:List Int):List Int:=dig 8 t.wW++encL t.wG++dig 4 (len4 t.wB.length)++t.wB.flatMap encO++dig 8 t.wI++dig 8 t.wL++dig 8 t.Fee++dig 8 t.wP++dig 8 t.wX++dig 4 (len4 t.wAZ)++encB p
def bindS (t:wl):Int:=if validE t=0 then hashB 13 (encT t [])else 0
def originS (t:wl):Int:=if validE t=0 then(if t.wG=[]then hashS 5 [t.wP,t.wX]else ix t.wG 0)else 0
def smallB (t:wl) (p:Int):Bool:=decide (t.wG.length<=10)&&decide (t.wB.length<=10)&&t.wB.all (fun x=>decide (x.wAA.length<=10))&&decide ((t.wAH.length:Int)<=p)
structure TL (t:wl):Prop where
 m:t.wG.length<=4294967295
 o:t.wB.length<=4294967295
 c:∀x∈t.wB,x.wAA.length<=4294967295
 p:t.wAH.length<=4294967295
structure VO (x:wAn):Prop where
 c:x.wb<18446744069414584321
 p:vPoint x.wAc x.wAX=true
 l:x.wAA.length=3
 ci:∀n∈x.wAA,n<18446744069414584321
theorem kat (x:wAn):vOut x=true↔VO x:=by
 unfold vOut
 simp only[Bool.and_eq_true,decide_eq_true_eq,List.all_eq_true]
 exact⟨fun h=>⟨h.1.1.1,h.1.1.2,h.1.2,h.2⟩,fun h=>⟨⟨⟨h.c,h.p⟩,h.l⟩,h.ci⟩⟩
structure VT (t:wl):Prop where
 ml:t.wG.length<=4
 m:∀x∈t.wG,x<18446744069414584321
 mn:t.wG.Nodup
 ol:t.wB.length<=4
 o:∀x∈t.wB,VO x
 am:vAmounts t=true
 re:vRest t=true
 pl:t.wAH.length<=1048576
theorem k1r (t:wl):validE t=0↔VT t:=by
 unfold validE
 constructor
 ·intro h
  split at h
  ·rename_i h1
   split at h
   ·rename_i h2
    simp only[Bool.and_eq_true,vMarks,vOuts,decide_eq_true_eq,List.all_eq_true]at h1
    exact⟨h1.1.1.1.1.1,h1.1.1.1.1.2,h1.1.1.1.2,h1.1.1.2.1,fun x hx=>(kat x).1 (h1.1.1.2.2 x hx),h1.1.2,h1.2,h2⟩
   ·simp at h
  ·simp at h
 ·intro h
  have:(vMarks t.wG&&vOuts t.wB&&vAmounts t&&vRest t)=true:=by
   simp only[Bool.and_eq_true,vMarks,vOuts,decide_eq_true_eq,List.all_eq_true]
   exact⟨⟨⟨⟨⟨h.ml,h.m⟩,h.mn⟩,h.ol,fun x hx=>(kat x).2 (h.o x hx)⟩,h.am⟩,h.re⟩
  rw[if_pos this,if_pos h.pl]
theorem VT.tl {t:wl} (h:VT t):TL t:=⟨by have:=h.ml;omega,by have:=h.ol;omega,fun x hx=>by have:=(h.o x hx).l;omega,by have:=h.pl;omega⟩
theorem encO_by {x:wAn}:By (encO x):=((((dig_by _ _).append (dig_by _ _)).append (dig_by _ _)).append (encL_by _))
theorem kmu (l:List wAn):By (l.flatMap encO):=fun x hx=>by
 obtain⟨y,_,hy⟩:=List.mem_flatMap.1 hx
 exact encO_by x hy
theorem encT_by {t:wl} {p:List Int} (h:By p):By (encT t p):=
 ((((((((((dig_by _ _).append (encL_by _)).append (dig_by _ _)).append (kmu _)).append (dig_by _ _)).append (dig_by _ _)).append (dig_by _ _)).append (dig_by _ _)).append (dig_by _ _)).append (dig_by _ _)).append (encB_by h)
theorem kij (x:wAn):(encO x).length=28+8*x.wAA.length:=by simp[encO];omega
theorem k2l:∀(l:List wAn) (k:Nat),(∀x∈l,x.wAA.length<=k)->(l.flatMap encO).length<=(28+8*k)*l.length
 |[],_,_=>by simp
 |x::r,k,h=>by
  have h1:=k2l r k (fun y hy=>h y (by simp[hy]))
  have h2:=h x (by simp)
  rw[List.flatMap_cons,List.length_append,kij,List.length_cons,Nat.mul_add]
  omega
theorem kih (t:wl) (p:List Int):(encT t p).length=64+8*t.wG.length+(t.wB.flatMap encO).length+p.length:=by simp only[encT,List.length_append,ko,k1s,ki5];omega
theorem VT.enc_len {t:wl} (h:VT t) (p:List Int):(encT t p).length<=304+p.length:=by
 have h1:=h.ml
 have h2:=h.ol
 have h3:=k2l t.wB 3 (fun x hx=>by have:=(h.o x hx).l;omega)
 rw[kih]
 omega
theorem kig {t:wl} (h:TR t):U64 (originS t):=by
 unfold originS
 split
 ·split
  ·exact kr _ _
  ·rename_i hne
   exact h.m _ (ix_mem _ 0 (by omega) (by have:=List.length_pos_iff.2 hne;omega))
 ·omega
theorem kmt {t:wl} {p:Int} (h:smallB t p=true) (hp:p<=1048576:=by omega):TL t:=by
 unfold smallB at h
 simp only[Bool.and_eq_true,decide_eq_true_eq,List.all_eq_true]at h
 exact⟨by omega,by omega,fun x hx=>by have:=h.1.2 x hx;omega,by omega⟩
structure RD where
 n:Int
 ok:Bool
 pos:Int
 fail:Bool
structure RL where
 l:List Int
 pos:Int
 fail:Bool
structure RdOk (b:List Int) (pos:Int):Prop where
 by_:By b
 len:b.length<=137438953472
 pos0:0<=pos
 pos1:pos<=b.length
def rdD (b:List Int) (pos:Int) (f:Bool) (size:Int):RD:=
 if f=true∨(b.length:Int)-pos<size then⟨0,false,pos,true⟩else⟨val ((b.drop pos.toNat).take size.toNat),true,pos+size,false⟩
def rdU (b:List Int) (pos:Int) (f:Bool) (m:Int):RD:=
 if(rdD b pos f 8).ok=false∨m<(rdD b pos f 8).n then⟨0,false,(rdD b pos f 8).pos,true⟩else rdD b pos f 8
def rdI (b:List Int) (pos:Int) (f:Bool) (m:Int):RD:=
 if(rdD b pos f 4).ok=false∨m<(rdD b pos f 4).n then⟨0,false,(rdD b pos f 4).pos,true⟩else rdD b pos f 4
def rdLs (b:List Int) (p:Int):Nat->Int->List Int->RL
 |0,pos,acc=>⟨acc,pos,false⟩
 |k+1,pos,acc=>if p<=val ((b.drop pos.toNat).take 8)then⟨[],pos+8,true⟩else rdLs b p k (pos+8) (acc++[val ((b.drop pos.toNat).take 8)])
def rdL (b:List Int) (pos:Int) (f:Bool) (m p:Int):RL:=
 if(rdI b pos f m).fail=true∨((b.length:Int)-(rdI b pos f m).pos)/8<(rdI b pos f m).n then⟨[],(rdI b pos f m).pos,true⟩else rdLs b p (rdI b pos f m).n.toNat (rdI b pos f m).pos []
def rdB (b:List Int) (pos:Int) (f:Bool) (m:Int):RL:=
 if(rdI b pos f m).fail=true∨(b.length:Int)-(rdI b pos f m).pos<(rdI b pos f m).n then⟨[],(rdI b pos f m).pos,true⟩else⟨(b.take ((rdI b pos f m).pos+(rdI b pos f m).n).toNat).drop (rdI b pos f m).pos.toNat,(rdI b pos f m).pos+(rdI b pos f m).n,false⟩
theorem k7h {b:List Int} {pos p:Int} {f:Bool} (h:RdOk b pos) (h0:1<=p) (h1:p<=8):0<=(rdD b pos f p).n/\(rdD b pos f p).n<256^p.toNat:=by
 unfold rdD
 split
 ·exact⟨Int.le_refl 0,k22 _⟩
 ·rename_i hn
  have hb:=k37 _ ((h.by_.drop pos.toNat).take p.toNat)
  rw[List.length_take,List.length_drop,Nat.min_eq_left (by have:=h.pos0;omega)]at hb
  exact hb
theorem rdD_ok {b:List Int} {pos p:Int} {f:Bool} (h:RdOk b pos) (h0:1<=p):RdOk b (rdD b pos f p).pos:=by
 unfold rdD
 have:=h.pos0
 split
 ·exact h
 ·rename_i hn
  exact⟨h.by_,h.len,by show 0<=pos+p;omega,by show pos+p<=_;omega⟩
theorem rdU_ok {b:List Int} {pos m:Int} {f:Bool} (h:RdOk b pos):RdOk b (rdU b pos f m).pos:=by
 unfold rdU
 split
 ·exact rdD_ok h (by omega)
 ·exact rdD_ok h (by omega)
theorem rdI_ok {b:List Int} {pos m:Int} {f:Bool} (h:RdOk b pos):RdOk b (rdI b pos f m).pos:=by
 unfold rdI
 split
 ·exact rdD_ok h (by omega)
 ·exact rdD_ok h (by omega)
theorem rdI_n {b:List Int} {pos m:Int} {f:Bool} (h:RdOk b pos) (hm:0<=m):0<=(rdI b pos f m).n/\(rdI b pos f m).n<=m:=by
 have:=k7h h (p:=4) (f:=f) (by omega) (by omega)
 unfold rdI
 split
 ·exact⟨Int.le_refl 0,hm⟩
 ·rename_i hn
  exact⟨this.1,by omega⟩
theorem rdU_n {b:List Int} {pos m:Int} {f:Bool} (h:RdOk b pos):U64 (rdU b pos f m).n:=by
 have:=k7h h (p:=8) (f:=f) (by omega) (by omega)
 unfold rdU
 split
 ·exact⟨Int.le_refl 0,(by decide:(0:Int)<18446744073709551616)⟩
 ·exact⟨this.1,this.2⟩
theorem cut_dig {b:List Int} (h:By b) (k:Nat) (hk:k<=b.length):b=dig k (val (b.take k))++b.drop k:=by
 have:=dig_val (b.take k) (h.take k)
 rw[List.length_take,Nat.min_eq_left hk]at this
 rw[this,List.take_append_drop]
theorem put_dig {b r:List Int} {k:Nat} {n:Int} (h:b=dig k n++r) (h0:0<=n) (h1:n<256^k):val (b.take k)=n/\b.drop k=r/\k<=b.length:=by
 subst h
 rw[List.take_left' (ko k n),List.drop_left' (ko k n),List.length_append,ko]
 exact⟨val_dig k n h0 h1,rfl,by omega⟩
def nums:Nat->List Int->List Int
 |0,_=>[]
 |k+1,b=>val (b.take 8)::nums k (b.drop 8)
@[simp] theorem k24:∀(k:Nat) (b:List Int),(nums k b).length=k
 |0,_=>rfl
 |k+1,b=>by simp[nums,k24 k]
theorem nums_us:∀(k:Nat) {b:List Int},By b->Us (nums k b)
 |0,_,_=>by intro x hx;cases hx
 |k+1,b,h=>by
  intro x hx
  rcases List.mem_cons.1 hx with rfl|hx
  ·exact val8 _ (h.take 8) (by rw[List.length_take];omega)
  ·exact nums_us k (h.drop 8) x hx
theorem k9m:∀(k:Nat) {b:List Int},By b->8*k<=b.length->b=(nums k b).flatMap (dig 8)++b.drop (8*k)
 |0,_,_,_=>rfl
 |k+1,b,h,hk=>by
  have h1:=cut_dig h 8 (by omega)
  have h2:=k9m k (h.drop 8) (by rw[List.length_drop];omega)
  rw[List.drop_drop,show 8+8*k=8*(k+1)by omega]at h2
  simp only[nums,List.flatMap_cons,List.append_assoc]
  rw[<-h2]
  exact h1
theorem ka6:∀(l:List Int) {b r:List Int},b=l.flatMap (dig 8)++r->Us l->nums l.length b=l/\b.drop (8*l.length)=r/\8*l.length<=b.length
 |[],b,r,h,_=>⟨rfl,by simpa using h,by simp⟩
 |x::l,b,r,h,hu=>by
  rw[List.flatMap_cons,List.append_assoc]at h
  have hx:=hu x (by simp)
  obtain⟨h1,h2,h3⟩:=put_dig h hx.1 (by omega)
  obtain⟨g1,g2,g3⟩:=ka6 l h2 (fun y hy=>hu y (by simp[hy]))
  rw[List.length_drop]at g3
  refine⟨?_,?_,?_⟩
  ·simp only[List.length_cons,nums,h1,g1]
  ·rw[List.drop_drop,show 8+8*l.length=8*(l.length+1)by omega]at g2
   simpa using g2
  ·rw[List.length_cons];omega
section
variable {b:List Int} {pos m p:Int} {f:Bool}
theorem k2u (h0:0<=pos) (k:Nat):b.drop (pos+(k:Int)).toNat=(b.drop pos.toNat).drop k:=by
 rw[List.drop_drop,show(pos+(k:Int)).toNat=pos.toNat+k by omega]
theorem rdD_snd (h:RdOk b pos) (k:Nat) (hf:(rdD b pos f k).ok=true):f=false/\b.drop pos.toNat=dig k (rdD b pos f k).n++b.drop (rdD b pos f k).pos.toNat/\(rdD b pos f k).fail=false:=by
 unfold rdD at *
 split at hf
 ·cases hf
 ·rename_i hn
  rw[if_neg hn]
  have h0:=h.pos0
  refine⟨?_,?_,rfl⟩
  ·cases f
   ·rfl
   ·exact absurd (.inl rfl) hn
  ·show b.drop pos.toNat=dig k (val ((b.drop pos.toNat).take (k:Int).toNat))++b.drop (pos+(k:Int)).toNat
   rw[k2u h0,Int.toNat_natCast]
   refine cut_dig (h.by_.drop _) k ?_
   have:¬(b.length:Int)-pos<k:=fun h=>hn (.inr h)
   rw[List.length_drop]
   omega
theorem rdD_cpl (h:RdOk b pos) (k:Nat) {n:Int} {r:List Int} (hf:f=false) (hr:b.drop pos.toNat=dig k n++r) (h0:0<=n) (h1:n<256^k):rdD b pos f k=⟨n,true,pos+k,false⟩/\b.drop (pos+(k:Int)).toNat=r:=by
 obtain⟨g1,g2,g3⟩:=put_dig hr h0 h1
 rw[List.length_drop]at g3
 have hp:=h.pos1
 have hp0:=h.pos0
 refine⟨?_,by rw[k2u hp0];exact g2⟩
 unfold rdD
 have hk:¬(f=true∨(b.length:Int)-pos<k):=by rw[hf];simp only[Bool.false_eq_true,false_or];rcases Nat.eq_zero_or_pos k with h|h<;>omega
 rw[if_neg hk,Int.toNat_natCast,g1]
theorem rdU_snd (h:RdOk b pos) (hf:(rdU b pos f m).fail=false):f=false/\b.drop pos.toNat=dig 8 (rdU b pos f m).n++b.drop (rdU b pos f m).pos.toNat/\(rdU b pos f m).n<=m:=by
 unfold rdU at *
 split at hf
 ·cases hf
 ·rename_i hn
  rw[if_neg hn]
  have ho:(rdD b pos f 8).ok=true:=by
   cases hc:(rdD b pos f 8).ok
   ·exact absurd (.inl hc) hn
   ·rfl
  obtain⟨g1,g2,g3⟩:=rdD_snd h 8 ho
  exact⟨g1,g2,by have:¬m<(rdD b pos f 8).n:=fun h=>hn (.inr h);omega⟩
theorem rdU_cpl (h:RdOk b pos) {n:Int} {r:List Int} (hf:f=false) (hr:b.drop pos.toNat=dig 8 n++r) (hn:U64 n) (hm:n<=m):(rdU b pos f m).fail=false/\(rdU b pos f m).n=n/\b.drop (rdU b pos f m).pos.toNat=r:=by
 obtain⟨g1,g2⟩:=rdD_cpl h 8 hf hr hn.1 hn.2
 have e:rdU b pos f m=⟨n,true,pos+8,false⟩:=by
  unfold rdU
  have g1:rdD b pos f 8=⟨n,true,pos+8,false⟩:=g1
  rw[g1]
  exact if_neg (by simp;omega)
 rw[e]
 exact⟨rfl,rfl,g2⟩
theorem rdI_snd (h:RdOk b pos) (hf:(rdI b pos f m).fail=false):f=false/\b.drop pos.toNat=dig 4 (rdI b pos f m).n++b.drop (rdI b pos f m).pos.toNat/\(rdI b pos f m).n<=m:=by
 unfold rdI at *
 split at hf
 ·cases hf
 ·rename_i hn
  rw[if_neg hn]
  have ho:(rdD b pos f 4).ok=true:=by
   cases hc:(rdD b pos f 4).ok
   ·exact absurd (.inl hc) hn
   ·rfl
  obtain⟨g1,g2,g3⟩:=rdD_snd h 4 ho
  exact⟨g1,g2,by have:¬m<(rdD b pos f 4).n:=fun h=>hn (.inr h);omega⟩
theorem rdI_cpl (h:RdOk b pos) {n:Int} {r:List Int} (hf:f=false) (hr:b.drop pos.toNat=dig 4 n++r) (h0:0<=n) (h1:n<4294967296) (hm:n<=m):(rdI b pos f m).fail=false/\(rdI b pos f m).n=n/\b.drop (rdI b pos f m).pos.toNat=r:=by
 obtain⟨g1,g2⟩:=rdD_cpl h 4 hf hr h0 h1
 have e:rdI b pos f m=⟨n,true,pos+4,false⟩:=by
  unfold rdI
  have g1:rdD b pos f 4=⟨n,true,pos+4,false⟩:=g1
  rw[g1]
  exact if_neg (by simp;omega)
 rw[e]
 exact⟨rfl,rfl,g2⟩
theorem rdLs_ok:∀(k:Nat) {pos:Int} {acc:List Int},RdOk b pos->pos+8*k<=b.length->RdOk b (rdLs b p k pos acc).pos
 |0,pos,acc,h,_=>h
 |k+1,pos,acc,h,hk=>by
  have h2:RdOk b (pos+8):=⟨h.by_,h.len,by have:=h.pos0;omega,by omega⟩
  unfold rdLs
  split
  ·exact h2
  ·exact rdLs_ok k h2 (by omega)
theorem ka2:∀(k:Nat) {pos:Int} {acc:List Int},RdOk b pos->pos+8*k<=b.length->(rdLs b p k pos acc).fail=false->
  (rdLs b p k pos acc).l=acc++nums k (b.drop pos.toNat)/\(∀x∈nums k (b.drop pos.toNat),x<p)/\(rdLs b p k pos acc).pos=pos+8*k
 |0,pos,acc,h,_,_=>⟨by simp[rdLs,nums],by simp[nums],by simp[rdLs]⟩
 |k+1,pos,acc,h,hk,hf=>by
  have h2:RdOk b (pos+8):=⟨h.by_,h.len,by have:=h.pos0;omega,by omega⟩
  have hd:b.drop (pos+8).toNat=(b.drop pos.toNat).drop 8:=k2u h.pos0 8
  unfold rdLs at *
  split at hf
  ·cases hf
  ·rename_i hn
   rw[if_neg hn]
   obtain⟨g1,g2,g3⟩:=ka2 k h2 (by omega) hf
   rw[hd]at g1 g2
   refine⟨?_,?_,?_⟩
   ·rw[g1,List.append_assoc];rfl
   ·intro x hx
    rcases List.mem_cons.1 hx with rfl|hx
    ·omega
    ·exact g2 x hx
   ·rw[g3];omega
theorem kfl:∀(k:Nat) {pos:Int} {acc:List Int},RdOk b pos->pos+8*k<=b.length->(∀x∈nums k (b.drop pos.toNat),x<p)->(rdLs b p k pos acc).fail=false
 |0,pos,acc,h,_,_=>rfl
 |k+1,pos,acc,h,hk,hf=>by
  have h2:RdOk b (pos+8):=⟨h.by_,h.len,by have:=h.pos0;omega,by omega⟩
  have hd:b.drop (pos+8).toNat=(b.drop pos.toNat).drop 8:=k2u h.pos0 8
  unfold rdLs
  have h3:=hf (val ((b.drop pos.toNat).take 8)) (by simp[nums])
  rw[if_neg (by omega)]
  exact kfl k h2 (by omega) (by rw[hd];exact fun x hx=>hf x (List.mem_cons_of_mem _ hx))
theorem rdL_ok (h:RdOk b pos) (hm:0<=m):RdOk b (rdL b pos f m p).pos:=by
 unfold rdL
 split
 ·exact rdI_ok h
 ·rename_i hn
  have:=rdI_n h (f:=f) hm
  have:¬((b.length:Int)-(rdI b pos f m).pos)/8<(rdI b pos f m).n:=fun h=>hn (.inr h)
  exact rdLs_ok _ (rdI_ok h) (by omega)
theorem rdL_snd (h:RdOk b pos) (hm:0<=m/\m<=4294967295) (hf:(rdL b pos f m p).fail=false):f=false/\b.drop pos.toNat=encL (rdL b pos f m p).l++b.drop (rdL b pos f m p).pos.toNat/\((rdL b pos f m p).l.length:Int)<=m/\(∀x∈(rdL b pos f m p).l,x<p)/\Us (rdL b pos f m p).l:=by
 unfold rdL at *
 split at hf
 ·cases hf
 ·rename_i hn
  rw[if_neg hn]
  have hI:(rdI b pos f m).fail=false:=by
   cases hc:(rdI b pos f m).fail
   ·rfl
   ·exact absurd (.inl hc) hn
  have hI2:=rdI_n h (f:=f) hm.1
  have hok:=rdI_ok h (f:=f) (m:=m)
  obtain⟨g1,g2,g3⟩:=rdI_snd h hI
  have hle:¬((b.length:Int)-(rdI b pos f m).pos)/8<(rdI b pos f m).n:=fun h=>hn (.inr h)
  obtain⟨k1,k2,k3⟩:=ka2 _ hok (by omega) hf
  rw[List.nil_append]at k1
  rw[k1,k3]
  have hp0:=hok.pos0
  have hp1:=hok.pos1
  refine⟨g1,?_,by rw[k24];omega,k2,nums_us _ (h.by_.drop _)⟩
  rw[g2]
  unfold encL
  rw[k24,show(((rdI b pos f m).n.toNat:Nat):Int)=(rdI b pos f m).n by omega,len4_in (by omega),List.append_assoc]
  congr 1
  have:=k9m (rdI b pos f m).n.toNat (h.by_.drop (rdI b pos f m).pos.toNat) (by rw[List.length_drop];omega)
  have e:=k2u (b:=b) hp0 (8*(rdI b pos f m).n.toNat)
  rw[show((rdI b pos f m).pos+((8*(rdI b pos f m).n.toNat:Nat):Int))=(rdI b pos f m).pos+8*((rdI b pos f m).n.toNat:Int)by omega,show(((rdI b pos f m).n.toNat:Nat):Int)=(rdI b pos f m).n by omega]at e
  rw[e]
  exact this
theorem rdL_cpl (h:RdOk b pos) (hm:0<=m/\m<=4294967295) {l r:List Int} (hf:f=false) (hr:b.drop pos.toNat=encL l++r) (hl:(l.length:Int)<=m) (hp:∀x∈l,x<p) (hu:Us l):(rdL b pos f m p).fail=false/\(rdL b pos f m p).l=l/\b.drop (rdL b pos f m p).pos.toNat=r:=by
 unfold encL at hr
 rw[len4_in (by omega),List.append_assoc]at hr
 have hok:=rdI_ok h (f:=f) (m:=m)
 obtain⟨g1,g2,g3⟩:=rdI_cpl h hf hr (by omega) (by omega) hl
 obtain⟨k1,k2,k3⟩:=ka6 l g3 hu
 rw[List.length_drop]at k3
 have hp0:=hok.pos0
 have hp1:=hok.pos1
 have hn:¬((rdI b pos f m).fail=true∨((b.length:Int)-(rdI b pos f m).pos)/8<(rdI b pos f m).n):=by
  rw[g1,g2]
  simp only[Bool.false_eq_true,false_or]
  omega
 unfold rdL
 rw[if_neg hn,g2,Int.toNat_natCast]
 have hc:=kfl (p:=p) (acc:=[]) l.length hok (by omega) (by rw[k1];exact hp)
 obtain⟨q1,q2,q3⟩:=ka2 _ hok (by omega) hc
 refine⟨hc,by rw[q1,k1];rfl,?_⟩
 rw[q3,show(rdI b pos f m).pos+8*(l.length:Int)=(rdI b pos f m).pos+((8*l.length:Nat):Int)by omega,k2u hp0]
 exact k2
end
structure Enc (t:wl) (b:List Int):Prop where
 r:TR t
 v:VT t
 e:encT t t.wAH=b
open Classical in
theorem Enc.us {t:wl} {b:List Int} (h:Enc t b):t.wW<=18446744069414584320/\t.wI<=4294967295/\t.wL<=4294967295/\t.Fee<=4294967295/\t.wP<=18446744069414584320/\t.wX<=18446744069414584320/\0<=t.wAZ/\t.wAZ<=1048576:=by
 have h1:=(khg t).1 h.v.am
 have h2:=h.v.re
 unfold vRest at h2
 simp only[Bool.and_eq_true,decide_eq_true_eq]at h2
 omega
theorem VO.us {x:wAn} (h:VO x):x.wb<=18446744069414584320/\x.wAc<=18446744069414584320/\x.wAX<=18446744069414584320:=by
 have h1:=h.c
 have h2:=h.p
 unfold vPoint at h2
 simp only[Bool.and_eq_true,decide_eq_true_eq]at h2
 omega
structure TD (t:wl):Prop where
 r:TR t
 l:TL t
 o:t.wB.length<=1048576
 c:∀x∈t.wB,x.wAA.length<=1024
def sameT (a b:wl):Bool:=decide (a.wB.length=b.wB.length)&&a.wAZ==b.wAZ&&decide (a.wB.map (·.wAA.length)=b.wB.map (·.wAA.length))&&decide (encT a a.wAH=encT b b.wAH)
@[simp] theorem kn0 (a:wl):sameT a a=true:=by simp[sameT]
structure TK where
 n:Int
 r:List Int
 ok:Bool
structure TKL where
 l:List Int
 r:List Int
 ok:Bool
section
variable {b r:List Int} {n m:Int}
end
def rhoS (o i:Int):Int:=if o<18446744069414584321 then hashS 4 [o,i]else 0
def stmtS (t:wl) (depth:Int):wx:=if validE t=0 then⟨depth,t.wW,t.wG,t.wB.map (·.wb),(List.range t.wB.length).map (fun i:Nat=>rhoS (originS t) (i:Int)),t.wI,t.wL,t.Fee,t.wP,bindS t⟩else⟨0,0,[],[],[],0,0,0,0,0⟩
structure RB where
 l:List Int
 b:List Int
 f:Bool
structure RN where
 n:Int
 b:List Int
 f:Bool
def tkB (b:List Int) (f:Bool) (k:Int):RB:=if f=true∨(b.length:Int)<k then⟨[],b,true⟩else⟨b.take k.toNat,b.drop k.toNat,false⟩
def nB (k:Int) (b:List Int) (f:Bool) (m:Int):RN:=if(tkB b f k).f=true∨m<val (tkB b f k).l then⟨0,(tkB b f k).b,true⟩else⟨val (tkB b f k).l,(tkB b f k).b,false⟩
section
variable {b r:List Int} {f:Bool} {k m n:Int}
theorem tkB_l (h:By b):By (tkB b f k).l:=by
 unfold tkB;split
 ·intro x hx;cases hx
 ·exact h.take _
theorem tkB_b (h:By b):By (tkB b f k).b/\(tkB b f k).b.length<=b.length:=by
 unfold tkB;split
 ·exact⟨h,Nat.le_refl _⟩
 ·exact⟨h.drop _,by show(b.drop _).length<=_;rw[List.length_drop];omega⟩
theorem tkB_len:((tkB b f k).l.length:Int)<=max k 0:=by
 unfold tkB;split
 ·simp;omega
 ·show((b.take _).length:Int)<=_;rw[List.length_take];omega
theorem tkB_snd (hk:0<=k) (h:(tkB b f k).f=false):f=false/\b=(tkB b f k).l++(tkB b f k).b/\((tkB b f k).l.length:Int)=k:=by
 unfold tkB at *
 split at h
 ·cases h
 ·rename_i hn
  rw[if_neg hn]
  refine⟨?_,(List.take_append_drop _ _).symm,?_⟩
  ·cases f
   ·rfl
   ·exact absurd (.inl rfl) hn
  ·show((b.take k.toNat).length:Int)=k
   have:¬(b.length:Int)<k:=fun h=>hn (.inr h)
   rw[List.length_take];omega
theorem tkB_cpl {l:List Int} (hf:f=false) (h:b=l++r) (hl:(l.length:Int)=k):tkB b f k=⟨l,r,false⟩:=by
 subst h
 unfold tkB
 rw[if_neg (by rw[hf,List.length_append];simp;omega),show k.toNat=l.length by omega,List.take_left' rfl,List.drop_left' rfl]
theorem nB_b (h:By b):By (nB k b f m).b/\(nB k b f m).b.length<=b.length:=by
 unfold nB;split<;>exact tkB_b h
theorem nB_n (h:By b) (hk:0<=k):0<=(nB k b f m).n/\(nB k b f m).n<256^k.toNat:=by
 unfold nB;split
 ·exact⟨Int.le_refl 0,k22 _⟩
 ·have h1:=k37 _ (tkB_l (f:=f) (k:=k) h)
  have h2:=tkB_len (b:=b) (f:=f) (k:=k)
  have h3:(256:Int)^(tkB b f k).l.length<=256^k.toNat:=k7x (by omega)
  exact⟨h1.1,Int.lt_of_lt_of_le h1.2 h3⟩
theorem nB_snd (h:By b) (hk:0<=k) (hf:(nB k b f m).f=false):f=false/\b=dig k.toNat (nB k b f m).n++(nB k b f m).b/\(nB k b f m).n<=m:=by
 unfold nB at *
 split at hf
 ·cases hf
 ·rename_i hn
  rw[if_neg hn]
  have ht:(tkB b f k).f=false:=by
   cases hc:(tkB b f k).f
   ·rfl
   ·exact absurd (.inl hc) hn
  obtain⟨h1,h2,h3⟩:=tkB_snd hk ht
  refine⟨h1,?_,by show val _<=m;have:¬m<val (tkB b f k).l:=fun h=>hn (.inr h);omega⟩
  show b=dig k.toNat (val (tkB b f k).l)++(tkB b f k).b
  have:=dig_val (tkB b f k).l (tkB_l h)
  rw[show(tkB b f k).l.length=k.toNat by omega]at this
  rw[this]
  exact h2
theorem nB_cpl (hk:0<=k) (hf:f=false) (h:b=dig k.toNat n++r) (h0:0<=n) (h1:n<256^k.toNat) (hm:n<=m):nB k b f m=⟨n,r,false⟩:=by
 unfold nB
 rw[tkB_cpl hf h (by rw[ko];omega)]
 show(if false=true∨m<val (dig k.toNat n)then _ else _)=_
 rw[val_dig k.toNat n h0 h1,if_neg (by simp;omega)]
end
def allB (l:List Int):Bool:=l.all (fun x=>decide (x<18446744069414584321))
theorem kfq {l:List Int}:allB l=true↔∀x∈l,x<18446744069414584321:=by unfold allB;simp
def keyB (ns l:List Int):ByteArray:=strOfNums (ns.flatMap (dig 8)++l.flatMap (dig 8))
structure OrOk (ks:List ByteArray) (vs:List Int) (qs:List wE):Prop where
 len:ks.length=vs.length
 rng:∀v∈vs,0<=v/\v<qs.length
def pk (ideal:Bool) (qs:List wE) (ks:List ByteArray) (vs:List Int) (label:Int) (l:List Int):Option Int:=
 if allB l=true then(if mHas (BEq.beq (keyB [label] l)) ks=true then some (ix qs (mVal (BEq.beq (keyB [label] l)) ks vs 0)).wAd else if ideal=true then none else some (hashS label l))else none
def pkR (label:Int) (l:List Int):Option Int:=if allB l=true then some (hashS label l)else none
theorem pk_real (qs:List wE) (label:Int) (l:List Int):pk false qs [] [] label l=pkR label l:=by unfold pk pkR;simp
def noteV (n:wM):Bool:=decide (n.Value<=4294967295)&&decide (n.wAi<18446744069414584321)&&decide (n.Rho<18446744069414584321)&&decide (n.wAk<18446744069414584321)
def noteL (n:wM):List Int:=[n.Value,n.wAi,n.Rho,n.wAk]
def noteOf (x:wK):wM:=⟨x.wZ,x.wAD,x.wAG,x.wAQ⟩
def spendV (x:wK):Bool:=noteV (noteOf x)&&decide (x.Key<18446744069414584321)&&decide (0<=x.wAY)&&decide (x.wAY<4)&&decide (0<=x.wH)&&decide (x.wH<=4095)&&decide (x.wn.length<=12)&&allB x.wn
def inV (depth:Int) (x:wK):Bool:=spendV x&&decide ((x.wn.length:Int)=depth)&&decide (x.wH<2^depth.toNat)
def relV (s:wx) (w:wV):Bool:=
 decide (1<=s.wC)&&decide (s.wC<=12)&&allB [s.wW,s.wP,s.wAw,w.wAN]&&decide (s.wI<=4294967295)&&decide (s.wL<=4294967295)&&decide (s.Fee<=4294967295)&&
 allB s.wG&&allB s.wj&&allB s.wAO&&decide (w.Ins.length=s.wG.length)&&decide (w.Ins.length<=4)&&decide (w.wB.length=s.wj.length)&&decide (w.wB.length=s.wAO.length)&&decide (w.wB.length<=4)&&
 w.Ins.all (inV s.wC)&&w.wB.all noteV
def climbL:Int->Int->List Int->Int
 |d,_,[]=>d
 |d,p,n::r=>climbL (if p%2=0 then hashS 6 [d,n]else hashS 6 [n,d]) (p/2) r
def climbS (leaf pos:Int) (path:List Int):Int:=if path.length<=12/\0<=pos/\pos<2^path.length/\leaf<18446744069414584321/\allB path=true then climbL leaf pos path else 0
def ownerS (key number:Int):Int:=if 0<=number/\number<4 then hashS 1 [key,number]else 0
def acctS (secret:Int):Int:=hashS 7 [secret]
abbrev Ask:=Int->List Int->Option Int
def markP (f:Ask) (key rho:Int):Option Int:=if key<18446744069414584321/\rho<18446744069414584321 then f 3 [key,rho]else none
def commP (f:Ask) (n:wM):Option Int:=if noteV n=true then f 2 (noteL n)else none
def inE (f:Ask) (anchor mark:Int) (x:wK):Int:=
 if x.wAD≠ownerS x.Key x.wAY then 21 else
 if(markP f x.Key x.wAG).isSome=false∨(markP f x.Key x.wAG).getD 0≠mark then 12 else
 if x.wAv=true then(if x.wZ≠0 then 13 else 0)else
 if(commP f (noteOf x)).isSome=false∨climbS ((commP f (noteOf x)).getD 0) x.wH x.wn≠anchor then 11 else 0
def insE (f:Ask) (anchor:Int):List wK->List Int->Int
 |x::r,m::ms=>if inE f anchor m x≠0 then inE f anchor m x else insE f anchor r ms
 |_,_=>0
def outB (f:Ask) (n:wM) (c r:Int):Bool:=(commP f n).isSome&&(commP f n).getD 0==c&&n.Rho==r
def outsB (f:Ask):List wM->List Int->List Int->Bool
 |n::l,c::cs,r::rs=>outB f n c r&&outsB f l cs rs
 |_,_,_=>true
def inS (l:List wK):Int:=l.foldl (fun s x=>(s+x.wZ)%18446744073709551616) 0
def outS (l:List wM):Int:=l.foldl (fun s x=>(s+x.Value)%18446744073709551616) 0
def checkS (f:Ask) (s:wx) (w:wV):Int:=
 if relV s w=false then 1 else
 if insE f s.wW w.Ins s.wG≠0 then insE f s.wW w.Ins s.wG else
 if outsB f w.wB s.wj s.wAO=false then 1 else
 if 0<s.wI/\s.wP≠acctS w.wAN then 21 else
 if(inS w.Ins+s.wI)%18446744073709551616≠((outS w.wB+s.wL)%18446744073709551616+s.Fee)%18446744073709551616 then 13 else 0
structure NR (n:wM):Prop where
 v:U64 n.Value
 o:U64 n.wAi
 r:U64 n.Rho
 b:U64 n.wAk
structure PR (x:wK):Prop where
 n:NR (noteOf x)
 k:U64 x.Key
 nu: -9223372036854775808<=x.wAY/\x.wAY<=9223372036854775807
 po: -9223372036854775808<=x.wH/\x.wH<=9223372036854775807
 pa:Us x.wn
 pl:x.wn.length<=1073741824
structure WR (w:wV):Prop where
 i:∀x∈w.Ins,PR x
 il:w.Ins.length<=1073741824
 o:∀x∈w.wB,NR x
 ol:w.wB.length<=1073741824
 s:U64 w.wAN
structure SR (s:wx):Prop where
 d: -9223372036854775808<=s.wC/\s.wC<=9223372036854775807
 a:U64 s.wW
 m:Us s.wG
 ml:s.wG.length<=1073741824
 c:Us s.wj
 cl:s.wj.length<=1073741824
 r:Us s.wAO
 rl:s.wAO.length<=1073741824
 de:U64 s.wI
 wi:U64 s.wL
 f:U64 s.Fee
 ac:U64 s.wP
 b:U64 s.wAw
structure PQ (x:wK):Prop where
 n:NR (noteOf x)
 k:U64 x.Key
 nu: -9223372036854775808<=x.wAY/\x.wAY<=9223372036854775807
 po: -9223372036854775808<=x.wH/\x.wH<=9223372036854775807
 pa:Us x.wn
 pl:x.wn.length<=9223372036854775807
structure WQ (w:wV):Prop where
 i:∀x∈w.Ins,PQ x
 il:w.Ins.length<=9223372036854775807
 o:∀x∈w.wB,NR x
 ol:w.wB.length<=9223372036854775807
 s:U64 w.wAN
structure SQ (s:wx):Prop where
 d: -9223372036854775808<=s.wC/\s.wC<=9223372036854775807
 a:U64 s.wW
 m:Us s.wG
 c:Us s.wj
 r:Us s.wAO
 de:U64 s.wI
 wi:U64 s.wL
 f:U64 s.Fee
 ac:U64 s.wP
 b:U64 s.wAw
def smallW (s:wx) (w:wV):Bool:=decide (s.wG.length<=8)&&decide (s.wj.length<=8)&&decide (s.wAO.length<=8)&&decide (w.Ins.length<=8)&&decide (w.wB.length<=8)&&w.Ins.all (fun x=>decide (x.wn.length<=20))
theorem kjn {s:wx} {w:wV}:smallW s w=true↔s.wG.length<=8/\s.wj.length<=8/\s.wAO.length<=8/\w.Ins.length<=8/\w.wB.length<=8/\∀x∈w.Ins,x.wn.length<=20:=by
 unfold smallW
 simp only[Bool.and_eq_true,decide_eq_true_eq,List.all_eq_true,and_assoc]
theorem WQ.wr {s:wx} {w:wV} (h:WQ w) (hs:smallW s w=true):WR w:=by
 obtain⟨_,_,_,h4,h5,h6⟩:=kjn.1 hs
 exact⟨fun x hx=>by have:=h.i x hx;have:=h6 x hx;exact⟨(h.i x hx).n,(h.i x hx).k,(h.i x hx).nu,(h.i x hx).po,(h.i x hx).pa,by omega⟩,by omega,h.o,by omega,h.s⟩
theorem khd {s:wx} {w:wV}:relV s w=true↔(1<=s.wC/\s.wC<=12/\allB [s.wW,s.wP,s.wAw,w.wAN]=true/\s.wI<=4294967295/\s.wL<=4294967295/\s.Fee<=4294967295/\allB s.wG=true/\allB s.wj=true/\allB s.wAO=true/\w.Ins.length=s.wG.length/\w.Ins.length<=4/\w.wB.length=s.wj.length/\w.wB.length=s.wAO.length/\w.wB.length<=4/\w.Ins.all (inV s.wC)=true/\w.wB.all noteV=true):=by
 unfold relV
 simp only[Bool.and_eq_true,decide_eq_true_eq,and_assoc]
theorem k4r {f:Ask} {s:wx} {w:wV}:checkS f s w=0↔relV s w=true/\insE f s.wW w.Ins s.wG=0/\outsB f w.wB s.wj s.wAO=true/\(0<s.wI->s.wP=acctS w.wAN)/\
  (inS w.Ins+s.wI)%18446744073709551616=((outS w.wB+s.wL)%18446744073709551616+s.Fee)%18446744073709551616:=by
 unfold checkS
 constructor
 ·intro h
  split at h
  ·simp at h
  ·rename_i h1
   split at h
   ·rename_i h2;exact(h2 h).elim
   ·rename_i h2
    split at h
    ·simp at h
    ·rename_i h3
     split at h
     ·simp at h
     ·rename_i h4
      split at h
      ·simp at h
      ·rename_i h5
       exact⟨by simpa using h1,by simpa using h2,by simpa using h3,fun h=>by
        by_cases ha:s.wP=acctS w.wAN
        ·exact ha
        ·exact(h4 ⟨h,ha⟩).elim,by simpa using h5⟩
 ·rintro ⟨h1,h2,h3,h4,h5⟩
  rw[if_neg (by simp[h1]),if_neg (by simp[h2]),if_neg (by simp[h3]),if_neg (fun h=>h.2 (h4 h.1)),if_neg (fun h=>h h5)]
theorem pkR_u {l:Int} {a:List Int}:pkR l a=none∨∃n,pkR l a=some n/\U64 n:=by
 unfold pkR
 split
 ·exact .inr ⟨_,rfl,kr _ _⟩
 ·exact .inl rfl
end Go.Proofs.YtijdfglbhaedoaaGreat
end
