/-
  Parts of the proofs that the laws of this seat hold of every input, merged by a program: a machine over pure data that is sound for the model, what each function of the translation does in it, and plain lemmas. No conditions but those in each theorem.
-/
import Derived.Test.YtijdfglbhaedoaaGreatA3
set_option maxRecDepth 100000
noncomputable section
namespace Go.Bv
open Go.RowKit
def Lk (T:Tk) (s s' :St):Prop:=∀(G0:Gh) (w0:World) (N:Nat) (a:Act) (G:Gh) (w:World),R T G0 w0 N s a G w->∃G',R T G0 w0 N s' a G' w
theorem Wk.lk {T:Tk} {s s' :St} (h:Wk s s'):Lk T s s' :=fun G0 w0 N a G w hR=>⟨G,h T G0 w0 N a G w hR⟩
theorem St.le.lk {T:Tk} {s s' :St} (h:St.le T.nx s s'):Lk T s s' :=fun _ _ _ _ G _ hR=>⟨G,hR.le h⟩
theorem Lk.trans {T:Tk} {a b c:St} (h:Lk T a b) (h' :Lk T b c):Lk T a c:=fun G0 w0 N x G w hR=>let⟨G1,h1⟩:=h G0 w0 N x G w hR;h' G0 w0 N x G1 w h1
section
variable {P:Program} {T:Tk} {G0:Gh} {w0:World} {N:Nat} {s:St} {Q:Exit->St->Prop}
theorem sat_lk {c:Code} {s' :St} (hl:Lk T s s') (h:Sat P T G0 w0 N c s' Q):Sat P T G0 w0 N c s Q:=fun G a w hR=>let⟨G1,h1⟩:=hl _ _ _ _ _ _ hR;h G1 a w h1
theorem kcl {c:Code} {Q' :Exit->St->Prop} (h:Sat P T G0 w0 N c s Q) (hq:∀e s,Q e s->∃s',Q' e s'/\Lk T s s'):Sat P T G0 w0 N c s Q' :=
 fun G a w hR=>wp_mono (h G a w hR) fun _ _ _ ⟨s',G',h1,h2⟩=>let⟨s2,k1,k2⟩:=hq _ s' h1;let⟨G2,h3⟩:=k2 _ _ _ _ _ _ h2;⟨s2,G2,k1,h3⟩
theorem kax {ι:Type} (st:ι->St) (p:ι->Prop) (μ:ι->Nat) {c:Code} (i0:ι) (h0:p i0) (hl:Lk T s (st i0))
  (round:∀i,p i->Sat P T G0 w0 N c (st i) (thenA (fun s' =>∃i',p i'/\μ i' <μ i/\Lk T s' (st i')) Q)):Sat P T G0 w0 N (.loop c) s Q:=by
 intro G a w hR
 have key:∀n i,μ i=n->p i->∀G a w,R T G0 w0 N (st i) a G w->∀(b:Frame) (k:List Item) (cs:List Frame),∃e a' w',(∃s' G',Q e s'/\R T G0 w0 N s' a' G' w')/\Arrives P (lone (b.at a (.code c:: .inLoop c::k)) cs w) b k cs e a' w' :=by
  intro n
  induction n using Nat.strongRecOn with
  |_ n ih=>
   intro i hn hp G a w hR b k cs
   obtain⟨e,a1,w1,⟨s1,G1,hq,hR1⟩,harr⟩:=round i hp G a w hR b (.inLoop c::k) cs
   cases e with
   |normal=>
    obtain⟨i',h1,h2,h3⟩:=hq
    obtain⟨G2,hR2⟩:=h3 _ _ _ _ _ _ hR1
    obtain⟨e2,a2,w2,hq2,harr2⟩:=ih (μ i') (hn▸h2) i' rfl h1 G2 a1 w1 hR2 b k cs
    exact⟨e2,a2,w2,hq2,.of_steps (Steps.trans harr (.one step_inLoop)) harr2⟩
   |exit id=>exact⟨_,a1,w1,⟨s1,G1,hq,hR1⟩,.pass (x:= .inLoop c) rfl (fun _ _=> .inl (by simp)) harr⟩
   |goto l=>exact⟨_,a1,w1,⟨s1,G1,hq,hR1⟩,.pass (x:= .inLoop c) rfl (fun _ _=> .inl (by simp)) harr⟩
   |ret=>exact⟨_,a1,w1,⟨s1,G1,hq,hR1⟩,.pass (x:= .inLoop c) rfl (fun _ _=> .inl (by simp)) harr⟩
   |panic ch=>exact⟨_,a1,w1,⟨s1,G1,hq,hR1⟩,.pass (x:= .inLoop c) rfl (fun _ _=> .inl (by simp)) harr⟩
   |outgrown=>exact⟨_,a1,w1,⟨s1,G1,hq,hR1⟩,.pass (x:= .inLoop c) rfl (fun _ _=> .inl (by simp)) harr⟩
 intro b k cs
 obtain⟨G1,hR1⟩:=hl _ _ _ _ _ _ hR
 obtain⟨e,a',w',hq,harr⟩:=key _ i0 rfl h0 G1 a w hR1 b k cs
 exact⟨e,a',w',hq,.of_steps (.one step_loop) harr⟩
end
end Go.Bv
namespace Go.Cv
open Go Go.Bv Go.RowKit Go.Md
section
variable {T:Tab} {P:Program} {C:Cx T} {N:Nat}
theorem args_ok {σ:Nat->Nat} {f:List (Option (TOb T.den))} {m nx:Nat} (hσ:∀j,j<m->σ j<nx) (l:List Sh0) (r:List Ty) (x:HL T.den (hsT l r)) (h:okTB m l=true):∀z∈(tkT σ f l r x).1.map (er T),ok nx z:=by
 intro z hz
 rw[tkT_er]at hz
 obtain⟨u,_,rfl⟩:=List.mem_map.1 hz
 exact ok_of0 (okT_mem (tkT_ok hσ l r x h) _ hz) k1b
theorem sgs_lt {ids:List Nat} {n nx:Nat} (h:allLt nx ids=true) (hl:ids.length=n):∀j,j<n->sgs ids j<nx:=by
 intro j hj
 have hj:j<ids.length:=by omega
 have e:sgs ids j=ids[j]:=by simp[sgs,hj]
 rw[e]
 exact k18 h _ (List.getElem_mem hj)
def rho:List Nat->List Nat->Nat->Nat
 |x::a,y::b,i=>if i=x then y else rho a b i
 |_,_,i=>i
theorem k7w {x:Nat}:∀{l:List Nat} {p q:Nat},l.Nodup->l[p]? =some x->l[q]? =some x->p=q
 |[],p,q,_,h,_=>by simp at h
 |y::l,0,0,_,_,_=>rfl
 |y::l,0,q+1,hn,h1,h2=>by
  simp at h1 h2
  exact absurd (List.mem_of_getElem? h2) (by rw[<-h1];exact(List.nodup_cons.1 hn).1)
 |y::l,p+1,0,hn,h1,h2=>by
  simp at h1 h2
  exact absurd (List.mem_of_getElem? h1) (by rw[<-h2];exact(List.nodup_cons.1 hn).1)
 |y::l,p+1,q+1,hn,h1,h2=>by
  simp at h1 h2
  rw[k7w (List.nodup_cons.1 hn).2 h1 h2]
theorem rho_at:∀{a b:List Nat} {j:Nat},a.Nodup->j<a.length->j<b.length->rho a b (sgs a j)=sgs b j
 |[],_,j,_,h,_=>by simp at h
 |_::_,[],j,_,_,h=>by simp at h
 |x::a,y::b,0,_,_,_=>by simp[rho,sgs]
 |x::a,y::b,j+1,hn,h1,h2=>by
  have h1:j<a.length:=by simpa using h1
  have h2:j<b.length:=by simpa using h2
  have e1:sgs (x::a) (j+1)=sgs a j:=by simp[sgs]
  have e2:sgs (y::b) (j+1)=sgs b j:=by simp[sgs]
  have hne:sgs a j≠x:=by
   intro e
   rw[List.nodup_cons]at hn
   apply hn.1
   have:sgs a j=a[j]:=by simp[sgs,h1]
   rw[<-e,this]
   exact List.getElem_mem h1
  rw[e1,e2]
  simp only[rho]
  rw[if_neg hne]
  exact rho_at (List.nodup_cons.1 hn).2 h1 h2
theorem rho_fix {n0:Nat}:∀{a b:List Nat},fixB n0 a b=true->a.length=b.length/\∀i,i<n0->rho a b i=i
 |[],[],_=>⟨rfl,fun _ _=>rfl⟩
 |[],_::_,h=>by cases h
 |_::_,[],h=>by cases h
 |x::a,y::b,h=>by
  simp only[fixB,Bool.and_eq_true,Bool.or_eq_true,Bool.not_eq_true']at h
  obtain⟨g1,g2⟩:=rho_fix h.2
  refine⟨by simp[g1],fun i hi=> ?_⟩
  simp only[rho]
  split
  ·rename_i e
   subst e
   rcases h.1 with h1|h1
   ·have:Nat.blt i n0=true:=by simp[Nat.blt_eq,hi]
    rw[this]at h1;cases h1
   ·exact(nb_eq h1).symm
  ·exact g2 i hi
theorem rho_lt {n:Nat}:∀{a b:List Nat} {i:Nat},(∀x∈b,x<n)->i<n->rho a b i<n
 |[],[],_,_,h=>h
 |[],_::_,_,_,h=>h
 |_::_,[],_,_,h=>h
 |x::a,y::b,i,hb,h=>by
  simp only[rho]
  split
  ·exact hb y (by simp)
  ·exact rho_lt (fun z hz=>hb z (by simp[hz])) h
theorem k2e {ρ σ τ:Nat->Nat} {m:Nat} (h:∀j,j<m->ρ (σ j)=τ j):∀{l:List (Option (Nat×Nat))},okP m l->renP ρ (renP σ l)=renP τ l
 |[],_=>rfl
 |none::_,hl=>congrArg (List.cons none) (k2e h (l:=_) hl)
 |some (i,_)::_,hl=>by
  simp only[renP]
  rw[h i hl.1,k2e h hl.2]
theorem kh2 {ρ σ τ:Nat->Nat} {m:Nat} (h:∀j,j<m->ρ (σ j)=τ j) {x:V} (hx:ok1 m x):ren1 ρ (ren1 σ x)=ren1 τ x:=by
 cases x<;>first|rfl|(simp only[ren1];rw[h _ hx])|(simp only[ren1];rw[k2e h hx.1,k2e h hx.2])|exact False.elim hx
theorem k8h {ρ σ τ:Nat->Nat} {m:Nat} (h:∀j,j<m->ρ (σ j)=τ j):∀{l:List V},okL m l->(l.map (ren1 σ)).map (ren1 ρ)=l.map (ren1 τ)
 |[],_=>rfl
 |x::l,hl=>by
  simp only[List.map_cons]
  rw[kh2 h hl.1,k8h h hl.2]
theorem k8n {ρ σ τ:Nat->Nat} {m:Nat} (h:∀j,j<m->ρ (σ j)=τ j) {x:V} (hx:ok0 m x):ren0 ρ (ren0 σ x)=ren0 τ x:=by
 cases x with
 |agg l=>exact congrArg V.agg (k8h h hx)
 |_=>first|rfl|exact False.elim hx|(simp only[ren0,ren1];rw[h _ hx])|(simp only[ren0,ren1];rw[k2e h hx.1,k2e h hx.2])
theorem k8s {ρ σ τ:Nat->Nat} {m:Nat} (h:∀j,j<m->ρ (σ j)=τ j):∀{l:List V},okT m l->(l.map (ren0 σ)).map (ren0 ρ)=l.map (ren0 τ)
 |[],_=>rfl
 |x::l,hl=>by
  simp only[List.map_cons]
  rw[k8n h hl.1,k8s h hl.2]
theorem k8e {ρ σ τ:Nat->Nat} {m:Nat} (h:∀j,j<m->ρ (σ j)=τ j):∀{l:List (D×V)},okM m l->(l.map fun e=>(e.1,ren0 σ e.2)).map (fun e=>(e.1,ren0 ρ e.2))=l.map fun e=>(e.1,ren0 τ e.2)
 |[],_=>rfl
 |x::l,hl=>by
  simp only[List.map_cons]
  rw[k8n h hl.1,k8e h hl.2]
theorem kd4 {ρ σ τ:Nat->Nat} {m:Nat} (h:∀j,j<m->ρ (σ j)=τ j) {o:Ob} (ho:okO m o):renO ρ (renO σ o)=renO τ o:=by
 cases o with
 |cells l=>exact congrArg Ob.cells (k8h h ho)
 |map x=>cases x with
  |m l=>exact congrArg (fun z=>Ob.map (.m z)) (k8e h ho)
  |it mid l last=>
   show Ob.map (.it (ρ (σ mid)) _ _)=Ob.map (.it (τ mid) _ _)
   rw[h mid ho.1,k8e h ho.2.1]
   cases last with
   |none=>rfl
   |some e=>
    show Ob.map (.it _ _ (some (e.1,ren0 ρ (ren0 σ e.2))))=Ob.map (.it _ _ (some (e.1,ren0 τ e.2)))
    rw[k8n h (ho.2.2 e rfl)]
 |_=>rfl
theorem hpN_get {σ:Nat->Nat}:∀(os:List (TOb T.den)) (k i:Nat) (ob:Ob),Hp.get (erH T (hpN σ k os)) i=some ob->∃p o,os[p]? =some o/\i=σ (k+p)/\ob=erO T o
 |[],k,i,ob,h=>by cases h
 |o::os,k,i,ob,h=>by
  have h:Hp.get ((σ k,erO T o)::erH T (hpN σ (k+1) os)) i=some ob:=h
  simp only[Hp.get]at h
  split at h
  ·rename_i e
   injection h with h
   exact⟨0,o,rfl,e,h.symm⟩
  ·obtain⟨p,o',h1,h2,h3⟩:=hpN_get os (k+1) i ob h
   exact⟨p+1,o',by simpa using h1,by rw[h2];congr 1;omega,h3⟩
theorem slotsR {sl:List (Nat×TV T.den)} {nx:Nat} {ρ:Nat->Nat}:∀(ts:List Nat) (vs:List (TV T.den)),leAll ((ts.map (getT sl)).map (er T)) ((vs.map (er T)).map (ren ρ))->(∀z∈vs.map (er T),ok nx z)->∀t,
  getS ((zipS T ts vs).map fun p=>(p.1,er T p.2)) t= .any∨(le (getS (sl.map fun p=>(p.1,er T p.2)) t) (ren ρ (getS ((zipS T ts vs).map fun p=>(p.1,er T p.2)) t))/\ok nx (getS ((zipS T ts vs).map fun p=>(p.1,er T p.2)) t))
 |[],[],_,_,_=> .inl rfl
 |[],_::_,h,_,_=>h.elim
 |_::_,[],h,_,_=>h.elim
 |u::ts,v::vs,h,ho,t=>by
  simp only[zipS,List.map_cons,getS]
  split
  ·rename_i e
   subst e
   refine .inr ⟨?_,ho _ (by simp)⟩
   rw[getS_er]
   exact h.1
  ·exact slotsR ts vs h.2 (fun z hz=>ho z (by simp only[List.map_cons,List.mem_cons];exact .inr hz)) t
theorem fcL_eq:∀{l:List Nat} {K:List Nat->Prop},fcL l K->K l
 |[],_,h=>h
 |x::r,K,h=>fcL_eq (l:=r) (K:=fun r=>K (x::r)) h
theorem mat_snd (hT:T.Ok) {Tk:Tk} {m:Tm} {s:TSt T.den} {J:HL T.den m.hs->Prop} (h:m.mat T Tk.nx s J):∃i,J i/\Lk Tk (erS T s) (erS T (m.fill T i)):=by
 unfold Tm.mat at h
 obtain⟨h1,h2⟩:=cnd h
 simp only[Bool.and_eq_true,Tm.okB]at h1
 obtain⟨⟨a1,a2⟩,⟨⟨⟨⟨⟨⟨b1,b2⟩,b3⟩,b4⟩,b5⟩,b6⟩,b7⟩⟩:=h1
 replace h2:=fcL_eq h2
 generalize m.at T Tk.nx s=ids at h2
 obtain⟨h3,h4⟩:=cnd h2
 simp only[Bool.and_eq_true]at h3
 obtain⟨⟨⟨c1,c2⟩,c3⟩,c4⟩:=h3
 have c1:=k1d c1
 have c2:=k1d c2
 obtain⟨c5,c6⟩:=rho_fix c4
 split at h4
 ·rename_i b hb
  obtain⟨y,g1,g2,g3⟩:=k4r hT b7 hb h4
  obtain⟨x,k1,k2,_,k4⟩:=mtT_snd m.ss _ _ y _ b6 g1
  have hf:m.f T x=tkB m.os b:=by unfold Tm.f;rw[k2,g2]
  have hlt:=sgs_lt b3 (nb_eq b4)
  have hlen:m.os.length=m.ids.length:=(nb_eq b4).symm
  have hrho:∀j,j<m.os.length->rho m.ids ids (sgs m.ids j)=sgs ids j:=fun j hj=>rho_at c1 (by omega) (by omega)
  have hid1:∀j,j<m.os.length->idf j<m.os.length:=fun j h=>h
  refine⟨x,k1,fun G0 w0 N a G w hR=> ?_⟩
  have hget:∀id ob,(erS T (m.fill T x)).h.get id=some ob->∃p o,(tkC (sgs m.ids) (tkB m.os b) 0 m.os (hsB m.os) y).1[p]? =some o/\p<m.os.length/\id=sgs m.ids p/\ob=erO T o:=by
   intro id ob hg
   have hg:Hp.get (erH T (hpN (sgs m.ids) 0 (tkC (sgs m.ids) (m.f T x) 0 m.os _ (drT m.ss _ x)).1)) id=some ob:=hg
   rw[hf,k2]at hg
   obtain⟨p,o,q1,q2,q3⟩:=hpN_get _ _ _ _ hg
   rw[Nat.zero_add]at q2
   exact⟨p,o,q1,by have:=(List.getElem?_eq_some_iff.1 q1).1;rw[tkC_len]at this;exact this,q2,q3⟩
  refine hR.leRen (σ:=rho m.ids ids) (ble_le a1) c6 (fun i hi=>rho_lt (k18 c3) (Nat.lt_of_lt_of_le hi (ble_le a2))) (fun i j li lj hij=> ?_) (fun id ob hg=> ?_) ?_
  ·obtain⟨oi,hoi,_⟩:=live_of li
   obtain⟨oj,hoj,_⟩:=live_of lj
   obtain⟨p,_,_,q1,q2,_⟩:=hget i oi hoi
   obtain⟨q,_,_,r1,r2,_⟩:=hget j oj hoj
   rw[q2,r2,hrho p q1,hrho q r1]at hij
   have e1:sgs ids p=ids[p]'(by omega):=by simp[sgs,show p<ids.length by omega]
   have e2:sgs ids q=ids[q]'(by omega):=by simp[sgs,show q<ids.length by omega]
   rw[e1,e2]at hij
   have:=k7w c2 (List.getElem?_eq_getElem (show p<ids.length by omega)) (by rw[hij];exact List.getElem?_eq_getElem (show q<ids.length by omega))
   rw[q2,r2,this]
  ·obtain⟨p,o,q1,q2,rfl,rfl⟩:=hget id ob hg
   refine⟨hlt p q2,?_,tkC_ok (k12 _ _) hlt 0 m.os _ y b2 p o q1⟩
   
   have hl1:p<(tkC (sgs ids) (tkB m.os b) 0 m.os (hsB m.os) y).1.length:=by rw[tkC_len];exact q2
   have hl0:p<(tkC idf (tkB m.os b) 0 m.os (hsB m.os) y).1.length:=by rw[tkC_len];exact q2
   have w1:=congrArg (fun l=>l[p]?) (tkC_ren (sgs m.ids) (tkB m.os b) (k12 m.os b) 0 m.os (hsB m.os) y)
   have w2:=congrArg (fun l=>l[p]?) (tkC_ren (sgs ids) (tkB m.os b) (k12 m.os b) 0 m.os (hsB m.os) y)
   simp only[List.getElem?_map,q1,Option.map_some,List.getElem?_eq_getElem hl0,List.getElem?_eq_getElem hl1,Option.some.injEq]at w1 w2
   have w3:=tkC_ok (k12 m.os b) hid1 0 m.os (hsB m.os) y b2 p _ (List.getElem?_eq_getElem hl0)
   rw[hrho p q2,w1,kd4 hrho w3,<-w2]
   exact g3 p _ (List.getElem?_eq_getElem hl1)
  ·intro t
   have key:leAll ((m.ts.map (getT s.sl)).map (er T)) (((tkT (sgs m.ids) (m.f T x) m.ss (hsOs m.os) x).1.map (er T)).map (ren (rho m.ids ids))):=by
    have e1:((tkT (sgs m.ids) (m.f T x) m.ss (hsOs m.os) x).1.map (er T)).map (ren (rho m.ids ids))=(tkT (sgs ids) (tkB m.os b) m.ss (hsOs m.os) x).1.map (er T):=by
     rw[hf,tkT_er,tkT_er]
     have:((tkT (sgs m.ids) (tkB m.os b) m.ss (hsOs m.os) x).1.map (er0 T)).map (ren (rho m.ids ids))=((tkT (sgs m.ids) (tkB m.os b) m.ss (hsOs m.os) x).1.map (er0 T)).map (ren0 (rho m.ids ids)):=by
      rw[List.map_map,List.map_map]
      exact List.map_congr_left fun v _=>ren_0 _ k1b
     rw[this,k1z (sgs m.ids),k1z (sgs ids)]
     exact k8s hrho (tkT_ok hid1 m.ss _ x b1)
    rw[e1];exact k4
   exact slotsR m.ts _ key (args_ok hlt m.ss _ x b1) t
 ·exact h4.elim
section
variable {Tk:Tk} {G0:Gh} {w0:World} {a:Act} {G:Gh} {w:World}
theorem k9m {id n z:Nat} {v:TV T.den} {h:THp T.den} {nx:Nat} (hv:∀u,RepV G w (erH T h) nx u (.row id 0 n z)->RepV G w (erH T h) nx u (er T v)):∀(ts:List Nat) (sl:List (Nat×TV T.den)) (K:List (Nat×TV T.den)->Prop),rowsTo T id v n z ts sl K->R Tk G0 w0 N (erS T ⟨sl,h,nx⟩) a G w->∃sl',K sl'/\R Tk G0 w0 N (erS T ⟨sl',h,nx⟩) a G w
 |[],sl,K,hk,hR=>⟨sl,hk,hR⟩
 |t::ts,sl,K,hk,hR=>by
  simp only[rowsTo]at hk
  split at hk
  ·rename_i i e' m hg
   obtain⟨h1,h2,h3⟩:=cnd hk
   simp only[Bool.and_eq_true]at h1
   refine k9m hv ts _ K h3 ?_
   have hs:=hR.sl t
   rw[show getS (erS T ⟨sl,h,nx⟩).sl t=er T (getT sl t)from getS_er sl t,hg]at hs
   have hs:RepV G w (erH T h) nx (a.tmps.getD t undef) (.row i 0 m (T.sz e')):=hs
   rw[nb_eq h1.1,h2,nb_eq h1.2]at hs
   exact hR.reslot t (hv _ hs)
  ·exact hk.elim
theorem kaq {e:Ty} {v:TV T.den} {l:List (e.den T.den)} (h:growE T e v=some l):growsFrom (T.sz e) (l.map (T.e e)) (er1 T v)/\v.sim=true:=by
 unfold growE at h
 split at h
 ·obtain⟨c1,c2,_⟩:=km h
  exact⟨⟨c1,c2⟩,rfl⟩
 ·rename_i u
  cases hn:isNilK u with
  |false=>rw[hn]at h;cases h
  |true=>
   rw[hn]at h
   injection h with h
   subst h
   rw[k1e hn]
   exact⟨rfl,rfl⟩
 ·cases h
theorem kas {h:THp T.den} {v:TV T.den} {K:Nat->(e:Ty)->List (e.den T.den)->Prop} (hh:trimV T h v K):
  ∃id e l l0,K id e l/\getH h id=some (.vec e l0)/\l=l0.take l.length/\l.length<=l0.length/\er1 T v= .row id 0 l.length (T.sz e)/\v.sim=true:=by
 unfold trimV at hh
 split at hh
 ·rename_i id e n
  split at hh
  ·rename_i e' l hg
   obtain⟨h1,h2,h3⟩:=cnd hh
   obtain rfl:=Ty.eq_of_beq h1
   exact⟨id,e,l,l,h3,hg,by simp,Nat.le_refl _,by rw[h2];rfl,rfl⟩
  ·exact hh.elim
 ·rename_i id e off n
  split at hh
  ·rename_i e' l hg
   obtain⟨h1,h2,h3,h4⟩:=cnd hh
   obtain rfl:=Ty.eq_of_beq h1
   have e1:(l.take n).length=n:=by rw[List.length_take];omega
   exact⟨id,e,l.take n,l,h4,hg,by rw[e1],by rw[e1];exact h3,by rw[e1,h2];simp[er1],rfl⟩
  ·exact hh.elim
 ·exact hh.elim
theorem trim_ob (hT:T.Ok) {e:Ty} {l l0:List (e.den T.den)} (h1:l=l0.take l.length) (h2:l.length<=l0.length):(((l0.map (T.e e)).flatMap D.cells).map V.d).take (l.length*T.sz e)=((l.map (T.e e)).flatMap D.cells).map V.d:=by
 rw[<-List.map_take,k6m hT l0 _ h2,<-h1]
theorem vec_set {e:Ty} (l:List (e.den T.den)) (i:Nat) (y:e.den T.den) (hi:i<l.length):erO T (.vec e (l.set i y))= .cells ((((l.take i).map (T.e e)).flatMap D.cells).map V.d++(T.e e y).cells.map V.d++(((l.drop (i+1)).map (T.e e)).flatMap D.cells).map V.d):=by
 show Ob.cells ((((l.set i y).map (T.e e)).flatMap D.cells).map V.d)=_
 rw[List.set_eq_take_append_cons_drop,if_pos hi]
 simp only[List.map_append,List.map_cons,List.flatMap_append,List.flatMap_cons,List.append_assoc]
theorem gh1_snd (hT:T.Ok) {s:TSt T.den} {K:TSt T.den->Prop}:∀(g:Gs),gh1 T s K g->R Tk G0 w0 N (erS T s) a G w->∃s' G',K s'/\R Tk G0 w0 N (erS T s') a G' w
 | .frz id ts,h,hR=>by
  simp only[gh1]at h
  split at h
  ·rename_i e l hg
   have hgl:(erS T s).h.get id=some (.cells (((l.map (T.e e)).flatMap D.cells).map V.d)):=by show(erH T s.h).get id=_;rw[getH_er,hg];rfl
   obtain⟨G',h1,_,h2⟩:=hR.freeze hgl (map_sz hT l) (by rw[List.length_map]:(l.map (T.e e)).length=l.length)
   obtain⟨sl',k1,k2⟩:=k9m (T:=T) (h:=(s.nx,.tip e l)::(id,.dead)::s.h) (nx:=s.nx+1) (v:= .own s.nx e l) (z:=T.sz e) (n:=l.length) (id:=id) (G:=G') (w:=w) (fun u hu=>h2 u hu) ts s.sl _ h h1
   exact⟨_,G',k1,k2⟩
  ·exact h.elim
 | .frzc id i j,h,hR=>by
  simp only[gh1]at h
  split at h
  ·rename_i e l cs hg hi
   split at h
   ·rename_i id' e' m hj
    obtain⟨h1,h2,h3⟩:=cnd h
    simp only[Bool.and_eq_true,Bool.not_eq_true']at h1
    have q1:=nb_eq h1.1.1
    have q2:=Ty.eq_of_beq h1.1.2
    have q3:i≠id:=fun e=>by rw[e,nb_self]at h1;cases h1.2
    subst q1
    subst q2
    subst h2
    have hgl:(erS T s).h.get id' =some (.cells (((l.map (T.e e')).flatMap D.cells).map V.d)):=by show(erH T s.h).get id' =_;rw[getH_er,hg];rfl
    have hil:(erS T s).h.get i=some (.cells (cs.map (er1 T))):=by show(erH T s.h).get i=_;rw[getH_er,hi];rfl
    obtain⟨G',f1,_,f2⟩:=hR.freeze hgl (map_sz hT l) (by rw[List.length_map]:(l.map (T.e e')).length=l.length)
    have hin:i<s.nx:=hR.wr.hid _ _ hil
    have hg' :Hp.get ((s.nx,Ob.tip l.length)::(id',.dead)::erH T s.h) i=some (.cells (cs.map (er1 T))):=by simp only[Hp.get];rw[if_neg (by omega),if_neg q3];exact hil
    have hx:(cs.map (er1 T))[j]? =some (.row id' 0 l.length (T.sz e')):=by rw[List.getElem?_map,hj];rfl
    have:=f1.recell (s:=⟨(erS T s).sl,(s.nx,.tip l.length)::(id',.dead)::erH T s.h,s.nx+1⟩) (y:= .own s.nx (T.sz e') (l.map (T.e e'))) hg' hx rfl (fun v=>f2 v)
    refine⟨_,G',h3,?_⟩
    have e:erS T ⟨s.sl,(i,.cells (cs.set j (.own s.nx e' l)))::(s.nx,.tip e' l)::(id',.dead)::s.h,s.nx+1⟩=⟨(erS T s).sl,(i,.cells ((cs.map (er1 T)).set j (.own s.nx (T.sz e') (l.map (T.e e')))))::(s.nx,.tip l.length)::(id',.dead)::erH T s.h,s.nx+1⟩:=by
     show St.mk _ ((i,Ob.cells ((cs.set j (.own s.nx e' l)).map (er1 T)))::_) _=_
     rw[List.map_set];rfl
    rw[e];exact this
   ·exact h.elim
  ·exact h.elim
 | .tok t e,h,hR=>by
  simp only[gh1]at h
  split at h
  ·rename_i l hl
   obtain⟨g1,g2⟩:=kaq hl
   obtain⟨G',h1,h2⟩:=hR.tok (T.sz e) (l.map (T.e e))
   rw[List.length_map]at h1 h2
   have hs:=h1.sl t
   have hs:RepV G' w ((s.nx,.tip l.length)::erH T s.h) (s.nx+1) (a.tmps.getD t undef) (getS (erS T s).sl t):=hs
   rw[show getS (erS T s).sl t=er T (getT s.sl t)from getS_er s.sl t,er_sim g2]at hs
   exact⟨_,G',h,h1.reslot t (h2 _ _ g1 hs)⟩
  ·exact h.elim
 | .tokc id j e,h,hR=>by
  simp only[gh1]at h
  split at h
  ·rename_i cs hi
   split at h
   ·rename_i v hj
    split at h
    ·rename_i l hl
     obtain⟨g1,g2⟩:=kaq hl
     have hil:(erS T s).h.get id=some (.cells (cs.map (er1 T))):=by show(erH T s.h).get id=_;rw[getH_er,hi];rfl
     obtain⟨G',h1,h2⟩:=hR.tok (T.sz e) (l.map (T.e e))
     rw[List.length_map]at h1 h2
     have hin:id<s.nx:=hR.wr.hid _ _ hil
     have hg' :Hp.get ((s.nx,Ob.tip l.length)::erH T s.h) id=some (.cells (cs.map (er1 T))):=by simp only[Hp.get];rw[if_neg (by omega)];exact hil
     have hx:(cs.map (er1 T))[j]? =some (er1 T v):=by rw[List.getElem?_map,hj];rfl
     have:=h1.recell (s:=⟨(erS T s).sl,(s.nx,.tip l.length)::erH T s.h,s.nx+1⟩) (y:= .own s.nx (T.sz e) (l.map (T.e e))) hg' hx rfl (fun u=>h2 _ u g1)
     refine⟨_,G',h,?_⟩
     have e:erS T ⟨s.sl,(id,.cells (cs.set j (.own s.nx e l)))::(s.nx,.tip e l)::s.h,s.nx+1⟩=⟨(erS T s).sl,(id,.cells ((cs.map (er1 T)).set j (.own s.nx (T.sz e) (l.map (T.e e)))))::(s.nx,.tip l.length)::erH T s.h,s.nx+1⟩:=by
      show St.mk _ ((id,Ob.cells ((cs.set j (.own s.nx e l)).map (er1 T)))::_) _=_
      rw[List.map_set];rfl
     rw[e];exact this
    ·exact h.elim
   ·exact h.elim
  ·exact h.elim
 | .trim t,h,hR=>by
  simp only[gh1]at h
  obtain⟨id,e,l,l0,h1,h2,h3,h4,h5,h6⟩:=kas h
  have hgl:(erS T s).h.get id=some (.cells (((l0.map (T.e e)).flatMap D.cells).map V.d)):=by show(erH T s.h).get id=_;rw[getH_er,h2];rfl
  obtain⟨G',f1,f2⟩:=hR.trim hgl (l.length*T.sz e)
  rw[trim_ob hT h3 h4]at f1 f2
  have hs:=f1.sl t
  have hs:RepV G' w ((s.nx,.cells (((l.map (T.e e)).flatMap D.cells).map V.d))::(id,.dead)::erH T s.h) (s.nx+1) (a.tmps.getD t undef) (getS (erS T s).sl t):=hs
  rw[show getS (erS T s).sl t=er T (getT s.sl t)from getS_er s.sl t,er_sim h6,h5]at hs
  exact⟨_,G',h1,f1.reslot t (f2 _ _ _ hs)⟩
 | .trimc id j,h,hR=>by
  simp only[gh1]at h
  split at h
  ·rename_i cs hi
   split at h
   ·rename_i v hj
    obtain⟨id',e,l,l0,h1,h2,h3,h4,h5,h6⟩:=kas h
    have hne:id'≠id:=by rintro rfl;rw[hi]at h2;cases h2
    rw[nb_ne hne,cond_false]at h1
    have hgl:(erS T s).h.get id' =some (.cells (((l0.map (T.e e)).flatMap D.cells).map V.d)):=by show(erH T s.h).get id' =_;rw[getH_er,h2];rfl
    have hil:(erS T s).h.get id=some (.cells (cs.map (er1 T))):=by show(erH T s.h).get id=_;rw[getH_er,hi];rfl
    obtain⟨G',f1,f2⟩:=hR.trim hgl (l.length*T.sz e)
    rw[trim_ob hT h3 h4]at f1 f2
    have hin:id<s.nx:=hR.wr.hid _ _ hil
    have hg' :Hp.get ((s.nx,Ob.cells (((l.map (T.e e)).flatMap D.cells).map V.d))::(id',.dead)::erH T s.h) id=some (.cells (cs.map (er1 T))):=by simp only[Hp.get];rw[if_neg (by omega),if_neg (Ne.symm hne)];exact hil
    have hx:(cs.map (er1 T))[j]? =some (.row id' 0 l.length (T.sz e)):=by rw[List.getElem?_map,hj,<-h5];rfl
    have:=f1.recell (s:=⟨(erS T s).sl,(s.nx,.cells (((l.map (T.e e)).flatMap D.cells).map V.d))::(id',.dead)::erH T s.h,s.nx+1⟩) (y:= .row s.nx 0 l.length (T.sz e)) hg' hx rfl (fun u=>f2 u _ _)
    refine⟨_,G',h1,?_⟩
    have e1:erS T ⟨s.sl,(id,.cells (cs.set j (.row s.nx e l.length)))::(s.nx,.vec e l)::(id',.dead)::s.h,s.nx+1⟩=⟨(erS T s).sl,(id,.cells ((cs.map (er1 T)).set j (.row s.nx 0 l.length (T.sz e))))::(s.nx,.cells (((l.map (T.e e)).flatMap D.cells).map V.d))::(id',.dead)::erH T s.h,s.nx+1⟩:=by
     show St.mk _ ((id,Ob.cells ((cs.set j (.row s.nx e l.length)).map (er1 T)))::_) _=_
     rw[List.map_set];rfl
    rw[e1];exact this
   ·exact h.elim
  ·exact h.elim
 | .rnil t e,h,hR=>by
  simp only[gh1]at h
  obtain⟨h1,h2⟩:=cnd h
  obtain⟨q1,q2⟩:=isE_er (T:=T) h1
  obtain⟨G',f1,f2⟩:=hR.rnil
  have hs:=f1.sl t
  have hs:RepV G' w ((s.nx,.cells [])::erH T s.h) (s.nx+1) (a.tmps.getD t undef) (getS (erS T s).sl t):=hs
  rw[show getS (erS T s).sl t=er T (getT s.sl t)from getS_er s.sl t]at hs
  exact⟨_,G',h2,f1.reslot t (f2 _ _ _ q1 hs)⟩
 | .rnilc id j e,h,hR=>by
  simp only[gh1]at h
  split at h
  ·rename_i cs hi
   split at h
   ·rename_i v hj
    obtain⟨h1,h2⟩:=cnd h
    obtain⟨q1,q2⟩:=isE_er (T:=T) h1
    rw[er_of1 q2]at q1
    have hil:(erS T s).h.get id=some (.cells (cs.map (er1 T))):=by show(erH T s.h).get id=_;rw[getH_er,hi];rfl
    obtain⟨G',f1,f2⟩:=hR.rnil
    have hin:id<s.nx:=hR.wr.hid _ _ hil
    have hg' :Hp.get ((s.nx,Ob.cells [])::erH T s.h) id=some (.cells (cs.map (er1 T))):=by simp only[Hp.get];rw[if_neg (by omega)];exact hil
    have hx:(cs.map (er1 T))[j]? =some (er1 T v):=by rw[List.getElem?_map,hj];rfl
    have:=f1.recell (s:=⟨(erS T s).sl,(s.nx,.cells [])::erH T s.h,s.nx+1⟩) (y:= .row s.nx 0 0 (T.sz e)) hg' hx rfl (fun u=>f2 u _ _ q1)
    refine⟨_,G',h2,?_⟩
    have e1:erS T ⟨s.sl,(id,.cells (cs.set j (.row s.nx e 0)))::(s.nx,.vec e [])::s.h,s.nx+1⟩=⟨(erS T s).sl,(id,.cells ((cs.map (er1 T)).set j (.row s.nx 0 0 (T.sz e))))::(s.nx,.cells [])::erH T s.h,s.nx+1⟩:=by
     show St.mk _ ((id,Ob.cells ((cs.set j (.row s.nx e 0)).map (er1 T)))::_) _=_
     rw[List.map_set];rfl
    rw[e1];exact this
   ·exact h.elim
  ·exact h.elim
 | .frzf id i,h,hR=>by
  simp only[gh1]at h
  split at h
  ·rename_i e l z x k off rid re m hg hi
   obtain⟨h1,h⟩:=cnd h
   simp only[Bool.and_eq_true,Bool.not_eq_true']at h1
   obtain⟨⟨⟨p1,p2⟩,p3⟩,p4⟩:=h1
   obtain rfl:=nb_eq p1
   obtain rfl:=Ty.eq_of_beq p2
   have q3:i≠rid:=fun e=>by rw[e,nb_self]at p3;cases p3
   have q4:off<(T.tys z).length:=Nat.le_of_ble_eq_true p4
   split at h
   ·rename_i y hy
    obtain⟨⟨rfl,h3,h4⟩,h5⟩:=h
    have hgl:(erS T s).h.get rid=some (.cells (((l.map (T.e re)).flatMap D.cells).map V.d)):=by show(erH T s.h).get rid=_;rw[getH_er,hg];rfl
    have hil:(erS T s).h.get i=some (.cells ((((x.map (T.e (.st z))).flatMap D.cells).map V.d).set (k.toNat*T.sz (.st z)+off) (.row rid 0 l.length (T.sz re)))):=by show(erH T s.h).get i=_;rw[getH_er,hi];rfl
    have hm:(k.toNat+1)*T.sz (.st z)<=x.length*T.sz (.st z):=Nat.mul_le_mul_right _ (by omega)
    rw[Nat.add_mul,Nat.one_mul]at hm
    have q4:off<T.sz (.st z):=q4
    have hlen:k.toNat*T.sz (.st z)+off<(((x.map (T.e (.st z))).flatMap D.cells).map V.d).length:=by rw[List.length_map,k16 hT];omega
    obtain⟨G',f1,_,f2⟩:=hR.freeze hgl (map_sz hT l) (by rw[List.length_map]:(l.map (T.e re)).length=l.length)
    have hin:i<s.nx:=hR.wr.hid _ _ hil
    have hg' :Hp.get ((s.nx,Ob.tip l.length)::(rid,.dead)::erH T s.h) i=some (.cells ((((x.map (T.e (.st z))).flatMap D.cells).map V.d).set (k.toNat*T.sz (.st z)+off) (.row rid 0 l.length (T.sz re)))):=by simp only[Hp.get];rw[if_neg (by omega),if_neg q3];exact hil
    have hx:((((x.map (T.e (.st z))).flatMap D.cells).map V.d).set (k.toNat*T.sz (.st z)+off) (.row rid 0 l.length (T.sz re)))[k.toNat*T.sz (.st z)+off]? =some (.row rid 0 l.length (T.sz re)):=List.getElem?_set_self hlen
    have hle:le1 (.own s.nx (T.sz re) (l.map (T.e re))) (.d (.slice (T.sz re) (l.map (T.e re)))):=⟨rfl,rfl⟩
    have:=f1.recell (s:=⟨(erS T s).sl,(s.nx,.tip l.length)::(rid,.dead)::erH T s.h,s.nx+1⟩) (y:= .d (.slice (T.sz re) (l.map (T.e re)))) hg' hx rfl (fun v hv=>(f2 v hv).le1 hle)
    refine⟨_,G',h5,?_⟩
    have hallD:∀(t:List (TD T.den)) (j:Nat),allD T ((t.map TD.v).set j (.d (.sl re) l))=true:=by
     intro t
     induction t with
     |nil=>intro j;rfl
     |cons d t ih=>
      intro j
      cases j with
      |zero=>
       show allD T (t.map TD.v)=true
       clear ih
       induction t with
       |nil=>rfl
       |cons d t ih=>exact ih
      |succ j=>exact ih j
    have hk:=k84 hy (hallD _ off)
    rw[List.map_set]at hk
    have hk:((T.e (.st z) (@ix _ ⟨T.dflt (.st z)⟩ x k)).cells.map V.d).set off (.d (.slice (T.sz re) (l.map (T.e re))))=(T.eL (T.tys z) y).map V.d:=by
     rw[<-hk,<-k4o hT (.st z)];rfl
    have hc:(T.e (.st z) (T.pack z y)).cells=T.eL (T.tys z) y:=by
     show(T.enc z (T.pack z y)).cells=_
     rw[hT.en,hT.pc];rfl
    have hi2:k.toNat<x.length:=by omega
    have e1:erO T (.vec (.st z) (x.set k.toNat (T.pack z y)))= .cells (((((x.map (T.e (.st z))).flatMap D.cells).map V.d).set (k.toNat*T.sz (.st z)+off) (.row rid 0 l.length (T.sz re))).set (k.toNat*T.sz (.st z)+off) (.d (.slice (T.sz re) (l.map (T.e re))))):=by
     rw[List.set_set,<-k62 _ hlen,kd2 hT x k h3 h4 off _ (by show off+1<=_;omega),k62 _ (by rw[List.length_map,(e_sz hT _ _).1];exact q4),hk,<-hc]
     exact vec_set (e:= .st z) x k.toNat (T.pack z y) hi2
    have e2:erS T ⟨s.sl,(i,.vec (.st z) (x.set k.toNat (T.pack z y)))::(s.nx,.tip re l)::(rid,.dead)::s.h,s.nx+1⟩=⟨(erS T s).sl,(i,.cells (((((x.map (T.e (.st z))).flatMap D.cells).map V.d).set (k.toNat*T.sz (.st z)+off) (.row rid 0 l.length (T.sz re))).set (k.toNat*T.sz (.st z)+off) (.d (.slice (T.sz re) (l.map (T.e re))))))::(s.nx,.tip l.length)::(rid,.dead)::erH T s.h,s.nx+1⟩:=by
     rw[<-e1];rfl
    rw[e2];exact this
   ·exact h.elim
  ·exact h.elim
end
theorem ghs_snd (hT:T.Ok) {Tk:Tk} {G0:Gh} {w0:World} {a:Act} {w:World}:∀(gs:List Gs) (s:TSt T.den) (K:TSt T.den->Prop) (G:Gh),ghs T gs s K->R Tk G0 w0 N (erS T s) a G w->∃s' G',K s'/\R Tk G0 w0 N (erS T s') a G' w
 |[],s,K,G,h,hR=>⟨s,G,h,hR⟩
 |g::gs,s,K,G,h,hR=>by
  obtain⟨s1,G1,h1,h2⟩:=gh1_snd hT g h hR
  exact ghs_snd hT gs s1 K G1 h1 h2
theorem sat_ghs (hT:T.Ok) {Tk:Tk} {G0:Gh} {w0:World} {gs:List Gs} {s:TSt T.den} {K:TSt T.den->Prop} {c:Code} {Q:Exit->St->Prop} (h:ghs T gs s K) (hk:∀s',K s'->Sat P Tk G0 w0 N c (erS T s') Q):Sat P Tk G0 w0 N c (erS T s) Q:=by
 intro G a w hR
 obtain⟨s',G',h1,h2⟩:=ghs_snd hT gs s K G h hR
 exact hk s' h1 G' a w h2
def QE (Q:Exit->TSt T.den->Prop) (e:Exit) (s:St):Prop:=KE (Q e) s
theorem KE.lk {K:TSt T.den->Prop} {s:TSt T.den} (h:K s):KE K (erS T s):=⟨s,h,Wk.refl _⟩
theorem kh7 (hT:T.Ok) (hC:C.Ok P T) (hm:P.follows .mixedOrders=true) {Tk:Tk} {G0:Gh} {w0:World}:∀(c:Code) (an:An T) (s:TSt T.den) (Q:Exit->TSt T.den->Prop),WP T C N Tk.nx c an s Q->Obl T C N Tk.nx c an Q->Sat P Tk G0 w0 N c (erS T s) (QE Q):=by
 intro c
 induction c with
 |skip=>intro an s Q h _;exact kd3 (KE.lk (by simpa[WP]using h))
 |region id ops dr=>
  intro an s Q h _
  obtain⟨l⟩:=ops
  have h:regW T C N ⟨l⟩ dr s (Q .normal):=by simpa[WP]using h
  cases dr with
  |false=>
   intro G a w hR
   exact wp_region_lit (kev hT hC l (Q .normal) s a G w hR h fun s' a' G' w' hk hR' =>⟨erS T s',G',KE.lk hk,hR'⟩)
  |true=>
   unfold regW at h
   obtain⟨h1,h2⟩:=cnd h
   rw[Bool.and_eq_true]at h1
   refine kah C.S hm (noIt_er h1.2) h1.1 fun K hK=> ?_
   exact k3h (K:=KE (Q .normal)) (fun a b he ⟨t,q1,q2⟩=>hK a ⟨t,q1,he.wk.trans q2⟩) (closeOps l) _ _ _ _ _ (Eqv.refl _) (kg7 hT hC (closeOps l) _ _ _ _ h2)
 |seq x y ihx ihy=>
  intro an s Q h ho
  have plain:∀(ga gb:List Gs) (a b:An T),(ghs T ga s fun s=>WP T C N Tk.nx x a s (thenT T (fun s' =>ghs T gb s' fun s' =>WP T C N Tk.nx y b s' Q) Q))->Obl T C N Tk.nx x a (thenT T (fun s' =>ghs T gb s' fun s' =>WP T C N Tk.nx y b s' Q) Q)->Obl T C N Tk.nx y b Q->Sat P Tk G0 w0 N (.seq x y) (erS T s) (QE Q):=by
   intro ga gb a b h1 h2 h3
   refine sat_ghs hT h1 fun s' hs' =>sat_seq (kr (ihx a s' _ hs' h2) fun e s1 hq=> ?_)
   obtain⟨t,q1,q2⟩:=hq
   cases e with
   |normal=>exact sat_lk q2.lk (sat_ghs hT q1 fun s2 hs2=>ihy b s2 Q hs2 h3)
   |_=>exact⟨t,q1,q2⟩
  cases an with
  |jn tm J ga a gb b=>
   have h:ghs T ga s fun s=>WP T C N Tk.nx x a s (thenT T (fun s' =>tm.mat T Tk.nx s' J) Q):=by simpa only[WP]using h
   simp only[Obl]at ho
   obtain⟨o1,o2,o3⟩:=ho
   refine sat_ghs hT h fun s' hs' =>sat_seq (kr (ihx a s' _ hs' o1) fun e s1 hq=> ?_)
   obtain⟨t,q1,q2⟩:=hq
   cases e with
   |normal=>
    obtain⟨i,k1,k2⟩:=mat_snd hT q1
    refine sat_lk (q2.lk.trans k2) ?_
    rw[o2 i]at k1
    exact sat_ghs hT k1 fun s2 hs2=>ihy b s2 Q hs2 o3
   |_=>exact⟨t,q1,q2⟩
  |no=>simp only[WP]at h;simp only[Obl]at ho;exact plain _ _ _ _ h ho.1 ho.2
  |nd ga a gb b=>simp only[WP]at h;simp only[Obl]at ho;exact plain _ _ _ _ h ho.1 ho.2
  |lp g tm L a=>simp only[WP]at h;simp only[Obl]at ho;exact plain _ _ _ _ h ho.1 ho.2
  |rt g=>simp only[WP]at h;simp only[Obl]at ho;exact plain _ _ _ _ h ho.1 ho.2
 |cond c x y ihx ihy=>
  intro an s Q h ho
  simp only[WP]at h
  simp only[Obl]at ho
  split at h
  ·rename_i hv
   exact kaz (by rw[ev_er,hv];rfl) (sat_ghs hT h fun s' hs' =>ihx _ s' Q hs' ho.1)
  ·rename_i hv
   exact kau (by rw[ev_er,hv];rfl) (sat_ghs hT h fun s' hs' =>ihy _ s' Q hs' ho.2)
  ·rename_i t hv
   exact k56 (t:=t) (by rw[ev_er,hv];rfl) (fun ht=>sat_ghs hT (h.1 ht) fun s' hs' =>ihx _ s' Q hs' ho.1) (fun ht=>sat_ghs hT (h.2 ht) fun s' hs' =>ihy _ s' Q hs' ho.2)
  ·exact h.elim
 |block id x ih=>
  intro an s Q h ho
  simp only[WP]at h
  simp only[Obl]at ho
  refine kan (kr (ih an s _ h ho) fun e s1 hq=> ?_)
  obtain⟨t,q1,q2⟩:=hq
  cases e with
  |exit id' =>
   simp only[blockT]at q1
   simp only[blockA]
   by_cases hi:id' =id
   ·rw[if_pos hi]
    rw[hi,nb_self]at q1
    exact⟨t,q1,q2⟩
   ·rw[if_neg hi]
    rw[nb_ne hi]at q1
    exact⟨t,q1,q2⟩
  |_=>exact⟨t,q1,q2⟩
 |loop x ih=>
  intro an s Q h ho
  cases an with
  |lp g tm L a=>
   simp only[WP]at h
   simp only[Obl]at ho
   obtain⟨o1,o2⟩:=ho
   refine sat_ghs hT h fun s' hs' => ?_
   obtain⟨i,⟨⟨inv,μ,k0,k1⟩⟩,k2⟩:=mat_snd hT hs'
   refine kax (fun i=>erS T (tm.fill T i)) inv μ i k0 k2 fun i hi=> ?_
   have hr:=k1 i hi
   rw[o1]at hr
   refine kr (ih _ _ _ hr (o2 _)) fun e s1 hq=> ?_
   obtain⟨t,q1,q2⟩:=hq
   cases e with
   |normal=>
    obtain⟨i',⟨m1,m2⟩,m3⟩:=mat_snd hT q1
    exact⟨i',m1,m2,q2.lk.trans m3⟩
   |_=>exact⟨t,q1,q2⟩
  |_=>simp only[WP]at h
 |exit id=>intro an s Q h _;simp only[WP]at h;exact kcc (KE.lk h)
 |ret=>
  intro an s Q h _
  simp only[WP]at h
  exact sat_ghs hT h fun s' hs' =>sat_ret (KE.lk hs')
 |label l=>intro an s Q h _;simp only[WP]at h;exact kap (KE.lk h)
 |_=>intro an s Q h _;simp only[WP]at h
theorem eqH_eq:∀{ts:List Ty} {x y:HL T.den ts},eqH ts x y->x=y
 |[],_,_,_=>rfl
 |[_],x,y,h=>by
  obtain⟨a,b⟩:=x
  obtain⟨c,d⟩:=y
  have h:a=c:=h
  subst h;rfl
 |_::t::r,x,y,h=>by
  obtain⟨a,b⟩:=x
  obtain⟨c,d⟩:=y
  obtain⟨h1,h2⟩:=h
  have g1:a=c:=h1
  have g2:b=d:=eqH_eq (ts:=t::r) h2
  rw[g1,g2]
theorem k8a (hT:T.Ok) (hI:InfoOk P T C.ti) {s:TSt T.den}:∀(rs:List ResultVar) (K:List (TV T.den)->Prop),resT T C.ti s rs K->∃l,K l/\allOk P (erS T s) rs/\rs.map (resV P (erS T s))=l.map (er T)
 |[],K,h=>⟨[],h,trivial,rfl⟩
 | .tmp t::r,K,h=>by
  obtain⟨l,h1,h2,h3⟩:=k8a hT hI r _ h
  refine⟨_,h1,⟨trivial,h2⟩,?_⟩
  simp only[List.map_cons,h3]
  congr 1
  exact getS_er s.sl t
 | .cell t ty::r,K,h=>by
  obtain⟨u,h0,h4,h5⟩:=kam hT (hI.of ty) h
  obtain⟨l,h1,h2,h3⟩:=k8a hT hI r _ h0
  have e:getS (erS T s).sl t=er T (getT s.sl t):=getS_er s.sl t
  refine⟨_,h1,⟨by show loadOk _ _ (getS (erS T s).sl t);rw[e];exact h4,h2⟩,?_⟩
  simp only[List.map_cons,h3]
  congr 1
  show loadV _ _ (getS (erS T s).sl t)=_
  rw[e];exact h5
theorem kcz:∀{l:List (TV T.den)},noTupB T l=true->l.map (er T)=l.map (er0 T)
 |[],_=>rfl
 |v::r,h=>by
  cases v<;>first|(cases h;done)|(simp only[List.map_cons];rw[kcz (l:=r) h];rfl)
theorem ret_er {l:List (TV T.den)} (h:noTupB T l=true):retV (l.map (er T))=er T (retTV T l):=by
 match l,h with
 |[],_=>rfl
 |[x],_=>rfl
 |x::y::r,h=>
  exact congrArg V.tup (kcz h)
theorem kaa {h:Hp} {σ:Nat->Nat} {m nx:Nat}:∀{ks:List Nat} {os:List Ob},ks.length=os.length->(∀(i k:Nat) (o:Ob),ks[i]? =some k->os[i]? =some o->k<nx/\obLe (h.get k) (renO σ o)/\okO m o)->postOk h σ m nx ks os
 |[],[],_,_=>trivial
 |[],_::_,h,_=>by cases h
 |_::_,[],h,_=>by cases h
 |k::ks,o::os,h,hh=>⟨hh 0 k o rfl rfl,kaa (by simpa using h) fun i k' o' h1 h2=>hh (i+1) k' o' (by simpa using h1) (by simpa using h2)⟩
theorem k94:∀{n k:Nat} {l:List Nat},selfB n k l=true->selfP k n l
 |0,_,l,_=>by cases l<;>trivial
 |n+1,k,[],h=>by cases h
 |n+1,k,i::r,h=>by
  simp only[selfB,Bool.and_eq_true]at h
  exact⟨nb_eq h.1,k94 h.2⟩
theorem k5a (hT:T.Ok) (hC:C.Ok P T) {c:Con T.den} {rs:List ResultVar} {o:HL T.den (hsV c.res (hsOs c.post))} {s:TSt T.den} (h:retT T C c rs o s):RetA P rs (er T (c.val idf o)) c.pre.length ((c.ops idf o).map (erO T)) (erS T s):=by
 unfold retT at h
 obtain⟨l,h1,h2,h3⟩:=k8a hT hC.ti rs _ h
 split at h1
 ·exact h1.elim
 ·rename_i ids hids
  split at h1
  ·exact h1.elim
  ·rename_i b hb
   obtain⟨a1,a2⟩:=cnd h1
   simp only[Bool.and_eq_true,Con.okB]at a1
   obtain⟨⟨⟨⟨⟨hok,hnd⟩,hlt⟩,hlen⟩,hself⟩,hnt⟩:=a1
   obtain⟨⟨⟨⟨⟨⟨⟨⟨⟨⟨o1,o2⟩,o3⟩,o4⟩,o5⟩,o6⟩,o7⟩,o8⟩,o9⟩,o10⟩,o11⟩:=hok
   have hlen:=nb_eq hlen
   obtain⟨y,g1,g2,g3⟩:=k4r hT o10 hb a2
   obtain⟨x,k1,k2,k3⟩:=mtV_snd c.res _ _ y _ o9 g1
   have hx:=eqH_eq k1
   subst hx
   have hfo:c.fo x=tkB c.post b:=by unfold Con.fo;rw[k2,g2]
   have hops:c.ops idf x=(tkC idf (tkB c.post b) 0 c.post _ y).1:=by unfold Con.ops;rw[hfo,k2]
   have hql:((c.ops idf x).map (erO T)).length=c.post.length:=by rw[List.length_map,hops,tkC_len]
   have hval:c.val idf x=(tkV idf (tkB c.post b) c.res _ x).1:=by unfold Con.val;rw[hfo]
   refine retN ids ⟨h2,?_,?_,?_,?_,k1d hnd,by rw[hql];exact ble_le o5,k94 hself⟩
   ·rw[h3,ret_er hnt,hval,<-tkV_ren];exact k3
   ·rw[hql,hval];exact tkV_ok (fun j hj=>hj) c.res _ x o3
   ·rw[hval];exact kb2 _ _ _
   ·refine kaa (by rw[hql];exact hlen) fun i k ob hk ho=> ?_
    have hkm:k<s.nx:=k18 hlt k (List.mem_of_getElem? hk)
    rw[hql]
    rw[List.getElem?_map,Option.map_eq_some_iff]at ho
    obtain⟨ot,ho,rfl⟩:=ho
    rw[hops]at ho
    refine⟨hkm,?_,tkC_ok (k12 _ _) (fun j hj=>hj) 0 c.post _ y o4 i ot ho⟩
    have hr:=tkC_ren (rh ids) (tkB c.post b) (k12 _ _) 0 c.post _ y
    have hi:i<(tkC idf (tkB c.post b) 0 c.post (hsB c.post) y).1.length:=(List.getElem?_eq_some_iff.1 ho).1
    have hi2:i<(tkC (rh ids) (tkB c.post b) 0 c.post (hsB c.post) y).1.length:=by rw[tkC_len]at hi ⊢;exact hi
    have e:=congrArg (fun l=>l[i]?) hr
    simp only[List.getElem?_map,ho,Option.map_some,List.getElem?_eq_getElem hi2,Option.some.injEq]at e
    have:=g3 i _ (List.getElem?_eq_getElem hi2)
    have hrk:rh ids i=k:=by simp[rh,hk]
    rw[e,hrk]at this
    exact this
theorem k89:∀(k:Nat) (l:List (TV T.den)),(initT T k l).map (fun p=>(p.1,er T p.2))=initSl k (l.map (er T))
 |_,[]=>rfl
 |k,x::r=>by
  show(k,er T x)::(initT T (k+1) r).map (fun p=>(p.1,er T p.2))=(k,er T x)::initSl (k+1) (r.map (er T))
  rw[k89 (k+1) r]
theorem hpN_idf:∀(k:Nat) (l:List (TOb T.den)),erH T (hpN idf k l)=hpOf k (l.map (erO T))
 |_,[]=>rfl
 |k,x::r=>by
  show(k,erO T x)::erH T (hpN idf (k+1) r)=(k,erO T x)::hpOf (k+1) (r.map (erO T))
  rw[hpN_idf (k+1) r]
theorem Con.sound (hT:T.Ok) (hC:C.Ok P T) (hm:P.follows .mixedOrders=true) {c:Con T.den} {fn:Func} {code:Code} {rs:List ResultVar} (hf:P.funcs[c.f]? =some fn) (hb:fn.body=some code) (hN:fn.ntmps=N) (hrs:fn.results.toList=rs) (hl:Nat.ble c.ins.length N=true)
  {x:HL T.den (hsT c.ins (hsOs c.pre))} {o:HL T.den (hsV c.res (hsOs c.post))} {an:An T} (hW:WP T C N c.pre.length code an (c.st T x) (retTQ T C c rs o)) (hO:Obl T C N c.pre.length code an (retTQ T C c rs o)):
  SoundH P c.f ((c.args idf x).map (er T)) ((c.obs idf x).map (erO T)) (er T (c.val idf o)) ((c.ops idf o).map (erO T)):=by
 have hpl:((c.obs idf x).map (erO T)).length=c.pre.length:=by rw[List.length_map];unfold Con.obs;rw[tkC_len]
 have hal:((c.args idf x).map (er T)).length=c.ins.length:=by rw[List.length_map];unfold Con.args;rw[tkT_len]
 refine kd8 hf hb hN (by rw[hal];exact ble_le hl) fun G0 w0=> ?_
 have e:erS T (c.st T x)=⟨initSl 0 ((c.args idf x).map (er T)),hpOf 0 ((c.obs idf x).map (erO T)),((c.obs idf x).map (erO T)).length⟩:=by
  rw[hpl]
  show St.mk _ _ _=_
  unfold Con.st
  rw[k89,hpN_idf]
 rw[<-e,hrs]
 have hnx:(tkOf G0 ((c.obs idf x).map (erO T))).nx=c.pre.length:=hpl
 rw[<-hnx]at hW hO
 refine kcl (kh7 hT hC hm code an _ _ hW hO) fun ex s1 hq=> ?_
 obtain⟨t,q1,q2⟩:=hq
 refine⟨erS T t,?_,q2.lk⟩
 cases ex with
 |normal=>have:=k5a hT hC (s:=t) q1;rw[<-hpl]at this;exact this
 |ret=>have:=k5a hT hC (s:=t) q1;rw[<-hpl]at this;exact this
 |_=>exact q1
end
end Go.Cv
namespace Go.Bv
open Go.RowKit
section
variable {G:Gh} {w:World} {h:Hp} {nx:Nat}
theorem PtrsR.ok:∀{ps:List (Option (Nat×Nat))} {vs:List Value},PtrsR G nx ps vs->okP nx ps
 |[],[],_=>trivial
 |[],_::_,h=>h.elim
 |_::_,[],h=>h.elim
 |none::r,_::_,h=>PtrsR.ok (ps:=r) h.2
 |some _::r,_::_,h=>⟨h.1.1,PtrsR.ok (ps:=r) h.2⟩
theorem RepV.ok1 {v:Value} {x:V} (hr:RepV G w h nx v x) (h1:∀l,x≠ .agg l) (h2:∀l,x≠ .tup l):Bv.ok1 nx x:=by
 cases hr with
 |agg _ l=>exact(h1 l rfl).elim
 |tup _ l=>exact(h2 l rfl).elim
 |ptr id _ b hid=>exact hid
 |own _ tok _ _ _ ht=>exact ht
 |row id _ _ _ _ _ _ _ hid=>exact hid
 |rown _ id _ _ hid=>exact hid
 |mp id _ hid=>exact hid
 |clo g fs cs vs us hf hc=>exact⟨hf.ok,hc.ok⟩
 |_=>trivial
theorem okL_of:∀{l:List V},(∀(j:Nat) (x:V),l[j]? =some x->Bv.ok1 nx x)->okL nx l
 |[],_=>trivial
 |x::r,h=>⟨h 0 x rfl,okL_of fun j y hj=>h (j+1) y (by simpa using hj)⟩
theorem one_na {x:V} (h:x.one=true):(∀l,x≠ .agg l)/\∀l,x≠ .tup l:=by
 constructor<;>(intro l e;rw[e]at h;cases h)
theorem RepV.ok0 {v:Value} {x:V} (hr:RepV G w h nx v x) (h2:∀l,x≠ .tup l):Bv.ok0 nx x/\Bv.le0 x x:=by
 by_cases ha:∃l,x= .agg l
 ·obtain⟨l,rfl⟩:=ha
  cases hr with
  |agg vs _ hlen hone hr=>
   refine⟨okL_of fun j x hx=> ?_,k35 l hone⟩
   have hj:j<vs.length:=by have:=(List.getElem?_eq_some_iff.1 hx).1;omega
   have h1:=one_na (hone x (List.mem_of_getElem? hx))
   exact(hr j _ x (List.getElem?_eq_getElem hj) hx).ok1 h1.1 h1.2
 ·have h1:=hr.ok1 (fun l e=>ha ⟨l,e⟩) h2
  cases x with
  |agg l=>exact(ha ⟨l,rfl⟩).elim
  |tup l=>exact(h2 l rfl).elim
  |_=>exact⟨h1,by unfold Bv.le0;exact kc _⟩
theorem okT_of:∀{l:List V},(∀(j:Nat) (x:V),l[j]? =some x->Bv.ok0 nx x/\Bv.le0 x x)->okT nx l/\leT l l
 |[],_=>⟨trivial,trivial⟩
 |x::r,h=>by
  obtain⟨g1,g2⟩:=okT_of (l:=r) fun j y hj=>h (j+1) y (by simpa using hj)
  obtain⟨k1,k2⟩:=h 0 x rfl
  exact⟨⟨k1,g1⟩,⟨k2,g2⟩⟩
theorem RepV.ok {v:Value} {x:V} (hr:RepV G w h nx v x) (ht:∀l,x= .tup l->∀y∈l,∀l',y≠ .tup l'):Bv.ok nx x/\Bv.le x x:=by
 by_cases ha:∃l,x= .tup l
 ·obtain⟨l,rfl⟩:=ha
  cases hr with
  |tup vs _ hlen hr=>
   exact okT_of fun j y hy=>by
    have hj:j<vs.length:=by have:=(List.getElem?_eq_some_iff.1 hy).1;omega
    exact(hr j _ y (List.getElem?_eq_getElem hj) hy).ok0 (ht l rfl y (List.mem_of_getElem? hy))
 ·have h1:=hr.ok0 (fun l e=>ha ⟨l,e⟩)
  cases x with
  |tup l=>exact(ha ⟨l,rfl⟩).elim
  |_=>exact h1
theorem k1k {m:Nat} (h:nx<=m):∀{l:List (Option (Nat×Nat))},okP nx l->okP m l
 |[],_=>trivial
 |none::r,hx=>k1k h (l:=r) hx
 |some _::r,hx=>⟨Nat.lt_of_lt_of_le hx.1 h,k1k h (l:=r) hx.2⟩
theorem ki4 {m:Nat} (h:nx<=m) {x:V} (hx:Bv.ok1 nx x):Bv.ok1 m x:=by
 cases x<;>first|exact Nat.lt_of_lt_of_le hx h|exact hx|exact⟨k1k h hx.1,k1k h hx.2⟩
theorem k4k {m:Nat} (h:nx<=m):∀{l:List V},okL nx l->okL m l
 |[],_=>trivial
 |_::_,hx=>⟨ki4 h hx.1,k4k h hx.2⟩
theorem k8g {m:Nat} (h:nx<=m) {x:V} (hx:Bv.ok0 nx x):Bv.ok0 m x:=by
 cases x with
 |agg l=>exact k4k h (l:=l) hx
 |ptr=>exact Nat.lt_of_lt_of_le hx h
 |own=>exact Nat.lt_of_lt_of_le hx h
 |row=>exact Nat.lt_of_lt_of_le hx h
 |mp=>exact Nat.lt_of_lt_of_le hx h
 |clo=>exact⟨k1k h hx.1,k1k h hx.2⟩
 |_=>exact hx
theorem kdh {m:Nat} (h:nx<=m):∀{l:List V},okT nx l->okT m l
 |[],_=>trivial
 |_::_,hx=>⟨k8g h hx.1,kdh h hx.2⟩
theorem ok_mono {m:Nat} (h:nx<=m) {x:V} (hx:Bv.ok nx x):Bv.ok m x:=by
 cases x with
 |tup l=>exact kdh h (l:=l) hx
 |agg l=>exact k4k h (l:=l) hx
 |ptr=>exact Nat.lt_of_lt_of_le hx h
 |own=>exact Nat.lt_of_lt_of_le hx h
 |row=>exact Nat.lt_of_lt_of_le hx h
 |mp=>exact Nat.lt_of_lt_of_le hx h
 |clo=>exact⟨k1k h hx.1,k1k h hx.2⟩
 |_=>exact hx
theorem k80 {m:Nat} (h:nx<=m):∀{l:List (D×V)},okM nx l->okM m l
 |[],_=>trivial
 |_::_,hx=>⟨k8g h hx.1,k80 h hx.2⟩
theorem ki2 {m:Nat} (h:nx<=m) {o:Ob} (ho:okO nx o):okO m o:=by
 cases o with
 |cells l=>exact k4k h (l:=l) ho
 |map x=>cases x with
  |m l=>exact k80 h (l:=l) ho
  |it mid l last=>exact⟨Nat.lt_of_lt_of_le ho.1 h,k80 h ho.2.1,fun e he=>k8g h (ho.2.2 e he)⟩
 |_=>trivial
theorem k3r {σ:Nat->Nat} (hσ:∀i,i<nx->σ i=i):∀{l:List (Option (Nat×Nat))},okP nx l->renP σ l=l
 |[],_=>rfl
 |none::r,h=>congrArg (List.cons none) (k3r (l:=r) hσ h)
 |some (i,_)::_,h=>by unfold renP;rw[hσ i h.1,k3r hσ h.2]
theorem ren1_id {σ:Nat->Nat} (hσ:∀i,i<nx->σ i=i) {x:V} (h:Bv.ok1 nx x):Bv.ren1 σ x=x:=by
 cases x<;>first|rfl|(simp only[Bv.ren1];rw[hσ _ h])|(simp only[Bv.ren1];rw[k3r hσ h.1,k3r hσ h.2])
theorem renL_id {σ:Nat->Nat} (hσ:∀i,i<nx->σ i=i):∀{l:List V},okL nx l->l.map (Bv.ren1 σ)=l
 |[],_=>rfl
 |x::r,h=>by rw[List.map_cons,ren1_id hσ h.1,renL_id hσ h.2]
theorem ren0_id {σ:Nat->Nat} (hσ:∀i,i<nx->σ i=i) {x:V} (h:Bv.ok0 nx x):Bv.ren0 σ x=x:=by
 cases x with
 |agg l=>exact congrArg V.agg (renL_id hσ h)
 |ptr i o=>exact ren1_id (x:= .ptr i o) hσ h
 |own a b c=>exact ren1_id (x:= .own a b c) hσ h
 |row a b c d=>exact ren1_id (x:= .row a b c d) hσ h
 |mp a=>exact ren1_id (x:= .mp a) hσ h
 |clo a b c=>exact ren1_id (x:= .clo a b c) hσ h
 |_=>rfl
theorem renT_id {σ:Nat->Nat} (hσ:∀i,i<nx->σ i=i):∀{l:List V},okT nx l->l.map (Bv.ren0 σ)=l
 |[],_=>rfl
 |x::r,h=>by rw[List.map_cons,ren0_id hσ h.1,renT_id hσ h.2]
theorem ren_id {σ:Nat->Nat} (hσ:∀i,i<nx->σ i=i) {x:V} (h:Bv.ok nx x):Bv.ren σ x=x:=by
 cases x with
 |tup l=>exact congrArg V.tup (renT_id hσ h)
 |agg l=>exact congrArg V.agg (renL_id hσ h)
 |ptr i o=>exact ren1_id (x:= .ptr i o) hσ h
 |own a b c=>exact ren1_id (x:= .own a b c) hσ h
 |row a b c d=>exact ren1_id (x:= .row a b c d) hσ h
 |mp a=>exact ren1_id (x:= .mp a) hσ h
 |clo a b c=>exact ren1_id (x:= .clo a b c) hσ h
 |_=>rfl
theorem renM_id {σ:Nat->Nat} (hσ:∀i,i<nx->σ i=i):∀{l:List (D×V)},okM nx l->(l.map fun e=>(e.1,Bv.ren0 σ e.2))=l
 |[],_=>rfl
 |x::r,h=>by rw[List.map_cons,ren0_id hσ h.1,renM_id hσ h.2]
theorem renO_id {σ:Nat->Nat} (hσ:∀i,i<nx->σ i=i) {o:Ob} (h:okO nx o):renO σ o=o:=by
 cases o with
 |cells l=>exact congrArg Ob.cells (renL_id hσ h)
 |map x=>cases x with
  |m l=>exact congrArg (fun z=>Ob.map (.m z)) (renM_id hσ h)
  |it mid l last=>
   obtain⟨h1,h2,h3⟩:=h
   show Ob.map (.it (σ mid) _ (last.map _))=_
   rw[hσ mid h1,renM_id hσ h2]
   cases last with
   |none=>rfl
   |some e=>simp only[Option.map_some];rw[ren0_id hσ (h3 e rfl)]
 |_=>rfl
end
end Go.Bv
namespace Go.Cv
open Go Go.Bv Go.RowKit Go.Md
section
variable {T:Tab} {P:Program} {C:Cx T} {N:Nat}
structure Gd (s:TSt T.den):Prop where
 sl:∀t,ok s.nx (er T (getT s.sl t))/\le (er T (getT s.sl t)) (er T (getT s.sl t))
 h:∀id ob,(erS T s).h.get id=some ob->id<s.nx/\okO s.nx ob/\obLe (some ob) ob
theorem er_tup {v:TV T.den}:∀l,er T v= .tup l->∀y∈l,∀l',y≠ .tup l' :=by
 intro l h y hy
 cases v with
 |tup l0=>
  injection h with h
  subst h
  obtain⟨u,_,rfl⟩:=List.mem_map.1 hy
  exact k1b
 |_=>cases h
theorem okM_D {nx:Nat} {k v:Ty}:∀(l:List (k.den T.den×v.den T.den)),okM nx (l.map fun p=>(T.e k p.1,V.ofD (T.e v p.2)))
 |[]=>trivial
 | p::r=>⟨by
   show ok0 nx (V.ofD (T.e v p.2))
   generalize T.e v p.2=d
   cases d with
   |agg l=>exact okL_of fun j x hx=>by rw[List.getElem?_map,Option.map_eq_some_iff]at hx;obtain⟨_,_,rfl⟩:=hx;trivial
   |_=>trivial,okM_D r⟩
theorem kao:∀x:MO,moLe x x
 | .m _=>rfl
 | .it _ _ none=>⟨rfl,rfl⟩
 | .it _ _ (some _)=>rfl
theorem gd_of {Tk:Tk} {G0:Gh} {w0:World} {s:TSt T.den} {a:Act} {G:Gh} {w:World} (hR:R Tk G0 w0 N (erS T s) a G w):Gd s:=by
 refine⟨fun t=> ?_,fun id ob hg=> ?_⟩
 ·have:=hR.sl t
  rw[show getS (erS T s).sl t=er T (getT s.sl t)from getS_er s.sl t]at this
  exact this.ok er_tup
 ·refine⟨hR.wr.hid id ob hg,?_⟩
  have hg0:=hg
  have hg:(erH T s.h).get id=some ob:=hg
  rw[getH_er,Option.map_eq_some_iff]at hg
  obtain⟨o,ho,rfl⟩:=hg
  have cell:∀l,erO T o= .cells l->okO s.nx (.cells l)/\obLe (some (.cells l)) (.cells l):=by
   intro l hl
   rw[hl]at hg0
   rcases hR.wr.obj id l hg0 with⟨z1,z2⟩|⟨b,e,cs,k1,k2,k3,k4,k5,k6⟩
   ·subst z1;exact⟨trivial,trivial⟩
   ·refine⟨okL_of fun j x hx=> ?_,k35 l k5⟩
    have hj:j<cs.length:=by have:=(List.getElem?_eq_some_iff.1 hx).1;omega
    have h1:=one_na (k5 x (List.mem_of_getElem? hx))
    exact(k6 j _ x (List.getElem?_eq_getElem hj) hx).ok1 h1.1 h1.2
  cases o with
  |cells l=>exact cell _ rfl
  |vec e l=>exact cell _ rfl
  |foc e l i off rid re n=>exact cell _ rfl
  |tip e l=>exact⟨trivial,rfl⟩
  |dead=>exact⟨trivial,trivial⟩
  |map k v ks vs=>exact⟨okM_D _,by show moLe (MO.m _) (MO.m _);exact kao _⟩
  |it mid k v ks vs last=>
   refine⟨⟨?_,okM_D _,fun e he=> ?_⟩,kao _⟩
   ·obtain⟨b,bm,since,seen,c0,h1,h2,h3,_⟩:=hR.wr.mob id _ hg0
    exact h3
   ·cases last with
    |none=>cases he
    |some p=>exact k2a (okM_D [p]) 0 e (by simpa using he)
theorem k8k {sl' :List (Nat×TV T.den)} {t:Nat}:∀{sl:List (Nat×TV T.den)},hasK T sl t=false->getT (sl++sl') t=getT sl' t
 |[],_=>rfl
 |p::r,h=>by
  simp only[hasK,Bool.or_eq_false_iff]at h
  show(bif Nat.beq t p.1 then p.2 else getT (r++sl') t)=_
  rw[h.1]
  exact k8k h.2
theorem kdd {sl' :List (Nat×TV T.den)} {t:Nat}:∀{sl:List (Nat×TV T.den)},hasK T sl t=true->getT (sl++sl') t=getT sl t
 |[],h=>by cases h
 |p::r,h=>by
  show(bif Nat.beq t p.1 then p.2 else getT (r++sl') t)=(bif Nat.beq t p.1 then p.2 else getT r t)
  cases e:Nat.beq t p.1 with
  |true=>rfl
  |false=>
   simp only[hasK,e,Bool.false_or]at h
   exact kdd h
theorem kb1 {t:Nat}:∀{sl:List (Nat×TV T.den)},hasK T sl t=false->getT sl t= .any
 |[],_=>rfl
 |p::r,h=>by
  simp only[hasK,Bool.or_eq_false_iff]at h
  show(bif Nat.beq t p.1 then p.2 else getT r t)=_
  rw[h.1]
  exact kb1 h.2
theorem memB_in:∀{x:Nat} {l:List Nat},memB x l=true->x∈l
 |_,[],h=>by cases h
 |x,y::r,h=>by
  simp only[memB,Bool.or_eq_true]at h
  rcases h with h|h
  ·rw[nb_eq h];simp
  ·exact List.mem_cons_of_mem _ (memB_in h)
theorem kde {ts:List Nat} {sl:List (Nat×TV T.den)}:∀{l:List (Nat×TV T.den)} {t:Nat},chS T ts sl l=true->hasK T l t=true->t∈ts∨hasK T sl t=false
 |[],t,_,h=>by cases h
 |p::r,t,h,hk=>by
  simp only[chS,Bool.and_eq_true,Bool.or_eq_true,Bool.not_eq_true']at h
  simp only[hasK,Bool.or_eq_true]at hk
  rcases hk with hk|hk
  ·rw[nb_eq hk]
   rcases h.1 with h1|h1
   ·exact .inl (memB_in h1)
   ·exact .inr h1
  ·exact kde h.2 hk
theorem kc5 {d:Dl} {nx:Nat}:∀{l:THp T.den} {i:Nat} {o:Ob},chH T d nx l=true->(erH T l).get i=some o->i∈d.old∨i∈d.dd∨nx<=i
 |[],i,o,_,h=>by cases h
 |p::r,i,o,h,hk=>by
  simp only[chH,Bool.and_eq_true,Bool.or_eq_true]at h
  have hk:Hp.get ((p.1,erO T p.2)::erH T r) i=some o:=hk
  simp only[Hp.get]at hk
  split at hk
  ·rename_i e
   rw[e]
   rcases h.1 with(h1|h1)|h1
   ·exact .inl (memB_in h1)
   ·exact .inr (.inl (memB_in h1))
   ·exact .inr (.inr (ble_le h1))
  ·exact kc5 h.2 hk
theorem pre_app {α:Type} {a b:List α}:pre (a++b) b=a:=by
 unfold pre
 rw[List.length_append,Nat.add_sub_cancel,List.take_left' rfl]
theorem kb9 {nx:Nat} {dd:List Nat}:∀{a b:List Nat},fixD nx dd a b=true->a.length=b.length/\(∀(p i j:Nat),a[p]? =some i->b[p]? =some j->(i<nx->i=j)/\(nx<=i->nx<=j∨j∈dd))
 |[],[],_=>⟨rfl,fun p i j h=>by simp at h⟩
 |[],_::_,h=>by cases h
 |_::_,[],h=>by cases h
 |x::a,y::b,h=>by
  simp only[fixD,Bool.and_eq_true]at h
  obtain⟨g1,g2⟩:=kb9 h.2
  refine⟨by simp[g1],fun p i j hi hj=> ?_⟩
  cases p with
  |zero=>
   simp at hi hj
   subst hi;subst hj
   have h1:=h.1
   by_cases e:x<nx
   ·rw[show Nat.blt x nx=true by simp[Nat.blt_eq,e]]at h1
    exact⟨fun _=>nb_eq h1,fun h=>by omega⟩
   ·rw[show Nat.blt x nx=false by cases hb:Nat.blt x nx with|false=>rfl|true=>exact absurd (blt_lt hb) e]at h1
    simp only[cond_false,Bool.or_eq_true]at h1
    refine⟨fun h=>absurd h e,fun _=> ?_⟩
    rcases h1 with h1|h1
    ·exact .inl (ble_le h1)
    ·exact .inr (memB_in h1)
  |succ p=>exact g2 p i j (by simpa using hi) (by simpa using hj)
theorem rho_no:∀{a b:List Nat} {i:Nat},i∉a->rho a b i=i
 |[],_,_,_=>rfl
 |_::_,[],_,_=>rfl
 |x::a,y::b,i,h=>by
  simp only[rho]
  rw[if_neg (fun e=>h (by simp[e])),rho_no (fun e=>h (by simp[e]))]
theorem sgs_get {l:List Nat} {p:Nat} (h:p<l.length):l[p]? =some (sgs l p):=by simp[sgs,h]
theorem ups_mem:∀{k n i:Nat},i∈ups k n↔k<=i/\i<k+n
 |k,0,i=>by simp[ups];try omega
 |k,n+1,i=>by simp only[ups,List.mem_cons,ups_mem];omega
theorem zip_has {t:Nat}:∀{ts:List Nat} {vs:List (TV T.den)},ts.length=vs.length->t∈ts->hasK T (zipS T ts vs) t=true
 |[],_,_,h=>by cases h
 |u::ts,[],h,_=>by cases h
 |u::ts,v::vs,h,hm=>by
  simp only[zipS,hasK,Bool.or_eq_true]
  rcases List.mem_cons.1 hm with rfl|hm
  ·exact .inl (nb_self _)
  ·exact .inr (zip_has (by simpa using h) hm)
theorem zip_no {t:Nat}:∀{ts:List Nat} {vs:List (TV T.den)},t∉ts->hasK T (zipS T ts vs) t=false
 |[],[],_=>rfl
 |[],_::_,_=>rfl
 |_::_,[],_=>rfl
 |u::ts,v::vs,hm=>by
  simp only[zipS,hasK,Bool.or_eq_false_iff]
  exact⟨nb_ne fun e=>hm (by simp[e]),zip_no fun e=>hm (by simp[e])⟩
theorem kac:∀{a l:List Nat},disB a l=true->∀x∈a,x∉l
 |[],_,_,x,h=>by cases h
 |y::a,l,h,x,hx=>by
  simp only[disB,Bool.and_eq_true,Bool.not_eq_true']at h
  rcases List.mem_cons.1 hx with rfl|hx
  ·exact k6g h.1
  ·exact kac h.2 x hx
theorem hpN_hit {σ:Nat->Nat}:∀{os:List (TOb T.den)} {k p:Nat},p<os.length->Hp.get (erH T (hpN σ k os)) (σ (k+p))≠none
 |[],_,_,h=>by cases h
 |o::os,k,p,h=>by
  show Hp.get ((σ k,erO T o)::erH T (hpN σ (k+1) os)) _≠none
  simp only[Hp.get]
  split
  ·simp
  ·rename_i hne
   cases p with
   |zero=>exact(hne rfl).elim
   |succ p=>have:=hpN_hit (σ:=σ) (os:=os) (k:=k+1) (p:=p) (by simpa using h);rw[show k+1+p=k+(p+1)by omega]at this;exact this
theorem kc7 {h:THp T.den}:∀{dd:List Nat} {i:Nat} {o:Ob},(erH T ((dd.map fun i=>(i,TOb.dead))++h)).get i=some o->(i∈dd/\o= .dead)∨(i∉dd/\(erH T h).get i=some o)
 |[],i,o,hg=> .inr ⟨by simp,hg⟩
 |x::dd,i,o,hg=>by
  have hg:Hp.get ((x,Ob.dead)::erH T ((dd.map fun i=>(i,TOb.dead))++h)) i=some o:=hg
  simp only[Hp.get]at hg
  split at hg
  ·rename_i e
   injection hg with hg
   exact .inl ⟨by simp[e],hg.symm⟩
  ·rename_i e
   rcases kc7 hg with⟨h1,h2⟩|⟨h1,h2⟩
   ·exact .inl ⟨by simp[h1],h2⟩
   ·exact .inr ⟨by simp[e,h1],h2⟩
theorem k81 (hT:T.Ok) {Tk:Tk} {d:Dl} {s0 s:TSt T.den} {J:HL T.den d.hs->Prop} (hx:Xt s0 s) (hg:Gd s0) (hn:Tk.nx<=s0.nx) (h:d.mat T s0 s J):∃i,J i/\Lk Tk (erS T s) (erS T (d.fill T s0 i)):=by
 unfold Dl.mat at h
 obtain⟨h1,h2⟩:=cnd h
 simp only[Bool.and_eq_true,Dl.okB]at h1
 obtain⟨⟨⟨⟨⟨⟨⟨⟨⟨⟨⟨b1,b2⟩,b3⟩,b4⟩,b6⟩,b7⟩,a1⟩,a2⟩,a3⟩,a4⟩,a5⟩,a6⟩:=h1
 replace h2:=fcL_eq h2
 generalize d.at T s0.nx s=ids at h2
 obtain⟨h3,h4⟩:=cnd h2
 simp only[Bool.and_eq_true]at h3
 obtain⟨⟨c2,c3⟩,c4⟩:=h3
 have c1:=k1d a1
 have c2:=k1d c2
 have c3:=k18 c3
 obtain⟨c5,c6⟩:=kb9 c4
 have a2:=k18 a2
 have a3:=k18 a3
 have a4:=kac a4
 obtain⟨⟨psl,hpsl⟩,⟨ph,hph⟩,hnx⟩:=hx
 rw[hpsl,pre_app]at a5
 rw[hph,pre_app]at a6
 have hlen:(d.ids s0.nx).length=d.os.length:=by
  have ul:∀k n,(ups k n).length=n:=fun k n=>by induction n generalizing k with|zero=>rfl|succ n ih=>simp[ups,ih]
  have:=ble_le b3
  simp only[Dl.ids,Dl.n,List.length_append,ul];omega
 have hidm:∀i,i∈d.ids s0.nx↔i∈d.old∨(s0.nx<=i/\i<s0.nx+d.n):=fun i=>by simp only[Dl.ids,List.mem_append,ups_mem]
 have hlt:∀j,j<d.os.length->sgs (d.ids s0.nx) j<s0.nx+d.n:=fun j hj=>by
  have:=List.mem_of_getElem? (sgs_get (l:=d.ids s0.nx) (p:=j) (by omega))
  rcases(hidm _).1 this with h|h
  ·have:=a2 _ h;omega
  ·exact h.2
 generalize hI:d.ids s0.nx=I at *
 split at h4
 ·rename_i b hb
  obtain⟨y,g1,g2,g3⟩:=k4r hT b7 hb h4
  obtain⟨x,k1,k2,_,k4⟩:=mtT_snd d.ss _ _ y _ b6 g1
  have hf:d.f T x=tkB d.os b:=by unfold Dl.f;rw[k2,g2]
  have hrho:∀j,j<d.os.length->rho I ids (sgs I j)=sgs ids j:=fun j hj=>rho_at c1 (by omega) (by omega)
  have hid1:∀j,j<d.os.length->idf j<d.os.length:=fun j h=>h
  have hsm:∀i,i<s0.nx->rho I ids i=i:=fun i hi=>by
   by_cases hm:i∈I
   ·obtain⟨p,hp⟩:=List.getElem?_of_mem hm
    have hpl:=(List.getElem?_eq_some_iff.1 hp).1
    have e1:sgs I p=i:=by have:=sgs_get hpl;rw[hp]at this;injection this with this;exact this.symm
    have:=hrho p (by omega)
    rw[e1]at this
    rw[this]
    exact((c6 p i _ hp (sgs_get (by omega))).1 hi).symm
   ·exact rho_no hm
  refine⟨x,k1,fun G0 w0 N a G w hR=> ?_⟩
  have efill:erS T (d.fill T s0 x)=⟨(zipS T d.ts (tkT (sgs I) (tkB d.os b) d.ss _ x).1++s0.sl).map fun p=>(p.1,er T p.2),erH T (hpN (sgs I) 0 (tkC (sgs I) (tkB d.os b) 0 d.os _ y).1++(d.dd.map fun i=>(i,TOb.dead))++s0.h),s0.nx+d.n⟩:=by
   unfold Dl.fill
   rw[hI,hf,k2];rfl
  have hget:∀id ob,(erS T (d.fill T s0 x)).h.get id=some ob->(∃p o,(tkC (sgs I) (tkB d.os b) 0 d.os (hsB d.os) y).1[p]? =some o/\p<d.os.length/\id=sgs I p/\ob=erO T o)∨(id∈d.dd/\id∉I/\ob= .dead)∨(id∉I/\id∉d.dd/\(erS T s0).h.get id=some ob):=by
   intro id ob hgt
   rw[efill]at hgt
   have hgt:Hp.get (erH T (hpN (sgs I) 0 (tkC (sgs I) (tkB d.os b) 0 d.os _ y).1++(d.dd.map fun i=>(i,TOb.dead))++s0.h)) id=some ob:=hgt
   rw[List.append_assoc,erH_app,k1r]at hgt
   split at hgt
   ·rename_i o1 ho1
    injection hgt with hgt
    subst hgt
    obtain⟨p,o,q1,q2,q3⟩:=hpN_get _ _ _ _ ho1
    rw[Nat.zero_add]at q2
    exact .inl ⟨p,o,q1,by have:=(List.getElem?_eq_some_iff.1 q1).1;rw[tkC_len]at this;exact this,q2,q3⟩
   ·rename_i hnone
    have hni:id∉I:=by
     intro hm
     obtain⟨p,hp⟩:=List.getElem?_of_mem hm
     have hpl:=(List.getElem?_eq_some_iff.1 hp).1
     have:=hpN_hit (T:=T) (σ:=sgs I) (os:=(tkC (sgs I) (tkB d.os b) 0 d.os (hsB d.os) y).1) (k:=0) (p:=p) (by rw[tkC_len];omega)
     have e1:sgs I p=id:=by have:=sgs_get hpl;rw[hp]at this;injection this with this;exact this.symm
     rw[Nat.zero_add,e1]at this
     exact this hnone
    rcases kc7 hgt with⟨q1,q2⟩|⟨q1,q2⟩
    ·exact .inr (.inl ⟨q1,hni,q2⟩)
    ·exact .inr (.inr ⟨hni,q1,q2⟩)
  have hkeep:∀id,id<s0.nx->id∉I->id∉d.dd->(erS T s).h.get id=(erS T s0).h.get id:=by
   intro id h1 h2 h3
   show(erH T s.h).get id=(erH T s0.h).get id
   rw[hph,erH_app,k1r]
   split
   ·rename_i o ho
    rcases kc5 a6 ho with q|q|q
    ·exact(h2 ((hidm id).2 (.inl q))).elim
    ·exact(h3 q).elim
    ·omega
   ·rfl
  have hnew:∀p,p<d.os.length->s0.nx<=sgs I p->∀j,j<s0.nx->j∉d.dd->sgs ids p≠j:=by
   intro p hp h1 j hj hjd e
   rcases(c6 p _ _ (sgs_get (by omega)) (sgs_get (by omega))).2 h1 with q|q
   ·omega
   ·rw[e]at q;exact hjd q
  have hcross:∀p j,p<d.os.length->j∉I->j∉d.dd->j<s0.nx->sgs ids p≠j:=by
   intro p j hp hj1 hj2 hj3 e
   by_cases hs:sgs I p<s0.nx
   ·have:=(c6 p _ _ (sgs_get (by omega)) (sgs_get (by omega))).1 hs
    rw[e]at this
    exact hj1 (this▸List.mem_of_getElem? (sgs_get (by omega)))
   ·exact hnew p hp (by omega) j hj3 hj2 e
  have hnx' :(erS T (d.fill T s0 x)).nx=s0.nx+d.n:=rfl
  have hsnx:(erS T s).nx=s.nx:=rfl
  refine hR.leRen (σ:=rho I ids) (by rw[hnx'];omega) (fun i hi=>hsm i (by omega)) (fun i hi=> ?_) (fun i j li lj hij=> ?_) (fun id ob hgt=> ?_) ?_
  ·rw[hnx']at hi
   rw[hsnx]
   by_cases hs:i<s0.nx
   ·rw[hsm i hs];omega
   ·have hm:i∈I:=(hidm i).2 (.inr ⟨by omega,hi⟩)
    obtain⟨p,hp⟩:=List.getElem?_of_mem hm
    have hpl:=(List.getElem?_eq_some_iff.1 hp).1
    have e1:sgs I p=i:=by have:=sgs_get hpl;rw[hp]at this;injection this with this;exact this.symm
    rw[<-e1,hrho p (by omega)]
    exact c3 _ (List.mem_of_getElem? (sgs_get (by omega)))
  ·obtain⟨oi,hoi,ni⟩:=live_of li
   obtain⟨oj,hoj,nj⟩:=live_of lj
   rcases hget i oi hoi with⟨p,_,_,q1,q2,_⟩|⟨_,_,q3⟩|⟨q1,q2,q3⟩
   ·rcases hget j oj hoj with⟨q,_,_,r1,r2,_⟩|⟨_,_,r3⟩|⟨r1,r2,r3⟩
    ·rw[q2,r2,hrho p q1,hrho q r1]at hij
     have:=k7w c2 (sgs_get (show p<ids.length by omega)) (by rw[hij];exact sgs_get (show q<ids.length by omega))
     rw[q2,r2,this]
    ·exact(nj r3).elim
    ·have hj:=(hg.h j oj r3).1
     rw[q2,hrho p q1,hsm j hj]at hij
     exact(hcross p j q1 r1 r2 hj hij).elim
   ·exact(ni q3).elim
   ·have hi:=(hg.h i oi q3).1
    rcases hget j oj hoj with⟨q,_,_,r1,r2,_⟩|⟨_,_,r3⟩|⟨r1,r2,r3⟩
    ·rw[r2,hrho q r1,hsm i hi]at hij
     exact(hcross q i r1 q1 q2 hi hij.symm).elim
    ·exact(nj r3).elim
    ·have hj:=(hg.h j oj r3).1
     rw[hsm i hi,hsm j hj]at hij
     exact hij
  ·rcases hget id ob hgt with⟨p,o,q1,q2,rfl,rfl⟩|⟨q1,q2,rfl⟩|⟨q1,q2,q3⟩
   ·refine⟨hlt p q2,?_,tkC_ok (k12 _ _) hlt 0 d.os _ y b2 p o q1⟩
    have hl1:p<(tkC (sgs ids) (tkB d.os b) 0 d.os (hsB d.os) y).1.length:=by rw[tkC_len];exact q2
    have hl0:p<(tkC idf (tkB d.os b) 0 d.os (hsB d.os) y).1.length:=by rw[tkC_len];exact q2
    have w1:=congrArg (fun l=>l[p]?) (tkC_ren (sgs I) (tkB d.os b) (k12 d.os b) 0 d.os (hsB d.os) y)
    have w2:=congrArg (fun l=>l[p]?) (tkC_ren (sgs ids) (tkB d.os b) (k12 d.os b) 0 d.os (hsB d.os) y)
    simp only[List.getElem?_map,q1,Option.map_some,List.getElem?_eq_getElem hl0,List.getElem?_eq_getElem hl1,Option.some.injEq]at w1 w2
    have w3:=tkC_ok (k12 d.os b) hid1 0 d.os (hsB d.os) y b2 p _ (List.getElem?_eq_getElem hl0)
    rw[hrho p q2,w1,kd4 hrho w3,<-w2]
    exact g3 p _ (List.getElem?_eq_getElem hl1)
   ·refine⟨by rw[hnx'];have:=a3 _ q1;omega,?_,trivial⟩
    show obLe _ Ob.dead
    cases (erS T s).h.get (rho I ids id)with
    |none=>trivial
    |some o=>cases o<;>trivial
   ·obtain⟨r1,r2,r3⟩:=hg.h id ob q3
    have mono:∀{m:Nat},s0.nx<=m->okO s0.nx ob->okO m ob:=fun hm ho=>ki2 hm ho
    refine⟨by rw[hnx'];omega,?_,mono (by rw[hnx'];omega) r2⟩
    rw[hsm id r1,renO_id hsm r2,hkeep id r1 q1 q2,q3]
    exact r3
  ·intro t
   have key:leAll ((d.ts.map (getT s.sl)).map (er T)) (((tkT (sgs I) (tkB d.os b) d.ss (hsOs d.os) x).1.map (er T)).map (ren (rho I ids))):=by
    have e1:((tkT (sgs I) (tkB d.os b) d.ss (hsOs d.os) x).1.map (er T)).map (ren (rho I ids))=(tkT (sgs ids) (tkB d.os b) d.ss (hsOs d.os) x).1.map (er T):=by
     rw[tkT_er,tkT_er]
     have:((tkT (sgs I) (tkB d.os b) d.ss (hsOs d.os) x).1.map (er0 T)).map (ren (rho I ids))=((tkT (sgs I) (tkB d.os b) d.ss (hsOs d.os) x).1.map (er0 T)).map (ren0 (rho I ids)):=by
      rw[List.map_map,List.map_map]
      exact List.map_congr_left fun v _=>ren_0 _ k1b
     rw[this,k1z (sgs I),k1z (sgs ids)]
     exact k8s hrho (tkT_ok hid1 d.ss _ x b1)
    rw[e1];exact k4
   rw[efill]
   show getS ((zipS T d.ts (tkT (sgs I) (tkB d.os b) d.ss _ x).1++s0.sl).map fun p=>(p.1,er T p.2)) t= .any∨_
   rw[getS_er]
   by_cases ht:t∈d.ts
   ·rw[kdd (zip_has (by rw[tkT_len];exact nb_eq b4) ht)]
    have:=slotsR (sl:=s.sl) (nx:=s0.nx+d.n) d.ts _ key (args_ok hlt d.ss _ x b1) t
    rw[getS_er]at this
    exact this
   ·rw[k8k (zip_no ht)]
    by_cases hk:hasK T s0.sl t=true
    ·right
     have e:getT s.sl t=getT s0.sl t:=by
      rw[hpsl]
      refine k8k ?_
      cases hp:hasK T psl t with
      |false=>rfl
      |true=>
       rcases kde a5 hp with q|q
       ·exact(ht q).elim
       ·rw[q]at hk;cases hk
     obtain⟨r1,r2⟩:=hg.sl t
     refine⟨?_,ok_mono (Nat.le_add_right _ _) r1⟩
     rw[ren_id hsm r1,show getS (erS T s).sl t=er T (getT s.sl t)from getS_er s.sl t,e]
     exact r2
    ·left
     rw[kb1 (by simpa using hk)];rfl
 ·exact h4.elim
theorem Xt.cons {s:TSt T.den} (a:List (Nat×TV T.den)) (b:THp T.den) (n:Nat):Xt s ⟨a++s.sl,b++s.h,s.nx+n⟩:=⟨⟨a,rfl⟩,⟨b,rfl⟩,Nat.le_add_right _ _⟩
theorem Xt.h1 {s:TSt T.den} (b:THp T.den) (n:Nat):Xt s ⟨s.sl,b++s.h,s.nx+n⟩:=⟨⟨[],rfl⟩,⟨b,rfl⟩,Nat.le_add_right _ _⟩
theorem kdy {id n z:Nat} {v:TV T.den}:∀(ts:List Nat) (sl:List (Nat×TV T.den)) {K K' :List (Nat×TV T.den)->Prop},(∀a,K (a++sl)->K' (a++sl))->rowsTo T id v n z ts sl K->rowsTo T id v n z ts sl K'
 |[],sl,K,K',hk,h=>hk [] h
 |t::ts,sl,K,K',hk,h=>by
  simp only[rowsTo]at h ⊢
  split at h
  ·obtain⟨h1,h2,h3⟩:=cnd h
   rw[h1,cond_true]
   exact⟨h2,kdy ts _ (fun a ha=>by have:=hk (a++[(t,v)]);simp only[List.append_assoc,List.singleton_append]at this;exact this ha) h3⟩
  ·exact h.elim
theorem trimV_X {h:THp T.den} {v:TV T.den} {K K' :Nat->(e:Ty)->List (e.den T.den)->Prop} (hk:∀id e l,K id e l->K' id e l) (hh:trimV T h v K):trimV T h v K' :=by
 unfold trimV at hh ⊢
 split at hh<;>try exact hh.elim
 all_goals
  split at hh
  ·obtain⟨h1,h2⟩:=cnd hh
   rw[h1,cond_true]
   first|exact⟨h2.1,hk _ _ _ h2.2⟩|exact⟨h2.1,h2.2.1,hk _ _ _ h2.2.2⟩
  ·exact hh.elim
theorem gh1_X {s:TSt T.den} {K K' :TSt T.den->Prop} (hk:∀s',Xt s s'->K s'->K' s'):∀(g:Gs),gh1 T s K g->gh1 T s K' g
 | .frz id ts,h=>by
  simp only[gh1]at h ⊢
  split at h
  ·exact kdy ts _ (fun a=>hk _ ⟨⟨a,rfl⟩,⟨[_,_],rfl⟩,Nat.le_succ _⟩) h
  ·exact h.elim
 | .frzc id i j,h=>by
  simp only[gh1]at h ⊢
  split at h
  ·split at h
   ·obtain⟨h1,h2,h3⟩:=cnd h
    rw[h1,cond_true]
    exact⟨h2,hk _ ⟨⟨[],rfl⟩,⟨[_,_,_],rfl⟩,Nat.le_succ _⟩ h3⟩
   ·exact h.elim
  ·exact h.elim
 | .tok t e,h=>by
  simp only[gh1]at h ⊢
  split at h
  ·exact hk _ ⟨⟨[_],rfl⟩,⟨[_],rfl⟩,Nat.le_succ _⟩ h
  ·exact h.elim
 | .tokc id j e,h=>by
  simp only[gh1]at h ⊢
  split at h
  ·split at h
   ·split at h
    ·exact hk _ ⟨⟨[],rfl⟩,⟨[_,_],rfl⟩,Nat.le_succ _⟩ h
    ·exact h.elim
   ·exact h.elim
  ·exact h.elim
 | .trim t,h=>by
  simp only[gh1]at h ⊢
  exact trimV_X (fun _ _ _=>hk _ ⟨⟨[_],rfl⟩,⟨[_,_],rfl⟩,Nat.le_succ _⟩) h
 | .trimc id j,h=>by
  simp only[gh1]at h ⊢
  split at h
  ·split at h
   ·refine trimV_X (fun id' e l hh=> ?_) h
    revert hh
    cases Nat.beq id' id with
    |true=>exact fun hh=>hh
    |false=>exact hk _ ⟨⟨[],rfl⟩,⟨[_,_,_],rfl⟩,Nat.le_succ _⟩
   ·exact h.elim
  ·exact h.elim
 | .rnil t e,h=>by
  simp only[gh1]at h ⊢
  obtain⟨h1,h2⟩:=cnd h
  rw[h1,cond_true]
  exact hk _ ⟨⟨[_],rfl⟩,⟨[_],rfl⟩,Nat.le_succ _⟩ h2
 | .rnilc id j e,h=>by
  simp only[gh1]at h ⊢
  split at h
  ·split at h
   ·obtain⟨h1,h2⟩:=cnd h
    rw[h1,cond_true]
    exact hk _ ⟨⟨[],rfl⟩,⟨[_,_],rfl⟩,Nat.le_succ _⟩ h2
   ·exact h.elim
  ·exact h.elim
 | .frzf id i,h=>by
  simp only[gh1]at h ⊢
  split at h
  ·obtain⟨h1,h⟩:=cnd h
   rw[h1,cond_true]
   split at h
   ·exact⟨h.1,hk _ ⟨⟨[],rfl⟩,⟨[_,_,_],rfl⟩,Nat.le_succ _⟩ h.2⟩
   ·exact h.elim
  ·exact h.elim
theorem ghs_X:∀(gs:List Gs) {s:TSt T.den} {K K' :TSt T.den->Prop},(∀s',Xt s s'->K s'->K' s')->ghs T gs s K->ghs T gs s K'
 |[],s,_,_,hk,h=>hk s (Xt.refl s) h
 |g::gs,s,_,_,hk,h=>gh1_X (fun s1 h1 h2=>ghs_X gs (fun s' h3=>hk s' (h1.trans h3)) h2) g h
theorem fill_X {d:Dl} {s:TSt T.den} {i:HL T.den d.hs}:Xt s (d.fill T s i):=⟨⟨_,rfl⟩,⟨_,rfl⟩,Nat.le_add_right _ _⟩
theorem sat_ghX (hT:T.Ok) {Tk:Tk} {G0:Gh} {w0:World} {gs:List Gs} {s:TSt T.den} {K:TSt T.den->Prop} {c:Code} {Q:Exit->St->Prop} (h:ghs T gs s K) (hk:∀s',K s'->Xt s s'->Sat P Tk G0 w0 N c (erS T s') Q):Sat P Tk G0 w0 N c (erS T s) Q:=
 sat_ghs hT (K:=fun s' =>K s'/\Xt s s') (ghs_X gs (fun _ hx hs=>⟨hs,hx⟩) h) fun s' hs=>hk s' hs.1 hs.2
def QX (s:TSt T.den) (Q:Exit->TSt T.den->Prop) (e:Exit) (t:St):Prop:=KE (fun t=>Q e t/\Xt s t) t
theorem QX.of {s s' :TSt T.den} {Q:Exit->TSt T.den->Prop} {e:Exit} {t:St} (hx:Xt s s') (h:QX s' Q e t):QX s Q e t:=let⟨u,h1,h2⟩:=h;⟨u,⟨h1.1,hx.trans h1.2⟩,h2⟩
theorem QX.mk {s t:TSt T.den} {Q:Exit->TSt T.den->Prop} {e:Exit} (hx:Xt s t) (h:Q e t):QX s Q e (erS T t):=⟨t,⟨h,hx⟩,Wk.refl _⟩
theorem khs (hT:T.Ok) (hC:C.Ok P T) (hm:P.follows .mixedOrders=true) {Tk:Tk} {G0:Gh} {w0:World}:∀(c:Code) (an:Nt) (s:TSt T.den) (Q:Exit->TSt T.den->Prop),Tk.nx<=s.nx->WQ T C N c an s Q->Sat P Tk G0 w0 N c (erS T s) (QX s Q):=by
 intro c
 induction c with
 |skip=>intro an s Q _ h;exact kd3 (QX.mk (Xt.refl s) (by simpa[WQ]using h))
 |region id ops dr=>
  intro an s Q _ h
  obtain⟨l⟩:=ops
  have h:regW T C N ⟨l⟩ dr s (Q .normal):=by simpa[WQ]using h
  cases dr with
  |false=>
   intro G a w hR
   exact wp_region_lit (k45 hT hC l (Q .normal) s s a G w (Xt.refl s) hR h fun s' a' G' w' hk hx hR' =>⟨erS T s',G',QX.mk hx hk,hR'⟩)
  |true=>
   unfold regW at h
   obtain⟨h1,h2⟩:=cnd h
   rw[Bool.and_eq_true]at h1
   refine kah C.S hm (noIt_er h1.2) h1.1 fun K hK=> ?_
   have hx:Xt s ⟨s.sl,s.h,s.nx+l.length*C.S⟩:=⟨⟨[],rfl⟩,⟨[],rfl⟩,Nat.le_add_right _ _⟩
   exact k3h (K:=KE fun t=>Q .normal t/\Xt s t) (fun a b he ⟨t,q1,q2⟩=>hK a ⟨t,q1,he.wk.trans q2⟩) (closeOps l) _ _ _ _ _ (Eqv.refl _) (k2u hT hC (s0:=s) (closeOps l) _ _ _ _ hx h2)
 |seq x y ihx ihy=>
  intro an s Q hn h
  have plain:∀(ga gb:List Gs) (a b:Nt),(ghs T ga s fun s=>WQ T C N x a s (thenT T (fun s' =>ghs T gb s' fun s' =>WQ T C N y b s' Q) Q))->Sat P Tk G0 w0 N (.seq x y) (erS T s) (QX s Q):=by
   intro ga gb a b h1
   refine sat_ghX hT h1 fun s' hs' hx=>sat_seq (kr (ihx a s' _ (Nat.le_trans hn hx.2.2) hs') fun e s1 hq=> ?_)
   obtain⟨t,⟨q1,q2⟩,q3⟩:=hq
   cases e with
   |normal=>exact sat_lk q3.lk (sat_ghX hT q1 fun s2 hs2 hx2=>kr (ihy b s2 Q (Nat.le_trans hn ((hx.trans q2).trans hx2).2.2) hs2) fun _ _=>QX.of ((hx.trans q2).trans hx2))
   |_=>exact⟨t,⟨q1,hx.trans q2⟩,q3⟩
  cases an with
  |jn d ga a gb b=>
   have h:ghs T ga s fun s=>∀J:Ar T.den d.hs Prop,alH d.hs (fun i=>(ghs T gb (d.fill T s i) fun s' =>WQ T C N y b s' Q)->apA d.hs J i)->WQ T C N x a s (thenT T (fun s1=>d.mat T s s1 (apA d.hs J)) Q):=by simpa only[WQ]using h
   refine sat_ghX hT h fun s' hs' hx=> ?_
   have hn' :=Nat.le_trans hn hx.2.2
   intro G ac w hR
   have hg:=gd_of hR
   have h1:=hs' (cuA d.hs fun i=>Sat P Tk G0 w0 N y (erS T (d.fill T s' i)) (QX s Q)) (alH_iff.2 fun i hi=>by
    rw[ap_cu]
    exact sat_ghX hT hi fun s2 hs2 hx2=>kr (ihy b s2 Q (Nat.le_trans hn' (fill_X.trans hx2).2.2) hs2) fun _ _=>QX.of (hx.trans (fill_X.trans hx2)))
   refine sat_seq (kr (ihx a s' _ hn' h1) fun e s1 hq=> ?_) G ac w hR
   obtain⟨t,⟨q1,q2⟩,q3⟩:=hq
   cases e with
   |normal=>
    obtain⟨i,k1,k2⟩:=k81 hT q2 hg hn' q1
    rw[ap_cu]at k1
    exact sat_lk (q3.lk.trans k2) k1
   |_=>exact⟨t,⟨q1,hx.trans q2⟩,q3⟩
  |no=>simp only[WQ]at h;exact plain _ _ _ _ h
  |r n b=>simp only[WQ]at h;exact plain _ _ _ _ h
  |nd ga a gb b=>simp only[WQ]at h;exact plain _ _ _ _ h
  |lp g d a=>simp only[WQ]at h;exact plain _ _ _ _ h
  |rt g=>simp only[WQ]at h;exact plain _ _ _ _ h
 |cond c x y ihx ihy=>
  intro an s Q hn h
  simp only[WQ]at h
  split at h
  ·rename_i hv
   exact kaz (by rw[ev_er,hv];rfl) (sat_ghX hT h fun s' hs' hx=>kr (ihx _ s' Q (Nat.le_trans hn hx.2.2) hs') fun _ _=>QX.of hx)
  ·rename_i hv
   exact kau (by rw[ev_er,hv];rfl) (sat_ghX hT h fun s' hs' hx=>kr (ihy _ s' Q (Nat.le_trans hn hx.2.2) hs') fun _ _=>QX.of hx)
  ·rename_i t hv
   exact k56 (t:=t) (by rw[ev_er,hv];rfl) (fun ht=>sat_ghX hT (h.1 ht) fun s' hs' hx=>kr (ihx _ s' Q (Nat.le_trans hn hx.2.2) hs') fun _ _=>QX.of hx) (fun ht=>sat_ghX hT (h.2 ht) fun s' hs' hx=>kr (ihy _ s' Q (Nat.le_trans hn hx.2.2) hs') fun _ _=>QX.of hx)
  ·exact h.elim
 |block id x ih=>
  intro an s Q hn h
  simp only[WQ]at h
  refine kan (kr (ih an s _ hn h) fun e s1 hq=> ?_)
  obtain⟨t,⟨q1,q2⟩,q3⟩:=hq
  cases e with
  |exit id' =>
   simp only[blockT]at q1
   simp only[blockA]
   by_cases hi:id' =id
   ·rw[if_pos hi]
    rw[hi,nb_self]at q1
    exact⟨t,⟨q1,q2⟩,q3⟩
   ·rw[if_neg hi]
    rw[nb_ne hi]at q1
    exact⟨t,⟨q1,q2⟩,q3⟩
  |_=>exact⟨t,⟨q1,q2⟩,q3⟩
 |loop x ih=>
  intro an s Q hn h
  cases an with
  |lp g d a=>
   simp only[WQ]at h
   refine sat_ghX hT h fun s' hs' hx=> ?_
   have hn' :=Nat.le_trans hn hx.2.2
   intro G ac w hR
   have hg:=gd_of hR
   obtain⟨i,⟨inv,μ,k0,k1⟩,k2⟩:=k81 hT (Xt.refl s') hg hn' hs'
   refine kax (fun i=>erS T (d.fill T s' i)) (apA d.hs inv) (apA d.hs μ) i k0 k2 (fun i hi=> ?_) G ac w hR
   refine kr (ih _ _ _ (Nat.le_trans hn' fill_X.2.2) (alH_iff.1 k1 i hi)) fun e s1 hq=> ?_
   obtain⟨t,⟨q1,q2⟩,q3⟩:=hq
   cases e with
   |normal=>
    obtain⟨i',⟨m1,m2⟩,m3⟩:=k81 hT (fill_X.trans q2) hg hn' q1
    exact⟨i',m1,m2,q3.lk.trans m3⟩
   |_=>exact⟨t,⟨q1,hx.trans (fill_X.trans q2)⟩,q3⟩
  |_=>simp only[WQ]at h
 |exit id=>intro an s Q _ h;simp only[WQ]at h;exact kcc (QX.mk (Xt.refl s) h)
 |ret=>
  intro an s Q _ h
  simp only[WQ]at h
  exact sat_ghX hT h fun s' hs' hx=>sat_ret (QX.mk hx hs')
 |label l=>intro an s Q _ h;simp only[WQ]at h;exact kap (QX.mk (Xt.refl s) h)
 |_=>intro an s Q _ h;simp only[WQ]at h
theorem Con.soundQ (hT:T.Ok) (hC:C.Ok P T) (hm:P.follows .mixedOrders=true) {c:Con T.den} {fn:Func} {code:Code} (hf:P.funcs[c.f]? =some fn) (hb:fn.body=some code) (hl:Nat.ble c.ins.length fn.ntmps=true)
  {x:HL T.den (hsT c.ins (hsOs c.pre))} {o:HL T.den (hsV c.res (hsOs c.post))} {an:Nt} (hW:WQ T C fn.ntmps code an (c.st T x) (retTQ T C c fn.results.toList o)):
  SoundH P c.f ((c.args idf x).map (er T)) ((c.obs idf x).map (erO T)) (er T (c.val idf o)) ((c.ops idf o).map (erO T)):=by
 have hpl:((c.obs idf x).map (erO T)).length=c.pre.length:=by rw[List.length_map];unfold Con.obs;rw[tkC_len]
 have hal:((c.args idf x).map (er T)).length=c.ins.length:=by rw[List.length_map];unfold Con.args;rw[tkT_len]
 refine kd8 hf hb rfl (by rw[hal];exact ble_le hl) fun G0 w0=> ?_
 have e:erS T (c.st T x)=⟨initSl 0 ((c.args idf x).map (er T)),hpOf 0 ((c.obs idf x).map (erO T)),((c.obs idf x).map (erO T)).length⟩:=by
  rw[hpl]
  show St.mk _ _ _=_
  unfold Con.st
  rw[k89,hpN_idf]
 rw[<-e]
 refine kcl (khs hT hC hm code an _ _ (Nat.le_of_eq hpl) hW) fun ex s1 hq=> ?_
 obtain⟨t,⟨q1,_⟩,q2⟩:=hq
 refine⟨erS T t,?_,q2.lk⟩
 cases ex with
 |normal=>have:=k5a hT hC (s:=t) q1;rw[<-hpl]at this;exact this
 |ret=>have:=k5a hT hC (s:=t) q1;rw[<-hpl]at this;exact this
 |_=>exact q1
end
end Go.Cv
namespace Go.Cv
open Go Go.Bv Go.RowKit Go.Md
structure WPh (T:Tab) (C:Cx T) (N n0:Nat) (c:Code) (an:An T) (s:TSt T.den) (Q:Exit->TSt T.den->Prop):Prop where
 h:WP T C N n0 c an s Q
structure OblH (T:Tab) (C:Cx T) (N n0:Nat) (c:Code) (an:An T) (Q:Exit->TSt T.den->Prop):Prop where
 h:Obl T C N n0 c an Q
theorem mpr_of {A B:Prop} (e:A=B) (h:B):A:=e.mpr h
section
variable {S:Nat->Type}
end
def flAll (F:Nat->Option (Nat×Bool×Nat)):Nat->List (Nat×Bool×Nat)->Prop
 |_,[]=>True
 |k,q::r=>F k=some q/\flAll F (k+1) r
theorem kal {F:Nat->Option (Nat×Bool×Nat)}:∀{l:List (Nat×Bool×Nat)} {k:Nat},flAll F k l->∀i q,l[i]? =some q->F (k+i)=some q
 |[],_,_,i,q,h=>by simp at h
 |p::r,k,ha,i,q,h=>by
  cases i with
  |zero=>simp at h;subst h;exact ha.1
  |succ i=>rw[show k+(i+1)=k+1+i by omega];exact kal ha.2 i q (by simpa using h)
theorem kf {P:Program} {t:TypeId} {l:List (Nat×Bool×Nat)} (h:flAll (fldOf P t) 0 l) (f:Nat) (q:Nat×Bool×Nat) (hq:l[f]? =some q):fldOf P t f=some q:=by
 have:=kal h f q hq
 simpa using this
section
variable {T:Tab} {P:Program}
theorem all_cons {α:Type} {p:α->Prop} {a:α} {l:List α} (h:p a) (h' :∀c∈l,p c):∀c∈a::l,p c:=fun c hc=>by
 rcases List.mem_cons.1 hc with rfl|hc
 ·exact h
 ·exact h' c hc
theorem ke {P:Program} {T:Tab}:InfoOk P T .lf:=fun _ _ h=>by cases h
theorem find_nd {P:Program} {T:Tab} {l r:BT (TI T.den)} {k:Nat} {v:TI T.den} (hv:TI.Ok P T k v) (hl:InfoOk P T l) (hr:InfoOk P T r):InfoOk P T (.nd l k v r):=fun t x h=>by
 unfold BT.find at h
 cases h1:Nat.beq t k with
 |true=>rw[h1]at h;have:=nb_eq h1;subst this;injection h with h;subst h;exact hv
 |false=>
  rw[h1]at h
  cases h2:Nat.ble t k with
  |true=>rw[h2]at h;exact hl t x h
  |false=>rw[h2]at h;exact hr t x h
end
end Go.Cv
namespace Go.Cv
open Go Go.Bv Go.RowKit Go.Md
section
variable {S:Nat->Type}
def apH:(a:List Ty)->{b:List Ty}->HL S a->HL S b->HL S (a++b)
 |[],_,_,y=>y
 |_::r,_,x,y=>(x.1,apH r x.2 y)
def spA:(a:List Ty)->{b:List Ty}->HL S (a++b)->HL S a
 |[],_,_=>()
 |_::r,_,x=>(x.1,spA r x.2)
def spB:(a:List Ty)->{b:List Ty}->HL S (a++b)->HL S b
 |[],_,x=>x
 |_::r,_,x=>spB r x.2
theorem ap_sp:∀(a:List Ty) {b:List Ty} (x:HL S (a++b)),apH a (spA a x) (spB a x)=x
 |[],_,_=>rfl
 |_::r,_,x=>congrArg (fun z=>(x.1,z)) (ap_sp r x.2)
def cst {a b:List Ty} (h:a=b) (x:HL S b):HL S a:=h▸x
theorem cst_cst {a b:List Ty} (h:a=b) (x:HL S b):cst h.symm (cst h x)=x:=by subst h;rfl
def cnj:List Prop->Prop
 |[]=>True
 |[a]=>a
 |a::b::r=>a/\cnj (b::r)
def eqs:List Prop->Prop->Prop
 |[],K=>K
 |a::l,K=>cnj (a::l)->K
def alM:List Bool->(ts:List Ty)->HL S ts->(HL S ts->List Prop->Prop)->Prop
 |true::m,t::r,x,K=>∀v:t.den S,alM m r x.2 fun y l=>K (v,y) ((v=x.1)::l)
 |false::m,t::r,x,K=>alM m r x.2 fun y l=>K (x.1,y) l
 |_,_,x,K=>K x []
def alE:(ts:List Ty)->HL S ts->(HL S ts->Prop)->Prop
 |t::r,x,K=>∀v:t.den S,x.1=v->alE r x.2 fun y=>K (v,y)
 |[],x,K=>K x
theorem cnj_of:∀{l:List Prop},(∀p∈l,p)->cnj l
 |[],_=>trivial
 |[_],h=>h _ (List.mem_singleton_self _)
 |_::b::r,h=>⟨h _ (List.mem_cons_self ..),cnj_of (l:=b::r) fun p hp=>h p (List.mem_cons_of_mem _ hp)⟩
theorem alM_at:∀{m:List Bool} {ts:List Ty} {x:HL S ts} {K:HL S ts->List Prop->Prop},alM m ts x K->∃l,K x l/\∀p∈l,p
 |[],[],_,_,h=>⟨_,h,fun _ hp=>by cases hp⟩
 |[],_::_,_,_,h=>⟨_,h,fun _ hp=>by cases hp⟩
 |true::_,[],_,_,h=>⟨_,h,fun _ hp=>by cases hp⟩
 |false::_,[],_,_,h=>⟨_,h,fun _ hp=>by cases hp⟩
 |true::m,_::r,x,_,h=>by
  obtain⟨l,h1,h2⟩:=alM_at (m:=m) (ts:=r) (h x.1)
  refine⟨_,h1,fun p hp=> ?_⟩
  rcases List.mem_cons.1 hp with rfl|hp
  ·rfl
  ·exact h2 p hp
 |false::m,_::r,_,_,h=>alM_at (m:=m) (ts:=r) h
theorem eqs_at {l:List Prop} {K:Prop} (h:eqs l K) (hl:∀p∈l,p):K:=by
 cases l with
 |nil=>exact h
 |cons a l=>exact h (cnj_of hl)
theorem alE_at:∀{ts:List Ty} {x:HL S ts} {K:HL S ts->Prop},alE ts x K->K x
 |[],_,_,h=>h
 |_::r,x,_,h=>alE_at (ts:=r) (h x.1 rfl)
end
section
variable (T:Tab)
def flT:List Ty->List Ty
 |[]=>[]
 | .st n::r=>T.tys n++flT r
 | .int k::r=> .int k::flT r
 | .bool::r=> .bool::flT r
 | .str::r=> .str::flT r
 | .sl e::r=> .sl e::flT r
def flH:(ts:List Ty)->HL T.den ts->HL T.den (flT T ts)
 |[],_=>()
 | .st n::r,x=>apH (T.tys n) (T.cells n x.1) (flH r x.2)
 | .int _::r,x=>(x.1,flH r x.2)
 | .bool::r,x=>(x.1,flH r x.2)
 | .str::r,x=>(x.1,flH r x.2)
 | .sl _::r,x=>(x.1,flH r x.2)
def unH:(ts:List Ty)->HL T.den (flT T ts)->HL T.den ts
 |[],_=>()
 | .st n::r,x=>(T.pack n (spA (T.tys n) x),unH r (spB (T.tys n) x))
 | .int _::r,x=>(x.1,unH r x.2)
 | .bool::r,x=>(x.1,unH r x.2)
 | .str::r,x=>(x.1,unH r x.2)
 | .sl _::r,x=>(x.1,unH r x.2)
theorem fl_un (hT:T.Ok):∀(ts:List Ty) (x:HL T.den (flT T ts)),flH T ts (unH T ts x)=x
 |[],_=>rfl
 | .st n::r,x=>by
  show apH (T.tys n) (T.cells n (T.pack n (spA (T.tys n) x))) (flH T r (unH T r (spB (T.tys n) x)))=x
  rw[hT.pc,fl_un hT r]
  exact ap_sp _ _
 | .int _::r,x=>congrArg (fun z=>(x.1,z)) (fl_un hT r x.2)
 | .bool::r,x=>congrArg (fun z=>(x.1,z)) (fl_un hT r x.2)
 | .str::r,x=>congrArg (fun z=>(x.1,z)) (fl_un hT r x.2)
 | .sl _::r,x=>congrArg (fun z=>(x.1,z)) (fl_un hT r x.2)
end
structure Shp where
 f:Nat
 ins:List Sh0
 pre:List OSh
 res:Sh
 post:List OSh
 alt:Bool:=false
abbrev Shp.I (c:Shp):List Ty:=hsT c.ins (hsOs c.pre)
abbrev Shp.O (c:Shp):List Ty:=hsV c.res (hsOs c.post)
def Shp.c {S:Nat->Type} (c:Shp) (R:HL S c.I->(HL S c.O->Prop)->Prop):Con S:=⟨c.f,c.ins,c.pre,c.res,c.post,R,c.alt⟩
def Con.g {T:Tab} (c:Shp) (pk qk:List Ty) (m:List Bool) (sp:Ar T.den pk (Prop×HL T.den qk)) (h:flT T pk=c.I:=by kernel_rfl) (h' :flT T qk=c.O:=by kernel_rfl):Con T.den:=
 c.c fun x K=>(apA pk sp (unH T pk (cst h x))).1/\alM m qk (apA pk sp (unH T pk (cst h x))).2 fun o l=>eqs l (K (cst h'.symm (flH T qk o)))
def Con.t {T:Tab} (c:Shp) (pk qk:List Ty) (m:List Bool) (sp:Ar T.den pk (HL T.den qk)) (h:flT T pk=c.I:=by kernel_rfl) (h' :flT T qk=c.O:=by kernel_rfl):Con T.den:=
 c.c fun x K=>alM m qk (apA pk sp (unH T pk (cst h x))) fun o l=>eqs l (K (cst h'.symm (flH T qk o)))
def dS (T:Tab):Ty->Sh0
 | .st n=> .agg ((T.tys n).map .d)
 |t=> .one (.d t)
def dV (T:Tab):List Ty->Sh
 |[t]=> .one (dS T t)
 |l=> .tup (l.map (dS T))
def Shp.p (T:Tab) (f:Nat) (pk qk:List Ty):Shp:=⟨f,pk.map (dS T),[],dV T qk,[],false⟩
def NoGo (fn:Func):Bool:=decide (fn.name≠ "runtime.NumGoroutine")
structure Base (P:Program) (T:Tab) (I:BT (TI T.den)):Prop where
 tb:T.Ok
 ti:InfoOk P T I
 mix:P.follows .mixedOrders=true
def AllC (P:Program) (T:Tab) (l:List (Con T.den)):Prop:=∀c∈l,c.Ok P T
def AllX (P:Program) (T:Tab) (l:List (XCon T.den)):Prop:=∀c∈l,c.Ok P T
section
variable {P:Program} {T:Tab}
theorem c0:AllC P T []:=fun _ h=>by cases h
theorem x0:AllX P T []:=fun _ h=>by cases h
theorem Con.Ok.c {c:Con T.den} {l:List (Con T.den)} (h:c.Ok P T) (h' :AllC P T l):AllC P T (c::l):=all_cons h h'
theorem x1 {c:XCon T.den} {l:List (XCon T.den)} (h:c.Ok P T) (h' :AllX P T l):AllX P T (c::l):=all_cons h h'
theorem callable {f:Nat} {fn:Func} {code:Code} (hf:P.funcs[f]? =some fn) (hb:fn.body=some code) (hg:NoGo fn=true):Callable P f:=by
 refine⟨by rw[hf];simp[hb],?_⟩
 rw[hf]
 intro h
 simp only[Option.map_some,Option.some.injEq]at h
 exact of_decide_eq_true hg h
def obF (C:Cx T) (fn:Func) (an:Nt) (k:Con T.den) (pk qk:List Ty) (h:flT T pk=hsT k.ins (hsOs k.pre)) (h' :flT T qk=hsV k.res (hsOs k.post)) (sp:HL T.den pk->(HL T.den qk->Prop)->Prop):Prop:=match fn.body with
 | some code=>bif NoGo fn&&Nat.ble k.ins.length fn.ntmps then
   alH pk fun y=>sp y fun o=>WQ T C fn.ntmps code an (k.st T (cst h.symm (flH T pk y))) (retTQ T C k fn.results.toList (cst h'.symm (flH T qk o)))
  else False
 |none=>False
theorem obF_ok {I:BT (TI T.den)} (B:Base P T I) {cs:List (Con T.den)} {xs:List (XCon T.den)} {z:Nat} {rw:List Nat} {fn:Func} {an:Nt} {k:Con T.den} {pk qk:List Ty} {h:flT T pk=hsT k.ins (hsOs k.pre)} {h' :flT T qk=hsV k.res (hsOs k.post)} {sp:HL T.den pk->(HL T.den qk->Prop)->Prop}
  (hf:P.funcs[k.f]? =some fn) (hcs:AllC P T cs) (hxs:AllX P T xs) (q:obF ⟨I,cs,xs,z,rw⟩ fn an k pk qk h h' sp)
  (hR:∀x K,k.R x K->∀L,sp (unH T pk (cst h x)) L->∃o,K (cst h'.symm (flH T qk o))/\L o):k.Ok P T:=by
 unfold obF at q
 split at q
 ·rename_i code hb
  obtain⟨q1,q2⟩:=cnd q
  rw[Bool.and_eq_true]at q1
  refine⟨callable hf hb q1.1,fun x K hx=> ?_⟩
  obtain⟨o,h1,h2⟩:=hR x K hx _ (alH_iff.1 q2 (unH T pk (cst h x)))
  have e:cst h.symm (flH T pk (unH T pk (cst h x)))=x:=by rw[fl_un T B.tb];exact cst_cst h x
  rw[e]at h2
  exact⟨_,h1,Con.soundQ (C:=⟨I,cs,xs,z,rw⟩) B.tb ⟨B.ti,hcs,hxs⟩ B.mix hf hb q1.2 h2⟩
 ·exact q.elim
variable {I:BT (TI T.den)} {cs:List (Con T.den)} {xs:List (XCon T.den)} {rw:List Nat} {fn:Func} {an:Nt} {c:Shp} {pk qk:List Ty} {m:List Bool} {h:flT T pk=c.I} {h' :flT T qk=c.O} {Q:Prop}
theorem prx (B:Base P T I) (rw:List Nat) {sp:Ar T.den pk (Prop×HL T.den qk)} (hf:P.funcs[c.f]? =some fn) (an:Nt) (hxs:AllX P T xs) (hcs:AllC P T cs)
  (e:obF ⟨I,cs,xs,4,rw⟩ fn an (Con.g c pk qk m sp h h') pk qk h h' (fun y L=>(apA pk sp y).1->alE qk (apA pk sp y).2 L)=Q) (q:Q):(Con.g c pk qk m sp h h').Ok P T:=
 obF_ok B hf hcs hxs (e.mpr q) fun _ _ hx _ hL=>let⟨_,h1,h2⟩:=alM_at hx.2;⟨_,eqs_at h1 h2,alE_at (hL hx.1)⟩
theorem ptx (B:Base P T I) (rw:List Nat) {sp:Ar T.den pk (HL T.den qk)} (hf:P.funcs[c.f]? =some fn) (an:Nt) (hxs:AllX P T xs) (hcs:AllC P T cs)
  (e:obF ⟨I,cs,xs,4,rw⟩ fn an (Con.t c pk qk m sp h h') pk qk h h' (fun y L=>alE qk (apA pk sp y) L)=Q) (q:Q):(Con.t c pk qk m sp h h').Ok P T:=
 obF_ok B hf hcs hxs (e.mpr q) fun _ _ hx _ hL=>let⟨_,h1,h2⟩:=alM_at hx;⟨_,eqs_at h1 h2,alE_at hL⟩
theorem prv (B:Base P T I) {sp:Ar T.den pk (Prop×HL T.den qk)} (hf:P.funcs[c.f]? =some fn) (an:Nt) (hcs:AllC P T cs)
  (e:obF ⟨I,cs,[],4,[]⟩ fn an (Con.g c pk qk m sp h h') pk qk h h' (fun y L=>(apA pk sp y).1->alE qk (apA pk sp y).2 L)=Q) (q:Q):(Con.g c pk qk m sp h h').Ok P T:=prx B [] hf an x0 hcs e q
theorem ptv (B:Base P T I) {sp:Ar T.den pk (HL T.den qk)} (hf:P.funcs[c.f]? =some fn) (an:Nt) (hcs:AllC P T cs)
  (e:obF ⟨I,cs,[],4,[]⟩ fn an (Con.t c pk qk m sp h h') pk qk h h' (fun y L=>alE qk (apA pk sp y) L)=Q) (q:Q):(Con.t c pk qk m sp h h').Ok P T:=ptx B [] hf an x0 hcs e q
theorem Con.Ok.at {k:Con T.den} (hk:k.Ok P T) (x:HL T.den (hsT k.ins (hsOs k.pre))) (o:HL T.den (hsV k.res (hsOs k.post))) (hx:k.R x fun o' =>o' =o):SoundH P k.f ((k.args idf x).map (er T)) ((k.obs idf x).map (erO T)) (er T (k.val idf o)) ((k.ops idf o).map (erO T)):=by
 obtain⟨o',rfl,h⟩:=hk.snd x _ hx
 exact h
theorem hsL_d:∀(l r:List Ty),hsL (l.map .d) r=l++r
 |[],_=>rfl
 |t::l,r=>congrArg (t::·) (hsL_d l r)
theorem hs0_d (t:Ty) (r:List Ty):hs0 (dS T t) r=flT T [t]++r:=by
 cases t with
 |st n=>show hsL ((T.tys n).map .d) r=(T.tys n++[])++r;rw[hsL_d,List.append_nil]
 |_=>rfl
theorem khq (t:Ty) (r:List Ty):flT T (t::r)=flT T [t]++flT T r:=by
 cases t with
 |st n=>show T.tys n++flT T r=(T.tys n++[])++flT T r;rw[List.append_nil]
 |_=>rfl
theorem hsT_d:∀(l:List Ty),flT T l=hsT (l.map (dS T)) []
 |[]=>rfl
 |t::l=>by
  rw[khq,hsT_d l]
  exact(hs0_d t _).symm
theorem hsV_d:∀(l:List Ty),flT T l=hsV (dV T l) []
 |[]=>rfl
 |[t]=>by show _=hs0 (dS T t) [];rw[hs0_d,List.append_nil]
 |t::u::l=>hsT_d (t::u::l)
def Con.gp {T:Tab} (f:Nat) (pk qk:List Ty) (m:List Bool) (sp:Ar T.den pk (Prop×HL T.den qk)):Con T.den:=Con.g (.p T f pk qk) pk qk m sp (hsT_d pk) (hsV_d qk)
def Con.tp {T:Tab} (f:Nat) (pk qk:List Ty) (m:List Bool) (sp:Ar T.den pk (HL T.den qk)):Con T.den:=Con.t (.p T f pk qk) pk qk m sp (hsT_d pk) (hsV_d qk)
section
variable {f:Nat}
theorem qrx (B:Base P T I) (rw:List Nat) {sp:Ar T.den pk (Prop×HL T.den qk)} (hf:P.funcs[f]? =some fn) (an:Nt) (hxs:AllX P T xs) (hcs:AllC P T cs)
  (e:obF ⟨I,cs,xs,4,rw⟩ fn an (Con.gp f pk qk m sp) pk qk (hsT_d pk) (hsV_d qk) (fun y L=>(apA pk sp y).1->alE qk (apA pk sp y).2 L)=Q) (q:Q):(Con.gp f pk qk m sp).Ok P T:=prx (c:= .p T f pk qk) (h:=hsT_d pk) (h' :=hsV_d qk) B rw hf an hxs hcs e q
theorem qtx (B:Base P T I) (rw:List Nat) {sp:Ar T.den pk (HL T.den qk)} (hf:P.funcs[f]? =some fn) (an:Nt) (hxs:AllX P T xs) (hcs:AllC P T cs)
  (e:obF ⟨I,cs,xs,4,rw⟩ fn an (Con.tp f pk qk m sp) pk qk (hsT_d pk) (hsV_d qk) (fun y L=>alE qk (apA pk sp y) L)=Q) (q:Q):(Con.tp f pk qk m sp).Ok P T:=ptx (c:= .p T f pk qk) (h:=hsT_d pk) (h' :=hsV_d qk) B rw hf an hxs hcs e q
theorem qrv (B:Base P T I) {sp:Ar T.den pk (Prop×HL T.den qk)} (hf:P.funcs[f]? =some fn) (an:Nt) (hcs:AllC P T cs)
  (e:obF ⟨I,cs,[],4,[]⟩ fn an (Con.gp f pk qk m sp) pk qk (hsT_d pk) (hsV_d qk) (fun y L=>(apA pk sp y).1->alE qk (apA pk sp y).2 L)=Q) (q:Q):(Con.gp f pk qk m sp).Ok P T:=qrx B [] hf an x0 hcs e q
theorem qtv (B:Base P T I) {sp:Ar T.den pk (HL T.den qk)} (hf:P.funcs[f]? =some fn) (an:Nt) (hcs:AllC P T cs)
  (e:obF ⟨I,cs,[],4,[]⟩ fn an (Con.tp f pk qk m sp) pk qk (hsT_d pk) (hsV_d qk) (fun y L=>alE qk (apA pk sp y) L)=Q) (q:Q):(Con.tp f pk qk m sp).Ok P T:=qtx B [] hf an x0 hcs e q
end
def Con.b {T:Tab} (c:Shp) (pk qk:List Ty) {B:Type} (sp:Ar T.den pk (Prop×B×(B->HL T.den qk))) (h:flT T pk=c.I:=by kernel_rfl) (h' :flT T qk=c.O:=by kernel_rfl):Con T.den:=
 c.c fun x K=>(apA pk sp (unH T pk (cst h x))).1/\K (cst h'.symm (flH T qk ((apA pk sp (unH T pk (cst h x))).2.2 (apA pk sp (unH T pk (cst h x))).2.1)))
def Con.bp {T:Tab} (f:Nat) (pk qk:List Ty) {B:Type} (sp:Ar T.den pk (Prop×B×(B->HL T.den qk))):Con T.den:=Con.b (.p T f pk qk) pk qk sp (hsT_d pk) (hsV_d qk)
section
variable {f:Nat} {B' :Type} {sp:Ar T.den pk (Prop×B'×(B'->HL T.den qk))}
theorem pbx (B:Base P T I) (rw:List Nat) (hf:P.funcs[c.f]? =some fn) (an:Nt) (hxs:AllX P T xs) (hcs:AllC P T cs)
  (e:obF ⟨I,cs,xs,4,rw⟩ fn an (Con.b c pk qk sp h h') pk qk h h' (fun y L=>(apA pk sp y).1->∀R,(apA pk sp y).2.1=R->L ((apA pk sp y).2.2 R))=Q) (q:Q):(Con.b c pk qk sp h h').Ok P T:=
 obF_ok B hf hcs hxs (e.mpr q) fun _ _ hx _ hL=>⟨_,hx.2,hL hx.1 _ rfl⟩
theorem pbv (B:Base P T I) (hf:P.funcs[c.f]? =some fn) (an:Nt) (hcs:AllC P T cs)
  (e:obF ⟨I,cs,[],4,[]⟩ fn an (Con.b c pk qk sp h h') pk qk h h' (fun y L=>(apA pk sp y).1->∀R,(apA pk sp y).2.1=R->L ((apA pk sp y).2.2 R))=Q) (q:Q):(Con.b c pk qk sp h h').Ok P T:=pbx B [] hf an x0 hcs e q
theorem qbx (B:Base P T I) (rw:List Nat) (hf:P.funcs[f]? =some fn) (an:Nt) (hxs:AllX P T xs) (hcs:AllC P T cs)
  (e:obF ⟨I,cs,xs,4,rw⟩ fn an (Con.bp f pk qk sp) pk qk (hsT_d pk) (hsV_d qk) (fun y L=>(apA pk sp y).1->∀R,(apA pk sp y).2.1=R->L ((apA pk sp y).2.2 R))=Q) (q:Q):(Con.bp f pk qk sp).Ok P T:=pbx (c:= .p T f pk qk) (h:=hsT_d pk) (h' :=hsV_d qk) B rw hf an hxs hcs e q
theorem qbv (B:Base P T I) (hf:P.funcs[f]? =some fn) (an:Nt) (hcs:AllC P T cs)
  (e:obF ⟨I,cs,[],4,[]⟩ fn an (Con.bp f pk qk sp) pk qk (hsT_d pk) (hsV_d qk) (fun y L=>(apA pk sp y).1->∀R,(apA pk sp y).2.1=R->L ((apA pk sp y).2.2 R))=Q) (q:Q):(Con.bp f pk qk sp).Ok P T:=qbx B [] hf an x0 hcs e q
end
end
end Go.Cv
namespace Go.Proofs.YtijdfglbhaedoaaGreat
open Go Go.Bv Go.Cv Go.Md Go.RowKit
open Go.IntKind (i64 u64)
structure wE where
 we:Int
 wD:Int
 wI:Int
 wH:Int
 wG:Int
 wJ:Int
 wb:Int
 wQ:Int
 wq:Int
 deriving Inhabited,DecidableEq
structure wAP where
 wm:Int
 wAE:Int
 wAF:Int
 wv:List Int
 deriving Inhabited,DecidableEq
structure wx where
 wAO:Int
 wK:List Int
 wN:List wAP
 wP:Int
 wd:Int
 Fee:Int
 wo:Int
 wc:Int
 wAD:Int
 wAQ:List Int
 deriving Inhabited,DecidableEq
structure wU where
 wAc:Int
 wAN:Int
 wAU:Int
 wq:Int
 wc:Int
 Txs:List wx
 deriving Inhabited,DecidableEq
structure wF where
 wAY:Int
 wAR:List Int
 wAW:Int
 deriving Inhabited,DecidableEq
structure ww where
 wAK:Int
 wAA:Int
 wAJ:Int
 deriving Inhabited,DecidableEq
structure wC where
 wD:Int
 wX:Int
 wa:List Int
 deriving Inhabited,DecidableEq
structure wl where
 P:Int
 deriving Inhabited,DecidableEq
structure wz where
 a0:Int
 a1:Int
 a2:Int
 deriving Inhabited,DecidableEq
structure wA where
 ID:Int
 wT:Int
 wc:Int
 deriving Inhabited,DecidableEq
structure wO where
 wAS:Int
 wAT:Int
 wAV:List Int
 leaves:Int
 marks:List Int
 wAM:List wA
 hidden:Int
 deriving Inhabited,DecidableEq
structure wAH where
 wAh:Int
 wAj:Int
 wAl:Int
 wAi:Int
 Key:Int
 wAo:Int
 wAk:Int
 wAs:List Int
 wAr:Bool
 deriving Inhabited,DecidableEq
structure wh where
 root:Int
 leaves:Int
 deriving Inhabited,DecidableEq
structure wAL where
 Value:Int
 wAp:Int
 Rho:Int
 wAq:Int
 deriving Inhabited,DecidableEq
structure wAb where
 a0:Int
 a1:Int
 deriving Inhabited,DecidableEq
structure wY where
 wB:List wA
 deriving Inhabited,DecidableEq
structure wj where
 wAC:Int
 wAI:Int
 wy:Int
 wt:Int
 wAB:Int
 wg:Int
 wZ:Int
 wn:Int
 wW:Int
 wM:List Int
 wR:Int
 wV:Int
 wL:List Int
 wS:Int
 deriving Inhabited,DecidableEq
structure wAX where
 wAm:Int
 wAN:Int
 Tx:Int
 wAe:Int
 wAd:List Int
 wAZ:Int
 wAg:Int
 wAf:List Int
 wAa:Int
 deriving Inhabited,DecidableEq
structure wAG where
 Ins:List wAH
 wN:List wAL
 wAn:Int
 deriving Inhabited,DecidableEq
def denT:Nat->Type
 |0=>wE
 |1=>wAP
 |2=>wx
 |3=>wU
 |4=>wF
 |5=>ww
 |6=>wC
 |7=>wl
 |8=>wz
 |9=>wA
 |10=>wO
 |11=>wAH
 |12=>wh
 |13=>wAL
 |14=>wAb
 |15=>wY
 |16=>wj
 |17=>wAX
 |18=>wAG
 |_=>Unit
def tysT:Nat->List Ty
 |0=>[.int .i64,.int .i64,.int .i64,.int .i64,.int .i64,.int .u64,.int .i64,.int .i64,.int .u64]
 |1=>[.int .u64,.int .u64,.int .u64,.sl (.int .u64)]
 |2=>[.int .u64,.sl (.int .u64),.sl (.st 1),.int .u64,.int .u64,.int .u64,.int .u64,.int .u64,.int .i64,.sl (.int .u8)]
 |3=>[.int .u64,.int .i64,.int .u64,.int .u64,.int .u64,.sl (.st 2)]
 |4=>[.int .u64,.sl (.int .u64),.int .u64]
 |5=>[.int .i64,.int .i64,.int .i64]
 |6=>[.int .i64,.int .i64,.sl (.int .u64)]
 |7=>[.int .u64]
 |8=>[.int .u64,.int .u64,.int .u64]
 |9=>[.int .u64,.int .u64,.int .u64]
 |10=>[.int .i64,.int .i64,.sl (.int .u64),.int .i64,.sl (.int .u64),.sl (.st 9),.int .u64]
 |11=>[.int .u64,.int .u64,.int .u64,.int .u64,.int .u64,.int .i64,.int .i64,.sl (.int .u64),.bool]
 |12=>[.int .u64,.int .i64]
 |13=>[.int .u64,.int .u64,.int .u64,.int .u64]
 |14=>[.int .u64,.int .u64]
 |15=>[.sl (.st 9)]
 |16=>[.int .u64,.int .u64,.int .u64,.int .i64,.int .i64,.int .i64,.int .i64,.int .i64,.int .u64,.sl (.int .u64),.int .u64,.int .u64,.sl (.int .u64),.int .u64]
 |17=>[.int .i64,.int .i64,.int .i64,.int .u64,.sl (.int .u64),.int .u64,.int .u64,.sl (.int .u64),.int .u64]
 |18=>[.sl (.st 11),.sl (.st 13),.int .u64]
 |_=>[]
def encTRules (x:wE):D:= .agg [.int .i64 x.we,.int .i64 x.wD,.int .i64 x.wI,.int .i64 x.wH,.int .i64 x.wG,.int .u64 x.wJ,.int .i64 x.wb,.int .i64 x.wQ,.int .u64 x.wq]
def encTOut (x:wAP):D:= .agg [.int .u64 x.wm,.int .u64 x.wAE,.int .u64 x.wAF,.slice 1 (x.wv.map (D.int .u64))]
def encTTx (x:wx):D:= .agg [.int .u64 x.wAO,.slice 1 (x.wK.map (D.int .u64)),.slice 4 (x.wN.map encTOut),.int .u64 x.wP,.int .u64 x.wd,.int .u64 x.Fee,.int .u64 x.wo,.int .u64 x.wc,.int .i64 x.wAD,.slice 1 (x.wAQ.map (D.int .u8))]
def encTBlock (x:wU):D:= .agg [.int .u64 x.wAc,.int .i64 x.wAN,.int .u64 x.wAU,.int .u64 x.wq,.int .u64 x.wc,.slice 10 (x.Txs.map encTTx)]
def encTQuestion (x:wF):D:= .agg [.int .u64 x.wAY,.slice 1 (x.wAR.map (D.int .u64)),.int .u64 x.wAW]
def encTProofParams (x:ww):D:= .agg [.int .i64 x.wAK,.int .i64 x.wAA,.int .i64 x.wAJ]
def encTFrontier (x:wC):D:= .agg [.int .i64 x.wD,.int .i64 x.wX,.slice 1 (x.wa.map (D.int .u64))]
def encTField (x:wl):D:= .agg [.int .u64 x.P]
def encTA3 (x:wz):D:= .agg [.int .u64 x.a0,.int .u64 x.a1,.int .u64 x.a2]
def encTAccount (x:wA):D:= .agg [.int .u64 x.ID,.int .u64 x.wT,.int .u64 x.wc]
def encTbefore (x:wO):D:= .agg [.int .i64 x.wAS,.int .i64 x.wAT,.slice 1 (x.wAV.map (D.int .u64)),.int .i64 x.leaves,.slice 1 (x.marks.map (D.int .u64)),.slice 3 (x.wAM.map encTAccount),.int .u64 x.hidden]
def encTSpent (x:wAH):D:= .agg [.int .u64 x.wAh,.int .u64 x.wAj,.int .u64 x.wAl,.int .u64 x.wAi,.int .u64 x.Key,.int .i64 x.wAo,.int .i64 x.wAk,.slice 1 (x.wAs.map (D.int .u64)),.bool x.wAr]
def encTtree (x:wh):D:= .agg [.int .u64 x.root,.int .i64 x.leaves]
def encTNote (x:wAL):D:= .agg [.int .u64 x.Value,.int .u64 x.wAp,.int .u64 x.Rho,.int .u64 x.wAq]
def encTA2 (x:wAb):D:= .agg [.int .u64 x.a0,.int .u64 x.a1]
def encTLedger (x:wY):D:= .agg [.slice 3 (x.wB.map encTAccount)]
def encTReport (x:wj):D:= .agg [.int .u64 x.wAC,.int .u64 x.wAI,.int .u64 x.wy,.int .i64 x.wt,.int .i64 x.wAB,.int .i64 x.wg,.int .i64 x.wZ,.int .i64 x.wn,.int .u64 x.wW,.slice 1 (x.wM.map (D.int .u64)),.int .u64 x.wR,.int .u64 x.wV,.slice 1 (x.wL.map (D.int .u64)),.int .u64 x.wS]
def encTFault (x:wAX):D:= .agg [.int .i64 x.wAm,.int .i64 x.wAN,.int .i64 x.Tx,.int .u64 x.wAe,.slice 1 (x.wAd.map (D.int .u64)),.int .u64 x.wAZ,.int .u64 x.wAg,.slice 1 (x.wAf.map (D.int .u64)),.int .u64 x.wAa]
def encTWitness (x:wAG):D:= .agg [.slice 9 (x.Ins.map encTSpent),.slice 4 (x.wN.map encTNote),.int .u64 x.wAn]
def TB:Tab where
 den:=denT
 tys:=tysT
 inh:=fun n=>match n with
  |0=>(default:wE)
  |1=>(default:wAP)
  |2=>(default:wx)
  |3=>(default:wU)
  |4=>(default:wF)
  |5=>(default:ww)
  |6=>(default:wC)
  |7=>(default:wl)
  |8=>(default:wz)
  |9=>(default:wA)
  |10=>(default:wO)
  |11=>(default:wAH)
  |12=>(default:wh)
  |13=>(default:wAL)
  |14=>(default:wAb)
  |15=>(default:wY)
  |16=>(default:wj)
  |17=>(default:wAX)
  |18=>(default:wAG)
  |_+19=>()
 cells:=fun n=>match n with
  |0=>fun(x:wE)=>(x.we,x.wD,x.wI,x.wH,x.wG,x.wJ,x.wb,x.wQ,x.wq,())
  |1=>fun(x:wAP)=>(x.wm,x.wAE,x.wAF,x.wv,())
  |2=>fun(x:wx)=>(x.wAO,x.wK,x.wN,x.wP,x.wd,x.Fee,x.wo,x.wc,x.wAD,x.wAQ,())
  |3=>fun(x:wU)=>(x.wAc,x.wAN,x.wAU,x.wq,x.wc,x.Txs,())
  |4=>fun(x:wF)=>(x.wAY,x.wAR,x.wAW,())
  |5=>fun(x:ww)=>(x.wAK,x.wAA,x.wAJ,())
  |6=>fun(x:wC)=>(x.wD,x.wX,x.wa,())
  |7=>fun(x:wl)=>(x.P,())
  |8=>fun(x:wz)=>(x.a0,x.a1,x.a2,())
  |9=>fun(x:wA)=>(x.ID,x.wT,x.wc,())
  |10=>fun(x:wO)=>(x.wAS,x.wAT,x.wAV,x.leaves,x.marks,x.wAM,x.hidden,())
  |11=>fun(x:wAH)=>(x.wAh,x.wAj,x.wAl,x.wAi,x.Key,x.wAo,x.wAk,x.wAs,x.wAr,())
  |12=>fun(x:wh)=>(x.root,x.leaves,())
  |13=>fun(x:wAL)=>(x.Value,x.wAp,x.Rho,x.wAq,())
  |14=>fun(x:wAb)=>(x.a0,x.a1,())
  |15=>fun(x:wY)=>(x.wB,())
  |16=>fun(x:wj)=>(x.wAC,x.wAI,x.wy,x.wt,x.wAB,x.wg,x.wZ,x.wn,x.wW,x.wM,x.wR,x.wV,x.wL,x.wS,())
  |17=>fun(x:wAX)=>(x.wAm,x.wAN,x.Tx,x.wAe,x.wAd,x.wAZ,x.wAg,x.wAf,x.wAa,())
  |18=>fun(x:wAG)=>(x.Ins,x.wN,x.wAn,())
  |_+19=>fun _=>()
 pack:=fun n=>match n with
  |0=>fun(q0,q1,q2,q3,q4,q5,q6,q7,q8,())=>wE.mk q0 q1 q2 q3 q4 q5 q6 q7 q8
  |1=>fun(q0,q1,q2,q3,())=>wAP.mk q0 q1 q2 q3
  |2=>fun(q0,q1,q2,q3,q4,q5,q6,q7,q8,q9,())=>wx.mk q0 q1 q2 q3 q4 q5 q6 q7 q8 q9
  |3=>fun(q0,q1,q2,q3,q4,q5,())=>wU.mk q0 q1 q2 q3 q4 q5
  |4=>fun(q0,q1,q2,())=>wF.mk q0 q1 q2
  |5=>fun(q0,q1,q2,())=>ww.mk q0 q1 q2
  |6=>fun(q0,q1,q2,())=>wC.mk q0 q1 q2
  |7=>fun(q0,())=>wl.mk q0
  |8=>fun(q0,q1,q2,())=>wz.mk q0 q1 q2
  |9=>fun(q0,q1,q2,())=>wA.mk q0 q1 q2
  |10=>fun(q0,q1,q2,q3,q4,q5,q6,())=>wO.mk q0 q1 q2 q3 q4 q5 q6
  |11=>fun(q0,q1,q2,q3,q4,q5,q6,q7,q8,())=>wAH.mk q0 q1 q2 q3 q4 q5 q6 q7 q8
  |12=>fun(q0,q1,())=>wh.mk q0 q1
  |13=>fun(q0,q1,q2,q3,())=>wAL.mk q0 q1 q2 q3
  |14=>fun(q0,q1,())=>wAb.mk q0 q1
  |15=>fun(q0,())=>wY.mk q0
  |16=>fun(q0,q1,q2,q3,q4,q5,q6,q7,q8,q9,q10,q11,q12,q13,())=>wj.mk q0 q1 q2 q3 q4 q5 q6 q7 q8 q9 q10 q11 q12 q13
  |17=>fun(q0,q1,q2,q3,q4,q5,q6,q7,q8,())=>wAX.mk q0 q1 q2 q3 q4 q5 q6 q7 q8
  |18=>fun(q0,q1,q2,())=>wAG.mk q0 q1 q2
  |_+19=>fun _=>()
 enc:=fun n=>match n with
  |0=>encTRules
  |1=>encTOut
  |2=>encTTx
  |3=>encTBlock
  |4=>encTQuestion
  |5=>encTProofParams
  |6=>encTFrontier
  |7=>encTField
  |8=>encTA3
  |9=>encTAccount
  |10=>encTbefore
  |11=>encTSpent
  |12=>encTtree
  |13=>encTNote
  |14=>encTA2
  |15=>encTLedger
  |16=>encTReport
  |17=>encTFault
  |18=>encTWitness
  |_+19=>fun _=> .agg []
theorem TBok:TB.Ok where
 one:=fun n=>match n with
  |0=>rfl
  |1=>rfl
  |2=>rfl
  |3=>rfl
  |4=>rfl
  |5=>rfl
  |6=>rfl
  |7=>rfl
  |8=>rfl
  |9=>rfl
  |10=>rfl
  |11=>rfl
  |12=>rfl
  |13=>rfl
  |14=>rfl
  |15=>rfl
  |16=>rfl
  |17=>rfl
  |18=>rfl
  |_+19=>rfl
 pc:=fun n x=>match n with
  |0=>rfl
  |1=>rfl
  |2=>rfl
  |3=>rfl
  |4=>rfl
  |5=>rfl
  |6=>rfl
  |7=>rfl
  |8=>rfl
  |9=>rfl
  |10=>rfl
  |11=>rfl
  |12=>rfl
  |13=>rfl
  |14=>rfl
  |15=>rfl
  |16=>rfl
  |17=>rfl
  |18=>rfl
  |_+19=>rfl
 en:=fun n x=>match n with
  |0=>rfl
  |1=>rfl
  |2=>rfl
  |3=>rfl
  |4=>rfl
  |5=>rfl
  |6=>rfl
  |7=>rfl
  |8=>rfl
  |9=>rfl
  |10=>rfl
  |11=>rfl
  |12=>rfl
  |13=>rfl
  |14=>rfl
  |15=>rfl
  |16=>rfl
  |17=>rfl
  |18=>rfl
  |_+19=>rfl
def ti3:TI TB.den:={ty:=some (false,1),ze:=some [.d (.int .i64) (0:Int)],un:=some (.int .i64)}
theorem ti3_ok:TI.Ok Tryz.prog TB 3 ti3:=
  ⟨(fun _ h=>(show tyOf Tryz.prog 3=some (false,1)by kernel_rfl).trans h),
   (kf trivial),
   (fun _ _ h=>by cases h),
   (fun h=>by cases h),
   (fun _ h=>by cases h),
   (fun _ h=>by cases h;exact⟨by kernel_rfl,ka (by kernel_rfl)⟩),
   (fun h=>(h rfl).elim),
   (fun _ h=>(show Tryz.prog.underlying 3=some (.int .i64)by kernel_rfl).trans h),
   (fun _ h=>by cases h),
   (fun _ _ h=>by cases h)⟩
def ti4:TI TB.den:={ty:=some (false,1),ze:=some [.d (.bool) (false:Bool)],un:=some (.bool)}
theorem ti4_ok:TI.Ok Tryz.prog TB 4 ti4:=
  ⟨(fun _ h=>(show tyOf Tryz.prog 4=some (false,1)by kernel_rfl).trans h),
   (kf trivial),
   (fun _ _ h=>by cases h),
   (fun h=>by cases h),
   (fun _ h=>by cases h),
   (fun _ h=>by cases h;exact⟨by kernel_rfl,ka (by kernel_rfl)⟩),
   (fun h=>(h rfl).elim),
   (fun _ h=>(show Tryz.prog.underlying 4=some (.bool)by kernel_rfl).trans h),
   (fun _ h=>by cases h),
   (fun _ _ h=>by cases h)⟩
def ti5:TI TB.den:={ty:=some (false,1),ze:=some [.d (.int .u8) (0:Int)],un:=some (.int .u8)}
theorem ti5_ok:TI.Ok Tryz.prog TB 5 ti5:=
  ⟨(fun _ h=>(show tyOf Tryz.prog 5=some (false,1)by kernel_rfl).trans h),
   (kf trivial),
   (fun _ _ h=>by cases h),
   (fun h=>by cases h),
   (fun _ h=>by cases h),
   (fun _ h=>by cases h;exact⟨by kernel_rfl,ka (by kernel_rfl)⟩),
   (fun h=>(h rfl).elim),
   (fun _ h=>(show Tryz.prog.underlying 5=some (.int .u8)by kernel_rfl).trans h),
   (fun _ h=>by cases h),
   (fun _ _ h=>by cases h)⟩
def ti9:TI TB.den:={ty:=some (false,1),ze:=some [.d (.str) (ByteArray.empty:ByteArray)],un:=some (.string)}
theorem ti9_ok:TI.Ok Tryz.prog TB 9 ti9:=
  ⟨(fun _ h=>(show tyOf Tryz.prog 9=some (false,1)by kernel_rfl).trans h),
   (kf trivial),
   (fun _ _ h=>by cases h),
   (fun h=>by cases h),
   (fun _ h=>by cases h),
   (fun _ h=>by cases h;exact⟨by kernel_rfl,ka (by kernel_rfl)⟩),
   (fun h=>(h rfl).elim),
   (fun _ h=>(show Tryz.prog.underlying 9=some (.string)by kernel_rfl).trans h),
   (fun _ h=>by cases h),
   (fun _ _ h=>by cases h)⟩
def ti23:TI TB.den:={ty:=some (true,3),fl:=[(0,false,1),(1,false,1),(2,false,1)],ze:=some [.d (.int .i64) (0:Int),.d (.int .i64) (0:Int),.d (.int .i64) (0:Int)],pl:=[(0,1),(1,1),(2,1)],eq:=some [.int .i64,.int .i64,.int .i64]}
theorem ti23_ok:TI.Ok Tryz.prog TB 23 ti23:=
  ⟨(fun _ h=>(show tyOf Tryz.prog 23=some (true,3)by kernel_rfl).trans h),
   (kf ⟨by kernel_rfl,by kernel_rfl,by kernel_rfl,trivial⟩),
   (fun _ _ h=>by cases h),
   (fun h=>by cases h),
   (fun _ h=>by cases h),
   (fun _ h=>by cases h;exact⟨by kernel_rfl,ka (by kernel_rfl)⟩),
   (fun _=>by kernel_rfl),
   (fun _ h=>by cases h),
   (fun _ h=>(show eqT Tryz.prog 23=some [.int .i64,.int .i64,.int .i64]by kernel_rfl).trans h),
   (fun _ _ h=>by cases h)⟩
def ti24:TI TB.den:={ty:=some (false,1),ze:=some [.d (.int .u64) (0:Int)],un:=some (.int .u64)}
theorem ti24_ok:TI.Ok Tryz.prog TB 24 ti24:=
  ⟨(fun _ h=>(show tyOf Tryz.prog 24=some (false,1)by kernel_rfl).trans h),
   (kf trivial),
   (fun _ _ h=>by cases h),
   (fun h=>by cases h),
   (fun _ h=>by cases h),
   (fun _ h=>by cases h;exact⟨by kernel_rfl,ka (by kernel_rfl)⟩),
   (fun h=>(h rfl).elim),
   (fun _ h=>(show Tryz.prog.underlying 24=some (.int .u64)by kernel_rfl).trans h),
   (fun _ h=>by cases h),
   (fun _ _ h=>by cases h)⟩
def ti26:TI TB.den:={ty:=some (true,9),fl:=[(0,false,1),(1,false,1),(2,true,3),(5,false,1),(6,false,1),(7,false,1),(8,false,1)],ze:=some [.d (.int .i64) (0:Int),.d (.int .i64) (0:Int),.d (.int .i64) (0:Int),.d (.int .i64) (0:Int),.d (.int .i64) (0:Int),.d (.int .u64) (0:Int),.d (.int .i64) (0:Int),.d (.int .i64) (0:Int),.d (.int .u64) (0:Int)],pl:=[(0,1),(1,1),(2,3),(5,1),(6,1),(7,1),(8,1)]}
theorem ti26_ok:TI.Ok Tryz.prog TB 26 ti26:=
  ⟨(fun _ h=>(show tyOf Tryz.prog 26=some (true,9)by kernel_rfl).trans h),
   (kf ⟨by kernel_rfl,by kernel_rfl,by kernel_rfl,by kernel_rfl,by kernel_rfl,by kernel_rfl,by kernel_rfl,trivial⟩),
   (fun _ _ h=>by cases h),
   (fun h=>by cases h),
   (fun _ h=>by cases h),
   (fun _ h=>by cases h;exact⟨by kernel_rfl,ka (by kernel_rfl)⟩),
   (fun _=>by kernel_rfl),
   (fun _ h=>by cases h),
   (fun _ h=>by cases h),
   (fun _ _ h=>by cases h)⟩
def ti27:TI TB.den:={ty:=some (false,1),el:=some (.st 3,64),ez:=true,ze:=some [.full (.st 3) []],un:=some (.slice 62)}
theorem ti27_ok:TI.Ok Tryz.prog TB 27 ti27:=
  ⟨(fun _ h=>(show tyOf Tryz.prog 27=some (false,1)by kernel_rfl).trans h),
   (kf trivial),
   (fun _ _ h=>by cases h;exact⟨by kernel_rfl,by kernel_rfl⟩),
   (fun _ _ _ h=>by cases h;exact⟨[.d (.int .u64 0),.d (.int .i64 0),.d (.int .u64 0),.d (.int .u64 0),.d (.int .u64 0),.full 10 []],by kernel_rfl,⟨⟨kc _,rfl⟩,⟨kc _,rfl⟩,⟨kc _,rfl⟩,⟨kc _,rfl⟩,⟨kc _,rfl⟩,⟨⟨rfl,rfl⟩,rfl⟩,trivial⟩⟩),
   (fun _ h=>by cases h),
   (fun _ h=>by cases h;exact⟨by kernel_rfl,ka (by kernel_rfl)⟩),
   (fun h=>(h rfl).elim),
   (fun _ h=>(show Tryz.prog.underlying 27=some (.slice 62)by kernel_rfl).trans h),
   (fun _ h=>by cases h),
   (fun _ _ h=>by cases h)⟩
def ti30:TI TB.den:={ty:=some (false,1),el:=some (.int .u64,8),ez:=true,ze:=some [.full (.int .u64) []],un:=some (.slice 24)}
theorem ti30_ok:TI.Ok Tryz.prog TB 30 ti30:=
  ⟨(fun _ h=>(show tyOf Tryz.prog 30=some (false,1)by kernel_rfl).trans h),
   (kf trivial),
   (fun _ _ h=>by cases h;exact⟨by kernel_rfl,by kernel_rfl⟩),
   (fun _ _ _ h=>by cases h;exact⟨[.d (.int .u64 0)],by kernel_rfl,⟨⟨kc _,rfl⟩,trivial⟩⟩),
   (fun _ h=>by cases h),
   (fun _ h=>by cases h;exact⟨by kernel_rfl,ka (by kernel_rfl)⟩),
   (fun h=>(h rfl).elim),
   (fun _ h=>(show Tryz.prog.underlying 30=some (.slice 24)by kernel_rfl).trans h),
   (fun _ h=>by cases h),
   (fun _ _ h=>by cases h)⟩
def ti32:TI TB.den:={ty:=some (true,3),fl:=[(0,false,1),(1,false,1),(2,false,1)],ze:=some [.d (.int .u64) (0:Int),.full (.int .u64) [],.d (.int .u64) (0:Int)],pl:=[(0,1),(1,1),(2,1)]}
theorem ti32_ok:TI.Ok Tryz.prog TB 32 ti32:=
  ⟨(fun _ h=>(show tyOf Tryz.prog 32=some (true,3)by kernel_rfl).trans h),
   (kf ⟨by kernel_rfl,by kernel_rfl,by kernel_rfl,trivial⟩),
   (fun _ _ h=>by cases h),
   (fun h=>by cases h),
   (fun _ h=>by cases h),
   (fun _ h=>by cases h;exact⟨by kernel_rfl,ka (by kernel_rfl)⟩),
   (fun _=>by kernel_rfl),
   (fun _ h=>by cases h),
   (fun _ h=>by cases h),
   (fun _ _ h=>by cases h)⟩
def ti34:TI TB.den:={ty:=some (true,9),fl:=[(0,false,1),(1,false,1),(2,false,1),(3,true,3),(6,true,3)],ze:=some [.d (.int .i64) (0:Int),.d (.int .i64) (0:Int),.d (.int .i64) (0:Int),.d (.int .u64) (0:Int),.full (.int .u64) [],.d (.int .u64) (0:Int),.d (.int .u64) (0:Int),.full (.int .u64) [],.d (.int .u64) (0:Int)],pl:=[(0,1),(1,1),(2,1),(3,3),(6,3)]}
theorem ti34_ok:TI.Ok Tryz.prog TB 34 ti34:=
  ⟨(fun _ h=>(show tyOf Tryz.prog 34=some (true,9)by kernel_rfl).trans h),
   (kf ⟨by kernel_rfl,by kernel_rfl,by kernel_rfl,by kernel_rfl,by kernel_rfl,trivial⟩),
   (fun _ _ h=>by cases h),
   (fun h=>by cases h),
   (fun _ h=>by cases h),
   (fun _ h=>by cases h;exact⟨by kernel_rfl,ka (by kernel_rfl)⟩),
   (fun _=>by kernel_rfl),
   (fun _ h=>by cases h),
   (fun _ h=>by cases h),
   (fun _ _ h=>by cases h)⟩
def ti36:TI TB.den:={ty:=some (true,14),fl:=[(0,false,1),(1,false,1),(2,false,1),(3,false,1),(4,false,1),(5,true,9)],ze:=some [.d (.int .u64) (0:Int),.d (.int .u64) (0:Int),.d (.int .u64) (0:Int),.d (.int .i64) (0:Int),.d (.int .i64) (0:Int),.d (.int .i64) (0:Int),.d (.int .i64) (0:Int),.d (.int .i64) (0:Int),.d (.int .u64) (0:Int),.full (.int .u64) [],.d (.int .u64) (0:Int),.d (.int .u64) (0:Int),.full (.int .u64) [],.d (.int .u64) (0:Int)],pl:=[(0,1),(1,1),(2,1),(3,1),(4,1),(5,9)]}
theorem ti36_ok:TI.Ok Tryz.prog TB 36 ti36:=
  ⟨(fun _ h=>(show tyOf Tryz.prog 36=some (true,14)by kernel_rfl).trans h),
   (kf ⟨by kernel_rfl,by kernel_rfl,by kernel_rfl,by kernel_rfl,by kernel_rfl,by kernel_rfl,trivial⟩),
   (fun _ _ h=>by cases h),
   (fun h=>by cases h),
   (fun _ h=>by cases h),
   (fun _ h=>by cases h;exact⟨by kernel_rfl,ka (by kernel_rfl)⟩),
   (fun _=>by kernel_rfl),
   (fun _ h=>by cases h),
   (fun _ h=>by cases h),
   (fun _ _ h=>by cases h)⟩
def ti40:TI TB.den:={ty:=some (false,1),ze:=some [.k KC.nilPtr.v],un:=some (.pointer 75)}
theorem ti40_ok:TI.Ok Tryz.prog TB 40 ti40:=
  ⟨(fun _ h=>(show tyOf Tryz.prog 40=some (false,1)by kernel_rfl).trans h),
   (kf trivial),
   (fun _ _ h=>by cases h),
   (fun h=>by cases h),
   (fun _ h=>by cases h),
   (fun _ h=>by cases h;exact⟨by kernel_rfl,ka (by kernel_rfl)⟩),
   (fun h=>(h rfl).elim),
   (fun _ h=>(show Tryz.prog.underlying 40=some (.pointer 75)by kernel_rfl).trans h),
   (fun _ h=>by cases h),
   (fun _ _ h=>by cases h)⟩
def ti46:TI TB.den:={ty:=some (true,9),fl:=[(0,false,1),(1,false,1),(2,false,1),(3,true,3),(6,true,3)],ze:=some [.d (.int .i64) (0:Int),.d (.int .i64) (0:Int),.d (.int .i64) (0:Int),.d (.int .u64) (0:Int),.full (.int .u64) [],.d (.int .u64) (0:Int),.d (.int .u64) (0:Int),.full (.int .u64) [],.d (.int .u64) (0:Int)],pl:=[(0,1),(1,1),(2,1),(3,3),(6,3)]}
theorem ti46_ok:TI.Ok Tryz.prog TB 46 ti46:=
  ⟨(fun _ h=>(show tyOf Tryz.prog 46=some (true,9)by kernel_rfl).trans h),
   (kf ⟨by kernel_rfl,by kernel_rfl,by kernel_rfl,by kernel_rfl,by kernel_rfl,trivial⟩),
   (fun _ _ h=>by cases h),
   (fun h=>by cases h),
   (fun _ h=>by cases h),
   (fun _ h=>by cases h;exact⟨by kernel_rfl,ka (by kernel_rfl)⟩),
   (fun _=>by kernel_rfl),
   (fun _ h=>by cases h),
   (fun _ h=>by cases h),
   (fun _ _ h=>by cases h)⟩
def ti48:TI TB.den:={ty:=some (true,14),fl:=[(0,false,1),(1,false,1),(2,false,1),(3,false,1),(4,false,1),(5,true,9)],ze:=some [.d (.int .u64) (0:Int),.d (.int .u64) (0:Int),.d (.int .u64) (0:Int),.d (.int .i64) (0:Int),.d (.int .i64) (0:Int),.d (.int .i64) (0:Int),.d (.int .i64) (0:Int),.d (.int .i64) (0:Int),.d (.int .u64) (0:Int),.full (.int .u64) [],.d (.int .u64) (0:Int),.d (.int .u64) (0:Int),.full (.int .u64) [],.d (.int .u64) (0:Int)],pl:=[(0,1),(1,1),(2,1),(3,1),(4,1),(5,9)]}
theorem ti48_ok:TI.Ok Tryz.prog TB 48 ti48:=
  ⟨(fun _ h=>(show tyOf Tryz.prog 48=some (true,14)by kernel_rfl).trans h),
   (kf ⟨by kernel_rfl,by kernel_rfl,by kernel_rfl,by kernel_rfl,by kernel_rfl,by kernel_rfl,trivial⟩),
   (fun _ _ h=>by cases h),
   (fun h=>by cases h),
   (fun _ h=>by cases h),
   (fun _ h=>by cases h;exact⟨by kernel_rfl,ka (by kernel_rfl)⟩),
   (fun _=>by kernel_rfl),
   (fun _ h=>by cases h),
   (fun _ h=>by cases h),
   (fun _ _ h=>by cases h)⟩
def ti60:TI TB.den:={ty:=some (false,1),el:=some (.st 2,128),ez:=true,ze:=some [.full (.st 2) []],un:=some (.slice 67)}
theorem ti60_ok:TI.Ok Tryz.prog TB 60 ti60:=
  ⟨(fun _ h=>(show tyOf Tryz.prog 60=some (false,1)by kernel_rfl).trans h),
   (kf trivial),
   (fun _ _ h=>by cases h;exact⟨by kernel_rfl,by kernel_rfl⟩),
   (fun _ _ _ h=>by cases h;exact⟨[.d (.int .u64 0),.full 1 [],.full 4 [],.d (.int .u64 0),.d (.int .u64 0),.d (.int .u64 0),.d (.int .u64 0),.d (.int .u64 0),.d (.int .i64 0),.full 1 []],by kernel_rfl,⟨⟨kc _,rfl⟩,⟨⟨rfl,rfl⟩,rfl⟩,⟨⟨rfl,rfl⟩,rfl⟩,⟨kc _,rfl⟩,⟨kc _,rfl⟩,⟨kc _,rfl⟩,⟨kc _,rfl⟩,⟨kc _,rfl⟩,⟨kc _,rfl⟩,⟨⟨rfl,rfl⟩,rfl⟩,trivial⟩⟩),
   (fun _ h=>by cases h),
   (fun _ h=>by cases h;exact⟨by kernel_rfl,ka (by kernel_rfl)⟩),
   (fun h=>(h rfl).elim),
   (fun _ h=>(show Tryz.prog.underlying 60=some (.slice 67)by kernel_rfl).trans h),
   (fun _ h=>by cases h),
   (fun _ _ h=>by cases h)⟩
def ti62:TI TB.den:={ty:=some (true,6),fl:=[(0,false,1),(1,false,1),(2,false,1),(3,false,1),(4,false,1),(5,false,1)],ze:=some [.d (.int .u64) (0:Int),.d (.int .i64) (0:Int),.d (.int .u64) (0:Int),.d (.int .u64) (0:Int),.d (.int .u64) (0:Int),.full (.st 2) []],pl:=[(0,1),(1,1),(2,1),(3,1),(4,1),(5,1)]}
theorem ti62_ok:TI.Ok Tryz.prog TB 62 ti62:=
  ⟨(fun _ h=>(show tyOf Tryz.prog 62=some (true,6)by kernel_rfl).trans h),
   (kf ⟨by kernel_rfl,by kernel_rfl,by kernel_rfl,by kernel_rfl,by kernel_rfl,by kernel_rfl,trivial⟩),
   (fun _ _ h=>by cases h),
   (fun h=>by cases h),
   (fun _ h=>by cases h),
   (fun _ h=>by cases h;exact⟨by kernel_rfl,ka (by kernel_rfl)⟩),
   (fun _=>by kernel_rfl),
   (fun _ h=>by cases h),
   (fun _ h=>by cases h),
   (fun _ _ h=>by cases h)⟩
def ti64:TI TB.den:={ty:=some (false,1),el:=some (.st 1,48),ez:=true,ze:=some [.full (.st 1) []],un:=some (.slice 108)}
theorem ti64_ok:TI.Ok Tryz.prog TB 64 ti64:=
  ⟨(fun _ h=>(show tyOf Tryz.prog 64=some (false,1)by kernel_rfl).trans h),
   (kf trivial),
   (fun _ _ h=>by cases h;exact⟨by kernel_rfl,by kernel_rfl⟩),
   (fun _ _ _ h=>by cases h;exact⟨[.d (.int .u64 0),.d (.int .u64 0),.d (.int .u64 0),.full 1 []],by kernel_rfl,⟨⟨kc _,rfl⟩,⟨kc _,rfl⟩,⟨kc _,rfl⟩,⟨⟨rfl,rfl⟩,rfl⟩,trivial⟩⟩),
   (fun _ h=>by cases h),
   (fun _ h=>by cases h;exact⟨by kernel_rfl,ka (by kernel_rfl)⟩),
   (fun h=>(h rfl).elim),
   (fun _ h=>(show Tryz.prog.underlying 64=some (.slice 108)by kernel_rfl).trans h),
   (fun _ h=>by cases h),
   (fun _ _ h=>by cases h)⟩
def ti65:TI TB.den:={ty:=some (false,1),el:=some (.int .u8,1),ez:=true,ze:=some [.full (.int .u8) []],un:=some (.slice 5)}
theorem ti65_ok:TI.Ok Tryz.prog TB 65 ti65:=
  ⟨(fun _ h=>(show tyOf Tryz.prog 65=some (false,1)by kernel_rfl).trans h),
   (kf trivial),
   (fun _ _ h=>by cases h;exact⟨by kernel_rfl,by kernel_rfl⟩),
   (fun _ _ _ h=>by cases h;exact⟨[.d (.int .u8 0)],by kernel_rfl,⟨⟨kc _,rfl⟩,trivial⟩⟩),
   (fun _ h=>by cases h),
   (fun _ h=>by cases h;exact⟨by kernel_rfl,ka (by kernel_rfl)⟩),
   (fun h=>(h rfl).elim),
   (fun _ h=>(show Tryz.prog.underlying 65=some (.slice 5)by kernel_rfl).trans h),
   (fun _ h=>by cases h),
   (fun _ _ h=>by cases h)⟩
def ti67:TI TB.den:={ty:=some (true,10),fl:=[(0,false,1),(1,false,1),(2,false,1),(3,false,1),(4,false,1),(5,false,1),(6,false,1),(7,false,1),(8,false,1),(9,false,1)],ze:=some [.d (.int .u64) (0:Int),.full (.int .u64) [],.full (.st 1) [],.d (.int .u64) (0:Int),.d (.int .u64) (0:Int),.d (.int .u64) (0:Int),.d (.int .u64) (0:Int),.d (.int .u64) (0:Int),.d (.int .i64) (0:Int),.full (.int .u8) []],pl:=[(0,1),(1,1),(2,1),(3,1),(4,1),(5,1),(6,1),(7,1),(8,1),(9,1)]}
theorem ti67_ok:TI.Ok Tryz.prog TB 67 ti67:=
  ⟨(fun _ h=>(show tyOf Tryz.prog 67=some (true,10)by kernel_rfl).trans h),
   (kf ⟨by kernel_rfl,by kernel_rfl,by kernel_rfl,by kernel_rfl,by kernel_rfl,by kernel_rfl,by kernel_rfl,by kernel_rfl,by kernel_rfl,by kernel_rfl,trivial⟩),
   (fun _ _ h=>by cases h),
   (fun h=>by cases h),
   (fun _ h=>by cases h),
   (fun _ h=>by cases h;exact⟨by kernel_rfl,ka (by kernel_rfl)⟩),
   (fun _=>by kernel_rfl),
   (fun _ h=>by cases h),
   (fun _ h=>by cases h),
   (fun _ _ h=>by cases h)⟩
def ti71:TI TB.den:={ty:=some (false,1),ze:=some [.k KC.nilMap.v],mp:=some (.str,.int .i64),un:=some (.map 9 3)}
theorem ti71_ok:TI.Ok Tryz.prog TB 71 ti71:=
  ⟨(fun _ h=>(show tyOf Tryz.prog 71=some (false,1)by kernel_rfl).trans h),
   (kf trivial),
   (fun _ _ h=>by cases h),
   (fun h=>by cases h),
   (fun _ h=>by cases h),
   (fun _ h=>by cases h;exact⟨by kernel_rfl,ka (by kernel_rfl)⟩),
   (fun h=>(h rfl).elim),
   (fun _ h=>(show Tryz.prog.underlying 71=some (.map 9 3)by kernel_rfl).trans h),
   (fun _ h=>by cases h),
   (fun _ _ h=>by cases h;exact⟨3,.string,⟨9,by kernel_rfl,by kernel_rfl⟩,fun _=>rfl,zIs_mk (z0:= .d (.int .i64 0)) (by kernel_rfl) (kc (V.d (.int .i64 0)))⟩)⟩
def ti72:TI TB.den:={ty:=some (false,1),ze:=some [.k KC.nilMap.v],mp:=some (.str,.sl (.int .u64)),un:=some (.map 9 30)}
theorem ti72_ok:TI.Ok Tryz.prog TB 72 ti72:=
  ⟨(fun _ h=>(show tyOf Tryz.prog 72=some (false,1)by kernel_rfl).trans h),
   (kf trivial),
   (fun _ _ h=>by cases h),
   (fun h=>by cases h),
   (fun _ h=>by cases h),
   (fun _ h=>by cases h;exact⟨by kernel_rfl,ka (by kernel_rfl)⟩),
   (fun h=>(h rfl).elim),
   (fun _ h=>(show Tryz.prog.underlying 72=some (.map 9 30)by kernel_rfl).trans h),
   (fun _ h=>by cases h),
   (fun _ _ h=>by cases h;exact⟨30,.string,⟨9,by kernel_rfl,by kernel_rfl⟩,fun _=>rfl,zIs_mk (z0:= .k (.slice none 0 0)) (by kernel_rfl) (rfl)⟩)⟩
def ti73:TI TB.den:={ty:=some (false,1),ze:=some [.k KC.nilMap.v],mp:=some (.str,.bool),un:=some (.map 9 4)}
theorem ti73_ok:TI.Ok Tryz.prog TB 73 ti73:=
  ⟨(fun _ h=>(show tyOf Tryz.prog 73=some (false,1)by kernel_rfl).trans h),
   (kf trivial),
   (fun _ _ h=>by cases h),
   (fun h=>by cases h),
   (fun _ h=>by cases h),
   (fun _ h=>by cases h;exact⟨by kernel_rfl,ka (by kernel_rfl)⟩),
   (fun h=>(h rfl).elim),
   (fun _ h=>(show Tryz.prog.underlying 73=some (.map 9 4)by kernel_rfl).trans h),
   (fun _ h=>by cases h),
   (fun _ _ h=>by cases h;exact⟨4,.string,⟨9,by kernel_rfl,by kernel_rfl⟩,fun _=>rfl,zIs_mk (z0:= .d (.bool false)) (by kernel_rfl) (kc (V.d (.bool false)))⟩)⟩
def ti75:TI TB.den:={ty:=some (true,7),fl:=[(0,false,1),(1,false,1),(2,false,1),(3,false,1),(4,false,1),(5,false,1),(6,false,1)],ze:=some [.d (.bool) (false:Bool),.d (.int .u64) (0:Int),.d (.int .i64) (0:Int),.full (.st 4) [],.k KC.nilMap.v,.k KC.nilMap.v,.k KC.nilMap.v],pl:=[(0,1),(1,1),(2,1),(3,1),(4,1),(5,1),(6,1)]}
theorem ti75_ok:TI.Ok Tryz.prog TB 75 ti75:=
  ⟨(fun _ h=>(show tyOf Tryz.prog 75=some (true,7)by kernel_rfl).trans h),
   (kf ⟨by kernel_rfl,by kernel_rfl,by kernel_rfl,by kernel_rfl,by kernel_rfl,by kernel_rfl,by kernel_rfl,trivial⟩),
   (fun _ _ h=>by cases h),
   (fun h=>by cases h),
   (fun _ h=>by cases h),
   (fun _ h=>by cases h;exact⟨by kernel_rfl,ka (by kernel_rfl)⟩),
   (fun _=>by kernel_rfl),
   (fun _ h=>by cases h),
   (fun _ h=>by cases h),
   (fun _ _ h=>by cases h)⟩
def ti76:TI TB.den:={ty:=some (false,1),el:=some (.st 18,56),ez:=true,ze:=some [.full (.st 18) []],un:=some (.slice 80)}
theorem ti76_ok:TI.Ok Tryz.prog TB 76 ti76:=
  ⟨(fun _ h=>(show tyOf Tryz.prog 76=some (false,1)by kernel_rfl).trans h),
   (kf trivial),
   (fun _ _ h=>by cases h;exact⟨by kernel_rfl,by kernel_rfl⟩),
   (fun _ _ _ h=>by cases h;exact⟨[.full 9 [],.full 4 [],.d (.int .u64 0)],by kernel_rfl,⟨⟨⟨rfl,rfl⟩,rfl⟩,⟨⟨rfl,rfl⟩,rfl⟩,⟨kc _,rfl⟩,trivial⟩⟩),
   (fun _ h=>by cases h),
   (fun _ h=>by cases h;exact⟨by kernel_rfl,ka (by kernel_rfl)⟩),
   (fun h=>(h rfl).elim),
   (fun _ h=>(show Tryz.prog.underlying 76=some (.slice 80)by kernel_rfl).trans h),
   (fun _ h=>by cases h),
   (fun _ _ h=>by cases h)⟩
def ti106:TI TB.den:={ty:=some (true,2),ar:=some (2,false,1),ze:=some [.d (.int .u64) (0:Int),.d (.int .u64) (0:Int)],pl:=[(0,1),(1,1)],un:=some (.array 2 24)}
theorem khv:TI.Ok Tryz.prog TB 106 ti106:=
  ⟨(fun _ h=>(show tyOf Tryz.prog 106=some (true,2)by kernel_rfl).trans h),
   (kf trivial),
   (fun _ _ h=>by cases h),
   (fun h=>by cases h),
   (fun _ h=>by cases h;exact⟨by kernel_rfl,by kernel_rfl⟩),
   (fun _ h=>by cases h;exact⟨by kernel_rfl,ka (by kernel_rfl)⟩),
   (fun _=>by kernel_rfl),
   (fun _ h=>(show Tryz.prog.underlying 106=some (.array 2 24)by kernel_rfl).trans h),
   (fun _ h=>by cases h),
   (fun _ _ h=>by cases h)⟩
def ti108:TI TB.den:={ty:=some (true,4),fl:=[(0,false,1),(1,true,2),(3,false,1)],ze:=some [.d (.int .u64) (0:Int),.d (.int .u64) (0:Int),.d (.int .u64) (0:Int),.full (.int .u64) []],pl:=[(0,1),(1,2),(3,1)]}
theorem khh:TI.Ok Tryz.prog TB 108 ti108:=
  ⟨(fun _ h=>(show tyOf Tryz.prog 108=some (true,4)by kernel_rfl).trans h),
   (kf ⟨by kernel_rfl,by kernel_rfl,by kernel_rfl,trivial⟩),
   (fun _ _ h=>by cases h),
   (fun h=>by cases h),
   (fun _ h=>by cases h),
   (fun _ h=>by cases h;exact⟨by kernel_rfl,ka (by kernel_rfl)⟩),
   (fun _=>by kernel_rfl),
   (fun _ h=>by cases h),
   (fun _ h=>by cases h),
   (fun _ _ h=>by cases h)⟩
def ti113:TI TB.den:={ty:=some (false,1),ze:=some [.k KC.nilMap.v],mp:=some (.int .i64,.st 11),un:=some (.map 3 184)}
theorem kgu:TI.Ok Tryz.prog TB 113 ti113:=
  ⟨(fun _ h=>(show tyOf Tryz.prog 113=some (false,1)by kernel_rfl).trans h),
   (kf trivial),
   (fun _ _ h=>by cases h),
   (fun h=>by cases h),
   (fun _ h=>by cases h),
   (fun _ h=>by cases h;exact⟨by kernel_rfl,ka (by kernel_rfl)⟩),
   (fun h=>(h rfl).elim),
   (fun _ h=>(show Tryz.prog.underlying 113=some (.map 3 184)by kernel_rfl).trans h),
   (fun _ h=>by cases h),
   (fun _ _ h=>by cases h;exact⟨184,.int .i64,⟨3,by kernel_rfl,by kernel_rfl⟩,fun _=>rfl,zIs_mk (z0:= .agg [.d (.int .u64 0),.d (.int .u64 0),.d (.int .u64 0),.d (.int .u64 0),.d (.int .u64 0),.d (.int .i64 0),.d (.int .i64 0),.k (.slice none 0 0),.d (.bool false)]) (by kernel_rfl) (⟨⟨kc (V.d (.int .u64 0)),rfl⟩,⟨kc (V.d (.int .u64 0)),rfl⟩,⟨kc (V.d (.int .u64 0)),rfl⟩,⟨kc (V.d (.int .u64 0)),rfl⟩,⟨kc (V.d (.int .u64 0)),rfl⟩,⟨kc (V.d (.int .i64 0)),rfl⟩,⟨kc (V.d (.int .i64 0)),rfl⟩,⟨rfl,rfl⟩,⟨kc (V.d (.bool false)),rfl⟩,trivial⟩)⟩)⟩
def ti114:TI TB.den:={ty:=some (false,1),el:=some (.st 12,16),ez:=true,ze:=some [.full (.st 12) []],un:=some (.slice 119)}
theorem kho:TI.Ok Tryz.prog TB 114 ti114:=
  ⟨(fun _ h=>(show tyOf Tryz.prog 114=some (false,1)by kernel_rfl).trans h),
   (kf trivial),
   (fun _ _ h=>by cases h;exact⟨by kernel_rfl,by kernel_rfl⟩),
   (fun _ _ _ h=>by cases h;exact⟨[.d (.int .u64 0),.d (.int .i64 0)],by kernel_rfl,⟨⟨kc _,rfl⟩,⟨kc _,rfl⟩,trivial⟩⟩),
   (fun _ h=>by cases h),
   (fun _ h=>by cases h;exact⟨by kernel_rfl,ka (by kernel_rfl)⟩),
   (fun h=>(h rfl).elim),
   (fun _ h=>(show Tryz.prog.underlying 114=some (.slice 119)by kernel_rfl).trans h),
   (fun _ h=>by cases h),
   (fun _ _ h=>by cases h)⟩
def ti116:TI TB.den:={ty:=some (true,20),fl:=[(0,false,1),(1,false,1),(2,false,1),(3,false,1),(4,false,1),(5,false,1),(6,true,14)],ze:=some [.k KC.nilPtr.v,.d (.int .i64) (0:Int),.full (.st 12) [],.full (.int .u64) [],.full (.st 13) [],.k KC.nilMap.v,.d (.int .u64) (0:Int),.d (.int .u64) (0:Int),.d (.int .u64) (0:Int),.d (.int .i64) (0:Int),.d (.int .i64) (0:Int),.d (.int .i64) (0:Int),.d (.int .i64) (0:Int),.d (.int .i64) (0:Int),.d (.int .u64) (0:Int),.full (.int .u64) [],.d (.int .u64) (0:Int),.d (.int .u64) (0:Int),.full (.int .u64) [],.d (.int .u64) (0:Int)],pl:=[(0,1),(1,1),(2,1),(3,1),(4,1),(5,1),(6,14)]}
theorem khg:TI.Ok Tryz.prog TB 116 ti116:=
  ⟨(fun _ h=>(show tyOf Tryz.prog 116=some (true,20)by kernel_rfl).trans h),
   (kf ⟨by kernel_rfl,by kernel_rfl,by kernel_rfl,by kernel_rfl,by kernel_rfl,by kernel_rfl,by kernel_rfl,trivial⟩),
   (fun _ _ h=>by cases h),
   (fun h=>by cases h),
   (fun _ h=>by cases h),
   (fun _ h=>by cases h;exact⟨by kernel_rfl,ka (by kernel_rfl)⟩),
   (fun _=>by kernel_rfl),
   (fun _ h=>by cases h),
   (fun _ h=>by cases h),
   (fun _ _ h=>by cases h)⟩
def ti119:TI TB.den:={ty:=some (true,2),fl:=[(0,false,1),(1,false,1)],ze:=some [.d (.int .u64) (0:Int),.d (.int .i64) (0:Int)],pl:=[(0,1),(1,1)],eq:=some [.int .u64,.int .i64]}
theorem ki0:TI.Ok Tryz.prog TB 119 ti119:=
  ⟨(fun _ h=>(show tyOf Tryz.prog 119=some (true,2)by kernel_rfl).trans h),
   (kf ⟨by kernel_rfl,by kernel_rfl,trivial⟩),
   (fun _ _ h=>by cases h),
   (fun h=>by cases h),
   (fun _ h=>by cases h),
   (fun _ h=>by cases h;exact⟨by kernel_rfl,ka (by kernel_rfl)⟩),
   (fun _=>by kernel_rfl),
   (fun _ h=>by cases h),
   (fun _ h=>(show eqT Tryz.prog 119=some [.int .u64,.int .i64]by kernel_rfl).trans h),
   (fun _ _ h=>by cases h)⟩
def ti124:TI TB.den:={ty:=some (false,1),el:=some (.st 9,24),ez:=true,ze:=some [.full (.st 9) []],un:=some (.slice 172)}
theorem ki1:TI.Ok Tryz.prog TB 124 ti124:=
  ⟨(fun _ h=>(show tyOf Tryz.prog 124=some (false,1)by kernel_rfl).trans h),
   (kf trivial),
   (fun _ _ h=>by cases h;exact⟨by kernel_rfl,by kernel_rfl⟩),
   (fun _ _ _ h=>by cases h;exact⟨[.d (.int .u64 0),.d (.int .u64 0),.d (.int .u64 0)],by kernel_rfl,⟨⟨kc _,rfl⟩,⟨kc _,rfl⟩,⟨kc _,rfl⟩,trivial⟩⟩),
   (fun _ h=>by cases h),
   (fun _ h=>by cases h;exact⟨by kernel_rfl,ka (by kernel_rfl)⟩),
   (fun h=>(h rfl).elim),
   (fun _ h=>(show Tryz.prog.underlying 124=some (.slice 172)by kernel_rfl).trans h),
   (fun _ h=>by cases h),
   (fun _ _ h=>by cases h)⟩
def ti126:TI TB.den:={ty:=some (true,1),fl:=[(0,false,1)],ze:=some [.full (.st 9) []],pl:=[(0,1)]}
theorem khw:TI.Ok Tryz.prog TB 126 ti126:=
  ⟨(fun _ h=>(show tyOf Tryz.prog 126=some (true,1)by kernel_rfl).trans h),
   (kf ⟨by kernel_rfl,trivial⟩),
   (fun _ _ h=>by cases h),
   (fun h=>by cases h),
   (fun _ h=>by cases h),
   (fun _ h=>by cases h;exact⟨by kernel_rfl,ka (by kernel_rfl)⟩),
   (fun _=>by kernel_rfl),
   (fun _ h=>by cases h),
   (fun _ h=>by cases h),
   (fun _ _ h=>by cases h)⟩
def ti158:TI TB.den:={ty:=some (true,3),fl:=[(0,false,1),(1,false,1),(2,false,1)],ze:=some [.d (.int .i64) (0:Int),.d (.int .i64) (0:Int),.full (.int .u64) []],pl:=[(0,1),(1,1),(2,1)]}
theorem kh6:TI.Ok Tryz.prog TB 158 ti158:=
  ⟨(fun _ h=>(show tyOf Tryz.prog 158=some (true,3)by kernel_rfl).trans h),
   (kf ⟨by kernel_rfl,by kernel_rfl,by kernel_rfl,trivial⟩),
   (fun _ _ h=>by cases h),
   (fun h=>by cases h),
   (fun _ h=>by cases h),
   (fun _ h=>by cases h;exact⟨by kernel_rfl,ka (by kernel_rfl)⟩),
   (fun _=>by kernel_rfl),
   (fun _ h=>by cases h),
   (fun _ h=>by cases h),
   (fun _ _ h=>by cases h)⟩
def ti160:TI TB.den:={ty:=some (false,1),ze:=some [.k KC.nilPtr.v],un:=some (.pointer 212)}
theorem khj:TI.Ok Tryz.prog TB 160 ti160:=
  ⟨(fun _ h=>(show tyOf Tryz.prog 160=some (false,1)by kernel_rfl).trans h),
   (kf trivial),
   (fun _ _ h=>by cases h),
   (fun h=>by cases h),
   (fun _ h=>by cases h),
   (fun _ h=>by cases h;exact⟨by kernel_rfl,ka (by kernel_rfl)⟩),
   (fun h=>(h rfl).elim),
   (fun _ h=>(show Tryz.prog.underlying 160=some (.pointer 212)by kernel_rfl).trans h),
   (fun _ h=>by cases h),
   (fun _ _ h=>by cases h)⟩
def ti163:TI TB.den:={ty:=some (false,1),el:=some (.st 10,104),ez:=true,ze:=some [.full (.st 10) []],un:=some (.slice 167)}
theorem kh5:TI.Ok Tryz.prog TB 163 ti163:=
  ⟨(fun _ h=>(show tyOf Tryz.prog 163=some (false,1)by kernel_rfl).trans h),
   (kf trivial),
   (fun _ _ h=>by cases h;exact⟨by kernel_rfl,by kernel_rfl⟩),
   (fun _ _ _ h=>by cases h;exact⟨[.d (.int .i64 0),.d (.int .i64 0),.full 1 [],.d (.int .i64 0),.full 1 [],.full 3 [],.d (.int .u64 0)],by kernel_rfl,⟨⟨kc _,rfl⟩,⟨kc _,rfl⟩,⟨⟨rfl,rfl⟩,rfl⟩,⟨kc _,rfl⟩,⟨⟨rfl,rfl⟩,rfl⟩,⟨⟨rfl,rfl⟩,rfl⟩,⟨kc _,rfl⟩,trivial⟩⟩),
   (fun _ h=>by cases h),
   (fun _ h=>by cases h;exact⟨by kernel_rfl,ka (by kernel_rfl)⟩),
   (fun h=>(h rfl).elim),
   (fun _ h=>(show Tryz.prog.underlying 163=some (.slice 167)by kernel_rfl).trans h),
   (fun _ h=>by cases h),
   (fun _ _ h=>by cases h)⟩
def ti165:TI TB.den:={ty:=some (true,18),fl:=[(0,true,9),(9,true,3),(12,false,1),(13,false,1),(14,true,1),(15,false,1),(16,false,1),(17,false,1)],ze:=some [.d (.int .i64) (0:Int),.d (.int .i64) (0:Int),.d (.int .i64) (0:Int),.d (.int .i64) (0:Int),.d (.int .i64) (0:Int),.d (.int .u64) (0:Int),.d (.int .i64) (0:Int),.d (.int .i64) (0:Int),.d (.int .u64) (0:Int),.d (.int .i64) (0:Int),.d (.int .i64) (0:Int),.full (.int .u64) [],.full (.int .u64) [],.k KC.nilPtr.v,.full (.st 9) [],.d (.int .u64) (0:Int),.full (.int .u64) [],.full (.st 10) []],pl:=[(0,9),(9,3),(12,1),(13,1),(14,1),(15,1),(16,1),(17,1)]}
theorem kh4:TI.Ok Tryz.prog TB 165 ti165:=
  ⟨(fun _ h=>(show tyOf Tryz.prog 165=some (true,18)by kernel_rfl).trans h),
   (kf ⟨by kernel_rfl,by kernel_rfl,by kernel_rfl,by kernel_rfl,by kernel_rfl,by kernel_rfl,by kernel_rfl,by kernel_rfl,trivial⟩),
   (fun _ _ h=>by cases h),
   (fun h=>by cases h),
   (fun _ h=>by cases h),
   (fun _ h=>by cases h;exact⟨by kernel_rfl,ka (by kernel_rfl)⟩),
   (fun _=>by kernel_rfl),
   (fun _ h=>by cases h),
   (fun _ h=>by cases h),
   (fun _ _ h=>by cases h)⟩
def ti167:TI TB.den:={ty:=some (true,7),fl:=[(0,true,3),(3,false,1),(4,false,1),(5,true,1),(6,false,1)],ze:=some [.d (.int .i64) (0:Int),.d (.int .i64) (0:Int),.full (.int .u64) [],.d (.int .i64) (0:Int),.full (.int .u64) [],.full (.st 9) [],.d (.int .u64) (0:Int)],pl:=[(0,3),(3,1),(4,1),(5,1),(6,1)]}
theorem kgi:TI.Ok Tryz.prog TB 167 ti167:=
  ⟨(fun _ h=>(show tyOf Tryz.prog 167=some (true,7)by kernel_rfl).trans h),
   (kf ⟨by kernel_rfl,by kernel_rfl,by kernel_rfl,by kernel_rfl,by kernel_rfl,trivial⟩),
   (fun _ _ h=>by cases h),
   (fun h=>by cases h),
   (fun _ h=>by cases h),
   (fun _ h=>by cases h;exact⟨by kernel_rfl,ka (by kernel_rfl)⟩),
   (fun _=>by kernel_rfl),
   (fun _ h=>by cases h),
   (fun _ h=>by cases h),
   (fun _ _ h=>by cases h)⟩
def ti172:TI TB.den:={ty:=some (true,3),fl:=[(0,false,1),(1,false,1),(2,false,1)],ze:=some [.d (.int .u64) (0:Int),.d (.int .u64) (0:Int),.d (.int .u64) (0:Int)],pl:=[(0,1),(1,1),(2,1)],eq:=some [.int .u64,.int .u64,.int .u64]}
theorem kh0:TI.Ok Tryz.prog TB 172 ti172:=
  ⟨(fun _ h=>(show tyOf Tryz.prog 172=some (true,3)by kernel_rfl).trans h),
   (kf ⟨by kernel_rfl,by kernel_rfl,by kernel_rfl,trivial⟩),
   (fun _ _ h=>by cases h),
   (fun h=>by cases h),
   (fun _ h=>by cases h),
   (fun _ h=>by cases h;exact⟨by kernel_rfl,ka (by kernel_rfl)⟩),
   (fun _=>by kernel_rfl),
   (fun _ h=>by cases h),
   (fun _ h=>(show eqT Tryz.prog 172=some [.int .u64,.int .u64,.int .u64]by kernel_rfl).trans h),
   (fun _ _ h=>by cases h)⟩
def ti208:TI TB.den:={ty:=some (true,3),ar:=some (3,false,1),ze:=some [.d (.int .u64) (0:Int),.d (.int .u64) (0:Int),.d (.int .u64) (0:Int)],pl:=[(0,1),(1,1),(2,1)],un:=some (.array 3 24)}
theorem khe:TI.Ok Tryz.prog TB 208 ti208:=
  ⟨(fun _ h=>(show tyOf Tryz.prog 208=some (true,3)by kernel_rfl).trans h),
   (kf trivial),
   (fun _ _ h=>by cases h),
   (fun h=>by cases h),
   (fun _ h=>by cases h;exact⟨by kernel_rfl,by kernel_rfl⟩),
   (fun _ h=>by cases h;exact⟨by kernel_rfl,ka (by kernel_rfl)⟩),
   (fun _=>by kernel_rfl),
   (fun _ h=>(show Tryz.prog.underlying 208=some (.array 3 24)by kernel_rfl).trans h),
   (fun _ h=>by cases h),
   (fun _ _ h=>by cases h)⟩
def ti210:TI TB.den:={ty:=some (false,1),ze:=some [.k KC.nilMap.v],mp:=some (.int .u64,.bool),un:=some (.map 24 4)}
theorem khb:TI.Ok Tryz.prog TB 210 ti210:=
  ⟨(fun _ h=>(show tyOf Tryz.prog 210=some (false,1)by kernel_rfl).trans h),
   (kf trivial),
   (fun _ _ h=>by cases h),
   (fun h=>by cases h),
   (fun _ h=>by cases h),
   (fun _ h=>by cases h;exact⟨by kernel_rfl,ka (by kernel_rfl)⟩),
   (fun h=>(h rfl).elim),
   (fun _ h=>(show Tryz.prog.underlying 210=some (.map 24 4)by kernel_rfl).trans h),
   (fun _ h=>by cases h),
   (fun _ _ h=>by cases h;exact⟨4,.int .u64,⟨24,by kernel_rfl,by kernel_rfl⟩,fun _=>rfl,zIs_mk (z0:= .d (.bool false)) (by kernel_rfl) (kc (V.d (.bool false)))⟩)⟩
def ti212:TI TB.den:={ty:=some (true,1),fl:=[(0,false,1)],ze:=some [.k KC.nilMap.v],pl:=[(0,1)]}
theorem kh8:TI.Ok Tryz.prog TB 212 ti212:=
  ⟨(fun _ h=>(show tyOf Tryz.prog 212=some (true,1)by kernel_rfl).trans h),
   (kf ⟨by kernel_rfl,trivial⟩),
   (fun _ _ h=>by cases h),
   (fun h=>by cases h),
   (fun _ h=>by cases h),
   (fun _ h=>by cases h;exact⟨by kernel_rfl,ka (by kernel_rfl)⟩),
   (fun _=>by kernel_rfl),
   (fun _ h=>by cases h),
   (fun _ h=>by cases h),
   (fun _ _ h=>by cases h)⟩
def ti229:TI TB.den:={ty:=some (true,1),fl:=[(0,false,1)],ze:=some [.d (.int .u64) (0:Int)],pl:=[(0,1)],eq:=some [.int .u64]}
theorem khz:TI.Ok Tryz.prog TB 229 ti229:=
  ⟨(fun _ h=>(show tyOf Tryz.prog 229=some (true,1)by kernel_rfl).trans h),
   (kf ⟨by kernel_rfl,trivial⟩),
   (fun _ _ h=>by cases h),
   (fun h=>by cases h),
   (fun _ h=>by cases h),
   (fun _ h=>by cases h;exact⟨by kernel_rfl,ka (by kernel_rfl)⟩),
   (fun _=>by kernel_rfl),
   (fun _ h=>by cases h),
   (fun _ h=>(show eqT Tryz.prog 229=some [.int .u64]by kernel_rfl).trans h),
   (fun _ _ h=>by cases h)⟩
def ti268:TI TB.den:={ty:=some (false,1),ze:=some [.d (.int .u64) (0:Int)],un:=some (.int .u64)}
theorem khr:TI.Ok Tryz.prog TB 268 ti268:=
  ⟨(fun _ h=>(show tyOf Tryz.prog 268=some (false,1)by kernel_rfl).trans h),
   (kf trivial),
   (fun _ _ h=>by cases h),
   (fun h=>by cases h),
   (fun _ h=>by cases h),
   (fun _ h=>by cases h;exact⟨by kernel_rfl,ka (by kernel_rfl)⟩),
   (fun h=>(h rfl).elim),
   (fun _ h=>(show Tryz.prog.underlying 268=some (.int .u64)by kernel_rfl).trans h),
   (fun _ h=>by cases h),
   (fun _ _ h=>by cases h)⟩
def inf:BT (TI TB.den):=(.nd (.nd (.nd (.nd (.nd (.nd .lf 3 ti3 .lf) 4 ti4 .lf) 5 ti5 (.nd (.nd .lf 9 ti9 .lf) 23 ti23 .lf)) 24 ti24 (.nd (.nd (.nd .lf 26 ti26 .lf) 27 ti27 .lf) 30 ti30 (.nd (.nd .lf 32 ti32 .lf) 34 ti34 .lf))) 36 ti36 (.nd (.nd (.nd (.nd .lf 40 ti40 .lf) 46 ti46 .lf) 48 ti48 (.nd (.nd .lf 60 ti60 .lf) 62 ti62 .lf)) 64 ti64 (.nd (.nd (.nd .lf 65 ti65 .lf) 67 ti67 .lf) 71 ti71 (.nd .lf 72 ti72 .lf)))) 73 ti73 (.nd (.nd (.nd (.nd (.nd .lf 75 ti75 .lf) 76 ti76 .lf) 106 ti106 (.nd (.nd .lf 108 ti108 .lf) 113 ti113 .lf)) 114 ti114 (.nd (.nd (.nd .lf 116 ti116 .lf) 119 ti119 .lf) 124 ti124 (.nd .lf 126 ti126 .lf))) 158 ti158 (.nd (.nd (.nd (.nd .lf 160 ti160 .lf) 163 ti163 .lf) 165 ti165 (.nd (.nd .lf 167 ti167 .lf) 172 ti172 .lf)) 208 ti208 (.nd (.nd (.nd .lf 210 ti210 .lf) 212 ti212 .lf) 229 ti229 (.nd .lf 268 ti268 .lf)))))
theorem inf_ok:InfoOk Tryz.prog TB inf:=(find_nd ti73_ok (find_nd ti36_ok (find_nd ti24_ok (find_nd ti5_ok (find_nd ti4_ok (find_nd ti3_ok ke ke) ke) (find_nd ti23_ok (find_nd ti9_ok ke ke) ke)) (find_nd ti30_ok (find_nd ti27_ok (find_nd ti26_ok ke ke) ke) (find_nd ti34_ok (find_nd ti32_ok ke ke) ke))) (find_nd ti64_ok (find_nd ti48_ok (find_nd ti46_ok (find_nd ti40_ok ke ke) ke) (find_nd ti62_ok (find_nd ti60_ok ke ke) ke)) (find_nd ti71_ok (find_nd ti67_ok (find_nd ti65_ok ke ke) ke) (find_nd ti72_ok ke ke)))) (find_nd kh6 (find_nd kho (find_nd khv (find_nd ti76_ok (find_nd ti75_ok ke ke) ke) (find_nd kgu (find_nd khh ke ke) ke)) (find_nd ki1 (find_nd ki0 (find_nd khg ke ke) ke) (find_nd khw ke ke))) (find_nd khe (find_nd kh4 (find_nd kh5 (find_nd khj ke ke) ke) (find_nd kh0 (find_nd kgi ke ke) ke)) (find_nd khz (find_nd kh8 (find_nd khb ke ke) ke) (find_nd khr ke ke)))))
theorem mix:Tryz.prog.follows .mixedOrders=true:=by kernel_rfl
theorem Bs:Base Tryz.prog TB inf:=⟨TBok,inf_ok,mix⟩
def x70:XCon TB.den:=⟨70,[.int .u64,.int .u64,.int .u64],[.int .u64,.int .u64],fun x=>(fun(a0 a1 a2:Int)=>0<=a0/\0<=a1/\0<=a2/\a2<=1) x.1 x.2.1 x.2.2.1,fun x=>((fun(a0 a1 a2:Int)=>(a0+a1+a2)%18446744073709551616) x.1 x.2.1 x.2.2.1,(fun(a0 a1 a2:Int)=>(a0+a1+a2)/18446744073709551616) x.1 x.2.1 x.2.2.1,())⟩
theorem x70_ok:x70.Ok Tryz.prog TB:=⟨rfl,fun x h=>kcd Tryz.func70 (by kernel_rfl) (by kernel_rfl) (by kernel_rfl) (by kernel_rfl) x.1 x.2.1 x.2.2.1 h.1 h.2.1 h.2.2.1 h.2.2.2⟩
abbrev yqi:Ty:= .int .i64
abbrev yqu:Ty:= .int .u64
abbrev yqb:Ty:= .int .u8
abbrev zqi:Sh1:= .d yqi
abbrev zqu:Sh1:= .d yqu
abbrev zqb:Sh1:= .d yqb
abbrev zql:Sh1:= .d (.sl yqu)
end Go.Proofs.YtijdfglbhaedoaaGreat
namespace Go.Bv
open Go.RowKit Go.Deep
def limOf (w:World) (b:Nat):Nat:=match w.heap[b]? with
 |some (.cells c _ _)=>c.size
 |_=>0
theorem keo {w:World} {b o:Nat} {v:Value} (h:w.cell? ⟨b,o,none⟩=some v):o<limOf w b:=by
 unfold World.cell? at h
 unfold limOf
 simp only at h
 split at h
 ·rename_i c _ _ hh
  rw[hh]
  simp only[Option.isSome_none,Bool.false_eq_true,if_false]at h
  exact(Array.getElem?_eq_some_iff.1 h).1
 ·cases h
def isAggT (P:Program) (e:TypeId):Bool:=match P.underlying e with
 |some (.struct _)=>true
 |some (.array _ _)=>true
 |_=>false
def mkD (P:Program) (e:TypeId) (cs:List D):D:=if isAggT P e then .agg cs else cs.headD (.bool false)
def tiles (P:Program) (tot:Nat):List (TypeId×Nat)->Nat->Bool
 |[],o=>o==tot
 |p::r,o=>p.2==o&&tiles P tot r (o+P.cellsOf p.1)
def fsOf (fs:Array Field):List (TypeId×Nat):=fs.toList.map fun f=>(f.type,f.offset)
def arOf (P:Program) (n:Nat) (e:TypeId):List (TypeId×Nat):=(List.range n).map fun i=>(e,i*P.cellsOf e)
def dataT (P:Program):Nat->TypeId->Bool
 |0,_=>false
 |k+1,t=>match P.underlying t with
  |some .bool=>true
  |some (.int _)=>true
  |some .string=>true
  |some (.slice e)=>decide (0<P.cellsOf e)&&dataT P k e
  |some (.struct fs)=>tiles P (P.cellsOf t) (fsOf fs) 0&&(fsOf fs).all fun p=>dataT P k p.1
  |some (.array n e)=>tiles P (P.cellsOf t) (arOf P n e) 0&&dataT P k e
  |_=>false
def RelFs {H:Type} (R:TypeId->List D->DataW H->Prop):List (TypeId×Nat)->List D->List (DataW H)->Prop
 |[],ds,ps=>ds=[]/\ps=[]
 |t::ts,ds,ps=>∃d1 d2 p qs,R t.1 d1 p/\RelFs R ts d2 qs/\ds=d1++d2/\ps=p::qs
def Rel {H:Type} (P:Program):Nat->TypeId->List D->DataW H->Prop
 |0,_,_,_=>False
 |k+1,t,ds,d=>match P.underlying t with
  |some .bool=>∃b,ds=[.bool b]/\d= .lit (.bool b)
  |some (.int q)=>∃i,ds=[.int q i]/\d= .lit (.int q i)/\(Lit.int q i).wf=true
  |some .string=>∃s:ByteArray,ds=[.str s]/\d= .lit (.string s.data.toList)
  | some (.slice e)=>∃l:List (List D),ds=[.slice (P.cellsOf e) (l.map (mkD P e))]/\l.length<=maxLen/\
    ((l=[]/\d= .nil)∨∃elems spare,d= .slice elems spare/\l.length=elems.length/\∀(j:Nat) (x:List D) (y:DataW H),l[j]? =some x->elems[j]? =some y->Rel P k e x y)
  |some (.struct fs)=>∃ps,d= .agg ps/\RelFs (Rel P k) (fsOf fs) ds ps
  |some (.array n e)=>∃ps,d= .agg ps/\RelFs (Rel P k) (arOf P n e) ds ps
  |_=>False
def Holds (w:World) (cs:List Value) (ds:List D):Prop:=ds.length=cs.length/\∀(j:Nat) (v:Value) (c:D),cs[j]? =some v->ds[j]? =some c->RepD (limOf w) w v c
theorem Holds.append {w:World} {a b:List Value} {x y:List D} (h1:Holds w a x) (h2:Holds w b y):Holds w (a++b) (x++y):=by
 refine⟨by simp[h1.1,h2.1],fun j v c hv hc=> ?_⟩
 by_cases hj:j<a.length
 ·rw[List.getElem?_append_left hj]at hv
  rw[List.getElem?_append_left (by rw[h1.1];exact hj)]at hc
  exact h1.2 j v c hv hc
 ·rw[List.getElem?_append_right (by omega)]at hv
  rw[List.getElem?_append_right (by rw[h1.1];omega),h1.1]at hc
  exact h2.2 _ v c hv hc
theorem Holds.one {w:World} {v:Value} {d:D} (h:RepD (limOf w) w v d):Holds w [v] [d]:=by
 refine⟨rfl,fun j u c hu hc=> ?_⟩
 cases j with
 |zero=>simp at hu hc;subst hu;subst hc;exact h
 |succ j=>simp at hu
section
variable {H:Type} {P:Program} {w:World} {cs:List Value}
theorem k6n {tot:Nat} (htot:cs.length=tot) (ok:Value->Prop) (hok:∀v∈cs,ok v) (R:TypeId->List D->DataW H->Prop) (g:TypeId->List Value->Option (DataW H×List MemPlace)):
  ∀(L:List (TypeId×Nat)) (o:Nat) (xs:List (DataW H×List MemPlace)),tiles P tot L o=true->xs.length=L.length->
   (∀p∈L,∀cs' y,(∀v∈cs',ok v)->g p.1 cs' =some y->∃ds,Holds w cs' ds/\R p.1 ds y.1)->
   (∀(i:Nat) (p:TypeId×Nat),L[i]? =some p->g p.1 ((cs.drop p.2).take (P.cellsOf p.1))=xs[i]?)->
   ∃ds,Holds w (cs.drop o) ds/\RelFs R L ds (xs.map (·.1))
 |[],o,xs,ht,hl,_,_=>by
  simp[tiles]at ht
  have:xs=[]:=by simpa using hl
  subst this
  refine⟨[],⟨?_,?_⟩,rfl,rfl⟩
  ·simp;omega
  ·intro j v c _ hc;simp at hc
 |p::L,o,xs,ht,hl,hg,hx=>by
  simp[tiles]at ht
  obtain⟨h0,ht⟩:=ht
  cases xs with
  |nil=>simp at hl
  |cons y ys=>
   have h1:=hx 0 p rfl
   simp only[List.getElem?_cons_zero]at h1
   obtain⟨d1,hd1,hr1⟩:=hg p (by simp) _ y (fun v hv=>hok v (List.mem_of_mem_drop (List.mem_of_mem_take hv))) h1
   obtain⟨d2,hd2,hr2⟩:=k6n htot ok hok R g L (o+P.cellsOf p.1) ys ht (by simpa using hl) (fun q hq=>hg q (by simp[hq])) (fun i q hq=>by simpa using hx (i+1) q (by simpa using hq))
   refine⟨d1++d2,?_,d1,d2,y.1,_,hr1,hr2,rfl,rfl⟩
   have:=hd1.append hd2
   rw[h0,<-List.drop_drop,List.take_append_drop]at this
   exact this
end
section
variable {H:Type} {enc:TypeId×Value->H} {P:Program} {w:World}
theorem rel_mk {k:Nat} {e:TypeId} {x:List D} {d:DataW H} (hr:Rel P k e x d) (h1:∀c∈x,c.one=true):(mkD P e x).cells=x:=by
 cases k with
 |zero=>exact hr.elim
 |succ k=>
  unfold mkD
  split
  ·rfl
  ·rename_i ha
   unfold Rel at hr
   split at hr
   ·obtain⟨b,rfl,_⟩:=hr;rfl
   ·obtain⟨b,rfl,_⟩:=hr;rfl
   ·obtain⟨b,rfl,_⟩:=hr;rfl
   ·obtain⟨b,rfl,_⟩:=hr;rfl
   ·rename_i h;exact absurd (by simp[isAggT,h]) ha
   ·rename_i h;exact absurd (by simp[isAggT,h]) ha
   ·exact hr.elim
theorem k38:∀(k:Nat) (t:TypeId),dataT P k t=true->∀(n:Nat) (cs:List Value) (y:DataW H×List MemPlace),
  DataW.trod enc P w 0 (fun _=>true) true n t cs=some y->∃ds,Holds w cs ds/\Rel P k t ds y.1
 |0,_,h=>by cases h
 |k+1,t,hT=>by
  intro n cs y h
  unfold dataT at hT
  split at hT
  ·rename_i hu
   obtain⟨b,rfl,rfl⟩:=DataW.trod_bool hu h
   exact⟨[.bool b],Holds.one (.bool b),by simp[Rel,hu]⟩
  ·rename_i q hu
   obtain⟨i,rfl,rfl,hw⟩:=DataW.trod_int hu h
   exact⟨[.int q i],Holds.one (.int q i),by simp[Rel,hu,hw]⟩
  ·rename_i hu
   obtain⟨s,rfl,rfl,hs⟩:=DataW.trod_string hu h
   exact⟨[.str s],Holds.one (.str s),by simp only[Rel,hu];exact⟨s,rfl,rfl⟩⟩
  ·rename_i e hu
   simp only[Bool.and_eq_true,decide_eq_true_eq]at hT
   obtain⟨hpos,hT⟩:=hT
   rcases open_slice hu h with⟨rfl,rfl⟩|⟨a,len,cap,m,n',Dd,Pl,rfl,_,hlc,hcm,hm,rfl,hel⟩
   ·exact⟨[.slice (P.cellsOf e) []],Holds.one (.nil none _),by simp only[Rel,hu];exact⟨[],rfl,Nat.zero_le _,.inl ⟨by trivial,by trivial⟩⟩⟩
   ·simp only[if_true]at hm
    subst hm
    by_cases hm0:m=0
    ·subst hm0
     have hl0:len=0:=by omega
     subst hl0
     refine⟨[.slice (P.cellsOf e) []],Holds.one (.nil (some a) _),?_⟩
     simp only[Rel,hu]
     exact⟨[],rfl,Nat.zero_le _,.inr ⟨_,_,rfl,by simp,by intro j x y hx;simp at hx⟩⟩
    have hel' :∀i,i<len->∃x:List D,∃cs',w.cells? 0 (a.add (i*P.cellsOf e)) (P.cellsOf e)=some cs'/\Holds w cs' x/\Rel P k e x (Dd i):=by
     intro i hi
     obtain⟨cs',h1,h2⟩:=hel i (by omega)
     obtain⟨ds,h3,h4⟩:=k38 k e hT n' cs' _ h2
     exact⟨ds,cs',h1,h3,h4⟩
    obtain⟨f,hf⟩:=choose_lt hel'
    have hspot:a.spot=none:=by
     obtain⟨cs',h1,h2⟩:=hel 0 (by omega)
     have h3:=(World.cells?_some h1).2.2 0 (by omega)
     have h4:=(World.cells?_some h1).2.1
     rw[List.getElem?_eq_getElem (by omega)]at h3
     unfold World.cell? at h3
     split at h3
     ·split at h3
      ·cases h3
      ·rename_i hs;simpa[Addr.add]using hs
     ·cases h3
    obtain⟨b,off,sp⟩:=a
    simp only at hspot
    subst hspot
    have hone:∀i,i<len->∀c∈f i,c.one=true:=by
     intro i hi c hc
     obtain⟨cs',h1,h2,h3⟩:=hf i hi
     obtain⟨j,hj⟩:=List.getElem?_of_mem hc
     have hjl:j<cs'.length:=by rw[<-h2.1];exact(List.getElem?_eq_some_iff.1 hj).1
     exact(h2.2 j _ c (List.getElem?_eq_getElem hjl) hj).done
    have hmk:∀i,i<len->(mkD P e (f i)).cells=f i:=fun i hi=>by
     obtain⟨cs',h1,h2,h3⟩:=hf i hi
     exact rel_mk h3 (hone i hi)
    have hsz:∀d∈((List.range len).map f).map (mkD P e),d.cells.length=P.cellsOf e/\∀c∈d.cells,c.one=true:=by
     intro d hd
     simp only[List.map_map,List.mem_map,List.mem_range,Function.comp]at hd
     obtain⟨i,hi,rfl⟩:=hd
     obtain⟨cs',h1,h2,h3⟩:=hf i hi
     rw[hmk i hi]
     exact⟨by rw[h2.1];exact(World.cells?_some h1).2.1,hone i hi⟩
    have hget:∀i,i<len->(((List.range len).map f).map (mkD P e))[i]? =some (mkD P e (f i)):=by
     intro i hi
     simp[List.getElem?_map,List.getElem?_range hi]
    have hfl:=kh hsz
    simp only[List.length_map,List.length_range]at hfl
    have hat:∀(j:Nat) (u:Value),((List.range (len*P.cellsOf e)).map fun j=>(w.cell? ⟨b,off+j,none⟩).getD undef)[j]? =some u->j<len*P.cellsOf e/\w.cell? ⟨b,off+j,none⟩=some u:=by
     intro j u hu
     have hj:j<len*P.cellsOf e:=by simpa using(List.getElem?_eq_some_iff.1 hu).1
     refine⟨hj,?_⟩
     simp only[List.getElem?_map,List.getElem?_range hj,Option.map_some,Option.some.injEq]at hu
     have hi:j/P.cellsOf e<len:=by rw[Nat.div_lt_iff_lt_mul hpos];exact hj
     have hr:j%P.cellsOf e<P.cellsOf e:=Nat.mod_lt _ hpos
     obtain⟨cs',h1,h2,h3⟩:=hf _ hi
     have e1:j/P.cellsOf e*P.cellsOf e+j%P.cellsOf e=j:=by rw[Nat.mul_comm];exact Nat.div_add_mod j _
     have h4:=(World.cells?_some h1).2.2 _ hr
     have h5:=(World.cells?_some h1).2.1
     have e2:(Addr.add ⟨b,off,none⟩ (j/P.cellsOf e*P.cellsOf e)).add (j%P.cellsOf e)=⟨b,off+j,none⟩:=by
      rw[add_add,e1]
      simp[Addr.add]
     rw[e2,List.getElem?_eq_getElem (by omega)]at h4
     rw[h4]at hu ⊢
     simpa using hu
    refine⟨[.slice (P.cellsOf e) (((List.range len).map f).map (mkD P e))],Holds.one ?_,?_⟩
    ·have:=RepD.slice (m:=limOf w) (w:=w) b off m (P.cellsOf e) (((List.range len).map f).map (mkD P e)) ((List.range (len*P.cellsOf e)).map fun j=>(w.cell? ⟨b,off+j,none⟩).getD undef) (by simpa using hlc) hcm hsz (by rw[hfl];simp) ?_ ?_
     ·simpa using this
     ·intro j u hu
      obtain⟨hj,hcell⟩:=hat j u hu
      exact⟨keo hcell,hcell⟩
     ·intro j u c hu hc
      obtain⟨hj,hcell⟩:=hat j u hu
      have hi:j/P.cellsOf e<len:=by rw[Nat.div_lt_iff_lt_mul hpos];exact hj
      have hr:j%P.cellsOf e<P.cellsOf e:=Nat.mod_lt _ hpos
      obtain⟨cs',h1,h2,h3⟩:=hf _ hi
      have e1:j/P.cellsOf e*P.cellsOf e+j%P.cellsOf e=j:=by rw[Nat.mul_comm];exact Nat.div_add_mod j _
      rw[<-e1,k4p hsz (hget _ hi) _ hr,hmk _ hi]at hc
      refine h2.2 _ u c ?_ hc
      rw[<-(World.cells?_some h1).2.2 _ hr,<-hcell]
      congr 1
      rw[add_add,e1]
      simp[Addr.add]
    ·simp only[Rel,hu]
     refine⟨(List.range len).map f,rfl,by simp;omega,.inr ⟨_,_,rfl,by simp,?_⟩⟩
     intro j x y hx hy
     have hj:j<len:=by simpa using(List.getElem?_eq_some_iff.1 hx).1
     simp only[List.getElem?_map,List.getElem?_range hj,Option.map_some,Option.some.injEq]at hx hy
     subst hx;subst hy
     obtain⟨_,_,_,h3⟩:=hf j hj
     exact h3
  ·rename_i fs hu
   simp only[Bool.and_eq_true]at hT
   obtain⟨xs,n',rfl,rfl,hl,hxl,hx⟩:=DataW.trod_struct hu h
   obtain⟨ds,h1,h2⟩:=k6n (P:=P) hl (fun _=>True) (fun _ _=>trivial) (Rel P k) (fun t c=>DataW.trod enc P w 0 (fun _=>true) true n' t c) (fsOf fs) 0 xs hT.1 (by simp[fsOf,hxl])
    (fun p hp cs' y _ hy=>k38 k p.1 (List.all_eq_true.1 hT.2 p hp) n' cs' y hy)
    (fun i p hp=>by
     simp only[fsOf,List.getElem?_map,Option.map_eq_some_iff]at hp
     obtain⟨f,hf,rfl⟩:=hp
     exact hx i f (by simpa using hf))
   exact⟨ds,by simpa using h1,by simp only[Rel,hu];exact⟨_,rfl,h2⟩⟩
  ·rename_i m e hu
   simp only[Bool.and_eq_true]at hT
   obtain⟨xs,n',rfl,rfl,hl,hxl,hx⟩:=DataW.trod_array hu h
   obtain⟨ds,h1,h2⟩:=k6n (P:=P) hl (fun _=>True) (fun _ _=>trivial) (Rel P k) (fun t c=>DataW.trod enc P w 0 (fun _=>true) true n' t c) (arOf P m e) 0 xs hT.1 (by simp[arOf,hxl])
    (fun p hp cs' y _ hy=>by
     simp only[arOf,List.mem_map]at hp
     obtain⟨i,_,rfl⟩:=hp
     exact k38 k e hT.2 n' cs' y hy)
    (fun i p hp=>by
     simp only[arOf,List.getElem?_map,Option.map_eq_some_iff]at hp
     obtain⟨f,hf,rfl⟩:=hp
     obtain⟨hi,rfl⟩:=List.getElem?_eq_some_iff.1 hf
     have hi' :i<m:=by simpa using hi
     simpa using hx i hi')
   exact⟨ds,by simpa using h1,by simp only[Rel,hu];exact⟨_,rfl,h2⟩⟩
  ·cases hT
end
end Go.Bv
namespace Go.Bv
open Go.RowKit Go.ChangeShapes Go.WideShapes
def G0 (W:World):Gh:=⟨fun _=>none,fun _=>none,limOf W⟩
def vOf (P:Program) (t:TypeId) (ds:List D):V:=if isAggT P t then .agg (ds.map V.d)else .d (ds.headD (.bool false))
section
variable {H:Type} {enc:TypeId×Value->H} {P:Program} {W:World}
theorem arg_rep {k:Nat} {r:Reach} {base:Nat} {t:TypeId} {v:Value} {d:DataW H} {ps:List MemPlace} {h:Hp} {nx:Nat} (hT:dataT P k t=true) (hval:Value.okWide P W r base t v)
  (hd:DataW.Trod enc P W 0 (fun _=>true) true t v d ps):∃ds,Rel P k t ds d/\RepV (G0 W) W h nx v (vOf P t ds):=by
 obtain⟨n,hn⟩:=hd
 by_cases ha:isAggT P t=true
 ·have hval' :∃cs,v= .agg cs/\cs.size=P.cellsOf t/\Row.okWide P W r base t cs:=by
   unfold isAggT at ha
   unfold Value.okWide at hval
   split at ha
   ·rename_i h1;rw[h1]at hval;exact hval
   ·rename_i h1;rw[h1]at hval;exact hval
   ·cases ha
  obtain⟨cs,rfl,_,ts,_,_,hc⟩:=hval'
  obtain⟨ds,h1,h2⟩:=k38 k t hT n cs.toList _ hn
  refine⟨ds,h2,?_⟩
  unfold vOf
  rw[if_pos ha]
  have:=RepV.agg (G:=G0 W) (w:=W) (h:=h) (nx:=nx) cs.toList (ds.map V.d) (by simpa using h1.1.symm) ?_ ?_
  ·simpa using this
  ·intro x hx
   obtain⟨c,hcm,rfl⟩:=List.mem_map.1 hx
   obtain⟨j,hj⟩:=List.getElem?_of_mem hcm
   have hjl:j<cs.toList.length:=by have:=h1.1;have:=(List.getElem?_eq_some_iff.1 hj).1;simp[Value.cells]at *;omega
   exact(h1.2 j _ c (List.getElem?_eq_getElem hjl) hj).done
  ·intro j u x hu hx
   rw[List.getElem?_map,Option.map_eq_some_iff]at hx
   obtain⟨c,hcj,rfl⟩:=hx
   exact .d _ _ (h1.2 j u c hu hcj)
 ·have hval' :Cell.okWide P W r base t v:=by
   unfold Value.okWide at hval
   split at hval
   ·rename_i h1;exact absurd (by simp[isAggT,h1]) ha
   ·rename_i h1;exact absurd (by simp[isAggT,h1]) ha
   ·exact hval
  have hcs:v.cells.toList=[v]:=by
   cases v with
   |agg cs=>
    exfalso
    unfold Cell.okWide Cell.ok at hval'
    split at hval'
    all_goals first|(split at hval';all_goals simp_all)|simp_all
   |_=>rfl
  rw[hcs]at hn
  obtain⟨ds,h1,h2⟩:=k38 k t hT n _ _ hn
  refine⟨ds,h2,?_⟩
  unfold vOf
  rw[if_neg ha]
  have hl:=h1.1
  match ds,hl with
  |[c],_=>exact .d _ _ (h1.2 0 v c rfl rfl)
theorem law_of {f:FuncId} {xs:List V} {r:V} (hS:SoundH P f xs [] r []) {vs:List Value} (hlen:vs.length=xs.length)
  (hrep:∀(j:Nat) (v:Value) (x:V),vs[j]? =some v->xs[j]? =some x->RepV (G0 W) W [] 0 v x):
  Calls P f vs.toArray W fun e W' =>(∃v G',e= .returned v/\RepV G' W' [] 0 v r)/\Below W.heap.size W W' :=by
 refine(hS (G0 W) W vs hlen hrep ?_).mono fun e W' hh=> ?_
 ·refine⟨?_,?_,?_,?_,?_,?_⟩
  ·intro id l h;simp[hpOf,Hp.get]at h
  ·intro id es h;simp[hpOf,Hp.get]at h
  ·intro id b h;simp at h
  ·intro i j b h;simp at h
  ·intro id ob h;simp[hpOf,Hp.get]at h
  ·intro b hb
   show limOf W b=0
   unfold limOf
   rw[Array.getElem?_eq_none hb]
 ·obtain⟨v,G',rfl,h1,h2,h3,h4⟩:=hh
  refine⟨⟨v,G',rfl,h1⟩,h3.os,h3.tape,h3.output,h3.size,fun b hb=>(h3.same b hb ?_).1⟩
  rintro ⟨i,hi,_⟩
  simp at hi
def typesOk (P:Program) (ts:List TypeId):Bool:=ts.all fun t=>P.readableRec t&&decide (t<P.types.size)
theorem k5j (hl:laidOutB P=true) {W' :World} (hb:Below W.heap.size W W'):∀{ts:List TypeId} {vs:List Value} {ds:List (DataW H)} {ps:List MemPlace},typesOk P ts=true->
  DataW.TrodAll enc P W 0 (fun _=>true) true ts vs ds ps->(∀x∈ps,x.block<W.heap.size)->DataW.TrodAll enc P W' 0 (fun b=>decide (b<W.heap.size)) true ts vs ds ps
 |[],[],[],_,_,h,_=>h
 |[],[],_::_,_,_,h,_=>h.elim
 |[],_::_,_,_,_,h,_=>h.elim
 |_::_,[],_,_,_,h,_=>h.elim
 |_::_,_::_,[],_,_,h,_=>h.elim
 |t::ts,v::vs,d::ds,ps,ht,h,hp=>by
  simp only[typesOk,List.all_cons,Bool.and_eq_true,decide_eq_true_eq]at ht
  obtain⟨p,q,h1,h2,rfl⟩:=h
  exact⟨p,q,Below.trod hl ht.1.1 ht.1.2 h1 hb (fun x hx=>hp x (by simp[hx])),k5j hl hb (by simpa[typesOk]using ht.2) h2 (fun x hx=>hp x (by simp[hx])),rfl⟩
theorem kh1 {k:Nat} {t:TypeId} {ds:List D} {d:DataW H} (hu:P.underlying t=some .bool) (h:Rel P (k+1) t ds d):∃b,ds=[.bool b]/\d= .lit (.bool b):=by unfold Rel at h;rw[hu]at h;exact h
theorem rel_int {k:Nat} {t:TypeId} {q:IntKind} {ds:List D} {d:DataW H} (hu:P.underlying t=some (.int q)) (h:Rel P (k+1) t ds d):∃i,ds=[.int q i]/\d= .lit (.int q i)/\(Lit.int q i).wf=true:=by unfold Rel at h;rw[hu]at h;exact h
theorem ket {k:Nat} {t:TypeId} {fs:Array Field} {ds:List D} {d:DataW H} (hu:P.underlying t=some (.struct fs)) (h:Rel P (k+1) t ds d):∃ps,d= .agg ps/\RelFs (Rel P k) (fsOf fs) ds ps:=by unfold Rel at h;rw[hu]at h;exact h
theorem kfo {k:Nat} {t e:TypeId} {n:Nat} {ds:List D} {d:DataW H} (hu:P.underlying t=some (.array n e)) (h:Rel P (k+1) t ds d):∃ps,d= .agg ps/\RelFs (Rel P k) (arOf P n e) ds ps:=by unfold Rel at h;rw[hu]at h;exact h
theorem kfq {k:Nat} {t e:TypeId} {ds:List D} {d:DataW H} {α:Type} [Inhabited α] (f:α->D) (p:α->Prop) (hu:P.underlying t=some (.slice e)) (h:Rel P (k+1) t ds d)
  (tp:∀(x:List D) (y:DataW H),Rel P k e x y->∃a,mkD P e x=f a/\p a):
  ∃l:List α,ds=[.slice (P.cellsOf e) (l.map f)]/\l.length<=maxLen/\(∀a∈l,p a)/\((l=[]/\d= .nil)∨∃elems spare,d= .slice elems spare/\l.length=elems.length):=by
 unfold Rel at h
 rw[hu]at h
 obtain⟨l,rfl,hmx,h⟩:=h
 rcases h with⟨rfl,rfl⟩|⟨elems,spare,rfl,hlen,hh⟩
 ·exact⟨[],rfl,Nat.zero_le _,by simp,.inl ⟨rfl,rfl⟩⟩
 ·have:∀i,i<l.length->∃a,mkD P e (l.getD i [])=f a/\p a:=by
   intro i hi
   refine tp _ _ (hh i _ _ ?_ (List.getElem?_eq_getElem (by omega)))
   simp[List.getElem?_eq_getElem hi]
  obtain⟨g,hg⟩:=Deep.choose_lt this
  refine⟨(List.range l.length).map g,?_,by simpa using hmx,?_,.inr ⟨elems,spare,rfl,by simpa using hlen⟩⟩
  ·have:l.map (mkD P e)=((List.range l.length).map g).map f:=by
    rw[Deep.map_by_index l [] (mkD P e),List.map_map]
    refine List.map_congr_left fun i hi=> ?_
    exact(hg i (by simpa using hi)).1
   rw[this]
  ·intro a ha
   obtain⟨i,hi,rfl⟩:=List.mem_map.1 ha
   exact(hg i (by simpa using hi)).2
theorem khf {fn:Func} {s:ChangeSpec} {W' :World} {args:Array Value} {ds:List (DataW H)} {before:List MemPlace} {tb:TypeId} (hv:s.vars=[]) (hW:DataW.Whole enc P fn.params.toList s.vars false W args.toList ds [] before)
  (hl:laidOutB P=true) (hty:typesOk P fn.params.toList=true) (hr:fn.resultTypes= #[tb]) (hub:P.underlying tb=some .bool)
  (h1:(s.fn H (ds++[])).results=[.lit (.bool true)]) (h2:(s.fn H (ds++[])).args=ds) (h3:(s.fn H (ds++[])).vars=[]) (hb:Below W.heap.size W W'):
  s.post enc P fn false true false false W args (.bool true) W' :=by
 have hW' :=hW
 obtain⟨p,q,hA,hV,rfl,_,_⟩:=hW
 have hq:q=[]:=by rw[hv]at hV;exact hV
 subst hq
 refine⟨ds,[],p++[],[],p,[],hW',?_,?_,?_,hb.frame _,fun h=>by cases h⟩
 ·rw[h1,hr]
  exact trodAll_cons_mk (shut_bool hub _) trodAll_mk0
 ·rw[h2]
  exact k5j hl hb hty hA (fun x hx=>by simpa using hW'.lt x (by simpa using hx))
 ·rw[hv,h3]
  rfl
end
structure RelH {H:Type} (P:Program) (k:Nat) (t:TypeId) (ds:List D) (d:DataW H):Prop where
 h:Rel P k t ds d
section
variable {H:Type} {enc:TypeId×Value->H} {P:Program} {W:World} {k:Nat}
theorem relFs_h:∀{L:List (TypeId×Nat)} {ds:List D} {ps:List (DataW H)},RelFs (Rel P k) L ds ps->RelFs (RelH P k) L ds ps
 |[],_,_,h=>h
 |_::_,_,_,⟨d1,d2,p,qs,h1,h2,e1,e2⟩=>⟨d1,d2,p,qs,⟨h1⟩,relFs_h h2,e1,e2⟩
theorem kfu {t:TypeId} {ds:List D} {d:DataW H} (hu:P.underlying t=some .bool) (h:RelH P (k+1) t ds d):∃b,ds=[.bool b]/\d= .lit (.bool b):=kh1 hu h.h
theorem k88 {t:TypeId} {q:IntKind} {ds:List D} {d:DataW H} (hu:P.underlying t=some (.int q)) (h:RelH P (k+1) t ds d):∃i,ds=[.int q i]/\d= .lit (.int q i)/\(Lit.int q i).wf=true:=rel_int hu h.h
theorem k1u {t:TypeId} {fs:Array Field} {ds:List D} {d:DataW H} {L:List (TypeId×Nat)} (hu:P.underlying t=some (.struct fs)) (hf:fsOf fs=L) (h:RelH P (k+1) t ds d):∃ps,d= .agg ps/\RelFs (RelH P k) L ds ps:=by
 obtain⟨ps,h1,h2⟩:=ket hu h.h
 rw[hf]at h2
 exact⟨ps,h1,relFs_h h2⟩
theorem kfa {t e:TypeId} {n:Nat} {ds:List D} {d:DataW H} {L:List (TypeId×Nat)} (hu:P.underlying t=some (.array n e)) (hf:arOf P n e=L) (h:RelH P (k+1) t ds d):∃ps,d= .agg ps/\RelFs (RelH P k) L ds ps:=by
 obtain⟨ps,h1,h2⟩:=kfo hu h.h
 rw[hf]at h2
 exact⟨ps,h1,relFs_h h2⟩
theorem k26 {t e:TypeId} {ds:List D} {d:DataW H} {α:Type} [Inhabited α] (f:α->D) (p:α->Prop) (sz:Nat) (hu:P.underlying t=some (.slice e)) (hs:P.cellsOf e=sz) (h:RelH P (k+1) t ds d)
  (tp:∀(x:List D) (y:DataW H),RelH P k e x y->∃a,mkD P e x=f a/\p a):∃l:List α,ds=[.slice sz (l.map f)]/\l.length<=9223372036854775807/\∀a∈l,p a:=by
 obtain⟨l,h1,h2,h3,_⟩:=kfq f p hu h.h (fun x y hh=>tp x y ⟨hh⟩)
 subst hs
 exact⟨l,h1,h2,h3⟩
theorem mk_agg {e:TypeId} {ds cs:List D} (ha:isAggT P e=true) (h:ds=(D.agg cs).cells):mkD P e ds= .agg cs:=by subst h;unfold mkD;rw[ha];rfl
theorem mk_one {e:TypeId} {ds:List D} {x:D} (ha:isAggT P e=false) (h:ds=[x]):mkD P e ds=x:=by subst h;unfold mkD;rw[ha];rfl
theorem k8b {r:Reach} {base:Nat} {t:TypeId} {v:Value} {d:DataW H} {ps:List MemPlace} {h:Hp} {nx:Nat} (hT:dataT P k t=true) (hval:Value.okWide P W r base t v)
  (hd:DataW.Trod enc P W 0 (fun _=>true) true t v d ps):∃ds,RelH P k t ds d/\RepV (G0 W) W h nx v (vOf P t ds):=by
 obtain⟨ds,h1,h2⟩:=arg_rep hT hval hd
 exact⟨ds,⟨h1⟩,h2⟩
end
end Go.Bv
namespace Go.Proofs.YtijdfglbhaedoaaGreat
open Go Go.Bv Go.Cv Go.Md Go.RowKit Go.ChangeShapes Go.WideShapes
theorem wf_u8 {i:Int} (h:(Lit.int .u8 i).wf=true):0<=i/\i<256:=by
 simp only[Lit.wf,IntKind.min,IntKind.max,IntKind.signed,IntKind.bits,Bool.and_eq_true]at h
 simp at h
 omega
theorem wf_u64 {i:Int} (h:(Lit.int .u64 i).wf=true):0<=i/\i<18446744073709551616:=by
 simp only[Lit.wf,IntKind.min,IntKind.max,IntKind.signed,IntKind.bits,Bool.and_eq_true]at h
 simp at h
 omega
theorem wf_i64 {i:Int} (h:(Lit.int .i64 i).wf=true):(-9223372036854775808)<=i/\i<9223372036854775808:=by
 simp only[Lit.wf,IntKind.min,IntKind.max,IntKind.signed,IntKind.bits,Bool.and_eq_true]at h
 simp at h
 omega
structure k8m (x:wE):Prop where
 we:((-9223372036854775808)<=x.we/\x.we<9223372036854775808)
 wD:((-9223372036854775808)<=x.wD/\x.wD<9223372036854775808)
 wI:((-9223372036854775808)<=x.wI/\x.wI<9223372036854775808)
 wH:((-9223372036854775808)<=x.wH/\x.wH<9223372036854775808)
 wG:((-9223372036854775808)<=x.wG/\x.wG<9223372036854775808)
 wJ:(0<=x.wJ/\x.wJ<18446744073709551616)
 wb:((-9223372036854775808)<=x.wb/\x.wb<9223372036854775808)
 wQ:((-9223372036854775808)<=x.wQ/\x.wQ<9223372036854775808)
 wq:(0<=x.wq/\x.wq<18446744073709551616)
theorem op3 {H:Type} {k:Nat} {ds:List D} {d:DataW H} (h:RelH Tryz.prog (k+1) 3 ds d):∃x:Int,ds=[D.int .i64 x]/\((-9223372036854775808)<=x/\x<9223372036854775808):=by
 obtain⟨i,rfl,_,w⟩:=k88 (q:= .i64) (show Tryz.prog.underlying 3=some (.int .i64)by kernel_rfl) h
 exact⟨i,rfl,wf_i64 w⟩
structure ka8 (x:ww):Prop where
 wAK:((-9223372036854775808)<=x.wAK/\x.wAK<9223372036854775808)
 wAA:((-9223372036854775808)<=x.wAA/\x.wAA<9223372036854775808)
 wAJ:((-9223372036854775808)<=x.wAJ/\x.wAJ<9223372036854775808)
theorem op23 {H:Type} {k:Nat} {ds:List D} {d:DataW H} (h:RelH Tryz.prog (k+2) 23 ds d):∃x:ww,ds=(encTProofParams x).cells/\ka8 x:=by
 obtain⟨ps,rfl,h1⟩:=k1u (L:=[(3,0),(3,1),(3,2)]) (Tryz.underlying23) (by kernel_rfl) h
 obtain⟨_,_,_,_,g0,⟨_,_,_,_,g1,⟨_,_,_,_,g2,⟨rfl,rfl⟩,rfl,rfl⟩,rfl,rfl⟩,rfl,rfl⟩:=h1
 obtain⟨a0,rfl,r0⟩:=op3 (k:=k+0) g0
 obtain⟨a1,rfl,r1⟩:=op3 (k:=k+0) g1
 obtain⟨a2,rfl,r2⟩:=op3 (k:=k+0) g2
 exact⟨⟨a0,a1,a2⟩,rfl,⟨r0,r1,r2⟩⟩
theorem op24 {H:Type} {k:Nat} {ds:List D} {d:DataW H} (h:RelH Tryz.prog (k+1) 24 ds d):∃x:Int,ds=[D.int .u64 x]/\(0<=x/\x<18446744073709551616):=by
 obtain⟨i,rfl,_,w⟩:=k88 (q:= .u64) (show Tryz.prog.underlying 24=some (.int .u64)by kernel_rfl) h
 exact⟨i,rfl,wf_u64 w⟩
theorem op26 {H:Type} {k:Nat} {ds:List D} {d:DataW H} (h:RelH Tryz.prog (k+3) 26 ds d):∃x:wE,ds=(encTRules x).cells/\k8m x:=by
 obtain⟨ps,rfl,h1⟩:=k1u (L:=[(3,0),(3,1),(23,2),(24,5),(3,6),(3,7),(24,8)]) (Tryz.underlying26) (by kernel_rfl) h
 obtain⟨_,_,_,_,g0,⟨_,_,_,_,g1,⟨_,_,_,_,g2,⟨_,_,_,_,g3,⟨_,_,_,_,g4,⟨_,_,_,_,g5,⟨_,_,_,_,g6,⟨rfl,rfl⟩,rfl,rfl⟩,rfl,rfl⟩,rfl,rfl⟩,rfl,rfl⟩,rfl,rfl⟩,rfl,rfl⟩,rfl,rfl⟩:=h1
 obtain⟨a0,rfl,r0⟩:=op3 (k:=k+1) g0
 obtain⟨a1,rfl,r1⟩:=op3 (k:=k+1) g1
 obtain⟨a2,rfl,r2⟩:=op23 (k:=k+0) g2
 obtain⟨a3,rfl,r3⟩:=op24 (k:=k+1) g3
 obtain⟨a4,rfl,r4⟩:=op3 (k:=k+1) g4
 obtain⟨a5,rfl,r5⟩:=op3 (k:=k+1) g5
 obtain⟨a6,rfl,r6⟩:=op24 (k:=k+1) g6
 exact⟨⟨a0,a1,a2.wAK,a2.wAA,a2.wAJ,a3,a4,a5,a6⟩,rfl,⟨r0,r1,r2.wAK,r2.wAA,r2.wAJ,r3,r4,r5,r6⟩⟩
theorem op4 {H:Type} {k:Nat} {ds:List D} {d:DataW H} (h:RelH Tryz.prog (k+1) 4 ds d):∃x:Bool,ds=[D.bool x]/\True:=by
 obtain⟨b,rfl,_⟩:=kfu (show Tryz.prog.underlying 4=some (.bool)by kernel_rfl) h
 exact⟨b,rfl,trivial⟩
structure k9p (x:wAP):Prop where
 wm:(0<=x.wm/\x.wm<18446744073709551616)
 wAE:(0<=x.wAE/\x.wAE<18446744073709551616)
 wAF:(0<=x.wAF/\x.wAF<18446744073709551616)
 wv:(x.wv.length<=9223372036854775807/\∀y∈x.wv,(0<=y/\y<18446744073709551616))
structure k6p (x:wx):Prop where
 wAO:(0<=x.wAO/\x.wAO<18446744073709551616)
 wK:(x.wK.length<=9223372036854775807/\∀y∈x.wK,(0<=y/\y<18446744073709551616))
 wN:(x.wN.length<=9223372036854775807/\∀y∈x.wN,k9p y)
 wP:(0<=x.wP/\x.wP<18446744073709551616)
 wd:(0<=x.wd/\x.wd<18446744073709551616)
 Fee:(0<=x.Fee/\x.Fee<18446744073709551616)
 wo:(0<=x.wo/\x.wo<18446744073709551616)
 wc:(0<=x.wc/\x.wc<18446744073709551616)
 wAD:((-9223372036854775808)<=x.wAD/\x.wAD<9223372036854775808)
 wAQ:(x.wAQ.length<=9223372036854775807/\∀y∈x.wAQ,(0<=y/\y<256))
structure k31 (x:wU):Prop where
 wAc:(0<=x.wAc/\x.wAc<18446744073709551616)
 wAN:((-9223372036854775808)<=x.wAN/\x.wAN<9223372036854775808)
 wAU:(0<=x.wAU/\x.wAU<18446744073709551616)
 wq:(0<=x.wq/\x.wq<18446744073709551616)
 wc:(0<=x.wc/\x.wc<18446744073709551616)
 Txs:(x.Txs.length<=9223372036854775807/\∀y∈x.Txs,k6p y)
theorem op30 {H:Type} {k:Nat} {ds:List D} {d:DataW H} (h:RelH Tryz.prog (k+2) 30 ds d):∃x:List Int,ds=[D.slice 1 (x.map (D.int .u64))]/\(x.length<=9223372036854775807/\∀y∈x,(0<=y/\y<18446744073709551616)):=by
 obtain⟨l,rfl,hm,hl⟩:=k26 (D.int .u64) (fun(y:Int)=>(0<=y/\y<18446744073709551616)) 1 (show Tryz.prog.underlying 30=some (.slice 24)by kernel_rfl) (by kernel_rfl) h (fun x y hh=>by
  obtain⟨a,e,ha⟩:=op24 (k:=k+0) hh
  exact⟨a,mk_one (by kernel_rfl) e,ha⟩)
 exact⟨l,rfl,⟨hm,hl⟩⟩
structure kia (x:wAb):Prop where
 a0:(0<=x.a0/\x.a0<18446744073709551616)
 a1:(0<=x.a1/\x.a1<18446744073709551616)
theorem op106 {H:Type} {k:Nat} {ds:List D} {d:DataW H} (h:RelH Tryz.prog (k+2) 106 ds d):∃x:wAb,ds=(encTA2 x).cells/\kia x:=by
 obtain⟨ps,rfl,h1⟩:=kfa (n:=2) (e:=24) (L:=[(24,0),(24,1)]) (show Tryz.prog.underlying 106=some (.array 2 24)by kernel_rfl) (by kernel_rfl) h
 obtain⟨_,_,_,_,g0,⟨_,_,_,_,g1,⟨rfl,rfl⟩,rfl,rfl⟩,rfl,rfl⟩:=h1
 obtain⟨a0,rfl,r0⟩:=op24 (k:=k+0) g0
 obtain⟨a1,rfl,r1⟩:=op24 (k:=k+0) g1
 exact⟨⟨a0,a1⟩,rfl,⟨r0,r1⟩⟩
theorem op108 {H:Type} {k:Nat} {ds:List D} {d:DataW H} (h:RelH Tryz.prog (k+3) 108 ds d):∃x:wAP,ds=(encTOut x).cells/\k9p x:=by
 obtain⟨ps,rfl,h1⟩:=k1u (L:=[(24,0),(106,1),(30,3)]) (Tryz.underlying108) (by kernel_rfl) h
 obtain⟨_,_,_,_,g0,⟨_,_,_,_,g1,⟨_,_,_,_,g2,⟨rfl,rfl⟩,rfl,rfl⟩,rfl,rfl⟩,rfl,rfl⟩:=h1
 obtain⟨a0,rfl,r0⟩:=op24 (k:=k+1) g0
 obtain⟨a1,rfl,r1⟩:=op106 (k:=k+0) g1
 obtain⟨a2,rfl,r2⟩:=op30 (k:=k+0) g2
 exact⟨⟨a0,a1.a0,a1.a1,a2⟩,rfl,⟨r0,r1.a0,r1.a1,r2⟩⟩
theorem op64 {H:Type} {k:Nat} {ds:List D} {d:DataW H} (h:RelH Tryz.prog (k+4) 64 ds d):∃x:List wAP,ds=[D.slice 4 (x.map encTOut)]/\(x.length<=9223372036854775807/\∀y∈x,k9p y):=by
 obtain⟨l,rfl,hm,hl⟩:=k26 encTOut (fun(y:wAP)=>k9p y) 4 (show Tryz.prog.underlying 64=some (.slice 108)by kernel_rfl) (by kernel_rfl) h (fun x y hh=>by
  obtain⟨a,e,ha⟩:=op108 (k:=k+0) hh
  exact⟨a,mk_agg (by kernel_rfl) e,ha⟩)
 exact⟨l,rfl,⟨hm,hl⟩⟩
theorem op5 {H:Type} {k:Nat} {ds:List D} {d:DataW H} (h:RelH Tryz.prog (k+1) 5 ds d):∃x:Int,ds=[D.int .u8 x]/\(0<=x/\x<256):=by
 obtain⟨i,rfl,_,w⟩:=k88 (q:= .u8) (show Tryz.prog.underlying 5=some (.int .u8)by kernel_rfl) h
 exact⟨i,rfl,wf_u8 w⟩
theorem op65 {H:Type} {k:Nat} {ds:List D} {d:DataW H} (h:RelH Tryz.prog (k+2) 65 ds d):∃x:List Int,ds=[D.slice 1 (x.map (D.int .u8))]/\(x.length<=9223372036854775807/\∀y∈x,(0<=y/\y<256)):=by
 obtain⟨l,rfl,hm,hl⟩:=k26 (D.int .u8) (fun(y:Int)=>(0<=y/\y<256)) 1 (show Tryz.prog.underlying 65=some (.slice 5)by kernel_rfl) (by kernel_rfl) h (fun x y hh=>by
  obtain⟨a,e,ha⟩:=op5 (k:=k+0) hh
  exact⟨a,mk_one (by kernel_rfl) e,ha⟩)
 exact⟨l,rfl,⟨hm,hl⟩⟩
theorem op67 {H:Type} {k:Nat} {ds:List D} {d:DataW H} (h:RelH Tryz.prog (k+5) 67 ds d):∃x:wx,ds=(encTTx x).cells/\k6p x:=by
 obtain⟨ps,rfl,h1⟩:=k1u (L:=[(24,0),(30,1),(64,2),(24,3),(24,4),(24,5),(24,6),(24,7),(3,8),(65,9)]) (Tryz.underlying67) (by kernel_rfl) h
 obtain⟨_,_,_,_,g0,⟨_,_,_,_,g1,⟨_,_,_,_,g2,⟨_,_,_,_,g3,⟨_,_,_,_,g4,⟨_,_,_,_,g5,⟨_,_,_,_,g6,⟨_,_,_,_,g7,⟨_,_,_,_,g8,⟨_,_,_,_,g9,⟨rfl,rfl⟩,rfl,rfl⟩,rfl,rfl⟩,rfl,rfl⟩,rfl,rfl⟩,rfl,rfl⟩,rfl,rfl⟩,rfl,rfl⟩,rfl,rfl⟩,rfl,rfl⟩,rfl,rfl⟩:=h1
 obtain⟨a0,rfl,r0⟩:=op24 (k:=k+3) g0
 obtain⟨a1,rfl,r1⟩:=op30 (k:=k+2) g1
 obtain⟨a2,rfl,r2⟩:=op64 (k:=k+0) g2
 obtain⟨a3,rfl,r3⟩:=op24 (k:=k+3) g3
 obtain⟨a4,rfl,r4⟩:=op24 (k:=k+3) g4
 obtain⟨a5,rfl,r5⟩:=op24 (k:=k+3) g5
 obtain⟨a6,rfl,r6⟩:=op24 (k:=k+3) g6
 obtain⟨a7,rfl,r7⟩:=op24 (k:=k+3) g7
 obtain⟨a8,rfl,r8⟩:=op3 (k:=k+3) g8
 obtain⟨a9,rfl,r9⟩:=op65 (k:=k+2) g9
 exact⟨⟨a0,a1,a2,a3,a4,a5,a6,a7,a8,a9⟩,rfl,⟨r0,r1,r2,r3,r4,r5,r6,r7,r8,r9⟩⟩
theorem op60 {H:Type} {k:Nat} {ds:List D} {d:DataW H} (h:RelH Tryz.prog (k+6) 60 ds d):∃x:List wx,ds=[D.slice 10 (x.map encTTx)]/\(x.length<=9223372036854775807/\∀y∈x,k6p y):=by
 obtain⟨l,rfl,hm,hl⟩:=k26 encTTx (fun(y:wx)=>k6p y) 10 (show Tryz.prog.underlying 60=some (.slice 67)by kernel_rfl) (by kernel_rfl) h (fun x y hh=>by
  obtain⟨a,e,ha⟩:=op67 (k:=k+0) hh
  exact⟨a,mk_agg (by kernel_rfl) e,ha⟩)
 exact⟨l,rfl,⟨hm,hl⟩⟩
theorem op62 {H:Type} {k:Nat} {ds:List D} {d:DataW H} (h:RelH Tryz.prog (k+7) 62 ds d):∃x:wU,ds=(encTBlock x).cells/\k31 x:=by
 obtain⟨ps,rfl,h1⟩:=k1u (L:=[(24,0),(3,1),(24,2),(24,3),(24,4),(60,5)]) (Tryz.underlying62) (by kernel_rfl) h
 obtain⟨_,_,_,_,g0,⟨_,_,_,_,g1,⟨_,_,_,_,g2,⟨_,_,_,_,g3,⟨_,_,_,_,g4,⟨_,_,_,_,g5,⟨rfl,rfl⟩,rfl,rfl⟩,rfl,rfl⟩,rfl,rfl⟩,rfl,rfl⟩,rfl,rfl⟩,rfl,rfl⟩:=h1
 obtain⟨a0,rfl,r0⟩:=op24 (k:=k+5) g0
 obtain⟨a1,rfl,r1⟩:=op3 (k:=k+5) g1
 obtain⟨a2,rfl,r2⟩:=op24 (k:=k+5) g2
 obtain⟨a3,rfl,r3⟩:=op24 (k:=k+5) g3
 obtain⟨a4,rfl,r4⟩:=op24 (k:=k+5) g4
 obtain⟨a5,rfl,r5⟩:=op60 (k:=k+0) g5
 exact⟨⟨a0,a1,a2,a3,a4,a5⟩,rfl,⟨r0,r1,r2,r3,r4,r5⟩⟩
theorem op27 {H:Type} {k:Nat} {ds:List D} {d:DataW H} (h:RelH Tryz.prog (k+8) 27 ds d):∃x:List wU,ds=[D.slice 6 (x.map encTBlock)]/\(x.length<=9223372036854775807/\∀y∈x,k31 y):=by
 obtain⟨l,rfl,hm,hl⟩:=k26 encTBlock (fun(y:wU)=>k31 y) 6 (show Tryz.prog.underlying 27=some (.slice 62)by kernel_rfl) (by kernel_rfl) h (fun x y hh=>by
  obtain⟨a,e,ha⟩:=op62 (k:=k+0) hh
  exact⟨a,mk_agg (by kernel_rfl) e,ha⟩)
 exact⟨l,rfl,⟨hm,hl⟩⟩
theorem dt4:dataT Tryz.prog 1 4=true:=by kernel_rfl
theorem dt26:dataT Tryz.prog 3 26=true:=by kernel_rfl
theorem dt27:dataT Tryz.prog 8 27=true:=by kernel_rfl
theorem own:ownKnob Tryz.prog.godebug=none:=by kernel_rfl
theorem laid:laidOutB Tryz.prog=true:=by kernel_rfl
end Go.Proofs.YtijdfglbhaedoaaGreat
namespace Go.Md
open Go Go.Bv
theorem u64w (n:Int):IntKind.u64.wrap n=n%18446744073709551616:=IntKind.wrap_u64 n
theorem u8w (n:Int):IntKind.u8.wrap n=n%256:=IntKind.wrap_u8 n
theorem k1x (k:IntKind) (a b:Int):ishr k a b=a/((2^min b.toNat k.bits:Nat):Int):=by
 unfold ishr
 rw[show(2:Int)^min b.toNat k.bits=((2^min b.toNat k.bits:Nat):Int)from(Int.natCast_pow 2 _).symm,Int.fdiv_eq_ediv_of_nonneg _ (Int.natCast_nonneg _)]
theorem kgx (a b:Int):ishl .u64 a b=(a*((2^min b.toNat 64:Nat):Int))%18446744073709551616:=by
 unfold ishl
 rw[u64w,show(2:Int)^min b.toNat IntKind.u64.bits=((2^min b.toNat 64:Nat):Int)by rw[show IntKind.u64.bits=64 from rfl];exact(Int.natCast_pow 2 _).symm]
theorem k22 (n:Nat) (h:n<18446744073709551616):(BitVec.ofInt 64 (n:Int)).toNat=n:=by
 rw[BitVec.toNat_ofInt]
 omega
theorem kdz (a b:Nat) (ha:a<18446744073709551616) (hb:b<18446744073709551616):iand .u64 a b=((a&&&b:Nat):Int):=by
 unfold iand
 rw[u64w]
 show(((BitVec.ofInt 64 a&&&BitVec.ofInt 64 b).toNat:Nat):Int)%_=_
 rw[BitVec.toNat_and,k22 a ha,k22 b hb]
 have:=Nat.and_le_left (n:=a) (m:=b)
 omega
theorem ior_nat (a b:Nat) (ha:a<18446744073709551616) (hb:b<18446744073709551616):ior .u64 a b=((a|||b:Nat):Int):=by
 unfold ior
 rw[u64w]
 show(((BitVec.ofInt 64 a|||BitVec.ofInt 64 b).toNat:Nat):Int)%_=_
 rw[BitVec.toNat_or,k22 a ha,k22 b hb]
 have:=Nat.or_lt_two_pow (x:=a) (y:=b) (n:=64) (by omega) (by omega)
 omega
theorem k1s (a:Int) (h:0<=a/\a<18446744073709551616):iand .u64 a 4294967295=a%4294967296:=by
 obtain⟨n,rfl⟩:=Int.eq_ofNat_of_zero_le h.1
 have:=kdz n 4294967295 (by omega) (by omega)
 rw[show((4294967295:Nat):Int)=4294967295 from rfl]at this
 rw[this,show(4294967295:Nat)=2^32-1 from rfl,Nat.and_two_pow_sub_one_eq_mod]
 exact Int.natCast_emod _ _
theorem kgy (a:Int) (h:0<=a/\a<18446744073709551616):iand .u64 a 1=a%2:=by
 obtain⟨n,rfl⟩:=Int.eq_ofNat_of_zero_le h.1
 have:=kdz n 1 (by omega) (by omega)
 rw[show((1:Nat):Int)=1 from rfl]at this
 rw[this,Nat.and_one_is_mod]
 exact Int.natCast_emod _ _
theorem ior_add' (a c k:Nat) (ha:a<2^k) (h:a+2^k*c<18446744073709551616):ior .u64 ((2^k*c:Nat):Int) a=((a+2^k*c:Nat):Int):=by
 rw[ior_nat _ _ (by omega) (by omega),<-Nat.two_pow_add_eq_or_of_lt ha,Nat.add_comm]
theorem ishr32 (a:Int):ishr .u64 a 32=a/4294967296:=k1x _ _ _
theorem ishr16 (a:Int):ishr .u64 a 16=a/65536:=k1x _ _ _
theorem ishr8 (a:Int):ishr .u64 a 8=a/256:=k1x _ _ _
theorem ishr1 (a:Int):ishr .u64 a 1=a/2:=k1x _ _ _
theorem kht (a b:Int) (ha:0<=a/\a<18446744073709551616) (hb:0<=b/\b<18446744073709551616):
  ((a/4294967296*(b/4294967296)+((a/4294967296*(b%4294967296)+a%4294967296*(b%4294967296)/4294967296)/4294967296))+((a/4294967296*(b%4294967296)+a%4294967296*(b%4294967296)/4294967296)%4294967296+a%4294967296*(b/4294967296))/4294967296)=a*b/18446744073709551616/\
  a%4294967296*(b%4294967296)<18446744073709551616/\a/4294967296*(b%4294967296)+a%4294967296*(b%4294967296)/4294967296<18446744073709551616/\
  a%4294967296*(b/4294967296)<18446744073709551616-4294967296/\a/4294967296*(b/4294967296)<18446744065119617026/\0<=a%4294967296*(b%4294967296)/\0<=a/4294967296*(b%4294967296)/\0<=a%4294967296*(b/4294967296)/\0<=a/4294967296*(b/4294967296):=by
 have h1:∀x y:Int,0<=x->x<=4294967295->0<=y->y<=4294967295->0<=x*y/\x*y<=18446744065119617025:=by
  intro x y h0 h1 h2 h3
  exact⟨Int.mul_nonneg h0 h2,by have:=Int.mul_le_mul h1 h3 h2 (by omega);omega⟩
 have a1:=h1 (a%4294967296) (b%4294967296) (by omega) (by omega) (by omega) (by omega)
 have a2:=h1 (a/4294967296) (b%4294967296) (by omega) (by omega) (by omega) (by omega)
 have a3:=h1 (a%4294967296) (b/4294967296) (by omega) (by omega) (by omega) (by omega)
 have a4:=h1 (a/4294967296) (b/4294967296) (by omega) (by omega) (by omega) (by omega)
 have e:a*b=a/4294967296*(b/4294967296)*18446744073709551616+(a/4294967296*(b%4294967296)+a%4294967296*(b/4294967296))*4294967296+a%4294967296*(b%4294967296):=by
  have ea:a=a/4294967296*4294967296+a%4294967296:=by omega
  have eb:b=b/4294967296*4294967296+b%4294967296:=by omega
  conv=>lhs;rw[ea,eb]
  generalize a/4294967296=x
  generalize a%4294967296=y
  generalize b/4294967296=z
  generalize b%4294967296=t
  grind
 generalize a%4294967296*(b%4294967296)=p0 at *
 generalize a/4294967296*(b%4294967296)=p1 at *
 generalize a%4294967296*(b/4294967296)=p2 at *
 generalize a/4294967296*(b/4294967296)=p3 at *
 generalize a*b=ab at *
 refine⟨?_,?_,?_,?_,?_,?_,?_,?_,?_⟩<;>omega
structure Half (U x a b Q:Int):Prop where
 hU:0<=U
 hUv:U<a*4294967296+b
 hx:0<=x/\x<4294967296
 ha:2147483648<=a/\a<4294967296
 hb:0<=b/\b<4294967296
 hQ:Q=(U*4294967296+x)/(a*4294967296+b)
theorem Half.q {U x a b Q:Int} (h:Half U x a b Q):0<=Q/\Q<4294967296/\Q*(a*4294967296+b)<=U*4294967296+x/\U*4294967296+x<(Q+1)*(a*4294967296+b):=by
 obtain⟨h1,h2,h3,h4,h5,h6⟩:=h
 have hv:0<a*4294967296+b:=by omega
 have e:=Int.emod_add_mul_ediv (U*4294967296+x) (a*4294967296+b)
 have l:=Int.emod_nonneg (U*4294967296+x) (by omega:a*4294967296+b≠0)
 have r:=Int.emod_lt_of_pos (U*4294967296+x) hv
 rw[<-h6]at e
 generalize hvv:a*4294967296+b=v at *
 have e2:(Q+1)*v=Q*v+v:=by grind
 have e3:v*Q=Q*v:=by grind
 have q0:0<=Q:=by
  rw[h6]
  exact Int.ediv_nonneg (by omega) (by omega)
 have q1:Q<4294967296:=by
  rw[h6]
  exact Int.ediv_lt_of_lt_mul hv (by omega)
 refine⟨q0,q1,by omega,by omega⟩
theorem Half.exit {U x a b Q q r:Int} (h:Half U x a b Q) (e:q*a+r=U) (hq:Q<=q) (h2:q*b<=r*4294967296+x):q=Q:=by
 obtain⟨q0,q1,q2,q3⟩:=h.q
 have h4:=h.ha
 have:q*(a*4294967296+b)<=U*4294967296+x:=by
  have:q*(a*4294967296+b)=q*a*4294967296+q*b:=by grind
  rw[this]
  generalize q*a=qa at *
  omega
 have h5:q<Q+1:=by
  have hv:0<a*4294967296+b:=by have:=h.hb;omega
  exact Int.lt_of_mul_lt_mul_right (by omega) (Int.le_of_lt hv)
 omega
theorem Half.down {U x a b Q q r:Int} (h:Half U x a b Q) (e:q*a+r=U) (h2:4294967296<=q∨r*4294967296+x<q*b):Q<=q-1:=by
 obtain⟨q0,q1,q2,q3⟩:=h.q
 rcases h2 with h2|h2
 ·omega
 ·have:U*4294967296+x<q*(a*4294967296+b):=by
   have:q*(a*4294967296+b)=q*a*4294967296+q*b:=by grind
   rw[this]
   generalize q*a=qa at *
   omega
  have h5:Q<q:=by
   have hv:0<a*4294967296+b:=by have:=h.hb;have:=h.ha;omega
   exact Int.lt_of_mul_lt_mul_right (a:=a*4294967296+b) (by omega) (Int.le_of_lt hv)
  omega
theorem Half.small {U x a b Q q r:Int} (h:Half U x a b Q) (e:q*a+r=U) (hr:4294967296<=r):q<4294967296:=by
 have h2:=h.hUv
 have h4:=h.ha
 have h5:=h.hb
 have:q*a<4294967296*a:=by generalize q*a=qa at *;omega
 exact Int.lt_of_mul_lt_mul_right this (by omega)
theorem Half.done {U x a b Q q r:Int} (h:Half U x a b Q) (e:q*a+r=U) (hq:Q<=q) (hr:4294967296<=r):q=Q:=by
 refine h.exit e hq ?_
 have h1:=h.small e hr
 obtain⟨q0,_⟩:=h.q
 have h5:=h.hb
 have h6:=h.hx
 have:q*b<=4294967296*4294967296:=Int.mul_le_mul (by omega) (by omega) (by omega) (by omega)
 omega
theorem Half.rest {U x a b Q:Int} (h:Half U x a b Q):(U*4294967296+x)-Q*(a*4294967296+b)=(U*4294967296+x)%(a*4294967296+b)/\0<=(U*4294967296+x)%(a*4294967296+b)/\(U*4294967296+x)%(a*4294967296+b)<a*4294967296+b:=by
 have hv:0<a*4294967296+b:=by have:=h.hb;have:=h.ha;omega
 have e:=Int.emod_add_mul_ediv (U*4294967296+x) (a*4294967296+b)
 rw[<-h.hQ]at e
 have:=Int.mul_comm (a*4294967296+b) Q
 exact⟨by omega,Int.emod_nonneg _ (by omega),Int.emod_lt_of_pos _ hv⟩
theorem kel {N y p U un1 un0 Q1 R1 Q0 R0:Int} (hp:0<p) (hy:0<y) (hN:N*p=U*18446744073709551616+un1*4294967296+un0) (h1:U*4294967296+un1-Q1*(y*p)=R1) (h0:R1*4294967296+un0-Q0*(y*p)=R0)
  (hr:0<=R0/\R0<y*p):Q1*4294967296+Q0=N/y/\R0/p=N%y:=by
 have e:N*p=(Q1*4294967296+Q0)*(y*p)+R0:=by
  rw[hN]
  have:(Q1*4294967296+Q0)*(y*p)=Q1*(y*p)*4294967296+Q0*(y*p):=by grind
  rw[this]
  generalize Q1*(y*p)=a at *
  generalize Q0*(y*p)=b at *
  omega
 have e2:R0=(N-(Q1*4294967296+Q0)*y)*p:=by grind
 have h3:0<=N-(Q1*4294967296+Q0)*y:=by
  rcases Int.lt_or_le (N-(Q1*4294967296+Q0)*y) 0 with h|h
  ·exfalso
   have:(N-(Q1*4294967296+Q0)*y)*p<0:=Int.mul_neg_of_neg_of_pos h hp
   omega
  ·exact h
 have h4:N-(Q1*4294967296+Q0)*y<y:=by
  refine Int.lt_of_mul_lt_mul_right (a:=p) ?_ (Int.le_of_lt hp)
  omega
 have e3:N=(N-(Q1*4294967296+Q0)*y)+y*(Q1*4294967296+Q0):=by grind
 constructor
 ·conv=>rhs;rw[e3]
  rw[Int.add_mul_ediv_left _ _ (by omega),Int.ediv_eq_zero_of_lt h3 h4]
  omega
 ·rw[e2,Int.mul_ediv_cancel _ (by omega)]
  conv=>rhs;rw[e3]
  rw[Int.add_mul_emod_self_left,Int.emod_eq_of_lt h3 h4]
end Go.Md
namespace Go.Md
open Go Go.Bv
theorem ix_nat {α:Type} [Inhabited α] (l:List α) (i:Int) (h0:0<=i) (h1:i<(l.length:Int)):ix l i=l[i.toNat]'(by omega):=by
 have:i.toNat<l.length:=by omega
 simp[ix,this]
theorem ix_mem {α:Type} [Inhabited α] (l:List α) (i:Int) (h0:0<=i) (h1:i<(l.length:Int)):ix l i∈l:=by
 rw[ix_nat l i h0 h1];exact List.getElem_mem _
theorem inc (i n:Int) (h0:0<=i) (h:i<n) (hn:n<=9223372036854775807):IntKind.i64.wrap (i+1)=i+1:=kp _ (by omega) (by omega)
theorem wi (n:Int) (h0: -9223372036854775808<=n) (h:n<=9223372036854775807):IntKind.i64.wrap n=n:=kp n h0 (by omega)
theorem wu (n:Int) (h0:0<=n) (h:n<=18446744073709551615):IntKind.u64.wrap n=n:=wrap_u64 n h0 (by omega)
theorem tdiv_nn (a b:Int) (h:0<=a):Int.tdiv a b=a/b:=Int.tdiv_eq_ediv_of_nonneg h
theorem tmod_nn (a b:Int) (h:0<=a):Int.tmod a b=a%b:=Int.tmod_eq_emod_of_nonneg h
theorem ki {α:Type} [Inhabited α] (l:List α) (i:Int) (h0:0<=i) (h1:i<(l.length:Int)):l.take (i+1).toNat=l.take i.toNat++[ix l i]:=by
 rw[ix_nat l i h0 h1,show(i+1).toNat=i.toNat+1 by omega,List.take_succ_eq_append_getElem (by omega)]
theorem drop_ix {α:Type} [Inhabited α] (l:List α) (i:Int) (h0:0<=i) (h1:i<(l.length:Int)):l.drop i.toNat=ix l i::l.drop (i+1).toNat:=by
 rw[ix_nat l i h0 h1,show(i+1).toNat=i.toNat+1 by omega]
 exact List.drop_eq_getElem_cons (by omega)
theorem ke1 (a m:Int):∀k:Nat,(a%m)^k%m=a^k%m
 |0=>by simp
 |k+1=>by rw[Int.pow_succ,Int.pow_succ,Int.mul_emod,ke1 a m k,Int.emod_emod_of_dvd _ (Int.dvd_refl _),<-Int.mul_emod]
abbrev U64 (n:Int):Prop:=0<=n/\n<18446744073709551616
abbrev By (l:List Int):Prop:=∀x∈l,0<=x/\x<256
abbrev Us (l:List Int):Prop:=∀x∈l,0<=x/\x<18446744073709551616
def dig:Nat->Int->List Int
 |0,_=>[]
 |k+1,n=>n%256::dig k (n/256)
def val:List Int->Int
 |[]=>0
 |x::r=>x+256*val r
@[simp] theorem k5c:∀(k:Nat) (n:Int),(dig k n).length=k
 |0,_=>rfl
 |k+1,n=>by simp[dig,k5c k]
def len4 (n:Int):Int:=if n<0∨4294967295<n then 0 else n
def encL (l:List Int):List Int:=dig 4 (len4 l.length)++l.flatMap (dig 8)
def encB (l:List Int):List Int:=dig 4 (len4 l.length)++l
theorem kci (l:List Int):(l.flatMap (dig 8)).length=8*l.length:=by
 induction l with
 |nil=>rfl
 |cons x r ih=>rw[List.flatMap_cons,List.length_append,ih,k5c,List.length_cons];omega
@[simp] theorem ki8 (l:List Int):(encL l).length=4+8*l.length:=by rw[encL,List.length_append,kci,k5c]
@[simp] theorem ki7 (l:List Int):(encB l).length=4+l.length:=by simp[encB]
theorem By.append {a b:List Int} (ha:By a) (hb:By b):By (a++b):=fun x hx=>(List.mem_append.1 hx).elim (ha x) (hb x)
theorem By.take {l:List Int} (h:By l) (n:Nat):By (l.take n):=fun x hx=>h x (List.mem_of_mem_take hx)
theorem By.drop {l:List Int} (h:By l) (n:Nat):By (l.drop n):=fun x hx=>h x (List.mem_of_mem_drop hx)
theorem By.us {l:List Int} (h:By l):Us l:=fun x hx=>by have:=h x hx;omega
end Go.Md
namespace Go.Md
open Go Go.Bv
def len64 (x:Int):Int:=if x=0 then 0 else(Nat.log2 x.toNat+1:Nat)
theorem k41 (x:Int) (k:Nat) (h:((2^k:Nat):Int)<=x):len64 (x/((2^k:Nat):Int))+k=len64 x:=by
 obtain⟨n,rfl⟩:=Int.eq_ofNat_of_zero_le (by have:=Nat.two_pow_pos k;omega:0<=x)
 have hp:0<2^k:=Nat.two_pow_pos k
 have hn:2^k<=n:=by omega
 have e:((n:Int)/((2^k:Nat):Int))=((n/2^k:Nat):Int):=(Int.natCast_ediv _ _).symm
 have h1:0<n/2^k:=Nat.div_pos hn hp
 unfold len64
 rw[e,if_neg (by omega),if_neg (by omega),Int.toNat_natCast,Int.toNat_natCast]
 have:Nat.log2 n=Nat.log2 (n/2^k)+k:=by
  rw[Nat.log2_eq_iff (by omega)]
  have a:=Nat.log2_self_le (n:=n/2^k) (by omega)
  have b:=Nat.lt_log2_self (n:=n/2^k)
  rw[Nat.le_div_iff_mul_le hp]at a
  rw[Nat.div_lt_iff_lt_mul hp]at b
  constructor
  ·rw[Nat.pow_add];exact a
  ·rw[show Nat.log2 (n/2^k)+k+1=Nat.log2 (n/2^k)+1+k by omega,Nat.pow_add];exact b
 omega
theorem k9f (y:Int) (h:0<y/\y<18446744073709551616):∃s:Nat,64-len64 y=(s:Int)/\s<=63/\9223372036854775808<=y*((2^s:Nat):Int)/\y*((2^s:Nat):Int)<18446744073709551616:=by
 obtain⟨n,rfl⟩:=Int.eq_ofNat_of_zero_le (by omega:0<=y)
 have l:Nat.log2 n<64:=(Nat.log2_lt (by omega)).2 (by omega)
 have a:=Nat.log2_self_le (n:=n) (by omega)
 have b:=Nat.lt_log2_self (n:=n)
 refine⟨63-Nat.log2 n,?_,by omega,?_,?_⟩
 ·unfold len64
  rw[if_neg (by omega),Int.toNat_natCast]
  omega
 ·have:2^63<=n*2^(63-Nat.log2 n):=by
   rw[show(63:Nat)=Nat.log2 n+(63-Nat.log2 n)by omega,Nat.pow_add,show Nat.log2 n+(63-Nat.log2 n)-Nat.log2 n=63-Nat.log2 n by omega]
   exact Nat.mul_le_mul_right _ a
  rw[<-Int.natCast_mul]
  generalize n*2^(63-Nat.log2 n)=m at *
  omega
 ·have:n*2^(63-Nat.log2 n)<2^64:=by
   rw[show(64:Nat)=Nat.log2 n+1+(63-Nat.log2 n)by omega,Nat.pow_add]
   exact Nat.mul_lt_mul_of_pos_right b (Nat.two_pow_pos _)
  rw[<-Int.natCast_mul]
  generalize n*2^(63-Nat.log2 n)=m at *
  omega
def tab8:ByteArray:=⟨#[0,1,2,2,3,3,3,3,4,4,4,4,4,4,4,4,5,5,5,5,5,5,5,5,5,5,5,5,5,5,5,5,6,6,6,6,6,6,6,6,6,6,6,6,6,6,6,6,6,6,6,6,6,6,6,6,6,6,6,6,6,6,6,6,7,7,7,7,7,7,7,7,7,7,7,7,7,7,7,7,7,7,7,7,7,7,7,7,7,7,7,7,7,7,7,7,7,7,7,7,7,7,7,7,7,7,7,7,7,7,7,7,7,7,7,7,7,7,7,7,7,7,7,7,7,7,7,7,8,8,8,8,8,8,8,8,8,8,8,8,8,8,8,8,8,8,8,8,8,8,8,8,8,8,8,8,8,8,8,8,8,8,8,8,8,8,8,8,8,8,8,8,8,8,8,8,8,8,8,8,8,8,8,8,8,8,8,8,8,8,8,8,8,8,8,8,8,8,8,8,8,8,8,8,8,8,8,8,8,8,8,8,8,8,8,8,8,8,8,8,8,8,8,8,8,8,8,8,8,8,8,8,8,8,8,8,8,8,8,8,8,8,8,8,8,8,8,8,8,8,8,8,8,8,8,8]⟩
theorem khm:∀b:Nat,b<256->Cv.byteAt tab8 (b:Int)=len64 (b:Int):=by decide +kernel
theorem kca (x:Int) (h:0<=x/\x<256):Cv.byteAt tab8 x=len64 x:=by
 obtain⟨n,rfl⟩:=Int.eq_ofNat_of_zero_le h.1
 exact khm n (by omega)
theorem kef (x:Int) (h:0<=x/\x<256):0<=len64 x/\len64 x<=8:=by
 rw[<-kca x h]
 obtain⟨n,rfl⟩:=Int.eq_ofNat_of_zero_le h.1
 have:∀b:Nat,b<256->0<=Cv.byteAt tab8 (b:Int)/\Cv.byteAt tab8 (b:Int)<=8:=by decide +kernel
 exact this n (by omega)
theorem kfv:tab8.size=256:=by decide +kernel
end Go.Md
namespace Go.Md
open Go Go.Bv Go.Cv Go.Md Go.RowKit
section
variable {α β:Type}
def AllI (f:α->Bool) (l:List α) (i:Int):Prop:=0<=i/\i<=l.length/\∀x∈l.take i.toNat,f x=true
theorem AllI.next [Inhabited α] {f:α->Bool} {l:List α} {i:Int} (h:AllI f l i) (hh:i<l.length) (hl:(l.length:Int)<=9223372036854775807) (hf:f (ix l i)=true):
  AllI f l (IntKind.i64.wrap (i+1))/\(l.length-IntKind.i64.wrap (i+1)).toNat<(l.length-i).toNat:=by
 obtain⟨g0,g1,g2⟩:=h
 rw[inc i l.length g0 hh hl]
 refine⟨⟨by omega,by omega,?_⟩,by omega⟩
 rw[ki l i g0 hh]
 intro x hx
 rcases List.mem_append.1 hx with hx|hx
 ·exact g2 x hx
 ·have:x=ix l i:=by simpa using hx
  rw[this];exact hf
theorem AllI.bad [Inhabited α] {f:α->Bool} {l:List α} {i:Int} (h:AllI f l i) (hh:i<l.length) (hf:f (ix l i)=false):l.all f=false:=
 List.all_eq_false.2 ⟨ix l i,Md.ix_mem l i h.1 hh,by simp[hf]⟩
theorem AllI.done {f:α->Bool} {l:List α} {i:Int} (h:AllI f l i) (hh:¬i<l.length):l.all f=true:=by
 obtain⟨g0,g1,g2⟩:=h
 rw[List.take_of_length_le (by omega)]at g2
 exact List.all_eq_true.2 g2
def FoldI (f:β->α->β) (z:β) (l:List α) (i:Int) (s:β):Prop:=0<=i/\i<=l.length/\s=(l.take i.toNat).foldl f z
theorem FoldI.next [Inhabited α] {f:β->α->β} {z:β} {l:List α} {i:Int} {s s' :β} (h:FoldI f z l i s) (hh:i<l.length) (hl:(l.length:Int)<=9223372036854775807) (hs:s' =f s (ix l i)):
  FoldI f z l (IntKind.i64.wrap (i+1)) s'/\(l.length-IntKind.i64.wrap (i+1)).toNat<(l.length-i).toNat:=by
 obtain⟨g0,g1,g2⟩:=h
 rw[inc i l.length g0 hh hl]
 refine⟨⟨by omega,by omega,?_⟩,by omega⟩
 rw[ki l i g0 hh,List.foldl_append,<-g2,hs]
 rfl
theorem FoldI.done {f:β->α->β} {z:β} {l:List α} {i:Int} {s:β} (h:FoldI f z l i s) (hh:¬i<l.length):s=l.foldl f z:=by
 obtain⟨g0,g1,g2⟩:=h
 rwa [List.take_of_length_le (by omega)]at g2
def FlatI (f:α->List β) (z:List β) (l:List α) (i:Int) (s:List β):Prop:=0<=i/\i<=l.length/\s=z++(l.take i.toNat).flatMap f
theorem FlatI.next [Inhabited α] {f:α->List β} {z:List β} {l:List α} {i:Int} {s s' :List β} (h:FlatI f z l i s) (hh:i<l.length) (hl:(l.length:Int)<=9223372036854775807) (hs:s' =s++f (ix l i)):
  FlatI f z l (IntKind.i64.wrap (i+1)) s'/\(l.length-IntKind.i64.wrap (i+1)).toNat<(l.length-i).toNat:=by
 obtain⟨g0,g1,g2⟩:=h
 rw[inc i l.length g0 hh hl]
 refine⟨⟨by omega,by omega,?_⟩,by omega⟩
 rw[ki l i g0 hh,List.flatMap_append,hs,g2]
 simp
theorem FlatI.done {f:α->List β} {z:List β} {l:List α} {i:Int} {s:List β} (h:FlatI f z l i s) (hh:¬i<l.length):s=z++l.flatMap f:=by
 obtain⟨g0,g1,g2⟩:=h
 rwa [List.take_of_length_le (by omega)]at g2
theorem FlatI.len {f:α->List β} {z:List β} {l:List α} {i:Int} {s:List β} (h:FlatI f z l i s) (k:Nat) (hk:∀x∈l,(f x).length<=k):s.length<=z.length+k*l.length:=by
 obtain⟨g0,g1,g2⟩:=h
 have key:∀(m:List α),(∀x∈m,(f x).length<=k)->(m.flatMap f).length<=k*m.length:=by
  intro m
  induction m with
  |nil=>simp
  |cons a m ih=>
   intro hm
   have h1:=ih (fun x hx=>hm x (by simp[hx]))
   have h2:=hm a (by simp)
   rw[List.flatMap_cons,List.length_append,List.length_cons,Nat.mul_add]
   omega
 have h1:=key (l.take i.toNat) (fun x hx=>hk x (List.mem_of_mem_take hx))
 have h2:k*(l.take i.toNat).length<=k*l.length:=Nat.mul_le_mul_left _ (by rw[List.length_take];omega)
 rw[g2,List.length_append]
 omega
def MapI (f:α->β) (l:List α) (i:Int) (s:List β):Prop:=0<=i/\i<=l.length/\s=(l.take i.toNat).map f
theorem MapI.next [Inhabited α] {f:α->β} {l:List α} {i:Int} {s s' :List β} (h:MapI f l i s) (hh:i<l.length) (hl:(l.length:Int)<=9223372036854775807) (hs:s' =s++[f (ix l i)]):
  MapI f l (IntKind.i64.wrap (i+1)) s'/\(l.length-IntKind.i64.wrap (i+1)).toNat<(l.length-i).toNat:=by
 obtain⟨g0,g1,g2⟩:=h
 rw[inc i l.length g0 hh hl]
 refine⟨⟨by omega,by omega,?_⟩,by omega⟩
 rw[ki l i g0 hh,List.map_append,hs,g2]
 simp
theorem MapI.done {f:α->β} {l:List α} {i:Int} {s:List β} (h:MapI f l i s) (hh:¬i<l.length):s=l.map f:=by
 obtain⟨g0,g1,g2⟩:=h
 rwa [List.take_of_length_le (by omega)]at g2
theorem MapI.len {f:α->β} {l:List α} {i:Int} {s:List β} (h:MapI f l i s):s.length=i.toNat:=by
 obtain⟨g0,g1,g2⟩:=h
 rw[g2,List.length_map,List.length_take];omega
def EqI [Inhabited α] (f:α->α->Bool) (l m:List α) (i:Int):Prop:=0<=i/\i<=l.length/\∀j:Nat,(j:Int)<i->f (ix l j) (ix m j)=true
theorem EqI.next [Inhabited α] {f:α->α->Bool} {l m:List α} {i:Int} (h:EqI f l m i) (hh:i<l.length) (hl:(l.length:Int)<=9223372036854775807) (hf:f (ix l i) (ix m i)=true):
  EqI f l m (IntKind.i64.wrap (i+1))/\(l.length-IntKind.i64.wrap (i+1)).toNat<(l.length-i).toNat:=by
 obtain⟨g0,g1,g2⟩:=h
 rw[inc i l.length g0 hh hl]
 refine⟨⟨by omega,by omega,fun j hj=> ?_⟩,by omega⟩
 by_cases hji:(j:Int)=i
 ·rw[hji];exact hf
 ·exact g2 j (by omega)
def eqB (f:α->α->Bool):List α->List α->Bool
 |[],[]=>true
 |a::l,b::m=>f a b&&eqB f l m
 |_,_=>false
theorem eqB_iff [Inhabited α] {f:α->α->Bool}:∀{l m:List α},eqB f l m=true↔l.length=m.length/\∀j:Nat,j<l.length->f (ix l (j:Int)) (ix m (j:Int))=true
 |[],[]=>by simp[eqB]
 |[],_::_=>by simp[eqB]
 |_::_,[]=>by simp[eqB]
 |a::l,b::m=>by
  have e:∀(a:α) (l:List α) (j:Nat),j<l.length->ix (a::l) ((j+1:Nat):Int)=ix l (j:Int):=by
   intro a l j hj
   rw[ix_nat _ _ (by omega) (by simp;omega),ix_nat _ _ (by omega) (by omega)]
   rfl
  have e0:∀(a:α) (l:List α),ix (a::l) ((0:Nat):Int)=a:=fun a l=>by rw[ix_nat _ _ (by omega) (by simp)];rfl
  simp only[eqB,Bool.and_eq_true,eqB_iff,List.length_cons]
  constructor
  ·rintro ⟨h1,h2,h3⟩
   refine⟨by omega,fun j hj=> ?_⟩
   cases j with
   |zero=>rw[e0,e0];exact h1
   |succ j=>rw[e a l j (by omega),e b m j (by omega)];exact h3 j (by omega)
  ·rintro ⟨h1,h2⟩
   have h3:=h2 0 (by omega)
   rw[e0,e0]at h3
   refine⟨h3,by omega,fun j hj=> ?_⟩
   have:=h2 (j+1) (by omega)
   rwa [e a l j (by omega),e b m j (by omega)]at this
theorem EqI.bad [Inhabited α] {f:α->α->Bool} {l m:List α} {i:Int} (h:EqI f l m i) (hh:i<l.length) (hf:f (ix l i) (ix m i)=false):eqB f l m=false:=by
 cases hq:eqB f l m with
 |false=>rfl
 |true=>
  have h0:=h.1
  have:=(eqB_iff.1 hq).2 i.toNat (by omega)
  rw[Int.toNat_of_nonneg h.1,hf]at this
  cases this
theorem EqI.done [Inhabited α] {f:α->α->Bool} {l m:List α} {i:Int} (h:EqI f l m i) (hlm:l.length=m.length) (hh:¬i<l.length):eqB f l m=true:=
 eqB_iff.2 ⟨hlm,fun j hj=>h.2.2 j (by omega)⟩
end
@[simp] theorem kib {α:Type} (p:α->Bool):mHas p []=false:=rfl
@[simp] theorem kic {α β:Type} (p:α->Bool) (z:β) (vs:List β):mVal p [] vs z=z:=rfl
theorem kdr (a:Int) (h:0<=a/\a<4611686018427387904):iand .i64 a 1=a%2:=by
 obtain⟨n,rfl⟩:=Int.eq_ofNat_of_zero_le h.1
 unfold iand
 have e1:(BitVec.ofInt IntKind.i64.bits (n:Int)).toNat=n:=k22 n (by omega)
 have e2:(BitVec.ofInt IntKind.i64.bits (1:Int)).toNat=1:=k22 1 (by omega)
 rw[BitVec.toNat_and,e1,e2,Nat.and_one_is_mod]
 rw[wi _ (by omega) (by omega)]
 omega
end Go.Md
namespace Go.Proofs.YtijdfglbhaedoaaGreat
open Go Go.Bv Go.Cv Go.Md Go.RowKit
open Go.IntKind (i64 u64)
def rc (r i:Int):Int:=(3*r+i+1)*11400714819323198485%18446744073709551616%18446744069414584321
def mixS (s:wz):wz:=⟨(s.a0+((s.a0+s.a1)%18446744069414584321+s.a2)%18446744069414584321)%18446744069414584321,(s.a1+((s.a0+s.a1)%18446744069414584321+s.a2)%18446744069414584321)%18446744069414584321,(s.a2+((s.a0+s.a1)%18446744069414584321+s.a2)%18446744069414584321)%18446744069414584321⟩
def pw (a e:Int):Int:=a^e.toNat%18446744069414584321
def rnd (s:wz) (r:Int):wz:=mixS ⟨pw ((s.a0+rc r 0)%18446744069414584321) 7,pw ((s.a1+rc r 1)%18446744069414584321) 7,pw ((s.a2+rc r 2)%18446744069414584321) 7⟩
def rnds:Nat->wz->wz
 |0,s=>s
 |n+1,s=>rnd (rnds n s) n
def permS (s:wz):wz:=rnds 8 s
def absL:List Int->wz->wz
 |[],s=>s
 |[x],s=>permS ⟨(s.a0+x)%18446744069414584321,s.a1,s.a2⟩
 |x::y::r,s=>absL r (permS ⟨(s.a0+x)%18446744069414584321,(s.a1+y)%18446744069414584321,s.a2⟩)
def absI (label:Int) (l:List Int):wz:=⟨0,0,(label*65536%18446744069414584321+(l.length:Int))%18446744069414584321⟩
def absS (label:Int) (l:List Int):wz:=if l=[]then permS (absI label l)else absL l (absI label l)
def hashS (label:Int) (l:List Int):Int:=(absS label l).a0
def S3 (s:wz):Prop:=U64 s.a0/\U64 s.a1/\U64 s.a2
theorem S3m {a b c:Int} (ha:U64 a) (hb:U64 b) (hc:U64 c):S3 ⟨a,b,c⟩:=⟨ha,hb,hc⟩
theorem k1t (s:wz):S3 (permS s):=by
 show S3 (rnd _ _)
 unfold rnd mixS S3
 dsimp only
 omega
theorem k9i:∀(l:List Int) (s:wz),S3 s->S3 (absL l s)
 |[],_,h=>h
 |[_],_,_=>k1t _
 |_::_::r,_,_=>k9i r _ (k1t _)
theorem k2n (label:Int) (l:List Int):U64 (hashS label l):=by
 unfold hashS absS
 split
 ·exact(k1t _).1
 ·rename_i h
  match l,h with
  |[_],_=>exact(k1t _).1
  |_::_::r,_=>exact(k9i r _ (k1t _)).1
theorem k7l (s:wz):(permS s).a0<18446744069414584321:=by
 show(rnd _ _).a0<_
 unfold rnd mixS
 dsimp only
 omega
theorem absL_lt:∀(l:List Int) (s:wz),l≠[]->(absL l s).a0<18446744069414584321
 |[],_,h=>(h rfl).elim
 |[_],_,_=>k7l _
 |[_,_],_,_=>k7l _
 |_::_::x::r,s,_=>absL_lt (x::r) _ (by simp)
theorem k3i (label:Int) (l:List Int):hashS label l<18446744069414584321:=by
 unfold hashS absS
 split
 ·exact k7l _
 ·rename_i h;exact absL_lt _ _ h
def idxI (l:List Int) (v:Int):Int:=if v∈l then(l.idxOf v:Int)else -1
def vMarks (l:List Int):Bool:=decide (l.length<=4)&&l.all (fun x=>decide (x<18446744069414584321))&&decide l.Nodup
def vPoint (a b:Int):Bool:=decide (a<18446744069414584321)&&(decide (b<18446744069414584321)&&(a !=0||b !=0))
def vOut (x:wAP):Bool:=decide (x.wm<18446744069414584321)&&vPoint x.wAE x.wAF&&decide (x.wv.length=3)&&x.wv.all (fun n=>decide (n<18446744069414584321))
def vOuts (l:List wAP):Bool:=decide (l.length<=4)&&l.all vOut
def vAmounts (t:wx):Bool:=decide (t.wP<=4294967295)&&decide (t.wd<=4294967295)&&decide (t.Fee<=4294967295)&&decide (t.wo<18446744069414584321)&&decide (t.wc<18446744069414584321)&&
 (if 0<t.wP then t.wd==0 else !t.wK.isEmpty&&t.wc==0&&(decide (0<t.wd)||t.wo==0))
def vRest (t:wx):Bool:=decide (t.wAO<18446744069414584321)&&decide (0<=t.wAD)&&decide (t.wAD<=1048576)
def validE (t:wx):Int:=if vMarks t.wK&&vOuts t.wN&&vAmounts t&&vRest t then(if t.wAQ.length<=1048576 then 0 else 3)else 1
theorem kdx (t:wx):vAmounts t=true↔t.wP<=4294967295/\t.wd<=4294967295/\t.Fee<=4294967295/\t.wo<18446744069414584321/\t.wc<18446744069414584321/\(0<t.wP->t.wd=0)/\(¬0<t.wP->t.wK≠[]/\t.wc=0/\(0<t.wd∨t.wo=0)):=by
 unfold vAmounts
 by_cases h:0<t.wP
 ·simp[h,and_assoc]
 ·simp[h,and_assoc]
structure OR (x:wAP):Prop where
 c:U64 x.wm
 p0:U64 x.wAE
 p1:U64 x.wAF
 ci:Us x.wv
structure TR (t:wx):Prop where
 a:U64 t.wAO
 m:Us t.wK
 o:∀x∈t.wN,OR x
 d:U64 t.wP
 w:U64 t.wd
 f:U64 t.Fee
 ac:U64 t.wo
 n:U64 t.wc
 e: -9223372036854775808<=t.wAD/\t.wAD<=9223372036854775807
 p:By t.wAQ
def encO (x:wAP):List Int:=dig 8 x.wm++dig 8 x.wAE++dig 8 x.wAF++encL x.wv
def encT (t:wx) (p:List Int):List Int:=dig 8 t.wAO++encL t.wK++dig 4 (len4 t.wN.length)++t.wN.flatMap encO++dig 8 t.wP++dig 8 t.wd++dig 8 t.Fee++dig 8 t.wo++dig 8 t.wc++dig 4 (len4 t.wAD)++encB p
def smallB (t:wx) (p:Int):Bool:=decide (t.wK.length<=10)&&decide (t.wN.length<=10)&&t.wN.all (fun x=>decide (x.wv.length<=10))&&decide ((t.wAQ.length:Int)<=p)
structure TL (t:wx):Prop where
 m:t.wK.length<=4294967295
 o:t.wN.length<=4294967295
 c:∀x∈t.wN,x.wv.length<=4294967295
 p:t.wAQ.length<=4294967295
structure VO (x:wAP):Prop where
 c:x.wm<18446744069414584321
 p:vPoint x.wAE x.wAF=true
 l:x.wv.length=3
 ci:∀n∈x.wv,n<18446744069414584321
theorem k83 (x:wAP):vOut x=true↔VO x:=by
 unfold vOut
 simp only[Bool.and_eq_true,decide_eq_true_eq,List.all_eq_true]
 exact⟨fun h=>⟨h.1.1.1,h.1.1.2,h.1.2,h.2⟩,fun h=>⟨⟨⟨h.c,h.p⟩,h.l⟩,h.ci⟩⟩
structure VT (t:wx):Prop where
 ml:t.wK.length<=4
 m:∀x∈t.wK,x<18446744069414584321
 mn:t.wK.Nodup
 ol:t.wN.length<=4
 o:∀x∈t.wN,VO x
 am:vAmounts t=true
 re:vRest t=true
 pl:t.wAQ.length<=1048576
theorem k7e (t:wx):validE t=0↔VT t:=by
 unfold validE
 constructor
 ·intro h
  split at h
  ·rename_i h1
   split at h
   ·rename_i h2
    simp only[Bool.and_eq_true,vMarks,vOuts,decide_eq_true_eq,List.all_eq_true]at h1
    exact⟨h1.1.1.1.1.1,h1.1.1.1.1.2,h1.1.1.1.2,h1.1.1.2.1,fun x hx=>(k83 x).1 (h1.1.1.2.2 x hx),h1.1.2,h1.2,h2⟩
   ·simp at h
  ·simp at h
 ·intro h
  have:(vMarks t.wK&&vOuts t.wN&&vAmounts t&&vRest t)=true:=by
   simp only[Bool.and_eq_true,vMarks,vOuts,decide_eq_true_eq,List.all_eq_true]
   exact⟨⟨⟨⟨⟨h.ml,h.m⟩,h.mn⟩,h.ol,fun x hx=>(k83 x).2 (h.o x hx)⟩,h.am⟩,h.re⟩
  rw[if_pos this,if_pos h.pl]
structure RD where
 n:Int
 ok:Bool
 pos:Int
 fail:Bool
structure RL where
 l:List Int
 pos:Int
 fail:Bool
structure RdOk (b:List Int) (pos:Int):Prop where
 by_:By b
 len:b.length<=137438953472
 pos0:0<=pos
 pos1:pos<=b.length
def rdD (b:List Int) (pos:Int) (f:Bool) (size:Int):RD:=
 if f=true∨(b.length:Int)-pos<size then⟨0,false,pos,true⟩else⟨val ((b.drop pos.toNat).take size.toNat),true,pos+size,false⟩
def rdI (b:List Int) (pos:Int) (f:Bool) (m:Int):RD:=
 if(rdD b pos f 4).ok=false∨m<(rdD b pos f 4).n then⟨0,false,(rdD b pos f 4).pos,true⟩else rdD b pos f 4
def rdB (b:List Int) (pos:Int) (f:Bool) (m:Int):RL:=
 if(rdI b pos f m).fail=true∨(b.length:Int)-(rdI b pos f m).pos<(rdI b pos f m).n then⟨[],(rdI b pos f m).pos,true⟩else⟨(b.take ((rdI b pos f m).pos+(rdI b pos f m).n).toNat).drop (rdI b pos f m).pos.toNat,(rdI b pos f m).pos+(rdI b pos f m).n,false⟩
def nums:Nat->List Int->List Int
 |0,_=>[]
 |k+1,b=>val (b.take 8)::nums k (b.drop 8)
@[simp] theorem ke4:∀(k:Nat) (b:List Int),(nums k b).length=k
 |0,_=>rfl
 |k+1,b=>by simp[nums,ke4 k]
section
variable {b:List Int} {pos m p:Int} {f:Bool}
end
structure Enc (t:wx) (b:List Int):Prop where
 r:TR t
 v:VT t
 e:encT t t.wAQ=b
open Classical in
theorem Enc.us {t:wx} {b:List Int} (h:Enc t b):t.wAO<=18446744069414584320/\t.wP<=4294967295/\t.wd<=4294967295/\t.Fee<=4294967295/\t.wo<=18446744069414584320/\t.wc<=18446744069414584320/\0<=t.wAD/\t.wAD<=1048576:=by
 have h1:=(kdx t).1 h.v.am
 have h2:=h.v.re
 unfold vRest at h2
 simp only[Bool.and_eq_true,decide_eq_true_eq]at h2
 omega
theorem VO.us {x:wAP} (h:VO x):x.wm<=18446744069414584320/\x.wAE<=18446744069414584320/\x.wAF<=18446744069414584320:=by
 have h1:=h.c
 have h2:=h.p
 unfold vPoint at h2
 simp only[Bool.and_eq_true,decide_eq_true_eq]at h2
 omega
structure TD (t:wx):Prop where
 r:TR t
 l:TL t
 o:t.wN.length<=1048576
 c:∀x∈t.wN,x.wv.length<=1024
def sameT (a b:wx):Bool:=decide (a.wN.length=b.wN.length)&&a.wAD==b.wAD&&decide (a.wN.map (·.wv.length)=b.wN.map (·.wv.length))&&decide (encT a a.wAQ=encT b b.wAQ)
@[simp] theorem ki9 (a:wx):sameT a a=true:=by simp[sameT]
structure TK where
 n:Int
 r:List Int
 ok:Bool
structure TKL where
 l:List Int
 r:List Int
 ok:Bool
section
variable {b r:List Int} {n m:Int}
end
structure RB where
 l:List Int
 b:List Int
 f:Bool
structure RN where
 n:Int
 b:List Int
 f:Bool
def tkB (b:List Int) (f:Bool) (k:Int):RB:=if f=true∨(b.length:Int)<k then⟨[],b,true⟩else⟨b.take k.toNat,b.drop k.toNat,false⟩
section
variable {b r:List Int} {f:Bool} {k m n:Int}
end
def allB (l:List Int):Bool:=l.all (fun x=>decide (x<18446744069414584321))
def keyB (ns l:List Int):ByteArray:=strOfNums (ns.flatMap (dig 8)++l.flatMap (dig 8))
structure OrOk (ks:List ByteArray) (vs:List Int) (qs:List wF):Prop where
 len:ks.length=vs.length
 rng:∀v∈vs,0<=v/\v<qs.length
def pk (ideal:Bool) (qs:List wF) (ks:List ByteArray) (vs:List Int) (label:Int) (l:List Int):Option Int:=
 if allB l=true then(if mHas (BEq.beq (keyB [label] l)) ks=true then some (ix qs (mVal (BEq.beq (keyB [label] l)) ks vs 0)).wAW else if ideal=true then none else some (hashS label l))else none
end Go.Proofs.YtijdfglbhaedoaaGreat
namespace Go.Md
open Go Go.Bv Go.Cv Go.Md Go.RowKit
section
variable {g:List Int} {a b i j:Int} {d:Array Int}
def chS (g:List Int) (hi first root:Int):Int:=if 2*root+2<hi/\ix g (first+(2*root+1))<ix g (first+(2*root+1)+1)then 2*root+2 else 2*root+1
end
def insS (g:List Int) (a b:Int):List Int:=(Sort.insertionSort Sort.ltInt g.toArray a.toNat b.toNat).toList
def heapS (g:List Int) (a b:Int):List Int:=(Sort.heapSort Sort.ltInt g.toArray a.toNat b.toNat).toList
def partS (g:List Int) (a b p:Int):Nat×Bool×Array Int:=Sort.partition Sort.ltInt g.toArray a.toNat b.toNat p.toNat
section
variable {g:List Int} {a b p:Int}
theorem kcs (h0:0<=a) (h1:a<=b) (h2:b<=g.length):(insS g a b).length=g.length:=by
 have:=(Sort.insertionSort_holds (lt:=Sort.ltInt) Sort.swo_ltInt g.toArray a.toNat b.toNat (by omega) (by simp;omega)).1.1
 simpa[insS]using this
end
end Go.Md
namespace Go.Proofs.YtijdfglbhaedoaaGreat
open Go Go.Bv Go.Cv Go.Md Go.RowKit
open Go.IntKind (i64 u64)
def SortedTo (g:List Int) (i:Nat):Prop:=∀a b:Nat,a<b->b<i->g[a]?.getD 0<=g[b]?.getD 0
def SortedBut (g:List Int) (i j:Nat):Prop:=∀a b:Nat,a<b->b<i->b≠j->g[a]?.getD 0<=g[b]?.getD 0
theorem SortedTo.all {g:List Int} (h:SortedTo g g.length):g.Pairwise (·<=·):=by
 rw[List.pairwise_iff_getElem]
 intro a b ha hb hab
 have:=h a b hab hb
 rwa [List.getElem?_eq_getElem ha,List.getElem?_eq_getElem hb]at this
theorem SortedBut.zero {g:List Int} {i:Nat} (h:SortedBut g i 0):SortedTo g i:=fun a b hab hb=>h a b hab hb (by omega)
theorem k57 {g:List Int} {a b:Int} (h0:0<=a) (h1:a<=b) (h2:b<=g.length):Sort.PermIn a.toNat b.toNat g.toArray (insS g a b).toArray/\Sort.SortedIn Sort.ltInt a.toNat b.toNat (insS g a b).toArray:=by
 have:=Sort.insertionSort_holds (lt:=Sort.ltInt) Sort.swo_ltInt g.toArray a.toNat b.toNat (by omega) (by simp;omega)
 unfold insS
 simpa using this
theorem keh {g:List Int} {a b:Int} (h0:0<=a) (h1:a<=b) (h2:b<=g.length):Sort.PermIn a.toNat b.toNat g.toArray (heapS g a b).toArray/\Sort.SortedIn Sort.ltInt a.toNat b.toNat (heapS g a b).toArray:=by
 have:=Sort.heapSort_holds (lt:=Sort.ltInt) Sort.swo_ltInt g.toArray a.toNat b.toNat (by omega) (by simp;omega)
 unfold heapS
 simpa using this
structure PdqI (R0:Array Int) (n:Nat) (a b:Int) (g:List Int):Prop where
 a0:0<=a
 ab:a<=b
 bl:b<=g.length
 n:g.length=n
 be:Sort.Below Sort.ltInt a.toNat b.toNat g.toArray
 u:∀R,Sort.PermIn a.toNat b.toNat g.toArray R->Sort.SortedIn Sort.ltInt a.toNat b.toNat R->R=R0
theorem PdqI.ins {R0:Array Int} {n:Nat} {a b:Int} {g:List Int} (h:PdqI R0 n a b g):insS g a b=R0.toList:=by
 obtain⟨h1,h2⟩:=k57 h.a0 h.ab h.bl
 rw[<-h.u _ h1 h2]
theorem PdqI.heap {R0:Array Int} {n:Nat} {a b:Int} {g:List Int} (h:PdqI R0 n a b g):heapS g a b=R0.toList:=by
 obtain⟨h1,h2⟩:=keh h.a0 h.ab h.bl
 rw[<-h.u _ h1 h2]
theorem PdqI.part {R0:Array Int} {n:Nat} {a b p:Int} {g:List Int} (h:PdqI R0 n a b g) (h1:a<=p) (h2:p<b):a<=(partS g a b p).1/\(partS g a b p).1<b/\(partS g a b p).2.2.size=n/\
  Sort.Below Sort.ltInt a.toNat (partS g a b p).1 (partS g a b p).2.2/\Sort.Below Sort.ltInt ((partS g a b p).1+1) b.toNat (partS g a b p).2.2/\
  PdqI R0 n ((partS g a b p).1+1) b (insS (partS g a b p).2.2.toList a (partS g a b p).1)/\PdqI R0 n a (partS g a b p).1 (insS (partS g a b p).2.2.toList ((partS g a b p).1+1) b):=by
 have h3:=h.bl
 have h0:=h.a0
 obtain⟨q1,q2,q3,q4,q5,q6,q7⟩:=Sort.round_part (lt:=Sort.ltInt) (d3:=g.toArray) (d4:=(partS g a b p).2.2) (a:=a.toNat) (b:=b.toNat) (pivot:=p.toNat) (mid:=(partS g a b p).1) (ap:=(partS g a b p).2.1) Sort.swo_ltInt (Sort.partition_holds Sort.ltInt) (by omega) (by omega) (by simp;omega) h.be rfl
 simp at q3
 have hn:=h.n
 generalize partS g a b p=P at *
 obtain⟨m,ap,d⟩:=P
 dsimp only at *
 have l1:=k57 (g:=d.toList) (a:=a) (b:=m) h0 (by omega) (by simp;omega)
 have l2:=k57 (g:=d.toList) (a:=(m:Int)+1) (b:=b) (by omega) (by omega) (by simp;omega)
 simp only[Array.toArray_toList,Int.toNat_natCast]at l1 l2
 rw[show((m:Int)+1).toNat=m+1 by omega]at l2
 have n1:(insS d.toList a m).length=d.toList.length:=kcs h0 (by omega) (by simp;omega)
 have n2:(insS d.toList ((m:Int)+1) b).length=d.toList.length:=kcs (by omega) (by omega) (by simp;omega)
 simp at n1 n2
 obtain⟨w1,w2⟩:=q6 _ l1.1 l1.2
 obtain⟨w3,w4⟩:=q7 _ l2.1 l2.2
 refine⟨by omega,by omega,by omega,q4,q5,⟨by omega,by omega,by omega,by omega,by rw[show((m:Int)+1).toNat=m+1 by omega];exact w1,fun R r1 r2=> ?_⟩,⟨h0,by omega,by omega,by omega,by simpa using w3,fun R r1 r2=> ?_⟩⟩
 ·rw[show((m:Int)+1).toNat=m+1 by omega]at r1 r2
  obtain⟨s1,s2⟩:=w2 R r1 r2
  exact h.u R s1 s2
 ·simp only[Int.toNat_natCast]at r1 r2
  obtain⟨s1,s2⟩:=w4 R r1 r2
  exact h.u R s1 s2
def lb (l:List wA) (t:Int):Nat:=(l.takeWhile (fun a=>decide (a.ID<t))).length
def fnd (l:List wA) (t:Int):Bool:=match l[lb l t]? with
 |some a=>decide (a.ID=t)
 |none=>false
def Srt (l:List wA):Prop:=∀i j (_:i<j) (hj:j<l.length),l[i].ID<l[j].ID
theorem lb_eq (l:List wA) (t:Int) (i:Nat) (hi:i<=l.length) (h1:∀k (h:k<l.length),k<i->l[k].ID<t) (h2:∀h:i<l.length,t<=l[i].ID):lb l t=i:=by
 unfold lb
 induction l generalizing i with
 |nil=>simp at hi;simp[hi]
 |cons a l ih=>
  cases i with
  |zero=>
   have:=h2 (by simp)
   simp at this
   rw[List.takeWhile_cons,if_neg (by simp;omega)]
   rfl
  |succ i=>
   have h0:=h1 0 (by simp) (by omega)
   simp at h0
   rw[List.takeWhile_cons,if_pos (by simpa using h0),List.length_cons,ih i (by simpa using hi) (fun k h hk=>by have:=h1 (k+1) (by simpa using h) (by omega);simpa using this) (fun h=>by have:=h2 (by simpa using h);simpa using this)]
theorem lb_le (l:List wA) (t:Int):lb l t<=l.length:=(List.takeWhile_sublist _).length_le
theorem lb_spec (l:List wA) (t:Int):(∀k (h:k<l.length),k<lb l t->l[k].ID<t)/\∀h:lb l t<l.length,t<=l[lb l t].ID:=by
 unfold lb
 induction l with
 |nil=>exact⟨fun k h=>absurd h (by simp),fun h=>absurd h (by simp)⟩
 |cons a l ih=>
  by_cases ha:a.ID<t
  ·simp only[List.takeWhile_cons,ha,decide_true,if_true,List.length_cons]
   refine⟨fun k h hk=> ?_,fun h=> ?_⟩
   ·cases k with
    |zero=>exact ha
    |succ k=>simpa using ih.1 k (by simpa using h) (by simpa using hk)
   ·simpa using ih.2 (by simpa using h)
  ·simp only[List.takeWhile_cons,ha,decide_false,Bool.false_eq_true,if_false,List.length_nil]
   exact⟨fun k h hk=>absurd hk (Nat.not_lt_zero _),fun h=>by simpa using ha⟩
theorem k3c {l:List wA} {t:Int} (h:fnd l t=true):∃hl:lb l t<l.length,l[lb l t].ID=t:=by
 unfold fnd at h
 split at h
 ·rename_i a ha
  obtain⟨h1,h2⟩:=List.getElem?_eq_some_iff.1 ha
  exact⟨h1,by rw[h2];simpa using h⟩
 ·cases h
def getA (l:List wA) (t:Int):wA:=match l.find? (fun a=>decide (a.ID=t))with
 |some a=>a
 |none=>⟨t,0,0⟩
theorem getA_of {l:List wA} {t:Int} (hs:Srt l) (h:fnd l t=true) (hl:lb l t<l.length):getA l t=l[lb l t]:=by
 obtain⟨_,he⟩:=k3c h
 unfold getA
 have:l.find? (fun a=>decide (a.ID=t))=some l[lb l t]:=by
  rw[List.find?_eq_some_iff_getElem]
  refine⟨by simpa using he,lb l t,hl,rfl,fun j hj=> ?_⟩
  have:=(lb_spec l t).1 j (by omega) hj
  simp;omega
 rw[this]
theorem getA_no {l:List wA} {t:Int} (hs:Srt l) (h:fnd l t=false):getA l t=⟨t,0,0⟩:=by
 unfold getA
 have:l.find? (fun a=>decide (a.ID=t))=none:=by
  rw[List.find?_eq_none]
  intro a ha hat
  simp only[decide_eq_true_eq]at hat
  obtain⟨k,hk,rfl⟩:=List.getElem_of_mem ha
  obtain⟨g1,g2⟩:=lb_spec l t
  rcases Nat.lt_or_ge k (lb l t)with h1|h1
  ·have:=g1 k hk h1;omega
  ·have h2:lb l t<l.length:=by omega
   have h3:=g2 h2
   have h4:l[lb l t].ID≠t:=by
    intro he
    have:fnd l t=true:=by unfold fnd;rw[List.getElem?_eq_getElem h2];simpa using he
    rw[h]at this;cases this
   rcases Nat.lt_or_ge (lb l t) k with h5|h5
   ·have:=hs _ _ h5 hk;omega
   ·have:k=lb l t:=by omega
    subst this;omega
 rw[this]
def AccOk (a:wA):Prop:=(0<=a.ID/\a.ID<18446744069414584321)/\(0<=a.wT/\a.wT<=9223372036854775807)/\0<=a.wc/\a.wc<18446744073709551616
def OkA (l:List wA):Prop:=Srt l/\l.length<=1000/\∀a∈l,AccOk a
theorem getA_ok {l:List wA} (h:OkA l) (t:Int):(0<=(getA l t).wT/\(getA l t).wT<=9223372036854775807)/\0<=(getA l t).wc/\(getA l t).wc<18446744073709551616:=by
 unfold getA
 split
 ·rename_i a ha
  exact(h.2.2 a (List.mem_of_find?_eq_some ha)).2
 ·simp
def putA (l:List wA) (a:wA):List wA:=l.take (lb l a.ID)++(if a.wT≠0∨a.wc≠0 then [a]else [])++l.drop (lb l a.ID+if fnd l a.ID then 1 else 0)
def creditA (l:List wA) (id amt:Int):List wA×Int:=
 if 9223372036854775807-(getA l id).wT<amt then([],1)else(putA l ⟨id,(getA l id).wT+amt,(getA l id).wc⟩,0)
def debitA (l:List wA) (id amt non:Int):List wA×Int:=
 if amt=0 then([],1)else if non≠(getA l id).wc∨non=18446744073709551615 then([],20)else if(getA l id).wT<amt then([],15)else(putA l ⟨id,(getA l id).wT-amt,non+1⟩,0)
theorem tail_eq {l:List wA} (hs:Srt l) (t:Int):l.filter (fun x=>decide (t<x.ID))=l.drop (lb l t+if fnd l t then 1 else 0):=by
 obtain⟨g1,g2⟩:=lb_spec l t
 have key:∀(i:Nat),(∀k (h:k<l.length),k<i->l[k].ID<=t)->(∀k (h:k<l.length),i<=k->t<l[k].ID)->l.filter (fun x=>decide (t<x.ID))=l.drop i:=by
  intro i h1 h2
  rw[<-List.take_append_drop i l,List.filter_append,List.take_append_drop]
  have e1:(l.take i).filter (fun x=>decide (t<x.ID))=[]:=by
   rw[List.filter_eq_nil_iff]
   intro x hx
   obtain⟨k,hk,rfl⟩:=List.getElem_of_mem hx
   rw[List.length_take]at hk
   have:=h1 k (by omega) (by omega)
   rw[List.getElem_take]
   simp;omega
  have e2:(l.drop i).filter (fun x=>decide (t<x.ID))=l.drop i:=by
   rw[List.filter_eq_self]
   intro x hx
   obtain⟨k,hk,rfl⟩:=List.getElem_of_mem hx
   rw[List.length_drop]at hk
   have:=h2 (i+k) (by omega) (by omega)
   rw[List.getElem_drop]
   simp;omega
  rw[e1,e2,List.nil_append]
 apply key
 ·intro k h hk
  split at hk
  ·rename_i hf
   obtain⟨h1,h2⟩:=k3c hf
   rcases Nat.lt_or_ge k (lb l t)with h3|h3
   ·have:=g1 k h h3;omega
   ·have:k=lb l t:=by omega
    subst this;omega
  ·have:=g1 k h (by omega);omega
 ·intro k h hk
  split at hk
  ·rename_i hf
   obtain⟨h1,h2⟩:=k3c hf
   have:=hs (lb l t) k (by omega) h
   omega
  ·rename_i hf
   have h1:lb l t<l.length:=by omega
   have h2:=g2 h1
   have h3:l[lb l t].ID≠t:=by
    intro he
    apply hf
    unfold fnd;rw[List.getElem?_eq_getElem h1];simpa using he
   rcases Nat.lt_or_ge (lb l t) k with h5|h5
   ·have:=hs _ _ h5 h;omega
   ·have:k=lb l t:=by omega
    subst this;omega
theorem inc_i64 (i:Nat) (h:i<4611686018427387904):i64.wrap ((i:Int)+1)=((i+1:Nat):Int):=by rw[kp _ (by omega) (by omega)];omega
theorem mid_eq (i j:Nat) (h:i+j<9223372036854775808):i64.wrap (ishr .u64 (u64.wrap (i64.wrap (↑i+↑j))) 1)=(((i+j)/2:Nat):Int):=by
 have e1:i64.wrap ((i:Int)+j)=(i:Int)+j:=kp _ (by omega) (by omega)
 have e2:u64.wrap ((i:Int)+j)=(i:Int)+j:=wrap_u64 _ (by omega) (by omega)
 have e:(2:Int)^min (1:Int).toNat u64.bits=2:=rfl
 have e3:((i:Int)+j).fdiv 2=((i:Int)+j)/2:=Int.fdiv_eq_ediv_of_nonneg _ (by omega)
 unfold ishr
 rw[e1,e2,e,e3,kp _ (by omega) (by omega)]
 omega
def cmp3 (a b:Int):Int:=if a<b then -1 else if b<a then 1 else 0
theorem cmp3_lt {a b:Int}:(cmp3 a b<0)↔a<b:=by unfold cmp3;split<;>(try split)<;>omega
theorem cmp3_eq {a b:Int}:(cmp3 a b=0)↔a=b:=by unfold cmp3;split<;>(try split)<;>omega
theorem put_len (l:List wA) (a:wA):(putA l a).length<=l.length+1:=by
 have:=lb_le l a.ID
 unfold putA
 simp only[List.length_append,List.length_take,List.length_drop]
 split<;>simp<;>omega
theorem ok_nil:OkA []:=⟨fun i j _ h=>by simp at h,by simp,by simp⟩
theorem srt_pw {l:List wA}:Srt l↔l.Pairwise (fun a b=>a.ID<b.ID):=by
 rw[List.pairwise_iff_getElem]
 exact⟨fun h i j hi hj hij=>h i j hij hj,fun h i j hij hj=>h i j (by omega) hj hij⟩
def Mid (id:Int) (m:List wA):Prop:=m=[]∨∃x:wA,m=[x]/\x.ID=id
def Spl (l:List wA) (id:Int) (a m b:List wA):Prop:=l=a++(m++b)/\(∀x∈a,x.ID<id)/\Mid id m/\∀x∈b,id<x.ID
theorem spl_of {l:List wA} (hs:Srt l) (id:Int):∃a m b,Spl l id a m b:=by
 rw[srt_pw]at hs
 induction l with
 |nil=>exact⟨[],[],[],rfl,by simp,.inl rfl,by simp⟩
 |cons x r ih=>
  obtain⟨h1,h2⟩:=List.pairwise_cons.1 hs
  by_cases hx:x.ID<id
  ·obtain⟨a,m,b,rfl,g1,g2,g3⟩:=ih h2
   refine⟨x::a,m,b,rfl,?_,g2,g3⟩
   intro y hy
   rcases List.mem_cons.1 hy with rfl|hy
   ·exact hx
   ·exact g1 y hy
  ·by_cases he:x.ID=id
   ·exact⟨[],[x],r,rfl,by simp,.inr ⟨x,rfl,he⟩,fun y hy=>by have:=h1 y hy;omega⟩
   ·refine⟨[],[],x::r,rfl,by simp,.inl rfl,?_⟩
    intro y hy
    rcases List.mem_cons.1 hy with rfl|hy
    ·omega
    ·have:=h1 y hy;omega
theorem take_lb (l:List wA) (t:Int):l.take (lb l t)=l.takeWhile (fun a=>decide (a.ID<t)):=(List.prefix_iff_eq_take.1 (List.takeWhile_prefix _)).symm
theorem put_spl {l a m b:List wA} {x:wA} (hs:Srt l) (h:Spl l x.ID a m b):putA l x=a++((if x.wT≠0∨x.wc≠0 then [x]else [])++b):=by
 obtain⟨rfl,h1,h2,h3⟩:=h
 unfold putA
 rw[<-tail_eq hs,take_lb,List.append_assoc]
 have e1:(a++(m++b)).takeWhile (fun y=>decide (y.ID<x.ID))=a:=by
  rw[List.takeWhile_append_of_pos (by intro y hy;simpa using h1 y hy)]
  have:(m++b).takeWhile (fun y=>decide (y.ID<x.ID))=[]:=by
   rcases h2 with rfl|⟨y,rfl,hy⟩
   ·cases b with
    |nil=>rfl
    |cons y b=>rw[List.nil_append,List.takeWhile_cons,if_neg];have:=h3 y (by simp);simp;omega
   ·rw[List.cons_append,List.takeWhile_cons,if_neg];simp;omega
  rw[this,List.append_nil]
 have e2:(a++(m++b)).filter (fun y=>decide (x.ID<y.ID))=b:=by
  rw[List.filter_append,List.filter_append]
  have f1:a.filter (fun y=>decide (x.ID<y.ID))=[]:=by
   rw[List.filter_eq_nil_iff];intro y hy;have:=h1 y hy;simp;omega
  have f2:m.filter (fun y=>decide (x.ID<y.ID))=[]:=by
   rw[List.filter_eq_nil_iff];intro y hy
   rcases h2 with rfl|⟨z,rfl,hz⟩
   ·simp at hy
   ·simp at hy;subst hy;simp;omega
  have f3:b.filter (fun y=>decide (x.ID<y.ID))=b:=by
   rw[List.filter_eq_self];intro y hy;have:=h3 y hy;simpa using this
  rw[f1,f2,f3];rfl
 rw[e1,e2]
theorem get_spl {l a m b:List wA} {id:Int} (h:Spl l id a m b):getA l id=m.headD ⟨id,0,0⟩:=by
 obtain⟨rfl,h1,h2,h3⟩:=h
 unfold getA
 have f1:a.find? (fun y=>decide (y.ID=id))=none:=by
  rw[List.find?_eq_none];intro y hy;have:=h1 y hy;simp;omega
 have f3:b.find? (fun y=>decide (y.ID=id))=none:=by
  rw[List.find?_eq_none];intro y hy;have:=h3 y hy;simp;omega
 rw[List.find?_append,List.find?_append,f1,f3]
 rcases h2 with rfl|⟨x,rfl,hx⟩
 ·rfl
 ·simp[hx]
theorem srt_spl {a m b:List wA} {id:Int} {l:List wA} (hs:Srt l) (h:Spl l id a m b) {m' :List wA} (hm:Mid id m'):Srt (a++(m' ++b)):=by
 obtain⟨rfl,h1,h2,h3⟩:=h
 rw[srt_pw]at hs ⊢
 rw[List.pairwise_append]at hs ⊢
 obtain⟨k1,k2,k3⟩:=hs
 rw[List.pairwise_append]at k2 ⊢
 obtain⟨_,k4,_⟩:=k2
 refine⟨k1,⟨?_,k4,?_⟩,?_⟩
 ·rcases hm with rfl|⟨x,rfl,_⟩<;>simp
 ·intro x hx y hy
  rcases hm with rfl|⟨z,rfl,hz⟩
  ·simp at hx
  ·simp at hx;subst hx;have:=h3 y hy;omega
 ·intro x hx y hy
  have h4:=h1 x hx
  rcases List.mem_append.1 hy with hy|hy
  ·rcases hm with rfl|⟨z,rfl,hz⟩
   ·simp at hy
   ·simp at hy;subst hy;omega
  ·have:=h3 y hy;omega
theorem mid_put (x:wA):Mid x.ID (if x.wT≠0∨x.wc≠0 then [x]else []):=by
 split
 ·exact .inr ⟨x,rfl,rfl⟩
 ·exact .inl rfl
theorem put_ok {l:List wA} {x:wA} (h:OkA l) (hl:l.length<=999) (hx:AccOk x):OkA (putA l x):=by
 obtain⟨a,m,b,hS⟩:=spl_of h.1 x.ID
 refine⟨?_,by have:=put_len l x;omega,?_⟩
 ·rw[put_spl h.1 hS]
  exact srt_spl h.1 hS (mid_put x)
 ·rw[put_spl h.1 hS]
  intro y hy
  obtain⟨rfl,_,_,_⟩:=hS
  simp only[List.mem_append]at hy
  rcases hy with hy|hy|hy
  ·exact h.2.2 y (by simp[hy])
  ·split at hy
   ·simp at hy;subst hy;exact hx
   ·simp at hy
  ·exact h.2.2 y (by simp[hy])
def Nz (l:List wA):Prop:=∀a∈l,a.wT≠0∨a.wc≠0
def GoodA (n:Nat) (l:List wA):Prop:=OkA l/\Nz l/\l.length<=n
theorem k37 (n:Nat):GoodA n []:=⟨ok_nil,by simp[Nz],by simp⟩
theorem kdg {l:List wA} {x:wA} {n:Nat} (h:GoodA n l) (hn:n<=900) (hx:AccOk x):GoodA (n+1) (putA l x):=by
 obtain⟨h1,h2,h3⟩:=h
 refine⟨put_ok h1 (by omega) hx,?_,by have:=put_len l x;omega⟩
 obtain⟨a,m,b,hS⟩:=spl_of h1.1 x.ID
 rw[put_spl h1.1 hS]
 obtain⟨rfl,_,_,_⟩:=hS
 intro y hy
 simp only[List.mem_append]at hy
 rcases hy with hy|hy|hy
 ·exact h2 y (by simp[hy])
 ·split at hy
  ·rename_i hz;simp at hy;subst hy;exact hz
  ·simp at hy
 ·exact h2 y (by simp[hy])
theorem k7c {l:List wA} {n:Nat} {id amt:Int} (h:GoodA n l) (hn:n<=900) (hid:0<=id/\id<18446744069414584321) (ha:0<=amt):GoodA (n+1) (creditA l id amt).1:=by
 obtain⟨g1,g2⟩:=getA_ok h.1 id
 unfold creditA
 split
 ·exact k37 _
 ·exact kdg h hn ⟨hid,by simp only;omega,g2⟩
theorem k9l {l:List wA} {n:Nat} {id amt non:Int} (h:GoodA n l) (hn:n<=900) (hid:0<=id/\id<18446744069414584321) (ha:0<=amt) (hN:0<=non/\non<18446744073709551616):GoodA (n+1) (debitA l id amt non).1:=by
 obtain⟨g1,g2⟩:=getA_ok h.1 id
 unfold debitA
 split
 ·exact k37 _
 ·split
  ·exact k37 _
  ·split
   ·exact k37 _
   ·rename_i h1 _
    have:non≠18446744073709551615:=fun e=>h1 (.inr e)
    exact kdg h hn ⟨hid,by simp only;omega,by simp only;omega⟩
def totA:Int->List wA->Int×Int
 |s,[]=>(s,0)
 |s,a::r=>if 18446744073709551616<=s+a.wT then(0,3)else totA (s+a.wT) r
theorem kgj (s:Int) (l:List wA) (i:Nat) (h:i<l.length):totA s (l.drop i)=if 18446744073709551616<=s+l[i].wT then(0,3)else totA (s+l[i].wT) (l.drop (i+1)):=by
 rw[List.drop_eq_getElem_cons h]
 rfl
theorem len24 {α:Type} (m:List α) (x:α) (h:m.length<=90000):(m.length+[x].length)*24<=140737488355328/\m.length+[x].length<=maxLen:=by
 simp only[List.length_cons,List.length_nil]
 unfold maxLen
 omega
def nd (a b:Int):Int:=hashS 6 [a,b]
def emp:Nat->Int
 |0=>hashS 6 []
 |i+1=>nd (emp i) (emp i)
theorem emp_u (i:Nat):U64 (emp i):=by cases i<;>exact k2n _ _
theorem emp_lt (i:Nat):emp i<18446744069414584321:=by cases i<;>exact k3i _ _
theorem gD_lt {l:List Int} {i:Nat} {z:Int} (h:i<l.length):l.getD i z=l[i]:=by simp[h]
theorem gD_ge {l:List Int} {i:Nat} {z:Int} (h:l.length<=i):l.getD i z=z:=by simp[h]
def lf (l:List Int) (p:Nat):Int:=l.getD p (emp 0)
def TT (f:Nat->Int):Nat->Nat->Int
 |0,k=>f k
 |i+1,k=>nd (TT f i (2*k)) (TT f i (2*k+1))
theorem k7r {f g:Nat->Int}:∀(i k:Nat),(∀p,k*2^i<=p->p<(k+1)*2^i->f p=g p)->TT f i k=TT g i k
 |0,k,h=>h k (by simp) (by simp)
 |i+1,k,h=>by
  have e:2^(i+1)=2*2^i:=by rw[Nat.pow_succ];omega
  rw[e]at h
  have e1:k*(2*2^i)=2*k*2^i:=by rw[<-Nat.mul_assoc,Nat.mul_comm k 2]
  have e2:(k+1)*(2*2^i)=(2*k+1+1)*2^i:=by rw[<-Nat.mul_assoc];congr 1;omega
  have e3:(2*k+1)*2^i=2*k*2^i+2^i:=by rw[Nat.add_mul,Nat.one_mul]
  have e4:(2*k+1+1)*2^i=(2*k+1)*2^i+2^i:=by rw[Nat.add_mul (2*k+1),Nat.one_mul]
  simp only[TT]
  rw[k7r i (2*k) fun p h1 h2=>h p (by omega) (by omega),k7r i (2*k+1) fun p h1 h2=>h p (by omega) (by omega)]
theorem TT_emp {l:List Int}:∀(i k:Nat),l.length<=k*2^i->TT (lf l) i k=emp i
 |0,k,h=>by simp only[TT,lf];rw[gD_ge (by simpa using h)]
 |i+1,k,h=>by
  have e1:k*2^(i+1)=2*k*2^i:=by rw[Nat.pow_succ,Nat.mul_comm (2^i) 2,<-Nat.mul_assoc,Nat.mul_comm k 2]
  have e3:(2*k+1)*2^i=2*k*2^i+2^i:=by rw[Nat.add_mul,Nat.one_mul]
  have:=Nat.two_pow_pos i
  simp only[TT,emp]
  rw[TT_emp i (2*k) (by omega),TT_emp i (2*k+1) (by omega)]
theorem TT_r {l:List Int} (hl:∀x∈l,0<=x/\x<18446744069414584321):∀(i k:Nat),0<=TT (lf l) i k/\TT (lf l) i k<18446744069414584321
 |0,k=>by
  simp only[TT,lf]
  by_cases h:k<l.length
  ·rw[gD_lt h];exact hl _ (List.getElem_mem h)
  ·rw[gD_ge (by omega)];exact⟨(emp_u 0).1,emp_lt 0⟩
 |i+1,k=>⟨(k2n _ _).1,k3i _ _⟩
def bitN (n i:Nat):Bool:=n/2^i%2==1
def leftS (d:Nat) (l:List Int):List Int:=(List.range (d+1)).map fun i=>if bitN l.length i then TT (lf l) i (l.length/2^i-1)else 0
def frF (d:Int) (l:List Int):wC:=⟨d,l.length,leftS d.toNat l⟩
theorem k1f (d:Nat) (l:List Int):(leftS d l).length=d+1:=by simp[leftS]
theorem k21 (d:Nat) (l:List Int) (i:Nat) (h:i<(leftS d l).length):(leftS d l)[i]=if bitN l.length i then TT (lf l) i (l.length/2^i-1)else 0:=by simp[leftS]
structure FV (f:wC):Prop where
 d1:1<=f.wD
 d2:f.wD<=12
 c0:0<=f.wX
 c1:f.wX<=((2^f.wD.toNat:Nat):Int)
 ll:f.wa.length=f.wD.toNat+1
 u:∀x∈f.wa,0<=x/\x<18446744069414584321
 z:∀(i:Nat) (h:i<f.wa.length),bitN f.wX.toNat i=false->f.wa[i]=0
theorem frF_FV {d:Int} {l:List Int} (h1:1<=d) (h2:d<=12) (hl:l.length<=2^d.toNat) (hu:∀x∈l,0<=x/\x<18446744069414584321):FV (frF d l):=by
 refine⟨h1,h2,by simp[frF],by simp only[frF];omega,k1f _ _,fun x hx=> ?_,fun i h hb=> ?_⟩
 ·simp only[frF,leftS,List.mem_map]at hx
  obtain⟨i,_,rfl⟩:=hx
  split
  ·exact TT_r hu _ _
  ·decide
 ·show(leftS d.toNat l)[i]=0
  have hb:bitN l.length i=false:=by simpa[frF]using hb
  exact(k21 d.toNat l i h).trans (by rw[hb];rfl)
theorem shl1 (d:Nat) (h:d<=12):ishl .i64 1 (d:Int)=((2^d:Nat):Int):=by
 have:∀d∈List.range 13,ishl .i64 1 (d:Int)=((2^d:Nat):Int):=by decide
 exact this d (by simp;omega)
theorem pow12 (d:Nat) (h:d<=12):2^d<=4096:=by
 have:2^d<=2^12:=Nat.pow_le_pow_right (by decide) h
 omega
theorem bit1 (n i:Nat) (hn:n<=4096) (hi:i<=20):iand .i64 (ishr .i64 (n:Int) (i:Int)) 1=((n/2^i%2:Nat):Int):=by
 have e:min ((i:Int).toNat) i64.bits=i:=by
  rw[Int.toNat_natCast]
  exact Nat.min_eq_left (Nat.le_trans hi (by decide))
 have e2:ishr .i64 (n:Int) (i:Int)=((n/2^i:Nat):Int):=by
  rw[k1x,e]
  simp
 have:=Nat.div_le_self n (2^i)
 rw[e2]
 generalize n/2^i=q at *
 rw[kdr _ (by omega)]
 omega
def carry:Nat->Nat->List Int->Int->Nat->List Int
 |0,lv,L,x,_=>L.set lv x
 |k+1,lv,L,x,n=>if bitN n lv then carry k (lv+1) (L.set lv 0) (nd (ix L (lv:Int)) x) n else L.set lv x
def apF (f:wC) (x:Int):wC:=⟨f.wD,f.wX+1,carry (f.wD.toNat+1) 0 f.wa x f.wX.toNat⟩
theorem k1a (n i:Nat):n/2^(i+1)=n/2^i/2:=by rw[Nat.pow_succ,Nat.div_div_eq_div_mul]
theorem kf8 {n d:Nat} (h:n<2^d):bitN n d=false:=by
 unfold bitN
 rw[Nat.div_eq_of_lt h]
 rfl
theorem succ_hi {n i:Nat} (h:bitN n i=true) (hq:(n+1)/2^i=n/2^i+1):(n+1)/2^(i+1)=n/2^(i+1)+1:=by
 have h:n/2^i%2=1:=by simpa[bitN]using h
 rw[k1a,k1a,hq]
 omega
theorem succ_lo {n i:Nat} (h:bitN n i=false) (hq:(n+1)/2^i=n/2^i+1):∀j,i<j->(n+1)/2^j=n/2^j:=by
 have h:¬n/2^i%2=1:=by simpa[bitN]using h
 intro j
 induction j with
 |zero=>intro hj;omega
 |succ j ih=>
  intro hj
  rcases Nat.lt_or_ge i j with h1|h1
  ·rw[k1a,k1a,ih h1]
  ·have:j=i:=by omega
   subst this
   rw[k1a,k1a,hq]
   omega
theorem TT_app {l:List Int} {x:Int} {i k:Nat} (h:(k+1)*2^i<=l.length):TT (lf (l++[x])) i k=TT (lf l) i k:=by
 refine k7r i k fun p _ h2=> ?_
 unfold lf
 rw[List.getD_eq_getElem?_getD,List.getD_eq_getElem?_getD,List.getElem?_append_left (by omega)]
theorem kdp (d:Nat) (l:List Int) (x:Int) (hn:l.length<2^d):∀(k lv:Nat) (L:List Int) (y:Int),lv+k=d+1->L.length=d+1->
  (l.length+1)/2^lv=l.length/2^lv+1->y=TT (lf (l++[x])) lv (l.length/2^lv)->
  (∀(i:Nat) (h:i<L.length),L[i]=if i<lv then 0 else(leftS d l).getD i 0)->(∀i,i<lv->bitN (l.length+1) i=false)->carry k lv L y l.length=leftS d (l++[x])
 |0,lv,L,y,hk,hL,hq,hy,hg,hb=>by
  exfalso
  have hlv:lv=d+1:=by omega
  subst hlv
  have hp:2^(d+1)=2*2^d:=by rw[Nat.pow_succ];omega
  have h1:1<=2^d:=Nat.two_pow_pos d
  rw[hp,Nat.div_eq_of_lt (by omega),Nat.div_eq_of_lt (by omega)]at hq
  omega
 |k+1,lv,L,y,hk,hL,hq,hy,hg,hb=>by
  unfold carry
  have hlv:lv<L.length:=by omega
  by_cases hbit:bitN l.length lv=true
  ·rw[if_pos hbit]
   have hodd:l.length/2^lv%2=1:=by simpa[bitN]using hbit
   have hleft:ix L (lv:Int)=TT (lf (l++[x])) lv (2*(l.length/2^(lv+1))):=by
    have h2:lv<(leftS d l).length:=by rw[k1f];omega
    rw[ix_get _ _ hlv,hg lv hlv,if_neg (by omega),gD_lt h2,k21,if_pos hbit]
    have e:l.length/2^lv-1=2*(l.length/2^(lv+1)):=by rw[k1a];omega
    rw[e]
    refine(TT_app ?_).symm
    have:(2*(l.length/2^(lv+1))+1)=l.length/2^lv:=by rw[k1a];omega
    rw[this]
    exact Nat.div_mul_le_self _ _
   refine kdp d l x hn k (lv+1) _ _ (by omega) (by simp[hL]) (succ_hi hbit hq) ?_ (fun i h=> ?_) (fun i hi=> ?_)
   ·simp only[TT]
    rw[hleft,hy]
    have:l.length/2^lv=2*(l.length/2^(lv+1))+1:=by rw[k1a];omega
    rw[<-this]
   ·rw[List.getElem_set]
    by_cases h1:lv=i
    ·rw[if_pos h1,if_pos (by omega)]
    ·rw[if_neg h1,hg i (by simpa using h)]
     by_cases h2:i<lv
     ·rw[if_pos h2,if_pos (by omega)]
     ·rw[if_neg h2,if_neg (by omega)]
   ·rcases Nat.lt_or_ge i lv with h1|h1
    ·exact hb i h1
    ·have:i=lv:=by omega
     subst this
     unfold bitN
     rw[hq]
     have:(l.length/2^i+1)%2=0:=by omega
     rw[this]
     rfl
  ·have hbit:bitN l.length lv=false:=by simpa using hbit
   rw[if_neg (by rw[hbit];decide)]
   have hev:¬l.length/2^lv%2=1:=by simpa[bitN]using hbit
   have hlo:=succ_lo hbit hq
   apply List.ext_getElem
   ·simp[k1f,hL]
   ·intro i h1 h2
    rw[k21,List.getElem_set,List.length_append,List.length_singleton]
    have hi:i<L.length:=by simpa using h1
    by_cases h3:lv=i
    ·subst h3
     rw[if_pos rfl,hy]
     have:bitN (l.length+1) lv=true:=by unfold bitN;rw[hq];simp;omega
     rw[if_pos this,hq]
     rfl
    ·rw[if_neg h3,hg i hi]
     rcases Nat.lt_or_ge i lv with h4|h4
     ·rw[if_pos h4,hb i h4]
      rfl
     ·have h5:lv<i:=by omega
      have hs:i<(leftS d l).length:=by rw[k1f];omega
      rw[if_neg (by omega),gD_lt hs,k21]
      have eb:bitN (l.length+1) i=bitN l.length i:=by unfold bitN;rw[hlo i h5]
      rw[eb,hlo i h5]
      by_cases hb2:bitN l.length i=true
      ·rw[if_pos hb2,if_pos hb2]
       refine(TT_app ?_).symm
       have ho:l.length/2^i%2=1:=by simpa[bitN]using hb2
       have:l.length/2^i-1+1=l.length/2^i:=Nat.sub_add_cancel (Nat.pos_of_ne_zero fun h=>by rw[h]at ho;cases ho)
       rw[this]
       exact Nat.div_mul_le_self _ _
      ·rw[if_neg hb2,if_neg hb2]
theorem apF_frF {d:Int} {l:List Int} {x:Int} (hn:l.length<2^d.toNat):apF (frF d l) x=frF d (l++[x]):=by
 have:=kdp d.toNat l x hn (d.toNat+1) 0 (leftS d.toNat l) x (by omega) (k1f _ _) (by simp) (by simp[TT,lf]) (fun i h=>by
  rw[if_neg (by omega),gD_lt h]) (fun i hi=>by omega)
 unfold apF frF
 simp only[Int.toNat_natCast]
 rw[this]
 simp
def rootGo (f:wC):Nat->Nat->Int->Int->Int
 |0,_,_,x=>x
 |k+1,lv,e,x=>rootGo f k (lv+1) (nd e e) (if bitN f.wX.toNat lv then nd (ix f.wa (lv:Int)) x else nd x e)
def rootF (f:wC):Int:=if f.wX=((2^f.wD.toNat:Nat):Int)then ix f.wa f.wD else rootGo f f.wD.toNat 0 (emp 0) (emp 0)
theorem kbe (d:Int) (l:List Int):∀(k lv:Nat) (x:Int),lv+k=d.toNat->x=TT (lf l) lv (l.length/2^lv)->rootGo (frF d l) k lv (emp lv) x=TT (lf l) (lv+k) (l.length/2^(lv+k))
 |0,lv,x,_,hx=>hx
 |k+1,lv,x,hk,hx=>by
  unfold rootGo
  rw[show lv+(k+1)=lv+1+k by omega]
  have hc:(frF d l).wX.toNat=l.length:=by simp[frF]
  rw[hc]
  refine kbe d l k (lv+1) _ (by omega) ?_
  have hh:=k1a l.length lv
  simp only[TT]
  by_cases hb:bitN l.length lv=true
  ·have ho:l.length/2^lv%2=1:=by simpa[bitN]using hb
   have hs:lv<(leftS d.toNat l).length:=by rw[k1f];omega
   rw[if_pos hb,show(frF d l).wa=leftS d.toNat l from rfl,ix_get _ _ hs,k21,if_pos hb,hx]
   have e1:l.length/2^lv-1=2*(l.length/2^(lv+1)):=by omega
   have e2:l.length/2^lv=2*(l.length/2^(lv+1))+1:=by omega
   rw[e1,<-e2]
  ·have ho:¬l.length/2^lv%2=1:=by simpa[bitN]using hb
   rw[if_neg hb,hx]
   have e2:l.length/2^lv=2*(l.length/2^(lv+1)):=by omega
   rw[<-e2]
   congr 1
   refine(TT_emp lv _ ?_).symm
   have:=Nat.lt_div_mul_add (a:=l.length) (b:=2^lv) (Nat.two_pow_pos lv)
   rw[Nat.add_mul,Nat.one_mul]
   omega
theorem kab {d:Int} {l:List Int} (h0:0<=d) (hn:l.length<=2^d.toNat):rootF (frF d l)=TT (lf l) d.toNat 0:=by
 unfold rootF
 by_cases hc:(frF d l).wX=((2^(frF d l).wD.toNat:Nat):Int)
 ·rw[if_pos hc]
  have hc:l.length=2^d.toNat:=by simp only[frF]at hc;omega
  have hs:d.toNat<(leftS d.toNat l).length:=by rw[k1f];omega
  have e:(frF d l).wD=(d.toNat:Int):=by simp only[frF];omega
  have e1:l.length/2^d.toNat=1:=by rw[hc];exact Nat.div_self (Nat.two_pow_pos _)
  have hb:bitN l.length d.toNat=true:=by unfold bitN;rw[e1];rfl
  rw[e,show(frF d l).wa=leftS d.toNat l from rfl,ix_get _ _ hs,k21,if_pos hb,e1]
 ·rw[if_neg hc]
  have hc:l.length<2^d.toNat:=by simp only[frF]at hc;omega
  have:=kbe d l d.toNat 0 (emp 0) (by omega) (by simp[TT,lf])
  rw[show(frF d l).wD=d from rfl,this,Nat.zero_add,Nat.div_eq_of_lt hc]
def trs (k:List Int):List Bool:=List.replicate k.length true
theorem k4n {m:Int}:∀{k:List Int},(mIdx (BEq.beq m) k).isSome=decide (m∈k)
 |[]=>rfl
 |x::r=>by
  unfold mIdx
  by_cases h:m=x
  ·subst h;simp
  ·have:BEq.beq m x=false:=by simpa using h
   rw[this,cond_false,Option.isSome_map,k4n]
   simp[h]
theorem sVal (k:List Int) (m:Int):mVal (BEq.beq m) k (trs k) false=decide (m∈k):=by
 rw[<-k4n]
 unfold mVal
 cases h:mIdx (BEq.beq m) k with
 |none=>rfl
 |some j=>simp[trs,mIdx_lt h]
theorem sPut {k:List Int} {m:Int} (h:m∉k):mPutK (BEq.beq m) k m=k++[m]/\mPutV (BEq.beq m) k (trs k) true=trs (k++[m]):=by
 have:mIdx (BEq.beq m) k=none:=by
  have:=k4n (m:=m) (k:=k)
  rw[decide_eq_false h]at this
  cases hq:mIdx (BEq.beq m) k with
  |none=>rfl
  |some j=>rw[hq]at this;cases this
 unfold mPutK mPutV
 rw[this]
 exact⟨rfl,by simp[trs,List.replicate_succ']⟩
theorem k4t {m:Int}:∀{k:List Int} {j:Nat},mIdx (BEq.beq m) k=some j->k.eraseIdx j=k.erase m
 |x::r,j,h=>by
  unfold mIdx at h
  by_cases e:m=x
  ·subst e
   simp at h
   subst h
   simp
  ·have e2:BEq.beq m x=false:=by simpa using e
   rw[e2,cond_false]at h
   cases hq:mIdx (BEq.beq m) r with
   |none=>rw[hq]at h;cases h
   |some i=>
    rw[hq]at h
    simp at h
    subst h
    rw[List.eraseIdx_cons_succ,k4t hq,List.erase_cons_tail (by simpa using fun h=>e h.symm)]
theorem sDel (k:List Int) (m:Int):mDelK (BEq.beq m) k=k.erase m/\mDelV (BEq.beq m) k (trs k)=trs (k.erase m):=by
 unfold mDelK mDelV
 cases h:mIdx (BEq.beq m) k with
 |none=>
  have h2:m∉k:=by
   have:=k4n (m:=m) (k:=k)
   rw[h]at this
   simpa using this.symm
  rw[List.erase_of_not_mem h2]
  exact⟨rfl,rfl⟩
 |some j=>
  refine⟨k4t h,?_⟩
  have hj:=mIdx_lt h
  rw[<-k4t h]
  unfold trs
  refine List.eq_replicate_iff.2 ⟨?_,fun b hb=> ?_⟩
  ·simp[List.length_eraseIdx]
  ·exact(List.eq_replicate_iff.1 rfl).2 b (List.mem_of_mem_eraseIdx hb)
def addS (l k:List Int):Int×List Int:=if(l.any fun m=>decide (m∈k))|| !decide l.Nodup then(12,k)else(0,k++l)
def remS (l k:List Int):Int×List Int:=if(l.any fun m=> !decide (m∈k))|| !decide l.Nodup then(4,k)else(0,l.foldl List.erase k)
theorem kgd {m:Int} {k r:List Int} (h:m∉k):(k++m::r).erase m=k++r:=by
 rw[List.erase_append_right _ h,List.erase_cons_head]
theorem rem_add:∀{l k:List Int},(k++l).Nodup->l.foldl List.erase (k++l)=k
 |[],k,_=>by simp
 |m::r,k,h=>by
  have h1:m∉k:=fun hm=>by
   rw[List.nodup_append]at h
   exact h.2.2 m hm m (by simp) rfl
  rw[List.foldl_cons,kgd h1]
  refine rem_add ?_
  rw[List.nodup_append]at h ⊢
  refine⟨h.1,(List.nodup_cons.1 h.2.1).2,fun a ha b hb=>h.2.2 a ha b (by simp[hb])⟩
def pws (n:Nat) (z b:Int):Bool:=(List.range n).any fun j=>b==z*((2^j:Nat):Int)
def prS (p:ww):Bool:=pws 8 2 p.wAK&&pws 4 1 p.wAA&&decide (1<=p.wAJ)&&decide (p.wAJ<=64)
def rulesB (p:wE):Bool:=decide (1<=p.we)&&decide (p.we<=3)&&decide (1<=p.wD)&&decide (p.wD<=12)&&decide (1<=p.wb)&&decide (p.wb<=100)&&decide (1<=p.wQ)&&decide (p.wQ<=1048576)&&decide (p.wJ<=4294967296)&&decide (1<=p.wq)&&decide (p.wq<=65536)
def rulesE (p:wE):Int:=if rulesB p then(if p.we=1 then(if prS ⟨p.wI,p.wH,p.wG⟩then 0 else 1)else 0)else 1
theorem pws_and (b:Nat) (h:2<=b/\b<=256):(iand .i64 (b:Int) (((b:Int))-1)==0)=pws 8 2 b:=by
 have:∀b∈List.range' 2 255,(iand .i64 ((b:Nat):Int) (((b:Nat):Int)-1)==0)=pws 8 2 ((b:Nat):Int):=by decide +kernel
 exact this b (by rw[List.mem_range'_1];omega)
theorem kbf {n:Nat} {z b:Int} (h:pws n z b=true) (hz:0<z):z<=b/\b<=z*((2^(n-1):Nat):Int):=by
 obtain⟨j,hj,e⟩:=List.any_eq_true.1 h
 have hj:j<n:=by simpa using hj
 have e:b=z*((2^j:Nat):Int):=by simpa using e
 have h1:1<=2^j:=Nat.two_pow_pos j
 have h2:2^j<=2^(n-1):=Nat.pow_le_pow_right (by decide) (by omega)
 rw[e]
 constructor
 ·have:=Int.mul_le_mul_of_nonneg_left (show(1:Int)<=((2^j:Nat):Int)by omega) (show 0<=z by omega)
  omega
 ·exact Int.mul_le_mul_of_nonneg_left (by omega) (by omega)
theorem k4q (n:Nat) (z b:Int):pws (n+1) z b=(pws n z b||b==z*((2^n:Nat):Int)):=by simp[pws,List.range_succ]
structure PS where
 R:wE
 F:wC
 b:List wA
 n:Int
 l:List Int
 r:List Int
 p:List wO
 k:List Int
 v:List Bool
def ancL (r:List Int) (w:Int):List Int:=r.drop (r.length-w.toNat)
def chk (h:Int) (anc k:List Int) (b:List wA) (n:Int) (ll:Nat) (d:Int) (t:wx):Int:=
 if validE t≠0 then validE t else if t.wAD<h+1 then 14 else if t.wAO∉anc then 11 else if t.wK.any (fun m=>decide (m∈k))=true then 12
 else if 0<t.wP/\(debitA b t.wo t.wP t.wc).2≠0 then(debitA b t.wo t.wP t.wc).2
 else if u64.wrap (n+t.wP)<u64.wrap (t.wd+t.Fee)then 13 else if 2^d.toNat<ll+t.wN.length then 16 else 0
def chkS (s:PS) (t:wx):Int:=chk (s.p.length:Int) (ancL s.r s.R.wb) s.k s.b s.n s.l.length s.R.wD t
def outsF (F:wC) (o:List wAP):wC:=o.foldl (fun f x=>apF f x.wm) F
def depA (b:List wA) (t:wx):List wA:=if 0<t.wP then(debitA b t.wo t.wP t.wc).1 else b
def wdA (b:List wA) (t:wx):List wA×Int:=if 0<t.wd then creditA (depA b t) t.wo t.wd else(depA b t,0)
def hidN (n:Int) (t:wx):Int:=u64.wrap (u64.wrap (u64.wrap (n+t.wP)-t.wd)-t.Fee)
structure PE where
 e:Int
 s:PS
def perfS (s:PS) (t:wx):PE:=
 if(wdA s.b t).2≠0 then⟨(wdA s.b t).2,{s with F:=outsF s.F t.wN,l:=s.l++t.wN.map (·.wm),k:=s.k++t.wK,v:=trs (s.k++t.wK),b:=depA s.b t}⟩
 else⟨0,{s with F:=outsF s.F t.wN,l:=s.l++t.wN.map (·.wm),k:=s.k++t.wK,v:=trs (s.k++t.wK),b:=(wdA s.b t).1,n:=hidN s.n t}⟩
structure PB where
 e:Int
 s:PS
 m:List Int
 f:Int
def blkGo:List wx->PS->List Int->Int->PB
 |[],s,m,f=>⟨0,s,m,f⟩
 | t::r,s,m,f=>if chkS s t≠0 then⟨chkS s t,s,m,f⟩else if(perfS s t).e≠0 then⟨(perfS s t).e,(perfS s t).s,m++t.wK,f⟩
   else blkGo r (perfS s t).s (m++t.wK) (u64.wrap (f+t.Fee))
def crB (x:PB) (b:wU):List wA×Int:=creditA x.s.b b.wAU (u64.wrap (x.s.R.wJ+x.f))
def blkS (s:PS) (m:List Int) (b:wU):PB:=
 if(blkGo b.Txs s m 0).e≠0 then blkGo b.Txs s m 0
 else if(crB (blkGo b.Txs s m 0) b).2≠0 then {blkGo b.Txs s m 0 with e:=(crB (blkGo b.Txs s m 0) b).2}
 else {blkGo b.Txs s m 0 with e:=0,s:={(blkGo b.Txs s m 0).s with b:=(crB (blkGo b.Txs s m 0) b).1}}
def befS (s:PS) (m:List Int):wO:=⟨s.F.wD,s.F.wX,s.F.wa,s.l.length,m,s.b,s.n⟩
def applyS (s:PS) (b:wU):PE:=
 if b.wAN≠(s.p.length:Int)+1 then⟨18,s⟩else if 18446744069414584321<=b.wAU then⟨1,s⟩else
 if(blkS s [] b).e≠0 then⟨(blkS s [] b).e,s⟩
 else⟨0,{(blkS s [] b).s with p:=s.p++[befS s (blkS s [] b).m],r:=s.r++[rootF (blkS s [] b).s.F]}⟩
def resS (s:PS) (q:wO):PS:={s with F:=⟨q.wAS,q.wAT,q.wAV⟩,b:=q.wAM,n:=q.hidden,l:=s.l.take q.leaves.toNat,k:=(remS q.marks s.k).2,v:=trs (remS q.marks s.k).2}
def newS (r:wE):PS:=⟨r,frF r.wD [],[],0,[],[rootF (frF r.wD [])],[],[],[]⟩
def BG (l:List Int):Prop:=∀x∈l,0<=x/\x<18446744069414584321
def sumA (l:List wA):Int:=(l.map (·.wT)).sum
structure PI (s:PS) (c:Nat) (f:Int):Prop where
 d1:1<=s.R.wD
 d2:s.R.wD<=12
 w1:1<=s.R.wb
 w2:s.R.wb<=100
 rw:0<=s.R.wJ/\s.R.wJ<=4294967296
 F:s.F=frF s.R.wD s.l
 ll:s.l.length<=2^s.R.wD.toNat
 l:BG s.l
 b:GoodA c s.b
 n:0<=s.n
 ff:0<=f
 sup:sumA s.b+s.n+f=(s.p.length:Int)*s.R.wJ
 r:BG s.r
 rl:s.r.length=s.p.length+1
 p:s.p.length<=c
 kn:s.k.Nodup
 kb:BG s.k
 kl:s.k.length<=4*c
 v:s.v=trs s.k
theorem sum_app (a b:List wA):sumA (a++b)=sumA a+sumA b:=by simp[sumA]
theorem sumA_nn {l:List wA} (h:∀a∈l,0<=a.wT):0<=sumA l:=by
 induction l with
 |nil=>exact Int.le_refl _
 |cons a l ih=>
  have h1:=h a (by simp)
  have h2:=ih fun x hx=>h x (by simp[hx])
  have:sumA (a::l)=a.wT+sumA l:=by simp[sumA]
  omega
theorem sum_put {l:List wA} {x:wA} (hs:Srt l):sumA (putA l x)=sumA l-(getA l x.ID).wT+x.wT:=by
 obtain⟨a,m,b,h⟩:=spl_of hs x.ID
 rw[put_spl hs h,get_spl h,h.1]
 have e1:sumA (if x.wT≠0∨x.wc≠0 then [x]else [])=x.wT:=by
  split
  ·simp[sumA]
  ·rename_i hh
   have:x.wT=0:=Classical.byContradiction fun hb=>hh (.inl hb)
   rw[this]
   rfl
 have e2:sumA m=(m.headD ⟨x.ID,0,0⟩).wT:=by
  rcases h.2.2.1 with rfl|⟨y,rfl,_⟩
  ·rfl
  ·simp[sumA]
 simp only[sum_app,e1,e2]
 omega
theorem k96 {l:List wA} {id amt:Int} (hs:Srt l) (h:(creditA l id amt).2=0):sumA (creditA l id amt).1=sumA l+amt:=by
 unfold creditA at h ⊢
 split at h
 ·cases h
 ·rename_i hh
  rw[if_neg hh]
  have:=sum_put (x:=⟨id,(getA l id).wT+amt,(getA l id).wc⟩) hs
  rw[this]
  simp only
  omega
theorem kfw {l:List wA} {id amt non:Int} (hs:Srt l) (h:(debitA l id amt non).2=0):sumA (debitA l id amt non).1=sumA l-amt:=by
 unfold debitA at h ⊢
 split at h
 ·cases h
 ·rename_i h1
  rw[if_neg h1]
  split at h
  ·cases h
  ·rename_i h2
   rw[if_neg h2]
   split at h
   ·cases h
   ·rename_i h3
    rw[if_neg h3]
    have:=sum_put (x:=⟨id,(getA l id).wT-amt,non+1⟩) hs
    rw[this]
    simp only
    omega
theorem tot_sum:∀{l:List wA} {s:Int},(∀a∈l,0<=a.wT)->s+sumA l<18446744073709551616->totA s l=(s+sumA l,0)
 |[],s,_,_=>by simp[totA,sumA]
 |a::r,s,hn,h=>by
  have e:sumA (a::r)=a.wT+sumA r:=by simp[sumA]
  have h1:=hn a (by simp)
  have h2:=sumA_nn (l:=r) fun x hx=>hn x (by simp[hx])
  rw[e]at h ⊢
  unfold totA
  rw[if_neg (by omega),tot_sum (fun x hx=>hn x (by simp[hx])) (by omega)]
  rw[Int.add_assoc]
structure CK (s:PS) (t:wx):Prop where
 v:VT t
 m:∀m∈t.wK,m∉s.k
 d:0<t.wP->(debitA s.b t.wo t.wP t.wc).2=0
 h:¬u64.wrap (s.n+t.wP)<u64.wrap (t.wd+t.Fee)
 l:s.l.length+t.wN.length<=2^s.R.wD.toNat
theorem k8q {s:PS} {t:wx} (h:chkS s t=0):CK s t:=by
 unfold chkS chk at h
 split at h
 ·rename_i h1;exact(h1 h).elim
 ·rename_i h1
  split at h
  ·cases h
  ·split at h
   ·cases h
   ·split at h
    ·cases h
    ·rename_i h4
     split at h
     ·rename_i h5;exact(h5.2 h).elim
     ·rename_i h5
      split at h
      ·cases h
      ·rename_i h6
       split at h
       ·cases h
       ·rename_i h7
        refine⟨(k7e t).1 (Classical.byContradiction h1),fun m hm hk=>h4 ?_,fun hd=>Classical.byContradiction fun he=>h5 ⟨hd,he⟩,h6,by omega⟩
        exact List.any_eq_true.2 ⟨m,hm,by simpa using hk⟩
theorem VT.am' {t:wx} (v:VT t):t.wP<=4294967295/\t.wd<=4294967295/\t.Fee<=4294967295/\t.wo<18446744069414584321/\(0<t.wP->t.wd=0):=by
 have:=v.am
 simp only[vAmounts,Bool.and_eq_true,decide_eq_true_eq]at this
 obtain⟨⟨⟨⟨⟨a1,a2⟩,a3⟩,a4⟩,a5⟩,a6⟩:=this
 refine⟨a1,a2,a3,a4,fun h=> ?_⟩
 rw[if_pos h]at a6
 simpa using a6
theorem k8v {d:Int}:∀{o:List wAP} {l:List Int},l.length+o.length<=2^d.toNat->outsF (frF d l) o=frF d (l++o.map (·.wm))
 |[],l,_=>by simp[outsF]
 |x::o,l,h=>by
  have h:l.length+(o.length+1)<=2^d.toNat:=h
  show outsF (apF (frF d l) x.wm) o=_
  rw[apF_frF (by omega),k8v (by simp;omega),List.append_assoc]
  rfl
theorem sup_bd {s:PS} {c:Nat} {f:Int} (h:PI s c f) (hc:c<=800):sumA s.b<=3435973836800/\s.n<=3435973836800/\f<=3435973836800/\0<=sumA s.b:=by
 have h0:=sumA_nn (l:=s.b) fun a ha=>(h.b.1.2.2 a ha).2.1.1
 have h1:=h.sup
 have h2:=h.n
 have h3:=h.ff
 have h4:(s.p.length:Int)*s.R.wJ<=800*4294967296:=Int.mul_le_mul (by have:=h.p;omega) h.rw.2 h.rw.1 (by decide)
 omega
theorem PI.perf {s:PS} {c:Nat} {f:Int} (h:PI s c f) (hc:c<=800) {t:wx} (ht:TR t) (k:CK s t):(∃g,PI {(perfS s t).s with b:=s.b,n:=s.n} (c+1) g)/\GoodA (c+1) (perfS s t).s.b/\
  ((perfS s t).e=0->PI (perfS s t).s (c+1) (f+t.Fee)):=by
 obtain⟨a1,a2,a3,a4,a5⟩:=k.v.am'
 obtain⟨s1,s2,s3,s4⟩:=sup_bd h hc
 have hd0:=ht.d.1
 have hw0:=ht.w.1
 have hf0:=ht.f.1
 have hk:=k.h
 rw[wrap_u64 (s.n+t.wP) (by have:=h.n;omega) (by omega),wrap_u64 (t.wd+t.Fee) (by omega) (by omega)]at hk
 have hF:outsF s.F t.wN=frF s.R.wD (s.l++t.wN.map (·.wm)):=by rw[h.F];exact k8v k.l
 have hl:BG (s.l++t.wN.map (·.wm)):=by
  intro x hx
  rcases List.mem_append.1 hx with hx|hx
  ·exact h.l x hx
  ·obtain⟨o,ho,rfl⟩:=List.mem_map.1 hx
   exact⟨(ht.o o ho).c.1,(k.v.o o ho).c⟩
 have hkb:BG (s.k++t.wK):=by
  intro x hx
  rcases List.mem_append.1 hx with hx|hx
  ·exact h.kb x hx
  ·exact⟨(ht.m x hx).1,k.v.m x hx⟩
 have hkn:(s.k++t.wK).Nodup:=by
  rw[List.nodup_append]
  exact⟨h.kn,k.v.mn,fun a ha b hb e=>k.m b hb (e▸ha)⟩
 have hkl:(s.k++t.wK).length<=4*(c+1):=by
  rw[List.length_append]
  have:=h.kl
  have:=k.v.ml
  omega
 have hdep:GoodA (c+1) (depA s.b t)/\(t.wP=0->depA s.b t=s.b)/\sumA (depA s.b t)=sumA s.b-t.wP:=by
  unfold depA
  split
  ·rename_i hd
   exact⟨k9l h.b (by omega) ⟨ht.ac.1,a4⟩ hd0 ⟨ht.n.1,by have:=ht.n.2;omega⟩,fun h0=>by omega,kfw h.b.1.1 (k.d hd)⟩
  ·rename_i hd
   exact⟨⟨h.b.1,h.b.2.1,Nat.le_succ_of_le h.b.2.2⟩,fun _=>rfl,by omega⟩
 have hwd:GoodA (c+1) (wdA s.b t).1/\((wdA s.b t).2=0->sumA (wdA s.b t).1=sumA s.b-t.wP+t.wd):=by
  unfold wdA
  split
  ·rename_i hw
   have hz:t.wP=0:=by
    rcases Int.lt_or_le 0 t.wP with h1|h1
    ·have:=a5 h1;omega
    ·omega
   rw[hdep.2.1 hz]
   exact⟨k7c h.b (by omega) ⟨ht.ac.1,a4⟩ hw0,fun he=>by rw[k96 h.b.1.1 he];omega⟩
  ·exact⟨hdep.1,fun _=>by simp only;omega⟩
 have hlen:(s.l++t.wN.map (·.wm)).length<=2^s.R.wD.toNat:=by simp only[List.length_append,List.length_map];exact k.l
 refine⟨⟨f,?_⟩,?_,?_⟩
 ·have base:PI {s with F:=outsF s.F t.wN,l:=s.l++t.wN.map (·.wm),k:=s.k++t.wK,v:=trs (s.k++t.wK)} (c+1) f:=
   ⟨h.d1,h.d2,h.w1,h.w2,h.rw,hF,hlen,hl,⟨h.b.1,h.b.2.1,Nat.le_succ_of_le h.b.2.2⟩,h.n,h.ff,h.sup,h.r,h.rl,by have:=h.p;simp only;omega,hkn,hkb,hkl,rfl⟩
  unfold perfS
  split
  ·exact base
  ·exact base
 ·unfold perfS
  split
  ·exact hdep.1
  ·exact hwd.1
 ·intro he
  unfold perfS at he ⊢
  split at he
  ·rename_i h1;exact(h1 he).elim
  ·rename_i h1
   rw[if_neg h1]
   have hz:(wdA s.b t).2=0:=Classical.byContradiction h1
   have hn0:=h.n
   have hh:hidN s.n t=s.n+t.wP-t.wd-t.Fee:=by
    unfold hidN
    rw[wrap_u64 (s.n+t.wP) (by omega) (by omega),wrap_u64 (s.n+t.wP-t.wd) (by omega) (by omega),wrap_u64 _ (by omega) (by omega)]
   refine⟨h.d1,h.d2,h.w1,h.w2,h.rw,hF,hlen,hl,hwd.1,?_,by have:=h.ff;omega,?_,h.r,h.rl,by have:=h.p;simp only;omega,hkn,hkb,hkl,rfl⟩
   ·simp only[hh];omega
   ·have h9:=h.sup
    simp only[hh,hwd.2 hz]
    omega
theorem kg1 (s:PS) (t:wx):(perfS s t).s.R=s.R/\(perfS s t).s.p=s.p/\(perfS s t).s.r=s.r/\(perfS s t).s.l=s.l++t.wN.map (·.wm)/\(perfS s t).s.k=s.k++t.wK/\(perfS s t).s.v=trs (s.k++t.wK):=by
 unfold perfS
 split<;>exact⟨rfl,rfl,rfl,rfl,rfl,rfl⟩
end Go.Proofs.YtijdfglbhaedoaaGreat
end
