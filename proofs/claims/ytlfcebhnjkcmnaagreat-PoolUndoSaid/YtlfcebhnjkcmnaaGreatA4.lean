/-
  Parts of the proofs that the laws of this seat hold of every input, merged by a program: a machine over pure data that is sound for the model, what each function of the translation does in it, and plain lemmas. No conditions but those in each theorem.
-/
import Derived.Test.YtlfcebhnjkcmnaaGreatA3
set_option linter.all false
set_option maxRecDepth 100000
noncomputable section
namespace Go.Bv
open Go.RowKit
def Lk (T:Tk) (s s' :St):Prop:=∀(G0:Gh) (w0:World) (N:Nat) (a:Act) (G:Gh) (w:World),R T G0 w0 N s a G w->∃G',R T G0 w0 N s' a G' w
theorem Wk.lk {T:Tk} {s s' :St} (h:Wk s s'):Lk T s s' :=fun G0 w0 N a G w hR=>⟨G,h T G0 w0 N a G w hR⟩
theorem St.le.lk {T:Tk} {s s' :St} (h:St.le T.nx s s'):Lk T s s' :=fun _ _ _ _ G _ hR=>⟨G,hR.le h⟩
theorem Lk.trans {T:Tk} {a b c:St} (h:Lk T a b) (h' :Lk T b c):Lk T a c:=fun G0 w0 N x G w hR=>let⟨G1,h1⟩:=h G0 w0 N x G w hR;h' G0 w0 N x G1 w h1
section
variable {P:Program} {T:Tk} {G0:Gh} {w0:World} {N:Nat} {s:St} {Q:Exit->St->Prop}
theorem sat_lk {c:Code} {s' :St} (hl:Lk T s s') (h:Sat P T G0 w0 N c s' Q):Sat P T G0 w0 N c s Q:=fun G a w hR=>let⟨G1,h1⟩:=hl _ _ _ _ _ _ hR;h G1 a w h1
theorem khk {c:Code} {Q' :Exit->St->Prop} (h:Sat P T G0 w0 N c s Q) (hq:∀e s,Q e s->∃s',Q' e s'/\Lk T s s'):Sat P T G0 w0 N c s Q' :=
 fun G a w hR=>wp_mono (h G a w hR) fun _ _ _ ⟨s',G',h1,h2⟩=>let⟨s2,k1,k2⟩:=hq _ s' h1;let⟨G2,h3⟩:=k2 _ _ _ _ _ _ h2;⟨s2,G2,k1,h3⟩
theorem kf1 {ι:Type} (st:ι->St) (p:ι->Prop) (μ:ι->Nat) {c:Code} (i0:ι) (h0:p i0) (hl:Lk T s (st i0))
  (round:∀i,p i->Sat P T G0 w0 N c (st i) (thenA (fun s' =>∃i',p i'/\μ i' <μ i/\Lk T s' (st i')) Q)):Sat P T G0 w0 N (.loop c) s Q:=by
 intro G a w hR
 have key:∀n i,μ i=n->p i->∀G a w,R T G0 w0 N (st i) a G w->∀(b:Frame) (k:List Item) (cs:List Frame),∃e a' w',(∃s' G',Q e s'/\R T G0 w0 N s' a' G' w')/\Arrives P (lone (b.at a (.code c:: .inLoop c::k)) cs w) b k cs e a' w' :=by
  intro n
  induction n using Nat.strongRecOn with
  |_ n ih=>
   intro i hn hp G a w hR b k cs
   obtain⟨e,a1,w1,⟨s1,G1,hq,hR1⟩,harr⟩:=round i hp G a w hR b (.inLoop c::k) cs
   cases e with
   |normal=>
    obtain⟨i',h1,h2,h3⟩:=hq
    obtain⟨G2,hR2⟩:=h3 _ _ _ _ _ _ hR1
    obtain⟨e2,a2,w2,hq2,harr2⟩:=ih (μ i') (hn▸h2) i' rfl h1 G2 a1 w1 hR2 b k cs
    exact⟨e2,a2,w2,hq2,.of_steps (Steps.trans harr (.one step_inLoop)) harr2⟩
   |exit id=>exact⟨_,a1,w1,⟨s1,G1,hq,hR1⟩,.pass (x:= .inLoop c) rfl (fun _ _=> .inl (by simp)) harr⟩
   |goto l=>exact⟨_,a1,w1,⟨s1,G1,hq,hR1⟩,.pass (x:= .inLoop c) rfl (fun _ _=> .inl (by simp)) harr⟩
   |ret=>exact⟨_,a1,w1,⟨s1,G1,hq,hR1⟩,.pass (x:= .inLoop c) rfl (fun _ _=> .inl (by simp)) harr⟩
   |panic ch=>exact⟨_,a1,w1,⟨s1,G1,hq,hR1⟩,.pass (x:= .inLoop c) rfl (fun _ _=> .inl (by simp)) harr⟩
   |outgrown=>exact⟨_,a1,w1,⟨s1,G1,hq,hR1⟩,.pass (x:= .inLoop c) rfl (fun _ _=> .inl (by simp)) harr⟩
 intro b k cs
 obtain⟨G1,hR1⟩:=hl _ _ _ _ _ _ hR
 obtain⟨e,a',w',hq,harr⟩:=key _ i0 rfl h0 G1 a w hR1 b k cs
 exact⟨e,a',w',hq,.of_steps (.one step_loop) harr⟩
end
end Go.Bv
namespace Go.Cv
open Go Go.Bv Go.RowKit Go.Md
section
variable {T:Tab} {P:Program} {C:Cx T} {N:Nat}
theorem args_ok {σ:Nat->Nat} {f:List (Option (TOb T.den))} {m nx:Nat} (hσ:∀j,j<m->σ j<nx) (l:List Sh0) (r:List Ty) (x:HL T.den (hsT l r)) (h:okTB m l=true):∀z∈(tkT σ f l r x).1.map (er T),ok nx z:=by
 intro z hz
 rw[tkT_er]at hz
 obtain⟨u,_,rfl⟩:=List.mem_map.1 hz
 exact ok_of0 (okT_mem (tkT_ok hσ l r x h) _ hz) k1j
theorem sgs_lt {ids:List Nat} {n nx:Nat} (h:allLt nx ids=true) (hl:ids.length=n):∀j,j<n->sgs ids j<nx:=by
 intro j hj
 have hj:j<ids.length:=by omega
 have e:sgs ids j=ids[j]:=by simp[sgs,hj]
 rw[e]
 exact k1i h _ (List.getElem_mem hj)
def rho:List Nat->List Nat->Nat->Nat
 |x::a,y::b,i=>if i=x then y else rho a b i
 |_,_,i=>i
theorem kbh {x:Nat}:∀{l:List Nat} {p q:Nat},l.Nodup->l[p]? =some x->l[q]? =some x->p=q
 |[],p,q,_,h,_=>by simp at h
 |y::l,0,0,_,_,_=>rfl
 |y::l,0,q+1,hn,h1,h2=>by
  simp at h1 h2
  exact absurd (List.mem_of_getElem? h2) (by rw[<-h1];exact(List.nodup_cons.1 hn).1)
 |y::l,p+1,0,hn,h1,h2=>by
  simp at h1 h2
  exact absurd (List.mem_of_getElem? h1) (by rw[<-h2];exact(List.nodup_cons.1 hn).1)
 |y::l,p+1,q+1,hn,h1,h2=>by
  simp at h1 h2
  rw[kbh (List.nodup_cons.1 hn).2 h1 h2]
theorem rho_at:∀{a b:List Nat} {j:Nat},a.Nodup->j<a.length->j<b.length->rho a b (sgs a j)=sgs b j
 |[],_,j,_,h,_=>by simp at h
 |_::_,[],j,_,_,h=>by simp at h
 |x::a,y::b,0,_,_,_=>by simp[rho,sgs]
 |x::a,y::b,j+1,hn,h1,h2=>by
  have h1:j<a.length:=by simpa using h1
  have h2:j<b.length:=by simpa using h2
  have e1:sgs (x::a) (j+1)=sgs a j:=by simp[sgs]
  have e2:sgs (y::b) (j+1)=sgs b j:=by simp[sgs]
  have hne:sgs a j≠x:=by
   intro e
   rw[List.nodup_cons]at hn
   apply hn.1
   have:sgs a j=a[j]:=by simp[sgs,h1]
   rw[<-e,this]
   exact List.getElem_mem h1
  rw[e1,e2]
  simp only[rho]
  rw[if_neg hne]
  exact rho_at (List.nodup_cons.1 hn).2 h1 h2
theorem rho_fix {n0:Nat}:∀{a b:List Nat},fixB n0 a b=true->a.length=b.length/\∀i,i<n0->rho a b i=i
 |[],[],_=>⟨rfl,fun _ _=>rfl⟩
 |[],_::_,h=>by cases h
 |_::_,[],h=>by cases h
 |x::a,y::b,h=>by
  simp only[fixB,Bool.and_eq_true,Bool.or_eq_true,Bool.not_eq_true']at h
  obtain⟨g1,g2⟩:=rho_fix h.2
  refine⟨by simp[g1],fun i hi=> ?_⟩
  simp only[rho]
  split
  ·rename_i e
   subst e
   rcases h.1 with h1|h1
   ·have:Nat.blt i n0=true:=by simp[Nat.blt_eq,hi]
    rw[this]at h1;cases h1
   ·exact(nb_eq h1).symm
  ·exact g2 i hi
theorem rho_lt {n:Nat}:∀{a b:List Nat} {i:Nat},(∀x∈b,x<n)->i<n->rho a b i<n
 |[],[],_,_,h=>h
 |[],_::_,_,_,h=>h
 |_::_,[],_,_,h=>h
 |x::a,y::b,i,hb,h=>by
  simp only[rho]
  split
  ·exact hb y (by simp)
  ·exact rho_lt (fun z hz=>hb z (by simp[hz])) h
theorem k3g {ρ σ τ:Nat->Nat} {m:Nat} (h:∀j,j<m->ρ (σ j)=τ j):∀{l:List (Option (Nat×Nat))},okP m l->renP ρ (renP σ l)=renP τ l
 |[],_=>rfl
 |none::_,hl=>congrArg (List.cons none) (k3g h (l:=_) hl)
 |some (i,_)::_,hl=>by
  simp only[renP]
  rw[h i hl.1,k3g h hl.2]
theorem km0 {ρ σ τ:Nat->Nat} {m:Nat} (h:∀j,j<m->ρ (σ j)=τ j) {x:V} (hx:ok1 m x):ren1 ρ (ren1 σ x)=ren1 τ x:=by
 cases x<;>first|rfl|(simp only[ren1];rw[h _ hx])|(simp only[ren1];rw[k3g h hx.1,k3g h hx.2])|exact False.elim hx
theorem kb6 {ρ σ τ:Nat->Nat} {m:Nat} (h:∀j,j<m->ρ (σ j)=τ j):∀{l:List V},okL m l->(l.map (ren1 σ)).map (ren1 ρ)=l.map (ren1 τ)
 |[],_=>rfl
 |x::l,hl=>by
  simp only[List.map_cons]
  rw[km0 h hl.1,kb6 h hl.2]
theorem kab {ρ σ τ:Nat->Nat} {m:Nat} (h:∀j,j<m->ρ (σ j)=τ j) {x:V} (hx:ok0 m x):ren0 ρ (ren0 σ x)=ren0 τ x:=by
 cases x with
 |agg l=>exact congrArg V.agg (kb6 h hx)
 |_=>first|rfl|exact False.elim hx|(simp only[ren0,ren1];rw[h _ hx])|(simp only[ren0,ren1];rw[k3g h hx.1,k3g h hx.2])
theorem kb0 {ρ σ τ:Nat->Nat} {m:Nat} (h:∀j,j<m->ρ (σ j)=τ j):∀{l:List V},okT m l->(l.map (ren0 σ)).map (ren0 ρ)=l.map (ren0 τ)
 |[],_=>rfl
 |x::l,hl=>by
  simp only[List.map_cons]
  rw[kab h hl.1,kb0 h hl.2]
theorem kaj {ρ σ τ:Nat->Nat} {m:Nat} (h:∀j,j<m->ρ (σ j)=τ j):∀{l:List (D×V)},okM m l->(l.map fun e=>(e.1,ren0 σ e.2)).map (fun e=>(e.1,ren0 ρ e.2))=l.map fun e=>(e.1,ren0 τ e.2)
 |[],_=>rfl
 |x::l,hl=>by
  simp only[List.map_cons]
  rw[kab h hl.1,kaj h hl.2]
theorem khn {ρ σ τ:Nat->Nat} {m:Nat} (h:∀j,j<m->ρ (σ j)=τ j) {o:Ob} (ho:okO m o):renO ρ (renO σ o)=renO τ o:=by
 cases o with
 |cells l=>exact congrArg Ob.cells (kb6 h ho)
 |map x=>cases x with
  |m l=>exact congrArg (fun z=>Ob.map (.m z)) (kaj h ho)
  |it mid l last=>
   show Ob.map (.it (ρ (σ mid)) _ _)=Ob.map (.it (τ mid) _ _)
   rw[h mid ho.1,kaj h ho.2.1]
   cases last with
   |none=>rfl
   |some e=>
    show Ob.map (.it _ _ (some (e.1,ren0 ρ (ren0 σ e.2))))=Ob.map (.it _ _ (some (e.1,ren0 τ e.2)))
    rw[kab h (ho.2.2 e rfl)]
 |_=>rfl
theorem hpN_get {σ:Nat->Nat}:∀(os:List (TOb T.den)) (k i:Nat) (ob:Ob),Hp.get (erH T (hpN σ k os)) i=some ob->∃p o,os[p]? =some o/\i=σ (k+p)/\ob=erO T o
 |[],k,i,ob,h=>by cases h
 |o::os,k,i,ob,h=>by
  have h:Hp.get ((σ k,erO T o)::erH T (hpN σ (k+1) os)) i=some ob:=h
  simp only[Hp.get]at h
  split at h
  ·rename_i e
   injection h with h
   exact⟨0,o,rfl,e,h.symm⟩
  ·obtain⟨p,o',h1,h2,h3⟩:=hpN_get os (k+1) i ob h
   exact⟨p+1,o',by simpa using h1,by rw[h2];congr 1;omega,h3⟩
theorem slotsR {sl:List (Nat×TV T.den)} {nx:Nat} {ρ:Nat->Nat}:∀(ts:List Nat) (vs:List (TV T.den)),leAll ((ts.map (getT sl)).map (er T)) ((vs.map (er T)).map (ren ρ))->(∀z∈vs.map (er T),ok nx z)->∀t,
  getS ((zipS T ts vs).map fun p=>(p.1,er T p.2)) t= .any∨(le (getS (sl.map fun p=>(p.1,er T p.2)) t) (ren ρ (getS ((zipS T ts vs).map fun p=>(p.1,er T p.2)) t))/\ok nx (getS ((zipS T ts vs).map fun p=>(p.1,er T p.2)) t))
 |[],[],_,_,_=> .inl rfl
 |[],_::_,h,_,_=>h.elim
 |_::_,[],h,_,_=>h.elim
 |u::ts,v::vs,h,ho,t=>by
  simp only[zipS,List.map_cons,getS]
  split
  ·rename_i e
   subst e
   refine .inr ⟨?_,ho _ (by simp)⟩
   rw[getS_er]
   exact h.1
  ·exact slotsR ts vs h.2 (fun z hz=>ho z (by simp only[List.map_cons,List.mem_cons];exact .inr hz)) t
theorem fcL_eq:∀{l:List Nat} {K:List Nat->Prop},fcL l K->K l
 |[],_,h=>h
 |x::r,K,h=>fcL_eq (l:=r) (K:=fun r=>K (x::r)) h
theorem mat_snd (hT:T.Ok) {Tk:Tk} {m:Tm} {s:TSt T.den} {J:HL T.den m.hs->Prop} (h:m.mat T Tk.nx s J):∃i,J i/\Lk Tk (erS T s) (erS T (m.fill T i)):=by
 unfold Tm.mat at h
 obtain⟨h1,h2⟩:=cnd h
 simp only[Bool.and_eq_true,Tm.okB]at h1
 obtain⟨⟨a1,a2⟩,⟨⟨⟨⟨⟨⟨b1,b2⟩,b3⟩,b4⟩,b5⟩,b6⟩,b7⟩⟩:=h1
 replace h2:=fcL_eq h2
 generalize m.at T Tk.nx s=ids at h2
 obtain⟨h3,h4⟩:=cnd h2
 simp only[Bool.and_eq_true]at h3
 obtain⟨⟨⟨c1,c2⟩,c3⟩,c4⟩:=h3
 have c1:=k1o c1
 have c2:=k1o c2
 obtain⟨c5,c6⟩:=rho_fix c4
 split at h4
 ·rename_i b hb
  obtain⟨y,g1,g2,g3⟩:=k7i hT b7 hb h4
  obtain⟨x,k1,k2,_,k4⟩:=mtT_snd m.ss _ _ y _ b6 g1
  have hf:m.f T x=tkB m.os b:=by unfold Tm.f;rw[k2,g2]
  have hlt:=sgs_lt b3 (nb_eq b4)
  have hlen:m.os.length=m.ids.length:=(nb_eq b4).symm
  have hrho:∀j,j<m.os.length->rho m.ids ids (sgs m.ids j)=sgs ids j:=fun j hj=>rho_at c1 (by omega) (by omega)
  have hid1:∀j,j<m.os.length->idf j<m.os.length:=fun j h=>h
  refine⟨x,k1,fun G0 w0 N a G w hR=> ?_⟩
  have hget:∀id ob,(erS T (m.fill T x)).h.get id=some ob->∃p o,(tkC (sgs m.ids) (tkB m.os b) 0 m.os (hsB m.os) y).1[p]? =some o/\p<m.os.length/\id=sgs m.ids p/\ob=erO T o:=by
   intro id ob hg
   have hg:Hp.get (erH T (hpN (sgs m.ids) 0 (tkC (sgs m.ids) (m.f T x) 0 m.os _ (drT m.ss _ x)).1)) id=some ob:=hg
   rw[hf,k2]at hg
   obtain⟨p,o,q1,q2,q3⟩:=hpN_get _ _ _ _ hg
   rw[Nat.zero_add]at q2
   exact⟨p,o,q1,by have:=(List.getElem?_eq_some_iff.1 q1).1;rw[tkC_len]at this;exact this,q2,q3⟩
  refine hR.leRen (σ:=rho m.ids ids) (ble_le a1) c6 (fun i hi=>rho_lt (k1i c3) (Nat.lt_of_lt_of_le hi (ble_le a2))) (fun i j li lj hij=> ?_) (fun id ob hg=> ?_) ?_
  ·obtain⟨oi,hoi,_⟩:=live_of li
   obtain⟨oj,hoj,_⟩:=live_of lj
   obtain⟨p,_,_,q1,q2,_⟩:=hget i oi hoi
   obtain⟨q,_,_,r1,r2,_⟩:=hget j oj hoj
   rw[q2,r2,hrho p q1,hrho q r1]at hij
   have e1:sgs ids p=ids[p]'(by omega):=by simp[sgs,show p<ids.length by omega]
   have e2:sgs ids q=ids[q]'(by omega):=by simp[sgs,show q<ids.length by omega]
   rw[e1,e2]at hij
   have:=kbh c2 (List.getElem?_eq_getElem (show p<ids.length by omega)) (by rw[hij];exact List.getElem?_eq_getElem (show q<ids.length by omega))
   rw[q2,r2,this]
  ·obtain⟨p,o,q1,q2,rfl,rfl⟩:=hget id ob hg
   refine⟨hlt p q2,?_,tkC_ok (k18 _ _) hlt 0 m.os _ y b2 p o q1⟩
   
   have hl1:p<(tkC (sgs ids) (tkB m.os b) 0 m.os (hsB m.os) y).1.length:=by rw[tkC_len];exact q2
   have hl0:p<(tkC idf (tkB m.os b) 0 m.os (hsB m.os) y).1.length:=by rw[tkC_len];exact q2
   have w1:=congrArg (fun l=>l[p]?) (tkC_ren (sgs m.ids) (tkB m.os b) (k18 m.os b) 0 m.os (hsB m.os) y)
   have w2:=congrArg (fun l=>l[p]?) (tkC_ren (sgs ids) (tkB m.os b) (k18 m.os b) 0 m.os (hsB m.os) y)
   simp only[List.getElem?_map,q1,Option.map_some,List.getElem?_eq_getElem hl0,List.getElem?_eq_getElem hl1,Option.some.injEq]at w1 w2
   have w3:=tkC_ok (k18 m.os b) hid1 0 m.os (hsB m.os) y b2 p _ (List.getElem?_eq_getElem hl0)
   rw[hrho p q2,w1,khn hrho w3,<-w2]
   exact g3 p _ (List.getElem?_eq_getElem hl1)
  ·intro t
   have key:leAll ((m.ts.map (getT s.sl)).map (er T)) (((tkT (sgs m.ids) (m.f T x) m.ss (hsOs m.os) x).1.map (er T)).map (ren (rho m.ids ids))):=by
    have e1:((tkT (sgs m.ids) (m.f T x) m.ss (hsOs m.os) x).1.map (er T)).map (ren (rho m.ids ids))=(tkT (sgs ids) (tkB m.os b) m.ss (hsOs m.os) x).1.map (er T):=by
     rw[hf,tkT_er,tkT_er]
     have:((tkT (sgs m.ids) (tkB m.os b) m.ss (hsOs m.os) x).1.map (er0 T)).map (ren (rho m.ids ids))=((tkT (sgs m.ids) (tkB m.os b) m.ss (hsOs m.os) x).1.map (er0 T)).map (ren0 (rho m.ids ids)):=by
      rw[List.map_map,List.map_map]
      exact List.map_congr_left fun v _=>ren_0 _ k1j
     rw[this,k2j (sgs m.ids),k2j (sgs ids)]
     exact kb0 hrho (tkT_ok hid1 m.ss _ x b1)
    rw[e1];exact k4
   exact slotsR m.ts _ key (args_ok hlt m.ss _ x b1) t
 ·exact h4.elim
section
variable {Tk:Tk} {G0:Gh} {w0:World} {a:Act} {G:Gh} {w:World}
theorem kbs {id n z:Nat} {v:TV T.den} {h:THp T.den} {nx:Nat} (hv:∀u,RepV G w (erH T h) nx u (.row id 0 n z)->RepV G w (erH T h) nx u (er T v)):∀(ts:List Nat) (sl:List (Nat×TV T.den)) (K:List (Nat×TV T.den)->Prop),rowsTo T id v n z ts sl K->R Tk G0 w0 N (erS T ⟨sl,h,nx⟩) a G w->∃sl',K sl'/\R Tk G0 w0 N (erS T ⟨sl',h,nx⟩) a G w
 |[],sl,K,hk,hR=>⟨sl,hk,hR⟩
 |t::ts,sl,K,hk,hR=>by
  simp only[rowsTo]at hk
  split at hk
  ·rename_i i e' m hg
   obtain⟨h1,h2,h3⟩:=cnd hk
   simp only[Bool.and_eq_true]at h1
   refine kbs hv ts _ K h3 ?_
   have hs:=hR.sl t
   rw[show getS (erS T ⟨sl,h,nx⟩).sl t=er T (getT sl t)from getS_er sl t,hg]at hs
   have hs:RepV G w (erH T h) nx (a.tmps.getD t undef) (.row i 0 m (T.sz e')):=hs
   rw[nb_eq h1.1,h2,nb_eq h1.2]at hs
   exact hR.reslot t (hv _ hs)
  ·exact hk.elim
theorem kf2 {e:Ty} {v:TV T.den} {l:List (e.den T.den)} (h:growE T e v=some l):growsFrom (T.sz e) (l.map (T.e e)) (er1 T v)/\v.sim=true:=by
 unfold growE at h
 split at h
 ·obtain⟨c1,c2,_⟩:=kp h
  exact⟨⟨c1,c2⟩,rfl⟩
 ·rename_i u
  cases hn:isNilK u with
  |false=>rw[hn]at h;cases h
  |true=>
   rw[hn]at h
   injection h with h
   subst h
   rw[k1s hn]
   exact⟨rfl,rfl⟩
 ·cases h
theorem kek {h:THp T.den} {v:TV T.den} {K:Nat->(e:Ty)->List (e.den T.den)->Prop} (hh:trimV T h v K):
  ∃id e l l0,K id e l/\getH h id=some (.vec e l0)/\l=l0.take l.length/\l.length<=l0.length/\er1 T v= .row id 0 l.length (T.sz e)/\v.sim=true:=by
 unfold trimV at hh
 split at hh
 ·rename_i id e n
  split at hh
  ·rename_i e' l hg
   obtain⟨h1,h2,h3⟩:=cnd hh
   obtain rfl:=Ty.eq_of_beq h1
   exact⟨id,e,l,l,h3,hg,by simp,Nat.le_refl _,by rw[h2];rfl,rfl⟩
  ·exact hh.elim
 ·rename_i id e off n
  split at hh
  ·rename_i e' l hg
   obtain⟨h1,h2,h3,h4⟩:=cnd hh
   obtain rfl:=Ty.eq_of_beq h1
   have e1:(l.take n).length=n:=by rw[List.length_take];omega
   exact⟨id,e,l.take n,l,h4,hg,by rw[e1],by rw[e1];exact h3,by rw[e1,h2];simp[er1],rfl⟩
  ·exact hh.elim
 ·exact hh.elim
theorem trim_ob (hT:T.Ok) {e:Ty} {l l0:List (e.den T.den)} (h1:l=l0.take l.length) (h2:l.length<=l0.length):(((l0.map (T.e e)).flatMap D.cells).map V.d).take (l.length*T.sz e)=((l.map (T.e e)).flatMap D.cells).map V.d:=by
 rw[<-List.map_take,k95 hT l0 _ h2,<-h1]
theorem gh1_snd (hT:T.Ok) {s:TSt T.den} {K:TSt T.den->Prop}:∀(g:Gs),gh1 T s K g->R Tk G0 w0 N (erS T s) a G w->∃s' G',K s'/\R Tk G0 w0 N (erS T s') a G' w
 | .frz id ts,h,hR=>by
  simp only[gh1]at h
  split at h
  ·rename_i e l hg
   have hgl:(erS T s).h.get id=some (.cells (((l.map (T.e e)).flatMap D.cells).map V.d)):=by show(erH T s.h).get id=_;rw[getH_er,hg];rfl
   obtain⟨G',h1,_,h2⟩:=hR.freeze hgl (map_sz hT l) (by rw[List.length_map]:(l.map (T.e e)).length=l.length)
   obtain⟨sl',k1,k2⟩:=kbs (T:=T) (h:=(s.nx,.tip e l)::(id,.dead)::s.h) (nx:=s.nx+1) (v:= .own s.nx e l) (z:=T.sz e) (n:=l.length) (id:=id) (G:=G') (w:=w) (fun u hu=>h2 u hu) ts s.sl _ h h1
   exact⟨_,G',k1,k2⟩
  ·exact h.elim
 | .frzc id i j,h,hR=>by
  simp only[gh1]at h
  split at h
  ·rename_i e l cs hg hi
   split at h
   ·rename_i id' e' m hj
    obtain⟨h1,h2,h3⟩:=cnd h
    simp only[Bool.and_eq_true,Bool.not_eq_true']at h1
    have q1:=nb_eq h1.1.1
    have q2:=Ty.eq_of_beq h1.1.2
    have q3:i≠id:=fun e=>by rw[e,nb_self]at h1;cases h1.2
    subst q1
    subst q2
    subst h2
    have hgl:(erS T s).h.get id' =some (.cells (((l.map (T.e e')).flatMap D.cells).map V.d)):=by show(erH T s.h).get id' =_;rw[getH_er,hg];rfl
    have hil:(erS T s).h.get i=some (.cells (cs.map (er1 T))):=by show(erH T s.h).get i=_;rw[getH_er,hi];rfl
    obtain⟨G',f1,_,f2⟩:=hR.freeze hgl (map_sz hT l) (by rw[List.length_map]:(l.map (T.e e')).length=l.length)
    have hin:i<s.nx:=hR.wr.hid _ _ hil
    have hg' :Hp.get ((s.nx,Ob.tip l.length)::(id',.dead)::erH T s.h) i=some (.cells (cs.map (er1 T))):=by simp only[Hp.get];rw[if_neg (by omega),if_neg q3];exact hil
    have hx:(cs.map (er1 T))[j]? =some (.row id' 0 l.length (T.sz e')):=by rw[List.getElem?_map,hj];rfl
    have:=f1.recell (s:=⟨(erS T s).sl,(s.nx,.tip l.length)::(id',.dead)::erH T s.h,s.nx+1⟩) (y:= .own s.nx (T.sz e') (l.map (T.e e'))) hg' hx rfl (fun v=>f2 v)
    refine⟨_,G',h3,?_⟩
    have e:erS T ⟨s.sl,(i,.cells (cs.set j (.own s.nx e' l)))::(s.nx,.tip e' l)::(id',.dead)::s.h,s.nx+1⟩=⟨(erS T s).sl,(i,.cells ((cs.map (er1 T)).set j (.own s.nx (T.sz e') (l.map (T.e e')))))::(s.nx,.tip l.length)::(id',.dead)::erH T s.h,s.nx+1⟩:=by
     show St.mk _ ((i,Ob.cells ((cs.set j (.own s.nx e' l)).map (er1 T)))::_) _=_
     rw[List.map_set];rfl
    rw[e];exact this
   ·exact h.elim
  ·exact h.elim
 | .tok t e,h,hR=>by
  simp only[gh1]at h
  split at h
  ·rename_i l hl
   obtain⟨g1,g2⟩:=kf2 hl
   obtain⟨G',h1,h2⟩:=hR.tok (T.sz e) (l.map (T.e e))
   rw[List.length_map]at h1 h2
   have hs:=h1.sl t
   have hs:RepV G' w ((s.nx,.tip l.length)::erH T s.h) (s.nx+1) (a.tmps.getD t undef) (getS (erS T s).sl t):=hs
   rw[show getS (erS T s).sl t=er T (getT s.sl t)from getS_er s.sl t,er_sim g2]at hs
   exact⟨_,G',h,h1.reslot t (h2 _ _ g1 hs)⟩
  ·exact h.elim
 | .tokc id j e,h,hR=>by
  simp only[gh1]at h
  split at h
  ·rename_i cs hi
   split at h
   ·rename_i v hj
    split at h
    ·rename_i l hl
     obtain⟨g1,g2⟩:=kf2 hl
     have hil:(erS T s).h.get id=some (.cells (cs.map (er1 T))):=by show(erH T s.h).get id=_;rw[getH_er,hi];rfl
     obtain⟨G',h1,h2⟩:=hR.tok (T.sz e) (l.map (T.e e))
     rw[List.length_map]at h1 h2
     have hin:id<s.nx:=hR.wr.hid _ _ hil
     have hg' :Hp.get ((s.nx,Ob.tip l.length)::erH T s.h) id=some (.cells (cs.map (er1 T))):=by simp only[Hp.get];rw[if_neg (by omega)];exact hil
     have hx:(cs.map (er1 T))[j]? =some (er1 T v):=by rw[List.getElem?_map,hj];rfl
     have:=h1.recell (s:=⟨(erS T s).sl,(s.nx,.tip l.length)::erH T s.h,s.nx+1⟩) (y:= .own s.nx (T.sz e) (l.map (T.e e))) hg' hx rfl (fun u=>h2 _ u g1)
     refine⟨_,G',h,?_⟩
     have e:erS T ⟨s.sl,(id,.cells (cs.set j (.own s.nx e l)))::(s.nx,.tip e l)::s.h,s.nx+1⟩=⟨(erS T s).sl,(id,.cells ((cs.map (er1 T)).set j (.own s.nx (T.sz e) (l.map (T.e e)))))::(s.nx,.tip l.length)::erH T s.h,s.nx+1⟩:=by
      show St.mk _ ((id,Ob.cells ((cs.set j (.own s.nx e l)).map (er1 T)))::_) _=_
      rw[List.map_set];rfl
     rw[e];exact this
    ·exact h.elim
   ·exact h.elim
  ·exact h.elim
 | .trim t,h,hR=>by
  simp only[gh1]at h
  obtain⟨id,e,l,l0,h1,h2,h3,h4,h5,h6⟩:=kek h
  have hgl:(erS T s).h.get id=some (.cells (((l0.map (T.e e)).flatMap D.cells).map V.d)):=by show(erH T s.h).get id=_;rw[getH_er,h2];rfl
  obtain⟨G',f1,f2⟩:=hR.trim hgl (l.length*T.sz e)
  rw[trim_ob hT h3 h4]at f1 f2
  have hs:=f1.sl t
  have hs:RepV G' w ((s.nx,.cells (((l.map (T.e e)).flatMap D.cells).map V.d))::(id,.dead)::erH T s.h) (s.nx+1) (a.tmps.getD t undef) (getS (erS T s).sl t):=hs
  rw[show getS (erS T s).sl t=er T (getT s.sl t)from getS_er s.sl t,er_sim h6,h5]at hs
  exact⟨_,G',h1,f1.reslot t (f2 _ _ _ hs)⟩
 | .trimc id j,h,hR=>by
  simp only[gh1]at h
  split at h
  ·rename_i cs hi
   split at h
   ·rename_i v hj
    obtain⟨id',e,l,l0,h1,h2,h3,h4,h5,h6⟩:=kek h
    have hne:id'≠id:=by rintro rfl;rw[hi]at h2;cases h2
    rw[nb_ne hne,cond_false]at h1
    have hgl:(erS T s).h.get id' =some (.cells (((l0.map (T.e e)).flatMap D.cells).map V.d)):=by show(erH T s.h).get id' =_;rw[getH_er,h2];rfl
    have hil:(erS T s).h.get id=some (.cells (cs.map (er1 T))):=by show(erH T s.h).get id=_;rw[getH_er,hi];rfl
    obtain⟨G',f1,f2⟩:=hR.trim hgl (l.length*T.sz e)
    rw[trim_ob hT h3 h4]at f1 f2
    have hin:id<s.nx:=hR.wr.hid _ _ hil
    have hg' :Hp.get ((s.nx,Ob.cells (((l.map (T.e e)).flatMap D.cells).map V.d))::(id',.dead)::erH T s.h) id=some (.cells (cs.map (er1 T))):=by simp only[Hp.get];rw[if_neg (by omega),if_neg (Ne.symm hne)];exact hil
    have hx:(cs.map (er1 T))[j]? =some (.row id' 0 l.length (T.sz e)):=by rw[List.getElem?_map,hj,<-h5];rfl
    have:=f1.recell (s:=⟨(erS T s).sl,(s.nx,.cells (((l.map (T.e e)).flatMap D.cells).map V.d))::(id',.dead)::erH T s.h,s.nx+1⟩) (y:= .row s.nx 0 l.length (T.sz e)) hg' hx rfl (fun u=>f2 u _ _)
    refine⟨_,G',h1,?_⟩
    have e1:erS T ⟨s.sl,(id,.cells (cs.set j (.row s.nx e l.length)))::(s.nx,.vec e l)::(id',.dead)::s.h,s.nx+1⟩=⟨(erS T s).sl,(id,.cells ((cs.map (er1 T)).set j (.row s.nx 0 l.length (T.sz e))))::(s.nx,.cells (((l.map (T.e e)).flatMap D.cells).map V.d))::(id',.dead)::erH T s.h,s.nx+1⟩:=by
     show St.mk _ ((id,Ob.cells ((cs.set j (.row s.nx e l.length)).map (er1 T)))::_) _=_
     rw[List.map_set];rfl
    rw[e1];exact this
   ·exact h.elim
  ·exact h.elim
 | .rnil t e,h,hR=>by
  simp only[gh1]at h
  obtain⟨h1,h2⟩:=cnd h
  obtain⟨q1,q2⟩:=isE_er (T:=T) h1
  obtain⟨G',f1,f2⟩:=hR.rnil
  have hs:=f1.sl t
  have hs:RepV G' w ((s.nx,.cells [])::erH T s.h) (s.nx+1) (a.tmps.getD t undef) (getS (erS T s).sl t):=hs
  rw[show getS (erS T s).sl t=er T (getT s.sl t)from getS_er s.sl t]at hs
  exact⟨_,G',h2,f1.reslot t (f2 _ _ _ q1 hs)⟩
 | .rnilc id j e,h,hR=>by
  simp only[gh1]at h
  split at h
  ·rename_i cs hi
   split at h
   ·rename_i v hj
    obtain⟨h1,h2⟩:=cnd h
    obtain⟨q1,q2⟩:=isE_er (T:=T) h1
    rw[er_of1 q2]at q1
    have hil:(erS T s).h.get id=some (.cells (cs.map (er1 T))):=by show(erH T s.h).get id=_;rw[getH_er,hi];rfl
    obtain⟨G',f1,f2⟩:=hR.rnil
    have hin:id<s.nx:=hR.wr.hid _ _ hil
    have hg' :Hp.get ((s.nx,Ob.cells [])::erH T s.h) id=some (.cells (cs.map (er1 T))):=by simp only[Hp.get];rw[if_neg (by omega)];exact hil
    have hx:(cs.map (er1 T))[j]? =some (er1 T v):=by rw[List.getElem?_map,hj];rfl
    have:=f1.recell (s:=⟨(erS T s).sl,(s.nx,.cells [])::erH T s.h,s.nx+1⟩) (y:= .row s.nx 0 0 (T.sz e)) hg' hx rfl (fun u=>f2 u _ _ q1)
    refine⟨_,G',h2,?_⟩
    have e1:erS T ⟨s.sl,(id,.cells (cs.set j (.row s.nx e 0)))::(s.nx,.vec e [])::s.h,s.nx+1⟩=⟨(erS T s).sl,(id,.cells ((cs.map (er1 T)).set j (.row s.nx 0 0 (T.sz e))))::(s.nx,.cells [])::erH T s.h,s.nx+1⟩:=by
     show St.mk _ ((id,Ob.cells ((cs.set j (.row s.nx e 0)).map (er1 T)))::_) _=_
     rw[List.map_set];rfl
    rw[e1];exact this
   ·exact h.elim
  ·exact h.elim
end
theorem ghs_snd (hT:T.Ok) {Tk:Tk} {G0:Gh} {w0:World} {a:Act} {w:World}:∀(gs:List Gs) (s:TSt T.den) (K:TSt T.den->Prop) (G:Gh),ghs T gs s K->R Tk G0 w0 N (erS T s) a G w->∃s' G',K s'/\R Tk G0 w0 N (erS T s') a G' w
 |[],s,K,G,h,hR=>⟨s,G,h,hR⟩
 |g::gs,s,K,G,h,hR=>by
  obtain⟨s1,G1,h1,h2⟩:=gh1_snd hT g h hR
  exact ghs_snd hT gs s1 K G1 h1 h2
theorem sat_ghs (hT:T.Ok) {Tk:Tk} {G0:Gh} {w0:World} {gs:List Gs} {s:TSt T.den} {K:TSt T.den->Prop} {c:Code} {Q:Exit->St->Prop} (h:ghs T gs s K) (hk:∀s',K s'->Sat P Tk G0 w0 N c (erS T s') Q):Sat P Tk G0 w0 N c (erS T s) Q:=by
 intro G a w hR
 obtain⟨s',G',h1,h2⟩:=ghs_snd hT gs s K G h hR
 exact hk s' h1 G' a w h2
def QE (Q:Exit->TSt T.den->Prop) (e:Exit) (s:St):Prop:=KE (Q e) s
theorem KE.lk {K:TSt T.den->Prop} {s:TSt T.den} (h:K s):KE K (erS T s):=⟨s,h,Wk.refl _⟩
theorem kmq (hT:T.Ok) (hC:C.Ok P T) (hm:P.follows .mixedOrders=true) {Tk:Tk} {G0:Gh} {w0:World}:∀(c:Code) (an:An T) (s:TSt T.den) (Q:Exit->TSt T.den->Prop),WP T C N Tk.nx c an s Q->Obl T C N Tk.nx c an Q->Sat P Tk G0 w0 N c (erS T s) (QE Q):=by
 intro c
 induction c with
 |skip=>intro an s Q h _;exact khx (KE.lk (by simpa[WP]using h))
 |region id ops dr=>
  intro an s Q h _
  obtain⟨l⟩:=ops
  have h:regW T C N ⟨l⟩ dr s (Q .normal):=by simpa[WP]using h
  cases dr with
  |false=>
   intro G a w hR
   exact wp_region_lit (kk3 hT hC l (Q .normal) s a G w hR h fun s' a' G' w' hk hR' =>⟨erS T s',G',KE.lk hk,hR'⟩)
  |true=>
   unfold regW at h
   obtain⟨h1,h2⟩:=cnd h
   rw[Bool.and_eq_true]at h1
   refine keo C.S hm (noIt_er h1.2) h1.1 fun K hK=> ?_
   exact k5e (K:=KE (Q .normal)) (fun a b he ⟨t,q1,q2⟩=>hK a ⟨t,q1,he.wk.trans q2⟩) (closeOps l) _ _ _ _ _ (Eqv.refl _) (klf hT hC (closeOps l) _ _ _ _ h2)
 |seq x y ihx ihy=>
  intro an s Q h ho
  have plain:∀(ga gb:List Gs) (a b:An T),(ghs T ga s fun s=>WP T C N Tk.nx x a s (thenT T (fun s' =>ghs T gb s' fun s' =>WP T C N Tk.nx y b s' Q) Q))->Obl T C N Tk.nx x a (thenT T (fun s' =>ghs T gb s' fun s' =>WP T C N Tk.nx y b s' Q) Q)->Obl T C N Tk.nx y b Q->Sat P Tk G0 w0 N (.seq x y) (erS T s) (QE Q):=by
   intro ga gb a b h1 h2 h3
   refine sat_ghs hT h1 fun s' hs' =>sat_seq (kw (ihx a s' _ hs' h2) fun e s1 hq=> ?_)
   obtain⟨t,q1,q2⟩:=hq
   cases e with
   |normal=>exact sat_lk q2.lk (sat_ghs hT q1 fun s2 hs2=>ihy b s2 Q hs2 h3)
   |_=>exact⟨t,q1,q2⟩
  cases an with
  |jn tm J ga a gb b=>
   have h:ghs T ga s fun s=>WP T C N Tk.nx x a s (thenT T (fun s' =>tm.mat T Tk.nx s' J) Q):=by simpa only[WP]using h
   simp only[Obl]at ho
   obtain⟨o1,o2,o3⟩:=ho
   refine sat_ghs hT h fun s' hs' =>sat_seq (kw (ihx a s' _ hs' o1) fun e s1 hq=> ?_)
   obtain⟨t,q1,q2⟩:=hq
   cases e with
   |normal=>
    obtain⟨i,k1,k2⟩:=mat_snd hT q1
    refine sat_lk (q2.lk.trans k2) ?_
    rw[o2 i]at k1
    exact sat_ghs hT k1 fun s2 hs2=>ihy b s2 Q hs2 o3
   |_=>exact⟨t,q1,q2⟩
  |no=>simp only[WP]at h;simp only[Obl]at ho;exact plain _ _ _ _ h ho.1 ho.2
  |nd ga a gb b=>simp only[WP]at h;simp only[Obl]at ho;exact plain _ _ _ _ h ho.1 ho.2
  |lp g tm L a=>simp only[WP]at h;simp only[Obl]at ho;exact plain _ _ _ _ h ho.1 ho.2
  |rt g=>simp only[WP]at h;simp only[Obl]at ho;exact plain _ _ _ _ h ho.1 ho.2
 |cond c x y ihx ihy=>
  intro an s Q h ho
  simp only[WP]at h
  simp only[Obl]at ho
  split at h
  ·rename_i hv
   exact kef (by rw[ev_er,hv];rfl) (sat_ghs hT h fun s' hs' =>ihx _ s' Q hs' ho.1)
  ·rename_i hv
   exact ke7 (by rw[ev_er,hv];rfl) (sat_ghs hT h fun s' hs' =>ihy _ s' Q hs' ho.2)
  ·rename_i t hv
   exact k6m (t:=t) (by rw[ev_er,hv];rfl) (fun ht=>sat_ghs hT (h.1 ht) fun s' hs' =>ihx _ s' Q hs' ho.1) (fun ht=>sat_ghs hT (h.2 ht) fun s' hs' =>ihy _ s' Q hs' ho.2)
  ·exact h.elim
 |block id x ih=>
  intro an s Q h ho
  simp only[WP]at h
  simp only[Obl]at ho
  refine kee (kw (ih an s _ h ho) fun e s1 hq=> ?_)
  obtain⟨t,q1,q2⟩:=hq
  cases e with
  |exit id' =>
   simp only[blockT]at q1
   simp only[blockA]
   by_cases hi:id' =id
   ·rw[if_pos hi]
    rw[hi,nb_self]at q1
    exact⟨t,q1,q2⟩
   ·rw[if_neg hi]
    rw[nb_ne hi]at q1
    exact⟨t,q1,q2⟩
  |_=>exact⟨t,q1,q2⟩
 |loop x ih=>
  intro an s Q h ho
  cases an with
  |lp g tm L a=>
   simp only[WP]at h
   simp only[Obl]at ho
   obtain⟨o1,o2⟩:=ho
   refine sat_ghs hT h fun s' hs' => ?_
   obtain⟨i,⟨⟨inv,μ,k0,k1⟩⟩,k2⟩:=mat_snd hT hs'
   refine kf1 (fun i=>erS T (tm.fill T i)) inv μ i k0 k2 fun i hi=> ?_
   have hr:=k1 i hi
   rw[o1]at hr
   refine kw (ih _ _ _ hr (o2 _)) fun e s1 hq=> ?_
   obtain⟨t,q1,q2⟩:=hq
   cases e with
   |normal=>
    obtain⟨i',⟨m1,m2⟩,m3⟩:=mat_snd hT q1
    exact⟨i',m1,m2,q2.lk.trans m3⟩
   |_=>exact⟨t,q1,q2⟩
  |_=>simp only[WP]at h
 |exit id=>intro an s Q h _;simp only[WP]at h;exact kia (KE.lk h)
 |ret=>
  intro an s Q h _
  simp only[WP]at h
  exact sat_ghs hT h fun s' hs' =>sat_ret (KE.lk hs')
 |label l=>intro an s Q h _;simp only[WP]at h;exact kez (KE.lk h)
 |_=>intro an s Q h _;simp only[WP]at h
theorem eqH_eq:∀{ts:List Ty} {x y:HL T.den ts},eqH ts x y->x=y
 |[],_,_,_=>rfl
 |[_],x,y,h=>by
  obtain⟨a,b⟩:=x
  obtain⟨c,d⟩:=y
  have h:a=c:=h
  subst h;rfl
 |_::t::r,x,y,h=>by
  obtain⟨a,b⟩:=x
  obtain⟨c,d⟩:=y
  obtain⟨h1,h2⟩:=h
  have g1:a=c:=h1
  have g2:b=d:=eqH_eq (ts:=t::r) h2
  rw[g1,g2]
theorem kaw (hT:T.Ok) (hI:InfoOk P T C.ti) {s:TSt T.den}:∀(rs:List ResultVar) (K:List (TV T.den)->Prop),resT T C.ti s rs K->∃l,K l/\allOk P (erS T s) rs/\rs.map (resV P (erS T s))=l.map (er T)
 |[],K,h=>⟨[],h,trivial,rfl⟩
 | .tmp t::r,K,h=>by
  obtain⟨l,h1,h2,h3⟩:=kaw hT hI r _ h
  refine⟨_,h1,⟨trivial,h2⟩,?_⟩
  simp only[List.map_cons,h3]
  congr 1
  exact getS_er s.sl t
 | .cell t ty::r,K,h=>by
  obtain⟨u,h0,h4,h5⟩:=kel hT (hI.of ty) h
  obtain⟨l,h1,h2,h3⟩:=kaw hT hI r _ h0
  have e:getS (erS T s).sl t=er T (getT s.sl t):=getS_er s.sl t
  refine⟨_,h1,⟨by show loadOk _ _ (getS (erS T s).sl t);rw[e];exact h4,h2⟩,?_⟩
  simp only[List.map_cons,h3]
  congr 1
  show loadV _ _ (getS (erS T s).sl t)=_
  rw[e];exact h5
theorem kht:∀{l:List (TV T.den)},noTupB T l=true->l.map (er T)=l.map (er0 T)
 |[],_=>rfl
 |v::r,h=>by
  cases v<;>first|(cases h;done)|(simp only[List.map_cons];rw[kht (l:=r) h];rfl)
theorem ret_er {l:List (TV T.den)} (h:noTupB T l=true):retV (l.map (er T))=er T (retTV T l):=by
 match l,h with
 |[],_=>rfl
 |[x],_=>rfl
 |x::y::r,h=>
  exact congrArg V.tup (kht h)
theorem kei {h:Hp} {σ:Nat->Nat} {m nx:Nat}:∀{ks:List Nat} {os:List Ob},ks.length=os.length->(∀(i k:Nat) (o:Ob),ks[i]? =some k->os[i]? =some o->k<nx/\obLe (h.get k) (renO σ o)/\okO m o)->postOk h σ m nx ks os
 |[],[],_,_=>trivial
 |[],_::_,h,_=>by cases h
 |_::_,[],h,_=>by cases h
 |k::ks,o::os,h,hh=>⟨hh 0 k o rfl rfl,kei (by simpa using h) fun i k' o' h1 h2=>hh (i+1) k' o' (by simpa using h1) (by simpa using h2)⟩
theorem kce:∀{n k:Nat} {l:List Nat},selfB n k l=true->selfP k n l
 |0,_,l,_=>by cases l<;>trivial
 |n+1,k,[],h=>by cases h
 |n+1,k,i::r,h=>by
  simp only[selfB,Bool.and_eq_true]at h
  exact⟨nb_eq h.1,kce h.2⟩
theorem k7a (hT:T.Ok) (hC:C.Ok P T) {c:Con T.den} {rs:List ResultVar} {o:HL T.den (hsV c.res (hsOs c.post))} {s:TSt T.den} (h:retT T C c rs o s):RetA P rs (er T (c.val idf o)) c.pre.length ((c.ops idf o).map (erO T)) (erS T s):=by
 unfold retT at h
 obtain⟨l,h1,h2,h3⟩:=kaw hT hC.ti rs _ h
 split at h1
 ·exact h1.elim
 ·rename_i ids hids
  split at h1
  ·exact h1.elim
  ·rename_i b hb
   obtain⟨a1,a2⟩:=cnd h1
   simp only[Bool.and_eq_true,Con.okB]at a1
   obtain⟨⟨⟨⟨⟨hok,hnd⟩,hlt⟩,hlen⟩,hself⟩,hnt⟩:=a1
   obtain⟨⟨⟨⟨⟨⟨⟨⟨⟨⟨o1,o2⟩,o3⟩,o4⟩,o5⟩,o6⟩,o7⟩,o8⟩,o9⟩,o10⟩,o11⟩:=hok
   have hlen:=nb_eq hlen
   obtain⟨y,g1,g2,g3⟩:=k7i hT o10 hb a2
   obtain⟨x,k1,k2,k3⟩:=mtV_snd c.res _ _ y _ o9 g1
   have hx:=eqH_eq k1
   subst hx
   have hfo:c.fo x=tkB c.post b:=by unfold Con.fo;rw[k2,g2]
   have hops:c.ops idf x=(tkC idf (tkB c.post b) 0 c.post _ y).1:=by unfold Con.ops;rw[hfo,k2]
   have hql:((c.ops idf x).map (erO T)).length=c.post.length:=by rw[List.length_map,hops,tkC_len]
   have hval:c.val idf x=(tkV idf (tkB c.post b) c.res _ x).1:=by unfold Con.val;rw[hfo]
   refine retN ids ⟨h2,?_,?_,?_,?_,k1o hnd,by rw[hql];exact ble_le o5,kce hself⟩
   ·rw[h3,ret_er hnt,hval,<-tkV_ren];exact k3
   ·rw[hql,hval];exact tkV_ok (fun j hj=>hj) c.res _ x o3
   ·rw[hval];exact kec _ _ _
   ·refine kei (by rw[hql];exact hlen) fun i k ob hk ho=> ?_
    have hkm:k<s.nx:=k1i hlt k (List.mem_of_getElem? hk)
    rw[hql]
    rw[List.getElem?_map,Option.map_eq_some_iff]at ho
    obtain⟨ot,ho,rfl⟩:=ho
    rw[hops]at ho
    refine⟨hkm,?_,tkC_ok (k18 _ _) (fun j hj=>hj) 0 c.post _ y o4 i ot ho⟩
    have hr:=tkC_ren (rh ids) (tkB c.post b) (k18 _ _) 0 c.post _ y
    have hi:i<(tkC idf (tkB c.post b) 0 c.post (hsB c.post) y).1.length:=(List.getElem?_eq_some_iff.1 ho).1
    have hi2:i<(tkC (rh ids) (tkB c.post b) 0 c.post (hsB c.post) y).1.length:=by rw[tkC_len]at hi ⊢;exact hi
    have e:=congrArg (fun l=>l[i]?) hr
    simp only[List.getElem?_map,ho,Option.map_some,List.getElem?_eq_getElem hi2,Option.some.injEq]at e
    have:=g3 i _ (List.getElem?_eq_getElem hi2)
    have hrk:rh ids i=k:=by simp[rh,hk]
    rw[e,hrk]at this
    exact this
theorem kbg:∀(k:Nat) (l:List (TV T.den)),(initT T k l).map (fun p=>(p.1,er T p.2))=initSl k (l.map (er T))
 |_,[]=>rfl
 |k,x::r=>by
  show(k,er T x)::(initT T (k+1) r).map (fun p=>(p.1,er T p.2))=(k,er T x)::initSl (k+1) (r.map (er T))
  rw[kbg (k+1) r]
theorem hpN_idf:∀(k:Nat) (l:List (TOb T.den)),erH T (hpN idf k l)=hpOf k (l.map (erO T))
 |_,[]=>rfl
 |k,x::r=>by
  show(k,erO T x)::erH T (hpN idf (k+1) r)=(k,erO T x)::hpOf (k+1) (r.map (erO T))
  rw[hpN_idf (k+1) r]
theorem Con.sound (hT:T.Ok) (hC:C.Ok P T) (hm:P.follows .mixedOrders=true) {c:Con T.den} {fn:Func} {code:Code} {rs:List ResultVar} (hf:P.funcs[c.f]? =some fn) (hb:fn.body=some code) (hN:fn.ntmps=N) (hrs:fn.results.toList=rs) (hl:Nat.ble c.ins.length N=true)
  {x:HL T.den (hsT c.ins (hsOs c.pre))} {o:HL T.den (hsV c.res (hsOs c.post))} {an:An T} (hW:WP T C N c.pre.length code an (c.st T x) (retTQ T C c rs o)) (hO:Obl T C N c.pre.length code an (retTQ T C c rs o)):
  SoundH P c.f ((c.args idf x).map (er T)) ((c.obs idf x).map (erO T)) (er T (c.val idf o)) ((c.ops idf o).map (erO T)):=by
 have hpl:((c.obs idf x).map (erO T)).length=c.pre.length:=by rw[List.length_map];unfold Con.obs;rw[tkC_len]
 have hal:((c.args idf x).map (er T)).length=c.ins.length:=by rw[List.length_map];unfold Con.args;rw[tkT_len]
 refine kh6 hf hb hN (by rw[hal];exact ble_le hl) fun G0 w0=> ?_
 have e:erS T (c.st T x)=⟨initSl 0 ((c.args idf x).map (er T)),hpOf 0 ((c.obs idf x).map (erO T)),((c.obs idf x).map (erO T)).length⟩:=by
  rw[hpl]
  show St.mk _ _ _=_
  unfold Con.st
  rw[kbg,hpN_idf]
 rw[<-e,hrs]
 have hnx:(tkOf G0 ((c.obs idf x).map (erO T))).nx=c.pre.length:=hpl
 rw[<-hnx]at hW hO
 refine khk (kmq hT hC hm code an _ _ hW hO) fun ex s1 hq=> ?_
 obtain⟨t,q1,q2⟩:=hq
 refine⟨erS T t,?_,q2.lk⟩
 cases ex with
 |normal=>have:=k7a hT hC (s:=t) q1;rw[<-hpl]at this;exact this
 |ret=>have:=k7a hT hC (s:=t) q1;rw[<-hpl]at this;exact this
 |_=>exact q1
end
end Go.Cv
namespace Go.Bv
open Go.RowKit
section
variable {G:Gh} {w:World} {h:Hp} {nx:Nat}
theorem PtrsR.ok:∀{ps:List (Option (Nat×Nat))} {vs:List Value},PtrsR G nx ps vs->okP nx ps
 |[],[],_=>trivial
 |[],_::_,h=>h.elim
 |_::_,[],h=>h.elim
 |none::r,_::_,h=>PtrsR.ok (ps:=r) h.2
 |some _::r,_::_,h=>⟨h.1.1,PtrsR.ok (ps:=r) h.2⟩
theorem RepV.ok1 {v:Value} {x:V} (hr:RepV G w h nx v x) (h1:∀l,x≠ .agg l) (h2:∀l,x≠ .tup l):Bv.ok1 nx x:=by
 cases hr with
 |agg _ l=>exact(h1 l rfl).elim
 |tup _ l=>exact(h2 l rfl).elim
 |ptr id _ b hid=>exact hid
 |own _ tok _ _ _ ht=>exact ht
 |row id _ _ _ _ _ _ _ hid=>exact hid
 |rown _ id _ _ hid=>exact hid
 |mp id _ hid=>exact hid
 |clo g fs cs vs us hf hc=>exact⟨hf.ok,hc.ok⟩
 |_=>trivial
theorem okL_of:∀{l:List V},(∀(j:Nat) (x:V),l[j]? =some x->Bv.ok1 nx x)->okL nx l
 |[],_=>trivial
 |x::r,h=>⟨h 0 x rfl,okL_of fun j y hj=>h (j+1) y (by simpa using hj)⟩
theorem one_na {x:V} (h:x.one=true):(∀l,x≠ .agg l)/\∀l,x≠ .tup l:=by
 constructor<;>(intro l e;rw[e]at h;cases h)
theorem RepV.ok0 {v:Value} {x:V} (hr:RepV G w h nx v x) (h2:∀l,x≠ .tup l):Bv.ok0 nx x/\Bv.le0 x x:=by
 by_cases ha:∃l,x= .agg l
 ·obtain⟨l,rfl⟩:=ha
  cases hr with
  |agg vs _ hlen hone hr=>
   refine⟨okL_of fun j x hx=> ?_,k50 l hone⟩
   have hj:j<vs.length:=by have:=(List.getElem?_eq_some_iff.1 hx).1;omega
   have h1:=one_na (hone x (List.mem_of_getElem? hx))
   exact(hr j _ x (List.getElem?_eq_getElem hj) hx).ok1 h1.1 h1.2
 ·have h1:=hr.ok1 (fun l e=>ha ⟨l,e⟩) h2
  cases x with
  |agg l=>exact(ha ⟨l,rfl⟩).elim
  |tup l=>exact(h2 l rfl).elim
  |_=>exact⟨h1,by unfold Bv.le0;exact ka _⟩
theorem okT_of:∀{l:List V},(∀(j:Nat) (x:V),l[j]? =some x->Bv.ok0 nx x/\Bv.le0 x x)->okT nx l/\leT l l
 |[],_=>⟨trivial,trivial⟩
 |x::r,h=>by
  obtain⟨g1,g2⟩:=okT_of (l:=r) fun j y hj=>h (j+1) y (by simpa using hj)
  obtain⟨k1,k2⟩:=h 0 x rfl
  exact⟨⟨k1,g1⟩,⟨k2,g2⟩⟩
theorem RepV.ok {v:Value} {x:V} (hr:RepV G w h nx v x) (ht:∀l,x= .tup l->∀y∈l,∀l',y≠ .tup l'):Bv.ok nx x/\Bv.le x x:=by
 by_cases ha:∃l,x= .tup l
 ·obtain⟨l,rfl⟩:=ha
  cases hr with
  |tup vs _ hlen hr=>
   exact okT_of fun j y hy=>by
    have hj:j<vs.length:=by have:=(List.getElem?_eq_some_iff.1 hy).1;omega
    exact(hr j _ y (List.getElem?_eq_getElem hj) hy).ok0 (ht l rfl y (List.mem_of_getElem? hy))
 ·have h1:=hr.ok0 (fun l e=>ha ⟨l,e⟩)
  cases x with
  |tup l=>exact(ha ⟨l,rfl⟩).elim
  |_=>exact h1
theorem k2b {m:Nat} (h:nx<=m):∀{l:List (Option (Nat×Nat))},okP nx l->okP m l
 |[],_=>trivial
 |none::r,hx=>k2b h (l:=r) hx
 |some _::r,hx=>⟨Nat.lt_of_lt_of_le hx.1 h,k2b h (l:=r) hx.2⟩
theorem kmd {m:Nat} (h:nx<=m) {x:V} (hx:Bv.ok1 nx x):Bv.ok1 m x:=by
 cases x<;>first|exact Nat.lt_of_lt_of_le hx h|exact hx|exact⟨k2b h hx.1,k2b h hx.2⟩
theorem k7n {m:Nat} (h:nx<=m):∀{l:List V},okL nx l->okL m l
 |[],_=>trivial
 |_::_,hx=>⟨kmd h hx.1,k7n h hx.2⟩
theorem kad {m:Nat} (h:nx<=m) {x:V} (hx:Bv.ok0 nx x):Bv.ok0 m x:=by
 cases x with
 |agg l=>exact k7n h (l:=l) hx
 |ptr=>exact Nat.lt_of_lt_of_le hx h
 |own=>exact Nat.lt_of_lt_of_le hx h
 |row=>exact Nat.lt_of_lt_of_le hx h
 |mp=>exact Nat.lt_of_lt_of_le hx h
 |clo=>exact⟨k2b h hx.1,k2b h hx.2⟩
 |_=>exact hx
theorem ki7 {m:Nat} (h:nx<=m):∀{l:List V},okT nx l->okT m l
 |[],_=>trivial
 |_::_,hx=>⟨kad h hx.1,ki7 h hx.2⟩
theorem ok_mono {m:Nat} (h:nx<=m) {x:V} (hx:Bv.ok nx x):Bv.ok m x:=by
 cases x with
 |tup l=>exact ki7 h (l:=l) hx
 |agg l=>exact k7n h (l:=l) hx
 |ptr=>exact Nat.lt_of_lt_of_le hx h
 |own=>exact Nat.lt_of_lt_of_le hx h
 |row=>exact Nat.lt_of_lt_of_le hx h
 |mp=>exact Nat.lt_of_lt_of_le hx h
 |clo=>exact⟨k2b h hx.1,k2b h hx.2⟩
 |_=>exact hx
theorem kal {m:Nat} (h:nx<=m):∀{l:List (D×V)},okM nx l->okM m l
 |[],_=>trivial
 |_::_,hx=>⟨kad h hx.1,kal h hx.2⟩
theorem kmw {m:Nat} (h:nx<=m) {o:Ob} (ho:okO nx o):okO m o:=by
 cases o with
 |cells l=>exact k7n h (l:=l) ho
 |map x=>cases x with
  |m l=>exact kal h (l:=l) ho
  |it mid l last=>exact⟨Nat.lt_of_lt_of_le ho.1 h,kal h ho.2.1,fun e he=>kad h (ho.2.2 e he)⟩
 |_=>trivial
theorem k5w {σ:Nat->Nat} (hσ:∀i,i<nx->σ i=i):∀{l:List (Option (Nat×Nat))},okP nx l->renP σ l=l
 |[],_=>rfl
 |none::r,h=>congrArg (List.cons none) (k5w (l:=r) hσ h)
 |some (i,_)::_,h=>by unfold renP;rw[hσ i h.1,k5w hσ h.2]
theorem ren1_id {σ:Nat->Nat} (hσ:∀i,i<nx->σ i=i) {x:V} (h:Bv.ok1 nx x):Bv.ren1 σ x=x:=by
 cases x<;>first|rfl|(simp only[Bv.ren1];rw[hσ _ h])|(simp only[Bv.ren1];rw[k5w hσ h.1,k5w hσ h.2])
theorem renL_id {σ:Nat->Nat} (hσ:∀i,i<nx->σ i=i):∀{l:List V},okL nx l->l.map (Bv.ren1 σ)=l
 |[],_=>rfl
 |x::r,h=>by rw[List.map_cons,ren1_id hσ h.1,renL_id hσ h.2]
theorem ren0_id {σ:Nat->Nat} (hσ:∀i,i<nx->σ i=i) {x:V} (h:Bv.ok0 nx x):Bv.ren0 σ x=x:=by
 cases x with
 |agg l=>exact congrArg V.agg (renL_id hσ h)
 |ptr i o=>exact ren1_id (x:= .ptr i o) hσ h
 |own a b c=>exact ren1_id (x:= .own a b c) hσ h
 |row a b c d=>exact ren1_id (x:= .row a b c d) hσ h
 |mp a=>exact ren1_id (x:= .mp a) hσ h
 |clo a b c=>exact ren1_id (x:= .clo a b c) hσ h
 |_=>rfl
theorem renT_id {σ:Nat->Nat} (hσ:∀i,i<nx->σ i=i):∀{l:List V},okT nx l->l.map (Bv.ren0 σ)=l
 |[],_=>rfl
 |x::r,h=>by rw[List.map_cons,ren0_id hσ h.1,renT_id hσ h.2]
theorem ren_id {σ:Nat->Nat} (hσ:∀i,i<nx->σ i=i) {x:V} (h:Bv.ok nx x):Bv.ren σ x=x:=by
 cases x with
 |tup l=>exact congrArg V.tup (renT_id hσ h)
 |agg l=>exact congrArg V.agg (renL_id hσ h)
 |ptr i o=>exact ren1_id (x:= .ptr i o) hσ h
 |own a b c=>exact ren1_id (x:= .own a b c) hσ h
 |row a b c d=>exact ren1_id (x:= .row a b c d) hσ h
 |mp a=>exact ren1_id (x:= .mp a) hσ h
 |clo a b c=>exact ren1_id (x:= .clo a b c) hσ h
 |_=>rfl
theorem renM_id {σ:Nat->Nat} (hσ:∀i,i<nx->σ i=i):∀{l:List (D×V)},okM nx l->(l.map fun e=>(e.1,Bv.ren0 σ e.2))=l
 |[],_=>rfl
 |x::r,h=>by rw[List.map_cons,ren0_id hσ h.1,renM_id hσ h.2]
theorem renO_id {σ:Nat->Nat} (hσ:∀i,i<nx->σ i=i) {o:Ob} (h:okO nx o):renO σ o=o:=by
 cases o with
 |cells l=>exact congrArg Ob.cells (renL_id hσ h)
 |map x=>cases x with
  |m l=>exact congrArg (fun z=>Ob.map (.m z)) (renM_id hσ h)
  |it mid l last=>
   obtain⟨h1,h2,h3⟩:=h
   show Ob.map (.it (σ mid) _ (last.map _))=_
   rw[hσ mid h1,renM_id hσ h2]
   cases last with
   |none=>rfl
   |some e=>simp only[Option.map_some];rw[ren0_id hσ (h3 e rfl)]
 |_=>rfl
end
end Go.Bv
namespace Go.Cv
open Go Go.Bv Go.RowKit Go.Md
section
variable {T:Tab} {P:Program} {C:Cx T} {N:Nat}
structure Gd (s:TSt T.den):Prop where
 sl:∀t,ok s.nx (er T (getT s.sl t))/\le (er T (getT s.sl t)) (er T (getT s.sl t))
 h:∀id ob,(erS T s).h.get id=some ob->id<s.nx/\okO s.nx ob/\obLe (some ob) ob
theorem er_tup {v:TV T.den}:∀l,er T v= .tup l->∀y∈l,∀l',y≠ .tup l' :=by
 intro l h y hy
 cases v with
 |tup l0=>
  injection h with h
  subst h
  obtain⟨u,_,rfl⟩:=List.mem_map.1 hy
  exact k1j
 |_=>cases h
theorem okM_D {nx:Nat} {k v:Ty}:∀(l:List (k.den T.den×v.den T.den)),okM nx (l.map fun p=>(T.e k p.1,V.ofD (T.e v p.2)))
 |[]=>trivial
 | p::r=>⟨by
   show ok0 nx (V.ofD (T.e v p.2))
   generalize T.e v p.2=d
   cases d with
   |agg l=>exact okL_of fun j x hx=>by rw[List.getElem?_map,Option.map_eq_some_iff]at hx;obtain⟨_,_,rfl⟩:=hx;trivial
   |_=>trivial,okM_D r⟩
theorem kea:∀x:MO,moLe x x
 | .m _=>rfl
 | .it _ _ none=>⟨rfl,rfl⟩
 | .it _ _ (some _)=>rfl
theorem gd_of {Tk:Tk} {G0:Gh} {w0:World} {s:TSt T.den} {a:Act} {G:Gh} {w:World} (hR:R Tk G0 w0 N (erS T s) a G w):Gd s:=by
 refine⟨fun t=> ?_,fun id ob hg=> ?_⟩
 ·have:=hR.sl t
  rw[show getS (erS T s).sl t=er T (getT s.sl t)from getS_er s.sl t]at this
  exact this.ok er_tup
 ·refine⟨hR.wr.hid id ob hg,?_⟩
  have hg0:=hg
  have hg:(erH T s.h).get id=some ob:=hg
  rw[getH_er,Option.map_eq_some_iff]at hg
  obtain⟨o,ho,rfl⟩:=hg
  have cell:∀l,erO T o= .cells l->okO s.nx (.cells l)/\obLe (some (.cells l)) (.cells l):=by
   intro l hl
   rw[hl]at hg0
   rcases hR.wr.obj id l hg0 with⟨z1,z2⟩|⟨b,e,cs,k1,k2,k3,k4,k5,k6⟩
   ·subst z1;exact⟨trivial,trivial⟩
   ·refine⟨okL_of fun j x hx=> ?_,k50 l k5⟩
    have hj:j<cs.length:=by have:=(List.getElem?_eq_some_iff.1 hx).1;omega
    have h1:=one_na (k5 x (List.mem_of_getElem? hx))
    exact(k6 j _ x (List.getElem?_eq_getElem hj) hx).ok1 h1.1 h1.2
  cases o with
  |cells l=>exact cell _ rfl
  |vec e l=>exact cell _ rfl
  |tip e l=>exact⟨trivial,rfl⟩
  |dead=>exact⟨trivial,trivial⟩
  |map k v ks vs=>exact⟨okM_D _,by show moLe (MO.m _) (MO.m _);exact kea _⟩
  |it mid k v ks vs last=>
   refine⟨⟨?_,okM_D _,fun e he=> ?_⟩,kea _⟩
   ·obtain⟨b,bm,since,seen,c0,h1,h2,h3,_⟩:=hR.wr.mob id _ hg0
    exact h3
   ·cases last with
    |none=>cases he
    |some p=>exact k3n (okM_D [p]) 0 e (by simpa using he)
theorem kbl {sl' :List (Nat×TV T.den)} {t:Nat}:∀{sl:List (Nat×TV T.den)},hasK T sl t=false->getT (sl++sl') t=getT sl' t
 |[],_=>rfl
 |p::r,h=>by
  simp only[hasK,Bool.or_eq_false_iff]at h
  show(bif Nat.beq t p.1 then p.2 else getT (r++sl') t)=_
  rw[h.1]
  exact kbl h.2
theorem khj {sl' :List (Nat×TV T.den)} {t:Nat}:∀{sl:List (Nat×TV T.den)},hasK T sl t=true->getT (sl++sl') t=getT sl t
 |[],h=>by cases h
 |p::r,h=>by
  show(bif Nat.beq t p.1 then p.2 else getT (r++sl') t)=(bif Nat.beq t p.1 then p.2 else getT r t)
  cases e:Nat.beq t p.1 with
  |true=>rfl
  |false=>
   simp only[hasK,e,Bool.false_or]at h
   exact khj h
theorem kdy {t:Nat}:∀{sl:List (Nat×TV T.den)},hasK T sl t=false->getT sl t= .any
 |[],_=>rfl
 |p::r,h=>by
  simp only[hasK,Bool.or_eq_false_iff]at h
  show(bif Nat.beq t p.1 then p.2 else getT r t)=_
  rw[h.1]
  exact kdy h.2
theorem memB_in:∀{x:Nat} {l:List Nat},memB x l=true->x∈l
 |_,[],h=>by cases h
 |x,y::r,h=>by
  simp only[memB,Bool.or_eq_true]at h
  rcases h with h|h
  ·rw[nb_eq h];simp
  ·exact List.mem_cons_of_mem _ (memB_in h)
theorem khq {ts:List Nat} {sl:List (Nat×TV T.den)}:∀{l:List (Nat×TV T.den)} {t:Nat},chS T ts sl l=true->hasK T l t=true->t∈ts∨hasK T sl t=false
 |[],t,_,h=>by cases h
 |p::r,t,h,hk=>by
  simp only[chS,Bool.and_eq_true,Bool.or_eq_true,Bool.not_eq_true']at h
  simp only[hasK,Bool.or_eq_true]at hk
  rcases hk with hk|hk
  ·rw[nb_eq hk]
   rcases h.1 with h1|h1
   ·exact .inl (memB_in h1)
   ·exact .inr h1
  ·exact khq h.2 hk
theorem kgw {d:Dl} {nx:Nat}:∀{l:THp T.den} {i:Nat} {o:Ob},chH T d nx l=true->(erH T l).get i=some o->i∈d.old∨i∈d.dd∨nx<=i
 |[],i,o,_,h=>by cases h
 |p::r,i,o,h,hk=>by
  simp only[chH,Bool.and_eq_true,Bool.or_eq_true]at h
  have hk:Hp.get ((p.1,erO T p.2)::erH T r) i=some o:=hk
  simp only[Hp.get]at hk
  split at hk
  ·rename_i e
   rw[e]
   rcases h.1 with(h1|h1)|h1
   ·exact .inl (memB_in h1)
   ·exact .inr (.inl (memB_in h1))
   ·exact .inr (.inr (ble_le h1))
  ·exact kgw h.2 hk
theorem pre_app {α:Type} {a b:List α}:pre (a++b) b=a:=by
 unfold pre
 rw[List.length_append,Nat.add_sub_cancel,List.take_left' rfl]
theorem ke6 {nx:Nat} {dd:List Nat}:∀{a b:List Nat},fixD nx dd a b=true->a.length=b.length/\(∀(p i j:Nat),a[p]? =some i->b[p]? =some j->(i<nx->i=j)/\(nx<=i->nx<=j∨j∈dd))
 |[],[],_=>⟨rfl,fun p i j h=>by simp at h⟩
 |[],_::_,h=>by cases h
 |_::_,[],h=>by cases h
 |x::a,y::b,h=>by
  simp only[fixD,Bool.and_eq_true]at h
  obtain⟨g1,g2⟩:=ke6 h.2
  refine⟨by simp[g1],fun p i j hi hj=> ?_⟩
  cases p with
  |zero=>
   simp at hi hj
   subst hi;subst hj
   have h1:=h.1
   by_cases e:x<nx
   ·rw[show Nat.blt x nx=true by simp[Nat.blt_eq,e]]at h1
    exact⟨fun _=>nb_eq h1,fun h=>by omega⟩
   ·rw[show Nat.blt x nx=false by cases hb:Nat.blt x nx with|false=>rfl|true=>exact absurd (blt_lt hb) e]at h1
    simp only[cond_false,Bool.or_eq_true]at h1
    refine⟨fun h=>absurd h e,fun _=> ?_⟩
    rcases h1 with h1|h1
    ·exact .inl (ble_le h1)
    ·exact .inr (memB_in h1)
  |succ p=>exact g2 p i j (by simpa using hi) (by simpa using hj)
theorem rho_no:∀{a b:List Nat} {i:Nat},i∉a->rho a b i=i
 |[],_,_,_=>rfl
 |_::_,[],_,_=>rfl
 |x::a,y::b,i,h=>by
  simp only[rho]
  rw[if_neg (fun e=>h (by simp[e])),rho_no (fun e=>h (by simp[e]))]
theorem sgs_get {l:List Nat} {p:Nat} (h:p<l.length):l[p]? =some (sgs l p):=by simp[sgs,h]
theorem ups_mem:∀{k n i:Nat},i∈ups k n↔k<=i/\i<k+n
 |k,0,i=>by simp[ups];try omega
 |k,n+1,i=>by simp only[ups,List.mem_cons,ups_mem];omega
theorem zip_has {t:Nat}:∀{ts:List Nat} {vs:List (TV T.den)},ts.length=vs.length->t∈ts->hasK T (zipS T ts vs) t=true
 |[],_,_,h=>by cases h
 |u::ts,[],h,_=>by cases h
 |u::ts,v::vs,h,hm=>by
  simp only[zipS,hasK,Bool.or_eq_true]
  rcases List.mem_cons.1 hm with rfl|hm
  ·exact .inl (nb_self _)
  ·exact .inr (zip_has (by simpa using h) hm)
theorem zip_no {t:Nat}:∀{ts:List Nat} {vs:List (TV T.den)},t∉ts->hasK T (zipS T ts vs) t=false
 |[],[],_=>rfl
 |[],_::_,_=>rfl
 |_::_,[],_=>rfl
 |u::ts,v::vs,hm=>by
  simp only[zipS,hasK,Bool.or_eq_false_iff]
  exact⟨nb_ne fun e=>hm (by simp[e]),zip_no fun e=>hm (by simp[e])⟩
theorem keb:∀{a l:List Nat},disB a l=true->∀x∈a,x∉l
 |[],_,_,x,h=>by cases h
 |y::a,l,h,x,hx=>by
  simp only[disB,Bool.and_eq_true,Bool.not_eq_true']at h
  rcases List.mem_cons.1 hx with rfl|hx
  ·exact k8w h.1
  ·exact keb h.2 x hx
theorem hpN_hit {σ:Nat->Nat}:∀{os:List (TOb T.den)} {k p:Nat},p<os.length->Hp.get (erH T (hpN σ k os)) (σ (k+p))≠none
 |[],_,_,h=>by cases h
 |o::os,k,p,h=>by
  show Hp.get ((σ k,erO T o)::erH T (hpN σ (k+1) os)) _≠none
  simp only[Hp.get]
  split
  ·simp
  ·rename_i hne
   cases p with
   |zero=>exact(hne rfl).elim
   |succ p=>have:=hpN_hit (σ:=σ) (os:=os) (k:=k+1) (p:=p) (by simpa using h);rw[show k+1+p=k+(p+1)by omega]at this;exact this
theorem kh1 {h:THp T.den}:∀{dd:List Nat} {i:Nat} {o:Ob},(erH T ((dd.map fun i=>(i,TOb.dead))++h)).get i=some o->(i∈dd/\o= .dead)∨(i∉dd/\(erH T h).get i=some o)
 |[],i,o,hg=> .inr ⟨by simp,hg⟩
 |x::dd,i,o,hg=>by
  have hg:Hp.get ((x,Ob.dead)::erH T ((dd.map fun i=>(i,TOb.dead))++h)) i=some o:=hg
  simp only[Hp.get]at hg
  split at hg
  ·rename_i e
   injection hg with hg
   exact .inl ⟨by simp[e],hg.symm⟩
  ·rename_i e
   rcases kh1 hg with⟨h1,h2⟩|⟨h1,h2⟩
   ·exact .inl ⟨by simp[h1],h2⟩
   ·exact .inr ⟨by simp[e,h1],h2⟩
theorem kao (hT:T.Ok) {Tk:Tk} {d:Dl} {s0 s:TSt T.den} {J:HL T.den d.hs->Prop} (hx:Xt s0 s) (hg:Gd s0) (hn:Tk.nx<=s0.nx) (h:d.mat T s0 s J):∃i,J i/\Lk Tk (erS T s) (erS T (d.fill T s0 i)):=by
 unfold Dl.mat at h
 obtain⟨h1,h2⟩:=cnd h
 simp only[Bool.and_eq_true,Dl.okB]at h1
 obtain⟨⟨⟨⟨⟨⟨⟨⟨⟨⟨⟨b1,b2⟩,b3⟩,b4⟩,b6⟩,b7⟩,a1⟩,a2⟩,a3⟩,a4⟩,a5⟩,a6⟩:=h1
 replace h2:=fcL_eq h2
 generalize d.at T s0.nx s=ids at h2
 obtain⟨h3,h4⟩:=cnd h2
 simp only[Bool.and_eq_true]at h3
 obtain⟨⟨c2,c3⟩,c4⟩:=h3
 have c1:=k1o a1
 have c2:=k1o c2
 have c3:=k1i c3
 obtain⟨c5,c6⟩:=ke6 c4
 have a2:=k1i a2
 have a3:=k1i a3
 have a4:=keb a4
 obtain⟨⟨psl,hpsl⟩,⟨ph,hph⟩,hnx⟩:=hx
 rw[hpsl,pre_app]at a5
 rw[hph,pre_app]at a6
 have hlen:(d.ids s0.nx).length=d.os.length:=by
  have ul:∀k n,(ups k n).length=n:=fun k n=>by induction n generalizing k with|zero=>rfl|succ n ih=>simp[ups,ih]
  have:=ble_le b3
  simp only[Dl.ids,Dl.n,List.length_append,ul];omega
 have hidm:∀i,i∈d.ids s0.nx↔i∈d.old∨(s0.nx<=i/\i<s0.nx+d.n):=fun i=>by simp only[Dl.ids,List.mem_append,ups_mem]
 have hlt:∀j,j<d.os.length->sgs (d.ids s0.nx) j<s0.nx+d.n:=fun j hj=>by
  have:=List.mem_of_getElem? (sgs_get (l:=d.ids s0.nx) (p:=j) (by omega))
  rcases(hidm _).1 this with h|h
  ·have:=a2 _ h;omega
  ·exact h.2
 generalize hI:d.ids s0.nx=I at *
 split at h4
 ·rename_i b hb
  obtain⟨y,g1,g2,g3⟩:=k7i hT b7 hb h4
  obtain⟨x,k1,k2,_,k4⟩:=mtT_snd d.ss _ _ y _ b6 g1
  have hf:d.f T x=tkB d.os b:=by unfold Dl.f;rw[k2,g2]
  have hrho:∀j,j<d.os.length->rho I ids (sgs I j)=sgs ids j:=fun j hj=>rho_at c1 (by omega) (by omega)
  have hid1:∀j,j<d.os.length->idf j<d.os.length:=fun j h=>h
  have hsm:∀i,i<s0.nx->rho I ids i=i:=fun i hi=>by
   by_cases hm:i∈I
   ·obtain⟨p,hp⟩:=List.getElem?_of_mem hm
    have hpl:=(List.getElem?_eq_some_iff.1 hp).1
    have e1:sgs I p=i:=by have:=sgs_get hpl;rw[hp]at this;injection this with this;exact this.symm
    have:=hrho p (by omega)
    rw[e1]at this
    rw[this]
    exact((c6 p i _ hp (sgs_get (by omega))).1 hi).symm
   ·exact rho_no hm
  refine⟨x,k1,fun G0 w0 N a G w hR=> ?_⟩
  have efill:erS T (d.fill T s0 x)=⟨(zipS T d.ts (tkT (sgs I) (tkB d.os b) d.ss _ x).1++s0.sl).map fun p=>(p.1,er T p.2),erH T (hpN (sgs I) 0 (tkC (sgs I) (tkB d.os b) 0 d.os _ y).1++(d.dd.map fun i=>(i,TOb.dead))++s0.h),s0.nx+d.n⟩:=by
   unfold Dl.fill
   rw[hI,hf,k2];rfl
  have hget:∀id ob,(erS T (d.fill T s0 x)).h.get id=some ob->(∃p o,(tkC (sgs I) (tkB d.os b) 0 d.os (hsB d.os) y).1[p]? =some o/\p<d.os.length/\id=sgs I p/\ob=erO T o)∨(id∈d.dd/\id∉I/\ob= .dead)∨(id∉I/\id∉d.dd/\(erS T s0).h.get id=some ob):=by
   intro id ob hgt
   rw[efill]at hgt
   have hgt:Hp.get (erH T (hpN (sgs I) 0 (tkC (sgs I) (tkB d.os b) 0 d.os _ y).1++(d.dd.map fun i=>(i,TOb.dead))++s0.h)) id=some ob:=hgt
   rw[List.append_assoc,erH_app,k2d]at hgt
   split at hgt
   ·rename_i o1 ho1
    injection hgt with hgt
    subst hgt
    obtain⟨p,o,q1,q2,q3⟩:=hpN_get _ _ _ _ ho1
    rw[Nat.zero_add]at q2
    exact .inl ⟨p,o,q1,by have:=(List.getElem?_eq_some_iff.1 q1).1;rw[tkC_len]at this;exact this,q2,q3⟩
   ·rename_i hnone
    have hni:id∉I:=by
     intro hm
     obtain⟨p,hp⟩:=List.getElem?_of_mem hm
     have hpl:=(List.getElem?_eq_some_iff.1 hp).1
     have:=hpN_hit (T:=T) (σ:=sgs I) (os:=(tkC (sgs I) (tkB d.os b) 0 d.os (hsB d.os) y).1) (k:=0) (p:=p) (by rw[tkC_len];omega)
     have e1:sgs I p=id:=by have:=sgs_get hpl;rw[hp]at this;injection this with this;exact this.symm
     rw[Nat.zero_add,e1]at this
     exact this hnone
    rcases kh1 hgt with⟨q1,q2⟩|⟨q1,q2⟩
    ·exact .inr (.inl ⟨q1,hni,q2⟩)
    ·exact .inr (.inr ⟨hni,q1,q2⟩)
  have hkeep:∀id,id<s0.nx->id∉I->id∉d.dd->(erS T s).h.get id=(erS T s0).h.get id:=by
   intro id h1 h2 h3
   show(erH T s.h).get id=(erH T s0.h).get id
   rw[hph,erH_app,k2d]
   split
   ·rename_i o ho
    rcases kgw a6 ho with q|q|q
    ·exact(h2 ((hidm id).2 (.inl q))).elim
    ·exact(h3 q).elim
    ·omega
   ·rfl
  have hnew:∀p,p<d.os.length->s0.nx<=sgs I p->∀j,j<s0.nx->j∉d.dd->sgs ids p≠j:=by
   intro p hp h1 j hj hjd e
   rcases(c6 p _ _ (sgs_get (by omega)) (sgs_get (by omega))).2 h1 with q|q
   ·omega
   ·rw[e]at q;exact hjd q
  have hcross:∀p j,p<d.os.length->j∉I->j∉d.dd->j<s0.nx->sgs ids p≠j:=by
   intro p j hp hj1 hj2 hj3 e
   by_cases hs:sgs I p<s0.nx
   ·have:=(c6 p _ _ (sgs_get (by omega)) (sgs_get (by omega))).1 hs
    rw[e]at this
    exact hj1 (this▸List.mem_of_getElem? (sgs_get (by omega)))
   ·exact hnew p hp (by omega) j hj3 hj2 e
  have hnx' :(erS T (d.fill T s0 x)).nx=s0.nx+d.n:=rfl
  have hsnx:(erS T s).nx=s.nx:=rfl
  refine hR.leRen (σ:=rho I ids) (by rw[hnx'];omega) (fun i hi=>hsm i (by omega)) (fun i hi=> ?_) (fun i j li lj hij=> ?_) (fun id ob hgt=> ?_) ?_
  ·rw[hnx']at hi
   rw[hsnx]
   by_cases hs:i<s0.nx
   ·rw[hsm i hs];omega
   ·have hm:i∈I:=(hidm i).2 (.inr ⟨by omega,hi⟩)
    obtain⟨p,hp⟩:=List.getElem?_of_mem hm
    have hpl:=(List.getElem?_eq_some_iff.1 hp).1
    have e1:sgs I p=i:=by have:=sgs_get hpl;rw[hp]at this;injection this with this;exact this.symm
    rw[<-e1,hrho p (by omega)]
    exact c3 _ (List.mem_of_getElem? (sgs_get (by omega)))
  ·obtain⟨oi,hoi,ni⟩:=live_of li
   obtain⟨oj,hoj,nj⟩:=live_of lj
   rcases hget i oi hoi with⟨p,_,_,q1,q2,_⟩|⟨_,_,q3⟩|⟨q1,q2,q3⟩
   ·rcases hget j oj hoj with⟨q,_,_,r1,r2,_⟩|⟨_,_,r3⟩|⟨r1,r2,r3⟩
    ·rw[q2,r2,hrho p q1,hrho q r1]at hij
     have:=kbh c2 (sgs_get (show p<ids.length by omega)) (by rw[hij];exact sgs_get (show q<ids.length by omega))
     rw[q2,r2,this]
    ·exact(nj r3).elim
    ·have hj:=(hg.h j oj r3).1
     rw[q2,hrho p q1,hsm j hj]at hij
     exact(hcross p j q1 r1 r2 hj hij).elim
   ·exact(ni q3).elim
   ·have hi:=(hg.h i oi q3).1
    rcases hget j oj hoj with⟨q,_,_,r1,r2,_⟩|⟨_,_,r3⟩|⟨r1,r2,r3⟩
    ·rw[r2,hrho q r1,hsm i hi]at hij
     exact(hcross q i r1 q1 q2 hi hij.symm).elim
    ·exact(nj r3).elim
    ·have hj:=(hg.h j oj r3).1
     rw[hsm i hi,hsm j hj]at hij
     exact hij
  ·rcases hget id ob hgt with⟨p,o,q1,q2,rfl,rfl⟩|⟨q1,q2,rfl⟩|⟨q1,q2,q3⟩
   ·refine⟨hlt p q2,?_,tkC_ok (k18 _ _) hlt 0 d.os _ y b2 p o q1⟩
    have hl1:p<(tkC (sgs ids) (tkB d.os b) 0 d.os (hsB d.os) y).1.length:=by rw[tkC_len];exact q2
    have hl0:p<(tkC idf (tkB d.os b) 0 d.os (hsB d.os) y).1.length:=by rw[tkC_len];exact q2
    have w1:=congrArg (fun l=>l[p]?) (tkC_ren (sgs I) (tkB d.os b) (k18 d.os b) 0 d.os (hsB d.os) y)
    have w2:=congrArg (fun l=>l[p]?) (tkC_ren (sgs ids) (tkB d.os b) (k18 d.os b) 0 d.os (hsB d.os) y)
    simp only[List.getElem?_map,q1,Option.map_some,List.getElem?_eq_getElem hl0,List.getElem?_eq_getElem hl1,Option.some.injEq]at w1 w2
    have w3:=tkC_ok (k18 d.os b) hid1 0 d.os (hsB d.os) y b2 p _ (List.getElem?_eq_getElem hl0)
    rw[hrho p q2,w1,khn hrho w3,<-w2]
    exact g3 p _ (List.getElem?_eq_getElem hl1)
   ·refine⟨by rw[hnx'];have:=a3 _ q1;omega,?_,trivial⟩
    show obLe _ Ob.dead
    cases (erS T s).h.get (rho I ids id)with
    |none=>trivial
    |some o=>cases o<;>trivial
   ·obtain⟨r1,r2,r3⟩:=hg.h id ob q3
    have mono:∀{m:Nat},s0.nx<=m->okO s0.nx ob->okO m ob:=fun hm ho=>kmw hm ho
    refine⟨by rw[hnx'];omega,?_,mono (by rw[hnx'];omega) r2⟩
    rw[hsm id r1,renO_id hsm r2,hkeep id r1 q1 q2,q3]
    exact r3
  ·intro t
   have key:leAll ((d.ts.map (getT s.sl)).map (er T)) (((tkT (sgs I) (tkB d.os b) d.ss (hsOs d.os) x).1.map (er T)).map (ren (rho I ids))):=by
    have e1:((tkT (sgs I) (tkB d.os b) d.ss (hsOs d.os) x).1.map (er T)).map (ren (rho I ids))=(tkT (sgs ids) (tkB d.os b) d.ss (hsOs d.os) x).1.map (er T):=by
     rw[tkT_er,tkT_er]
     have:((tkT (sgs I) (tkB d.os b) d.ss (hsOs d.os) x).1.map (er0 T)).map (ren (rho I ids))=((tkT (sgs I) (tkB d.os b) d.ss (hsOs d.os) x).1.map (er0 T)).map (ren0 (rho I ids)):=by
      rw[List.map_map,List.map_map]
      exact List.map_congr_left fun v _=>ren_0 _ k1j
     rw[this,k2j (sgs I),k2j (sgs ids)]
     exact kb0 hrho (tkT_ok hid1 d.ss _ x b1)
    rw[e1];exact k4
   rw[efill]
   show getS ((zipS T d.ts (tkT (sgs I) (tkB d.os b) d.ss _ x).1++s0.sl).map fun p=>(p.1,er T p.2)) t= .any∨_
   rw[getS_er]
   by_cases ht:t∈d.ts
   ·rw[khj (zip_has (by rw[tkT_len];exact nb_eq b4) ht)]
    have:=slotsR (sl:=s.sl) (nx:=s0.nx+d.n) d.ts _ key (args_ok hlt d.ss _ x b1) t
    rw[getS_er]at this
    exact this
   ·rw[kbl (zip_no ht)]
    by_cases hk:hasK T s0.sl t=true
    ·right
     have e:getT s.sl t=getT s0.sl t:=by
      rw[hpsl]
      refine kbl ?_
      cases hp:hasK T psl t with
      |false=>rfl
      |true=>
       rcases khq a5 hp with q|q
       ·exact(ht q).elim
       ·rw[q]at hk;cases hk
     obtain⟨r1,r2⟩:=hg.sl t
     refine⟨?_,ok_mono (Nat.le_add_right _ _) r1⟩
     rw[ren_id hsm r1,show getS (erS T s).sl t=er T (getT s.sl t)from getS_er s.sl t,e]
     exact r2
    ·left
     rw[kdy (by simpa using hk)];rfl
 ·exact h4.elim
theorem Xt.cons {s:TSt T.den} (a:List (Nat×TV T.den)) (b:THp T.den) (n:Nat):Xt s ⟨a++s.sl,b++s.h,s.nx+n⟩:=⟨⟨a,rfl⟩,⟨b,rfl⟩,Nat.le_add_right _ _⟩
theorem Xt.h1 {s:TSt T.den} (b:THp T.den) (n:Nat):Xt s ⟨s.sl,b++s.h,s.nx+n⟩:=⟨⟨[],rfl⟩,⟨b,rfl⟩,Nat.le_add_right _ _⟩
theorem kgd {id n z:Nat} {v:TV T.den}:∀(ts:List Nat) (sl:List (Nat×TV T.den)) {K K' :List (Nat×TV T.den)->Prop},(∀a,K (a++sl)->K' (a++sl))->rowsTo T id v n z ts sl K->rowsTo T id v n z ts sl K'
 |[],sl,K,K',hk,h=>hk [] h
 |t::ts,sl,K,K',hk,h=>by
  simp only[rowsTo]at h ⊢
  split at h
  ·obtain⟨h1,h2,h3⟩:=cnd h
   rw[h1,cond_true]
   exact⟨h2,kgd ts _ (fun a ha=>by have:=hk (a++[(t,v)]);simp only[List.append_assoc,List.singleton_append]at this;exact this ha) h3⟩
  ·exact h.elim
theorem trimV_X {h:THp T.den} {v:TV T.den} {K K' :Nat->(e:Ty)->List (e.den T.den)->Prop} (hk:∀id e l,K id e l->K' id e l) (hh:trimV T h v K):trimV T h v K' :=by
 unfold trimV at hh ⊢
 split at hh<;>try exact hh.elim
 all_goals
  split at hh
  ·obtain⟨h1,h2⟩:=cnd hh
   rw[h1,cond_true]
   first|exact⟨h2.1,hk _ _ _ h2.2⟩|exact⟨h2.1,h2.2.1,hk _ _ _ h2.2.2⟩
  ·exact hh.elim
theorem gh1_X {s:TSt T.den} {K K' :TSt T.den->Prop} (hk:∀s',Xt s s'->K s'->K' s'):∀(g:Gs),gh1 T s K g->gh1 T s K' g
 | .frz id ts,h=>by
  simp only[gh1]at h ⊢
  split at h
  ·exact kgd ts _ (fun a=>hk _ ⟨⟨a,rfl⟩,⟨[_,_],rfl⟩,Nat.le_succ _⟩) h
  ·exact h.elim
 | .frzc id i j,h=>by
  simp only[gh1]at h ⊢
  split at h
  ·split at h
   ·obtain⟨h1,h2,h3⟩:=cnd h
    rw[h1,cond_true]
    exact⟨h2,hk _ ⟨⟨[],rfl⟩,⟨[_,_,_],rfl⟩,Nat.le_succ _⟩ h3⟩
   ·exact h.elim
  ·exact h.elim
 | .tok t e,h=>by
  simp only[gh1]at h ⊢
  split at h
  ·exact hk _ ⟨⟨[_],rfl⟩,⟨[_],rfl⟩,Nat.le_succ _⟩ h
  ·exact h.elim
 | .tokc id j e,h=>by
  simp only[gh1]at h ⊢
  split at h
  ·split at h
   ·split at h
    ·exact hk _ ⟨⟨[],rfl⟩,⟨[_,_],rfl⟩,Nat.le_succ _⟩ h
    ·exact h.elim
   ·exact h.elim
  ·exact h.elim
 | .trim t,h=>by
  simp only[gh1]at h ⊢
  exact trimV_X (fun _ _ _=>hk _ ⟨⟨[_],rfl⟩,⟨[_,_],rfl⟩,Nat.le_succ _⟩) h
 | .trimc id j,h=>by
  simp only[gh1]at h ⊢
  split at h
  ·split at h
   ·refine trimV_X (fun id' e l hh=> ?_) h
    revert hh
    cases Nat.beq id' id with
    |true=>exact fun hh=>hh
    |false=>exact hk _ ⟨⟨[],rfl⟩,⟨[_,_,_],rfl⟩,Nat.le_succ _⟩
   ·exact h.elim
  ·exact h.elim
 | .rnil t e,h=>by
  simp only[gh1]at h ⊢
  obtain⟨h1,h2⟩:=cnd h
  rw[h1,cond_true]
  exact hk _ ⟨⟨[_],rfl⟩,⟨[_],rfl⟩,Nat.le_succ _⟩ h2
 | .rnilc id j e,h=>by
  simp only[gh1]at h ⊢
  split at h
  ·split at h
   ·obtain⟨h1,h2⟩:=cnd h
    rw[h1,cond_true]
    exact hk _ ⟨⟨[],rfl⟩,⟨[_,_],rfl⟩,Nat.le_succ _⟩ h2
   ·exact h.elim
  ·exact h.elim
theorem ghs_X:∀(gs:List Gs) {s:TSt T.den} {K K' :TSt T.den->Prop},(∀s',Xt s s'->K s'->K' s')->ghs T gs s K->ghs T gs s K'
 |[],s,_,_,hk,h=>hk s (Xt.refl s) h
 |g::gs,s,_,_,hk,h=>gh1_X (fun s1 h1 h2=>ghs_X gs (fun s' h3=>hk s' (h1.trans h3)) h2) g h
theorem fill_X {d:Dl} {s:TSt T.den} {i:HL T.den d.hs}:Xt s (d.fill T s i):=⟨⟨_,rfl⟩,⟨_,rfl⟩,Nat.le_add_right _ _⟩
theorem sat_ghX (hT:T.Ok) {Tk:Tk} {G0:Gh} {w0:World} {gs:List Gs} {s:TSt T.den} {K:TSt T.den->Prop} {c:Code} {Q:Exit->St->Prop} (h:ghs T gs s K) (hk:∀s',K s'->Xt s s'->Sat P Tk G0 w0 N c (erS T s') Q):Sat P Tk G0 w0 N c (erS T s) Q:=
 sat_ghs hT (K:=fun s' =>K s'/\Xt s s') (ghs_X gs (fun _ hx hs=>⟨hs,hx⟩) h) fun s' hs=>hk s' hs.1 hs.2
def QX (s:TSt T.den) (Q:Exit->TSt T.den->Prop) (e:Exit) (t:St):Prop:=KE (fun t=>Q e t/\Xt s t) t
theorem QX.of {s s' :TSt T.den} {Q:Exit->TSt T.den->Prop} {e:Exit} {t:St} (hx:Xt s s') (h:QX s' Q e t):QX s Q e t:=let⟨u,h1,h2⟩:=h;⟨u,⟨h1.1,hx.trans h1.2⟩,h2⟩
theorem QX.mk {s t:TSt T.den} {Q:Exit->TSt T.den->Prop} {e:Exit} (hx:Xt s t) (h:Q e t):QX s Q e (erS T t):=⟨t,⟨h,hx⟩,Wk.refl _⟩
theorem klp (hT:T.Ok) (hC:C.Ok P T) (hm:P.follows .mixedOrders=true) {Tk:Tk} {G0:Gh} {w0:World}:∀(c:Code) (an:Nt) (s:TSt T.den) (Q:Exit->TSt T.den->Prop),Tk.nx<=s.nx->WQ T C N c an s Q->Sat P Tk G0 w0 N c (erS T s) (QX s Q):=by
 intro c
 induction c with
 |skip=>intro an s Q _ h;exact khx (QX.mk (Xt.refl s) (by simpa[WQ]using h))
 |region id ops dr=>
  intro an s Q _ h
  obtain⟨l⟩:=ops
  have h:regW T C N ⟨l⟩ dr s (Q .normal):=by simpa[WQ]using h
  cases dr with
  |false=>
   intro G a w hR
   exact wp_region_lit (k65 hT hC l (Q .normal) s s a G w (Xt.refl s) hR h fun s' a' G' w' hk hx hR' =>⟨erS T s',G',QX.mk hx hk,hR'⟩)
  |true=>
   unfold regW at h
   obtain⟨h1,h2⟩:=cnd h
   rw[Bool.and_eq_true]at h1
   refine keo C.S hm (noIt_er h1.2) h1.1 fun K hK=> ?_
   have hx:Xt s ⟨s.sl,s.h,s.nx+l.length*C.S⟩:=⟨⟨[],rfl⟩,⟨[],rfl⟩,Nat.le_add_right _ _⟩
   exact k5e (K:=KE fun t=>Q .normal t/\Xt s t) (fun a b he ⟨t,q1,q2⟩=>hK a ⟨t,q1,he.wk.trans q2⟩) (closeOps l) _ _ _ _ _ (Eqv.refl _) (k4g hT hC (s0:=s) (closeOps l) _ _ _ _ hx h2)
 |seq x y ihx ihy=>
  intro an s Q hn h
  have plain:∀(ga gb:List Gs) (a b:Nt),(ghs T ga s fun s=>WQ T C N x a s (thenT T (fun s' =>ghs T gb s' fun s' =>WQ T C N y b s' Q) Q))->Sat P Tk G0 w0 N (.seq x y) (erS T s) (QX s Q):=by
   intro ga gb a b h1
   refine sat_ghX hT h1 fun s' hs' hx=>sat_seq (kw (ihx a s' _ (Nat.le_trans hn hx.2.2) hs') fun e s1 hq=> ?_)
   obtain⟨t,⟨q1,q2⟩,q3⟩:=hq
   cases e with
   |normal=>exact sat_lk q3.lk (sat_ghX hT q1 fun s2 hs2 hx2=>kw (ihy b s2 Q (Nat.le_trans hn ((hx.trans q2).trans hx2).2.2) hs2) fun _ _=>QX.of ((hx.trans q2).trans hx2))
   |_=>exact⟨t,⟨q1,hx.trans q2⟩,q3⟩
  cases an with
  |jn d ga a gb b=>
   have h:ghs T ga s fun s=>∀J:Ar T.den d.hs Prop,alH d.hs (fun i=>(ghs T gb (d.fill T s i) fun s' =>WQ T C N y b s' Q)->apA d.hs J i)->WQ T C N x a s (thenT T (fun s1=>d.mat T s s1 (apA d.hs J)) Q):=by simpa only[WQ]using h
   refine sat_ghX hT h fun s' hs' hx=> ?_
   have hn' :=Nat.le_trans hn hx.2.2
   intro G ac w hR
   have hg:=gd_of hR
   have h1:=hs' (cuA d.hs fun i=>Sat P Tk G0 w0 N y (erS T (d.fill T s' i)) (QX s Q)) (alH_iff.2 fun i hi=>by
    rw[ap_cu]
    exact sat_ghX hT hi fun s2 hs2 hx2=>kw (ihy b s2 Q (Nat.le_trans hn' (fill_X.trans hx2).2.2) hs2) fun _ _=>QX.of (hx.trans (fill_X.trans hx2)))
   refine sat_seq (kw (ihx a s' _ hn' h1) fun e s1 hq=> ?_) G ac w hR
   obtain⟨t,⟨q1,q2⟩,q3⟩:=hq
   cases e with
   |normal=>
    obtain⟨i,k1,k2⟩:=kao hT q2 hg hn' q1
    rw[ap_cu]at k1
    exact sat_lk (q3.lk.trans k2) k1
   |_=>exact⟨t,⟨q1,hx.trans q2⟩,q3⟩
  |no=>simp only[WQ]at h;exact plain _ _ _ _ h
  |r n b=>simp only[WQ]at h;exact plain _ _ _ _ h
  |nd ga a gb b=>simp only[WQ]at h;exact plain _ _ _ _ h
  |lp g d a=>simp only[WQ]at h;exact plain _ _ _ _ h
  |rt g=>simp only[WQ]at h;exact plain _ _ _ _ h
 |cond c x y ihx ihy=>
  intro an s Q hn h
  simp only[WQ]at h
  split at h
  ·rename_i hv
   exact kef (by rw[ev_er,hv];rfl) (sat_ghX hT h fun s' hs' hx=>kw (ihx _ s' Q (Nat.le_trans hn hx.2.2) hs') fun _ _=>QX.of hx)
  ·rename_i hv
   exact ke7 (by rw[ev_er,hv];rfl) (sat_ghX hT h fun s' hs' hx=>kw (ihy _ s' Q (Nat.le_trans hn hx.2.2) hs') fun _ _=>QX.of hx)
  ·rename_i t hv
   exact k6m (t:=t) (by rw[ev_er,hv];rfl) (fun ht=>sat_ghX hT (h.1 ht) fun s' hs' hx=>kw (ihx _ s' Q (Nat.le_trans hn hx.2.2) hs') fun _ _=>QX.of hx) (fun ht=>sat_ghX hT (h.2 ht) fun s' hs' hx=>kw (ihy _ s' Q (Nat.le_trans hn hx.2.2) hs') fun _ _=>QX.of hx)
  ·exact h.elim
 |block id x ih=>
  intro an s Q hn h
  simp only[WQ]at h
  refine kee (kw (ih an s _ hn h) fun e s1 hq=> ?_)
  obtain⟨t,⟨q1,q2⟩,q3⟩:=hq
  cases e with
  |exit id' =>
   simp only[blockT]at q1
   simp only[blockA]
   by_cases hi:id' =id
   ·rw[if_pos hi]
    rw[hi,nb_self]at q1
    exact⟨t,⟨q1,q2⟩,q3⟩
   ·rw[if_neg hi]
    rw[nb_ne hi]at q1
    exact⟨t,⟨q1,q2⟩,q3⟩
  |_=>exact⟨t,⟨q1,q2⟩,q3⟩
 |loop x ih=>
  intro an s Q hn h
  cases an with
  |lp g d a=>
   simp only[WQ]at h
   refine sat_ghX hT h fun s' hs' hx=> ?_
   have hn' :=Nat.le_trans hn hx.2.2
   intro G ac w hR
   have hg:=gd_of hR
   obtain⟨i,⟨inv,μ,k0,k1⟩,k2⟩:=kao hT (Xt.refl s') hg hn' hs'
   refine kf1 (fun i=>erS T (d.fill T s' i)) (apA d.hs inv) (apA d.hs μ) i k0 k2 (fun i hi=> ?_) G ac w hR
   refine kw (ih _ _ _ (Nat.le_trans hn' fill_X.2.2) (alH_iff.1 k1 i hi)) fun e s1 hq=> ?_
   obtain⟨t,⟨q1,q2⟩,q3⟩:=hq
   cases e with
   |normal=>
    obtain⟨i',⟨m1,m2⟩,m3⟩:=kao hT (fill_X.trans q2) hg hn' q1
    exact⟨i',m1,m2,q3.lk.trans m3⟩
   |_=>exact⟨t,⟨q1,hx.trans (fill_X.trans q2)⟩,q3⟩
  |_=>simp only[WQ]at h
 |exit id=>intro an s Q _ h;simp only[WQ]at h;exact kia (QX.mk (Xt.refl s) h)
 |ret=>
  intro an s Q _ h
  simp only[WQ]at h
  exact sat_ghX hT h fun s' hs' hx=>sat_ret (QX.mk hx hs')
 |label l=>intro an s Q _ h;simp only[WQ]at h;exact kez (QX.mk (Xt.refl s) h)
 |_=>intro an s Q _ h;simp only[WQ]at h
theorem Con.soundQ (hT:T.Ok) (hC:C.Ok P T) (hm:P.follows .mixedOrders=true) {c:Con T.den} {fn:Func} {code:Code} (hf:P.funcs[c.f]? =some fn) (hb:fn.body=some code) (hl:Nat.ble c.ins.length fn.ntmps=true)
  {x:HL T.den (hsT c.ins (hsOs c.pre))} {o:HL T.den (hsV c.res (hsOs c.post))} {an:Nt} (hW:WQ T C fn.ntmps code an (c.st T x) (retTQ T C c fn.results.toList o)):
  SoundH P c.f ((c.args idf x).map (er T)) ((c.obs idf x).map (erO T)) (er T (c.val idf o)) ((c.ops idf o).map (erO T)):=by
 have hpl:((c.obs idf x).map (erO T)).length=c.pre.length:=by rw[List.length_map];unfold Con.obs;rw[tkC_len]
 have hal:((c.args idf x).map (er T)).length=c.ins.length:=by rw[List.length_map];unfold Con.args;rw[tkT_len]
 refine kh6 hf hb rfl (by rw[hal];exact ble_le hl) fun G0 w0=> ?_
 have e:erS T (c.st T x)=⟨initSl 0 ((c.args idf x).map (er T)),hpOf 0 ((c.obs idf x).map (erO T)),((c.obs idf x).map (erO T)).length⟩:=by
  rw[hpl]
  show St.mk _ _ _=_
  unfold Con.st
  rw[kbg,hpN_idf]
 rw[<-e]
 refine khk (klp hT hC hm code an _ _ (Nat.le_of_eq hpl) hW) fun ex s1 hq=> ?_
 obtain⟨t,⟨q1,_⟩,q2⟩:=hq
 refine⟨erS T t,?_,q2.lk⟩
 cases ex with
 |normal=>have:=k7a hT hC (s:=t) q1;rw[<-hpl]at this;exact this
 |ret=>have:=k7a hT hC (s:=t) q1;rw[<-hpl]at this;exact this
 |_=>exact q1
end
end Go.Cv
namespace Go.Cv
open Go Go.Bv Go.RowKit Go.Md
structure WPh (T:Tab) (C:Cx T) (N n0:Nat) (c:Code) (an:An T) (s:TSt T.den) (Q:Exit->TSt T.den->Prop):Prop where
 h:WP T C N n0 c an s Q
structure OblH (T:Tab) (C:Cx T) (N n0:Nat) (c:Code) (an:An T) (Q:Exit->TSt T.den->Prop):Prop where
 h:Obl T C N n0 c an Q
theorem mpr_of {A B:Prop} (e:A=B) (h:B):A:=e.mpr h
section
variable {S:Nat->Type}
end
def flAll (F:Nat->Option (Nat×Bool×Nat)):Nat->List (Nat×Bool×Nat)->Prop
 |_,[]=>True
 |k,q::r=>F k=some q/\flAll F (k+1) r
theorem keg {F:Nat->Option (Nat×Bool×Nat)}:∀{l:List (Nat×Bool×Nat)} {k:Nat},flAll F k l->∀i q,l[i]? =some q->F (k+i)=some q
 |[],_,_,i,q,h=>by simp at h
 |p::r,k,ha,i,q,h=>by
  cases i with
  |zero=>simp at h;subst h;exact ha.1
  |succ i=>rw[show k+(i+1)=k+1+i by omega];exact keg ha.2 i q (by simpa using h)
theorem kf {P:Program} {t:TypeId} {l:List (Nat×Bool×Nat)} (h:flAll (fldOf P t) 0 l) (f:Nat) (q:Nat×Bool×Nat) (hq:l[f]? =some q):fldOf P t f=some q:=by
 have:=keg h f q hq
 simpa using this
section
variable {T:Tab} {P:Program}
theorem all_nil {α:Type} {p:α->Prop}:∀c∈([]:List α),p c:=fun _ h=>by cases h
theorem all_cons {α:Type} {p:α->Prop} {a:α} {l:List α} (h:p a) (h' :∀c∈l,p c):∀c∈a::l,p c:=fun c hc=>by
 rcases List.mem_cons.1 hc with rfl|hc
 ·exact h
 ·exact h' c hc
theorem ke {P:Program} {T:Tab}:InfoOk P T .lf:=fun _ _ h=>by cases h
theorem find_nd {P:Program} {T:Tab} {l r:BT (TI T.den)} {k:Nat} {v:TI T.den} (hv:TI.Ok P T k v) (hl:InfoOk P T l) (hr:InfoOk P T r):InfoOk P T (.nd l k v r):=fun t x h=>by
 unfold BT.find at h
 cases h1:Nat.beq t k with
 |true=>rw[h1]at h;have:=nb_eq h1;subst this;injection h with h;subst h;exact hv
 |false=>
  rw[h1]at h
  cases h2:Nat.ble t k with
  |true=>rw[h2]at h;exact hl t x h
  |false=>rw[h2]at h;exact hr t x h
end
end Go.Cv
namespace Go.Cv
open Go Go.Bv Go.RowKit Go.Md
section
variable {S:Nat->Type}
def apH:(a:List Ty)->{b:List Ty}->HL S a->HL S b->HL S (a++b)
 |[],_,_,y=>y
 |_::r,_,x,y=>(x.1,apH r x.2 y)
def spA:(a:List Ty)->{b:List Ty}->HL S (a++b)->HL S a
 |[],_,_=>()
 |_::r,_,x=>(x.1,spA r x.2)
def spB:(a:List Ty)->{b:List Ty}->HL S (a++b)->HL S b
 |[],_,x=>x
 |_::r,_,x=>spB r x.2
theorem ap_sp:∀(a:List Ty) {b:List Ty} (x:HL S (a++b)),apH a (spA a x) (spB a x)=x
 |[],_,_=>rfl
 |_::r,_,x=>congrArg (fun z=>(x.1,z)) (ap_sp r x.2)
def cst {a b:List Ty} (h:a=b) (x:HL S b):HL S a:=h▸x
theorem cst_cst {a b:List Ty} (h:a=b) (x:HL S b):cst h.symm (cst h x)=x:=by subst h;rfl
def cnj:List Prop->Prop
 |[]=>True
 |[a]=>a
 |a::b::r=>a/\cnj (b::r)
def eqs:List Prop->Prop->Prop
 |[],K=>K
 |a::l,K=>cnj (a::l)->K
def alM:List Bool->(ts:List Ty)->HL S ts->(HL S ts->List Prop->Prop)->Prop
 |true::m,t::r,x,K=>∀v:t.den S,alM m r x.2 fun y l=>K (v,y) ((v=x.1)::l)
 |false::m,t::r,x,K=>alM m r x.2 fun y l=>K (x.1,y) l
 |_,_,x,K=>K x []
def alE:(ts:List Ty)->HL S ts->(HL S ts->Prop)->Prop
 |t::r,x,K=>∀v:t.den S,x.1=v->alE r x.2 fun y=>K (v,y)
 |[],x,K=>K x
theorem cnj_of:∀{l:List Prop},(∀p∈l,p)->cnj l
 |[],_=>trivial
 |[_],h=>h _ (List.mem_singleton_self _)
 |_::b::r,h=>⟨h _ (List.mem_cons_self ..),cnj_of (l:=b::r) fun p hp=>h p (List.mem_cons_of_mem _ hp)⟩
theorem alM_at:∀{m:List Bool} {ts:List Ty} {x:HL S ts} {K:HL S ts->List Prop->Prop},alM m ts x K->∃l,K x l/\∀p∈l,p
 |[],[],_,_,h=>⟨_,h,fun _ hp=>by cases hp⟩
 |[],_::_,_,_,h=>⟨_,h,fun _ hp=>by cases hp⟩
 |true::_,[],_,_,h=>⟨_,h,fun _ hp=>by cases hp⟩
 |false::_,[],_,_,h=>⟨_,h,fun _ hp=>by cases hp⟩
 |true::m,_::r,x,_,h=>by
  obtain⟨l,h1,h2⟩:=alM_at (m:=m) (ts:=r) (h x.1)
  refine⟨_,h1,fun p hp=> ?_⟩
  rcases List.mem_cons.1 hp with rfl|hp
  ·rfl
  ·exact h2 p hp
 |false::m,_::r,_,_,h=>alM_at (m:=m) (ts:=r) h
theorem eqs_at {l:List Prop} {K:Prop} (h:eqs l K) (hl:∀p∈l,p):K:=by
 cases l with
 |nil=>exact h
 |cons a l=>exact h (cnj_of hl)
theorem alE_at:∀{ts:List Ty} {x:HL S ts} {K:HL S ts->Prop},alE ts x K->K x
 |[],_,_,h=>h
 |_::r,x,_,h=>alE_at (ts:=r) (h x.1 rfl)
end
section
variable (T:Tab)
def flT:List Ty->List Ty
 |[]=>[]
 | .st n::r=>T.tys n++flT r
 | .int k::r=> .int k::flT r
 | .bool::r=> .bool::flT r
 | .str::r=> .str::flT r
 | .sl e::r=> .sl e::flT r
def flH:(ts:List Ty)->HL T.den ts->HL T.den (flT T ts)
 |[],_=>()
 | .st n::r,x=>apH (T.tys n) (T.cells n x.1) (flH r x.2)
 | .int _::r,x=>(x.1,flH r x.2)
 | .bool::r,x=>(x.1,flH r x.2)
 | .str::r,x=>(x.1,flH r x.2)
 | .sl _::r,x=>(x.1,flH r x.2)
def unH:(ts:List Ty)->HL T.den (flT T ts)->HL T.den ts
 |[],_=>()
 | .st n::r,x=>(T.pack n (spA (T.tys n) x),unH r (spB (T.tys n) x))
 | .int _::r,x=>(x.1,unH r x.2)
 | .bool::r,x=>(x.1,unH r x.2)
 | .str::r,x=>(x.1,unH r x.2)
 | .sl _::r,x=>(x.1,unH r x.2)
theorem fl_un (hT:T.Ok):∀(ts:List Ty) (x:HL T.den (flT T ts)),flH T ts (unH T ts x)=x
 |[],_=>rfl
 | .st n::r,x=>by
  show apH (T.tys n) (T.cells n (T.pack n (spA (T.tys n) x))) (flH T r (unH T r (spB (T.tys n) x)))=x
  rw[hT.pc,fl_un hT r]
  exact ap_sp _ _
 | .int _::r,x=>congrArg (fun z=>(x.1,z)) (fl_un hT r x.2)
 | .bool::r,x=>congrArg (fun z=>(x.1,z)) (fl_un hT r x.2)
 | .str::r,x=>congrArg (fun z=>(x.1,z)) (fl_un hT r x.2)
 | .sl _::r,x=>congrArg (fun z=>(x.1,z)) (fl_un hT r x.2)
end
structure Shp where
 f:Nat
 ins:List Sh0
 pre:List OSh
 res:Sh
 post:List OSh
 alt:Bool:=false
abbrev Shp.I (c:Shp):List Ty:=hsT c.ins (hsOs c.pre)
abbrev Shp.O (c:Shp):List Ty:=hsV c.res (hsOs c.post)
def Shp.c {S:Nat->Type} (c:Shp) (R:HL S c.I->(HL S c.O->Prop)->Prop):Con S:=⟨c.f,c.ins,c.pre,c.res,c.post,R,c.alt⟩
def Con.g {T:Tab} (c:Shp) (pk qk:List Ty) (m:List Bool) (sp:Ar T.den pk (Prop×HL T.den qk)) (h:flT T pk=c.I:=by kernel_rfl) (h' :flT T qk=c.O:=by kernel_rfl):Con T.den:=
 c.c fun x K=>(apA pk sp (unH T pk (cst h x))).1/\alM m qk (apA pk sp (unH T pk (cst h x))).2 fun o l=>eqs l (K (cst h'.symm (flH T qk o)))
def Con.t {T:Tab} (c:Shp) (pk qk:List Ty) (m:List Bool) (sp:Ar T.den pk (HL T.den qk)) (h:flT T pk=c.I:=by kernel_rfl) (h' :flT T qk=c.O:=by kernel_rfl):Con T.den:=
 c.c fun x K=>alM m qk (apA pk sp (unH T pk (cst h x))) fun o l=>eqs l (K (cst h'.symm (flH T qk o)))
def dS (T:Tab):Ty->Sh0
 | .st n=> .agg ((T.tys n).map .d)
 |t=> .one (.d t)
def dV (T:Tab):List Ty->Sh
 |[t]=> .one (dS T t)
 |l=> .tup (l.map (dS T))
def Shp.p (T:Tab) (f:Nat) (pk qk:List Ty):Shp:=⟨f,pk.map (dS T),[],dV T qk,[],false⟩
def NoGo (fn:Func):Bool:=decide (fn.name≠ "runtime.NumGoroutine")
structure Base (P:Program) (T:Tab) (I:BT (TI T.den)):Prop where
 tb:T.Ok
 ti:InfoOk P T I
 mix:P.follows .mixedOrders=true
def AllC (P:Program) (T:Tab) (l:List (Con T.den)):Prop:=∀c∈l,c.Ok P T
def AllX (P:Program) (T:Tab) (l:List (XCon T.den)):Prop:=∀c∈l,c.Ok P T
section
variable {P:Program} {T:Tab}
theorem c0:AllC P T []:=fun _ h=>by cases h
theorem x0:AllX P T []:=fun _ h=>by cases h
theorem Con.Ok.c {c:Con T.den} {l:List (Con T.den)} (h:c.Ok P T) (h' :AllC P T l):AllC P T (c::l):=all_cons h h'
theorem x1 {c:XCon T.den} {l:List (XCon T.den)} (h:c.Ok P T) (h' :AllX P T l):AllX P T (c::l):=all_cons h h'
theorem callable {f:Nat} {fn:Func} {code:Code} (hf:P.funcs[f]? =some fn) (hb:fn.body=some code) (hg:NoGo fn=true):Callable P f:=by
 refine⟨by rw[hf];simp[hb],?_⟩
 rw[hf]
 intro h
 simp only[Option.map_some,Option.some.injEq]at h
 exact of_decide_eq_true hg h
def obF (C:Cx T) (fn:Func) (an:Nt) (k:Con T.den) (pk qk:List Ty) (h:flT T pk=hsT k.ins (hsOs k.pre)) (h' :flT T qk=hsV k.res (hsOs k.post)) (sp:HL T.den pk->(HL T.den qk->Prop)->Prop):Prop:=match fn.body with
 | some code=>bif NoGo fn&&Nat.ble k.ins.length fn.ntmps then
   alH pk fun y=>sp y fun o=>WQ T C fn.ntmps code an (k.st T (cst h.symm (flH T pk y))) (retTQ T C k fn.results.toList (cst h'.symm (flH T qk o)))
  else False
 |none=>False
theorem obF_ok {I:BT (TI T.den)} (B:Base P T I) {cs:List (Con T.den)} {xs:List (XCon T.den)} {z:Nat} {rw:List Nat} {fn:Func} {an:Nt} {k:Con T.den} {pk qk:List Ty} {h:flT T pk=hsT k.ins (hsOs k.pre)} {h' :flT T qk=hsV k.res (hsOs k.post)} {sp:HL T.den pk->(HL T.den qk->Prop)->Prop}
  (hf:P.funcs[k.f]? =some fn) (hcs:AllC P T cs) (hxs:AllX P T xs) (q:obF ⟨I,cs,xs,z,rw⟩ fn an k pk qk h h' sp)
  (hR:∀x K,k.R x K->∀L,sp (unH T pk (cst h x)) L->∃o,K (cst h'.symm (flH T qk o))/\L o):k.Ok P T:=by
 unfold obF at q
 split at q
 ·rename_i code hb
  obtain⟨q1,q2⟩:=cnd q
  rw[Bool.and_eq_true]at q1
  refine⟨callable hf hb q1.1,fun x K hx=> ?_⟩
  obtain⟨o,h1,h2⟩:=hR x K hx _ (alH_iff.1 q2 (unH T pk (cst h x)))
  have e:cst h.symm (flH T pk (unH T pk (cst h x)))=x:=by rw[fl_un T B.tb];exact cst_cst h x
  rw[e]at h2
  exact⟨_,h1,Con.soundQ (C:=⟨I,cs,xs,z,rw⟩) B.tb ⟨B.ti,hcs,hxs⟩ B.mix hf hb q1.2 h2⟩
 ·exact q.elim
variable {I:BT (TI T.den)} {cs:List (Con T.den)} {xs:List (XCon T.den)} {rw:List Nat} {fn:Func} {an:Nt} {c:Shp} {pk qk:List Ty} {m:List Bool} {h:flT T pk=c.I} {h' :flT T qk=c.O} {Q:Prop}
theorem prx (B:Base P T I) (rw:List Nat) {sp:Ar T.den pk (Prop×HL T.den qk)} (hf:P.funcs[c.f]? =some fn) (an:Nt) (hxs:AllX P T xs) (hcs:AllC P T cs)
  (e:obF ⟨I,cs,xs,4,rw⟩ fn an (Con.g c pk qk m sp h h') pk qk h h' (fun y L=>(apA pk sp y).1->alE qk (apA pk sp y).2 L)=Q) (q:Q):(Con.g c pk qk m sp h h').Ok P T:=
 obF_ok B hf hcs hxs (e.mpr q) fun _ _ hx _ hL=>let⟨_,h1,h2⟩:=alM_at hx.2;⟨_,eqs_at h1 h2,alE_at (hL hx.1)⟩
theorem ptx (B:Base P T I) (rw:List Nat) {sp:Ar T.den pk (HL T.den qk)} (hf:P.funcs[c.f]? =some fn) (an:Nt) (hxs:AllX P T xs) (hcs:AllC P T cs)
  (e:obF ⟨I,cs,xs,4,rw⟩ fn an (Con.t c pk qk m sp h h') pk qk h h' (fun y L=>alE qk (apA pk sp y) L)=Q) (q:Q):(Con.t c pk qk m sp h h').Ok P T:=
 obF_ok B hf hcs hxs (e.mpr q) fun _ _ hx _ hL=>let⟨_,h1,h2⟩:=alM_at hx;⟨_,eqs_at h1 h2,alE_at hL⟩
theorem prv (B:Base P T I) {sp:Ar T.den pk (Prop×HL T.den qk)} (hf:P.funcs[c.f]? =some fn) (an:Nt) (hcs:AllC P T cs)
  (e:obF ⟨I,cs,[],4,[]⟩ fn an (Con.g c pk qk m sp h h') pk qk h h' (fun y L=>(apA pk sp y).1->alE qk (apA pk sp y).2 L)=Q) (q:Q):(Con.g c pk qk m sp h h').Ok P T:=prx B [] hf an x0 hcs e q
theorem ptv (B:Base P T I) {sp:Ar T.den pk (HL T.den qk)} (hf:P.funcs[c.f]? =some fn) (an:Nt) (hcs:AllC P T cs)
  (e:obF ⟨I,cs,[],4,[]⟩ fn an (Con.t c pk qk m sp h h') pk qk h h' (fun y L=>alE qk (apA pk sp y) L)=Q) (q:Q):(Con.t c pk qk m sp h h').Ok P T:=ptx B [] hf an x0 hcs e q
theorem cal {f:Nat} (hf:P.funcs[f]? =some fn) (h:(fn.body.isSome&&NoGo fn)=true):Callable P f:=by
 rw[Bool.and_eq_true,Option.isSome_iff_exists]at h
 obtain⟨⟨_,h1⟩,h2⟩:=h
 exact callable hf h1 h2
theorem Con.Ok.at {k:Con T.den} (hk:k.Ok P T) (x:HL T.den (hsT k.ins (hsOs k.pre))) (o:HL T.den (hsV k.res (hsOs k.post))) (hx:k.R x fun o' =>o' =o):SoundH P k.f ((k.args idf x).map (er T)) ((k.obs idf x).map (erO T)) (er T (k.val idf o)) ((k.ops idf o).map (erO T)):=by
 obtain⟨o',rfl,h⟩:=hk.snd x _ hx
 exact h
def reS (pk qk:List Ty) (sp:Ar T.den pk (Prop×HL T.den qk)) (μ:Ar T.den pk Nat) (rn:Nat):Ar T.den pk (Prop×HL T.den qk):=cuA pk fun y=>((apA pk sp y).1/\apA pk μ y<rn,(apA pk sp y).2)
theorem rec_ok {sp:Ar T.den pk (Prop×HL T.den qk)} {μ:Ar T.den pk Nat} (cl:Callable P c.f) (st:∀rn,(Con.g c pk qk m (reS pk qk sp μ rn) h h').Ok P T->(Con.g c pk qk m (reS pk qk sp μ (rn+1)) h h').Ok P T):(Con.g c pk qk m sp h h').Ok P T:=by
 have all:∀rn,(Con.g c pk qk m (reS pk qk sp μ rn) h h').Ok P T:=by
  intro rn
  induction rn with
  |zero=>
   refine⟨cl,fun x K hx=> ?_⟩
   have hx:_/\_:=hx
   rw[reS,ap_cu]at hx
   exact absurd hx.1.2 (Nat.not_lt_zero _)
  |succ rn ih=>exact st rn ih
 refine⟨cl,fun x K hx=>(all (apA pk μ (unH T pk (cst h x))+1)).snd x K ?_⟩
 show _/\_
 rw[reS,ap_cu]
 exact⟨⟨hx.1,Nat.lt_succ_self _⟩,hx.2⟩
theorem hsL_d:∀(l r:List Ty),hsL (l.map .d) r=l++r
 |[],_=>rfl
 |t::l,r=>congrArg (t::·) (hsL_d l r)
theorem hs0_d (t:Ty) (r:List Ty):hs0 (dS T t) r=flT T [t]++r:=by
 cases t with
 |st n=>show hsL ((T.tys n).map .d) r=(T.tys n++[])++r;rw[hsL_d,List.append_nil]
 |_=>rfl
theorem klw (t:Ty) (r:List Ty):flT T (t::r)=flT T [t]++flT T r:=by
 cases t with
 |st n=>show T.tys n++flT T r=(T.tys n++[])++flT T r;rw[List.append_nil]
 |_=>rfl
theorem hsT_d:∀(l:List Ty),flT T l=hsT (l.map (dS T)) []
 |[]=>rfl
 |t::l=>by
  rw[klw,hsT_d l]
  exact(hs0_d t _).symm
theorem hsV_d:∀(l:List Ty),flT T l=hsV (dV T l) []
 |[]=>rfl
 |[t]=>by show _=hs0 (dS T t) [];rw[hs0_d,List.append_nil]
 |t::u::l=>hsT_d (t::u::l)
def Con.gp {T:Tab} (f:Nat) (pk qk:List Ty) (m:List Bool) (sp:Ar T.den pk (Prop×HL T.den qk)):Con T.den:=Con.g (.p T f pk qk) pk qk m sp (hsT_d pk) (hsV_d qk)
def Con.tp {T:Tab} (f:Nat) (pk qk:List Ty) (m:List Bool) (sp:Ar T.den pk (HL T.den qk)):Con T.den:=Con.t (.p T f pk qk) pk qk m sp (hsT_d pk) (hsV_d qk)
section
variable {f:Nat}
theorem qrx (B:Base P T I) (rw:List Nat) {sp:Ar T.den pk (Prop×HL T.den qk)} (hf:P.funcs[f]? =some fn) (an:Nt) (hxs:AllX P T xs) (hcs:AllC P T cs)
  (e:obF ⟨I,cs,xs,4,rw⟩ fn an (Con.gp f pk qk m sp) pk qk (hsT_d pk) (hsV_d qk) (fun y L=>(apA pk sp y).1->alE qk (apA pk sp y).2 L)=Q) (q:Q):(Con.gp f pk qk m sp).Ok P T:=prx (c:= .p T f pk qk) (h:=hsT_d pk) (h' :=hsV_d qk) B rw hf an hxs hcs e q
theorem qtx (B:Base P T I) (rw:List Nat) {sp:Ar T.den pk (HL T.den qk)} (hf:P.funcs[f]? =some fn) (an:Nt) (hxs:AllX P T xs) (hcs:AllC P T cs)
  (e:obF ⟨I,cs,xs,4,rw⟩ fn an (Con.tp f pk qk m sp) pk qk (hsT_d pk) (hsV_d qk) (fun y L=>alE qk (apA pk sp y) L)=Q) (q:Q):(Con.tp f pk qk m sp).Ok P T:=ptx (c:= .p T f pk qk) (h:=hsT_d pk) (h' :=hsV_d qk) B rw hf an hxs hcs e q
theorem qrv (B:Base P T I) {sp:Ar T.den pk (Prop×HL T.den qk)} (hf:P.funcs[f]? =some fn) (an:Nt) (hcs:AllC P T cs)
  (e:obF ⟨I,cs,[],4,[]⟩ fn an (Con.gp f pk qk m sp) pk qk (hsT_d pk) (hsV_d qk) (fun y L=>(apA pk sp y).1->alE qk (apA pk sp y).2 L)=Q) (q:Q):(Con.gp f pk qk m sp).Ok P T:=qrx B [] hf an x0 hcs e q
theorem qtv (B:Base P T I) {sp:Ar T.den pk (HL T.den qk)} (hf:P.funcs[f]? =some fn) (an:Nt) (hcs:AllC P T cs)
  (e:obF ⟨I,cs,[],4,[]⟩ fn an (Con.tp f pk qk m sp) pk qk (hsT_d pk) (hsV_d qk) (fun y L=>alE qk (apA pk sp y) L)=Q) (q:Q):(Con.tp f pk qk m sp).Ok P T:=qtx B [] hf an x0 hcs e q
end
def Con.b {T:Tab} (c:Shp) (pk qk:List Ty) {B:Type} (sp:Ar T.den pk (Prop×B×(B->HL T.den qk))) (h:flT T pk=c.I:=by kernel_rfl) (h' :flT T qk=c.O:=by kernel_rfl):Con T.den:=
 c.c fun x K=>(apA pk sp (unH T pk (cst h x))).1/\K (cst h'.symm (flH T qk ((apA pk sp (unH T pk (cst h x))).2.2 (apA pk sp (unH T pk (cst h x))).2.1)))
def Con.bp {T:Tab} (f:Nat) (pk qk:List Ty) {B:Type} (sp:Ar T.den pk (Prop×B×(B->HL T.den qk))):Con T.den:=Con.b (.p T f pk qk) pk qk sp (hsT_d pk) (hsV_d qk)
section
variable {f:Nat} {B' :Type} {sp:Ar T.den pk (Prop×B'×(B'->HL T.den qk))}
theorem pbx (B:Base P T I) (rw:List Nat) (hf:P.funcs[c.f]? =some fn) (an:Nt) (hxs:AllX P T xs) (hcs:AllC P T cs)
  (e:obF ⟨I,cs,xs,4,rw⟩ fn an (Con.b c pk qk sp h h') pk qk h h' (fun y L=>(apA pk sp y).1->∀R,(apA pk sp y).2.1=R->L ((apA pk sp y).2.2 R))=Q) (q:Q):(Con.b c pk qk sp h h').Ok P T:=
 obF_ok B hf hcs hxs (e.mpr q) fun _ _ hx _ hL=>⟨_,hx.2,hL hx.1 _ rfl⟩
theorem pbv (B:Base P T I) (hf:P.funcs[c.f]? =some fn) (an:Nt) (hcs:AllC P T cs)
  (e:obF ⟨I,cs,[],4,[]⟩ fn an (Con.b c pk qk sp h h') pk qk h h' (fun y L=>(apA pk sp y).1->∀R,(apA pk sp y).2.1=R->L ((apA pk sp y).2.2 R))=Q) (q:Q):(Con.b c pk qk sp h h').Ok P T:=pbx B [] hf an x0 hcs e q
theorem qbx (B:Base P T I) (rw:List Nat) (hf:P.funcs[f]? =some fn) (an:Nt) (hxs:AllX P T xs) (hcs:AllC P T cs)
  (e:obF ⟨I,cs,xs,4,rw⟩ fn an (Con.bp f pk qk sp) pk qk (hsT_d pk) (hsV_d qk) (fun y L=>(apA pk sp y).1->∀R,(apA pk sp y).2.1=R->L ((apA pk sp y).2.2 R))=Q) (q:Q):(Con.bp f pk qk sp).Ok P T:=pbx (c:= .p T f pk qk) (h:=hsT_d pk) (h' :=hsV_d qk) B rw hf an hxs hcs e q
theorem qbv (B:Base P T I) (hf:P.funcs[f]? =some fn) (an:Nt) (hcs:AllC P T cs)
  (e:obF ⟨I,cs,[],4,[]⟩ fn an (Con.bp f pk qk sp) pk qk (hsT_d pk) (hsV_d qk) (fun y L=>(apA pk sp y).1->∀R,(apA pk sp y).2.1=R->L ((apA pk sp y).2.2 R))=Q) (q:Q):(Con.bp f pk qk sp).Ok P T:=qbx B [] hf an x0 hcs e q
end
end
end Go.Cv
namespace Go.Proofs.YtlfcebhnjkcmnaaGreat
open Go Go.Bv Go.Cv Go.Md Go.RowKit
open Go.IntKind (i64 u64)
structure wF where
 wm:Int
 wD:Int
 wJ:Int
 wI:Int
 wG:Int
 wP:Int
 wU:Int
 wO:Int
 wh:Int
 deriving Inhabited,DecidableEq
structure wAR where
 wn:Int
 wAI:Int
 wAJ:Int
 wv:List Int
 deriving Inhabited,DecidableEq
structure wo where
 wAE:Int
 wC:List Int
 wH:List wAR
 wM:Int
 wQ:Int
 Fee:Int
 wZ:Int
 wL:Int
 wAC:Int
 wAP:List Int
 deriving Inhabited,DecidableEq
structure wAD where
 wAZ:Bool
 wAF:Int
 wAG:Int
 wAK:Int
 wAO:Int
 wAL:Int
 wAB:List wo
 deriving Inhabited,DecidableEq
structure wAH where
 wAT:Int
 wAN:Int
 wAS:Int
 deriving Inhabited,DecidableEq
structure wE where
 wD:Int
 wY:Int
 wd:List Int
 deriving Inhabited,DecidableEq
structure wy where
 P:Int
 deriving Inhabited,DecidableEq
structure wAA where
 a0:Int
 a1:Int
 a2:Int
 deriving Inhabited,DecidableEq
structure wA where
 ID:Int
 wR:Int
 wL:Int
 deriving Inhabited,DecidableEq
structure wN where
 wAV:Int
 wAU:Int
 wAX:List Int
 leaves:Int
 marks:List Int
 wAQ:List wA
 hidden:Int
 deriving Inhabited,DecidableEq
structure wV where
 wAW:Int
 wS:Int
 wAM:Int
 wh:Int
 wL:Int
 Txs:List wo
 deriving Inhabited,DecidableEq
structure wAY where
 a0:Int
 a1:Int
 deriving Inhabited,DecidableEq
structure wl where
 wB:List wA
 deriving Inhabited,DecidableEq
structure wt where
 wx:Int
 wa:Int
 wX:Int
 wW:Int
 wT:Int
 wc:Int
 wK:Int
 wg:Int
 ww:Int
 wS:Int
 wq:List Int
 wC:List Int
 wB:List wA
 wz:Int
 we:List Int
 deriving Inhabited,DecidableEq
def denT:Nat->Type
 |0=>wF
 |1=>wAR
 |2=>wo
 |3=>wAD
 |4=>wAH
 |5=>wE
 |6=>wy
 |7=>wAA
 |8=>wA
 |9=>wN
 |10=>wV
 |11=>wAY
 |12=>wl
 |13=>wt
 |_=>Unit
def tysT:Nat->List Ty
 |0=>[.int .i64,.int .i64,.int .i64,.int .i64,.int .i64,.int .u64,.int .i64,.int .i64,.int .u64]
 |1=>[.int .u64,.int .u64,.int .u64,.sl (.int .u64)]
 |2=>[.int .u64,.sl (.int .u64),.sl (.st 1),.int .u64,.int .u64,.int .u64,.int .u64,.int .u64,.int .i64,.sl (.int .u8)]
 |3=>[.bool,.int .u64,.int .i64,.int .u64,.int .u64,.int .u64,.sl (.st 2)]
 |4=>[.int .i64,.int .i64,.int .i64]
 |5=>[.int .i64,.int .i64,.sl (.int .u64)]
 |6=>[.int .u64]
 |7=>[.int .u64,.int .u64,.int .u64]
 |8=>[.int .u64,.int .u64,.int .u64]
 |9=>[.int .i64,.int .i64,.sl (.int .u64),.int .i64,.sl (.int .u64),.sl (.st 8),.int .u64]
 |10=>[.int .u64,.int .i64,.int .u64,.int .u64,.int .u64,.sl (.st 2)]
 |11=>[.int .u64,.int .u64]
 |12=>[.sl (.st 8)]
 |13=>[.int .i64,.int .i64,.int .i64,.int .i64,.int .i64,.int .u64,.int .i64,.int .i64,.int .u64,.int .i64,.sl (.int .u64),.sl (.int .u64),.sl (.st 8),.int .u64,.sl (.int .u64)]
 |_=>[]
def encTRules (x:wF):D:= .agg [.int .i64 x.wm,.int .i64 x.wD,.int .i64 x.wJ,.int .i64 x.wI,.int .i64 x.wG,.int .u64 x.wP,.int .i64 x.wU,.int .i64 x.wO,.int .u64 x.wh]
def encTOut (x:wAR):D:= .agg [.int .u64 x.wn,.int .u64 x.wAI,.int .u64 x.wAJ,.slice 1 (x.wv.map (D.int .u64))]
def encTTx (x:wo):D:= .agg [.int .u64 x.wAE,.slice 1 (x.wC.map (D.int .u64)),.slice 4 (x.wH.map encTOut),.int .u64 x.wM,.int .u64 x.wQ,.int .u64 x.Fee,.int .u64 x.wZ,.int .u64 x.wL,.int .i64 x.wAC,.slice 1 (x.wAP.map (D.int .u8))]
def encTOp (x:wAD):D:= .agg [.bool x.wAZ,.int .u64 x.wAF,.int .i64 x.wAG,.int .u64 x.wAK,.int .u64 x.wAO,.int .u64 x.wAL,.slice 10 (x.wAB.map encTTx)]
def encTProofParams (x:wAH):D:= .agg [.int .i64 x.wAT,.int .i64 x.wAN,.int .i64 x.wAS]
def encTFrontier (x:wE):D:= .agg [.int .i64 x.wD,.int .i64 x.wY,.slice 1 (x.wd.map (D.int .u64))]
def encTField (x:wy):D:= .agg [.int .u64 x.P]
def encTA3 (x:wAA):D:= .agg [.int .u64 x.a0,.int .u64 x.a1,.int .u64 x.a2]
def encTAccount (x:wA):D:= .agg [.int .u64 x.ID,.int .u64 x.wR,.int .u64 x.wL]
def encTbefore (x:wN):D:= .agg [.int .i64 x.wAV,.int .i64 x.wAU,.slice 1 (x.wAX.map (D.int .u64)),.int .i64 x.leaves,.slice 1 (x.marks.map (D.int .u64)),.slice 3 (x.wAQ.map encTAccount),.int .u64 x.hidden]
def encTBlock (x:wV):D:= .agg [.int .u64 x.wAW,.int .i64 x.wS,.int .u64 x.wAM,.int .u64 x.wh,.int .u64 x.wL,.slice 10 (x.Txs.map encTTx)]
def encTA2 (x:wAY):D:= .agg [.int .u64 x.a0,.int .u64 x.a1]
def encTLedger (x:wl):D:= .agg [.slice 3 (x.wB.map encTAccount)]
def encTState (x:wt):D:= .agg [.int .i64 x.wx,.int .i64 x.wa,.int .i64 x.wX,.int .i64 x.wW,.int .i64 x.wT,.int .u64 x.wc,.int .i64 x.wK,.int .i64 x.wg,.int .u64 x.ww,.int .i64 x.wS,.slice 1 (x.wq.map (D.int .u64)),.slice 1 (x.wC.map (D.int .u64)),.slice 3 (x.wB.map encTAccount),.int .u64 x.wz,.slice 1 (x.we.map (D.int .u64))]
def TB:Tab where
 den:=denT
 tys:=tysT
 inh:=fun n=>match n with
  |0=>(default:wF)
  |1=>(default:wAR)
  |2=>(default:wo)
  |3=>(default:wAD)
  |4=>(default:wAH)
  |5=>(default:wE)
  |6=>(default:wy)
  |7=>(default:wAA)
  |8=>(default:wA)
  |9=>(default:wN)
  |10=>(default:wV)
  |11=>(default:wAY)
  |12=>(default:wl)
  |13=>(default:wt)
  |_+14=>()
 cells:=fun n=>match n with
  |0=>fun(x:wF)=>(x.wm,x.wD,x.wJ,x.wI,x.wG,x.wP,x.wU,x.wO,x.wh,())
  |1=>fun(x:wAR)=>(x.wn,x.wAI,x.wAJ,x.wv,())
  |2=>fun(x:wo)=>(x.wAE,x.wC,x.wH,x.wM,x.wQ,x.Fee,x.wZ,x.wL,x.wAC,x.wAP,())
  |3=>fun(x:wAD)=>(x.wAZ,x.wAF,x.wAG,x.wAK,x.wAO,x.wAL,x.wAB,())
  |4=>fun(x:wAH)=>(x.wAT,x.wAN,x.wAS,())
  |5=>fun(x:wE)=>(x.wD,x.wY,x.wd,())
  |6=>fun(x:wy)=>(x.P,())
  |7=>fun(x:wAA)=>(x.a0,x.a1,x.a2,())
  |8=>fun(x:wA)=>(x.ID,x.wR,x.wL,())
  |9=>fun(x:wN)=>(x.wAV,x.wAU,x.wAX,x.leaves,x.marks,x.wAQ,x.hidden,())
  |10=>fun(x:wV)=>(x.wAW,x.wS,x.wAM,x.wh,x.wL,x.Txs,())
  |11=>fun(x:wAY)=>(x.a0,x.a1,())
  |12=>fun(x:wl)=>(x.wB,())
  |13=>fun(x:wt)=>(x.wx,x.wa,x.wX,x.wW,x.wT,x.wc,x.wK,x.wg,x.ww,x.wS,x.wq,x.wC,x.wB,x.wz,x.we,())
  |_+14=>fun _=>()
 pack:=fun n=>match n with
  |0=>fun(q0,q1,q2,q3,q4,q5,q6,q7,q8,())=>wF.mk q0 q1 q2 q3 q4 q5 q6 q7 q8
  |1=>fun(q0,q1,q2,q3,())=>wAR.mk q0 q1 q2 q3
  |2=>fun(q0,q1,q2,q3,q4,q5,q6,q7,q8,q9,())=>wo.mk q0 q1 q2 q3 q4 q5 q6 q7 q8 q9
  |3=>fun(q0,q1,q2,q3,q4,q5,q6,())=>wAD.mk q0 q1 q2 q3 q4 q5 q6
  |4=>fun(q0,q1,q2,())=>wAH.mk q0 q1 q2
  |5=>fun(q0,q1,q2,())=>wE.mk q0 q1 q2
  |6=>fun(q0,())=>wy.mk q0
  |7=>fun(q0,q1,q2,())=>wAA.mk q0 q1 q2
  |8=>fun(q0,q1,q2,())=>wA.mk q0 q1 q2
  |9=>fun(q0,q1,q2,q3,q4,q5,q6,())=>wN.mk q0 q1 q2 q3 q4 q5 q6
  |10=>fun(q0,q1,q2,q3,q4,q5,())=>wV.mk q0 q1 q2 q3 q4 q5
  |11=>fun(q0,q1,())=>wAY.mk q0 q1
  |12=>fun(q0,())=>wl.mk q0
  |13=>fun(q0,q1,q2,q3,q4,q5,q6,q7,q8,q9,q10,q11,q12,q13,q14,())=>wt.mk q0 q1 q2 q3 q4 q5 q6 q7 q8 q9 q10 q11 q12 q13 q14
  |_+14=>fun _=>()
 enc:=fun n=>match n with
  |0=>encTRules
  |1=>encTOut
  |2=>encTTx
  |3=>encTOp
  |4=>encTProofParams
  |5=>encTFrontier
  |6=>encTField
  |7=>encTA3
  |8=>encTAccount
  |9=>encTbefore
  |10=>encTBlock
  |11=>encTA2
  |12=>encTLedger
  |13=>encTState
  |_+14=>fun _=> .agg []
theorem TBok:TB.Ok where
 one:=fun n=>match n with
  |0=>rfl
  |1=>rfl
  |2=>rfl
  |3=>rfl
  |4=>rfl
  |5=>rfl
  |6=>rfl
  |7=>rfl
  |8=>rfl
  |9=>rfl
  |10=>rfl
  |11=>rfl
  |12=>rfl
  |13=>rfl
  |_+14=>rfl
 pc:=fun n x=>match n with
  |0=>rfl
  |1=>rfl
  |2=>rfl
  |3=>rfl
  |4=>rfl
  |5=>rfl
  |6=>rfl
  |7=>rfl
  |8=>rfl
  |9=>rfl
  |10=>rfl
  |11=>rfl
  |12=>rfl
  |13=>rfl
  |_+14=>rfl
 en:=fun n x=>match n with
  |0=>rfl
  |1=>rfl
  |2=>rfl
  |3=>rfl
  |4=>rfl
  |5=>rfl
  |6=>rfl
  |7=>rfl
  |8=>rfl
  |9=>rfl
  |10=>rfl
  |11=>rfl
  |12=>rfl
  |13=>rfl
  |_+14=>rfl
def ti3:TI TB.den:={ty:=some (false,1),ze:=some [.d (.int .i64) (0:Int)],un:=some (.int .i64)}
theorem ti3_ok:TI.Ok Tryz.prog TB 3 ti3:=
  ⟨(fun _ h=>(show tyOf Tryz.prog 3=some (false,1)by kernel_rfl).trans h),
   (kf trivial),
   (fun _ _ h=>by cases h),
   (fun h=>by cases h),
   (fun _ h=>by cases h),
   (fun _ h=>by cases h;exact⟨by kernel_rfl,kc (by kernel_rfl)⟩),
   (fun h=>(h rfl).elim),
   (fun _ h=>(show Tryz.prog.underlying 3=some (.int .i64)by kernel_rfl).trans h),
   (fun _ h=>by cases h),
   (fun _ _ h=>by cases h)⟩
def ti4:TI TB.den:={ty:=some (false,1),ze:=some [.d (.bool) (false:Bool)],un:=some (.bool)}
theorem ti4_ok:TI.Ok Tryz.prog TB 4 ti4:=
  ⟨(fun _ h=>(show tyOf Tryz.prog 4=some (false,1)by kernel_rfl).trans h),
   (kf trivial),
   (fun _ _ h=>by cases h),
   (fun h=>by cases h),
   (fun _ h=>by cases h),
   (fun _ h=>by cases h;exact⟨by kernel_rfl,kc (by kernel_rfl)⟩),
   (fun h=>(h rfl).elim),
   (fun _ h=>(show Tryz.prog.underlying 4=some (.bool)by kernel_rfl).trans h),
   (fun _ h=>by cases h),
   (fun _ _ h=>by cases h)⟩
def ti5:TI TB.den:={ty:=some (false,1),ze:=some [.d (.int .u8) (0:Int)],un:=some (.int .u8)}
theorem ti5_ok:TI.Ok Tryz.prog TB 5 ti5:=
  ⟨(fun _ h=>(show tyOf Tryz.prog 5=some (false,1)by kernel_rfl).trans h),
   (kf trivial),
   (fun _ _ h=>by cases h),
   (fun h=>by cases h),
   (fun _ h=>by cases h),
   (fun _ h=>by cases h;exact⟨by kernel_rfl,kc (by kernel_rfl)⟩),
   (fun h=>(h rfl).elim),
   (fun _ h=>(show Tryz.prog.underlying 5=some (.int .u8)by kernel_rfl).trans h),
   (fun _ h=>by cases h),
   (fun _ _ h=>by cases h)⟩
def ti9:TI TB.den:={ty:=some (false,1),ze:=some [.d (.str) (ByteArray.empty:ByteArray)],un:=some (.string)}
theorem ti9_ok:TI.Ok Tryz.prog TB 9 ti9:=
  ⟨(fun _ h=>(show tyOf Tryz.prog 9=some (false,1)by kernel_rfl).trans h),
   (kf trivial),
   (fun _ _ h=>by cases h),
   (fun h=>by cases h),
   (fun _ h=>by cases h),
   (fun _ h=>by cases h;exact⟨by kernel_rfl,kc (by kernel_rfl)⟩),
   (fun h=>(h rfl).elim),
   (fun _ h=>(show Tryz.prog.underlying 9=some (.string)by kernel_rfl).trans h),
   (fun _ h=>by cases h),
   (fun _ _ h=>by cases h)⟩
def ti23:TI TB.den:={ty:=some (true,3),fl:=[(0,false,1),(1,false,1),(2,false,1)],ze:=some [.d (.int .i64) (0:Int),.d (.int .i64) (0:Int),.d (.int .i64) (0:Int)],pl:=[(0,1),(1,1),(2,1)],eq:=some [.int .i64,.int .i64,.int .i64]}
theorem ti23_ok:TI.Ok Tryz.prog TB 23 ti23:=
  ⟨(fun _ h=>(show tyOf Tryz.prog 23=some (true,3)by kernel_rfl).trans h),
   (kf ⟨by kernel_rfl,by kernel_rfl,by kernel_rfl,trivial⟩),
   (fun _ _ h=>by cases h),
   (fun h=>by cases h),
   (fun _ h=>by cases h),
   (fun _ h=>by cases h;exact⟨by kernel_rfl,kc (by kernel_rfl)⟩),
   (fun _=>by kernel_rfl),
   (fun _ h=>by cases h),
   (fun _ h=>(show eqT Tryz.prog 23=some [.int .i64,.int .i64,.int .i64]by kernel_rfl).trans h),
   (fun _ _ h=>by cases h)⟩
def ti24:TI TB.den:={ty:=some (false,1),ze:=some [.d (.int .u64) (0:Int)],un:=some (.int .u64)}
theorem ti24_ok:TI.Ok Tryz.prog TB 24 ti24:=
  ⟨(fun _ h=>(show tyOf Tryz.prog 24=some (false,1)by kernel_rfl).trans h),
   (kf trivial),
   (fun _ _ h=>by cases h),
   (fun h=>by cases h),
   (fun _ h=>by cases h),
   (fun _ h=>by cases h;exact⟨by kernel_rfl,kc (by kernel_rfl)⟩),
   (fun h=>(h rfl).elim),
   (fun _ h=>(show Tryz.prog.underlying 24=some (.int .u64)by kernel_rfl).trans h),
   (fun _ h=>by cases h),
   (fun _ _ h=>by cases h)⟩
def ti26:TI TB.den:={ty:=some (true,9),fl:=[(0,false,1),(1,false,1),(2,true,3),(5,false,1),(6,false,1),(7,false,1),(8,false,1)],ze:=some [.d (.int .i64) (0:Int),.d (.int .i64) (0:Int),.d (.int .i64) (0:Int),.d (.int .i64) (0:Int),.d (.int .i64) (0:Int),.d (.int .u64) (0:Int),.d (.int .i64) (0:Int),.d (.int .i64) (0:Int),.d (.int .u64) (0:Int)],pl:=[(0,1),(1,1),(2,3),(5,1),(6,1),(7,1),(8,1)]}
theorem ti26_ok:TI.Ok Tryz.prog TB 26 ti26:=
  ⟨(fun _ h=>(show tyOf Tryz.prog 26=some (true,9)by kernel_rfl).trans h),
   (kf ⟨by kernel_rfl,by kernel_rfl,by kernel_rfl,by kernel_rfl,by kernel_rfl,by kernel_rfl,by kernel_rfl,trivial⟩),
   (fun _ _ h=>by cases h),
   (fun h=>by cases h),
   (fun _ h=>by cases h),
   (fun _ h=>by cases h;exact⟨by kernel_rfl,kc (by kernel_rfl)⟩),
   (fun _=>by kernel_rfl),
   (fun _ h=>by cases h),
   (fun _ h=>by cases h),
   (fun _ _ h=>by cases h)⟩
def ti27:TI TB.den:={ty:=some (false,1),el:=some (.st 3,72),ez:=true,ze:=some [.full (.st 3) []],un:=some (.slice 68)}
theorem ti27_ok:TI.Ok Tryz.prog TB 27 ti27:=
  ⟨(fun _ h=>(show tyOf Tryz.prog 27=some (false,1)by kernel_rfl).trans h),
   (kf trivial),
   (fun _ _ h=>by cases h;exact⟨by kernel_rfl,by kernel_rfl⟩),
   (fun _ _ _ h=>by cases h;exact⟨[.d (.bool false),.d (.int .u64 0),.d (.int .i64 0),.d (.int .u64 0),.d (.int .u64 0),.d (.int .u64 0),.full 10 []],by kernel_rfl,⟨⟨ka _,rfl⟩,⟨ka _,rfl⟩,⟨ka _,rfl⟩,⟨ka _,rfl⟩,⟨ka _,rfl⟩,⟨ka _,rfl⟩,⟨⟨rfl,rfl⟩,rfl⟩,trivial⟩⟩),
   (fun _ h=>by cases h),
   (fun _ h=>by cases h;exact⟨by kernel_rfl,kc (by kernel_rfl)⟩),
   (fun h=>(h rfl).elim),
   (fun _ h=>(show Tryz.prog.underlying 27=some (.slice 68)by kernel_rfl).trans h),
   (fun _ h=>by cases h),
   (fun _ _ h=>by cases h)⟩
def ti30:TI TB.den:={ty:=some (false,1),ze:=some [.k KC.nilPtr.v],un:=some (.pointer 89)}
theorem ti30_ok:TI.Ok Tryz.prog TB 30 ti30:=
  ⟨(fun _ h=>(show tyOf Tryz.prog 30=some (false,1)by kernel_rfl).trans h),
   (kf trivial),
   (fun _ _ h=>by cases h),
   (fun h=>by cases h),
   (fun _ h=>by cases h),
   (fun _ h=>by cases h;exact⟨by kernel_rfl,kc (by kernel_rfl)⟩),
   (fun h=>(h rfl).elim),
   (fun _ h=>(show Tryz.prog.underlying 30=some (.pointer 89)by kernel_rfl).trans h),
   (fun _ h=>by cases h),
   (fun _ _ h=>by cases h)⟩
def ti31:TI TB.den:={ty:=some (false,1),el:=some (.st 13,184),ez:=true,ze:=some [.full (.st 13) []],un:=some (.slice 55)}
theorem ti31_ok:TI.Ok Tryz.prog TB 31 ti31:=
  ⟨(fun _ h=>(show tyOf Tryz.prog 31=some (false,1)by kernel_rfl).trans h),
   (kf trivial),
   (fun _ _ h=>by cases h;exact⟨by kernel_rfl,by kernel_rfl⟩),
   (fun _ _ _ h=>by cases h;exact⟨[.d (.int .i64 0),.d (.int .i64 0),.d (.int .i64 0),.d (.int .i64 0),.d (.int .i64 0),.d (.int .u64 0),.d (.int .i64 0),.d (.int .i64 0),.d (.int .u64 0),.d (.int .i64 0),.full 1 [],.full 1 [],.full 3 [],.d (.int .u64 0),.full 1 []],by kernel_rfl,⟨⟨ka _,rfl⟩,⟨ka _,rfl⟩,⟨ka _,rfl⟩,⟨ka _,rfl⟩,⟨ka _,rfl⟩,⟨ka _,rfl⟩,⟨ka _,rfl⟩,⟨ka _,rfl⟩,⟨ka _,rfl⟩,⟨ka _,rfl⟩,⟨⟨rfl,rfl⟩,rfl⟩,⟨⟨rfl,rfl⟩,rfl⟩,⟨⟨rfl,rfl⟩,rfl⟩,⟨ka _,rfl⟩,⟨⟨rfl,rfl⟩,rfl⟩,trivial⟩⟩),
   (fun _ h=>by cases h),
   (fun _ h=>by cases h;exact⟨by kernel_rfl,kc (by kernel_rfl)⟩),
   (fun h=>(h rfl).elim),
   (fun _ h=>(show Tryz.prog.underlying 31=some (.slice 55)by kernel_rfl).trans h),
   (fun _ h=>by cases h),
   (fun _ _ h=>by cases h)⟩
def ti37:TI TB.den:={ty:=some (false,1),el:=some (.st 8,24),ez:=true,ze:=some [.full (.st 8) []],un:=some (.slice 81)}
theorem ti37_ok:TI.Ok Tryz.prog TB 37 ti37:=
  ⟨(fun _ h=>(show tyOf Tryz.prog 37=some (false,1)by kernel_rfl).trans h),
   (kf trivial),
   (fun _ _ h=>by cases h;exact⟨by kernel_rfl,by kernel_rfl⟩),
   (fun _ _ _ h=>by cases h;exact⟨[.d (.int .u64 0),.d (.int .u64 0),.d (.int .u64 0)],by kernel_rfl,⟨⟨ka _,rfl⟩,⟨ka _,rfl⟩,⟨ka _,rfl⟩,trivial⟩⟩),
   (fun _ h=>by cases h),
   (fun _ h=>by cases h;exact⟨by kernel_rfl,kc (by kernel_rfl)⟩),
   (fun h=>(h rfl).elim),
   (fun _ h=>(show Tryz.prog.underlying 37=some (.slice 81)by kernel_rfl).trans h),
   (fun _ h=>by cases h),
   (fun _ _ h=>by cases h)⟩
def ti39:TI TB.den:={ty:=some (true,1),fl:=[(0,false,1)],ze:=some [.full (.st 8) []],pl:=[(0,1)]}
theorem ti39_ok:TI.Ok Tryz.prog TB 39 ti39:=
  ⟨(fun _ h=>(show tyOf Tryz.prog 39=some (true,1)by kernel_rfl).trans h),
   (kf ⟨by kernel_rfl,trivial⟩),
   (fun _ _ h=>by cases h),
   (fun h=>by cases h),
   (fun _ h=>by cases h),
   (fun _ h=>by cases h;exact⟨by kernel_rfl,kc (by kernel_rfl)⟩),
   (fun _=>by kernel_rfl),
   (fun _ h=>by cases h),
   (fun _ h=>by cases h),
   (fun _ _ h=>by cases h)⟩
def ti43:TI TB.den:={ty:=some (false,1),el:=some (.int .u64,8),ez:=true,ze:=some [.full (.int .u64) []],un:=some (.slice 24)}
theorem ti43_ok:TI.Ok Tryz.prog TB 43 ti43:=
  ⟨(fun _ h=>(show tyOf Tryz.prog 43=some (false,1)by kernel_rfl).trans h),
   (kf trivial),
   (fun _ _ h=>by cases h;exact⟨by kernel_rfl,by kernel_rfl⟩),
   (fun _ _ _ h=>by cases h;exact⟨[.d (.int .u64 0)],by kernel_rfl,⟨⟨ka _,rfl⟩,trivial⟩⟩),
   (fun _ h=>by cases h),
   (fun _ h=>by cases h;exact⟨by kernel_rfl,kc (by kernel_rfl)⟩),
   (fun h=>(h rfl).elim),
   (fun _ h=>(show Tryz.prog.underlying 43=some (.slice 24)by kernel_rfl).trans h),
   (fun _ h=>by cases h),
   (fun _ _ h=>by cases h)⟩
def ti44:TI TB.den:={ty:=some (false,1),el:=some (.st 1,48),ez:=true,ze:=some [.full (.st 1) []],un:=some (.slice 73)}
theorem ti44_ok:TI.Ok Tryz.prog TB 44 ti44:=
  ⟨(fun _ h=>(show tyOf Tryz.prog 44=some (false,1)by kernel_rfl).trans h),
   (kf trivial),
   (fun _ _ h=>by cases h;exact⟨by kernel_rfl,by kernel_rfl⟩),
   (fun _ _ _ h=>by cases h;exact⟨[.d (.int .u64 0),.d (.int .u64 0),.d (.int .u64 0),.full 1 []],by kernel_rfl,⟨⟨ka _,rfl⟩,⟨ka _,rfl⟩,⟨ka _,rfl⟩,⟨⟨rfl,rfl⟩,rfl⟩,trivial⟩⟩),
   (fun _ h=>by cases h),
   (fun _ h=>by cases h;exact⟨by kernel_rfl,kc (by kernel_rfl)⟩),
   (fun h=>(h rfl).elim),
   (fun _ h=>(show Tryz.prog.underlying 44=some (.slice 73)by kernel_rfl).trans h),
   (fun _ h=>by cases h),
   (fun _ _ h=>by cases h)⟩
def ti45:TI TB.den:={ty:=some (false,1),el:=some (.int .u8,1),ez:=true,ze:=some [.full (.int .u8) []],un:=some (.slice 5)}
theorem ti45_ok:TI.Ok Tryz.prog TB 45 ti45:=
  ⟨(fun _ h=>(show tyOf Tryz.prog 45=some (false,1)by kernel_rfl).trans h),
   (kf trivial),
   (fun _ _ h=>by cases h;exact⟨by kernel_rfl,by kernel_rfl⟩),
   (fun _ _ _ h=>by cases h;exact⟨[.d (.int .u8 0)],by kernel_rfl,⟨⟨ka _,rfl⟩,trivial⟩⟩),
   (fun _ h=>by cases h),
   (fun _ h=>by cases h;exact⟨by kernel_rfl,kc (by kernel_rfl)⟩),
   (fun h=>(h rfl).elim),
   (fun _ h=>(show Tryz.prog.underlying 45=some (.slice 5)by kernel_rfl).trans h),
   (fun _ h=>by cases h),
   (fun _ _ h=>by cases h)⟩
def ti47:TI TB.den:={ty:=some (true,10),fl:=[(0,false,1),(1,false,1),(2,false,1),(3,false,1),(4,false,1),(5,false,1),(6,false,1),(7,false,1),(8,false,1),(9,false,1)],ze:=some [.d (.int .u64) (0:Int),.full (.int .u64) [],.full (.st 1) [],.d (.int .u64) (0:Int),.d (.int .u64) (0:Int),.d (.int .u64) (0:Int),.d (.int .u64) (0:Int),.d (.int .u64) (0:Int),.d (.int .i64) (0:Int),.full (.int .u8) []],pl:=[(0,1),(1,1),(2,1),(3,1),(4,1),(5,1),(6,1),(7,1),(8,1),(9,1)]}
theorem ti47_ok:TI.Ok Tryz.prog TB 47 ti47:=
  ⟨(fun _ h=>(show tyOf Tryz.prog 47=some (true,10)by kernel_rfl).trans h),
   (kf ⟨by kernel_rfl,by kernel_rfl,by kernel_rfl,by kernel_rfl,by kernel_rfl,by kernel_rfl,by kernel_rfl,by kernel_rfl,by kernel_rfl,by kernel_rfl,trivial⟩),
   (fun _ _ h=>by cases h),
   (fun h=>by cases h),
   (fun _ h=>by cases h),
   (fun _ h=>by cases h;exact⟨by kernel_rfl,kc (by kernel_rfl)⟩),
   (fun _=>by kernel_rfl),
   (fun _ h=>by cases h),
   (fun _ h=>by cases h),
   (fun _ _ h=>by cases h)⟩
def ti53:TI TB.den:={ty:=some (false,1),el:=some (.st 8,24),ez:=true,ze:=some [.full (.st 8) []],un:=some (.slice 114)}
theorem ti53_ok:TI.Ok Tryz.prog TB 53 ti53:=
  ⟨(fun _ h=>(show tyOf Tryz.prog 53=some (false,1)by kernel_rfl).trans h),
   (kf trivial),
   (fun _ _ h=>by cases h;exact⟨by kernel_rfl,by kernel_rfl⟩),
   (fun _ _ _ h=>by cases h;exact⟨[.d (.int .u64 0),.d (.int .u64 0),.d (.int .u64 0)],by kernel_rfl,⟨⟨ka _,rfl⟩,⟨ka _,rfl⟩,⟨ka _,rfl⟩,trivial⟩⟩),
   (fun _ h=>by cases h),
   (fun _ h=>by cases h;exact⟨by kernel_rfl,kc (by kernel_rfl)⟩),
   (fun h=>(h rfl).elim),
   (fun _ h=>(show Tryz.prog.underlying 53=some (.slice 114)by kernel_rfl).trans h),
   (fun _ h=>by cases h),
   (fun _ _ h=>by cases h)⟩
def ti55:TI TB.den:={ty:=some (true,15),fl:=[(0,true,9),(9,false,1),(10,false,1),(11,false,1),(12,false,1),(13,false,1),(14,false,1)],ze:=some [.d (.int .i64) (0:Int),.d (.int .i64) (0:Int),.d (.int .i64) (0:Int),.d (.int .i64) (0:Int),.d (.int .i64) (0:Int),.d (.int .u64) (0:Int),.d (.int .i64) (0:Int),.d (.int .i64) (0:Int),.d (.int .u64) (0:Int),.d (.int .i64) (0:Int),.full (.int .u64) [],.full (.int .u64) [],.full (.st 8) [],.d (.int .u64) (0:Int),.full (.int .u64) []],pl:=[(0,9),(9,1),(10,1),(11,1),(12,1),(13,1),(14,1)]}
theorem ti55_ok:TI.Ok Tryz.prog TB 55 ti55:=
  ⟨(fun _ h=>(show tyOf Tryz.prog 55=some (true,15)by kernel_rfl).trans h),
   (kf ⟨by kernel_rfl,by kernel_rfl,by kernel_rfl,by kernel_rfl,by kernel_rfl,by kernel_rfl,by kernel_rfl,trivial⟩),
   (fun _ _ h=>by cases h),
   (fun h=>by cases h),
   (fun _ h=>by cases h),
   (fun _ h=>by cases h;exact⟨by kernel_rfl,kc (by kernel_rfl)⟩),
   (fun _=>by kernel_rfl),
   (fun _ h=>by cases h),
   (fun _ h=>by cases h),
   (fun _ _ h=>by cases h)⟩
def ti64:TI TB.den:={ty:=some (false,1),el:=some (.st 2,128),ez:=true,ze:=some [.full (.st 2) []],un:=some (.slice 47)}
theorem ti64_ok:TI.Ok Tryz.prog TB 64 ti64:=
  ⟨(fun _ h=>(show tyOf Tryz.prog 64=some (false,1)by kernel_rfl).trans h),
   (kf trivial),
   (fun _ _ h=>by cases h;exact⟨by kernel_rfl,by kernel_rfl⟩),
   (fun _ _ _ h=>by cases h;exact⟨[.d (.int .u64 0),.full 1 [],.full 4 [],.d (.int .u64 0),.d (.int .u64 0),.d (.int .u64 0),.d (.int .u64 0),.d (.int .u64 0),.d (.int .i64 0),.full 1 []],by kernel_rfl,⟨⟨ka _,rfl⟩,⟨⟨rfl,rfl⟩,rfl⟩,⟨⟨rfl,rfl⟩,rfl⟩,⟨ka _,rfl⟩,⟨ka _,rfl⟩,⟨ka _,rfl⟩,⟨ka _,rfl⟩,⟨ka _,rfl⟩,⟨ka _,rfl⟩,⟨⟨rfl,rfl⟩,rfl⟩,trivial⟩⟩),
   (fun _ h=>by cases h),
   (fun _ h=>by cases h;exact⟨by kernel_rfl,kc (by kernel_rfl)⟩),
   (fun h=>(h rfl).elim),
   (fun _ h=>(show Tryz.prog.underlying 64=some (.slice 47)by kernel_rfl).trans h),
   (fun _ h=>by cases h),
   (fun _ _ h=>by cases h)⟩
def ti66:TI TB.den:={ty:=some (true,6),fl:=[(0,false,1),(1,false,1),(2,false,1),(3,false,1),(4,false,1),(5,false,1)],ze:=some [.d (.int .u64) (0:Int),.d (.int .i64) (0:Int),.d (.int .u64) (0:Int),.d (.int .u64) (0:Int),.d (.int .u64) (0:Int),.full (.st 2) []],pl:=[(0,1),(1,1),(2,1),(3,1),(4,1),(5,1)]}
theorem ti66_ok:TI.Ok Tryz.prog TB 66 ti66:=
  ⟨(fun _ h=>(show tyOf Tryz.prog 66=some (true,6)by kernel_rfl).trans h),
   (kf ⟨by kernel_rfl,by kernel_rfl,by kernel_rfl,by kernel_rfl,by kernel_rfl,by kernel_rfl,trivial⟩),
   (fun _ _ h=>by cases h),
   (fun h=>by cases h),
   (fun _ h=>by cases h),
   (fun _ h=>by cases h;exact⟨by kernel_rfl,kc (by kernel_rfl)⟩),
   (fun _=>by kernel_rfl),
   (fun _ h=>by cases h),
   (fun _ h=>by cases h),
   (fun _ _ h=>by cases h)⟩
def ti68:TI TB.den:={ty:=some (true,7),fl:=[(0,false,1),(1,true,6)],ze:=some [.d (.bool) (false:Bool),.d (.int .u64) (0:Int),.d (.int .i64) (0:Int),.d (.int .u64) (0:Int),.d (.int .u64) (0:Int),.d (.int .u64) (0:Int),.full (.st 2) []],pl:=[(0,1),(1,6)]}
theorem ti68_ok:TI.Ok Tryz.prog TB 68 ti68:=
  ⟨(fun _ h=>(show tyOf Tryz.prog 68=some (true,7)by kernel_rfl).trans h),
   (kf ⟨by kernel_rfl,by kernel_rfl,trivial⟩),
   (fun _ _ h=>by cases h),
   (fun h=>by cases h),
   (fun _ h=>by cases h),
   (fun _ h=>by cases h;exact⟨by kernel_rfl,kc (by kernel_rfl)⟩),
   (fun _=>by kernel_rfl),
   (fun _ h=>by cases h),
   (fun _ h=>by cases h),
   (fun _ _ h=>by cases h)⟩
def ti71:TI TB.den:={ty:=some (true,2),ar:=some (2,false,1),ze:=some [.d (.int .u64) (0:Int),.d (.int .u64) (0:Int)],pl:=[(0,1),(1,1)],un:=some (.array 2 24)}
theorem ti71_ok:TI.Ok Tryz.prog TB 71 ti71:=
  ⟨(fun _ h=>(show tyOf Tryz.prog 71=some (true,2)by kernel_rfl).trans h),
   (kf trivial),
   (fun _ _ h=>by cases h),
   (fun h=>by cases h),
   (fun _ h=>by cases h;exact⟨by kernel_rfl,by kernel_rfl⟩),
   (fun _ h=>by cases h;exact⟨by kernel_rfl,kc (by kernel_rfl)⟩),
   (fun _=>by kernel_rfl),
   (fun _ h=>(show Tryz.prog.underlying 71=some (.array 2 24)by kernel_rfl).trans h),
   (fun _ h=>by cases h),
   (fun _ _ h=>by cases h)⟩
def ti73:TI TB.den:={ty:=some (true,4),fl:=[(0,false,1),(1,true,2),(3,false,1)],ze:=some [.d (.int .u64) (0:Int),.d (.int .u64) (0:Int),.d (.int .u64) (0:Int),.full (.int .u64) []],pl:=[(0,1),(1,2),(3,1)]}
theorem ti73_ok:TI.Ok Tryz.prog TB 73 ti73:=
  ⟨(fun _ h=>(show tyOf Tryz.prog 73=some (true,4)by kernel_rfl).trans h),
   (kf ⟨by kernel_rfl,by kernel_rfl,by kernel_rfl,trivial⟩),
   (fun _ _ h=>by cases h),
   (fun h=>by cases h),
   (fun _ h=>by cases h),
   (fun _ h=>by cases h;exact⟨by kernel_rfl,kc (by kernel_rfl)⟩),
   (fun _=>by kernel_rfl),
   (fun _ h=>by cases h),
   (fun _ h=>by cases h),
   (fun _ _ h=>by cases h)⟩
def ti81:TI TB.den:={ty:=some (true,3),fl:=[(0,false,1),(1,false,1),(2,false,1)],ze:=some [.d (.int .u64) (0:Int),.d (.int .u64) (0:Int),.d (.int .u64) (0:Int)],pl:=[(0,1),(1,1),(2,1)],eq:=some [.int .u64,.int .u64,.int .u64]}
theorem ti81_ok:TI.Ok Tryz.prog TB 81 ti81:=
  ⟨(fun _ h=>(show tyOf Tryz.prog 81=some (true,3)by kernel_rfl).trans h),
   (kf ⟨by kernel_rfl,by kernel_rfl,by kernel_rfl,trivial⟩),
   (fun _ _ h=>by cases h),
   (fun h=>by cases h),
   (fun _ h=>by cases h),
   (fun _ h=>by cases h;exact⟨by kernel_rfl,kc (by kernel_rfl)⟩),
   (fun _=>by kernel_rfl),
   (fun _ h=>by cases h),
   (fun _ h=>(show eqT Tryz.prog 81=some [.int .u64,.int .u64,.int .u64]by kernel_rfl).trans h),
   (fun _ _ h=>by cases h)⟩
def ti85:TI TB.den:={ty:=some (true,3),fl:=[(0,false,1),(1,false,1),(2,false,1)],ze:=some [.d (.int .i64) (0:Int),.d (.int .i64) (0:Int),.full (.int .u64) []],pl:=[(0,1),(1,1),(2,1)]}
theorem ti85_ok:TI.Ok Tryz.prog TB 85 ti85:=
  ⟨(fun _ h=>(show tyOf Tryz.prog 85=some (true,3)by kernel_rfl).trans h),
   (kf ⟨by kernel_rfl,by kernel_rfl,by kernel_rfl,trivial⟩),
   (fun _ _ h=>by cases h),
   (fun h=>by cases h),
   (fun _ h=>by cases h),
   (fun _ h=>by cases h;exact⟨by kernel_rfl,kc (by kernel_rfl)⟩),
   (fun _=>by kernel_rfl),
   (fun _ h=>by cases h),
   (fun _ h=>by cases h),
   (fun _ _ h=>by cases h)⟩
def ti86:TI TB.den:={ty:=some (false,1),ze:=some [.k KC.nilPtr.v],un:=some (.pointer 125)}
theorem ti86_ok:TI.Ok Tryz.prog TB 86 ti86:=
  ⟨(fun _ h=>(show tyOf Tryz.prog 86=some (false,1)by kernel_rfl).trans h),
   (kf trivial),
   (fun _ _ h=>by cases h),
   (fun h=>by cases h),
   (fun _ h=>by cases h),
   (fun _ h=>by cases h;exact⟨by kernel_rfl,kc (by kernel_rfl)⟩),
   (fun h=>(h rfl).elim),
   (fun _ h=>(show Tryz.prog.underlying 86=some (.pointer 125)by kernel_rfl).trans h),
   (fun _ h=>by cases h),
   (fun _ _ h=>by cases h)⟩
def ti87:TI TB.den:={ty:=some (false,1),el:=some (.st 9,104),ez:=true,ze:=some [.full (.st 9) []],un:=some (.slice 108)}
theorem ti87_ok:TI.Ok Tryz.prog TB 87 ti87:=
  ⟨(fun _ h=>(show tyOf Tryz.prog 87=some (false,1)by kernel_rfl).trans h),
   (kf trivial),
   (fun _ _ h=>by cases h;exact⟨by kernel_rfl,by kernel_rfl⟩),
   (fun _ _ _ h=>by cases h;exact⟨[.d (.int .i64 0),.d (.int .i64 0),.full 1 [],.d (.int .i64 0),.full 1 [],.full 3 [],.d (.int .u64 0)],by kernel_rfl,⟨⟨ka _,rfl⟩,⟨ka _,rfl⟩,⟨⟨rfl,rfl⟩,rfl⟩,⟨ka _,rfl⟩,⟨⟨rfl,rfl⟩,rfl⟩,⟨⟨rfl,rfl⟩,rfl⟩,⟨ka _,rfl⟩,trivial⟩⟩),
   (fun _ h=>by cases h),
   (fun _ h=>by cases h;exact⟨by kernel_rfl,kc (by kernel_rfl)⟩),
   (fun h=>(h rfl).elim),
   (fun _ h=>(show Tryz.prog.underlying 87=some (.slice 108)by kernel_rfl).trans h),
   (fun _ h=>by cases h),
   (fun _ _ h=>by cases h)⟩
def ti89:TI TB.den:={ty:=some (true,18),fl:=[(0,true,9),(9,true,3),(12,false,1),(13,false,1),(14,true,1),(15,false,1),(16,false,1),(17,false,1)],ze:=some [.d (.int .i64) (0:Int),.d (.int .i64) (0:Int),.d (.int .i64) (0:Int),.d (.int .i64) (0:Int),.d (.int .i64) (0:Int),.d (.int .u64) (0:Int),.d (.int .i64) (0:Int),.d (.int .i64) (0:Int),.d (.int .u64) (0:Int),.d (.int .i64) (0:Int),.d (.int .i64) (0:Int),.full (.int .u64) [],.full (.int .u64) [],.k KC.nilPtr.v,.full (.st 8) [],.d (.int .u64) (0:Int),.full (.int .u64) [],.full (.st 9) []],pl:=[(0,9),(9,3),(12,1),(13,1),(14,1),(15,1),(16,1),(17,1)]}
theorem ti89_ok:TI.Ok Tryz.prog TB 89 ti89:=
  ⟨(fun _ h=>(show tyOf Tryz.prog 89=some (true,18)by kernel_rfl).trans h),
   (kf ⟨by kernel_rfl,by kernel_rfl,by kernel_rfl,by kernel_rfl,by kernel_rfl,by kernel_rfl,by kernel_rfl,by kernel_rfl,trivial⟩),
   (fun _ _ h=>by cases h),
   (fun h=>by cases h),
   (fun _ h=>by cases h),
   (fun _ h=>by cases h;exact⟨by kernel_rfl,kc (by kernel_rfl)⟩),
   (fun _=>by kernel_rfl),
   (fun _ h=>by cases h),
   (fun _ h=>by cases h),
   (fun _ _ h=>by cases h)⟩
def ti100:TI TB.den:={ty:=some (false,1),ze:=some [.d (.int .u64) (0:Int)],un:=some (.int .u64)}
theorem kml:TI.Ok Tryz.prog TB 100 ti100:=
  ⟨(fun _ h=>(show tyOf Tryz.prog 100=some (false,1)by kernel_rfl).trans h),
   (kf trivial),
   (fun _ _ h=>by cases h),
   (fun h=>by cases h),
   (fun _ h=>by cases h),
   (fun _ h=>by cases h;exact⟨by kernel_rfl,kc (by kernel_rfl)⟩),
   (fun h=>(h rfl).elim),
   (fun _ h=>(show Tryz.prog.underlying 100=some (.int .u64)by kernel_rfl).trans h),
   (fun _ h=>by cases h),
   (fun _ _ h=>by cases h)⟩
def ti108:TI TB.den:={ty:=some (true,7),fl:=[(0,true,3),(3,false,1),(4,false,1),(5,true,1),(6,false,1)],ze:=some [.d (.int .i64) (0:Int),.d (.int .i64) (0:Int),.full (.int .u64) [],.d (.int .i64) (0:Int),.full (.int .u64) [],.full (.st 8) [],.d (.int .u64) (0:Int)],pl:=[(0,3),(3,1),(4,1),(5,1),(6,1)]}
theorem klz:TI.Ok Tryz.prog TB 108 ti108:=
  ⟨(fun _ h=>(show tyOf Tryz.prog 108=some (true,7)by kernel_rfl).trans h),
   (kf ⟨by kernel_rfl,by kernel_rfl,by kernel_rfl,by kernel_rfl,by kernel_rfl,trivial⟩),
   (fun _ _ h=>by cases h),
   (fun h=>by cases h),
   (fun _ h=>by cases h),
   (fun _ h=>by cases h;exact⟨by kernel_rfl,kc (by kernel_rfl)⟩),
   (fun _=>by kernel_rfl),
   (fun _ h=>by cases h),
   (fun _ h=>by cases h),
   (fun _ _ h=>by cases h)⟩
def ti114:TI TB.den:={ty:=some (true,3),fl:=[(0,false,1),(1,false,1),(2,false,1)],ze:=some [.d (.int .u64) (0:Int),.d (.int .u64) (0:Int),.d (.int .u64) (0:Int)],pl:=[(0,1),(1,1),(2,1)],eq:=some [.int .u64,.int .u64,.int .u64]}
theorem km3:TI.Ok Tryz.prog TB 114 ti114:=
  ⟨(fun _ h=>(show tyOf Tryz.prog 114=some (true,3)by kernel_rfl).trans h),
   (kf ⟨by kernel_rfl,by kernel_rfl,by kernel_rfl,trivial⟩),
   (fun _ _ h=>by cases h),
   (fun h=>by cases h),
   (fun _ h=>by cases h),
   (fun _ h=>by cases h;exact⟨by kernel_rfl,kc (by kernel_rfl)⟩),
   (fun _=>by kernel_rfl),
   (fun _ h=>by cases h),
   (fun _ h=>(show eqT Tryz.prog 114=some [.int .u64,.int .u64,.int .u64]by kernel_rfl).trans h),
   (fun _ _ h=>by cases h)⟩
def ti123:TI TB.den:={ty:=some (false,1),ze:=some [.k KC.nilMap.v],mp:=some (.int .u64,.bool),un:=some (.map 24 4)}
theorem km5:TI.Ok Tryz.prog TB 123 ti123:=
  ⟨(fun _ h=>(show tyOf Tryz.prog 123=some (false,1)by kernel_rfl).trans h),
   (kf trivial),
   (fun _ _ h=>by cases h),
   (fun h=>by cases h),
   (fun _ h=>by cases h),
   (fun _ h=>by cases h;exact⟨by kernel_rfl,kc (by kernel_rfl)⟩),
   (fun h=>(h rfl).elim),
   (fun _ h=>(show Tryz.prog.underlying 123=some (.map 24 4)by kernel_rfl).trans h),
   (fun _ h=>by cases h),
   (fun _ _ h=>by cases h;exact⟨4,.int .u64,⟨24,by kernel_rfl,by kernel_rfl⟩,fun _=>rfl,zIs_mk (z0:= .d (.bool false)) (by kernel_rfl) (ka (V.d (.bool false)))⟩)⟩
def ti125:TI TB.den:={ty:=some (true,1),fl:=[(0,false,1)],ze:=some [.k KC.nilMap.v],pl:=[(0,1)]}
theorem km1:TI.Ok Tryz.prog TB 125 ti125:=
  ⟨(fun _ h=>(show tyOf Tryz.prog 125=some (true,1)by kernel_rfl).trans h),
   (kf ⟨by kernel_rfl,trivial⟩),
   (fun _ _ h=>by cases h),
   (fun h=>by cases h),
   (fun _ h=>by cases h),
   (fun _ h=>by cases h;exact⟨by kernel_rfl,kc (by kernel_rfl)⟩),
   (fun _=>by kernel_rfl),
   (fun _ h=>by cases h),
   (fun _ h=>by cases h),
   (fun _ _ h=>by cases h)⟩
def ti165:TI TB.den:={ty:=some (true,1),fl:=[(0,false,1)],ze:=some [.d (.int .u64) (0:Int)],pl:=[(0,1)],eq:=some [.int .u64]}
theorem km4:TI.Ok Tryz.prog TB 165 ti165:=
  ⟨(fun _ h=>(show tyOf Tryz.prog 165=some (true,1)by kernel_rfl).trans h),
   (kf ⟨by kernel_rfl,trivial⟩),
   (fun _ _ h=>by cases h),
   (fun h=>by cases h),
   (fun _ h=>by cases h),
   (fun _ h=>by cases h;exact⟨by kernel_rfl,kc (by kernel_rfl)⟩),
   (fun _=>by kernel_rfl),
   (fun _ h=>by cases h),
   (fun _ h=>(show eqT Tryz.prog 165=some [.int .u64]by kernel_rfl).trans h),
   (fun _ _ h=>by cases h)⟩
def ti166:TI TB.den:={ty:=some (true,3),ar:=some (3,false,1),ze:=some [.d (.int .u64) (0:Int),.d (.int .u64) (0:Int),.d (.int .u64) (0:Int)],pl:=[(0,1),(1,1),(2,1)],un:=some (.array 3 24)}
theorem kmf:TI.Ok Tryz.prog TB 166 ti166:=
  ⟨(fun _ h=>(show tyOf Tryz.prog 166=some (true,3)by kernel_rfl).trans h),
   (kf trivial),
   (fun _ _ h=>by cases h),
   (fun h=>by cases h),
   (fun _ h=>by cases h;exact⟨by kernel_rfl,by kernel_rfl⟩),
   (fun _ h=>by cases h;exact⟨by kernel_rfl,kc (by kernel_rfl)⟩),
   (fun _=>by kernel_rfl),
   (fun _ h=>(show Tryz.prog.underlying 166=some (.array 3 24)by kernel_rfl).trans h),
   (fun _ h=>by cases h),
   (fun _ _ h=>by cases h)⟩
def ti168:TI TB.den:={ty:=some (false,1),ze:=some [.d (.int .u64) (0:Int)],un:=some (.int .u64)}
theorem kn7:TI.Ok Tryz.prog TB 168 ti168:=
  ⟨(fun _ h=>(show tyOf Tryz.prog 168=some (false,1)by kernel_rfl).trans h),
   (kf trivial),
   (fun _ _ h=>by cases h),
   (fun h=>by cases h),
   (fun _ h=>by cases h),
   (fun _ h=>by cases h;exact⟨by kernel_rfl,kc (by kernel_rfl)⟩),
   (fun h=>(h rfl).elim),
   (fun _ h=>(show Tryz.prog.underlying 168=some (.int .u64)by kernel_rfl).trans h),
   (fun _ h=>by cases h),
   (fun _ _ h=>by cases h)⟩
def inf:BT (TI TB.den):=(.nd (.nd (.nd (.nd (.nd (.nd .lf 3 ti3 .lf) 4 ti4 .lf) 5 ti5 (.nd .lf 9 ti9 .lf)) 23 ti23 (.nd (.nd (.nd .lf 24 ti24 .lf) 26 ti26 .lf) 27 ti27 (.nd .lf 30 ti30 .lf))) 31 ti31 (.nd (.nd (.nd (.nd .lf 37 ti37 .lf) 39 ti39 .lf) 43 ti43 (.nd .lf 44 ti44 .lf)) 45 ti45 (.nd (.nd .lf 47 ti47 .lf) 53 ti53 (.nd .lf 55 ti55 .lf)))) 64 ti64 (.nd (.nd (.nd (.nd (.nd .lf 66 ti66 .lf) 68 ti68 .lf) 71 ti71 (.nd .lf 73 ti73 .lf)) 81 ti81 (.nd (.nd .lf 85 ti85 .lf) 86 ti86 (.nd .lf 87 ti87 .lf))) 89 ti89 (.nd (.nd (.nd (.nd .lf 100 ti100 .lf) 108 ti108 .lf) 114 ti114 (.nd .lf 123 ti123 .lf)) 125 ti125 (.nd (.nd .lf 165 ti165 .lf) 166 ti166 (.nd .lf 168 ti168 .lf)))))
theorem inf_ok:InfoOk Tryz.prog TB inf:=(find_nd ti64_ok (find_nd ti31_ok (find_nd ti23_ok (find_nd ti5_ok (find_nd ti4_ok (find_nd ti3_ok ke ke) ke) (find_nd ti9_ok ke ke)) (find_nd ti27_ok (find_nd ti26_ok (find_nd ti24_ok ke ke) ke) (find_nd ti30_ok ke ke))) (find_nd ti45_ok (find_nd ti43_ok (find_nd ti39_ok (find_nd ti37_ok ke ke) ke) (find_nd ti44_ok ke ke)) (find_nd ti53_ok (find_nd ti47_ok ke ke) (find_nd ti55_ok ke ke)))) (find_nd ti89_ok (find_nd ti81_ok (find_nd ti71_ok (find_nd ti68_ok (find_nd ti66_ok ke ke) ke) (find_nd ti73_ok ke ke)) (find_nd ti86_ok (find_nd ti85_ok ke ke) (find_nd ti87_ok ke ke))) (find_nd km1 (find_nd km3 (find_nd klz (find_nd kml ke ke) ke) (find_nd km5 ke ke)) (find_nd kmf (find_nd km4 ke ke) (find_nd kn7 ke ke)))))
theorem mix:Tryz.prog.follows .mixedOrders=true:=by kernel_rfl
theorem Bs:Base Tryz.prog TB inf:=⟨TBok,inf_ok,mix⟩
def x37:XCon TB.den:=⟨37,[.int .u64,.int .u64,.int .u64],[.int .u64,.int .u64],fun x=>(fun(a0 a1 a2:Int)=>0<=a0/\0<=a1/\0<=a2/\a2<=1) x.1 x.2.1 x.2.2.1,fun x=>((fun(a0 a1 a2:Int)=>(a0+a1+a2)%18446744073709551616) x.1 x.2.1 x.2.2.1,(fun(a0 a1 a2:Int)=>(a0+a1+a2)/18446744073709551616) x.1 x.2.1 x.2.2.1,())⟩
theorem x37_ok:x37.Ok Tryz.prog TB:=⟨rfl,fun x h=>kh3 Tryz.func37 (by kernel_rfl) (by kernel_rfl) (by kernel_rfl) (by kernel_rfl) x.1 x.2.1 x.2.2.1 h.1 h.2.1 h.2.2.1 h.2.2.2⟩
abbrev yqi:Ty:= .int .i64
abbrev yqu:Ty:= .int .u64
abbrev yqb:Ty:= .int .u8
abbrev zqi:Sh1:= .d yqi
abbrev zqu:Sh1:= .d yqu
abbrev zqb:Sh1:= .d yqb
abbrev zql:Sh1:= .d (.sl yqu)
end Go.Proofs.YtlfcebhnjkcmnaaGreat
namespace Go.Bv
open Go.RowKit Go.Deep
def limOf (w:World) (b:Nat):Nat:=match w.heap[b]? with
 |some (.cells c _ _)=>c.size
 |_=>0
theorem kk0 {w:World} {b o:Nat} {v:Value} (h:w.cell? ⟨b,o,none⟩=some v):o<limOf w b:=by
 unfold World.cell? at h
 unfold limOf
 simp only at h
 split at h
 ·rename_i c _ _ hh
  rw[hh]
  simp only[Option.isSome_none,Bool.false_eq_true,if_false]at h
  exact(Array.getElem?_eq_some_iff.1 h).1
 ·cases h
def isAggT (P:Program) (e:TypeId):Bool:=match P.underlying e with
 |some (.struct _)=>true
 |some (.array _ _)=>true
 |_=>false
def mkD (P:Program) (e:TypeId) (cs:List D):D:=if isAggT P e then .agg cs else cs.headD (.bool false)
def tiles (P:Program) (tot:Nat):List (TypeId×Nat)->Nat->Bool
 |[],o=>o==tot
 |p::r,o=>p.2==o&&tiles P tot r (o+P.cellsOf p.1)
def fsOf (fs:Array Field):List (TypeId×Nat):=fs.toList.map fun f=>(f.type,f.offset)
def arOf (P:Program) (n:Nat) (e:TypeId):List (TypeId×Nat):=(List.range n).map fun i=>(e,i*P.cellsOf e)
def dataT (P:Program):Nat->TypeId->Bool
 |0,_=>false
 |k+1,t=>match P.underlying t with
  |some .bool=>true
  |some (.int _)=>true
  |some .string=>true
  |some (.slice e)=>decide (0<P.cellsOf e)&&dataT P k e
  |some (.struct fs)=>tiles P (P.cellsOf t) (fsOf fs) 0&&(fsOf fs).all fun p=>dataT P k p.1
  |some (.array n e)=>tiles P (P.cellsOf t) (arOf P n e) 0&&dataT P k e
  |_=>false
def RelFs {H:Type} (R:TypeId->List D->DataW H->Prop):List (TypeId×Nat)->List D->List (DataW H)->Prop
 |[],ds,ps=>ds=[]/\ps=[]
 |t::ts,ds,ps=>∃d1 d2 p qs,R t.1 d1 p/\RelFs R ts d2 qs/\ds=d1++d2/\ps=p::qs
def Rel {H:Type} (P:Program):Nat->TypeId->List D->DataW H->Prop
 |0,_,_,_=>False
 |k+1,t,ds,d=>match P.underlying t with
  |some .bool=>∃b,ds=[.bool b]/\d= .lit (.bool b)
  |some (.int q)=>∃i,ds=[.int q i]/\d= .lit (.int q i)/\(Lit.int q i).wf=true
  |some .string=>∃s:ByteArray,ds=[.str s]/\d= .lit (.string s.data.toList)
  | some (.slice e)=>∃l:List (List D),ds=[.slice (P.cellsOf e) (l.map (mkD P e))]/\l.length<=maxLen/\
    ((l=[]/\d= .nil)∨∃elems spare,d= .slice elems spare/\l.length=elems.length/\∀(j:Nat) (x:List D) (y:DataW H),l[j]? =some x->elems[j]? =some y->Rel P k e x y)
  |some (.struct fs)=>∃ps,d= .agg ps/\RelFs (Rel P k) (fsOf fs) ds ps
  |some (.array n e)=>∃ps,d= .agg ps/\RelFs (Rel P k) (arOf P n e) ds ps
  |_=>False
def Holds (w:World) (cs:List Value) (ds:List D):Prop:=ds.length=cs.length/\∀(j:Nat) (v:Value) (c:D),cs[j]? =some v->ds[j]? =some c->RepD (limOf w) w v c
theorem Holds.append {w:World} {a b:List Value} {x y:List D} (h1:Holds w a x) (h2:Holds w b y):Holds w (a++b) (x++y):=by
 refine⟨by simp[h1.1,h2.1],fun j v c hv hc=> ?_⟩
 by_cases hj:j<a.length
 ·rw[List.getElem?_append_left hj]at hv
  rw[List.getElem?_append_left (by rw[h1.1];exact hj)]at hc
  exact h1.2 j v c hv hc
 ·rw[List.getElem?_append_right (by omega)]at hv
  rw[List.getElem?_append_right (by rw[h1.1];omega),h1.1]at hc
  exact h2.2 _ v c hv hc
theorem Holds.one {w:World} {v:Value} {d:D} (h:RepD (limOf w) w v d):Holds w [v] [d]:=by
 refine⟨rfl,fun j u c hu hc=> ?_⟩
 cases j with
 |zero=>simp at hu hc;subst hu;subst hc;exact h
 |succ j=>simp at hu
section
variable {H:Type} {P:Program} {w:World} {cs:List Value}
theorem k88 {tot:Nat} (htot:cs.length=tot) (ok:Value->Prop) (hok:∀v∈cs,ok v) (R:TypeId->List D->DataW H->Prop) (g:TypeId->List Value->Option (DataW H×List MemPlace)):
  ∀(L:List (TypeId×Nat)) (o:Nat) (xs:List (DataW H×List MemPlace)),tiles P tot L o=true->xs.length=L.length->
   (∀p∈L,∀cs' y,(∀v∈cs',ok v)->g p.1 cs' =some y->∃ds,Holds w cs' ds/\R p.1 ds y.1)->
   (∀(i:Nat) (p:TypeId×Nat),L[i]? =some p->g p.1 ((cs.drop p.2).take (P.cellsOf p.1))=xs[i]?)->
   ∃ds,Holds w (cs.drop o) ds/\RelFs R L ds (xs.map (·.1))
 |[],o,xs,ht,hl,_,_=>by
  simp[tiles]at ht
  have:xs=[]:=by simpa using hl
  subst this
  refine⟨[],⟨?_,?_⟩,rfl,rfl⟩
  ·simp;omega
  ·intro j v c _ hc;simp at hc
 |p::L,o,xs,ht,hl,hg,hx=>by
  simp[tiles]at ht
  obtain⟨h0,ht⟩:=ht
  cases xs with
  |nil=>simp at hl
  |cons y ys=>
   have h1:=hx 0 p rfl
   simp only[List.getElem?_cons_zero]at h1
   obtain⟨d1,hd1,hr1⟩:=hg p (by simp) _ y (fun v hv=>hok v (List.mem_of_mem_drop (List.mem_of_mem_take hv))) h1
   obtain⟨d2,hd2,hr2⟩:=k88 htot ok hok R g L (o+P.cellsOf p.1) ys ht (by simpa using hl) (fun q hq=>hg q (by simp[hq])) (fun i q hq=>by simpa using hx (i+1) q (by simpa using hq))
   refine⟨d1++d2,?_,d1,d2,y.1,_,hr1,hr2,rfl,rfl⟩
   have:=hd1.append hd2
   rw[h0,<-List.drop_drop,List.take_append_drop]at this
   exact this
end
section
variable {H:Type} {enc:TypeId×Value->H} {P:Program} {w:World}
theorem rel_mk {k:Nat} {e:TypeId} {x:List D} {d:DataW H} (hr:Rel P k e x d) (h1:∀c∈x,c.one=true):(mkD P e x).cells=x:=by
 cases k with
 |zero=>exact hr.elim
 |succ k=>
  unfold mkD
  split
  ·rfl
  ·rename_i ha
   unfold Rel at hr
   split at hr
   ·obtain⟨b,rfl,_⟩:=hr;rfl
   ·obtain⟨b,rfl,_⟩:=hr;rfl
   ·obtain⟨b,rfl,_⟩:=hr;rfl
   ·obtain⟨b,rfl,_⟩:=hr;rfl
   ·rename_i h;exact absurd (by simp[isAggT,h]) ha
   ·rename_i h;exact absurd (by simp[isAggT,h]) ha
   ·exact hr.elim
theorem k55:∀(k:Nat) (t:TypeId),dataT P k t=true->∀(n:Nat) (cs:List Value) (y:DataW H×List MemPlace),
  DataW.trod enc P w 0 (fun _=>true) true n t cs=some y->∃ds,Holds w cs ds/\Rel P k t ds y.1
 |0,_,h=>by cases h
 |k+1,t,hT=>by
  intro n cs y h
  unfold dataT at hT
  split at hT
  ·rename_i hu
   obtain⟨b,rfl,rfl⟩:=DataW.trod_bool hu h
   exact⟨[.bool b],Holds.one (.bool b),by simp[Rel,hu]⟩
  ·rename_i q hu
   obtain⟨i,rfl,rfl,hw⟩:=DataW.trod_int hu h
   exact⟨[.int q i],Holds.one (.int q i),by simp[Rel,hu,hw]⟩
  ·rename_i hu
   obtain⟨s,rfl,rfl,hs⟩:=DataW.trod_string hu h
   exact⟨[.str s],Holds.one (.str s),by simp only[Rel,hu];exact⟨s,rfl,rfl⟩⟩
  ·rename_i e hu
   simp only[Bool.and_eq_true,decide_eq_true_eq]at hT
   obtain⟨hpos,hT⟩:=hT
   rcases open_slice hu h with⟨rfl,rfl⟩|⟨a,len,cap,m,n',Dd,Pl,rfl,_,hlc,hcm,hm,rfl,hel⟩
   ·exact⟨[.slice (P.cellsOf e) []],Holds.one (.nil none _),by simp only[Rel,hu];exact⟨[],rfl,Nat.zero_le _,.inl ⟨by trivial,by trivial⟩⟩⟩
   ·simp only[if_true]at hm
    subst hm
    by_cases hm0:m=0
    ·subst hm0
     have hl0:len=0:=by omega
     subst hl0
     refine⟨[.slice (P.cellsOf e) []],Holds.one (.nil (some a) _),?_⟩
     simp only[Rel,hu]
     exact⟨[],rfl,Nat.zero_le _,.inr ⟨_,_,rfl,by simp,by intro j x y hx;simp at hx⟩⟩
    have hel' :∀i,i<len->∃x:List D,∃cs',w.cells? 0 (a.add (i*P.cellsOf e)) (P.cellsOf e)=some cs'/\Holds w cs' x/\Rel P k e x (Dd i):=by
     intro i hi
     obtain⟨cs',h1,h2⟩:=hel i (by omega)
     obtain⟨ds,h3,h4⟩:=k55 k e hT n' cs' _ h2
     exact⟨ds,cs',h1,h3,h4⟩
    obtain⟨f,hf⟩:=choose_lt hel'
    have hspot:a.spot=none:=by
     obtain⟨cs',h1,h2⟩:=hel 0 (by omega)
     have h3:=(World.cells?_some h1).2.2 0 (by omega)
     have h4:=(World.cells?_some h1).2.1
     rw[List.getElem?_eq_getElem (by omega)]at h3
     unfold World.cell? at h3
     split at h3
     ·split at h3
      ·cases h3
      ·rename_i hs;simpa[Addr.add]using hs
     ·cases h3
    obtain⟨b,off,sp⟩:=a
    simp only at hspot
    subst hspot
    have hone:∀i,i<len->∀c∈f i,c.one=true:=by
     intro i hi c hc
     obtain⟨cs',h1,h2,h3⟩:=hf i hi
     obtain⟨j,hj⟩:=List.getElem?_of_mem hc
     have hjl:j<cs'.length:=by rw[<-h2.1];exact(List.getElem?_eq_some_iff.1 hj).1
     exact(h2.2 j _ c (List.getElem?_eq_getElem hjl) hj).done
    have hmk:∀i,i<len->(mkD P e (f i)).cells=f i:=fun i hi=>by
     obtain⟨cs',h1,h2,h3⟩:=hf i hi
     exact rel_mk h3 (hone i hi)
    have hsz:∀d∈((List.range len).map f).map (mkD P e),d.cells.length=P.cellsOf e/\∀c∈d.cells,c.one=true:=by
     intro d hd
     simp only[List.map_map,List.mem_map,List.mem_range,Function.comp]at hd
     obtain⟨i,hi,rfl⟩:=hd
     obtain⟨cs',h1,h2,h3⟩:=hf i hi
     rw[hmk i hi]
     exact⟨by rw[h2.1];exact(World.cells?_some h1).2.1,hone i hi⟩
    have hget:∀i,i<len->(((List.range len).map f).map (mkD P e))[i]? =some (mkD P e (f i)):=by
     intro i hi
     simp[List.getElem?_map,List.getElem?_range hi]
    have hfl:=km hsz
    simp only[List.length_map,List.length_range]at hfl
    have hat:∀(j:Nat) (u:Value),((List.range (len*P.cellsOf e)).map fun j=>(w.cell? ⟨b,off+j,none⟩).getD undef)[j]? =some u->j<len*P.cellsOf e/\w.cell? ⟨b,off+j,none⟩=some u:=by
     intro j u hu
     have hj:j<len*P.cellsOf e:=by simpa using(List.getElem?_eq_some_iff.1 hu).1
     refine⟨hj,?_⟩
     simp only[List.getElem?_map,List.getElem?_range hj,Option.map_some,Option.some.injEq]at hu
     have hi:j/P.cellsOf e<len:=by rw[Nat.div_lt_iff_lt_mul hpos];exact hj
     have hr:j%P.cellsOf e<P.cellsOf e:=Nat.mod_lt _ hpos
     obtain⟨cs',h1,h2,h3⟩:=hf _ hi
     have e1:j/P.cellsOf e*P.cellsOf e+j%P.cellsOf e=j:=by rw[Nat.mul_comm];exact Nat.div_add_mod j _
     have h4:=(World.cells?_some h1).2.2 _ hr
     have h5:=(World.cells?_some h1).2.1
     have e2:(Addr.add ⟨b,off,none⟩ (j/P.cellsOf e*P.cellsOf e)).add (j%P.cellsOf e)=⟨b,off+j,none⟩:=by
      rw[add_add,e1]
      simp[Addr.add]
     rw[e2,List.getElem?_eq_getElem (by omega)]at h4
     rw[h4]at hu ⊢
     simpa using hu
    refine⟨[.slice (P.cellsOf e) (((List.range len).map f).map (mkD P e))],Holds.one ?_,?_⟩
    ·have:=RepD.slice (m:=limOf w) (w:=w) b off m (P.cellsOf e) (((List.range len).map f).map (mkD P e)) ((List.range (len*P.cellsOf e)).map fun j=>(w.cell? ⟨b,off+j,none⟩).getD undef) (by simpa using hlc) hcm hsz (by rw[hfl];simp) ?_ ?_
     ·simpa using this
     ·intro j u hu
      obtain⟨hj,hcell⟩:=hat j u hu
      exact⟨kk0 hcell,hcell⟩
     ·intro j u c hu hc
      obtain⟨hj,hcell⟩:=hat j u hu
      have hi:j/P.cellsOf e<len:=by rw[Nat.div_lt_iff_lt_mul hpos];exact hj
      have hr:j%P.cellsOf e<P.cellsOf e:=Nat.mod_lt _ hpos
      obtain⟨cs',h1,h2,h3⟩:=hf _ hi
      have e1:j/P.cellsOf e*P.cellsOf e+j%P.cellsOf e=j:=by rw[Nat.mul_comm];exact Nat.div_add_mod j _
      rw[<-e1,k7l hsz (hget _ hi) _ hr,hmk _ hi]at hc
      refine h2.2 _ u c ?_ hc
      rw[<-(World.cells?_some h1).2.2 _ hr,<-hcell]
      congr 1
      rw[add_add,e1]
      simp[Addr.add]
    ·simp only[Rel,hu]
     refine⟨(List.range len).map f,rfl,by simp;omega,.inr ⟨_,_,rfl,by simp,?_⟩⟩
     intro j x y hx hy
     have hj:j<len:=by simpa using(List.getElem?_eq_some_iff.1 hx).1
     simp only[List.getElem?_map,List.getElem?_range hj,Option.map_some,Option.some.injEq]at hx hy
     subst hx;subst hy
     obtain⟨_,_,_,h3⟩:=hf j hj
     exact h3
  ·rename_i fs hu
   simp only[Bool.and_eq_true]at hT
   obtain⟨xs,n',rfl,rfl,hl,hxl,hx⟩:=DataW.trod_struct hu h
   obtain⟨ds,h1,h2⟩:=k88 (P:=P) hl (fun _=>True) (fun _ _=>trivial) (Rel P k) (fun t c=>DataW.trod enc P w 0 (fun _=>true) true n' t c) (fsOf fs) 0 xs hT.1 (by simp[fsOf,hxl])
    (fun p hp cs' y _ hy=>k55 k p.1 (List.all_eq_true.1 hT.2 p hp) n' cs' y hy)
    (fun i p hp=>by
     simp only[fsOf,List.getElem?_map,Option.map_eq_some_iff]at hp
     obtain⟨f,hf,rfl⟩:=hp
     exact hx i f (by simpa using hf))
   exact⟨ds,by simpa using h1,by simp only[Rel,hu];exact⟨_,rfl,h2⟩⟩
  ·rename_i m e hu
   simp only[Bool.and_eq_true]at hT
   obtain⟨xs,n',rfl,rfl,hl,hxl,hx⟩:=DataW.trod_array hu h
   obtain⟨ds,h1,h2⟩:=k88 (P:=P) hl (fun _=>True) (fun _ _=>trivial) (Rel P k) (fun t c=>DataW.trod enc P w 0 (fun _=>true) true n' t c) (arOf P m e) 0 xs hT.1 (by simp[arOf,hxl])
    (fun p hp cs' y _ hy=>by
     simp only[arOf,List.mem_map]at hp
     obtain⟨i,_,rfl⟩:=hp
     exact k55 k e hT.2 n' cs' y hy)
    (fun i p hp=>by
     simp only[arOf,List.getElem?_map,Option.map_eq_some_iff]at hp
     obtain⟨f,hf,rfl⟩:=hp
     obtain⟨hi,rfl⟩:=List.getElem?_eq_some_iff.1 hf
     have hi' :i<m:=by simpa using hi
     simpa using hx i hi')
   exact⟨ds,by simpa using h1,by simp only[Rel,hu];exact⟨_,rfl,h2⟩⟩
  ·cases hT
end
end Go.Bv
namespace Go.Bv
open Go.RowKit Go.ChangeShapes Go.WideShapes
def G0 (W:World):Gh:=⟨fun _=>none,fun _=>none,limOf W⟩
def vOf (P:Program) (t:TypeId) (ds:List D):V:=if isAggT P t then .agg (ds.map V.d)else .d (ds.headD (.bool false))
section
variable {H:Type} {enc:TypeId×Value->H} {P:Program} {W:World}
theorem arg_rep {k:Nat} {r:Reach} {base:Nat} {t:TypeId} {v:Value} {d:DataW H} {ps:List MemPlace} {h:Hp} {nx:Nat} (hT:dataT P k t=true) (hval:Value.okWide P W r base t v)
  (hd:DataW.Trod enc P W 0 (fun _=>true) true t v d ps):∃ds,Rel P k t ds d/\RepV (G0 W) W h nx v (vOf P t ds):=by
 obtain⟨n,hn⟩:=hd
 by_cases ha:isAggT P t=true
 ·have hval' :∃cs,v= .agg cs/\cs.size=P.cellsOf t/\Row.okWide P W r base t cs:=by
   unfold isAggT at ha
   unfold Value.okWide at hval
   split at ha
   ·rename_i h1;rw[h1]at hval;exact hval
   ·rename_i h1;rw[h1]at hval;exact hval
   ·cases ha
  obtain⟨cs,rfl,_,ts,_,_,hc⟩:=hval'
  obtain⟨ds,h1,h2⟩:=k55 k t hT n cs.toList _ hn
  refine⟨ds,h2,?_⟩
  unfold vOf
  rw[if_pos ha]
  have:=RepV.agg (G:=G0 W) (w:=W) (h:=h) (nx:=nx) cs.toList (ds.map V.d) (by simpa using h1.1.symm) ?_ ?_
  ·simpa using this
  ·intro x hx
   obtain⟨c,hcm,rfl⟩:=List.mem_map.1 hx
   obtain⟨j,hj⟩:=List.getElem?_of_mem hcm
   have hjl:j<cs.toList.length:=by have:=h1.1;have:=(List.getElem?_eq_some_iff.1 hj).1;simp[Value.cells]at *;omega
   exact(h1.2 j _ c (List.getElem?_eq_getElem hjl) hj).done
  ·intro j u x hu hx
   rw[List.getElem?_map,Option.map_eq_some_iff]at hx
   obtain⟨c,hcj,rfl⟩:=hx
   exact .d _ _ (h1.2 j u c hu hcj)
 ·have hval' :Cell.okWide P W r base t v:=by
   unfold Value.okWide at hval
   split at hval
   ·rename_i h1;exact absurd (by simp[isAggT,h1]) ha
   ·rename_i h1;exact absurd (by simp[isAggT,h1]) ha
   ·exact hval
  have hcs:v.cells.toList=[v]:=by
   cases v with
   |agg cs=>
    exfalso
    unfold Cell.okWide Cell.ok at hval'
    split at hval'
    all_goals first|(split at hval';all_goals simp_all)|simp_all
   |_=>rfl
  rw[hcs]at hn
  obtain⟨ds,h1,h2⟩:=k55 k t hT n _ _ hn
  refine⟨ds,h2,?_⟩
  unfold vOf
  rw[if_neg ha]
  have hl:=h1.1
  match ds,hl with
  |[c],_=>exact .d _ _ (h1.2 0 v c rfl rfl)
theorem law_of {f:FuncId} {xs:List V} {r:V} (hS:SoundH P f xs [] r []) {vs:List Value} (hlen:vs.length=xs.length)
  (hrep:∀(j:Nat) (v:Value) (x:V),vs[j]? =some v->xs[j]? =some x->RepV (G0 W) W [] 0 v x):
  Calls P f vs.toArray W fun e W' =>(∃v G',e= .returned v/\RepV G' W' [] 0 v r)/\Below W.heap.size W W' :=by
 refine(hS (G0 W) W vs hlen hrep ?_).mono fun e W' hh=> ?_
 ·refine⟨?_,?_,?_,?_,?_,?_⟩
  ·intro id l h;simp[hpOf,Hp.get]at h
  ·intro id es h;simp[hpOf,Hp.get]at h
  ·intro id b h;simp at h
  ·intro i j b h;simp at h
  ·intro id ob h;simp[hpOf,Hp.get]at h
  ·intro b hb
   show limOf W b=0
   unfold limOf
   rw[Array.getElem?_eq_none hb]
 ·obtain⟨v,G',rfl,h1,h2,h3,h4⟩:=hh
  refine⟨⟨v,G',rfl,h1⟩,h3.os,h3.tape,h3.output,h3.size,fun b hb=>(h3.same b hb ?_).1⟩
  rintro ⟨i,hi,_⟩
  simp at hi
def typesOk (P:Program) (ts:List TypeId):Bool:=ts.all fun t=>P.readableRec t&&decide (t<P.types.size)
theorem k7x (hl:laidOutB P=true) {W' :World} (hb:Below W.heap.size W W'):∀{ts:List TypeId} {vs:List Value} {ds:List (DataW H)} {ps:List MemPlace},typesOk P ts=true->
  DataW.TrodAll enc P W 0 (fun _=>true) true ts vs ds ps->(∀x∈ps,x.block<W.heap.size)->DataW.TrodAll enc P W' 0 (fun b=>decide (b<W.heap.size)) true ts vs ds ps
 |[],[],[],_,_,h,_=>h
 |[],[],_::_,_,_,h,_=>h.elim
 |[],_::_,_,_,_,h,_=>h.elim
 |_::_,[],_,_,_,h,_=>h.elim
 |_::_,_::_,[],_,_,h,_=>h.elim
 |t::ts,v::vs,d::ds,ps,ht,h,hp=>by
  simp only[typesOk,List.all_cons,Bool.and_eq_true,decide_eq_true_eq]at ht
  obtain⟨p,q,h1,h2,rfl⟩:=h
  exact⟨p,q,Below.trod hl ht.1.1 ht.1.2 h1 hb (fun x hx=>hp x (by simp[hx])),k7x hl hb (by simpa[typesOk]using ht.2) h2 (fun x hx=>hp x (by simp[hx])),rfl⟩
theorem kme {k:Nat} {t:TypeId} {ds:List D} {d:DataW H} (hu:P.underlying t=some .bool) (h:Rel P (k+1) t ds d):∃b,ds=[.bool b]/\d= .lit (.bool b):=by unfold Rel at h;rw[hu]at h;exact h
theorem rel_int {k:Nat} {t:TypeId} {q:IntKind} {ds:List D} {d:DataW H} (hu:P.underlying t=some (.int q)) (h:Rel P (k+1) t ds d):∃i,ds=[.int q i]/\d= .lit (.int q i)/\(Lit.int q i).wf=true:=by unfold Rel at h;rw[hu]at h;exact h
theorem kjz {k:Nat} {t:TypeId} {fs:Array Field} {ds:List D} {d:DataW H} (hu:P.underlying t=some (.struct fs)) (h:Rel P (k+1) t ds d):∃ps,d= .agg ps/\RelFs (Rel P k) (fsOf fs) ds ps:=by unfold Rel at h;rw[hu]at h;exact h
theorem kl0 {k:Nat} {t e:TypeId} {n:Nat} {ds:List D} {d:DataW H} (hu:P.underlying t=some (.array n e)) (h:Rel P (k+1) t ds d):∃ps,d= .agg ps/\RelFs (Rel P k) (arOf P n e) ds ps:=by unfold Rel at h;rw[hu]at h;exact h
theorem ke1 {k:Nat} {t e:TypeId} {ds:List D} {d:DataW H} {α:Type} [Inhabited α] (f:α->D) (p:α->Prop) (hu:P.underlying t=some (.slice e)) (h:Rel P (k+1) t ds d)
  (tp:∀(x:List D) (y:DataW H),Rel P k e x y->∃a,mkD P e x=f a/\p a):
  ∃l:List α,ds=[.slice (P.cellsOf e) (l.map f)]/\l.length<=maxLen/\(∀a∈l,p a)/\((l=[]/\d= .nil)∨∃elems spare,d= .slice elems spare/\l.length=elems.length):=by
 unfold Rel at h
 rw[hu]at h
 obtain⟨l,rfl,hmx,h⟩:=h
 rcases h with⟨rfl,rfl⟩|⟨elems,spare,rfl,hlen,hh⟩
 ·exact⟨[],rfl,Nat.zero_le _,by simp,.inl ⟨rfl,rfl⟩⟩
 ·have:∀i,i<l.length->∃a,mkD P e (l.getD i [])=f a/\p a:=by
   intro i hi
   refine tp _ _ (hh i _ _ ?_ (List.getElem?_eq_getElem (by omega)))
   simp[List.getElem?_eq_getElem hi]
  obtain⟨g,hg⟩:=Deep.choose_lt this
  refine⟨(List.range l.length).map g,?_,by simpa using hmx,?_,.inr ⟨elems,spare,rfl,by simpa using hlen⟩⟩
  ·have:l.map (mkD P e)=((List.range l.length).map g).map f:=by
    rw[Deep.map_by_index l [] (mkD P e),List.map_map]
    refine List.map_congr_left fun i hi=> ?_
    exact(hg i (by simpa using hi)).1
   rw[this]
  ·intro a ha
   obtain⟨i,hi,rfl⟩:=List.mem_map.1 ha
   exact(hg i (by simpa using hi)).2
theorem k4p {fn:Func} {s:ChangeSpec} {W' :World} {args:Array Value} {ds:List (DataW H)} {before:List MemPlace} {tb:TypeId} (hv:s.vars=[]) (hW:DataW.Whole enc P fn.params.toList s.vars false W args.toList ds [] before)
  (hl:laidOutB P=true) (hty:typesOk P fn.params.toList=true) (hr:fn.resultTypes= #[tb]) (hub:P.underlying tb=some .bool)
  (h1:(s.fn H (ds++[])).results=[.lit (.bool true)]) (h2:(s.fn H (ds++[])).args=ds) (h3:(s.fn H (ds++[])).vars=[]) (hb:Below W.heap.size W W'):
  s.post enc P fn false true false false W args (.bool true) W' :=by
 have hW' :=hW
 obtain⟨p,q,hA,hV,rfl,_,_⟩:=hW
 have hq:q=[]:=by rw[hv]at hV;exact hV
 subst hq
 refine⟨ds,[],p++[],[],p,[],hW',?_,?_,?_,hb.frame _,fun h=>by cases h⟩
 ·rw[h1,hr]
  exact trodAll_cons_mk (shut_bool hub _) trodAll_mk0
 ·rw[h2]
  exact k7x hl hb hty hA (fun x hx=>by simpa using hW'.lt x (by simpa using hx))
 ·rw[hv,h3]
  rfl
end
structure RelH {H:Type} (P:Program) (k:Nat) (t:TypeId) (ds:List D) (d:DataW H):Prop where
 h:Rel P k t ds d
section
variable {H:Type} {enc:TypeId×Value->H} {P:Program} {W:World} {k:Nat}
theorem relFs_h:∀{L:List (TypeId×Nat)} {ds:List D} {ps:List (DataW H)},RelFs (Rel P k) L ds ps->RelFs (RelH P k) L ds ps
 |[],_,_,h=>h
 |_::_,_,_,⟨d1,d2,p,qs,h1,h2,e1,e2⟩=>⟨d1,d2,p,qs,⟨h1⟩,relFs_h h2,e1,e2⟩
theorem kko {t:TypeId} {ds:List D} {d:DataW H} (hu:P.underlying t=some .bool) (h:RelH P (k+1) t ds d):∃b,ds=[.bool b]/\d= .lit (.bool b):=kme hu h.h
theorem kbm {t:TypeId} {q:IntKind} {ds:List D} {d:DataW H} (hu:P.underlying t=some (.int q)) (h:RelH P (k+1) t ds d):∃i,ds=[.int q i]/\d= .lit (.int q i)/\(Lit.int q i).wf=true:=rel_int hu h.h
theorem k1y {t:TypeId} {fs:Array Field} {ds:List D} {d:DataW H} {L:List (TypeId×Nat)} (hu:P.underlying t=some (.struct fs)) (hf:fsOf fs=L) (h:RelH P (k+1) t ds d):∃ps,d= .agg ps/\RelFs (RelH P k) L ds ps:=by
 obtain⟨ps,h1,h2⟩:=kjz hu h.h
 rw[hf]at h2
 exact⟨ps,h1,relFs_h h2⟩
theorem kk1 {t e:TypeId} {n:Nat} {ds:List D} {d:DataW H} {L:List (TypeId×Nat)} (hu:P.underlying t=some (.array n e)) (hf:arOf P n e=L) (h:RelH P (k+1) t ds d):∃ps,d= .agg ps/\RelFs (RelH P k) L ds ps:=by
 obtain⟨ps,h1,h2⟩:=kl0 hu h.h
 rw[hf]at h2
 exact⟨ps,h1,relFs_h h2⟩
theorem k30 {t e:TypeId} {ds:List D} {d:DataW H} {α:Type} [Inhabited α] (f:α->D) (p:α->Prop) (sz:Nat) (hu:P.underlying t=some (.slice e)) (hs:P.cellsOf e=sz) (h:RelH P (k+1) t ds d)
  (tp:∀(x:List D) (y:DataW H),RelH P k e x y->∃a,mkD P e x=f a/\p a):∃l:List α,ds=[.slice sz (l.map f)]/\l.length<=9223372036854775807/\∀a∈l,p a:=by
 obtain⟨l,h1,h2,h3,_⟩:=ke1 f p hu h.h (fun x y hh=>tp x y ⟨hh⟩)
 subst hs
 exact⟨l,h1,h2,h3⟩
theorem kkm {ts:List TypeId} {ds:List (DataW H)} {t e:TypeId} {sz j:Nat} {L:List D} {d:DataW H} (hz:(DataW.weightsEach P ts ds).all (·<=reachBytes)=true) (ht:ts[j]? =some t) (hd:ds[j]? =some d)
  (hu:P.underlying t=some (.slice e)) (h:RelH P (k+1) t [.slice sz L] d):L.length*P.bytesOf e<=reachBytes:=by
 have:Inhabited D:=⟨.bool false⟩
 obtain⟨l,e1,_,_,h2⟩:=ke1 (α:=D) (fun x=>x) (fun _=>True) hu h.h (fun x _ _=>⟨mkD P e x,rfl,trivial⟩)
 have e2:L=l.map fun x=>x:=by injection e1 with e1;injection e1
 have e3:L.length=l.length:=by rw[e2,List.length_map]
 rw[e3]
 rcases h2 with⟨rfl,_⟩|⟨elems,spare,rfl,h3⟩
 ·simp
 ·rw[h3]
  exact Nat.le_trans (Nat.mul_le_mul_right _ (Nat.le_add_right _ _)) (sized_slice hz ht hd hu)
theorem mk_agg {e:TypeId} {ds cs:List D} (ha:isAggT P e=true) (h:ds=(D.agg cs).cells):mkD P e ds= .agg cs:=by subst h;unfold mkD;rw[ha];rfl
theorem mk_one {e:TypeId} {ds:List D} {x:D} (ha:isAggT P e=false) (h:ds=[x]):mkD P e ds=x:=by subst h;unfold mkD;rw[ha];rfl
theorem k13 {r:Reach} {base:Nat} {t:TypeId} {v:Value} {d:DataW H} {ps:List MemPlace} {h:Hp} {nx:Nat} (hT:dataT P k t=true) (hval:Value.okWide P W r base t v)
  (hd:DataW.Trod enc P W 0 (fun _=>true) true t v d ps):∃ds,RelH P k t ds d/\RepV (G0 W) W h nx v (vOf P t ds):=by
 obtain⟨ds,h1,h2⟩:=arg_rep hT hval hd
 exact⟨ds,⟨h1⟩,h2⟩
end
end Go.Bv
namespace Go.Proofs.YtlfcebhnjkcmnaaGreat
open Go Go.Bv Go.Cv Go.Md Go.RowKit Go.ChangeShapes Go.WideShapes
theorem wf_u8 {i:Int} (h:(Lit.int .u8 i).wf=true):0<=i/\i<256:=by
 simp only[Lit.wf,IntKind.min,IntKind.max,IntKind.signed,IntKind.bits,Bool.and_eq_true]at h
 simp at h
 omega
theorem wf_u64 {i:Int} (h:(Lit.int .u64 i).wf=true):0<=i/\i<18446744073709551616:=by
 simp only[Lit.wf,IntKind.min,IntKind.max,IntKind.signed,IntKind.bits,Bool.and_eq_true]at h
 simp at h
 omega
theorem wf_i64 {i:Int} (h:(Lit.int .i64 i).wf=true):(-9223372036854775808)<=i/\i<9223372036854775808:=by
 simp only[Lit.wf,IntKind.min,IntKind.max,IntKind.signed,IntKind.bits,Bool.and_eq_true]at h
 simp at h
 omega
structure k19 (x:wF):Prop where
 wm:((-9223372036854775808)<=x.wm/\x.wm<9223372036854775808)
 wD:((-9223372036854775808)<=x.wD/\x.wD<9223372036854775808)
 wJ:((-9223372036854775808)<=x.wJ/\x.wJ<9223372036854775808)
 wI:((-9223372036854775808)<=x.wI/\x.wI<9223372036854775808)
 wG:((-9223372036854775808)<=x.wG/\x.wG<9223372036854775808)
 wP:(0<=x.wP/\x.wP<18446744073709551616)
 wU:((-9223372036854775808)<=x.wU/\x.wU<9223372036854775808)
 wO:((-9223372036854775808)<=x.wO/\x.wO<9223372036854775808)
 wh:(0<=x.wh/\x.wh<18446744073709551616)
theorem op3 {H:Type} {k:Nat} {ds:List D} {d:DataW H} (h:RelH Tryz.prog (k+1) 3 ds d):∃x:Int,ds=[D.int .i64 x]/\((-9223372036854775808)<=x/\x<9223372036854775808):=by
 obtain⟨i,rfl,_,w⟩:=kbm (q:= .i64) (show Tryz.prog.underlying 3=some (.int .i64)by kernel_rfl) h
 exact⟨i,rfl,wf_i64 w⟩
structure kds (x:wAH):Prop where
 wAT:((-9223372036854775808)<=x.wAT/\x.wAT<9223372036854775808)
 wAN:((-9223372036854775808)<=x.wAN/\x.wAN<9223372036854775808)
 wAS:((-9223372036854775808)<=x.wAS/\x.wAS<9223372036854775808)
theorem op23 {H:Type} {k:Nat} {ds:List D} {d:DataW H} (h:RelH Tryz.prog (k+2) 23 ds d):∃x:wAH,ds=(encTProofParams x).cells/\kds x:=by
 obtain⟨ps,rfl,h1⟩:=k1y (L:=[(3,0),(3,1),(3,2)]) (Tryz.underlying23) (by kernel_rfl) h
 obtain⟨_,_,_,_,g0,⟨_,_,_,_,g1,⟨_,_,_,_,g2,⟨rfl,rfl⟩,rfl,rfl⟩,rfl,rfl⟩,rfl,rfl⟩:=h1
 obtain⟨a0,rfl,r0⟩:=op3 (k:=k+0) g0
 obtain⟨a1,rfl,r1⟩:=op3 (k:=k+0) g1
 obtain⟨a2,rfl,r2⟩:=op3 (k:=k+0) g2
 exact⟨⟨a0,a1,a2⟩,rfl,⟨r0,r1,r2⟩⟩
theorem op24 {H:Type} {k:Nat} {ds:List D} {d:DataW H} (h:RelH Tryz.prog (k+1) 24 ds d):∃x:Int,ds=[D.int .u64 x]/\(0<=x/\x<18446744073709551616):=by
 obtain⟨i,rfl,_,w⟩:=kbm (q:= .u64) (show Tryz.prog.underlying 24=some (.int .u64)by kernel_rfl) h
 exact⟨i,rfl,wf_u64 w⟩
theorem op26 {H:Type} {k:Nat} {ds:List D} {d:DataW H} (h:RelH Tryz.prog (k+3) 26 ds d):∃x:wF,ds=(encTRules x).cells/\k19 x:=by
 obtain⟨ps,rfl,h1⟩:=k1y (L:=[(3,0),(3,1),(23,2),(24,5),(3,6),(3,7),(24,8)]) (Tryz.underlying26) (by kernel_rfl) h
 obtain⟨_,_,_,_,g0,⟨_,_,_,_,g1,⟨_,_,_,_,g2,⟨_,_,_,_,g3,⟨_,_,_,_,g4,⟨_,_,_,_,g5,⟨_,_,_,_,g6,⟨rfl,rfl⟩,rfl,rfl⟩,rfl,rfl⟩,rfl,rfl⟩,rfl,rfl⟩,rfl,rfl⟩,rfl,rfl⟩,rfl,rfl⟩:=h1
 obtain⟨a0,rfl,r0⟩:=op3 (k:=k+1) g0
 obtain⟨a1,rfl,r1⟩:=op3 (k:=k+1) g1
 obtain⟨a2,rfl,r2⟩:=op23 (k:=k+0) g2
 obtain⟨a3,rfl,r3⟩:=op24 (k:=k+1) g3
 obtain⟨a4,rfl,r4⟩:=op3 (k:=k+1) g4
 obtain⟨a5,rfl,r5⟩:=op3 (k:=k+1) g5
 obtain⟨a6,rfl,r6⟩:=op24 (k:=k+1) g6
 exact⟨⟨a0,a1,a2.wAT,a2.wAN,a2.wAS,a3,a4,a5,a6⟩,rfl,⟨r0,r1,r2.wAT,r2.wAN,r2.wAS,r3,r4,r5,r6⟩⟩
structure kcz (x:wAR):Prop where
 wn:(0<=x.wn/\x.wn<18446744073709551616)
 wAI:(0<=x.wAI/\x.wAI<18446744073709551616)
 wAJ:(0<=x.wAJ/\x.wAJ<18446744073709551616)
 wv:(x.wv.length<=9223372036854775807/\∀y∈x.wv,(0<=y/\y<18446744073709551616))
structure k34 (x:wo):Prop where
 wAE:(0<=x.wAE/\x.wAE<18446744073709551616)
 wC:(x.wC.length<=9223372036854775807/\∀y∈x.wC,(0<=y/\y<18446744073709551616))
 wH:(x.wH.length<=9223372036854775807/\∀y∈x.wH,kcz y)
 wM:(0<=x.wM/\x.wM<18446744073709551616)
 wQ:(0<=x.wQ/\x.wQ<18446744073709551616)
 Fee:(0<=x.Fee/\x.Fee<18446744073709551616)
 wZ:(0<=x.wZ/\x.wZ<18446744073709551616)
 wL:(0<=x.wL/\x.wL<18446744073709551616)
 wAC:((-9223372036854775808)<=x.wAC/\x.wAC<9223372036854775808)
 wAP:(x.wAP.length<=9223372036854775807/\∀y∈x.wAP,(0<=y/\y<256))
structure k21 (x:wAD):Prop where
 wAF:(0<=x.wAF/\x.wAF<18446744073709551616)
 wAG:((-9223372036854775808)<=x.wAG/\x.wAG<9223372036854775808)
 wAK:(0<=x.wAK/\x.wAK<18446744073709551616)
 wAO:(0<=x.wAO/\x.wAO<18446744073709551616)
 wAL:(0<=x.wAL/\x.wAL<18446744073709551616)
 wAB:(x.wAB.length<=9223372036854775807/\∀y∈x.wAB,k34 y)
theorem op4 {H:Type} {k:Nat} {ds:List D} {d:DataW H} (h:RelH Tryz.prog (k+1) 4 ds d):∃x:Bool,ds=[D.bool x]/\True:=by
 obtain⟨b,rfl,_⟩:=kko (show Tryz.prog.underlying 4=some (.bool)by kernel_rfl) h
 exact⟨b,rfl,trivial⟩
structure k56 (x:wV):Prop where
 wAW:(0<=x.wAW/\x.wAW<18446744073709551616)
 wS:((-9223372036854775808)<=x.wS/\x.wS<9223372036854775808)
 wAM:(0<=x.wAM/\x.wAM<18446744073709551616)
 wh:(0<=x.wh/\x.wh<18446744073709551616)
 wL:(0<=x.wL/\x.wL<18446744073709551616)
 Txs:(x.Txs.length<=9223372036854775807/\∀y∈x.Txs,k34 y)
theorem op43 {H:Type} {k:Nat} {ds:List D} {d:DataW H} (h:RelH Tryz.prog (k+2) 43 ds d):∃x:List Int,ds=[D.slice 1 (x.map (D.int .u64))]/\(x.length<=9223372036854775807/\∀y∈x,(0<=y/\y<18446744073709551616)):=by
 obtain⟨l,rfl,hm,hl⟩:=k30 (D.int .u64) (fun(y:Int)=>(0<=y/\y<18446744073709551616)) 1 (show Tryz.prog.underlying 43=some (.slice 24)by kernel_rfl) (by kernel_rfl) h (fun x y hh=>by
  obtain⟨a,e,ha⟩:=op24 (k:=k+0) hh
  exact⟨a,mk_one (by kernel_rfl) e,ha⟩)
 exact⟨l,rfl,⟨hm,hl⟩⟩
structure knc (x:wAY):Prop where
 a0:(0<=x.a0/\x.a0<18446744073709551616)
 a1:(0<=x.a1/\x.a1<18446744073709551616)
theorem op71 {H:Type} {k:Nat} {ds:List D} {d:DataW H} (h:RelH Tryz.prog (k+2) 71 ds d):∃x:wAY,ds=(encTA2 x).cells/\knc x:=by
 obtain⟨ps,rfl,h1⟩:=kk1 (n:=2) (e:=24) (L:=[(24,0),(24,1)]) (show Tryz.prog.underlying 71=some (.array 2 24)by kernel_rfl) (by kernel_rfl) h
 obtain⟨_,_,_,_,g0,⟨_,_,_,_,g1,⟨rfl,rfl⟩,rfl,rfl⟩,rfl,rfl⟩:=h1
 obtain⟨a0,rfl,r0⟩:=op24 (k:=k+0) g0
 obtain⟨a1,rfl,r1⟩:=op24 (k:=k+0) g1
 exact⟨⟨a0,a1⟩,rfl,⟨r0,r1⟩⟩
theorem op73 {H:Type} {k:Nat} {ds:List D} {d:DataW H} (h:RelH Tryz.prog (k+3) 73 ds d):∃x:wAR,ds=(encTOut x).cells/\kcz x:=by
 obtain⟨ps,rfl,h1⟩:=k1y (L:=[(24,0),(71,1),(43,3)]) (Tryz.underlying73) (by kernel_rfl) h
 obtain⟨_,_,_,_,g0,⟨_,_,_,_,g1,⟨_,_,_,_,g2,⟨rfl,rfl⟩,rfl,rfl⟩,rfl,rfl⟩,rfl,rfl⟩:=h1
 obtain⟨a0,rfl,r0⟩:=op24 (k:=k+1) g0
 obtain⟨a1,rfl,r1⟩:=op71 (k:=k+0) g1
 obtain⟨a2,rfl,r2⟩:=op43 (k:=k+0) g2
 exact⟨⟨a0,a1.a0,a1.a1,a2⟩,rfl,⟨r0,r1.a0,r1.a1,r2⟩⟩
theorem op44 {H:Type} {k:Nat} {ds:List D} {d:DataW H} (h:RelH Tryz.prog (k+4) 44 ds d):∃x:List wAR,ds=[D.slice 4 (x.map encTOut)]/\(x.length<=9223372036854775807/\∀y∈x,kcz y):=by
 obtain⟨l,rfl,hm,hl⟩:=k30 encTOut (fun(y:wAR)=>kcz y) 4 (show Tryz.prog.underlying 44=some (.slice 73)by kernel_rfl) (by kernel_rfl) h (fun x y hh=>by
  obtain⟨a,e,ha⟩:=op73 (k:=k+0) hh
  exact⟨a,mk_agg (by kernel_rfl) e,ha⟩)
 exact⟨l,rfl,⟨hm,hl⟩⟩
theorem op5 {H:Type} {k:Nat} {ds:List D} {d:DataW H} (h:RelH Tryz.prog (k+1) 5 ds d):∃x:Int,ds=[D.int .u8 x]/\(0<=x/\x<256):=by
 obtain⟨i,rfl,_,w⟩:=kbm (q:= .u8) (show Tryz.prog.underlying 5=some (.int .u8)by kernel_rfl) h
 exact⟨i,rfl,wf_u8 w⟩
theorem op45 {H:Type} {k:Nat} {ds:List D} {d:DataW H} (h:RelH Tryz.prog (k+2) 45 ds d):∃x:List Int,ds=[D.slice 1 (x.map (D.int .u8))]/\(x.length<=9223372036854775807/\∀y∈x,(0<=y/\y<256)):=by
 obtain⟨l,rfl,hm,hl⟩:=k30 (D.int .u8) (fun(y:Int)=>(0<=y/\y<256)) 1 (show Tryz.prog.underlying 45=some (.slice 5)by kernel_rfl) (by kernel_rfl) h (fun x y hh=>by
  obtain⟨a,e,ha⟩:=op5 (k:=k+0) hh
  exact⟨a,mk_one (by kernel_rfl) e,ha⟩)
 exact⟨l,rfl,⟨hm,hl⟩⟩
theorem op47 {H:Type} {k:Nat} {ds:List D} {d:DataW H} (h:RelH Tryz.prog (k+5) 47 ds d):∃x:wo,ds=(encTTx x).cells/\k34 x:=by
 obtain⟨ps,rfl,h1⟩:=k1y (L:=[(24,0),(43,1),(44,2),(24,3),(24,4),(24,5),(24,6),(24,7),(3,8),(45,9)]) (Tryz.underlying47) (by kernel_rfl) h
 obtain⟨_,_,_,_,g0,⟨_,_,_,_,g1,⟨_,_,_,_,g2,⟨_,_,_,_,g3,⟨_,_,_,_,g4,⟨_,_,_,_,g5,⟨_,_,_,_,g6,⟨_,_,_,_,g7,⟨_,_,_,_,g8,⟨_,_,_,_,g9,⟨rfl,rfl⟩,rfl,rfl⟩,rfl,rfl⟩,rfl,rfl⟩,rfl,rfl⟩,rfl,rfl⟩,rfl,rfl⟩,rfl,rfl⟩,rfl,rfl⟩,rfl,rfl⟩,rfl,rfl⟩:=h1
 obtain⟨a0,rfl,r0⟩:=op24 (k:=k+3) g0
 obtain⟨a1,rfl,r1⟩:=op43 (k:=k+2) g1
 obtain⟨a2,rfl,r2⟩:=op44 (k:=k+0) g2
 obtain⟨a3,rfl,r3⟩:=op24 (k:=k+3) g3
 obtain⟨a4,rfl,r4⟩:=op24 (k:=k+3) g4
 obtain⟨a5,rfl,r5⟩:=op24 (k:=k+3) g5
 obtain⟨a6,rfl,r6⟩:=op24 (k:=k+3) g6
 obtain⟨a7,rfl,r7⟩:=op24 (k:=k+3) g7
 obtain⟨a8,rfl,r8⟩:=op3 (k:=k+3) g8
 obtain⟨a9,rfl,r9⟩:=op45 (k:=k+2) g9
 exact⟨⟨a0,a1,a2,a3,a4,a5,a6,a7,a8,a9⟩,rfl,⟨r0,r1,r2,r3,r4,r5,r6,r7,r8,r9⟩⟩
theorem op64 {H:Type} {k:Nat} {ds:List D} {d:DataW H} (h:RelH Tryz.prog (k+6) 64 ds d):∃x:List wo,ds=[D.slice 10 (x.map encTTx)]/\(x.length<=9223372036854775807/\∀y∈x,k34 y):=by
 obtain⟨l,rfl,hm,hl⟩:=k30 encTTx (fun(y:wo)=>k34 y) 10 (show Tryz.prog.underlying 64=some (.slice 47)by kernel_rfl) (by kernel_rfl) h (fun x y hh=>by
  obtain⟨a,e,ha⟩:=op47 (k:=k+0) hh
  exact⟨a,mk_agg (by kernel_rfl) e,ha⟩)
 exact⟨l,rfl,⟨hm,hl⟩⟩
theorem op66 {H:Type} {k:Nat} {ds:List D} {d:DataW H} (h:RelH Tryz.prog (k+7) 66 ds d):∃x:wV,ds=(encTBlock x).cells/\k56 x:=by
 obtain⟨ps,rfl,h1⟩:=k1y (L:=[(24,0),(3,1),(24,2),(24,3),(24,4),(64,5)]) (Tryz.underlying66) (by kernel_rfl) h
 obtain⟨_,_,_,_,g0,⟨_,_,_,_,g1,⟨_,_,_,_,g2,⟨_,_,_,_,g3,⟨_,_,_,_,g4,⟨_,_,_,_,g5,⟨rfl,rfl⟩,rfl,rfl⟩,rfl,rfl⟩,rfl,rfl⟩,rfl,rfl⟩,rfl,rfl⟩,rfl,rfl⟩:=h1
 obtain⟨a0,rfl,r0⟩:=op24 (k:=k+5) g0
 obtain⟨a1,rfl,r1⟩:=op3 (k:=k+5) g1
 obtain⟨a2,rfl,r2⟩:=op24 (k:=k+5) g2
 obtain⟨a3,rfl,r3⟩:=op24 (k:=k+5) g3
 obtain⟨a4,rfl,r4⟩:=op24 (k:=k+5) g4
 obtain⟨a5,rfl,r5⟩:=op64 (k:=k+0) g5
 exact⟨⟨a0,a1,a2,a3,a4,a5⟩,rfl,⟨r0,r1,r2,r3,r4,r5⟩⟩
theorem op68 {H:Type} {k:Nat} {ds:List D} {d:DataW H} (h:RelH Tryz.prog (k+8) 68 ds d):∃x:wAD,ds=(encTOp x).cells/\k21 x:=by
 obtain⟨ps,rfl,h1⟩:=k1y (L:=[(4,0),(66,1)]) (Tryz.underlying68) (by kernel_rfl) h
 obtain⟨_,_,_,_,g0,⟨_,_,_,_,g1,⟨rfl,rfl⟩,rfl,rfl⟩,rfl,rfl⟩:=h1
 obtain⟨a0,rfl,r0⟩:=op4 (k:=k+6) g0
 obtain⟨a1,rfl,r1⟩:=op66 (k:=k+0) g1
 exact⟨⟨a0,a1.wAW,a1.wS,a1.wAM,a1.wh,a1.wL,a1.Txs⟩,rfl,⟨r1.wAW,r1.wS,r1.wAM,r1.wh,r1.wL,r1.Txs⟩⟩
theorem op27 {H:Type} {k:Nat} {ds:List D} {d:DataW H} (h:RelH Tryz.prog (k+9) 27 ds d):∃x:List wAD,ds=[D.slice 7 (x.map encTOp)]/\(x.length<=9223372036854775807/\∀y∈x,k21 y):=by
 obtain⟨l,rfl,hm,hl⟩:=k30 encTOp (fun(y:wAD)=>k21 y) 7 (show Tryz.prog.underlying 27=some (.slice 68)by kernel_rfl) (by kernel_rfl) h (fun x y hh=>by
  obtain⟨a,e,ha⟩:=op68 (k:=k+0) hh
  exact⟨a,mk_agg (by kernel_rfl) e,ha⟩)
 exact⟨l,rfl,⟨hm,hl⟩⟩
theorem dt26:dataT Tryz.prog 3 26=true:=by kernel_rfl
theorem dt27:dataT Tryz.prog 9 27=true:=by kernel_rfl
theorem dt47:dataT Tryz.prog 5 47=true:=by kernel_rfl
theorem dt66:dataT Tryz.prog 7 66=true:=by kernel_rfl
theorem own:ownKnob Tryz.prog.godebug=none:=by kernel_rfl
theorem laid:laidOutB Tryz.prog=true:=by kernel_rfl
end Go.Proofs.YtlfcebhnjkcmnaaGreat
namespace Go.Md
open Go Go.Bv
theorem u64w (n:Int):IntKind.u64.wrap n=n%18446744073709551616:=IntKind.wrap_u64 n
theorem u8w (n:Int):IntKind.u8.wrap n=n%256:=IntKind.wrap_u8 n
theorem k2r (k:IntKind) (a b:Int):ishr k a b=a/((2^min b.toNat k.bits:Nat):Int):=by
 unfold ishr
 rw[show(2:Int)^min b.toNat k.bits=((2^min b.toNat k.bits:Nat):Int)from(Int.natCast_pow 2 _).symm,Int.fdiv_eq_ediv_of_nonneg _ (Int.natCast_nonneg _)]
theorem kmb (a b:Int):ishl .u64 a b=(a*((2^min b.toNat 64:Nat):Int))%18446744073709551616:=by
 unfold ishl
 rw[u64w,show(2:Int)^min b.toNat IntKind.u64.bits=((2^min b.toNat 64:Nat):Int)by rw[show IntKind.u64.bits=64 from rfl];exact(Int.natCast_pow 2 _).symm]
theorem k2u (n:Nat) (h:n<18446744073709551616):(BitVec.ofInt 64 (n:Int)).toNat=n:=by
 rw[BitVec.toNat_ofInt]
 omega
theorem kaa (a b:Nat) (ha:a<18446744073709551616) (hb:b<18446744073709551616):iand .u64 a b=((a&&&b:Nat):Int):=by
 unfold iand
 rw[u64w]
 show(((BitVec.ofInt 64 a&&&BitVec.ofInt 64 b).toNat:Nat):Int)%_=_
 rw[BitVec.toNat_and,k2u a ha,k2u b hb]
 have:=Nat.and_le_left (n:=a) (m:=b)
 omega
theorem ior_nat (a b:Nat) (ha:a<18446744073709551616) (hb:b<18446744073709551616):ior .u64 a b=((a|||b:Nat):Int):=by
 unfold ior
 rw[u64w]
 show(((BitVec.ofInt 64 a|||BitVec.ofInt 64 b).toNat:Nat):Int)%_=_
 rw[BitVec.toNat_or,k2u a ha,k2u b hb]
 have:=Nat.or_lt_two_pow (x:=a) (y:=b) (n:=64) (by omega) (by omega)
 omega
theorem k2h (a:Int) (h:0<=a/\a<18446744073709551616):iand .u64 a 4294967295=a%4294967296:=by
 obtain⟨n,rfl⟩:=Int.eq_ofNat_of_zero_le h.1
 have:=kaa n 4294967295 (by omega) (by omega)
 rw[show((4294967295:Nat):Int)=4294967295 from rfl]at this
 rw[this,show(4294967295:Nat)=2^32-1 from rfl,Nat.and_two_pow_sub_one_eq_mod]
 exact Int.natCast_emod _ _
theorem km9 (a:Int) (h:0<=a/\a<18446744073709551616):iand .u64 a 1=a%2:=by
 obtain⟨n,rfl⟩:=Int.eq_ofNat_of_zero_le h.1
 have:=kaa n 1 (by omega) (by omega)
 rw[show((1:Nat):Int)=1 from rfl]at this
 rw[this,Nat.and_one_is_mod]
 exact Int.natCast_emod _ _
theorem ior_add' (a c k:Nat) (ha:a<2^k) (h:a+2^k*c<18446744073709551616):ior .u64 ((2^k*c:Nat):Int) a=((a+2^k*c:Nat):Int):=by
 rw[ior_nat _ _ (by omega) (by omega),<-Nat.two_pow_add_eq_or_of_lt ha,Nat.add_comm]
theorem ishr32 (a:Int):ishr .u64 a 32=a/4294967296:=k2r _ _ _
theorem ishr16 (a:Int):ishr .u64 a 16=a/65536:=k2r _ _ _
theorem ishr8 (a:Int):ishr .u64 a 8=a/256:=k2r _ _ _
theorem ishr1 (a:Int):ishr .u64 a 1=a/2:=k2r _ _ _
theorem kly (a b:Int) (ha:0<=a/\a<18446744073709551616) (hb:0<=b/\b<18446744073709551616):
  ((a/4294967296*(b/4294967296)+((a/4294967296*(b%4294967296)+a%4294967296*(b%4294967296)/4294967296)/4294967296))+((a/4294967296*(b%4294967296)+a%4294967296*(b%4294967296)/4294967296)%4294967296+a%4294967296*(b/4294967296))/4294967296)=a*b/18446744073709551616/\
  a%4294967296*(b%4294967296)<18446744073709551616/\a/4294967296*(b%4294967296)+a%4294967296*(b%4294967296)/4294967296<18446744073709551616/\
  a%4294967296*(b/4294967296)<18446744073709551616-4294967296/\a/4294967296*(b/4294967296)<18446744065119617026/\0<=a%4294967296*(b%4294967296)/\0<=a/4294967296*(b%4294967296)/\0<=a%4294967296*(b/4294967296)/\0<=a/4294967296*(b/4294967296):=by
 have h1:∀x y:Int,0<=x->x<=4294967295->0<=y->y<=4294967295->0<=x*y/\x*y<=18446744065119617025:=by
  intro x y h0 h1 h2 h3
  exact⟨Int.mul_nonneg h0 h2,by have:=Int.mul_le_mul h1 h3 h2 (by omega);omega⟩
 have a1:=h1 (a%4294967296) (b%4294967296) (by omega) (by omega) (by omega) (by omega)
 have a2:=h1 (a/4294967296) (b%4294967296) (by omega) (by omega) (by omega) (by omega)
 have a3:=h1 (a%4294967296) (b/4294967296) (by omega) (by omega) (by omega) (by omega)
 have a4:=h1 (a/4294967296) (b/4294967296) (by omega) (by omega) (by omega) (by omega)
 have e:a*b=a/4294967296*(b/4294967296)*18446744073709551616+(a/4294967296*(b%4294967296)+a%4294967296*(b/4294967296))*4294967296+a%4294967296*(b%4294967296):=by
  have ea:a=a/4294967296*4294967296+a%4294967296:=by omega
  have eb:b=b/4294967296*4294967296+b%4294967296:=by omega
  conv=>lhs;rw[ea,eb]
  generalize a/4294967296=x
  generalize a%4294967296=y
  generalize b/4294967296=z
  generalize b%4294967296=t
  grind
 generalize a%4294967296*(b%4294967296)=p0 at *
 generalize a/4294967296*(b%4294967296)=p1 at *
 generalize a%4294967296*(b/4294967296)=p2 at *
 generalize a/4294967296*(b/4294967296)=p3 at *
 generalize a*b=ab at *
 refine⟨?_,?_,?_,?_,?_,?_,?_,?_,?_⟩<;>omega
structure Half (U x a b Q:Int):Prop where
 hU:0<=U
 hUv:U<a*4294967296+b
 hx:0<=x/\x<4294967296
 ha:2147483648<=a/\a<4294967296
 hb:0<=b/\b<4294967296
 hQ:Q=(U*4294967296+x)/(a*4294967296+b)
theorem Half.q {U x a b Q:Int} (h:Half U x a b Q):0<=Q/\Q<4294967296/\Q*(a*4294967296+b)<=U*4294967296+x/\U*4294967296+x<(Q+1)*(a*4294967296+b):=by
 obtain⟨h1,h2,h3,h4,h5,h6⟩:=h
 have hv:0<a*4294967296+b:=by omega
 have e:=Int.emod_add_mul_ediv (U*4294967296+x) (a*4294967296+b)
 have l:=Int.emod_nonneg (U*4294967296+x) (by omega:a*4294967296+b≠0)
 have r:=Int.emod_lt_of_pos (U*4294967296+x) hv
 rw[<-h6]at e
 generalize hvv:a*4294967296+b=v at *
 have e2:(Q+1)*v=Q*v+v:=by grind
 have e3:v*Q=Q*v:=by grind
 have q0:0<=Q:=by
  rw[h6]
  exact Int.ediv_nonneg (by omega) (by omega)
 have q1:Q<4294967296:=by
  rw[h6]
  exact Int.ediv_lt_of_lt_mul hv (by omega)
 refine⟨q0,q1,by omega,by omega⟩
theorem Half.exit {U x a b Q q r:Int} (h:Half U x a b Q) (e:q*a+r=U) (hq:Q<=q) (h2:q*b<=r*4294967296+x):q=Q:=by
 obtain⟨q0,q1,q2,q3⟩:=h.q
 have h4:=h.ha
 have:q*(a*4294967296+b)<=U*4294967296+x:=by
  have:q*(a*4294967296+b)=q*a*4294967296+q*b:=by grind
  rw[this]
  generalize q*a=qa at *
  omega
 have h5:q<Q+1:=by
  have hv:0<a*4294967296+b:=by have:=h.hb;omega
  exact Int.lt_of_mul_lt_mul_right (by omega) (Int.le_of_lt hv)
 omega
theorem Half.down {U x a b Q q r:Int} (h:Half U x a b Q) (e:q*a+r=U) (h2:4294967296<=q∨r*4294967296+x<q*b):Q<=q-1:=by
 obtain⟨q0,q1,q2,q3⟩:=h.q
 rcases h2 with h2|h2
 ·omega
 ·have:U*4294967296+x<q*(a*4294967296+b):=by
   have:q*(a*4294967296+b)=q*a*4294967296+q*b:=by grind
   rw[this]
   generalize q*a=qa at *
   omega
  have h5:Q<q:=by
   have hv:0<a*4294967296+b:=by have:=h.hb;have:=h.ha;omega
   exact Int.lt_of_mul_lt_mul_right (a:=a*4294967296+b) (by omega) (Int.le_of_lt hv)
  omega
theorem Half.small {U x a b Q q r:Int} (h:Half U x a b Q) (e:q*a+r=U) (hr:4294967296<=r):q<4294967296:=by
 have h2:=h.hUv
 have h4:=h.ha
 have h5:=h.hb
 have:q*a<4294967296*a:=by generalize q*a=qa at *;omega
 exact Int.lt_of_mul_lt_mul_right this (by omega)
theorem Half.done {U x a b Q q r:Int} (h:Half U x a b Q) (e:q*a+r=U) (hq:Q<=q) (hr:4294967296<=r):q=Q:=by
 refine h.exit e hq ?_
 have h1:=h.small e hr
 obtain⟨q0,_⟩:=h.q
 have h5:=h.hb
 have h6:=h.hx
 have:q*b<=4294967296*4294967296:=Int.mul_le_mul (by omega) (by omega) (by omega) (by omega)
 omega
theorem Half.rest {U x a b Q:Int} (h:Half U x a b Q):(U*4294967296+x)-Q*(a*4294967296+b)=(U*4294967296+x)%(a*4294967296+b)/\0<=(U*4294967296+x)%(a*4294967296+b)/\(U*4294967296+x)%(a*4294967296+b)<a*4294967296+b:=by
 have hv:0<a*4294967296+b:=by have:=h.hb;have:=h.ha;omega
 have e:=Int.emod_add_mul_ediv (U*4294967296+x) (a*4294967296+b)
 rw[<-h.hQ]at e
 have:=Int.mul_comm (a*4294967296+b) Q
 exact⟨by omega,Int.emod_nonneg _ (by omega),Int.emod_lt_of_pos _ hv⟩
theorem kjx {N y p U un1 un0 Q1 R1 Q0 R0:Int} (hp:0<p) (hy:0<y) (hN:N*p=U*18446744073709551616+un1*4294967296+un0) (h1:U*4294967296+un1-Q1*(y*p)=R1) (h0:R1*4294967296+un0-Q0*(y*p)=R0)
  (hr:0<=R0/\R0<y*p):Q1*4294967296+Q0=N/y/\R0/p=N%y:=by
 have e:N*p=(Q1*4294967296+Q0)*(y*p)+R0:=by
  rw[hN]
  have:(Q1*4294967296+Q0)*(y*p)=Q1*(y*p)*4294967296+Q0*(y*p):=by grind
  rw[this]
  generalize Q1*(y*p)=a at *
  generalize Q0*(y*p)=b at *
  omega
 have e2:R0=(N-(Q1*4294967296+Q0)*y)*p:=by grind
 have h3:0<=N-(Q1*4294967296+Q0)*y:=by
  rcases Int.lt_or_le (N-(Q1*4294967296+Q0)*y) 0 with h|h
  ·exfalso
   have:(N-(Q1*4294967296+Q0)*y)*p<0:=Int.mul_neg_of_neg_of_pos h hp
   omega
  ·exact h
 have h4:N-(Q1*4294967296+Q0)*y<y:=by
  refine Int.lt_of_mul_lt_mul_right (a:=p) ?_ (Int.le_of_lt hp)
  omega
 have e3:N=(N-(Q1*4294967296+Q0)*y)+y*(Q1*4294967296+Q0):=by grind
 constructor
 ·conv=>rhs;rw[e3]
  rw[Int.add_mul_ediv_left _ _ (by omega),Int.ediv_eq_zero_of_lt h3 h4]
  omega
 ·rw[e2,Int.mul_ediv_cancel _ (by omega)]
  conv=>rhs;rw[e3]
  rw[Int.add_mul_emod_self_left,Int.emod_eq_of_lt h3 h4]
end Go.Md
namespace Go.Md
open Go Go.Bv
theorem ix_nat {α:Type} [Inhabited α] (l:List α) (i:Int) (h0:0<=i) (h1:i<(l.length:Int)):ix l i=l[i.toNat]'(by omega):=by
 have:i.toNat<l.length:=by omega
 simp[ix,this]
theorem ix_mem {α:Type} [Inhabited α] (l:List α) (i:Int) (h0:0<=i) (h1:i<(l.length:Int)):ix l i∈l:=by
 rw[ix_nat l i h0 h1];exact List.getElem_mem _
theorem inc (i n:Int) (h0:0<=i) (h:i<n) (hn:n<=9223372036854775807):IntKind.i64.wrap (i+1)=i+1:=kh _ (by omega) (by omega)
theorem wi (n:Int) (h0: -9223372036854775808<=n) (h:n<=9223372036854775807):IntKind.i64.wrap n=n:=kh n h0 (by omega)
theorem wu (n:Int) (h0:0<=n) (h:n<=18446744073709551615):IntKind.u64.wrap n=n:=wrap_u64 n h0 (by omega)
theorem tdiv_nn (a b:Int) (h:0<=a):Int.tdiv a b=a/b:=Int.tdiv_eq_ediv_of_nonneg h
theorem tmod_nn (a b:Int) (h:0<=a):Int.tmod a b=a%b:=Int.tmod_eq_emod_of_nonneg h
theorem ki {α:Type} [Inhabited α] (l:List α) (i:Int) (h0:0<=i) (h1:i<(l.length:Int)):l.take (i+1).toNat=l.take i.toNat++[ix l i]:=by
 rw[ix_nat l i h0 h1,show(i+1).toNat=i.toNat+1 by omega,List.take_succ_eq_append_getElem (by omega)]
theorem drop_ix {α:Type} [Inhabited α] (l:List α) (i:Int) (h0:0<=i) (h1:i<(l.length:Int)):l.drop i.toNat=ix l i::l.drop (i+1).toNat:=by
 rw[ix_nat l i h0 h1,show(i+1).toNat=i.toNat+1 by omega]
 exact List.drop_eq_getElem_cons (by omega)
theorem kji {α:Type} (l m:List α) (h:l.length=m.length):rowOver l m l.length=m:=by
 simp[rowOver,h]
theorem k7d (a m:Int):∀k:Nat,(a%m)^k%m=a^k%m
 |0=>by simp
 |k+1=>by rw[Int.pow_succ,Int.pow_succ,Int.mul_emod,k7d a m k,Int.emod_emod_of_dvd _ (Int.dvd_refl _),<-Int.mul_emod]
abbrev U64 (n:Int):Prop:=0<=n/\n<18446744073709551616
abbrev By (l:List Int):Prop:=∀x∈l,0<=x/\x<256
abbrev Us (l:List Int):Prop:=∀x∈l,0<=x/\x<18446744073709551616
def dig:Nat->Int->List Int
 |0,_=>[]
 |k+1,n=>n%256::dig k (n/256)
def val:List Int->Int
 |[]=>0
 |x::r=>x+256*val r
@[simp] theorem kg:∀(k:Nat) (n:Int),(dig k n).length=k
 |0,_=>rfl
 |k+1,n=>by simp[dig,kg k]
theorem kjk (k:Nat):(256:Int)^(k+1)=256*256^k:=by rw[Int.pow_succ,Int.mul_comm]
theorem k7b (k:Nat):(0:Int)<256^k:=Int.pow_pos (by omega)
theorem k6y:∀(k:Nat) (n:Int),dig (k+1) n=dig k n++[n/256^k%256]
 |0,n=>by simp[dig]
 |k+1,n=>by
  show n%256::dig (k+1) (n/256)=n%256::dig k (n/256)++_
  rw[k6y k (n/256),kjk,Int.ediv_ediv_of_nonneg (by omega)]
  rfl
def len4 (n:Int):Int:=if n<0∨4294967295<n then 0 else n
theorem len4_in {n:Int} (h:0<=n/\n<=4294967295):len4 n=n:=if_neg (by omega)
def encL (l:List Int):List Int:=dig 4 (len4 l.length)++l.flatMap (dig 8)
def encB (l:List Int):List Int:=dig 4 (len4 l.length)++l
theorem k23 (l:List Int):(l.flatMap (dig 8)).length=8*l.length:=by
 induction l with
 |nil=>rfl
 |cons x r ih=>rw[List.flatMap_cons,List.length_append,ih,kg,List.length_cons];omega
@[simp] theorem ku (l:List Int):(encL l).length=4+8*l.length:=by rw[encL,List.length_append,k23,kg]
@[simp] theorem kn9 (l:List Int):(encB l).length=4+l.length:=by simp[encB]
theorem By.append {a b:List Int} (ha:By a) (hb:By b):By (a++b):=fun x hx=>(List.mem_append.1 hx).elim (ha x) (hb x)
theorem By.take {l:List Int} (h:By l) (n:Nat):By (l.take n):=fun x hx=>h x (List.mem_of_mem_take hx)
theorem By.drop {l:List Int} (h:By l) (n:Nat):By (l.drop n):=fun x hx=>h x (List.mem_of_mem_drop hx)
theorem By.us {l:List Int} (h:By l):Us l:=fun x hx=>by have:=h x hx;omega
end Go.Md
namespace Go.Md
open Go Go.Bv
def len64 (x:Int):Int:=if x=0 then 0 else(Nat.log2 x.toNat+1:Nat)
theorem k66 (x:Int) (k:Nat) (h:((2^k:Nat):Int)<=x):len64 (x/((2^k:Nat):Int))+k=len64 x:=by
 obtain⟨n,rfl⟩:=Int.eq_ofNat_of_zero_le (by have:=Nat.two_pow_pos k;omega:0<=x)
 have hp:0<2^k:=Nat.two_pow_pos k
 have hn:2^k<=n:=by omega
 have e:((n:Int)/((2^k:Nat):Int))=((n/2^k:Nat):Int):=(Int.natCast_ediv _ _).symm
 have h1:0<n/2^k:=Nat.div_pos hn hp
 unfold len64
 rw[e,if_neg (by omega),if_neg (by omega),Int.toNat_natCast,Int.toNat_natCast]
 have:Nat.log2 n=Nat.log2 (n/2^k)+k:=by
  rw[Nat.log2_eq_iff (by omega)]
  have a:=Nat.log2_self_le (n:=n/2^k) (by omega)
  have b:=Nat.lt_log2_self (n:=n/2^k)
  rw[Nat.le_div_iff_mul_le hp]at a
  rw[Nat.div_lt_iff_lt_mul hp]at b
  constructor
  ·rw[Nat.pow_add];exact a
  ·rw[show Nat.log2 (n/2^k)+k+1=Nat.log2 (n/2^k)+1+k by omega,Nat.pow_add];exact b
 omega
theorem kbo (y:Int) (h:0<y/\y<18446744073709551616):∃s:Nat,64-len64 y=(s:Int)/\s<=63/\9223372036854775808<=y*((2^s:Nat):Int)/\y*((2^s:Nat):Int)<18446744073709551616:=by
 obtain⟨n,rfl⟩:=Int.eq_ofNat_of_zero_le (by omega:0<=y)
 have l:Nat.log2 n<64:=(Nat.log2_lt (by omega)).2 (by omega)
 have a:=Nat.log2_self_le (n:=n) (by omega)
 have b:=Nat.lt_log2_self (n:=n)
 refine⟨63-Nat.log2 n,?_,by omega,?_,?_⟩
 ·unfold len64
  rw[if_neg (by omega),Int.toNat_natCast]
  omega
 ·have:2^63<=n*2^(63-Nat.log2 n):=by
   rw[show(63:Nat)=Nat.log2 n+(63-Nat.log2 n)by omega,Nat.pow_add,show Nat.log2 n+(63-Nat.log2 n)-Nat.log2 n=63-Nat.log2 n by omega]
   exact Nat.mul_le_mul_right _ a
  rw[<-Int.natCast_mul]
  generalize n*2^(63-Nat.log2 n)=m at *
  omega
 ·have:n*2^(63-Nat.log2 n)<2^64:=by
   rw[show(64:Nat)=Nat.log2 n+1+(63-Nat.log2 n)by omega,Nat.pow_add]
   exact Nat.mul_lt_mul_of_pos_right b (Nat.two_pow_pos _)
  rw[<-Int.natCast_mul]
  generalize n*2^(63-Nat.log2 n)=m at *
  omega
def tab8:ByteArray:=⟨#[0,1,2,2,3,3,3,3,4,4,4,4,4,4,4,4,5,5,5,5,5,5,5,5,5,5,5,5,5,5,5,5,6,6,6,6,6,6,6,6,6,6,6,6,6,6,6,6,6,6,6,6,6,6,6,6,6,6,6,6,6,6,6,6,7,7,7,7,7,7,7,7,7,7,7,7,7,7,7,7,7,7,7,7,7,7,7,7,7,7,7,7,7,7,7,7,7,7,7,7,7,7,7,7,7,7,7,7,7,7,7,7,7,7,7,7,7,7,7,7,7,7,7,7,7,7,7,7,8,8,8,8,8,8,8,8,8,8,8,8,8,8,8,8,8,8,8,8,8,8,8,8,8,8,8,8,8,8,8,8,8,8,8,8,8,8,8,8,8,8,8,8,8,8,8,8,8,8,8,8,8,8,8,8,8,8,8,8,8,8,8,8,8,8,8,8,8,8,8,8,8,8,8,8,8,8,8,8,8,8,8,8,8,8,8,8,8,8,8,8,8,8,8,8,8,8,8,8,8,8,8,8,8,8,8,8,8,8,8,8,8,8,8,8,8,8,8,8,8,8,8,8,8,8,8,8]⟩
theorem kmc:∀b:Nat,b<256->Cv.byteAt tab8 (b:Int)=len64 (b:Int):=by decide +kernel
theorem ki5 (x:Int) (h:0<=x/\x<256):Cv.byteAt tab8 x=len64 x:=by
 obtain⟨n,rfl⟩:=Int.eq_ofNat_of_zero_le h.1
 exact kmc n (by omega)
theorem kiz (x:Int) (h:0<=x/\x<256):0<=len64 x/\len64 x<=8:=by
 rw[<-ki5 x h]
 obtain⟨n,rfl⟩:=Int.eq_ofNat_of_zero_le h.1
 have:∀b:Nat,b<256->0<=Cv.byteAt tab8 (b:Int)/\Cv.byteAt tab8 (b:Int)<=8:=by decide +kernel
 exact this n (by omega)
theorem kkr:tab8.size=256:=by decide +kernel
end Go.Md
namespace Go.Md
open Go Go.Bv Go.Cv Go.Md Go.RowKit
section
variable {α β:Type}
def AllI (f:α->Bool) (l:List α) (i:Int):Prop:=0<=i/\i<=l.length/\∀x∈l.take i.toNat,f x=true
theorem AllI.start {f:α->Bool} {l:List α}:AllI f l 0:=⟨by omega,by omega,by simp⟩
theorem AllI.next [Inhabited α] {f:α->Bool} {l:List α} {i:Int} (h:AllI f l i) (hh:i<l.length) (hl:(l.length:Int)<=9223372036854775807) (hf:f (ix l i)=true):
  AllI f l (IntKind.i64.wrap (i+1))/\(l.length-IntKind.i64.wrap (i+1)).toNat<(l.length-i).toNat:=by
 obtain⟨g0,g1,g2⟩:=h
 rw[inc i l.length g0 hh hl]
 refine⟨⟨by omega,by omega,?_⟩,by omega⟩
 rw[ki l i g0 hh]
 intro x hx
 rcases List.mem_append.1 hx with hx|hx
 ·exact g2 x hx
 ·have:x=ix l i:=by simpa using hx
  rw[this];exact hf
theorem AllI.bad [Inhabited α] {f:α->Bool} {l:List α} {i:Int} (h:AllI f l i) (hh:i<l.length) (hf:f (ix l i)=false):l.all f=false:=
 List.all_eq_false.2 ⟨ix l i,Md.ix_mem l i h.1 hh,by simp[hf]⟩
theorem AllI.done {f:α->Bool} {l:List α} {i:Int} (h:AllI f l i) (hh:¬i<l.length):l.all f=true:=by
 obtain⟨g0,g1,g2⟩:=h
 rw[List.take_of_length_le (by omega)]at g2
 exact List.all_eq_true.2 g2
def FoldI (f:β->α->β) (z:β) (l:List α) (i:Int) (s:β):Prop:=0<=i/\i<=l.length/\s=(l.take i.toNat).foldl f z
theorem FoldI.start {f:β->α->β} {z:β} {l:List α}:FoldI f z l 0 z:=⟨by omega,by omega,by simp⟩
theorem FoldI.next [Inhabited α] {f:β->α->β} {z:β} {l:List α} {i:Int} {s s' :β} (h:FoldI f z l i s) (hh:i<l.length) (hl:(l.length:Int)<=9223372036854775807) (hs:s' =f s (ix l i)):
  FoldI f z l (IntKind.i64.wrap (i+1)) s'/\(l.length-IntKind.i64.wrap (i+1)).toNat<(l.length-i).toNat:=by
 obtain⟨g0,g1,g2⟩:=h
 rw[inc i l.length g0 hh hl]
 refine⟨⟨by omega,by omega,?_⟩,by omega⟩
 rw[ki l i g0 hh,List.foldl_append,<-g2,hs]
 rfl
theorem FoldI.done {f:β->α->β} {z:β} {l:List α} {i:Int} {s:β} (h:FoldI f z l i s) (hh:¬i<l.length):s=l.foldl f z:=by
 obtain⟨g0,g1,g2⟩:=h
 rwa [List.take_of_length_le (by omega)]at g2
def FlatI (f:α->List β) (z:List β) (l:List α) (i:Int) (s:List β):Prop:=0<=i/\i<=l.length/\s=z++(l.take i.toNat).flatMap f
theorem FlatI.start {f:α->List β} {z:List β} {l:List α}:FlatI f z l 0 z:=⟨by omega,by omega,by simp⟩
theorem FlatI.next [Inhabited α] {f:α->List β} {z:List β} {l:List α} {i:Int} {s s' :List β} (h:FlatI f z l i s) (hh:i<l.length) (hl:(l.length:Int)<=9223372036854775807) (hs:s' =s++f (ix l i)):
  FlatI f z l (IntKind.i64.wrap (i+1)) s'/\(l.length-IntKind.i64.wrap (i+1)).toNat<(l.length-i).toNat:=by
 obtain⟨g0,g1,g2⟩:=h
 rw[inc i l.length g0 hh hl]
 refine⟨⟨by omega,by omega,?_⟩,by omega⟩
 rw[ki l i g0 hh,List.flatMap_append,hs,g2]
 simp
theorem FlatI.done {f:α->List β} {z:List β} {l:List α} {i:Int} {s:List β} (h:FlatI f z l i s) (hh:¬i<l.length):s=z++l.flatMap f:=by
 obtain⟨g0,g1,g2⟩:=h
 rwa [List.take_of_length_le (by omega)]at g2
theorem FlatI.len {f:α->List β} {z:List β} {l:List α} {i:Int} {s:List β} (h:FlatI f z l i s) (k:Nat) (hk:∀x∈l,(f x).length<=k):s.length<=z.length+k*l.length:=by
 obtain⟨g0,g1,g2⟩:=h
 have key:∀(m:List α),(∀x∈m,(f x).length<=k)->(m.flatMap f).length<=k*m.length:=by
  intro m
  induction m with
  |nil=>simp
  |cons a m ih=>
   intro hm
   have h1:=ih (fun x hx=>hm x (by simp[hx]))
   have h2:=hm a (by simp)
   rw[List.flatMap_cons,List.length_append,List.length_cons,Nat.mul_add]
   omega
 have h1:=key (l.take i.toNat) (fun x hx=>hk x (List.mem_of_mem_take hx))
 have h2:k*(l.take i.toNat).length<=k*l.length:=Nat.mul_le_mul_left _ (by rw[List.length_take];omega)
 rw[g2,List.length_append]
 omega
def MapI (f:α->β) (l:List α) (i:Int) (s:List β):Prop:=0<=i/\i<=l.length/\s=(l.take i.toNat).map f
theorem MapI.start {f:α->β} {l:List α}:MapI f l 0 []:=⟨by omega,by omega,by simp⟩
theorem MapI.next [Inhabited α] {f:α->β} {l:List α} {i:Int} {s s' :List β} (h:MapI f l i s) (hh:i<l.length) (hl:(l.length:Int)<=9223372036854775807) (hs:s' =s++[f (ix l i)]):
  MapI f l (IntKind.i64.wrap (i+1)) s'/\(l.length-IntKind.i64.wrap (i+1)).toNat<(l.length-i).toNat:=by
 obtain⟨g0,g1,g2⟩:=h
 rw[inc i l.length g0 hh hl]
 refine⟨⟨by omega,by omega,?_⟩,by omega⟩
 rw[ki l i g0 hh,List.map_append,hs,g2]
 simp
theorem MapI.done {f:α->β} {l:List α} {i:Int} {s:List β} (h:MapI f l i s) (hh:¬i<l.length):s=l.map f:=by
 obtain⟨g0,g1,g2⟩:=h
 rwa [List.take_of_length_le (by omega)]at g2
theorem MapI.len {f:α->β} {l:List α} {i:Int} {s:List β} (h:MapI f l i s):s.length=i.toNat:=by
 obtain⟨g0,g1,g2⟩:=h
 rw[g2,List.length_map,List.length_take];omega
def EqI [Inhabited α] (f:α->α->Bool) (l m:List α) (i:Int):Prop:=0<=i/\i<=l.length/\∀j:Nat,(j:Int)<i->f (ix l j) (ix m j)=true
theorem EqI.start [Inhabited α] {f:α->α->Bool} {l m:List α}:EqI f l m 0:=⟨by omega,by omega,fun j hj=>by omega⟩
theorem EqI.next [Inhabited α] {f:α->α->Bool} {l m:List α} {i:Int} (h:EqI f l m i) (hh:i<l.length) (hl:(l.length:Int)<=9223372036854775807) (hf:f (ix l i) (ix m i)=true):
  EqI f l m (IntKind.i64.wrap (i+1))/\(l.length-IntKind.i64.wrap (i+1)).toNat<(l.length-i).toNat:=by
 obtain⟨g0,g1,g2⟩:=h
 rw[inc i l.length g0 hh hl]
 refine⟨⟨by omega,by omega,fun j hj=> ?_⟩,by omega⟩
 by_cases hji:(j:Int)=i
 ·rw[hji];exact hf
 ·exact g2 j (by omega)
def eqB (f:α->α->Bool):List α->List α->Bool
 |[],[]=>true
 |a::l,b::m=>f a b&&eqB f l m
 |_,_=>false
theorem eqB_iff [Inhabited α] {f:α->α->Bool}:∀{l m:List α},eqB f l m=true↔l.length=m.length/\∀j:Nat,j<l.length->f (ix l (j:Int)) (ix m (j:Int))=true
 |[],[]=>by simp[eqB]
 |[],_::_=>by simp[eqB]
 |_::_,[]=>by simp[eqB]
 |a::l,b::m=>by
  have e:∀(a:α) (l:List α) (j:Nat),j<l.length->ix (a::l) ((j+1:Nat):Int)=ix l (j:Int):=by
   intro a l j hj
   rw[ix_nat _ _ (by omega) (by simp;omega),ix_nat _ _ (by omega) (by omega)]
   rfl
  have e0:∀(a:α) (l:List α),ix (a::l) ((0:Nat):Int)=a:=fun a l=>by rw[ix_nat _ _ (by omega) (by simp)];rfl
  simp only[eqB,Bool.and_eq_true,eqB_iff,List.length_cons]
  constructor
  ·rintro ⟨h1,h2,h3⟩
   refine⟨by omega,fun j hj=> ?_⟩
   cases j with
   |zero=>rw[e0,e0];exact h1
   |succ j=>rw[e a l j (by omega),e b m j (by omega)];exact h3 j (by omega)
  ·rintro ⟨h1,h2⟩
   have h3:=h2 0 (by omega)
   rw[e0,e0]at h3
   refine⟨h3,by omega,fun j hj=> ?_⟩
   have:=h2 (j+1) (by omega)
   rwa [e a l j (by omega),e b m j (by omega)]at this
theorem EqI.bad [Inhabited α] {f:α->α->Bool} {l m:List α} {i:Int} (h:EqI f l m i) (hh:i<l.length) (hf:f (ix l i) (ix m i)=false):eqB f l m=false:=by
 cases hq:eqB f l m with
 |false=>rfl
 |true=>
  have h0:=h.1
  have:=(eqB_iff.1 hq).2 i.toNat (by omega)
  rw[Int.toNat_of_nonneg h.1,hf]at this
  cases this
theorem EqI.done [Inhabited α] {f:α->α->Bool} {l m:List α} {i:Int} (h:EqI f l m i) (hlm:l.length=m.length) (hh:¬i<l.length):eqB f l m=true:=
 eqB_iff.2 ⟨hlm,fun j hj=>h.2.2 j (by omega)⟩
end
@[simp] theorem kne {α:Type} (p:α->Bool):mHas p []=false:=rfl
@[simp] theorem knd {α β:Type} (p:α->Bool) (z:β) (vs:List β):mVal p [] vs z=z:=rfl
theorem khv (a:Int) (h:0<=a/\a<4611686018427387904):iand .i64 a 1=a%2:=by
 obtain⟨n,rfl⟩:=Int.eq_ofNat_of_zero_le h.1
 unfold iand
 have e1:(BitVec.ofInt IntKind.i64.bits (n:Int)).toNat=n:=k2u n (by omega)
 have e2:(BitVec.ofInt IntKind.i64.bits (1:Int)).toNat=1:=k2u 1 (by omega)
 rw[BitVec.toNat_and,e1,e2,Nat.and_one_is_mod]
 rw[wi _ (by omega) (by omega)]
 omega
end Go.Md
namespace Go.Proofs.YtlfcebhnjkcmnaaGreat
open Go Go.Bv Go.Cv Go.Md Go.RowKit
open Go.IntKind (i64 u64)
def rc (r i:Int):Int:=(3*r+i+1)*11400714819323198485%18446744073709551616%18446744069414584321
def mixS (s:wAA):wAA:=⟨(s.a0+((s.a0+s.a1)%18446744069414584321+s.a2)%18446744069414584321)%18446744069414584321,(s.a1+((s.a0+s.a1)%18446744069414584321+s.a2)%18446744069414584321)%18446744069414584321,(s.a2+((s.a0+s.a1)%18446744069414584321+s.a2)%18446744069414584321)%18446744069414584321⟩
def pw (a e:Int):Int:=a^e.toNat%18446744069414584321
def rnd (s:wAA) (r:Int):wAA:=mixS ⟨pw ((s.a0+rc r 0)%18446744069414584321) 7,pw ((s.a1+rc r 1)%18446744069414584321) 7,pw ((s.a2+rc r 2)%18446744069414584321) 7⟩
def rnds:Nat->wAA->wAA
 |0,s=>s
 |n+1,s=>rnd (rnds n s) n
def permS (s:wAA):wAA:=rnds 8 s
def absL:List Int->wAA->wAA
 |[],s=>s
 |[x],s=>permS ⟨(s.a0+x)%18446744069414584321,s.a1,s.a2⟩
 |x::y::r,s=>absL r (permS ⟨(s.a0+x)%18446744069414584321,(s.a1+y)%18446744069414584321,s.a2⟩)
def absI (label:Int) (l:List Int):wAA:=⟨0,0,(label*65536%18446744069414584321+(l.length:Int))%18446744069414584321⟩
def absS (label:Int) (l:List Int):wAA:=if l=[]then permS (absI label l)else absL l (absI label l)
def hashS (label:Int) (l:List Int):Int:=(absS label l).a0
def S3 (s:wAA):Prop:=U64 s.a0/\U64 s.a1/\U64 s.a2
theorem S3m {a b c:Int} (ha:U64 a) (hb:U64 b) (hc:U64 c):S3 ⟨a,b,c⟩:=⟨ha,hb,hc⟩
theorem k1z (s:wAA):S3 (permS s):=by
 show S3 (rnd _ _)
 unfold rnd mixS S3
 dsimp only
 omega
theorem kc9:∀(l:List Int) (s:wAA),S3 s->S3 (absL l s)
 |[],_,h=>h
 |[_],_,_=>k1z _
 |_::_::r,_,_=>kc9 r _ (k1z _)
theorem k3v (label:Int) (l:List Int):U64 (hashS label l):=by
 unfold hashS absS
 split
 ·exact(k1z _).1
 ·rename_i h
  match l,h with
  |[_],_=>exact(k1z _).1
  |_::_::r,_=>exact(kc9 r _ (k1z _)).1
theorem kb9 (s:wAA):(permS s).a0<18446744069414584321:=by
 show(rnd _ _).a0<_
 unfold rnd mixS
 dsimp only
 omega
theorem absL_lt:∀(l:List Int) (s:wAA),l≠[]->(absL l s).a0<18446744069414584321
 |[],_,h=>(h rfl).elim
 |[_],_,_=>kb9 _
 |[_,_],_,_=>kb9 _
 |_::_::x::r,s,_=>absL_lt (x::r) _ (by simp)
theorem k4q (label:Int) (l:List Int):hashS label l<18446744069414584321:=by
 unfold hashS absS
 split
 ·exact kb9 _
 ·rename_i h;exact absL_lt _ _ h
def idxI (l:List Int) (v:Int):Int:=if v∈l then(l.idxOf v:Int)else -1
def vMarks (l:List Int):Bool:=decide (l.length<=4)&&l.all (fun x=>decide (x<18446744069414584321))&&decide l.Nodup
def vPoint (a b:Int):Bool:=decide (a<18446744069414584321)&&(decide (b<18446744069414584321)&&(a !=0||b !=0))
def vOut (x:wAR):Bool:=decide (x.wn<18446744069414584321)&&vPoint x.wAI x.wAJ&&decide (x.wv.length=3)&&x.wv.all (fun n=>decide (n<18446744069414584321))
def vOuts (l:List wAR):Bool:=decide (l.length<=4)&&l.all vOut
def vAmounts (t:wo):Bool:=decide (t.wM<=4294967295)&&decide (t.wQ<=4294967295)&&decide (t.Fee<=4294967295)&&decide (t.wZ<18446744069414584321)&&decide (t.wL<18446744069414584321)&&
 (if 0<t.wM then t.wQ==0 else !t.wC.isEmpty&&t.wL==0&&(decide (0<t.wQ)||t.wZ==0))
def vRest (t:wo):Bool:=decide (t.wAE<18446744069414584321)&&decide (0<=t.wAC)&&decide (t.wAC<=1048576)
def validE (t:wo):Int:=if vMarks t.wC&&vOuts t.wH&&vAmounts t&&vRest t then(if t.wAP.length<=1048576 then 0 else 3)else 1
theorem k1r (t:wo):vAmounts t=true↔t.wM<=4294967295/\t.wQ<=4294967295/\t.Fee<=4294967295/\t.wZ<18446744069414584321/\t.wL<18446744069414584321/\(0<t.wM->t.wQ=0)/\(¬0<t.wM->t.wC≠[]/\t.wL=0/\(0<t.wQ∨t.wZ=0)):=by
 unfold vAmounts
 by_cases h:0<t.wM
 ·simp[h,and_assoc]
 ·simp[h,and_assoc]
structure OR (x:wAR):Prop where
 c:U64 x.wn
 p0:U64 x.wAI
 p1:U64 x.wAJ
 ci:Us x.wv
structure TR (t:wo):Prop where
 a:U64 t.wAE
 m:Us t.wC
 o:∀x∈t.wH,OR x
 d:U64 t.wM
 w:U64 t.wQ
 f:U64 t.Fee
 ac:U64 t.wZ
 n:U64 t.wL
 e: -9223372036854775808<=t.wAC/\t.wAC<=9223372036854775807
 p:By t.wAP
def encO (x:wAR):List Int:=dig 8 x.wn++dig 8 x.wAI++dig 8 x.wAJ++encL x.wv
def encT (t:wo) (p:List Int):List Int:=dig 8 t.wAE++encL t.wC++dig 4 (len4 t.wH.length)++t.wH.flatMap encO++dig 8 t.wM++dig 8 t.wQ++dig 8 t.Fee++dig 8 t.wZ++dig 8 t.wL++dig 4 (len4 t.wAC)++encB p
def weightS (t:wo):Int:=if validE t=0 then(encT t t.wAP).length else 0
def smallB (t:wo) (p:Int):Bool:=decide (t.wC.length<=10)&&decide (t.wH.length<=10)&&t.wH.all (fun x=>decide (x.wv.length<=10))&&decide ((t.wAP.length:Int)<=p)
structure TL (t:wo):Prop where
 m:t.wC.length<=4294967295
 o:t.wH.length<=4294967295
 c:∀x∈t.wH,x.wv.length<=4294967295
 p:t.wAP.length<=4294967295
structure VO (x:wAR):Prop where
 c:x.wn<18446744069414584321
 p:vPoint x.wAI x.wAJ=true
 l:x.wv.length=3
 ci:∀n∈x.wv,n<18446744069414584321
theorem k4s (x:wAR):vOut x=true↔VO x:=by
 unfold vOut
 simp only[Bool.and_eq_true,decide_eq_true_eq,List.all_eq_true]
 exact⟨fun h=>⟨h.1.1.1,h.1.1.2,h.1.2,h.2⟩,fun h=>⟨⟨⟨h.c,h.p⟩,h.l⟩,h.ci⟩⟩
structure VT (t:wo):Prop where
 ml:t.wC.length<=4
 m:∀x∈t.wC,x<18446744069414584321
 mn:t.wC.Nodup
 ol:t.wH.length<=4
 o:∀x∈t.wH,VO x
 am:vAmounts t=true
 re:vRest t=true
 pl:t.wAP.length<=1048576
theorem k1n (t:wo):validE t=0↔VT t:=by
 unfold validE
 constructor
 ·intro h
  split at h
  ·rename_i h1
   split at h
   ·rename_i h2
    simp only[Bool.and_eq_true,vMarks,vOuts,decide_eq_true_eq,List.all_eq_true]at h1
    exact⟨h1.1.1.1.1.1,h1.1.1.1.1.2,h1.1.1.1.2,h1.1.1.2.1,fun x hx=>(k4s x).1 (h1.1.1.2.2 x hx),h1.1.2,h1.2,h2⟩
   ·simp at h
  ·simp at h
 ·intro h
  have:(vMarks t.wC&&vOuts t.wH&&vAmounts t&&vRest t)=true:=by
   simp only[Bool.and_eq_true,vMarks,vOuts,decide_eq_true_eq,List.all_eq_true]
   exact⟨⟨⟨⟨⟨h.ml,h.m⟩,h.mn⟩,h.ol,fun x hx=>(k4s x).2 (h.o x hx)⟩,h.am⟩,h.re⟩
  rw[if_pos this,if_pos h.pl]
theorem VT.tl {t:wo} (h:VT t):TL t:=⟨by have:=h.ml;omega,by have:=h.ol;omega,fun x hx=>by have:=(h.o x hx).l;omega,by have:=h.pl;omega⟩
theorem ki8 {t:wo} {p:Int} (h:smallB t p=true) (hp:p<=1048576:=by omega):TL t:=by
 unfold smallB at h
 simp only[Bool.and_eq_true,decide_eq_true_eq,List.all_eq_true]at h
 exact⟨by omega,by omega,fun x hx=>by have:=h.1.2 x hx;omega,by omega⟩
structure RD where
 n:Int
 ok:Bool
 pos:Int
 fail:Bool
structure RL where
 l:List Int
 pos:Int
 fail:Bool
structure RdOk (b:List Int) (pos:Int):Prop where
 by_:By b
 len:b.length<=137438953472
 pos0:0<=pos
 pos1:pos<=b.length
def rdD (b:List Int) (pos:Int) (f:Bool) (size:Int):RD:=
 if f=true∨(b.length:Int)-pos<size then⟨0,false,pos,true⟩else⟨val ((b.drop pos.toNat).take size.toNat),true,pos+size,false⟩
def rdI (b:List Int) (pos:Int) (f:Bool) (m:Int):RD:=
 if(rdD b pos f 4).ok=false∨m<(rdD b pos f 4).n then⟨0,false,(rdD b pos f 4).pos,true⟩else rdD b pos f 4
def rdB (b:List Int) (pos:Int) (f:Bool) (m:Int):RL:=
 if(rdI b pos f m).fail=true∨(b.length:Int)-(rdI b pos f m).pos<(rdI b pos f m).n then⟨[],(rdI b pos f m).pos,true⟩else⟨(b.take ((rdI b pos f m).pos+(rdI b pos f m).n).toNat).drop (rdI b pos f m).pos.toNat,(rdI b pos f m).pos+(rdI b pos f m).n,false⟩
def nums:Nat->List Int->List Int
 |0,_=>[]
 |k+1,b=>val (b.take 8)::nums k (b.drop 8)
@[simp] theorem kis:∀(k:Nat) (b:List Int),(nums k b).length=k
 |0,_=>rfl
 |k+1,b=>by simp[nums,kis k]
section
variable {b:List Int} {pos m p:Int} {f:Bool}
end
structure Enc (t:wo) (b:List Int):Prop where
 r:TR t
 v:VT t
 e:encT t t.wAP=b
open Classical in
theorem Enc.us {t:wo} {b:List Int} (h:Enc t b):t.wAE<=18446744069414584320/\t.wM<=4294967295/\t.wQ<=4294967295/\t.Fee<=4294967295/\t.wZ<=18446744069414584320/\t.wL<=18446744069414584320/\0<=t.wAC/\t.wAC<=1048576:=by
 have h1:=(k1r t).1 h.v.am
 have h2:=h.v.re
 unfold vRest at h2
 simp only[Bool.and_eq_true,decide_eq_true_eq]at h2
 omega
theorem VO.us {x:wAR} (h:VO x):x.wn<=18446744069414584320/\x.wAI<=18446744069414584320/\x.wAJ<=18446744069414584320:=by
 have h1:=h.c
 have h2:=h.p
 unfold vPoint at h2
 simp only[Bool.and_eq_true,decide_eq_true_eq]at h2
 omega
structure TD (t:wo):Prop where
 r:TR t
 l:TL t
 o:t.wH.length<=1048576
 c:∀x∈t.wH,x.wv.length<=1024
def sameT (a b:wo):Bool:=decide (a.wH.length=b.wH.length)&&a.wAC==b.wAC&&decide (a.wH.map (·.wv.length)=b.wH.map (·.wv.length))&&decide (encT a a.wAP=encT b b.wAP)
@[simp] theorem knb (a:wo):sameT a a=true:=by simp[sameT]
structure TK where
 n:Int
 r:List Int
 ok:Bool
structure TKL where
 l:List Int
 r:List Int
 ok:Bool
section
variable {b r:List Int} {n m:Int}
end
structure RB where
 l:List Int
 b:List Int
 f:Bool
structure RN where
 n:Int
 b:List Int
 f:Bool
def tkB (b:List Int) (f:Bool) (k:Int):RB:=if f=true∨(b.length:Int)<k then⟨[],b,true⟩else⟨b.take k.toNat,b.drop k.toNat,false⟩
section
variable {b r:List Int} {f:Bool} {k m n:Int}
end
def sumW (l:List wo):Int:=(l.map weightS).sum
structure BR (b:wV):Prop where
 p:U64 b.wAW
 m:U64 b.wAM
 w:U64 b.wh
 n:U64 b.wL
 h: -9223372036854775808<=b.wS/\b.wS<=9223372036854775807
 t:∀x∈b.Txs,TR x
structure VB0 (b:wV):Prop where
 h0:1<=b.wS
 h1:b.wS<=1048576
 w0:1<=b.wh
 w1:b.wh<=65536
 p:b.wAW<18446744069414584321
 m:b.wAM<18446744069414584321
 l:b.Txs.length<=64
structure VB (b:wV):Prop where
 h:VB0 b
 t:∀x∈b.Txs,validE x=0
 s:sumW b.Txs<=2097152
def hdrS (b:wV):List Int:=dig 8 b.wAW++dig 4 (len4 b.wS)++dig 8 b.wAM++dig 8 b.wh++dig 8 b.wL++dig 4 (len4 (b.Txs.length:Int))
@[simp] theorem kna (b:wV):(hdrS b).length=40:=by simp[hdrS]
def encTx (t:wo):List Int:=encB (encT t t.wAP)
def encBk (b:wV):List Int:=hdrS b++b.Txs.flatMap encTx
structure MN where
 b:wV
 ok:Bool
theorem VT.bl {t:wo} (h:VT t) (r:TR t):TR t/\TL t/\t.wH.length<=1048576/\∀x∈t.wH,x.wv.length<=1024:=⟨r,h.tl,by have:=h.ol;omega,fun x hx=>by have:=(h.o x hx).l;omega⟩
structure EB (x:wV) (b:List Int):Prop where
 r:BR x
 v:VB x
 e:encBk x=b
open Classical in
theorem VB.vt {x:wV} (h:VB x) {t:wo} (ht:t∈x.Txs):VT t:=(k1n t).1 (h.t t ht)
end Go.Proofs.YtlfcebhnjkcmnaaGreat
namespace Go.Md
open Go Go.Bv Go.Cv Go.Md Go.RowKit
abbrev swpL (g:List Int) (i j:Int):List Int:=(g.set i.toNat (ix g j)).set j.toNat (ix g i)
theorem k7h {g:List Int} {i j:Int}:(swpL g i j).length=g.length:=by simp[swpL]
section
variable {g:List Int} {a b i j:Int} {d:Array Int}
theorem arrN {n:Nat} (h:n<g.length):g.toArray[n]! =ix g (n:Int):=by
 rw[ix_nat g _ (by omega) (by omega),getElem!_pos g.toArray n (by simpa using h)]
 simp
theorem arr_ix (h0:0<=i) (h1:i<g.length):g.toArray[i.toNat]! =ix g i:=by
 rw[arrN (by omega),show((i.toNat:Nat):Int)=i by omega]
theorem swpN {i j:Nat} (hi:i<g.length) (hj:j<g.length):Sort.swp g.toArray i j=(swpL g i j).toArray:=by
 unfold Sort.swp
 rw[arrN hi,arrN hj]
 simp[swpL]
theorem swp_arr (hi0:0<=i) (hi:i<g.length) (hj0:0<=j) (hj:j<g.length):Sort.swp g.toArray i.toNat j.toNat=(swpL g i j).toArray:=by
 rw[swpN (by omega) (by omega),show((i.toNat:Nat):Int)=i by omega,show((j.toNat:Nat):Int)=j by omega]
theorem ltI_iff {x y:Int}:Sort.ltInt x y=decide (x<y):=rfl
theorem kiy (hi:0<=i) (h:i<b):Sort.insOuter Sort.ltInt a.toNat b.toNat i.toNat d=Sort.insOuter Sort.ltInt a.toNat b.toNat (i+1).toNat (Sort.insInner Sort.ltInt a.toNat i.toNat d):=by
 rw[Sort.insOuter,if_pos (by omega),show(i+1).toNat=i.toNat+1 by omega]
theorem kg7 (hi:0<=i) (h:¬i<b):Sort.insOuter Sort.ltInt a.toNat b.toNat i.toNat d=d:=by
 rw[Sort.insOuter,if_neg (by omega)]
theorem kj3 (ha:0<=a) (hj:a<j) (hl:j<g.length):Sort.insInner Sort.ltInt a.toNat j.toNat g.toArray=if ix g j<ix g (j-1)then Sort.insInner Sort.ltInt a.toNat (j-1).toNat (swpL g j (j-1)).toArray else g.toArray:=by
 have e1:j.toNat=(j-1).toNat+1:=by omega
 have hs:=swp_arr (g:=g) (i:=j) (j:=j-1) (by omega) hl (by omega) (by omega)
 have x1:=arr_ix (g:=g) (i:=j) (by omega) hl
 have x2:=arr_ix (g:=g) (i:=j-1) (by omega) (by omega)
 generalize (j-1).toNat=m at *
 rw[e1]at hs x1 ⊢
 rw[Sort.insInner,x1,x2,hs]
 have:m+1>a.toNat:=by omega
 simp only[this,decide_true,Bool.true_and,ltI_iff,decide_eq_true_eq]
theorem kgn (h:¬a<j):Sort.insInner Sort.ltInt a.toNat j.toNat d=d:=by
 have h2:¬j.toNat>a.toNat:=by omega
 generalize j.toNat=n at *
 cases n with
 |zero=>rfl
 |succ n=>rw[Sort.insInner,if_neg (by simp;omega)]
def chS (g:List Int) (hi first root:Int):Int:=if 2*root+2<hi/\ix g (first+(2*root+1))<ix g (first+(2*root+1)+1)then 2*root+2 else 2*root+1
theorem chS_rng {hi first root:Int} (hh:2*root+1<hi):2*root+1<=chS g hi first root/\chS g hi first root<=2*root+2/\chS g hi first root<hi:=by
 unfold chS
 split
 ·omega
 ·omega
theorem khe {hi first root:Int} (h0:0<=root) (h:hi<=2*root+1):Sort.siftDown Sort.ltInt hi.toNat first.toNat root.toNat d=d:=by
 rw[Sort.siftDown,dif_pos (by omega)]
theorem kjh {hi first root:Int} (h0:0<=root) (h1:0<=first) (hh:2*root+1<hi) (hl:first+hi<=g.length):Sort.siftDown Sort.ltInt hi.toNat first.toNat root.toNat g.toArray=
  if ix g (first+root)<ix g (first+chS g hi first root)then Sort.siftDown Sort.ltInt hi.toNat first.toNat (chS g hi first root).toNat (swpL g (first+root) (first+chS g hi first root)).toArray else g.toArray:=by
 obtain⟨r,rfl⟩:=Int.eq_ofNat_of_zero_le h0
 obtain⟨f,rfl⟩:=Int.eq_ofNat_of_zero_le h1
 obtain⟨n,rfl⟩:=Int.eq_ofNat_of_zero_le (show 0<=hi by omega)
 simp only[Int.toNat_natCast]
 have x1:g.toArray[f+(2*r+1)]! =ix g ((f:Int)+(2*r+1)):=by rw[arrN (by omega)];congr 1
 have x0:g.toArray[f+r]! =ix g ((f:Int)+r):=by rw[arrN (by omega)];congr 1
 by_cases hc:2*(r:Int)+2<n/\ix g ((f:Int)+(2*r+1))<ix g ((f:Int)+(2*r+1)+1)
 ·have x2:g.toArray[f+(2*r+1)+1]! =ix g ((f:Int)+(2*r+1)+1):=by rw[arrN (by omega)];congr 1
  have x3:g.toArray[f+(2*r+2)]! =ix g ((f:Int)+(2*r+2)):=by rw[arrN (by omega)];congr 1
  have ec:chS g n f r=2*(r:Int)+2:=by unfold chS;rw[if_pos hc]
  have hs:Sort.swp g.toArray (f+r) (f+(2*r+2))=(swpL g ((f:Int)+r) ((f:Int)+(2*r+2))).toArray:=by rw[swpN (by omega) (by omega)];congr 2
  have et:(2*(r:Int)+2).toNat=2*r+2:=by omega
  rw[Sort.siftDown,dif_neg (by omega),if_pos,ec,x0,x3,hs,dif_pos (by omega),et]
  ·simp only[ltI_iff,Bool.not_eq_true',decide_eq_false_iff_not]
   split<;>first|rfl|(rename_i h;first|rw[if_neg h]|rw[if_pos (Decidable.not_not.1 h)])
  ·rw[x1,x2,ltI_iff,decide_eq_true hc.2,decide_eq_true (show 2*r+1+1<n by omega)];rfl
 ·have ec:chS g n f r=2*(r:Int)+1:=by unfold chS;rw[if_neg hc]
  have hs:Sort.swp g.toArray (f+r) (f+(2*r+1))=(swpL g ((f:Int)+r) ((f:Int)+(2*r+1))).toArray:=by rw[swpN (by omega) (by omega)];congr 2
  have et:(2*(r:Int)+1).toNat=2*r+1:=by omega
  rw[Sort.siftDown,dif_neg (by omega),if_neg,ec,x0,x1,hs,et]
  ·simp only[ltI_iff,Bool.not_eq_true',decide_eq_false_iff_not]
   split<;>first|rfl|(rename_i h;first|rw[if_neg h]|rw[if_pos (Decidable.not_not.1 h)])
  ·intro h
   rw[Bool.and_eq_true,decide_eq_true_eq]at h
   have x2:g.toArray[f+(2*r+1)+1]! =ix g ((f:Int)+(2*r+1)+1):=by rw[arrN (by omega)];congr 1
   rw[x1,x2,ltI_iff,decide_eq_true_eq]at h
   exact hc ⟨by omega,h.2⟩
theorem kg2 (hi first:Nat):∀(n root:Nat) (d:Array Int),hi-root<=n->(Sort.siftDown Sort.ltInt hi first root d).size=d.size:=by
 intro n
 induction n with
 |zero=>
  intro root d h
  rw[Sort.siftDown,dif_pos (by omega)]
 |succ n ih=>
  intro root d h
  rw[Sort.siftDown]
  split
  ·rfl
  ·split
   ·split
    ·rfl
    ·split
     ·rw[ih _ _ (by omega)];exact Sort.size_swp _ _ _
     ·rfl
   ·split
    ·rfl
    ·rw[ih _ _ (by omega)];exact Sort.size_swp _ _ _
theorem kic {hi first:Nat} (h:0<=i):Sort.heapBuild Sort.ltInt hi first (i+1).toNat d=Sort.heapBuild Sort.ltInt hi first i.toNat (Sort.siftDown Sort.ltInt hi first i.toNat d):=by
 rw[show(i+1).toNat=i.toNat+1 by omega,Sort.heapBuild]
theorem kkg {first:Nat} (h:0<=i):Sort.heapPop Sort.ltInt first (i+1).toNat d=Sort.heapPop Sort.ltInt first i.toNat (Sort.siftDown Sort.ltInt i.toNat first 0 (Sort.swp d first (first+i.toNat))):=by
 rw[show(i+1).toNat=i.toNat+1 by omega,Sort.heapPop]
theorem k87 {p:Int->Bool} (h0:0<=i) (h:i<=j):Sort.scanUp p d j.toNat i.toNat=if p d[i.toNat]! =true then Sort.scanUp p d j.toNat (i+1).toNat else i.toNat:=by
 rw[Sort.scanUp,show(i+1).toNat=i.toNat+1 by omega]
 simp only[decide_eq_true (show i.toNat<=j.toNat by omega),Bool.true_and]
theorem k7j {p:Int->Bool} (h0:1<=i) (h:¬i<=j):Sort.scanUp p d j.toNat i.toNat=i.toNat:=by
 rw[Sort.scanUp]
 simp only[decide_eq_false (show¬i.toNat<=j.toNat by omega),Bool.false_and]
 rfl
theorem k61 {p:Int->Bool} (h0:1<=i) (h:i<=j):Sort.scanDown p d i.toNat j.toNat=if p d[j.toNat]! =true then Sort.scanDown p d i.toNat (j-1).toNat else j.toNat:=by
 have e1:j.toNat=(j-1).toNat+1:=by omega
 have e2:i.toNat<=j.toNat:=by omega
 generalize (j-1).toNat=m at *
 rw[e1]at e2 ⊢
 rw[Sort.scanDown]
 simp only[decide_eq_true e2,Bool.true_and]
theorem k59 {p:Int->Bool} (h0:1<=i) (h:¬i<=j):Sort.scanDown p d i.toNat j.toNat=j.toNat:=by
 have e2:¬i.toNat<=j.toNat:=by omega
 generalize j.toNat=m at *
 cases m with
 |zero=>rfl
 |succ m=>
  rw[Sort.scanDown]
  simp only[decide_eq_false e2,Bool.false_and]
  rfl
theorem kfq (h0:1<=i) (h:i<b) (hl:b<=g.length):Sort.scanSorted Sort.ltInt g.toArray b.toNat i.toNat=if ix g i<ix g (i-1)then i.toNat else Sort.scanSorted Sort.ltInt g.toArray b.toNat (i+1).toNat:=by
 have x1:=arr_ix (g:=g) (i:=i) (by omega) (by omega)
 have x2:=arr_ix (g:=g) (i:=i-1) (by omega) (by omega)
 rw[Sort.scanSorted,show(i+1).toNat=i.toNat+1 by omega,x1,show i.toNat-1=(i-1).toNat by omega,x2]
 simp only[decide_eq_true (show i.toNat<b.toNat by omega),Bool.true_and,ltI_iff,Bool.not_eq_true',decide_eq_false_iff_not]
 split<;>first|rfl|(rename_i h;first|rw[if_neg h]|rw[if_pos (Decidable.not_not.1 h)])
theorem kdn (h0:0<=i) (h:¬i<b):Sort.scanSorted Sort.ltInt d b.toNat i.toNat=i.toNat:=by
 rw[Sort.scanSorted]
 simp only[decide_eq_false (show¬i.toNat<b.toNat by omega),Bool.false_and]
 rfl
theorem khi (h:1<=j) (hl:j<g.length):Sort.shiftDown Sort.ltInt j.toNat g.toArray=if ix g j<ix g (j-1)then Sort.shiftDown Sort.ltInt (j-1).toNat (swpL g j (j-1)).toArray else g.toArray:=by
 have e1:j.toNat=(j-1).toNat+1:=by omega
 have hs:=swp_arr (g:=g) (i:=j) (j:=j-1) (by omega) hl (by omega) (by omega)
 have x1:=arr_ix (g:=g) (i:=j) (by omega) hl
 have x2:=arr_ix (g:=g) (i:=j-1) (by omega) (by omega)
 generalize (j-1).toNat=m at *
 rw[e1]at hs x1 ⊢
 rw[Sort.shiftDown,x1,x2,hs]
 simp only[ltI_iff,Bool.not_eq_true',decide_eq_false_iff_not]
 split<;>first|rfl|(rename_i h;first|rw[if_neg h]|rw[if_pos (Decidable.not_not.1 h)])
theorem kfj (h:¬1<=j):Sort.shiftDown Sort.ltInt j.toNat d=d:=by
 rw[show j.toNat=0 by omega,Sort.shiftDown]
theorem kkb (h0:1<=j) (h:j<b) (hl:b<=g.length):Sort.shiftUp Sort.ltInt b.toNat j.toNat g.toArray=if ix g j<ix g (j-1)then Sort.shiftUp Sort.ltInt b.toNat (j+1).toNat (swpL g j (j-1)).toArray else g.toArray:=by
 have hs:=swp_arr (g:=g) (i:=j) (j:=j-1) (by omega) (by omega) (by omega) (by omega)
 have x1:=arr_ix (g:=g) (i:=j) (by omega) (by omega)
 have x2:=arr_ix (g:=g) (i:=j-1) (by omega) (by omega)
 rw[Sort.shiftUp,if_pos (by omega),show(j+1).toNat=j.toNat+1 by omega,x1,show j.toNat-1=(j-1).toNat by omega,x2,hs]
 simp only[ltI_iff,Bool.not_eq_true',decide_eq_false_iff_not]
 split<;>first|rfl|(rename_i h;first|rw[if_neg h]|rw[if_pos (Decidable.not_not.1 h)])
theorem kil (h0:0<=j) (h:¬j<b):Sort.shiftUp Sort.ltInt b.toNat j.toNat d=d:=by
 rw[Sort.shiftUp,if_neg (by omega)]
theorem kdf (h0:0<=i) (h:i<j) (hl:j<g.length):Sort.reverseLoop i.toNat j.toNat g.toArray=Sort.reverseLoop (i+1).toNat (j-1).toNat (swpL g i j).toArray:=by
 rw[Sort.reverseLoop,if_pos (by omega),swp_arr (g:=g) h0 (by omega) (by omega) hl,show(i+1).toNat=i.toNat+1 by omega,show(j-1).toNat=j.toNat-1 by omega]
theorem kbx (h0:0<=i) (h:¬i<j):Sort.reverseLoop i.toNat j.toNat d=d:=by
 rw[Sort.reverseLoop,if_neg (by omega)]
end
def insS (g:List Int) (a b:Int):List Int:=(Sort.insertionSort Sort.ltInt g.toArray a.toNat b.toNat).toList
def sdS (g:List Int) (lo hi first:Int):List Int:=(Sort.siftDown Sort.ltInt hi.toNat first.toNat lo.toNat g.toArray).toList
def heapS (g:List Int) (a b:Int):List Int:=(Sort.heapSort Sort.ltInt g.toArray a.toNat b.toNat).toList
def revS (g:List Int) (a b:Int):List Int:=(Sort.reverseRange g.toArray a.toNat b.toNat).toList
def brkS (g:List Int) (a b:Int):List Int:=(Sort.breakPatterns g.toArray a.toNat b.toNat).toList
def pisS (g:List Int) (a b:Int):Array Int×Bool:=Sort.partialInsertionSort Sort.ltInt g.toArray a.toNat b.toNat
def partS (g:List Int) (a b p:Int):Nat×Bool×Array Int:=Sort.partition Sort.ltInt g.toArray a.toNat b.toNat p.toNat
def peqS (g:List Int) (a b p:Int):Nat×Array Int:=Sort.partitionEqual Sort.ltInt g.toArray a.toNat b.toNat p.toNat
def cpS (g:List Int) (a b:Int):Nat×Sort.Hint:=Sort.choosePivot Sort.ltInt g.toArray a.toNat b.toNat
def hintN:Sort.Hint->Int
 | .unknown=>0
 | .increasing=>1
 | .decreasing=>2
section
variable {g:List Int} {a b p:Int}
theorem kay (h0:0<=a) (h1:a<=b) (h2:b<=g.length):(insS g a b).length=g.length:=by
 have:=(Sort.insertionSort_holds (lt:=Sort.ltInt) Sort.swo_ltInt g.toArray a.toNat b.toNat (by omega) (by simp;omega)).1.1
 simpa[insS]using this
theorem cpS_rng (h0:0<=a) (h1:a<b):a<=(cpS g a b).1/\(cpS g a b).1<b:=by
 have:=Sort.choosePivot_holds Sort.ltInt g.toArray a.toNat b.toNat (by omega)
 unfold cpS
 omega
theorem sdS_len {lo hi first:Int}:(sdS g lo hi first).length=g.length:=by
 have:=kg2 hi.toNat first.toNat _ lo.toNat g.toArray (Nat.le_refl _)
 simpa[sdS]using this
end
theorem kh0 (a b:Nat) (ha:a<18446744073709551616) (hb:b<18446744073709551616):ixor .u64 a b=((a^^^b:Nat):Int):=by
 unfold ixor
 show IntKind.u64.wrap ((BitVec.ofInt 64 (a:Int)^^^BitVec.ofInt 64 (b:Int)).toNat:Int)=_
 rw[BitVec.ofInt_natCast,BitVec.ofInt_natCast,BitVec.toNat_xor,BitVec.toNat_ofNat,BitVec.toNat_ofNat,Nat.mod_eq_of_lt ha,Nat.mod_eq_of_lt hb]
 have:a^^^b<2^64:=Nat.xor_lt_two_pow ha hb
 exact wu _ (by omega) (by omega)
theorem xor_shl (r:UInt64) (k:Nat) (hk:k<64):ixor .u64 (r.toNat:Int) (ishl .u64 (r.toNat:Int) (k:Int))=((r^^^(r<<<(UInt64.ofNat k))).toNat:Int):=by
 have hr:=r.toNat_lt
 have e:ishl .u64 (r.toNat:Int) (k:Int)=((r.toNat<<<k%18446744073709551616:Nat):Int):=by
  unfold ishl
  rw[IntKind.wrap_u64,Nat.shiftLeft_eq]
  have:min (k:Int).toNat IntKind.u64.bits=k:=by show min (k:Int).toNat 64=k;omega
  rw[this,Int.natCast_emod,Int.natCast_mul,Int.natCast_pow]
  rfl
 rw[e,kh0 _ _ (by omega) (by omega),UInt64.toNat_xor,UInt64.toNat_shiftLeft]
 have:(UInt64.ofNat k).toNat%64=k:=by rw[UInt64.toNat_ofNat'];omega
 rw[this]
theorem xor_shr (r:UInt64) (k:Nat) (hk:k<64):ixor .u64 (r.toNat:Int) (ishr .u64 (r.toNat:Int) (k:Int))=((r^^^(r>>>(UInt64.ofNat k))).toNat:Int):=by
 have hr:=r.toNat_lt
 have e:ishr .u64 (r.toNat:Int) (k:Int)=((r.toNat>>>k:Nat):Int):=by
  unfold ishr
  have:min (k:Int).toNat IntKind.u64.bits=k:=by show min (k:Int).toNat 64=k;omega
  rw[this,Nat.shiftRight_eq_div_pow,Int.fdiv_eq_ediv_of_nonneg _ (by exact Int.le_of_lt (Int.pow_pos (by decide))),Int.natCast_ediv,Int.natCast_pow]
  rfl
 have hs:r.toNat>>>k<=r.toNat:=by rw[Nat.shiftRight_eq_div_pow];exact Nat.div_le_self _ _
 rw[e,kh0 _ _ (by omega) (by omega),UInt64.toNat_xor,UInt64.toNat_shiftRight]
 have:(UInt64.ofNat k).toNat%64=k:=by rw[UInt64.toNat_ofNat'];omega
 rw[this]
def xnI (s:Int):Int:=
 let a:=ixor .u64 s (ishl .u64 s 13)
 let b:=ixor .u64 a (ishr .u64 a 7)
 ixor .u64 b (ishl .u64 b 17)
theorem xnI_eq (r:UInt64):xnI (r.toNat:Int)=((Sort.xorNext r).toNat:Int):=by
 unfold xnI Sort.xorNext
 dsimp only
 have h1:=xor_shl r 13 (by decide)
 rw[show((13:Nat):Int)=13 from rfl]at h1
 rw[h1]
 have h2:=xor_shr (r^^^(r<<<(UInt64.ofNat 13))) 7 (by decide)
 rw[show((7:Nat):Int)=7 from rfl]at h2
 rw[h2]
 exact xor_shl _ 17 (by decide)
def brkL (a length modulus:Nat):Nat->UInt64×Array Int->Nat->Array Int
 |0,st,_=>st.2
 |k+1,st,idx=>brkL a length modulus k (Sort.breakStep a length modulus st idx) (idx+1)
theorem brkL_go (a len md k:Nat) (u:UInt64) (d:Array Int) (i:Nat):brkL a len md (k+1) (u,d) i=brkL a len md k (Sort.xorNext u,Sort.swp d i (a+(if(Sort.xorNext u).toNat&&&(md-1)≥len then((Sort.xorNext u).toNat&&&(md-1))-len else(Sort.xorNext u).toNat&&&(md-1)))) (i+1):=rfl
theorem brk_eq (d:Array Int) (a b:Nat) (h:8<=b-a):Sort.breakPatterns d a b=brkL a (b-a) (1<<<Sort.bitsLen (b-a)) 3 (UInt64.ofNat (b-a),d) (a+(b-a)/4*2-1):=by
 unfold Sort.breakPatterns
 rw[if_pos h]
 rfl
theorem brk_no (d:Array Int) (a b:Nat) (h:¬8<=b-a):Sort.breakPatterns d a b=d:=by
 unfold Sort.breakPatterns
 rw[if_neg h]
theorem kct (n:Nat):len64 (n:Int)=((Sort.bitsLen n:Nat):Int):=by
 unfold len64 Sort.bitsLen
 by_cases h:n=0
 ·subst h;rfl
 ·rw[if_neg h,if_neg (by omega)];simp
theorem npo (n:Nat) (hn:n<4611686018427387904):ishl .u64 1 (len64 (n:Int))=((1<<<Sort.bitsLen n:Nat):Int):=by
 rw[kct]
 have hk:Sort.bitsLen n<=62:=(Sort.bitsLen_le_iff n 62).2 hn
 unfold ishl
 have:min ((Sort.bitsLen n:Nat):Int).toNat IntKind.u64.bits=Sort.bitsLen n:=by show min ((Sort.bitsLen n:Nat):Int).toNat 64=_;omega
 rw[this,Nat.shiftLeft_eq,Nat.one_mul,Int.one_mul]
 have hp:2^Sort.bitsLen n<=2^62:=Nat.pow_le_pow_right (by decide) hk
 rw[wu]
 ·rw[Int.natCast_pow];rfl
 ·exact Int.le_of_lt (Int.pow_pos (by decide))
 ·have h1:((2^Sort.bitsLen n:Nat):Int)<=((2^62:Nat):Int):=Int.ofNat_le.2 hp
  rw[Int.natCast_pow]at h1
  have h2:((2^62:Nat):Int)=4611686018427387904:=by decide
  have h3:(((2:Nat):Int)^Sort.bitsLen n)=(2:Int)^Sort.bitsLen n:=rfl
  omega
theorem npo_le (n:Nat) (h:0<n):1<<<Sort.bitsLen n<=2*n/\n<1<<<Sort.bitsLen n:=by
 rw[Nat.shiftLeft_eq,Nat.one_mul]
 exact⟨Sort.two_pow_bitsLen_le h,Sort.lt_two_pow_bitsLen n⟩
theorem k2c {d:Array Int} {a b c n:Nat} (ha:a<n) (hb:b<n):(Sort.order2 Sort.ltInt d a b c).1<n/\(Sort.order2 Sort.ltInt d a b c).2.1<n/\(Sort.order2 Sort.ltInt d a b c).2.2<=c+1:=by
 unfold Sort.order2
 split
 ·exact⟨hb,ha,Nat.le_refl _⟩
 ·exact⟨ha,hb,Nat.le_succ _⟩
theorem k6o {d:Array Int} {a b c s n:Nat} (ha:a<n) (hb:b<n) (hc:c<n):(Sort.median Sort.ltInt d a b c s).1<n/\(Sort.median Sort.ltInt d a b c s).2<=s+3:=by
 unfold Sort.median
 dsimp only
 have h1:=k2c (d:=d) (c:=s) ha hb
 generalize Sort.order2 Sort.ltInt d a b s=r1 at *
 have h2:=k2c (d:=d) (c:=r1.2.2) h1.2.1 hc
 generalize Sort.order2 Sort.ltInt d r1.2.1 c r1.2.2=r2 at *
 have h3:=k2c (d:=d) (c:=r2.2.2) h1.1 h2.1
 exact⟨h3.2.1,by omega⟩
end Go.Md
namespace Go.Proofs.YtlfcebhnjkcmnaaGreat
open Go Go.Bv Go.Cv Go.Md Go.RowKit
open Go.IntKind (i64 u64)
def insI (x:Int):List Int->List Int
 |[]=>[x]
 |y::r=>if x<=y then x::y::r else y::insI x r
def srt:List Int->List Int
 |[]=>[]
 |x::r=>insI x (srt r)
theorem k40 (x:Int):∀l,(insI x l).Perm (x::l)
 |[]=>List.Perm.refl _
 |y::r=>by
  unfold insI
  split
  ·exact List.Perm.refl _
  ·exact((k40 x r).cons y).trans (List.Perm.swap x y r)
theorem k1x:∀l,(srt l).Perm l
 |[]=>List.Perm.refl _
 |x::r=>(k40 x (srt r)).trans ((k1x r).cons x)
theorem k69 (x:Int):∀l:List Int,l.Pairwise (·<=·)->(insI x l).Pairwise (·<=·)
 |[],_=>by simp[insI]
 |y::r,h=>by
  unfold insI
  rw[List.pairwise_cons]at h
  split
  ·rename_i hxy
   rw[List.pairwise_cons,List.pairwise_cons]
   refine⟨fun z hz=> ?_,h⟩
   rcases List.mem_cons.1 hz with rfl|hz
   ·exact hxy
   ·exact Int.le_trans hxy (h.1 z hz)
  ·rename_i hxy
   rw[List.pairwise_cons]
   refine⟨fun z hz=> ?_,k69 x r h.2⟩
   rcases List.mem_cons.1 ((k40 x r).mem_iff.1 hz)with rfl|hz
   ·omega
   ·exact h.1 z hz
theorem k38:∀l,(srt l).Pairwise (·<=·)
 |[]=>List.Pairwise.nil
 |x::r=>k69 x _ (k38 r)
theorem k44:∀(l m:List Int),l.Perm m->l.Pairwise (·<=·)->m.Pairwise (·<=·)->l=m
 |[],m,h,_,_=>by rw[h.symm.eq_nil]
 |x::l,[],h,_,_=>by cases h.eq_nil
 |x::l,y::m,h,hl,hm=>by
  rw[List.pairwise_cons]at hl hm
  have hx:x∈y::m:=h.mem_iff.1 (by simp)
  have hy:y∈x::l:=h.mem_iff.2 (by simp)
  have e:x=y:=by
   rcases List.mem_cons.1 hx with e|hx
   ·exact e
   ·rcases List.mem_cons.1 hy with e|hy
    ·exact e.symm
    ·have:=hl.1 y hy
     have:=hm.1 x hx
     omega
  subst e
  rw[k44 l m ((List.perm_cons x).1 h) hl.2 hm.2]
theorem srt_eq {l m:List Int} (h:m.Perm l) (hs:m.Pairwise (·<=·)):m=srt l:=k44 _ _ (h.trans (k1x l).symm) hs (k38 l)
theorem k35 (l:List Int):(srt l).length=l.length:=(k1x l).length_eq
def SortedTo (g:List Int) (i:Nat):Prop:=∀a b:Nat,a<b->b<i->g[a]?.getD 0<=g[b]?.getD 0
def SortedBut (g:List Int) (i j:Nat):Prop:=∀a b:Nat,a<b->b<i->b≠j->g[a]?.getD 0<=g[b]?.getD 0
theorem SortedTo.all {g:List Int} (h:SortedTo g g.length):g.Pairwise (·<=·):=by
 rw[List.pairwise_iff_getElem]
 intro a b ha hb hab
 have:=h a b hab hb
 rwa [List.getElem?_eq_getElem ha,List.getElem?_eq_getElem hb]at this
theorem SortedBut.zero {g:List Int} {i:Nat} (h:SortedBut g i 0):SortedTo g i:=fun a b hab hb=>h a b hab hb (by omega)
theorem SortedBut.step {g:List Int} {i j:Nat} (h:SortedBut g i j) (hj:0<j) (hi:j<i) (hl:i<=g.length) (hlt:g[j]?.getD 0<g[j-1]?.getD 0) {x y:Int} (hx:x=g[j]?.getD 0) (hy:y=g[j-1]?.getD 0):SortedBut ((g.set j y).set (j-1) x) i (j-1):=by
 have hg:∀k,k<g.length->((g.set j y).set (j-1) x)[k]?.getD 0=if k=j-1 then x else if k=j then y else g[k]?.getD 0:=by
  intro k hk
  rw[List.getElem?_set,List.getElem?_set,List.length_set]
  by_cases e1:j-1=k
  ·rw[if_pos e1,if_pos (by omega),if_pos e1.symm];rfl
  ·rw[if_neg e1,if_neg (Ne.symm e1)]
   by_cases e2:j=k
   ·rw[if_pos e2,if_pos (by omega),if_pos e2.symm];rfl
   ·rw[if_neg e2,if_neg (Ne.symm e2)]
 intro a b hab hb hne
 rw[hg a (by omega),hg b (by omega),if_neg hne]
 by_cases e1:b=j
 ·rw[if_pos e1]
  by_cases e2:a=j-1
  ·rw[if_pos e2];omega
  ·rw[if_neg e2,if_neg (by omega),hy]
   exact h a (j-1) (by omega) (by omega) (by omega)
 ·rw[if_neg e1]
  by_cases e2:a=j-1
  ·rw[if_pos e2,hx]
   exact h j b (by omega) hb e1
  ·rw[if_neg e2]
   by_cases e3:a=j
   ·rw[if_pos e3,hy]
    exact h (j-1) b (by omega) hb e1
   ·rw[if_neg e3]
    exact h a b hab hb e1
theorem k79 (d:Array Int) (a b k:Nat) (hb:b<=d.size) (hk:a+k<b):(d.extract a b).toList[k]? =some d[a+k]! :=by
 rw[Sort.extract_toList d a b hb,List.getElem?_map,List.getElem?_range' (by omega)]
 simp
theorem k6c {d:Array Int} {a b:Nat} (hb:b<=d.size) (h:Sort.SortedIn Sort.ltInt a b d):(d.extract a b).toList.Pairwise (·<=·):=by
 rw[List.pairwise_iff_getElem]
 intro i j hi hj hij
 have hl:(d.extract a b).toList.length=b-a:=by simp;omega
 have e1:=k79 d a b i hb (by omega)
 have e2:=k79 d a b j hb (by omega)
 rw[List.getElem?_eq_getElem hi]at e1
 rw[List.getElem?_eq_getElem hj]at e2
 rw[Option.some.inj e1,Option.some.inj e2]
 have:=h (a+i) (a+j) (by omega) (by omega) (by omega)
 rw[ltI_iff]at this
 have:=of_decide_eq_false this
 omega
theorem kf5 {d R R' :Array Int} {a b:Nat} (hb:b<=d.size) (h1:Sort.PermIn a b d R) (h2:Sort.SortedIn Sort.ltInt a b R) (h3:Sort.PermIn a b d R') (h4:Sort.SortedIn Sort.ltInt a b R'):R=R' :=by
 have e:=k44 _ _ (h1.2.2.trans h3.2.2.symm) (k6c (by rw[h1.1];exact hb) h2) (k6c (by rw[h3.1];exact hb) h4)
 refine Array.ext (by rw[h1.1,h3.1]) fun i hi hi' => ?_
 have q1:R[i]! =R[i]:=getElem!_pos R i hi
 have q2:R'[i]! =R'[i]:=getElem!_pos R' i hi'
 rw[<-q1,<-q2]
 by_cases hc:a<=i/\i<b
 ·have e1:=k79 R a b (i-a) (by rw[h1.1];exact hb) (by omega)
  have e2:=k79 R' a b (i-a) (by rw[h3.1];exact hb) (by omega)
  rw[e,e2,show a+(i-a)=i by omega]at e1
  exact(Option.some.inj e1).symm
 ·rw[h1.2.1 i (by omega),h3.2.1 i (by omega)]
theorem k37 {g:List Int} {a b:Int} (h0:0<=a) (h1:a<=b) (h2:b<=g.length):Sort.PermIn a.toNat b.toNat g.toArray (insS g a b).toArray/\Sort.SortedIn Sort.ltInt a.toNat b.toNat (insS g a b).toArray:=by
 have:=Sort.insertionSort_holds (lt:=Sort.ltInt) Sort.swo_ltInt g.toArray a.toNat b.toNat (by omega) (by simp;omega)
 unfold insS
 simpa using this
theorem kj6 {g:List Int} {a b:Int} (h0:0<=a) (h1:a<=b) (h2:b<=g.length):Sort.PermIn a.toNat b.toNat g.toArray (heapS g a b).toArray/\Sort.SortedIn Sort.ltInt a.toNat b.toNat (heapS g a b).toArray:=by
 have:=Sort.heapSort_holds (lt:=Sort.ltInt) Sort.swo_ltInt g.toArray a.toNat b.toNat (by omega) (by simp;omega)
 unfold heapS
 simpa using this
theorem kmg (g:List Int):insS g 0 g.length=srt g:=by
 obtain⟨h1,h2⟩:=k37 (g:=g) (a:=0) (b:=g.length) (by omega) (by omega) (by omega)
 have hl:(insS g 0 g.length).length=g.length:=kay (by omega) (by omega) (by omega)
 have e:=h1.2.2
 have s:=k6c (d:=(insS g 0 g.length).toArray) (by simp;omega) h2
 have x1:((insS g 0 g.length).toArray.extract (0:Int).toNat (g.length:Int).toNat).toList=insS g 0 g.length:=by
  have key:∀l:List Int,(l.toArray.extract 0 l.length).toList=l:=by intro l;simp
  have:=key (insS g 0 g.length)
  rw[hl]at this
  simp only[Int.toNat_natCast,Int.toNat_zero]
  exact this
 have x2:(g.toArray.extract (0:Int).toNat (g.length:Int).toNat).toList=g:=by simp
 rw[x1]at s e
 rw[x2]at e
 exact srt_eq e s
structure PdqI (R0:Array Int) (n:Nat) (a b:Int) (g:List Int):Prop where
 a0:0<=a
 ab:a<=b
 bl:b<=g.length
 n:g.length=n
 be:Sort.Below Sort.ltInt a.toNat b.toNat g.toArray
 u:∀R,Sort.PermIn a.toNat b.toNat g.toArray R->Sort.SortedIn Sort.ltInt a.toNat b.toNat R->R=R0
theorem PdqI.perm {R0:Array Int} {n:Nat} {a b:Int} {g:List Int} {d:Array Int} (h:PdqI R0 n a b g) (hp:Sort.PermIn a.toNat b.toNat g.toArray d):PdqI R0 n a b d.toList:=by
 have hb:=h.bl
 have ha:=h.a0
 have hs:=hp.1
 simp at hs
 refine⟨ha,h.ab,by simp;omega,by simp;rw[hs];exact h.n,?_,fun R h1 h2=>h.u R (Sort.permIn_trans _ _ _ _ _ hp (by simpa using h1)) h2⟩
 simpa using h.be.perm (by simp;omega) hp
theorem PdqI.ins {R0:Array Int} {n:Nat} {a b:Int} {g:List Int} (h:PdqI R0 n a b g):insS g a b=R0.toList:=by
 obtain⟨h1,h2⟩:=k37 h.a0 h.ab h.bl
 rw[<-h.u _ h1 h2]
theorem PdqI.heap {R0:Array Int} {n:Nat} {a b:Int} {g:List Int} (h:PdqI R0 n a b g):heapS g a b=R0.toList:=by
 obtain⟨h1,h2⟩:=kj6 h.a0 h.ab h.bl
 rw[<-h.u _ h1 h2]
theorem PdqI.brk {R0:Array Int} {n:Nat} {a b:Int} {g:List Int} (h:PdqI R0 n a b g):PdqI R0 n a b (brkS g a b):=by
 have h1:=h.a0
 have h2:=h.ab
 have h3:=h.bl
 exact h.perm (Sort.breakPatterns_holds g.toArray a.toNat b.toNat (by omega) (by simp;omega))
theorem PdqI.rev {R0:Array Int} {n:Nat} {a b:Int} {g:List Int} (h:PdqI R0 n a b g):PdqI R0 n a b (revS g a b):=by
 have h1:=h.a0
 have h2:=h.ab
 have h3:=h.bl
 exact h.perm (Sort.reverseRange_holds g.toArray a.toNat b.toNat (by omega) (by simp;omega))
theorem PdqI.pis {R0:Array Int} {n:Nat} {a b:Int} {g:List Int} (h:PdqI R0 n a b g) (hab:a<b):PdqI R0 n a b (pisS g a b).1.toList/\((pisS g a b).2=true->(pisS g a b).1.toList=R0.toList):=by
 have h1:=h.a0
 have h2:=h.ab
 have h3:=h.bl
 obtain⟨q1,q2⟩:=Sort.partialInsertionSort_holds (lt:=Sort.ltInt) Sort.swo_ltInt g.toArray a.toNat b.toNat (by omega) (by simp;omega) h.be
 exact⟨h.perm q1,fun e=>by rw[<-h.u _ q1 (q2 e)];rfl⟩
theorem PdqI.peq {R0:Array Int} {n:Nat} {a b p:Int} {g:List Int} (h:PdqI R0 n a b g) (ha:0<a) (h1:a<=p) (h2:p<b) (hn:¬ix g (a-1)<ix g p):a<(peqS g a b p).1/\(peqS g a b p).1<=b/\PdqI R0 n (peqS g a b p).1 b (peqS g a b p).2.toList:=by
 have h3:=h.bl
 have e1:g.toArray[a.toNat-1]! =ix g (a-1):=by rw[show a.toNat-1=(a-1).toNat by omega];exact arr_ix (by omega) (by omega)
 have e2:g.toArray[p.toNat]! =ix g p:=arr_ix (by omega) (by omega)
 obtain⟨q1,q2,q3,q4,q5⟩:=Sort.round_eq (lt:=Sort.ltInt) (d3:=g.toArray) (d4:=(peqS g a b p).2) (a:=a.toNat) (b:=b.toNat) (pivot:=p.toNat) (mid:=(peqS g a b p).1) Sort.swo_ltInt (Sort.partitionEqual_holds Sort.ltInt) (by omega) (by omega) (by omega) (by simp;omega) h.be (by rw[e1,e2,ltI_iff];exact decide_eq_false hn) rfl
 simp at q3
 refine⟨by omega,by omega,⟨by omega,by omega,by simp;omega,by simp;rw[q3];exact h.n,by simpa using q4,fun R r1 r2=> ?_⟩⟩
 simp only[Int.toNat_natCast,Array.toArray_toList]at r1 r2
 obtain⟨s1,s2⟩:=q5 R r1 r2
 exact h.u R s1 s2
theorem PdqI.part {R0:Array Int} {n:Nat} {a b p:Int} {g:List Int} (h:PdqI R0 n a b g) (h1:a<=p) (h2:p<b):a<=(partS g a b p).1/\(partS g a b p).1<b/\(partS g a b p).2.2.size=n/\
  Sort.Below Sort.ltInt a.toNat (partS g a b p).1 (partS g a b p).2.2/\Sort.Below Sort.ltInt ((partS g a b p).1+1) b.toNat (partS g a b p).2.2/\
  PdqI R0 n ((partS g a b p).1+1) b (insS (partS g a b p).2.2.toList a (partS g a b p).1)/\PdqI R0 n a (partS g a b p).1 (insS (partS g a b p).2.2.toList ((partS g a b p).1+1) b):=by
 have h3:=h.bl
 have h0:=h.a0
 obtain⟨q1,q2,q3,q4,q5,q6,q7⟩:=Sort.round_part (lt:=Sort.ltInt) (d3:=g.toArray) (d4:=(partS g a b p).2.2) (a:=a.toNat) (b:=b.toNat) (pivot:=p.toNat) (mid:=(partS g a b p).1) (ap:=(partS g a b p).2.1) Sort.swo_ltInt (Sort.partition_holds Sort.ltInt) (by omega) (by omega) (by simp;omega) h.be rfl
 simp at q3
 have hn:=h.n
 generalize partS g a b p=P at *
 obtain⟨m,ap,d⟩:=P
 dsimp only at *
 have l1:=k37 (g:=d.toList) (a:=a) (b:=m) h0 (by omega) (by simp;omega)
 have l2:=k37 (g:=d.toList) (a:=(m:Int)+1) (b:=b) (by omega) (by omega) (by simp;omega)
 simp only[Array.toArray_toList,Int.toNat_natCast]at l1 l2
 rw[show((m:Int)+1).toNat=m+1 by omega]at l2
 have n1:(insS d.toList a m).length=d.toList.length:=kay h0 (by omega) (by simp;omega)
 have n2:(insS d.toList ((m:Int)+1) b).length=d.toList.length:=kay (by omega) (by omega) (by simp;omega)
 simp at n1 n2
 obtain⟨w1,w2⟩:=q6 _ l1.1 l1.2
 obtain⟨w3,w4⟩:=q7 _ l2.1 l2.2
 refine⟨by omega,by omega,by omega,q4,q5,⟨by omega,by omega,by omega,by omega,by rw[show((m:Int)+1).toNat=m+1 by omega];exact w1,fun R r1 r2=> ?_⟩,⟨h0,by omega,by omega,by omega,by simpa using w3,fun R r1 r2=> ?_⟩⟩
 ·rw[show((m:Int)+1).toNat=m+1 by omega]at r1 r2
  obtain⟨s1,s2⟩:=w2 R r1 r2
  exact h.u R s1 s2
 ·simp only[Int.toNat_natCast]at r1 r2
  obtain⟨s1,s2⟩:=w4 R r1 r2
  exact h.u R s1 s2
theorem PdqI.start {g:List Int} {a b:Int} (h0:0<=a) (h1:a<=b) (h2:b<=g.length) (hB:Sort.Below Sort.ltInt a.toNat b.toNat g.toArray):PdqI (insS g a b).toArray g.length a b g:=by
 obtain⟨q1,q2⟩:=k37 h0 h1 h2
 exact⟨h0,h1,h2,rfl,hB,fun R r1 r2=>kf5 (by simp;omega) r1 r2 q1 q2⟩
def lb (l:List wA) (t:Int):Nat:=(l.takeWhile (fun a=>decide (a.ID<t))).length
def fnd (l:List wA) (t:Int):Bool:=match l[lb l t]? with
 |some a=>decide (a.ID=t)
 |none=>false
def Srt (l:List wA):Prop:=∀i j (_:i<j) (hj:j<l.length),l[i].ID<l[j].ID
theorem lb_eq (l:List wA) (t:Int) (i:Nat) (hi:i<=l.length) (h1:∀k (h:k<l.length),k<i->l[k].ID<t) (h2:∀h:i<l.length,t<=l[i].ID):lb l t=i:=by
 unfold lb
 induction l generalizing i with
 |nil=>simp at hi;simp[hi]
 |cons a l ih=>
  cases i with
  |zero=>
   have:=h2 (by simp)
   simp at this
   rw[List.takeWhile_cons,if_neg (by simp;omega)]
   rfl
  |succ i=>
   have h0:=h1 0 (by simp) (by omega)
   simp at h0
   rw[List.takeWhile_cons,if_pos (by simpa using h0),List.length_cons,ih i (by simpa using hi) (fun k h hk=>by have:=h1 (k+1) (by simpa using h) (by omega);simpa using this) (fun h=>by have:=h2 (by simpa using h);simpa using this)]
theorem lb_le (l:List wA) (t:Int):lb l t<=l.length:=(List.takeWhile_sublist _).length_le
theorem lb_spec (l:List wA) (t:Int):(∀k (h:k<l.length),k<lb l t->l[k].ID<t)/\∀h:lb l t<l.length,t<=l[lb l t].ID:=by
 unfold lb
 induction l with
 |nil=>exact⟨fun k h=>absurd h (by simp),fun h=>absurd h (by simp)⟩
 |cons a l ih=>
  by_cases ha:a.ID<t
  ·simp only[List.takeWhile_cons,ha,decide_true,if_true,List.length_cons]
   refine⟨fun k h hk=> ?_,fun h=> ?_⟩
   ·cases k with
    |zero=>exact ha
    |succ k=>simpa using ih.1 k (by simpa using h) (by simpa using hk)
   ·simpa using ih.2 (by simpa using h)
  ·simp only[List.takeWhile_cons,ha,decide_false,Bool.false_eq_true,if_false,List.length_nil]
   exact⟨fun k h hk=>absurd hk (Nat.not_lt_zero _),fun h=>by simpa using ha⟩
theorem k5f {l:List wA} {t:Int} (h:fnd l t=true):∃hl:lb l t<l.length,l[lb l t].ID=t:=by
 unfold fnd at h
 split at h
 ·rename_i a ha
  obtain⟨h1,h2⟩:=List.getElem?_eq_some_iff.1 ha
  exact⟨h1,by rw[h2];simpa using h⟩
 ·cases h
def getA (l:List wA) (t:Int):wA:=match l.find? (fun a=>decide (a.ID=t))with
 |some a=>a
 |none=>⟨t,0,0⟩
theorem getA_of {l:List wA} {t:Int} (hs:Srt l) (h:fnd l t=true) (hl:lb l t<l.length):getA l t=l[lb l t]:=by
 obtain⟨_,he⟩:=k5f h
 unfold getA
 have:l.find? (fun a=>decide (a.ID=t))=some l[lb l t]:=by
  rw[List.find?_eq_some_iff_getElem]
  refine⟨by simpa using he,lb l t,hl,rfl,fun j hj=> ?_⟩
  have:=(lb_spec l t).1 j (by omega) hj
  simp;omega
 rw[this]
theorem getA_no {l:List wA} {t:Int} (hs:Srt l) (h:fnd l t=false):getA l t=⟨t,0,0⟩:=by
 unfold getA
 have:l.find? (fun a=>decide (a.ID=t))=none:=by
  rw[List.find?_eq_none]
  intro a ha hat
  simp only[decide_eq_true_eq]at hat
  obtain⟨k,hk,rfl⟩:=List.getElem_of_mem ha
  obtain⟨g1,g2⟩:=lb_spec l t
  rcases Nat.lt_or_ge k (lb l t)with h1|h1
  ·have:=g1 k hk h1;omega
  ·have h2:lb l t<l.length:=by omega
   have h3:=g2 h2
   have h4:l[lb l t].ID≠t:=by
    intro he
    have:fnd l t=true:=by unfold fnd;rw[List.getElem?_eq_getElem h2];simpa using he
    rw[h]at this;cases this
   rcases Nat.lt_or_ge (lb l t) k with h5|h5
   ·have:=hs _ _ h5 hk;omega
   ·have:k=lb l t:=by omega
    subst this;omega
 rw[this]
def AccOk (a:wA):Prop:=(0<=a.ID/\a.ID<18446744069414584321)/\(0<=a.wR/\a.wR<=9223372036854775807)/\0<=a.wL/\a.wL<18446744073709551616
def OkA (l:List wA):Prop:=Srt l/\l.length<=1000/\∀a∈l,AccOk a
theorem getA_ok {l:List wA} (h:OkA l) (t:Int):(0<=(getA l t).wR/\(getA l t).wR<=9223372036854775807)/\0<=(getA l t).wL/\(getA l t).wL<18446744073709551616:=by
 unfold getA
 split
 ·rename_i a ha
  exact(h.2.2 a (List.mem_of_find?_eq_some ha)).2
 ·simp
theorem getA_at {l:List wA} {t:Int} {i:Nat} (hi:i<l.length) (he:l[i].ID=t) (hb:∀k (h:k<l.length),k<i->l[k].ID≠t):getA l t=l[i]:=by
 unfold getA
 have:l.find? (fun a=>decide (a.ID=t))=some l[i]:=by
  rw[List.find?_eq_some_iff_getElem]
  exact⟨by simpa using he,i,hi,rfl,fun j hj=>by have:=hb j (by omega) hj;simpa using this⟩
 rw[this]
theorem kl6 {l:List wA} {t:Int} (hb:∀k (h:k<l.length),l[k].ID≠t):getA l t=⟨t,0,0⟩:=by
 unfold getA
 have:l.find? (fun a=>decide (a.ID=t))=none:=by
  rw[List.find?_eq_none]
  intro a ha hat
  obtain⟨k,hk,rfl⟩:=List.getElem_of_mem ha
  exact hb k hk (by simpa using hat)
 rw[this]
theorem getA_id (l:List wA) (t:Int):(getA l t).ID=t:=by
 unfold getA
 split
 ·rename_i a ha;simpa using List.find?_some ha
 ·rfl
def putA (l:List wA) (a:wA):List wA:=l.take (lb l a.ID)++(if a.wR≠0∨a.wL≠0 then [a]else [])++l.drop (lb l a.ID+if fnd l a.ID then 1 else 0)
def creditA (l:List wA) (id amt:Int):List wA×Int:=
 if 9223372036854775807-(getA l id).wR<amt then([],1)else(putA l ⟨id,(getA l id).wR+amt,(getA l id).wL⟩,0)
def debitA (l:List wA) (id amt non:Int):List wA×Int:=
 if amt=0 then([],1)else if non≠(getA l id).wL∨non=18446744073709551615 then([],20)else if(getA l id).wR<amt then([],15)else(putA l ⟨id,(getA l id).wR-amt,non+1⟩,0)
theorem tail_eq {l:List wA} (hs:Srt l) (t:Int):l.filter (fun x=>decide (t<x.ID))=l.drop (lb l t+if fnd l t then 1 else 0):=by
 obtain⟨g1,g2⟩:=lb_spec l t
 have key:∀(i:Nat),(∀k (h:k<l.length),k<i->l[k].ID<=t)->(∀k (h:k<l.length),i<=k->t<l[k].ID)->l.filter (fun x=>decide (t<x.ID))=l.drop i:=by
  intro i h1 h2
  rw[<-List.take_append_drop i l,List.filter_append,List.take_append_drop]
  have e1:(l.take i).filter (fun x=>decide (t<x.ID))=[]:=by
   rw[List.filter_eq_nil_iff]
   intro x hx
   obtain⟨k,hk,rfl⟩:=List.getElem_of_mem hx
   rw[List.length_take]at hk
   have:=h1 k (by omega) (by omega)
   rw[List.getElem_take]
   simp;omega
  have e2:(l.drop i).filter (fun x=>decide (t<x.ID))=l.drop i:=by
   rw[List.filter_eq_self]
   intro x hx
   obtain⟨k,hk,rfl⟩:=List.getElem_of_mem hx
   rw[List.length_drop]at hk
   have:=h2 (i+k) (by omega) (by omega)
   rw[List.getElem_drop]
   simp;omega
  rw[e1,e2,List.nil_append]
 apply key
 ·intro k h hk
  split at hk
  ·rename_i hf
   obtain⟨h1,h2⟩:=k5f hf
   rcases Nat.lt_or_ge k (lb l t)with h3|h3
   ·have:=g1 k h h3;omega
   ·have:k=lb l t:=by omega
    subst this;omega
  ·have:=g1 k h (by omega);omega
 ·intro k h hk
  split at hk
  ·rename_i hf
   obtain⟨h1,h2⟩:=k5f hf
   have:=hs (lb l t) k (by omega) h
   omega
  ·rename_i hf
   have h1:lb l t<l.length:=by omega
   have h2:=g2 h1
   have h3:l[lb l t].ID≠t:=by
    intro he
    apply hf
    unfold fnd;rw[List.getElem?_eq_getElem h1];simpa using he
   rcases Nat.lt_or_ge (lb l t) k with h5|h5
   ·have:=hs _ _ h5 h;omega
   ·have:k=lb l t:=by omega
    subst this;omega
theorem inc_i64 (i:Nat) (h:i<4611686018427387904):i64.wrap ((i:Int)+1)=((i+1:Nat):Int):=by rw[kh _ (by omega) (by omega)];omega
theorem mid_eq (i j:Nat) (h:i+j<9223372036854775808):i64.wrap (ishr .u64 (u64.wrap (i64.wrap (↑i+↑j))) 1)=(((i+j)/2:Nat):Int):=by
 have e1:i64.wrap ((i:Int)+j)=(i:Int)+j:=kh _ (by omega) (by omega)
 have e2:u64.wrap ((i:Int)+j)=(i:Int)+j:=wrap_u64 _ (by omega) (by omega)
 have e:(2:Int)^min (1:Int).toNat u64.bits=2:=rfl
 have e3:((i:Int)+j).fdiv 2=((i:Int)+j)/2:=Int.fdiv_eq_ediv_of_nonneg _ (by omega)
 unfold ishr
 rw[e1,e2,e,e3,kh _ (by omega) (by omega)]
 omega
def cmp3 (a b:Int):Int:=if a<b then -1 else if b<a then 1 else 0
theorem cmp3_lt {a b:Int}:(cmp3 a b<0)↔a<b:=by unfold cmp3;split<;>(try split)<;>omega
theorem cmp3_eq {a b:Int}:(cmp3 a b=0)↔a=b:=by unfold cmp3;split<;>(try split)<;>omega
theorem put_len (l:List wA) (a:wA):(putA l a).length<=l.length+1:=by
 have:=lb_le l a.ID
 unfold putA
 simp only[List.length_append,List.length_take,List.length_drop]
 split<;>simp<;>omega
theorem ok_nil:OkA []:=⟨fun i j _ h=>by simp at h,by simp,by simp⟩
theorem srt_pw {l:List wA}:Srt l↔l.Pairwise (fun a b=>a.ID<b.ID):=by
 rw[List.pairwise_iff_getElem]
 exact⟨fun h i j hi hj hij=>h i j hij hj,fun h i j hij hj=>h i j (by omega) hj hij⟩
def Mid (id:Int) (m:List wA):Prop:=m=[]∨∃x:wA,m=[x]/\x.ID=id
def Spl (l:List wA) (id:Int) (a m b:List wA):Prop:=l=a++(m++b)/\(∀x∈a,x.ID<id)/\Mid id m/\∀x∈b,id<x.ID
theorem spl_of {l:List wA} (hs:Srt l) (id:Int):∃a m b,Spl l id a m b:=by
 rw[srt_pw]at hs
 induction l with
 |nil=>exact⟨[],[],[],rfl,by simp,.inl rfl,by simp⟩
 |cons x r ih=>
  obtain⟨h1,h2⟩:=List.pairwise_cons.1 hs
  by_cases hx:x.ID<id
  ·obtain⟨a,m,b,rfl,g1,g2,g3⟩:=ih h2
   refine⟨x::a,m,b,rfl,?_,g2,g3⟩
   intro y hy
   rcases List.mem_cons.1 hy with rfl|hy
   ·exact hx
   ·exact g1 y hy
  ·by_cases he:x.ID=id
   ·exact⟨[],[x],r,rfl,by simp,.inr ⟨x,rfl,he⟩,fun y hy=>by have:=h1 y hy;omega⟩
   ·refine⟨[],[],x::r,rfl,by simp,.inl rfl,?_⟩
    intro y hy
    rcases List.mem_cons.1 hy with rfl|hy
    ·omega
    ·have:=h1 y hy;omega
theorem take_lb (l:List wA) (t:Int):l.take (lb l t)=l.takeWhile (fun a=>decide (a.ID<t)):=(List.prefix_iff_eq_take.1 (List.takeWhile_prefix _)).symm
theorem put_spl {l a m b:List wA} {x:wA} (hs:Srt l) (h:Spl l x.ID a m b):putA l x=a++((if x.wR≠0∨x.wL≠0 then [x]else [])++b):=by
 obtain⟨rfl,h1,h2,h3⟩:=h
 unfold putA
 rw[<-tail_eq hs,take_lb,List.append_assoc]
 have e1:(a++(m++b)).takeWhile (fun y=>decide (y.ID<x.ID))=a:=by
  rw[List.takeWhile_append_of_pos (by intro y hy;simpa using h1 y hy)]
  have:(m++b).takeWhile (fun y=>decide (y.ID<x.ID))=[]:=by
   rcases h2 with rfl|⟨y,rfl,hy⟩
   ·cases b with
    |nil=>rfl
    |cons y b=>rw[List.nil_append,List.takeWhile_cons,if_neg];have:=h3 y (by simp);simp;omega
   ·rw[List.cons_append,List.takeWhile_cons,if_neg];simp;omega
  rw[this,List.append_nil]
 have e2:(a++(m++b)).filter (fun y=>decide (x.ID<y.ID))=b:=by
  rw[List.filter_append,List.filter_append]
  have f1:a.filter (fun y=>decide (x.ID<y.ID))=[]:=by
   rw[List.filter_eq_nil_iff];intro y hy;have:=h1 y hy;simp;omega
  have f2:m.filter (fun y=>decide (x.ID<y.ID))=[]:=by
   rw[List.filter_eq_nil_iff];intro y hy
   rcases h2 with rfl|⟨z,rfl,hz⟩
   ·simp at hy
   ·simp at hy;subst hy;simp;omega
  have f3:b.filter (fun y=>decide (x.ID<y.ID))=b:=by
   rw[List.filter_eq_self];intro y hy;have:=h3 y hy;simpa using this
  rw[f1,f2,f3];rfl
 rw[e1,e2]
theorem get_spl {l a m b:List wA} {id:Int} (h:Spl l id a m b):getA l id=m.headD ⟨id,0,0⟩:=by
 obtain⟨rfl,h1,h2,h3⟩:=h
 unfold getA
 have f1:a.find? (fun y=>decide (y.ID=id))=none:=by
  rw[List.find?_eq_none];intro y hy;have:=h1 y hy;simp;omega
 have f3:b.find? (fun y=>decide (y.ID=id))=none:=by
  rw[List.find?_eq_none];intro y hy;have:=h3 y hy;simp;omega
 rw[List.find?_append,List.find?_append,f1,f3]
 rcases h2 with rfl|⟨x,rfl,hx⟩
 ·rfl
 ·simp[hx]
theorem srt_spl {a m b:List wA} {id:Int} {l:List wA} (hs:Srt l) (h:Spl l id a m b) {m' :List wA} (hm:Mid id m'):Srt (a++(m' ++b)):=by
 obtain⟨rfl,h1,h2,h3⟩:=h
 rw[srt_pw]at hs ⊢
 rw[List.pairwise_append]at hs ⊢
 obtain⟨k1,k2,k3⟩:=hs
 rw[List.pairwise_append]at k2 ⊢
 obtain⟨_,k4,_⟩:=k2
 refine⟨k1,⟨?_,k4,?_⟩,?_⟩
 ·rcases hm with rfl|⟨x,rfl,_⟩<;>simp
 ·intro x hx y hy
  rcases hm with rfl|⟨z,rfl,hz⟩
  ·simp at hx
  ·simp at hx;subst hx;have:=h3 y hy;omega
 ·intro x hx y hy
  have h4:=h1 x hx
  rcases List.mem_append.1 hy with hy|hy
  ·rcases hm with rfl|⟨z,rfl,hz⟩
   ·simp at hy
   ·simp at hy;subst hy;omega
  ·have:=h3 y hy;omega
theorem mid_put (x:wA):Mid x.ID (if x.wR≠0∨x.wL≠0 then [x]else []):=by
 split
 ·exact .inr ⟨x,rfl,rfl⟩
 ·exact .inl rfl
theorem put_ok {l:List wA} {x:wA} (h:OkA l) (hl:l.length<=999) (hx:AccOk x):OkA (putA l x):=by
 obtain⟨a,m,b,hS⟩:=spl_of h.1 x.ID
 refine⟨?_,by have:=put_len l x;omega,?_⟩
 ·rw[put_spl h.1 hS]
  exact srt_spl h.1 hS (mid_put x)
 ·rw[put_spl h.1 hS]
  intro y hy
  obtain⟨rfl,_,_,_⟩:=hS
  simp only[List.mem_append]at hy
  rcases hy with hy|hy|hy
  ·exact h.2.2 y (by simp[hy])
  ·split at hy
   ·simp at hy;subst hy;exact hx
   ·simp at hy
  ·exact h.2.2 y (by simp[hy])
def Nz (l:List wA):Prop:=∀a∈l,a.wR≠0∨a.wL≠0
theorem kn1 {l:List wA} {id amt non:Int} (h:OkA l) (hl:l.length<=999) (hid:0<=id/\id<18446744069414584321) (ha:0<=amt) (hn:0<=non/\non<18446744073709551616):OkA (debitA l id amt non).1:=by
 obtain⟨g1,g2⟩:=getA_ok h id
 unfold debitA
 split
 ·exact ok_nil
 ·split
  ·exact ok_nil
  ·split
   ·exact ok_nil
   ·rename_i h1 _
    have:non≠18446744073709551615:=fun e=>h1 (.inr e)
    exact put_ok h hl ⟨hid,by simp only;omega,by simp only;omega⟩
def GoodA (n:Nat) (l:List wA):Prop:=OkA l/\Nz l/\l.length<=n
theorem k51 (n:Nat):GoodA n []:=⟨ok_nil,by simp[Nz],by simp⟩
theorem kif {l:List wA} {x:wA} {n:Nat} (h:GoodA n l) (hn:n<=900) (hx:AccOk x):GoodA (n+1) (putA l x):=by
 obtain⟨h1,h2,h3⟩:=h
 refine⟨put_ok h1 (by omega) hx,?_,by have:=put_len l x;omega⟩
 obtain⟨a,m,b,hS⟩:=spl_of h1.1 x.ID
 rw[put_spl h1.1 hS]
 obtain⟨rfl,_,_,_⟩:=hS
 intro y hy
 simp only[List.mem_append]at hy
 rcases hy with hy|hy|hy
 ·exact h2 y (by simp[hy])
 ·split at hy
  ·rename_i hz;simp at hy;subst hy;exact hz
  ·simp at hy
 ·exact h2 y (by simp[hy])
theorem ka2 {l:List wA} {n:Nat} {id amt:Int} (h:GoodA n l) (hn:n<=900) (hid:0<=id/\id<18446744069414584321) (ha:0<=amt):GoodA (n+1) (creditA l id amt).1:=by
 obtain⟨g1,g2⟩:=getA_ok h.1 id
 unfold creditA
 split
 ·exact k51 _
 ·exact kif h hn ⟨hid,by simp only;omega,g2⟩
theorem kcu {l:List wA} {n:Nat} {id amt non:Int} (h:GoodA n l) (hn:n<=900) (hid:0<=id/\id<18446744069414584321) (ha:0<=amt) (hN:0<=non/\non<18446744073709551616):GoodA (n+1) (debitA l id amt non).1:=by
 obtain⟨g1,g2⟩:=getA_ok h.1 id
 unfold debitA
 split
 ·exact k51 _
 ·split
  ·exact k51 _
  ·split
   ·exact k51 _
   ·rename_i h1 _
    have:non≠18446744073709551615:=fun e=>h1 (.inr e)
    exact kif h hn ⟨hid,by simp only;omega,by simp only;omega⟩
theorem len24 {α:Type} (m:List α) (x:α) (h:m.length<=90000):(m.length+[x].length)*24<=140737488355328/\m.length+[x].length<=maxLen:=by
 simp only[List.length_cons,List.length_nil]
 unfold maxLen
 omega
end Go.Proofs.YtlfcebhnjkcmnaaGreat
end
