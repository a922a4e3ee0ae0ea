/-
  Parts of the proofs that the laws of this seat hold of every input, merged by a program: a machine over pure data that is sound for the model, what each function of the translation does in it, and plain lemmas. No conditions but those in each theorem.
-/
import Derived.Test.YtlfcebhnjkcmnaaGreatA3
set_option linter.all false
set_option maxRecDepth 100000
noncomputable section
namespace Go.Cv
open Go Go.Bv Go.RowKit Go.Md
structure WPh (T:Tab) (C:Cx T) (N n0:Nat) (c:Code) (an:An T) (s:TSt T.den) (Q:Exit->TSt T.den->Prop):Prop where
 h:WP T C N n0 c an s Q
structure OblH (T:Tab) (C:Cx T) (N n0:Nat) (c:Code) (an:An T) (Q:Exit->TSt T.den->Prop):Prop where
 h:Obl T C N n0 c an Q
theorem mpr_of {A B:Prop} (e:A=B) (h:B):A:=e.mpr h
theorem WPh.of_eq {T:Tab} {C:Cx T} {N n0:Nat} {c:Code} {an:An T} {s:TSt T.den} {Q:Exit->TSt T.den->Prop} {X:Prop} (e:WP T C N n0 c an s Q=X) (h:X):WPh T C N n0 c an s Q:=⟨e.mpr h⟩
theorem OblH.of_eq {T:Tab} {C:Cx T} {N n0:Nat} {c:Code} {an:An T} {Q:Exit->TSt T.den->Prop} {X:Prop} (e:Obl T C N n0 c an Q=X) (h:X):OblH T C N n0 c an Q:=⟨e.mpr h⟩
def OblC (T:Tab) (C:Cx T) (N n0:Nat):Code->An T->(Exit->TSt T.den->Prop)->Prop->Prop
 | .seq x y,.jn tm J _ a gb b,Q,K=>OblC T C N n0 x a (thenT T (fun s' =>tm.mat T n0 s' J) Q) ((∀i,J i=ghs T gb (tm.fill T i) fun s' =>WP T C N n0 y b s' Q)/\OblC T C N n0 y b Q K)
 | .seq x y,an,Q,K=>OblC T C N n0 x an.a (thenT T (fun s' =>ghs T an.gb s' fun s' =>WP T C N n0 y an.b s' Q) Q) (OblC T C N n0 y an.b Q K)
 | .cond _ x y,an,Q,K=>OblC T C N n0 x an.a Q (OblC T C N n0 y an.b Q K)
 | .block id x,an,Q,K=>OblC T C N n0 x an (blockT T id Q) K
 | .loop x,.lp _ tm L a,Q,K=>(∀nx i,L nx i=WP T C N n0 x (a nx) (tm.fill T i) (thenT T (fun s' =>tm.mat T n0 s' nx) Q))/\(∀nx,OblC T C N n0 x (a nx) (thenT T (fun s' =>tm.mat T n0 s' nx) Q) True)/\K
 |_,_,_,K=>K
theorem k1z0 {T:Tab} {C:Cx T} {N n0:Nat}:∀(c:Code) (an:An T) (Q:Exit->TSt T.den->Prop) (K:Prop),OblC T C N n0 c an Q K->Obl T C N n0 c an Q/\K:=by
 intro c
 induction c with
 |seq x y ihx ihy=>
  intro an Q K h
  cases an with
  |jn tm J ga a gb b=>
   simp only[OblC]at h
   obtain⟨h1,h2,h3⟩:=ihx _ _ _ h
   obtain⟨h4,h5⟩:=ihy _ _ _ h3
   simp only[Obl]
   exact⟨⟨h1,h2,h4⟩,h5⟩
  |no=>simp only[OblC]at h;obtain⟨h1,h3⟩:=ihx _ _ _ h;obtain⟨h4,h5⟩:=ihy _ _ _ h3;simp only[Obl];exact⟨⟨h1,h4⟩,h5⟩
  |nd ga a gb b=>simp only[OblC]at h;obtain⟨h1,h3⟩:=ihx _ _ _ h;obtain⟨h4,h5⟩:=ihy _ _ _ h3;simp only[Obl];exact⟨⟨h1,h4⟩,h5⟩
  |lp g tm L a=>simp only[OblC]at h;obtain⟨h1,h3⟩:=ihx _ _ _ h;obtain⟨h4,h5⟩:=ihy _ _ _ h3;simp only[Obl];exact⟨⟨h1,h4⟩,h5⟩
  |rt g=>simp only[OblC]at h;obtain⟨h1,h3⟩:=ihx _ _ _ h;obtain⟨h4,h5⟩:=ihy _ _ _ h3;simp only[Obl];exact⟨⟨h1,h4⟩,h5⟩
 |cond c x y ihx ihy=>
  intro an Q K h
  simp only[OblC]at h
  obtain⟨h1,h2⟩:=ihx _ _ _ h
  obtain⟨h3,h4⟩:=ihy _ _ _ h2
  simp only[Obl]
  exact⟨⟨h1,h3⟩,h4⟩
 |block id x ih=>
  intro an Q K h
  simp only[OblC]at h
  simp only[Obl]
  exact ih _ _ _ h
 |loop x ih=>
  intro an Q K h
  cases an with
  |lp g tm L a=>
   simp only[OblC]at h
   simp only[Obl]
   exact⟨⟨h.1,fun nx=>(ih _ _ _ (h.2.1 nx)).1⟩,h.2.2⟩
  |_=>simp only[OblC]at h;simp only[Obl];exact⟨trivial,h⟩
 |_=>intro an Q K h;simp only[OblC]at h;simp only[Obl];exact⟨trivial,h⟩
theorem OblH.ofC {T:Tab} {C:Cx T} {N n0:Nat} {c:Code} {an:An T} {Q:Exit->TSt T.den->Prop} {X:Prop} (e:OblC T C N n0 c an Q True=X) (h:X):OblH T C N n0 c an Q:=⟨(k1z0 _ _ _ _ (e.mpr h)).1⟩
abbrev NX (T:Tab) (m:Tm):=HL T.den m.hs->Prop
def qS (T:Tab) (C:Cx T) (N n0:Nat) (y:Code) (b:An T) (Q:Exit->TSt T.den->Prop):Exit->TSt T.den->Prop:=thenT T (fun s=>ghs T [] s fun s=>WP T C N n0 y b s Q) Q
def qM (T:Tab) (n0:Nat) (m:Tm) (J:HL T.den m.hs->Prop) (Q:Exit->TSt T.den->Prop):Exit->TSt T.den->Prop:=thenT T (fun s=>m.mat T n0 s J) Q
abbrev Con.Snd {T:Tab} (c:Con T.den) (P:Program) (x:HL T.den (hsT c.ins (hsOs c.pre))) (o:HL T.den (hsV c.res (hsOs c.post))):Prop:=SoundH P c.f ((c.args idf x).map (er T)) ((c.obs idf x).map (erO T)) (er T (c.val idf o)) ((c.ops idf o).map (erO T))
theorem Con.soundH {P:Program} {T:Tab} {C:Cx T} {N:Nat} (hT:T.Ok) (hC:C.Ok P T) (hm:P.follows .mixedOrders=true) {c:Con T.den} {fn:Func} {code:Code} {rs:List ResultVar} (hf:P.funcs[c.f]? =some fn) (hb:fn.body=some code) (hN:fn.ntmps=N) (hrs:fn.results.toList=rs) (hl:Nat.ble c.ins.length N=true)
  {x:HL T.den (hsT c.ins (hsOs c.pre))} {o:HL T.den (hsV c.res (hsOs c.post))} {an:An T} (hW:WPh T C N c.pre.length code an (c.st T x) (retTQ T C c rs o)) (hO:OblH T C N c.pre.length code an (retTQ T C c rs o)):
  SoundH P c.f ((c.args idf x).map (er T)) ((c.obs idf x).map (erO T)) (er T (c.val idf o)) ((c.ops idf o).map (erO T)):=Con.sound hT hC hm hf hb hN hrs hl hW.h hO.h
def cA:Code->Code
 | .seq x _=>x
 | .cond _ x _=>x
 | .block _ x=>x
 | .loop x=>x
 |_=> .skip
def cB:Code->Code
 | .seq _ y=>y
 | .cond _ _ y=>y
 |_=> .skip
section
variable {S:Nat->Type}
def Con.mk0 (f:Nat) (ins:List Sh0) (pre:List OSh) (res:Sh) (post:List OSh):Con S:=⟨f,ins,pre,res,post,fun _ _=>False,false⟩
def Con.mk1 (f:Nat) (ins:List Sh0) (pre:List OSh) (res:Sh) (post:List OSh):Con S:=⟨f,ins,pre,res,post,fun _ _=>False,true⟩
def Con.fnR (c:Con S) (ok:HL S (hsT c.ins (hsOs c.pre))->Prop) (v:HL S (hsT c.ins (hsOs c.pre))->HL S (hsV c.res (hsOs c.post))):Con S:=⟨c.f,c.ins,c.pre,c.res,c.post,fun x K=>ok x/\K (v x),c.alt⟩
def Con.totR (c:Con S) (v:HL S (hsT c.ins (hsOs c.pre))->HL S (hsV c.res (hsOs c.post))):Con S:=⟨c.f,c.ins,c.pre,c.res,c.post,fun x K=>K (v x),c.alt⟩
end
def flAll (F:Nat->Option (Nat×Bool×Nat)):Nat->List (Nat×Bool×Nat)->Prop
 |_,[]=>True
 |k,q::r=>F k=some q/\flAll F (k+1) r
theorem k1jy {F:Nat->Option (Nat×Bool×Nat)}:∀{l:List (Nat×Bool×Nat)} {k:Nat},flAll F k l->∀i q,l[i]? =some q->F (k+i)=some q
 |[],_,_,i,q,h=>by simp at h
 |p::r,k,ha,i,q,h=>by
  cases i with
  |zero=>simp at h;subst h;exact ha.1
  |succ i=>rw[show k+(i+1)=k+1+i by omega];exact k1jy ha.2 i q (by simpa using h)
theorem ki {P:Program} {t:TypeId} {l:List (Nat×Bool×Nat)} (h:flAll (fldOf P t) 0 l) (f:Nat) (q:Nat×Bool×Nat) (hq:l[f]? =some q):fldOf P t f=some q:=by
 have:=k1jy h f q hq
 simpa using this
section
variable {T:Tab} {P:Program}
theorem Con.ok_fn (c:Con T.den) {ok:HL T.den (hsT c.ins (hsOs c.pre))->Prop} {v:HL T.den (hsT c.ins (hsOs c.pre))->HL T.den (hsV c.res (hsOs c.post))} (cl:Callable P c.f)
  (h:∀x,ok x->SoundH P c.f ((c.args idf x).map (er T)) ((c.obs idf x).map (erO T)) (er T (c.val idf (v x))) ((c.ops idf (v x)).map (erO T))):(c.fnR ok v).Ok P T:=
 ⟨cl,fun x _ hx=>⟨v x,hx.2,h x hx.1⟩⟩
theorem Con.ok_tot (c:Con T.den) {v:HL T.den (hsT c.ins (hsOs c.pre))->HL T.den (hsV c.res (hsOs c.post))} (cl:Callable P c.f)
  (h:∀x,SoundH P c.f ((c.args idf x).map (er T)) ((c.obs idf x).map (erO T)) (er T (c.val idf (v x))) ((c.ops idf (v x)).map (erO T))):(c.totR v).Ok P T:=
 ⟨cl,fun x _ hx=>⟨v x,hx,h x⟩⟩
theorem all_nil {α:Type} {p:α->Prop}:∀c∈([]:List α),p c:=fun _ h=>by cases h
theorem all_cons {α:Type} {p:α->Prop} {a:α} {l:List α} (h:p a) (h' :∀c∈l,p c):∀c∈a::l,p c:=fun c hc=>by
 rcases List.mem_cons.1 hc with rfl|hc
 ·exact h
 ·exact h' c hc
theorem kh {P:Program} {T:Tab}:InfoOk P T .lf:=fun _ _ h=>by cases h
theorem find_nd {P:Program} {T:Tab} {l r:BT (TI T.den)} {k:Nat} {v:TI T.den} (hv:TI.Ok P T k v) (hl:InfoOk P T l) (hr:InfoOk P T r):InfoOk P T (.nd l k v r):=fun t x h=>by
 unfold BT.find at h
 cases h1:Nat.beq t k with
 |true=>rw[h1]at h;have:=nb_eq h1;subst this;injection h with h;subst h;exact hv
 |false=>
  rw[h1]at h
  cases h2:Nat.ble t k with
  |true=>rw[h2]at h;exact hl t x h
  |false=>rw[h2]at h;exact hr t x h
end
end Go.Cv
namespace Go.Cv
theorem lpk0 {C:Prop} (h:C) (I M:Prop):((C/\I)/\M)=(I/\M):=propext ⟨fun x=>⟨x.1.2,x.2⟩,fun x=>⟨⟨h,x.1⟩,x.2⟩⟩
theorem lpk1 {C:Prop} {A0:Type} (h:C) (I M:A0->Prop):(fun a0=>(C/\I a0)/\M a0)=fun a0=>I a0/\M a0:=funext fun a0=>lpk0 h _ _
theorem lpk2 {C:Prop} {A0 A1:Type} (h:C) (I M:A0->A1->Prop):(fun a0 a1=>(C/\I a0 a1)/\M a0 a1)=fun a0 a1=>I a0 a1/\M a0 a1:=funext fun a0=>funext fun a1=>lpk0 h _ _
theorem lpk3 {C:Prop} {A0 A1 A2:Type} (h:C) (I M:A0->A1->A2->Prop):(fun a0 a1 a2=>(C/\I a0 a1 a2)/\M a0 a1 a2)=fun a0 a1 a2=>I a0 a1 a2/\M a0 a1 a2:=funext fun a0=>funext fun a1=>funext fun a2=>lpk0 h _ _
theorem lpk4 {C:Prop} {A0 A1 A2 A3:Type} (h:C) (I M:A0->A1->A2->A3->Prop):(fun a0 a1 a2 a3=>(C/\I a0 a1 a2 a3)/\M a0 a1 a2 a3)=fun a0 a1 a2 a3=>I a0 a1 a2 a3/\M a0 a1 a2 a3:=funext fun a0=>funext fun a1=>funext fun a2=>funext fun a3=>lpk0 h _ _
theorem lpk5 {C:Prop} {A0 A1 A2 A3 A4:Type} (h:C) (I M:A0->A1->A2->A3->A4->Prop):(fun a0 a1 a2 a3 a4=>(C/\I a0 a1 a2 a3 a4)/\M a0 a1 a2 a3 a4)=fun a0 a1 a2 a3 a4=>I a0 a1 a2 a3 a4/\M a0 a1 a2 a3 a4:=funext fun a0=>funext fun a1=>funext fun a2=>funext fun a3=>funext fun a4=>lpk0 h _ _
theorem lpk17 {C:Prop} {A0 A1 A2 A3 A4 A5 A6 A7 A8 A9 A10 A11 A12 A13 A14 A15 A16:Type} (h:C) (I M:A0->A1->A2->A3->A4->A5->A6->A7->A8->A9->A10->A11->A12->A13->A14->A15->A16->Prop):(fun a0 a1 a2 a3 a4 a5 a6 a7 a8 a9 a10 a11 a12 a13 a14 a15 a16=>(C/\I a0 a1 a2 a3 a4 a5 a6 a7 a8 a9 a10 a11 a12 a13 a14 a15 a16)/\M a0 a1 a2 a3 a4 a5 a6 a7 a8 a9 a10 a11 a12 a13 a14 a15 a16)=fun a0 a1 a2 a3 a4 a5 a6 a7 a8 a9 a10 a11 a12 a13 a14 a15 a16=>I a0 a1 a2 a3 a4 a5 a6 a7 a8 a9 a10 a11 a12 a13 a14 a15 a16/\M a0 a1 a2 a3 a4 a5 a6 a7 a8 a9 a10 a11 a12 a13 a14 a15 a16:=funext fun a0=>funext fun a1=>funext fun a2=>funext fun a3=>funext fun a4=>funext fun a5=>funext fun a6=>funext fun a7=>funext fun a8=>funext fun a9=>funext fun a10=>funext fun a11=>funext fun a12=>funext fun a13=>funext fun a14=>funext fun a15=>funext fun a16=>lpk0 h _ _
theorem lpk22 {C:Prop} {A0 A1 A2 A3 A4 A5 A6 A7 A8 A9 A10 A11 A12 A13 A14 A15 A16 A17 A18 A19 A20 A21:Type} (h:C) (I M:A0->A1->A2->A3->A4->A5->A6->A7->A8->A9->A10->A11->A12->A13->A14->A15->A16->A17->A18->A19->A20->A21->Prop):(fun a0 a1 a2 a3 a4 a5 a6 a7 a8 a9 a10 a11 a12 a13 a14 a15 a16 a17 a18 a19 a20 a21=>(C/\I a0 a1 a2 a3 a4 a5 a6 a7 a8 a9 a10 a11 a12 a13 a14 a15 a16 a17 a18 a19 a20 a21)/\M a0 a1 a2 a3 a4 a5 a6 a7 a8 a9 a10 a11 a12 a13 a14 a15 a16 a17 a18 a19 a20 a21)=fun a0 a1 a2 a3 a4 a5 a6 a7 a8 a9 a10 a11 a12 a13 a14 a15 a16 a17 a18 a19 a20 a21=>I a0 a1 a2 a3 a4 a5 a6 a7 a8 a9 a10 a11 a12 a13 a14 a15 a16 a17 a18 a19 a20 a21/\M a0 a1 a2 a3 a4 a5 a6 a7 a8 a9 a10 a11 a12 a13 a14 a15 a16 a17 a18 a19 a20 a21:=funext fun a0=>funext fun a1=>funext fun a2=>funext fun a3=>funext fun a4=>funext fun a5=>funext fun a6=>funext fun a7=>funext fun a8=>funext fun a9=>funext fun a10=>funext fun a11=>funext fun a12=>funext fun a13=>funext fun a14=>funext fun a15=>funext fun a16=>funext fun a17=>funext fun a18=>funext fun a19=>funext fun a20=>funext fun a21=>lpk0 h _ _
theorem lpk23 {C:Prop} {A0 A1 A2 A3 A4 A5 A6 A7 A8 A9 A10 A11 A12 A13 A14 A15 A16 A17 A18 A19 A20 A21 A22:Type} (h:C) (I M:A0->A1->A2->A3->A4->A5->A6->A7->A8->A9->A10->A11->A12->A13->A14->A15->A16->A17->A18->A19->A20->A21->A22->Prop):(fun a0 a1 a2 a3 a4 a5 a6 a7 a8 a9 a10 a11 a12 a13 a14 a15 a16 a17 a18 a19 a20 a21 a22=>(C/\I a0 a1 a2 a3 a4 a5 a6 a7 a8 a9 a10 a11 a12 a13 a14 a15 a16 a17 a18 a19 a20 a21 a22)/\M a0 a1 a2 a3 a4 a5 a6 a7 a8 a9 a10 a11 a12 a13 a14 a15 a16 a17 a18 a19 a20 a21 a22)=fun a0 a1 a2 a3 a4 a5 a6 a7 a8 a9 a10 a11 a12 a13 a14 a15 a16 a17 a18 a19 a20 a21 a22=>I a0 a1 a2 a3 a4 a5 a6 a7 a8 a9 a10 a11 a12 a13 a14 a15 a16 a17 a18 a19 a20 a21 a22/\M a0 a1 a2 a3 a4 a5 a6 a7 a8 a9 a10 a11 a12 a13 a14 a15 a16 a17 a18 a19 a20 a21 a22:=funext fun a0=>funext fun a1=>funext fun a2=>funext fun a3=>funext fun a4=>funext fun a5=>funext fun a6=>funext fun a7=>funext fun a8=>funext fun a9=>funext fun a10=>funext fun a11=>funext fun a12=>funext fun a13=>funext fun a14=>funext fun a15=>funext fun a16=>funext fun a17=>funext fun a18=>funext fun a19=>funext fun a20=>funext fun a21=>funext fun a22=>lpk0 h _ _
end Go.Cv
namespace Go.Proofs.YtlfcebhnjkcmnaaGreat
open Go Go.Bv Go.Cv Go.Md Go.RowKit
structure wF where
 wt:Int
 wD:Int
 wN:Int
 wK:Int
 wH:Int
 wW:Int
 wa:Int
 wS:Int
 wl:Int
 deriving Inhabited,DecidableEq
structure ww where
 wz:Int
 wAF:Int
 wAE:Int
 wAB:List Int
 deriving Inhabited,DecidableEq
structure wm where
 wy:Int
 wE:List Int
 wT:List ww
 wV:Int
 wZ:Int
 Fee:Int
 we:Int
 wO:Int
 wx:Int
 wAD:List Int
 deriving Inhabited,DecidableEq
structure wAO where
 wAX:Bool
 wAI:Int
 wAJ:Int
 wAM:Int
 wAS:Int
 wAP:Int
 wAH:List wm
 deriving Inhabited,DecidableEq
structure wAC where
 wAL:Int
 wAK:Int
 wAQ:Int
 deriving Inhabited,DecidableEq
structure wC where
 wD:Int
 wh:Int
 wq:List Int
 deriving Inhabited,DecidableEq
structure wY where
 P:Int
 deriving Inhabited,DecidableEq
structure wAA where
 a0:Int
 a1:Int
 a2:Int
 deriving Inhabited,DecidableEq
structure wA where
 ID:Int
 wX:Int
 wO:Int
 deriving Inhabited,DecidableEq
structure wI where
 wAU:Int
 wAT:Int
 wAV:List Int
 leaves:Int
 marks:List Int
 wAN:List wA
 hidden:Int
 deriving Inhabited,DecidableEq
structure wd where
 wAR:Int
 wU:Int
 wAG:Int
 wl:Int
 wO:Int
 Txs:List wm
 deriving Inhabited,DecidableEq
structure wAW where
 a0:Int
 a1:Int
 deriving Inhabited,DecidableEq
structure wg where
 wB:List wA
 deriving Inhabited,DecidableEq
structure wj where
 wb:Int
 wR:Int
 wL:Int
 wJ:Int
 wG:Int
 wQ:Int
 wM:Int
 wP:Int
 wc:Int
 wU:Int
 wo:List Int
 wE:List Int
 wB:List wA
 wv:Int
 wn:List Int
 deriving Inhabited,DecidableEq
def denT:Nat->Type
 |0=>wF
 |1=>ww
 |2=>wm
 |3=>wAO
 |4=>wAC
 |5=>wC
 |6=>wY
 |7=>wAA
 |8=>wA
 |9=>wI
 |10=>wd
 |11=>wAW
 |12=>wg
 |13=>wj
 |_=>Unit
def tysT:Nat->List Ty
 |0=>[.int .i64,.int .i64,.int .i64,.int .i64,.int .i64,.int .u64,.int .i64,.int .i64,.int .u64]
 |1=>[.int .u64,.int .u64,.int .u64,.sl (.int .u64)]
 |2=>[.int .u64,.sl (.int .u64),.sl (.st 1),.int .u64,.int .u64,.int .u64,.int .u64,.int .u64,.int .i64,.sl (.int .u8)]
 |3=>[.bool,.int .u64,.int .i64,.int .u64,.int .u64,.int .u64,.sl (.st 2)]
 |4=>[.int .i64,.int .i64,.int .i64]
 |5=>[.int .i64,.int .i64,.sl (.int .u64)]
 |6=>[.int .u64]
 |7=>[.int .u64,.int .u64,.int .u64]
 |8=>[.int .u64,.int .u64,.int .u64]
 |9=>[.int .i64,.int .i64,.sl (.int .u64),.int .i64,.sl (.int .u64),.sl (.st 8),.int .u64]
 |10=>[.int .u64,.int .i64,.int .u64,.int .u64,.int .u64,.sl (.st 2)]
 |11=>[.int .u64,.int .u64]
 |12=>[.sl (.st 8)]
 |13=>[.int .i64,.int .i64,.int .i64,.int .i64,.int .i64,.int .u64,.int .i64,.int .i64,.int .u64,.int .i64,.sl (.int .u64),.sl (.int .u64),.sl (.st 8),.int .u64,.sl (.int .u64)]
 |_=>[]
def encTRules (x:wF):D:= .agg [.int .i64 x.wt,.int .i64 x.wD,.int .i64 x.wN,.int .i64 x.wK,.int .i64 x.wH,.int .u64 x.wW,.int .i64 x.wa,.int .i64 x.wS,.int .u64 x.wl]
def encTOut (x:ww):D:= .agg [.int .u64 x.wz,.int .u64 x.wAF,.int .u64 x.wAE,.slice 1 (x.wAB.map (D.int .u64))]
def encTTx (x:wm):D:= .agg [.int .u64 x.wy,.slice 1 (x.wE.map (D.int .u64)),.slice 4 (x.wT.map encTOut),.int .u64 x.wV,.int .u64 x.wZ,.int .u64 x.Fee,.int .u64 x.we,.int .u64 x.wO,.int .i64 x.wx,.slice 1 (x.wAD.map (D.int .u8))]
def encTOp (x:wAO):D:= .agg [.bool x.wAX,.int .u64 x.wAI,.int .i64 x.wAJ,.int .u64 x.wAM,.int .u64 x.wAS,.int .u64 x.wAP,.slice 10 (x.wAH.map encTTx)]
def encTProofParams (x:wAC):D:= .agg [.int .i64 x.wAL,.int .i64 x.wAK,.int .i64 x.wAQ]
def encTFrontier (x:wC):D:= .agg [.int .i64 x.wD,.int .i64 x.wh,.slice 1 (x.wq.map (D.int .u64))]
def encTField (x:wY):D:= .agg [.int .u64 x.P]
def encTA3 (x:wAA):D:= .agg [.int .u64 x.a0,.int .u64 x.a1,.int .u64 x.a2]
def encTAccount (x:wA):D:= .agg [.int .u64 x.ID,.int .u64 x.wX,.int .u64 x.wO]
def encTbefore (x:wI):D:= .agg [.int .i64 x.wAU,.int .i64 x.wAT,.slice 1 (x.wAV.map (D.int .u64)),.int .i64 x.leaves,.slice 1 (x.marks.map (D.int .u64)),.slice 3 (x.wAN.map encTAccount),.int .u64 x.hidden]
def encTBlock (x:wd):D:= .agg [.int .u64 x.wAR,.int .i64 x.wU,.int .u64 x.wAG,.int .u64 x.wl,.int .u64 x.wO,.slice 10 (x.Txs.map encTTx)]
def encTA2 (x:wAW):D:= .agg [.int .u64 x.a0,.int .u64 x.a1]
def encTLedger (x:wg):D:= .agg [.slice 3 (x.wB.map encTAccount)]
def encTState (x:wj):D:= .agg [.int .i64 x.wb,.int .i64 x.wR,.int .i64 x.wL,.int .i64 x.wJ,.int .i64 x.wG,.int .u64 x.wQ,.int .i64 x.wM,.int .i64 x.wP,.int .u64 x.wc,.int .i64 x.wU,.slice 1 (x.wo.map (D.int .u64)),.slice 1 (x.wE.map (D.int .u64)),.slice 3 (x.wB.map encTAccount),.int .u64 x.wv,.slice 1 (x.wn.map (D.int .u64))]
def TB:Tab where
 den:=denT
 tys:=tysT
 inh:=fun n=>match n with
  |0=>(default:wF)
  |1=>(default:ww)
  |2=>(default:wm)
  |3=>(default:wAO)
  |4=>(default:wAC)
  |5=>(default:wC)
  |6=>(default:wY)
  |7=>(default:wAA)
  |8=>(default:wA)
  |9=>(default:wI)
  |10=>(default:wd)
  |11=>(default:wAW)
  |12=>(default:wg)
  |13=>(default:wj)
  |_+14=>()
 cells:=fun n=>match n with
  |0=>fun(x:wF)=>(x.wt,x.wD,x.wN,x.wK,x.wH,x.wW,x.wa,x.wS,x.wl,())
  |1=>fun(x:ww)=>(x.wz,x.wAF,x.wAE,x.wAB,())
  |2=>fun(x:wm)=>(x.wy,x.wE,x.wT,x.wV,x.wZ,x.Fee,x.we,x.wO,x.wx,x.wAD,())
  |3=>fun(x:wAO)=>(x.wAX,x.wAI,x.wAJ,x.wAM,x.wAS,x.wAP,x.wAH,())
  |4=>fun(x:wAC)=>(x.wAL,x.wAK,x.wAQ,())
  |5=>fun(x:wC)=>(x.wD,x.wh,x.wq,())
  |6=>fun(x:wY)=>(x.P,())
  |7=>fun(x:wAA)=>(x.a0,x.a1,x.a2,())
  |8=>fun(x:wA)=>(x.ID,x.wX,x.wO,())
  |9=>fun(x:wI)=>(x.wAU,x.wAT,x.wAV,x.leaves,x.marks,x.wAN,x.hidden,())
  |10=>fun(x:wd)=>(x.wAR,x.wU,x.wAG,x.wl,x.wO,x.Txs,())
  |11=>fun(x:wAW)=>(x.a0,x.a1,())
  |12=>fun(x:wg)=>(x.wB,())
  |13=>fun(x:wj)=>(x.wb,x.wR,x.wL,x.wJ,x.wG,x.wQ,x.wM,x.wP,x.wc,x.wU,x.wo,x.wE,x.wB,x.wv,x.wn,())
  |_+14=>fun _=>()
 pack:=fun n=>match n with
  |0=>fun(q0,q1,q2,q3,q4,q5,q6,q7,q8,())=>wF.mk q0 q1 q2 q3 q4 q5 q6 q7 q8
  |1=>fun(q0,q1,q2,q3,())=>ww.mk q0 q1 q2 q3
  |2=>fun(q0,q1,q2,q3,q4,q5,q6,q7,q8,q9,())=>wm.mk q0 q1 q2 q3 q4 q5 q6 q7 q8 q9
  |3=>fun(q0,q1,q2,q3,q4,q5,q6,())=>wAO.mk q0 q1 q2 q3 q4 q5 q6
  |4=>fun(q0,q1,q2,())=>wAC.mk q0 q1 q2
  |5=>fun(q0,q1,q2,())=>wC.mk q0 q1 q2
  |6=>fun(q0,())=>wY.mk q0
  |7=>fun(q0,q1,q2,())=>wAA.mk q0 q1 q2
  |8=>fun(q0,q1,q2,())=>wA.mk q0 q1 q2
  |9=>fun(q0,q1,q2,q3,q4,q5,q6,())=>wI.mk q0 q1 q2 q3 q4 q5 q6
  |10=>fun(q0,q1,q2,q3,q4,q5,())=>wd.mk q0 q1 q2 q3 q4 q5
  |11=>fun(q0,q1,())=>wAW.mk q0 q1
  |12=>fun(q0,())=>wg.mk q0
  |13=>fun(q0,q1,q2,q3,q4,q5,q6,q7,q8,q9,q10,q11,q12,q13,q14,())=>wj.mk q0 q1 q2 q3 q4 q5 q6 q7 q8 q9 q10 q11 q12 q13 q14
  |_+14=>fun _=>()
 enc:=fun n=>match n with
  |0=>encTRules
  |1=>encTOut
  |2=>encTTx
  |3=>encTOp
  |4=>encTProofParams
  |5=>encTFrontier
  |6=>encTField
  |7=>encTA3
  |8=>encTAccount
  |9=>encTbefore
  |10=>encTBlock
  |11=>encTA2
  |12=>encTLedger
  |13=>encTState
  |_+14=>fun _=> .agg []
theorem TBok:TB.Ok where
 one:=fun n=>match n with
  |0=>rfl
  |1=>rfl
  |2=>rfl
  |3=>rfl
  |4=>rfl
  |5=>rfl
  |6=>rfl
  |7=>rfl
  |8=>rfl
  |9=>rfl
  |10=>rfl
  |11=>rfl
  |12=>rfl
  |13=>rfl
  |_+14=>rfl
 pc:=fun n x=>match n with
  |0=>rfl
  |1=>rfl
  |2=>rfl
  |3=>rfl
  |4=>rfl
  |5=>rfl
  |6=>rfl
  |7=>rfl
  |8=>rfl
  |9=>rfl
  |10=>rfl
  |11=>rfl
  |12=>rfl
  |13=>rfl
  |_+14=>rfl
 en:=fun n x=>match n with
  |0=>rfl
  |1=>rfl
  |2=>rfl
  |3=>rfl
  |4=>rfl
  |5=>rfl
  |6=>rfl
  |7=>rfl
  |8=>rfl
  |9=>rfl
  |10=>rfl
  |11=>rfl
  |12=>rfl
  |13=>rfl
  |_+14=>rfl
def ti3:TI TB.den:={ty:=some (false,1),ze:=some [.d (.int .i64) (0:Int)],un:=some (.int .i64)}
theorem ti3_ok:TI.Ok Tryz.prog TB 3 ti3:=
  ⟨(fun _ h=>(show tyOf Tryz.prog 3=some (false,1)by kernel_rfl).trans h),
   (ki trivial),
   (fun _ _ h=>by cases h),
   (fun h=>by cases h),
   (fun _ h=>by cases h),
   (fun _ h=>by cases h;exact⟨by kernel_rfl,kc (by kernel_rfl)⟩),
   (fun h=>(h rfl).elim),
   (fun _ h=>(show Tryz.prog.underlying 3=some (.int .i64)by kernel_rfl).trans h),
   (fun _ h=>by cases h),
   (fun _ _ h=>by cases h)⟩
def ti4:TI TB.den:={ty:=some (false,1),ze:=some [.d (.bool) (false:Bool)],un:=some (.bool)}
theorem ti4_ok:TI.Ok Tryz.prog TB 4 ti4:=
  ⟨(fun _ h=>(show tyOf Tryz.prog 4=some (false,1)by kernel_rfl).trans h),
   (ki trivial),
   (fun _ _ h=>by cases h),
   (fun h=>by cases h),
   (fun _ h=>by cases h),
   (fun _ h=>by cases h;exact⟨by kernel_rfl,kc (by kernel_rfl)⟩),
   (fun h=>(h rfl).elim),
   (fun _ h=>(show Tryz.prog.underlying 4=some (.bool)by kernel_rfl).trans h),
   (fun _ h=>by cases h),
   (fun _ _ h=>by cases h)⟩
def ti5:TI TB.den:={ty:=some (false,1),ze:=some [.d (.int .u8) (0:Int)],un:=some (.int .u8)}
theorem ti5_ok:TI.Ok Tryz.prog TB 5 ti5:=
  ⟨(fun _ h=>(show tyOf Tryz.prog 5=some (false,1)by kernel_rfl).trans h),
   (ki trivial),
   (fun _ _ h=>by cases h),
   (fun h=>by cases h),
   (fun _ h=>by cases h),
   (fun _ h=>by cases h;exact⟨by kernel_rfl,kc (by kernel_rfl)⟩),
   (fun h=>(h rfl).elim),
   (fun _ h=>(show Tryz.prog.underlying 5=some (.int .u8)by kernel_rfl).trans h),
   (fun _ h=>by cases h),
   (fun _ _ h=>by cases h)⟩
def ti9:TI TB.den:={ty:=some (false,1),ze:=some [.d (.str) (ByteArray.empty:ByteArray)],un:=some (.string)}
theorem ti9_ok:TI.Ok Tryz.prog TB 9 ti9:=
  ⟨(fun _ h=>(show tyOf Tryz.prog 9=some (false,1)by kernel_rfl).trans h),
   (ki trivial),
   (fun _ _ h=>by cases h),
   (fun h=>by cases h),
   (fun _ h=>by cases h),
   (fun _ h=>by cases h;exact⟨by kernel_rfl,kc (by kernel_rfl)⟩),
   (fun h=>(h rfl).elim),
   (fun _ h=>(show Tryz.prog.underlying 9=some (.string)by kernel_rfl).trans h),
   (fun _ h=>by cases h),
   (fun _ _ h=>by cases h)⟩
def ti23:TI TB.den:={ty:=some (true,3),fl:=[(0,false,1),(1,false,1),(2,false,1)],ze:=some [.d (.int .i64) (0:Int),.d (.int .i64) (0:Int),.d (.int .i64) (0:Int)],pl:=[(0,1),(1,1),(2,1)],eq:=some [.int .i64,.int .i64,.int .i64]}
theorem ti23_ok:TI.Ok Tryz.prog TB 23 ti23:=
  ⟨(fun _ h=>(show tyOf Tryz.prog 23=some (true,3)by kernel_rfl).trans h),
   (ki ⟨by kernel_rfl,by kernel_rfl,by kernel_rfl,trivial⟩),
   (fun _ _ h=>by cases h),
   (fun h=>by cases h),
   (fun _ h=>by cases h),
   (fun _ h=>by cases h;exact⟨by kernel_rfl,kc (by kernel_rfl)⟩),
   (fun _=>by kernel_rfl),
   (fun _ h=>by cases h),
   (fun _ h=>(show eqT Tryz.prog 23=some [.int .i64,.int .i64,.int .i64]by kernel_rfl).trans h),
   (fun _ _ h=>by cases h)⟩
def ti24:TI TB.den:={ty:=some (false,1),ze:=some [.d (.int .u64) (0:Int)],un:=some (.int .u64)}
theorem ti24_ok:TI.Ok Tryz.prog TB 24 ti24:=
  ⟨(fun _ h=>(show tyOf Tryz.prog 24=some (false,1)by kernel_rfl).trans h),
   (ki trivial),
   (fun _ _ h=>by cases h),
   (fun h=>by cases h),
   (fun _ h=>by cases h),
   (fun _ h=>by cases h;exact⟨by kernel_rfl,kc (by kernel_rfl)⟩),
   (fun h=>(h rfl).elim),
   (fun _ h=>(show Tryz.prog.underlying 24=some (.int .u64)by kernel_rfl).trans h),
   (fun _ h=>by cases h),
   (fun _ _ h=>by cases h)⟩
def ti26:TI TB.den:={ty:=some (true,9),fl:=[(0,false,1),(1,false,1),(2,true,3),(5,false,1),(6,false,1),(7,false,1),(8,false,1)],ze:=some [.d (.int .i64) (0:Int),.d (.int .i64) (0:Int),.d (.int .i64) (0:Int),.d (.int .i64) (0:Int),.d (.int .i64) (0:Int),.d (.int .u64) (0:Int),.d (.int .i64) (0:Int),.d (.int .i64) (0:Int),.d (.int .u64) (0:Int)],pl:=[(0,1),(1,1),(2,3),(5,1),(6,1),(7,1),(8,1)]}
theorem ti26_ok:TI.Ok Tryz.prog TB 26 ti26:=
  ⟨(fun _ h=>(show tyOf Tryz.prog 26=some (true,9)by kernel_rfl).trans h),
   (ki ⟨by kernel_rfl,by kernel_rfl,by kernel_rfl,by kernel_rfl,by kernel_rfl,by kernel_rfl,by kernel_rfl,trivial⟩),
   (fun _ _ h=>by cases h),
   (fun h=>by cases h),
   (fun _ h=>by cases h),
   (fun _ h=>by cases h;exact⟨by kernel_rfl,kc (by kernel_rfl)⟩),
   (fun _=>by kernel_rfl),
   (fun _ h=>by cases h),
   (fun _ h=>by cases h),
   (fun _ _ h=>by cases h)⟩
def ti27:TI TB.den:={ty:=some (false,1),el:=some (.st 3,72),ez:=true,ze:=some [.full (.st 3) []],un:=some (.slice 68)}
theorem ti27_ok:TI.Ok Tryz.prog TB 27 ti27:=
  ⟨(fun _ h=>(show tyOf Tryz.prog 27=some (false,1)by kernel_rfl).trans h),
   (ki trivial),
   (fun _ _ h=>by cases h;exact⟨by kernel_rfl,by kernel_rfl⟩),
   (fun _ _ _ h=>by cases h;exact⟨[.d (.bool false),.d (.int .u64 0),.d (.int .i64 0),.d (.int .u64 0),.d (.int .u64 0),.d (.int .u64 0),.full 10 []],by kernel_rfl,⟨⟨ka _,rfl⟩,⟨ka _,rfl⟩,⟨ka _,rfl⟩,⟨ka _,rfl⟩,⟨ka _,rfl⟩,⟨ka _,rfl⟩,⟨⟨rfl,rfl⟩,rfl⟩,trivial⟩⟩),
   (fun _ h=>by cases h),
   (fun _ h=>by cases h;exact⟨by kernel_rfl,kc (by kernel_rfl)⟩),
   (fun h=>(h rfl).elim),
   (fun _ h=>(show Tryz.prog.underlying 27=some (.slice 68)by kernel_rfl).trans h),
   (fun _ h=>by cases h),
   (fun _ _ h=>by cases h)⟩
def ti30:TI TB.den:={ty:=some (false,1),ze:=some [.k KC.nilPtr.v],un:=some (.pointer 89)}
theorem ti30_ok:TI.Ok Tryz.prog TB 30 ti30:=
  ⟨(fun _ h=>(show tyOf Tryz.prog 30=some (false,1)by kernel_rfl).trans h),
   (ki trivial),
   (fun _ _ h=>by cases h),
   (fun h=>by cases h),
   (fun _ h=>by cases h),
   (fun _ h=>by cases h;exact⟨by kernel_rfl,kc (by kernel_rfl)⟩),
   (fun h=>(h rfl).elim),
   (fun _ h=>(show Tryz.prog.underlying 30=some (.pointer 89)by kernel_rfl).trans h),
   (fun _ h=>by cases h),
   (fun _ _ h=>by cases h)⟩
def ti31:TI TB.den:={ty:=some (false,1),el:=some (.st 13,184),ez:=true,ze:=some [.full (.st 13) []],un:=some (.slice 55)}
theorem ti31_ok:TI.Ok Tryz.prog TB 31 ti31:=
  ⟨(fun _ h=>(show tyOf Tryz.prog 31=some (false,1)by kernel_rfl).trans h),
   (ki trivial),
   (fun _ _ h=>by cases h;exact⟨by kernel_rfl,by kernel_rfl⟩),
   (fun _ _ _ h=>by cases h;exact⟨[.d (.int .i64 0),.d (.int .i64 0),.d (.int .i64 0),.d (.int .i64 0),.d (.int .i64 0),.d (.int .u64 0),.d (.int .i64 0),.d (.int .i64 0),.d (.int .u64 0),.d (.int .i64 0),.full 1 [],.full 1 [],.full 3 [],.d (.int .u64 0),.full 1 []],by kernel_rfl,⟨⟨ka _,rfl⟩,⟨ka _,rfl⟩,⟨ka _,rfl⟩,⟨ka _,rfl⟩,⟨ka _,rfl⟩,⟨ka _,rfl⟩,⟨ka _,rfl⟩,⟨ka _,rfl⟩,⟨ka _,rfl⟩,⟨ka _,rfl⟩,⟨⟨rfl,rfl⟩,rfl⟩,⟨⟨rfl,rfl⟩,rfl⟩,⟨⟨rfl,rfl⟩,rfl⟩,⟨ka _,rfl⟩,⟨⟨rfl,rfl⟩,rfl⟩,trivial⟩⟩),
   (fun _ h=>by cases h),
   (fun _ h=>by cases h;exact⟨by kernel_rfl,kc (by kernel_rfl)⟩),
   (fun h=>(h rfl).elim),
   (fun _ h=>(show Tryz.prog.underlying 31=some (.slice 55)by kernel_rfl).trans h),
   (fun _ h=>by cases h),
   (fun _ _ h=>by cases h)⟩
def ti37:TI TB.den:={ty:=some (false,1),el:=some (.st 8,24),ez:=true,ze:=some [.full (.st 8) []],un:=some (.slice 81)}
theorem ti37_ok:TI.Ok Tryz.prog TB 37 ti37:=
  ⟨(fun _ h=>(show tyOf Tryz.prog 37=some (false,1)by kernel_rfl).trans h),
   (ki trivial),
   (fun _ _ h=>by cases h;exact⟨by kernel_rfl,by kernel_rfl⟩),
   (fun _ _ _ h=>by cases h;exact⟨[.d (.int .u64 0),.d (.int .u64 0),.d (.int .u64 0)],by kernel_rfl,⟨⟨ka _,rfl⟩,⟨ka _,rfl⟩,⟨ka _,rfl⟩,trivial⟩⟩),
   (fun _ h=>by cases h),
   (fun _ h=>by cases h;exact⟨by kernel_rfl,kc (by kernel_rfl)⟩),
   (fun h=>(h rfl).elim),
   (fun _ h=>(show Tryz.prog.underlying 37=some (.slice 81)by kernel_rfl).trans h),
   (fun _ h=>by cases h),
   (fun _ _ h=>by cases h)⟩
def ti39:TI TB.den:={ty:=some (true,1),fl:=[(0,false,1)],ze:=some [.full (.st 8) []],pl:=[(0,1)]}
theorem ti39_ok:TI.Ok Tryz.prog TB 39 ti39:=
  ⟨(fun _ h=>(show tyOf Tryz.prog 39=some (true,1)by kernel_rfl).trans h),
   (ki ⟨by kernel_rfl,trivial⟩),
   (fun _ _ h=>by cases h),
   (fun h=>by cases h),
   (fun _ h=>by cases h),
   (fun _ h=>by cases h;exact⟨by kernel_rfl,kc (by kernel_rfl)⟩),
   (fun _=>by kernel_rfl),
   (fun _ h=>by cases h),
   (fun _ h=>by cases h),
   (fun _ _ h=>by cases h)⟩
def ti43:TI TB.den:={ty:=some (false,1),el:=some (.int .u64,8),ez:=true,ze:=some [.full (.int .u64) []],un:=some (.slice 24)}
theorem ti43_ok:TI.Ok Tryz.prog TB 43 ti43:=
  ⟨(fun _ h=>(show tyOf Tryz.prog 43=some (false,1)by kernel_rfl).trans h),
   (ki trivial),
   (fun _ _ h=>by cases h;exact⟨by kernel_rfl,by kernel_rfl⟩),
   (fun _ _ _ h=>by cases h;exact⟨[.d (.int .u64 0)],by kernel_rfl,⟨⟨ka _,rfl⟩,trivial⟩⟩),
   (fun _ h=>by cases h),
   (fun _ h=>by cases h;exact⟨by kernel_rfl,kc (by kernel_rfl)⟩),
   (fun h=>(h rfl).elim),
   (fun _ h=>(show Tryz.prog.underlying 43=some (.slice 24)by kernel_rfl).trans h),
   (fun _ h=>by cases h),
   (fun _ _ h=>by cases h)⟩
def ti44:TI TB.den:={ty:=some (false,1),el:=some (.st 1,48),ez:=true,ze:=some [.full (.st 1) []],un:=some (.slice 73)}
theorem ti44_ok:TI.Ok Tryz.prog TB 44 ti44:=
  ⟨(fun _ h=>(show tyOf Tryz.prog 44=some (false,1)by kernel_rfl).trans h),
   (ki trivial),
   (fun _ _ h=>by cases h;exact⟨by kernel_rfl,by kernel_rfl⟩),
   (fun _ _ _ h=>by cases h;exact⟨[.d (.int .u64 0),.d (.int .u64 0),.d (.int .u64 0),.full 1 []],by kernel_rfl,⟨⟨ka _,rfl⟩,⟨ka _,rfl⟩,⟨ka _,rfl⟩,⟨⟨rfl,rfl⟩,rfl⟩,trivial⟩⟩),
   (fun _ h=>by cases h),
   (fun _ h=>by cases h;exact⟨by kernel_rfl,kc (by kernel_rfl)⟩),
   (fun h=>(h rfl).elim),
   (fun _ h=>(show Tryz.prog.underlying 44=some (.slice 73)by kernel_rfl).trans h),
   (fun _ h=>by cases h),
   (fun _ _ h=>by cases h)⟩
def ti45:TI TB.den:={ty:=some (false,1),el:=some (.int .u8,1),ez:=true,ze:=some [.full (.int .u8) []],un:=some (.slice 5)}
theorem ti45_ok:TI.Ok Tryz.prog TB 45 ti45:=
  ⟨(fun _ h=>(show tyOf Tryz.prog 45=some (false,1)by kernel_rfl).trans h),
   (ki trivial),
   (fun _ _ h=>by cases h;exact⟨by kernel_rfl,by kernel_rfl⟩),
   (fun _ _ _ h=>by cases h;exact⟨[.d (.int .u8 0)],by kernel_rfl,⟨⟨ka _,rfl⟩,trivial⟩⟩),
   (fun _ h=>by cases h),
   (fun _ h=>by cases h;exact⟨by kernel_rfl,kc (by kernel_rfl)⟩),
   (fun h=>(h rfl).elim),
   (fun _ h=>(show Tryz.prog.underlying 45=some (.slice 5)by kernel_rfl).trans h),
   (fun _ h=>by cases h),
   (fun _ _ h=>by cases h)⟩
def ti47:TI TB.den:={ty:=some (true,10),fl:=[(0,false,1),(1,false,1),(2,false,1),(3,false,1),(4,false,1),(5,false,1),(6,false,1),(7,false,1),(8,false,1),(9,false,1)],ze:=some [.d (.int .u64) (0:Int),.full (.int .u64) [],.full (.st 1) [],.d (.int .u64) (0:Int),.d (.int .u64) (0:Int),.d (.int .u64) (0:Int),.d (.int .u64) (0:Int),.d (.int .u64) (0:Int),.d (.int .i64) (0:Int),.full (.int .u8) []],pl:=[(0,1),(1,1),(2,1),(3,1),(4,1),(5,1),(6,1),(7,1),(8,1),(9,1)]}
theorem ti47_ok:TI.Ok Tryz.prog TB 47 ti47:=
  ⟨(fun _ h=>(show tyOf Tryz.prog 47=some (true,10)by kernel_rfl).trans h),
   (ki ⟨by kernel_rfl,by kernel_rfl,by kernel_rfl,by kernel_rfl,by kernel_rfl,by kernel_rfl,by kernel_rfl,by kernel_rfl,by kernel_rfl,by kernel_rfl,trivial⟩),
   (fun _ _ h=>by cases h),
   (fun h=>by cases h),
   (fun _ h=>by cases h),
   (fun _ h=>by cases h;exact⟨by kernel_rfl,kc (by kernel_rfl)⟩),
   (fun _=>by kernel_rfl),
   (fun _ h=>by cases h),
   (fun _ h=>by cases h),
   (fun _ _ h=>by cases h)⟩
def ti53:TI TB.den:={ty:=some (false,1),el:=some (.st 8,24),ez:=true,ze:=some [.full (.st 8) []],un:=some (.slice 114)}
theorem ti53_ok:TI.Ok Tryz.prog TB 53 ti53:=
  ⟨(fun _ h=>(show tyOf Tryz.prog 53=some (false,1)by kernel_rfl).trans h),
   (ki trivial),
   (fun _ _ h=>by cases h;exact⟨by kernel_rfl,by kernel_rfl⟩),
   (fun _ _ _ h=>by cases h;exact⟨[.d (.int .u64 0),.d (.int .u64 0),.d (.int .u64 0)],by kernel_rfl,⟨⟨ka _,rfl⟩,⟨ka _,rfl⟩,⟨ka _,rfl⟩,trivial⟩⟩),
   (fun _ h=>by cases h),
   (fun _ h=>by cases h;exact⟨by kernel_rfl,kc (by kernel_rfl)⟩),
   (fun h=>(h rfl).elim),
   (fun _ h=>(show Tryz.prog.underlying 53=some (.slice 114)by kernel_rfl).trans h),
   (fun _ h=>by cases h),
   (fun _ _ h=>by cases h)⟩
def ti55:TI TB.den:={ty:=some (true,15),fl:=[(0,true,9),(9,false,1),(10,false,1),(11,false,1),(12,false,1),(13,false,1),(14,false,1)],ze:=some [.d (.int .i64) (0:Int),.d (.int .i64) (0:Int),.d (.int .i64) (0:Int),.d (.int .i64) (0:Int),.d (.int .i64) (0:Int),.d (.int .u64) (0:Int),.d (.int .i64) (0:Int),.d (.int .i64) (0:Int),.d (.int .u64) (0:Int),.d (.int .i64) (0:Int),.full (.int .u64) [],.full (.int .u64) [],.full (.st 8) [],.d (.int .u64) (0:Int),.full (.int .u64) []],pl:=[(0,9),(9,1),(10,1),(11,1),(12,1),(13,1),(14,1)]}
theorem ti55_ok:TI.Ok Tryz.prog TB 55 ti55:=
  ⟨(fun _ h=>(show tyOf Tryz.prog 55=some (true,15)by kernel_rfl).trans h),
   (ki ⟨by kernel_rfl,by kernel_rfl,by kernel_rfl,by kernel_rfl,by kernel_rfl,by kernel_rfl,by kernel_rfl,trivial⟩),
   (fun _ _ h=>by cases h),
   (fun h=>by cases h),
   (fun _ h=>by cases h),
   (fun _ h=>by cases h;exact⟨by kernel_rfl,kc (by kernel_rfl)⟩),
   (fun _=>by kernel_rfl),
   (fun _ h=>by cases h),
   (fun _ h=>by cases h),
   (fun _ _ h=>by cases h)⟩
def ti64:TI TB.den:={ty:=some (false,1),el:=some (.st 2,128),ez:=true,ze:=some [.full (.st 2) []],un:=some (.slice 47)}
theorem ti64_ok:TI.Ok Tryz.prog TB 64 ti64:=
  ⟨(fun _ h=>(show tyOf Tryz.prog 64=some (false,1)by kernel_rfl).trans h),
   (ki trivial),
   (fun _ _ h=>by cases h;exact⟨by kernel_rfl,by kernel_rfl⟩),
   (fun _ _ _ h=>by cases h;exact⟨[.d (.int .u64 0),.full 1 [],.full 4 [],.d (.int .u64 0),.d (.int .u64 0),.d (.int .u64 0),.d (.int .u64 0),.d (.int .u64 0),.d (.int .i64 0),.full 1 []],by kernel_rfl,⟨⟨ka _,rfl⟩,⟨⟨rfl,rfl⟩,rfl⟩,⟨⟨rfl,rfl⟩,rfl⟩,⟨ka _,rfl⟩,⟨ka _,rfl⟩,⟨ka _,rfl⟩,⟨ka _,rfl⟩,⟨ka _,rfl⟩,⟨ka _,rfl⟩,⟨⟨rfl,rfl⟩,rfl⟩,trivial⟩⟩),
   (fun _ h=>by cases h),
   (fun _ h=>by cases h;exact⟨by kernel_rfl,kc (by kernel_rfl)⟩),
   (fun h=>(h rfl).elim),
   (fun _ h=>(show Tryz.prog.underlying 64=some (.slice 47)by kernel_rfl).trans h),
   (fun _ h=>by cases h),
   (fun _ _ h=>by cases h)⟩
def ti66:TI TB.den:={ty:=some (true,6),fl:=[(0,false,1),(1,false,1),(2,false,1),(3,false,1),(4,false,1),(5,false,1)],ze:=some [.d (.int .u64) (0:Int),.d (.int .i64) (0:Int),.d (.int .u64) (0:Int),.d (.int .u64) (0:Int),.d (.int .u64) (0:Int),.full (.st 2) []],pl:=[(0,1),(1,1),(2,1),(3,1),(4,1),(5,1)]}
theorem ti66_ok:TI.Ok Tryz.prog TB 66 ti66:=
  ⟨(fun _ h=>(show tyOf Tryz.prog 66=some (true,6)by kernel_rfl).trans h),
   (ki ⟨by kernel_rfl,by kernel_rfl,by kernel_rfl,by kernel_rfl,by kernel_rfl,by kernel_rfl,trivial⟩),
   (fun _ _ h=>by cases h),
   (fun h=>by cases h),
   (fun _ h=>by cases h),
   (fun _ h=>by cases h;exact⟨by kernel_rfl,kc (by kernel_rfl)⟩),
   (fun _=>by kernel_rfl),
   (fun _ h=>by cases h),
   (fun _ h=>by cases h),
   (fun _ _ h=>by cases h)⟩
def ti68:TI TB.den:={ty:=some (true,7),fl:=[(0,false,1),(1,true,6)],ze:=some [.d (.bool) (false:Bool),.d (.int .u64) (0:Int),.d (.int .i64) (0:Int),.d (.int .u64) (0:Int),.d (.int .u64) (0:Int),.d (.int .u64) (0:Int),.full (.st 2) []],pl:=[(0,1),(1,6)]}
theorem ti68_ok:TI.Ok Tryz.prog TB 68 ti68:=
  ⟨(fun _ h=>(show tyOf Tryz.prog 68=some (true,7)by kernel_rfl).trans h),
   (ki ⟨by kernel_rfl,by kernel_rfl,trivial⟩),
   (fun _ _ h=>by cases h),
   (fun h=>by cases h),
   (fun _ h=>by cases h),
   (fun _ h=>by cases h;exact⟨by kernel_rfl,kc (by kernel_rfl)⟩),
   (fun _=>by kernel_rfl),
   (fun _ h=>by cases h),
   (fun _ h=>by cases h),
   (fun _ _ h=>by cases h)⟩
def ti71:TI TB.den:={ty:=some (true,2),ar:=some (2,false,1),ze:=some [.d (.int .u64) (0:Int),.d (.int .u64) (0:Int)],pl:=[(0,1),(1,1)],un:=some (.array 2 24)}
theorem ti71_ok:TI.Ok Tryz.prog TB 71 ti71:=
  ⟨(fun _ h=>(show tyOf Tryz.prog 71=some (true,2)by kernel_rfl).trans h),
   (ki trivial),
   (fun _ _ h=>by cases h),
   (fun h=>by cases h),
   (fun _ h=>by cases h;exact⟨by kernel_rfl,by kernel_rfl⟩),
   (fun _ h=>by cases h;exact⟨by kernel_rfl,kc (by kernel_rfl)⟩),
   (fun _=>by kernel_rfl),
   (fun _ h=>(show Tryz.prog.underlying 71=some (.array 2 24)by kernel_rfl).trans h),
   (fun _ h=>by cases h),
   (fun _ _ h=>by cases h)⟩
def ti73:TI TB.den:={ty:=some (true,4),fl:=[(0,false,1),(1,true,2),(3,false,1)],ze:=some [.d (.int .u64) (0:Int),.d (.int .u64) (0:Int),.d (.int .u64) (0:Int),.full (.int .u64) []],pl:=[(0,1),(1,2),(3,1)]}
theorem ti73_ok:TI.Ok Tryz.prog TB 73 ti73:=
  ⟨(fun _ h=>(show tyOf Tryz.prog 73=some (true,4)by kernel_rfl).trans h),
   (ki ⟨by kernel_rfl,by kernel_rfl,by kernel_rfl,trivial⟩),
   (fun _ _ h=>by cases h),
   (fun h=>by cases h),
   (fun _ h=>by cases h),
   (fun _ h=>by cases h;exact⟨by kernel_rfl,kc (by kernel_rfl)⟩),
   (fun _=>by kernel_rfl),
   (fun _ h=>by cases h),
   (fun _ h=>by cases h),
   (fun _ _ h=>by cases h)⟩
def ti81:TI TB.den:={ty:=some (true,3),fl:=[(0,false,1),(1,false,1),(2,false,1)],ze:=some [.d (.int .u64) (0:Int),.d (.int .u64) (0:Int),.d (.int .u64) (0:Int)],pl:=[(0,1),(1,1),(2,1)],eq:=some [.int .u64,.int .u64,.int .u64]}
theorem ti81_ok:TI.Ok Tryz.prog TB 81 ti81:=
  ⟨(fun _ h=>(show tyOf Tryz.prog 81=some (true,3)by kernel_rfl).trans h),
   (ki ⟨by kernel_rfl,by kernel_rfl,by kernel_rfl,trivial⟩),
   (fun _ _ h=>by cases h),
   (fun h=>by cases h),
   (fun _ h=>by cases h),
   (fun _ h=>by cases h;exact⟨by kernel_rfl,kc (by kernel_rfl)⟩),
   (fun _=>by kernel_rfl),
   (fun _ h=>by cases h),
   (fun _ h=>(show eqT Tryz.prog 81=some [.int .u64,.int .u64,.int .u64]by kernel_rfl).trans h),
   (fun _ _ h=>by cases h)⟩
def ti85:TI TB.den:={ty:=some (true,3),fl:=[(0,false,1),(1,false,1),(2,false,1)],ze:=some [.d (.int .i64) (0:Int),.d (.int .i64) (0:Int),.full (.int .u64) []],pl:=[(0,1),(1,1),(2,1)]}
theorem ti85_ok:TI.Ok Tryz.prog TB 85 ti85:=
  ⟨(fun _ h=>(show tyOf Tryz.prog 85=some (true,3)by kernel_rfl).trans h),
   (ki ⟨by kernel_rfl,by kernel_rfl,by kernel_rfl,trivial⟩),
   (fun _ _ h=>by cases h),
   (fun h=>by cases h),
   (fun _ h=>by cases h),
   (fun _ h=>by cases h;exact⟨by kernel_rfl,kc (by kernel_rfl)⟩),
   (fun _=>by kernel_rfl),
   (fun _ h=>by cases h),
   (fun _ h=>by cases h),
   (fun _ _ h=>by cases h)⟩
def ti86:TI TB.den:={ty:=some (false,1),ze:=some [.k KC.nilPtr.v],un:=some (.pointer 125)}
theorem ti86_ok:TI.Ok Tryz.prog TB 86 ti86:=
  ⟨(fun _ h=>(show tyOf Tryz.prog 86=some (false,1)by kernel_rfl).trans h),
   (ki trivial),
   (fun _ _ h=>by cases h),
   (fun h=>by cases h),
   (fun _ h=>by cases h),
   (fun _ h=>by cases h;exact⟨by kernel_rfl,kc (by kernel_rfl)⟩),
   (fun h=>(h rfl).elim),
   (fun _ h=>(show Tryz.prog.underlying 86=some (.pointer 125)by kernel_rfl).trans h),
   (fun _ h=>by cases h),
   (fun _ _ h=>by cases h)⟩
def ti87:TI TB.den:={ty:=some (false,1),el:=some (.st 9,104),ez:=true,ze:=some [.full (.st 9) []],un:=some (.slice 108)}
theorem ti87_ok:TI.Ok Tryz.prog TB 87 ti87:=
  ⟨(fun _ h=>(show tyOf Tryz.prog 87=some (false,1)by kernel_rfl).trans h),
   (ki trivial),
   (fun _ _ h=>by cases h;exact⟨by kernel_rfl,by kernel_rfl⟩),
   (fun _ _ _ h=>by cases h;exact⟨[.d (.int .i64 0),.d (.int .i64 0),.full 1 [],.d (.int .i64 0),.full 1 [],.full 3 [],.d (.int .u64 0)],by kernel_rfl,⟨⟨ka _,rfl⟩,⟨ka _,rfl⟩,⟨⟨rfl,rfl⟩,rfl⟩,⟨ka _,rfl⟩,⟨⟨rfl,rfl⟩,rfl⟩,⟨⟨rfl,rfl⟩,rfl⟩,⟨ka _,rfl⟩,trivial⟩⟩),
   (fun _ h=>by cases h),
   (fun _ h=>by cases h;exact⟨by kernel_rfl,kc (by kernel_rfl)⟩),
   (fun h=>(h rfl).elim),
   (fun _ h=>(show Tryz.prog.underlying 87=some (.slice 108)by kernel_rfl).trans h),
   (fun _ h=>by cases h),
   (fun _ _ h=>by cases h)⟩
def ti89:TI TB.den:={ty:=some (true,18),fl:=[(0,true,9),(9,true,3),(12,false,1),(13,false,1),(14,true,1),(15,false,1),(16,false,1),(17,false,1)],ze:=some [.d (.int .i64) (0:Int),.d (.int .i64) (0:Int),.d (.int .i64) (0:Int),.d (.int .i64) (0:Int),.d (.int .i64) (0:Int),.d (.int .u64) (0:Int),.d (.int .i64) (0:Int),.d (.int .i64) (0:Int),.d (.int .u64) (0:Int),.d (.int .i64) (0:Int),.d (.int .i64) (0:Int),.full (.int .u64) [],.full (.int .u64) [],.k KC.nilPtr.v,.full (.st 8) [],.d (.int .u64) (0:Int),.full (.int .u64) [],.full (.st 9) []],pl:=[(0,9),(9,3),(12,1),(13,1),(14,1),(15,1),(16,1),(17,1)]}
theorem ti89_ok:TI.Ok Tryz.prog TB 89 ti89:=
  ⟨(fun _ h=>(show tyOf Tryz.prog 89=some (true,18)by kernel_rfl).trans h),
   (ki ⟨by kernel_rfl,by kernel_rfl,by kernel_rfl,by kernel_rfl,by kernel_rfl,by kernel_rfl,by kernel_rfl,by kernel_rfl,trivial⟩),
   (fun _ _ h=>by cases h),
   (fun h=>by cases h),
   (fun _ h=>by cases h),
   (fun _ h=>by cases h;exact⟨by kernel_rfl,kc (by kernel_rfl)⟩),
   (fun _=>by kernel_rfl),
   (fun _ h=>by cases h),
   (fun _ h=>by cases h),
   (fun _ _ h=>by cases h)⟩
def ti100:TI TB.den:={ty:=some (false,1),ze:=some [.d (.int .u64) (0:Int)],un:=some (.int .u64)}
theorem k1zi:TI.Ok Tryz.prog TB 100 ti100:=
  ⟨(fun _ h=>(show tyOf Tryz.prog 100=some (false,1)by kernel_rfl).trans h),
   (ki trivial),
   (fun _ _ h=>by cases h),
   (fun h=>by cases h),
   (fun _ h=>by cases h),
   (fun _ h=>by cases h;exact⟨by kernel_rfl,kc (by kernel_rfl)⟩),
   (fun h=>(h rfl).elim),
   (fun _ h=>(show Tryz.prog.underlying 100=some (.int .u64)by kernel_rfl).trans h),
   (fun _ h=>by cases h),
   (fun _ _ h=>by cases h)⟩
def ti108:TI TB.den:={ty:=some (true,7),fl:=[(0,true,3),(3,false,1),(4,false,1),(5,true,1),(6,false,1)],ze:=some [.d (.int .i64) (0:Int),.d (.int .i64) (0:Int),.full (.int .u64) [],.d (.int .i64) (0:Int),.full (.int .u64) [],.full (.st 8) [],.d (.int .u64) (0:Int)],pl:=[(0,3),(3,1),(4,1),(5,1),(6,1)]}
theorem k1yi:TI.Ok Tryz.prog TB 108 ti108:=
  ⟨(fun _ h=>(show tyOf Tryz.prog 108=some (true,7)by kernel_rfl).trans h),
   (ki ⟨by kernel_rfl,by kernel_rfl,by kernel_rfl,by kernel_rfl,by kernel_rfl,trivial⟩),
   (fun _ _ h=>by cases h),
   (fun h=>by cases h),
   (fun _ h=>by cases h),
   (fun _ h=>by cases h;exact⟨by kernel_rfl,kc (by kernel_rfl)⟩),
   (fun _=>by kernel_rfl),
   (fun _ h=>by cases h),
   (fun _ h=>by cases h),
   (fun _ _ h=>by cases h)⟩
def ti114:TI TB.den:={ty:=some (true,3),fl:=[(0,false,1),(1,false,1),(2,false,1)],ze:=some [.d (.int .u64) (0:Int),.d (.int .u64) (0:Int),.d (.int .u64) (0:Int)],pl:=[(0,1),(1,1),(2,1)],eq:=some [.int .u64,.int .u64,.int .u64]}
theorem k1ze:TI.Ok Tryz.prog TB 114 ti114:=
  ⟨(fun _ h=>(show tyOf Tryz.prog 114=some (true,3)by kernel_rfl).trans h),
   (ki ⟨by kernel_rfl,by kernel_rfl,by kernel_rfl,trivial⟩),
   (fun _ _ h=>by cases h),
   (fun h=>by cases h),
   (fun _ h=>by cases h),
   (fun _ h=>by cases h;exact⟨by kernel_rfl,kc (by kernel_rfl)⟩),
   (fun _=>by kernel_rfl),
   (fun _ h=>by cases h),
   (fun _ h=>(show eqT Tryz.prog 114=some [.int .u64,.int .u64,.int .u64]by kernel_rfl).trans h),
   (fun _ _ h=>by cases h)⟩
def ti123:TI TB.den:={ty:=some (false,1),ze:=some [.k KC.nilMap.v],mp:=some (.int .u64,.bool),un:=some (.map 24 4)}
theorem k1zs:TI.Ok Tryz.prog TB 123 ti123:=
  ⟨(fun _ h=>(show tyOf Tryz.prog 123=some (false,1)by kernel_rfl).trans h),
   (ki trivial),
   (fun _ _ h=>by cases h),
   (fun h=>by cases h),
   (fun _ h=>by cases h),
   (fun _ h=>by cases h;exact⟨by kernel_rfl,kc (by kernel_rfl)⟩),
   (fun h=>(h rfl).elim),
   (fun _ h=>(show Tryz.prog.underlying 123=some (.map 24 4)by kernel_rfl).trans h),
   (fun _ h=>by cases h),
   (fun _ _ h=>by cases h;exact⟨4,.int .u64,⟨24,by kernel_rfl,by kernel_rfl⟩,fun _=>rfl,zIs_mk (z0:= .d (.bool false)) (by kernel_rfl) (ka (V.d (.bool false)))⟩)⟩
def ti125:TI TB.den:={ty:=some (true,1),fl:=[(0,false,1)],ze:=some [.k KC.nilMap.v],pl:=[(0,1)]}
theorem k1zd:TI.Ok Tryz.prog TB 125 ti125:=
  ⟨(fun _ h=>(show tyOf Tryz.prog 125=some (true,1)by kernel_rfl).trans h),
   (ki ⟨by kernel_rfl,trivial⟩),
   (fun _ _ h=>by cases h),
   (fun h=>by cases h),
   (fun _ h=>by cases h),
   (fun _ h=>by cases h;exact⟨by kernel_rfl,kc (by kernel_rfl)⟩),
   (fun _=>by kernel_rfl),
   (fun _ h=>by cases h),
   (fun _ h=>by cases h),
   (fun _ _ h=>by cases h)⟩
def ti165:TI TB.den:={ty:=some (true,1),fl:=[(0,false,1)],ze:=some [.d (.int .u64) (0:Int)],pl:=[(0,1)],eq:=some [.int .u64]}
theorem k1ys:TI.Ok Tryz.prog TB 165 ti165:=
  ⟨(fun _ h=>(show tyOf Tryz.prog 165=some (true,1)by kernel_rfl).trans h),
   (ki ⟨by kernel_rfl,trivial⟩),
   (fun _ _ h=>by cases h),
   (fun h=>by cases h),
   (fun _ h=>by cases h),
   (fun _ h=>by cases h;exact⟨by kernel_rfl,kc (by kernel_rfl)⟩),
   (fun _=>by kernel_rfl),
   (fun _ h=>by cases h),
   (fun _ h=>(show eqT Tryz.prog 165=some [.int .u64]by kernel_rfl).trans h),
   (fun _ _ h=>by cases h)⟩
def ti166:TI TB.den:={ty:=some (true,3),ar:=some (3,false,1),ze:=some [.d (.int .u64) (0:Int),.d (.int .u64) (0:Int),.d (.int .u64) (0:Int)],pl:=[(0,1),(1,1),(2,1)],un:=some (.array 3 24)}
theorem k1zu:TI.Ok Tryz.prog TB 166 ti166:=
  ⟨(fun _ h=>(show tyOf Tryz.prog 166=some (true,3)by kernel_rfl).trans h),
   (ki trivial),
   (fun _ _ h=>by cases h),
   (fun h=>by cases h),
   (fun _ h=>by cases h;exact⟨by kernel_rfl,by kernel_rfl⟩),
   (fun _ h=>by cases h;exact⟨by kernel_rfl,kc (by kernel_rfl)⟩),
   (fun _=>by kernel_rfl),
   (fun _ h=>(show Tryz.prog.underlying 166=some (.array 3 24)by kernel_rfl).trans h),
   (fun _ h=>by cases h),
   (fun _ _ h=>by cases h)⟩
def ti168:TI TB.den:={ty:=some (false,1),ze:=some [.d (.int .u64) (0:Int)],un:=some (.int .u64)}
theorem k1zt:TI.Ok Tryz.prog TB 168 ti168:=
  ⟨(fun _ h=>(show tyOf Tryz.prog 168=some (false,1)by kernel_rfl).trans h),
   (ki trivial),
   (fun _ _ h=>by cases h),
   (fun h=>by cases h),
   (fun _ h=>by cases h),
   (fun _ h=>by cases h;exact⟨by kernel_rfl,kc (by kernel_rfl)⟩),
   (fun h=>(h rfl).elim),
   (fun _ h=>(show Tryz.prog.underlying 168=some (.int .u64)by kernel_rfl).trans h),
   (fun _ h=>by cases h),
   (fun _ _ h=>by cases h)⟩
def inf:BT (TI TB.den):=(.nd (.nd (.nd (.nd (.nd (.nd .lf 3 ti3 .lf) 4 ti4 .lf) 5 ti5 (.nd .lf 9 ti9 .lf)) 23 ti23 (.nd (.nd (.nd .lf 24 ti24 .lf) 26 ti26 .lf) 27 ti27 (.nd .lf 30 ti30 .lf))) 31 ti31 (.nd (.nd (.nd (.nd .lf 37 ti37 .lf) 39 ti39 .lf) 43 ti43 (.nd .lf 44 ti44 .lf)) 45 ti45 (.nd (.nd .lf 47 ti47 .lf) 53 ti53 (.nd .lf 55 ti55 .lf)))) 64 ti64 (.nd (.nd (.nd (.nd (.nd .lf 66 ti66 .lf) 68 ti68 .lf) 71 ti71 (.nd .lf 73 ti73 .lf)) 81 ti81 (.nd (.nd .lf 85 ti85 .lf) 86 ti86 (.nd .lf 87 ti87 .lf))) 89 ti89 (.nd (.nd (.nd (.nd .lf 100 ti100 .lf) 108 ti108 .lf) 114 ti114 (.nd .lf 123 ti123 .lf)) 125 ti125 (.nd (.nd .lf 165 ti165 .lf) 166 ti166 (.nd .lf 168 ti168 .lf)))))
theorem inf_ok:InfoOk Tryz.prog TB inf:=(find_nd ti64_ok (find_nd ti31_ok (find_nd ti23_ok (find_nd ti5_ok (find_nd ti4_ok (find_nd ti3_ok kh kh) kh) (find_nd ti9_ok kh kh)) (find_nd ti27_ok (find_nd ti26_ok (find_nd ti24_ok kh kh) kh) (find_nd ti30_ok kh kh))) (find_nd ti45_ok (find_nd ti43_ok (find_nd ti39_ok (find_nd ti37_ok kh kh) kh) (find_nd ti44_ok kh kh)) (find_nd ti53_ok (find_nd ti47_ok kh kh) (find_nd ti55_ok kh kh)))) (find_nd ti89_ok (find_nd ti81_ok (find_nd ti71_ok (find_nd ti68_ok (find_nd ti66_ok kh kh) kh) (find_nd ti73_ok kh kh)) (find_nd ti86_ok (find_nd ti85_ok kh kh) (find_nd ti87_ok kh kh))) (find_nd k1zd (find_nd k1ze (find_nd k1yi (find_nd k1zi kh kh) kh) (find_nd k1zs kh kh)) (find_nd k1zu (find_nd k1ys kh kh) (find_nd k1zt kh kh)))))
theorem mix:Tryz.prog.follows .mixedOrders=true:=by kernel_rfl
def x37:XCon TB.den:=⟨37,[.int .u64,.int .u64,.int .u64],[.int .u64,.int .u64],fun x=>(fun(a0 a1 a2:Int)=>0<=a0/\0<=a1/\0<=a2/\a2<=1) x.1 x.2.1 x.2.2.1,fun x=>((fun(a0 a1 a2:Int)=>(a0+a1+a2)%18446744073709551616) x.1 x.2.1 x.2.2.1,(fun(a0 a1 a2:Int)=>(a0+a1+a2)/18446744073709551616) x.1 x.2.1 x.2.2.1,())⟩
theorem x37_ok:x37.Ok Tryz.prog TB:=⟨rfl,fun x h=>k1qt Tryz.func37 (by kernel_rfl) (by kernel_rfl) (by kernel_rfl) (by kernel_rfl) x.1 x.2.1 x.2.2.1 h.1 h.2.1 h.2.2.1 h.2.2.2⟩
abbrev CI (c:Con TB.den):=HL TB.den (hsT c.ins (hsOs c.pre))
abbrev CO (c:Con TB.den):=HL TB.den (hsV c.res (hsOs c.post))
abbrev yqi:Ty:= .int .i64
abbrev yqu:Ty:= .int .u64
abbrev yqb:Ty:= .int .u8
abbrev zqi:Sh1:= .d yqi
abbrev zqu:Sh1:= .d yqu
abbrev zqb:Sh1:= .d yqb
abbrev zql:Sh1:= .d (.sl yqu)
end Go.Proofs.YtlfcebhnjkcmnaaGreat
namespace Go.Bv
open Go.RowKit Go.Deep
def limOf (w:World) (b:Nat):Nat:=match w.heap[b]? with
 |some (.cells c _ _)=>c.size
 |_=>0
theorem k1vu {w:World} {b o:Nat} {v:Value} (h:w.cell? ⟨b,o,none⟩=some v):o<limOf w b:=by
 unfold World.cell? at h
 unfold limOf
 simp only at h
 split at h
 ·rename_i c _ _ hh
  rw[hh]
  simp only[Option.isSome_none,Bool.false_eq_true,if_false]at h
  exact(Array.getElem?_eq_some_iff.1 h).1
 ·cases h
def isAggT (P:Program) (e:TypeId):Bool:=match P.underlying e with
 |some (.struct _)=>true
 |some (.array _ _)=>true
 |_=>false
def mkD (P:Program) (e:TypeId) (cs:List D):D:=if isAggT P e then .agg cs else cs.headD (.bool false)
def tiles (P:Program) (tot:Nat):List (TypeId×Nat)->Nat->Bool
 |[],o=>o==tot
 |p::r,o=>p.2==o&&tiles P tot r (o+P.cellsOf p.1)
def fsOf (fs:Array Field):List (TypeId×Nat):=fs.toList.map fun f=>(f.type,f.offset)
def arOf (P:Program) (n:Nat) (e:TypeId):List (TypeId×Nat):=(List.range n).map fun i=>(e,i*P.cellsOf e)
def dataT (P:Program):Nat->TypeId->Bool
 |0,_=>false
 |k+1,t=>match P.underlying t with
  |some .bool=>true
  |some (.int _)=>true
  |some .string=>true
  |some (.slice e)=>decide (0<P.cellsOf e)&&dataT P k e
  |some (.struct fs)=>tiles P (P.cellsOf t) (fsOf fs) 0&&(fsOf fs).all fun p=>dataT P k p.1
  |some (.array n e)=>tiles P (P.cellsOf t) (arOf P n e) 0&&dataT P k e
  |_=>false
def RelFs {H:Type} (R:TypeId->List D->DataW H->Prop):List (TypeId×Nat)->List D->List (DataW H)->Prop
 |[],ds,ps=>ds=[]/\ps=[]
 |t::ts,ds,ps=>∃d1 d2 p qs,R t.1 d1 p/\RelFs R ts d2 qs/\ds=d1++d2/\ps=p::qs
def Rel {H:Type} (P:Program):Nat->TypeId->List D->DataW H->Prop
 |0,_,_,_=>False
 |k+1,t,ds,d=>match P.underlying t with
  |some .bool=>∃b,ds=[.bool b]/\d= .lit (.bool b)
  |some (.int q)=>∃i,ds=[.int q i]/\d= .lit (.int q i)/\(Lit.int q i).wf=true
  |some .string=>∃s:ByteArray,ds=[.str s]/\d= .lit (.string s.data.toList)
  | some (.slice e)=>∃l:List (List D),ds=[.slice (P.cellsOf e) (l.map (mkD P e))]/\l.length<=maxLen/\
    ((l=[]/\d= .nil)∨∃elems spare,d= .slice elems spare/\l.length=elems.length/\∀(j:Nat) (x:List D) (y:DataW H),l[j]? =some x->elems[j]? =some y->Rel P k e x y)
  |some (.struct fs)=>∃ps,d= .agg ps/\RelFs (Rel P k) (fsOf fs) ds ps
  |some (.array n e)=>∃ps,d= .agg ps/\RelFs (Rel P k) (arOf P n e) ds ps
  |_=>False
def Holds (w:World) (cs:List Value) (ds:List D):Prop:=ds.length=cs.length/\∀(j:Nat) (v:Value) (c:D),cs[j]? =some v->ds[j]? =some c->RepD (limOf w) w v c
theorem Holds.append {w:World} {a b:List Value} {x y:List D} (h1:Holds w a x) (h2:Holds w b y):Holds w (a++b) (x++y):=by
 refine⟨by simp[h1.1,h2.1],fun j v c hv hc=> ?_⟩
 by_cases hj:j<a.length
 ·rw[List.getElem?_append_left hj]at hv
  rw[List.getElem?_append_left (by rw[h1.1];exact hj)]at hc
  exact h1.2 j v c hv hc
 ·rw[List.getElem?_append_right (by omega)]at hv
  rw[List.getElem?_append_right (by rw[h1.1];omega),h1.1]at hc
  exact h2.2 _ v c hv hc
theorem Holds.one {w:World} {v:Value} {d:D} (h:RepD (limOf w) w v d):Holds w [v] [d]:=by
 refine⟨rfl,fun j u c hu hc=> ?_⟩
 cases j with
 |zero=>simp at hu hc;subst hu;subst hc;exact h
 |succ j=>simp at hu
section
variable {H:Type} {P:Program} {w:World} {cs:List Value}
theorem k11x {tot:Nat} (htot:cs.length=tot) (ok:Value->Prop) (hok:∀v∈cs,ok v) (R:TypeId->List D->DataW H->Prop) (g:TypeId->List Value->Option (DataW H×List MemPlace)):
  ∀(L:List (TypeId×Nat)) (o:Nat) (xs:List (DataW H×List MemPlace)),tiles P tot L o=true->xs.length=L.length->
   (∀p∈L,∀cs' y,(∀v∈cs',ok v)->g p.1 cs' =some y->∃ds,Holds w cs' ds/\R p.1 ds y.1)->
   (∀(i:Nat) (p:TypeId×Nat),L[i]? =some p->g p.1 ((cs.drop p.2).take (P.cellsOf p.1))=xs[i]?)->
   ∃ds,Holds w (cs.drop o) ds/\RelFs R L ds (xs.map (·.1))
 |[],o,xs,ht,hl,_,_=>by
  simp[tiles]at ht
  have:xs=[]:=by simpa using hl
  subst this
  refine⟨[],⟨?_,?_⟩,rfl,rfl⟩
  ·simp;omega
  ·intro j v c _ hc;simp at hc
 |p::L,o,xs,ht,hl,hg,hx=>by
  simp[tiles]at ht
  obtain⟨h0,ht⟩:=ht
  cases xs with
  |nil=>simp at hl
  |cons y ys=>
   have h1:=hx 0 p rfl
   simp only[List.getElem?_cons_zero]at h1
   obtain⟨d1,hd1,hr1⟩:=hg p (by simp) _ y (fun v hv=>hok v (List.mem_of_mem_drop (List.mem_of_mem_take hv))) h1
   obtain⟨d2,hd2,hr2⟩:=k11x htot ok hok R g L (o+P.cellsOf p.1) ys ht (by simpa using hl) (fun q hq=>hg q (by simp[hq])) (fun i q hq=>by simpa using hx (i+1) q (by simpa using hq))
   refine⟨d1++d2,?_,d1,d2,y.1,_,hr1,hr2,rfl,rfl⟩
   have:=hd1.append hd2
   rw[h0,<-List.drop_drop,List.take_append_drop]at this
   exact this
end
section
variable {H:Type} {enc:TypeId×Value->H} {P:Program} {w:World}
theorem rel_mk {k:Nat} {e:TypeId} {x:List D} {d:DataW H} (hr:Rel P k e x d) (h1:∀c∈x,c.one=true):(mkD P e x).cells=x:=by
 cases k with
 |zero=>exact hr.elim
 |succ k=>
  unfold mkD
  split
  ·rfl
  ·rename_i ha
   unfold Rel at hr
   split at hr
   ·obtain⟨b,rfl,_⟩:=hr;rfl
   ·obtain⟨b,rfl,_⟩:=hr;rfl
   ·obtain⟨b,rfl,_⟩:=hr;rfl
   ·obtain⟨b,rfl,_⟩:=hr;rfl
   ·rename_i h;exact absurd (by simp[isAggT,h]) ha
   ·rename_i h;exact absurd (by simp[isAggT,h]) ha
   ·exact hr.elim
theorem kr5:∀(k:Nat) (t:TypeId),dataT P k t=true->∀(n:Nat) (cs:List Value) (y:DataW H×List MemPlace),
  DataW.trod enc P w 0 (fun _=>true) true n t cs=some y->∃ds,Holds w cs ds/\Rel P k t ds y.1
 |0,_,h=>by cases h
 |k+1,t,hT=>by
  intro n cs y h
  unfold dataT at hT
  split at hT
  ·rename_i hu
   obtain⟨b,rfl,rfl⟩:=DataW.trod_bool hu h
   exact⟨[.bool b],Holds.one (.bool b),by simp[Rel,hu]⟩
  ·rename_i q hu
   obtain⟨i,rfl,rfl,hw⟩:=DataW.trod_int hu h
   exact⟨[.int q i],Holds.one (.int q i),by simp[Rel,hu,hw]⟩
  ·rename_i hu
   obtain⟨s,rfl,rfl,hs⟩:=DataW.trod_string hu h
   exact⟨[.str s],Holds.one (.str s),by simp only[Rel,hu];exact⟨s,rfl,rfl⟩⟩
  ·rename_i e hu
   simp only[Bool.and_eq_true,decide_eq_true_eq]at hT
   obtain⟨hpos,hT⟩:=hT
   rcases open_slice hu h with⟨rfl,rfl⟩|⟨a,len,cap,m,n',Dd,Pl,rfl,_,hlc,hcm,hm,rfl,hel⟩
   ·exact⟨[.slice (P.cellsOf e) []],Holds.one (.nil none _),by simp only[Rel,hu];exact⟨[],rfl,Nat.zero_le _,.inl ⟨by trivial,by trivial⟩⟩⟩
   ·simp only[if_true]at hm
    subst hm
    by_cases hm0:m=0
    ·subst hm0
     have hl0:len=0:=by omega
     subst hl0
     refine⟨[.slice (P.cellsOf e) []],Holds.one (.nil (some a) _),?_⟩
     simp only[Rel,hu]
     exact⟨[],rfl,Nat.zero_le _,.inr ⟨_,_,rfl,by simp,by intro j x y hx;simp at hx⟩⟩
    have hel' :∀i,i<len->∃x:List D,∃cs',w.cells? 0 (a.add (i*P.cellsOf e)) (P.cellsOf e)=some cs'/\Holds w cs' x/\Rel P k e x (Dd i):=by
     intro i hi
     obtain⟨cs',h1,h2⟩:=hel i (by omega)
     obtain⟨ds,h3,h4⟩:=kr5 k e hT n' cs' _ h2
     exact⟨ds,cs',h1,h3,h4⟩
    obtain⟨f,hf⟩:=choose_lt hel'
    have hspot:a.spot=none:=by
     obtain⟨cs',h1,h2⟩:=hel 0 (by omega)
     have h3:=(World.cells?_some h1).2.2 0 (by omega)
     have h4:=(World.cells?_some h1).2.1
     rw[List.getElem?_eq_getElem (by omega)]at h3
     unfold World.cell? at h3
     split at h3
     ·split at h3
      ·cases h3
      ·rename_i hs;simpa[Addr.add]using hs
     ·cases h3
    obtain⟨b,off,sp⟩:=a
    simp only at hspot
    subst hspot
    have hone:∀i,i<len->∀c∈f i,c.one=true:=by
     intro i hi c hc
     obtain⟨cs',h1,h2,h3⟩:=hf i hi
     obtain⟨j,hj⟩:=List.getElem?_of_mem hc
     have hjl:j<cs'.length:=by rw[<-h2.1];exact(List.getElem?_eq_some_iff.1 hj).1
     exact(h2.2 j _ c (List.getElem?_eq_getElem hjl) hj).done
    have hmk:∀i,i<len->(mkD P e (f i)).cells=f i:=fun i hi=>by
     obtain⟨cs',h1,h2,h3⟩:=hf i hi
     exact rel_mk h3 (hone i hi)
    have hsz:∀d∈((List.range len).map f).map (mkD P e),d.cells.length=P.cellsOf e/\∀c∈d.cells,c.one=true:=by
     intro d hd
     simp only[List.map_map,List.mem_map,List.mem_range,Function.comp]at hd
     obtain⟨i,hi,rfl⟩:=hd
     obtain⟨cs',h1,h2,h3⟩:=hf i hi
     rw[hmk i hi]
     exact⟨by rw[h2.1];exact(World.cells?_some h1).2.1,hone i hi⟩
    have hget:∀i,i<len->(((List.range len).map f).map (mkD P e))[i]? =some (mkD P e (f i)):=by
     intro i hi
     simp[List.getElem?_map,List.getElem?_range hi]
    have hfl:=k1k hsz
    simp only[List.length_map,List.length_range]at hfl
    have hat:∀(j:Nat) (u:Value),((List.range (len*P.cellsOf e)).map fun j=>(w.cell? ⟨b,off+j,none⟩).getD undef)[j]? =some u->j<len*P.cellsOf e/\w.cell? ⟨b,off+j,none⟩=some u:=by
     intro j u hu
     have hj:j<len*P.cellsOf e:=by simpa using(List.getElem?_eq_some_iff.1 hu).1
     refine⟨hj,?_⟩
     simp only[List.getElem?_map,List.getElem?_range hj,Option.map_some,Option.some.injEq]at hu
     have hi:j/P.cellsOf e<len:=by rw[Nat.div_lt_iff_lt_mul hpos];exact hj
     have hr:j%P.cellsOf e<P.cellsOf e:=Nat.mod_lt _ hpos
     obtain⟨cs',h1,h2,h3⟩:=hf _ hi
     have e1:j/P.cellsOf e*P.cellsOf e+j%P.cellsOf e=j:=by rw[Nat.mul_comm];exact Nat.div_add_mod j _
     have h4:=(World.cells?_some h1).2.2 _ hr
     have h5:=(World.cells?_some h1).2.1
     have e2:(Addr.add ⟨b,off,none⟩ (j/P.cellsOf e*P.cellsOf e)).add (j%P.cellsOf e)=⟨b,off+j,none⟩:=by
      rw[add_add,e1]
      simp[Addr.add]
     rw[e2,List.getElem?_eq_getElem (by omega)]at h4
     rw[h4]at hu ⊢
     simpa using hu
    refine⟨[.slice (P.cellsOf e) (((List.range len).map f).map (mkD P e))],Holds.one ?_,?_⟩
    ·have:=RepD.slice (m:=limOf w) (w:=w) b off m (P.cellsOf e) (((List.range len).map f).map (mkD P e)) ((List.range (len*P.cellsOf e)).map fun j=>(w.cell? ⟨b,off+j,none⟩).getD undef) (by simpa using hlc) hcm hsz (by rw[hfl];simp) ?_ ?_
     ·simpa using this
     ·intro j u hu
      obtain⟨hj,hcell⟩:=hat j u hu
      exact⟨k1vu hcell,hcell⟩
     ·intro j u c hu hc
      obtain⟨hj,hcell⟩:=hat j u hu
      have hi:j/P.cellsOf e<len:=by rw[Nat.div_lt_iff_lt_mul hpos];exact hj
      have hr:j%P.cellsOf e<P.cellsOf e:=Nat.mod_lt _ hpos
      obtain⟨cs',h1,h2,h3⟩:=hf _ hi
      have e1:j/P.cellsOf e*P.cellsOf e+j%P.cellsOf e=j:=by rw[Nat.mul_comm];exact Nat.div_add_mod j _
      rw[<-e1,kx8 hsz (hget _ hi) _ hr,hmk _ hi]at hc
      refine h2.2 _ u c ?_ hc
      rw[<-(World.cells?_some h1).2.2 _ hr,<-hcell]
      congr 1
      rw[add_add,e1]
      simp[Addr.add]
    ·simp only[Rel,hu]
     refine⟨(List.range len).map f,rfl,by simp;omega,.inr ⟨_,_,rfl,by simp,?_⟩⟩
     intro j x y hx hy
     have hj:j<len:=by simpa using(List.getElem?_eq_some_iff.1 hx).1
     simp only[List.getElem?_map,List.getElem?_range hj,Option.map_some,Option.some.injEq]at hx hy
     subst hx;subst hy
     obtain⟨_,_,_,h3⟩:=hf j hj
     exact h3
  ·rename_i fs hu
   simp only[Bool.and_eq_true]at hT
   obtain⟨xs,n',rfl,rfl,hl,hxl,hx⟩:=DataW.trod_struct hu h
   obtain⟨ds,h1,h2⟩:=k11x (P:=P) hl (fun _=>True) (fun _ _=>trivial) (Rel P k) (fun t c=>DataW.trod enc P w 0 (fun _=>true) true n' t c) (fsOf fs) 0 xs hT.1 (by simp[fsOf,hxl])
    (fun p hp cs' y _ hy=>kr5 k p.1 (List.all_eq_true.1 hT.2 p hp) n' cs' y hy)
    (fun i p hp=>by
     simp only[fsOf,List.getElem?_map,Option.map_eq_some_iff]at hp
     obtain⟨f,hf,rfl⟩:=hp
     exact hx i f (by simpa using hf))
   exact⟨ds,by simpa using h1,by simp only[Rel,hu];exact⟨_,rfl,h2⟩⟩
  ·rename_i m e hu
   simp only[Bool.and_eq_true]at hT
   obtain⟨xs,n',rfl,rfl,hl,hxl,hx⟩:=DataW.trod_array hu h
   obtain⟨ds,h1,h2⟩:=k11x (P:=P) hl (fun _=>True) (fun _ _=>trivial) (Rel P k) (fun t c=>DataW.trod enc P w 0 (fun _=>true) true n' t c) (arOf P m e) 0 xs hT.1 (by simp[arOf,hxl])
    (fun p hp cs' y _ hy=>by
     simp only[arOf,List.mem_map]at hp
     obtain⟨i,_,rfl⟩:=hp
     exact kr5 k e hT.2 n' cs' y hy)
    (fun i p hp=>by
     simp only[arOf,List.getElem?_map,Option.map_eq_some_iff]at hp
     obtain⟨f,hf,rfl⟩:=hp
     obtain⟨hi,rfl⟩:=List.getElem?_eq_some_iff.1 hf
     have hi' :i<m:=by simpa using hi
     simpa using hx i hi')
   exact⟨ds,by simpa using h1,by simp only[Rel,hu];exact⟨_,rfl,h2⟩⟩
  ·cases hT
end
end Go.Bv
namespace Go.Bv
open Go.RowKit Go.ChangeShapes Go.WideShapes
def G0 (W:World):Gh:=⟨fun _=>none,fun _=>none,limOf W⟩
def vOf (P:Program) (t:TypeId) (ds:List D):V:=if isAggT P t then .agg (ds.map V.d)else .d (ds.headD (.bool false))
section
variable {H:Type} {enc:TypeId×Value->H} {P:Program} {W:World}
theorem arg_rep {k:Nat} {r:Reach} {base:Nat} {t:TypeId} {v:Value} {d:DataW H} {ps:List MemPlace} {h:Hp} {nx:Nat} (hT:dataT P k t=true) (hval:Value.okWide P W r base t v)
  (hd:DataW.Trod enc P W 0 (fun _=>true) true t v d ps):∃ds,Rel P k t ds d/\RepV (G0 W) W h nx v (vOf P t ds):=by
 obtain⟨n,hn⟩:=hd
 by_cases ha:isAggT P t=true
 ·have hval' :∃cs,v= .agg cs/\cs.size=P.cellsOf t/\Row.okWide P W r base t cs:=by
   unfold isAggT at ha
   unfold Value.okWide at hval
   split at ha
   ·rename_i h1;rw[h1]at hval;exact hval
   ·rename_i h1;rw[h1]at hval;exact hval
   ·cases ha
  obtain⟨cs,rfl,_,ts,_,_,hc⟩:=hval'
  obtain⟨ds,h1,h2⟩:=kr5 k t hT n cs.toList _ hn
  refine⟨ds,h2,?_⟩
  unfold vOf
  rw[if_pos ha]
  have:=RepV.agg (G:=G0 W) (w:=W) (h:=h) (nx:=nx) cs.toList (ds.map V.d) (by simpa using h1.1.symm) ?_ ?_
  ·simpa using this
  ·intro x hx
   obtain⟨c,hcm,rfl⟩:=List.mem_map.1 hx
   obtain⟨j,hj⟩:=List.getElem?_of_mem hcm
   have hjl:j<cs.toList.length:=by have:=h1.1;have:=(List.getElem?_eq_some_iff.1 hj).1;simp[Value.cells]at *;omega
   exact(h1.2 j _ c (List.getElem?_eq_getElem hjl) hj).done
  ·intro j u x hu hx
   rw[List.getElem?_map,Option.map_eq_some_iff]at hx
   obtain⟨c,hcj,rfl⟩:=hx
   exact .d _ _ (h1.2 j u c hu hcj)
 ·have hval' :Cell.okWide P W r base t v:=by
   unfold Value.okWide at hval
   split at hval
   ·rename_i h1;exact absurd (by simp[isAggT,h1]) ha
   ·rename_i h1;exact absurd (by simp[isAggT,h1]) ha
   ·exact hval
  have hcs:v.cells.toList=[v]:=by
   cases v with
   |agg cs=>
    exfalso
    unfold Cell.okWide Cell.ok at hval'
    split at hval'
    all_goals first|(split at hval';all_goals simp_all)|simp_all
   |_=>rfl
  rw[hcs]at hn
  obtain⟨ds,h1,h2⟩:=kr5 k t hT n _ _ hn
  refine⟨ds,h2,?_⟩
  unfold vOf
  rw[if_neg ha]
  have hl:=h1.1
  match ds,hl with
  |[c],_=>exact .d _ _ (h1.2 0 v c rfl rfl)
theorem law_of {f:FuncId} {xs:List V} {r:V} (hS:SoundH P f xs [] r []) {vs:List Value} (hlen:vs.length=xs.length)
  (hrep:∀(j:Nat) (v:Value) (x:V),vs[j]? =some v->xs[j]? =some x->RepV (G0 W) W [] 0 v x):
  Calls P f vs.toArray W fun e W' =>(∃v G',e= .returned v/\RepV G' W' [] 0 v r)/\Below W.heap.size W W' :=by
 refine(hS (G0 W) W vs hlen hrep ?_).mono fun e W' hh=> ?_
 ·refine⟨?_,?_,?_,?_,?_,?_⟩
  ·intro id l h;simp[hpOf,Hp.get]at h
  ·intro id es h;simp[hpOf,Hp.get]at h
  ·intro id b h;simp at h
  ·intro i j b h;simp at h
  ·intro id ob h;simp[hpOf,Hp.get]at h
  ·intro b hb
   show limOf W b=0
   unfold limOf
   rw[Array.getElem?_eq_none hb]
 ·obtain⟨v,G',rfl,h1,h2,h3,h4⟩:=hh
  refine⟨⟨v,G',rfl,h1⟩,h3.os,h3.tape,h3.output,h3.size,fun b hb=>(h3.same b hb ?_).1⟩
  rintro ⟨i,hi,_⟩
  simp at hi
def typesOk (P:Program) (ts:List TypeId):Bool:=ts.all fun t=>P.readableRec t&&decide (t<P.types.size)
theorem kzu (hl:laidOutB P=true) {W' :World} (hb:Below W.heap.size W W'):∀{ts:List TypeId} {vs:List Value} {ds:List (DataW H)} {ps:List MemPlace},typesOk P ts=true->
  DataW.TrodAll enc P W 0 (fun _=>true) true ts vs ds ps->(∀x∈ps,x.block<W.heap.size)->DataW.TrodAll enc P W' 0 (fun b=>decide (b<W.heap.size)) true ts vs ds ps
 |[],[],[],_,_,h,_=>h
 |[],[],_::_,_,_,h,_=>h.elim
 |[],_::_,_,_,_,h,_=>h.elim
 |_::_,[],_,_,_,h,_=>h.elim
 |_::_,_::_,[],_,_,h,_=>h.elim
 |t::ts,v::vs,d::ds,ps,ht,h,hp=>by
  simp only[typesOk,List.all_cons,Bool.and_eq_true,decide_eq_true_eq]at ht
  obtain⟨p,q,h1,h2,rfl⟩:=h
  exact⟨p,q,Below.trod hl ht.1.1 ht.1.2 h1 hb (fun x hx=>hp x (by simp[hx])),kzu hl hb (by simpa[typesOk]using ht.2) h2 (fun x hx=>hp x (by simp[hx])),rfl⟩
theorem k1y9 {k:Nat} {t:TypeId} {ds:List D} {d:DataW H} (hu:P.underlying t=some .bool) (h:Rel P (k+1) t ds d):∃b,ds=[.bool b]/\d= .lit (.bool b):=by unfold Rel at h;rw[hu]at h;exact h
theorem rel_int {k:Nat} {t:TypeId} {q:IntKind} {ds:List D} {d:DataW H} (hu:P.underlying t=some (.int q)) (h:Rel P (k+1) t ds d):∃i,ds=[.int q i]/\d= .lit (.int q i)/\(Lit.int q i).wf=true:=by unfold Rel at h;rw[hu]at h;exact h
theorem k1ve {k:Nat} {t:TypeId} {fs:Array Field} {ds:List D} {d:DataW H} (hu:P.underlying t=some (.struct fs)) (h:Rel P (k+1) t ds d):∃ps,d= .agg ps/\RelFs (Rel P k) (fsOf fs) ds ps:=by unfold Rel at h;rw[hu]at h;exact h
theorem k1xq {k:Nat} {t e:TypeId} {n:Nat} {ds:List D} {d:DataW H} (hu:P.underlying t=some (.array n e)) (h:Rel P (k+1) t ds d):∃ps,d= .agg ps/\RelFs (Rel P k) (arOf P n e) ds ps:=by unfold Rel at h;rw[hu]at h;exact h
theorem k1x6 {k:Nat} {t e:TypeId} {ds:List D} {d:DataW H} {α:Type} [Inhabited α] (f:α->D) (p:α->Prop) (hu:P.underlying t=some (.slice e)) (h:Rel P (k+1) t ds d)
  (tp:∀(x:List D) (y:DataW H),Rel P k e x y->∃a,mkD P e x=f a/\p a):
  ∃l:List α,ds=[.slice (P.cellsOf e) (l.map f)]/\l.length<=maxLen/\(∀a∈l,p a)/\((l=[]/\d= .nil)∨∃elems spare,d= .slice elems spare/\l.length=elems.length):=by
 unfold Rel at h
 rw[hu]at h
 obtain⟨l,rfl,hmx,h⟩:=h
 rcases h with⟨rfl,rfl⟩|⟨elems,spare,rfl,hlen,hh⟩
 ·exact⟨[],rfl,Nat.zero_le _,by simp,.inl ⟨rfl,rfl⟩⟩
 ·have:∀i,i<l.length->∃a,mkD P e (l.getD i [])=f a/\p a:=by
   intro i hi
   refine tp _ _ (hh i _ _ ?_ (List.getElem?_eq_getElem (by omega)))
   simp[List.getElem?_eq_getElem hi]
  obtain⟨g,hg⟩:=Deep.choose_lt this
  refine⟨(List.range l.length).map g,?_,by simpa using hmx,?_,.inr ⟨elems,spare,rfl,by simpa using hlen⟩⟩
  ·have:l.map (mkD P e)=((List.range l.length).map g).map f:=by
    rw[Deep.map_by_index l [] (mkD P e),List.map_map]
    refine List.map_congr_left fun i hi=> ?_
    exact(hg i (by simpa using hi)).1
   rw[this]
  ·intro a ha
   obtain⟨i,hi,rfl⟩:=List.mem_map.1 ha
   exact(hg i (by simpa using hi)).2
theorem k1zo {fn:Func} {s:ChangeSpec} {W' :World} {args:Array Value} {ds:List (DataW H)} {before:List MemPlace} {tb:TypeId} (hv:s.vars=[]) (hW:DataW.Whole enc P fn.params.toList s.vars false W args.toList ds [] before)
  (hl:laidOutB P=true) (hty:typesOk P fn.params.toList=true) (hr:fn.resultTypes= #[tb]) (hub:P.underlying tb=some .bool)
  (h1:(s.fn H (ds++[])).results=[.lit (.bool true)]) (h2:(s.fn H (ds++[])).args=ds) (h3:(s.fn H (ds++[])).vars=[]) (hb:Below W.heap.size W W'):
  s.post enc P fn false true false false W args (.bool true) W' :=by
 have hW' :=hW
 obtain⟨p,q,hA,hV,rfl,_,_⟩:=hW
 have hq:q=[]:=by rw[hv]at hV;exact hV
 subst hq
 refine⟨ds,[],p++[],[],p,[],hW',?_,?_,?_,hb.frame _,fun h=>by cases h⟩
 ·rw[h1,hr]
  exact trodAll_cons_mk (shut_bool hub _) trodAll_mk0
 ·rw[h2]
  exact kzu hl hb hty hA (fun x hx=>by simpa using hW'.lt x (by simpa using hx))
 ·rw[hv,h3]
  rfl
end
structure RelH {H:Type} (P:Program) (k:Nat) (t:TypeId) (ds:List D) (d:DataW H):Prop where
 h:Rel P k t ds d
section
variable {H:Type} {enc:TypeId×Value->H} {P:Program} {W:World} {k:Nat}
theorem relFs_h:∀{L:List (TypeId×Nat)} {ds:List D} {ps:List (DataW H)},RelFs (Rel P k) L ds ps->RelFs (RelH P k) L ds ps
 |[],_,_,h=>h
 |_::_,_,_,⟨d1,d2,p,qs,h1,h2,e1,e2⟩=>⟨d1,d2,p,qs,⟨h1⟩,relFs_h h2,e1,e2⟩
theorem k1xn {t:TypeId} {ds:List D} {d:DataW H} (hu:P.underlying t=some .bool) (h:RelH P (k+1) t ds d):∃b,ds=[.bool b]/\d= .lit (.bool b):=k1y9 hu h.h
theorem k19n {t:TypeId} {q:IntKind} {ds:List D} {d:DataW H} (hu:P.underlying t=some (.int q)) (h:RelH P (k+1) t ds d):∃i,ds=[.int q i]/\d= .lit (.int q i)/\(Lit.int q i).wf=true:=rel_int hu h.h
theorem kdj {t:TypeId} {fs:Array Field} {ds:List D} {d:DataW H} {L:List (TypeId×Nat)} (hu:P.underlying t=some (.struct fs)) (hf:fsOf fs=L) (h:RelH P (k+1) t ds d):∃ps,d= .agg ps/\RelFs (RelH P k) L ds ps:=by
 obtain⟨ps,h1,h2⟩:=k1ve hu h.h
 rw[hf]at h2
 exact⟨ps,h1,relFs_h h2⟩
theorem k1wm {t e:TypeId} {n:Nat} {ds:List D} {d:DataW H} {L:List (TypeId×Nat)} (hu:P.underlying t=some (.array n e)) (hf:arOf P n e=L) (h:RelH P (k+1) t ds d):∃ps,d= .agg ps/\RelFs (RelH P k) L ds ps:=by
 obtain⟨ps,h1,h2⟩:=k1xq hu h.h
 rw[hf]at h2
 exact⟨ps,h1,relFs_h h2⟩
theorem kiz {t e:TypeId} {ds:List D} {d:DataW H} {α:Type} [Inhabited α] (f:α->D) (p:α->Prop) (sz:Nat) (hu:P.underlying t=some (.slice e)) (hs:P.cellsOf e=sz) (h:RelH P (k+1) t ds d)
  (tp:∀(x:List D) (y:DataW H),RelH P k e x y->∃a,mkD P e x=f a/\p a):∃l:List α,ds=[.slice sz (l.map f)]/\l.length<=9223372036854775807/\∀a∈l,p a:=by
 obtain⟨l,h1,h2,h3,_⟩:=k1x6 f p hu h.h (fun x y hh=>tp x y ⟨hh⟩)
 subst hs
 exact⟨l,h1,h2,h3⟩
theorem mk_agg {e:TypeId} {ds cs:List D} (ha:isAggT P e=true) (h:ds=(D.agg cs).cells):mkD P e ds= .agg cs:=by subst h;unfold mkD;rw[ha];rfl
theorem mk_one {e:TypeId} {ds:List D} {x:D} (ha:isAggT P e=false) (h:ds=[x]):mkD P e ds=x:=by subst h;unfold mkD;rw[ha];rfl
theorem k1rs {r:Reach} {base:Nat} {t:TypeId} {v:Value} {d:DataW H} {ps:List MemPlace} {h:Hp} {nx:Nat} (hT:dataT P k t=true) (hval:Value.okWide P W r base t v)
  (hd:DataW.Trod enc P W 0 (fun _=>true) true t v d ps):∃ds,RelH P k t ds d/\RepV (G0 W) W h nx v (vOf P t ds):=by
 obtain⟨ds,h1,h2⟩:=arg_rep hT hval hd
 exact⟨ds,⟨h1⟩,h2⟩
end
end Go.Bv
namespace Go.Proofs.YtlfcebhnjkcmnaaGreat
open Go Go.Bv Go.Cv Go.Md Go.RowKit Go.ChangeShapes Go.WideShapes
theorem wf_u8 {i:Int} (h:(Lit.int .u8 i).wf=true):0<=i/\i<256:=by
 simp only[Lit.wf,IntKind.min,IntKind.max,IntKind.signed,IntKind.bits,Bool.and_eq_true]at h
 simp at h
 omega
theorem wf_u64 {i:Int} (h:(Lit.int .u64 i).wf=true):0<=i/\i<18446744073709551616:=by
 simp only[Lit.wf,IntKind.min,IntKind.max,IntKind.signed,IntKind.bits,Bool.and_eq_true]at h
 simp at h
 omega
theorem wf_i64 {i:Int} (h:(Lit.int .i64 i).wf=true):(-9223372036854775808)<=i/\i<9223372036854775808:=by
 simp only[Lit.wf,IntKind.min,IntKind.max,IntKind.signed,IntKind.bits,Bool.and_eq_true]at h
 simp at h
 omega
structure kxx (x:wF):Prop where
 wt:((-9223372036854775808)<=x.wt/\x.wt<9223372036854775808)
 wD:((-9223372036854775808)<=x.wD/\x.wD<9223372036854775808)
 wN:((-9223372036854775808)<=x.wN/\x.wN<9223372036854775808)
 wK:((-9223372036854775808)<=x.wK/\x.wK<9223372036854775808)
 wH:((-9223372036854775808)<=x.wH/\x.wH<9223372036854775808)
 wW:(0<=x.wW/\x.wW<18446744073709551616)
 wa:((-9223372036854775808)<=x.wa/\x.wa<9223372036854775808)
 wS:((-9223372036854775808)<=x.wS/\x.wS<9223372036854775808)
 wl:(0<=x.wl/\x.wl<18446744073709551616)
theorem op3 {H:Type} {k:Nat} {ds:List D} {d:DataW H} (h:RelH Tryz.prog (k+1) 3 ds d):∃x:Int,ds=[D.int .i64 x]/\((-9223372036854775808)<=x/\x<9223372036854775808):=by
 obtain⟨i,rfl,_,w⟩:=k19n (q:= .i64) (show Tryz.prog.underlying 3=some (.int .i64)by kernel_rfl) h
 exact⟨i,rfl,wf_i64 w⟩
structure k1gq (x:wAC):Prop where
 wAL:((-9223372036854775808)<=x.wAL/\x.wAL<9223372036854775808)
 wAK:((-9223372036854775808)<=x.wAK/\x.wAK<9223372036854775808)
 wAQ:((-9223372036854775808)<=x.wAQ/\x.wAQ<9223372036854775808)
theorem op23 {H:Type} {k:Nat} {ds:List D} {d:DataW H} (h:RelH Tryz.prog (k+2) 23 ds d):∃x:wAC,ds=(encTProofParams x).cells/\k1gq x:=by
 obtain⟨ps,rfl,h1⟩:=kdj (L:=[(3,0),(3,1),(3,2)]) (Tryz.underlying23) (by kernel_rfl) h
 obtain⟨_,_,_,_,g0,⟨_,_,_,_,g1,⟨_,_,_,_,g2,⟨rfl,rfl⟩,rfl,rfl⟩,rfl,rfl⟩,rfl,rfl⟩:=h1
 obtain⟨a0,rfl,r0⟩:=op3 (k:=k+0) g0
 obtain⟨a1,rfl,r1⟩:=op3 (k:=k+0) g1
 obtain⟨a2,rfl,r2⟩:=op3 (k:=k+0) g2
 exact⟨⟨a0,a1,a2⟩,rfl,⟨r0,r1,r2⟩⟩
theorem op24 {H:Type} {k:Nat} {ds:List D} {d:DataW H} (h:RelH Tryz.prog (k+1) 24 ds d):∃x:Int,ds=[D.int .u64 x]/\(0<=x/\x<18446744073709551616):=by
 obtain⟨i,rfl,_,w⟩:=k19n (q:= .u64) (show Tryz.prog.underlying 24=some (.int .u64)by kernel_rfl) h
 exact⟨i,rfl,wf_u64 w⟩
theorem op26 {H:Type} {k:Nat} {ds:List D} {d:DataW H} (h:RelH Tryz.prog (k+3) 26 ds d):∃x:wF,ds=(encTRules x).cells/\kxx x:=by
 obtain⟨ps,rfl,h1⟩:=kdj (L:=[(3,0),(3,1),(23,2),(24,5),(3,6),(3,7),(24,8)]) (Tryz.underlying26) (by kernel_rfl) h
 obtain⟨_,_,_,_,g0,⟨_,_,_,_,g1,⟨_,_,_,_,g2,⟨_,_,_,_,g3,⟨_,_,_,_,g4,⟨_,_,_,_,g5,⟨_,_,_,_,g6,⟨rfl,rfl⟩,rfl,rfl⟩,rfl,rfl⟩,rfl,rfl⟩,rfl,rfl⟩,rfl,rfl⟩,rfl,rfl⟩,rfl,rfl⟩:=h1
 obtain⟨a0,rfl,r0⟩:=op3 (k:=k+1) g0
 obtain⟨a1,rfl,r1⟩:=op3 (k:=k+1) g1
 obtain⟨a2,rfl,r2⟩:=op23 (k:=k+0) g2
 obtain⟨a3,rfl,r3⟩:=op24 (k:=k+1) g3
 obtain⟨a4,rfl,r4⟩:=op3 (k:=k+1) g4
 obtain⟨a5,rfl,r5⟩:=op3 (k:=k+1) g5
 obtain⟨a6,rfl,r6⟩:=op24 (k:=k+1) g6
 exact⟨⟨a0,a1,a2.wAL,a2.wAK,a2.wAQ,a3,a4,a5,a6⟩,rfl,⟨r0,r1,r2.wAL,r2.wAK,r2.wAQ,r3,r4,r5,r6⟩⟩
structure k1e1 (x:ww):Prop where
 wz:(0<=x.wz/\x.wz<18446744073709551616)
 wAF:(0<=x.wAF/\x.wAF<18446744073709551616)
 wAE:(0<=x.wAE/\x.wAE<18446744073709551616)
 wAB:(x.wAB.length<=9223372036854775807/\∀y∈x.wAB,(0<=y/\y<18446744073709551616))
structure kxd (x:wm):Prop where
 wy:(0<=x.wy/\x.wy<18446744073709551616)
 wE:(x.wE.length<=9223372036854775807/\∀y∈x.wE,(0<=y/\y<18446744073709551616))
 wT:(x.wT.length<=9223372036854775807/\∀y∈x.wT,k1e1 y)
 wV:(0<=x.wV/\x.wV<18446744073709551616)
 wZ:(0<=x.wZ/\x.wZ<18446744073709551616)
 Fee:(0<=x.Fee/\x.Fee<18446744073709551616)
 we:(0<=x.we/\x.we<18446744073709551616)
 wO:(0<=x.wO/\x.wO<18446744073709551616)
 wx:((-9223372036854775808)<=x.wx/\x.wx<9223372036854775808)
 wAD:(x.wAD.length<=9223372036854775807/\∀y∈x.wAD,(0<=y/\y<256))
structure k14x (x:wAO):Prop where
 wAI:(0<=x.wAI/\x.wAI<18446744073709551616)
 wAJ:((-9223372036854775808)<=x.wAJ/\x.wAJ<9223372036854775808)
 wAM:(0<=x.wAM/\x.wAM<18446744073709551616)
 wAS:(0<=x.wAS/\x.wAS<18446744073709551616)
 wAP:(0<=x.wAP/\x.wAP<18446744073709551616)
 wAH:(x.wAH.length<=9223372036854775807/\∀y∈x.wAH,kxd y)
theorem op4 {H:Type} {k:Nat} {ds:List D} {d:DataW H} (h:RelH Tryz.prog (k+1) 4 ds d):∃x:Bool,ds=[D.bool x]/\True:=by
 obtain⟨b,rfl,_⟩:=k1xn (show Tryz.prog.underlying 4=some (.bool)by kernel_rfl) h
 exact⟨b,rfl,trivial⟩
structure k18u (x:wd):Prop where
 wAR:(0<=x.wAR/\x.wAR<18446744073709551616)
 wU:((-9223372036854775808)<=x.wU/\x.wU<9223372036854775808)
 wAG:(0<=x.wAG/\x.wAG<18446744073709551616)
 wl:(0<=x.wl/\x.wl<18446744073709551616)
 wO:(0<=x.wO/\x.wO<18446744073709551616)
 Txs:(x.Txs.length<=9223372036854775807/\∀y∈x.Txs,kxd y)
theorem op43 {H:Type} {k:Nat} {ds:List D} {d:DataW H} (h:RelH Tryz.prog (k+2) 43 ds d):∃x:List Int,ds=[D.slice 1 (x.map (D.int .u64))]/\(x.length<=9223372036854775807/\∀y∈x,(0<=y/\y<18446744073709551616)):=by
 obtain⟨l,rfl,hm,hl⟩:=kiz (D.int .u64) (fun(y:Int)=>(0<=y/\y<18446744073709551616)) 1 (show Tryz.prog.underlying 43=some (.slice 24)by kernel_rfl) (by kernel_rfl) h (fun x y hh=>by
  obtain⟨a,e,ha⟩:=op24 (k:=k+0) hh
  exact⟨a,mk_one (by kernel_rfl) e,ha⟩)
 exact⟨l,rfl,⟨hm,hl⟩⟩
structure k201 (x:wAW):Prop where
 a0:(0<=x.a0/\x.a0<18446744073709551616)
 a1:(0<=x.a1/\x.a1<18446744073709551616)
theorem op71 {H:Type} {k:Nat} {ds:List D} {d:DataW H} (h:RelH Tryz.prog (k+2) 71 ds d):∃x:wAW,ds=(encTA2 x).cells/\k201 x:=by
 obtain⟨ps,rfl,h1⟩:=k1wm (n:=2) (e:=24) (L:=[(24,0),(24,1)]) (show Tryz.prog.underlying 71=some (.array 2 24)by kernel_rfl) (by kernel_rfl) h
 obtain⟨_,_,_,_,g0,⟨_,_,_,_,g1,⟨rfl,rfl⟩,rfl,rfl⟩,rfl,rfl⟩:=h1
 obtain⟨a0,rfl,r0⟩:=op24 (k:=k+0) g0
 obtain⟨a1,rfl,r1⟩:=op24 (k:=k+0) g1
 exact⟨⟨a0,a1⟩,rfl,⟨r0,r1⟩⟩
theorem op73 {H:Type} {k:Nat} {ds:List D} {d:DataW H} (h:RelH Tryz.prog (k+3) 73 ds d):∃x:ww,ds=(encTOut x).cells/\k1e1 x:=by
 obtain⟨ps,rfl,h1⟩:=kdj (L:=[(24,0),(71,1),(43,3)]) (Tryz.underlying73) (by kernel_rfl) h
 obtain⟨_,_,_,_,g0,⟨_,_,_,_,g1,⟨_,_,_,_,g2,⟨rfl,rfl⟩,rfl,rfl⟩,rfl,rfl⟩,rfl,rfl⟩:=h1
 obtain⟨a0,rfl,r0⟩:=op24 (k:=k+1) g0
 obtain⟨a1,rfl,r1⟩:=op71 (k:=k+0) g1
 obtain⟨a2,rfl,r2⟩:=op43 (k:=k+0) g2
 exact⟨⟨a0,a1.a0,a1.a1,a2⟩,rfl,⟨r0,r1.a0,r1.a1,r2⟩⟩
theorem op44 {H:Type} {k:Nat} {ds:List D} {d:DataW H} (h:RelH Tryz.prog (k+4) 44 ds d):∃x:List ww,ds=[D.slice 4 (x.map encTOut)]/\(x.length<=9223372036854775807/\∀y∈x,k1e1 y):=by
 obtain⟨l,rfl,hm,hl⟩:=kiz encTOut (fun(y:ww)=>k1e1 y) 4 (show Tryz.prog.underlying 44=some (.slice 73)by kernel_rfl) (by kernel_rfl) h (fun x y hh=>by
  obtain⟨a,e,ha⟩:=op73 (k:=k+0) hh
  exact⟨a,mk_agg (by kernel_rfl) e,ha⟩)
 exact⟨l,rfl,⟨hm,hl⟩⟩
theorem op5 {H:Type} {k:Nat} {ds:List D} {d:DataW H} (h:RelH Tryz.prog (k+1) 5 ds d):∃x:Int,ds=[D.int .u8 x]/\(0<=x/\x<256):=by
 obtain⟨i,rfl,_,w⟩:=k19n (q:= .u8) (show Tryz.prog.underlying 5=some (.int .u8)by kernel_rfl) h
 exact⟨i,rfl,wf_u8 w⟩
theorem op45 {H:Type} {k:Nat} {ds:List D} {d:DataW H} (h:RelH Tryz.prog (k+2) 45 ds d):∃x:List Int,ds=[D.slice 1 (x.map (D.int .u8))]/\(x.length<=9223372036854775807/\∀y∈x,(0<=y/\y<256)):=by
 obtain⟨l,rfl,hm,hl⟩:=kiz (D.int .u8) (fun(y:Int)=>(0<=y/\y<256)) 1 (show Tryz.prog.underlying 45=some (.slice 5)by kernel_rfl) (by kernel_rfl) h (fun x y hh=>by
  obtain⟨a,e,ha⟩:=op5 (k:=k+0) hh
  exact⟨a,mk_one (by kernel_rfl) e,ha⟩)
 exact⟨l,rfl,⟨hm,hl⟩⟩
theorem op47 {H:Type} {k:Nat} {ds:List D} {d:DataW H} (h:RelH Tryz.prog (k+5) 47 ds d):∃x:wm,ds=(encTTx x).cells/\kxd x:=by
 obtain⟨ps,rfl,h1⟩:=kdj (L:=[(24,0),(43,1),(44,2),(24,3),(24,4),(24,5),(24,6),(24,7),(3,8),(45,9)]) (Tryz.underlying47) (by kernel_rfl) h
 obtain⟨_,_,_,_,g0,⟨_,_,_,_,g1,⟨_,_,_,_,g2,⟨_,_,_,_,g3,⟨_,_,_,_,g4,⟨_,_,_,_,g5,⟨_,_,_,_,g6,⟨_,_,_,_,g7,⟨_,_,_,_,g8,⟨_,_,_,_,g9,⟨rfl,rfl⟩,rfl,rfl⟩,rfl,rfl⟩,rfl,rfl⟩,rfl,rfl⟩,rfl,rfl⟩,rfl,rfl⟩,rfl,rfl⟩,rfl,rfl⟩,rfl,rfl⟩,rfl,rfl⟩:=h1
 obtain⟨a0,rfl,r0⟩:=op24 (k:=k+3) g0
 obtain⟨a1,rfl,r1⟩:=op43 (k:=k+2) g1
 obtain⟨a2,rfl,r2⟩:=op44 (k:=k+0) g2
 obtain⟨a3,rfl,r3⟩:=op24 (k:=k+3) g3
 obtain⟨a4,rfl,r4⟩:=op24 (k:=k+3) g4
 obtain⟨a5,rfl,r5⟩:=op24 (k:=k+3) g5
 obtain⟨a6,rfl,r6⟩:=op24 (k:=k+3) g6
 obtain⟨a7,rfl,r7⟩:=op24 (k:=k+3) g7
 obtain⟨a8,rfl,r8⟩:=op3 (k:=k+3) g8
 obtain⟨a9,rfl,r9⟩:=op45 (k:=k+2) g9
 exact⟨⟨a0,a1,a2,a3,a4,a5,a6,a7,a8,a9⟩,rfl,⟨r0,r1,r2,r3,r4,r5,r6,r7,r8,r9⟩⟩
theorem op64 {H:Type} {k:Nat} {ds:List D} {d:DataW H} (h:RelH Tryz.prog (k+6) 64 ds d):∃x:List wm,ds=[D.slice 10 (x.map encTTx)]/\(x.length<=9223372036854775807/\∀y∈x,kxd y):=by
 obtain⟨l,rfl,hm,hl⟩:=kiz encTTx (fun(y:wm)=>kxd y) 10 (show Tryz.prog.underlying 64=some (.slice 47)by kernel_rfl) (by kernel_rfl) h (fun x y hh=>by
  obtain⟨a,e,ha⟩:=op47 (k:=k+0) hh
  exact⟨a,mk_agg (by kernel_rfl) e,ha⟩)
 exact⟨l,rfl,⟨hm,hl⟩⟩
theorem op66 {H:Type} {k:Nat} {ds:List D} {d:DataW H} (h:RelH Tryz.prog (k+7) 66 ds d):∃x:wd,ds=(encTBlock x).cells/\k18u x:=by
 obtain⟨ps,rfl,h1⟩:=kdj (L:=[(24,0),(3,1),(24,2),(24,3),(24,4),(64,5)]) (Tryz.underlying66) (by kernel_rfl) h
 obtain⟨_,_,_,_,g0,⟨_,_,_,_,g1,⟨_,_,_,_,g2,⟨_,_,_,_,g3,⟨_,_,_,_,g4,⟨_,_,_,_,g5,⟨rfl,rfl⟩,rfl,rfl⟩,rfl,rfl⟩,rfl,rfl⟩,rfl,rfl⟩,rfl,rfl⟩,rfl,rfl⟩:=h1
 obtain⟨a0,rfl,r0⟩:=op24 (k:=k+5) g0
 obtain⟨a1,rfl,r1⟩:=op3 (k:=k+5) g1
 obtain⟨a2,rfl,r2⟩:=op24 (k:=k+5) g2
 obtain⟨a3,rfl,r3⟩:=op24 (k:=k+5) g3
 obtain⟨a4,rfl,r4⟩:=op24 (k:=k+5) g4
 obtain⟨a5,rfl,r5⟩:=op64 (k:=k+0) g5
 exact⟨⟨a0,a1,a2,a3,a4,a5⟩,rfl,⟨r0,r1,r2,r3,r4,r5⟩⟩
theorem op68 {H:Type} {k:Nat} {ds:List D} {d:DataW H} (h:RelH Tryz.prog (k+8) 68 ds d):∃x:wAO,ds=(encTOp x).cells/\k14x x:=by
 obtain⟨ps,rfl,h1⟩:=kdj (L:=[(4,0),(66,1)]) (Tryz.underlying68) (by kernel_rfl) h
 obtain⟨_,_,_,_,g0,⟨_,_,_,_,g1,⟨rfl,rfl⟩,rfl,rfl⟩,rfl,rfl⟩:=h1
 obtain⟨a0,rfl,r0⟩:=op4 (k:=k+6) g0
 obtain⟨a1,rfl,r1⟩:=op66 (k:=k+0) g1
 exact⟨⟨a0,a1.wAR,a1.wU,a1.wAG,a1.wl,a1.wO,a1.Txs⟩,rfl,⟨r1.wAR,r1.wU,r1.wAG,r1.wl,r1.wO,r1.Txs⟩⟩
theorem op27 {H:Type} {k:Nat} {ds:List D} {d:DataW H} (h:RelH Tryz.prog (k+9) 27 ds d):∃x:List wAO,ds=[D.slice 7 (x.map encTOp)]/\(x.length<=9223372036854775807/\∀y∈x,k14x y):=by
 obtain⟨l,rfl,hm,hl⟩:=kiz encTOp (fun(y:wAO)=>k14x y) 7 (show Tryz.prog.underlying 27=some (.slice 68)by kernel_rfl) (by kernel_rfl) h (fun x y hh=>by
  obtain⟨a,e,ha⟩:=op68 (k:=k+0) hh
  exact⟨a,mk_agg (by kernel_rfl) e,ha⟩)
 exact⟨l,rfl,⟨hm,hl⟩⟩
theorem dt26:dataT Tryz.prog 3 26=true:=by kernel_rfl
theorem dt27:dataT Tryz.prog 9 27=true:=by kernel_rfl
theorem own:ownKnob Tryz.prog.godebug=none:=by kernel_rfl
theorem laid:laidOutB Tryz.prog=true:=by kernel_rfl
end Go.Proofs.YtlfcebhnjkcmnaaGreat
namespace Go.Md
open Go Go.Bv
theorem u64w (n:Int):IntKind.u64.wrap n=n%18446744073709551616:=IntKind.wrap_u64 n
theorem u8w (n:Int):IntKind.u8.wrap n=n%256:=IntKind.wrap_u8 n
theorem kih (k:IntKind) (a b:Int):ishr k a b=a/((2^min b.toNat k.bits:Nat):Int):=by
 unfold ishr
 rw[show(2:Int)^min b.toNat k.bits=((2^min b.toNat k.bits:Nat):Int)from(Int.natCast_pow 2 _).symm,Int.fdiv_eq_ediv_of_nonneg _ (Int.natCast_nonneg _)]
theorem k1yo (a b:Int):ishl .u64 a b=(a*((2^min b.toNat 64:Nat):Int))%18446744073709551616:=by
 unfold ishl
 rw[u64w,show(2:Int)^min b.toNat IntKind.u64.bits=((2^min b.toNat 64:Nat):Int)by rw[show IntKind.u64.bits=64 from rfl];exact(Int.natCast_pow 2 _).symm]
theorem kir (n:Nat) (h:n<18446744073709551616):(BitVec.ofInt 64 (n:Int)).toNat=n:=by
 rw[BitVec.toNat_ofInt]
 omega
theorem k1pw (a b:Nat) (ha:a<18446744073709551616) (hb:b<18446744073709551616):iand .u64 a b=((a&&&b:Nat):Int):=by
 unfold iand
 rw[u64w]
 show(((BitVec.ofInt 64 a&&&BitVec.ofInt 64 b).toNat:Nat):Int)%_=_
 rw[BitVec.toNat_and,kir a ha,kir b hb]
 have:=Nat.and_le_left (n:=a) (m:=b)
 omega
theorem ior_nat (a b:Nat) (ha:a<18446744073709551616) (hb:b<18446744073709551616):ior .u64 a b=((a|||b:Nat):Int):=by
 unfold ior
 rw[u64w]
 show(((BitVec.ofInt 64 a|||BitVec.ofInt 64 b).toNat:Nat):Int)%_=_
 rw[BitVec.toNat_or,kir a ha,kir b hb]
 have:=Nat.or_lt_two_pow (x:=a) (y:=b) (n:=64) (by omega) (by omega)
 omega
theorem kh8 (a:Int) (h:0<=a/\a<18446744073709551616):iand .u64 a 4294967295=a%4294967296:=by
 obtain⟨n,rfl⟩:=Int.eq_ofNat_of_zero_le h.1
 have:=k1pw n 4294967295 (by omega) (by omega)
 rw[show((4294967295:Nat):Int)=4294967295 from rfl]at this
 rw[this,show(4294967295:Nat)=2^32-1 from rfl,Nat.and_two_pow_sub_one_eq_mod]
 exact Int.natCast_emod _ _
theorem k1yk (a:Int) (h:0<=a/\a<18446744073709551616):iand .u64 a 1=a%2:=by
 obtain⟨n,rfl⟩:=Int.eq_ofNat_of_zero_le h.1
 have:=k1pw n 1 (by omega) (by omega)
 rw[show((1:Nat):Int)=1 from rfl]at this
 rw[this,Nat.and_one_is_mod]
 exact Int.natCast_emod _ _
theorem ior_add' (a c k:Nat) (ha:a<2^k) (h:a+2^k*c<18446744073709551616):ior .u64 ((2^k*c:Nat):Int) a=((a+2^k*c:Nat):Int):=by
 rw[ior_nat _ _ (by omega) (by omega),<-Nat.two_pow_add_eq_or_of_lt ha,Nat.add_comm]
theorem ishr32 (a:Int):ishr .u64 a 32=a/4294967296:=kih _ _ _
theorem ishr16 (a:Int):ishr .u64 a 16=a/65536:=kih _ _ _
theorem ishr8 (a:Int):ishr .u64 a 8=a/256:=kih _ _ _
theorem ishr1 (a:Int):ishr .u64 a 1=a/2:=kih _ _ _
theorem k1zb (a b:Int) (ha:0<=a/\a<18446744073709551616) (hb:0<=b/\b<18446744073709551616):
  ((a/4294967296*(b/4294967296)+((a/4294967296*(b%4294967296)+a%4294967296*(b%4294967296)/4294967296)/4294967296))+((a/4294967296*(b%4294967296)+a%4294967296*(b%4294967296)/4294967296)%4294967296+a%4294967296*(b/4294967296))/4294967296)=a*b/18446744073709551616/\
  a%4294967296*(b%4294967296)<18446744073709551616/\a/4294967296*(b%4294967296)+a%4294967296*(b%4294967296)/4294967296<18446744073709551616/\
  a%4294967296*(b/4294967296)<18446744073709551616-4294967296/\a/4294967296*(b/4294967296)<18446744065119617026/\0<=a%4294967296*(b%4294967296)/\0<=a/4294967296*(b%4294967296)/\0<=a%4294967296*(b/4294967296)/\0<=a/4294967296*(b/4294967296):=by
 have h1:∀x y:Int,0<=x->x<=4294967295->0<=y->y<=4294967295->0<=x*y/\x*y<=18446744065119617025:=by
  intro x y h0 h1 h2 h3
  exact⟨Int.mul_nonneg h0 h2,by have:=Int.mul_le_mul h1 h3 h2 (by omega);omega⟩
 have a1:=h1 (a%4294967296) (b%4294967296) (by omega) (by omega) (by omega) (by omega)
 have a2:=h1 (a/4294967296) (b%4294967296) (by omega) (by omega) (by omega) (by omega)
 have a3:=h1 (a%4294967296) (b/4294967296) (by omega) (by omega) (by omega) (by omega)
 have a4:=h1 (a/4294967296) (b/4294967296) (by omega) (by omega) (by omega) (by omega)
 have e:a*b=a/4294967296*(b/4294967296)*18446744073709551616+(a/4294967296*(b%4294967296)+a%4294967296*(b/4294967296))*4294967296+a%4294967296*(b%4294967296):=by
  have ea:a=a/4294967296*4294967296+a%4294967296:=by omega
  have eb:b=b/4294967296*4294967296+b%4294967296:=by omega
  conv=>lhs;rw[ea,eb]
  generalize a/4294967296=x
  generalize a%4294967296=y
  generalize b/4294967296=z
  generalize b%4294967296=t
  grind
 generalize a%4294967296*(b%4294967296)=p0 at *
 generalize a/4294967296*(b%4294967296)=p1 at *
 generalize a%4294967296*(b/4294967296)=p2 at *
 generalize a/4294967296*(b/4294967296)=p3 at *
 generalize a*b=ab at *
 refine⟨?_,?_,?_,?_,?_,?_,?_,?_,?_⟩<;>omega
structure Half (U x a b Q:Int):Prop where
 hU:0<=U
 hUv:U<a*4294967296+b
 hx:0<=x/\x<4294967296
 ha:2147483648<=a/\a<4294967296
 hb:0<=b/\b<4294967296
 hQ:Q=(U*4294967296+x)/(a*4294967296+b)
theorem Half.q {U x a b Q:Int} (h:Half U x a b Q):0<=Q/\Q<4294967296/\Q*(a*4294967296+b)<=U*4294967296+x/\U*4294967296+x<(Q+1)*(a*4294967296+b):=by
 obtain⟨h1,h2,h3,h4,h5,h6⟩:=h
 have hv:0<a*4294967296+b:=by omega
 have e:=Int.emod_add_mul_ediv (U*4294967296+x) (a*4294967296+b)
 have l:=Int.emod_nonneg (U*4294967296+x) (by omega:a*4294967296+b≠0)
 have r:=Int.emod_lt_of_pos (U*4294967296+x) hv
 rw[<-h6]at e
 generalize hvv:a*4294967296+b=v at *
 have e2:(Q+1)*v=Q*v+v:=by grind
 have e3:v*Q=Q*v:=by grind
 have q0:0<=Q:=by
  rw[h6]
  exact Int.ediv_nonneg (by omega) (by omega)
 have q1:Q<4294967296:=by
  rw[h6]
  exact Int.ediv_lt_of_lt_mul hv (by omega)
 refine⟨q0,q1,by omega,by omega⟩
theorem Half.exit {U x a b Q q r:Int} (h:Half U x a b Q) (e:q*a+r=U) (hq:Q<=q) (h2:q*b<=r*4294967296+x):q=Q:=by
 obtain⟨q0,q1,q2,q3⟩:=h.q
 have h4:=h.ha
 have:q*(a*4294967296+b)<=U*4294967296+x:=by
  have:q*(a*4294967296+b)=q*a*4294967296+q*b:=by grind
  rw[this]
  generalize q*a=qa at *
  omega
 have h5:q<Q+1:=by
  have hv:0<a*4294967296+b:=by have:=h.hb;omega
  exact Int.lt_of_mul_lt_mul_right (by omega) (Int.le_of_lt hv)
 omega
theorem Half.down {U x a b Q q r:Int} (h:Half U x a b Q) (e:q*a+r=U) (h2:4294967296<=q∨r*4294967296+x<q*b):Q<=q-1:=by
 obtain⟨q0,q1,q2,q3⟩:=h.q
 rcases h2 with h2|h2
 ·omega
 ·have:U*4294967296+x<q*(a*4294967296+b):=by
   have:q*(a*4294967296+b)=q*a*4294967296+q*b:=by grind
   rw[this]
   generalize q*a=qa at *
   omega
  have h5:Q<q:=by
   have hv:0<a*4294967296+b:=by have:=h.hb;have:=h.ha;omega
   exact Int.lt_of_mul_lt_mul_right (a:=a*4294967296+b) (by omega) (Int.le_of_lt hv)
  omega
theorem Half.small {U x a b Q q r:Int} (h:Half U x a b Q) (e:q*a+r=U) (hr:4294967296<=r):q<4294967296:=by
 have h2:=h.hUv
 have h4:=h.ha
 have h5:=h.hb
 have:q*a<4294967296*a:=by generalize q*a=qa at *;omega
 exact Int.lt_of_mul_lt_mul_right this (by omega)
theorem Half.done {U x a b Q q r:Int} (h:Half U x a b Q) (e:q*a+r=U) (hq:Q<=q) (hr:4294967296<=r):q=Q:=by
 refine h.exit e hq ?_
 have h1:=h.small e hr
 obtain⟨q0,_⟩:=h.q
 have h5:=h.hb
 have h6:=h.hx
 have:q*b<=4294967296*4294967296:=Int.mul_le_mul (by omega) (by omega) (by omega) (by omega)
 omega
theorem Half.rest {U x a b Q:Int} (h:Half U x a b Q):(U*4294967296+x)-Q*(a*4294967296+b)=(U*4294967296+x)%(a*4294967296+b)/\0<=(U*4294967296+x)%(a*4294967296+b)/\(U*4294967296+x)%(a*4294967296+b)<a*4294967296+b:=by
 have hv:0<a*4294967296+b:=by have:=h.hb;have:=h.ha;omega
 have e:=Int.emod_add_mul_ediv (U*4294967296+x) (a*4294967296+b)
 rw[<-h.hQ]at e
 have:=Int.mul_comm (a*4294967296+b) Q
 exact⟨by omega,Int.emod_nonneg _ (by omega),Int.emod_lt_of_pos _ hv⟩
theorem k1v2 {N y p U un1 un0 Q1 R1 Q0 R0:Int} (hp:0<p) (hy:0<y) (hN:N*p=U*18446744073709551616+un1*4294967296+un0) (h1:U*4294967296+un1-Q1*(y*p)=R1) (h0:R1*4294967296+un0-Q0*(y*p)=R0)
  (hr:0<=R0/\R0<y*p):Q1*4294967296+Q0=N/y/\R0/p=N%y:=by
 have e:N*p=(Q1*4294967296+Q0)*(y*p)+R0:=by
  rw[hN]
  have:(Q1*4294967296+Q0)*(y*p)=Q1*(y*p)*4294967296+Q0*(y*p):=by grind
  rw[this]
  generalize Q1*(y*p)=a at *
  generalize Q0*(y*p)=b at *
  omega
 have e2:R0=(N-(Q1*4294967296+Q0)*y)*p:=by grind
 have h3:0<=N-(Q1*4294967296+Q0)*y:=by
  rcases Int.lt_or_le (N-(Q1*4294967296+Q0)*y) 0 with h|h
  ·exfalso
   have:(N-(Q1*4294967296+Q0)*y)*p<0:=Int.mul_neg_of_neg_of_pos h hp
   omega
  ·exact h
 have h4:N-(Q1*4294967296+Q0)*y<y:=by
  refine Int.lt_of_mul_lt_mul_right (a:=p) ?_ (Int.le_of_lt hp)
  omega
 have e3:N=(N-(Q1*4294967296+Q0)*y)+y*(Q1*4294967296+Q0):=by grind
 constructor
 ·conv=>rhs;rw[e3]
  rw[Int.add_mul_ediv_left _ _ (by omega),Int.ediv_eq_zero_of_lt h3 h4]
  omega
 ·rw[e2,Int.mul_ediv_cancel _ (by omega)]
  conv=>rhs;rw[e3]
  rw[Int.add_mul_emod_self_left,Int.emod_eq_of_lt h3 h4]
end Go.Md
namespace Go.Md
open Go Go.Bv
theorem ix_nat {α:Type} [Inhabited α] (l:List α) (i:Int) (h0:0<=i) (h1:i<(l.length:Int)):ix l i=l[i.toNat]'(by omega):=by
 have:i.toNat<l.length:=by omega
 simp[ix,this]
theorem ix_mem {α:Type} [Inhabited α] (l:List α) (i:Int) (h0:0<=i) (h1:i<(l.length:Int)):ix l i∈l:=by
 rw[ix_nat l i h0 h1];exact List.getElem_mem _
theorem inc (i n:Int) (h0:0<=i) (h:i<n) (hn:n<=9223372036854775807):IntKind.i64.wrap (i+1)=i+1:=k1i _ (by omega) (by omega)
theorem wi (n:Int) (h0: -9223372036854775808<=n) (h:n<=9223372036854775807):IntKind.i64.wrap n=n:=k1i n h0 (by omega)
theorem wu (n:Int) (h0:0<=n) (h:n<=18446744073709551615):IntKind.u64.wrap n=n:=wrap_u64 n h0 (by omega)
theorem tdiv_nn (a b:Int) (h:0<=a):Int.tdiv a b=a/b:=Int.tdiv_eq_ediv_of_nonneg h
theorem tmod_nn (a b:Int) (h:0<=a):Int.tmod a b=a%b:=Int.tmod_eq_emod_of_nonneg h
theorem k1q {α:Type} [Inhabited α] (l:List α) (i:Int) (h0:0<=i) (h1:i<(l.length:Int)):l.take (i+1).toNat=l.take i.toNat++[ix l i]:=by
 rw[ix_nat l i h0 h1,show(i+1).toNat=i.toNat+1 by omega,List.take_succ_eq_append_getElem (by omega)]
theorem drop_ix {α:Type} [Inhabited α] (l:List α) (i:Int) (h0:0<=i) (h1:i<(l.length:Int)):l.drop i.toNat=ix l i::l.drop (i+1).toNat:=by
 rw[ix_nat l i h0 h1,show(i+1).toNat=i.toNat+1 by omega]
 exact List.drop_eq_getElem_cons (by omega)
theorem kya (a m:Int):∀k:Nat,(a%m)^k%m=a^k%m
 |0=>by simp
 |k+1=>by rw[Int.pow_succ,Int.pow_succ,Int.mul_emod,kya a m k,Int.emod_emod_of_dvd _ (Int.dvd_refl _),<-Int.mul_emod]
abbrev U64 (n:Int):Prop:=0<=n/\n<18446744073709551616
abbrev By (l:List Int):Prop:=∀x∈l,0<=x/\x<256
abbrev Us (l:List Int):Prop:=∀x∈l,0<=x/\x<18446744073709551616
def dig:Nat->Int->List Int
 |0,_=>[]
 |k+1,n=>n%256::dig k (n/256)
def val:List Int->Int
 |[]=>0
 |x::r=>x+256*val r
@[simp] theorem kxb:∀(k:Nat) (n:Int),(dig k n).length=k
 |0,_=>rfl
 |k+1,n=>by simp[dig,kxb k]
def len4 (n:Int):Int:=if n<0∨4294967295<n then 0 else n
def encL (l:List Int):List Int:=dig 4 (len4 l.length)++l.flatMap (dig 8)
def encB (l:List Int):List Int:=dig 4 (len4 l.length)++l
theorem k1p1 (l:List Int):(l.flatMap (dig 8)).length=8*l.length:=by
 induction l with
 |nil=>rfl
 |cons x r ih=>rw[List.flatMap_cons,List.length_append,ih,kxb,List.length_cons];omega
@[simp] theorem k1zz (l:List Int):(encL l).length=4+8*l.length:=by rw[encL,List.length_append,k1p1,kxb]
@[simp] theorem k1zy (l:List Int):(encB l).length=4+l.length:=by simp[encB]
theorem By.append {a b:List Int} (ha:By a) (hb:By b):By (a++b):=fun x hx=>(List.mem_append.1 hx).elim (ha x) (hb x)
theorem By.take {l:List Int} (h:By l) (n:Nat):By (l.take n):=fun x hx=>h x (List.mem_of_mem_take hx)
theorem By.drop {l:List Int} (h:By l) (n:Nat):By (l.drop n):=fun x hx=>h x (List.mem_of_mem_drop hx)
theorem By.us {l:List Int} (h:By l):Us l:=fun x hx=>by have:=h x hx;omega
end Go.Md
namespace Go.Md
open Go Go.Bv
def len64 (x:Int):Int:=if x=0 then 0 else(Nat.log2 x.toNat+1:Nat)
theorem kuq (x:Int) (k:Nat) (h:((2^k:Nat):Int)<=x):len64 (x/((2^k:Nat):Int))+k=len64 x:=by
 obtain⟨n,rfl⟩:=Int.eq_ofNat_of_zero_le (by have:=Nat.two_pow_pos k;omega:0<=x)
 have hp:0<2^k:=Nat.two_pow_pos k
 have hn:2^k<=n:=by omega
 have e:((n:Int)/((2^k:Nat):Int))=((n/2^k:Nat):Int):=(Int.natCast_ediv _ _).symm
 have h1:0<n/2^k:=Nat.div_pos hn hp
 unfold len64
 rw[e,if_neg (by omega),if_neg (by omega),Int.toNat_natCast,Int.toNat_natCast]
 have:Nat.log2 n=Nat.log2 (n/2^k)+k:=by
  rw[Nat.log2_eq_iff (by omega)]
  have a:=Nat.log2_self_le (n:=n/2^k) (by omega)
  have b:=Nat.lt_log2_self (n:=n/2^k)
  rw[Nat.le_div_iff_mul_le hp]at a
  rw[Nat.div_lt_iff_lt_mul hp]at b
  constructor
  ·rw[Nat.pow_add];exact a
  ·rw[show Nat.log2 (n/2^k)+k+1=Nat.log2 (n/2^k)+1+k by omega,Nat.pow_add];exact b
 omega
theorem k1fh (y:Int) (h:0<y/\y<18446744073709551616):∃s:Nat,64-len64 y=(s:Int)/\s<=63/\9223372036854775808<=y*((2^s:Nat):Int)/\y*((2^s:Nat):Int)<18446744073709551616:=by
 obtain⟨n,rfl⟩:=Int.eq_ofNat_of_zero_le (by omega:0<=y)
 have l:Nat.log2 n<64:=(Nat.log2_lt (by omega)).2 (by omega)
 have a:=Nat.log2_self_le (n:=n) (by omega)
 have b:=Nat.lt_log2_self (n:=n)
 refine⟨63-Nat.log2 n,?_,by omega,?_,?_⟩
 ·unfold len64
  rw[if_neg (by omega),Int.toNat_natCast]
  omega
 ·have:2^63<=n*2^(63-Nat.log2 n):=by
   rw[show(63:Nat)=Nat.log2 n+(63-Nat.log2 n)by omega,Nat.pow_add,show Nat.log2 n+(63-Nat.log2 n)-Nat.log2 n=63-Nat.log2 n by omega]
   exact Nat.mul_le_mul_right _ a
  rw[<-Int.natCast_mul]
  generalize n*2^(63-Nat.log2 n)=m at *
  omega
 ·have:n*2^(63-Nat.log2 n)<2^64:=by
   rw[show(64:Nat)=Nat.log2 n+1+(63-Nat.log2 n)by omega,Nat.pow_add]
   exact Nat.mul_lt_mul_of_pos_right b (Nat.two_pow_pos _)
  rw[<-Int.natCast_mul]
  generalize n*2^(63-Nat.log2 n)=m at *
  omega
def tab8:ByteArray:=⟨#[0,1,2,2,3,3,3,3,4,4,4,4,4,4,4,4,5,5,5,5,5,5,5,5,5,5,5,5,5,5,5,5,6,6,6,6,6,6,6,6,6,6,6,6,6,6,6,6,6,6,6,6,6,6,6,6,6,6,6,6,6,6,6,6,7,7,7,7,7,7,7,7,7,7,7,7,7,7,7,7,7,7,7,7,7,7,7,7,7,7,7,7,7,7,7,7,7,7,7,7,7,7,7,7,7,7,7,7,7,7,7,7,7,7,7,7,7,7,7,7,7,7,7,7,7,7,7,7,8,8,8,8,8,8,8,8,8,8,8,8,8,8,8,8,8,8,8,8,8,8,8,8,8,8,8,8,8,8,8,8,8,8,8,8,8,8,8,8,8,8,8,8,8,8,8,8,8,8,8,8,8,8,8,8,8,8,8,8,8,8,8,8,8,8,8,8,8,8,8,8,8,8,8,8,8,8,8,8,8,8,8,8,8,8,8,8,8,8,8,8,8,8,8,8,8,8,8,8,8,8,8,8,8,8,8,8,8,8,8,8,8,8,8,8,8,8,8,8,8,8,8,8,8,8,8,8]⟩
theorem k1zr:∀b:Nat,b<256->Cv.byteAt tab8 (b:Int)=len64 (b:Int):=by decide +kernel
theorem k1sp (x:Int) (h:0<=x/\x<256):Cv.byteAt tab8 x=len64 x:=by
 obtain⟨n,rfl⟩:=Int.eq_ofNat_of_zero_le h.1
 exact k1zr n (by omega)
theorem k1uh (x:Int) (h:0<=x/\x<256):0<=len64 x/\len64 x<=8:=by
 rw[<-k1sp x h]
 obtain⟨n,rfl⟩:=Int.eq_ofNat_of_zero_le h.1
 have:∀b:Nat,b<256->0<=Cv.byteAt tab8 (b:Int)/\Cv.byteAt tab8 (b:Int)<=8:=by decide +kernel
 exact this n (by omega)
theorem k1x0:tab8.size=256:=by decide +kernel
end Go.Md
namespace Go.Md
open Go Go.Bv Go.Cv Go.Md Go.RowKit
section
variable {α β:Type}
def AllI (f:α->Bool) (l:List α) (i:Int):Prop:=0<=i/\i<=l.length/\∀x∈l.take i.toNat,f x=true
theorem AllI.start {f:α->Bool} {l:List α}:AllI f l 0:=⟨by omega,by omega,by simp⟩
theorem AllI.next [Inhabited α] {f:α->Bool} {l:List α} {i:Int} (h:AllI f l i) (hh:i<l.length) (hl:(l.length:Int)<=9223372036854775807) (hf:f (ix l i)=true):
  AllI f l (IntKind.i64.wrap (i+1))/\(l.length-IntKind.i64.wrap (i+1)).toNat<(l.length-i).toNat:=by
 obtain⟨g0,g1,g2⟩:=h
 rw[inc i l.length g0 hh hl]
 refine⟨⟨by omega,by omega,?_⟩,by omega⟩
 rw[k1q l i g0 hh]
 intro x hx
 rcases List.mem_append.1 hx with hx|hx
 ·exact g2 x hx
 ·have:x=ix l i:=by simpa using hx
  rw[this];exact hf
theorem AllI.bad [Inhabited α] {f:α->Bool} {l:List α} {i:Int} (h:AllI f l i) (hh:i<l.length) (hf:f (ix l i)=false):l.all f=false:=
 List.all_eq_false.2 ⟨ix l i,Md.ix_mem l i h.1 hh,by simp[hf]⟩
theorem AllI.done {f:α->Bool} {l:List α} {i:Int} (h:AllI f l i) (hh:¬i<l.length):l.all f=true:=by
 obtain⟨g0,g1,g2⟩:=h
 rw[List.take_of_length_le (by omega)]at g2
 exact List.all_eq_true.2 g2
def FoldI (f:β->α->β) (z:β) (l:List α) (i:Int) (s:β):Prop:=0<=i/\i<=l.length/\s=(l.take i.toNat).foldl f z
theorem FoldI.start {f:β->α->β} {z:β} {l:List α}:FoldI f z l 0 z:=⟨by omega,by omega,by simp⟩
theorem FoldI.next [Inhabited α] {f:β->α->β} {z:β} {l:List α} {i:Int} {s s' :β} (h:FoldI f z l i s) (hh:i<l.length) (hl:(l.length:Int)<=9223372036854775807) (hs:s' =f s (ix l i)):
  FoldI f z l (IntKind.i64.wrap (i+1)) s'/\(l.length-IntKind.i64.wrap (i+1)).toNat<(l.length-i).toNat:=by
 obtain⟨g0,g1,g2⟩:=h
 rw[inc i l.length g0 hh hl]
 refine⟨⟨by omega,by omega,?_⟩,by omega⟩
 rw[k1q l i g0 hh,List.foldl_append,<-g2,hs]
 rfl
theorem FoldI.done {f:β->α->β} {z:β} {l:List α} {i:Int} {s:β} (h:FoldI f z l i s) (hh:¬i<l.length):s=l.foldl f z:=by
 obtain⟨g0,g1,g2⟩:=h
 rwa [List.take_of_length_le (by omega)]at g2
def FlatI (f:α->List β) (z:List β) (l:List α) (i:Int) (s:List β):Prop:=0<=i/\i<=l.length/\s=z++(l.take i.toNat).flatMap f
theorem FlatI.start {f:α->List β} {z:List β} {l:List α}:FlatI f z l 0 z:=⟨by omega,by omega,by simp⟩
theorem FlatI.next [Inhabited α] {f:α->List β} {z:List β} {l:List α} {i:Int} {s s' :List β} (h:FlatI f z l i s) (hh:i<l.length) (hl:(l.length:Int)<=9223372036854775807) (hs:s' =s++f (ix l i)):
  FlatI f z l (IntKind.i64.wrap (i+1)) s'/\(l.length-IntKind.i64.wrap (i+1)).toNat<(l.length-i).toNat:=by
 obtain⟨g0,g1,g2⟩:=h
 rw[inc i l.length g0 hh hl]
 refine⟨⟨by omega,by omega,?_⟩,by omega⟩
 rw[k1q l i g0 hh,List.flatMap_append,hs,g2]
 simp
theorem FlatI.done {f:α->List β} {z:List β} {l:List α} {i:Int} {s:List β} (h:FlatI f z l i s) (hh:¬i<l.length):s=z++l.flatMap f:=by
 obtain⟨g0,g1,g2⟩:=h
 rwa [List.take_of_length_le (by omega)]at g2
theorem FlatI.len {f:α->List β} {z:List β} {l:List α} {i:Int} {s:List β} (h:FlatI f z l i s) (k:Nat) (hk:∀x∈l,(f x).length<=k):s.length<=z.length+k*l.length:=by
 obtain⟨g0,g1,g2⟩:=h
 have key:∀(m:List α),(∀x∈m,(f x).length<=k)->(m.flatMap f).length<=k*m.length:=by
  intro m
  induction m with
  |nil=>simp
  |cons a m ih=>
   intro hm
   have h1:=ih (fun x hx=>hm x (by simp[hx]))
   have h2:=hm a (by simp)
   rw[List.flatMap_cons,List.length_append,List.length_cons,Nat.mul_add]
   omega
 have h1:=key (l.take i.toNat) (fun x hx=>hk x (List.mem_of_mem_take hx))
 have h2:k*(l.take i.toNat).length<=k*l.length:=Nat.mul_le_mul_left _ (by rw[List.length_take];omega)
 rw[g2,List.length_append]
 omega
def MapI (f:α->β) (l:List α) (i:Int) (s:List β):Prop:=0<=i/\i<=l.length/\s=(l.take i.toNat).map f
theorem MapI.start {f:α->β} {l:List α}:MapI f l 0 []:=⟨by omega,by omega,by simp⟩
theorem MapI.next [Inhabited α] {f:α->β} {l:List α} {i:Int} {s s' :List β} (h:MapI f l i s) (hh:i<l.length) (hl:(l.length:Int)<=9223372036854775807) (hs:s' =s++[f (ix l i)]):
  MapI f l (IntKind.i64.wrap (i+1)) s'/\(l.length-IntKind.i64.wrap (i+1)).toNat<(l.length-i).toNat:=by
 obtain⟨g0,g1,g2⟩:=h
 rw[inc i l.length g0 hh hl]
 refine⟨⟨by omega,by omega,?_⟩,by omega⟩
 rw[k1q l i g0 hh,List.map_append,hs,g2]
 simp
theorem MapI.done {f:α->β} {l:List α} {i:Int} {s:List β} (h:MapI f l i s) (hh:¬i<l.length):s=l.map f:=by
 obtain⟨g0,g1,g2⟩:=h
 rwa [List.take_of_length_le (by omega)]at g2
theorem MapI.len {f:α->β} {l:List α} {i:Int} {s:List β} (h:MapI f l i s):s.length=i.toNat:=by
 obtain⟨g0,g1,g2⟩:=h
 rw[g2,List.length_map,List.length_take];omega
def EqI [Inhabited α] (f:α->α->Bool) (l m:List α) (i:Int):Prop:=0<=i/\i<=l.length/\∀j:Nat,(j:Int)<i->f (ix l j) (ix m j)=true
theorem EqI.start [Inhabited α] {f:α->α->Bool} {l m:List α}:EqI f l m 0:=⟨by omega,by omega,fun j hj=>by omega⟩
theorem EqI.next [Inhabited α] {f:α->α->Bool} {l m:List α} {i:Int} (h:EqI f l m i) (hh:i<l.length) (hl:(l.length:Int)<=9223372036854775807) (hf:f (ix l i) (ix m i)=true):
  EqI f l m (IntKind.i64.wrap (i+1))/\(l.length-IntKind.i64.wrap (i+1)).toNat<(l.length-i).toNat:=by
 obtain⟨g0,g1,g2⟩:=h
 rw[inc i l.length g0 hh hl]
 refine⟨⟨by omega,by omega,fun j hj=> ?_⟩,by omega⟩
 by_cases hji:(j:Int)=i
 ·rw[hji];exact hf
 ·exact g2 j (by omega)
def eqB (f:α->α->Bool):List α->List α->Bool
 |[],[]=>true
 |a::l,b::m=>f a b&&eqB f l m
 |_,_=>false
theorem eqB_iff [Inhabited α] {f:α->α->Bool}:∀{l m:List α},eqB f l m=true↔l.length=m.length/\∀j:Nat,j<l.length->f (ix l (j:Int)) (ix m (j:Int))=true
 |[],[]=>by simp[eqB]
 |[],_::_=>by simp[eqB]
 |_::_,[]=>by simp[eqB]
 |a::l,b::m=>by
  have e:∀(a:α) (l:List α) (j:Nat),j<l.length->ix (a::l) ((j+1:Nat):Int)=ix l (j:Int):=by
   intro a l j hj
   rw[ix_nat _ _ (by omega) (by simp;omega),ix_nat _ _ (by omega) (by omega)]
   rfl
  have e0:∀(a:α) (l:List α),ix (a::l) ((0:Nat):Int)=a:=fun a l=>by rw[ix_nat _ _ (by omega) (by simp)];rfl
  simp only[eqB,Bool.and_eq_true,eqB_iff,List.length_cons]
  constructor
  ·rintro ⟨h1,h2,h3⟩
   refine⟨by omega,fun j hj=> ?_⟩
   cases j with
   |zero=>rw[e0,e0];exact h1
   |succ j=>rw[e a l j (by omega),e b m j (by omega)];exact h3 j (by omega)
  ·rintro ⟨h1,h2⟩
   have h3:=h2 0 (by omega)
   rw[e0,e0]at h3
   refine⟨h3,by omega,fun j hj=> ?_⟩
   have:=h2 (j+1) (by omega)
   rwa [e a l j (by omega),e b m j (by omega)]at this
theorem EqI.bad [Inhabited α] {f:α->α->Bool} {l m:List α} {i:Int} (h:EqI f l m i) (hh:i<l.length) (hf:f (ix l i) (ix m i)=false):eqB f l m=false:=by
 cases hq:eqB f l m with
 |false=>rfl
 |true=>
  have h0:=h.1
  have:=(eqB_iff.1 hq).2 i.toNat (by omega)
  rw[Int.toNat_of_nonneg h.1,hf]at this
  cases this
theorem EqI.done [Inhabited α] {f:α->α->Bool} {l m:List α} {i:Int} (h:EqI f l m i) (hlm:l.length=m.length) (hh:¬i<l.length):eqB f l m=true:=
 eqB_iff.2 ⟨hlm,fun j hj=>h.2.2 j (by omega)⟩
end
@[simp] theorem k203 {α:Type} (p:α->Bool):mHas p []=false:=rfl
@[simp] theorem k202 {α β:Type} (p:α->Bool) (z:β) (vs:List β):mVal p [] vs z=z:=rfl
theorem k1q2 (a:Int) (h:0<=a/\a<4611686018427387904):iand .i64 a 1=a%2:=by
 obtain⟨n,rfl⟩:=Int.eq_ofNat_of_zero_le h.1
 unfold iand
 have e1:(BitVec.ofInt IntKind.i64.bits (n:Int)).toNat=n:=kir n (by omega)
 have e2:(BitVec.ofInt IntKind.i64.bits (1:Int)).toNat=1:=kir 1 (by omega)
 rw[BitVec.toNat_and,e1,e2,Nat.and_one_is_mod]
 rw[wi _ (by omega) (by omega)]
 omega
end Go.Md
namespace Go.Proofs.YtlfcebhnjkcmnaaGreat
open Go Go.Bv Go.Cv Go.Md Go.RowKit
def rc (r i:Int):Int:=(3*r+i+1)*11400714819323198485%18446744073709551616%18446744069414584321
def mixS (s:wAA):wAA:=⟨(s.a0+((s.a0+s.a1)%18446744069414584321+s.a2)%18446744069414584321)%18446744069414584321,(s.a1+((s.a0+s.a1)%18446744069414584321+s.a2)%18446744069414584321)%18446744069414584321,(s.a2+((s.a0+s.a1)%18446744069414584321+s.a2)%18446744069414584321)%18446744069414584321⟩
def pw (a e:Int):Int:=a^e.toNat%18446744069414584321
def rnd (s:wAA) (r:Int):wAA:=mixS ⟨pw ((s.a0+rc r 0)%18446744069414584321) 7,pw ((s.a1+rc r 1)%18446744069414584321) 7,pw ((s.a2+rc r 2)%18446744069414584321) 7⟩
def rnds:Nat->wAA->wAA
 |0,s=>s
 |n+1,s=>rnd (rnds n s) n
def permS (s:wAA):wAA:=rnds 8 s
def absL:List Int->wAA->wAA
 |[],s=>s
 |[x],s=>permS ⟨(s.a0+x)%18446744069414584321,s.a1,s.a2⟩
 |x::y::r,s=>absL r (permS ⟨(s.a0+x)%18446744069414584321,(s.a1+y)%18446744069414584321,s.a2⟩)
def absI (label:Int) (l:List Int):wAA:=⟨0,0,(label*65536%18446744069414584321+(l.length:Int))%18446744069414584321⟩
def absS (label:Int) (l:List Int):wAA:=if l=[]then permS (absI label l)else absL l (absI label l)
def hashS (label:Int) (l:List Int):Int:=(absS label l).a0
def S3 (s:wAA):Prop:=U64 s.a0/\U64 s.a1/\U64 s.a2
theorem S3m {a b c:Int} (ha:U64 a) (hb:U64 b) (hc:U64 c):S3 ⟨a,b,c⟩:=⟨ha,hb,hc⟩
theorem kdl (s:wAA):S3 (permS s):=by
 show S3 (rnd _ _)
 unfold rnd mixS S3
 dsimp only
 omega
theorem k1cf:∀(l:List Int) (s:wAA),S3 s->S3 (absL l s)
 |[],_,h=>h
 |[_],_,_=>kdl _
 |_::_::r,_,_=>k1cf r _ (kdl _)
theorem kmp (label:Int) (l:List Int):U64 (hashS label l):=by
 unfold hashS absS
 split
 ·exact(kdl _).1
 ·rename_i h
  match l,h with
  |[_],_=>exact(kdl _).1
  |_::_::r,_=>exact(k1cf r _ (kdl _)).1
theorem k1bp (s:wAA):(permS s).a0<18446744069414584321:=by
 show(rnd _ _).a0<_
 unfold rnd mixS
 dsimp only
 omega
theorem absL_lt:∀(l:List Int) (s:wAA),l≠[]->(absL l s).a0<18446744069414584321
 |[],_,h=>(h rfl).elim
 |[_],_,_=>k1bp _
 |[_,_],_,_=>k1bp _
 |_::_::x::r,s,_=>absL_lt (x::r) _ (by simp)
theorem kpy (label:Int) (l:List Int):hashS label l<18446744069414584321:=by
 unfold hashS absS
 split
 ·exact k1bp _
 ·rename_i h;exact absL_lt _ _ h
def idxI (l:List Int) (v:Int):Int:=if v∈l then(l.idxOf v:Int)else -1
def vMarks (l:List Int):Bool:=decide (l.length<=4)&&l.all (fun x=>decide (x<18446744069414584321))&&decide l.Nodup
def vPoint (a b:Int):Bool:=decide (a<18446744069414584321)&&(decide (b<18446744069414584321)&&(a !=0||b !=0))
def vOut (x:ww):Bool:=decide (x.wz<18446744069414584321)&&vPoint x.wAF x.wAE&&decide (x.wAB.length=3)&&x.wAB.all (fun n=>decide (n<18446744069414584321))
def vOuts (l:List ww):Bool:=decide (l.length<=4)&&l.all vOut
def vAmounts (t:wm):Bool:=decide (t.wV<=4294967295)&&decide (t.wZ<=4294967295)&&decide (t.Fee<=4294967295)&&decide (t.we<18446744069414584321)&&decide (t.wO<18446744069414584321)&&
 (if 0<t.wV then t.wZ==0 else !t.wE.isEmpty&&t.wO==0&&(decide (0<t.wZ)||t.we==0))
def vRest (t:wm):Bool:=decide (t.wy<18446744069414584321)&&decide (0<=t.wx)&&decide (t.wx<=1048576)
def validE (t:wm):Int:=if vMarks t.wE&&vOuts t.wT&&vAmounts t&&vRest t then(if t.wAD.length<=1048576 then 0 else 3)else 1
theorem kbh (t:wm):vAmounts t=true↔t.wV<=4294967295/\t.wZ<=4294967295/\t.Fee<=4294967295/\t.we<18446744069414584321/\t.wO<18446744069414584321/\(0<t.wV->t.wZ=0)/\(¬0<t.wV->t.wE≠[]/\t.wO=0/\(0<t.wZ∨t.we=0)):=by
 unfold vAmounts
 by_cases h:0<t.wV
 ·simp[h,and_assoc]
 ·simp[h,and_assoc]
structure OR (x:ww):Prop where
 c:U64 x.wz
 p0:U64 x.wAF
 p1:U64 x.wAE
 ci:Us x.wAB
structure TR (t:wm):Prop where
 a:U64 t.wy
 m:Us t.wE
 o:∀x∈t.wT,OR x
 d:U64 t.wV
 w:U64 t.wZ
 f:U64 t.Fee
 ac:U64 t.we
 n:U64 t.wO
 e: -9223372036854775808<=t.wx/\t.wx<=9223372036854775807
 p:By t.wAD
def encO (x:ww):List Int:=dig 8 x.wz++dig 8 x.wAF++dig 8 x.wAE++encL x.wAB
def encT (t:wm) (p:List Int):List Int:=dig 8 t.wy++encL t.wE++dig 4 (len4 t.wT.length)++t.wT.flatMap encO++dig 8 t.wV++dig 8 t.wZ++dig 8 t.Fee++dig 8 t.we++dig 8 t.wO++dig 4 (len4 t.wx)++encB p
def weightS (t:wm):Int:=if validE t=0 then(encT t t.wAD).length else 0
def smallB (t:wm) (p:Int):Bool:=decide (t.wE.length<=10)&&decide (t.wT.length<=10)&&t.wT.all (fun x=>decide (x.wAB.length<=10))&&decide ((t.wAD.length:Int)<=p)
structure TL (t:wm):Prop where
 m:t.wE.length<=4294967295
 o:t.wT.length<=4294967295
 c:∀x∈t.wT,x.wAB.length<=4294967295
 p:t.wAD.length<=4294967295
structure VO (x:ww):Prop where
 c:x.wz<18446744069414584321
 p:vPoint x.wAF x.wAE=true
 l:x.wAB.length=3
 ci:∀n∈x.wAB,n<18446744069414584321
theorem kpp (x:ww):vOut x=true↔VO x:=by
 unfold vOut
 simp only[Bool.and_eq_true,decide_eq_true_eq,List.all_eq_true]
 exact⟨fun h=>⟨h.1.1.1,h.1.1.2,h.1.2,h.2⟩,fun h=>⟨⟨⟨h.c,h.p⟩,h.l⟩,h.ci⟩⟩
structure VT (t:wm):Prop where
 ml:t.wE.length<=4
 m:∀x∈t.wE,x<18446744069414584321
 mn:t.wE.Nodup
 ol:t.wT.length<=4
 o:∀x∈t.wT,VO x
 am:vAmounts t=true
 re:vRest t=true
 pl:t.wAD.length<=1048576
theorem kax (t:wm):validE t=0↔VT t:=by
 unfold validE
 constructor
 ·intro h
  split at h
  ·rename_i h1
   split at h
   ·rename_i h2
    simp only[Bool.and_eq_true,vMarks,vOuts,decide_eq_true_eq,List.all_eq_true]at h1
    exact⟨h1.1.1.1.1.1,h1.1.1.1.1.2,h1.1.1.1.2,h1.1.1.2.1,fun x hx=>(kpp x).1 (h1.1.1.2.2 x hx),h1.1.2,h1.2,h2⟩
   ·simp at h
  ·simp at h
 ·intro h
  have:(vMarks t.wE&&vOuts t.wT&&vAmounts t&&vRest t)=true:=by
   simp only[Bool.and_eq_true,vMarks,vOuts,decide_eq_true_eq,List.all_eq_true]
   exact⟨⟨⟨⟨⟨h.ml,h.m⟩,h.mn⟩,h.ol,fun x hx=>(kpp x).2 (h.o x hx)⟩,h.am⟩,h.re⟩
  rw[if_pos this,if_pos h.pl]
theorem VT.tl {t:wm} (h:VT t):TL t:=⟨by have:=h.ml;omega,by have:=h.ol;omega,fun x hx=>by have:=(h.o x hx).l;omega,by have:=h.pl;omega⟩
theorem k1zq {t:wm} {p:Int} (h:smallB t p=true) (hp:p<=1048576:=by omega):TL t:=by
 unfold smallB at h
 simp only[Bool.and_eq_true,decide_eq_true_eq,List.all_eq_true]at h
 exact⟨by omega,by omega,fun x hx=>by have:=h.1.2 x hx;omega,by omega⟩
structure RD where
 n:Int
 ok:Bool
 pos:Int
 fail:Bool
structure RL where
 l:List Int
 pos:Int
 fail:Bool
structure RdOk (b:List Int) (pos:Int):Prop where
 by_:By b
 len:b.length<=137438953472
 pos0:0<=pos
 pos1:pos<=b.length
def rdD (b:List Int) (pos:Int) (f:Bool) (size:Int):RD:=
 if f=true∨(b.length:Int)-pos<size then⟨0,false,pos,true⟩else⟨val ((b.drop pos.toNat).take size.toNat),true,pos+size,false⟩
def rdI (b:List Int) (pos:Int) (f:Bool) (m:Int):RD:=
 if(rdD b pos f 4).ok=false∨m<(rdD b pos f 4).n then⟨0,false,(rdD b pos f 4).pos,true⟩else rdD b pos f 4
def rdB (b:List Int) (pos:Int) (f:Bool) (m:Int):RL:=
 if(rdI b pos f m).fail=true∨(b.length:Int)-(rdI b pos f m).pos<(rdI b pos f m).n then⟨[],(rdI b pos f m).pos,true⟩else⟨(b.take ((rdI b pos f m).pos+(rdI b pos f m).n).toNat).drop (rdI b pos f m).pos.toNat,(rdI b pos f m).pos+(rdI b pos f m).n,false⟩
def nums:Nat->List Int->List Int
 |0,_=>[]
 |k+1,b=>val (b.take 8)::nums k (b.drop 8)
@[simp] theorem k1uu:∀(k:Nat) (b:List Int),(nums k b).length=k
 |0,_=>rfl
 |k+1,b=>by simp[nums,k1uu k]
section
variable {b:List Int} {pos m p:Int} {f:Bool}
end
structure Enc (t:wm) (b:List Int):Prop where
 r:TR t
 v:VT t
 e:encT t t.wAD=b
open Classical in
theorem Enc.us {t:wm} {b:List Int} (h:Enc t b):t.wy<=18446744069414584320/\t.wV<=4294967295/\t.wZ<=4294967295/\t.Fee<=4294967295/\t.we<=18446744069414584320/\t.wO<=18446744069414584320/\0<=t.wx/\t.wx<=1048576:=by
 have h1:=(kbh t).1 h.v.am
 have h2:=h.v.re
 unfold vRest at h2
 simp only[Bool.and_eq_true,decide_eq_true_eq]at h2
 omega
theorem VO.us {x:ww} (h:VO x):x.wz<=18446744069414584320/\x.wAF<=18446744069414584320/\x.wAE<=18446744069414584320:=by
 have h1:=h.c
 have h2:=h.p
 unfold vPoint at h2
 simp only[Bool.and_eq_true,decide_eq_true_eq]at h2
 omega
structure TD (t:wm):Prop where
 r:TR t
 l:TL t
 o:t.wT.length<=1048576
 c:∀x∈t.wT,x.wAB.length<=1024
def sameT (a b:wm):Bool:=decide (a.wT.length=b.wT.length)&&a.wx==b.wx&&decide (a.wT.map (·.wAB.length)=b.wT.map (·.wAB.length))&&decide (encT a a.wAD=encT b b.wAD)
@[simp] theorem k200 (a:wm):sameT a a=true:=by simp[sameT]
structure TK where
 n:Int
 r:List Int
 ok:Bool
structure TKL where
 l:List Int
 r:List Int
 ok:Bool
section
variable {b r:List Int} {n m:Int}
end
structure RB where
 l:List Int
 b:List Int
 f:Bool
structure RN where
 n:Int
 b:List Int
 f:Bool
def tkB (b:List Int) (f:Bool) (k:Int):RB:=if f=true∨(b.length:Int)<k then⟨[],b,true⟩else⟨b.take k.toNat,b.drop k.toNat,false⟩
section
variable {b r:List Int} {f:Bool} {k m n:Int}
end
def sumW (l:List wm):Int:=(l.map weightS).sum
structure BR (b:wd):Prop where
 p:U64 b.wAR
 m:U64 b.wAG
 w:U64 b.wl
 n:U64 b.wO
 h: -9223372036854775808<=b.wU/\b.wU<=9223372036854775807
 t:∀x∈b.Txs,TR x
structure VB0 (b:wd):Prop where
 h0:1<=b.wU
 h1:b.wU<=1048576
 w0:1<=b.wl
 w1:b.wl<=65536
 p:b.wAR<18446744069414584321
 m:b.wAG<18446744069414584321
 l:b.Txs.length<=64
structure VB (b:wd):Prop where
 h:VB0 b
 t:∀x∈b.Txs,validE x=0
 s:sumW b.Txs<=2097152
def hdrS (b:wd):List Int:=dig 8 b.wAR++dig 4 (len4 b.wU)++dig 8 b.wAG++dig 8 b.wl++dig 8 b.wO++dig 4 (len4 (b.Txs.length:Int))
@[simp] theorem k1zx (b:wd):(hdrS b).length=40:=by simp[hdrS]
def encTx (t:wm):List Int:=encB (encT t t.wAD)
def encBk (b:wd):List Int:=hdrS b++b.Txs.flatMap encTx
structure MN where
 b:wd
 ok:Bool
theorem VT.bl {t:wm} (h:VT t) (r:TR t):TR t/\TL t/\t.wT.length<=1048576/\∀x∈t.wT,x.wAB.length<=1024:=⟨r,h.tl,by have:=h.ol;omega,fun x hx=>by have:=(h.o x hx).l;omega⟩
structure EB (x:wd) (b:List Int):Prop where
 r:BR x
 v:VB x
 e:encBk x=b
open Classical in
theorem VB.vt {x:wd} (h:VB x) {t:wm} (ht:t∈x.Txs):VT t:=(kax t).1 (h.t t ht)
end Go.Proofs.YtlfcebhnjkcmnaaGreat
namespace Go.Md
open Go Go.Bv Go.Cv Go.Md Go.RowKit
section
variable {g:List Int} {a b i j:Int} {d:Array Int}
theorem ltI_iff {x y:Int}:Sort.ltInt x y=decide (x<y):=rfl
end
def insS (g:List Int) (a b:Int):List Int:=(Sort.insertionSort Sort.ltInt g.toArray a.toNat b.toNat).toList
def heapS (g:List Int) (a b:Int):List Int:=(Sort.heapSort Sort.ltInt g.toArray a.toNat b.toNat).toList
def partS (g:List Int) (a b p:Int):Nat×Bool×Array Int:=Sort.partition Sort.ltInt g.toArray a.toNat b.toNat p.toNat
section
variable {g:List Int} {a b p:Int}
theorem k1sq (h0:0<=a) (h1:a<=b) (h2:b<=g.length):(insS g a b).length=g.length:=by
 have:=(Sort.insertionSort_holds (lt:=Sort.ltInt) Sort.swo_ltInt g.toArray a.toNat b.toNat (by omega) (by simp;omega)).1.1
 simpa[insS]using this
end
end Go.Md
namespace Go.Proofs.YtlfcebhnjkcmnaaGreat
open Go Go.Bv Go.Cv Go.Md Go.RowKit
def insI (x:Int):List Int->List Int
 |[]=>[x]
 |y::r=>if x<=y then x::y::r else y::insI x r
def srt:List Int->List Int
 |[]=>[]
 |x::r=>insI x (srt r)
theorem kmv (x:Int):∀l,(insI x l).Perm (x::l)
 |[]=>List.Perm.refl _
 |y::r=>by
  unfold insI
  split
  ·exact List.Perm.refl _
  ·exact((kmv x r).cons y).trans (List.Perm.swap x y r)
theorem ks8:∀l,(srt l).Perm l
 |[]=>List.Perm.refl _
 |x::r=>(kmv x (srt r)).trans ((ks8 r).cons x)
theorem ku0 (x:Int):∀l:List Int,l.Pairwise (·<=·)->(insI x l).Pairwise (·<=·)
 |[],_=>by simp[insI]
 |y::r,h=>by
  unfold insI
  rw[List.pairwise_cons]at h
  split
  ·rename_i hxy
   rw[List.pairwise_cons,List.pairwise_cons]
   refine⟨fun z hz=> ?_,h⟩
   rcases List.mem_cons.1 hz with rfl|hz
   ·exact hxy
   ·exact Int.le_trans hxy (h.1 z hz)
  ·rename_i hxy
   rw[List.pairwise_cons]
   refine⟨fun z hz=> ?_,ku0 x r h.2⟩
   rcases List.mem_cons.1 ((kmv x r).mem_iff.1 hz)with rfl|hz
   ·omega
   ·exact h.1 z hz
theorem kx5:∀l,(srt l).Pairwise (·<=·)
 |[]=>List.Pairwise.nil
 |x::r=>ku0 x _ (kx5 r)
theorem ko7:∀(l m:List Int),l.Perm m->l.Pairwise (·<=·)->m.Pairwise (·<=·)->l=m
 |[],m,h,_,_=>by rw[h.symm.eq_nil]
 |x::l,[],h,_,_=>by cases h.eq_nil
 |x::l,y::m,h,hl,hm=>by
  rw[List.pairwise_cons]at hl hm
  have hx:x∈y::m:=h.mem_iff.1 (by simp)
  have hy:y∈x::l:=h.mem_iff.2 (by simp)
  have e:x=y:=by
   rcases List.mem_cons.1 hx with e|hx
   ·exact e
   ·rcases List.mem_cons.1 hy with e|hy
    ·exact e.symm
    ·have:=hl.1 y hy
     have:=hm.1 x hx
     omega
  subst e
  rw[ko7 l m ((List.perm_cons x).1 h) hl.2 hm.2]
theorem srt_eq {l m:List Int} (h:m.Perm l) (hs:m.Pairwise (·<=·)):m=srt l:=ko7 _ _ (h.trans (ks8 l).symm) hs (kx5 l)
theorem k1vo (l:List Int):(srt l).length=l.length:=(ks8 l).length_eq
def SortedTo (g:List Int) (i:Nat):Prop:=∀a b:Nat,a<b->b<i->g[a]?.getD 0<=g[b]?.getD 0
def SortedBut (g:List Int) (i j:Nat):Prop:=∀a b:Nat,a<b->b<i->b≠j->g[a]?.getD 0<=g[b]?.getD 0
theorem SortedTo.all {g:List Int} (h:SortedTo g g.length):g.Pairwise (·<=·):=by
 rw[List.pairwise_iff_getElem]
 intro a b ha hb hab
 have:=h a b hab hb
 rwa [List.getElem?_eq_getElem ha,List.getElem?_eq_getElem hb]at this
theorem SortedBut.zero {g:List Int} {i:Nat} (h:SortedBut g i 0):SortedTo g i:=fun a b hab hb=>h a b hab hb (by omega)
theorem SortedBut.step {g:List Int} {i j:Nat} (h:SortedBut g i j) (hj:0<j) (hi:j<i) (hl:i<=g.length) (hlt:g[j]?.getD 0<g[j-1]?.getD 0) {x y:Int} (hx:x=g[j]?.getD 0) (hy:y=g[j-1]?.getD 0):SortedBut ((g.set j y).set (j-1) x) i (j-1):=by
 have hg:∀k,k<g.length->((g.set j y).set (j-1) x)[k]?.getD 0=if k=j-1 then x else if k=j then y else g[k]?.getD 0:=by
  intro k hk
  rw[List.getElem?_set,List.getElem?_set,List.length_set]
  by_cases e1:j-1=k
  ·rw[if_pos e1,if_pos (by omega),if_pos e1.symm];rfl
  ·rw[if_neg e1,if_neg (Ne.symm e1)]
   by_cases e2:j=k
   ·rw[if_pos e2,if_pos (by omega),if_pos e2.symm];rfl
   ·rw[if_neg e2,if_neg (Ne.symm e2)]
 intro a b hab hb hne
 rw[hg a (by omega),hg b (by omega),if_neg hne]
 by_cases e1:b=j
 ·rw[if_pos e1]
  by_cases e2:a=j-1
  ·rw[if_pos e2];omega
  ·rw[if_neg e2,if_neg (by omega),hy]
   exact h a (j-1) (by omega) (by omega) (by omega)
 ·rw[if_neg e1]
  by_cases e2:a=j-1
  ·rw[if_pos e2,hx]
   exact h j b (by omega) hb e1
  ·rw[if_neg e2]
   by_cases e3:a=j
   ·rw[if_pos e3,hy]
    exact h (j-1) b (by omega) hb e1
   ·rw[if_neg e3]
    exact h a b hab hb e1
theorem kye (d:Array Int) (a b k:Nat) (hb:b<=d.size) (hk:a+k<b):(d.extract a b).toList[k]? =some d[a+k]! :=by
 rw[Sort.extract_toList d a b hb,List.getElem?_map,List.getElem?_range' (by omega)]
 simp
theorem k17o {d:Array Int} {a b:Nat} (hb:b<=d.size) (h:Sort.SortedIn Sort.ltInt a b d):(d.extract a b).toList.Pairwise (·<=·):=by
 rw[List.pairwise_iff_getElem]
 intro i j hi hj hij
 have hl:(d.extract a b).toList.length=b-a:=by simp;omega
 have e1:=kye d a b i hb (by omega)
 have e2:=kye d a b j hb (by omega)
 rw[List.getElem?_eq_getElem hi]at e1
 rw[List.getElem?_eq_getElem hj]at e2
 rw[Option.some.inj e1,Option.some.inj e2]
 have:=h (a+i) (a+j) (by omega) (by omega) (by omega)
 rw[ltI_iff]at this
 have:=of_decide_eq_false this
 omega
theorem k1na {d R R' :Array Int} {a b:Nat} (hb:b<=d.size) (h1:Sort.PermIn a b d R) (h2:Sort.SortedIn Sort.ltInt a b R) (h3:Sort.PermIn a b d R') (h4:Sort.SortedIn Sort.ltInt a b R'):R=R' :=by
 have e:=ko7 _ _ (h1.2.2.trans h3.2.2.symm) (k17o (by rw[h1.1];exact hb) h2) (k17o (by rw[h3.1];exact hb) h4)
 refine Array.ext (by rw[h1.1,h3.1]) fun i hi hi' => ?_
 have q1:R[i]! =R[i]:=getElem!_pos R i hi
 have q2:R'[i]! =R'[i]:=getElem!_pos R' i hi'
 rw[<-q1,<-q2]
 by_cases hc:a<=i/\i<b
 ·have e1:=kye R a b (i-a) (by rw[h1.1];exact hb) (by omega)
  have e2:=kye R' a b (i-a) (by rw[h3.1];exact hb) (by omega)
  rw[e,e2,show a+(i-a)=i by omega]at e1
  exact(Option.some.inj e1).symm
 ·rw[h1.2.1 i (by omega),h3.2.1 i (by omega)]
theorem kov {g:List Int} {a b:Int} (h0:0<=a) (h1:a<=b) (h2:b<=g.length):Sort.PermIn a.toNat b.toNat g.toArray (insS g a b).toArray/\Sort.SortedIn Sort.ltInt a.toNat b.toNat (insS g a b).toArray:=by
 have:=Sort.insertionSort_holds (lt:=Sort.ltInt) Sort.swo_ltInt g.toArray a.toNat b.toNat (by omega) (by simp;omega)
 unfold insS
 simpa using this
theorem k1uq {g:List Int} {a b:Int} (h0:0<=a) (h1:a<=b) (h2:b<=g.length):Sort.PermIn a.toNat b.toNat g.toArray (heapS g a b).toArray/\Sort.SortedIn Sort.ltInt a.toNat b.toNat (heapS g a b).toArray:=by
 have:=Sort.heapSort_holds (lt:=Sort.ltInt) Sort.swo_ltInt g.toArray a.toNat b.toNat (by omega) (by simp;omega)
 unfold heapS
 simpa using this
structure PdqI (R0:Array Int) (n:Nat) (a b:Int) (g:List Int):Prop where
 a0:0<=a
 ab:a<=b
 bl:b<=g.length
 n:g.length=n
 be:Sort.Below Sort.ltInt a.toNat b.toNat g.toArray
 u:∀R,Sort.PermIn a.toNat b.toNat g.toArray R->Sort.SortedIn Sort.ltInt a.toNat b.toNat R->R=R0
theorem PdqI.ins {R0:Array Int} {n:Nat} {a b:Int} {g:List Int} (h:PdqI R0 n a b g):insS g a b=R0.toList:=by
 obtain⟨h1,h2⟩:=kov h.a0 h.ab h.bl
 rw[<-h.u _ h1 h2]
theorem PdqI.heap {R0:Array Int} {n:Nat} {a b:Int} {g:List Int} (h:PdqI R0 n a b g):heapS g a b=R0.toList:=by
 obtain⟨h1,h2⟩:=k1uq h.a0 h.ab h.bl
 rw[<-h.u _ h1 h2]
theorem PdqI.part {R0:Array Int} {n:Nat} {a b p:Int} {g:List Int} (h:PdqI R0 n a b g) (h1:a<=p) (h2:p<b):a<=(partS g a b p).1/\(partS g a b p).1<b/\(partS g a b p).2.2.size=n/\
  Sort.Below Sort.ltInt a.toNat (partS g a b p).1 (partS g a b p).2.2/\Sort.Below Sort.ltInt ((partS g a b p).1+1) b.toNat (partS g a b p).2.2/\
  PdqI R0 n ((partS g a b p).1+1) b (insS (partS g a b p).2.2.toList a (partS g a b p).1)/\PdqI R0 n a (partS g a b p).1 (insS (partS g a b p).2.2.toList ((partS g a b p).1+1) b):=by
 have h3:=h.bl
 have h0:=h.a0
 obtain⟨q1,q2,q3,q4,q5,q6,q7⟩:=Sort.round_part (lt:=Sort.ltInt) (d3:=g.toArray) (d4:=(partS g a b p).2.2) (a:=a.toNat) (b:=b.toNat) (pivot:=p.toNat) (mid:=(partS g a b p).1) (ap:=(partS g a b p).2.1) Sort.swo_ltInt (Sort.partition_holds Sort.ltInt) (by omega) (by omega) (by simp;omega) h.be rfl
 simp at q3
 have hn:=h.n
 generalize partS g a b p=P at *
 obtain⟨m,ap,d⟩:=P
 dsimp only at *
 have l1:=kov (g:=d.toList) (a:=a) (b:=m) h0 (by omega) (by simp;omega)
 have l2:=kov (g:=d.toList) (a:=(m:Int)+1) (b:=b) (by omega) (by omega) (by simp;omega)
 simp only[Array.toArray_toList,Int.toNat_natCast]at l1 l2
 rw[show((m:Int)+1).toNat=m+1 by omega]at l2
 have n1:(insS d.toList a m).length=d.toList.length:=k1sq h0 (by omega) (by simp;omega)
 have n2:(insS d.toList ((m:Int)+1) b).length=d.toList.length:=k1sq (by omega) (by omega) (by simp;omega)
 simp at n1 n2
 obtain⟨w1,w2⟩:=q6 _ l1.1 l1.2
 obtain⟨w3,w4⟩:=q7 _ l2.1 l2.2
 refine⟨by omega,by omega,by omega,q4,q5,⟨by omega,by omega,by omega,by omega,by rw[show((m:Int)+1).toNat=m+1 by omega];exact w1,fun R r1 r2=> ?_⟩,⟨h0,by omega,by omega,by omega,by simpa using w3,fun R r1 r2=> ?_⟩⟩
 ·rw[show((m:Int)+1).toNat=m+1 by omega]at r1 r2
  obtain⟨s1,s2⟩:=w2 R r1 r2
  exact h.u R s1 s2
 ·simp only[Int.toNat_natCast]at r1 r2
  obtain⟨s1,s2⟩:=w4 R r1 r2
  exact h.u R s1 s2
theorem PdqI.start {g:List Int} {a b:Int} (h0:0<=a) (h1:a<=b) (h2:b<=g.length) (hB:Sort.Below Sort.ltInt a.toNat b.toNat g.toArray):PdqI (insS g a b).toArray g.length a b g:=by
 obtain⟨q1,q2⟩:=kov h0 h1 h2
 exact⟨h0,h1,h2,rfl,hB,fun R r1 r2=>k1na (by simp;omega) r1 r2 q1 q2⟩
def lb (l:List wA) (t:Int):Nat:=(l.takeWhile (fun a=>decide (a.ID<t))).length
def fnd (l:List wA) (t:Int):Bool:=match l[lb l t]? with
 |some a=>decide (a.ID=t)
 |none=>false
def Srt (l:List wA):Prop:=∀i j (_:i<j) (hj:j<l.length),l[i].ID<l[j].ID
theorem lb_eq (l:List wA) (t:Int) (i:Nat) (hi:i<=l.length) (h1:∀k (h:k<l.length),k<i->l[k].ID<t) (h2:∀h:i<l.length,t<=l[i].ID):lb l t=i:=by
 unfold lb
 induction l generalizing i with
 |nil=>simp at hi;simp[hi]
 |cons a l ih=>
  cases i with
  |zero=>
   have:=h2 (by simp)
   simp at this
   rw[List.takeWhile_cons,if_neg (by simp;omega)]
   rfl
  |succ i=>
   have h0:=h1 0 (by simp) (by omega)
   simp at h0
   rw[List.takeWhile_cons,if_pos (by simpa using h0),List.length_cons,ih i (by simpa using hi) (fun k h hk=>by have:=h1 (k+1) (by simpa using h) (by omega);simpa using this) (fun h=>by have:=h2 (by simpa using h);simpa using this)]
theorem lb_le (l:List wA) (t:Int):lb l t<=l.length:=(List.takeWhile_sublist _).length_le
theorem lb_spec (l:List wA) (t:Int):(∀k (h:k<l.length),k<lb l t->l[k].ID<t)/\∀h:lb l t<l.length,t<=l[lb l t].ID:=by
 unfold lb
 induction l with
 |nil=>exact⟨fun k h=>absurd h (by simp),fun h=>absurd h (by simp)⟩
 |cons a l ih=>
  by_cases ha:a.ID<t
  ·simp only[List.takeWhile_cons,ha,decide_true,if_true,List.length_cons]
   refine⟨fun k h hk=> ?_,fun h=> ?_⟩
   ·cases k with
    |zero=>exact ha
    |succ k=>simpa using ih.1 k (by simpa using h) (by simpa using hk)
   ·simpa using ih.2 (by simpa using h)
  ·simp only[List.takeWhile_cons,ha,decide_false,Bool.false_eq_true,if_false,List.length_nil]
   exact⟨fun k h hk=>absurd hk (Nat.not_lt_zero _),fun h=>by simpa using ha⟩
theorem krk {l:List wA} {t:Int} (h:fnd l t=true):∃hl:lb l t<l.length,l[lb l t].ID=t:=by
 unfold fnd at h
 split at h
 ·rename_i a ha
  obtain⟨h1,h2⟩:=List.getElem?_eq_some_iff.1 ha
  exact⟨h1,by rw[h2];simpa using h⟩
 ·cases h
def getA (l:List wA) (t:Int):wA:=match l.find? (fun a=>decide (a.ID=t))with
 |some a=>a
 |none=>⟨t,0,0⟩
theorem getA_of {l:List wA} {t:Int} (hs:Srt l) (h:fnd l t=true) (hl:lb l t<l.length):getA l t=l[lb l t]:=by
 obtain⟨_,he⟩:=krk h
 unfold getA
 have:l.find? (fun a=>decide (a.ID=t))=some l[lb l t]:=by
  rw[List.find?_eq_some_iff_getElem]
  refine⟨by simpa using he,lb l t,hl,rfl,fun j hj=> ?_⟩
  have:=(lb_spec l t).1 j (by omega) hj
  simp;omega
 rw[this]
theorem getA_no {l:List wA} {t:Int} (hs:Srt l) (h:fnd l t=false):getA l t=⟨t,0,0⟩:=by
 unfold getA
 have:l.find? (fun a=>decide (a.ID=t))=none:=by
  rw[List.find?_eq_none]
  intro a ha hat
  simp only[decide_eq_true_eq]at hat
  obtain⟨k,hk,rfl⟩:=List.getElem_of_mem ha
  obtain⟨g1,g2⟩:=lb_spec l t
  rcases Nat.lt_or_ge k (lb l t)with h1|h1
  ·have:=g1 k hk h1;omega
  ·have h2:lb l t<l.length:=by omega
   have h3:=g2 h2
   have h4:l[lb l t].ID≠t:=by
    intro he
    have:fnd l t=true:=by unfold fnd;rw[List.getElem?_eq_getElem h2];simpa using he
    rw[h]at this;cases this
   rcases Nat.lt_or_ge (lb l t) k with h5|h5
   ·have:=hs _ _ h5 hk;omega
   ·have:k=lb l t:=by omega
    subst this;omega
 rw[this]
def AccOk (a:wA):Prop:=(0<=a.ID/\a.ID<18446744069414584321)/\(0<=a.wX/\a.wX<=9223372036854775807)/\0<=a.wO/\a.wO<18446744073709551616
def OkA (l:List wA):Prop:=Srt l/\l.length<=1000/\∀a∈l,AccOk a
theorem getA_ok {l:List wA} (h:OkA l) (t:Int):(0<=(getA l t).wX/\(getA l t).wX<=9223372036854775807)/\0<=(getA l t).wO/\(getA l t).wO<18446744073709551616:=by
 unfold getA
 split
 ·rename_i a ha
  exact(h.2.2 a (List.mem_of_find?_eq_some ha)).2
 ·simp
theorem getA_at {l:List wA} {t:Int} {i:Nat} (hi:i<l.length) (he:l[i].ID=t) (hb:∀k (h:k<l.length),k<i->l[k].ID≠t):getA l t=l[i]:=by
 unfold getA
 have:l.find? (fun a=>decide (a.ID=t))=some l[i]:=by
  rw[List.find?_eq_some_iff_getElem]
  exact⟨by simpa using he,i,hi,rfl,fun j hj=>by have:=hb j (by omega) hj;simpa using this⟩
 rw[this]
theorem k1xc {l:List wA} {t:Int} (hb:∀k (h:k<l.length),l[k].ID≠t):getA l t=⟨t,0,0⟩:=by
 unfold getA
 have:l.find? (fun a=>decide (a.ID=t))=none:=by
  rw[List.find?_eq_none]
  intro a ha hat
  obtain⟨k,hk,rfl⟩:=List.getElem_of_mem ha
  exact hb k hk (by simpa using hat)
 rw[this]
theorem getA_id (l:List wA) (t:Int):(getA l t).ID=t:=by
 unfold getA
 split
 ·rename_i a ha;simpa using List.find?_some ha
 ·rfl
def putA (l:List wA) (a:wA):List wA:=l.take (lb l a.ID)++(if a.wX≠0∨a.wO≠0 then [a]else [])++l.drop (lb l a.ID+if fnd l a.ID then 1 else 0)
def creditA (l:List wA) (id amt:Int):List wA×Int:=
 if 9223372036854775807-(getA l id).wX<amt then([],1)else(putA l ⟨id,(getA l id).wX+amt,(getA l id).wO⟩,0)
def debitA (l:List wA) (id amt non:Int):List wA×Int:=
 if amt=0 then([],1)else if non≠(getA l id).wO∨non=18446744073709551615 then([],20)else if(getA l id).wX<amt then([],15)else(putA l ⟨id,(getA l id).wX-amt,non+1⟩,0)
theorem tail_eq {l:List wA} (hs:Srt l) (t:Int):l.filter (fun x=>decide (t<x.ID))=l.drop (lb l t+if fnd l t then 1 else 0):=by
 obtain⟨g1,g2⟩:=lb_spec l t
 have key:∀(i:Nat),(∀k (h:k<l.length),k<i->l[k].ID<=t)->(∀k (h:k<l.length),i<=k->t<l[k].ID)->l.filter (fun x=>decide (t<x.ID))=l.drop i:=by
  intro i h1 h2
  rw[<-List.take_append_drop i l,List.filter_append,List.take_append_drop]
  have e1:(l.take i).filter (fun x=>decide (t<x.ID))=[]:=by
   rw[List.filter_eq_nil_iff]
   intro x hx
   obtain⟨k,hk,rfl⟩:=List.getElem_of_mem hx
   rw[List.length_take]at hk
   have:=h1 k (by omega) (by omega)
   rw[List.getElem_take]
   simp;omega
  have e2:(l.drop i).filter (fun x=>decide (t<x.ID))=l.drop i:=by
   rw[List.filter_eq_self]
   intro x hx
   obtain⟨k,hk,rfl⟩:=List.getElem_of_mem hx
   rw[List.length_drop]at hk
   have:=h2 (i+k) (by omega) (by omega)
   rw[List.getElem_drop]
   simp;omega
  rw[e1,e2,List.nil_append]
 apply key
 ·intro k h hk
  split at hk
  ·rename_i hf
   obtain⟨h1,h2⟩:=krk hf
   rcases Nat.lt_or_ge k (lb l t)with h3|h3
   ·have:=g1 k h h3;omega
   ·have:k=lb l t:=by omega
    subst this;omega
  ·have:=g1 k h (by omega);omega
 ·intro k h hk
  split at hk
  ·rename_i hf
   obtain⟨h1,h2⟩:=krk hf
   have:=hs (lb l t) k (by omega) h
   omega
  ·rename_i hf
   have h1:lb l t<l.length:=by omega
   have h2:=g2 h1
   have h3:l[lb l t].ID≠t:=by
    intro he
    apply hf
    unfold fnd;rw[List.getElem?_eq_getElem h1];simpa using he
   rcases Nat.lt_or_ge (lb l t) k with h5|h5
   ·have:=hs _ _ h5 h;omega
   ·have:k=lb l t:=by omega
    subst this;omega
theorem inc_i64 (i:Nat) (h:i<4611686018427387904):IntKind.i64.wrap ((i:Int)+1)=((i+1:Nat):Int):=by rw[k1i _ (by omega) (by omega)];omega
theorem mid_eq (i j:Nat) (h:i+j<9223372036854775808):IntKind.i64.wrap (ishr .u64 (IntKind.u64.wrap (IntKind.i64.wrap (↑i+↑j))) 1)=(((i+j)/2:Nat):Int):=by
 have e1:IntKind.i64.wrap ((i:Int)+j)=(i:Int)+j:=k1i _ (by omega) (by omega)
 have e2:IntKind.u64.wrap ((i:Int)+j)=(i:Int)+j:=wrap_u64 _ (by omega) (by omega)
 have e:(2:Int)^min (1:Int).toNat IntKind.u64.bits=2:=rfl
 have e3:((i:Int)+j).fdiv 2=((i:Int)+j)/2:=Int.fdiv_eq_ediv_of_nonneg _ (by omega)
 unfold ishr
 rw[e1,e2,e,e3,k1i _ (by omega) (by omega)]
 omega
def cmp3 (a b:Int):Int:=if a<b then -1 else if b<a then 1 else 0
theorem cmp3_lt {a b:Int}:(cmp3 a b<0)↔a<b:=by unfold cmp3;split<;>(try split)<;>omega
theorem cmp3_eq {a b:Int}:(cmp3 a b=0)↔a=b:=by unfold cmp3;split<;>(try split)<;>omega
theorem put_len (l:List wA) (a:wA):(putA l a).length<=l.length+1:=by
 have:=lb_le l a.ID
 unfold putA
 simp only[List.length_append,List.length_take,List.length_drop]
 split<;>simp<;>omega
theorem ok_nil:OkA []:=⟨fun i j _ h=>by simp at h,by simp,by simp⟩
theorem srt_pw {l:List wA}:Srt l↔l.Pairwise (fun a b=>a.ID<b.ID):=by
 rw[List.pairwise_iff_getElem]
 exact⟨fun h i j hi hj hij=>h i j hij hj,fun h i j hij hj=>h i j (by omega) hj hij⟩
def Mid (id:Int) (m:List wA):Prop:=m=[]∨∃x:wA,m=[x]/\x.ID=id
def Spl (l:List wA) (id:Int) (a m b:List wA):Prop:=l=a++(m++b)/\(∀x∈a,x.ID<id)/\Mid id m/\∀x∈b,id<x.ID
theorem spl_of {l:List wA} (hs:Srt l) (id:Int):∃a m b,Spl l id a m b:=by
 rw[srt_pw]at hs
 induction l with
 |nil=>exact⟨[],[],[],rfl,by simp,.inl rfl,by simp⟩
 |cons x r ih=>
  obtain⟨h1,h2⟩:=List.pairwise_cons.1 hs
  by_cases hx:x.ID<id
  ·obtain⟨a,m,b,rfl,g1,g2,g3⟩:=ih h2
   refine⟨x::a,m,b,rfl,?_,g2,g3⟩
   intro y hy
   rcases List.mem_cons.1 hy with rfl|hy
   ·exact hx
   ·exact g1 y hy
  ·by_cases he:x.ID=id
   ·exact⟨[],[x],r,rfl,by simp,.inr ⟨x,rfl,he⟩,fun y hy=>by have:=h1 y hy;omega⟩
   ·refine⟨[],[],x::r,rfl,by simp,.inl rfl,?_⟩
    intro y hy
    rcases List.mem_cons.1 hy with rfl|hy
    ·omega
    ·have:=h1 y hy;omega
theorem take_lb (l:List wA) (t:Int):l.take (lb l t)=l.takeWhile (fun a=>decide (a.ID<t)):=(List.prefix_iff_eq_take.1 (List.takeWhile_prefix _)).symm
theorem put_spl {l a m b:List wA} {x:wA} (hs:Srt l) (h:Spl l x.ID a m b):putA l x=a++((if x.wX≠0∨x.wO≠0 then [x]else [])++b):=by
 obtain⟨rfl,h1,h2,h3⟩:=h
 unfold putA
 rw[<-tail_eq hs,take_lb,List.append_assoc]
 have e1:(a++(m++b)).takeWhile (fun y=>decide (y.ID<x.ID))=a:=by
  rw[List.takeWhile_append_of_pos (by intro y hy;simpa using h1 y hy)]
  have:(m++b).takeWhile (fun y=>decide (y.ID<x.ID))=[]:=by
   rcases h2 with rfl|⟨y,rfl,hy⟩
   ·cases b with
    |nil=>rfl
    |cons y b=>rw[List.nil_append,List.takeWhile_cons,if_neg];have:=h3 y (by simp);simp;omega
   ·rw[List.cons_append,List.takeWhile_cons,if_neg];simp;omega
  rw[this,List.append_nil]
 have e2:(a++(m++b)).filter (fun y=>decide (x.ID<y.ID))=b:=by
  rw[List.filter_append,List.filter_append]
  have f1:a.filter (fun y=>decide (x.ID<y.ID))=[]:=by
   rw[List.filter_eq_nil_iff];intro y hy;have:=h1 y hy;simp;omega
  have f2:m.filter (fun y=>decide (x.ID<y.ID))=[]:=by
   rw[List.filter_eq_nil_iff];intro y hy
   rcases h2 with rfl|⟨z,rfl,hz⟩
   ·simp at hy
   ·simp at hy;subst hy;simp;omega
  have f3:b.filter (fun y=>decide (x.ID<y.ID))=b:=by
   rw[List.filter_eq_self];intro y hy;have:=h3 y hy;simpa using this
  rw[f1,f2,f3];rfl
 rw[e1,e2]
theorem get_spl {l a m b:List wA} {id:Int} (h:Spl l id a m b):getA l id=m.headD ⟨id,0,0⟩:=by
 obtain⟨rfl,h1,h2,h3⟩:=h
 unfold getA
 have f1:a.find? (fun y=>decide (y.ID=id))=none:=by
  rw[List.find?_eq_none];intro y hy;have:=h1 y hy;simp;omega
 have f3:b.find? (fun y=>decide (y.ID=id))=none:=by
  rw[List.find?_eq_none];intro y hy;have:=h3 y hy;simp;omega
 rw[List.find?_append,List.find?_append,f1,f3]
 rcases h2 with rfl|⟨x,rfl,hx⟩
 ·rfl
 ·simp[hx]
theorem srt_spl {a m b:List wA} {id:Int} {l:List wA} (hs:Srt l) (h:Spl l id a m b) {m' :List wA} (hm:Mid id m'):Srt (a++(m' ++b)):=by
 obtain⟨rfl,h1,h2,h3⟩:=h
 rw[srt_pw]at hs ⊢
 rw[List.pairwise_append]at hs ⊢
 obtain⟨k1,k2,k3⟩:=hs
 rw[List.pairwise_append]at k2 ⊢
 obtain⟨_,k4,_⟩:=k2
 refine⟨k1,⟨?_,k4,?_⟩,?_⟩
 ·rcases hm with rfl|⟨x,rfl,_⟩<;>simp
 ·intro x hx y hy
  rcases hm with rfl|⟨z,rfl,hz⟩
  ·simp at hx
  ·simp at hx;subst hx;have:=h3 y hy;omega
 ·intro x hx y hy
  have h4:=h1 x hx
  rcases List.mem_append.1 hy with hy|hy
  ·rcases hm with rfl|⟨z,rfl,hz⟩
   ·simp at hy
   ·simp at hy;subst hy;omega
  ·have:=h3 y hy;omega
theorem mid_put (x:wA):Mid x.ID (if x.wX≠0∨x.wO≠0 then [x]else []):=by
 split
 ·exact .inr ⟨x,rfl,rfl⟩
 ·exact .inl rfl
theorem put_ok {l:List wA} {x:wA} (h:OkA l) (hl:l.length<=999) (hx:AccOk x):OkA (putA l x):=by
 obtain⟨a,m,b,hS⟩:=spl_of h.1 x.ID
 refine⟨?_,by have:=put_len l x;omega,?_⟩
 ·rw[put_spl h.1 hS]
  exact srt_spl h.1 hS (mid_put x)
 ·rw[put_spl h.1 hS]
  intro y hy
  obtain⟨rfl,_,_,_⟩:=hS
  simp only[List.mem_append]at hy
  rcases hy with hy|hy|hy
  ·exact h.2.2 y (by simp[hy])
  ·split at hy
   ·simp at hy;subst hy;exact hx
   ·simp at hy
  ·exact h.2.2 y (by simp[hy])
def Nz (l:List wA):Prop:=∀a∈l,a.wX≠0∨a.wO≠0
theorem k1yz {l:List wA} {id amt non:Int} (h:OkA l) (hl:l.length<=999) (hid:0<=id/\id<18446744069414584321) (ha:0<=amt) (hn:0<=non/\non<18446744073709551616):OkA (debitA l id amt non).1:=by
 obtain⟨g1,g2⟩:=getA_ok h id
 unfold debitA
 split
 ·exact ok_nil
 ·split
  ·exact ok_nil
  ·split
   ·exact ok_nil
   ·rename_i h1 _
    have:non≠18446744073709551615:=fun e=>h1 (.inr e)
    exact put_ok h hl ⟨hid,by simp only;omega,by simp only;omega⟩
def GoodA (n:Nat) (l:List wA):Prop:=OkA l/\Nz l/\l.length<=n
theorem kq0 (n:Nat):GoodA n []:=⟨ok_nil,by simp[Nz],by simp⟩
theorem k1sl {l:List wA} {x:wA} {n:Nat} (h:GoodA n l) (hn:n<=900) (hx:AccOk x):GoodA (n+1) (putA l x):=by
 obtain⟨h1,h2,h3⟩:=h
 refine⟨put_ok h1 (by omega) hx,?_,by have:=put_len l x;omega⟩
 obtain⟨a,m,b,hS⟩:=spl_of h1.1 x.ID
 rw[put_spl h1.1 hS]
 obtain⟨rfl,_,_,_⟩:=hS
 intro y hy
 simp only[List.mem_append]at hy
 rcases hy with hy|hy|hy
 ·exact h2 y (by simp[hy])
 ·split at hy
  ·rename_i hz;simp at hy;subst hy;exact hz
  ·simp at hy
 ·exact h2 y (by simp[hy])
theorem k17c {l:List wA} {n:Nat} {id amt:Int} (h:GoodA n l) (hn:n<=900) (hid:0<=id/\id<18446744069414584321) (ha:0<=amt):GoodA (n+1) (creditA l id amt).1:=by
 obtain⟨g1,g2⟩:=getA_ok h.1 id
 unfold creditA
 split
 ·exact kq0 _
 ·exact k1sl h hn ⟨hid,by simp only;omega,g2⟩
theorem k1ew {l:List wA} {n:Nat} {id amt non:Int} (h:GoodA n l) (hn:n<=900) (hid:0<=id/\id<18446744069414584321) (ha:0<=amt) (hN:0<=non/\non<18446744073709551616):GoodA (n+1) (debitA l id amt non).1:=by
 obtain⟨g1,g2⟩:=getA_ok h.1 id
 unfold debitA
 split
 ·exact kq0 _
 ·split
  ·exact kq0 _
  ·split
   ·exact kq0 _
   ·rename_i h1 _
    have:non≠18446744073709551615:=fun e=>h1 (.inr e)
    exact k1sl h hn ⟨hid,by simp only;omega,by simp only;omega⟩
def totA:Int->List wA->Int×Int
 |s,[]=>(s,0)
 |s,a::r=>if 18446744073709551616<=s+a.wX then(0,3)else totA (s+a.wX) r
theorem k1y7 (s:Int) (l:List wA) (i:Nat) (h:i<l.length):totA s (l.drop i)=if 18446744073709551616<=s+l[i].wX then(0,3)else totA (s+l[i].wX) (l.drop (i+1)):=by
 rw[List.drop_eq_getElem_cons h]
 rfl
theorem len24 {α:Type} (m:List α) (x:α) (h:m.length<=90000):(m.length+[x].length)*24<=140737488355328/\m.length+[x].length<=maxLen:=by
 simp only[List.length_cons,List.length_nil]
 unfold maxLen
 omega
def nd (a b:Int):Int:=hashS 6 [a,b]
def emp:Nat->Int
 |0=>hashS 6 []
 |i+1=>nd (emp i) (emp i)
theorem emp_u (i:Nat):U64 (emp i):=by cases i<;>exact kmp _ _
theorem emp_lt (i:Nat):emp i<18446744069414584321:=by cases i<;>exact kpy _ _
theorem gD_lt {l:List Int} {i:Nat} {z:Int} (h:i<l.length):l.getD i z=l[i]:=by simp[h]
theorem gD_ge {l:List Int} {i:Nat} {z:Int} (h:l.length<=i):l.getD i z=z:=by simp[h]
def lf (l:List Int) (p:Nat):Int:=l.getD p (emp 0)
def TT (f:Nat->Int):Nat->Nat->Int
 |0,k=>f k
 |i+1,k=>nd (TT f i (2*k)) (TT f i (2*k+1))
theorem k1ak {f g:Nat->Int}:∀(i k:Nat),(∀p,k*2^i<=p->p<(k+1)*2^i->f p=g p)->TT f i k=TT g i k
 |0,k,h=>h k (by simp) (by simp)
 |i+1,k,h=>by
  have e:2^(i+1)=2*2^i:=by rw[Nat.pow_succ];omega
  rw[e]at h
  have e1:k*(2*2^i)=2*k*2^i:=by rw[<-Nat.mul_assoc,Nat.mul_comm k 2]
  have e2:(k+1)*(2*2^i)=(2*k+1+1)*2^i:=by rw[<-Nat.mul_assoc];congr 1;omega
  have e3:(2*k+1)*2^i=2*k*2^i+2^i:=by rw[Nat.add_mul,Nat.one_mul]
  have e4:(2*k+1+1)*2^i=(2*k+1)*2^i+2^i:=by rw[Nat.add_mul (2*k+1),Nat.one_mul]
  simp only[TT]
  rw[k1ak i (2*k) fun p h1 h2=>h p (by omega) (by omega),k1ak i (2*k+1) fun p h1 h2=>h p (by omega) (by omega)]
theorem TT_emp {l:List Int}:∀(i k:Nat),l.length<=k*2^i->TT (lf l) i k=emp i
 |0,k,h=>by simp only[TT,lf];rw[gD_ge (by simpa using h)]
 |i+1,k,h=>by
  have e1:k*2^(i+1)=2*k*2^i:=by rw[Nat.pow_succ,Nat.mul_comm (2^i) 2,<-Nat.mul_assoc,Nat.mul_comm k 2]
  have e3:(2*k+1)*2^i=2*k*2^i+2^i:=by rw[Nat.add_mul,Nat.one_mul]
  have:=Nat.two_pow_pos i
  simp only[TT,emp]
  rw[TT_emp i (2*k) (by omega),TT_emp i (2*k+1) (by omega)]
theorem TT_r {l:List Int} (hl:∀x∈l,0<=x/\x<18446744069414584321):∀(i k:Nat),0<=TT (lf l) i k/\TT (lf l) i k<18446744069414584321
 |0,k=>by
  simp only[TT,lf]
  by_cases h:k<l.length
  ·rw[gD_lt h];exact hl _ (List.getElem_mem h)
  ·rw[gD_ge (by omega)];exact⟨(emp_u 0).1,emp_lt 0⟩
 |i+1,k=>⟨(kmp _ _).1,kpy _ _⟩
def bitN (n i:Nat):Bool:=n/2^i%2==1
def leftS (d:Nat) (l:List Int):List Int:=(List.range (d+1)).map fun i=>if bitN l.length i then TT (lf l) i (l.length/2^i-1)else 0
def frF (d:Int) (l:List Int):wC:=⟨d,l.length,leftS d.toNat l⟩
theorem kch (d:Nat) (l:List Int):(leftS d l).length=d+1:=by simp[leftS]
theorem kis (d:Nat) (l:List Int) (i:Nat) (h:i<(leftS d l).length):(leftS d l)[i]=if bitN l.length i then TT (lf l) i (l.length/2^i-1)else 0:=by simp[leftS]
structure FV (f:wC):Prop where
 d1:1<=f.wD
 d2:f.wD<=12
 c0:0<=f.wh
 c1:f.wh<=((2^f.wD.toNat:Nat):Int)
 ll:f.wq.length=f.wD.toNat+1
 u:∀x∈f.wq,0<=x/\x<18446744069414584321
 z:∀(i:Nat) (h:i<f.wq.length),bitN f.wh.toNat i=false->f.wq[i]=0
theorem frF_FV {d:Int} {l:List Int} (h1:1<=d) (h2:d<=12) (hl:l.length<=2^d.toNat) (hu:∀x∈l,0<=x/\x<18446744069414584321):FV (frF d l):=by
 refine⟨h1,h2,by simp[frF],by simp only[frF];omega,kch _ _,fun x hx=> ?_,fun i h hb=> ?_⟩
 ·simp only[frF,leftS,List.mem_map]at hx
  obtain⟨i,_,rfl⟩:=hx
  split
  ·exact TT_r hu _ _
  ·decide
 ·show(leftS d.toNat l)[i]=0
  have hb:bitN l.length i=false:=by simpa[frF]using hb
  exact(kis d.toNat l i h).trans (by rw[hb];rfl)
theorem shl1 (d:Nat) (h:d<=12):ishl .i64 1 (d:Int)=((2^d:Nat):Int):=by
 have:∀d∈List.range 13,ishl .i64 1 (d:Int)=((2^d:Nat):Int):=by decide
 exact this d (by simp;omega)
theorem pow12 (d:Nat) (h:d<=12):2^d<=4096:=by
 have:2^d<=2^12:=Nat.pow_le_pow_right (by decide) h
 omega
theorem bit1 (n i:Nat) (hn:n<=4096) (hi:i<=20):iand .i64 (ishr .i64 (n:Int) (i:Int)) 1=((n/2^i%2:Nat):Int):=by
 have e:min ((i:Int).toNat) IntKind.i64.bits=i:=by
  rw[Int.toNat_natCast]
  exact Nat.min_eq_left (Nat.le_trans hi (by decide))
 have e2:ishr .i64 (n:Int) (i:Int)=((n/2^i:Nat):Int):=by
  rw[kih,e]
  simp
 have:=Nat.div_le_self n (2^i)
 rw[e2]
 generalize n/2^i=q at *
 rw[k1q2 _ (by omega)]
 omega
def carry:Nat->Nat->List Int->Int->Nat->List Int
 |0,lv,L,x,_=>L.set lv x
 |k+1,lv,L,x,n=>if bitN n lv then carry k (lv+1) (L.set lv 0) (nd (ix L (lv:Int)) x) n else L.set lv x
def apF (f:wC) (x:Int):wC:=⟨f.wD,f.wh+1,carry (f.wD.toNat+1) 0 f.wq x f.wh.toNat⟩
theorem kb6 (n i:Nat):n/2^(i+1)=n/2^i/2:=by rw[Nat.pow_succ,Nat.div_div_eq_div_mul]
theorem k1wf {n d:Nat} (h:n<2^d):bitN n d=false:=by
 unfold bitN
 rw[Nat.div_eq_of_lt h]
 rfl
theorem succ_hi {n i:Nat} (h:bitN n i=true) (hq:(n+1)/2^i=n/2^i+1):(n+1)/2^(i+1)=n/2^(i+1)+1:=by
 have h:n/2^i%2=1:=by simpa[bitN]using h
 rw[kb6,kb6,hq]
 omega
theorem succ_lo {n i:Nat} (h:bitN n i=false) (hq:(n+1)/2^i=n/2^i+1):∀j,i<j->(n+1)/2^j=n/2^j:=by
 have h:¬n/2^i%2=1:=by simpa[bitN]using h
 intro j
 induction j with
 |zero=>intro hj;omega
 |succ j ih=>
  intro hj
  rcases Nat.lt_or_ge i j with h1|h1
  ·rw[kb6,kb6,ih h1]
  ·have:j=i:=by omega
   subst this
   rw[kb6,kb6,hq]
   omega
theorem TT_app {l:List Int} {x:Int} {i k:Nat} (h:(k+1)*2^i<=l.length):TT (lf (l++[x])) i k=TT (lf l) i k:=by
 refine k1ak i k fun p _ h2=> ?_
 unfold lf
 rw[List.getD_eq_getElem?_getD,List.getD_eq_getElem?_getD,List.getElem?_append_left (by omega)]
theorem k1pg (d:Nat) (l:List Int) (x:Int) (hn:l.length<2^d):∀(k lv:Nat) (L:List Int) (y:Int),lv+k=d+1->L.length=d+1->
  (l.length+1)/2^lv=l.length/2^lv+1->y=TT (lf (l++[x])) lv (l.length/2^lv)->
  (∀(i:Nat) (h:i<L.length),L[i]=if i<lv then 0 else(leftS d l).getD i 0)->(∀i,i<lv->bitN (l.length+1) i=false)->carry k lv L y l.length=leftS d (l++[x])
 |0,lv,L,y,hk,hL,hq,hy,hg,hb=>by
  exfalso
  have hlv:lv=d+1:=by omega
  subst hlv
  have hp:2^(d+1)=2*2^d:=by rw[Nat.pow_succ];omega
  have h1:1<=2^d:=Nat.two_pow_pos d
  rw[hp,Nat.div_eq_of_lt (by omega),Nat.div_eq_of_lt (by omega)]at hq
  omega
 |k+1,lv,L,y,hk,hL,hq,hy,hg,hb=>by
  unfold carry
  have hlv:lv<L.length:=by omega
  by_cases hbit:bitN l.length lv=true
  ·rw[if_pos hbit]
   have hodd:l.length/2^lv%2=1:=by simpa[bitN]using hbit
   have hleft:ix L (lv:Int)=TT (lf (l++[x])) lv (2*(l.length/2^(lv+1))):=by
    have h2:lv<(leftS d l).length:=by rw[kch];omega
    rw[ix_get _ _ hlv,hg lv hlv,if_neg (by omega),gD_lt h2,kis,if_pos hbit]
    have e:l.length/2^lv-1=2*(l.length/2^(lv+1)):=by rw[kb6];omega
    rw[e]
    refine(TT_app ?_).symm
    have:(2*(l.length/2^(lv+1))+1)=l.length/2^lv:=by rw[kb6];omega
    rw[this]
    exact Nat.div_mul_le_self _ _
   refine k1pg d l x hn k (lv+1) _ _ (by omega) (by simp[hL]) (succ_hi hbit hq) ?_ (fun i h=> ?_) (fun i hi=> ?_)
   ·simp only[TT]
    rw[hleft,hy]
    have:l.length/2^lv=2*(l.length/2^(lv+1))+1:=by rw[kb6];omega
    rw[<-this]
   ·rw[List.getElem_set]
    by_cases h1:lv=i
    ·rw[if_pos h1,if_pos (by omega)]
    ·rw[if_neg h1,hg i (by simpa using h)]
     by_cases h2:i<lv
     ·rw[if_pos h2,if_pos (by omega)]
     ·rw[if_neg h2,if_neg (by omega)]
   ·rcases Nat.lt_or_ge i lv with h1|h1
    ·exact hb i h1
    ·have:i=lv:=by omega
     subst this
     unfold bitN
     rw[hq]
     have:(l.length/2^i+1)%2=0:=by omega
     rw[this]
     rfl
  ·have hbit:bitN l.length lv=false:=by simpa using hbit
   rw[if_neg (by rw[hbit];decide)]
   have hev:¬l.length/2^lv%2=1:=by simpa[bitN]using hbit
   have hlo:=succ_lo hbit hq
   apply List.ext_getElem
   ·simp[kch,hL]
   ·intro i h1 h2
    rw[kis,List.getElem_set,List.length_append,List.length_singleton]
    have hi:i<L.length:=by simpa using h1
    by_cases h3:lv=i
    ·subst h3
     rw[if_pos rfl,hy]
     have:bitN (l.length+1) lv=true:=by unfold bitN;rw[hq];simp;omega
     rw[if_pos this,hq]
     rfl
    ·rw[if_neg h3,hg i hi]
     rcases Nat.lt_or_ge i lv with h4|h4
     ·rw[if_pos h4,hb i h4]
      rfl
     ·have h5:lv<i:=by omega
      have hs:i<(leftS d l).length:=by rw[kch];omega
      rw[if_neg (by omega),gD_lt hs,kis]
      have eb:bitN (l.length+1) i=bitN l.length i:=by unfold bitN;rw[hlo i h5]
      rw[eb,hlo i h5]
      by_cases hb2:bitN l.length i=true
      ·rw[if_pos hb2,if_pos hb2]
       refine(TT_app ?_).symm
       have ho:l.length/2^i%2=1:=by simpa[bitN]using hb2
       have:l.length/2^i-1+1=l.length/2^i:=Nat.sub_add_cancel (Nat.pos_of_ne_zero fun h=>by rw[h]at ho;cases ho)
       rw[this]
       exact Nat.div_mul_le_self _ _
      ·rw[if_neg hb2,if_neg hb2]
theorem apF_frF {d:Int} {l:List Int} {x:Int} (hn:l.length<2^d.toNat):apF (frF d l) x=frF d (l++[x]):=by
 have:=k1pg d.toNat l x hn (d.toNat+1) 0 (leftS d.toNat l) x (by omega) (kch _ _) (by simp) (by simp[TT,lf]) (fun i h=>by
  rw[if_neg (by omega),gD_lt h]) (fun i hi=>by omega)
 unfold apF frF
 simp only[Int.toNat_natCast]
 rw[this]
 simp
def rootGo (f:wC):Nat->Nat->Int->Int->Int
 |0,_,_,x=>x
 |k+1,lv,e,x=>rootGo f k (lv+1) (nd e e) (if bitN f.wh.toNat lv then nd (ix f.wq (lv:Int)) x else nd x e)
def rootF (f:wC):Int:=if f.wh=((2^f.wD.toNat:Nat):Int)then ix f.wq f.wD else rootGo f f.wD.toNat 0 (emp 0) (emp 0)
theorem k1kx (d:Int) (l:List Int):∀(k lv:Nat) (x:Int),lv+k=d.toNat->x=TT (lf l) lv (l.length/2^lv)->rootGo (frF d l) k lv (emp lv) x=TT (lf l) (lv+k) (l.length/2^(lv+k))
 |0,lv,x,_,hx=>hx
 |k+1,lv,x,hk,hx=>by
  unfold rootGo
  rw[show lv+(k+1)=lv+1+k by omega]
  have hc:(frF d l).wh.toNat=l.length:=by simp[frF]
  rw[hc]
  refine k1kx d l k (lv+1) _ (by omega) ?_
  have hh:=kb6 l.length lv
  simp only[TT]
  by_cases hb:bitN l.length lv=true
  ·have ho:l.length/2^lv%2=1:=by simpa[bitN]using hb
   have hs:lv<(leftS d.toNat l).length:=by rw[kch];omega
   rw[if_pos hb,show(frF d l).wq=leftS d.toNat l from rfl,ix_get _ _ hs,kis,if_pos hb,hx]
   have e1:l.length/2^lv-1=2*(l.length/2^(lv+1)):=by omega
   have e2:l.length/2^lv=2*(l.length/2^(lv+1))+1:=by omega
   rw[e1,<-e2]
  ·have ho:¬l.length/2^lv%2=1:=by simpa[bitN]using hb
   rw[if_neg hb,hx]
   have e2:l.length/2^lv=2*(l.length/2^(lv+1)):=by omega
   rw[<-e2]
   congr 1
   refine(TT_emp lv _ ?_).symm
   have:=Nat.lt_div_mul_add (a:=l.length) (b:=2^lv) (Nat.two_pow_pos lv)
   rw[Nat.add_mul,Nat.one_mul]
   omega
theorem kn6 {d:Int} {l:List Int} (h0:0<=d) (hn:l.length<=2^d.toNat):rootF (frF d l)=TT (lf l) d.toNat 0:=by
 unfold rootF
 by_cases hc:(frF d l).wh=((2^(frF d l).wD.toNat:Nat):Int)
 ·rw[if_pos hc]
  have hc:l.length=2^d.toNat:=by simp only[frF]at hc;omega
  have hs:d.toNat<(leftS d.toNat l).length:=by rw[kch];omega
  have e:(frF d l).wD=(d.toNat:Int):=by simp only[frF];omega
  have e1:l.length/2^d.toNat=1:=by rw[hc];exact Nat.div_self (Nat.two_pow_pos _)
  have hb:bitN l.length d.toNat=true:=by unfold bitN;rw[e1];rfl
  rw[e,show(frF d l).wq=leftS d.toNat l from rfl,ix_get _ _ hs,kis,if_pos hb,e1]
 ·rw[if_neg hc]
  have hc:l.length<2^d.toNat:=by simp only[frF]at hc;omega
  have:=k1kx d l d.toNat 0 (emp 0) (by omega) (by simp[TT,lf])
  rw[show(frF d l).wD=d from rfl,this,Nat.zero_add,Nat.div_eq_of_lt hc]
def lvl (l:List Int) (d i:Nat):List Int:=(List.range (2^(d-i))).map (TT (lf l) i)
def pairs:List Int->List Int
 |a::b::r=>nd a b::pairs r
 |_=>[]
theorem k1ti {l:List Int} (h:l.length<=1):pairs l=[]:=by
 match l,h with
 |[],_=>rfl
 |[_],_=>rfl
theorem k1v5 {l:List Int} {j:Nat} (h:j+1<l.length):pairs (l.drop j)=nd (l[j]'(by omega)) l[j+1]::pairs (l.drop (j+2)):=by
 rw[List.drop_eq_getElem_cons (show j<l.length by omega),List.drop_eq_getElem_cons (show j+1<l.length by omega)]
 rfl
theorem k179 (f:Nat->Int):∀(n a:Nat),pairs ((List.range' a (2*n)).map f)=(List.range n).map fun k=>nd (f (a+2*k)) (f (a+2*k+1))
 |0,a=>rfl
 |n+1,a=>by
  rw[show 2*(n+1)=2*n+1+1 by omega,List.range'_succ,List.range'_succ,List.map_cons,List.map_cons,List.range_succ_eq_map,List.map_cons,List.map_map]
  rw[pairs,k179 f n (a+1+1),Nat.mul_zero,Nat.add_zero]
  refine congrArg (List.cons _) (List.map_congr_left fun k _=> ?_)
  simp only[Function.comp,Nat.succ_eq_add_one]
  rw[show a+1+1+2*k=a+2*(k+1)by omega]
theorem k1yh {l:List Int} {d i:Nat} (h:i<d):pairs (lvl l d i)=lvl l d (i+1):=by
 unfold lvl
 have e:2^(d-i)=2*2^(d-(i+1)):=by
  rw[show d-i=d-(i+1)+1 by omega,Nat.pow_succ];omega
 rw[e,List.range_eq_range',k179]
 refine List.map_congr_left fun k _=> ?_
 simp only[TT,Nat.zero_add]
theorem lvl_len (l:List Int) (d i:Nat):(lvl l d i).length=2^(d-i):=by simp[lvl]
theorem lvl_u {l:List Int} (hl:∀x∈l,0<=x/\x<18446744069414584321) (d i:Nat):∀x∈lvl l d i,0<=x/\x<18446744069414584321:=by
 intro x hx
 obtain⟨k,_,rfl⟩:=List.mem_map.1 hx
 exact TT_r hl _ _
theorem k1z8 {l:List Int} {d:Nat} (h:l.length<=2^d):l++List.replicate (2^d-l.length) (emp 0)=lvl l d 0:=by
 apply List.ext_getElem
 ·simp[lvl_len];omega
 ·intro i h1 h2
  simp only[lvl,List.getElem_map,List.getElem_range,TT,lf]
  by_cases hi:i<l.length
  ·rw[List.getElem_append_left hi,gD_lt hi]
  ·rw[List.getElem_append_right (by omega),gD_ge (by omega),List.getElem_replicate]
def trs (k:List Int):List Bool:=List.replicate k.length true
theorem kxk {m:Int}:∀{k:List Int},(mIdx (BEq.beq m) k).isSome=decide (m∈k)
 |[]=>rfl
 |x::r=>by
  unfold mIdx
  by_cases h:m=x
  ·subst h;simp
  ·have:BEq.beq m x=false:=by simpa using h
   rw[this,cond_false,Option.isSome_map,kxk]
   simp[h]
theorem sVal (k:List Int) (m:Int):mVal (BEq.beq m) k (trs k) false=decide (m∈k):=by
 rw[<-kxk]
 unfold mVal
 cases h:mIdx (BEq.beq m) k with
 |none=>rfl
 |some j=>simp[trs,mIdx_lt h]
theorem sPut {k:List Int} {m:Int} (h:m∉k):mPutK (BEq.beq m) k m=k++[m]/\mPutV (BEq.beq m) k (trs k) true=trs (k++[m]):=by
 have:mIdx (BEq.beq m) k=none:=by
  have:=kxk (m:=m) (k:=k)
  rw[decide_eq_false h]at this
  cases hq:mIdx (BEq.beq m) k with
  |none=>rfl
  |some j=>rw[hq]at this;cases this
 unfold mPutK mPutV
 rw[this]
 exact⟨rfl,by simp[trs,List.replicate_succ']⟩
theorem kxl {m:Int}:∀{k:List Int} {j:Nat},mIdx (BEq.beq m) k=some j->k.eraseIdx j=k.erase m
 |x::r,j,h=>by
  unfold mIdx at h
  by_cases e:m=x
  ·subst e
   simp at h
   subst h
   simp
  ·have e2:BEq.beq m x=false:=by simpa using e
   rw[e2,cond_false]at h
   cases hq:mIdx (BEq.beq m) r with
   |none=>rw[hq]at h;cases h
   |some i=>
    rw[hq]at h
    simp at h
    subst h
    rw[List.eraseIdx_cons_succ,kxl hq,List.erase_cons_tail (by simpa using fun h=>e h.symm)]
theorem sDel (k:List Int) (m:Int):mDelK (BEq.beq m) k=k.erase m/\mDelV (BEq.beq m) k (trs k)=trs (k.erase m):=by
 unfold mDelK mDelV
 cases h:mIdx (BEq.beq m) k with
 |none=>
  have h2:m∉k:=by
   have:=kxk (m:=m) (k:=k)
   rw[h]at this
   simpa using this.symm
  rw[List.erase_of_not_mem h2]
  exact⟨rfl,rfl⟩
 |some j=>
  refine⟨kxl h,?_⟩
  have hj:=mIdx_lt h
  rw[<-kxl h]
  unfold trs
  refine List.eq_replicate_iff.2 ⟨?_,fun b hb=> ?_⟩
  ·simp[List.length_eraseIdx]
  ·exact(List.eq_replicate_iff.1 rfl).2 b (List.mem_of_mem_eraseIdx hb)
def addS (l k:List Int):Int×List Int:=if(l.any fun m=>decide (m∈k))|| !decide l.Nodup then(12,k)else(0,k++l)
def remS (l k:List Int):Int×List Int:=if(l.any fun m=> !decide (m∈k))|| !decide l.Nodup then(4,k)else(0,l.foldl List.erase k)
theorem k1x7 {m:Int} {k r:List Int} (h:m∉k):(k++m::r).erase m=k++r:=by
 rw[List.erase_append_right _ h,List.erase_cons_head]
theorem rem_add:∀{l k:List Int},(k++l).Nodup->l.foldl List.erase (k++l)=k
 |[],k,_=>by simp
 |m::r,k,h=>by
  have h1:m∉k:=fun hm=>by
   rw[List.nodup_append]at h
   exact h.2.2 m hm m (by simp) rfl
  rw[List.foldl_cons,k1x7 h1]
  refine rem_add ?_
  rw[List.nodup_append]at h ⊢
  refine⟨h.1,(List.nodup_cons.1 h.2.1).2,fun a ha b hb=>h.2.2 a ha b (by simp[hb])⟩
theorem k1zm (k:List Int) (x:Int):srt (k++[x])=insI x (srt k):=
 (srt_eq ((kmv x (srt k)).trans (((ks8 k).cons x).trans (List.perm_append_singleton x k).symm)) (ku0 x _ (kx5 k))).symm
theorem srt_app (k:List Int):∀l:List Int,srt (k++l)=l.foldl (fun a x=>insI x a) (srt k)
 |[]=>by simp
 |x::r=>by
  rw[List.foldl_cons,<-k1zm,<-srt_app (k++[x]) r,List.append_assoc]
  rfl
def pws (n:Nat) (z b:Int):Bool:=(List.range n).any fun j=>b==z*((2^j:Nat):Int)
def prS (p:wAC):Bool:=pws 8 2 p.wAL&&pws 4 1 p.wAK&&decide (1<=p.wAQ)&&decide (p.wAQ<=64)
def rulesB (p:wF):Bool:=decide (1<=p.wt)&&decide (p.wt<=3)&&decide (1<=p.wD)&&decide (p.wD<=12)&&decide (1<=p.wa)&&decide (p.wa<=100)&&decide (1<=p.wS)&&decide (p.wS<=1048576)&&decide (p.wW<=4294967296)&&decide (1<=p.wl)&&decide (p.wl<=65536)
def rulesE (p:wF):Int:=if rulesB p then(if p.wt=1 then(if prS ⟨p.wN,p.wK,p.wH⟩then 0 else 1)else 0)else 1
theorem pws_and (b:Nat) (h:2<=b/\b<=256):(iand .i64 (b:Int) (((b:Int))-1)==0)=pws 8 2 b:=by
 have:∀b∈List.range' 2 255,(iand .i64 ((b:Nat):Int) (((b:Nat):Int)-1)==0)=pws 8 2 ((b:Nat):Int):=by decide +kernel
 exact this b (by rw[List.mem_range'_1];omega)
theorem k1k6 {n:Nat} {z b:Int} (h:pws n z b=true) (hz:0<z):z<=b/\b<=z*((2^(n-1):Nat):Int):=by
 obtain⟨j,hj,e⟩:=List.any_eq_true.1 h
 have hj:j<n:=by simpa using hj
 have e:b=z*((2^j:Nat):Int):=by simpa using e
 have h1:1<=2^j:=Nat.two_pow_pos j
 have h2:2^j<=2^(n-1):=Nat.pow_le_pow_right (by decide) (by omega)
 rw[e]
 constructor
 ·have:=Int.mul_le_mul_of_nonneg_left (show(1:Int)<=((2^j:Nat):Int)by omega) (show 0<=z by omega)
  omega
 ·exact Int.mul_le_mul_of_nonneg_left (by omega) (by omega)
theorem ky3 (n:Nat) (z b:Int):pws (n+1) z b=(pws n z b||b==z*((2^n:Nat):Int)):=by simp[pws,List.range_succ]
structure PS where
 R:wF
 F:wC
 b:List wA
 n:Int
 l:List Int
 r:List Int
 p:List wI
 k:List Int
 v:List Bool
def ancL (r:List Int) (w:Int):List Int:=r.drop (r.length-w.toNat)
def chk (h:Int) (anc k:List Int) (b:List wA) (n:Int) (ll:Nat) (d:Int) (t:wm):Int:=
 if validE t≠0 then validE t else if t.wx<h+1 then 14 else if t.wy∉anc then 11 else if t.wE.any (fun m=>decide (m∈k))=true then 12
 else if 0<t.wV/\(debitA b t.we t.wV t.wO).2≠0 then(debitA b t.we t.wV t.wO).2
 else if IntKind.u64.wrap (n+t.wV)<IntKind.u64.wrap (t.wZ+t.Fee)then 13 else if 2^d.toNat<ll+t.wT.length then 16 else 0
def chkS (s:PS) (t:wm):Int:=chk (s.p.length:Int) (ancL s.r s.R.wa) s.k s.b s.n s.l.length s.R.wD t
def outsF (F:wC) (o:List ww):wC:=o.foldl (fun f x=>apF f x.wz) F
def depA (b:List wA) (t:wm):List wA:=if 0<t.wV then(debitA b t.we t.wV t.wO).1 else b
def wdA (b:List wA) (t:wm):List wA×Int:=if 0<t.wZ then creditA (depA b t) t.we t.wZ else(depA b t,0)
def hidN (n:Int) (t:wm):Int:=IntKind.u64.wrap (IntKind.u64.wrap (IntKind.u64.wrap (n+t.wV)-t.wZ)-t.Fee)
structure PE where
 e:Int
 s:PS
def perfS (s:PS) (t:wm):PE:=
 if(wdA s.b t).2≠0 then⟨(wdA s.b t).2,{s with F:=outsF s.F t.wT,l:=s.l++t.wT.map (·.wz),k:=s.k++t.wE,v:=trs (s.k++t.wE),b:=depA s.b t}⟩
 else⟨0,{s with F:=outsF s.F t.wT,l:=s.l++t.wT.map (·.wz),k:=s.k++t.wE,v:=trs (s.k++t.wE),b:=(wdA s.b t).1,n:=hidN s.n t}⟩
structure PB where
 e:Int
 s:PS
 m:List Int
 f:Int
def blkGo:List wm->PS->List Int->Int->PB
 |[],s,m,f=>⟨0,s,m,f⟩
 | t::r,s,m,f=>if chkS s t≠0 then⟨chkS s t,s,m,f⟩else if(perfS s t).e≠0 then⟨(perfS s t).e,(perfS s t).s,m++t.wE,f⟩
   else blkGo r (perfS s t).s (m++t.wE) (IntKind.u64.wrap (f+t.Fee))
def crB (x:PB) (b:wd):List wA×Int:=creditA x.s.b b.wAG (IntKind.u64.wrap (x.s.R.wW+x.f))
def blkS (s:PS) (m:List Int) (b:wd):PB:=
 if(blkGo b.Txs s m 0).e≠0 then blkGo b.Txs s m 0
 else if(crB (blkGo b.Txs s m 0) b).2≠0 then {blkGo b.Txs s m 0 with e:=(crB (blkGo b.Txs s m 0) b).2}
 else {blkGo b.Txs s m 0 with e:=0,s:={(blkGo b.Txs s m 0).s with b:=(crB (blkGo b.Txs s m 0) b).1}}
def befS (s:PS) (m:List Int):wI:=⟨s.F.wD,s.F.wh,s.F.wq,s.l.length,m,s.b,s.n⟩
def applyS (s:PS) (b:wd):PE:=
 if b.wU≠(s.p.length:Int)+1 then⟨18,s⟩else if 18446744069414584321<=b.wAG then⟨1,s⟩else
 if(blkS s [] b).e≠0 then⟨(blkS s [] b).e,s⟩
 else⟨0,{(blkS s [] b).s with p:=s.p++[befS s (blkS s [] b).m],r:=s.r++[rootF (blkS s [] b).s.F]}⟩
def resS (s:PS) (q:wI):PS:={s with F:=⟨q.wAU,q.wAT,q.wAV⟩,b:=q.wAN,n:=q.hidden,l:=s.l.take q.leaves.toNat,k:=(remS q.marks s.k).2,v:=trs (remS q.marks s.k).2}
def undoS (s:PS):PS:=if s.p=[]then s else {resS s (ix s.p ((s.p.length:Int)-1))with p:=s.p.take (s.p.length-1),r:=s.r.take (s.r.length-1)}
def newS (r:wF):PS:=⟨r,frF r.wD [],[],0,[],[rootF (frF r.wD [])],[],[],[]⟩
def BG (l:List Int):Prop:=∀x∈l,0<=x/\x<18446744069414584321
def sumA (l:List wA):Int:=(l.map (·.wX)).sum
structure PI (s:PS) (c:Nat) (f:Int):Prop where
 d1:1<=s.R.wD
 d2:s.R.wD<=12
 w1:1<=s.R.wa
 w2:s.R.wa<=100
 rw:0<=s.R.wW/\s.R.wW<=4294967296
 F:s.F=frF s.R.wD s.l
 ll:s.l.length<=2^s.R.wD.toNat
 l:BG s.l
 b:GoodA c s.b
 n:0<=s.n
 ff:0<=f
 sup:sumA s.b+s.n+f=(s.p.length:Int)*s.R.wW
 r:BG s.r
 rl:s.r.length=s.p.length+1
 p:s.p.length<=c
 kn:s.k.Nodup
 kb:BG s.k
 kl:s.k.length<=4*c
 v:s.v=trs s.k
theorem sum_app (a b:List wA):sumA (a++b)=sumA a+sumA b:=by simp[sumA]
theorem sumA_nn {l:List wA} (h:∀a∈l,0<=a.wX):0<=sumA l:=by
 induction l with
 |nil=>exact Int.le_refl _
 |cons a l ih=>
  have h1:=h a (by simp)
  have h2:=ih fun x hx=>h x (by simp[hx])
  have:sumA (a::l)=a.wX+sumA l:=by simp[sumA]
  omega
theorem sum_put {l:List wA} {x:wA} (hs:Srt l):sumA (putA l x)=sumA l-(getA l x.ID).wX+x.wX:=by
 obtain⟨a,m,b,h⟩:=spl_of hs x.ID
 rw[put_spl hs h,get_spl h,h.1]
 have e1:sumA (if x.wX≠0∨x.wO≠0 then [x]else [])=x.wX:=by
  split
  ·simp[sumA]
  ·rename_i hh
   have:x.wX=0:=Classical.byContradiction fun hb=>hh (.inl hb)
   rw[this]
   rfl
 have e2:sumA m=(m.headD ⟨x.ID,0,0⟩).wX:=by
  rcases h.2.2.1 with rfl|⟨y,rfl,_⟩
  ·rfl
  ·simp[sumA]
 simp only[sum_app,e1,e2]
 omega
theorem k1ex {l:List wA} {id amt:Int} (hs:Srt l) (h:(creditA l id amt).2=0):sumA (creditA l id amt).1=sumA l+amt:=by
 unfold creditA at h ⊢
 split at h
 ·cases h
 ·rename_i hh
  rw[if_neg hh]
  have:=sum_put (x:=⟨id,(getA l id).wX+amt,(getA l id).wO⟩) hs
  rw[this]
  simp only
  omega
theorem k1x3 {l:List wA} {id amt non:Int} (hs:Srt l) (h:(debitA l id amt non).2=0):sumA (debitA l id amt non).1=sumA l-amt:=by
 unfold debitA at h ⊢
 split at h
 ·cases h
 ·rename_i h1
  rw[if_neg h1]
  split at h
  ·cases h
  ·rename_i h2
   rw[if_neg h2]
   split at h
   ·cases h
   ·rename_i h3
    rw[if_neg h3]
    have:=sum_put (x:=⟨id,(getA l id).wX-amt,non+1⟩) hs
    rw[this]
    simp only
    omega
theorem tot_sum:∀{l:List wA} {s:Int},(∀a∈l,0<=a.wX)->s+sumA l<18446744073709551616->totA s l=(s+sumA l,0)
 |[],s,_,_=>by simp[totA,sumA]
 |a::r,s,hn,h=>by
  have e:sumA (a::r)=a.wX+sumA r:=by simp[sumA]
  have h1:=hn a (by simp)
  have h2:=sumA_nn (l:=r) fun x hx=>hn x (by simp[hx])
  rw[e]at h ⊢
  unfold totA
  rw[if_neg (by omega),tot_sum (fun x hx=>hn x (by simp[hx])) (by omega)]
  rw[Int.add_assoc]
structure CK (s:PS) (t:wm):Prop where
 v:VT t
 m:∀m∈t.wE,m∉s.k
 d:0<t.wV->(debitA s.b t.we t.wV t.wO).2=0
 h:¬IntKind.u64.wrap (s.n+t.wV)<IntKind.u64.wrap (t.wZ+t.Fee)
 l:s.l.length+t.wT.length<=2^s.R.wD.toNat
theorem kwx {s:PS} {t:wm} (h:chkS s t=0):CK s t:=by
 unfold chkS chk at h
 split at h
 ·rename_i h1;exact(h1 h).elim
 ·rename_i h1
  split at h
  ·cases h
  ·split at h
   ·cases h
   ·split at h
    ·cases h
    ·rename_i h4
     split at h
     ·rename_i h5;exact(h5.2 h).elim
     ·rename_i h5
      split at h
      ·cases h
      ·rename_i h6
       split at h
       ·cases h
       ·rename_i h7
        refine⟨(kax t).1 (Classical.byContradiction h1),fun m hm hk=>h4 ?_,fun hd=>Classical.byContradiction fun he=>h5 ⟨hd,he⟩,h6,by omega⟩
        exact List.any_eq_true.2 ⟨m,hm,by simpa using hk⟩
theorem VT.am' {t:wm} (v:VT t):t.wV<=4294967295/\t.wZ<=4294967295/\t.Fee<=4294967295/\t.we<18446744069414584321/\(0<t.wV->t.wZ=0):=by
 have:=v.am
 simp only[vAmounts,Bool.and_eq_true,decide_eq_true_eq]at this
 obtain⟨⟨⟨⟨⟨a1,a2⟩,a3⟩,a4⟩,a5⟩,a6⟩:=this
 refine⟨a1,a2,a3,a4,fun h=> ?_⟩
 rw[if_pos h]at a6
 simpa using a6
theorem k19c {d:Int}:∀{o:List ww} {l:List Int},l.length+o.length<=2^d.toNat->outsF (frF d l) o=frF d (l++o.map (·.wz))
 |[],l,_=>by simp[outsF]
 |x::o,l,h=>by
  have h:l.length+(o.length+1)<=2^d.toNat:=h
  show outsF (apF (frF d l) x.wz) o=_
  rw[apF_frF (by omega),k19c (by simp;omega),List.append_assoc]
  rfl
theorem sup_bd {s:PS} {c:Nat} {f:Int} (h:PI s c f) (hc:c<=800):sumA s.b<=3435973836800/\s.n<=3435973836800/\f<=3435973836800/\0<=sumA s.b:=by
 have h0:=sumA_nn (l:=s.b) fun a ha=>(h.b.1.2.2 a ha).2.1.1
 have h1:=h.sup
 have h2:=h.n
 have h3:=h.ff
 have h4:(s.p.length:Int)*s.R.wW<=800*4294967296:=Int.mul_le_mul (by have:=h.p;omega) h.rw.2 h.rw.1 (by decide)
 omega
theorem PI.perf {s:PS} {c:Nat} {f:Int} (h:PI s c f) (hc:c<=800) {t:wm} (ht:TR t) (k:CK s t):(∃g,PI {(perfS s t).s with b:=s.b,n:=s.n} (c+1) g)/\GoodA (c+1) (perfS s t).s.b/\
  ((perfS s t).e=0->PI (perfS s t).s (c+1) (f+t.Fee)):=by
 obtain⟨a1,a2,a3,a4,a5⟩:=k.v.am'
 obtain⟨s1,s2,s3,s4⟩:=sup_bd h hc
 have hd0:=ht.d.1
 have hw0:=ht.w.1
 have hf0:=ht.f.1
 have hk:=k.h
 rw[wrap_u64 (s.n+t.wV) (by have:=h.n;omega) (by omega),wrap_u64 (t.wZ+t.Fee) (by omega) (by omega)]at hk
 have hF:outsF s.F t.wT=frF s.R.wD (s.l++t.wT.map (·.wz)):=by rw[h.F];exact k19c k.l
 have hl:BG (s.l++t.wT.map (·.wz)):=by
  intro x hx
  rcases List.mem_append.1 hx with hx|hx
  ·exact h.l x hx
  ·obtain⟨o,ho,rfl⟩:=List.mem_map.1 hx
   exact⟨(ht.o o ho).c.1,(k.v.o o ho).c⟩
 have hkb:BG (s.k++t.wE):=by
  intro x hx
  rcases List.mem_append.1 hx with hx|hx
  ·exact h.kb x hx
  ·exact⟨(ht.m x hx).1,k.v.m x hx⟩
 have hkn:(s.k++t.wE).Nodup:=by
  rw[List.nodup_append]
  exact⟨h.kn,k.v.mn,fun a ha b hb e=>k.m b hb (e▸ha)⟩
 have hkl:(s.k++t.wE).length<=4*(c+1):=by
  rw[List.length_append]
  have:=h.kl
  have:=k.v.ml
  omega
 have hdep:GoodA (c+1) (depA s.b t)/\(t.wV=0->depA s.b t=s.b)/\sumA (depA s.b t)=sumA s.b-t.wV:=by
  unfold depA
  split
  ·rename_i hd
   exact⟨k1ew h.b (by omega) ⟨ht.ac.1,a4⟩ hd0 ⟨ht.n.1,by have:=ht.n.2;omega⟩,fun h0=>by omega,k1x3 h.b.1.1 (k.d hd)⟩
  ·rename_i hd
   exact⟨⟨h.b.1,h.b.2.1,Nat.le_succ_of_le h.b.2.2⟩,fun _=>rfl,by omega⟩
 have hwd:GoodA (c+1) (wdA s.b t).1/\((wdA s.b t).2=0->sumA (wdA s.b t).1=sumA s.b-t.wV+t.wZ):=by
  unfold wdA
  split
  ·rename_i hw
   have hz:t.wV=0:=by
    rcases Int.lt_or_le 0 t.wV with h1|h1
    ·have:=a5 h1;omega
    ·omega
   rw[hdep.2.1 hz]
   exact⟨k17c h.b (by omega) ⟨ht.ac.1,a4⟩ hw0,fun he=>by rw[k1ex h.b.1.1 he];omega⟩
  ·exact⟨hdep.1,fun _=>by simp only;omega⟩
 have hlen:(s.l++t.wT.map (·.wz)).length<=2^s.R.wD.toNat:=by simp only[List.length_append,List.length_map];exact k.l
 refine⟨⟨f,?_⟩,?_,?_⟩
 ·have base:PI {s with F:=outsF s.F t.wT,l:=s.l++t.wT.map (·.wz),k:=s.k++t.wE,v:=trs (s.k++t.wE)} (c+1) f:=
   ⟨h.d1,h.d2,h.w1,h.w2,h.rw,hF,hlen,hl,⟨h.b.1,h.b.2.1,Nat.le_succ_of_le h.b.2.2⟩,h.n,h.ff,h.sup,h.r,h.rl,by have:=h.p;simp only;omega,hkn,hkb,hkl,rfl⟩
  unfold perfS
  split
  ·exact base
  ·exact base
 ·unfold perfS
  split
  ·exact hdep.1
  ·exact hwd.1
 ·intro he
  unfold perfS at he ⊢
  split at he
  ·rename_i h1;exact(h1 he).elim
  ·rename_i h1
   rw[if_neg h1]
   have hz:(wdA s.b t).2=0:=Classical.byContradiction h1
   have hn0:=h.n
   have hh:hidN s.n t=s.n+t.wV-t.wZ-t.Fee:=by
    unfold hidN
    rw[wrap_u64 (s.n+t.wV) (by omega) (by omega),wrap_u64 (s.n+t.wV-t.wZ) (by omega) (by omega),wrap_u64 _ (by omega) (by omega)]
   refine⟨h.d1,h.d2,h.w1,h.w2,h.rw,hF,hlen,hl,hwd.1,?_,by have:=h.ff;omega,?_,h.r,h.rl,by have:=h.p;simp only;omega,hkn,hkb,hkl,rfl⟩
   ·simp only[hh];omega
   ·have h9:=h.sup
    simp only[hh,hwd.2 hz]
    omega
theorem k1kg (s:PS) (t:wm):(perfS s t).s.R=s.R/\(perfS s t).s.p=s.p/\(perfS s t).s.r=s.r/\(perfS s t).s.l=s.l++t.wT.map (·.wz)/\(perfS s t).s.k=s.k++t.wE/\(perfS s t).s.v=trs (s.k++t.wE):=by
 unfold perfS
 split<;>exact⟨rfl,rfl,rfl,rfl,rfl,rfl⟩
structure BI (s0 s:PS) (m:List Int):Prop where
 R:s.R=s0.R
 p:s.p=s0.p
 r:s.r=s0.r
 l:∃x,s.l=s0.l++x
 k:s.k=s0.k++m
 kn:s.k.Nodup
 kb:BG s.k
 v:s.v=trs s.k
 lb:BG s.l
 F:s.F=frF s.R.wD s.l
 ll:s.l.length<=2^s.R.wD.toNat
theorem BI.refl {s:PS} {c:Nat} {f:Int} (h:PI s c f):BI s s []:=⟨rfl,rfl,rfl,⟨[],by simp⟩,by simp,h.kn,h.kb,h.v,h.l,h.F,h.ll⟩
theorem BI.perf {s0 s:PS} {m:List Int} {c:Nat} {f:Int} (b:BI s0 s m) (h:PI s c f) (hc:c<=800) {t:wm} (ht:TR t) (k:CK s t):BI s0 (perfS s t).s (m++t.wE):=by
 obtain⟨⟨g,h1⟩,_,_⟩:=h.perf hc ht k
 obtain⟨k1,k2,k3,k4,k5,k6⟩:=k1kg s t
 refine⟨k1.trans b.R,k2.trans b.p,k3.trans b.r,?_,?_,h1.kn,h1.kb,h1.v,h1.l,h1.F,h1.ll⟩
 ·obtain⟨x,hx⟩:=b.l
  exact⟨x++t.wT.map (·.wz),by rw[k4,hx,List.append_assoc]⟩
 ·rw[k5,b.k,List.append_assoc]
structure BO (s0:PS) (x:PB) (c:Nat):Prop where
 b:BI s0 x.s x.m
 ok:x.e=0->PI x.s c x.f
theorem k1br {s:PS} {c:Nat} {f:Int} (h:PI s c f) (hc:c<=800) {t:wm} (ht:TR t) (k:CK s t):IntKind.u64.wrap (f+t.Fee)=f+t.Fee:=by
 obtain⟨a1,a2,a3,a4,a5⟩:=k.v.am'
 obtain⟨s1,s2,s3,s4⟩:=sup_bd h hc
 exact wrap_u64 _ (by have:=h.ff;have:=ht.f.1;omega) (by omega)
theorem kp7:∀{r:List wm} {s0 s:PS} {m:List Int} {c:Nat} {f:Int},BI s0 s m->PI s c f->c+r.length<=800->(∀t∈r,TR t)->BO s0 (blkGo r s m f) (c+r.length)
 |[],s0,s,m,c,f,b,h,_,_=>⟨b,fun _=>h⟩
 |t::r,s0,s,m,c,f,b,h,hc,ht=>by
  have hc:c+(r.length+1)<=800:=hc
  unfold blkGo
  split
  ·rename_i h1
   exact⟨b,fun he=>(h1 he).elim⟩
  ·rename_i h1
   have k:=kwx (Classical.byContradiction h1)
   have tt:=ht t (by simp)
   have b2:=b.perf h (by omega) tt k
   split
   ·rename_i h2
    exact⟨b2,fun he=>(h2 he).elim⟩
   ·rename_i h2
    have h3:=(h.perf (by omega) tt k).2.2 (Classical.byContradiction h2)
    rw[k1br h (by omega) tt k]
    have:=kp7 (r:=r) b2 h3 (by omega) (fun t ht' =>ht t (by simp[ht']))
    rw[show c+(t::r).length=c+1+r.length by simp;omega]
    exact this
structure BR' (b:wd):Prop where
 m:U64 b.wAG
 t:∀t∈b.Txs,TR t
 l:∀t∈b.Txs,TL t
theorem k1aq {x:PB} {c:Nat} (h:PI x.s c x.f) (hc:c<=800):IntKind.u64.wrap (x.s.R.wW+x.f)=x.s.R.wW+x.f/\U64 (x.s.R.wW+x.f):=by
 obtain⟨s1,s2,s3,s4⟩:=sup_bd h hc
 have h1:=h.rw
 have h2:=h.ff
 exact⟨wrap_u64 _ (by omega) (by omega),by omega,by omega⟩
theorem blkS_BI {s:PS} {c:Nat} (h:PI s c 0) {b:wd} (hc:c+b.Txs.length<=800) (hb:BR' b):BI s (blkS s [] b).s (blkS s [] b).m:=by
 have:=(kp7 (BI.refl h) h hc hb.t).b
 unfold blkS
 split
 ·exact this
 ·split
  ·exact this
  ·exact⟨this.R,this.p,this.r,this.l,this.k,this.kn,this.kb,this.v,this.lb,this.F,this.ll⟩
theorem k1oh {s0 s:PS} {m:List Int} (h:BI s0 s m) (hv:s0.v=trs s0.k):resS s (befS s0 m)=s0:=by
 have hk:(remS m s.k).2=s0.k:=by
  have hn:=h.kn
  rw[h.k]at hn ⊢
  unfold remS
  have e1:(m.any fun x=> !decide (x∈s0.k++m))=false:=by
   rw[List.any_eq_false]
   intro x hx
   simp[hx]
  have e2:m.Nodup:=by rw[List.nodup_append]at hn;exact hn.2.1
  rw[e1,decide_eq_true e2]
  exact rem_add hn
 obtain⟨x,hx⟩:=h.l
 unfold resS befS
 simp only[Int.toNat_natCast]
 rw[hk,h.R,h.p,h.r,hx,List.take_left,<-hv]
theorem k1vz {s:PS} {c:Nat} (h:PI s c 0) {b:wd} (hc:c+b.Txs.length<=800) (hb:BR' b) (he:(applyS s b).e=0):undoS (applyS s b).s=s/\(applyS s b).s.p.length=s.p.length+1:=by
 have hB:=blkS_BI h hc hb
 unfold applyS at he ⊢
 split at he
 ·cases he
 ·rename_i h1
  rw[if_neg h1]
  split at he
  ·cases he
  ·rename_i h2
   rw[if_neg h2]
   split at he
   ·rename_i h3;exact(h3 he).elim
   ·rename_i h3
    rw[if_neg h3]
    refine⟨?_,by simp⟩
    unfold undoS
    rw[if_neg (by simp)]
    have e:ix (s.p++[befS s (blkS s [] b).m]) (((s.p++[befS s (blkS s [] b).m]).length:Int)-1)=befS s (blkS s [] b).m:=by
     have:(((s.p++[befS s (blkS s [] b).m]).length:Int)-1)=((s.p.length:Nat):Int):=by simp
     rw[this,ix_get _ _ (by simp)]
     simp
    simp only[e]
    have hr:=k1oh hB h.v
    have hrl:=h.rl
    have e3:(s.p++[befS s (blkS s [] b).m]).take ((s.p++[befS s (blkS s [] b).m]).length-1)=s.p:=by simp
    have e4:(s.r++[rootF (blkS s [] b).s.F]).take ((s.r++[rootF (blkS s [] b).s.F]).length-1)=s.r:=by simp
    rw[e3,e4]
    have hq:∀(y:PS) (q:wI) (p' :List wI) (r' :List Int),({resS {y with p:=p',r:=r'} q with p:=s.p,r:=s.r}:PS)={resS y q with p:=s.p,r:=s.r}:=fun _ _ _ _=>rfl
    rw[hq,hr]
theorem kxy {s:PS} {c:Nat} (h:PI s c 0) {b:wd} (hc:c+b.Txs.length<=790) (hb:BR' b) (he:(applyS s b).e=0):PI (applyS s b).s (c+b.Txs.length+1) 0:=by
 have hB:=kp7 (BI.refl h) h (by omega) hb.t
 unfold applyS at he ⊢
 split at he
 ·cases he
 ·rename_i h1
  rw[if_neg h1]
  split at he
  ·cases he
  ·rename_i h2
   rw[if_neg h2]
   unfold blkS at he ⊢
   by_cases h3:(blkGo b.Txs s [] 0).e≠0
   ·rw[if_pos h3,if_pos h3]at he
    exact(h3 he).elim
   ·rw[if_neg h3]at he ⊢
    have hP:=hB.ok (Classical.byContradiction h3)
    by_cases h4:(crB (blkGo b.Txs s [] 0) b).2≠0
    ·rw[if_pos h4,if_pos h4]at he
     exact(h4 he).elim
    ·rw[if_neg h4,if_neg (by simp)]
     have h4:(crB (blkGo b.Txs s [] 0) b).2=0:=Classical.byContradiction h4
     generalize blkGo b.Txs s [] 0=x at *
     have hw:=k1aq hP (by omega)
     have hB:=hB.b
     unfold crB at h4 ⊢
     rw[hw.1]at h4 ⊢
     have hF:=hP.F
     have hr:=kn6 (d:=x.s.R.wD) (l:=x.s.l) (by have:=hP.d1;omega) hP.ll
     refine⟨hP.d1,hP.d2,hP.w1,hP.w2,hP.rw,hP.F,hP.ll,hP.l,k17c hP.b (by omega) ⟨hb.m.1,by omega⟩ hw.2.1,hP.n,Int.le_refl _,?_,?_,?_,?_,hP.kn,hP.kb,?_,hP.v⟩
     ·have h9:=hP.sup
      simp only[k1ex hP.b.1.1 h4]
      rw[hB.p]at h9
      rw[List.length_append,List.length_singleton]
      have:((s.p.length+1:Nat):Int)*x.s.R.wW=(s.p.length:Int)*x.s.R.wW+x.s.R.wW:=by
       rw[Int.natCast_add,Int.add_mul];simp
      rw[this]
      omega
     ·intro y hy
      rcases List.mem_append.1 hy with hy|hy
      ·exact h.r y hy
      ·rw[List.mem_singleton.1 hy,hF,hr]
       exact TT_r hP.l _ _
     ·have:=h.rl
      simp only[List.length_append,List.length_singleton]
      omega
     ·have:=h.p
      simp only[List.length_append,List.length_singleton]
      omega
     ·have:=hP.kl
      simp only
      omega
def mOf (s:PS):wj:=⟨s.R.wt,s.R.wD,s.R.wN,s.R.wK,s.R.wH,s.R.wW,s.R.wa,s.R.wS,s.R.wl,s.p.length,s.l,srt s.k,s.b,s.n,s.r⟩
def rchk (m:wj) (t:wm):Int:=chk m.wU (ancL m.wn m.wM) m.wE m.wB m.wv m.wo.length m.wR t
structure RE where
 e:Int
 m:wj
def rperf (m:wj) (t:wm):RE:=if rchk m t≠0 then⟨rchk m t,m⟩else
 ⟨(wdA m.wB t).2,{m with wE:=t.wE.foldl (fun a x=>insI x a) m.wE,wo:=m.wo++t.wT.map (·.wz),wB:=(wdA m.wB t).1,wv:=hidN m.wv t}⟩
structure RG where
 e:Int
 m:wj
 f:Int
def rGo:List wm->wj->Int->RG
 |[],m,f=>⟨0,m,f⟩
 |t::r,m,f=>if(rperf m t).e≠0 then⟨(rperf m t).e,(rperf m t).m,f⟩else rGo r (rperf m t).m (IntKind.u64.wrap (f+t.Fee))
def rcr (x:RG) (w:Int) (b:wd):List wA×Int:=creditA x.m.wB b.wAG (IntKind.u64.wrap (w+x.f))
def rapply (m:wj) (b:wd):RE:=
 if b.wU≠m.wU+1 then⟨18,m⟩else if 18446744069414584321<=b.wAG then⟨1,m⟩else
 if(rGo b.Txs m 0).e≠0 then⟨(rGo b.Txs m 0).e,m⟩else if(rcr (rGo b.Txs m 0) m.wQ b).2≠0 then⟨(rcr (rGo b.Txs m 0) m.wQ b).2,m⟩
 else⟨0,{(rGo b.Txs m 0).m with wB:=(rcr (rGo b.Txs m 0) m.wQ b).1,wU:=(rGo b.Txs m 0).m.wU+1,wn:=(rGo b.Txs m 0).m.wn++[TT (lf (rGo b.Txs m 0).m.wo) (rGo b.Txs m 0).m.wR.toNat 0]}⟩
theorem rchk_eq (s:PS) (t:wm):rchk (mOf s) t=chkS s t:=by
 unfold rchk chkS mOf chk
 simp only
 have:(t.wE.any fun m=>decide (m∈srt s.k))=t.wE.any fun m=>decide (m∈s.k):=by
  congr 1
  funext m
  rw[Bool.eq_iff_iff,decide_eq_true_iff,decide_eq_true_iff]
  exact(ks8 s.k).mem_iff
 rw[this]
theorem k1sy {s:PS} {t:wm} (h:chkS s t=0):(rperf (mOf s) t).e=(perfS s t).e/\((perfS s t).e=0->(rperf (mOf s) t).m=mOf (perfS s t).s):=by
 unfold rperf
 rw[rchk_eq,if_neg (by rw[h];decide)]
 unfold perfS
 split
 ·rename_i h1
  exact⟨rfl,fun he=>(h1 he).elim⟩
 ·rename_i h1
  have h1:(wdA s.b t).2=0:=Classical.byContradiction h1
  refine⟨h1,fun _=> ?_⟩
  unfold mOf
  simp only
  rw[srt_app]
theorem rGo_eq:∀{r:List wm} {s:PS} {m:List Int} {f:Int},(rGo r (mOf s) f).e=(blkGo r s m f).e/\((blkGo r s m f).e=0->(rGo r (mOf s) f).m=mOf (blkGo r s m f).s/\(rGo r (mOf s) f).f=(blkGo r s m f).f)
 |[],_,_,_=>⟨rfl,fun _=>⟨rfl,rfl⟩⟩
 |t::r,s,m,f=>by
  unfold rGo blkGo
  by_cases h1:chkS s t≠0
  ·have e:rperf (mOf s) t=⟨chkS s t,mOf s⟩:=by unfold rperf;rw[rchk_eq,if_pos h1]
   rw[e,if_pos h1,if_pos h1]
   exact⟨rfl,fun he=>(h1 he).elim⟩
  ·rw[if_neg h1]
   obtain⟨g1,g2⟩:=k1sy (Classical.byContradiction h1:chkS s t=0)
   rw[g1]
   by_cases h2:(perfS s t).e≠0
   ·rw[if_pos h2,if_pos h2]
    exact⟨rfl,fun he=>(h2 he).elim⟩
   ·rw[if_neg h2,if_neg h2,g2 (Classical.byContradiction h2)]
    exact rGo_eq
theorem k1y0 {s:PS} {c:Nat} (h:PI s c 0) {b:wd} (hc:c+b.Txs.length<=790) (hb:BR' b):rapply (mOf s) b=⟨(applyS s b).e,mOf (applyS s b).s⟩:=by
 have hB:=kp7 (BI.refl h) h (by omega) hb.t
 obtain⟨g1,g2⟩:=rGo_eq (r:=b.Txs) (s:=s) (m:=[]) (f:=0)
 unfold rapply applyS
 rw[show(mOf s).wU=(s.p.length:Int)from rfl]
 split
 ·rfl
 ·split
  ·rfl
  ·unfold blkS
   rw[g1]
   by_cases h3:(blkGo b.Txs s [] 0).e≠0
   ·rw[if_pos h3,if_pos h3,if_pos h3]
   ·rw[if_neg h3,if_neg h3]
    have h3:(blkGo b.Txs s [] 0).e=0:=Classical.byContradiction h3
    obtain⟨e1,e2⟩:=g2 h3
    have hP:=hB.ok h3
    have ec:rcr (rGo b.Txs (mOf s) 0) (mOf s).wQ b=crB (blkGo b.Txs s [] 0) b:=by
     unfold rcr crB
     rw[e1,e2,hB.b.R]
     rfl
    rw[ec,e1]
    by_cases h4:(crB (blkGo b.Txs s [] 0) b).2≠0
    ·rw[if_pos h4,if_pos h4,if_pos h4]
    ·rw[if_neg h4,if_neg h4,if_neg (by simp)]
     have hr:=kn6 (d:=(blkGo b.Txs s [] 0).s.R.wD) (l:=(blkGo b.Txs s [] 0).s.l) (by have:=hP.d1;omega) hP.ll
     have hp:=hB.b.p
     have hrr:=hB.b.r
     unfold mOf
     simp only
     rw[hP.F,hr,hp,hrr]
     simp
structure UOk (s:PS):Prop where
 v:s.v=trs s.k
 kl:s.k.length<=1000000
 r:1<=s.r.length
 rl:s.r.length<=1000000
 pl:s.p.length<=1000000
 q:s.p≠[]->(ix s.p ((s.p.length:Int)-1)).marks.length<=1000000/\0<=(ix s.p ((s.p.length:Int)-1)).leaves/\(ix s.p ((s.p.length:Int)-1)).leaves<=(s.l.length:Int)
structure ROk (m:wj):Prop where
 w1:1<=m.wM
 w2:m.wM<=100
 d1:1<=m.wR
 d2:m.wR<=12
 h:0<=m.wU/\m.wU<=1000000
 rl:m.wn.length<=1000000
 ml:m.wE.length<=900000
 a:OkA m.wB
 al:m.wB.length<=999
 n:U64 m.wv
 ll:m.wo.length<=4096
theorem k1py:∀{r:List wm} {s:PS} {m:List Int} {f:Int},(blkGo r s m f).m.length<=m.length+4*r.length
 |[],_,_,_=>by simp[blkGo]
 |t::r,s,m,f=>by
  unfold blkGo
  split
  ·simp
  ·rename_i h1
   have:=(kwx (Classical.byContradiction h1:chkS s t=0)).v.ml
   split
   ·simp;omega
   ·have:=k1py (r:=r) (s:=(perfS s t).s) (m:=m++t.wE) (f:=IntKind.u64.wrap (f+t.Fee))
    rw[List.length_append]at this
    simp
    omega
theorem blkS_ml (s:PS) (b:wd):(blkS s [] b).m.length<=4*b.Txs.length:=by
 have:=k1py (r:=b.Txs) (s:=s) (m:=[]) (f:=0)
 rw[List.length_nil,Nat.zero_add]at this
 unfold blkS
 split
 ·exact this
 ·split<;>exact this
theorem take_set' {α:Type} (l:List α) (n:Nat) (x:α):(l.set n x).take n=l.take n:=by
 apply List.ext_getElem
 ·simp
 ·intro i h1 h2
  rw[List.length_take]at h2
  rw[List.getElem_take,List.getElem_take,List.getElem_set,if_neg (by omega)]
theorem PI.rok {s:PS} {c:Nat} {f:Int} (h:PI s c f) (hc:c<=800):ROk (mOf s):=by
 obtain⟨s1,s2,s3,s4⟩:=sup_bd h hc
 have hp:=h.p
 have hk:=h.kl
 have hr:=h.rl
 have hp12:=pow12 s.R.wD.toNat (by have:=h.d2;omega)
 have hl:=h.ll
 refine⟨h.w1,h.w2,h.d1,h.d2,?_,?_,?_,h.b.1,?_,⟨h.n,?_⟩,?_⟩
 ·show 0<=(s.p.length:Int)/\(s.p.length:Int)<=1000000
  omega
 ·show s.r.length<=1000000
  omega
 ·show(srt s.k).length<=900000
  rw[k1vo]
  omega
 ·have:=h.b.2.2
  show s.b.length<=999
  omega
 ·show s.n<18446744073709551616
  omega
 ·show s.l.length<=4096
  omega
theorem k1xj {s:PS} {c:Nat} (h:PI s c 0) {b:wd} (hc:c+b.Txs.length<=790) (hb:BR' b) (he:(applyS s b).e=0):UOk (applyS s b).s:=by
 have hP:=kxy h hc hb he
 have hB:=blkS_BI h (by omega) hb
 have hml:=blkS_ml s b
 have hp:=hP.p
 have hk:=hP.kl
 have hr:=hP.rl
 refine⟨hP.v,by omega,by omega,by omega,by omega,fun _=> ?_⟩
 unfold applyS at he ⊢
 split at he
 ·cases he
 ·rename_i h1
  rw[if_neg h1]
  split at he
  ·cases he
  ·rename_i h2
   rw[if_neg h2]
   split at he
   ·rename_i h3;exact(h3 he).elim
   ·rename_i h3
    rw[if_neg h3]
    have e:ix (s.p++[befS s (blkS s [] b).m]) (((s.p++[befS s (blkS s [] b).m]).length:Int)-1)=befS s (blkS s [] b).m:=by
     have:(((s.p++[befS s (blkS s [] b).m]).length:Int)-1)=((s.p.length:Nat):Int):=by simp
     rw[this,ix_get _ _ (by simp)]
     simp
    simp only[e]
    obtain⟨x,hx⟩:=hB.l
    refine⟨?_,?_,?_⟩
    ·show(blkS s [] b).m.length<=1000000
     omega
    ·show(0:Int)<=(s.l.length:Int)
     omega
    ·show(s.l.length:Int)<=((blkS s [] b).s.l.length:Int)
     rw[hx,List.length_append]
     omega
theorem k1z3 {r:wF} (h:rulesE r=0):rulesB r=true:=by
 cases hb:rulesB r with
 |true=>rfl
 |false=>unfold rulesE at h;rw[hb]at h;cases h
theorem new_PI {r:wF} (h:rulesE r=0) (h0:0<=r.wW):PI (newS r) 0 0:=by
 have hb:=k1z3 h
 simp only[rulesB,Bool.and_eq_true,decide_eq_true_eq]at hb
 have hr:=kn6 (d:=r.wD) (l:=[]) (by omega) (Nat.zero_le _)
 refine⟨(by show 1<=r.wD;omega),(by show r.wD<=12;omega),(by show 1<=r.wa;omega),(by show r.wa<=100;omega),⟨h0,(by show r.wW<=4294967296;omega)⟩,rfl,Nat.zero_le _,(fun x hx=>by cases hx),kq0 0,Int.le_refl _,Int.le_refl _,?_,?_,rfl,Nat.le_refl _,List.nodup_nil,(fun x hx=>by cases hx),Nat.zero_le _,rfl⟩
 ·show(0:Int)+0+0=((0:Nat):Int)*r.wW
  simp
 ·intro x hx
  rw[List.mem_singleton.1 hx,hr]
  exact TT_r (fun x hx=>by cases hx) _ _
theorem PI.mono {s:PS} {c d:Nat} {f:Int} (h:PI s c f) (hd:c<=d):PI s d f:=
 ⟨h.d1,h.d2,h.w1,h.w2,h.rw,h.F,h.ll,h.l,⟨h.b.1,h.b.2.1,Nat.le_trans h.b.2.2 hd⟩,h.n,h.ff,h.sup,h.r,h.rl,Nat.le_trans h.p hd,h.kn,h.kb,Nat.le_trans h.kl (Nat.mul_le_mul_left 4 hd),h.v⟩
theorem PI.uok {s:PS} {c:Nat} {f:Int} (h:PI s c f) (hc:c<=800) (hp:s.p=[]):UOk s:=by
 have h1:=h.rl
 have h2:=h.kl
 have h3:=h.p
 exact⟨h.v,by omega,by omega,by omega,by omega,fun hh=>(hh hp).elim⟩
theorem k1v6 {s:PS} {b:wd} (h:(applyS s b).e≠0):(applyS s b).s=s:=by
 unfold applyS at h ⊢
 split
 ·rfl
 ·rename_i h1
  rw[if_neg h1]at h
  split
  ·rfl
  ·rename_i h2
   rw[if_neg h2]at h
   split
   ·rfl
   ·rename_i h3
    rw[if_neg h3]at h
    exact(h rfl).elim
theorem apply_R {s:PS} {c:Nat} (h:PI s c 0) {b:wd} (hc:c+b.Txs.length<=790) (hb:BR' b):(applyS s b).s.R=s.R:=by
 have hB:=blkS_BI h (by omega) hb
 unfold applyS
 split
 ·rfl
 ·split
  ·rfl
  ·split
   ·rfl
   ·exact hB.R
def opB (o:wAO):wd:=⟨o.wAI,o.wAJ,o.wAM,o.wAS,o.wAP,o.wAH⟩
def smB (b:wd):Bool:=b.Txs.all (fun t=>smallB t 200)&&decide ((b.Txs.length:Int)<=8)
def smOps (r:wF) (l:List wAO):Bool:=l.all (fun o=>smB (opB o))&&(decide (r.wD<=6)&&(decide ((l.length:Int)<=12)&&(rulesE r==0)))
structure PL where
 g:List wj
 n:Nat
 s:PS
def plStep (x:PL) (o:wAO):PL:=
 if o.wAX=true then⟨x.g,if 1<x.n then x.n-1 else x.n,undoS x.s⟩
 else if(applyS x.s (opB o)).e=0 then⟨x.g.take x.n++[mOf (applyS x.s (opB o)).s],x.n+1,(applyS x.s (opB o)).s⟩else⟨x.g,x.n,(applyS x.s (opB o)).s⟩
def plS (r:wF) (l:List wAO):PL:=l.foldl plStep ⟨[mOf (newS r)],1,newS r⟩
def HC:List PS->Prop
 |[]=>False
 |[s]=>s.p=[]
 |s::s' ::r=>(UOk s/\undoS s=s'/\s.p≠[])/\HC (s' ::r)
structure PH (x:PL) (h:List PS) (c:Nat) (R:wF):Prop where
 hc:HC h
 s:h.head? =some x.s
 n:h.length=x.n
 l:x.n<=x.g.length
 g:x.g.take x.n=h.reverse.map mOf
 i:∀s∈h,PI s c 0/\s.R=R
theorem PH.pos {x:PL} {h:List PS} {c:Nat} {R:wF} (H:PH x h c R):∃r,h=x.s::r:=by
 cases h with
 |nil=>exact H.hc.elim
 |cons s r=>exact⟨r,by rw[Option.some.inj H.s]⟩
theorem PH.top {x:PL} {h:List PS} {c:Nat} {R:wF} (H:PH x h c R):1<=x.n/\∃hh:x.n-1<x.g.length,x.g[x.n-1]=mOf x.s:=by
 obtain⟨r,rfl⟩:=H.pos
 have hn:=H.n
 have hl:=H.l
 rw[List.length_cons]at hn
 refine⟨by omega,by omega,?_⟩
 have hg:=H.g
 rw[List.reverse_cons,List.map_append]at hg
 have h1:(x.g.take x.n)[x.n-1]? =some (mOf x.s):=by
  rw[hg,List.getElem?_append_right (by simp;omega)]
  simp only[List.length_map,List.length_reverse]
  rw[show x.n-1-r.length=0 by omega]
  rfl
 rw[List.getElem?_take_of_lt (by omega),List.getElem?_eq_getElem (by omega)]at h1
 exact Option.some.inj h1
structure SO (x:PL) (o:wAO):Prop where
 u:UOk x.s
 e:decide (x.s.p≠[])=decide (1<x.n)
theorem PH.uok {x:PL} {h:List PS} {c:Nat} {R:wF} (H:PH x h c R) (hc:c<=800) (o:wAO):SO x o:=by
 obtain⟨r,rfl⟩:=H.pos
 have hn:=H.n
 have hi:=(H.i x.s (by simp)).1
 have hC:=H.hc
 cases r with
 |nil=>
  have hp:x.s.p=[]:=hC
  refine⟨hi.uok hc hp,?_⟩
  have:x.n=1:=by simpa using hn.symm
  rw[this,hp]
  rfl
 |cons s' r=>
  have hp:=hC.1
  refine⟨hp.1,?_⟩
  rw[decide_eq_true hp.2.2]
  have:1<x.n:=by rw[<-hn];simp
  rw[decide_eq_true this]
theorem PH.step {x:PL} {h:List PS} {c:Nat} {R:wF} (H:PH x h c R) {o:wAO} (hc:c+(opB o).Txs.length<=780) (hb:BR' (opB o)):∃h',PH (plStep x o) h' (c+(opB o).Txs.length+1) R:=by
 obtain⟨r,rfl⟩:=H.pos
 have hn:=H.n
 have hl:=H.l
 have hg:=H.g
 have hi:=H.i
 have hC:=H.hc
 have mono:∀s,PI s c 0->PI s (c+(opB o).Txs.length+1) 0:=fun s hs=>hs.mono (by omega)
 unfold plStep
 by_cases hu:o.wAX=true
 ·rw[if_pos hu]
  cases r with
  |nil=>
   have hp:x.s.p=[]:=hC
   have hx:undoS x.s=x.s:=by unfold undoS;rw[if_pos hp]
   have h1:x.n=1:=by simpa using hn.symm
   refine⟨[x.s],⟨hC,by rw[hx];rfl,by rw[h1];rfl,by rw[h1];simp;omega,?_,fun s hs=>⟨mono s (hi s hs).1,(hi s hs).2⟩⟩⟩
   rw[if_neg (by omega)]
   exact hg
  |cons s' r=>
   have hp:=hC.1
   have h1:x.n=r.length+2:=by rw[<-hn];rfl
   refine⟨s' ::r,⟨hC.2,by rw[hp.2.1];rfl,?_,?_,?_,fun s hs=>⟨mono s (hi s (by simp[List.mem_cons.1 hs])).1,(hi s (by simp[List.mem_cons.1 hs])).2⟩⟩⟩
   ·rw[if_pos (by omega),h1];rfl
   ·simp only;rw[if_pos (by omega)];omega
   ·simp only
    rw[if_pos (by omega)]
    have e:x.g.take (x.n-1)=(x.g.take x.n).take (x.n-1):=by rw[List.take_take,Nat.min_eq_left (by omega)]
    rw[e,hg,List.reverse_cons,List.map_append,List.take_append_of_le_length (by simp;omega),List.take_of_length_le (by simp;omega)]
 ·rw[if_neg hu]
  have hP:=(hi x.s (by simp)).1
  have hR:=(hi x.s (by simp)).2
  by_cases he:(applyS x.s (opB o)).e=0
  ·rw[if_pos he]
   have hPI:=kxy hP (by omega) hb he
   obtain⟨u1,u2⟩:=k1vz hP (by omega) hb he
   have huo:=k1xj hP (by omega) hb he
   refine⟨(applyS x.s (opB o)).s::x.s::r,⟨⟨⟨huo,u1,fun hh=>by rw[hh]at u2;cases u2⟩,hC⟩,rfl,?_,?_,?_,fun s hs=> ?_⟩⟩
   ·simp only[List.length_cons]at hn ⊢;omega
   ·simp;omega
   ·simp only
    rw[List.take_of_length_le (by simp;omega),hg,List.reverse_cons (a:=(applyS x.s (opB o)).s),List.map_append]
    rfl
   ·rcases List.mem_cons.1 hs with rfl|hs
    ·exact⟨hPI,(apply_R hP (by omega) hb).trans hR⟩
    ·exact⟨mono s (hi s hs).1,(hi s hs).2⟩
  ·rw[if_neg he,k1v6 he]
   exact⟨x.s::r,⟨hC,rfl,hn,hl,hg,fun s hs=>⟨mono s (hi s hs).1,(hi s hs).2⟩⟩⟩
theorem PH.new {r:wF} (h:rulesE r=0) (h0:0<=r.wW):PH ⟨[mOf (newS r)],1,newS r⟩ [newS r] 0 r:=
 ⟨rfl,rfl,rfl,Nat.le_refl _,rfl,fun s hs=>by rw[List.mem_singleton.1 hs];exact⟨new_PI h h0,rfl⟩⟩
structure OpsR (l:List wAO):Prop where
 b:∀o∈l,BR' (opB o)
 n:∀o∈l,o.wAH.length<=8
theorem play_PH {r:wF} (h:rulesE r=0) (h0:0<=r.wW) {l:List wAO} (hl:l.length<=60) (ho:OpsR l):∃H,PH (plS r l) H (9*l.length) r:=by
 unfold plS
 have key:∀(l:List wAO) (x:PL) (H:List PS) (c:Nat),PH x H c r->c+9*l.length<=760->OpsR l->∃H',PH (l.foldl plStep x) H' (c+9*l.length) r:=by
  intro l
  induction l with
  |nil=>intro x H c hx _ _;exact⟨H,hx⟩
  |cons o l ih=>
   intro x H c hx hc hl
   have hc:c+9*(l.length+1)<=760:=hc
   have hn:(opB o).Txs.length<=8:=hl.n o (by simp)
   obtain⟨H',hx'⟩:=hx.step (o:=o) (by omega) (hl.b o (by simp))
   have hx2:PH (plStep x o) H' (c+9) r:=⟨hx'.hc,hx'.s,hx'.n,hx'.l,hx'.g,fun s hs=>⟨(hx'.i s hs).1.mono (by omega),(hx'.i s hs).2⟩⟩
   obtain⟨H2,h2⟩:=ih (plStep x o) H' (c+9) hx2 (by omega) ⟨fun o' ho' =>hl.b o' (by simp[ho']),fun o' ho' =>hl.n o' (by simp[ho'])⟩
   rw[show c+9*(o::l).length=c+9+9*l.length by simp;omega]
   exact⟨H2,h2⟩
 have:=key l _ _ 0 (PH.new h h0) (by omega) ho
 rw[Nat.zero_add]at this
 exact this
structure OArg (r:wF) (l:List wAO):Prop where
 hr:0<=r.wW
 hl:l.length<=9223372036854775807
 m:∀o∈l,U64 o.wAM
 n:∀o∈l,o.wAH.length<=9223372036854775807
 t:∀o∈l,∀t∈o.wAH,TR t/\t.wT.length<=9223372036854775807
theorem OArg.sm {r:wF} {l:List wAO} (h:OArg r l):l.length<=9223372036854775807/\∀o∈l,o.wAH.length<=9223372036854775807/\∀t∈o.wAH,t.wT.length<=9223372036854775807:=
 ⟨h.hl,fun o ho=>⟨h.n o ho,fun t ht=>(h.t o ho t ht).2⟩⟩
theorem k1z4 {r:wF} {l:List wAO} (h:smOps r l=true) (ha:OArg r l):rulesE r=0/\OpsR l/\l.length<=12/\r.wD<=6:=by
 unfold smOps smB at h
 simp only[Bool.and_eq_true,List.all_eq_true,decide_eq_true_eq,beq_iff_eq]at h
 obtain⟨h1,h2,h3,h4⟩:=h
 refine⟨h4,⟨fun o ho=>⟨ha.m o ho,fun t ht=>(ha.t o ho t ht).1,fun t ht=>k1zq ((h1 o ho).1 t ht)⟩,fun o ho=> ?_⟩,by omega,h2⟩
 have:=(h1 o ho).2
 have:(o.wAH.length:Int)<=8:=this
 omega
structure PT (x:PL) (r:wF):Prop where
 i:∃c,c<=600/\PI x.s c 0
 R:x.s.R=r
 n1:1<=x.n
 n2:x.n<=61
 l:x.n<=x.g.length
 w:IntKind.i64.wrap ((((x.n:Int).toNat:Nat):Int)-1)=((x.n-1:Nat):Int)
 t:ix x.g ((((0:Int).toNat:Nat):Int)+IntKind.i64.wrap ((((x.n:Int).toNat:Nat):Int)-1))=mOf x.s
theorem sup_PI {s:PS} {c:Nat} (h:PI s c 0) (hc:c<=800):totA 0 s.b=(sumA s.b,0)/\IntKind.u64.wrap (sumA s.b+s.n)=IntKind.u64.wrap (IntKind.u64.wrap (s.p.length:Int)*s.R.wW):=by
 obtain⟨s1,s2,s3,s4⟩:=sup_bd h hc
 have hp:=h.p
 have hs:=h.sup
 refine⟨?_,?_⟩
 ·have:=tot_sum (l:=s.b) (s:=0) (fun a ha=>(h.b.1.2.2 a ha).2.1.1) (by omega)
  rw[this,Int.zero_add]
 ·rw[wrap_u64 (s.p.length:Int) (by omega) (by omega),<-hs]
  congr 1
  omega
def aR:wF:=wF.mk 2 2 0 0 0 50 3 5 1
def aA:Int:=rootF (frF 2 [])
def aB1:wd:=wd.mk 0 1 7 0 0 []
def aT:wm:=wm.mk aA [] [ww.mk 3 2 1 [1,2,3]] 30 0 2 7 0 9 []
def aB2:wd:=wd.mk 0 2 7 0 0 [aT]
def aS2:PS:=⟨aR,frF 2 [],[⟨7,50,0⟩],0,[],[aA,aA],[befS (newS aR) []],[],[]⟩
theorem aR_ok:rulesE aR=0:=by decide +kernel
theorem a_cr1:creditA [] 7 (IntKind.u64.wrap (50+0))=([⟨7,50,0⟩],0):=by decide +kernel
theorem a_blk1:blkS (newS aR) [] aB1=⟨0,{newS aR with b:=[⟨7,50,0⟩]},[],0⟩:=by
 have h:crB (blkGo aB1.Txs (newS aR) [] 0) aB1=([⟨7,50,0⟩],0):=a_cr1
 unfold blkS
 rw[h]
 rfl
theorem a_ap1:applyS (newS aR) aB1=⟨0,aS2⟩:=by
 unfold applyS
 rw[a_blk1,if_neg (by decide),if_neg (by decide),if_neg (by decide)]
 rfl
theorem aA_u:0<=aA/\aA<18446744069414584321:=by
 have:=kn6 (d:=2) (l:=[]) (by decide) (Nat.zero_le _)
 unfold aA
 rw[this]
 exact TT_r (fun x hx=>by cases hx) _ _
theorem aT_v:validE aT=0:=by
 refine(kax _).2 ⟨by decide,fun x hx=>(by cases hx),List.nodup_nil,by decide,fun x hx=> ?_,by decide +kernel,?_,by decide⟩
 ·have:x=ww.mk 3 2 1 [1,2,3]:=List.mem_singleton.1 hx
  subst this
  exact(kpp _).1 (by decide +kernel)
 ·unfold vRest
  rw[show aT.wy=aA from rfl,decide_eq_true aA_u.2]
  rfl
theorem aT_r:TR aT/\TL aT:=by
 refine⟨⟨⟨aA_u.1,Int.lt_trans aA_u.2 (by decide)⟩,fun x hx=>(by cases hx),fun x hx=> ?_,by decide,by decide,by decide,by decide,by decide,by decide,fun x hx=>(by cases hx)⟩,?_⟩
 ·have:x=ww.mk 3 2 1 [1,2,3]:=List.mem_singleton.1 hx
  subst this
  exact⟨by decide,by decide,by decide,by decide⟩
 ·exact((kax _).1 aT_v).tl
theorem a_deb:debitA [⟨7,50,0⟩] 7 30 0=([⟨7,20,1⟩],0):=by decide +kernel
theorem a_chk:chkS aS2 aT=0:=by
 have h:chk (2-1:Int) (ancL [aA,aA] 3) [] [⟨7,50,0⟩] 0 0 2 aT=0:=by
  unfold chk
  rw[if_neg (by rw[aT_v];decide),if_neg (by decide),if_neg (fun hh=>hh (by simp[ancL,aT])),if_neg (by decide)]
  rw[show debitA [⟨7,50,0⟩] aT.we aT.wV aT.wO=([⟨7,20,1⟩],0)from a_deb,if_neg (fun hh=>hh.2 rfl),if_neg (by decide),if_neg (by decide)]
 exact h
def aF3:wC:=apF (frF 2 []) 3
def aS3:PS:=⟨aR,aF3,[⟨7,20,1⟩],28,[3],[aA,aA],[befS (newS aR) []],[],[]⟩
theorem a_perf:perfS aS2 aT=⟨0,aS3⟩:=by
 have h:wdA aS2.b aT=([⟨7,20,1⟩],0):=by
  unfold wdA depA
  rw[if_neg (by decide),if_pos (by decide)]
  rw[show debitA aS2.b aT.we aT.wV aT.wO=([⟨7,20,1⟩],0)from a_deb]
 unfold perfS
 rw[h,if_neg (by decide)]
 have hn:hidN aS2.n aT=28:=by decide +kernel
 rw[hn]
 rfl
def aS4:PS:=⟨aR,aF3,[⟨7,72,1⟩],28,[3],[aA,aA,rootF aF3],[befS (newS aR) [],befS aS2 []],[],[]⟩
theorem a_cr2:creditA [⟨7,20,1⟩] 7 (IntKind.u64.wrap (50+IntKind.u64.wrap (0+2)))=([⟨7,72,1⟩],0):=by decide +kernel
theorem a_go:blkGo [aT] aS2 [] 0=⟨0,aS3,[],IntKind.u64.wrap (0+2)⟩:=by
 unfold blkGo
 rw[a_chk,a_perf,if_neg (by decide),if_neg (by decide)]
 rfl
theorem a_blk2:blkS aS2 [] aB2=⟨0,{aS3 with b:=[⟨7,72,1⟩]},[],IntKind.u64.wrap (0+2)⟩:=by
 have h:crB ⟨0,aS3,[],IntKind.u64.wrap (0+2)⟩ aB2=([⟨7,72,1⟩],0):=a_cr2
 unfold blkS
 rw[show aB2.Txs=[aT]from rfl,a_go,h]
 rfl
theorem a_ap2:applyS aS2 aB2=⟨0,aS4⟩:=by
 unfold applyS
 rw[a_blk2,if_neg (by decide),if_neg (by decide),if_neg (by decide)]
 rfl
theorem a_chk2:chkS aS4 aT=20:=by
 have h:chk (3-1:Int) (ancL [aA,aA,rootF aF3] 3) [] [⟨7,72,1⟩] 28 1 2 aT=20:=by
  unfold chk
  rw[if_neg (by rw[aT_v];decide),if_neg (by decide),if_neg (fun hh=>hh (by simp[ancL,aT])),if_neg (by decide)]
  have hd:debitA [⟨7,72,1⟩] 7 30 0=([],20):=by decide +kernel
  rw[show debitA [⟨7,72,1⟩] aT.we aT.wV aT.wO=([],20)from hd,if_pos ⟨by decide,by decide⟩]
 exact h
theorem aB1_r:BR' aB1:=⟨⟨by decide,by decide⟩,fun t ht=>(by cases ht),fun t ht=>(by cases ht)⟩
theorem aB2_r:BR' aB2:=⟨⟨by decide,by decide⟩,fun t ht=>(by rw[List.mem_singleton.1 ht];exact aT_r.1),fun t ht=>(by rw[List.mem_singleton.1 ht];exact aT_r.2)⟩
theorem a_PI1:PI (newS aR) 0 0:=new_PI aR_ok (by decide)
theorem a_PI2:PI aS2 1 0:=by
 have:=kxy a_PI1 (b:=aB1) (by decide) aB1_r (by rw[a_ap1])
 rw[a_ap1]at this
 exact this
theorem a_PI4:PI aS4 3 0:=by
 have:=kxy a_PI2 (b:=aB2) (by decide) aB2_r (by rw[a_ap2])
 rw[a_ap2]at this
 exact this
theorem kxd.tr {t:wm} (h:kxd t):TR t/\t.wT.length<=9223372036854775807:=
 ⟨⟨h.wy,h.wE.2,fun x hx=>let y:=h.wT.2 x hx;⟨y.wz,y.wAF,y.wAE,y.wAB.2⟩,h.wV,h.wZ,h.Fee,h.we,h.wO,by have:=h.wx;omega,h.wAD.2⟩,h.wT.1⟩
theorem k18u.tr {b:wd} (h:k18u b):∀x∈b.Txs,TR x/\x.wT.length<=9223372036854775807:=fun x hx=>(h.Txs.2 x hx).tr
theorem l45_arg {p0:wF} {p1:List wAO} (h0:kxx p0) (h1:p1.length<=9223372036854775807/\∀y∈p1,k14x y):OArg p0 p1:=
 ⟨h0.wW.1,h1.1,fun o ho=>(h1.2 o ho).wAM,fun o ho=>(h1.2 o ho).wAH.1,fun o ho t ht=>((h1.2 o ho).wAH.2 t ht).tr⟩
theorem k147 {p0:wF} {p1:List wAO} (h0:kxx p0) (h1:p1.length<=9223372036854775807/\∀y∈p1,k14x y):OArg p0 p1:=l45_arg h0 h1
def k4x:Con TB.den:=Con.mk0 17 [.one (.ptr 0 0)] [.cells [zqi,zqi,zqi,zqi,zqi,zqu,zqi,zqi,zqu,zqi,zqi,zql,.row 1,.ptr 2 0,.d (.sl (.st 8)),zqu,.row 3,.row 4],.vec yqu,.cells [.mp 5],.vec yqu,.vec (.st 9),.map yqu (.bool)] (.one (.one (zqi))) [.cells [zqi,zqi,zqi,zqi,zqi,zqu,zqi,zqi,zqu,zqi,zqi,zql,.row 1,.ptr 2 0,.d (.sl (.st 8)),zqu,.row 3,.row 4],.vec yqu,.cells [.mp 5],.vec yqu,.vec (.st 9),.map yqu (.bool)]
abbrev kv1:=CI k4x
abbrev kky:=CO k4x
noncomputable def kk0:Cx TB:=⟨inf,[],[],4,[]⟩
noncomputable def k16i:Code:=Tryz.f17.body.getD .skip
noncomputable def k1cu:List ResultVar:=Tryz.f17.results.toList
noncomputable def k1ct (o:kky):An TB:= .no
def kgh (x:kv1) (o:kky):Prop:=WPh TB kk0 8 6 k16i (k1ct o) (k4x.st TB x) (retTQ TB kk0 k4x k1cu o)
theorem k1bx {x:kv1} {o:kky} (h:kgh x o):k4x.Snd Tryz.prog x o:=
 Con.soundH (c:=k4x) (C:=kk0) TBok ⟨inf_ok,all_nil,all_nil⟩ mix Tryz.func17 (by kernel_rfl) (by kernel_rfl) (by kernel_rfl) rfl h (OblH.ofC (X:=True) (by kernel_rfl) trivial)
theorem k1fv {Ay As Az Ba Bb Bc Ah Bd Be At Ae:Int} {Af:List Int} {Ad:List wA} {Ag:Int} {w1 w3:List Int} {w4:List wI} {w5k:List Int} {w5v:List Bool} {r0 Bo Bp Bq Br Bs Bt Bu Bw Bx Bz Bh:Int} {Bi:List Int} {Bj:List wA} {Bk:Int} {e1 e3:List Int} {e4:List wI} {e5k:List Int} {e5v:List Bool} (h:
((w4.length=w4.length)/\(w3.length=w3.length)/\(w1.length=w1.length)/\(w4.length:Int)=r0/\Ay=Bo/\As=Bp/\Az=Bq/\Ba=Br/\Bb=Bs/\Bc=Bt/\Ah=Bu/\Bd=Bw/\Be=Bx/\At=Bz/\Ae=Bh/\Af=Bi/\Ad=Bj/\Ag=Bk/\w1=e1/\w3=e3/\w4=e4/\w5k=e5k/\w5v=e5v)):kgh (Ay,As,Az,Ba,Bb,Bc,Ah,Bd,Be,At,Ae,Af,Ad,Ag,w1,w3,w4,w5k,w5v,()) (r0,Bo,Bp,Bq,Br,Bs,Bt,Bu,Bw,Bx,Bz,Bh,Bi,Bj,Bk,e1,e3,e4,e5k,e5v,()):=WPh.of_eq (by kernel_rfl) h
theorem bd17:Callable Tryz.prog 17:=⟨by rw[Tryz.func17];kernel_rfl,by rw[Tryz.func17];show some _≠some _;decide⟩
theorem k159 (Ay As Az Ba Bb Bc Ah Bd Be At Ae:Int) (Af:List Int) (Ad:List wA) (Ag:Int) (w1 w3:List Int) (w4:List wI) (w5k:List Int) (w5v:List Bool):kgh (Ay,As,Az,Ba,Bb,Bc,Ah,Bd,Be,At,Ae,Af,Ad,Ag,w1,w3,w4,w5k,w5v,()) (((w4.length:Int):Int),(Ay:Int),(As:Int),(Az:Int),(Ba:Int),(Bb:Int),(Bc:Int),(Ah:Int),(Bd:Int),(Be:Int),(At:Int),(Ae:Int),(Af:List Int),(Ad:List wA),(Ag:Int),(w1:List Int),(w3:List Int),(w4:List wI),(w5k:List Int),(w5v:List Bool),()):=by
 exact k1fv (by repeat' first|apply And.intro|exact rfl|exact True.intro)
noncomputable def kq1:Con TB.den:=k4x.totR fun(a0,a1,a2,a3,a4,a5,a6,a7,a8,a9,a10,a11,a12,a13,a14,a15,a16,a17,a18,())=>(fun(Ay As Az Ba Bb Bc Ah Bd Be At Ae:Int) (Af:List Int) (Ad:List wA) (Ag:Int) (w1 w3:List Int) (w4:List wI) (w5k:List Int) (w5v:List Bool)=>((w4.length:Int),Ay,As,Az,Ba,Bb,Bc,Ah,Bd,Be,At,Ae,Af,Ad,Ag,w1,w3,w4,w5k,w5v,())) a0 a1 a2 a3 a4 a5 a6 a7 a8 a9 a10 a11 a12 a13 a14 a15 a16 a17 a18
theorem k1fa:kq1.Ok Tryz.prog TB:=Con.ok_tot k4x bd17 fun(a0,a1,a2,a3,a4,a5,a6,a7,a8,a9,a10,a11,a12,a13,a14,a15,a16,a17,a18,())=>k1bx (k159 a0 a1 a2 a3 a4 a5 a6 a7 a8 a9 a10 a11 a12 a13 a14 a15 a16 a17 a18)
def k4t:Con TB.den:=Con.mk0 16 [.one (.ptr 0 0)] [.cells [zqi,zqi,zqi,zqi,zqi,zqu,zqi,zqi,zqu,zqi,zqi,zql,.row 1,.ptr 2 0,.d (.sl (.st 8)),zqu,.row 3,.row 4],.vec yqu,.cells [.mp 5],.vec yqu,.vec (.st 9),.map yqu (.bool)] (.one (.one (zqu))) [.cells [zqi,zqi,zqi,zqi,zqi,zqu,zqi,zqi,zqu,zqi,zqi,zql,.row 1,.ptr 2 0,.d (.sl (.st 8)),zqu,.row 3,.row 4],.vec yqu,.cells [.mp 5],.vec yqu,.vec (.st 9),.map yqu (.bool)]
abbrev kvp:=CI k4t
abbrev klp:=CO k4t
noncomputable def kkb:Cx TB:=⟨inf,[],[],4,[]⟩
noncomputable def k15k:Code:=Tryz.f16.body.getD .skip
noncomputable def k1ec:List ResultVar:=Tryz.f16.results.toList
noncomputable def k1de (o:klp):An TB:= .no
def kgb (x:kvp) (o:klp):Prop:=WPh TB kkb 7 6 k15k (k1de o) (k4t.st TB x) (retTQ TB kkb k4t k1ec o)
theorem k19g {x:kvp} {o:klp} (h:kgb x o):k4t.Snd Tryz.prog x o:=
 Con.soundH (c:=k4t) (C:=kkb) TBok ⟨inf_ok,all_nil,all_nil⟩ mix Tryz.func16 (by kernel_rfl) (by kernel_rfl) (by kernel_rfl) rfl h (OblH.ofC (X:=True) (by kernel_rfl) trivial)
theorem k1cr {Ay As Az Ba Bb Bc Ah Bd Be At Ae:Int} {Af:List Int} {Ad:List wA} {Ag:Int} {w1 w3:List Int} {w4:List wI} {w5k:List Int} {w5v:List Bool} {r0 Bo Bp Bq Br Bs Bt Bu Bw Bx Bz Bh:Int} {Bi:List Int} {Bj:List wA} {Bk:Int} {e1 e3:List Int} {e4:List wI} {e5k:List Int} {e5v:List Bool} (h:
((w4.length=w4.length)/\(w3.length=w3.length)/\(w1.length=w1.length)/\Ag=r0/\Ay=Bo/\As=Bp/\Az=Bq/\Ba=Br/\Bb=Bs/\Bc=Bt/\Ah=Bu/\Bd=Bw/\Be=Bx/\At=Bz/\Ae=Bh/\Af=Bi/\Ad=Bj/\Ag=Bk/\w1=e1/\w3=e3/\w4=e4/\w5k=e5k/\w5v=e5v)):kgb (Ay,As,Az,Ba,Bb,Bc,Ah,Bd,Be,At,Ae,Af,Ad,Ag,w1,w3,w4,w5k,w5v,()) (r0,Bo,Bp,Bq,Br,Bs,Bt,Bu,Bw,Bx,Bz,Bh,Bi,Bj,Bk,e1,e3,e4,e5k,e5v,()):=WPh.of_eq (by kernel_rfl) h
theorem bd16:Callable Tryz.prog 16:=⟨by rw[Tryz.func16];kernel_rfl,by rw[Tryz.func16];show some _≠some _;decide⟩
theorem k170 (Ay As Az Ba Bb Bc Ah Bd Be At Ae:Int) (Af:List Int) (Ad:List wA) (Ag:Int) (w1 w3:List Int) (w4:List wI) (w5k:List Int) (w5v:List Bool):kgb (Ay,As,Az,Ba,Bb,Bc,Ah,Bd,Be,At,Ae,Af,Ad,Ag,w1,w3,w4,w5k,w5v,()) ((Ag:Int),(Ay:Int),(As:Int),(Az:Int),(Ba:Int),(Bb:Int),(Bc:Int),(Ah:Int),(Bd:Int),(Be:Int),(At:Int),(Ae:Int),(Af:List Int),(Ad:List wA),(Ag:Int),(w1:List Int),(w3:List Int),(w4:List wI),(w5k:List Int),(w5v:List Bool),()):=by
 exact k1cr (by repeat' first|apply And.intro|exact rfl|exact True.intro)
noncomputable def kic:Con TB.den:=k4t.totR fun(a0,a1,a2,a3,a4,a5,a6,a7,a8,a9,a10,a11,a12,a13,a14,a15,a16,a17,a18,())=>(fun(Ay As Az Ba Bb Bc Ah Bd Be At Ae:Int) (Af:List Int) (Ad:List wA) (Ag:Int) (w1 w3:List Int) (w4:List wI) (w5k:List Int) (w5v:List Bool)=>(Ag,Ay,As,Az,Ba,Bb,Bc,Ah,Bd,Be,At,Ae,Af,Ad,Ag,w1,w3,w4,w5k,w5v,())) a0 a1 a2 a3 a4 a5 a6 a7 a8 a9 a10 a11 a12 a13 a14 a15 a16 a17 a18
theorem ksx:kic.Ok Tryz.prog TB:=Con.ok_tot k4t bd16 fun(a0,a1,a2,a3,a4,a5,a6,a7,a8,a9,a10,a11,a12,a13,a14,a15,a16,a17,a18,())=>k19g (k170 a0 a1 a2 a3 a4 a5 a6 a7 a8 a9 a10 a11 a12 a13 a14 a15 a16 a17 a18)
def k1o:Con TB.den:=Con.mk0 38 [.one (.d (.sl (.st 8)))] [] (.one (.one (.d (.sl (.st 8))))) []
abbrev khe:=CI k1o
abbrev kaz:=CO k1o
noncomputable def k9t:Cx TB:=⟨inf,[],[],4,[]⟩
noncomputable def kp6:Code:=Tryz.f38.body.getD .skip
noncomputable def ksl:List ResultVar:=Tryz.f38.results.toList
noncomputable def kse (o:kaz):An TB:= .no
def k8n (x:khe) (o:kaz):Prop:=WPh TB k9t 8 0 kp6 (kse o) (k1o.st TB x) (retTQ TB k9t k1o ksl o)
theorem ks3 {x:khe} {o:kaz} (h:k8n x o):k1o.Snd Tryz.prog x o:=
 Con.soundH (c:=k1o) (C:=k9t) TBok ⟨inf_ok,all_nil,all_nil⟩ mix Tryz.func38 (by kernel_rfl) (by kernel_rfl) (by kernel_rfl) rfl h (OblH.ofC (X:=True) (by kernel_rfl) trivial)
theorem ksg {p0 r0:List wA} (h:
(∀z4:Bool,(z4=true->p0=[])->(z4=true->
([]:List wA)=r0)/\
(z4=false->
(([]:List wA).length+p0.length)*24<=140737488355328/\([]:List wA).length+p0.length<=maxLen/\([]:List wA)++p0=r0))):k8n (p0,()) (r0,()):=WPh.of_eq (by kernel_rfl) h
theorem bd38:Callable Tryz.prog 38:=⟨by rw[Tryz.func38];kernel_rfl,by rw[Tryz.func38];show some _≠some _;decide⟩
theorem kpb (p0:List wA) (h:p0.length<=100000):k8n (p0,()) ((p0:List wA),()):=by
 exact ksg fun z hz=>⟨fun h=>(hz h).symm,fun _=>⟨by simp;omega,by simp;unfold maxLen;omega,rfl⟩⟩
noncomputable def kfa:Con TB.den:=k1o.fnR (fun x=>(fun(p0:List wA)=>p0.length<=100000) x.1) fun x=>(fun(p0:List wA)=>(p0,())) x.1
theorem ksf:kfa.Ok Tryz.prog TB:=Con.ok_fn k1o bd38 fun x h=>ks3 (kpb x.1 h)
def k4w:Con TB.den:=Con.mk0 15 [.one (.ptr 0 0)] [.cells [zqi,zqi,zqi,zqi,zqi,zqu,zqi,zqi,zqu,zqi,zqi,zql,.row 1,.ptr 2 0,.d (.sl (.st 8)),zqu,.row 3,.row 4],.vec yqu,.cells [.mp 5],.vec yqu,.vec (.st 9),.map yqu (.bool)] (.one (.agg [.d (.sl (.st 8))])) [.cells [zqi,zqi,zqi,zqi,zqi,zqu,zqi,zqi,zqu,zqi,zqi,zql,.row 1,.ptr 2 0,.d (.sl (.st 8)),zqu,.row 3,.row 4],.vec yqu,.cells [.mp 5],.vec yqu,.vec (.st 9),.map yqu (.bool)]
abbrev kvu:=CI k4w
abbrev kkz:=CO k4w
noncomputable def kk5:Cx TB:=⟨inf,[kfa],[],4,[]⟩
noncomputable def k15l:Code:=Tryz.f15.body.getD .skip
noncomputable def k1dn:List ResultVar:=Tryz.f15.results.toList
noncomputable def k1gb (o:kkz):An TB:= .no
def kgo (x:kvu) (o:kkz):Prop:=WPh TB kk5 10 6 k15l (k1gb o) (k4w.st TB x) (retTQ TB kk5 k4w k1dn o)
theorem k19d {x:kvu} {o:kkz} (h:kgo x o):k4w.Snd Tryz.prog x o:=
 Con.soundH (c:=k4w) (C:=kk5) TBok ⟨inf_ok,(all_cons ksf all_nil),all_nil⟩ mix Tryz.func15 (by kernel_rfl) (by kernel_rfl) (by kernel_rfl) rfl h (OblH.ofC (X:=True) (by kernel_rfl) trivial)
theorem k1e3 {Ay As Az Ba Bb Bc Ah Bd Be At Ae:Int} {Af:List Int} {Ad:List wA} {Ag:Int} {w1 w3:List Int} {w4:List wI} {w5k:List Int} {w5v:List Bool} {r0:wg} {Bo Bp Bq Br Bs Bt Bu Bw Bx Bz Bh:Int} {Bi:List Int} {Bj:List wA} {Bk:Int} {e1 e3:List Int} {e4:List wI} {e5k:List Int} {e5v:List Bool} (h:
((Ad.length<=100000)/\(w4.length=w4.length)/\(w3.length=w3.length)/\(w1.length=w1.length)/\Ad=r0.wB/\Ay=Bo/\As=Bp/\Az=Bq/\Ba=Br/\Bb=Bs/\Bc=Bt/\Ah=Bu/\Bd=Bw/\Be=Bx/\At=Bz/\Ae=Bh/\Af=Bi/\Ad=Bj/\Ag=Bk/\w1=e1/\w3=e3/\w4=e4/\w5k=e5k/\w5v=e5v)):kgo (Ay,As,Az,Ba,Bb,Bc,Ah,Bd,Be,At,Ae,Af,Ad,Ag,w1,w3,w4,w5k,w5v,()) (r0.wB,Bo,Bp,Bq,Br,Bs,Bt,Bu,Bw,Bx,Bz,Bh,Bi,Bj,Bk,e1,e3,e4,e5k,e5v,()):=WPh.of_eq (by kernel_rfl) h
theorem bd15:Callable Tryz.prog 15:=⟨by rw[Tryz.func15];kernel_rfl,by rw[Tryz.func15];show some _≠some _;decide⟩
theorem k154 (Ay As Az Ba Bb Bc Ah Bd Be At Ae:Int) (Af:List Int) (Ad:List wA) (Ag:Int) (w1 w3:List Int) (w4:List wI) (w5k:List Int) (w5v:List Bool) (h:Ad.length<=100000):kgo (Ay,As,Az,Ba,Bb,Bc,Ah,Bd,Be,At,Ae,Af,Ad,Ag,w1,w3,w4,w5k,w5v,()) ((Ad:List wA),(Ay:Int),(As:Int),(Az:Int),(Ba:Int),(Bb:Int),(Bc:Int),(Ah:Int),(Bd:Int),(Be:Int),(At:Int),(Ae:Int),(Af:List Int),(Ad:List wA),(Ag:Int),(w1:List Int),(w3:List Int),(w4:List wI),(w5k:List Int),(w5v:List Bool),()):=by
 exact k1e3 (r0:=⟨Ad⟩) ⟨h,(by repeat' first|apply And.intro|exact rfl|exact True.intro)⟩
noncomputable def khw:Con TB.den:=k4w.fnR (fun(a0,a1,a2,a3,a4,a5,a6,a7,a8,a9,a10,a11,a12,a13,a14,a15,a16,a17,a18,())=>(fun(Ay As Az Ba Bb Bc Ah Bd Be At Ae:Int) (Af:List Int) (Ad:List wA) (Ag:Int) (w1 w3:List Int) (w4:List wI) (w5k:List Int) (w5v:List Bool)=>Ad.length<=100000) a0 a1 a2 a3 a4 a5 a6 a7 a8 a9 a10 a11 a12 a13 a14 a15 a16 a17 a18) fun(a0,a1,a2,a3,a4,a5,a6,a7,a8,a9,a10,a11,a12,a13,a14,a15,a16,a17,a18,())=>(fun(Ay As Az Ba Bb Bc Ah Bd Be At Ae:Int) (Af:List Int) (Ad:List wA) (Ag:Int) (w1 w3:List Int) (w4:List wI) (w5k:List Int) (w5v:List Bool)=>(Ad,Ay,As,Az,Ba,Bb,Bc,Ah,Bd,Be,At,Ae,Af,Ad,Ag,w1,w3,w4,w5k,w5v,())) a0 a1 a2 a3 a4 a5 a6 a7 a8 a9 a10 a11 a12 a13 a14 a15 a16 a17 a18
theorem kst:khw.Ok Tryz.prog TB:=Con.ok_fn k4w bd15 fun(a0,a1,a2,a3,a4,a5,a6,a7,a8,a9,a10,a11,a12,a13,a14,a15,a16,a17,a18,()) h=>k19d (k154 a0 a1 a2 a3 a4 a5 a6 a7 a8 a9 a10 a11 a12 a13 a14 a15 a16 a17 a18 h)
def k3y:Con TB.den:=Con.mk0 42 [.one (.ptr 0 0)] [.cells [zqi,zqi,zqi,zqi,zqi,zqu,zqi,zqi,zqu,zqi,zqi,zql,.row 1,.ptr 2 0,.d (.sl (.st 8)),zqu,.row 3,.row 4],.vec yqu,.cells [.mp 5],.vec yqu,.vec (.st 9),.map yqu (.bool)] (.one (.one (.view 3))) [.cells [zqi,zqi,zqi,zqi,zqi,zqu,zqi,zqi,zqu,zqi,zqi,zql,.row 1,.ptr 2 0,.d (.sl (.st 8)),zqu,.row 3,.row 4],.vec yqu,.cells [.mp 5],.vec yqu,.vec (.st 9),.map yqu (.bool)]
abbrev ktk:=CI k3y
abbrev kk7:=CO k3y
noncomputable def ki6:Cx TB:=⟨inf,[],[],4,[]⟩
noncomputable def k13k:Code:=Tryz.f42.body.getD .skip
noncomputable def k18w:List ResultVar:=Tryz.f42.results.toList
noncomputable def k19f (o:kk7):An TB:= .no
def ker (x:ktk) (o:kk7):Prop:=WPh TB ki6 21 6 k13k (k19f o) (k3y.st TB x) (retTQ TB ki6 k3y k18w o)
theorem k16r {x:ktk} {o:kk7} (h:ker x o):k3y.Snd Tryz.prog x o:=
 Con.soundH (c:=k3y) (C:=ki6) TBok ⟨inf_ok,all_nil,all_nil⟩ mix Tryz.func42 (by kernel_rfl) (by kernel_rfl) (by kernel_rfl) rfl h (OblH.ofC (X:=True) (by kernel_rfl) trivial)
theorem k1ac {Ay As Az Ba Bb Bc Ah Bd Be At Ae:Int} {Af:List Int} {Ad:List wA} {Ag:Int} {w1 w3:List Int} {w4:List wI} {w5k:List Int} {w5v:List Bool} {r0o r0n Bo Bp Bq Br Bs Bt Bu Bw Bx Bz Bh:Int} {Bi:List Int} {Bj:List wA} {Bk:Int} {e1 e3:List Int} {e4:List wI} {e5k:List Int} {e5v:List Bool} (h:
(let v1:Int:=IntKind.i64.wrap ((w3.length:Int)-(if 0<Ah then Ah else 0))
(0<=(if 0<v1 then v1 else 0))/\(if 0<v1 then v1 else 0)<=(w3.length:Int)/\(w4.length=w4.length)/\(w3.length=w3.length)/\(w1.length=w1.length)/\(((if 0<v1 then v1 else 0).toNat:Nat):Int)=r0o/\((w3.length-(if 0<v1 then v1 else 0).toNat:Nat):Int)=r0n/\Ay=Bo/\As=Bp/\Az=Bq/\Ba=Br/\Bb=Bs/\Bc=Bt/\Ah=Bu/\Bd=Bw/\Be=Bx/\At=Bz/\Ae=Bh/\Af=Bi/\Ad=Bj/\Ag=Bk/\w1=e1/\w3=e3/\w4=e4/\w5k=e5k/\w5v=e5v)):ker (Ay,As,Az,Ba,Bb,Bc,Ah,Bd,Be,At,Ae,Af,Ad,Ag,w1,w3,w4,w5k,w5v,()) (r0o,r0n,Bo,Bp,Bq,Br,Bs,Bt,Bu,Bw,Bx,Bz,Bh,Bi,Bj,Bk,e1,e3,e4,e5k,e5v,()):=WPh.of_eq (by kernel_rfl) h
theorem bd42:Callable Tryz.prog 42:=⟨by rw[Tryz.func42];kernel_rfl,by rw[Tryz.func42];show some _≠some _;decide⟩
theorem k13o (Ay As Az Ba Bb Bc Ah Bd Be At Ae:Int) (Af:List Int) (Ad:List wA) (Ag:Int) (w1 w3:List Int) (w4:List wI) (w5k:List Int) (w5v:List Bool) (h:(1<=Ah/\Ah<=100)/\w3.length<=1000000):ker (Ay,As,Az,Ba,Bb,Bc,Ah,Bd,Be,At,Ae,Af,Ad,Ag,w1,w3,w4,w5k,w5v,()) ((((w3.length-Ah.toNat:Nat):Int):Int),(((w3.length-(w3.length-Ah.toNat):Nat):Int):Int),(Ay:Int),(As:Int),(Az:Int),(Ba:Int),(Bb:Int),(Bc:Int),(Ah:Int),(Bd:Int),(Be:Int),(At:Int),(Ae:Int),(Af:List Int),(Ad:List wA),(Ag:Int),(w1:List Int),(w3:List Int),(w4:List wI),(w5k:List Int),(w5v:List Bool),()):=by
 obtain⟨⟨h1,h2⟩,h3⟩:=h
 refine k1ac ?_
 intro v1
 have hv:v1=(w3.length:Int)-Ah:=by
  show IntKind.i64.wrap _=_
  rw[if_pos (show 0<Ah by omega),k1i _ (by omega) (by omega)]
 have e:(if 0<v1 then v1 else 0)=((w3.length-Ah.toNat:Nat):Int):=by
  rw[hv]
  split<;>omega
 rw[e,Int.toNat_natCast]
 exact⟨by omega,by omega,rfl,rfl,rfl,rfl,rfl,rfl,rfl,rfl,rfl,rfl,rfl,rfl,rfl,rfl,rfl,rfl,rfl,rfl,rfl,rfl,rfl,rfl,rfl,rfl⟩
noncomputable def kgz:Con TB.den:=k3y.fnR (fun(a0,a1,a2,a3,a4,a5,a6,a7,a8,a9,a10,a11,a12,a13,a14,a15,a16,a17,a18,())=>(fun(Ay As Az Ba Bb Bc Ah Bd Be At Ae:Int) (Af:List Int) (Ad:List wA) (Ag:Int) (w1 w3:List Int) (w4:List wI) (w5k:List Int) (w5v:List Bool)=>(1<=Ah/\Ah<=100)/\w3.length<=1000000) a0 a1 a2 a3 a4 a5 a6 a7 a8 a9 a10 a11 a12 a13 a14 a15 a16 a17 a18) fun(a0,a1,a2,a3,a4,a5,a6,a7,a8,a9,a10,a11,a12,a13,a14,a15,a16,a17,a18,())=>(fun(Ay As Az Ba Bb Bc Ah Bd Be At Ae:Int) (Af:List Int) (Ad:List wA) (Ag:Int) (w1 w3:List Int) (w4:List wI) (w5k:List Int) (w5v:List Bool)=>((((w3.length-Ah.toNat:Nat):Int):Int),(((w3.length-(w3.length-Ah.toNat):Nat):Int):Int),Ay,As,Az,Ba,Bb,Bc,Ah,Bd,Be,At,Ae,Af,Ad,Ag,w1,w3,w4,w5k,w5v,())) a0 a1 a2 a3 a4 a5 a6 a7 a8 a9 a10 a11 a12 a13 a14 a15 a16 a17 a18
theorem kr7:kgz.Ok Tryz.prog TB:=Con.ok_fn k3y bd42 fun(a0,a1,a2,a3,a4,a5,a6,a7,a8,a9,a10,a11,a12,a13,a14,a15,a16,a17,a18,()) h=>k16r (k13o a0 a1 a2 a3 a4 a5 a6 a7 a8 a9 a10 a11 a12 a13 a14 a15 a16 a17 a18 h)
def k4z:Con TB.den:=Con.mk0 67 [.one (zql)] [] (.one (.one (.row 0))) [.vec yqu]
abbrev kv3:=CI k4z
abbrev kfv:=CO k4z
noncomputable def kje:Cx TB:=⟨inf,[],[],4,[5,7]⟩
noncomputable def k155:Code:=Tryz.f67.body.getD .skip
noncomputable def k1c8:List ResultVar:=Tryz.f67.results.toList
noncomputable def k1df (o:kfv):An TB:= .nd [] .no [] (.nd [] (.nd [] .no [] (.rt [.rnil 2 yqu])) [] .no)
noncomputable def k1fg (o:kfv):An TB:= .nd [] .no [] (.nd [] (k1df o) [] .no)
def kgy (x:kv3) (o:kfv):Prop:=WPh TB kje 8 0 k155 (k1fg o) (k4z.st TB x) (retTQ TB kje k4z k1c8 o)
theorem k19s {x:kv3} {o:kfv} (h:kgy x o):k4z.Snd Tryz.prog x o:=
 Con.soundH (c:=k4z) (C:=kje) TBok ⟨inf_ok,all_nil,all_nil⟩ mix Tryz.func67 (by kernel_rfl) (by kernel_rfl) (by kernel_rfl) rfl h (OblH.ofC (X:=True) (by kernel_rfl) trivial)
theorem k1co {p0 e0:List Int} (h:
(∀z4:Bool,(z4=true->p0=[])->(z4=true->
(0=([]:List Int).length)/\([]:List Int)=e0)/\
(z4=false->
([]:List Int).length=([]:List Int).length/\(([]:List Int).length+p0.length)*8<=140737488355328/\([]:List Int).length+p0.length<=maxLen/\((([]:List Int)++p0).length=(([]:List Int)++p0).length)/\([]:List Int)++p0=e0))):kgy (p0,()) (e0,()):=WPh.of_eq (by kernel_rfl) h
theorem bd67:Callable Tryz.prog 67:=⟨by rw[Tryz.func67];kernel_rfl,by rw[Tryz.func67];show some _≠some _;decide⟩
theorem k16x (p0:List Int) (h:p0.length<=4294967295):kgy (p0,()) ((p0:List Int),()):=by
 exact k1co fun z hz=>⟨fun h=>⟨rfl,(hz h).symm⟩,fun h=>⟨rfl,by simp;omega,by simp;unfold maxLen;omega,rfl,rfl⟩⟩
noncomputable def krz:Con TB.den:=k4z.fnR (fun x=>(fun(p0:List Int)=>p0.length<=4294967295) x.1) fun x=>(fun(p0:List Int)=>(p0,())) x.1
theorem k1dp:krz.Ok Tryz.prog TB:=Con.ok_fn k4z bd67 fun x h=>k19s (k16x x.1 h)
def k2d:Con TB.den:=Con.mk0 67 [.one (.view 0)] [.vec yqu] (.one (.one (.row 1))) [.vec yqu,.vec yqu]
abbrev kn2:=CI k2d
abbrev kag:=CO k2d
noncomputable def kdv:Cx TB:=⟨inf,[],[],4,[5,7]⟩
noncomputable def kvr:Code:=Tryz.f67.body.getD .skip
noncomputable def k10o:List ResultVar:=Tryz.f67.results.toList
noncomputable def k10n (o:kag):An TB:= .nd [] .no [] (.nd [] (.nd [] .no [] (.rt [.rnil 2 yqu])) [] .no)
noncomputable def k11a (o:kag):An TB:= .nd [] .no [] (.nd [] (k10n o) [] .no)
def kbt (x:kn2) (o:kag):Prop:=WPh TB kdv 8 1 kvr (k11a o) (k2d.st TB x) (retTQ TB kdv k2d k10o o)
theorem kxn {x:kn2} {o:kag} (h:kbt x o):k2d.Snd Tryz.prog x o:=
 Con.soundH (c:=k2d) (C:=kdv) TBok ⟨inf_ok,all_nil,all_nil⟩ mix Tryz.func67 (by kernel_rfl) (by kernel_rfl) (by kernel_rfl) rfl h (OblH.ofC (X:=True) (by kernel_rfl) trivial)
theorem k10z {p0o p0n:Int} {w0 e0 e1:List Int} (h:
(∀z4:Bool,(z4=true->p0n.toNat=0)->(z4=true->
(0=([]:List Int).length)/\w0=e0/\([]:List Int)=e1)/\
(z4=false->
([]:List Int).length=([]:List Int).length/\p0o.toNat+p0n.toNat<=w0.length/\(([]:List Int).length+((w0.drop p0o.toNat).take p0n.toNat).length)*8<=140737488355328/\([]:List Int).length+((w0.drop p0o.toNat).take p0n.toNat).length<=maxLen/\let v5:List Int:=([]:List Int)++((w0.drop p0o.toNat).take p0n.toNat)
(v5.length=v5.length)/\w0=e0/\v5=e1))):kbt (p0o,p0n,w0,()) (e0,e1,()):=WPh.of_eq (by kernel_rfl) h
theorem kvg (p0o p0n:Int) (w0:List Int) (h:0<=p0o/\0<=p0n/\p0o.toNat+p0n.toNat<=w0.length/\w0.length<=1000000):kbt (p0o,p0n,w0,()) ((w0:List Int),(((w0.drop p0o.toNat).take p0n.toNat):List Int),()):=by
 obtain⟨h0,h1,h2,h3⟩:=h
 have hl:((w0.drop p0o.toNat).take p0n.toNat).length=p0n.toNat:=by simp;omega
 exact k10z fun z hz=>⟨fun e=>⟨rfl,rfl,by rw[hz e];rfl⟩,fun e=>⟨rfl,h2,by rw[hl];simp;omega,by rw[hl];simp;unfold maxLen;omega,rfl,rfl,rfl⟩⟩
noncomputable def kkf:Con TB.den:=k2d.fnR (fun x=>(fun(p0o p0n:Int) (w0:List Int)=>0<=p0o/\0<=p0n/\p0o.toNat+p0n.toNat<=w0.length/\w0.length<=1000000) x.1 x.2.1 x.2.2.1) fun x=>(fun(p0o p0n:Int) (w0:List Int)=>(w0,(((w0.drop p0o.toNat).take p0n.toNat):List Int),())) x.1 x.2.1 x.2.2.1
theorem k10j:kkf.Ok Tryz.prog TB:=Con.ok_fn k2d bd67 fun x h=>kxn (kvg x.1 x.2.1 x.2.2.1 h)
def k47:Con TB.den:=Con.mk0 34 [.one (.ptr 0 0)] [.cells [zqi,zqi,zqi,zqi,zqi,zqu,zqi,zqi,zqu,zqi,zqi,zql,.row 1,.ptr 2 0,.d (.sl (.st 8)),zqu,.row 3,.row 4],.vec yqu,.cells [.mp 5],.vec yqu,.vec (.st 9),.map yqu (.bool)] (.one (.one (zql))) [.cells [zqi,zqi,zqi,zqi,zqi,zqu,zqi,zqi,zqu,zqi,zqi,zql,.row 1,.ptr 2 0,.d (.sl (.st 8)),zqu,.row 3,.row 4],.vec yqu,.cells [.mp 5],.vec yqu,.vec (.st 9),.map yqu (.bool)]
abbrev ksz:=CI k47
abbrev kk6:=CO k47
noncomputable def khv:Cx TB:=⟨inf,[kgz,kkf],[],4,[]⟩
noncomputable def k140:Code:=Tryz.f34.body.getD .skip
noncomputable def k1bd:List ResultVar:=Tryz.f34.results.toList
noncomputable def k1b2 (o:kk6):An TB:= .nd [] .no [] (.nd [] .no [] (.rt [.frz 6 [2]]))
def kfc (x:ksz) (o:kk6):Prop:=WPh TB khv 6 6 k140 (k1b2 o) (k47.st TB x) (retTQ TB khv k47 k1bd o)
theorem k16w {x:ksz} {o:kk6} (h:kfc x o):k47.Snd Tryz.prog x o:=
 Con.soundH (c:=k47) (C:=khv) TBok ⟨inf_ok,(all_cons kr7 (all_cons k10j all_nil)),all_nil⟩ mix Tryz.func34 (by kernel_rfl) (by kernel_rfl) (by kernel_rfl) rfl h (OblH.ofC (X:=True) (by kernel_rfl) trivial)
theorem k1bs {Ay As Az Ba Bb Bc Ah Bd Be At Ae:Int} {Af:List Int} {Ad:List wA} {Ag:Int} {w1 w3:List Int} {w4:List wI} {w5k:List Int} {w5v:List Bool} {r0:List Int} {Bo Bp Bq Br Bs Bt Bu Bw Bx Bz Bh:Int} {Bi:List Int} {Bj:List wA} {Bk:Int} {e1 e3:List Int} {e4:List wI} {e5k:List Int} {e5v:List Bool} (h:
((w4.length=w4.length)/\(w3.length=w3.length)/\(w1.length=w1.length)/\((1<=Ah/\Ah<=100)/\w3.length<=1000000)/\let r1:Int:=((w3.length-(w3.length-Ah.toNat):Nat):Int)
(0<=((((w3.length-Ah.toNat:Nat):Int).toNat:Nat):Int)/\0<=(r1.toNat:Int)/\((((w3.length-Ah.toNat:Nat):Int).toNat:Nat):Int).toNat+(r1.toNat:Int).toNat<=w3.length/\w3.length<=1000000)/\let r2:List Int:=((w3.drop ((((w3.length-Ah.toNat:Nat):Int).toNat:Nat):Int).toNat).take (r1.toNat:Int).toNat)
(r2.length=r2.length)/\(w4.length=w4.length)/\(w3.length=w3.length)/\(w1.length=w1.length)/\r2=r0/\Ay=Bo/\As=Bp/\Az=Bq/\Ba=Br/\Bb=Bs/\Bc=Bt/\Ah=Bu/\Bd=Bw/\Be=Bx/\At=Bz/\Ae=Bh/\Af=Bi/\Ad=Bj/\Ag=Bk/\w1=e1/\w3=e3/\w4=e4/\w5k=e5k/\w5v=e5v)):kfc (Ay,As,Az,Ba,Bb,Bc,Ah,Bd,Be,At,Ae,Af,Ad,Ag,w1,w3,w4,w5k,w5v,()) (r0,Bo,Bp,Bq,Br,Bs,Bt,Bu,Bw,Bx,Bz,Bh,Bi,Bj,Bk,e1,e3,e4,e5k,e5v,()):=WPh.of_eq (by kernel_rfl) h
theorem bd34:Callable Tryz.prog 34:=⟨by rw[Tryz.func34];kernel_rfl,by rw[Tryz.func34];show some _≠some _;decide⟩
theorem k13y (Ay As Az Ba Bb Bc Ah Bd Be At Ae:Int) (Af:List Int) (Ad:List wA) (Ag:Int) (w1 w3:List Int) (w4:List wI) (w5k:List Int) (w5v:List Bool) (h:(1<=Ah/\Ah<=100)/\w3.length<=1000000):kfc (Ay,As,Az,Ba,Bb,Bc,Ah,Bd,Be,At,Ae,Af,Ad,Ag,w1,w3,w4,w5k,w5v,()) (((ancL w3 Ah):List Int),(Ay:Int),(As:Int),(Az:Int),(Ba:Int),(Bb:Int),(Bc:Int),(Ah:Int),(Bd:Int),(Be:Int),(At:Int),(Ae:Int),(Af:List Int),(Ad:List wA),(Ag:Int),(w1:List Int),(w3:List Int),(w4:List wI),(w5k:List Int),(w5v:List Bool),()):=by
 obtain⟨⟨h1,h2⟩,h3⟩:=h
 have eA:(w3.drop (w3.length-Ah.toNat)).take (w3.length-(w3.length-Ah.toNat))=ancL w3 Ah:=by
  unfold ancL
  exact List.take_of_length_le (by rw[List.length_drop];omega)
 refine k1bs ⟨rfl,rfl,rfl,⟨⟨h1,h2⟩,h3⟩,?_⟩
 simp only[Int.toNat_natCast,eA]
 exact⟨⟨by omega,by omega,by omega,h3⟩,(by repeat' first|apply And.intro|exact rfl|exact True.intro)⟩
noncomputable def kot:Con TB.den:=k47.fnR (fun(a0,a1,a2,a3,a4,a5,a6,a7,a8,a9,a10,a11,a12,a13,a14,a15,a16,a17,a18,())=>(fun(Ay As Az Ba Bb Bc Ah Bd Be At Ae:Int) (Af:List Int) (Ad:List wA) (Ag:Int) (w1 w3:List Int) (w4:List wI) (w5k:List Int) (w5v:List Bool)=>(1<=Ah/\Ah<=100)/\w3.length<=1000000) a0 a1 a2 a3 a4 a5 a6 a7 a8 a9 a10 a11 a12 a13 a14 a15 a16 a17 a18) fun(a0,a1,a2,a3,a4,a5,a6,a7,a8,a9,a10,a11,a12,a13,a14,a15,a16,a17,a18,())=>(fun(Ay As Az Ba Bb Bc Ah Bd Be At Ae:Int) (Af:List Int) (Ad:List wA) (Ag:Int) (w1 w3:List Int) (w4:List wI) (w5k:List Int) (w5v:List Bool)=>(((ancL w3 Ah):List Int),Ay,As,Az,Ba,Bb,Bc,Ah,Bd,Be,At,Ae,Af,Ad,Ag,w1,w3,w4,w5k,w5v,())) a0 a1 a2 a3 a4 a5 a6 a7 a8 a9 a10 a11 a12 a13 a14 a15 a16 a17 a18
theorem k195:kot.Ok Tryz.prog TB:=Con.ok_fn k47 bd34 fun(a0,a1,a2,a3,a4,a5,a6,a7,a8,a9,a10,a11,a12,a13,a14,a15,a16,a17,a18,()) h=>k16w (k13y a0 a1 a2 a3 a4 a5 a6 a7 a8 a9 a10 a11 a12 a13 a14 a15 a16 a17 a18 h)
def kas:Con TB.den:=Con.mk0 43 [.one (.ptr 0 0),.one (zqu)] [.cells [.mp 1],.map yqu (.bool)] (.one (.one (.d (.bool)))) [.cells [.mp 1],.map yqu (.bool)]
abbrev k1kr:=CI kas
abbrev k11z:=CO kas
noncomputable def kx0:Cx TB:=⟨inf,[],[],4,[]⟩
noncomputable def k1s4:Code:=Tryz.f43.body.getD .skip
noncomputable def k1vk:List ResultVar:=Tryz.f43.results.toList
noncomputable def k1w4 (o:k11z):An TB:= .no
def kqq (x:k1kr) (o:k11z):Prop:=WPh TB kx0 11 2 k1s4 (k1w4 o) (kas.st TB x) (retTQ TB kx0 kas k1vk o)
theorem k1tz {x:k1kr} {o:k11z} (h:kqq x o):kas.Snd Tryz.prog x o:=
 Con.soundH (c:=kas) (C:=kx0) TBok ⟨inf_ok,all_nil,all_nil⟩ mix Tryz.func43 (by kernel_rfl) (by kernel_rfl) (by kernel_rfl) rfl h (OblH.ofC (X:=True) (by kernel_rfl) trivial)
theorem k1w9 {p1:Int} {w1k:List Int} {w1v:List Bool} {r0:Bool} {e1k:List Int} {e1v:List Bool} (h:
(w1k.length=w1v.length/\let v1:Bool:=mVal (BEq.beq p1) w1k w1v false
 v1=r0/\w1k=e1k/\w1v=e1v)):kqq (p1,w1k,w1v,()) (r0,e1k,e1v,()):=WPh.of_eq (by kernel_rfl) h
theorem bd43:Callable Tryz.prog 43:=⟨by rw[Tryz.func43];kernel_rfl,by rw[Tryz.func43];show some _≠some _;decide⟩
theorem k1ox (p1:Int) (w1k:List Int) (w1v:List Bool) (h:w1v=trs w1k):kqq (p1,w1k,w1v,()) (((decide (p1∈w1k)):Bool),(w1k:List Int),(w1v:List Bool),()):=by
 subst h
 exact k1w9 ⟨by simp[trs],sVal _ _,rfl,rfl⟩
noncomputable def k185:Con TB.den:=kas.fnR (fun x=>(fun(p1:Int) (w1k:List Int) (w1v:List Bool)=>w1v=trs w1k) x.1 x.2.1 x.2.2.1) fun x=>(fun(p1:Int) (w1k:List Int) (w1v:List Bool)=>(((decide (p1∈w1k)):Bool),w1k,w1v,())) x.1 x.2.1 x.2.2.1
theorem k1w6:k185.Ok Tryz.prog TB:=Con.ok_fn kas bd43 fun x h=>k1tz (k1ox x.1 x.2.1 x.2.2.1 h)
def k7l:Con TB.den:=Con.mk0 107 [.one (zqu)] [] (.one (.one (.d (.bool)))) []
abbrev k17f:=CI k7l
abbrev kuw:=CO k7l
noncomputable def kr1:Cx TB:=⟨inf,[],[],4,[]⟩
noncomputable def k1h3:Code:=Tryz.f107.body.getD .skip
noncomputable def k1p0:List ResultVar:=Tryz.f107.results.toList
noncomputable def k1pj (o:kuw):An TB:= .no
def kl8 (x:k17f) (o:kuw):Prop:=WPh TB kr1 6 0 k1h3 (k1pj o) (k7l.st TB x) (retTQ TB kr1 k7l k1p0 o)
theorem k1o9 {x:k17f} {o:kuw} (h:kl8 x o):k7l.Snd Tryz.prog x o:=
 Con.soundH (c:=k7l) (C:=kr1) TBok ⟨inf_ok,all_nil,all_nil⟩ mix Tryz.func107 (by kernel_rfl) (by kernel_rfl) (by kernel_rfl) rfl h (OblH.ofC (X:=True) (by kernel_rfl) trivial)
theorem k1p8 {p0:Int} {r0:Bool} (h:
((p0 !=p0)=r0)):kl8 (p0,()) (r0,()):=WPh.of_eq (by kernel_rfl) h
theorem bd107:Callable Tryz.prog 107:=⟨by rw[Tryz.func107];kernel_rfl,by rw[Tryz.func107];show some _≠some _;decide⟩
theorem k1jn (p0:Int):kl8 (p0,()) ((false:Bool),()):=by
 exact k1p8 (by simp)
noncomputable def k107:Con TB.den:=k7l.totR fun x=>(fun(p0:Int)=>(false,())) x.1
theorem k1p3:k107.Ok Tryz.prog TB:=Con.ok_tot k7l bd107 fun x=>k1o9 (k1jn x.1)
def k5r:Con TB.den:=Con.mk0 94 [.one (zqu),.one (zqu)] [] (.one (.one (zqi))) []
abbrev kzg:=CI k5r
abbrev kng:=CO k5r
noncomputable def km3:Cx TB:=⟨inf,[k107],[],4,[]⟩
noncomputable def k1be:Code:=Tryz.f94.body.getD .skip
noncomputable def k1ij:List ResultVar:=Tryz.f94.results.toList
noncomputable def k1gv (o:kng):An TB:= .no
def kid (x:kzg) (o:kng):Prop:=WPh TB km3 20 0 k1be (k1gv o) (k5r.st TB x) (retTQ TB km3 k5r k1ij o)
theorem k1cx {x:kzg} {o:kng} (h:kid x o):k5r.Snd Tryz.prog x o:=
 Con.soundH (c:=k5r) (C:=km3) TBok ⟨inf_ok,(all_cons k1p3 all_nil),all_nil⟩ mix Tryz.func94 (by kernel_rfl) (by kernel_rfl) (by kernel_rfl) rfl h (OblH.ofC (X:=True) (by kernel_rfl) trivial)
theorem k1ie {p0 p1 r0:Int} (h:
((false=true->
(false=true->
 0=r0)/\
(false=false->
(-1)=r0))/\
(false=false->
(false=true->
 1=r0)/\
(false=false->
(decide (p0<p1)=true->
(-1)=r0)/\
(decide (p0<p1)=false->
(decide (p1<p0)=true->
 1=r0)/\
(decide (p1<p0)=false->
 0=r0)))))):kid (p0,p1,()) (r0,()):=WPh.of_eq (by kernel_rfl) h
theorem bd94:Callable Tryz.prog 94:=⟨by rw[Tryz.func94];kernel_rfl,by rw[Tryz.func94];show some _≠some _;decide⟩
theorem k1c2 (p0 p1:Int):kid (p0,p1,()) (((cmp3 p0 p1):Int),()):=by
 refine k1ie ⟨fun e=>(by cases e),fun _=>⟨fun e=>(by cases e),fun _=> ?_⟩⟩
 simp only[decide_eq_true_eq,decide_eq_false_iff_not]
 unfold cmp3
 exact⟨fun h=>by simp[h],fun h=>⟨fun h2=>by simp[h,h2],fun h2=>by simp[h,h2]⟩⟩
noncomputable def ksq:Con TB.den:=k5r.totR fun x=>(fun(p0 p1:Int)=>(((cmp3 p0 p1):Int),())) x.1 x.2.1
theorem k1iu:ksq.Ok Tryz.prog TB:=Con.ok_tot k5r bd94 fun x=>k1cx (k1c2 x.1 x.2.1)
def k1d:Con TB.den:=Con.mk0 93 [.agg [zqu,zqu,zqu],.one (zqu)] [] (.one (.one (zqi))) []
abbrev kg8:=CI k1d
abbrev k9u:=CO k1d
noncomputable def k97:Cx TB:=⟨inf,[ksq],[],4,[]⟩
noncomputable def knm:Code:=Tryz.f93.body.getD .skip
noncomputable def kr0:List ResultVar:=Tryz.f93.results.toList
noncomputable def krw (o:k9u):An TB:= .no
def k88 (x:kg8) (o:k9u):Prop:=WPh TB k97 9 0 knm (krw o) (k1d.st TB x) (retTQ TB k97 k1d kr0 o)
theorem kpd {x:kg8} {o:k9u} (h:k88 x o):k1d.Snd Tryz.prog x o:=
 Con.soundH (c:=k1d) (C:=k97) TBok ⟨inf_ok,(all_cons k1iu all_nil),all_nil⟩ mix Tryz.func93 (by kernel_rfl) (by kernel_rfl) (by kernel_rfl) rfl h (OblH.ofC (X:=True) (by kernel_rfl) trivial)
theorem kqm {p0:wA} {p1 r0:Int} (h:
((cmp3 p0.ID p1)=r0)):k88 (p0.ID,p0.wX,p0.wO,p1,()) (r0,()):=WPh.of_eq (by kernel_rfl) h
theorem bd93:Callable Tryz.prog 93:=⟨by rw[Tryz.func93];kernel_rfl,by rw[Tryz.func93];show some _≠some _;decide⟩
theorem ko1 (p0:wA) (p1:Int):k88 (p0.ID,p0.wX,p0.wO,p1,()) (((cmp3 p0.ID p1):Int),()):=by
 exact kqm rfl
noncomputable def kdx:Con TB.den:=k1d.totR fun(a0,a1,a2,a3,())=>(fun(p0:wA) (p1:Int)=>(((cmp3 p0.ID p1):Int),())) (wA.mk a0 a1 a2) a3
theorem kqa:kdx.Ok Tryz.prog TB:=Con.ok_tot k1d bd93 fun(a0,a1,a2,a3,())=>kpd (ko1 (wA.mk a0 a1 a2) a3)
def kj:Con TB.den:=Con.mk0 92 [.one (.d (.sl (.st 8))),.one (zqu),.one (.k (.fn 93))] [] (.tup [.one (zqi),.one (.d (.bool))]) []
abbrev ke1:=CI kj
abbrev kw:=CO kj
noncomputable def k14:Cx TB:=⟨inf,[kdx],[],4,[]⟩
noncomputable def k4f:Code:=Tryz.f92.body.getD .skip
noncomputable def k8d:List ResultVar:=Tryz.f92.results.toList
def ko6 (o:kw):=qS TB k14 49 0 (cB (cB (cB (cB k4f)))) .no (retTQ TB k14 kj k8d o)
def k1n:Tm:=⟨[],[],[0,1,2,8,9,10],[.one (.d (.sl (.st 8))),.one (zqu),.one (.k (.fn 93)),.one (zqi),.one (zqi),.one (zqi)],0⟩
def ko8 (o:kw) (nx1:NX TB k1n):=qM TB 0 k1n nx1 (blockT TB 0 (ko6 o))
def k39 (o:kw) (nx1:NX TB k1n) (i:HL TB.den k1n.hs):Prop:=WP TB k14 49 0 (cA (cA (cA (cB (cB (cB k4f)))))) .no (k1n.fill TB i) (ko8 o nx1)
noncomputable def kn9 (o:kw):An TB:= .lp [] k1n (k39 o) fun nx1=> .no
noncomputable def kn8 (o:kw):An TB:= .nd [] .no [] (.nd [] .no [] (.nd [] (kn9 o) [] .no))
noncomputable def kde (o:kw):An TB:= .nd [] .no [] (kn8 o)
def k6s (x:ke1) (o:kw):Prop:=WPh TB k14 49 0 k4f (kde o) (kj.st TB x) (retTQ TB k14 kj k8d o)
theorem kmi (o:kw):OblH TB k14 49 0 k4f (kde o) (retTQ TB k14 kj k8d o):=
 OblH.ofC (X:=((∀nx i,(k39 o) nx i=(k39 o) nx i)/\(∀nx1:NX TB k1n,True)/\True)) (by kernel_rfl) ⟨fun _ _=>rfl,fun _=>trivial,trivial⟩
theorem kn4 {x:ke1} {o:kw} (h:k6s x o):kj.Snd Tryz.prog x o:=
 Con.soundH (c:=kj) (C:=k14) TBok ⟨inf_ok,(all_cons kqa all_nil),all_nil⟩ mix Tryz.func92 (by kernel_rfl) (by kernel_rfl) (by kernel_rfl) rfl h (kmi o)
theorem knk {p0:List wA} {p1 r0:Int} {r1:Bool} (h:
(Md.Loop (p0,p1,((p0.length:Int):Int),(0:Int),((p0.length:Int):Int),()) (k39 (r0,r1,())))):k6s (p0,p1,()) (r0,r1,()):=WPh.of_eq (by kernel_rfl) h
def kdb (r0:Int) (r1:Bool) (k1:Int->Int->Prop) (s0:List wA) (s1 s8 s9 s10:Int):Prop:=
(decide (s9<s10)=true->
 let v2:Int:=IntKind.u64.wrap (IntKind.i64.wrap (s9+s10))
(0<=IntKind.i64.wrap (ishr .u64 v2 1))/\IntKind.i64.wrap (ishr .u64 v2 1)<(s0.length:Int)/\let r3:Int:=(cmp3 (ix s0 (IntKind.i64.wrap (ishr .u64 v2 1))).ID s1)
(decide (r3<0)=true->
 let v4:Int:=IntKind.i64.wrap ((IntKind.i64.wrap (ishr .u64 v2 1))+1)
 k1 v4 s10)/\
(decide (r3<0)=false->
 k1 s9 (IntKind.i64.wrap (ishr .u64 v2 1):Int)))/\
(decide (s9<s10)=false->
(decide (s9<s8)=true->
(0<=s9)/\s9<(s0.length:Int)/\s9=r0/\((cmp3 (ix s0 s9).ID s1)==0)=r1)/\
(decide (s9<s8)=false->
 s9=r0/\false=r1))
theorem kmh {r0:Int} {r1:Bool} {s0:List wA} {s1 s8 s9 s10:Int} (inv:Int->Int->Prop) (μ:Int->Int->Nat) (h0:inv s9 s10) (hs:∀(s9 s10:Int),inv s9 s10->kdb r0 r1 (fun s9q s10q=>inv s9q s10q/\μ s9q s10q<μ s9 s10) s0 s1 s8 s9 s10):Md.Loop (s0,s1,s8,s9,s10,()) (k39 (r0,r1,())):=
 ⟨⟨fun((s0q,s1q,s8q,s9q,s10q,()):(List wA)×Int×Int×Int×Int×Unit)=>(s0=s0q/\s1=s1q/\s8=s8q)/\inv s9q s10q,fun((_,_,_,s9q,s10q,()):(List wA)×Int×Int×Int×Int×Unit)=>μ s9q s10q,⟨⟨rfl,rfl,rfl⟩,h0⟩,fun(s0p,s1p,s8p,s9p,s10p,()) ⟨eq,hi⟩=>by
  obtain⟨rfl,rfl,rfl⟩:=eq;exact mpr_of (by kernel_rfl) ((congrArg (fun k=>kdb r0 r1 k s0 s1 s8 s9p s10p) (lpk2 (⟨rfl,rfl,rfl⟩:s0=s0/\s1=s1/\s8=s8) inv (fun s9q s10q=>μ s9q s10q<μ s9p s10p))).mpr (hs s9p s10p hi))⟩⟩
theorem bd92:Callable Tryz.prog 92:=⟨by rw[Tryz.func92];kernel_rfl,by rw[Tryz.func92];show some _≠some _;decide⟩
theorem klq (p0:List wA) (p1:Int) (h:Srt p0/\p0.length<4611686018427387904):k6s (p0,p1,()) (((lb p0 p1:Int):Int),((fnd p0 p1):Bool),()):=by
 obtain⟨hs,hl⟩:=h
 refine knk (kmh (fun a b=>∃i j:Nat,a=(i:Int)/\b=(j:Int)/\i<=j/\j<=p0.length/\(∀k (h:k<p0.length),k<i->p0[k].ID<p1)/\(∀k (h:k<p0.length),j<=k->p1<=p0[k].ID)) (fun a b=>(b-a).toNat) ⟨0,p0.length,rfl,rfl,by omega,by omega,fun k h hk=>by omega,fun k h hk=>by omega⟩ ?_)
 rintro _ _ ⟨i,j,rfl,rfl,hij,hj,h1,h2⟩
 refine⟨fun hlt=> ?_,fun hlt=> ?_⟩
 ·have hlt' :i<j:=by have:=of_decide_eq_true hlt;omega
  intro v2
  have e:IntKind.i64.wrap (ishr .u64 v2 1)=(((i+j)/2:Nat):Int):=mid_eq i j (by omega)
  rw[e]
  have hm:(i+j)/2<p0.length:=by omega
  rw[ix_get _ _ hm]
  refine⟨by omega,by omega,fun hc=> ?_,fun hc=> ?_⟩
  ·have hc:=cmp3_lt.1 (of_decide_eq_true hc)
   refine⟨⟨(i+j)/2+1,j,inc_i64 _ (by omega),rfl,by omega,hj,fun k h hk=> ?_,h2⟩,?_⟩
   ·rcases Nat.lt_or_ge k ((i+j)/2)with h5|h5
    ·have:=hs _ _ h5 hm;omega
    ·have:k=(i+j)/2:=by omega
     subst this;exact hc
   ·rw[inc_i64 _ (by omega)];omega
  ·have hc:¬p0[(i+j)/2].ID<p1:=fun hh=>of_decide_eq_false hc (cmp3_lt.2 hh)
   refine⟨⟨i,(i+j)/2,rfl,rfl,by omega,by omega,h1,fun k h hk=> ?_⟩,by omega⟩
   rcases Nat.lt_or_ge ((i+j)/2) k with h5|h5
   ·have:=hs _ _ h5 h;omega
   ·have:k=(i+j)/2:=by omega
    subst this;omega
 ·have hij' :i=j:=by have:=of_decide_eq_false hlt;omega
  subst hij'
  have hb:lb p0 p1=i:=lb_eq p0 p1 i hj h1 (fun h=>h2 i h (by omega))
  refine⟨fun hi=> ?_,fun hi=> ?_⟩
  ·have hi:i<p0.length:=by have:=of_decide_eq_true hi;omega
   refine⟨by omega,by omega,by rw[hb],?_⟩
   unfold fnd
   rw[hb,ix_get _ _ hi,List.getElem?_eq_getElem hi]
   show((cmp3 p0[i].ID p1)==0)=decide (p0[i].ID=p1)
   rw[Bool.eq_iff_iff]
   simp[cmp3_eq]
  ·have hi:¬i<p0.length:=by have:=of_decide_eq_false hi;omega
   refine⟨by rw[hb],?_⟩
   unfold fnd
   rw[hb,List.getElem?_eq_none (by omega)]
noncomputable def kcj:Con TB.den:=kj.fnR (fun x=>(fun(p0:List wA) (p1:Int)=>Srt p0/\p0.length<4611686018427387904) x.1 x.2.1) fun x=>(fun(p0:List wA) (p1:Int)=>(((lb p0 p1:Int):Int),((fnd p0 p1):Bool),())) x.1 x.2.1
theorem knw:kcj.Ok Tryz.prog TB:=Con.ok_fn kj bd92 fun x h=>kn4 (klq x.1 x.2.1 h)
def k60:Con TB.den:=Con.mk0 66 [.agg [.d (.sl (.st 8))],.one (zqu)] [] (.tup [.one (zqi),.one (.d (.bool))]) []
abbrev k105:=CI k60
abbrev knv:=CO k60
noncomputable def km0:Cx TB:=⟨inf,[kcj],[],4,[]⟩
noncomputable def k19h:Code:=Tryz.f66.body.getD .skip
noncomputable def k1gk:List ResultVar:=Tryz.f66.results.toList
noncomputable def k1hs (o:knv):An TB:= .no
def khs (x:k105) (o:knv):Prop:=WPh TB km0 12 0 k19h (k1hs o) (k60.st TB x) (retTQ TB km0 k60 k1gk o)
theorem k1cc {x:k105} {o:knv} (h:khs x o):k60.Snd Tryz.prog x o:=
 Con.soundH (c:=k60) (C:=km0) TBok ⟨inf_ok,(all_cons knw all_nil),all_nil⟩ mix Tryz.func66 (by kernel_rfl) (by kernel_rfl) (by kernel_rfl) rfl h (OblH.ofC (X:=True) (by kernel_rfl) trivial)
theorem k1hv {p0:wg} {p1 r0:Int} {r1:Bool} (h:
((Srt p0.wB/\p0.wB.length<4611686018427387904)/\(lb p0.wB p1:Int)=r0/\(fnd p0.wB p1)=r1)):khs (p0.wB,p1,()) (r0,r1,()):=WPh.of_eq (by kernel_rfl) h
theorem bd66:Callable Tryz.prog 66:=⟨by rw[Tryz.func66];kernel_rfl,by rw[Tryz.func66];show some _≠some _;decide⟩
theorem k19i (p0:wg) (p1:Int) (h:Srt p0.wB/\p0.wB.length<4611686018427387904):khs (p0.wB,p1,()) (((lb p0.wB p1:Int):Int),((fnd p0.wB p1):Bool),()):=by
 exact k1hv (r0:=(lb p0.wB p1:Int)) (r1:=fnd p0.wB p1) ⟨h,rfl,rfl⟩
noncomputable def kjh:Con TB.den:=k60.fnR (fun x=>(fun(p0:wg) (p1:Int)=>Srt p0.wB/\p0.wB.length<4611686018427387904) (wg.mk x.1) x.2.1) fun x=>(fun(p0:wg) (p1:Int)=>(((lb p0.wB p1:Int):Int),((fnd p0.wB p1):Bool),())) (wg.mk x.1) x.2.1
theorem kvb:kjh.Ok Tryz.prog TB:=Con.ok_fn k60 bd66 fun x h=>k1cc (k19i (wg.mk x.1) x.2.1 h)
def k6j:Con TB.den:=Con.mk0 31 [.agg [.d (.sl (.st 8))],.one (zqu)] [] (.tup [.one (zqu),.one (zqu)]) []
abbrev k126:=CI k6j
abbrev kph:=CO k6j
noncomputable def knq:Cx TB:=⟨inf,[kjh],[],4,[]⟩
noncomputable def k1fk:Code:=Tryz.f31.body.getD .skip
noncomputable def k1l8:List ResultVar:=Tryz.f31.results.toList
noncomputable def k1mf (o:kph):An TB:= .no
def kj1 (x:k126) (o:kph):Prop:=WPh TB knq 28 0 k1fk (k1mf o) (k6j.st TB x) (retTQ TB knq k6j k1l8 o)
theorem k1j5 {x:k126} {o:kph} (h:kj1 x o):k6j.Snd Tryz.prog x o:=
 Con.soundH (c:=k6j) (C:=knq) TBok ⟨inf_ok,(all_cons kvb all_nil),all_nil⟩ mix Tryz.func31 (by kernel_rfl) (by kernel_rfl) (by kernel_rfl) rfl h (OblH.ofC (X:=True) (by kernel_rfl) trivial)
theorem k1n7 {p0:wg} {p1 r0 r1:Int} (h:
((Srt p0.wB/\p0.wB.length<4611686018427387904)/\((!(fnd p0.wB p1))=true->
 0=r0/\0=r1)/\
((!(fnd p0.wB p1))=false->
(0<=(lb p0.wB p1:Int))/\(lb p0.wB p1:Int)<(p0.wB.length:Int)/\let v2:Int:=(ix p0.wB (lb p0.wB p1:Int)).wX
(0<=(lb p0.wB p1:Int))/\(lb p0.wB p1:Int)<(p0.wB.length:Int)/\let v3:Int:=(ix p0.wB (lb p0.wB p1:Int)).wO
 v2=r0/\v3=r1))):kj1 (p0.wB,p1,()) (r0,r1,()):=WPh.of_eq (by kernel_rfl) h
theorem bd31:Callable Tryz.prog 31:=⟨by rw[Tryz.func31];kernel_rfl,by rw[Tryz.func31];show some _≠some _;decide⟩
theorem k1ds (p0:wg) (p1:Int) (h:Srt p0.wB/\p0.wB.length<4611686018427387904):kj1 (p0.wB,p1,()) ((((getA p0.wB p1).wX):Int),(((getA p0.wB p1).wO):Int),()):=by
 refine k1n7 ⟨h,fun hh=> ?_,fun hh=> ?_⟩
 ·have hf:fnd p0.wB p1=false:=by simpa using hh
  rw[getA_no h.1 hf]
  exact⟨rfl,rfl⟩
 ·have hf:fnd p0.wB p1=true:=by simpa using hh
  obtain⟨hb,_⟩:=krk hf
  rw[getA_of h.1 hf hb,ix_get _ _ hb]
  exact⟨by omega,by omega,by omega,by omega,rfl,rfl⟩
noncomputable def kfh:Con TB.den:=k6j.fnR (fun x=>(fun(p0:wg) (p1:Int)=>Srt p0.wB/\p0.wB.length<4611686018427387904) (wg.mk x.1) x.2.1) fun x=>(fun(p0:wg) (p1:Int)=>((((getA p0.wB p1).wX):Int),(((getA p0.wB p1).wO):Int),())) (wg.mk x.1) x.2.1
theorem ko4:kfh.Ok Tryz.prog TB:=Con.ok_fn k6j bd31 fun x h=>k1j5 (k1ds (wg.mk x.1) x.2.1 h)
end Go.Proofs.YtlfcebhnjkcmnaaGreat
end
