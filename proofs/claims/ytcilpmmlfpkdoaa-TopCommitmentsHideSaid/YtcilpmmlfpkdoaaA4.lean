/-
  Parts of the proofs that the laws of this seat hold of every input, merged by a program: a machine over pure data that is sound for the model, what each function of the translation does in it, and plain lemmas. No conditions but those in each theorem.
-/
import Derived.Test.YtcilpmmlfpkdoaaA3
set_option maxRecDepth 100000
noncomputable section
namespace Go.Cv
open Go Go.Bv Go.RowKit Go.Md
structure WPh (T:Tab) (C:Cx T) (N n0:Nat) (c:Code) (an:An T) (s:TSt T.den) (Q:Exit→TSt T.den→Prop):Prop where
 h:WP T C N n0 c an s Q
structure OblH (T:Tab) (C:Cx T) (N n0:Nat) (c:Code) (an:An T) (Q:Exit→TSt T.den→Prop):Prop where
 h:Obl T C N n0 c an Q
theorem mpr_of {A B:Prop} (e:A=B) (h:B):A:=e.mpr h
theorem WPh.of_eq {T:Tab} {C:Cx T} {N n0:Nat} {c:Code} {an:An T} {s:TSt T.den} {Q:Exit→TSt T.den→Prop} {X:Prop} (e:WP T C N n0 c an s Q=X) (h:X):WPh T C N n0 c an s Q:=⟨e.mpr h⟩
theorem OblH.of_eq {T:Tab} {C:Cx T} {N n0:Nat} {c:Code} {an:An T} {Q:Exit→TSt T.den→Prop} {X:Prop} (e:Obl T C N n0 c an Q=X) (h:X):OblH T C N n0 c an Q:=⟨e.mpr h⟩
def OblC (T:Tab) (C:Cx T) (N n0:Nat):Code→An T→(Exit→TSt T.den→Prop)→Prop→Prop
 | .seq x y,.jn tm J _ a gb b,Q,K=>OblC T C N n0 x a (thenT T (fun s' =>tm.mat T n0 s' J) Q) ((∀i,J i=ghs T gb (tm.fill T i) fun s' =>WP T C N n0 y b s' Q)∧OblC T C N n0 y b Q K)
 | .seq x y,an,Q,K=>OblC T C N n0 x an.a (thenT T (fun s' =>ghs T an.gb s' fun s' =>WP T C N n0 y an.b s' Q) Q) (OblC T C N n0 y an.b Q K)
 | .cond _ x y,an,Q,K=>OblC T C N n0 x an.a Q (OblC T C N n0 y an.b Q K)
 | .block id x,an,Q,K=>OblC T C N n0 x an (blockT T id Q) K
 | .loop x,.lp _ tm L a,Q,K=>(∀nx i,L nx i=WP T C N n0 x (a nx) (tm.fill T i) (thenT T (fun s' =>tm.mat T n0 s' nx) Q))∧(∀nx,OblC T C N n0 x (a nx) (thenT T (fun s' =>tm.mat T n0 s' nx) Q) True)∧K
 |_,_,_,K=>K
theorem k1u0 {T:Tab} {C:Cx T} {N n0:Nat}:∀(c:Code) (an:An T) (Q:Exit→TSt T.den→Prop) (K:Prop),OblC T C N n0 c an Q K→Obl T C N n0 c an Q∧K:=by
 intro c
 induction c with
 |seq x y ihx ihy=>
  intro an Q K h
  cases an with
  |jn tm J ga a gb b=>
   simp only[OblC]at h
   obtain⟨h1,h2,h3⟩:=ihx _ _ _ h
   obtain⟨h4,h5⟩:=ihy _ _ _ h3
   simp only[Obl]
   exact⟨⟨h1,h2,h4⟩,h5⟩
  |no=>simp only[OblC]at h;obtain⟨h1,h3⟩:=ihx _ _ _ h;obtain⟨h4,h5⟩:=ihy _ _ _ h3;simp only[Obl];exact⟨⟨h1,h4⟩,h5⟩
  |nd ga a gb b=>simp only[OblC]at h;obtain⟨h1,h3⟩:=ihx _ _ _ h;obtain⟨h4,h5⟩:=ihy _ _ _ h3;simp only[Obl];exact⟨⟨h1,h4⟩,h5⟩
  |lp g tm L a=>simp only[OblC]at h;obtain⟨h1,h3⟩:=ihx _ _ _ h;obtain⟨h4,h5⟩:=ihy _ _ _ h3;simp only[Obl];exact⟨⟨h1,h4⟩,h5⟩
  |rt g=>simp only[OblC]at h;obtain⟨h1,h3⟩:=ihx _ _ _ h;obtain⟨h4,h5⟩:=ihy _ _ _ h3;simp only[Obl];exact⟨⟨h1,h4⟩,h5⟩
 |cond c x y ihx ihy=>
  intro an Q K h
  simp only[OblC]at h
  obtain⟨h1,h2⟩:=ihx _ _ _ h
  obtain⟨h3,h4⟩:=ihy _ _ _ h2
  simp only[Obl]
  exact⟨⟨h1,h3⟩,h4⟩
 |block id x ih=>
  intro an Q K h
  simp only[OblC]at h
  simp only[Obl]
  exact ih _ _ _ h
 |loop x ih=>
  intro an Q K h
  cases an with
  |lp g tm L a=>
   simp only[OblC]at h
   simp only[Obl]
   exact⟨⟨h.1,fun nx=>(ih _ _ _ (h.2.1 nx)).1⟩,h.2.2⟩
  |_=>simp only[OblC]at h;simp only[Obl];exact⟨trivial,h⟩
 |_=>intro an Q K h;simp only[OblC]at h;simp only[Obl];exact⟨trivial,h⟩
theorem OblH.ofC {T:Tab} {C:Cx T} {N n0:Nat} {c:Code} {an:An T} {Q:Exit→TSt T.den→Prop} {X:Prop} (e:OblC T C N n0 c an Q True=X) (h:X):OblH T C N n0 c an Q:=⟨(k1u0 _ _ _ _ (e.mpr h)).1⟩
abbrev NX (T:Tab) (m:Tm):=HL T.den m.hs→Prop
def qS (T:Tab) (C:Cx T) (N n0:Nat) (y:Code) (b:An T) (Q:Exit→TSt T.den→Prop):Exit→TSt T.den→Prop:=thenT T (fun s=>ghs T [] s fun s=>WP T C N n0 y b s Q) Q
def qM (T:Tab) (n0:Nat) (m:Tm) (J:HL T.den m.hs→Prop) (Q:Exit→TSt T.den→Prop):Exit→TSt T.den→Prop:=thenT T (fun s=>m.mat T n0 s J) Q
abbrev Con.Snd {T:Tab} (c:Con T.den) (P:Program) (x:HL T.den (hsT c.ins (hsOs c.pre))) (o:HL T.den (hsV c.res (hsOs c.post))):Prop:=SoundH P c.f ((c.args idf x).map (er T)) ((c.obs idf x).map (erO T)) (er T (c.val idf o)) ((c.ops idf o).map (erO T))
theorem Con.soundH {P:Program} {T:Tab} {C:Cx T} {N:Nat} (hT:T.Ok) (hC:C.Ok P T) (hm:P.follows .mixedOrders=true) {c:Con T.den} {fn:Func} {code:Code} {rs:List ResultVar} (hf:P.funcs[c.f]? =some fn) (hb:fn.body=some code) (hN:fn.ntmps=N) (hrs:fn.results.toList=rs) (hl:Nat.ble c.ins.length N=true)
  {x:HL T.den (hsT c.ins (hsOs c.pre))} {o:HL T.den (hsV c.res (hsOs c.post))} {an:An T} (hW:WPh T C N c.pre.length code an (c.st T x) (retTQ T C c rs o)) (hO:OblH T C N c.pre.length code an (retTQ T C c rs o)):
  SoundH P c.f ((c.args idf x).map (er T)) ((c.obs idf x).map (erO T)) (er T (c.val idf o)) ((c.ops idf o).map (erO T)):=Con.sound hT hC hm hf hb hN hrs hl hW.h hO.h
def cA:Code→Code
 | .seq x _=>x
 | .cond _ x _=>x
 | .block _ x=>x
 | .loop x=>x
 |_=> .skip
def cB:Code→Code
 | .seq _ y=>y
 | .cond _ _ y=>y
 |_=> .skip
section
variable {S:Nat→Type}
def Con.mk0 (f:Nat) (ins:List Sh0) (pre:List OSh) (res:Sh) (post:List OSh):Con S:=⟨f,ins,pre,res,post,fun _ _=>False,false⟩
def Con.fnR (c:Con S) (ok:HL S (hsT c.ins (hsOs c.pre))→Prop) (v:HL S (hsT c.ins (hsOs c.pre))→HL S (hsV c.res (hsOs c.post))):Con S:=⟨c.f,c.ins,c.pre,c.res,c.post,fun x K=>ok x∧K (v x),c.alt⟩
def Con.totR (c:Con S) (v:HL S (hsT c.ins (hsOs c.pre))→HL S (hsV c.res (hsOs c.post))):Con S:=⟨c.f,c.ins,c.pre,c.res,c.post,fun x K=>K (v x),c.alt⟩
def Con.relR (c:Con S) (Ret:HL S (hsT c.ins (hsOs c.pre))→HL S (hsV c.res (hsOs c.post))→Prop):Con S:=⟨c.f,c.ins,c.pre,c.res,c.post,fun x K=>exH (hsV c.res (hsOs c.post)) fun o=>Ret x o∧K o,c.alt⟩
theorem exH_ex:∀{ts:List Ty} {K:HL S ts→Prop},exH ts K→∃x,K x
 |[],_,h=>⟨(),h⟩
 |_::_,_,⟨x,h⟩=>let⟨y,hy⟩:=exH_ex h;⟨(x,y),hy⟩
end
def flAll (F:Nat→Option (Nat×Bool×Nat)):Nat→List (Nat×Bool×Nat)→Prop
 |_,[]=>True
 |k,q::r=>F k=some q∧flAll F (k+1) r
theorem k1lc {F:Nat→Option (Nat×Bool×Nat)}:∀{l:List (Nat×Bool×Nat)} {k:Nat},flAll F k l→∀i q,l[i]? =some q→F (k+i)=some q
 |[],_,_,i,q,h=>by simp at h
 |p::r,k,ha,i,q,h=>by
  cases i with
  |zero=>simp at h;subst h;exact ha.1
  |succ i=>rw[show k+(i+1)=k+1+i by omega];exact k1lc ha.2 i q (by simpa using h)
theorem k5h {P:Program} {t:TypeId} {l:List (Nat×Bool×Nat)} (h:flAll (fldOf P t) 0 l) (f:Nat) (q:Nat×Bool×Nat) (hq:l[f]? =some q):fldOf P t f=some q:=by
 have:=k1lc h f q hq
 simpa using this
section
variable {T:Tab} {P:Program}
theorem Con.ok_fn (c:Con T.den) {ok:HL T.den (hsT c.ins (hsOs c.pre))→Prop} {v:HL T.den (hsT c.ins (hsOs c.pre))→HL T.den (hsV c.res (hsOs c.post))} (cl:Callable P c.f)
  (h:∀x,ok x→SoundH P c.f ((c.args idf x).map (er T)) ((c.obs idf x).map (erO T)) (er T (c.val idf (v x))) ((c.ops idf (v x)).map (erO T))):(c.fnR ok v).Ok P T:=
 ⟨cl,fun x _ hx=>⟨v x,hx.2,h x hx.1⟩⟩
theorem Con.ok_tot (c:Con T.den) {v:HL T.den (hsT c.ins (hsOs c.pre))→HL T.den (hsV c.res (hsOs c.post))} (cl:Callable P c.f)
  (h:∀x,SoundH P c.f ((c.args idf x).map (er T)) ((c.obs idf x).map (erO T)) (er T (c.val idf (v x))) ((c.ops idf (v x)).map (erO T))):(c.totR v).Ok P T:=
 ⟨cl,fun x _ hx=>⟨v x,hx,h x⟩⟩
theorem Con.ok_rel (c:Con T.den) {Ret:HL T.den (hsT c.ins (hsOs c.pre))→HL T.den (hsV c.res (hsOs c.post))→Prop} (cl:Callable P c.f)
  (h:∀x o,Ret x o→SoundH P c.f ((c.args idf x).map (er T)) ((c.obs idf x).map (erO T)) (er T (c.val idf o)) ((c.ops idf o).map (erO T))):(c.relR Ret).Ok P T:=
 ⟨cl,fun x _ hx=>let⟨o,h1,h2⟩:=exH_ex hx;⟨o,h2,h x o h1⟩⟩
theorem all_nil {α:Type} {p:α→Prop}:∀c∈([]:List α),p c:=fun _ h=>by cases h
theorem all_cons {α:Type} {p:α→Prop} {a:α} {l:List α} (h:p a) (h' :∀c∈l,p c):∀c∈a::l,p c:=fun c hc=>by
 rcases List.mem_cons.1 hc with rfl|hc
 ·exact h
 ·exact h' c hc
theorem k4y {P:Program} {T:Tab}:InfoOk P T .lf:=fun _ _ h=>by cases h
theorem find_nd {P:Program} {T:Tab} {l r:BT (TI T.den)} {k:Nat} {v:TI T.den} (hv:TI.Ok P T k v) (hl:InfoOk P T l) (hr:InfoOk P T r):InfoOk P T (.nd l k v r):=fun t x h=>by
 unfold BT.find at h
 cases h1:Nat.beq t k with
 |true=>rw[h1]at h;have:=nb_eq h1;subst this;injection h with h;subst h;exact hv
 |false=>
  rw[h1]at h
  cases h2:Nat.ble t k with
  |true=>rw[h2]at h;exact hl t x h
  |false=>rw[h2]at h;exact hr t x h
end
end Go.Cv
namespace Go.Cv
theorem lpk0 {C:Prop} (h:C) (I M:Prop):((C∧I)∧M)=(I∧M):=propext ⟨fun x=>⟨x.1.2,x.2⟩,fun x=>⟨⟨h,x.1⟩,x.2⟩⟩
theorem lpk1 {C:Prop} {A0:Type} (h:C) (I M:A0→Prop):(fun a0=>(C∧I a0)∧M a0)=fun a0=>I a0∧M a0:=funext fun a0=>lpk0 h _ _
theorem lpk2 {C:Prop} {A0 A1:Type} (h:C) (I M:A0→A1→Prop):(fun a0 a1=>(C∧I a0 a1)∧M a0 a1)=fun a0 a1=>I a0 a1∧M a0 a1:=funext fun a0=>funext fun a1=>lpk0 h _ _
theorem lpk3 {C:Prop} {A0 A1 A2:Type} (h:C) (I M:A0→A1→A2→Prop):(fun a0 a1 a2=>(C∧I a0 a1 a2)∧M a0 a1 a2)=fun a0 a1 a2=>I a0 a1 a2∧M a0 a1 a2:=funext fun a0=>funext fun a1=>funext fun a2=>lpk0 h _ _
theorem lpk4 {C:Prop} {A0 A1 A2 A3:Type} (h:C) (I M:A0→A1→A2→A3→Prop):(fun a0 a1 a2 a3=>(C∧I a0 a1 a2 a3)∧M a0 a1 a2 a3)=fun a0 a1 a2 a3=>I a0 a1 a2 a3∧M a0 a1 a2 a3:=funext fun a0=>funext fun a1=>funext fun a2=>funext fun a3=>lpk0 h _ _
theorem lpk5 {C:Prop} {A0 A1 A2 A3 A4:Type} (h:C) (I M:A0→A1→A2→A3→A4→Prop):(fun a0 a1 a2 a3 a4=>(C∧I a0 a1 a2 a3 a4)∧M a0 a1 a2 a3 a4)=fun a0 a1 a2 a3 a4=>I a0 a1 a2 a3 a4∧M a0 a1 a2 a3 a4:=funext fun a0=>funext fun a1=>funext fun a2=>funext fun a3=>funext fun a4=>lpk0 h _ _
theorem lpk6 {C:Prop} {A0 A1 A2 A3 A4 A5:Type} (h:C) (I M:A0→A1→A2→A3→A4→A5→Prop):(fun a0 a1 a2 a3 a4 a5=>(C∧I a0 a1 a2 a3 a4 a5)∧M a0 a1 a2 a3 a4 a5)=fun a0 a1 a2 a3 a4 a5=>I a0 a1 a2 a3 a4 a5∧M a0 a1 a2 a3 a4 a5:=funext fun a0=>funext fun a1=>funext fun a2=>funext fun a3=>funext fun a4=>funext fun a5=>lpk0 h _ _
theorem lpk12 {C:Prop} {A0 A1 A2 A3 A4 A5 A6 A7 A8 A9 A10 A11:Type} (h:C) (I M:A0→A1→A2→A3→A4→A5→A6→A7→A8→A9→A10→A11→Prop):(fun a0 a1 a2 a3 a4 a5 a6 a7 a8 a9 a10 a11=>(C∧I a0 a1 a2 a3 a4 a5 a6 a7 a8 a9 a10 a11)∧M a0 a1 a2 a3 a4 a5 a6 a7 a8 a9 a10 a11)=fun a0 a1 a2 a3 a4 a5 a6 a7 a8 a9 a10 a11=>I a0 a1 a2 a3 a4 a5 a6 a7 a8 a9 a10 a11∧M a0 a1 a2 a3 a4 a5 a6 a7 a8 a9 a10 a11:=funext fun a0=>funext fun a1=>funext fun a2=>funext fun a3=>funext fun a4=>funext fun a5=>funext fun a6=>funext fun a7=>funext fun a8=>funext fun a9=>funext fun a10=>funext fun a11=>lpk0 h _ _
theorem lpk14 {C:Prop} {A0 A1 A2 A3 A4 A5 A6 A7 A8 A9 A10 A11 A12 A13:Type} (h:C) (I M:A0→A1→A2→A3→A4→A5→A6→A7→A8→A9→A10→A11→A12→A13→Prop):(fun a0 a1 a2 a3 a4 a5 a6 a7 a8 a9 a10 a11 a12 a13=>(C∧I a0 a1 a2 a3 a4 a5 a6 a7 a8 a9 a10 a11 a12 a13)∧M a0 a1 a2 a3 a4 a5 a6 a7 a8 a9 a10 a11 a12 a13)=fun a0 a1 a2 a3 a4 a5 a6 a7 a8 a9 a10 a11 a12 a13=>I a0 a1 a2 a3 a4 a5 a6 a7 a8 a9 a10 a11 a12 a13∧M a0 a1 a2 a3 a4 a5 a6 a7 a8 a9 a10 a11 a12 a13:=funext fun a0=>funext fun a1=>funext fun a2=>funext fun a3=>funext fun a4=>funext fun a5=>funext fun a6=>funext fun a7=>funext fun a8=>funext fun a9=>funext fun a10=>funext fun a11=>funext fun a12=>funext fun a13=>lpk0 h _ _
end Go.Cv
namespace Go.Proofs.Ytcilpmmlfpkdoaa
open Go Go.Bv Go.Cv Go.Md Go.RowKit
structure TList13 where
 Leaves:List (List Int)
 Salts:List Int
 deriving Inhabited,DecidableEq
structure TQuestion where
 Label:Int
 Elems:List Int
 Answer:Int
 deriving Inhabited,DecidableEq
structure TField where
 P:Int
 deriving Inhabited,DecidableEq
structure TA3 where
 a0:Int
 a1:Int
 a2:Int
 deriving Inhabited,DecidableEq
structure TTree where
 Levels:List (List Int)
 deriving Inhabited,DecidableEq
structure TTranscript where
 State:Int
 Count:Int
 deriving Inhabited,DecidableEq
def denT:Nat→Type
 |0=>TList13
 |1=>TQuestion
 |2=>TField
 |3=>TA3
 |4=>TTree
 |5=>TTranscript
 |_=>Unit
def tysT:Nat→List Ty
 |0=>[.sl (.sl (.int .u64)),.sl (.int .u64)]
 |1=>[.int .u64,.sl (.int .u64),.int .u64]
 |2=>[.int .u64]
 |3=>[.int .u64,.int .u64,.int .u64]
 |4=>[.sl (.sl (.int .u64))]
 |5=>[.int .u64,.int .u64]
 |_=>[]
theorem k1s1 (x:TTree):TTree.mk x.Levels=x:=rfl
theorem k132 (x:TTranscript):TTranscript.mk x.State x.Count=x:=rfl
def encTList13 (x:TList13):D:= .agg [.slice 1 (x.Leaves.map (fun y=> .slice 1 (y.map (D.int .u64)))),.slice 1 (x.Salts.map (D.int .u64))]
def encTQuestion (x:TQuestion):D:= .agg [.int .u64 x.Label,.slice 1 (x.Elems.map (D.int .u64)),.int .u64 x.Answer]
def encTField (x:TField):D:= .agg [.int .u64 x.P]
def encTA3 (x:TA3):D:= .agg [.int .u64 x.a0,.int .u64 x.a1,.int .u64 x.a2]
def encTTree (x:TTree):D:= .agg [.slice 1 (x.Levels.map (fun y=> .slice 1 (y.map (D.int .u64))))]
def encTTranscript (x:TTranscript):D:= .agg [.int .u64 x.State,.int .u64 x.Count]
def TB:Tab where
 den:=denT
 tys:=tysT
 inh:=fun n=>match n with
  |0=>(default:TList13)
  |1=>(default:TQuestion)
  |2=>(default:TField)
  |3=>(default:TA3)
  |4=>(default:TTree)
  |5=>(default:TTranscript)
  |_+6=>()
 cells:=fun n=>match n with
  |0=>fun(x:TList13)=>(x.Leaves,x.Salts,())
  |1=>fun(x:TQuestion)=>(x.Label,x.Elems,x.Answer,())
  |2=>fun(x:TField)=>(x.P,())
  |3=>fun(x:TA3)=>(x.a0,x.a1,x.a2,())
  |4=>fun(x:TTree)=>(x.Levels,())
  |5=>fun(x:TTranscript)=>(x.State,x.Count,())
  |_+6=>fun _=>()
 pack:=fun n=>match n with
  |0=>fun(q0,q1,())=>TList13.mk q0 q1
  |1=>fun(q0,q1,q2,())=>TQuestion.mk q0 q1 q2
  |2=>fun(q0,())=>TField.mk q0
  |3=>fun(q0,q1,q2,())=>TA3.mk q0 q1 q2
  |4=>fun(q0,())=>TTree.mk q0
  |5=>fun(q0,q1,())=>TTranscript.mk q0 q1
  |_+6=>fun _=>()
 enc:=fun n=>match n with
  |0=>encTList13
  |1=>encTQuestion
  |2=>encTField
  |3=>encTA3
  |4=>encTTree
  |5=>encTTranscript
  |_+6=>fun _=> .agg []
theorem TBok:TB.Ok where
 one:=fun n=>match n with
  |0=>rfl
  |1=>rfl
  |2=>rfl
  |3=>rfl
  |4=>rfl
  |5=>rfl
  |_+6=>rfl
 pc:=fun n x=>match n with
  |0=>rfl
  |1=>rfl
  |2=>rfl
  |3=>rfl
  |4=>rfl
  |5=>rfl
  |_+6=>rfl
 en:=fun n x=>match n with
  |0=>rfl
  |1=>rfl
  |2=>rfl
  |3=>rfl
  |4=>rfl
  |5=>rfl
  |_+6=>rfl
def ti3:TI TB.den:={ty:=some (false,1),ze:=some [.d (.int .i64) (0:Int)],un:=some (.int .i64)}
theorem ti3_ok:TI.Ok Try.prog TB 3 ti3:=
  ⟨(fun _ h=>(show tyOf Try.prog 3=some (false,1)by kernel_rfl).trans h),
   (k5h trivial),
   (fun _ _ h=>by cases h),
   (fun h=>by cases h),
   (fun _ h=>by cases h),
   (fun _ h=>by cases h;exact⟨by kernel_rfl,k2r (by kernel_rfl)⟩),
   (fun h=>(h rfl).elim),
   (fun _ h=>(show Try.prog.underlying 3=some (.int .i64)by kernel_rfl).trans h),
   (fun _ h=>by cases h),
   (fun _ _ h=>by cases h)⟩
def ti4:TI TB.den:={ty:=some (false,1),ze:=some [.d (.bool) (false:Bool)],un:=some (.bool)}
theorem ti4_ok:TI.Ok Try.prog TB 4 ti4:=
  ⟨(fun _ h=>(show tyOf Try.prog 4=some (false,1)by kernel_rfl).trans h),
   (k5h trivial),
   (fun _ _ h=>by cases h),
   (fun h=>by cases h),
   (fun _ h=>by cases h),
   (fun _ h=>by cases h;exact⟨by kernel_rfl,k2r (by kernel_rfl)⟩),
   (fun h=>(h rfl).elim),
   (fun _ h=>(show Try.prog.underlying 4=some (.bool)by kernel_rfl).trans h),
   (fun _ h=>by cases h),
   (fun _ _ h=>by cases h)⟩
def ti5:TI TB.den:={ty:=some (false,1),ze:=some [.d (.int .u8) (0:Int)],un:=some (.int .u8)}
theorem ti5_ok:TI.Ok Try.prog TB 5 ti5:=
  ⟨(fun _ h=>(show tyOf Try.prog 5=some (false,1)by kernel_rfl).trans h),
   (k5h trivial),
   (fun _ _ h=>by cases h),
   (fun h=>by cases h),
   (fun _ h=>by cases h),
   (fun _ h=>by cases h;exact⟨by kernel_rfl,k2r (by kernel_rfl)⟩),
   (fun h=>(h rfl).elim),
   (fun _ h=>(show Try.prog.underlying 5=some (.int .u8)by kernel_rfl).trans h),
   (fun _ h=>by cases h),
   (fun _ _ h=>by cases h)⟩
def ti9:TI TB.den:={ty:=some (false,1),ze:=some [.d (.str) (ByteArray.empty:ByteArray)],un:=some (.string)}
theorem ti9_ok:TI.Ok Try.prog TB 9 ti9:=
  ⟨(fun _ h=>(show tyOf Try.prog 9=some (false,1)by kernel_rfl).trans h),
   (k5h trivial),
   (fun _ _ h=>by cases h),
   (fun h=>by cases h),
   (fun _ h=>by cases h),
   (fun _ h=>by cases h;exact⟨by kernel_rfl,k2r (by kernel_rfl)⟩),
   (fun h=>(h rfl).elim),
   (fun _ h=>(show Try.prog.underlying 9=some (.string)by kernel_rfl).trans h),
   (fun _ h=>by cases h),
   (fun _ _ h=>by cases h)⟩
def ti22:TI TB.den:={ty:=some (false,1),ze:=some [.d (.int .u64) (0:Int)],un:=some (.int .u64)}
theorem ti22_ok:TI.Ok Try.prog TB 22 ti22:=
  ⟨(fun _ h=>(show tyOf Try.prog 22=some (false,1)by kernel_rfl).trans h),
   (k5h trivial),
   (fun _ _ h=>by cases h),
   (fun h=>by cases h),
   (fun _ h=>by cases h),
   (fun _ h=>by cases h;exact⟨by kernel_rfl,k2r (by kernel_rfl)⟩),
   (fun h=>(h rfl).elim),
   (fun _ h=>(show Try.prog.underlying 22=some (.int .u64)by kernel_rfl).trans h),
   (fun _ h=>by cases h),
   (fun _ _ h=>by cases h)⟩
def ti23:TI TB.den:={ty:=some (false,1),el:=some (.sl (.int .u64),24),ez:=true,ze:=some [.full (.sl (.int .u64)) []],un:=some (.slice 24)}
theorem ti23_ok:TI.Ok Try.prog TB 23 ti23:=
  ⟨(fun _ h=>(show tyOf Try.prog 23=some (false,1)by kernel_rfl).trans h),
   (k5h trivial),
   (fun _ _ h=>by cases h;exact⟨by kernel_rfl,by kernel_rfl⟩),
   (fun _ _ _ h=>by cases h;exact⟨[.full 1 []],by kernel_rfl,⟨⟨⟨rfl,rfl⟩,rfl⟩,trivial⟩⟩),
   (fun _ h=>by cases h),
   (fun _ h=>by cases h;exact⟨by kernel_rfl,k2r (by kernel_rfl)⟩),
   (fun h=>(h rfl).elim),
   (fun _ h=>(show Try.prog.underlying 23=some (.slice 24)by kernel_rfl).trans h),
   (fun _ h=>by cases h),
   (fun _ _ h=>by cases h)⟩
def ti24:TI TB.den:={ty:=some (false,1),el:=some (.int .u64,8),ez:=true,ze:=some [.full (.int .u64) []],un:=some (.slice 22)}
theorem ti24_ok:TI.Ok Try.prog TB 24 ti24:=
  ⟨(fun _ h=>(show tyOf Try.prog 24=some (false,1)by kernel_rfl).trans h),
   (k5h trivial),
   (fun _ _ h=>by cases h;exact⟨by kernel_rfl,by kernel_rfl⟩),
   (fun _ _ _ h=>by cases h;exact⟨[.d (.int .u64 0)],by kernel_rfl,⟨⟨k6h _,rfl⟩,trivial⟩⟩),
   (fun _ h=>by cases h),
   (fun _ h=>by cases h;exact⟨by kernel_rfl,k2r (by kernel_rfl)⟩),
   (fun h=>(h rfl).elim),
   (fun _ h=>(show Try.prog.underlying 24=some (.slice 22)by kernel_rfl).trans h),
   (fun _ h=>by cases h),
   (fun _ _ h=>by cases h)⟩
def ti26:TI TB.den:={ty:=some (true,2),fl:=[(0,false,1),(1,false,1)],ze:=some [.full (.sl (.int .u64)) [],.full (.int .u64) []],pl:=[(0,1),(1,1)]}
theorem ti26_ok:TI.Ok Try.prog TB 26 ti26:=
  ⟨(fun _ h=>(show tyOf Try.prog 26=some (true,2)by kernel_rfl).trans h),
   (k5h ⟨by kernel_rfl,by kernel_rfl,trivial⟩),
   (fun _ _ h=>by cases h),
   (fun h=>by cases h),
   (fun _ h=>by cases h),
   (fun _ h=>by cases h;exact⟨by kernel_rfl,k2r (by kernel_rfl)⟩),
   (fun _=>by kernel_rfl),
   (fun _ h=>by cases h),
   (fun _ h=>by cases h),
   (fun _ _ h=>by cases h)⟩
def ti30:TI TB.den:={ty:=some (false,1),ze:=some [.k KC.nilPtr.v],un:=some (.pointer 62)}
theorem ti30_ok:TI.Ok Try.prog TB 30 ti30:=
  ⟨(fun _ h=>(show tyOf Try.prog 30=some (false,1)by kernel_rfl).trans h),
   (k5h trivial),
   (fun _ _ h=>by cases h),
   (fun h=>by cases h),
   (fun _ h=>by cases h),
   (fun _ h=>by cases h;exact⟨by kernel_rfl,k2r (by kernel_rfl)⟩),
   (fun h=>(h rfl).elim),
   (fun _ h=>(show Try.prog.underlying 30=some (.pointer 62)by kernel_rfl).trans h),
   (fun _ h=>by cases h),
   (fun _ _ h=>by cases h)⟩
def ti33:TI TB.den:={ty:=some (true,1),fl:=[(0,false,1)],ze:=some [.full (.sl (.int .u64)) []],pl:=[(0,1)]}
theorem ti33_ok:TI.Ok Try.prog TB 33 ti33:=
  ⟨(fun _ h=>(show tyOf Try.prog 33=some (true,1)by kernel_rfl).trans h),
   (k5h ⟨by kernel_rfl,trivial⟩),
   (fun _ _ h=>by cases h),
   (fun h=>by cases h),
   (fun _ h=>by cases h),
   (fun _ h=>by cases h;exact⟨by kernel_rfl,k2r (by kernel_rfl)⟩),
   (fun _=>by kernel_rfl),
   (fun _ h=>by cases h),
   (fun _ h=>by cases h),
   (fun _ _ h=>by cases h)⟩
def ti41:TI TB.den:={ty:=some (true,2),fl:=[(0,false,1),(1,false,1)],ze:=some [.d (.int .u64) (0:Int),.d (.int .u64) (0:Int)],pl:=[(0,1),(1,1)],eq:=some [.int .u64,.int .u64]}
theorem ti41_ok:TI.Ok Try.prog TB 41 ti41:=
  ⟨(fun _ h=>(show tyOf Try.prog 41=some (true,2)by kernel_rfl).trans h),
   (k5h ⟨by kernel_rfl,by kernel_rfl,trivial⟩),
   (fun _ _ h=>by cases h),
   (fun h=>by cases h),
   (fun _ h=>by cases h),
   (fun _ h=>by cases h;exact⟨by kernel_rfl,k2r (by kernel_rfl)⟩),
   (fun _=>by kernel_rfl),
   (fun _ h=>by cases h),
   (fun _ h=>(show eqT Try.prog 41=some [.int .u64,.int .u64]by kernel_rfl).trans h),
   (fun _ _ h=>by cases h)⟩
def ti46:TI TB.den:={ty:=some (false,1),el:=some (.int .i64,8),ez:=true,ze:=some [.full (.int .i64) []],un:=some (.slice 3)}
theorem ti46_ok:TI.Ok Try.prog TB 46 ti46:=
  ⟨(fun _ h=>(show tyOf Try.prog 46=some (false,1)by kernel_rfl).trans h),
   (k5h trivial),
   (fun _ _ h=>by cases h;exact⟨by kernel_rfl,by kernel_rfl⟩),
   (fun _ _ _ h=>by cases h;exact⟨[.d (.int .i64 0)],by kernel_rfl,⟨⟨k6h _,rfl⟩,trivial⟩⟩),
   (fun _ h=>by cases h),
   (fun _ h=>by cases h;exact⟨by kernel_rfl,k2r (by kernel_rfl)⟩),
   (fun h=>(h rfl).elim),
   (fun _ h=>(show Try.prog.underlying 46=some (.slice 3)by kernel_rfl).trans h),
   (fun _ h=>by cases h),
   (fun _ _ h=>by cases h)⟩
def ti57:TI TB.den:={ty:=some (false,1),el:=some (.st 1,40),ez:=true,ze:=some [.full (.st 1) []],un:=some (.slice 77)}
theorem ti57_ok:TI.Ok Try.prog TB 57 ti57:=
  ⟨(fun _ h=>(show tyOf Try.prog 57=some (false,1)by kernel_rfl).trans h),
   (k5h trivial),
   (fun _ _ h=>by cases h;exact⟨by kernel_rfl,by kernel_rfl⟩),
   (fun _ _ _ h=>by cases h;exact⟨[.d (.int .u64 0),.full 1 [],.d (.int .u64 0)],by kernel_rfl,⟨⟨k6h _,rfl⟩,⟨⟨rfl,rfl⟩,rfl⟩,⟨k6h _,rfl⟩,trivial⟩⟩),
   (fun _ h=>by cases h),
   (fun _ h=>by cases h;exact⟨by kernel_rfl,k2r (by kernel_rfl)⟩),
   (fun h=>(h rfl).elim),
   (fun _ h=>(show Try.prog.underlying 57=some (.slice 77)by kernel_rfl).trans h),
   (fun _ h=>by cases h),
   (fun _ _ h=>by cases h)⟩
def ti58:TI TB.den:={ty:=some (false,1),ze:=some [.k KC.nilMap.v],mp:=some (.str,.int .i64),un:=some (.map 9 3)}
theorem ti58_ok:TI.Ok Try.prog TB 58 ti58:=
  ⟨(fun _ h=>(show tyOf Try.prog 58=some (false,1)by kernel_rfl).trans h),
   (k5h trivial),
   (fun _ _ h=>by cases h),
   (fun h=>by cases h),
   (fun _ h=>by cases h),
   (fun _ h=>by cases h;exact⟨by kernel_rfl,k2r (by kernel_rfl)⟩),
   (fun h=>(h rfl).elim),
   (fun _ h=>(show Try.prog.underlying 58=some (.map 9 3)by kernel_rfl).trans h),
   (fun _ h=>by cases h),
   (fun _ _ h=>by cases h;exact⟨3,.string,⟨9,by kernel_rfl,by kernel_rfl⟩,fun _=>rfl,zIs_mk (z0:= .d (.int .i64 0)) (by kernel_rfl) (k6h (V.d (.int .i64 0)))⟩)⟩
def ti59:TI TB.den:={ty:=some (false,1),ze:=some [.k KC.nilMap.v],mp:=some (.str,.sl (.int .u64)),un:=some (.map 9 24)}
theorem ti59_ok:TI.Ok Try.prog TB 59 ti59:=
  ⟨(fun _ h=>(show tyOf Try.prog 59=some (false,1)by kernel_rfl).trans h),
   (k5h trivial),
   (fun _ _ h=>by cases h),
   (fun h=>by cases h),
   (fun _ h=>by cases h),
   (fun _ h=>by cases h;exact⟨by kernel_rfl,k2r (by kernel_rfl)⟩),
   (fun h=>(h rfl).elim),
   (fun _ h=>(show Try.prog.underlying 59=some (.map 9 24)by kernel_rfl).trans h),
   (fun _ h=>by cases h),
   (fun _ _ h=>by cases h;exact⟨24,.string,⟨9,by kernel_rfl,by kernel_rfl⟩,fun _=>rfl,zIs_mk (z0:= .k (.slice none 0 0)) (by kernel_rfl) (rfl)⟩)⟩
def ti60:TI TB.den:={ty:=some (false,1),ze:=some [.k KC.nilMap.v],mp:=some (.str,.bool),un:=some (.map 9 4)}
theorem ti60_ok:TI.Ok Try.prog TB 60 ti60:=
  ⟨(fun _ h=>(show tyOf Try.prog 60=some (false,1)by kernel_rfl).trans h),
   (k5h trivial),
   (fun _ _ h=>by cases h),
   (fun h=>by cases h),
   (fun _ h=>by cases h),
   (fun _ h=>by cases h;exact⟨by kernel_rfl,k2r (by kernel_rfl)⟩),
   (fun h=>(h rfl).elim),
   (fun _ h=>(show Try.prog.underlying 60=some (.map 9 4)by kernel_rfl).trans h),
   (fun _ h=>by cases h),
   (fun _ _ h=>by cases h;exact⟨4,.string,⟨9,by kernel_rfl,by kernel_rfl⟩,fun _=>rfl,zIs_mk (z0:= .d (.bool false)) (by kernel_rfl) (k6h (V.d (.bool false)))⟩)⟩
def ti62:TI TB.den:={ty:=some (true,7),fl:=[(0,false,1),(1,false,1),(2,false,1),(3,false,1),(4,false,1),(5,false,1),(6,false,1)],ze:=some [.d (.bool) (false:Bool),.d (.int .u64) (0:Int),.d (.int .i64) (0:Int),.full (.st 1) [],.k KC.nilMap.v,.k KC.nilMap.v,.k KC.nilMap.v],pl:=[(0,1),(1,1),(2,1),(3,1),(4,1),(5,1),(6,1)]}
theorem ti62_ok:TI.Ok Try.prog TB 62 ti62:=
  ⟨(fun _ h=>(show tyOf Try.prog 62=some (true,7)by kernel_rfl).trans h),
   (k5h ⟨by kernel_rfl,by kernel_rfl,by kernel_rfl,by kernel_rfl,by kernel_rfl,by kernel_rfl,by kernel_rfl,trivial⟩),
   (fun _ _ h=>by cases h),
   (fun h=>by cases h),
   (fun _ h=>by cases h),
   (fun _ h=>by cases h;exact⟨by kernel_rfl,k2r (by kernel_rfl)⟩),
   (fun _=>by kernel_rfl),
   (fun _ h=>by cases h),
   (fun _ h=>by cases h),
   (fun _ _ h=>by cases h)⟩
def ti72:TI TB.den:={ty:=some (true,3),ar:=some (3,false,1),ze:=some [.d (.int .u64) (0:Int),.d (.int .u64) (0:Int),.d (.int .u64) (0:Int)],pl:=[(0,1),(1,1),(2,1)],un:=some (.array 3 22)}
theorem ti72_ok:TI.Ok Try.prog TB 72 ti72:=
  ⟨(fun _ h=>(show tyOf Try.prog 72=some (true,3)by kernel_rfl).trans h),
   (k5h trivial),
   (fun _ _ h=>by cases h),
   (fun h=>by cases h),
   (fun _ h=>by cases h;exact⟨by kernel_rfl,by kernel_rfl⟩),
   (fun _ h=>by cases h;exact⟨by kernel_rfl,k2r (by kernel_rfl)⟩),
   (fun _=>by kernel_rfl),
   (fun _ h=>(show Try.prog.underlying 72=some (.array 3 22)by kernel_rfl).trans h),
   (fun _ h=>by cases h),
   (fun _ _ h=>by cases h)⟩
def ti77:TI TB.den:={ty:=some (true,3),fl:=[(0,false,1),(1,false,1),(2,false,1)],ze:=some [.d (.int .u64) (0:Int),.full (.int .u64) [],.d (.int .u64) (0:Int)],pl:=[(0,1),(1,1),(2,1)]}
theorem ti77_ok:TI.Ok Try.prog TB 77 ti77:=
  ⟨(fun _ h=>(show tyOf Try.prog 77=some (true,3)by kernel_rfl).trans h),
   (k5h ⟨by kernel_rfl,by kernel_rfl,by kernel_rfl,trivial⟩),
   (fun _ _ h=>by cases h),
   (fun h=>by cases h),
   (fun _ h=>by cases h),
   (fun _ h=>by cases h;exact⟨by kernel_rfl,k2r (by kernel_rfl)⟩),
   (fun _=>by kernel_rfl),
   (fun _ h=>by cases h),
   (fun _ h=>by cases h),
   (fun _ _ h=>by cases h)⟩
def ti82:TI TB.den:={ty:=some (false,1),ze:=some [.d (.int .u64) (0:Int)],un:=some (.int .u64)}
theorem ti82_ok:TI.Ok Try.prog TB 82 ti82:=
  ⟨(fun _ h=>(show tyOf Try.prog 82=some (false,1)by kernel_rfl).trans h),
   (k5h trivial),
   (fun _ _ h=>by cases h),
   (fun h=>by cases h),
   (fun _ h=>by cases h),
   (fun _ h=>by cases h;exact⟨by kernel_rfl,k2r (by kernel_rfl)⟩),
   (fun h=>(h rfl).elim),
   (fun _ h=>(show Try.prog.underlying 82=some (.int .u64)by kernel_rfl).trans h),
   (fun _ h=>by cases h),
   (fun _ _ h=>by cases h)⟩
def ti87:TI TB.den:={ty:=some (true,1),fl:=[(0,false,1)],ze:=some [.d (.int .u64) (0:Int)],pl:=[(0,1)],eq:=some [.int .u64]}
theorem ti87_ok:TI.Ok Try.prog TB 87 ti87:=
  ⟨(fun _ h=>(show tyOf Try.prog 87=some (true,1)by kernel_rfl).trans h),
   (k5h ⟨by kernel_rfl,trivial⟩),
   (fun _ _ h=>by cases h),
   (fun h=>by cases h),
   (fun _ h=>by cases h),
   (fun _ h=>by cases h;exact⟨by kernel_rfl,k2r (by kernel_rfl)⟩),
   (fun _=>by kernel_rfl),
   (fun _ h=>by cases h),
   (fun _ h=>(show eqT Try.prog 87=some [.int .u64]by kernel_rfl).trans h),
   (fun _ _ h=>by cases h)⟩
def ti93:TI TB.den:={ty:=some (false,1),el:=some (.int .u8,1),ez:=true,ze:=some [.full (.int .u8) []],un:=some (.slice 5)}
theorem ti93_ok:TI.Ok Try.prog TB 93 ti93:=
  ⟨(fun _ h=>(show tyOf Try.prog 93=some (false,1)by kernel_rfl).trans h),
   (k5h trivial),
   (fun _ _ h=>by cases h;exact⟨by kernel_rfl,by kernel_rfl⟩),
   (fun _ _ _ h=>by cases h;exact⟨[.d (.int .u8 0)],by kernel_rfl,⟨⟨k6h _,rfl⟩,trivial⟩⟩),
   (fun _ h=>by cases h),
   (fun _ h=>by cases h;exact⟨by kernel_rfl,k2r (by kernel_rfl)⟩),
   (fun h=>(h rfl).elim),
   (fun _ h=>(show Try.prog.underlying 93=some (.slice 5)by kernel_rfl).trans h),
   (fun _ h=>by cases h),
   (fun _ _ h=>by cases h)⟩
def ti111:TI TB.den:={ty:=some (false,1),ze:=some [.d (.int .u64) (0:Int)],un:=some (.int .u64)}
theorem k1sw:TI.Ok Try.prog TB 111 ti111:=
  ⟨(fun _ h=>(show tyOf Try.prog 111=some (false,1)by kernel_rfl).trans h),
   (k5h trivial),
   (fun _ _ h=>by cases h),
   (fun h=>by cases h),
   (fun _ h=>by cases h),
   (fun _ h=>by cases h;exact⟨by kernel_rfl,k2r (by kernel_rfl)⟩),
   (fun h=>(h rfl).elim),
   (fun _ h=>(show Try.prog.underlying 111=some (.int .u64)by kernel_rfl).trans h),
   (fun _ h=>by cases h),
   (fun _ _ h=>by cases h)⟩
def inf:BT (TI TB.den):=(.nd (.nd (.nd (.nd (.nd .lf 3 ti3 .lf) 4 ti4 .lf) 5 ti5 (.nd (.nd .lf 9 ti9 .lf) 22 ti22 .lf)) 23 ti23 (.nd (.nd (.nd .lf 24 ti24 .lf) 26 ti26 .lf) 30 ti30 (.nd (.nd .lf 33 ti33 .lf) 41 ti41 .lf))) 46 ti46 (.nd (.nd (.nd (.nd .lf 57 ti57 .lf) 58 ti58 .lf) 59 ti59 (.nd (.nd .lf 60 ti60 .lf) 62 ti62 .lf)) 72 ti72 (.nd (.nd (.nd .lf 77 ti77 .lf) 82 ti82 .lf) 87 ti87 (.nd (.nd .lf 93 ti93 .lf) 111 ti111 .lf))))
theorem inf_ok:InfoOk Try.prog TB inf:=(find_nd ti46_ok (find_nd ti23_ok (find_nd ti5_ok (find_nd ti4_ok (find_nd ti3_ok k4y k4y) k4y) (find_nd ti22_ok (find_nd ti9_ok k4y k4y) k4y)) (find_nd ti30_ok (find_nd ti26_ok (find_nd ti24_ok k4y k4y) k4y) (find_nd ti41_ok (find_nd ti33_ok k4y k4y) k4y))) (find_nd ti72_ok (find_nd ti59_ok (find_nd ti58_ok (find_nd ti57_ok k4y k4y) k4y) (find_nd ti62_ok (find_nd ti60_ok k4y k4y) k4y)) (find_nd ti87_ok (find_nd ti82_ok (find_nd ti77_ok k4y k4y) k4y) (find_nd k1sw (find_nd ti93_ok k4y k4y) k4y))))
theorem mix:Try.prog.follows .mixedOrders=true:=by kernel_rfl
def x88:XCon TB.den:=⟨88,[.int .u64,.int .u64,.int .u64],[.int .u64,.int .u64],fun x=>(fun(a0:Int) (a1:Int) (a2:Int)=>0≤a0∧0≤a1∧0≤a2∧a2≤1) x.1 x.2.1 x.2.2.1,fun x=>((fun(a0:Int) (a1:Int) (a2:Int)=>(a0+a1+a2)%18446744073709551616) x.1 x.2.1 x.2.2.1,(fun(a0:Int) (a1:Int) (a2:Int)=>(a0+a1+a2)/18446744073709551616) x.1 x.2.1 x.2.2.1,())⟩
theorem x88_ok:x88.Ok Try.prog TB:=⟨rfl,fun x h=>k1p8 Try.func88 (by kernel_rfl) (by kernel_rfl) (by kernel_rfl) (by kernel_rfl) x.1 x.2.1 x.2.2.1 h.1 h.2.1 h.2.2.1 h.2.2.2⟩
end Go.Proofs.Ytcilpmmlfpkdoaa
namespace Go.Bv
open Go.RowKit Go.Deep
def limOf (w:World) (b:Nat):Nat:=match w.heap[b]? with
 |some (.cells c _ _)=>c.size
 |_=>0
theorem k1rk {w:World} {b o:Nat} {v:Value} (h:w.cell? ⟨b,o,none⟩=some v):o<limOf w b:=by
 unfold World.cell? at h
 unfold limOf
 simp only at h
 split at h
 ·rename_i c _ _ hh
  rw[hh]
  simp only[Option.isSome_none,Bool.false_eq_true,if_false]at h
  exact(Array.getElem?_eq_some_iff.1 h).1
 ·cases h
def isAggT (P:Program) (e:TypeId):Bool:=match P.underlying e with
 |some (.struct _)=>true
 |some (.array _ _)=>true
 |_=>false
def mkD (P:Program) (e:TypeId) (cs:List D):D:=if isAggT P e then .agg cs else cs.headD (.bool false)
def tiles (P:Program) (tot:Nat):List (TypeId×Nat)→Nat→Bool
 |[],o=>o==tot
 |p::r,o=>p.2==o&&tiles P tot r (o+P.cellsOf p.1)
def fsOf (fs:Array Field):List (TypeId×Nat):=fs.toList.map fun f=>(f.type,f.offset)
def arOf (P:Program) (n:Nat) (e:TypeId):List (TypeId×Nat):=(List.range n).map fun i=>(e,i*P.cellsOf e)
def dataT (P:Program):Nat→TypeId→Bool
 |0,_=>false
 |k+1,t=>match P.underlying t with
  |some .bool=>true
  |some (.int _)=>true
  |some .string=>true
  |some (.slice e)=>decide (0<P.cellsOf e)&&dataT P k e
  |some (.struct fs)=>tiles P (P.cellsOf t) (fsOf fs) 0&&(fsOf fs).all fun p=>dataT P k p.1
  |some (.array n e)=>tiles P (P.cellsOf t) (arOf P n e) 0&&dataT P k e
  |_=>false
def RelFs {H:Type} (R:TypeId→List D→DataW H→Prop):List (TypeId×Nat)→List D→List (DataW H)→Prop
 |[],ds,ps=>ds=[]∧ps=[]
 |t::ts,ds,ps=>∃d1 d2 p qs,R t.1 d1 p∧RelFs R ts d2 qs∧ds=d1++d2∧ps=p::qs
def Rel {H:Type} (P:Program):Nat→TypeId→List D→DataW H→Prop
 |0,_,_,_=>False
 |k+1,t,ds,d=>match P.underlying t with
  |some .bool=>∃b,ds=[.bool b]∧d= .lit (.bool b)
  |some (.int q)=>∃i,ds=[.int q i]∧d= .lit (.int q i)∧(Lit.int q i).wf=true
  |some .string=>∃s:ByteArray,ds=[.str s]∧d= .lit (.string s.data.toList)
  | some (.slice e)=>∃l:List (List D),ds=[.slice (P.cellsOf e) (l.map (mkD P e))]∧l.length≤maxLen∧
    ((l=[]∧d= .nil)∨∃elems spare,d= .slice elems spare∧l.length=elems.length∧∀(j:Nat) (x:List D) (y:DataW H),l[j]? =some x→elems[j]? =some y→Rel P k e x y)
  |some (.struct fs)=>∃ps,d= .agg ps∧RelFs (Rel P k) (fsOf fs) ds ps
  |some (.array n e)=>∃ps,d= .agg ps∧RelFs (Rel P k) (arOf P n e) ds ps
  |_=>False
def Holds (w:World) (cs:List Value) (ds:List D):Prop:=ds.length=cs.length∧∀(j:Nat) (v:Value) (c:D),cs[j]? =some v→ds[j]? =some c→RepD (limOf w) w v c
theorem Holds.append {w:World} {a b:List Value} {x y:List D} (h1:Holds w a x) (h2:Holds w b y):Holds w (a++b) (x++y):=by
 refine⟨by simp[h1.1,h2.1],fun j v c hv hc=> ?_⟩
 by_cases hj:j<a.length
 ·rw[List.getElem?_append_left hj]at hv
  rw[List.getElem?_append_left (by rw[h1.1];exact hj)]at hc
  exact h1.2 j v c hv hc
 ·rw[List.getElem?_append_right (by omega)]at hv
  rw[List.getElem?_append_right (by rw[h1.1];omega),h1.1]at hc
  exact h2.2 _ v c hv hc
theorem Holds.one {w:World} {v:Value} {d:D} (h:RepD (limOf w) w v d):Holds w [v] [d]:=by
 refine⟨rfl,fun j u c hu hc=> ?_⟩
 cases j with
 |zero=>simp at hu hc;subst hu;subst hc;exact h
 |succ j=>simp at hu
section
variable {H:Type} {P:Program} {w:World} {cs:List Value}
theorem k1bd {tot:Nat} (htot:cs.length=tot) (ok:Value→Prop) (hok:∀v∈cs,ok v) (R:TypeId→List D→DataW H→Prop) (g:TypeId→List Value→Option (DataW H×List MemPlace)):
  ∀(L:List (TypeId×Nat)) (o:Nat) (xs:List (DataW H×List MemPlace)),tiles P tot L o=true→xs.length=L.length→
   (∀p∈L,∀cs' y,(∀v∈cs',ok v)→g p.1 cs' =some y→∃ds,Holds w cs' ds∧R p.1 ds y.1)→
   (∀(i:Nat) (p:TypeId×Nat),L[i]? =some p→g p.1 ((cs.drop p.2).take (P.cellsOf p.1))=xs[i]?)→
   ∃ds,Holds w (cs.drop o) ds∧RelFs R L ds (xs.map (·.1))
 |[],o,xs,ht,hl,_,_=>by
  simp[tiles]at ht
  have:xs=[]:=by simpa using hl
  subst this
  refine⟨[],⟨?_,?_⟩,rfl,rfl⟩
  ·simp;omega
  ·intro j v c _ hc;simp at hc
 |p::L,o,xs,ht,hl,hg,hx=>by
  simp[tiles]at ht
  obtain⟨h0,ht⟩:=ht
  cases xs with
  |nil=>simp at hl
  |cons y ys=>
   have h1:=hx 0 p rfl
   simp only[List.getElem?_cons_zero]at h1
   obtain⟨d1,hd1,hr1⟩:=hg p (by simp) _ y (fun v hv=>hok v (List.mem_of_mem_drop (List.mem_of_mem_take hv))) h1
   obtain⟨d2,hd2,hr2⟩:=k1bd htot ok hok R g L (o+P.cellsOf p.1) ys ht (by simpa using hl) (fun q hq=>hg q (by simp[hq])) (fun i q hq=>by simpa using hx (i+1) q (by simpa using hq))
   refine⟨d1++d2,?_,d1,d2,y.1,_,hr1,hr2,rfl,rfl⟩
   have:=hd1.append hd2
   rw[h0,←List.drop_drop,List.take_append_drop]at this
   exact this
end
section
variable {H:Type} {enc:TypeId×Value→H} {P:Program} {w:World}
theorem rel_mk {k:Nat} {e:TypeId} {x:List D} {d:DataW H} (hr:Rel P k e x d) (h1:∀c∈x,c.one=true):(mkD P e x).cells=x:=by
 cases k with
 |zero=>exact hr.elim
 |succ k=>
  unfold mkD
  split
  ·rfl
  ·rename_i ha
   unfold Rel at hr
   split at hr
   ·obtain⟨b,rfl,_⟩:=hr;rfl
   ·obtain⟨b,rfl,_⟩:=hr;rfl
   ·obtain⟨b,rfl,_⟩:=hr;rfl
   ·obtain⟨b,rfl,_⟩:=hr;rfl
   ·rename_i h;exact absurd (by simp[isAggT,h]) ha
   ·rename_i h;exact absurd (by simp[isAggT,h]) ha
   ·exact hr.elim
theorem k124:∀(k:Nat) (t:TypeId),dataT P k t=true→∀(n:Nat) (cs:List Value) (y:DataW H×List MemPlace),
  DataW.trod enc P w 0 (fun _=>true) true n t cs=some y→∃ds,Holds w cs ds∧Rel P k t ds y.1
 |0,_,h=>by cases h
 |k+1,t,hT=>by
  intro n cs y h
  unfold dataT at hT
  split at hT
  ·rename_i hu
   obtain⟨b,rfl,rfl⟩:=DataW.trod_bool hu h
   exact⟨[.bool b],Holds.one (.bool b),by simp[Rel,hu]⟩
  ·rename_i q hu
   obtain⟨i,rfl,rfl,hw⟩:=DataW.trod_int hu h
   exact⟨[.int q i],Holds.one (.int q i),by simp[Rel,hu,hw]⟩
  ·rename_i hu
   obtain⟨s,rfl,rfl,hs⟩:=DataW.trod_string hu h
   exact⟨[.str s],Holds.one (.str s),by simp only[Rel,hu];exact⟨s,rfl,rfl⟩⟩
  ·rename_i e hu
   simp only[Bool.and_eq_true,decide_eq_true_eq]at hT
   obtain⟨hpos,hT⟩:=hT
   rcases open_slice hu h with⟨rfl,rfl⟩|⟨a,len,cap,m,n',Dd,Pl,rfl,_,hlc,hcm,hm,rfl,hel⟩
   ·exact⟨[.slice (P.cellsOf e) []],Holds.one (.nil none _),by simp only[Rel,hu];exact⟨[],rfl,Nat.zero_le _,.inl ⟨by trivial,by trivial⟩⟩⟩
   ·simp only[if_true]at hm
    subst hm
    by_cases hm0:m=0
    ·subst hm0
     have hl0:len=0:=by omega
     subst hl0
     refine⟨[.slice (P.cellsOf e) []],Holds.one (.nil (some a) _),?_⟩
     simp only[Rel,hu]
     exact⟨[],rfl,Nat.zero_le _,.inr ⟨_,_,rfl,by simp,by intro j x y hx;simp at hx⟩⟩
    have hel' :∀i,i<len→∃x:List D,∃cs',w.cells? 0 (a.add (i*P.cellsOf e)) (P.cellsOf e)=some cs'∧Holds w cs' x∧Rel P k e x (Dd i):=by
     intro i hi
     obtain⟨cs',h1,h2⟩:=hel i (by omega)
     obtain⟨ds,h3,h4⟩:=k124 k e hT n' cs' _ h2
     exact⟨ds,cs',h1,h3,h4⟩
    obtain⟨f,hf⟩:=choose_lt hel'
    have hspot:a.spot=none:=by
     obtain⟨cs',h1,h2⟩:=hel 0 (by omega)
     have h3:=(World.cells?_some h1).2.2 0 (by omega)
     have h4:=(World.cells?_some h1).2.1
     rw[List.getElem?_eq_getElem (by omega)]at h3
     unfold World.cell? at h3
     split at h3
     ·split at h3
      ·cases h3
      ·rename_i hs;simpa[Addr.add]using hs
     ·cases h3
    obtain⟨b,off,sp⟩:=a
    simp only at hspot
    subst hspot
    have hone:∀i,i<len→∀c∈f i,c.one=true:=by
     intro i hi c hc
     obtain⟨cs',h1,h2,h3⟩:=hf i hi
     obtain⟨j,hj⟩:=List.getElem?_of_mem hc
     have hjl:j<cs'.length:=by rw[←h2.1];exact(List.getElem?_eq_some_iff.1 hj).1
     exact(h2.2 j _ c (List.getElem?_eq_getElem hjl) hj).done
    have hmk:∀i,i<len→(mkD P e (f i)).cells=f i:=fun i hi=>by
     obtain⟨cs',h1,h2,h3⟩:=hf i hi
     exact rel_mk h3 (hone i hi)
    have hsz:∀d∈((List.range len).map f).map (mkD P e),d.cells.length=P.cellsOf e∧∀c∈d.cells,c.one=true:=by
     intro d hd
     simp only[List.map_map,List.mem_map,List.mem_range,Function.comp]at hd
     obtain⟨i,hi,rfl⟩:=hd
     obtain⟨cs',h1,h2,h3⟩:=hf i hi
     rw[hmk i hi]
     exact⟨by rw[h2.1];exact(World.cells?_some h1).2.1,hone i hi⟩
    have hget:∀i,i<len→(((List.range len).map f).map (mkD P e))[i]? =some (mkD P e (f i)):=by
     intro i hi
     simp[List.getElem?_map,List.getElem?_range hi]
    have hfl:=k55 hsz
    simp only[List.length_map,List.length_range]at hfl
    have hat:∀(j:Nat) (u:Value),((List.range (len*P.cellsOf e)).map fun j=>(w.cell? ⟨b,off+j,none⟩).getD undef)[j]? =some u→j<len*P.cellsOf e∧w.cell? ⟨b,off+j,none⟩=some u:=by
     intro j u hu
     have hj:j<len*P.cellsOf e:=by simpa using(List.getElem?_eq_some_iff.1 hu).1
     refine⟨hj,?_⟩
     simp only[List.getElem?_map,List.getElem?_range hj,Option.map_some,Option.some.injEq]at hu
     have hi:j/P.cellsOf e<len:=by rw[Nat.div_lt_iff_lt_mul hpos];exact hj
     have hr:j%P.cellsOf e<P.cellsOf e:=Nat.mod_lt _ hpos
     obtain⟨cs',h1,h2,h3⟩:=hf _ hi
     have e1:j/P.cellsOf e*P.cellsOf e+j%P.cellsOf e=j:=by rw[Nat.mul_comm];exact Nat.div_add_mod j _
     have h4:=(World.cells?_some h1).2.2 _ hr
     have h5:=(World.cells?_some h1).2.1
     have e2:(Addr.add ⟨b,off,none⟩ (j/P.cellsOf e*P.cellsOf e)).add (j%P.cellsOf e)=⟨b,off+j,none⟩:=by
      rw[add_add,e1]
      simp[Addr.add]
     rw[e2,List.getElem?_eq_getElem (by omega)]at h4
     rw[h4]at hu ⊢
     simpa using hu
    refine⟨[.slice (P.cellsOf e) (((List.range len).map f).map (mkD P e))],Holds.one ?_,?_⟩
    ·have:=RepD.slice (m:=limOf w) (w:=w) b off m (P.cellsOf e) (((List.range len).map f).map (mkD P e)) ((List.range (len*P.cellsOf e)).map fun j=>(w.cell? ⟨b,off+j,none⟩).getD undef) (by simpa using hlc) hcm hsz (by rw[hfl];simp) ?_ ?_
     ·simpa using this
     ·intro j u hu
      obtain⟨hj,hcell⟩:=hat j u hu
      exact⟨k1rk hcell,hcell⟩
     ·intro j u c hu hc
      obtain⟨hj,hcell⟩:=hat j u hu
      have hi:j/P.cellsOf e<len:=by rw[Nat.div_lt_iff_lt_mul hpos];exact hj
      have hr:j%P.cellsOf e<P.cellsOf e:=Nat.mod_lt _ hpos
      obtain⟨cs',h1,h2,h3⟩:=hf _ hi
      have e1:j/P.cellsOf e*P.cellsOf e+j%P.cellsOf e=j:=by rw[Nat.mul_comm];exact Nat.div_add_mod j _
      rw[←e1,k16a hsz (hget _ hi) _ hr,hmk _ hi]at hc
      refine h2.2 _ u c ?_ hc
      rw[←(World.cells?_some h1).2.2 _ hr,←hcell]
      congr 1
      rw[add_add,e1]
      simp[Addr.add]
    ·simp only[Rel,hu]
     refine⟨(List.range len).map f,rfl,by simp;omega,.inr ⟨_,_,rfl,by simp,?_⟩⟩
     intro j x y hx hy
     have hj:j<len:=by simpa using(List.getElem?_eq_some_iff.1 hx).1
     simp only[List.getElem?_map,List.getElem?_range hj,Option.map_some,Option.some.injEq]at hx hy
     subst hx;subst hy
     obtain⟨_,_,_,h3⟩:=hf j hj
     exact h3
  ·rename_i fs hu
   simp only[Bool.and_eq_true]at hT
   obtain⟨xs,n',rfl,rfl,hl,hxl,hx⟩:=DataW.trod_struct hu h
   obtain⟨ds,h1,h2⟩:=k1bd (P:=P) hl (fun _=>True) (fun _ _=>trivial) (Rel P k) (fun t c=>DataW.trod enc P w 0 (fun _=>true) true n' t c) (fsOf fs) 0 xs hT.1 (by simp[fsOf,hxl])
    (fun p hp cs' y _ hy=>k124 k p.1 (List.all_eq_true.1 hT.2 p hp) n' cs' y hy)
    (fun i p hp=>by
     simp only[fsOf,List.getElem?_map,Option.map_eq_some_iff]at hp
     obtain⟨f,hf,rfl⟩:=hp
     exact hx i f (by simpa using hf))
   exact⟨ds,by simpa using h1,by simp only[Rel,hu];exact⟨_,rfl,h2⟩⟩
  ·rename_i m e hu
   simp only[Bool.and_eq_true]at hT
   obtain⟨xs,n',rfl,rfl,hl,hxl,hx⟩:=DataW.trod_array hu h
   obtain⟨ds,h1,h2⟩:=k1bd (P:=P) hl (fun _=>True) (fun _ _=>trivial) (Rel P k) (fun t c=>DataW.trod enc P w 0 (fun _=>true) true n' t c) (arOf P m e) 0 xs hT.1 (by simp[arOf,hxl])
    (fun p hp cs' y _ hy=>by
     simp only[arOf,List.mem_map]at hp
     obtain⟨i,_,rfl⟩:=hp
     exact k124 k e hT.2 n' cs' y hy)
    (fun i p hp=>by
     simp only[arOf,List.getElem?_map,Option.map_eq_some_iff]at hp
     obtain⟨f,hf,rfl⟩:=hp
     obtain⟨hi,rfl⟩:=List.getElem?_eq_some_iff.1 hf
     have hi' :i<m:=by simpa using hi
     simpa using hx i hi')
   exact⟨ds,by simpa using h1,by simp only[Rel,hu];exact⟨_,rfl,h2⟩⟩
  ·cases hT
end
end Go.Bv
namespace Go.Bv
open Go.RowKit Go.ChangeShapes Go.WideShapes
def G0 (W:World):Gh:=⟨fun _=>none,fun _=>none,limOf W⟩
def vOf (P:Program) (t:TypeId) (ds:List D):V:=if isAggT P t then .agg (ds.map V.d)else .d (ds.headD (.bool false))
section
variable {H:Type} {enc:TypeId×Value→H} {P:Program} {W:World}
theorem arg_rep {k:Nat} {r:Reach} {base:Nat} {t:TypeId} {v:Value} {d:DataW H} {ps:List MemPlace} {h:Hp} {nx:Nat} (hT:dataT P k t=true) (hval:Value.okWide P W r base t v)
  (hd:DataW.Trod enc P W 0 (fun _=>true) true t v d ps):∃ds,Rel P k t ds d∧RepV (G0 W) W h nx v (vOf P t ds):=by
 obtain⟨n,hn⟩:=hd
 by_cases ha:isAggT P t=true
 ·have hval' :∃cs,v= .agg cs∧cs.size=P.cellsOf t∧Row.okWide P W r base t cs:=by
   unfold isAggT at ha
   unfold Value.okWide at hval
   split at ha
   ·rename_i h1;rw[h1]at hval;exact hval
   ·rename_i h1;rw[h1]at hval;exact hval
   ·cases ha
  obtain⟨cs,rfl,_,ts,_,_,hc⟩:=hval'
  obtain⟨ds,h1,h2⟩:=k124 k t hT n cs.toList _ hn
  refine⟨ds,h2,?_⟩
  unfold vOf
  rw[if_pos ha]
  have:=RepV.agg (G:=G0 W) (w:=W) (h:=h) (nx:=nx) cs.toList (ds.map V.d) (by simpa using h1.1.symm) ?_ ?_
  ·simpa using this
  ·intro x hx
   obtain⟨c,hcm,rfl⟩:=List.mem_map.1 hx
   obtain⟨j,hj⟩:=List.getElem?_of_mem hcm
   have hjl:j<cs.toList.length:=by have:=h1.1;have:=(List.getElem?_eq_some_iff.1 hj).1;simp[Value.cells]at *;omega
   exact(h1.2 j _ c (List.getElem?_eq_getElem hjl) hj).done
  ·intro j u x hu hx
   rw[List.getElem?_map,Option.map_eq_some_iff]at hx
   obtain⟨c,hcj,rfl⟩:=hx
   exact .d _ _ (h1.2 j u c hu hcj)
 ·have hval' :Cell.okWide P W r base t v:=by
   unfold Value.okWide at hval
   split at hval
   ·rename_i h1;exact absurd (by simp[isAggT,h1]) ha
   ·rename_i h1;exact absurd (by simp[isAggT,h1]) ha
   ·exact hval
  have hcs:v.cells.toList=[v]:=by
   cases v with
   |agg cs=>
    exfalso
    unfold Cell.okWide Cell.ok at hval'
    split at hval'
    all_goals first|(split at hval';all_goals simp_all)|simp_all
   |_=>rfl
  rw[hcs]at hn
  obtain⟨ds,h1,h2⟩:=k124 k t hT n _ _ hn
  refine⟨ds,h2,?_⟩
  unfold vOf
  rw[if_neg ha]
  have hl:=h1.1
  match ds,hl with
  |[c],_=>exact .d _ _ (h1.2 0 v c rfl rfl)
theorem law_of {f:FuncId} {xs:List V} {r:V} (hS:SoundH P f xs [] r []) {vs:List Value} (hlen:vs.length=xs.length)
  (hrep:∀(j:Nat) (v:Value) (x:V),vs[j]? =some v→xs[j]? =some x→RepV (G0 W) W [] 0 v x):
  Calls P f vs.toArray W fun e W' =>(∃v G',e= .returned v∧RepV G' W' [] 0 v r)∧Below W.heap.size W W' :=by
 refine(hS (G0 W) W vs hlen hrep ?_).mono fun e W' hh=> ?_
 ·refine⟨?_,?_,?_,?_,?_,?_⟩
  ·intro id l h;simp[hpOf,Hp.get]at h
  ·intro id es h;simp[hpOf,Hp.get]at h
  ·intro id b h;simp at h
  ·intro i j b h;simp at h
  ·intro id ob h;simp[hpOf,Hp.get]at h
  ·intro b hb
   show limOf W b=0
   unfold limOf
   rw[Array.getElem?_eq_none hb]
 ·obtain⟨v,G',rfl,h1,h2,h3,h4⟩:=hh
  refine⟨⟨v,G',rfl,h1⟩,h3.os,h3.tape,h3.output,h3.size,fun b hb=>(h3.same b hb ?_).1⟩
  rintro ⟨i,hi,_⟩
  simp at hi
def typesOk (P:Program) (ts:List TypeId):Bool:=ts.all fun t=>P.readableRec t&&decide (t<P.types.size)
theorem k17g (hl:laidOutB P=true) {W' :World} (hb:Below W.heap.size W W'):∀{ts:List TypeId} {vs:List Value} {ds:List (DataW H)} {ps:List MemPlace},typesOk P ts=true→
  DataW.TrodAll enc P W 0 (fun _=>true) true ts vs ds ps→(∀x∈ps,x.block<W.heap.size)→DataW.TrodAll enc P W' 0 (fun b=>decide (b<W.heap.size)) true ts vs ds ps
 |[],[],[],_,_,h,_=>h
 |[],[],_::_,_,_,h,_=>h.elim
 |[],_::_,_,_,_,h,_=>h.elim
 |_::_,[],_,_,_,h,_=>h.elim
 |_::_,_::_,[],_,_,h,_=>h.elim
 |t::ts,v::vs,d::ds,ps,ht,h,hp=>by
  simp only[typesOk,List.all_cons,Bool.and_eq_true,decide_eq_true_eq]at ht
  obtain⟨p,q,h1,h2,rfl⟩:=h
  exact⟨p,q,Below.trod hl ht.1.1 ht.1.2 h1 hb (fun x hx=>hp x (by simp[hx])),k17g hl hb (by simpa[typesOk]using ht.2) h2 (fun x hx=>hp x (by simp[hx])),rfl⟩
theorem rel_int {k:Nat} {t:TypeId} {q:IntKind} {ds:List D} {d:DataW H} (hu:P.underlying t=some (.int q)) (h:Rel P (k+1) t ds d):∃i,ds=[.int q i]∧d= .lit (.int q i)∧(Lit.int q i).wf=true:=by unfold Rel at h;rw[hu]at h;exact h
theorem k1qx {k:Nat} {t:TypeId} {fs:Array Field} {ds:List D} {d:DataW H} (hu:P.underlying t=some (.struct fs)) (h:Rel P (k+1) t ds d):∃ps,d= .agg ps∧RelFs (Rel P k) (fsOf fs) ds ps:=by unfold Rel at h;rw[hu]at h;exact h
theorem k1s5 {k:Nat} {t e:TypeId} {ds:List D} {d:DataW H} {α:Type} [Inhabited α] (f:α→D) (p:α→Prop) (hu:P.underlying t=some (.slice e)) (h:Rel P (k+1) t ds d)
  (tp:∀(x:List D) (y:DataW H),Rel P k e x y→∃a,mkD P e x=f a∧p a):
  ∃l:List α,ds=[.slice (P.cellsOf e) (l.map f)]∧l.length≤maxLen∧(∀a∈l,p a)∧((l=[]∧d= .nil)∨∃elems spare,d= .slice elems spare∧l.length=elems.length):=by
 unfold Rel at h
 rw[hu]at h
 obtain⟨l,rfl,hmx,h⟩:=h
 rcases h with⟨rfl,rfl⟩|⟨elems,spare,rfl,hlen,hh⟩
 ·exact⟨[],rfl,Nat.zero_le _,by simp,.inl ⟨rfl,rfl⟩⟩
 ·have:∀i,i<l.length→∃a,mkD P e (l.getD i [])=f a∧p a:=by
   intro i hi
   refine tp _ _ (hh i _ _ ?_ (List.getElem?_eq_getElem (by omega)))
   simp[List.getElem?_eq_getElem hi]
  obtain⟨g,hg⟩:=Deep.choose_lt this
  refine⟨(List.range l.length).map g,?_,by simpa using hmx,?_,.inr ⟨elems,spare,rfl,by simpa using hlen⟩⟩
  ·have:l.map (mkD P e)=((List.range l.length).map g).map f:=by
    rw[Deep.map_by_index l [] (mkD P e),List.map_map]
    refine List.map_congr_left fun i hi=> ?_
    exact(hg i (by simpa using hi)).1
   rw[this]
  ·intro a ha
   obtain⟨i,hi,rfl⟩:=List.mem_map.1 ha
   exact(hg i (by simpa using hi)).2
theorem k1ti {fn:Func} {s:ChangeSpec} {W' :World} {args:Array Value} {ds:List (DataW H)} {before:List MemPlace} {tb:TypeId} (hv:s.vars=[]) (hW:DataW.Whole enc P fn.params.toList s.vars false W args.toList ds [] before)
  (hl:laidOutB P=true) (hty:typesOk P fn.params.toList=true) (hr:fn.resultTypes= #[tb]) (hub:P.underlying tb=some .bool)
  (h1:(s.fn H (ds++[])).results=[.lit (.bool true)]) (h2:(s.fn H (ds++[])).args=ds) (h3:(s.fn H (ds++[])).vars=[]) (hb:Below W.heap.size W W'):
  s.post enc P fn false true false false W args (.bool true) W' :=by
 have hW' :=hW
 obtain⟨p,q,hA,hV,rfl,_,_⟩:=hW
 have hq:q=[]:=by rw[hv]at hV;exact hV
 subst hq
 refine⟨ds,[],p++[],[],p,[],hW',?_,?_,?_,hb.frame _,fun h=>by cases h⟩
 ·rw[h1,hr]
  exact trodAll_cons_mk (shut_bool hub _) trodAll_mk0
 ·rw[h2]
  exact k17g hl hb hty hA (fun x hx=>by simpa using hW'.lt x (by simpa using hx))
 ·rw[hv,h3]
  rfl
end
structure RelH {H:Type} (P:Program) (k:Nat) (t:TypeId) (ds:List D) (d:DataW H):Prop where
 h:Rel P k t ds d
section
variable {H:Type} {enc:TypeId×Value→H} {P:Program} {W:World} {k:Nat}
theorem relFs_h:∀{L:List (TypeId×Nat)} {ds:List D} {ps:List (DataW H)},RelFs (Rel P k) L ds ps→RelFs (RelH P k) L ds ps
 |[],_,_,h=>h
 |_::_,_,_,⟨d1,d2,p,qs,h1,h2,e1,e2⟩=>⟨d1,d2,p,qs,⟨h1⟩,relFs_h h2,e1,e2⟩
theorem k1t7 {t:TypeId} {q:IntKind} {ds:List D} {d:DataW H} (hu:P.underlying t=some (.int q)) (h:RelH P (k+1) t ds d):∃i,ds=[.int q i]∧d= .lit (.int q i)∧(Lit.int q i).wf=true:=rel_int hu h.h
theorem k1pj {t:TypeId} {fs:Array Field} {ds:List D} {d:DataW H} {L:List (TypeId×Nat)} (hu:P.underlying t=some (.struct fs)) (hf:fsOf fs=L) (h:RelH P (k+1) t ds d):∃ps,d= .agg ps∧RelFs (RelH P k) L ds ps:=by
 obtain⟨ps,h1,h2⟩:=k1qx hu h.h
 rw[hf]at h2
 exact⟨ps,h1,relFs_h h2⟩
theorem k1hu {t e:TypeId} {ds:List D} {d:DataW H} {α:Type} [Inhabited α] (f:α→D) (p:α→Prop) (sz:Nat) (hu:P.underlying t=some (.slice e)) (hs:P.cellsOf e=sz) (h:RelH P (k+1) t ds d)
  (tp:∀(x:List D) (y:DataW H),RelH P k e x y→∃a,mkD P e x=f a∧p a):∃l:List α,ds=[.slice sz (l.map f)]∧l.length≤9223372036854775807∧∀a∈l,p a:=by
 obtain⟨l,h1,h2,h3,_⟩:=k1s5 f p hu h.h (fun x y hh=>tp x y ⟨hh⟩)
 subst hs
 exact⟨l,h1,h2,h3⟩
theorem mk_one {e:TypeId} {ds:List D} {x:D} (ha:isAggT P e=false) (h:ds=[x]):mkD P e ds=x:=by subst h;unfold mkD;rw[ha];rfl
theorem k1g4 {r:Reach} {base:Nat} {t:TypeId} {v:Value} {d:DataW H} {ps:List MemPlace} {h:Hp} {nx:Nat} (hT:dataT P k t=true) (hval:Value.okWide P W r base t v)
  (hd:DataW.Trod enc P W 0 (fun _=>true) true t v d ps):∃ds,RelH P k t ds d∧RepV (G0 W) W h nx v (vOf P t ds):=by
 obtain⟨ds,h1,h2⟩:=arg_rep hT hval hd
 exact⟨ds,⟨h1⟩,h2⟩
end
end Go.Bv
namespace Go.Proofs.Ytcilpmmlfpkdoaa
open Go Go.Bv Go.Cv Go.Md Go.RowKit Go.ChangeShapes Go.WideShapes
theorem wf_u64 {i:Int} (h:(Lit.int .u64 i).wf=true):0≤i∧i<18446744073709551616:=by
 simp only[Lit.wf,IntKind.min,IntKind.max,IntKind.signed,IntKind.bits,Bool.and_eq_true]at h
 simp at h
 omega
theorem op22 {H:Type} {k:Nat} {ds:List D} {d:DataW H} (h:RelH Try.prog (k+1) 22 ds d):∃x:Int,ds=[D.int .u64 x]∧(0≤x∧x<18446744073709551616):=by
 obtain⟨i,rfl,_,w⟩:=k1t7 (q:= .u64) (show Try.prog.underlying 22=some (.int .u64)by kernel_rfl) h
 exact⟨i,rfl,wf_u64 w⟩
structure kmm (x:TList13):Prop where
 Leaves:(x.Leaves.length≤9223372036854775807∧∀y∈x.Leaves,(y.length≤9223372036854775807∧∀z∈y,(0≤z∧z<18446744073709551616)))
 Salts:(x.Salts.length≤9223372036854775807∧∀y∈x.Salts,(0≤y∧y<18446744073709551616))
theorem op24 {H:Type} {k:Nat} {ds:List D} {d:DataW H} (h:RelH Try.prog (k+2) 24 ds d):∃x:List Int,ds=[D.slice 1 (x.map (D.int .u64))]∧(x.length≤9223372036854775807∧∀y∈x,(0≤y∧y<18446744073709551616)):=by
 obtain⟨l,rfl,hm,hl⟩:=k1hu (D.int .u64) (fun(y:Int)=>(0≤y∧y<18446744073709551616)) 1 (show Try.prog.underlying 24=some (.slice 22)by kernel_rfl) (by kernel_rfl) h (fun x y hh=>by
  obtain⟨a,e,ha⟩:=op22 (k:=k+0) hh
  exact⟨a,mk_one (by kernel_rfl) e,ha⟩)
 exact⟨l,rfl,⟨hm,hl⟩⟩
theorem op23 {H:Type} {k:Nat} {ds:List D} {d:DataW H} (h:RelH Try.prog (k+3) 23 ds d):∃x:List (List Int),ds=[D.slice 1 (x.map (fun(y:List Int)=>D.slice 1 (y.map (D.int .u64))))]∧(x.length≤9223372036854775807∧∀y∈x,(y.length≤9223372036854775807∧∀z∈y,(0≤z∧z<18446744073709551616))):=by
 obtain⟨l,rfl,hm,hl⟩:=k1hu (fun(y:List Int)=>D.slice 1 (y.map (D.int .u64))) (fun(y:List Int)=>(y.length≤9223372036854775807∧∀z∈y,(0≤z∧z<18446744073709551616))) 1 (show Try.prog.underlying 23=some (.slice 24)by kernel_rfl) (by kernel_rfl) h (fun x y hh=>by
  obtain⟨a,e,ha⟩:=op24 (k:=k+0) hh
  exact⟨a,mk_one (by kernel_rfl) e,ha⟩)
 exact⟨l,rfl,⟨hm,hl⟩⟩
theorem op26 {H:Type} {k:Nat} {ds:List D} {d:DataW H} (h:RelH Try.prog (k+4) 26 ds d):∃x:TList13,ds=(encTList13 x).cells∧kmm x:=by
 obtain⟨ps,rfl,h1⟩:=k1pj (L:=[(23,0),(24,1)]) (Try.underlying26) (by kernel_rfl) h
 obtain⟨_,_,_,_,g0,⟨_,_,_,_,g1,⟨rfl,rfl⟩,rfl,rfl⟩,rfl,rfl⟩:=h1
 obtain⟨a0,rfl,r0⟩:=op23 (k:=k+0) g0
 obtain⟨a1,rfl,r1⟩:=op24 (k:=k+1) g1
 exact⟨⟨a0,a1⟩,rfl,⟨r0,r1⟩⟩
theorem dt22:dataT Try.prog 1 22=true:=by kernel_rfl
theorem dt26:dataT Try.prog 4 26=true:=by kernel_rfl
theorem own:ownKnob Try.prog.godebug=none:=by kernel_rfl
theorem laid:laidOutB Try.prog=true:=by kernel_rfl
end Go.Proofs.Ytcilpmmlfpkdoaa
namespace Go.Md
open Go Go.Bv
theorem u64w (n:Int):IntKind.u64.wrap n=n%18446744073709551616:=IntKind.wrap_u64 n
theorem u8w (n:Int):IntKind.u8.wrap n=n%256:=IntKind.wrap_u8 n
theorem kvf (k:IntKind) (a b:Int):ishr k a b=a/((2^min b.toNat k.bits:Nat):Int):=by
 unfold ishr
 rw[show(2:Int)^min b.toNat k.bits=((2^min b.toNat k.bits:Nat):Int)from(Int.natCast_pow 2 _).symm,Int.fdiv_eq_ediv_of_nonneg _ (Int.natCast_nonneg _)]
theorem k1u5 (a b:Int):ishl .u64 a b=(a*((2^min b.toNat 64:Nat):Int))%18446744073709551616:=by
 unfold ishl
 rw[u64w,show(2:Int)^min b.toNat IntKind.u64.bits=((2^min b.toNat 64:Nat):Int)by rw[show IntKind.u64.bits=64 from rfl];exact(Int.natCast_pow 2 _).symm]
theorem k12q (n:Nat) (h:n<18446744073709551616):(BitVec.ofInt 64 (n:Int)).toNat=n:=by
 rw[BitVec.toNat_ofInt]
 omega
theorem k1f8 (a b:Nat) (ha:a<18446744073709551616) (hb:b<18446744073709551616):iand .u64 a b=((a&&&b:Nat):Int):=by
 unfold iand
 rw[u64w]
 show(((BitVec.ofInt 64 a&&&BitVec.ofInt 64 b).toNat:Nat):Int)%_=_
 rw[BitVec.toNat_and,k12q a ha,k12q b hb]
 have:=Nat.and_le_left (n:=a) (m:=b)
 omega
theorem ior_nat (a b:Nat) (ha:a<18446744073709551616) (hb:b<18446744073709551616):ior .u64 a b=((a|||b:Nat):Int):=by
 unfold ior
 rw[u64w]
 show(((BitVec.ofInt 64 a|||BitVec.ofInt 64 b).toNat:Nat):Int)%_=_
 rw[BitVec.toNat_or,k12q a ha,k12q b hb]
 have:=Nat.or_lt_two_pow (x:=a) (y:=b) (n:=64) (by omega) (by omega)
 omega
theorem kqb (a:Int) (h:0≤a∧a<18446744073709551616):iand .u64 a 4294967295=a%4294967296:=by
 obtain⟨n,rfl⟩:=Int.eq_ofNat_of_zero_le h.1
 have:=k1f8 n 4294967295 (by omega) (by omega)
 rw[show((4294967295:Nat):Int)=4294967295 from rfl]at this
 rw[this,show(4294967295:Nat)=2^32-1 from rfl,Nat.and_two_pow_sub_one_eq_mod]
 exact Int.natCast_emod _ _
theorem k1t2 (a:Int) (h:0≤a∧a<18446744073709551616):iand .u64 a 1=a%2:=by
 obtain⟨n,rfl⟩:=Int.eq_ofNat_of_zero_le h.1
 have:=k1f8 n 1 (by omega) (by omega)
 rw[show((1:Nat):Int)=1 from rfl]at this
 rw[this,Nat.and_one_is_mod]
 exact Int.natCast_emod _ _
theorem ior_add' (a c:Nat) (k:Nat) (ha:a<2^k) (h:a+2^k*c<18446744073709551616):ior .u64 ((2^k*c:Nat):Int) a=((a+2^k*c:Nat):Int):=by
 rw[ior_nat _ _ (by omega) (by omega),←Nat.two_pow_add_eq_or_of_lt ha,Nat.add_comm]
theorem ishr32 (a:Int):ishr .u64 a 32=a/4294967296:=kvf _ _ _
theorem ishr16 (a:Int):ishr .u64 a 16=a/65536:=kvf _ _ _
theorem ishr8 (a:Int):ishr .u64 a 8=a/256:=kvf _ _ _
theorem ishr1 (a:Int):ishr .u64 a 1=a/2:=kvf _ _ _
theorem k1tz (a b:Int) (ha:0≤a∧a<18446744073709551616) (hb:0≤b∧b<18446744073709551616):
  ((a/4294967296*(b/4294967296)+((a/4294967296*(b%4294967296)+a%4294967296*(b%4294967296)/4294967296)/4294967296))+((a/4294967296*(b%4294967296)+a%4294967296*(b%4294967296)/4294967296)%4294967296+a%4294967296*(b/4294967296))/4294967296)=a*b/18446744073709551616∧
  a%4294967296*(b%4294967296)<18446744073709551616∧a/4294967296*(b%4294967296)+a%4294967296*(b%4294967296)/4294967296<18446744073709551616∧
  a%4294967296*(b/4294967296)<18446744073709551616-4294967296∧a/4294967296*(b/4294967296)<18446744065119617026∧0≤a%4294967296*(b%4294967296)∧0≤a/4294967296*(b%4294967296)∧0≤a%4294967296*(b/4294967296)∧0≤a/4294967296*(b/4294967296):=by
 have h1:∀x y:Int,0≤x→x≤4294967295→0≤y→y≤4294967295→0≤x*y∧x*y≤18446744065119617025:=by
  intro x y h0 h1 h2 h3
  exact⟨Int.mul_nonneg h0 h2,by have:=Int.mul_le_mul h1 h3 h2 (by omega);omega⟩
 have a1:=h1 (a%4294967296) (b%4294967296) (by omega) (by omega) (by omega) (by omega)
 have a2:=h1 (a/4294967296) (b%4294967296) (by omega) (by omega) (by omega) (by omega)
 have a3:=h1 (a%4294967296) (b/4294967296) (by omega) (by omega) (by omega) (by omega)
 have a4:=h1 (a/4294967296) (b/4294967296) (by omega) (by omega) (by omega) (by omega)
 have e:a*b=a/4294967296*(b/4294967296)*18446744073709551616+(a/4294967296*(b%4294967296)+a%4294967296*(b/4294967296))*4294967296+a%4294967296*(b%4294967296):=by
  have ea:a=a/4294967296*4294967296+a%4294967296:=by omega
  have eb:b=b/4294967296*4294967296+b%4294967296:=by omega
  conv=>lhs;rw[ea,eb]
  generalize a/4294967296=x
  generalize a%4294967296=y
  generalize b/4294967296=z
  generalize b%4294967296=t
  grind
 generalize a%4294967296*(b%4294967296)=p0 at *
 generalize a/4294967296*(b%4294967296)=p1 at *
 generalize a%4294967296*(b/4294967296)=p2 at *
 generalize a/4294967296*(b/4294967296)=p3 at *
 generalize a*b=ab at *
 refine⟨?_,?_,?_,?_,?_,?_,?_,?_,?_⟩<;>omega
structure Half (U x a b Q:Int):Prop where
 hU:0≤U
 hUv:U<a*4294967296+b
 hx:0≤x∧x<4294967296
 ha:2147483648≤a∧a<4294967296
 hb:0≤b∧b<4294967296
 hQ:Q=(U*4294967296+x)/(a*4294967296+b)
theorem Half.q {U x a b Q:Int} (h:Half U x a b Q):0≤Q∧Q<4294967296∧Q*(a*4294967296+b)≤U*4294967296+x∧U*4294967296+x<(Q+1)*(a*4294967296+b):=by
 obtain⟨h1,h2,h3,h4,h5,h6⟩:=h
 have hv:0<a*4294967296+b:=by omega
 have e:=Int.emod_add_mul_ediv (U*4294967296+x) (a*4294967296+b)
 have l:=Int.emod_nonneg (U*4294967296+x) (by omega:a*4294967296+b≠0)
 have r:=Int.emod_lt_of_pos (U*4294967296+x) hv
 rw[←h6]at e
 generalize hvv:a*4294967296+b=v at *
 have e2:(Q+1)*v=Q*v+v:=by grind
 have e3:v*Q=Q*v:=by grind
 have q0:0≤Q:=by
  rw[h6]
  exact Int.ediv_nonneg (by omega) (by omega)
 have q1:Q<4294967296:=by
  rw[h6]
  exact Int.ediv_lt_of_lt_mul hv (by omega)
 refine⟨q0,q1,by omega,by omega⟩
theorem Half.exit {U x a b Q q r:Int} (h:Half U x a b Q) (e:q*a+r=U) (hq:Q≤q) (h2:q*b≤r*4294967296+x):q=Q:=by
 obtain⟨q0,q1,q2,q3⟩:=h.q
 have h4:=h.ha
 have:q*(a*4294967296+b)≤U*4294967296+x:=by
  have:q*(a*4294967296+b)=q*a*4294967296+q*b:=by grind
  rw[this]
  generalize q*a=qa at *
  omega
 have h5:q<Q+1:=by
  have hv:0<a*4294967296+b:=by have:=h.hb;omega
  exact Int.lt_of_mul_lt_mul_right (by omega) (Int.le_of_lt hv)
 omega
theorem Half.down {U x a b Q q r:Int} (h:Half U x a b Q) (e:q*a+r=U) (h2:4294967296≤q∨r*4294967296+x<q*b):Q≤q-1:=by
 obtain⟨q0,q1,q2,q3⟩:=h.q
 rcases h2 with h2|h2
 ·omega
 ·have:U*4294967296+x<q*(a*4294967296+b):=by
   have:q*(a*4294967296+b)=q*a*4294967296+q*b:=by grind
   rw[this]
   generalize q*a=qa at *
   omega
  have h5:Q<q:=by
   have hv:0<a*4294967296+b:=by have:=h.hb;have:=h.ha;omega
   exact Int.lt_of_mul_lt_mul_right (a:=a*4294967296+b) (by omega) (Int.le_of_lt hv)
  omega
theorem Half.small {U x a b Q q r:Int} (h:Half U x a b Q) (e:q*a+r=U) (hr:4294967296≤r):q<4294967296:=by
 have h2:=h.hUv
 have h4:=h.ha
 have h5:=h.hb
 have:q*a<4294967296*a:=by generalize q*a=qa at *;omega
 exact Int.lt_of_mul_lt_mul_right this (by omega)
theorem Half.done {U x a b Q q r:Int} (h:Half U x a b Q) (e:q*a+r=U) (hq:Q≤q) (hr:4294967296≤r):q=Q:=by
 refine h.exit e hq ?_
 have h1:=h.small e hr
 obtain⟨q0,_⟩:=h.q
 have h5:=h.hb
 have h6:=h.hx
 have:q*b≤4294967296*4294967296:=Int.mul_le_mul (by omega) (by omega) (by omega) (by omega)
 omega
theorem Half.rest {U x a b Q:Int} (h:Half U x a b Q):(U*4294967296+x)-Q*(a*4294967296+b)=(U*4294967296+x)%(a*4294967296+b)∧0≤(U*4294967296+x)%(a*4294967296+b)∧(U*4294967296+x)%(a*4294967296+b)<a*4294967296+b:=by
 have hv:0<a*4294967296+b:=by have:=h.hb;have:=h.ha;omega
 have e:=Int.emod_add_mul_ediv (U*4294967296+x) (a*4294967296+b)
 rw[←h.hQ]at e
 have:=Int.mul_comm (a*4294967296+b) Q
 exact⟨by omega,Int.emod_nonneg _ (by omega),Int.emod_lt_of_pos _ hv⟩
theorem k1r2 {N y p U un1 un0 Q1 R1 Q0 R0:Int} (hp:0<p) (hy:0<y) (hN:N*p=U*18446744073709551616+un1*4294967296+un0) (h1:U*4294967296+un1-Q1*(y*p)=R1) (h0:R1*4294967296+un0-Q0*(y*p)=R0)
  (hr:0≤R0∧R0<y*p):Q1*4294967296+Q0=N/y∧R0/p=N%y:=by
 have e:N*p=(Q1*4294967296+Q0)*(y*p)+R0:=by
  rw[hN]
  have:(Q1*4294967296+Q0)*(y*p)=Q1*(y*p)*4294967296+Q0*(y*p):=by grind
  rw[this]
  generalize Q1*(y*p)=a at *
  generalize Q0*(y*p)=b at *
  omega
 have e2:R0=(N-(Q1*4294967296+Q0)*y)*p:=by grind
 have h3:0≤N-(Q1*4294967296+Q0)*y:=by
  rcases Int.lt_or_le (N-(Q1*4294967296+Q0)*y) 0 with h|h
  ·exfalso
   have:(N-(Q1*4294967296+Q0)*y)*p<0:=Int.mul_neg_of_neg_of_pos h hp
   omega
  ·exact h
 have h4:N-(Q1*4294967296+Q0)*y<y:=by
  refine Int.lt_of_mul_lt_mul_right (a:=p) ?_ (Int.le_of_lt hp)
  omega
 have e3:N=(N-(Q1*4294967296+Q0)*y)+y*(Q1*4294967296+Q0):=by grind
 constructor
 ·conv=>rhs;rw[e3]
  rw[Int.add_mul_ediv_left _ _ (by omega),Int.ediv_eq_zero_of_lt h3 h4]
  omega
 ·rw[e2,Int.mul_ediv_cancel _ (by omega)]
  conv=>rhs;rw[e3]
  rw[Int.add_mul_emod_self_left,Int.emod_eq_of_lt h3 h4]
end Go.Md
namespace Go.Md
open Go Go.Bv
theorem ix_nat {α:Type} [Inhabited α] (l:List α) (i:Int) (h0:0≤i) (h1:i<(l.length:Int)):ix l i=l[i.toNat]'(by omega):=by
 have:i.toNat<l.length:=by omega
 simp[ix,this]
theorem ix_mem {α:Type} [Inhabited α] (l:List α) (i:Int) (h0:0≤i) (h1:i<(l.length:Int)):ix l i∈l:=by
 rw[ix_nat l i h0 h1];exact List.getElem_mem _
theorem inc (i n:Int) (h0:0≤i) (h:i<n) (hn:n≤9223372036854775807):IntKind.i64.wrap (i+1)=i+1:=k1pa _ (by omega) (by omega)
theorem wi (n:Int) (h0: -9223372036854775808≤n) (h:n≤9223372036854775807):IntKind.i64.wrap n=n:=k1pa n h0 (by omega)
theorem wu (n:Int) (h0:0≤n) (h:n≤18446744073709551615):IntKind.u64.wrap n=n:=wrap_u64 n h0 (by omega)
theorem tdiv_nn (a b:Int) (h:0≤a):Int.tdiv a b=a/b:=Int.tdiv_eq_ediv_of_nonneg h
theorem tmod_nn (a b:Int) (h:0≤a):Int.tmod a b=a%b:=Int.tmod_eq_emod_of_nonneg h
theorem kca {α:Type} [Inhabited α] (l:List α) (i:Int) (h0:0≤i) (h1:i<(l.length:Int)):l.take (i+1).toNat=l.take i.toNat++[ix l i]:=by
 rw[ix_nat l i h0 h1,show(i+1).toNat=i.toNat+1 by omega,List.take_succ_eq_append_getElem (by omega)]
theorem drop_ix {α:Type} [Inhabited α] (l:List α) (i:Int) (h0:0≤i) (h1:i<(l.length:Int)):l.drop i.toNat=ix l i::l.drop (i+1).toNat:=by
 rw[ix_nat l i h0 h1,show(i+1).toNat=i.toNat+1 by omega]
 exact List.drop_eq_getElem_cons (by omega)
theorem k16x (a m:Int):∀k:Nat,(a%m)^k%m=a^k%m
 |0=>by simp
 |k+1=>by rw[Int.pow_succ,Int.pow_succ,Int.mul_emod,k16x a m k,Int.emod_emod_of_dvd _ (Int.dvd_refl _),←Int.mul_emod]
abbrev U64 (n:Int):Prop:=0≤n∧n<18446744073709551616
abbrev By (l:List Int):Prop:=∀x∈l,0≤x∧x<256
abbrev Us (l:List Int):Prop:=∀x∈l,0≤x∧x<18446744073709551616
def dig:Nat→Int→List Int
 |0,_=>[]
 |k+1,n=>n%256::dig k (n/256)
def val:List Int→Int
 |[]=>0
 |x::r=>x+256*val r
@[simp] theorem kt4:∀(k:Nat) (n:Int),(dig k n).length=k
 |0,_=>rfl
 |k+1,n=>by simp[dig,kt4 k]
theorem k1dn (k:Nat):(256:Int)^(k+1)=256*256^k:=by rw[Int.pow_succ,Int.mul_comm]
theorem k1rh (k:Nat):(0:Int)<256^k:=Int.pow_pos (by omega)
theorem k1ne:∀(k:Nat) (n:Int),dig (k+1) n=dig k n++[n/256^k%256]
 |0,n=>by simp[dig]
 |k+1,n=>by
  show n%256::dig (k+1) (n/256)=n%256::dig k (n/256)++_
  rw[k1ne k (n/256),k1dn,Int.ediv_ediv_of_nonneg (by omega)]
  rfl
theorem dig_by:∀(k:Nat) (n:Int),By (dig k n)
 |0,_=>by intro x hx;cases hx
 |k+1,n=>by
  intro x hx
  rcases List.mem_cons.1 hx with rfl|hx
  ·omega
  ·exact dig_by k _ x hx
theorem val_dig:∀(k:Nat) (n:Int),0≤n→n<256^k→val (dig k n)=n
 |0,n,h0,h=>by simp at h;simp[dig,val];omega
 |k+1,n,h0,h=>by
  rw[k1dn]at h
  simp only[dig,val]
  rw[val_dig k (n/256) (by omega) (Int.ediv_lt_of_lt_mul (by omega) (by rw[Int.mul_comm];exact h))]
  omega
theorem dig_inj {k:Nat} {a b:Int} (ha:0≤a∧a<256^k) (hb:0≤b∧b<256^k) (h:dig k a=dig k b):a=b:=by
 rw[←val_dig k a ha.1 ha.2,h,val_dig k b hb.1 hb.2]
def len4 (n:Int):Int:=if n<0∨4294967295<n then 0 else n
def encL (l:List Int):List Int:=dig 4 (len4 l.length)++l.flatMap (dig 8)
def encB (l:List Int):List Int:=dig 4 (len4 l.length)++l
theorem k1aa (l:List Int):(l.flatMap (dig 8)).length=8*l.length:=by
 induction l with
 |nil=>rfl
 |cons x r ih=>rw[List.flatMap_cons,List.length_append,ih,kt4,List.length_cons];omega
@[simp] theorem k1uf (l:List Int):(encL l).length=4+8*l.length:=by rw[encL,List.length_append,k1aa,kt4]
@[simp] theorem k1ue (l:List Int):(encB l).length=4+l.length:=by simp[encB]
theorem By.append {a b:List Int} (ha:By a) (hb:By b):By (a++b):=fun x hx=>(List.mem_append.1 hx).elim (ha x) (hb x)
theorem k16y (l:List Int):By (l.flatMap (dig 8)):=fun x hx=>by
 obtain⟨y,_,hy⟩:=List.mem_flatMap.1 hx
 exact dig_by 8 y x hy
theorem By.take {l:List Int} (h:By l) (n:Nat):By (l.take n):=fun x hx=>h x (List.mem_of_mem_take hx)
theorem By.drop {l:List Int} (h:By l) (n:Nat):By (l.drop n):=fun x hx=>h x (List.mem_of_mem_drop hx)
theorem By.us {l:List Int} (h:By l):Us l:=fun x hx=>by have:=h x hx;omega
theorem ba_loop (b:ByteArray):∀(k i:Nat) (r:List UInt8),b.size-i=k→i≤b.size→ByteArray.toList.loop b i r=r.reverse++b.data.toList.drop i
 |0,i,r,h,hi=>by
  unfold ByteArray.toList.loop
  have hs:b.data.toList.length=b.size:=by rw[Array.length_toList];rfl
  rw[if_neg (by omega),List.drop_eq_nil_of_le (by omega),List.append_nil]
 |k+1,i,r,h,hi=>by
  unfold ByteArray.toList.loop
  have hs:b.data.toList.length=b.size:=by rw[Array.length_toList];rfl
  rw[if_pos (by omega),ba_loop b k (i+1) _ (by omega) (by omega),List.reverse_cons,List.append_assoc,List.drop_eq_getElem_cons (l:=b.data.toList) (i:=i) (by omega)]
  have e:b.get! i=b.data.toList[i]'(by omega):=by
   show b.data[i]! =_
   rw[getElem!_pos b.data i (show i<b.size by omega)]
   exact(Array.getElem_toList _).symm
  rw[e];rfl
theorem k1kx (b:ByteArray):b.toList=b.data.toList:=by
 have:=ba_loop b _ 0 [] rfl (by omega)
 simpa[ByteArray.toList]using this
theorem k1ld:∀{l m:List Int},By l→By m→(l.map fun n=>UInt8.ofNat n.toNat)=(m.map fun n=>UInt8.ofNat n.toNat)→l=m
 |[],[],_,_,_=>rfl
 |[],_::_,_,_,h=>by cases h
 |_::_,[],_,_,h=>by cases h
 |x::l,y::m,hl,hm,h=>by
  rw[List.map_cons,List.map_cons,List.cons.injEq]at h
  have e:=k1ld (fun z hz=>hl z (by simp[hz])) (fun z hz=>hm z (by simp[hz])) h.2
  have h1:=hl x (by simp)
  have h2:=hm y (by simp)
  have h3:=congrArg UInt8.toNat h.1
  simp only[UInt8.toNat_ofNat']at h3
  rw[e,show x=y by omega]
theorem strEq {l m:List Int} (hl:By l) (hm:By m):((strOfNums l).toList==(strOfNums m).toList)=decide (l=m):=by
 rw[k1kx,k1kx,strOfNums_data,strOfNums_data]
 by_cases e:l=m
 ·subst e;simp
 ·rw[decide_eq_false e]
  rw[beq_eq_false_iff_ne]
  exact fun h=>e (k1ld hl hm h)
end Go.Md
namespace Go.Md
open Go Go.Bv
def len64 (x:Int):Int:=if x=0 then 0 else(Nat.log2 x.toNat+1:Nat)
theorem k14j (x:Int) (k:Nat) (h:((2^k:Nat):Int)≤x):len64 (x/((2^k:Nat):Int))+k=len64 x:=by
 obtain⟨n,rfl⟩:=Int.eq_ofNat_of_zero_le (by have:=Nat.two_pow_pos k;omega:0≤x)
 have hp:0<2^k:=Nat.two_pow_pos k
 have hn:2^k≤n:=by omega
 have e:((n:Int)/((2^k:Nat):Int))=((n/2^k:Nat):Int):=(Int.natCast_ediv _ _).symm
 have h1:0<n/2^k:=Nat.div_pos hn hp
 unfold len64
 rw[e,if_neg (by omega),if_neg (by omega),Int.toNat_natCast,Int.toNat_natCast]
 have:Nat.log2 n=Nat.log2 (n/2^k)+k:=by
  rw[Nat.log2_eq_iff (by omega)]
  have a:=Nat.log2_self_le (n:=n/2^k) (by omega)
  have b:=Nat.lt_log2_self (n:=n/2^k)
  rw[Nat.le_div_iff_mul_le hp]at a
  rw[Nat.div_lt_iff_lt_mul hp]at b
  constructor
  ·rw[Nat.pow_add];exact a
  ·rw[show Nat.log2 (n/2^k)+k+1=Nat.log2 (n/2^k)+1+k by omega,Nat.pow_add];exact b
 omega
theorem k1gk (y:Int) (h:0<y∧y<18446744073709551616):∃s:Nat,64-len64 y=(s:Int)∧s≤63∧9223372036854775808≤y*((2^s:Nat):Int)∧y*((2^s:Nat):Int)<18446744073709551616:=by
 obtain⟨n,rfl⟩:=Int.eq_ofNat_of_zero_le (by omega:0≤y)
 have l:Nat.log2 n<64:=(Nat.log2_lt (by omega)).2 (by omega)
 have a:=Nat.log2_self_le (n:=n) (by omega)
 have b:=Nat.lt_log2_self (n:=n)
 refine⟨63-Nat.log2 n,?_,by omega,?_,?_⟩
 ·unfold len64
  rw[if_neg (by omega),Int.toNat_natCast]
  omega
 ·have:2^63≤n*2^(63-Nat.log2 n):=by
   rw[show(63:Nat)=Nat.log2 n+(63-Nat.log2 n)by omega,Nat.pow_add,show Nat.log2 n+(63-Nat.log2 n)-Nat.log2 n=63-Nat.log2 n by omega]
   exact Nat.mul_le_mul_right _ a
  rw[←Int.natCast_mul]
  generalize n*2^(63-Nat.log2 n)=m at *
  omega
 ·have:n*2^(63-Nat.log2 n)<2^64:=by
   rw[show(64:Nat)=Nat.log2 n+1+(63-Nat.log2 n)by omega,Nat.pow_add]
   exact Nat.mul_lt_mul_of_pos_right b (Nat.two_pow_pos _)
  rw[←Int.natCast_mul]
  generalize n*2^(63-Nat.log2 n)=m at *
  omega
def tab8:ByteArray:=⟨#[0,1,2,2,3,3,3,3,4,4,4,4,4,4,4,4,5,5,5,5,5,5,5,5,5,5,5,5,5,5,5,5,6,6,6,6,6,6,6,6,6,6,6,6,6,6,6,6,6,6,6,6,6,6,6,6,6,6,6,6,6,6,6,6,7,7,7,7,7,7,7,7,7,7,7,7,7,7,7,7,7,7,7,7,7,7,7,7,7,7,7,7,7,7,7,7,7,7,7,7,7,7,7,7,7,7,7,7,7,7,7,7,7,7,7,7,7,7,7,7,7,7,7,7,7,7,7,7,8,8,8,8,8,8,8,8,8,8,8,8,8,8,8,8,8,8,8,8,8,8,8,8,8,8,8,8,8,8,8,8,8,8,8,8,8,8,8,8,8,8,8,8,8,8,8,8,8,8,8,8,8,8,8,8,8,8,8,8,8,8,8,8,8,8,8,8,8,8,8,8,8,8,8,8,8,8,8,8,8,8,8,8,8,8,8,8,8,8,8,8,8,8,8,8,8,8,8,8,8,8,8,8,8,8,8,8,8,8,8,8,8,8,8,8,8,8,8,8,8,8,8,8,8,8,8,8]⟩
theorem k1t0:∀b:Nat,b<256→Cv.byteAt tab8 (b:Int)=len64 (b:Int):=by decide +kernel
theorem k1oi (x:Int) (h:0≤x∧x<256):Cv.byteAt tab8 x=len64 x:=by
 obtain⟨n,rfl⟩:=Int.eq_ofNat_of_zero_le h.1
 exact k1t0 n (by omega)
theorem k1q6 (x:Int) (h:0≤x∧x<256):0≤len64 x∧len64 x≤8:=by
 rw[←k1oi x h]
 obtain⟨n,rfl⟩:=Int.eq_ofNat_of_zero_le h.1
 have:∀b:Nat,b<256→0≤Cv.byteAt tab8 (b:Int)∧Cv.byteAt tab8 (b:Int)≤8:=by decide +kernel
 exact this n (by omega)
theorem k1sp:tab8.size=256:=by decide +kernel
end Go.Md
namespace Go.Md
open Go Go.Bv Go.Cv Go.Md Go.RowKit
section
variable {α β:Type}
def AllI (f:α→Bool) (l:List α) (i:Int):Prop:=0≤i∧i≤l.length∧∀x∈l.take i.toNat,f x=true
theorem AllI.start {f:α→Bool} {l:List α}:AllI f l 0:=⟨by omega,by omega,by simp⟩
theorem AllI.next [Inhabited α] {f:α→Bool} {l:List α} {i:Int} (h:AllI f l i) (hh:i<l.length) (hl:(l.length:Int)≤9223372036854775807) (hf:f (ix l i)=true):
  AllI f l (IntKind.i64.wrap (i+1))∧(l.length-IntKind.i64.wrap (i+1)).toNat<(l.length-i).toNat:=by
 obtain⟨g0,g1,g2⟩:=h
 rw[inc i l.length g0 hh hl]
 refine⟨⟨by omega,by omega,?_⟩,by omega⟩
 rw[kca l i g0 hh]
 intro x hx
 rcases List.mem_append.1 hx with hx|hx
 ·exact g2 x hx
 ·have:x=ix l i:=by simpa using hx
  rw[this];exact hf
theorem AllI.bad [Inhabited α] {f:α→Bool} {l:List α} {i:Int} (h:AllI f l i) (hh:i<l.length) (hf:f (ix l i)=false):l.all f=false:=
 List.all_eq_false.2 ⟨ix l i,Md.ix_mem l i h.1 hh,by simp[hf]⟩
theorem AllI.done {f:α→Bool} {l:List α} {i:Int} (h:AllI f l i) (hh:¬i<l.length):l.all f=true:=by
 obtain⟨g0,g1,g2⟩:=h
 rw[List.take_of_length_le (by omega)]at g2
 exact List.all_eq_true.2 g2
def FoldI (f:β→α→β) (z:β) (l:List α) (i:Int) (s:β):Prop:=0≤i∧i≤l.length∧s=(l.take i.toNat).foldl f z
theorem FoldI.start {f:β→α→β} {z:β} {l:List α}:FoldI f z l 0 z:=⟨by omega,by omega,by simp⟩
theorem FoldI.next [Inhabited α] {f:β→α→β} {z:β} {l:List α} {i:Int} {s s' :β} (h:FoldI f z l i s) (hh:i<l.length) (hl:(l.length:Int)≤9223372036854775807) (hs:s' =f s (ix l i)):
  FoldI f z l (IntKind.i64.wrap (i+1)) s'∧(l.length-IntKind.i64.wrap (i+1)).toNat<(l.length-i).toNat:=by
 obtain⟨g0,g1,g2⟩:=h
 rw[inc i l.length g0 hh hl]
 refine⟨⟨by omega,by omega,?_⟩,by omega⟩
 rw[kca l i g0 hh,List.foldl_append,←g2,hs]
 rfl
theorem FoldI.done {f:β→α→β} {z:β} {l:List α} {i:Int} {s:β} (h:FoldI f z l i s) (hh:¬i<l.length):s=l.foldl f z:=by
 obtain⟨g0,g1,g2⟩:=h
 rwa [List.take_of_length_le (by omega)]at g2
def FlatI (f:α→List β) (z:List β) (l:List α) (i:Int) (s:List β):Prop:=0≤i∧i≤l.length∧s=z++(l.take i.toNat).flatMap f
theorem FlatI.start {f:α→List β} {z:List β} {l:List α}:FlatI f z l 0 z:=⟨by omega,by omega,by simp⟩
theorem FlatI.next [Inhabited α] {f:α→List β} {z:List β} {l:List α} {i:Int} {s s' :List β} (h:FlatI f z l i s) (hh:i<l.length) (hl:(l.length:Int)≤9223372036854775807) (hs:s' =s++f (ix l i)):
  FlatI f z l (IntKind.i64.wrap (i+1)) s'∧(l.length-IntKind.i64.wrap (i+1)).toNat<(l.length-i).toNat:=by
 obtain⟨g0,g1,g2⟩:=h
 rw[inc i l.length g0 hh hl]
 refine⟨⟨by omega,by omega,?_⟩,by omega⟩
 rw[kca l i g0 hh,List.flatMap_append,hs,g2]
 simp
theorem FlatI.done {f:α→List β} {z:List β} {l:List α} {i:Int} {s:List β} (h:FlatI f z l i s) (hh:¬i<l.length):s=z++l.flatMap f:=by
 obtain⟨g0,g1,g2⟩:=h
 rwa [List.take_of_length_le (by omega)]at g2
theorem FlatI.len {f:α→List β} {z:List β} {l:List α} {i:Int} {s:List β} (h:FlatI f z l i s) (k:Nat) (hk:∀x∈l,(f x).length≤k):s.length≤z.length+k*l.length:=by
 obtain⟨g0,g1,g2⟩:=h
 have key:∀(m:List α),(∀x∈m,(f x).length≤k)→(m.flatMap f).length≤k*m.length:=by
  intro m
  induction m with
  |nil=>simp
  |cons a m ih=>
   intro hm
   have h1:=ih (fun x hx=>hm x (by simp[hx]))
   have h2:=hm a (by simp)
   rw[List.flatMap_cons,List.length_append,List.length_cons,Nat.mul_add]
   omega
 have h1:=key (l.take i.toNat) (fun x hx=>hk x (List.mem_of_mem_take hx))
 have h2:k*(l.take i.toNat).length≤k*l.length:=Nat.mul_le_mul_left _ (by rw[List.length_take];omega)
 rw[g2,List.length_append]
 omega
def MapI (f:α→β) (l:List α) (i:Int) (s:List β):Prop:=0≤i∧i≤l.length∧s=(l.take i.toNat).map f
theorem MapI.start {f:α→β} {l:List α}:MapI f l 0 []:=⟨by omega,by omega,by simp⟩
theorem MapI.next [Inhabited α] {f:α→β} {l:List α} {i:Int} {s s' :List β} (h:MapI f l i s) (hh:i<l.length) (hl:(l.length:Int)≤9223372036854775807) (hs:s' =s++[f (ix l i)]):
  MapI f l (IntKind.i64.wrap (i+1)) s'∧(l.length-IntKind.i64.wrap (i+1)).toNat<(l.length-i).toNat:=by
 obtain⟨g0,g1,g2⟩:=h
 rw[inc i l.length g0 hh hl]
 refine⟨⟨by omega,by omega,?_⟩,by omega⟩
 rw[kca l i g0 hh,List.map_append,hs,g2]
 simp
theorem MapI.done {f:α→β} {l:List α} {i:Int} {s:List β} (h:MapI f l i s) (hh:¬i<l.length):s=l.map f:=by
 obtain⟨g0,g1,g2⟩:=h
 rwa [List.take_of_length_le (by omega)]at g2
theorem MapI.len {f:α→β} {l:List α} {i:Int} {s:List β} (h:MapI f l i s):s.length=i.toNat:=by
 obtain⟨g0,g1,g2⟩:=h
 rw[g2,List.length_map,List.length_take];omega
def EqI [Inhabited α] (f:α→α→Bool) (l m:List α) (i:Int):Prop:=0≤i∧i≤l.length∧∀j:Nat,(j:Int)<i→f (ix l j) (ix m j)=true
theorem EqI.start [Inhabited α] {f:α→α→Bool} {l m:List α}:EqI f l m 0:=⟨by omega,by omega,fun j hj=>by omega⟩
theorem EqI.next [Inhabited α] {f:α→α→Bool} {l m:List α} {i:Int} (h:EqI f l m i) (hh:i<l.length) (hl:(l.length:Int)≤9223372036854775807) (hf:f (ix l i) (ix m i)=true):
  EqI f l m (IntKind.i64.wrap (i+1))∧(l.length-IntKind.i64.wrap (i+1)).toNat<(l.length-i).toNat:=by
 obtain⟨g0,g1,g2⟩:=h
 rw[inc i l.length g0 hh hl]
 refine⟨⟨by omega,by omega,fun j hj=> ?_⟩,by omega⟩
 by_cases hji:(j:Int)=i
 ·rw[hji];exact hf
 ·exact g2 j (by omega)
def eqB (f:α→α→Bool):List α→List α→Bool
 |[],[]=>true
 |a::l,b::m=>f a b&&eqB f l m
 |_,_=>false
theorem eqB_iff [Inhabited α] {f:α→α→Bool}:∀{l m:List α},eqB f l m=true↔l.length=m.length∧∀j:Nat,j<l.length→f (ix l (j:Int)) (ix m (j:Int))=true
 |[],[]=>by simp[eqB]
 |[],_::_=>by simp[eqB]
 |_::_,[]=>by simp[eqB]
 |a::l,b::m=>by
  have e:∀(a:α) (l:List α) (j:Nat),j<l.length→ix (a::l) ((j+1:Nat):Int)=ix l (j:Int):=by
   intro a l j hj
   rw[ix_nat _ _ (by omega) (by simp;omega),ix_nat _ _ (by omega) (by omega)]
   rfl
  have e0:∀(a:α) (l:List α),ix (a::l) ((0:Nat):Int)=a:=fun a l=>by rw[ix_nat _ _ (by omega) (by simp)];rfl
  simp only[eqB,Bool.and_eq_true,eqB_iff,List.length_cons]
  constructor
  ·rintro ⟨h1,h2,h3⟩
   refine⟨by omega,fun j hj=> ?_⟩
   cases j with
   |zero=>rw[e0,e0];exact h1
   |succ j=>rw[e a l j (by omega),e b m j (by omega)];exact h3 j (by omega)
  ·rintro ⟨h1,h2⟩
   have h3:=h2 0 (by omega)
   rw[e0,e0]at h3
   refine⟨h3,by omega,fun j hj=> ?_⟩
   have:=h2 (j+1) (by omega)
   rwa [e a l j (by omega),e b m j (by omega)]at this
theorem EqI.bad [Inhabited α] {f:α→α→Bool} {l m:List α} {i:Int} (h:EqI f l m i) (hh:i<l.length) (hf:f (ix l i) (ix m i)=false):eqB f l m=false:=by
 cases hq:eqB f l m with
 |false=>rfl
 |true=>
  have h0:=h.1
  have:=(eqB_iff.1 hq).2 i.toNat (by omega)
  rw[Int.toNat_of_nonneg h.1,hf]at this
  cases this
theorem EqI.done [Inhabited α] {f:α→α→Bool} {l m:List α} {i:Int} (h:EqI f l m i) (hlm:l.length=m.length) (hh:¬i<l.length):eqB f l m=true:=
 eqB_iff.2 ⟨hlm,fun j hj=>h.2.2 j (by omega)⟩
end
theorem k1ks {α:Type} {p:α→Bool}:∀{l:List α},mIdx p l=none↔∀x∈l,p x=false
 |[]=>by simp[mIdx]
 |x::l=>by
  cases hp:p x with
  |true=>simp[mIdx,hp]
  |false=>simp only[mIdx,hp,cond_false,Option.map_eq_none_iff,k1ks,List.mem_cons,forall_eq_or_imp,true_and]
theorem k19v {α:Type} {p:α→Bool}:∀{l:List α} {j:Nat},mIdx p l=some j→∃x,l[j]? =some x∧p x=true
 |[],_,h=>by cases h
 |x::l,j,h=>by
  cases hp:p x with
  |true=>simp only[mIdx,hp,cond_true,Option.some.injEq]at h;subst h;exact⟨x,rfl,hp⟩
  |false=>
   simp only[mIdx,hp,cond_false,Option.map_eq_some_iff]at h
   obtain⟨i,h1,rfl⟩:=h
   obtain⟨y,h2,h3⟩:=k19v h1
   exact⟨y,by simpa using h2,h3⟩
@[simp] theorem k1ug {α:Type} (p:α→Bool):mHas p []=false:=rfl
@[simp] theorem k1uh {α β:Type} (p:α→Bool) (z:β) (vs:List β):mVal p [] vs z=z:=rfl
theorem k1u6 {α β:Type} {p:α→Bool} {ks:List α} {vs:List β} {z:β} (h:mHas p ks=true) (hl:ks.length=vs.length):mVal p ks vs z∈vs:=by
 unfold mHas at h
 unfold mVal
 cases hm:mIdx p ks with
 |none=>rw[hm]at h;cases h
 |some j=>
  obtain⟨x,h1,h2⟩:=k19v hm
  have hj:j<vs.length:=by have:=(List.getElem?_eq_some_iff.1 h1).1;omega
  simp only[List.getElem?_eq_getElem hj,Option.getD_some]
  exact List.getElem_mem hj
end Go.Md
namespace Go.Proofs.Ytcilpmmlfpkdoaa
open Go Go.Bv Go.Cv Go.Md Go.RowKit
def rc (r i:Int):Int:=(3*r+i+1)*11400714819323198485%18446744073709551616%18446744069414584321
def mixS (s:TA3):TA3:=⟨(s.a0+((s.a0+s.a1)%18446744069414584321+s.a2)%18446744069414584321)%18446744069414584321,(s.a1+((s.a0+s.a1)%18446744069414584321+s.a2)%18446744069414584321)%18446744069414584321,(s.a2+((s.a0+s.a1)%18446744069414584321+s.a2)%18446744069414584321)%18446744069414584321⟩
def pw (a e:Int):Int:=a^e.toNat%18446744069414584321
def rnd (s:TA3) (r:Int):TA3:=mixS ⟨pw ((s.a0+rc r 0)%18446744069414584321) 7,pw ((s.a1+rc r 1)%18446744069414584321) 7,pw ((s.a2+rc r 2)%18446744069414584321) 7⟩
def rnds:Nat→TA3→TA3
 |0,s=>s
 |n+1,s=>rnd (rnds n s) n
def permS (s:TA3):TA3:=rnds 8 s
def absL:List Int→TA3→TA3
 |[],s=>s
 |[x],s=>permS ⟨(s.a0+x)%18446744069414584321,s.a1,s.a2⟩
 |x::y::r,s=>absL r (permS ⟨(s.a0+x)%18446744069414584321,(s.a1+y)%18446744069414584321,s.a2⟩)
def absI (label:Int) (l:List Int):TA3:=⟨0,0,(label*65536%18446744069414584321+(l.length:Int))%18446744069414584321⟩
def absS (label:Int) (l:List Int):TA3:=if l=[]then permS (absI label l)else absL l (absI label l)
def hashS (label:Int) (l:List Int):Int:=(absS label l).a0
def S3 (s:TA3):Prop:=U64 s.a0∧U64 s.a1∧U64 s.a2
theorem S3m {a b c:Int} (ha:U64 a) (hb:U64 b) (hc:U64 c):S3 ⟨a,b,c⟩:=⟨ha,hb,hc⟩
theorem kbn (s:TA3):S3 (permS s):=by
 show S3 (rnd _ _)
 unfold rnd mixS S3
 dsimp only
 omega
theorem k1hn:∀(l:List Int) (s:TA3),S3 s→S3 (absL l s)
 |[],_,h=>h
 |[_],_,_=>kbn _
 |_::_::r,_,_=>k1hn r _ (kbn _)
theorem k1ls (label:Int) (l:List Int):U64 (hashS label l):=by
 unfold hashS absS
 split
 ·exact(kbn _).1
 ·rename_i h
  match l,h with
  |[_],_=>exact(kbn _).1
  |_::_::r,_=>exact(k1hn r _ (kbn _)).1
theorem k175 (s:TA3):(permS s).a0<18446744069414584321:=by
 show(rnd _ _).a0<_
 unfold rnd mixS
 dsimp only
 omega
theorem absL_lt:∀(l:List Int) (s:TA3),l≠[]→(absL l s).a0<18446744069414584321
 |[],_,h=>(h rfl).elim
 |[_],_,_=>k175 _
 |[_,_],_,_=>k175 _
 |_::_::x::r,s,_=>absL_lt (x::r) _ (by simp)
theorem k1od (label:Int) (l:List Int):hashS label l<18446744069414584321:=by
 unfold hashS absS
 split
 ·exact k175 _
 ·rename_i h;exact absL_lt _ _ h
structure RD where
 n:Int
 ok:Bool
 pos:Int
 fail:Bool
structure RL where
 l:List Int
 pos:Int
 fail:Bool
structure RdOk (b:List Int) (pos:Int):Prop where
 by_:By b
 len:b.length≤137438953472
 pos0:0≤pos
 pos1:pos≤b.length
def rdD (b:List Int) (pos:Int) (f:Bool) (size:Int):RD:=
 if f=true∨(b.length:Int)-pos<size then⟨0,false,pos,true⟩else⟨val ((b.drop pos.toNat).take size.toNat),true,pos+size,false⟩
def rdI (b:List Int) (pos:Int) (f:Bool) (m:Int):RD:=
 if(rdD b pos f 4).ok=false∨m<(rdD b pos f 4).n then⟨0,false,(rdD b pos f 4).pos,true⟩else rdD b pos f 4
def rdB (b:List Int) (pos:Int) (f:Bool) (m:Int):RL:=
 if(rdI b pos f m).fail=true∨(b.length:Int)-(rdI b pos f m).pos<(rdI b pos f m).n then⟨[],(rdI b pos f m).pos,true⟩else⟨(b.take ((rdI b pos f m).pos+(rdI b pos f m).n).toNat).drop (rdI b pos f m).pos.toNat,(rdI b pos f m).pos+(rdI b pos f m).n,false⟩
def nums:Nat→List Int→List Int
 |0,_=>[]
 |k+1,b=>val (b.take 8)::nums k (b.drop 8)
@[simp] theorem k1qi:∀(k:Nat) (b:List Int),(nums k b).length=k
 |0,_=>rfl
 |k+1,b=>by simp[nums,k1qi k]
section
variable {b:List Int} {pos m p:Int} {f:Bool}
end
structure RB where
 l:List Int
 b:List Int
 f:Bool
structure RN where
 n:Int
 b:List Int
 f:Bool
def tkB (b:List Int) (f:Bool) (k:Int):RB:=if f=true∨(b.length:Int)<k then⟨[],b,true⟩else⟨b.take k.toNat,b.drop k.toNat,false⟩
section
variable {b r:List Int} {f:Bool} {k m n:Int}
end
def allB (l:List Int):Bool:=l.all (fun x=>decide (x<18446744069414584321))
theorem k1t8 {l:List Int}:allB l=true↔∀x∈l,x<18446744069414584321:=by unfold allB;simp
def keyB (ns l:List Int):ByteArray:=strOfNums (ns.flatMap (dig 8)++l.flatMap (dig 8))
structure OrOk (ks:List ByteArray) (vs:List Int) (qs:List TQuestion):Prop where
 len:ks.length=vs.length
 rng:∀v∈vs,0≤v∧v<qs.length
structure OS where
 a:Bool
 b:Int
 c:Int
 q:List TQuestion
 k:List ByteArray
 v:List Int
 s:List ByteArray
 t:List (List Int)
 x:List ByteArray
 y:List Bool
structure HR where
 n:Int
 o:OS
theorem OS_eta (o:OS):OS.mk o.a o.b o.c o.q o.k o.v o.s o.t o.x o.y=o:=rfl
def mixN (v1:Int):Int:=
 let v2:Int:=IntKind.u64.wrap ((ixor .u64 v1 (ishr .u64 v1 30))*13787848793156543929)
 let v3:Int:=IntKind.u64.wrap ((ixor .u64 v2 (ishr .u64 v2 27))*10723151780598845931)
 Int.tmod (ixor .u64 v3 (ishr .u64 v3 31)) 18446744069414584321
def drO (o:OS):HR:=if o.a=true then⟨mixN (IntKind.u64.wrap (o.b+11400714819323198485)),⟨o.a,IntKind.u64.wrap (o.b+11400714819323198485),IntKind.i64.wrap (o.c+1),o.q,o.k,o.v,o.s,o.t,o.x,o.y⟩⟩else⟨0,o⟩
def recO (o:OS) (key:ByteArray) (label:Int) (l:List Int) (n:Int):OS:=⟨o.a,o.b,o.c,o.q++[⟨label,l,n⟩],mPutK (BEq.beq key) o.k key,mPutV (BEq.beq key) o.k o.v (o.q.length:Int),o.s,o.t,o.x,o.y⟩
def ansO (o:OS) (label:Int) (l:List Int):HR:=if o.a=true then drO o else⟨hashS label l,o⟩
def hO (o:OS) (label:Int) (l:List Int):HR:=
 if allB l=true then(if mHas (BEq.beq (keyB [label] l)) o.k=true then⟨(ix o.q (mVal (BEq.beq (keyB [label] l)) o.k o.v 0)).Answer,o⟩
  else⟨(ansO o label l).n,recO (ansO o label l).o (keyB [label] l) label l (ansO o label l).n⟩)else⟨0,o⟩
structure OOk (o:OS):Prop where
 or:OrOk o.k o.v o.q
 q:o.q.length≤1000000
 n:∀x∈o.q,0≤x.Answer∧x.Answer<18446744069414584321
 e:∀x∈o.q,x.Elems.length≤1000000000
def zO (ideal:Bool) (seed:Int):OS:=⟨ideal,seed,0,[],[],[],[],[],[],[]⟩
theorem ansO_q (o:OS) (label:Int) (l:List Int):(ansO o label l).o.q=o.q∧(ansO o label l).o.k=o.k∧(ansO o label l).o.v=o.v∧(ansO o label l).o.a=o.a:=by
 unfold ansO drO
 split
 ·exact⟨rfl,rfl,rfl,rfl⟩
 ·exact⟨rfl,rfl,rfl,rfl⟩
theorem k1n9 {α:Type} {p:α→Bool} {ks:List α} {k:α} (h:mHas p ks=false):mPutK p ks k=ks++[k]:=by
 unfold mPutK
 unfold mHas at h
 cases hi:mIdx p ks with
 |none=>rfl
 |some j=>rw[hi]at h;cases h
theorem k1og {α β:Type} {p:α→Bool} {ks:List α} {vs:List β} {v:β} (h:mHas p ks=false):mPutV p ks vs v=vs++[v]:=by
 unfold mPutV
 unfold mHas at h
 cases hi:mIdx p ks with
 |none=>rfl
 |some j=>rw[hi]at h;cases h
theorem k1uc (a b:Int):U64 (ixor .u64 a b):=by
 unfold ixor
 rw[IntKind.wrap_u64]
 omega
theorem mixN_lt (x:Int):0≤mixN x∧mixN x<18446744069414584321:=by
 unfold mixN
 dsimp only
 generalize hv:ixor .u64 _ _=v
 have:U64 v:=by rw[←hv];exact k1uc _ _
 rw[tmod_nn v _ this.1]
 omega
theorem ansO_n (o:OS) (label:Int) (l:List Int):0≤(ansO o label l).n∧(ansO o label l).n<18446744069414584321:=by
 unfold ansO drO
 split
 ·exact mixN_lt _
 ·exact⟨(k1ls _ _).1,k1od _ _⟩
theorem k1nx {o:OS} (h:OOk o) {p:ByteArray→Bool} (hm:mHas p o.k=true):0≤mVal p o.k o.v 0∧mVal p o.k o.v 0<o.q.length:=h.or.rng _ (k1u6 hm h.or.len)
theorem OOk.lt {o:OS} (h:OOk o) (label:Int) (l:List Int):0≤(hO o label l).n∧(hO o label l).n<18446744069414584321:=by
 unfold hO
 split
 ·split
  ·rename_i hm
   have:=k1nx h hm
   exact h.n _ (ix_mem _ _ this.1 this.2)
  ·exact ansO_n _ _ _
 ·exact⟨Int.le_refl 0,show(0:Int)<18446744069414584321 by decide⟩
theorem OOk.h {o:OS} (h:OOk o) (label:Int) {l:List Int} (hl:l.length≤1000000000) (hq:o.q.length≤999999):OOk (hO o label l).o∧o.q.length≤(hO o label l).o.q.length∧(hO o label l).o.q.length≤o.q.length+1:=by
 obtain⟨e1,e2,e3,_⟩:=ansO_q o label l
 unfold hO
 split
 ·split
  ·exact⟨h,Nat.le_refl _,Nat.le_succ _⟩
  ·rename_i hn
   have hn:mHas (BEq.beq (keyB [label] l)) o.k=false:=by simpa using hn
   simp only[recO,e1,e2,e3,k1n9 hn,k1og hn]
   refine⟨⟨⟨by simp[h.or.len],fun v hv=> ?_⟩,by simp;omega,fun x hx=> ?_,fun x hx=> ?_⟩,by simp,by simp⟩
   ·rcases List.mem_append.1 hv with hv|hv
    ·have:=h.or.rng v hv
     simp
     omega
    ·rw[List.mem_singleton.1 hv]
     simp
     omega
   ·rcases List.mem_append.1 hx with hx|hx
    ·exact h.n x hx
    ·rw[List.mem_singleton.1 hx]
     exact ansO_n _ _ _
   ·rcases List.mem_append.1 hx with hx|hx
    ·exact h.e x hx
    ·rw[List.mem_singleton.1 hx]
     exact hl
 ·exact⟨h,Nat.le_refl _,Nat.le_succ _⟩
theorem OOk.z (ideal:Bool) (seed:Int):OOk (zO ideal seed):=⟨⟨rfl,fun v hv=>by cases hv⟩,Nat.zero_le _,(fun x hx=>by cases hx),(fun x hx=>by cases hx)⟩
def SetI {α:Type} (f:Nat→α) (n:Nat) (i:Int) (g:List α):Prop:=0≤i∧i≤n∧g.length=n∧∀j:Nat,(j:Int)<i→g[j]? =some (f j)
theorem SetI.start {α:Type} {f:Nat→α} {n:Nat} {g:List α} (h:g.length=n):SetI f n 0 g:=⟨by omega,by omega,h,fun j hj=>by omega⟩
theorem SetI.next {α:Type} {f:Nat→α} {n:Nat} {i:Int} {g:List α} {x:α} (h:SetI f n i g) (hh:i<n) (hn:(n:Int)≤9223372036854775807) (hx:x=f i.toNat):SetI f n (IntKind.i64.wrap (i+1)) (g.set i.toNat x)∧(n-IntKind.i64.wrap (i+1)).toNat<(n-i).toNat:=by
 obtain⟨g0,g1,g2,g3⟩:=h
 rw[inc i n g0 hh hn]
 refine⟨⟨by omega,by omega,by rw[List.length_set];exact g2,fun j hj=> ?_⟩,by omega⟩
 rw[List.getElem?_set]
 by_cases e:i.toNat=j
 ·rw[if_pos e,if_pos (by omega),hx,e]
 ·rw[if_neg e]
  exact g3 j (by omega)
theorem SetI.done {α:Type} {f:Nat→α} {n:Nat} {i:Int} {g:List α} (h:SetI f n i g) (hh:¬i<n):g=(List.range n).map f:=by
 obtain⟨g0,g1,g2,g3⟩:=h
 refine List.ext_getElem? fun j=> ?_
 rw[List.getElem?_map]
 by_cases hj:j<n
 ·rw[g3 j (by omega),List.getElem?_range hj];rfl
 ·rw[List.getElem?_eq_none (by omega),List.getElem?_eq_none (by simp;omega)];rfl
def keyQ (x:TQuestion):ByteArray:=keyB [x.Label] x.Elems
structure QOk (x:TQuestion):Prop where
 l:U64 x.Label
 e:Us x.Elems
 b:allB x.Elems=true
structure RO (o:OS):Prop where
 k:o.k=o.q.map keyQ
 v:o.v=(List.range o.q.length).map fun(j:Nat)=>(j:Int)
 q:∀x∈o.q,QOk x
theorem RO.or {o:OS} (h:RO o):OrOk o.k o.v o.q:=⟨by rw[h.k,h.v];simp,fun v hv=>by
 rw[h.v]at hv
 obtain⟨j,hj,rfl⟩:=List.mem_map.1 hv
 have:=List.mem_range.1 hj
 omega⟩
theorem k1m4 {l m:List Int} (hl:By l) (hm:By m) (h:strOfNums l=strOfNums m):l=m:=by
 have:=strEq hl hm
 rw[h]at this
 simpa using this
theorem flat8_inj' :∀(l m:List Int),Us l→Us m→l.flatMap (dig 8)=m.flatMap (dig 8)→l=m
 |[],[],_,_,_=>rfl
 |[],y::m,_,_,e=>by have:=congrArg List.length e;rw[List.flatMap_cons,List.length_append,kt4,List.flatMap_nil,List.length_nil]at this;omega
 |x::l,[],_,_,e=>by have:=congrArg List.length e;rw[List.flatMap_cons,List.length_append,kt4,List.flatMap_nil,List.length_nil]at this;omega
 |x::l,y::m,hl,hm,e=>by
  rw[List.flatMap_cons,List.flatMap_cons]at e
  have e1:=List.append_inj e (by simp)
  have d1:=dig_inj (k:=8) (hl x (by simp)) (hm y (by simp)) e1.1
  rw[d1,flat8_inj' l m (fun z hz=>hl z (by simp[hz])) (fun z hz=>hm z (by simp[hz])) e1.2]
theorem ba_beq (a b:ByteArray):(a==b)=true↔a=b:=by
 constructor
 ·intro h
  have h:(a.data==b.data)=true:=h
  have:a.data=b.data:=by simpa using h
  cases a
  cases b
  simp_all
 ·rintro rfl
  show(a.data==a.data)=true
  simp
theorem k1th {a b:Int} {l m:List Int} (ha:U64 a) (hb:U64 b) (hl:Us l) (hm:Us m) (h:keyB [a] l=keyB [b] m):a=b∧l=m:=by
 unfold keyB at h
 have h:=k1m4 ((k16y _).append (k16y _)) ((k16y _).append (k16y _)) h
 rw[←List.flatMap_append,←List.flatMap_append]at h
 have:=flat8_inj' _ _ (fun x hx=>by
  rcases List.mem_append.1 hx with hx|hx
  ·rw[List.mem_singleton.1 hx];exact ha
  ·exact hl x hx) (fun x hx=>by
  rcases List.mem_append.1 hx with hx|hx
  ·rw[List.mem_singleton.1 hx];exact hb
  ·exact hm x hx) h
 simpa using this
theorem k1n6 {α β:Type} (p:β→Bool) (f:α→β):∀l:List α,mIdx p (l.map f)=mIdx (fun x=>p (f x)) l
 |[]=>rfl
 |x::l=>by simp only[List.map_cons,mIdx,k1n6 p f l]
theorem RO.find {o:OS} (h:RO o) {label:Int} {l:List Int} (hu:U64 label) (hl:Us l):
  (mHas (BEq.beq (keyB [label] l)) o.k=false∧∀x∈o.q,¬(x.Label=label∧x.Elems=l))∨
  (mHas (BEq.beq (keyB [label] l)) o.k=true∧∃x∈o.q,ix o.q (mVal (BEq.beq (keyB [label] l)) o.k o.v 0)=x∧x.Label=label∧x.Elems=l):=by
 have hp:∀x∈o.q,(BEq.beq (keyB [label] l) (keyQ x)=true↔(x.Label=label∧x.Elems=l)):=by
  intro x hx
  have hq:=h.q x hx
  constructor
  ·intro e
   have e:keyB [label] l=keyQ x:=(ba_beq _ _).1 e
   obtain⟨h1,h2⟩:=k1th hu hq.l hl hq.e e
   exact⟨h1.symm,h2.symm⟩
  ·rintro ⟨rfl,rfl⟩
   exact(ba_beq _ _).2 rfl
 have hm:mIdx (BEq.beq (keyB [label] l)) o.k=mIdx (fun x=>BEq.beq (keyB [label] l) (keyQ x)) o.q:=by rw[h.k,k1n6]
 cases hi:mIdx (fun x=>BEq.beq (keyB [label] l) (keyQ x)) o.q with
 |none=>
  refine .inl ⟨by unfold mHas;rw[hm,hi];rfl,fun x hx hxl=> ?_⟩
  have:=k1ks.1 hi x hx
  rw[(hp x hx).2 hxl]at this
  cases this
 |some j=>
  obtain⟨x,hx,hpx⟩:=k19v hi
  have hjl:j<o.q.length:=(List.getElem?_eq_some_iff.1 hx).1
  have hmem:=List.mem_of_getElem? hx
  refine .inr ⟨by unfold mHas;rw[hm,hi];rfl,x,hmem,?_,(hp x hmem).1 hpx⟩
  have hv:mVal (BEq.beq (keyB [label] l)) o.k o.v 0=(j:Int):=by
   unfold mVal
   rw[hm,hi,h.v]
   simp[hjl]
  rw[hv,ix_nat _ _ (by omega) (by omega)]
  simp only[Int.toNat_natCast]
  exact(List.getElem?_eq_some_iff.1 hx).2
def knows (qs:List TQuestion) (label:Int) (l:List Int):Bool:=qs.any fun x=>decide (x.Label=label)&&decide (x.Elems=l)
theorem k1kn {qs:List TQuestion} {label:Int} {l:List Int}:knows qs label l=true↔∃x∈qs,x.Label=label∧x.Elems=l:=by
 unfold knows
 simp
theorem RO.has {o:OS} (h:RO o) {label:Int} {l:List Int} (hu:U64 label) (hl:Us l):mHas (BEq.beq (keyB [label] l)) o.k=knows o.q label l:=by
 rcases h.find hu hl with⟨h1,h2⟩|⟨h1,x,h2,_,h3⟩
 ·rw[h1]
  cases hk:knows o.q label l with
  |false=>rfl
  |true=>obtain⟨x,hx,hxl⟩:=k1kn.1 hk;exact(h2 x hx hxl).elim
 ·rw[h1];exact(k1kn.2 ⟨x,h2,h3⟩).symm
theorem RO.h {o:OS} (h:RO o) {label:Int} {l:List Int} (hu:U64 label) (hl:Us l):RO (hO o label l).o:=by
 obtain⟨e1,e2,e3,_⟩:=ansO_q o label l
 unfold hO
 split
 ·rename_i hb
  split
  ·exact h
  ·rename_i hn
   have hn:mHas (BEq.beq (keyB [label] l)) o.k=false:=by simpa using hn
   refine⟨?_,?_,?_⟩
   ·simp only[recO,e1,e2]
    rw[k1n9 hn,h.k,List.map_append]
    rfl
   ·simp only[recO,e1,e2,e3]
    rw[k1og hn,h.v,List.length_append,List.length_singleton,List.range_succ,List.map_append]
    rfl
   ·simp only[recO,e1]
    intro x hx
    rcases List.mem_append.1 hx with hx|hx
    ·exact h.q x hx
    ·rw[List.mem_singleton.1 hx];exact⟨hu,hl,hb⟩
 ·exact h
structure RR (o:OS):Prop where
 r:RO o
 a:o.a=false
 n:∀x∈o.q,x.Answer=hashS x.Label x.Elems
def valH (label:Int) (l:List Int):Int:=if allB l=true then hashS label l else 0
def askQ (qs:List TQuestion) (label:Int) (l:List Int):List TQuestion:=if allB l=true then(if knows qs label l=true then qs else qs++[⟨label,l,hashS label l⟩])else qs
theorem RR.h {o:OS} (h:RR o) {label:Int} {l:List Int} (hu:U64 label) (hl:Us l):(hO o label l).n=valH label l∧(hO o label l).o.q=askQ o.q label l∧RR (hO o label l).o:=by
 have ha:ansO o label l=⟨hashS label l,o⟩:=by unfold ansO;rw[h.a];rfl
 have hr:=h.r.h hu hl
 have hh:=h.r.has hu hl
 have hf:=h.r.find hu hl
 unfold hO valH askQ at *
 rw[ha]at *
 split
 ·rename_i hb
  rw[if_pos hb]at hr
  rw[hh]at hr ⊢
  split
  ·rename_i hk
   rcases hf with⟨h1,_⟩|⟨_,x,hx,e1,e2,e3⟩
   ·rw[hh,hk]at h1;cases h1
   ·refine⟨?_,rfl,h⟩
    simp only[e1]
    rw[h.n x hx,e2,e3]
  ·rename_i hk
   rw[if_neg hk]at hr
   refine⟨rfl,rfl,hr,h.a,fun x hx=> ?_⟩
   simp only[recO]at hx
   rcases List.mem_append.1 hx with hx|hx
   ·exact h.n x hx
   ·rw[List.mem_singleton.1 hx]
 ·exact⟨rfl,rfl,h⟩
theorem RR.z:RR (zO false 0):=⟨⟨rfl,rfl,fun x hx=>by cases hx⟩,rfl,fun x hx=>by cases hx⟩
structure QL (qs:List TQuestion) (n:Nat):Prop where
 n:qs.length≤n
 e:∀x∈qs,x.Elems.length≤1000000000
theorem QL.ask {qs:List TQuestion} {n:Nat} (h:QL qs n) {label:Int} {l:List Int} (hl:l.length≤1000000000):QL (askQ qs label l) (n+1):=by
 have hn:=h.n
 unfold askQ
 split
 ·split
  ·exact⟨by omega,h.e⟩
  ·refine⟨by simp;omega,fun x hx=> ?_⟩
   rcases List.mem_append.1 hx with hx|hx
   ·exact h.e x hx
   ·rw[List.mem_singleton.1 hx];exact hl
 ·exact⟨by omega,h.e⟩
theorem us2 {a b:Int} {l:List Int} (ha:U64 a) (hb:U64 b) (hl:Us l):Us ([a,b]++l):=fun x hx=>by
 rcases List.mem_append.1 hx with hx|hx
 ·rcases List.mem_cons.1 hx with rfl|hx
  ·exact ha
  ·rw[List.mem_singleton.1 hx];exact hb
 ·exact hl x hx
end Go.Proofs.Ytcilpmmlfpkdoaa
namespace Go.Md
open Go Go.Bv Go.Cv Go.Md Go.RowKit
abbrev swpL (g:List Int) (i j:Int):List Int:=(g.set i.toNat (ix g j)).set j.toNat (ix g i)
theorem krp {g:List Int} {i j:Int}:(swpL g i j).length=g.length:=by simp[swpL]
section
variable {g:List Int} {a b i j:Int} {d:Array Int}
theorem arrN {n:Nat} (h:n<g.length):g.toArray[n]! =ix g (n:Int):=by
 rw[ix_nat g _ (by omega) (by omega),getElem!_pos g.toArray n (by simpa using h)]
 simp
theorem arr_ix (h0:0≤i) (h1:i<g.length):g.toArray[i.toNat]! =ix g i:=by
 rw[arrN (by omega),show((i.toNat:Nat):Int)=i by omega]
theorem swpN {i j:Nat} (hi:i<g.length) (hj:j<g.length):Sort.swp g.toArray i j=(swpL g i j).toArray:=by
 unfold Sort.swp
 rw[arrN hi,arrN hj]
 simp[swpL]
theorem swp_arr (hi0:0≤i) (hi:i<g.length) (hj0:0≤j) (hj:j<g.length):Sort.swp g.toArray i.toNat j.toNat=(swpL g i j).toArray:=by
 rw[swpN (by omega) (by omega),show((i.toNat:Nat):Int)=i by omega,show((j.toNat:Nat):Int)=j by omega]
theorem ltI_iff {x y:Int}:Sort.ltInt x y=decide (x<y):=rfl
theorem k1qa (hi:0≤i) (h:i<b):Sort.insOuter Sort.ltInt a.toNat b.toNat i.toNat d=Sort.insOuter Sort.ltInt a.toNat b.toNat (i+1).toNat (Sort.insInner Sort.ltInt a.toNat i.toNat d):=by
 rw[Sort.insOuter,if_pos (by omega),show(i+1).toNat=i.toNat+1 by omega]
theorem k1ou (hi:0≤i) (h:¬i<b):Sort.insOuter Sort.ltInt a.toNat b.toNat i.toNat d=d:=by
 rw[Sort.insOuter,if_neg (by omega)]
theorem k1qb (ha:0≤a) (hj:a<j) (hl:j<g.length):Sort.insInner Sort.ltInt a.toNat j.toNat g.toArray=if ix g j<ix g (j-1)then Sort.insInner Sort.ltInt a.toNat (j-1).toNat (swpL g j (j-1)).toArray else g.toArray:=by
 have e1:j.toNat=(j-1).toNat+1:=by omega
 have hs:=swp_arr (g:=g) (i:=j) (j:=j-1) (by omega) hl (by omega) (by omega)
 have x1:=arr_ix (g:=g) (i:=j) (by omega) hl
 have x2:=arr_ix (g:=g) (i:=j-1) (by omega) (by omega)
 generalize (j-1).toNat=m at *
 rw[e1]at hs x1 ⊢
 rw[Sort.insInner,x1,x2,hs]
 have:m+1>a.toNat:=by omega
 simp only[this,decide_true,Bool.true_and,ltI_iff,decide_eq_true_eq]
theorem k1ob (h:¬a<j):Sort.insInner Sort.ltInt a.toNat j.toNat d=d:=by
 have h2:¬j.toNat>a.toNat:=by omega
 generalize j.toNat=n at *
 cases n with
 |zero=>rfl
 |succ n=>rw[Sort.insInner,if_neg (by simp;omega)]
def chS (g:List Int) (hi first root:Int):Int:=if 2*root+2<hi∧ix g (first+(2*root+1))<ix g (first+(2*root+1)+1)then 2*root+2 else 2*root+1
theorem chS_rng {hi first root:Int} (hh:2*root+1<hi):2*root+1≤chS g hi first root∧chS g hi first root≤2*root+2∧chS g hi first root<hi:=by
 unfold chS
 split
 ·omega
 ·omega
theorem k1o4 {hi first root:Int} (h0:0≤root) (h:hi≤2*root+1):Sort.siftDown Sort.ltInt hi.toNat first.toNat root.toNat d=d:=by
 rw[Sort.siftDown,dif_pos (by omega)]
theorem k1q8 {hi first root:Int} (h0:0≤root) (h1:0≤first) (hh:2*root+1<hi) (hl:first+hi≤g.length):Sort.siftDown Sort.ltInt hi.toNat first.toNat root.toNat g.toArray=
  if ix g (first+root)<ix g (first+chS g hi first root)then Sort.siftDown Sort.ltInt hi.toNat first.toNat (chS g hi first root).toNat (swpL g (first+root) (first+chS g hi first root)).toArray else g.toArray:=by
 obtain⟨r,rfl⟩:=Int.eq_ofNat_of_zero_le h0
 obtain⟨f,rfl⟩:=Int.eq_ofNat_of_zero_le h1
 obtain⟨n,rfl⟩:=Int.eq_ofNat_of_zero_le (show 0≤hi by omega)
 simp only[Int.toNat_natCast]
 have x1:g.toArray[f+(2*r+1)]! =ix g ((f:Int)+(2*r+1)):=by rw[arrN (by omega)];congr 1
 have x0:g.toArray[f+r]! =ix g ((f:Int)+r):=by rw[arrN (by omega)];congr 1
 by_cases hc:2*(r:Int)+2<n∧ix g ((f:Int)+(2*r+1))<ix g ((f:Int)+(2*r+1)+1)
 ·have x2:g.toArray[f+(2*r+1)+1]! =ix g ((f:Int)+(2*r+1)+1):=by rw[arrN (by omega)];congr 1
  have x3:g.toArray[f+(2*r+2)]! =ix g ((f:Int)+(2*r+2)):=by rw[arrN (by omega)];congr 1
  have ec:chS g n f r=2*(r:Int)+2:=by unfold chS;rw[if_pos hc]
  have hs:Sort.swp g.toArray (f+r) (f+(2*r+2))=(swpL g ((f:Int)+r) ((f:Int)+(2*r+2))).toArray:=by rw[swpN (by omega) (by omega)];congr 2
  have et:(2*(r:Int)+2).toNat=2*r+2:=by omega
  rw[Sort.siftDown,dif_neg (by omega),if_pos,ec,x0,x3,hs,dif_pos (by omega),et]
  ·simp only[ltI_iff,Bool.not_eq_true',decide_eq_false_iff_not]
   split<;>first|rfl|(rename_i h;first|rw[if_neg h]|rw[if_pos (Decidable.not_not.1 h)])
  ·rw[x1,x2,ltI_iff,decide_eq_true hc.2,decide_eq_true (show 2*r+1+1<n by omega)];rfl
 ·have ec:chS g n f r=2*(r:Int)+1:=by unfold chS;rw[if_neg hc]
  have hs:Sort.swp g.toArray (f+r) (f+(2*r+1))=(swpL g ((f:Int)+r) ((f:Int)+(2*r+1))).toArray:=by rw[swpN (by omega) (by omega)];congr 2
  have et:(2*(r:Int)+1).toNat=2*r+1:=by omega
  rw[Sort.siftDown,dif_neg (by omega),if_neg,ec,x0,x1,hs,et]
  ·simp only[ltI_iff,Bool.not_eq_true',decide_eq_false_iff_not]
   split<;>first|rfl|(rename_i h;first|rw[if_neg h]|rw[if_pos (Decidable.not_not.1 h)])
  ·intro h
   rw[Bool.and_eq_true,decide_eq_true_eq]at h
   have x2:g.toArray[f+(2*r+1)+1]! =ix g ((f:Int)+(2*r+1)+1):=by rw[arrN (by omega)];congr 1
   rw[x1,x2,ltI_iff,decide_eq_true_eq]at h
   exact hc ⟨by omega,h.2⟩
theorem k1lv (hi first:Nat):∀(n root:Nat) (d:Array Int),hi-root≤n→(Sort.siftDown Sort.ltInt hi first root d).size=d.size:=by
 intro n
 induction n with
 |zero=>
  intro root d h
  rw[Sort.siftDown,dif_pos (by omega)]
 |succ n ih=>
  intro root d h
  rw[Sort.siftDown]
  split
  ·rfl
  ·split
   ·split
    ·rfl
    ·split
     ·rw[ih _ _ (by omega)];exact Sort.size_swp _ _ _
     ·rfl
   ·split
    ·rfl
    ·rw[ih _ _ (by omega)];exact Sort.size_swp _ _ _
theorem k1nj {hi first:Nat} (h:0≤i):Sort.heapBuild Sort.ltInt hi first (i+1).toNat d=Sort.heapBuild Sort.ltInt hi first i.toNat (Sort.siftDown Sort.ltInt hi first i.toNat d):=by
 rw[show(i+1).toNat=i.toNat+1 by omega,Sort.heapBuild]
theorem k1qj {first:Nat} (h:0≤i):Sort.heapPop Sort.ltInt first (i+1).toNat d=Sort.heapPop Sort.ltInt first i.toNat (Sort.siftDown Sort.ltInt i.toNat first 0 (Sort.swp d first (first+i.toNat))):=by
 rw[show(i+1).toNat=i.toNat+1 by omega,Sort.heapPop]
theorem k1a3 {p:Int→Bool} (h0:0≤i) (h:i≤j):Sort.scanUp p d j.toNat i.toNat=if p d[i.toNat]! =true then Sort.scanUp p d j.toNat (i+1).toNat else i.toNat:=by
 rw[Sort.scanUp,show(i+1).toNat=i.toNat+1 by omega]
 simp only[decide_eq_true (show i.toNat≤j.toNat by omega),Bool.true_and]
theorem k15y {p:Int→Bool} (h0:1≤i) (h:¬i≤j):Sort.scanUp p d j.toNat i.toNat=i.toNat:=by
 rw[Sort.scanUp]
 simp only[decide_eq_false (show¬i.toNat≤j.toNat by omega),Bool.false_and]
 rfl
theorem k144 {p:Int→Bool} (h0:1≤i) (h:i≤j):Sort.scanDown p d i.toNat j.toNat=if p d[j.toNat]! =true then Sort.scanDown p d i.toNat (j-1).toNat else j.toNat:=by
 have e1:j.toNat=(j-1).toNat+1:=by omega
 have e2:i.toNat≤j.toNat:=by omega
 generalize (j-1).toNat=m at *
 rw[e1]at e2 ⊢
 rw[Sort.scanDown]
 simp only[decide_eq_true e2,Bool.true_and]
theorem k11v {p:Int→Bool} (h0:1≤i) (h:¬i≤j):Sort.scanDown p d i.toNat j.toNat=j.toNat:=by
 have e2:¬i.toNat≤j.toNat:=by omega
 generalize j.toNat=m at *
 cases m with
 |zero=>rfl
 |succ m=>
  rw[Sort.scanDown]
  simp only[decide_eq_false e2,Bool.false_and]
  rfl
theorem k1md (h0:1≤i) (h:i<b) (hl:b≤g.length):Sort.scanSorted Sort.ltInt g.toArray b.toNat i.toNat=if ix g i<ix g (i-1)then i.toNat else Sort.scanSorted Sort.ltInt g.toArray b.toNat (i+1).toNat:=by
 have x1:=arr_ix (g:=g) (i:=i) (by omega) (by omega)
 have x2:=arr_ix (g:=g) (i:=i-1) (by omega) (by omega)
 rw[Sort.scanSorted,show(i+1).toNat=i.toNat+1 by omega,x1,show i.toNat-1=(i-1).toNat by omega,x2]
 simp only[decide_eq_true (show i.toNat<b.toNat by omega),Bool.true_and,ltI_iff,Bool.not_eq_true',decide_eq_false_iff_not]
 split<;>first|rfl|(rename_i h;first|rw[if_neg h]|rw[if_pos (Decidable.not_not.1 h)])
theorem k1ir (h0:0≤i) (h:¬i<b):Sort.scanSorted Sort.ltInt d b.toNat i.toNat=i.toNat:=by
 rw[Sort.scanSorted]
 simp only[decide_eq_false (show¬i.toNat<b.toNat by omega),Bool.false_and]
 rfl
theorem k1o5 (h:1≤j) (hl:j<g.length):Sort.shiftDown Sort.ltInt j.toNat g.toArray=if ix g j<ix g (j-1)then Sort.shiftDown Sort.ltInt (j-1).toNat (swpL g j (j-1)).toArray else g.toArray:=by
 have e1:j.toNat=(j-1).toNat+1:=by omega
 have hs:=swp_arr (g:=g) (i:=j) (j:=j-1) (by omega) hl (by omega) (by omega)
 have x1:=arr_ix (g:=g) (i:=j) (by omega) hl
 have x2:=arr_ix (g:=g) (i:=j-1) (by omega) (by omega)
 generalize (j-1).toNat=m at *
 rw[e1]at hs x1 ⊢
 rw[Sort.shiftDown,x1,x2,hs]
 simp only[ltI_iff,Bool.not_eq_true',decide_eq_false_iff_not]
 split<;>first|rfl|(rename_i h;first|rw[if_neg h]|rw[if_pos (Decidable.not_not.1 h)])
theorem k1mj (h:¬1≤j):Sort.shiftDown Sort.ltInt j.toNat d=d:=by
 rw[show j.toNat=0 by omega,Sort.shiftDown]
theorem k1qw (h0:1≤j) (h:j<b) (hl:b≤g.length):Sort.shiftUp Sort.ltInt b.toNat j.toNat g.toArray=if ix g j<ix g (j-1)then Sort.shiftUp Sort.ltInt b.toNat (j+1).toNat (swpL g j (j-1)).toArray else g.toArray:=by
 have hs:=swp_arr (g:=g) (i:=j) (j:=j-1) (by omega) (by omega) (by omega) (by omega)
 have x1:=arr_ix (g:=g) (i:=j) (by omega) (by omega)
 have x2:=arr_ix (g:=g) (i:=j-1) (by omega) (by omega)
 rw[Sort.shiftUp,if_pos (by omega),show(j+1).toNat=j.toNat+1 by omega,x1,show j.toNat-1=(j-1).toNat by omega,x2,hs]
 simp only[ltI_iff,Bool.not_eq_true',decide_eq_false_iff_not]
 split<;>first|rfl|(rename_i h;first|rw[if_neg h]|rw[if_pos (Decidable.not_not.1 h)])
theorem k1ph (h0:0≤j) (h:¬j<b):Sort.shiftUp Sort.ltInt b.toNat j.toNat d=d:=by
 rw[Sort.shiftUp,if_neg (by omega)]
theorem k1ki (h0:0≤i) (h:i<j) (hl:j<g.length):Sort.reverseLoop i.toNat j.toNat g.toArray=Sort.reverseLoop (i+1).toNat (j-1).toNat (swpL g i j).toArray:=by
 rw[Sort.reverseLoop,if_pos (by omega),swp_arr (g:=g) h0 (by omega) (by omega) hl,show(i+1).toNat=i.toNat+1 by omega,show(j-1).toNat=j.toNat-1 by omega]
theorem k1h4 (h0:0≤i) (h:¬i<j):Sort.reverseLoop i.toNat j.toNat d=d:=by
 rw[Sort.reverseLoop,if_neg (by omega)]
end
def insS (g:List Int) (a b:Int):List Int:=(Sort.insertionSort Sort.ltInt g.toArray a.toNat b.toNat).toList
def sdS (g:List Int) (lo hi first:Int):List Int:=(Sort.siftDown Sort.ltInt hi.toNat first.toNat lo.toNat g.toArray).toList
def heapS (g:List Int) (a b:Int):List Int:=(Sort.heapSort Sort.ltInt g.toArray a.toNat b.toNat).toList
def revS (g:List Int) (a b:Int):List Int:=(Sort.reverseRange g.toArray a.toNat b.toNat).toList
def brkS (g:List Int) (a b:Int):List Int:=(Sort.breakPatterns g.toArray a.toNat b.toNat).toList
def pisS (g:List Int) (a b:Int):Array Int×Bool:=Sort.partialInsertionSort Sort.ltInt g.toArray a.toNat b.toNat
def partS (g:List Int) (a b p:Int):Nat×Bool×Array Int:=Sort.partition Sort.ltInt g.toArray a.toNat b.toNat p.toNat
def peqS (g:List Int) (a b p:Int):Nat×Array Int:=Sort.partitionEqual Sort.ltInt g.toArray a.toNat b.toNat p.toNat
def cpS (g:List Int) (a b:Int):Nat×Sort.Hint:=Sort.choosePivot Sort.ltInt g.toArray a.toNat b.toNat
def hintN:Sort.Hint→Int
 | .unknown=>0
 | .increasing=>1
 | .decreasing=>2
section
variable {g:List Int} {a b p:Int}
theorem k1er (h0:0≤a) (h1:a≤b) (h2:b≤g.length):(insS g a b).length=g.length:=by
 have:=(Sort.insertionSort_holds (lt:=Sort.ltInt) Sort.swo_ltInt g.toArray a.toNat b.toNat (by omega) (by simp;omega)).1.1
 simpa[insS]using this
theorem cpS_rng (h0:0≤a) (h1:a<b):a≤(cpS g a b).1∧(cpS g a b).1<b:=by
 have:=Sort.choosePivot_holds Sort.ltInt g.toArray a.toNat b.toNat (by omega)
 unfold cpS
 omega
theorem sdS_len {lo hi first:Int}:(sdS g lo hi first).length=g.length:=by
 have:=k1lv hi.toNat first.toNat _ lo.toNat g.toArray (Nat.le_refl _)
 simpa[sdS]using this
end
theorem k1p2 (a b:Nat) (ha:a<18446744073709551616) (hb:b<18446744073709551616):ixor .u64 a b=((a^^^b:Nat):Int):=by
 unfold ixor
 show IntKind.u64.wrap ((BitVec.ofInt 64 (a:Int)^^^BitVec.ofInt 64 (b:Int)).toNat:Int)=_
 rw[BitVec.ofInt_natCast,BitVec.ofInt_natCast,BitVec.toNat_xor,BitVec.toNat_ofNat,BitVec.toNat_ofNat,Nat.mod_eq_of_lt ha,Nat.mod_eq_of_lt hb]
 have:a^^^b<2^64:=Nat.xor_lt_two_pow ha hb
 exact wu _ (by omega) (by omega)
theorem xor_shl (r:UInt64) (k:Nat) (hk:k<64):ixor .u64 (r.toNat:Int) (ishl .u64 (r.toNat:Int) (k:Int))=((r^^^(r<<<(UInt64.ofNat k))).toNat:Int):=by
 have hr:=r.toNat_lt
 have e:ishl .u64 (r.toNat:Int) (k:Int)=((r.toNat<<<k%18446744073709551616:Nat):Int):=by
  unfold ishl
  rw[IntKind.wrap_u64,Nat.shiftLeft_eq]
  have:min (k:Int).toNat IntKind.u64.bits=k:=by show min (k:Int).toNat 64=k;omega
  rw[this,Int.natCast_emod,Int.natCast_mul,Int.natCast_pow]
  rfl
 rw[e,k1p2 _ _ (by omega) (by omega),UInt64.toNat_xor,UInt64.toNat_shiftLeft]
 have:(UInt64.ofNat k).toNat%64=k:=by rw[UInt64.toNat_ofNat'];omega
 rw[this]
theorem xor_shr (r:UInt64) (k:Nat) (hk:k<64):ixor .u64 (r.toNat:Int) (ishr .u64 (r.toNat:Int) (k:Int))=((r^^^(r>>>(UInt64.ofNat k))).toNat:Int):=by
 have hr:=r.toNat_lt
 have e:ishr .u64 (r.toNat:Int) (k:Int)=((r.toNat>>>k:Nat):Int):=by
  unfold ishr
  have:min (k:Int).toNat IntKind.u64.bits=k:=by show min (k:Int).toNat 64=k;omega
  rw[this,Nat.shiftRight_eq_div_pow,Int.fdiv_eq_ediv_of_nonneg _ (by exact Int.le_of_lt (Int.pow_pos (by decide))),Int.natCast_ediv,Int.natCast_pow]
  rfl
 have hs:r.toNat>>>k≤r.toNat:=by rw[Nat.shiftRight_eq_div_pow];exact Nat.div_le_self _ _
 rw[e,k1p2 _ _ (by omega) (by omega),UInt64.toNat_xor,UInt64.toNat_shiftRight]
 have:(UInt64.ofNat k).toNat%64=k:=by rw[UInt64.toNat_ofNat'];omega
 rw[this]
def xnI (s:Int):Int:=
 let a:=ixor .u64 s (ishl .u64 s 13)
 let b:=ixor .u64 a (ishr .u64 a 7)
 ixor .u64 b (ishl .u64 b 17)
theorem xnI_eq (r:UInt64):xnI (r.toNat:Int)=((Sort.xorNext r).toNat:Int):=by
 unfold xnI Sort.xorNext
 dsimp only
 have h1:=xor_shl r 13 (by decide)
 rw[show((13:Nat):Int)=13 from rfl]at h1
 rw[h1]
 have h2:=xor_shr (r^^^(r<<<(UInt64.ofNat 13))) 7 (by decide)
 rw[show((7:Nat):Int)=7 from rfl]at h2
 rw[h2]
 exact xor_shl _ 17 (by decide)
def brkL (a length modulus:Nat):Nat→UInt64×Array Int→Nat→Array Int
 |0,st,_=>st.2
 |k+1,st,idx=>brkL a length modulus k (Sort.breakStep a length modulus st idx) (idx+1)
theorem brkL_go (a len md k:Nat) (u:UInt64) (d:Array Int) (i:Nat):brkL a len md (k+1) (u,d) i=brkL a len md k (Sort.xorNext u,Sort.swp d i (a+(if(Sort.xorNext u).toNat&&&(md-1)≥len then((Sort.xorNext u).toNat&&&(md-1))-len else(Sort.xorNext u).toNat&&&(md-1)))) (i+1):=rfl
theorem brk_eq (d:Array Int) (a b:Nat) (h:8≤b-a):Sort.breakPatterns d a b=brkL a (b-a) (1<<<Sort.bitsLen (b-a)) 3 (UInt64.ofNat (b-a),d) (a+(b-a)/4*2-1):=by
 unfold Sort.breakPatterns
 rw[if_pos h]
 rfl
theorem brk_no (d:Array Int) (a b:Nat) (h:¬8≤b-a):Sort.breakPatterns d a b=d:=by
 unfold Sort.breakPatterns
 rw[if_neg h]
theorem k1hh (n:Nat):len64 (n:Int)=((Sort.bitsLen n:Nat):Int):=by
 unfold len64 Sort.bitsLen
 by_cases h:n=0
 ·subst h;rfl
 ·rw[if_neg h,if_neg (by omega)];simp
theorem npo (n:Nat) (hn:n<4611686018427387904):ishl .u64 1 (len64 (n:Int))=((1<<<Sort.bitsLen n:Nat):Int):=by
 rw[k1hh]
 have hk:Sort.bitsLen n≤62:=(Sort.bitsLen_le_iff n 62).2 hn
 unfold ishl
 have:min ((Sort.bitsLen n:Nat):Int).toNat IntKind.u64.bits=Sort.bitsLen n:=by show min ((Sort.bitsLen n:Nat):Int).toNat 64=_;omega
 rw[this,Nat.shiftLeft_eq,Nat.one_mul,Int.one_mul]
 have hp:2^Sort.bitsLen n≤2^62:=Nat.pow_le_pow_right (by decide) hk
 rw[wu]
 ·rw[Int.natCast_pow];rfl
 ·exact Int.le_of_lt (Int.pow_pos (by decide))
 ·have h1:((2^Sort.bitsLen n:Nat):Int)≤((2^62:Nat):Int):=Int.ofNat_le.2 hp
  rw[Int.natCast_pow]at h1
  have h2:((2^62:Nat):Int)=4611686018427387904:=by decide
  have h3:(((2:Nat):Int)^Sort.bitsLen n)=(2:Int)^Sort.bitsLen n:=rfl
  omega
theorem npo_le (n:Nat) (h:0<n):1<<<Sort.bitsLen n≤2*n∧n<1<<<Sort.bitsLen n:=by
 rw[Nat.shiftLeft_eq,Nat.one_mul]
 exact⟨Sort.two_pow_bitsLen_le h,Sort.lt_two_pow_bitsLen n⟩
theorem kno {d:Array Int} {a b c n:Nat} (ha:a<n) (hb:b<n):(Sort.order2 Sort.ltInt d a b c).1<n∧(Sort.order2 Sort.ltInt d a b c).2.1<n∧(Sort.order2 Sort.ltInt d a b c).2.2≤c+1:=by
 unfold Sort.order2
 split
 ·exact⟨hb,ha,Nat.le_refl _⟩
 ·exact⟨ha,hb,Nat.le_succ _⟩
theorem k174 {d:Array Int} {a b c s n:Nat} (ha:a<n) (hb:b<n) (hc:c<n):(Sort.median Sort.ltInt d a b c s).1<n∧(Sort.median Sort.ltInt d a b c s).2≤s+3:=by
 unfold Sort.median
 dsimp only
 have h1:=kno (d:=d) (c:=s) ha hb
 generalize Sort.order2 Sort.ltInt d a b s=r1 at *
 have h2:=kno (d:=d) (c:=r1.2.2) h1.2.1 hc
 generalize Sort.order2 Sort.ltInt d r1.2.1 c r1.2.2=r2 at *
 have h3:=kno (d:=d) (c:=r2.2.2) h1.1 h2.1
 exact⟨h3.2.1,by omega⟩
end Go.Md
namespace Go.Proofs.Ytcilpmmlfpkdoaa
open Go Go.Bv Go.Cv Go.Md Go.RowKit
def insI (x:Int):List Int→List Int
 |[]=>[x]
 |y::r=>if x≤y then x::y::r else y::insI x r
def srt:List Int→List Int
 |[]=>[]
 |x::r=>insI x (srt r)
theorem k19t (x:Int):∀l,(insI x l).Perm (x::l)
 |[]=>List.Perm.refl _
 |y::r=>by
  unfold insI
  split
  ·exact List.Perm.refl _
  ·exact((k19t x r).cons y).trans (List.Perm.swap x y r)
theorem k1eb:∀l,(srt l).Perm l
 |[]=>List.Perm.refl _
 |x::r=>(k19t x (srt r)).trans ((k1eb r).cons x)
theorem k1e9 (x:Int):∀l:List Int,l.Pairwise (·≤·)→(insI x l).Pairwise (·≤·)
 |[],_=>by simp[insI]
 |y::r,h=>by
  unfold insI
  rw[List.pairwise_cons]at h
  split
  ·rename_i hxy
   rw[List.pairwise_cons,List.pairwise_cons]
   refine⟨fun z hz=> ?_,h⟩
   rcases List.mem_cons.1 hz with rfl|hz
   ·exact hxy
   ·exact Int.le_trans hxy (h.1 z hz)
  ·rename_i hxy
   rw[List.pairwise_cons]
   refine⟨fun z hz=> ?_,k1e9 x r h.2⟩
   rcases List.mem_cons.1 ((k19t x r).mem_iff.1 hz)with rfl|hz
   ·omega
   ·exact h.1 z hz
theorem k1go:∀l,(srt l).Pairwise (·≤·)
 |[]=>List.Pairwise.nil
 |x::r=>k1e9 x _ (k1go r)
theorem kyf:∀(l m:List Int),l.Perm m→l.Pairwise (·≤·)→m.Pairwise (·≤·)→l=m
 |[],m,h,_,_=>by rw[h.symm.eq_nil]
 |x::l,[],h,_,_=>by cases h.eq_nil
 |x::l,y::m,h,hl,hm=>by
  rw[List.pairwise_cons]at hl hm
  have hx:x∈y::m:=h.mem_iff.1 (by simp)
  have hy:y∈x::l:=h.mem_iff.2 (by simp)
  have e:x=y:=by
   rcases List.mem_cons.1 hx with e|hx
   ·exact e
   ·rcases List.mem_cons.1 hy with e|hy
    ·exact e.symm
    ·have:=hl.1 y hy
     have:=hm.1 x hx
     omega
  subst e
  rw[kyf l m ((List.perm_cons x).1 h) hl.2 hm.2]
theorem srt_eq {l m:List Int} (h:m.Perm l) (hs:m.Pairwise (·≤·)):m=srt l:=kyf _ _ (h.trans (k1eb l).symm) hs (k1go l)
theorem k1gz (l:List Int):(srt l).length=l.length:=(k1eb l).length_eq
def SortedTo (g:List Int) (i:Nat):Prop:=∀a b:Nat,a<b→b<i→g[a]?.getD 0≤g[b]?.getD 0
def SortedBut (g:List Int) (i j:Nat):Prop:=∀a b:Nat,a<b→b<i→b≠j→g[a]?.getD 0≤g[b]?.getD 0
theorem SortedTo.all {g:List Int} (h:SortedTo g g.length):g.Pairwise (·≤·):=by
 rw[List.pairwise_iff_getElem]
 intro a b ha hb hab
 have:=h a b hab hb
 rwa [List.getElem?_eq_getElem ha,List.getElem?_eq_getElem hb]at this
theorem SortedBut.zero {g:List Int} {i:Nat} (h:SortedBut g i 0):SortedTo g i:=fun a b hab hb=>h a b hab hb (by omega)
theorem k1s0 (g:List Int) (i j:Int) (h0:0≤i) (h1:i<g.length) (h2:0≤j) (h3:j<g.length):((g.set i.toNat (ix g j)).set j.toNat (ix g i)).Perm g:=by
 rw[ix_nat g i h0 h1,ix_nat g j h2 h3]
 exact List.set_set_perm (by omega) (by omega)
theorem k16h (d:Array Int) (a b k:Nat) (hb:b≤d.size) (hk:a+k<b):(d.extract a b).toList[k]? =some d[a+k]! :=by
 rw[Sort.extract_toList d a b hb,List.getElem?_map,List.getElem?_range' (by omega)]
 simp
theorem k14l {d:Array Int} {a b:Nat} (hb:b≤d.size) (h:Sort.SortedIn Sort.ltInt a b d):(d.extract a b).toList.Pairwise (·≤·):=by
 rw[List.pairwise_iff_getElem]
 intro i j hi hj hij
 have hl:(d.extract a b).toList.length=b-a:=by simp;omega
 have e1:=k16h d a b i hb (by omega)
 have e2:=k16h d a b j hb (by omega)
 rw[List.getElem?_eq_getElem hi]at e1
 rw[List.getElem?_eq_getElem hj]at e2
 rw[Option.some.inj e1,Option.some.inj e2]
 have:=h (a+i) (a+j) (by omega) (by omega) (by omega)
 rw[ltI_iff]at this
 have:=of_decide_eq_false this
 omega
theorem k1mz {d R R' :Array Int} {a b:Nat} (hb:b≤d.size) (h1:Sort.PermIn a b d R) (h2:Sort.SortedIn Sort.ltInt a b R) (h3:Sort.PermIn a b d R') (h4:Sort.SortedIn Sort.ltInt a b R'):R=R' :=by
 have e:=kyf _ _ (h1.2.2.trans h3.2.2.symm) (k14l (by rw[h1.1];exact hb) h2) (k14l (by rw[h3.1];exact hb) h4)
 refine Array.ext (by rw[h1.1,h3.1]) fun i hi hi' => ?_
 have q1:R[i]! =R[i]:=getElem!_pos R i hi
 have q2:R'[i]! =R'[i]:=getElem!_pos R' i hi'
 rw[←q1,←q2]
 by_cases hc:a≤i∧i<b
 ·have e1:=k16h R a b (i-a) (by rw[h1.1];exact hb) (by omega)
  have e2:=k16h R' a b (i-a) (by rw[h3.1];exact hb) (by omega)
  rw[e,e2,show a+(i-a)=i by omega]at e1
  exact(Option.some.inj e1).symm
 ·rw[h1.2.1 i (by omega),h3.2.1 i (by omega)]
theorem ktc {g:List Int} {a b:Int} (h0:0≤a) (h1:a≤b) (h2:b≤g.length):Sort.PermIn a.toNat b.toNat g.toArray (insS g a b).toArray∧Sort.SortedIn Sort.ltInt a.toNat b.toNat (insS g a b).toArray:=by
 have:=Sort.insertionSort_holds (lt:=Sort.ltInt) Sort.swo_ltInt g.toArray a.toNat b.toNat (by omega) (by simp;omega)
 unfold insS
 simpa using this
theorem k1pm {g:List Int} {a b:Int} (h0:0≤a) (h1:a≤b) (h2:b≤g.length):Sort.PermIn a.toNat b.toNat g.toArray (heapS g a b).toArray∧Sort.SortedIn Sort.ltInt a.toNat b.toNat (heapS g a b).toArray:=by
 have:=Sort.heapSort_holds (lt:=Sort.ltInt) Sort.swo_ltInt g.toArray a.toNat b.toNat (by omega) (by simp;omega)
 unfold heapS
 simpa using this
theorem k1t1 (g:List Int):insS g 0 g.length=srt g:=by
 obtain⟨h1,h2⟩:=ktc (g:=g) (a:=0) (b:=g.length) (by omega) (by omega) (by omega)
 have hl:(insS g 0 g.length).length=g.length:=k1er (by omega) (by omega) (by omega)
 have e:=h1.2.2
 have s:=k14l (d:=(insS g 0 g.length).toArray) (by simp;omega) h2
 have x1:((insS g 0 g.length).toArray.extract (0:Int).toNat (g.length:Int).toNat).toList=insS g 0 g.length:=by
  have key:∀l:List Int,(l.toArray.extract 0 l.length).toList=l:=by intro l;simp
  have:=key (insS g 0 g.length)
  rw[hl]at this
  simp only[Int.toNat_natCast,Int.toNat_zero]
  exact this
 have x2:(g.toArray.extract (0:Int).toNat (g.length:Int).toNat).toList=g:=by simp
 rw[x1]at s e
 rw[x2]at e
 exact srt_eq e s
structure PdqI (R0:Array Int) (n:Nat) (a b:Int) (g:List Int):Prop where
 a0:0≤a
 ab:a≤b
 bl:b≤g.length
 n:g.length=n
 be:Sort.Below Sort.ltInt a.toNat b.toNat g.toArray
 u:∀R,Sort.PermIn a.toNat b.toNat g.toArray R→Sort.SortedIn Sort.ltInt a.toNat b.toNat R→R=R0
theorem PdqI.perm {R0:Array Int} {n:Nat} {a b:Int} {g:List Int} {d:Array Int} (h:PdqI R0 n a b g) (hp:Sort.PermIn a.toNat b.toNat g.toArray d):PdqI R0 n a b d.toList:=by
 have hb:=h.bl
 have ha:=h.a0
 have hs:=hp.1
 simp at hs
 refine⟨ha,h.ab,by simp;omega,by simp;rw[hs];exact h.n,?_,fun R h1 h2=>h.u R (Sort.permIn_trans _ _ _ _ _ hp (by simpa using h1)) h2⟩
 simpa using h.be.perm (by simp;omega) hp
theorem PdqI.ins {R0:Array Int} {n:Nat} {a b:Int} {g:List Int} (h:PdqI R0 n a b g):insS g a b=R0.toList:=by
 obtain⟨h1,h2⟩:=ktc h.a0 h.ab h.bl
 rw[←h.u _ h1 h2]
theorem PdqI.heap {R0:Array Int} {n:Nat} {a b:Int} {g:List Int} (h:PdqI R0 n a b g):heapS g a b=R0.toList:=by
 obtain⟨h1,h2⟩:=k1pm h.a0 h.ab h.bl
 rw[←h.u _ h1 h2]
theorem PdqI.brk {R0:Array Int} {n:Nat} {a b:Int} {g:List Int} (h:PdqI R0 n a b g):PdqI R0 n a b (brkS g a b):=by
 have h1:=h.a0
 have h2:=h.ab
 have h3:=h.bl
 exact h.perm (Sort.breakPatterns_holds g.toArray a.toNat b.toNat (by omega) (by simp;omega))
theorem PdqI.rev {R0:Array Int} {n:Nat} {a b:Int} {g:List Int} (h:PdqI R0 n a b g):PdqI R0 n a b (revS g a b):=by
 have h1:=h.a0
 have h2:=h.ab
 have h3:=h.bl
 exact h.perm (Sort.reverseRange_holds g.toArray a.toNat b.toNat (by omega) (by simp;omega))
theorem PdqI.pis {R0:Array Int} {n:Nat} {a b:Int} {g:List Int} (h:PdqI R0 n a b g) (hab:a<b):PdqI R0 n a b (pisS g a b).1.toList∧((pisS g a b).2=true→(pisS g a b).1.toList=R0.toList):=by
 have h1:=h.a0
 have h2:=h.ab
 have h3:=h.bl
 obtain⟨q1,q2⟩:=Sort.partialInsertionSort_holds (lt:=Sort.ltInt) Sort.swo_ltInt g.toArray a.toNat b.toNat (by omega) (by simp;omega) h.be
 exact⟨h.perm q1,fun e=>by rw[←h.u _ q1 (q2 e)];rfl⟩
theorem PdqI.peq {R0:Array Int} {n:Nat} {a b p:Int} {g:List Int} (h:PdqI R0 n a b g) (ha:0<a) (h1:a≤p) (h2:p<b) (hn:¬ix g (a-1)<ix g p):a<(peqS g a b p).1∧(peqS g a b p).1≤b∧PdqI R0 n (peqS g a b p).1 b (peqS g a b p).2.toList:=by
 have h3:=h.bl
 have e1:g.toArray[a.toNat-1]! =ix g (a-1):=by rw[show a.toNat-1=(a-1).toNat by omega];exact arr_ix (by omega) (by omega)
 have e2:g.toArray[p.toNat]! =ix g p:=arr_ix (by omega) (by omega)
 obtain⟨q1,q2,q3,q4,q5⟩:=Sort.round_eq (lt:=Sort.ltInt) (d3:=g.toArray) (d4:=(peqS g a b p).2) (a:=a.toNat) (b:=b.toNat) (pivot:=p.toNat) (mid:=(peqS g a b p).1) Sort.swo_ltInt (Sort.partitionEqual_holds Sort.ltInt) (by omega) (by omega) (by omega) (by simp;omega) h.be (by rw[e1,e2,ltI_iff];exact decide_eq_false hn) rfl
 simp at q3
 refine⟨by omega,by omega,⟨by omega,by omega,by simp;omega,by simp;rw[q3];exact h.n,by simpa using q4,fun R r1 r2=> ?_⟩⟩
 simp only[Int.toNat_natCast,Array.toArray_toList]at r1 r2
 obtain⟨s1,s2⟩:=q5 R r1 r2
 exact h.u R s1 s2
theorem PdqI.part {R0:Array Int} {n:Nat} {a b p:Int} {g:List Int} (h:PdqI R0 n a b g) (h1:a≤p) (h2:p<b):a≤(partS g a b p).1∧(partS g a b p).1<b∧(partS g a b p).2.2.size=n∧
  Sort.Below Sort.ltInt a.toNat (partS g a b p).1 (partS g a b p).2.2∧Sort.Below Sort.ltInt ((partS g a b p).1+1) b.toNat (partS g a b p).2.2∧
  PdqI R0 n ((partS g a b p).1+1) b (insS (partS g a b p).2.2.toList a (partS g a b p).1)∧PdqI R0 n a (partS g a b p).1 (insS (partS g a b p).2.2.toList ((partS g a b p).1+1) b):=by
 have h3:=h.bl
 have h0:=h.a0
 obtain⟨q1,q2,q3,q4,q5,q6,q7⟩:=Sort.round_part (lt:=Sort.ltInt) (d3:=g.toArray) (d4:=(partS g a b p).2.2) (a:=a.toNat) (b:=b.toNat) (pivot:=p.toNat) (mid:=(partS g a b p).1) (ap:=(partS g a b p).2.1) Sort.swo_ltInt (Sort.partition_holds Sort.ltInt) (by omega) (by omega) (by simp;omega) h.be rfl
 simp at q3
 have hn:=h.n
 generalize partS g a b p=P at *
 obtain⟨m,ap,d⟩:=P
 dsimp only at *
 have l1:=ktc (g:=d.toList) (a:=a) (b:=m) h0 (by omega) (by simp;omega)
 have l2:=ktc (g:=d.toList) (a:=(m:Int)+1) (b:=b) (by omega) (by omega) (by simp;omega)
 simp only[Array.toArray_toList,Int.toNat_natCast]at l1 l2
 rw[show((m:Int)+1).toNat=m+1 by omega]at l2
 have n1:(insS d.toList a m).length=d.toList.length:=k1er h0 (by omega) (by simp;omega)
 have n2:(insS d.toList ((m:Int)+1) b).length=d.toList.length:=k1er (by omega) (by omega) (by simp;omega)
 simp at n1 n2
 obtain⟨w1,w2⟩:=q6 _ l1.1 l1.2
 obtain⟨w3,w4⟩:=q7 _ l2.1 l2.2
 refine⟨by omega,by omega,by omega,q4,q5,⟨by omega,by omega,by omega,by omega,by rw[show((m:Int)+1).toNat=m+1 by omega];exact w1,fun R r1 r2=> ?_⟩,⟨h0,by omega,by omega,by omega,by simpa using w3,fun R r1 r2=> ?_⟩⟩
 ·rw[show((m:Int)+1).toNat=m+1 by omega]at r1 r2
  obtain⟨s1,s2⟩:=w2 R r1 r2
  exact h.u R s1 s2
 ·simp only[Int.toNat_natCast]at r1 r2
  obtain⟨s1,s2⟩:=w4 R r1 r2
  exact h.u R s1 s2
theorem PdqI.start {g:List Int} {a b:Int} (h0:0≤a) (h1:a≤b) (h2:b≤g.length) (hB:Sort.Below Sort.ltInt a.toNat b.toNat g.toArray):PdqI (insS g a b).toArray g.length a b g:=by
 obtain⟨q1,q2⟩:=ktc h0 h1 h2
 exact⟨h0,h1,h2,rfl,hB,fun R r1 r2=>k1mz (by simp;omega) r1 r2 q1 q2⟩
structure CR where
 n:Int
 t:TTranscript
 o:OS
def chO (o:OS) (t:TTranscript) (p:Int):CR:=if p=0 then⟨0,t,o⟩else⟨Int.tmod (hO o 19 [t.State,t.Count]).n p,⟨t.State,IntKind.u64.wrap (t.Count+1)⟩,(hO o 19 [t.State,t.Count]).o⟩
structure AR where
 t:TTranscript
 o:OS
def abO (o:OS) (t:TTranscript) (tag:Int) (l:List Int):AR:=⟨⟨(hO o 18 ([t.State,tag]++l)).n,0⟩,(hO o 18 ([t.State,tag]++l)).o⟩
structure PS where
 o:OS
 t:TTranscript
 g:List Int
def swp (g:List Int) (i j:Int):List Int:=(g.set i.toNat (ix g j)).set j.toNat (ix g i)
def posN (n i:Int) (s:PS):PS:=⟨(chO s.o s.t 18446744069414584321).o,(chO s.o s.t 18446744069414584321).t,swp s.g i (i+(chO s.o s.t 18446744069414584321).n%(n-i))⟩
def posS (n:Int):Nat→Int→PS→PS
 |0,_,s=>s
 |k+1,i,s=>posS n k (i+1) (posN n i s)
def rng (n:Nat):List Int:=(List.range n).map fun(j:Nat)=>(j:Int)
def posO (o:OS) (t:TTranscript) (n count:Int):PS:=if count<0∨n<count∨1024<n then⟨o,t,[]⟩else
 ⟨(posS n count.toNat 0 ⟨o,t,rng n.toNat⟩).o,(posS n count.toNat 0 ⟨o,t,rng n.toNat⟩).t,srt ((posS n count.toNat 0 ⟨o,t,rng n.toNat⟩).g.take count.toNat)⟩
theorem OOk.ch {o:OS} (h:OOk o) (t:TTranscript) (p:Int) (hq:o.q.length≤999999):OOk (chO o t p).o∧(chO o t p).o.q.length≤o.q.length+1∧(chO o t p).t.State=t.State∧(p=18446744069414584321→0≤(chO o t p).n∧(chO o t p).n<18446744069414584321∧U64 (chO o t p).t.Count):=by
 unfold chO
 split
 ·exact⟨h,Nat.le_succ _,rfl,fun e=>by omega⟩
 ·have h1:=h.h 19 (l:=[t.State,t.Count]) (by simp) hq
  have h2:=h.lt 19 [t.State,t.Count]
  refine⟨h1.1,h1.2.2,rfl,?_⟩
  rintro rfl
  have e:Int.tmod (hO o 19 [t.State,t.Count]).n 18446744069414584321=(hO o 19 [t.State,t.Count]).n:=by rw[tmod_nn _ _ h2.1];omega
  refine⟨by show 0≤Int.tmod _ _;rw[e];exact h2.1,by show Int.tmod _ _<_;rw[e];exact h2.2,?_⟩
  show U64 (IntKind.u64.wrap (t.Count+1))
  rw[u64w]
  omega
theorem k1t6 (g:List Int) (i j:Int) (h0:0≤i) (h1:i<g.length) (h2:0≤j) (h3:j<g.length):(swp g i j).Perm g:=k1s0 g i j h0 h1 h2 h3
theorem k1rc (g:List Int) (i j:Int):(swp g i j).length=g.length:=by unfold swp;rw[List.length_set,List.length_set]
theorem posS_ok (n:Int):∀(k:Nat) (i:Int) (s:PS),OOk s.o→0≤i→i+k≤n→(s.g.length:Int)=n→s.o.q.length+k≤999999→OOk (posS n k i s).o∧(posS n k i s).g.Perm s.g∧(posS n k i s).t.State=s.t.State∧(posS n k i s).o.q.length≤s.o.q.length+k
 |0,_,s,h,_,_,_,_=>⟨h,List.Perm.refl _,rfl,Nat.le_refl _⟩
 |k+1,i,s,h,h0,h1,h2,h3=>by
  obtain⟨e1,e2,e3,e4⟩:=h.ch s.t 18446744069414584321 (by omega)
  obtain⟨e5,e6,e7⟩:=e4 rfl
  have hj:0≤(chO s.o s.t 18446744069414584321).n%(n-i)∧(chO s.o s.t 18446744069414584321).n%(n-i)<n-i:=⟨Int.emod_nonneg _ (by omega),Int.emod_lt_of_pos _ (by omega)⟩
  have hl:(posN n i s).g.length=s.g.length:=k1rc _ _ _
  have hq:(posN n i s).o.q.length≤s.o.q.length+1:=e2
  obtain⟨q1,q2,q3,q4⟩:=posS_ok n k (i+1) (posN n i s) e1 (by omega) (by omega) (by omega) (by omega)
  exact⟨q1,q2.trans (k1t6 s.g i _ h0 (by omega) (by omega) (by omega)),q3.trans e3,by show(posS n k (i+1) (posN n i s)).o.q.length≤_;omega⟩
theorem k1hq (n:Nat):(rng n).length=n:=by simp[rng]
theorem RR.ch {o:OS} (h:RR o) {t:TTranscript} {p:Int} (h1:U64 t.State) (h2:U64 t.Count) (hp:p≠0):
  (chO o t p).n=Int.tmod (valH 19 [t.State,t.Count]) p∧(chO o t p).t=⟨t.State,(t.Count+1)%18446744073709551616⟩∧(chO o t p).o.q=askQ o.q 19 [t.State,t.Count]∧RR (chO o t p).o:=by
 obtain⟨e1,e2,e3⟩:=h.h (label:=19) (l:=[t.State,t.Count]) (by decide) (us2 (l:=[]) h1 h2 (fun x hx=>by cases hx))
 unfold chO
 rw[if_neg hp]
 exact⟨by show Int.tmod (hO _ _ _).n p=_;rw[e1],by rw[u64w],e2,e3⟩
theorem k1sx {o:OS} (h:OOk o) (t:TTranscript) {n c:Int} (hc:0≤c∧c≤n) (hn:n≤1024) (hq:o.q.length≤900000):((posO o t n c).g.length:Int)=c:=by
 have hl:=k1hq n.toNat
 obtain⟨_,h2,_,_⟩:=posS_ok n c.toNat 0 ⟨o,t,rng n.toNat⟩ h (by omega) (by omega) (by show((rng n.toNat).length:Int)=n;omega) (by show o.q.length+_≤_;omega)
 have h3:=h2.length_eq
 have h3:(posS n c.toNat 0 ⟨o,t,rng n.toNat⟩).g.length=(rng n.toNat).length:=h3
 unfold posO
 rw[if_neg (by omega)]
 show((srt (List.take c.toNat _)).length:Int)=c
 rw[k1gz,List.length_take]
 omega
def isNum (n:Int):Bool:=decide (1≤n)&&(decide (n≤1024)&&(iand .i64 n (IntKind.i64.wrap (n-1))==0))
structure LS where
 o:OS
 g:List Int
def leafO (o:OS):List Int→List (List Int)→LS
 |s::ss,l::ls=>⟨(leafO (hO o 16 (s::l)).o ss ls).o,(hO o 16 (s::l)).n::(leafO (hO o 16 (s::l)).o ss ls).g⟩
 |_,_=>⟨o,[]⟩
def pairO (o:OS):List Int→LS
 |a::b::r=>⟨(pairO (hO o 17 [a,b]).o r).o,(hO o 17 [a,b]).n::(pairO (hO o 17 [a,b]).o r).g⟩
 |_=>⟨o,[]⟩
structure VS where
 o:OS
 g:List (List Int)
def lvlO:Nat→OS→List Int→VS
 |0,o,l=>⟨o,[l]⟩
 |k+1,o,l=>if 1<l.length then⟨(lvlO k (pairO o l).o (pairO o l).g).o,l::(lvlO k (pairO o l).o (pairO o l).g).g⟩else⟨o,[l]⟩
structure CM where
 t:TTree
 e:Int
 o:OS
def comOk (ls:List (List Int)) (ss:List Int):Bool:=isNum (ls.length:Int)&&(((ss.length:Int)==(ls.length:Int))&&(allB ss&&ls.all allB))
def comO (o:OS) (ls:List (List Int)) (ss:List Int):CM:=if comOk ls ss=true then⟨⟨(lvlO 1024 (leafO o ss ls).o (leafO o ss ls).g).g⟩,0,(lvlO 1024 (leafO o ss ls).o (leafO o ss ls).g).o⟩else⟨⟨[]⟩,1,o⟩
def wfB:Int→List (List Int)→Bool
 |s,[]=>s==0
 |s,l::r=> !(s==0)&&(((l.length:Int)==s)&&wfB (s/2) r)
def wfT (t:TTree):Bool:= !((t.Levels.length:Int)==0)&&(isNum ((ix t.Levels 0).length:Int)&&wfB ((ix t.Levels 0).length:Int) t.Levels)
def rootT (t:TTree):Int:=if wfT t=true then ix (ix t.Levels ((t.Levels.length:Int)-1)) 0 else 0
def pathL:List (List Int)→Int→List Int
 |[],_=>[]
 |l::r,i=>ix l (ixor .i64 i 1)::pathL r (i/2)
def pathT (t:TTree) (i:Int):List Int:=if wfT t=true∧0≤i∧i<((ix t.Levels 0).length:Int)then pathL (t.Levels.take ((t.Levels.length:Int)-1).toNat) i else []
theorem kxm:∀(l:List Int) (o:OS),(pairO o l).g.length=l.length/2
 |[],_=>rfl
 |[_],_=>by simp[pairO]
 |a::b::r,o=>by
  show(pairO _ r).g.length+1=(r.length+1+1)/2
  rw[kxm r];omega
theorem kxf:∀(ss:List Int) (ls:List (List Int)) (o:OS),ss.length=ls.length→(leafO o ss ls).g.length=ls.length
 |[],[],_,_=>rfl
 |[],_::_,_,h=>by simp at h
 |_::_,[],_,h=>by simp at h
 |s::ss,l::ls,o,h=>by
  show(leafO _ ss ls).g.length+1=ls.length+1
  rw[kxf ss ls _ (by simpa using h)]
def pathFit:List (List Int)→Int→Bool
 |[],_=>true
 |l::r,i=>(decide (0≤ixor .i64 i 1)&&decide (ixor .i64 i 1<(l.length:Int)))&&pathFit r (i/2)
theorem k1nq:∀(L:List (List Int)) (s:Int),wfB s L=true→1≤s→s≤1000000000→L≠[]∧(0:Int)<((ix L ((L.length:Int)-1)).length:Int)
 |[],s,h,h1,_=>by
  unfold wfB at h
  have:s=0:=by simpa using h
  omega
 |[l],s,h,h1,_=>by
  unfold wfB at h
  simp only[Bool.and_eq_true,beq_iff_eq]at h
  refine⟨by simp,?_⟩
  show(0:Int)<(l.length:Int)
  omega
 |l::m::r,s,h,h1,h2=>by
  unfold wfB at h
  simp only[Bool.and_eq_true,beq_iff_eq]at h
  have h0:1≤s/2:=by
   have:=h.2.2
   unfold wfB at this
   simp only[Bool.and_eq_true,Bool.not_eq_true',beq_eq_false_iff_ne]at this
   have:=this.1
   omega
  obtain⟨_,q⟩:=k1nq (m::r) (s/2) h.2.2 h0 (by omega)
  refine⟨by simp,?_⟩
  have e:(ix (l::m::r) (((l::m::r).length:Int)-1):List Int)=ix (m::r) (((m::r).length:Int)-1):=by
   rw[ix_nat _ _ (by simp only[List.length_cons];omega) (by simp only[List.length_cons];omega),ix_nat _ _ (by simp only[List.length_cons];omega) (by simp only[List.length_cons];omega)]
   have:(((l::m::r).length:Int)-1).toNat=((((m::r).length:Int)-1).toNat)+1:=by simp
   simp only[this,List.getElem_cons_succ]
  rw[e];exact q
theorem wfT_len {t:TTree} (h:wfT t=true):¬(t.Levels.length:Int)=0∧isNum ((ix t.Levels 0).length:Int)=true∧wfB ((ix t.Levels 0).length:Int) t.Levels=true:=by
 unfold wfT at h
 simp only[Bool.and_eq_true,Bool.not_eq_true',beq_eq_false_iff_ne]at h
 exact h
theorem k1lh {n:Int} (h:isNum n=true):1≤n∧n≤1024:=by
 unfold isNum at h
 simp only[Bool.and_eq_true,decide_eq_true_eq]at h
 exact⟨h.1,h.2.1⟩
theorem k1or {t:TTree} (h:wfT t=true):(0:Int)<((ix t.Levels ((t.Levels.length:Int)-1)).length:Int):=by
 obtain⟨h1,h2,h3⟩:=wfT_len h
 have:=k1lh h2
 exact(k1nq _ _ h3 (by omega) (by omega)).2
theorem k1sf:((List.range 1025).all fun n=> !isNum (n:Int)||[1,2,4,8,16,32,64,128,256,512,1024].contains n)=true:=by decide +kernel
theorem k1ud:((List.range 1024).all fun i=>ixor .i64 (i:Int) 1==(if i%2=0 then(i:Int)+1 else(i:Int)-1))=true:=by decide +kernel
def isP (s:Int):Prop:=s=1∨s=2∨s=4∨s=8∨s=16∨s=32∨s=64∨s=128∨s=256∨s=512∨s=1024
theorem isNum_P {n:Int} (h:isNum n=true):isP n:=by
 have hr:=k1lh h
 have:=List.all_eq_true.1 k1sf n.toNat (List.mem_range.2 (by omega))
 rw[show((n.toNat:Nat):Int)=n by omega,h]at this
 simp at this
 unfold isP
 omega
theorem ixor1 {i:Int} (h0:0≤i) (h1:i<1024):ixor .i64 i 1=if i%2=0 then i+1 else i-1:=by
 have:=List.all_eq_true.1 k1ud i.toNat (List.mem_range.2 (by omega))
 rw[show((i.toNat:Nat):Int)=i by omega]at this
 rw[beq_iff_eq.1 this]
 by_cases h:i%2=0
 ·rw[if_pos h,if_pos (by omega)]
 ·rw[if_neg h,if_neg (by omega)]
theorem k1hf:∀(L:List (List Int)) (s i:Int),wfB s L=true→isP s→0≤i→i<s→pathFit (L.take ((L.length:Int)-1).toNat) i=true
 |[],_,_,_,_,_,_=>rfl
 |[l],_,_,_,_,_,_=>rfl
 |l::m::r,s,i,h,hp,h0,h1=>by
  unfold wfB at h
  simp only[Bool.and_eq_true,beq_iff_eq]at h
  have hs:1≤s/2:=by
   have:=h.2.2
   unfold wfB at this
   simp only[Bool.and_eq_true,Bool.not_eq_true',beq_eq_false_iff_ne]at this
   have:=this.1
   unfold isP at hp
   omega
  have hp2:isP (s/2)∧s%2=0:=by
   unfold isP at hp ⊢
   omega
  have h1024:s≤1024:=by unfold isP at hp;omega
  have:=k1hf (m::r) (s/2) (i/2) h.2.2 hp2.1 (by omega) (by omega)
  have e:(((l::m::r).length:Int)-1).toNat=(((m::r).length:Int)-1).toNat+1:=by simp
  rw[e,List.take_succ_cons]
  unfold pathFit
  rw[this,ixor1 h0 (by omega)]
  simp only[Bool.and_true,Bool.and_eq_true,decide_eq_true_eq]
  split<;>omega
theorem wfT_fit {t:TTree} (h:wfT t=true) {i:Int} (h0:0≤i) (h1:i<((ix t.Levels 0).length:Int)):pathFit (t.Levels.take ((t.Levels.length:Int)-1).toNat) i=true:=by
 obtain⟨_,h2,h3⟩:=wfT_len h
 exact k1hf _ _ _ h3 (isNum_P h2) h0 h1
theorem k117:∀(ss:List Int) (ls:List (List Int)) (o:OS),OOk o→(∀l∈ls,l.length≤999999999)→o.q.length+ls.length≤999999→OOk (leafO o ss ls).o∧(leafO o ss ls).o.q.length≤o.q.length+ls.length∧Us (leafO o ss ls).g
 |[],ls,o,h,_,_=>by
  cases ls<;>exact⟨h,by show o.q.length≤_;omega,fun x hx=>by cases hx⟩
 |_::_,[],o,h,_,_=>⟨h,by show o.q.length≤_;omega,fun x hx=>by cases hx⟩
 |s::ss,l::ls,o,h,hl,hn=>by
  simp only[List.length_cons]at hn
  obtain⟨e1,e2,e3⟩:=h.h 16 (l:=s::l) (by have:=hl l (by simp);simp;omega) (by omega)
  obtain⟨q1,q2,q3⟩:=k117 ss ls (hO o 16 (s::l)).o e1 (fun x hx=>hl x (by simp[hx])) (by omega)
  refine⟨q1,by simp only[List.length_cons];show(leafO _ ss ls).o.q.length≤_;omega,fun x hx=> ?_⟩
  rcases List.mem_cons.1 hx with rfl|hx
  ·have:=h.lt 16 (s::l);omega
  ·exact q3 x hx
theorem k10s:∀(l:List Int) (o:OS),OOk o→o.q.length+l.length≤999999→OOk (pairO o l).o∧(pairO o l).o.q.length≤o.q.length+l.length/2∧Us (pairO o l).g
 |[],o,h,_=>⟨h,by show o.q.length≤_;omega,fun x hx=>by cases hx⟩
 |[_],o,h,_=>⟨h,by show o.q.length≤_;omega,fun x hx=>by cases hx⟩
 |a::b::r,o,h,hn=>by
  simp only[List.length_cons]at hn
  obtain⟨e1,e2,e3⟩:=h.h 17 (l:=[a,b]) (by simp) (by omega)
  obtain⟨q1,q2,q3⟩:=k10s r (hO o 17 [a,b]).o e1 (by omega)
  refine⟨q1,by simp only[List.length_cons];show(pairO _ r).o.q.length≤_;omega,fun x hx=> ?_⟩
  rcases List.mem_cons.1 hx with rfl|hx
  ·have:=h.lt 17 [a,b];omega
  ·exact q3 x hx
theorem lvlO_ok:∀(k:Nat) (l:List Int) (o:OS),OOk o→o.q.length+l.length≤900000→OOk (lvlO k o l).o∧(lvlO k o l).o.q.length≤o.q.length+l.length
 |0,l,o,h,_=>⟨h,by show o.q.length≤_;omega⟩
 |k+1,l,o,h,hn=>by
  unfold lvlO
  split
  ·rename_i hc
   obtain⟨q1,q2,q3⟩:=k10s l o h (by omega)
   have hp:=kxm l o
   obtain⟨r1,r2⟩:=lvlO_ok k (pairO o l).g (pairO o l).o q1 (by omega)
   exact⟨r1,by show(lvlO k _ _).o.q.length≤_;omega⟩
  ·exact⟨h,by show o.q.length≤_;omega⟩
theorem kn3 {ls:List (List Int)} {ss:List Int} (h:comOk ls ss=true):ss.length=ls.length∧ls.length≤1024∧1≤ls.length∧allB ss=true∧ls.all allB=true:=by
 unfold comOk isNum at h
 simp only[Bool.and_eq_true,beq_iff_eq,decide_eq_true_eq]at h
 obtain⟨⟨h1,h2,_⟩,h3,h4,h5⟩:=h
 exact⟨by omega,by omega,by omega,h4,h5⟩
theorem comO_ok {o:OS} {ls:List (List Int)} {ss:List Int} (h:OOk o) (hl:∀l∈ls,l.length≤999999999) (hn:o.q.length≤800000):OOk (comO o ls ss).o∧(comO o ls ss).o.q.length≤o.q.length+2048:=by
 unfold comO
 split
 ·rename_i hc
  obtain⟨h1,h2,_⟩:=kn3 hc
  obtain⟨q1,q2,_⟩:=k117 ss ls o h hl (by omega)
  have hg:=kxf ss ls o h1
  obtain⟨r1,r2⟩:=lvlO_ok 1024 (leafO o ss ls).g (leafO o ss ls).o q1 (by omega)
  exact⟨r1,by show(lvlO _ _ _).o.q.length≤_;omega⟩
 ·exact⟨h,by show o.q.length≤_;omega⟩
theorem k1ru {o:OS} (h:RR o) {s:Int} {l:List Int} (hs:U64 s) (hl:Us l) (hc:comOk [l] [s]=true):(comO o [l] [s]).t=⟨[[valH 16 (s::l)]]⟩∧(comO o [l] [s]).e=0∧RR (comO o [l] [s]).o:=by
 have hu:Us (s::l):=fun x hx=>by
  rcases List.mem_cons.1 hx with rfl|hx
  ·exact hs
  ·exact hl x hx
 obtain⟨e1,e2,e3⟩:=h.h (label:=16) (l:=s::l) (by decide) hu
 unfold comO
 rw[if_pos hc]
 refine⟨?_,rfl,e3⟩
 show(⟨[[(hO o 16 (s::l)).n]]⟩:TTree)=_
 rw[e1]
def Uq (q:List TQuestion):Prop:=∀x∈q,∀y∈q,x.Label=y.Label→x.Elems=y.Elems→x=y
structure RT (o p:OS):Prop where
 ro:RO o
 rp:RO p
 ao:o.a=true
 ap:p.a=true
 b:o.b=p.b
 c:o.c=p.c
 uo:Uq o.q
 up:Uq p.q
 s:∀x∈o.q,x.Label≠16→x∈p.q
 t:∀x∈p.q,x.Label≠16→x∈o.q
theorem hO_new {o:OS} (h:RO o) (ha:o.a=true) {label:Int} {l:List Int} (hu:U64 label) (hl:Us l) (hb:allB l=true) (hn:∀x∈o.q,¬(x.Label=label∧x.Elems=l)):
  (hO o label l).n=mixN (IntKind.u64.wrap (o.b+11400714819323198485))∧(hO o label l).o.q=o.q++[⟨label,l,mixN (IntKind.u64.wrap (o.b+11400714819323198485))⟩]∧(hO o label l).o.a=true∧(hO o label l).o.b=IntKind.u64.wrap (o.b+11400714819323198485)∧(hO o label l).o.c=IntKind.i64.wrap (o.c+1):=by
 have hm:mHas (BEq.beq (keyB [label] l)) o.k=false:=by
  rcases h.find hu hl with⟨h1,_⟩|⟨_,x,hx,_,h3⟩
  ·exact h1
  ·exact(hn x hx h3).elim
 have ea:ansO o label l=⟨mixN (IntKind.u64.wrap (o.b+11400714819323198485)),⟨o.a,IntKind.u64.wrap (o.b+11400714819323198485),IntKind.i64.wrap (o.c+1),o.q,o.k,o.v,o.s,o.t,o.x,o.y⟩⟩:=by
  unfold ansO drO
  rw[if_pos ha,if_pos ha]
 unfold hO
 rw[if_pos hb,if_neg (by rw[hm];decide),ea]
 exact⟨rfl,rfl,ha,rfl,rfl⟩
theorem hO_old {o:OS} (h:RO o) {label:Int} {l:List Int} (hu:U64 label) (hl:Us l) (hb:allB l=true) (hq:Uq o.q) {x:TQuestion} (hx:x∈o.q) (h1:x.Label=label) (h2:x.Elems=l):hO o label l=⟨x.Answer,o⟩:=by
 rcases h.find hu hl with⟨_,h4⟩|⟨h4,y,hy,h5,h6,h7⟩
 ·exact(h4 x hx ⟨h1,h2⟩).elim
 ·have:x=y:=hq x hx y hy (by rw[h1,h6]) (by rw[h2,h7])
  subst this
  unfold hO
  rw[if_pos hb,if_pos h4,h5]
theorem Uq.snoc {q:List TQuestion} (h:Uq q) {z:TQuestion} (hn:∀x∈q,¬(x.Label=z.Label∧x.Elems=z.Elems)):Uq (q++[z]):=by
 intro x hx y hy h1 h2
 rcases List.mem_append.1 hx with hx|hx<;>rcases List.mem_append.1 hy with hy|hy
 ·exact h x hx y hy h1 h2
 ·rw[List.mem_singleton.1 hy]at h1 h2;exact(hn x hx ⟨h1,h2⟩).elim
 ·rw[List.mem_singleton.1 hx]at h1 h2;exact(hn y hy ⟨h1.symm,h2.symm⟩).elim
 ·rw[List.mem_singleton.1 hx,List.mem_singleton.1 hy]
theorem RT.ask {o p:OS} (h:RT o p) {label:Int} {l:List Int} (hu:U64 label) (hl:Us l) (hne:label≠16):(hO o label l).n=(hO p label l).n∧RT (hO o label l).o (hO p label l).o:=by
 by_cases hb:allB l=true
 ·by_cases hk:∃x∈o.q,x.Label=label∧x.Elems=l
  ·obtain⟨x,hx,h1,h2⟩:=hk
   have hx' :=h.s x hx (by rw[h1];exact hne)
   rw[hO_old h.ro hu hl hb h.uo hx h1 h2,hO_old h.rp hu hl hb h.up hx' h1 h2]
   exact⟨rfl,h⟩
  ·have no:∀x∈o.q,¬(x.Label=label∧x.Elems=l):=fun x hx hh=>hk ⟨x,hx,hh⟩
   have np:∀x∈p.q,¬(x.Label=label∧x.Elems=l):=fun x hx hh=>no x (h.t x hx (by rw[hh.1];exact hne)) hh
   obtain⟨a1,a2,a3,a4,a5⟩:=hO_new h.ro h.ao hu hl hb no
   obtain⟨b1,b2,b3,b4,b5⟩:=hO_new h.rp h.ap hu hl hb np
   rw[←h.b]at b1 b2 b4
   rw[←h.c]at b5
   refine⟨by rw[a1,b1],⟨h.ro.h hu hl,h.rp.h hu hl,a3,b3,by rw[a4,b4],by rw[a5,b5],by rw[a2];exact h.uo.snoc no,by rw[b2];exact h.up.snoc np,?_,?_⟩⟩
   ·rw[a2,b2]
    intro x hx hx16
    rcases List.mem_append.1 hx with hx|hx
    ·exact List.mem_append_left _ (h.s x hx hx16)
    ·exact List.mem_append_right _ hx
   ·rw[a2,b2]
    intro x hx hx16
    rcases List.mem_append.1 hx with hx|hx
    ·exact List.mem_append_left _ (h.t x hx hx16)
    ·exact List.mem_append_right _ hx
 ·have e:∀z:OS,hO z label l=⟨0,z⟩:=fun z=>by unfold hO;rw[if_neg hb]
  rw[e,e]
  exact⟨rfl,h⟩
theorem RT.leaf {o p:OS} (h:RT o p) {l m:List Int} (hl:Us l) (hm:Us m) (hb:allB l=true) (hc:allB m=true) (no:∀x∈o.q,¬(x.Label=16∧x.Elems=l)) (np:∀x∈p.q,¬(x.Label=16∧x.Elems=m)):
  (hO o 16 l).n=(hO p 16 m).n∧RT (hO o 16 l).o (hO p 16 m).o∧(∀x∈(hO o 16 l).o.q,x∈o.q∨x.Elems=l)∧(∀x∈(hO p 16 m).o.q,x∈p.q∨x.Elems=m):=by
 have hu:U64 16:=by decide
 obtain⟨a1,a2,a3,a4,a5⟩:=hO_new h.ro h.ao hu hl hb no
 obtain⟨b1,b2,b3,b4,b5⟩:=hO_new h.rp h.ap hu hm hc np
 rw[←h.b]at b1 b2 b4
 rw[←h.c]at b5
 refine⟨by rw[a1,b1],⟨h.ro.h hu hl,h.rp.h hu hm,a3,b3,by rw[a4,b4],by rw[a5,b5],by rw[a2];exact h.uo.snoc no,by rw[b2];exact h.up.snoc np,?_,?_⟩,?_,?_⟩
 ·rw[a2,b2]
  intro x hx hx16
  rcases List.mem_append.1 hx with hx|hx
  ·exact List.mem_append_left _ (h.s x hx hx16)
  ·rw[List.mem_singleton.1 hx]at hx16;exact(hx16 rfl).elim
 ·rw[a2,b2]
  intro x hx hx16
  rcases List.mem_append.1 hx with hx|hx
  ·exact List.mem_append_left _ (h.t x hx hx16)
  ·rw[List.mem_singleton.1 hx]at hx16;exact(hx16 rfl).elim
 ·rw[a2]
  intro x hx
  rcases List.mem_append.1 hx with hx|hx
  ·exact .inl hx
  ·rw[List.mem_singleton.1 hx];exact .inr rfl
 ·rw[b2]
  intro x hx
  rcases List.mem_append.1 hx with hx|hx
  ·exact .inl hx
  ·rw[List.mem_singleton.1 hx];exact .inr rfl
theorem k1b7 {s:Int} {l:List Int}:allB (s::l)=(decide (s<18446744069414584321)&&allB l):=rfl
theorem us_cons {s:Int} {l:List Int} (hs:U64 s) (hl:Us l):Us (s::l):=fun x hx=>by
 rcases List.mem_cons.1 hx with rfl|hx
 ·exact hs
 ·exact hl x hx
theorem RT.leaves:∀(ss ss' :List Int) (ls ls' :List (List Int)) (o p:OS),RT o p→ss.length=ls.length→ss'.length=ls'.length→ls.length=ls'.length→Us ss→Us ss'→(∀l∈ls,Us l)→(∀l∈ls',Us l)→allB ss=true→allB ss' =true→ls.all allB=true→ls'.all allB=true→ss.Nodup→ss'.Nodup→
  (∀x∈o.q,∀s∈ss,∀l,x.Elems≠s::l)→(∀x∈p.q,∀s∈ss',∀l,x.Elems≠s::l)→(leafO o ss ls).g=(leafO p ss' ls').g∧RT (leafO o ss ls).o (leafO p ss' ls').o
 |[],[],[],[],o,p,h,_,_,_,_,_,_,_,_,_,_,_,_,_,_,_=>⟨rfl,h⟩
 |s::ss,s' ::ss',l::ls,l' ::ls',o,p,h,e1,e2,e3,u1,u2,u3,u4,b1,b2,b3,b4,n1,n2,k1,k2=>by
  simp only[k1b7,List.all_cons,Bool.and_eq_true,decide_eq_true_eq]at b1 b2 b3 b4
  have hu:Us (s::l):=us_cons (u1 s (by simp)) (u3 l (by simp))
  have hu' :Us (s' ::l'):=us_cons (u2 s' (by simp)) (u4 l' (by simp))
  obtain⟨q1,q2,q3,q4⟩:=h.leaf hu hu' (by rw[k1b7];simp[b1.1,b3.1]) (by rw[k1b7];simp[b2.1,b4.1]) (fun x hx hh=>k1 x hx s (by simp) l hh.2) (fun x hx hh=>k2 x hx s' (by simp) l' hh.2)
  rw[List.nodup_cons]at n1 n2
  obtain⟨r1,r2⟩:=RT.leaves ss ss' ls ls' _ _ q2 (by simpa using e1) (by simpa using e2) (by simpa using e3) (fun x hx=>u1 x (by simp[hx])) (fun x hx=>u2 x (by simp[hx])) (fun x hx=>u3 x (by simp[hx])) (fun x hx=>u4 x (by simp[hx])) b1.2 b2.2 b3.2 b4.2 n1.2 n2.2
   (fun x hx t ht m hm=>by
    rcases q3 x hx with hx|hx
    ·exact k1 x hx t (by simp[ht]) m hm
    ·rw[hx]at hm;injection hm with hm _;exact n1.1 (hm▸ht))
   (fun x hx t ht m hm=>by
    rcases q4 x hx with hx|hx
    ·exact k2 x hx t (by simp[ht]) m hm
    ·rw[hx]at hm;injection hm with hm _;exact n2.1 (hm▸ht))
  exact⟨by show _::_=_::_;rw[q1,r1],r2⟩
 |[],_::_,[],[],_,_,_,_,h,_,_,_,_,_,_,_,_,_,_,_,_,_=>by simp at h
 |_::_,_,[],_,_,_,_,h,_,_,_,_,_,_,_,_,_,_,_,_,_,_=>by simp at h
 |[],_,_::_,_,_,_,_,h,_,_,_,_,_,_,_,_,_,_,_,_,_,_=>by simp at h
 |_,_,[],_::_,_,_,_,_,_,h,_,_,_,_,_,_,_,_,_,_,_,_=>by simp at h
 |_,_,_::_,[],_,_,_,_,_,h,_,_,_,_,_,_,_,_,_,_,_,_=>by simp at h
 |_::_,[],_::_,_::_,_,_,_,_,h,_,_,_,_,_,_,_,_,_,_,_,_,_=>by simp at h
theorem RT.pairs:∀(l:List Int) (o p:OS),RT o p→Us l→(pairO o l).g=(pairO p l).g∧RT (pairO o l).o (pairO p l).o
 |[],_,_,h,_=>⟨rfl,h⟩
 |[_],_,_,h,_=>⟨rfl,h⟩
 |a::b::r,o,p,h,hu=>by
  obtain⟨q1,q2⟩:=h.ask (label:=17) (l:=[a,b]) (by decide) (fun x hx=>hu x (by simp at hx ⊢;rcases hx with rfl|rfl<;>simp)) (by decide)
  obtain⟨r1,r2⟩:=RT.pairs r _ _ q2 (fun x hx=>hu x (by simp[hx]))
  exact⟨by show _::_=_::_;rw[q1,r1],r2⟩
theorem RT.lvl:∀(k:Nat) (l:List Int) (o p:OS),RT o p→OOk o→Us l→o.q.length+l.length≤900000→(lvlO k o l).g=(lvlO k p l).g∧RT (lvlO k o l).o (lvlO k p l).o
 |0,_,_,_,h,_,_,_=>⟨rfl,h⟩
 |k+1,l,o,p,h,ho,hu,hn=>by
  unfold lvlO
  by_cases hc:1<l.length
  ·rw[if_pos hc,if_pos hc]
   obtain⟨q1,q2⟩:=h.pairs l _ _ hu
   obtain⟨k1,k2,k3⟩:=k10s l o ho (by omega)
   have hp:=kxm l o
   obtain⟨r1,r2⟩:=RT.lvl k (pairO o l).g _ _ q2 k1 k3 (by omega)
   rw[←q1]
   exact⟨by show _::_=_::_;rw[r1],r2⟩
  ·rw[if_neg hc,if_neg hc];exact⟨rfl,h⟩
theorem RT.com {ss ss' :List Int} {ls ls' :List (List Int)} {o p:OS} (h:RT o p) (ho:OOk o) (hc:comOk ls ss=true) (hc' :comOk ls' ss' =true) (e:ls.length=ls'.length) (u1:Us ss) (u2:Us ss') (u3:∀l∈ls,Us l) (u4:∀l∈ls',Us l) (hl:∀l∈ls,l.length≤999999999) (n1:ss.Nodup) (n2:ss'.Nodup)
  (k1:o.q=[]) (k2:p.q=[]):(comO o ls ss).t=(comO p ls' ss').t∧(comO o ls ss).e=0∧(comO p ls' ss').e=0∧RT (comO o ls ss).o (comO p ls' ss').o:=by
 obtain⟨a1,a2,a3,a4,a5⟩:=kn3 hc
 obtain⟨b1,b2,b3,b4,b5⟩:=kn3 hc'
 obtain⟨q1,q2⟩:=RT.leaves ss ss' ls ls' o p h a1 b1 e u1 u2 u3 u4 a4 b4 a5 b5 n1 n2 (by rw[k1];intro x hx;cases hx) (by rw[k2];intro x hx;cases hx)
 obtain⟨r1,r2,r3⟩:=k117 ss ls o ho hl (by rw[k1];simp;omega)
 have hg:=kxf ss ls o a1
 obtain⟨s1,s2⟩:=RT.lvl 1024 (leafO o ss ls).g _ _ q2 r1 r3 (by rw[k1]at r2;simp at r2;omega)
 unfold comO
 rw[if_pos hc,if_pos hc',←q1]
 exact⟨by show(⟨_⟩:TTree)=⟨_⟩;rw[s1],rfl,rfl,s2⟩
theorem RT.ab {o p:OS} (h:RT o p) {t:TTranscript} {tag:Int} {l:List Int} (h1:U64 t.State) (h2:U64 tag) (hl:Us l):(abO o t tag l).t=(abO p t tag l).t∧RT (abO o t tag l).o (abO p t tag l).o:=by
 obtain⟨q1,q2⟩:=h.ask (label:=18) (l:=[t.State,tag]++l) (by decide) (us2 h1 h2 hl) (by decide)
 exact⟨by show(⟨_,_⟩:TTranscript)=⟨_,_⟩;rw[q1],q2⟩
theorem RT.ch {o p:OS} (h:RT o p) {t:TTranscript} {m:Int} (h1:U64 t.State) (h2:U64 t.Count):(chO o t m).n=(chO p t m).n∧(chO o t m).t=(chO p t m).t∧RT (chO o t m).o (chO p t m).o:=by
 unfold chO
 by_cases hm:m=0
 ·rw[if_pos hm,if_pos hm];exact⟨rfl,rfl,h⟩
 ·rw[if_neg hm,if_neg hm]
  obtain⟨q1,q2⟩:=h.ask (label:=19) (l:=[t.State,t.Count]) (by decide) (us2 (l:=[]) h1 h2 (fun x hx=>by cases hx)) (by decide)
  exact⟨by show Int.tmod _ _=Int.tmod _ _;rw[q1],rfl,q2⟩
theorem RT.posS (n:Int):∀(k:Nat) (i:Int) (o p:OS) (t:TTranscript) (g:List Int),RT o p→U64 t.State→U64 t.Count→(posS n k i ⟨o,t,g⟩).g=(posS n k i ⟨p,t,g⟩).g∧(posS n k i ⟨o,t,g⟩).t=(posS n k i ⟨p,t,g⟩).t∧RT (posS n k i ⟨o,t,g⟩).o (posS n k i ⟨p,t,g⟩).o
 |0,_,_,_,_,_,h,_,_=>⟨rfl,rfl,h⟩
 |k+1,i,o,p,t,g,h,h1,h2=>by
  obtain⟨q1,q2,q3⟩:=h.ch (m:=18446744069414584321) h1 h2
  have e:(posN n i ⟨p,t,g⟩)=⟨(chO p t 18446744069414584321).o,(chO o t 18446744069414584321).t,swp g i (i+(chO o t 18446744069414584321).n%(n-i))⟩:=by
   show PS.mk _ _ _=PS.mk _ _ _
   rw[q1,q2]
  have hc:U64 (chO o t 18446744069414584321).t.State∧U64 (chO o t 18446744069414584321).t.Count:=by
   unfold chO
   rw[if_neg (by decide)]
   refine⟨h1,?_⟩
   show U64 (IntKind.u64.wrap _)
   rw[u64w];omega
  have:=RT.posS n k (i+1) (chO o t 18446744069414584321).o (chO p t 18446744069414584321).o (chO o t 18446744069414584321).t (swp g i (i+(chO o t 18446744069414584321).n%(n-i))) q3 hc.1 hc.2
  show(Proofs.Ytcilpmmlfpkdoaa.posS n k (i+1) (posN n i ⟨o,t,g⟩)).g=(Proofs.Ytcilpmmlfpkdoaa.posS n k (i+1) (posN n i ⟨p,t,g⟩)).g∧(Proofs.Ytcilpmmlfpkdoaa.posS n k (i+1) (posN n i ⟨o,t,g⟩)).t=(Proofs.Ytcilpmmlfpkdoaa.posS n k (i+1) (posN n i ⟨p,t,g⟩)).t∧RT (Proofs.Ytcilpmmlfpkdoaa.posS n k (i+1) (posN n i ⟨o,t,g⟩)).o (Proofs.Ytcilpmmlfpkdoaa.posS n k (i+1) (posN n i ⟨p,t,g⟩)).o
  rw[e]
  exact this
theorem RT.pos {o p:OS} (h:RT o p) {t:TTranscript} (n c:Int) (h1:U64 t.State) (h2:U64 t.Count):(posO o t n c).g=(posO p t n c).g∧(posO o t n c).t=(posO p t n c).t∧RT (posO o t n c).o (posO p t n c).o:=by
 unfold posO
 split
 ·exact⟨rfl,rfl,h⟩
 ·obtain⟨q1,q2,q3⟩:=RT.posS n c.toNat 0 o p t (rng n.toNat) h h1 h2
  exact⟨by show srt _=srt _;rw[q1],q2,q3⟩
theorem RT.z (seed:Int):RT (zO true seed) (zO true seed):=⟨⟨rfl,rfl,fun x hx=>by cases hx⟩,⟨rfl,rfl,fun x hx=>by cases hx⟩,rfl,rfl,rfl,rfl,(fun x hx=>by cases hx),(fun x hx=>by cases hx),(fun x hx=>by cases hx),(fun x hx=>by cases hx)⟩
def rightB (x:TList13):Bool:= !decide ((x.Leaves.length:Int)<1)&&(!decide (16<(x.Leaves.length:Int))&&(!((iand .i64 (x.Leaves.length:Int) (IntKind.i64.wrap ((x.Leaves.length:Int)-1))) !=0)&&(!((x.Salts.length:Int) !=(x.Leaves.length:Int))&&(allB x.Salts&&x.Leaves.all (fun l=>decide (l.length≤20)&&allB l)))))
def st2 (k n:Int):TA3:=permS ⟨k,n,786434⟩
def seal2 (k n a b:Int):List Int:=[((st2 k n).a0+a)%18446744069414584321,((st2 k n).a1+b)%18446744069414584321,(permS ⟨((st2 k n).a0+a)%18446744069414584321,((st2 k n).a1+b)%18446744069414584321,(st2 k n).a2⟩).a0]
def negF (x:Int):Int:=if x%18446744069414584321=0 then 0 else 18446744069414584321-x%18446744069414584321
def dec2 (k n x y:Int):List Int:=[(x+negF (st2 k n).a0)%18446744069414584321,(y+negF (st2 k n).a1)%18446744069414584321]
def tag2 (k n x y:Int):Int:=(permS ⟨x,y,(st2 k n).a2⟩).a0
theorem sub_add {x a:Int} (h0:0≤a) (h1:a<18446744069414584321):((x+a)%18446744069414584321+negF x)%18446744069414584321=a:=by
 unfold negF
 split<;>omega
structure LV (L:List (List Int)):Prop where
 n:L.length≤1000000
 l:∀l∈L,l.length≤1000000000
 u:∀l∈L,Us l
theorem lvlO_lv:∀(k:Nat) (l:List Int) (o:OS),OOk o→Us l→l.length≤1000→o.q.length+l.length≤900000→(lvlO k o l).g.length≤k+1∧∀m∈(lvlO k o l).g,m.length≤1000000000∧Us m
 |0,l,o,_,hu,hl,_=>⟨by show 1≤_;omega,fun m hm=>by rw[List.mem_singleton.1 hm];exact⟨by omega,hu⟩⟩
 |k+1,l,o,h,hu,hl,hn=>by
  unfold lvlO
  split
  ·obtain⟨q1,q2,q3⟩:=k10s l o h (by omega)
   have hp:=kxm l o
   obtain⟨r1,r2⟩:=lvlO_lv k (pairO o l).g (pairO o l).o q1 q3 (by omega) (by omega)
   refine⟨by show _+1≤_;omega,fun m hm=> ?_⟩
   rcases List.mem_cons.1 hm with rfl|hm
   ·exact⟨by omega,hu⟩
   ·exact r2 m hm
  ·exact⟨by show 1≤_;omega,fun m hm=>by rw[List.mem_singleton.1 hm];exact⟨by omega,hu⟩⟩
theorem comO_lv {o:OS} {ls:List (List Int)} {ss:List Int} (h:OOk o) (hl:∀l∈ls,l.length≤999999999) (hn:o.q.length≤800000) (h1000:ls.length≤1000):LV (comO o ls ss).t.Levels:=by
 unfold comO
 split
 ·rename_i hc
  obtain⟨h1,h2,_⟩:=kn3 hc
  obtain⟨q1,q2,q3⟩:=k117 ss ls o h hl (by omega)
  have hg:=kxf ss ls o h1
  obtain⟨r1,r2⟩:=lvlO_lv 1024 (leafO o ss ls).g (leafO o ss ls).o q1 q3 (by omega) (by omega)
  exact⟨by show(lvlO _ _ _).g.length≤_;omega,fun l hl=>(r2 l hl).1,fun l hl=>(r2 l hl).2⟩
 ·exact⟨Nat.zero_le _,(fun l hl=>by cases hl),(fun l hl=>by cases hl)⟩
theorem LV.root {t:TTree} (h:LV t.Levels):U64 (rootT t):=by
 unfold rootT
 split
 ·rename_i hw
  have h1:=k1or hw
  obtain⟨h0,_⟩:=wfT_len hw
  exact h.u _ (ix_mem _ _ (by omega) (by omega)) _ (ix_mem _ _ (by omega) h1)
 ·decide
theorem k1lj:∀(L:List (List Int)) (i:Int),(pathL L i).length=L.length
 |[],_=>rfl
 |l::r,i=>by show(pathL r _).length+1=r.length+1;rw[k1lj r]
theorem k1sg (t:TTree) (i:Int):(pathT t i).length≤t.Levels.length:=by
 unfold pathT
 split
 ·rw[k1lj,List.length_take];omega
 ·exact Nat.zero_le _
structure LU (x:TList13):Prop where
 l:x.Leaves.length≤9223372036854775807
 s:x.Salts.length≤9223372036854775807
 u:Us x.Salts
 v:∀l∈x.Leaves,Us l∧l.length≤9223372036854775807
theorem k1kr {x:TList13} (h:rightB x=true):comOk x.Leaves x.Salts=true∧x.Leaves.length≤16∧∀l∈x.Leaves,l.length≤20:=by
 unfold rightB at h
 simp only[Bool.and_eq_true,Bool.not_eq_true',decide_eq_false_iff_not,bne_eq_false_iff_eq,List.all_eq_true,decide_eq_true_eq]at h
 obtain⟨h1,h2,h3,h4,h5,h6⟩:=h
 refine⟨?_,by omega,fun l hl=>(h6 l hl).1⟩
 unfold comOk isNum
 simp only[Bool.and_eq_true,beq_iff_eq,decide_eq_true_eq,List.all_eq_true]
 exact⟨⟨by omega,by omega,h3⟩,h4,h5,fun l hl=>(h6 l hl).2⟩
theorem k1u2 (k n a b:Int) (ha:0≤a∧a<18446744069414584321) (hb:0≤b∧b<18446744069414584321):Us (seal2 k n a b)∧allB (seal2 k n a b)=true∧(seal2 k n a b).length=3∧tag2 k n (ix (seal2 k n a b) 0) (ix (seal2 k n a b) 1)=ix (seal2 k n a b) 2∧dec2 k n (ix (seal2 k n a b) 0) (ix (seal2 k n a b) 1)=[a,b]:=by
 have hp:=kbn ⟨((st2 k n).a0+a)%18446744069414584321,((st2 k n).a1+b)%18446744069414584321,(st2 k n).a2⟩
 have hl:=k175 ⟨((st2 k n).a0+a)%18446744069414584321,((st2 k n).a1+b)%18446744069414584321,(st2 k n).a2⟩
 refine⟨?_,?_,rfl,rfl,?_⟩
 ·intro x hx
  simp only[seal2,List.mem_cons,List.not_mem_nil,or_false]at hx
  rcases hx with rfl|rfl|rfl
  ·omega
  ·omega
  ·exact hp.1
 ·rw[k1t8]
  intro x hx
  simp only[seal2,List.mem_cons,List.not_mem_nil,or_false]at hx
  rcases hx with rfl|rfl|rfl
  ·omega
  ·omega
  ·exact hl
 ·show [_,_]=[a,b]
  have e1:(ix (seal2 k n a b) 0:Int)=((st2 k n).a0+a)%18446744069414584321:=rfl
  have e2:(ix (seal2 k n a b) 1:Int)=((st2 k n).a1+b)%18446744069414584321:=rfl
  rw[e1,e2,sub_add ha.1 ha.2,sub_add hb.1 hb.2]
theorem kmm.u {x:TList13} (h:kmm x):LU x:=⟨h.Leaves.1,h.Salts.1,h.Salts.2,fun l hl=>⟨(h.Leaves.2 l hl).2,(h.Leaves.2 l hl).1⟩⟩
theorem kyk {p0:Int} {p1 p2:TList13} (_:0≤p0∧p0<18446744073709551616) (h1:kmm p1) (h2:kmm p2):LU p1∧LU p2:=⟨h1.u,h2.u⟩
def k4u:Con TB.den:=Con.mk0 16 [.one (.ptr 0 0)] [.cells [.d (.bool),.d (.int .u64),.d (.int .i64),.own 1,.mp 2,.mp 3,.mp 4],.tip (.st 1),.map (.str) (.int .i64),.map (.str) (.sl (.int .u64)),.map (.str) (.bool)] (.one (.one (.d (.int .i64)))) [.cells [.d (.bool),.d (.int .u64),.d (.int .i64),.own 1,.mp 2,.mp 3,.mp 4],.tip (.st 1),.map (.str) (.int .i64),.map (.str) (.sl (.int .u64)),.map (.str) (.bool)]
abbrev k10u:=HL TB.den (hsT k4u.ins (hsOs k4u.pre))
abbrev kjy:=HL TB.den (hsV k4u.res (hsOs k4u.post))
noncomputable def kd7:Cx TB:=⟨inf,[],[],4,[]⟩
noncomputable def kkj:Code:=Try.f16.body.getD .skip
noncomputable def koz:List ResultVar:=Try.f16.results.toList
noncomputable def kz7 (o:kjy):An TB:= .no
def kkv (x:k10u) (o:kjy):Prop:=WPh TB kd7 7 5 kkj (kz7 o) (k4u.st TB x) (retTQ TB kd7 k4u koz o)
theorem k1as (o:kjy):OblH TB kd7 7 5 kkj (kz7 o) (retTQ TB kd7 k4u koz o):=
 OblH.ofC (X:=True) (by kernel_rfl) trivial
theorem k1ax {x:k10u} {o:kjy} (h:kkv x o):k4u.Snd Try.prog x o:=
 Con.soundH (c:=k4u) (C:=kd7) TBok ⟨inf_ok,all_nil,all_nil⟩ mix Try.func16 (show Try.f16.body=some kkj by kernel_rfl) (show Try.f16.ntmps=7 by kernel_rfl) (show Try.f16.results.toList=koz by kernel_rfl) rfl h (k1as o)
theorem k1de {c0_0:Bool} {c0_1:Int} {c0_2:Int} {w1:List TQuestion} {w2k:List ByteArray} {w2v:List Int} {w3k:List ByteArray} {w3v:List (List Int)} {w4k:List ByteArray} {w4v:List Bool} {r0:Int} {d0_0:Bool} {d0_1:Int} {d0_2:Int} {e1:List TQuestion} {e2k:List ByteArray} {e2v:List Int} {e3k:List ByteArray} {e3v:List (List Int)} {e4k:List ByteArray} {e4v:List Bool} (h:
((w1=w1)∧c0_2=r0∧c0_0=d0_0∧c0_1=d0_1∧c0_2=d0_2∧w1=e1∧w2k=e2k∧w2v=e2v∧w3k=e3k∧w3v=e3v∧w4k=e4k∧w4v=e4v)):kkv (c0_0,c0_1,c0_2,w1,w2k,w2v,w3k,w3v,w4k,w4v,()) (r0,d0_0,d0_1,d0_2,e1,e2k,e2v,e3k,e3v,e4k,e4v,()):=WPh.of_eq (by kernel_rfl) h
theorem bd16:Callable Try.prog 16:=⟨by rw[Try.func16];kernel_rfl,by rw[Try.func16];show some _≠some _;decide⟩
theorem k19f (c0_0:Bool) (c0_1:Int) (c0_2:Int) (w1:List TQuestion) (w2k:List ByteArray) (w2v:List Int) (w3k:List ByteArray) (w3v:List (List Int)) (w4k:List ByteArray) (w4v:List Bool):kkv (c0_0,c0_1,c0_2,w1,w2k,w2v,w3k,w3v,w4k,w4v,()) ((c0_2:Int),(c0_0:Bool),(c0_1:Int),(c0_2:Int),(w1:List TQuestion),(w2k:List ByteArray),(w2v:List Int),(w3k:List ByteArray),(w3v:List (List Int)),(w4k:List ByteArray),(w4v:List Bool),()):=by
 exact k1de ⟨rfl,rfl,rfl,rfl,rfl,rfl,rfl,rfl,rfl,rfl,rfl,rfl⟩
noncomputable def kmg:Con TB.den:=k4u.totR fun x=>(fun(c0_0:Bool) (c0_1:Int) (c0_2:Int) (w1:List TQuestion) (w2k:List ByteArray) (w2v:List Int) (w3k:List ByteArray) (w3v:List (List Int)) (w4k:List ByteArray) (w4v:List Bool)=>(c0_2,c0_0,c0_1,c0_2,w1,w2k,w2v,w3k,w3v,w4k,w4v,())) x.1 x.2.1 x.2.2.1 x.2.2.2.1 x.2.2.2.2.1 x.2.2.2.2.2.1 x.2.2.2.2.2.2.1 x.2.2.2.2.2.2.2.1 x.2.2.2.2.2.2.2.2.1 x.2.2.2.2.2.2.2.2.2.1
theorem kz8:kmg.Ok Try.prog TB:=Con.ok_tot k4u bd16 fun x=>k1ax (k19f x.1 x.2.1 x.2.2.1 x.2.2.2.1 x.2.2.2.2.1 x.2.2.2.2.2.1 x.2.2.2.2.2.2.1 x.2.2.2.2.2.2.2.1 x.2.2.2.2.2.2.2.2.1 x.2.2.2.2.2.2.2.2.2.1)
theorem bd39:Callable Try.prog 39:=⟨by rw[Try.func39];kernel_rfl,by rw[Try.func39];show some _≠some _;decide⟩
def k5i:Con TB.den:=Con.mk0 39 [.one (.ptr 0 0)] [.cells [.d (.bool),.d (.int .u64),.d (.int .i64),.own 1,.mp 2,.mp 3,.mp 4],.tip (.st 1),.map (.str) (.int .i64),.map (.str) (.sl (.int .u64)),.map (.str) (.bool)] (.one (.one (.d (.int .u64)))) [.cells [.d (.bool),.d (.int .u64),.d (.int .i64),.own 1,.mp 2,.mp 3,.mp 4],.tip (.st 1),.map (.str) (.int .i64),.map (.str) (.sl (.int .u64)),.map (.str) (.bool)]
abbrev k12x:=HL TB.den (hsT k5i.ins (hsOs k5i.pre))
abbrev kl5:=HL TB.den (hsV k5i.res (hsOs k5i.post))
noncomputable def keu:Cx TB:=⟨inf,[],[],4,[]⟩
noncomputable def knl:Code:=Try.f39.body.getD .skip
noncomputable def kr1:List ResultVar:=Try.f39.results.toList
noncomputable def k110 (o:kl5):An TB:= .no
def kn5 (x:k12x) (o:kl5):Prop:=WPh TB keu 42 5 knl (k110 o) (k5i.st TB x) (retTQ TB keu k5i kr1 o)
theorem k1c5 (o:kl5):OblH TB keu 42 5 knl (k110 o) (retTQ TB keu k5i kr1 o):=
 OblH.ofC (X:=True) (by kernel_rfl) trivial
theorem k1cr {x:k12x} {o:kl5} (h:kn5 x o):k5i.Snd Try.prog x o:=
 Con.soundH (c:=k5i) (C:=keu) TBok ⟨inf_ok,all_nil,all_nil⟩ mix Try.func39 (show Try.f39.body=some knl by kernel_rfl) (show Try.f39.ntmps=42 by kernel_rfl) (show Try.f39.results.toList=kr1 by kernel_rfl) rfl h (k1c5 o)
theorem k1en {c0_0:Bool} {c0_1:Int} {c0_2:Int} {w1:List TQuestion} {w2k:List ByteArray} {w2v:List Int} {w3k:List ByteArray} {w3v:List (List Int)} {w4k:List ByteArray} {w4v:List Bool} {r0:Int} {d0_0:Bool} {d0_1:Int} {d0_2:Int} {e1:List TQuestion} {e2k:List ByteArray} {e2v:List Int} {e3k:List ByteArray} {e3v:List (List Int)} {e4k:List ByteArray} {e4v:List Bool} (h:
(((!c0_0)=true→
(w1=w1)∧0=r0∧c0_0=d0_0∧c0_1=d0_1∧c0_2=d0_2∧w1=e1∧w2k=e2k∧w2v=e2v∧w3k=e3k∧w3v=e3v∧w4k=e4k∧w4v=e4v)∧
((!c0_0)=false→
let v1:Int:=IntKind.u64.wrap (c0_1+11400714819323198485)
let v2:Int:=IntKind.u64.wrap ((ixor .u64 v1 (ishr .u64 v1 30))*13787848793156543929)
let v3:Int:=IntKind.u64.wrap ((ixor .u64 v2 (ishr .u64 v2 27))*10723151780598845931)
let v4:Int:=Int.tmod (ixor .u64 v3 (ishr .u64 v3 31)) 18446744069414584321
(w1=w1)∧v4=r0∧c0_0=d0_0∧v1=d0_1∧IntKind.i64.wrap (c0_2+1)=d0_2∧w1=e1∧w2k=e2k∧w2v=e2v∧w3k=e3k∧w3v=e3v∧w4k=e4k∧w4v=e4v))):kn5 (c0_0,c0_1,c0_2,w1,w2k,w2v,w3k,w3v,w4k,w4v,()) (r0,d0_0,d0_1,d0_2,e1,e2k,e2v,e3k,e3v,e4k,e4v,()):=WPh.of_eq (by kernel_rfl) h
theorem k1ay (c0_0:Bool) (c0_1:Int) (c0_2:Int) (w1:List TQuestion) (w2k:List ByteArray) (w2v:List Int) (w3k:List ByteArray) (w3v:List (List Int)) (w4k:List ByteArray) (w4v:List Bool):kn5 (c0_0,c0_1,c0_2,w1,w2k,w2v,w3k,w3v,w4k,w4v,()) ((((drO (OS.mk c0_0 c0_1 c0_2 w1 w2k w2v w3k w3v w4k w4v)).n):Int),(((drO (OS.mk c0_0 c0_1 c0_2 w1 w2k w2v w3k w3v w4k w4v)).o.a):Bool),(((drO (OS.mk c0_0 c0_1 c0_2 w1 w2k w2v w3k w3v w4k w4v)).o.b):Int),(((drO (OS.mk c0_0 c0_1 c0_2 w1 w2k w2v w3k w3v w4k w4v)).o.c):Int),(((drO (OS.mk c0_0 c0_1 c0_2 w1 w2k w2v w3k w3v w4k w4v)).o.q):List TQuestion),(((drO (OS.mk c0_0 c0_1 c0_2 w1 w2k w2v w3k w3v w4k w4v)).o.k):List ByteArray),(((drO (OS.mk c0_0 c0_1 c0_2 w1 w2k w2v w3k w3v w4k w4v)).o.v):List Int),(((drO (OS.mk c0_0 c0_1 c0_2 w1 w2k w2v w3k w3v w4k w4v)).o.s):List ByteArray),(((drO (OS.mk c0_0 c0_1 c0_2 w1 w2k w2v w3k w3v w4k w4v)).o.t):List (List Int)),(((drO (OS.mk c0_0 c0_1 c0_2 w1 w2k w2v w3k w3v w4k w4v)).o.x):List ByteArray),(((drO (OS.mk c0_0 c0_1 c0_2 w1 w2k w2v w3k w3v w4k w4v)).o.y):List Bool),()):=by
 refine k1en ⟨fun e=> ?_,fun e=> ?_⟩
 ·have e:c0_0=false:=by simpa using e
  subst e
  exact⟨rfl,rfl,rfl,rfl,rfl,rfl,rfl,rfl,rfl,rfl,rfl,rfl⟩
 ·have e:c0_0=true:=by simpa using e
  subst e
  exact⟨rfl,rfl,rfl,rfl,rfl,rfl,rfl,rfl,rfl,rfl,rfl,rfl⟩
noncomputable def kpp:Con TB.den:=k5i.totR fun x=>(fun(c0_0:Bool) (c0_1:Int) (c0_2:Int) (w1:List TQuestion) (w2k:List ByteArray) (w2v:List Int) (w3k:List ByteArray) (w3v:List (List Int)) (w4k:List ByteArray) (w4v:List Bool)=>((((drO (OS.mk c0_0 c0_1 c0_2 w1 w2k w2v w3k w3v w4k w4v)).n):Int),(((drO (OS.mk c0_0 c0_1 c0_2 w1 w2k w2v w3k w3v w4k w4v)).o.a):Bool),(((drO (OS.mk c0_0 c0_1 c0_2 w1 w2k w2v w3k w3v w4k w4v)).o.b):Int),(((drO (OS.mk c0_0 c0_1 c0_2 w1 w2k w2v w3k w3v w4k w4v)).o.c):Int),(((drO (OS.mk c0_0 c0_1 c0_2 w1 w2k w2v w3k w3v w4k w4v)).o.q):List TQuestion),(((drO (OS.mk c0_0 c0_1 c0_2 w1 w2k w2v w3k w3v w4k w4v)).o.k):List ByteArray),(((drO (OS.mk c0_0 c0_1 c0_2 w1 w2k w2v w3k w3v w4k w4v)).o.v):List Int),(((drO (OS.mk c0_0 c0_1 c0_2 w1 w2k w2v w3k w3v w4k w4v)).o.s):List ByteArray),(((drO (OS.mk c0_0 c0_1 c0_2 w1 w2k w2v w3k w3v w4k w4v)).o.t):List (List Int)),(((drO (OS.mk c0_0 c0_1 c0_2 w1 w2k w2v w3k w3v w4k w4v)).o.x):List ByteArray),(((drO (OS.mk c0_0 c0_1 c0_2 w1 w2k w2v w3k w3v w4k w4v)).o.y):List Bool),())) x.1 x.2.1 x.2.2.1 x.2.2.2.1 x.2.2.2.2.1 x.2.2.2.2.2.1 x.2.2.2.2.2.2.1 x.2.2.2.2.2.2.2.1 x.2.2.2.2.2.2.2.2.1 x.2.2.2.2.2.2.2.2.2.1
theorem k10z:kpp.Ok Try.prog TB:=Con.ok_tot k5i bd39 fun x=>k1cr (k1ay x.1 x.2.1 x.2.2.1 x.2.2.2.1 x.2.2.2.2.1 x.2.2.2.2.2.1 x.2.2.2.2.2.2.1 x.2.2.2.2.2.2.2.1 x.2.2.2.2.2.2.2.2.1 x.2.2.2.2.2.2.2.2.2.1)
def k5l:Con TB.den:=Con.mk0 32 [.one (.d (.sl (.int .u64)))] [] (.one (.one (.d (.sl (.int .u64))))) []
abbrev k13e:=HL TB.den (hsT k5l.ins (hsOs k5l.pre))
abbrev kl2:=HL TB.den (hsV k5l.res (hsOs k5l.post))
noncomputable def keg:Cx TB:=⟨inf,[],[],4,[]⟩
noncomputable def km3:Code:=Try.f32.body.getD .skip
noncomputable def krw:List ResultVar:=Try.f32.results.toList
noncomputable def k10v (o:kl2):An TB:= .no
def klz (x:k13e) (o:kl2):Prop:=WPh TB keg 5 0 km3 (k10v o) (k5l.st TB x) (retTQ TB keg k5l krw o)
theorem k1d0 (o:kl2):OblH TB keg 5 0 km3 (k10v o) (retTQ TB keg k5l krw o):=
 OblH.ofC (X:=True) (by kernel_rfl) trivial
theorem k1da {x:k13e} {o:kl2} (h:klz x o):k5l.Snd Try.prog x o:=
 Con.soundH (c:=k5l) (C:=keg) TBok ⟨inf_ok,all_nil,all_nil⟩ mix Try.func32 (show Try.f32.body=some km3 by kernel_rfl) (show Try.f32.ntmps=5 by kernel_rfl) (show Try.f32.results.toList=krw by kernel_rfl) rfl h (k1d0 o)
theorem k1f7 {p0:List Int} {r0:List Int} (h:
(p0.length*8≤140737488355328∧p0.length≤maxLen∧p0=r0)):klz (p0,()) (r0,()):=WPh.of_eq (by kernel_rfl) h
theorem bd32:Callable Try.prog 32:=⟨by rw[Try.func32];kernel_rfl,by rw[Try.func32];show some _≠some _;decide⟩
theorem k1au (p0:List Int) (h:p0.length≤1000000000):klz (p0,()) ((p0:List Int),()):=by
 exact k1f7 ⟨by omega,by unfold maxLen;omega,rfl⟩
noncomputable def kha:Con TB.den:=k5l.fnR (fun x=>(fun(p0:List Int)=>p0.length≤1000000000) x.1) fun x=>(fun(p0:List Int)=>(p0,())) x.1
theorem kr9:kha.Ok Try.prog TB:=Con.ok_fn k5l bd32 fun x h=>k1da (k1au x.1 h)
def k42:Con TB.den:=Con.mk0 41 [.one (.ptr 0 0),.one (.d (.str)),.one (.d (.int .u64)),.one (.d (.sl (.int .u64))),.one (.d (.int .u64))] [.cells [.d (.bool),.d (.int .u64),.d (.int .i64),.own 1,.mp 2,.mp 3,.mp 4],.tip (.st 1),.map (.str) (.int .i64),.map (.str) (.sl (.int .u64)),.map (.str) (.bool)] (.tup []) [.cells [.d (.bool),.d (.int .u64),.d (.int .i64),.own 1,.mp 2,.mp 3,.mp 4],.tip (.st 1),.map (.str) (.int .i64),.map (.str) (.sl (.int .u64)),.map (.str) (.bool)]
abbrev kze:=HL TB.den (hsT k42.ins (hsOs k42.pre))
abbrev kh4:=HL TB.den (hsV k42.res (hsOs k42.post))
noncomputable def kby:Cx TB:=⟨inf,[kha],[],4,[]⟩
noncomputable def kjm:Code:=Try.f41.body.getD .skip
noncomputable def kmb:List ResultVar:=Try.f41.results.toList
noncomputable def kxp (o:kh4):An TB:= .no
def kjs (x:kze) (o:kh4):Prop:=WPh TB kby 43 5 kjm (kxp o) (k42.st TB x) (retTQ TB kby k42 kmb o)
theorem k198 (o:kh4):OblH TB kby 43 5 kjm (kxp o) (retTQ TB kby k42 kmb o):=
 OblH.ofC (X:=True) (by kernel_rfl) trivial
theorem k19h {x:kze} {o:kh4} (h:kjs x o):k42.Snd Try.prog x o:=
 Con.soundH (c:=k42) (C:=kby) TBok ⟨inf_ok,(all_cons kr9 all_nil),all_nil⟩ mix Try.func41 (show Try.f41.body=some kjm by kernel_rfl) (show Try.f41.ntmps=43 by kernel_rfl) (show Try.f41.results.toList=kmb by kernel_rfl) rfl h (k198 o)
theorem k1br {p1:ByteArray} {p2:Int} {p3:List Int} {p4:Int} {c0_0:Bool} {c0_1:Int} {c0_2:Int} {w1:List TQuestion} {w2k:List ByteArray} {w2v:List Int} {w3k:List ByteArray} {w3v:List (List Int)} {w4k:List ByteArray} {w4v:List Bool} {d0_0:Bool} {d0_1:Int} {d0_2:Int} {e1:List TQuestion} {e2k:List ByteArray} {e2v:List Int} {e3k:List ByteArray} {e3v:List (List Int)} {e4k:List ByteArray} {e4v:List Bool} (h:
(w2k.length=w2v.length∧let v1:List ByteArray:=mPutK (BEq.beq p1) w2k p1
let v2:List Int:=mPutV (BEq.beq p1) w2k w2v (w1.length:Int)
(p3.length≤1000000000)∧w1.length=w1.length∧(w1.length+[TQuestion.mk p2 p3 p4].length)*40≤140737488355328∧w1.length+[TQuestion.mk p2 p3 p4].length≤maxLen∧(w1++[TQuestion.mk p2 p3 p4]=w1++[TQuestion.mk p2 p3 p4])∧c0_0=d0_0∧c0_1=d0_1∧c0_2=d0_2∧w1++[TQuestion.mk p2 p3 p4]=e1∧v1=e2k∧v2=e2v∧w3k=e3k∧w3v=e3v∧w4k=e4k∧w4v=e4v)):kjs (p1,p2,p3,p4,c0_0,c0_1,c0_2,w1,w2k,w2v,w3k,w3v,w4k,w4v,()) (d0_0,d0_1,d0_2,e1,e2k,e2v,e3k,e3v,e4k,e4v,()):=WPh.of_eq (by kernel_rfl) h
theorem bd41:Callable Try.prog 41:=⟨by rw[Try.func41];kernel_rfl,by rw[Try.func41];show some _≠some _;decide⟩
theorem k160 (p1:ByteArray) (p2:Int) (p3:List Int) (p4:Int) (c0_0:Bool) (c0_1:Int) (c0_2:Int) (w1:List TQuestion) (w2k:List ByteArray) (w2v:List Int) (w3k:List ByteArray) (w3v:List (List Int)) (w4k:List ByteArray) (w4v:List Bool) (h:w2k.length=w2v.length∧w1.length≤1000000∧p3.length≤1000000000):kjs (p1,p2,p3,p4,c0_0,c0_1,c0_2,w1,w2k,w2v,w3k,w3v,w4k,w4v,()) ((((recO (OS.mk c0_0 c0_1 c0_2 w1 w2k w2v w3k w3v w4k w4v) p1 p2 p3 p4).a):Bool),(((recO (OS.mk c0_0 c0_1 c0_2 w1 w2k w2v w3k w3v w4k w4v) p1 p2 p3 p4).b):Int),(((recO (OS.mk c0_0 c0_1 c0_2 w1 w2k w2v w3k w3v w4k w4v) p1 p2 p3 p4).c):Int),(((recO (OS.mk c0_0 c0_1 c0_2 w1 w2k w2v w3k w3v w4k w4v) p1 p2 p3 p4).q):List TQuestion),(((recO (OS.mk c0_0 c0_1 c0_2 w1 w2k w2v w3k w3v w4k w4v) p1 p2 p3 p4).k):List ByteArray),(((recO (OS.mk c0_0 c0_1 c0_2 w1 w2k w2v w3k w3v w4k w4v) p1 p2 p3 p4).v):List Int),(((recO (OS.mk c0_0 c0_1 c0_2 w1 w2k w2v w3k w3v w4k w4v) p1 p2 p3 p4).s):List ByteArray),(((recO (OS.mk c0_0 c0_1 c0_2 w1 w2k w2v w3k w3v w4k w4v) p1 p2 p3 p4).t):List (List Int)),(((recO (OS.mk c0_0 c0_1 c0_2 w1 w2k w2v w3k w3v w4k w4v) p1 p2 p3 p4).x):List ByteArray),(((recO (OS.mk c0_0 c0_1 c0_2 w1 w2k w2v w3k w3v w4k w4v) p1 p2 p3 p4).y):List Bool),()):=by
 obtain⟨h1,h2,h3⟩:=h
 exact k1br ⟨h1,h3,rfl,by simp;omega,by simp;unfold maxLen;omega,rfl,rfl,rfl,rfl,rfl,rfl,rfl,rfl,rfl,rfl,rfl⟩
noncomputable def kux:Con TB.den:=k42.fnR (fun x=>(fun(p1:ByteArray) (p2:Int) (p3:List Int) (p4:Int) (c0_0:Bool) (c0_1:Int) (c0_2:Int) (w1:List TQuestion) (w2k:List ByteArray) (w2v:List Int) (w3k:List ByteArray) (w3v:List (List Int)) (w4k:List ByteArray) (w4v:List Bool)=>w2k.length=w2v.length∧w1.length≤1000000∧p3.length≤1000000000) x.1 x.2.1 x.2.2.1 x.2.2.2.1 x.2.2.2.2.1 x.2.2.2.2.2.1 x.2.2.2.2.2.2.1 x.2.2.2.2.2.2.2.1 x.2.2.2.2.2.2.2.2.1 x.2.2.2.2.2.2.2.2.2.1 x.2.2.2.2.2.2.2.2.2.2.1 x.2.2.2.2.2.2.2.2.2.2.2.1 x.2.2.2.2.2.2.2.2.2.2.2.2.1 x.2.2.2.2.2.2.2.2.2.2.2.2.2.1) fun x=>(fun(p1:ByteArray) (p2:Int) (p3:List Int) (p4:Int) (c0_0:Bool) (c0_1:Int) (c0_2:Int) (w1:List TQuestion) (w2k:List ByteArray) (w2v:List Int) (w3k:List ByteArray) (w3v:List (List Int)) (w4k:List ByteArray) (w4v:List Bool)=>((((recO (OS.mk c0_0 c0_1 c0_2 w1 w2k w2v w3k w3v w4k w4v) p1 p2 p3 p4).a):Bool),(((recO (OS.mk c0_0 c0_1 c0_2 w1 w2k w2v w3k w3v w4k w4v) p1 p2 p3 p4).b):Int),(((recO (OS.mk c0_0 c0_1 c0_2 w1 w2k w2v w3k w3v w4k w4v) p1 p2 p3 p4).c):Int),(((recO (OS.mk c0_0 c0_1 c0_2 w1 w2k w2v w3k w3v w4k w4v) p1 p2 p3 p4).q):List TQuestion),(((recO (OS.mk c0_0 c0_1 c0_2 w1 w2k w2v w3k w3v w4k w4v) p1 p2 p3 p4).k):List ByteArray),(((recO (OS.mk c0_0 c0_1 c0_2 w1 w2k w2v w3k w3v w4k w4v) p1 p2 p3 p4).v):List Int),(((recO (OS.mk c0_0 c0_1 c0_2 w1 w2k w2v w3k w3v w4k w4v) p1 p2 p3 p4).s):List ByteArray),(((recO (OS.mk c0_0 c0_1 c0_2 w1 w2k w2v w3k w3v w4k w4v) p1 p2 p3 p4).t):List (List Int)),(((recO (OS.mk c0_0 c0_1 c0_2 w1 w2k w2v w3k w3v w4k w4v) p1 p2 p3 p4).x):List ByteArray),(((recO (OS.mk c0_0 c0_1 c0_2 w1 w2k w2v w3k w3v w4k w4v) p1 p2 p3 p4).y):List Bool),())) x.1 x.2.1 x.2.2.1 x.2.2.2.1 x.2.2.2.2.1 x.2.2.2.2.2.1 x.2.2.2.2.2.2.1 x.2.2.2.2.2.2.2.1 x.2.2.2.2.2.2.2.2.1 x.2.2.2.2.2.2.2.2.2.1 x.2.2.2.2.2.2.2.2.2.2.1 x.2.2.2.2.2.2.2.2.2.2.2.1 x.2.2.2.2.2.2.2.2.2.2.2.2.1 x.2.2.2.2.2.2.2.2.2.2.2.2.2.1
theorem k19p:kux.Ok Try.prog TB:=Con.ok_fn k42 bd41 fun x h=>k19h (k160 x.1 x.2.1 x.2.2.1 x.2.2.2.1 x.2.2.2.2.1 x.2.2.2.2.2.1 x.2.2.2.2.2.2.1 x.2.2.2.2.2.2.2.1 x.2.2.2.2.2.2.2.2.1 x.2.2.2.2.2.2.2.2.2.1 x.2.2.2.2.2.2.2.2.2.2.1 x.2.2.2.2.2.2.2.2.2.2.2.1 x.2.2.2.2.2.2.2.2.2.2.2.2.1 x.2.2.2.2.2.2.2.2.2.2.2.2.2.1 h)
def k3k:Con TB.den:=Con.mk0 34 [.one (.d (.sl (.int .u64)))] [] (.one (.one (.d (.bool)))) []
abbrev kzl:=HL TB.den (hsT k3k.ins (hsOs k3k.pre))
abbrev k7s:=HL TB.den (hsV k3k.res (hsOs k3k.post))
noncomputable def k7g:Cx TB:=⟨inf,[],[],4,[]⟩
noncomputable def kao:Code:=Try.f34.body.getD .skip
noncomputable def kfz:List ResultVar:=Try.f34.results.toList
def k1bl (o:k7s):=qS TB k7g 14 0 (cB (cB kao)) .no (retTQ TB k7g k3k kfz o)
def k8g:Tm:=⟨[],[],[5,6,7],[.one (.d (.sl (.int .u64))),.one (.d (.int .i64)),.one (.d (.int .i64))],0⟩
def k1aj (o:k7s) (nx1:NX TB k8g):=qM TB 0 k8g nx1 (blockT TB 0 (k1bl o))
def kc2 (o:k7s) (nx1:NX TB k8g) (i:HL TB.den k8g.hs):Prop:=WP TB k7g 14 0 (cA (cA (cB (cA (cB kao))))) .no (k8g.fill TB i) (k1aj o nx1)
noncomputable def k1al (o:k7s):An TB:= .lp [] k8g (kc2 o) fun nx1=> .no
noncomputable def kxg (o:k7s):An TB:= .nd [] .no [] (.nd [] (.nd [] .no [] (k1al o)) [] .no)
def kjo (x:kzl) (o:k7s):Prop:=WPh TB k7g 14 0 kao (kxg o) (k3k.st TB x) (retTQ TB k7g k3k kfz o)
theorem k18i (o:k7s):OblH TB k7g 14 0 kao (kxg o) (retTQ TB k7g k3k kfz o):=
 OblH.ofC (X:=((∀nx i,(kc2 o) nx i=(kc2 o) nx i)∧(∀nx1:NX TB k8g,True)∧True)) (by kernel_rfl) ⟨fun _ _=>rfl,fun _=>trivial,trivial⟩
theorem k191 {x:kzl} {o:k7s} (h:kjo x o):k3k.Snd Try.prog x o:=
 Con.soundH (c:=k3k) (C:=k7g) TBok ⟨inf_ok,all_nil,all_nil⟩ mix Try.func34 (show Try.f34.body=some kao by kernel_rfl) (show Try.f34.ntmps=14 by kernel_rfl) (show Try.f34.results.toList=kfz by kernel_rfl) rfl h (k18i o)
theorem k1a4 {p0:List Int} {r0:Bool} (h:
(Md.Loop (p0,((p0.length:Int):Int),(0:Int),()) (kc2 (r0,())))):kjo (p0,()) (r0,()):=WPh.of_eq (by kernel_rfl) h
def kx0 (r0:Bool) (k1:Int→Prop) (s5:List Int) (s6:Int) (s7:Int):Prop:=
(decide (s7<s6)=true→
(0≤s7)∧s7<(s5.length:Int)∧let v1:Bool:=decide (18446744069414584321≤(ix s5 s7))
(v1=true→
false=r0)∧
(v1=false→
k1 (IntKind.i64.wrap (s7+1):Int)))∧
(decide (s7<s6)=false→
true=r0)
theorem k18k {r0:Bool} {s5:List Int} {s6:Int} {s7:Int} (inv:Int→Prop) (μ:Int→Nat) (h0:inv s7) (hs:∀(s7:Int),inv s7→kx0 r0 (fun s7q=>inv s7q∧μ s7q<μ s7) s5 s6 s7):Md.Loop (s5,s6,s7,()) (kc2 (r0,())):=
 ⟨⟨fun s:(List Int)×Int×Int×Unit=>(s.1=s5∧s.2.1=s6)∧inv s.2.2.1,fun s:(List Int)×Int×Int×Unit=>μ s.2.2.1,⟨⟨rfl,rfl⟩,h0⟩,fun(s5p,s6p,s7p,()) ⟨⟨eq0,eq1⟩,hi⟩=>by
  have eq0:s5p=s5:=eq0;subst s5p;have eq1:s6p=s6:=eq1;subst s6p;exact mpr_of (by kernel_rfl) ((congrArg (fun k=>kx0 r0 k s5 s6 s7p) (lpk1 (⟨rfl,rfl⟩:s5=s5∧s6=s6) inv (fun s7q=>μ s7q<μ s7p))).mpr (hs s7p hi))⟩⟩
theorem bd34:Callable Try.prog 34:=⟨by rw[Try.func34];kernel_rfl,by rw[Try.func34];show some _≠some _;decide⟩
theorem k16p (p0:List Int) (h:p0.length≤9223372036854775807):kjo (p0,()) (((allB p0):Bool),()):=by
 refine k1a4 (k18k (AllI (fun x=>decide (x<18446744069414584321)) p0) (fun i=>(p0.length-i).toNat) AllI.start ?_)
 intro i hi
 refine⟨fun hh=> ?_,fun hh=>(hi.done (of_decide_eq_false hh)).symm⟩
 have hh:=of_decide_eq_true hh
 exact⟨hi.1,hh,fun e=>(hi.bad hh (by simpa using e)).symm,fun e=>hi.next hh (by omega) (by simpa using e)⟩
noncomputable def kkl:Con TB.den:=k3k.fnR (fun x=>(fun(p0:List Int)=>p0.length≤9223372036854775807) x.1) fun x=>(fun(p0:List Int)=>(((allB p0):Bool),())) x.1
theorem kx7:kkl.Ok Try.prog TB:=Con.ok_fn k3k bd34 fun x h=>k191 (k16p x.1 h)
def k2c:Con TB.den:=Con.mk0 53 [.one (.own 0),.one (.d (.int .u64))] [.tip (.int .u8)] (.one (.one (.own 0))) [.tip (.int .u8)]
abbrev ks6:=HL TB.den (hsT k2c.ins (hsOs k2c.pre))
abbrev k5q:=HL TB.den (hsV k2c.res (hsOs k2c.post))
noncomputable def k54:Cx TB:=⟨inf,[],[],4,[]⟩
noncomputable def k8h:Code:=Try.f53.body.getD .skip
noncomputable def kbj:List ResultVar:=Try.f53.results.toList
def k149 (o:k5q):=qS TB k54 16 1 (cB (cB k8h)) .no (retTQ TB k54 k2c kbj o)
def k6i:Tm:=⟨[0],[.tip (.int .u8)],[0,1,5],[.one (.own 0),.one (.d (.int .u64)),.one (.d (.int .i64))],1⟩
def k14c (o:k5q) (nx1:NX TB k6i):=qM TB 1 k6i nx1 (blockT TB 0 (k149 o))
def k9i (o:k5q) (nx1:NX TB k6i) (i:HL TB.den k6i.hs):Prop:=WP TB k54 16 1 (cA (cA (cB (cA (cB k8h))))) .no (k6i.fill TB i) (k14c o nx1)
noncomputable def k148 (o:k5q):An TB:= .lp [] k6i (k9i o) fun nx1=> .no
noncomputable def kq0 (o:k5q):An TB:= .nd [] .no [] (.nd [] (.nd [] .no [] (k148 o)) [] .no)
def kee (x:ks6) (o:k5q):Prop:=WPh TB k54 16 1 k8h (kq0 o) (k2c.st TB x) (retTQ TB k54 k2c kbj o)
theorem k12f (o:k5q):OblH TB k54 16 1 k8h (kq0 o) (retTQ TB k54 k2c kbj o):=
 OblH.ofC (X:=((∀nx i,(k9i o) nx i=(k9i o) nx i)∧(∀nx1:NX TB k6i,True)∧True)) (by kernel_rfl) ⟨fun _ _=>rfl,fun _=>trivial,trivial⟩
theorem k12h {x:ks6} {o:k5q} (h:kee x o):k2c.Snd Try.prog x o:=
 Con.soundH (c:=k2c) (C:=k54) TBok ⟨inf_ok,all_nil,all_nil⟩ mix Try.func53 (show Try.f53.body=some k8h by kernel_rfl) (show Try.f53.ntmps=16 by kernel_rfl) (show Try.f53.results.toList=kbj by kernel_rfl) rfl h (k12f o)
theorem k13y {p1:Int} {w0:List Int} {e0:List Int} (h:
((w0=w0)∧Md.Loop (p1,(0:Int),w0,()) (k9i (e0,())))):kee (p1,w0,()) (e0,()):=WPh.of_eq (by kernel_rfl) h
def kqa (e0:List Int) (k1:Int→Int→List Int→Prop) (s1:Int) (s5:Int) (g0:List Int):Prop:=
(decide (s5<8)=true→
g0.length=g0.length∧(g0.length+[IntKind.u8.wrap s1].length)*1≤140737488355328∧g0.length+[IntKind.u8.wrap s1].length≤maxLen∧(g0++[IntKind.u8.wrap s1]=g0++[IntKind.u8.wrap s1])∧k1 (ishr .u64 s1 8:Int) (IntKind.i64.wrap (s5+1):Int) (g0++[IntKind.u8.wrap s1]:List Int))∧
(decide (s5<8)=false→
(g0=g0)∧g0=e0)
theorem k12e {e0:List Int} {s1:Int} {s5:Int} {g0:List Int} (inv:Int→Int→List Int→Prop) (μ:Int→Int→List Int→Nat) (h0:inv s1 s5 g0) (hs:∀(s1:Int) (s5:Int) (g0:List Int),inv s1 s5 g0→kqa e0 (fun s1q s5q g0q=>inv s1q s5q g0q∧μ s1q s5q g0q<μ s1 s5 g0) s1 s5 g0):Md.Loop (s1,s5,g0,()) (k9i (e0,())):=
 ⟨⟨fun s:Int×Int×(List Int)×Unit=>(True)∧inv s.1 s.2.1 s.2.2.1,fun s:Int×Int×(List Int)×Unit=>μ s.1 s.2.1 s.2.2.1,⟨trivial,h0⟩,fun(s1p,s5p,g0p,()) ⟨_,hi⟩=>by
  exact mpr_of (by kernel_rfl) ((congrArg (fun k=>kqa e0 k s1p s5p g0p) (lpk3 (trivial:True) inv (fun s1q s5q g0q=>μ s1q s5q g0q<μ s1p s5p g0p))).mpr (hs s1p s5p g0p hi))⟩⟩
theorem bd53:Callable Try.prog 53:=⟨by rw[Try.func53];kernel_rfl,by rw[Try.func53];show some _≠some _;decide⟩
theorem k11u (p1:Int) (w0:List Int) (h:U64 p1∧w0.length≤137438953472):kee (p1,w0,()) (((w0++dig 8 p1):List Int),()):=by
 obtain⟨h1,h2⟩:=h
 refine k13y ⟨rfl,k12e (fun n i g=>0≤i∧i≤8∧U64 n∧n=p1/256^i.toNat∧g=w0++dig i.toNat p1) (fun _ i _=>(8-i).toNat) ⟨by omega,by omega,h1,by simp,by simp[dig]⟩ ?_⟩
 rintro n i g ⟨g0,g1,g2,g3,rfl⟩
 refine⟨fun h=> ?_,fun h=> ?_⟩
 ·have h:=of_decide_eq_true h
  rw[inc i 8 g0 h (by omega),ishr8,u8w]
  refine⟨rfl,?_,?_,rfl,⟨by omega,by omega,⟨by omega,by omega⟩,?_,?_⟩,by omega⟩
  ·simp;omega
  ·simp;unfold maxLen;omega
  ·rw[g3,show(i+1).toNat=i.toNat+1 by omega,Int.ediv_ediv_of_nonneg (Int.le_of_lt (k1rh _)),Int.pow_succ]
  ·rw[show(i+1).toNat=i.toNat+1 by omega,k1ne,List.append_assoc,g3]
 ·have h:=of_decide_eq_false h
  exact⟨rfl,by rw[show i=8 by omega];rfl⟩
noncomputable def kou:Con TB.den:=k2c.fnR (fun x=>(fun(p1:Int) (w0:List Int)=>U64 p1∧w0.length≤137438953472) x.1 x.2.1) fun x=>(fun(p1:Int) (w0:List Int)=>(((w0++dig 8 p1):List Int),())) x.1 x.2.1
theorem k14k:kou.Ok Try.prog TB:=Con.ok_fn k2c bd53 fun x h=>k12h (k11u x.1 x.2.1 h)
def k60:Con TB.den:=Con.mk0 38 [.one (.d (.sl (.int .u64))),.one (.d (.sl (.int .u64)))] [] (.one (.one (.d (.str)))) []
abbrev k1bt:=HL TB.den (hsT k60.ins (hsOs k60.pre))
abbrev k8j:=HL TB.den (hsV k60.res (hsOs k60.post))
noncomputable def k7l:Cx TB:=⟨inf,[kou],[],4,[]⟩
noncomputable def kat:Code:=Try.f38.body.getD .skip
noncomputable def kk3:List ResultVar:=Try.f38.results.toList
def k1mr (o:k8j):=qS TB k7l 39 0 (cB (cB (cB (cB kat)))) .no (retTQ TB k7l k60 kk3 o)
def kfn:Tm:=⟨[1],[.tip (.int .u8)],[5,27,28,29],[.one (.own 0),.one (.d (.sl (.int .u64))),.one (.d (.int .i64)),.one (.d (.int .i64))],2⟩
def kka (o:k8j) (nx2:NX TB kfn) (i:HL TB.den kfn.hs):Prop:=WP TB k7l 39 0 (cA (cA (cB (cA (cB (cB (cB kat))))))) .no (kfn.fill TB i) (qM TB 0 kfn nx2 (blockT TB 2 (k1mr o)))
noncomputable def k18a (o:k8j):An TB:= .nd [] .no [] (.lp [] kfn (kka o) fun nx2=> .no)
def k1n1 (o:k8j):=qS TB k7l 39 0 (cB (cB (cB kat))) (.nd [] (k18a o) [] .no) (retTQ TB k7l k60 kk3 o)
def kfi:Tm:=⟨[1],[.tip (.int .u8)],[0,5,17,18,19],[.one (.d (.sl (.int .u64))),.one (.own 0),.one (.d (.sl (.int .u64))),.one (.d (.int .i64)),.one (.d (.int .i64))],2⟩
def kkh (o:k8j) (nx1:NX TB kfi) (i:HL TB.den kfi.hs):Prop:=WP TB k7l 39 0 (cA (cA (cB (cA (cB (cB kat)))))) .no (kfi.fill TB i) (qM TB 0 kfi nx1 (blockT TB 0 (k1n1 o)))
noncomputable def k1mb (o:k8j):An TB:= .lp [.frz 0 [5]] kfi (kkh o) fun nx1=> .no
noncomputable def k1m8 (o:k8j):An TB:= .nd [] (.nd [] .no [] (k1mb o)) [] (.nd [] (k18a o) [] .no)
noncomputable def k17u (o:k8j):An TB:= .nd [] .no [] (.nd [] .no [] (k1m8 o))
def ku0 (x:k1bt) (o:k8j):Prop:=WPh TB k7l 39 0 kat (k17u o) (k60.st TB x) (retTQ TB k7l k60 kk3 o)
theorem k1jg (o:k8j):OblH TB k7l 39 0 kat (k17u o) (retTQ TB k7l k60 kk3 o):=
 OblH.ofC (X:=((∀nx i,(kkh o) nx i=(kkh o) nx i)∧(∀nx1:NX TB kfi,True)∧(∀nx i,(kka o) nx i=(kka o) nx i)∧(∀nx2:NX TB kfn,True)∧True)) (by kernel_rfl) ⟨fun _ _=>rfl,fun _=>trivial,fun _ _=>rfl,fun _=>trivial,trivial⟩
theorem k1jt {x:k1bt} {o:k8j} (h:ku0 x o):k60.Snd Try.prog x o:=
 Con.soundH (c:=k60) (C:=k7l) TBok ⟨inf_ok,(all_cons k14k all_nil),all_nil⟩ mix Try.func38 (show Try.f38.body=some kat by kernel_rfl) (show Try.f38.ntmps=39 by kernel_rfl) (show Try.f38.results.toList=kk3 by kernel_rfl) rfl h (k1jg o)
theorem k1mm {p0:List Int} {p1:List Int} {r0:ByteArray} (h:
(let v1:Int:=IntKind.i64.wrap ((p1.length:Int)+(p0.length:Int))
0≤(0:Int)∧(0:Int)≤IntKind.i64.wrap (8*v1)∧((IntKind.i64.wrap (8*v1)).toNat*1≤140737488355328)∧((IntKind.i64.wrap (8*v1)).toNat≤maxLen)∧(0=(List.replicate 0 (0:Int)).length)∧(List.replicate 0 (0:Int)=List.replicate 0 (0:Int))∧Md.Loop (p0,p1,((p1.length:Int):Int),(0:Int),(List.replicate 0 (0:Int):List Int),()) (kkh (r0,())))):ku0 (p0,p1,()) (r0,()):=WPh.of_eq (by kernel_rfl) h
def k17y (r0:ByteArray) (k1:Int→List Int→Prop) (s0:List Int) (s17:List Int) (s18:Int) (s19:Int) (g1:List Int):Prop:=
(decide (s19<s18)=true→
(0≤s19)∧s19<(s17.length:Int)∧(g1=g1)∧(U64 (ix s17 s19)∧g1.length≤137438953472)∧((g1++dig 8 (ix s17 s19))=(g1++dig 8 (ix s17 s19)))∧k1 (IntKind.i64.wrap (s19+1):Int) ((g1++dig 8 (ix s17 s19)):List Int))∧
(decide (s19<s18)=false→
(g1=g1)∧Md.Loop (s0,((s0.length:Int):Int),(0:Int),g1,()) (kka (r0,())))
theorem k1k1 {r0:ByteArray} {s0:List Int} {s17:List Int} {s18:Int} {s19:Int} {g1:List Int} (inv:Int→List Int→Prop) (μ:Int→List Int→Nat) (h0:inv s19 g1) (hs:∀(s19:Int) (g1:List Int),inv s19 g1→k17y r0 (fun s19q g1q=>inv s19q g1q∧μ s19q g1q<μ s19 g1) s0 s17 s18 s19 g1):Md.Loop (s0,s17,s18,s19,g1,()) (kkh (r0,())):=
 ⟨⟨fun s:(List Int)×(List Int)×Int×Int×(List Int)×Unit=>(s.1=s0∧s.2.1=s17∧s.2.2.1=s18)∧inv s.2.2.2.1 s.2.2.2.2.1,fun s:(List Int)×(List Int)×Int×Int×(List Int)×Unit=>μ s.2.2.2.1 s.2.2.2.2.1,⟨⟨rfl,rfl,rfl⟩,h0⟩,fun(s0p,s17p,s18p,s19p,g1p,()) ⟨⟨eq0,eq1,eq2⟩,hi⟩=>by
  have eq0:s0p=s0:=eq0;subst s0p;have eq1:s17p=s17:=eq1;subst s17p;have eq2:s18p=s18:=eq2;subst s18p;exact mpr_of (by kernel_rfl) ((congrArg (fun k=>k17y r0 k s0 s17 s18 s19p g1p) (lpk2 (⟨rfl,rfl,rfl⟩:s0=s0∧s17=s17∧s18=s18) inv (fun s19q g1q=>μ s19q g1q<μ s19p g1p))).mpr (hs s19p g1p hi))⟩⟩
def k185 (r0:ByteArray) (k2:Int→List Int→Prop) (s27:List Int) (s28:Int) (s29:Int) (g1:List Int):Prop:=
(decide (s29<s28)=true→
(0≤s29)∧s29<(s27.length:Int)∧(g1=g1)∧(U64 (ix s27 s29)∧g1.length≤137438953472)∧((g1++dig 8 (ix s27 s29))=(g1++dig 8 (ix s27 s29)))∧k2 (IntKind.i64.wrap (s29+1):Int) ((g1++dig 8 (ix s27 s29)):List Int))∧
(decide (s29<s28)=false→
strOfNums g1=r0)
theorem k1js {r0:ByteArray} {s27:List Int} {s28:Int} {s29:Int} {g1:List Int} (inv:Int→List Int→Prop) (μ:Int→List Int→Nat) (h0:inv s29 g1) (hs:∀(s29:Int) (g1:List Int),inv s29 g1→k185 r0 (fun s29q g1q=>inv s29q g1q∧μ s29q g1q<μ s29 g1) s27 s28 s29 g1):Md.Loop (s27,s28,s29,g1,()) (kka (r0,())):=
 ⟨⟨fun s:(List Int)×Int×Int×(List Int)×Unit=>(s.1=s27∧s.2.1=s28)∧inv s.2.2.1 s.2.2.2.1,fun s:(List Int)×Int×Int×(List Int)×Unit=>μ s.2.2.1 s.2.2.2.1,⟨⟨rfl,rfl⟩,h0⟩,fun(s27p,s28p,s29p,g1p,()) ⟨⟨eq0,eq1⟩,hi⟩=>by
  have eq0:s27p=s27:=eq0;subst s27p;have eq1:s28p=s28:=eq1;subst s28p;exact mpr_of (by kernel_rfl) ((congrArg (fun k=>k185 r0 k s27 s28 s29p g1p) (lpk2 (⟨rfl,rfl⟩:s27=s27∧s28=s28) inv (fun s29q g1q=>μ s29q g1q<μ s29p g1p))).mpr (hs s29p g1p hi))⟩⟩
theorem bd38:Callable Try.prog 38:=⟨by rw[Try.func38];kernel_rfl,by rw[Try.func38];show some _≠some _;decide⟩
theorem k1gi (p0:List Int) (p1:List Int) (h:Us p0∧Us p1∧p0.length≤1073741824∧p1.length≤1073741824):ku0 (p0,p1,()) (((keyB p1 p0):ByteArray),()):=by
 obtain⟨h0,h1,h2,h3⟩:=h
 refine k1mm ?_
 rw[wi ((p1.length:Int)+p0.length) (by omega) (by omega)]
 simp only[]
 rw[wi (8*((p1.length:Int)+p0.length)) (by omega) (by omega)]
 refine⟨by omega,by omega,by omega,by unfold maxLen;omega,by trivial,by trivial,?_⟩
 refine k1k1 (fun i g=>FlatI (dig 8) [] p1 i g) (fun i _=>(p1.length-i).toNat) FlatI.start ?_
 intro i g hg
 have hl:=hg.len 8 (fun x _=>by simp)
 refine⟨fun hh=> ?_,fun hh=> ?_⟩
 ·have hh:=of_decide_eq_true hh
  exact⟨hg.1,hh,rfl,⟨h1 _ (ix_mem p1 i hg.1 hh),by simp at hl;omega⟩,by trivial,hg.next hh (by omega) rfl⟩
 ·have hh:=of_decide_eq_false hh
  have e:=hg.done hh
  refine⟨rfl,k1js (fun j g=>FlatI (dig 8) (p1.flatMap (dig 8)) p0 j g) (fun j _=>(p0.length-j).toNat) (by rw[e];exact FlatI.start) ?_⟩
  intro j g2 hg2
  have hl2:=hg2.len 8 (fun x _=>by simp)
  have hl3:=k1aa p1
  refine⟨fun hh2=> ?_,fun hh2=> ?_⟩
  ·have hh2:=of_decide_eq_true hh2
   exact⟨hg2.1,hh2,rfl,⟨h0 _ (ix_mem p0 j hg2.1 hh2),by omega⟩,by trivial,hg2.next hh2 (by omega) rfl⟩
  ·rw[hg2.done (of_decide_eq_false hh2)];rfl
noncomputable def kvg:Con TB.den:=k60.fnR (fun x=>(fun(p0:List Int) (p1:List Int)=>Us p0∧Us p1∧p0.length≤1073741824∧p1.length≤1073741824) x.1 x.2.1) fun x=>(fun(p0:List Int) (p1:List Int)=>(((keyB p1 p0):ByteArray),())) x.1 x.2.1
theorem k184:kvg.Ok Try.prog TB:=Con.ok_fn k60 bd38 fun x h=>k1jt (k1gi x.1 x.2.1 h)
def k74:Con TB.den:=Con.mk0 54 [.agg [.d (.int .u64)]] [] (.one (.one (.d (.bool)))) []
abbrev k189:=HL TB.den (hsT k74.ins (hsOs k74.pre))
abbrev kqn:=HL TB.den (hsV k74.res (hsOs k74.post))
noncomputable def kio:Cx TB:=⟨inf,[],[],4,[]⟩
noncomputable def kqv:Code:=Try.f54.body.getD .skip
noncomputable def kvs:List ResultVar:=Try.f54.results.toList
noncomputable def k158 (o:kqn):An TB:= .no
def krt (x:k189) (o:kqn):Prop:=WPh TB kio 13 0 kqv (k158 o) (k74.st TB x) (retTQ TB kio k74 kvs o)
theorem k1i6 (o:kqn):OblH TB kio 13 0 kqv (k158 o) (retTQ TB kio k74 kvs o):=
 OblH.ofC (X:=True) (by kernel_rfl) trivial
theorem k1hc {x:k189} {o:kqn} (h:krt x o):k74.Snd Try.prog x o:=
 Con.soundH (c:=k74) (C:=kio) TBok ⟨inf_ok,all_nil,all_nil⟩ mix Try.func54 (show Try.f54.body=some kqv by kernel_rfl) (show Try.f54.ntmps=13 by kernel_rfl) (show Try.f54.results.toList=kvs by kernel_rfl) rfl h (k1i6 o)
theorem k1j8 {p0:TField} {r0:Bool} (h:
(((p0.P==18446744069414584321)=true→
((p0.P==18446744069414584321)=true→
true=r0)∧
((p0.P==18446744069414584321)=false→
false=r0))∧
((p0.P==18446744069414584321)=false→
((p0.P==17)=true→
((p0.P==17)=true→
true=r0)∧
((p0.P==17)=false→
false=r0))∧
((p0.P==17)=false→
((p0.P==97)=true→
((p0.P==97)=true→
true=r0)∧
((p0.P==97)=false→
false=r0))∧
((p0.P==97)=false→
((p0.P==193)=true→
((p0.P==193)=true→
true=r0)∧
((p0.P==193)=false→
false=r0))∧
((p0.P==193)=false→
((p0.P==257)=true→
((p0.P==257)=true→
true=r0)∧
((p0.P==257)=false→
false=r0))∧
((p0.P==257)=false→
((p0.P==12289)=true→
((p0.P==12289)=true→
true=r0)∧
((p0.P==12289)=false→
false=r0))∧
((p0.P==12289)=false→
((p0.P==65537)=true→
true=r0)∧
((p0.P==65537)=false→
false=r0))))))))):krt (p0.P,()) (r0,()):=WPh.of_eq (by kernel_rfl) h
theorem bd54:Callable Try.prog 54:=⟨by rw[Try.func54];kernel_rfl,by rw[Try.func54];show some _≠some _;decide⟩
theorem k1ez (p0:TField) (h:p0.P=18446744069414584321):krt (p0.P,()) ((true:Bool),()):=by
 refine k1j8 ?_
 simp[h]
noncomputable def kap:Con TB.den:=k74.fnR (fun x=>(fun(p0:TField)=>p0.P=18446744069414584321) (TField.mk x.1)) fun x=>(fun(p0:TField)=>(true,())) (TField.mk x.1)
theorem ke7:kap.Ok Try.prog TB:=Con.ok_fn k74 bd54 fun x h=>k1hc (k1ez (TField.mk x.1) h)
def k7n:Con TB.den:=Con.mk0 68 [.agg [.d (.int .u64)],.one (.d (.int .u64)),.one (.d (.int .u64))] [] (.one (.one (.d (.int .u64)))) []
abbrev k1dx:=HL TB.den (hsT k7n.ins (hsOs k7n.pre))
abbrev ke1:=HL TB.den (hsV k7n.res (hsOs k7n.post))
noncomputable def kcc:Cx TB:=⟨inf,[],[x88],4,[]⟩
noncomputable def khl:Code:=Try.f68.body.getD .skip
noncomputable def ku5:List ResultVar:=Try.f68.results.toList
def k1p1 (o:ke1):=qS TB kcc 28 0 (cB (cB (cB khl))) .no (retTQ TB kcc k7n ku5 o)
def kqm:Tm:=⟨[0],[.cells [.d (.int .u64)]],[3,7,22],[.one (.ptr 0 0),.one (.d (.int .u64)),.one (.d (.bool))],1⟩
def k17s (o:ke1) (i:HL TB.den kqm.hs):Prop:=ghs TB [] (kqm.fill TB i) fun s=>WP TB kcc 28 0 (cB (cA (cB (cB khl)))) .no s (k1p1 o)
structure kmr (o:ke1) (i:HL TB.den kqm.hs):Prop where
 h:k17s o i
noncomputable def k1oo (o:ke1):An TB:= .nd [] (.jn kqm (kmr o) [] .no [] .no) [] .no
noncomputable def k1aw (o:ke1):An TB:= .nd [] .no [] (.nd [] .no [] (k1oo o))
def kvj (x:k1dx) (o:ke1):Prop:=WPh TB kcc 28 0 khl (k1aw o) (k7n.st TB x) (retTQ TB kcc k7n ku5 o)
theorem k1mc (o:ke1):OblH TB kcc 28 0 khl (k1aw o) (retTQ TB kcc k7n ku5 o):=
 OblH.ofC (X:=((∀i,(kmr o) i=k17s o i)∧True)) (by kernel_rfl) ⟨fun _=>propext ⟨fun h=>h.1,fun h=>⟨h⟩⟩,trivial⟩
theorem k1mw {x:k1dx} {o:ke1} (h:kvj x o):k7n.Snd Try.prog x o:=
 Con.soundH (c:=k7n) (C:=kcc) TBok ⟨inf_ok,all_nil,(all_cons x88_ok all_nil)⟩ mix Try.func68 (show Try.f68.body=some khl by kernel_rfl) (show Try.f68.ntmps=28 by kernel_rfl) (show Try.f68.results.toList=ku5 by kernel_rfl) rfl h (k1mc o)
theorem k1ox {p0:TField} {p1:Int} {p2:Int} {r0:Int} (h:
((0≤p1∧0≤p2∧0≤(0:Int)∧(0:Int)≤1)∧let r1:Int:=(p1+p2+(0:Int))%18446744073709551616
let r2:Int:=(p1+p2+(0:Int))/18446744073709551616
((r2 !=0)=true→
kmr (r0,()) (r1,true,p0.P,()))∧
((r2 !=0)=false→
kmr (r0,()) (r1,(decide (p0.P≤r1):Bool),p0.P,())))):kvj (p0.P,p1,p2,()) (r0,()):=WPh.of_eq (by kernel_rfl) h
theorem k12p {r0:Int} {s7:Int} {s22:Bool} {h0_0:Int} (h:
((s22=true→
IntKind.u64.wrap (s7-h0_0)=r0)∧
(s22=false→
s7=r0))):kmr (r0,()) (s7,s22,h0_0,()):=⟨mpr_of (by kernel_rfl) h⟩
theorem bd68:Callable Try.prog 68:=⟨by rw[Try.func68];kernel_rfl,by rw[Try.func68];show some _≠some _;decide⟩
theorem k1jb (p0:TField) (p1:Int) (p2:Int) (h:p0.P=18446744069414584321∧(0≤p1∧p1<18446744069414584321)∧(0≤p2∧p2<18446744069414584321)):kvj (p0.P,p1,p2,()) ((((p1+p2)%18446744069414584321):Int),()):=by
 obtain⟨hP,h1,h2⟩:=h
 refine k1ox ⟨by omega,?_,?_⟩
 ·intro h
  refine k12p ⟨fun _=> ?_,fun h=>by simp at h⟩
  have h:(p1+p2+0)/18446744073709551616≠0:=by simpa using h
  rw[hP,u64w];omega
 ·intro h
  have h:(p1+p2+0)/18446744073709551616=0:=by simpa using h
  refine k12p ⟨fun g=> ?_,fun g=> ?_⟩
  ·have g:=of_decide_eq_true g
   rw[hP]at g ⊢
   rw[u64w];omega
  ·have g:=of_decide_eq_false g
   rw[hP]at g
   omega
noncomputable def k17m:Con TB.den:=k7n.fnR (fun x=>(fun(p0:TField) (p1:Int) (p2:Int)=>p0.P=18446744069414584321∧(0≤p1∧p1<18446744069414584321)∧(0≤p2∧p2<18446744069414584321)) (TField.mk x.1) x.2.1 x.2.2.1) fun x=>(fun(p0:TField) (p1:Int) (p2:Int)=>((((p1+p2)%18446744069414584321):Int),())) (TField.mk x.1) x.2.1 x.2.2.1
theorem k1o1:k17m.Ok Try.prog TB:=Con.ok_fn k7n bd68 fun x h=>k1mw (k1jb (TField.mk x.1) x.2.1 x.2.2.1 h)
def k5j:Con TB.den:=Con.mk0 69 [.agg [.d (.int .u64)],.one (.d (.int .u64))] [] (.one (.one (.d (.int .u64)))) []
abbrev k137:=HL TB.den (hsT k5j.ins (hsOs k5j.pre))
abbrev kla:=HL TB.den (hsV k5j.res (hsOs k5j.post))
noncomputable def kek:Cx TB:=⟨inf,[],[],4,[]⟩
noncomputable def kn4:Code:=Try.f69.body.getD .skip
noncomputable def kr0:List ResultVar:=Try.f69.results.toList
noncomputable def k122 (o:kla):An TB:= .no
def kna (x:k137) (o:kla):Prop:=WPh TB kek 14 0 kn4 (k122 o) (k5j.st TB x) (retTQ TB kek k5j kr0 o)
theorem k1ce (o:kla):OblH TB kek 14 0 kn4 (k122 o) (retTQ TB kek k5j kr0 o):=
 OblH.ofC (X:=True) (by kernel_rfl) trivial
theorem k1cv {x:k137} {o:kla} (h:kna x o):k5j.Snd Try.prog x o:=
 Con.soundH (c:=k5j) (C:=kek) TBok ⟨inf_ok,all_nil,all_nil⟩ mix Try.func69 (show Try.f69.body=some kn4 by kernel_rfl) (show Try.f69.ntmps=14 by kernel_rfl) (show Try.f69.results.toList=kr0 by kernel_rfl) rfl h (k1ce o)
theorem k1g6 {p0:TField} {p1:Int} {r0:Int} (h:
((decide (p0.P≤p1)=true→
(p0.P≠0)∧Int.tmod p1 p0.P=r0)∧
(decide (p0.P≤p1)=false→
p1=r0))):kna (p0.P,p1,()) (r0,()):=WPh.of_eq (by kernel_rfl) h
theorem bd69:Callable Try.prog 69:=⟨by rw[Try.func69];kernel_rfl,by rw[Try.func69];show some _≠some _;decide⟩
theorem k1aq (p0:TField) (p1:Int) (h:0<p0.P∧0≤p1):kna (p0.P,p1,()) (((p1%p0.P):Int),()):=by
 refine k1g6 ⟨fun h1=>⟨by omega,tmod_nn _ _ h.2⟩,fun h1=> ?_⟩
 simp at h1
 rw[Int.emod_eq_of_lt (by omega) (by omega)]
noncomputable def kdb:Con TB.den:=k5j.fnR (fun x=>(fun(p0:TField) (p1:Int)=>0<p0.P∧0≤p1) (TField.mk x.1) x.2.1) fun x=>(fun(p0:TField) (p1:Int)=>(((p1%p0.P):Int),())) (TField.mk x.1) x.2.1
theorem kjf:kdb.Ok Try.prog TB:=Con.ok_fn k5j bd69 fun x h=>k1cv (k1aq (TField.mk x.1) x.2.1 h)
def k8f:Con TB.den:=Con.mk0 47 [.agg [.d (.int .u64)],.one (.d (.int .u64)),.one (.d (.int .u64))] [] (.one (.one (.d (.int .u64)))) []
abbrev k1dt:=HL TB.den (hsT k8f.ins (hsOs k8f.pre))
abbrev kwj:=HL TB.den (hsV k8f.res (hsOs k8f.post))
noncomputable def klv:Cx TB:=⟨inf,[kap,kdb,k17m],[],4,[]⟩
noncomputable def kwd:Code:=Try.f47.body.getD .skip
noncomputable def k11f:List ResultVar:=Try.f47.results.toList
noncomputable def k1am (o:kwj):An TB:= .no
def kvv (x:k1dt) (o:kwj):Prop:=WPh TB klv 18 0 kwd (k1am o) (k8f.st TB x) (retTQ TB klv k8f k11f o)
theorem k1mh (o:kwj):OblH TB klv 18 0 kwd (k1am o) (retTQ TB klv k8f k11f o):=
 OblH.ofC (X:=True) (by kernel_rfl) trivial
theorem k1my {x:k1dt} {o:kwj} (h:kvv x o):k8f.Snd Try.prog x o:=
 Con.soundH (c:=k8f) (C:=klv) TBok ⟨inf_ok,(all_cons ke7 (all_cons kjf (all_cons k1o1 all_nil))),all_nil⟩ mix Try.func47 (show Try.f47.body=some kwd by kernel_rfl) (show Try.f47.ntmps=18 by kernel_rfl) (show Try.f47.results.toList=k11f by kernel_rfl) rfl h (k1mh o)
theorem k1o9 {p0:TField} {p1:Int} {p2:Int} {r0:Int} (h:
((p0.P=18446744069414584321)∧((!true)=true→
0=r0)∧
((!true)=false→
(0<p0.P∧0≤p1)∧(0<p0.P∧0≤p2)∧(p0.P=18446744069414584321∧(0≤(p1%p0.P)∧(p1%p0.P)<18446744069414584321)∧(0≤(p2%p0.P)∧(p2%p0.P)<18446744069414584321))∧let r1:Int:=(((p1%p0.P)+(p2%p0.P))%18446744069414584321)
r1=r0))):kvv (p0.P,p1,p2,()) (r0,()):=WPh.of_eq (by kernel_rfl) h
theorem bd47:Callable Try.prog 47:=⟨by rw[Try.func47];kernel_rfl,by rw[Try.func47];show some _≠some _;decide⟩
theorem k1jm (p0:TField) (p1:Int) (p2:Int) (h:p0.P=18446744069414584321∧U64 p1∧U64 p2):kvv (p0.P,p1,p2,()) ((((p1+p2)%18446744069414584321):Int),()):=by
 obtain⟨hP,h1,h2⟩:=h
 refine k1o9 ⟨hP,?_⟩
 simp only[hP]
 refine⟨fun h=>by simp at h,fun _=>⟨by omega,by omega,⟨by trivial,by omega,by omega⟩,?_⟩⟩
 omega
noncomputable def kd0:Con TB.den:=k8f.fnR (fun x=>(fun(p0:TField) (p1:Int) (p2:Int)=>p0.P=18446744069414584321∧U64 p1∧U64 p2) (TField.mk x.1) x.2.1 x.2.2.1) fun x=>(fun(p0:TField) (p1:Int) (p2:Int)=>((((p1+p2)%18446744069414584321):Int),())) (TField.mk x.1) x.2.1 x.2.2.1
theorem kj0:kd0.Ok Try.prog TB:=Con.ok_fn k8f bd47 fun x h=>k1my (k1jm (TField.mk x.1) x.2.1 x.2.2.1 h)
def k5b:Con TB.den:=Con.mk0 66 [.one (.d (.int .u64))] [] (.one (.one (.d (.int .i64)))) []
abbrev k1b3:=HL TB.den (hsT k5b.ins (hsOs k5b.pre))
abbrev k7k:=HL TB.den (hsV k5b.res (hsOs k5b.post))
noncomputable def k7j:Cx TB:=⟨inf,[],[],4,[]⟩
noncomputable def kcm:Code:=Try.f66.body.getD .skip
noncomputable def kfm:List ResultVar:=Try.f66.results.toList
def khe:Tm:=⟨[],[],[0,2],[.one (.d (.int .u64)),.one (.d (.int .i64))],0⟩
def k15g (o:k7k) (i:HL TB.den khe.hs):Prop:=ghs TB [] (khe.fill TB i) fun s=>WP TB k7j 25 0 (cB (cB (cB (cB kcm)))) .no s (retTQ TB k7j k5b kfm o)
structure kd2 (o:k7k) (i:HL TB.den khe.hs):Prop where
 h:k15g o i
def kok:Tm:=⟨[],[],[0,2],[.one (.d (.int .u64)),.one (.d (.int .i64))],0⟩
def k14y (o:k7k) (i:HL TB.den kok.hs):Prop:=ghs TB [] (kok.fill TB i) fun s=>WP TB k7j 25 0 (cB (cB (cB kcm))) (.jn khe (kd2 o) [] .no [] .no) s (retTQ TB k7j k5b kfm o)
structure kfk (o:k7k) (i:HL TB.den kok.hs):Prop where
 h:k14y o i
noncomputable def k18b (o:k7k):An TB:= .jn kok (kfk o) [] .no [] (.jn khe (kd2 o) [] .no [] .no)
def kor:Tm:=⟨[],[],[0,2],[.one (.d (.int .u64)),.one (.d (.int .i64))],0⟩
def k14x (o:k7k) (i:HL TB.den kor.hs):Prop:=ghs TB [] (kor.fill TB i) fun s=>WP TB k7j 25 0 (cB (cB kcm)) (k18b o) s (retTQ TB k7j k5b kfm o)
structure kfj (o:k7k) (i:HL TB.den kor.hs):Prop where
 h:k14x o i
noncomputable def k1mg (o:k7k):An TB:= .jn kor (kfj o) [] .no [] (k18b o)
noncomputable def k17c (o:k7k):An TB:= .nd [] .no [] (k1mg o)
def kt7 (x:k1b3) (o:k7k):Prop:=WPh TB k7j 25 0 kcm (k17c o) (k5b.st TB x) (retTQ TB k7j k5b kfm o)
theorem k1jz (o:k7k):OblH TB k7j 25 0 kcm (k17c o) (retTQ TB k7j k5b kfm o):=
 OblH.ofC (X:=((∀i,(kfj o) i=k14x o i)∧(∀i,(kfk o) i=k14y o i)∧(∀i,(kd2 o) i=k15g o i)∧True)) (by kernel_rfl) ⟨fun _=>propext ⟨fun h=>h.1,fun h=>⟨h⟩⟩,fun _=>propext ⟨fun h=>h.1,fun h=>⟨h⟩⟩,fun _=>propext ⟨fun h=>h.1,fun h=>⟨h⟩⟩,trivial⟩
theorem k1j3 {x:k1b3} {o:k7k} (h:kt7 x o):k5b.Snd Try.prog x o:=
 Con.soundH (c:=k5b) (C:=k7j) TBok ⟨inf_ok,all_nil,all_nil⟩ mix Try.func66 (show Try.f66.body=some kcm by kernel_rfl) (show Try.f66.ntmps=25 by kernel_rfl) (show Try.f66.results.toList=kfm by kernel_rfl) rfl h (k1jz o)
theorem k1mo {p0:Int} {r0:Int} (h:
((decide (4294967296≤p0)=true→
kfj (r0,()) ((ishr .u64 p0 32:Int),(32:Int),()))∧
(decide (4294967296≤p0)=false→
kfj (r0,()) (p0,(0:Int),())))):kt7 (p0,()) (r0,()):=WPh.of_eq (by kernel_rfl) h
theorem k1g7 {r0:Int} {s0:Int} {s2:Int} (h:
((decide (65536≤s0)=true→
kfk (r0,()) ((ishr .u64 s0 16:Int),(IntKind.i64.wrap (s2+16):Int),()))∧
(decide (65536≤s0)=false→
kfk (r0,()) (s0,s2,())))):kfj (r0,()) (s0,s2,()):=⟨mpr_of (by kernel_rfl) h⟩
theorem k1ey {r0:Int} {s0:Int} {s2:Int} (h:
((decide (256≤s0)=true→
kd2 (r0,()) ((ishr .u64 s0 8:Int),(IntKind.i64.wrap (s2+8):Int),()))∧
(decide (256≤s0)=false→
kd2 (r0,()) (s0,s2,())))):kfk (r0,()) (s0,s2,()):=⟨mpr_of (by kernel_rfl) h⟩
theorem k1fk {r0:Int} {s0:Int} {s2:Int} (h:
((0≤IntKind.u8.wrap s0∧IntKind.u8.wrap s0<((⟨#[0,1,2,2,3,3,3,3,4,4,4,4,4,4,4,4,5,5,5,5,5,5,5,5,5,5,5,5,5,5,5,5,6,6,6,6,6,6,6,6,6,6,6,6,6,6,6,6,6,6,6,6,6,6,6,6,6,6,6,6,6,6,6,6,7,7,7,7,7,7,7,7,7,7,7,7,7,7,7,7,7,7,7,7,7,7,7,7,7,7,7,7,7,7,7,7,7,7,7,7,7,7,7,7,7,7,7,7,7,7,7,7,7,7,7,7,7,7,7,7,7,7,7,7,7,7,7,7,8,8,8,8,8,8,8,8,8,8,8,8,8,8,8,8,8,8,8,8,8,8,8,8,8,8,8,8,8,8,8,8,8,8,8,8,8,8,8,8,8,8,8,8,8,8,8,8,8,8,8,8,8,8,8,8,8,8,8,8,8,8,8,8,8,8,8,8,8,8,8,8,8,8,8,8,8,8,8,8,8,8,8,8,8,8,8,8,8,8,8,8,8,8,8,8,8,8,8,8,8,8,8,8,8,8,8,8,8,8,8,8,8,8,8,8,8,8,8,8,8,8,8,8,8,8,8,8]⟩:ByteArray).size:Int))∧let v1:Int:=byteAt (⟨#[0,1,2,2,3,3,3,3,4,4,4,4,4,4,4,4,5,5,5,5,5,5,5,5,5,5,5,5,5,5,5,5,6,6,6,6,6,6,6,6,6,6,6,6,6,6,6,6,6,6,6,6,6,6,6,6,6,6,6,6,6,6,6,6,7,7,7,7,7,7,7,7,7,7,7,7,7,7,7,7,7,7,7,7,7,7,7,7,7,7,7,7,7,7,7,7,7,7,7,7,7,7,7,7,7,7,7,7,7,7,7,7,7,7,7,7,7,7,7,7,7,7,7,7,7,7,7,7,8,8,8,8,8,8,8,8,8,8,8,8,8,8,8,8,8,8,8,8,8,8,8,8,8,8,8,8,8,8,8,8,8,8,8,8,8,8,8,8,8,8,8,8,8,8,8,8,8,8,8,8,8,8,8,8,8,8,8,8,8,8,8,8,8,8,8,8,8,8,8,8,8,8,8,8,8,8,8,8,8,8,8,8,8,8,8,8,8,8,8,8,8,8,8,8,8,8,8,8,8,8,8,8,8,8,8,8,8,8,8,8,8,8,8,8,8,8,8,8,8,8,8,8,8,8,8,8]⟩:ByteArray) (IntKind.u8.wrap s0)
let v2:Int:=IntKind.i64.wrap (s2+(IntKind.i64.wrap v1))
v2=r0)):kd2 (r0,()) (s0,s2,()):=⟨mpr_of (by kernel_rfl) h⟩
theorem bd66:Callable Try.prog 66:=⟨by rw[Try.func66];kernel_rfl,by rw[Try.func66];show some _≠some _;decide⟩
theorem k1ij (p0:Int) (h:U64 p0):kt7 (p0,()) (((len64 p0):Int),()):=by
 have j3:∀s0 s2:Int,0≤s0→s0<256→0≤s2→s2≤56→kd2 (s2+len64 s0,()) (s0,s2,()):=fun s0 s2 h0 h1 h2 h3=>by
  refine k1fk ?_
  have e:IntKind.u8.wrap s0=s0:=by rw[u8w];omega
  have l:=k1q6 s0 ⟨h0,h1⟩
  show(0≤IntKind.u8.wrap s0∧IntKind.u8.wrap s0<(tab8.size:Int))∧IntKind.i64.wrap (s2+IntKind.i64.wrap (byteAt tab8 (IntKind.u8.wrap s0)))=_
  rw[e,k1sp,k1oi s0 ⟨h0,h1⟩,wi (len64 s0) (by omega) (by omega),wi (s2+len64 s0) (by omega) (by omega)]
  exact⟨⟨h0,h1⟩,rfl⟩
 have j2:∀s0 s2:Int,0≤s0→s0<65536→0≤s2→s2≤48→kfk (s2+len64 s0,()) (s0,s2,()):=fun s0 s2 h0 h1 h2 h3=>by
  refine k1ey ⟨fun h=> ?_,fun h=>j3 s0 s2 h0 (by simpa using h) h2 (by omega)⟩
  have h:=of_decide_eq_true h
  rw[ishr8,wi _ (by omega) (by omega),←k14j s0 8 (by simpa using h),←Int.add_assoc,Int.add_right_comm]
  exact j3 _ _ (by omega) (by omega) (by omega) (by omega)
 have j1:∀s0 s2:Int,0≤s0→s0<4294967296→0≤s2→s2≤32→kfj (s2+len64 s0,()) (s0,s2,()):=fun s0 s2 h0 h1 h2 h3=>by
  refine k1g7 ⟨fun h=> ?_,fun h=>j2 s0 s2 h0 (by simpa using h) h2 (by omega)⟩
  have h:=of_decide_eq_true h
  rw[ishr16,wi _ (by omega) (by omega),←k14j s0 16 (by simpa using h),←Int.add_assoc,Int.add_right_comm]
  exact j2 _ _ (by omega) (by omega) (by omega) (by omega)
 refine k1mo ⟨fun h1=> ?_,fun h1=> ?_⟩
 ·have h1:=of_decide_eq_true h1
  rw[ishr32,←k14j p0 32 (by simpa using h1),Int.add_comm]
  exact j1 _ _ (by omega) (by omega) (by omega) (by omega)
 ·have:=j1 p0 0 h.1 (by simpa using h1) (by omega) (by omega)
  rwa [Int.zero_add]at this
noncomputable def kvr:Con TB.den:=k5b.fnR (fun x=>(fun(p0:Int)=>U64 p0) x.1) fun x=>(fun(p0:Int)=>(((len64 p0):Int),())) x.1
theorem k177:kvr.Ok Try.prog TB:=Con.ok_fn k5b bd66 fun x h=>k1j3 (k1ij x.1 h)
def k2w:Con TB.den:=Con.mk0 92 [.one (.d (.int .u64))] [] (.one (.one (.d (.int .i64)))) []
abbrev ks1:=HL TB.den (hsT k2w.ins (hsOs k2w.pre))
abbrev kcq:=HL TB.den (hsV k2w.res (hsOs k2w.post))
noncomputable def k9k:Cx TB:=⟨inf,[kvr],[],4,[]⟩
noncomputable def kex:Code:=Try.f92.body.getD .skip
noncomputable def kgj:List ResultVar:=Try.f92.results.toList
noncomputable def kq2 (o:kcq):An TB:= .no
def kem (x:ks1) (o:kcq):Prop:=WPh TB k9k 6 0 kex (kq2 o) (k2w.st TB x) (retTQ TB k9k k2w kgj o)
theorem k12g (o:kcq):OblH TB k9k 6 0 kex (kq2 o) (retTQ TB k9k k2w kgj o):=
 OblH.ofC (X:=True) (by kernel_rfl) trivial
theorem k12c {x:ks1} {o:kcq} (h:kem x o):k2w.Snd Try.prog x o:=
 Con.soundH (c:=k2w) (C:=k9k) TBok ⟨inf_ok,(all_cons k177 all_nil),all_nil⟩ mix Try.func92 (show Try.f92.body=some kex by kernel_rfl) (show Try.f92.ntmps=6 by kernel_rfl) (show Try.f92.results.toList=kgj by kernel_rfl) rfl h (k12g o)
theorem k13w {p0:Int} {r0:Int} (h:
((U64 p0)∧IntKind.i64.wrap (64-(len64 p0))=r0)):kem (p0,()) (r0,()):=WPh.of_eq (by kernel_rfl) h
theorem bd92:Callable Try.prog 92:=⟨by rw[Try.func92];kernel_rfl,by rw[Try.func92];show some _≠some _;decide⟩
theorem k10h (p0:Int) (h:0<p0∧p0<18446744073709551616):kem (p0,()) (((64-len64 p0):Int),()):=by
 obtain⟨s,e,h1,_⟩:=k1gk p0 h
 refine k13w ⟨⟨by omega,h.2⟩,?_⟩
 exact wi _ (by omega) (by omega)
noncomputable def kot:Con TB.den:=k2w.fnR (fun x=>(fun(p0:Int)=>0<p0∧p0<18446744073709551616) x.1) fun x=>(fun(p0:Int)=>(((64-len64 p0):Int),())) x.1
theorem k146:kot.Ok Try.prog TB:=Con.ok_fn k2w bd92 fun x h=>k12c (k10h x.1 h)
def k4j:Con TB.den:=Con.mk0 75 [.one (.d (.int .u64)),.one (.d (.int .u64)),.one (.d (.int .u64))] [] (.tup [.one (.d (.int .u64)),.one (.d (.int .u64))]) []
abbrev k1bs:=HL TB.den (hsT k4j.ins (hsOs k4j.pre))
abbrev k23:=HL TB.den (hsV k4j.res (hsOs k4j.post))
noncomputable def k4h:Cx TB:=⟨inf,[kot],[],4,[]⟩
noncomputable def k82:Code:=Try.f75.body.getD .skip
noncomputable def kcu:List ResultVar:=Try.f75.results.toList
def khg:Tm:=⟨[],[],[2,8,14,15,17,18],[.one (.d (.int .u64)),.one (.d (.int .u64)),.one (.d (.int .u64)),.one (.d (.int .u64)),.one (.d (.int .u64)),.one (.d (.int .u64))],0⟩
def k15a (o:k23) (i:HL TB.den khg.hs):Prop:=ghs TB [] (khg.fill TB i) fun s=>WP TB k4h 135 0 (cB (cB (cB (cB (cB (cB (cB (cB (cB (cB (cB (cB (cB (cB (cB (cB (cB (cB (cB k82))))))))))))))))))) .no s (retTQ TB k4h k4j kcu o)
structure kcv (o:k23) (i:HL TB.den khg.hs):Prop where
 h:k15a o i
def k188 (o:k23):=qM TB 0 khg (kcv o) (retTQ TB k4h k4j kcu o)
def k7o:Tm:=⟨[],[],[2,8,9,10,14,15,16,17,18],[.one (.d (.int .u64)),.one (.d (.int .u64)),.one (.d (.int .u64)),.one (.d (.int .u64)),.one (.d (.int .u64)),.one (.d (.int .u64)),.one (.d (.int .u64)),.one (.d (.int .u64)),.one (.d (.int .u64))],0⟩
def khc:Tm:=⟨[],[],[2,8,9,10,14,15,16,17,18],[.one (.d (.int .u64)),.one (.d (.int .u64)),.one (.d (.int .u64)),.one (.d (.int .u64)),.one (.d (.int .u64)),.one (.d (.int .u64)),.one (.d (.int .u64)),.one (.d (.int .u64)),.one (.d (.int .u64))],0⟩
def k15c (o:k23) (nx2:NX TB k7o) (i:HL TB.den khc.hs):Prop:=ghs TB [] (khc.fill TB i) fun s=>WP TB k4h 135 0 (cB (cA (cA (cA (cB (cB (cB (cB (cB (cB (cB (cB (cB (cB (cB (cB (cB (cB (cB (cB (cB (cB k82)))))))))))))))))))))) .no s (qM TB 0 k7o nx2 (blockT TB 2 (k188 o)))
structure kcx (o:k23) (nx2:NX TB k7o) (i:HL TB.den khc.hs):Prop where
 h:k15c o nx2 i
def kk6 (o:k23) (nx2:NX TB k7o) (i:HL TB.den k7o.hs):Prop:=WP TB k4h 135 0 (cA (cA (cA (cB (cB (cB (cB (cB (cB (cB (cB (cB (cB (cB (cB (cB (cB (cB (cB (cB (cB k82))))))))))))))))))))) (.jn khc (kcx o nx2) [] .no [] .no) (k7o.fill TB i) (qM TB 0 k7o nx2 (blockT TB 2 (k188 o)))
noncomputable def k1mp (o:k23):An TB:= .lp [] k7o (kk6 o) fun nx2=>(.jn khc (kcx o nx2) [] .no [] .no)
noncomputable def k1mi (o:k23):An TB:= .jn khg (kcv o) [] (k1mp o) [] .no
noncomputable def k17e (o:k23):An TB:= .nd [] .no [] (.nd [] .no [] (.nd [] .no [] (k1mi o)))
def kir:Tm:=⟨[],[],[2,8,9,10,11,13,14,15],[.one (.d (.int .u64)),.one (.d (.int .u64)),.one (.d (.int .u64)),.one (.d (.int .u64)),.one (.d (.int .u64)),.one (.d (.int .u64)),.one (.d (.int .u64)),.one (.d (.int .u64))],0⟩
def k15l (o:k23) (i:HL TB.den kir.hs):Prop:=ghs TB [] (kir.fill TB i) fun s=>WP TB k4h 135 0 (cB (cB (cB (cB (cB (cB (cB (cB (cB (cB (cB (cB (cB (cB (cB k82))))))))))))))) (k17e o) s (retTQ TB k4h k4j kcu o)
structure kcr (o:k23) (i:HL TB.den kir.hs):Prop where
 h:k15l o i
def k181 (o:k23):=qM TB 0 kir (kcr o) (retTQ TB k4h k4j kcu o)
def k7m:Tm:=⟨[],[],[2,8,9,10,11,13,14,15,16],[.one (.d (.int .u64)),.one (.d (.int .u64)),.one (.d (.int .u64)),.one (.d (.int .u64)),.one (.d (.int .u64)),.one (.d (.int .u64)),.one (.d (.int .u64)),.one (.d (.int .u64)),.one (.d (.int .u64))],0⟩
def kix:Tm:=⟨[],[],[2,8,9,10,11,13,14,15,16],[.one (.d (.int .u64)),.one (.d (.int .u64)),.one (.d (.int .u64)),.one (.d (.int .u64)),.one (.d (.int .u64)),.one (.d (.int .u64)),.one (.d (.int .u64)),.one (.d (.int .u64)),.one (.d (.int .u64))],0⟩
def k15u (o:k23) (nx1:NX TB k7m) (i:HL TB.den kix.hs):Prop:=ghs TB [] (kix.fill TB i) fun s=>WP TB k4h 135 0 (cB (cA (cA (cA (cB (cB (cB (cB (cB (cB (cB (cB (cB (cB (cB (cB (cB (cB k82)))))))))))))))))) .no s (qM TB 0 k7m nx1 (blockT TB 0 (k181 o)))
structure kct (o:k23) (nx1:NX TB k7m) (i:HL TB.den kix.hs):Prop where
 h:k15u o nx1 i
def kk4 (o:k23) (nx1:NX TB k7m) (i:HL TB.den k7m.hs):Prop:=WP TB k4h 135 0 (cA (cA (cA (cB (cB (cB (cB (cB (cB (cB (cB (cB (cB (cB (cB (cB (cB k82))))))))))))))))) (.jn kix (kct o nx1) [] .no [] .no) (k7m.fill TB i) (qM TB 0 k7m nx1 (blockT TB 0 (k181 o)))
noncomputable def k1kc (o:k23):An TB:= .lp [] k7m (kk4 o) fun nx1=>(.jn kix (kct o nx1) [] .no [] .no)
noncomputable def k1k7 (o:k23):An TB:= .jn kir (kcr o) [] (k1kc o) [] (k17e o)
noncomputable def k1jx (o:k23):An TB:= .nd [] .no [] (.nd [] .no [] (.nd [] .no [] (k1k7 o)))
noncomputable def k1iz (o:k23):An TB:= .nd [] .no [] (.nd [] .no [] (.nd [] .no [] (k1jx o)))
noncomputable def k1k6 (o:k23):An TB:= .nd [] .no [] (.nd [] .no [] (.nd [] .no [] (k1iz o)))
noncomputable def k1kh (o:k23):An TB:= .nd [] .no [] (.nd [] .no [] (.nd [] .no [] (k1k6 o)))
noncomputable def k17z (o:k23):An TB:= .nd [] .no [] (.nd [] .no [] (k1kh o))
def ku4 (x:k1bs) (o:k23):Prop:=WPh TB k4h 135 0 k82 (k17z o) (k4j.st TB x) (retTQ TB k4h k4j kcu o)
theorem k1k8 (o:k23):OblH TB k4h 135 0 k82 (k17z o) (retTQ TB k4h k4j kcu o):=
 OblH.ofC (X:=((∀nx i,(kk4 o) nx i=(kk4 o) nx i)∧(∀nx1:NX TB k7m,((∀i,(kct o nx1) i=k15u o nx1 i)∧True))∧(∀i,(kcr o) i=k15l o i)∧(∀nx i,(kk6 o) nx i=(kk6 o) nx i)∧(∀nx2:NX TB k7o,((∀i,(kcx o nx2) i=k15c o nx2 i)∧True))∧(∀i,(kcv o) i=k15a o i)∧True)) (by kernel_rfl) ⟨fun _ _=>rfl,fun _=>⟨fun _=>propext ⟨fun h=>h.1,fun h=>⟨h⟩⟩,trivial⟩,fun _=>propext ⟨fun h=>h.1,fun h=>⟨h⟩⟩,fun _ _=>rfl,fun _=>⟨fun _=>propext ⟨fun h=>h.1,fun h=>⟨h⟩⟩,trivial⟩,fun _=>propext ⟨fun h=>h.1,fun h=>⟨h⟩⟩,trivial⟩
theorem k1kg {x:k1bs} {o:k23} (h:ku4 x o):k4j.Snd Try.prog x o:=
 Con.soundH (c:=k4j) (C:=k4h) TBok ⟨inf_ok,(all_cons k146 all_nil),all_nil⟩ mix Try.func75 (show Try.f75.body=some k82 by kernel_rfl) (show Try.f75.ntmps=135 by kernel_rfl) (show Try.f75.results.toList=kcu by kernel_rfl) rfl h (k1k8 o)
theorem k1m6 {p0:Int} {p1:Int} {p2:Int} {r0:Int} {r1:Int} (h:
(((p2==0)=true→
False)∧
((p2==0)=false→
(decide (p2≤p0)=true→
False)∧
(decide (p2≤p0)=false→
((p0==0)=true→
(p2≠0)∧(p2≠0)∧IntKind.u64.wrap (Int.tdiv p1 p2)=r0∧Int.tmod p1 p2=r1)∧
((p0==0)=false→
(0<p2∧p2<18446744073709551616)∧(0≤IntKind.u64.wrap (64-len64 p2))∧let v2:Int:=ishl .u64 p2 (IntKind.u64.wrap (64-len64 p2))
(0≤IntKind.u64.wrap (64-len64 p2))∧let v3:Int:=ishl .u64 p0 (IntKind.u64.wrap (64-len64 p2))
let v4:Int:=IntKind.u64.wrap (64-(IntKind.u64.wrap (64-len64 p2)))
(0≤v4)∧(0≤IntKind.u64.wrap (64-len64 p2))∧let v5:Int:=ishl .u64 p1 (IntKind.u64.wrap (64-len64 p2))
(ishr .u64 v2 32≠0)∧let v6:Int:=IntKind.u64.wrap (Int.tdiv (ior .u64 v3 (ishr .u64 p1 v4)) (ishr .u64 v2 32))
let v7:Int:=IntKind.u64.wrap (v6*(ishr .u64 v2 32))
let v8:Int:=IntKind.u64.wrap ((ior .u64 v3 (ishr .u64 p1 v4))-v7)
Md.Loop (v2,(IntKind.u64.wrap (64-len64 p2):Int),(ishr .u64 v2 32:Int),(iand .u64 v2 4294967295:Int),(ior .u64 v3 (ishr .u64 p1 v4):Int),(ishr .u64 v5 32:Int),(iand .u64 v5 4294967295:Int),v6,v8,()) (kk4 (r0,r1,()))))))):ku4 (p0,p1,p2,()) (r0,r1,()):=WPh.of_eq (by kernel_rfl) h
theorem k1g2 {r0:Int} {r1:Int} {nx1:NX TB k7m} {s2:Int} {s8:Int} {s9:Int} {s10:Int} {s11:Int} {s13:Int} {s14:Int} {s15:Int} {s16:Int} (h:
(let v11:Bool:=decide (4294967296≤(IntKind.u64.wrap (s16+s9)))
(v11=true→
kcr (r0,r1,()) (s2,s8,s9,s10,s11,s13,s14,(IntKind.u64.wrap (s15-1):Int),()))∧
(v11=false→
nx1 (s2,s8,s9,s10,s11,s13,s14,(IntKind.u64.wrap (s15-1):Int),(IntKind.u64.wrap (s16+s9):Int),())))):kct (r0,r1,()) nx1 (s2,s8,s9,s10,s11,s13,s14,s15,s16,()):=⟨mpr_of (by kernel_rfl) h⟩
theorem k1f0 {r0:Int} {r1:Int} {s2:Int} {s8:Int} {s9:Int} {s10:Int} {s11:Int} {s13:Int} {s14:Int} {s15:Int} (h:
(let v12:Int:=IntKind.u64.wrap ((IntKind.u64.wrap (s11*4294967296))+s13)
let v13:Int:=IntKind.u64.wrap (v12-(IntKind.u64.wrap (s15*s2)))
(s9≠0)∧let v14:Int:=IntKind.u64.wrap ((IntKind.u64.wrap (Int.tdiv v13 s9))*s9)
Md.Loop (s2,s8,s9,s10,s14,s15,(IntKind.u64.wrap (v13-v14):Int),v13,(IntKind.u64.wrap (Int.tdiv v13 s9):Int),()) (kk6 (r0,r1,())))):kcr (r0,r1,()) (s2,s8,s9,s10,s11,s13,s14,s15,()):=⟨mpr_of (by kernel_rfl) h⟩
theorem k1fm {r0:Int} {r1:Int} {nx2:NX TB k7o} {s2:Int} {s8:Int} {s9:Int} {s10:Int} {s14:Int} {s15:Int} {s16:Int} {s17:Int} {s18:Int} (h:
(let v17:Bool:=decide (4294967296≤(IntKind.u64.wrap (s16+s9)))
(v17=true→
kcv (r0,r1,()) (s2,s8,s14,s15,s17,(IntKind.u64.wrap (s18-1):Int),()))∧
(v17=false→
nx2 (s2,s8,s9,s10,s14,s15,(IntKind.u64.wrap (s16+s9):Int),s17,(IntKind.u64.wrap (s18-1):Int),())))):kcx (r0,r1,()) nx2 (s2,s8,s9,s10,s14,s15,s16,s17,s18,()):=⟨mpr_of (by kernel_rfl) h⟩
theorem k1ex {r0:Int} {r1:Int} {s2:Int} {s8:Int} {s14:Int} {s15:Int} {s17:Int} {s18:Int} (h:
(let v18:Int:=IntKind.u64.wrap ((IntKind.u64.wrap (s15*4294967296))+s18)
let v19:Int:=IntKind.u64.wrap ((IntKind.u64.wrap (s17*4294967296))+s14)
let v20:Int:=IntKind.u64.wrap (v19-(IntKind.u64.wrap (s18*s2)))
(0≤s8)∧v18=r0∧ishr .u64 v20 s8=r1)):kcv (r0,r1,()) (s2,s8,s14,s15,s17,s18,()):=⟨mpr_of (by kernel_rfl) h⟩
def k17h (r0:Int) (r1:Int) (nx1:NX TB k7m) (k1:Int→Int→Prop) (s2:Int) (s8:Int) (s9:Int) (s10:Int) (s11:Int) (s13:Int) (s14:Int) (s15:Int) (s16:Int):Prop:=
(decide (4294967296≤s15)=true→
kct (r0,r1,()) nx1 (s2,s8,s9,s10,s11,s13,s14,s15,s16,()))∧
(decide (4294967296≤s15)=false→
let v9:Int:=IntKind.u64.wrap ((IntKind.u64.wrap (4294967296*s16))+s13)
let v10:Bool:=decide (v9<(IntKind.u64.wrap (s15*s10)))
(v10=true→
kct (r0,r1,()) nx1 (s2,s8,s9,s10,s11,s13,s14,s15,s16,()))∧
(v10=false→
kcr (r0,r1,()) (s2,s8,s9,s10,s11,s13,s14,s15,())))
theorem k1jf {r0:Int} {r1:Int} {s2:Int} {s8:Int} {s9:Int} {s10:Int} {s11:Int} {s13:Int} {s14:Int} {s15:Int} {s16:Int} (inv:Int→Int→Prop) (μ:Int→Int→Nat) (h0:inv s15 s16) (hs:∀(s15:Int) (s16:Int),inv s15 s16→k17h r0 r1 (fun s:Int×Int×Int×Int×Int×Int×Int×Int×Int×Unit=>((s.1=s2∧s.2.1=s8∧s.2.2.1=s9∧s.2.2.2.1=s10∧s.2.2.2.2.1=s11∧s.2.2.2.2.2.1=s13∧s.2.2.2.2.2.2.1=s14)∧inv s.2.2.2.2.2.2.2.1 s.2.2.2.2.2.2.2.2.1)∧μ s.2.2.2.2.2.2.2.1 s.2.2.2.2.2.2.2.2.1<μ s15 s16) (fun s15q s16q=>inv s15q s16q∧μ s15q s16q<μ s15 s16) s2 s8 s9 s10 s11 s13 s14 s15 s16):Md.Loop (s2,s8,s9,s10,s11,s13,s14,s15,s16,()) (kk4 (r0,r1,())):=
 ⟨⟨fun s:Int×Int×Int×Int×Int×Int×Int×Int×Int×Unit=>(s.1=s2∧s.2.1=s8∧s.2.2.1=s9∧s.2.2.2.1=s10∧s.2.2.2.2.1=s11∧s.2.2.2.2.2.1=s13∧s.2.2.2.2.2.2.1=s14)∧inv s.2.2.2.2.2.2.2.1 s.2.2.2.2.2.2.2.2.1,fun s:Int×Int×Int×Int×Int×Int×Int×Int×Int×Unit=>μ s.2.2.2.2.2.2.2.1 s.2.2.2.2.2.2.2.2.1,⟨⟨rfl,rfl,rfl,rfl,rfl,rfl,rfl⟩,h0⟩,fun(s2p,s8p,s9p,s10p,s11p,s13p,s14p,s15p,s16p,()) ⟨⟨eq0,eq1,eq2,eq3,eq4,eq5,eq6⟩,hi⟩=>by
  have eq0:s2p=s2:=eq0;subst s2p;have eq1:s8p=s8:=eq1;subst s8p;have eq2:s9p=s9:=eq2;subst s9p;have eq3:s10p=s10:=eq3;subst s10p;have eq4:s11p=s11:=eq4;subst s11p;have eq5:s13p=s13:=eq5;subst s13p;have eq6:s14p=s14:=eq6;subst s14p;exact mpr_of (by kernel_rfl) ((congrArg (fun k=>k17h r0 r1 (fun s:Int×Int×Int×Int×Int×Int×Int×Int×Int×Unit=>((s.1=s2∧s.2.1=s8∧s.2.2.1=s9∧s.2.2.2.1=s10∧s.2.2.2.2.1=s11∧s.2.2.2.2.2.1=s13∧s.2.2.2.2.2.2.1=s14)∧inv s.2.2.2.2.2.2.2.1 s.2.2.2.2.2.2.2.2.1)∧μ s.2.2.2.2.2.2.2.1 s.2.2.2.2.2.2.2.2.1<μ s15p s16p) k s2 s8 s9 s10 s11 s13 s14 s15p s16p) (lpk2 (⟨rfl,rfl,rfl,rfl,rfl,rfl,rfl⟩:s2=s2∧s8=s8∧s9=s9∧s10=s10∧s11=s11∧s13=s13∧s14=s14) inv (fun s15q s16q=>μ s15q s16q<μ s15p s16p))).mpr (hs s15p s16p hi))⟩⟩
def k17a (r0:Int) (r1:Int) (nx2:NX TB k7o) (k2:Int→Int→Prop) (s2:Int) (s8:Int) (s9:Int) (s10:Int) (s14:Int) (s15:Int) (s17:Int) (s16:Int) (s18:Int):Prop:=
(decide (4294967296≤s18)=true→
kcx (r0,r1,()) nx2 (s2,s8,s9,s10,s14,s15,s16,s17,s18,()))∧
(decide (4294967296≤s18)=false→
let v15:Int:=IntKind.u64.wrap ((IntKind.u64.wrap (4294967296*s16))+s14)
let v16:Bool:=decide (v15<(IntKind.u64.wrap (s18*s10)))
(v16=true→
kcx (r0,r1,()) nx2 (s2,s8,s9,s10,s14,s15,s16,s17,s18,()))∧
(v16=false→
kcv (r0,r1,()) (s2,s8,s14,s15,s17,s18,())))
theorem k1jc {r0:Int} {r1:Int} {s2:Int} {s8:Int} {s9:Int} {s10:Int} {s14:Int} {s15:Int} {s17:Int} {s16:Int} {s18:Int} (inv:Int→Int→Prop) (μ:Int→Int→Nat) (h0:inv s16 s18) (hs:∀(s16:Int) (s18:Int),inv s16 s18→k17a r0 r1 (fun s:Int×Int×Int×Int×Int×Int×Int×Int×Int×Unit=>((s.1=s2∧s.2.1=s8∧s.2.2.1=s9∧s.2.2.2.1=s10∧s.2.2.2.2.1=s14∧s.2.2.2.2.2.1=s15∧s.2.2.2.2.2.2.2.1=s17)∧inv s.2.2.2.2.2.2.1 s.2.2.2.2.2.2.2.2.1)∧μ s.2.2.2.2.2.2.1 s.2.2.2.2.2.2.2.2.1<μ s16 s18) (fun s16q s18q=>inv s16q s18q∧μ s16q s18q<μ s16 s18) s2 s8 s9 s10 s14 s15 s17 s16 s18):Md.Loop (s2,s8,s9,s10,s14,s15,s16,s17,s18,()) (kk6 (r0,r1,())):=
 ⟨⟨fun s:Int×Int×Int×Int×Int×Int×Int×Int×Int×Unit=>(s.1=s2∧s.2.1=s8∧s.2.2.1=s9∧s.2.2.2.1=s10∧s.2.2.2.2.1=s14∧s.2.2.2.2.2.1=s15∧s.2.2.2.2.2.2.2.1=s17)∧inv s.2.2.2.2.2.2.1 s.2.2.2.2.2.2.2.2.1,fun s:Int×Int×Int×Int×Int×Int×Int×Int×Int×Unit=>μ s.2.2.2.2.2.2.1 s.2.2.2.2.2.2.2.2.1,⟨⟨rfl,rfl,rfl,rfl,rfl,rfl,rfl⟩,h0⟩,fun(s2p,s8p,s9p,s10p,s14p,s15p,s16p,s17p,s18p,()) ⟨⟨eq0,eq1,eq2,eq3,eq4,eq5,eq6⟩,hi⟩=>by
  have eq0:s2p=s2:=eq0;subst s2p;have eq1:s8p=s8:=eq1;subst s8p;have eq2:s9p=s9:=eq2;subst s9p;have eq3:s10p=s10:=eq3;subst s10p;have eq4:s14p=s14:=eq4;subst s14p;have eq5:s15p=s15:=eq5;subst s15p;have eq6:s17p=s17:=eq6;subst s17p;exact mpr_of (by kernel_rfl) ((congrArg (fun k=>k17a r0 r1 (fun s:Int×Int×Int×Int×Int×Int×Int×Int×Int×Unit=>((s.1=s2∧s.2.1=s8∧s.2.2.1=s9∧s.2.2.2.1=s10∧s.2.2.2.2.1=s14∧s.2.2.2.2.2.1=s15∧s.2.2.2.2.2.2.2.1=s17)∧inv s.2.2.2.2.2.2.1 s.2.2.2.2.2.2.2.2.1)∧μ s.2.2.2.2.2.2.1 s.2.2.2.2.2.2.2.2.1<μ s16p s18p) k s2 s8 s9 s10 s14 s15 s17 s16p s18p) (lpk2 (⟨rfl,rfl,rfl,rfl,rfl,rfl,rfl⟩:s2=s2∧s8=s8∧s9=s9∧s10=s10∧s14=s14∧s15=s15∧s17=s17) inv (fun s16q s18q=>μ s16q s18q<μ s16p s18p))).mpr (hs s16p s18p hi))⟩⟩
theorem bd75:Callable Try.prog 75:=⟨by rw[Try.func75];kernel_rfl,by rw[Try.func75];show some _≠some _;decide⟩
theorem k1if (p0:Int) (p1:Int) (p2:Int) (h:U64 p0∧U64 p1∧U64 p2∧p0<p2):ku4 (p0,p1,p2,()) ((((p0*18446744073709551616+p1)/p2):Int),(((p0*18446744073709551616+p1)%p2):Int),()):=by
 obtain⟨h0,h1,h2,hlt⟩:=h
 refine k1m6 ⟨fun e=> ?_,fun _=>⟨fun e=> ?_,fun _=>⟨fun e=> ?_,fun _=> ?_⟩⟩⟩
 ·simp at e;omega
 ·simp at e;omega
 ·have e:p0=0:=by simpa using e
  subst e
  rw[tdiv_nn _ _ h1.1,tmod_nn _ _ h1.1,Int.zero_mul,Int.zero_add]
  have:=Int.ediv_le_self p2 h1.1
  have:=Int.ediv_nonneg h1.1 h2.1
  exact⟨by omega,by omega,wu _ (by omega) (by have:=Int.ediv_le_self p2 h1.1;omega),rfl⟩
 obtain⟨s,e,hs,n1,n2⟩:=k1gk p2 ⟨by omega,h2.2⟩
 have ew:IntKind.u64.wrap (64-len64 p2)=(s:Int):=by rw[e,wu _ (by omega) (by omega)]
 have ew3:IntKind.u64.wrap (64-(s:Int))=((64-s:Nat):Int):=by rw[wu _ (by omega) (by omega)];omega
 have hp:0<2^s:=Nat.two_pow_pos s
 have hp' :0<2^(64-s):=Nat.two_pow_pos _
 have hpp:2^s*2^(64-s)=18446744073709551616:=by rw[←Nat.pow_add,show s+(64-s)=64 by omega]
 have hP:((2^s:Nat):Int)*((2^(64-s):Nat):Int)=18446744073709551616:=by rw[←Int.natCast_mul,hpp];rfl
 have il:∀a:Int,ishl .u64 a (s:Int)=a*((2^s:Nat):Int)%18446744073709551616:=fun a=>by rw[k1u5,Int.toNat_natCast,Nat.min_eq_left (by omega)]
 have ir:∀a:Int,ishr .u64 a (s:Int)=a/((2^s:Nat):Int):=fun a=>by rw[kvf,Int.toNat_natCast,show min s IntKind.u64.bits=s from Nat.min_eq_left (by show s≤64;omega)]
 have ir' :∀a:Int,ishr .u64 a ((64-s:Nat):Int)=a/((2^(64-s):Nat):Int):=fun a=>by rw[kvf,Int.toNat_natCast,show min (64-s) IntKind.u64.bits=64-s from Nat.min_eq_left (by show 64-s≤64;omega)]
 have hor:∀c:Int,0≤c→c<((2^s:Nat):Int)→p0*((2^s:Nat):Int)+c<18446744073709551616→ior .u64 (p0*((2^s:Nat):Int)) c=p0*((2^s:Nat):Int)+c:=by
  intro c hc0 hc1 hc2
  obtain⟨a,rfl⟩:=Int.eq_ofNat_of_zero_le h0.1
  obtain⟨c,rfl⟩:=Int.eq_ofNat_of_zero_le hc0
  have key:=ior_add' c a s (by omega)
  rw[Int.mul_comm,←Int.natCast_mul]at hc2 ⊢
  rw[key (by omega)]
  omega
 simp only[ew,ew3,il,ir',ishr32]
 have hP'0:(0:Int)<((2^(64-s):Nat):Int):=by omega
 generalize hPd:((2^s:Nat):Int)=P at *
 generalize hPd' :((2^(64-s):Nat):Int)=P' at *
 have hP0:0<P:=by omega
 have hlo:p1/P' <P:=Int.ediv_lt_of_lt_mul hP'0 (by omega)
 have hlo0:0≤p1/P' :=Int.ediv_nonneg h1.1 (by omega)
 have hUv:p0*P+P≤p2*P:=by
  have:(p0+1)*P≤p2*P:=Int.mul_le_mul_of_nonneg_right (by omega) (by omega)
  grind
 have hUp:0≤p0*P:=Int.mul_nonneg h0.1 (by omega)
 rw[Int.emod_eq_of_lt (a:=p2*P) (by omega) n2,Int.emod_eq_of_lt (a:=p0*P) hUp (by omega),hor _ hlo0 hlo (by omega)]
 have hN:(p0*18446744073709551616+p1)*P=(p0*P+p1/P')*18446744073709551616+(p1*P%18446744073709551616/4294967296)*4294967296+p1*P%18446744073709551616%4294967296:=by
  have h5:p1*P/18446744073709551616=p1/P' :=by
   rw[←hP,Int.mul_comm p1 P,Int.mul_ediv_mul_of_pos _ _ hP0]
  have h6:=Int.emod_add_mul_ediv (p1*P) 18446744073709551616
  rw[h5]at h6
  have:(p0*18446744073709551616+p1)*P=p0*P*18446744073709551616+p1*P:=by grind
  rw[this]
  generalize p1*P=w at *
  generalize p0*P=w' at *
  omega
 have hlb:0≤p1*P%18446744073709551616∧p1*P%18446744073709551616<18446744073709551616:=⟨Int.emod_nonneg _ (by omega),Int.emod_lt_of_pos _ (by omega)⟩
 generalize hUd:p0*P+p1/P' =U at *
 generalize hLd:p1*P%18446744073709551616=L at *
 have hVd:p2*P/4294967296*4294967296+p2*P%4294967296=p2*P:=by omega
 have hw:∀{Q R V' :Int},R-Q=V'→0≤V'→V' <18446744073709551616→∀A,R=A*4294967296+(R-A*4294967296)→IntKind.u64.wrap (IntKind.u64.wrap (IntKind.u64.wrap (A*4294967296)+(R-A*4294967296))-IntKind.u64.wrap Q)=V' :=by
  intro Q R V' hv h0 h1 A hA
  simp only[u64w]
  omega
 rw[kqb (p2*P) (by omega),kqb L (by omega)]
 generalize ha:p2*P/4294967296=a at *
 generalize hb:p2*P%4294967296=b at *
 have hQ1:Half U (L/4294967296) a b ((U*4294967296+L/4294967296)/(a*4294967296+b)):=⟨by omega,by omega,by omega,by omega,by omega,rfl⟩
 have hr1:=hQ1.rest
 have hq1:=hQ1.q
 generalize (U*4294967296+L/4294967296)/(a*4294967296+b)=Q1 at *
 generalize (U*4294967296+L/4294967296)%(a*4294967296+b)=R1 at *
 have hQ0:Half R1 (L%4294967296) a b ((R1*4294967296+L%4294967296)/(a*4294967296+b)):=⟨by omega,by omega,by omega,by omega,by omega,rfl⟩
 have hr0:=hQ0.rest
 have hq0:=hQ0.q
 generalize (R1*4294967296+L%4294967296)/(a*4294967296+b)=Q0 at *
 generalize (R1*4294967296+L%4294967296)%(a*4294967296+b)=R0 at *
 rw[hVd]at hr1 hr0 hq1 hq0
 have fin:=k1r2 hP0 (by omega:0<p2) hN hr1.1 hr0.1 ⟨hr0.2.1,hr0.2.2⟩
 have j4:kcv (((p0*18446744073709551616+p1)/p2:Int),((p0*18446744073709551616+p1)%p2:Int),()) ((p2*P:Int),(s:Int),(L%4294967296:Int),Q1,R1,Q0,()):=by
  refine k1ex ⟨by omega,?_,?_⟩
  ·rw[wu (Q1*4294967296) (by omega) (by omega),wu _ (by omega) (by omega)]
   exact fin.1
  ·have:=hw (Q:=Q0*(p2*P)) (R:=R1*4294967296+L%4294967296) hr0.1 hr0.2.1 (by omega) R1 (by omega)
   rw[show R1*4294967296+L%4294967296-R1*4294967296=L%4294967296 by omega]at this
   rw[this,ir]
   exact fin.2
 have aux:∀{U x Q q r:Int},Half U x a b Q→U<18446744073709551616→q*a+r=U→Q≤q→0≤r→q≤8589934592:=by
  intro U x Q q r hh hU e hQ hr
  have h1:=hh.ha
  refine Int.le_of_lt_add_one (Int.lt_of_mul_lt_mul_right (a:=a) ?_ (by omega))
  generalize q*a=w at *
  omega
 have init:∀{U x Q:Int},Half U x a b Q→Q≤U/a:=by
  intro U x Q hh
  have h1:=hh.ha
  have h2:=hh.q
  have h3:=hh.hb
  have h4:=hh.hx
  refine(Int.le_ediv_iff_mul_le (by omega)).2 ?_
  have h5:Q*(a*4294967296+b)=Q*a*4294967296+Q*b:=by grind
  have h6:0≤Q*b:=Int.mul_nonneg h2.1 h3.1
  generalize Q*a=w at *
  omega
 have j2:kcr (((p0*18446744073709551616+p1)/p2:Int),((p0*18446744073709551616+p1)%p2:Int),()) ((p2*P:Int),(s:Int),a,b,U,(L/4294967296:Int),(L%4294967296:Int),Q1,()):=by
  have e1:=hw (Q:=Q1*(p2*P)) (R:=U*4294967296+L/4294967296) hr1.1 hr1.2.1 (by omega) U (by omega)
  rw[show U*4294967296+L/4294967296-U*4294967296=L/4294967296 by omega]at e1
  refine k1f0 ?_
  simp only[e1]
  have hd:=Int.emod_add_mul_ediv R1 a
  have hd1:=Int.emod_nonneg R1 (by omega:a≠0)
  have hd2:=Int.emod_lt_of_pos R1 (by omega:0<a)
  have hd3:0≤R1/a:=Int.ediv_nonneg hr1.2.1 (by omega)
  rw[Int.mul_comm]at hd
  have hd5:0≤R1/a*a:=Int.mul_nonneg hd3 (by omega)
  have hd4:=aux hQ0 (by omega) (q:=R1/a) (r:=R1%a) (by omega) (init hQ0) hd1
  rw[tdiv_nn _ _ hr1.2.1,wu (R1/a) (by omega) (by omega),wu (R1/a*a) (by omega) (by omega),show R1-R1/a*a=R1%a by omega,wu (R1%a) (by omega) (by omega)]
  refine⟨by omega,?_⟩
  refine k1jc (fun r q=>q*a+r=R1∧Q0≤q∧0≤r∧r<4294967296) (fun r q=>q.toNat) ⟨by omega,init hQ0,hd1,by omega⟩ ?_
  rintro r q ⟨g1,g2,g3,g4⟩
  have g5:=aux hQ0 (by omega) g1 g2 g3
  have j3:∀nx,(Q0≤q-1)→(r+a<4294967296→nx ((p2*P:Int),(s:Int),a,b,(L%4294967296:Int),Q1,(r+a:Int),R1,(q-1:Int),()))→kcx (((p0*18446744073709551616+p1)/p2:Int),((p0*18446744073709551616+p1)%p2:Int),()) nx ((p2*P:Int),(s:Int),a,b,(L%4294967296:Int),Q1,r,R1,q,()):=by
   intro nx hq hnx
   refine k1fm ?_
   rw[wu (q-1) (by omega) (by omega),wu (r+a) (by omega) (by omega)]
   refine⟨fun hd=> ?_,fun hd=>hnx (by simpa using hd)⟩
   have hd:4294967296≤r+a:=of_decide_eq_true hd
   rw[hQ0.done (q:=q-1) (r:=r+a) (by grind) hq hd]
   exact j4
  have nxt:Q0≤q-1→r+a<4294967296→((q-1)*a+(r+a)=R1∧Q0≤q-1∧0≤r+a∧r+a<4294967296)∧(q-1).toNat<q.toNat:=fun h1 h2=>⟨⟨by grind,h1,by omega,h2⟩,by omega⟩
  refine⟨fun hd=>j3 _ (hQ0.down g1 (.inl (of_decide_eq_true hd))) fun h1=> ?_,fun hd=> ?_⟩
  ·obtain⟨n1,n2⟩:=nxt (hQ0.down g1 (.inl (of_decide_eq_true hd))) h1
   exact⟨⟨⟨rfl,rfl,rfl,rfl,rfl,rfl,rfl⟩,n1⟩,n2⟩
  ·have hd:q<4294967296:=by simpa using hd
   have hqb:0≤q*b∧q*b<18446744073709551616:=by
    have:=hQ0.hb
    have h1:q*b≤4294967295*4294967295:=Int.mul_le_mul (by omega) (by omega) (by omega) (by omega)
    exact⟨Int.mul_nonneg (by omega) (by omega),by omega⟩
   have:=hQ0.hx
   rw[wu (q*b) (by omega) (by omega),wu (4294967296*r) (by omega) (by omega),wu (4294967296*r+L%4294967296) (by omega) (by omega)]
   refine⟨fun ht=> ?_,fun ht=> ?_⟩
   ·have ht:4294967296*r+L%4294967296<q*b:=of_decide_eq_true ht
    have hdn:=hQ0.down g1 (.inr (by omega))
    refine j3 _ hdn fun h1=> ?_
    obtain⟨n1,n2⟩:=nxt hdn h1
    exact⟨⟨⟨rfl,rfl,rfl,rfl,rfl,rfl,rfl⟩,n1⟩,n2⟩
   ·have ht:¬(4294967296*r+L%4294967296<q*b):=of_decide_eq_false ht
    rw[hQ0.exit g1 g2 (by omega)]
    exact j4
 have hd:=Int.emod_add_mul_ediv U a
 have hd1:=Int.emod_nonneg U (by omega:a≠0)
 have hd2:=Int.emod_lt_of_pos U (by omega:0<a)
 have hd3:0≤U/a:=Int.ediv_nonneg (by omega) (by omega)
 rw[Int.mul_comm]at hd
 have hd5:0≤U/a*a:=Int.mul_nonneg hd3 (by omega)
 have hd4:=aux hQ1 (by omega) (q:=U/a) (r:=U%a) (by omega) (init hQ1) hd1
 rw[tdiv_nn _ _ (by omega),wu (U/a) (by omega) (by omega),wu (U/a*a) (by omega) (by omega),show U-U/a*a=U%a by omega,wu (U%a) (by omega) (by omega)]
 refine⟨⟨by omega,h2.2⟩,by omega,by omega,by omega,by omega,by omega,?_⟩
 refine k1jf (fun q r=>q*a+r=U∧Q1≤q∧0≤r∧r<4294967296) (fun q r=>q.toNat) ⟨by omega,init hQ1,hd1,by omega⟩ ?_
 rintro q r ⟨g1,g2,g3,g4⟩
 have g5:=aux hQ1 (by omega) g1 g2 g3
 have j1:∀nx,(Q1≤q-1)→(r+a<4294967296→nx ((p2*P:Int),(s:Int),a,b,U,(L/4294967296:Int),(L%4294967296:Int),(q-1:Int),(r+a:Int),()))→kct (((p0*18446744073709551616+p1)/p2:Int),((p0*18446744073709551616+p1)%p2:Int),()) nx ((p2*P:Int),(s:Int),a,b,U,(L/4294967296:Int),(L%4294967296:Int),q,r,()):=by
  intro nx hq hnx
  refine k1g2 ?_
  rw[wu (q-1) (by omega) (by omega),wu (r+a) (by omega) (by omega)]
  refine⟨fun hd=> ?_,fun hd=>hnx (by simpa using hd)⟩
  have hd:4294967296≤r+a:=of_decide_eq_true hd
  rw[hQ1.done (q:=q-1) (r:=r+a) (by grind) hq hd]
  exact j2
 have nxt:Q1≤q-1→r+a<4294967296→((q-1)*a+(r+a)=U∧Q1≤q-1∧0≤r+a∧r+a<4294967296)∧(q-1).toNat<q.toNat:=fun h1 h2=>⟨⟨by grind,h1,by omega,h2⟩,by omega⟩
 refine⟨fun hd=>j1 _ (hQ1.down g1 (.inl (of_decide_eq_true hd))) fun h1=> ?_,fun hd=> ?_⟩
 ·obtain⟨n1,n2⟩:=nxt (hQ1.down g1 (.inl (of_decide_eq_true hd))) h1
  exact⟨⟨⟨rfl,rfl,rfl,rfl,rfl,rfl,rfl⟩,n1⟩,n2⟩
 ·have hd:q<4294967296:=by simpa using hd
  have hqb:0≤q*b∧q*b<18446744073709551616:=by
   have:=hQ1.hb
   have h1:q*b≤4294967295*4294967295:=Int.mul_le_mul (by omega) (by omega) (by omega) (by omega)
   exact⟨Int.mul_nonneg (by omega) (by omega),by omega⟩
  have:=hQ1.hx
  rw[wu (q*b) (by omega) (by omega),wu (4294967296*r) (by omega) (by omega),wu (4294967296*r+L/4294967296) (by omega) (by omega)]
  refine⟨fun ht=> ?_,fun ht=> ?_⟩
  ·have ht:4294967296*r+L/4294967296<q*b:=of_decide_eq_true ht
   have hdn:=hQ1.down g1 (.inr (by omega))
   refine j1 _ hdn fun h1=> ?_
   obtain⟨n1,n2⟩:=nxt hdn h1
   exact⟨⟨⟨rfl,rfl,rfl,rfl,rfl,rfl,rfl⟩,n1⟩,n2⟩
  ·have ht:¬(4294967296*r+L/4294967296<q*b):=of_decide_eq_false ht
   rw[hQ1.exit g1 g2 (by omega)]
   exact j2
noncomputable def kvq:Con TB.den:=k4j.fnR (fun x=>(fun(p0:Int) (p1:Int) (p2:Int)=>U64 p0∧U64 p1∧U64 p2∧p0<p2) x.1 x.2.1 x.2.2.1) fun x=>(fun(p0:Int) (p1:Int) (p2:Int)=>((((p0*18446744073709551616+p1)/p2):Int),(((p0*18446744073709551616+p1)%p2):Int),())) x.1 x.2.1 x.2.2.1
theorem k17n:kvq.Ok Try.prog TB:=Con.ok_fn k4j bd75 fun x h=>k1kg (k1if x.1 x.2.1 x.2.2.1 h)
end Go.Proofs.Ytcilpmmlfpkdoaa
end
