/-
  Parts of the proofs that the laws of this seat hold of every input, merged by a program: a machine over pure data that is sound for the model, what each function of the translation does in it, and plain lemmas. No conditions but those in each theorem.
-/
import Derived.Test.YtpffhgljgpjenaaA4
set_option linter.all false
set_option maxRecDepth 100000
noncomputable section
namespace Go.Proofs.Ytpffhgljgpjenaa
open Go Go.Bv Go.Cv Go.Md Go.RowKit
def k3m:Con TB.den:=Con.mk0 30 [.one (.d (.int .u64))] [] (.tup [.agg [.d (.int .i64),.d (.int .u64),.d (.sl (.int .u64)),.d (.sl (.int .u64)),.d (.sl (.int .u64)),.d (.int .u64),.d (.int .u64),.d (.int .u64),.d (.int .u64),.d (.int .u64)],.agg [.d (.sl (.st 0)),.d (.sl (.st 1)),.d (.int .u64)]]) []
abbrev kyv:=HL TB.den (hsT k3m.ins (hsOs k3m.pre))
abbrev ki1:=HL TB.den (hsV k3m.res (hsOs k3m.post))
noncomputable def kbl:Cx TB:=⟨inf,[kwf,ktc],[],4,[]⟩
noncomputable def kii:Code:=Try.f30.body.getD .skip
noncomputable def km6:List ResultVar:=Try.f30.results.toList
noncomputable def kwe (o:ki1):An TB:= .no
def kit (x:kyv) (o:ki1):Prop:=WPh TB kbl 18 0 kii (kwe o) (k3m.st TB x) (retTQ TB kbl k3m km6 o)
theorem k1c1 (o:ki1):OblH TB kbl 18 0 kii (kwe o) (retTQ TB kbl k3m km6 o):=
 OblH.ofC (X:=True) (by kernel_rfl) trivial
theorem k1au {x:kyv} {o:ki1} (h:kit x o):k3m.Snd Try.prog x o:=
 Con.soundH (c:=k3m) (C:=kbl) TBok ⟨inf_ok,(all_cons k1ia (all_cons k1dy all_nil)),all_nil⟩ mix Try.func30 (show Try.f30.body=some kii by kernel_rfl) (show Try.f30.ntmps=18 by kernel_rfl) (show Try.f30.results.toList=km6 by kernel_rfl) rfl h (k1c1 o)
theorem k1cq {p0:Int} {r0:TStatement} {r1:TWitness} (h:
((NR (TNote.mk 5 1 2 3))∧let r2:Int:=(if noteV (TNote.mk 5 1 2 3)=true then hashS 2 (noteL (TNote.mk 5 1 2 3))else 0)
(U64 (9:Int)∧(9:Int)<18446744069414584321)∧1=r0.Depth∧0=r0.Anchor∧([]:List Int)=r0.Marks∧[r2]=r0.Commits∧[2]=r0.Rhos∧7=r0.Deposit∧0=r0.Withdraw∧p0=r0.Fee∧(acctS (9:Int))=r0.Account∧0=r0.Bind∧([]:List TSpent)=r1.Ins∧[TNote.mk 5 1 2 3]=r1.Outs∧9=r1.Secret)):kit (p0,()) (r0.Depth,r0.Anchor,r0.Marks,r0.Commits,r0.Rhos,r0.Deposit,r0.Withdraw,r0.Fee,r0.Account,r0.Bind,r1.Ins,r1.Outs,r1.Secret,()):=WPh.of_eq (by kernel_rfl) h
theorem bd30:Callable Try.prog 30:=⟨by rw[Try.func30];kernel_rfl,by rw[Try.func30];show some _≠some _;decide⟩
theorem k192 (p0:Int) (h:U64 p0):kit (p0,()) (((exS p0).Depth:Int),((exS p0).Anchor:Int),((exS p0).Marks:List Int),((exS p0).Commits:List Int),((exS p0).Rhos:List Int),((exS p0).Deposit:Int),((exS p0).Withdraw:Int),((exS p0).Fee:Int),((exS p0).Account:Int),((exS p0).Bind:Int),(exW.Ins:List TSpent),(exW.Outs:List TNote),(exW.Secret:Int),()):=by
 refine k1cq (r0:=exS p0) (r1:=exW) ⟨⟨by decide,by decide,by decide,by decide⟩,?_⟩
 exact⟨⟨by decide,by decide⟩,rfl,rfl,rfl,rfl,rfl,rfl,rfl,rfl,rfl,rfl,rfl,rfl,rfl⟩
noncomputable def kt2:Con TB.den:=k3m.fnR (fun x=>(fun(p0:Int)=>U64 p0) x.1) fun x=>((fun(p0:Int)=>((exS p0).Depth:Int)) x.1,(fun(p0:Int)=>((exS p0).Anchor:Int)) x.1,(fun(p0:Int)=>((exS p0).Marks:List Int)) x.1,(fun(p0:Int)=>((exS p0).Commits:List Int)) x.1,(fun(p0:Int)=>((exS p0).Rhos:List Int)) x.1,(fun(p0:Int)=>((exS p0).Deposit:Int)) x.1,(fun(p0:Int)=>((exS p0).Withdraw:Int)) x.1,(fun(p0:Int)=>((exS p0).Fee:Int)) x.1,(fun(p0:Int)=>((exS p0).Account:Int)) x.1,(fun(p0:Int)=>((exS p0).Bind:Int)) x.1,(fun(p0:Int)=>(exW.Ins:List TSpent)) x.1,(fun(p0:Int)=>(exW.Outs:List TNote)) x.1,(fun(p0:Int)=>(exW.Secret:Int)) x.1,())
theorem k1eg:kt2.Ok Try.prog TB:=Con.ok_fn k3m bd30 fun x h=>k1au (k192 x.1 h)
def k1h:Con TB.den:=Con.mk0 32 [] [] (.one (.one (.ptr 0 0))) [.cells [.d (.bool),.d (.int .u64),.d (.int .i64),.d (.sl (.st 3)),.mp 1,.mp 2,.mp 3],.map (.str) (.int .i64),.map (.str) (.sl (.int .u64)),.map (.str) (.bool)]
abbrev ko0:=HL TB.den (hsT k1h.ins (hsOs k1h.pre))
abbrev kax:=HL TB.den (hsV k1h.res (hsOs k1h.post))
noncomputable def k7a:Cx TB:=⟨inf,[],[],4,[]⟩
noncomputable def kcm:Code:=Try.f32.body.getD .skip
noncomputable def ke0:List ResultVar:=Try.f32.results.toList
noncomputable def klg (o:kax):An TB:= .no
def kcd (x:ko0) (o:kax):Prop:=WPh TB k7a 6 0 kcm (klg o) (k1h.st TB x) (retTQ TB k7a k1h ke0 o)
theorem kxr (o:kax):OblH TB k7a 6 0 kcm (klg o) (retTQ TB k7a k1h ke0 o):=
 OblH.ofC (X:=True) (by kernel_rfl) trivial
theorem ky8 {x:ko0} {o:kax} (h:kcd x o):k1h.Snd Try.prog x o:=
 Con.soundH (c:=k1h) (C:=k7a) TBok ⟨inf_ok,all_nil,all_nil⟩ mix Try.func32 (show Try.f32.body=some kcm by kernel_rfl) (show Try.f32.ntmps=6 by kernel_rfl) (show Try.f32.results.toList=ke0 by kernel_rfl) rfl h (kxr o)
theorem k11c  {d0_0:Bool} {d0_1:Int} {d0_2:Int} {d0_3:List TQuestion} {e1k:List ByteArray} {e1v:List Int} {e2k:List ByteArray} {e2v:List (List Int)} {e3k:List ByteArray} {e3v:List Bool} (h:
(false=d0_0∧0=d0_1∧0=d0_2∧([]:List TQuestion)=d0_3∧([]:List ByteArray)=e1k∧([]:List Int)=e1v∧([]:List ByteArray)=e2k∧([]:List (List Int))=e2v∧([]:List ByteArray)=e3k∧([]:List Bool)=e3v)):kcd (()) (d0_0,d0_1,d0_2,d0_3,e1k,e1v,e2k,e2v,e3k,e3v,()):=WPh.of_eq (by kernel_rfl) h
theorem bd32:Callable Try.prog 32:=⟨by rw[Try.func32];kernel_rfl,by rw[Try.func32];show some _≠some _;decide⟩
theorem kvs:kcd (()) ((false:Bool),(0:Int),(0:Int),([]:List TQuestion),([]:List ByteArray),([]:List Int),([]:List ByteArray),([]:List (List Int)),([]:List ByteArray),([]:List Bool),()):=by
 exact k11c ⟨rfl,rfl,rfl,rfl,rfl,rfl,rfl,rfl,rfl,rfl⟩
noncomputable def kla:Con TB.den:=k1h.totR fun x=>((false:Bool),(0:Int),(0:Int),([]:List TQuestion),([]:List ByteArray),([]:List Int),([]:List ByteArray),([]:List (List Int)),([]:List ByteArray),([]:List Bool),())
theorem k10e:kla.Ok Try.prog TB:=Con.ok_tot k1h bd32 fun x=>ky8 (kvs)
def k3r:Con TB.den:=Con.mk0 14 [] [] (.one (.one (.ptr 0 0))) [.cells [.d (.bool),.d (.int .u64),.d (.int .i64),.d (.sl (.st 3)),.mp 1,.mp 2,.mp 3],.map (.str) (.int .i64),.map (.str) (.sl (.int .u64)),.map (.str) (.bool)]
abbrev k109:=HL TB.den (hsT k3r.ins (hsOs k3r.pre))
abbrev khx:=HL TB.den (hsV k3r.res (hsOs k3r.post))
noncomputable def kcl:Cx TB:=⟨inf,[kla],[],4,[]⟩
noncomputable def kie:Code:=Try.f14.body.getD .skip
noncomputable def km0:List ResultVar:=Try.f14.results.toList
noncomputable def kvw (o:khx):An TB:= .no
def kio (x:k109) (o:khx):Prop:=WPh TB kcl 2 0 kie (kvw o) (k3r.st TB x) (retTQ TB kcl k3r km0 o)
theorem k1an (o:khx):OblH TB kcl 2 0 kie (kvw o) (retTQ TB kcl k3r km0 o):=
 OblH.ofC (X:=True) (by kernel_rfl) trivial
theorem k1bi {x:k109} {o:khx} (h:kio x o):k3r.Snd Try.prog x o:=
 Con.soundH (c:=k3r) (C:=kcl) TBok ⟨inf_ok,(all_cons k10e all_nil),all_nil⟩ mix Try.func14 (show Try.f14.body=some kie by kernel_rfl) (show Try.f14.ntmps=2 by kernel_rfl) (show Try.f14.results.toList=km0 by kernel_rfl) rfl h (k1an o)
theorem k1dd  {d0_0:Bool} {d0_1:Int} {d0_2:Int} {d0_3:List TQuestion} {e1k:List ByteArray} {e1v:List Int} {e2k:List ByteArray} {e2v:List (List Int)} {e3k:List ByteArray} {e3v:List Bool} (h:
(false=d0_0∧0=d0_1∧0=d0_2∧[]=d0_3∧[]=e1k∧[]=e1v∧[]=e2k∧[]=e2v∧[]=e3k∧[]=e3v)):kio (()) (d0_0,d0_1,d0_2,d0_3,e1k,e1v,e2k,e2v,e3k,e3v,()):=WPh.of_eq (by kernel_rfl) h
theorem bd14:Callable Try.prog 14:=⟨by rw[Try.func14];kernel_rfl,by rw[Try.func14];show some _≠some _;decide⟩
theorem k18j:kio (()) ((false:Bool),(0:Int),(0:Int),([]:List TQuestion),([]:List ByteArray),([]:List Int),([]:List ByteArray),([]:List (List Int)),([]:List ByteArray),([]:List Bool),()):=by
 exact k1dd ⟨rfl,rfl,rfl,rfl,rfl,rfl,rfl,rfl,rfl,rfl⟩
noncomputable def ksw:Con TB.den:=k3r.totR fun x=>((false:Bool),(0:Int),(0:Int),([]:List TQuestion),([]:List ByteArray),([]:List Int),([]:List ByteArray),([]:List (List Int)),([]:List ByteArray),([]:List Bool),())
theorem k1eu:ksw.Ok Try.prog TB:=Con.ok_tot k3r bd14 fun x=>k1bi (k18j)
def k3n:Con TB.den:=Con.mk0 103 [.agg [.d (.int .u64)]] [] (.one (.one (.d (.bool)))) []
abbrev kzg:=HL TB.den (hsT k3n.ins (hsOs k3n.pre))
abbrev kic:=HL TB.den (hsV k3n.res (hsOs k3n.post))
noncomputable def kbk:Cx TB:=⟨inf,[],[],4,[]⟩
noncomputable def kip:Code:=Try.f103.body.getD .skip
noncomputable def kmx:List ResultVar:=Try.f103.results.toList
noncomputable def kwc (o:kic):An TB:= .no
def kir (x:kzg) (o:kic):Prop:=WPh TB kbk 13 0 kip (kwc o) (k3n.st TB x) (retTQ TB kbk k3n kmx o)
theorem k1cd (o:kic):OblH TB kbk 13 0 kip (kwc o) (retTQ TB kbk k3n kmx o):=
 OblH.ofC (X:=True) (by kernel_rfl) trivial
theorem k19s {x:kzg} {o:kic} (h:kir x o):k3n.Snd Try.prog x o:=
 Con.soundH (c:=k3n) (C:=kbk) TBok ⟨inf_ok,all_nil,all_nil⟩ mix Try.func103 (show Try.f103.body=some kip by kernel_rfl) (show Try.f103.ntmps=13 by kernel_rfl) (show Try.f103.results.toList=kmx by kernel_rfl) rfl h (k1cd o)
theorem k1cu {p0:TField} {r0:Bool} (h:
(((p0.P==18446744069414584321)=true→
((p0.P==18446744069414584321)=true→
 true=r0)∧
((p0.P==18446744069414584321)=false→
 false=r0))∧
((p0.P==18446744069414584321)=false→
((p0.P==17)=true→
((p0.P==17)=true→
 true=r0)∧
((p0.P==17)=false→
 false=r0))∧
((p0.P==17)=false→
((p0.P==97)=true→
((p0.P==97)=true→
 true=r0)∧
((p0.P==97)=false→
 false=r0))∧
((p0.P==97)=false→
((p0.P==193)=true→
((p0.P==193)=true→
 true=r0)∧
((p0.P==193)=false→
 false=r0))∧
((p0.P==193)=false→
((p0.P==257)=true→
((p0.P==257)=true→
 true=r0)∧
((p0.P==257)=false→
 false=r0))∧
((p0.P==257)=false→
((p0.P==12289)=true→
((p0.P==12289)=true→
 true=r0)∧
((p0.P==12289)=false→
 false=r0))∧
((p0.P==12289)=false→
((p0.P==65537)=true→
 true=r0)∧
((p0.P==65537)=false→
 false=r0))))))))):kir (p0.P,()) (r0,()):=WPh.of_eq (by kernel_rfl) h
theorem bd103:Callable Try.prog 103:=⟨by rw[Try.func103];kernel_rfl,by rw[Try.func103];show some _≠some _;decide⟩
theorem k17y (p0:TField) (h:p0.P=18446744069414584321):kir (p0.P,()) ((true:Bool),()):=by
 refine k1cu ?_
 simp[h]
noncomputable def k6z:Con TB.den:=k3n.fnR (fun x=>(fun(p0:TField)=>p0.P=18446744069414584321) (TField.mk x.1)) fun x=>((fun(p0:TField)=>(true:Bool)) (TField.mk x.1),())
theorem k9g:k6z.Ok Try.prog TB:=Con.ok_fn k3n bd103 fun x h=>k19s (k17y (TField.mk x.1) h)
def k41:Con TB.den:=Con.mk0 117 [.agg [.d (.int .u64)],.one (.d (.int .u64)),.one (.d (.int .u64))] [] (.one (.one (.d (.int .u64)))) []
abbrev k176:=HL TB.den (hsT k41.ins (hsOs k41.pre))
abbrev k9c:=HL TB.den (hsV k41.res (hsOs k41.post))
noncomputable def k7x:Cx TB:=⟨inf,[],[x130],4,[]⟩
noncomputable def kci:Code:=Try.f117.body.getD .skip
noncomputable def kkl:List ResultVar:=Try.f117.results.toList
def k1in (o:k9c):=qS TB k7x 28 0 (cB (cB (cB kci))) .no (retTQ TB k7x k41 kkl o)
def ki3:Tm:=⟨[0],[.cells [.d (.int .u64)]],[3,7,22],[.one (.ptr 0 0),.one (.d (.int .u64)),.one (.d (.bool))],1⟩
def kzb (o:k9c) (i:HL TB.den ki3.hs):Prop:=ghs TB [] (ki3.fill TB i) fun s=>WP TB k7x 28 0 (cB (cA (cB (cB kci)))) .no s (k1in o)
structure kfu (o:k9c) (i:HL TB.den ki3.hs):Prop where
 h:kzb o i
noncomputable def k1le (o:k9c):An TB:= .nd [] (.jn ki3 (kfu o) [] .no [] .no) [] .no
noncomputable def k137 (o:k9c):An TB:= .nd [] .no [] (.nd [] .no [] (k1le o))
def kms (x:k176) (o:k9c):Prop:=WPh TB k7x 28 0 kci (k137 o) (k41.st TB x) (retTQ TB k7x k41 kkl o)
theorem k1i0 (o:k9c):OblH TB k7x 28 0 kci (k137 o) (retTQ TB k7x k41 kkl o):=
 OblH.ofC (X:=((∀i,(kfu o) i=kzb o i)∧True)) (by kernel_rfl) ⟨fun _=>propext ⟨fun h=>h.1,fun h=>⟨h⟩⟩,trivial⟩
theorem k1gf {x:k176} {o:k9c} (h:kms x o):k41.Snd Try.prog x o:=
 Con.soundH (c:=k41) (C:=k7x) TBok ⟨inf_ok,all_nil,(all_cons x130_ok all_nil)⟩ mix Try.func117 (show Try.f117.body=some kci by kernel_rfl) (show Try.f117.ntmps=28 by kernel_rfl) (show Try.f117.results.toList=kkl by kernel_rfl) rfl h (k1i0 o)
theorem k1je {p0:TField} {p1:Int} {p2:Int} {r0:Int} (h:
((0≤p1∧0≤p2∧0≤(0:Int)∧(0:Int)≤1)∧let r1:Int:=(p1+p2+(0:Int))%18446744073709551616
 let r2:Int:=(p1+p2+(0:Int))/18446744073709551616
((r2 !=0)=true→
 kfu (r0,()) (r1,true,p0.P,()))∧
((r2 !=0)=false→
 kfu (r0,()) (r1,(decide (p0.P≤r1):Bool),p0.P,())))):kms (p0.P,p1,p2,()) (r0,()):=WPh.of_eq (by kernel_rfl) h
theorem ktk {r0:Int} {s7:Int} {s22:Bool} {h0_0:Int} (h:
((s22=true→
 IntKind.u64.wrap (s7-h0_0)=r0)∧
(s22=false→
 s7=r0))):kfu (r0,()) (s7,s22,h0_0,()):=⟨mpr_of (by kernel_rfl) h⟩
theorem bd117:Callable Try.prog 117:=⟨by rw[Try.func117];kernel_rfl,by rw[Try.func117];show some _≠some _;decide⟩
theorem k1de (p0:TField) (p1:Int) (p2:Int) (h:p0.P=18446744069414584321∧(0≤p1∧p1<18446744069414584321)∧(0≤p2∧p2<18446744069414584321)):kms (p0.P,p1,p2,()) ((((p1+p2)%18446744069414584321):Int),()):=by
 obtain⟨hP,h1,h2⟩:=h
 refine k1je ⟨by omega,?_,?_⟩
 ·intro h
  refine ktk ⟨fun _=> ?_,fun h=>by simp at h⟩
  have h:(p1+p2+0)/18446744073709551616≠0:=by simpa using h
  rw[hP,u64w];omega
 ·intro h
  have h:(p1+p2+0)/18446744073709551616=0:=by simpa using h
  refine ktk ⟨fun g=> ?_,fun g=> ?_⟩
  ·have g:=of_decide_eq_true g
   rw[hP]at g ⊢
   rw[u64w];omega
  ·have g:=of_decide_eq_false g
   rw[hP]at g
   omega
noncomputable def kyl:Con TB.den:=k41.fnR (fun x=>(fun(p0:TField) (p1:Int) (p2:Int)=>p0.P=18446744069414584321∧(0≤p1∧p1<18446744069414584321)∧(0≤p2∧p2<18446744069414584321)) (TField.mk x.1) x.2.1 x.2.2.1) fun x=>((fun(p0:TField) (p1:Int) (p2:Int)=>(((p1+p2)%18446744069414584321):Int)) (TField.mk x.1) x.2.1 x.2.2.1,())
theorem k1j7:kyl.Ok Try.prog TB:=Con.ok_fn k41 bd117 fun x h=>k1gf (k1de (TField.mk x.1) x.2.1 x.2.2.1 h)
def k2c:Con TB.den:=Con.mk0 118 [.agg [.d (.int .u64)],.one (.d (.int .u64))] [] (.one (.one (.d (.int .u64)))) []
abbrev ktl:=HL TB.den (hsT k2c.ins (hsOs k2c.pre))
abbrev keo:=HL TB.den (hsV k2c.res (hsOs k2c.post))
noncomputable def k9u:Cx TB:=⟨inf,[],[],4,[]⟩
noncomputable def kfo:Code:=Try.f118.body.getD .skip
noncomputable def kj2:List ResultVar:=Try.f118.results.toList
noncomputable def kr3 (o:keo):An TB:= .no
def kg3 (x:ktl) (o:keo):Prop:=WPh TB k9u 14 0 kfo (kr3 o) (k2c.st TB x) (retTQ TB k9u k2c kj2 o)
theorem k15m (o:keo):OblH TB k9u 14 0 kfo (kr3 o) (retTQ TB k9u k2c kj2 o):=
 OblH.ofC (X:=True) (by kernel_rfl) trivial
theorem k15l {x:ktl} {o:keo} (h:kg3 x o):k2c.Snd Try.prog x o:=
 Con.soundH (c:=k2c) (C:=k9u) TBok ⟨inf_ok,all_nil,all_nil⟩ mix Try.func118 (show Try.f118.body=some kfo by kernel_rfl) (show Try.f118.ntmps=14 by kernel_rfl) (show Try.f118.results.toList=kj2 by kernel_rfl) rfl h (k15m o)
theorem k19c {p0:TField} {p1:Int} {r0:Int} (h:
((decide (p0.P≤p1)=true→
(p0.P≠0)∧Int.tmod p1 p0.P=r0)∧
(decide (p0.P≤p1)=false→
 p1=r0))):kg3 (p0.P,p1,()) (r0,()):=WPh.of_eq (by kernel_rfl) h
theorem bd118:Callable Try.prog 118:=⟨by rw[Try.func118];kernel_rfl,by rw[Try.func118];show some _≠some _;decide⟩
theorem k11h (p0:TField) (p1:Int) (h:0<p0.P∧0≤p1):kg3 (p0.P,p1,()) (((p1%p0.P):Int),()):=by
 refine k19c ⟨fun h1=>⟨by omega,tmod_nn _ _ h.2⟩,fun h1=> ?_⟩
 simp at h1
 rw[Int.emod_eq_of_lt (by omega) (by omega)]
noncomputable def k8t:Con TB.den:=k2c.fnR (fun x=>(fun(p0:TField) (p1:Int)=>0<p0.P∧0≤p1) (TField.mk x.1) x.2.1) fun x=>((fun(p0:TField) (p1:Int)=>((p1%p0.P):Int)) (TField.mk x.1) x.2.1,())
theorem kcu:k8t.Ok Try.prog TB:=Con.ok_fn k2c bd118 fun x h=>k15l (k11h (TField.mk x.1) x.2.1 h)
def k53:Con TB.den:=Con.mk0 110 [.agg [.d (.int .u64)],.one (.d (.int .u64)),.one (.d (.int .u64))] [] (.one (.one (.d (.int .u64)))) []
abbrev k170:=HL TB.den (hsT k53.ins (hsOs k53.pre))
abbrev knc:=HL TB.den (hsV k53.res (hsOs k53.post))
noncomputable def kfh:Cx TB:=⟨inf,[k6z,k8t,kyl],[],4,[]⟩
noncomputable def kmn:Code:=Try.f110.body.getD .skip
noncomputable def kql:List ResultVar:=Try.f110.results.toList
noncomputable def k14u (o:knc):An TB:= .no
def kmw (x:k170) (o:knc):Prop:=WPh TB kfh 18 0 kmn (k14u o) (k53.st TB x) (retTQ TB kfh k53 kql o)
theorem k1gz (o:knc):OblH TB kfh 18 0 kmn (k14u o) (retTQ TB kfh k53 kql o):=
 OblH.ofC (X:=True) (by kernel_rfl) trivial
theorem k1h1 {x:k170} {o:knc} (h:kmw x o):k53.Snd Try.prog x o:=
 Con.soundH (c:=k53) (C:=kfh) TBok ⟨inf_ok,(all_cons k9g (all_cons kcu (all_cons k1j7 all_nil))),all_nil⟩ mix Try.func110 (show Try.f110.body=some kmn by kernel_rfl) (show Try.f110.ntmps=18 by kernel_rfl) (show Try.f110.results.toList=kql by kernel_rfl) rfl h (k1gz o)
theorem k1l3 {p0:TField} {p1:Int} {p2:Int} {r0:Int} (h:
((p0.P=18446744069414584321)∧((!true)=true→
 0=r0)∧
((!true)=false→
(0<p0.P∧0≤p1)∧(0<p0.P∧0≤p2)∧(p0.P=18446744069414584321∧(0≤(p1%p0.P)∧(p1%p0.P)<18446744069414584321)∧(0≤(p2%p0.P)∧(p2%p0.P)<18446744069414584321))∧let r1:Int:=(((p1%p0.P)+(p2%p0.P))%18446744069414584321)
 r1=r0))):kmw (p0.P,p1,p2,()) (r0,()):=WPh.of_eq (by kernel_rfl) h
theorem bd110:Callable Try.prog 110:=⟨by rw[Try.func110];kernel_rfl,by rw[Try.func110];show some _≠some _;decide⟩
theorem k1dr (p0:TField) (p1:Int) (p2:Int) (h:p0.P=18446744069414584321∧U64 p1∧U64 p2):kmw (p0.P,p1,p2,()) ((((p1+p2)%18446744069414584321):Int),()):=by
 obtain⟨hP,h1,h2⟩:=h
 refine k1l3 ⟨hP,?_⟩
 simp only[hP]
 refine⟨fun h=>by simp at h,fun _=>⟨by omega,by omega,⟨by trivial,by omega,by omega⟩,?_⟩⟩
 omega
noncomputable def khy:Con TB.den:=k53.fnR (fun x=>(fun(p0:TField) (p1:Int) (p2:Int)=>p0.P=18446744069414584321∧U64 p1∧U64 p2) (TField.mk x.1) x.2.1 x.2.2.1) fun x=>((fun(p0:TField) (p1:Int) (p2:Int)=>(((p1+p2)%18446744069414584321):Int)) (TField.mk x.1) x.2.1 x.2.2.1,())
theorem ks5:khy.Ok Try.prog TB:=Con.ok_fn k53 bd110 fun x h=>k1h1 (k1dr (TField.mk x.1) x.2.1 x.2.2.1 h)
def k57:Con TB.den:=Con.mk0 119 [.agg [.d (.int .u64)],.one (.d (.int .u64)),.one (.d (.int .u64))] [] (.one (.one (.d (.int .u64)))) []
abbrev k16y:=HL TB.den (hsT k57.ins (hsOs k57.pre))
abbrev knt:=HL TB.den (hsV k57.res (hsOs k57.post))
noncomputable def kg2:Cx TB:=⟨inf,[kn7,kmj],[],4,[]⟩
noncomputable def kmq:Code:=Try.f119.body.getD .skip
noncomputable def kro:List ResultVar:=Try.f119.results.toList
noncomputable def k11o (o:knt):An TB:= .no
def kmc (x:k16y) (o:knt):Prop:=WPh TB kg2 26 0 kmq (k11o o) (k57.st TB x) (retTQ TB kg2 k57 kro o)
theorem k1gn (o:knt):OblH TB kg2 26 0 kmq (k11o o) (retTQ TB kg2 k57 kro o):=
 OblH.ofC (X:=True) (by kernel_rfl) trivial
theorem k1ie {x:k16y} {o:knt} (h:kmc x o):k57.Snd Try.prog x o:=
 Con.soundH (c:=k57) (C:=kg2) TBok ⟨inf_ok,(all_cons kz5 (all_cons k106 all_nil)),all_nil⟩ mix Try.func119 (show Try.f119.body=some kmq by kernel_rfl) (show Try.f119.ntmps=26 by kernel_rfl) (show Try.f119.results.toList=kro by kernel_rfl) rfl h (k1gn o)
theorem k1jj {p0:TField} {p1:Int} {p2:Int} {r0:Int} (h:
((U64 p1∧U64 p2)∧(U64 (p1*p2/18446744073709551616)∧U64 (p1*p2%18446744073709551616)∧U64 p0.P∧(p1*p2/18446744073709551616)<p0.P)∧let r1:Int:=(((p1*p2/18446744073709551616)*18446744073709551616+(p1*p2%18446744073709551616))/p0.P)
 let r2:Int:=(((p1*p2/18446744073709551616)*18446744073709551616+(p1*p2%18446744073709551616))%p0.P)
 r2=r0)):kmc (p0.P,p1,p2,()) (r0,()):=WPh.of_eq (by kernel_rfl) h
theorem bd119:Callable Try.prog 119:=⟨by rw[Try.func119];kernel_rfl,by rw[Try.func119];show some _≠some _;decide⟩
theorem k1du (p0:TField) (p1:Int) (p2:Int) (h:p0.P=18446744069414584321∧(0≤p1∧p1<18446744069414584321)∧(0≤p2∧p2<18446744069414584321)):kmc (p0.P,p1,p2,()) (((p1*p2%18446744069414584321):Int),()):=by
 obtain⟨hP,h1,h2⟩:=h
 have h3:0≤p1*p2:=Int.mul_nonneg h1.1 h2.1
 have h4:p1*p2≤18446744069414584320*18446744069414584320:=Int.mul_le_mul (by omega) (by omega) h2.1 (by omega)
 refine k1jj ⟨⟨by omega,by omega⟩,?_⟩
 simp only[hP]
 generalize p1*p2=m at *
 refine⟨⟨⟨by omega,by omega⟩,⟨by omega,by omega⟩,by omega,by omega⟩,?_⟩
 rw[show m/18446744073709551616*18446744073709551616+m%18446744073709551616=m by omega]
noncomputable def kos:Con TB.den:=k57.fnR (fun x=>(fun(p0:TField) (p1:Int) (p2:Int)=>p0.P=18446744069414584321∧(0≤p1∧p1<18446744069414584321)∧(0≤p2∧p2<18446744069414584321)) (TField.mk x.1) x.2.1 x.2.2.1) fun x=>((fun(p0:TField) (p1:Int) (p2:Int)=>((p1*p2%18446744069414584321):Int)) (TField.mk x.1) x.2.1 x.2.2.1,())
theorem k14e:kos.Ok Try.prog TB:=Con.ok_fn k57 bd119 fun x h=>k1ie (k1du (TField.mk x.1) x.2.1 x.2.2.1 h)
def k4x:Con TB.den:=Con.mk0 111 [.agg [.d (.int .u64)],.one (.d (.int .u64)),.one (.d (.int .u64))] [] (.one (.one (.d (.int .u64)))) []
abbrev k17b:=HL TB.den (hsT k4x.ins (hsOs k4x.pre))
abbrev knm:=HL TB.den (hsV k4x.res (hsOs k4x.post))
noncomputable def kfg:Cx TB:=⟨inf,[k6z,k8t,kos],[],4,[]⟩
noncomputable def kn8:Code:=Try.f111.body.getD .skip
noncomputable def krq:List ResultVar:=Try.f111.results.toList
noncomputable def k14h (o:knm):An TB:= .no
def kme (x:k17b) (o:knm):Prop:=WPh TB kfg 18 0 kn8 (k14h o) (k4x.st TB x) (retTQ TB kfg k4x krq o)
theorem k1g5 (o:knm):OblH TB kfg 18 0 kn8 (k14h o) (retTQ TB kfg k4x krq o):=
 OblH.ofC (X:=True) (by kernel_rfl) trivial
theorem k1hh {x:k17b} {o:knm} (h:kme x o):k4x.Snd Try.prog x o:=
 Con.soundH (c:=k4x) (C:=kfg) TBok ⟨inf_ok,(all_cons k9g (all_cons kcu (all_cons k14e all_nil))),all_nil⟩ mix Try.func111 (show Try.f111.body=some kn8 by kernel_rfl) (show Try.f111.ntmps=18 by kernel_rfl) (show Try.f111.results.toList=krq by kernel_rfl) rfl h (k1g5 o)
theorem k1jv {p0:TField} {p1:Int} {p2:Int} {r0:Int} (h:
((p0.P=18446744069414584321)∧((!true)=true→
 0=r0)∧
((!true)=false→
(0<p0.P∧0≤p1)∧(0<p0.P∧0≤p2)∧(p0.P=18446744069414584321∧(0≤(p1%p0.P)∧(p1%p0.P)<18446744069414584321)∧(0≤(p2%p0.P)∧(p2%p0.P)<18446744069414584321))∧let r1:Int:=((p1%p0.P)*(p2%p0.P)%18446744069414584321)
 r1=r0))):kme (p0.P,p1,p2,()) (r0,()):=WPh.of_eq (by kernel_rfl) h
theorem bd111:Callable Try.prog 111:=⟨by rw[Try.func111];kernel_rfl,by rw[Try.func111];show some _≠some _;decide⟩
theorem k1dz (p0:TField) (p1:Int) (p2:Int) (h:p0.P=18446744069414584321∧U64 p1∧U64 p2):kme (p0.P,p1,p2,()) (((p1*p2%18446744069414584321):Int),()):=by
 obtain⟨hP,h1,h2⟩:=h
 refine k1jv ⟨hP,?_⟩
 simp only[hP]
 refine⟨fun h=>by simp at h,fun _=>⟨by omega,by omega,⟨by trivial,by omega,by omega⟩,?_⟩⟩
 exact(Int.mul_emod _ _ _).symm
noncomputable def kym:Con TB.den:=k4x.fnR (fun x=>(fun(p0:TField) (p1:Int) (p2:Int)=>p0.P=18446744069414584321∧U64 p1∧U64 p2) (TField.mk x.1) x.2.1 x.2.2.1) fun x=>((fun(p0:TField) (p1:Int) (p2:Int)=>((p1*p2%18446744069414584321):Int)) (TField.mk x.1) x.2.1 x.2.2.1,())
theorem k1il:kym.Ok Try.prog TB:=Con.ok_fn k4x bd111 fun x h=>k1hh (k1dz (TField.mk x.1) x.2.1 x.2.2.1 h)
def k2g:Con TB.den:=Con.mk0 131 [.agg [.d (.int .u64)]] [] (.tup [.one (.d (.int .u64)),.one (.d (.int .i64)),.one (.d (.int .u64))]) []
abbrev kta:=HL TB.den (hsT k2g.ins (hsOs k2g.pre))
abbrev kej:=HL TB.den (hsV k2g.res (hsOs k2g.post))
noncomputable def k9t:Cx TB:=⟨inf,[],[],4,[]⟩
noncomputable def ker:Code:=Try.f131.body.getD .skip
noncomputable def kiq:List ResultVar:=Try.f131.results.toList
noncomputable def krn (o:kej):An TB:= .no
def kfn (x:kta) (o:kej):Prop:=WPh TB k9t 21 0 ker (krn o) (k2g.st TB x) (retTQ TB k9t k2g kiq o)
theorem k15g (o:kej):OblH TB k9t 21 0 ker (krn o) (retTQ TB k9t k2g kiq o):=
 OblH.ofC (X:=True) (by kernel_rfl) trivial
theorem k15v {x:kta} {o:kej} (h:kfn x o):k2g.Snd Try.prog x o:=
 Con.soundH (c:=k2g) (C:=k9t) TBok ⟨inf_ok,all_nil,all_nil⟩ mix Try.func131 (show Try.f131.body=some ker by kernel_rfl) (show Try.f131.ntmps=21 by kernel_rfl) (show Try.f131.results.toList=kiq by kernel_rfl) rfl h (k15g o)
theorem k17z {p0:TField} {r0:Int} {r1:Int} {r2:Int} (h:
(((p0.P==17)=true→
 3=r0∧4=r1∧3=r2)∧
((p0.P==17)=false→
((p0.P==97)=true→
 5=r0∧5=r1∧5=r2)∧
((p0.P==97)=false→
((p0.P==193)=true→
 5=r0∧6=r1∧5=r2)∧
((p0.P==193)=false→
((p0.P==257)=true→
 3=r0∧8=r1∧3=r2)∧
((p0.P==257)=false→
((p0.P==12289)=true→
 11=r0∧12=r1∧5=r2)∧
((p0.P==12289)=false→
((p0.P==65537)=true→
 3=r0∧16=r1∧3=r2)∧
((p0.P==65537)=false→
((p0.P==18446744069414584321)=true→
 7=r0∧32=r1∧7=r2)∧
((p0.P==18446744069414584321)=false→
 0=r0∧0=r1∧0=r2))))))))):kfn (p0.P,()) (r0,r1,r2,()):=WPh.of_eq (by kernel_rfl) h
theorem bd131:Callable Try.prog 131:=⟨by rw[Try.func131];kernel_rfl,by rw[Try.func131];show some _≠some _;decide⟩
theorem k14c (p0:TField) (h:p0.P=18446744069414584321):kfn (p0.P,()) ((7:Int),(32:Int),(7:Int),()):=by
 refine k17z ?_
 simp[h]
noncomputable def kpl:Con TB.den:=k2g.fnR (fun x=>(fun(p0:TField)=>p0.P=18446744069414584321) (TField.mk x.1)) fun x=>((fun(p0:TField)=>(7:Int)) (TField.mk x.1),(fun(p0:TField)=>(32:Int)) (TField.mk x.1),(fun(p0:TField)=>(7:Int)) (TField.mk x.1),())
theorem k17m:kpl.Ok Try.prog TB:=Con.ok_fn k2g bd131 fun x h=>k15v (k14c (TField.mk x.1) h)
def k1y:Con TB.den:=Con.mk0 120 [.agg [.d (.int .u64)]] [] (.one (.one (.d (.int .u64)))) []
abbrev kru:=HL TB.den (hsT k1y.ins (hsOs k1y.pre))
abbrev kd3:=HL TB.den (hsV k1y.res (hsOs k1y.post))
noncomputable def k8z:Cx TB:=⟨inf,[kpl],[],4,[]⟩
noncomputable def ke7:Code:=Try.f120.body.getD .skip
noncomputable def kh2:List ResultVar:=Try.f120.results.toList
noncomputable def kpv (o:kd3):An TB:= .no
def ke6 (x:kru) (o:kd3):Prop:=WPh TB k8z 13 0 ke7 (kpv o) (k1y.st TB x) (retTQ TB k8z k1y kh2 o)
theorem k14t (o:kd3):OblH TB k8z 13 0 ke7 (kpv o) (retTQ TB k8z k1y kh2 o):=
 OblH.ofC (X:=True) (by kernel_rfl) trivial
theorem k13g {x:kru} {o:kd3} (h:ke6 x o):k1y.Snd Try.prog x o:=
 Con.soundH (c:=k1y) (C:=k8z) TBok ⟨inf_ok,(all_cons k17m all_nil),all_nil⟩ mix Try.func120 (show Try.f120.body=some ke7 by kernel_rfl) (show Try.f120.ntmps=13 by kernel_rfl) (show Try.f120.results.toList=kh2 by kernel_rfl) rfl h (k14t o)
theorem k156 {p0:TField} {r0:Int} (h:
((p0.P=18446744069414584321)∧7=r0)):ke6 (p0.P,()) (r0,()):=WPh.of_eq (by kernel_rfl) h
theorem bd120:Callable Try.prog 120:=⟨by rw[Try.func120];kernel_rfl,by rw[Try.func120];show some _≠some _;decide⟩
theorem k10h (p0:TField) (h:p0.P=18446744069414584321):ke6 (p0.P,()) ((7:Int),()):=by
 exact k156 ⟨h,rfl⟩
noncomputable def kon:Con TB.den:=k1y.fnR (fun x=>(fun(p0:TField)=>p0.P=18446744069414584321) (TField.mk x.1)) fun x=>((fun(p0:TField)=>(7:Int)) (TField.mk x.1),())
theorem k15a:kon.Ok Try.prog TB:=Con.ok_fn k1y bd120 fun x h=>k13g (k10h (TField.mk x.1) h)
def k43:Con TB.den:=Con.mk0 132 [.agg [.d (.int .u64)],.one (.d (.int .u64)),.one (.d (.int .u64))] [] (.one (.one (.d (.int .u64)))) []
abbrev k177:=HL TB.den (hsT k43.ins (hsOs k43.pre))
abbrev k62:=HL TB.den (hsV k43.res (hsOs k43.post))
noncomputable def k6q:Cx TB:=⟨inf,[kos],[],4,[]⟩
noncomputable def k9i:Code:=Try.f132.body.getD .skip
noncomputable def kk1:List ResultVar:=Try.f132.results.toList
def k120 (o:k62):=qS TB k6q 26 0 (cB (cB (cB k9i))) .no (retTQ TB k6q k43 kk1 o)
def k3q:Tm:=⟨[0],[.cells [.d (.int .u64)]],[1,2,3,7],[.one (.d (.int .u64)),.one (.d (.int .u64)),.one (.ptr 0 0),.one (.d (.int .u64))],1⟩
def k1k9 (o:k62) (nx1:NX TB k3q):=blockT TB 1 (qM TB 0 k3q nx1 (blockT TB 0 (k120 o)))
def ki7:Tm:=⟨[0],[.cells [.d (.int .u64)]],[1,2,3,7],[.one (.d (.int .u64)),.one (.d (.int .u64)),.one (.ptr 0 0),.one (.d (.int .u64))],1⟩
def kzh (o:k62) (nx1:NX TB k3q) (i:HL TB.den ki7.hs):Prop:=ghs TB [] (ki7.fill TB i) fun s=>WP TB k6q 26 0 (cB (cA (cB (cA (cA (cA (cB (cB k9i)))))))) .no s (k1k9 o nx1)
structure kc1 (o:k62) (nx1:NX TB k3q) (i:HL TB.den ki7.hs):Prop where
 h:kzh o nx1 i
noncomputable def k11y (o:k62) (nx1:NX TB k3q):An TB:= .nd [] .no [] (.jn ki7 (kc1 o nx1) [] .no [] .no)
def kg4 (o:k62) (nx1:NX TB k3q) (i:HL TB.den k3q.hs):Prop:=WP TB k6q 26 0 (cA (cA (cA (cB (cB k9i))))) (k11y o nx1) (k3q.fill TB i) (qM TB 0 k3q nx1 (blockT TB 0 (k120 o)))
noncomputable def k1iv (o:k62):An TB:= .lp [] k3q (kg4 o) fun nx1=>(k11y o nx1)
noncomputable def k130 (o:k62):An TB:= .nd [] .no [] (.nd [] .no [] (.nd [] (k1iv o) [] .no))
def km5 (x:k177) (o:k62):Prop:=WPh TB k6q 26 0 k9i (k130 o) (k43.st TB x) (retTQ TB k6q k43 kk1 o)
theorem k1hq (o:k62):OblH TB k6q 26 0 k9i (k130 o) (retTQ TB k6q k43 kk1 o):=
 OblH.ofC (X:=((∀nx i,(kg4 o) nx i=(kg4 o) nx i)∧(∀nx1:NX TB k3q,((∀i,(kc1 o nx1) i=kzh o nx1 i)∧True))∧True)) (by kernel_rfl) ⟨fun _ _=>rfl,fun _=>⟨fun _=>propext ⟨fun h=>h.1,fun h=>⟨h⟩⟩,trivial⟩,trivial⟩
theorem k1ic {x:k177} {o:k62} (h:km5 x o):k43.Snd Try.prog x o:=
 Con.soundH (c:=k43) (C:=k6q) TBok ⟨inf_ok,(all_cons k14e all_nil),all_nil⟩ mix Try.func132 (show Try.f132.body=some k9i by kernel_rfl) (show Try.f132.ntmps=26 by kernel_rfl) (show Try.f132.results.toList=kk1 by kernel_rfl) rfl h (k1hq o)
theorem k1jz {p0:TField} {p1:Int} {p2:Int} {r0:Int} (h:
(Md.Loop (p1,p2,(1:Int),p0.P,()) (kg4 (r0,())))):km5 (p0.P,p1,p2,()) (r0,()):=WPh.of_eq (by kernel_rfl) h
theorem k1bk {r0:Int} {nx1:NX TB k3q} {s1:Int} {s2:Int} {s7:Int} {h0_0:Int} (h:
((decide (0<(ishr .u64 s2 1))=true→
((TField.mk h0_0).P=18446744069414584321∧(0≤s1∧s1<18446744069414584321)∧(0≤s1∧s1<18446744069414584321))∧nx1 (((s1*s1%18446744069414584321):Int),(ishr .u64 s2 1:Int),s7,h0_0,()))∧
(decide (0<(ishr .u64 s2 1))=false→
 nx1 (s1,(ishr .u64 s2 1:Int),s7,h0_0,())))):kc1 (r0,()) nx1 (s1,s2,s7,h0_0,()):=⟨mpr_of (by kernel_rfl) h⟩
def k11k (r0:Int) (nx1:NX TB k3q) (k1:Int→Int→Int→Prop) (h0_0:Int) (s1:Int) (s2:Int) (s7:Int):Prop:=
(decide (0<s2)=true→
(((iand .u64 s2 1)==1)=true→
((TField.mk h0_0).P=18446744069414584321∧(0≤s7∧s7<18446744069414584321)∧(0≤s1∧s1<18446744069414584321))∧kc1 (r0,()) nx1 (s1,s2,((s7*s1%18446744069414584321):Int),h0_0,()))∧
(((iand .u64 s2 1)==1)=false→
 kc1 (r0,()) nx1 (s1,s2,s7,h0_0,())))∧
(decide (0<s2)=false→
 s7=r0)
theorem k1h5 {r0:Int} {h0_0:Int} {s1:Int} {s2:Int} {s7:Int} (inv:Int→Int→Int→Prop) (μ:Int→Int→Int→Nat) (h0:inv s1 s2 s7) (hs:∀(s1:Int) (s2:Int) (s7:Int),inv s1 s2 s7→k11k r0 (fun s:Int×Int×Int×Int×Unit=>((s.2.2.2.1=h0_0)∧inv s.1 s.2.1 s.2.2.1)∧μ s.1 s.2.1 s.2.2.1<μ s1 s2 s7) (fun s1q s2q s7q=>inv s1q s2q s7q∧μ s1q s2q s7q<μ s1 s2 s7) h0_0 s1 s2 s7):Md.Loop (s1,s2,s7,h0_0,()) (kg4 (r0,())):=
 ⟨⟨fun s:Int×Int×Int×Int×Unit=>(s.2.2.2.1=h0_0)∧inv s.1 s.2.1 s.2.2.1,fun s:Int×Int×Int×Int×Unit=>μ s.1 s.2.1 s.2.2.1,⟨rfl,h0⟩,fun(s1p,s2p,s7p,h0_0p,()) ⟨eq0,hi⟩=>by
  have eq0:h0_0p=h0_0:=eq0;subst h0_0p;exact mpr_of (by kernel_rfl) ((congrArg (fun k=>k11k r0 (fun s:Int×Int×Int×Int×Unit=>((s.2.2.2.1=h0_0)∧inv s.1 s.2.1 s.2.2.1)∧μ s.1 s.2.1 s.2.2.1<μ s1p s2p s7p) k h0_0 s1p s2p s7p) (lpk3 (rfl:h0_0=h0_0) inv (fun s1q s2q s7q=>μ s1q s2q s7q<μ s1p s2p s7p))).mpr (hs s1p s2p s7p hi))⟩⟩
theorem bd132:Callable Try.prog 132:=⟨by rw[Try.func132];kernel_rfl,by rw[Try.func132];show some _≠some _;decide⟩
theorem k1cm (p0:TField) (p1:Int) (p2:Int) (h:p0.P=18446744069414584321∧(0≤p1∧p1<18446744069414584321)∧U64 p2):km5 (p0.P,p1,p2,()) (((pw p1 p2):Int),()):=by
 obtain⟨hP,h1,h2⟩:=h
 refine k1jz ?_
 rw[hP]
 refine k1h5 (fun a e r=>(0≤a∧a<18446744069414584321)∧U64 e∧(0≤r∧r<18446744069414584321)∧(r*a^e.toNat)%18446744069414584321=pw p1 p2) (fun a e r=>e.toNat) ⟨h1,h2,by omega,by rw[Int.one_mul];rfl⟩ ?_
 rintro a e r ⟨ha,he,hr,hv⟩
 have jj:∀nx r',(0≤r'∧r' <18446744069414584321)→0<e→(r' *(a*a)^(e/2).toNat)%18446744069414584321=pw p1 p2→(∀a',(0≤a'∧a' <18446744069414584321)→r' *a' ^(e/2).toNat%18446744069414584321=pw p1 p2→nx (a',(e/2:Int),r',(18446744069414584321:Int),()))→kc1 ((pw p1 p2:Int),()) nx (a,e,r',(18446744069414584321:Int),()):=by
  intro nx r' hr' he' hv' hn
  refine k1bk ?_
  rw[ishr1]
  refine⟨fun h=>⟨⟨rfl,ha,ha⟩,?_⟩,fun h=> ?_⟩
  ·refine hn _ ⟨Int.emod_nonneg _ (by omega),Int.emod_lt_of_pos _ (by omega)⟩ ?_
   rw[←hv',Int.mul_emod,Int.mul_emod r' ((a*a)^_),kxa]
  ·have h:¬0<e/2:=of_decide_eq_false h
   refine hn _ ha ?_
   rw[show(e/2).toNat=0 by omega]at hv' ⊢
   simpa using hv'
 refine⟨fun h=> ?_,fun h=> ?_⟩
 ·have h:=of_decide_eq_true h
  rw[k1qm e he]
  have nxt:∀a' r',(0≤a'∧a' <18446744069414584321)→(0≤r'∧r' <18446744069414584321)→r' *a' ^(e/2).toNat%18446744069414584321=pw p1 p2→((0≤a'∧a' <18446744069414584321)∧U64 (e/2)∧(0≤r'∧r' <18446744069414584321)∧r' *a' ^(e/2).toNat%18446744069414584321=pw p1 p2)∧(e/2).toNat<e.toNat:=fun a' r' h1 h2 h3=>⟨⟨h1,⟨by omega,by omega⟩,h2,h3⟩,by omega⟩
  have hpow:∀k:Nat,a^(2*k)=(a*a)^k:=fun k=>by rw[Int.pow_mul];congr 1;rw[Int.pow_succ,Int.pow_succ,Int.pow_zero,Int.one_mul]
  refine⟨fun h1=>⟨⟨rfl,hr,ha⟩,?_⟩,fun h1=> ?_⟩
  ·have h1:e%2=1:=by simpa using h1
   refine jj _ _ ⟨Int.emod_nonneg _ (by omega),Int.emod_lt_of_pos _ (by omega)⟩ h ?_ fun a' ha' hv' =>⟨⟨rfl,(nxt a' _ ha' ⟨Int.emod_nonneg _ (by omega),Int.emod_lt_of_pos _ (by omega)⟩ hv').1⟩,(nxt a' _ ha' ⟨Int.emod_nonneg _ (by omega),Int.emod_lt_of_pos _ (by omega)⟩ hv').2⟩
   rw[←hv,show e.toNat=2*(e/2).toNat+1 by omega,Int.pow_succ,hpow,Int.mul_emod,Int.emod_emod_of_dvd _ (Int.dvd_refl _),←Int.mul_emod]
   congr 1
   grind
  ·have h1:¬e%2=1:=by simpa using h1
   refine jj _ _ hr h ?_ fun a' ha' hv' =>⟨⟨rfl,(nxt a' _ ha' hr hv').1⟩,(nxt a' _ ha' hr hv').2⟩
   rw[←hv,←hpow,show e.toNat=2*(e/2).toNat by omega]
 ·have h:¬0<e:=of_decide_eq_false h
  rw[show e.toNat=0 by omega,Int.pow_zero,Int.mul_one,Int.emod_eq_of_lt hr.1 hr.2]at hv
  exact hv
noncomputable def kzk:Con TB.den:=k43.fnR (fun x=>(fun(p0:TField) (p1:Int) (p2:Int)=>p0.P=18446744069414584321∧(0≤p1∧p1<18446744069414584321)∧U64 p2) (TField.mk x.1) x.2.1 x.2.2.1) fun x=>((fun(p0:TField) (p1:Int) (p2:Int)=>((pw p1 p2):Int)) (TField.mk x.1) x.2.1 x.2.2.1,())
theorem k1jo:kzk.Ok Try.prog TB:=Con.ok_fn k43 bd132 fun x h=>k1ic (k1cm (TField.mk x.1) x.2.1 x.2.2.1 h)
def k59:Con TB.den:=Con.mk0 121 [.agg [.d (.int .u64)],.one (.d (.int .u64)),.one (.d (.int .u64))] [] (.one (.one (.d (.int .u64)))) []
abbrev k16m:=HL TB.den (hsT k59.ins (hsOs k59.pre))
abbrev knp:=HL TB.den (hsV k59.res (hsOs k59.post))
noncomputable def kff:Cx TB:=⟨inf,[k6z,k8t,kzk],[],4,[]⟩
noncomputable def kmu:Code:=Try.f121.body.getD .skip
noncomputable def krx:List ResultVar:=Try.f121.results.toList
noncomputable def k148 (o:knp):An TB:= .no
def kmz (x:k16m) (o:knp):Prop:=WPh TB kff 16 0 kmu (k148 o) (k59.st TB x) (retTQ TB kff k59 krx o)
theorem k1h3 (o:knp):OblH TB kff 16 0 kmu (k148 o) (retTQ TB kff k59 krx o):=
 OblH.ofC (X:=True) (by kernel_rfl) trivial
theorem k1gv {x:k16m} {o:knp} (h:kmz x o):k59.Snd Try.prog x o:=
 Con.soundH (c:=k59) (C:=kff) TBok ⟨inf_ok,(all_cons k9g (all_cons kcu (all_cons k1jo all_nil))),all_nil⟩ mix Try.func121 (show Try.f121.body=some kmu by kernel_rfl) (show Try.f121.ntmps=16 by kernel_rfl) (show Try.f121.results.toList=krx by kernel_rfl) rfl h (k1h3 o)
theorem k1ji {p0:TField} {p1:Int} {p2:Int} {r0:Int} (h:
((p0.P=18446744069414584321)∧((!true)=true→
 0=r0)∧
((!true)=false→
(0<p0.P∧0≤p1)∧(p0.P=18446744069414584321∧(0≤(p1%p0.P)∧(p1%p0.P)<18446744069414584321)∧U64 p2)∧(pw (p1%p0.P) p2)=r0))):kmz (p0.P,p1,p2,()) (r0,()):=WPh.of_eq (by kernel_rfl) h
theorem bd121:Callable Try.prog 121:=⟨by rw[Try.func121];kernel_rfl,by rw[Try.func121];show some _≠some _;decide⟩
theorem k1er (p0:TField) (p1:Int) (p2:Int) (h:p0.P=18446744069414584321∧U64 p1∧U64 p2):kmz (p0.P,p1,p2,()) (((pw (p1%18446744069414584321) p2):Int),()):=by
 obtain⟨hP,h1,h2⟩:=h
 refine k1ji ⟨hP,fun h=>by simp at h,fun _=>⟨by omega,?_⟩⟩
 simp only[hP]
 exact⟨⟨by trivial,by omega,h2⟩,trivial⟩
noncomputable def kz3:Con TB.den:=k59.fnR (fun x=>(fun(p0:TField) (p1:Int) (p2:Int)=>p0.P=18446744069414584321∧U64 p1∧U64 p2) (TField.mk x.1) x.2.1 x.2.2.1) fun x=>((fun(p0:TField) (p1:Int) (p2:Int)=>((pw (p1%18446744069414584321) p2):Int)) (TField.mk x.1) x.2.1 x.2.2.1,())
theorem k1l1:kz3.Ok Try.prog TB:=Con.ok_fn k59 bd121 fun x h=>k1gv (k1er (TField.mk x.1) x.2.1 x.2.2.1 h)
def k2u:Con TB.den:=Con.mk0 133 [.agg [.d (.int .u64)],.one (.d (.int .u64))] [] (.one (.one (.d (.int .u64)))) []
abbrev kwb:=HL TB.den (hsT k2u.ins (hsOs k2u.pre))
abbrev kgc:=HL TB.den (hsV k2u.res (hsOs k2u.post))
noncomputable def kaj:Cx TB:=⟨inf,[k6z,k8t],[],4,[]⟩
noncomputable def kgv:Code:=Try.f133.body.getD .skip
noncomputable def kjr:List ResultVar:=Try.f133.results.toList
noncomputable def ktp (o:kgc):An TB:= .no
def kgu (x:kwb) (o:kgc):Prop:=WPh TB kaj 11 0 kgv (ktp o) (k2u.st TB x) (retTQ TB kaj k2u kjr o)
theorem k18n (o:kgc):OblH TB kaj 11 0 kgv (ktp o) (retTQ TB kaj k2u kjr o):=
 OblH.ofC (X:=True) (by kernel_rfl) trivial
theorem k17v {x:kwb} {o:kgc} (h:kgu x o):k2u.Snd Try.prog x o:=
 Con.soundH (c:=k2u) (C:=kaj) TBok ⟨inf_ok,(all_cons k9g (all_cons kcu all_nil)),all_nil⟩ mix Try.func133 (show Try.f133.body=some kgv by kernel_rfl) (show Try.f133.ntmps=11 by kernel_rfl) (show Try.f133.results.toList=kjr by kernel_rfl) rfl h (k18n o)
theorem k1bb {p0:TField} {p1:Int} {r0:Int} (h:
((p0.P=18446744069414584321)∧((!true)=true→
 0=r0)∧
((!true)=false→
(0<p0.P∧0≤p1)∧(p1%p0.P)=r0))):kgu (p0.P,p1,()) (r0,()):=WPh.of_eq (by kernel_rfl) h
theorem bd133:Callable Try.prog 133:=⟨by rw[Try.func133];kernel_rfl,by rw[Try.func133];show some _≠some _;decide⟩
theorem k15x (p0:TField) (p1:Int) (h:p0.P=18446744069414584321∧U64 p1):kgu (p0.P,p1,()) (((p1%18446744069414584321):Int),()):=by
 obtain⟨hP,h1⟩:=h
 refine k1bb ⟨hP,fun h=>by simp at h,fun _=>⟨by omega,?_⟩⟩
 simp only[hP]
noncomputable def kr1:Con TB.den:=k2u.fnR (fun x=>(fun(p0:TField) (p1:Int)=>p0.P=18446744069414584321∧U64 p1) (TField.mk x.1) x.2.1) fun x=>((fun(p0:TField) (p1:Int)=>((p1%18446744069414584321):Int)) (TField.mk x.1) x.2.1,())
theorem k1a2:kr1.Ok Try.prog TB:=Con.ok_fn k2u bd133 fun x h=>k17v (k15x (TField.mk x.1) x.2.1 h)
def kl:Con TB.den:=Con.mk0 122 [.one (.d (.int .u64)),.one (.d (.int .i64)),.one (.d (.int .i64))] [] (.one (.one (.d (.int .u64)))) []
abbrev khl:=HL TB.den (hsT kl.ins (hsOs kl.pre))
abbrev k7j:=HL TB.den (hsV kl.res (hsOs kl.post))
noncomputable def k5l:Cx TB:=⟨inf,[kr1],[],4,[]⟩
noncomputable def k92:Code:=Try.f122.body.getD .skip
noncomputable def ka7:List ResultVar:=Try.f122.results.toList
noncomputable def kgr (o:k7j):An TB:= .no
def k98 (x:khl) (o:k7j):Prop:=WPh TB k5l 31 0 k92 (kgr o) (kl.st TB x) (retTQ TB k5l kl ka7 o)
theorem krr (o:k7j):OblH TB k5l 31 0 k92 (kgr o) (retTQ TB k5l kl ka7 o):=
 OblH.ofC (X:=True) (by kernel_rfl) trivial
theorem kqo {x:khl} {o:k7j} (h:k98 x o):kl.Snd Try.prog x o:=
 Con.soundH (c:=kl) (C:=k5l) TBok ⟨inf_ok,(all_cons k1a2 all_nil),all_nil⟩ mix Try.func122 (show Try.f122.body=some k92 by kernel_rfl) (show Try.f122.ntmps=31 by kernel_rfl) (show Try.f122.results.toList=ka7 by kernel_rfl) rfl h (krr o)
theorem kst {p0:Int} {p1:Int} {p2:Int} {r0:Int} (h:
((decide (p1<0)=true→
 0=r0)∧
(decide (p1<0)=false→
(decide (8≤p1)=true→
 0=r0)∧
(decide (8≤p1)=false→
(decide (p2<0)=true→
 0=r0)∧
(decide (p2<0)=false→
(decide (2<p2)=true→
 0=r0)∧
(decide (2<p2)=false→
 let v1:Int:=IntKind.i64.wrap ((IntKind.i64.wrap (3*p1))+p2)
 let v2:Int:=IntKind.u64.wrap (IntKind.i64.wrap (v1+1))
 let v3:Int:=IntKind.u64.wrap (v2*11400714819323198485)
((TField.mk p0).P=18446744069414584321∧U64 v3)∧(v3%18446744069414584321)=r0)))))):k98 (p0,p1,p2,()) (r0,()):=WPh.of_eq (by kernel_rfl) h
theorem bd122:Callable Try.prog 122:=⟨by rw[Try.func122];kernel_rfl,by rw[Try.func122];show some _≠some _;decide⟩
theorem kq6 (p0:Int) (p1:Int) (p2:Int) (h:p0=18446744069414584321∧(0≤p1∧p1<8)∧0≤p2∧p2<3):k98 (p0,p1,p2,()) (((rc p1 p2):Int),()):=by
 obtain⟨hP,h1,h2⟩:=h
 refine kst ⟨fun h=> ?_,fun _=>⟨fun h=> ?_,fun _=>⟨fun h=> ?_,fun _=>⟨fun h=> ?_,fun _=> ?_⟩⟩⟩⟩
 ·simp at h;omega
 ·simp at h;omega
 ·simp at h;omega
 ·simp at h;omega
 ·simp only[]
  rw[wi (3*p1) (by omega) (by omega),wi (3*p1+p2) (by omega) (by omega),wi (3*p1+p2+1) (by omega) (by omega),wu (3*p1+p2+1) (by omega) (by omega),u64w]
  exact⟨⟨hP,by omega,by omega⟩,rfl⟩
noncomputable def kfe:Con TB.den:=kl.fnR (fun x=>(fun(p0:Int) (p1:Int) (p2:Int)=>p0=18446744069414584321∧(0≤p1∧p1<8)∧0≤p2∧p2<3) x.1 x.2.1 x.2.2.1) fun x=>((fun(p0:Int) (p1:Int) (p2:Int)=>((rc p1 p2):Int)) x.1 x.2.1 x.2.2.1,())
theorem ksc:kfe.Ok Try.prog TB:=Con.ok_fn kl bd122 fun x h=>kqo (kq6 x.1 x.2.1 x.2.2.1 h)
def k1q:Con TB.den:=Con.mk0 123 [.one (.d (.int .u64)),.agg [.d (.int .u64),.d (.int .u64),.d (.int .u64)]] [] (.one (.agg [.d (.int .u64),.d (.int .u64),.d (.int .u64)])) []
abbrev kpo:=HL TB.den (hsT k1q.ins (hsOs k1q.pre))
abbrev kbf:=HL TB.den (hsV k1q.res (hsOs k1q.post))
noncomputable def k7s:Cx TB:=⟨inf,[khy],[],4,[]⟩
noncomputable def kcr:Code:=Try.f123.body.getD .skip
noncomputable def kf1:List ResultVar:=Try.f123.results.toList
noncomputable def ko7 (o:kbf):An TB:= .no
def kcx (x:kpo) (o:kbf):Prop:=WPh TB k7s 35 0 kcr (ko7 o) (k1q.st TB x) (retTQ TB k7s k1q kf1 o)
theorem k10c (o:kbf):OblH TB k7s 35 0 kcr (ko7 o) (retTQ TB k7s k1q kf1 o):=
 OblH.ofC (X:=True) (by kernel_rfl) trivial
theorem k10v {x:kpo} {o:kbf} (h:kcx x o):k1q.Snd Try.prog x o:=
 Con.soundH (c:=k1q) (C:=k7s) TBok ⟨inf_ok,(all_cons ks5 all_nil),all_nil⟩ mix Try.func123 (show Try.f123.body=some kcr by kernel_rfl) (show Try.f123.ntmps=35 by kernel_rfl) (show Try.f123.results.toList=kf1 by kernel_rfl) rfl h (k10c o)
theorem k12i {p0:Int} {p1:TA3} {r0:TA3} (h:
(((TField.mk p0).P=18446744069414584321∧U64 p1.a0∧U64 p1.a1)∧((TField.mk p0).P=18446744069414584321∧U64 ((p1.a0+p1.a1)%18446744069414584321)∧U64 p1.a2)∧let r1:Int:=((((p1.a0+p1.a1)%18446744069414584321)+p1.a2)%18446744069414584321)
((TField.mk p0).P=18446744069414584321∧U64 p1.a0∧U64 r1)∧((TField.mk p0).P=18446744069414584321∧U64 p1.a1∧U64 r1)∧((TField.mk p0).P=18446744069414584321∧U64 p1.a2∧U64 r1)∧((p1.a0+r1)%18446744069414584321)=r0.a0∧((p1.a1+r1)%18446744069414584321)=r0.a1∧((p1.a2+r1)%18446744069414584321)=r0.a2)):kcx (p0,p1.a0,p1.a1,p1.a2,()) (r0.a0,r0.a1,r0.a2,()):=WPh.of_eq (by kernel_rfl) h
theorem bd123:Callable Try.prog 123:=⟨by rw[Try.func123];kernel_rfl,by rw[Try.func123];show some _≠some _;decide⟩
theorem kxs (p0:Int) (p1:TA3) (h:p0=18446744069414584321∧S3 p1):kcx (p0,p1.a0,p1.a1,p1.a2,()) (((mixS p1).a0:Int),((mixS p1).a1:Int),((mixS p1).a2:Int),()):=by
 obtain⟨hP,h0,h1,h2⟩:=h
 refine k12i ?_
 simp only[hP]
 exact⟨⟨by trivial,h0,h1⟩,⟨by trivial,by omega,h2⟩,⟨by trivial,h0,by omega⟩,⟨by trivial,h1,by omega⟩,⟨by trivial,h2,by omega⟩,rfl,rfl,rfl⟩
noncomputable def kll:Con TB.den:=k1q.fnR (fun x=>(fun(p0:Int) (p1:TA3)=>p0=18446744069414584321∧S3 p1) x.1 (TA3.mk x.2.1 x.2.2.1 x.2.2.2.1)) fun x=>((fun(p0:Int) (p1:TA3)=>((mixS p1).a0:Int)) x.1 (TA3.mk x.2.1 x.2.2.1 x.2.2.2.1),(fun(p0:Int) (p1:TA3)=>((mixS p1).a1:Int)) x.1 (TA3.mk x.2.1 x.2.2.1 x.2.2.2.1),(fun(p0:Int) (p1:TA3)=>((mixS p1).a2:Int)) x.1 (TA3.mk x.2.1 x.2.2.1 x.2.2.2.1),())
theorem k135:kll.Ok Try.prog TB:=Con.ok_fn k1q bd123 fun x h=>k10v (kxs x.1 (TA3.mk x.2.1 x.2.2.1 x.2.2.2.1) h)
def ki:Con TB.den:=Con.mk0 112 [.one (.d (.int .u64)),.agg [.d (.int .u64),.d (.int .u64),.d (.int .u64)]] [] (.one (.agg [.d (.int .u64),.d (.int .u64),.d (.int .u64)])) []
abbrev kje:=HL TB.den (hsT ki.ins (hsOs ki.pre))
abbrev kc:=HL TB.den (hsV ki.res (hsOs ki.post))
noncomputable def kr:Cx TB:=⟨inf,[k6z,kon,kfe,khy,kz3,kll],[],4,[]⟩
noncomputable def k1r:Code:=Try.f112.body.getD .skip
noncomputable def k7k:List ResultVar:=Try.f112.results.toList
def kuq (o:kc):=qS TB kr 43 0 (cB (cB (cB (cB (cB k1r))))) .no (retTQ TB kr ki k7k o)
def ka:Tm:=⟨[0,1,2],[.cells [.d (.int .u64),.d (.int .u64),.d (.int .u64)],.cells [.d (.int .u64),.d (.int .u64),.d (.int .u64)],.cells [.d (.int .u64)]],[0,3,4,5,6,17],[.one (.d (.int .u64)),.one (.ptr 0 0),.one (.ptr 1 0),.one (.ptr 2 0),.one (.d (.int .u64)),.one (.d (.int .i64))],3⟩
def khi (o:kc) (nx2:NX TB ka):=qM TB 0 ka nx2 (blockT TB 0 (kuq o))
def ku4 (o:kc) (nx2:NX TB ka):=qS TB kr 43 0 (cB (cB (cB (cA (cA (cB (cA (cB (cB (cB (cB k1r))))))))))) .no (khi o nx2)
def kum (o:kc) (nx2:NX TB ka):=qS TB kr 43 0 (cB (cB (cA (cA (cB (cB (cA (cA (cB (cA (cB (cB (cB (cB k1r)))))))))))))) .no (blockT TB 1 (ku4 o nx2))
def k2z:Tm:=⟨[0,1,2],[.cells [.d (.int .u64),.d (.int .u64),.d (.int .u64)],.cells [.d (.int .u64),.d (.int .u64),.d (.int .u64)],.cells [.d (.int .u64)]],[0,3,4,5,6,7,17,20],[.one (.d (.int .u64)),.one (.ptr 0 0),.one (.ptr 1 0),.one (.ptr 2 0),.one (.d (.int .u64)),.one (.d (.int .i64)),.one (.d (.int .i64)),.one (.d (.int .i64))],3⟩
def ku6 (o:kc) (nx2:NX TB ka) (nx1:NX TB k2z):=qM TB 0 k2z nx1 (blockT TB 2 (kum o nx2))
def k61 (o:kc) (nx2:NX TB ka) (nx1:NX TB k2z) (i:HL TB.den k2z.hs):Prop:=WP TB kr 43 0 (cA (cA (cB (cA (cB (cA (cA (cB (cB (cA (cA (cB (cA (cB (cB (cB (cB k1r))))))))))))))))) .no (k2z.fill TB i) (ku6 o nx2 nx1)
noncomputable def kui (o:kc) (nx2:NX TB ka):An TB:= .lp [] k2z (k61 o nx2) fun nx1=> .no
noncomputable def kun (o:kc) (nx2:NX TB ka):An TB:= .nd [] .no [] (.nd [] (.nd [] .no [] (kui o nx2)) [] .no)
noncomputable def kgo (o:kc) (nx2:NX TB ka):An TB:= .nd [] .no [] (.nd [] .no [] (.nd [] (kun o nx2) [] .no))
def k68 (o:kc) (nx2:NX TB ka) (i:HL TB.den ka.hs):Prop:=WP TB kr 43 0 (cA (cA (cB (cA (cB (cB (cB (cB k1r)))))))) (kgo o nx2) (ka.fill TB i) (khi o nx2)
noncomputable def ksp (o:kc):An TB:= .lp [] ka (k68 o) fun nx2=>(kgo o nx2)
noncomputable def kso (o:kc):An TB:= .nd [] .no [] (.nd [] (.nd [] .no [] (ksp o)) [] .no)
noncomputable def khh (o:kc):An TB:= .nd [] .no [] (.nd [] .no [] (.nd [] .no [] (kso o)))
def k9l (x:kje) (o:kc):Prop:=WPh TB kr 43 0 k1r (khh o) (ki.st TB x) (retTQ TB kr ki k7k o)
theorem ksh (o:kc):OblH TB kr 43 0 k1r (khh o) (retTQ TB kr ki k7k o):=
 OblH.ofC (X:=((∀nx i,(k68 o) nx i=(k68 o) nx i)∧(∀nx2:NX TB ka,((∀nx i,(k61 o nx2) nx i=(k61 o nx2) nx i)∧(∀nx1:NX TB k2z,True)∧True))∧True)) (by kernel_rfl) ⟨fun _ _=>rfl,fun _=>⟨fun _ _=>rfl,fun _=>trivial,trivial⟩,trivial⟩
theorem ksl {x:kje} {o:kc} (h:k9l x o):ki.Snd Try.prog x o:=
 Con.soundH (c:=ki) (C:=kr) TBok ⟨inf_ok,(all_cons k9g (all_cons k15a (all_cons ksc (all_cons ks5 (all_cons k1l1 (all_cons k135 all_nil)))))),all_nil⟩ mix Try.func112 (show Try.f112.body=some k1r by kernel_rfl) (show Try.f112.ntmps=43 by kernel_rfl) (show Try.f112.results.toList=k7k by kernel_rfl) rfl h (ksh o)
theorem kue {p0:Int} {p1:TA3} {r0:TA3} (h:
(((TField.mk p0).P=18446744069414584321)∧((!true)=true→
 0=r0.a0∧0=r0.a1∧0=r0.a2)∧
((!true)=false→
((TField.mk p0).P=18446744069414584321)∧Md.Loop (p0,(7:Int),(0:Int),p1.a0,p1.a1,p1.a2,(0:Int),(0:Int),(0:Int),p0,()) (k68 (r0.a0,r0.a1,r0.a2,()))))):k9l (p0,p1.a0,p1.a1,p1.a2,()) (r0.a0,r0.a1,r0.a2,()):=WPh.of_eq (by kernel_rfl) h
def khr (r0:TA3) (nx2:NX TB ka) (k2:Int→Int→Int→Int→Prop) (s0:Int) (s6:Int) (h1_0:Int) (h1_1:Int) (h1_2:Int) (h2_0:Int) (s17:Int) (h0_0:Int) (h0_1:Int) (h0_2:Int):Prop:=
(decide (s17<8)=true→
 Md.Loop (s0,s6,s17,s17,(0:Int),h0_0,h0_1,h0_2,h1_0,h1_1,h1_2,h2_0,()) (k61 (r0.a0,r0.a1,r0.a2,()) nx2))∧
(decide (s17<8)=false→
 h0_0=r0.a0∧h0_1=r0.a1∧h0_2=r0.a2)
theorem ksb {r0:TA3} {s0:Int} {s6:Int} {h1_0:Int} {h1_1:Int} {h1_2:Int} {h2_0:Int} {s17:Int} {h0_0:Int} {h0_1:Int} {h0_2:Int} (inv:Int→Int→Int→Int→Prop) (μ:Int→Int→Int→Int→Nat) (h0:inv s17 h0_0 h0_1 h0_2) (hs:∀(s17:Int) (h0_0:Int) (h0_1:Int) (h0_2:Int),inv s17 h0_0 h0_1 h0_2→khr r0 (fun s:Int×Int×Int×Int×Int×Int×Int×Int×Int×Int×Unit=>((s.1=s0∧s.2.1=s6∧s.2.2.2.2.2.2.1=h1_0∧s.2.2.2.2.2.2.2.1=h1_1∧s.2.2.2.2.2.2.2.2.1=h1_2∧s.2.2.2.2.2.2.2.2.2.1=h2_0)∧inv s.2.2.1 s.2.2.2.1 s.2.2.2.2.1 s.2.2.2.2.2.1)∧μ s.2.2.1 s.2.2.2.1 s.2.2.2.2.1 s.2.2.2.2.2.1<μ s17 h0_0 h0_1 h0_2) (fun s17q h0_0q h0_1q h0_2q=>inv s17q h0_0q h0_1q h0_2q∧μ s17q h0_0q h0_1q h0_2q<μ s17 h0_0 h0_1 h0_2) s0 s6 h1_0 h1_1 h1_2 h2_0 s17 h0_0 h0_1 h0_2):Md.Loop (s0,s6,s17,h0_0,h0_1,h0_2,h1_0,h1_1,h1_2,h2_0,()) (k68 (r0.a0,r0.a1,r0.a2,())):=
 ⟨⟨fun s:Int×Int×Int×Int×Int×Int×Int×Int×Int×Int×Unit=>(s.1=s0∧s.2.1=s6∧s.2.2.2.2.2.2.1=h1_0∧s.2.2.2.2.2.2.2.1=h1_1∧s.2.2.2.2.2.2.2.2.1=h1_2∧s.2.2.2.2.2.2.2.2.2.1=h2_0)∧inv s.2.2.1 s.2.2.2.1 s.2.2.2.2.1 s.2.2.2.2.2.1,fun s:Int×Int×Int×Int×Int×Int×Int×Int×Int×Int×Unit=>μ s.2.2.1 s.2.2.2.1 s.2.2.2.2.1 s.2.2.2.2.2.1,⟨⟨rfl,rfl,rfl,rfl,rfl,rfl⟩,h0⟩,fun(s0p,s6p,s17p,h0_0p,h0_1p,h0_2p,h1_0p,h1_1p,h1_2p,h2_0p,()) ⟨⟨eq0,eq1,eq2,eq3,eq4,eq5⟩,hi⟩=>by
  have eq0:s0p=s0:=eq0;subst s0p;have eq1:s6p=s6:=eq1;subst s6p;have eq2:h1_0p=h1_0:=eq2;subst h1_0p;have eq3:h1_1p=h1_1:=eq3;subst h1_1p;have eq4:h1_2p=h1_2:=eq4;subst h1_2p;have eq5:h2_0p=h2_0:=eq5;subst h2_0p;exact mpr_of (by kernel_rfl) ((congrArg (fun k=>khr r0 (fun s:Int×Int×Int×Int×Int×Int×Int×Int×Int×Int×Unit=>((s.1=s0∧s.2.1=s6∧s.2.2.2.2.2.2.1=h1_0∧s.2.2.2.2.2.2.2.1=h1_1∧s.2.2.2.2.2.2.2.2.1=h1_2∧s.2.2.2.2.2.2.2.2.2.1=h2_0)∧inv s.2.2.1 s.2.2.2.1 s.2.2.2.2.1 s.2.2.2.2.2.1)∧μ s.2.2.1 s.2.2.2.1 s.2.2.2.2.1 s.2.2.2.2.2.1<μ s17p h0_0p h0_1p h0_2p) k s0 s6 h1_0 h1_1 h1_2 h2_0 s17p h0_0p h0_1p h0_2p) (lpk4 (⟨rfl,rfl,rfl,rfl,rfl,rfl⟩:s0=s0∧s6=s6∧h1_0=h1_0∧h1_1=h1_1∧h1_2=h1_2∧h2_0=h2_0) inv (fun s17q h0_0q h0_1q h0_2q=>μ s17q h0_0q h0_1q h0_2q<μ s17p h0_0p h0_1p h0_2p))).mpr (hs s17p h0_0p h0_1p h0_2p hi))⟩⟩
def khm (r0:TA3) (nx2:NX TB ka) (k1:Int→Int→Int→Int→Prop) (s0:Int) (s6:Int) (s7:Int) (s17:Int) (h1_0:Int) (h1_1:Int) (h1_2:Int) (h2_0:Int) (s20:Int) (h0_0:Int) (h0_1:Int) (h0_2:Int):Prop:=
(decide (s20<3)=true→
(0≤s20∧s20<(3:Int))∧(0≤s20∧s20<(3:Int))∧(s0=18446744069414584321∧(0≤s7∧s7<8)∧0≤s20∧s20<3)∧((TField.mk h2_0).P=18446744069414584321∧U64 (ix [h0_0,h0_1,h0_2] s20)∧U64 (rc s7 s20))∧let r1:Int:=(((ix [h0_0,h0_1,h0_2] s20)+(rc s7 s20))%18446744069414584321)
((TField.mk h2_0).P=18446744069414584321∧U64 r1∧U64 s6)∧(0≤s20∧s20<(3:Int))∧(0≤s20∧s20<(3:Int))∧k1 (IntKind.i64.wrap (s20+1):Int) ((bif decide (s20=(0:Int))then(pw (r1%18446744069414584321) s6)else h0_0):Int) ((bif decide (s20=(1:Int))then(pw (r1%18446744069414584321) s6)else h0_1):Int) ((bif decide (s20=(2:Int))then(pw (r1%18446744069414584321) s6)else h0_2):Int))∧
(decide (s20<3)=false→
(s0=18446744069414584321∧S3 (TA3.mk h0_0 h0_1 h0_2))∧nx2 (s0,s6,(IntKind.i64.wrap (s17+1):Int),((mixS (TA3.mk h0_0 h0_1 h0_2)).a0:Int),((mixS (TA3.mk h0_0 h0_1 h0_2)).a1:Int),((mixS (TA3.mk h0_0 h0_1 h0_2)).a2:Int),h1_0,h1_1,h1_2,h2_0,()))
theorem kse {r0:TA3} {nx2:NX TB ka} {s0:Int} {s6:Int} {s7:Int} {s17:Int} {h1_0:Int} {h1_1:Int} {h1_2:Int} {h2_0:Int} {s20:Int} {h0_0:Int} {h0_1:Int} {h0_2:Int} (inv:Int→Int→Int→Int→Prop) (μ:Int→Int→Int→Int→Nat) (h0:inv s20 h0_0 h0_1 h0_2) (hs:∀(s20:Int) (h0_0:Int) (h0_1:Int) (h0_2:Int),inv s20 h0_0 h0_1 h0_2→khm r0 nx2 (fun s20q h0_0q h0_1q h0_2q=>inv s20q h0_0q h0_1q h0_2q∧μ s20q h0_0q h0_1q h0_2q<μ s20 h0_0 h0_1 h0_2) s0 s6 s7 s17 h1_0 h1_1 h1_2 h2_0 s20 h0_0 h0_1 h0_2):Md.Loop (s0,s6,s7,s17,s20,h0_0,h0_1,h0_2,h1_0,h1_1,h1_2,h2_0,()) (k61 (r0.a0,r0.a1,r0.a2,()) nx2):=
 ⟨⟨fun s:Int×Int×Int×Int×Int×Int×Int×Int×Int×Int×Int×Int×Unit=>(s.1=s0∧s.2.1=s6∧s.2.2.1=s7∧s.2.2.2.1=s17∧s.2.2.2.2.2.2.2.2.1=h1_0∧s.2.2.2.2.2.2.2.2.2.1=h1_1∧s.2.2.2.2.2.2.2.2.2.2.1=h1_2∧s.2.2.2.2.2.2.2.2.2.2.2.1=h2_0)∧inv s.2.2.2.2.1 s.2.2.2.2.2.1 s.2.2.2.2.2.2.1 s.2.2.2.2.2.2.2.1,fun s:Int×Int×Int×Int×Int×Int×Int×Int×Int×Int×Int×Int×Unit=>μ s.2.2.2.2.1 s.2.2.2.2.2.1 s.2.2.2.2.2.2.1 s.2.2.2.2.2.2.2.1,⟨⟨rfl,rfl,rfl,rfl,rfl,rfl,rfl,rfl⟩,h0⟩,fun(s0p,s6p,s7p,s17p,s20p,h0_0p,h0_1p,h0_2p,h1_0p,h1_1p,h1_2p,h2_0p,()) ⟨⟨eq0,eq1,eq2,eq3,eq4,eq5,eq6,eq7⟩,hi⟩=>by
  have eq0:s0p=s0:=eq0;subst s0p;have eq1:s6p=s6:=eq1;subst s6p;have eq2:s7p=s7:=eq2;subst s7p;have eq3:s17p=s17:=eq3;subst s17p;have eq4:h1_0p=h1_0:=eq4;subst h1_0p;have eq5:h1_1p=h1_1:=eq5;subst h1_1p;have eq6:h1_2p=h1_2:=eq6;subst h1_2p;have eq7:h2_0p=h2_0:=eq7;subst h2_0p;exact mpr_of (by kernel_rfl) ((congrArg (fun k=>khm r0 nx2 k s0 s6 s7 s17 h1_0 h1_1 h1_2 h2_0 s20p h0_0p h0_1p h0_2p) (lpk4 (⟨rfl,rfl,rfl,rfl,rfl,rfl,rfl,rfl⟩:s0=s0∧s6=s6∧s7=s7∧s17=s17∧h1_0=h1_0∧h1_1=h1_1∧h1_2=h1_2∧h2_0=h2_0) inv (fun s20q h0_0q h0_1q h0_2q=>μ s20q h0_0q h0_1q h0_2q<μ s20p h0_0p h0_1p h0_2p))).mpr (hs s20p h0_0p h0_1p h0_2p hi))⟩⟩
theorem bd112:Callable Try.prog 112:=⟨by rw[Try.func112];kernel_rfl,by rw[Try.func112];show some _≠some _;decide⟩
theorem krf (p0:Int) (p1:TA3) (h:p0=18446744069414584321∧S3 p1):k9l (p0,p1.a0,p1.a1,p1.a2,()) (((permS p1).a0:Int),((permS p1).a1:Int),((permS p1).a2:Int),()):=by
 obtain⟨hP,hs⟩:=h
 subst hP
 refine kue ⟨rfl,fun h=>by simp at h,fun _=>⟨rfl,?_⟩⟩
 refine ksb (r0:=permS p1) (fun n a b c=>0≤n∧n≤8∧(⟨a,b,c⟩:TA3)=rnds n.toNat p1∧S3 ⟨a,b,c⟩) (fun n _ _ _=>(8-n).toNat) ⟨by omega,by omega,rfl,hs⟩ ?_
 rintro n a b c ⟨g0,g1,g2,g3⟩
 refine⟨fun h=> ?_,fun h=> ?_⟩
 ·have h:=of_decide_eq_true h
  refine kse (r0:=permS p1) (fun i x y z=>(i=0∧x=a∧y=b∧z=c)∨(i=1∧x=pw ((a+rc n 0)%18446744069414584321) 7∧y=b∧z=c)∨(i=2∧x=pw ((a+rc n 0)%18446744069414584321) 7∧y=pw ((b+rc n 1)%18446744069414584321) 7∧z=c)∨(i=3∧x=pw ((a+rc n 0)%18446744069414584321) 7∧y=pw ((b+rc n 1)%18446744069414584321) 7∧z=pw ((c+rc n 2)%18446744069414584321) 7)) (fun i _ _ _=>(3-i).toNat) (.inl ⟨rfl,rfl,rfl,rfl⟩) ?_
  intro i x y z hi
  have hrc:∀k,U64 (rc n k):=fun k=>by unfold rc;omega
  have hpw:∀k e,0≤pw k e∧pw k e<18446744069414584321:=fun k e=>⟨Int.emod_nonneg _ (by omega),Int.emod_lt_of_pos _ (by omega)⟩
  obtain⟨h3a,h3b,h3c⟩:=g3
  refine⟨fun hh=> ?_,fun hh=> ?_⟩
  ·have hh:=of_decide_eq_true hh
   rcases hi with⟨rfl,rfl,rfl,rfl⟩|⟨rfl,rfl,rfl,rfl⟩|⟨rfl,rfl,rfl,rfl⟩|⟨rfl,_⟩
   ·refine⟨by omega,by omega,⟨rfl,by omega,by omega⟩,⟨rfl,h3a,hrc _⟩,⟨rfl,?_,by omega⟩,by omega,by omega,.inr (.inl ⟨rfl,?_,rfl,rfl⟩),by decide⟩
    ·exact⟨Int.emod_nonneg _ (by omega),Int.lt_trans (Int.emod_lt_of_pos _ (by omega)) (by omega)⟩
    ·show pw ((x+rc n 0)%18446744069414584321%18446744069414584321) 7=_
     rw[Int.emod_emod_of_dvd _ (Int.dvd_refl _)]
   ·refine⟨by omega,by omega,⟨rfl,by omega,by omega⟩,⟨rfl,h3b,hrc _⟩,⟨rfl,?_,by omega⟩,by omega,by omega,.inr (.inr (.inl ⟨rfl,rfl,?_,rfl⟩)),by decide⟩
    ·exact⟨Int.emod_nonneg _ (by omega),Int.lt_trans (Int.emod_lt_of_pos _ (by omega)) (by omega)⟩
    ·show pw ((y+rc n 1)%18446744069414584321%18446744069414584321) 7=_
     rw[Int.emod_emod_of_dvd _ (Int.dvd_refl _)]
   ·refine⟨by omega,by omega,⟨rfl,by omega,by omega⟩,⟨rfl,h3c,hrc _⟩,⟨rfl,?_,by omega⟩,by omega,by omega,.inr (.inr (.inr ⟨rfl,rfl,rfl,?_⟩)),by decide⟩
    ·exact⟨Int.emod_nonneg _ (by omega),Int.lt_trans (Int.emod_lt_of_pos _ (by omega)) (by omega)⟩
    ·show pw ((z+rc n 2)%18446744069414584321%18446744069414584321) 7=_
     rw[Int.emod_emod_of_dvd _ (Int.dvd_refl _)]
   ·omega
  ·have hh:=of_decide_eq_false hh
   rcases hi with⟨rfl,_⟩|⟨rfl,_⟩|⟨rfl,_⟩|⟨rfl,rfl,rfl,rfl⟩
   ·omega
   ·omega
   ·omega
   ·have e:rnds (n+1).toNat p1=rnd ⟨a,b,c⟩ n:=by
     rw[show(n+1).toNat=n.toNat+1 by omega]
     show rnd (rnds n.toNat p1) (n.toNat:Int)=_
     rw[←g2,show(n.toNat:Int)=n by omega]
    have hS:S3 (rnds (n+1).toNat p1):=by
     rw[e]
     unfold rnd mixS S3
     dsimp only
     omega
    have hinc:IntKind.i64.wrap (n+1)=n+1:=wi _ (by omega) (by omega)
    rw[hinc]
    refine⟨⟨rfl,by unfold S3;have:=hpw ((a+rc n 0)%18446744069414584321) 7;have:=hpw ((b+rc n 1)%18446744069414584321) 7;have:=hpw ((c+rc n 2)%18446744069414584321) 7;dsimp only;omega⟩,⟨⟨rfl,rfl,rfl,rfl,rfl,rfl⟩,(?_:0≤n+1∧n+1≤8∧_∧_)⟩,(?_:(8-(n+1)).toNat<(8-n).toNat)⟩
    ·refine⟨by omega,by omega,e.symm,?_⟩
     rw[e]at hS
     exact hS
    ·omega
 ·have h:=of_decide_eq_false h
  rw[show n=8 by omega]at g2
  have g2:(⟨a,b,c⟩:TA3)=permS p1:=g2
  rw[←g2]
  exact⟨rfl,rfl,rfl⟩
noncomputable def kgp:Con TB.den:=ki.fnR (fun x=>(fun(p0:Int) (p1:TA3)=>p0=18446744069414584321∧S3 p1) x.1 (TA3.mk x.2.1 x.2.2.1 x.2.2.2.1)) fun x=>((fun(p0:Int) (p1:TA3)=>((permS p1).a0:Int)) x.1 (TA3.mk x.2.1 x.2.2.1 x.2.2.2.1),(fun(p0:Int) (p1:TA3)=>((permS p1).a1:Int)) x.1 (TA3.mk x.2.1 x.2.2.1 x.2.2.2.1),(fun(p0:Int) (p1:TA3)=>((permS p1).a2:Int)) x.1 (TA3.mk x.2.1 x.2.2.1 x.2.2.2.1),())
theorem kus:kgp.Ok Try.prog TB:=Con.ok_fn ki bd112 fun x h=>ksl (krf x.1 (TA3.mk x.2.1 x.2.2.1 x.2.2.2.1) h)
def k1x:Con TB.den:=Con.mk0 104 [.one (.d (.int .u64)),.one (.d (.int .u64)),.one (.d (.sl (.int .u64)))] [] (.one (.agg [.d (.int .u64),.d (.int .u64),.d (.int .u64)])) []
abbrev ksz:=HL TB.den (hsT k1x.ins (hsOs k1x.pre))
abbrev k1t:=HL TB.den (hsV k1x.res (hsOs k1x.post))
noncomputable def k2y:Cx TB:=⟨inf,[kym,khy,kgp],[],4,[]⟩
noncomputable def k58:Code:=Try.f104.body.getD .skip
noncomputable def kcw:List ResultVar:=Try.f104.results.toList
def k199 (o:k1t):=qS TB k2y 61 0 (cB (cB (cB (cB (cB k58))))) .no (retTQ TB k2y k1x kcw o)
def k1j:Tm:=⟨[0,1,38],[.cells [.d (.int .u64),.d (.int .u64),.d (.int .u64)],.cells [.d (.int .u64)],.cells [.d (.int .u64),.d (.int .u64),.d (.int .u64)]],[0,2,6,7,8,9],[.one (.d (.int .u64)),.one (.d (.sl (.int .u64))),.one (.ptr 0 0),.one (.ptr 1 0),.one (.ptr 2 0),.one (.d (.int .i64))],46⟩
def krv (o:k1t) (nx1:NX TB k1j):=qM TB 0 k1j nx1 (blockT TB 0 (k199 o))
def k18c (o:k1t) (nx1:NX TB k1j):=qS TB k2y 61 0 (cB (cB (cA (cA (cB (cA (cB (cB (cB (cB k58)))))))))) .no (krv o nx1)
def kbi:Tm:=⟨[0,1,38],[.cells [.d (.int .u64),.d (.int .u64),.d (.int .u64)],.cells [.d (.int .u64)],.cells [.d (.int .u64),.d (.int .u64),.d (.int .u64)]],[0,2,6,7,8,9],[.one (.d (.int .u64)),.one (.d (.sl (.int .u64))),.one (.ptr 0 0),.one (.ptr 1 0),.one (.ptr 2 0),.one (.d (.int .i64))],86⟩
def kpy (o:k1t) (nx1:NX TB k1j) (i:HL TB.den kbi.hs):Prop:=ghs TB [] (kbi.fill TB i) fun s=>WP TB k2y 61 0 (cB (cB (cA (cA (cB (cA (cA (cB (cA (cB (cB (cB (cB k58))))))))))))) .no s (blockT TB 1 (k18c o nx1))
structure k7e (o:k1t) (nx1:NX TB k1j) (i:HL TB.den kbi.hs):Prop where
 h:kpy o nx1 i
noncomputable def ks0 (o:k1t) (nx1:NX TB k1j):An TB:= .nd [] .no [] (.jn kbi (k7e o nx1) [] .no [] .no)
def k9x (o:k1t) (nx1:NX TB k1j) (i:HL TB.den k1j.hs):Prop:=WP TB k2y 61 0 (cA (cA (cB (cA (cB (cB (cB (cB k58)))))))) (.nd [] .no [] (.nd [] (ks0 o nx1) [] .no)) (k1j.fill TB i) (krv o nx1)
noncomputable def k19a (o:k1t):An TB:= .lp [] k1j (k9x o) fun nx1=>(.nd [] .no [] (.nd [] (ks0 o nx1) [] .no))
noncomputable def k188 (o:k1t):An TB:= .nd [] .no [] (.nd [] (.nd [] .no [] (k19a o)) [] .no)
noncomputable def ks6 (o:k1t):An TB:= .nd [] .no [] (.nd [] .no [] (.nd [] .no [] (k188 o)))
def kfm (x:ksz) (o:k1t):Prop:=WPh TB k2y 61 0 k58 (ks6 o) (k1x.st TB x) (retTQ TB k2y k1x kcw o)
theorem k159 (o:k1t):OblH TB k2y 61 0 k58 (ks6 o) (retTQ TB k2y k1x kcw o):=
 OblH.ofC (X:=((∀nx i,(k9x o) nx i=(k9x o) nx i)∧(∀nx1:NX TB k1j,((∀i,(k7e o nx1) i=kpy o nx1 i)∧True))∧True)) (by kernel_rfl) ⟨fun _ _=>rfl,fun _=>⟨fun _=>propext ⟨fun h=>h.1,fun h=>⟨h⟩⟩,trivial⟩,trivial⟩
theorem k162 {x:ksz} {o:k1t} (h:kfm x o):k1x.Snd Try.prog x o:=
 Con.soundH (c:=k1x) (C:=k2y) TBok ⟨inf_ok,(all_cons k1il (all_cons ks5 (all_cons kus all_nil))),all_nil⟩ mix Try.func104 (show Try.f104.body=some k58 by kernel_rfl) (show Try.f104.ntmps=61 by kernel_rfl) (show Try.f104.results.toList=kcw by kernel_rfl) rfl h (k159 o)
theorem k17n {p0:Int} {p1:Int} {p2:List Int} {r0:TA3} (h:
(((TField.mk p0).P=18446744069414584321∧U64 p1∧U64 (65536:Int))∧let r1:Int:=(p1*(65536:Int)%18446744069414584321)
((TField.mk p0).P=18446744069414584321∧U64 r1∧U64 (IntKind.u64.wrap (p2.length:Int)))∧let r2:Int:=((r1+(IntKind.u64.wrap (p2.length:Int)))%18446744069414584321)
(((p2.length:Int)==0)=true→
(p0=18446744069414584321∧S3 (TA3.mk 0 0 r2))∧(permS (TA3.mk 0 0 r2)).a0=r0.a0∧(permS (TA3.mk 0 0 r2)).a1=r0.a1∧(permS (TA3.mk 0 0 r2)).a2=r0.a2)∧
(((p2.length:Int)==0)=false→
 Md.Loop (p0,p2,(0:Int),(0:Int),(0:Int),(0:Int),p0,(0:Int),(0:Int),r2,()) (k9x (r0.a0,r0.a1,r0.a2,()))))):kfm (p0,p1,p2,()) (r0.a0,r0.a1,r0.a2,()):=WPh.of_eq (by kernel_rfl) h
theorem k11d {r0:TA3} {nx1:NX TB k1j} {s0:Int} {s2:List Int} {s9:Int} {h0_0:Int} {h0_1:Int} {h0_2:Int} {h1_0:Int} {h38_0:Int} {h38_1:Int} {h38_2:Int} (h:
((s0=18446744069414584321∧S3 (TA3.mk h38_0 h38_1 h38_2))∧nx1 (s0,s2,(IntKind.i64.wrap (s9+2):Int),h0_0,h0_1,h0_2,h1_0,((permS (TA3.mk h38_0 h38_1 h38_2)).a0:Int),((permS (TA3.mk h38_0 h38_1 h38_2)).a1:Int),((permS (TA3.mk h38_0 h38_1 h38_2)).a2:Int),()))):k7e (r0.a0,r0.a1,r0.a2,()) nx1 (s0,s2,s9,h0_0,h0_1,h0_2,h1_0,h38_0,h38_1,h38_2,()):=⟨mpr_of (by kernel_rfl) h⟩
def kqj (r0:TA3) (nx1:NX TB k1j) (k1:Int→Int→Int→Int→Prop) (s0:Int) (s2:List Int) (h0_0:Int) (h0_1:Int) (h0_2:Int) (h1_0:Int) (s9:Int) (h38_0:Int) (h38_1:Int) (h38_2:Int):Prop:=
(decide (s9<(s2.length:Int))=true→
(0≤s9)∧s9<(s2.length:Int)∧((TField.mk h1_0).P=18446744069414584321∧U64 h38_0∧U64 (ix s2 s9))∧let r3:Int:=((h38_0+(ix s2 s9))%18446744069414584321)
 let v4:Bool:=decide ((IntKind.i64.wrap (s9+1))<(s2.length:Int))
(v4=true→
(0≤IntKind.i64.wrap (s9+1))∧IntKind.i64.wrap (s9+1)<(s2.length:Int)∧((TField.mk h1_0).P=18446744069414584321∧U64 h38_1∧U64 (ix s2 (IntKind.i64.wrap (s9+1))))∧let r5:Int:=((h38_1+(ix s2 (IntKind.i64.wrap (s9+1))))%18446744069414584321)
 k7e (r0.a0,r0.a1,r0.a2,()) nx1 (s0,s2,s9,h0_0,h0_1,h0_2,h1_0,r3,r5,h38_2,()))∧
(v4=false→
 k7e (r0.a0,r0.a1,r0.a2,()) nx1 (s0,s2,s9,h0_0,h0_1,h0_2,h1_0,r3,h38_1,h38_2,())))∧
(decide (s9<(s2.length:Int))=false→
 h38_0=r0.a0∧h38_1=r0.a1∧h38_2=r0.a2)
theorem k158 {r0:TA3} {s0:Int} {s2:List Int} {h0_0:Int} {h0_1:Int} {h0_2:Int} {h1_0:Int} {s9:Int} {h38_0:Int} {h38_1:Int} {h38_2:Int} (inv:Int→Int→Int→Int→Prop) (μ:Int→Int→Int→Int→Nat) (h0:inv s9 h38_0 h38_1 h38_2) (hs:∀(s9:Int) (h38_0:Int) (h38_1:Int) (h38_2:Int),inv s9 h38_0 h38_1 h38_2→kqj r0 (fun s:Int×(List Int)×Int×Int×Int×Int×Int×Int×Int×Int×Unit=>((s.1=s0∧s.2.1=s2∧s.2.2.2.1=h0_0∧s.2.2.2.2.1=h0_1∧s.2.2.2.2.2.1=h0_2∧s.2.2.2.2.2.2.1=h1_0)∧inv s.2.2.1 s.2.2.2.2.2.2.2.1 s.2.2.2.2.2.2.2.2.1 s.2.2.2.2.2.2.2.2.2.1)∧μ s.2.2.1 s.2.2.2.2.2.2.2.1 s.2.2.2.2.2.2.2.2.1 s.2.2.2.2.2.2.2.2.2.1<μ s9 h38_0 h38_1 h38_2) (fun s9q h38_0q h38_1q h38_2q=>inv s9q h38_0q h38_1q h38_2q∧μ s9q h38_0q h38_1q h38_2q<μ s9 h38_0 h38_1 h38_2) s0 s2 h0_0 h0_1 h0_2 h1_0 s9 h38_0 h38_1 h38_2):Md.Loop (s0,s2,s9,h0_0,h0_1,h0_2,h1_0,h38_0,h38_1,h38_2,()) (k9x (r0.a0,r0.a1,r0.a2,())):=
 ⟨⟨fun s:Int×(List Int)×Int×Int×Int×Int×Int×Int×Int×Int×Unit=>(s.1=s0∧s.2.1=s2∧s.2.2.2.1=h0_0∧s.2.2.2.2.1=h0_1∧s.2.2.2.2.2.1=h0_2∧s.2.2.2.2.2.2.1=h1_0)∧inv s.2.2.1 s.2.2.2.2.2.2.2.1 s.2.2.2.2.2.2.2.2.1 s.2.2.2.2.2.2.2.2.2.1,fun s:Int×(List Int)×Int×Int×Int×Int×Int×Int×Int×Int×Unit=>μ s.2.2.1 s.2.2.2.2.2.2.2.1 s.2.2.2.2.2.2.2.2.1 s.2.2.2.2.2.2.2.2.2.1,⟨⟨rfl,rfl,rfl,rfl,rfl,rfl⟩,h0⟩,fun(s0p,s2p,s9p,h0_0p,h0_1p,h0_2p,h1_0p,h38_0p,h38_1p,h38_2p,()) ⟨⟨eq0,eq1,eq2,eq3,eq4,eq5⟩,hi⟩=>by
  have eq0:s0p=s0:=eq0;subst s0p;have eq1:s2p=s2:=eq1;subst s2p;have eq2:h0_0p=h0_0:=eq2;subst h0_0p;have eq3:h0_1p=h0_1:=eq3;subst h0_1p;have eq4:h0_2p=h0_2:=eq4;subst h0_2p;have eq5:h1_0p=h1_0:=eq5;subst h1_0p;exact mpr_of (by kernel_rfl) ((congrArg (fun k=>kqj r0 (fun s:Int×(List Int)×Int×Int×Int×Int×Int×Int×Int×Int×Unit=>((s.1=s0∧s.2.1=s2∧s.2.2.2.1=h0_0∧s.2.2.2.2.1=h0_1∧s.2.2.2.2.2.1=h0_2∧s.2.2.2.2.2.2.1=h1_0)∧inv s.2.2.1 s.2.2.2.2.2.2.2.1 s.2.2.2.2.2.2.2.2.1 s.2.2.2.2.2.2.2.2.2.1)∧μ s.2.2.1 s.2.2.2.2.2.2.2.1 s.2.2.2.2.2.2.2.2.1 s.2.2.2.2.2.2.2.2.2.1<μ s9p h38_0p h38_1p h38_2p) k s0 s2 h0_0 h0_1 h0_2 h1_0 s9p h38_0p h38_1p h38_2p) (lpk4 (⟨rfl,rfl,rfl,rfl,rfl,rfl⟩:s0=s0∧s2=s2∧h0_0=h0_0∧h0_1=h0_1∧h0_2=h0_2∧h1_0=h1_0) inv (fun s9q h38_0q h38_1q h38_2q=>μ s9q h38_0q h38_1q h38_2q<μ s9p h38_0p h38_1p h38_2p))).mpr (hs s9p h38_0p h38_1p h38_2p hi))⟩⟩
theorem bd104:Callable Try.prog 104:=⟨by rw[Try.func104];kernel_rfl,by rw[Try.func104];show some _≠some _;decide⟩
theorem k13z (p0:Int) (p1:Int) (p2:List Int) (h:p0=18446744069414584321∧U64 p1∧Us p2∧p2.length≤1099511627776):kfm (p0,p1,p2,()) (((absS p1 p2).a0:Int),((absS p1 p2).a1:Int),((absS p1 p2).a2:Int),()):=by
 obtain⟨hP,h1,h2,h3⟩:=h
 subst hP
 have hp:∀s:TA3,S3 (permS s):=fun s=>by
  show S3 (rnd _ _)
  unfold rnd mixS S3
  dsimp only
  omega
 have hi:S3 (absI p1 p2):=by unfold absI S3;dsimp only;omega
 have e:IntKind.u64.wrap (p2.length:Int)=p2.length:=wu _ (by omega) (by omega)
 have em:(p1*65536%18446744069414584321+(p2.length:Int))%18446744069414584321=(absI p1 p2).a2:=rfl
 refine k17n ?_
 rw[e]
 refine⟨⟨rfl,h1,by omega⟩,⟨rfl,by omega,by omega⟩,fun h=> ?_,fun h=> ?_⟩
 ·have h:p2=[]:=by simpa using h
  refine⟨⟨rfl,?_⟩,?_⟩
  ·exact hi
  ·have:permS ⟨0,0,(p1*65536%18446744069414584321+(p2.length:Int))%18446744069414584321⟩=absS p1 p2:=by unfold absS;rw[if_pos h];rfl
   rw[this]
   exact⟨rfl,rfl,rfl⟩
 ·have h:p2≠[]:=by simpa using h
  have hv:absL p2 (absI p1 p2)=absS p1 p2:=by unfold absS;rw[if_neg h]
  rw[em]
  refine k158 (r0:=absS p1 p2) (fun i a b c=>0≤i∧i≤p2.length+1∧absL (p2.drop i.toNat) ⟨a,b,c⟩=absS p1 p2∧S3 ⟨a,b,c⟩) (fun i _ _ _=>(p2.length+2-i).toNat) ⟨by omega,by omega,hv,hi⟩ ?_
  rintro i a b c ⟨g0,g1,g2,g3⟩
  obtain⟨h3a,h3b,h3c⟩:=g3
  refine⟨fun hh=> ?_,fun hh=> ?_⟩
  ·have hh:=of_decide_eq_true hh
   have hx:=h2 _ (ix_mem p2 i g0 hh)
   rw[wi (i+1) (by omega) (by omega)]
   have fin:∀nx x y z,S3 ⟨x,y,z⟩→absL (p2.drop (i+2).toNat) (permS ⟨x,y,z⟩)=absS p1 p2→(0≤i+2∧i+2≤p2.length+1∧absL (p2.drop (i+2).toNat) (permS ⟨x,y,z⟩)=absS p1 p2∧S3 (permS ⟨x,y,z⟩)→(p2.length+2-(i+2)).toNat<(p2.length+2-i).toNat→nx ((18446744069414584321:Int),p2,(i+2:Int),(0:Int),(0:Int),(0:Int),(18446744069414584321:Int),(permS ⟨x,y,z⟩).a0,(permS ⟨x,y,z⟩).a1,(permS ⟨x,y,z⟩).a2,()))→k7e ((absS p1 p2).a0,(absS p1 p2).a1,(absS p1 p2).a2,()) nx ((18446744069414584321:Int),p2,i,(0:Int),(0:Int),(0:Int),(18446744069414584321:Int),x,y,z,()):=by
    intro nx x y z hS hv' hn
    refine k11d (r0:=absS p1 p2) ?_
    rw[wi (i+2) (by omega) (by omega)]
    exact⟨⟨rfl,hS⟩,hn ⟨by omega,by omega,hv',hp _⟩ (by omega)⟩
   have hdrop:=drop_ix p2 i g0 hh
   rw[hdrop]at g2
   refine⟨g0,hh,⟨rfl,h3a,hx⟩,fun h5=> ?_,fun h5=> ?_⟩
   ·have h5:=of_decide_eq_true h5
    have hy:=h2 _ (ix_mem p2 (i+1) (by omega) h5)
    rw[drop_ix p2 (i+1) (by omega) h5,show i+1+1=i+2 by omega]at g2
    refine⟨by omega,h5,⟨rfl,h3b,hy⟩,fin _ _ _ _ (S3m (by omega) (by omega) h3c) g2 fun k1 k2=>⟨⟨⟨rfl,rfl,rfl,rfl,rfl,rfl⟩,k1⟩,k2⟩⟩
   ·have h5:=of_decide_eq_false h5
    have ed:p2.drop (i+1).toNat=[]:=List.drop_eq_nil_of_le (by omega)
    have ed2:p2.drop (i+2).toNat=[]:=List.drop_eq_nil_of_le (by omega)
    rw[ed]at g2
    exact fin _ _ _ _ (S3m (by omega) h3b h3c) (by rw[ed2];exact g2) fun k1 k2=>⟨⟨⟨rfl,rfl,rfl,rfl,rfl,rfl⟩,k1⟩,k2⟩
  ·have hh:=of_decide_eq_false hh
   rw[List.drop_eq_nil_of_le (by omega)]at g2
   have g2:(⟨a,b,c⟩:TA3)=absS p1 p2:=g2
   rw[←g2]
   exact⟨rfl,rfl,rfl⟩
noncomputable def kpm:Con TB.den:=k1x.fnR (fun x=>(fun(p0:Int) (p1:Int) (p2:List Int)=>p0=18446744069414584321∧U64 p1∧Us p2∧p2.length≤1099511627776) x.1 x.2.1 x.2.2.1) fun x=>((fun(p0:Int) (p1:Int) (p2:List Int)=>((absS p1 p2).a0:Int)) x.1 x.2.1 x.2.2.1,(fun(p0:Int) (p1:Int) (p2:List Int)=>((absS p1 p2).a1:Int)) x.1 x.2.1 x.2.2.1,(fun(p0:Int) (p1:Int) (p2:List Int)=>((absS p1 p2).a2:Int)) x.1 x.2.1 x.2.2.1,())
theorem k17u:kpm.Ok Try.prog TB:=Con.ok_fn k1x bd104 fun x h=>k162 (k13z x.1 x.2.1 x.2.2.1 h)
def k3f:Con TB.den:=Con.mk0 82 [.one (.d (.int .u64)),.one (.d (.int .u64)),.one (.d (.sl (.int .u64)))] [] (.one (.one (.d (.int .u64)))) []
abbrev kzi:=HL TB.den (hsT k3f.ins (hsOs k3f.pre))
abbrev ki9:=HL TB.den (hsV k3f.res (hsOs k3f.post))
noncomputable def kc5:Cx TB:=⟨inf,[k6z,kpm],[],4,[]⟩
noncomputable def kj9:Code:=Try.f82.body.getD .skip
noncomputable def kn4:List ResultVar:=Try.f82.results.toList
noncomputable def kwq (o:ki9):An TB:= .no
def kj4 (x:kzi) (o:ki9):Prop:=WPh TB kc5 16 0 kj9 (kwq o) (k3f.st TB x) (retTQ TB kc5 k3f kn4 o)
theorem k1c6 (o:ki9):OblH TB kc5 16 0 kj9 (kwq o) (retTQ TB kc5 k3f kn4 o):=
 OblH.ofC (X:=True) (by kernel_rfl) trivial
theorem k1al {x:kzi} {o:ki9} (h:kj4 x o):k3f.Snd Try.prog x o:=
 Con.soundH (c:=k3f) (C:=kc5) TBok ⟨inf_ok,(all_cons k9g (all_cons k17u all_nil)),all_nil⟩ mix Try.func82 (show Try.f82.body=some kj9 by kernel_rfl) (show Try.f82.ntmps=16 by kernel_rfl) (show Try.f82.results.toList=kn4 by kernel_rfl) rfl h (k1c6 o)
theorem k1ch {p0:Int} {p1:Int} {p2:List Int} {r0:Int} (h:
(((TField.mk p0).P=18446744069414584321)∧((!true)=true→
 0=r0)∧
((!true)=false→
(p0=18446744069414584321∧U64 p1∧Us p2∧p2.length≤1099511627776)∧(absS p1 p2).a0=r0))):kj4 (p0,p1,p2,()) (r0,()):=WPh.of_eq (by kernel_rfl) h
theorem bd82:Callable Try.prog 82:=⟨by rw[Try.func82];kernel_rfl,by rw[Try.func82];show some _≠some _;decide⟩
theorem k18b (p0:Int) (p1:Int) (p2:List Int) (h:p0=18446744069414584321∧U64 p1∧Us p2∧p2.length≤1099511627776):kj4 (p0,p1,p2,()) (((hashS p1 p2):Int),()):=by
 obtain⟨hP,h1,h2,h3⟩:=h
 subst hP
 exact k1ch ⟨rfl,fun h=>by simp at h,fun _=>⟨⟨rfl,h1,h2,h3⟩,rfl⟩⟩
noncomputable def ked:Con TB.den:=k3f.fnR (fun x=>(fun(p0:Int) (p1:Int) (p2:List Int)=>p0=18446744069414584321∧U64 p1∧Us p2∧p2.length≤1099511627776) x.1 x.2.1 x.2.2.1) fun x=>((fun(p0:Int) (p1:Int) (p2:List Int)=>((hashS p1 p2):Int)) x.1 x.2.1 x.2.2.1,())
theorem kly:ked.Ok Try.prog TB:=Con.ok_fn k3f bd82 fun x h=>k1al (k18b x.1 x.2.1 x.2.2.1 h)
def k52:Con TB.den:=Con.mk0 77 [.one (.d (.int .u64)),.one (.d (.sl (.int .u64)))] [] (.one (.one (.d (.int .u64)))) []
abbrev k174:=HL TB.den (hsT k52.ins (hsOs k52.pre))
abbrev knn:=HL TB.den (hsV k52.res (hsOs k52.post))
noncomputable def kf2:Cx TB:=⟨inf,[ked],[],4,[]⟩
noncomputable def klz:Code:=Try.f77.body.getD .skip
noncomputable def krg:List ResultVar:=Try.f77.results.toList
noncomputable def k14p (o:knn):An TB:= .no
def km2 (x:k174) (o:knn):Prop:=WPh TB kf2 8 0 klz (k14p o) (k52.st TB x) (retTQ TB kf2 k52 krg o)
theorem k1i3 (o:knn):OblH TB kf2 8 0 klz (k14p o) (retTQ TB kf2 k52 krg o):=
 OblH.ofC (X:=True) (by kernel_rfl) trivial
theorem k1i4 {x:k174} {o:knn} (h:km2 x o):k52.Snd Try.prog x o:=
 Con.soundH (c:=k52) (C:=kf2) TBok ⟨inf_ok,(all_cons kly all_nil),all_nil⟩ mix Try.func77 (show Try.f77.body=some klz by kernel_rfl) (show Try.f77.ntmps=8 by kernel_rfl) (show Try.f77.results.toList=krg by kernel_rfl) rfl h (k1i3 o)
theorem k1lj {p0:Int} {p1:List Int} {r0:Int} (h:
(((18446744069414584321:Int)=18446744069414584321∧U64 p0∧Us p1∧p1.length≤1099511627776)∧(hashS p0 p1)=r0)):km2 (p0,p1,()) (r0,()):=WPh.of_eq (by kernel_rfl) h
theorem bd77:Callable Try.prog 77:=⟨by rw[Try.func77];kernel_rfl,by rw[Try.func77];show some _≠some _;decide⟩
theorem k1da (p0:Int) (p1:List Int) (h:U64 p0∧Us p1∧p1.length≤1099511627776):km2 (p0,p1,()) (((hashS p0 p1):Int),()):=by
 exact k1lj ⟨⟨rfl,h.1,h.2.1,h.2.2⟩,rfl⟩
noncomputable def kpa:Con TB.den:=k52.fnR (fun x=>(fun(p0:Int) (p1:List Int)=>U64 p0∧Us p1∧p1.length≤1099511627776) x.1 x.2.1) fun x=>((fun(p0:Int) (p1:List Int)=>((hashS p0 p1):Int)) x.1 x.2.1,())
theorem k122:kpa.Ok Try.prog TB:=Con.ok_fn k52 bd77 fun x h=>k1i4 (k1da x.1 x.2.1 h)
def k2p:Con TB.den:=Con.mk0 35 [.one (.d (.int .u64))] [] (.one (.one (.d (.int .u64)))) []
abbrev kv1:=HL TB.den (hsT k2p.ins (hsOs k2p.pre))
abbrev kgm:=HL TB.den (hsV k2p.res (hsOs k2p.post))
noncomputable def kaq:Cx TB:=⟨inf,[kpa],[],4,[]⟩
noncomputable def kgt:Code:=Try.f35.body.getD .skip
noncomputable def kjz:List ResultVar:=Try.f35.results.toList
noncomputable def kt7 (o:kgm):An TB:= .no
def kh4 (x:kv1) (o:kgm):Prop:=WPh TB kaq 6 0 kgt (kt7 o) (k2p.st TB x) (retTQ TB kaq k2p kjz o)
theorem k186 (o:kgm):OblH TB kaq 6 0 kgt (kt7 o) (retTQ TB kaq k2p kjz o):=
 OblH.ofC (X:=True) (by kernel_rfl) trivial
theorem k18r {x:kv1} {o:kgm} (h:kh4 x o):k2p.Snd Try.prog x o:=
 Con.soundH (c:=k2p) (C:=kaq) TBok ⟨inf_ok,(all_cons k122 all_nil),all_nil⟩ mix Try.func35 (show Try.f35.body=some kgt by kernel_rfl) (show Try.f35.ntmps=6 by kernel_rfl) (show Try.f35.results.toList=kjz by kernel_rfl) rfl h (k186 o)
theorem k1aq {p0:Int} {r0:Int} (h:
((U64 (7:Int)∧Us [p0]∧[p0].length≤1099511627776)∧(hashS (7:Int) [p0])=r0)):kh4 (p0,()) (r0,()):=WPh.of_eq (by kernel_rfl) h
theorem bd35:Callable Try.prog 35:=⟨by rw[Try.func35];kernel_rfl,by rw[Try.func35];show some _≠some _;decide⟩
theorem k150 (p0:Int) (h:U64 p0):kh4 (p0,()) (((acctS p0):Int),()):=by
 exact k1aq ⟨⟨by decide,(by intro x hx;rw[List.mem_singleton]at hx;subst hx;exact h),by simp⟩,rfl⟩
noncomputable def ks7:Con TB.den:=k2p.fnR (fun x=>(fun(p0:Int)=>U64 p0) x.1) fun x=>((fun(p0:Int)=>((acctS p0):Int)) x.1,())
theorem k1am:ks7.Ok Try.prog TB:=Con.ok_fn k2p bd35 fun x h=>k18r (k150 x.1 h)
def k1f:Con TB.den:=Con.mk0 79 [.one (.d (.sl (.int .u64)))] [] (.one (.one (.d (.bool)))) []
abbrev kpt:=HL TB.den (hsT k1f.ins (hsOs k1f.pre))
abbrev k4j:=HL TB.den (hsV k1f.res (hsOs k1f.post))
noncomputable def k3t:Cx TB:=⟨inf,[],[],4,[]⟩
noncomputable def k6r:Code:=Try.f79.body.getD .skip
noncomputable def kao:List ResultVar:=Try.f79.results.toList
def k13o (o:k4j):=qS TB k3t 14 0 (cB (cB k6r)) .no (retTQ TB k3t k1f kao o)
def k4w:Tm:=⟨[],[],[5,6,7],[.one (.d (.sl (.int .u64))),.one (.d (.int .i64)),.one (.d (.int .i64))],0⟩
def k12h (o:k4j) (nx1:NX TB k4w):=qM TB 0 k4w nx1 (blockT TB 0 (k13o o))
def k7p (o:k4j) (nx1:NX TB k4w) (i:HL TB.den k4w.hs):Prop:=WP TB k3t 14 0 (cA (cA (cB (cA (cB k6r))))) .no (k4w.fill TB i) (k12h o nx1)
noncomputable def k13k (o:k4j):An TB:= .lp [] k4w (k7p o) fun nx1=> .no
noncomputable def ko3 (o:k4j):An TB:= .nd [] .no [] (.nd [] (.nd [] .no [] (k13k o)) [] .no)
def kcy (x:kpt) (o:k4j):Prop:=WPh TB k3t 14 0 k6r (ko3 o) (k1f.st TB x) (retTQ TB k3t k1f kao o)
theorem k11e (o:k4j):OblH TB k3t 14 0 k6r (ko3 o) (retTQ TB k3t k1f kao o):=
 OblH.ofC (X:=((∀nx i,(k7p o) nx i=(k7p o) nx i)∧(∀nx1:NX TB k4w,True)∧True)) (by kernel_rfl) ⟨fun _ _=>rfl,fun _=>trivial,trivial⟩
theorem k10s {x:kpt} {o:k4j} (h:kcy x o):k1f.Snd Try.prog x o:=
 Con.soundH (c:=k1f) (C:=k3t) TBok ⟨inf_ok,all_nil,all_nil⟩ mix Try.func79 (show Try.f79.body=some k6r by kernel_rfl) (show Try.f79.ntmps=14 by kernel_rfl) (show Try.f79.results.toList=kao by kernel_rfl) rfl h (k11e o)
theorem k11v {p0:List Int} {r0:Bool} (h:
(Md.Loop (p0,((p0.length:Int):Int),(0:Int),()) (k7p (r0,())))):kcy (p0,()) (r0,()):=WPh.of_eq (by kernel_rfl) h
def kof (r0:Bool) (k1:Int→Prop) (s5:List Int) (s6:Int) (s7:Int):Prop:=
(decide (s7<s6)=true→
(0≤s7)∧s7<(s5.length:Int)∧let v1:Bool:=decide (18446744069414584321≤(ix s5 s7))
(v1=true→
 false=r0)∧
(v1=false→
 k1 (IntKind.i64.wrap (s7+1):Int)))∧
(decide (s7<s6)=false→
 true=r0)
theorem k10q {r0:Bool} {s5:List Int} {s6:Int} {s7:Int} (inv:Int→Prop) (μ:Int→Nat) (h0:inv s7) (hs:∀(s7:Int),inv s7→kof r0 (fun s7q=>inv s7q∧μ s7q<μ s7) s5 s6 s7):Md.Loop (s5,s6,s7,()) (k7p (r0,())):=
 ⟨⟨fun s:(List Int)×Int×Int×Unit=>(s.1=s5∧s.2.1=s6)∧inv s.2.2.1,fun s:(List Int)×Int×Int×Unit=>μ s.2.2.1,⟨⟨rfl,rfl⟩,h0⟩,fun(s5p,s6p,s7p,()) ⟨⟨eq0,eq1⟩,hi⟩=>by
  have eq0:s5p=s5:=eq0;subst s5p;have eq1:s6p=s6:=eq1;subst s6p;exact mpr_of (by kernel_rfl) ((congrArg (fun k=>kof r0 k s5 s6 s7p) (lpk1 (⟨rfl,rfl⟩:s5=s5∧s6=s6) inv (fun s7q=>μ s7q<μ s7p))).mpr (hs s7p hi))⟩⟩
theorem bd79:Callable Try.prog 79:=⟨by rw[Try.func79];kernel_rfl,by rw[Try.func79];show some _≠some _;decide⟩
theorem kxi (p0:List Int) (h:p0.length≤9223372036854775807):kcy (p0,()) (((allB p0):Bool),()):=by
 refine k11v (k10q (AllI (fun x=>decide (x<18446744069414584321)) p0) (fun i=>(p0.length-i).toNat) AllI.start ?_)
 intro i hi
 refine⟨fun hh=> ?_,fun hh=>(hi.done (of_decide_eq_false hh)).symm⟩
 have hh:=of_decide_eq_true hh
 exact⟨hi.1,hh,fun e=>(hi.bad hh (by simpa using e)).symm,fun e=>hi.next hh (by omega) (by simpa using e)⟩
noncomputable def kli:Con TB.den:=k1f.fnR (fun x=>(fun(p0:List Int)=>p0.length≤9223372036854775807) x.1) fun x=>((fun(p0:List Int)=>((allB p0):Bool)) x.1,())
theorem k11i:kli.Ok Try.prog TB:=Con.ok_fn k1f bd79 fun x h=>k10s (kxi x.1 h)
def kk:Con TB.den:=Con.mk0 102 [.one (.own 0),.one (.d (.int .u64))] [.tip (.int .u8)] (.one (.one (.own 0))) [.tip (.int .u8)]
abbrev kjh:=HL TB.den (hsT kk.ins (hsOs kk.pre))
abbrev k2j:=HL TB.den (hsV kk.res (hsOs kk.post))
noncomputable def k24:Cx TB:=⟨inf,[],[],4,[]⟩
noncomputable def k5c:Code:=Try.f102.body.getD .skip
noncomputable def k7n:List ResultVar:=Try.f102.results.toList
def kuo (o:k2j):=qS TB k24 16 1 (cB (cB k5c)) .no (retTQ TB k24 kk k7n o)
def k30:Tm:=⟨[0],[.tip (.int .u8)],[0,1,5],[.one (.own 0),.one (.d (.int .u64)),.one (.d (.int .i64))],1⟩
def ku7 (o:k2j) (nx1:NX TB k30):=qM TB 1 k30 nx1 (blockT TB 0 (kuo o))
def k5y (o:k2j) (nx1:NX TB k30) (i:HL TB.den k30.hs):Prop:=WP TB k24 16 1 (cA (cA (cB (cA (cB k5c))))) .no (k30.fill TB i) (ku7 o nx1)
noncomputable def ktx (o:k2j):An TB:= .lp [] k30 (k5y o) fun nx1=> .no
noncomputable def khd (o:k2j):An TB:= .nd [] .no [] (.nd [] (.nd [] .no [] (ktx o)) [] .no)
def k9q (x:kjh) (o:k2j):Prop:=WPh TB k24 16 1 k5c (khd o) (kk.st TB x) (retTQ TB k24 kk k7n o)
theorem ksn (o:k2j):OblH TB k24 16 1 k5c (khd o) (retTQ TB k24 kk k7n o):=
 OblH.ofC (X:=((∀nx i,(k5y o) nx i=(k5y o) nx i)∧(∀nx1:NX TB k30,True)∧True)) (by kernel_rfl) ⟨fun _ _=>rfl,fun _=>trivial,trivial⟩
theorem ksr {x:kjh} {o:k2j} (h:k9q x o):kk.Snd Try.prog x o:=
 Con.soundH (c:=kk) (C:=k24) TBok ⟨inf_ok,all_nil,all_nil⟩ mix Try.func102 (show Try.f102.body=some k5c by kernel_rfl) (show Try.f102.ntmps=16 by kernel_rfl) (show Try.f102.results.toList=k7n by kernel_rfl) rfl h (ksn o)
theorem ktv {p1:Int} {w0:List Int} {e0:List Int} (h:
((w0=w0)∧Md.Loop (p1,(0:Int),w0,()) (k5y (e0,())))):k9q (p1,w0,()) (e0,()):=WPh.of_eq (by kernel_rfl) h
def kha (e0:List Int) (k1:Int→Int→List Int→Prop) (s1:Int) (s5:Int) (g0:List Int):Prop:=
(decide (s5<8)=true→
 g0.length=g0.length∧(g0.length+[IntKind.u8.wrap s1].length)*1≤140737488355328∧g0.length+[IntKind.u8.wrap s1].length≤maxLen∧(g0++[IntKind.u8.wrap s1]=g0++[IntKind.u8.wrap s1])∧k1 (ishr .u64 s1 8:Int) (IntKind.i64.wrap (s5+1):Int) (g0++[IntKind.u8.wrap s1]:List Int))∧
(decide (s5<8)=false→
(g0=g0)∧g0=e0)
theorem kss {e0:List Int} {s1:Int} {s5:Int} {g0:List Int} (inv:Int→Int→List Int→Prop) (μ:Int→Int→List Int→Nat) (h0:inv s1 s5 g0) (hs:∀(s1:Int) (s5:Int) (g0:List Int),inv s1 s5 g0→kha e0 (fun s1q s5q g0q=>inv s1q s5q g0q∧μ s1q s5q g0q<μ s1 s5 g0) s1 s5 g0):Md.Loop (s1,s5,g0,()) (k5y (e0,())):=
 ⟨⟨fun s:Int×Int×(List Int)×Unit=>(True)∧inv s.1 s.2.1 s.2.2.1,fun s:Int×Int×(List Int)×Unit=>μ s.1 s.2.1 s.2.2.1,⟨trivial,h0⟩,fun(s1p,s5p,g0p,()) ⟨_,hi⟩=>by
  exact mpr_of (by kernel_rfl) ((congrArg (fun k=>kha e0 k s1p s5p g0p) (lpk3 (trivial:True) inv (fun s1q s5q g0q=>μ s1q s5q g0q<μ s1p s5p g0p))).mpr (hs s1p s5p g0p hi))⟩⟩
theorem bd102:Callable Try.prog 102:=⟨by rw[Try.func102];kernel_rfl,by rw[Try.func102];show some _≠some _;decide⟩
theorem kqk (p1:Int) (w0:List Int) (h:U64 p1∧w0.length≤137438953472):k9q (p1,w0,()) (((w0++dig 8 p1):List Int),()):=by
 obtain⟨h1,h2⟩:=h
 refine ktv ⟨rfl,kss (fun n i g=>0≤i∧i≤8∧U64 n∧n=p1/256^i.toNat∧g=w0++dig i.toNat p1) (fun _ i _=>(8-i).toNat) ⟨by omega,by omega,h1,by simp,by simp[dig]⟩ ?_⟩
 rintro n i g ⟨g0,g1,g2,g3,rfl⟩
 refine⟨fun h=> ?_,fun h=> ?_⟩
 ·have h:=of_decide_eq_true h
  rw[inc i 8 g0 h (by omega),ishr8,u8w]
  refine⟨rfl,?_,?_,rfl,⟨by omega,by omega,⟨by omega,by omega⟩,?_,?_⟩,by omega⟩
  ·simp;omega
  ·simp;unfold maxLen;omega
  ·rw[g3,show(i+1).toNat=i.toNat+1 by omega,Int.ediv_ediv_of_nonneg (Int.le_of_lt (kan _)),Int.pow_succ]
  ·rw[show(i+1).toNat=i.toNat+1 by omega,ks8,List.append_assoc,g3]
 ·have h:=of_decide_eq_false h
  exact⟨rfl,by rw[show i=8 by omega];rfl⟩
noncomputable def kgn:Con TB.den:=kk.fnR (fun x=>(fun(p1:Int) (w0:List Int)=>U64 p1∧w0.length≤137438953472) x.1 x.2.1) fun x=>((fun(p1:Int) (w0:List Int)=>((w0++dig 8 p1):List Int)) x.1 x.2.1,())
theorem ku1:kgn.Ok Try.prog TB:=Con.ok_fn kk bd102 fun x h=>ksr (kqk x.1 x.2.1 h)
def k2o:Con TB.den:=Con.mk0 80 [.one (.d (.sl (.int .u64))),.one (.d (.sl (.int .u64)))] [] (.one (.one (.d (.str)))) []
abbrev k145:=HL TB.den (hsT k2o.ins (hsOs k2o.pre))
abbrev k4z:=HL TB.den (hsV k2o.res (hsOs k2o.post))
noncomputable def k44:Cx TB:=⟨inf,[kgn],[],4,[]⟩
noncomputable def k6t:Code:=Try.f80.body.getD .skip
noncomputable def kdq:List ResultVar:=Try.f80.results.toList
def k1ga (o:k4z):=qS TB k44 39 0 (cB (cB (cB (cB k6t)))) .no (retTQ TB k44 k2o kdq o)
def kah:Tm:=⟨[1],[.tip (.int .u8)],[5,27,28,29],[.one (.own 0),.one (.d (.sl (.int .u64))),.one (.d (.int .i64)),.one (.d (.int .i64))],2⟩
def kdd (o:k4z) (nx2:NX TB kah) (i:HL TB.den kah.hs):Prop:=WP TB k44 39 0 (cA (cA (cB (cA (cB (cB (cB k6t))))))) .no (kah.fill TB i) (qM TB 0 kah nx2 (blockT TB 2 (k1ga o)))
noncomputable def kzl (o:k4z):An TB:= .nd [] .no [] (.lp [] kah (kdd o) fun nx2=> .no)
def k1gd (o:k4z):=qS TB k44 39 0 (cB (cB (cB k6t))) (.nd [] (kzl o) [] .no) (retTQ TB k44 k2o kdq o)
def kag:Tm:=⟨[1],[.tip (.int .u8)],[0,5,17,18,19],[.one (.d (.sl (.int .u64))),.one (.own 0),.one (.d (.sl (.int .u64))),.one (.d (.int .i64)),.one (.d (.int .i64))],2⟩
def kdc (o:k4z) (nx1:NX TB kag) (i:HL TB.den kag.hs):Prop:=WP TB k44 39 0 (cA (cA (cB (cA (cB (cB k6t)))))) .no (kag.fill TB i) (qM TB 0 kag nx1 (blockT TB 0 (k1gd o)))
noncomputable def k1hu (o:k4z):An TB:= .lp [.frz 0 [5]] kag (kdc o) fun nx1=> .no
noncomputable def k1gs (o:k4z):An TB:= .nd [] (.nd [] .no [] (k1hu o)) [] (.nd [] (kzl o) [] .no)
noncomputable def kzp (o:k4z):An TB:= .nd [] .no [] (.nd [] .no [] (k1gs o))
def kjq (x:k145) (o:k4z):Prop:=WPh TB k44 39 0 k6t (kzp o) (k2o.st TB x) (retTQ TB k44 k2o kdq o)
theorem k1ej (o:k4z):OblH TB k44 39 0 k6t (kzp o) (retTQ TB k44 k2o kdq o):=
 OblH.ofC (X:=((∀nx i,(kdc o) nx i=(kdc o) nx i)∧(∀nx1:NX TB kag,True)∧(∀nx i,(kdd o) nx i=(kdd o) nx i)∧(∀nx2:NX TB kah,True)∧True)) (by kernel_rfl) ⟨fun _ _=>rfl,fun _=>trivial,fun _ _=>rfl,fun _=>trivial,trivial⟩
theorem k1co {x:k145} {o:k4z} (h:kjq x o):k2o.Snd Try.prog x o:=
 Con.soundH (c:=k2o) (C:=k44) TBok ⟨inf_ok,(all_cons ku1 all_nil),all_nil⟩ mix Try.func80 (show Try.f80.body=some k6t by kernel_rfl) (show Try.f80.ntmps=39 by kernel_rfl) (show Try.f80.results.toList=kdq by kernel_rfl) rfl h (k1ej o)
theorem k1h6 {p0:List Int} {p1:List Int} {r0:ByteArray} (h:
(let v1:Int:=IntKind.i64.wrap ((p1.length:Int)+(p0.length:Int))
 0≤(0:Int)∧(0:Int)≤IntKind.i64.wrap (8*v1)∧((IntKind.i64.wrap (8*v1)).toNat*1≤140737488355328)∧((IntKind.i64.wrap (8*v1)).toNat≤maxLen)∧(0=(List.replicate 0 (0:Int)).length)∧(List.replicate 0 (0:Int)=List.replicate 0 (0:Int))∧Md.Loop (p0,p1,((p1.length:Int):Int),(0:Int),(List.replicate 0 (0:Int):List Int),()) (kdc (r0,())))):kjq (p0,p1,()) (r0,()):=WPh.of_eq (by kernel_rfl) h
def kyu (r0:ByteArray) (k1:Int→List Int→Prop) (s0:List Int) (s17:List Int) (s18:Int) (s19:Int) (g1:List Int):Prop:=
(decide (s19<s18)=true→
(0≤s19)∧s19<(s17.length:Int)∧(g1=g1)∧(U64 (ix s17 s19)∧g1.length≤137438953472)∧((g1++dig 8 (ix s17 s19))=(g1++dig 8 (ix s17 s19)))∧k1 (IntKind.i64.wrap (s19+1):Int) ((g1++dig 8 (ix s17 s19)):List Int))∧
(decide (s19<s18)=false→
(g1=g1)∧Md.Loop (s0,((s0.length:Int):Int),(0:Int),g1,()) (kdd (r0,())))
theorem k1d4 {r0:ByteArray} {s0:List Int} {s17:List Int} {s18:Int} {s19:Int} {g1:List Int} (inv:Int→List Int→Prop) (μ:Int→List Int→Nat) (h0:inv s19 g1) (hs:∀(s19:Int) (g1:List Int),inv s19 g1→kyu r0 (fun s19q g1q=>inv s19q g1q∧μ s19q g1q<μ s19 g1) s0 s17 s18 s19 g1):Md.Loop (s0,s17,s18,s19,g1,()) (kdc (r0,())):=
 ⟨⟨fun s:(List Int)×(List Int)×Int×Int×(List Int)×Unit=>(s.1=s0∧s.2.1=s17∧s.2.2.1=s18)∧inv s.2.2.2.1 s.2.2.2.2.1,fun s:(List Int)×(List Int)×Int×Int×(List Int)×Unit=>μ s.2.2.2.1 s.2.2.2.2.1,⟨⟨rfl,rfl,rfl⟩,h0⟩,fun(s0p,s17p,s18p,s19p,g1p,()) ⟨⟨eq0,eq1,eq2⟩,hi⟩=>by
  have eq0:s0p=s0:=eq0;subst s0p;have eq1:s17p=s17:=eq1;subst s17p;have eq2:s18p=s18:=eq2;subst s18p;exact mpr_of (by kernel_rfl) ((congrArg (fun k=>kyu r0 k s0 s17 s18 s19p g1p) (lpk2 (⟨rfl,rfl,rfl⟩:s0=s0∧s17=s17∧s18=s18) inv (fun s19q g1q=>μ s19q g1q<μ s19p g1p))).mpr (hs s19p g1p hi))⟩⟩
def kzm (r0:ByteArray) (k2:Int→List Int→Prop) (s27:List Int) (s28:Int) (s29:Int) (g1:List Int):Prop:=
(decide (s29<s28)=true→
(0≤s29)∧s29<(s27.length:Int)∧(g1=g1)∧(U64 (ix s27 s29)∧g1.length≤137438953472)∧((g1++dig 8 (ix s27 s29))=(g1++dig 8 (ix s27 s29)))∧k2 (IntKind.i64.wrap (s29+1):Int) ((g1++dig 8 (ix s27 s29)):List Int))∧
(decide (s29<s28)=false→
 strOfNums g1=r0)
theorem k1d2 {r0:ByteArray} {s27:List Int} {s28:Int} {s29:Int} {g1:List Int} (inv:Int→List Int→Prop) (μ:Int→List Int→Nat) (h0:inv s29 g1) (hs:∀(s29:Int) (g1:List Int),inv s29 g1→kzm r0 (fun s29q g1q=>inv s29q g1q∧μ s29q g1q<μ s29 g1) s27 s28 s29 g1):Md.Loop (s27,s28,s29,g1,()) (kdd (r0,())):=
 ⟨⟨fun s:(List Int)×Int×Int×(List Int)×Unit=>(s.1=s27∧s.2.1=s28)∧inv s.2.2.1 s.2.2.2.1,fun s:(List Int)×Int×Int×(List Int)×Unit=>μ s.2.2.1 s.2.2.2.1,⟨⟨rfl,rfl⟩,h0⟩,fun(s27p,s28p,s29p,g1p,()) ⟨⟨eq0,eq1⟩,hi⟩=>by
  have eq0:s27p=s27:=eq0;subst s27p;have eq1:s28p=s28:=eq1;subst s28p;exact mpr_of (by kernel_rfl) ((congrArg (fun k=>kzm r0 k s27 s28 s29p g1p) (lpk2 (⟨rfl,rfl⟩:s27=s27∧s28=s28) inv (fun s29q g1q=>μ s29q g1q<μ s29p g1p))).mpr (hs s29p g1p hi))⟩⟩
theorem bd80:Callable Try.prog 80:=⟨by rw[Try.func80];kernel_rfl,by rw[Try.func80];show some _≠some _;decide⟩
theorem k1bp (p0:List Int) (p1:List Int) (h:Us p0∧Us p1∧p0.length≤1073741824∧p1.length≤1073741824):kjq (p0,p1,()) (((keyB p1 p0):ByteArray),()):=by
 obtain⟨h0,h1,h2,h3⟩:=h
 refine k1h6 ?_
 rw[wi ((p1.length:Int)+p0.length) (by omega) (by omega)]
 simp only[]
 rw[wi (8*((p1.length:Int)+p0.length)) (by omega) (by omega)]
 refine⟨by omega,by omega,by omega,by unfold maxLen;omega,by trivial,by trivial,?_⟩
 refine k1d4 (fun i g=>FlatI (dig 8) [] p1 i g) (fun i _=>(p1.length-i).toNat) FlatI.start ?_
 intro i g hg
 have hl:=hg.len 8 (fun x _=>by simp)
 refine⟨fun hh=> ?_,fun hh=> ?_⟩
 ·have hh:=of_decide_eq_true hh
  exact⟨hg.1,hh,rfl,⟨h1 _ (ix_mem p1 i hg.1 hh),by simp at hl;omega⟩,by trivial,hg.next hh (by omega) rfl⟩
 ·have hh:=of_decide_eq_false hh
  have e:=hg.done hh
  refine⟨rfl,k1d2 (fun j g=>FlatI (dig 8) (p1.flatMap (dig 8)) p0 j g) (fun j _=>(p0.length-j).toNat) (by rw[e];exact FlatI.start) ?_⟩
  intro j g2 hg2
  have hl2:=hg2.len 8 (fun x _=>by simp)
  have hl3:=kjs p1
  refine⟨fun hh2=> ?_,fun hh2=> ?_⟩
  ·have hh2:=of_decide_eq_true hh2
   exact⟨hg2.1,hh2,rfl,⟨h0 _ (ix_mem p0 j hg2.1 hh2),by omega⟩,by trivial,hg2.next hh2 (by omega) rfl⟩
  ·rw[hg2.done (of_decide_eq_false hh2)];rfl
noncomputable def kwa:Con TB.den:=k2o.fnR (fun x=>(fun(p0:List Int) (p1:List Int)=>Us p0∧Us p1∧p0.length≤1073741824∧p1.length≤1073741824) x.1 x.2.1) fun x=>((fun(p0:List Int) (p1:List Int)=>((keyB p1 p0):ByteArray)) x.1 x.2.1,())
theorem k1hn:kwa.Ok Try.prog TB:=Con.ok_fn k2o bd80 fun x h=>k1co (k1bp x.1 x.2.1 h)
def k3e:Con TB.den:=Con.mk0 75 [.one (.ptr 0 0),.one (.d (.int .u64)),.one (.d (.sl (.int .u64)))] [.cells [.d (.bool),.d (.int .u64),.d (.int .i64),.d (.sl (.st 3)),.mp 1,.mp 2,.mp 3],.map (.str) (.int .i64),.map (.str) (.sl (.int .u64)),.map (.str) (.bool)] (.tup [.one (.d (.int .u64)),.one (.d (.bool))]) [.cells [.d (.bool),.d (.int .u64),.d (.int .i64),.d (.sl (.st 3)),.mp 1,.mp 2,.mp 3],.map (.str) (.int .i64),.map (.str) (.sl (.int .u64)),.map (.str) (.bool)]
abbrev kyx:=HL TB.den (hsT k3e.ins (hsOs k3e.pre))
abbrev ki5:=HL TB.den (hsV k3e.res (hsOs k3e.post))
noncomputable def kbj:Cx TB:=⟨inf,[kli,kwa,ked],[],4,[]⟩
noncomputable def kih:Code:=Try.f75.body.getD .skip
noncomputable def kmv:List ResultVar:=Try.f75.results.toList
noncomputable def kwl (o:ki5):An TB:= .no
def kj3 (x:kyx) (o:ki5):Prop:=WPh TB kbj 41 4 kih (kwl o) (k3e.st TB x) (retTQ TB kbj k3e kmv o)
theorem k19n (o:ki5):OblH TB kbj 41 4 kih (kwl o) (retTQ TB kbj k3e kmv o):=
 OblH.ofC (X:=True) (by kernel_rfl) trivial
theorem k1c0 {x:kyx} {o:ki5} (h:kj3 x o):k3e.Snd Try.prog x o:=
 Con.soundH (c:=k3e) (C:=kbj) TBok ⟨inf_ok,(all_cons k11i (all_cons k1hn (all_cons kly all_nil))),all_nil⟩ mix Try.func75 (show Try.f75.body=some kih by kernel_rfl) (show Try.f75.ntmps=41 by kernel_rfl) (show Try.f75.results.toList=kmv by kernel_rfl) rfl h (k19n o)
theorem k1e0 {p1:Int} {p2:List Int} {c0_0:Bool} {c0_1:Int} {c0_2:Int} {c0_3:List TQuestion} {w1k:List ByteArray} {w1v:List Int} {w2k:List ByteArray} {w2v:List (List Int)} {w3k:List ByteArray} {w3v:List Bool} {r0:Int} {r1:Bool} {d0_0:Bool} {d0_1:Int} {d0_2:Int} {d0_3:List TQuestion} {e1k:List ByteArray} {e1v:List Int} {e2k:List ByteArray} {e2v:List (List Int)} {e3k:List ByteArray} {e3v:List Bool} (h:
((p2.length≤9223372036854775807)∧((!(allB p2))=true→
 0=r0∧false=r1∧c0_0=d0_0∧c0_1=d0_1∧c0_2=d0_2∧c0_3=d0_3∧w1k=e1k∧w1v=e1v∧w2k=e2k∧w2v=e2v∧w3k=e3k∧w3v=e3v)∧
((!(allB p2))=false→
(Us p2∧Us [p1]∧p2.length≤1073741824∧[p1].length≤1073741824)∧w1k.length=w1v.length∧let v2:Int:=mVal (BEq.beq (keyB [p1] p2)) w1k w1v (0:Int)
(mHas (BEq.beq (keyB [p1] p2)) w1k=true→
(0≤v2)∧v2<(c0_3.length:Int)∧(ix c0_3 v2).Answer=r0∧true=r1∧c0_0=d0_0∧c0_1=d0_1∧c0_2=d0_2∧c0_3=d0_3∧w1k=e1k∧w1v=e1v∧w2k=e2k∧w2v=e2v∧w3k=e3k∧w3v=e3v)∧
(mHas (BEq.beq (keyB [p1] p2)) w1k=false→
(c0_0=true→
 0=r0∧false=r1∧c0_0=d0_0∧c0_1=d0_1∧c0_2=d0_2∧c0_3=d0_3∧w1k=e1k∧w1v=e1v∧w2k=e2k∧w2v=e2v∧w3k=e3k∧w3v=e3v)∧
(c0_0=false→
((18446744069414584321:Int)=18446744069414584321∧U64 p1∧Us p2∧p2.length≤1099511627776)∧(hashS p1 p2)=r0∧true=r1∧c0_0=d0_0∧c0_1=d0_1∧c0_2=d0_2∧c0_3=d0_3∧w1k=e1k∧w1v=e1v∧w2k=e2k∧w2v=e2v∧w3k=e3k∧w3v=e3v))))):kj3 (p1,p2,c0_0,c0_1,c0_2,c0_3,w1k,w1v,w2k,w2v,w3k,w3v,()) (r0,r1,d0_0,d0_1,d0_2,d0_3,e1k,e1v,e2k,e2v,e3k,e3v,()):=WPh.of_eq (by kernel_rfl) h
theorem bd75:Callable Try.prog 75:=⟨by rw[Try.func75];kernel_rfl,by rw[Try.func75];show some _≠some _;decide⟩
theorem k185 (p1:Int) (p2:List Int) (c0_0:Bool) (c0_1:Int) (c0_2:Int) (c0_3:List TQuestion) (w1k:List ByteArray) (w1v:List Int) (w2k:List ByteArray) (w2v:List (List Int)) (w3k:List ByteArray) (w3v:List Bool) (h:U64 p1∧Us p2∧p2.length≤1073741824∧OrOk w1k w1v c0_3):kj3 (p1,p2,c0_0,c0_1,c0_2,c0_3,w1k,w1v,w2k,w2v,w3k,w3v,()) ((((pk c0_0 c0_3 w1k w1v p1 p2).getD 0):Int),(((pk c0_0 c0_3 w1k w1v p1 p2).isSome):Bool),(c0_0:Bool),(c0_1:Int),(c0_2:Int),(c0_3:List TQuestion),(w1k:List ByteArray),(w1v:List Int),(w2k:List ByteArray),(w2v:List (List Int)),(w3k:List ByteArray),(w3v:List Bool),()):=by
 obtain⟨h1,h2,h3,ho⟩:=h
 have hu:Us [p1]:=by intro x hx;rw[List.mem_singleton]at hx;subst hx;exact h1
 refine k1e0 ⟨by omega,fun e=> ?_,fun e=>⟨⟨h2,hu,h3,by simp⟩,ho.len,fun hm=> ?_,fun hm=>⟨fun hi=> ?_,fun hi=>⟨⟨rfl,h1,h2,by omega⟩,?_⟩⟩⟩⟩
 ·have e:allB p2=false:=by simpa using e
  simp[pk,e]
 ·have e:allB p2=true:=by simpa using e
  have hv:=ho.rng _ (k1pj (z:=(0:Int)) hm ho.len)
  refine⟨hv.1,hv.2,?_⟩
  simp[pk,e,hm]
 ·have e:allB p2=true:=by simpa using e
  simp[pk,e,hm,hi]
 ·have e:allB p2=true:=by simpa using e
  simp[pk,e,hm,hi]
noncomputable def kks:Con TB.den:=k3e.fnR (fun x=>(fun(p1:Int) (p2:List Int) (c0_0:Bool) (c0_1:Int) (c0_2:Int) (c0_3:List TQuestion) (w1k:List ByteArray) (w1v:List Int) (w2k:List ByteArray) (w2v:List (List Int)) (w3k:List ByteArray) (w3v:List Bool)=>U64 p1∧Us p2∧p2.length≤1073741824∧OrOk w1k w1v c0_3) x.1 x.2.1 x.2.2.1 x.2.2.2.1 x.2.2.2.2.1 x.2.2.2.2.2.1 x.2.2.2.2.2.2.1 x.2.2.2.2.2.2.2.1 x.2.2.2.2.2.2.2.2.1 x.2.2.2.2.2.2.2.2.2.1 x.2.2.2.2.2.2.2.2.2.2.1 x.2.2.2.2.2.2.2.2.2.2.2.1) fun x=>((fun(p1:Int) (p2:List Int) (c0_0:Bool) (c0_1:Int) (c0_2:Int) (c0_3:List TQuestion) (w1k:List ByteArray) (w1v:List Int) (w2k:List ByteArray) (w2v:List (List Int)) (w3k:List ByteArray) (w3v:List Bool)=>(((pk c0_0 c0_3 w1k w1v p1 p2).getD 0):Int)) x.1 x.2.1 x.2.2.1 x.2.2.2.1 x.2.2.2.2.1 x.2.2.2.2.2.1 x.2.2.2.2.2.2.1 x.2.2.2.2.2.2.2.1 x.2.2.2.2.2.2.2.2.1 x.2.2.2.2.2.2.2.2.2.1 x.2.2.2.2.2.2.2.2.2.2.1 x.2.2.2.2.2.2.2.2.2.2.2.1,(fun(p1:Int) (p2:List Int) (c0_0:Bool) (c0_1:Int) (c0_2:Int) (c0_3:List TQuestion) (w1k:List ByteArray) (w1v:List Int) (w2k:List ByteArray) (w2v:List (List Int)) (w3k:List ByteArray) (w3v:List Bool)=>(((pk c0_0 c0_3 w1k w1v p1 p2).isSome):Bool)) x.1 x.2.1 x.2.2.1 x.2.2.2.1 x.2.2.2.2.1 x.2.2.2.2.2.1 x.2.2.2.2.2.2.1 x.2.2.2.2.2.2.2.1 x.2.2.2.2.2.2.2.2.1 x.2.2.2.2.2.2.2.2.2.1 x.2.2.2.2.2.2.2.2.2.2.1 x.2.2.2.2.2.2.2.2.2.2.2.1,(fun(p1:Int) (p2:List Int) (c0_0:Bool) (c0_1:Int) (c0_2:Int) (c0_3:List TQuestion) (w1k:List ByteArray) (w1v:List Int) (w2k:List ByteArray) (w2v:List (List Int)) (w3k:List ByteArray) (w3v:List Bool)=>(c0_0:Bool)) x.1 x.2.1 x.2.2.1 x.2.2.2.1 x.2.2.2.2.1 x.2.2.2.2.2.1 x.2.2.2.2.2.2.1 x.2.2.2.2.2.2.2.1 x.2.2.2.2.2.2.2.2.1 x.2.2.2.2.2.2.2.2.2.1 x.2.2.2.2.2.2.2.2.2.2.1 x.2.2.2.2.2.2.2.2.2.2.2.1,(fun(p1:Int) (p2:List Int) (c0_0:Bool) (c0_1:Int) (c0_2:Int) (c0_3:List TQuestion) (w1k:List ByteArray) (w1v:List Int) (w2k:List ByteArray) (w2v:List (List Int)) (w3k:List ByteArray) (w3v:List Bool)=>(c0_1:Int)) x.1 x.2.1 x.2.2.1 x.2.2.2.1 x.2.2.2.2.1 x.2.2.2.2.2.1 x.2.2.2.2.2.2.1 x.2.2.2.2.2.2.2.1 x.2.2.2.2.2.2.2.2.1 x.2.2.2.2.2.2.2.2.2.1 x.2.2.2.2.2.2.2.2.2.2.1 x.2.2.2.2.2.2.2.2.2.2.2.1,(fun(p1:Int) (p2:List Int) (c0_0:Bool) (c0_1:Int) (c0_2:Int) (c0_3:List TQuestion) (w1k:List ByteArray) (w1v:List Int) (w2k:List ByteArray) (w2v:List (List Int)) (w3k:List ByteArray) (w3v:List Bool)=>(c0_2:Int)) x.1 x.2.1 x.2.2.1 x.2.2.2.1 x.2.2.2.2.1 x.2.2.2.2.2.1 x.2.2.2.2.2.2.1 x.2.2.2.2.2.2.2.1 x.2.2.2.2.2.2.2.2.1 x.2.2.2.2.2.2.2.2.2.1 x.2.2.2.2.2.2.2.2.2.2.1 x.2.2.2.2.2.2.2.2.2.2.2.1,(fun(p1:Int) (p2:List Int) (c0_0:Bool) (c0_1:Int) (c0_2:Int) (c0_3:List TQuestion) (w1k:List ByteArray) (w1v:List Int) (w2k:List ByteArray) (w2v:List (List Int)) (w3k:List ByteArray) (w3v:List Bool)=>(c0_3:List TQuestion)) x.1 x.2.1 x.2.2.1 x.2.2.2.1 x.2.2.2.2.1 x.2.2.2.2.2.1 x.2.2.2.2.2.2.1 x.2.2.2.2.2.2.2.1 x.2.2.2.2.2.2.2.2.1 x.2.2.2.2.2.2.2.2.2.1 x.2.2.2.2.2.2.2.2.2.2.1 x.2.2.2.2.2.2.2.2.2.2.2.1,(fun(p1:Int) (p2:List Int) (c0_0:Bool) (c0_1:Int) (c0_2:Int) (c0_3:List TQuestion) (w1k:List ByteArray) (w1v:List Int) (w2k:List ByteArray) (w2v:List (List Int)) (w3k:List ByteArray) (w3v:List Bool)=>(w1k:List ByteArray)) x.1 x.2.1 x.2.2.1 x.2.2.2.1 x.2.2.2.2.1 x.2.2.2.2.2.1 x.2.2.2.2.2.2.1 x.2.2.2.2.2.2.2.1 x.2.2.2.2.2.2.2.2.1 x.2.2.2.2.2.2.2.2.2.1 x.2.2.2.2.2.2.2.2.2.2.1 x.2.2.2.2.2.2.2.2.2.2.2.1,(fun(p1:Int) (p2:List Int) (c0_0:Bool) (c0_1:Int) (c0_2:Int) (c0_3:List TQuestion) (w1k:List ByteArray) (w1v:List Int) (w2k:List ByteArray) (w2v:List (List Int)) (w3k:List ByteArray) (w3v:List Bool)=>(w1v:List Int)) x.1 x.2.1 x.2.2.1 x.2.2.2.1 x.2.2.2.2.1 x.2.2.2.2.2.1 x.2.2.2.2.2.2.1 x.2.2.2.2.2.2.2.1 x.2.2.2.2.2.2.2.2.1 x.2.2.2.2.2.2.2.2.2.1 x.2.2.2.2.2.2.2.2.2.2.1 x.2.2.2.2.2.2.2.2.2.2.2.1,(fun(p1:Int) (p2:List Int) (c0_0:Bool) (c0_1:Int) (c0_2:Int) (c0_3:List TQuestion) (w1k:List ByteArray) (w1v:List Int) (w2k:List ByteArray) (w2v:List (List Int)) (w3k:List ByteArray) (w3v:List Bool)=>(w2k:List ByteArray)) x.1 x.2.1 x.2.2.1 x.2.2.2.1 x.2.2.2.2.1 x.2.2.2.2.2.1 x.2.2.2.2.2.2.1 x.2.2.2.2.2.2.2.1 x.2.2.2.2.2.2.2.2.1 x.2.2.2.2.2.2.2.2.2.1 x.2.2.2.2.2.2.2.2.2.2.1 x.2.2.2.2.2.2.2.2.2.2.2.1,(fun(p1:Int) (p2:List Int) (c0_0:Bool) (c0_1:Int) (c0_2:Int) (c0_3:List TQuestion) (w1k:List ByteArray) (w1v:List Int) (w2k:List ByteArray) (w2v:List (List Int)) (w3k:List ByteArray) (w3v:List Bool)=>(w2v:List (List Int))) x.1 x.2.1 x.2.2.1 x.2.2.2.1 x.2.2.2.2.1 x.2.2.2.2.2.1 x.2.2.2.2.2.2.1 x.2.2.2.2.2.2.2.1 x.2.2.2.2.2.2.2.2.1 x.2.2.2.2.2.2.2.2.2.1 x.2.2.2.2.2.2.2.2.2.2.1 x.2.2.2.2.2.2.2.2.2.2.2.1,(fun(p1:Int) (p2:List Int) (c0_0:Bool) (c0_1:Int) (c0_2:Int) (c0_3:List TQuestion) (w1k:List ByteArray) (w1v:List Int) (w2k:List ByteArray) (w2v:List (List Int)) (w3k:List ByteArray) (w3v:List Bool)=>(w3k:List ByteArray)) x.1 x.2.1 x.2.2.1 x.2.2.2.1 x.2.2.2.2.1 x.2.2.2.2.2.1 x.2.2.2.2.2.2.1 x.2.2.2.2.2.2.2.1 x.2.2.2.2.2.2.2.2.1 x.2.2.2.2.2.2.2.2.2.1 x.2.2.2.2.2.2.2.2.2.2.1 x.2.2.2.2.2.2.2.2.2.2.2.1,(fun(p1:Int) (p2:List Int) (c0_0:Bool) (c0_1:Int) (c0_2:Int) (c0_3:List TQuestion) (w1k:List ByteArray) (w1v:List Int) (w2k:List ByteArray) (w2v:List (List Int)) (w3k:List ByteArray) (w3v:List Bool)=>(w3v:List Bool)) x.1 x.2.1 x.2.2.1 x.2.2.2.1 x.2.2.2.2.1 x.2.2.2.2.2.1 x.2.2.2.2.2.2.1 x.2.2.2.2.2.2.2.1 x.2.2.2.2.2.2.2.2.1 x.2.2.2.2.2.2.2.2.2.1 x.2.2.2.2.2.2.2.2.2.2.1 x.2.2.2.2.2.2.2.2.2.2.2.1,())
theorem kvz:kks.Ok Try.prog TB:=Con.ok_fn k3e bd75 fun x h=>k1c0 (k185 x.1 x.2.1 x.2.2.1 x.2.2.2.1 x.2.2.2.2.1 x.2.2.2.2.2.1 x.2.2.2.2.2.2.1 x.2.2.2.2.2.2.2.1 x.2.2.2.2.2.2.2.2.1 x.2.2.2.2.2.2.2.2.2.1 x.2.2.2.2.2.2.2.2.2.2.1 x.2.2.2.2.2.2.2.2.2.2.2.1 h)
def k45:Con TB.den:=Con.mk0 74 [.agg [.d (.int .u64),.d (.int .u64),.d (.int .u64),.d (.int .u64)]] [] (.one (.one (.d (.bool)))) []
abbrev k14n:=HL TB.den (hsT k45.ins (hsOs k45.pre))
abbrev kke:=HL TB.den (hsV k45.res (hsOs k45.post))
noncomputable def kdi:Cx TB:=⟨inf,[],[],4,[]⟩
noncomputable def kl4:Code:=Try.f74.body.getD .skip
noncomputable def kor:List ResultVar:=Try.f74.results.toList
noncomputable def kz0 (o:kke):An TB:= .no
def kjp (x:k14n) (o:kke):Prop:=WPh TB kdi 21 0 kl4 (kz0 o) (k45.st TB x) (retTQ TB kdi k45 kor o)
theorem k1et (o:kke):OblH TB kdi 21 0 kl4 (kz0 o) (retTQ TB kdi k45 kor o):=
 OblH.ofC (X:=True) (by kernel_rfl) trivial
theorem k1e1 {x:k14n} {o:kke} (h:kjp x o):k45.Snd Try.prog x o:=
 Con.soundH (c:=k45) (C:=kdi) TBok ⟨inf_ok,all_nil,all_nil⟩ mix Try.func74 (show Try.f74.body=some kl4 by kernel_rfl) (show Try.f74.ntmps=21 by kernel_rfl) (show Try.f74.results.toList=kor by kernel_rfl) rfl h (k1et o)
theorem k1hp {p0:TNote} {r0:Bool} (h:
((decide (p0.Value≤4294967295)=true→
(decide (p0.Owner<18446744069414584321)=true→
(decide (p0.Rho<18446744069414584321)=true→
 decide (p0.Blind<18446744069414584321)=r0)∧
(decide (p0.Rho<18446744069414584321)=false→
 false=r0))∧
(decide (p0.Owner<18446744069414584321)=false→
 false=r0))∧
(decide (p0.Value≤4294967295)=false→
 false=r0))):kjp (p0.Value,p0.Owner,p0.Rho,p0.Blind,()) (r0,()):=WPh.of_eq (by kernel_rfl) h
theorem bd74:Callable Try.prog 74:=⟨by rw[Try.func74];kernel_rfl,by rw[Try.func74];show some _≠some _;decide⟩
theorem k19r (p0:TNote):kjp (p0.Value,p0.Owner,p0.Rho,p0.Blind,()) (((noteV p0):Bool),()):=by
 refine k1hp ?_
 unfold noteV
 grind
noncomputable def kga:Con TB.den:=k45.totR fun x=>((fun(p0:TNote)=>((noteV p0):Bool)) (TNote.mk x.1 x.2.1 x.2.2.1 x.2.2.2.1),())
theorem kot:kga.Ok Try.prog TB:=Con.ok_tot k45 bd74 fun x=>k1e1 (k19r (TNote.mk x.1 x.2.1 x.2.2.1 x.2.2.2.1))
def k2f:Con TB.den:=Con.mk0 76 [.agg [.d (.int .u64),.d (.int .u64),.d (.int .u64),.d (.int .u64)]] [] (.one (.one (.d (.sl (.int .u64))))) []
abbrev kt1:=HL TB.den (hsT k2f.ins (hsOs k2f.pre))
abbrev kem:=HL TB.den (hsV k2f.res (hsOs k2f.post))
noncomputable def k9z:Cx TB:=⟨inf,[],[],4,[]⟩
noncomputable def kfk:Code:=Try.f76.body.getD .skip
noncomputable def kim:List ResultVar:=Try.f76.results.toList
noncomputable def kra (o:kem):An TB:= .no
def kft (x:kt1) (o:kem):Prop:=WPh TB k9z 12 0 kfk (kra o) (k2f.st TB x) (retTQ TB k9z k2f kim o)
theorem k152 (o:kem):OblH TB k9z 12 0 kfk (kra o) (retTQ TB k9z k2f kim o):=
 OblH.ofC (X:=True) (by kernel_rfl) trivial
theorem k15z {x:kt1} {o:kem} (h:kft x o):k2f.Snd Try.prog x o:=
 Con.soundH (c:=k2f) (C:=k9z) TBok ⟨inf_ok,all_nil,all_nil⟩ mix Try.func76 (show Try.f76.body=some kfk by kernel_rfl) (show Try.f76.ntmps=12 by kernel_rfl) (show Try.f76.results.toList=kim by kernel_rfl) rfl h (k152 o)
theorem k17w {p0:TNote} {r0:List Int} (h:
([p0.Value,p0.Owner,p0.Rho,p0.Blind]=r0)):kft (p0.Value,p0.Owner,p0.Rho,p0.Blind,()) (r0,()):=WPh.of_eq (by kernel_rfl) h
theorem bd76:Callable Try.prog 76:=⟨by rw[Try.func76];kernel_rfl,by rw[Try.func76];show some _≠some _;decide⟩
theorem k11w (p0:TNote):kft (p0.Value,p0.Owner,p0.Rho,p0.Blind,()) (((noteL p0):List Int),()):=by
 exact k17w rfl
noncomputable def kpi:Con TB.den:=k2f.totR fun x=>((fun(p0:TNote)=>((noteL p0):List Int)) (TNote.mk x.1 x.2.1 x.2.2.1 x.2.2.2.1),())
theorem k180:kpi.Ok Try.prog TB:=Con.ok_tot k2f bd76 fun x=>k15z (k11w (TNote.mk x.1 x.2.1 x.2.2.1 x.2.2.2.1))
def k1s:Con TB.den:=Con.mk0 34 [.one (.ptr 0 0),.agg [.d (.int .u64),.d (.int .u64),.d (.int .u64),.d (.int .u64)]] [.cells [.d (.bool),.d (.int .u64),.d (.int .i64),.d (.sl (.st 3)),.mp 1,.mp 2,.mp 3],.map (.str) (.int .i64),.map (.str) (.sl (.int .u64)),.map (.str) (.bool)] (.tup [.one (.d (.int .u64)),.one (.d (.bool))]) [.cells [.d (.bool),.d (.int .u64),.d (.int .i64),.d (.sl (.st 3)),.mp 1,.mp 2,.mp 3],.map (.str) (.int .i64),.map (.str) (.sl (.int .u64)),.map (.str) (.bool)]
abbrev kpk:=HL TB.den (hsT k1s.ins (hsOs k1s.pre))
abbrev kbd:=HL TB.den (hsV k1s.res (hsOs k1s.post))
noncomputable def k7r:Cx TB:=⟨inf,[kga,kpi,kks],[],4,[]⟩
noncomputable def kd2:Code:=Try.f34.body.getD .skip
noncomputable def kfi:List ResultVar:=Try.f34.results.toList
noncomputable def koe (o:kbd):An TB:= .no
def kd7 (x:kpk) (o:kbd):Prop:=WPh TB k7r 15 4 kd2 (koe o) (k1s.st TB x) (retTQ TB k7r k1s kfi o)
theorem k10n (o:kbd):OblH TB k7r 15 4 kd2 (koe o) (retTQ TB k7r k1s kfi o):=
 OblH.ofC (X:=True) (by kernel_rfl) trivial
theorem k10a {x:kpk} {o:kbd} (h:kd7 x o):k1s.Snd Try.prog x o:=
 Con.soundH (c:=k1s) (C:=k7r) TBok ⟨inf_ok,(all_cons kot (all_cons k180 (all_cons kvz all_nil))),all_nil⟩ mix Try.func34 (show Try.f34.body=some kd2 by kernel_rfl) (show Try.f34.ntmps=15 by kernel_rfl) (show Try.f34.results.toList=kfi by kernel_rfl) rfl h (k10n o)
theorem k12q {p1:TNote} {c0_0:Bool} {c0_1:Int} {c0_2:Int} {c0_3:List TQuestion} {w1k:List ByteArray} {w1v:List Int} {w2k:List ByteArray} {w2v:List (List Int)} {w3k:List ByteArray} {w3v:List Bool} {r0:Int} {r1:Bool} {d0_0:Bool} {d0_1:Int} {d0_2:Int} {d0_3:List TQuestion} {e1k:List ByteArray} {e1v:List Int} {e2k:List ByteArray} {e2v:List (List Int)} {e3k:List ByteArray} {e3v:List Bool} (h:
(((!(noteV p1))=true→
 0=r0∧false=r1∧c0_0=d0_0∧c0_1=d0_1∧c0_2=d0_2∧c0_3=d0_3∧w1k=e1k∧w1v=e1v∧w2k=e2k∧w2v=e2v∧w3k=e3k∧w3v=e3v)∧
((!(noteV p1))=false→
(U64 (2:Int)∧Us (noteL p1)∧(noteL p1).length≤1073741824∧OrOk w1k w1v c0_3)∧let r2:Int:=((pk c0_0 c0_3 w1k w1v (2:Int) (noteL p1)).getD 0)
 let r3:Bool:=((pk c0_0 c0_3 w1k w1v (2:Int) (noteL p1)).isSome)
 r2=r0∧r3=r1∧c0_0=d0_0∧c0_1=d0_1∧c0_2=d0_2∧c0_3=d0_3∧w1k=e1k∧w1v=e1v∧w2k=e2k∧w2v=e2v∧w3k=e3k∧w3v=e3v))):kd7 (p1.Value,p1.Owner,p1.Rho,p1.Blind,c0_0,c0_1,c0_2,c0_3,w1k,w1v,w2k,w2v,w3k,w3v,()) (r0,r1,d0_0,d0_1,d0_2,d0_3,e1k,e1v,e2k,e2v,e3k,e3v,()):=WPh.of_eq (by kernel_rfl) h
theorem bd34:Callable Try.prog 34:=⟨by rw[Try.func34];kernel_rfl,by rw[Try.func34];show some _≠some _;decide⟩
theorem kyc (p1:TNote) (c0_0:Bool) (c0_1:Int) (c0_2:Int) (c0_3:List TQuestion) (w1k:List ByteArray) (w1v:List Int) (w2k:List ByteArray) (w2v:List (List Int)) (w3k:List ByteArray) (w3v:List Bool) (h:NR p1∧OrOk w1k w1v c0_3):kd7 (p1.Value,p1.Owner,p1.Rho,p1.Blind,c0_0,c0_1,c0_2,c0_3,w1k,w1v,w2k,w2v,w3k,w3v,()) ((((commP (pk c0_0 c0_3 w1k w1v) p1).getD 0):Int),(((commP (pk c0_0 c0_3 w1k w1v) p1).isSome):Bool),(c0_0:Bool),(c0_1:Int),(c0_2:Int),(c0_3:List TQuestion),(w1k:List ByteArray),(w1v:List Int),(w2k:List ByteArray),(w2v:List (List Int)),(w3k:List ByteArray),(w3v:List Bool),()):=by
 obtain⟨h1,ho⟩:=h
 have hu:Us (noteL p1):=by
  intro x hx
  simp only[noteL,List.mem_cons,List.not_mem_nil,or_false]at hx
  rcases hx with rfl|rfl|rfl|rfl
  ·exact h1.v
  ·exact h1.o
  ·exact h1.r
  ·exact h1.b
 refine k12q ?_
 simp only[k12u]
 unfold commP
 refine⟨fun e=> ?_,fun e=>⟨⟨by decide,hu,by simp[noteL],ho⟩,?_⟩⟩
 ·have e:noteV p1=false:=by simpa using e
  simp[e]
 ·have e:noteV p1=true:=by simpa using e
  simp[e]
noncomputable def ke8:Con TB.den:=k1s.fnR (fun x=>(fun(p1:TNote) (c0_0:Bool) (c0_1:Int) (c0_2:Int) (c0_3:List TQuestion) (w1k:List ByteArray) (w1v:List Int) (w2k:List ByteArray) (w2v:List (List Int)) (w3k:List ByteArray) (w3v:List Bool)=>NR p1∧OrOk w1k w1v c0_3) (TNote.mk x.1 x.2.1 x.2.2.1 x.2.2.2.1) x.2.2.2.2.1 x.2.2.2.2.2.1 x.2.2.2.2.2.2.1 x.2.2.2.2.2.2.2.1 x.2.2.2.2.2.2.2.2.1 x.2.2.2.2.2.2.2.2.2.1 x.2.2.2.2.2.2.2.2.2.2.1 x.2.2.2.2.2.2.2.2.2.2.2.1 x.2.2.2.2.2.2.2.2.2.2.2.2.1 x.2.2.2.2.2.2.2.2.2.2.2.2.2.1) fun x=>((fun(p1:TNote) (c0_0:Bool) (c0_1:Int) (c0_2:Int) (c0_3:List TQuestion) (w1k:List ByteArray) (w1v:List Int) (w2k:List ByteArray) (w2v:List (List Int)) (w3k:List ByteArray) (w3v:List Bool)=>(((commP (pk c0_0 c0_3 w1k w1v) p1).getD 0):Int)) (TNote.mk x.1 x.2.1 x.2.2.1 x.2.2.2.1) x.2.2.2.2.1 x.2.2.2.2.2.1 x.2.2.2.2.2.2.1 x.2.2.2.2.2.2.2.1 x.2.2.2.2.2.2.2.2.1 x.2.2.2.2.2.2.2.2.2.1 x.2.2.2.2.2.2.2.2.2.2.1 x.2.2.2.2.2.2.2.2.2.2.2.1 x.2.2.2.2.2.2.2.2.2.2.2.2.1 x.2.2.2.2.2.2.2.2.2.2.2.2.2.1,(fun(p1:TNote) (c0_0:Bool) (c0_1:Int) (c0_2:Int) (c0_3:List TQuestion) (w1k:List ByteArray) (w1v:List Int) (w2k:List ByteArray) (w2v:List (List Int)) (w3k:List ByteArray) (w3v:List Bool)=>(((commP (pk c0_0 c0_3 w1k w1v) p1).isSome):Bool)) (TNote.mk x.1 x.2.1 x.2.2.1 x.2.2.2.1) x.2.2.2.2.1 x.2.2.2.2.2.1 x.2.2.2.2.2.2.1 x.2.2.2.2.2.2.2.1 x.2.2.2.2.2.2.2.2.1 x.2.2.2.2.2.2.2.2.2.1 x.2.2.2.2.2.2.2.2.2.2.1 x.2.2.2.2.2.2.2.2.2.2.2.1 x.2.2.2.2.2.2.2.2.2.2.2.2.1 x.2.2.2.2.2.2.2.2.2.2.2.2.2.1,(fun(p1:TNote) (c0_0:Bool) (c0_1:Int) (c0_2:Int) (c0_3:List TQuestion) (w1k:List ByteArray) (w1v:List Int) (w2k:List ByteArray) (w2v:List (List Int)) (w3k:List ByteArray) (w3v:List Bool)=>(c0_0:Bool)) (TNote.mk x.1 x.2.1 x.2.2.1 x.2.2.2.1) x.2.2.2.2.1 x.2.2.2.2.2.1 x.2.2.2.2.2.2.1 x.2.2.2.2.2.2.2.1 x.2.2.2.2.2.2.2.2.1 x.2.2.2.2.2.2.2.2.2.1 x.2.2.2.2.2.2.2.2.2.2.1 x.2.2.2.2.2.2.2.2.2.2.2.1 x.2.2.2.2.2.2.2.2.2.2.2.2.1 x.2.2.2.2.2.2.2.2.2.2.2.2.2.1,(fun(p1:TNote) (c0_0:Bool) (c0_1:Int) (c0_2:Int) (c0_3:List TQuestion) (w1k:List ByteArray) (w1v:List Int) (w2k:List ByteArray) (w2v:List (List Int)) (w3k:List ByteArray) (w3v:List Bool)=>(c0_1:Int)) (TNote.mk x.1 x.2.1 x.2.2.1 x.2.2.2.1) x.2.2.2.2.1 x.2.2.2.2.2.1 x.2.2.2.2.2.2.1 x.2.2.2.2.2.2.2.1 x.2.2.2.2.2.2.2.2.1 x.2.2.2.2.2.2.2.2.2.1 x.2.2.2.2.2.2.2.2.2.2.1 x.2.2.2.2.2.2.2.2.2.2.2.1 x.2.2.2.2.2.2.2.2.2.2.2.2.1 x.2.2.2.2.2.2.2.2.2.2.2.2.2.1,(fun(p1:TNote) (c0_0:Bool) (c0_1:Int) (c0_2:Int) (c0_3:List TQuestion) (w1k:List ByteArray) (w1v:List Int) (w2k:List ByteArray) (w2v:List (List Int)) (w3k:List ByteArray) (w3v:List Bool)=>(c0_2:Int)) (TNote.mk x.1 x.2.1 x.2.2.1 x.2.2.2.1) x.2.2.2.2.1 x.2.2.2.2.2.1 x.2.2.2.2.2.2.1 x.2.2.2.2.2.2.2.1 x.2.2.2.2.2.2.2.2.1 x.2.2.2.2.2.2.2.2.2.1 x.2.2.2.2.2.2.2.2.2.2.1 x.2.2.2.2.2.2.2.2.2.2.2.1 x.2.2.2.2.2.2.2.2.2.2.2.2.1 x.2.2.2.2.2.2.2.2.2.2.2.2.2.1,(fun(p1:TNote) (c0_0:Bool) (c0_1:Int) (c0_2:Int) (c0_3:List TQuestion) (w1k:List ByteArray) (w1v:List Int) (w2k:List ByteArray) (w2v:List (List Int)) (w3k:List ByteArray) (w3v:List Bool)=>(c0_3:List TQuestion)) (TNote.mk x.1 x.2.1 x.2.2.1 x.2.2.2.1) x.2.2.2.2.1 x.2.2.2.2.2.1 x.2.2.2.2.2.2.1 x.2.2.2.2.2.2.2.1 x.2.2.2.2.2.2.2.2.1 x.2.2.2.2.2.2.2.2.2.1 x.2.2.2.2.2.2.2.2.2.2.1 x.2.2.2.2.2.2.2.2.2.2.2.1 x.2.2.2.2.2.2.2.2.2.2.2.2.1 x.2.2.2.2.2.2.2.2.2.2.2.2.2.1,(fun(p1:TNote) (c0_0:Bool) (c0_1:Int) (c0_2:Int) (c0_3:List TQuestion) (w1k:List ByteArray) (w1v:List Int) (w2k:List ByteArray) (w2v:List (List Int)) (w3k:List ByteArray) (w3v:List Bool)=>(w1k:List ByteArray)) (TNote.mk x.1 x.2.1 x.2.2.1 x.2.2.2.1) x.2.2.2.2.1 x.2.2.2.2.2.1 x.2.2.2.2.2.2.1 x.2.2.2.2.2.2.2.1 x.2.2.2.2.2.2.2.2.1 x.2.2.2.2.2.2.2.2.2.1 x.2.2.2.2.2.2.2.2.2.2.1 x.2.2.2.2.2.2.2.2.2.2.2.1 x.2.2.2.2.2.2.2.2.2.2.2.2.1 x.2.2.2.2.2.2.2.2.2.2.2.2.2.1,(fun(p1:TNote) (c0_0:Bool) (c0_1:Int) (c0_2:Int) (c0_3:List TQuestion) (w1k:List ByteArray) (w1v:List Int) (w2k:List ByteArray) (w2v:List (List Int)) (w3k:List ByteArray) (w3v:List Bool)=>(w1v:List Int)) (TNote.mk x.1 x.2.1 x.2.2.1 x.2.2.2.1) x.2.2.2.2.1 x.2.2.2.2.2.1 x.2.2.2.2.2.2.1 x.2.2.2.2.2.2.2.1 x.2.2.2.2.2.2.2.2.1 x.2.2.2.2.2.2.2.2.2.1 x.2.2.2.2.2.2.2.2.2.2.1 x.2.2.2.2.2.2.2.2.2.2.2.1 x.2.2.2.2.2.2.2.2.2.2.2.2.1 x.2.2.2.2.2.2.2.2.2.2.2.2.2.1,(fun(p1:TNote) (c0_0:Bool) (c0_1:Int) (c0_2:Int) (c0_3:List TQuestion) (w1k:List ByteArray) (w1v:List Int) (w2k:List ByteArray) (w2v:List (List Int)) (w3k:List ByteArray) (w3v:List Bool)=>(w2k:List ByteArray)) (TNote.mk x.1 x.2.1 x.2.2.1 x.2.2.2.1) x.2.2.2.2.1 x.2.2.2.2.2.1 x.2.2.2.2.2.2.1 x.2.2.2.2.2.2.2.1 x.2.2.2.2.2.2.2.2.1 x.2.2.2.2.2.2.2.2.2.1 x.2.2.2.2.2.2.2.2.2.2.1 x.2.2.2.2.2.2.2.2.2.2.2.1 x.2.2.2.2.2.2.2.2.2.2.2.2.1 x.2.2.2.2.2.2.2.2.2.2.2.2.2.1,(fun(p1:TNote) (c0_0:Bool) (c0_1:Int) (c0_2:Int) (c0_3:List TQuestion) (w1k:List ByteArray) (w1v:List Int) (w2k:List ByteArray) (w2v:List (List Int)) (w3k:List ByteArray) (w3v:List Bool)=>(w2v:List (List Int))) (TNote.mk x.1 x.2.1 x.2.2.1 x.2.2.2.1) x.2.2.2.2.1 x.2.2.2.2.2.1 x.2.2.2.2.2.2.1 x.2.2.2.2.2.2.2.1 x.2.2.2.2.2.2.2.2.1 x.2.2.2.2.2.2.2.2.2.1 x.2.2.2.2.2.2.2.2.2.2.1 x.2.2.2.2.2.2.2.2.2.2.2.1 x.2.2.2.2.2.2.2.2.2.2.2.2.1 x.2.2.2.2.2.2.2.2.2.2.2.2.2.1,(fun(p1:TNote) (c0_0:Bool) (c0_1:Int) (c0_2:Int) (c0_3:List TQuestion) (w1k:List ByteArray) (w1v:List Int) (w2k:List ByteArray) (w2v:List (List Int)) (w3k:List ByteArray) (w3v:List Bool)=>(w3k:List ByteArray)) (TNote.mk x.1 x.2.1 x.2.2.1 x.2.2.2.1) x.2.2.2.2.1 x.2.2.2.2.2.1 x.2.2.2.2.2.2.1 x.2.2.2.2.2.2.2.1 x.2.2.2.2.2.2.2.2.1 x.2.2.2.2.2.2.2.2.2.1 x.2.2.2.2.2.2.2.2.2.2.1 x.2.2.2.2.2.2.2.2.2.2.2.1 x.2.2.2.2.2.2.2.2.2.2.2.2.1 x.2.2.2.2.2.2.2.2.2.2.2.2.2.1,(fun(p1:TNote) (c0_0:Bool) (c0_1:Int) (c0_2:Int) (c0_3:List TQuestion) (w1k:List ByteArray) (w1v:List Int) (w2k:List ByteArray) (w2v:List (List Int)) (w3k:List ByteArray) (w3v:List Bool)=>(w3v:List Bool)) (TNote.mk x.1 x.2.1 x.2.2.1 x.2.2.2.1) x.2.2.2.2.1 x.2.2.2.2.2.1 x.2.2.2.2.2.2.1 x.2.2.2.2.2.2.2.1 x.2.2.2.2.2.2.2.2.1 x.2.2.2.2.2.2.2.2.2.1 x.2.2.2.2.2.2.2.2.2.2.1 x.2.2.2.2.2.2.2.2.2.2.2.1 x.2.2.2.2.2.2.2.2.2.2.2.2.1 x.2.2.2.2.2.2.2.2.2.2.2.2.2.1,())
theorem kod:ke8.Ok Try.prog TB:=Con.ok_fn k1s bd34 fun x h=>k10a (kyc (TNote.mk x.1 x.2.1 x.2.2.1 x.2.2.2.1) x.2.2.2.2.1 x.2.2.2.2.2.1 x.2.2.2.2.2.2.1 x.2.2.2.2.2.2.2.1 x.2.2.2.2.2.2.2.2.1 x.2.2.2.2.2.2.2.2.2.1 x.2.2.2.2.2.2.2.2.2.2.1 x.2.2.2.2.2.2.2.2.2.2.2.1 x.2.2.2.2.2.2.2.2.2.2.2.2.1 x.2.2.2.2.2.2.2.2.2.2.2.2.2.1 h)
def k1e:Con TB.den:=Con.mk0 10 [.agg [.d (.sl (.st 0)),.d (.sl (.st 1)),.d (.int .u64)]] [] (.one (.one (.d (.int .u64)))) []
abbrev kpx:=HL TB.den (hsT k1e.ins (hsOs k1e.pre))
abbrev k35:=HL TB.den (hsV k1e.res (hsOs k1e.post))
noncomputable def k3s:Cx TB:=⟨inf,[],[],4,[]⟩
noncomputable def k6u:Code:=Try.f10.body.getD .skip
noncomputable def kal:List ResultVar:=Try.f10.results.toList
def k12z (o:k35):=qS TB k3s 20 0 (cB (cB (cB k6u))) .no (retTQ TB k3s k1e kal o)
def k4t:Tm:=⟨[],[],[3,7,8,9],[.one (.d (.int .u64)),.one (.d (.sl (.st 0))),.one (.d (.int .i64)),.one (.d (.int .i64))],1⟩
def k13y (o:k35) (nx1:NX TB k4t):=qM TB 0 k4t nx1 (blockT TB 0 (k12z o))
def k81 (o:k35) (nx1:NX TB k4t) (i:HL TB.den k4t.hs):Prop:=WP TB k3s 20 0 (cA (cA (cB (cA (cB (cB k6u)))))) .no (k4t.fill TB i) (k13y o nx1)
noncomputable def k14j (o:k35):An TB:= .lp [] k4t (k81 o) fun nx1=> .no
noncomputable def k12v (o:k35):An TB:= .nd [] .no [] (.nd [] (.nd [] .no [] (k14j o)) [] .no)
noncomputable def ko6 (o:k35):An TB:= .nd [] .no [] (k12v o)
def kd1 (x:kpx) (o:k35):Prop:=WPh TB k3s 20 0 k6u (ko6 o) (k1e.st TB x) (retTQ TB k3s k1e kal o)
theorem k118 (o:k35):OblH TB k3s 20 0 k6u (ko6 o) (retTQ TB k3s k1e kal o):=
 OblH.ofC (X:=((∀nx i,(k81 o) nx i=(k81 o) nx i)∧(∀nx1:NX TB k4t,True)∧True)) (by kernel_rfl) ⟨fun _ _=>rfl,fun _=>trivial,trivial⟩
theorem k10w {x:kpx} {o:k35} (h:kd1 x o):k1e.Snd Try.prog x o:=
 Con.soundH (c:=k1e) (C:=k3s) TBok ⟨inf_ok,all_nil,all_nil⟩ mix Try.func10 (show Try.f10.body=some k6u by kernel_rfl) (show Try.f10.ntmps=20 by kernel_rfl) (show Try.f10.results.toList=kal by kernel_rfl) rfl h (k118 o)
theorem k13b {p0:TWitness} {r0:Int} (h:
(Md.Loop ((0:Int),p0.Ins,((p0.Ins.length:Int):Int),(0:Int),()) (k81 (r0,())))):kd1 (p0.Ins,p0.Outs,p0.Secret,()) (r0,()):=WPh.of_eq (by kernel_rfl) h
def ko8 (r0:Int) (k1:Int→Int→Prop) (s7:List TSpent) (s8:Int) (s3:Int) (s9:Int):Prop:=
(decide (s9<s8)=true→
(0≤s9)∧s9<(s7.length:Int)∧let v1:Int:=IntKind.u64.wrap (s3+((ix s7 s9).Note_Value))
 k1 v1 (IntKind.i64.wrap (s9+1):Int))∧
(decide (s9<s8)=false→
 s3=r0)
theorem k10o {r0:Int} {s7:List TSpent} {s8:Int} {s3:Int} {s9:Int} (inv:Int→Int→Prop) (μ:Int→Int→Nat) (h0:inv s3 s9) (hs:∀(s3:Int) (s9:Int),inv s3 s9→ko8 r0 (fun s3q s9q=>inv s3q s9q∧μ s3q s9q<μ s3 s9) s7 s8 s3 s9):Md.Loop (s3,s7,s8,s9,()) (k81 (r0,())):=
 ⟨⟨fun s:Int×(List TSpent)×Int×Int×Unit=>(s.2.1=s7∧s.2.2.1=s8)∧inv s.1 s.2.2.2.1,fun s:Int×(List TSpent)×Int×Int×Unit=>μ s.1 s.2.2.2.1,⟨⟨rfl,rfl⟩,h0⟩,fun(s3p,s7p,s8p,s9p,()) ⟨⟨eq0,eq1⟩,hi⟩=>by
  have eq0:s7p=s7:=eq0;subst s7p;have eq1:s8p=s8:=eq1;subst s8p;exact mpr_of (by kernel_rfl) ((congrArg (fun k=>ko8 r0 k s7 s8 s3p s9p) (lpk2 (⟨rfl,rfl⟩:s7=s7∧s8=s8) inv (fun s3q s9q=>μ s3q s9q<μ s3p s9p))).mpr (hs s3p s9p hi))⟩⟩
theorem bd10:Callable Try.prog 10:=⟨by rw[Try.func10];kernel_rfl,by rw[Try.func10];show some _≠some _;decide⟩
theorem kxn (p0:TWitness) (h:p0.Ins.length≤9223372036854775807):kd1 (p0.Ins,p0.Outs,p0.Secret,()) (((inS p0.Ins):Int),()):=by
 refine k13b (k10o (fun s i=>FoldI (fun s x=>(s+x.Note_Value)%18446744073709551616) 0 p0.Ins i s) (fun s i=>(p0.Ins.length-i).toNat) FoldI.start ?_)
 intro s i hi
 refine⟨fun hh=> ?_,fun hh=>hi.done (of_decide_eq_false hh)⟩
 have hh:=of_decide_eq_true hh
 exact⟨hi.1,hh,hi.next hh (by omega) (by rw[u64w])⟩
noncomputable def ke3:Con TB.den:=k1e.fnR (fun x=>(fun(p0:TWitness)=>p0.Ins.length≤9223372036854775807) (TWitness.mk x.1 x.2.1 x.2.2.1)) fun x=>((fun(p0:TWitness)=>((inS p0.Ins):Int)) (TWitness.mk x.1 x.2.1 x.2.2.1),())
theorem kny:ke3.Ok Try.prog TB:=Con.ok_fn k1e bd10 fun x h=>k10w (kxn (TWitness.mk x.1 x.2.1 x.2.2.1) h)
def k15:Con TB.den:=Con.mk0 12 [.agg [.d (.sl (.st 0)),.d (.sl (.st 1)),.d (.int .u64)]] [] (.one (.one (.d (.int .u64)))) []
abbrev ko2:=HL TB.den (hsT k15.ins (hsOs k15.pre))
abbrev k2q:=HL TB.den (hsV k15.res (hsOs k15.post))
noncomputable def k31:Cx TB:=⟨inf,[],[],4,[]⟩
noncomputable def k6j:Code:=Try.f12.body.getD .skip
noncomputable def ka4:List ResultVar:=Try.f12.results.toList
def k10j (o:k2q):=qS TB k31 19 0 (cB (cB (cB k6j))) .no (retTQ TB k31 k15 ka4 o)
def k4o:Tm:=⟨[],[],[3,7,8,9],[.one (.d (.int .u64)),.one (.d (.sl (.st 1))),.one (.d (.int .i64)),.one (.d (.int .i64))],1⟩
def k11b (o:k2q) (nx1:NX TB k4o):=qM TB 0 k4o nx1 (blockT TB 0 (k10j o))
def k7b (o:k2q) (nx1:NX TB k4o) (i:HL TB.den k4o.hs):Prop:=WP TB k31 19 0 (cA (cA (cB (cA (cB (cB k6j)))))) .no (k4o.fill TB i) (k11b o nx1)
noncomputable def k10m (o:k2q):An TB:= .lp [] k4o (k7b o) fun nx1=> .no
noncomputable def k10p (o:k2q):An TB:= .nd [] .no [] (.nd [] (.nd [] .no [] (k10m o)) [] .no)
noncomputable def klo (o:k2q):An TB:= .nd [] .no [] (k10p o)
def kc9 (x:ko2) (o:k2q):Prop:=WPh TB k31 19 0 k6j (klo o) (k15.st TB x) (retTQ TB k31 k15 ka4 o)
theorem kx3 (o:k2q):OblH TB k31 19 0 k6j (klo o) (retTQ TB k31 k15 ka4 o):=
 OblH.ofC (X:=((∀nx i,(k7b o) nx i=(k7b o) nx i)∧(∀nx1:NX TB k4o,True)∧True)) (by kernel_rfl) ⟨fun _ _=>rfl,fun _=>trivial,trivial⟩
theorem kyh {x:ko2} {o:k2q} (h:kc9 x o):k15.Snd Try.prog x o:=
 Con.soundH (c:=k15) (C:=k31) TBok ⟨inf_ok,all_nil,all_nil⟩ mix Try.func12 (show Try.f12.body=some k6j by kernel_rfl) (show Try.f12.ntmps=19 by kernel_rfl) (show Try.f12.results.toList=ka4 by kernel_rfl) rfl h (kx3 o)
theorem k11a {p0:TWitness} {r0:Int} (h:
(Md.Loop ((0:Int),p0.Outs,((p0.Outs.length:Int):Int),(0:Int),()) (k7b (r0,())))):kc9 (p0.Ins,p0.Outs,p0.Secret,()) (r0,()):=WPh.of_eq (by kernel_rfl) h
def klf (r0:Int) (k1:Int→Int→Prop) (s7:List TNote) (s8:Int) (s3:Int) (s9:Int):Prop:=
(decide (s9<s8)=true→
(0≤s9)∧s9<(s7.length:Int)∧let v1:Int:=IntKind.u64.wrap (s3+((ix s7 s9).Value))
 k1 v1 (IntKind.i64.wrap (s9+1):Int))∧
(decide (s9<s8)=false→
 s3=r0)
theorem kxl {r0:Int} {s7:List TNote} {s8:Int} {s3:Int} {s9:Int} (inv:Int→Int→Prop) (μ:Int→Int→Nat) (h0:inv s3 s9) (hs:∀(s3:Int) (s9:Int),inv s3 s9→klf r0 (fun s3q s9q=>inv s3q s9q∧μ s3q s9q<μ s3 s9) s7 s8 s3 s9):Md.Loop (s3,s7,s8,s9,()) (k7b (r0,())):=
 ⟨⟨fun s:Int×(List TNote)×Int×Int×Unit=>(s.2.1=s7∧s.2.2.1=s8)∧inv s.1 s.2.2.2.1,fun s:Int×(List TNote)×Int×Int×Unit=>μ s.1 s.2.2.2.1,⟨⟨rfl,rfl⟩,h0⟩,fun(s3p,s7p,s8p,s9p,()) ⟨⟨eq0,eq1⟩,hi⟩=>by
  have eq0:s7p=s7:=eq0;subst s7p;have eq1:s8p=s8:=eq1;subst s8p;exact mpr_of (by kernel_rfl) ((congrArg (fun k=>klf r0 k s7 s8 s3p s9p) (lpk2 (⟨rfl,rfl⟩:s7=s7∧s8=s8) inv (fun s3q s9q=>μ s3q s9q<μ s3p s9p))).mpr (hs s3p s9p hi))⟩⟩
theorem bd12:Callable Try.prog 12:=⟨by rw[Try.func12];kernel_rfl,by rw[Try.func12];show some _≠some _;decide⟩
theorem kw2 (p0:TWitness) (h:p0.Outs.length≤9223372036854775807):kc9 (p0.Ins,p0.Outs,p0.Secret,()) (((outS p0.Outs):Int),()):=by
 refine k11a (kxl (fun s i=>FoldI (fun s x=>(s+x.Value)%18446744073709551616) 0 p0.Outs i s) (fun s i=>(p0.Outs.length-i).toNat) FoldI.start ?_)
 intro s i hi
 refine⟨fun hh=> ?_,fun hh=>hi.done (of_decide_eq_false hh)⟩
 have hh:=of_decide_eq_true hh
 exact⟨hi.1,hh,hi.next hh (by omega) (by rw[u64w])⟩
noncomputable def kcs:Con TB.den:=k15.fnR (fun x=>(fun(p0:TWitness)=>p0.Outs.length≤9223372036854775807) (TWitness.mk x.1 x.2.1 x.2.2.1)) fun x=>((fun(p0:TWitness)=>((outS p0.Outs):Int)) (TWitness.mk x.1 x.2.1 x.2.2.1),())
theorem klh:kcs.Ok Try.prog TB:=Con.ok_fn k15 bd12 fun x h=>kyh (kw2 (TWitness.mk x.1 x.2.1 x.2.2.1) h)
def kx:Con TB.den:=Con.mk0 68 [.one (.d (.sl (.int .u64)))] [] (.one (.one (.d (.bool)))) []
abbrev kln:=HL TB.den (hsT kx.ins (hsOs kx.pre))
abbrev k34:=HL TB.den (hsV kx.res (hsOs kx.post))
noncomputable def k2r:Cx TB:=⟨inf,[],[],4,[]⟩
noncomputable def k66:Code:=Try.f68.body.getD .skip
noncomputable def k93:List ResultVar:=Try.f68.results.toList
def kxd (o:k34):=qS TB k2r 14 0 (cB (cB k66)) .no (retTQ TB k2r kx k93 o)
def k3v:Tm:=⟨[],[],[5,6,7],[.one (.d (.sl (.int .u64))),.one (.d (.int .i64)),.one (.d (.int .i64))],0⟩
def kxc (o:k34) (nx1:NX TB k3v):=qM TB 0 k3v nx1 (blockT TB 0 (kxd o))
def k71 (o:k34) (nx1:NX TB k3v) (i:HL TB.den k3v.hs):Prop:=WP TB k2r 14 0 (cA (cA (cB (cA (cB k66))))) .no (k3v.fill TB i) (kxc o nx1)
noncomputable def ky4 (o:k34):An TB:= .lp [] k3v (k71 o) fun nx1=> .no
noncomputable def kkp (o:k34):An TB:= .nd [] .no [] (.nd [] (.nd [] .no [] (ky4 o)) [] .no)
def kb0 (x:kln) (o:k34):Prop:=WPh TB k2r 14 0 k66 (kkp o) (kx.st TB x) (retTQ TB k2r kx k93 o)
theorem kvt (o:k34):OblH TB k2r 14 0 k66 (kkp o) (retTQ TB k2r kx k93 o):=
 OblH.ofC (X:=((∀nx i,(k71 o) nx i=(k71 o) nx i)∧(∀nx1:NX TB k3v,True)∧True)) (by kernel_rfl) ⟨fun _ _=>rfl,fun _=>trivial,trivial⟩
theorem kv6 {x:kln} {o:k34} (h:kb0 x o):kx.Snd Try.prog x o:=
 Con.soundH (c:=kx) (C:=k2r) TBok ⟨inf_ok,all_nil,all_nil⟩ mix Try.func68 (show Try.f68.body=some k66 by kernel_rfl) (show Try.f68.ntmps=14 by kernel_rfl) (show Try.f68.results.toList=k93 by kernel_rfl) rfl h (kvt o)
theorem ky1 {p0:List Int} {r0:Bool} (h:
(Md.Loop (p0,((p0.length:Int):Int),(0:Int),()) (k71 (r0,())))):kb0 (p0,()) (r0,()):=WPh.of_eq (by kernel_rfl) h
def kjw (r0:Bool) (k1:Int→Prop) (s5:List Int) (s6:Int) (s7:Int):Prop:=
(decide (s7<s6)=true→
(0≤s7)∧s7<(s5.length:Int)∧let v1:Bool:=decide (18446744069414584321≤(ix s5 s7))
(v1=true→
 false=r0)∧
(v1=false→
 k1 (IntKind.i64.wrap (s7+1):Int)))∧
(decide (s7<s6)=false→
 true=r0)
theorem kvj {r0:Bool} {s5:List Int} {s6:Int} {s7:Int} (inv:Int→Prop) (μ:Int→Nat) (h0:inv s7) (hs:∀(s7:Int),inv s7→kjw r0 (fun s7q=>inv s7q∧μ s7q<μ s7) s5 s6 s7):Md.Loop (s5,s6,s7,()) (k71 (r0,())):=
 ⟨⟨fun s:(List Int)×Int×Int×Unit=>(s.1=s5∧s.2.1=s6)∧inv s.2.2.1,fun s:(List Int)×Int×Int×Unit=>μ s.2.2.1,⟨⟨rfl,rfl⟩,h0⟩,fun(s5p,s6p,s7p,()) ⟨⟨eq0,eq1⟩,hi⟩=>by
  have eq0:s5p=s5:=eq0;subst s5p;have eq1:s6p=s6:=eq1;subst s6p;exact mpr_of (by kernel_rfl) ((congrArg (fun k=>kjw r0 k s5 s6 s7p) (lpk1 (⟨rfl,rfl⟩:s5=s5∧s6=s6) inv (fun s7q=>μ s7q<μ s7p))).mpr (hs s7p hi))⟩⟩
theorem bd68:Callable Try.prog 68:=⟨by rw[Try.func68];kernel_rfl,by rw[Try.func68];show some _≠some _;decide⟩
theorem kut (p0:List Int) (h:p0.length≤9223372036854775807):kb0 (p0,()) (((allB p0):Bool),()):=by
 refine ky1 (kvj (AllI (fun x=>decide (x<18446744069414584321)) p0) (fun i=>(p0.length-i).toNat) AllI.start ?_)
 intro i hi
 refine⟨fun hh=> ?_,fun hh=>(hi.done (of_decide_eq_false hh)).symm⟩
 have hh:=of_decide_eq_true hh
 exact⟨hi.1,hh,fun e=>(hi.bad hh (by simpa using e)).symm,fun e=>hi.next hh (by omega) (by simpa using e)⟩
noncomputable def k8b:Con TB.den:=kx.fnR (fun x=>(fun(p0:List Int)=>p0.length≤9223372036854775807) x.1) fun x=>((fun(p0:List Int)=>((allB p0):Bool)) x.1,())
theorem kcv:k8b.Ok Try.prog TB:=Con.ok_fn kx bd68 fun x h=>kv6 (kut x.1 h)
def k1k:Con TB.den:=Con.mk0 70 [.one (.d (.sl (.st 1)))] [] (.one (.one (.d (.bool)))) []
abbrev krh:=HL TB.den (hsT k1k.ins (hsOs k1k.pre))
abbrev k4v:=HL TB.den (hsV k1k.res (hsOs k1k.post))
noncomputable def k4k:Cx TB:=⟨inf,[kga],[],4,[]⟩
noncomputable def k79:Code:=Try.f70.body.getD .skip
noncomputable def kbg:List ResultVar:=Try.f70.results.toList
def k167 (o:k4v):=qS TB k4k 15 0 (cB (cB k79)) .no (retTQ TB k4k k1k kbg o)
def k5q:Tm:=⟨[],[],[5,6,7],[.one (.d (.sl (.st 1))),.one (.d (.int .i64)),.one (.d (.int .i64))],0⟩
def k15u (o:k4v) (nx1:NX TB k5q):=qM TB 0 k5q nx1 (blockT TB 0 (k167 o))
def k8v (o:k4v) (nx1:NX TB k5q) (i:HL TB.den k5q.hs):Prop:=WP TB k4k 15 0 (cA (cA (cB (cA (cB k79))))) .no (k5q.fill TB i) (k15u o nx1)
noncomputable def k161 (o:k4v):An TB:= .lp [] k5q (k8v o) fun nx1=> .no
noncomputable def kq5 (o:k4v):An TB:= .nd [] .no [] (.nd [] (.nd [] .no [] (k161 o)) [] .no)
def ke5 (x:krh) (o:k4v):Prop:=WPh TB k4k 15 0 k79 (kq5 o) (k1k.st TB x) (retTQ TB k4k k1k kbg o)
theorem k14q (o:k4v):OblH TB k4k 15 0 k79 (kq5 o) (retTQ TB k4k k1k kbg o):=
 OblH.ofC (X:=((∀nx i,(k8v o) nx i=(k8v o) nx i)∧(∀nx1:NX TB k5q,True)∧True)) (by kernel_rfl) ⟨fun _ _=>rfl,fun _=>trivial,trivial⟩
theorem k13j {x:krh} {o:k4v} (h:ke5 x o):k1k.Snd Try.prog x o:=
 Con.soundH (c:=k1k) (C:=k4k) TBok ⟨inf_ok,(all_cons kot all_nil),all_nil⟩ mix Try.func70 (show Try.f70.body=some k79 by kernel_rfl) (show Try.f70.ntmps=15 by kernel_rfl) (show Try.f70.results.toList=kbg by kernel_rfl) rfl h (k14q o)
theorem k15r {p0:List TNote} {r0:Bool} (h:
(Md.Loop (p0,((p0.length:Int):Int),(0:Int),()) (k8v (r0,())))):ke5 (p0,()) (r0,()):=WPh.of_eq (by kernel_rfl) h
def kpf (r0:Bool) (k1:Int→Prop) (s5:List TNote) (s6:Int) (s7:Int):Prop:=
(decide (s7<s6)=true→
(0≤s7)∧s7<(s5.length:Int)∧((!(noteV (ix s5 s7)))=true→
 false=r0)∧
((!(noteV (ix s5 s7)))=false→
 k1 (IntKind.i64.wrap (s7+1):Int)))∧
(decide (s7<s6)=false→
 true=r0)
theorem k133 {r0:Bool} {s5:List TNote} {s6:Int} {s7:Int} (inv:Int→Prop) (μ:Int→Nat) (h0:inv s7) (hs:∀(s7:Int),inv s7→kpf r0 (fun s7q=>inv s7q∧μ s7q<μ s7) s5 s6 s7):Md.Loop (s5,s6,s7,()) (k8v (r0,())):=
 ⟨⟨fun s:(List TNote)×Int×Int×Unit=>(s.1=s5∧s.2.1=s6)∧inv s.2.2.1,fun s:(List TNote)×Int×Int×Unit=>μ s.2.2.1,⟨⟨rfl,rfl⟩,h0⟩,fun(s5p,s6p,s7p,()) ⟨⟨eq0,eq1⟩,hi⟩=>by
  have eq0:s5p=s5:=eq0;subst s5p;have eq1:s6p=s6:=eq1;subst s6p;exact mpr_of (by kernel_rfl) ((congrArg (fun k=>kpf r0 k s5 s6 s7p) (lpk1 (⟨rfl,rfl⟩:s5=s5∧s6=s6) inv (fun s7q=>μ s7q<μ s7p))).mpr (hs s7p hi))⟩⟩
theorem bd70:Callable Try.prog 70:=⟨by rw[Try.func70];kernel_rfl,by rw[Try.func70];show some _≠some _;decide⟩
theorem k10g (p0:List TNote) (h:p0.length≤9223372036854775807):ke5 (p0,()) (((p0.all noteV):Bool),()):=by
 refine k15r (k133 (AllI noteV p0) (fun i=>(p0.length-i).toNat) AllI.start ?_)
 intro i hi
 refine⟨fun hh=> ?_,fun hh=>(hi.done (of_decide_eq_false hh)).symm⟩
 have hh:=of_decide_eq_true hh
 exact⟨hi.1,hh,fun e=>(hi.bad hh (by simpa using e)).symm,fun e=>hi.next hh (by omega) (by simpa using e)⟩
noncomputable def kfl:Con TB.den:=k1k.fnR (fun x=>(fun(p0:List TNote)=>p0.length≤9223372036854775807) x.1) fun x=>((fun(p0:List TNote)=>((p0.all noteV):Bool)) x.1,())
theorem kps:kfl.Ok Try.prog TB:=Con.ok_fn k1k bd70 fun x h=>k13j (k10g x.1 h)
def k13:Con TB.den:=Con.mk0 69 [.agg [.d (.int .u64),.d (.int .u64),.d (.int .u64),.d (.int .u64),.d (.int .u64),.d (.int .i64),.d (.int .i64),.d (.sl (.int .u64)),.d (.bool)]] [] (.one (.one (.d (.bool)))) []
abbrev kk5:=HL TB.den (hsT k13.ins (hsOs k13.pre))
abbrev k95:=HL TB.den (hsV k13.res (hsOs k13.post))
noncomputable def k6m:Cx TB:=⟨inf,[kga,k8b],[],4,[]⟩
noncomputable def ka9:Code:=Try.f69.body.getD .skip
noncomputable def kbp:List ResultVar:=Try.f69.results.toList
noncomputable def kjl (o:k95):An TB:= .no
def kaa (x:kk5) (o:k95):Prop:=WPh TB k6m 43 0 ka9 (kjl o) (k13.st TB x) (retTQ TB k6m k13 kbp o)
theorem ktz (o:k95):OblH TB k6m 43 0 ka9 (kjl o) (retTQ TB k6m k13 kbp o):=
 OblH.ofC (X:=True) (by kernel_rfl) trivial
theorem kuc {x:kk5} {o:k95} (h:kaa x o):k13.Snd Try.prog x o:=
 Con.soundH (c:=k13) (C:=k6m) TBok ⟨inf_ok,(all_cons kot (all_cons kcv all_nil)),all_nil⟩ mix Try.func69 (show Try.f69.body=some ka9 by kernel_rfl) (show Try.f69.ntmps=43 by kernel_rfl) (show Try.f69.results.toList=kbp by kernel_rfl) rfl h (ktz o)
theorem kvb {p0:TSpent} {r0:Bool} (h:
(let r1:Bool:=(noteV (TNote.mk p0.Note_Value p0.Note_Owner p0.Note_Rho p0.Note_Blind))
(r1=true→
([p0.Key].length≤9223372036854775807)∧((allB [p0.Key])=true→
(decide (0≤p0.Number)=true→
(decide (p0.Number<4)=true→
(decide (0≤p0.Position)=true→
(decide (p0.Position≤4095)=true→
(decide ((p0.Path.length:Int)≤12)=true→
(p0.Path.length≤9223372036854775807)∧(allB p0.Path)=r0)∧
(decide ((p0.Path.length:Int)≤12)=false→
 false=r0))∧
(decide (p0.Position≤4095)=false→
 false=r0))∧
(decide (0≤p0.Position)=false→
 false=r0))∧
(decide (p0.Number<4)=false→
 false=r0))∧
(decide (0≤p0.Number)=false→
 false=r0))∧
((allB [p0.Key])=false→
 false=r0))∧
(r1=false→
 false=r0))):kaa (p0.Note_Value,p0.Note_Owner,p0.Note_Rho,p0.Note_Blind,p0.Key,p0.Number,p0.Position,p0.Path,p0.Dummy,()) (r0,()):=WPh.of_eq (by kernel_rfl) h
theorem bd69:Callable Try.prog 69:=⟨by rw[Try.func69];kernel_rfl,by rw[Try.func69];show some _≠some _;decide⟩
theorem ksi (p0:TSpent) (h:p0.Path.length≤9223372036854775807):kaa (p0.Note_Value,p0.Note_Owner,p0.Note_Rho,p0.Note_Blind,p0.Key,p0.Number,p0.Position,p0.Path,p0.Dummy,()) (((spendV p0):Bool),()):=by
 have e1:allB [p0.Key]=decide (p0.Key<18446744069414584321):=by simp[allB]
 have e2:(decide ((p0.Path.length:Int)≤12))=decide (p0.Path.length≤12):=by congr 1;apply propext;omega
 refine kvb ?_
 simp only[e1,e2]
 unfold spendV noteOf
 have:[p0.Key].length≤9223372036854775807:=by simp
 grind
noncomputable def kb2:Con TB.den:=k13.fnR (fun x=>(fun(p0:TSpent)=>p0.Path.length≤9223372036854775807) (TSpent.mk x.1 x.2.1 x.2.2.1 x.2.2.2.1 x.2.2.2.2.1 x.2.2.2.2.2.1 x.2.2.2.2.2.2.1 x.2.2.2.2.2.2.2.1 x.2.2.2.2.2.2.2.2.1)) fun x=>((fun(p0:TSpent)=>((spendV p0):Bool)) (TSpent.mk x.1 x.2.1 x.2.2.1 x.2.2.2.1 x.2.2.2.2.1 x.2.2.2.2.2.1 x.2.2.2.2.2.2.1 x.2.2.2.2.2.2.2.1 x.2.2.2.2.2.2.2.2.1),())
theorem kjc:kb2.Ok Try.prog TB:=Con.ok_fn k13 bd69 fun x h=>kuc (ksi (TSpent.mk x.1 x.2.1 x.2.2.1 x.2.2.2.1 x.2.2.2.2.1 x.2.2.2.2.2.1 x.2.2.2.2.2.2.1 x.2.2.2.2.2.2.2.1 x.2.2.2.2.2.2.2.2.1) h)
def k1l:Con TB.den:=Con.mk0 31 [.agg [.d (.int .i64),.d (.int .u64),.d (.sl (.int .u64)),.d (.sl (.int .u64)),.d (.sl (.int .u64)),.d (.int .u64),.d (.int .u64),.d (.int .u64),.d (.int .u64),.d (.int .u64)],.agg [.d (.sl (.st 0)),.d (.sl (.st 1)),.d (.int .u64)]] [] (.one (.one (.d (.bool)))) []
abbrev krs:=HL TB.den (hsT k1l.ins (hsOs k1l.pre))
abbrev k2x:=HL TB.den (hsV k1l.res (hsOs k1l.post))
noncomputable def k4l:Cx TB:=⟨inf,[k8b,kb2,kfl],[],4,[]⟩
noncomputable def k78:Code:=Try.f31.body.getD .skip
noncomputable def kbe:List ResultVar:=Try.f31.results.toList
def k15t (o:k2x):=qS TB k4l 122 0 (cB (cB (cB (cB (cB (cB (cB k78))))))) .no (retTQ TB k4l k1l kbe o)
def k5o:Tm:=⟨[0,1],[.cells [.d (.int .i64),.d (.int .u64),.d (.sl (.int .u64)),.d (.sl (.int .u64)),.d (.sl (.int .u64)),.d (.int .u64),.d (.int .u64),.d (.int .u64),.d (.int .u64),.d (.int .u64)],.cells [.d (.sl (.st 0)),.d (.sl (.st 1)),.d (.int .u64)]],[2,3,93,94,95],[.one (.ptr 0 0),.one (.ptr 1 0),.one (.d (.sl (.st 0))),.one (.d (.int .i64)),.one (.d (.int .i64))],3⟩
def k153 (o:k2x) (nx1:NX TB k5o):=qM TB 0 k5o nx1 (blockT TB 0 (k15t o))
def k90 (o:k2x) (nx1:NX TB k5o) (i:HL TB.den k5o.hs):Prop:=WP TB k4l 122 0 (cA (cA (cB (cA (cB (cB (cB (cB (cB (cB k78)))))))))) .no (k5o.fill TB i) (k153 o nx1)
noncomputable def k15h (o:k2x):An TB:= .lp [] k5o (k90 o) fun nx1=> .no
noncomputable def k14z (o:k2x):An TB:= .nd [] .no [] (.nd [] (.nd [] .no [] (k15h o)) [] .no)
noncomputable def k13l (o:k2x):An TB:= .nd [] .no [] (.nd [] .no [] (.nd [] .no [] (k14z o)))
noncomputable def kpg (o:k2x):An TB:= .nd [] .no [] (.nd [] .no [] (k13l o))
def ke4 (x:krs) (o:k2x):Prop:=WPh TB k4l 122 0 k78 (kpg o) (k1l.st TB x) (retTQ TB k4l k1l kbe o)
theorem k12l (o:k2x):OblH TB k4l 122 0 k78 (kpg o) (retTQ TB k4l k1l kbe o):=
 OblH.ofC (X:=((∀nx i,(k90 o) nx i=(k90 o) nx i)∧(∀nx1:NX TB k5o,True)∧True)) (by kernel_rfl) ⟨fun _ _=>rfl,fun _=>trivial,trivial⟩
theorem k141 {x:krs} {o:k2x} (h:ke4 x o):k1l.Snd Try.prog x o:=
 Con.soundH (c:=k1l) (C:=k4l) TBok ⟨inf_ok,(all_cons kcv (all_cons kjc (all_cons kps all_nil))),all_nil⟩ mix Try.func31 (show Try.f31.body=some k78 by kernel_rfl) (show Try.f31.ntmps=122 by kernel_rfl) (show Try.f31.results.toList=kbe by kernel_rfl) rfl h (k12l o)
theorem k155 {p0:TStatement} {p1:TWitness} {r0:Bool} (h:
((decide (p0.Depth<1)=true→
 false=r0)∧
(decide (p0.Depth<1)=false→
(decide (12<p0.Depth)=true→
 false=r0)∧
(decide (12<p0.Depth)=false→
([p0.Anchor,p0.Account,p0.Bind,p1.Secret].length≤9223372036854775807)∧let r1:Bool:=(allB [p0.Anchor,p0.Account,p0.Bind,p1.Secret])
((!r1)=true→
 false=r0)∧
((!r1)=false→
(decide (4294967295<p0.Deposit)=true→
 false=r0)∧
(decide (4294967295<p0.Deposit)=false→
(decide (4294967295<p0.Withdraw)=true→
 false=r0)∧
(decide (4294967295<p0.Withdraw)=false→
(decide (4294967295<p0.Fee)=true→
 false=r0)∧
(decide (4294967295<p0.Fee)=false→
(p0.Marks.length≤9223372036854775807)∧((!(allB p0.Marks))=true→
 false=r0)∧
((!(allB p0.Marks))=false→
(p0.Commits.length≤9223372036854775807)∧((!(allB p0.Commits))=true→
 false=r0)∧
((!(allB p0.Commits))=false→
(p0.Rhos.length≤9223372036854775807)∧((!(allB p0.Rhos))=true→
 false=r0)∧
((!(allB p0.Rhos))=false→
 let v2:Bool:=((p1.Ins.length:Int) !=(p0.Marks.length:Int))
(v2=true→
 false=r0)∧
(v2=false→
(decide (4<(p1.Ins.length:Int))=true→
 false=r0)∧
(decide (4<(p1.Ins.length:Int))=false→
 let v3:Bool:=((p1.Outs.length:Int) !=(p0.Commits.length:Int))
(v3=true→
 false=r0)∧
(v3=false→
 let v4:Bool:=((p1.Outs.length:Int) !=(p0.Rhos.length:Int))
(v4=true→
 false=r0)∧
(v4=false→
(decide (4<(p1.Outs.length:Int))=true→
 false=r0)∧
(decide (4<(p1.Outs.length:Int))=false→
 Md.Loop (p1.Ins,((p1.Ins.length:Int):Int),(0:Int),p0.Depth,p0.Anchor,p0.Marks,p0.Commits,p0.Rhos,p0.Deposit,p0.Withdraw,p0.Fee,p0.Account,p0.Bind,p1.Ins,p1.Outs,p1.Secret,()) (k90 (r0,())))))))))))))))))):ke4 (p0.Depth,p0.Anchor,p0.Marks,p0.Commits,p0.Rhos,p0.Deposit,p0.Withdraw,p0.Fee,p0.Account,p0.Bind,p1.Ins,p1.Outs,p1.Secret,()) (r0,()):=WPh.of_eq (by kernel_rfl) h
def kpr (r0:Bool) (k1:Int→Prop) (s93:List TSpent) (s94:Int) (h0_0:Int) (h0_1:Int) (h0_2:List Int) (h0_3:List Int) (h0_4:List Int) (h0_5:Int) (h0_6:Int) (h0_7:Int) (h0_8:Int) (h0_9:Int) (h1_0:List TSpent) (h1_1:List TNote) (h1_2:Int) (s95:Int):Prop:=
(decide (s95<s94)=true→
(0≤s95)∧s95<(s93.length:Int)∧((ix s93 s95).Path.length≤9223372036854775807)∧((!(spendV (ix s93 s95)))=true→
 false=r0)∧
((!(spendV (ix s93 s95)))=false→
 let v5:Bool:=((((ix s93 s95).Path).length:Int) !=h0_0)
(v5=true→
 false=r0)∧
(v5=false→
(0≤h0_0)∧let v6:Bool:=decide ((ishl .i64 1 h0_0)≤((ix s93 s95).Position))
(v6=true→
 false=r0)∧
(v6=false→
 k1 (IntKind.i64.wrap (s95+1):Int)))))∧
(decide (s95<s94)=false→
(h1_1.length≤9223372036854775807)∧(h1_1.all noteV)=r0)
theorem k12f {r0:Bool} {s93:List TSpent} {s94:Int} {h0_0:Int} {h0_1:Int} {h0_2:List Int} {h0_3:List Int} {h0_4:List Int} {h0_5:Int} {h0_6:Int} {h0_7:Int} {h0_8:Int} {h0_9:Int} {h1_0:List TSpent} {h1_1:List TNote} {h1_2:Int} {s95:Int} (inv:Int→Prop) (μ:Int→Nat) (h0:inv s95) (hs:∀(s95:Int),inv s95→kpr r0 (fun s95q=>inv s95q∧μ s95q<μ s95) s93 s94 h0_0 h0_1 h0_2 h0_3 h0_4 h0_5 h0_6 h0_7 h0_8 h0_9 h1_0 h1_1 h1_2 s95):Md.Loop (s93,s94,s95,h0_0,h0_1,h0_2,h0_3,h0_4,h0_5,h0_6,h0_7,h0_8,h0_9,h1_0,h1_1,h1_2,()) (k90 (r0,())):=
 ⟨⟨fun s:(List TSpent)×Int×Int×Int×Int×(List Int)×(List Int)×(List Int)×Int×Int×Int×Int×Int×(List TSpent)×(List TNote)×Int×Unit=>(s.1=s93∧s.2.1=s94∧s.2.2.2.1=h0_0∧s.2.2.2.2.1=h0_1∧s.2.2.2.2.2.1=h0_2∧s.2.2.2.2.2.2.1=h0_3∧s.2.2.2.2.2.2.2.1=h0_4∧s.2.2.2.2.2.2.2.2.1=h0_5∧s.2.2.2.2.2.2.2.2.2.1=h0_6∧s.2.2.2.2.2.2.2.2.2.2.1=h0_7∧s.2.2.2.2.2.2.2.2.2.2.2.1=h0_8∧s.2.2.2.2.2.2.2.2.2.2.2.2.1=h0_9∧s.2.2.2.2.2.2.2.2.2.2.2.2.2.1=h1_0∧s.2.2.2.2.2.2.2.2.2.2.2.2.2.2.1=h1_1∧s.2.2.2.2.2.2.2.2.2.2.2.2.2.2.2.1=h1_2)∧inv s.2.2.1,fun s:(List TSpent)×Int×Int×Int×Int×(List Int)×(List Int)×(List Int)×Int×Int×Int×Int×Int×(List TSpent)×(List TNote)×Int×Unit=>μ s.2.2.1,⟨⟨rfl,rfl,rfl,rfl,rfl,rfl,rfl,rfl,rfl,rfl,rfl,rfl,rfl,rfl,rfl⟩,h0⟩,fun(s93p,s94p,s95p,h0_0p,h0_1p,h0_2p,h0_3p,h0_4p,h0_5p,h0_6p,h0_7p,h0_8p,h0_9p,h1_0p,h1_1p,h1_2p,()) ⟨⟨eq0,eq1,eq2,eq3,eq4,eq5,eq6,eq7,eq8,eq9,eq10,eq11,eq12,eq13,eq14⟩,hi⟩=>by
  have eq0:s93p=s93:=eq0;subst s93p;have eq1:s94p=s94:=eq1;subst s94p;have eq2:h0_0p=h0_0:=eq2;subst h0_0p;have eq3:h0_1p=h0_1:=eq3;subst h0_1p;have eq4:h0_2p=h0_2:=eq4;subst h0_2p;have eq5:h0_3p=h0_3:=eq5;subst h0_3p;have eq6:h0_4p=h0_4:=eq6;subst h0_4p;have eq7:h0_5p=h0_5:=eq7;subst h0_5p;have eq8:h0_6p=h0_6:=eq8;subst h0_6p;have eq9:h0_7p=h0_7:=eq9;subst h0_7p;have eq10:h0_8p=h0_8:=eq10;subst h0_8p;have eq11:h0_9p=h0_9:=eq11;subst h0_9p;have eq12:h1_0p=h1_0:=eq12;subst h1_0p;have eq13:h1_1p=h1_1:=eq13;subst h1_1p;have eq14:h1_2p=h1_2:=eq14;subst h1_2p;exact mpr_of (by kernel_rfl) ((congrArg (fun k=>kpr r0 k s93 s94 h0_0 h0_1 h0_2 h0_3 h0_4 h0_5 h0_6 h0_7 h0_8 h0_9 h1_0 h1_1 h1_2 s95p) (lpk1 (⟨rfl,rfl,rfl,rfl,rfl,rfl,rfl,rfl,rfl,rfl,rfl,rfl,rfl,rfl,rfl⟩:s93=s93∧s94=s94∧h0_0=h0_0∧h0_1=h0_1∧h0_2=h0_2∧h0_3=h0_3∧h0_4=h0_4∧h0_5=h0_5∧h0_6=h0_6∧h0_7=h0_7∧h0_8=h0_8∧h0_9=h0_9∧h1_0=h1_0∧h1_1=h1_1∧h1_2=h1_2) inv (fun s95q=>μ s95q<μ s95p))).mpr (hs s95p hi))⟩⟩
theorem bd31:Callable Try.prog 31:=⟨by rw[Try.func31];kernel_rfl,by rw[Try.func31];show some _≠some _;decide⟩
theorem k116 (p0:TStatement) (p1:TWitness) (h:SR p0∧WR p1):ke4 (p0.Depth,p0.Anchor,p0.Marks,p0.Commits,p0.Rhos,p0.Deposit,p0.Withdraw,p0.Fee,p0.Account,p0.Bind,p1.Ins,p1.Outs,p1.Secret,()) (((relV p0 p1):Bool),()):=by
 obtain⟨hs,hw⟩:=h
 have l1:=hs.ml
 have l2:=hs.cl
 have l3:=hs.rl
 have l4:=hw.il
 have l5:=hw.ol
 have bad:∀b:Bool,(relV p0 p1=true→b=true)→b=false→false=relV p0 p1:=by
  intro b h hb
  cases hr:relV p0 p1 with
  |false=>rfl
  |true=>have:=h hr;rw[this]at hb;cases hb
 have hf:relV p0 p1=true↔(1≤p0.Depth∧p0.Depth≤12∧allB [p0.Anchor,p0.Account,p0.Bind,p1.Secret]=true∧p0.Deposit≤4294967295∧p0.Withdraw≤4294967295∧p0.Fee≤4294967295∧allB p0.Marks=true∧allB p0.Commits=true∧allB p0.Rhos=true∧p1.Ins.length=p0.Marks.length∧p1.Ins.length≤4∧p1.Outs.length=p0.Commits.length∧p1.Outs.length=p0.Rhos.length∧p1.Outs.length≤4∧p1.Ins.all (inV p0.Depth)=true∧p1.Outs.all noteV=true):=by
  unfold relV
  simp only[Bool.and_eq_true,decide_eq_true_eq,and_assoc]
 have no:¬(1≤p0.Depth∧p0.Depth≤12∧allB [p0.Anchor,p0.Account,p0.Bind,p1.Secret]=true∧p0.Deposit≤4294967295∧p0.Withdraw≤4294967295∧p0.Fee≤4294967295∧allB p0.Marks=true∧allB p0.Commits=true∧allB p0.Rhos=true∧p1.Ins.length=p0.Marks.length∧p1.Ins.length≤4∧p1.Outs.length=p0.Commits.length∧p1.Outs.length=p0.Rhos.length∧p1.Outs.length≤4∧p1.Ins.all (inV p0.Depth)=true∧p1.Outs.all noteV=true)→false=relV p0 p1:=by
  intro h
  cases hr:relV p0 p1 with
  |false=>rfl
  |true=>exact(h (hf.1 hr)).elim
 clear bad
 refine k155 ⟨fun h=>no fun a=> ?_,fun h1=>⟨fun h=>no fun a=> ?_,fun h2=>⟨by simp,fun h=>no fun a=> ?_,fun h3=>⟨fun h=>no fun a=> ?_,fun h4=>⟨fun h=>no fun a=> ?_,fun h5=>⟨fun h=>no fun a=> ?_,fun h6=>⟨by omega,fun h=>no fun a=> ?_,fun h7=>⟨by omega,fun h=>no fun a=> ?_,fun h8=>⟨by omega,fun h=>no fun a=> ?_,fun h9=>⟨fun h=>no fun a=> ?_,fun h10=>⟨fun h=>no fun a=> ?_,fun h11=>⟨fun h=>no fun a=> ?_,fun h12=>⟨fun h=>no fun a=> ?_,fun h13=>⟨fun h=>no fun a=> ?_,fun h14=> ?_⟩⟩⟩⟩⟩⟩⟩⟩⟩⟩⟩⟩⟩⟩
 ·have h:=of_decide_eq_true h;omega
 ·have h:=of_decide_eq_true h;omega
 ·rw[a.2.2.1]at h;cases h
 ·have h:=of_decide_eq_true h;omega
 ·have h:=of_decide_eq_true h;omega
 ·have h:=of_decide_eq_true h;omega
 ·rw[a.2.2.2.2.2.2.1]at h;cases h
 ·rw[a.2.2.2.2.2.2.2.1]at h;cases h
 ·rw[a.2.2.2.2.2.2.2.2.1]at h;cases h
 ·have h:¬(p1.Ins.length:Int)=p0.Marks.length:=by simpa using h
  omega
 ·have h:=of_decide_eq_true h;omega
 ·have h:¬(p1.Outs.length:Int)=p0.Commits.length:=by simpa using h
  omega
 ·have h:¬(p1.Outs.length:Int)=p0.Rhos.length:=by simpa using h
  omega
 ·have h:=of_decide_eq_true h;omega
 have h1:=of_decide_eq_false h1
 have h2:=of_decide_eq_false h2
 have h3:allB [p0.Anchor,p0.Account,p0.Bind,p1.Secret]=true:=by simpa using h3
 have h4:=of_decide_eq_false h4
 have h5:=of_decide_eq_false h5
 have h6:=of_decide_eq_false h6
 have h7:allB p0.Marks=true:=by simpa using h7
 have h8:allB p0.Commits=true:=by simpa using h8
 have h9:allB p0.Rhos=true:=by simpa using h9
 have h10:(p1.Ins.length:Int)=p0.Marks.length:=by simpa using h10
 have h11:=of_decide_eq_false h11
 have h12:(p1.Outs.length:Int)=p0.Commits.length:=by simpa using h12
 have h13:(p1.Outs.length:Int)=p0.Rhos.length:=by simpa using h13
 have h14:=of_decide_eq_false h14
 have hd:ishl .i64 1 p0.Depth=2^p0.Depth.toNat:=by
  have h0:0≤p0.Depth∧p0.Depth≤12:=by omega
  obtain⟨d,hd⟩:=Int.eq_ofNat_of_zero_le h0.1
  rw[hd]at h0 ⊢
  have h0:d≤12:=by omega
  have key:∀d:Nat,d≤12→ishl .i64 1 (d:Int)=2^d:=by decide +kernel
  exact key d h0
 refine k12f (AllI (inV p0.Depth) p1.Ins) (fun i=>(p1.Ins.length-i).toNat) AllI.start ?_
 intro i hi
 refine⟨fun hh=> ?_,fun hh=> ?_⟩
 ·have hh:=of_decide_eq_true hh
  have hx:=hw.i _ (ix_mem p1.Ins i hi.1 hh)
  have nb:inV p0.Depth (ix p1.Ins i)=false→false=relV p0 p1:=fun hb=>no fun a=>by
   rw[hi.bad hh hb]at a;exact absurd a.2.2.2.2.2.2.2.2.2.2.2.2.2.2.1 (by simp)
  refine⟨hi.1,hh,by have:=hx.pl;show(ix p1.Ins i).Path.length≤_;omega,fun e=>nb ?_,fun e=>⟨fun e2=>nb ?_,fun e2=>⟨by omega,fun e3=>nb ?_,fun e3=>hi.next hh (by omega) ?_⟩⟩⟩
  ·have e:spendV (ix p1.Ins i)=false:=by simpa using e
   simp[inV,e]
  ·have e2:¬((ix p1.Ins i).Path.length:Int)=p0.Depth:=by simpa using e2
   simp[inV,e2]
  ·have e3:=of_decide_eq_true e3
   rw[hd]at e3
   simp only[inV,Bool.and_eq_false_iff,decide_eq_false_iff_not]
   right;omega
  ·have e:spendV (ix p1.Ins i)=true:=by simpa using e
   have e2:((ix p1.Ins i).Path.length:Int)=p0.Depth:=by simpa using e2
   have e3:=of_decide_eq_false e3
   rw[hd]at e3
   simp only[inV,e,Bool.true_and,Bool.and_eq_true,decide_eq_true_eq]
   exact⟨e2,by omega⟩
 ·have ha:=hi.done (of_decide_eq_false hh)
  refine⟨by omega,?_⟩
  cases hn:p1.Outs.all noteV with
  |false=>exact no fun a=>by rw[hn]at a;exact absurd a.2.2.2.2.2.2.2.2.2.2.2.2.2.2.2 (by simp)
  |true=>exact(hf.2 ⟨by omega,by omega,h3,by omega,by omega,by omega,h7,h8,h9,by omega,by omega,by omega,by omega,by omega,ha,hn⟩).symm
noncomputable def kfw:Con TB.den:=k1l.fnR (fun x=>(fun(p0:TStatement) (p1:TWitness)=>SR p0∧WR p1) (TStatement.mk x.1 x.2.1 x.2.2.1 x.2.2.2.1 x.2.2.2.2.1 x.2.2.2.2.2.1 x.2.2.2.2.2.2.1 x.2.2.2.2.2.2.2.1 x.2.2.2.2.2.2.2.2.1 x.2.2.2.2.2.2.2.2.2.1) (TWitness.mk x.2.2.2.2.2.2.2.2.2.2.1 x.2.2.2.2.2.2.2.2.2.2.2.1 x.2.2.2.2.2.2.2.2.2.2.2.2.1)) fun x=>((fun(p0:TStatement) (p1:TWitness)=>((relV p0 p1):Bool)) (TStatement.mk x.1 x.2.1 x.2.2.1 x.2.2.2.1 x.2.2.2.2.1 x.2.2.2.2.2.1 x.2.2.2.2.2.2.1 x.2.2.2.2.2.2.2.1 x.2.2.2.2.2.2.2.2.1 x.2.2.2.2.2.2.2.2.2.1) (TWitness.mk x.2.2.2.2.2.2.2.2.2.2.1 x.2.2.2.2.2.2.2.2.2.2.2.1 x.2.2.2.2.2.2.2.2.2.2.2.2.1),())
theorem kq3:kfw.Ok Try.prog TB:=Con.ok_fn k1l bd31 fun x h=>k141 (k116 (TStatement.mk x.1 x.2.1 x.2.2.1 x.2.2.2.1 x.2.2.2.2.1 x.2.2.2.2.2.1 x.2.2.2.2.2.2.1 x.2.2.2.2.2.2.2.1 x.2.2.2.2.2.2.2.2.1 x.2.2.2.2.2.2.2.2.2.1) (TWitness.mk x.2.2.2.2.2.2.2.2.2.2.1 x.2.2.2.2.2.2.2.2.2.2.2.1 x.2.2.2.2.2.2.2.2.2.2.2.2.1) h)
def k2d:Con TB.den:=Con.mk0 101 [.one (.d (.int .u64)),.one (.d (.int .u64))] [] (.one (.one (.d (.int .u64)))) []
abbrev kt8:=HL TB.den (hsT k2d.ins (hsOs k2d.pre))
abbrev keh:=HL TB.den (hsV k2d.res (hsOs k2d.post))
noncomputable def k9n:Cx TB:=⟨inf,[ked],[],4,[]⟩
noncomputable def kfy:Code:=Try.f101.body.getD .skip
noncomputable def kix:List ResultVar:=Try.f101.results.toList
noncomputable def kqv (o:keh):An TB:= .no
def kf8 (x:kt8) (o:keh):Prop:=WPh TB k9n 9 0 kfy (kqv o) (k2d.st TB x) (retTQ TB k9n k2d kix o)
theorem k151 (o:keh):OblH TB k9n 9 0 kfy (kqv o) (retTQ TB k9n k2d kix o):=
 OblH.ofC (X:=True) (by kernel_rfl) trivial
theorem k15o {x:kt8} {o:keh} (h:kf8 x o):k2d.Snd Try.prog x o:=
 Con.soundH (c:=k2d) (C:=k9n) TBok ⟨inf_ok,(all_cons kly all_nil),all_nil⟩ mix Try.func101 (show Try.f101.body=some kfy by kernel_rfl) (show Try.f101.ntmps=9 by kernel_rfl) (show Try.f101.results.toList=kix by kernel_rfl) rfl h (k151 o)
theorem k18v {p0:Int} {p1:Int} {r0:Int} (h:
(((18446744069414584321:Int)=18446744069414584321∧U64 (6:Int)∧Us [p0,p1]∧[p0,p1].length≤1099511627776)∧(hashS (6:Int) [p0,p1])=r0)):kf8 (p0,p1,()) (r0,()):=WPh.of_eq (by kernel_rfl) h
theorem bd101:Callable Try.prog 101:=⟨by rw[Try.func101];kernel_rfl,by rw[Try.func101];show some _≠some _;decide⟩
theorem k14b (p0:Int) (p1:Int) (h:U64 p0∧U64 p1):kf8 (p0,p1,()) (((hashS 6 [p0,p1]):Int),()):=by
 refine k18v ⟨⟨rfl,by decide,?_,by simp⟩,rfl⟩
 intro x hx
 simp only[List.mem_cons,List.not_mem_nil,or_false]at hx
 rcases hx with rfl|rfl
 ·exact h.1
 ·exact h.2
noncomputable def kpd:Con TB.den:=k2d.fnR (fun x=>(fun(p0:Int) (p1:Int)=>U64 p0∧U64 p1) x.1 x.2.1) fun x=>((fun(p0:Int) (p1:Int)=>((hashS 6 [p0,p1]):Int)) x.1 x.2.1,())
theorem k191:kpd.Ok Try.prog TB:=Con.ok_fn k2d bd101 fun x h=>k15o (k14b x.1 x.2.1 h)
def k1c:Con TB.den:=Con.mk0 73 [.one (.d (.int .u64)),.one (.d (.int .i64)),.one (.d (.sl (.int .u64)))] [] (.one (.one (.d (.int .u64)))) []
abbrev kry:=HL TB.den (hsT k1c.ins (hsOs k1c.pre))
abbrev k18:=HL TB.den (hsV k1c.res (hsOs k1c.post))
noncomputable def k1z:Cx TB:=⟨inf,[kpd],[],4,[]⟩
noncomputable def k4n:Code:=Try.f73.body.getD .skip
noncomputable def k8x:List ResultVar:=Try.f73.results.toList
def k15j (o:k18):=qS TB k1z 60 0 (cB (cB (cB (cB (cB k4n))))) .no (retTQ TB k1z k1c k8x o)
def k5r:Tm:=⟨[],[],[1,9,40,41,42],[.one (.d (.int .i64)),.one (.d (.int .u64)),.one (.d (.sl (.int .u64))),.one (.d (.int .i64)),.one (.d (.int .i64))],0⟩
def k15y (o:k18) (nx2:NX TB k5r):=qM TB 0 k5r nx2 (blockT TB 2 (k15j o))
def k8r (o:k18) (nx2:NX TB k5r) (i:HL TB.den k5r.hs):Prop:=WP TB k1z 60 0 (cA (cA (cB (cA (cB (cB (cB (cB k4n)))))))) .no (k5r.fill TB i) (k15y o nx2)
noncomputable def k157 (o:k18):An TB:= .lp [] k5r (k8r o) fun nx2=> .no
noncomputable def kpc (o:k18):An TB:= .nd [] .no [] (.nd [] (.nd [] .no [] (k157 o)) [] .no)
def k15q (o:k18):=qS TB k1z 60 0 (cB (cB (cB k4n))) (kpc o) (retTQ TB k1z k1c k8x o)
def k5s:Tm:=⟨[],[],[0,1,2,30,31,32],[.one (.d (.int .u64)),.one (.d (.int .i64)),.one (.d (.sl (.int .u64))),.one (.d (.sl (.int .u64))),.one (.d (.int .i64)),.one (.d (.int .i64))],0⟩
def k14x (o:k18) (nx1:NX TB k5s):=qM TB 0 k5s nx1 (blockT TB 0 (k15q o))
def k8s (o:k18) (nx1:NX TB k5s) (i:HL TB.den k5s.hs):Prop:=WP TB k1z 60 0 (cA (cA (cB (cA (cB (cB k4n)))))) .no (k5s.fill TB i) (k14x o nx1)
noncomputable def k12c (o:k18):An TB:= .lp [] k5s (k8s o) fun nx1=> .no
noncomputable def k13n (o:k18):An TB:= .nd [] (.nd [] .no [] (k12c o)) [] (kpc o)
noncomputable def kpp (o:k18):An TB:= .nd [] .no [] (.nd [] .no [] (k13n o))
def kea (x:kry) (o:k18):Prop:=WPh TB k1z 60 0 k4n (kpp o) (k1c.st TB x) (retTQ TB k1z k1c k8x o)
theorem k144 (o:k18):OblH TB k1z 60 0 k4n (kpp o) (retTQ TB k1z k1c k8x o):=
 OblH.ofC (X:=((∀nx i,(k8s o) nx i=(k8s o) nx i)∧(∀nx1:NX TB k5s,True)∧(∀nx i,(k8r o) nx i=(k8r o) nx i)∧(∀nx2:NX TB k5r,True)∧True)) (by kernel_rfl) ⟨fun _ _=>rfl,fun _=>trivial,fun _ _=>rfl,fun _=>trivial,trivial⟩
theorem k121 {x:kry} {o:k18} (h:kea x o):k1c.Snd Try.prog x o:=
 Con.soundH (c:=k1c) (C:=k1z) TBok ⟨inf_ok,(all_cons k191 all_nil),all_nil⟩ mix Try.func73 (show Try.f73.body=some k4n by kernel_rfl) (show Try.f73.ntmps=60 by kernel_rfl) (show Try.f73.results.toList=k8x by kernel_rfl) rfl h (k144 o)
theorem k15s {p0:Int} {p1:Int} {p2:List Int} {r0:Int} (h:
((decide (12<(p2.length:Int))=true→
 0=r0)∧
(decide (12<(p2.length:Int))=false→
(decide (p1<0)=true→
 0=r0)∧
(decide (p1<0)=false→
(0≤(p2.length:Int))∧let v1:Bool:=decide ((ishl .i64 1 (p2.length:Int))≤p1)
(v1=true→
 0=r0)∧
(v1=false→
(decide (18446744069414584321≤p0)=true→
 0=r0)∧
(decide (18446744069414584321≤p0)=false→
 Md.Loop (p0,p1,p2,p2,((p2.length:Int):Int),(0:Int),()) (k8s (r0,())))))))):kea (p0,p1,p2,()) (r0,()):=WPh.of_eq (by kernel_rfl) h
def kpz (r0:Int) (k1:Int→Prop) (s0:Int) (s1:Int) (s2:List Int) (s30:List Int) (s31:Int) (s32:Int):Prop:=
(decide (s32<s31)=true→
(0≤s32)∧s32<(s30.length:Int)∧let v2:Bool:=decide (18446744069414584321≤(ix s30 s32))
(v2=true→
 0=r0)∧
(v2=false→
 k1 (IntKind.i64.wrap (s32+1):Int)))∧
(decide (s32<s31)=false→
 Md.Loop (s1,s0,s2,((s2.length:Int):Int),(0:Int),()) (k8r (r0,())))
theorem k12y {r0:Int} {s0:Int} {s1:Int} {s2:List Int} {s30:List Int} {s31:Int} {s32:Int} (inv:Int→Prop) (μ:Int→Nat) (h0:inv s32) (hs:∀(s32:Int),inv s32→kpz r0 (fun s32q=>inv s32q∧μ s32q<μ s32) s0 s1 s2 s30 s31 s32):Md.Loop (s0,s1,s2,s30,s31,s32,()) (k8s (r0,())):=
 ⟨⟨fun s:Int×Int×(List Int)×(List Int)×Int×Int×Unit=>(s.1=s0∧s.2.1=s1∧s.2.2.1=s2∧s.2.2.2.1=s30∧s.2.2.2.2.1=s31)∧inv s.2.2.2.2.2.1,fun s:Int×Int×(List Int)×(List Int)×Int×Int×Unit=>μ s.2.2.2.2.2.1,⟨⟨rfl,rfl,rfl,rfl,rfl⟩,h0⟩,fun(s0p,s1p,s2p,s30p,s31p,s32p,()) ⟨⟨eq0,eq1,eq2,eq3,eq4⟩,hi⟩=>by
  have eq0:s0p=s0:=eq0;subst s0p;have eq1:s1p=s1:=eq1;subst s1p;have eq2:s2p=s2:=eq2;subst s2p;have eq3:s30p=s30:=eq3;subst s30p;have eq4:s31p=s31:=eq4;subst s31p;exact mpr_of (by kernel_rfl) ((congrArg (fun k=>kpz r0 k s0 s1 s2 s30 s31 s32p) (lpk1 (⟨rfl,rfl,rfl,rfl,rfl⟩:s0=s0∧s1=s1∧s2=s2∧s30=s30∧s31=s31) inv (fun s32q=>μ s32q<μ s32p))).mpr (hs s32p hi))⟩⟩
def kpu (r0:Int) (k2:Int→Int→Prop) (s1:Int) (s40:List Int) (s41:Int) (s9:Int) (s42:Int):Prop:=
(decide (s42<s41)=true→
(0≤s42)∧s42<(s40.length:Int)∧(0≤s42)∧(((iand .i64 (ishr .i64 s1 s42) 1)==0)=true→
(U64 s9∧U64 (ix s40 s42))∧k2 ((hashS 6 [s9,(ix s40 s42)]):Int) (IntKind.i64.wrap (s42+1):Int))∧
(((iand .i64 (ishr .i64 s1 s42) 1)==0)=false→
(U64 (ix s40 s42)∧U64 s9)∧k2 ((hashS 6 [(ix s40 s42),s9]):Int) (IntKind.i64.wrap (s42+1):Int)))∧
(decide (s42<s41)=false→
 s9=r0)
theorem k128 {r0:Int} {s1:Int} {s40:List Int} {s41:Int} {s9:Int} {s42:Int} (inv:Int→Int→Prop) (μ:Int→Int→Nat) (h0:inv s9 s42) (hs:∀(s9:Int) (s42:Int),inv s9 s42→kpu r0 (fun s9q s42q=>inv s9q s42q∧μ s9q s42q<μ s9 s42) s1 s40 s41 s9 s42):Md.Loop (s1,s9,s40,s41,s42,()) (k8r (r0,())):=
 ⟨⟨fun s:Int×Int×(List Int)×Int×Int×Unit=>(s.1=s1∧s.2.2.1=s40∧s.2.2.2.1=s41)∧inv s.2.1 s.2.2.2.2.1,fun s:Int×Int×(List Int)×Int×Int×Unit=>μ s.2.1 s.2.2.2.2.1,⟨⟨rfl,rfl,rfl⟩,h0⟩,fun(s1p,s9p,s40p,s41p,s42p,()) ⟨⟨eq0,eq1,eq2⟩,hi⟩=>by
  have eq0:s1p=s1:=eq0;subst s1p;have eq1:s40p=s40:=eq1;subst s40p;have eq2:s41p=s41:=eq2;subst s41p;exact mpr_of (by kernel_rfl) ((congrArg (fun k=>kpu r0 k s1 s40 s41 s9p s42p) (lpk2 (⟨rfl,rfl,rfl⟩:s1=s1∧s40=s40∧s41=s41) inv (fun s9q s42q=>μ s9q s42q<μ s9p s42p))).mpr (hs s9p s42p hi))⟩⟩
theorem bd73:Callable Try.prog 73:=⟨by rw[Try.func73];kernel_rfl,by rw[Try.func73];show some _≠some _;decide⟩
theorem k10l (p0:Int) (p1:Int) (p2:List Int) (h:U64 p0∧Us p2∧p2.length≤1073741824∧p1≤9223372036854775807):kea (p0,p1,p2,()) (((climbS p0 p1 p2):Int),()):=by
 obtain⟨h0,h2,h3,h4⟩:=h
 have sh:∀d:Nat,d≤12→ishl .i64 1 (d:Int)=2^d:=by decide +kernel
 refine k15s ⟨fun e=> ?_,fun e=>⟨fun e2=> ?_,fun e2=>⟨by omega,fun e3=> ?_,fun e3=>⟨fun e4=> ?_,fun e4=> ?_⟩⟩⟩⟩
 ·have e:=of_decide_eq_true e
  unfold climbS
  rw[if_neg (by omega)]
 ·have e2:=of_decide_eq_true e2
  unfold climbS
  rw[if_neg (by omega)]
 ·have e:=of_decide_eq_false e
  have e3:=of_decide_eq_true e3
  rw[sh _ (by omega)]at e3
  unfold climbS
  rw[if_neg (fun a=>by have:=a.2.2.1;omega)]
 ·have e4:=of_decide_eq_true e4
  unfold climbS
  rw[if_neg (by omega)]
 have e:=of_decide_eq_false e
 have e2:=of_decide_eq_false e2
 have e3:=of_decide_eq_false e3
 have e4:=of_decide_eq_false e4
 rw[sh _ (by omega)]at e3
 refine k12y (AllI (fun x=>decide (x<18446744069414584321)) p2) (fun i=>(p2.length-i).toNat) AllI.start ?_
 intro i hi
 refine⟨fun hh=> ?_,fun hh=> ?_⟩
 ·have hh:=of_decide_eq_true hh
  refine⟨hi.1,hh,fun e5=> ?_,fun e5=>hi.next hh (by omega) (by simpa using e5)⟩
  have hb:allB p2=false:=hi.bad hh (by simpa using e5)
  unfold climbS
  rw[if_neg (fun a=>by rw[hb]at a;exact absurd a.2.2.2.2 (by simp))]
 ·have ha:allB p2=true:=hi.done (of_decide_eq_false hh)
  have hc:climbS p0 p1 p2=climbL p0 p1 p2:=by
   unfold climbS
   rw[if_pos ⟨by omega,by omega,by omega,by omega,ha⟩]
  rw[hc]
  have hpos:p1<4096:=by
   have h1:(2:Int)^p2.length≤2^12:=by exact_mod_cast Nat.pow_le_pow_right (by omega) (by omega)
   omega
  refine k128 (fun d i=>0≤i∧i≤p2.length∧U64 d∧climbL d (p1/2^i.toNat) (p2.drop i.toNat)=climbL p0 p1 p2) (fun d i=>(p2.length-i).toNat) ⟨by omega,by omega,h0,by simp⟩ ?_
  rintro d i ⟨g0,g1,g2,g3⟩
  refine⟨fun hh=> ?_,fun hh=> ?_⟩
  ·have hh:=of_decide_eq_true hh
   have hx:=h2 _ (ix_mem p2 i g0 hh)
   rw[drop_ix p2 i g0 hh]at g3
   have nx:=inc i p2.length g0 hh (by omega)
   have hq:p1/2^i.toNat/2=p1/2^(i+1).toNat:=by
    rw[show(i+1).toNat=i.toNat+1 by omega,Int.pow_succ,Int.ediv_ediv_of_nonneg (Int.le_of_lt (Int.pow_pos (by omega)))]
   have hbit:iand .i64 (ishr .i64 p1 i) 1=p1/2^i.toNat%2:=by
    have hs:ishr .i64 p1 i=p1/2^i.toNat:=by
     rw[kj5,show min i.toNat IntKind.i64.bits=i.toNat from Nat.min_eq_left (by show i.toNat≤64;omega)]
     simp
    rw[hs]
    have hb0:0≤p1/2^i.toNat:=Int.ediv_nonneg (by omega) (Int.le_of_lt (Int.pow_pos (by omega)))
    have hb1:p1/2^i.toNat≤p1:=Int.ediv_le_self _ (by omega)
    exact k1jc _ ⟨hb0,by omega⟩
   rw[hbit]
   have g3:climbL (if p1/2^i.toNat%2=0 then hashS 6 [d,ix p2 i]else hashS 6 [ix p2 i,d]) (p1/2^i.toNat/2) (p2.drop (i+1).toNat)=climbL p0 p1 p2:=g3
   rw[hq]at g3
   refine⟨g0,hh,g0,fun hb=> ?_,fun hb=> ?_⟩
   ·have hb:p1/2^i.toNat%2=0:=by simpa using hb
    rw[if_pos hb]at g3
    rw[nx]
    exact⟨⟨g2,hx⟩,⟨by omega,by omega,koa _ _,g3⟩,by omega⟩
   ·have hb:¬p1/2^i.toNat%2=0:=by simpa using hb
    rw[if_neg hb]at g3
    rw[nx]
    exact⟨⟨hx,g2⟩,⟨by omega,by omega,koa _ _,g3⟩,by omega⟩
  ·have hh:=of_decide_eq_false hh
   rw[List.drop_eq_nil_of_le (by omega)]at g3
   exact g3
noncomputable def ko9:Con TB.den:=k1c.fnR (fun x=>(fun(p0:Int) (p1:Int) (p2:List Int)=>U64 p0∧Us p2∧p2.length≤1073741824∧p1≤9223372036854775807) x.1 x.2.1 x.2.2.1) fun x=>((fun(p0:Int) (p1:Int) (p2:List Int)=>((climbS p0 p1 p2):Int)) x.1 x.2.1 x.2.2.1,())
theorem k15f:ko9.Ok Try.prog TB:=Con.ok_fn k1c bd73 fun x h=>k121 (k10l x.1 x.2.1 x.2.2.1 h)
def k2e:Con TB.den:=Con.mk0 100 [.one (.d (.int .i64))] [] (.one (.one (.d (.bool)))) []
abbrev kt6:=HL TB.den (hsT k2e.ins (hsOs k2e.pre))
abbrev kel:=HL TB.den (hsV k2e.res (hsOs k2e.post))
noncomputable def k9y:Cx TB:=⟨inf,[],[],4,[]⟩
noncomputable def kfd:Code:=Try.f100.body.getD .skip
noncomputable def kiw:List ResultVar:=Try.f100.results.toList
noncomputable def ks3 (o:kel):An TB:= .no
def kg1 (x:kt6) (o:kel):Prop:=WPh TB k9y 9 0 kfd (ks3 o) (k2e.st TB x) (retTQ TB k9y k2e kiw o)
theorem k160 (o:kel):OblH TB k9y 9 0 kfd (ks3 o) (retTQ TB k9y k2e kiw o):=
 OblH.ofC (X:=True) (by kernel_rfl) trivial
theorem k168 {x:kt6} {o:kel} (h:kg1 x o):k2e.Snd Try.prog x o:=
 Con.soundH (c:=k2e) (C:=k9y) TBok ⟨inf_ok,all_nil,all_nil⟩ mix Try.func100 (show Try.f100.body=some kfd by kernel_rfl) (show Try.f100.ntmps=9 by kernel_rfl) (show Try.f100.results.toList=kiw by kernel_rfl) rfl h (k160 o)
theorem k17s {p0:Int} {r0:Bool} (h:
((decide (0≤p0)=true→
 decide (p0<4)=r0)∧
(decide (0≤p0)=false→
 false=r0))):kg1 (p0,()) (r0,()):=WPh.of_eq (by kernel_rfl) h
theorem bd100:Callable Try.prog 100:=⟨by rw[Try.func100];kernel_rfl,by rw[Try.func100];show some _≠some _;decide⟩
theorem k12x (p0:Int):kg1 (p0,()) (((decide (0≤p0)&&decide (p0<4)):Bool),()):=by
 refine k17s ?_
 grind
noncomputable def kpj:Con TB.den:=k2e.totR fun x=>((fun(p0:Int)=>((decide (0≤p0)&&decide (p0<4)):Bool)) x.1,())
theorem k18f:kpj.Ok Try.prog TB:=Con.ok_tot k2e bd100 fun x=>k168 (k12x x.1)
def k4b:Con TB.den:=Con.mk0 71 [.one (.d (.int .u64)),.one (.d (.int .i64))] [] (.one (.one (.d (.int .u64)))) []
abbrev k139:=HL TB.den (hsT k4b.ins (hsOs k4b.pre))
abbrev kkx:=HL TB.den (hsV k4b.res (hsOs k4b.post))
noncomputable def kdj:Cx TB:=⟨inf,[kpj,kpa],[],4,[]⟩
noncomputable def kk6:Code:=Try.f71.body.getD .skip
noncomputable def koy:List ResultVar:=Try.f71.results.toList
noncomputable def kzj (o:kkx):An TB:= .no
def kl7 (x:k139) (o:kkx):Prop:=WPh TB kdj 13 0 kk6 (kzj o) (k4b.st TB x) (retTQ TB kdj k4b koy o)
theorem k1d7 (o:kkx):OblH TB kdj 13 0 kk6 (kzj o) (retTQ TB kdj k4b koy o):=
 OblH.ofC (X:=True) (by kernel_rfl) trivial
theorem k1dt {x:k139} {o:kkx} (h:kl7 x o):k4b.Snd Try.prog x o:=
 Con.soundH (c:=k4b) (C:=kdj) TBok ⟨inf_ok,(all_cons k18f (all_cons k122 all_nil)),all_nil⟩ mix Try.func71 (show Try.f71.body=some kk6 by kernel_rfl) (show Try.f71.ntmps=13 by kernel_rfl) (show Try.f71.results.toList=koy by kernel_rfl) rfl h (k1d7 o)
theorem k1i7 {p0:Int} {p1:Int} {r0:Int} (h:
(((!(decide (0≤p1)&&decide (p1<4)))=true→
 0=r0)∧
((!(decide (0≤p1)&&decide (p1<4)))=false→
(U64 (1:Int)∧Us [p0,IntKind.u64.wrap p1]∧[p0,IntKind.u64.wrap p1].length≤1099511627776)∧let r1:Int:=(hashS (1:Int) [p0,IntKind.u64.wrap p1])
 r1=r0))):kl7 (p0,p1,()) (r0,()):=WPh.of_eq (by kernel_rfl) h
theorem bd71:Callable Try.prog 71:=⟨by rw[Try.func71];kernel_rfl,by rw[Try.func71];show some _≠some _;decide⟩
theorem k1ae (p0:Int) (p1:Int) (h:U64 p0∧-9223372036854775808≤p1∧p1≤9223372036854775807):kl7 (p0,p1,()) (((ownerS p0 p1):Int),()):=by
 obtain⟨h0,h1,h2⟩:=h
 refine k1i7 ⟨fun e=> ?_,fun e=> ?_⟩
 ·unfold ownerS
  rw[if_neg (by simp at e;omega)]
 ·have e:0≤p1∧p1<4:=by simpa using e
  rw[wu p1 (by omega) (by omega)]
  refine⟨⟨by decide,?_,by simp⟩,?_⟩
  ·intro x hx
   simp only[List.mem_cons,List.not_mem_nil,or_false]at hx
   rcases hx with rfl|rfl
   ·exact h0
   ·omega
  ·unfold ownerS
   rw[if_pos e]
noncomputable def kwu:Con TB.den:=k4b.fnR (fun x=>(fun(p0:Int) (p1:Int)=>U64 p0∧-9223372036854775808≤p1∧p1≤9223372036854775807) x.1 x.2.1) fun x=>((fun(p0:Int) (p1:Int)=>((ownerS p0 p1):Int)) x.1 x.2.1,())
theorem k1g6:kwu.Ok Try.prog TB:=Con.ok_fn k4b bd71 fun x h=>k1dt (k1ae x.1 x.2.1 h)
def k2n:Con TB.den:=Con.mk0 72 [.one (.ptr 0 0),.one (.d (.int .u64)),.one (.d (.int .u64))] [.cells [.d (.bool),.d (.int .u64),.d (.int .i64),.d (.sl (.st 3)),.mp 1,.mp 2,.mp 3],.map (.str) (.int .i64),.map (.str) (.sl (.int .u64)),.map (.str) (.bool)] (.tup [.one (.d (.int .u64)),.one (.d (.bool))]) [.cells [.d (.bool),.d (.int .u64),.d (.int .i64),.d (.sl (.st 3)),.mp 1,.mp 2,.mp 3],.map (.str) (.int .i64),.map (.str) (.sl (.int .u64)),.map (.str) (.bool)]
abbrev kzf:=HL TB.den (hsT k2n.ins (hsOs k2n.pre))
abbrev k77:=HL TB.den (hsV k2n.res (hsOs k2n.post))
noncomputable def k6n:Cx TB:=⟨inf,[kks],[],4,[]⟩
noncomputable def k9m:Code:=Try.f72.body.getD .skip
noncomputable def kg8:List ResultVar:=Try.f72.results.toList
def k1do (o:k77):=qS TB k6n 21 4 (cB (cB k9m)) .no (retTQ TB k6n k2n kg8 o)
def ken:Tm:=⟨[0,1,2,3],[.cells [.d (.bool),.d (.int .u64),.d (.int .i64),.d (.sl (.st 3)),.mp 1,.mp 2,.mp 3],.map (.str) (.int .i64),.map (.str) (.sl (.int .u64)),.map (.str) (.bool)],[0,1,2,13],[.one (.ptr 0 0),.one (.d (.int .u64)),.one (.d (.int .u64)),.one (.d (.bool))],4⟩
def ktg (o:k77) (i:HL TB.den ken.hs):Prop:=ghs TB [] (ken.fill TB i) fun s=>WP TB k6n 21 4 (cB (cA (cB k9m))) .no s (k1do o)
structure k9h (o:k77) (i:HL TB.den ken.hs):Prop where
 h:ktg o i
noncomputable def k1ev (o:k77):An TB:= .nd [] (.jn ken (k9h o) [] .no [] .no) [] .no
noncomputable def kwy (o:k77):An TB:= .nd [] .no [] (k1ev o)
def kig (x:kzf) (o:k77):Prop:=WPh TB k6n 21 4 k9m (kwy o) (k2n.st TB x) (retTQ TB k6n k2n kg8 o)
theorem k1ap (o:k77):OblH TB k6n 21 4 k9m (kwy o) (retTQ TB k6n k2n kg8 o):=
 OblH.ofC (X:=((∀i,(k9h o) i=ktg o i)∧True)) (by kernel_rfl) ⟨fun _=>propext ⟨fun h=>h.1,fun h=>⟨h⟩⟩,trivial⟩
theorem k1a4 {x:kzf} {o:k77} (h:kig x o):k2n.Snd Try.prog x o:=
 Con.soundH (c:=k2n) (C:=k6n) TBok ⟨inf_ok,(all_cons kvz all_nil),all_nil⟩ mix Try.func72 (show Try.f72.body=some k9m by kernel_rfl) (show Try.f72.ntmps=21 by kernel_rfl) (show Try.f72.results.toList=kg8 by kernel_rfl) rfl h (k1ap o)
theorem k1el {p1:Int} {p2:Int} {c0_0:Bool} {c0_1:Int} {c0_2:Int} {c0_3:List TQuestion} {w1k:List ByteArray} {w1v:List Int} {w2k:List ByteArray} {w2v:List (List Int)} {w3k:List ByteArray} {w3v:List Bool} {r0:Int} {r1:Bool} {d0_0:Bool} {d0_1:Int} {d0_2:Int} {d0_3:List TQuestion} {e1k:List ByteArray} {e1v:List Int} {e2k:List ByteArray} {e2v:List (List Int)} {e3k:List ByteArray} {e3v:List Bool} (h:
((decide (18446744069414584321≤p1)=true→
 k9h (r0,r1,d0_0,d0_1,d0_2,d0_3,e1k,e1v,e2k,e2v,e3k,e3v,()) (p1,p2,true,c0_0,c0_1,c0_2,c0_3,w1k,w1v,w2k,w2v,w3k,w3v,()))∧
(decide (18446744069414584321≤p1)=false→
 k9h (r0,r1,d0_0,d0_1,d0_2,d0_3,e1k,e1v,e2k,e2v,e3k,e3v,()) (p1,p2,(decide (18446744069414584321≤p2):Bool),c0_0,c0_1,c0_2,c0_3,w1k,w1v,w2k,w2v,w3k,w3v,())))):kig (p1,p2,c0_0,c0_1,c0_2,c0_3,w1k,w1v,w2k,w2v,w3k,w3v,()) (r0,r1,d0_0,d0_1,d0_2,d0_3,e1k,e1v,e2k,e2v,e3k,e3v,()):=WPh.of_eq (by kernel_rfl) h
theorem k154 {r0:Int} {r1:Bool} {d0_0:Bool} {d0_1:Int} {d0_2:Int} {d0_3:List TQuestion} {e1k:List ByteArray} {e1v:List Int} {e2k:List ByteArray} {e2v:List (List Int)} {e3k:List ByteArray} {e3v:List Bool} {s1:Int} {s2:Int} {s13:Bool} {h0_0:Bool} {h0_1:Int} {h0_2:Int} {h0_3:List TQuestion} {g1k:List ByteArray} {g1v:List Int} {g2k:List ByteArray} {g2v:List (List Int)} {g3k:List ByteArray} {g3v:List Bool} (h:
((s13=true→
 0=r0∧false=r1∧h0_0=d0_0∧h0_1=d0_1∧h0_2=d0_2∧h0_3=d0_3∧g1k=e1k∧g1v=e1v∧g2k=e2k∧g2v=e2v∧g3k=e3k∧g3v=e3v)∧
(s13=false→
(U64 (3:Int)∧Us [s1,s2]∧[s1,s2].length≤1073741824∧OrOk g1k g1v h0_3)∧let r2:Int:=((pk h0_0 h0_3 g1k g1v (3:Int) [s1,s2]).getD 0)
 let r3:Bool:=((pk h0_0 h0_3 g1k g1v (3:Int) [s1,s2]).isSome)
 r2=r0∧r3=r1∧h0_0=d0_0∧h0_1=d0_1∧h0_2=d0_2∧h0_3=d0_3∧g1k=e1k∧g1v=e1v∧g2k=e2k∧g2v=e2v∧g3k=e3k∧g3v=e3v))):k9h (r0,r1,d0_0,d0_1,d0_2,d0_3,e1k,e1v,e2k,e2v,e3k,e3v,()) (s1,s2,s13,h0_0,h0_1,h0_2,h0_3,g1k,g1v,g2k,g2v,g3k,g3v,()):=⟨mpr_of (by kernel_rfl) h⟩
theorem bd72:Callable Try.prog 72:=⟨by rw[Try.func72];kernel_rfl,by rw[Try.func72];show some _≠some _;decide⟩
theorem k18h (p1:Int) (p2:Int) (c0_0:Bool) (c0_1:Int) (c0_2:Int) (c0_3:List TQuestion) (w1k:List ByteArray) (w1v:List Int) (w2k:List ByteArray) (w2v:List (List Int)) (w3k:List ByteArray) (w3v:List Bool) (h:U64 p1∧U64 p2∧OrOk w1k w1v c0_3):kig (p1,p2,c0_0,c0_1,c0_2,c0_3,w1k,w1v,w2k,w2v,w3k,w3v,()) ((((markP (pk c0_0 c0_3 w1k w1v) p1 p2).getD 0):Int),(((markP (pk c0_0 c0_3 w1k w1v) p1 p2).isSome):Bool),(c0_0:Bool),(c0_1:Int),(c0_2:Int),(c0_3:List TQuestion),(w1k:List ByteArray),(w1v:List Int),(w2k:List ByteArray),(w2v:List (List Int)),(w3k:List ByteArray),(w3v:List Bool),()):=by
 obtain⟨h1,h2,ho⟩:=h
 have j1:∀s:Bool,s=decide (¬(p1<18446744069414584321∧p2<18446744069414584321))→k9h (((markP (pk c0_0 c0_3 w1k w1v) p1 p2).getD 0:Int),((markP (pk c0_0 c0_3 w1k w1v) p1 p2).isSome:Bool),c0_0,c0_1,c0_2,c0_3,w1k,w1v,w2k,w2v,w3k,w3v,()) (p1,p2,s,c0_0,c0_1,c0_2,c0_3,w1k,w1v,w2k,w2v,w3k,w3v,()):=by
  intro s hs
  refine k154 ⟨fun e=> ?_,fun e=> ?_⟩
  ·rw[e]at hs
   have hs:=of_decide_eq_true hs.symm
   unfold markP
   rw[if_neg hs]
   simp
  ·rw[e]at hs
   have hs:p1<18446744069414584321∧p2<18446744069414584321:=by simpa using hs.symm
   unfold markP
   rw[if_pos hs]
   refine⟨⟨by decide,?_,by simp,ho⟩,?_⟩
   ·intro x hx
    simp only[List.mem_cons,List.not_mem_nil,or_false]at hx
    rcases hx with rfl|rfl
    ·exact h1
    ·exact h2
   ·simp
 refine k1el ⟨fun e=>j1 _ ?_,fun e=>j1 _ ?_⟩
 ·have e:=of_decide_eq_true e
  symm;apply decide_eq_true;omega
 ·have e:=of_decide_eq_false e
  congr 1;apply propext;omega
noncomputable def kt9:Con TB.den:=k2n.fnR (fun x=>(fun(p1:Int) (p2:Int) (c0_0:Bool) (c0_1:Int) (c0_2:Int) (c0_3:List TQuestion) (w1k:List ByteArray) (w1v:List Int) (w2k:List ByteArray) (w2v:List (List Int)) (w3k:List ByteArray) (w3v:List Bool)=>U64 p1∧U64 p2∧OrOk w1k w1v c0_3) x.1 x.2.1 x.2.2.1 x.2.2.2.1 x.2.2.2.2.1 x.2.2.2.2.2.1 x.2.2.2.2.2.2.1 x.2.2.2.2.2.2.2.1 x.2.2.2.2.2.2.2.2.1 x.2.2.2.2.2.2.2.2.2.1 x.2.2.2.2.2.2.2.2.2.2.1 x.2.2.2.2.2.2.2.2.2.2.2.1) fun x=>((fun(p1:Int) (p2:Int) (c0_0:Bool) (c0_1:Int) (c0_2:Int) (c0_3:List TQuestion) (w1k:List ByteArray) (w1v:List Int) (w2k:List ByteArray) (w2v:List (List Int)) (w3k:List ByteArray) (w3v:List Bool)=>(((markP (pk c0_0 c0_3 w1k w1v) p1 p2).getD 0):Int)) x.1 x.2.1 x.2.2.1 x.2.2.2.1 x.2.2.2.2.1 x.2.2.2.2.2.1 x.2.2.2.2.2.2.1 x.2.2.2.2.2.2.2.1 x.2.2.2.2.2.2.2.2.1 x.2.2.2.2.2.2.2.2.2.1 x.2.2.2.2.2.2.2.2.2.2.1 x.2.2.2.2.2.2.2.2.2.2.2.1,(fun(p1:Int) (p2:Int) (c0_0:Bool) (c0_1:Int) (c0_2:Int) (c0_3:List TQuestion) (w1k:List ByteArray) (w1v:List Int) (w2k:List ByteArray) (w2v:List (List Int)) (w3k:List ByteArray) (w3v:List Bool)=>(((markP (pk c0_0 c0_3 w1k w1v) p1 p2).isSome):Bool)) x.1 x.2.1 x.2.2.1 x.2.2.2.1 x.2.2.2.2.1 x.2.2.2.2.2.1 x.2.2.2.2.2.2.1 x.2.2.2.2.2.2.2.1 x.2.2.2.2.2.2.2.2.1 x.2.2.2.2.2.2.2.2.2.1 x.2.2.2.2.2.2.2.2.2.2.1 x.2.2.2.2.2.2.2.2.2.2.2.1,(fun(p1:Int) (p2:Int) (c0_0:Bool) (c0_1:Int) (c0_2:Int) (c0_3:List TQuestion) (w1k:List ByteArray) (w1v:List Int) (w2k:List ByteArray) (w2v:List (List Int)) (w3k:List ByteArray) (w3v:List Bool)=>(c0_0:Bool)) x.1 x.2.1 x.2.2.1 x.2.2.2.1 x.2.2.2.2.1 x.2.2.2.2.2.1 x.2.2.2.2.2.2.1 x.2.2.2.2.2.2.2.1 x.2.2.2.2.2.2.2.2.1 x.2.2.2.2.2.2.2.2.2.1 x.2.2.2.2.2.2.2.2.2.2.1 x.2.2.2.2.2.2.2.2.2.2.2.1,(fun(p1:Int) (p2:Int) (c0_0:Bool) (c0_1:Int) (c0_2:Int) (c0_3:List TQuestion) (w1k:List ByteArray) (w1v:List Int) (w2k:List ByteArray) (w2v:List (List Int)) (w3k:List ByteArray) (w3v:List Bool)=>(c0_1:Int)) x.1 x.2.1 x.2.2.1 x.2.2.2.1 x.2.2.2.2.1 x.2.2.2.2.2.1 x.2.2.2.2.2.2.1 x.2.2.2.2.2.2.2.1 x.2.2.2.2.2.2.2.2.1 x.2.2.2.2.2.2.2.2.2.1 x.2.2.2.2.2.2.2.2.2.2.1 x.2.2.2.2.2.2.2.2.2.2.2.1,(fun(p1:Int) (p2:Int) (c0_0:Bool) (c0_1:Int) (c0_2:Int) (c0_3:List TQuestion) (w1k:List ByteArray) (w1v:List Int) (w2k:List ByteArray) (w2v:List (List Int)) (w3k:List ByteArray) (w3v:List Bool)=>(c0_2:Int)) x.1 x.2.1 x.2.2.1 x.2.2.2.1 x.2.2.2.2.1 x.2.2.2.2.2.1 x.2.2.2.2.2.2.1 x.2.2.2.2.2.2.2.1 x.2.2.2.2.2.2.2.2.1 x.2.2.2.2.2.2.2.2.2.1 x.2.2.2.2.2.2.2.2.2.2.1 x.2.2.2.2.2.2.2.2.2.2.2.1,(fun(p1:Int) (p2:Int) (c0_0:Bool) (c0_1:Int) (c0_2:Int) (c0_3:List TQuestion) (w1k:List ByteArray) (w1v:List Int) (w2k:List ByteArray) (w2v:List (List Int)) (w3k:List ByteArray) (w3v:List Bool)=>(c0_3:List TQuestion)) x.1 x.2.1 x.2.2.1 x.2.2.2.1 x.2.2.2.2.1 x.2.2.2.2.2.1 x.2.2.2.2.2.2.1 x.2.2.2.2.2.2.2.1 x.2.2.2.2.2.2.2.2.1 x.2.2.2.2.2.2.2.2.2.1 x.2.2.2.2.2.2.2.2.2.2.1 x.2.2.2.2.2.2.2.2.2.2.2.1,(fun(p1:Int) (p2:Int) (c0_0:Bool) (c0_1:Int) (c0_2:Int) (c0_3:List TQuestion) (w1k:List ByteArray) (w1v:List Int) (w2k:List ByteArray) (w2v:List (List Int)) (w3k:List ByteArray) (w3v:List Bool)=>(w1k:List ByteArray)) x.1 x.2.1 x.2.2.1 x.2.2.2.1 x.2.2.2.2.1 x.2.2.2.2.2.1 x.2.2.2.2.2.2.1 x.2.2.2.2.2.2.2.1 x.2.2.2.2.2.2.2.2.1 x.2.2.2.2.2.2.2.2.2.1 x.2.2.2.2.2.2.2.2.2.2.1 x.2.2.2.2.2.2.2.2.2.2.2.1,(fun(p1:Int) (p2:Int) (c0_0:Bool) (c0_1:Int) (c0_2:Int) (c0_3:List TQuestion) (w1k:List ByteArray) (w1v:List Int) (w2k:List ByteArray) (w2v:List (List Int)) (w3k:List ByteArray) (w3v:List Bool)=>(w1v:List Int)) x.1 x.2.1 x.2.2.1 x.2.2.2.1 x.2.2.2.2.1 x.2.2.2.2.2.1 x.2.2.2.2.2.2.1 x.2.2.2.2.2.2.2.1 x.2.2.2.2.2.2.2.2.1 x.2.2.2.2.2.2.2.2.2.1 x.2.2.2.2.2.2.2.2.2.2.1 x.2.2.2.2.2.2.2.2.2.2.2.1,(fun(p1:Int) (p2:Int) (c0_0:Bool) (c0_1:Int) (c0_2:Int) (c0_3:List TQuestion) (w1k:List ByteArray) (w1v:List Int) (w2k:List ByteArray) (w2v:List (List Int)) (w3k:List ByteArray) (w3v:List Bool)=>(w2k:List ByteArray)) x.1 x.2.1 x.2.2.1 x.2.2.2.1 x.2.2.2.2.1 x.2.2.2.2.2.1 x.2.2.2.2.2.2.1 x.2.2.2.2.2.2.2.1 x.2.2.2.2.2.2.2.2.1 x.2.2.2.2.2.2.2.2.2.1 x.2.2.2.2.2.2.2.2.2.2.1 x.2.2.2.2.2.2.2.2.2.2.2.1,(fun(p1:Int) (p2:Int) (c0_0:Bool) (c0_1:Int) (c0_2:Int) (c0_3:List TQuestion) (w1k:List ByteArray) (w1v:List Int) (w2k:List ByteArray) (w2v:List (List Int)) (w3k:List ByteArray) (w3v:List Bool)=>(w2v:List (List Int))) x.1 x.2.1 x.2.2.1 x.2.2.2.1 x.2.2.2.2.1 x.2.2.2.2.2.1 x.2.2.2.2.2.2.1 x.2.2.2.2.2.2.2.1 x.2.2.2.2.2.2.2.2.1 x.2.2.2.2.2.2.2.2.2.1 x.2.2.2.2.2.2.2.2.2.2.1 x.2.2.2.2.2.2.2.2.2.2.2.1,(fun(p1:Int) (p2:Int) (c0_0:Bool) (c0_1:Int) (c0_2:Int) (c0_3:List TQuestion) (w1k:List ByteArray) (w1v:List Int) (w2k:List ByteArray) (w2v:List (List Int)) (w3k:List ByteArray) (w3v:List Bool)=>(w3k:List ByteArray)) x.1 x.2.1 x.2.2.1 x.2.2.2.1 x.2.2.2.2.1 x.2.2.2.2.2.1 x.2.2.2.2.2.2.1 x.2.2.2.2.2.2.2.1 x.2.2.2.2.2.2.2.2.1 x.2.2.2.2.2.2.2.2.2.1 x.2.2.2.2.2.2.2.2.2.2.1 x.2.2.2.2.2.2.2.2.2.2.2.1,(fun(p1:Int) (p2:Int) (c0_0:Bool) (c0_1:Int) (c0_2:Int) (c0_3:List TQuestion) (w1k:List ByteArray) (w1v:List Int) (w2k:List ByteArray) (w2v:List (List Int)) (w3k:List ByteArray) (w3v:List Bool)=>(w3v:List Bool)) x.1 x.2.1 x.2.2.1 x.2.2.2.1 x.2.2.2.2.1 x.2.2.2.2.2.1 x.2.2.2.2.2.2.1 x.2.2.2.2.2.2.2.1 x.2.2.2.2.2.2.2.2.1 x.2.2.2.2.2.2.2.2.2.1 x.2.2.2.2.2.2.2.2.2.2.1 x.2.2.2.2.2.2.2.2.2.2.2.1,())
theorem k1ct:kt9.Ok Try.prog TB:=Con.ok_fn k2n bd72 fun x h=>k1a4 (k18h x.1 x.2.1 x.2.2.1 x.2.2.2.1 x.2.2.2.2.1 x.2.2.2.2.2.1 x.2.2.2.2.2.2.1 x.2.2.2.2.2.2.2.1 x.2.2.2.2.2.2.2.2.1 x.2.2.2.2.2.2.2.2.2.1 x.2.2.2.2.2.2.2.2.2.2.1 x.2.2.2.2.2.2.2.2.2.2.2.1 h)
def k1i:Con TB.den:=Con.mk0 33 [.one (.ptr 0 0),.agg [.d (.int .i64),.d (.int .u64),.d (.sl (.int .u64)),.d (.sl (.int .u64)),.d (.sl (.int .u64)),.d (.int .u64),.d (.int .u64),.d (.int .u64),.d (.int .u64),.d (.int .u64)],.agg [.d (.int .u64),.d (.int .u64),.d (.int .u64),.d (.int .u64),.d (.int .u64),.d (.int .i64),.d (.int .i64),.d (.sl (.int .u64)),.d (.bool)],.one (.d (.int .u64))] [.cells [.d (.bool),.d (.int .u64),.d (.int .i64),.d (.sl (.st 3)),.mp 1,.mp 2,.mp 3],.map (.str) (.int .i64),.map (.str) (.sl (.int .u64)),.map (.str) (.bool)] (.one (.one (.d (.int .i64)))) [.cells [.d (.bool),.d (.int .u64),.d (.int .i64),.d (.sl (.st 3)),.mp 1,.mp 2,.mp 3],.map (.str) (.int .i64),.map (.str) (.sl (.int .u64)),.map (.str) (.bool)]
abbrev koo:=HL TB.den (hsT k1i.ins (hsOs k1i.pre))
abbrev kai:=HL TB.den (hsV k1i.res (hsOs k1i.post))
noncomputable def k7c:Cx TB:=⟨inf,[kwu,kt9,ke8,ko9],[],4,[]⟩
noncomputable def kc0:Code:=Try.f33.body.getD .skip
noncomputable def ke9:List ResultVar:=Try.f33.results.toList
noncomputable def klm (o:kai):An TB:= .no
def kce (x:koo) (o:kai):Prop:=WPh TB k7c 64 4 kc0 (klm o) (k1i.st TB x) (retTQ TB k7c k1i ke9 o)
theorem kx0 (o:kai):OblH TB k7c 64 4 kc0 (klm o) (retTQ TB k7c k1i ke9 o):=
 OblH.ofC (X:=True) (by kernel_rfl) trivial
theorem kyb {x:koo} {o:kai} (h:kce x o):k1i.Snd Try.prog x o:=
 Con.soundH (c:=k1i) (C:=k7c) TBok ⟨inf_ok,(all_cons k1g6 (all_cons k1ct (all_cons kod (all_cons k15f all_nil)))),all_nil⟩ mix Try.func33 (show Try.f33.body=some kc0 by kernel_rfl) (show Try.f33.ntmps=64 by kernel_rfl) (show Try.f33.results.toList=ke9 by kernel_rfl) rfl h (kx0 o)
theorem k10t {p1:TStatement} {p2:TSpent} {p3:Int} {c0_0:Bool} {c0_1:Int} {c0_2:Int} {c0_3:List TQuestion} {w1k:List ByteArray} {w1v:List Int} {w2k:List ByteArray} {w2v:List (List Int)} {w3k:List ByteArray} {w3v:List Bool} {r0:Int} {d0_0:Bool} {d0_1:Int} {d0_2:Int} {d0_3:List TQuestion} {e1k:List ByteArray} {e1v:List Int} {e2k:List ByteArray} {e2v:List (List Int)} {e3k:List ByteArray} {e3v:List Bool} (h:
((U64 p2.Key∧-9223372036854775808≤p2.Number∧p2.Number≤9223372036854775807)∧let v1:Bool:=(p2.Note_Owner !=(ownerS p2.Key p2.Number))
(v1=true→
 21=r0∧c0_0=d0_0∧c0_1=d0_1∧c0_2=d0_2∧c0_3=d0_3∧w1k=e1k∧w1v=e1v∧w2k=e2k∧w2v=e2v∧w3k=e3k∧w3v=e3v)∧
(v1=false→
(U64 p2.Key∧U64 p2.Note_Rho∧OrOk w1k w1v c0_3)∧let r2:Int:=((markP (pk c0_0 c0_3 w1k w1v) p2.Key p2.Note_Rho).getD 0)
 let r3:Bool:=((markP (pk c0_0 c0_3 w1k w1v) p2.Key p2.Note_Rho).isSome)
((!r3)=true→
 12=r0∧c0_0=d0_0∧c0_1=d0_1∧c0_2=d0_2∧c0_3=d0_3∧w1k=e1k∧w1v=e1v∧w2k=e2k∧w2v=e2v∧w3k=e3k∧w3v=e3v)∧
((!r3)=false→
((r2 !=p3)=true→
 12=r0∧c0_0=d0_0∧c0_1=d0_1∧c0_2=d0_2∧c0_3=d0_3∧w1k=e1k∧w1v=e1v∧w2k=e2k∧w2v=e2v∧w3k=e3k∧w3v=e3v)∧
((r2 !=p3)=false→
(p2.Dummy=true→
((p2.Note_Value !=0)=true→
 13=r0∧c0_0=d0_0∧c0_1=d0_1∧c0_2=d0_2∧c0_3=d0_3∧w1k=e1k∧w1v=e1v∧w2k=e2k∧w2v=e2v∧w3k=e3k∧w3v=e3v)∧
((p2.Note_Value !=0)=false→
 0=r0∧c0_0=d0_0∧c0_1=d0_1∧c0_2=d0_2∧c0_3=d0_3∧w1k=e1k∧w1v=e1v∧w2k=e2k∧w2v=e2v∧w3k=e3k∧w3v=e3v))∧
(p2.Dummy=false→
(NR (TNote.mk p2.Note_Value p2.Note_Owner p2.Note_Rho p2.Note_Blind)∧OrOk w1k w1v c0_3)∧let r4:Int:=((commP (pk c0_0 c0_3 w1k w1v) (TNote.mk p2.Note_Value p2.Note_Owner p2.Note_Rho p2.Note_Blind)).getD 0)
 let r5:Bool:=((commP (pk c0_0 c0_3 w1k w1v) (TNote.mk p2.Note_Value p2.Note_Owner p2.Note_Rho p2.Note_Blind)).isSome)
((!r5)=true→
 11=r0∧c0_0=d0_0∧c0_1=d0_1∧c0_2=d0_2∧c0_3=d0_3∧w1k=e1k∧w1v=e1v∧w2k=e2k∧w2v=e2v∧w3k=e3k∧w3v=e3v)∧
((!r5)=false→
(U64 r4∧Us p2.Path∧p2.Path.length≤1073741824∧p2.Position≤9223372036854775807)∧let v6:Bool:=((climbS r4 p2.Position p2.Path) !=p1.Anchor)
(v6=true→
 11=r0∧c0_0=d0_0∧c0_1=d0_1∧c0_2=d0_2∧c0_3=d0_3∧w1k=e1k∧w1v=e1v∧w2k=e2k∧w2v=e2v∧w3k=e3k∧w3v=e3v)∧
(v6=false→
 0=r0∧c0_0=d0_0∧c0_1=d0_1∧c0_2=d0_2∧c0_3=d0_3∧w1k=e1k∧w1v=e1v∧w2k=e2k∧w2v=e2v∧w3k=e3k∧w3v=e3v)))))))):kce (p1.Depth,p1.Anchor,p1.Marks,p1.Commits,p1.Rhos,p1.Deposit,p1.Withdraw,p1.Fee,p1.Account,p1.Bind,p2.Note_Value,p2.Note_Owner,p2.Note_Rho,p2.Note_Blind,p2.Key,p2.Number,p2.Position,p2.Path,p2.Dummy,p3,c0_0,c0_1,c0_2,c0_3,w1k,w1v,w2k,w2v,w3k,w3v,()) (r0,d0_0,d0_1,d0_2,d0_3,e1k,e1v,e2k,e2v,e3k,e3v,()):=WPh.of_eq (by kernel_rfl) h
theorem bd33:Callable Try.prog 33:=⟨by rw[Try.func33];kernel_rfl,by rw[Try.func33];show some _≠some _;decide⟩
theorem kwh (p1:TStatement) (p2:TSpent) (p3:Int) (c0_0:Bool) (c0_1:Int) (c0_2:Int) (c0_3:List TQuestion) (w1k:List ByteArray) (w1v:List Int) (w2k:List ByteArray) (w2v:List (List Int)) (w3k:List ByteArray) (w3v:List Bool) (h:PR p2∧OrOk w1k w1v c0_3∧(∀l a,(pk c0_0 c0_3 w1k w1v) l a=none∨∃n,(pk c0_0 c0_3 w1k w1v) l a=some n∧U64 n)):kce (p1.Depth,p1.Anchor,p1.Marks,p1.Commits,p1.Rhos,p1.Deposit,p1.Withdraw,p1.Fee,p1.Account,p1.Bind,p2.Note_Value,p2.Note_Owner,p2.Note_Rho,p2.Note_Blind,p2.Key,p2.Number,p2.Position,p2.Path,p2.Dummy,p3,c0_0,c0_1,c0_2,c0_3,w1k,w1v,w2k,w2v,w3k,w3v,()) (((inE (pk c0_0 c0_3 w1k w1v) p1.Anchor p3 p2):Int),(c0_0:Bool),(c0_1:Int),(c0_2:Int),(c0_3:List TQuestion),(w1k:List ByteArray),(w1v:List Int),(w2k:List ByteArray),(w2v:List (List Int)),(w3k:List ByteArray),(w3v:List Bool),()):=by
 obtain⟨hp,ho,hu⟩:=h
 have hm:markP (pk c0_0 c0_3 w1k w1v) p2.Key p2.Note_Rho=none∨∃n,markP (pk c0_0 c0_3 w1k w1v) p2.Key p2.Note_Rho=some n∧U64 n:=by unfold markP;split;exact hu _ _;exact .inl rfl
 have hc:commP (pk c0_0 c0_3 w1k w1v) (noteOf p2)=none∨∃n,commP (pk c0_0 c0_3 w1k w1v) (noteOf p2)=some n∧U64 n:=by unfold commP;split;exact hu _ _;exact .inl rfl
 have hcu:U64 ((commP (pk c0_0 c0_3 w1k w1v) (noteOf p2)).getD 0):=by
  rcases hc with h|⟨n,h,hn⟩
  ·rw[h];decide
  ·rw[h];exact hn
 have en:noteOf p2=⟨p2.Note_Value,p2.Note_Owner,p2.Note_Rho,p2.Note_Blind⟩:=rfl
 refine k10t ⟨⟨hp.k,hp.nu.1,hp.nu.2⟩,?_⟩
 simp only[←en]
 unfold inE
 refine⟨fun e=> ?_,fun e=>⟨⟨hp.k,hp.n.r,ho⟩,fun e2=> ?_,fun e2=>⟨fun e3=> ?_,fun e3=>⟨fun e4=>⟨fun e5=> ?_,fun e5=> ?_⟩,fun e4=>⟨⟨hp.n,ho⟩,fun e6=> ?_,fun e6=>⟨⟨hcu,hp.pa,hp.pl,hp.po.2⟩,fun e7=> ?_,fun e7=> ?_⟩⟩⟩⟩⟩⟩
 all_goals simp_all
noncomputable def kkq:Con TB.den:=k1i.fnR (fun x=>(fun(p1:TStatement) (p2:TSpent) (p3:Int) (c0_0:Bool) (c0_1:Int) (c0_2:Int) (c0_3:List TQuestion) (w1k:List ByteArray) (w1v:List Int) (w2k:List ByteArray) (w2v:List (List Int)) (w3k:List ByteArray) (w3v:List Bool)=>PR p2∧OrOk w1k w1v c0_3∧(∀l a,(pk c0_0 c0_3 w1k w1v) l a=none∨∃n,(pk c0_0 c0_3 w1k w1v) l a=some n∧U64 n)) (TStatement.mk x.1 x.2.1 x.2.2.1 x.2.2.2.1 x.2.2.2.2.1 x.2.2.2.2.2.1 x.2.2.2.2.2.2.1 x.2.2.2.2.2.2.2.1 x.2.2.2.2.2.2.2.2.1 x.2.2.2.2.2.2.2.2.2.1) (TSpent.mk x.2.2.2.2.2.2.2.2.2.2.1 x.2.2.2.2.2.2.2.2.2.2.2.1 x.2.2.2.2.2.2.2.2.2.2.2.2.1 x.2.2.2.2.2.2.2.2.2.2.2.2.2.1 x.2.2.2.2.2.2.2.2.2.2.2.2.2.2.1 x.2.2.2.2.2.2.2.2.2.2.2.2.2.2.2.1 x.2.2.2.2.2.2.2.2.2.2.2.2.2.2.2.2.1 x.2.2.2.2.2.2.2.2.2.2.2.2.2.2.2.2.2.1 x.2.2.2.2.2.2.2.2.2.2.2.2.2.2.2.2.2.2.1) x.2.2.2.2.2.2.2.2.2.2.2.2.2.2.2.2.2.2.2.1 x.2.2.2.2.2.2.2.2.2.2.2.2.2.2.2.2.2.2.2.2.1 x.2.2.2.2.2.2.2.2.2.2.2.2.2.2.2.2.2.2.2.2.2.1 x.2.2.2.2.2.2.2.2.2.2.2.2.2.2.2.2.2.2.2.2.2.2.1 x.2.2.2.2.2.2.2.2.2.2.2.2.2.2.2.2.2.2.2.2.2.2.2.1 x.2.2.2.2.2.2.2.2.2.2.2.2.2.2.2.2.2.2.2.2.2.2.2.2.1 x.2.2.2.2.2.2.2.2.2.2.2.2.2.2.2.2.2.2.2.2.2.2.2.2.2.1 x.2.2.2.2.2.2.2.2.2.2.2.2.2.2.2.2.2.2.2.2.2.2.2.2.2.2.1 x.2.2.2.2.2.2.2.2.2.2.2.2.2.2.2.2.2.2.2.2.2.2.2.2.2.2.2.1 x.2.2.2.2.2.2.2.2.2.2.2.2.2.2.2.2.2.2.2.2.2.2.2.2.2.2.2.2.1 x.2.2.2.2.2.2.2.2.2.2.2.2.2.2.2.2.2.2.2.2.2.2.2.2.2.2.2.2.2.1) fun x=>((fun(p1:TStatement) (p2:TSpent) (p3:Int) (c0_0:Bool) (c0_1:Int) (c0_2:Int) (c0_3:List TQuestion) (w1k:List ByteArray) (w1v:List Int) (w2k:List ByteArray) (w2v:List (List Int)) (w3k:List ByteArray) (w3v:List Bool)=>((inE (pk c0_0 c0_3 w1k w1v) p1.Anchor p3 p2):Int)) (TStatement.mk x.1 x.2.1 x.2.2.1 x.2.2.2.1 x.2.2.2.2.1 x.2.2.2.2.2.1 x.2.2.2.2.2.2.1 x.2.2.2.2.2.2.2.1 x.2.2.2.2.2.2.2.2.1 x.2.2.2.2.2.2.2.2.2.1) (TSpent.mk x.2.2.2.2.2.2.2.2.2.2.1 x.2.2.2.2.2.2.2.2.2.2.2.1 x.2.2.2.2.2.2.2.2.2.2.2.2.1 x.2.2.2.2.2.2.2.2.2.2.2.2.2.1 x.2.2.2.2.2.2.2.2.2.2.2.2.2.2.1 x.2.2.2.2.2.2.2.2.2.2.2.2.2.2.2.1 x.2.2.2.2.2.2.2.2.2.2.2.2.2.2.2.2.1 x.2.2.2.2.2.2.2.2.2.2.2.2.2.2.2.2.2.1 x.2.2.2.2.2.2.2.2.2.2.2.2.2.2.2.2.2.2.1) x.2.2.2.2.2.2.2.2.2.2.2.2.2.2.2.2.2.2.2.1 x.2.2.2.2.2.2.2.2.2.2.2.2.2.2.2.2.2.2.2.2.1 x.2.2.2.2.2.2.2.2.2.2.2.2.2.2.2.2.2.2.2.2.2.1 x.2.2.2.2.2.2.2.2.2.2.2.2.2.2.2.2.2.2.2.2.2.2.1 x.2.2.2.2.2.2.2.2.2.2.2.2.2.2.2.2.2.2.2.2.2.2.2.1 x.2.2.2.2.2.2.2.2.2.2.2.2.2.2.2.2.2.2.2.2.2.2.2.2.1 x.2.2.2.2.2.2.2.2.2.2.2.2.2.2.2.2.2.2.2.2.2.2.2.2.2.1 x.2.2.2.2.2.2.2.2.2.2.2.2.2.2.2.2.2.2.2.2.2.2.2.2.2.2.1 x.2.2.2.2.2.2.2.2.2.2.2.2.2.2.2.2.2.2.2.2.2.2.2.2.2.2.2.1 x.2.2.2.2.2.2.2.2.2.2.2.2.2.2.2.2.2.2.2.2.2.2.2.2.2.2.2.2.1 x.2.2.2.2.2.2.2.2.2.2.2.2.2.2.2.2.2.2.2.2.2.2.2.2.2.2.2.2.2.1,(fun(p1:TStatement) (p2:TSpent) (p3:Int) (c0_0:Bool) (c0_1:Int) (c0_2:Int) (c0_3:List TQuestion) (w1k:List ByteArray) (w1v:List Int) (w2k:List ByteArray) (w2v:List (List Int)) (w3k:List ByteArray) (w3v:List Bool)=>(c0_0:Bool)) (TStatement.mk x.1 x.2.1 x.2.2.1 x.2.2.2.1 x.2.2.2.2.1 x.2.2.2.2.2.1 x.2.2.2.2.2.2.1 x.2.2.2.2.2.2.2.1 x.2.2.2.2.2.2.2.2.1 x.2.2.2.2.2.2.2.2.2.1) (TSpent.mk x.2.2.2.2.2.2.2.2.2.2.1 x.2.2.2.2.2.2.2.2.2.2.2.1 x.2.2.2.2.2.2.2.2.2.2.2.2.1 x.2.2.2.2.2.2.2.2.2.2.2.2.2.1 x.2.2.2.2.2.2.2.2.2.2.2.2.2.2.1 x.2.2.2.2.2.2.2.2.2.2.2.2.2.2.2.1 x.2.2.2.2.2.2.2.2.2.2.2.2.2.2.2.2.1 x.2.2.2.2.2.2.2.2.2.2.2.2.2.2.2.2.2.1 x.2.2.2.2.2.2.2.2.2.2.2.2.2.2.2.2.2.2.1) x.2.2.2.2.2.2.2.2.2.2.2.2.2.2.2.2.2.2.2.1 x.2.2.2.2.2.2.2.2.2.2.2.2.2.2.2.2.2.2.2.2.1 x.2.2.2.2.2.2.2.2.2.2.2.2.2.2.2.2.2.2.2.2.2.1 x.2.2.2.2.2.2.2.2.2.2.2.2.2.2.2.2.2.2.2.2.2.2.1 x.2.2.2.2.2.2.2.2.2.2.2.2.2.2.2.2.2.2.2.2.2.2.2.1 x.2.2.2.2.2.2.2.2.2.2.2.2.2.2.2.2.2.2.2.2.2.2.2.2.1 x.2.2.2.2.2.2.2.2.2.2.2.2.2.2.2.2.2.2.2.2.2.2.2.2.2.1 x.2.2.2.2.2.2.2.2.2.2.2.2.2.2.2.2.2.2.2.2.2.2.2.2.2.2.1 x.2.2.2.2.2.2.2.2.2.2.2.2.2.2.2.2.2.2.2.2.2.2.2.2.2.2.2.1 x.2.2.2.2.2.2.2.2.2.2.2.2.2.2.2.2.2.2.2.2.2.2.2.2.2.2.2.2.1 x.2.2.2.2.2.2.2.2.2.2.2.2.2.2.2.2.2.2.2.2.2.2.2.2.2.2.2.2.2.1,(fun(p1:TStatement) (p2:TSpent) (p3:Int) (c0_0:Bool) (c0_1:Int) (c0_2:Int) (c0_3:List TQuestion) (w1k:List ByteArray) (w1v:List Int) (w2k:List ByteArray) (w2v:List (List Int)) (w3k:List ByteArray) (w3v:List Bool)=>(c0_1:Int)) (TStatement.mk x.1 x.2.1 x.2.2.1 x.2.2.2.1 x.2.2.2.2.1 x.2.2.2.2.2.1 x.2.2.2.2.2.2.1 x.2.2.2.2.2.2.2.1 x.2.2.2.2.2.2.2.2.1 x.2.2.2.2.2.2.2.2.2.1) (TSpent.mk x.2.2.2.2.2.2.2.2.2.2.1 x.2.2.2.2.2.2.2.2.2.2.2.1 x.2.2.2.2.2.2.2.2.2.2.2.2.1 x.2.2.2.2.2.2.2.2.2.2.2.2.2.1 x.2.2.2.2.2.2.2.2.2.2.2.2.2.2.1 x.2.2.2.2.2.2.2.2.2.2.2.2.2.2.2.1 x.2.2.2.2.2.2.2.2.2.2.2.2.2.2.2.2.1 x.2.2.2.2.2.2.2.2.2.2.2.2.2.2.2.2.2.1 x.2.2.2.2.2.2.2.2.2.2.2.2.2.2.2.2.2.2.1) x.2.2.2.2.2.2.2.2.2.2.2.2.2.2.2.2.2.2.2.1 x.2.2.2.2.2.2.2.2.2.2.2.2.2.2.2.2.2.2.2.2.1 x.2.2.2.2.2.2.2.2.2.2.2.2.2.2.2.2.2.2.2.2.2.1 x.2.2.2.2.2.2.2.2.2.2.2.2.2.2.2.2.2.2.2.2.2.2.1 x.2.2.2.2.2.2.2.2.2.2.2.2.2.2.2.2.2.2.2.2.2.2.2.1 x.2.2.2.2.2.2.2.2.2.2.2.2.2.2.2.2.2.2.2.2.2.2.2.2.1 x.2.2.2.2.2.2.2.2.2.2.2.2.2.2.2.2.2.2.2.2.2.2.2.2.2.1 x.2.2.2.2.2.2.2.2.2.2.2.2.2.2.2.2.2.2.2.2.2.2.2.2.2.2.1 x.2.2.2.2.2.2.2.2.2.2.2.2.2.2.2.2.2.2.2.2.2.2.2.2.2.2.2.1 x.2.2.2.2.2.2.2.2.2.2.2.2.2.2.2.2.2.2.2.2.2.2.2.2.2.2.2.2.1 x.2.2.2.2.2.2.2.2.2.2.2.2.2.2.2.2.2.2.2.2.2.2.2.2.2.2.2.2.2.1,(fun(p1:TStatement) (p2:TSpent) (p3:Int) (c0_0:Bool) (c0_1:Int) (c0_2:Int) (c0_3:List TQuestion) (w1k:List ByteArray) (w1v:List Int) (w2k:List ByteArray) (w2v:List (List Int)) (w3k:List ByteArray) (w3v:List Bool)=>(c0_2:Int)) (TStatement.mk x.1 x.2.1 x.2.2.1 x.2.2.2.1 x.2.2.2.2.1 x.2.2.2.2.2.1 x.2.2.2.2.2.2.1 x.2.2.2.2.2.2.2.1 x.2.2.2.2.2.2.2.2.1 x.2.2.2.2.2.2.2.2.2.1) (TSpent.mk x.2.2.2.2.2.2.2.2.2.2.1 x.2.2.2.2.2.2.2.2.2.2.2.1 x.2.2.2.2.2.2.2.2.2.2.2.2.1 x.2.2.2.2.2.2.2.2.2.2.2.2.2.1 x.2.2.2.2.2.2.2.2.2.2.2.2.2.2.1 x.2.2.2.2.2.2.2.2.2.2.2.2.2.2.2.1 x.2.2.2.2.2.2.2.2.2.2.2.2.2.2.2.2.1 x.2.2.2.2.2.2.2.2.2.2.2.2.2.2.2.2.2.1 x.2.2.2.2.2.2.2.2.2.2.2.2.2.2.2.2.2.2.1) x.2.2.2.2.2.2.2.2.2.2.2.2.2.2.2.2.2.2.2.1 x.2.2.2.2.2.2.2.2.2.2.2.2.2.2.2.2.2.2.2.2.1 x.2.2.2.2.2.2.2.2.2.2.2.2.2.2.2.2.2.2.2.2.2.1 x.2.2.2.2.2.2.2.2.2.2.2.2.2.2.2.2.2.2.2.2.2.2.1 x.2.2.2.2.2.2.2.2.2.2.2.2.2.2.2.2.2.2.2.2.2.2.2.1 x.2.2.2.2.2.2.2.2.2.2.2.2.2.2.2.2.2.2.2.2.2.2.2.2.1 x.2.2.2.2.2.2.2.2.2.2.2.2.2.2.2.2.2.2.2.2.2.2.2.2.2.1 x.2.2.2.2.2.2.2.2.2.2.2.2.2.2.2.2.2.2.2.2.2.2.2.2.2.2.1 x.2.2.2.2.2.2.2.2.2.2.2.2.2.2.2.2.2.2.2.2.2.2.2.2.2.2.2.1 x.2.2.2.2.2.2.2.2.2.2.2.2.2.2.2.2.2.2.2.2.2.2.2.2.2.2.2.2.1 x.2.2.2.2.2.2.2.2.2.2.2.2.2.2.2.2.2.2.2.2.2.2.2.2.2.2.2.2.2.1,(fun(p1:TStatement) (p2:TSpent) (p3:Int) (c0_0:Bool) (c0_1:Int) (c0_2:Int) (c0_3:List TQuestion) (w1k:List ByteArray) (w1v:List Int) (w2k:List ByteArray) (w2v:List (List Int)) (w3k:List ByteArray) (w3v:List Bool)=>(c0_3:List TQuestion)) (TStatement.mk x.1 x.2.1 x.2.2.1 x.2.2.2.1 x.2.2.2.2.1 x.2.2.2.2.2.1 x.2.2.2.2.2.2.1 x.2.2.2.2.2.2.2.1 x.2.2.2.2.2.2.2.2.1 x.2.2.2.2.2.2.2.2.2.1) (TSpent.mk x.2.2.2.2.2.2.2.2.2.2.1 x.2.2.2.2.2.2.2.2.2.2.2.1 x.2.2.2.2.2.2.2.2.2.2.2.2.1 x.2.2.2.2.2.2.2.2.2.2.2.2.2.1 x.2.2.2.2.2.2.2.2.2.2.2.2.2.2.1 x.2.2.2.2.2.2.2.2.2.2.2.2.2.2.2.1 x.2.2.2.2.2.2.2.2.2.2.2.2.2.2.2.2.1 x.2.2.2.2.2.2.2.2.2.2.2.2.2.2.2.2.2.1 x.2.2.2.2.2.2.2.2.2.2.2.2.2.2.2.2.2.2.1) x.2.2.2.2.2.2.2.2.2.2.2.2.2.2.2.2.2.2.2.1 x.2.2.2.2.2.2.2.2.2.2.2.2.2.2.2.2.2.2.2.2.1 x.2.2.2.2.2.2.2.2.2.2.2.2.2.2.2.2.2.2.2.2.2.1 x.2.2.2.2.2.2.2.2.2.2.2.2.2.2.2.2.2.2.2.2.2.2.1 x.2.2.2.2.2.2.2.2.2.2.2.2.2.2.2.2.2.2.2.2.2.2.2.1 x.2.2.2.2.2.2.2.2.2.2.2.2.2.2.2.2.2.2.2.2.2.2.2.2.1 x.2.2.2.2.2.2.2.2.2.2.2.2.2.2.2.2.2.2.2.2.2.2.2.2.2.1 x.2.2.2.2.2.2.2.2.2.2.2.2.2.2.2.2.2.2.2.2.2.2.2.2.2.2.1 x.2.2.2.2.2.2.2.2.2.2.2.2.2.2.2.2.2.2.2.2.2.2.2.2.2.2.2.1 x.2.2.2.2.2.2.2.2.2.2.2.2.2.2.2.2.2.2.2.2.2.2.2.2.2.2.2.2.1 x.2.2.2.2.2.2.2.2.2.2.2.2.2.2.2.2.2.2.2.2.2.2.2.2.2.2.2.2.2.1,(fun(p1:TStatement) (p2:TSpent) (p3:Int) (c0_0:Bool) (c0_1:Int) (c0_2:Int) (c0_3:List TQuestion) (w1k:List ByteArray) (w1v:List Int) (w2k:List ByteArray) (w2v:List (List Int)) (w3k:List ByteArray) (w3v:List Bool)=>(w1k:List ByteArray)) (TStatement.mk x.1 x.2.1 x.2.2.1 x.2.2.2.1 x.2.2.2.2.1 x.2.2.2.2.2.1 x.2.2.2.2.2.2.1 x.2.2.2.2.2.2.2.1 x.2.2.2.2.2.2.2.2.1 x.2.2.2.2.2.2.2.2.2.1) (TSpent.mk x.2.2.2.2.2.2.2.2.2.2.1 x.2.2.2.2.2.2.2.2.2.2.2.1 x.2.2.2.2.2.2.2.2.2.2.2.2.1 x.2.2.2.2.2.2.2.2.2.2.2.2.2.1 x.2.2.2.2.2.2.2.2.2.2.2.2.2.2.1 x.2.2.2.2.2.2.2.2.2.2.2.2.2.2.2.1 x.2.2.2.2.2.2.2.2.2.2.2.2.2.2.2.2.1 x.2.2.2.2.2.2.2.2.2.2.2.2.2.2.2.2.2.1 x.2.2.2.2.2.2.2.2.2.2.2.2.2.2.2.2.2.2.1) x.2.2.2.2.2.2.2.2.2.2.2.2.2.2.2.2.2.2.2.1 x.2.2.2.2.2.2.2.2.2.2.2.2.2.2.2.2.2.2.2.2.1 x.2.2.2.2.2.2.2.2.2.2.2.2.2.2.2.2.2.2.2.2.2.1 x.2.2.2.2.2.2.2.2.2.2.2.2.2.2.2.2.2.2.2.2.2.2.1 x.2.2.2.2.2.2.2.2.2.2.2.2.2.2.2.2.2.2.2.2.2.2.2.1 x.2.2.2.2.2.2.2.2.2.2.2.2.2.2.2.2.2.2.2.2.2.2.2.2.1 x.2.2.2.2.2.2.2.2.2.2.2.2.2.2.2.2.2.2.2.2.2.2.2.2.2.1 x.2.2.2.2.2.2.2.2.2.2.2.2.2.2.2.2.2.2.2.2.2.2.2.2.2.2.1 x.2.2.2.2.2.2.2.2.2.2.2.2.2.2.2.2.2.2.2.2.2.2.2.2.2.2.2.1 x.2.2.2.2.2.2.2.2.2.2.2.2.2.2.2.2.2.2.2.2.2.2.2.2.2.2.2.2.1 x.2.2.2.2.2.2.2.2.2.2.2.2.2.2.2.2.2.2.2.2.2.2.2.2.2.2.2.2.2.1,(fun(p1:TStatement) (p2:TSpent) (p3:Int) (c0_0:Bool) (c0_1:Int) (c0_2:Int) (c0_3:List TQuestion) (w1k:List ByteArray) (w1v:List Int) (w2k:List ByteArray) (w2v:List (List Int)) (w3k:List ByteArray) (w3v:List Bool)=>(w1v:List Int)) (TStatement.mk x.1 x.2.1 x.2.2.1 x.2.2.2.1 x.2.2.2.2.1 x.2.2.2.2.2.1 x.2.2.2.2.2.2.1 x.2.2.2.2.2.2.2.1 x.2.2.2.2.2.2.2.2.1 x.2.2.2.2.2.2.2.2.2.1) (TSpent.mk x.2.2.2.2.2.2.2.2.2.2.1 x.2.2.2.2.2.2.2.2.2.2.2.1 x.2.2.2.2.2.2.2.2.2.2.2.2.1 x.2.2.2.2.2.2.2.2.2.2.2.2.2.1 x.2.2.2.2.2.2.2.2.2.2.2.2.2.2.1 x.2.2.2.2.2.2.2.2.2.2.2.2.2.2.2.1 x.2.2.2.2.2.2.2.2.2.2.2.2.2.2.2.2.1 x.2.2.2.2.2.2.2.2.2.2.2.2.2.2.2.2.2.1 x.2.2.2.2.2.2.2.2.2.2.2.2.2.2.2.2.2.2.1) x.2.2.2.2.2.2.2.2.2.2.2.2.2.2.2.2.2.2.2.1 x.2.2.2.2.2.2.2.2.2.2.2.2.2.2.2.2.2.2.2.2.1 x.2.2.2.2.2.2.2.2.2.2.2.2.2.2.2.2.2.2.2.2.2.1 x.2.2.2.2.2.2.2.2.2.2.2.2.2.2.2.2.2.2.2.2.2.2.1 x.2.2.2.2.2.2.2.2.2.2.2.2.2.2.2.2.2.2.2.2.2.2.2.1 x.2.2.2.2.2.2.2.2.2.2.2.2.2.2.2.2.2.2.2.2.2.2.2.2.1 x.2.2.2.2.2.2.2.2.2.2.2.2.2.2.2.2.2.2.2.2.2.2.2.2.2.1 x.2.2.2.2.2.2.2.2.2.2.2.2.2.2.2.2.2.2.2.2.2.2.2.2.2.2.1 x.2.2.2.2.2.2.2.2.2.2.2.2.2.2.2.2.2.2.2.2.2.2.2.2.2.2.2.1 x.2.2.2.2.2.2.2.2.2.2.2.2.2.2.2.2.2.2.2.2.2.2.2.2.2.2.2.2.1 x.2.2.2.2.2.2.2.2.2.2.2.2.2.2.2.2.2.2.2.2.2.2.2.2.2.2.2.2.2.1,(fun(p1:TStatement) (p2:TSpent) (p3:Int) (c0_0:Bool) (c0_1:Int) (c0_2:Int) (c0_3:List TQuestion) (w1k:List ByteArray) (w1v:List Int) (w2k:List ByteArray) (w2v:List (List Int)) (w3k:List ByteArray) (w3v:List Bool)=>(w2k:List ByteArray)) (TStatement.mk x.1 x.2.1 x.2.2.1 x.2.2.2.1 x.2.2.2.2.1 x.2.2.2.2.2.1 x.2.2.2.2.2.2.1 x.2.2.2.2.2.2.2.1 x.2.2.2.2.2.2.2.2.1 x.2.2.2.2.2.2.2.2.2.1) (TSpent.mk x.2.2.2.2.2.2.2.2.2.2.1 x.2.2.2.2.2.2.2.2.2.2.2.1 x.2.2.2.2.2.2.2.2.2.2.2.2.1 x.2.2.2.2.2.2.2.2.2.2.2.2.2.1 x.2.2.2.2.2.2.2.2.2.2.2.2.2.2.1 x.2.2.2.2.2.2.2.2.2.2.2.2.2.2.2.1 x.2.2.2.2.2.2.2.2.2.2.2.2.2.2.2.2.1 x.2.2.2.2.2.2.2.2.2.2.2.2.2.2.2.2.2.1 x.2.2.2.2.2.2.2.2.2.2.2.2.2.2.2.2.2.2.1) x.2.2.2.2.2.2.2.2.2.2.2.2.2.2.2.2.2.2.2.1 x.2.2.2.2.2.2.2.2.2.2.2.2.2.2.2.2.2.2.2.2.1 x.2.2.2.2.2.2.2.2.2.2.2.2.2.2.2.2.2.2.2.2.2.1 x.2.2.2.2.2.2.2.2.2.2.2.2.2.2.2.2.2.2.2.2.2.2.1 x.2.2.2.2.2.2.2.2.2.2.2.2.2.2.2.2.2.2.2.2.2.2.2.1 x.2.2.2.2.2.2.2.2.2.2.2.2.2.2.2.2.2.2.2.2.2.2.2.2.1 x.2.2.2.2.2.2.2.2.2.2.2.2.2.2.2.2.2.2.2.2.2.2.2.2.2.1 x.2.2.2.2.2.2.2.2.2.2.2.2.2.2.2.2.2.2.2.2.2.2.2.2.2.2.1 x.2.2.2.2.2.2.2.2.2.2.2.2.2.2.2.2.2.2.2.2.2.2.2.2.2.2.2.1 x.2.2.2.2.2.2.2.2.2.2.2.2.2.2.2.2.2.2.2.2.2.2.2.2.2.2.2.2.1 x.2.2.2.2.2.2.2.2.2.2.2.2.2.2.2.2.2.2.2.2.2.2.2.2.2.2.2.2.2.1,(fun(p1:TStatement) (p2:TSpent) (p3:Int) (c0_0:Bool) (c0_1:Int) (c0_2:Int) (c0_3:List TQuestion) (w1k:List ByteArray) (w1v:List Int) (w2k:List ByteArray) (w2v:List (List Int)) (w3k:List ByteArray) (w3v:List Bool)=>(w2v:List (List Int))) (TStatement.mk x.1 x.2.1 x.2.2.1 x.2.2.2.1 x.2.2.2.2.1 x.2.2.2.2.2.1 x.2.2.2.2.2.2.1 x.2.2.2.2.2.2.2.1 x.2.2.2.2.2.2.2.2.1 x.2.2.2.2.2.2.2.2.2.1) (TSpent.mk x.2.2.2.2.2.2.2.2.2.2.1 x.2.2.2.2.2.2.2.2.2.2.2.1 x.2.2.2.2.2.2.2.2.2.2.2.2.1 x.2.2.2.2.2.2.2.2.2.2.2.2.2.1 x.2.2.2.2.2.2.2.2.2.2.2.2.2.2.1 x.2.2.2.2.2.2.2.2.2.2.2.2.2.2.2.1 x.2.2.2.2.2.2.2.2.2.2.2.2.2.2.2.2.1 x.2.2.2.2.2.2.2.2.2.2.2.2.2.2.2.2.2.1 x.2.2.2.2.2.2.2.2.2.2.2.2.2.2.2.2.2.2.1) x.2.2.2.2.2.2.2.2.2.2.2.2.2.2.2.2.2.2.2.1 x.2.2.2.2.2.2.2.2.2.2.2.2.2.2.2.2.2.2.2.2.1 x.2.2.2.2.2.2.2.2.2.2.2.2.2.2.2.2.2.2.2.2.2.1 x.2.2.2.2.2.2.2.2.2.2.2.2.2.2.2.2.2.2.2.2.2.2.1 x.2.2.2.2.2.2.2.2.2.2.2.2.2.2.2.2.2.2.2.2.2.2.2.1 x.2.2.2.2.2.2.2.2.2.2.2.2.2.2.2.2.2.2.2.2.2.2.2.2.1 x.2.2.2.2.2.2.2.2.2.2.2.2.2.2.2.2.2.2.2.2.2.2.2.2.2.1 x.2.2.2.2.2.2.2.2.2.2.2.2.2.2.2.2.2.2.2.2.2.2.2.2.2.2.1 x.2.2.2.2.2.2.2.2.2.2.2.2.2.2.2.2.2.2.2.2.2.2.2.2.2.2.2.1 x.2.2.2.2.2.2.2.2.2.2.2.2.2.2.2.2.2.2.2.2.2.2.2.2.2.2.2.2.1 x.2.2.2.2.2.2.2.2.2.2.2.2.2.2.2.2.2.2.2.2.2.2.2.2.2.2.2.2.2.1,(fun(p1:TStatement) (p2:TSpent) (p3:Int) (c0_0:Bool) (c0_1:Int) (c0_2:Int) (c0_3:List TQuestion) (w1k:List ByteArray) (w1v:List Int) (w2k:List ByteArray) (w2v:List (List Int)) (w3k:List ByteArray) (w3v:List Bool)=>(w3k:List ByteArray)) (TStatement.mk x.1 x.2.1 x.2.2.1 x.2.2.2.1 x.2.2.2.2.1 x.2.2.2.2.2.1 x.2.2.2.2.2.2.1 x.2.2.2.2.2.2.2.1 x.2.2.2.2.2.2.2.2.1 x.2.2.2.2.2.2.2.2.2.1) (TSpent.mk x.2.2.2.2.2.2.2.2.2.2.1 x.2.2.2.2.2.2.2.2.2.2.2.1 x.2.2.2.2.2.2.2.2.2.2.2.2.1 x.2.2.2.2.2.2.2.2.2.2.2.2.2.1 x.2.2.2.2.2.2.2.2.2.2.2.2.2.2.1 x.2.2.2.2.2.2.2.2.2.2.2.2.2.2.2.1 x.2.2.2.2.2.2.2.2.2.2.2.2.2.2.2.2.1 x.2.2.2.2.2.2.2.2.2.2.2.2.2.2.2.2.2.1 x.2.2.2.2.2.2.2.2.2.2.2.2.2.2.2.2.2.2.1) x.2.2.2.2.2.2.2.2.2.2.2.2.2.2.2.2.2.2.2.1 x.2.2.2.2.2.2.2.2.2.2.2.2.2.2.2.2.2.2.2.2.1 x.2.2.2.2.2.2.2.2.2.2.2.2.2.2.2.2.2.2.2.2.2.1 x.2.2.2.2.2.2.2.2.2.2.2.2.2.2.2.2.2.2.2.2.2.2.1 x.2.2.2.2.2.2.2.2.2.2.2.2.2.2.2.2.2.2.2.2.2.2.2.1 x.2.2.2.2.2.2.2.2.2.2.2.2.2.2.2.2.2.2.2.2.2.2.2.2.1 x.2.2.2.2.2.2.2.2.2.2.2.2.2.2.2.2.2.2.2.2.2.2.2.2.2.1 x.2.2.2.2.2.2.2.2.2.2.2.2.2.2.2.2.2.2.2.2.2.2.2.2.2.2.1 x.2.2.2.2.2.2.2.2.2.2.2.2.2.2.2.2.2.2.2.2.2.2.2.2.2.2.2.1 x.2.2.2.2.2.2.2.2.2.2.2.2.2.2.2.2.2.2.2.2.2.2.2.2.2.2.2.2.1 x.2.2.2.2.2.2.2.2.2.2.2.2.2.2.2.2.2.2.2.2.2.2.2.2.2.2.2.2.2.1,(fun(p1:TStatement) (p2:TSpent) (p3:Int) (c0_0:Bool) (c0_1:Int) (c0_2:Int) (c0_3:List TQuestion) (w1k:List ByteArray) (w1v:List Int) (w2k:List ByteArray) (w2v:List (List Int)) (w3k:List ByteArray) (w3v:List Bool)=>(w3v:List Bool)) (TStatement.mk x.1 x.2.1 x.2.2.1 x.2.2.2.1 x.2.2.2.2.1 x.2.2.2.2.2.1 x.2.2.2.2.2.2.1 x.2.2.2.2.2.2.2.1 x.2.2.2.2.2.2.2.2.1 x.2.2.2.2.2.2.2.2.2.1) (TSpent.mk x.2.2.2.2.2.2.2.2.2.2.1 x.2.2.2.2.2.2.2.2.2.2.2.1 x.2.2.2.2.2.2.2.2.2.2.2.2.1 x.2.2.2.2.2.2.2.2.2.2.2.2.2.1 x.2.2.2.2.2.2.2.2.2.2.2.2.2.2.1 x.2.2.2.2.2.2.2.2.2.2.2.2.2.2.2.1 x.2.2.2.2.2.2.2.2.2.2.2.2.2.2.2.2.1 x.2.2.2.2.2.2.2.2.2.2.2.2.2.2.2.2.2.1 x.2.2.2.2.2.2.2.2.2.2.2.2.2.2.2.2.2.2.1) x.2.2.2.2.2.2.2.2.2.2.2.2.2.2.2.2.2.2.2.1 x.2.2.2.2.2.2.2.2.2.2.2.2.2.2.2.2.2.2.2.2.1 x.2.2.2.2.2.2.2.2.2.2.2.2.2.2.2.2.2.2.2.2.2.1 x.2.2.2.2.2.2.2.2.2.2.2.2.2.2.2.2.2.2.2.2.2.2.1 x.2.2.2.2.2.2.2.2.2.2.2.2.2.2.2.2.2.2.2.2.2.2.2.1 x.2.2.2.2.2.2.2.2.2.2.2.2.2.2.2.2.2.2.2.2.2.2.2.2.1 x.2.2.2.2.2.2.2.2.2.2.2.2.2.2.2.2.2.2.2.2.2.2.2.2.2.1 x.2.2.2.2.2.2.2.2.2.2.2.2.2.2.2.2.2.2.2.2.2.2.2.2.2.2.1 x.2.2.2.2.2.2.2.2.2.2.2.2.2.2.2.2.2.2.2.2.2.2.2.2.2.2.2.1 x.2.2.2.2.2.2.2.2.2.2.2.2.2.2.2.2.2.2.2.2.2.2.2.2.2.2.2.2.1 x.2.2.2.2.2.2.2.2.2.2.2.2.2.2.2.2.2.2.2.2.2.2.2.2.2.2.2.2.2.1,())
theorem k115:kkq.Ok Try.prog TB:=Con.ok_fn k1i bd33 fun x h=>kyb (kwh (TStatement.mk x.1 x.2.1 x.2.2.1 x.2.2.2.1 x.2.2.2.2.1 x.2.2.2.2.2.1 x.2.2.2.2.2.2.1 x.2.2.2.2.2.2.2.1 x.2.2.2.2.2.2.2.2.1 x.2.2.2.2.2.2.2.2.2.1) (TSpent.mk x.2.2.2.2.2.2.2.2.2.2.1 x.2.2.2.2.2.2.2.2.2.2.2.1 x.2.2.2.2.2.2.2.2.2.2.2.2.1 x.2.2.2.2.2.2.2.2.2.2.2.2.2.1 x.2.2.2.2.2.2.2.2.2.2.2.2.2.2.1 x.2.2.2.2.2.2.2.2.2.2.2.2.2.2.2.1 x.2.2.2.2.2.2.2.2.2.2.2.2.2.2.2.2.1 x.2.2.2.2.2.2.2.2.2.2.2.2.2.2.2.2.2.1 x.2.2.2.2.2.2.2.2.2.2.2.2.2.2.2.2.2.2.1) x.2.2.2.2.2.2.2.2.2.2.2.2.2.2.2.2.2.2.2.1 x.2.2.2.2.2.2.2.2.2.2.2.2.2.2.2.2.2.2.2.2.1 x.2.2.2.2.2.2.2.2.2.2.2.2.2.2.2.2.2.2.2.2.2.1 x.2.2.2.2.2.2.2.2.2.2.2.2.2.2.2.2.2.2.2.2.2.2.1 x.2.2.2.2.2.2.2.2.2.2.2.2.2.2.2.2.2.2.2.2.2.2.2.1 x.2.2.2.2.2.2.2.2.2.2.2.2.2.2.2.2.2.2.2.2.2.2.2.2.1 x.2.2.2.2.2.2.2.2.2.2.2.2.2.2.2.2.2.2.2.2.2.2.2.2.2.1 x.2.2.2.2.2.2.2.2.2.2.2.2.2.2.2.2.2.2.2.2.2.2.2.2.2.2.1 x.2.2.2.2.2.2.2.2.2.2.2.2.2.2.2.2.2.2.2.2.2.2.2.2.2.2.2.1 x.2.2.2.2.2.2.2.2.2.2.2.2.2.2.2.2.2.2.2.2.2.2.2.2.2.2.2.2.1 x.2.2.2.2.2.2.2.2.2.2.2.2.2.2.2.2.2.2.2.2.2.2.2.2.2.2.2.2.2.1 h)
end Go.Proofs.Ytpffhgljgpjenaa
end
