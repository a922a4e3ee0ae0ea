/-
  Parts of the proofs that the laws of this seat hold of every input, merged by a program: a machine over pure data that is sound for the model, what each function of the translation does in it, and plain lemmas. No conditions but those in each theorem.
-/
import Derived.Test.YtpffhgljgpjenaaA4
set_option maxRecDepth 100000
noncomputable section
namespace Go.Proofs.Ytpffhgljgpjenaa
open Go Go.Bv Go.Cv Go.Md Go.RowKit
def k3g:Con TB.den:=Con.mk0 30 [.one (.d (.int .u64))] [] (.tup [.agg [.d (.int .i64),.d (.int .u64),.d (.sl (.int .u64)),.d (.sl (.int .u64)),.d (.sl (.int .u64)),.d (.int .u64),.d (.int .u64),.d (.int .u64),.d (.int .u64),.d (.int .u64)],.agg [.d (.sl (.st 0)),.d (.sl (.st 1)),.d (.int .u64)]]) []
abbrev kz1:=HL TB.den (hsT k3g.ins (hsOs k3g.pre))
abbrev ki5:=HL TB.den (hsV k3g.res (hsOs k3g.post))
def kcp:Cx TB:=⟨inf,[kwq,ktt],[],4,[]⟩
def kie:Code:=Try.f30.body.getD .skip
def kn1:List ResultVar:=Try.f30.results.toList
def kvh (o:ki5):An TB:= .no
def kj8 (x:kz1) (o:ki5):Prop:=WPh TB kcp 18 0 kie (kvh o) (k3g.st TB x) (retTQ TB kcp k3g kn1 o)
theorem k1ag (o:ki5):OblH TB kcp 18 0 kie (kvh o) (retTQ TB kcp k3g kn1 o):=
 OblH.ofC (X:=True) (by kernel_rfl) trivial
theorem k1bd {x:kz1} {o:ki5} (h:kj8 x o):k3g.Snd Try.prog x o:=
 Con.soundH (c:=k3g) (C:=kcp) TBok ⟨inf_ok,(all_cons k1hw (all_cons k1dc all_nil)),all_nil⟩ mix Try.func30 (show Try.f30.body=some kie by kernel_rfl) (show Try.f30.ntmps=18 by kernel_rfl) (show Try.f30.results.toList=kn1 by kernel_rfl) rfl h (k1ag o)
theorem k1dg {p0:Int} {r0:TStatement} {r1:TWitness} (h:
((NR (TNote.mk 5 1 2 3))∧let r2:Int:=(if noteV (TNote.mk 5 1 2 3)=true then hashS 2 (noteL (TNote.mk 5 1 2 3))else 0)
(U64 (9:Int)∧(9:Int)<18446744069414584321)∧1=r0.Depth∧0=r0.Anchor∧([]:List Int)=r0.Marks∧[r2]=r0.Commits∧[2]=r0.Rhos∧7=r0.Deposit∧0=r0.Withdraw∧p0=r0.Fee∧(acctS (9:Int))=r0.Account∧0=r0.Bind∧([]:List TSpent)=r1.Ins∧[TNote.mk 5 1 2 3]=r1.Outs∧9=r1.Secret)):kj8 (p0,()) (r0.Depth,r0.Anchor,r0.Marks,r0.Commits,r0.Rhos,r0.Deposit,r0.Withdraw,r0.Fee,r0.Account,r0.Bind,r1.Ins,r1.Outs,r1.Secret,()):=WPh.of_eq (by kernel_rfl) h
theorem bd30:Callable Try.prog 30:=⟨by rw[Try.func30];kernel_rfl,by rw[Try.func30];show some _≠some _;decide⟩
theorem k197 (p0:Int) (h:U64 p0):kj8 (p0,()) (((exS p0).Depth:Int),((exS p0).Anchor:Int),((exS p0).Marks:List Int),((exS p0).Commits:List Int),((exS p0).Rhos:List Int),((exS p0).Deposit:Int),((exS p0).Withdraw:Int),((exS p0).Fee:Int),((exS p0).Account:Int),((exS p0).Bind:Int),(exW.Ins:List TSpent),(exW.Outs:List TNote),(exW.Secret:Int),()):=by
 refine k1dg (r0:=exS p0) (r1:=exW) ⟨⟨by decide,by decide,by decide,by decide⟩,?_⟩
 exact⟨⟨by decide,by decide⟩,rfl,rfl,rfl,rfl,rfl,rfl,rfl,rfl,rfl,rfl,rfl,rfl,rfl⟩
def ksv:Con TB.den:=k3g.fnR (fun x=>(fun(p0:Int)=>U64 p0) x.1) fun x=>((fun(p0:Int)=>((exS p0).Depth:Int)) x.1,(fun(p0:Int)=>((exS p0).Anchor:Int)) x.1,(fun(p0:Int)=>((exS p0).Marks:List Int)) x.1,(fun(p0:Int)=>((exS p0).Commits:List Int)) x.1,(fun(p0:Int)=>((exS p0).Rhos:List Int)) x.1,(fun(p0:Int)=>((exS p0).Deposit:Int)) x.1,(fun(p0:Int)=>((exS p0).Withdraw:Int)) x.1,(fun(p0:Int)=>((exS p0).Fee:Int)) x.1,(fun(p0:Int)=>((exS p0).Account:Int)) x.1,(fun(p0:Int)=>((exS p0).Bind:Int)) x.1,(fun(p0:Int)=>(exW.Ins:List TSpent)) x.1,(fun(p0:Int)=>(exW.Outs:List TNote)) x.1,(fun(p0:Int)=>(exW.Secret:Int)) x.1,())
theorem k1dz:ksv.Ok Try.prog TB:=Con.ok_fn k3g bd30 fun x h=>k1bd (k197 x.1 h)
def k1h:Con TB.den:=Con.mk0 32 [] [] (.one (.one (.ptr 0 0))) [.cells [.d (.bool),.d (.int .u64),.d (.int .i64),.d (.sl (.st 3)),.mp 1,.mp 2,.mp 3],.map (.str) (.int .i64),.map (.str) (.sl (.int .u64)),.map (.str) (.bool)]
abbrev koo:=HL TB.den (hsT k1h.ins (hsOs k1h.pre))
abbrev kan:=HL TB.den (hsV k1h.res (hsOs k1h.post))
def k79:Cx TB:=⟨inf,[],[],4,[]⟩
def kbs:Code:=Try.f32.body.getD .skip
def ke7:List ResultVar:=Try.f32.results.toList
def klo (o:kan):An TB:= .no
def kbx (x:koo) (o:kan):Prop:=WPh TB k79 6 0 kbs (klo o) (k1h.st TB x) (retTQ TB k79 k1h ke7 o)
theorem kxv (o:kan):OblH TB k79 6 0 kbs (klo o) (retTQ TB k79 k1h ke7 o):=
 OblH.ofC (X:=True) (by kernel_rfl) trivial
theorem kxo {x:koo} {o:kan} (h:kbx x o):k1h.Snd Try.prog x o:=
 Con.soundH (c:=k1h) (C:=k79) TBok ⟨inf_ok,all_nil,all_nil⟩ mix Try.func32 (show Try.f32.body=some kbs by kernel_rfl) (show Try.f32.ntmps=6 by kernel_rfl) (show Try.f32.results.toList=ke7 by kernel_rfl) rfl h (kxv o)
theorem k118  {d0_0:Bool} {d0_1:Int} {d0_2:Int} {d0_3:List TQuestion} {e1k:List ByteArray} {e1v:List Int} {e2k:List ByteArray} {e2v:List (List Int)} {e3k:List ByteArray} {e3v:List Bool} (h:
(false=d0_0∧0=d0_1∧0=d0_2∧([]:List TQuestion)=d0_3∧([]:List ByteArray)=e1k∧([]:List Int)=e1v∧([]:List ByteArray)=e2k∧([]:List (List Int))=e2v∧([]:List ByteArray)=e3k∧([]:List Bool)=e3v)):kbx (()) (d0_0,d0_1,d0_2,d0_3,e1k,e1v,e2k,e2v,e3k,e3v,()):=WPh.of_eq (by kernel_rfl) h
theorem bd32:Callable Try.prog 32:=⟨by rw[Try.func32];kernel_rfl,by rw[Try.func32];show some _≠some _;decide⟩
theorem kv2:kbx (()) ((false:Bool),(0:Int),(0:Int),([]:List TQuestion),([]:List ByteArray),([]:List Int),([]:List ByteArray),([]:List (List Int)),([]:List ByteArray),([]:List Bool),()):=by
 exact k118 ⟨rfl,rfl,rfl,rfl,rfl,rfl,rfl,rfl,rfl,rfl⟩
def kl6:Con TB.den:=k1h.totR fun x=>((false:Bool),(0:Int),(0:Int),([]:List TQuestion),([]:List ByteArray),([]:List Int),([]:List ByteArray),([]:List (List Int)),([]:List ByteArray),([]:List Bool),())
theorem k114:kl6.Ok Try.prog TB:=Con.ok_tot k1h bd32 fun x=>kxo (kv2)
def k3l:Con TB.den:=Con.mk0 14 [] [] (.one (.one (.ptr 0 0))) [.cells [.d (.bool),.d (.int .u64),.d (.int .i64),.d (.sl (.st 3)),.mp 1,.mp 2,.mp 3],.map (.str) (.int .i64),.map (.str) (.sl (.int .u64)),.map (.str) (.bool)]
abbrev kyo:=HL TB.den (hsT k3l.ins (hsOs k3l.pre))
abbrev kic:=HL TB.den (hsV k3l.res (hsOs k3l.post))
def kbo:Cx TB:=⟨inf,[kl6],[],4,[]⟩
def kj5:Code:=Try.f14.body.getD .skip
def km7:List ResultVar:=Try.f14.results.toList
def kv8 (o:kic):An TB:= .no
def kij (x:kyo) (o:kic):Prop:=WPh TB kbo 2 0 kj5 (kv8 o) (k3l.st TB x) (retTQ TB kbo k3l km7 o)
theorem k1a6 (o:kic):OblH TB kbo 2 0 kj5 (kv8 o) (retTQ TB kbo k3l km7 o):=
 OblH.ofC (X:=True) (by kernel_rfl) trivial
theorem k1c6 {x:kyo} {o:kic} (h:kij x o):k3l.Snd Try.prog x o:=
 Con.soundH (c:=k3l) (C:=kbo) TBok ⟨inf_ok,(all_cons k114 all_nil),all_nil⟩ mix Try.func14 (show Try.f14.body=some kj5 by kernel_rfl) (show Try.f14.ntmps=2 by kernel_rfl) (show Try.f14.results.toList=km7 by kernel_rfl) rfl h (k1a6 o)
theorem k1dv  {d0_0:Bool} {d0_1:Int} {d0_2:Int} {d0_3:List TQuestion} {e1k:List ByteArray} {e1v:List Int} {e2k:List ByteArray} {e2v:List (List Int)} {e3k:List ByteArray} {e3v:List Bool} (h:
(false=d0_0∧0=d0_1∧0=d0_2∧[]=d0_3∧[]=e1k∧[]=e1v∧[]=e2k∧[]=e2v∧[]=e3k∧[]=e3v)):kij (()) (d0_0,d0_1,d0_2,d0_3,e1k,e1v,e2k,e2v,e3k,e3v,()):=WPh.of_eq (by kernel_rfl) h
theorem bd14:Callable Try.prog 14:=⟨by rw[Try.func14];kernel_rfl,by rw[Try.func14];show some _≠some _;decide⟩
theorem k18y:kij (()) ((false:Bool),(0:Int),(0:Int),([]:List TQuestion),([]:List ByteArray),([]:List Int),([]:List ByteArray),([]:List (List Int)),([]:List ByteArray),([]:List Bool),()):=by
 exact k1dv ⟨rfl,rfl,rfl,rfl,rfl,rfl,rfl,rfl,rfl,rfl⟩
def kt4:Con TB.den:=k3l.totR fun x=>((false:Bool),(0:Int),(0:Int),([]:List TQuestion),([]:List ByteArray),([]:List Int),([]:List ByteArray),([]:List (List Int)),([]:List ByteArray),([]:List Bool),())
theorem k1de:kt4.Ok Try.prog TB:=Con.ok_tot k3l bd14 fun x=>k1c6 (k18y)
def k3c:Con TB.den:=Con.mk0 103 [.agg [.d (.int .u64)]] [] (.one (.one (.d (.bool)))) []
abbrev kzp:=HL TB.den (hsT k3c.ins (hsOs k3c.pre))
abbrev ki6:=HL TB.den (hsV k3c.res (hsOs k3c.post))
def kcm:Cx TB:=⟨inf,[],[],4,[]⟩
def kir:Code:=Try.f103.body.getD .skip
def kn0:List ResultVar:=Try.f103.results.toList
def kw2 (o:ki6):An TB:= .no
def kid (x:kzp) (o:ki6):Prop:=WPh TB kcm 13 0 kir (kw2 o) (k3c.st TB x) (retTQ TB kcm k3c kn0 o)
theorem k1bk (o:ki6):OblH TB kcm 13 0 kir (kw2 o) (retTQ TB kcm k3c kn0 o):=
 OblH.ofC (X:=True) (by kernel_rfl) trivial
theorem k1bs {x:kzp} {o:ki6} (h:kid x o):k3c.Snd Try.prog x o:=
 Con.soundH (c:=k3c) (C:=kcm) TBok ⟨inf_ok,all_nil,all_nil⟩ mix Try.func103 (show Try.f103.body=some kir by kernel_rfl) (show Try.f103.ntmps=13 by kernel_rfl) (show Try.f103.results.toList=kn0 by kernel_rfl) rfl h (k1bk o)
theorem k1dq {p0:TField} {r0:Bool} (h:
(((p0.P==18446744069414584321)=true→
((p0.P==18446744069414584321)=true→
true=r0)∧
((p0.P==18446744069414584321)=false→
false=r0))∧
((p0.P==18446744069414584321)=false→
((p0.P==17)=true→
((p0.P==17)=true→
true=r0)∧
((p0.P==17)=false→
false=r0))∧
((p0.P==17)=false→
((p0.P==97)=true→
((p0.P==97)=true→
true=r0)∧
((p0.P==97)=false→
false=r0))∧
((p0.P==97)=false→
((p0.P==193)=true→
((p0.P==193)=true→
true=r0)∧
((p0.P==193)=false→
false=r0))∧
((p0.P==193)=false→
((p0.P==257)=true→
((p0.P==257)=true→
true=r0)∧
((p0.P==257)=false→
false=r0))∧
((p0.P==257)=false→
((p0.P==12289)=true→
((p0.P==12289)=true→
true=r0)∧
((p0.P==12289)=false→
false=r0))∧
((p0.P==12289)=false→
((p0.P==65537)=true→
true=r0)∧
((p0.P==65537)=false→
false=r0))))))))):kid (p0.P,()) (r0,()):=WPh.of_eq (by kernel_rfl) h
theorem bd103:Callable Try.prog 103:=⟨by rw[Try.func103];kernel_rfl,by rw[Try.func103];show some _≠some _;decide⟩
theorem k18q (p0:TField) (h:p0.P=18446744069414584321):kid (p0.P,()) ((true:Bool),()):=by
 refine k1dq ?_
 simp[h]
def k6y:Con TB.den:=k3c.fnR (fun x=>(fun(p0:TField)=>p0.P=18446744069414584321) (TField.mk x.1)) fun x=>((fun(p0:TField)=>(true:Bool)) (TField.mk x.1),())
theorem k9i:k6y.Ok Try.prog TB:=Con.ok_fn k3c bd103 fun x h=>k1bs (k18q (TField.mk x.1) h)
def k4e:Con TB.den:=Con.mk0 117 [.agg [.d (.int .u64)],.one (.d (.int .u64)),.one (.d (.int .u64))] [] (.one (.one (.d (.int .u64)))) []
abbrev k173:=HL TB.den (hsT k4e.ins (hsOs k4e.pre))
abbrev k9e:=HL TB.den (hsV k4e.res (hsOs k4e.post))
def k7u:Cx TB:=⟨inf,[],[x130],4,[]⟩
def kc0:Code:=Try.f117.body.getD .skip
def kl7:List ResultVar:=Try.f117.results.toList
def k1je (o:k9e):=qS TB k7u 28 0 (cB (cB (cB kc0))) .no (retTQ TB k7u k4e kl7 o)
def ki1:Tm:=⟨[0],[.cells [.d (.int .u64)]],[3,7,22],[.one (.ptr 0 0),.one (.d (.int .u64)),.one (.d (.bool))],1⟩
def k101 (o:k9e) (i:HL TB.den ki1.hs):Prop:=ghs TB [] (ki1.fill TB i) fun s=>WP TB k7u 28 0 (cB (cA (cB (cB kc0)))) .no s (k1je o)
structure keu (o:k9e) (i:HL TB.den ki1.hs):Prop where
 h:k101 o i
def k1ln (o:k9e):An TB:= .nd [] (.jn ki1 (keu o) [] .no [] .no) [] .no
def k132 (o:k9e):An TB:= .nd [] .no [] (.nd [] .no [] (k1ln o))
def kmq (x:k173) (o:k9e):Prop:=WPh TB k7u 28 0 kc0 (k132 o) (k4e.st TB x) (retTQ TB k7u k4e kl7 o)
theorem k1i8 (o:k9e):OblH TB k7u 28 0 kc0 (k132 o) (retTQ TB k7u k4e kl7 o):=
 OblH.ofC (X:=((∀i,(keu o) i=k101 o i)∧True)) (by kernel_rfl) ⟨fun _=>propext ⟨fun h=>h.1,fun h=>⟨h⟩⟩,trivial⟩
theorem k1g4 {x:k173} {o:k9e} (h:kmq x o):k4e.Snd Try.prog x o:=
 Con.soundH (c:=k4e) (C:=k7u) TBok ⟨inf_ok,all_nil,(all_cons x130_ok all_nil)⟩ mix Try.func117 (show Try.f117.body=some kc0 by kernel_rfl) (show Try.f117.ntmps=28 by kernel_rfl) (show Try.f117.results.toList=kl7 by kernel_rfl) rfl h (k1i8 o)
theorem k1kl {p0:TField} {p1:Int} {p2:Int} {r0:Int} (h:
((0≤p1∧0≤p2∧0≤(0:Int)∧(0:Int)≤1)∧let r1:Int:=(p1+p2+(0:Int))%18446744073709551616
let r2:Int:=(p1+p2+(0:Int))/18446744073709551616
((r2 !=0)=true→
keu (r0,()) (r1,true,p0.P,()))∧
((r2 !=0)=false→
keu (r0,()) (r1,(decide (p0.P≤r1):Bool),p0.P,())))):kmq (p0.P,p1,p2,()) (r0,()):=WPh.of_eq (by kernel_rfl) h
theorem kt3 {r0:Int} {s7:Int} {s22:Bool} {h0_0:Int} (h:
((s22=true→
IntKind.u64.wrap (s7-h0_0)=r0)∧
(s22=false→
s7=r0))):keu (r0,()) (s7,s22,h0_0,()):=⟨mpr_of (by kernel_rfl) h⟩
theorem bd117:Callable Try.prog 117:=⟨by rw[Try.func117];kernel_rfl,by rw[Try.func117];show some _≠some _;decide⟩
theorem k1eu (p0:TField) (p1:Int) (p2:Int) (h:p0.P=18446744069414584321∧(0≤p1∧p1<18446744069414584321)∧(0≤p2∧p2<18446744069414584321)):kmq (p0.P,p1,p2,()) ((((p1+p2)%18446744069414584321):Int),()):=by
 obtain⟨hP,h1,h2⟩:=h
 refine k1kl ⟨by omega,?_,?_⟩
 ·intro h
  refine kt3 ⟨fun _=> ?_,fun h=>by simp at h⟩
  have h:(p1+p2+0)/18446744073709551616≠0:=by simpa using h
  rw[hP,u64w];omega
 ·intro h
  have h:(p1+p2+0)/18446744073709551616=0:=by simpa using h
  refine kt3 ⟨fun g=> ?_,fun g=> ?_⟩
  ·have g:=of_decide_eq_true g
   rw[hP]at g ⊢
   rw[u64w];omega
  ·have g:=of_decide_eq_false g
   rw[hP]at g
   omega
def kyi:Con TB.den:=k4e.fnR (fun x=>(fun(p0:TField) (p1:Int) (p2:Int)=>p0.P=18446744069414584321∧(0≤p1∧p1<18446744069414584321)∧(0≤p2∧p2<18446744069414584321)) (TField.mk x.1) x.2.1 x.2.2.1) fun x=>((fun(p0:TField) (p1:Int) (p2:Int)=>(((p1+p2)%18446744069414584321):Int)) (TField.mk x.1) x.2.1 x.2.2.1,())
theorem k1ij:kyi.Ok Try.prog TB:=Con.ok_fn k4e bd117 fun x h=>k1g4 (k1eu (TField.mk x.1) x.2.1 x.2.2.1 h)
def k2c:Con TB.den:=Con.mk0 118 [.agg [.d (.int .u64)],.one (.d (.int .u64))] [] (.one (.one (.d (.int .u64)))) []
abbrev kt5:=HL TB.den (hsT k2c.ins (hsOs k2c.pre))
abbrev kem:=HL TB.den (hsV k2c.res (hsOs k2c.post))
def k9m:Cx TB:=⟨inf,[],[],4,[]⟩
def kfv:Code:=Try.f118.body.getD .skip
def kik:List ResultVar:=Try.f118.results.toList
def kqp (o:kem):An TB:= .no
def kfc (x:kt5) (o:kem):Prop:=WPh TB k9m 14 0 kfv (kqp o) (k2c.st TB x) (retTQ TB k9m k2c kik o)
theorem k15b (o:kem):OblH TB k9m 14 0 kfv (kqp o) (retTQ TB k9m k2c kik o):=
 OblH.ofC (X:=True) (by kernel_rfl) trivial
theorem k15r {x:kt5} {o:kem} (h:kfc x o):k2c.Snd Try.prog x o:=
 Con.soundH (c:=k2c) (C:=k9m) TBok ⟨inf_ok,all_nil,all_nil⟩ mix Try.func118 (show Try.f118.body=some kfv by kernel_rfl) (show Try.f118.ntmps=14 by kernel_rfl) (show Try.f118.results.toList=kik by kernel_rfl) rfl h (k15b o)
theorem k191 {p0:TField} {p1:Int} {r0:Int} (h:
((decide (p0.P≤p1)=true→
(p0.P≠0)∧Int.tmod p1 p0.P=r0)∧
(decide (p0.P≤p1)=false→
p1=r0))):kfc (p0.P,p1,()) (r0,()):=WPh.of_eq (by kernel_rfl) h
theorem bd118:Callable Try.prog 118:=⟨by rw[Try.func118];kernel_rfl,by rw[Try.func118];show some _≠some _;decide⟩
theorem k13g (p0:TField) (p1:Int) (h:0<p0.P∧0≤p1):kfc (p0.P,p1,()) (((p1%p0.P):Int),()):=by
 refine k191 ⟨fun h1=>⟨by omega,tmod_nn _ _ h.2⟩,fun h1=> ?_⟩
 simp at h1
 rw[Int.emod_eq_of_lt (by omega) (by omega)]
def k8t:Con TB.den:=k2c.fnR (fun x=>(fun(p0:TField) (p1:Int)=>0<p0.P∧0≤p1) (TField.mk x.1) x.2.1) fun x=>((fun(p0:TField) (p1:Int)=>((p1%p0.P):Int)) (TField.mk x.1) x.2.1,())
theorem kd2:k8t.Ok Try.prog TB:=Con.ok_fn k2c bd118 fun x h=>k15r (k13g (TField.mk x.1) x.2.1 h)
def k4w:Con TB.den:=Con.mk0 110 [.agg [.d (.int .u64)],.one (.d (.int .u64)),.one (.d (.int .u64))] [] (.one (.one (.d (.int .u64)))) []
abbrev k16a:=HL TB.den (hsT k4w.ins (hsOs k4w.pre))
abbrev kns:=HL TB.den (hsV k4w.res (hsOs k4w.post))
def kez:Cx TB:=⟨inf,[k6y,k8t,kyi],[],4,[]⟩
def kms:Code:=Try.f110.body.getD .skip
def ks4:List ResultVar:=Try.f110.results.toList
def k124 (o:kns):An TB:= .no
def klu (x:k16a) (o:kns):Prop:=WPh TB kez 18 0 kms (k124 o) (k4w.st TB x) (retTQ TB kez k4w ks4 o)
theorem k1gb (o:kns):OblH TB kez 18 0 kms (k124 o) (retTQ TB kez k4w ks4 o):=
 OblH.ofC (X:=True) (by kernel_rfl) trivial
theorem k1hu {x:k16a} {o:kns} (h:klu x o):k4w.Snd Try.prog x o:=
 Con.soundH (c:=k4w) (C:=kez) TBok ⟨inf_ok,(all_cons k9i (all_cons kd2 (all_cons k1ij all_nil))),all_nil⟩ mix Try.func110 (show Try.f110.body=some kms by kernel_rfl) (show Try.f110.ntmps=18 by kernel_rfl) (show Try.f110.results.toList=ks4 by kernel_rfl) rfl h (k1gb o)
theorem k1li {p0:TField} {p1:Int} {p2:Int} {r0:Int} (h:
((p0.P=18446744069414584321)∧((!true)=true→
0=r0)∧
((!true)=false→
(0<p0.P∧0≤p1)∧(0<p0.P∧0≤p2)∧(p0.P=18446744069414584321∧(0≤(p1%p0.P)∧(p1%p0.P)<18446744069414584321)∧(0≤(p2%p0.P)∧(p2%p0.P)<18446744069414584321))∧let r1:Int:=(((p1%p0.P)+(p2%p0.P))%18446744069414584321)
r1=r0))):klu (p0.P,p1,p2,()) (r0,()):=WPh.of_eq (by kernel_rfl) h
theorem bd110:Callable Try.prog 110:=⟨by rw[Try.func110];kernel_rfl,by rw[Try.func110];show some _≠some _;decide⟩
theorem k1e7 (p0:TField) (p1:Int) (p2:Int) (h:p0.P=18446744069414584321∧U64 p1∧U64 p2):klu (p0.P,p1,p2,()) ((((p1+p2)%18446744069414584321):Int),()):=by
 obtain⟨hP,h1,h2⟩:=h
 refine k1li ⟨hP,?_⟩
 simp only[hP]
 refine⟨fun h=>by simp at h,fun _=>⟨by omega,by omega,⟨by trivial,by omega,by omega⟩,?_⟩⟩
 omega
def ki2:Con TB.den:=k4w.fnR (fun x=>(fun(p0:TField) (p1:Int) (p2:Int)=>p0.P=18446744069414584321∧U64 p1∧U64 p2) (TField.mk x.1) x.2.1 x.2.2.1) fun x=>((fun(p0:TField) (p1:Int) (p2:Int)=>(((p1+p2)%18446744069414584321):Int)) (TField.mk x.1) x.2.1 x.2.2.1,())
theorem kqm:ki2.Ok Try.prog TB:=Con.ok_fn k4w bd110 fun x h=>k1hu (k1e7 (TField.mk x.1) x.2.1 x.2.2.1 h)
def k55:Con TB.den:=Con.mk0 119 [.agg [.d (.int .u64)],.one (.d (.int .u64)),.one (.d (.int .u64))] [] (.one (.one (.d (.int .u64)))) []
abbrev k16n:=HL TB.den (hsT k55.ins (hsOs k55.pre))
abbrev knp:=HL TB.den (hsV k55.res (hsOs k55.post))
def kfz:Cx TB:=⟨inf,[kmh,kmv],[],4,[]⟩
def kmx:Code:=Try.f119.body.getD .skip
def kqv:List ResultVar:=Try.f119.results.toList
def k12o (o:knp):An TB:= .no
def kly (x:k16n) (o:knp):Prop:=WPh TB kfz 26 0 kmx (k12o o) (k55.st TB x) (retTQ TB kfz k55 kqv o)
theorem k1h7 (o:knp):OblH TB kfz 26 0 kmx (k12o o) (retTQ TB kfz k55 kqv o):=
 OblH.ofC (X:=True) (by kernel_rfl) trivial
theorem k1i5 {x:k16n} {o:knp} (h:kly x o):k55.Snd Try.prog x o:=
 Con.soundH (c:=k55) (C:=kfz) TBok ⟨inf_ok,(all_cons k100 (all_cons kzs all_nil)),all_nil⟩ mix Try.func119 (show Try.f119.body=some kmx by kernel_rfl) (show Try.f119.ntmps=26 by kernel_rfl) (show Try.f119.results.toList=kqv by kernel_rfl) rfl h (k1h7 o)
theorem k1l7 {p0:TField} {p1:Int} {p2:Int} {r0:Int} (h:
((U64 p1∧U64 p2)∧(U64 (p1*p2/18446744073709551616)∧U64 (p1*p2%18446744073709551616)∧U64 p0.P∧(p1*p2/18446744073709551616)<p0.P)∧let r1:Int:=(((p1*p2/18446744073709551616)*18446744073709551616+(p1*p2%18446744073709551616))/p0.P)
let r2:Int:=(((p1*p2/18446744073709551616)*18446744073709551616+(p1*p2%18446744073709551616))%p0.P)
r2=r0)):kly (p0.P,p1,p2,()) (r0,()):=WPh.of_eq (by kernel_rfl) h
theorem bd119:Callable Try.prog 119:=⟨by rw[Try.func119];kernel_rfl,by rw[Try.func119];show some _≠some _;decide⟩
theorem k1cx (p0:TField) (p1:Int) (p2:Int) (h:p0.P=18446744069414584321∧(0≤p1∧p1<18446744069414584321)∧(0≤p2∧p2<18446744069414584321)):kly (p0.P,p1,p2,()) (((p1*p2%18446744069414584321):Int),()):=by
 obtain⟨hP,h1,h2⟩:=h
 have h3:0≤p1*p2:=Int.mul_nonneg h1.1 h2.1
 have h4:p1*p2≤18446744069414584320*18446744069414584320:=Int.mul_le_mul (by omega) (by omega) h2.1 (by omega)
 refine k1l7 ⟨⟨by omega,by omega⟩,?_⟩
 simp only[hP]
 generalize p1*p2=m at *
 refine⟨⟨⟨by omega,by omega⟩,⟨by omega,by omega⟩,by omega,by omega⟩,?_⟩
 rw[show m/18446744073709551616*18446744073709551616+m%18446744073709551616=m by omega]
def koq:Con TB.den:=k55.fnR (fun x=>(fun(p0:TField) (p1:Int) (p2:Int)=>p0.P=18446744069414584321∧(0≤p1∧p1<18446744069414584321)∧(0≤p2∧p2<18446744069414584321)) (TField.mk x.1) x.2.1 x.2.2.1) fun x=>((fun(p0:TField) (p1:Int) (p2:Int)=>((p1*p2%18446744069414584321):Int)) (TField.mk x.1) x.2.1 x.2.2.1,())
theorem k12z:koq.Ok Try.prog TB:=Con.ok_fn k55 bd119 fun x h=>k1i5 (k1cx (TField.mk x.1) x.2.1 x.2.2.1 h)
def k56:Con TB.den:=Con.mk0 111 [.agg [.d (.int .u64)],.one (.d (.int .u64)),.one (.d (.int .u64))] [] (.one (.one (.d (.int .u64)))) []
abbrev k174:=HL TB.den (hsT k56.ins (hsOs k56.pre))
abbrev kni:=HL TB.den (hsV k56.res (hsOs k56.post))
def kf0:Cx TB:=⟨inf,[k6y,k8t,koq],[],4,[]⟩
def km2:Code:=Try.f111.body.getD .skip
def kqx:List ResultVar:=Try.f111.results.toList
def k138 (o:kni):An TB:= .no
def klr (x:k174) (o:kni):Prop:=WPh TB kf0 18 0 km2 (k138 o) (k56.st TB x) (retTQ TB kf0 k56 kqx o)
theorem k1id (o:kni):OblH TB kf0 18 0 km2 (k138 o) (retTQ TB kf0 k56 kqx o):=
 OblH.ofC (X:=True) (by kernel_rfl) trivial
theorem k1gw {x:k174} {o:kni} (h:klr x o):k56.Snd Try.prog x o:=
 Con.soundH (c:=k56) (C:=kf0) TBok ⟨inf_ok,(all_cons k9i (all_cons kd2 (all_cons k12z all_nil))),all_nil⟩ mix Try.func111 (show Try.f111.body=some km2 by kernel_rfl) (show Try.f111.ntmps=18 by kernel_rfl) (show Try.f111.results.toList=kqx by kernel_rfl) rfl h (k1id o)
theorem k1ko {p0:TField} {p1:Int} {p2:Int} {r0:Int} (h:
((p0.P=18446744069414584321)∧((!true)=true→
0=r0)∧
((!true)=false→
(0<p0.P∧0≤p1)∧(0<p0.P∧0≤p2)∧(p0.P=18446744069414584321∧(0≤(p1%p0.P)∧(p1%p0.P)<18446744069414584321)∧(0≤(p2%p0.P)∧(p2%p0.P)<18446744069414584321))∧let r1:Int:=((p1%p0.P)*(p2%p0.P)%18446744069414584321)
r1=r0))):klr (p0.P,p1,p2,()) (r0,()):=WPh.of_eq (by kernel_rfl) h
theorem bd111:Callable Try.prog 111:=⟨by rw[Try.func111];kernel_rfl,by rw[Try.func111];show some _≠some _;decide⟩
theorem k1cj (p0:TField) (p1:Int) (p2:Int) (h:p0.P=18446744069414584321∧U64 p1∧U64 p2):klr (p0.P,p1,p2,()) (((p1*p2%18446744069414584321):Int),()):=by
 obtain⟨hP,h1,h2⟩:=h
 refine k1ko ⟨hP,?_⟩
 simp only[hP]
 refine⟨fun h=>by simp at h,fun _=>⟨by omega,by omega,⟨by trivial,by omega,by omega⟩,?_⟩⟩
 exact(Int.mul_emod _ _ _).symm
def kyv:Con TB.den:=k56.fnR (fun x=>(fun(p0:TField) (p1:Int) (p2:Int)=>p0.P=18446744069414584321∧U64 p1∧U64 p2) (TField.mk x.1) x.2.1 x.2.2.1) fun x=>((fun(p0:TField) (p1:Int) (p2:Int)=>((p1*p2%18446744069414584321):Int)) (TField.mk x.1) x.2.1 x.2.2.1,())
theorem k1kp:kyv.Ok Try.prog TB:=Con.ok_fn k56 bd111 fun x h=>k1gw (k1cj (TField.mk x.1) x.2.1 x.2.2.1 h)
def k2f:Con TB.den:=Con.mk0 131 [.agg [.d (.int .u64)]] [] (.tup [.one (.d (.int .u64)),.one (.d (.int .i64)),.one (.d (.int .u64))]) []
abbrev ktm:=HL TB.den (hsT k2f.ins (hsOs k2f.pre))
abbrev kef:=HL TB.den (hsV k2f.res (hsOs k2f.post))
def k9s:Cx TB:=⟨inf,[],[],4,[]⟩
def kfw:Code:=Try.f131.body.getD .skip
def kih:List ResultVar:=Try.f131.results.toList
def kr8 (o:kef):An TB:= .no
def kfg (x:ktm) (o:kef):Prop:=WPh TB k9s 21 0 kfw (kr8 o) (k2f.st TB x) (retTQ TB k9s k2f kih o)
theorem k155 (o:kef):OblH TB k9s 21 0 kfw (kr8 o) (retTQ TB k9s k2f kih o):=
 OblH.ofC (X:=True) (by kernel_rfl) trivial
theorem k15p {x:ktm} {o:kef} (h:kfg x o):k2f.Snd Try.prog x o:=
 Con.soundH (c:=k2f) (C:=k9s) TBok ⟨inf_ok,all_nil,all_nil⟩ mix Try.func131 (show Try.f131.body=some kfw by kernel_rfl) (show Try.f131.ntmps=21 by kernel_rfl) (show Try.f131.results.toList=kih by kernel_rfl) rfl h (k155 o)
theorem k18d {p0:TField} {r0:Int} {r1:Int} {r2:Int} (h:
(((p0.P==17)=true→
3=r0∧4=r1∧3=r2)∧
((p0.P==17)=false→
((p0.P==97)=true→
5=r0∧5=r1∧5=r2)∧
((p0.P==97)=false→
((p0.P==193)=true→
5=r0∧6=r1∧5=r2)∧
((p0.P==193)=false→
((p0.P==257)=true→
3=r0∧8=r1∧3=r2)∧
((p0.P==257)=false→
((p0.P==12289)=true→
11=r0∧12=r1∧5=r2)∧
((p0.P==12289)=false→
((p0.P==65537)=true→
3=r0∧16=r1∧3=r2)∧
((p0.P==65537)=false→
((p0.P==18446744069414584321)=true→
7=r0∧32=r1∧7=r2)∧
((p0.P==18446744069414584321)=false→
0=r0∧0=r1∧0=r2))))))))):kfg (p0.P,()) (r0,r1,r2,()):=WPh.of_eq (by kernel_rfl) h
theorem bd131:Callable Try.prog 131:=⟨by rw[Try.func131];kernel_rfl,by rw[Try.func131];show some _≠some _;decide⟩
theorem k12s (p0:TField) (h:p0.P=18446744069414584321):kfg (p0.P,()) ((7:Int),(32:Int),(7:Int),()):=by
 refine k18d ?_
 simp[h]
def kpu:Con TB.den:=k2f.fnR (fun x=>(fun(p0:TField)=>p0.P=18446744069414584321) (TField.mk x.1)) fun x=>((fun(p0:TField)=>(7:Int)) (TField.mk x.1),(fun(p0:TField)=>(32:Int)) (TField.mk x.1),(fun(p0:TField)=>(7:Int)) (TField.mk x.1),())
theorem k19j:kpu.Ok Try.prog TB:=Con.ok_fn k2f bd131 fun x h=>k15p (k12s (TField.mk x.1) h)
def k1y:Con TB.den:=Con.mk0 120 [.agg [.d (.int .u64)]] [] (.one (.one (.d (.int .u64)))) []
abbrev ks2:=HL TB.den (hsT k1y.ins (hsOs k1y.pre))
abbrev kd4:=HL TB.den (hsV k1y.res (hsOs k1y.post))
def k91:Cx TB:=⟨inf,[kpu],[],4,[]⟩
def keb:Code:=Try.f120.body.getD .skip
def kh4:List ResultVar:=Try.f120.results.toList
def kpy (o:kd4):An TB:= .no
def ke5 (x:ks2) (o:kd4):Prop:=WPh TB k91 13 0 keb (kpy o) (k1y.st TB x) (retTQ TB k91 k1y kh4 o)
theorem k129 (o:kd4):OblH TB k91 13 0 keb (kpy o) (retTQ TB k91 k1y kh4 o):=
 OblH.ofC (X:=True) (by kernel_rfl) trivial
theorem k127 {x:ks2} {o:kd4} (h:ke5 x o):k1y.Snd Try.prog x o:=
 Con.soundH (c:=k1y) (C:=k91) TBok ⟨inf_ok,(all_cons k19j all_nil),all_nil⟩ mix Try.func120 (show Try.f120.body=some keb by kernel_rfl) (show Try.f120.ntmps=13 by kernel_rfl) (show Try.f120.results.toList=kh4 by kernel_rfl) rfl h (k129 o)
theorem k15h {p0:TField} {r0:Int} (h:
((p0.P=18446744069414584321)∧7=r0)):ke5 (p0.P,()) (r0,()):=WPh.of_eq (by kernel_rfl) h
theorem bd120:Callable Try.prog 120:=⟨by rw[Try.func120];kernel_rfl,by rw[Try.func120];show some _≠some _;decide⟩
theorem k10e (p0:TField) (h:p0.P=18446744069414584321):ke5 (p0.P,()) ((7:Int),()):=by
 exact k15h ⟨h,rfl⟩
def kny:Con TB.den:=k1y.fnR (fun x=>(fun(p0:TField)=>p0.P=18446744069414584321) (TField.mk x.1)) fun x=>((fun(p0:TField)=>(7:Int)) (TField.mk x.1),())
theorem k168:kny.Ok Try.prog TB:=Con.ok_fn k1y bd120 fun x h=>k127 (k10e (TField.mk x.1) h)
def k4b:Con TB.den:=Con.mk0 132 [.agg [.d (.int .u64)],.one (.d (.int .u64)),.one (.d (.int .u64))] [] (.one (.one (.d (.int .u64)))) []
abbrev k16r:=HL TB.den (hsT k4b.ins (hsOs k4b.pre))
abbrev k66:=HL TB.den (hsV k4b.res (hsOs k4b.post))
def k6v:Cx TB:=⟨inf,[koq],[],4,[]⟩
def k9g:Code:=Try.f132.body.getD .skip
def kjv:List ResultVar:=Try.f132.results.toList
def k141 (o:k66):=qS TB k6v 26 0 (cB (cB (cB k9g))) .no (retTQ TB k6v k4b kjv o)
def k3d:Tm:=⟨[0],[.cells [.d (.int .u64)]],[1,2,3,7],[.one (.d (.int .u64)),.one (.d (.int .u64)),.one (.ptr 0 0),.one (.d (.int .u64))],1⟩
def k1iw (o:k66) (nx1:NX TB k3d):=blockT TB 1 (qM TB 0 k3d nx1 (blockT TB 0 (k141 o)))
def ki7:Tm:=⟨[0],[.cells [.d (.int .u64)]],[1,2,3,7],[.one (.d (.int .u64)),.one (.d (.int .u64)),.one (.ptr 0 0),.one (.d (.int .u64))],1⟩
def kzg (o:k66) (nx1:NX TB k3d) (i:HL TB.den ki7.hs):Prop:=ghs TB [] (ki7.fill TB i) fun s=>WP TB k6v 26 0 (cB (cA (cB (cA (cA (cA (cB (cB k9g)))))))) .no s (k1iw o nx1)
structure kbp (o:k66) (nx1:NX TB k3d) (i:HL TB.den ki7.hs):Prop where
 h:kzg o nx1 i
def k12k (o:k66) (nx1:NX TB k3d):An TB:= .nd [] .no [] (.jn ki7 (kbp o nx1) [] .no [] .no)
def ker (o:k66) (nx1:NX TB k3d) (i:HL TB.den k3d.hs):Prop:=WP TB k6v 26 0 (cA (cA (cA (cB (cB k9g))))) (k12k o nx1) (k3d.fill TB i) (qM TB 0 k3d nx1 (blockT TB 0 (k141 o)))
def k1jt (o:k66):An TB:= .lp [] k3d (ker o) fun nx1=>(k12k o nx1)
def k11q (o:k66):An TB:= .nd [] .no [] (.nd [] .no [] (.nd [] (k1jt o) [] .no))
def klv (x:k16r) (o:k66):Prop:=WPh TB k6v 26 0 k9g (k11q o) (k4b.st TB x) (retTQ TB k6v k4b kjv o)
theorem k1go (o:k66):OblH TB k6v 26 0 k9g (k11q o) (retTQ TB k6v k4b kjv o):=
 OblH.ofC (X:=((∀nx i,(ker o) nx i=(ker o) nx i)∧(∀nx1:NX TB k3d,((∀i,(kbp o nx1) i=kzg o nx1 i)∧True))∧True)) (by kernel_rfl) ⟨fun _ _=>rfl,fun _=>⟨fun _=>propext ⟨fun h=>h.1,fun h=>⟨h⟩⟩,trivial⟩,trivial⟩
theorem k1g8 {x:k16r} {o:k66} (h:klv x o):k4b.Snd Try.prog x o:=
 Con.soundH (c:=k4b) (C:=k6v) TBok ⟨inf_ok,(all_cons k12z all_nil),all_nil⟩ mix Try.func132 (show Try.f132.body=some k9g by kernel_rfl) (show Try.f132.ntmps=26 by kernel_rfl) (show Try.f132.results.toList=kjv by kernel_rfl) rfl h (k1go o)
theorem k1jn {p0:TField} {p1:Int} {p2:Int} {r0:Int} (h:
(Md.Loop (p1,p2,(1:Int),p0.P,()) (ker (r0,())))):klv (p0.P,p1,p2,()) (r0,()):=WPh.of_eq (by kernel_rfl) h
theorem k1bm {r0:Int} {nx1:NX TB k3d} {s1:Int} {s2:Int} {s7:Int} {h0_0:Int} (h:
((decide (0<(ishr .u64 s2 1))=true→
((TField.mk h0_0).P=18446744069414584321∧(0≤s1∧s1<18446744069414584321)∧(0≤s1∧s1<18446744069414584321))∧nx1 (((s1*s1%18446744069414584321):Int),(ishr .u64 s2 1:Int),s7,h0_0,()))∧
(decide (0<(ishr .u64 s2 1))=false→
nx1 (s1,(ishr .u64 s2 1:Int),s7,h0_0,())))):kbp (r0,()) nx1 (s1,s2,s7,h0_0,()):=⟨mpr_of (by kernel_rfl) h⟩
def k147 (r0:Int) (nx1:NX TB k3d) (k1:Int→Int→Int→Prop) (h0_0:Int) (s1:Int) (s2:Int) (s7:Int):Prop:=
(decide (0<s2)=true→
(((iand .u64 s2 1)==1)=true→
((TField.mk h0_0).P=18446744069414584321∧(0≤s7∧s7<18446744069414584321)∧(0≤s1∧s1<18446744069414584321))∧kbp (r0,()) nx1 (s1,s2,((s7*s1%18446744069414584321):Int),h0_0,()))∧
(((iand .u64 s2 1)==1)=false→
kbp (r0,()) nx1 (s1,s2,s7,h0_0,())))∧
(decide (0<s2)=false→
s7=r0)
theorem k1ho {r0:Int} {h0_0:Int} {s1:Int} {s2:Int} {s7:Int} (inv:Int→Int→Int→Prop) (μ:Int→Int→Int→Nat) (h0:inv s1 s2 s7) (hs:∀(s1:Int) (s2:Int) (s7:Int),inv s1 s2 s7→k147 r0 (fun s:Int×Int×Int×Int×Unit=>((s.2.2.2.1=h0_0)∧inv s.1 s.2.1 s.2.2.1)∧μ s.1 s.2.1 s.2.2.1<μ s1 s2 s7) (fun s1q s2q s7q=>inv s1q s2q s7q∧μ s1q s2q s7q<μ s1 s2 s7) h0_0 s1 s2 s7):Md.Loop (s1,s2,s7,h0_0,()) (ker (r0,())):=
 ⟨⟨fun s:Int×Int×Int×Int×Unit=>(s.2.2.2.1=h0_0)∧inv s.1 s.2.1 s.2.2.1,fun s:Int×Int×Int×Int×Unit=>μ s.1 s.2.1 s.2.2.1,⟨rfl,h0⟩,fun(s1p,s2p,s7p,h0_0p,()) ⟨eq0,hi⟩=>by
  have eq0:h0_0p=h0_0:=eq0;subst h0_0p;exact mpr_of (by kernel_rfl) ((congrArg (fun k=>k147 r0 (fun s:Int×Int×Int×Int×Unit=>((s.2.2.2.1=h0_0)∧inv s.1 s.2.1 s.2.2.1)∧μ s.1 s.2.1 s.2.2.1<μ s1p s2p s7p) k h0_0 s1p s2p s7p) (lpk3 (rfl:h0_0=h0_0) inv (fun s1q s2q s7q=>μ s1q s2q s7q<μ s1p s2p s7p))).mpr (hs s1p s2p s7p hi))⟩⟩
theorem bd132:Callable Try.prog 132:=⟨by rw[Try.func132];kernel_rfl,by rw[Try.func132];show some _≠some _;decide⟩
theorem k1ci (p0:TField) (p1:Int) (p2:Int) (h:p0.P=18446744069414584321∧(0≤p1∧p1<18446744069414584321)∧U64 p2):klv (p0.P,p1,p2,()) (((pw p1 p2):Int),()):=by
 obtain⟨hP,h1,h2⟩:=h
 refine k1jn ?_
 rw[hP]
 refine k1ho (fun a e r=>(0≤a∧a<18446744069414584321)∧U64 e∧(0≤r∧r<18446744069414584321)∧(r*a^e.toNat)%18446744069414584321=pw p1 p2) (fun a e r=>e.toNat) ⟨h1,h2,by omega,by rw[Int.one_mul];rfl⟩ ?_
 rintro a e r ⟨ha,he,hr,hv⟩
 have jj:∀nx r',(0≤r'∧r' <18446744069414584321)→0<e→(r' *(a*a)^(e/2).toNat)%18446744069414584321=pw p1 p2→(∀a',(0≤a'∧a' <18446744069414584321)→r' *a' ^(e/2).toNat%18446744069414584321=pw p1 p2→nx (a',(e/2:Int),r',(18446744069414584321:Int),()))→kbp ((pw p1 p2:Int),()) nx (a,e,r',(18446744069414584321:Int),()):=by
  intro nx r' hr' he' hv' hn
  refine k1bm ?_
  rw[ishr1]
  refine⟨fun h=>⟨⟨rfl,ha,ha⟩,?_⟩,fun h=> ?_⟩
  ·refine hn _ ⟨Int.emod_nonneg _ (by omega),Int.emod_lt_of_pos _ (by omega)⟩ ?_
   rw[←hv',Int.mul_emod,Int.mul_emod r' ((a*a)^_),kxg]
  ·have h:¬0<e/2:=of_decide_eq_false h
   refine hn _ ha ?_
   rw[show(e/2).toNat=0 by omega]at hv' ⊢
   simpa using hv'
 refine⟨fun h=> ?_,fun h=> ?_⟩
 ·have h:=of_decide_eq_true h
  rw[k1q0 e he]
  have nxt:∀a' r',(0≤a'∧a' <18446744069414584321)→(0≤r'∧r' <18446744069414584321)→r' *a' ^(e/2).toNat%18446744069414584321=pw p1 p2→((0≤a'∧a' <18446744069414584321)∧U64 (e/2)∧(0≤r'∧r' <18446744069414584321)∧r' *a' ^(e/2).toNat%18446744069414584321=pw p1 p2)∧(e/2).toNat<e.toNat:=fun a' r' h1 h2 h3=>⟨⟨h1,⟨by omega,by omega⟩,h2,h3⟩,by omega⟩
  have hpow:∀k:Nat,a^(2*k)=(a*a)^k:=fun k=>by rw[Int.pow_mul];congr 1;rw[Int.pow_succ,Int.pow_succ,Int.pow_zero,Int.one_mul]
  refine⟨fun h1=>⟨⟨rfl,hr,ha⟩,?_⟩,fun h1=> ?_⟩
  ·have h1:e%2=1:=by simpa using h1
   refine jj _ _ ⟨Int.emod_nonneg _ (by omega),Int.emod_lt_of_pos _ (by omega)⟩ h ?_ fun a' ha' hv' =>⟨⟨rfl,(nxt a' _ ha' ⟨Int.emod_nonneg _ (by omega),Int.emod_lt_of_pos _ (by omega)⟩ hv').1⟩,(nxt a' _ ha' ⟨Int.emod_nonneg _ (by omega),Int.emod_lt_of_pos _ (by omega)⟩ hv').2⟩
   rw[←hv,show e.toNat=2*(e/2).toNat+1 by omega,Int.pow_succ,hpow,Int.mul_emod,Int.emod_emod_of_dvd _ (Int.dvd_refl _),←Int.mul_emod]
   congr 1
   grind
  ·have h1:¬e%2=1:=by simpa using h1
   refine jj _ _ hr h ?_ fun a' ha' hv' =>⟨⟨rfl,(nxt a' _ ha' hr hv').1⟩,(nxt a' _ ha' hr hv').2⟩
   rw[←hv,←hpow,show e.toNat=2*(e/2).toNat by omega]
 ·have h:¬0<e:=of_decide_eq_false h
  rw[show e.toNat=0 by omega,Int.pow_zero,Int.mul_one,Int.emod_eq_of_lt hr.1 hr.2]at hv
  exact hv
def kza:Con TB.den:=k4b.fnR (fun x=>(fun(p0:TField) (p1:Int) (p2:Int)=>p0.P=18446744069414584321∧(0≤p1∧p1<18446744069414584321)∧U64 p2) (TField.mk x.1) x.2.1 x.2.2.1) fun x=>((fun(p0:TField) (p1:Int) (p2:Int)=>((pw p1 p2):Int)) (TField.mk x.1) x.2.1 x.2.2.1,())
theorem k1lt:kza.Ok Try.prog TB:=Con.ok_fn k4b bd132 fun x h=>k1g8 (k1ci (TField.mk x.1) x.2.1 x.2.2.1 h)
def k5a:Con TB.den:=Con.mk0 121 [.agg [.d (.int .u64)],.one (.d (.int .u64)),.one (.d (.int .u64))] [] (.one (.one (.d (.int .u64)))) []
abbrev k16h:=HL TB.den (hsT k5a.ins (hsOs k5a.pre))
abbrev kno:=HL TB.den (hsV k5a.res (hsOs k5a.post))
def kff:Cx TB:=⟨inf,[k6y,k8t,kza],[],4,[]⟩
def kn3:Code:=Try.f121.body.getD .skip
def kr4:List ResultVar:=Try.f121.results.toList
def k11m (o:kno):An TB:= .no
def kmt (x:k16h) (o:kno):Prop:=WPh TB kff 16 0 kn3 (k11m o) (k5a.st TB x) (retTQ TB kff k5a kr4 o)
theorem k1gr (o:kno):OblH TB kff 16 0 kn3 (k11m o) (retTQ TB kff k5a kr4 o):=
 OblH.ofC (X:=True) (by kernel_rfl) trivial
theorem k1gs {x:k16h} {o:kno} (h:kmt x o):k5a.Snd Try.prog x o:=
 Con.soundH (c:=k5a) (C:=kff) TBok ⟨inf_ok,(all_cons k9i (all_cons kd2 (all_cons k1lt all_nil))),all_nil⟩ mix Try.func121 (show Try.f121.body=some kn3 by kernel_rfl) (show Try.f121.ntmps=16 by kernel_rfl) (show Try.f121.results.toList=kr4 by kernel_rfl) rfl h (k1gr o)
theorem k1jw {p0:TField} {p1:Int} {p2:Int} {r0:Int} (h:
((p0.P=18446744069414584321)∧((!true)=true→
0=r0)∧
((!true)=false→
(0<p0.P∧0≤p1)∧(p0.P=18446744069414584321∧(0≤(p1%p0.P)∧(p1%p0.P)<18446744069414584321)∧U64 p2)∧(pw (p1%p0.P) p2)=r0))):kmt (p0.P,p1,p2,()) (r0,()):=WPh.of_eq (by kernel_rfl) h
theorem bd121:Callable Try.prog 121:=⟨by rw[Try.func121];kernel_rfl,by rw[Try.func121];show some _≠some _;decide⟩
theorem k1dw (p0:TField) (p1:Int) (p2:Int) (h:p0.P=18446744069414584321∧U64 p1∧U64 p2):kmt (p0.P,p1,p2,()) (((pw (p1%18446744069414584321) p2):Int),()):=by
 obtain⟨hP,h1,h2⟩:=h
 refine k1jw ⟨hP,fun h=>by simp at h,fun _=>⟨by omega,?_⟩⟩
 simp only[hP]
 exact⟨⟨by trivial,by omega,h2⟩,trivial⟩
def kyn:Con TB.den:=k5a.fnR (fun x=>(fun(p0:TField) (p1:Int) (p2:Int)=>p0.P=18446744069414584321∧U64 p1∧U64 p2) (TField.mk x.1) x.2.1 x.2.2.1) fun x=>((fun(p0:TField) (p1:Int) (p2:Int)=>((pw (p1%18446744069414584321) p2):Int)) (TField.mk x.1) x.2.1 x.2.2.1,())
theorem k1j4:kyn.Ok Try.prog TB:=Con.ok_fn k5a bd121 fun x h=>k1gs (k1dw (TField.mk x.1) x.2.1 x.2.2.1 h)
def k2v:Con TB.den:=Con.mk0 133 [.agg [.d (.int .u64)],.one (.d (.int .u64))] [] (.one (.one (.d (.int .u64)))) []
abbrev kv0:=HL TB.den (hsT k2v.ins (hsOs k2v.pre))
abbrev kgf:=HL TB.den (hsV k2v.res (hsOs k2v.post))
def kai:Cx TB:=⟨inf,[k6y,k8t],[],4,[]⟩
def kgw:Code:=Try.f133.body.getD .skip
def kka:List ResultVar:=Try.f133.results.toList
def ktu (o:kgf):An TB:= .no
def kgy (x:kv0) (o:kgf):Prop:=WPh TB kai 11 0 kgw (ktu o) (k2v.st TB x) (retTQ TB kai k2v kka o)
theorem k19e (o:kgf):OblH TB kai 11 0 kgw (ktu o) (retTQ TB kai k2v kka o):=
 OblH.ofC (X:=True) (by kernel_rfl) trivial
theorem k18e {x:kv0} {o:kgf} (h:kgy x o):k2v.Snd Try.prog x o:=
 Con.soundH (c:=k2v) (C:=kai) TBok ⟨inf_ok,(all_cons k9i (all_cons kd2 all_nil)),all_nil⟩ mix Try.func133 (show Try.f133.body=some kgw by kernel_rfl) (show Try.f133.ntmps=11 by kernel_rfl) (show Try.f133.results.toList=kka by kernel_rfl) rfl h (k19e o)
theorem k1cc {p0:TField} {p1:Int} {r0:Int} (h:
((p0.P=18446744069414584321)∧((!true)=true→
0=r0)∧
((!true)=false→
(0<p0.P∧0≤p1)∧(p1%p0.P)=r0))):kgy (p0.P,p1,()) (r0,()):=WPh.of_eq (by kernel_rfl) h
theorem bd133:Callable Try.prog 133:=⟨by rw[Try.func133];kernel_rfl,by rw[Try.func133];show some _≠some _;decide⟩
theorem k151 (p0:TField) (p1:Int) (h:p0.P=18446744069414584321∧U64 p1):kgy (p0.P,p1,()) (((p1%18446744069414584321):Int),()):=by
 obtain⟨hP,h1⟩:=h
 refine k1cc ⟨hP,fun h=>by simp at h,fun _=>⟨by omega,?_⟩⟩
 simp only[hP]
def kr0:Con TB.den:=k2v.fnR (fun x=>(fun(p0:TField) (p1:Int)=>p0.P=18446744069414584321∧U64 p1) (TField.mk x.1) x.2.1) fun x=>((fun(p0:TField) (p1:Int)=>((p1%18446744069414584321):Int)) (TField.mk x.1) x.2.1,())
theorem k1c0:kr0.Ok Try.prog TB:=Con.ok_fn k2v bd133 fun x h=>k18e (k151 (TField.mk x.1) x.2.1 h)
def kl:Con TB.den:=Con.mk0 122 [.one (.d (.int .u64)),.one (.d (.int .i64)),.one (.d (.int .i64))] [] (.one (.one (.d (.int .u64)))) []
abbrev kh6:=HL TB.den (hsT kl.ins (hsOs kl.pre))
abbrev k7i:=HL TB.den (hsV kl.res (hsOs kl.post))
def k5n:Cx TB:=⟨inf,[kr0],[],4,[]⟩
def k97:Code:=Try.f122.body.getD .skip
def ka9:List ResultVar:=Try.f122.results.toList
def kgn (o:k7i):An TB:= .no
def k93 (x:kh6) (o:k7i):Prop:=WPh TB k5n 31 0 k97 (kgn o) (kl.st TB x) (retTQ TB k5n kl ka9 o)
theorem krc (o:k7i):OblH TB k5n 31 0 k97 (kgn o) (retTQ TB k5n kl ka9 o):=
 OblH.ofC (X:=True) (by kernel_rfl) trivial
theorem kqj {x:kh6} {o:k7i} (h:k93 x o):kl.Snd Try.prog x o:=
 Con.soundH (c:=kl) (C:=k5n) TBok ⟨inf_ok,(all_cons k1c0 all_nil),all_nil⟩ mix Try.func122 (show Try.f122.body=some k97 by kernel_rfl) (show Try.f122.ntmps=31 by kernel_rfl) (show Try.f122.results.toList=ka9 by kernel_rfl) rfl h (krc o)
theorem kso {p0:Int} {p1:Int} {p2:Int} {r0:Int} (h:
((decide (p1<0)=true→
0=r0)∧
(decide (p1<0)=false→
(decide (8≤p1)=true→
0=r0)∧
(decide (8≤p1)=false→
(decide (p2<0)=true→
0=r0)∧
(decide (p2<0)=false→
(decide (2<p2)=true→
0=r0)∧
(decide (2<p2)=false→
let v1:Int:=IntKind.i64.wrap ((IntKind.i64.wrap (3*p1))+p2)
let v2:Int:=IntKind.u64.wrap (IntKind.i64.wrap (v1+1))
let v3:Int:=IntKind.u64.wrap (v2*11400714819323198485)
((TField.mk p0).P=18446744069414584321∧U64 v3)∧(v3%18446744069414584321)=r0)))))):k93 (p0,p1,p2,()) (r0,()):=WPh.of_eq (by kernel_rfl) h
theorem bd122:Callable Try.prog 122:=⟨by rw[Try.func122];kernel_rfl,by rw[Try.func122];show some _≠some _;decide⟩
theorem kq9 (p0:Int) (p1:Int) (p2:Int) (h:p0=18446744069414584321∧(0≤p1∧p1<8)∧0≤p2∧p2<3):k93 (p0,p1,p2,()) (((rc p1 p2):Int),()):=by
 obtain⟨hP,h1,h2⟩:=h
 refine kso ⟨fun h=> ?_,fun _=>⟨fun h=> ?_,fun _=>⟨fun h=> ?_,fun _=>⟨fun h=> ?_,fun _=> ?_⟩⟩⟩⟩
 ·simp at h;omega
 ·simp at h;omega
 ·simp at h;omega
 ·simp at h;omega
 ·simp only[]
  rw[wi (3*p1) (by omega) (by omega),wi (3*p1+p2) (by omega) (by omega),wi (3*p1+p2+1) (by omega) (by omega),wu (3*p1+p2+1) (by omega) (by omega),u64w]
  exact⟨⟨hP,by omega,by omega⟩,rfl⟩
def kf6:Con TB.den:=kl.fnR (fun x=>(fun(p0:Int) (p1:Int) (p2:Int)=>p0=18446744069414584321∧(0≤p1∧p1<8)∧0≤p2∧p2<3) x.1 x.2.1 x.2.2.1) fun x=>((fun(p0:Int) (p1:Int) (p2:Int)=>((rc p1 p2):Int)) x.1 x.2.1 x.2.2.1,())
theorem ksc:kf6.Ok Try.prog TB:=Con.ok_fn kl bd122 fun x h=>kqj (kq9 x.1 x.2.1 x.2.2.1 h)
def k1p:Con TB.den:=Con.mk0 123 [.one (.d (.int .u64)),.agg [.d (.int .u64),.d (.int .u64),.d (.int .u64)]] [] (.one (.agg [.d (.int .u64),.d (.int .u64),.d (.int .u64)])) []
abbrev kq1:=HL TB.den (hsT k1p.ins (hsOs k1p.pre))
abbrev kbi:=HL TB.den (hsV k1p.res (hsOs k1p.post))
def k84:Cx TB:=⟨inf,[ki2],[],4,[]⟩
def kcs:Code:=Try.f123.body.getD .skip
def kfp:List ResultVar:=Try.f123.results.toList
def kon (o:kbi):An TB:= .no
def kd9 (x:kq1) (o:kbi):Prop:=WPh TB k84 35 0 kcs (kon o) (k1p.st TB x) (retTQ TB k84 k1p kfp o)
theorem k10p (o:kbi):OblH TB k84 35 0 kcs (kon o) (retTQ TB k84 k1p kfp o):=
 OblH.ofC (X:=True) (by kernel_rfl) trivial
theorem k10d {x:kq1} {o:kbi} (h:kd9 x o):k1p.Snd Try.prog x o:=
 Con.soundH (c:=k1p) (C:=k84) TBok ⟨inf_ok,(all_cons kqm all_nil),all_nil⟩ mix Try.func123 (show Try.f123.body=some kcs by kernel_rfl) (show Try.f123.ntmps=35 by kernel_rfl) (show Try.f123.results.toList=kfp by kernel_rfl) rfl h (k10p o)
theorem k12w {p0:Int} {p1:TA3} {r0:TA3} (h:
(((TField.mk p0).P=18446744069414584321∧U64 p1.a0∧U64 p1.a1)∧((TField.mk p0).P=18446744069414584321∧U64 ((p1.a0+p1.a1)%18446744069414584321)∧U64 p1.a2)∧let r1:Int:=((((p1.a0+p1.a1)%18446744069414584321)+p1.a2)%18446744069414584321)
((TField.mk p0).P=18446744069414584321∧U64 p1.a0∧U64 r1)∧((TField.mk p0).P=18446744069414584321∧U64 p1.a1∧U64 r1)∧((TField.mk p0).P=18446744069414584321∧U64 p1.a2∧U64 r1)∧((p1.a0+r1)%18446744069414584321)=r0.a0∧((p1.a1+r1)%18446744069414584321)=r0.a1∧((p1.a2+r1)%18446744069414584321)=r0.a2)):kd9 (p0,p1.a0,p1.a1,p1.a2,()) (r0.a0,r0.a1,r0.a2,()):=WPh.of_eq (by kernel_rfl) h
theorem bd123:Callable Try.prog 123:=⟨by rw[Try.func123];kernel_rfl,by rw[Try.func123];show some _≠some _;decide⟩
theorem kx4 (p0:Int) (p1:TA3) (h:p0=18446744069414584321∧S3 p1):kd9 (p0,p1.a0,p1.a1,p1.a2,()) (((mixS p1).a0:Int),((mixS p1).a1:Int),((mixS p1).a2:Int),()):=by
 obtain⟨hP,h0,h1,h2⟩:=h
 refine k12w ?_
 simp only[hP]
 exact⟨⟨by trivial,h0,h1⟩,⟨by trivial,by omega,h2⟩,⟨by trivial,h0,by omega⟩,⟨by trivial,h1,by omega⟩,⟨by trivial,h2,by omega⟩,rfl,rfl,rfl⟩
def kln:Con TB.den:=k1p.fnR (fun x=>(fun(p0:Int) (p1:TA3)=>p0=18446744069414584321∧S3 p1) x.1 (TA3.mk x.2.1 x.2.2.1 x.2.2.2.1)) fun x=>((fun(p0:Int) (p1:TA3)=>((mixS p1).a0:Int)) x.1 (TA3.mk x.2.1 x.2.2.1 x.2.2.2.1),(fun(p0:Int) (p1:TA3)=>((mixS p1).a1:Int)) x.1 (TA3.mk x.2.1 x.2.2.1 x.2.2.2.1),(fun(p0:Int) (p1:TA3)=>((mixS p1).a2:Int)) x.1 (TA3.mk x.2.1 x.2.2.1 x.2.2.2.1),())
theorem k14c:kln.Ok Try.prog TB:=Con.ok_fn k1p bd123 fun x h=>k10d (kx4 x.1 (TA3.mk x.2.1 x.2.2.1 x.2.2.2.1) h)
def kk:Con TB.den:=Con.mk0 112 [.one (.d (.int .u64)),.agg [.d (.int .u64),.d (.int .u64),.d (.int .u64)]] [] (.one (.agg [.d (.int .u64),.d (.int .u64),.d (.int .u64)])) []
abbrev kjg:=HL TB.den (hsT kk.ins (hsOs kk.pre))
abbrev kc:=HL TB.den (hsV kk.res (hsOs kk.post))
def kp:Cx TB:=⟨inf,[k6y,kny,kf6,ki2,kyn,kln],[],4,[]⟩
def k1q:Code:=Try.f112.body.getD .skip
def k7j:List ResultVar:=Try.f112.results.toList
def ku8 (o:kc):=qS TB kp 43 0 (cB (cB (cB (cB (cB k1q))))) .no (retTQ TB kp kk k7j o)
def ka:Tm:=⟨[0,1,2],[.cells [.d (.int .u64),.d (.int .u64),.d (.int .u64)],.cells [.d (.int .u64),.d (.int .u64),.d (.int .u64)],.cells [.d (.int .u64)]],[0,3,4,5,6,17],[.one (.d (.int .u64)),.one (.ptr 0 0),.one (.ptr 1 0),.one (.ptr 2 0),.one (.d (.int .u64)),.one (.d (.int .i64))],3⟩
def khk (o:kc) (nx2:NX TB ka):=qM TB 0 ka nx2 (blockT TB 0 (ku8 o))
def kus (o:kc) (nx2:NX TB ka):=qS TB kp 43 0 (cB (cB (cB (cA (cA (cB (cA (cB (cB (cB (cB k1q))))))))))) .no (khk o nx2)
def ku0 (o:kc) (nx2:NX TB ka):=qS TB kp 43 0 (cB (cB (cA (cA (cB (cB (cA (cA (cB (cA (cB (cB (cB (cB k1q)))))))))))))) .no (blockT TB 1 (kus o nx2))
def k2y:Tm:=⟨[0,1,2],[.cells [.d (.int .u64),.d (.int .u64),.d (.int .u64)],.cells [.d (.int .u64),.d (.int .u64),.d (.int .u64)],.cells [.d (.int .u64)]],[0,3,4,5,6,7,17,20],[.one (.d (.int .u64)),.one (.ptr 0 0),.one (.ptr 1 0),.one (.ptr 2 0),.one (.d (.int .u64)),.one (.d (.int .i64)),.one (.d (.int .i64)),.one (.d (.int .i64))],3⟩
def kuw (o:kc) (nx2:NX TB ka) (nx1:NX TB k2y):=qM TB 0 k2y nx1 (blockT TB 2 (ku0 o nx2))
def k69 (o:kc) (nx2:NX TB ka) (nx1:NX TB k2y) (i:HL TB.den k2y.hs):Prop:=WP TB kp 43 0 (cA (cA (cB (cA (cB (cA (cA (cB (cB (cA (cA (cB (cA (cB (cB (cB (cB k1q))))))))))))))))) .no (k2y.fill TB i) (kuw o nx2 nx1)
def ku6 (o:kc) (nx2:NX TB ka):An TB:= .lp [] k2y (k69 o nx2) fun nx1=> .no
def ku7 (o:kc) (nx2:NX TB ka):An TB:= .nd [] .no [] (.nd [] (.nd [] .no [] (ku6 o nx2)) [] .no)
def kgo (o:kc) (nx2:NX TB ka):An TB:= .nd [] .no [] (.nd [] .no [] (.nd [] (ku7 o nx2) [] .no))
def k5z (o:kc) (nx2:NX TB ka) (i:HL TB.den ka.hs):Prop:=WP TB kp 43 0 (cA (cA (cB (cA (cB (cB (cB (cB k1q)))))))) (kgo o nx2) (ka.fill TB i) (khk o nx2)
def kse (o:kc):An TB:= .lp [] ka (k5z o) fun nx2=>(kgo o nx2)
def ksi (o:kc):An TB:= .nd [] .no [] (.nd [] (.nd [] .no [] (kse o)) [] .no)
def khm (o:kc):An TB:= .nd [] .no [] (.nd [] .no [] (.nd [] .no [] (ksi o)))
def k9r (x:kjg) (o:kc):Prop:=WPh TB kp 43 0 k1q (khm o) (kk.st TB x) (retTQ TB kp kk k7j o)
theorem ksj (o:kc):OblH TB kp 43 0 k1q (khm o) (retTQ TB kp kk k7j o):=
 OblH.ofC (X:=((∀nx i,(k5z o) nx i=(k5z o) nx i)∧(∀nx2:NX TB ka,((∀nx i,(k69 o nx2) nx i=(k69 o nx2) nx i)∧(∀nx1:NX TB k2y,True)∧True))∧True)) (by kernel_rfl) ⟨fun _ _=>rfl,fun _=>⟨fun _ _=>rfl,fun _=>trivial,trivial⟩,trivial⟩
theorem ksn {x:kjg} {o:kc} (h:k9r x o):kk.Snd Try.prog x o:=
 Con.soundH (c:=kk) (C:=kp) TBok ⟨inf_ok,(all_cons k9i (all_cons k168 (all_cons ksc (all_cons kqm (all_cons k1j4 (all_cons k14c all_nil)))))),all_nil⟩ mix Try.func112 (show Try.f112.body=some k1q by kernel_rfl) (show Try.f112.ntmps=43 by kernel_rfl) (show Try.f112.results.toList=k7j by kernel_rfl) rfl h (ksj o)
theorem kun {p0:Int} {p1:TA3} {r0:TA3} (h:
(((TField.mk p0).P=18446744069414584321)∧((!true)=true→
0=r0.a0∧0=r0.a1∧0=r0.a2)∧
((!true)=false→
((TField.mk p0).P=18446744069414584321)∧Md.Loop (p0,(7:Int),(0:Int),p1.a0,p1.a1,p1.a2,(0:Int),(0:Int),(0:Int),p0,()) (k5z (r0.a0,r0.a1,r0.a2,()))))):k9r (p0,p1.a0,p1.a1,p1.a2,()) (r0.a0,r0.a1,r0.a2,()):=WPh.of_eq (by kernel_rfl) h
def kht (r0:TA3) (nx2:NX TB ka) (k2:Int→Int→Int→Int→Prop) (s0:Int) (s6:Int) (h1_0:Int) (h1_1:Int) (h1_2:Int) (h2_0:Int) (s17:Int) (h0_0:Int) (h0_1:Int) (h0_2:Int):Prop:=
(decide (s17<8)=true→
Md.Loop (s0,s6,s17,s17,(0:Int),h0_0,h0_1,h0_2,h1_0,h1_1,h1_2,h2_0,()) (k69 (r0.a0,r0.a1,r0.a2,()) nx2))∧
(decide (s17<8)=false→
h0_0=r0.a0∧h0_1=r0.a1∧h0_2=r0.a2)
theorem ksq {r0:TA3} {s0:Int} {s6:Int} {h1_0:Int} {h1_1:Int} {h1_2:Int} {h2_0:Int} {s17:Int} {h0_0:Int} {h0_1:Int} {h0_2:Int} (inv:Int→Int→Int→Int→Prop) (μ:Int→Int→Int→Int→Nat) (h0:inv s17 h0_0 h0_1 h0_2) (hs:∀(s17:Int) (h0_0:Int) (h0_1:Int) (h0_2:Int),inv s17 h0_0 h0_1 h0_2→kht r0 (fun s:Int×Int×Int×Int×Int×Int×Int×Int×Int×Int×Unit=>((s.1=s0∧s.2.1=s6∧s.2.2.2.2.2.2.1=h1_0∧s.2.2.2.2.2.2.2.1=h1_1∧s.2.2.2.2.2.2.2.2.1=h1_2∧s.2.2.2.2.2.2.2.2.2.1=h2_0)∧inv s.2.2.1 s.2.2.2.1 s.2.2.2.2.1 s.2.2.2.2.2.1)∧μ s.2.2.1 s.2.2.2.1 s.2.2.2.2.1 s.2.2.2.2.2.1<μ s17 h0_0 h0_1 h0_2) (fun s17q h0_0q h0_1q h0_2q=>inv s17q h0_0q h0_1q h0_2q∧μ s17q h0_0q h0_1q h0_2q<μ s17 h0_0 h0_1 h0_2) s0 s6 h1_0 h1_1 h1_2 h2_0 s17 h0_0 h0_1 h0_2):Md.Loop (s0,s6,s17,h0_0,h0_1,h0_2,h1_0,h1_1,h1_2,h2_0,()) (k5z (r0.a0,r0.a1,r0.a2,())):=
 ⟨⟨fun s:Int×Int×Int×Int×Int×Int×Int×Int×Int×Int×Unit=>(s.1=s0∧s.2.1=s6∧s.2.2.2.2.2.2.1=h1_0∧s.2.2.2.2.2.2.2.1=h1_1∧s.2.2.2.2.2.2.2.2.1=h1_2∧s.2.2.2.2.2.2.2.2.2.1=h2_0)∧inv s.2.2.1 s.2.2.2.1 s.2.2.2.2.1 s.2.2.2.2.2.1,fun s:Int×Int×Int×Int×Int×Int×Int×Int×Int×Int×Unit=>μ s.2.2.1 s.2.2.2.1 s.2.2.2.2.1 s.2.2.2.2.2.1,⟨⟨rfl,rfl,rfl,rfl,rfl,rfl⟩,h0⟩,fun(s0p,s6p,s17p,h0_0p,h0_1p,h0_2p,h1_0p,h1_1p,h1_2p,h2_0p,()) ⟨⟨eq0,eq1,eq2,eq3,eq4,eq5⟩,hi⟩=>by
  have eq0:s0p=s0:=eq0;subst s0p;have eq1:s6p=s6:=eq1;subst s6p;have eq2:h1_0p=h1_0:=eq2;subst h1_0p;have eq3:h1_1p=h1_1:=eq3;subst h1_1p;have eq4:h1_2p=h1_2:=eq4;subst h1_2p;have eq5:h2_0p=h2_0:=eq5;subst h2_0p;exact mpr_of (by kernel_rfl) ((congrArg (fun k=>kht r0 (fun s:Int×Int×Int×Int×Int×Int×Int×Int×Int×Int×Unit=>((s.1=s0∧s.2.1=s6∧s.2.2.2.2.2.2.1=h1_0∧s.2.2.2.2.2.2.2.1=h1_1∧s.2.2.2.2.2.2.2.2.1=h1_2∧s.2.2.2.2.2.2.2.2.2.1=h2_0)∧inv s.2.2.1 s.2.2.2.1 s.2.2.2.2.1 s.2.2.2.2.2.1)∧μ s.2.2.1 s.2.2.2.1 s.2.2.2.2.1 s.2.2.2.2.2.1<μ s17p h0_0p h0_1p h0_2p) k s0 s6 h1_0 h1_1 h1_2 h2_0 s17p h0_0p h0_1p h0_2p) (lpk4 (⟨rfl,rfl,rfl,rfl,rfl,rfl⟩:s0=s0∧s6=s6∧h1_0=h1_0∧h1_1=h1_1∧h1_2=h1_2∧h2_0=h2_0) inv (fun s17q h0_0q h0_1q h0_2q=>μ s17q h0_0q h0_1q h0_2q<μ s17p h0_0p h0_1p h0_2p))).mpr (hs s17p h0_0p h0_1p h0_2p hi))⟩⟩
def khc (r0:TA3) (nx2:NX TB ka) (k1:Int→Int→Int→Int→Prop) (s0:Int) (s6:Int) (s7:Int) (s17:Int) (h1_0:Int) (h1_1:Int) (h1_2:Int) (h2_0:Int) (s20:Int) (h0_0:Int) (h0_1:Int) (h0_2:Int):Prop:=
(decide (s20<3)=true→
(0≤s20∧s20<(3:Int))∧(0≤s20∧s20<(3:Int))∧(s0=18446744069414584321∧(0≤s7∧s7<8)∧0≤s20∧s20<3)∧((TField.mk h2_0).P=18446744069414584321∧U64 (ix [h0_0,h0_1,h0_2] s20)∧U64 (rc s7 s20))∧let r1:Int:=(((ix [h0_0,h0_1,h0_2] s20)+(rc s7 s20))%18446744069414584321)
((TField.mk h2_0).P=18446744069414584321∧U64 r1∧U64 s6)∧(0≤s20∧s20<(3:Int))∧(0≤s20∧s20<(3:Int))∧k1 (IntKind.i64.wrap (s20+1):Int) ((bif decide (s20=(0:Int))then(pw (r1%18446744069414584321) s6)else h0_0):Int) ((bif decide (s20=(1:Int))then(pw (r1%18446744069414584321) s6)else h0_1):Int) ((bif decide (s20=(2:Int))then(pw (r1%18446744069414584321) s6)else h0_2):Int))∧
(decide (s20<3)=false→
(s0=18446744069414584321∧S3 (TA3.mk h0_0 h0_1 h0_2))∧nx2 (s0,s6,(IntKind.i64.wrap (s17+1):Int),((mixS (TA3.mk h0_0 h0_1 h0_2)).a0:Int),((mixS (TA3.mk h0_0 h0_1 h0_2)).a1:Int),((mixS (TA3.mk h0_0 h0_1 h0_2)).a2:Int),h1_0,h1_1,h1_2,h2_0,()))
theorem ksl {r0:TA3} {nx2:NX TB ka} {s0:Int} {s6:Int} {s7:Int} {s17:Int} {h1_0:Int} {h1_1:Int} {h1_2:Int} {h2_0:Int} {s20:Int} {h0_0:Int} {h0_1:Int} {h0_2:Int} (inv:Int→Int→Int→Int→Prop) (μ:Int→Int→Int→Int→Nat) (h0:inv s20 h0_0 h0_1 h0_2) (hs:∀(s20:Int) (h0_0:Int) (h0_1:Int) (h0_2:Int),inv s20 h0_0 h0_1 h0_2→khc r0 nx2 (fun s20q h0_0q h0_1q h0_2q=>inv s20q h0_0q h0_1q h0_2q∧μ s20q h0_0q h0_1q h0_2q<μ s20 h0_0 h0_1 h0_2) s0 s6 s7 s17 h1_0 h1_1 h1_2 h2_0 s20 h0_0 h0_1 h0_2):Md.Loop (s0,s6,s7,s17,s20,h0_0,h0_1,h0_2,h1_0,h1_1,h1_2,h2_0,()) (k69 (r0.a0,r0.a1,r0.a2,()) nx2):=
 ⟨⟨fun s:Int×Int×Int×Int×Int×Int×Int×Int×Int×Int×Int×Int×Unit=>(s.1=s0∧s.2.1=s6∧s.2.2.1=s7∧s.2.2.2.1=s17∧s.2.2.2.2.2.2.2.2.1=h1_0∧s.2.2.2.2.2.2.2.2.2.1=h1_1∧s.2.2.2.2.2.2.2.2.2.2.1=h1_2∧s.2.2.2.2.2.2.2.2.2.2.2.1=h2_0)∧inv s.2.2.2.2.1 s.2.2.2.2.2.1 s.2.2.2.2.2.2.1 s.2.2.2.2.2.2.2.1,fun s:Int×Int×Int×Int×Int×Int×Int×Int×Int×Int×Int×Int×Unit=>μ s.2.2.2.2.1 s.2.2.2.2.2.1 s.2.2.2.2.2.2.1 s.2.2.2.2.2.2.2.1,⟨⟨rfl,rfl,rfl,rfl,rfl,rfl,rfl,rfl⟩,h0⟩,fun(s0p,s6p,s7p,s17p,s20p,h0_0p,h0_1p,h0_2p,h1_0p,h1_1p,h1_2p,h2_0p,()) ⟨⟨eq0,eq1,eq2,eq3,eq4,eq5,eq6,eq7⟩,hi⟩=>by
  have eq0:s0p=s0:=eq0;subst s0p;have eq1:s6p=s6:=eq1;subst s6p;have eq2:s7p=s7:=eq2;subst s7p;have eq3:s17p=s17:=eq3;subst s17p;have eq4:h1_0p=h1_0:=eq4;subst h1_0p;have eq5:h1_1p=h1_1:=eq5;subst h1_1p;have eq6:h1_2p=h1_2:=eq6;subst h1_2p;have eq7:h2_0p=h2_0:=eq7;subst h2_0p;exact mpr_of (by kernel_rfl) ((congrArg (fun k=>khc r0 nx2 k s0 s6 s7 s17 h1_0 h1_1 h1_2 h2_0 s20p h0_0p h0_1p h0_2p) (lpk4 (⟨rfl,rfl,rfl,rfl,rfl,rfl,rfl,rfl⟩:s0=s0∧s6=s6∧s7=s7∧s17=s17∧h1_0=h1_0∧h1_1=h1_1∧h1_2=h1_2∧h2_0=h2_0) inv (fun s20q h0_0q h0_1q h0_2q=>μ s20q h0_0q h0_1q h0_2q<μ s20p h0_0p h0_1p h0_2p))).mpr (hs s20p h0_0p h0_1p h0_2p hi))⟩⟩
theorem bd112:Callable Try.prog 112:=⟨by rw[Try.func112];kernel_rfl,by rw[Try.func112];show some _≠some _;decide⟩
theorem krm (p0:Int) (p1:TA3) (h:p0=18446744069414584321∧S3 p1):k9r (p0,p1.a0,p1.a1,p1.a2,()) (((permS p1).a0:Int),((permS p1).a1:Int),((permS p1).a2:Int),()):=by
 obtain⟨hP,hs⟩:=h
 subst hP
 refine kun ⟨rfl,fun h=>by simp at h,fun _=>⟨rfl,?_⟩⟩
 refine ksq (r0:=permS p1) (fun n a b c=>0≤n∧n≤8∧(⟨a,b,c⟩:TA3)=rnds n.toNat p1∧S3 ⟨a,b,c⟩) (fun n _ _ _=>(8-n).toNat) ⟨by omega,by omega,rfl,hs⟩ ?_
 rintro n a b c ⟨g0,g1,g2,g3⟩
 refine⟨fun h=> ?_,fun h=> ?_⟩
 ·have h:=of_decide_eq_true h
  refine ksl (r0:=permS p1) (fun i x y z=>(i=0∧x=a∧y=b∧z=c)∨(i=1∧x=pw ((a+rc n 0)%18446744069414584321) 7∧y=b∧z=c)∨(i=2∧x=pw ((a+rc n 0)%18446744069414584321) 7∧y=pw ((b+rc n 1)%18446744069414584321) 7∧z=c)∨(i=3∧x=pw ((a+rc n 0)%18446744069414584321) 7∧y=pw ((b+rc n 1)%18446744069414584321) 7∧z=pw ((c+rc n 2)%18446744069414584321) 7)) (fun i _ _ _=>(3-i).toNat) (.inl ⟨rfl,rfl,rfl,rfl⟩) ?_
  intro i x y z hi
  have hrc:∀k,U64 (rc n k):=fun k=>by unfold rc;omega
  have hpw:∀k e,0≤pw k e∧pw k e<18446744069414584321:=fun k e=>⟨Int.emod_nonneg _ (by omega),Int.emod_lt_of_pos _ (by omega)⟩
  obtain⟨h3a,h3b,h3c⟩:=g3
  refine⟨fun hh=> ?_,fun hh=> ?_⟩
  ·have hh:=of_decide_eq_true hh
   rcases hi with⟨rfl,rfl,rfl,rfl⟩|⟨rfl,rfl,rfl,rfl⟩|⟨rfl,rfl,rfl,rfl⟩|⟨rfl,_⟩
   ·refine⟨by omega,by omega,⟨rfl,by omega,by omega⟩,⟨rfl,h3a,hrc _⟩,⟨rfl,?_,by omega⟩,by omega,by omega,.inr (.inl ⟨rfl,?_,rfl,rfl⟩),by decide⟩
    ·exact⟨Int.emod_nonneg _ (by omega),Int.lt_trans (Int.emod_lt_of_pos _ (by omega)) (by omega)⟩
    ·show pw ((x+rc n 0)%18446744069414584321%18446744069414584321) 7=_
     rw[Int.emod_emod_of_dvd _ (Int.dvd_refl _)]
   ·refine⟨by omega,by omega,⟨rfl,by omega,by omega⟩,⟨rfl,h3b,hrc _⟩,⟨rfl,?_,by omega⟩,by omega,by omega,.inr (.inr (.inl ⟨rfl,rfl,?_,rfl⟩)),by decide⟩
    ·exact⟨Int.emod_nonneg _ (by omega),Int.lt_trans (Int.emod_lt_of_pos _ (by omega)) (by omega)⟩
    ·show pw ((y+rc n 1)%18446744069414584321%18446744069414584321) 7=_
     rw[Int.emod_emod_of_dvd _ (Int.dvd_refl _)]
   ·refine⟨by omega,by omega,⟨rfl,by omega,by omega⟩,⟨rfl,h3c,hrc _⟩,⟨rfl,?_,by omega⟩,by omega,by omega,.inr (.inr (.inr ⟨rfl,rfl,rfl,?_⟩)),by decide⟩
    ·exact⟨Int.emod_nonneg _ (by omega),Int.lt_trans (Int.emod_lt_of_pos _ (by omega)) (by omega)⟩
    ·show pw ((z+rc n 2)%18446744069414584321%18446744069414584321) 7=_
     rw[Int.emod_emod_of_dvd _ (Int.dvd_refl _)]
   ·omega
  ·have hh:=of_decide_eq_false hh
   rcases hi with⟨rfl,_⟩|⟨rfl,_⟩|⟨rfl,_⟩|⟨rfl,rfl,rfl,rfl⟩
   ·omega
   ·omega
   ·omega
   ·have e:rnds (n+1).toNat p1=rnd ⟨a,b,c⟩ n:=by
     rw[show(n+1).toNat=n.toNat+1 by omega]
     show rnd (rnds n.toNat p1) (n.toNat:Int)=_
     rw[←g2,show(n.toNat:Int)=n by omega]
    have hS:S3 (rnds (n+1).toNat p1):=by
     rw[e]
     unfold rnd mixS S3
     dsimp only
     omega
    have hinc:IntKind.i64.wrap (n+1)=n+1:=wi _ (by omega) (by omega)
    rw[hinc]
    refine⟨⟨rfl,by unfold S3;have:=hpw ((a+rc n 0)%18446744069414584321) 7;have:=hpw ((b+rc n 1)%18446744069414584321) 7;have:=hpw ((c+rc n 2)%18446744069414584321) 7;dsimp only;omega⟩,⟨⟨rfl,rfl,rfl,rfl,rfl,rfl⟩,(?_:0≤n+1∧n+1≤8∧_∧_)⟩,(?_:(8-(n+1)).toNat<(8-n).toNat)⟩
    ·refine⟨by omega,by omega,e.symm,?_⟩
     rw[e]at hS
     exact hS
    ·omega
 ·have h:=of_decide_eq_false h
  rw[show n=8 by omega]at g2
  have g2:(⟨a,b,c⟩:TA3)=permS p1:=g2
  rw[←g2]
  exact⟨rfl,rfl,rfl⟩
def kgq:Con TB.den:=kk.fnR (fun x=>(fun(p0:Int) (p1:TA3)=>p0=18446744069414584321∧S3 p1) x.1 (TA3.mk x.2.1 x.2.2.1 x.2.2.2.1)) fun x=>((fun(p0:Int) (p1:TA3)=>((permS p1).a0:Int)) x.1 (TA3.mk x.2.1 x.2.2.1 x.2.2.2.1),(fun(p0:Int) (p1:TA3)=>((permS p1).a1:Int)) x.1 (TA3.mk x.2.1 x.2.2.1 x.2.2.2.1),(fun(p0:Int) (p1:TA3)=>((permS p1).a2:Int)) x.1 (TA3.mk x.2.1 x.2.2.1 x.2.2.2.1),())
theorem kui:kgq.Ok Try.prog TB:=Con.ok_fn kk bd112 fun x h=>ksn (krm x.1 (TA3.mk x.2.1 x.2.2.1 x.2.2.2.1) h)
def k1w:Con TB.den:=Con.mk0 104 [.one (.d (.int .u64)),.one (.d (.int .u64)),.one (.d (.sl (.int .u64)))] [] (.one (.agg [.d (.int .u64),.d (.int .u64),.d (.int .u64)])) []
abbrev kt9:=HL TB.den (hsT k1w.ins (hsOs k1w.pre))
abbrev k1t:=HL TB.den (hsV k1w.res (hsOs k1w.post))
def k30:Cx TB:=⟨inf,[kyv,ki2,kgq],[],4,[]⟩
def k5b:Code:=Try.f104.body.getD .skip
def kcy:List ResultVar:=Try.f104.results.toList
def k17z (o:k1t):=qS TB k30 61 0 (cB (cB (cB (cB (cB k5b))))) .no (retTQ TB k30 k1w kcy o)
def k1j:Tm:=⟨[0,1,38],[.cells [.d (.int .u64),.d (.int .u64),.d (.int .u64)],.cells [.d (.int .u64)],.cells [.d (.int .u64),.d (.int .u64),.d (.int .u64)]],[0,2,6,7,8,9],[.one (.d (.int .u64)),.one (.d (.sl (.int .u64))),.one (.ptr 0 0),.one (.ptr 1 0),.one (.ptr 2 0),.one (.d (.int .i64))],46⟩
def kqo (o:k1t) (nx1:NX TB k1j):=qM TB 0 k1j nx1 (blockT TB 0 (k17z o))
def k188 (o:k1t) (nx1:NX TB k1j):=qS TB k30 61 0 (cB (cB (cA (cA (cB (cA (cB (cB (cB (cB k5b)))))))))) .no (kqo o nx1)
def kbf:Tm:=⟨[0,1,38],[.cells [.d (.int .u64),.d (.int .u64),.d (.int .u64)],.cells [.d (.int .u64)],.cells [.d (.int .u64),.d (.int .u64),.d (.int .u64)]],[0,2,6,7,8,9],[.one (.d (.int .u64)),.one (.d (.sl (.int .u64))),.one (.ptr 0 0),.one (.ptr 1 0),.one (.ptr 2 0),.one (.d (.int .i64))],86⟩
def kpj (o:k1t) (nx1:NX TB k1j) (i:HL TB.den kbf.hs):Prop:=ghs TB [] (kbf.fill TB i) fun s=>WP TB k30 61 0 (cB (cB (cA (cA (cB (cA (cA (cB (cA (cB (cB (cB (cB k5b))))))))))))) .no s (blockT TB 1 (k188 o nx1))
structure k7f (o:k1t) (nx1:NX TB k1j) (i:HL TB.den kbf.hs):Prop where
 h:kpj o nx1 i
def ks0 (o:k1t) (nx1:NX TB k1j):An TB:= .nd [] .no [] (.jn kbf (k7f o nx1) [] .no [] .no)
def k9o (o:k1t) (nx1:NX TB k1j) (i:HL TB.den k1j.hs):Prop:=WP TB k30 61 0 (cA (cA (cB (cA (cB (cB (cB (cB k5b)))))))) (.nd [] .no [] (.nd [] (ks0 o nx1) [] .no)) (k1j.fill TB i) (kqo o nx1)
def k17s (o:k1t):An TB:= .lp [] k1j (k9o o) fun nx1=>(.nd [] .no [] (.nd [] (ks0 o nx1) [] .no))
def k19m (o:k1t):An TB:= .nd [] .no [] (.nd [] (.nd [] .no [] (k17s o)) [] .no)
def kqn (o:k1t):An TB:= .nd [] .no [] (.nd [] .no [] (.nd [] .no [] (k19m o)))
def kew (x:kt9) (o:k1t):Prop:=WPh TB k30 61 0 k5b (kqn o) (k1w.st TB x) (retTQ TB k30 k1w kcy o)
theorem k156 (o:k1t):OblH TB k30 61 0 k5b (kqn o) (retTQ TB k30 k1w kcy o):=
 OblH.ofC (X:=((∀nx i,(k9o o) nx i=(k9o o) nx i)∧(∀nx1:NX TB k1j,((∀i,(k7f o nx1) i=kpj o nx1 i)∧True))∧True)) (by kernel_rfl) ⟨fun _ _=>rfl,fun _=>⟨fun _=>propext ⟨fun h=>h.1,fun h=>⟨h⟩⟩,trivial⟩,trivial⟩
theorem k163 {x:kt9} {o:k1t} (h:kew x o):k1w.Snd Try.prog x o:=
 Con.soundH (c:=k1w) (C:=k30) TBok ⟨inf_ok,(all_cons k1kp (all_cons kqm (all_cons kui all_nil))),all_nil⟩ mix Try.func104 (show Try.f104.body=some k5b by kernel_rfl) (show Try.f104.ntmps=61 by kernel_rfl) (show Try.f104.results.toList=kcy by kernel_rfl) rfl h (k156 o)
theorem k192 {p0:Int} {p1:Int} {p2:List Int} {r0:TA3} (h:
(((TField.mk p0).P=18446744069414584321∧U64 p1∧U64 (65536:Int))∧let r1:Int:=(p1*(65536:Int)%18446744069414584321)
((TField.mk p0).P=18446744069414584321∧U64 r1∧U64 (IntKind.u64.wrap (p2.length:Int)))∧let r2:Int:=((r1+(IntKind.u64.wrap (p2.length:Int)))%18446744069414584321)
(((p2.length:Int)==0)=true→
(p0=18446744069414584321∧S3 (TA3.mk 0 0 r2))∧(permS (TA3.mk 0 0 r2)).a0=r0.a0∧(permS (TA3.mk 0 0 r2)).a1=r0.a1∧(permS (TA3.mk 0 0 r2)).a2=r0.a2)∧
(((p2.length:Int)==0)=false→
Md.Loop (p0,p2,(0:Int),(0:Int),(0:Int),(0:Int),p0,(0:Int),(0:Int),r2,()) (k9o (r0.a0,r0.a1,r0.a2,()))))):kew (p0,p1,p2,()) (r0.a0,r0.a1,r0.a2,()):=WPh.of_eq (by kernel_rfl) h
theorem k10l {r0:TA3} {nx1:NX TB k1j} {s0:Int} {s2:List Int} {s9:Int} {h0_0:Int} {h0_1:Int} {h0_2:Int} {h1_0:Int} {h38_0:Int} {h38_1:Int} {h38_2:Int} (h:
((s0=18446744069414584321∧S3 (TA3.mk h38_0 h38_1 h38_2))∧nx1 (s0,s2,(IntKind.i64.wrap (s9+2):Int),h0_0,h0_1,h0_2,h1_0,((permS (TA3.mk h38_0 h38_1 h38_2)).a0:Int),((permS (TA3.mk h38_0 h38_1 h38_2)).a1:Int),((permS (TA3.mk h38_0 h38_1 h38_2)).a2:Int),()))):k7f (r0.a0,r0.a1,r0.a2,()) nx1 (s0,s2,s9,h0_0,h0_1,h0_2,h1_0,h38_0,h38_1,h38_2,()):=⟨mpr_of (by kernel_rfl) h⟩
def krn (r0:TA3) (nx1:NX TB k1j) (k1:Int→Int→Int→Int→Prop) (s0:Int) (s2:List Int) (h0_0:Int) (h0_1:Int) (h0_2:Int) (h1_0:Int) (s9:Int) (h38_0:Int) (h38_1:Int) (h38_2:Int):Prop:=
(decide (s9<(s2.length:Int))=true→
(0≤s9)∧s9<(s2.length:Int)∧((TField.mk h1_0).P=18446744069414584321∧U64 h38_0∧U64 (ix s2 s9))∧let r3:Int:=((h38_0+(ix s2 s9))%18446744069414584321)
let v4:Bool:=decide ((IntKind.i64.wrap (s9+1))<(s2.length:Int))
(v4=true→
(0≤IntKind.i64.wrap (s9+1))∧IntKind.i64.wrap (s9+1)<(s2.length:Int)∧((TField.mk h1_0).P=18446744069414584321∧U64 h38_1∧U64 (ix s2 (IntKind.i64.wrap (s9+1))))∧let r5:Int:=((h38_1+(ix s2 (IntKind.i64.wrap (s9+1))))%18446744069414584321)
k7f (r0.a0,r0.a1,r0.a2,()) nx1 (s0,s2,s9,h0_0,h0_1,h0_2,h1_0,r3,r5,h38_2,()))∧
(v4=false→
k7f (r0.a0,r0.a1,r0.a2,()) nx1 (s0,s2,s9,h0_0,h0_1,h0_2,h1_0,r3,h38_1,h38_2,())))∧
(decide (s9<(s2.length:Int))=false→
h38_0=r0.a0∧h38_1=r0.a1∧h38_2=r0.a2)
theorem k164 {r0:TA3} {s0:Int} {s2:List Int} {h0_0:Int} {h0_1:Int} {h0_2:Int} {h1_0:Int} {s9:Int} {h38_0:Int} {h38_1:Int} {h38_2:Int} (inv:Int→Int→Int→Int→Prop) (μ:Int→Int→Int→Int→Nat) (h0:inv s9 h38_0 h38_1 h38_2) (hs:∀(s9:Int) (h38_0:Int) (h38_1:Int) (h38_2:Int),inv s9 h38_0 h38_1 h38_2→krn r0 (fun s:Int×(List Int)×Int×Int×Int×Int×Int×Int×Int×Int×Unit=>((s.1=s0∧s.2.1=s2∧s.2.2.2.1=h0_0∧s.2.2.2.2.1=h0_1∧s.2.2.2.2.2.1=h0_2∧s.2.2.2.2.2.2.1=h1_0)∧inv s.2.2.1 s.2.2.2.2.2.2.2.1 s.2.2.2.2.2.2.2.2.1 s.2.2.2.2.2.2.2.2.2.1)∧μ s.2.2.1 s.2.2.2.2.2.2.2.1 s.2.2.2.2.2.2.2.2.1 s.2.2.2.2.2.2.2.2.2.1<μ s9 h38_0 h38_1 h38_2) (fun s9q h38_0q h38_1q h38_2q=>inv s9q h38_0q h38_1q h38_2q∧μ s9q h38_0q h38_1q h38_2q<μ s9 h38_0 h38_1 h38_2) s0 s2 h0_0 h0_1 h0_2 h1_0 s9 h38_0 h38_1 h38_2):Md.Loop (s0,s2,s9,h0_0,h0_1,h0_2,h1_0,h38_0,h38_1,h38_2,()) (k9o (r0.a0,r0.a1,r0.a2,())):=
 ⟨⟨fun s:Int×(List Int)×Int×Int×Int×Int×Int×Int×Int×Int×Unit=>(s.1=s0∧s.2.1=s2∧s.2.2.2.1=h0_0∧s.2.2.2.2.1=h0_1∧s.2.2.2.2.2.1=h0_2∧s.2.2.2.2.2.2.1=h1_0)∧inv s.2.2.1 s.2.2.2.2.2.2.2.1 s.2.2.2.2.2.2.2.2.1 s.2.2.2.2.2.2.2.2.2.1,fun s:Int×(List Int)×Int×Int×Int×Int×Int×Int×Int×Int×Unit=>μ s.2.2.1 s.2.2.2.2.2.2.2.1 s.2.2.2.2.2.2.2.2.1 s.2.2.2.2.2.2.2.2.2.1,⟨⟨rfl,rfl,rfl,rfl,rfl,rfl⟩,h0⟩,fun(s0p,s2p,s9p,h0_0p,h0_1p,h0_2p,h1_0p,h38_0p,h38_1p,h38_2p,()) ⟨⟨eq0,eq1,eq2,eq3,eq4,eq5⟩,hi⟩=>by
  have eq0:s0p=s0:=eq0;subst s0p;have eq1:s2p=s2:=eq1;subst s2p;have eq2:h0_0p=h0_0:=eq2;subst h0_0p;have eq3:h0_1p=h0_1:=eq3;subst h0_1p;have eq4:h0_2p=h0_2:=eq4;subst h0_2p;have eq5:h1_0p=h1_0:=eq5;subst h1_0p;exact mpr_of (by kernel_rfl) ((congrArg (fun k=>krn r0 (fun s:Int×(List Int)×Int×Int×Int×Int×Int×Int×Int×Int×Unit=>((s.1=s0∧s.2.1=s2∧s.2.2.2.1=h0_0∧s.2.2.2.2.1=h0_1∧s.2.2.2.2.2.1=h0_2∧s.2.2.2.2.2.2.1=h1_0)∧inv s.2.2.1 s.2.2.2.2.2.2.2.1 s.2.2.2.2.2.2.2.2.1 s.2.2.2.2.2.2.2.2.2.1)∧μ s.2.2.1 s.2.2.2.2.2.2.2.1 s.2.2.2.2.2.2.2.2.1 s.2.2.2.2.2.2.2.2.2.1<μ s9p h38_0p h38_1p h38_2p) k s0 s2 h0_0 h0_1 h0_2 h1_0 s9p h38_0p h38_1p h38_2p) (lpk4 (⟨rfl,rfl,rfl,rfl,rfl,rfl⟩:s0=s0∧s2=s2∧h0_0=h0_0∧h0_1=h0_1∧h0_2=h0_2∧h1_0=h1_0) inv (fun s9q h38_0q h38_1q h38_2q=>μ s9q h38_0q h38_1q h38_2q<μ s9p h38_0p h38_1p h38_2p))).mpr (hs s9p h38_0p h38_1p h38_2p hi))⟩⟩
theorem bd104:Callable Try.prog 104:=⟨by rw[Try.func104];kernel_rfl,by rw[Try.func104];show some _≠some _;decide⟩
theorem k139 (p0:Int) (p1:Int) (p2:List Int) (h:p0=18446744069414584321∧U64 p1∧Us p2∧p2.length≤1099511627776):kew (p0,p1,p2,()) (((absS p1 p2).a0:Int),((absS p1 p2).a1:Int),((absS p1 p2).a2:Int),()):=by
 obtain⟨hP,h1,h2,h3⟩:=h
 subst hP
 have hp:∀s:TA3,S3 (permS s):=fun s=>by
  show S3 (rnd _ _)
  unfold rnd mixS S3
  dsimp only
  omega
 have hi:S3 (absI p1 p2):=by unfold absI S3;dsimp only;omega
 have e:IntKind.u64.wrap (p2.length:Int)=p2.length:=wu _ (by omega) (by omega)
 have em:(p1*65536%18446744069414584321+(p2.length:Int))%18446744069414584321=(absI p1 p2).a2:=rfl
 refine k192 ?_
 rw[e]
 refine⟨⟨rfl,h1,by omega⟩,⟨rfl,by omega,by omega⟩,fun h=> ?_,fun h=> ?_⟩
 ·have h:p2=[]:=by simpa using h
  refine⟨⟨rfl,?_⟩,?_⟩
  ·exact hi
  ·have:permS ⟨0,0,(p1*65536%18446744069414584321+(p2.length:Int))%18446744069414584321⟩=absS p1 p2:=by unfold absS;rw[if_pos h];rfl
   rw[this]
   exact⟨rfl,rfl,rfl⟩
 ·have h:p2≠[]:=by simpa using h
  have hv:absL p2 (absI p1 p2)=absS p1 p2:=by unfold absS;rw[if_neg h]
  rw[em]
  refine k164 (r0:=absS p1 p2) (fun i a b c=>0≤i∧i≤p2.length+1∧absL (p2.drop i.toNat) ⟨a,b,c⟩=absS p1 p2∧S3 ⟨a,b,c⟩) (fun i _ _ _=>(p2.length+2-i).toNat) ⟨by omega,by omega,hv,hi⟩ ?_
  rintro i a b c ⟨g0,g1,g2,g3⟩
  obtain⟨h3a,h3b,h3c⟩:=g3
  refine⟨fun hh=> ?_,fun hh=> ?_⟩
  ·have hh:=of_decide_eq_true hh
   have hx:=h2 _ (ix_mem p2 i g0 hh)
   rw[wi (i+1) (by omega) (by omega)]
   have fin:∀nx x y z,S3 ⟨x,y,z⟩→absL (p2.drop (i+2).toNat) (permS ⟨x,y,z⟩)=absS p1 p2→(0≤i+2∧i+2≤p2.length+1∧absL (p2.drop (i+2).toNat) (permS ⟨x,y,z⟩)=absS p1 p2∧S3 (permS ⟨x,y,z⟩)→(p2.length+2-(i+2)).toNat<(p2.length+2-i).toNat→nx ((18446744069414584321:Int),p2,(i+2:Int),(0:Int),(0:Int),(0:Int),(18446744069414584321:Int),(permS ⟨x,y,z⟩).a0,(permS ⟨x,y,z⟩).a1,(permS ⟨x,y,z⟩).a2,()))→k7f ((absS p1 p2).a0,(absS p1 p2).a1,(absS p1 p2).a2,()) nx ((18446744069414584321:Int),p2,i,(0:Int),(0:Int),(0:Int),(18446744069414584321:Int),x,y,z,()):=by
    intro nx x y z hS hv' hn
    refine k10l (r0:=absS p1 p2) ?_
    rw[wi (i+2) (by omega) (by omega)]
    exact⟨⟨rfl,hS⟩,hn ⟨by omega,by omega,hv',hp _⟩ (by omega)⟩
   have hdrop:=drop_ix p2 i g0 hh
   rw[hdrop]at g2
   refine⟨g0,hh,⟨rfl,h3a,hx⟩,fun h5=> ?_,fun h5=> ?_⟩
   ·have h5:=of_decide_eq_true h5
    have hy:=h2 _ (ix_mem p2 (i+1) (by omega) h5)
    rw[drop_ix p2 (i+1) (by omega) h5,show i+1+1=i+2 by omega]at g2
    refine⟨by omega,h5,⟨rfl,h3b,hy⟩,fin _ _ _ _ (S3m (by omega) (by omega) h3c) g2 fun k1 k2=>⟨⟨⟨rfl,rfl,rfl,rfl,rfl,rfl⟩,k1⟩,k2⟩⟩
   ·have h5:=of_decide_eq_false h5
    have ed:p2.drop (i+1).toNat=[]:=List.drop_eq_nil_of_le (by omega)
    have ed2:p2.drop (i+2).toNat=[]:=List.drop_eq_nil_of_le (by omega)
    rw[ed]at g2
    exact fin _ _ _ _ (S3m (by omega) h3b h3c) (by rw[ed2];exact g2) fun k1 k2=>⟨⟨⟨rfl,rfl,rfl,rfl,rfl,rfl⟩,k1⟩,k2⟩
  ·have hh:=of_decide_eq_false hh
   rw[List.drop_eq_nil_of_le (by omega)]at g2
   have g2:(⟨a,b,c⟩:TA3)=absS p1 p2:=g2
   rw[←g2]
   exact⟨rfl,rfl,rfl⟩
def kpf:Con TB.den:=k1w.fnR (fun x=>(fun(p0:Int) (p1:Int) (p2:List Int)=>p0=18446744069414584321∧U64 p1∧Us p2∧p2.length≤1099511627776) x.1 x.2.1 x.2.2.1) fun x=>((fun(p0:Int) (p1:Int) (p2:List Int)=>((absS p1 p2).a0:Int)) x.1 x.2.1 x.2.2.1,(fun(p0:Int) (p1:Int) (p2:List Int)=>((absS p1 p2).a1:Int)) x.1 x.2.1 x.2.2.1,(fun(p0:Int) (p1:Int) (p2:List Int)=>((absS p1 p2).a2:Int)) x.1 x.2.1 x.2.2.1,())
theorem k199:kpf.Ok Try.prog TB:=Con.ok_fn k1w bd104 fun x h=>k163 (k139 x.1 x.2.1 x.2.2.1 h)
def k3i:Con TB.den:=Con.mk0 82 [.one (.d (.int .u64)),.one (.d (.int .u64)),.one (.d (.sl (.int .u64)))] [] (.one (.one (.d (.int .u64)))) []
abbrev kyl:=HL TB.den (hsT k3i.ins (hsOs k3i.pre))
abbrev kia:=HL TB.den (hsV k3i.res (hsOs k3i.post))
def kce:Cx TB:=⟨inf,[k6y,kpf],[],4,[]⟩
def kio:Code:=Try.f82.body.getD .skip
def km8:List ResultVar:=Try.f82.results.toList
def kw8 (o:kia):An TB:= .no
def kil (x:kyl) (o:kia):Prop:=WPh TB kce 16 0 kio (kw8 o) (k3i.st TB x) (retTQ TB kce k3i km8 o)
theorem k1bz (o:kia):OblH TB kce 16 0 kio (kw8 o) (retTQ TB kce k3i km8 o):=
 OblH.ofC (X:=True) (by kernel_rfl) trivial
theorem k1bq {x:kyl} {o:kia} (h:kil x o):k3i.Snd Try.prog x o:=
 Con.soundH (c:=k3i) (C:=kce) TBok ⟨inf_ok,(all_cons k9i (all_cons k199 all_nil)),all_nil⟩ mix Try.func82 (show Try.f82.body=some kio by kernel_rfl) (show Try.f82.ntmps=16 by kernel_rfl) (show Try.f82.results.toList=km8 by kernel_rfl) rfl h (k1bz o)
theorem k1ep {p0:Int} {p1:Int} {p2:List Int} {r0:Int} (h:
(((TField.mk p0).P=18446744069414584321)∧((!true)=true→
0=r0)∧
((!true)=false→
(p0=18446744069414584321∧U64 p1∧Us p2∧p2.length≤1099511627776)∧(absS p1 p2).a0=r0))):kil (p0,p1,p2,()) (r0,()):=WPh.of_eq (by kernel_rfl) h
theorem bd82:Callable Try.prog 82:=⟨by rw[Try.func82];kernel_rfl,by rw[Try.func82];show some _≠some _;decide⟩
theorem k19d (p0:Int) (p1:Int) (p2:List Int) (h:p0=18446744069414584321∧U64 p1∧Us p2∧p2.length≤1099511627776):kil (p0,p1,p2,()) (((hashS p1 p2):Int),()):=by
 obtain⟨hP,h1,h2,h3⟩:=h
 subst hP
 exact k1ep ⟨rfl,fun h=>by simp at h,fun _=>⟨⟨rfl,h1,h2,h3⟩,rfl⟩⟩
def keg:Con TB.den:=k3i.fnR (fun x=>(fun(p0:Int) (p1:Int) (p2:List Int)=>p0=18446744069414584321∧U64 p1∧Us p2∧p2.length≤1099511627776) x.1 x.2.1 x.2.2.1) fun x=>((fun(p0:Int) (p1:Int) (p2:List Int)=>((hashS p1 p2):Int)) x.1 x.2.1 x.2.2.1,())
theorem kmr:keg.Ok Try.prog TB:=Con.ok_fn k3i bd82 fun x h=>k1bq (k19d x.1 x.2.1 x.2.2.1 h)
def k51:Con TB.den:=Con.mk0 77 [.one (.d (.int .u64)),.one (.d (.sl (.int .u64)))] [] (.one (.one (.d (.int .u64)))) []
abbrev k17c:=HL TB.den (hsT k51.ins (hsOs k51.pre))
abbrev knu:=HL TB.den (hsV k51.res (hsOs k51.post))
def kfy:Cx TB:=⟨inf,[keg],[],4,[]⟩
def kme:Code:=Try.f77.body.getD .skip
def kra:List ResultVar:=Try.f77.results.toList
def k12n (o:knu):An TB:= .no
def kmo (x:k17c) (o:knu):Prop:=WPh TB kfy 8 0 kme (k12n o) (k51.st TB x) (retTQ TB kfy k51 kra o)
theorem k1ib (o:knu):OblH TB kfy 8 0 kme (k12n o) (retTQ TB kfy k51 kra o):=
 OblH.ofC (X:=True) (by kernel_rfl) trivial
theorem k1ia {x:k17c} {o:knu} (h:kmo x o):k51.Snd Try.prog x o:=
 Con.soundH (c:=k51) (C:=kfy) TBok ⟨inf_ok,(all_cons kmr all_nil),all_nil⟩ mix Try.func77 (show Try.f77.body=some kme by kernel_rfl) (show Try.f77.ntmps=8 by kernel_rfl) (show Try.f77.results.toList=kra by kernel_rfl) rfl h (k1ib o)
theorem k1kq {p0:Int} {p1:List Int} {r0:Int} (h:
(((18446744069414584321:Int)=18446744069414584321∧U64 p0∧Us p1∧p1.length≤1099511627776)∧(hashS p0 p1)=r0)):kmo (p0,p1,()) (r0,()):=WPh.of_eq (by kernel_rfl) h
theorem bd77:Callable Try.prog 77:=⟨by rw[Try.func77];kernel_rfl,by rw[Try.func77];show some _≠some _;decide⟩
theorem k1eb (p0:Int) (p1:List Int) (h:U64 p0∧Us p1∧p1.length≤1099511627776):kmo (p0,p1,()) (((hashS p0 p1):Int),()):=by
 exact k1kq ⟨⟨rfl,h.1,h.2.1,h.2.2⟩,rfl⟩
def koy:Con TB.den:=k51.fnR (fun x=>(fun(p0:Int) (p1:List Int)=>U64 p0∧Us p1∧p1.length≤1099511627776) x.1 x.2.1) fun x=>((fun(p0:Int) (p1:List Int)=>((hashS p0 p1):Int)) x.1 x.2.1,())
theorem k13x:koy.Ok Try.prog TB:=Con.ok_fn k51 bd77 fun x h=>k1ia (k1eb x.1 x.2.1 h)
def k2t:Con TB.den:=Con.mk0 35 [.one (.d (.int .u64))] [] (.one (.one (.d (.int .u64)))) []
abbrev kvw:=HL TB.den (hsT k2t.ins (hsOs k2t.pre))
abbrev kg7:=HL TB.den (hsV k2t.res (hsOs k2t.post))
def kaj:Cx TB:=⟨inf,[koy],[],4,[]⟩
def kh3:Code:=Try.f35.body.getD .skip
def kkj:List ResultVar:=Try.f35.results.toList
def ktq (o:kg7):An TB:= .no
def kh2 (x:kvw) (o:kg7):Prop:=WPh TB kaj 6 0 kh3 (ktq o) (k2t.st TB x) (retTQ TB kaj k2t kkj o)
theorem k182 (o:kg7):OblH TB kaj 6 0 kh3 (ktq o) (retTQ TB kaj k2t kkj o):=
 OblH.ofC (X:=True) (by kernel_rfl) trivial
theorem k189 {x:kvw} {o:kg7} (h:kh2 x o):k2t.Snd Try.prog x o:=
 Con.soundH (c:=k2t) (C:=kaj) TBok ⟨inf_ok,(all_cons k13x all_nil),all_nil⟩ mix Try.func35 (show Try.f35.body=some kh3 by kernel_rfl) (show Try.f35.ntmps=6 by kernel_rfl) (show Try.f35.results.toList=kkj by kernel_rfl) rfl h (k182 o)
theorem k1b4 {p0:Int} {r0:Int} (h:
((U64 (7:Int)∧Us [p0]∧[p0].length≤1099511627776)∧(hashS (7:Int) [p0])=r0)):kh2 (p0,()) (r0,()):=WPh.of_eq (by kernel_rfl) h
theorem bd35:Callable Try.prog 35:=⟨by rw[Try.func35];kernel_rfl,by rw[Try.func35];show some _≠some _;decide⟩
theorem k15i (p0:Int) (h:U64 p0):kh2 (p0,()) (((acctS p0):Int),()):=by
 exact k1b4 ⟨⟨by decide,(by intro x hx;rw[List.mem_singleton]at hx;subst hx;exact h),by simp⟩,rfl⟩
def kr9:Con TB.den:=k2t.fnR (fun x=>(fun(p0:Int)=>U64 p0) x.1) fun x=>((fun(p0:Int)=>((acctS p0):Int)) x.1,())
theorem k19z:kr9.Ok Try.prog TB:=Con.ok_fn k2t bd35 fun x h=>k189 (k15i x.1 h)
def k1d:Con TB.den:=Con.mk0 79 [.one (.d (.sl (.int .u64)))] [] (.one (.one (.d (.bool)))) []
abbrev kpt:=HL TB.den (hsT k1d.ins (hsOs k1d.pre))
abbrev k4k:=HL TB.den (hsV k1d.res (hsOs k1d.post))
def k3t:Cx TB:=⟨inf,[],[],4,[]⟩
def k6x:Code:=Try.f79.body.getD .skip
def kav:List ResultVar:=Try.f79.results.toList
def k133 (o:k4k):=qS TB k3t 14 0 (cB (cB k6x)) .no (retTQ TB k3t k1d kav o)
def k4s:Tm:=⟨[],[],[5,6,7],[.one (.d (.sl (.int .u64))),.one (.d (.int .i64)),.one (.d (.int .i64))],0⟩
def k12l (o:k4k) (nx1:NX TB k4s):=qM TB 0 k4s nx1 (blockT TB 0 (k133 o))
def k7x (o:k4k) (nx1:NX TB k4s) (i:HL TB.den k4s.hs):Prop:=WP TB k3t 14 0 (cA (cA (cB (cA (cB k6x))))) .no (k4s.fill TB i) (k12l o nx1)
def k12m (o:k4k):An TB:= .lp [] k4s (k7x o) fun nx1=> .no
def ko6 (o:k4k):An TB:= .nd [] .no [] (.nd [] (.nd [] .no [] (k12m o)) [] .no)
def kcx (x:kpt) (o:k4k):Prop:=WPh TB k3t 14 0 k6x (ko6 o) (k1d.st TB x) (retTQ TB k3t k1d kav o)
theorem k10j (o:k4k):OblH TB k3t 14 0 k6x (ko6 o) (retTQ TB k3t k1d kav o):=
 OblH.ofC (X:=((∀nx i,(k7x o) nx i=(k7x o) nx i)∧(∀nx1:NX TB k4s,True)∧True)) (by kernel_rfl) ⟨fun _ _=>rfl,fun _=>trivial,trivial⟩
theorem k10i {x:kpt} {o:k4k} (h:kcx x o):k1d.Snd Try.prog x o:=
 Con.soundH (c:=k1d) (C:=k3t) TBok ⟨inf_ok,all_nil,all_nil⟩ mix Try.func79 (show Try.f79.body=some k6x by kernel_rfl) (show Try.f79.ntmps=14 by kernel_rfl) (show Try.f79.results.toList=kav by kernel_rfl) rfl h (k10j o)
theorem k13i {p0:List Int} {r0:Bool} (h:
(Md.Loop (p0,((p0.length:Int):Int),(0:Int),()) (k7x (r0,())))):kcx (p0,()) (r0,()):=WPh.of_eq (by kernel_rfl) h
def ko5 (r0:Bool) (k1:Int→Prop) (s5:List Int) (s6:Int) (s7:Int):Prop:=
(decide (s7<s6)=true→
(0≤s7)∧s7<(s5.length:Int)∧let v1:Bool:=decide (18446744069414584321≤(ix s5 s7))
(v1=true→
false=r0)∧
(v1=false→
k1 (IntKind.i64.wrap (s7+1):Int)))∧
(decide (s7<s6)=false→
true=r0)
theorem k110 {r0:Bool} {s5:List Int} {s6:Int} {s7:Int} (inv:Int→Prop) (μ:Int→Nat) (h0:inv s7) (hs:∀(s7:Int),inv s7→ko5 r0 (fun s7q=>inv s7q∧μ s7q<μ s7) s5 s6 s7):Md.Loop (s5,s6,s7,()) (k7x (r0,())):=
 ⟨⟨fun s:(List Int)×Int×Int×Unit=>(s.1=s5∧s.2.1=s6)∧inv s.2.2.1,fun s:(List Int)×Int×Int×Unit=>μ s.2.2.1,⟨⟨rfl,rfl⟩,h0⟩,fun(s5p,s6p,s7p,()) ⟨⟨eq0,eq1⟩,hi⟩=>by
  have eq0:s5p=s5:=eq0;subst s5p;have eq1:s6p=s6:=eq1;subst s6p;exact mpr_of (by kernel_rfl) ((congrArg (fun k=>ko5 r0 k s5 s6 s7p) (lpk1 (⟨rfl,rfl⟩:s5=s5∧s6=s6) inv (fun s7q=>μ s7q<μ s7p))).mpr (hs s7p hi))⟩⟩
theorem bd79:Callable Try.prog 79:=⟨by rw[Try.func79];kernel_rfl,by rw[Try.func79];show some _≠some _;decide⟩
theorem kxx (p0:List Int) (h:p0.length≤9223372036854775807):kcx (p0,()) (((allB p0):Bool),()):=by
 refine k13i (k110 (AllI (fun x=>decide (x<18446744069414584321)) p0) (fun i=>(p0.length-i).toNat) AllI.start ?_)
 intro i hi
 refine⟨fun hh=> ?_,fun hh=>(hi.done (of_decide_eq_false hh)).symm⟩
 have hh:=of_decide_eq_true hh
 exact⟨hi.1,hh,fun e=>(hi.bad hh (by simpa using e)).symm,fun e=>hi.next hh (by omega) (by simpa using e)⟩
def kld:Con TB.den:=k1d.fnR (fun x=>(fun(p0:List Int)=>p0.length≤9223372036854775807) x.1) fun x=>((fun(p0:List Int)=>((allB p0):Bool)) x.1,())
theorem k13f:kld.Ok Try.prog TB:=Con.ok_fn k1d bd79 fun x h=>k10i (kxx x.1 h)
def kj:Con TB.den:=Con.mk0 102 [.one (.own 0),.one (.d (.int .u64))] [.tip (.int .u8)] (.one (.one (.own 0))) [.tip (.int .u8)]
abbrev kjd:=HL TB.den (hsT kj.ins (hsOs kj.pre))
abbrev k2h:=HL TB.den (hsV kj.res (hsOs kj.post))
def k24:Cx TB:=⟨inf,[],[],4,[]⟩
def k52:Code:=Try.f102.body.getD .skip
def k7k:List ResultVar:=Try.f102.results.toList
def ku4 (o:k2h):=qS TB k24 16 1 (cB (cB k52)) .no (retTQ TB k24 kj k7k o)
def k2z:Tm:=⟨[0],[.tip (.int .u8)],[0,1,5],[.one (.own 0),.one (.d (.int .u64)),.one (.d (.int .i64))],1⟩
def ktx (o:k2h) (nx1:NX TB k2z):=qM TB 1 k2z nx1 (blockT TB 0 (ku4 o))
def k65 (o:k2h) (nx1:NX TB k2z) (i:HL TB.den k2z.hs):Prop:=WP TB k24 16 1 (cA (cA (cB (cA (cB k52))))) .no (k2z.fill TB i) (ktx o nx1)
def kuo (o:k2h):An TB:= .lp [] k2z (k65 o) fun nx1=> .no
def khp (o:k2h):An TB:= .nd [] .no [] (.nd [] (.nd [] .no [] (kuo o)) [] .no)
def ka2 (x:kjd) (o:k2h):Prop:=WPh TB k24 16 1 k52 (khp o) (kj.st TB x) (retTQ TB k24 kj k7k o)
theorem ksm (o:k2h):OblH TB k24 16 1 k52 (khp o) (retTQ TB k24 kj k7k o):=
 OblH.ofC (X:=((∀nx i,(k65 o) nx i=(k65 o) nx i)∧(∀nx1:NX TB k2z,True)∧True)) (by kernel_rfl) ⟨fun _ _=>rfl,fun _=>trivial,trivial⟩
theorem ksb {x:kjd} {o:k2h} (h:ka2 x o):kj.Snd Try.prog x o:=
 Con.soundH (c:=kj) (C:=k24) TBok ⟨inf_ok,all_nil,all_nil⟩ mix Try.func102 (show Try.f102.body=some k52 by kernel_rfl) (show Try.f102.ntmps=16 by kernel_rfl) (show Try.f102.results.toList=k7k by kernel_rfl) rfl h (ksm o)
theorem kuh {p1:Int} {w0:List Int} {e0:List Int} (h:
((w0=w0)∧Md.Loop (p1,(0:Int),w0,()) (k65 (e0,())))):ka2 (p1,w0,()) (e0,()):=WPh.of_eq (by kernel_rfl) h
def kho (e0:List Int) (k1:Int→Int→List Int→Prop) (s1:Int) (s5:Int) (g0:List Int):Prop:=
(decide (s5<8)=true→
g0.length=g0.length∧(g0.length+[IntKind.u8.wrap s1].length)*1≤140737488355328∧g0.length+[IntKind.u8.wrap s1].length≤maxLen∧(g0++[IntKind.u8.wrap s1]=g0++[IntKind.u8.wrap s1])∧k1 (ishr .u64 s1 8:Int) (IntKind.i64.wrap (s5+1):Int) (g0++[IntKind.u8.wrap s1]:List Int))∧
(decide (s5<8)=false→
(g0=g0)∧g0=e0)
theorem ksh {e0:List Int} {s1:Int} {s5:Int} {g0:List Int} (inv:Int→Int→List Int→Prop) (μ:Int→Int→List Int→Nat) (h0:inv s1 s5 g0) (hs:∀(s1:Int) (s5:Int) (g0:List Int),inv s1 s5 g0→kho e0 (fun s1q s5q g0q=>inv s1q s5q g0q∧μ s1q s5q g0q<μ s1 s5 g0) s1 s5 g0):Md.Loop (s1,s5,g0,()) (k65 (e0,())):=
 ⟨⟨fun s:Int×Int×(List Int)×Unit=>(True)∧inv s.1 s.2.1 s.2.2.1,fun s:Int×Int×(List Int)×Unit=>μ s.1 s.2.1 s.2.2.1,⟨trivial,h0⟩,fun(s1p,s5p,g0p,()) ⟨_,hi⟩=>by
  exact mpr_of (by kernel_rfl) ((congrArg (fun k=>kho e0 k s1p s5p g0p) (lpk3 (trivial:True) inv (fun s1q s5q g0q=>μ s1q s5q g0q<μ s1p s5p g0p))).mpr (hs s1p s5p g0p hi))⟩⟩
theorem bd102:Callable Try.prog 102:=⟨by rw[Try.func102];kernel_rfl,by rw[Try.func102];show some _≠some _;decide⟩
theorem kqr (p1:Int) (w0:List Int) (h:U64 p1∧w0.length≤137438953472):ka2 (p1,w0,()) (((w0++dig 8 p1):List Int),()):=by
 obtain⟨h1,h2⟩:=h
 refine kuh ⟨rfl,ksh (fun n i g=>0≤i∧i≤8∧U64 n∧n=p1/256^i.toNat∧g=w0++dig i.toNat p1) (fun _ i _=>(8-i).toNat) ⟨by omega,by omega,h1,by simp,by simp[dig]⟩ ?_⟩
 rintro n i g ⟨g0,g1,g2,g3,rfl⟩
 refine⟨fun h=> ?_,fun h=> ?_⟩
 ·have h:=of_decide_eq_true h
  rw[inc i 8 g0 h (by omega),ishr8,u8w]
  refine⟨rfl,?_,?_,rfl,⟨by omega,by omega,⟨by omega,by omega⟩,?_,?_⟩,by omega⟩
  ·simp;omega
  ·simp;unfold maxLen;omega
  ·rw[g3,show(i+1).toNat=i.toNat+1 by omega,Int.ediv_ediv_of_nonneg (Int.le_of_lt (kar _)),Int.pow_succ]
  ·rw[show(i+1).toNat=i.toNat+1 by omega,krt,List.append_assoc,g3]
 ·have h:=of_decide_eq_false h
  exact⟨rfl,by rw[show i=8 by omega];rfl⟩
def kgp:Con TB.den:=kj.fnR (fun x=>(fun(p1:Int) (w0:List Int)=>U64 p1∧w0.length≤137438953472) x.1 x.2.1) fun x=>((fun(p1:Int) (w0:List Int)=>((w0++dig 8 p1):List Int)) x.1 x.2.1,())
theorem ku9:kgp.Ok Try.prog TB:=Con.ok_fn kj bd102 fun x h=>ksb (kqr x.1 x.2.1 h)
def k2m:Con TB.den:=Con.mk0 80 [.one (.d (.sl (.int .u64))),.one (.d (.sl (.int .u64)))] [] (.one (.one (.d (.str)))) []
abbrev k11w:=HL TB.den (hsT k2m.ins (hsOs k2m.pre))
abbrev k4v:=HL TB.den (hsV k2m.res (hsOs k2m.post))
def k4c:Cx TB:=⟨inf,[kgp],[],4,[]⟩
def k6r:Code:=Try.f80.body.getD .skip
def kdc:List ResultVar:=Try.f80.results.toList
def k1i7 (o:k4v):=qS TB k4c 39 0 (cB (cB (cB (cB k6r)))) .no (retTQ TB k4c k2m kdc o)
def kac:Tm:=⟨[1],[.tip (.int .u8)],[5,27,28,29],[.one (.own 0),.one (.d (.sl (.int .u64))),.one (.d (.int .i64)),.one (.d (.int .i64))],2⟩
def kdq (o:k4v) (nx2:NX TB kac) (i:HL TB.den kac.hs):Prop:=WP TB k4c 39 0 (cA (cA (cB (cA (cB (cB (cB k6r))))))) .no (kac.fill TB i) (qM TB 0 kac nx2 (blockT TB 2 (k1i7 o)))
def kzh (o:k4v):An TB:= .nd [] .no [] (.lp [] kac (kdq o) fun nx2=> .no)
def k1i2 (o:k4v):=qS TB k4c 39 0 (cB (cB (cB k6r))) (.nd [] (kzh o) [] .no) (retTQ TB k4c k2m kdc o)
def kad:Tm:=⟨[1],[.tip (.int .u8)],[0,5,17,18,19],[.one (.d (.sl (.int .u64))),.one (.own 0),.one (.d (.sl (.int .u64))),.one (.d (.int .i64)),.one (.d (.int .i64))],2⟩
def kdk (o:k4v) (nx1:NX TB kad) (i:HL TB.den kad.hs):Prop:=WP TB k4c 39 0 (cA (cA (cB (cA (cB (cB k6r)))))) .no (kad.fill TB i) (qM TB 0 kad nx1 (blockT TB 0 (k1i2 o)))
def k1i4 (o:k4v):An TB:= .lp [.frz 0 [5]] kad (kdk o) fun nx1=> .no
def k1g3 (o:k4v):An TB:= .nd [] (.nd [] .no [] (k1i4 o)) [] (.nd [] (kzh o) [] .no)
def kzl (o:k4v):An TB:= .nd [] .no [] (.nd [] .no [] (k1g3 o))
def kk9 (x:k11w) (o:k4v):Prop:=WPh TB k4c 39 0 k6r (kzl o) (k2m.st TB x) (retTQ TB k4c k2m kdc o)
theorem k1dr (o:k4v):OblH TB k4c 39 0 k6r (kzl o) (retTQ TB k4c k2m kdc o):=
 OblH.ofC (X:=((∀nx i,(kdk o) nx i=(kdk o) nx i)∧(∀nx1:NX TB kad,True)∧(∀nx i,(kdq o) nx i=(kdq o) nx i)∧(∀nx2:NX TB kac,True)∧True)) (by kernel_rfl) ⟨fun _ _=>rfl,fun _=>trivial,fun _ _=>rfl,fun _=>trivial,trivial⟩
theorem k1cv {x:k11w} {o:k4v} (h:kk9 x o):k2m.Snd Try.prog x o:=
 Con.soundH (c:=k2m) (C:=k4c) TBok ⟨inf_ok,(all_cons ku9 all_nil),all_nil⟩ mix Try.func80 (show Try.f80.body=some k6r by kernel_rfl) (show Try.f80.ntmps=39 by kernel_rfl) (show Try.f80.results.toList=kdc by kernel_rfl) rfl h (k1dr o)
theorem k1g9 {p0:List Int} {p1:List Int} {r0:ByteArray} (h:
(let v1:Int:=IntKind.i64.wrap ((p1.length:Int)+(p0.length:Int))
0≤(0:Int)∧(0:Int)≤IntKind.i64.wrap (8*v1)∧((IntKind.i64.wrap (8*v1)).toNat*1≤140737488355328)∧((IntKind.i64.wrap (8*v1)).toNat≤maxLen)∧(0=(List.replicate 0 (0:Int)).length)∧(List.replicate 0 (0:Int)=List.replicate 0 (0:Int))∧Md.Loop (p0,p1,((p1.length:Int):Int),(0:Int),(List.replicate 0 (0:Int):List Int),()) (kdk (r0,())))):kk9 (p0,p1,()) (r0,()):=WPh.of_eq (by kernel_rfl) h
def kzx (r0:ByteArray) (k1:Int→List Int→Prop) (s0:List Int) (s17:List Int) (s18:Int) (s19:Int) (g1:List Int):Prop:=
(decide (s19<s18)=true→
(0≤s19)∧s19<(s17.length:Int)∧(g1=g1)∧(U64 (ix s17 s19)∧g1.length≤137438953472)∧((g1++dig 8 (ix s17 s19))=(g1++dig 8 (ix s17 s19)))∧k1 (IntKind.i64.wrap (s19+1):Int) ((g1++dig 8 (ix s17 s19)):List Int))∧
(decide (s19<s18)=false→
(g1=g1)∧Md.Loop (s0,((s0.length:Int):Int),(0:Int),g1,()) (kdq (r0,())))
theorem k1en {r0:ByteArray} {s0:List Int} {s17:List Int} {s18:Int} {s19:Int} {g1:List Int} (inv:Int→List Int→Prop) (μ:Int→List Int→Nat) (h0:inv s19 g1) (hs:∀(s19:Int) (g1:List Int),inv s19 g1→kzx r0 (fun s19q g1q=>inv s19q g1q∧μ s19q g1q<μ s19 g1) s0 s17 s18 s19 g1):Md.Loop (s0,s17,s18,s19,g1,()) (kdk (r0,())):=
 ⟨⟨fun s:(List Int)×(List Int)×Int×Int×(List Int)×Unit=>(s.1=s0∧s.2.1=s17∧s.2.2.1=s18)∧inv s.2.2.2.1 s.2.2.2.2.1,fun s:(List Int)×(List Int)×Int×Int×(List Int)×Unit=>μ s.2.2.2.1 s.2.2.2.2.1,⟨⟨rfl,rfl,rfl⟩,h0⟩,fun(s0p,s17p,s18p,s19p,g1p,()) ⟨⟨eq0,eq1,eq2⟩,hi⟩=>by
  have eq0:s0p=s0:=eq0;subst s0p;have eq1:s17p=s17:=eq1;subst s17p;have eq2:s18p=s18:=eq2;subst s18p;exact mpr_of (by kernel_rfl) ((congrArg (fun k=>kzx r0 k s0 s17 s18 s19p g1p) (lpk2 (⟨rfl,rfl,rfl⟩:s0=s0∧s17=s17∧s18=s18) inv (fun s19q g1q=>μ s19q g1q<μ s19p g1p))).mpr (hs s19p g1p hi))⟩⟩
def k105 (r0:ByteArray) (k2:Int→List Int→Prop) (s27:List Int) (s28:Int) (s29:Int) (g1:List Int):Prop:=
(decide (s29<s28)=true→
(0≤s29)∧s29<(s27.length:Int)∧(g1=g1)∧(U64 (ix s27 s29)∧g1.length≤137438953472)∧((g1++dig 8 (ix s27 s29))=(g1++dig 8 (ix s27 s29)))∧k2 (IntKind.i64.wrap (s29+1):Int) ((g1++dig 8 (ix s27 s29)):List Int))∧
(decide (s29<s28)=false→
strOfNums g1=r0)
theorem k1cs {r0:ByteArray} {s27:List Int} {s28:Int} {s29:Int} {g1:List Int} (inv:Int→List Int→Prop) (μ:Int→List Int→Nat) (h0:inv s29 g1) (hs:∀(s29:Int) (g1:List Int),inv s29 g1→k105 r0 (fun s29q g1q=>inv s29q g1q∧μ s29q g1q<μ s29 g1) s27 s28 s29 g1):Md.Loop (s27,s28,s29,g1,()) (kdq (r0,())):=
 ⟨⟨fun s:(List Int)×Int×Int×(List Int)×Unit=>(s.1=s27∧s.2.1=s28)∧inv s.2.2.1 s.2.2.2.1,fun s:(List Int)×Int×Int×(List Int)×Unit=>μ s.2.2.1 s.2.2.2.1,⟨⟨rfl,rfl⟩,h0⟩,fun(s27p,s28p,s29p,g1p,()) ⟨⟨eq0,eq1⟩,hi⟩=>by
  have eq0:s27p=s27:=eq0;subst s27p;have eq1:s28p=s28:=eq1;subst s28p;exact mpr_of (by kernel_rfl) ((congrArg (fun k=>k105 r0 k s27 s28 s29p g1p) (lpk2 (⟨rfl,rfl⟩:s27=s27∧s28=s28) inv (fun s29q g1q=>μ s29q g1q<μ s29p g1p))).mpr (hs s29p g1p hi))⟩⟩
theorem bd80:Callable Try.prog 80:=⟨by rw[Try.func80];kernel_rfl,by rw[Try.func80];show some _≠some _;decide⟩
theorem k1an (p0:List Int) (p1:List Int) (h:Us p0∧Us p1∧p0.length≤1073741824∧p1.length≤1073741824):kk9 (p0,p1,()) (((keyB p1 p0):ByteArray),()):=by
 obtain⟨h0,h1,h2,h3⟩:=h
 refine k1g9 ?_
 rw[wi ((p1.length:Int)+p0.length) (by omega) (by omega)]
 simp only[]
 rw[wi (8*((p1.length:Int)+p0.length)) (by omega) (by omega)]
 refine⟨by omega,by omega,by omega,by unfold maxLen;omega,by trivial,by trivial,?_⟩
 refine k1en (fun i g=>FlatI (dig 8) [] p1 i g) (fun i _=>(p1.length-i).toNat) FlatI.start ?_
 intro i g hg
 have hl:=hg.len 8 (fun x _=>by simp)
 refine⟨fun hh=> ?_,fun hh=> ?_⟩
 ·have hh:=of_decide_eq_true hh
  exact⟨hg.1,hh,rfl,⟨h1 _ (ix_mem p1 i hg.1 hh),by simp at hl;omega⟩,by trivial,hg.next hh (by omega) rfl⟩
 ·have hh:=of_decide_eq_false hh
  have e:=hg.done hh
  refine⟨rfl,k1cs (fun j g=>FlatI (dig 8) (p1.flatMap (dig 8)) p0 j g) (fun j _=>(p0.length-j).toNat) (by rw[e];exact FlatI.start) ?_⟩
  intro j g2 hg2
  have hl2:=hg2.len 8 (fun x _=>by simp)
  have hl3:=kko p1
  refine⟨fun hh2=> ?_,fun hh2=> ?_⟩
  ·have hh2:=of_decide_eq_true hh2
   exact⟨hg2.1,hh2,rfl,⟨h0 _ (ix_mem p0 j hg2.1 hh2),by omega⟩,by trivial,hg2.next hh2 (by omega) rfl⟩
  ·rw[hg2.done (of_decide_eq_false hh2)];rfl
def kwo:Con TB.den:=k2m.fnR (fun x=>(fun(p0:List Int) (p1:List Int)=>Us p0∧Us p1∧p0.length≤1073741824∧p1.length≤1073741824) x.1 x.2.1) fun x=>((fun(p0:List Int) (p1:List Int)=>((keyB p1 p0):ByteArray)) x.1 x.2.1,())
theorem k1gm:kwo.Ok Try.prog TB:=Con.ok_fn k2m bd80 fun x h=>k1cv (k1an x.1 x.2.1 h)
def k3e:Con TB.den:=Con.mk0 75 [.one (.ptr 0 0),.one (.d (.int .u64)),.one (.d (.sl (.int .u64)))] [.cells [.d (.bool),.d (.int .u64),.d (.int .i64),.d (.sl (.st 3)),.mp 1,.mp 2,.mp 3],.map (.str) (.int .i64),.map (.str) (.sl (.int .u64)),.map (.str) (.bool)] (.tup [.one (.d (.int .u64)),.one (.d (.bool))]) [.cells [.d (.bool),.d (.int .u64),.d (.int .i64),.d (.sl (.st 3)),.mp 1,.mp 2,.mp 3],.map (.str) (.int .i64),.map (.str) (.sl (.int .u64)),.map (.str) (.bool)]
abbrev kyt:=HL TB.den (hsT k3e.ins (hsOs k3e.pre))
abbrev ki8:=HL TB.den (hsV k3e.res (hsOs k3e.post))
def kbu:Cx TB:=⟨inf,[kld,kwo,keg],[],4,[]⟩
def kj3:Code:=Try.f75.body.getD .skip
def kmm:List ResultVar:=Try.f75.results.toList
def kvy (o:ki8):An TB:= .no
def kis (x:kyt) (o:ki8):Prop:=WPh TB kbu 41 4 kj3 (kvy o) (k3e.st TB x) (retTQ TB kbu k3e kmm o)
theorem k1bb (o:ki8):OblH TB kbu 41 4 kj3 (kvy o) (retTQ TB kbu k3e kmm o):=
 OblH.ofC (X:=True) (by kernel_rfl) trivial
theorem k1bx {x:kyt} {o:ki8} (h:kis x o):k3e.Snd Try.prog x o:=
 Con.soundH (c:=k3e) (C:=kbu) TBok ⟨inf_ok,(all_cons k13f (all_cons k1gm (all_cons kmr all_nil))),all_nil⟩ mix Try.func75 (show Try.f75.body=some kj3 by kernel_rfl) (show Try.f75.ntmps=41 by kernel_rfl) (show Try.f75.results.toList=kmm by kernel_rfl) rfl h (k1bb o)
theorem k1d5 {p1:Int} {p2:List Int} {c0_0:Bool} {c0_1:Int} {c0_2:Int} {c0_3:List TQuestion} {w1k:List ByteArray} {w1v:List Int} {w2k:List ByteArray} {w2v:List (List Int)} {w3k:List ByteArray} {w3v:List Bool} {r0:Int} {r1:Bool} {d0_0:Bool} {d0_1:Int} {d0_2:Int} {d0_3:List TQuestion} {e1k:List ByteArray} {e1v:List Int} {e2k:List ByteArray} {e2v:List (List Int)} {e3k:List ByteArray} {e3v:List Bool} (h:
((p2.length≤9223372036854775807)∧((!(allB p2))=true→
0=r0∧false=r1∧c0_0=d0_0∧c0_1=d0_1∧c0_2=d0_2∧c0_3=d0_3∧w1k=e1k∧w1v=e1v∧w2k=e2k∧w2v=e2v∧w3k=e3k∧w3v=e3v)∧
((!(allB p2))=false→
(Us p2∧Us [p1]∧p2.length≤1073741824∧[p1].length≤1073741824)∧w1k.length=w1v.length∧let v2:Int:=mVal (BEq.beq (keyB [p1] p2)) w1k w1v (0:Int)
(mHas (BEq.beq (keyB [p1] p2)) w1k=true→
(0≤v2)∧v2<(c0_3.length:Int)∧(ix c0_3 v2).Answer=r0∧true=r1∧c0_0=d0_0∧c0_1=d0_1∧c0_2=d0_2∧c0_3=d0_3∧w1k=e1k∧w1v=e1v∧w2k=e2k∧w2v=e2v∧w3k=e3k∧w3v=e3v)∧
(mHas (BEq.beq (keyB [p1] p2)) w1k=false→
(c0_0=true→
0=r0∧false=r1∧c0_0=d0_0∧c0_1=d0_1∧c0_2=d0_2∧c0_3=d0_3∧w1k=e1k∧w1v=e1v∧w2k=e2k∧w2v=e2v∧w3k=e3k∧w3v=e3v)∧
(c0_0=false→
((18446744069414584321:Int)=18446744069414584321∧U64 p1∧Us p2∧p2.length≤1099511627776)∧(hashS p1 p2)=r0∧true=r1∧c0_0=d0_0∧c0_1=d0_1∧c0_2=d0_2∧c0_3=d0_3∧w1k=e1k∧w1v=e1v∧w2k=e2k∧w2v=e2v∧w3k=e3k∧w3v=e3v))))):kis (p1,p2,c0_0,c0_1,c0_2,c0_3,w1k,w1v,w2k,w2v,w3k,w3v,()) (r0,r1,d0_0,d0_1,d0_2,d0_3,e1k,e1v,e2k,e2v,e3k,e3v,()):=WPh.of_eq (by kernel_rfl) h
theorem bd75:Callable Try.prog 75:=⟨by rw[Try.func75];kernel_rfl,by rw[Try.func75];show some _≠some _;decide⟩
theorem k196 (p1:Int) (p2:List Int) (c0_0:Bool) (c0_1:Int) (c0_2:Int) (c0_3:List TQuestion) (w1k:List ByteArray) (w1v:List Int) (w2k:List ByteArray) (w2v:List (List Int)) (w3k:List ByteArray) (w3v:List Bool) (h:U64 p1∧Us p2∧p2.length≤1073741824∧OrOk w1k w1v c0_3):kis (p1,p2,c0_0,c0_1,c0_2,c0_3,w1k,w1v,w2k,w2v,w3k,w3v,()) ((((pk c0_0 c0_3 w1k w1v p1 p2).getD 0):Int),(((pk c0_0 c0_3 w1k w1v p1 p2).isSome):Bool),(c0_0:Bool),(c0_1:Int),(c0_2:Int),(c0_3:List TQuestion),(w1k:List ByteArray),(w1v:List Int),(w2k:List ByteArray),(w2v:List (List Int)),(w3k:List ByteArray),(w3v:List Bool),()):=by
 obtain⟨h1,h2,h3,ho⟩:=h
 have hu:Us [p1]:=by intro x hx;rw[List.mem_singleton]at hx;subst hx;exact h1
 refine k1d5 ⟨by omega,fun e=> ?_,fun e=>⟨⟨h2,hu,h3,by simp⟩,ho.len,fun hm=> ?_,fun hm=>⟨fun hi=> ?_,fun hi=>⟨⟨rfl,h1,h2,by omega⟩,?_⟩⟩⟩⟩
 ·have e:allB p2=false:=by simpa using e
  simp[pk,e]
 ·have e:allB p2=true:=by simpa using e
  have hv:=ho.rng _ (k1qw (z:=(0:Int)) hm ho.len)
  refine⟨hv.1,hv.2,?_⟩
  simp[pk,e,hm]
 ·have e:allB p2=true:=by simpa using e
  simp[pk,e,hm,hi]
 ·have e:allB p2=true:=by simpa using e
  simp[pk,e,hm,hi]
def kkr:Con TB.den:=k3e.fnR (fun x=>(fun(p1:Int) (p2:List Int) (c0_0:Bool) (c0_1:Int) (c0_2:Int) (c0_3:List TQuestion) (w1k:List ByteArray) (w1v:List Int) (w2k:List ByteArray) (w2v:List (List Int)) (w3k:List ByteArray) (w3v:List Bool)=>U64 p1∧Us p2∧p2.length≤1073741824∧OrOk w1k w1v c0_3) x.1 x.2.1 x.2.2.1 x.2.2.2.1 x.2.2.2.2.1 x.2.2.2.2.2.1 x.2.2.2.2.2.2.1 x.2.2.2.2.2.2.2.1 x.2.2.2.2.2.2.2.2.1 x.2.2.2.2.2.2.2.2.2.1 x.2.2.2.2.2.2.2.2.2.2.1 x.2.2.2.2.2.2.2.2.2.2.2.1) fun x=>((fun(p1:Int) (p2:List Int) (c0_0:Bool) (c0_1:Int) (c0_2:Int) (c0_3:List TQuestion) (w1k:List ByteArray) (w1v:List Int) (w2k:List ByteArray) (w2v:List (List Int)) (w3k:List ByteArray) (w3v:List Bool)=>(((pk c0_0 c0_3 w1k w1v p1 p2).getD 0):Int)) x.1 x.2.1 x.2.2.1 x.2.2.2.1 x.2.2.2.2.1 x.2.2.2.2.2.1 x.2.2.2.2.2.2.1 x.2.2.2.2.2.2.2.1 x.2.2.2.2.2.2.2.2.1 x.2.2.2.2.2.2.2.2.2.1 x.2.2.2.2.2.2.2.2.2.2.1 x.2.2.2.2.2.2.2.2.2.2.2.1,(fun(p1:Int) (p2:List Int) (c0_0:Bool) (c0_1:Int) (c0_2:Int) (c0_3:List TQuestion) (w1k:List ByteArray) (w1v:List Int) (w2k:List ByteArray) (w2v:List (List Int)) (w3k:List ByteArray) (w3v:List Bool)=>(((pk c0_0 c0_3 w1k w1v p1 p2).isSome):Bool)) x.1 x.2.1 x.2.2.1 x.2.2.2.1 x.2.2.2.2.1 x.2.2.2.2.2.1 x.2.2.2.2.2.2.1 x.2.2.2.2.2.2.2.1 x.2.2.2.2.2.2.2.2.1 x.2.2.2.2.2.2.2.2.2.1 x.2.2.2.2.2.2.2.2.2.2.1 x.2.2.2.2.2.2.2.2.2.2.2.1,(fun(p1:Int) (p2:List Int) (c0_0:Bool) (c0_1:Int) (c0_2:Int) (c0_3:List TQuestion) (w1k:List ByteArray) (w1v:List Int) (w2k:List ByteArray) (w2v:List (List Int)) (w3k:List ByteArray) (w3v:List Bool)=>(c0_0:Bool)) x.1 x.2.1 x.2.2.1 x.2.2.2.1 x.2.2.2.2.1 x.2.2.2.2.2.1 x.2.2.2.2.2.2.1 x.2.2.2.2.2.2.2.1 x.2.2.2.2.2.2.2.2.1 x.2.2.2.2.2.2.2.2.2.1 x.2.2.2.2.2.2.2.2.2.2.1 x.2.2.2.2.2.2.2.2.2.2.2.1,(fun(p1:Int) (p2:List Int) (c0_0:Bool) (c0_1:Int) (c0_2:Int) (c0_3:List TQuestion) (w1k:List ByteArray) (w1v:List Int) (w2k:List ByteArray) (w2v:List (List Int)) (w3k:List ByteArray) (w3v:List Bool)=>(c0_1:Int)) x.1 x.2.1 x.2.2.1 x.2.2.2.1 x.2.2.2.2.1 x.2.2.2.2.2.1 x.2.2.2.2.2.2.1 x.2.2.2.2.2.2.2.1 x.2.2.2.2.2.2.2.2.1 x.2.2.2.2.2.2.2.2.2.1 x.2.2.2.2.2.2.2.2.2.2.1 x.2.2.2.2.2.2.2.2.2.2.2.1,(fun(p1:Int) (p2:List Int) (c0_0:Bool) (c0_1:Int) (c0_2:Int) (c0_3:List TQuestion) (w1k:List ByteArray) (w1v:List Int) (w2k:List ByteArray) (w2v:List (List Int)) (w3k:List ByteArray) (w3v:List Bool)=>(c0_2:Int)) x.1 x.2.1 x.2.2.1 x.2.2.2.1 x.2.2.2.2.1 x.2.2.2.2.2.1 x.2.2.2.2.2.2.1 x.2.2.2.2.2.2.2.1 x.2.2.2.2.2.2.2.2.1 x.2.2.2.2.2.2.2.2.2.1 x.2.2.2.2.2.2.2.2.2.2.1 x.2.2.2.2.2.2.2.2.2.2.2.1,(fun(p1:Int) (p2:List Int) (c0_0:Bool) (c0_1:Int) (c0_2:Int) (c0_3:List TQuestion) (w1k:List ByteArray) (w1v:List Int) (w2k:List ByteArray) (w2v:List (List Int)) (w3k:List ByteArray) (w3v:List Bool)=>(c0_3:List TQuestion)) x.1 x.2.1 x.2.2.1 x.2.2.2.1 x.2.2.2.2.1 x.2.2.2.2.2.1 x.2.2.2.2.2.2.1 x.2.2.2.2.2.2.2.1 x.2.2.2.2.2.2.2.2.1 x.2.2.2.2.2.2.2.2.2.1 x.2.2.2.2.2.2.2.2.2.2.1 x.2.2.2.2.2.2.2.2.2.2.2.1,(fun(p1:Int) (p2:List Int) (c0_0:Bool) (c0_1:Int) (c0_2:Int) (c0_3:List TQuestion) (w1k:List ByteArray) (w1v:List Int) (w2k:List ByteArray) (w2v:List (List Int)) (w3k:List ByteArray) (w3v:List Bool)=>(w1k:List ByteArray)) x.1 x.2.1 x.2.2.1 x.2.2.2.1 x.2.2.2.2.1 x.2.2.2.2.2.1 x.2.2.2.2.2.2.1 x.2.2.2.2.2.2.2.1 x.2.2.2.2.2.2.2.2.1 x.2.2.2.2.2.2.2.2.2.1 x.2.2.2.2.2.2.2.2.2.2.1 x.2.2.2.2.2.2.2.2.2.2.2.1,(fun(p1:Int) (p2:List Int) (c0_0:Bool) (c0_1:Int) (c0_2:Int) (c0_3:List TQuestion) (w1k:List ByteArray) (w1v:List Int) (w2k:List ByteArray) (w2v:List (List Int)) (w3k:List ByteArray) (w3v:List Bool)=>(w1v:List Int)) x.1 x.2.1 x.2.2.1 x.2.2.2.1 x.2.2.2.2.1 x.2.2.2.2.2.1 x.2.2.2.2.2.2.1 x.2.2.2.2.2.2.2.1 x.2.2.2.2.2.2.2.2.1 x.2.2.2.2.2.2.2.2.2.1 x.2.2.2.2.2.2.2.2.2.2.1 x.2.2.2.2.2.2.2.2.2.2.2.1,(fun(p1:Int) (p2:List Int) (c0_0:Bool) (c0_1:Int) (c0_2:Int) (c0_3:List TQuestion) (w1k:List ByteArray) (w1v:List Int) (w2k:List ByteArray) (w2v:List (List Int)) (w3k:List ByteArray) (w3v:List Bool)=>(w2k:List ByteArray)) x.1 x.2.1 x.2.2.1 x.2.2.2.1 x.2.2.2.2.1 x.2.2.2.2.2.1 x.2.2.2.2.2.2.1 x.2.2.2.2.2.2.2.1 x.2.2.2.2.2.2.2.2.1 x.2.2.2.2.2.2.2.2.2.1 x.2.2.2.2.2.2.2.2.2.2.1 x.2.2.2.2.2.2.2.2.2.2.2.1,(fun(p1:Int) (p2:List Int) (c0_0:Bool) (c0_1:Int) (c0_2:Int) (c0_3:List TQuestion) (w1k:List ByteArray) (w1v:List Int) (w2k:List ByteArray) (w2v:List (List Int)) (w3k:List ByteArray) (w3v:List Bool)=>(w2v:List (List Int))) x.1 x.2.1 x.2.2.1 x.2.2.2.1 x.2.2.2.2.1 x.2.2.2.2.2.1 x.2.2.2.2.2.2.1 x.2.2.2.2.2.2.2.1 x.2.2.2.2.2.2.2.2.1 x.2.2.2.2.2.2.2.2.2.1 x.2.2.2.2.2.2.2.2.2.2.1 x.2.2.2.2.2.2.2.2.2.2.2.1,(fun(p1:Int) (p2:List Int) (c0_0:Bool) (c0_1:Int) (c0_2:Int) (c0_3:List TQuestion) (w1k:List ByteArray) (w1v:List Int) (w2k:List ByteArray) (w2v:List (List Int)) (w3k:List ByteArray) (w3v:List Bool)=>(w3k:List ByteArray)) x.1 x.2.1 x.2.2.1 x.2.2.2.1 x.2.2.2.2.1 x.2.2.2.2.2.1 x.2.2.2.2.2.2.1 x.2.2.2.2.2.2.2.1 x.2.2.2.2.2.2.2.2.1 x.2.2.2.2.2.2.2.2.2.1 x.2.2.2.2.2.2.2.2.2.2.1 x.2.2.2.2.2.2.2.2.2.2.2.1,(fun(p1:Int) (p2:List Int) (c0_0:Bool) (c0_1:Int) (c0_2:Int) (c0_3:List TQuestion) (w1k:List ByteArray) (w1v:List Int) (w2k:List ByteArray) (w2v:List (List Int)) (w3k:List ByteArray) (w3v:List Bool)=>(w3v:List Bool)) x.1 x.2.1 x.2.2.1 x.2.2.2.1 x.2.2.2.2.1 x.2.2.2.2.2.1 x.2.2.2.2.2.2.1 x.2.2.2.2.2.2.2.1 x.2.2.2.2.2.2.2.2.1 x.2.2.2.2.2.2.2.2.2.1 x.2.2.2.2.2.2.2.2.2.2.1 x.2.2.2.2.2.2.2.2.2.2.2.1,())
theorem kwu:kkr.Ok Try.prog TB:=Con.ok_fn k3e bd75 fun x h=>k1bx (k196 x.1 x.2.1 x.2.2.1 x.2.2.2.1 x.2.2.2.2.1 x.2.2.2.2.2.1 x.2.2.2.2.2.2.1 x.2.2.2.2.2.2.2.1 x.2.2.2.2.2.2.2.2.1 x.2.2.2.2.2.2.2.2.2.1 x.2.2.2.2.2.2.2.2.2.2.1 x.2.2.2.2.2.2.2.2.2.2.2.1 h)
def k4g:Con TB.den:=Con.mk0 74 [.agg [.d (.int .u64),.d (.int .u64),.d (.int .u64),.d (.int .u64)]] [] (.one (.one (.d (.bool)))) []
abbrev k11j:=HL TB.den (hsT k4g.ins (hsOs k4g.pre))
abbrev kjw:=HL TB.den (hsV k4g.res (hsOs k4g.post))
def kdp:Cx TB:=⟨inf,[],[],4,[]⟩
def kk5:Code:=Try.f74.body.getD .skip
def kp0:List ResultVar:=Try.f74.results.toList
def kzy (o:kjw):An TB:= .no
def kkq (x:k11j) (o:kjw):Prop:=WPh TB kdp 21 0 kk5 (kzy o) (k4g.st TB x) (retTQ TB kdp k4g kp0 o)
theorem k1cu (o:kjw):OblH TB kdp 21 0 kk5 (kzy o) (retTQ TB kdp k4g kp0 o):=
 OblH.ofC (X:=True) (by kernel_rfl) trivial
theorem k1e8 {x:k11j} {o:kjw} (h:kkq x o):k4g.Snd Try.prog x o:=
 Con.soundH (c:=k4g) (C:=kdp) TBok ⟨inf_ok,all_nil,all_nil⟩ mix Try.func74 (show Try.f74.body=some kk5 by kernel_rfl) (show Try.f74.ntmps=21 by kernel_rfl) (show Try.f74.results.toList=kp0 by kernel_rfl) rfl h (k1cu o)
theorem k1ga {p0:TNote} {r0:Bool} (h:
((decide (p0.Value≤4294967295)=true→
(decide (p0.Owner<18446744069414584321)=true→
(decide (p0.Rho<18446744069414584321)=true→
decide (p0.Blind<18446744069414584321)=r0)∧
(decide (p0.Rho<18446744069414584321)=false→
false=r0))∧
(decide (p0.Owner<18446744069414584321)=false→
false=r0))∧
(decide (p0.Value≤4294967295)=false→
false=r0))):kkq (p0.Value,p0.Owner,p0.Rho,p0.Blind,()) (r0,()):=WPh.of_eq (by kernel_rfl) h
theorem bd74:Callable Try.prog 74:=⟨by rw[Try.func74];kernel_rfl,by rw[Try.func74];show some _≠some _;decide⟩
theorem k1a9 (p0:TNote):kkq (p0.Value,p0.Owner,p0.Rho,p0.Blind,()) (((noteV p0):Bool),()):=by
 refine k1ga ?_
 unfold noteV
 grind
def kgb:Con TB.den:=k4g.totR fun x=>((fun(p0:TNote)=>((noteV p0):Bool)) (TNote.mk x.1 x.2.1 x.2.2.1 x.2.2.2.1),())
theorem kou:kgb.Ok Try.prog TB:=Con.ok_tot k4g bd74 fun x=>k1e8 (k1a9 (TNote.mk x.1 x.2.1 x.2.2.1 x.2.2.2.1))
def k2d:Con TB.den:=Con.mk0 76 [.agg [.d (.int .u64),.d (.int .u64),.d (.int .u64),.d (.int .u64)]] [] (.one (.one (.d (.sl (.int .u64))))) []
abbrev ksz:=HL TB.den (hsT k2d.ins (hsOs k2d.pre))
abbrev ken:=HL TB.den (hsV k2d.res (hsOs k2d.post))
def k9k:Cx TB:=⟨inf,[],[],4,[]⟩
def kfl:Code:=Try.f76.body.getD .skip
def kip:List ResultVar:=Try.f76.results.toList
def kqw (o:ken):An TB:= .no
def kfo (x:ksz) (o:ken):Prop:=WPh TB k9k 12 0 kfl (kqw o) (k2d.st TB x) (retTQ TB k9k k2d kip o)
theorem k169 (o:ken):OblH TB k9k 12 0 kfl (kqw o) (retTQ TB k9k k2d kip o):=
 OblH.ofC (X:=True) (by kernel_rfl) trivial
theorem k161 {x:ksz} {o:ken} (h:kfo x o):k2d.Snd Try.prog x o:=
 Con.soundH (c:=k2d) (C:=k9k) TBok ⟨inf_ok,all_nil,all_nil⟩ mix Try.func76 (show Try.f76.body=some kfl by kernel_rfl) (show Try.f76.ntmps=12 by kernel_rfl) (show Try.f76.results.toList=kip by kernel_rfl) rfl h (k169 o)
theorem k19g {p0:TNote} {r0:List Int} (h:
([p0.Value,p0.Owner,p0.Rho,p0.Blind]=r0)):kfo (p0.Value,p0.Owner,p0.Rho,p0.Blind,()) (r0,()):=WPh.of_eq (by kernel_rfl) h
theorem bd76:Callable Try.prog 76:=⟨by rw[Try.func76];kernel_rfl,by rw[Try.func76];show some _≠some _;decide⟩
theorem k14o (p0:TNote):kfo (p0.Value,p0.Owner,p0.Rho,p0.Blind,()) (((noteL p0):List Int),()):=by
 exact k19g rfl
def kpw:Con TB.den:=k2d.totR fun x=>((fun(p0:TNote)=>((noteL p0):List Int)) (TNote.mk x.1 x.2.1 x.2.2.1 x.2.2.2.1),())
theorem k17m:kpw.Ok Try.prog TB:=Con.ok_tot k2d bd76 fun x=>k161 (k14o (TNote.mk x.1 x.2.1 x.2.2.1 x.2.2.2.1))
def k1s:Con TB.den:=Con.mk0 34 [.one (.ptr 0 0),.agg [.d (.int .u64),.d (.int .u64),.d (.int .u64),.d (.int .u64)]] [.cells [.d (.bool),.d (.int .u64),.d (.int .i64),.d (.sl (.st 3)),.mp 1,.mp 2,.mp 3],.map (.str) (.int .i64),.map (.str) (.sl (.int .u64)),.map (.str) (.bool)] (.tup [.one (.d (.int .u64)),.one (.d (.bool))]) [.cells [.d (.bool),.d (.int .u64),.d (.int .i64),.d (.sl (.st 3)),.mp 1,.mp 2,.mp 3],.map (.str) (.int .i64),.map (.str) (.sl (.int .u64)),.map (.str) (.bool)]
abbrev kpr:=HL TB.den (hsT k1s.ins (hsOs k1s.pre))
abbrev kbe:=HL TB.den (hsV k1s.res (hsOs k1s.post))
def k80:Cx TB:=⟨inf,[kgb,kpw,kkr],[],4,[]⟩
def kda:Code:=Try.f34.body.getD .skip
def kfi:List ResultVar:=Try.f34.results.toList
def knw (o:kbe):An TB:= .no
def kcv (x:kpr) (o:kbe):Prop:=WPh TB k80 15 4 kda (knw o) (k1s.st TB x) (retTQ TB k80 k1s kfi o)
theorem k115 (o:kbe):OblH TB k80 15 4 kda (knw o) (retTQ TB k80 k1s kfi o):=
 OblH.ofC (X:=True) (by kernel_rfl) trivial
theorem k10o {x:kpr} {o:kbe} (h:kcv x o):k1s.Snd Try.prog x o:=
 Con.soundH (c:=k1s) (C:=k80) TBok ⟨inf_ok,(all_cons kou (all_cons k17m (all_cons kwu all_nil))),all_nil⟩ mix Try.func34 (show Try.f34.body=some kda by kernel_rfl) (show Try.f34.ntmps=15 by kernel_rfl) (show Try.f34.results.toList=kfi by kernel_rfl) rfl h (k115 o)
theorem k134 {p1:TNote} {c0_0:Bool} {c0_1:Int} {c0_2:Int} {c0_3:List TQuestion} {w1k:List ByteArray} {w1v:List Int} {w2k:List ByteArray} {w2v:List (List Int)} {w3k:List ByteArray} {w3v:List Bool} {r0:Int} {r1:Bool} {d0_0:Bool} {d0_1:Int} {d0_2:Int} {d0_3:List TQuestion} {e1k:List ByteArray} {e1v:List Int} {e2k:List ByteArray} {e2v:List (List Int)} {e3k:List ByteArray} {e3v:List Bool} (h:
(((!(noteV p1))=true→
0=r0∧false=r1∧c0_0=d0_0∧c0_1=d0_1∧c0_2=d0_2∧c0_3=d0_3∧w1k=e1k∧w1v=e1v∧w2k=e2k∧w2v=e2v∧w3k=e3k∧w3v=e3v)∧
((!(noteV p1))=false→
(U64 (2:Int)∧Us (noteL p1)∧(noteL p1).length≤1073741824∧OrOk w1k w1v c0_3)∧let r2:Int:=((pk c0_0 c0_3 w1k w1v (2:Int) (noteL p1)).getD 0)
let r3:Bool:=((pk c0_0 c0_3 w1k w1v (2:Int) (noteL p1)).isSome)
r2=r0∧r3=r1∧c0_0=d0_0∧c0_1=d0_1∧c0_2=d0_2∧c0_3=d0_3∧w1k=e1k∧w1v=e1v∧w2k=e2k∧w2v=e2v∧w3k=e3k∧w3v=e3v))):kcv (p1.Value,p1.Owner,p1.Rho,p1.Blind,c0_0,c0_1,c0_2,c0_3,w1k,w1v,w2k,w2v,w3k,w3v,()) (r0,r1,d0_0,d0_1,d0_2,d0_3,e1k,e1v,e2k,e2v,e3k,e3v,()):=WPh.of_eq (by kernel_rfl) h
theorem bd34:Callable Try.prog 34:=⟨by rw[Try.func34];kernel_rfl,by rw[Try.func34];show some _≠some _;decide⟩
theorem ky0 (p1:TNote) (c0_0:Bool) (c0_1:Int) (c0_2:Int) (c0_3:List TQuestion) (w1k:List ByteArray) (w1v:List Int) (w2k:List ByteArray) (w2v:List (List Int)) (w3k:List ByteArray) (w3v:List Bool) (h:NR p1∧OrOk w1k w1v c0_3):kcv (p1.Value,p1.Owner,p1.Rho,p1.Blind,c0_0,c0_1,c0_2,c0_3,w1k,w1v,w2k,w2v,w3k,w3v,()) ((((commP (pk c0_0 c0_3 w1k w1v) p1).getD 0):Int),(((commP (pk c0_0 c0_3 w1k w1v) p1).isSome):Bool),(c0_0:Bool),(c0_1:Int),(c0_2:Int),(c0_3:List TQuestion),(w1k:List ByteArray),(w1v:List Int),(w2k:List ByteArray),(w2v:List (List Int)),(w3k:List ByteArray),(w3v:List Bool),()):=by
 obtain⟨h1,ho⟩:=h
 have hu:Us (noteL p1):=by
  intro x hx
  simp only[noteL,List.mem_cons,List.not_mem_nil,or_false]at hx
  rcases hx with rfl|rfl|rfl|rfl
  ·exact h1.v
  ·exact h1.o
  ·exact h1.r
  ·exact h1.b
 refine k134 ?_
 simp only[k13n]
 unfold commP
 refine⟨fun e=> ?_,fun e=>⟨⟨by decide,hu,by simp[noteL],ho⟩,?_⟩⟩
 ·have e:noteV p1=false:=by simpa using e
  simp[e]
 ·have e:noteV p1=true:=by simpa using e
  simp[e]
def ke9:Con TB.den:=k1s.fnR (fun x=>(fun(p1:TNote) (c0_0:Bool) (c0_1:Int) (c0_2:Int) (c0_3:List TQuestion) (w1k:List ByteArray) (w1v:List Int) (w2k:List ByteArray) (w2v:List (List Int)) (w3k:List ByteArray) (w3v:List Bool)=>NR p1∧OrOk w1k w1v c0_3) (TNote.mk x.1 x.2.1 x.2.2.1 x.2.2.2.1) x.2.2.2.2.1 x.2.2.2.2.2.1 x.2.2.2.2.2.2.1 x.2.2.2.2.2.2.2.1 x.2.2.2.2.2.2.2.2.1 x.2.2.2.2.2.2.2.2.2.1 x.2.2.2.2.2.2.2.2.2.2.1 x.2.2.2.2.2.2.2.2.2.2.2.1 x.2.2.2.2.2.2.2.2.2.2.2.2.1 x.2.2.2.2.2.2.2.2.2.2.2.2.2.1) fun x=>((fun(p1:TNote) (c0_0:Bool) (c0_1:Int) (c0_2:Int) (c0_3:List TQuestion) (w1k:List ByteArray) (w1v:List Int) (w2k:List ByteArray) (w2v:List (List Int)) (w3k:List ByteArray) (w3v:List Bool)=>(((commP (pk c0_0 c0_3 w1k w1v) p1).getD 0):Int)) (TNote.mk x.1 x.2.1 x.2.2.1 x.2.2.2.1) x.2.2.2.2.1 x.2.2.2.2.2.1 x.2.2.2.2.2.2.1 x.2.2.2.2.2.2.2.1 x.2.2.2.2.2.2.2.2.1 x.2.2.2.2.2.2.2.2.2.1 x.2.2.2.2.2.2.2.2.2.2.1 x.2.2.2.2.2.2.2.2.2.2.2.1 x.2.2.2.2.2.2.2.2.2.2.2.2.1 x.2.2.2.2.2.2.2.2.2.2.2.2.2.1,(fun(p1:TNote) (c0_0:Bool) (c0_1:Int) (c0_2:Int) (c0_3:List TQuestion) (w1k:List ByteArray) (w1v:List Int) (w2k:List ByteArray) (w2v:List (List Int)) (w3k:List ByteArray) (w3v:List Bool)=>(((commP (pk c0_0 c0_3 w1k w1v) p1).isSome):Bool)) (TNote.mk x.1 x.2.1 x.2.2.1 x.2.2.2.1) x.2.2.2.2.1 x.2.2.2.2.2.1 x.2.2.2.2.2.2.1 x.2.2.2.2.2.2.2.1 x.2.2.2.2.2.2.2.2.1 x.2.2.2.2.2.2.2.2.2.1 x.2.2.2.2.2.2.2.2.2.2.1 x.2.2.2.2.2.2.2.2.2.2.2.1 x.2.2.2.2.2.2.2.2.2.2.2.2.1 x.2.2.2.2.2.2.2.2.2.2.2.2.2.1,(fun(p1:TNote) (c0_0:Bool) (c0_1:Int) (c0_2:Int) (c0_3:List TQuestion) (w1k:List ByteArray) (w1v:List Int) (w2k:List ByteArray) (w2v:List (List Int)) (w3k:List ByteArray) (w3v:List Bool)=>(c0_0:Bool)) (TNote.mk x.1 x.2.1 x.2.2.1 x.2.2.2.1) x.2.2.2.2.1 x.2.2.2.2.2.1 x.2.2.2.2.2.2.1 x.2.2.2.2.2.2.2.1 x.2.2.2.2.2.2.2.2.1 x.2.2.2.2.2.2.2.2.2.1 x.2.2.2.2.2.2.2.2.2.2.1 x.2.2.2.2.2.2.2.2.2.2.2.1 x.2.2.2.2.2.2.2.2.2.2.2.2.1 x.2.2.2.2.2.2.2.2.2.2.2.2.2.1,(fun(p1:TNote) (c0_0:Bool) (c0_1:Int) (c0_2:Int) (c0_3:List TQuestion) (w1k:List ByteArray) (w1v:List Int) (w2k:List ByteArray) (w2v:List (List Int)) (w3k:List ByteArray) (w3v:List Bool)=>(c0_1:Int)) (TNote.mk x.1 x.2.1 x.2.2.1 x.2.2.2.1) x.2.2.2.2.1 x.2.2.2.2.2.1 x.2.2.2.2.2.2.1 x.2.2.2.2.2.2.2.1 x.2.2.2.2.2.2.2.2.1 x.2.2.2.2.2.2.2.2.2.1 x.2.2.2.2.2.2.2.2.2.2.1 x.2.2.2.2.2.2.2.2.2.2.2.1 x.2.2.2.2.2.2.2.2.2.2.2.2.1 x.2.2.2.2.2.2.2.2.2.2.2.2.2.1,(fun(p1:TNote) (c0_0:Bool) (c0_1:Int) (c0_2:Int) (c0_3:List TQuestion) (w1k:List ByteArray) (w1v:List Int) (w2k:List ByteArray) (w2v:List (List Int)) (w3k:List ByteArray) (w3v:List Bool)=>(c0_2:Int)) (TNote.mk x.1 x.2.1 x.2.2.1 x.2.2.2.1) x.2.2.2.2.1 x.2.2.2.2.2.1 x.2.2.2.2.2.2.1 x.2.2.2.2.2.2.2.1 x.2.2.2.2.2.2.2.2.1 x.2.2.2.2.2.2.2.2.2.1 x.2.2.2.2.2.2.2.2.2.2.1 x.2.2.2.2.2.2.2.2.2.2.2.1 x.2.2.2.2.2.2.2.2.2.2.2.2.1 x.2.2.2.2.2.2.2.2.2.2.2.2.2.1,(fun(p1:TNote) (c0_0:Bool) (c0_1:Int) (c0_2:Int) (c0_3:List TQuestion) (w1k:List ByteArray) (w1v:List Int) (w2k:List ByteArray) (w2v:List (List Int)) (w3k:List ByteArray) (w3v:List Bool)=>(c0_3:List TQuestion)) (TNote.mk x.1 x.2.1 x.2.2.1 x.2.2.2.1) x.2.2.2.2.1 x.2.2.2.2.2.1 x.2.2.2.2.2.2.1 x.2.2.2.2.2.2.2.1 x.2.2.2.2.2.2.2.2.1 x.2.2.2.2.2.2.2.2.2.1 x.2.2.2.2.2.2.2.2.2.2.1 x.2.2.2.2.2.2.2.2.2.2.2.1 x.2.2.2.2.2.2.2.2.2.2.2.2.1 x.2.2.2.2.2.2.2.2.2.2.2.2.2.1,(fun(p1:TNote) (c0_0:Bool) (c0_1:Int) (c0_2:Int) (c0_3:List TQuestion) (w1k:List ByteArray) (w1v:List Int) (w2k:List ByteArray) (w2v:List (List Int)) (w3k:List ByteArray) (w3v:List Bool)=>(w1k:List ByteArray)) (TNote.mk x.1 x.2.1 x.2.2.1 x.2.2.2.1) x.2.2.2.2.1 x.2.2.2.2.2.1 x.2.2.2.2.2.2.1 x.2.2.2.2.2.2.2.1 x.2.2.2.2.2.2.2.2.1 x.2.2.2.2.2.2.2.2.2.1 x.2.2.2.2.2.2.2.2.2.2.1 x.2.2.2.2.2.2.2.2.2.2.2.1 x.2.2.2.2.2.2.2.2.2.2.2.2.1 x.2.2.2.2.2.2.2.2.2.2.2.2.2.1,(fun(p1:TNote) (c0_0:Bool) (c0_1:Int) (c0_2:Int) (c0_3:List TQuestion) (w1k:List ByteArray) (w1v:List Int) (w2k:List ByteArray) (w2v:List (List Int)) (w3k:List ByteArray) (w3v:List Bool)=>(w1v:List Int)) (TNote.mk x.1 x.2.1 x.2.2.1 x.2.2.2.1) x.2.2.2.2.1 x.2.2.2.2.2.1 x.2.2.2.2.2.2.1 x.2.2.2.2.2.2.2.1 x.2.2.2.2.2.2.2.2.1 x.2.2.2.2.2.2.2.2.2.1 x.2.2.2.2.2.2.2.2.2.2.1 x.2.2.2.2.2.2.2.2.2.2.2.1 x.2.2.2.2.2.2.2.2.2.2.2.2.1 x.2.2.2.2.2.2.2.2.2.2.2.2.2.1,(fun(p1:TNote) (c0_0:Bool) (c0_1:Int) (c0_2:Int) (c0_3:List TQuestion) (w1k:List ByteArray) (w1v:List Int) (w2k:List ByteArray) (w2v:List (List Int)) (w3k:List ByteArray) (w3v:List Bool)=>(w2k:List ByteArray)) (TNote.mk x.1 x.2.1 x.2.2.1 x.2.2.2.1) x.2.2.2.2.1 x.2.2.2.2.2.1 x.2.2.2.2.2.2.1 x.2.2.2.2.2.2.2.1 x.2.2.2.2.2.2.2.2.1 x.2.2.2.2.2.2.2.2.2.1 x.2.2.2.2.2.2.2.2.2.2.1 x.2.2.2.2.2.2.2.2.2.2.2.1 x.2.2.2.2.2.2.2.2.2.2.2.2.1 x.2.2.2.2.2.2.2.2.2.2.2.2.2.1,(fun(p1:TNote) (c0_0:Bool) (c0_1:Int) (c0_2:Int) (c0_3:List TQuestion) (w1k:List ByteArray) (w1v:List Int) (w2k:List ByteArray) (w2v:List (List Int)) (w3k:List ByteArray) (w3v:List Bool)=>(w2v:List (List Int))) (TNote.mk x.1 x.2.1 x.2.2.1 x.2.2.2.1) x.2.2.2.2.1 x.2.2.2.2.2.1 x.2.2.2.2.2.2.1 x.2.2.2.2.2.2.2.1 x.2.2.2.2.2.2.2.2.1 x.2.2.2.2.2.2.2.2.2.1 x.2.2.2.2.2.2.2.2.2.2.1 x.2.2.2.2.2.2.2.2.2.2.2.1 x.2.2.2.2.2.2.2.2.2.2.2.2.1 x.2.2.2.2.2.2.2.2.2.2.2.2.2.1,(fun(p1:TNote) (c0_0:Bool) (c0_1:Int) (c0_2:Int) (c0_3:List TQuestion) (w1k:List ByteArray) (w1v:List Int) (w2k:List ByteArray) (w2v:List (List Int)) (w3k:List ByteArray) (w3v:List Bool)=>(w3k:List ByteArray)) (TNote.mk x.1 x.2.1 x.2.2.1 x.2.2.2.1) x.2.2.2.2.1 x.2.2.2.2.2.1 x.2.2.2.2.2.2.1 x.2.2.2.2.2.2.2.1 x.2.2.2.2.2.2.2.2.1 x.2.2.2.2.2.2.2.2.2.1 x.2.2.2.2.2.2.2.2.2.2.1 x.2.2.2.2.2.2.2.2.2.2.2.1 x.2.2.2.2.2.2.2.2.2.2.2.2.1 x.2.2.2.2.2.2.2.2.2.2.2.2.2.1,(fun(p1:TNote) (c0_0:Bool) (c0_1:Int) (c0_2:Int) (c0_3:List TQuestion) (w1k:List ByteArray) (w1v:List Int) (w2k:List ByteArray) (w2v:List (List Int)) (w3k:List ByteArray) (w3v:List Bool)=>(w3v:List Bool)) (TNote.mk x.1 x.2.1 x.2.2.1 x.2.2.2.1) x.2.2.2.2.1 x.2.2.2.2.2.1 x.2.2.2.2.2.2.1 x.2.2.2.2.2.2.2.1 x.2.2.2.2.2.2.2.2.1 x.2.2.2.2.2.2.2.2.2.1 x.2.2.2.2.2.2.2.2.2.2.1 x.2.2.2.2.2.2.2.2.2.2.2.1 x.2.2.2.2.2.2.2.2.2.2.2.2.1 x.2.2.2.2.2.2.2.2.2.2.2.2.2.1,())
theorem ko2:ke9.Ok Try.prog TB:=Con.ok_fn k1s bd34 fun x h=>k10o (ky0 (TNote.mk x.1 x.2.1 x.2.2.1 x.2.2.2.1) x.2.2.2.2.1 x.2.2.2.2.2.1 x.2.2.2.2.2.2.1 x.2.2.2.2.2.2.2.1 x.2.2.2.2.2.2.2.2.1 x.2.2.2.2.2.2.2.2.2.1 x.2.2.2.2.2.2.2.2.2.2.1 x.2.2.2.2.2.2.2.2.2.2.2.1 x.2.2.2.2.2.2.2.2.2.2.2.2.1 x.2.2.2.2.2.2.2.2.2.2.2.2.2.1 h)
def k1f:Con TB.den:=Con.mk0 10 [.agg [.d (.sl (.st 0)),.d (.sl (.st 1)),.d (.int .u64)]] [] (.one (.one (.d (.int .u64)))) []
abbrev kpn:=HL TB.den (hsT k1f.ins (hsOs k1f.pre))
abbrev k35:=HL TB.den (hsV k1f.res (hsOs k1f.post))
def k3s:Cx TB:=⟨inf,[],[],4,[]⟩
def k71:Code:=Try.f10.body.getD .skip
def kaq:List ResultVar:=Try.f10.results.toList
def k14t (o:k35):=qS TB k3s 20 0 (cB (cB (cB k71))) .no (retTQ TB k3s k1f kaq o)
def k59:Tm:=⟨[],[],[3,7,8,9],[.one (.d (.int .u64)),.one (.d (.sl (.st 0))),.one (.d (.int .i64)),.one (.d (.int .i64))],1⟩
def k12b (o:k35) (nx1:NX TB k59):=qM TB 0 k59 nx1 (blockT TB 0 (k14t o))
def k7s (o:k35) (nx1:NX TB k59) (i:HL TB.den k59.hs):Prop:=WP TB k3s 20 0 (cA (cA (cB (cA (cB (cB k71)))))) .no (k59.fill TB i) (k12b o nx1)
def k11l (o:k35):An TB:= .lp [] k59 (k7s o) fun nx1=> .no
def k140 (o:k35):An TB:= .nd [] .no [] (.nd [] (.nd [] .no [] (k11l o)) [] .no)
def kop (o:k35):An TB:= .nd [] .no [] (k140 o)
def kct (x:kpn) (o:k35):Prop:=WPh TB k3s 20 0 k71 (kop o) (k1f.st TB x) (retTQ TB k3s k1f kaq o)
theorem k113 (o:k35):OblH TB k3s 20 0 k71 (kop o) (retTQ TB k3s k1f kaq o):=
 OblH.ofC (X:=((∀nx i,(k7s o) nx i=(k7s o) nx i)∧(∀nx1:NX TB k59,True)∧True)) (by kernel_rfl) ⟨fun _ _=>rfl,fun _=>trivial,trivial⟩
theorem k111 {x:kpn} {o:k35} (h:kct x o):k1f.Snd Try.prog x o:=
 Con.soundH (c:=k1f) (C:=k3s) TBok ⟨inf_ok,all_nil,all_nil⟩ mix Try.func10 (show Try.f10.body=some k71 by kernel_rfl) (show Try.f10.ntmps=20 by kernel_rfl) (show Try.f10.results.toList=kaq by kernel_rfl) rfl h (k113 o)
theorem k11g {p0:TWitness} {r0:Int} (h:
(Md.Loop ((0:Int),p0.Ins,((p0.Ins.length:Int):Int),(0:Int),()) (k7s (r0,())))):kct (p0.Ins,p0.Outs,p0.Secret,()) (r0,()):=WPh.of_eq (by kernel_rfl) h
def knz (r0:Int) (k1:Int→Int→Prop) (s7:List TSpent) (s8:Int) (s3:Int) (s9:Int):Prop:=
(decide (s9<s8)=true→
(0≤s9)∧s9<(s7.length:Int)∧let v1:Int:=IntKind.u64.wrap (s3+((ix s7 s9).Note_Value))
k1 v1 (IntKind.i64.wrap (s9+1):Int))∧
(decide (s9<s8)=false→
s3=r0)
theorem k10t {r0:Int} {s7:List TSpent} {s8:Int} {s3:Int} {s9:Int} (inv:Int→Int→Prop) (μ:Int→Int→Nat) (h0:inv s3 s9) (hs:∀(s3:Int) (s9:Int),inv s3 s9→knz r0 (fun s3q s9q=>inv s3q s9q∧μ s3q s9q<μ s3 s9) s7 s8 s3 s9):Md.Loop (s3,s7,s8,s9,()) (k7s (r0,())):=
 ⟨⟨fun s:Int×(List TSpent)×Int×Int×Unit=>(s.2.1=s7∧s.2.2.1=s8)∧inv s.1 s.2.2.2.1,fun s:Int×(List TSpent)×Int×Int×Unit=>μ s.1 s.2.2.2.1,⟨⟨rfl,rfl⟩,h0⟩,fun(s3p,s7p,s8p,s9p,()) ⟨⟨eq0,eq1⟩,hi⟩=>by
  have eq0:s7p=s7:=eq0;subst s7p;have eq1:s8p=s8:=eq1;subst s8p;exact mpr_of (by kernel_rfl) ((congrArg (fun k=>knz r0 k s7 s8 s3p s9p) (lpk2 (⟨rfl,rfl⟩:s7=s7∧s8=s8) inv (fun s3q s9q=>μ s3q s9q<μ s3p s9p))).mpr (hs s3p s9p hi))⟩⟩
theorem bd10:Callable Try.prog 10:=⟨by rw[Try.func10];kernel_rfl,by rw[Try.func10];show some _≠some _;decide⟩
theorem kxq (p0:TWitness) (h:p0.Ins.length≤9223372036854775807):kct (p0.Ins,p0.Outs,p0.Secret,()) (((inS p0.Ins):Int),()):=by
 refine k11g (k10t (fun s i=>FoldI (fun s x=>(s+x.Note_Value)%18446744073709551616) 0 p0.Ins i s) (fun s i=>(p0.Ins.length-i).toNat) FoldI.start ?_)
 intro s i hi
 refine⟨fun hh=> ?_,fun hh=>hi.done (of_decide_eq_false hh)⟩
 have hh:=of_decide_eq_true hh
 exact⟨hi.1,hh,hi.next hh (by omega) (by rw[u64w])⟩
def ke3:Con TB.den:=k1f.fnR (fun x=>(fun(p0:TWitness)=>p0.Ins.length≤9223372036854775807) (TWitness.mk x.1 x.2.1 x.2.2.1)) fun x=>((fun(p0:TWitness)=>((inS p0.Ins):Int)) (TWitness.mk x.1 x.2.1 x.2.2.1),())
theorem kob:ke3.Ok Try.prog TB:=Con.ok_fn k1f bd10 fun x h=>k111 (kxq (TWitness.mk x.1 x.2.1 x.2.2.1) h)
def k15:Con TB.den:=Con.mk0 12 [.agg [.d (.sl (.st 0)),.d (.sl (.st 1)),.d (.int .u64)]] [] (.one (.one (.d (.int .u64)))) []
abbrev koe:=HL TB.den (hsT k15.ins (hsOs k15.pre))
abbrev k2r:=HL TB.den (hsV k15.res (hsOs k15.post))
def k32:Cx TB:=⟨inf,[],[],4,[]⟩
def k6n:Code:=Try.f12.body.getD .skip
def ka5:List ResultVar:=Try.f12.results.toList
def k11b (o:k2r):=qS TB k32 19 0 (cB (cB (cB k6n))) .no (retTQ TB k32 k15 ka5 o)
def k4m:Tm:=⟨[],[],[3,7,8,9],[.one (.d (.int .u64)),.one (.d (.sl (.st 1))),.one (.d (.int .i64)),.one (.d (.int .i64))],1⟩
def k11e (o:k2r) (nx1:NX TB k4m):=qM TB 0 k4m nx1 (blockT TB 0 (k11b o))
def k7b (o:k2r) (nx1:NX TB k4m) (i:HL TB.den k4m.hs):Prop:=WP TB k32 19 0 (cA (cA (cB (cA (cB (cB k6n)))))) .no (k4m.fill TB i) (k11e o nx1)
def k10c (o:k2r):An TB:= .lp [] k4m (k7b o) fun nx1=> .no
def k10w (o:k2r):An TB:= .nd [] .no [] (.nd [] (.nd [] .no [] (k10c o)) [] .no)
def klq (o:k2r):An TB:= .nd [] .no [] (k10w o)
def kbt (x:koe) (o:k2r):Prop:=WPh TB k32 19 0 k6n (klq o) (k15.st TB x) (retTQ TB k32 k15 ka5 o)
theorem kx9 (o:k2r):OblH TB k32 19 0 k6n (klq o) (retTQ TB k32 k15 ka5 o):=
 OblH.ofC (X:=((∀nx i,(k7b o) nx i=(k7b o) nx i)∧(∀nx1:NX TB k4m,True)∧True)) (by kernel_rfl) ⟨fun _ _=>rfl,fun _=>trivial,trivial⟩
theorem ky3 {x:koe} {o:k2r} (h:kbt x o):k15.Snd Try.prog x o:=
 Con.soundH (c:=k15) (C:=k32) TBok ⟨inf_ok,all_nil,all_nil⟩ mix Try.func12 (show Try.f12.body=some k6n by kernel_rfl) (show Try.f12.ntmps=19 by kernel_rfl) (show Try.f12.results.toList=ka5 by kernel_rfl) rfl h (kx9 o)
theorem k10s {p0:TWitness} {r0:Int} (h:
(Md.Loop ((0:Int),p0.Outs,((p0.Outs.length:Int):Int),(0:Int),()) (k7b (r0,())))):kbt (p0.Ins,p0.Outs,p0.Secret,()) (r0,()):=WPh.of_eq (by kernel_rfl) h
def klj (r0:Int) (k1:Int→Int→Prop) (s7:List TNote) (s8:Int) (s3:Int) (s9:Int):Prop:=
(decide (s9<s8)=true→
(0≤s9)∧s9<(s7.length:Int)∧let v1:Int:=IntKind.u64.wrap (s3+((ix s7 s9).Value))
k1 v1 (IntKind.i64.wrap (s9+1):Int))∧
(decide (s9<s8)=false→
s3=r0)
theorem kxc {r0:Int} {s7:List TNote} {s8:Int} {s3:Int} {s9:Int} (inv:Int→Int→Prop) (μ:Int→Int→Nat) (h0:inv s3 s9) (hs:∀(s3:Int) (s9:Int),inv s3 s9→klj r0 (fun s3q s9q=>inv s3q s9q∧μ s3q s9q<μ s3 s9) s7 s8 s3 s9):Md.Loop (s3,s7,s8,s9,()) (k7b (r0,())):=
 ⟨⟨fun s:Int×(List TNote)×Int×Int×Unit=>(s.2.1=s7∧s.2.2.1=s8)∧inv s.1 s.2.2.2.1,fun s:Int×(List TNote)×Int×Int×Unit=>μ s.1 s.2.2.2.1,⟨⟨rfl,rfl⟩,h0⟩,fun(s3p,s7p,s8p,s9p,()) ⟨⟨eq0,eq1⟩,hi⟩=>by
  have eq0:s7p=s7:=eq0;subst s7p;have eq1:s8p=s8:=eq1;subst s8p;exact mpr_of (by kernel_rfl) ((congrArg (fun k=>klj r0 k s7 s8 s3p s9p) (lpk2 (⟨rfl,rfl⟩:s7=s7∧s8=s8) inv (fun s3q s9q=>μ s3q s9q<μ s3p s9p))).mpr (hs s3p s9p hi))⟩⟩
theorem bd12:Callable Try.prog 12:=⟨by rw[Try.func12];kernel_rfl,by rw[Try.func12];show some _≠some _;decide⟩
theorem kvs (p0:TWitness) (h:p0.Outs.length≤9223372036854775807):kbt (p0.Ins,p0.Outs,p0.Secret,()) (((outS p0.Outs):Int),()):=by
 refine k10s (kxc (fun s i=>FoldI (fun s x=>(s+x.Value)%18446744073709551616) 0 p0.Outs i s) (fun s i=>(p0.Outs.length-i).toNat) FoldI.start ?_)
 intro s i hi
 refine⟨fun hh=> ?_,fun hh=>hi.done (of_decide_eq_false hh)⟩
 have hh:=of_decide_eq_true hh
 exact⟨hi.1,hh,hi.next hh (by omega) (by rw[u64w])⟩
def kd1:Con TB.den:=k15.fnR (fun x=>(fun(p0:TWitness)=>p0.Outs.length≤9223372036854775807) (TWitness.mk x.1 x.2.1 x.2.2.1)) fun x=>((fun(p0:TWitness)=>((outS p0.Outs):Int)) (TWitness.mk x.1 x.2.1 x.2.2.1),())
theorem kll:kd1.Ok Try.prog TB:=Con.ok_fn k15 bd12 fun x h=>ky3 (kvs (TWitness.mk x.1 x.2.1 x.2.2.1) h)
def kx:Con TB.den:=Con.mk0 68 [.one (.d (.sl (.int .u64)))] [] (.one (.one (.d (.bool)))) []
abbrev klp:=HL TB.den (hsT kx.ins (hsOs kx.pre))
abbrev k33:=HL TB.den (hsV kx.res (hsOs kx.post))
def k2s:Cx TB:=⟨inf,[],[],4,[]⟩
def k63:Code:=Try.f68.body.getD .skip
def k95:List ResultVar:=Try.f68.results.toList
def kyh (o:k33):=qS TB k2s 14 0 (cB (cB k63)) .no (retTQ TB k2s kx k95 o)
def k3w:Tm:=⟨[],[],[5,6,7],[.one (.d (.sl (.int .u64))),.one (.d (.int .i64)),.one (.d (.int .i64))],0⟩
def kxd (o:k33) (nx1:NX TB k3w):=qM TB 0 k3w nx1 (blockT TB 0 (kyh o))
def k6p (o:k33) (nx1:NX TB k3w) (i:HL TB.den k3w.hs):Prop:=WP TB k2s 14 0 (cA (cA (cB (cA (cB k63))))) .no (k3w.fill TB i) (kxd o nx1)
def kxj (o:k33):An TB:= .lp [] k3w (k6p o) fun nx1=> .no
def kla (o:k33):An TB:= .nd [] .no [] (.nd [] (.nd [] .no [] (kxj o)) [] .no)
def kb6 (x:klp) (o:k33):Prop:=WPh TB k2s 14 0 k63 (kla o) (kx.st TB x) (retTQ TB k2s kx k95 o)
theorem kvd (o:k33):OblH TB k2s 14 0 k63 (kla o) (retTQ TB k2s kx k95 o):=
 OblH.ofC (X:=((∀nx i,(k6p o) nx i=(k6p o) nx i)∧(∀nx1:NX TB k3w,True)∧True)) (by kernel_rfl) ⟨fun _ _=>rfl,fun _=>trivial,trivial⟩
theorem kvb {x:klp} {o:k33} (h:kb6 x o):kx.Snd Try.prog x o:=
 Con.soundH (c:=kx) (C:=k2s) TBok ⟨inf_ok,all_nil,all_nil⟩ mix Try.func68 (show Try.f68.body=some k63 by kernel_rfl) (show Try.f68.ntmps=14 by kernel_rfl) (show Try.f68.results.toList=k95 by kernel_rfl) rfl h (kvd o)
theorem kxz {p0:List Int} {r0:Bool} (h:
(Md.Loop (p0,((p0.length:Int):Int),(0:Int),()) (k6p (r0,())))):kb6 (p0,()) (r0,()):=WPh.of_eq (by kernel_rfl) h
def kkp (r0:Bool) (k1:Int→Prop) (s5:List Int) (s6:Int) (s7:Int):Prop:=
(decide (s7<s6)=true→
(0≤s7)∧s7<(s5.length:Int)∧let v1:Bool:=decide (18446744069414584321≤(ix s5 s7))
(v1=true→
false=r0)∧
(v1=false→
k1 (IntKind.i64.wrap (s7+1):Int)))∧
(decide (s7<s6)=false→
true=r0)
theorem kw3 {r0:Bool} {s5:List Int} {s6:Int} {s7:Int} (inv:Int→Prop) (μ:Int→Nat) (h0:inv s7) (hs:∀(s7:Int),inv s7→kkp r0 (fun s7q=>inv s7q∧μ s7q<μ s7) s5 s6 s7):Md.Loop (s5,s6,s7,()) (k6p (r0,())):=
 ⟨⟨fun s:(List Int)×Int×Int×Unit=>(s.1=s5∧s.2.1=s6)∧inv s.2.2.1,fun s:(List Int)×Int×Int×Unit=>μ s.2.2.1,⟨⟨rfl,rfl⟩,h0⟩,fun(s5p,s6p,s7p,()) ⟨⟨eq0,eq1⟩,hi⟩=>by
  have eq0:s5p=s5:=eq0;subst s5p;have eq1:s6p=s6:=eq1;subst s6p;exact mpr_of (by kernel_rfl) ((congrArg (fun k=>kkp r0 k s5 s6 s7p) (lpk1 (⟨rfl,rfl⟩:s5=s5∧s6=s6) inv (fun s7q=>μ s7q<μ s7p))).mpr (hs s7p hi))⟩⟩
theorem bd68:Callable Try.prog 68:=⟨by rw[Try.func68];kernel_rfl,by rw[Try.func68];show some _≠some _;decide⟩
theorem kuv (p0:List Int) (h:p0.length≤9223372036854775807):kb6 (p0,()) (((allB p0):Bool),()):=by
 refine kxz (kw3 (AllI (fun x=>decide (x<18446744069414584321)) p0) (fun i=>(p0.length-i).toNat) AllI.start ?_)
 intro i hi
 refine⟨fun hh=> ?_,fun hh=>(hi.done (of_decide_eq_false hh)).symm⟩
 have hh:=of_decide_eq_true hh
 exact⟨hi.1,hh,fun e=>(hi.bad hh (by simpa using e)).symm,fun e=>hi.next hh (by omega) (by simpa using e)⟩
def k8b:Con TB.den:=kx.fnR (fun x=>(fun(p0:List Int)=>p0.length≤9223372036854775807) x.1) fun x=>((fun(p0:List Int)=>((allB p0):Bool)) x.1,())
theorem kd5:k8b.Ok Try.prog TB:=Con.ok_fn kx bd68 fun x h=>kvb (kuv x.1 h)
def k1k:Con TB.den:=Con.mk0 70 [.one (.d (.sl (.st 1)))] [] (.one (.one (.d (.bool)))) []
abbrev kr6:=HL TB.den (hsT k1k.ins (hsOs k1k.pre))
abbrev k5e:=HL TB.den (hsV k1k.res (hsOs k1k.post))
def k4l:Cx TB:=⟨inf,[kgb],[],4,[]⟩
def k7c:Code:=Try.f70.body.getD .skip
def kbc:List ResultVar:=Try.f70.results.toList
def k15x (o:k5e):=qS TB k4l 15 0 (cB (cB k7c)) .no (retTQ TB k4l k1k kbc o)
def k5q:Tm:=⟨[],[],[5,6,7],[.one (.d (.sl (.st 1))),.one (.d (.int .i64)),.one (.d (.int .i64))],0⟩
def k166 (o:k5e) (nx1:NX TB k5q):=qM TB 0 k5q nx1 (blockT TB 0 (k15x o))
def k8y (o:k5e) (nx1:NX TB k5q) (i:HL TB.den k5q.hs):Prop:=WP TB k4l 15 0 (cA (cA (cB (cA (cB k7c))))) .no (k5q.fill TB i) (k166 o nx1)
def k153 (o:k5e):An TB:= .lp [] k5q (k8y o) fun nx1=> .no
def kpk (o:k5e):An TB:= .nd [] .no [] (.nd [] (.nd [] .no [] (k153 o)) [] .no)
def ke2 (x:kr6) (o:k5e):Prop:=WPh TB k4l 15 0 k7c (kpk o) (k1k.st TB x) (retTQ TB k4l k1k kbc o)
theorem k11t (o:k5e):OblH TB k4l 15 0 k7c (kpk o) (retTQ TB k4l k1k kbc o):=
 OblH.ofC (X:=((∀nx i,(k8y o) nx i=(k8y o) nx i)∧(∀nx1:NX TB k5q,True)∧True)) (by kernel_rfl) ⟨fun _ _=>rfl,fun _=>trivial,trivial⟩
theorem k12c {x:kr6} {o:k5e} (h:ke2 x o):k1k.Snd Try.prog x o:=
 Con.soundH (c:=k1k) (C:=k4l) TBok ⟨inf_ok,(all_cons kou all_nil),all_nil⟩ mix Try.func70 (show Try.f70.body=some k7c by kernel_rfl) (show Try.f70.ntmps=15 by kernel_rfl) (show Try.f70.results.toList=kbc by kernel_rfl) rfl h (k11t o)
theorem k15a {p0:List TNote} {r0:Bool} (h:
(Md.Loop (p0,((p0.length:Int):Int),(0:Int),()) (k8y (r0,())))):ke2 (p0,()) (r0,()):=WPh.of_eq (by kernel_rfl) h
def kpx (r0:Bool) (k1:Int→Prop) (s5:List TNote) (s6:Int) (s7:Int):Prop:=
(decide (s7<s6)=true→
(0≤s7)∧s7<(s5.length:Int)∧((!(noteV (ix s5 s7)))=true→
false=r0)∧
((!(noteV (ix s5 s7)))=false→
k1 (IntKind.i64.wrap (s7+1):Int)))∧
(decide (s7<s6)=false→
true=r0)
theorem k14r {r0:Bool} {s5:List TNote} {s6:Int} {s7:Int} (inv:Int→Prop) (μ:Int→Nat) (h0:inv s7) (hs:∀(s7:Int),inv s7→kpx r0 (fun s7q=>inv s7q∧μ s7q<μ s7) s5 s6 s7):Md.Loop (s5,s6,s7,()) (k8y (r0,())):=
 ⟨⟨fun s:(List TNote)×Int×Int×Unit=>(s.1=s5∧s.2.1=s6)∧inv s.2.2.1,fun s:(List TNote)×Int×Int×Unit=>μ s.2.2.1,⟨⟨rfl,rfl⟩,h0⟩,fun(s5p,s6p,s7p,()) ⟨⟨eq0,eq1⟩,hi⟩=>by
  have eq0:s5p=s5:=eq0;subst s5p;have eq1:s6p=s6:=eq1;subst s6p;exact mpr_of (by kernel_rfl) ((congrArg (fun k=>kpx r0 k s5 s6 s7p) (lpk1 (⟨rfl,rfl⟩:s5=s5∧s6=s6) inv (fun s7q=>μ s7q<μ s7p))).mpr (hs s7p hi))⟩⟩
theorem bd70:Callable Try.prog 70:=⟨by rw[Try.func70];kernel_rfl,by rw[Try.func70];show some _≠some _;decide⟩
theorem k10b (p0:List TNote) (h:p0.length≤9223372036854775807):ke2 (p0,()) (((p0.all noteV):Bool),()):=by
 refine k15a (k14r (AllI noteV p0) (fun i=>(p0.length-i).toNat) AllI.start ?_)
 intro i hi
 refine⟨fun hh=> ?_,fun hh=>(hi.done (of_decide_eq_false hh)).symm⟩
 have hh:=of_decide_eq_true hh
 exact⟨hi.1,hh,fun e=>(hi.bad hh (by simpa using e)).symm,fun e=>hi.next hh (by omega) (by simpa using e)⟩
def kf5:Con TB.den:=k1k.fnR (fun x=>(fun(p0:List TNote)=>p0.length≤9223372036854775807) x.1) fun x=>((fun(p0:List TNote)=>((p0.all noteV):Bool)) x.1,())
theorem kpp:kf5.Ok Try.prog TB:=Con.ok_fn k1k bd70 fun x h=>k12c (k10b x.1 h)
def k12:Con TB.den:=Con.mk0 69 [.agg [.d (.int .u64),.d (.int .u64),.d (.int .u64),.d (.int .u64),.d (.int .u64),.d (.int .i64),.d (.int .i64),.d (.sl (.int .u64)),.d (.bool)]] [] (.one (.one (.d (.bool)))) []
abbrev kk8:=HL TB.den (hsT k12.ins (hsOs k12.pre))
abbrev k96:=HL TB.den (hsV k12.res (hsOs k12.post))
def k6j:Cx TB:=⟨inf,[kgb,k8b],[],4,[]⟩
def ka6:Code:=Try.f69.body.getD .skip
def kcc:List ResultVar:=Try.f69.results.toList
def kje (o:k96):An TB:= .no
def kaa (x:kk8) (o:k96):Prop:=WPh TB k6j 43 0 ka6 (kje o) (k12.st TB x) (retTQ TB k6j k12 kcc o)
theorem ku5 (o:k96):OblH TB k6j 43 0 ka6 (kje o) (retTQ TB k6j k12 kcc o):=
 OblH.ofC (X:=True) (by kernel_rfl) trivial
theorem ku3 {x:kk8} {o:k96} (h:kaa x o):k12.Snd Try.prog x o:=
 Con.soundH (c:=k12) (C:=k6j) TBok ⟨inf_ok,(all_cons kou (all_cons kd5 all_nil)),all_nil⟩ mix Try.func69 (show Try.f69.body=some ka6 by kernel_rfl) (show Try.f69.ntmps=43 by kernel_rfl) (show Try.f69.results.toList=kcc by kernel_rfl) rfl h (ku5 o)
theorem kv5 {p0:TSpent} {r0:Bool} (h:
(let r1:Bool:=(noteV (TNote.mk p0.Note_Value p0.Note_Owner p0.Note_Rho p0.Note_Blind))
(r1=true→
([p0.Key].length≤9223372036854775807)∧((allB [p0.Key])=true→
(decide (0≤p0.Number)=true→
(decide (p0.Number<4)=true→
(decide (0≤p0.Position)=true→
(decide (p0.Position≤4095)=true→
(decide ((p0.Path.length:Int)≤12)=true→
(p0.Path.length≤9223372036854775807)∧(allB p0.Path)=r0)∧
(decide ((p0.Path.length:Int)≤12)=false→
false=r0))∧
(decide (p0.Position≤4095)=false→
false=r0))∧
(decide (0≤p0.Position)=false→
false=r0))∧
(decide (p0.Number<4)=false→
false=r0))∧
(decide (0≤p0.Number)=false→
false=r0))∧
((allB [p0.Key])=false→
false=r0))∧
(r1=false→
false=r0))):kaa (p0.Note_Value,p0.Note_Owner,p0.Note_Rho,p0.Note_Blind,p0.Key,p0.Number,p0.Position,p0.Path,p0.Dummy,()) (r0,()):=WPh.of_eq (by kernel_rfl) h
theorem bd69:Callable Try.prog 69:=⟨by rw[Try.func69];kernel_rfl,by rw[Try.func69];show some _≠some _;decide⟩
theorem kst (p0:TSpent) (h:p0.Path.length≤9223372036854775807):kaa (p0.Note_Value,p0.Note_Owner,p0.Note_Rho,p0.Note_Blind,p0.Key,p0.Number,p0.Position,p0.Path,p0.Dummy,()) (((spendV p0):Bool),()):=by
 have e1:allB [p0.Key]=decide (p0.Key<18446744069414584321):=by simp[allB]
 have e2:(decide ((p0.Path.length:Int)≤12))=decide (p0.Path.length≤12):=by congr 1;apply propext;omega
 refine kv5 ?_
 simp only[e1,e2]
 unfold spendV noteOf
 have:[p0.Key].length≤9223372036854775807:=by simp
 grind
def kaz:Con TB.den:=k12.fnR (fun x=>(fun(p0:TSpent)=>p0.Path.length≤9223372036854775807) (TSpent.mk x.1 x.2.1 x.2.2.1 x.2.2.2.1 x.2.2.2.2.1 x.2.2.2.2.2.1 x.2.2.2.2.2.2.1 x.2.2.2.2.2.2.2.1 x.2.2.2.2.2.2.2.2.1)) fun x=>((fun(p0:TSpent)=>((spendV p0):Bool)) (TSpent.mk x.1 x.2.1 x.2.2.1 x.2.2.2.1 x.2.2.2.2.1 x.2.2.2.2.2.1 x.2.2.2.2.2.2.1 x.2.2.2.2.2.2.2.1 x.2.2.2.2.2.2.2.2.1),())
theorem kji:kaz.Ok Try.prog TB:=Con.ok_fn k12 bd69 fun x h=>ku3 (kst (TSpent.mk x.1 x.2.1 x.2.2.1 x.2.2.2.1 x.2.2.2.2.1 x.2.2.2.2.2.1 x.2.2.2.2.2.2.1 x.2.2.2.2.2.2.2.1 x.2.2.2.2.2.2.2.2.1) h)
def k1l:Con TB.den:=Con.mk0 31 [.agg [.d (.int .i64),.d (.int .u64),.d (.sl (.int .u64)),.d (.sl (.int .u64)),.d (.sl (.int .u64)),.d (.int .u64),.d (.int .u64),.d (.int .u64),.d (.int .u64),.d (.int .u64)],.agg [.d (.sl (.st 0)),.d (.sl (.st 1)),.d (.int .u64)]] [] (.one (.one (.d (.bool)))) []
abbrev kqi:=HL TB.den (hsT k1l.ins (hsOs k1l.pre))
abbrev k2x:=HL TB.den (hsV k1l.res (hsOs k1l.post))
def k4j:Cx TB:=⟨inf,[k8b,kaz,kf5],[],4,[]⟩
def k7a:Code:=Try.f31.body.getD .skip
def kbd:List ResultVar:=Try.f31.results.toList
def k14x (o:k2x):=qS TB k4j 122 0 (cB (cB (cB (cB (cB (cB (cB k7a))))))) .no (retTQ TB k4j k1l kbd o)
def k5o:Tm:=⟨[0,1],[.cells [.d (.int .i64),.d (.int .u64),.d (.sl (.int .u64)),.d (.sl (.int .u64)),.d (.sl (.int .u64)),.d (.int .u64),.d (.int .u64),.d (.int .u64),.d (.int .u64),.d (.int .u64)],.cells [.d (.sl (.st 0)),.d (.sl (.st 1)),.d (.int .u64)]],[2,3,93,94,95],[.one (.ptr 0 0),.one (.ptr 1 0),.one (.d (.sl (.st 0))),.one (.d (.int .i64)),.one (.d (.int .i64))],3⟩
def k159 (o:k2x) (nx1:NX TB k5o):=qM TB 0 k5o nx1 (blockT TB 0 (k14x o))
def k8q (o:k2x) (nx1:NX TB k5o) (i:HL TB.den k5o.hs):Prop:=WP TB k4j 122 0 (cA (cA (cB (cA (cB (cB (cB (cB (cB (cB k7a)))))))))) .no (k5o.fill TB i) (k159 o nx1)
def k15k (o:k2x):An TB:= .lp [] k5o (k8q o) fun nx1=> .no
def k15d (o:k2x):An TB:= .nd [] .no [] (.nd [] (.nd [] .no [] (k15k o)) [] .no)
def k120 (o:k2x):An TB:= .nd [] .no [] (.nd [] .no [] (.nd [] .no [] (k15d o)))
def kpz (o:k2x):An TB:= .nd [] .no [] (.nd [] .no [] (k120 o))
def ke1 (x:kqi) (o:k2x):Prop:=WPh TB k4j 122 0 k7a (kpz o) (k1l.st TB x) (retTQ TB k4j k1l kbd o)
theorem k131 (o:k2x):OblH TB k4j 122 0 k7a (kpz o) (retTQ TB k4j k1l kbd o):=
 OblH.ofC (X:=((∀nx i,(k8q o) nx i=(k8q o) nx i)∧(∀nx1:NX TB k5o,True)∧True)) (by kernel_rfl) ⟨fun _ _=>rfl,fun _=>trivial,trivial⟩
theorem k125 {x:kqi} {o:k2x} (h:ke1 x o):k1l.Snd Try.prog x o:=
 Con.soundH (c:=k1l) (C:=k4j) TBok ⟨inf_ok,(all_cons kd5 (all_cons kji (all_cons kpp all_nil))),all_nil⟩ mix Try.func31 (show Try.f31.body=some k7a by kernel_rfl) (show Try.f31.ntmps=122 by kernel_rfl) (show Try.f31.results.toList=kbd by kernel_rfl) rfl h (k131 o)
theorem k15w {p0:TStatement} {p1:TWitness} {r0:Bool} (h:
((decide (p0.Depth<1)=true→
false=r0)∧
(decide (p0.Depth<1)=false→
(decide (12<p0.Depth)=true→
false=r0)∧
(decide (12<p0.Depth)=false→
([p0.Anchor,p0.Account,p0.Bind,p1.Secret].length≤9223372036854775807)∧let r1:Bool:=(allB [p0.Anchor,p0.Account,p0.Bind,p1.Secret])
((!r1)=true→
false=r0)∧
((!r1)=false→
(decide (4294967295<p0.Deposit)=true→
false=r0)∧
(decide (4294967295<p0.Deposit)=false→
(decide (4294967295<p0.Withdraw)=true→
false=r0)∧
(decide (4294967295<p0.Withdraw)=false→
(decide (4294967295<p0.Fee)=true→
false=r0)∧
(decide (4294967295<p0.Fee)=false→
(p0.Marks.length≤9223372036854775807)∧((!(allB p0.Marks))=true→
false=r0)∧
((!(allB p0.Marks))=false→
(p0.Commits.length≤9223372036854775807)∧((!(allB p0.Commits))=true→
false=r0)∧
((!(allB p0.Commits))=false→
(p0.Rhos.length≤9223372036854775807)∧((!(allB p0.Rhos))=true→
false=r0)∧
((!(allB p0.Rhos))=false→
let v2:Bool:=((p1.Ins.length:Int) !=(p0.Marks.length:Int))
(v2=true→
false=r0)∧
(v2=false→
(decide (4<(p1.Ins.length:Int))=true→
false=r0)∧
(decide (4<(p1.Ins.length:Int))=false→
let v3:Bool:=((p1.Outs.length:Int) !=(p0.Commits.length:Int))
(v3=true→
false=r0)∧
(v3=false→
let v4:Bool:=((p1.Outs.length:Int) !=(p0.Rhos.length:Int))
(v4=true→
false=r0)∧
(v4=false→
(decide (4<(p1.Outs.length:Int))=true→
false=r0)∧
(decide (4<(p1.Outs.length:Int))=false→
Md.Loop (p1.Ins,((p1.Ins.length:Int):Int),(0:Int),p0.Depth,p0.Anchor,p0.Marks,p0.Commits,p0.Rhos,p0.Deposit,p0.Withdraw,p0.Fee,p0.Account,p0.Bind,p1.Ins,p1.Outs,p1.Secret,()) (k8q (r0,())))))))))))))))))):ke1 (p0.Depth,p0.Anchor,p0.Marks,p0.Commits,p0.Rhos,p0.Deposit,p0.Withdraw,p0.Fee,p0.Account,p0.Bind,p1.Ins,p1.Outs,p1.Secret,()) (r0,()):=WPh.of_eq (by kernel_rfl) h
def kpe (r0:Bool) (k1:Int→Prop) (s93:List TSpent) (s94:Int) (h0_0:Int) (h0_1:Int) (h0_2:List Int) (h0_3:List Int) (h0_4:List Int) (h0_5:Int) (h0_6:Int) (h0_7:Int) (h0_8:Int) (h0_9:Int) (h1_0:List TSpent) (h1_1:List TNote) (h1_2:Int) (s95:Int):Prop:=
(decide (s95<s94)=true→
(0≤s95)∧s95<(s93.length:Int)∧((ix s93 s95).Path.length≤9223372036854775807)∧((!(spendV (ix s93 s95)))=true→
false=r0)∧
((!(spendV (ix s93 s95)))=false→
let v5:Bool:=((((ix s93 s95).Path).length:Int) !=h0_0)
(v5=true→
false=r0)∧
(v5=false→
(0≤h0_0)∧let v6:Bool:=decide ((ishl .i64 1 h0_0)≤((ix s93 s95).Position))
(v6=true→
false=r0)∧
(v6=false→
k1 (IntKind.i64.wrap (s95+1):Int)))))∧
(decide (s95<s94)=false→
(h1_1.length≤9223372036854775807)∧(h1_1.all noteV)=r0)
theorem k146 {r0:Bool} {s93:List TSpent} {s94:Int} {h0_0:Int} {h0_1:Int} {h0_2:List Int} {h0_3:List Int} {h0_4:List Int} {h0_5:Int} {h0_6:Int} {h0_7:Int} {h0_8:Int} {h0_9:Int} {h1_0:List TSpent} {h1_1:List TNote} {h1_2:Int} {s95:Int} (inv:Int→Prop) (μ:Int→Nat) (h0:inv s95) (hs:∀(s95:Int),inv s95→kpe r0 (fun s95q=>inv s95q∧μ s95q<μ s95) s93 s94 h0_0 h0_1 h0_2 h0_3 h0_4 h0_5 h0_6 h0_7 h0_8 h0_9 h1_0 h1_1 h1_2 s95):Md.Loop (s93,s94,s95,h0_0,h0_1,h0_2,h0_3,h0_4,h0_5,h0_6,h0_7,h0_8,h0_9,h1_0,h1_1,h1_2,()) (k8q (r0,())):=
 ⟨⟨fun s:(List TSpent)×Int×Int×Int×Int×(List Int)×(List Int)×(List Int)×Int×Int×Int×Int×Int×(List TSpent)×(List TNote)×Int×Unit=>(s.1=s93∧s.2.1=s94∧s.2.2.2.1=h0_0∧s.2.2.2.2.1=h0_1∧s.2.2.2.2.2.1=h0_2∧s.2.2.2.2.2.2.1=h0_3∧s.2.2.2.2.2.2.2.1=h0_4∧s.2.2.2.2.2.2.2.2.1=h0_5∧s.2.2.2.2.2.2.2.2.2.1=h0_6∧s.2.2.2.2.2.2.2.2.2.2.1=h0_7∧s.2.2.2.2.2.2.2.2.2.2.2.1=h0_8∧s.2.2.2.2.2.2.2.2.2.2.2.2.1=h0_9∧s.2.2.2.2.2.2.2.2.2.2.2.2.2.1=h1_0∧s.2.2.2.2.2.2.2.2.2.2.2.2.2.2.1=h1_1∧s.2.2.2.2.2.2.2.2.2.2.2.2.2.2.2.1=h1_2)∧inv s.2.2.1,fun s:(List TSpent)×Int×Int×Int×Int×(List Int)×(List Int)×(List Int)×Int×Int×Int×Int×Int×(List TSpent)×(List TNote)×Int×Unit=>μ s.2.2.1,⟨⟨rfl,rfl,rfl,rfl,rfl,rfl,rfl,rfl,rfl,rfl,rfl,rfl,rfl,rfl,rfl⟩,h0⟩,fun(s93p,s94p,s95p,h0_0p,h0_1p,h0_2p,h0_3p,h0_4p,h0_5p,h0_6p,h0_7p,h0_8p,h0_9p,h1_0p,h1_1p,h1_2p,()) ⟨⟨eq0,eq1,eq2,eq3,eq4,eq5,eq6,eq7,eq8,eq9,eq10,eq11,eq12,eq13,eq14⟩,hi⟩=>by
  have eq0:s93p=s93:=eq0;subst s93p;have eq1:s94p=s94:=eq1;subst s94p;have eq2:h0_0p=h0_0:=eq2;subst h0_0p;have eq3:h0_1p=h0_1:=eq3;subst h0_1p;have eq4:h0_2p=h0_2:=eq4;subst h0_2p;have eq5:h0_3p=h0_3:=eq5;subst h0_3p;have eq6:h0_4p=h0_4:=eq6;subst h0_4p;have eq7:h0_5p=h0_5:=eq7;subst h0_5p;have eq8:h0_6p=h0_6:=eq8;subst h0_6p;have eq9:h0_7p=h0_7:=eq9;subst h0_7p;have eq10:h0_8p=h0_8:=eq10;subst h0_8p;have eq11:h0_9p=h0_9:=eq11;subst h0_9p;have eq12:h1_0p=h1_0:=eq12;subst h1_0p;have eq13:h1_1p=h1_1:=eq13;subst h1_1p;have eq14:h1_2p=h1_2:=eq14;subst h1_2p;exact mpr_of (by kernel_rfl) ((congrArg (fun k=>kpe r0 k s93 s94 h0_0 h0_1 h0_2 h0_3 h0_4 h0_5 h0_6 h0_7 h0_8 h0_9 h1_0 h1_1 h1_2 s95p) (lpk1 (⟨rfl,rfl,rfl,rfl,rfl,rfl,rfl,rfl,rfl,rfl,rfl,rfl,rfl,rfl,rfl⟩:s93=s93∧s94=s94∧h0_0=h0_0∧h0_1=h0_1∧h0_2=h0_2∧h0_3=h0_3∧h0_4=h0_4∧h0_5=h0_5∧h0_6=h0_6∧h0_7=h0_7∧h0_8=h0_8∧h0_9=h0_9∧h1_0=h1_0∧h1_1=h1_1∧h1_2=h1_2) inv (fun s95q=>μ s95q<μ s95p))).mpr (hs s95p hi))⟩⟩
theorem bd31:Callable Try.prog 31:=⟨by rw[Try.func31];kernel_rfl,by rw[Try.func31];show some _≠some _;decide⟩
theorem k10k (p0:TStatement) (p1:TWitness) (h:SR p0∧WR p1):ke1 (p0.Depth,p0.Anchor,p0.Marks,p0.Commits,p0.Rhos,p0.Deposit,p0.Withdraw,p0.Fee,p0.Account,p0.Bind,p1.Ins,p1.Outs,p1.Secret,()) (((relV p0 p1):Bool),()):=by
 obtain⟨hs,hw⟩:=h
 have l1:=hs.ml
 have l2:=hs.cl
 have l3:=hs.rl
 have l4:=hw.il
 have l5:=hw.ol
 have bad:∀b:Bool,(relV p0 p1=true→b=true)→b=false→false=relV p0 p1:=by
  intro b h hb
  cases hr:relV p0 p1 with
  |false=>rfl
  |true=>have:=h hr;rw[this]at hb;cases hb
 have hf:relV p0 p1=true↔(1≤p0.Depth∧p0.Depth≤12∧allB [p0.Anchor,p0.Account,p0.Bind,p1.Secret]=true∧p0.Deposit≤4294967295∧p0.Withdraw≤4294967295∧p0.Fee≤4294967295∧allB p0.Marks=true∧allB p0.Commits=true∧allB p0.Rhos=true∧p1.Ins.length=p0.Marks.length∧p1.Ins.length≤4∧p1.Outs.length=p0.Commits.length∧p1.Outs.length=p0.Rhos.length∧p1.Outs.length≤4∧p1.Ins.all (inV p0.Depth)=true∧p1.Outs.all noteV=true):=by
  unfold relV
  simp only[Bool.and_eq_true,decide_eq_true_eq,and_assoc]
 have no:¬(1≤p0.Depth∧p0.Depth≤12∧allB [p0.Anchor,p0.Account,p0.Bind,p1.Secret]=true∧p0.Deposit≤4294967295∧p0.Withdraw≤4294967295∧p0.Fee≤4294967295∧allB p0.Marks=true∧allB p0.Commits=true∧allB p0.Rhos=true∧p1.Ins.length=p0.Marks.length∧p1.Ins.length≤4∧p1.Outs.length=p0.Commits.length∧p1.Outs.length=p0.Rhos.length∧p1.Outs.length≤4∧p1.Ins.all (inV p0.Depth)=true∧p1.Outs.all noteV=true)→false=relV p0 p1:=by
  intro h
  cases hr:relV p0 p1 with
  |false=>rfl
  |true=>exact(h (hf.1 hr)).elim
 clear bad
 refine k15w ⟨fun h=>no fun a=> ?_,fun h1=>⟨fun h=>no fun a=> ?_,fun h2=>⟨by simp,fun h=>no fun a=> ?_,fun h3=>⟨fun h=>no fun a=> ?_,fun h4=>⟨fun h=>no fun a=> ?_,fun h5=>⟨fun h=>no fun a=> ?_,fun h6=>⟨by omega,fun h=>no fun a=> ?_,fun h7=>⟨by omega,fun h=>no fun a=> ?_,fun h8=>⟨by omega,fun h=>no fun a=> ?_,fun h9=>⟨fun h=>no fun a=> ?_,fun h10=>⟨fun h=>no fun a=> ?_,fun h11=>⟨fun h=>no fun a=> ?_,fun h12=>⟨fun h=>no fun a=> ?_,fun h13=>⟨fun h=>no fun a=> ?_,fun h14=> ?_⟩⟩⟩⟩⟩⟩⟩⟩⟩⟩⟩⟩⟩⟩
 ·have h:=of_decide_eq_true h;omega
 ·have h:=of_decide_eq_true h;omega
 ·rw[a.2.2.1]at h;cases h
 ·have h:=of_decide_eq_true h;omega
 ·have h:=of_decide_eq_true h;omega
 ·have h:=of_decide_eq_true h;omega
 ·rw[a.2.2.2.2.2.2.1]at h;cases h
 ·rw[a.2.2.2.2.2.2.2.1]at h;cases h
 ·rw[a.2.2.2.2.2.2.2.2.1]at h;cases h
 ·have h:¬(p1.Ins.length:Int)=p0.Marks.length:=by simpa using h
  omega
 ·have h:=of_decide_eq_true h;omega
 ·have h:¬(p1.Outs.length:Int)=p0.Commits.length:=by simpa using h
  omega
 ·have h:¬(p1.Outs.length:Int)=p0.Rhos.length:=by simpa using h
  omega
 ·have h:=of_decide_eq_true h;omega
 have h1:=of_decide_eq_false h1
 have h2:=of_decide_eq_false h2
 have h3:allB [p0.Anchor,p0.Account,p0.Bind,p1.Secret]=true:=by simpa using h3
 have h4:=of_decide_eq_false h4
 have h5:=of_decide_eq_false h5
 have h6:=of_decide_eq_false h6
 have h7:allB p0.Marks=true:=by simpa using h7
 have h8:allB p0.Commits=true:=by simpa using h8
 have h9:allB p0.Rhos=true:=by simpa using h9
 have h10:(p1.Ins.length:Int)=p0.Marks.length:=by simpa using h10
 have h11:=of_decide_eq_false h11
 have h12:(p1.Outs.length:Int)=p0.Commits.length:=by simpa using h12
 have h13:(p1.Outs.length:Int)=p0.Rhos.length:=by simpa using h13
 have h14:=of_decide_eq_false h14
 have hd:ishl .i64 1 p0.Depth=2^p0.Depth.toNat:=by
  have h0:0≤p0.Depth∧p0.Depth≤12:=by omega
  obtain⟨d,hd⟩:=Int.eq_ofNat_of_zero_le h0.1
  rw[hd]at h0 ⊢
  have h0:d≤12:=by omega
  have key:∀d:Nat,d≤12→ishl .i64 1 (d:Int)=2^d:=by decide +kernel
  exact key d h0
 refine k146 (AllI (inV p0.Depth) p1.Ins) (fun i=>(p1.Ins.length-i).toNat) AllI.start ?_
 intro i hi
 refine⟨fun hh=> ?_,fun hh=> ?_⟩
 ·have hh:=of_decide_eq_true hh
  have hx:=hw.i _ (ix_mem p1.Ins i hi.1 hh)
  have nb:inV p0.Depth (ix p1.Ins i)=false→false=relV p0 p1:=fun hb=>no fun a=>by
   rw[hi.bad hh hb]at a;exact absurd a.2.2.2.2.2.2.2.2.2.2.2.2.2.2.1 (by simp)
  refine⟨hi.1,hh,by have:=hx.pl;show(ix p1.Ins i).Path.length≤_;omega,fun e=>nb ?_,fun e=>⟨fun e2=>nb ?_,fun e2=>⟨by omega,fun e3=>nb ?_,fun e3=>hi.next hh (by omega) ?_⟩⟩⟩
  ·have e:spendV (ix p1.Ins i)=false:=by simpa using e
   simp[inV,e]
  ·have e2:¬((ix p1.Ins i).Path.length:Int)=p0.Depth:=by simpa using e2
   simp[inV,e2]
  ·have e3:=of_decide_eq_true e3
   rw[hd]at e3
   simp only[inV,Bool.and_eq_false_iff,decide_eq_false_iff_not]
   right;omega
  ·have e:spendV (ix p1.Ins i)=true:=by simpa using e
   have e2:((ix p1.Ins i).Path.length:Int)=p0.Depth:=by simpa using e2
   have e3:=of_decide_eq_false e3
   rw[hd]at e3
   simp only[inV,e,Bool.true_and,Bool.and_eq_true,decide_eq_true_eq]
   exact⟨e2,by omega⟩
 ·have ha:=hi.done (of_decide_eq_false hh)
  refine⟨by omega,?_⟩
  cases hn:p1.Outs.all noteV with
  |false=>exact no fun a=>by rw[hn]at a;exact absurd a.2.2.2.2.2.2.2.2.2.2.2.2.2.2.2 (by simp)
  |true=>exact(hf.2 ⟨by omega,by omega,h3,by omega,by omega,by omega,h7,h8,h9,by omega,by omega,by omega,by omega,by omega,ha,hn⟩).symm
def kfu:Con TB.den:=k1l.fnR (fun x=>(fun(p0:TStatement) (p1:TWitness)=>SR p0∧WR p1) (TStatement.mk x.1 x.2.1 x.2.2.1 x.2.2.2.1 x.2.2.2.2.1 x.2.2.2.2.2.1 x.2.2.2.2.2.2.1 x.2.2.2.2.2.2.2.1 x.2.2.2.2.2.2.2.2.1 x.2.2.2.2.2.2.2.2.2.1) (TWitness.mk x.2.2.2.2.2.2.2.2.2.2.1 x.2.2.2.2.2.2.2.2.2.2.2.1 x.2.2.2.2.2.2.2.2.2.2.2.2.1)) fun x=>((fun(p0:TStatement) (p1:TWitness)=>((relV p0 p1):Bool)) (TStatement.mk x.1 x.2.1 x.2.2.1 x.2.2.2.1 x.2.2.2.2.1 x.2.2.2.2.2.1 x.2.2.2.2.2.2.1 x.2.2.2.2.2.2.2.1 x.2.2.2.2.2.2.2.2.1 x.2.2.2.2.2.2.2.2.2.1) (TWitness.mk x.2.2.2.2.2.2.2.2.2.2.1 x.2.2.2.2.2.2.2.2.2.2.2.1 x.2.2.2.2.2.2.2.2.2.2.2.2.1),())
theorem kph:kfu.Ok Try.prog TB:=Con.ok_fn k1l bd31 fun x h=>k125 (k10k (TStatement.mk x.1 x.2.1 x.2.2.1 x.2.2.2.1 x.2.2.2.2.1 x.2.2.2.2.2.1 x.2.2.2.2.2.2.1 x.2.2.2.2.2.2.2.1 x.2.2.2.2.2.2.2.2.1 x.2.2.2.2.2.2.2.2.2.1) (TWitness.mk x.2.2.2.2.2.2.2.2.2.2.1 x.2.2.2.2.2.2.2.2.2.2.2.1 x.2.2.2.2.2.2.2.2.2.2.2.2.1) h)
def k2a:Con TB.den:=Con.mk0 101 [.one (.d (.int .u64)),.one (.d (.int .u64))] [] (.one (.one (.d (.int .u64)))) []
abbrev kts:=HL TB.den (hsT k2a.ins (hsOs k2a.pre))
abbrev keh:=HL TB.den (hsV k2a.res (hsOs k2a.post))
def ka0:Cx TB:=⟨inf,[keg],[],4,[]⟩
def kfh:Code:=Try.f101.body.getD .skip
def kiu:List ResultVar:=Try.f101.results.toList
def krs (o:keh):An TB:= .no
def kfm (x:kts) (o:keh):Prop:=WPh TB ka0 9 0 kfh (krs o) (k2a.st TB x) (retTQ TB ka0 k2a kiu o)
theorem k14y (o:keh):OblH TB ka0 9 0 kfh (krs o) (retTQ TB ka0 k2a kiu o):=
 OblH.ofC (X:=True) (by kernel_rfl) trivial
theorem k15v {x:kts} {o:keh} (h:kfm x o):k2a.Snd Try.prog x o:=
 Con.soundH (c:=k2a) (C:=ka0) TBok ⟨inf_ok,(all_cons kmr all_nil),all_nil⟩ mix Try.func101 (show Try.f101.body=some kfh by kernel_rfl) (show Try.f101.ntmps=9 by kernel_rfl) (show Try.f101.results.toList=kiu by kernel_rfl) rfl h (k14y o)
theorem k19h {p0:Int} {p1:Int} {r0:Int} (h:
(((18446744069414584321:Int)=18446744069414584321∧U64 (6:Int)∧Us [p0,p1]∧[p0,p1].length≤1099511627776)∧(hashS (6:Int) [p0,p1])=r0)):kfm (p0,p1,()) (r0,()):=WPh.of_eq (by kernel_rfl) h
theorem bd101:Callable Try.prog 101:=⟨by rw[Try.func101];kernel_rfl,by rw[Try.func101];show some _≠some _;decide⟩
theorem k13k (p0:Int) (p1:Int) (h:U64 p0∧U64 p1):kfm (p0,p1,()) (((hashS 6 [p0,p1]):Int),()):=by
 refine k19h ⟨⟨rfl,by decide,?_,by simp⟩,rfl⟩
 intro x hx
 simp only[List.mem_cons,List.not_mem_nil,or_false]at hx
 rcases hx with rfl|rfl
 ·exact h.1
 ·exact h.2
def kpv:Con TB.den:=k2a.fnR (fun x=>(fun(p0:Int) (p1:Int)=>U64 p0∧U64 p1) x.1 x.2.1) fun x=>((fun(p0:Int) (p1:Int)=>((hashS 6 [p0,p1]):Int)) x.1 x.2.1,())
theorem k18r:kpv.Ok Try.prog TB:=Con.ok_fn k2a bd101 fun x h=>k15v (k13k x.1 x.2.1 h)
def k19:Con TB.den:=Con.mk0 73 [.one (.d (.int .u64)),.one (.d (.int .i64)),.one (.d (.sl (.int .u64)))] [] (.one (.one (.d (.int .u64)))) []
abbrev ks1:=HL TB.den (hsT k19.ins (hsOs k19.pre))
abbrev k17:=HL TB.den (hsV k19.res (hsOs k19.post))
def k1z:Cx TB:=⟨inf,[kpv],[],4,[]⟩
def k4o:Code:=Try.f73.body.getD .skip
def k8x:List ResultVar:=Try.f73.results.toList
def k154 (o:k17):=qS TB k1z 60 0 (cB (cB (cB (cB (cB k4o))))) .no (retTQ TB k1z k19 k8x o)
def k5p:Tm:=⟨[],[],[1,9,40,41,42],[.one (.d (.int .i64)),.one (.d (.int .u64)),.one (.d (.sl (.int .u64))),.one (.d (.int .i64)),.one (.d (.int .i64))],0⟩
def k15q (o:k17) (nx2:NX TB k5p):=qM TB 0 k5p nx2 (blockT TB 2 (k154 o))
def k8w (o:k17) (nx2:NX TB k5p) (i:HL TB.den k5p.hs):Prop:=WP TB k1z 60 0 (cA (cA (cB (cA (cB (cB (cB (cB k4o)))))))) .no (k5p.fill TB i) (k15q o nx2)
def k152 (o:k17):An TB:= .lp [] k5p (k8w o) fun nx2=> .no
def kps (o:k17):An TB:= .nd [] .no [] (.nd [] (.nd [] .no [] (k152 o)) [] .no)
def k158 (o:k17):=qS TB k1z 60 0 (cB (cB (cB k4o))) (kps o) (retTQ TB k1z k19 k8x o)
def k5t:Tm:=⟨[],[],[0,1,2,30,31,32],[.one (.d (.int .u64)),.one (.d (.int .i64)),.one (.d (.sl (.int .u64))),.one (.d (.sl (.int .u64))),.one (.d (.int .i64)),.one (.d (.int .i64))],0⟩
def k15n (o:k17) (nx1:NX TB k5t):=qM TB 0 k5t nx1 (blockT TB 0 (k158 o))
def k8r (o:k17) (nx1:NX TB k5t) (i:HL TB.den k5t.hs):Prop:=WP TB k1z 60 0 (cA (cA (cB (cA (cB (cB k4o)))))) .no (k5t.fill TB i) (k15n o nx1)
def k12j (o:k17):An TB:= .lp [] k5t (k8r o) fun nx1=> .no
def k12h (o:k17):An TB:= .nd [] (.nd [] .no [] (k12j o)) [] (kps o)
def kq0 (o:k17):An TB:= .nd [] .no [] (.nd [] .no [] (k12h o))
def ke8 (x:ks1) (o:k17):Prop:=WPh TB k1z 60 0 k4o (kq0 o) (k19.st TB x) (retTQ TB k1z k19 k8x o)
theorem k12f (o:k17):OblH TB k1z 60 0 k4o (kq0 o) (retTQ TB k1z k19 k8x o):=
 OblH.ofC (X:=((∀nx i,(k8r o) nx i=(k8r o) nx i)∧(∀nx1:NX TB k5t,True)∧(∀nx i,(k8w o) nx i=(k8w o) nx i)∧(∀nx2:NX TB k5p,True)∧True)) (by kernel_rfl) ⟨fun _ _=>rfl,fun _=>trivial,fun _ _=>rfl,fun _=>trivial,trivial⟩
theorem k14s {x:ks1} {o:k17} (h:ke8 x o):k19.Snd Try.prog x o:=
 Con.soundH (c:=k19) (C:=k1z) TBok ⟨inf_ok,(all_cons k18r all_nil),all_nil⟩ mix Try.func73 (show Try.f73.body=some k4o by kernel_rfl) (show Try.f73.ntmps=60 by kernel_rfl) (show Try.f73.results.toList=k8x by kernel_rfl) rfl h (k12f o)
theorem k15f {p0:Int} {p1:Int} {p2:List Int} {r0:Int} (h:
((decide (12<(p2.length:Int))=true→
0=r0)∧
(decide (12<(p2.length:Int))=false→
(decide (p1<0)=true→
0=r0)∧
(decide (p1<0)=false→
(0≤(p2.length:Int))∧let v1:Bool:=decide ((ishl .i64 1 (p2.length:Int))≤p1)
(v1=true→
0=r0)∧
(v1=false→
(decide (18446744069414584321≤p0)=true→
0=r0)∧
(decide (18446744069414584321≤p0)=false→
Md.Loop (p0,p1,p2,p2,((p2.length:Int):Int),(0:Int),()) (k8r (r0,())))))))):ke8 (p0,p1,p2,()) (r0,()):=WPh.of_eq (by kernel_rfl) h
def kq4 (r0:Int) (k1:Int→Prop) (s0:Int) (s1:Int) (s2:List Int) (s30:List Int) (s31:Int) (s32:Int):Prop:=
(decide (s32<s31)=true→
(0≤s32)∧s32<(s30.length:Int)∧let v2:Bool:=decide (18446744069414584321≤(ix s30 s32))
(v2=true→
0=r0)∧
(v2=false→
k1 (IntKind.i64.wrap (s32+1):Int)))∧
(decide (s32<s31)=false→
Md.Loop (s1,s0,s2,((s2.length:Int):Int),(0:Int),()) (k8w (r0,())))
theorem k137 {r0:Int} {s0:Int} {s1:Int} {s2:List Int} {s30:List Int} {s31:Int} {s32:Int} (inv:Int→Prop) (μ:Int→Nat) (h0:inv s32) (hs:∀(s32:Int),inv s32→kq4 r0 (fun s32q=>inv s32q∧μ s32q<μ s32) s0 s1 s2 s30 s31 s32):Md.Loop (s0,s1,s2,s30,s31,s32,()) (k8r (r0,())):=
 ⟨⟨fun s:Int×Int×(List Int)×(List Int)×Int×Int×Unit=>(s.1=s0∧s.2.1=s1∧s.2.2.1=s2∧s.2.2.2.1=s30∧s.2.2.2.2.1=s31)∧inv s.2.2.2.2.2.1,fun s:Int×Int×(List Int)×(List Int)×Int×Int×Unit=>μ s.2.2.2.2.2.1,⟨⟨rfl,rfl,rfl,rfl,rfl⟩,h0⟩,fun(s0p,s1p,s2p,s30p,s31p,s32p,()) ⟨⟨eq0,eq1,eq2,eq3,eq4⟩,hi⟩=>by
  have eq0:s0p=s0:=eq0;subst s0p;have eq1:s1p=s1:=eq1;subst s1p;have eq2:s2p=s2:=eq2;subst s2p;have eq3:s30p=s30:=eq3;subst s30p;have eq4:s31p=s31:=eq4;subst s31p;exact mpr_of (by kernel_rfl) ((congrArg (fun k=>kq4 r0 k s0 s1 s2 s30 s31 s32p) (lpk1 (⟨rfl,rfl,rfl,rfl,rfl⟩:s0=s0∧s1=s1∧s2=s2∧s30=s30∧s31=s31) inv (fun s32q=>μ s32q<μ s32p))).mpr (hs s32p hi))⟩⟩
def kpq (r0:Int) (k2:Int→Int→Prop) (s1:Int) (s40:List Int) (s41:Int) (s9:Int) (s42:Int):Prop:=
(decide (s42<s41)=true→
(0≤s42)∧s42<(s40.length:Int)∧(0≤s42)∧(((iand .i64 (ishr .i64 s1 s42) 1)==0)=true→
(U64 s9∧U64 (ix s40 s42))∧k2 ((hashS 6 [s9,(ix s40 s42)]):Int) (IntKind.i64.wrap (s42+1):Int))∧
(((iand .i64 (ishr .i64 s1 s42) 1)==0)=false→
(U64 (ix s40 s42)∧U64 s9)∧k2 ((hashS 6 [(ix s40 s42),s9]):Int) (IntKind.i64.wrap (s42+1):Int)))∧
(decide (s42<s41)=false→
s9=r0)
theorem k12v {r0:Int} {s1:Int} {s40:List Int} {s41:Int} {s9:Int} {s42:Int} (inv:Int→Int→Prop) (μ:Int→Int→Nat) (h0:inv s9 s42) (hs:∀(s9:Int) (s42:Int),inv s9 s42→kpq r0 (fun s9q s42q=>inv s9q s42q∧μ s9q s42q<μ s9 s42) s1 s40 s41 s9 s42):Md.Loop (s1,s9,s40,s41,s42,()) (k8w (r0,())):=
 ⟨⟨fun s:Int×Int×(List Int)×Int×Int×Unit=>(s.1=s1∧s.2.2.1=s40∧s.2.2.2.1=s41)∧inv s.2.1 s.2.2.2.2.1,fun s:Int×Int×(List Int)×Int×Int×Unit=>μ s.2.1 s.2.2.2.2.1,⟨⟨rfl,rfl,rfl⟩,h0⟩,fun(s1p,s9p,s40p,s41p,s42p,()) ⟨⟨eq0,eq1,eq2⟩,hi⟩=>by
  have eq0:s1p=s1:=eq0;subst s1p;have eq1:s40p=s40:=eq1;subst s40p;have eq2:s41p=s41:=eq2;subst s41p;exact mpr_of (by kernel_rfl) ((congrArg (fun k=>kpq r0 k s1 s40 s41 s9p s42p) (lpk2 (⟨rfl,rfl,rfl⟩:s1=s1∧s40=s40∧s41=s41) inv (fun s9q s42q=>μ s9q s42q<μ s9p s42p))).mpr (hs s9p s42p hi))⟩⟩
theorem bd73:Callable Try.prog 73:=⟨by rw[Try.func73];kernel_rfl,by rw[Try.func73];show some _≠some _;decide⟩
theorem k10h (p0:Int) (p1:Int) (p2:List Int) (h:U64 p0∧Us p2∧p2.length≤1073741824∧p1≤9223372036854775807):ke8 (p0,p1,p2,()) (((climbS p0 p1 p2):Int),()):=by
 obtain⟨h0,h2,h3,h4⟩:=h
 have sh:∀d:Nat,d≤12→ishl .i64 1 (d:Int)=2^d:=by decide +kernel
 refine k15f ⟨fun e=> ?_,fun e=>⟨fun e2=> ?_,fun e2=>⟨by omega,fun e3=> ?_,fun e3=>⟨fun e4=> ?_,fun e4=> ?_⟩⟩⟩⟩
 ·have e:=of_decide_eq_true e
  unfold climbS
  rw[if_neg (by omega)]
 ·have e2:=of_decide_eq_true e2
  unfold climbS
  rw[if_neg (by omega)]
 ·have e:=of_decide_eq_false e
  have e3:=of_decide_eq_true e3
  rw[sh _ (by omega)]at e3
  unfold climbS
  rw[if_neg (fun a=>by have:=a.2.2.1;omega)]
 ·have e4:=of_decide_eq_true e4
  unfold climbS
  rw[if_neg (by omega)]
 have e:=of_decide_eq_false e
 have e2:=of_decide_eq_false e2
 have e3:=of_decide_eq_false e3
 have e4:=of_decide_eq_false e4
 rw[sh _ (by omega)]at e3
 refine k137 (AllI (fun x=>decide (x<18446744069414584321)) p2) (fun i=>(p2.length-i).toNat) AllI.start ?_
 intro i hi
 refine⟨fun hh=> ?_,fun hh=> ?_⟩
 ·have hh:=of_decide_eq_true hh
  refine⟨hi.1,hh,fun e5=> ?_,fun e5=>hi.next hh (by omega) (by simpa using e5)⟩
  have hb:allB p2=false:=hi.bad hh (by simpa using e5)
  unfold climbS
  rw[if_neg (fun a=>by rw[hb]at a;exact absurd a.2.2.2.2 (by simp))]
 ·have ha:allB p2=true:=hi.done (of_decide_eq_false hh)
  have hc:climbS p0 p1 p2=climbL p0 p1 p2:=by
   unfold climbS
   rw[if_pos ⟨by omega,by omega,by omega,by omega,ha⟩]
  rw[hc]
  have hpos:p1<4096:=by
   have h1:(2:Int)^p2.length≤2^12:=by exact_mod_cast Nat.pow_le_pow_right (by omega) (by omega)
   omega
  refine k12v (fun d i=>0≤i∧i≤p2.length∧U64 d∧climbL d (p1/2^i.toNat) (p2.drop i.toNat)=climbL p0 p1 p2) (fun d i=>(p2.length-i).toNat) ⟨by omega,by omega,h0,by simp⟩ ?_
  rintro d i ⟨g0,g1,g2,g3⟩
  refine⟨fun hh=> ?_,fun hh=> ?_⟩
  ·have hh:=of_decide_eq_true hh
   have hx:=h2 _ (ix_mem p2 i g0 hh)
   rw[drop_ix p2 i g0 hh]at g3
   have nx:=inc i p2.length g0 hh (by omega)
   have hq:p1/2^i.toNat/2=p1/2^(i+1).toNat:=by
    rw[show(i+1).toNat=i.toNat+1 by omega,Int.pow_succ,Int.ediv_ediv_of_nonneg (Int.le_of_lt (Int.pow_pos (by omega)))]
   have hbit:iand .i64 (ishr .i64 p1 i) 1=p1/2^i.toNat%2:=by
    have hs:ishr .i64 p1 i=p1/2^i.toNat:=by
     rw[kii,show min i.toNat IntKind.i64.bits=i.toNat from Nat.min_eq_left (by show i.toNat≤64;omega)]
     simp
    rw[hs]
    have hb0:0≤p1/2^i.toNat:=Int.ediv_nonneg (by omega) (Int.le_of_lt (Int.pow_pos (by omega)))
    have hb1:p1/2^i.toNat≤p1:=Int.ediv_le_self _ (by omega)
    exact k1jm _ ⟨hb0,by omega⟩
   rw[hbit]
   have g3:climbL (if p1/2^i.toNat%2=0 then hashS 6 [d,ix p2 i]else hashS 6 [ix p2 i,d]) (p1/2^i.toNat/2) (p2.drop (i+1).toNat)=climbL p0 p1 p2:=g3
   rw[hq]at g3
   refine⟨g0,hh,g0,fun hb=> ?_,fun hb=> ?_⟩
   ·have hb:p1/2^i.toNat%2=0:=by simpa using hb
    rw[if_pos hb]at g3
    rw[nx]
    exact⟨⟨g2,hx⟩,⟨by omega,by omega,koa _ _,g3⟩,by omega⟩
   ·have hb:¬p1/2^i.toNat%2=0:=by simpa using hb
    rw[if_neg hb]at g3
    rw[nx]
    exact⟨⟨hx,g2⟩,⟨by omega,by omega,koa _ _,g3⟩,by omega⟩
  ·have hh:=of_decide_eq_false hh
   rw[List.drop_eq_nil_of_le (by omega)]at g3
   exact g3
def ko1:Con TB.den:=k19.fnR (fun x=>(fun(p0:Int) (p1:Int) (p2:List Int)=>U64 p0∧Us p2∧p2.length≤1073741824∧p1≤9223372036854775807) x.1 x.2.1 x.2.2.1) fun x=>((fun(p0:Int) (p1:Int) (p2:List Int)=>((climbS p0 p1 p2):Int)) x.1 x.2.1 x.2.2.1,())
theorem k167:ko1.Ok Try.prog TB:=Con.ok_fn k19 bd73 fun x h=>k14s (k10h x.1 x.2.1 x.2.2.1 h)
def k2b:Con TB.den:=Con.mk0 100 [.one (.d (.int .i64))] [] (.one (.one (.d (.bool)))) []
abbrev ktb:=HL TB.den (hsT k2b.ins (hsOs k2b.pre))
abbrev kei:=HL TB.den (hsV k2b.res (hsOs k2b.post))
def k9n:Cx TB:=⟨inf,[],[],4,[]⟩
def kg0:Code:=Try.f100.body.getD .skip
def kiz:List ResultVar:=Try.f100.results.toList
def kr2 (o:kei):An TB:= .no
def kf8 (x:ktb) (o:kei):Prop:=WPh TB k9n 9 0 kg0 (kr2 o) (k2b.st TB x) (retTQ TB k9n k2b kiz o)
theorem k15o (o:kei):OblH TB k9n 9 0 kg0 (kr2 o) (retTQ TB k9n k2b kiz o):=
 OblH.ofC (X:=True) (by kernel_rfl) trivial
theorem k15e {x:ktb} {o:kei} (h:kf8 x o):k2b.Snd Try.prog x o:=
 Con.soundH (c:=k2b) (C:=k9n) TBok ⟨inf_ok,all_nil,all_nil⟩ mix Try.func100 (show Try.f100.body=some kg0 by kernel_rfl) (show Try.f100.ntmps=9 by kernel_rfl) (show Try.f100.results.toList=kiz by kernel_rfl) rfl h (k15o o)
theorem k19k {p0:Int} {r0:Bool} (h:
((decide (0≤p0)=true→
decide (p0<4)=r0)∧
(decide (0≤p0)=false→
false=r0))):kf8 (p0,()) (r0,()):=WPh.of_eq (by kernel_rfl) h
theorem bd100:Callable Try.prog 100:=⟨by rw[Try.func100];kernel_rfl,by rw[Try.func100];show some _≠some _;decide⟩
theorem k135 (p0:Int):kf8 (p0,()) (((decide (0≤p0)&&decide (p0<4)):Bool),()):=by
 refine k19k ?_
 grind
def kpd:Con TB.den:=k2b.totR fun x=>((fun(p0:Int)=>((decide (0≤p0)&&decide (p0<4)):Bool)) x.1,())
theorem k18a:kpd.Ok Try.prog TB:=Con.ok_tot k2b bd100 fun x=>k15e (k135 x.1)
def k4f:Con TB.den:=Con.mk0 71 [.one (.d (.int .u64)),.one (.d (.int .i64))] [] (.one (.one (.d (.int .u64)))) []
abbrev k12x:=HL TB.den (hsT k4f.ins (hsOs k4f.pre))
abbrev kkh:=HL TB.den (hsV k4f.res (hsOs k4f.post))
def kdm:Cx TB:=⟨inf,[kpd,koy],[],4,[]⟩
def kl3:Code:=Try.f71.body.getD .skip
def kos:List ResultVar:=Try.f71.results.toList
def kzw (o:kkh):An TB:= .no
def kkc (x:k12x) (o:kkh):Prop:=WPh TB kdm 13 0 kl3 (kzw o) (k4f.st TB x) (retTQ TB kdm k4f kos o)
theorem k1co (o:kkh):OblH TB kdm 13 0 kl3 (kzw o) (retTQ TB kdm k4f kos o):=
 OblH.ofC (X:=True) (by kernel_rfl) trivial
theorem k1es {x:k12x} {o:kkh} (h:kkc x o):k4f.Snd Try.prog x o:=
 Con.soundH (c:=k4f) (C:=kdm) TBok ⟨inf_ok,(all_cons k18a (all_cons k13x all_nil)),all_nil⟩ mix Try.func71 (show Try.f71.body=some kl3 by kernel_rfl) (show Try.f71.ntmps=13 by kernel_rfl) (show Try.f71.results.toList=kos by kernel_rfl) rfl h (k1co o)
theorem k1g2 {p0:Int} {p1:Int} {r0:Int} (h:
(((!(decide (0≤p1)&&decide (p1<4)))=true→
0=r0)∧
((!(decide (0≤p1)&&decide (p1<4)))=false→
(U64 (1:Int)∧Us [p0,IntKind.u64.wrap p1]∧[p0,IntKind.u64.wrap p1].length≤1099511627776)∧let r1:Int:=(hashS (1:Int) [p0,IntKind.u64.wrap p1])
r1=r0))):kkc (p0,p1,()) (r0,()):=WPh.of_eq (by kernel_rfl) h
theorem bd71:Callable Try.prog 71:=⟨by rw[Try.func71];kernel_rfl,by rw[Try.func71];show some _≠some _;decide⟩
theorem k1c8 (p0:Int) (p1:Int) (h:U64 p0∧-9223372036854775808≤p1∧p1≤9223372036854775807):kkc (p0,p1,()) (((ownerS p0 p1):Int),()):=by
 obtain⟨h0,h1,h2⟩:=h
 refine k1g2 ⟨fun e=> ?_,fun e=> ?_⟩
 ·unfold ownerS
  rw[if_neg (by simp at e;omega)]
 ·have e:0≤p1∧p1<4:=by simpa using e
  rw[wu p1 (by omega) (by omega)]
  refine⟨⟨by decide,?_,by simp⟩,?_⟩
  ·intro x hx
   simp only[List.mem_cons,List.not_mem_nil,or_false]at hx
   rcases hx with rfl|rfl
   ·exact h0
   ·omega
  ·unfold ownerS
   rw[if_pos e]
def kwf:Con TB.den:=k4f.fnR (fun x=>(fun(p0:Int) (p1:Int)=>U64 p0∧-9223372036854775808≤p1∧p1≤9223372036854775807) x.1 x.2.1) fun x=>((fun(p0:Int) (p1:Int)=>((ownerS p0 p1):Int)) x.1 x.2.1,())
theorem k1hb:kwf.Ok Try.prog TB:=Con.ok_fn k4f bd71 fun x h=>k1es (k1c8 x.1 x.2.1 h)
def k2l:Con TB.den:=Con.mk0 72 [.one (.ptr 0 0),.one (.d (.int .u64)),.one (.d (.int .u64))] [.cells [.d (.bool),.d (.int .u64),.d (.int .i64),.d (.sl (.st 3)),.mp 1,.mp 2,.mp 3],.map (.str) (.int .i64),.map (.str) (.sl (.int .u64)),.map (.str) (.bool)] (.tup [.one (.d (.int .u64)),.one (.d (.bool))]) [.cells [.d (.bool),.d (.int .u64),.d (.int .i64),.d (.sl (.st 3)),.mp 1,.mp 2,.mp 3],.map (.str) (.int .i64),.map (.str) (.sl (.int .u64)),.map (.str) (.bool)]
abbrev k103:=HL TB.den (hsT k2l.ins (hsOs k2l.pre))
abbrev k76:=HL TB.den (hsV k2l.res (hsOs k2l.post))
def k6l:Cx TB:=⟨inf,[kkr],[],4,[]⟩
def k9y:Code:=Try.f72.body.getD .skip
def kg8:List ResultVar:=Try.f72.results.toList
def k1cw (o:k76):=qS TB k6l 21 4 (cB (cB k9y)) .no (retTQ TB k6l k2l kg8 o)
def kej:Tm:=⟨[0,1,2,3],[.cells [.d (.bool),.d (.int .u64),.d (.int .i64),.d (.sl (.st 3)),.mp 1,.mp 2,.mp 3],.map (.str) (.int .i64),.map (.str) (.sl (.int .u64)),.map (.str) (.bool)],[0,1,2,13],[.one (.ptr 0 0),.one (.d (.int .u64)),.one (.d (.int .u64)),.one (.d (.bool))],4⟩
def kt2 (o:k76) (i:HL TB.den kej.hs):Prop:=ghs TB [] (kej.fill TB i) fun s=>WP TB k6l 21 4 (cB (cA (cB k9y))) .no s (k1cw o)
structure k9j (o:k76) (i:HL TB.den kej.hs):Prop where
 h:kt2 o i
def k1ed (o:k76):An TB:= .nd [] (.jn kej (k9j o) [] .no [] .no) [] .no
def kvm (o:k76):An TB:= .nd [] .no [] (k1ed o)
def kj7 (x:k103) (o:k76):Prop:=WPh TB k6l 21 4 k9y (kvm o) (k2l.st TB x) (retTQ TB k6l k2l kg8 o)
theorem k1cd (o:k76):OblH TB k6l 21 4 k9y (kvm o) (retTQ TB k6l k2l kg8 o):=
 OblH.ofC (X:=((∀i,(k9j o) i=kt2 o i)∧True)) (by kernel_rfl) ⟨fun _=>propext ⟨fun h=>h.1,fun h=>⟨h⟩⟩,trivial⟩
theorem k1bu {x:k103} {o:k76} (h:kj7 x o):k2l.Snd Try.prog x o:=
 Con.soundH (c:=k2l) (C:=k6l) TBok ⟨inf_ok,(all_cons kwu all_nil),all_nil⟩ mix Try.func72 (show Try.f72.body=some k9y by kernel_rfl) (show Try.f72.ntmps=21 by kernel_rfl) (show Try.f72.results.toList=kg8 by kernel_rfl) rfl h (k1cd o)
theorem k1ew {p1:Int} {p2:Int} {c0_0:Bool} {c0_1:Int} {c0_2:Int} {c0_3:List TQuestion} {w1k:List ByteArray} {w1v:List Int} {w2k:List ByteArray} {w2v:List (List Int)} {w3k:List ByteArray} {w3v:List Bool} {r0:Int} {r1:Bool} {d0_0:Bool} {d0_1:Int} {d0_2:Int} {d0_3:List TQuestion} {e1k:List ByteArray} {e1v:List Int} {e2k:List ByteArray} {e2v:List (List Int)} {e3k:List ByteArray} {e3v:List Bool} (h:
((decide (18446744069414584321≤p1)=true→
k9j (r0,r1,d0_0,d0_1,d0_2,d0_3,e1k,e1v,e2k,e2v,e3k,e3v,()) (p1,p2,true,c0_0,c0_1,c0_2,c0_3,w1k,w1v,w2k,w2v,w3k,w3v,()))∧
(decide (18446744069414584321≤p1)=false→
k9j (r0,r1,d0_0,d0_1,d0_2,d0_3,e1k,e1v,e2k,e2v,e3k,e3v,()) (p1,p2,(decide (18446744069414584321≤p2):Bool),c0_0,c0_1,c0_2,c0_3,w1k,w1v,w2k,w2v,w3k,w3v,())))):kj7 (p1,p2,c0_0,c0_1,c0_2,c0_3,w1k,w1v,w2k,w2v,w3k,w3v,()) (r0,r1,d0_0,d0_1,d0_2,d0_3,e1k,e1v,e2k,e2v,e3k,e3v,()):=WPh.of_eq (by kernel_rfl) h
theorem k165 {r0:Int} {r1:Bool} {d0_0:Bool} {d0_1:Int} {d0_2:Int} {d0_3:List TQuestion} {e1k:List ByteArray} {e1v:List Int} {e2k:List ByteArray} {e2v:List (List Int)} {e3k:List ByteArray} {e3v:List Bool} {s1:Int} {s2:Int} {s13:Bool} {h0_0:Bool} {h0_1:Int} {h0_2:Int} {h0_3:List TQuestion} {g1k:List ByteArray} {g1v:List Int} {g2k:List ByteArray} {g2v:List (List Int)} {g3k:List ByteArray} {g3v:List Bool} (h:
((s13=true→
0=r0∧false=r1∧h0_0=d0_0∧h0_1=d0_1∧h0_2=d0_2∧h0_3=d0_3∧g1k=e1k∧g1v=e1v∧g2k=e2k∧g2v=e2v∧g3k=e3k∧g3v=e3v)∧
(s13=false→
(U64 (3:Int)∧Us [s1,s2]∧[s1,s2].length≤1073741824∧OrOk g1k g1v h0_3)∧let r2:Int:=((pk h0_0 h0_3 g1k g1v (3:Int) [s1,s2]).getD 0)
let r3:Bool:=((pk h0_0 h0_3 g1k g1v (3:Int) [s1,s2]).isSome)
r2=r0∧r3=r1∧h0_0=d0_0∧h0_1=d0_1∧h0_2=d0_2∧h0_3=d0_3∧g1k=e1k∧g1v=e1v∧g2k=e2k∧g2v=e2v∧g3k=e3k∧g3v=e3v))):k9j (r0,r1,d0_0,d0_1,d0_2,d0_3,e1k,e1v,e2k,e2v,e3k,e3v,()) (s1,s2,s13,h0_0,h0_1,h0_2,h0_3,g1k,g1v,g2k,g2v,g3k,g3v,()):=⟨mpr_of (by kernel_rfl) h⟩
theorem bd72:Callable Try.prog 72:=⟨by rw[Try.func72];kernel_rfl,by rw[Try.func72];show some _≠some _;decide⟩
theorem k193 (p1:Int) (p2:Int) (c0_0:Bool) (c0_1:Int) (c0_2:Int) (c0_3:List TQuestion) (w1k:List ByteArray) (w1v:List Int) (w2k:List ByteArray) (w2v:List (List Int)) (w3k:List ByteArray) (w3v:List Bool) (h:U64 p1∧U64 p2∧OrOk w1k w1v c0_3):kj7 (p1,p2,c0_0,c0_1,c0_2,c0_3,w1k,w1v,w2k,w2v,w3k,w3v,()) ((((markP (pk c0_0 c0_3 w1k w1v) p1 p2).getD 0):Int),(((markP (pk c0_0 c0_3 w1k w1v) p1 p2).isSome):Bool),(c0_0:Bool),(c0_1:Int),(c0_2:Int),(c0_3:List TQuestion),(w1k:List ByteArray),(w1v:List Int),(w2k:List ByteArray),(w2v:List (List Int)),(w3k:List ByteArray),(w3v:List Bool),()):=by
 obtain⟨h1,h2,ho⟩:=h
 have j1:∀s:Bool,s=decide (¬(p1<18446744069414584321∧p2<18446744069414584321))→k9j (((markP (pk c0_0 c0_3 w1k w1v) p1 p2).getD 0:Int),((markP (pk c0_0 c0_3 w1k w1v) p1 p2).isSome:Bool),c0_0,c0_1,c0_2,c0_3,w1k,w1v,w2k,w2v,w3k,w3v,()) (p1,p2,s,c0_0,c0_1,c0_2,c0_3,w1k,w1v,w2k,w2v,w3k,w3v,()):=by
  intro s hs
  refine k165 ⟨fun e=> ?_,fun e=> ?_⟩
  ·rw[e]at hs
   have hs:=of_decide_eq_true hs.symm
   unfold markP
   rw[if_neg hs]
   simp
  ·rw[e]at hs
   have hs:p1<18446744069414584321∧p2<18446744069414584321:=by simpa using hs.symm
   unfold markP
   rw[if_pos hs]
   refine⟨⟨by decide,?_,by simp,ho⟩,?_⟩
   ·intro x hx
    simp only[List.mem_cons,List.not_mem_nil,or_false]at hx
    rcases hx with rfl|rfl
    ·exact h1
    ·exact h2
   ·simp
 refine k1ew ⟨fun e=>j1 _ ?_,fun e=>j1 _ ?_⟩
 ·have e:=of_decide_eq_true e
  symm;apply decide_eq_true;omega
 ·have e:=of_decide_eq_false e
  congr 1;apply propext;omega
def kt7:Con TB.den:=k2l.fnR (fun x=>(fun(p1:Int) (p2:Int) (c0_0:Bool) (c0_1:Int) (c0_2:Int) (c0_3:List TQuestion) (w1k:List ByteArray) (w1v:List Int) (w2k:List ByteArray) (w2v:List (List Int)) (w3k:List ByteArray) (w3v:List Bool)=>U64 p1∧U64 p2∧OrOk w1k w1v c0_3) x.1 x.2.1 x.2.2.1 x.2.2.2.1 x.2.2.2.2.1 x.2.2.2.2.2.1 x.2.2.2.2.2.2.1 x.2.2.2.2.2.2.2.1 x.2.2.2.2.2.2.2.2.1 x.2.2.2.2.2.2.2.2.2.1 x.2.2.2.2.2.2.2.2.2.2.1 x.2.2.2.2.2.2.2.2.2.2.2.1) fun x=>((fun(p1:Int) (p2:Int) (c0_0:Bool) (c0_1:Int) (c0_2:Int) (c0_3:List TQuestion) (w1k:List ByteArray) (w1v:List Int) (w2k:List ByteArray) (w2v:List (List Int)) (w3k:List ByteArray) (w3v:List Bool)=>(((markP (pk c0_0 c0_3 w1k w1v) p1 p2).getD 0):Int)) x.1 x.2.1 x.2.2.1 x.2.2.2.1 x.2.2.2.2.1 x.2.2.2.2.2.1 x.2.2.2.2.2.2.1 x.2.2.2.2.2.2.2.1 x.2.2.2.2.2.2.2.2.1 x.2.2.2.2.2.2.2.2.2.1 x.2.2.2.2.2.2.2.2.2.2.1 x.2.2.2.2.2.2.2.2.2.2.2.1,(fun(p1:Int) (p2:Int) (c0_0:Bool) (c0_1:Int) (c0_2:Int) (c0_3:List TQuestion) (w1k:List ByteArray) (w1v:List Int) (w2k:List ByteArray) (w2v:List (List Int)) (w3k:List ByteArray) (w3v:List Bool)=>(((markP (pk c0_0 c0_3 w1k w1v) p1 p2).isSome):Bool)) x.1 x.2.1 x.2.2.1 x.2.2.2.1 x.2.2.2.2.1 x.2.2.2.2.2.1 x.2.2.2.2.2.2.1 x.2.2.2.2.2.2.2.1 x.2.2.2.2.2.2.2.2.1 x.2.2.2.2.2.2.2.2.2.1 x.2.2.2.2.2.2.2.2.2.2.1 x.2.2.2.2.2.2.2.2.2.2.2.1,(fun(p1:Int) (p2:Int) (c0_0:Bool) (c0_1:Int) (c0_2:Int) (c0_3:List TQuestion) (w1k:List ByteArray) (w1v:List Int) (w2k:List ByteArray) (w2v:List (List Int)) (w3k:List ByteArray) (w3v:List Bool)=>(c0_0:Bool)) x.1 x.2.1 x.2.2.1 x.2.2.2.1 x.2.2.2.2.1 x.2.2.2.2.2.1 x.2.2.2.2.2.2.1 x.2.2.2.2.2.2.2.1 x.2.2.2.2.2.2.2.2.1 x.2.2.2.2.2.2.2.2.2.1 x.2.2.2.2.2.2.2.2.2.2.1 x.2.2.2.2.2.2.2.2.2.2.2.1,(fun(p1:Int) (p2:Int) (c0_0:Bool) (c0_1:Int) (c0_2:Int) (c0_3:List TQuestion) (w1k:List ByteArray) (w1v:List Int) (w2k:List ByteArray) (w2v:List (List Int)) (w3k:List ByteArray) (w3v:List Bool)=>(c0_1:Int)) x.1 x.2.1 x.2.2.1 x.2.2.2.1 x.2.2.2.2.1 x.2.2.2.2.2.1 x.2.2.2.2.2.2.1 x.2.2.2.2.2.2.2.1 x.2.2.2.2.2.2.2.2.1 x.2.2.2.2.2.2.2.2.2.1 x.2.2.2.2.2.2.2.2.2.2.1 x.2.2.2.2.2.2.2.2.2.2.2.1,(fun(p1:Int) (p2:Int) (c0_0:Bool) (c0_1:Int) (c0_2:Int) (c0_3:List TQuestion) (w1k:List ByteArray) (w1v:List Int) (w2k:List ByteArray) (w2v:List (List Int)) (w3k:List ByteArray) (w3v:List Bool)=>(c0_2:Int)) x.1 x.2.1 x.2.2.1 x.2.2.2.1 x.2.2.2.2.1 x.2.2.2.2.2.1 x.2.2.2.2.2.2.1 x.2.2.2.2.2.2.2.1 x.2.2.2.2.2.2.2.2.1 x.2.2.2.2.2.2.2.2.2.1 x.2.2.2.2.2.2.2.2.2.2.1 x.2.2.2.2.2.2.2.2.2.2.2.1,(fun(p1:Int) (p2:Int) (c0_0:Bool) (c0_1:Int) (c0_2:Int) (c0_3:List TQuestion) (w1k:List ByteArray) (w1v:List Int) (w2k:List ByteArray) (w2v:List (List Int)) (w3k:List ByteArray) (w3v:List Bool)=>(c0_3:List TQuestion)) x.1 x.2.1 x.2.2.1 x.2.2.2.1 x.2.2.2.2.1 x.2.2.2.2.2.1 x.2.2.2.2.2.2.1 x.2.2.2.2.2.2.2.1 x.2.2.2.2.2.2.2.2.1 x.2.2.2.2.2.2.2.2.2.1 x.2.2.2.2.2.2.2.2.2.2.1 x.2.2.2.2.2.2.2.2.2.2.2.1,(fun(p1:Int) (p2:Int) (c0_0:Bool) (c0_1:Int) (c0_2:Int) (c0_3:List TQuestion) (w1k:List ByteArray) (w1v:List Int) (w2k:List ByteArray) (w2v:List (List Int)) (w3k:List ByteArray) (w3v:List Bool)=>(w1k:List ByteArray)) x.1 x.2.1 x.2.2.1 x.2.2.2.1 x.2.2.2.2.1 x.2.2.2.2.2.1 x.2.2.2.2.2.2.1 x.2.2.2.2.2.2.2.1 x.2.2.2.2.2.2.2.2.1 x.2.2.2.2.2.2.2.2.2.1 x.2.2.2.2.2.2.2.2.2.2.1 x.2.2.2.2.2.2.2.2.2.2.2.1,(fun(p1:Int) (p2:Int) (c0_0:Bool) (c0_1:Int) (c0_2:Int) (c0_3:List TQuestion) (w1k:List ByteArray) (w1v:List Int) (w2k:List ByteArray) (w2v:List (List Int)) (w3k:List ByteArray) (w3v:List Bool)=>(w1v:List Int)) x.1 x.2.1 x.2.2.1 x.2.2.2.1 x.2.2.2.2.1 x.2.2.2.2.2.1 x.2.2.2.2.2.2.1 x.2.2.2.2.2.2.2.1 x.2.2.2.2.2.2.2.2.1 x.2.2.2.2.2.2.2.2.2.1 x.2.2.2.2.2.2.2.2.2.2.1 x.2.2.2.2.2.2.2.2.2.2.2.1,(fun(p1:Int) (p2:Int) (c0_0:Bool) (c0_1:Int) (c0_2:Int) (c0_3:List TQuestion) (w1k:List ByteArray) (w1v:List Int) (w2k:List ByteArray) (w2v:List (List Int)) (w3k:List ByteArray) (w3v:List Bool)=>(w2k:List ByteArray)) x.1 x.2.1 x.2.2.1 x.2.2.2.1 x.2.2.2.2.1 x.2.2.2.2.2.1 x.2.2.2.2.2.2.1 x.2.2.2.2.2.2.2.1 x.2.2.2.2.2.2.2.2.1 x.2.2.2.2.2.2.2.2.2.1 x.2.2.2.2.2.2.2.2.2.2.1 x.2.2.2.2.2.2.2.2.2.2.2.1,(fun(p1:Int) (p2:Int) (c0_0:Bool) (c0_1:Int) (c0_2:Int) (c0_3:List TQuestion) (w1k:List ByteArray) (w1v:List Int) (w2k:List ByteArray) (w2v:List (List Int)) (w3k:List ByteArray) (w3v:List Bool)=>(w2v:List (List Int))) x.1 x.2.1 x.2.2.1 x.2.2.2.1 x.2.2.2.2.1 x.2.2.2.2.2.1 x.2.2.2.2.2.2.1 x.2.2.2.2.2.2.2.1 x.2.2.2.2.2.2.2.2.1 x.2.2.2.2.2.2.2.2.2.1 x.2.2.2.2.2.2.2.2.2.2.1 x.2.2.2.2.2.2.2.2.2.2.2.1,(fun(p1:Int) (p2:Int) (c0_0:Bool) (c0_1:Int) (c0_2:Int) (c0_3:List TQuestion) (w1k:List ByteArray) (w1v:List Int) (w2k:List ByteArray) (w2v:List (List Int)) (w3k:List ByteArray) (w3v:List Bool)=>(w3k:List ByteArray)) x.1 x.2.1 x.2.2.1 x.2.2.2.1 x.2.2.2.2.1 x.2.2.2.2.2.1 x.2.2.2.2.2.2.1 x.2.2.2.2.2.2.2.1 x.2.2.2.2.2.2.2.2.1 x.2.2.2.2.2.2.2.2.2.1 x.2.2.2.2.2.2.2.2.2.2.1 x.2.2.2.2.2.2.2.2.2.2.2.1,(fun(p1:Int) (p2:Int) (c0_0:Bool) (c0_1:Int) (c0_2:Int) (c0_3:List TQuestion) (w1k:List ByteArray) (w1v:List Int) (w2k:List ByteArray) (w2v:List (List Int)) (w3k:List ByteArray) (w3v:List Bool)=>(w3v:List Bool)) x.1 x.2.1 x.2.2.1 x.2.2.2.1 x.2.2.2.2.1 x.2.2.2.2.2.1 x.2.2.2.2.2.2.1 x.2.2.2.2.2.2.2.1 x.2.2.2.2.2.2.2.2.1 x.2.2.2.2.2.2.2.2.2.1 x.2.2.2.2.2.2.2.2.2.2.1 x.2.2.2.2.2.2.2.2.2.2.2.1,())
theorem k1dx:kt7.Ok Try.prog TB:=Con.ok_fn k2l bd72 fun x h=>k1bu (k193 x.1 x.2.1 x.2.2.1 x.2.2.2.1 x.2.2.2.2.1 x.2.2.2.2.2.1 x.2.2.2.2.2.2.1 x.2.2.2.2.2.2.2.1 x.2.2.2.2.2.2.2.2.1 x.2.2.2.2.2.2.2.2.2.1 x.2.2.2.2.2.2.2.2.2.2.1 x.2.2.2.2.2.2.2.2.2.2.2.1 h)
def k1i:Con TB.den:=Con.mk0 33 [.one (.ptr 0 0),.agg [.d (.int .i64),.d (.int .u64),.d (.sl (.int .u64)),.d (.sl (.int .u64)),.d (.sl (.int .u64)),.d (.int .u64),.d (.int .u64),.d (.int .u64),.d (.int .u64),.d (.int .u64)],.agg [.d (.int .u64),.d (.int .u64),.d (.int .u64),.d (.int .u64),.d (.int .u64),.d (.int .i64),.d (.int .i64),.d (.sl (.int .u64)),.d (.bool)],.one (.d (.int .u64))] [.cells [.d (.bool),.d (.int .u64),.d (.int .i64),.d (.sl (.st 3)),.mp 1,.mp 2,.mp 3],.map (.str) (.int .i64),.map (.str) (.sl (.int .u64)),.map (.str) (.bool)] (.one (.one (.d (.int .i64)))) [.cells [.d (.bool),.d (.int .u64),.d (.int .i64),.d (.sl (.st 3)),.mp 1,.mp 2,.mp 3],.map (.str) (.int .i64),.map (.str) (.sl (.int .u64)),.map (.str) (.bool)]
abbrev kog:=HL TB.den (hsT k1i.ins (hsOs k1i.pre))
abbrev kay:=HL TB.den (hsV k1i.res (hsOs k1i.post))
def k78:Cx TB:=⟨inf,[kwf,kt7,ke9,ko1],[],4,[]⟩
def kci:Code:=Try.f33.body.getD .skip
def kea:List ResultVar:=Try.f33.results.toList
def kle (o:kay):An TB:= .no
def kbk (x:kog) (o:kay):Prop:=WPh TB k78 64 4 kci (kle o) (k1i.st TB x) (retTQ TB k78 k1i kea o)
theorem kye (o:kay):OblH TB k78 64 4 kci (kle o) (retTQ TB k78 k1i kea o):=
 OblH.ofC (X:=True) (by kernel_rfl) trivial
theorem ky9 {x:kog} {o:kay} (h:kbk x o):k1i.Snd Try.prog x o:=
 Con.soundH (c:=k1i) (C:=k78) TBok ⟨inf_ok,(all_cons k1hb (all_cons k1dx (all_cons ko2 (all_cons k167 all_nil)))),all_nil⟩ mix Try.func33 (show Try.f33.body=some kci by kernel_rfl) (show Try.f33.ntmps=64 by kernel_rfl) (show Try.f33.results.toList=kea by kernel_rfl) rfl h (kye o)
theorem k11a {p1:TStatement} {p2:TSpent} {p3:Int} {c0_0:Bool} {c0_1:Int} {c0_2:Int} {c0_3:List TQuestion} {w1k:List ByteArray} {w1v:List Int} {w2k:List ByteArray} {w2v:List (List Int)} {w3k:List ByteArray} {w3v:List Bool} {r0:Int} {d0_0:Bool} {d0_1:Int} {d0_2:Int} {d0_3:List TQuestion} {e1k:List ByteArray} {e1v:List Int} {e2k:List ByteArray} {e2v:List (List Int)} {e3k:List ByteArray} {e3v:List Bool} (h:
((U64 p2.Key∧-9223372036854775808≤p2.Number∧p2.Number≤9223372036854775807)∧let v1:Bool:=(p2.Note_Owner !=(ownerS p2.Key p2.Number))
(v1=true→
21=r0∧c0_0=d0_0∧c0_1=d0_1∧c0_2=d0_2∧c0_3=d0_3∧w1k=e1k∧w1v=e1v∧w2k=e2k∧w2v=e2v∧w3k=e3k∧w3v=e3v)∧
(v1=false→
(U64 p2.Key∧U64 p2.Note_Rho∧OrOk w1k w1v c0_3)∧let r2:Int:=((markP (pk c0_0 c0_3 w1k w1v) p2.Key p2.Note_Rho).getD 0)
let r3:Bool:=((markP (pk c0_0 c0_3 w1k w1v) p2.Key p2.Note_Rho).isSome)
((!r3)=true→
12=r0∧c0_0=d0_0∧c0_1=d0_1∧c0_2=d0_2∧c0_3=d0_3∧w1k=e1k∧w1v=e1v∧w2k=e2k∧w2v=e2v∧w3k=e3k∧w3v=e3v)∧
((!r3)=false→
((r2 !=p3)=true→
12=r0∧c0_0=d0_0∧c0_1=d0_1∧c0_2=d0_2∧c0_3=d0_3∧w1k=e1k∧w1v=e1v∧w2k=e2k∧w2v=e2v∧w3k=e3k∧w3v=e3v)∧
((r2 !=p3)=false→
(p2.Dummy=true→
((p2.Note_Value !=0)=true→
13=r0∧c0_0=d0_0∧c0_1=d0_1∧c0_2=d0_2∧c0_3=d0_3∧w1k=e1k∧w1v=e1v∧w2k=e2k∧w2v=e2v∧w3k=e3k∧w3v=e3v)∧
((p2.Note_Value !=0)=false→
0=r0∧c0_0=d0_0∧c0_1=d0_1∧c0_2=d0_2∧c0_3=d0_3∧w1k=e1k∧w1v=e1v∧w2k=e2k∧w2v=e2v∧w3k=e3k∧w3v=e3v))∧
(p2.Dummy=false→
(NR (TNote.mk p2.Note_Value p2.Note_Owner p2.Note_Rho p2.Note_Blind)∧OrOk w1k w1v c0_3)∧let r4:Int:=((commP (pk c0_0 c0_3 w1k w1v) (TNote.mk p2.Note_Value p2.Note_Owner p2.Note_Rho p2.Note_Blind)).getD 0)
let r5:Bool:=((commP (pk c0_0 c0_3 w1k w1v) (TNote.mk p2.Note_Value p2.Note_Owner p2.Note_Rho p2.Note_Blind)).isSome)
((!r5)=true→
11=r0∧c0_0=d0_0∧c0_1=d0_1∧c0_2=d0_2∧c0_3=d0_3∧w1k=e1k∧w1v=e1v∧w2k=e2k∧w2v=e2v∧w3k=e3k∧w3v=e3v)∧
((!r5)=false→
(U64 r4∧Us p2.Path∧p2.Path.length≤1073741824∧p2.Position≤9223372036854775807)∧let v6:Bool:=((climbS r4 p2.Position p2.Path) !=p1.Anchor)
(v6=true→
11=r0∧c0_0=d0_0∧c0_1=d0_1∧c0_2=d0_2∧c0_3=d0_3∧w1k=e1k∧w1v=e1v∧w2k=e2k∧w2v=e2v∧w3k=e3k∧w3v=e3v)∧
(v6=false→
0=r0∧c0_0=d0_0∧c0_1=d0_1∧c0_2=d0_2∧c0_3=d0_3∧w1k=e1k∧w1v=e1v∧w2k=e2k∧w2v=e2v∧w3k=e3k∧w3v=e3v)))))))):kbk (p1.Depth,p1.Anchor,p1.Marks,p1.Commits,p1.Rhos,p1.Deposit,p1.Withdraw,p1.Fee,p1.Account,p1.Bind,p2.Note_Value,p2.Note_Owner,p2.Note_Rho,p2.Note_Blind,p2.Key,p2.Number,p2.Position,p2.Path,p2.Dummy,p3,c0_0,c0_1,c0_2,c0_3,w1k,w1v,w2k,w2v,w3k,w3v,()) (r0,d0_0,d0_1,d0_2,d0_3,e1k,e1v,e2k,e2v,e3k,e3v,()):=WPh.of_eq (by kernel_rfl) h
theorem bd33:Callable Try.prog 33:=⟨by rw[Try.func33];kernel_rfl,by rw[Try.func33];show some _≠some _;decide⟩
theorem kwr (p1:TStatement) (p2:TSpent) (p3:Int) (c0_0:Bool) (c0_1:Int) (c0_2:Int) (c0_3:List TQuestion) (w1k:List ByteArray) (w1v:List Int) (w2k:List ByteArray) (w2v:List (List Int)) (w3k:List ByteArray) (w3v:List Bool) (h:PR p2∧OrOk w1k w1v c0_3∧(∀l a,(pk c0_0 c0_3 w1k w1v) l a=none∨∃n,(pk c0_0 c0_3 w1k w1v) l a=some n∧U64 n)):kbk (p1.Depth,p1.Anchor,p1.Marks,p1.Commits,p1.Rhos,p1.Deposit,p1.Withdraw,p1.Fee,p1.Account,p1.Bind,p2.Note_Value,p2.Note_Owner,p2.Note_Rho,p2.Note_Blind,p2.Key,p2.Number,p2.Position,p2.Path,p2.Dummy,p3,c0_0,c0_1,c0_2,c0_3,w1k,w1v,w2k,w2v,w3k,w3v,()) (((inE (pk c0_0 c0_3 w1k w1v) p1.Anchor p3 p2):Int),(c0_0:Bool),(c0_1:Int),(c0_2:Int),(c0_3:List TQuestion),(w1k:List ByteArray),(w1v:List Int),(w2k:List ByteArray),(w2v:List (List Int)),(w3k:List ByteArray),(w3v:List Bool),()):=by
 obtain⟨hp,ho,hu⟩:=h
 have hm:markP (pk c0_0 c0_3 w1k w1v) p2.Key p2.Note_Rho=none∨∃n,markP (pk c0_0 c0_3 w1k w1v) p2.Key p2.Note_Rho=some n∧U64 n:=by unfold markP;split;exact hu _ _;exact .inl rfl
 have hc:commP (pk c0_0 c0_3 w1k w1v) (noteOf p2)=none∨∃n,commP (pk c0_0 c0_3 w1k w1v) (noteOf p2)=some n∧U64 n:=by unfold commP;split;exact hu _ _;exact .inl rfl
 have hcu:U64 ((commP (pk c0_0 c0_3 w1k w1v) (noteOf p2)).getD 0):=by
  rcases hc with h|⟨n,h,hn⟩
  ·rw[h];decide
  ·rw[h];exact hn
 have en:noteOf p2=⟨p2.Note_Value,p2.Note_Owner,p2.Note_Rho,p2.Note_Blind⟩:=rfl
 refine k11a ⟨⟨hp.k,hp.nu.1,hp.nu.2⟩,?_⟩
 simp only[←en]
 unfold inE
 refine⟨fun e=> ?_,fun e=>⟨⟨hp.k,hp.n.r,ho⟩,fun e2=> ?_,fun e2=>⟨fun e3=> ?_,fun e3=>⟨fun e4=>⟨fun e5=> ?_,fun e5=> ?_⟩,fun e4=>⟨⟨hp.n,ho⟩,fun e6=> ?_,fun e6=>⟨⟨hcu,hp.pa,hp.pl,hp.po.2⟩,fun e7=> ?_,fun e7=> ?_⟩⟩⟩⟩⟩⟩
 all_goals simp_all
def kjq:Con TB.den:=k1i.fnR (fun x=>(fun(p1:TStatement) (p2:TSpent) (p3:Int) (c0_0:Bool) (c0_1:Int) (c0_2:Int) (c0_3:List TQuestion) (w1k:List ByteArray) (w1v:List Int) (w2k:List ByteArray) (w2v:List (List Int)) (w3k:List ByteArray) (w3v:List Bool)=>PR p2∧OrOk w1k w1v c0_3∧(∀l a,(pk c0_0 c0_3 w1k w1v) l a=none∨∃n,(pk c0_0 c0_3 w1k w1v) l a=some n∧U64 n)) (TStatement.mk x.1 x.2.1 x.2.2.1 x.2.2.2.1 x.2.2.2.2.1 x.2.2.2.2.2.1 x.2.2.2.2.2.2.1 x.2.2.2.2.2.2.2.1 x.2.2.2.2.2.2.2.2.1 x.2.2.2.2.2.2.2.2.2.1) (TSpent.mk x.2.2.2.2.2.2.2.2.2.2.1 x.2.2.2.2.2.2.2.2.2.2.2.1 x.2.2.2.2.2.2.2.2.2.2.2.2.1 x.2.2.2.2.2.2.2.2.2.2.2.2.2.1 x.2.2.2.2.2.2.2.2.2.2.2.2.2.2.1 x.2.2.2.2.2.2.2.2.2.2.2.2.2.2.2.1 x.2.2.2.2.2.2.2.2.2.2.2.2.2.2.2.2.1 x.2.2.2.2.2.2.2.2.2.2.2.2.2.2.2.2.2.1 x.2.2.2.2.2.2.2.2.2.2.2.2.2.2.2.2.2.2.1) x.2.2.2.2.2.2.2.2.2.2.2.2.2.2.2.2.2.2.2.1 x.2.2.2.2.2.2.2.2.2.2.2.2.2.2.2.2.2.2.2.2.1 x.2.2.2.2.2.2.2.2.2.2.2.2.2.2.2.2.2.2.2.2.2.1 x.2.2.2.2.2.2.2.2.2.2.2.2.2.2.2.2.2.2.2.2.2.2.1 x.2.2.2.2.2.2.2.2.2.2.2.2.2.2.2.2.2.2.2.2.2.2.2.1 x.2.2.2.2.2.2.2.2.2.2.2.2.2.2.2.2.2.2.2.2.2.2.2.2.1 x.2.2.2.2.2.2.2.2.2.2.2.2.2.2.2.2.2.2.2.2.2.2.2.2.2.1 x.2.2.2.2.2.2.2.2.2.2.2.2.2.2.2.2.2.2.2.2.2.2.2.2.2.2.1 x.2.2.2.2.2.2.2.2.2.2.2.2.2.2.2.2.2.2.2.2.2.2.2.2.2.2.2.1 x.2.2.2.2.2.2.2.2.2.2.2.2.2.2.2.2.2.2.2.2.2.2.2.2.2.2.2.2.1 x.2.2.2.2.2.2.2.2.2.2.2.2.2.2.2.2.2.2.2.2.2.2.2.2.2.2.2.2.2.1) fun x=>((fun(p1:TStatement) (p2:TSpent) (p3:Int) (c0_0:Bool) (c0_1:Int) (c0_2:Int) (c0_3:List TQuestion) (w1k:List ByteArray) (w1v:List Int) (w2k:List ByteArray) (w2v:List (List Int)) (w3k:List ByteArray) (w3v:List Bool)=>((inE (pk c0_0 c0_3 w1k w1v) p1.Anchor p3 p2):Int)) (TStatement.mk x.1 x.2.1 x.2.2.1 x.2.2.2.1 x.2.2.2.2.1 x.2.2.2.2.2.1 x.2.2.2.2.2.2.1 x.2.2.2.2.2.2.2.1 x.2.2.2.2.2.2.2.2.1 x.2.2.2.2.2.2.2.2.2.1) (TSpent.mk x.2.2.2.2.2.2.2.2.2.2.1 x.2.2.2.2.2.2.2.2.2.2.2.1 x.2.2.2.2.2.2.2.2.2.2.2.2.1 x.2.2.2.2.2.2.2.2.2.2.2.2.2.1 x.2.2.2.2.2.2.2.2.2.2.2.2.2.2.1 x.2.2.2.2.2.2.2.2.2.2.2.2.2.2.2.1 x.2.2.2.2.2.2.2.2.2.2.2.2.2.2.2.2.1 x.2.2.2.2.2.2.2.2.2.2.2.2.2.2.2.2.2.1 x.2.2.2.2.2.2.2.2.2.2.2.2.2.2.2.2.2.2.1) x.2.2.2.2.2.2.2.2.2.2.2.2.2.2.2.2.2.2.2.1 x.2.2.2.2.2.2.2.2.2.2.2.2.2.2.2.2.2.2.2.2.1 x.2.2.2.2.2.2.2.2.2.2.2.2.2.2.2.2.2.2.2.2.2.1 x.2.2.2.2.2.2.2.2.2.2.2.2.2.2.2.2.2.2.2.2.2.2.1 x.2.2.2.2.2.2.2.2.2.2.2.2.2.2.2.2.2.2.2.2.2.2.2.1 x.2.2.2.2.2.2.2.2.2.2.2.2.2.2.2.2.2.2.2.2.2.2.2.2.1 x.2.2.2.2.2.2.2.2.2.2.2.2.2.2.2.2.2.2.2.2.2.2.2.2.2.1 x.2.2.2.2.2.2.2.2.2.2.2.2.2.2.2.2.2.2.2.2.2.2.2.2.2.2.1 x.2.2.2.2.2.2.2.2.2.2.2.2.2.2.2.2.2.2.2.2.2.2.2.2.2.2.2.1 x.2.2.2.2.2.2.2.2.2.2.2.2.2.2.2.2.2.2.2.2.2.2.2.2.2.2.2.2.1 x.2.2.2.2.2.2.2.2.2.2.2.2.2.2.2.2.2.2.2.2.2.2.2.2.2.2.2.2.2.1,(fun(p1:TStatement) (p2:TSpent) (p3:Int) (c0_0:Bool) (c0_1:Int) (c0_2:Int) (c0_3:List TQuestion) (w1k:List ByteArray) (w1v:List Int) (w2k:List ByteArray) (w2v:List (List Int)) (w3k:List ByteArray) (w3v:List Bool)=>(c0_0:Bool)) (TStatement.mk x.1 x.2.1 x.2.2.1 x.2.2.2.1 x.2.2.2.2.1 x.2.2.2.2.2.1 x.2.2.2.2.2.2.1 x.2.2.2.2.2.2.2.1 x.2.2.2.2.2.2.2.2.1 x.2.2.2.2.2.2.2.2.2.1) (TSpent.mk x.2.2.2.2.2.2.2.2.2.2.1 x.2.2.2.2.2.2.2.2.2.2.2.1 x.2.2.2.2.2.2.2.2.2.2.2.2.1 x.2.2.2.2.2.2.2.2.2.2.2.2.2.1 x.2.2.2.2.2.2.2.2.2.2.2.2.2.2.1 x.2.2.2.2.2.2.2.2.2.2.2.2.2.2.2.1 x.2.2.2.2.2.2.2.2.2.2.2.2.2.2.2.2.1 x.2.2.2.2.2.2.2.2.2.2.2.2.2.2.2.2.2.1 x.2.2.2.2.2.2.2.2.2.2.2.2.2.2.2.2.2.2.1) x.2.2.2.2.2.2.2.2.2.2.2.2.2.2.2.2.2.2.2.1 x.2.2.2.2.2.2.2.2.2.2.2.2.2.2.2.2.2.2.2.2.1 x.2.2.2.2.2.2.2.2.2.2.2.2.2.2.2.2.2.2.2.2.2.1 x.2.2.2.2.2.2.2.2.2.2.2.2.2.2.2.2.2.2.2.2.2.2.1 x.2.2.2.2.2.2.2.2.2.2.2.2.2.2.2.2.2.2.2.2.2.2.2.1 x.2.2.2.2.2.2.2.2.2.2.2.2.2.2.2.2.2.2.2.2.2.2.2.2.1 x.2.2.2.2.2.2.2.2.2.2.2.2.2.2.2.2.2.2.2.2.2.2.2.2.2.1 x.2.2.2.2.2.2.2.2.2.2.2.2.2.2.2.2.2.2.2.2.2.2.2.2.2.2.1 x.2.2.2.2.2.2.2.2.2.2.2.2.2.2.2.2.2.2.2.2.2.2.2.2.2.2.2.1 x.2.2.2.2.2.2.2.2.2.2.2.2.2.2.2.2.2.2.2.2.2.2.2.2.2.2.2.2.1 x.2.2.2.2.2.2.2.2.2.2.2.2.2.2.2.2.2.2.2.2.2.2.2.2.2.2.2.2.2.1,(fun(p1:TStatement) (p2:TSpent) (p3:Int) (c0_0:Bool) (c0_1:Int) (c0_2:Int) (c0_3:List TQuestion) (w1k:List ByteArray) (w1v:List Int) (w2k:List ByteArray) (w2v:List (List Int)) (w3k:List ByteArray) (w3v:List Bool)=>(c0_1:Int)) (TStatement.mk x.1 x.2.1 x.2.2.1 x.2.2.2.1 x.2.2.2.2.1 x.2.2.2.2.2.1 x.2.2.2.2.2.2.1 x.2.2.2.2.2.2.2.1 x.2.2.2.2.2.2.2.2.1 x.2.2.2.2.2.2.2.2.2.1) (TSpent.mk x.2.2.2.2.2.2.2.2.2.2.1 x.2.2.2.2.2.2.2.2.2.2.2.1 x.2.2.2.2.2.2.2.2.2.2.2.2.1 x.2.2.2.2.2.2.2.2.2.2.2.2.2.1 x.2.2.2.2.2.2.2.2.2.2.2.2.2.2.1 x.2.2.2.2.2.2.2.2.2.2.2.2.2.2.2.1 x.2.2.2.2.2.2.2.2.2.2.2.2.2.2.2.2.1 x.2.2.2.2.2.2.2.2.2.2.2.2.2.2.2.2.2.1 x.2.2.2.2.2.2.2.2.2.2.2.2.2.2.2.2.2.2.1) x.2.2.2.2.2.2.2.2.2.2.2.2.2.2.2.2.2.2.2.1 x.2.2.2.2.2.2.2.2.2.2.2.2.2.2.2.2.2.2.2.2.1 x.2.2.2.2.2.2.2.2.2.2.2.2.2.2.2.2.2.2.2.2.2.1 x.2.2.2.2.2.2.2.2.2.2.2.2.2.2.2.2.2.2.2.2.2.2.1 x.2.2.2.2.2.2.2.2.2.2.2.2.2.2.2.2.2.2.2.2.2.2.2.1 x.2.2.2.2.2.2.2.2.2.2.2.2.2.2.2.2.2.2.2.2.2.2.2.2.1 x.2.2.2.2.2.2.2.2.2.2.2.2.2.2.2.2.2.2.2.2.2.2.2.2.2.1 x.2.2.2.2.2.2.2.2.2.2.2.2.2.2.2.2.2.2.2.2.2.2.2.2.2.2.1 x.2.2.2.2.2.2.2.2.2.2.2.2.2.2.2.2.2.2.2.2.2.2.2.2.2.2.2.1 x.2.2.2.2.2.2.2.2.2.2.2.2.2.2.2.2.2.2.2.2.2.2.2.2.2.2.2.2.1 x.2.2.2.2.2.2.2.2.2.2.2.2.2.2.2.2.2.2.2.2.2.2.2.2.2.2.2.2.2.1,(fun(p1:TStatement) (p2:TSpent) (p3:Int) (c0_0:Bool) (c0_1:Int) (c0_2:Int) (c0_3:List TQuestion) (w1k:List ByteArray) (w1v:List Int) (w2k:List ByteArray) (w2v:List (List Int)) (w3k:List ByteArray) (w3v:List Bool)=>(c0_2:Int)) (TStatement.mk x.1 x.2.1 x.2.2.1 x.2.2.2.1 x.2.2.2.2.1 x.2.2.2.2.2.1 x.2.2.2.2.2.2.1 x.2.2.2.2.2.2.2.1 x.2.2.2.2.2.2.2.2.1 x.2.2.2.2.2.2.2.2.2.1) (TSpent.mk x.2.2.2.2.2.2.2.2.2.2.1 x.2.2.2.2.2.2.2.2.2.2.2.1 x.2.2.2.2.2.2.2.2.2.2.2.2.1 x.2.2.2.2.2.2.2.2.2.2.2.2.2.1 x.2.2.2.2.2.2.2.2.2.2.2.2.2.2.1 x.2.2.2.2.2.2.2.2.2.2.2.2.2.2.2.1 x.2.2.2.2.2.2.2.2.2.2.2.2.2.2.2.2.1 x.2.2.2.2.2.2.2.2.2.2.2.2.2.2.2.2.2.1 x.2.2.2.2.2.2.2.2.2.2.2.2.2.2.2.2.2.2.1) x.2.2.2.2.2.2.2.2.2.2.2.2.2.2.2.2.2.2.2.1 x.2.2.2.2.2.2.2.2.2.2.2.2.2.2.2.2.2.2.2.2.1 x.2.2.2.2.2.2.2.2.2.2.2.2.2.2.2.2.2.2.2.2.2.1 x.2.2.2.2.2.2.2.2.2.2.2.2.2.2.2.2.2.2.2.2.2.2.1 x.2.2.2.2.2.2.2.2.2.2.2.2.2.2.2.2.2.2.2.2.2.2.2.1 x.2.2.2.2.2.2.2.2.2.2.2.2.2.2.2.2.2.2.2.2.2.2.2.2.1 x.2.2.2.2.2.2.2.2.2.2.2.2.2.2.2.2.2.2.2.2.2.2.2.2.2.1 x.2.2.2.2.2.2.2.2.2.2.2.2.2.2.2.2.2.2.2.2.2.2.2.2.2.2.1 x.2.2.2.2.2.2.2.2.2.2.2.2.2.2.2.2.2.2.2.2.2.2.2.2.2.2.2.1 x.2.2.2.2.2.2.2.2.2.2.2.2.2.2.2.2.2.2.2.2.2.2.2.2.2.2.2.2.1 x.2.2.2.2.2.2.2.2.2.2.2.2.2.2.2.2.2.2.2.2.2.2.2.2.2.2.2.2.2.1,(fun(p1:TStatement) (p2:TSpent) (p3:Int) (c0_0:Bool) (c0_1:Int) (c0_2:Int) (c0_3:List TQuestion) (w1k:List ByteArray) (w1v:List Int) (w2k:List ByteArray) (w2v:List (List Int)) (w3k:List ByteArray) (w3v:List Bool)=>(c0_3:List TQuestion)) (TStatement.mk x.1 x.2.1 x.2.2.1 x.2.2.2.1 x.2.2.2.2.1 x.2.2.2.2.2.1 x.2.2.2.2.2.2.1 x.2.2.2.2.2.2.2.1 x.2.2.2.2.2.2.2.2.1 x.2.2.2.2.2.2.2.2.2.1) (TSpent.mk x.2.2.2.2.2.2.2.2.2.2.1 x.2.2.2.2.2.2.2.2.2.2.2.1 x.2.2.2.2.2.2.2.2.2.2.2.2.1 x.2.2.2.2.2.2.2.2.2.2.2.2.2.1 x.2.2.2.2.2.2.2.2.2.2.2.2.2.2.1 x.2.2.2.2.2.2.2.2.2.2.2.2.2.2.2.1 x.2.2.2.2.2.2.2.2.2.2.2.2.2.2.2.2.1 x.2.2.2.2.2.2.2.2.2.2.2.2.2.2.2.2.2.1 x.2.2.2.2.2.2.2.2.2.2.2.2.2.2.2.2.2.2.1) x.2.2.2.2.2.2.2.2.2.2.2.2.2.2.2.2.2.2.2.1 x.2.2.2.2.2.2.2.2.2.2.2.2.2.2.2.2.2.2.2.2.1 x.2.2.2.2.2.2.2.2.2.2.2.2.2.2.2.2.2.2.2.2.2.1 x.2.2.2.2.2.2.2.2.2.2.2.2.2.2.2.2.2.2.2.2.2.2.1 x.2.2.2.2.2.2.2.2.2.2.2.2.2.2.2.2.2.2.2.2.2.2.2.1 x.2.2.2.2.2.2.2.2.2.2.2.2.2.2.2.2.2.2.2.2.2.2.2.2.1 x.2.2.2.2.2.2.2.2.2.2.2.2.2.2.2.2.2.2.2.2.2.2.2.2.2.1 x.2.2.2.2.2.2.2.2.2.2.2.2.2.2.2.2.2.2.2.2.2.2.2.2.2.2.1 x.2.2.2.2.2.2.2.2.2.2.2.2.2.2.2.2.2.2.2.2.2.2.2.2.2.2.2.1 x.2.2.2.2.2.2.2.2.2.2.2.2.2.2.2.2.2.2.2.2.2.2.2.2.2.2.2.2.1 x.2.2.2.2.2.2.2.2.2.2.2.2.2.2.2.2.2.2.2.2.2.2.2.2.2.2.2.2.2.1,(fun(p1:TStatement) (p2:TSpent) (p3:Int) (c0_0:Bool) (c0_1:Int) (c0_2:Int) (c0_3:List TQuestion) (w1k:List ByteArray) (w1v:List Int) (w2k:List ByteArray) (w2v:List (List Int)) (w3k:List ByteArray) (w3v:List Bool)=>(w1k:List ByteArray)) (TStatement.mk x.1 x.2.1 x.2.2.1 x.2.2.2.1 x.2.2.2.2.1 x.2.2.2.2.2.1 x.2.2.2.2.2.2.1 x.2.2.2.2.2.2.2.1 x.2.2.2.2.2.2.2.2.1 x.2.2.2.2.2.2.2.2.2.1) (TSpent.mk x.2.2.2.2.2.2.2.2.2.2.1 x.2.2.2.2.2.2.2.2.2.2.2.1 x.2.2.2.2.2.2.2.2.2.2.2.2.1 x.2.2.2.2.2.2.2.2.2.2.2.2.2.1 x.2.2.2.2.2.2.2.2.2.2.2.2.2.2.1 x.2.2.2.2.2.2.2.2.2.2.2.2.2.2.2.1 x.2.2.2.2.2.2.2.2.2.2.2.2.2.2.2.2.1 x.2.2.2.2.2.2.2.2.2.2.2.2.2.2.2.2.2.1 x.2.2.2.2.2.2.2.2.2.2.2.2.2.2.2.2.2.2.1) x.2.2.2.2.2.2.2.2.2.2.2.2.2.2.2.2.2.2.2.1 x.2.2.2.2.2.2.2.2.2.2.2.2.2.2.2.2.2.2.2.2.1 x.2.2.2.2.2.2.2.2.2.2.2.2.2.2.2.2.2.2.2.2.2.1 x.2.2.2.2.2.2.2.2.2.2.2.2.2.2.2.2.2.2.2.2.2.2.1 x.2.2.2.2.2.2.2.2.2.2.2.2.2.2.2.2.2.2.2.2.2.2.2.1 x.2.2.2.2.2.2.2.2.2.2.2.2.2.2.2.2.2.2.2.2.2.2.2.2.1 x.2.2.2.2.2.2.2.2.2.2.2.2.2.2.2.2.2.2.2.2.2.2.2.2.2.1 x.2.2.2.2.2.2.2.2.2.2.2.2.2.2.2.2.2.2.2.2.2.2.2.2.2.2.1 x.2.2.2.2.2.2.2.2.2.2.2.2.2.2.2.2.2.2.2.2.2.2.2.2.2.2.2.1 x.2.2.2.2.2.2.2.2.2.2.2.2.2.2.2.2.2.2.2.2.2.2.2.2.2.2.2.2.1 x.2.2.2.2.2.2.2.2.2.2.2.2.2.2.2.2.2.2.2.2.2.2.2.2.2.2.2.2.2.1,(fun(p1:TStatement) (p2:TSpent) (p3:Int) (c0_0:Bool) (c0_1:Int) (c0_2:Int) (c0_3:List TQuestion) (w1k:List ByteArray) (w1v:List Int) (w2k:List ByteArray) (w2v:List (List Int)) (w3k:List ByteArray) (w3v:List Bool)=>(w1v:List Int)) (TStatement.mk x.1 x.2.1 x.2.2.1 x.2.2.2.1 x.2.2.2.2.1 x.2.2.2.2.2.1 x.2.2.2.2.2.2.1 x.2.2.2.2.2.2.2.1 x.2.2.2.2.2.2.2.2.1 x.2.2.2.2.2.2.2.2.2.1) (TSpent.mk x.2.2.2.2.2.2.2.2.2.2.1 x.2.2.2.2.2.2.2.2.2.2.2.1 x.2.2.2.2.2.2.2.2.2.2.2.2.1 x.2.2.2.2.2.2.2.2.2.2.2.2.2.1 x.2.2.2.2.2.2.2.2.2.2.2.2.2.2.1 x.2.2.2.2.2.2.2.2.2.2.2.2.2.2.2.1 x.2.2.2.2.2.2.2.2.2.2.2.2.2.2.2.2.1 x.2.2.2.2.2.2.2.2.2.2.2.2.2.2.2.2.2.1 x.2.2.2.2.2.2.2.2.2.2.2.2.2.2.2.2.2.2.1) x.2.2.2.2.2.2.2.2.2.2.2.2.2.2.2.2.2.2.2.1 x.2.2.2.2.2.2.2.2.2.2.2.2.2.2.2.2.2.2.2.2.1 x.2.2.2.2.2.2.2.2.2.2.2.2.2.2.2.2.2.2.2.2.2.1 x.2.2.2.2.2.2.2.2.2.2.2.2.2.2.2.2.2.2.2.2.2.2.1 x.2.2.2.2.2.2.2.2.2.2.2.2.2.2.2.2.2.2.2.2.2.2.2.1 x.2.2.2.2.2.2.2.2.2.2.2.2.2.2.2.2.2.2.2.2.2.2.2.2.1 x.2.2.2.2.2.2.2.2.2.2.2.2.2.2.2.2.2.2.2.2.2.2.2.2.2.1 x.2.2.2.2.2.2.2.2.2.2.2.2.2.2.2.2.2.2.2.2.2.2.2.2.2.2.1 x.2.2.2.2.2.2.2.2.2.2.2.2.2.2.2.2.2.2.2.2.2.2.2.2.2.2.2.1 x.2.2.2.2.2.2.2.2.2.2.2.2.2.2.2.2.2.2.2.2.2.2.2.2.2.2.2.2.1 x.2.2.2.2.2.2.2.2.2.2.2.2.2.2.2.2.2.2.2.2.2.2.2.2.2.2.2.2.2.1,(fun(p1:TStatement) (p2:TSpent) (p3:Int) (c0_0:Bool) (c0_1:Int) (c0_2:Int) (c0_3:List TQuestion) (w1k:List ByteArray) (w1v:List Int) (w2k:List ByteArray) (w2v:List (List Int)) (w3k:List ByteArray) (w3v:List Bool)=>(w2k:List ByteArray)) (TStatement.mk x.1 x.2.1 x.2.2.1 x.2.2.2.1 x.2.2.2.2.1 x.2.2.2.2.2.1 x.2.2.2.2.2.2.1 x.2.2.2.2.2.2.2.1 x.2.2.2.2.2.2.2.2.1 x.2.2.2.2.2.2.2.2.2.1) (TSpent.mk x.2.2.2.2.2.2.2.2.2.2.1 x.2.2.2.2.2.2.2.2.2.2.2.1 x.2.2.2.2.2.2.2.2.2.2.2.2.1 x.2.2.2.2.2.2.2.2.2.2.2.2.2.1 x.2.2.2.2.2.2.2.2.2.2.2.2.2.2.1 x.2.2.2.2.2.2.2.2.2.2.2.2.2.2.2.1 x.2.2.2.2.2.2.2.2.2.2.2.2.2.2.2.2.1 x.2.2.2.2.2.2.2.2.2.2.2.2.2.2.2.2.2.1 x.2.2.2.2.2.2.2.2.2.2.2.2.2.2.2.2.2.2.1) x.2.2.2.2.2.2.2.2.2.2.2.2.2.2.2.2.2.2.2.1 x.2.2.2.2.2.2.2.2.2.2.2.2.2.2.2.2.2.2.2.2.1 x.2.2.2.2.2.2.2.2.2.2.2.2.2.2.2.2.2.2.2.2.2.1 x.2.2.2.2.2.2.2.2.2.2.2.2.2.2.2.2.2.2.2.2.2.2.1 x.2.2.2.2.2.2.2.2.2.2.2.2.2.2.2.2.2.2.2.2.2.2.2.1 x.2.2.2.2.2.2.2.2.2.2.2.2.2.2.2.2.2.2.2.2.2.2.2.2.1 x.2.2.2.2.2.2.2.2.2.2.2.2.2.2.2.2.2.2.2.2.2.2.2.2.2.1 x.2.2.2.2.2.2.2.2.2.2.2.2.2.2.2.2.2.2.2.2.2.2.2.2.2.2.1 x.2.2.2.2.2.2.2.2.2.2.2.2.2.2.2.2.2.2.2.2.2.2.2.2.2.2.2.1 x.2.2.2.2.2.2.2.2.2.2.2.2.2.2.2.2.2.2.2.2.2.2.2.2.2.2.2.2.1 x.2.2.2.2.2.2.2.2.2.2.2.2.2.2.2.2.2.2.2.2.2.2.2.2.2.2.2.2.2.1,(fun(p1:TStatement) (p2:TSpent) (p3:Int) (c0_0:Bool) (c0_1:Int) (c0_2:Int) (c0_3:List TQuestion) (w1k:List ByteArray) (w1v:List Int) (w2k:List ByteArray) (w2v:List (List Int)) (w3k:List ByteArray) (w3v:List Bool)=>(w2v:List (List Int))) (TStatement.mk x.1 x.2.1 x.2.2.1 x.2.2.2.1 x.2.2.2.2.1 x.2.2.2.2.2.1 x.2.2.2.2.2.2.1 x.2.2.2.2.2.2.2.1 x.2.2.2.2.2.2.2.2.1 x.2.2.2.2.2.2.2.2.2.1) (TSpent.mk x.2.2.2.2.2.2.2.2.2.2.1 x.2.2.2.2.2.2.2.2.2.2.2.1 x.2.2.2.2.2.2.2.2.2.2.2.2.1 x.2.2.2.2.2.2.2.2.2.2.2.2.2.1 x.2.2.2.2.2.2.2.2.2.2.2.2.2.2.1 x.2.2.2.2.2.2.2.2.2.2.2.2.2.2.2.1 x.2.2.2.2.2.2.2.2.2.2.2.2.2.2.2.2.1 x.2.2.2.2.2.2.2.2.2.2.2.2.2.2.2.2.2.1 x.2.2.2.2.2.2.2.2.2.2.2.2.2.2.2.2.2.2.1) x.2.2.2.2.2.2.2.2.2.2.2.2.2.2.2.2.2.2.2.1 x.2.2.2.2.2.2.2.2.2.2.2.2.2.2.2.2.2.2.2.2.1 x.2.2.2.2.2.2.2.2.2.2.2.2.2.2.2.2.2.2.2.2.2.1 x.2.2.2.2.2.2.2.2.2.2.2.2.2.2.2.2.2.2.2.2.2.2.1 x.2.2.2.2.2.2.2.2.2.2.2.2.2.2.2.2.2.2.2.2.2.2.2.1 x.2.2.2.2.2.2.2.2.2.2.2.2.2.2.2.2.2.2.2.2.2.2.2.2.1 x.2.2.2.2.2.2.2.2.2.2.2.2.2.2.2.2.2.2.2.2.2.2.2.2.2.1 x.2.2.2.2.2.2.2.2.2.2.2.2.2.2.2.2.2.2.2.2.2.2.2.2.2.2.1 x.2.2.2.2.2.2.2.2.2.2.2.2.2.2.2.2.2.2.2.2.2.2.2.2.2.2.2.1 x.2.2.2.2.2.2.2.2.2.2.2.2.2.2.2.2.2.2.2.2.2.2.2.2.2.2.2.2.1 x.2.2.2.2.2.2.2.2.2.2.2.2.2.2.2.2.2.2.2.2.2.2.2.2.2.2.2.2.2.1,(fun(p1:TStatement) (p2:TSpent) (p3:Int) (c0_0:Bool) (c0_1:Int) (c0_2:Int) (c0_3:List TQuestion) (w1k:List ByteArray) (w1v:List Int) (w2k:List ByteArray) (w2v:List (List Int)) (w3k:List ByteArray) (w3v:List Bool)=>(w3k:List ByteArray)) (TStatement.mk x.1 x.2.1 x.2.2.1 x.2.2.2.1 x.2.2.2.2.1 x.2.2.2.2.2.1 x.2.2.2.2.2.2.1 x.2.2.2.2.2.2.2.1 x.2.2.2.2.2.2.2.2.1 x.2.2.2.2.2.2.2.2.2.1) (TSpent.mk x.2.2.2.2.2.2.2.2.2.2.1 x.2.2.2.2.2.2.2.2.2.2.2.1 x.2.2.2.2.2.2.2.2.2.2.2.2.1 x.2.2.2.2.2.2.2.2.2.2.2.2.2.1 x.2.2.2.2.2.2.2.2.2.2.2.2.2.2.1 x.2.2.2.2.2.2.2.2.2.2.2.2.2.2.2.1 x.2.2.2.2.2.2.2.2.2.2.2.2.2.2.2.2.1 x.2.2.2.2.2.2.2.2.2.2.2.2.2.2.2.2.2.1 x.2.2.2.2.2.2.2.2.2.2.2.2.2.2.2.2.2.2.1) x.2.2.2.2.2.2.2.2.2.2.2.2.2.2.2.2.2.2.2.1 x.2.2.2.2.2.2.2.2.2.2.2.2.2.2.2.2.2.2.2.2.1 x.2.2.2.2.2.2.2.2.2.2.2.2.2.2.2.2.2.2.2.2.2.1 x.2.2.2.2.2.2.2.2.2.2.2.2.2.2.2.2.2.2.2.2.2.2.1 x.2.2.2.2.2.2.2.2.2.2.2.2.2.2.2.2.2.2.2.2.2.2.2.1 x.2.2.2.2.2.2.2.2.2.2.2.2.2.2.2.2.2.2.2.2.2.2.2.2.1 x.2.2.2.2.2.2.2.2.2.2.2.2.2.2.2.2.2.2.2.2.2.2.2.2.2.1 x.2.2.2.2.2.2.2.2.2.2.2.2.2.2.2.2.2.2.2.2.2.2.2.2.2.2.1 x.2.2.2.2.2.2.2.2.2.2.2.2.2.2.2.2.2.2.2.2.2.2.2.2.2.2.2.1 x.2.2.2.2.2.2.2.2.2.2.2.2.2.2.2.2.2.2.2.2.2.2.2.2.2.2.2.2.1 x.2.2.2.2.2.2.2.2.2.2.2.2.2.2.2.2.2.2.2.2.2.2.2.2.2.2.2.2.2.1,(fun(p1:TStatement) (p2:TSpent) (p3:Int) (c0_0:Bool) (c0_1:Int) (c0_2:Int) (c0_3:List TQuestion) (w1k:List ByteArray) (w1v:List Int) (w2k:List ByteArray) (w2v:List (List Int)) (w3k:List ByteArray) (w3v:List Bool)=>(w3v:List Bool)) (TStatement.mk x.1 x.2.1 x.2.2.1 x.2.2.2.1 x.2.2.2.2.1 x.2.2.2.2.2.1 x.2.2.2.2.2.2.1 x.2.2.2.2.2.2.2.1 x.2.2.2.2.2.2.2.2.1 x.2.2.2.2.2.2.2.2.2.1) (TSpent.mk x.2.2.2.2.2.2.2.2.2.2.1 x.2.2.2.2.2.2.2.2.2.2.2.1 x.2.2.2.2.2.2.2.2.2.2.2.2.1 x.2.2.2.2.2.2.2.2.2.2.2.2.2.1 x.2.2.2.2.2.2.2.2.2.2.2.2.2.2.1 x.2.2.2.2.2.2.2.2.2.2.2.2.2.2.2.1 x.2.2.2.2.2.2.2.2.2.2.2.2.2.2.2.2.1 x.2.2.2.2.2.2.2.2.2.2.2.2.2.2.2.2.2.1 x.2.2.2.2.2.2.2.2.2.2.2.2.2.2.2.2.2.2.1) x.2.2.2.2.2.2.2.2.2.2.2.2.2.2.2.2.2.2.2.1 x.2.2.2.2.2.2.2.2.2.2.2.2.2.2.2.2.2.2.2.2.1 x.2.2.2.2.2.2.2.2.2.2.2.2.2.2.2.2.2.2.2.2.2.1 x.2.2.2.2.2.2.2.2.2.2.2.2.2.2.2.2.2.2.2.2.2.2.1 x.2.2.2.2.2.2.2.2.2.2.2.2.2.2.2.2.2.2.2.2.2.2.2.1 x.2.2.2.2.2.2.2.2.2.2.2.2.2.2.2.2.2.2.2.2.2.2.2.2.1 x.2.2.2.2.2.2.2.2.2.2.2.2.2.2.2.2.2.2.2.2.2.2.2.2.2.1 x.2.2.2.2.2.2.2.2.2.2.2.2.2.2.2.2.2.2.2.2.2.2.2.2.2.2.1 x.2.2.2.2.2.2.2.2.2.2.2.2.2.2.2.2.2.2.2.2.2.2.2.2.2.2.2.1 x.2.2.2.2.2.2.2.2.2.2.2.2.2.2.2.2.2.2.2.2.2.2.2.2.2.2.2.2.1 x.2.2.2.2.2.2.2.2.2.2.2.2.2.2.2.2.2.2.2.2.2.2.2.2.2.2.2.2.2.1,())
theorem k11d:kjq.Ok Try.prog TB:=Con.ok_fn k1i bd33 fun x h=>ky9 (kwr (TStatement.mk x.1 x.2.1 x.2.2.1 x.2.2.2.1 x.2.2.2.2.1 x.2.2.2.2.2.1 x.2.2.2.2.2.2.1 x.2.2.2.2.2.2.2.1 x.2.2.2.2.2.2.2.2.1 x.2.2.2.2.2.2.2.2.2.1) (TSpent.mk x.2.2.2.2.2.2.2.2.2.2.1 x.2.2.2.2.2.2.2.2.2.2.2.1 x.2.2.2.2.2.2.2.2.2.2.2.2.1 x.2.2.2.2.2.2.2.2.2.2.2.2.2.1 x.2.2.2.2.2.2.2.2.2.2.2.2.2.2.1 x.2.2.2.2.2.2.2.2.2.2.2.2.2.2.2.1 x.2.2.2.2.2.2.2.2.2.2.2.2.2.2.2.2.1 x.2.2.2.2.2.2.2.2.2.2.2.2.2.2.2.2.2.1 x.2.2.2.2.2.2.2.2.2.2.2.2.2.2.2.2.2.2.1) x.2.2.2.2.2.2.2.2.2.2.2.2.2.2.2.2.2.2.2.1 x.2.2.2.2.2.2.2.2.2.2.2.2.2.2.2.2.2.2.2.2.1 x.2.2.2.2.2.2.2.2.2.2.2.2.2.2.2.2.2.2.2.2.2.1 x.2.2.2.2.2.2.2.2.2.2.2.2.2.2.2.2.2.2.2.2.2.2.1 x.2.2.2.2.2.2.2.2.2.2.2.2.2.2.2.2.2.2.2.2.2.2.2.1 x.2.2.2.2.2.2.2.2.2.2.2.2.2.2.2.2.2.2.2.2.2.2.2.2.1 x.2.2.2.2.2.2.2.2.2.2.2.2.2.2.2.2.2.2.2.2.2.2.2.2.2.1 x.2.2.2.2.2.2.2.2.2.2.2.2.2.2.2.2.2.2.2.2.2.2.2.2.2.2.1 x.2.2.2.2.2.2.2.2.2.2.2.2.2.2.2.2.2.2.2.2.2.2.2.2.2.2.2.1 x.2.2.2.2.2.2.2.2.2.2.2.2.2.2.2.2.2.2.2.2.2.2.2.2.2.2.2.2.1 x.2.2.2.2.2.2.2.2.2.2.2.2.2.2.2.2.2.2.2.2.2.2.2.2.2.2.2.2.2.1 h)
end Go.Proofs.Ytpffhgljgpjenaa
end
