/-
  Parts of the proofs that the laws of this seat hold of every input, merged by a program: a machine over pure data that is sound for the model, what each function of the translation does in it, and plain lemmas. No conditions but those in each theorem.
-/
import Derived.Test.YtponaobpcdkggaaA4
set_option linter.all false
set_option maxRecDepth 100000
noncomputable section
namespace Go.Proofs.Ytponaobpcdkggaa
open Go Go.Bv Go.Cv Go.Md Go.RowKit
def k4r:Con TB.den:=Con.mk0 25 [.one (.ptr 0 0),.one (.d (.int .u64)),.one (.d (.sl (.int .u64)))] [.cells [.d (.bool),.d (.int .u64),.d (.int .i64),.own 1,.mp 2,.mp 3,.mp 4],.tip (.st 1),.map (.str) (.int .i64),.map (.str) (.sl (.int .u64)),.map (.str) (.bool)] (.tup [.one (.d (.int .u64)),.one (.d (.bool))]) [.cells [.d (.bool),.d (.int .u64),.d (.int .i64),.own 1,.mp 2,.mp 3,.mp 4],.tip (.st 1),.map (.str) (.int .i64),.map (.str) (.sl (.int .u64)),.map (.str) (.bool)]
abbrev kw8:=HL TB.den (hsT k4r.ins (hsOs k4r.pre))
abbrev kh8:=HL TB.den (hsV k4r.res (hsOs k4r.post))
noncomputable def kc5:Cx TB:=⟨inf,[kh0,kqm,kol],[],4,[]⟩
noncomputable def khx:Code:=Try.f25.body.getD .skip
noncomputable def kme:List ResultVar:=Try.f25.results.toList
noncomputable def ku9 (o:kh8):An TB:= .no
def kia (x:kw8) (o:kh8):Prop:=WPh TB kc5 41 5 khx (ku9 o) (k4r.st TB x) (retTQ TB kc5 k4r kme o)
theorem k12l (o:kh8):OblH TB kc5 41 5 khx (ku9 o) (retTQ TB kc5 k4r kme o):=
 OblH.ofC (X:=True) (by kernel_rfl) trivial
theorem k12z {x:kw8} {o:kh8} (h:kia x o):k4r.Snd Try.prog x o:=
 Con.soundH (c:=k4r) (C:=kc5) TBok ⟨inf_ok,(all_cons krp (all_cons kzl (all_cons ky0 all_nil))),all_nil⟩ mix Try.func25 (show Try.f25.body=some khx by kernel_rfl) (show Try.f25.ntmps=41 by kernel_rfl) (show Try.f25.results.toList=kme by kernel_rfl) rfl h (k12l o)
theorem k14i {p1:Int} {p2:List Int} {c0_0:Bool} {c0_1:Int} {c0_2:Int} {w1:List TQuestion} {w2k:List ByteArray} {w2v:List Int} {w3k:List ByteArray} {w3v:List (List Int)} {w4k:List ByteArray} {w4v:List Bool} {r0:Int} {r1:Bool} {d0_0:Bool} {d0_1:Int} {d0_2:Int} {e1:List TQuestion} {e2k:List ByteArray} {e2v:List Int} {e3k:List ByteArray} {e3v:List (List Int)} {e4k:List ByteArray} {e4v:List Bool} (h:
((p2.length≤9223372036854775807)∧((!(allB p2))=true→
(w1=w1)∧0=r0∧false=r1∧c0_0=d0_0∧c0_1=d0_1∧c0_2=d0_2∧w1=e1∧w2k=e2k∧w2v=e2v∧w3k=e3k∧w3v=e3v∧w4k=e4k∧w4v=e4v)∧
((!(allB p2))=false→
(Us p2∧Us [p1]∧p2.length≤1073741824∧[p1].length≤1073741824)∧w2k.length=w2v.length∧let v2:Int:=mVal (BEq.beq (keyB [p1] p2)) w2k w2v (0:Int)
(mHas (BEq.beq (keyB [p1] p2)) w2k=true→
(0≤v2)∧v2<(w1.length:Int)∧(w1=w1)∧(ix w1 v2).Answer=r0∧true=r1∧c0_0=d0_0∧c0_1=d0_1∧c0_2=d0_2∧w1=e1∧w2k=e2k∧w2v=e2v∧w3k=e3k∧w3v=e3v∧w4k=e4k∧w4v=e4v)∧
(mHas (BEq.beq (keyB [p1] p2)) w2k=false→
(c0_0=true→
(w1=w1)∧0=r0∧false=r1∧c0_0=d0_0∧c0_1=d0_1∧c0_2=d0_2∧w1=e1∧w2k=e2k∧w2v=e2v∧w3k=e3k∧w3v=e3v∧w4k=e4k∧w4v=e4v)∧
(c0_0=false→
((18446744069414584321:Int)=18446744069414584321∧U64 p1∧Us p2∧p2.length≤1099511627776)∧(w1=w1)∧(hashS p1 p2)=r0∧true=r1∧c0_0=d0_0∧c0_1=d0_1∧c0_2=d0_2∧w1=e1∧w2k=e2k∧w2v=e2v∧w3k=e3k∧w3v=e3v∧w4k=e4k∧w4v=e4v))))):kia (p1,p2,c0_0,c0_1,c0_2,w1,w2k,w2v,w3k,w3v,w4k,w4v,()) (r0,r1,d0_0,d0_1,d0_2,e1,e2k,e2v,e3k,e3v,e4k,e4v,()):=WPh.of_eq (by kernel_rfl) h
theorem bd25:Callable Try.prog 25:=⟨by rw[Try.func25];kernel_rfl,by rw[Try.func25];show some _≠some _;decide⟩
theorem k11z (p1:Int) (p2:List Int) (c0_0:Bool) (c0_1:Int) (c0_2:Int) (w1:List TQuestion) (w2k:List ByteArray) (w2v:List Int) (w3k:List ByteArray) (w3v:List (List Int)) (w4k:List ByteArray) (w4v:List Bool) (h:U64 p1∧(Us p2∧p2.length≤1000000000)∧OOk (OS.mk c0_0 c0_1 c0_2 w1 w2k w2v w3k w3v w4k w4v)):kia (p1,p2,c0_0,c0_1,c0_2,w1,w2k,w2v,w3k,w3v,w4k,w4v,()) ((((pk c0_0 w1 w2k w2v p1 p2).getD 0):Int),(((pk c0_0 w1 w2k w2v p1 p2).isSome):Bool),(((OS.mk c0_0 c0_1 c0_2 w1 w2k w2v w3k w3v w4k w4v).a):Bool),(((OS.mk c0_0 c0_1 c0_2 w1 w2k w2v w3k w3v w4k w4v).b):Int),(((OS.mk c0_0 c0_1 c0_2 w1 w2k w2v w3k w3v w4k w4v).c):Int),(((OS.mk c0_0 c0_1 c0_2 w1 w2k w2v w3k w3v w4k w4v).q):List TQuestion),(((OS.mk c0_0 c0_1 c0_2 w1 w2k w2v w3k w3v w4k w4v).k):List ByteArray),(((OS.mk c0_0 c0_1 c0_2 w1 w2k w2v w3k w3v w4k w4v).v):List Int),(((OS.mk c0_0 c0_1 c0_2 w1 w2k w2v w3k w3v w4k w4v).s):List ByteArray),(((OS.mk c0_0 c0_1 c0_2 w1 w2k w2v w3k w3v w4k w4v).t):List (List Int)),(((OS.mk c0_0 c0_1 c0_2 w1 w2k w2v w3k w3v w4k w4v).x):List ByteArray),(((OS.mk c0_0 c0_1 c0_2 w1 w2k w2v w3k w3v w4k w4v).y):List Bool),()):=by
 obtain⟨h1,⟨h2,h3⟩,h4⟩:=h
 have ho:=h4.or
 have hu:Us [p1]:=by intro x hx;rw[List.mem_singleton]at hx;subst hx;exact h1
 refine k14i ⟨by omega,fun e=> ?_,fun e=>⟨⟨h2,hu,by omega,by simp⟩,ho.len,?_⟩⟩
 ·have e:allB p2=false:=by simpa using e
  simp[pk,e]
 ·have e:allB p2=true:=by simpa using e
  dsimp only
  refine⟨fun hm=> ?_,fun hm=>⟨fun hi=> ?_,fun hi=>⟨⟨rfl,h1,h2,by omega⟩,?_⟩⟩⟩
  ·have hv:=k14h h4 hm
   refine⟨hv.1,hv.2,?_⟩
   simp[pk,e,hm]
  ·simp[pk,e,hm,hi]
  ·simp[pk,e,hm,hi]
noncomputable def ksw:Con TB.den:=k4r.fnR (fun x=>(fun(p1:Int) (p2:List Int) (c0_0:Bool) (c0_1:Int) (c0_2:Int) (w1:List TQuestion) (w2k:List ByteArray) (w2v:List Int) (w3k:List ByteArray) (w3v:List (List Int)) (w4k:List ByteArray) (w4v:List Bool)=>U64 p1∧(Us p2∧p2.length≤1000000000)∧OOk (OS.mk c0_0 c0_1 c0_2 w1 w2k w2v w3k w3v w4k w4v)) x.1 x.2.1 x.2.2.1 x.2.2.2.1 x.2.2.2.2.1 x.2.2.2.2.2.1 x.2.2.2.2.2.2.1 x.2.2.2.2.2.2.2.1 x.2.2.2.2.2.2.2.2.1 x.2.2.2.2.2.2.2.2.2.1 x.2.2.2.2.2.2.2.2.2.2.1 x.2.2.2.2.2.2.2.2.2.2.2.1) fun x=>((fun(p1:Int) (p2:List Int) (c0_0:Bool) (c0_1:Int) (c0_2:Int) (w1:List TQuestion) (w2k:List ByteArray) (w2v:List Int) (w3k:List ByteArray) (w3v:List (List Int)) (w4k:List ByteArray) (w4v:List Bool)=>(((pk c0_0 w1 w2k w2v p1 p2).getD 0):Int)) x.1 x.2.1 x.2.2.1 x.2.2.2.1 x.2.2.2.2.1 x.2.2.2.2.2.1 x.2.2.2.2.2.2.1 x.2.2.2.2.2.2.2.1 x.2.2.2.2.2.2.2.2.1 x.2.2.2.2.2.2.2.2.2.1 x.2.2.2.2.2.2.2.2.2.2.1 x.2.2.2.2.2.2.2.2.2.2.2.1,(fun(p1:Int) (p2:List Int) (c0_0:Bool) (c0_1:Int) (c0_2:Int) (w1:List TQuestion) (w2k:List ByteArray) (w2v:List Int) (w3k:List ByteArray) (w3v:List (List Int)) (w4k:List ByteArray) (w4v:List Bool)=>(((pk c0_0 w1 w2k w2v p1 p2).isSome):Bool)) x.1 x.2.1 x.2.2.1 x.2.2.2.1 x.2.2.2.2.1 x.2.2.2.2.2.1 x.2.2.2.2.2.2.1 x.2.2.2.2.2.2.2.1 x.2.2.2.2.2.2.2.2.1 x.2.2.2.2.2.2.2.2.2.1 x.2.2.2.2.2.2.2.2.2.2.1 x.2.2.2.2.2.2.2.2.2.2.2.1,(fun(p1:Int) (p2:List Int) (c0_0:Bool) (c0_1:Int) (c0_2:Int) (w1:List TQuestion) (w2k:List ByteArray) (w2v:List Int) (w3k:List ByteArray) (w3v:List (List Int)) (w4k:List ByteArray) (w4v:List Bool)=>(((OS.mk c0_0 c0_1 c0_2 w1 w2k w2v w3k w3v w4k w4v).a):Bool)) x.1 x.2.1 x.2.2.1 x.2.2.2.1 x.2.2.2.2.1 x.2.2.2.2.2.1 x.2.2.2.2.2.2.1 x.2.2.2.2.2.2.2.1 x.2.2.2.2.2.2.2.2.1 x.2.2.2.2.2.2.2.2.2.1 x.2.2.2.2.2.2.2.2.2.2.1 x.2.2.2.2.2.2.2.2.2.2.2.1,(fun(p1:Int) (p2:List Int) (c0_0:Bool) (c0_1:Int) (c0_2:Int) (w1:List TQuestion) (w2k:List ByteArray) (w2v:List Int) (w3k:List ByteArray) (w3v:List (List Int)) (w4k:List ByteArray) (w4v:List Bool)=>(((OS.mk c0_0 c0_1 c0_2 w1 w2k w2v w3k w3v w4k w4v).b):Int)) x.1 x.2.1 x.2.2.1 x.2.2.2.1 x.2.2.2.2.1 x.2.2.2.2.2.1 x.2.2.2.2.2.2.1 x.2.2.2.2.2.2.2.1 x.2.2.2.2.2.2.2.2.1 x.2.2.2.2.2.2.2.2.2.1 x.2.2.2.2.2.2.2.2.2.2.1 x.2.2.2.2.2.2.2.2.2.2.2.1,(fun(p1:Int) (p2:List Int) (c0_0:Bool) (c0_1:Int) (c0_2:Int) (w1:List TQuestion) (w2k:List ByteArray) (w2v:List Int) (w3k:List ByteArray) (w3v:List (List Int)) (w4k:List ByteArray) (w4v:List Bool)=>(((OS.mk c0_0 c0_1 c0_2 w1 w2k w2v w3k w3v w4k w4v).c):Int)) x.1 x.2.1 x.2.2.1 x.2.2.2.1 x.2.2.2.2.1 x.2.2.2.2.2.1 x.2.2.2.2.2.2.1 x.2.2.2.2.2.2.2.1 x.2.2.2.2.2.2.2.2.1 x.2.2.2.2.2.2.2.2.2.1 x.2.2.2.2.2.2.2.2.2.2.1 x.2.2.2.2.2.2.2.2.2.2.2.1,(fun(p1:Int) (p2:List Int) (c0_0:Bool) (c0_1:Int) (c0_2:Int) (w1:List TQuestion) (w2k:List ByteArray) (w2v:List Int) (w3k:List ByteArray) (w3v:List (List Int)) (w4k:List ByteArray) (w4v:List Bool)=>(((OS.mk c0_0 c0_1 c0_2 w1 w2k w2v w3k w3v w4k w4v).q):List TQuestion)) x.1 x.2.1 x.2.2.1 x.2.2.2.1 x.2.2.2.2.1 x.2.2.2.2.2.1 x.2.2.2.2.2.2.1 x.2.2.2.2.2.2.2.1 x.2.2.2.2.2.2.2.2.1 x.2.2.2.2.2.2.2.2.2.1 x.2.2.2.2.2.2.2.2.2.2.1 x.2.2.2.2.2.2.2.2.2.2.2.1,(fun(p1:Int) (p2:List Int) (c0_0:Bool) (c0_1:Int) (c0_2:Int) (w1:List TQuestion) (w2k:List ByteArray) (w2v:List Int) (w3k:List ByteArray) (w3v:List (List Int)) (w4k:List ByteArray) (w4v:List Bool)=>(((OS.mk c0_0 c0_1 c0_2 w1 w2k w2v w3k w3v w4k w4v).k):List ByteArray)) x.1 x.2.1 x.2.2.1 x.2.2.2.1 x.2.2.2.2.1 x.2.2.2.2.2.1 x.2.2.2.2.2.2.1 x.2.2.2.2.2.2.2.1 x.2.2.2.2.2.2.2.2.1 x.2.2.2.2.2.2.2.2.2.1 x.2.2.2.2.2.2.2.2.2.2.1 x.2.2.2.2.2.2.2.2.2.2.2.1,(fun(p1:Int) (p2:List Int) (c0_0:Bool) (c0_1:Int) (c0_2:Int) (w1:List TQuestion) (w2k:List ByteArray) (w2v:List Int) (w3k:List ByteArray) (w3v:List (List Int)) (w4k:List ByteArray) (w4v:List Bool)=>(((OS.mk c0_0 c0_1 c0_2 w1 w2k w2v w3k w3v w4k w4v).v):List Int)) x.1 x.2.1 x.2.2.1 x.2.2.2.1 x.2.2.2.2.1 x.2.2.2.2.2.1 x.2.2.2.2.2.2.1 x.2.2.2.2.2.2.2.1 x.2.2.2.2.2.2.2.2.1 x.2.2.2.2.2.2.2.2.2.1 x.2.2.2.2.2.2.2.2.2.2.1 x.2.2.2.2.2.2.2.2.2.2.2.1,(fun(p1:Int) (p2:List Int) (c0_0:Bool) (c0_1:Int) (c0_2:Int) (w1:List TQuestion) (w2k:List ByteArray) (w2v:List Int) (w3k:List ByteArray) (w3v:List (List Int)) (w4k:List ByteArray) (w4v:List Bool)=>(((OS.mk c0_0 c0_1 c0_2 w1 w2k w2v w3k w3v w4k w4v).s):List ByteArray)) x.1 x.2.1 x.2.2.1 x.2.2.2.1 x.2.2.2.2.1 x.2.2.2.2.2.1 x.2.2.2.2.2.2.1 x.2.2.2.2.2.2.2.1 x.2.2.2.2.2.2.2.2.1 x.2.2.2.2.2.2.2.2.2.1 x.2.2.2.2.2.2.2.2.2.2.1 x.2.2.2.2.2.2.2.2.2.2.2.1,(fun(p1:Int) (p2:List Int) (c0_0:Bool) (c0_1:Int) (c0_2:Int) (w1:List TQuestion) (w2k:List ByteArray) (w2v:List Int) (w3k:List ByteArray) (w3v:List (List Int)) (w4k:List ByteArray) (w4v:List Bool)=>(((OS.mk c0_0 c0_1 c0_2 w1 w2k w2v w3k w3v w4k w4v).t):List (List Int))) x.1 x.2.1 x.2.2.1 x.2.2.2.1 x.2.2.2.2.1 x.2.2.2.2.2.1 x.2.2.2.2.2.2.1 x.2.2.2.2.2.2.2.1 x.2.2.2.2.2.2.2.2.1 x.2.2.2.2.2.2.2.2.2.1 x.2.2.2.2.2.2.2.2.2.2.1 x.2.2.2.2.2.2.2.2.2.2.2.1,(fun(p1:Int) (p2:List Int) (c0_0:Bool) (c0_1:Int) (c0_2:Int) (w1:List TQuestion) (w2k:List ByteArray) (w2v:List Int) (w3k:List ByteArray) (w3v:List (List Int)) (w4k:List ByteArray) (w4v:List Bool)=>(((OS.mk c0_0 c0_1 c0_2 w1 w2k w2v w3k w3v w4k w4v).x):List ByteArray)) x.1 x.2.1 x.2.2.1 x.2.2.2.1 x.2.2.2.2.1 x.2.2.2.2.2.1 x.2.2.2.2.2.2.1 x.2.2.2.2.2.2.2.1 x.2.2.2.2.2.2.2.2.1 x.2.2.2.2.2.2.2.2.2.1 x.2.2.2.2.2.2.2.2.2.2.1 x.2.2.2.2.2.2.2.2.2.2.2.1,(fun(p1:Int) (p2:List Int) (c0_0:Bool) (c0_1:Int) (c0_2:Int) (w1:List TQuestion) (w2k:List ByteArray) (w2v:List Int) (w3k:List ByteArray) (w3v:List (List Int)) (w4k:List ByteArray) (w4v:List Bool)=>(((OS.mk c0_0 c0_1 c0_2 w1 w2k w2v w3k w3v w4k w4v).y):List Bool)) x.1 x.2.1 x.2.2.1 x.2.2.2.1 x.2.2.2.2.1 x.2.2.2.2.2.1 x.2.2.2.2.2.2.1 x.2.2.2.2.2.2.2.1 x.2.2.2.2.2.2.2.2.1 x.2.2.2.2.2.2.2.2.2.1 x.2.2.2.2.2.2.2.2.2.2.1 x.2.2.2.2.2.2.2.2.2.2.2.1,())
theorem k14q:ksw.Ok Try.prog TB:=Con.ok_fn k4r bd25 fun x h=>k12z (k11z x.1 x.2.1 x.2.2.1 x.2.2.2.1 x.2.2.2.2.1 x.2.2.2.2.2.1 x.2.2.2.2.2.2.1 x.2.2.2.2.2.2.2.1 x.2.2.2.2.2.2.2.2.1 x.2.2.2.2.2.2.2.2.2.1 x.2.2.2.2.2.2.2.2.2.2.1 x.2.2.2.2.2.2.2.2.2.2.2.1 h)
theorem bd40:Callable Try.prog 40:=⟨by rw[Try.func40];kernel_rfl,by rw[Try.func40];show some _≠some _;decide⟩
def k4u:Con TB.den:=Con.mk0 40 [.one (.ptr 0 0)] [.cells [.d (.bool),.d (.int .u64),.d (.int .i64),.own 1,.mp 2,.mp 3,.mp 4],.tip (.st 1),.map (.str) (.int .i64),.map (.str) (.sl (.int .u64)),.map (.str) (.bool)] (.one (.one (.d (.int .u64)))) [.cells [.d (.bool),.d (.int .u64),.d (.int .i64),.own 1,.mp 2,.mp 3,.mp 4],.tip (.st 1),.map (.str) (.int .i64),.map (.str) (.sl (.int .u64)),.map (.str) (.bool)]
abbrev kvw:=HL TB.den (hsT k4u.ins (hsOs k4u.pre))
abbrev khf:=HL TB.den (hsV k4u.res (hsOs k4u.post))
noncomputable def kc8:Cx TB:=⟨inf,[],[],4,[]⟩
noncomputable def kiq:Code:=Try.f40.body.getD .skip
noncomputable def kmd:List ResultVar:=Try.f40.results.toList
noncomputable def ku4 (o:khf):An TB:= .no
def kj7 (x:kvw) (o:khf):Prop:=WPh TB kc8 42 5 kiq (ku4 o) (k4u.st TB x) (retTQ TB kc8 k4u kmd o)
theorem k12f (o:khf):OblH TB kc8 42 5 kiq (ku4 o) (retTQ TB kc8 k4u kmd o):=
 OblH.ofC (X:=True) (by kernel_rfl) trivial
theorem k12p {x:kvw} {o:khf} (h:kj7 x o):k4u.Snd Try.prog x o:=
 Con.soundH (c:=k4u) (C:=kc8) TBok ⟨inf_ok,all_nil,all_nil⟩ mix Try.func40 (show Try.f40.body=some kiq by kernel_rfl) (show Try.f40.ntmps=42 by kernel_rfl) (show Try.f40.results.toList=kmd by kernel_rfl) rfl h (k12f o)
theorem k157 {c0_0:Bool} {c0_1:Int} {c0_2:Int} {w1:List TQuestion} {w2k:List ByteArray} {w2v:List Int} {w3k:List ByteArray} {w3v:List (List Int)} {w4k:List ByteArray} {w4v:List Bool} {r0:Int} {d0_0:Bool} {d0_1:Int} {d0_2:Int} {e1:List TQuestion} {e2k:List ByteArray} {e2v:List Int} {e3k:List ByteArray} {e3v:List (List Int)} {e4k:List ByteArray} {e4v:List Bool} (h:
(((!c0_0)=true→
(w1=w1)∧0=r0∧c0_0=d0_0∧c0_1=d0_1∧c0_2=d0_2∧w1=e1∧w2k=e2k∧w2v=e2v∧w3k=e3k∧w3v=e3v∧w4k=e4k∧w4v=e4v)∧
((!c0_0)=false→
 let v1:Int:=IntKind.u64.wrap (c0_1+11400714819323198485)
 let v2:Int:=IntKind.u64.wrap ((ixor .u64 v1 (ishr .u64 v1 30))*13787848793156543929)
 let v3:Int:=IntKind.u64.wrap ((ixor .u64 v2 (ishr .u64 v2 27))*10723151780598845931)
 let v4:Int:=Int.tmod (ixor .u64 v3 (ishr .u64 v3 31)) 18446744069414584321
(w1=w1)∧v4=r0∧c0_0=d0_0∧v1=d0_1∧IntKind.i64.wrap (c0_2+1)=d0_2∧w1=e1∧w2k=e2k∧w2v=e2v∧w3k=e3k∧w3v=e3v∧w4k=e4k∧w4v=e4v))):kj7 (c0_0,c0_1,c0_2,w1,w2k,w2v,w3k,w3v,w4k,w4v,()) (r0,d0_0,d0_1,d0_2,e1,e2k,e2v,e3k,e3v,e4k,e4v,()):=WPh.of_eq (by kernel_rfl) h
theorem k10t (c0_0:Bool) (c0_1:Int) (c0_2:Int) (w1:List TQuestion) (w2k:List ByteArray) (w2v:List Int) (w3k:List ByteArray) (w3v:List (List Int)) (w4k:List ByteArray) (w4v:List Bool):kj7 (c0_0,c0_1,c0_2,w1,w2k,w2v,w3k,w3v,w4k,w4v,()) ((((drO (OS.mk c0_0 c0_1 c0_2 w1 w2k w2v w3k w3v w4k w4v)).n):Int),(((drO (OS.mk c0_0 c0_1 c0_2 w1 w2k w2v w3k w3v w4k w4v)).o.a):Bool),(((drO (OS.mk c0_0 c0_1 c0_2 w1 w2k w2v w3k w3v w4k w4v)).o.b):Int),(((drO (OS.mk c0_0 c0_1 c0_2 w1 w2k w2v w3k w3v w4k w4v)).o.c):Int),(((drO (OS.mk c0_0 c0_1 c0_2 w1 w2k w2v w3k w3v w4k w4v)).o.q):List TQuestion),(((drO (OS.mk c0_0 c0_1 c0_2 w1 w2k w2v w3k w3v w4k w4v)).o.k):List ByteArray),(((drO (OS.mk c0_0 c0_1 c0_2 w1 w2k w2v w3k w3v w4k w4v)).o.v):List Int),(((drO (OS.mk c0_0 c0_1 c0_2 w1 w2k w2v w3k w3v w4k w4v)).o.s):List ByteArray),(((drO (OS.mk c0_0 c0_1 c0_2 w1 w2k w2v w3k w3v w4k w4v)).o.t):List (List Int)),(((drO (OS.mk c0_0 c0_1 c0_2 w1 w2k w2v w3k w3v w4k w4v)).o.x):List ByteArray),(((drO (OS.mk c0_0 c0_1 c0_2 w1 w2k w2v w3k w3v w4k w4v)).o.y):List Bool),()):=by
 refine k157 ⟨fun e=> ?_,fun e=> ?_⟩
 ·have e:c0_0=false:=by simpa using e
  subst e
  exact⟨rfl,rfl,rfl,rfl,rfl,rfl,rfl,rfl,rfl,rfl,rfl,rfl⟩
 ·have e:c0_0=true:=by simpa using e
  subst e
  exact⟨rfl,rfl,rfl,rfl,rfl,rfl,rfl,rfl,rfl,rfl,rfl,rfl⟩
noncomputable def ksv:Con TB.den:=k4u.totR fun x=>((fun(c0_0:Bool) (c0_1:Int) (c0_2:Int) (w1:List TQuestion) (w2k:List ByteArray) (w2v:List Int) (w3k:List ByteArray) (w3v:List (List Int)) (w4k:List ByteArray) (w4v:List Bool)=>(((drO (OS.mk c0_0 c0_1 c0_2 w1 w2k w2v w3k w3v w4k w4v)).n):Int)) x.1 x.2.1 x.2.2.1 x.2.2.2.1 x.2.2.2.2.1 x.2.2.2.2.2.1 x.2.2.2.2.2.2.1 x.2.2.2.2.2.2.2.1 x.2.2.2.2.2.2.2.2.1 x.2.2.2.2.2.2.2.2.2.1,(fun(c0_0:Bool) (c0_1:Int) (c0_2:Int) (w1:List TQuestion) (w2k:List ByteArray) (w2v:List Int) (w3k:List ByteArray) (w3v:List (List Int)) (w4k:List ByteArray) (w4v:List Bool)=>(((drO (OS.mk c0_0 c0_1 c0_2 w1 w2k w2v w3k w3v w4k w4v)).o.a):Bool)) x.1 x.2.1 x.2.2.1 x.2.2.2.1 x.2.2.2.2.1 x.2.2.2.2.2.1 x.2.2.2.2.2.2.1 x.2.2.2.2.2.2.2.1 x.2.2.2.2.2.2.2.2.1 x.2.2.2.2.2.2.2.2.2.1,(fun(c0_0:Bool) (c0_1:Int) (c0_2:Int) (w1:List TQuestion) (w2k:List ByteArray) (w2v:List Int) (w3k:List ByteArray) (w3v:List (List Int)) (w4k:List ByteArray) (w4v:List Bool)=>(((drO (OS.mk c0_0 c0_1 c0_2 w1 w2k w2v w3k w3v w4k w4v)).o.b):Int)) x.1 x.2.1 x.2.2.1 x.2.2.2.1 x.2.2.2.2.1 x.2.2.2.2.2.1 x.2.2.2.2.2.2.1 x.2.2.2.2.2.2.2.1 x.2.2.2.2.2.2.2.2.1 x.2.2.2.2.2.2.2.2.2.1,(fun(c0_0:Bool) (c0_1:Int) (c0_2:Int) (w1:List TQuestion) (w2k:List ByteArray) (w2v:List Int) (w3k:List ByteArray) (w3v:List (List Int)) (w4k:List ByteArray) (w4v:List Bool)=>(((drO (OS.mk c0_0 c0_1 c0_2 w1 w2k w2v w3k w3v w4k w4v)).o.c):Int)) x.1 x.2.1 x.2.2.1 x.2.2.2.1 x.2.2.2.2.1 x.2.2.2.2.2.1 x.2.2.2.2.2.2.1 x.2.2.2.2.2.2.2.1 x.2.2.2.2.2.2.2.2.1 x.2.2.2.2.2.2.2.2.2.1,(fun(c0_0:Bool) (c0_1:Int) (c0_2:Int) (w1:List TQuestion) (w2k:List ByteArray) (w2v:List Int) (w3k:List ByteArray) (w3v:List (List Int)) (w4k:List ByteArray) (w4v:List Bool)=>(((drO (OS.mk c0_0 c0_1 c0_2 w1 w2k w2v w3k w3v w4k w4v)).o.q):List TQuestion)) x.1 x.2.1 x.2.2.1 x.2.2.2.1 x.2.2.2.2.1 x.2.2.2.2.2.1 x.2.2.2.2.2.2.1 x.2.2.2.2.2.2.2.1 x.2.2.2.2.2.2.2.2.1 x.2.2.2.2.2.2.2.2.2.1,(fun(c0_0:Bool) (c0_1:Int) (c0_2:Int) (w1:List TQuestion) (w2k:List ByteArray) (w2v:List Int) (w3k:List ByteArray) (w3v:List (List Int)) (w4k:List ByteArray) (w4v:List Bool)=>(((drO (OS.mk c0_0 c0_1 c0_2 w1 w2k w2v w3k w3v w4k w4v)).o.k):List ByteArray)) x.1 x.2.1 x.2.2.1 x.2.2.2.1 x.2.2.2.2.1 x.2.2.2.2.2.1 x.2.2.2.2.2.2.1 x.2.2.2.2.2.2.2.1 x.2.2.2.2.2.2.2.2.1 x.2.2.2.2.2.2.2.2.2.1,(fun(c0_0:Bool) (c0_1:Int) (c0_2:Int) (w1:List TQuestion) (w2k:List ByteArray) (w2v:List Int) (w3k:List ByteArray) (w3v:List (List Int)) (w4k:List ByteArray) (w4v:List Bool)=>(((drO (OS.mk c0_0 c0_1 c0_2 w1 w2k w2v w3k w3v w4k w4v)).o.v):List Int)) x.1 x.2.1 x.2.2.1 x.2.2.2.1 x.2.2.2.2.1 x.2.2.2.2.2.1 x.2.2.2.2.2.2.1 x.2.2.2.2.2.2.2.1 x.2.2.2.2.2.2.2.2.1 x.2.2.2.2.2.2.2.2.2.1,(fun(c0_0:Bool) (c0_1:Int) (c0_2:Int) (w1:List TQuestion) (w2k:List ByteArray) (w2v:List Int) (w3k:List ByteArray) (w3v:List (List Int)) (w4k:List ByteArray) (w4v:List Bool)=>(((drO (OS.mk c0_0 c0_1 c0_2 w1 w2k w2v w3k w3v w4k w4v)).o.s):List ByteArray)) x.1 x.2.1 x.2.2.1 x.2.2.2.1 x.2.2.2.2.1 x.2.2.2.2.2.1 x.2.2.2.2.2.2.1 x.2.2.2.2.2.2.2.1 x.2.2.2.2.2.2.2.2.1 x.2.2.2.2.2.2.2.2.2.1,(fun(c0_0:Bool) (c0_1:Int) (c0_2:Int) (w1:List TQuestion) (w2k:List ByteArray) (w2v:List Int) (w3k:List ByteArray) (w3v:List (List Int)) (w4k:List ByteArray) (w4v:List Bool)=>(((drO (OS.mk c0_0 c0_1 c0_2 w1 w2k w2v w3k w3v w4k w4v)).o.t):List (List Int))) x.1 x.2.1 x.2.2.1 x.2.2.2.1 x.2.2.2.2.1 x.2.2.2.2.2.1 x.2.2.2.2.2.2.1 x.2.2.2.2.2.2.2.1 x.2.2.2.2.2.2.2.2.1 x.2.2.2.2.2.2.2.2.2.1,(fun(c0_0:Bool) (c0_1:Int) (c0_2:Int) (w1:List TQuestion) (w2k:List ByteArray) (w2v:List Int) (w3k:List ByteArray) (w3v:List (List Int)) (w4k:List ByteArray) (w4v:List Bool)=>(((drO (OS.mk c0_0 c0_1 c0_2 w1 w2k w2v w3k w3v w4k w4v)).o.x):List ByteArray)) x.1 x.2.1 x.2.2.1 x.2.2.2.1 x.2.2.2.2.1 x.2.2.2.2.2.1 x.2.2.2.2.2.2.1 x.2.2.2.2.2.2.2.1 x.2.2.2.2.2.2.2.2.1 x.2.2.2.2.2.2.2.2.2.1,(fun(c0_0:Bool) (c0_1:Int) (c0_2:Int) (w1:List TQuestion) (w2k:List ByteArray) (w2v:List Int) (w3k:List ByteArray) (w3v:List (List Int)) (w4k:List ByteArray) (w4v:List Bool)=>(((drO (OS.mk c0_0 c0_1 c0_2 w1 w2k w2v w3k w3v w4k w4v)).o.y):List Bool)) x.1 x.2.1 x.2.2.1 x.2.2.2.1 x.2.2.2.2.1 x.2.2.2.2.2.1 x.2.2.2.2.2.2.1 x.2.2.2.2.2.2.2.1 x.2.2.2.2.2.2.2.2.1 x.2.2.2.2.2.2.2.2.2.1,())
theorem k153:ksv.Ok Try.prog TB:=Con.ok_tot k4u bd40 fun x=>k12p (k10t x.1 x.2.1 x.2.2.1 x.2.2.2.1 x.2.2.2.2.1 x.2.2.2.2.2.1 x.2.2.2.2.2.2.1 x.2.2.2.2.2.2.2.1 x.2.2.2.2.2.2.2.2.1 x.2.2.2.2.2.2.2.2.2.1)
def k4p:Con TB.den:=Con.mk0 42 [.one (.d (.sl (.int .u64)))] [] (.one (.one (.d (.sl (.int .u64))))) []
abbrev kwa:=HL TB.den (hsT k4p.ins (hsOs k4p.pre))
abbrev khn:=HL TB.den (hsV k4p.res (hsOs k4p.post))
noncomputable def kbr:Cx TB:=⟨inf,[],[],4,[]⟩
noncomputable def kjc:Code:=Try.f42.body.getD .skip
noncomputable def kmz:List ResultVar:=Try.f42.results.toList
noncomputable def kti (o:khn):An TB:= .no
def kiu (x:kwa) (o:khn):Prop:=WPh TB kbr 5 0 kjc (kti o) (k4p.st TB x) (retTQ TB kbr k4p kmz o)
theorem k12t (o:khn):OblH TB kbr 5 0 kjc (kti o) (retTQ TB kbr k4p kmz o):=
 OblH.ofC (X:=True) (by kernel_rfl) trivial
theorem k12o {x:kwa} {o:khn} (h:kiu x o):k4p.Snd Try.prog x o:=
 Con.soundH (c:=k4p) (C:=kbr) TBok ⟨inf_ok,all_nil,all_nil⟩ mix Try.func42 (show Try.f42.body=some kjc by kernel_rfl) (show Try.f42.ntmps=5 by kernel_rfl) (show Try.f42.results.toList=kmz by kernel_rfl) rfl h (k12t o)
theorem k15l {p0:List Int} {r0:List Int} (h:
(p0.length*8≤140737488355328∧p0.length≤maxLen∧p0=r0)):kiu (p0,()) (r0,()):=WPh.of_eq (by kernel_rfl) h
theorem bd42:Callable Try.prog 42:=⟨by rw[Try.func42];kernel_rfl,by rw[Try.func42];show some _≠some _;decide⟩
theorem k10u (p0:List Int) (h:p0.length≤1000000000):kiu (p0,()) ((p0:List Int),()):=by
 exact k15l ⟨by omega,by unfold maxLen;omega,rfl⟩
noncomputable def ksq:Con TB.den:=k4p.fnR (fun x=>(fun(p0:List Int)=>p0.length≤1000000000) x.1) fun x=>((fun(p0:List Int)=>(p0:List Int)) x.1,())
theorem k14l:ksq.Ok Try.prog TB:=Con.ok_fn k4p bd42 fun x h=>k12o (k10u x.1 h)
def k3h:Con TB.den:=Con.mk0 41 [.one (.ptr 0 0),.one (.d (.str)),.one (.d (.int .u64)),.one (.d (.sl (.int .u64))),.one (.d (.int .u64))] [.cells [.d (.bool),.d (.int .u64),.d (.int .i64),.own 1,.mp 2,.mp 3,.mp 4],.tip (.st 1),.map (.str) (.int .i64),.map (.str) (.sl (.int .u64)),.map (.str) (.bool)] (.tup []) [.cells [.d (.bool),.d (.int .u64),.d (.int .i64),.own 1,.mp 2,.mp 3,.mp 4],.tip (.st 1),.map (.str) (.int .i64),.map (.str) (.sl (.int .u64)),.map (.str) (.bool)]
abbrev ksj:=HL TB.den (hsT k3h.ins (hsOs k3h.pre))
abbrev ke3:=HL TB.den (hsV k3h.res (hsOs k3h.post))
noncomputable def ka2:Cx TB:=⟨inf,[ksq],[],4,[]⟩
noncomputable def kgf:Code:=Try.f41.body.getD .skip
noncomputable def khv:List ResultVar:=Try.f41.results.toList
noncomputable def kru (o:ke3):An TB:= .no
def kgb (x:ksj) (o:ke3):Prop:=WPh TB ka2 43 5 kgf (kru o) (k3h.st TB x) (retTQ TB ka2 k3h khv o)
theorem k109 (o:ke3):OblH TB ka2 43 5 kgf (kru o) (retTQ TB ka2 k3h khv o):=
 OblH.ofC (X:=True) (by kernel_rfl) trivial
theorem k108 {x:ksj} {o:ke3} (h:kgb x o):k3h.Snd Try.prog x o:=
 Con.soundH (c:=k3h) (C:=ka2) TBok ⟨inf_ok,(all_cons k14l all_nil),all_nil⟩ mix Try.func41 (show Try.f41.body=some kgf by kernel_rfl) (show Try.f41.ntmps=43 by kernel_rfl) (show Try.f41.results.toList=khv by kernel_rfl) rfl h (k109 o)
theorem k11o {p1:ByteArray} {p2:Int} {p3:List Int} {p4:Int} {c0_0:Bool} {c0_1:Int} {c0_2:Int} {w1:List TQuestion} {w2k:List ByteArray} {w2v:List Int} {w3k:List ByteArray} {w3v:List (List Int)} {w4k:List ByteArray} {w4v:List Bool} {d0_0:Bool} {d0_1:Int} {d0_2:Int} {e1:List TQuestion} {e2k:List ByteArray} {e2v:List Int} {e3k:List ByteArray} {e3v:List (List Int)} {e4k:List ByteArray} {e4v:List Bool} (h:
(w2k.length=w2v.length∧let v1:List ByteArray:=mPutK (BEq.beq p1) w2k p1
 let v2:List Int:=mPutV (BEq.beq p1) w2k w2v (w1.length:Int)
(p3.length≤1000000000)∧w1.length=w1.length∧(w1.length+[TQuestion.mk p2 p3 p4].length)*40≤140737488355328∧w1.length+[TQuestion.mk p2 p3 p4].length≤maxLen∧(w1++[TQuestion.mk p2 p3 p4]=w1++[TQuestion.mk p2 p3 p4])∧c0_0=d0_0∧c0_1=d0_1∧c0_2=d0_2∧w1++[TQuestion.mk p2 p3 p4]=e1∧v1=e2k∧v2=e2v∧w3k=e3k∧w3v=e3v∧w4k=e4k∧w4v=e4v)):kgb (p1,p2,p3,p4,c0_0,c0_1,c0_2,w1,w2k,w2v,w3k,w3v,w4k,w4v,()) (d0_0,d0_1,d0_2,e1,e2k,e2v,e3k,e3v,e4k,e4v,()):=WPh.of_eq (by kernel_rfl) h
theorem bd41:Callable Try.prog 41:=⟨by rw[Try.func41];kernel_rfl,by rw[Try.func41];show some _≠some _;decide⟩
theorem kyf (p1:ByteArray) (p2:Int) (p3:List Int) (p4:Int) (c0_0:Bool) (c0_1:Int) (c0_2:Int) (w1:List TQuestion) (w2k:List ByteArray) (w2v:List Int) (w3k:List ByteArray) (w3v:List (List Int)) (w4k:List ByteArray) (w4v:List Bool) (h:w2k.length=w2v.length∧w1.length≤1000000∧p3.length≤1000000000):kgb (p1,p2,p3,p4,c0_0,c0_1,c0_2,w1,w2k,w2v,w3k,w3v,w4k,w4v,()) ((((recO (OS.mk c0_0 c0_1 c0_2 w1 w2k w2v w3k w3v w4k w4v) p1 p2 p3 p4).a):Bool),(((recO (OS.mk c0_0 c0_1 c0_2 w1 w2k w2v w3k w3v w4k w4v) p1 p2 p3 p4).b):Int),(((recO (OS.mk c0_0 c0_1 c0_2 w1 w2k w2v w3k w3v w4k w4v) p1 p2 p3 p4).c):Int),(((recO (OS.mk c0_0 c0_1 c0_2 w1 w2k w2v w3k w3v w4k w4v) p1 p2 p3 p4).q):List TQuestion),(((recO (OS.mk c0_0 c0_1 c0_2 w1 w2k w2v w3k w3v w4k w4v) p1 p2 p3 p4).k):List ByteArray),(((recO (OS.mk c0_0 c0_1 c0_2 w1 w2k w2v w3k w3v w4k w4v) p1 p2 p3 p4).v):List Int),(((recO (OS.mk c0_0 c0_1 c0_2 w1 w2k w2v w3k w3v w4k w4v) p1 p2 p3 p4).s):List ByteArray),(((recO (OS.mk c0_0 c0_1 c0_2 w1 w2k w2v w3k w3v w4k w4v) p1 p2 p3 p4).t):List (List Int)),(((recO (OS.mk c0_0 c0_1 c0_2 w1 w2k w2v w3k w3v w4k w4v) p1 p2 p3 p4).x):List ByteArray),(((recO (OS.mk c0_0 c0_1 c0_2 w1 w2k w2v w3k w3v w4k w4v) p1 p2 p3 p4).y):List Bool),()):=by
 obtain⟨h1,h2,h3⟩:=h
 exact k11o ⟨h1,h3,rfl,by simp;omega,by simp;unfold maxLen;omega,rfl,rfl,rfl,rfl,rfl,rfl,rfl,rfl,rfl,rfl,rfl⟩
noncomputable def kps:Con TB.den:=k3h.fnR (fun x=>(fun(p1:ByteArray) (p2:Int) (p3:List Int) (p4:Int) (c0_0:Bool) (c0_1:Int) (c0_2:Int) (w1:List TQuestion) (w2k:List ByteArray) (w2v:List Int) (w3k:List ByteArray) (w3v:List (List Int)) (w4k:List ByteArray) (w4v:List Bool)=>w2k.length=w2v.length∧w1.length≤1000000∧p3.length≤1000000000) x.1 x.2.1 x.2.2.1 x.2.2.2.1 x.2.2.2.2.1 x.2.2.2.2.2.1 x.2.2.2.2.2.2.1 x.2.2.2.2.2.2.2.1 x.2.2.2.2.2.2.2.2.1 x.2.2.2.2.2.2.2.2.2.1 x.2.2.2.2.2.2.2.2.2.2.1 x.2.2.2.2.2.2.2.2.2.2.2.1 x.2.2.2.2.2.2.2.2.2.2.2.2.1 x.2.2.2.2.2.2.2.2.2.2.2.2.2.1) fun x=>((fun(p1:ByteArray) (p2:Int) (p3:List Int) (p4:Int) (c0_0:Bool) (c0_1:Int) (c0_2:Int) (w1:List TQuestion) (w2k:List ByteArray) (w2v:List Int) (w3k:List ByteArray) (w3v:List (List Int)) (w4k:List ByteArray) (w4v:List Bool)=>(((recO (OS.mk c0_0 c0_1 c0_2 w1 w2k w2v w3k w3v w4k w4v) p1 p2 p3 p4).a):Bool)) x.1 x.2.1 x.2.2.1 x.2.2.2.1 x.2.2.2.2.1 x.2.2.2.2.2.1 x.2.2.2.2.2.2.1 x.2.2.2.2.2.2.2.1 x.2.2.2.2.2.2.2.2.1 x.2.2.2.2.2.2.2.2.2.1 x.2.2.2.2.2.2.2.2.2.2.1 x.2.2.2.2.2.2.2.2.2.2.2.1 x.2.2.2.2.2.2.2.2.2.2.2.2.1 x.2.2.2.2.2.2.2.2.2.2.2.2.2.1,(fun(p1:ByteArray) (p2:Int) (p3:List Int) (p4:Int) (c0_0:Bool) (c0_1:Int) (c0_2:Int) (w1:List TQuestion) (w2k:List ByteArray) (w2v:List Int) (w3k:List ByteArray) (w3v:List (List Int)) (w4k:List ByteArray) (w4v:List Bool)=>(((recO (OS.mk c0_0 c0_1 c0_2 w1 w2k w2v w3k w3v w4k w4v) p1 p2 p3 p4).b):Int)) x.1 x.2.1 x.2.2.1 x.2.2.2.1 x.2.2.2.2.1 x.2.2.2.2.2.1 x.2.2.2.2.2.2.1 x.2.2.2.2.2.2.2.1 x.2.2.2.2.2.2.2.2.1 x.2.2.2.2.2.2.2.2.2.1 x.2.2.2.2.2.2.2.2.2.2.1 x.2.2.2.2.2.2.2.2.2.2.2.1 x.2.2.2.2.2.2.2.2.2.2.2.2.1 x.2.2.2.2.2.2.2.2.2.2.2.2.2.1,(fun(p1:ByteArray) (p2:Int) (p3:List Int) (p4:Int) (c0_0:Bool) (c0_1:Int) (c0_2:Int) (w1:List TQuestion) (w2k:List ByteArray) (w2v:List Int) (w3k:List ByteArray) (w3v:List (List Int)) (w4k:List ByteArray) (w4v:List Bool)=>(((recO (OS.mk c0_0 c0_1 c0_2 w1 w2k w2v w3k w3v w4k w4v) p1 p2 p3 p4).c):Int)) x.1 x.2.1 x.2.2.1 x.2.2.2.1 x.2.2.2.2.1 x.2.2.2.2.2.1 x.2.2.2.2.2.2.1 x.2.2.2.2.2.2.2.1 x.2.2.2.2.2.2.2.2.1 x.2.2.2.2.2.2.2.2.2.1 x.2.2.2.2.2.2.2.2.2.2.1 x.2.2.2.2.2.2.2.2.2.2.2.1 x.2.2.2.2.2.2.2.2.2.2.2.2.1 x.2.2.2.2.2.2.2.2.2.2.2.2.2.1,(fun(p1:ByteArray) (p2:Int) (p3:List Int) (p4:Int) (c0_0:Bool) (c0_1:Int) (c0_2:Int) (w1:List TQuestion) (w2k:List ByteArray) (w2v:List Int) (w3k:List ByteArray) (w3v:List (List Int)) (w4k:List ByteArray) (w4v:List Bool)=>(((recO (OS.mk c0_0 c0_1 c0_2 w1 w2k w2v w3k w3v w4k w4v) p1 p2 p3 p4).q):List TQuestion)) x.1 x.2.1 x.2.2.1 x.2.2.2.1 x.2.2.2.2.1 x.2.2.2.2.2.1 x.2.2.2.2.2.2.1 x.2.2.2.2.2.2.2.1 x.2.2.2.2.2.2.2.2.1 x.2.2.2.2.2.2.2.2.2.1 x.2.2.2.2.2.2.2.2.2.2.1 x.2.2.2.2.2.2.2.2.2.2.2.1 x.2.2.2.2.2.2.2.2.2.2.2.2.1 x.2.2.2.2.2.2.2.2.2.2.2.2.2.1,(fun(p1:ByteArray) (p2:Int) (p3:List Int) (p4:Int) (c0_0:Bool) (c0_1:Int) (c0_2:Int) (w1:List TQuestion) (w2k:List ByteArray) (w2v:List Int) (w3k:List ByteArray) (w3v:List (List Int)) (w4k:List ByteArray) (w4v:List Bool)=>(((recO (OS.mk c0_0 c0_1 c0_2 w1 w2k w2v w3k w3v w4k w4v) p1 p2 p3 p4).k):List ByteArray)) x.1 x.2.1 x.2.2.1 x.2.2.2.1 x.2.2.2.2.1 x.2.2.2.2.2.1 x.2.2.2.2.2.2.1 x.2.2.2.2.2.2.2.1 x.2.2.2.2.2.2.2.2.1 x.2.2.2.2.2.2.2.2.2.1 x.2.2.2.2.2.2.2.2.2.2.1 x.2.2.2.2.2.2.2.2.2.2.2.1 x.2.2.2.2.2.2.2.2.2.2.2.2.1 x.2.2.2.2.2.2.2.2.2.2.2.2.2.1,(fun(p1:ByteArray) (p2:Int) (p3:List Int) (p4:Int) (c0_0:Bool) (c0_1:Int) (c0_2:Int) (w1:List TQuestion) (w2k:List ByteArray) (w2v:List Int) (w3k:List ByteArray) (w3v:List (List Int)) (w4k:List ByteArray) (w4v:List Bool)=>(((recO (OS.mk c0_0 c0_1 c0_2 w1 w2k w2v w3k w3v w4k w4v) p1 p2 p3 p4).v):List Int)) x.1 x.2.1 x.2.2.1 x.2.2.2.1 x.2.2.2.2.1 x.2.2.2.2.2.1 x.2.2.2.2.2.2.1 x.2.2.2.2.2.2.2.1 x.2.2.2.2.2.2.2.2.1 x.2.2.2.2.2.2.2.2.2.1 x.2.2.2.2.2.2.2.2.2.2.1 x.2.2.2.2.2.2.2.2.2.2.2.1 x.2.2.2.2.2.2.2.2.2.2.2.2.1 x.2.2.2.2.2.2.2.2.2.2.2.2.2.1,(fun(p1:ByteArray) (p2:Int) (p3:List Int) (p4:Int) (c0_0:Bool) (c0_1:Int) (c0_2:Int) (w1:List TQuestion) (w2k:List ByteArray) (w2v:List Int) (w3k:List ByteArray) (w3v:List (List Int)) (w4k:List ByteArray) (w4v:List Bool)=>(((recO (OS.mk c0_0 c0_1 c0_2 w1 w2k w2v w3k w3v w4k w4v) p1 p2 p3 p4).s):List ByteArray)) x.1 x.2.1 x.2.2.1 x.2.2.2.1 x.2.2.2.2.1 x.2.2.2.2.2.1 x.2.2.2.2.2.2.1 x.2.2.2.2.2.2.2.1 x.2.2.2.2.2.2.2.2.1 x.2.2.2.2.2.2.2.2.2.1 x.2.2.2.2.2.2.2.2.2.2.1 x.2.2.2.2.2.2.2.2.2.2.2.1 x.2.2.2.2.2.2.2.2.2.2.2.2.1 x.2.2.2.2.2.2.2.2.2.2.2.2.2.1,(fun(p1:ByteArray) (p2:Int) (p3:List Int) (p4:Int) (c0_0:Bool) (c0_1:Int) (c0_2:Int) (w1:List TQuestion) (w2k:List ByteArray) (w2v:List Int) (w3k:List ByteArray) (w3v:List (List Int)) (w4k:List ByteArray) (w4v:List Bool)=>(((recO (OS.mk c0_0 c0_1 c0_2 w1 w2k w2v w3k w3v w4k w4v) p1 p2 p3 p4).t):List (List Int))) x.1 x.2.1 x.2.2.1 x.2.2.2.1 x.2.2.2.2.1 x.2.2.2.2.2.1 x.2.2.2.2.2.2.1 x.2.2.2.2.2.2.2.1 x.2.2.2.2.2.2.2.2.1 x.2.2.2.2.2.2.2.2.2.1 x.2.2.2.2.2.2.2.2.2.2.1 x.2.2.2.2.2.2.2.2.2.2.2.1 x.2.2.2.2.2.2.2.2.2.2.2.2.1 x.2.2.2.2.2.2.2.2.2.2.2.2.2.1,(fun(p1:ByteArray) (p2:Int) (p3:List Int) (p4:Int) (c0_0:Bool) (c0_1:Int) (c0_2:Int) (w1:List TQuestion) (w2k:List ByteArray) (w2v:List Int) (w3k:List ByteArray) (w3v:List (List Int)) (w4k:List ByteArray) (w4v:List Bool)=>(((recO (OS.mk c0_0 c0_1 c0_2 w1 w2k w2v w3k w3v w4k w4v) p1 p2 p3 p4).x):List ByteArray)) x.1 x.2.1 x.2.2.1 x.2.2.2.1 x.2.2.2.2.1 x.2.2.2.2.2.1 x.2.2.2.2.2.2.1 x.2.2.2.2.2.2.2.1 x.2.2.2.2.2.2.2.2.1 x.2.2.2.2.2.2.2.2.2.1 x.2.2.2.2.2.2.2.2.2.2.1 x.2.2.2.2.2.2.2.2.2.2.2.1 x.2.2.2.2.2.2.2.2.2.2.2.2.1 x.2.2.2.2.2.2.2.2.2.2.2.2.2.1,(fun(p1:ByteArray) (p2:Int) (p3:List Int) (p4:Int) (c0_0:Bool) (c0_1:Int) (c0_2:Int) (w1:List TQuestion) (w2k:List ByteArray) (w2v:List Int) (w3k:List ByteArray) (w3v:List (List Int)) (w4k:List ByteArray) (w4v:List Bool)=>(((recO (OS.mk c0_0 c0_1 c0_2 w1 w2k w2v w3k w3v w4k w4v) p1 p2 p3 p4).y):List Bool)) x.1 x.2.1 x.2.2.1 x.2.2.2.1 x.2.2.2.2.1 x.2.2.2.2.2.1 x.2.2.2.2.2.2.1 x.2.2.2.2.2.2.2.1 x.2.2.2.2.2.2.2.2.1 x.2.2.2.2.2.2.2.2.2.1 x.2.2.2.2.2.2.2.2.2.2.1 x.2.2.2.2.2.2.2.2.2.2.2.1 x.2.2.2.2.2.2.2.2.2.2.2.2.1 x.2.2.2.2.2.2.2.2.2.2.2.2.2.1,())
theorem k125:kps.Ok Try.prog TB:=Con.ok_fn k3h bd41 fun x h=>k108 (kyf x.1 x.2.1 x.2.2.1 x.2.2.2.1 x.2.2.2.2.1 x.2.2.2.2.2.1 x.2.2.2.2.2.2.1 x.2.2.2.2.2.2.2.1 x.2.2.2.2.2.2.2.2.1 x.2.2.2.2.2.2.2.2.2.1 x.2.2.2.2.2.2.2.2.2.2.1 x.2.2.2.2.2.2.2.2.2.2.2.1 x.2.2.2.2.2.2.2.2.2.2.2.2.1 x.2.2.2.2.2.2.2.2.2.2.2.2.2.1 h)
def k3y:Con TB.den:=Con.mk0 30 [.one (.ptr 0 0),.one (.d (.int .u64)),.one (.d (.sl (.int .u64)))] [.cells [.d (.bool),.d (.int .u64),.d (.int .i64),.own 1,.mp 2,.mp 3,.mp 4],.tip (.st 1),.map (.str) (.int .i64),.map (.str) (.sl (.int .u64)),.map (.str) (.bool)] (.one (.one (.d (.int .u64)))) [.cells [.d (.bool),.d (.int .u64),.d (.int .i64),.own 1,.mp 2,.mp 3,.mp 4],.tip (.st 1),.map (.str) (.int .i64),.map (.str) (.sl (.int .u64)),.map (.str) (.bool)]
abbrev kvv:=HL TB.den (hsT k3y.ins (hsOs k3y.pre))
abbrev k7p:=HL TB.den (hsV k3y.res (hsOs k3y.post))
noncomputable def k85:Cx TB:=⟨inf,[kh0,kqm,ksv,kol,kps],[],4,[]⟩
noncomputable def kd9:Code:=Try.f30.body.getD .skip
noncomputable def kgi:List ResultVar:=Try.f30.results.toList
def ke5:Tm:=⟨[0,1,2,3,4],[.cells [.d (.bool),.d (.int .u64),.d (.int .i64),.own 1,.mp 2,.mp 3,.mp 4],.tip (.st 1),.map (.str) (.int .i64),.map (.str) (.sl (.int .u64)),.map (.str) (.bool)],[0,1,2,7,10],[.one (.ptr 0 0),.one (.d (.int .u64)),.one (.d (.sl (.int .u64))),.one (.d (.str)),.one (.d (.int .u64))],6⟩
def ksp (o:k7p) (i:HL TB.den ke5.hs):Prop:=ghs TB [] (ke5.fill TB i) fun s=>WP TB k85 52 5 (cB (cB (cB (cB (cB (cB kd9)))))) .no s (retTQ TB k85 k3y kgi o)
structure kc3 (o:k7p) (i:HL TB.den ke5.hs):Prop where
 h:ksp o i
noncomputable def k14a (o:k7p):An TB:= .nd [] .no [] (.jn ke5 (kc3 o) [] .no [] .no)
noncomputable def k14g (o:k7p):An TB:= .nd [] .no [] (.nd [] .no [] (.nd [] .no [] (k14a o)))
noncomputable def kuu (o:k7p):An TB:= .nd [] .no [] (k14g o)
def ki3 (x:kvv) (o:k7p):Prop:=WPh TB k85 52 5 kd9 (kuu o) (k3y.st TB x) (retTQ TB k85 k3y kgi o)
theorem k12c (o:k7p):OblH TB k85 52 5 kd9 (kuu o) (retTQ TB k85 k3y kgi o):=
 OblH.ofC (X:=((∀i,(kc3 o) i=ksp o i)∧True)) (by kernel_rfl) ⟨fun _=>propext ⟨fun h=>h.1,fun h=>⟨h⟩⟩,trivial⟩
theorem k12y {x:kvv} {o:k7p} (h:ki3 x o):k3y.Snd Try.prog x o:=
 Con.soundH (c:=k3y) (C:=k85) TBok ⟨inf_ok,(all_cons krp (all_cons kzl (all_cons k153 (all_cons ky0 (all_cons k125 all_nil))))),all_nil⟩ mix Try.func30 (show Try.f30.body=some kd9 by kernel_rfl) (show Try.f30.ntmps=52 by kernel_rfl) (show Try.f30.results.toList=kgi by kernel_rfl) rfl h (k12c o)
theorem k15j {p1:Int} {p2:List Int} {c0_0:Bool} {c0_1:Int} {c0_2:Int} {w1:List TQuestion} {w2k:List ByteArray} {w2v:List Int} {w3k:List ByteArray} {w3v:List (List Int)} {w4k:List ByteArray} {w4v:List Bool} {r0:Int} {d0_0:Bool} {d0_1:Int} {d0_2:Int} {e1:List TQuestion} {e2k:List ByteArray} {e2v:List Int} {e3k:List ByteArray} {e3v:List (List Int)} {e4k:List ByteArray} {e4v:List Bool} (h:
((p2.length≤9223372036854775807)∧((!(allB p2))=true→
(w1=w1)∧0=r0∧c0_0=d0_0∧c0_1=d0_1∧c0_2=d0_2∧w1=e1∧w2k=e2k∧w2v=e2v∧w3k=e3k∧w3v=e3v∧w4k=e4k∧w4v=e4v)∧
((!(allB p2))=false→
(Us p2∧Us [p1]∧p2.length≤1073741824∧[p1].length≤1073741824)∧w2k.length=w2v.length∧let v1:Int:=mVal (BEq.beq (keyB [p1] p2)) w2k w2v (0:Int)
(mHas (BEq.beq (keyB [p1] p2)) w2k=true→
(0≤v1)∧v1<(w1.length:Int)∧(w1=w1)∧(ix w1 v1).Answer=r0∧c0_0=d0_0∧c0_1=d0_1∧c0_2=d0_2∧w1=e1∧w2k=e2k∧w2v=e2v∧w3k=e3k∧w3v=e3v∧w4k=e4k∧w4v=e4v)∧
(mHas (BEq.beq (keyB [p1] p2)) w2k=false→
(c0_0=true→
(w1=w1)∧let r2:Int:=((drO (OS.mk c0_0 c0_1 c0_2 w1 w2k w2v w3k w3v w4k w4v)).n)
 let r3:Bool:=((drO (OS.mk c0_0 c0_1 c0_2 w1 w2k w2v w3k w3v w4k w4v)).o.a)
 let r4:Int:=((drO (OS.mk c0_0 c0_1 c0_2 w1 w2k w2v w3k w3v w4k w4v)).o.b)
 let r5:Int:=((drO (OS.mk c0_0 c0_1 c0_2 w1 w2k w2v w3k w3v w4k w4v)).o.c)
 let r6:List TQuestion:=((drO (OS.mk c0_0 c0_1 c0_2 w1 w2k w2v w3k w3v w4k w4v)).o.q)
 let r7:List ByteArray:=((drO (OS.mk c0_0 c0_1 c0_2 w1 w2k w2v w3k w3v w4k w4v)).o.k)
 let r8:List Int:=((drO (OS.mk c0_0 c0_1 c0_2 w1 w2k w2v w3k w3v w4k w4v)).o.v)
 let r9:List ByteArray:=((drO (OS.mk c0_0 c0_1 c0_2 w1 w2k w2v w3k w3v w4k w4v)).o.s)
 let r10:List (List Int):=((drO (OS.mk c0_0 c0_1 c0_2 w1 w2k w2v w3k w3v w4k w4v)).o.t)
 let r11:List ByteArray:=((drO (OS.mk c0_0 c0_1 c0_2 w1 w2k w2v w3k w3v w4k w4v)).o.x)
 let r12:List Bool:=((drO (OS.mk c0_0 c0_1 c0_2 w1 w2k w2v w3k w3v w4k w4v)).o.y)
(r6=r6)∧kc3 (r0,d0_0,d0_1,d0_2,e1,e2k,e2v,e3k,e3v,e4k,e4v,()) (p1,p2,((keyB [p1] p2):ByteArray),r2,r3,r4,r5,r6,r7,r8,r9,r10,r11,r12,()))∧
(c0_0=false→
((18446744069414584321:Int)=18446744069414584321∧U64 p1∧Us p2∧p2.length≤1099511627776)∧(w1=w1)∧kc3 (r0,d0_0,d0_1,d0_2,e1,e2k,e2v,e3k,e3v,e4k,e4v,()) (p1,p2,((keyB [p1] p2):ByteArray),((hashS p1 p2):Int),c0_0,c0_1,c0_2,w1,w2k,w2v,w3k,w3v,w4k,w4v,())))))):ki3 (p1,p2,c0_0,c0_1,c0_2,w1,w2k,w2v,w3k,w3v,w4k,w4v,()) (r0,d0_0,d0_1,d0_2,e1,e2k,e2v,e3k,e3v,e4k,e4v,()):=WPh.of_eq (by kernel_rfl) h
theorem kpu {r0:Int} {d0_0:Bool} {d0_1:Int} {d0_2:Int} {e1:List TQuestion} {e2k:List ByteArray} {e2v:List Int} {e3k:List ByteArray} {e3v:List (List Int)} {e4k:List ByteArray} {e4v:List Bool} {s1:Int} {s2:List Int} {s7:ByteArray} {s10:Int} {h0_0:Bool} {h0_1:Int} {h0_2:Int} {g1:List TQuestion} {g2k:List ByteArray} {g2v:List Int} {g3k:List ByteArray} {g3v:List (List Int)} {g4k:List ByteArray} {g4v:List Bool} (h:
((g1=g1)∧(g2k.length=g2v.length∧g1.length≤1000000∧s2.length≤1000000000)∧let r13:Bool:=((recO (OS.mk h0_0 h0_1 h0_2 g1 g2k g2v g3k g3v g4k g4v) s7 s1 s2 s10).a)
 let r14:Int:=((recO (OS.mk h0_0 h0_1 h0_2 g1 g2k g2v g3k g3v g4k g4v) s7 s1 s2 s10).b)
 let r15:Int:=((recO (OS.mk h0_0 h0_1 h0_2 g1 g2k g2v g3k g3v g4k g4v) s7 s1 s2 s10).c)
 let r16:List TQuestion:=((recO (OS.mk h0_0 h0_1 h0_2 g1 g2k g2v g3k g3v g4k g4v) s7 s1 s2 s10).q)
 let r17:List ByteArray:=((recO (OS.mk h0_0 h0_1 h0_2 g1 g2k g2v g3k g3v g4k g4v) s7 s1 s2 s10).k)
 let r18:List Int:=((recO (OS.mk h0_0 h0_1 h0_2 g1 g2k g2v g3k g3v g4k g4v) s7 s1 s2 s10).v)
 let r19:List ByteArray:=((recO (OS.mk h0_0 h0_1 h0_2 g1 g2k g2v g3k g3v g4k g4v) s7 s1 s2 s10).s)
 let r20:List (List Int):=((recO (OS.mk h0_0 h0_1 h0_2 g1 g2k g2v g3k g3v g4k g4v) s7 s1 s2 s10).t)
 let r21:List ByteArray:=((recO (OS.mk h0_0 h0_1 h0_2 g1 g2k g2v g3k g3v g4k g4v) s7 s1 s2 s10).x)
 let r22:List Bool:=((recO (OS.mk h0_0 h0_1 h0_2 g1 g2k g2v g3k g3v g4k g4v) s7 s1 s2 s10).y)
(r16=r16)∧s10=r0∧r13=d0_0∧r14=d0_1∧r15=d0_2∧r16=e1∧r17=e2k∧r18=e2v∧r19=e3k∧r20=e3v∧r21=e4k∧r22=e4v)):kc3 (r0,d0_0,d0_1,d0_2,e1,e2k,e2v,e3k,e3v,e4k,e4v,()) (s1,s2,s7,s10,h0_0,h0_1,h0_2,g1,g2k,g2v,g3k,g3v,g4k,g4v,()):=⟨mpr_of (by kernel_rfl) h⟩
theorem bd30:Callable Try.prog 30:=⟨by rw[Try.func30];kernel_rfl,by rw[Try.func30];show some _≠some _;decide⟩
theorem k120 (p1:Int) (p2:List Int) (c0_0:Bool) (c0_1:Int) (c0_2:Int) (w1:List TQuestion) (w2k:List ByteArray) (w2v:List Int) (w3k:List ByteArray) (w3v:List (List Int)) (w4k:List ByteArray) (w4v:List Bool) (h:U64 p1∧(Us p2∧p2.length≤1000000000)∧OOk (OS.mk c0_0 c0_1 c0_2 w1 w2k w2v w3k w3v w4k w4v)):ki3 (p1,p2,c0_0,c0_1,c0_2,w1,w2k,w2v,w3k,w3v,w4k,w4v,()) ((((hO (OS.mk c0_0 c0_1 c0_2 w1 w2k w2v w3k w3v w4k w4v) p1 p2).n):Int),(((hO (OS.mk c0_0 c0_1 c0_2 w1 w2k w2v w3k w3v w4k w4v) p1 p2).o.a):Bool),(((hO (OS.mk c0_0 c0_1 c0_2 w1 w2k w2v w3k w3v w4k w4v) p1 p2).o.b):Int),(((hO (OS.mk c0_0 c0_1 c0_2 w1 w2k w2v w3k w3v w4k w4v) p1 p2).o.c):Int),(((hO (OS.mk c0_0 c0_1 c0_2 w1 w2k w2v w3k w3v w4k w4v) p1 p2).o.q):List TQuestion),(((hO (OS.mk c0_0 c0_1 c0_2 w1 w2k w2v w3k w3v w4k w4v) p1 p2).o.k):List ByteArray),(((hO (OS.mk c0_0 c0_1 c0_2 w1 w2k w2v w3k w3v w4k w4v) p1 p2).o.v):List Int),(((hO (OS.mk c0_0 c0_1 c0_2 w1 w2k w2v w3k w3v w4k w4v) p1 p2).o.s):List ByteArray),(((hO (OS.mk c0_0 c0_1 c0_2 w1 w2k w2v w3k w3v w4k w4v) p1 p2).o.t):List (List Int)),(((hO (OS.mk c0_0 c0_1 c0_2 w1 w2k w2v w3k w3v w4k w4v) p1 p2).o.x):List ByteArray),(((hO (OS.mk c0_0 c0_1 c0_2 w1 w2k w2v w3k w3v w4k w4v) p1 p2).o.y):List Bool),()):=by
 obtain⟨h1,⟨h2,h3⟩,h4⟩:=h
 have hl:=h4.or.len
 have hq:=h4.q
 refine k15j ⟨by omega,fun e=> ?_,fun e=> ?_⟩
 ·have e:allB p2=false:=by simpa using e
  unfold hO
  rw[if_neg (by rw[e];decide)]
  exact⟨rfl,rfl,rfl,rfl,rfl,rfl,rfl,rfl,rfl,rfl,rfl,rfl⟩
 ·have e:allB p2=true:=by simpa using e
  refine⟨⟨h2,fun x hx=>by rw[List.mem_singleton.1 hx];exact h1,by omega,by simp⟩,hl,?_⟩
  try dsimp only
  refine⟨fun e2=> ?_,fun e2=> ?_⟩
  ·have:=k14h h4 e2
   unfold hO
   rw[if_pos e,if_pos e2]
   exact⟨this.1,this.2,rfl,rfl,rfl,rfl,rfl,rfl,rfl,rfl,rfl,rfl,rfl,rfl⟩
  ·have e3:¬mHas (BEq.beq (keyB [p1] p2)) (OS.mk c0_0 c0_1 c0_2 w1 w2k w2v w3k w3v w4k w4v).k=true:=by rw[e2];decide
   unfold hO
   rw[if_pos e,if_neg e3]
   refine⟨fun e4=> ?_,fun e4=> ?_⟩
   ·subst e4
    exact⟨rfl,rfl,kpu ⟨rfl,⟨hl,hq,h3⟩,rfl,rfl,rfl,rfl,rfl,rfl,rfl,rfl,rfl,rfl,rfl,rfl⟩⟩
   ·subst e4
    exact⟨⟨rfl,h1,h2,by omega⟩,rfl,kpu ⟨rfl,⟨hl,hq,h3⟩,rfl,rfl,rfl,rfl,rfl,rfl,rfl,rfl,rfl,rfl,rfl,rfl⟩⟩
noncomputable def kl3:Con TB.den:=k3y.fnR (fun x=>(fun(p1:Int) (p2:List Int) (c0_0:Bool) (c0_1:Int) (c0_2:Int) (w1:List TQuestion) (w2k:List ByteArray) (w2v:List Int) (w3k:List ByteArray) (w3v:List (List Int)) (w4k:List ByteArray) (w4v:List Bool)=>U64 p1∧(Us p2∧p2.length≤1000000000)∧OOk (OS.mk c0_0 c0_1 c0_2 w1 w2k w2v w3k w3v w4k w4v)) x.1 x.2.1 x.2.2.1 x.2.2.2.1 x.2.2.2.2.1 x.2.2.2.2.2.1 x.2.2.2.2.2.2.1 x.2.2.2.2.2.2.2.1 x.2.2.2.2.2.2.2.2.1 x.2.2.2.2.2.2.2.2.2.1 x.2.2.2.2.2.2.2.2.2.2.1 x.2.2.2.2.2.2.2.2.2.2.2.1) fun x=>((fun(p1:Int) (p2:List Int) (c0_0:Bool) (c0_1:Int) (c0_2:Int) (w1:List TQuestion) (w2k:List ByteArray) (w2v:List Int) (w3k:List ByteArray) (w3v:List (List Int)) (w4k:List ByteArray) (w4v:List Bool)=>(((hO (OS.mk c0_0 c0_1 c0_2 w1 w2k w2v w3k w3v w4k w4v) p1 p2).n):Int)) x.1 x.2.1 x.2.2.1 x.2.2.2.1 x.2.2.2.2.1 x.2.2.2.2.2.1 x.2.2.2.2.2.2.1 x.2.2.2.2.2.2.2.1 x.2.2.2.2.2.2.2.2.1 x.2.2.2.2.2.2.2.2.2.1 x.2.2.2.2.2.2.2.2.2.2.1 x.2.2.2.2.2.2.2.2.2.2.2.1,(fun(p1:Int) (p2:List Int) (c0_0:Bool) (c0_1:Int) (c0_2:Int) (w1:List TQuestion) (w2k:List ByteArray) (w2v:List Int) (w3k:List ByteArray) (w3v:List (List Int)) (w4k:List ByteArray) (w4v:List Bool)=>(((hO (OS.mk c0_0 c0_1 c0_2 w1 w2k w2v w3k w3v w4k w4v) p1 p2).o.a):Bool)) x.1 x.2.1 x.2.2.1 x.2.2.2.1 x.2.2.2.2.1 x.2.2.2.2.2.1 x.2.2.2.2.2.2.1 x.2.2.2.2.2.2.2.1 x.2.2.2.2.2.2.2.2.1 x.2.2.2.2.2.2.2.2.2.1 x.2.2.2.2.2.2.2.2.2.2.1 x.2.2.2.2.2.2.2.2.2.2.2.1,(fun(p1:Int) (p2:List Int) (c0_0:Bool) (c0_1:Int) (c0_2:Int) (w1:List TQuestion) (w2k:List ByteArray) (w2v:List Int) (w3k:List ByteArray) (w3v:List (List Int)) (w4k:List ByteArray) (w4v:List Bool)=>(((hO (OS.mk c0_0 c0_1 c0_2 w1 w2k w2v w3k w3v w4k w4v) p1 p2).o.b):Int)) x.1 x.2.1 x.2.2.1 x.2.2.2.1 x.2.2.2.2.1 x.2.2.2.2.2.1 x.2.2.2.2.2.2.1 x.2.2.2.2.2.2.2.1 x.2.2.2.2.2.2.2.2.1 x.2.2.2.2.2.2.2.2.2.1 x.2.2.2.2.2.2.2.2.2.2.1 x.2.2.2.2.2.2.2.2.2.2.2.1,(fun(p1:Int) (p2:List Int) (c0_0:Bool) (c0_1:Int) (c0_2:Int) (w1:List TQuestion) (w2k:List ByteArray) (w2v:List Int) (w3k:List ByteArray) (w3v:List (List Int)) (w4k:List ByteArray) (w4v:List Bool)=>(((hO (OS.mk c0_0 c0_1 c0_2 w1 w2k w2v w3k w3v w4k w4v) p1 p2).o.c):Int)) x.1 x.2.1 x.2.2.1 x.2.2.2.1 x.2.2.2.2.1 x.2.2.2.2.2.1 x.2.2.2.2.2.2.1 x.2.2.2.2.2.2.2.1 x.2.2.2.2.2.2.2.2.1 x.2.2.2.2.2.2.2.2.2.1 x.2.2.2.2.2.2.2.2.2.2.1 x.2.2.2.2.2.2.2.2.2.2.2.1,(fun(p1:Int) (p2:List Int) (c0_0:Bool) (c0_1:Int) (c0_2:Int) (w1:List TQuestion) (w2k:List ByteArray) (w2v:List Int) (w3k:List ByteArray) (w3v:List (List Int)) (w4k:List ByteArray) (w4v:List Bool)=>(((hO (OS.mk c0_0 c0_1 c0_2 w1 w2k w2v w3k w3v w4k w4v) p1 p2).o.q):List TQuestion)) x.1 x.2.1 x.2.2.1 x.2.2.2.1 x.2.2.2.2.1 x.2.2.2.2.2.1 x.2.2.2.2.2.2.1 x.2.2.2.2.2.2.2.1 x.2.2.2.2.2.2.2.2.1 x.2.2.2.2.2.2.2.2.2.1 x.2.2.2.2.2.2.2.2.2.2.1 x.2.2.2.2.2.2.2.2.2.2.2.1,(fun(p1:Int) (p2:List Int) (c0_0:Bool) (c0_1:Int) (c0_2:Int) (w1:List TQuestion) (w2k:List ByteArray) (w2v:List Int) (w3k:List ByteArray) (w3v:List (List Int)) (w4k:List ByteArray) (w4v:List Bool)=>(((hO (OS.mk c0_0 c0_1 c0_2 w1 w2k w2v w3k w3v w4k w4v) p1 p2).o.k):List ByteArray)) x.1 x.2.1 x.2.2.1 x.2.2.2.1 x.2.2.2.2.1 x.2.2.2.2.2.1 x.2.2.2.2.2.2.1 x.2.2.2.2.2.2.2.1 x.2.2.2.2.2.2.2.2.1 x.2.2.2.2.2.2.2.2.2.1 x.2.2.2.2.2.2.2.2.2.2.1 x.2.2.2.2.2.2.2.2.2.2.2.1,(fun(p1:Int) (p2:List Int) (c0_0:Bool) (c0_1:Int) (c0_2:Int) (w1:List TQuestion) (w2k:List ByteArray) (w2v:List Int) (w3k:List ByteArray) (w3v:List (List Int)) (w4k:List ByteArray) (w4v:List Bool)=>(((hO (OS.mk c0_0 c0_1 c0_2 w1 w2k w2v w3k w3v w4k w4v) p1 p2).o.v):List Int)) x.1 x.2.1 x.2.2.1 x.2.2.2.1 x.2.2.2.2.1 x.2.2.2.2.2.1 x.2.2.2.2.2.2.1 x.2.2.2.2.2.2.2.1 x.2.2.2.2.2.2.2.2.1 x.2.2.2.2.2.2.2.2.2.1 x.2.2.2.2.2.2.2.2.2.2.1 x.2.2.2.2.2.2.2.2.2.2.2.1,(fun(p1:Int) (p2:List Int) (c0_0:Bool) (c0_1:Int) (c0_2:Int) (w1:List TQuestion) (w2k:List ByteArray) (w2v:List Int) (w3k:List ByteArray) (w3v:List (List Int)) (w4k:List ByteArray) (w4v:List Bool)=>(((hO (OS.mk c0_0 c0_1 c0_2 w1 w2k w2v w3k w3v w4k w4v) p1 p2).o.s):List ByteArray)) x.1 x.2.1 x.2.2.1 x.2.2.2.1 x.2.2.2.2.1 x.2.2.2.2.2.1 x.2.2.2.2.2.2.1 x.2.2.2.2.2.2.2.1 x.2.2.2.2.2.2.2.2.1 x.2.2.2.2.2.2.2.2.2.1 x.2.2.2.2.2.2.2.2.2.2.1 x.2.2.2.2.2.2.2.2.2.2.2.1,(fun(p1:Int) (p2:List Int) (c0_0:Bool) (c0_1:Int) (c0_2:Int) (w1:List TQuestion) (w2k:List ByteArray) (w2v:List Int) (w3k:List ByteArray) (w3v:List (List Int)) (w4k:List ByteArray) (w4v:List Bool)=>(((hO (OS.mk c0_0 c0_1 c0_2 w1 w2k w2v w3k w3v w4k w4v) p1 p2).o.t):List (List Int))) x.1 x.2.1 x.2.2.1 x.2.2.2.1 x.2.2.2.2.1 x.2.2.2.2.2.1 x.2.2.2.2.2.2.1 x.2.2.2.2.2.2.2.1 x.2.2.2.2.2.2.2.2.1 x.2.2.2.2.2.2.2.2.2.1 x.2.2.2.2.2.2.2.2.2.2.1 x.2.2.2.2.2.2.2.2.2.2.2.1,(fun(p1:Int) (p2:List Int) (c0_0:Bool) (c0_1:Int) (c0_2:Int) (w1:List TQuestion) (w2k:List ByteArray) (w2v:List Int) (w3k:List ByteArray) (w3v:List (List Int)) (w4k:List ByteArray) (w4v:List Bool)=>(((hO (OS.mk c0_0 c0_1 c0_2 w1 w2k w2v w3k w3v w4k w4v) p1 p2).o.x):List ByteArray)) x.1 x.2.1 x.2.2.1 x.2.2.2.1 x.2.2.2.2.1 x.2.2.2.2.2.1 x.2.2.2.2.2.2.1 x.2.2.2.2.2.2.2.1 x.2.2.2.2.2.2.2.2.1 x.2.2.2.2.2.2.2.2.2.1 x.2.2.2.2.2.2.2.2.2.2.1 x.2.2.2.2.2.2.2.2.2.2.2.1,(fun(p1:Int) (p2:List Int) (c0_0:Bool) (c0_1:Int) (c0_2:Int) (w1:List TQuestion) (w2k:List ByteArray) (w2v:List Int) (w3k:List ByteArray) (w3v:List (List Int)) (w4k:List ByteArray) (w4v:List Bool)=>(((hO (OS.mk c0_0 c0_1 c0_2 w1 w2k w2v w3k w3v w4k w4v) p1 p2).o.y):List Bool)) x.1 x.2.1 x.2.2.1 x.2.2.2.1 x.2.2.2.2.1 x.2.2.2.2.2.1 x.2.2.2.2.2.2.1 x.2.2.2.2.2.2.2.1 x.2.2.2.2.2.2.2.2.1 x.2.2.2.2.2.2.2.2.2.1 x.2.2.2.2.2.2.2.2.2.2.1 x.2.2.2.2.2.2.2.2.2.2.2.1,())
theorem kui:kl3.Ok Try.prog TB:=Con.ok_fn k3y bd30 fun x h=>k12y (k120 x.1 x.2.1 x.2.2.1 x.2.2.2.1 x.2.2.2.2.1 x.2.2.2.2.2.1 x.2.2.2.2.2.2.1 x.2.2.2.2.2.2.2.1 x.2.2.2.2.2.2.2.2.1 x.2.2.2.2.2.2.2.2.2.1 x.2.2.2.2.2.2.2.2.2.2.1 x.2.2.2.2.2.2.2.2.2.2.2.1 h)
def k2h:Con TB.den:=Con.mk0 13 [.one (.ptr 0 0),.agg [.d (.int .u64),.d (.int .u64)],.one (.d (.int .u64)),.one (.d (.sl (.int .u64)))] [.cells [.d (.bool),.d (.int .u64),.d (.int .i64),.own 1,.mp 2,.mp 3,.mp 4],.tip (.st 1),.map (.str) (.int .i64),.map (.str) (.sl (.int .u64)),.map (.str) (.bool)] (.one (.agg [.d (.int .u64),.d (.int .u64)])) [.cells [.d (.bool),.d (.int .u64),.d (.int .i64),.own 1,.mp 2,.mp 3,.mp 4],.tip (.st 1),.map (.str) (.int .i64),.map (.str) (.sl (.int .u64)),.map (.str) (.bool)]
abbrev kn7:=HL TB.den (hsT k2h.ins (hsOs k2h.pre))
abbrev ka6:=HL TB.den (hsV k2h.res (hsOs k2h.post))
noncomputable def k7t:Cx TB:=⟨inf,[kl3],[],4,[]⟩
noncomputable def kby:Code:=Try.f13.body.getD .skip
noncomputable def kdf:List ResultVar:=Try.f13.results.toList
noncomputable def km0 (o:ka6):An TB:= .no
def kbt (x:kn7) (o:ka6):Prop:=WPh TB k7t 20 5 kby (km0 o) (k2h.st TB x) (retTQ TB k7t k2h kdf o)
theorem kve (o:ka6):OblH TB k7t 20 5 kby (km0 o) (retTQ TB k7t k2h kdf o):=
 OblH.ofC (X:=True) (by kernel_rfl) trivial
theorem kvj {x:kn7} {o:ka6} (h:kbt x o):k2h.Snd Try.prog x o:=
 Con.soundH (c:=k2h) (C:=k7t) TBok ⟨inf_ok,(all_cons kui all_nil),all_nil⟩ mix Try.func13 (show Try.f13.body=some kby by kernel_rfl) (show Try.f13.ntmps=20 by kernel_rfl) (show Try.f13.results.toList=kdf by kernel_rfl) rfl h (kve o)
theorem kwp {p1:TTranscript} {p2:Int} {p3:List Int} {c0_0:Bool} {c0_1:Int} {c0_2:Int} {w1:List TQuestion} {w2k:List ByteArray} {w2v:List Int} {w3k:List ByteArray} {w3v:List (List Int)} {w4k:List ByteArray} {w4v:List Bool} {r0:TTranscript} {d0_0:Bool} {d0_1:Int} {d0_2:Int} {e1:List TQuestion} {e2k:List ByteArray} {e2v:List Int} {e3k:List ByteArray} {e3v:List (List Int)} {e4k:List ByteArray} {e4v:List Bool} (h:
(([p1.State,p2].length+p3.length)*8≤140737488355328∧[p1.State,p2].length+p3.length≤maxLen∧(w1=w1)∧(U64 (18:Int)∧(Us ([p1.State,p2]++p3)∧([p1.State,p2]++p3).length≤1000000000)∧OOk (OS.mk c0_0 c0_1 c0_2 w1 w2k w2v w3k w3v w4k w4v))∧let r1:Int:=((hO (OS.mk c0_0 c0_1 c0_2 w1 w2k w2v w3k w3v w4k w4v) (18:Int) ([p1.State,p2]++p3)).n)
 let r2:Bool:=((hO (OS.mk c0_0 c0_1 c0_2 w1 w2k w2v w3k w3v w4k w4v) (18:Int) ([p1.State,p2]++p3)).o.a)
 let r3:Int:=((hO (OS.mk c0_0 c0_1 c0_2 w1 w2k w2v w3k w3v w4k w4v) (18:Int) ([p1.State,p2]++p3)).o.b)
 let r4:Int:=((hO (OS.mk c0_0 c0_1 c0_2 w1 w2k w2v w3k w3v w4k w4v) (18:Int) ([p1.State,p2]++p3)).o.c)
 let r5:List TQuestion:=((hO (OS.mk c0_0 c0_1 c0_2 w1 w2k w2v w3k w3v w4k w4v) (18:Int) ([p1.State,p2]++p3)).o.q)
 let r6:List ByteArray:=((hO (OS.mk c0_0 c0_1 c0_2 w1 w2k w2v w3k w3v w4k w4v) (18:Int) ([p1.State,p2]++p3)).o.k)
 let r7:List Int:=((hO (OS.mk c0_0 c0_1 c0_2 w1 w2k w2v w3k w3v w4k w4v) (18:Int) ([p1.State,p2]++p3)).o.v)
 let r8:List ByteArray:=((hO (OS.mk c0_0 c0_1 c0_2 w1 w2k w2v w3k w3v w4k w4v) (18:Int) ([p1.State,p2]++p3)).o.s)
 let r9:List (List Int):=((hO (OS.mk c0_0 c0_1 c0_2 w1 w2k w2v w3k w3v w4k w4v) (18:Int) ([p1.State,p2]++p3)).o.t)
 let r10:List ByteArray:=((hO (OS.mk c0_0 c0_1 c0_2 w1 w2k w2v w3k w3v w4k w4v) (18:Int) ([p1.State,p2]++p3)).o.x)
 let r11:List Bool:=((hO (OS.mk c0_0 c0_1 c0_2 w1 w2k w2v w3k w3v w4k w4v) (18:Int) ([p1.State,p2]++p3)).o.y)
(r5=r5)∧r1=r0.State∧0=r0.Count∧r2=d0_0∧r3=d0_1∧r4=d0_2∧r5=e1∧r6=e2k∧r7=e2v∧r8=e3k∧r9=e3v∧r10=e4k∧r11=e4v)):kbt (p1.State,p1.Count,p2,p3,c0_0,c0_1,c0_2,w1,w2k,w2v,w3k,w3v,w4k,w4v,()) (r0.State,r0.Count,d0_0,d0_1,d0_2,e1,e2k,e2v,e3k,e3v,e4k,e4v,()):=WPh.of_eq (by kernel_rfl) h
theorem bd13:Callable Try.prog 13:=⟨by rw[Try.func13];kernel_rfl,by rw[Try.func13];show some _≠some _;decide⟩
theorem kud (p1:TTranscript) (p2:Int) (p3:List Int) (c0_0:Bool) (c0_1:Int) (c0_2:Int) (w1:List TQuestion) (w2k:List ByteArray) (w2v:List Int) (w3k:List ByteArray) (w3v:List (List Int)) (w4k:List ByteArray) (w4v:List Bool) (h:U64 p1.State∧U64 p2∧(Us p3∧p3.length≤999999990)∧OOk (OS.mk c0_0 c0_1 c0_2 w1 w2k w2v w3k w3v w4k w4v)):kbt (p1.State,p1.Count,p2,p3,c0_0,c0_1,c0_2,w1,w2k,w2v,w3k,w3v,w4k,w4v,()) ((((abO (OS.mk c0_0 c0_1 c0_2 w1 w2k w2v w3k w3v w4k w4v) p1 p2 p3).t).State:Int),(((abO (OS.mk c0_0 c0_1 c0_2 w1 w2k w2v w3k w3v w4k w4v) p1 p2 p3).t).Count:Int),(((abO (OS.mk c0_0 c0_1 c0_2 w1 w2k w2v w3k w3v w4k w4v) p1 p2 p3).o.a):Bool),(((abO (OS.mk c0_0 c0_1 c0_2 w1 w2k w2v w3k w3v w4k w4v) p1 p2 p3).o.b):Int),(((abO (OS.mk c0_0 c0_1 c0_2 w1 w2k w2v w3k w3v w4k w4v) p1 p2 p3).o.c):Int),(((abO (OS.mk c0_0 c0_1 c0_2 w1 w2k w2v w3k w3v w4k w4v) p1 p2 p3).o.q):List TQuestion),(((abO (OS.mk c0_0 c0_1 c0_2 w1 w2k w2v w3k w3v w4k w4v) p1 p2 p3).o.k):List ByteArray),(((abO (OS.mk c0_0 c0_1 c0_2 w1 w2k w2v w3k w3v w4k w4v) p1 p2 p3).o.v):List Int),(((abO (OS.mk c0_0 c0_1 c0_2 w1 w2k w2v w3k w3v w4k w4v) p1 p2 p3).o.s):List ByteArray),(((abO (OS.mk c0_0 c0_1 c0_2 w1 w2k w2v w3k w3v w4k w4v) p1 p2 p3).o.t):List (List Int)),(((abO (OS.mk c0_0 c0_1 c0_2 w1 w2k w2v w3k w3v w4k w4v) p1 p2 p3).o.x):List ByteArray),(((abO (OS.mk c0_0 c0_1 c0_2 w1 w2k w2v w3k w3v w4k w4v) p1 p2 p3).o.y):List Bool),()):=by
 obtain⟨h1,h2,⟨h3,h4⟩,h5⟩:=h
 refine kwp (r0:=(abO (OS.mk c0_0 c0_1 c0_2 w1 w2k w2v w3k w3v w4k w4v) p1 p2 p3).t) ⟨by simp;omega,by simp;unfold maxLen;omega,rfl,⟨by decide,⟨fun x hx=> ?_,by simp;omega⟩,h5⟩,rfl,rfl,rfl,rfl,rfl,rfl,rfl,rfl,rfl,rfl,rfl,rfl,rfl⟩
 rcases List.mem_append.1 hx with hx|hx
 ·rcases List.mem_cons.1 hx with rfl|hx
  ·exact h1
  ·rw[List.mem_singleton.1 hx];exact h2
 ·exact h3 x hx
noncomputable def kkf:Con TB.den:=k2h.fnR (fun x=>(fun(p1:TTranscript) (p2:Int) (p3:List Int) (c0_0:Bool) (c0_1:Int) (c0_2:Int) (w1:List TQuestion) (w2k:List ByteArray) (w2v:List Int) (w3k:List ByteArray) (w3v:List (List Int)) (w4k:List ByteArray) (w4v:List Bool)=>U64 p1.State∧U64 p2∧(Us p3∧p3.length≤999999990)∧OOk (OS.mk c0_0 c0_1 c0_2 w1 w2k w2v w3k w3v w4k w4v)) (TTranscript.mk x.1 x.2.1) x.2.2.1 x.2.2.2.1 x.2.2.2.2.1 x.2.2.2.2.2.1 x.2.2.2.2.2.2.1 x.2.2.2.2.2.2.2.1 x.2.2.2.2.2.2.2.2.1 x.2.2.2.2.2.2.2.2.2.1 x.2.2.2.2.2.2.2.2.2.2.1 x.2.2.2.2.2.2.2.2.2.2.2.1 x.2.2.2.2.2.2.2.2.2.2.2.2.1 x.2.2.2.2.2.2.2.2.2.2.2.2.2.1) fun x=>((fun(p1:TTranscript) (p2:Int) (p3:List Int) (c0_0:Bool) (c0_1:Int) (c0_2:Int) (w1:List TQuestion) (w2k:List ByteArray) (w2v:List Int) (w3k:List ByteArray) (w3v:List (List Int)) (w4k:List ByteArray) (w4v:List Bool)=>(((abO (OS.mk c0_0 c0_1 c0_2 w1 w2k w2v w3k w3v w4k w4v) p1 p2 p3).t).State:Int)) (TTranscript.mk x.1 x.2.1) x.2.2.1 x.2.2.2.1 x.2.2.2.2.1 x.2.2.2.2.2.1 x.2.2.2.2.2.2.1 x.2.2.2.2.2.2.2.1 x.2.2.2.2.2.2.2.2.1 x.2.2.2.2.2.2.2.2.2.1 x.2.2.2.2.2.2.2.2.2.2.1 x.2.2.2.2.2.2.2.2.2.2.2.1 x.2.2.2.2.2.2.2.2.2.2.2.2.1 x.2.2.2.2.2.2.2.2.2.2.2.2.2.1,(fun(p1:TTranscript) (p2:Int) (p3:List Int) (c0_0:Bool) (c0_1:Int) (c0_2:Int) (w1:List TQuestion) (w2k:List ByteArray) (w2v:List Int) (w3k:List ByteArray) (w3v:List (List Int)) (w4k:List ByteArray) (w4v:List Bool)=>(((abO (OS.mk c0_0 c0_1 c0_2 w1 w2k w2v w3k w3v w4k w4v) p1 p2 p3).t).Count:Int)) (TTranscript.mk x.1 x.2.1) x.2.2.1 x.2.2.2.1 x.2.2.2.2.1 x.2.2.2.2.2.1 x.2.2.2.2.2.2.1 x.2.2.2.2.2.2.2.1 x.2.2.2.2.2.2.2.2.1 x.2.2.2.2.2.2.2.2.2.1 x.2.2.2.2.2.2.2.2.2.2.1 x.2.2.2.2.2.2.2.2.2.2.2.1 x.2.2.2.2.2.2.2.2.2.2.2.2.1 x.2.2.2.2.2.2.2.2.2.2.2.2.2.1,(fun(p1:TTranscript) (p2:Int) (p3:List Int) (c0_0:Bool) (c0_1:Int) (c0_2:Int) (w1:List TQuestion) (w2k:List ByteArray) (w2v:List Int) (w3k:List ByteArray) (w3v:List (List Int)) (w4k:List ByteArray) (w4v:List Bool)=>(((abO (OS.mk c0_0 c0_1 c0_2 w1 w2k w2v w3k w3v w4k w4v) p1 p2 p3).o.a):Bool)) (TTranscript.mk x.1 x.2.1) x.2.2.1 x.2.2.2.1 x.2.2.2.2.1 x.2.2.2.2.2.1 x.2.2.2.2.2.2.1 x.2.2.2.2.2.2.2.1 x.2.2.2.2.2.2.2.2.1 x.2.2.2.2.2.2.2.2.2.1 x.2.2.2.2.2.2.2.2.2.2.1 x.2.2.2.2.2.2.2.2.2.2.2.1 x.2.2.2.2.2.2.2.2.2.2.2.2.1 x.2.2.2.2.2.2.2.2.2.2.2.2.2.1,(fun(p1:TTranscript) (p2:Int) (p3:List Int) (c0_0:Bool) (c0_1:Int) (c0_2:Int) (w1:List TQuestion) (w2k:List ByteArray) (w2v:List Int) (w3k:List ByteArray) (w3v:List (List Int)) (w4k:List ByteArray) (w4v:List Bool)=>(((abO (OS.mk c0_0 c0_1 c0_2 w1 w2k w2v w3k w3v w4k w4v) p1 p2 p3).o.b):Int)) (TTranscript.mk x.1 x.2.1) x.2.2.1 x.2.2.2.1 x.2.2.2.2.1 x.2.2.2.2.2.1 x.2.2.2.2.2.2.1 x.2.2.2.2.2.2.2.1 x.2.2.2.2.2.2.2.2.1 x.2.2.2.2.2.2.2.2.2.1 x.2.2.2.2.2.2.2.2.2.2.1 x.2.2.2.2.2.2.2.2.2.2.2.1 x.2.2.2.2.2.2.2.2.2.2.2.2.1 x.2.2.2.2.2.2.2.2.2.2.2.2.2.1,(fun(p1:TTranscript) (p2:Int) (p3:List Int) (c0_0:Bool) (c0_1:Int) (c0_2:Int) (w1:List TQuestion) (w2k:List ByteArray) (w2v:List Int) (w3k:List ByteArray) (w3v:List (List Int)) (w4k:List ByteArray) (w4v:List Bool)=>(((abO (OS.mk c0_0 c0_1 c0_2 w1 w2k w2v w3k w3v w4k w4v) p1 p2 p3).o.c):Int)) (TTranscript.mk x.1 x.2.1) x.2.2.1 x.2.2.2.1 x.2.2.2.2.1 x.2.2.2.2.2.1 x.2.2.2.2.2.2.1 x.2.2.2.2.2.2.2.1 x.2.2.2.2.2.2.2.2.1 x.2.2.2.2.2.2.2.2.2.1 x.2.2.2.2.2.2.2.2.2.2.1 x.2.2.2.2.2.2.2.2.2.2.2.1 x.2.2.2.2.2.2.2.2.2.2.2.2.1 x.2.2.2.2.2.2.2.2.2.2.2.2.2.1,(fun(p1:TTranscript) (p2:Int) (p3:List Int) (c0_0:Bool) (c0_1:Int) (c0_2:Int) (w1:List TQuestion) (w2k:List ByteArray) (w2v:List Int) (w3k:List ByteArray) (w3v:List (List Int)) (w4k:List ByteArray) (w4v:List Bool)=>(((abO (OS.mk c0_0 c0_1 c0_2 w1 w2k w2v w3k w3v w4k w4v) p1 p2 p3).o.q):List TQuestion)) (TTranscript.mk x.1 x.2.1) x.2.2.1 x.2.2.2.1 x.2.2.2.2.1 x.2.2.2.2.2.1 x.2.2.2.2.2.2.1 x.2.2.2.2.2.2.2.1 x.2.2.2.2.2.2.2.2.1 x.2.2.2.2.2.2.2.2.2.1 x.2.2.2.2.2.2.2.2.2.2.1 x.2.2.2.2.2.2.2.2.2.2.2.1 x.2.2.2.2.2.2.2.2.2.2.2.2.1 x.2.2.2.2.2.2.2.2.2.2.2.2.2.1,(fun(p1:TTranscript) (p2:Int) (p3:List Int) (c0_0:Bool) (c0_1:Int) (c0_2:Int) (w1:List TQuestion) (w2k:List ByteArray) (w2v:List Int) (w3k:List ByteArray) (w3v:List (List Int)) (w4k:List ByteArray) (w4v:List Bool)=>(((abO (OS.mk c0_0 c0_1 c0_2 w1 w2k w2v w3k w3v w4k w4v) p1 p2 p3).o.k):List ByteArray)) (TTranscript.mk x.1 x.2.1) x.2.2.1 x.2.2.2.1 x.2.2.2.2.1 x.2.2.2.2.2.1 x.2.2.2.2.2.2.1 x.2.2.2.2.2.2.2.1 x.2.2.2.2.2.2.2.2.1 x.2.2.2.2.2.2.2.2.2.1 x.2.2.2.2.2.2.2.2.2.2.1 x.2.2.2.2.2.2.2.2.2.2.2.1 x.2.2.2.2.2.2.2.2.2.2.2.2.1 x.2.2.2.2.2.2.2.2.2.2.2.2.2.1,(fun(p1:TTranscript) (p2:Int) (p3:List Int) (c0_0:Bool) (c0_1:Int) (c0_2:Int) (w1:List TQuestion) (w2k:List ByteArray) (w2v:List Int) (w3k:List ByteArray) (w3v:List (List Int)) (w4k:List ByteArray) (w4v:List Bool)=>(((abO (OS.mk c0_0 c0_1 c0_2 w1 w2k w2v w3k w3v w4k w4v) p1 p2 p3).o.v):List Int)) (TTranscript.mk x.1 x.2.1) x.2.2.1 x.2.2.2.1 x.2.2.2.2.1 x.2.2.2.2.2.1 x.2.2.2.2.2.2.1 x.2.2.2.2.2.2.2.1 x.2.2.2.2.2.2.2.2.1 x.2.2.2.2.2.2.2.2.2.1 x.2.2.2.2.2.2.2.2.2.2.1 x.2.2.2.2.2.2.2.2.2.2.2.1 x.2.2.2.2.2.2.2.2.2.2.2.2.1 x.2.2.2.2.2.2.2.2.2.2.2.2.2.1,(fun(p1:TTranscript) (p2:Int) (p3:List Int) (c0_0:Bool) (c0_1:Int) (c0_2:Int) (w1:List TQuestion) (w2k:List ByteArray) (w2v:List Int) (w3k:List ByteArray) (w3v:List (List Int)) (w4k:List ByteArray) (w4v:List Bool)=>(((abO (OS.mk c0_0 c0_1 c0_2 w1 w2k w2v w3k w3v w4k w4v) p1 p2 p3).o.s):List ByteArray)) (TTranscript.mk x.1 x.2.1) x.2.2.1 x.2.2.2.1 x.2.2.2.2.1 x.2.2.2.2.2.1 x.2.2.2.2.2.2.1 x.2.2.2.2.2.2.2.1 x.2.2.2.2.2.2.2.2.1 x.2.2.2.2.2.2.2.2.2.1 x.2.2.2.2.2.2.2.2.2.2.1 x.2.2.2.2.2.2.2.2.2.2.2.1 x.2.2.2.2.2.2.2.2.2.2.2.2.1 x.2.2.2.2.2.2.2.2.2.2.2.2.2.1,(fun(p1:TTranscript) (p2:Int) (p3:List Int) (c0_0:Bool) (c0_1:Int) (c0_2:Int) (w1:List TQuestion) (w2k:List ByteArray) (w2v:List Int) (w3k:List ByteArray) (w3v:List (List Int)) (w4k:List ByteArray) (w4v:List Bool)=>(((abO (OS.mk c0_0 c0_1 c0_2 w1 w2k w2v w3k w3v w4k w4v) p1 p2 p3).o.t):List (List Int))) (TTranscript.mk x.1 x.2.1) x.2.2.1 x.2.2.2.1 x.2.2.2.2.1 x.2.2.2.2.2.1 x.2.2.2.2.2.2.1 x.2.2.2.2.2.2.2.1 x.2.2.2.2.2.2.2.2.1 x.2.2.2.2.2.2.2.2.2.1 x.2.2.2.2.2.2.2.2.2.2.1 x.2.2.2.2.2.2.2.2.2.2.2.1 x.2.2.2.2.2.2.2.2.2.2.2.2.1 x.2.2.2.2.2.2.2.2.2.2.2.2.2.1,(fun(p1:TTranscript) (p2:Int) (p3:List Int) (c0_0:Bool) (c0_1:Int) (c0_2:Int) (w1:List TQuestion) (w2k:List ByteArray) (w2v:List Int) (w3k:List ByteArray) (w3v:List (List Int)) (w4k:List ByteArray) (w4v:List Bool)=>(((abO (OS.mk c0_0 c0_1 c0_2 w1 w2k w2v w3k w3v w4k w4v) p1 p2 p3).o.x):List ByteArray)) (TTranscript.mk x.1 x.2.1) x.2.2.1 x.2.2.2.1 x.2.2.2.2.1 x.2.2.2.2.2.1 x.2.2.2.2.2.2.1 x.2.2.2.2.2.2.2.1 x.2.2.2.2.2.2.2.2.1 x.2.2.2.2.2.2.2.2.2.1 x.2.2.2.2.2.2.2.2.2.2.1 x.2.2.2.2.2.2.2.2.2.2.2.1 x.2.2.2.2.2.2.2.2.2.2.2.2.1 x.2.2.2.2.2.2.2.2.2.2.2.2.2.1,(fun(p1:TTranscript) (p2:Int) (p3:List Int) (c0_0:Bool) (c0_1:Int) (c0_2:Int) (w1:List TQuestion) (w2k:List ByteArray) (w2v:List Int) (w3k:List ByteArray) (w3v:List (List Int)) (w4k:List ByteArray) (w4v:List Bool)=>(((abO (OS.mk c0_0 c0_1 c0_2 w1 w2k w2v w3k w3v w4k w4v) p1 p2 p3).o.y):List Bool)) (TTranscript.mk x.1 x.2.1) x.2.2.1 x.2.2.2.1 x.2.2.2.2.1 x.2.2.2.2.2.1 x.2.2.2.2.2.2.1 x.2.2.2.2.2.2.2.1 x.2.2.2.2.2.2.2.2.1 x.2.2.2.2.2.2.2.2.2.1 x.2.2.2.2.2.2.2.2.2.2.1 x.2.2.2.2.2.2.2.2.2.2.2.1 x.2.2.2.2.2.2.2.2.2.2.2.2.1 x.2.2.2.2.2.2.2.2.2.2.2.2.2.1,())
theorem kwz:kkf.Ok Try.prog TB:=Con.ok_fn k2h bd13 fun x h=>kvj (kud (TTranscript.mk x.1 x.2.1) x.2.2.1 x.2.2.2.1 x.2.2.2.2.1 x.2.2.2.2.2.1 x.2.2.2.2.2.2.1 x.2.2.2.2.2.2.2.1 x.2.2.2.2.2.2.2.2.1 x.2.2.2.2.2.2.2.2.2.1 x.2.2.2.2.2.2.2.2.2.2.1 x.2.2.2.2.2.2.2.2.2.2.2.1 x.2.2.2.2.2.2.2.2.2.2.2.2.1 x.2.2.2.2.2.2.2.2.2.2.2.2.2.1 h)
def k45:Con TB.den:=Con.mk0 11 [.one (.d (.int .u64))] [] (.one (.agg [.d (.int .u64),.d (.int .u64)])) []
abbrev kum:=HL TB.den (hsT k45.ins (hsOs k45.pre))
abbrev kg8:=HL TB.den (hsV k45.res (hsOs k45.post))
noncomputable def kb3:Cx TB:=⟨inf,[],[],4,[]⟩
noncomputable def kgz:Code:=Try.f11.body.getD .skip
noncomputable def kkz:List ResultVar:=Try.f11.results.toList
noncomputable def ksi (o:kg8):An TB:= .no
def kh3 (x:kum) (o:kg8):Prop:=WPh TB kb3 5 0 kgz (ksi o) (k45.st TB x) (retTQ TB kb3 k45 kkz o)
theorem k11y (o:kg8):OblH TB kb3 5 0 kgz (ksi o) (retTQ TB kb3 k45 kkz o):=
 OblH.ofC (X:=True) (by kernel_rfl) trivial
theorem k124 {x:kum} {o:kg8} (h:kh3 x o):k45.Snd Try.prog x o:=
 Con.soundH (c:=k45) (C:=kb3) TBok ⟨inf_ok,all_nil,all_nil⟩ mix Try.func11 (show Try.f11.body=some kgz by kernel_rfl) (show Try.f11.ntmps=5 by kernel_rfl) (show Try.f11.results.toList=kkz by kernel_rfl) rfl h (k11y o)
theorem k131 {p0:Int} {r0:TTranscript} (h:
(p0=r0.State∧0=r0.Count)):kh3 (p0,()) (r0.State,r0.Count,()):=WPh.of_eq (by kernel_rfl) h
theorem bd11:Callable Try.prog 11:=⟨by rw[Try.func11];kernel_rfl,by rw[Try.func11];show some _≠some _;decide⟩
theorem k105 (p0:Int):kh3 (p0,()) ((p0:Int),(0:Int),()):=by
 exact k131 (r0:=⟨p0,0⟩) ⟨rfl,rfl⟩
noncomputable def kht:Con TB.den:=k45.totR fun x=>((fun(p0:Int)=>(p0:Int)) x.1,(fun(p0:Int)=>(0:Int)) x.1,())
theorem ksl:kht.Ok Try.prog TB:=Con.ok_tot k45 bd11 fun x=>k124 (k105 x.1)
def k4n:Con TB.den:=Con.mk0 18 [.one (.ptr 0 0),.one (.d (.int .u64)),.one (.d (.sl (.st 0)))] [.cells [.d (.bool),.d (.int .u64),.d (.int .i64),.own 1,.mp 2,.mp 3,.mp 4],.tip (.st 1),.map (.str) (.int .i64),.map (.str) (.sl (.int .u64)),.map (.str) (.bool)] (.one (.agg [.d (.int .u64),.d (.int .u64)])) [.cells [.d (.bool),.d (.int .u64),.d (.int .i64),.own 1,.mp 2,.mp 3,.mp 4],.tip (.st 1),.map (.str) (.int .i64),.map (.str) (.sl (.int .u64)),.map (.str) (.bool)]
abbrev kxt:=HL TB.den (hsT k4n.ins (hsOs k4n.pre))
abbrev k8f:=HL TB.den (hsV k4n.res (hsOs k4n.post))
noncomputable def k7o:Cx TB:=⟨inf,[kht,kkf],[],4,[]⟩
noncomputable def kb5:Code:=Try.f18.body.getD .skip
noncomputable def kh9:List ResultVar:=Try.f18.results.toList
def k17d (o:k8f):=qS TB k7o 29 5 (cB (cB (cB kb5))) .no (retTQ TB k7o k4n kh9 o)
def k8w:Tm:=⟨[0,1,2,3,4,5,6],[.cells [.d (.bool),.d (.int .u64),.d (.int .i64),.own 1,.mp 2,.mp 3,.mp 4],.tip (.st 1),.map (.str) (.int .i64),.map (.str) (.sl (.int .u64)),.map (.str) (.bool),.cells [.d (.int .u64),.d (.int .u64)],.cells [.d (.int .u64),.d (.int .u64)]],[0,6,7,12,13,14],[.one (.ptr 0 0),.one (.ptr 5 0),.one (.ptr 6 0),.one (.d (.sl (.st 0))),.one (.d (.int .i64)),.one (.d (.int .i64))],7⟩
def k15u (o:k8f) (nx1:NX TB k8w):=qM TB 5 k8w nx1 (blockT TB 0 (k17d o))
def kd5 (o:k8f) (nx1:NX TB k8w) (i:HL TB.den k8w.hs):Prop:=WP TB k7o 29 5 (cA (cA (cB (cA (cB (cB kb5)))))) .no (k8w.fill TB i) (k15u o nx1)
noncomputable def k179 (o:k8f):An TB:= .nd [] .no [] (.lp [] k8w (kd5 o) fun nx1=> .no)
noncomputable def kw2 (o:k8f):An TB:= .nd [] .no [] (.nd [] .no [] (.nd [] (k179 o) [] .no))
def kl7 (x:kxt) (o:k8f):Prop:=WPh TB k7o 29 5 kb5 (kw2 o) (k4n.st TB x) (retTQ TB k7o k4n kh9 o)
theorem k14j (o:k8f):OblH TB k7o 29 5 kb5 (kw2 o) (retTQ TB k7o k4n kh9 o):=
 OblH.ofC (X:=((∀nx i,(kd5 o) nx i=(kd5 o) nx i)∧(∀nx1:NX TB k8w,True)∧True)) (by kernel_rfl) ⟨fun _ _=>rfl,fun _=>trivial,trivial⟩
theorem k15g {x:kxt} {o:k8f} (h:kl7 x o):k4n.Snd Try.prog x o:=
 Con.soundH (c:=k4n) (C:=k7o) TBok ⟨inf_ok,(all_cons ksl (all_cons kwz all_nil)),all_nil⟩ mix Try.func18 (show Try.f18.body=some kb5 by kernel_rfl) (show Try.f18.ntmps=29 by kernel_rfl) (show Try.f18.results.toList=kh9 by kernel_rfl) rfl h (k14j o)
theorem k178 {p1:Int} {p2:List TMessage} {c0_0:Bool} {c0_1:Int} {c0_2:Int} {w1:List TQuestion} {w2k:List ByteArray} {w2v:List Int} {w3k:List ByteArray} {w3v:List (List Int)} {w4k:List ByteArray} {w4v:List Bool} {r0:TTranscript} {d0_0:Bool} {d0_1:Int} {d0_2:Int} {e1:List TQuestion} {e2k:List ByteArray} {e2v:List Int} {e3k:List ByteArray} {e3v:List (List Int)} {e4k:List ByteArray} {e4v:List Bool} (h:
((w1=w1)∧Md.Loop (p2,((p2.length:Int):Int),(0:Int),c0_0,c0_1,c0_2,(0:Int),(0:Int),p1,(0:Int),w1,w2k,w2v,w3k,w3v,w4k,w4v,()) (kd5 (r0.State,r0.Count,d0_0,d0_1,d0_2,e1,e2k,e2v,e3k,e3v,e4k,e4v,())))):kl7 (p1,p2,c0_0,c0_1,c0_2,w1,w2k,w2v,w3k,w3v,w4k,w4v,()) (r0.State,r0.Count,d0_0,d0_1,d0_2,e1,e2k,e2v,e3k,e3v,e4k,e4v,()):=WPh.of_eq (by kernel_rfl) h
def kw0 (r0:TTranscript) (d0_0:Bool) (d0_1:Int) (d0_2:Int) (e1:List TQuestion) (e2k:List ByteArray) (e2v:List Int) (e3k:List ByteArray) (e3v:List (List Int)) (e4k:List ByteArray) (e4v:List Bool) (k1:Int→Bool→Int→Int→Int→Int→List TQuestion→List ByteArray→List Int→List ByteArray→List (List Int)→List ByteArray→List Bool→Prop) (s12:List TMessage) (s13:Int) (h5_0:Int) (h5_1:Int) (s14:Int) (h0_0:Bool) (h0_1:Int) (h0_2:Int) (h6_0:Int) (h6_1:Int) (g1:List TQuestion) (g2k:List ByteArray) (g2v:List Int) (g3k:List ByteArray) (g3v:List (List Int)) (g4k:List ByteArray) (g4v:List Bool):Prop:=
(decide (s14<s13)=true→
(0≤s14)∧s14<(s12.length:Int)∧(([]:List Int).length+((ix s12 s14).L).length)*8≤140737488355328∧([]:List Int).length+((ix s12 s14).L).length≤maxLen∧(g1=g1)∧(U64 (TTranscript.mk h6_0 h6_1).State∧U64 ((ix s12 s14).Tag)∧(Us (([]:List Int)++((ix s12 s14).L))∧(([]:List Int)++((ix s12 s14).L)).length≤999999990)∧OOk (OS.mk h0_0 h0_1 h0_2 g1 g2k g2v g3k g3v g4k g4v))∧let r1:Int:=((abO (OS.mk h0_0 h0_1 h0_2 g1 g2k g2v g3k g3v g4k g4v) (TTranscript.mk h6_0 h6_1) ((ix s12 s14).Tag) (([]:List Int)++((ix s12 s14).L))).t).State
 let r2:Int:=((abO (OS.mk h0_0 h0_1 h0_2 g1 g2k g2v g3k g3v g4k g4v) (TTranscript.mk h6_0 h6_1) ((ix s12 s14).Tag) (([]:List Int)++((ix s12 s14).L))).t).Count
 let r3:Bool:=((abO (OS.mk h0_0 h0_1 h0_2 g1 g2k g2v g3k g3v g4k g4v) (TTranscript.mk h6_0 h6_1) ((ix s12 s14).Tag) (([]:List Int)++((ix s12 s14).L))).o.a)
 let r4:Int:=((abO (OS.mk h0_0 h0_1 h0_2 g1 g2k g2v g3k g3v g4k g4v) (TTranscript.mk h6_0 h6_1) ((ix s12 s14).Tag) (([]:List Int)++((ix s12 s14).L))).o.b)
 let r5:Int:=((abO (OS.mk h0_0 h0_1 h0_2 g1 g2k g2v g3k g3v g4k g4v) (TTranscript.mk h6_0 h6_1) ((ix s12 s14).Tag) (([]:List Int)++((ix s12 s14).L))).o.c)
 let r6:List TQuestion:=((abO (OS.mk h0_0 h0_1 h0_2 g1 g2k g2v g3k g3v g4k g4v) (TTranscript.mk h6_0 h6_1) ((ix s12 s14).Tag) (([]:List Int)++((ix s12 s14).L))).o.q)
 let r7:List ByteArray:=((abO (OS.mk h0_0 h0_1 h0_2 g1 g2k g2v g3k g3v g4k g4v) (TTranscript.mk h6_0 h6_1) ((ix s12 s14).Tag) (([]:List Int)++((ix s12 s14).L))).o.k)
 let r8:List Int:=((abO (OS.mk h0_0 h0_1 h0_2 g1 g2k g2v g3k g3v g4k g4v) (TTranscript.mk h6_0 h6_1) ((ix s12 s14).Tag) (([]:List Int)++((ix s12 s14).L))).o.v)
 let r9:List ByteArray:=((abO (OS.mk h0_0 h0_1 h0_2 g1 g2k g2v g3k g3v g4k g4v) (TTranscript.mk h6_0 h6_1) ((ix s12 s14).Tag) (([]:List Int)++((ix s12 s14).L))).o.s)
 let r10:List (List Int):=((abO (OS.mk h0_0 h0_1 h0_2 g1 g2k g2v g3k g3v g4k g4v) (TTranscript.mk h6_0 h6_1) ((ix s12 s14).Tag) (([]:List Int)++((ix s12 s14).L))).o.t)
 let r11:List ByteArray:=((abO (OS.mk h0_0 h0_1 h0_2 g1 g2k g2v g3k g3v g4k g4v) (TTranscript.mk h6_0 h6_1) ((ix s12 s14).Tag) (([]:List Int)++((ix s12 s14).L))).o.x)
 let r12:List Bool:=((abO (OS.mk h0_0 h0_1 h0_2 g1 g2k g2v g3k g3v g4k g4v) (TTranscript.mk h6_0 h6_1) ((ix s12 s14).Tag) (([]:List Int)++((ix s12 s14).L))).o.y)
(r6=r6)∧k1 (IntKind.i64.wrap (s14+1):Int) r3 r4 r5 r1 r2 r6 r7 r8 r9 r10 r11 r12)∧
(decide (s14<s13)=false→
(g1=g1)∧h6_0=r0.State∧h6_1=r0.Count∧h0_0=d0_0∧h0_1=d0_1∧h0_2=d0_2∧g1=e1∧g2k=e2k∧g2v=e2v∧g3k=e3k∧g3v=e3v∧g4k=e4k∧g4v=e4v)
theorem k13x {r0:TTranscript} {d0_0:Bool} {d0_1:Int} {d0_2:Int} {e1:List TQuestion} {e2k:List ByteArray} {e2v:List Int} {e3k:List ByteArray} {e3v:List (List Int)} {e4k:List ByteArray} {e4v:List Bool} {s12:List TMessage} {s13:Int} {h5_0:Int} {h5_1:Int} {s14:Int} {h0_0:Bool} {h0_1:Int} {h0_2:Int} {h6_0:Int} {h6_1:Int} {g1:List TQuestion} {g2k:List ByteArray} {g2v:List Int} {g3k:List ByteArray} {g3v:List (List Int)} {g4k:List ByteArray} {g4v:List Bool} (inv:Int→Bool→Int→Int→Int→Int→List TQuestion→List ByteArray→List Int→List ByteArray→List (List Int)→List ByteArray→List Bool→Prop) (μ:Int→Bool→Int→Int→Int→Int→List TQuestion→List ByteArray→List Int→List ByteArray→List (List Int)→List ByteArray→List Bool→Nat) (h0:inv s14 h0_0 h0_1 h0_2 h6_0 h6_1 g1 g2k g2v g3k g3v g4k g4v) (hs:∀(s14:Int) (h0_0:Bool) (h0_1:Int) (h0_2:Int) (h6_0:Int) (h6_1:Int) (g1:List TQuestion) (g2k:List ByteArray) (g2v:List Int) (g3k:List ByteArray) (g3v:List (List Int)) (g4k:List ByteArray) (g4v:List Bool),inv s14 h0_0 h0_1 h0_2 h6_0 h6_1 g1 g2k g2v g3k g3v g4k g4v→kw0 r0 d0_0 d0_1 d0_2 e1 e2k e2v e3k e3v e4k e4v (fun s14q h0_0q h0_1q h0_2q h6_0q h6_1q g1q g2kq g2vq g3kq g3vq g4kq g4vq=>inv s14q h0_0q h0_1q h0_2q h6_0q h6_1q g1q g2kq g2vq g3kq g3vq g4kq g4vq∧μ s14q h0_0q h0_1q h0_2q h6_0q h6_1q g1q g2kq g2vq g3kq g3vq g4kq g4vq<μ s14 h0_0 h0_1 h0_2 h6_0 h6_1 g1 g2k g2v g3k g3v g4k g4v) s12 s13 h5_0 h5_1 s14 h0_0 h0_1 h0_2 h6_0 h6_1 g1 g2k g2v g3k g3v g4k g4v):Md.Loop (s12,s13,s14,h0_0,h0_1,h0_2,h5_0,h5_1,h6_0,h6_1,g1,g2k,g2v,g3k,g3v,g4k,g4v,()) (kd5 (r0.State,r0.Count,d0_0,d0_1,d0_2,e1,e2k,e2v,e3k,e3v,e4k,e4v,())):=
 ⟨⟨fun s:(List TMessage)×Int×Int×Bool×Int×Int×Int×Int×Int×Int×(List TQuestion)×(List ByteArray)×(List Int)×(List ByteArray)×(List (List Int))×(List ByteArray)×(List Bool)×Unit=>(s.1=s12∧s.2.1=s13∧s.2.2.2.2.2.2.1=h5_0∧s.2.2.2.2.2.2.2.1=h5_1)∧inv s.2.2.1 s.2.2.2.1 s.2.2.2.2.1 s.2.2.2.2.2.1 s.2.2.2.2.2.2.2.2.1 s.2.2.2.2.2.2.2.2.2.1 s.2.2.2.2.2.2.2.2.2.2.1 s.2.2.2.2.2.2.2.2.2.2.2.1 s.2.2.2.2.2.2.2.2.2.2.2.2.1 s.2.2.2.2.2.2.2.2.2.2.2.2.2.1 s.2.2.2.2.2.2.2.2.2.2.2.2.2.2.1 s.2.2.2.2.2.2.2.2.2.2.2.2.2.2.2.1 s.2.2.2.2.2.2.2.2.2.2.2.2.2.2.2.2.1,fun s:(List TMessage)×Int×Int×Bool×Int×Int×Int×Int×Int×Int×(List TQuestion)×(List ByteArray)×(List Int)×(List ByteArray)×(List (List Int))×(List ByteArray)×(List Bool)×Unit=>μ s.2.2.1 s.2.2.2.1 s.2.2.2.2.1 s.2.2.2.2.2.1 s.2.2.2.2.2.2.2.2.1 s.2.2.2.2.2.2.2.2.2.1 s.2.2.2.2.2.2.2.2.2.2.1 s.2.2.2.2.2.2.2.2.2.2.2.1 s.2.2.2.2.2.2.2.2.2.2.2.2.1 s.2.2.2.2.2.2.2.2.2.2.2.2.2.1 s.2.2.2.2.2.2.2.2.2.2.2.2.2.2.1 s.2.2.2.2.2.2.2.2.2.2.2.2.2.2.2.1 s.2.2.2.2.2.2.2.2.2.2.2.2.2.2.2.2.1,⟨⟨rfl,rfl,rfl,rfl⟩,h0⟩,fun(s12p,s13p,s14p,h0_0p,h0_1p,h0_2p,h5_0p,h5_1p,h6_0p,h6_1p,g1p,g2kp,g2vp,g3kp,g3vp,g4kp,g4vp,()) ⟨⟨eq0,eq1,eq2,eq3⟩,hi⟩=>by
  have eq0:s12p=s12:=eq0;subst s12p;have eq1:s13p=s13:=eq1;subst s13p;have eq2:h5_0p=h5_0:=eq2;subst h5_0p;have eq3:h5_1p=h5_1:=eq3;subst h5_1p;exact mpr_of (by kernel_rfl) ((congrArg (fun k=>kw0 r0 d0_0 d0_1 d0_2 e1 e2k e2v e3k e3v e4k e4v k s12 s13 h5_0 h5_1 s14p h0_0p h0_1p h0_2p h6_0p h6_1p g1p g2kp g2vp g3kp g3vp g4kp g4vp) (lpk13 (⟨rfl,rfl,rfl,rfl⟩:s12=s12∧s13=s13∧h5_0=h5_0∧h5_1=h5_1) inv (fun s14q h0_0q h0_1q h0_2q h6_0q h6_1q g1q g2kq g2vq g3kq g3vq g4kq g4vq=>μ s14q h0_0q h0_1q h0_2q h6_0q h6_1q g1q g2kq g2vq g3kq g3vq g4kq g4vq<μ s14p h0_0p h0_1p h0_2p h6_0p h6_1p g1p g2kp g2vp g3kp g3vp g4kp g4vp))).mpr (hs s14p h0_0p h0_1p h0_2p h6_0p h6_1p g1p g2kp g2vp g3kp g3vp g4kp g4vp hi))⟩⟩
theorem bd18:Callable Try.prog 18:=⟨by rw[Try.func18];kernel_rfl,by rw[Try.func18];show some _≠some _;decide⟩
theorem k12r (p1:Int) (p2:List TMessage) (c0_0:Bool) (c0_1:Int) (c0_2:Int) (w1:List TQuestion) (w2k:List ByteArray) (w2v:List Int) (w3k:List ByteArray) (w3v:List (List Int)) (w4k:List ByteArray) (w4v:List Bool) (h:U64 p1∧((∀m∈p2,MR m)∧p2.length≤1000)∧OOk (OS.mk c0_0 c0_1 c0_2 w1 w2k w2v w3k w3v w4k w4v)∧w1.length≤900000):kl7 (p1,p2,c0_0,c0_1,c0_2,w1,w2k,w2v,w3k,w3v,w4k,w4v,()) ((((absO (OS.mk c0_0 c0_1 c0_2 w1 w2k w2v w3k w3v w4k w4v) (TTranscript.mk p1 0) p2).t).State:Int),(((absO (OS.mk c0_0 c0_1 c0_2 w1 w2k w2v w3k w3v w4k w4v) (TTranscript.mk p1 0) p2).t).Count:Int),(((absO (OS.mk c0_0 c0_1 c0_2 w1 w2k w2v w3k w3v w4k w4v) (TTranscript.mk p1 0) p2).o.a):Bool),(((absO (OS.mk c0_0 c0_1 c0_2 w1 w2k w2v w3k w3v w4k w4v) (TTranscript.mk p1 0) p2).o.b):Int),(((absO (OS.mk c0_0 c0_1 c0_2 w1 w2k w2v w3k w3v w4k w4v) (TTranscript.mk p1 0) p2).o.c):Int),(((absO (OS.mk c0_0 c0_1 c0_2 w1 w2k w2v w3k w3v w4k w4v) (TTranscript.mk p1 0) p2).o.q):List TQuestion),(((absO (OS.mk c0_0 c0_1 c0_2 w1 w2k w2v w3k w3v w4k w4v) (TTranscript.mk p1 0) p2).o.k):List ByteArray),(((absO (OS.mk c0_0 c0_1 c0_2 w1 w2k w2v w3k w3v w4k w4v) (TTranscript.mk p1 0) p2).o.v):List Int),(((absO (OS.mk c0_0 c0_1 c0_2 w1 w2k w2v w3k w3v w4k w4v) (TTranscript.mk p1 0) p2).o.s):List ByteArray),(((absO (OS.mk c0_0 c0_1 c0_2 w1 w2k w2v w3k w3v w4k w4v) (TTranscript.mk p1 0) p2).o.t):List (List Int)),(((absO (OS.mk c0_0 c0_1 c0_2 w1 w2k w2v w3k w3v w4k w4v) (TTranscript.mk p1 0) p2).o.x):List ByteArray),(((absO (OS.mk c0_0 c0_1 c0_2 w1 w2k w2v w3k w3v w4k w4v) (TTranscript.mk p1 0) p2).o.y):List Bool),()):=by
 obtain⟨h1,⟨h2,h3⟩,h4,h5⟩:=h
 generalize hO0:absO (OS.mk c0_0 c0_1 c0_2 w1 w2k w2v w3k w3v w4k w4v) (TTranscript.mk p1 0) p2=A
 refine k178 (r0:=A.t) ⟨rfl,k13x (r0:=A.t) (fun i a b c ts tc q k v s t x y=>(0≤i∧i≤p2.length)∧U64 ts∧absO (OS.mk a b c q k v s t x y) (TTranscript.mk ts tc) (p2.drop i.toNat)=A∧OOk (OS.mk a b c q k v s t x y)∧q.length≤900000+i.toNat)
  (fun i _ _ _ _ _ _ _ _ _ _ _ _=>(p2.length-i).toNat) ⟨⟨by omega,by omega⟩,h1,hO0,h4,by omega⟩ ?_⟩
 rintro i a b c ts tc q k v s t x y ⟨⟨g0,g1⟩,g2,g3,g4,g5⟩
 refine⟨fun hh=> ?_,fun hh=> ?_⟩
 ·have hh:=of_decide_eq_true hh
  have hm:=h2 _ (ix_mem p2 i g0 hh)
  have hn:=hm.n
  rw[drop_ix p2 i g0 hh]at g3
  simp only[List.nil_append]
  have g6:=g4.h 18 (l:=[ts,(ix p2 i).Tag]++(ix p2 i).L) (by simp;omega) (show q.length≤999999 by omega)
  have g7:=g4.lt 18 ([ts,(ix p2 i).Tag]++(ix p2 i).L)
  refine⟨g0,hh,by simp;omega,by simp;unfold maxLen;omega,(by first|exact rfl|exact True.intro),⟨g2,hm.t,⟨hm.l,by omega⟩,g4⟩,(by first|exact rfl|exact True.intro),?_⟩
  rw[inc i p2.length g0 hh (by omega)]
  refine⟨⟨⟨by omega,by omega⟩,?_,g3,g6.1,?_⟩,by omega⟩
  ·exact⟨g7.1,Int.lt_trans g7.2 (by decide)⟩
  ·have:(hO (OS.mk a b c q k v s t x y) 18 ([ts,(ix p2 i).Tag]++(ix p2 i).L)).o.q.length≤q.length+1:=g6.2.2
   exact Nat.le_trans this (by omega)
 ·have hh:=of_decide_eq_false hh
  rw[List.drop_eq_nil_of_le (by omega)]at g3
  rw[←g3]
  exact⟨rfl,rfl,rfl,rfl,rfl,rfl,rfl,rfl,rfl,rfl,rfl,rfl,rfl⟩
noncomputable def kuf:Con TB.den:=k4n.fnR (fun x=>(fun(p1:Int) (p2:List TMessage) (c0_0:Bool) (c0_1:Int) (c0_2:Int) (w1:List TQuestion) (w2k:List ByteArray) (w2v:List Int) (w3k:List ByteArray) (w3v:List (List Int)) (w4k:List ByteArray) (w4v:List Bool)=>U64 p1∧((∀m∈p2,MR m)∧p2.length≤1000)∧OOk (OS.mk c0_0 c0_1 c0_2 w1 w2k w2v w3k w3v w4k w4v)∧w1.length≤900000) x.1 x.2.1 x.2.2.1 x.2.2.2.1 x.2.2.2.2.1 x.2.2.2.2.2.1 x.2.2.2.2.2.2.1 x.2.2.2.2.2.2.2.1 x.2.2.2.2.2.2.2.2.1 x.2.2.2.2.2.2.2.2.2.1 x.2.2.2.2.2.2.2.2.2.2.1 x.2.2.2.2.2.2.2.2.2.2.2.1) fun x=>((fun(p1:Int) (p2:List TMessage) (c0_0:Bool) (c0_1:Int) (c0_2:Int) (w1:List TQuestion) (w2k:List ByteArray) (w2v:List Int) (w3k:List ByteArray) (w3v:List (List Int)) (w4k:List ByteArray) (w4v:List Bool)=>(((absO (OS.mk c0_0 c0_1 c0_2 w1 w2k w2v w3k w3v w4k w4v) (TTranscript.mk p1 0) p2).t).State:Int)) x.1 x.2.1 x.2.2.1 x.2.2.2.1 x.2.2.2.2.1 x.2.2.2.2.2.1 x.2.2.2.2.2.2.1 x.2.2.2.2.2.2.2.1 x.2.2.2.2.2.2.2.2.1 x.2.2.2.2.2.2.2.2.2.1 x.2.2.2.2.2.2.2.2.2.2.1 x.2.2.2.2.2.2.2.2.2.2.2.1,(fun(p1:Int) (p2:List TMessage) (c0_0:Bool) (c0_1:Int) (c0_2:Int) (w1:List TQuestion) (w2k:List ByteArray) (w2v:List Int) (w3k:List ByteArray) (w3v:List (List Int)) (w4k:List ByteArray) (w4v:List Bool)=>(((absO (OS.mk c0_0 c0_1 c0_2 w1 w2k w2v w3k w3v w4k w4v) (TTranscript.mk p1 0) p2).t).Count:Int)) x.1 x.2.1 x.2.2.1 x.2.2.2.1 x.2.2.2.2.1 x.2.2.2.2.2.1 x.2.2.2.2.2.2.1 x.2.2.2.2.2.2.2.1 x.2.2.2.2.2.2.2.2.1 x.2.2.2.2.2.2.2.2.2.1 x.2.2.2.2.2.2.2.2.2.2.1 x.2.2.2.2.2.2.2.2.2.2.2.1,(fun(p1:Int) (p2:List TMessage) (c0_0:Bool) (c0_1:Int) (c0_2:Int) (w1:List TQuestion) (w2k:List ByteArray) (w2v:List Int) (w3k:List ByteArray) (w3v:List (List Int)) (w4k:List ByteArray) (w4v:List Bool)=>(((absO (OS.mk c0_0 c0_1 c0_2 w1 w2k w2v w3k w3v w4k w4v) (TTranscript.mk p1 0) p2).o.a):Bool)) x.1 x.2.1 x.2.2.1 x.2.2.2.1 x.2.2.2.2.1 x.2.2.2.2.2.1 x.2.2.2.2.2.2.1 x.2.2.2.2.2.2.2.1 x.2.2.2.2.2.2.2.2.1 x.2.2.2.2.2.2.2.2.2.1 x.2.2.2.2.2.2.2.2.2.2.1 x.2.2.2.2.2.2.2.2.2.2.2.1,(fun(p1:Int) (p2:List TMessage) (c0_0:Bool) (c0_1:Int) (c0_2:Int) (w1:List TQuestion) (w2k:List ByteArray) (w2v:List Int) (w3k:List ByteArray) (w3v:List (List Int)) (w4k:List ByteArray) (w4v:List Bool)=>(((absO (OS.mk c0_0 c0_1 c0_2 w1 w2k w2v w3k w3v w4k w4v) (TTranscript.mk p1 0) p2).o.b):Int)) x.1 x.2.1 x.2.2.1 x.2.2.2.1 x.2.2.2.2.1 x.2.2.2.2.2.1 x.2.2.2.2.2.2.1 x.2.2.2.2.2.2.2.1 x.2.2.2.2.2.2.2.2.1 x.2.2.2.2.2.2.2.2.2.1 x.2.2.2.2.2.2.2.2.2.2.1 x.2.2.2.2.2.2.2.2.2.2.2.1,(fun(p1:Int) (p2:List TMessage) (c0_0:Bool) (c0_1:Int) (c0_2:Int) (w1:List TQuestion) (w2k:List ByteArray) (w2v:List Int) (w3k:List ByteArray) (w3v:List (List Int)) (w4k:List ByteArray) (w4v:List Bool)=>(((absO (OS.mk c0_0 c0_1 c0_2 w1 w2k w2v w3k w3v w4k w4v) (TTranscript.mk p1 0) p2).o.c):Int)) x.1 x.2.1 x.2.2.1 x.2.2.2.1 x.2.2.2.2.1 x.2.2.2.2.2.1 x.2.2.2.2.2.2.1 x.2.2.2.2.2.2.2.1 x.2.2.2.2.2.2.2.2.1 x.2.2.2.2.2.2.2.2.2.1 x.2.2.2.2.2.2.2.2.2.2.1 x.2.2.2.2.2.2.2.2.2.2.2.1,(fun(p1:Int) (p2:List TMessage) (c0_0:Bool) (c0_1:Int) (c0_2:Int) (w1:List TQuestion) (w2k:List ByteArray) (w2v:List Int) (w3k:List ByteArray) (w3v:List (List Int)) (w4k:List ByteArray) (w4v:List Bool)=>(((absO (OS.mk c0_0 c0_1 c0_2 w1 w2k w2v w3k w3v w4k w4v) (TTranscript.mk p1 0) p2).o.q):List TQuestion)) x.1 x.2.1 x.2.2.1 x.2.2.2.1 x.2.2.2.2.1 x.2.2.2.2.2.1 x.2.2.2.2.2.2.1 x.2.2.2.2.2.2.2.1 x.2.2.2.2.2.2.2.2.1 x.2.2.2.2.2.2.2.2.2.1 x.2.2.2.2.2.2.2.2.2.2.1 x.2.2.2.2.2.2.2.2.2.2.2.1,(fun(p1:Int) (p2:List TMessage) (c0_0:Bool) (c0_1:Int) (c0_2:Int) (w1:List TQuestion) (w2k:List ByteArray) (w2v:List Int) (w3k:List ByteArray) (w3v:List (List Int)) (w4k:List ByteArray) (w4v:List Bool)=>(((absO (OS.mk c0_0 c0_1 c0_2 w1 w2k w2v w3k w3v w4k w4v) (TTranscript.mk p1 0) p2).o.k):List ByteArray)) x.1 x.2.1 x.2.2.1 x.2.2.2.1 x.2.2.2.2.1 x.2.2.2.2.2.1 x.2.2.2.2.2.2.1 x.2.2.2.2.2.2.2.1 x.2.2.2.2.2.2.2.2.1 x.2.2.2.2.2.2.2.2.2.1 x.2.2.2.2.2.2.2.2.2.2.1 x.2.2.2.2.2.2.2.2.2.2.2.1,(fun(p1:Int) (p2:List TMessage) (c0_0:Bool) (c0_1:Int) (c0_2:Int) (w1:List TQuestion) (w2k:List ByteArray) (w2v:List Int) (w3k:List ByteArray) (w3v:List (List Int)) (w4k:List ByteArray) (w4v:List Bool)=>(((absO (OS.mk c0_0 c0_1 c0_2 w1 w2k w2v w3k w3v w4k w4v) (TTranscript.mk p1 0) p2).o.v):List Int)) x.1 x.2.1 x.2.2.1 x.2.2.2.1 x.2.2.2.2.1 x.2.2.2.2.2.1 x.2.2.2.2.2.2.1 x.2.2.2.2.2.2.2.1 x.2.2.2.2.2.2.2.2.1 x.2.2.2.2.2.2.2.2.2.1 x.2.2.2.2.2.2.2.2.2.2.1 x.2.2.2.2.2.2.2.2.2.2.2.1,(fun(p1:Int) (p2:List TMessage) (c0_0:Bool) (c0_1:Int) (c0_2:Int) (w1:List TQuestion) (w2k:List ByteArray) (w2v:List Int) (w3k:List ByteArray) (w3v:List (List Int)) (w4k:List ByteArray) (w4v:List Bool)=>(((absO (OS.mk c0_0 c0_1 c0_2 w1 w2k w2v w3k w3v w4k w4v) (TTranscript.mk p1 0) p2).o.s):List ByteArray)) x.1 x.2.1 x.2.2.1 x.2.2.2.1 x.2.2.2.2.1 x.2.2.2.2.2.1 x.2.2.2.2.2.2.1 x.2.2.2.2.2.2.2.1 x.2.2.2.2.2.2.2.2.1 x.2.2.2.2.2.2.2.2.2.1 x.2.2.2.2.2.2.2.2.2.2.1 x.2.2.2.2.2.2.2.2.2.2.2.1,(fun(p1:Int) (p2:List TMessage) (c0_0:Bool) (c0_1:Int) (c0_2:Int) (w1:List TQuestion) (w2k:List ByteArray) (w2v:List Int) (w3k:List ByteArray) (w3v:List (List Int)) (w4k:List ByteArray) (w4v:List Bool)=>(((absO (OS.mk c0_0 c0_1 c0_2 w1 w2k w2v w3k w3v w4k w4v) (TTranscript.mk p1 0) p2).o.t):List (List Int))) x.1 x.2.1 x.2.2.1 x.2.2.2.1 x.2.2.2.2.1 x.2.2.2.2.2.1 x.2.2.2.2.2.2.1 x.2.2.2.2.2.2.2.1 x.2.2.2.2.2.2.2.2.1 x.2.2.2.2.2.2.2.2.2.1 x.2.2.2.2.2.2.2.2.2.2.1 x.2.2.2.2.2.2.2.2.2.2.2.1,(fun(p1:Int) (p2:List TMessage) (c0_0:Bool) (c0_1:Int) (c0_2:Int) (w1:List TQuestion) (w2k:List ByteArray) (w2v:List Int) (w3k:List ByteArray) (w3v:List (List Int)) (w4k:List ByteArray) (w4v:List Bool)=>(((absO (OS.mk c0_0 c0_1 c0_2 w1 w2k w2v w3k w3v w4k w4v) (TTranscript.mk p1 0) p2).o.x):List ByteArray)) x.1 x.2.1 x.2.2.1 x.2.2.2.1 x.2.2.2.2.1 x.2.2.2.2.2.1 x.2.2.2.2.2.2.1 x.2.2.2.2.2.2.2.1 x.2.2.2.2.2.2.2.2.1 x.2.2.2.2.2.2.2.2.2.1 x.2.2.2.2.2.2.2.2.2.2.1 x.2.2.2.2.2.2.2.2.2.2.2.1,(fun(p1:Int) (p2:List TMessage) (c0_0:Bool) (c0_1:Int) (c0_2:Int) (w1:List TQuestion) (w2k:List ByteArray) (w2v:List Int) (w3k:List ByteArray) (w3v:List (List Int)) (w4k:List ByteArray) (w4v:List Bool)=>(((absO (OS.mk c0_0 c0_1 c0_2 w1 w2k w2v w3k w3v w4k w4v) (TTranscript.mk p1 0) p2).o.y):List Bool)) x.1 x.2.1 x.2.2.1 x.2.2.2.1 x.2.2.2.2.1 x.2.2.2.2.2.1 x.2.2.2.2.2.2.1 x.2.2.2.2.2.2.2.1 x.2.2.2.2.2.2.2.2.1 x.2.2.2.2.2.2.2.2.2.1 x.2.2.2.2.2.2.2.2.2.2.1 x.2.2.2.2.2.2.2.2.2.2.2.1,())
theorem k171:kuf.Ok Try.prog TB:=Con.ok_fn k4n bd18 fun x h=>k15g (k12r x.1 x.2.1 x.2.2.1 x.2.2.2.1 x.2.2.2.2.1 x.2.2.2.2.2.1 x.2.2.2.2.2.2.1 x.2.2.2.2.2.2.2.1 x.2.2.2.2.2.2.2.2.1 x.2.2.2.2.2.2.2.2.2.1 x.2.2.2.2.2.2.2.2.2.2.1 x.2.2.2.2.2.2.2.2.2.2.2.1 h)
def k7f:Con TB.den:=Con.mk0 27 [.one (.d (.sl (.int .i64))),.one (.d (.sl (.int .i64)))] [] (.one (.one (.d (.bool)))) []
abbrev k166:=HL TB.den (hsT k7f.ins (hsOs k7f.pre))
abbrev kgd:=HL TB.den (hsV k7f.res (hsOs k7f.post))
noncomputable def kbh:Cx TB:=⟨inf,[],[],4,[]⟩
noncomputable def kgo:Code:=Try.f27.body.getD .skip
noncomputable def krb:List ResultVar:=Try.f27.results.toList
def k1dp (o:kgd):=qS TB kbh 26 0 (cB (cB (cB kgo))) .no (retTQ TB kbh k7f krb o)
def kgx:Tm:=⟨[],[],[0,1,12,13],[.one (.d (.sl (.int .i64))),.one (.d (.sl (.int .i64))),.one (.d (.int .i64)),.one (.d (.int .i64))],0⟩
def klk (o:kgd) (nx1:NX TB kgx) (i:HL TB.den kgx.hs):Prop:=WP TB kbh 26 0 (cA (cA (cB (cA (cB (cB kgo)))))) .no (kgx.fill TB i) (qM TB 0 kgx nx1 (blockT TB 0 (k1dp o)))
noncomputable def k1dk (o:kgd):An TB:= .nd [] .no [] (.lp [] kgx (klk o) fun nx1=> .no)
noncomputable def k13u (o:kgd):An TB:= .nd [] .no [] (.nd [] .no [] (.nd [] (k1dk o) [] .no))
def krx (x:k166) (o:kgd):Prop:=WPh TB kbh 26 0 kgo (k13u o) (k7f.st TB x) (retTQ TB kbh k7f krb o)
theorem k1bk (o:kgd):OblH TB kbh 26 0 kgo (k13u o) (retTQ TB kbh k7f krb o):=
 OblH.ofC (X:=((∀nx i,(klk o) nx i=(klk o) nx i)∧(∀nx1:NX TB kgx,True)∧True)) (by kernel_rfl) ⟨fun _ _=>rfl,fun _=>trivial,trivial⟩
theorem k1bn {x:k166} {o:kgd} (h:krx x o):k7f.Snd Try.prog x o:=
 Con.soundH (c:=k7f) (C:=kbh) TBok ⟨inf_ok,all_nil,all_nil⟩ mix Try.func27 (show Try.f27.body=some kgo by kernel_rfl) (show Try.f27.ntmps=26 by kernel_rfl) (show Try.f27.results.toList=krb by kernel_rfl) rfl h (k1bk o)
theorem k1e8 {p0:List Int} {p1:List Int} {r0:Bool} (h:
((((p0.length:Int) !=(p1.length:Int))=true→
 false=r0)∧
(((p0.length:Int) !=(p1.length:Int))=false→
 Md.Loop (p0,p1,((p0.length:Int):Int),(0:Int),()) (klk (r0,()))))):krx (p0,p1,()) (r0,()):=WPh.of_eq (by kernel_rfl) h
def k13c (r0:Bool) (k1:Int→Prop) (s0:List Int) (s1:List Int) (s12:Int) (s13:Int):Prop:=
(decide (s13<s12)=true→
(0≤s13)∧s13<(s0.length:Int)∧(0≤s13)∧s13<(s1.length:Int)∧(((ix s0 s13) !=(ix s1 s13))=true→
 false=r0)∧
(((ix s0 s13) !=(ix s1 s13))=false→
 k1 (IntKind.i64.wrap (s13+1):Int)))∧
(decide (s13<s12)=false→
 true=r0)
theorem k1cx {r0:Bool} {s0:List Int} {s1:List Int} {s12:Int} {s13:Int} (inv:Int→Prop) (μ:Int→Nat) (h0:inv s13) (hs:∀(s13:Int),inv s13→k13c r0 (fun s13q=>inv s13q∧μ s13q<μ s13) s0 s1 s12 s13):Md.Loop (s0,s1,s12,s13,()) (klk (r0,())):=
 ⟨⟨fun s:(List Int)×(List Int)×Int×Int×Unit=>(s.1=s0∧s.2.1=s1∧s.2.2.1=s12)∧inv s.2.2.2.1,fun s:(List Int)×(List Int)×Int×Int×Unit=>μ s.2.2.2.1,⟨⟨rfl,rfl,rfl⟩,h0⟩,fun(s0p,s1p,s12p,s13p,()) ⟨⟨eq0,eq1,eq2⟩,hi⟩=>by
  have eq0:s0p=s0:=eq0;subst s0p;have eq1:s1p=s1:=eq1;subst s1p;have eq2:s12p=s12:=eq2;subst s12p;exact mpr_of (by kernel_rfl) ((congrArg (fun k=>k13c r0 k s0 s1 s12 s13p) (lpk1 (⟨rfl,rfl,rfl⟩:s0=s0∧s1=s1∧s12=s12) inv (fun s13q=>μ s13q<μ s13p))).mpr (hs s13p hi))⟩⟩
theorem bd27:Callable Try.prog 27:=⟨by rw[Try.func27];kernel_rfl,by rw[Try.func27];show some _≠some _;decide⟩
theorem k19t (p0:List Int) (p1:List Int) (h:p0.length≤9223372036854775807):krx (p0,p1,()) (((decide (p0=p1)):Bool),()):=by
 refine k1e8 ⟨fun e=> ?_,fun e=> ?_⟩
 ·have e:¬(p0.length:Int)=p1.length:=by simpa using e
  rw[decide_eq_false (by rintro rfl;exact e rfl)]
 ·have e:(p0.length:Int)=p1.length:=by simpa using e
  refine k1cx (fun i=>0≤i∧i≤p0.length∧p0.take i.toNat=p1.take i.toNat) (fun i=>(p0.length-i).toNat) ⟨by omega,by omega,by simp⟩ ?_
  rintro i ⟨g0,g1,g2⟩
  refine⟨fun hh=> ?_,fun hh=> ?_⟩
  ·have hh:=of_decide_eq_true hh
   refine⟨g0,hh,g0,by omega,fun e2=> ?_,fun e2=> ?_⟩
   ·have e2:¬ix p0 i=ix p1 i:=by simpa using e2
    rw[decide_eq_false (by rintro rfl;exact e2 rfl)]
   ·have e2:ix p0 i=ix p1 i:=by simpa using e2
    rw[inc i p0.length g0 hh (by omega)]
    refine⟨⟨by omega,by omega,?_⟩,by omega⟩
    rw[kei p0 i g0 hh,kei p1 i g0 (by omega),g2,e2]
  ·have hh:=of_decide_eq_false hh
   rw[List.take_of_length_le (by omega),List.take_of_length_le (by omega)]at g2
   rw[decide_eq_true g2]
noncomputable def kus:Con TB.den:=k7f.fnR (fun x=>(fun(p0:List Int) (p1:List Int)=>p0.length≤9223372036854775807) x.1 x.2.1) fun x=>((fun(p0:List Int) (p1:List Int)=>((decide (p0=p1)):Bool)) x.1 x.2.1,())
theorem k13a:kus.Ok Try.prog TB:=Con.ok_fn k7f bd27 fun x h=>k1bn (k19t x.1 x.2.1 h)
theorem bd28:Callable Try.prog 28:=⟨by rw[Try.func28];kernel_rfl,by rw[Try.func28];show some _≠some _;decide⟩
theorem bd9:Callable Try.prog 9:=⟨by rw[Try.func9];kernel_rfl,by rw[Try.func9];show some _≠some _;decide⟩
def k2n:Con TB.den:=Con.mk0 28 [] [] (.one (.one (.ptr 0 0))) [.cells [.d (.bool),.d (.int .u64),.d (.int .i64),.own 1,.mp 2,.mp 3,.mp 4],.tip (.st 1),.map (.str) (.int .i64),.map (.str) (.sl (.int .u64)),.map (.str) (.bool)]
abbrev ko3:=HL TB.den (hsT k2n.ins (hsOs k2n.pre))
abbrev kb8:=HL TB.den (hsV k2n.res (hsOs k2n.post))
noncomputable def k88:Cx TB:=⟨inf,[],[],4,[]⟩
noncomputable def kck:Code:=Try.f28.body.getD .skip
noncomputable def kfg:List ResultVar:=Try.f28.results.toList
noncomputable def kn9 (o:kb8):An TB:= .nd [] .no [] (.nd [] .no [] (.rt [.tokc 3 3 (.st 1)]))
def kcj (x:ko3) (o:kb8):Prop:=WPh TB k88 6 0 kck (kn9 o) (k2n.st TB x) (retTQ TB k88 k2n kfg o)
theorem kxb (o:kb8):OblH TB k88 6 0 kck (kn9 o) (retTQ TB k88 k2n kfg o):=
 OblH.ofC (X:=True) (by kernel_rfl) trivial
theorem kx3 {x:ko3} {o:kb8} (h:kcj x o):k2n.Snd Try.prog x o:=
 Con.soundH (c:=k2n) (C:=k88) TBok ⟨inf_ok,all_nil,all_nil⟩ mix Try.func28 (show Try.f28.body=some kck by kernel_rfl) (show Try.f28.ntmps=6 by kernel_rfl) (show Try.f28.results.toList=kfg by kernel_rfl) rfl h (kxb o)
theorem kxm  {d0_0:Bool} {d0_1:Int} {d0_2:Int} {e1:List TQuestion} {e2k:List ByteArray} {e2v:List Int} {e3k:List ByteArray} {e3v:List (List Int)} {e4k:List ByteArray} {e4v:List Bool} (h:
((([]:List TQuestion)=([]:List TQuestion))∧false=d0_0∧0=d0_1∧0=d0_2∧([]:List TQuestion)=e1∧([]:List ByteArray)=e2k∧([]:List Int)=e2v∧([]:List ByteArray)=e3k∧([]:List (List Int))=e3v∧([]:List ByteArray)=e4k∧([]:List Bool)=e4v)):kcj (()) (d0_0,d0_1,d0_2,e1,e2k,e2v,e3k,e3v,e4k,e4v,()):=WPh.of_eq (by kernel_rfl) h
theorem kvf:kcj (()) ((false:Bool),(0:Int),(0:Int),(([]:List TQuestion):List TQuestion),([]:List ByteArray),([]:List Int),([]:List ByteArray),([]:List (List Int)),([]:List ByteArray),([]:List Bool),()):=by
 exact kxm ⟨rfl,rfl,rfl,rfl,rfl,rfl,rfl,rfl,rfl,rfl,rfl⟩
noncomputable def kdj:Con TB.den:=k2n.totR fun x=>((false:Bool),(0:Int),(0:Int),(([]:List TQuestion):List TQuestion),([]:List ByteArray),([]:List Int),([]:List ByteArray),([]:List (List Int)),([]:List ByteArray),([]:List Bool),())
theorem kn2:kdj.Ok Try.prog TB:=Con.ok_tot k2n bd28 fun x=>kx3 (kvf)
def k4x:Con TB.den:=Con.mk0 9 [] [] (.one (.one (.ptr 0 0))) [.cells [.d (.bool),.d (.int .u64),.d (.int .i64),.own 1,.mp 2,.mp 3,.mp 4],.tip (.st 1),.map (.str) (.int .i64),.map (.str) (.sl (.int .u64)),.map (.str) (.bool)]
abbrev kw6:=HL TB.den (hsT k4x.ins (hsOs k4x.pre))
abbrev khi:=HL TB.den (hsV k4x.res (hsOs k4x.post))
noncomputable def kbu:Cx TB:=⟨inf,[kdj],[],4,[]⟩
noncomputable def kja:Code:=Try.f9.body.getD .skip
noncomputable def kmf:List ResultVar:=Try.f9.results.toList
noncomputable def kuz (o:khi):An TB:= .no
def khr (x:kw6) (o:khi):Prop:=WPh TB kbu 2 0 kja (kuz o) (k4x.st TB x) (retTQ TB kbu k4x kmf o)
theorem k12d (o:khi):OblH TB kbu 2 0 kja (kuz o) (retTQ TB kbu k4x kmf o):=
 OblH.ofC (X:=True) (by kernel_rfl) trivial
theorem k12b {x:kw6} {o:khi} (h:khr x o):k4x.Snd Try.prog x o:=
 Con.soundH (c:=k4x) (C:=kbu) TBok ⟨inf_ok,(all_cons kn2 all_nil),all_nil⟩ mix Try.func9 (show Try.f9.body=some kja by kernel_rfl) (show Try.f9.ntmps=2 by kernel_rfl) (show Try.f9.results.toList=kmf by kernel_rfl) rfl h (k12d o)
theorem k15d  {d0_0:Bool} {d0_1:Int} {d0_2:Int} {e1:List TQuestion} {e2k:List ByteArray} {e2v:List Int} {e3k:List ByteArray} {e3v:List (List Int)} {e4k:List ByteArray} {e4v:List Bool} (h:
((([]:List TQuestion)=([]:List TQuestion))∧false=d0_0∧0=d0_1∧0=d0_2∧([]:List TQuestion)=e1∧[]=e2k∧[]=e2v∧[]=e3k∧[]=e3v∧[]=e4k∧[]=e4v)):khr (()) (d0_0,d0_1,d0_2,e1,e2k,e2v,e3k,e3v,e4k,e4v,()):=WPh.of_eq (by kernel_rfl) h
theorem k114:khr (()) ((false:Bool),(0:Int),(0:Int),(([]:List TQuestion):List TQuestion),([]:List ByteArray),([]:List Int),([]:List ByteArray),([]:List (List Int)),([]:List ByteArray),([]:List Bool),()):=by
 exact k15d ⟨rfl,rfl,rfl,rfl,rfl,rfl,rfl,rfl,rfl,rfl,rfl⟩
noncomputable def ksk:Con TB.den:=k4x.totR fun x=>((false:Bool),(0:Int),(0:Int),(([]:List TQuestion):List TQuestion),([]:List ByteArray),([]:List Int),([]:List ByteArray),([]:List (List Int)),([]:List ByteArray),([]:List Bool),())
theorem k154:ksk.Ok Try.prog TB:=Con.ok_tot k4x bd9 fun x=>k12b (k114)
def k8z:Con TB.den:=Con.mk0 48 [.one (.d (.int .u64))] [] (.one (.agg [.d (.int .u64),.d (.int .u64),.d (.int .u64)])) []
abbrev k194:=HL TB.den (hsT k8z.ins (hsOs k8z.pre))
abbrev kwf:=HL TB.den (hsV k8z.res (hsOs k8z.post))
noncomputable def kp0:Cx TB:=⟨inf,[],[],4,[]⟩
noncomputable def kun:Code:=Try.f48.body.getD .skip
noncomputable def kyn:List ResultVar:=Try.f48.results.toList
noncomputable def k16k (o:kwf):An TB:= .no
def kv2 (x:k194) (o:kwf):Prop:=WPh TB kp0 26 0 kun (k16k o) (k8z.st TB x) (retTQ TB kp0 k8z kyn o)
theorem k1dl (o:kwf):OblH TB kp0 26 0 kun (k16k o) (retTQ TB kp0 k8z kyn o):=
 OblH.ofC (X:=True) (by kernel_rfl) trivial
theorem k1dv {x:k194} {o:kwf} (h:kv2 x o):k8z.Snd Try.prog x o:=
 Con.soundH (c:=k8z) (C:=kp0) TBok ⟨inf_ok,all_nil,all_nil⟩ mix Try.func48 (show Try.f48.body=some kun by kernel_rfl) (show Try.f48.ntmps=26 by kernel_rfl) (show Try.f48.results.toList=kyn by kernel_rfl) rfl h (k1dl o)
theorem k1ep {p0:Int} {r0:TA3} (h:
(((p0==17)=true→
 3=r0.a0∧4=r0.a1∧3=r0.a2)∧
((p0==17)=false→
((p0==97)=true→
 5=r0.a0∧5=r0.a1∧5=r0.a2)∧
((p0==97)=false→
((p0==193)=true→
 5=r0.a0∧6=r0.a1∧5=r0.a2)∧
((p0==193)=false→
((p0==257)=true→
 3=r0.a0∧8=r0.a1∧3=r0.a2)∧
((p0==257)=false→
((p0==12289)=true→
 11=r0.a0∧12=r0.a1∧5=r0.a2)∧
((p0==12289)=false→
((p0==65537)=true→
 3=r0.a0∧16=r0.a1∧3=r0.a2)∧
((p0==65537)=false→
((p0==18446744069414584321)=true→
 7=r0.a0∧32=r0.a1∧7=r0.a2)∧
((p0==18446744069414584321)=false→
 0=r0.a0∧0=r0.a1∧0=r0.a2))))))))):kv2 (p0,()) (r0.a0,r0.a1,r0.a2,()):=WPh.of_eq (by kernel_rfl) h
theorem bd48:Callable Try.prog 48:=⟨by rw[Try.func48];kernel_rfl,by rw[Try.func48];show some _≠some _;decide⟩
theorem k1cq (p0:Int) (h:p0=18446744069414584321):kv2 (p0,()) ((7:Int),(32:Int),(7:Int),()):=by
 refine k1ep (r0:=TA3.mk 7 32 7) ?_
 simp[h]
noncomputable def kxa:Con TB.den:=k8z.fnR (fun x=>(fun(p0:Int)=>p0=18446744069414584321) x.1) fun x=>((fun(p0:Int)=>(7:Int)) x.1,(fun(p0:Int)=>(32:Int)) x.1,(fun(p0:Int)=>(7:Int)) x.1,())
theorem k162:kxa.Ok Try.prog TB:=Con.ok_fn k8z bd48 fun x h=>k1dv (k1cq x.1 h)
def k78:Con TB.den:=Con.mk0 38 [.one (.d (.int .u64))] [] (.one (.one (.d (.bool)))) []
abbrev k13l:=HL TB.den (hsT k78.ins (hsOs k78.pre))
abbrev kr2:=HL TB.den (hsV k78.res (hsOs k78.post))
noncomputable def kio:Cx TB:=⟨inf,[kxa],[],4,[]⟩
noncomputable def kq3:Code:=Try.f38.body.getD .skip
noncomputable def ktl:List ResultVar:=Try.f38.results.toList
noncomputable def k11c (o:kr2):An TB:= .no
def kql (x:k13l) (o:kr2):Prop:=WPh TB kio 7 0 kq3 (k11c o) (k78.st TB x) (retTQ TB kio k78 ktl o)
theorem k1an (o:kr2):OblH TB kio 7 0 kq3 (k11c o) (retTQ TB kio k78 ktl o):=
 OblH.ofC (X:=True) (by kernel_rfl) trivial
theorem k1am {x:k13l} {o:kr2} (h:kql x o):k78.Snd Try.prog x o:=
 Con.soundH (c:=k78) (C:=kio) TBok ⟨inf_ok,(all_cons k162 all_nil),all_nil⟩ mix Try.func38 (show Try.f38.body=some kq3 by kernel_rfl) (show Try.f38.ntmps=7 by kernel_rfl) (show Try.f38.results.toList=ktl by kernel_rfl) rfl h (k1an o)
theorem k1bj {p0:Int} {r0:Bool} (h:
((p0=18446744069414584321)∧decide (0<(7:Int))=r0)):kql (p0,()) (r0,()):=WPh.of_eq (by kernel_rfl) h
theorem bd38:Callable Try.prog 38:=⟨by rw[Try.func38];kernel_rfl,by rw[Try.func38];show some _≠some _;decide⟩
theorem k18k (p0:Int) (h:p0=18446744069414584321):kql (p0,()) ((true:Bool),()):=by
 exact k1bj ⟨h,rfl⟩
noncomputable def kap:Con TB.den:=k78.fnR (fun x=>(fun(p0:Int)=>p0=18446744069414584321) x.1) fun x=>((fun(p0:Int)=>(true:Bool)) x.1,())
theorem keh:kap.Ok Try.prog TB:=Con.ok_fn k78 bd38 fun x h=>k1am (k18k x.1 h)
def k8u:Con TB.den:=Con.mk0 49 [.one (.d (.int .u64)),.one (.d (.int .u64)),.one (.d (.int .u64))] [] (.one (.one (.d (.int .u64)))) []
abbrev k192:=HL TB.den (hsT k8u.ins (hsOs k8u.pre))
abbrev kvy:=HL TB.den (hsV k8u.res (hsOs k8u.post))
noncomputable def ko0:Cx TB:=⟨inf,[kap],[],4,[]⟩
noncomputable def kuv:Code:=Try.f49.body.getD .skip
noncomputable def kys:List ResultVar:=Try.f49.results.toList
noncomputable def k17f (o:kvy):An TB:= .no
def kuh (x:k192) (o:kvy):Prop:=WPh TB ko0 29 0 kuv (k17f o) (k8u.st TB x) (retTQ TB ko0 k8u kys o)
theorem k1do (o:kvy):OblH TB ko0 29 0 kuv (k17f o) (retTQ TB ko0 k8u kys o):=
 OblH.ofC (X:=True) (by kernel_rfl) trivial
theorem k1e2 {x:k192} {o:kvy} (h:kuh x o):k8u.Snd Try.prog x o:=
 Con.soundH (c:=k8u) (C:=ko0) TBok ⟨inf_ok,(all_cons keh all_nil),all_nil⟩ mix Try.func49 (show Try.f49.body=some kuv by kernel_rfl) (show Try.f49.ntmps=29 by kernel_rfl) (show Try.f49.results.toList=kys by kernel_rfl) rfl h (k1do o)
theorem k1ex {p0:Int} {p1:Int} {p2:Int} {r0:Int} (h:
((p0=18446744069414584321)∧((!true)=true→
 0=r0)∧
((!true)=false→
(p0≠0)∧(p0≠0)∧let v1:Bool:=decide ((IntKind.u64.wrap (p0-(Int.tmod p2 p0)))≤(Int.tmod p1 p0))
(v1=true→
 let v2:Int:=IntKind.u64.wrap ((Int.tmod p1 p0)-(IntKind.u64.wrap (p0-(Int.tmod p2 p0))))
 v2=r0)∧
(v1=false→
 let v3:Int:=IntKind.u64.wrap ((Int.tmod p1 p0)+(Int.tmod p2 p0))
 v3=r0)))):kuh (p0,p1,p2,()) (r0,()):=WPh.of_eq (by kernel_rfl) h
theorem bd49:Callable Try.prog 49:=⟨by rw[Try.func49];kernel_rfl,by rw[Try.func49];show some _≠some _;decide⟩
theorem k1b6 (p0:Int) (p1:Int) (p2:Int) (h:p0=18446744069414584321∧U64 p1∧U64 p2):kuh (p0,p1,p2,()) ((((p1+p2)%18446744069414584321):Int),()):=by
 obtain⟨rfl,h1,h2⟩:=h
 refine k1ex ⟨rfl,fun h=>by simp at h,fun _=> ?_⟩
 rw[tmod_nn _ _ h1.1,tmod_nn _ _ h2.1]
 simp only[u64w]
 refine⟨by omega,by omega,fun h=> ?_,fun h=> ?_⟩
 ·have h:=of_decide_eq_true h
  omega
 ·have h:=of_decide_eq_false h
  omega
noncomputable def klf:Con TB.den:=k8u.fnR (fun x=>(fun(p0:Int) (p1:Int) (p2:Int)=>p0=18446744069414584321∧U64 p1∧U64 p2) x.1 x.2.1 x.2.2.1) fun x=>((fun(p0:Int) (p1:Int) (p2:Int)=>(((p1+p2)%18446744069414584321):Int)) x.1 x.2.1 x.2.2.1,())
theorem ktb:klf.Ok Try.prog TB:=Con.ok_fn k8u bd49 fun x h=>k1e2 (k1b6 x.1 x.2.1 x.2.2.1 h)
def k8r:Con TB.den:=Con.mk0 50 [.one (.d (.int .u64)),.one (.d (.int .u64)),.one (.d (.int .u64))] [] (.one (.one (.d (.int .u64)))) []
abbrev k19p:=HL TB.den (hsT k8r.ins (hsOs k8r.pre))
abbrev kw5:=HL TB.den (hsV k8r.res (hsOs k8r.post))
noncomputable def kop:Cx TB:=⟨inf,[kap,kqy,kq5],[],4,[]⟩
noncomputable def kua:Code:=Try.f50.body.getD .skip
noncomputable def kz0:List ResultVar:=Try.f50.results.toList
noncomputable def k160 (o:kw5):An TB:= .no
def ku1 (x:k19p) (o:kw5):Prop:=WPh TB kop 32 0 kua (k160 o) (k8r.st TB x) (retTQ TB kop k8r kz0 o)
theorem k1e9 (o:kw5):OblH TB kop 32 0 kua (k160 o) (retTQ TB kop k8r kz0 o):=
 OblH.ofC (X:=True) (by kernel_rfl) trivial
theorem k1eb {x:k19p} {o:kw5} (h:ku1 x o):k8r.Snd Try.prog x o:=
 Con.soundH (c:=k8r) (C:=kop) TBok ⟨inf_ok,(all_cons keh (all_cons kzf (all_cons kzk all_nil))),all_nil⟩ mix Try.func50 (show Try.f50.body=some kua by kernel_rfl) (show Try.f50.ntmps=32 by kernel_rfl) (show Try.f50.results.toList=kz0 by kernel_rfl) rfl h (k1e9 o)
theorem k1en {p0:Int} {p1:Int} {p2:Int} {r0:Int} (h:
((p0=18446744069414584321)∧((!true)=true→
 0=r0)∧
((!true)=false→
(p0≠0)∧(p0≠0)∧(U64 (Int.tmod p1 p0)∧U64 (Int.tmod p2 p0))∧let r1:Int:=((Int.tmod p1 p0)*(Int.tmod p2 p0)/18446744073709551616)
 let r2:Int:=((Int.tmod p1 p0)*(Int.tmod p2 p0)%18446744073709551616)
(U64 r1∧U64 r2∧U64 p0∧r1<p0)∧((r1*18446744073709551616+r2)%p0)=r0))):ku1 (p0,p1,p2,()) (r0,()):=WPh.of_eq (by kernel_rfl) h
theorem bd50:Callable Try.prog 50:=⟨by rw[Try.func50];kernel_rfl,by rw[Try.func50];show some _≠some _;decide⟩
theorem k1bb (p0:Int) (p1:Int) (p2:Int) (h:p0=18446744069414584321∧U64 p1∧U64 p2):ku1 (p0,p1,p2,()) (((p1*p2%18446744069414584321):Int),()):=by
 obtain⟨rfl,h1,h2⟩:=h
 refine k1en ⟨rfl,fun h=>by simp at h,fun _=> ?_⟩
 rw[tmod_nn _ _ h1.1,tmod_nn _ _ h2.1,Int.mul_emod p1 p2]
 have a1:0≤p1%18446744069414584321∧p1%18446744069414584321<18446744069414584321:=by omega
 have a2:0≤p2%18446744069414584321∧p2%18446744069414584321<18446744069414584321:=by omega
 generalize p1%18446744069414584321=a at *
 generalize p2%18446744069414584321=b at *
 have h3:0≤a*b:=Int.mul_nonneg a1.1 a2.1
 have h4:a*b≤18446744069414584320*18446744069414584320:=Int.mul_le_mul (by omega) (by omega) a2.1 (by omega)
 generalize a*b=m at *
 refine⟨by omega,by omega,⟨⟨by omega,by omega⟩,⟨by omega,by omega⟩⟩,⟨⟨by omega,by omega⟩,⟨by omega,by omega⟩,⟨by omega,by omega⟩,by omega⟩,?_⟩
 rw[show m/18446744073709551616*18446744073709551616+m%18446744073709551616=m by omega]
noncomputable def kwt:Con TB.den:=k8r.fnR (fun x=>(fun(p0:Int) (p1:Int) (p2:Int)=>p0=18446744069414584321∧U64 p1∧U64 p2) x.1 x.2.1 x.2.2.1) fun x=>((fun(p0:Int) (p1:Int) (p2:Int)=>((p1*p2%18446744069414584321):Int)) x.1 x.2.1 x.2.2.1,())
theorem k15x:kwt.Ok Try.prog TB:=Con.ok_fn k8r bd50 fun x h=>k1eb (k1bb x.1 x.2.1 x.2.2.1 h)
def k5a:Con TB.den:=Con.mk0 70 [.one (.d (.int .u64))] [] (.one (.one (.d (.int .u64)))) []
abbrev kxn:=HL TB.den (hsT k5a.ins (hsOs k5a.pre))
abbrev kjk:=HL TB.den (hsV k5a.res (hsOs k5a.post))
noncomputable def kda:Cx TB:=⟨inf,[kxa],[],4,[]⟩
noncomputable def kkj:Code:=Try.f70.body.getD .skip
noncomputable def kog:List ResultVar:=Try.f70.results.toList
noncomputable def kwe (o:kjk):An TB:= .no
def kl1 (x:kxn) (o:kjk):Prop:=WPh TB kda 6 0 kkj (kwe o) (k5a.st TB x) (retTQ TB kda k5a kog o)
theorem k147 (o:kjk):OblH TB kda 6 0 kkj (kwe o) (retTQ TB kda k5a kog o):=
 OblH.ofC (X:=True) (by kernel_rfl) trivial
theorem k13z {x:kxn} {o:kjk} (h:kl1 x o):k5a.Snd Try.prog x o:=
 Con.soundH (c:=k5a) (C:=kda) TBok ⟨inf_ok,(all_cons k162 all_nil),all_nil⟩ mix Try.func70 (show Try.f70.body=some kkj by kernel_rfl) (show Try.f70.ntmps=6 by kernel_rfl) (show Try.f70.results.toList=kog by kernel_rfl) rfl h (k147 o)
theorem k163 {p0:Int} {r0:Int} (h:
((p0=18446744069414584321)∧7=r0)):kl1 (p0,()) (r0,()):=WPh.of_eq (by kernel_rfl) h
theorem bd70:Callable Try.prog 70:=⟨by rw[Try.func70];kernel_rfl,by rw[Try.func70];show some _≠some _;decide⟩
theorem k12m (p0:Int) (h:p0=18446744069414584321):kl1 (p0,()) ((7:Int),()):=by
 exact k163 ⟨h,rfl⟩
noncomputable def kuy:Con TB.den:=k5a.fnR (fun x=>(fun(p0:Int)=>p0=18446744069414584321) x.1) fun x=>((fun(p0:Int)=>(7:Int)) x.1,())
theorem k16n:kuy.Ok Try.prog TB:=Con.ok_fn k5a bd70 fun x h=>k13z (k12m x.1 h)
def k7y:Con TB.den:=Con.mk0 68 [.one (.d (.int .u64)),.one (.d (.int .u64)),.one (.d (.int .u64))] [] (.one (.one (.d (.int .u64)))) []
abbrev k195:=HL TB.den (hsT k7y.ins (hsOs k7y.pre))
abbrev k91:=HL TB.den (hsV k7y.res (hsOs k7y.post))
noncomputable def kbc:Cx TB:=⟨inf,[kap,kwt],[],4,[]⟩
noncomputable def kf5:Code:=Try.f68.body.getD .skip
noncomputable def kt4:List ResultVar:=Try.f68.results.toList
def k16q (o:k91):=qS TB kbc 30 0 (cB (cB (cB (cB (cB kf5))))) .no (retTQ TB kbc k7y kt4 o)
def k7j:Tm:=⟨[],[],[0,1,2,7],[.one (.d (.int .u64)),.one (.d (.int .u64)),.one (.d (.int .u64)),.one (.d (.int .u64))],0⟩
def k1fh (o:k91) (nx1:NX TB k7j):=blockT TB 1 (qM TB 0 k7j nx1 (blockT TB 0 (k16q o)))
def kr9:Tm:=⟨[],[],[0,1,2,7],[.one (.d (.int .u64)),.one (.d (.int .u64)),.one (.d (.int .u64)),.one (.d (.int .u64))],0⟩
def k13v (o:k91) (nx1:NX TB k7j) (i:HL TB.den kr9.hs):Prop:=ghs TB [] (kr9.fill TB i) fun s=>WP TB kbc 30 0 (cB (cA (cB (cA (cA (cA (cB (cB (cB (cB kf5)))))))))) .no s (k1fh o nx1)
structure kka (o:k91) (nx1:NX TB k7j) (i:HL TB.den kr9.hs):Prop where
 h:k13v o nx1 i
noncomputable def k161 (o:k91) (nx1:NX TB k7j):An TB:= .nd [] .no [] (.jn kr9 (kka o nx1) [] .no [] .no)
def koh (o:k91) (nx1:NX TB k7j) (i:HL TB.den k7j.hs):Prop:=WP TB kbc 30 0 (cA (cA (cA (cB (cB (cB (cB kf5))))))) (k161 o nx1) (k7j.fill TB i) (qM TB 0 k7j nx1 (blockT TB 0 (k16q o)))
noncomputable def k1fa (o:k91):An TB:= .lp [] k7j (koh o) fun nx1=>(k161 o nx1)
noncomputable def k1f9 (o:k91):An TB:= .nd [] .no [] (.nd [] .no [] (.nd [] .no [] (.nd [] (k1fa o) [] .no)))
noncomputable def k17h (o:k91):An TB:= .nd [] .no [] (k1f9 o)
def ku8 (x:k195) (o:k91):Prop:=WPh TB kbc 30 0 kf5 (k17h o) (k7y.st TB x) (retTQ TB kbc k7y kt4 o)
theorem k1e3 (o:k91):OblH TB kbc 30 0 kf5 (k17h o) (retTQ TB kbc k7y kt4 o):=
 OblH.ofC (X:=((∀nx i,(koh o) nx i=(koh o) nx i)∧(∀nx1:NX TB k7j,((∀i,(kka o nx1) i=k13v o nx1 i)∧True))∧True)) (by kernel_rfl) ⟨fun _ _=>rfl,fun _=>⟨fun _=>propext ⟨fun h=>h.1,fun h=>⟨h⟩⟩,trivial⟩,trivial⟩
theorem k1dr {x:k195} {o:k91} (h:ku8 x o):k7y.Snd Try.prog x o:=
 Con.soundH (c:=k7y) (C:=kbc) TBok ⟨inf_ok,(all_cons keh (all_cons k15x all_nil)),all_nil⟩ mix Try.func68 (show Try.f68.body=some kf5 by kernel_rfl) (show Try.f68.ntmps=30 by kernel_rfl) (show Try.f68.results.toList=kt4 by kernel_rfl) rfl h (k1e3 o)
theorem k1ej {p0:Int} {p1:Int} {p2:Int} {r0:Int} (h:
((p0=18446744069414584321)∧((!true)=true→
 0=r0)∧
((!true)=false→
(p0≠0)∧Md.Loop (p0,(Int.tmod p1 p0:Int),p2,(1:Int),()) (koh (r0,()))))):ku8 (p0,p1,p2,()) (r0,()):=WPh.of_eq (by kernel_rfl) h
theorem k1ad {r0:Int} {nx1:NX TB k7j} {s0:Int} {s1:Int} {s2:Int} {s7:Int} (h:
((s0=18446744069414584321∧U64 s1∧U64 s1)∧nx1 (s0,((s1*s1%18446744069414584321):Int),(IntKind.u64.wrap (Int.tdiv s2 2):Int),s7,()))):kka (r0,()) nx1 (s0,s1,s2,s7,()):=⟨mpr_of (by kernel_rfl) h⟩
def k16r (r0:Int) (nx1:NX TB k7j) (k1:Int→Int→Int→Prop) (s0:Int) (s1:Int) (s2:Int) (s7:Int):Prop:=
(decide (0<s2)=true→
(((Int.tmod s2 2)==1)=true→
(s0=18446744069414584321∧U64 s7∧U64 s1)∧kka (r0,()) nx1 (s0,s1,s2,((s7*s1%18446744069414584321):Int),()))∧
(((Int.tmod s2 2)==1)=false→
 kka (r0,()) nx1 (s0,s1,s2,s7,())))∧
(decide (0<s2)=false→
 s7=r0)
theorem k1dn {r0:Int} {s0:Int} {s1:Int} {s2:Int} {s7:Int} (inv:Int→Int→Int→Prop) (μ:Int→Int→Int→Nat) (h0:inv s1 s2 s7) (hs:∀(s1:Int) (s2:Int) (s7:Int),inv s1 s2 s7→k16r r0 (fun s:Int×Int×Int×Int×Unit=>((s.1=s0)∧inv s.2.1 s.2.2.1 s.2.2.2.1)∧μ s.2.1 s.2.2.1 s.2.2.2.1<μ s1 s2 s7) (fun s1q s2q s7q=>inv s1q s2q s7q∧μ s1q s2q s7q<μ s1 s2 s7) s0 s1 s2 s7):Md.Loop (s0,s1,s2,s7,()) (koh (r0,())):=
 ⟨⟨fun s:Int×Int×Int×Int×Unit=>(s.1=s0)∧inv s.2.1 s.2.2.1 s.2.2.2.1,fun s:Int×Int×Int×Int×Unit=>μ s.2.1 s.2.2.1 s.2.2.2.1,⟨rfl,h0⟩,fun(s0p,s1p,s2p,s7p,()) ⟨eq0,hi⟩=>by
  have eq0:s0p=s0:=eq0;subst s0p;exact mpr_of (by kernel_rfl) ((congrArg (fun k=>k16r r0 (fun s:Int×Int×Int×Int×Unit=>((s.1=s0)∧inv s.2.1 s.2.2.1 s.2.2.2.1)∧μ s.2.1 s.2.2.1 s.2.2.2.1<μ s1p s2p s7p) k s0 s1p s2p s7p) (lpk3 (rfl:s0=s0) inv (fun s1q s2q s7q=>μ s1q s2q s7q<μ s1p s2p s7p))).mpr (hs s1p s2p s7p hi))⟩⟩
theorem bd68:Callable Try.prog 68:=⟨by rw[Try.func68];kernel_rfl,by rw[Try.func68];show some _≠some _;decide⟩
theorem k1d9 (p0:Int) (p1:Int) (p2:Int) (h:p0=18446744069414584321∧U64 p1∧U64 p2):ku8 (p0,p1,p2,()) (((pw p1 p2):Int),()):=by
 obtain⟨rfl,h1,h2⟩:=h
 refine k1ej ⟨rfl,fun h=>by simp at h,fun _=>⟨by omega,?_⟩⟩
 rw[tmod_nn _ _ h1.1]
 refine k1dn (fun a e r=>(0≤a∧a<18446744069414584321)∧U64 e∧(0≤r∧r<18446744069414584321)∧(r*a^e.toNat)%18446744069414584321=pw p1 p2) (fun a e r=>e.toNat) ⟨by omega,h2,by omega,by rw[Int.one_mul,kyi];rfl⟩ ?_
 rintro a e r ⟨ha,he,hr,hv⟩
 have hpow:∀k:Nat,a^(2*k)=(a*a)^k:=fun k=>by rw[Int.pow_mul];congr 1;rw[Int.pow_succ,Int.pow_succ,Int.pow_zero,Int.one_mul]
 have jj:∀nx r',(0≤r'∧r' <18446744069414584321)→0<e→(r' *(a*a)^(e/2).toNat)%18446744069414584321=pw p1 p2→(∀a',(0≤a'∧a' <18446744069414584321)→r' *a' ^(e/2).toNat%18446744069414584321=pw p1 p2→nx ((18446744069414584321:Int),a',(e/2:Int),r',()))→kka ((pw p1 p2:Int),()) nx ((18446744069414584321:Int),a,e,r',()):=by
  intro nx r' hr' he' hv' hn
  refine k1ad ⟨⟨rfl,by omega,by omega⟩,?_⟩
  rw[tdiv_nn _ _ he.1,wu (e/2) (by omega) (by omega)]
  refine hn _ ⟨Int.emod_nonneg _ (by omega),Int.emod_lt_of_pos _ (by omega)⟩ ?_
  rw[←hv',Int.mul_emod,Int.mul_emod r' ((a*a)^_),kyi]
 refine⟨fun h=> ?_,fun h=> ?_⟩
 ·have h:=of_decide_eq_true h
  rw[tmod_nn _ _ he.1]
  have nxt:∀a' r',(0≤a'∧a' <18446744069414584321)→(0≤r'∧r' <18446744069414584321)→r' *a' ^(e/2).toNat%18446744069414584321=pw p1 p2→((0≤a'∧a' <18446744069414584321)∧U64 (e/2)∧(0≤r'∧r' <18446744069414584321)∧r' *a' ^(e/2).toNat%18446744069414584321=pw p1 p2)∧(e/2).toNat<e.toNat:=fun a' r' h1 h2 h3=>⟨⟨h1,⟨by omega,by omega⟩,h2,h3⟩,by omega⟩
  refine⟨fun h1=>⟨⟨rfl,by omega,by omega⟩,?_⟩,fun h1=> ?_⟩
  ·have h1:e%2=1:=by simpa using h1
   refine jj _ _ ⟨Int.emod_nonneg _ (by omega),Int.emod_lt_of_pos _ (by omega)⟩ h ?_ fun a' ha' hv' =>⟨⟨rfl,(nxt a' _ ha' ⟨Int.emod_nonneg _ (by omega),Int.emod_lt_of_pos _ (by omega)⟩ hv').1⟩,(nxt a' _ ha' ⟨Int.emod_nonneg _ (by omega),Int.emod_lt_of_pos _ (by omega)⟩ hv').2⟩
   rw[←hv,show e.toNat=2*(e/2).toNat+1 by omega,Int.pow_succ,hpow,Int.mul_emod,Int.emod_emod_of_dvd _ (Int.dvd_refl _),←Int.mul_emod]
   congr 1
   grind
  ·have h1:¬e%2=1:=by simpa using h1
   refine jj _ _ hr h ?_ fun a' ha' hv' =>⟨⟨rfl,(nxt a' _ ha' hr hv').1⟩,(nxt a' _ ha' hr hv').2⟩
   rw[←hv,←hpow,show e.toNat=2*(e/2).toNat by omega]
 ·have h:¬0<e:=of_decide_eq_false h
  rw[show e.toNat=0 by omega,Int.pow_zero,Int.mul_one,Int.emod_eq_of_lt hr.1 hr.2]at hv
  exact hv
noncomputable def k139:Con TB.den:=k7y.fnR (fun x=>(fun(p0:Int) (p1:Int) (p2:Int)=>p0=18446744069414584321∧U64 p1∧U64 p2) x.1 x.2.1 x.2.2.1) fun x=>((fun(p0:Int) (p1:Int) (p2:Int)=>((pw p1 p2):Int)) x.1 x.2.1 x.2.2.1,())
theorem k1el:k139.Ok Try.prog TB:=Con.ok_fn k7y bd68 fun x h=>k1dr (k1d9 x.1 x.2.1 x.2.2.1 h)
def k59:Con TB.den:=Con.mk0 69 [.one (.d (.int .u64)),.one (.d (.int .i64)),.one (.d (.int .i64))] [] (.one (.one (.d (.int .u64)))) []
abbrev kxi:=HL TB.den (hsT k59.ins (hsOs k59.pre))
abbrev kjo:=HL TB.den (hsV k59.res (hsOs k59.post))
noncomputable def kd8:Cx TB:=⟨inf,[kap],[],4,[]⟩
noncomputable def kl0:Code:=Try.f69.body.getD .skip
noncomputable def kp3:List ResultVar:=Try.f69.results.toList
noncomputable def kw9 (o:kjo):An TB:= .no
def kl4 (x:kxi) (o:kjo):Prop:=WPh TB kd8 35 0 kl0 (kw9 o) (k59.st TB x) (retTQ TB kd8 k59 kp3 o)
theorem k141 (o:kjo):OblH TB kd8 35 0 kl0 (kw9 o) (retTQ TB kd8 k59 kp3 o):=
 OblH.ofC (X:=True) (by kernel_rfl) trivial
theorem k15k {x:kxi} {o:kjo} (h:kl4 x o):k59.Snd Try.prog x o:=
 Con.soundH (c:=k59) (C:=kd8) TBok ⟨inf_ok,(all_cons keh all_nil),all_nil⟩ mix Try.func69 (show Try.f69.body=some kl0 by kernel_rfl) (show Try.f69.ntmps=35 by kernel_rfl) (show Try.f69.results.toList=kp3 by kernel_rfl) rfl h (k141 o)
theorem k17g {p0:Int} {p1:Int} {p2:Int} {r0:Int} (h:
((p0=18446744069414584321)∧((!true)=true→
 0=r0)∧
((!true)=false→
(decide (p1<0)=true→
 0=r0)∧
(decide (p1<0)=false→
(decide (7<p1)=true→
 0=r0)∧
(decide (7<p1)=false→
(decide (p2<0)=true→
 0=r0)∧
(decide (p2<0)=false→
(decide (2<p2)=true→
 0=r0)∧
(decide (2<p2)=false→
 let v1:Int:=IntKind.i64.wrap ((IntKind.i64.wrap (3*p1))+p2)
 let v2:Int:=IntKind.u64.wrap (IntKind.i64.wrap (v1+1))
 let v3:Int:=IntKind.u64.wrap (v2*11400714819323198485)
(p0≠0)∧Int.tmod v3 p0=r0))))))):kl4 (p0,p1,p2,()) (r0,()):=WPh.of_eq (by kernel_rfl) h
theorem bd69:Callable Try.prog 69:=⟨by rw[Try.func69];kernel_rfl,by rw[Try.func69];show some _≠some _;decide⟩
theorem k12w (p0:Int) (p1:Int) (p2:Int) (h:p0=18446744069414584321∧(0≤p1∧p1<8)∧0≤p2∧p2<3):kl4 (p0,p1,p2,()) (((rc p1 p2):Int),()):=by
 obtain⟨rfl,h1,h2⟩:=h
 refine k17g ⟨rfl,fun h=>by simp at h,fun _=>⟨fun h=> ?_,fun _=>⟨fun h=> ?_,fun _=>⟨fun h=> ?_,fun _=>⟨fun h=> ?_,fun _=> ?_⟩⟩⟩⟩⟩
 ·simp at h;omega
 ·simp at h;omega
 ·simp at h;omega
 ·simp at h;omega
 ·simp only[]
  rw[wi (3*p1) (by omega) (by omega),wi (3*p1+p2) (by omega) (by omega),wi (3*p1+p2+1) (by omega) (by omega),wu (3*p1+p2+1) (by omega) (by omega),u64w]
  exact⟨by omega,by rw[tmod_nn _ _ (by omega)];rfl⟩
noncomputable def ktp:Con TB.den:=k59.fnR (fun x=>(fun(p0:Int) (p1:Int) (p2:Int)=>p0=18446744069414584321∧(0≤p1∧p1<8)∧0≤p2∧p2<3) x.1 x.2.1 x.2.2.1) fun x=>((fun(p0:Int) (p1:Int) (p2:Int)=>((rc p1 p2):Int)) x.1 x.2.1 x.2.2.1,())
theorem k169:ktp.Ok Try.prog TB:=Con.ok_fn k59 bd69 fun x h=>k15k (k12w x.1 x.2.1 x.2.2.1 h)
def k82:Con TB.den:=Con.mk0 86 [.one (.d (.int .u64)),.one (.d (.sl (.int .u64)))] [] (.one (.one (.d (.int .u64)))) []
abbrev k18r:=HL TB.den (hsT k82.ins (hsOs k82.pre))
abbrev ki8:=HL TB.den (hsV k82.res (hsOs k82.post))
noncomputable def kcw:Cx TB:=⟨inf,[klf],[],4,[]⟩
noncomputable def kik:Code:=Try.f86.body.getD .skip
noncomputable def kt9:List ResultVar:=Try.f86.results.toList
def k1eq (o:ki8):=qS TB kcw 21 0 (cB (cB (cB kik))) .no (retTQ TB kcw k82 kt9 o)
def kje:Tm:=⟨[],[],[0,1,5,6],[.one (.d (.int .u64)),.one (.d (.sl (.int .u64))),.one (.d (.int .u64)),.one (.d (.int .i64))],0⟩
def kp4 (o:ki8) (nx1:NX TB kje) (i:HL TB.den kje.hs):Prop:=WP TB kcw 21 0 (cA (cA (cB (cA (cB (cB kik)))))) .no (kje.fill TB i) (qM TB 0 kje nx1 (blockT TB 0 (k1eq o)))
noncomputable def k1eu (o:ki8):An TB:= .nd [] .no [] (.lp [] kje (kp4 o) fun nx1=> .no)
noncomputable def k170 (o:ki8):An TB:= .nd [] .no [] (.nd [] .no [] (.nd [] (k1eu o) [] .no))
def ku2 (x:k18r) (o:ki8):Prop:=WPh TB kcw 21 0 kik (k170 o) (k82.st TB x) (retTQ TB kcw k82 kt9 o)
theorem k1di (o:ki8):OblH TB kcw 21 0 kik (k170 o) (retTQ TB kcw k82 kt9 o):=
 OblH.ofC (X:=((∀nx i,(kp4 o) nx i=(kp4 o) nx i)∧(∀nx1:NX TB kje,True)∧True)) (by kernel_rfl) ⟨fun _ _=>rfl,fun _=>trivial,trivial⟩
theorem k1df {x:k18r} {o:ki8} (h:ku2 x o):k82.Snd Try.prog x o:=
 Con.soundH (c:=k82) (C:=kcw) TBok ⟨inf_ok,(all_cons ktb all_nil),all_nil⟩ mix Try.func86 (show Try.f86.body=some kik by kernel_rfl) (show Try.f86.ntmps=21 by kernel_rfl) (show Try.f86.results.toList=kt9 by kernel_rfl) rfl h (k1di o)
theorem k1fb {p0:Int} {p1:List Int} {r0:Int} (h:
(Md.Loop (p0,p1,(0:Int),(0:Int),()) (kp4 (r0,())))):ku2 (p0,p1,()) (r0,()):=WPh.of_eq (by kernel_rfl) h
def k15y (r0:Int) (k1:Int→Int→Prop) (s0:Int) (s1:List Int) (s5:Int) (s6:Int):Prop:=
(decide (s6<(s1.length:Int))=true→
(0≤s6)∧s6<(s1.length:Int)∧(s0=18446744069414584321∧U64 s5∧U64 (ix s1 s6))∧let r1:Int:=((s5+(ix s1 s6))%18446744069414584321)
 k1 r1 (IntKind.i64.wrap (s6+1):Int))∧
(decide (s6<(s1.length:Int))=false→
 s5=r0)
theorem k1ef {r0:Int} {s0:Int} {s1:List Int} {s5:Int} {s6:Int} (inv:Int→Int→Prop) (μ:Int→Int→Nat) (h0:inv s5 s6) (hs:∀(s5:Int) (s6:Int),inv s5 s6→k15y r0 (fun s5q s6q=>inv s5q s6q∧μ s5q s6q<μ s5 s6) s0 s1 s5 s6):Md.Loop (s0,s1,s5,s6,()) (kp4 (r0,())):=
 ⟨⟨fun s:Int×(List Int)×Int×Int×Unit=>(s.1=s0∧s.2.1=s1)∧inv s.2.2.1 s.2.2.2.1,fun s:Int×(List Int)×Int×Int×Unit=>μ s.2.2.1 s.2.2.2.1,⟨⟨rfl,rfl⟩,h0⟩,fun(s0p,s1p,s5p,s6p,()) ⟨⟨eq0,eq1⟩,hi⟩=>by
  have eq0:s0p=s0:=eq0;subst s0p;have eq1:s1p=s1:=eq1;subst s1p;exact mpr_of (by kernel_rfl) ((congrArg (fun k=>k15y r0 k s0 s1 s5p s6p) (lpk2 (⟨rfl,rfl⟩:s0=s0∧s1=s1) inv (fun s5q s6q=>μ s5q s6q<μ s5p s6p))).mpr (hs s5p s6p hi))⟩⟩
theorem bd86:Callable Try.prog 86:=⟨by rw[Try.func86];kernel_rfl,by rw[Try.func86];show some _≠some _;decide⟩
theorem k1cn (p0:Int) (p1:List Int) (h:p0=18446744069414584321∧Us p1∧p1.length≤9223372036854775807):ku2 (p0,p1,()) (((p1.foldl (fun s x=>(s+x)%18446744069414584321) 0):Int),()):=by
 obtain⟨rfl,h1,h2⟩:=h
 refine k1fb (k1ef (fun s i=>FoldI (fun s x=>(s+x)%18446744069414584321) 0 p1 i s∧U64 s) (fun s i=>(p1.length-i).toNat) ⟨FoldI.start,by omega⟩ ?_)
 rintro s i ⟨hi,hs⟩
 refine⟨fun hh=> ?_,fun hh=>hi.done (of_decide_eq_false hh)⟩
 have hh:=of_decide_eq_true hh
 have hx:=h1 _ (ix_mem p1 i hi.1 hh)
 have nx:=hi.next hh (by omega) rfl
 exact⟨hi.1,hh,⟨rfl,hs,hx⟩,⟨nx.1,by omega⟩,nx.2⟩
noncomputable def k138:Con TB.den:=k82.fnR (fun x=>(fun(p0:Int) (p1:List Int)=>p0=18446744069414584321∧Us p1∧p1.length≤9223372036854775807) x.1 x.2.1) fun x=>((fun(p0:Int) (p1:List Int)=>((p1.foldl (fun s x=>(s+x)%18446744069414584321) 0):Int)) x.1 x.2.1,())
theorem k1fc:k138.Ok Try.prog TB:=Con.ok_fn k82 bd86 fun x h=>k1df (k1cn x.1 x.2.1 h)
def k81:Con TB.den:=Con.mk0 71 [.one (.d (.int .u64)),.agg [.d (.int .u64),.d (.int .u64),.d (.int .u64)]] [] (.one (.agg [.d (.int .u64),.d (.int .u64),.d (.int .u64)])) []
abbrev k19b:=HL TB.den (hsT k81.ins (hsOs k81.pre))
abbrev ki6:=HL TB.den (hsV k81.res (hsOs k81.post))
noncomputable def kd4:Cx TB:=⟨inf,[k138,klf],[],4,[]⟩
noncomputable def kig:Code:=Try.f71.body.getD .skip
noncomputable def kt2:List ResultVar:=Try.f71.results.toList
def k1f1 (o:ki6):=qS TB kd4 30 0 (cB (cB (cB (cB kig)))) .no (retTQ TB kd4 k81 kt2 o)
def kk2:Tm:=⟨[0,1,3],[.cells [.d (.int .u64),.d (.int .u64),.d (.int .u64)],.cells [.d (.int .u64),.d (.int .u64),.d (.int .u64)],.cells [.d (.int .u64),.d (.int .u64),.d (.int .u64)]],[0,3,4,5,6,7],[.one (.d (.int .u64)),.one (.ptr 0 0),.one (.ptr 1 0),.one (.d (.int .u64)),.one (.ptr 2 0),.one (.d (.int .i64))],4⟩
def kot (o:ki6) (nx1:NX TB kk2) (i:HL TB.den kk2.hs):Prop:=WP TB kd4 30 0 (cA (cA (cB (cA (cB (cB (cB kig))))))) .no (kk2.fill TB i) (qM TB 0 kk2 nx1 (blockT TB 0 (k1f1 o)))
noncomputable def k1er (o:ki6):An TB:= .nd [] .no [] (.lp [] kk2 (kot o) fun nx1=> .no)
noncomputable def k16p (o:ki6):An TB:= .nd [] .no [] (.nd [] .no [] (.nd [] .no [] (.nd [] (k1er o) [] .no)))
def kts (x:k19b) (o:ki6):Prop:=WPh TB kd4 30 0 kig (k16p o) (k81.st TB x) (retTQ TB kd4 k81 kt2 o)
theorem k1ec (o:ki6):OblH TB kd4 30 0 kig (k16p o) (retTQ TB kd4 k81 kt2 o):=
 OblH.ofC (X:=((∀nx i,(kot o) nx i=(kot o) nx i)∧(∀nx1:NX TB kk2,True)∧True)) (by kernel_rfl) ⟨fun _ _=>rfl,fun _=>trivial,trivial⟩
theorem k1e6 {x:k19b} {o:ki6} (h:kts x o):k81.Snd Try.prog x o:=
 Con.soundH (c:=k81) (C:=kd4) TBok ⟨inf_ok,(all_cons k1fc (all_cons ktb all_nil)),all_nil⟩ mix Try.func71 (show Try.f71.body=some kig by kernel_rfl) (show Try.f71.ntmps=30 by kernel_rfl) (show Try.f71.results.toList=kt2 by kernel_rfl) rfl h (k1ec o)
theorem k1ek {p0:Int} {p1:TA3} {r0:TA3} (h:
((p0=18446744069414584321∧Us [p1.a0,p1.a1,p1.a2]∧[p1.a0,p1.a1,p1.a2].length≤9223372036854775807)∧let r1:Int:=([p1.a0,p1.a1,p1.a2].foldl (fun s x=>(s+x)%18446744069414584321) 0)
 Md.Loop (p0,r1,(0:Int),p1.a0,p1.a1,p1.a2,(0:Int),(0:Int),(0:Int),(0:Int),(0:Int),(0:Int),()) (kot (r0.a0,r0.a1,r0.a2,())))):kts (p0,p1.a0,p1.a1,p1.a2,()) (r0.a0,r0.a1,r0.a2,()):=WPh.of_eq (by kernel_rfl) h
def k16w (r0:TA3) (k1:Int→Int→Int→Int→Prop) (s0:Int) (s5:Int) (h0_0:Int) (h0_1:Int) (h0_2:Int) (h1_0:Int) (h1_1:Int) (h1_2:Int) (s7:Int) (h3_0:Int) (h3_1:Int) (h3_2:Int):Prop:=
(decide (s7<3)=true→
(0≤s7∧s7<(3:Int))∧(0≤s7∧s7<(3:Int))∧(s0=18446744069414584321∧U64 (ix [h0_0,h0_1,h0_2] s7)∧U64 s5)∧let r2:Int:=(((ix [h0_0,h0_1,h0_2] s7)+s5)%18446744069414584321)
(0≤s7∧s7<(3:Int))∧(0≤s7∧s7<(3:Int))∧k1 (IntKind.i64.wrap (s7+1):Int) ((bif decide (s7=(0:Int))then r2 else h3_0):Int) ((bif decide (s7=(1:Int))then r2 else h3_1):Int) ((bif decide (s7=(2:Int))then r2 else h3_2):Int))∧
(decide (s7<3)=false→
 h3_0=r0.a0∧h3_1=r0.a1∧h3_2=r0.a2)
theorem k1e5 {r0:TA3} {s0:Int} {s5:Int} {h0_0:Int} {h0_1:Int} {h0_2:Int} {h1_0:Int} {h1_1:Int} {h1_2:Int} {s7:Int} {h3_0:Int} {h3_1:Int} {h3_2:Int} (inv:Int→Int→Int→Int→Prop) (μ:Int→Int→Int→Int→Nat) (h0:inv s7 h3_0 h3_1 h3_2) (hs:∀(s7:Int) (h3_0:Int) (h3_1:Int) (h3_2:Int),inv s7 h3_0 h3_1 h3_2→k16w r0 (fun s7q h3_0q h3_1q h3_2q=>inv s7q h3_0q h3_1q h3_2q∧μ s7q h3_0q h3_1q h3_2q<μ s7 h3_0 h3_1 h3_2) s0 s5 h0_0 h0_1 h0_2 h1_0 h1_1 h1_2 s7 h3_0 h3_1 h3_2):Md.Loop (s0,s5,s7,h0_0,h0_1,h0_2,h1_0,h1_1,h1_2,h3_0,h3_1,h3_2,()) (kot (r0.a0,r0.a1,r0.a2,())):=
 ⟨⟨fun s:Int×Int×Int×Int×Int×Int×Int×Int×Int×Int×Int×Int×Unit=>(s.1=s0∧s.2.1=s5∧s.2.2.2.1=h0_0∧s.2.2.2.2.1=h0_1∧s.2.2.2.2.2.1=h0_2∧s.2.2.2.2.2.2.1=h1_0∧s.2.2.2.2.2.2.2.1=h1_1∧s.2.2.2.2.2.2.2.2.1=h1_2)∧inv s.2.2.1 s.2.2.2.2.2.2.2.2.2.1 s.2.2.2.2.2.2.2.2.2.2.1 s.2.2.2.2.2.2.2.2.2.2.2.1,fun s:Int×Int×Int×Int×Int×Int×Int×Int×Int×Int×Int×Int×Unit=>μ s.2.2.1 s.2.2.2.2.2.2.2.2.2.1 s.2.2.2.2.2.2.2.2.2.2.1 s.2.2.2.2.2.2.2.2.2.2.2.1,⟨⟨rfl,rfl,rfl,rfl,rfl,rfl,rfl,rfl⟩,h0⟩,fun(s0p,s5p,s7p,h0_0p,h0_1p,h0_2p,h1_0p,h1_1p,h1_2p,h3_0p,h3_1p,h3_2p,()) ⟨⟨eq0,eq1,eq2,eq3,eq4,eq5,eq6,eq7⟩,hi⟩=>by
  have eq0:s0p=s0:=eq0;subst s0p;have eq1:s5p=s5:=eq1;subst s5p;have eq2:h0_0p=h0_0:=eq2;subst h0_0p;have eq3:h0_1p=h0_1:=eq3;subst h0_1p;have eq4:h0_2p=h0_2:=eq4;subst h0_2p;have eq5:h1_0p=h1_0:=eq5;subst h1_0p;have eq6:h1_1p=h1_1:=eq6;subst h1_1p;have eq7:h1_2p=h1_2:=eq7;subst h1_2p;exact mpr_of (by kernel_rfl) ((congrArg (fun k=>k16w r0 k s0 s5 h0_0 h0_1 h0_2 h1_0 h1_1 h1_2 s7p h3_0p h3_1p h3_2p) (lpk4 (⟨rfl,rfl,rfl,rfl,rfl,rfl,rfl,rfl⟩:s0=s0∧s5=s5∧h0_0=h0_0∧h0_1=h0_1∧h0_2=h0_2∧h1_0=h1_0∧h1_1=h1_1∧h1_2=h1_2) inv (fun s7q h3_0q h3_1q h3_2q=>μ s7q h3_0q h3_1q h3_2q<μ s7p h3_0p h3_1p h3_2p))).mpr (hs s7p h3_0p h3_1p h3_2p hi))⟩⟩
theorem bd71:Callable Try.prog 71:=⟨by rw[Try.func71];kernel_rfl,by rw[Try.func71];show some _≠some _;decide⟩
theorem k1ci (p0:Int) (p1:TA3) (h:p0=18446744069414584321∧S3 p1):kts (p0,p1.a0,p1.a1,p1.a2,()) (((mixS p1).a0:Int),((mixS p1).a1:Int),((mixS p1).a2:Int),()):=by
 obtain⟨rfl,h0,h1,h2⟩:=h
 have e:[p1.a0,p1.a1,p1.a2].foldl (fun s x=>(s+x)%18446744069414584321) 0=((p1.a0+p1.a1)%18446744069414584321+p1.a2)%18446744069414584321:=by
  show(((0+p1.a0)%18446744069414584321+p1.a1)%18446744069414584321+p1.a2)%18446744069414584321=_
  omega
 refine k1ek (r0:=mixS p1) ⟨⟨rfl,?_,by simp⟩,?_⟩
 ·intro x hx
  simp only[List.mem_cons,List.not_mem_nil,or_false]at hx
  rcases hx with rfl|rfl|rfl
  ·exact h0
  ·exact h1
  ·exact h2
 rw[e]
 have hu:U64 (((p1.a0+p1.a1)%18446744069414584321+p1.a2)%18446744069414584321):=⟨by omega,by omega⟩
 generalize hg:((p1.a0+p1.a1)%18446744069414584321+p1.a2)%18446744069414584321=t at *
 refine k1e5 (r0:=mixS p1) (fun i x y z=>(i=0)∨(i=1∧x=(p1.a0+t)%18446744069414584321)∨(i=2∧x=(p1.a0+t)%18446744069414584321∧y=(p1.a1+t)%18446744069414584321)∨(i=3∧x=(p1.a0+t)%18446744069414584321∧y=(p1.a1+t)%18446744069414584321∧z=(p1.a2+t)%18446744069414584321)) (fun i _ _ _=>(3-i).toNat) (.inl rfl) ?_
 intro i x y z hi
 refine⟨fun hh=> ?_,fun hh=> ?_⟩
 ·have hh:=of_decide_eq_true hh
  rcases hi with rfl|⟨rfl,rfl⟩|⟨rfl,rfl,rfl⟩|⟨rfl,_⟩
  ·exact⟨by omega,by omega,⟨rfl,h0,hu⟩,by omega,by omega,.inr (.inl ⟨rfl,rfl⟩),by decide⟩
  ·exact⟨by omega,by omega,⟨rfl,h1,hu⟩,by omega,by omega,.inr (.inr (.inl ⟨rfl,rfl,rfl⟩)),by decide⟩
  ·exact⟨by omega,by omega,⟨rfl,h2,hu⟩,by omega,by omega,.inr (.inr (.inr ⟨rfl,rfl,rfl,rfl⟩)),by decide⟩
  ·omega
 ·have hh:=of_decide_eq_false hh
  rcases hi with rfl|⟨rfl,rfl⟩|⟨rfl,rfl,rfl⟩|⟨rfl,rfl,rfl,rfl⟩
  ·omega
  ·omega
  ·omega
  ·unfold mixS
   rw[hg]
   exact⟨rfl,rfl,rfl⟩
noncomputable def k13r:Con TB.den:=k81.fnR (fun x=>(fun(p0:Int) (p1:TA3)=>p0=18446744069414584321∧S3 p1) x.1 (TA3.mk x.2.1 x.2.2.1 x.2.2.2.1)) fun x=>((fun(p0:Int) (p1:TA3)=>((mixS p1).a0:Int)) x.1 (TA3.mk x.2.1 x.2.2.1 x.2.2.2.1),(fun(p0:Int) (p1:TA3)=>((mixS p1).a1:Int)) x.1 (TA3.mk x.2.1 x.2.2.1 x.2.2.2.1),(fun(p0:Int) (p1:TA3)=>((mixS p1).a2:Int)) x.1 (TA3.mk x.2.1 x.2.2.1 x.2.2.2.1),())
theorem k1f6:k13r.Ok Try.prog TB:=Con.ok_fn k81 bd71 fun x h=>k1e6 (k1ci x.1 (TA3.mk x.2.1 x.2.2.1 x.2.2.2.1) h)
def k54:Con TB.den:=Con.mk0 51 [.one (.d (.int .u64)),.agg [.d (.int .u64),.d (.int .u64),.d (.int .u64)]] [] (.one (.agg [.d (.int .u64),.d (.int .u64),.d (.int .u64)])) []
abbrev kzq:=HL TB.den (hsT k54.ins (hsOs k54.pre))
abbrev k4o:=HL TB.den (hsV k54.res (hsOs k54.post))
noncomputable def k60:Cx TB:=⟨inf,[kap,ktp,klf,kuy,k139,k13r],[],4,[]⟩
noncomputable def k76:Code:=Try.f51.body.getD .skip
noncomputable def kjq:List ResultVar:=Try.f51.results.toList
def kxu (o:k4o):=qS TB k60 38 0 (cB (cB (cB k76))) .no (retTQ TB k60 k54 kjq o)
def k32:Tm:=⟨[0,1],[.cells [.d (.int .u64),.d (.int .u64),.d (.int .u64)],.cells [.d (.int .u64),.d (.int .u64),.d (.int .u64)]],[0,3,4,5],[.one (.d (.int .u64)),.one (.ptr 0 0),.one (.ptr 1 0),.one (.d (.int .i64))],2⟩
def k17u (o:k4o) (nx2:NX TB k32):=qS TB k60 38 0 (cB (cB (cA (cA (cB (cA (cB (cB k76)))))))) .no (qM TB 0 k32 nx2 (blockT TB 0 (kxu o)))
def k180 (o:k4o) (nx2:NX TB k32):=qS TB k60 38 0 (cB (cA (cA (cB (cA (cA (cB (cA (cB (cB k76)))))))))) .no (blockT TB 1 (k17u o nx2))
def k9d:Tm:=⟨[0,1],[.cells [.d (.int .u64),.d (.int .u64),.d (.int .u64)],.cells [.d (.int .u64),.d (.int .u64),.d (.int .u64)]],[0,3,4,5,6],[.one (.d (.int .u64)),.one (.ptr 0 0),.one (.ptr 1 0),.one (.d (.int .i64)),.one (.d (.int .i64))],2⟩
def k17o (o:k4o) (nx2:NX TB k32) (nx1:NX TB k9d):=qM TB 0 k9d nx1 (blockT TB 2 (k180 o nx2))
def kew (o:k4o) (nx2:NX TB k32) (nx1:NX TB k9d) (i:HL TB.den k9d.hs):Prop:=WP TB k60 38 0 (cA (cA (cB (cA (cA (cA (cB (cA (cA (cB (cA (cB (cB k76))))))))))))) .no (k9d.fill TB i) (k17o o nx2 nx1)
noncomputable def k17n (o:k4o) (nx2:NX TB k32):An TB:= .nd [] .no [] (.lp [] k9d (kew o nx2) fun nx1=> .no)
noncomputable def kxr (o:k4o) (nx2:NX TB k32):An TB:= .nd [] .no [] (.nd [] (.nd [] (k17n o nx2) [] .no) [] .no)
def keu (o:k4o) (nx2:NX TB k32) (i:HL TB.den k32.hs):Prop:=WP TB k60 38 0 (cA (cA (cB (cA (cB (cB k76)))))) (kxr o nx2) (k32.fill TB i) (qM TB 0 k32 nx2 (blockT TB 0 (kxu o)))
noncomputable def k16d (o:k4o):An TB:= .lp [] k32 (keu o) fun nx2=>(kxr o nx2)
noncomputable def k17a (o:k4o):An TB:= .nd [] .no [] (.nd [] (.nd [] .no [] (k16d o)) [] .no)
noncomputable def kxf (o:k4o):An TB:= .nd [] .no [] (k17a o)
def kmm (x:kzq) (o:k4o):Prop:=WPh TB k60 38 0 k76 (kxf o) (k54.st TB x) (retTQ TB k60 k54 kjq o)
theorem k165 (o:k4o):OblH TB k60 38 0 k76 (kxf o) (retTQ TB k60 k54 kjq o):=
 OblH.ofC (X:=((∀nx i,(keu o) nx i=(keu o) nx i)∧(∀nx2:NX TB k32,((∀nx i,(kew o nx2) nx i=(kew o nx2) nx i)∧(∀nx1:NX TB k9d,True)∧True))∧True)) (by kernel_rfl) ⟨fun _ _=>rfl,fun _=>⟨fun _ _=>rfl,fun _=>trivial,trivial⟩,trivial⟩
theorem k17k {x:kzq} {o:k4o} (h:kmm x o):k54.Snd Try.prog x o:=
 Con.soundH (c:=k54) (C:=k60) TBok ⟨inf_ok,(all_cons keh (all_cons k169 (all_cons ktb (all_cons k16n (all_cons k1el (all_cons k1f6 all_nil)))))),all_nil⟩ mix Try.func51 (show Try.f51.body=some k76 by kernel_rfl) (show Try.f51.ntmps=38 by kernel_rfl) (show Try.f51.results.toList=kjq by kernel_rfl) rfl h (k165 o)
theorem k17r {p0:Int} {p1:TA3} {r0:TA3} (h:
((p0=18446744069414584321)∧((!true)=true→
 0=r0.a0∧0=r0.a1∧0=r0.a2)∧
((!true)=false→
 Md.Loop (p0,(0:Int),p1.a0,p1.a1,p1.a2,(0:Int),(0:Int),(0:Int),()) (keu (r0.a0,r0.a1,r0.a2,()))))):kmm (p0,p1.a0,p1.a1,p1.a2,()) (r0.a0,r0.a1,r0.a2,()):=WPh.of_eq (by kernel_rfl) h
def kxy (r0:TA3) (nx2:NX TB k32) (k2:Int→Int→Int→Int→Prop) (s0:Int) (h1_0:Int) (h1_1:Int) (h1_2:Int) (s5:Int) (h0_0:Int) (h0_1:Int) (h0_2:Int):Prop:=
(decide (s5<8)=true→
 Md.Loop (s0,s5,(0:Int),h0_0,h0_1,h0_2,h1_0,h1_1,h1_2,()) (kew (r0.a0,r0.a1,r0.a2,()) nx2))∧
(decide (s5<8)=false→
 h0_0=r0.a0∧h0_1=r0.a1∧h0_2=r0.a2)
theorem k17b {r0:TA3} {s0:Int} {h1_0:Int} {h1_1:Int} {h1_2:Int} {s5:Int} {h0_0:Int} {h0_1:Int} {h0_2:Int} (inv:Int→Int→Int→Int→Prop) (μ:Int→Int→Int→Int→Nat) (h0:inv s5 h0_0 h0_1 h0_2) (hs:∀(s5:Int) (h0_0:Int) (h0_1:Int) (h0_2:Int),inv s5 h0_0 h0_1 h0_2→kxy r0 (fun s:Int×Int×Int×Int×Int×Int×Int×Int×Unit=>((s.1=s0∧s.2.2.2.2.2.1=h1_0∧s.2.2.2.2.2.2.1=h1_1∧s.2.2.2.2.2.2.2.1=h1_2)∧inv s.2.1 s.2.2.1 s.2.2.2.1 s.2.2.2.2.1)∧μ s.2.1 s.2.2.1 s.2.2.2.1 s.2.2.2.2.1<μ s5 h0_0 h0_1 h0_2) (fun s5q h0_0q h0_1q h0_2q=>inv s5q h0_0q h0_1q h0_2q∧μ s5q h0_0q h0_1q h0_2q<μ s5 h0_0 h0_1 h0_2) s0 h1_0 h1_1 h1_2 s5 h0_0 h0_1 h0_2):Md.Loop (s0,s5,h0_0,h0_1,h0_2,h1_0,h1_1,h1_2,()) (keu (r0.a0,r0.a1,r0.a2,())):=
 ⟨⟨fun s:Int×Int×Int×Int×Int×Int×Int×Int×Unit=>(s.1=s0∧s.2.2.2.2.2.1=h1_0∧s.2.2.2.2.2.2.1=h1_1∧s.2.2.2.2.2.2.2.1=h1_2)∧inv s.2.1 s.2.2.1 s.2.2.2.1 s.2.2.2.2.1,fun s:Int×Int×Int×Int×Int×Int×Int×Int×Unit=>μ s.2.1 s.2.2.1 s.2.2.2.1 s.2.2.2.2.1,⟨⟨rfl,rfl,rfl,rfl⟩,h0⟩,fun(s0p,s5p,h0_0p,h0_1p,h0_2p,h1_0p,h1_1p,h1_2p,()) ⟨⟨eq0,eq1,eq2,eq3⟩,hi⟩=>by
  have eq0:s0p=s0:=eq0;subst s0p;have eq1:h1_0p=h1_0:=eq1;subst h1_0p;have eq2:h1_1p=h1_1:=eq2;subst h1_1p;have eq3:h1_2p=h1_2:=eq3;subst h1_2p;exact mpr_of (by kernel_rfl) ((congrArg (fun k=>kxy r0 (fun s:Int×Int×Int×Int×Int×Int×Int×Int×Unit=>((s.1=s0∧s.2.2.2.2.2.1=h1_0∧s.2.2.2.2.2.2.1=h1_1∧s.2.2.2.2.2.2.2.1=h1_2)∧inv s.2.1 s.2.2.1 s.2.2.2.1 s.2.2.2.2.1)∧μ s.2.1 s.2.2.1 s.2.2.2.1 s.2.2.2.2.1<μ s5p h0_0p h0_1p h0_2p) k s0 h1_0 h1_1 h1_2 s5p h0_0p h0_1p h0_2p) (lpk4 (⟨rfl,rfl,rfl,rfl⟩:s0=s0∧h1_0=h1_0∧h1_1=h1_1∧h1_2=h1_2) inv (fun s5q h0_0q h0_1q h0_2q=>μ s5q h0_0q h0_1q h0_2q<μ s5p h0_0p h0_1p h0_2p))).mpr (hs s5p h0_0p h0_1p h0_2p hi))⟩⟩
def kxd (r0:TA3) (nx2:NX TB k32) (k1:Int→Int→Int→Int→Prop) (s0:Int) (s5:Int) (h1_0:Int) (h1_1:Int) (h1_2:Int) (s6:Int) (h0_0:Int) (h0_1:Int) (h0_2:Int):Prop:=
(decide (s6<3)=true→
(0≤s6∧s6<(3:Int))∧(0≤s6∧s6<(3:Int))∧(s0=18446744069414584321∧(0≤s5∧s5<8)∧0≤s6∧s6<3)∧(s0=18446744069414584321∧U64 (ix [h0_0,h0_1,h0_2] s6)∧U64 (rc s5 s6))∧let r1:Int:=(((ix [h0_0,h0_1,h0_2] s6)+(rc s5 s6))%18446744069414584321)
(s0=18446744069414584321)∧(s0=18446744069414584321∧U64 r1∧U64 (7:Int))∧(0≤s6∧s6<(3:Int))∧(0≤s6∧s6<(3:Int))∧k1 (IntKind.i64.wrap (s6+1):Int) ((bif decide (s6=(0:Int))then(pw r1 (7:Int))else h0_0):Int) ((bif decide (s6=(1:Int))then(pw r1 (7:Int))else h0_1):Int) ((bif decide (s6=(2:Int))then(pw r1 (7:Int))else h0_2):Int))∧
(decide (s6<3)=false→
(s0=18446744069414584321∧S3 (TA3.mk h0_0 h0_1 h0_2))∧nx2 (s0,(IntKind.i64.wrap (s5+1):Int),((mixS (TA3.mk h0_0 h0_1 h0_2)).a0:Int),((mixS (TA3.mk h0_0 h0_1 h0_2)).a1:Int),((mixS (TA3.mk h0_0 h0_1 h0_2)).a2:Int),h1_0,h1_1,h1_2,()))
theorem k15w {r0:TA3} {nx2:NX TB k32} {s0:Int} {s5:Int} {h1_0:Int} {h1_1:Int} {h1_2:Int} {s6:Int} {h0_0:Int} {h0_1:Int} {h0_2:Int} (inv:Int→Int→Int→Int→Prop) (μ:Int→Int→Int→Int→Nat) (h0:inv s6 h0_0 h0_1 h0_2) (hs:∀(s6:Int) (h0_0:Int) (h0_1:Int) (h0_2:Int),inv s6 h0_0 h0_1 h0_2→kxd r0 nx2 (fun s6q h0_0q h0_1q h0_2q=>inv s6q h0_0q h0_1q h0_2q∧μ s6q h0_0q h0_1q h0_2q<μ s6 h0_0 h0_1 h0_2) s0 s5 h1_0 h1_1 h1_2 s6 h0_0 h0_1 h0_2):Md.Loop (s0,s5,s6,h0_0,h0_1,h0_2,h1_0,h1_1,h1_2,()) (kew (r0.a0,r0.a1,r0.a2,()) nx2):=
 ⟨⟨fun s:Int×Int×Int×Int×Int×Int×Int×Int×Int×Unit=>(s.1=s0∧s.2.1=s5∧s.2.2.2.2.2.2.1=h1_0∧s.2.2.2.2.2.2.2.1=h1_1∧s.2.2.2.2.2.2.2.2.1=h1_2)∧inv s.2.2.1 s.2.2.2.1 s.2.2.2.2.1 s.2.2.2.2.2.1,fun s:Int×Int×Int×Int×Int×Int×Int×Int×Int×Unit=>μ s.2.2.1 s.2.2.2.1 s.2.2.2.2.1 s.2.2.2.2.2.1,⟨⟨rfl,rfl,rfl,rfl,rfl⟩,h0⟩,fun(s0p,s5p,s6p,h0_0p,h0_1p,h0_2p,h1_0p,h1_1p,h1_2p,()) ⟨⟨eq0,eq1,eq2,eq3,eq4⟩,hi⟩=>by
  have eq0:s0p=s0:=eq0;subst s0p;have eq1:s5p=s5:=eq1;subst s5p;have eq2:h1_0p=h1_0:=eq2;subst h1_0p;have eq3:h1_1p=h1_1:=eq3;subst h1_1p;have eq4:h1_2p=h1_2:=eq4;subst h1_2p;exact mpr_of (by kernel_rfl) ((congrArg (fun k=>kxd r0 nx2 k s0 s5 h1_0 h1_1 h1_2 s6p h0_0p h0_1p h0_2p) (lpk4 (⟨rfl,rfl,rfl,rfl,rfl⟩:s0=s0∧s5=s5∧h1_0=h1_0∧h1_1=h1_1∧h1_2=h1_2) inv (fun s6q h0_0q h0_1q h0_2q=>μ s6q h0_0q h0_1q h0_2q<μ s6p h0_0p h0_1p h0_2p))).mpr (hs s6p h0_0p h0_1p h0_2p hi))⟩⟩
theorem bd51:Callable Try.prog 51:=⟨by rw[Try.func51];kernel_rfl,by rw[Try.func51];show some _≠some _;decide⟩
theorem k15f (p0:Int) (p1:TA3) (h:p0=18446744069414584321∧S3 p1):kmm (p0,p1.a0,p1.a1,p1.a2,()) (((permS p1).a0:Int),((permS p1).a1:Int),((permS p1).a2:Int),()):=by
 obtain⟨hP,hs⟩:=h
 subst hP
 refine k17r ⟨rfl,fun h=>by simp at h,fun _=> ?_⟩
 refine k17b (r0:=permS p1) (fun n a b c=>0≤n∧n≤8∧(⟨a,b,c⟩:TA3)=rnds n.toNat p1∧S3 ⟨a,b,c⟩) (fun n _ _ _=>(8-n).toNat) ⟨by omega,by omega,rfl,hs⟩ ?_
 rintro n a b c ⟨g0,g1,g2,g3⟩
 refine⟨fun h=> ?_,fun h=> ?_⟩
 ·have h:=of_decide_eq_true h
  refine k15w (r0:=permS p1) (fun i x y z=>(i=0∧x=a∧y=b∧z=c)∨(i=1∧x=pw ((a+rc n 0)%18446744069414584321) 7∧y=b∧z=c)∨(i=2∧x=pw ((a+rc n 0)%18446744069414584321) 7∧y=pw ((b+rc n 1)%18446744069414584321) 7∧z=c)∨(i=3∧x=pw ((a+rc n 0)%18446744069414584321) 7∧y=pw ((b+rc n 1)%18446744069414584321) 7∧z=pw ((c+rc n 2)%18446744069414584321) 7)) (fun i _ _ _=>(3-i).toNat) (.inl ⟨rfl,rfl,rfl,rfl⟩) ?_
  intro i x y z hi
  have hrc:∀k,U64 (rc n k):=fun k=>by unfold rc;omega
  have hpw:∀k e,0≤pw k e∧pw k e<18446744069414584321:=fun k e=>⟨Int.emod_nonneg _ (by omega),Int.emod_lt_of_pos _ (by omega)⟩
  obtain⟨h3a,h3b,h3c⟩:=g3
  have u7:U64 7:=by decide
  have hm:∀q:Int,U64 (q%18446744069414584321):=fun q=>⟨Int.emod_nonneg _ (by omega),Int.lt_trans (Int.emod_lt_of_pos _ (by omega)) (by omega)⟩
  refine⟨fun hh=> ?_,fun hh=> ?_⟩
  ·have hh:=of_decide_eq_true hh
   rcases hi with⟨rfl,rfl,rfl,rfl⟩|⟨rfl,rfl,rfl,rfl⟩|⟨rfl,rfl,rfl,rfl⟩|⟨rfl,_⟩
   ·exact⟨by omega,by omega,⟨rfl,by omega,by omega⟩,⟨rfl,h3a,hrc _⟩,rfl,⟨rfl,hm _,u7⟩,by omega,by omega,.inr (.inl ⟨rfl,rfl,rfl,rfl⟩),by decide⟩
   ·exact⟨by omega,by omega,⟨rfl,by omega,by omega⟩,⟨rfl,h3b,hrc _⟩,rfl,⟨rfl,hm _,u7⟩,by omega,by omega,.inr (.inr (.inl ⟨rfl,rfl,rfl,rfl⟩)),by decide⟩
   ·exact⟨by omega,by omega,⟨rfl,by omega,by omega⟩,⟨rfl,h3c,hrc _⟩,rfl,⟨rfl,hm _,u7⟩,by omega,by omega,.inr (.inr (.inr ⟨rfl,rfl,rfl,rfl⟩)),by decide⟩
   ·omega
  ·have hh:=of_decide_eq_false hh
   rcases hi with⟨rfl,_⟩|⟨rfl,_⟩|⟨rfl,_⟩|⟨rfl,rfl,rfl,rfl⟩
   ·omega
   ·omega
   ·omega
   ·have e:rnds (n+1).toNat p1=rnd ⟨a,b,c⟩ n:=by
     rw[show(n+1).toNat=n.toNat+1 by omega]
     show rnd (rnds n.toNat p1) (n.toNat:Int)=_
     rw[←g2,show(n.toNat:Int)=n by omega]
    have hS:S3 (rnds (n+1).toNat p1):=by
     rw[e]
     unfold rnd mixS S3
     dsimp only
     omega
    have hinc:IntKind.i64.wrap (n+1)=n+1:=wi _ (by omega) (by omega)
    rw[hinc]
    refine⟨⟨rfl,by unfold S3;have:=hpw ((a+rc n 0)%18446744069414584321) 7;have:=hpw ((b+rc n 1)%18446744069414584321) 7;have:=hpw ((c+rc n 2)%18446744069414584321) 7;dsimp only;omega⟩,⟨⟨rfl,rfl,rfl,rfl⟩,(?_:0≤n+1∧n+1≤8∧_∧_)⟩,(?_:(8-(n+1)).toNat<(8-n).toNat)⟩
    ·refine⟨by omega,by omega,e.symm,?_⟩
     rw[e]at hS
     exact hS
    ·omega
 ·have h:=of_decide_eq_false h
  rw[show n=8 by omega]at g2
  have g2:(⟨a,b,c⟩:TA3)=permS p1:=g2
  rw[←g2]
  exact⟨rfl,rfl,rfl⟩
noncomputable def kvo:Con TB.den:=k54.fnR (fun x=>(fun(p0:Int) (p1:TA3)=>p0=18446744069414584321∧S3 p1) x.1 (TA3.mk x.2.1 x.2.2.1 x.2.2.2.1)) fun x=>((fun(p0:Int) (p1:TA3)=>((permS p1).a0:Int)) x.1 (TA3.mk x.2.1 x.2.2.1 x.2.2.2.1),(fun(p0:Int) (p1:TA3)=>((permS p1).a1:Int)) x.1 (TA3.mk x.2.1 x.2.2.1 x.2.2.2.1),(fun(p0:Int) (p1:TA3)=>((permS p1).a2:Int)) x.1 (TA3.mk x.2.1 x.2.2.1 x.2.2.2.1),())
theorem k18e:kvo.Ok Try.prog TB:=Con.ok_fn k54 bd51 fun x h=>k17k (k15f x.1 (TA3.mk x.2.1 x.2.2.1 x.2.2.2.1) h)
def k5y:Con TB.den:=Con.mk0 39 [.one (.d (.int .u64)),.one (.d (.int .u64)),.one (.d (.sl (.int .u64)))] [] (.one (.agg [.d (.int .u64),.d (.int .u64),.d (.int .u64)])) []
abbrev k112:=HL TB.den (hsT k5y.ins (hsOs k5y.pre))
abbrev k3j:=HL TB.den (hsV k5y.res (hsOs k5y.post))
noncomputable def k5x:Cx TB:=⟨inf,[kwt,klf,kvo],[],4,[]⟩
noncomputable def k6k:Code:=Try.f39.body.getD .skip
noncomputable def km9:List ResultVar:=Try.f39.results.toList
def krw (o:k3j):=qS TB k5x 60 0 (cB (cB (cB k6k))) .no (retTQ TB k5x k5y km9 o)
def k23:Tm:=⟨[0,1],[.cells [.d (.int .u64),.d (.int .u64),.d (.int .u64)],.cells [.d (.int .u64),.d (.int .u64),.d (.int .u64)]],[0,2,6,7,8],[.one (.d (.int .u64)),.one (.d (.sl (.int .u64))),.one (.ptr 0 0),.one (.ptr 1 0),.one (.d (.int .i64))],2⟩
def kz6 (o:k3j) (nx1:NX TB k23):=qS TB k5x 60 0 (cB (cB (cA (cA (cB (cA (cB (cB k6k)))))))) .no (qM TB 0 k23 nx1 (blockT TB 0 (krw o)))
def kf7:Tm:=⟨[0,1],[.cells [.d (.int .u64),.d (.int .u64),.d (.int .u64)],.cells [.d (.int .u64),.d (.int .u64),.d (.int .u64)]],[0,2,6,7,8],[.one (.d (.int .u64)),.one (.d (.sl (.int .u64))),.one (.ptr 0 0),.one (.ptr 1 0),.one (.d (.int .i64))],2⟩
def ky3 (o:k3j) (nx1:NX TB k23) (i:HL TB.den kf7.hs):Prop:=ghs TB [] (kf7.fill TB i) fun s=>WP TB k5x 60 0 (cB (cB (cA (cA (cB (cA (cA (cB (cA (cB (cB k6k))))))))))) .no s (blockT TB 1 (kz6 o nx1))
structure kal (o:k3j) (nx1:NX TB k23) (i:HL TB.den kf7.hs):Prop where
 h:ky3 o nx1 i
def kk0:Tm:=⟨[0,1],[.cells [.d (.int .u64),.d (.int .u64),.d (.int .u64)],.cells [.d (.int .u64),.d (.int .u64),.d (.int .u64)]],[0,2,6,7,8],[.one (.d (.int .u64)),.one (.d (.sl (.int .u64))),.one (.ptr 0 0),.one (.ptr 1 0),.one (.d (.int .i64))],2⟩
def kxo (o:k3j) (nx1:NX TB k23) (i:HL TB.den kk0.hs):Prop:=ghs TB [] (kk0.fill TB i) fun s=>WP TB k5x 60 0 (cB (cA (cA (cB (cA (cA (cB (cA (cB (cB k6k)))))))))) (.jn kf7 (kal o nx1) [] .no [] .no) s (blockT TB 1 (kz6 o nx1))
structure kgr (o:k3j) (nx1:NX TB k23) (i:HL TB.den kk0.hs):Prop where
 h:kxo o nx1 i
noncomputable def kzt (o:k3j) (nx1:NX TB k23):An TB:= .jn kk0 (kgr o nx1) [] .no [] (.jn kf7 (kal o nx1) [] .no [] .no)
def kjp:Tm:=⟨[0,1],[.cells [.d (.int .u64),.d (.int .u64),.d (.int .u64)],.cells [.d (.int .u64),.d (.int .u64),.d (.int .u64)]],[0,2,6,7,8],[.one (.d (.int .u64)),.one (.d (.sl (.int .u64))),.one (.ptr 0 0),.one (.ptr 1 0),.one (.d (.int .i64))],2⟩
def kxv (o:k3j) (nx1:NX TB k23) (i:HL TB.den kjp.hs):Prop:=ghs TB [] (kjp.fill TB i) fun s=>WP TB k5x 60 0 (cB (cA (cA (cB (cA (cB (cB k6k))))))) (.nd [] (kzt o nx1) [] .no) s (qM TB 0 k23 nx1 (blockT TB 0 (krw o)))
structure kco (o:k3j) (nx1:NX TB k23) (i:HL TB.den kjp.hs):Prop where
 h:kxv o nx1 i
noncomputable def k104 (o:k3j) (nx1:NX TB k23):An TB:= .jn kjp (kco o nx1) [] .no [] (.nd [] (kzt o nx1) [] .no)
def kgl (o:k3j) (nx1:NX TB k23) (i:HL TB.den k23.hs):Prop:=WP TB k5x 60 0 (cA (cA (cB (cA (cB (cB k6k)))))) (k104 o nx1) (k23.fill TB i) (qM TB 0 k23 nx1 (blockT TB 0 (krw o)))
noncomputable def k1aa (o:k3j):An TB:= .lp [] k23 (kgl o) fun nx1=>(k104 o nx1)
noncomputable def k1ax (o:k3j):An TB:= .nd [] .no [] (.nd [] (.nd [] .no [] (k1aa o)) [] .no)
noncomputable def kzr (o:k3j):An TB:= .nd [] .no [] (k1ax o)
def kp1 (x:k112) (o:k3j):Prop:=WPh TB k5x 60 0 k6k (kzr o) (k5y.st TB x) (retTQ TB k5x k5y km9 o)
theorem k189 (o:k3j):OblH TB k5x 60 0 k6k (kzr o) (retTQ TB k5x k5y km9 o):=
 OblH.ofC (X:=((∀nx i,(kgl o) nx i=(kgl o) nx i)∧(∀nx1:NX TB k23,((∀i,(kco o nx1) i=kxv o nx1 i)∧(∀i,(kgr o nx1) i=kxo o nx1 i)∧(∀i,(kal o nx1) i=ky3 o nx1 i)∧True))∧True)) (by kernel_rfl) ⟨fun _ _=>rfl,fun _=>⟨fun _=>propext ⟨fun h=>h.1,fun h=>⟨h⟩⟩,fun _=>propext ⟨fun h=>h.1,fun h=>⟨h⟩⟩,fun _=>propext ⟨fun h=>h.1,fun h=>⟨h⟩⟩,trivial⟩,trivial⟩
theorem k18i {x:k112} {o:k3j} (h:kp1 x o):k5y.Snd Try.prog x o:=
 Con.soundH (c:=k5y) (C:=k5x) TBok ⟨inf_ok,(all_cons k15x (all_cons ktb (all_cons k18e all_nil))),all_nil⟩ mix Try.func39 (show Try.f39.body=some k6k by kernel_rfl) (show Try.f39.ntmps=60 by kernel_rfl) (show Try.f39.results.toList=km9 by kernel_rfl) rfl h (k189 o)
theorem k1a8 {p0:Int} {p1:Int} {p2:List Int} {r0:TA3} (h:
((p0=18446744069414584321∧U64 p1∧U64 (65536:Int))∧let r1:Int:=(p1*(65536:Int)%18446744069414584321)
(p0=18446744069414584321∧U64 r1∧U64 (IntKind.u64.wrap (p2.length:Int)))∧let r2:Int:=((r1+(IntKind.u64.wrap (p2.length:Int)))%18446744069414584321)
 Md.Loop (p0,p2,(0:Int),(0:Int),(0:Int),(0:Int),(0:Int),(0:Int),r2,()) (kgl (r0.a0,r0.a1,r0.a2,())))):kp1 (p0,p1,p2,()) (r0.a0,r0.a1,r0.a2,()):=WPh.of_eq (by kernel_rfl) h
theorem k152 {r0:TA3} {nx1:NX TB k23} {s0:Int} {s2:List Int} {s8:Int} {h0_0:Int} {h0_1:Int} {h0_2:Int} {h1_0:Int} {h1_1:Int} {h1_2:Int} (h:
((decide (s8<(s2.length:Int))=true→
(0≤s8)∧s8<(s2.length:Int)∧(s0=18446744069414584321∧U64 h1_0∧U64 (ix s2 s8))∧let r3:Int:=((h1_0+(ix s2 s8))%18446744069414584321)
 kgr (r0.a0,r0.a1,r0.a2,()) nx1 (s0,s2,s8,h0_0,h0_1,h0_2,r3,h1_1,h1_2,()))∧
(decide (s8<(s2.length:Int))=false→
 kgr (r0.a0,r0.a1,r0.a2,()) nx1 (s0,s2,s8,h0_0,h0_1,h0_2,h1_0,h1_1,h1_2,())))):kco (r0.a0,r0.a1,r0.a2,()) nx1 (s0,s2,s8,h0_0,h0_1,h0_2,h1_0,h1_1,h1_2,()):=⟨mpr_of (by kernel_rfl) h⟩
theorem ktt {r0:TA3} {nx1:NX TB k23} {s0:Int} {s2:List Int} {s8:Int} {h0_0:Int} {h0_1:Int} {h0_2:Int} {h1_0:Int} {h1_1:Int} {h1_2:Int} (h:
(let v4:Bool:=decide ((IntKind.i64.wrap (s8+1))<(s2.length:Int))
(v4=true→
(0≤IntKind.i64.wrap (s8+1))∧IntKind.i64.wrap (s8+1)<(s2.length:Int)∧(s0=18446744069414584321∧U64 h1_1∧U64 (ix s2 (IntKind.i64.wrap (s8+1))))∧let r5:Int:=((h1_1+(ix s2 (IntKind.i64.wrap (s8+1))))%18446744069414584321)
 kal (r0.a0,r0.a1,r0.a2,()) nx1 (s0,s2,s8,h0_0,h0_1,h0_2,h1_0,r5,h1_2,()))∧
(v4=false→
 kal (r0.a0,r0.a1,r0.a2,()) nx1 (s0,s2,s8,h0_0,h0_1,h0_2,h1_0,h1_1,h1_2,())))):kgr (r0.a0,r0.a1,r0.a2,()) nx1 (s0,s2,s8,h0_0,h0_1,h0_2,h1_0,h1_1,h1_2,()):=⟨mpr_of (by kernel_rfl) h⟩
theorem k15a {r0:TA3} {nx1:NX TB k23} {s0:Int} {s2:List Int} {s8:Int} {h0_0:Int} {h0_1:Int} {h0_2:Int} {h1_0:Int} {h1_1:Int} {h1_2:Int} (h:
((s0=18446744069414584321∧S3 (TA3.mk h1_0 h1_1 h1_2))∧nx1 (s0,s2,(IntKind.i64.wrap (s8+2):Int),h0_0,h0_1,h0_2,((permS (TA3.mk h1_0 h1_1 h1_2)).a0:Int),((permS (TA3.mk h1_0 h1_1 h1_2)).a1:Int),((permS (TA3.mk h1_0 h1_1 h1_2)).a2:Int),()))):kal (r0.a0,r0.a1,r0.a2,()) nx1 (s0,s2,s8,h0_0,h0_1,h0_2,h1_0,h1_1,h1_2,()):=⟨mpr_of (by kernel_rfl) h⟩
def kzv (r0:TA3) (nx1:NX TB k23) (k1:Int→Int→Int→Int→Prop) (s0:Int) (s2:List Int) (h0_0:Int) (h0_1:Int) (h0_2:Int) (s8:Int) (h1_0:Int) (h1_1:Int) (h1_2:Int):Prop:=
((s8==0)=true→
 kco (r0.a0,r0.a1,r0.a2,()) nx1 (s0,s2,s8,h0_0,h0_1,h0_2,h1_0,h1_1,h1_2,()))∧
((s8==0)=false→
(decide (s8<(s2.length:Int))=true→
 kco (r0.a0,r0.a1,r0.a2,()) nx1 (s0,s2,s8,h0_0,h0_1,h0_2,h1_0,h1_1,h1_2,()))∧
(decide (s8<(s2.length:Int))=false→
 h1_0=r0.a0∧h1_1=r0.a1∧h1_2=r0.a2))
theorem k18d {r0:TA3} {s0:Int} {s2:List Int} {h0_0:Int} {h0_1:Int} {h0_2:Int} {s8:Int} {h1_0:Int} {h1_1:Int} {h1_2:Int} (inv:Int→Int→Int→Int→Prop) (μ:Int→Int→Int→Int→Nat) (h0:inv s8 h1_0 h1_1 h1_2) (hs:∀(s8:Int) (h1_0:Int) (h1_1:Int) (h1_2:Int),inv s8 h1_0 h1_1 h1_2→kzv r0 (fun s:Int×(List Int)×Int×Int×Int×Int×Int×Int×Int×Unit=>((s.1=s0∧s.2.1=s2∧s.2.2.2.1=h0_0∧s.2.2.2.2.1=h0_1∧s.2.2.2.2.2.1=h0_2)∧inv s.2.2.1 s.2.2.2.2.2.2.1 s.2.2.2.2.2.2.2.1 s.2.2.2.2.2.2.2.2.1)∧μ s.2.2.1 s.2.2.2.2.2.2.1 s.2.2.2.2.2.2.2.1 s.2.2.2.2.2.2.2.2.1<μ s8 h1_0 h1_1 h1_2) (fun s8q h1_0q h1_1q h1_2q=>inv s8q h1_0q h1_1q h1_2q∧μ s8q h1_0q h1_1q h1_2q<μ s8 h1_0 h1_1 h1_2) s0 s2 h0_0 h0_1 h0_2 s8 h1_0 h1_1 h1_2):Md.Loop (s0,s2,s8,h0_0,h0_1,h0_2,h1_0,h1_1,h1_2,()) (kgl (r0.a0,r0.a1,r0.a2,())):=
 ⟨⟨fun s:Int×(List Int)×Int×Int×Int×Int×Int×Int×Int×Unit=>(s.1=s0∧s.2.1=s2∧s.2.2.2.1=h0_0∧s.2.2.2.2.1=h0_1∧s.2.2.2.2.2.1=h0_2)∧inv s.2.2.1 s.2.2.2.2.2.2.1 s.2.2.2.2.2.2.2.1 s.2.2.2.2.2.2.2.2.1,fun s:Int×(List Int)×Int×Int×Int×Int×Int×Int×Int×Unit=>μ s.2.2.1 s.2.2.2.2.2.2.1 s.2.2.2.2.2.2.2.1 s.2.2.2.2.2.2.2.2.1,⟨⟨rfl,rfl,rfl,rfl,rfl⟩,h0⟩,fun(s0p,s2p,s8p,h0_0p,h0_1p,h0_2p,h1_0p,h1_1p,h1_2p,()) ⟨⟨eq0,eq1,eq2,eq3,eq4⟩,hi⟩=>by
  have eq0:s0p=s0:=eq0;subst s0p;have eq1:s2p=s2:=eq1;subst s2p;have eq2:h0_0p=h0_0:=eq2;subst h0_0p;have eq3:h0_1p=h0_1:=eq3;subst h0_1p;have eq4:h0_2p=h0_2:=eq4;subst h0_2p;exact mpr_of (by kernel_rfl) ((congrArg (fun k=>kzv r0 (fun s:Int×(List Int)×Int×Int×Int×Int×Int×Int×Int×Unit=>((s.1=s0∧s.2.1=s2∧s.2.2.2.1=h0_0∧s.2.2.2.2.1=h0_1∧s.2.2.2.2.2.1=h0_2)∧inv s.2.2.1 s.2.2.2.2.2.2.1 s.2.2.2.2.2.2.2.1 s.2.2.2.2.2.2.2.2.1)∧μ s.2.2.1 s.2.2.2.2.2.2.1 s.2.2.2.2.2.2.2.1 s.2.2.2.2.2.2.2.2.1<μ s8p h1_0p h1_1p h1_2p) k s0 s2 h0_0 h0_1 h0_2 s8p h1_0p h1_1p h1_2p) (lpk4 (⟨rfl,rfl,rfl,rfl,rfl⟩:s0=s0∧s2=s2∧h0_0=h0_0∧h0_1=h0_1∧h0_2=h0_2) inv (fun s8q h1_0q h1_1q h1_2q=>μ s8q h1_0q h1_1q h1_2q<μ s8p h1_0p h1_1p h1_2p))).mpr (hs s8p h1_0p h1_1p h1_2p hi))⟩⟩
theorem bd39:Callable Try.prog 39:=⟨by rw[Try.func39];kernel_rfl,by rw[Try.func39];show some _≠some _;decide⟩
theorem k17j (p0:Int) (p1:Int) (p2:List Int) (h:p0=18446744069414584321∧U64 p1∧Us p2∧p2.length≤1099511627776):kp1 (p0,p1,p2,()) (((absS p1 p2).a0:Int),((absS p1 p2).a1:Int),((absS p1 p2).a2:Int),()):=by
 obtain⟨hP,h1,h2,h3⟩:=h
 subst hP
 have hp:=kgw
 have hi:S3 (absI p1 p2):=by unfold absI S3;dsimp only;omega
 have e:IntKind.u64.wrap (p2.length:Int)=p2.length:=wu _ (by omega) (by omega)
 have em:(p1*65536%18446744069414584321+(p2.length:Int))%18446744069414584321=(absI p1 p2).a2:=rfl
 refine k1a8 ?_
 rw[e]
 refine⟨⟨rfl,h1,by omega⟩,⟨rfl,by omega,by omega⟩,?_⟩
 rw[em]
 have j3:∀nx (i x y z:Int),0≤i→i≤p2.length→S3 ⟨x,y,z⟩→nx ((18446744069414584321:Int),p2,(i+2:Int),(0:Int),(0:Int),(0:Int),(permS ⟨x,y,z⟩).a0,(permS ⟨x,y,z⟩).a1,(permS ⟨x,y,z⟩).a2,())→kal ((absS p1 p2).a0,(absS p1 p2).a1,(absS p1 p2).a2,()) nx ((18446744069414584321:Int),p2,i,(0:Int),(0:Int),(0:Int),x,y,z,()):=by
  intro nx i x y z g0 g1 hS hn
  refine k15a (r0:=absS p1 p2) ?_
  rw[wi (i+2) (by omega) (by omega)]
  exact⟨⟨rfl,hS⟩,hn⟩
 refine k18d (r0:=absS p1 p2) (fun i a b c=>(i=0∧a=0∧b=0∧c=(absI p1 p2).a2)∨(0<i∧i≤p2.length+2∧absL (p2.drop i.toNat) ⟨a,b,c⟩=absS p1 p2∧S3 ⟨a,b,c⟩)) (fun i _ _ _=>(p2.length+4-i).toNat) (.inl ⟨rfl,rfl,rfl,rfl⟩) ?_
 intro i a b c hg
 have body:∀(i:Int) (a b c:Int),0≤i→i≤p2.length→(i<p2.length→absL (p2.drop i.toNat) ⟨a,b,c⟩=absS p1 p2)→(¬i<p2.length→permS ⟨a,b,c⟩=absS p1 p2)→S3 ⟨a,b,c⟩→∀nx,(∀x y z,absL (p2.drop (i+2).toNat) ⟨x,y,z⟩=absS p1 p2→S3 ⟨x,y,z⟩→nx ((18446744069414584321:Int),p2,(i+2:Int),(0:Int),(0:Int),(0:Int),x,y,z,()))→
   kco ((absS p1 p2).a0,(absS p1 p2).a1,(absS p1 p2).a2,()) nx ((18446744069414584321:Int),p2,i,(0:Int),(0:Int),(0:Int),a,b,c,()):=by
  intro i a b c g0 g1 hne hnil hS nx hn
  obtain⟨h3a,h3b,h3c⟩:=hS
  refine k152 (r0:=absS p1 p2) ⟨fun hh=> ?_,fun hh=> ?_⟩
  ·have hh:=of_decide_eq_true hh
   have hx:=h2 _ (ix_mem p2 i g0 hh)
   have g2:=hne hh
   rw[drop_ix p2 i g0 hh]at g2
   refine⟨g0,hh,⟨rfl,h3a,hx⟩,ktt (r0:=absS p1 p2) ?_⟩
   rw[wi (i+1) (by omega) (by omega)]
   refine⟨fun h5=> ?_,fun h5=> ?_⟩
   ·have h5:=of_decide_eq_true h5
    have hy:=h2 _ (ix_mem p2 (i+1) (by omega) h5)
    rw[drop_ix p2 (i+1) (by omega) h5,show i+1+1=i+2 by omega]at g2
    exact⟨by omega,h5,⟨rfl,h3b,hy⟩,j3 _ _ _ _ _ g0 g1 (S3m (by omega) (by omega) h3c) (hn _ _ _ g2 (hp _))⟩
   ·have h5:=of_decide_eq_false h5
    have ed:p2.drop (i+1).toNat=[]:=List.drop_eq_nil_of_le (by omega)
    have ed2:p2.drop (i+2).toNat=[]:=List.drop_eq_nil_of_le (by omega)
    rw[ed]at g2
    exact j3 _ _ _ _ _ g0 g1 (S3m (by omega) h3b h3c) (hn _ _ _ (by rw[ed2];exact g2) (hp _))
  ·have hh:=of_decide_eq_false hh
   refine ktt (r0:=absS p1 p2) ?_
   rw[wi (i+1) (by omega) (by omega)]
   refine⟨fun h5=> ?_,fun h5=> ?_⟩
   ·have h5:=of_decide_eq_true h5
    omega
   ·have ed2:p2.drop (i+2).toNat=[]:=List.drop_eq_nil_of_le (by omega)
    exact j3 _ _ _ _ _ g0 g1 (S3m h3a h3b h3c) (hn _ _ _ (by rw[ed2];exact hnil hh) (hp _))
 refine⟨fun h0=> ?_,fun h0=>⟨fun hh=> ?_,fun hh=> ?_⟩⟩
 ·have h0:i=0:=by simpa using h0
  rcases hg with⟨_,rfl,rfl,rfl⟩|⟨hp0,_⟩
  ·subst h0
   refine body 0 _ _ _ (by omega) (by omega) (fun hl=> ?_) (fun hl=> ?_) hi _ fun x y z k1 k2=>⟨⟨⟨rfl,rfl,rfl,rfl,rfl⟩,.inr ⟨(by omega:(0:Int)<0+2),(by omega:(0:Int)+2≤p2.length+2),k1,k2⟩⟩,(by omega:(p2.length+4-((0:Int)+2)).toNat<(p2.length+4-0:Int).toNat)⟩
   ·have hne:p2≠[]:=by rintro rfl;simp at hl
    unfold absS
    rw[if_neg hne]
    rfl
   ·have hnil:p2=[]:=List.eq_nil_of_length_eq_zero (by omega)
    unfold absS
    rw[if_pos hnil]
    rfl
  ·omega
 ·have h0:¬i=0:=by simpa using h0
  have hh:=of_decide_eq_true hh
  rcases hg with⟨h1,_⟩|⟨g0,g1,g2,g3⟩
  ·omega
  ·exact body i _ _ _ (by omega) (by omega) (fun _=>g2) (fun hl=>absurd hh hl) g3 _ fun x y z k1 k2=>⟨⟨⟨rfl,rfl,rfl,rfl,rfl⟩,.inr ⟨(by omega:0<i+2),(by omega:i+2≤p2.length+2),k1,k2⟩⟩,(by omega:(p2.length+4-(i+2)).toNat<(p2.length+4-i).toNat)⟩
 ·have h0:¬i=0:=by simpa using h0
  have hh:=of_decide_eq_false hh
  rcases hg with⟨h1,_⟩|⟨g0,g1,g2,g3⟩
  ·omega
  ·rw[List.drop_eq_nil_of_le (by omega)]at g2
   have hv:(⟨a,b,c⟩:TA3)=absS p1 p2:=g2
   rw[←hv]
   exact⟨rfl,rfl,rfl⟩
noncomputable def kxq:Con TB.den:=k5y.fnR (fun x=>(fun(p0:Int) (p1:Int) (p2:List Int)=>p0=18446744069414584321∧U64 p1∧Us p2∧p2.length≤1099511627776) x.1 x.2.1 x.2.2.1) fun x=>((fun(p0:Int) (p1:Int) (p2:List Int)=>((absS p1 p2).a0:Int)) x.1 x.2.1 x.2.2.1,(fun(p0:Int) (p1:Int) (p2:List Int)=>((absS p1 p2).a1:Int)) x.1 x.2.1 x.2.2.1,(fun(p0:Int) (p1:Int) (p2:List Int)=>((absS p1 p2).a2:Int)) x.1 x.2.1 x.2.2.1,())
theorem k1a4:kxq.Ok Try.prog TB:=Con.ok_fn k5y bd39 fun x h=>k18i (k17j x.1 x.2.1 x.2.2.1 h)
def k7r:Con TB.den:=Con.mk0 29 [.one (.d (.int .u64)),.one (.d (.int .u64)),.one (.d (.sl (.int .u64)))] [] (.one (.one (.d (.int .u64)))) []
abbrev k15z:=HL TB.den (hsT k7r.ins (hsOs k7r.pre))
abbrev ksx:=HL TB.den (hsV k7r.res (hsOs k7r.post))
noncomputable def kly:Cx TB:=⟨inf,[kap,kxq],[],4,[]⟩
noncomputable def krv:Code:=Try.f29.body.getD .skip
noncomputable def kwj:List ResultVar:=Try.f29.results.toList
noncomputable def k13i (o:ksx):An TB:= .no
def ks8 (x:k15z) (o:ksx):Prop:=WPh TB kly 15 0 krv (k13i o) (k7r.st TB x) (retTQ TB kly k7r kwj o)
theorem k1dc (o:ksx):OblH TB kly 15 0 krv (k13i o) (retTQ TB kly k7r kwj o):=
 OblH.ofC (X:=True) (by kernel_rfl) trivial
theorem k1d0 {x:k15z} {o:ksx} (h:ks8 x o):k7r.Snd Try.prog x o:=
 Con.soundH (c:=k7r) (C:=kly) TBok ⟨inf_ok,(all_cons keh (all_cons k1a4 all_nil)),all_nil⟩ mix Try.func29 (show Try.f29.body=some krv by kernel_rfl) (show Try.f29.ntmps=15 by kernel_rfl) (show Try.f29.results.toList=kwj by kernel_rfl) rfl h (k1dc o)
theorem k1e1 {p0:Int} {p1:Int} {p2:List Int} {r0:Int} (h:
((p0=18446744069414584321)∧((!true)=true→
 0=r0)∧
((!true)=false→
(p0=18446744069414584321∧U64 p1∧Us p2∧p2.length≤1099511627776)∧(absS p1 p2).a0=r0))):ks8 (p0,p1,p2,()) (r0,()):=WPh.of_eq (by kernel_rfl) h
theorem bd29:Callable Try.prog 29:=⟨by rw[Try.func29];kernel_rfl,by rw[Try.func29];show some _≠some _;decide⟩
theorem k1ar (p0:Int) (p1:Int) (p2:List Int) (h:p0=18446744069414584321∧U64 p1∧Us p2∧p2.length≤1099511627776):ks8 (p0,p1,p2,()) (((hashS p1 p2):Int),()):=by
 obtain⟨hP,h1,h2,h3⟩:=h
 subst hP
 exact k1e1 ⟨rfl,fun h=>by simp at h,fun _=>⟨⟨rfl,h1,h2,h3⟩,rfl⟩⟩
noncomputable def k11d:Con TB.den:=k7r.fnR (fun x=>(fun(p0:Int) (p1:Int) (p2:List Int)=>p0=18446744069414584321∧U64 p1∧Us p2∧p2.length≤1099511627776) x.1 x.2.1 x.2.2.1) fun x=>((fun(p0:Int) (p1:Int) (p2:List Int)=>((hashS p1 p2):Int)) x.1 x.2.1 x.2.2.1,())
theorem k1dg:k11d.Ok Try.prog TB:=Con.ok_fn k7r bd29 fun x h=>k1d0 (k1ar x.1 x.2.1 x.2.2.1 h)
def k1x:Con TB.den:=Con.mk0 12 [.one (.ptr 0 0),.agg [.d (.int .u64),.d (.int .u64)],.one (.d (.int .u64))] [.cells [.d (.bool),.d (.int .u64),.d (.int .i64),.own 1,.mp 2,.mp 3,.mp 4],.tip (.st 1),.map (.str) (.int .i64),.map (.str) (.sl (.int .u64)),.map (.str) (.bool)] (.tup [.one (.d (.int .u64)),.agg [.d (.int .u64),.d (.int .u64)]]) [.cells [.d (.bool),.d (.int .u64),.d (.int .i64),.own 1,.mp 2,.mp 3,.mp 4],.tip (.st 1),.map (.str) (.int .i64),.map (.str) (.sl (.int .u64)),.map (.str) (.bool)]
abbrev kif:=HL TB.den (hsT k1x.ins (hsOs k1x.pre))
abbrev k90:=HL TB.den (hsV k1x.res (hsOs k1x.post))
noncomputable def k6l:Cx TB:=⟨inf,[kl3],[],4,[]⟩
noncomputable def k9w:Code:=Try.f12.body.getD .skip
noncomputable def kb7:List ResultVar:=Try.f12.results.toList
noncomputable def kha (o:k90):An TB:= .no
def k9n (x:kif) (o:k90):Prop:=WPh TB k6l 28 5 k9w (kha o) (k1x.st TB x) (retTQ TB k6l k1x kb7 o)
theorem ksc (o:k90):OblH TB k6l 28 5 k9w (kha o) (retTQ TB k6l k1x kb7 o):=
 OblH.ofC (X:=True) (by kernel_rfl) trivial
theorem ks6 {x:kif} {o:k90} (h:k9n x o):k1x.Snd Try.prog x o:=
 Con.soundH (c:=k1x) (C:=k6l) TBok ⟨inf_ok,(all_cons kui all_nil),all_nil⟩ mix Try.func12 (show Try.f12.body=some k9w by kernel_rfl) (show Try.f12.ntmps=28 by kernel_rfl) (show Try.f12.results.toList=kb7 by kernel_rfl) rfl h (ksc o)
theorem kt1 {p1:TTranscript} {p2:Int} {c0_0:Bool} {c0_1:Int} {c0_2:Int} {w1:List TQuestion} {w2k:List ByteArray} {w2v:List Int} {w3k:List ByteArray} {w3v:List (List Int)} {w4k:List ByteArray} {w4v:List Bool} {r0:Int} {r1:TTranscript} {d0_0:Bool} {d0_1:Int} {d0_2:Int} {e1:List TQuestion} {e2k:List ByteArray} {e2v:List Int} {e3k:List ByteArray} {e3v:List (List Int)} {e4k:List ByteArray} {e4v:List Bool} (h:
(((p2==0)=true→
(w1=w1)∧0=r0∧p1.State=r1.State∧p1.Count=r1.Count∧c0_0=d0_0∧c0_1=d0_1∧c0_2=d0_2∧w1=e1∧w2k=e2k∧w2v=e2v∧w3k=e3k∧w3v=e3v∧w4k=e4k∧w4v=e4v)∧
((p2==0)=false→
(w1=w1)∧(U64 (19:Int)∧(Us [p1.State,p1.Count]∧[p1.State,p1.Count].length≤1000000000)∧OOk (OS.mk c0_0 c0_1 c0_2 w1 w2k w2v w3k w3v w4k w4v))∧let r2:Int:=((hO (OS.mk c0_0 c0_1 c0_2 w1 w2k w2v w3k w3v w4k w4v) (19:Int) [p1.State,p1.Count]).n)
 let r3:Bool:=((hO (OS.mk c0_0 c0_1 c0_2 w1 w2k w2v w3k w3v w4k w4v) (19:Int) [p1.State,p1.Count]).o.a)
 let r4:Int:=((hO (OS.mk c0_0 c0_1 c0_2 w1 w2k w2v w3k w3v w4k w4v) (19:Int) [p1.State,p1.Count]).o.b)
 let r5:Int:=((hO (OS.mk c0_0 c0_1 c0_2 w1 w2k w2v w3k w3v w4k w4v) (19:Int) [p1.State,p1.Count]).o.c)
 let r6:List TQuestion:=((hO (OS.mk c0_0 c0_1 c0_2 w1 w2k w2v w3k w3v w4k w4v) (19:Int) [p1.State,p1.Count]).o.q)
 let r7:List ByteArray:=((hO (OS.mk c0_0 c0_1 c0_2 w1 w2k w2v w3k w3v w4k w4v) (19:Int) [p1.State,p1.Count]).o.k)
 let r8:List Int:=((hO (OS.mk c0_0 c0_1 c0_2 w1 w2k w2v w3k w3v w4k w4v) (19:Int) [p1.State,p1.Count]).o.v)
 let r9:List ByteArray:=((hO (OS.mk c0_0 c0_1 c0_2 w1 w2k w2v w3k w3v w4k w4v) (19:Int) [p1.State,p1.Count]).o.s)
 let r10:List (List Int):=((hO (OS.mk c0_0 c0_1 c0_2 w1 w2k w2v w3k w3v w4k w4v) (19:Int) [p1.State,p1.Count]).o.t)
 let r11:List ByteArray:=((hO (OS.mk c0_0 c0_1 c0_2 w1 w2k w2v w3k w3v w4k w4v) (19:Int) [p1.State,p1.Count]).o.x)
 let r12:List Bool:=((hO (OS.mk c0_0 c0_1 c0_2 w1 w2k w2v w3k w3v w4k w4v) (19:Int) [p1.State,p1.Count]).o.y)
(p2≠0)∧(r6=r6)∧Int.tmod r2 p2=r0∧p1.State=r1.State∧IntKind.u64.wrap (p1.Count+1)=r1.Count∧r3=d0_0∧r4=d0_1∧r5=d0_2∧r6=e1∧r7=e2k∧r8=e2v∧r9=e3k∧r10=e3v∧r11=e4k∧r12=e4v))):k9n (p1.State,p1.Count,p2,c0_0,c0_1,c0_2,w1,w2k,w2v,w3k,w3v,w4k,w4v,()) (r0,r1.State,r1.Count,d0_0,d0_1,d0_2,e1,e2k,e2v,e3k,e3v,e4k,e4v,()):=WPh.of_eq (by kernel_rfl) h
theorem bd12:Callable Try.prog 12:=⟨by rw[Try.func12];kernel_rfl,by rw[Try.func12];show some _≠some _;decide⟩
theorem krf (p1:TTranscript) (p2:Int) (c0_0:Bool) (c0_1:Int) (c0_2:Int) (w1:List TQuestion) (w2k:List ByteArray) (w2v:List Int) (w3k:List ByteArray) (w3v:List (List Int)) (w4k:List ByteArray) (w4v:List Bool) (h:(U64 p1.State∧U64 p1.Count)∧OOk (OS.mk c0_0 c0_1 c0_2 w1 w2k w2v w3k w3v w4k w4v)):k9n (p1.State,p1.Count,p2,c0_0,c0_1,c0_2,w1,w2k,w2v,w3k,w3v,w4k,w4v,()) ((((chO (OS.mk c0_0 c0_1 c0_2 w1 w2k w2v w3k w3v w4k w4v) p1 p2).n):Int),(((chO (OS.mk c0_0 c0_1 c0_2 w1 w2k w2v w3k w3v w4k w4v) p1 p2).t).State:Int),(((chO (OS.mk c0_0 c0_1 c0_2 w1 w2k w2v w3k w3v w4k w4v) p1 p2).t).Count:Int),(((chO (OS.mk c0_0 c0_1 c0_2 w1 w2k w2v w3k w3v w4k w4v) p1 p2).o.a):Bool),(((chO (OS.mk c0_0 c0_1 c0_2 w1 w2k w2v w3k w3v w4k w4v) p1 p2).o.b):Int),(((chO (OS.mk c0_0 c0_1 c0_2 w1 w2k w2v w3k w3v w4k w4v) p1 p2).o.c):Int),(((chO (OS.mk c0_0 c0_1 c0_2 w1 w2k w2v w3k w3v w4k w4v) p1 p2).o.q):List TQuestion),(((chO (OS.mk c0_0 c0_1 c0_2 w1 w2k w2v w3k w3v w4k w4v) p1 p2).o.k):List ByteArray),(((chO (OS.mk c0_0 c0_1 c0_2 w1 w2k w2v w3k w3v w4k w4v) p1 p2).o.v):List Int),(((chO (OS.mk c0_0 c0_1 c0_2 w1 w2k w2v w3k w3v w4k w4v) p1 p2).o.s):List ByteArray),(((chO (OS.mk c0_0 c0_1 c0_2 w1 w2k w2v w3k w3v w4k w4v) p1 p2).o.t):List (List Int)),(((chO (OS.mk c0_0 c0_1 c0_2 w1 w2k w2v w3k w3v w4k w4v) p1 p2).o.x):List ByteArray),(((chO (OS.mk c0_0 c0_1 c0_2 w1 w2k w2v w3k w3v w4k w4v) p1 p2).o.y):List Bool),()):=by
 obtain⟨⟨h1,h2⟩,h3⟩:=h
 refine kt1 (r1:=(chO (OS.mk c0_0 c0_1 c0_2 w1 w2k w2v w3k w3v w4k w4v) p1 p2).t) ⟨fun e=> ?_,fun e=> ?_⟩
 ·have e:p2=0:=by simpa using e
  unfold chO
  rw[if_pos e]
  exact⟨rfl,rfl,rfl,rfl,rfl,rfl,rfl,rfl,rfl,rfl,rfl,rfl,rfl,rfl⟩
 ·have e:¬p2=0:=by simpa using e
  unfold chO
  rw[if_neg e]
  refine⟨rfl,⟨by decide,⟨fun x hx=> ?_,by simp⟩,h3⟩,e,rfl,rfl,rfl,rfl,rfl,rfl,rfl,rfl,rfl,rfl,rfl,rfl,rfl,rfl⟩
  rcases List.mem_cons.1 hx with rfl|hx
  ·exact h1
  ·rw[List.mem_singleton.1 hx];exact h2
noncomputable def k7z:Con TB.den:=k1x.fnR (fun x=>(fun(p1:TTranscript) (p2:Int) (c0_0:Bool) (c0_1:Int) (c0_2:Int) (w1:List TQuestion) (w2k:List ByteArray) (w2v:List Int) (w3k:List ByteArray) (w3v:List (List Int)) (w4k:List ByteArray) (w4v:List Bool)=>(U64 p1.State∧U64 p1.Count)∧OOk (OS.mk c0_0 c0_1 c0_2 w1 w2k w2v w3k w3v w4k w4v)) (TTranscript.mk x.1 x.2.1) x.2.2.1 x.2.2.2.1 x.2.2.2.2.1 x.2.2.2.2.2.1 x.2.2.2.2.2.2.1 x.2.2.2.2.2.2.2.1 x.2.2.2.2.2.2.2.2.1 x.2.2.2.2.2.2.2.2.2.1 x.2.2.2.2.2.2.2.2.2.2.1 x.2.2.2.2.2.2.2.2.2.2.2.1 x.2.2.2.2.2.2.2.2.2.2.2.2.1) fun x=>((fun(p1:TTranscript) (p2:Int) (c0_0:Bool) (c0_1:Int) (c0_2:Int) (w1:List TQuestion) (w2k:List ByteArray) (w2v:List Int) (w3k:List ByteArray) (w3v:List (List Int)) (w4k:List ByteArray) (w4v:List Bool)=>(((chO (OS.mk c0_0 c0_1 c0_2 w1 w2k w2v w3k w3v w4k w4v) p1 p2).n):Int)) (TTranscript.mk x.1 x.2.1) x.2.2.1 x.2.2.2.1 x.2.2.2.2.1 x.2.2.2.2.2.1 x.2.2.2.2.2.2.1 x.2.2.2.2.2.2.2.1 x.2.2.2.2.2.2.2.2.1 x.2.2.2.2.2.2.2.2.2.1 x.2.2.2.2.2.2.2.2.2.2.1 x.2.2.2.2.2.2.2.2.2.2.2.1 x.2.2.2.2.2.2.2.2.2.2.2.2.1,(fun(p1:TTranscript) (p2:Int) (c0_0:Bool) (c0_1:Int) (c0_2:Int) (w1:List TQuestion) (w2k:List ByteArray) (w2v:List Int) (w3k:List ByteArray) (w3v:List (List Int)) (w4k:List ByteArray) (w4v:List Bool)=>(((chO (OS.mk c0_0 c0_1 c0_2 w1 w2k w2v w3k w3v w4k w4v) p1 p2).t).State:Int)) (TTranscript.mk x.1 x.2.1) x.2.2.1 x.2.2.2.1 x.2.2.2.2.1 x.2.2.2.2.2.1 x.2.2.2.2.2.2.1 x.2.2.2.2.2.2.2.1 x.2.2.2.2.2.2.2.2.1 x.2.2.2.2.2.2.2.2.2.1 x.2.2.2.2.2.2.2.2.2.2.1 x.2.2.2.2.2.2.2.2.2.2.2.1 x.2.2.2.2.2.2.2.2.2.2.2.2.1,(fun(p1:TTranscript) (p2:Int) (c0_0:Bool) (c0_1:Int) (c0_2:Int) (w1:List TQuestion) (w2k:List ByteArray) (w2v:List Int) (w3k:List ByteArray) (w3v:List (List Int)) (w4k:List ByteArray) (w4v:List Bool)=>(((chO (OS.mk c0_0 c0_1 c0_2 w1 w2k w2v w3k w3v w4k w4v) p1 p2).t).Count:Int)) (TTranscript.mk x.1 x.2.1) x.2.2.1 x.2.2.2.1 x.2.2.2.2.1 x.2.2.2.2.2.1 x.2.2.2.2.2.2.1 x.2.2.2.2.2.2.2.1 x.2.2.2.2.2.2.2.2.1 x.2.2.2.2.2.2.2.2.2.1 x.2.2.2.2.2.2.2.2.2.2.1 x.2.2.2.2.2.2.2.2.2.2.2.1 x.2.2.2.2.2.2.2.2.2.2.2.2.1,(fun(p1:TTranscript) (p2:Int) (c0_0:Bool) (c0_1:Int) (c0_2:Int) (w1:List TQuestion) (w2k:List ByteArray) (w2v:List Int) (w3k:List ByteArray) (w3v:List (List Int)) (w4k:List ByteArray) (w4v:List Bool)=>(((chO (OS.mk c0_0 c0_1 c0_2 w1 w2k w2v w3k w3v w4k w4v) p1 p2).o.a):Bool)) (TTranscript.mk x.1 x.2.1) x.2.2.1 x.2.2.2.1 x.2.2.2.2.1 x.2.2.2.2.2.1 x.2.2.2.2.2.2.1 x.2.2.2.2.2.2.2.1 x.2.2.2.2.2.2.2.2.1 x.2.2.2.2.2.2.2.2.2.1 x.2.2.2.2.2.2.2.2.2.2.1 x.2.2.2.2.2.2.2.2.2.2.2.1 x.2.2.2.2.2.2.2.2.2.2.2.2.1,(fun(p1:TTranscript) (p2:Int) (c0_0:Bool) (c0_1:Int) (c0_2:Int) (w1:List TQuestion) (w2k:List ByteArray) (w2v:List Int) (w3k:List ByteArray) (w3v:List (List Int)) (w4k:List ByteArray) (w4v:List Bool)=>(((chO (OS.mk c0_0 c0_1 c0_2 w1 w2k w2v w3k w3v w4k w4v) p1 p2).o.b):Int)) (TTranscript.mk x.1 x.2.1) x.2.2.1 x.2.2.2.1 x.2.2.2.2.1 x.2.2.2.2.2.1 x.2.2.2.2.2.2.1 x.2.2.2.2.2.2.2.1 x.2.2.2.2.2.2.2.2.1 x.2.2.2.2.2.2.2.2.2.1 x.2.2.2.2.2.2.2.2.2.2.1 x.2.2.2.2.2.2.2.2.2.2.2.1 x.2.2.2.2.2.2.2.2.2.2.2.2.1,(fun(p1:TTranscript) (p2:Int) (c0_0:Bool) (c0_1:Int) (c0_2:Int) (w1:List TQuestion) (w2k:List ByteArray) (w2v:List Int) (w3k:List ByteArray) (w3v:List (List Int)) (w4k:List ByteArray) (w4v:List Bool)=>(((chO (OS.mk c0_0 c0_1 c0_2 w1 w2k w2v w3k w3v w4k w4v) p1 p2).o.c):Int)) (TTranscript.mk x.1 x.2.1) x.2.2.1 x.2.2.2.1 x.2.2.2.2.1 x.2.2.2.2.2.1 x.2.2.2.2.2.2.1 x.2.2.2.2.2.2.2.1 x.2.2.2.2.2.2.2.2.1 x.2.2.2.2.2.2.2.2.2.1 x.2.2.2.2.2.2.2.2.2.2.1 x.2.2.2.2.2.2.2.2.2.2.2.1 x.2.2.2.2.2.2.2.2.2.2.2.2.1,(fun(p1:TTranscript) (p2:Int) (c0_0:Bool) (c0_1:Int) (c0_2:Int) (w1:List TQuestion) (w2k:List ByteArray) (w2v:List Int) (w3k:List ByteArray) (w3v:List (List Int)) (w4k:List ByteArray) (w4v:List Bool)=>(((chO (OS.mk c0_0 c0_1 c0_2 w1 w2k w2v w3k w3v w4k w4v) p1 p2).o.q):List TQuestion)) (TTranscript.mk x.1 x.2.1) x.2.2.1 x.2.2.2.1 x.2.2.2.2.1 x.2.2.2.2.2.1 x.2.2.2.2.2.2.1 x.2.2.2.2.2.2.2.1 x.2.2.2.2.2.2.2.2.1 x.2.2.2.2.2.2.2.2.2.1 x.2.2.2.2.2.2.2.2.2.2.1 x.2.2.2.2.2.2.2.2.2.2.2.1 x.2.2.2.2.2.2.2.2.2.2.2.2.1,(fun(p1:TTranscript) (p2:Int) (c0_0:Bool) (c0_1:Int) (c0_2:Int) (w1:List TQuestion) (w2k:List ByteArray) (w2v:List Int) (w3k:List ByteArray) (w3v:List (List Int)) (w4k:List ByteArray) (w4v:List Bool)=>(((chO (OS.mk c0_0 c0_1 c0_2 w1 w2k w2v w3k w3v w4k w4v) p1 p2).o.k):List ByteArray)) (TTranscript.mk x.1 x.2.1) x.2.2.1 x.2.2.2.1 x.2.2.2.2.1 x.2.2.2.2.2.1 x.2.2.2.2.2.2.1 x.2.2.2.2.2.2.2.1 x.2.2.2.2.2.2.2.2.1 x.2.2.2.2.2.2.2.2.2.1 x.2.2.2.2.2.2.2.2.2.2.1 x.2.2.2.2.2.2.2.2.2.2.2.1 x.2.2.2.2.2.2.2.2.2.2.2.2.1,(fun(p1:TTranscript) (p2:Int) (c0_0:Bool) (c0_1:Int) (c0_2:Int) (w1:List TQuestion) (w2k:List ByteArray) (w2v:List Int) (w3k:List ByteArray) (w3v:List (List Int)) (w4k:List ByteArray) (w4v:List Bool)=>(((chO (OS.mk c0_0 c0_1 c0_2 w1 w2k w2v w3k w3v w4k w4v) p1 p2).o.v):List Int)) (TTranscript.mk x.1 x.2.1) x.2.2.1 x.2.2.2.1 x.2.2.2.2.1 x.2.2.2.2.2.1 x.2.2.2.2.2.2.1 x.2.2.2.2.2.2.2.1 x.2.2.2.2.2.2.2.2.1 x.2.2.2.2.2.2.2.2.2.1 x.2.2.2.2.2.2.2.2.2.2.1 x.2.2.2.2.2.2.2.2.2.2.2.1 x.2.2.2.2.2.2.2.2.2.2.2.2.1,(fun(p1:TTranscript) (p2:Int) (c0_0:Bool) (c0_1:Int) (c0_2:Int) (w1:List TQuestion) (w2k:List ByteArray) (w2v:List Int) (w3k:List ByteArray) (w3v:List (List Int)) (w4k:List ByteArray) (w4v:List Bool)=>(((chO (OS.mk c0_0 c0_1 c0_2 w1 w2k w2v w3k w3v w4k w4v) p1 p2).o.s):List ByteArray)) (TTranscript.mk x.1 x.2.1) x.2.2.1 x.2.2.2.1 x.2.2.2.2.1 x.2.2.2.2.2.1 x.2.2.2.2.2.2.1 x.2.2.2.2.2.2.2.1 x.2.2.2.2.2.2.2.2.1 x.2.2.2.2.2.2.2.2.2.1 x.2.2.2.2.2.2.2.2.2.2.1 x.2.2.2.2.2.2.2.2.2.2.2.1 x.2.2.2.2.2.2.2.2.2.2.2.2.1,(fun(p1:TTranscript) (p2:Int) (c0_0:Bool) (c0_1:Int) (c0_2:Int) (w1:List TQuestion) (w2k:List ByteArray) (w2v:List Int) (w3k:List ByteArray) (w3v:List (List Int)) (w4k:List ByteArray) (w4v:List Bool)=>(((chO (OS.mk c0_0 c0_1 c0_2 w1 w2k w2v w3k w3v w4k w4v) p1 p2).o.t):List (List Int))) (TTranscript.mk x.1 x.2.1) x.2.2.1 x.2.2.2.1 x.2.2.2.2.1 x.2.2.2.2.2.1 x.2.2.2.2.2.2.1 x.2.2.2.2.2.2.2.1 x.2.2.2.2.2.2.2.2.1 x.2.2.2.2.2.2.2.2.2.1 x.2.2.2.2.2.2.2.2.2.2.1 x.2.2.2.2.2.2.2.2.2.2.2.1 x.2.2.2.2.2.2.2.2.2.2.2.2.1,(fun(p1:TTranscript) (p2:Int) (c0_0:Bool) (c0_1:Int) (c0_2:Int) (w1:List TQuestion) (w2k:List ByteArray) (w2v:List Int) (w3k:List ByteArray) (w3v:List (List Int)) (w4k:List ByteArray) (w4v:List Bool)=>(((chO (OS.mk c0_0 c0_1 c0_2 w1 w2k w2v w3k w3v w4k w4v) p1 p2).o.x):List ByteArray)) (TTranscript.mk x.1 x.2.1) x.2.2.1 x.2.2.2.1 x.2.2.2.2.1 x.2.2.2.2.2.1 x.2.2.2.2.2.2.1 x.2.2.2.2.2.2.2.1 x.2.2.2.2.2.2.2.2.1 x.2.2.2.2.2.2.2.2.2.1 x.2.2.2.2.2.2.2.2.2.2.1 x.2.2.2.2.2.2.2.2.2.2.2.1 x.2.2.2.2.2.2.2.2.2.2.2.2.1,(fun(p1:TTranscript) (p2:Int) (c0_0:Bool) (c0_1:Int) (c0_2:Int) (w1:List TQuestion) (w2k:List ByteArray) (w2v:List Int) (w3k:List ByteArray) (w3v:List (List Int)) (w4k:List ByteArray) (w4v:List Bool)=>(((chO (OS.mk c0_0 c0_1 c0_2 w1 w2k w2v w3k w3v w4k w4v) p1 p2).o.y):List Bool)) (TTranscript.mk x.1 x.2.1) x.2.2.1 x.2.2.2.1 x.2.2.2.2.1 x.2.2.2.2.2.1 x.2.2.2.2.2.2.1 x.2.2.2.2.2.2.2.1 x.2.2.2.2.2.2.2.2.1 x.2.2.2.2.2.2.2.2.2.1 x.2.2.2.2.2.2.2.2.2.2.1 x.2.2.2.2.2.2.2.2.2.2.2.1 x.2.2.2.2.2.2.2.2.2.2.2.2.1,())
theorem kbb:k7z.Ok Try.prog TB:=Con.ok_fn k1x bd12 fun x h=>ks6 (krf (TTranscript.mk x.1 x.2.1) x.2.2.1 x.2.2.2.1 x.2.2.2.2.1 x.2.2.2.2.2.1 x.2.2.2.2.2.2.1 x.2.2.2.2.2.2.2.1 x.2.2.2.2.2.2.2.2.1 x.2.2.2.2.2.2.2.2.2.1 x.2.2.2.2.2.2.2.2.2.2.1 x.2.2.2.2.2.2.2.2.2.2.2.1 x.2.2.2.2.2.2.2.2.2.2.2.2.1 h)
def k37:Con TB.den:=Con.mk0 36 [.one (.view 0)] [.vec (.int .i64)] (.one (.one (.row 1))) [.vec (.int .i64),.vec (.int .i64)]
abbrev krm:=HL TB.den (hsT k37.ins (hsOs k37.pre))
abbrev ka0:=HL TB.den (hsV k37.res (hsOs k37.post))
noncomputable def k9a:Cx TB:=⟨inf,[],[],4,[5,7]⟩
noncomputable def kf9:Code:=Try.f36.body.getD .skip
noncomputable def kh7:List ResultVar:=Try.f36.results.toList
noncomputable def k10f (o:ka0):An TB:= .nd [] .no [] (.nd [] (.nd [] .no [] (.rt [.rnil 2 (.int .i64)])) [] .no)
noncomputable def kpt (o:ka0):An TB:= .nd [] .no [] (.nd [] (k10f o) [] .no)
def kf6 (x:krm) (o:ka0):Prop:=WPh TB k9a 8 1 kf9 (kpt o) (k37.st TB x) (retTQ TB k9a k37 kh7 o)
theorem kyq (o:ka0):OblH TB k9a 8 1 kf9 (kpt o) (retTQ TB k9a k37 kh7 o):=
 OblH.ofC (X:=True) (by kernel_rfl) trivial
theorem kya {x:krm} {o:ka0} (h:kf6 x o):k37.Snd Try.prog x o:=
 Con.soundH (c:=k37) (C:=k9a) TBok ⟨inf_ok,all_nil,all_nil⟩ mix Try.func36 (show Try.f36.body=some kf9 by kernel_rfl) (show Try.f36.ntmps=8 by kernel_rfl) (show Try.f36.results.toList=kh7 by kernel_rfl) rfl h (kyq o)
theorem k10g {p0o:Int} {p0n:Int} {w0:List Int} {e0:List Int} {e1:List Int} (h:
(∀z4:Bool,(z4=true→p0n.toNat=0)→(z4=true→
(0=([]:List Int).length)∧w0=e0∧([]:List Int)=e1)∧
(z4=false→
([]:List Int).length=([]:List Int).length∧p0o.toNat+p0n.toNat≤w0.length∧(([]:List Int).length+((w0.drop p0o.toNat).take p0n.toNat).length)*8≤140737488355328∧([]:List Int).length+((w0.drop p0o.toNat).take p0n.toNat).length≤maxLen∧let v5:List Int:=([]:List Int)++((w0.drop p0o.toNat).take p0n.toNat)
(v5.length=v5.length)∧w0=e0∧v5=e1))):kf6 (p0o,p0n,w0,()) (e0,e1,()):=WPh.of_eq (by kernel_rfl) h
theorem bd36:Callable Try.prog 36:=⟨by rw[Try.func36];kernel_rfl,by rw[Try.func36];show some _≠some _;decide⟩
theorem kxg (p0o:Int) (p0n:Int) (w0:List Int) (h:0≤p0o∧0≤p0n∧p0o.toNat+p0n.toNat≤w0.length∧w0.length≤1000000):kf6 (p0o,p0n,w0,()) ((w0:List Int),(((w0.drop p0o.toNat).take p0n.toNat):List Int),()):=by
 obtain⟨h1,h2,h3,h4⟩:=h
 have hl:((w0.drop p0o.toNat).take p0n.toNat).length=p0n.toNat:=by rw[List.length_take,List.length_drop];omega
 refine k10g fun z hz=>⟨fun e=> ?_,fun e=> ?_⟩
 ·have:=hz e
  rw[this]
  exact⟨rfl,rfl,by simp⟩
 ·exact⟨rfl,h3,by rw[hl];simp;omega,by rw[hl];simp;unfold maxLen;omega,by simp⟩
noncomputable def koo:Con TB.den:=k37.fnR (fun x=>(fun(p0o:Int) (p0n:Int) (w0:List Int)=>0≤p0o∧0≤p0n∧p0o.toNat+p0n.toNat≤w0.length∧w0.length≤1000000) x.1 x.2.1 x.2.2.1) fun x=>((fun(p0o:Int) (p0n:Int) (w0:List Int)=>(w0:List Int)) x.1 x.2.1 x.2.2.1,(fun(p0o:Int) (p0n:Int) (w0:List Int)=>(((w0.drop p0o.toNat).take p0n.toNat):List Int)) x.1 x.2.1 x.2.2.1,())
theorem k10a:koo.Ok Try.prog TB:=Con.ok_fn k37 bd36 fun x h=>kya (kxg x.1 x.2.1 x.2.2.1 h)
def k7q:Con TB.den:=Con.mk0 47 [.one (.d (.int .u64))] [] (.one (.one (.d (.int .i64)))) []
abbrev k16b:=HL TB.den (hsT k7q.ins (hsOs k7q.pre))
abbrev kt5:=HL TB.den (hsV k7q.res (hsOs k7q.post))
noncomputable def klo:Cx TB:=⟨inf,[kqj],[],4,[]⟩
noncomputable def ks7:Code:=Try.f47.body.getD .skip
noncomputable def kx6:List ResultVar:=Try.f47.results.toList
noncomputable def k135 (o:kt5):An TB:= .no
def ks0 (x:k16b) (o:kt5):Prop:=WPh TB klo 8 0 ks7 (k135 o) (k7q.st TB x) (retTQ TB klo k7q kx6 o)
theorem k1c5 (o:kt5):OblH TB klo 8 0 ks7 (k135 o) (retTQ TB klo k7q kx6 o):=
 OblH.ofC (X:=True) (by kernel_rfl) trivial
theorem k1cl {x:k16b} {o:kt5} (h:ks0 x o):k7q.Snd Try.prog x o:=
 Con.soundH (c:=k7q) (C:=klo) TBok ⟨inf_ok,(all_cons k101 all_nil),all_nil⟩ mix Try.func47 (show Try.f47.body=some ks7 by kernel_rfl) (show Try.f47.ntmps=8 by kernel_rfl) (show Try.f47.results.toList=kx6 by kernel_rfl) rfl h (k1c5 o)
theorem k1e7 {p0:Int} {r0:Int} (h:
((U64 p0)∧(len64 p0)=r0)):ks0 (p0,()) (r0,()):=WPh.of_eq (by kernel_rfl) h
theorem bd47:Callable Try.prog 47:=⟨by rw[Try.func47];kernel_rfl,by rw[Try.func47];show some _≠some _;decide⟩
theorem k1a7 (p0:Int) (h:U64 p0):ks0 (p0,()) (((len64 p0):Int),()):=by
 exact k1e7 ⟨h,rfl⟩
noncomputable def kuc:Con TB.den:=k7q.fnR (fun x=>(fun(p0:Int)=>U64 p0) x.1) fun x=>((fun(p0:Int)=>((len64 p0):Int)) x.1,())
theorem k13e:kuc.Ok Try.prog TB:=Con.ok_fn k7q bd47 fun x h=>k1cl (k1a7 x.1 h)
def k4s:Con TB.den:=Con.mk0 84 [.one (.d (.int .i64))] [] (.one (.one (.d (.bool)))) []
abbrev kvp:=HL TB.den (hsT k4s.ins (hsOs k4s.pre))
abbrev khm:=HL TB.den (hsV k4s.res (hsOs k4s.post))
noncomputable def kbq:Cx TB:=⟨inf,[],[],4,[]⟩
noncomputable def kip:Code:=Try.f84.body.getD .skip
noncomputable def kmk:List ResultVar:=Try.f84.results.toList
noncomputable def ktm (o:khm):An TB:= .no
def kis (x:kvp) (o:khm):Prop:=WPh TB kbq 6 0 kip (ktm o) (k4s.st TB x) (retTQ TB kbq k4s kmk o)
theorem k12j (o:khm):OblH TB kbq 6 0 kip (ktm o) (retTQ TB kbq k4s kmk o):=
 OblH.ofC (X:=True) (by kernel_rfl) trivial
theorem k12q {x:kvp} {o:khm} (h:kis x o):k4s.Snd Try.prog x o:=
 Con.soundH (c:=k4s) (C:=kbq) TBok ⟨inf_ok,all_nil,all_nil⟩ mix Try.func84 (show Try.f84.body=some kip by kernel_rfl) (show Try.f84.ntmps=6 by kernel_rfl) (show Try.f84.results.toList=kmk by kernel_rfl) rfl h (k12j o)
theorem k14y {p0:Int} {r0:Bool} (h:
((p0 !=p0)=r0)):kis (p0,()) (r0,()):=WPh.of_eq (by kernel_rfl) h
theorem bd84:Callable Try.prog 84:=⟨by rw[Try.func84];kernel_rfl,by rw[Try.func84];show some _≠some _;decide⟩
theorem k123 (p0:Int):kis (p0,()) ((false:Bool),()):=by
 exact k14y (by simp)
noncomputable def ksh:Con TB.den:=k4s.totR fun x=>((fun(p0:Int)=>(false:Bool)) x.1,())
theorem k15o:ksh.Ok Try.prog TB:=Con.ok_tot k4s bd84 fun x=>k12q (k123 x.1)
def k57:Con TB.den:=Con.mk0 61 [.one (.d (.int .i64)),.one (.d (.int .i64))] [] (.one (.one (.d (.bool)))) []
abbrev kxp:=HL TB.den (hsT k57.ins (hsOs k57.pre))
abbrev kjn:=HL TB.den (hsV k57.res (hsOs k57.post))
noncomputable def kcu:Cx TB:=⟨inf,[ksh],[],4,[]⟩
noncomputable def kks:Code:=Try.f61.body.getD .skip
noncomputable def ko4:List ResultVar:=Try.f61.results.toList
noncomputable def kvx (o:kjn):An TB:= .no
def kl5 (x:kxp) (o:kjn):Prop:=WPh TB kcu 17 0 kks (kvx o) (k57.st TB x) (retTQ TB kcu k57 ko4 o)
theorem k15s (o:kjn):OblH TB kcu 17 0 kks (kvx o) (retTQ TB kcu k57 ko4 o):=
 OblH.ofC (X:=True) (by kernel_rfl) trivial
theorem k14d {x:kxp} {o:kjn} (h:kl5 x o):k57.Snd Try.prog x o:=
 Con.soundH (c:=k57) (C:=kcu) TBok ⟨inf_ok,(all_cons k15o all_nil),all_nil⟩ mix Try.func61 (show Try.f61.body=some kks by kernel_rfl) (show Try.f61.ntmps=17 by kernel_rfl) (show Try.f61.results.toList=ko4 by kernel_rfl) rfl h (k15s o)
theorem k15t {p0:Int} {p1:Int} {r0:Bool} (h:
((false=true→
((!false)=true→
 true=r0)∧
((!false)=false→
 decide (p0<p1)=r0))∧
(false=false→
 decide (p0<p1)=r0))):kl5 (p0,p1,()) (r0,()):=WPh.of_eq (by kernel_rfl) h
theorem bd61:Callable Try.prog 61:=⟨by rw[Try.func61];kernel_rfl,by rw[Try.func61];show some _≠some _;decide⟩
theorem k12h (p0:Int) (p1:Int):kl5 (p0,p1,()) (((decide (p0<p1)):Bool),()):=by
 exact k15t ⟨fun h=>by simp at h,fun _=>rfl⟩
noncomputable def k77:Con TB.den:=k57.totR fun x=>((fun(p0:Int) (p1:Int)=>((decide (p0<p1)):Bool)) x.1 x.2.1,())
theorem k8q:k77.Ok Try.prog TB:=Con.ok_tot k57 bd61 fun x=>k14d (k12h x.1 x.2.1)
def k21:Con TB.den:=Con.mk0 80 [.one (.d (.int .i64))] [] (.one (.one (.d (.int .u64)))) []
abbrev kki:=HL TB.den (hsT k21.ins (hsOs k21.pre))
abbrev k98:=HL TB.den (hsV k21.res (hsOs k21.post))
noncomputable def k7d:Cx TB:=⟨inf,[kuc],[],4,[]⟩
noncomputable def kam:Code:=Try.f80.body.getD .skip
noncomputable def kbx:List ResultVar:=Try.f80.results.toList
noncomputable def kin (o:k98):An TB:= .no
def kan (x:kki) (o:k98):Prop:=WPh TB k7d 7 0 kam (kin o) (k21.st TB x) (retTQ TB k7d k21 kbx o)
theorem ktc (o:k98):OblH TB k7d 7 0 kam (kin o) (retTQ TB k7d k21 kbx o):=
 OblH.ofC (X:=True) (by kernel_rfl) trivial
theorem kt8 {x:kki} {o:k98} (h:kan x o):k21.Snd Try.prog x o:=
 Con.soundH (c:=k21) (C:=k7d) TBok ⟨inf_ok,(all_cons k13e all_nil),all_nil⟩ mix Try.func80 (show Try.f80.body=some kam by kernel_rfl) (show Try.f80.ntmps=7 by kernel_rfl) (show Try.f80.results.toList=kbx by kernel_rfl) rfl h (ktc o)
theorem kuq {p0:Int} {r0:Int} (h:
((U64 (IntKind.u64.wrap p0))∧(0≤(len64 (IntKind.u64.wrap p0)))∧let v1:Int:=ishl .u64 1 (len64 (IntKind.u64.wrap p0))
 v1=r0)):kan (p0,()) (r0,()):=WPh.of_eq (by kernel_rfl) h
theorem bd80:Callable Try.prog 80:=⟨by rw[Try.func80];kernel_rfl,by rw[Try.func80];show some _≠some _;decide⟩
theorem ks5 (p0:Int) (h:0≤p0∧p0<4611686018427387904):kan (p0,()) ((((1<<<Sort.bitsLen p0.toNat:Nat):Int):Int),()):=by
 obtain⟨h0,h1⟩:=h
 have e:=npo p0.toNat (by omega)
 rw[show((p0.toNat:Nat):Int)=p0 by omega]at e
 have e2:=k16t p0.toNat
 rw[show((p0.toNat:Nat):Int)=p0 by omega]at e2
 refine kuq ?_
 rw[wu p0 h0 (by omega),e]
 exact⟨⟨h0,by omega⟩,by rw[e2];omega,rfl⟩
noncomputable def khl:Con TB.den:=k21.fnR (fun x=>(fun(p0:Int)=>0≤p0∧p0<4611686018427387904) x.1) fun x=>((fun(p0:Int)=>(((1<<<Sort.bitsLen p0.toNat:Nat):Int):Int)) x.1,())
theorem ktu:khl.Ok Try.prog TB:=Con.ok_fn k21 bd80 fun x h=>kt8 (ks5 x.1 h)
def k4q:Con TB.den:=Con.mk0 81 [.one (.ptr 0 0)] [.cells [.d (.int .u64)]] (.one (.one (.d (.int .u64)))) [.cells [.d (.int .u64)]]
abbrev kw7:=HL TB.den (hsT k4q.ins (hsOs k4q.pre))
abbrev khe:=HL TB.den (hsV k4q.res (hsOs k4q.post))
noncomputable def kc0:Cx TB:=⟨inf,[],[],4,[]⟩
noncomputable def khu:Code:=Try.f81.body.getD .skip
noncomputable def kmx:List ResultVar:=Try.f81.results.toList
noncomputable def kuo (o:khe):An TB:= .no
def ki5 (x:kw7) (o:khe):Prop:=WPh TB kc0 33 1 khu (kuo o) (k4q.st TB x) (retTQ TB kc0 k4q kmx o)
theorem k12x (o:khe):OblH TB kc0 33 1 khu (kuo o) (retTQ TB kc0 k4q kmx o):=
 OblH.ofC (X:=True) (by kernel_rfl) trivial
theorem k12v {x:kw7} {o:khe} (h:ki5 x o):k4q.Snd Try.prog x o:=
 Con.soundH (c:=k4q) (C:=kc0) TBok ⟨inf_ok,all_nil,all_nil⟩ mix Try.func81 (show Try.f81.body=some khu by kernel_rfl) (show Try.f81.ntmps=33 by kernel_rfl) (show Try.f81.results.toList=kmx by kernel_rfl) rfl h (k12x o)
theorem k14k {c0_0:Int} {r0:Int} {d0_0:Int} (h:
(let v1:Int:=ishr .u64 (ixor .u64 c0_0 (ishl .u64 c0_0 13)) 7
 let v2:Int:=ixor .u64 (ixor .u64 c0_0 (ishl .u64 c0_0 13)) v1
 ixor .u64 v2 (ishl .u64 v2 17)=r0∧ixor .u64 v2 (ishl .u64 v2 17)=d0_0)):ki5 (c0_0,()) (r0,d0_0,()):=WPh.of_eq (by kernel_rfl) h
theorem bd81:Callable Try.prog 81:=⟨by rw[Try.func81];kernel_rfl,by rw[Try.func81];show some _≠some _;decide⟩
theorem k11i (c0_0:Int):ki5 (c0_0,()) (((xnI c0_0):Int),((xnI c0_0):Int),()):=by
 exact k14k ⟨rfl,rfl⟩
noncomputable def ksu:Con TB.den:=k4q.totR fun x=>((fun(c0_0:Int)=>((xnI c0_0):Int)) x.1,(fun(c0_0:Int)=>((xnI c0_0):Int)) x.1,())
theorem k140:ksu.Ok Try.prog TB:=Con.ok_tot k4q bd81 fun x=>k12v (k11i x.1)
def k17:Con TB.den:=Con.mk0 57 [.one (.row 0),.one (.d (.int .i64)),.one (.d (.int .i64))] [.vec (.int .i64)] (.tup []) [.vec (.int .i64)]
abbrev kbd:=HL TB.den (hsT k17.ins (hsOs k17.pre))
abbrev kp:=HL TB.den (hsV k17.res (hsOs k17.post))
noncomputable def k1m:Cx TB:=⟨inf,[khl,ksu],[],4,[]⟩
noncomputable def k2j:Code:=Try.f57.body.getD .skip
noncomputable def k5w:List ResultVar:=Try.f57.results.toList
def kl9 (o:kp):=blockT TB 0 (retTQ TB k1m k17 k5w o)
def kr:Tm:=⟨[0,1],[.vec (.int .i64),.cells [.d (.int .u64)]],[0,1,6,7,8,9],[.one (.row 0),.one (.d (.int .i64)),.one (.d (.int .i64)),.one (.ptr 1 0),.one (.d (.int .u64)),.one (.d (.int .i64))],2⟩
def kar (o:kp) (nx1:NX TB kr):=qM TB 1 kr nx1 (kl9 o)
def kkk (o:kp) (nx1:NX TB kr):=qS TB k1m 65 1 (cB (cB (cA (cA (cB (cB (cB (cA (cB (cB k2j)))))))))) .no (kar o nx1)
def k5m:Tm:=⟨[0,1],[.vec (.int .i64),.cells [.d (.int .u64)]],[0,1,6,7,8,9,10],[.one (.row 0),.one (.d (.int .i64)),.one (.d (.int .i64)),.one (.ptr 1 0),.one (.d (.int .u64)),.one (.d (.int .i64)),.one (.d (.int .i64))],2⟩
def kac (o:kp) (nx1:NX TB kr) (i:HL TB.den k5m.hs):Prop:=ghs TB [] (k5m.fill TB i) fun s=>WP TB k1m 65 1 (cB (cB (cA (cA (cB (cA (cA (cB (cB (cB (cA (cB (cB k2j))))))))))))) .no s (blockT TB 1 (kkk o nx1))
structure k41 (o:kp) (nx1:NX TB kr) (i:HL TB.den k5m.hs):Prop where
 h:kac o nx1 i
noncomputable def kld (o:kp) (nx1:NX TB kr):An TB:= .jn k5m (k41 o nx1) [] .no [] .no
noncomputable def kas (o:kp) (nx1:NX TB kr):An TB:= .nd [] (.nd [] .no [] (kld o nx1)) [] .no
def k47 (o:kp) (nx1:NX TB kr) (i:HL TB.den kr.hs):Prop:=WP TB k1m 65 1 (cA (cA (cB (cB (cB (cA (cB (cB k2j)))))))) (.nd [] .no [] (kas o nx1)) (kr.fill TB i) (kar o nx1)
noncomputable def kkr (o:kp):An TB:= .lp [] kr (k47 o) fun nx1=>(.nd [] .no [] (kas o nx1))
noncomputable def kkt (o:kp):An TB:= .nd [] .no [] (.nd [] .no [] (kkr o))
noncomputable def kjt (o:kp):An TB:= .nd [] (.nd [] .no [] (kkt o)) [] .no
noncomputable def kb2 (o:kp):An TB:= .nd [] .no [] (.nd [] .no [] (kjt o))
def k73 (x:kbd) (o:kp):Prop:=WPh TB k1m 65 1 k2j (kb2 o) (k17.st TB x) (retTQ TB k1m k17 k5w o)
theorem kjv (o:kp):OblH TB k1m 65 1 k2j (kb2 o) (retTQ TB k1m k17 k5w o):=
 OblH.ofC (X:=((∀nx i,(k47 o) nx i=(k47 o) nx i)∧(∀nx1:NX TB kr,((∀i,(k41 o nx1) i=kac o nx1 i)∧True))∧True)) (by kernel_rfl) ⟨fun _ _=>rfl,fun _=>⟨fun _=>propext ⟨fun h=>h.1,fun h=>⟨h⟩⟩,trivial⟩,trivial⟩
theorem kjw {x:kbd} {o:kp} (h:k73 x o):k17.Snd Try.prog x o:=
 Con.soundH (c:=k17) (C:=k1m) TBok ⟨inf_ok,(all_cons ktu (all_cons k140 all_nil)),all_nil⟩ mix Try.func57 (show Try.f57.body=some k2j by kernel_rfl) (show Try.f57.ntmps=65 by kernel_rfl) (show Try.f57.results.toList=k5w by kernel_rfl) rfl h (kjv o)
theorem klc {p1:Int} {p2:Int} {w0:List Int} {e0:List Int} (h:
(let v1:Bool:=decide (8≤(IntKind.i64.wrap (p2-p1)))
(v1=true→
 let v2:Int:=IntKind.u64.wrap (IntKind.i64.wrap (p2-p1))
(0≤(IntKind.i64.wrap (p2-p1))∧(IntKind.i64.wrap (p2-p1))<4611686018427387904)∧let r3:Int:=((1<<<Sort.bitsLen (IntKind.i64.wrap (p2-p1)).toNat:Nat):Int)
 let v4:Int:=IntKind.i64.wrap (Int.tdiv (IntKind.i64.wrap (p2-p1)) 4)
 let v5:Int:=IntKind.i64.wrap (p1+(IntKind.i64.wrap (v4*2)))
(w0.length=w0.length)∧Md.Loop (p1,(IntKind.i64.wrap (p2-p1):Int),r3,(IntKind.i64.wrap (v5-1):Int),v2,w0,()) (k47 (e0,())))∧
(v1=false→
 w0=e0))):k73 (p1,p2,w0,()) (e0,()):=WPh.of_eq (by kernel_rfl) h
theorem k9h {e0:List Int} {nx1:NX TB kr} {s1:Int} {s6:Int} {s8:Int} {s9:Int} {s10:Int} {h1_0:Int} {g0:List Int} (h:
((0≤IntKind.i64.wrap (s1+s10)∧IntKind.i64.wrap (s1+s10)<(g0.length:Int))∧(0≤IntKind.i64.wrap (s1+s10)∧IntKind.i64.wrap (s1+s10)<(g0.length:Int))∧(0≤s9∧s9<(g0.length:Int))∧(0≤s9∧s9<(g0.length:Int))∧(0≤s9∧s9<(g0.length:Int))∧(0≤s9∧s9<(g0.length:Int))∧(0≤IntKind.i64.wrap (s1+s10)∧IntKind.i64.wrap (s1+s10)<(g0.length:Int))∧(0≤IntKind.i64.wrap (s1+s10)∧IntKind.i64.wrap (s1+s10)<((g0.set s9.toNat (ix g0 (IntKind.i64.wrap (s1+s10)))).length:Int))∧(g0.length=((g0.set s9.toNat (ix g0 (IntKind.i64.wrap (s1+s10)))).set (IntKind.i64.wrap (s1+s10)).toNat (ix g0 s9)).length)∧nx1 (s1,s6,s8,(IntKind.i64.wrap (s9+1):Int),h1_0,((g0.set s9.toNat (ix g0 (IntKind.i64.wrap (s1+s10)))).set (IntKind.i64.wrap (s1+s10)).toNat (ix g0 s9):List Int),()))):k41 (e0,()) nx1 (s1,s6,s8,s9,s10,h1_0,g0,()):=⟨mpr_of (by kernel_rfl) h⟩
def k7m (e0:List Int) (nx1:NX TB kr) (k1:Int→Int→List Int→Prop) (s1:Int) (s6:Int) (s8:Int) (s9:Int) (h1_0:Int) (g0:List Int):Prop:=
 let v6:Int:=IntKind.i64.wrap ((IntKind.i64.wrap (Int.tdiv s6 4))*2)
 let v7:Int:=IntKind.i64.wrap ((IntKind.i64.wrap (s1+v6))+1)
(decide (s9≤v7)=true→
 let v8:Int:=iand .u64 (xnI h1_0) (IntKind.u64.wrap (s8-1))
(decide (s6≤(IntKind.i64.wrap v8))=true→
 let v9:Int:=IntKind.i64.wrap ((IntKind.i64.wrap v8)-s6)
(g0.length=g0.length)∧k41 (e0,()) nx1 (s1,s6,s8,s9,v9,((xnI h1_0):Int),g0,()))∧
(decide (s6≤(IntKind.i64.wrap v8))=false→
(g0.length=g0.length)∧k41 (e0,()) nx1 (s1,s6,s8,s9,(IntKind.i64.wrap v8:Int),((xnI h1_0):Int),g0,())))∧
(decide (s9≤v7)=false→
 g0=e0)
theorem kjz {e0:List Int} {s1:Int} {s6:Int} {s8:Int} {s9:Int} {h1_0:Int} {g0:List Int} (inv:Int→Int→List Int→Prop) (μ:Int→Int→List Int→Nat) (h0:inv s9 h1_0 g0) (hs:∀(s9:Int) (h1_0:Int) (g0:List Int),inv s9 h1_0 g0→k7m e0 (fun s:Int×Int×Int×Int×Int×(List Int)×Unit=>((s.1=s1∧s.2.1=s6∧s.2.2.1=s8)∧inv s.2.2.2.1 s.2.2.2.2.1 s.2.2.2.2.2.1)∧μ s.2.2.2.1 s.2.2.2.2.1 s.2.2.2.2.2.1<μ s9 h1_0 g0) (fun s9q h1_0q g0q=>inv s9q h1_0q g0q∧μ s9q h1_0q g0q<μ s9 h1_0 g0) s1 s6 s8 s9 h1_0 g0):Md.Loop (s1,s6,s8,s9,h1_0,g0,()) (k47 (e0,())):=
 ⟨⟨fun s:Int×Int×Int×Int×Int×(List Int)×Unit=>(s.1=s1∧s.2.1=s6∧s.2.2.1=s8)∧inv s.2.2.2.1 s.2.2.2.2.1 s.2.2.2.2.2.1,fun s:Int×Int×Int×Int×Int×(List Int)×Unit=>μ s.2.2.2.1 s.2.2.2.2.1 s.2.2.2.2.2.1,⟨⟨rfl,rfl,rfl⟩,h0⟩,fun(s1p,s6p,s8p,s9p,h1_0p,g0p,()) ⟨⟨eq0,eq1,eq2⟩,hi⟩=>by
  have eq0:s1p=s1:=eq0;subst s1p;have eq1:s6p=s6:=eq1;subst s6p;have eq2:s8p=s8:=eq2;subst s8p;exact mpr_of (by kernel_rfl) ((congrArg (fun k=>k7m e0 (fun s:Int×Int×Int×Int×Int×(List Int)×Unit=>((s.1=s1∧s.2.1=s6∧s.2.2.1=s8)∧inv s.2.2.2.1 s.2.2.2.2.1 s.2.2.2.2.2.1)∧μ s.2.2.2.1 s.2.2.2.2.1 s.2.2.2.2.2.1<μ s9p h1_0p g0p) k s1 s6 s8 s9p h1_0p g0p) (lpk3 (⟨rfl,rfl,rfl⟩:s1=s1∧s6=s6∧s8=s8) inv (fun s9q h1_0q g0q=>μ s9q h1_0q g0q<μ s9p h1_0p g0p))).mpr (hs s9p h1_0p g0p hi))⟩⟩
theorem bd57:Callable Try.prog 57:=⟨by rw[Try.func57];kernel_rfl,by rw[Try.func57];show some _≠some _;decide⟩
set_option maxHeartbeats 1000000 in
theorem kie (p1:Int) (p2:Int) (w0:List Int) (h:(0≤p1∧p1≤p2∧p2≤w0.length)∧w0.length≤1099511627776):k73 (p1,p2,w0,()) (((brkS w0 p1 p2):List Int),()):=by
 obtain⟨⟨h1,h2,h3⟩,h4⟩:=h
 have e1:=wi (p2-p1) (by omega) (by omega)
 have e5:=wu (p2-p1) (by omega) (by omega)
 have e3:Int.tdiv (p2-p1) 4=(p2-p1)/4:=Int.tdiv_eq_ediv_of_nonneg (by omega)
 have e4:=wi ((p2-p1)/4) (by omega) (by omega)
 have e6:=wi ((p2-p1)/4*2) (by omega) (by omega)
 have e7:=wi (p1+(p2-p1)/4*2) (by omega) (by omega)
 have e8:=wi (p1+(p2-p1)/4*2-1) (by omega) (by omega)
 have e9:=wi (p1+(p2-p1)/4*2+1) (by omega) (by omega)
 refine klc ?_
 dsimp only
 rw[e1,e5,e3,e4,e6,e7,e8]
 refine⟨fun hh=> ?_,fun hh=> ?_⟩
 ·have hh:=of_decide_eq_true hh
  have hm:=npo_le (p2-p1).toNat (by omega)
  have hb:=brk_eq w0.toArray p1.toNat p2.toNat (by omega)
  rw[show p2.toNat-p1.toNat=(p2-p1).toNat by omega]at hb
  have hR:(brkS w0 p1 p2)=(brkL p1.toNat (p2-p1).toNat (1<<<Sort.bitsLen (p2-p1).toNat) 3 (UInt64.ofNat (p2-p1).toNat,w0.toArray) (p1.toNat+(p2-p1).toNat/4*2-1)).toList:=by unfold brkS;rw[hb]
  refine⟨⟨by omega,by omega⟩,rfl,?_⟩
  generalize 1<<<Sort.bitsLen (p2-p1).toNat=md at *
  generalize brkS w0 p1 p2=R at *
  clear hb
  have e0:(UInt64.ofNat (p2-p1).toNat).toNat=(p2-p1).toNat:=by rw[UInt64.toNat_ofNat',Nat.mod_eq_of_lt (by omega)]
  refine kjz (fun idx rnd g=>∃(k:Nat) (u:UInt64),(k≤3∧idx+k=p1+(p2-p1)/4*2+2)∧rnd=(u.toNat:Int)∧g.length=w0.length∧R=(brkL p1.toNat (p2-p1).toNat md k (u,g.toArray) idx.toNat).toList) (fun idx _ _=>(p1+(p2-p1)/4*2+2-idx).toNat) ⟨3,UInt64.ofNat (p2-p1).toNat,⟨by omega,by omega⟩,by omega,rfl,by rw[hR,show(p1+(p2-p1)/4*2-1).toNat=p1.toNat+(p2-p1).toNat/4*2-1 by omega]⟩ ?_
  clear hR e0
  have hq:0≤(p2-p1)/4∧4*((p2-p1)/4)≤p2-p1∧p2-p1<4*((p2-p1)/4)+4:=by omega
  generalize (p2-p1)/4=dq at *
  generalize hn:(p2-p1).toNat=n at *
  have hn2:(n:Int)=p2-p1:=by omega
  rintro idx rnd g ⟨k,u,⟨k0,k1⟩,rfl,g2,g3⟩
  unfold k7m
  dsimp only
  rw[e3,e4,e6,e7,e9]
  refine⟨fun q=> ?_,fun q=> ?_⟩
  ·have q:=of_decide_eq_true q
   obtain⟨k,rfl⟩:∃m,k=m+1:=⟨k-1,by omega⟩
   rw[brkL_go]at g3
   have hx:=xnI_eq u
   have hlt:=(Sort.xorNext u).toNat_lt
   generalize xnI (u.toNat:Int)=xu at *
   generalize Sort.xorNext u=u' at *
   subst hx
   have hmd:(u'.toNat&&&(md-1))≤md-1:=Nat.and_le_right
   have e10:iand .u64 (u'.toNat:Int) (IntKind.u64.wrap ((md:Int)-1))=((u'.toNat&&&(md-1):Nat):Int):=by
    rw[wu _ (by omega) (by omega),show(md:Int)-1=((md-1:Nat):Int)by omega,k14m _ _ (by omega) (by omega)]
   rw[e10]
   generalize u'.toNat&&&(md-1)=z at *
   rw[wi (z:Int) (by omega) (by omega)]
   generalize ho:(if z≥n then z-n else z)=o at *
   have ho2:o<n:=by rw[←ho];split<;>omega
   have w1:=wi (p1+(o:Int)) (by omega) (by omega)
   have w2:=wi (idx+1) (by omega) (by omega)
   have hs:=swp_arr (g:=g) (i:=idx) (j:=p1+(o:Int)) (by omega) (by omega) (by omega) (by omega)
   rw[show p1.toNat+o=(p1+(o:Int)).toNat by omega,hs,show idx.toNat+1=(idx+1).toNat by omega]at g3
   have fin:(∃(k:Nat) (u:UInt64),(k≤3∧IntKind.i64.wrap (idx+1)+k=p1+dq*2+2)∧(u'.toNat:Int)=(u.toNat:Int)∧(swpL g idx (IntKind.i64.wrap (p1+(o:Int)))).length=w0.length∧R=(brkL p1.toNat n md k (u,(swpL g idx (IntKind.i64.wrap (p1+(o:Int)))).toArray) (IntKind.i64.wrap (idx+1)).toNat).toList)∧(p1+dq*2+2-IntKind.i64.wrap (idx+1)).toNat<(p1+dq*2+2-idx).toNat:=by
    rw[w1,w2]
    exact⟨⟨k,u',⟨by omega,by omega⟩,rfl,by rw[kms];exact g2,g3⟩,by omega⟩
   have rng:(0≤IntKind.i64.wrap (p1+(o:Int))∧IntKind.i64.wrap (p1+(o:Int))<(g.length:Int))∧(0≤idx∧idx<(g.length:Int)):=by rw[w1];exact⟨⟨by omega,by omega⟩,⟨by omega,by omega⟩⟩
   have rng2:0≤IntKind.i64.wrap (p1+(o:Int))∧IntKind.i64.wrap (p1+(o:Int))<((g.set idx.toNat (ix g (IntKind.i64.wrap (p1+(o:Int))))).length:Int):=by rw[List.length_set];exact rng.1
   refine⟨fun e=> ?_,fun e=> ?_⟩
   ·have e:=of_decide_eq_true e
    rw[if_pos (by omega)]at ho
    rw[show(z:Int)-(p2-p1)=(o:Int)by omega,wi (o:Int) (by omega) (by omega)]
    exact⟨rfl,k9h ⟨rng.1,rng.1,rng.2,rng.2,rng.2,rng.2,rng.1,rng2,by rw[List.length_set,List.length_set],⟨⟨rfl,rfl,rfl⟩,fin.1⟩,fin.2⟩⟩
   ·have e:=of_decide_eq_false e
    rw[if_neg (by omega)]at ho
    subst ho
    exact⟨rfl,k9h ⟨rng.1,rng.1,rng.2,rng.2,rng.2,rng.2,rng.1,rng2,by rw[List.length_set,List.length_set],⟨⟨rfl,rfl,rfl⟩,fin.1⟩,fin.2⟩⟩
  ·have q:=of_decide_eq_false q
   have:k=0:=by omega
   subst this
   rw[g3]
   rfl
 ·have hh:=of_decide_eq_false hh
  unfold brkS
  rw[brk_no _ _ _ (by omega)]
noncomputable def ka8:Con TB.den:=k17.fnR (fun x=>(fun(p1:Int) (p2:Int) (w0:List Int)=>(0≤p1∧p1≤p2∧p2≤w0.length)∧w0.length≤1099511627776) x.1 x.2.1 x.2.2.1) fun x=>((fun(p1:Int) (p2:Int) (w0:List Int)=>((brkS w0 p1 p2):List Int)) x.1 x.2.1 x.2.2.1,())
theorem kkv:ka8.Ok Try.prog TB:=Con.ok_fn k17 bd57 fun x h=>kjw (kie x.1 x.2.1 x.2.2.1 h)
def k1s:Con TB.den:=Con.mk0 91 [.one (.row 0),.one (.d (.int .i64)),.one (.d (.int .i64)),.one (.ptr 1 0)] [.vec (.int .i64),.cells [.d (.int .i64)]] (.tup [.one (.d (.int .i64)),.one (.d (.int .i64))]) [.vec (.int .i64),.cells [.d (.int .i64)]]
abbrev kgu:=HL TB.den (hsT k1s.ins (hsOs k1s.pre))
abbrev k84:=HL TB.den (hsV k1s.res (hsOs k1s.post))
noncomputable def k67:Cx TB:=⟨inf,[k77],[],4,[]⟩
noncomputable def k94:Code:=Try.f91.body.getD .skip
noncomputable def k9p:List ResultVar:=Try.f91.results.toList
noncomputable def kg1 (o:k84):An TB:= .no
def k97 (x:kgu) (o:k84):Prop:=WPh TB k67 28 2 k94 (kg1 o) (k1s.st TB x) (retTQ TB k67 k1s k9p o)
theorem kqv (o:k84):OblH TB k67 28 2 k94 (kg1 o) (retTQ TB k67 k1s k9p o):=
 OblH.ofC (X:=True) (by kernel_rfl) trivial
theorem kqg {x:kgu} {o:k84} (h:k97 x o):k1s.Snd Try.prog x o:=
 Con.soundH (c:=k1s) (C:=k67) TBok ⟨inf_ok,(all_cons k8q all_nil),all_nil⟩ mix Try.func91 (show Try.f91.body=some k94 by kernel_rfl) (show Try.f91.ntmps=28 by kernel_rfl) (show Try.f91.results.toList=k9p by kernel_rfl) rfl h (kqv o)
theorem krs {p1:Int} {p2:Int} {c1_0:Int} {w0:List Int} {r0:Int} {r1:Int} {d1_0:Int} {e0:List Int} (h:
((0≤p2∧p2<(w0.length:Int))∧(0≤p2∧p2<(w0.length:Int))∧(0≤p1∧p1<(w0.length:Int))∧(0≤p1∧p1<(w0.length:Int))∧((decide ((ix w0 p2)<(ix w0 p1)))=true→
 p2=r0∧p1=r1∧IntKind.i64.wrap (c1_0+1)=d1_0∧w0=e0)∧
((decide ((ix w0 p2)<(ix w0 p1)))=false→
 p1=r0∧p2=r1∧c1_0=d1_0∧w0=e0))):k97 (p1,p2,c1_0,w0,()) (r0,r1,d1_0,e0,()):=WPh.of_eq (by kernel_rfl) h
theorem bd91:Callable Try.prog 91:=⟨by rw[Try.func91];kernel_rfl,by rw[Try.func91];show some _≠some _;decide⟩
theorem kpg (p1:Int) (p2:Int) (c1_0:Int) (w0:List Int) (h:(0≤p1∧p1<w0.length)∧(0≤p2∧p2<w0.length)∧0≤c1_0∧c1_0≤1000):k97 (p1,p2,c1_0,w0,()) ((((Sort.order2 Sort.ltInt w0.toArray p1.toNat p2.toNat c1_0.toNat).1:Int):Int),(((Sort.order2 Sort.ltInt w0.toArray p1.toNat p2.toNat c1_0.toNat).2.1:Int):Int),(((Sort.order2 Sort.ltInt w0.toArray p1.toNat p2.toNat c1_0.toNat).2.2:Int):Int),(w0:List Int),()):=by
 obtain⟨⟨h1,h2⟩,⟨h3,h4⟩,h5,h6⟩:=h
 have x1:=arr_ix (g:=w0) h1 h2
 have x2:=arr_ix (g:=w0) h3 h4
 refine krs ⟨⟨h3,h4⟩,⟨h3,h4⟩,⟨h1,h2⟩,⟨h1,h2⟩,fun e=> ?_,fun e=> ?_⟩
 ·unfold Sort.order2
  rw[x1,x2,ltI_iff,e,if_pos rfl,wi (c1_0+1) (by omega) (by omega)]
  exact⟨(Int.toNat_of_nonneg h3).symm,(Int.toNat_of_nonneg h1).symm,(by show c1_0+1=((c1_0.toNat+1:Nat):Int);omega),rfl⟩
 ·unfold Sort.order2
  rw[x1,x2,ltI_iff,e,if_neg (by decide)]
  exact⟨(Int.toNat_of_nonneg h1).symm,(Int.toNat_of_nonneg h3).symm,(Int.toNat_of_nonneg h5).symm,rfl⟩
noncomputable def kep:Con TB.den:=k1s.fnR (fun x=>(fun(p1:Int) (p2:Int) (c1_0:Int) (w0:List Int)=>(0≤p1∧p1<w0.length)∧(0≤p2∧p2<w0.length)∧0≤c1_0∧c1_0≤1000) x.1 x.2.1 x.2.2.1 x.2.2.2.1) fun x=>((fun(p1:Int) (p2:Int) (c1_0:Int) (w0:List Int)=>(((Sort.order2 Sort.ltInt w0.toArray p1.toNat p2.toNat c1_0.toNat).1:Int):Int)) x.1 x.2.1 x.2.2.1 x.2.2.2.1,(fun(p1:Int) (p2:Int) (c1_0:Int) (w0:List Int)=>(((Sort.order2 Sort.ltInt w0.toArray p1.toNat p2.toNat c1_0.toNat).2.1:Int):Int)) x.1 x.2.1 x.2.2.1 x.2.2.2.1,(fun(p1:Int) (p2:Int) (c1_0:Int) (w0:List Int)=>(((Sort.order2 Sort.ltInt w0.toArray p1.toNat p2.toNat c1_0.toNat).2.2:Int):Int)) x.1 x.2.1 x.2.2.1 x.2.2.2.1,(fun(p1:Int) (p2:Int) (c1_0:Int) (w0:List Int)=>(w0:List Int)) x.1 x.2.1 x.2.2.1 x.2.2.2.1,())
theorem kro:kep.Ok Try.prog TB:=Con.ok_fn k1s bd91 fun x h=>kqg (kpg x.1 x.2.1 x.2.2.1 x.2.2.2.1 h)
def k1t:Con TB.den:=Con.mk0 83 [.one (.row 0),.one (.d (.int .i64)),.one (.d (.int .i64)),.one (.d (.int .i64)),.one (.ptr 1 0)] [.vec (.int .i64),.cells [.d (.int .i64)]] (.one (.one (.d (.int .i64)))) [.vec (.int .i64),.cells [.d (.int .i64)]]
abbrev kgt:=HL TB.den (hsT k1t.ins (hsOs k1t.pre))
abbrev k83:=HL TB.den (hsV k1t.res (hsOs k1t.post))
noncomputable def k68:Cx TB:=⟨inf,[kep],[],4,[]⟩
noncomputable def k93:Code:=Try.f83.body.getD .skip
noncomputable def k9s:List ResultVar:=Try.f83.results.toList
noncomputable def kfy (o:k83):An TB:= .no
def k92 (x:kgt) (o:k83):Prop:=WPh TB k68 36 2 k93 (kfy o) (k1t.st TB x) (retTQ TB k68 k1t k9s o)
theorem kqu (o:k83):OblH TB k68 36 2 k93 (kfy o) (retTQ TB k68 k1t k9s o):=
 OblH.ofC (X:=True) (by kernel_rfl) trivial
theorem kqo {x:kgt} {o:k83} (h:k92 x o):k1t.Snd Try.prog x o:=
 Con.soundH (c:=k1t) (C:=k68) TBok ⟨inf_ok,(all_cons kro all_nil),all_nil⟩ mix Try.func83 (show Try.f83.body=some k93 by kernel_rfl) (show Try.f83.ntmps=36 by kernel_rfl) (show Try.f83.results.toList=k9s by kernel_rfl) rfl h (kqu o)
theorem krt {p1:Int} {p2:Int} {p3:Int} {c1_0:Int} {w0:List Int} {r0:Int} {d1_0:Int} {e0:List Int} (h:
((w0.length=w0.length)∧((0≤p1∧p1<w0.length)∧(0≤p2∧p2<w0.length)∧0≤c1_0∧c1_0≤1000)∧let r1:Int:=((Sort.order2 Sort.ltInt w0.toArray p1.toNat p2.toNat c1_0.toNat).1:Int)
 let r2:Int:=((Sort.order2 Sort.ltInt w0.toArray p1.toNat p2.toNat c1_0.toNat).2.1:Int)
 let r3:Int:=((Sort.order2 Sort.ltInt w0.toArray p1.toNat p2.toNat c1_0.toNat).2.2:Int)
(w0.length=w0.length)∧((0≤r2∧r2<w0.length)∧(0≤p3∧p3<w0.length)∧0≤r3∧r3≤1000)∧let r4:Int:=((Sort.order2 Sort.ltInt w0.toArray r2.toNat p3.toNat r3.toNat).1:Int)
 let r5:Int:=((Sort.order2 Sort.ltInt w0.toArray r2.toNat p3.toNat r3.toNat).2.1:Int)
 let r6:Int:=((Sort.order2 Sort.ltInt w0.toArray r2.toNat p3.toNat r3.toNat).2.2:Int)
(w0.length=w0.length)∧((0≤r1∧r1<w0.length)∧(0≤r4∧r4<w0.length)∧0≤r6∧r6≤1000)∧let r7:Int:=((Sort.order2 Sort.ltInt w0.toArray r1.toNat r4.toNat r6.toNat).1:Int)
 let r8:Int:=((Sort.order2 Sort.ltInt w0.toArray r1.toNat r4.toNat r6.toNat).2.1:Int)
 let r9:Int:=((Sort.order2 Sort.ltInt w0.toArray r1.toNat r4.toNat r6.toNat).2.2:Int)
 r8=r0∧r9=d1_0∧w0=e0)):k92 (p1,p2,p3,c1_0,w0,()) (r0,d1_0,e0,()):=WPh.of_eq (by kernel_rfl) h
theorem bd83:Callable Try.prog 83:=⟨by rw[Try.func83];kernel_rfl,by rw[Try.func83];show some _≠some _;decide⟩
theorem kpd (p1:Int) (p2:Int) (p3:Int) (c1_0:Int) (w0:List Int) (h:(0≤p1∧p1<w0.length)∧(0≤p2∧p2<w0.length)∧(0≤p3∧p3<w0.length)∧0≤c1_0∧c1_0≤100):k92 (p1,p2,p3,c1_0,w0,()) ((((Sort.median Sort.ltInt w0.toArray p1.toNat p2.toNat p3.toNat c1_0.toNat).1:Int):Int),(((Sort.median Sort.ltInt w0.toArray p1.toNat p2.toNat p3.toNat c1_0.toNat).2:Int):Int),(w0:List Int),()):=by
 obtain⟨⟨h1,h2⟩,⟨h3,h4⟩,⟨h5,h6⟩,h7,h8⟩:=h
 refine krt ?_
 unfold Sort.median
 dsimp only
 simp only[Int.toNat_natCast]
 have q1:=kk9 (d:=w0.toArray) (a:=p1.toNat) (b:=p2.toNat) (c:=c1_0.toNat) (n:=w0.length) (by omega) (by omega)
 generalize Sort.order2 Sort.ltInt w0.toArray p1.toNat p2.toNat c1_0.toNat=r1 at *
 have q2:=kk9 (d:=w0.toArray) (a:=r1.2.1) (b:=p3.toNat) (c:=r1.2.2) (n:=w0.length) q1.2.1 (by omega)
 generalize Sort.order2 Sort.ltInt w0.toArray r1.2.1 p3.toNat r1.2.2=r2 at *
 have q3:=kk9 (d:=w0.toArray) (a:=r1.1) (b:=r2.1) (c:=r2.2.2) (n:=w0.length) q1.1 q2.1
 exact⟨by trivial,⟨⟨h1,h2⟩,⟨h3,h4⟩,h7,by omega⟩,by trivial,⟨⟨by omega,by omega⟩,⟨h5,h6⟩,by omega,by omega⟩,by trivial,⟨⟨by omega,by omega⟩,⟨by omega,by omega⟩,by omega,by omega⟩,by trivial,by trivial,by trivial⟩
noncomputable def k9e:Con TB.den:=k1t.fnR (fun x=>(fun(p1:Int) (p2:Int) (p3:Int) (c1_0:Int) (w0:List Int)=>(0≤p1∧p1<w0.length)∧(0≤p2∧p2<w0.length)∧(0≤p3∧p3<w0.length)∧0≤c1_0∧c1_0≤100) x.1 x.2.1 x.2.2.1 x.2.2.2.1 x.2.2.2.2.1) fun x=>((fun(p1:Int) (p2:Int) (p3:Int) (c1_0:Int) (w0:List Int)=>(((Sort.median Sort.ltInt w0.toArray p1.toNat p2.toNat p3.toNat c1_0.toNat).1:Int):Int)) x.1 x.2.1 x.2.2.1 x.2.2.2.1 x.2.2.2.2.1,(fun(p1:Int) (p2:Int) (p3:Int) (c1_0:Int) (w0:List Int)=>(((Sort.median Sort.ltInt w0.toArray p1.toNat p2.toNat p3.toNat c1_0.toNat).2:Int):Int)) x.1 x.2.1 x.2.2.1 x.2.2.2.1 x.2.2.2.2.1,(fun(p1:Int) (p2:Int) (p3:Int) (c1_0:Int) (w0:List Int)=>(w0:List Int)) x.1 x.2.1 x.2.2.1 x.2.2.2.1 x.2.2.2.2.1,())
theorem kfz:k9e.Ok Try.prog TB:=Con.ok_fn k1t bd83 fun x h=>kqo (kpd x.1 x.2.1 x.2.2.1 x.2.2.2.1 x.2.2.2.2.1 h)
def k1a:Con TB.den:=Con.mk0 82 [.one (.row 0),.one (.d (.int .i64)),.one (.ptr 1 0)] [.vec (.int .i64),.cells [.d (.int .i64)]] (.one (.one (.d (.int .i64)))) [.vec (.int .i64),.cells [.d (.int .i64)]]
abbrev kav:=HL TB.den (hsT k1a.ins (hsOs k1a.pre))
abbrev k5v:=HL TB.den (hsV k1a.res (hsOs k1a.post))
noncomputable def k3s:Cx TB:=⟨inf,[k9e],[],4,[]⟩
noncomputable def k6q:Code:=Try.f82.body.getD .skip
noncomputable def k7h:List ResultVar:=Try.f82.results.toList
noncomputable def kaa (o:k5v):An TB:= .no
def k6s (x:kav) (o:k5v):Prop:=WPh TB k3s 15 2 k6q (kaa o) (k1a.st TB x) (retTQ TB k3s k1a k7h o)
theorem kih (o:k5v):OblH TB k3s 15 2 k6q (kaa o) (retTQ TB k3s k1a k7h o):=
 OblH.ofC (X:=True) (by kernel_rfl) trivial
theorem kj9 {x:kav} {o:k5v} (h:k6s x o):k1a.Snd Try.prog x o:=
 Con.soundH (c:=k1a) (C:=k3s) TBok ⟨inf_ok,(all_cons kfz all_nil),all_nil⟩ mix Try.func82 (show Try.f82.body=some k6q by kernel_rfl) (show Try.f82.ntmps=15 by kernel_rfl) (show Try.f82.results.toList=k7h by kernel_rfl) rfl h (kih o)
theorem kjx {p1:Int} {c1_0:Int} {w0:List Int} {r0:Int} {d1_0:Int} {e0:List Int} (h:
((w0.length=w0.length)∧((0≤(IntKind.i64.wrap (p1-1))∧(IntKind.i64.wrap (p1-1))<w0.length)∧(0≤p1∧p1<w0.length)∧(0≤(IntKind.i64.wrap (p1+1))∧(IntKind.i64.wrap (p1+1))<w0.length)∧0≤c1_0∧c1_0≤100)∧let r1:Int:=((Sort.median Sort.ltInt w0.toArray (IntKind.i64.wrap (p1-1)).toNat p1.toNat (IntKind.i64.wrap (p1+1)).toNat c1_0.toNat).1:Int)
 let r2:Int:=((Sort.median Sort.ltInt w0.toArray (IntKind.i64.wrap (p1-1)).toNat p1.toNat (IntKind.i64.wrap (p1+1)).toNat c1_0.toNat).2:Int)
 r1=r0∧r2=d1_0∧w0=e0)):k6s (p1,c1_0,w0,()) (r0,d1_0,e0,()):=WPh.of_eq (by kernel_rfl) h
theorem bd82:Callable Try.prog 82:=⟨by rw[Try.func82];kernel_rfl,by rw[Try.func82];show some _≠some _;decide⟩
theorem khq (p1:Int) (c1_0:Int) (w0:List Int) (h:(1≤p1∧p1+1<w0.length)∧w0.length≤1099511627776∧0≤c1_0∧c1_0≤100):k6s (p1,c1_0,w0,()) ((((Sort.medianAdjacent Sort.ltInt w0.toArray p1.toNat c1_0.toNat).1:Int):Int),(((Sort.medianAdjacent Sort.ltInt w0.toArray p1.toNat c1_0.toNat).2:Int):Int),(w0:List Int),()):=by
 obtain⟨⟨h1,h2⟩,h3,h4,h5⟩:=h
 refine kjx ?_
 rw[wi (p1-1) (by omega) (by omega),wi (p1+1) (by omega) (by omega)]
 unfold Sort.medianAdjacent
 rw[show(p1-1).toNat=p1.toNat-1 by omega,show(p1+1).toNat=p1.toNat+1 by omega]
 exact⟨rfl,⟨⟨by omega,by omega⟩,⟨by omega,by omega⟩,⟨by omega,by omega⟩,h4,h5⟩,rfl,rfl,rfl⟩
noncomputable def ka1:Con TB.den:=k1a.fnR (fun x=>(fun(p1:Int) (c1_0:Int) (w0:List Int)=>(1≤p1∧p1+1<w0.length)∧w0.length≤1099511627776∧0≤c1_0∧c1_0≤100) x.1 x.2.1 x.2.2.1) fun x=>((fun(p1:Int) (c1_0:Int) (w0:List Int)=>(((Sort.medianAdjacent Sort.ltInt w0.toArray p1.toNat c1_0.toNat).1:Int):Int)) x.1 x.2.1 x.2.2.1,(fun(p1:Int) (c1_0:Int) (w0:List Int)=>(((Sort.medianAdjacent Sort.ltInt w0.toArray p1.toNat c1_0.toNat).2:Int):Int)) x.1 x.2.1 x.2.2.1,(fun(p1:Int) (c1_0:Int) (w0:List Int)=>(w0:List Int)) x.1 x.2.1 x.2.2.1,())
theorem kjl:ka1.Ok Try.prog TB:=Con.ok_fn k1a bd82 fun x h=>kj9 (khq x.1 x.2.1 x.2.2.1 h)
def k16:Con TB.den:=Con.mk0 58 [.one (.row 0),.one (.d (.int .i64)),.one (.d (.int .i64))] [.vec (.int .i64)] (.tup [.one (.d (.int .i64)),.one (.d (.int .i64))]) [.vec (.int .i64)]
abbrev kcb:=HL TB.den (hsT k16.ins (hsOs k16.pre))
abbrev kz:=HL TB.den (hsV k16.res (hsOs k16.post))
noncomputable def k1u:Cx TB:=⟨inf,[ka1,k9e],[],4,[]⟩
noncomputable def k46:Code:=Try.f58.body.getD .skip
noncomputable def k4v:List ResultVar:=Try.f58.results.toList
def k4d:Tm:=⟨[0,1],[.vec (.int .i64),.cells [.d (.int .i64)]],[9,11],[.one (.ptr 1 0),.one (.d (.int .i64))],2⟩
def kbg (o:kz) (i:HL TB.den k4d.hs):Prop:=ghs TB [] (k4d.fill TB i) fun s=>WP TB k1u 57 1 (cB (cB (cB (cB (cB (cB (cB k46))))))) .no s (retTQ TB k1u k16 k4v o)
structure k2i (o:kz) (i:HL TB.den k4d.hs):Prop where
 h:kbg o i
def kmr (o:kz):=qM TB 1 k4d (k2i o) (retTQ TB k1u k16 k4v o)
def k66:Tm:=⟨[0,1],[.vec (.int .i64),.cells [.d (.int .i64)]],[0,9,10,11,12],[.one (.row 0),.one (.ptr 1 0),.one (.d (.int .i64)),.one (.d (.int .i64)),.one (.d (.int .i64))],2⟩
def kbe (o:kz) (i:HL TB.den k66.hs):Prop:=ghs TB [] (k66.fill TB i) fun s=>WP TB k1u 57 1 (cB (cA (cB (cA (cB (cB (cB (cB (cB (cB k46)))))))))) .no s (kmr o)
structure k3c (o:kz) (i:HL TB.den k66.hs):Prop where
 h:kbe o i
noncomputable def kmy (o:kz):An TB:= .jn k66 (k3c o) [] .no [] .no
noncomputable def kmq (o:kz):An TB:= .nd [] .no [] (.nd [] (kmy o) [] .no)
noncomputable def kml (o:kz):An TB:= .jn k4d (k2i o) [] (kmq o) [] .no
noncomputable def kn1 (o:kz):An TB:= .nd [] .no [] (.nd [] .no [] (kml o))
noncomputable def kmp (o:kz):An TB:= .nd [] .no [] (.nd [] .no [] (kn1 o))
noncomputable def kbs (o:kz):An TB:= .nd [] .no [] (.nd [] .no [] (kmp o))
def k7l (x:kcb) (o:kz):Prop:=WPh TB k1u 57 1 k46 (kbs o) (k16.st TB x) (retTQ TB k1u k16 k4v o)
theorem klw (o:kz):OblH TB k1u 57 1 k46 (kbs o) (retTQ TB k1u k16 k4v o):=
 OblH.ofC (X:=((∀i,(k3c o) i=kbe o i)∧(∀i,(k2i o) i=kbg o i)∧True)) (by kernel_rfl) ⟨fun _=>propext ⟨fun h=>h.1,fun h=>⟨h⟩⟩,fun _=>propext ⟨fun h=>h.1,fun h=>⟨h⟩⟩,trivial⟩
theorem kll {x:kcb} {o:kz} (h:k7l x o):k16.Snd Try.prog x o:=
 Con.soundH (c:=k16) (C:=k1u) TBok ⟨inf_ok,(all_cons kjl (all_cons kfz all_nil)),all_nil⟩ mix Try.func58 (show Try.f58.body=some k46 by kernel_rfl) (show Try.f58.ntmps=57 by kernel_rfl) (show Try.f58.results.toList=k4v by kernel_rfl) rfl h (klw o)
theorem kmh {p1:Int} {p2:Int} {w0:List Int} {r0:Int} {r1:Int} {e0:List Int} (h:
(let v2:Int:=IntKind.i64.wrap (Int.tdiv (IntKind.i64.wrap (p2-p1)) 4)
 let v3:Int:=IntKind.i64.wrap (p1+(IntKind.i64.wrap (v2*1)))
 let v4:Int:=IntKind.i64.wrap (Int.tdiv (IntKind.i64.wrap (p2-p1)) 4)
 let v5:Int:=IntKind.i64.wrap (p1+(IntKind.i64.wrap (v4*2)))
 let v6:Int:=IntKind.i64.wrap (Int.tdiv (IntKind.i64.wrap (p2-p1)) 4)
 let v7:Int:=IntKind.i64.wrap (p1+(IntKind.i64.wrap (v6*3)))
 let v8:Bool:=decide (8≤(IntKind.i64.wrap (p2-p1)))
(v8=true→
 let v9:Bool:=decide (50≤(IntKind.i64.wrap (p2-p1)))
(v9=true→
(w0.length=w0.length)∧((1≤v3∧v3+1<w0.length)∧w0.length≤1099511627776∧0≤(0:Int)∧(0:Int)≤100)∧let r10:Int:=((Sort.medianAdjacent Sort.ltInt w0.toArray v3.toNat (0:Int).toNat).1:Int)
 let r11:Int:=((Sort.medianAdjacent Sort.ltInt w0.toArray v3.toNat (0:Int).toNat).2:Int)
(w0.length=w0.length)∧((1≤v5∧v5+1<w0.length)∧w0.length≤1099511627776∧0≤r11∧r11≤100)∧let r12:Int:=((Sort.medianAdjacent Sort.ltInt w0.toArray v5.toNat r11.toNat).1:Int)
 let r13:Int:=((Sort.medianAdjacent Sort.ltInt w0.toArray v5.toNat r11.toNat).2:Int)
(w0.length=w0.length)∧((1≤v7∧v7+1<w0.length)∧w0.length≤1099511627776∧0≤r13∧r13≤100)∧let r14:Int:=((Sort.medianAdjacent Sort.ltInt w0.toArray v7.toNat r13.toNat).1:Int)
 let r15:Int:=((Sort.medianAdjacent Sort.ltInt w0.toArray v7.toNat r13.toNat).2:Int)
(w0.length=w0.length)∧k3c (r0,r1,e0,()) (r10,r12,r14,r15,w0,()))∧
(v9=false→
(w0.length=w0.length)∧k3c (r0,r1,e0,()) (v3,v5,v7,(0:Int),w0,())))∧
(v8=false→
 k2i (r0,r1,e0,()) (v5,(0:Int),w0,())))):k7l (p1,p2,w0,()) (r0,r1,e0,()):=WPh.of_eq (by kernel_rfl) h
theorem kk6 {r0:Int} {r1:Int} {e0:List Int} {s10:Int} {s11:Int} {s12:Int} {h1_0:Int} {g0:List Int} (h:
((g0.length=g0.length)∧((0≤s10∧s10<g0.length)∧(0≤s11∧s11<g0.length)∧(0≤s12∧s12<g0.length)∧0≤h1_0∧h1_0≤100)∧let r16:Int:=((Sort.median Sort.ltInt g0.toArray s10.toNat s11.toNat s12.toNat h1_0.toNat).1:Int)
 let r17:Int:=((Sort.median Sort.ltInt g0.toArray s10.toNat s11.toNat s12.toNat h1_0.toNat).2:Int)
 k2i (r0,r1,e0,()) (r16,r17,g0,()))):k3c (r0,r1,e0,()) (s10,s11,s12,h1_0,g0,()):=⟨mpr_of (by kernel_rfl) h⟩
theorem kjs {r0:Int} {r1:Int} {e0:List Int} {s11:Int} {h1_0:Int} {g0:List Int} (h:
(((h1_0==0)=true→
 s11=r0∧1=r1∧g0=e0)∧
((h1_0==0)=false→
((h1_0==12)=true→
 s11=r0∧2=r1∧g0=e0)∧
((h1_0==12)=false→
 s11=r0∧0=r1∧g0=e0)))):k2i (r0,r1,e0,()) (s11,h1_0,g0,()):=⟨mpr_of (by kernel_rfl) h⟩
theorem bd58:Callable Try.prog 58:=⟨by rw[Try.func58];kernel_rfl,by rw[Try.func58];show some _≠some _;decide⟩
set_option maxHeartbeats 1000000 in
theorem kl2 (p1:Int) (p2:Int) (w0:List Int) (h:(0≤p1∧p1<p2∧p2≤w0.length)∧w0.length≤1099511627776):k7l (p1,p2,w0,()) ((((cpS w0 p1 p2).1:Int):Int),((hintN (cpS w0 p1 p2).2):Int),(w0:List Int),()):=by
 obtain⟨⟨h1,h2,h3⟩,h4⟩:=h
 have e1:=wi (p2-p1) (by omega) (by omega)
 have e3:Int.tdiv (p2-p1) 4=(p2-p1)/4:=Int.tdiv_eq_ediv_of_nonneg (by omega)
 have e4:=wi ((p2-p1)/4) (by omega) (by omega)
 have e5:=wi ((p2-p1)/4*1) (by omega) (by omega)
 have e6:=wi ((p2-p1)/4*2) (by omega) (by omega)
 have e7:=wi ((p2-p1)/4*3) (by omega) (by omega)
 have f5:=wi (p1+(p2-p1)/4*1) (by omega) (by omega)
 have f6:=wi (p1+(p2-p1)/4*2) (by omega) (by omega)
 have f7:=wi (p1+(p2-p1)/4*3) (by omega) (by omega)
 have j2:∀(r:Nat×Nat),cpS w0 p1 p2=(r.1,if r.2=0 then Sort.Hint.increasing else if r.2=12 then .decreasing else .unknown)→k2i (((cpS w0 p1 p2).1:Int),hintN (cpS w0 p1 p2).2,w0,()) ((r.1:Int),(r.2:Int),w0,()):=by
  intro r hr
  rw[hr]
  refine kjs ⟨fun e=> ?_,fun e=>⟨fun e2=> ?_,fun e2=> ?_⟩⟩
  ·have e:(r.2:Int)=0:=by simpa using e
   rw[if_pos (by omega)]
   exact⟨rfl,rfl,rfl⟩
  ·have e:¬(r.2:Int)=0:=by simpa using e
   have e2:(r.2:Int)=12:=by simpa using e2
   rw[if_neg (by omega),if_pos (by omega)]
   exact⟨rfl,rfl,rfl⟩
  ·have e:¬(r.2:Int)=0:=by simpa using e
   have e2:¬(r.2:Int)=12:=by simpa using e2
   rw[if_neg (by omega),if_neg (by omega)]
   exact⟨rfl,rfl,rfl⟩
 have j1:∀(i j k s:Nat),(i<w0.length∧j<w0.length∧k<w0.length∧s≤100)→cpS w0 p1 p2=((Sort.median Sort.ltInt w0.toArray i j k s).1,if(Sort.median Sort.ltInt w0.toArray i j k s).2=0 then Sort.Hint.increasing else if(Sort.median Sort.ltInt w0.toArray i j k s).2=12 then .decreasing else .unknown)→k3c (((cpS w0 p1 p2).1:Int),hintN (cpS w0 p1 p2).2,w0,()) ((i:Int),(j:Int),(k:Int),(s:Int),w0,()):=by
  intro i j k s ⟨i1,i2,i3,i4⟩ hr
  refine kk6 ⟨rfl,⟨⟨by omega,by omega⟩,⟨by omega,by omega⟩,⟨by omega,by omega⟩,by omega,by omega⟩,?_⟩
  dsimp only
  simp only[Int.toNat_natCast]
  exact j2 _ hr
 have hcp:cpS w0 p1 p2=Sort.choosePivot Sort.ltInt w0.toArray p1.toNat p2.toNat:=rfl
 refine kmh ?_
 dsimp only
 rw[e1,e3,e4,e5,e6,e7,f5,f6,f7]
 have dq:(p2-p1)/4=(((p2.toNat-p1.toNat)/4:Nat):Int):=by omega
 refine⟨fun a=>⟨fun b=> ?_,fun b=> ?_⟩,fun a=> ?_⟩
 ·have a:=of_decide_eq_true a
  have b:=of_decide_eq_true b
  have ei:(p1+(p2-p1)/4*1).toNat=p1.toNat+(p2.toNat-p1.toNat)/4*1:=by omega
  have ej:(p1+(p2-p1)/4*2).toNat=p1.toNat+(p2.toNat-p1.toNat)/4*2:=by omega
  have ek:(p1+(p2-p1)/4*3).toNat=p1.toNat+(p2.toNat-p1.toNat)/4*3:=by omega
  have key:=hcp
  unfold Sort.choosePivot at key
  simp only[if_pos (show p2.toNat-p1.toNat≥8 by omega),if_pos (show p2.toNat-p1.toNat≥50 by omega)]at key
  rw[←ei,←ej,←ek]at key
  have r1:=kyd (d:=w0.toArray) (a:=(p1+(p2-p1)/4*1).toNat-1) (b:=(p1+(p2-p1)/4*1).toNat) (c:=(p1+(p2-p1)/4*1).toNat+1) (s:=0) (n:=w0.length) (by omega) (by omega) (by omega)
  have m1:Sort.medianAdjacent Sort.ltInt w0.toArray (p1+(p2-p1)/4*1).toNat 0=Sort.median Sort.ltInt w0.toArray ((p1+(p2-p1)/4*1).toNat-1) (p1+(p2-p1)/4*1).toNat ((p1+(p2-p1)/4*1).toNat+1) 0:=rfl
  rw[←m1]at r1
  rw[show(0:Int).toNat=0 from rfl]
  generalize Sort.medianAdjacent Sort.ltInt w0.toArray (p1+(p2-p1)/4*1).toNat 0=A at *
  have r2:=kyd (d:=w0.toArray) (a:=(p1+(p2-p1)/4*2).toNat-1) (b:=(p1+(p2-p1)/4*2).toNat) (c:=(p1+(p2-p1)/4*2).toNat+1) (s:=A.2) (n:=w0.length) (by omega) (by omega) (by omega)
  have m2:Sort.medianAdjacent Sort.ltInt w0.toArray (p1+(p2-p1)/4*2).toNat A.2=Sort.median Sort.ltInt w0.toArray ((p1+(p2-p1)/4*2).toNat-1) (p1+(p2-p1)/4*2).toNat ((p1+(p2-p1)/4*2).toNat+1) A.2:=rfl
  rw[←m2]at r2
  simp only[Int.toNat_natCast]
  generalize Sort.medianAdjacent Sort.ltInt w0.toArray (p1+(p2-p1)/4*2).toNat A.2=B at *
  have r3:=kyd (d:=w0.toArray) (a:=(p1+(p2-p1)/4*3).toNat-1) (b:=(p1+(p2-p1)/4*3).toNat) (c:=(p1+(p2-p1)/4*3).toNat+1) (s:=B.2) (n:=w0.length) (by omega) (by omega) (by omega)
  have m3:Sort.medianAdjacent Sort.ltInt w0.toArray (p1+(p2-p1)/4*3).toNat B.2=Sort.median Sort.ltInt w0.toArray ((p1+(p2-p1)/4*3).toNat-1) (p1+(p2-p1)/4*3).toNat ((p1+(p2-p1)/4*3).toNat+1) B.2:=rfl
  rw[←m3]at r3
  generalize Sort.medianAdjacent Sort.ltInt w0.toArray (p1+(p2-p1)/4*3).toNat B.2=C at *
  exact⟨by trivial,⟨⟨by omega,by omega⟩,h4,by omega,by omega⟩,by trivial,⟨⟨by omega,by omega⟩,h4,by omega,by omega⟩,by trivial,⟨⟨by omega,by omega⟩,h4,by omega,by omega⟩,by trivial,j1 _ _ _ _ ⟨r1.1,r2.1,r3.1,by omega⟩ key⟩
 ·have a:=of_decide_eq_true a
  have b:=of_decide_eq_false b
  have key:=hcp
  unfold Sort.choosePivot at key
  simp only[if_pos (show p2.toNat-p1.toNat≥8 by omega),if_neg (show¬p2.toNat-p1.toNat≥50 by omega)]at key
  refine⟨rfl,?_⟩
  have ei:p1+(p2-p1)/4*1=((p1.toNat+(p2.toNat-p1.toNat)/4*1:Nat):Int):=by omega
  have ej:p1+(p2-p1)/4*2=((p1.toNat+(p2.toNat-p1.toNat)/4*2:Nat):Int):=by omega
  have ek:p1+(p2-p1)/4*3=((p1.toNat+(p2.toNat-p1.toNat)/4*3:Nat):Int):=by omega
  rw[ei,ej,ek]
  exact j1 _ _ _ 0 ⟨by omega,by omega,by omega,by omega⟩ key
 ·have a:=of_decide_eq_false a
  have key:=hcp
  unfold Sort.choosePivot at key
  simp only[if_neg (show¬p2.toNat-p1.toNat≥8 by omega)]at key
  have ej:p1+(p2-p1)/4*2=((p1.toNat+(p2.toNat-p1.toNat)/4*2:Nat):Int):=by omega
  rw[ej]
  exact j2 (_,0) key
noncomputable def kbi:Con TB.den:=k16.fnR (fun x=>(fun(p1:Int) (p2:Int) (w0:List Int)=>(0≤p1∧p1<p2∧p2≤w0.length)∧w0.length≤1099511627776) x.1 x.2.1 x.2.2.1) fun x=>((fun(p1:Int) (p2:Int) (w0:List Int)=>(((cpS w0 p1 p2).1:Int):Int)) x.1 x.2.1 x.2.2.1,(fun(p1:Int) (p2:Int) (w0:List Int)=>((hintN (cpS w0 p1 p2).2):Int)) x.1 x.2.1 x.2.2.1,(fun(p1:Int) (p2:Int) (w0:List Int)=>(w0:List Int)) x.1 x.2.1 x.2.2.1,())
theorem kn0:kbi.Ok Try.prog TB:=Con.ok_fn k16 bd58 fun x h=>kll (kl2 x.1 x.2.1 x.2.2.1 h)
end Go.Proofs.Ytponaobpcdkggaa
end
