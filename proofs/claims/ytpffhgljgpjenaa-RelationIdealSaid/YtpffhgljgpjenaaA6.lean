/-
  Parts of the proofs that the laws of this seat hold of every input, merged by a program: a machine over pure data that is sound for the model, what each function of the translation does in it, and plain lemmas. No conditions but those in each theorem.
-/
import Derived.Test.YtpffhgljgpjenaaA5
set_option linter.all false
set_option maxRecDepth 100000
noncomputable section
namespace Go.Proofs.Ytpffhgljgpjenaa
open Go Go.Bv Go.Cv Go.Md Go.RowKit
def k1c:Con TB.den:=Con.mk0 34 [.one (.ptr 0 0),.agg [.d (.int .u64),.d (.int .u64),.d (.int .u64),.d (.int .u64)]] [.cells [.d (.bool),.d (.int .u64),.d (.int .i64),.own 1,.mp 2,.mp 3,.mp 4],.tip (.st 3),.map (.str) (.int .i64),.map (.str) (.sl (.int .u64)),.map (.str) (.bool)] (.tup [.one (.d (.int .u64)),.one (.d (.bool))]) [.cells [.d (.bool),.d (.int .u64),.d (.int .i64),.own 1,.mp 2,.mp 3,.mp 4],.tip (.st 3),.map (.str) (.int .i64),.map (.str) (.sl (.int .u64)),.map (.str) (.bool)]
abbrev kkj:=HL TB.den (hsT k1c.ins (hsOs k1c.pre))
abbrev k9b:=HL TB.den (hsV k1c.res (hsOs k1c.post))
noncomputable def k6h:Cx TB:=⟨inf,[kfi,kog,kg3],[],4,[]⟩
noncomputable def kaa:Code:=Try.f34.body.getD .skip
noncomputable def kbw:List ResultVar:=Try.f34.results.toList
noncomputable def kk1 (o:k9b):An TB:= .no
def ka9 (x:kkj) (o:k9b):Prop:=WPh TB k6h 15 5 kaa (kk1 o) (k1c.st TB x) (retTQ TB k6h k1c kbw o)
theorem kuw (o:k9b):OblH TB k6h 15 5 kaa (kk1 o) (retTQ TB k6h k1c kbw o):=
 OblH.ofC (X:=True) (by kernel_rfl) trivial
theorem kvf {x:kkj} {o:k9b} (h:ka9 x o):k1c.Snd Try.prog x o:=
 Con.soundH (c:=k1c) (C:=k6h) TBok ⟨inf_ok,(all_cons knd (all_cons k16y (all_cons kq4 all_nil))),all_nil⟩ mix Try.func34 (show Try.f34.body=some kaa by kernel_rfl) (show Try.f34.ntmps=15 by kernel_rfl) (show Try.f34.results.toList=kbw by kernel_rfl) rfl h (kuw o)
theorem kwb {p1:TNote} {c0_0:Bool} {c0_1:Int} {c0_2:Int} {w1:List TQuestion} {w2k:List ByteArray} {w2v:List Int} {w3k:List ByteArray} {w3v:List (List Int)} {w4k:List ByteArray} {w4v:List Bool} {r0:Int} {r1:Bool} {d0_0:Bool} {d0_1:Int} {d0_2:Int} {e1:List TQuestion} {e2k:List ByteArray} {e2v:List Int} {e3k:List ByteArray} {e3v:List (List Int)} {e4k:List ByteArray} {e4v:List Bool} (h:
(((!(noteV p1))=true→
(w1=w1)∧0=r0∧false=r1∧c0_0=d0_0∧c0_1=d0_1∧c0_2=d0_2∧w1=e1∧w2k=e2k∧w2v=e2v∧w3k=e3k∧w3v=e3v∧w4k=e4k∧w4v=e4v)∧
((!(noteV p1))=false→
(w1=w1)∧(U64 (2:Int)∧(Us (noteL p1)∧(noteL p1).length≤1000000000)∧OOk (OS.mk c0_0 c0_1 c0_2 w1 w2k w2v w3k w3v w4k w4v))∧let r2:Int:=((pk c0_0 w1 w2k w2v (2:Int) (noteL p1)).getD 0)
 let r3:Bool:=((pk c0_0 w1 w2k w2v (2:Int) (noteL p1)).isSome)
 let r4:Bool:=((OS.mk c0_0 c0_1 c0_2 w1 w2k w2v w3k w3v w4k w4v).a)
 let r5:Int:=((OS.mk c0_0 c0_1 c0_2 w1 w2k w2v w3k w3v w4k w4v).b)
 let r6:Int:=((OS.mk c0_0 c0_1 c0_2 w1 w2k w2v w3k w3v w4k w4v).c)
 let r7:List TQuestion:=((OS.mk c0_0 c0_1 c0_2 w1 w2k w2v w3k w3v w4k w4v).q)
 let r8:List ByteArray:=((OS.mk c0_0 c0_1 c0_2 w1 w2k w2v w3k w3v w4k w4v).k)
 let r9:List Int:=((OS.mk c0_0 c0_1 c0_2 w1 w2k w2v w3k w3v w4k w4v).v)
 let r10:List ByteArray:=((OS.mk c0_0 c0_1 c0_2 w1 w2k w2v w3k w3v w4k w4v).s)
 let r11:List (List Int):=((OS.mk c0_0 c0_1 c0_2 w1 w2k w2v w3k w3v w4k w4v).t)
 let r12:List ByteArray:=((OS.mk c0_0 c0_1 c0_2 w1 w2k w2v w3k w3v w4k w4v).x)
 let r13:List Bool:=((OS.mk c0_0 c0_1 c0_2 w1 w2k w2v w3k w3v w4k w4v).y)
(r7=r7)∧r2=r0∧r3=r1∧r4=d0_0∧r5=d0_1∧r6=d0_2∧r7=e1∧r8=e2k∧r9=e2v∧r10=e3k∧r11=e3v∧r12=e4k∧r13=e4v))):ka9 (p1.Value,p1.Owner,p1.Rho,p1.Blind,c0_0,c0_1,c0_2,w1,w2k,w2v,w3k,w3v,w4k,w4v,()) (r0,r1,d0_0,d0_1,d0_2,e1,e2k,e2v,e3k,e3v,e4k,e4v,()):=WPh.of_eq (by kernel_rfl) h
theorem bd34:Callable Try.prog 34:=⟨by rw[Try.func34];kernel_rfl,by rw[Try.func34];show some _≠some _;decide⟩
theorem ktx (p1:TNote) (c0_0:Bool) (c0_1:Int) (c0_2:Int) (w1:List TQuestion) (w2k:List ByteArray) (w2v:List Int) (w3k:List ByteArray) (w3v:List (List Int)) (w4k:List ByteArray) (w4v:List Bool) (h:NR p1∧OOk (OS.mk c0_0 c0_1 c0_2 w1 w2k w2v w3k w3v w4k w4v)):ka9 (p1.Value,p1.Owner,p1.Rho,p1.Blind,c0_0,c0_1,c0_2,w1,w2k,w2v,w3k,w3v,w4k,w4v,()) ((((commP (pk c0_0 w1 w2k w2v) p1).getD 0):Int),(((commP (pk c0_0 w1 w2k w2v) p1).isSome):Bool),(((OS.mk c0_0 c0_1 c0_2 w1 w2k w2v w3k w3v w4k w4v).a):Bool),(((OS.mk c0_0 c0_1 c0_2 w1 w2k w2v w3k w3v w4k w4v).b):Int),(((OS.mk c0_0 c0_1 c0_2 w1 w2k w2v w3k w3v w4k w4v).c):Int),(((OS.mk c0_0 c0_1 c0_2 w1 w2k w2v w3k w3v w4k w4v).q):List TQuestion),(((OS.mk c0_0 c0_1 c0_2 w1 w2k w2v w3k w3v w4k w4v).k):List ByteArray),(((OS.mk c0_0 c0_1 c0_2 w1 w2k w2v w3k w3v w4k w4v).v):List Int),(((OS.mk c0_0 c0_1 c0_2 w1 w2k w2v w3k w3v w4k w4v).s):List ByteArray),(((OS.mk c0_0 c0_1 c0_2 w1 w2k w2v w3k w3v w4k w4v).t):List (List Int)),(((OS.mk c0_0 c0_1 c0_2 w1 w2k w2v w3k w3v w4k w4v).x):List ByteArray),(((OS.mk c0_0 c0_1 c0_2 w1 w2k w2v w3k w3v w4k w4v).y):List Bool),()):=by
 obtain⟨h1,ho⟩:=h
 refine kwb ?_
 try simp only[kn0]
 unfold commP
 refine⟨fun e=> ?_,fun e=>⟨by first|exact rfl|exact True.intro,⟨by decide,⟨kx0 h1,by simp[noteL]⟩,ho⟩,?_⟩⟩
 ·have e:noteV p1=false:=by simpa using e
  simp[e]
 ·have e:noteV p1=true:=by simpa using e
  simp[e]
noncomputable def kaz:Con TB.den:=k1c.fnR (fun x=>(fun(p1:TNote) (c0_0:Bool) (c0_1:Int) (c0_2:Int) (w1:List TQuestion) (w2k:List ByteArray) (w2v:List Int) (w3k:List ByteArray) (w3v:List (List Int)) (w4k:List ByteArray) (w4v:List Bool)=>NR p1∧OOk (OS.mk c0_0 c0_1 c0_2 w1 w2k w2v w3k w3v w4k w4v)) (TNote.mk x.1 x.2.1 x.2.2.1 x.2.2.2.1) x.2.2.2.2.1 x.2.2.2.2.2.1 x.2.2.2.2.2.2.1 x.2.2.2.2.2.2.2.1 x.2.2.2.2.2.2.2.2.1 x.2.2.2.2.2.2.2.2.2.1 x.2.2.2.2.2.2.2.2.2.2.1 x.2.2.2.2.2.2.2.2.2.2.2.1 x.2.2.2.2.2.2.2.2.2.2.2.2.1 x.2.2.2.2.2.2.2.2.2.2.2.2.2.1) fun x=>((fun(p1:TNote) (c0_0:Bool) (c0_1:Int) (c0_2:Int) (w1:List TQuestion) (w2k:List ByteArray) (w2v:List Int) (w3k:List ByteArray) (w3v:List (List Int)) (w4k:List ByteArray) (w4v:List Bool)=>(((commP (pk c0_0 w1 w2k w2v) p1).getD 0):Int)) (TNote.mk x.1 x.2.1 x.2.2.1 x.2.2.2.1) x.2.2.2.2.1 x.2.2.2.2.2.1 x.2.2.2.2.2.2.1 x.2.2.2.2.2.2.2.1 x.2.2.2.2.2.2.2.2.1 x.2.2.2.2.2.2.2.2.2.1 x.2.2.2.2.2.2.2.2.2.2.1 x.2.2.2.2.2.2.2.2.2.2.2.1 x.2.2.2.2.2.2.2.2.2.2.2.2.1 x.2.2.2.2.2.2.2.2.2.2.2.2.2.1,(fun(p1:TNote) (c0_0:Bool) (c0_1:Int) (c0_2:Int) (w1:List TQuestion) (w2k:List ByteArray) (w2v:List Int) (w3k:List ByteArray) (w3v:List (List Int)) (w4k:List ByteArray) (w4v:List Bool)=>(((commP (pk c0_0 w1 w2k w2v) p1).isSome):Bool)) (TNote.mk x.1 x.2.1 x.2.2.1 x.2.2.2.1) x.2.2.2.2.1 x.2.2.2.2.2.1 x.2.2.2.2.2.2.1 x.2.2.2.2.2.2.2.1 x.2.2.2.2.2.2.2.2.1 x.2.2.2.2.2.2.2.2.2.1 x.2.2.2.2.2.2.2.2.2.2.1 x.2.2.2.2.2.2.2.2.2.2.2.1 x.2.2.2.2.2.2.2.2.2.2.2.2.1 x.2.2.2.2.2.2.2.2.2.2.2.2.2.1,(fun(p1:TNote) (c0_0:Bool) (c0_1:Int) (c0_2:Int) (w1:List TQuestion) (w2k:List ByteArray) (w2v:List Int) (w3k:List ByteArray) (w3v:List (List Int)) (w4k:List ByteArray) (w4v:List Bool)=>(((OS.mk c0_0 c0_1 c0_2 w1 w2k w2v w3k w3v w4k w4v).a):Bool)) (TNote.mk x.1 x.2.1 x.2.2.1 x.2.2.2.1) x.2.2.2.2.1 x.2.2.2.2.2.1 x.2.2.2.2.2.2.1 x.2.2.2.2.2.2.2.1 x.2.2.2.2.2.2.2.2.1 x.2.2.2.2.2.2.2.2.2.1 x.2.2.2.2.2.2.2.2.2.2.1 x.2.2.2.2.2.2.2.2.2.2.2.1 x.2.2.2.2.2.2.2.2.2.2.2.2.1 x.2.2.2.2.2.2.2.2.2.2.2.2.2.1,(fun(p1:TNote) (c0_0:Bool) (c0_1:Int) (c0_2:Int) (w1:List TQuestion) (w2k:List ByteArray) (w2v:List Int) (w3k:List ByteArray) (w3v:List (List Int)) (w4k:List ByteArray) (w4v:List Bool)=>(((OS.mk c0_0 c0_1 c0_2 w1 w2k w2v w3k w3v w4k w4v).b):Int)) (TNote.mk x.1 x.2.1 x.2.2.1 x.2.2.2.1) x.2.2.2.2.1 x.2.2.2.2.2.1 x.2.2.2.2.2.2.1 x.2.2.2.2.2.2.2.1 x.2.2.2.2.2.2.2.2.1 x.2.2.2.2.2.2.2.2.2.1 x.2.2.2.2.2.2.2.2.2.2.1 x.2.2.2.2.2.2.2.2.2.2.2.1 x.2.2.2.2.2.2.2.2.2.2.2.2.1 x.2.2.2.2.2.2.2.2.2.2.2.2.2.1,(fun(p1:TNote) (c0_0:Bool) (c0_1:Int) (c0_2:Int) (w1:List TQuestion) (w2k:List ByteArray) (w2v:List Int) (w3k:List ByteArray) (w3v:List (List Int)) (w4k:List ByteArray) (w4v:List Bool)=>(((OS.mk c0_0 c0_1 c0_2 w1 w2k w2v w3k w3v w4k w4v).c):Int)) (TNote.mk x.1 x.2.1 x.2.2.1 x.2.2.2.1) x.2.2.2.2.1 x.2.2.2.2.2.1 x.2.2.2.2.2.2.1 x.2.2.2.2.2.2.2.1 x.2.2.2.2.2.2.2.2.1 x.2.2.2.2.2.2.2.2.2.1 x.2.2.2.2.2.2.2.2.2.2.1 x.2.2.2.2.2.2.2.2.2.2.2.1 x.2.2.2.2.2.2.2.2.2.2.2.2.1 x.2.2.2.2.2.2.2.2.2.2.2.2.2.1,(fun(p1:TNote) (c0_0:Bool) (c0_1:Int) (c0_2:Int) (w1:List TQuestion) (w2k:List ByteArray) (w2v:List Int) (w3k:List ByteArray) (w3v:List (List Int)) (w4k:List ByteArray) (w4v:List Bool)=>(((OS.mk c0_0 c0_1 c0_2 w1 w2k w2v w3k w3v w4k w4v).q):List TQuestion)) (TNote.mk x.1 x.2.1 x.2.2.1 x.2.2.2.1) x.2.2.2.2.1 x.2.2.2.2.2.1 x.2.2.2.2.2.2.1 x.2.2.2.2.2.2.2.1 x.2.2.2.2.2.2.2.2.1 x.2.2.2.2.2.2.2.2.2.1 x.2.2.2.2.2.2.2.2.2.2.1 x.2.2.2.2.2.2.2.2.2.2.2.1 x.2.2.2.2.2.2.2.2.2.2.2.2.1 x.2.2.2.2.2.2.2.2.2.2.2.2.2.1,(fun(p1:TNote) (c0_0:Bool) (c0_1:Int) (c0_2:Int) (w1:List TQuestion) (w2k:List ByteArray) (w2v:List Int) (w3k:List ByteArray) (w3v:List (List Int)) (w4k:List ByteArray) (w4v:List Bool)=>(((OS.mk c0_0 c0_1 c0_2 w1 w2k w2v w3k w3v w4k w4v).k):List ByteArray)) (TNote.mk x.1 x.2.1 x.2.2.1 x.2.2.2.1) x.2.2.2.2.1 x.2.2.2.2.2.1 x.2.2.2.2.2.2.1 x.2.2.2.2.2.2.2.1 x.2.2.2.2.2.2.2.2.1 x.2.2.2.2.2.2.2.2.2.1 x.2.2.2.2.2.2.2.2.2.2.1 x.2.2.2.2.2.2.2.2.2.2.2.1 x.2.2.2.2.2.2.2.2.2.2.2.2.1 x.2.2.2.2.2.2.2.2.2.2.2.2.2.1,(fun(p1:TNote) (c0_0:Bool) (c0_1:Int) (c0_2:Int) (w1:List TQuestion) (w2k:List ByteArray) (w2v:List Int) (w3k:List ByteArray) (w3v:List (List Int)) (w4k:List ByteArray) (w4v:List Bool)=>(((OS.mk c0_0 c0_1 c0_2 w1 w2k w2v w3k w3v w4k w4v).v):List Int)) (TNote.mk x.1 x.2.1 x.2.2.1 x.2.2.2.1) x.2.2.2.2.1 x.2.2.2.2.2.1 x.2.2.2.2.2.2.1 x.2.2.2.2.2.2.2.1 x.2.2.2.2.2.2.2.2.1 x.2.2.2.2.2.2.2.2.2.1 x.2.2.2.2.2.2.2.2.2.2.1 x.2.2.2.2.2.2.2.2.2.2.2.1 x.2.2.2.2.2.2.2.2.2.2.2.2.1 x.2.2.2.2.2.2.2.2.2.2.2.2.2.1,(fun(p1:TNote) (c0_0:Bool) (c0_1:Int) (c0_2:Int) (w1:List TQuestion) (w2k:List ByteArray) (w2v:List Int) (w3k:List ByteArray) (w3v:List (List Int)) (w4k:List ByteArray) (w4v:List Bool)=>(((OS.mk c0_0 c0_1 c0_2 w1 w2k w2v w3k w3v w4k w4v).s):List ByteArray)) (TNote.mk x.1 x.2.1 x.2.2.1 x.2.2.2.1) x.2.2.2.2.1 x.2.2.2.2.2.1 x.2.2.2.2.2.2.1 x.2.2.2.2.2.2.2.1 x.2.2.2.2.2.2.2.2.1 x.2.2.2.2.2.2.2.2.2.1 x.2.2.2.2.2.2.2.2.2.2.1 x.2.2.2.2.2.2.2.2.2.2.2.1 x.2.2.2.2.2.2.2.2.2.2.2.2.1 x.2.2.2.2.2.2.2.2.2.2.2.2.2.1,(fun(p1:TNote) (c0_0:Bool) (c0_1:Int) (c0_2:Int) (w1:List TQuestion) (w2k:List ByteArray) (w2v:List Int) (w3k:List ByteArray) (w3v:List (List Int)) (w4k:List ByteArray) (w4v:List Bool)=>(((OS.mk c0_0 c0_1 c0_2 w1 w2k w2v w3k w3v w4k w4v).t):List (List Int))) (TNote.mk x.1 x.2.1 x.2.2.1 x.2.2.2.1) x.2.2.2.2.1 x.2.2.2.2.2.1 x.2.2.2.2.2.2.1 x.2.2.2.2.2.2.2.1 x.2.2.2.2.2.2.2.2.1 x.2.2.2.2.2.2.2.2.2.1 x.2.2.2.2.2.2.2.2.2.2.1 x.2.2.2.2.2.2.2.2.2.2.2.1 x.2.2.2.2.2.2.2.2.2.2.2.2.1 x.2.2.2.2.2.2.2.2.2.2.2.2.2.1,(fun(p1:TNote) (c0_0:Bool) (c0_1:Int) (c0_2:Int) (w1:List TQuestion) (w2k:List ByteArray) (w2v:List Int) (w3k:List ByteArray) (w3v:List (List Int)) (w4k:List ByteArray) (w4v:List Bool)=>(((OS.mk c0_0 c0_1 c0_2 w1 w2k w2v w3k w3v w4k w4v).x):List ByteArray)) (TNote.mk x.1 x.2.1 x.2.2.1 x.2.2.2.1) x.2.2.2.2.1 x.2.2.2.2.2.1 x.2.2.2.2.2.2.1 x.2.2.2.2.2.2.2.1 x.2.2.2.2.2.2.2.2.1 x.2.2.2.2.2.2.2.2.2.1 x.2.2.2.2.2.2.2.2.2.2.1 x.2.2.2.2.2.2.2.2.2.2.2.1 x.2.2.2.2.2.2.2.2.2.2.2.2.1 x.2.2.2.2.2.2.2.2.2.2.2.2.2.1,(fun(p1:TNote) (c0_0:Bool) (c0_1:Int) (c0_2:Int) (w1:List TQuestion) (w2k:List ByteArray) (w2v:List Int) (w3k:List ByteArray) (w3v:List (List Int)) (w4k:List ByteArray) (w4v:List Bool)=>(((OS.mk c0_0 c0_1 c0_2 w1 w2k w2v w3k w3v w4k w4v).y):List Bool)) (TNote.mk x.1 x.2.1 x.2.2.1 x.2.2.2.1) x.2.2.2.2.1 x.2.2.2.2.2.1 x.2.2.2.2.2.2.1 x.2.2.2.2.2.2.2.1 x.2.2.2.2.2.2.2.2.1 x.2.2.2.2.2.2.2.2.2.1 x.2.2.2.2.2.2.2.2.2.2.1 x.2.2.2.2.2.2.2.2.2.2.2.1 x.2.2.2.2.2.2.2.2.2.2.2.2.1 x.2.2.2.2.2.2.2.2.2.2.2.2.2.1,())
theorem kj3:kaz.Ok Try.prog TB:=Con.ok_fn k1c bd34 fun x h=>kvf (ktx (TNote.mk x.1 x.2.1 x.2.2.1 x.2.2.2.1) x.2.2.2.2.1 x.2.2.2.2.2.1 x.2.2.2.2.2.2.1 x.2.2.2.2.2.2.2.1 x.2.2.2.2.2.2.2.2.1 x.2.2.2.2.2.2.2.2.2.1 x.2.2.2.2.2.2.2.2.2.2.1 x.2.2.2.2.2.2.2.2.2.2.2.1 x.2.2.2.2.2.2.2.2.2.2.2.2.1 x.2.2.2.2.2.2.2.2.2.2.2.2.2.1 h)
def k1h:Con TB.den:=Con.mk0 10 [.agg [.d (.sl (.st 0)),.d (.sl (.st 1)),.d (.int .u64)]] [] (.one (.one (.d (.int .u64)))) []
abbrev kox:=HL TB.den (hsT k1h.ins (hsOs k1h.pre))
abbrev k2z:=HL TB.den (hsV k1h.res (hsOs k1h.post))
noncomputable def k3f:Cx TB:=⟨inf,[],[],4,[]⟩
noncomputable def k6n:Code:=Try.f10.body.getD .skip
noncomputable def ka0:List ResultVar:=Try.f10.results.toList
def k108 (o:k2z):=qS TB k3f 20 0 (cB (cB (cB k6n))) .no (retTQ TB k3f k1h ka0 o)
def k4i:Tm:=⟨[],[],[3,7,8,9],[.one (.d (.int .u64)),.one (.d (.sl (.st 0))),.one (.d (.int .i64)),.one (.d (.int .i64))],1⟩
def k127 (o:k2z) (nx1:NX TB k4i):=qM TB 0 k4i nx1 (blockT TB 0 (k108 o))
def k7e (o:k2z) (nx1:NX TB k4i) (i:HL TB.den k4i.hs):Prop:=WP TB k3f 20 0 (cA (cA (cB (cA (cB (cB k6n)))))) .no (k4i.fill TB i) (k127 o nx1)
noncomputable def k132 (o:k2z):An TB:= .lp [] k4i (k7e o) fun nx1=> .no
noncomputable def k11f (o:k2z):An TB:= .nd [] .no [] (.nd [] (.nd [] .no [] (k132 o)) [] .no)
noncomputable def kn2 (o:k2z):An TB:= .nd [] .no [] (k11f o)
def kc1 (x:kox) (o:k2z):Prop:=WPh TB k3f 20 0 k6n (kn2 o) (k1h.st TB x) (retTQ TB k3f k1h ka0 o)
theorem kzv (o:k2z):OblH TB k3f 20 0 k6n (kn2 o) (retTQ TB k3f k1h ka0 o):=
 OblH.ofC (X:=((∀nx i,(k7e o) nx i=(k7e o) nx i)∧(∀nx1:NX TB k4i,True)∧True)) (by kernel_rfl) ⟨fun _ _=>rfl,fun _=>trivial,trivial⟩
theorem kzm {x:kox} {o:k2z} (h:kc1 x o):k1h.Snd Try.prog x o:=
 Con.soundH (c:=k1h) (C:=k3f) TBok ⟨inf_ok,all_nil,all_nil⟩ mix Try.func10 (show Try.f10.body=some k6n by kernel_rfl) (show Try.f10.ntmps=20 by kernel_rfl) (show Try.f10.results.toList=ka0 by kernel_rfl) rfl h (kzv o)
theorem k126 {p0:TWitness} {r0:Int} (h:
(Md.Loop ((0:Int),p0.Ins,((p0.Ins.length:Int):Int),(0:Int),()) (k7e (r0,())))):kc1 (p0.Ins,p0.Outs,p0.Secret,()) (r0,()):=WPh.of_eq (by kernel_rfl) h
def kn1 (r0:Int) (k1:Int→Int→Prop) (s7:List TSpent) (s8:Int) (s3:Int) (s9:Int):Prop:=
(decide (s9<s8)=true→
(0≤s9)∧s9<(s7.length:Int)∧let v1:Int:=IntKind.u64.wrap (s3+((ix s7 s9).Note_Value))
 k1 v1 (IntKind.i64.wrap (s9+1):Int))∧
(decide (s9<s8)=false→
 s3=r0)
theorem kzn {r0:Int} {s7:List TSpent} {s8:Int} {s3:Int} {s9:Int} (inv:Int→Int→Prop) (μ:Int→Int→Nat) (h0:inv s3 s9) (hs:∀(s3:Int) (s9:Int),inv s3 s9→kn1 r0 (fun s3q s9q=>inv s3q s9q∧μ s3q s9q<μ s3 s9) s7 s8 s3 s9):Md.Loop (s3,s7,s8,s9,()) (k7e (r0,())):=
 ⟨⟨fun s:Int×(List TSpent)×Int×Int×Unit=>(s.2.1=s7∧s.2.2.1=s8)∧inv s.1 s.2.2.2.1,fun s:Int×(List TSpent)×Int×Int×Unit=>μ s.1 s.2.2.2.1,⟨⟨rfl,rfl⟩,h0⟩,fun(s3p,s7p,s8p,s9p,()) ⟨⟨eq0,eq1⟩,hi⟩=>by
  have eq0:s7p=s7:=eq0;subst s7p;have eq1:s8p=s8:=eq1;subst s8p;exact mpr_of (by kernel_rfl) ((congrArg (fun k=>kn1 r0 k s7 s8 s3p s9p) (lpk2 (⟨rfl,rfl⟩:s7=s7∧s8=s8) inv (fun s3q s9q=>μ s3q s9q<μ s3p s9p))).mpr (hs s3p s9p hi))⟩⟩
theorem bd10:Callable Try.prog 10:=⟨by rw[Try.func10];kernel_rfl,by rw[Try.func10];show some _≠some _;decide⟩
theorem kwj (p0:TWitness) (h:p0.Ins.length≤9223372036854775807):kc1 (p0.Ins,p0.Outs,p0.Secret,()) (((inS p0.Ins):Int),()):=by
 refine k126 (kzn (fun s i=>FoldI (fun s x=>(s+x.Note_Value)%18446744073709551616) 0 p0.Ins i s) (fun s i=>(p0.Ins.length-i).toNat) FoldI.start ?_)
 intro s i hi
 refine⟨fun hh=> ?_,fun hh=>hi.done (of_decide_eq_false hh)⟩
 have hh:=of_decide_eq_true hh
 exact⟨hi.1,hh,hi.next hh (by omega) (by rw[u64w])⟩
noncomputable def kd1:Con TB.den:=k1h.fnR (fun x=>(fun(p0:TWitness)=>p0.Ins.length≤9223372036854775807) (TWitness.mk x.1 x.2.1 x.2.2.1)) fun x=>((fun(p0:TWitness)=>((inS p0.Ins):Int)) (TWitness.mk x.1 x.2.1 x.2.2.1),())
theorem kn9:kd1.Ok Try.prog TB:=Con.ok_fn k1h bd10 fun x h=>kzm (kwj (TWitness.mk x.1 x.2.1 x.2.2.1) h)
def k1a:Con TB.den:=Con.mk0 12 [.agg [.d (.sl (.st 0)),.d (.sl (.st 1)),.d (.int .u64)]] [] (.one (.one (.d (.int .u64)))) []
abbrev knb:=HL TB.den (hsT k1a.ins (hsOs k1a.pre))
abbrev k2q:=HL TB.den (hsV k1a.res (hsOs k1a.post))
noncomputable def k2y:Cx TB:=⟨inf,[],[],4,[]⟩
noncomputable def k67:Code:=Try.f12.body.getD .skip
noncomputable def k9a:List ResultVar:=Try.f12.results.toList
def kzk (o:k2q):=qS TB k2y 19 0 (cB (cB (cB k67))) .no (retTQ TB k2y k1a k9a o)
def k48:Tm:=⟨[],[],[3,7,8,9],[.one (.d (.int .u64)),.one (.d (.sl (.st 1))),.one (.d (.int .i64)),.one (.d (.int .i64))],1⟩
def kzf (o:k2q) (nx1:NX TB k48):=qM TB 0 k48 nx1 (blockT TB 0 (kzk o))
def k6r (o:k2q) (nx1:NX TB k48) (i:HL TB.den k48.hs):Prop:=WP TB k2y 19 0 (cA (cA (cB (cA (cB (cB k67)))))) .no (k48.fill TB i) (kzf o nx1)
noncomputable def kzy (o:k2q):An TB:= .lp [] k48 (k6r o) fun nx1=> .no
noncomputable def k102 (o:k2q):An TB:= .nd [] .no [] (.nd [] (.nd [] .no [] (kzy o)) [] .no)
noncomputable def kkm (o:k2q):An TB:= .nd [] .no [] (k102 o)
def kb6 (x:knb) (o:k2q):Prop:=WPh TB k2y 19 0 k67 (kkm o) (k1a.st TB x) (retTQ TB k2y k1a k9a o)
theorem kwl (o:k2q):OblH TB k2y 19 0 k67 (kkm o) (retTQ TB k2y k1a k9a o):=
 OblH.ofC (X:=((∀nx i,(k6r o) nx i=(k6r o) nx i)∧(∀nx1:NX TB k48,True)∧True)) (by kernel_rfl) ⟨fun _ _=>rfl,fun _=>trivial,trivial⟩
theorem kwd {x:knb} {o:k2q} (h:kb6 x o):k1a.Snd Try.prog x o:=
 Con.soundH (c:=k1a) (C:=k2y) TBok ⟨inf_ok,all_nil,all_nil⟩ mix Try.func12 (show Try.f12.body=some k67 by kernel_rfl) (show Try.f12.ntmps=19 by kernel_rfl) (show Try.f12.results.toList=k9a by kernel_rfl) rfl h (kwl o)
theorem kzo {p0:TWitness} {r0:Int} (h:
(Md.Loop ((0:Int),p0.Outs,((p0.Outs.length:Int):Int),(0:Int),()) (k6r (r0,())))):kb6 (p0.Ins,p0.Outs,p0.Secret,()) (r0,()):=WPh.of_eq (by kernel_rfl) h
def kki (r0:Int) (k1:Int→Int→Prop) (s7:List TNote) (s8:Int) (s3:Int) (s9:Int):Prop:=
(decide (s9<s8)=true→
(0≤s9)∧s9<(s7.length:Int)∧let v1:Int:=IntKind.u64.wrap (s3+((ix s7 s9).Value))
 k1 v1 (IntKind.i64.wrap (s9+1):Int))∧
(decide (s9<s8)=false→
 s3=r0)
theorem kxd {r0:Int} {s7:List TNote} {s8:Int} {s3:Int} {s9:Int} (inv:Int→Int→Prop) (μ:Int→Int→Nat) (h0:inv s3 s9) (hs:∀(s3:Int) (s9:Int),inv s3 s9→kki r0 (fun s3q s9q=>inv s3q s9q∧μ s3q s9q<μ s3 s9) s7 s8 s3 s9):Md.Loop (s3,s7,s8,s9,()) (k6r (r0,())):=
 ⟨⟨fun s:Int×(List TNote)×Int×Int×Unit=>(s.2.1=s7∧s.2.2.1=s8)∧inv s.1 s.2.2.2.1,fun s:Int×(List TNote)×Int×Int×Unit=>μ s.1 s.2.2.2.1,⟨⟨rfl,rfl⟩,h0⟩,fun(s3p,s7p,s8p,s9p,()) ⟨⟨eq0,eq1⟩,hi⟩=>by
  have eq0:s7p=s7:=eq0;subst s7p;have eq1:s8p=s8:=eq1;subst s8p;exact mpr_of (by kernel_rfl) ((congrArg (fun k=>kki r0 k s7 s8 s3p s9p) (lpk2 (⟨rfl,rfl⟩:s7=s7∧s8=s8) inv (fun s3q s9q=>μ s3q s9q<μ s3p s9p))).mpr (hs s3p s9p hi))⟩⟩
theorem bd12:Callable Try.prog 12:=⟨by rw[Try.func12];kernel_rfl,by rw[Try.func12];show some _≠some _;decide⟩
theorem kud (p0:TWitness) (h:p0.Outs.length≤9223372036854775807):kb6 (p0.Ins,p0.Outs,p0.Secret,()) (((outS p0.Outs):Int),()):=by
 refine kzo (kxd (fun s i=>FoldI (fun s x=>(s+x.Value)%18446744073709551616) 0 p0.Outs i s) (fun s i=>(p0.Outs.length-i).toNat) FoldI.start ?_)
 intro s i hi
 refine⟨fun hh=> ?_,fun hh=>hi.done (of_decide_eq_false hh)⟩
 have hh:=of_decide_eq_true hh
 exact⟨hi.1,hh,hi.next hh (by omega) (by rw[u64w])⟩
noncomputable def kbr:Con TB.den:=k1a.fnR (fun x=>(fun(p0:TWitness)=>p0.Outs.length≤9223372036854775807) (TWitness.mk x.1 x.2.1 x.2.2.1)) fun x=>((fun(p0:TWitness)=>((outS p0.Outs):Int)) (TWitness.mk x.1 x.2.1 x.2.2.1),())
theorem kkn:kbr.Ok Try.prog TB:=Con.ok_fn k1a bd12 fun x h=>kwd (kud (TWitness.mk x.1 x.2.1 x.2.2.1) h)
def k13:Con TB.den:=Con.mk0 68 [.one (.d (.sl (.int .u64)))] [] (.one (.one (.d (.bool)))) []
abbrev kkl:=HL TB.den (hsT k13.ins (hsOs k13.pre))
abbrev k2x:=HL TB.den (hsV k13.res (hsOs k13.post))
noncomputable def k2p:Cx TB:=⟨inf,[],[],4,[]⟩
noncomputable def k5n:Code:=Try.f68.body.getD .skip
noncomputable def k87:List ResultVar:=Try.f68.results.toList
def kwf (o:k2x):=qS TB k2p 14 0 (cB (cB k5n)) .no (retTQ TB k2p k13 k87 o)
def k3j:Tm:=⟨[],[],[5,6,7],[.one (.d (.sl (.int .u64))),.one (.d (.int .i64)),.one (.d (.int .i64))],0⟩
def kwu (o:k2x) (nx1:NX TB k3j):=qM TB 0 k3j nx1 (blockT TB 0 (kwf o))
def k6f (o:k2x) (nx1:NX TB k3j) (i:HL TB.den k3j.hs):Prop:=WP TB k2p 14 0 (cA (cA (cB (cA (cB k5n))))) .no (k3j.fill TB i) (kwu o nx1)
noncomputable def kx9 (o:k2x):An TB:= .lp [] k3j (k6f o) fun nx1=> .no
noncomputable def kix (o:k2x):An TB:= .nd [] .no [] (.nd [] (.nd [] .no [] (kx9 o)) [] .no)
def kad (x:kkl) (o:k2x):Prop:=WPh TB k2p 14 0 k5n (kix o) (k13.st TB x) (retTQ TB k2p k13 k87 o)
theorem kw9 (o:k2x):OblH TB k2p 14 0 k5n (kix o) (retTQ TB k2p k13 k87 o):=
 OblH.ofC (X:=((∀nx i,(k6f o) nx i=(k6f o) nx i)∧(∀nx1:NX TB k3j,True)∧True)) (by kernel_rfl) ⟨fun _ _=>rfl,fun _=>trivial,trivial⟩
theorem kv1 {x:kkl} {o:k2x} (h:kad x o):k13.Snd Try.prog x o:=
 Con.soundH (c:=k13) (C:=k2p) TBok ⟨inf_ok,all_nil,all_nil⟩ mix Try.func68 (show Try.f68.body=some k5n by kernel_rfl) (show Try.f68.ntmps=14 by kernel_rfl) (show Try.f68.results.toList=k87 by kernel_rfl) rfl h (kw9 o)
theorem kx4 {p0:List Int} {r0:Bool} (h:
(Md.Loop (p0,((p0.length:Int):Int),(0:Int),()) (k6f (r0,())))):kad (p0,()) (r0,()):=WPh.of_eq (by kernel_rfl) h
def kio (r0:Bool) (k1:Int→Prop) (s5:List Int) (s6:Int) (s7:Int):Prop:=
(decide (s7<s6)=true→
(0≤s7)∧s7<(s5.length:Int)∧let v1:Bool:=decide (18446744069414584321≤(ix s5 s7))
(v1=true→
 false=r0)∧
(v1=false→
 k1 (IntKind.i64.wrap (s7+1):Int)))∧
(decide (s7<s6)=false→
 true=r0)
theorem kuj {r0:Bool} {s5:List Int} {s6:Int} {s7:Int} (inv:Int→Prop) (μ:Int→Nat) (h0:inv s7) (hs:∀(s7:Int),inv s7→kio r0 (fun s7q=>inv s7q∧μ s7q<μ s7) s5 s6 s7):Md.Loop (s5,s6,s7,()) (k6f (r0,())):=
 ⟨⟨fun s:(List Int)×Int×Int×Unit=>(s.1=s5∧s.2.1=s6)∧inv s.2.2.1,fun s:(List Int)×Int×Int×Unit=>μ s.2.2.1,⟨⟨rfl,rfl⟩,h0⟩,fun(s5p,s6p,s7p,()) ⟨⟨eq0,eq1⟩,hi⟩=>by
  have eq0:s5p=s5:=eq0;subst s5p;have eq1:s6p=s6:=eq1;subst s6p;exact mpr_of (by kernel_rfl) ((congrArg (fun k=>kio r0 k s5 s6 s7p) (lpk1 (⟨rfl,rfl⟩:s5=s5∧s6=s6) inv (fun s7q=>μ s7q<μ s7p))).mpr (hs s7p hi))⟩⟩
theorem bd68:Callable Try.prog 68:=⟨by rw[Try.func68];kernel_rfl,by rw[Try.func68];show some _≠some _;decide⟩
theorem kte (p0:List Int) (h:p0.length≤9223372036854775807):kad (p0,()) (((allB p0):Bool),()):=by
 refine kx4 (kuj (AllI (fun x=>decide (x<18446744069414584321)) p0) (fun i=>(p0.length-i).toNat) AllI.start ?_)
 intro i hi
 refine⟨fun hh=> ?_,fun hh=>(hi.done (of_decide_eq_false hh)).symm⟩
 have hh:=of_decide_eq_true hh
 exact⟨hi.1,hh,fun e=>(hi.bad hh (by simpa using e)).symm,fun e=>hi.next hh (by omega) (by simpa using e)⟩
noncomputable def kbk:Con TB.den:=k13.fnR (fun x=>(fun(p0:List Int)=>p0.length≤9223372036854775807) x.1) fun x=>((fun(p0:List Int)=>((allB p0):Bool)) x.1,())
theorem kka:kbk.Ok Try.prog TB:=Con.ok_fn k13 bd68 fun x h=>kv1 (kte x.1 h)
def k1j:Con TB.den:=Con.mk0 70 [.one (.d (.sl (.st 1)))] [] (.one (.one (.d (.bool)))) []
abbrev kpx:=HL TB.den (hsT k1j.ins (hsOs k1j.pre))
abbrev k4d:=HL TB.den (hsV k1j.res (hsOs k1j.post))
noncomputable def k45:Cx TB:=⟨inf,[kfi],[],4,[]⟩
noncomputable def k6u:Code:=Try.f70.body.getD .skip
noncomputable def kam:List ResultVar:=Try.f70.results.toList
def k13k (o:k4d):=qS TB k45 15 0 (cB (cB k6u)) .no (retTQ TB k45 k1j kam o)
def k59:Tm:=⟨[],[],[5,6,7],[.one (.d (.sl (.st 1))),.one (.d (.int .i64)),.one (.d (.int .i64))],0⟩
def k146 (o:k4d) (nx1:NX TB k59):=qM TB 0 k59 nx1 (blockT TB 0 (k13k o))
def k81 (o:k4d) (nx1:NX TB k59) (i:HL TB.den k59.hs):Prop:=WP TB k45 15 0 (cA (cA (cB (cA (cB k6u))))) .no (k59.fill TB i) (k146 o nx1)
noncomputable def k139 (o:k4d):An TB:= .lp [] k59 (k81 o) fun nx1=> .no
noncomputable def koz (o:k4d):An TB:= .nd [] .no [] (.nd [] (.nd [] .no [] (k139 o)) [] .no)
def kd3 (x:kpx) (o:k4d):Prop:=WPh TB k45 15 0 k6u (koz o) (k1j.st TB x) (retTQ TB k45 k1j kam o)
theorem k129 (o:k4d):OblH TB k45 15 0 k6u (koz o) (retTQ TB k45 k1j kam o):=
 OblH.ofC (X:=((∀nx i,(k81 o) nx i=(k81 o) nx i)∧(∀nx1:NX TB k59,True)∧True)) (by kernel_rfl) ⟨fun _ _=>rfl,fun _=>trivial,trivial⟩
theorem k12i {x:kpx} {o:k4d} (h:kd3 x o):k1j.Snd Try.prog x o:=
 Con.soundH (c:=k1j) (C:=k45) TBok ⟨inf_ok,(all_cons knd all_nil),all_nil⟩ mix Try.func70 (show Try.f70.body=some k6u by kernel_rfl) (show Try.f70.ntmps=15 by kernel_rfl) (show Try.f70.results.toList=kam by kernel_rfl) rfl h (k129 o)
theorem k14o {p0:List TNote} {r0:Bool} (h:
(Md.Loop (p0,((p0.length:Int):Int),(0:Int),()) (k81 (r0,())))):kd3 (p0,()) (r0,()):=WPh.of_eq (by kernel_rfl) h
def kon (r0:Bool) (k1:Int→Prop) (s5:List TNote) (s6:Int) (s7:Int):Prop:=
(decide (s7<s6)=true→
(0≤s7)∧s7<(s5.length:Int)∧((!(noteV (ix s5 s7)))=true→
 false=r0)∧
((!(noteV (ix s5 s7)))=false→
 k1 (IntKind.i64.wrap (s7+1):Int)))∧
(decide (s7<s6)=false→
 true=r0)
theorem k123 {r0:Bool} {s5:List TNote} {s6:Int} {s7:Int} (inv:Int→Prop) (μ:Int→Nat) (h0:inv s7) (hs:∀(s7:Int),inv s7→kon r0 (fun s7q=>inv s7q∧μ s7q<μ s7) s5 s6 s7):Md.Loop (s5,s6,s7,()) (k81 (r0,())):=
 ⟨⟨fun s:(List TNote)×Int×Int×Unit=>(s.1=s5∧s.2.1=s6)∧inv s.2.2.1,fun s:(List TNote)×Int×Int×Unit=>μ s.2.2.1,⟨⟨rfl,rfl⟩,h0⟩,fun(s5p,s6p,s7p,()) ⟨⟨eq0,eq1⟩,hi⟩=>by
  have eq0:s5p=s5:=eq0;subst s5p;have eq1:s6p=s6:=eq1;subst s6p;exact mpr_of (by kernel_rfl) ((congrArg (fun k=>kon r0 k s5 s6 s7p) (lpk1 (⟨rfl,rfl⟩:s5=s5∧s6=s6) inv (fun s7q=>μ s7q<μ s7p))).mpr (hs s7p hi))⟩⟩
theorem bd70:Callable Try.prog 70:=⟨by rw[Try.func70];kernel_rfl,by rw[Try.func70];show some _≠some _;decide⟩
theorem kzp (p0:List TNote) (h:p0.length≤9223372036854775807):kd3 (p0,()) (((p0.all noteV):Bool),()):=by
 refine k14o (k123 (AllI noteV p0) (fun i=>(p0.length-i).toNat) AllI.start ?_)
 intro i hi
 refine⟨fun hh=> ?_,fun hh=>(hi.done (of_decide_eq_false hh)).symm⟩
 have hh:=of_decide_eq_true hh
 exact⟨hi.1,hh,fun e=>(hi.bad hh (by simpa using e)).symm,fun e=>hi.next hh (by omega) (by simpa using e)⟩
noncomputable def kmz:Con TB.den:=k1j.fnR (fun x=>(fun(p0:List TNote)=>p0.length≤9223372036854775807) x.1) fun x=>((fun(p0:List TNote)=>((p0.all noteV):Bool)) x.1,())
theorem k13h:kmz.Ok Try.prog TB:=Con.ok_fn k1j bd70 fun x h=>k12i (kzp x.1 h)
def k17:Con TB.den:=Con.mk0 69 [.agg [.d (.int .u64),.d (.int .u64),.d (.int .u64),.d (.int .u64),.d (.int .u64),.d (.int .i64),.d (.int .i64),.d (.sl (.int .u64)),.d (.bool)]] [] (.one (.one (.d (.bool)))) []
abbrev kiv:=HL TB.den (hsT k17.ins (hsOs k17.pre))
abbrev k8b:=HL TB.den (hsV k17.res (hsOs k17.post))
noncomputable def k61:Cx TB:=⟨inf,[kfi,kbk],[],4,[]⟩
noncomputable def k9e:Code:=Try.f69.body.getD .skip
noncomputable def kb5:List ResultVar:=Try.f69.results.toList
noncomputable def kih (o:k8b):An TB:= .no
def k9d (x:kiv) (o:k8b):Prop:=WPh TB k61 43 0 k9e (kih o) (k17.st TB x) (retTQ TB k61 k17 kb5 o)
theorem kt8 (o:k8b):OblH TB k61 43 0 k9e (kih o) (retTQ TB k61 k17 kb5 o):=
 OblH.ofC (X:=True) (by kernel_rfl) trivial
theorem ktj {x:kiv} {o:k8b} (h:k9d x o):k17.Snd Try.prog x o:=
 Con.soundH (c:=k17) (C:=k61) TBok ⟨inf_ok,(all_cons knd (all_cons kka all_nil)),all_nil⟩ mix Try.func69 (show Try.f69.body=some k9e by kernel_rfl) (show Try.f69.ntmps=43 by kernel_rfl) (show Try.f69.results.toList=kb5 by kernel_rfl) rfl h (kt8 o)
theorem kv0 {p0:TSpent} {r0:Bool} (h:
(let r1:Bool:=(noteV (TNote.mk p0.Note_Value p0.Note_Owner p0.Note_Rho p0.Note_Blind))
(r1=true→
([p0.Key].length≤9223372036854775807)∧((allB [p0.Key])=true→
(decide (0≤p0.Number)=true→
(decide (p0.Number<4)=true→
(decide (0≤p0.Position)=true→
(decide (p0.Position≤4095)=true→
(decide ((p0.Path.length:Int)≤12)=true→
(p0.Path.length≤9223372036854775807)∧(allB p0.Path)=r0)∧
(decide ((p0.Path.length:Int)≤12)=false→
 false=r0))∧
(decide (p0.Position≤4095)=false→
 false=r0))∧
(decide (0≤p0.Position)=false→
 false=r0))∧
(decide (p0.Number<4)=false→
 false=r0))∧
(decide (0≤p0.Number)=false→
 false=r0))∧
((allB [p0.Key])=false→
 false=r0))∧
(r1=false→
 false=r0))):k9d (p0.Note_Value,p0.Note_Owner,p0.Note_Rho,p0.Note_Blind,p0.Key,p0.Number,p0.Position,p0.Path,p0.Dummy,()) (r0,()):=WPh.of_eq (by kernel_rfl) h
theorem bd69:Callable Try.prog 69:=⟨by rw[Try.func69];kernel_rfl,by rw[Try.func69];show some _≠some _;decide⟩
theorem kro (p0:TSpent) (h:p0.Path.length≤9223372036854775807):k9d (p0.Note_Value,p0.Note_Owner,p0.Note_Rho,p0.Note_Blind,p0.Key,p0.Number,p0.Position,p0.Path,p0.Dummy,()) (((spendV p0):Bool),()):=by
 have e1:allB [p0.Key]=decide (p0.Key<18446744069414584321):=by simp[allB]
 have e2:(decide ((p0.Path.length:Int)≤12))=decide (p0.Path.length≤12):=by congr 1;apply propext;omega
 refine kv0 ?_
 simp only[e1,e2]
 unfold spendV noteOf
 have:[p0.Key].length≤9223372036854775807:=by simp
 grind
noncomputable def kgo:Con TB.den:=k17.fnR (fun x=>(fun(p0:TSpent)=>p0.Path.length≤9223372036854775807) (TSpent.mk x.1 x.2.1 x.2.2.1 x.2.2.2.1 x.2.2.2.2.1 x.2.2.2.2.2.1 x.2.2.2.2.2.2.1 x.2.2.2.2.2.2.2.1 x.2.2.2.2.2.2.2.2.1)) fun x=>((fun(p0:TSpent)=>((spendV p0):Bool)) (TSpent.mk x.1 x.2.1 x.2.2.1 x.2.2.2.1 x.2.2.2.2.1 x.2.2.2.2.2.1 x.2.2.2.2.2.2.1 x.2.2.2.2.2.2.2.1 x.2.2.2.2.2.2.2.2.1),())
theorem kuv:kgo.Ok Try.prog TB:=Con.ok_fn k17 bd69 fun x h=>ktj (kro (TSpent.mk x.1 x.2.1 x.2.2.1 x.2.2.2.1 x.2.2.2.2.1 x.2.2.2.2.2.1 x.2.2.2.2.2.2.1 x.2.2.2.2.2.2.2.1 x.2.2.2.2.2.2.2.2.1) h)
def k1k:Con TB.den:=Con.mk0 31 [.agg [.d (.int .i64),.d (.int .u64),.d (.sl (.int .u64)),.d (.sl (.int .u64)),.d (.sl (.int .u64)),.d (.int .u64),.d (.int .u64),.d (.int .u64),.d (.int .u64),.d (.int .u64)],.agg [.d (.sl (.st 0)),.d (.sl (.st 1)),.d (.int .u64)]] [] (.one (.one (.d (.bool)))) []
abbrev kqj:=HL TB.den (hsT k1k.ins (hsOs k1k.pre))
abbrev k2v:=HL TB.den (hsV k1k.res (hsOs k1k.post))
noncomputable def k44:Cx TB:=⟨inf,[kbk,kgo,kmz],[],4,[]⟩
noncomputable def k6s:Code:=Try.f31.body.getD .skip
noncomputable def kak:List ResultVar:=Try.f31.results.toList
def k14j (o:k2v):=qS TB k44 122 0 (cB (cB (cB (cB (cB (cB (cB k6s))))))) .no (retTQ TB k44 k1k kak o)
def k58:Tm:=⟨[0,1],[.cells [.d (.int .i64),.d (.int .u64),.d (.sl (.int .u64)),.d (.sl (.int .u64)),.d (.sl (.int .u64)),.d (.int .u64),.d (.int .u64),.d (.int .u64),.d (.int .u64),.d (.int .u64)],.cells [.d (.sl (.st 0)),.d (.sl (.st 1)),.d (.int .u64)]],[2,3,93,94,95],[.one (.ptr 0 0),.one (.ptr 1 0),.one (.d (.sl (.st 0))),.one (.d (.int .i64)),.one (.d (.int .i64))],3⟩
def k13a (o:k2v) (nx1:NX TB k58):=qM TB 0 k58 nx1 (blockT TB 0 (k14j o))
def k83 (o:k2v) (nx1:NX TB k58) (i:HL TB.den k58.hs):Prop:=WP TB k44 122 0 (cA (cA (cB (cA (cB (cB (cB (cB (cB (cB k6s)))))))))) .no (k58.fill TB i) (k13a o nx1)
noncomputable def k141 (o:k2v):An TB:= .lp [] k58 (k83 o) fun nx1=> .no
noncomputable def k13l (o:k2v):An TB:= .nd [] .no [] (.nd [] (.nd [] .no [] (k141 o)) [] .no)
noncomputable def k12f (o:k2v):An TB:= .nd [] .no [] (.nd [] .no [] (.nd [] .no [] (k13l o)))
noncomputable def ko9 (o:k2v):An TB:= .nd [] .no [] (.nd [] .no [] (k12f o))
def kd7 (x:kqj) (o:k2v):Prop:=WPh TB k44 122 0 k6s (ko9 o) (k1k.st TB x) (retTQ TB k44 k1k kak o)
theorem k11p (o:k2v):OblH TB k44 122 0 k6s (ko9 o) (retTQ TB k44 k1k kak o):=
 OblH.ofC (X:=((∀nx i,(k83 o) nx i=(k83 o) nx i)∧(∀nx1:NX TB k58,True)∧True)) (by kernel_rfl) ⟨fun _ _=>rfl,fun _=>trivial,trivial⟩
theorem k104 {x:kqj} {o:k2v} (h:kd7 x o):k1k.Snd Try.prog x o:=
 Con.soundH (c:=k1k) (C:=k44) TBok ⟨inf_ok,(all_cons kka (all_cons kuv (all_cons k13h all_nil))),all_nil⟩ mix Try.func31 (show Try.f31.body=some k6s by kernel_rfl) (show Try.f31.ntmps=122 by kernel_rfl) (show Try.f31.results.toList=kak by kernel_rfl) rfl h (k11p o)
theorem k142 {p0:TStatement} {p1:TWitness} {r0:Bool} (h:
((decide (p0.Depth<1)=true→
 false=r0)∧
(decide (p0.Depth<1)=false→
(decide (12<p0.Depth)=true→
 false=r0)∧
(decide (12<p0.Depth)=false→
([p0.Anchor,p0.Account,p0.Bind,p1.Secret].length≤9223372036854775807)∧let r1:Bool:=(allB [p0.Anchor,p0.Account,p0.Bind,p1.Secret])
((!r1)=true→
 false=r0)∧
((!r1)=false→
(decide (4294967295<p0.Deposit)=true→
 false=r0)∧
(decide (4294967295<p0.Deposit)=false→
(decide (4294967295<p0.Withdraw)=true→
 false=r0)∧
(decide (4294967295<p0.Withdraw)=false→
(decide (4294967295<p0.Fee)=true→
 false=r0)∧
(decide (4294967295<p0.Fee)=false→
(p0.Marks.length≤9223372036854775807)∧((!(allB p0.Marks))=true→
 false=r0)∧
((!(allB p0.Marks))=false→
(p0.Commits.length≤9223372036854775807)∧((!(allB p0.Commits))=true→
 false=r0)∧
((!(allB p0.Commits))=false→
(p0.Rhos.length≤9223372036854775807)∧((!(allB p0.Rhos))=true→
 false=r0)∧
((!(allB p0.Rhos))=false→
 let v2:Bool:=((p1.Ins.length:Int) !=(p0.Marks.length:Int))
(v2=true→
 false=r0)∧
(v2=false→
(decide (4<(p1.Ins.length:Int))=true→
 false=r0)∧
(decide (4<(p1.Ins.length:Int))=false→
 let v3:Bool:=((p1.Outs.length:Int) !=(p0.Commits.length:Int))
(v3=true→
 false=r0)∧
(v3=false→
 let v4:Bool:=((p1.Outs.length:Int) !=(p0.Rhos.length:Int))
(v4=true→
 false=r0)∧
(v4=false→
(decide (4<(p1.Outs.length:Int))=true→
 false=r0)∧
(decide (4<(p1.Outs.length:Int))=false→
 Md.Loop (p1.Ins,((p1.Ins.length:Int):Int),(0:Int),p0.Depth,p0.Anchor,p0.Marks,p0.Commits,p0.Rhos,p0.Deposit,p0.Withdraw,p0.Fee,p0.Account,p0.Bind,p1.Ins,p1.Outs,p1.Secret,()) (k83 (r0,())))))))))))))))))):kd7 (p0.Depth,p0.Anchor,p0.Marks,p0.Commits,p0.Rhos,p0.Deposit,p0.Withdraw,p0.Fee,p0.Account,p0.Bind,p1.Ins,p1.Outs,p1.Secret,()) (r0,()):=WPh.of_eq (by kernel_rfl) h
def kof (r0:Bool) (k1:Int→Prop) (s93:List TSpent) (s94:Int) (h0_0:Int) (h0_1:Int) (h0_2:List Int) (h0_3:List Int) (h0_4:List Int) (h0_5:Int) (h0_6:Int) (h0_7:Int) (h0_8:Int) (h0_9:Int) (h1_0:List TSpent) (h1_1:List TNote) (h1_2:Int) (s95:Int):Prop:=
(decide (s95<s94)=true→
(0≤s95)∧s95<(s93.length:Int)∧((ix s93 s95).Path.length≤9223372036854775807)∧((!(spendV (ix s93 s95)))=true→
 false=r0)∧
((!(spendV (ix s93 s95)))=false→
 let v5:Bool:=((((ix s93 s95).Path).length:Int) !=h0_0)
(v5=true→
 false=r0)∧
(v5=false→
(0≤h0_0)∧let v6:Bool:=decide ((ishl .i64 1 h0_0)≤((ix s93 s95).Position))
(v6=true→
 false=r0)∧
(v6=false→
 k1 (IntKind.i64.wrap (s95+1):Int)))))∧
(decide (s95<s94)=false→
(h1_1.length≤9223372036854775807)∧(h1_1.all noteV)=r0)
theorem k11u {r0:Bool} {s93:List TSpent} {s94:Int} {h0_0:Int} {h0_1:Int} {h0_2:List Int} {h0_3:List Int} {h0_4:List Int} {h0_5:Int} {h0_6:Int} {h0_7:Int} {h0_8:Int} {h0_9:Int} {h1_0:List TSpent} {h1_1:List TNote} {h1_2:Int} {s95:Int} (inv:Int→Prop) (μ:Int→Nat) (h0:inv s95) (hs:∀(s95:Int),inv s95→kof r0 (fun s95q=>inv s95q∧μ s95q<μ s95) s93 s94 h0_0 h0_1 h0_2 h0_3 h0_4 h0_5 h0_6 h0_7 h0_8 h0_9 h1_0 h1_1 h1_2 s95):Md.Loop (s93,s94,s95,h0_0,h0_1,h0_2,h0_3,h0_4,h0_5,h0_6,h0_7,h0_8,h0_9,h1_0,h1_1,h1_2,()) (k83 (r0,())):=
 ⟨⟨fun s:(List TSpent)×Int×Int×Int×Int×(List Int)×(List Int)×(List Int)×Int×Int×Int×Int×Int×(List TSpent)×(List TNote)×Int×Unit=>(s.1=s93∧s.2.1=s94∧s.2.2.2.1=h0_0∧s.2.2.2.2.1=h0_1∧s.2.2.2.2.2.1=h0_2∧s.2.2.2.2.2.2.1=h0_3∧s.2.2.2.2.2.2.2.1=h0_4∧s.2.2.2.2.2.2.2.2.1=h0_5∧s.2.2.2.2.2.2.2.2.2.1=h0_6∧s.2.2.2.2.2.2.2.2.2.2.1=h0_7∧s.2.2.2.2.2.2.2.2.2.2.2.1=h0_8∧s.2.2.2.2.2.2.2.2.2.2.2.2.1=h0_9∧s.2.2.2.2.2.2.2.2.2.2.2.2.2.1=h1_0∧s.2.2.2.2.2.2.2.2.2.2.2.2.2.2.1=h1_1∧s.2.2.2.2.2.2.2.2.2.2.2.2.2.2.2.1=h1_2)∧inv s.2.2.1,fun s:(List TSpent)×Int×Int×Int×Int×(List Int)×(List Int)×(List Int)×Int×Int×Int×Int×Int×(List TSpent)×(List TNote)×Int×Unit=>μ s.2.2.1,⟨⟨rfl,rfl,rfl,rfl,rfl,rfl,rfl,rfl,rfl,rfl,rfl,rfl,rfl,rfl,rfl⟩,h0⟩,fun(s93p,s94p,s95p,h0_0p,h0_1p,h0_2p,h0_3p,h0_4p,h0_5p,h0_6p,h0_7p,h0_8p,h0_9p,h1_0p,h1_1p,h1_2p,()) ⟨⟨eq0,eq1,eq2,eq3,eq4,eq5,eq6,eq7,eq8,eq9,eq10,eq11,eq12,eq13,eq14⟩,hi⟩=>by
  have eq0:s93p=s93:=eq0;subst s93p;have eq1:s94p=s94:=eq1;subst s94p;have eq2:h0_0p=h0_0:=eq2;subst h0_0p;have eq3:h0_1p=h0_1:=eq3;subst h0_1p;have eq4:h0_2p=h0_2:=eq4;subst h0_2p;have eq5:h0_3p=h0_3:=eq5;subst h0_3p;have eq6:h0_4p=h0_4:=eq6;subst h0_4p;have eq7:h0_5p=h0_5:=eq7;subst h0_5p;have eq8:h0_6p=h0_6:=eq8;subst h0_6p;have eq9:h0_7p=h0_7:=eq9;subst h0_7p;have eq10:h0_8p=h0_8:=eq10;subst h0_8p;have eq11:h0_9p=h0_9:=eq11;subst h0_9p;have eq12:h1_0p=h1_0:=eq12;subst h1_0p;have eq13:h1_1p=h1_1:=eq13;subst h1_1p;have eq14:h1_2p=h1_2:=eq14;subst h1_2p;exact mpr_of (by kernel_rfl) ((congrArg (fun k=>kof r0 k s93 s94 h0_0 h0_1 h0_2 h0_3 h0_4 h0_5 h0_6 h0_7 h0_8 h0_9 h1_0 h1_1 h1_2 s95p) (lpk1 (⟨rfl,rfl,rfl,rfl,rfl,rfl,rfl,rfl,rfl,rfl,rfl,rfl,rfl,rfl,rfl⟩:s93=s93∧s94=s94∧h0_0=h0_0∧h0_1=h0_1∧h0_2=h0_2∧h0_3=h0_3∧h0_4=h0_4∧h0_5=h0_5∧h0_6=h0_6∧h0_7=h0_7∧h0_8=h0_8∧h0_9=h0_9∧h1_0=h1_0∧h1_1=h1_1∧h1_2=h1_2) inv (fun s95q=>μ s95q<μ s95p))).mpr (hs s95p hi))⟩⟩
theorem bd31:Callable Try.prog 31:=⟨by rw[Try.func31];kernel_rfl,by rw[Try.func31];show some _≠some _;decide⟩
theorem kzc (p0:TStatement) (p1:TWitness) (h:SR p0∧WR p1):kd7 (p0.Depth,p0.Anchor,p0.Marks,p0.Commits,p0.Rhos,p0.Deposit,p0.Withdraw,p0.Fee,p0.Account,p0.Bind,p1.Ins,p1.Outs,p1.Secret,()) (((relV p0 p1):Bool),()):=by
 obtain⟨hs,hw⟩:=h
 have l1:=hs.ml
 have l2:=hs.cl
 have l3:=hs.rl
 have l4:=hw.il
 have l5:=hw.ol
 have bad:∀b:Bool,(relV p0 p1=true→b=true)→b=false→false=relV p0 p1:=by
  intro b h hb
  cases hr:relV p0 p1 with
  |false=>rfl
  |true=>have:=h hr;rw[this]at hb;cases hb
 have hf:relV p0 p1=true↔(1≤p0.Depth∧p0.Depth≤12∧allB [p0.Anchor,p0.Account,p0.Bind,p1.Secret]=true∧p0.Deposit≤4294967295∧p0.Withdraw≤4294967295∧p0.Fee≤4294967295∧allB p0.Marks=true∧allB p0.Commits=true∧allB p0.Rhos=true∧p1.Ins.length=p0.Marks.length∧p1.Ins.length≤4∧p1.Outs.length=p0.Commits.length∧p1.Outs.length=p0.Rhos.length∧p1.Outs.length≤4∧p1.Ins.all (inV p0.Depth)=true∧p1.Outs.all noteV=true):=by
  unfold relV
  simp only[Bool.and_eq_true,decide_eq_true_eq,and_assoc]
 have no:¬(1≤p0.Depth∧p0.Depth≤12∧allB [p0.Anchor,p0.Account,p0.Bind,p1.Secret]=true∧p0.Deposit≤4294967295∧p0.Withdraw≤4294967295∧p0.Fee≤4294967295∧allB p0.Marks=true∧allB p0.Commits=true∧allB p0.Rhos=true∧p1.Ins.length=p0.Marks.length∧p1.Ins.length≤4∧p1.Outs.length=p0.Commits.length∧p1.Outs.length=p0.Rhos.length∧p1.Outs.length≤4∧p1.Ins.all (inV p0.Depth)=true∧p1.Outs.all noteV=true)→false=relV p0 p1:=by
  intro h
  cases hr:relV p0 p1 with
  |false=>rfl
  |true=>exact(h (hf.1 hr)).elim
 clear bad
 refine k142 ⟨fun h=>no fun a=> ?_,fun h1=>⟨fun h=>no fun a=> ?_,fun h2=>⟨by simp,fun h=>no fun a=> ?_,fun h3=>⟨fun h=>no fun a=> ?_,fun h4=>⟨fun h=>no fun a=> ?_,fun h5=>⟨fun h=>no fun a=> ?_,fun h6=>⟨by omega,fun h=>no fun a=> ?_,fun h7=>⟨by omega,fun h=>no fun a=> ?_,fun h8=>⟨by omega,fun h=>no fun a=> ?_,fun h9=>⟨fun h=>no fun a=> ?_,fun h10=>⟨fun h=>no fun a=> ?_,fun h11=>⟨fun h=>no fun a=> ?_,fun h12=>⟨fun h=>no fun a=> ?_,fun h13=>⟨fun h=>no fun a=> ?_,fun h14=> ?_⟩⟩⟩⟩⟩⟩⟩⟩⟩⟩⟩⟩⟩⟩
 ·have h:=of_decide_eq_true h;omega
 ·have h:=of_decide_eq_true h;omega
 ·rw[a.2.2.1]at h;cases h
 ·have h:=of_decide_eq_true h;omega
 ·have h:=of_decide_eq_true h;omega
 ·have h:=of_decide_eq_true h;omega
 ·rw[a.2.2.2.2.2.2.1]at h;cases h
 ·rw[a.2.2.2.2.2.2.2.1]at h;cases h
 ·rw[a.2.2.2.2.2.2.2.2.1]at h;cases h
 ·have h:¬(p1.Ins.length:Int)=p0.Marks.length:=by simpa using h
  omega
 ·have h:=of_decide_eq_true h;omega
 ·have h:¬(p1.Outs.length:Int)=p0.Commits.length:=by simpa using h
  omega
 ·have h:¬(p1.Outs.length:Int)=p0.Rhos.length:=by simpa using h
  omega
 ·have h:=of_decide_eq_true h;omega
 have h1:=of_decide_eq_false h1
 have h2:=of_decide_eq_false h2
 have h3:allB [p0.Anchor,p0.Account,p0.Bind,p1.Secret]=true:=by simpa using h3
 have h4:=of_decide_eq_false h4
 have h5:=of_decide_eq_false h5
 have h6:=of_decide_eq_false h6
 have h7:allB p0.Marks=true:=by simpa using h7
 have h8:allB p0.Commits=true:=by simpa using h8
 have h9:allB p0.Rhos=true:=by simpa using h9
 have h10:(p1.Ins.length:Int)=p0.Marks.length:=by simpa using h10
 have h11:=of_decide_eq_false h11
 have h12:(p1.Outs.length:Int)=p0.Commits.length:=by simpa using h12
 have h13:(p1.Outs.length:Int)=p0.Rhos.length:=by simpa using h13
 have h14:=of_decide_eq_false h14
 have hd:ishl .i64 1 p0.Depth=2^p0.Depth.toNat:=by
  have h0:0≤p0.Depth∧p0.Depth≤12:=by omega
  obtain⟨d,hd⟩:=Int.eq_ofNat_of_zero_le h0.1
  rw[hd]at h0 ⊢
  have h0:d≤12:=by omega
  have key:∀d:Nat,d≤12→ishl .i64 1 (d:Int)=2^d:=by decide +kernel
  exact key d h0
 refine k11u (AllI (inV p0.Depth) p1.Ins) (fun i=>(p1.Ins.length-i).toNat) AllI.start ?_
 intro i hi
 refine⟨fun hh=> ?_,fun hh=> ?_⟩
 ·have hh:=of_decide_eq_true hh
  have hx:=hw.i _ (ix_mem p1.Ins i hi.1 hh)
  have nb:inV p0.Depth (ix p1.Ins i)=false→false=relV p0 p1:=fun hb=>no fun a=>by
   rw[hi.bad hh hb]at a;exact absurd a.2.2.2.2.2.2.2.2.2.2.2.2.2.2.1 (by simp)
  refine⟨hi.1,hh,by have:=hx.pl;show(ix p1.Ins i).Path.length≤_;omega,fun e=>nb ?_,fun e=>⟨fun e2=>nb ?_,fun e2=>⟨by omega,fun e3=>nb ?_,fun e3=>hi.next hh (by omega) ?_⟩⟩⟩
  ·have e:spendV (ix p1.Ins i)=false:=by simpa using e
   simp[inV,e]
  ·have e2:¬((ix p1.Ins i).Path.length:Int)=p0.Depth:=by simpa using e2
   simp[inV,e2]
  ·have e3:=of_decide_eq_true e3
   rw[hd]at e3
   simp only[inV,Bool.and_eq_false_iff,decide_eq_false_iff_not]
   right;omega
  ·have e:spendV (ix p1.Ins i)=true:=by simpa using e
   have e2:((ix p1.Ins i).Path.length:Int)=p0.Depth:=by simpa using e2
   have e3:=of_decide_eq_false e3
   rw[hd]at e3
   simp only[inV,e,Bool.true_and,Bool.and_eq_true,decide_eq_true_eq]
   exact⟨e2,by omega⟩
 ·have ha:=hi.done (of_decide_eq_false hh)
  refine⟨by omega,?_⟩
  cases hn:p1.Outs.all noteV with
  |false=>exact no fun a=>by rw[hn]at a;exact absurd a.2.2.2.2.2.2.2.2.2.2.2.2.2.2.2 (by simp)
  |true=>exact(hf.2 ⟨by omega,by omega,h3,by omega,by omega,by omega,h7,h8,h9,by omega,by omega,by omega,by omega,by omega,ha,hn⟩).symm
noncomputable def ke3:Con TB.den:=k1k.fnR (fun x=>(fun(p0:TStatement) (p1:TWitness)=>SR p0∧WR p1) (TStatement.mk x.1 x.2.1 x.2.2.1 x.2.2.2.1 x.2.2.2.2.1 x.2.2.2.2.2.1 x.2.2.2.2.2.2.1 x.2.2.2.2.2.2.2.1 x.2.2.2.2.2.2.2.2.1 x.2.2.2.2.2.2.2.2.2.1) (TWitness.mk x.2.2.2.2.2.2.2.2.2.2.1 x.2.2.2.2.2.2.2.2.2.2.2.1 x.2.2.2.2.2.2.2.2.2.2.2.2.1)) fun x=>((fun(p0:TStatement) (p1:TWitness)=>((relV p0 p1):Bool)) (TStatement.mk x.1 x.2.1 x.2.2.1 x.2.2.2.1 x.2.2.2.2.1 x.2.2.2.2.2.1 x.2.2.2.2.2.2.1 x.2.2.2.2.2.2.2.1 x.2.2.2.2.2.2.2.2.1 x.2.2.2.2.2.2.2.2.2.1) (TWitness.mk x.2.2.2.2.2.2.2.2.2.2.1 x.2.2.2.2.2.2.2.2.2.2.2.1 x.2.2.2.2.2.2.2.2.2.2.2.2.1),())
theorem koh:ke3.Ok Try.prog TB:=Con.ok_fn k1k bd31 fun x h=>k104 (kzc (TStatement.mk x.1 x.2.1 x.2.2.1 x.2.2.2.1 x.2.2.2.2.1 x.2.2.2.2.2.1 x.2.2.2.2.2.2.1 x.2.2.2.2.2.2.2.1 x.2.2.2.2.2.2.2.2.1 x.2.2.2.2.2.2.2.2.2.1) (TWitness.mk x.2.2.2.2.2.2.2.2.2.2.1 x.2.2.2.2.2.2.2.2.2.2.2.1 x.2.2.2.2.2.2.2.2.2.2.2.2.1) h)
def k29:Con TB.den:=Con.mk0 101 [.one (.d (.int .u64)),.one (.d (.int .u64))] [] (.one (.one (.d (.int .u64)))) []
abbrev ksp:=HL TB.den (hsT k29.ins (hsOs k29.pre))
abbrev kdi:=HL TB.den (hsV k29.res (hsOs k29.post))
noncomputable def k98:Cx TB:=⟨inf,[k9t],[],4,[]⟩
noncomputable def ke5:Code:=Try.f101.body.getD .skip
noncomputable def khs:List ResultVar:=Try.f101.results.toList
noncomputable def kr8 (o:kdi):An TB:= .no
def ke4 (x:ksp) (o:kdi):Prop:=WPh TB k98 9 0 ke5 (kr8 o) (k29.st TB x) (retTQ TB k98 k29 khs o)
theorem k144 (o:kdi):OblH TB k98 9 0 ke5 (kr8 o) (retTQ TB k98 k29 khs o):=
 OblH.ofC (X:=True) (by kernel_rfl) trivial
theorem k14a {x:ksp} {o:kdi} (h:ke4 x o):k29.Snd Try.prog x o:=
 Con.soundH (c:=k29) (C:=k98) TBok ⟨inf_ok,(all_cons kfn all_nil),all_nil⟩ mix Try.func101 (show Try.f101.body=some ke5 by kernel_rfl) (show Try.f101.ntmps=9 by kernel_rfl) (show Try.f101.results.toList=khs by kernel_rfl) rfl h (k144 o)
theorem k181 {p0:Int} {p1:Int} {r0:Int} (h:
(((18446744069414584321:Int)=18446744069414584321∧U64 (6:Int)∧Us [p0,p1]∧[p0,p1].length≤1099511627776)∧(hashS (6:Int) [p0,p1])=r0)):ke4 (p0,p1,()) (r0,()):=WPh.of_eq (by kernel_rfl) h
theorem bd101:Callable Try.prog 101:=⟨by rw[Try.func101];kernel_rfl,by rw[Try.func101];show some _≠some _;decide⟩
theorem k119 (p0:Int) (p1:Int) (h:U64 p0∧U64 p1):ke4 (p0,p1,()) (((hashS 6 [p0,p1]):Int),()):=by
 refine k181 ⟨⟨rfl,by decide,?_,by simp⟩,rfl⟩
 intro x hx
 simp only[List.mem_cons,List.not_mem_nil,or_false]at hx
 rcases hx with rfl|rfl
 ·exact h.1
 ·exact h.2
noncomputable def kow:Con TB.den:=k29.fnR (fun x=>(fun(p0:Int) (p1:Int)=>U64 p0∧U64 p1) x.1 x.2.1) fun x=>((fun(p0:Int) (p1:Int)=>((hashS 6 [p0,p1]):Int)) x.1 x.2.1,())
theorem k174:kow.Ok Try.prog TB:=Con.ok_fn k29 bd101 fun x h=>k14a (k119 x.1 x.2.1 h)
def k1f:Con TB.den:=Con.mk0 73 [.one (.d (.int .u64)),.one (.d (.int .i64)),.one (.d (.sl (.int .u64)))] [] (.one (.one (.d (.int .u64)))) []
abbrev kqb:=HL TB.den (hsT k1f.ins (hsOs k1f.pre))
abbrev k1d:=HL TB.den (hsV k1f.res (hsOs k1f.post))
noncomputable def k1x:Cx TB:=⟨inf,[kow],[],4,[]⟩
noncomputable def k49:Code:=Try.f73.body.getD .skip
noncomputable def k7y:List ResultVar:=Try.f73.results.toList
def k14g (o:k1d):=qS TB k1x 60 0 (cB (cB (cB (cB (cB k49))))) .no (retTQ TB k1x k1f k7y o)
def k57:Tm:=⟨[],[],[1,9,40,41,42],[.one (.d (.int .i64)),.one (.d (.int .u64)),.one (.d (.sl (.int .u64))),.one (.d (.int .i64)),.one (.d (.int .i64))],0⟩
def k14c (o:k1d) (nx2:NX TB k57):=qM TB 0 k57 nx2 (blockT TB 2 (k14g o))
def k86 (o:k1d) (nx2:NX TB k57) (i:HL TB.den k57.hs):Prop:=WP TB k1x 60 0 (cA (cA (cB (cA (cB (cB (cB (cB k49)))))))) .no (k57.fill TB i) (k14c o nx2)
noncomputable def k14k (o:k1d):An TB:= .lp [] k57 (k86 o) fun nx2=> .no
noncomputable def koq (o:k1d):An TB:= .nd [] .no [] (.nd [] (.nd [] .no [] (k14k o)) [] .no)
def k13j (o:k1d):=qS TB k1x 60 0 (cB (cB (cB k49))) (koq o) (retTQ TB k1x k1f k7y o)
def k56:Tm:=⟨[],[],[0,1,2,30,31,32],[.one (.d (.int .u64)),.one (.d (.int .i64)),.one (.d (.sl (.int .u64))),.one (.d (.sl (.int .u64))),.one (.d (.int .i64)),.one (.d (.int .i64))],0⟩
def k14n (o:k1d) (nx1:NX TB k56):=qM TB 0 k56 nx1 (blockT TB 0 (k13j o))
def k7w (o:k1d) (nx1:NX TB k56) (i:HL TB.den k56.hs):Prop:=WP TB k1x 60 0 (cA (cA (cB (cA (cB (cB k49)))))) .no (k56.fill TB i) (k14n o nx1)
noncomputable def k10q (o:k1d):An TB:= .lp [] k56 (k7w o) fun nx1=> .no
noncomputable def k11o (o:k1d):An TB:= .nd [] (.nd [] .no [] (k10q o)) [] (koq o)
noncomputable def kot (o:k1d):An TB:= .nd [] .no [] (.nd [] .no [] (k11o o))
def kcx (x:kqb) (o:k1d):Prop:=WPh TB k1x 60 0 k49 (kot o) (k1f.st TB x) (retTQ TB k1x k1f k7y o)
theorem k125 (o:k1d):OblH TB k1x 60 0 k49 (kot o) (retTQ TB k1x k1f k7y o):=
 OblH.ofC (X:=((∀nx i,(k7w o) nx i=(k7w o) nx i)∧(∀nx1:NX TB k56,True)∧(∀nx i,(k86 o) nx i=(k86 o) nx i)∧(∀nx2:NX TB k57,True)∧True)) (by kernel_rfl) ⟨fun _ _=>rfl,fun _=>trivial,fun _ _=>rfl,fun _=>trivial,trivial⟩
theorem k10x {x:kqb} {o:k1d} (h:kcx x o):k1f.Snd Try.prog x o:=
 Con.soundH (c:=k1f) (C:=k1x) TBok ⟨inf_ok,(all_cons k174 all_nil),all_nil⟩ mix Try.func73 (show Try.f73.body=some k49 by kernel_rfl) (show Try.f73.ntmps=60 by kernel_rfl) (show Try.f73.results.toList=k7y by kernel_rfl) rfl h (k125 o)
theorem k13n {p0:Int} {p1:Int} {p2:List Int} {r0:Int} (h:
((decide (12<(p2.length:Int))=true→
 0=r0)∧
(decide (12<(p2.length:Int))=false→
(decide (p1<0)=true→
 0=r0)∧
(decide (p1<0)=false→
(0≤(p2.length:Int))∧let v1:Bool:=decide ((ishl .i64 1 (p2.length:Int))≤p1)
(v1=true→
 0=r0)∧
(v1=false→
(decide (18446744069414584321≤p0)=true→
 0=r0)∧
(decide (18446744069414584321≤p0)=false→
 Md.Loop (p0,p1,p2,p2,((p2.length:Int):Int),(0:Int),()) (k7w (r0,())))))))):kcx (p0,p1,p2,()) (r0,()):=WPh.of_eq (by kernel_rfl) h
def kob (r0:Int) (k1:Int→Prop) (s0:Int) (s1:Int) (s2:List Int) (s30:List Int) (s31:Int) (s32:Int):Prop:=
(decide (s32<s31)=true→
(0≤s32)∧s32<(s30.length:Int)∧let v2:Bool:=decide (18446744069414584321≤(ix s30 s32))
(v2=true→
 0=r0)∧
(v2=false→
 k1 (IntKind.i64.wrap (s32+1):Int)))∧
(decide (s32<s31)=false→
 Md.Loop (s1,s0,s2,((s2.length:Int):Int),(0:Int),()) (k86 (r0,())))
theorem k11b {r0:Int} {s0:Int} {s1:Int} {s2:List Int} {s30:List Int} {s31:Int} {s32:Int} (inv:Int→Prop) (μ:Int→Nat) (h0:inv s32) (hs:∀(s32:Int),inv s32→kob r0 (fun s32q=>inv s32q∧μ s32q<μ s32) s0 s1 s2 s30 s31 s32):Md.Loop (s0,s1,s2,s30,s31,s32,()) (k7w (r0,())):=
 ⟨⟨fun s:Int×Int×(List Int)×(List Int)×Int×Int×Unit=>(s.1=s0∧s.2.1=s1∧s.2.2.1=s2∧s.2.2.2.1=s30∧s.2.2.2.2.1=s31)∧inv s.2.2.2.2.2.1,fun s:Int×Int×(List Int)×(List Int)×Int×Int×Unit=>μ s.2.2.2.2.2.1,⟨⟨rfl,rfl,rfl,rfl,rfl⟩,h0⟩,fun(s0p,s1p,s2p,s30p,s31p,s32p,()) ⟨⟨eq0,eq1,eq2,eq3,eq4⟩,hi⟩=>by
  have eq0:s0p=s0:=eq0;subst s0p;have eq1:s1p=s1:=eq1;subst s1p;have eq2:s2p=s2:=eq2;subst s2p;have eq3:s30p=s30:=eq3;subst s30p;have eq4:s31p=s31:=eq4;subst s31p;exact mpr_of (by kernel_rfl) ((congrArg (fun k=>kob r0 k s0 s1 s2 s30 s31 s32p) (lpk1 (⟨rfl,rfl,rfl,rfl,rfl⟩:s0=s0∧s1=s1∧s2=s2∧s30=s30∧s31=s31) inv (fun s32q=>μ s32q<μ s32p))).mpr (hs s32p hi))⟩⟩
def koo (r0:Int) (k2:Int→Int→Prop) (s1:Int) (s40:List Int) (s41:Int) (s9:Int) (s42:Int):Prop:=
(decide (s42<s41)=true→
(0≤s42)∧s42<(s40.length:Int)∧(0≤s42)∧(((iand .i64 (ishr .i64 s1 s42) 1)==0)=true→
(U64 s9∧U64 (ix s40 s42))∧k2 ((hashS 6 [s9,(ix s40 s42)]):Int) (IntKind.i64.wrap (s42+1):Int))∧
(((iand .i64 (ishr .i64 s1 s42) 1)==0)=false→
(U64 (ix s40 s42)∧U64 s9)∧k2 ((hashS 6 [(ix s40 s42),s9]):Int) (IntKind.i64.wrap (s42+1):Int)))∧
(decide (s42<s41)=false→
 s9=r0)
theorem k12y {r0:Int} {s1:Int} {s40:List Int} {s41:Int} {s9:Int} {s42:Int} (inv:Int→Int→Prop) (μ:Int→Int→Nat) (h0:inv s9 s42) (hs:∀(s9:Int) (s42:Int),inv s9 s42→koo r0 (fun s9q s42q=>inv s9q s42q∧μ s9q s42q<μ s9 s42) s1 s40 s41 s9 s42):Md.Loop (s1,s9,s40,s41,s42,()) (k86 (r0,())):=
 ⟨⟨fun s:Int×Int×(List Int)×Int×Int×Unit=>(s.1=s1∧s.2.2.1=s40∧s.2.2.2.1=s41)∧inv s.2.1 s.2.2.2.2.1,fun s:Int×Int×(List Int)×Int×Int×Unit=>μ s.2.1 s.2.2.2.2.1,⟨⟨rfl,rfl,rfl⟩,h0⟩,fun(s1p,s9p,s40p,s41p,s42p,()) ⟨⟨eq0,eq1,eq2⟩,hi⟩=>by
  have eq0:s1p=s1:=eq0;subst s1p;have eq1:s40p=s40:=eq1;subst s40p;have eq2:s41p=s41:=eq2;subst s41p;exact mpr_of (by kernel_rfl) ((congrArg (fun k=>koo r0 k s1 s40 s41 s9p s42p) (lpk2 (⟨rfl,rfl,rfl⟩:s1=s1∧s40=s40∧s41=s41) inv (fun s9q s42q=>μ s9q s42q<μ s9p s42p))).mpr (hs s9p s42p hi))⟩⟩
theorem bd73:Callable Try.prog 73:=⟨by rw[Try.func73];kernel_rfl,by rw[Try.func73];show some _≠some _;decide⟩
theorem k103 (p0:Int) (p1:Int) (p2:List Int) (h:U64 p0∧Us p2∧p2.length≤1073741824∧p1≤9223372036854775807):kcx (p0,p1,p2,()) (((climbS p0 p1 p2):Int),()):=by
 obtain⟨h0,h2,h3,h4⟩:=h
 have sh:∀d:Nat,d≤12→ishl .i64 1 (d:Int)=2^d:=by decide +kernel
 refine k13n ⟨fun e=> ?_,fun e=>⟨fun e2=> ?_,fun e2=>⟨by omega,fun e3=> ?_,fun e3=>⟨fun e4=> ?_,fun e4=> ?_⟩⟩⟩⟩
 ·have e:=of_decide_eq_true e
  unfold climbS
  rw[if_neg (by omega)]
 ·have e2:=of_decide_eq_true e2
  unfold climbS
  rw[if_neg (by omega)]
 ·have e:=of_decide_eq_false e
  have e3:=of_decide_eq_true e3
  rw[sh _ (by omega)]at e3
  unfold climbS
  rw[if_neg (fun a=>by have:=a.2.2.1;omega)]
 ·have e4:=of_decide_eq_true e4
  unfold climbS
  rw[if_neg (by omega)]
 have e:=of_decide_eq_false e
 have e2:=of_decide_eq_false e2
 have e3:=of_decide_eq_false e3
 have e4:=of_decide_eq_false e4
 rw[sh _ (by omega)]at e3
 refine k11b (AllI (fun x=>decide (x<18446744069414584321)) p2) (fun i=>(p2.length-i).toNat) AllI.start ?_
 intro i hi
 refine⟨fun hh=> ?_,fun hh=> ?_⟩
 ·have hh:=of_decide_eq_true hh
  refine⟨hi.1,hh,fun e5=> ?_,fun e5=>hi.next hh (by omega) (by simpa using e5)⟩
  have hb:allB p2=false:=hi.bad hh (by simpa using e5)
  unfold climbS
  rw[if_neg (fun a=>by rw[hb]at a;exact absurd a.2.2.2.2 (by simp))]
 ·have ha:allB p2=true:=hi.done (of_decide_eq_false hh)
  have hc:climbS p0 p1 p2=climbL p0 p1 p2:=by
   unfold climbS
   rw[if_pos ⟨by omega,by omega,by omega,by omega,ha⟩]
  rw[hc]
  have hpos:p1<4096:=by
   have h1:(2:Int)^p2.length≤2^12:=by exact_mod_cast Nat.pow_le_pow_right (by omega) (by omega)
   omega
  refine k12y (fun d i=>0≤i∧i≤p2.length∧U64 d∧climbL d (p1/2^i.toNat) (p2.drop i.toNat)=climbL p0 p1 p2) (fun d i=>(p2.length-i).toNat) ⟨by omega,by omega,h0,by simp⟩ ?_
  rintro d i ⟨g0,g1,g2,g3⟩
  refine⟨fun hh=> ?_,fun hh=> ?_⟩
  ·have hh:=of_decide_eq_true hh
   have hx:=h2 _ (ix_mem p2 i g0 hh)
   rw[drop_ix p2 i g0 hh]at g3
   have nx:=inc i p2.length g0 hh (by omega)
   have hq:p1/2^i.toNat/2=p1/2^(i+1).toNat:=by
    rw[show(i+1).toNat=i.toNat+1 by omega,Int.pow_succ,Int.ediv_ediv_of_nonneg (Int.le_of_lt (Int.pow_pos (by omega)))]
   have hbit:iand .i64 (ishr .i64 p1 i) 1=p1/2^i.toNat%2:=by
    have hs:ishr .i64 p1 i=p1/2^i.toNat:=by
     rw[kew,show min i.toNat IntKind.i64.bits=i.toNat from Nat.min_eq_left (by show i.toNat≤64;omega)]
     simp
    rw[hs]
    have hb0:0≤p1/2^i.toNat:=Int.ediv_nonneg (by omega) (Int.le_of_lt (Int.pow_pos (by omega)))
    have hb1:p1/2^i.toNat≤p1:=Int.ediv_le_self _ (by omega)
    exact k1in _ ⟨hb0,by omega⟩
   rw[hbit]
   have g3:climbL (if p1/2^i.toNat%2=0 then hashS 6 [d,ix p2 i]else hashS 6 [ix p2 i,d]) (p1/2^i.toNat/2) (p2.drop (i+1).toNat)=climbL p0 p1 p2:=g3
   rw[hq]at g3
   refine⟨g0,hh,g0,fun hb=> ?_,fun hb=> ?_⟩
   ·have hb:p1/2^i.toNat%2=0:=by simpa using hb
    rw[if_pos hb]at g3
    rw[nx]
    exact⟨⟨g2,hx⟩,⟨by omega,by omega,k9w _ _,g3⟩,by omega⟩
   ·have hb:¬p1/2^i.toNat%2=0:=by simpa using hb
    rw[if_neg hb]at g3
    rw[nx]
    exact⟨⟨hx,g2⟩,⟨by omega,by omega,k9w _ _,g3⟩,by omega⟩
  ·have hh:=of_decide_eq_false hh
   rw[List.drop_eq_nil_of_le (by omega)]at g3
   exact g3
noncomputable def kmy:Con TB.den:=k1f.fnR (fun x=>(fun(p0:Int) (p1:Int) (p2:List Int)=>U64 p0∧Us p2∧p2.length≤1073741824∧p1≤9223372036854775807) x.1 x.2.1 x.2.2.1) fun x=>((fun(p0:Int) (p1:Int) (p2:List Int)=>((climbS p0 p1 p2):Int)) x.1 x.2.1 x.2.2.1,())
theorem k13m:kmy.Ok Try.prog TB:=Con.ok_fn k1f bd73 fun x h=>k10x (k103 x.1 x.2.1 x.2.2.1 h)
def k2a:Con TB.den:=Con.mk0 100 [.one (.d (.int .i64))] [] (.one (.one (.d (.bool)))) []
abbrev ksc:=HL TB.den (hsT k2a.ins (hsOs k2a.pre))
abbrev kdd:=HL TB.den (hsV k2a.res (hsOs k2a.post))
noncomputable def k8p:Cx TB:=⟨inf,[],[],4,[]⟩
noncomputable def kdx:Code:=Try.f100.body.getD .skip
noncomputable def khg:List ResultVar:=Try.f100.results.toList
noncomputable def krd (o:kdd):An TB:= .no
def kdu (x:ksc) (o:kdd):Prop:=WPh TB k8p 9 0 kdx (krd o) (k2a.st TB x) (retTQ TB k8p k2a khg o)
theorem k14q (o:kdd):OblH TB k8p 9 0 kdx (krd o) (retTQ TB k8p k2a khg o):=
 OblH.ofC (X:=True) (by kernel_rfl) trivial
theorem k13z {x:ksc} {o:kdd} (h:kdu x o):k2a.Snd Try.prog x o:=
 Con.soundH (c:=k2a) (C:=k8p) TBok ⟨inf_ok,all_nil,all_nil⟩ mix Try.func100 (show Try.f100.body=some kdx by kernel_rfl) (show Try.f100.ntmps=9 by kernel_rfl) (show Try.f100.results.toList=khg by kernel_rfl) rfl h (k14q o)
theorem k177 {p0:Int} {r0:Bool} (h:
((decide (0≤p0)=true→
 decide (p0<4)=r0)∧
(decide (0≤p0)=false→
 false=r0))):kdu (p0,()) (r0,()):=WPh.of_eq (by kernel_rfl) h
theorem bd100:Callable Try.prog 100:=⟨by rw[Try.func100];kernel_rfl,by rw[Try.func100];show some _≠some _;decide⟩
theorem k115 (p0:Int):kdu (p0,()) (((decide (0≤p0)&&decide (p0<4)):Bool),()):=by
 refine k177 ?_
 grind
noncomputable def kp0:Con TB.den:=k2a.totR fun x=>((fun(p0:Int)=>((decide (0≤p0)&&decide (p0<4)):Bool)) x.1,())
theorem k17q:kp0.Ok Try.prog TB:=Con.ok_tot k2a bd100 fun x=>k13z (k115 x.1)
def k3k:Con TB.den:=Con.mk0 71 [.one (.d (.int .u64)),.one (.d (.int .i64))] [] (.one (.one (.d (.int .u64)))) []
abbrev k11q:=HL TB.den (hsT k3k.ins (hsOs k3k.pre))
abbrev kji:=HL TB.den (hsV k3k.res (hsOs k3k.post))
noncomputable def kcc:Cx TB:=⟨inf,[kp0,ko6],[],4,[]⟩
noncomputable def kjo:Code:=Try.f71.body.getD .skip
noncomputable def ko5:List ResultVar:=Try.f71.results.toList
noncomputable def kxt (o:kji):An TB:= .no
def kj8 (x:k11q) (o:kji):Prop:=WPh TB kcc 13 0 kjo (kxt o) (k3k.st TB x) (retTQ TB kcc k3k ko5 o)
theorem k1bb (o:kji):OblH TB kcc 13 0 kjo (kxt o) (retTQ TB kcc k3k ko5 o):=
 OblH.ofC (X:=True) (by kernel_rfl) trivial
theorem k1b8 {x:k11q} {o:kji} (h:kj8 x o):k3k.Snd Try.prog x o:=
 Con.soundH (c:=k3k) (C:=kcc) TBok ⟨inf_ok,(all_cons k17q (all_cons k12t all_nil)),all_nil⟩ mix Try.func71 (show Try.f71.body=some kjo by kernel_rfl) (show Try.f71.ntmps=13 by kernel_rfl) (show Try.f71.results.toList=ko5 by kernel_rfl) rfl h (k1bb o)
theorem k1ex {p0:Int} {p1:Int} {r0:Int} (h:
(((!(decide (0≤p1)&&decide (p1<4)))=true→
 0=r0)∧
((!(decide (0≤p1)&&decide (p1<4)))=false→
(U64 (1:Int)∧Us [p0,IntKind.u64.wrap p1]∧[p0,IntKind.u64.wrap p1].length≤1099511627776)∧let r1:Int:=(hashS (1:Int) [p0,IntKind.u64.wrap p1])
 r1=r0))):kj8 (p0,p1,()) (r0,()):=WPh.of_eq (by kernel_rfl) h
theorem bd71:Callable Try.prog 71:=⟨by rw[Try.func71];kernel_rfl,by rw[Try.func71];show some _≠some _;decide⟩
theorem k193 (p0:Int) (p1:Int) (h:U64 p0∧-9223372036854775808≤p1∧p1≤9223372036854775807):kj8 (p0,p1,()) (((ownerS p0 p1):Int),()):=by
 obtain⟨h0,h1,h2⟩:=h
 refine k1ex ⟨fun e=> ?_,fun e=> ?_⟩
 ·unfold ownerS
  rw[if_neg (by simp at e;omega)]
 ·have e:0≤p1∧p1<4:=by simpa using e
  rw[wu p1 (by omega) (by omega)]
  refine⟨⟨by decide,?_,by simp⟩,?_⟩
  ·intro x hx
   simp only[List.mem_cons,List.not_mem_nil,or_false]at hx
   rcases hx with rfl|rfl
   ·exact h0
   ·omega
  ·unfold ownerS
   rw[if_pos e]
noncomputable def kug:Con TB.den:=k3k.fnR (fun x=>(fun(p0:Int) (p1:Int)=>U64 p0∧-9223372036854775808≤p1∧p1≤9223372036854775807) x.1 x.2.1) fun x=>((fun(p0:Int) (p1:Int)=>((ownerS p0 p1):Int)) x.1 x.2.1,())
theorem k1ec:kug.Ok Try.prog TB:=Con.ok_fn k3k bd71 fun x h=>k1b8 (k193 x.1 x.2.1 h)
def k1t:Con TB.den:=Con.mk0 72 [.one (.ptr 0 0),.one (.d (.int .u64)),.one (.d (.int .u64))] [.cells [.d (.bool),.d (.int .u64),.d (.int .i64),.own 1,.mp 2,.mp 3,.mp 4],.tip (.st 3),.map (.str) (.int .i64),.map (.str) (.sl (.int .u64)),.map (.str) (.bool)] (.tup [.one (.d (.int .u64)),.one (.d (.bool))]) [.cells [.d (.bool),.d (.int .u64),.d (.int .i64),.own 1,.mp 2,.mp 3,.mp 4],.tip (.st 3),.map (.str) (.int .i64),.map (.str) (.sl (.int .u64)),.map (.str) (.bool)]
abbrev ksn:=HL TB.den (hsT k1t.ins (hsOs k1t.pre))
abbrev k5a:=HL TB.den (hsV k1t.res (hsOs k1t.post))
noncomputable def k4u:Cx TB:=⟨inf,[kg3],[],4,[]⟩
noncomputable def k77:Code:=Try.f72.body.getD .skip
noncomputable def kc0:List ResultVar:=Try.f72.results.toList
def k17s (o:k5a):=qS TB k4u 21 5 (cB (cB k77)) .no (retTQ TB k4u k1t kc0 o)
def kah:Tm:=⟨[0,1,2,3,4],[.cells [.d (.bool),.d (.int .u64),.d (.int .i64),.own 1,.mp 2,.mp 3,.mp 4],.tip (.st 3),.map (.str) (.int .i64),.map (.str) (.sl (.int .u64)),.map (.str) (.bool)],[0,1,2,13],[.one (.ptr 0 0),.one (.d (.int .u64)),.one (.d (.int .u64)),.one (.d (.bool))],5⟩
def kod (o:k5a) (i:HL TB.den kah.hs):Prop:=ghs TB [] (kah.fill TB i) fun s=>WP TB k4u 21 5 (cB (cA (cB k77))) .no s (k17s o)
structure k71 (o:k5a) (i:HL TB.den kah.hs):Prop where
 h:kod o i
noncomputable def k176 (o:k5a):An TB:= .nd [] (.jn kah (k71 o) [] .no [] .no) [] .no
noncomputable def kqi (o:k5a):An TB:= .nd [] .no [] (k176 o)
def kei (x:ksn) (o:k5a):Prop:=WPh TB k4u 21 5 k77 (kqi o) (k1t.st TB x) (retTQ TB k4u k1t kc0 o)
theorem k14b (o:k5a):OblH TB k4u 21 5 k77 (kqi o) (retTQ TB k4u k1t kc0 o):=
 OblH.ofC (X:=((∀i,(k71 o) i=kod o i)∧True)) (by kernel_rfl) ⟨fun _=>propext ⟨fun h=>h.1,fun h=>⟨h⟩⟩,trivial⟩
theorem k14d {x:ksn} {o:k5a} (h:kei x o):k1t.Snd Try.prog x o:=
 Con.soundH (c:=k1t) (C:=k4u) TBok ⟨inf_ok,(all_cons kq4 all_nil),all_nil⟩ mix Try.func72 (show Try.f72.body=some k77 by kernel_rfl) (show Try.f72.ntmps=21 by kernel_rfl) (show Try.f72.results.toList=kc0 by kernel_rfl) rfl h (k14b o)
theorem k17w {p1:Int} {p2:Int} {c0_0:Bool} {c0_1:Int} {c0_2:Int} {w1:List TQuestion} {w2k:List ByteArray} {w2v:List Int} {w3k:List ByteArray} {w3v:List (List Int)} {w4k:List ByteArray} {w4v:List Bool} {r0:Int} {r1:Bool} {d0_0:Bool} {d0_1:Int} {d0_2:Int} {e1:List TQuestion} {e2k:List ByteArray} {e2v:List Int} {e3k:List ByteArray} {e3v:List (List Int)} {e4k:List ByteArray} {e4v:List Bool} (h:
((decide (18446744069414584321≤p1)=true→
(w1=w1)∧k71 (r0,r1,d0_0,d0_1,d0_2,e1,e2k,e2v,e3k,e3v,e4k,e4v,()) (p1,p2,true,c0_0,c0_1,c0_2,w1,w2k,w2v,w3k,w3v,w4k,w4v,()))∧
(decide (18446744069414584321≤p1)=false→
(w1=w1)∧k71 (r0,r1,d0_0,d0_1,d0_2,e1,e2k,e2v,e3k,e3v,e4k,e4v,()) (p1,p2,(decide (18446744069414584321≤p2):Bool),c0_0,c0_1,c0_2,w1,w2k,w2v,w3k,w3v,w4k,w4v,())))):kei (p1,p2,c0_0,c0_1,c0_2,w1,w2k,w2v,w3k,w3v,w4k,w4v,()) (r0,r1,d0_0,d0_1,d0_2,e1,e2k,e2v,e3k,e3v,e4k,e4v,()):=WPh.of_eq (by kernel_rfl) h
theorem k100 {r0:Int} {r1:Bool} {d0_0:Bool} {d0_1:Int} {d0_2:Int} {e1:List TQuestion} {e2k:List ByteArray} {e2v:List Int} {e3k:List ByteArray} {e3v:List (List Int)} {e4k:List ByteArray} {e4v:List Bool} {s1:Int} {s2:Int} {s13:Bool} {h0_0:Bool} {h0_1:Int} {h0_2:Int} {g1:List TQuestion} {g2k:List ByteArray} {g2v:List Int} {g3k:List ByteArray} {g3v:List (List Int)} {g4k:List ByteArray} {g4v:List Bool} (h:
((s13=true→
(g1=g1)∧0=r0∧false=r1∧h0_0=d0_0∧h0_1=d0_1∧h0_2=d0_2∧g1=e1∧g2k=e2k∧g2v=e2v∧g3k=e3k∧g3v=e3v∧g4k=e4k∧g4v=e4v)∧
(s13=false→
(g1=g1)∧(U64 (3:Int)∧(Us [s1,s2]∧[s1,s2].length≤1000000000)∧OOk (OS.mk h0_0 h0_1 h0_2 g1 g2k g2v g3k g3v g4k g4v))∧let r2:Int:=((pk h0_0 g1 g2k g2v (3:Int) [s1,s2]).getD 0)
 let r3:Bool:=((pk h0_0 g1 g2k g2v (3:Int) [s1,s2]).isSome)
 let r4:Bool:=((OS.mk h0_0 h0_1 h0_2 g1 g2k g2v g3k g3v g4k g4v).a)
 let r5:Int:=((OS.mk h0_0 h0_1 h0_2 g1 g2k g2v g3k g3v g4k g4v).b)
 let r6:Int:=((OS.mk h0_0 h0_1 h0_2 g1 g2k g2v g3k g3v g4k g4v).c)
 let r7:List TQuestion:=((OS.mk h0_0 h0_1 h0_2 g1 g2k g2v g3k g3v g4k g4v).q)
 let r8:List ByteArray:=((OS.mk h0_0 h0_1 h0_2 g1 g2k g2v g3k g3v g4k g4v).k)
 let r9:List Int:=((OS.mk h0_0 h0_1 h0_2 g1 g2k g2v g3k g3v g4k g4v).v)
 let r10:List ByteArray:=((OS.mk h0_0 h0_1 h0_2 g1 g2k g2v g3k g3v g4k g4v).s)
 let r11:List (List Int):=((OS.mk h0_0 h0_1 h0_2 g1 g2k g2v g3k g3v g4k g4v).t)
 let r12:List ByteArray:=((OS.mk h0_0 h0_1 h0_2 g1 g2k g2v g3k g3v g4k g4v).x)
 let r13:List Bool:=((OS.mk h0_0 h0_1 h0_2 g1 g2k g2v g3k g3v g4k g4v).y)
(r7=r7)∧r2=r0∧r3=r1∧r4=d0_0∧r5=d0_1∧r6=d0_2∧r7=e1∧r8=e2k∧r9=e2v∧r10=e3k∧r11=e3v∧r12=e4k∧r13=e4v))):k71 (r0,r1,d0_0,d0_1,d0_2,e1,e2k,e2v,e3k,e3v,e4k,e4v,()) (s1,s2,s13,h0_0,h0_1,h0_2,g1,g2k,g2v,g3k,g3v,g4k,g4v,()):=⟨mpr_of (by kernel_rfl) h⟩
theorem bd72:Callable Try.prog 72:=⟨by rw[Try.func72];kernel_rfl,by rw[Try.func72];show some _≠some _;decide⟩
theorem k11x (p1:Int) (p2:Int) (c0_0:Bool) (c0_1:Int) (c0_2:Int) (w1:List TQuestion) (w2k:List ByteArray) (w2v:List Int) (w3k:List ByteArray) (w3v:List (List Int)) (w4k:List ByteArray) (w4v:List Bool) (h:U64 p1∧U64 p2∧OOk (OS.mk c0_0 c0_1 c0_2 w1 w2k w2v w3k w3v w4k w4v)):kei (p1,p2,c0_0,c0_1,c0_2,w1,w2k,w2v,w3k,w3v,w4k,w4v,()) ((((markP (pk c0_0 w1 w2k w2v) p1 p2).getD 0):Int),(((markP (pk c0_0 w1 w2k w2v) p1 p2).isSome):Bool),(((OS.mk c0_0 c0_1 c0_2 w1 w2k w2v w3k w3v w4k w4v).a):Bool),(((OS.mk c0_0 c0_1 c0_2 w1 w2k w2v w3k w3v w4k w4v).b):Int),(((OS.mk c0_0 c0_1 c0_2 w1 w2k w2v w3k w3v w4k w4v).c):Int),(((OS.mk c0_0 c0_1 c0_2 w1 w2k w2v w3k w3v w4k w4v).q):List TQuestion),(((OS.mk c0_0 c0_1 c0_2 w1 w2k w2v w3k w3v w4k w4v).k):List ByteArray),(((OS.mk c0_0 c0_1 c0_2 w1 w2k w2v w3k w3v w4k w4v).v):List Int),(((OS.mk c0_0 c0_1 c0_2 w1 w2k w2v w3k w3v w4k w4v).s):List ByteArray),(((OS.mk c0_0 c0_1 c0_2 w1 w2k w2v w3k w3v w4k w4v).t):List (List Int)),(((OS.mk c0_0 c0_1 c0_2 w1 w2k w2v w3k w3v w4k w4v).x):List ByteArray),(((OS.mk c0_0 c0_1 c0_2 w1 w2k w2v w3k w3v w4k w4v).y):List Bool),()):=by
 obtain⟨h1,h2,ho⟩:=h
 have j1:∀s:Bool,s=decide (¬(p1<18446744069414584321∧p2<18446744069414584321))→k71 (((markP (pk c0_0 w1 w2k w2v) p1 p2).getD 0:Int),((markP (pk c0_0 w1 w2k w2v) p1 p2).isSome:Bool),c0_0,c0_1,c0_2,w1,w2k,w2v,w3k,w3v,w4k,w4v,()) (p1,p2,s,c0_0,c0_1,c0_2,w1,w2k,w2v,w3k,w3v,w4k,w4v,()):=by
  intro s hs
  refine k100 ⟨fun e=> ?_,fun e=> ?_⟩
  ·rw[e]at hs
   have hs:=of_decide_eq_true hs.symm
   unfold markP
   rw[if_neg hs]
   simp
  ·rw[e]at hs
   have hs:p1<18446744069414584321∧p2<18446744069414584321:=by simpa using hs.symm
   unfold markP
   rw[if_pos hs]
   refine⟨rfl,⟨by decide,⟨?_,by simp⟩,ho⟩,?_⟩
   ·intro x hx
    simp only[List.mem_cons,List.not_mem_nil,or_false]at hx
    rcases hx with rfl|rfl
    ·exact h1
    ·exact h2
   ·simp
 refine k17w ⟨fun e=>⟨rfl,j1 _ ?_⟩,fun e=>⟨rfl,j1 _ ?_⟩⟩
 ·have e:=of_decide_eq_true e
  symm;apply decide_eq_true;omega
 ·have e:=of_decide_eq_false e
  congr 1;apply propext;omega
noncomputable def koi:Con TB.den:=k1t.fnR (fun x=>(fun(p1:Int) (p2:Int) (c0_0:Bool) (c0_1:Int) (c0_2:Int) (w1:List TQuestion) (w2k:List ByteArray) (w2v:List Int) (w3k:List ByteArray) (w3v:List (List Int)) (w4k:List ByteArray) (w4v:List Bool)=>U64 p1∧U64 p2∧OOk (OS.mk c0_0 c0_1 c0_2 w1 w2k w2v w3k w3v w4k w4v)) x.1 x.2.1 x.2.2.1 x.2.2.2.1 x.2.2.2.2.1 x.2.2.2.2.2.1 x.2.2.2.2.2.2.1 x.2.2.2.2.2.2.2.1 x.2.2.2.2.2.2.2.2.1 x.2.2.2.2.2.2.2.2.2.1 x.2.2.2.2.2.2.2.2.2.2.1 x.2.2.2.2.2.2.2.2.2.2.2.1) fun x=>((fun(p1:Int) (p2:Int) (c0_0:Bool) (c0_1:Int) (c0_2:Int) (w1:List TQuestion) (w2k:List ByteArray) (w2v:List Int) (w3k:List ByteArray) (w3v:List (List Int)) (w4k:List ByteArray) (w4v:List Bool)=>(((markP (pk c0_0 w1 w2k w2v) p1 p2).getD 0):Int)) x.1 x.2.1 x.2.2.1 x.2.2.2.1 x.2.2.2.2.1 x.2.2.2.2.2.1 x.2.2.2.2.2.2.1 x.2.2.2.2.2.2.2.1 x.2.2.2.2.2.2.2.2.1 x.2.2.2.2.2.2.2.2.2.1 x.2.2.2.2.2.2.2.2.2.2.1 x.2.2.2.2.2.2.2.2.2.2.2.1,(fun(p1:Int) (p2:Int) (c0_0:Bool) (c0_1:Int) (c0_2:Int) (w1:List TQuestion) (w2k:List ByteArray) (w2v:List Int) (w3k:List ByteArray) (w3v:List (List Int)) (w4k:List ByteArray) (w4v:List Bool)=>(((markP (pk c0_0 w1 w2k w2v) p1 p2).isSome):Bool)) x.1 x.2.1 x.2.2.1 x.2.2.2.1 x.2.2.2.2.1 x.2.2.2.2.2.1 x.2.2.2.2.2.2.1 x.2.2.2.2.2.2.2.1 x.2.2.2.2.2.2.2.2.1 x.2.2.2.2.2.2.2.2.2.1 x.2.2.2.2.2.2.2.2.2.2.1 x.2.2.2.2.2.2.2.2.2.2.2.1,(fun(p1:Int) (p2:Int) (c0_0:Bool) (c0_1:Int) (c0_2:Int) (w1:List TQuestion) (w2k:List ByteArray) (w2v:List Int) (w3k:List ByteArray) (w3v:List (List Int)) (w4k:List ByteArray) (w4v:List Bool)=>(((OS.mk c0_0 c0_1 c0_2 w1 w2k w2v w3k w3v w4k w4v).a):Bool)) x.1 x.2.1 x.2.2.1 x.2.2.2.1 x.2.2.2.2.1 x.2.2.2.2.2.1 x.2.2.2.2.2.2.1 x.2.2.2.2.2.2.2.1 x.2.2.2.2.2.2.2.2.1 x.2.2.2.2.2.2.2.2.2.1 x.2.2.2.2.2.2.2.2.2.2.1 x.2.2.2.2.2.2.2.2.2.2.2.1,(fun(p1:Int) (p2:Int) (c0_0:Bool) (c0_1:Int) (c0_2:Int) (w1:List TQuestion) (w2k:List ByteArray) (w2v:List Int) (w3k:List ByteArray) (w3v:List (List Int)) (w4k:List ByteArray) (w4v:List Bool)=>(((OS.mk c0_0 c0_1 c0_2 w1 w2k w2v w3k w3v w4k w4v).b):Int)) x.1 x.2.1 x.2.2.1 x.2.2.2.1 x.2.2.2.2.1 x.2.2.2.2.2.1 x.2.2.2.2.2.2.1 x.2.2.2.2.2.2.2.1 x.2.2.2.2.2.2.2.2.1 x.2.2.2.2.2.2.2.2.2.1 x.2.2.2.2.2.2.2.2.2.2.1 x.2.2.2.2.2.2.2.2.2.2.2.1,(fun(p1:Int) (p2:Int) (c0_0:Bool) (c0_1:Int) (c0_2:Int) (w1:List TQuestion) (w2k:List ByteArray) (w2v:List Int) (w3k:List ByteArray) (w3v:List (List Int)) (w4k:List ByteArray) (w4v:List Bool)=>(((OS.mk c0_0 c0_1 c0_2 w1 w2k w2v w3k w3v w4k w4v).c):Int)) x.1 x.2.1 x.2.2.1 x.2.2.2.1 x.2.2.2.2.1 x.2.2.2.2.2.1 x.2.2.2.2.2.2.1 x.2.2.2.2.2.2.2.1 x.2.2.2.2.2.2.2.2.1 x.2.2.2.2.2.2.2.2.2.1 x.2.2.2.2.2.2.2.2.2.2.1 x.2.2.2.2.2.2.2.2.2.2.2.1,(fun(p1:Int) (p2:Int) (c0_0:Bool) (c0_1:Int) (c0_2:Int) (w1:List TQuestion) (w2k:List ByteArray) (w2v:List Int) (w3k:List ByteArray) (w3v:List (List Int)) (w4k:List ByteArray) (w4v:List Bool)=>(((OS.mk c0_0 c0_1 c0_2 w1 w2k w2v w3k w3v w4k w4v).q):List TQuestion)) x.1 x.2.1 x.2.2.1 x.2.2.2.1 x.2.2.2.2.1 x.2.2.2.2.2.1 x.2.2.2.2.2.2.1 x.2.2.2.2.2.2.2.1 x.2.2.2.2.2.2.2.2.1 x.2.2.2.2.2.2.2.2.2.1 x.2.2.2.2.2.2.2.2.2.2.1 x.2.2.2.2.2.2.2.2.2.2.2.1,(fun(p1:Int) (p2:Int) (c0_0:Bool) (c0_1:Int) (c0_2:Int) (w1:List TQuestion) (w2k:List ByteArray) (w2v:List Int) (w3k:List ByteArray) (w3v:List (List Int)) (w4k:List ByteArray) (w4v:List Bool)=>(((OS.mk c0_0 c0_1 c0_2 w1 w2k w2v w3k w3v w4k w4v).k):List ByteArray)) x.1 x.2.1 x.2.2.1 x.2.2.2.1 x.2.2.2.2.1 x.2.2.2.2.2.1 x.2.2.2.2.2.2.1 x.2.2.2.2.2.2.2.1 x.2.2.2.2.2.2.2.2.1 x.2.2.2.2.2.2.2.2.2.1 x.2.2.2.2.2.2.2.2.2.2.1 x.2.2.2.2.2.2.2.2.2.2.2.1,(fun(p1:Int) (p2:Int) (c0_0:Bool) (c0_1:Int) (c0_2:Int) (w1:List TQuestion) (w2k:List ByteArray) (w2v:List Int) (w3k:List ByteArray) (w3v:List (List Int)) (w4k:List ByteArray) (w4v:List Bool)=>(((OS.mk c0_0 c0_1 c0_2 w1 w2k w2v w3k w3v w4k w4v).v):List Int)) x.1 x.2.1 x.2.2.1 x.2.2.2.1 x.2.2.2.2.1 x.2.2.2.2.2.1 x.2.2.2.2.2.2.1 x.2.2.2.2.2.2.2.1 x.2.2.2.2.2.2.2.2.1 x.2.2.2.2.2.2.2.2.2.1 x.2.2.2.2.2.2.2.2.2.2.1 x.2.2.2.2.2.2.2.2.2.2.2.1,(fun(p1:Int) (p2:Int) (c0_0:Bool) (c0_1:Int) (c0_2:Int) (w1:List TQuestion) (w2k:List ByteArray) (w2v:List Int) (w3k:List ByteArray) (w3v:List (List Int)) (w4k:List ByteArray) (w4v:List Bool)=>(((OS.mk c0_0 c0_1 c0_2 w1 w2k w2v w3k w3v w4k w4v).s):List ByteArray)) x.1 x.2.1 x.2.2.1 x.2.2.2.1 x.2.2.2.2.1 x.2.2.2.2.2.1 x.2.2.2.2.2.2.1 x.2.2.2.2.2.2.2.1 x.2.2.2.2.2.2.2.2.1 x.2.2.2.2.2.2.2.2.2.1 x.2.2.2.2.2.2.2.2.2.2.1 x.2.2.2.2.2.2.2.2.2.2.2.1,(fun(p1:Int) (p2:Int) (c0_0:Bool) (c0_1:Int) (c0_2:Int) (w1:List TQuestion) (w2k:List ByteArray) (w2v:List Int) (w3k:List ByteArray) (w3v:List (List Int)) (w4k:List ByteArray) (w4v:List Bool)=>(((OS.mk c0_0 c0_1 c0_2 w1 w2k w2v w3k w3v w4k w4v).t):List (List Int))) x.1 x.2.1 x.2.2.1 x.2.2.2.1 x.2.2.2.2.1 x.2.2.2.2.2.1 x.2.2.2.2.2.2.1 x.2.2.2.2.2.2.2.1 x.2.2.2.2.2.2.2.2.1 x.2.2.2.2.2.2.2.2.2.1 x.2.2.2.2.2.2.2.2.2.2.1 x.2.2.2.2.2.2.2.2.2.2.2.1,(fun(p1:Int) (p2:Int) (c0_0:Bool) (c0_1:Int) (c0_2:Int) (w1:List TQuestion) (w2k:List ByteArray) (w2v:List Int) (w3k:List ByteArray) (w3v:List (List Int)) (w4k:List ByteArray) (w4v:List Bool)=>(((OS.mk c0_0 c0_1 c0_2 w1 w2k w2v w3k w3v w4k w4v).x):List ByteArray)) x.1 x.2.1 x.2.2.1 x.2.2.2.1 x.2.2.2.2.1 x.2.2.2.2.2.1 x.2.2.2.2.2.2.1 x.2.2.2.2.2.2.2.1 x.2.2.2.2.2.2.2.2.1 x.2.2.2.2.2.2.2.2.2.1 x.2.2.2.2.2.2.2.2.2.2.1 x.2.2.2.2.2.2.2.2.2.2.2.1,(fun(p1:Int) (p2:Int) (c0_0:Bool) (c0_1:Int) (c0_2:Int) (w1:List TQuestion) (w2k:List ByteArray) (w2v:List Int) (w3k:List ByteArray) (w3v:List (List Int)) (w4k:List ByteArray) (w4v:List Bool)=>(((OS.mk c0_0 c0_1 c0_2 w1 w2k w2v w3k w3v w4k w4v).y):List Bool)) x.1 x.2.1 x.2.2.1 x.2.2.2.1 x.2.2.2.2.1 x.2.2.2.2.2.1 x.2.2.2.2.2.2.1 x.2.2.2.2.2.2.2.1 x.2.2.2.2.2.2.2.2.1 x.2.2.2.2.2.2.2.2.2.1 x.2.2.2.2.2.2.2.2.2.2.1 x.2.2.2.2.2.2.2.2.2.2.2.1,())
theorem k184:koi.Ok Try.prog TB:=Con.ok_fn k1t bd72 fun x h=>k14d (k11x x.1 x.2.1 x.2.2.1 x.2.2.2.1 x.2.2.2.2.1 x.2.2.2.2.2.1 x.2.2.2.2.2.2.1 x.2.2.2.2.2.2.2.1 x.2.2.2.2.2.2.2.2.1 x.2.2.2.2.2.2.2.2.2.1 x.2.2.2.2.2.2.2.2.2.2.1 x.2.2.2.2.2.2.2.2.2.2.2.1 h)
def k16:Con TB.den:=Con.mk0 33 [.one (.ptr 0 0),.agg [.d (.int .i64),.d (.int .u64),.d (.sl (.int .u64)),.d (.sl (.int .u64)),.d (.sl (.int .u64)),.d (.int .u64),.d (.int .u64),.d (.int .u64),.d (.int .u64),.d (.int .u64)],.agg [.d (.int .u64),.d (.int .u64),.d (.int .u64),.d (.int .u64),.d (.int .u64),.d (.int .i64),.d (.int .i64),.d (.sl (.int .u64)),.d (.bool)],.one (.d (.int .u64))] [.cells [.d (.bool),.d (.int .u64),.d (.int .i64),.own 1,.mp 2,.mp 3,.mp 4],.tip (.st 3),.map (.str) (.int .i64),.map (.str) (.sl (.int .u64)),.map (.str) (.bool)] (.one (.one (.d (.int .i64)))) [.cells [.d (.bool),.d (.int .u64),.d (.int .i64),.own 1,.mp 2,.mp 3,.mp 4],.tip (.st 3),.map (.str) (.int .i64),.map (.str) (.sl (.int .u64)),.map (.str) (.bool)]
abbrev kj5:=HL TB.den (hsT k16.ins (hsOs k16.pre))
abbrev k8f:=HL TB.den (hsV k16.res (hsOs k16.post))
noncomputable def k60:Cx TB:=⟨inf,[kug,koi,kaz,kmy],[],4,[]⟩
noncomputable def k9f:Code:=Try.f33.body.getD .skip
noncomputable def kb9:List ResultVar:=Try.f33.results.toList
noncomputable def kig (o:k8f):An TB:= .no
def k9j (x:kj5) (o:k8f):Prop:=WPh TB k60 64 5 k9f (kig o) (k16.st TB x) (retTQ TB k60 k16 kb9 o)
theorem kt0 (o:k8f):OblH TB k60 64 5 k9f (kig o) (retTQ TB k60 k16 kb9 o):=
 OblH.ofC (X:=True) (by kernel_rfl) trivial
theorem kt9 {x:kj5} {o:k8f} (h:k9j x o):k16.Snd Try.prog x o:=
 Con.soundH (c:=k16) (C:=k60) TBok ⟨inf_ok,(all_cons k1ec (all_cons k184 (all_cons kj3 (all_cons k13m all_nil)))),all_nil⟩ mix Try.func33 (show Try.f33.body=some k9f by kernel_rfl) (show Try.f33.ntmps=64 by kernel_rfl) (show Try.f33.results.toList=kb9 by kernel_rfl) rfl h (kt0 o)
theorem kuc {p1:TStatement} {p2:TSpent} {p3:Int} {c0_0:Bool} {c0_1:Int} {c0_2:Int} {w1:List TQuestion} {w2k:List ByteArray} {w2v:List Int} {w3k:List ByteArray} {w3v:List (List Int)} {w4k:List ByteArray} {w4v:List Bool} {r0:Int} {d0_0:Bool} {d0_1:Int} {d0_2:Int} {e1:List TQuestion} {e2k:List ByteArray} {e2v:List Int} {e3k:List ByteArray} {e3v:List (List Int)} {e4k:List ByteArray} {e4v:List Bool} (h:
((U64 p2.Key∧-9223372036854775808≤p2.Number∧p2.Number≤9223372036854775807)∧let v1:Bool:=(p2.Note_Owner !=(ownerS p2.Key p2.Number))
(v1=true→
(w1=w1)∧21=r0∧c0_0=d0_0∧c0_1=d0_1∧c0_2=d0_2∧w1=e1∧w2k=e2k∧w2v=e2v∧w3k=e3k∧w3v=e3v∧w4k=e4k∧w4v=e4v)∧
(v1=false→
(w1=w1)∧(U64 p2.Key∧U64 p2.Note_Rho∧OOk (OS.mk c0_0 c0_1 c0_2 w1 w2k w2v w3k w3v w4k w4v))∧let r2:Int:=((markP (pk c0_0 w1 w2k w2v) p2.Key p2.Note_Rho).getD 0)
 let r3:Bool:=((markP (pk c0_0 w1 w2k w2v) p2.Key p2.Note_Rho).isSome)
 let r4:Bool:=((OS.mk c0_0 c0_1 c0_2 w1 w2k w2v w3k w3v w4k w4v).a)
 let r5:Int:=((OS.mk c0_0 c0_1 c0_2 w1 w2k w2v w3k w3v w4k w4v).b)
 let r6:Int:=((OS.mk c0_0 c0_1 c0_2 w1 w2k w2v w3k w3v w4k w4v).c)
 let r7:List TQuestion:=((OS.mk c0_0 c0_1 c0_2 w1 w2k w2v w3k w3v w4k w4v).q)
 let r8:List ByteArray:=((OS.mk c0_0 c0_1 c0_2 w1 w2k w2v w3k w3v w4k w4v).k)
 let r9:List Int:=((OS.mk c0_0 c0_1 c0_2 w1 w2k w2v w3k w3v w4k w4v).v)
 let r10:List ByteArray:=((OS.mk c0_0 c0_1 c0_2 w1 w2k w2v w3k w3v w4k w4v).s)
 let r11:List (List Int):=((OS.mk c0_0 c0_1 c0_2 w1 w2k w2v w3k w3v w4k w4v).t)
 let r12:List ByteArray:=((OS.mk c0_0 c0_1 c0_2 w1 w2k w2v w3k w3v w4k w4v).x)
 let r13:List Bool:=((OS.mk c0_0 c0_1 c0_2 w1 w2k w2v w3k w3v w4k w4v).y)
((!r3)=true→
(r7=r7)∧12=r0∧r4=d0_0∧r5=d0_1∧r6=d0_2∧r7=e1∧r8=e2k∧r9=e2v∧r10=e3k∧r11=e3v∧r12=e4k∧r13=e4v)∧
((!r3)=false→
((r2 !=p3)=true→
(r7=r7)∧12=r0∧r4=d0_0∧r5=d0_1∧r6=d0_2∧r7=e1∧r8=e2k∧r9=e2v∧r10=e3k∧r11=e3v∧r12=e4k∧r13=e4v)∧
((r2 !=p3)=false→
(p2.Dummy=true→
((p2.Note_Value !=0)=true→
(r7=r7)∧13=r0∧r4=d0_0∧r5=d0_1∧r6=d0_2∧r7=e1∧r8=e2k∧r9=e2v∧r10=e3k∧r11=e3v∧r12=e4k∧r13=e4v)∧
((p2.Note_Value !=0)=false→
(r7=r7)∧0=r0∧r4=d0_0∧r5=d0_1∧r6=d0_2∧r7=e1∧r8=e2k∧r9=e2v∧r10=e3k∧r11=e3v∧r12=e4k∧r13=e4v))∧
(p2.Dummy=false→
(r7=r7)∧(NR (TNote.mk p2.Note_Value p2.Note_Owner p2.Note_Rho p2.Note_Blind)∧OOk (OS.mk r4 r5 r6 r7 r8 r9 r10 r11 r12 r13))∧let r14:Int:=((commP (pk r4 r7 r8 r9) (TNote.mk p2.Note_Value p2.Note_Owner p2.Note_Rho p2.Note_Blind)).getD 0)
 let r15:Bool:=((commP (pk r4 r7 r8 r9) (TNote.mk p2.Note_Value p2.Note_Owner p2.Note_Rho p2.Note_Blind)).isSome)
 let r16:Bool:=((OS.mk r4 r5 r6 r7 r8 r9 r10 r11 r12 r13).a)
 let r17:Int:=((OS.mk r4 r5 r6 r7 r8 r9 r10 r11 r12 r13).b)
 let r18:Int:=((OS.mk r4 r5 r6 r7 r8 r9 r10 r11 r12 r13).c)
 let r19:List TQuestion:=((OS.mk r4 r5 r6 r7 r8 r9 r10 r11 r12 r13).q)
 let r20:List ByteArray:=((OS.mk r4 r5 r6 r7 r8 r9 r10 r11 r12 r13).k)
 let r21:List Int:=((OS.mk r4 r5 r6 r7 r8 r9 r10 r11 r12 r13).v)
 let r22:List ByteArray:=((OS.mk r4 r5 r6 r7 r8 r9 r10 r11 r12 r13).s)
 let r23:List (List Int):=((OS.mk r4 r5 r6 r7 r8 r9 r10 r11 r12 r13).t)
 let r24:List ByteArray:=((OS.mk r4 r5 r6 r7 r8 r9 r10 r11 r12 r13).x)
 let r25:List Bool:=((OS.mk r4 r5 r6 r7 r8 r9 r10 r11 r12 r13).y)
((!r15)=true→
(r19=r19)∧11=r0∧r16=d0_0∧r17=d0_1∧r18=d0_2∧r19=e1∧r20=e2k∧r21=e2v∧r22=e3k∧r23=e3v∧r24=e4k∧r25=e4v)∧
((!r15)=false→
(U64 r14∧Us p2.Path∧p2.Path.length≤1073741824∧p2.Position≤9223372036854775807)∧let v26:Bool:=((climbS r14 p2.Position p2.Path) !=p1.Anchor)
(v26=true→
(r19=r19)∧11=r0∧r16=d0_0∧r17=d0_1∧r18=d0_2∧r19=e1∧r20=e2k∧r21=e2v∧r22=e3k∧r23=e3v∧r24=e4k∧r25=e4v)∧
(v26=false→
(r19=r19)∧0=r0∧r16=d0_0∧r17=d0_1∧r18=d0_2∧r19=e1∧r20=e2k∧r21=e2v∧r22=e3k∧r23=e3v∧r24=e4k∧r25=e4v)))))))):k9j (p1.Depth,p1.Anchor,p1.Marks,p1.Commits,p1.Rhos,p1.Deposit,p1.Withdraw,p1.Fee,p1.Account,p1.Bind,p2.Note_Value,p2.Note_Owner,p2.Note_Rho,p2.Note_Blind,p2.Key,p2.Number,p2.Position,p2.Path,p2.Dummy,p3,c0_0,c0_1,c0_2,w1,w2k,w2v,w3k,w3v,w4k,w4v,()) (r0,d0_0,d0_1,d0_2,e1,e2k,e2v,e3k,e3v,e4k,e4v,()):=WPh.of_eq (by kernel_rfl) h
theorem bd33:Callable Try.prog 33:=⟨by rw[Try.func33];kernel_rfl,by rw[Try.func33];show some _≠some _;decide⟩
theorem krs (p1:TStatement) (p2:TSpent) (p3:Int) (c0_0:Bool) (c0_1:Int) (c0_2:Int) (w1:List TQuestion) (w2k:List ByteArray) (w2v:List Int) (w3k:List ByteArray) (w3v:List (List Int)) (w4k:List ByteArray) (w4v:List Bool) (h:PR p2∧OOk (OS.mk c0_0 c0_1 c0_2 w1 w2k w2v w3k w3v w4k w4v)):k9j (p1.Depth,p1.Anchor,p1.Marks,p1.Commits,p1.Rhos,p1.Deposit,p1.Withdraw,p1.Fee,p1.Account,p1.Bind,p2.Note_Value,p2.Note_Owner,p2.Note_Rho,p2.Note_Blind,p2.Key,p2.Number,p2.Position,p2.Path,p2.Dummy,p3,c0_0,c0_1,c0_2,w1,w2k,w2v,w3k,w3v,w4k,w4v,()) (((inE (pk c0_0 w1 w2k w2v) p1.Anchor p3 p2):Int),(((OS.mk c0_0 c0_1 c0_2 w1 w2k w2v w3k w3v w4k w4v).a):Bool),(((OS.mk c0_0 c0_1 c0_2 w1 w2k w2v w3k w3v w4k w4v).b):Int),(((OS.mk c0_0 c0_1 c0_2 w1 w2k w2v w3k w3v w4k w4v).c):Int),(((OS.mk c0_0 c0_1 c0_2 w1 w2k w2v w3k w3v w4k w4v).q):List TQuestion),(((OS.mk c0_0 c0_1 c0_2 w1 w2k w2v w3k w3v w4k w4v).k):List ByteArray),(((OS.mk c0_0 c0_1 c0_2 w1 w2k w2v w3k w3v w4k w4v).v):List Int),(((OS.mk c0_0 c0_1 c0_2 w1 w2k w2v w3k w3v w4k w4v).s):List ByteArray),(((OS.mk c0_0 c0_1 c0_2 w1 w2k w2v w3k w3v w4k w4v).t):List (List Int)),(((OS.mk c0_0 c0_1 c0_2 w1 w2k w2v w3k w3v w4k w4v).x):List ByteArray),(((OS.mk c0_0 c0_1 c0_2 w1 w2k w2v w3k w3v w4k w4v).y):List Bool),()):=by
 obtain⟨hp,ho⟩:=h
 have hu:=ho.u
 have hc:commP (pk c0_0 w1 w2k w2v) (noteOf p2)=none∨∃n,commP (pk c0_0 w1 w2k w2v) (noteOf p2)=some n∧U64 n:=by unfold commP;split;exact hu _ _;exact .inl rfl
 have hcu:U64 ((commP (pk c0_0 w1 w2k w2v) (noteOf p2)).getD 0):=by
  rcases hc with h|⟨n,h,hn⟩
  ·rw[h];decide
  ·rw[h];exact hn
 clear hu hc
 have en:noteOf p2=⟨p2.Note_Value,p2.Note_Owner,p2.Note_Rho,p2.Note_Blind⟩:=rfl
 refine kuc ⟨⟨hp.k,hp.nu.1,hp.nu.2⟩,?_⟩
 simp only[←en]
 unfold inE
 refine⟨fun e=> ?_,fun e=>⟨(by first|exact rfl|exact True.intro),⟨hp.k,hp.n.r,ho⟩,fun e2=> ?_,fun e2=>⟨fun e3=> ?_,fun e3=>⟨fun e4=>⟨fun e5=> ?_,fun e5=> ?_⟩,fun e4=>⟨(by first|exact rfl|exact True.intro),⟨hp.n,ho⟩,fun e6=> ?_,fun e6=>⟨⟨hcu,hp.pa,hp.pl,hp.po.2⟩,fun e7=> ?_,fun e7=> ?_⟩⟩⟩⟩⟩⟩
 all_goals simp_all
noncomputable def kgl:Con TB.den:=k16.fnR (fun x=>(fun(p1:TStatement) (p2:TSpent) (p3:Int) (c0_0:Bool) (c0_1:Int) (c0_2:Int) (w1:List TQuestion) (w2k:List ByteArray) (w2v:List Int) (w3k:List ByteArray) (w3v:List (List Int)) (w4k:List ByteArray) (w4v:List Bool)=>PR p2∧OOk (OS.mk c0_0 c0_1 c0_2 w1 w2k w2v w3k w3v w4k w4v)) (TStatement.mk x.1 x.2.1 x.2.2.1 x.2.2.2.1 x.2.2.2.2.1 x.2.2.2.2.2.1 x.2.2.2.2.2.2.1 x.2.2.2.2.2.2.2.1 x.2.2.2.2.2.2.2.2.1 x.2.2.2.2.2.2.2.2.2.1) (TSpent.mk x.2.2.2.2.2.2.2.2.2.2.1 x.2.2.2.2.2.2.2.2.2.2.2.1 x.2.2.2.2.2.2.2.2.2.2.2.2.1 x.2.2.2.2.2.2.2.2.2.2.2.2.2.1 x.2.2.2.2.2.2.2.2.2.2.2.2.2.2.1 x.2.2.2.2.2.2.2.2.2.2.2.2.2.2.2.1 x.2.2.2.2.2.2.2.2.2.2.2.2.2.2.2.2.1 x.2.2.2.2.2.2.2.2.2.2.2.2.2.2.2.2.2.1 x.2.2.2.2.2.2.2.2.2.2.2.2.2.2.2.2.2.2.1) x.2.2.2.2.2.2.2.2.2.2.2.2.2.2.2.2.2.2.2.1 x.2.2.2.2.2.2.2.2.2.2.2.2.2.2.2.2.2.2.2.2.1 x.2.2.2.2.2.2.2.2.2.2.2.2.2.2.2.2.2.2.2.2.2.1 x.2.2.2.2.2.2.2.2.2.2.2.2.2.2.2.2.2.2.2.2.2.2.1 x.2.2.2.2.2.2.2.2.2.2.2.2.2.2.2.2.2.2.2.2.2.2.2.1 x.2.2.2.2.2.2.2.2.2.2.2.2.2.2.2.2.2.2.2.2.2.2.2.2.1 x.2.2.2.2.2.2.2.2.2.2.2.2.2.2.2.2.2.2.2.2.2.2.2.2.2.1 x.2.2.2.2.2.2.2.2.2.2.2.2.2.2.2.2.2.2.2.2.2.2.2.2.2.2.1 x.2.2.2.2.2.2.2.2.2.2.2.2.2.2.2.2.2.2.2.2.2.2.2.2.2.2.2.1 x.2.2.2.2.2.2.2.2.2.2.2.2.2.2.2.2.2.2.2.2.2.2.2.2.2.2.2.2.1 x.2.2.2.2.2.2.2.2.2.2.2.2.2.2.2.2.2.2.2.2.2.2.2.2.2.2.2.2.2.1) fun x=>((fun(p1:TStatement) (p2:TSpent) (p3:Int) (c0_0:Bool) (c0_1:Int) (c0_2:Int) (w1:List TQuestion) (w2k:List ByteArray) (w2v:List Int) (w3k:List ByteArray) (w3v:List (List Int)) (w4k:List ByteArray) (w4v:List Bool)=>((inE (pk c0_0 w1 w2k w2v) p1.Anchor p3 p2):Int)) (TStatement.mk x.1 x.2.1 x.2.2.1 x.2.2.2.1 x.2.2.2.2.1 x.2.2.2.2.2.1 x.2.2.2.2.2.2.1 x.2.2.2.2.2.2.2.1 x.2.2.2.2.2.2.2.2.1 x.2.2.2.2.2.2.2.2.2.1) (TSpent.mk x.2.2.2.2.2.2.2.2.2.2.1 x.2.2.2.2.2.2.2.2.2.2.2.1 x.2.2.2.2.2.2.2.2.2.2.2.2.1 x.2.2.2.2.2.2.2.2.2.2.2.2.2.1 x.2.2.2.2.2.2.2.2.2.2.2.2.2.2.1 x.2.2.2.2.2.2.2.2.2.2.2.2.2.2.2.1 x.2.2.2.2.2.2.2.2.2.2.2.2.2.2.2.2.1 x.2.2.2.2.2.2.2.2.2.2.2.2.2.2.2.2.2.1 x.2.2.2.2.2.2.2.2.2.2.2.2.2.2.2.2.2.2.1) x.2.2.2.2.2.2.2.2.2.2.2.2.2.2.2.2.2.2.2.1 x.2.2.2.2.2.2.2.2.2.2.2.2.2.2.2.2.2.2.2.2.1 x.2.2.2.2.2.2.2.2.2.2.2.2.2.2.2.2.2.2.2.2.2.1 x.2.2.2.2.2.2.2.2.2.2.2.2.2.2.2.2.2.2.2.2.2.2.1 x.2.2.2.2.2.2.2.2.2.2.2.2.2.2.2.2.2.2.2.2.2.2.2.1 x.2.2.2.2.2.2.2.2.2.2.2.2.2.2.2.2.2.2.2.2.2.2.2.2.1 x.2.2.2.2.2.2.2.2.2.2.2.2.2.2.2.2.2.2.2.2.2.2.2.2.2.1 x.2.2.2.2.2.2.2.2.2.2.2.2.2.2.2.2.2.2.2.2.2.2.2.2.2.2.1 x.2.2.2.2.2.2.2.2.2.2.2.2.2.2.2.2.2.2.2.2.2.2.2.2.2.2.2.1 x.2.2.2.2.2.2.2.2.2.2.2.2.2.2.2.2.2.2.2.2.2.2.2.2.2.2.2.2.1 x.2.2.2.2.2.2.2.2.2.2.2.2.2.2.2.2.2.2.2.2.2.2.2.2.2.2.2.2.2.1,(fun(p1:TStatement) (p2:TSpent) (p3:Int) (c0_0:Bool) (c0_1:Int) (c0_2:Int) (w1:List TQuestion) (w2k:List ByteArray) (w2v:List Int) (w3k:List ByteArray) (w3v:List (List Int)) (w4k:List ByteArray) (w4v:List Bool)=>(((OS.mk c0_0 c0_1 c0_2 w1 w2k w2v w3k w3v w4k w4v).a):Bool)) (TStatement.mk x.1 x.2.1 x.2.2.1 x.2.2.2.1 x.2.2.2.2.1 x.2.2.2.2.2.1 x.2.2.2.2.2.2.1 x.2.2.2.2.2.2.2.1 x.2.2.2.2.2.2.2.2.1 x.2.2.2.2.2.2.2.2.2.1) (TSpent.mk x.2.2.2.2.2.2.2.2.2.2.1 x.2.2.2.2.2.2.2.2.2.2.2.1 x.2.2.2.2.2.2.2.2.2.2.2.2.1 x.2.2.2.2.2.2.2.2.2.2.2.2.2.1 x.2.2.2.2.2.2.2.2.2.2.2.2.2.2.1 x.2.2.2.2.2.2.2.2.2.2.2.2.2.2.2.1 x.2.2.2.2.2.2.2.2.2.2.2.2.2.2.2.2.1 x.2.2.2.2.2.2.2.2.2.2.2.2.2.2.2.2.2.1 x.2.2.2.2.2.2.2.2.2.2.2.2.2.2.2.2.2.2.1) x.2.2.2.2.2.2.2.2.2.2.2.2.2.2.2.2.2.2.2.1 x.2.2.2.2.2.2.2.2.2.2.2.2.2.2.2.2.2.2.2.2.1 x.2.2.2.2.2.2.2.2.2.2.2.2.2.2.2.2.2.2.2.2.2.1 x.2.2.2.2.2.2.2.2.2.2.2.2.2.2.2.2.2.2.2.2.2.2.1 x.2.2.2.2.2.2.2.2.2.2.2.2.2.2.2.2.2.2.2.2.2.2.2.1 x.2.2.2.2.2.2.2.2.2.2.2.2.2.2.2.2.2.2.2.2.2.2.2.2.1 x.2.2.2.2.2.2.2.2.2.2.2.2.2.2.2.2.2.2.2.2.2.2.2.2.2.1 x.2.2.2.2.2.2.2.2.2.2.2.2.2.2.2.2.2.2.2.2.2.2.2.2.2.2.1 x.2.2.2.2.2.2.2.2.2.2.2.2.2.2.2.2.2.2.2.2.2.2.2.2.2.2.2.1 x.2.2.2.2.2.2.2.2.2.2.2.2.2.2.2.2.2.2.2.2.2.2.2.2.2.2.2.2.1 x.2.2.2.2.2.2.2.2.2.2.2.2.2.2.2.2.2.2.2.2.2.2.2.2.2.2.2.2.2.1,(fun(p1:TStatement) (p2:TSpent) (p3:Int) (c0_0:Bool) (c0_1:Int) (c0_2:Int) (w1:List TQuestion) (w2k:List ByteArray) (w2v:List Int) (w3k:List ByteArray) (w3v:List (List Int)) (w4k:List ByteArray) (w4v:List Bool)=>(((OS.mk c0_0 c0_1 c0_2 w1 w2k w2v w3k w3v w4k w4v).b):Int)) (TStatement.mk x.1 x.2.1 x.2.2.1 x.2.2.2.1 x.2.2.2.2.1 x.2.2.2.2.2.1 x.2.2.2.2.2.2.1 x.2.2.2.2.2.2.2.1 x.2.2.2.2.2.2.2.2.1 x.2.2.2.2.2.2.2.2.2.1) (TSpent.mk x.2.2.2.2.2.2.2.2.2.2.1 x.2.2.2.2.2.2.2.2.2.2.2.1 x.2.2.2.2.2.2.2.2.2.2.2.2.1 x.2.2.2.2.2.2.2.2.2.2.2.2.2.1 x.2.2.2.2.2.2.2.2.2.2.2.2.2.2.1 x.2.2.2.2.2.2.2.2.2.2.2.2.2.2.2.1 x.2.2.2.2.2.2.2.2.2.2.2.2.2.2.2.2.1 x.2.2.2.2.2.2.2.2.2.2.2.2.2.2.2.2.2.1 x.2.2.2.2.2.2.2.2.2.2.2.2.2.2.2.2.2.2.1) x.2.2.2.2.2.2.2.2.2.2.2.2.2.2.2.2.2.2.2.1 x.2.2.2.2.2.2.2.2.2.2.2.2.2.2.2.2.2.2.2.2.1 x.2.2.2.2.2.2.2.2.2.2.2.2.2.2.2.2.2.2.2.2.2.1 x.2.2.2.2.2.2.2.2.2.2.2.2.2.2.2.2.2.2.2.2.2.2.1 x.2.2.2.2.2.2.2.2.2.2.2.2.2.2.2.2.2.2.2.2.2.2.2.1 x.2.2.2.2.2.2.2.2.2.2.2.2.2.2.2.2.2.2.2.2.2.2.2.2.1 x.2.2.2.2.2.2.2.2.2.2.2.2.2.2.2.2.2.2.2.2.2.2.2.2.2.1 x.2.2.2.2.2.2.2.2.2.2.2.2.2.2.2.2.2.2.2.2.2.2.2.2.2.2.1 x.2.2.2.2.2.2.2.2.2.2.2.2.2.2.2.2.2.2.2.2.2.2.2.2.2.2.2.1 x.2.2.2.2.2.2.2.2.2.2.2.2.2.2.2.2.2.2.2.2.2.2.2.2.2.2.2.2.1 x.2.2.2.2.2.2.2.2.2.2.2.2.2.2.2.2.2.2.2.2.2.2.2.2.2.2.2.2.2.1,(fun(p1:TStatement) (p2:TSpent) (p3:Int) (c0_0:Bool) (c0_1:Int) (c0_2:Int) (w1:List TQuestion) (w2k:List ByteArray) (w2v:List Int) (w3k:List ByteArray) (w3v:List (List Int)) (w4k:List ByteArray) (w4v:List Bool)=>(((OS.mk c0_0 c0_1 c0_2 w1 w2k w2v w3k w3v w4k w4v).c):Int)) (TStatement.mk x.1 x.2.1 x.2.2.1 x.2.2.2.1 x.2.2.2.2.1 x.2.2.2.2.2.1 x.2.2.2.2.2.2.1 x.2.2.2.2.2.2.2.1 x.2.2.2.2.2.2.2.2.1 x.2.2.2.2.2.2.2.2.2.1) (TSpent.mk x.2.2.2.2.2.2.2.2.2.2.1 x.2.2.2.2.2.2.2.2.2.2.2.1 x.2.2.2.2.2.2.2.2.2.2.2.2.1 x.2.2.2.2.2.2.2.2.2.2.2.2.2.1 x.2.2.2.2.2.2.2.2.2.2.2.2.2.2.1 x.2.2.2.2.2.2.2.2.2.2.2.2.2.2.2.1 x.2.2.2.2.2.2.2.2.2.2.2.2.2.2.2.2.1 x.2.2.2.2.2.2.2.2.2.2.2.2.2.2.2.2.2.1 x.2.2.2.2.2.2.2.2.2.2.2.2.2.2.2.2.2.2.1) x.2.2.2.2.2.2.2.2.2.2.2.2.2.2.2.2.2.2.2.1 x.2.2.2.2.2.2.2.2.2.2.2.2.2.2.2.2.2.2.2.2.1 x.2.2.2.2.2.2.2.2.2.2.2.2.2.2.2.2.2.2.2.2.2.1 x.2.2.2.2.2.2.2.2.2.2.2.2.2.2.2.2.2.2.2.2.2.2.1 x.2.2.2.2.2.2.2.2.2.2.2.2.2.2.2.2.2.2.2.2.2.2.2.1 x.2.2.2.2.2.2.2.2.2.2.2.2.2.2.2.2.2.2.2.2.2.2.2.2.1 x.2.2.2.2.2.2.2.2.2.2.2.2.2.2.2.2.2.2.2.2.2.2.2.2.2.1 x.2.2.2.2.2.2.2.2.2.2.2.2.2.2.2.2.2.2.2.2.2.2.2.2.2.2.1 x.2.2.2.2.2.2.2.2.2.2.2.2.2.2.2.2.2.2.2.2.2.2.2.2.2.2.2.1 x.2.2.2.2.2.2.2.2.2.2.2.2.2.2.2.2.2.2.2.2.2.2.2.2.2.2.2.2.1 x.2.2.2.2.2.2.2.2.2.2.2.2.2.2.2.2.2.2.2.2.2.2.2.2.2.2.2.2.2.1,(fun(p1:TStatement) (p2:TSpent) (p3:Int) (c0_0:Bool) (c0_1:Int) (c0_2:Int) (w1:List TQuestion) (w2k:List ByteArray) (w2v:List Int) (w3k:List ByteArray) (w3v:List (List Int)) (w4k:List ByteArray) (w4v:List Bool)=>(((OS.mk c0_0 c0_1 c0_2 w1 w2k w2v w3k w3v w4k w4v).q):List TQuestion)) (TStatement.mk x.1 x.2.1 x.2.2.1 x.2.2.2.1 x.2.2.2.2.1 x.2.2.2.2.2.1 x.2.2.2.2.2.2.1 x.2.2.2.2.2.2.2.1 x.2.2.2.2.2.2.2.2.1 x.2.2.2.2.2.2.2.2.2.1) (TSpent.mk x.2.2.2.2.2.2.2.2.2.2.1 x.2.2.2.2.2.2.2.2.2.2.2.1 x.2.2.2.2.2.2.2.2.2.2.2.2.1 x.2.2.2.2.2.2.2.2.2.2.2.2.2.1 x.2.2.2.2.2.2.2.2.2.2.2.2.2.2.1 x.2.2.2.2.2.2.2.2.2.2.2.2.2.2.2.1 x.2.2.2.2.2.2.2.2.2.2.2.2.2.2.2.2.1 x.2.2.2.2.2.2.2.2.2.2.2.2.2.2.2.2.2.1 x.2.2.2.2.2.2.2.2.2.2.2.2.2.2.2.2.2.2.1) x.2.2.2.2.2.2.2.2.2.2.2.2.2.2.2.2.2.2.2.1 x.2.2.2.2.2.2.2.2.2.2.2.2.2.2.2.2.2.2.2.2.1 x.2.2.2.2.2.2.2.2.2.2.2.2.2.2.2.2.2.2.2.2.2.1 x.2.2.2.2.2.2.2.2.2.2.2.2.2.2.2.2.2.2.2.2.2.2.1 x.2.2.2.2.2.2.2.2.2.2.2.2.2.2.2.2.2.2.2.2.2.2.2.1 x.2.2.2.2.2.2.2.2.2.2.2.2.2.2.2.2.2.2.2.2.2.2.2.2.1 x.2.2.2.2.2.2.2.2.2.2.2.2.2.2.2.2.2.2.2.2.2.2.2.2.2.1 x.2.2.2.2.2.2.2.2.2.2.2.2.2.2.2.2.2.2.2.2.2.2.2.2.2.2.1 x.2.2.2.2.2.2.2.2.2.2.2.2.2.2.2.2.2.2.2.2.2.2.2.2.2.2.2.1 x.2.2.2.2.2.2.2.2.2.2.2.2.2.2.2.2.2.2.2.2.2.2.2.2.2.2.2.2.1 x.2.2.2.2.2.2.2.2.2.2.2.2.2.2.2.2.2.2.2.2.2.2.2.2.2.2.2.2.2.1,(fun(p1:TStatement) (p2:TSpent) (p3:Int) (c0_0:Bool) (c0_1:Int) (c0_2:Int) (w1:List TQuestion) (w2k:List ByteArray) (w2v:List Int) (w3k:List ByteArray) (w3v:List (List Int)) (w4k:List ByteArray) (w4v:List Bool)=>(((OS.mk c0_0 c0_1 c0_2 w1 w2k w2v w3k w3v w4k w4v).k):List ByteArray)) (TStatement.mk x.1 x.2.1 x.2.2.1 x.2.2.2.1 x.2.2.2.2.1 x.2.2.2.2.2.1 x.2.2.2.2.2.2.1 x.2.2.2.2.2.2.2.1 x.2.2.2.2.2.2.2.2.1 x.2.2.2.2.2.2.2.2.2.1) (TSpent.mk x.2.2.2.2.2.2.2.2.2.2.1 x.2.2.2.2.2.2.2.2.2.2.2.1 x.2.2.2.2.2.2.2.2.2.2.2.2.1 x.2.2.2.2.2.2.2.2.2.2.2.2.2.1 x.2.2.2.2.2.2.2.2.2.2.2.2.2.2.1 x.2.2.2.2.2.2.2.2.2.2.2.2.2.2.2.1 x.2.2.2.2.2.2.2.2.2.2.2.2.2.2.2.2.1 x.2.2.2.2.2.2.2.2.2.2.2.2.2.2.2.2.2.1 x.2.2.2.2.2.2.2.2.2.2.2.2.2.2.2.2.2.2.1) x.2.2.2.2.2.2.2.2.2.2.2.2.2.2.2.2.2.2.2.1 x.2.2.2.2.2.2.2.2.2.2.2.2.2.2.2.2.2.2.2.2.1 x.2.2.2.2.2.2.2.2.2.2.2.2.2.2.2.2.2.2.2.2.2.1 x.2.2.2.2.2.2.2.2.2.2.2.2.2.2.2.2.2.2.2.2.2.2.1 x.2.2.2.2.2.2.2.2.2.2.2.2.2.2.2.2.2.2.2.2.2.2.2.1 x.2.2.2.2.2.2.2.2.2.2.2.2.2.2.2.2.2.2.2.2.2.2.2.2.1 x.2.2.2.2.2.2.2.2.2.2.2.2.2.2.2.2.2.2.2.2.2.2.2.2.2.1 x.2.2.2.2.2.2.2.2.2.2.2.2.2.2.2.2.2.2.2.2.2.2.2.2.2.2.1 x.2.2.2.2.2.2.2.2.2.2.2.2.2.2.2.2.2.2.2.2.2.2.2.2.2.2.2.1 x.2.2.2.2.2.2.2.2.2.2.2.2.2.2.2.2.2.2.2.2.2.2.2.2.2.2.2.2.1 x.2.2.2.2.2.2.2.2.2.2.2.2.2.2.2.2.2.2.2.2.2.2.2.2.2.2.2.2.2.1,(fun(p1:TStatement) (p2:TSpent) (p3:Int) (c0_0:Bool) (c0_1:Int) (c0_2:Int) (w1:List TQuestion) (w2k:List ByteArray) (w2v:List Int) (w3k:List ByteArray) (w3v:List (List Int)) (w4k:List ByteArray) (w4v:List Bool)=>(((OS.mk c0_0 c0_1 c0_2 w1 w2k w2v w3k w3v w4k w4v).v):List Int)) (TStatement.mk x.1 x.2.1 x.2.2.1 x.2.2.2.1 x.2.2.2.2.1 x.2.2.2.2.2.1 x.2.2.2.2.2.2.1 x.2.2.2.2.2.2.2.1 x.2.2.2.2.2.2.2.2.1 x.2.2.2.2.2.2.2.2.2.1) (TSpent.mk x.2.2.2.2.2.2.2.2.2.2.1 x.2.2.2.2.2.2.2.2.2.2.2.1 x.2.2.2.2.2.2.2.2.2.2.2.2.1 x.2.2.2.2.2.2.2.2.2.2.2.2.2.1 x.2.2.2.2.2.2.2.2.2.2.2.2.2.2.1 x.2.2.2.2.2.2.2.2.2.2.2.2.2.2.2.1 x.2.2.2.2.2.2.2.2.2.2.2.2.2.2.2.2.1 x.2.2.2.2.2.2.2.2.2.2.2.2.2.2.2.2.2.1 x.2.2.2.2.2.2.2.2.2.2.2.2.2.2.2.2.2.2.1) x.2.2.2.2.2.2.2.2.2.2.2.2.2.2.2.2.2.2.2.1 x.2.2.2.2.2.2.2.2.2.2.2.2.2.2.2.2.2.2.2.2.1 x.2.2.2.2.2.2.2.2.2.2.2.2.2.2.2.2.2.2.2.2.2.1 x.2.2.2.2.2.2.2.2.2.2.2.2.2.2.2.2.2.2.2.2.2.2.1 x.2.2.2.2.2.2.2.2.2.2.2.2.2.2.2.2.2.2.2.2.2.2.2.1 x.2.2.2.2.2.2.2.2.2.2.2.2.2.2.2.2.2.2.2.2.2.2.2.2.1 x.2.2.2.2.2.2.2.2.2.2.2.2.2.2.2.2.2.2.2.2.2.2.2.2.2.1 x.2.2.2.2.2.2.2.2.2.2.2.2.2.2.2.2.2.2.2.2.2.2.2.2.2.2.1 x.2.2.2.2.2.2.2.2.2.2.2.2.2.2.2.2.2.2.2.2.2.2.2.2.2.2.2.1 x.2.2.2.2.2.2.2.2.2.2.2.2.2.2.2.2.2.2.2.2.2.2.2.2.2.2.2.2.1 x.2.2.2.2.2.2.2.2.2.2.2.2.2.2.2.2.2.2.2.2.2.2.2.2.2.2.2.2.2.1,(fun(p1:TStatement) (p2:TSpent) (p3:Int) (c0_0:Bool) (c0_1:Int) (c0_2:Int) (w1:List TQuestion) (w2k:List ByteArray) (w2v:List Int) (w3k:List ByteArray) (w3v:List (List Int)) (w4k:List ByteArray) (w4v:List Bool)=>(((OS.mk c0_0 c0_1 c0_2 w1 w2k w2v w3k w3v w4k w4v).s):List ByteArray)) (TStatement.mk x.1 x.2.1 x.2.2.1 x.2.2.2.1 x.2.2.2.2.1 x.2.2.2.2.2.1 x.2.2.2.2.2.2.1 x.2.2.2.2.2.2.2.1 x.2.2.2.2.2.2.2.2.1 x.2.2.2.2.2.2.2.2.2.1) (TSpent.mk x.2.2.2.2.2.2.2.2.2.2.1 x.2.2.2.2.2.2.2.2.2.2.2.1 x.2.2.2.2.2.2.2.2.2.2.2.2.1 x.2.2.2.2.2.2.2.2.2.2.2.2.2.1 x.2.2.2.2.2.2.2.2.2.2.2.2.2.2.1 x.2.2.2.2.2.2.2.2.2.2.2.2.2.2.2.1 x.2.2.2.2.2.2.2.2.2.2.2.2.2.2.2.2.1 x.2.2.2.2.2.2.2.2.2.2.2.2.2.2.2.2.2.1 x.2.2.2.2.2.2.2.2.2.2.2.2.2.2.2.2.2.2.1) x.2.2.2.2.2.2.2.2.2.2.2.2.2.2.2.2.2.2.2.1 x.2.2.2.2.2.2.2.2.2.2.2.2.2.2.2.2.2.2.2.2.1 x.2.2.2.2.2.2.2.2.2.2.2.2.2.2.2.2.2.2.2.2.2.1 x.2.2.2.2.2.2.2.2.2.2.2.2.2.2.2.2.2.2.2.2.2.2.1 x.2.2.2.2.2.2.2.2.2.2.2.2.2.2.2.2.2.2.2.2.2.2.2.1 x.2.2.2.2.2.2.2.2.2.2.2.2.2.2.2.2.2.2.2.2.2.2.2.2.1 x.2.2.2.2.2.2.2.2.2.2.2.2.2.2.2.2.2.2.2.2.2.2.2.2.2.1 x.2.2.2.2.2.2.2.2.2.2.2.2.2.2.2.2.2.2.2.2.2.2.2.2.2.2.1 x.2.2.2.2.2.2.2.2.2.2.2.2.2.2.2.2.2.2.2.2.2.2.2.2.2.2.2.1 x.2.2.2.2.2.2.2.2.2.2.2.2.2.2.2.2.2.2.2.2.2.2.2.2.2.2.2.2.1 x.2.2.2.2.2.2.2.2.2.2.2.2.2.2.2.2.2.2.2.2.2.2.2.2.2.2.2.2.2.1,(fun(p1:TStatement) (p2:TSpent) (p3:Int) (c0_0:Bool) (c0_1:Int) (c0_2:Int) (w1:List TQuestion) (w2k:List ByteArray) (w2v:List Int) (w3k:List ByteArray) (w3v:List (List Int)) (w4k:List ByteArray) (w4v:List Bool)=>(((OS.mk c0_0 c0_1 c0_2 w1 w2k w2v w3k w3v w4k w4v).t):List (List Int))) (TStatement.mk x.1 x.2.1 x.2.2.1 x.2.2.2.1 x.2.2.2.2.1 x.2.2.2.2.2.1 x.2.2.2.2.2.2.1 x.2.2.2.2.2.2.2.1 x.2.2.2.2.2.2.2.2.1 x.2.2.2.2.2.2.2.2.2.1) (TSpent.mk x.2.2.2.2.2.2.2.2.2.2.1 x.2.2.2.2.2.2.2.2.2.2.2.1 x.2.2.2.2.2.2.2.2.2.2.2.2.1 x.2.2.2.2.2.2.2.2.2.2.2.2.2.1 x.2.2.2.2.2.2.2.2.2.2.2.2.2.2.1 x.2.2.2.2.2.2.2.2.2.2.2.2.2.2.2.1 x.2.2.2.2.2.2.2.2.2.2.2.2.2.2.2.2.1 x.2.2.2.2.2.2.2.2.2.2.2.2.2.2.2.2.2.1 x.2.2.2.2.2.2.2.2.2.2.2.2.2.2.2.2.2.2.1) x.2.2.2.2.2.2.2.2.2.2.2.2.2.2.2.2.2.2.2.1 x.2.2.2.2.2.2.2.2.2.2.2.2.2.2.2.2.2.2.2.2.1 x.2.2.2.2.2.2.2.2.2.2.2.2.2.2.2.2.2.2.2.2.2.1 x.2.2.2.2.2.2.2.2.2.2.2.2.2.2.2.2.2.2.2.2.2.2.1 x.2.2.2.2.2.2.2.2.2.2.2.2.2.2.2.2.2.2.2.2.2.2.2.1 x.2.2.2.2.2.2.2.2.2.2.2.2.2.2.2.2.2.2.2.2.2.2.2.2.1 x.2.2.2.2.2.2.2.2.2.2.2.2.2.2.2.2.2.2.2.2.2.2.2.2.2.1 x.2.2.2.2.2.2.2.2.2.2.2.2.2.2.2.2.2.2.2.2.2.2.2.2.2.2.1 x.2.2.2.2.2.2.2.2.2.2.2.2.2.2.2.2.2.2.2.2.2.2.2.2.2.2.2.1 x.2.2.2.2.2.2.2.2.2.2.2.2.2.2.2.2.2.2.2.2.2.2.2.2.2.2.2.2.1 x.2.2.2.2.2.2.2.2.2.2.2.2.2.2.2.2.2.2.2.2.2.2.2.2.2.2.2.2.2.1,(fun(p1:TStatement) (p2:TSpent) (p3:Int) (c0_0:Bool) (c0_1:Int) (c0_2:Int) (w1:List TQuestion) (w2k:List ByteArray) (w2v:List Int) (w3k:List ByteArray) (w3v:List (List Int)) (w4k:List ByteArray) (w4v:List Bool)=>(((OS.mk c0_0 c0_1 c0_2 w1 w2k w2v w3k w3v w4k w4v).x):List ByteArray)) (TStatement.mk x.1 x.2.1 x.2.2.1 x.2.2.2.1 x.2.2.2.2.1 x.2.2.2.2.2.1 x.2.2.2.2.2.2.1 x.2.2.2.2.2.2.2.1 x.2.2.2.2.2.2.2.2.1 x.2.2.2.2.2.2.2.2.2.1) (TSpent.mk x.2.2.2.2.2.2.2.2.2.2.1 x.2.2.2.2.2.2.2.2.2.2.2.1 x.2.2.2.2.2.2.2.2.2.2.2.2.1 x.2.2.2.2.2.2.2.2.2.2.2.2.2.1 x.2.2.2.2.2.2.2.2.2.2.2.2.2.2.1 x.2.2.2.2.2.2.2.2.2.2.2.2.2.2.2.1 x.2.2.2.2.2.2.2.2.2.2.2.2.2.2.2.2.1 x.2.2.2.2.2.2.2.2.2.2.2.2.2.2.2.2.2.1 x.2.2.2.2.2.2.2.2.2.2.2.2.2.2.2.2.2.2.1) x.2.2.2.2.2.2.2.2.2.2.2.2.2.2.2.2.2.2.2.1 x.2.2.2.2.2.2.2.2.2.2.2.2.2.2.2.2.2.2.2.2.1 x.2.2.2.2.2.2.2.2.2.2.2.2.2.2.2.2.2.2.2.2.2.1 x.2.2.2.2.2.2.2.2.2.2.2.2.2.2.2.2.2.2.2.2.2.2.1 x.2.2.2.2.2.2.2.2.2.2.2.2.2.2.2.2.2.2.2.2.2.2.2.1 x.2.2.2.2.2.2.2.2.2.2.2.2.2.2.2.2.2.2.2.2.2.2.2.2.1 x.2.2.2.2.2.2.2.2.2.2.2.2.2.2.2.2.2.2.2.2.2.2.2.2.2.1 x.2.2.2.2.2.2.2.2.2.2.2.2.2.2.2.2.2.2.2.2.2.2.2.2.2.2.1 x.2.2.2.2.2.2.2.2.2.2.2.2.2.2.2.2.2.2.2.2.2.2.2.2.2.2.2.1 x.2.2.2.2.2.2.2.2.2.2.2.2.2.2.2.2.2.2.2.2.2.2.2.2.2.2.2.2.1 x.2.2.2.2.2.2.2.2.2.2.2.2.2.2.2.2.2.2.2.2.2.2.2.2.2.2.2.2.2.1,(fun(p1:TStatement) (p2:TSpent) (p3:Int) (c0_0:Bool) (c0_1:Int) (c0_2:Int) (w1:List TQuestion) (w2k:List ByteArray) (w2v:List Int) (w3k:List ByteArray) (w3v:List (List Int)) (w4k:List ByteArray) (w4v:List Bool)=>(((OS.mk c0_0 c0_1 c0_2 w1 w2k w2v w3k w3v w4k w4v).y):List Bool)) (TStatement.mk x.1 x.2.1 x.2.2.1 x.2.2.2.1 x.2.2.2.2.1 x.2.2.2.2.2.1 x.2.2.2.2.2.2.1 x.2.2.2.2.2.2.2.1 x.2.2.2.2.2.2.2.2.1 x.2.2.2.2.2.2.2.2.2.1) (TSpent.mk x.2.2.2.2.2.2.2.2.2.2.1 x.2.2.2.2.2.2.2.2.2.2.2.1 x.2.2.2.2.2.2.2.2.2.2.2.2.1 x.2.2.2.2.2.2.2.2.2.2.2.2.2.1 x.2.2.2.2.2.2.2.2.2.2.2.2.2.2.1 x.2.2.2.2.2.2.2.2.2.2.2.2.2.2.2.1 x.2.2.2.2.2.2.2.2.2.2.2.2.2.2.2.2.1 x.2.2.2.2.2.2.2.2.2.2.2.2.2.2.2.2.2.1 x.2.2.2.2.2.2.2.2.2.2.2.2.2.2.2.2.2.2.1) x.2.2.2.2.2.2.2.2.2.2.2.2.2.2.2.2.2.2.2.1 x.2.2.2.2.2.2.2.2.2.2.2.2.2.2.2.2.2.2.2.2.1 x.2.2.2.2.2.2.2.2.2.2.2.2.2.2.2.2.2.2.2.2.2.1 x.2.2.2.2.2.2.2.2.2.2.2.2.2.2.2.2.2.2.2.2.2.2.1 x.2.2.2.2.2.2.2.2.2.2.2.2.2.2.2.2.2.2.2.2.2.2.2.1 x.2.2.2.2.2.2.2.2.2.2.2.2.2.2.2.2.2.2.2.2.2.2.2.2.1 x.2.2.2.2.2.2.2.2.2.2.2.2.2.2.2.2.2.2.2.2.2.2.2.2.2.1 x.2.2.2.2.2.2.2.2.2.2.2.2.2.2.2.2.2.2.2.2.2.2.2.2.2.2.1 x.2.2.2.2.2.2.2.2.2.2.2.2.2.2.2.2.2.2.2.2.2.2.2.2.2.2.2.1 x.2.2.2.2.2.2.2.2.2.2.2.2.2.2.2.2.2.2.2.2.2.2.2.2.2.2.2.2.1 x.2.2.2.2.2.2.2.2.2.2.2.2.2.2.2.2.2.2.2.2.2.2.2.2.2.2.2.2.2.1,())
theorem kw1:kgl.Ok Try.prog TB:=Con.ok_fn k16 bd33 fun x h=>kt9 (krs (TStatement.mk x.1 x.2.1 x.2.2.1 x.2.2.2.1 x.2.2.2.2.1 x.2.2.2.2.2.1 x.2.2.2.2.2.2.1 x.2.2.2.2.2.2.2.1 x.2.2.2.2.2.2.2.2.1 x.2.2.2.2.2.2.2.2.2.1) (TSpent.mk x.2.2.2.2.2.2.2.2.2.2.1 x.2.2.2.2.2.2.2.2.2.2.2.1 x.2.2.2.2.2.2.2.2.2.2.2.2.1 x.2.2.2.2.2.2.2.2.2.2.2.2.2.1 x.2.2.2.2.2.2.2.2.2.2.2.2.2.2.1 x.2.2.2.2.2.2.2.2.2.2.2.2.2.2.2.1 x.2.2.2.2.2.2.2.2.2.2.2.2.2.2.2.2.1 x.2.2.2.2.2.2.2.2.2.2.2.2.2.2.2.2.2.1 x.2.2.2.2.2.2.2.2.2.2.2.2.2.2.2.2.2.2.1) x.2.2.2.2.2.2.2.2.2.2.2.2.2.2.2.2.2.2.2.1 x.2.2.2.2.2.2.2.2.2.2.2.2.2.2.2.2.2.2.2.2.1 x.2.2.2.2.2.2.2.2.2.2.2.2.2.2.2.2.2.2.2.2.2.1 x.2.2.2.2.2.2.2.2.2.2.2.2.2.2.2.2.2.2.2.2.2.2.1 x.2.2.2.2.2.2.2.2.2.2.2.2.2.2.2.2.2.2.2.2.2.2.2.1 x.2.2.2.2.2.2.2.2.2.2.2.2.2.2.2.2.2.2.2.2.2.2.2.2.1 x.2.2.2.2.2.2.2.2.2.2.2.2.2.2.2.2.2.2.2.2.2.2.2.2.2.1 x.2.2.2.2.2.2.2.2.2.2.2.2.2.2.2.2.2.2.2.2.2.2.2.2.2.2.1 x.2.2.2.2.2.2.2.2.2.2.2.2.2.2.2.2.2.2.2.2.2.2.2.2.2.2.2.1 x.2.2.2.2.2.2.2.2.2.2.2.2.2.2.2.2.2.2.2.2.2.2.2.2.2.2.2.2.1 x.2.2.2.2.2.2.2.2.2.2.2.2.2.2.2.2.2.2.2.2.2.2.2.2.2.2.2.2.2.1 h)
def ko:Con TB.den:=Con.mk0 15 [.one (.ptr 0 0),.agg [.d (.int .i64),.d (.int .u64),.d (.sl (.int .u64)),.d (.sl (.int .u64)),.d (.sl (.int .u64)),.d (.int .u64),.d (.int .u64),.d (.int .u64),.d (.int .u64),.d (.int .u64)],.agg [.d (.sl (.st 0)),.d (.sl (.st 1)),.d (.int .u64)]] [.cells [.d (.bool),.d (.int .u64),.d (.int .i64),.own 1,.mp 2,.mp 3,.mp 4],.tip (.st 3),.map (.str) (.int .i64),.map (.str) (.sl (.int .u64)),.map (.str) (.bool)] (.one (.one (.d (.int .i64)))) [.cells [.d (.bool),.d (.int .u64),.d (.int .i64),.own 1,.mp 2,.mp 3,.mp 4],.tip (.st 3),.map (.str) (.int .i64),.map (.str) (.sl (.int .u64)),.map (.str) (.bool)]
abbrev kmu:=HL TB.den (hsT ko.ins (hsOs ko.pre))
abbrev kg:=HL TB.den (hsV ko.res (hsOs ko.post))
noncomputable def kw:Cx TB:=⟨inf,[ke3,kgl,kaz,kqh,kd1,kbr],[],4,[]⟩
noncomputable def k2i:Code:=Try.f15.body.getD .skip
noncomputable def k5f:List ResultVar:=Try.f15.results.toList
def k8e:Tm:=⟨[0,1,2,3,4,5,6],[.cells [.d (.bool),.d (.int .u64),.d (.int .i64),.own 1,.mp 2,.mp 3,.mp 4],.tip (.st 3),.map (.str) (.int .i64),.map (.str) (.sl (.int .u64)),.map (.str) (.bool),.cells [.d (.int .i64),.d (.int .u64),.d (.sl (.int .u64)),.d (.sl (.int .u64)),.d (.sl (.int .u64)),.d (.int .u64),.d (.int .u64),.d (.int .u64),.d (.int .u64),.d (.int .u64)],.cells [.d (.sl (.st 0)),.d (.sl (.st 1)),.d (.int .u64)]],[4,5],[.one (.ptr 5 0),.one (.ptr 6 0)],51⟩
def kjj (o:kg) (i:HL TB.den k8e.hs):Prop:=ghs TB [] (k8e.fill TB i) fun s=>WP TB kw 100 5 (cB (cB (cB (cB (cB k2i))))) .no s (retTQ TB kw ko k5f o)
structure k5e (o:kg) (i:HL TB.den k8e.hs):Prop where
 h:kjj o i
noncomputable def kkk (o:kg):An TB:= .jn k8e (k5e o) [] .no [] .no
def kzw (o:kg):=qS TB kw 100 5 (cB (cB (cB (cB k2i)))) (kkk o) (retTQ TB kw ko k5f o)
def k47:Tm:=⟨[0,1,2,3,4,5,6],[.cells [.d (.bool),.d (.int .u64),.d (.int .i64),.own 1,.mp 2,.mp 3,.mp 4],.tip (.st 3),.map (.str) (.int .i64),.map (.str) (.sl (.int .u64)),.map (.str) (.bool),.cells [.d (.int .i64),.d (.int .u64),.d (.sl (.int .u64)),.d (.sl (.int .u64)),.d (.sl (.int .u64)),.d (.int .u64),.d (.int .u64),.d (.int .u64),.d (.int .u64),.d (.int .u64)],.cells [.d (.sl (.st 0)),.d (.sl (.st 1)),.d (.int .u64)]],[0,4,5,40,41,42],[.one (.ptr 0 0),.one (.ptr 5 0),.one (.ptr 6 0),.one (.d (.sl (.st 1))),.one (.d (.int .i64)),.one (.d (.int .i64))],7⟩
def kzd (o:kg) (nx2:NX TB k47):=qM TB 5 k47 nx2 (blockT TB 2 (kzw o))
def k6t (o:kg) (nx2:NX TB k47) (i:HL TB.den k47.hs):Prop:=WP TB kw 100 5 (cA (cA (cB (cA (cB (cB (cB k2i))))))) .no (k47.fill TB i) (kzd o nx2)
noncomputable def kze (o:kg):An TB:= .lp [] k47 (k6t o) fun nx2=> .no
noncomputable def kkq (o:kg):An TB:= .nd [] (.nd [] .no [] (kze o)) [] (kkk o)
def kxm (o:kg):=qS TB kw 100 5 (cB (cB (cB k2i))) (kkq o) (retTQ TB kw ko k5f o)
def k46:Tm:=⟨[0,1,2,3,4,5,6],[.cells [.d (.bool),.d (.int .u64),.d (.int .i64),.own 1,.mp 2,.mp 3,.mp 4],.tip (.st 3),.map (.str) (.int .i64),.map (.str) (.sl (.int .u64)),.map (.str) (.bool),.cells [.d (.int .i64),.d (.int .u64),.d (.sl (.int .u64)),.d (.sl (.int .u64)),.d (.sl (.int .u64)),.d (.int .u64),.d (.int .u64),.d (.int .u64),.d (.int .u64),.d (.int .u64)],.cells [.d (.sl (.st 0)),.d (.sl (.st 1)),.d (.int .u64)]],[0,4,5,19,20,21],[.one (.ptr 0 0),.one (.ptr 5 0),.one (.ptr 6 0),.one (.d (.sl (.st 0))),.one (.d (.int .i64)),.one (.d (.int .i64))],7⟩
def kx7 (o:kg) (nx1:NX TB k46):=qM TB 5 k46 nx1 (blockT TB 0 (kxm o))
def k6v (o:kg) (nx1:NX TB k46) (i:HL TB.den k46.hs):Prop:=WP TB kw 100 5 (cA (cA (cB (cA (cB (cB k2i)))))) .no (k46.fill TB i) (kx7 o nx1)
noncomputable def kxf (o:kg):An TB:= .lp [] k46 (k6v o) fun nx1=> .no
noncomputable def kxk (o:kg):An TB:= .nd [] (.nd [] .no [] (kxf o)) [] (kkq o)
noncomputable def kkd (o:kg):An TB:= .nd [] .no [] (.nd [] .no [] (kxk o))
def kb8 (x:kmu) (o:kg):Prop:=WPh TB kw 100 5 k2i (kkd o) (ko.st TB x) (retTQ TB kw ko k5f o)
theorem kxg (o:kg):OblH TB kw 100 5 k2i (kkd o) (retTQ TB kw ko k5f o):=
 OblH.ofC (X:=((∀nx i,(k6v o) nx i=(k6v o) nx i)∧(∀nx1:NX TB k46,True)∧(∀nx i,(k6t o) nx i=(k6t o) nx i)∧(∀nx2:NX TB k47,True)∧(∀i,(k5e o) i=kjj o i)∧True)) (by kernel_rfl) ⟨fun _ _=>rfl,fun _=>trivial,fun _ _=>rfl,fun _=>trivial,fun _=>propext ⟨fun h=>h.1,fun h=>⟨h⟩⟩,trivial⟩
theorem kwe {x:kmu} {o:kg} (h:kb8 x o):ko.Snd Try.prog x o:=
 Con.soundH (c:=ko) (C:=kw) TBok ⟨inf_ok,(all_cons koh (all_cons kw1 (all_cons kj3 (all_cons k1ao (all_cons kn9 (all_cons kkn all_nil)))))),all_nil⟩ mix Try.func15 (show Try.f15.body=some k2i by kernel_rfl) (show Try.f15.ntmps=100 by kernel_rfl) (show Try.f15.results.toList=k5f by kernel_rfl) rfl h (kxg o)
theorem kzu {p1:TStatement} {p2:TWitness} {c0_0:Bool} {c0_1:Int} {c0_2:Int} {w1:List TQuestion} {w2k:List ByteArray} {w2v:List Int} {w3k:List ByteArray} {w3v:List (List Int)} {w4k:List ByteArray} {w4v:List Bool} {r0:Int} {d0_0:Bool} {d0_1:Int} {d0_2:Int} {e1:List TQuestion} {e2k:List ByteArray} {e2v:List Int} {e3k:List ByteArray} {e3v:List (List Int)} {e4k:List ByteArray} {e4v:List Bool} (h:
((SR p1∧WR p2)∧((!(relV p1 p2))=true→
(w1=w1)∧1=r0∧c0_0=d0_0∧c0_1=d0_1∧c0_2=d0_2∧w1=e1∧w2k=e2k∧w2v=e2v∧w3k=e3k∧w3v=e3v∧w4k=e4k∧w4v=e4v)∧
((!(relV p1 p2))=false→
(w1=w1)∧Md.Loop (p2.Ins,((p2.Ins.length:Int):Int),(0:Int),c0_0,c0_1,c0_2,p1.Depth,p1.Anchor,p1.Marks,p1.Commits,p1.Rhos,p1.Deposit,p1.Withdraw,p1.Fee,p1.Account,p1.Bind,p2.Ins,p2.Outs,p2.Secret,w1,w2k,w2v,w3k,w3v,w4k,w4v,()) (k6v (r0,d0_0,d0_1,d0_2,e1,e2k,e2v,e3k,e3v,e4k,e4v,()))))):kb8 (p1.Depth,p1.Anchor,p1.Marks,p1.Commits,p1.Rhos,p1.Deposit,p1.Withdraw,p1.Fee,p1.Account,p1.Bind,p2.Ins,p2.Outs,p2.Secret,c0_0,c0_1,c0_2,w1,w2k,w2v,w3k,w3v,w4k,w4v,()) (r0,d0_0,d0_1,d0_2,e1,e2k,e2v,e3k,e3v,e4k,e4v,()):=WPh.of_eq (by kernel_rfl) h
theorem ktb {r0:Int} {d0_0:Bool} {d0_1:Int} {d0_2:Int} {e1:List TQuestion} {e2k:List ByteArray} {e2v:List Int} {e3k:List ByteArray} {e3v:List (List Int)} {e4k:List ByteArray} {e4v:List Bool} {h0_0:Bool} {h0_1:Int} {h0_2:Int} {h5_0:Int} {h5_1:Int} {h5_2:List Int} {h5_3:List Int} {h5_4:List Int} {h5_5:Int} {h5_6:Int} {h5_7:Int} {h5_8:Int} {h5_9:Int} {h6_0:List TSpent} {h6_1:List TNote} {h6_2:Int} {g1:List TQuestion} {g2k:List ByteArray} {g2v:List Int} {g3k:List ByteArray} {g3v:List (List Int)} {g4k:List ByteArray} {g4v:List Bool} (h:
(((TWitness.mk h6_0 h6_1 h6_2).Ins.length≤9223372036854775807)∧let v24:Int:=IntKind.u64.wrap ((inS (TWitness.mk h6_0 h6_1 h6_2).Ins)+h5_5)
((TWitness.mk h6_0 h6_1 h6_2).Outs.length≤9223372036854775807)∧let v25:Int:=IntKind.u64.wrap ((outS (TWitness.mk h6_0 h6_1 h6_2).Outs)+h5_6)
((v24 !=(IntKind.u64.wrap (v25+h5_7)))=true→
(g1=g1)∧13=r0∧h0_0=d0_0∧h0_1=d0_1∧h0_2=d0_2∧g1=e1∧g2k=e2k∧g2v=e2v∧g3k=e3k∧g3v=e3v∧g4k=e4k∧g4v=e4v)∧
((v24 !=(IntKind.u64.wrap (v25+h5_7)))=false→
(g1=g1)∧0=r0∧h0_0=d0_0∧h0_1=d0_1∧h0_2=d0_2∧g1=e1∧g2k=e2k∧g2v=e2v∧g3k=e3k∧g3v=e3v∧g4k=e4k∧g4v=e4v))):k5e (r0,d0_0,d0_1,d0_2,e1,e2k,e2v,e3k,e3v,e4k,e4v,()) (h0_0,h0_1,h0_2,h5_0,h5_1,h5_2,h5_3,h5_4,h5_5,h5_6,h5_7,h5_8,h5_9,h6_0,h6_1,h6_2,g1,g2k,g2v,g3k,g3v,g4k,g4v,()):=⟨mpr_of (by kernel_rfl) h⟩
def kkh (r0:Int) (d0_0:Bool) (d0_1:Int) (d0_2:Int) (e1:List TQuestion) (e2k:List ByteArray) (e2v:List Int) (e3k:List ByteArray) (e3v:List (List Int)) (e4k:List ByteArray) (e4v:List Bool) (k1:Int→Bool→Int→Int→List TQuestion→List ByteArray→List Int→List ByteArray→List (List Int)→List ByteArray→List Bool→Prop) (s19:List TSpent) (s20:Int) (h5_0:Int) (h5_1:Int) (h5_2:List Int) (h5_3:List Int) (h5_4:List Int) (h5_5:Int) (h5_6:Int) (h5_7:Int) (h5_8:Int) (h5_9:Int) (h6_0:List TSpent) (h6_1:List TNote) (h6_2:Int) (s21:Int) (h0_0:Bool) (h0_1:Int) (h0_2:Int) (g1:List TQuestion) (g2k:List ByteArray) (g2v:List Int) (g3k:List ByteArray) (g3v:List (List Int)) (g4k:List ByteArray) (g4v:List Bool):Prop:=
(decide (s21<s20)=true→
(0≤s21)∧s21<(s19.length:Int)∧(0≤s21)∧s21<(h5_2.length:Int)∧(g1=g1)∧(PR (ix s19 s21)∧OOk (OS.mk h0_0 h0_1 h0_2 g1 g2k g2v g3k g3v g4k g4v))∧let r1:Int:=(inE (pk h0_0 g1 g2k g2v) (TStatement.mk h5_0 h5_1 h5_2 h5_3 h5_4 h5_5 h5_6 h5_7 h5_8 h5_9).Anchor (ix h5_2 s21) (ix s19 s21))
 let r2:Bool:=((OS.mk h0_0 h0_1 h0_2 g1 g2k g2v g3k g3v g4k g4v).a)
 let r3:Int:=((OS.mk h0_0 h0_1 h0_2 g1 g2k g2v g3k g3v g4k g4v).b)
 let r4:Int:=((OS.mk h0_0 h0_1 h0_2 g1 g2k g2v g3k g3v g4k g4v).c)
 let r5:List TQuestion:=((OS.mk h0_0 h0_1 h0_2 g1 g2k g2v g3k g3v g4k g4v).q)
 let r6:List ByteArray:=((OS.mk h0_0 h0_1 h0_2 g1 g2k g2v g3k g3v g4k g4v).k)
 let r7:List Int:=((OS.mk h0_0 h0_1 h0_2 g1 g2k g2v g3k g3v g4k g4v).v)
 let r8:List ByteArray:=((OS.mk h0_0 h0_1 h0_2 g1 g2k g2v g3k g3v g4k g4v).s)
 let r9:List (List Int):=((OS.mk h0_0 h0_1 h0_2 g1 g2k g2v g3k g3v g4k g4v).t)
 let r10:List ByteArray:=((OS.mk h0_0 h0_1 h0_2 g1 g2k g2v g3k g3v g4k g4v).x)
 let r11:List Bool:=((OS.mk h0_0 h0_1 h0_2 g1 g2k g2v g3k g3v g4k g4v).y)
((r1 !=0)=true→
(r5=r5)∧r1=r0∧r2=d0_0∧r3=d0_1∧r4=d0_2∧r5=e1∧r6=e2k∧r7=e2v∧r8=e3k∧r9=e3v∧r10=e4k∧r11=e4v)∧
((r1 !=0)=false→
(r5=r5)∧k1 (IntKind.i64.wrap (s21+1):Int) r2 r3 r4 r5 r6 r7 r8 r9 r10 r11))∧
(decide (s21<s20)=false→
(g1=g1)∧Md.Loop (h6_1,((h6_1.length:Int):Int),(0:Int),h0_0,h0_1,h0_2,h5_0,h5_1,h5_2,h5_3,h5_4,h5_5,h5_6,h5_7,h5_8,h5_9,h6_0,h6_1,h6_2,g1,g2k,g2v,g3k,g3v,g4k,g4v,()) (k6t (r0,d0_0,d0_1,d0_2,e1,e2k,e2v,e3k,e3v,e4k,e4v,())))
theorem kwc {r0:Int} {d0_0:Bool} {d0_1:Int} {d0_2:Int} {e1:List TQuestion} {e2k:List ByteArray} {e2v:List Int} {e3k:List ByteArray} {e3v:List (List Int)} {e4k:List ByteArray} {e4v:List Bool} {s19:List TSpent} {s20:Int} {h5_0:Int} {h5_1:Int} {h5_2:List Int} {h5_3:List Int} {h5_4:List Int} {h5_5:Int} {h5_6:Int} {h5_7:Int} {h5_8:Int} {h5_9:Int} {h6_0:List TSpent} {h6_1:List TNote} {h6_2:Int} {s21:Int} {h0_0:Bool} {h0_1:Int} {h0_2:Int} {g1:List TQuestion} {g2k:List ByteArray} {g2v:List Int} {g3k:List ByteArray} {g3v:List (List Int)} {g4k:List ByteArray} {g4v:List Bool} (inv:Int→Bool→Int→Int→List TQuestion→List ByteArray→List Int→List ByteArray→List (List Int)→List ByteArray→List Bool→Prop) (μ:Int→Bool→Int→Int→List TQuestion→List ByteArray→List Int→List ByteArray→List (List Int)→List ByteArray→List Bool→Nat) (h0:inv s21 h0_0 h0_1 h0_2 g1 g2k g2v g3k g3v g4k g4v) (hs:∀(s21:Int) (h0_0:Bool) (h0_1:Int) (h0_2:Int) (g1:List TQuestion) (g2k:List ByteArray) (g2v:List Int) (g3k:List ByteArray) (g3v:List (List Int)) (g4k:List ByteArray) (g4v:List Bool),inv s21 h0_0 h0_1 h0_2 g1 g2k g2v g3k g3v g4k g4v→kkh r0 d0_0 d0_1 d0_2 e1 e2k e2v e3k e3v e4k e4v (fun s21q h0_0q h0_1q h0_2q g1q g2kq g2vq g3kq g3vq g4kq g4vq=>inv s21q h0_0q h0_1q h0_2q g1q g2kq g2vq g3kq g3vq g4kq g4vq∧μ s21q h0_0q h0_1q h0_2q g1q g2kq g2vq g3kq g3vq g4kq g4vq<μ s21 h0_0 h0_1 h0_2 g1 g2k g2v g3k g3v g4k g4v) s19 s20 h5_0 h5_1 h5_2 h5_3 h5_4 h5_5 h5_6 h5_7 h5_8 h5_9 h6_0 h6_1 h6_2 s21 h0_0 h0_1 h0_2 g1 g2k g2v g3k g3v g4k g4v):Md.Loop (s19,s20,s21,h0_0,h0_1,h0_2,h5_0,h5_1,h5_2,h5_3,h5_4,h5_5,h5_6,h5_7,h5_8,h5_9,h6_0,h6_1,h6_2,g1,g2k,g2v,g3k,g3v,g4k,g4v,()) (k6v (r0,d0_0,d0_1,d0_2,e1,e2k,e2v,e3k,e3v,e4k,e4v,())):=
 ⟨⟨fun s:(List TSpent)×Int×Int×Bool×Int×Int×Int×Int×(List Int)×(List Int)×(List Int)×Int×Int×Int×Int×Int×(List TSpent)×(List TNote)×Int×(List TQuestion)×(List ByteArray)×(List Int)×(List ByteArray)×(List (List Int))×(List ByteArray)×(List Bool)×Unit=>(s.1=s19∧s.2.1=s20∧s.2.2.2.2.2.2.1=h5_0∧s.2.2.2.2.2.2.2.1=h5_1∧s.2.2.2.2.2.2.2.2.1=h5_2∧s.2.2.2.2.2.2.2.2.2.1=h5_3∧s.2.2.2.2.2.2.2.2.2.2.1=h5_4∧s.2.2.2.2.2.2.2.2.2.2.2.1=h5_5∧s.2.2.2.2.2.2.2.2.2.2.2.2.1=h5_6∧s.2.2.2.2.2.2.2.2.2.2.2.2.2.1=h5_7∧s.2.2.2.2.2.2.2.2.2.2.2.2.2.2.1=h5_8∧s.2.2.2.2.2.2.2.2.2.2.2.2.2.2.2.1=h5_9∧s.2.2.2.2.2.2.2.2.2.2.2.2.2.2.2.2.1=h6_0∧s.2.2.2.2.2.2.2.2.2.2.2.2.2.2.2.2.2.1=h6_1∧s.2.2.2.2.2.2.2.2.2.2.2.2.2.2.2.2.2.2.1=h6_2)∧inv s.2.2.1 s.2.2.2.1 s.2.2.2.2.1 s.2.2.2.2.2.1 s.2.2.2.2.2.2.2.2.2.2.2.2.2.2.2.2.2.2.2.1 s.2.2.2.2.2.2.2.2.2.2.2.2.2.2.2.2.2.2.2.2.1 s.2.2.2.2.2.2.2.2.2.2.2.2.2.2.2.2.2.2.2.2.2.1 s.2.2.2.2.2.2.2.2.2.2.2.2.2.2.2.2.2.2.2.2.2.2.1 s.2.2.2.2.2.2.2.2.2.2.2.2.2.2.2.2.2.2.2.2.2.2.2.1 s.2.2.2.2.2.2.2.2.2.2.2.2.2.2.2.2.2.2.2.2.2.2.2.2.1 s.2.2.2.2.2.2.2.2.2.2.2.2.2.2.2.2.2.2.2.2.2.2.2.2.2.1,fun s:(List TSpent)×Int×Int×Bool×Int×Int×Int×Int×(List Int)×(List Int)×(List Int)×Int×Int×Int×Int×Int×(List TSpent)×(List TNote)×Int×(List TQuestion)×(List ByteArray)×(List Int)×(List ByteArray)×(List (List Int))×(List ByteArray)×(List Bool)×Unit=>μ s.2.2.1 s.2.2.2.1 s.2.2.2.2.1 s.2.2.2.2.2.1 s.2.2.2.2.2.2.2.2.2.2.2.2.2.2.2.2.2.2.2.1 s.2.2.2.2.2.2.2.2.2.2.2.2.2.2.2.2.2.2.2.2.1 s.2.2.2.2.2.2.2.2.2.2.2.2.2.2.2.2.2.2.2.2.2.1 s.2.2.2.2.2.2.2.2.2.2.2.2.2.2.2.2.2.2.2.2.2.2.1 s.2.2.2.2.2.2.2.2.2.2.2.2.2.2.2.2.2.2.2.2.2.2.2.1 s.2.2.2.2.2.2.2.2.2.2.2.2.2.2.2.2.2.2.2.2.2.2.2.2.1 s.2.2.2.2.2.2.2.2.2.2.2.2.2.2.2.2.2.2.2.2.2.2.2.2.2.1,⟨⟨rfl,rfl,rfl,rfl,rfl,rfl,rfl,rfl,rfl,rfl,rfl,rfl,rfl,rfl,rfl⟩,h0⟩,fun(s19p,s20p,s21p,h0_0p,h0_1p,h0_2p,h5_0p,h5_1p,h5_2p,h5_3p,h5_4p,h5_5p,h5_6p,h5_7p,h5_8p,h5_9p,h6_0p,h6_1p,h6_2p,g1p,g2kp,g2vp,g3kp,g3vp,g4kp,g4vp,()) ⟨⟨eq0,eq1,eq2,eq3,eq4,eq5,eq6,eq7,eq8,eq9,eq10,eq11,eq12,eq13,eq14⟩,hi⟩=>by
  have eq0:s19p=s19:=eq0;subst s19p;have eq1:s20p=s20:=eq1;subst s20p;have eq2:h5_0p=h5_0:=eq2;subst h5_0p;have eq3:h5_1p=h5_1:=eq3;subst h5_1p;have eq4:h5_2p=h5_2:=eq4;subst h5_2p;have eq5:h5_3p=h5_3:=eq5;subst h5_3p;have eq6:h5_4p=h5_4:=eq6;subst h5_4p;have eq7:h5_5p=h5_5:=eq7;subst h5_5p;have eq8:h5_6p=h5_6:=eq8;subst h5_6p;have eq9:h5_7p=h5_7:=eq9;subst h5_7p;have eq10:h5_8p=h5_8:=eq10;subst h5_8p;have eq11:h5_9p=h5_9:=eq11;subst h5_9p;have eq12:h6_0p=h6_0:=eq12;subst h6_0p;have eq13:h6_1p=h6_1:=eq13;subst h6_1p;have eq14:h6_2p=h6_2:=eq14;subst h6_2p;exact mpr_of (by kernel_rfl) ((congrArg (fun k=>kkh r0 d0_0 d0_1 d0_2 e1 e2k e2v e3k e3v e4k e4v k s19 s20 h5_0 h5_1 h5_2 h5_3 h5_4 h5_5 h5_6 h5_7 h5_8 h5_9 h6_0 h6_1 h6_2 s21p h0_0p h0_1p h0_2p g1p g2kp g2vp g3kp g3vp g4kp g4vp) (lpk11 (⟨rfl,rfl,rfl,rfl,rfl,rfl,rfl,rfl,rfl,rfl,rfl,rfl,rfl,rfl,rfl⟩:s19=s19∧s20=s20∧h5_0=h5_0∧h5_1=h5_1∧h5_2=h5_2∧h5_3=h5_3∧h5_4=h5_4∧h5_5=h5_5∧h5_6=h5_6∧h5_7=h5_7∧h5_8=h5_8∧h5_9=h5_9∧h6_0=h6_0∧h6_1=h6_1∧h6_2=h6_2) inv (fun s21q h0_0q h0_1q h0_2q g1q g2kq g2vq g3kq g3vq g4kq g4vq=>μ s21q h0_0q h0_1q h0_2q g1q g2kq g2vq g3kq g3vq g4kq g4vq<μ s21p h0_0p h0_1p h0_2p g1p g2kp g2vp g3kp g3vp g4kp g4vp))).mpr (hs s21p h0_0p h0_1p h0_2p g1p g2kp g2vp g3kp g3vp g4kp g4vp hi))⟩⟩
def kkp (r0:Int) (d0_0:Bool) (d0_1:Int) (d0_2:Int) (e1:List TQuestion) (e2k:List ByteArray) (e2v:List Int) (e3k:List ByteArray) (e3v:List (List Int)) (e4k:List ByteArray) (e4v:List Bool) (k2:Int→Bool→Int→Int→List TQuestion→List ByteArray→List Int→List ByteArray→List (List Int)→List ByteArray→List Bool→Prop) (s40:List TNote) (s41:Int) (h5_0:Int) (h5_1:Int) (h5_2:List Int) (h5_3:List Int) (h5_4:List Int) (h5_5:Int) (h5_6:Int) (h5_7:Int) (h5_8:Int) (h5_9:Int) (h6_0:List TSpent) (h6_1:List TNote) (h6_2:Int) (s42:Int) (h0_0:Bool) (h0_1:Int) (h0_2:Int) (g1:List TQuestion) (g2k:List ByteArray) (g2v:List Int) (g3k:List ByteArray) (g3v:List (List Int)) (g4k:List ByteArray) (g4v:List Bool):Prop:=
(decide (s42<s41)=true→
(0≤s42)∧s42<(s40.length:Int)∧(g1=g1)∧(NR (ix s40 s42)∧OOk (OS.mk h0_0 h0_1 h0_2 g1 g2k g2v g3k g3v g4k g4v))∧let r12:Int:=((commP (pk h0_0 g1 g2k g2v) (ix s40 s42)).getD 0)
 let r13:Bool:=((commP (pk h0_0 g1 g2k g2v) (ix s40 s42)).isSome)
 let r14:Bool:=((OS.mk h0_0 h0_1 h0_2 g1 g2k g2v g3k g3v g4k g4v).a)
 let r15:Int:=((OS.mk h0_0 h0_1 h0_2 g1 g2k g2v g3k g3v g4k g4v).b)
 let r16:Int:=((OS.mk h0_0 h0_1 h0_2 g1 g2k g2v g3k g3v g4k g4v).c)
 let r17:List TQuestion:=((OS.mk h0_0 h0_1 h0_2 g1 g2k g2v g3k g3v g4k g4v).q)
 let r18:List ByteArray:=((OS.mk h0_0 h0_1 h0_2 g1 g2k g2v g3k g3v g4k g4v).k)
 let r19:List Int:=((OS.mk h0_0 h0_1 h0_2 g1 g2k g2v g3k g3v g4k g4v).v)
 let r20:List ByteArray:=((OS.mk h0_0 h0_1 h0_2 g1 g2k g2v g3k g3v g4k g4v).s)
 let r21:List (List Int):=((OS.mk h0_0 h0_1 h0_2 g1 g2k g2v g3k g3v g4k g4v).t)
 let r22:List ByteArray:=((OS.mk h0_0 h0_1 h0_2 g1 g2k g2v g3k g3v g4k g4v).x)
 let r23:List Bool:=((OS.mk h0_0 h0_1 h0_2 g1 g2k g2v g3k g3v g4k g4v).y)
((!r13)=true→
(r17=r17)∧1=r0∧r14=d0_0∧r15=d0_1∧r16=d0_2∧r17=e1∧r18=e2k∧r19=e2v∧r20=e3k∧r21=e3v∧r22=e4k∧r23=e4v)∧
((!r13)=false→
(0≤s42)∧s42<(h5_3.length:Int)∧((r12 !=(ix h5_3 s42))=true→
(r17=r17)∧1=r0∧r14=d0_0∧r15=d0_1∧r16=d0_2∧r17=e1∧r18=e2k∧r19=e2v∧r20=e3k∧r21=e3v∧r22=e4k∧r23=e4v)∧
((r12 !=(ix h5_3 s42))=false→
(0≤s42)∧s42<(h5_4.length:Int)∧((((ix s40 s42).Rho) !=(ix h5_4 s42))=true→
(r17=r17)∧1=r0∧r14=d0_0∧r15=d0_1∧r16=d0_2∧r17=e1∧r18=e2k∧r19=e2v∧r20=e3k∧r21=e3v∧r22=e4k∧r23=e4v)∧
((((ix s40 s42).Rho) !=(ix h5_4 s42))=false→
(r17=r17)∧k2 (IntKind.i64.wrap (s42+1):Int) r14 r15 r16 r17 r18 r19 r20 r21 r22 r23))))∧
(decide (s42<s41)=false→
(decide (0<h5_5)=true→
(U64 h6_2)∧((h5_8 !=(acctS h6_2))=true→
(g1=g1)∧21=r0∧h0_0=d0_0∧h0_1=d0_1∧h0_2=d0_2∧g1=e1∧g2k=e2k∧g2v=e2v∧g3k=e3k∧g3v=e3v∧g4k=e4k∧g4v=e4v)∧
((h5_8 !=(acctS h6_2))=false→
(g1=g1)∧k5e (r0,d0_0,d0_1,d0_2,e1,e2k,e2v,e3k,e3v,e4k,e4v,()) (h0_0,h0_1,h0_2,h5_0,h5_1,h5_2,h5_3,h5_4,h5_5,h5_6,h5_7,h5_8,h5_9,h6_0,h6_1,h6_2,g1,g2k,g2v,g3k,g3v,g4k,g4v,())))∧
(decide (0<h5_5)=false→
(g1=g1)∧k5e (r0,d0_0,d0_1,d0_2,e1,e2k,e2v,e3k,e3v,e4k,e4v,()) (h0_0,h0_1,h0_2,h5_0,h5_1,h5_2,h5_3,h5_4,h5_5,h5_6,h5_7,h5_8,h5_9,h6_0,h6_1,h6_2,g1,g2k,g2v,g3k,g3v,g4k,g4v,())))
theorem kx3 {r0:Int} {d0_0:Bool} {d0_1:Int} {d0_2:Int} {e1:List TQuestion} {e2k:List ByteArray} {e2v:List Int} {e3k:List ByteArray} {e3v:List (List Int)} {e4k:List ByteArray} {e4v:List Bool} {s40:List TNote} {s41:Int} {h5_0:Int} {h5_1:Int} {h5_2:List Int} {h5_3:List Int} {h5_4:List Int} {h5_5:Int} {h5_6:Int} {h5_7:Int} {h5_8:Int} {h5_9:Int} {h6_0:List TSpent} {h6_1:List TNote} {h6_2:Int} {s42:Int} {h0_0:Bool} {h0_1:Int} {h0_2:Int} {g1:List TQuestion} {g2k:List ByteArray} {g2v:List Int} {g3k:List ByteArray} {g3v:List (List Int)} {g4k:List ByteArray} {g4v:List Bool} (inv:Int→Bool→Int→Int→List TQuestion→List ByteArray→List Int→List ByteArray→List (List Int)→List ByteArray→List Bool→Prop) (μ:Int→Bool→Int→Int→List TQuestion→List ByteArray→List Int→List ByteArray→List (List Int)→List ByteArray→List Bool→Nat) (h0:inv s42 h0_0 h0_1 h0_2 g1 g2k g2v g3k g3v g4k g4v) (hs:∀(s42:Int) (h0_0:Bool) (h0_1:Int) (h0_2:Int) (g1:List TQuestion) (g2k:List ByteArray) (g2v:List Int) (g3k:List ByteArray) (g3v:List (List Int)) (g4k:List ByteArray) (g4v:List Bool),inv s42 h0_0 h0_1 h0_2 g1 g2k g2v g3k g3v g4k g4v→kkp r0 d0_0 d0_1 d0_2 e1 e2k e2v e3k e3v e4k e4v (fun s42q h0_0q h0_1q h0_2q g1q g2kq g2vq g3kq g3vq g4kq g4vq=>inv s42q h0_0q h0_1q h0_2q g1q g2kq g2vq g3kq g3vq g4kq g4vq∧μ s42q h0_0q h0_1q h0_2q g1q g2kq g2vq g3kq g3vq g4kq g4vq<μ s42 h0_0 h0_1 h0_2 g1 g2k g2v g3k g3v g4k g4v) s40 s41 h5_0 h5_1 h5_2 h5_3 h5_4 h5_5 h5_6 h5_7 h5_8 h5_9 h6_0 h6_1 h6_2 s42 h0_0 h0_1 h0_2 g1 g2k g2v g3k g3v g4k g4v):Md.Loop (s40,s41,s42,h0_0,h0_1,h0_2,h5_0,h5_1,h5_2,h5_3,h5_4,h5_5,h5_6,h5_7,h5_8,h5_9,h6_0,h6_1,h6_2,g1,g2k,g2v,g3k,g3v,g4k,g4v,()) (k6t (r0,d0_0,d0_1,d0_2,e1,e2k,e2v,e3k,e3v,e4k,e4v,())):=
 ⟨⟨fun s:(List TNote)×Int×Int×Bool×Int×Int×Int×Int×(List Int)×(List Int)×(List Int)×Int×Int×Int×Int×Int×(List TSpent)×(List TNote)×Int×(List TQuestion)×(List ByteArray)×(List Int)×(List ByteArray)×(List (List Int))×(List ByteArray)×(List Bool)×Unit=>(s.1=s40∧s.2.1=s41∧s.2.2.2.2.2.2.1=h5_0∧s.2.2.2.2.2.2.2.1=h5_1∧s.2.2.2.2.2.2.2.2.1=h5_2∧s.2.2.2.2.2.2.2.2.2.1=h5_3∧s.2.2.2.2.2.2.2.2.2.2.1=h5_4∧s.2.2.2.2.2.2.2.2.2.2.2.1=h5_5∧s.2.2.2.2.2.2.2.2.2.2.2.2.1=h5_6∧s.2.2.2.2.2.2.2.2.2.2.2.2.2.1=h5_7∧s.2.2.2.2.2.2.2.2.2.2.2.2.2.2.1=h5_8∧s.2.2.2.2.2.2.2.2.2.2.2.2.2.2.2.1=h5_9∧s.2.2.2.2.2.2.2.2.2.2.2.2.2.2.2.2.1=h6_0∧s.2.2.2.2.2.2.2.2.2.2.2.2.2.2.2.2.2.1=h6_1∧s.2.2.2.2.2.2.2.2.2.2.2.2.2.2.2.2.2.2.1=h6_2)∧inv s.2.2.1 s.2.2.2.1 s.2.2.2.2.1 s.2.2.2.2.2.1 s.2.2.2.2.2.2.2.2.2.2.2.2.2.2.2.2.2.2.2.1 s.2.2.2.2.2.2.2.2.2.2.2.2.2.2.2.2.2.2.2.2.1 s.2.2.2.2.2.2.2.2.2.2.2.2.2.2.2.2.2.2.2.2.2.1 s.2.2.2.2.2.2.2.2.2.2.2.2.2.2.2.2.2.2.2.2.2.2.1 s.2.2.2.2.2.2.2.2.2.2.2.2.2.2.2.2.2.2.2.2.2.2.2.1 s.2.2.2.2.2.2.2.2.2.2.2.2.2.2.2.2.2.2.2.2.2.2.2.2.1 s.2.2.2.2.2.2.2.2.2.2.2.2.2.2.2.2.2.2.2.2.2.2.2.2.2.1,fun s:(List TNote)×Int×Int×Bool×Int×Int×Int×Int×(List Int)×(List Int)×(List Int)×Int×Int×Int×Int×Int×(List TSpent)×(List TNote)×Int×(List TQuestion)×(List ByteArray)×(List Int)×(List ByteArray)×(List (List Int))×(List ByteArray)×(List Bool)×Unit=>μ s.2.2.1 s.2.2.2.1 s.2.2.2.2.1 s.2.2.2.2.2.1 s.2.2.2.2.2.2.2.2.2.2.2.2.2.2.2.2.2.2.2.1 s.2.2.2.2.2.2.2.2.2.2.2.2.2.2.2.2.2.2.2.2.1 s.2.2.2.2.2.2.2.2.2.2.2.2.2.2.2.2.2.2.2.2.2.1 s.2.2.2.2.2.2.2.2.2.2.2.2.2.2.2.2.2.2.2.2.2.2.1 s.2.2.2.2.2.2.2.2.2.2.2.2.2.2.2.2.2.2.2.2.2.2.2.1 s.2.2.2.2.2.2.2.2.2.2.2.2.2.2.2.2.2.2.2.2.2.2.2.2.1 s.2.2.2.2.2.2.2.2.2.2.2.2.2.2.2.2.2.2.2.2.2.2.2.2.2.1,⟨⟨rfl,rfl,rfl,rfl,rfl,rfl,rfl,rfl,rfl,rfl,rfl,rfl,rfl,rfl,rfl⟩,h0⟩,fun(s40p,s41p,s42p,h0_0p,h0_1p,h0_2p,h5_0p,h5_1p,h5_2p,h5_3p,h5_4p,h5_5p,h5_6p,h5_7p,h5_8p,h5_9p,h6_0p,h6_1p,h6_2p,g1p,g2kp,g2vp,g3kp,g3vp,g4kp,g4vp,()) ⟨⟨eq0,eq1,eq2,eq3,eq4,eq5,eq6,eq7,eq8,eq9,eq10,eq11,eq12,eq13,eq14⟩,hi⟩=>by
  have eq0:s40p=s40:=eq0;subst s40p;have eq1:s41p=s41:=eq1;subst s41p;have eq2:h5_0p=h5_0:=eq2;subst h5_0p;have eq3:h5_1p=h5_1:=eq3;subst h5_1p;have eq4:h5_2p=h5_2:=eq4;subst h5_2p;have eq5:h5_3p=h5_3:=eq5;subst h5_3p;have eq6:h5_4p=h5_4:=eq6;subst h5_4p;have eq7:h5_5p=h5_5:=eq7;subst h5_5p;have eq8:h5_6p=h5_6:=eq8;subst h5_6p;have eq9:h5_7p=h5_7:=eq9;subst h5_7p;have eq10:h5_8p=h5_8:=eq10;subst h5_8p;have eq11:h5_9p=h5_9:=eq11;subst h5_9p;have eq12:h6_0p=h6_0:=eq12;subst h6_0p;have eq13:h6_1p=h6_1:=eq13;subst h6_1p;have eq14:h6_2p=h6_2:=eq14;subst h6_2p;exact mpr_of (by kernel_rfl) ((congrArg (fun k=>kkp r0 d0_0 d0_1 d0_2 e1 e2k e2v e3k e3v e4k e4v k s40 s41 h5_0 h5_1 h5_2 h5_3 h5_4 h5_5 h5_6 h5_7 h5_8 h5_9 h6_0 h6_1 h6_2 s42p h0_0p h0_1p h0_2p g1p g2kp g2vp g3kp g3vp g4kp g4vp) (lpk11 (⟨rfl,rfl,rfl,rfl,rfl,rfl,rfl,rfl,rfl,rfl,rfl,rfl,rfl,rfl,rfl⟩:s40=s40∧s41=s41∧h5_0=h5_0∧h5_1=h5_1∧h5_2=h5_2∧h5_3=h5_3∧h5_4=h5_4∧h5_5=h5_5∧h5_6=h5_6∧h5_7=h5_7∧h5_8=h5_8∧h5_9=h5_9∧h6_0=h6_0∧h6_1=h6_1∧h6_2=h6_2) inv (fun s42q h0_0q h0_1q h0_2q g1q g2kq g2vq g3kq g3vq g4kq g4vq=>μ s42q h0_0q h0_1q h0_2q g1q g2kq g2vq g3kq g3vq g4kq g4vq<μ s42p h0_0p h0_1p h0_2p g1p g2kp g2vp g3kp g3vp g4kp g4vp))).mpr (hs s42p h0_0p h0_1p h0_2p g1p g2kp g2vp g3kp g3vp g4kp g4vp hi))⟩⟩
theorem bd15:Callable Try.prog 15:=⟨by rw[Try.func15];kernel_rfl,by rw[Try.func15];show some _≠some _;decide⟩
theorem kuh (p1:TStatement) (p2:TWitness) (c0_0:Bool) (c0_1:Int) (c0_2:Int) (w1:List TQuestion) (w2k:List ByteArray) (w2v:List Int) (w3k:List ByteArray) (w3v:List (List Int)) (w4k:List ByteArray) (w4v:List Bool) (h:SR p1∧WR p2∧OOk (OS.mk c0_0 c0_1 c0_2 w1 w2k w2v w3k w3v w4k w4v)):kb8 (p1.Depth,p1.Anchor,p1.Marks,p1.Commits,p1.Rhos,p1.Deposit,p1.Withdraw,p1.Fee,p1.Account,p1.Bind,p2.Ins,p2.Outs,p2.Secret,c0_0,c0_1,c0_2,w1,w2k,w2v,w3k,w3v,w4k,w4v,()) (((checkS (pk c0_0 w1 w2k w2v) p1 p2):Int),(((OS.mk c0_0 c0_1 c0_2 w1 w2k w2v w3k w3v w4k w4v).a):Bool),(((OS.mk c0_0 c0_1 c0_2 w1 w2k w2v w3k w3v w4k w4v).b):Int),(((OS.mk c0_0 c0_1 c0_2 w1 w2k w2v w3k w3v w4k w4v).c):Int),(((OS.mk c0_0 c0_1 c0_2 w1 w2k w2v w3k w3v w4k w4v).q):List TQuestion),(((OS.mk c0_0 c0_1 c0_2 w1 w2k w2v w3k w3v w4k w4v).k):List ByteArray),(((OS.mk c0_0 c0_1 c0_2 w1 w2k w2v w3k w3v w4k w4v).v):List Int),(((OS.mk c0_0 c0_1 c0_2 w1 w2k w2v w3k w3v w4k w4v).s):List ByteArray),(((OS.mk c0_0 c0_1 c0_2 w1 w2k w2v w3k w3v w4k w4v).t):List (List Int)),(((OS.mk c0_0 c0_1 c0_2 w1 w2k w2v w3k w3v w4k w4v).x):List ByteArray),(((OS.mk c0_0 c0_1 c0_2 w1 w2k w2v w3k w3v w4k w4v).y):List Bool),()):=by
 obtain⟨hs,hw,ho⟩:=h
 refine kzu ⟨⟨hs,hw⟩,fun e=> ?_,fun e=> ?_⟩
 ·have e:relV p1 p2=false:=by simpa using e
  unfold checkS
  rw[if_pos e]
  (repeat' apply And.intro)<;>first|rfl|exact True.intro
 have e:relV p1 p2=true:=by simpa using e
 have hv:p2.Ins.length=p1.Marks.length∧p2.Outs.length=p1.Commits.length∧p2.Outs.length=p1.Rhos.length:=by
  unfold relV at e
  simp only[Bool.and_eq_true,decide_eq_true_eq]at e
  exact⟨e.1.1.1.1.1.1.2,e.1.1.1.1.2,e.1.1.1.2⟩
 obtain⟨v1,v2,v3⟩:=hv
 have hil:=hw.il
 have hol:=hw.ol
 refine⟨(by first|exact rfl|exact True.intro),?_⟩
 refine kwc (fun i za zb zc zq zk zv zs zt zx zy=>(0≤i∧i≤p2.Ins.length∧insE (pk c0_0 w1 w2k w2v) p1.Anchor (p2.Ins.drop i.toNat) (p1.Marks.drop i.toNat)=insE (pk c0_0 w1 w2k w2v) p1.Anchor p2.Ins p1.Marks)∧c0_0=za∧c0_1=zb∧c0_2=zc∧w1=zq∧w2k=zk∧w2v=zv∧w3k=zs∧w3v=zt∧w4k=zx∧w4v=zy) (fun i _ _ _ _ _ _ _ _ _ _=>(p2.Ins.length-i).toNat) ⟨⟨by omega,by omega,rfl⟩,rfl,rfl,rfl,rfl,rfl,rfl,rfl,rfl,rfl,rfl⟩ ?_
 rintro i za zb zc zq zk zv zs zt zx zy ⟨⟨g0,g1,g2⟩,rfl,rfl,rfl,rfl,rfl,rfl,rfl,rfl,rfl,rfl⟩
 refine⟨fun hh=> ?_,fun hh=> ?_⟩
 ·have hh:=of_decide_eq_true hh
  have hp:=hw.i _ (ix_mem p2.Ins i g0 hh)
  have hd:=drop_ix p2.Ins i g0 hh
  have hd2:=drop_ix p1.Marks i g0 (by omega)
  rw[hd,hd2]at g2
  have g2:(if inE (pk c0_0 w1 w2k w2v) p1.Anchor (ix p1.Marks i) (ix p2.Ins i)≠0 then inE (pk c0_0 w1 w2k w2v) p1.Anchor (ix p1.Marks i) (ix p2.Ins i)else insE (pk c0_0 w1 w2k w2v) p1.Anchor (p2.Ins.drop (i+1).toNat) (p1.Marks.drop (i+1).toNat))=insE (pk c0_0 w1 w2k w2v) p1.Anchor p2.Ins p1.Marks:=g2
  have nx:=inc i p2.Ins.length g0 hh (by omega)
  refine⟨g0,hh,g0,by omega,(by first|exact rfl|exact True.intro),⟨hp,ho⟩,?_⟩
  simp only[k190]
  refine⟨fun e2=> ?_,fun e2=> ?_⟩
  ·have e2:inE (pk c0_0 w1 w2k w2v) p1.Anchor (ix p1.Marks i) (ix p2.Ins i)≠0:=by simpa using e2
   rw[if_pos e2]at g2
   refine⟨(by first|exact rfl|exact True.intro),?_,by(repeat' apply And.intro)<;>first|rfl|exact True.intro⟩
   have g2:_=insE (pk c0_0 w1 w2k w2v) p1.Anchor p2.Ins p1.Marks:=g2
   unfold checkS
   rw[if_neg (by simp[e]),if_pos (by rw[←g2];exact e2),←g2]
  ·have e2:inE (pk c0_0 w1 w2k w2v) p1.Anchor (ix p1.Marks i) (ix p2.Ins i)=0:=by simpa using e2
   rw[if_neg (by simp[e2])]at g2
   rw[nx]
   exact⟨(by first|exact rfl|exact True.intro),⟨⟨by omega,by omega,g2⟩,(by(repeat' apply And.intro)<;>first|rfl|exact True.intro)⟩,by omega⟩
 ·have hh:=of_decide_eq_false hh
  rw[List.drop_eq_nil_of_le (by omega)]at g2
  have g2:0=insE (pk c0_0 w1 w2k w2v) p1.Anchor p2.Ins p1.Marks:=g2
  have hck:checkS (pk c0_0 w1 w2k w2v) p1 p2=if outsB (pk c0_0 w1 w2k w2v) p2.Outs p1.Commits p1.Rhos=false then 1 else if 0<p1.Deposit∧p1.Account≠acctS p2.Secret then 21 else
    if(inS p2.Ins+p1.Deposit)%18446744073709551616≠((outS p2.Outs+p1.Withdraw)%18446744073709551616+p1.Fee)%18446744073709551616 then 13 else 0:=by
   conv=>lhs;unfold checkS
   rw[if_neg (by simp[e]),if_neg (by rw[←g2];simp)]
  rw[hck]
  refine⟨(by first|exact rfl|exact True.intro),?_⟩
  refine kx3 (fun i za zb zc zq zk zv zs zt zx zy=>(0≤i∧i≤p2.Outs.length∧outsB (pk c0_0 w1 w2k w2v) (p2.Outs.drop i.toNat) (p1.Commits.drop i.toNat) (p1.Rhos.drop i.toNat)=outsB (pk c0_0 w1 w2k w2v) p2.Outs p1.Commits p1.Rhos)∧c0_0=za∧c0_1=zb∧c0_2=zc∧w1=zq∧w2k=zk∧w2v=zv∧w3k=zs∧w3v=zt∧w4k=zx∧w4v=zy) (fun i _ _ _ _ _ _ _ _ _ _=>(p2.Outs.length-i).toNat) ⟨⟨by omega,by omega,rfl⟩,rfl,rfl,rfl,rfl,rfl,rfl,rfl,rfl,rfl,rfl⟩ ?_
  rintro k za zb zc zq zk zv zs zt zx zy ⟨⟨k0,k1,k2⟩,rfl,rfl,rfl,rfl,rfl,rfl,rfl,rfl,rfl,rfl⟩
  refine⟨fun hk=> ?_,fun hk=> ?_⟩
  ·have hk:=of_decide_eq_true hk
   have hp:=hw.o _ (ix_mem p2.Outs k k0 hk)
   rw[drop_ix p2.Outs k k0 hk,drop_ix p1.Commits k k0 (by omega),drop_ix p1.Rhos k k0 (by omega)]at k2
   have k2:(outB (pk c0_0 w1 w2k w2v) (ix p2.Outs k) (ix p1.Commits k) (ix p1.Rhos k)&&outsB (pk c0_0 w1 w2k w2v) (p2.Outs.drop (k+1).toNat) (p1.Commits.drop (k+1).toNat) (p1.Rhos.drop (k+1).toNat))=outsB (pk c0_0 w1 w2k w2v) p2.Outs p1.Commits p1.Rhos:=k2
   have nx:=inc k p2.Outs.length k0 hk (by omega)
   have bad:outB (pk c0_0 w1 w2k w2v) (ix p2.Outs k) (ix p1.Commits k) (ix p1.Rhos k)=false→outsB (pk c0_0 w1 w2k w2v) p2.Outs p1.Commits p1.Rhos=false:=fun hb=>by rw[hb]at k2;exact k2.symm
   refine⟨k0,hk,(by first|exact rfl|exact True.intro),⟨hp,ho⟩,?_⟩
   simp only[kn0]
   refine⟨fun e3=> ?_,fun e3=>⟨k0,by omega,fun e4=> ?_,fun e4=>⟨k0,by omega,fun e5=> ?_,fun e5=> ?_⟩⟩⟩
   ·rw[if_pos (bad (by unfold outB;rw[show(commP (pk c0_0 w1 w2k w2v) (ix p2.Outs k)).isSome=false by simpa using e3];rfl))]
    (repeat' apply And.intro)<;>first|rfl|exact True.intro
   ·rw[if_pos (bad (by
     have e4:¬(commP (pk c0_0 w1 w2k w2v) (ix p2.Outs k)).getD 0=ix p1.Commits k:=by simpa using e4
     simp[outB,e4]))]
    (repeat' apply And.intro)<;>first|rfl|exact True.intro
   ·rw[if_pos (bad (by
     have e5:¬(ix p2.Outs k).Rho=ix p1.Rhos k:=by simpa using e5
     simp[outB,e5]))]
    (repeat' apply And.intro)<;>first|rfl|exact True.intro
   ·have e3:(commP (pk c0_0 w1 w2k w2v) (ix p2.Outs k)).isSome=true:=by simpa using e3
    have e4:(commP (pk c0_0 w1 w2k w2v) (ix p2.Outs k)).getD 0=ix p1.Commits k:=by simpa using e4
    have e5:(ix p2.Outs k).Rho=ix p1.Rhos k:=by simpa using e5
    have hb:outB (pk c0_0 w1 w2k w2v) (ix p2.Outs k) (ix p1.Commits k) (ix p1.Rhos k)=true:=by simp[outB,e3,e4,e5]
    rw[hb,Bool.true_and]at k2
    rw[nx]
    exact⟨(by first|exact rfl|exact True.intro),⟨⟨by omega,by omega,k2⟩,(by(repeat' apply And.intro)<;>first|rfl|exact True.intro)⟩,by omega⟩
  ·have hk:=of_decide_eq_false hk
   rw[List.drop_eq_nil_of_le (by omega)]at k2
   have k2:true=outsB (pk c0_0 w1 w2k w2v) p2.Outs p1.Commits p1.Rhos:=k2
   rw[←k2]
   have j1:∀r:Int,(r=if(inS p2.Ins+p1.Deposit)%18446744073709551616≠((outS p2.Outs+p1.Withdraw)%18446744073709551616+p1.Fee)%18446744073709551616 then 13 else 0)→k5e (r,c0_0,c0_1,c0_2,w1,w2k,w2v,w3k,w3v,w4k,w4v,()) (c0_0,c0_1,c0_2,p1.Depth,p1.Anchor,p1.Marks,p1.Commits,p1.Rhos,p1.Deposit,p1.Withdraw,p1.Fee,p1.Account,p1.Bind,p2.Ins,p2.Outs,p2.Secret,w1,w2k,w2v,w3k,w3v,w4k,w4v,()):=by
    intro r hr
    refine ktb ⟨by show p2.Ins.length≤_;omega,by show p2.Outs.length≤_;omega,?_⟩
    simp only[u64w]
    refine⟨fun hb=> ?_,fun hb=> ?_⟩
    ·rw[hr,if_pos (by simpa using hb)]
     (repeat' apply And.intro)<;>first|rfl|exact True.intro
    ·rw[hr,if_neg (by simpa using hb)]
     (repeat' apply And.intro)<;>first|rfl|exact True.intro
   rw[if_neg (by simp)]
   refine⟨fun hd=>⟨hw.s,fun ha=> ?_,fun ha=>⟨(by first|exact rfl|exact True.intro),j1 _ ?_⟩⟩,fun hd=>⟨(by first|exact rfl|exact True.intro),j1 _ ?_⟩⟩
   ·have ha:¬p1.Account=acctS p2.Secret:=by simpa using ha
    rw[if_pos ⟨of_decide_eq_true hd,ha⟩]
    (repeat' apply And.intro)<;>first|rfl|exact True.intro
   ·have ha:p1.Account=acctS p2.Secret:=by simpa using ha
    rw[if_neg (fun h=>h.2 ha)]
   ·rw[if_neg (fun h=>of_decide_eq_false hd h.1)]
noncomputable def kc4:Con TB.den:=ko.fnR (fun x=>(fun(p1:TStatement) (p2:TWitness) (c0_0:Bool) (c0_1:Int) (c0_2:Int) (w1:List TQuestion) (w2k:List ByteArray) (w2v:List Int) (w3k:List ByteArray) (w3v:List (List Int)) (w4k:List ByteArray) (w4v:List Bool)=>SR p1∧WR p2∧OOk (OS.mk c0_0 c0_1 c0_2 w1 w2k w2v w3k w3v w4k w4v)) (TStatement.mk x.1 x.2.1 x.2.2.1 x.2.2.2.1 x.2.2.2.2.1 x.2.2.2.2.2.1 x.2.2.2.2.2.2.1 x.2.2.2.2.2.2.2.1 x.2.2.2.2.2.2.2.2.1 x.2.2.2.2.2.2.2.2.2.1) (TWitness.mk x.2.2.2.2.2.2.2.2.2.2.1 x.2.2.2.2.2.2.2.2.2.2.2.1 x.2.2.2.2.2.2.2.2.2.2.2.2.1) x.2.2.2.2.2.2.2.2.2.2.2.2.2.1 x.2.2.2.2.2.2.2.2.2.2.2.2.2.2.1 x.2.2.2.2.2.2.2.2.2.2.2.2.2.2.2.1 x.2.2.2.2.2.2.2.2.2.2.2.2.2.2.2.2.1 x.2.2.2.2.2.2.2.2.2.2.2.2.2.2.2.2.2.1 x.2.2.2.2.2.2.2.2.2.2.2.2.2.2.2.2.2.2.1 x.2.2.2.2.2.2.2.2.2.2.2.2.2.2.2.2.2.2.2.1 x.2.2.2.2.2.2.2.2.2.2.2.2.2.2.2.2.2.2.2.2.1 x.2.2.2.2.2.2.2.2.2.2.2.2.2.2.2.2.2.2.2.2.2.1 x.2.2.2.2.2.2.2.2.2.2.2.2.2.2.2.2.2.2.2.2.2.2.1) fun x=>((fun(p1:TStatement) (p2:TWitness) (c0_0:Bool) (c0_1:Int) (c0_2:Int) (w1:List TQuestion) (w2k:List ByteArray) (w2v:List Int) (w3k:List ByteArray) (w3v:List (List Int)) (w4k:List ByteArray) (w4v:List Bool)=>((checkS (pk c0_0 w1 w2k w2v) p1 p2):Int)) (TStatement.mk x.1 x.2.1 x.2.2.1 x.2.2.2.1 x.2.2.2.2.1 x.2.2.2.2.2.1 x.2.2.2.2.2.2.1 x.2.2.2.2.2.2.2.1 x.2.2.2.2.2.2.2.2.1 x.2.2.2.2.2.2.2.2.2.1) (TWitness.mk x.2.2.2.2.2.2.2.2.2.2.1 x.2.2.2.2.2.2.2.2.2.2.2.1 x.2.2.2.2.2.2.2.2.2.2.2.2.1) x.2.2.2.2.2.2.2.2.2.2.2.2.2.1 x.2.2.2.2.2.2.2.2.2.2.2.2.2.2.1 x.2.2.2.2.2.2.2.2.2.2.2.2.2.2.2.1 x.2.2.2.2.2.2.2.2.2.2.2.2.2.2.2.2.1 x.2.2.2.2.2.2.2.2.2.2.2.2.2.2.2.2.2.1 x.2.2.2.2.2.2.2.2.2.2.2.2.2.2.2.2.2.2.1 x.2.2.2.2.2.2.2.2.2.2.2.2.2.2.2.2.2.2.2.1 x.2.2.2.2.2.2.2.2.2.2.2.2.2.2.2.2.2.2.2.2.1 x.2.2.2.2.2.2.2.2.2.2.2.2.2.2.2.2.2.2.2.2.2.1 x.2.2.2.2.2.2.2.2.2.2.2.2.2.2.2.2.2.2.2.2.2.2.1,(fun(p1:TStatement) (p2:TWitness) (c0_0:Bool) (c0_1:Int) (c0_2:Int) (w1:List TQuestion) (w2k:List ByteArray) (w2v:List Int) (w3k:List ByteArray) (w3v:List (List Int)) (w4k:List ByteArray) (w4v:List Bool)=>(((OS.mk c0_0 c0_1 c0_2 w1 w2k w2v w3k w3v w4k w4v).a):Bool)) (TStatement.mk x.1 x.2.1 x.2.2.1 x.2.2.2.1 x.2.2.2.2.1 x.2.2.2.2.2.1 x.2.2.2.2.2.2.1 x.2.2.2.2.2.2.2.1 x.2.2.2.2.2.2.2.2.1 x.2.2.2.2.2.2.2.2.2.1) (TWitness.mk x.2.2.2.2.2.2.2.2.2.2.1 x.2.2.2.2.2.2.2.2.2.2.2.1 x.2.2.2.2.2.2.2.2.2.2.2.2.1) x.2.2.2.2.2.2.2.2.2.2.2.2.2.1 x.2.2.2.2.2.2.2.2.2.2.2.2.2.2.1 x.2.2.2.2.2.2.2.2.2.2.2.2.2.2.2.1 x.2.2.2.2.2.2.2.2.2.2.2.2.2.2.2.2.1 x.2.2.2.2.2.2.2.2.2.2.2.2.2.2.2.2.2.1 x.2.2.2.2.2.2.2.2.2.2.2.2.2.2.2.2.2.2.1 x.2.2.2.2.2.2.2.2.2.2.2.2.2.2.2.2.2.2.2.1 x.2.2.2.2.2.2.2.2.2.2.2.2.2.2.2.2.2.2.2.2.1 x.2.2.2.2.2.2.2.2.2.2.2.2.2.2.2.2.2.2.2.2.2.1 x.2.2.2.2.2.2.2.2.2.2.2.2.2.2.2.2.2.2.2.2.2.2.1,(fun(p1:TStatement) (p2:TWitness) (c0_0:Bool) (c0_1:Int) (c0_2:Int) (w1:List TQuestion) (w2k:List ByteArray) (w2v:List Int) (w3k:List ByteArray) (w3v:List (List Int)) (w4k:List ByteArray) (w4v:List Bool)=>(((OS.mk c0_0 c0_1 c0_2 w1 w2k w2v w3k w3v w4k w4v).b):Int)) (TStatement.mk x.1 x.2.1 x.2.2.1 x.2.2.2.1 x.2.2.2.2.1 x.2.2.2.2.2.1 x.2.2.2.2.2.2.1 x.2.2.2.2.2.2.2.1 x.2.2.2.2.2.2.2.2.1 x.2.2.2.2.2.2.2.2.2.1) (TWitness.mk x.2.2.2.2.2.2.2.2.2.2.1 x.2.2.2.2.2.2.2.2.2.2.2.1 x.2.2.2.2.2.2.2.2.2.2.2.2.1) x.2.2.2.2.2.2.2.2.2.2.2.2.2.1 x.2.2.2.2.2.2.2.2.2.2.2.2.2.2.1 x.2.2.2.2.2.2.2.2.2.2.2.2.2.2.2.1 x.2.2.2.2.2.2.2.2.2.2.2.2.2.2.2.2.1 x.2.2.2.2.2.2.2.2.2.2.2.2.2.2.2.2.2.1 x.2.2.2.2.2.2.2.2.2.2.2.2.2.2.2.2.2.2.1 x.2.2.2.2.2.2.2.2.2.2.2.2.2.2.2.2.2.2.2.1 x.2.2.2.2.2.2.2.2.2.2.2.2.2.2.2.2.2.2.2.2.1 x.2.2.2.2.2.2.2.2.2.2.2.2.2.2.2.2.2.2.2.2.2.1 x.2.2.2.2.2.2.2.2.2.2.2.2.2.2.2.2.2.2.2.2.2.2.1,(fun(p1:TStatement) (p2:TWitness) (c0_0:Bool) (c0_1:Int) (c0_2:Int) (w1:List TQuestion) (w2k:List ByteArray) (w2v:List Int) (w3k:List ByteArray) (w3v:List (List Int)) (w4k:List ByteArray) (w4v:List Bool)=>(((OS.mk c0_0 c0_1 c0_2 w1 w2k w2v w3k w3v w4k w4v).c):Int)) (TStatement.mk x.1 x.2.1 x.2.2.1 x.2.2.2.1 x.2.2.2.2.1 x.2.2.2.2.2.1 x.2.2.2.2.2.2.1 x.2.2.2.2.2.2.2.1 x.2.2.2.2.2.2.2.2.1 x.2.2.2.2.2.2.2.2.2.1) (TWitness.mk x.2.2.2.2.2.2.2.2.2.2.1 x.2.2.2.2.2.2.2.2.2.2.2.1 x.2.2.2.2.2.2.2.2.2.2.2.2.1) x.2.2.2.2.2.2.2.2.2.2.2.2.2.1 x.2.2.2.2.2.2.2.2.2.2.2.2.2.2.1 x.2.2.2.2.2.2.2.2.2.2.2.2.2.2.2.1 x.2.2.2.2.2.2.2.2.2.2.2.2.2.2.2.2.1 x.2.2.2.2.2.2.2.2.2.2.2.2.2.2.2.2.2.1 x.2.2.2.2.2.2.2.2.2.2.2.2.2.2.2.2.2.2.1 x.2.2.2.2.2.2.2.2.2.2.2.2.2.2.2.2.2.2.2.1 x.2.2.2.2.2.2.2.2.2.2.2.2.2.2.2.2.2.2.2.2.1 x.2.2.2.2.2.2.2.2.2.2.2.2.2.2.2.2.2.2.2.2.2.1 x.2.2.2.2.2.2.2.2.2.2.2.2.2.2.2.2.2.2.2.2.2.2.1,(fun(p1:TStatement) (p2:TWitness) (c0_0:Bool) (c0_1:Int) (c0_2:Int) (w1:List TQuestion) (w2k:List ByteArray) (w2v:List Int) (w3k:List ByteArray) (w3v:List (List Int)) (w4k:List ByteArray) (w4v:List Bool)=>(((OS.mk c0_0 c0_1 c0_2 w1 w2k w2v w3k w3v w4k w4v).q):List TQuestion)) (TStatement.mk x.1 x.2.1 x.2.2.1 x.2.2.2.1 x.2.2.2.2.1 x.2.2.2.2.2.1 x.2.2.2.2.2.2.1 x.2.2.2.2.2.2.2.1 x.2.2.2.2.2.2.2.2.1 x.2.2.2.2.2.2.2.2.2.1) (TWitness.mk x.2.2.2.2.2.2.2.2.2.2.1 x.2.2.2.2.2.2.2.2.2.2.2.1 x.2.2.2.2.2.2.2.2.2.2.2.2.1) x.2.2.2.2.2.2.2.2.2.2.2.2.2.1 x.2.2.2.2.2.2.2.2.2.2.2.2.2.2.1 x.2.2.2.2.2.2.2.2.2.2.2.2.2.2.2.1 x.2.2.2.2.2.2.2.2.2.2.2.2.2.2.2.2.1 x.2.2.2.2.2.2.2.2.2.2.2.2.2.2.2.2.2.1 x.2.2.2.2.2.2.2.2.2.2.2.2.2.2.2.2.2.2.1 x.2.2.2.2.2.2.2.2.2.2.2.2.2.2.2.2.2.2.2.1 x.2.2.2.2.2.2.2.2.2.2.2.2.2.2.2.2.2.2.2.2.1 x.2.2.2.2.2.2.2.2.2.2.2.2.2.2.2.2.2.2.2.2.2.1 x.2.2.2.2.2.2.2.2.2.2.2.2.2.2.2.2.2.2.2.2.2.2.1,(fun(p1:TStatement) (p2:TWitness) (c0_0:Bool) (c0_1:Int) (c0_2:Int) (w1:List TQuestion) (w2k:List ByteArray) (w2v:List Int) (w3k:List ByteArray) (w3v:List (List Int)) (w4k:List ByteArray) (w4v:List Bool)=>(((OS.mk c0_0 c0_1 c0_2 w1 w2k w2v w3k w3v w4k w4v).k):List ByteArray)) (TStatement.mk x.1 x.2.1 x.2.2.1 x.2.2.2.1 x.2.2.2.2.1 x.2.2.2.2.2.1 x.2.2.2.2.2.2.1 x.2.2.2.2.2.2.2.1 x.2.2.2.2.2.2.2.2.1 x.2.2.2.2.2.2.2.2.2.1) (TWitness.mk x.2.2.2.2.2.2.2.2.2.2.1 x.2.2.2.2.2.2.2.2.2.2.2.1 x.2.2.2.2.2.2.2.2.2.2.2.2.1) x.2.2.2.2.2.2.2.2.2.2.2.2.2.1 x.2.2.2.2.2.2.2.2.2.2.2.2.2.2.1 x.2.2.2.2.2.2.2.2.2.2.2.2.2.2.2.1 x.2.2.2.2.2.2.2.2.2.2.2.2.2.2.2.2.1 x.2.2.2.2.2.2.2.2.2.2.2.2.2.2.2.2.2.1 x.2.2.2.2.2.2.2.2.2.2.2.2.2.2.2.2.2.2.1 x.2.2.2.2.2.2.2.2.2.2.2.2.2.2.2.2.2.2.2.1 x.2.2.2.2.2.2.2.2.2.2.2.2.2.2.2.2.2.2.2.2.1 x.2.2.2.2.2.2.2.2.2.2.2.2.2.2.2.2.2.2.2.2.2.1 x.2.2.2.2.2.2.2.2.2.2.2.2.2.2.2.2.2.2.2.2.2.2.1,(fun(p1:TStatement) (p2:TWitness) (c0_0:Bool) (c0_1:Int) (c0_2:Int) (w1:List TQuestion) (w2k:List ByteArray) (w2v:List Int) (w3k:List ByteArray) (w3v:List (List Int)) (w4k:List ByteArray) (w4v:List Bool)=>(((OS.mk c0_0 c0_1 c0_2 w1 w2k w2v w3k w3v w4k w4v).v):List Int)) (TStatement.mk x.1 x.2.1 x.2.2.1 x.2.2.2.1 x.2.2.2.2.1 x.2.2.2.2.2.1 x.2.2.2.2.2.2.1 x.2.2.2.2.2.2.2.1 x.2.2.2.2.2.2.2.2.1 x.2.2.2.2.2.2.2.2.2.1) (TWitness.mk x.2.2.2.2.2.2.2.2.2.2.1 x.2.2.2.2.2.2.2.2.2.2.2.1 x.2.2.2.2.2.2.2.2.2.2.2.2.1) x.2.2.2.2.2.2.2.2.2.2.2.2.2.1 x.2.2.2.2.2.2.2.2.2.2.2.2.2.2.1 x.2.2.2.2.2.2.2.2.2.2.2.2.2.2.2.1 x.2.2.2.2.2.2.2.2.2.2.2.2.2.2.2.2.1 x.2.2.2.2.2.2.2.2.2.2.2.2.2.2.2.2.2.1 x.2.2.2.2.2.2.2.2.2.2.2.2.2.2.2.2.2.2.1 x.2.2.2.2.2.2.2.2.2.2.2.2.2.2.2.2.2.2.2.1 x.2.2.2.2.2.2.2.2.2.2.2.2.2.2.2.2.2.2.2.2.1 x.2.2.2.2.2.2.2.2.2.2.2.2.2.2.2.2.2.2.2.2.2.1 x.2.2.2.2.2.2.2.2.2.2.2.2.2.2.2.2.2.2.2.2.2.2.1,(fun(p1:TStatement) (p2:TWitness) (c0_0:Bool) (c0_1:Int) (c0_2:Int) (w1:List TQuestion) (w2k:List ByteArray) (w2v:List Int) (w3k:List ByteArray) (w3v:List (List Int)) (w4k:List ByteArray) (w4v:List Bool)=>(((OS.mk c0_0 c0_1 c0_2 w1 w2k w2v w3k w3v w4k w4v).s):List ByteArray)) (TStatement.mk x.1 x.2.1 x.2.2.1 x.2.2.2.1 x.2.2.2.2.1 x.2.2.2.2.2.1 x.2.2.2.2.2.2.1 x.2.2.2.2.2.2.2.1 x.2.2.2.2.2.2.2.2.1 x.2.2.2.2.2.2.2.2.2.1) (TWitness.mk x.2.2.2.2.2.2.2.2.2.2.1 x.2.2.2.2.2.2.2.2.2.2.2.1 x.2.2.2.2.2.2.2.2.2.2.2.2.1) x.2.2.2.2.2.2.2.2.2.2.2.2.2.1 x.2.2.2.2.2.2.2.2.2.2.2.2.2.2.1 x.2.2.2.2.2.2.2.2.2.2.2.2.2.2.2.1 x.2.2.2.2.2.2.2.2.2.2.2.2.2.2.2.2.1 x.2.2.2.2.2.2.2.2.2.2.2.2.2.2.2.2.2.1 x.2.2.2.2.2.2.2.2.2.2.2.2.2.2.2.2.2.2.1 x.2.2.2.2.2.2.2.2.2.2.2.2.2.2.2.2.2.2.2.1 x.2.2.2.2.2.2.2.2.2.2.2.2.2.2.2.2.2.2.2.2.1 x.2.2.2.2.2.2.2.2.2.2.2.2.2.2.2.2.2.2.2.2.2.1 x.2.2.2.2.2.2.2.2.2.2.2.2.2.2.2.2.2.2.2.2.2.2.1,(fun(p1:TStatement) (p2:TWitness) (c0_0:Bool) (c0_1:Int) (c0_2:Int) (w1:List TQuestion) (w2k:List ByteArray) (w2v:List Int) (w3k:List ByteArray) (w3v:List (List Int)) (w4k:List ByteArray) (w4v:List Bool)=>(((OS.mk c0_0 c0_1 c0_2 w1 w2k w2v w3k w3v w4k w4v).t):List (List Int))) (TStatement.mk x.1 x.2.1 x.2.2.1 x.2.2.2.1 x.2.2.2.2.1 x.2.2.2.2.2.1 x.2.2.2.2.2.2.1 x.2.2.2.2.2.2.2.1 x.2.2.2.2.2.2.2.2.1 x.2.2.2.2.2.2.2.2.2.1) (TWitness.mk x.2.2.2.2.2.2.2.2.2.2.1 x.2.2.2.2.2.2.2.2.2.2.2.1 x.2.2.2.2.2.2.2.2.2.2.2.2.1) x.2.2.2.2.2.2.2.2.2.2.2.2.2.1 x.2.2.2.2.2.2.2.2.2.2.2.2.2.2.1 x.2.2.2.2.2.2.2.2.2.2.2.2.2.2.2.1 x.2.2.2.2.2.2.2.2.2.2.2.2.2.2.2.2.1 x.2.2.2.2.2.2.2.2.2.2.2.2.2.2.2.2.2.1 x.2.2.2.2.2.2.2.2.2.2.2.2.2.2.2.2.2.2.1 x.2.2.2.2.2.2.2.2.2.2.2.2.2.2.2.2.2.2.2.1 x.2.2.2.2.2.2.2.2.2.2.2.2.2.2.2.2.2.2.2.2.1 x.2.2.2.2.2.2.2.2.2.2.2.2.2.2.2.2.2.2.2.2.2.1 x.2.2.2.2.2.2.2.2.2.2.2.2.2.2.2.2.2.2.2.2.2.2.1,(fun(p1:TStatement) (p2:TWitness) (c0_0:Bool) (c0_1:Int) (c0_2:Int) (w1:List TQuestion) (w2k:List ByteArray) (w2v:List Int) (w3k:List ByteArray) (w3v:List (List Int)) (w4k:List ByteArray) (w4v:List Bool)=>(((OS.mk c0_0 c0_1 c0_2 w1 w2k w2v w3k w3v w4k w4v).x):List ByteArray)) (TStatement.mk x.1 x.2.1 x.2.2.1 x.2.2.2.1 x.2.2.2.2.1 x.2.2.2.2.2.1 x.2.2.2.2.2.2.1 x.2.2.2.2.2.2.2.1 x.2.2.2.2.2.2.2.2.1 x.2.2.2.2.2.2.2.2.2.1) (TWitness.mk x.2.2.2.2.2.2.2.2.2.2.1 x.2.2.2.2.2.2.2.2.2.2.2.1 x.2.2.2.2.2.2.2.2.2.2.2.2.1) x.2.2.2.2.2.2.2.2.2.2.2.2.2.1 x.2.2.2.2.2.2.2.2.2.2.2.2.2.2.1 x.2.2.2.2.2.2.2.2.2.2.2.2.2.2.2.1 x.2.2.2.2.2.2.2.2.2.2.2.2.2.2.2.2.1 x.2.2.2.2.2.2.2.2.2.2.2.2.2.2.2.2.2.1 x.2.2.2.2.2.2.2.2.2.2.2.2.2.2.2.2.2.2.1 x.2.2.2.2.2.2.2.2.2.2.2.2.2.2.2.2.2.2.2.1 x.2.2.2.2.2.2.2.2.2.2.2.2.2.2.2.2.2.2.2.2.1 x.2.2.2.2.2.2.2.2.2.2.2.2.2.2.2.2.2.2.2.2.2.1 x.2.2.2.2.2.2.2.2.2.2.2.2.2.2.2.2.2.2.2.2.2.2.1,(fun(p1:TStatement) (p2:TWitness) (c0_0:Bool) (c0_1:Int) (c0_2:Int) (w1:List TQuestion) (w2k:List ByteArray) (w2v:List Int) (w3k:List ByteArray) (w3v:List (List Int)) (w4k:List ByteArray) (w4v:List Bool)=>(((OS.mk c0_0 c0_1 c0_2 w1 w2k w2v w3k w3v w4k w4v).y):List Bool)) (TStatement.mk x.1 x.2.1 x.2.2.1 x.2.2.2.1 x.2.2.2.2.1 x.2.2.2.2.2.1 x.2.2.2.2.2.2.1 x.2.2.2.2.2.2.2.1 x.2.2.2.2.2.2.2.2.1 x.2.2.2.2.2.2.2.2.2.1) (TWitness.mk x.2.2.2.2.2.2.2.2.2.2.1 x.2.2.2.2.2.2.2.2.2.2.2.1 x.2.2.2.2.2.2.2.2.2.2.2.2.1) x.2.2.2.2.2.2.2.2.2.2.2.2.2.1 x.2.2.2.2.2.2.2.2.2.2.2.2.2.2.1 x.2.2.2.2.2.2.2.2.2.2.2.2.2.2.2.1 x.2.2.2.2.2.2.2.2.2.2.2.2.2.2.2.2.1 x.2.2.2.2.2.2.2.2.2.2.2.2.2.2.2.2.2.1 x.2.2.2.2.2.2.2.2.2.2.2.2.2.2.2.2.2.2.1 x.2.2.2.2.2.2.2.2.2.2.2.2.2.2.2.2.2.2.2.1 x.2.2.2.2.2.2.2.2.2.2.2.2.2.2.2.2.2.2.2.2.1 x.2.2.2.2.2.2.2.2.2.2.2.2.2.2.2.2.2.2.2.2.2.1 x.2.2.2.2.2.2.2.2.2.2.2.2.2.2.2.2.2.2.2.2.2.2.1,())
theorem kko:kc4.Ok Try.prog TB:=Con.ok_fn ko bd15 fun x h=>kwe (kuh (TStatement.mk x.1 x.2.1 x.2.2.1 x.2.2.2.1 x.2.2.2.2.1 x.2.2.2.2.2.1 x.2.2.2.2.2.2.1 x.2.2.2.2.2.2.2.1 x.2.2.2.2.2.2.2.2.1 x.2.2.2.2.2.2.2.2.2.1) (TWitness.mk x.2.2.2.2.2.2.2.2.2.2.1 x.2.2.2.2.2.2.2.2.2.2.2.1 x.2.2.2.2.2.2.2.2.2.2.2.2.1) x.2.2.2.2.2.2.2.2.2.2.2.2.2.1 x.2.2.2.2.2.2.2.2.2.2.2.2.2.2.1 x.2.2.2.2.2.2.2.2.2.2.2.2.2.2.2.1 x.2.2.2.2.2.2.2.2.2.2.2.2.2.2.2.2.1 x.2.2.2.2.2.2.2.2.2.2.2.2.2.2.2.2.2.1 x.2.2.2.2.2.2.2.2.2.2.2.2.2.2.2.2.2.2.1 x.2.2.2.2.2.2.2.2.2.2.2.2.2.2.2.2.2.2.2.1 x.2.2.2.2.2.2.2.2.2.2.2.2.2.2.2.2.2.2.2.2.1 x.2.2.2.2.2.2.2.2.2.2.2.2.2.2.2.2.2.2.2.2.2.1 x.2.2.2.2.2.2.2.2.2.2.2.2.2.2.2.2.2.2.2.2.2.2.1 h)
def k4q:Con TB.den:=Con.mk0 8 [] [] (.one (.one (.d (.bool)))) []
abbrev k151:=HL TB.den (hsT k4q.ins (hsOs k4q.pre))
abbrev kmk:=HL TB.den (hsV k4q.res (hsOs k4q.post))
noncomputable def keo:Cx TB:=⟨inf,[kor,ks3,kc4,ke3,kd1,kbr],[],4,[]⟩
noncomputable def kl3:Code:=Try.f8.body.getD .skip
noncomputable def kr7:List ResultVar:=Try.f8.results.toList
noncomputable def k137 (o:kmk):An TB:= .no
def klb (x:k151) (o:kmk):Prop:=WPh TB keo 44 0 kl3 (k137 o) (k4q.st TB x) (retTQ TB keo k4q kr7 o)
theorem k1fq (o:kmk):OblH TB keo 44 0 kl3 (k137 o) (retTQ TB keo k4q kr7 o):=
 OblH.ofC (X:=True) (by kernel_rfl) trivial
theorem k1f0 {x:k151} {o:kmk} (h:klb x o):k4q.Snd Try.prog x o:=
 Con.soundH (c:=k4q) (C:=keo) TBok ⟨inf_ok,(all_cons k16i (all_cons k1cc (all_cons kko (all_cons koh (all_cons kn9 (all_cons kkn all_nil)))))),all_nil⟩ mix Try.func8 (show Try.f8.body=some kl3 by kernel_rfl) (show Try.f8.ntmps=44 by kernel_rfl) (show Try.f8.results.toList=kr7 by kernel_rfl) rfl h (k1fq o)
theorem k1ho  {r0:Bool} (h:
((U64 (2:Int))∧(U64 (1:Int))∧(([]:List TQuestion)=([]:List TQuestion))∧(SR (exS (2:Int))∧WR exW∧OOk (OS.mk false (0:Int) (0:Int) ([]:List TQuestion) [] [] [] [] [] []))∧let r1:Int:=(checkS (pk false ([]:List TQuestion) [] []) (exS (2:Int)) exW)
 let r2:Bool:=((OS.mk false (0:Int) (0:Int) ([]:List TQuestion) [] [] [] [] [] []).a)
 let r3:Int:=((OS.mk false (0:Int) (0:Int) ([]:List TQuestion) [] [] [] [] [] []).b)
 let r4:Int:=((OS.mk false (0:Int) (0:Int) ([]:List TQuestion) [] [] [] [] [] []).c)
 let r5:List TQuestion:=((OS.mk false (0:Int) (0:Int) ([]:List TQuestion) [] [] [] [] [] []).q)
 let r6:List ByteArray:=((OS.mk false (0:Int) (0:Int) ([]:List TQuestion) [] [] [] [] [] []).k)
 let r7:List Int:=((OS.mk false (0:Int) (0:Int) ([]:List TQuestion) [] [] [] [] [] []).v)
 let r8:List ByteArray:=((OS.mk false (0:Int) (0:Int) ([]:List TQuestion) [] [] [] [] [] []).s)
 let r9:List (List Int):=((OS.mk false (0:Int) (0:Int) ([]:List TQuestion) [] [] [] [] [] []).t)
 let r10:List ByteArray:=((OS.mk false (0:Int) (0:Int) ([]:List TQuestion) [] [] [] [] [] []).x)
 let r11:List Bool:=((OS.mk false (0:Int) (0:Int) ([]:List TQuestion) [] [] [] [] [] []).y)
((r1==0)=true→
(r5=r5)∧(SR (exS (1:Int))∧WR exW∧OOk (OS.mk r2 r3 r4 r5 r6 r7 r8 r9 r10 r11))∧let r12:Int:=(checkS (pk r2 r5 r6 r7) (exS (1:Int)) exW)
 let r13:Bool:=((OS.mk r2 r3 r4 r5 r6 r7 r8 r9 r10 r11).a)
 let r14:Int:=((OS.mk r2 r3 r4 r5 r6 r7 r8 r9 r10 r11).b)
 let r15:Int:=((OS.mk r2 r3 r4 r5 r6 r7 r8 r9 r10 r11).c)
 let r16:List TQuestion:=((OS.mk r2 r3 r4 r5 r6 r7 r8 r9 r10 r11).q)
 let r17:List ByteArray:=((OS.mk r2 r3 r4 r5 r6 r7 r8 r9 r10 r11).k)
 let r18:List Int:=((OS.mk r2 r3 r4 r5 r6 r7 r8 r9 r10 r11).v)
 let r19:List ByteArray:=((OS.mk r2 r3 r4 r5 r6 r7 r8 r9 r10 r11).s)
 let r20:List (List Int):=((OS.mk r2 r3 r4 r5 r6 r7 r8 r9 r10 r11).t)
 let r21:List ByteArray:=((OS.mk r2 r3 r4 r5 r6 r7 r8 r9 r10 r11).x)
 let r22:List Bool:=((OS.mk r2 r3 r4 r5 r6 r7 r8 r9 r10 r11).y)
((r12==13)=true→
(SR (exS (2:Int))∧WR exW)∧((relV (exS (2:Int)) exW)=true→
(exW.Ins.length≤9223372036854775807)∧(((inS exW.Ins)==0)=true→
(exW.Outs.length≤9223372036854775807)∧((outS exW.Outs)==5)=r0)∧
(((inS exW.Ins)==0)=false→
 false=r0))∧
((relV (exS (2:Int)) exW)=false→
 false=r0))∧
((r12==13)=false→
 false=r0))∧
((r1==0)=false→
 false=r0))):klb (()) (r0,()):=WPh.of_eq (by kernel_rfl) h
theorem bd8:Callable Try.prog 8:=⟨by rw[Try.func8];kernel_rfl,by rw[Try.func8];show some _≠some _;decide⟩
theorem k1bv:klb (()) ((true:Bool),()):=by
 have u2:U64 2:=by decide
 have u1:U64 1:=by decide
 have z:OOk (OS.mk false 0 0 [] [] [] [] [] [] []):=OOk.z false 0
 refine k1ho ⟨u2,u1,(by first|exact rfl|exact True.intro),?_⟩
 simp only[pk_nil,exS_ok,exS_not,OS_eta]
 refine⟨⟨exS_sr 2 u2,exW_wr,z⟩,fun _=>⟨(by first|exact rfl|exact True.intro),⟨exS_sr 1 u1,exW_wr,z⟩,fun _=>⟨⟨exS_sr 2 u2,exW_wr⟩,fun _=>⟨by decide,fun _=>⟨by decide,by decide⟩,fun h=> ?_⟩,fun h=> ?_⟩,fun h=> ?_⟩,fun h=> ?_⟩
 ·simp[exW,inS]at h
 ·rw[k182 2 (by decide)]at h;cases h
 ·simp at h
 ·simp at h
noncomputable def kxw:Con TB.den:=k4q.totR fun x=>((true:Bool),())
theorem k1js:kxw.Ok Try.prog TB:=Con.ok_tot k4q bd8 fun x=>k1f0 (k1bv)
theorem bd17:Callable Try.prog 17:=⟨by rw[Try.func17];kernel_rfl,by rw[Try.func17];show some _≠some _;decide⟩
def k15:Con TB.den:=Con.mk0 32 [] [] (.one (.one (.ptr 0 0))) [.cells [.d (.bool),.d (.int .u64),.d (.int .i64),.full (.st 3),.mp 1,.mp 2,.mp 3],.map (.str) (.int .i64),.map (.str) (.sl (.int .u64)),.map (.str) (.bool)]
abbrev kik:=HL TB.den (hsT k15.ins (hsOs k15.pre))
abbrev k8a:=HL TB.den (hsV k15.res (hsOs k15.post))
noncomputable def k66:Cx TB:=⟨inf,[],[],4,[]⟩
noncomputable def k9g:Code:=Try.f32.body.getD .skip
noncomputable def kat:List ResultVar:=Try.f32.results.toList
noncomputable def ki8 (o:k8a):An TB:= .no
def k9c (x:kik) (o:k8a):Prop:=WPh TB k66 6 0 k9g (ki8 o) (k15.st TB x) (retTQ TB k66 k15 kat o)
theorem ktr (o:k8a):OblH TB k66 6 0 k9g (ki8 o) (retTQ TB k66 k15 kat o):=
 OblH.ofC (X:=True) (by kernel_rfl) trivial
theorem ku0 {x:kik} {o:k8a} (h:k9c x o):k15.Snd Try.prog x o:=
 Con.soundH (c:=k15) (C:=k66) TBok ⟨inf_ok,all_nil,all_nil⟩ mix Try.func32 (show Try.f32.body=some k9g by kernel_rfl) (show Try.f32.ntmps=6 by kernel_rfl) (show Try.f32.results.toList=kat by kernel_rfl) rfl h (ktr o)
theorem kw2  {d0_0:Bool} {d0_1:Int} {d0_2:Int} {d0_3:List TQuestion} {e1k:List ByteArray} {e1v:List Int} {e2k:List ByteArray} {e2v:List (List Int)} {e3k:List ByteArray} {e3v:List Bool} (h:
(false=d0_0∧0=d0_1∧0=d0_2∧([]:List TQuestion)=d0_3∧([]:List ByteArray)=e1k∧([]:List Int)=e1v∧([]:List ByteArray)=e2k∧([]:List (List Int))=e2v∧([]:List ByteArray)=e3k∧([]:List Bool)=e3v)):k9c (()) (d0_0,d0_1,d0_2,d0_3,e1k,e1v,e2k,e2v,e3k,e3v,()):=WPh.of_eq (by kernel_rfl) h
theorem krr:k9c (()) ((false:Bool),(0:Int),(0:Int),(([]:List TQuestion):List TQuestion),([]:List ByteArray),([]:List Int),([]:List ByteArray),([]:List (List Int)),([]:List ByteArray),([]:List Bool),()):=by
 exact kw2 ⟨rfl,rfl,rfl,rfl,rfl,rfl,rfl,rfl,rfl,rfl⟩
noncomputable def kgz:Con TB.den:=k15.totR fun x=>((false:Bool),(0:Int),(0:Int),(([]:List TQuestion):List TQuestion),([]:List ByteArray),([]:List Int),([]:List ByteArray),([]:List (List Int)),([]:List ByteArray),([]:List Bool),())
theorem kvj:kgz.Ok Try.prog TB:=Con.ok_tot k15 bd32 fun x=>ku0 (krr)
def k1w:Con TB.den:=Con.mk0 17 [.one (.d (.int .u64))] [] (.one (.one (.ptr 0 0))) [.cells [.d (.bool),.d (.int .u64),.d (.int .i64),.full (.st 3),.mp 1,.mp 2,.mp 3],.map (.str) (.int .i64),.map (.str) (.sl (.int .u64)),.map (.str) (.bool)]
abbrev kqr:=HL TB.den (hsT k1w.ins (hsOs k1w.pre))
abbrev kbv:=HL TB.den (hsV k1w.res (hsOs k1w.post))
noncomputable def k85:Cx TB:=⟨inf,[kgz],[],4,[]⟩
noncomputable def kd4:Code:=Try.f17.body.getD .skip
noncomputable def kg8:List ResultVar:=Try.f17.results.toList
noncomputable def kom (o:kbv):An TB:= .no
def kd9 (x:kqr) (o:kbv):Prop:=WPh TB k85 13 0 kd4 (kom o) (k1w.st TB x) (retTQ TB k85 k1w kg8 o)
theorem k11e (o:kbv):OblH TB k85 13 0 kd4 (kom o) (retTQ TB k85 k1w kg8 o):=
 OblH.ofC (X:=True) (by kernel_rfl) trivial
theorem k12s {x:kqr} {o:kbv} (h:kd9 x o):k1w.Snd Try.prog x o:=
 Con.soundH (c:=k1w) (C:=k85) TBok ⟨inf_ok,(all_cons kvj all_nil),all_nil⟩ mix Try.func17 (show Try.f17.body=some kd4 by kernel_rfl) (show Try.f17.ntmps=13 by kernel_rfl) (show Try.f17.results.toList=kg8 by kernel_rfl) rfl h (k11e o)
theorem k148 {p0:Int} {d0_0:Bool} {d0_1:Int} {d0_2:Int} {d0_3:List TQuestion} {e1k:List ByteArray} {e1v:List Int} {e2k:List ByteArray} {e2v:List (List Int)} {e3k:List ByteArray} {e3v:List Bool} (h:
(true=d0_0∧p0=d0_1∧0=d0_2∧([]:List TQuestion)=d0_3∧[]=e1k∧[]=e1v∧[]=e2k∧[]=e2v∧[]=e3k∧[]=e3v)):kd9 (p0,()) (d0_0,d0_1,d0_2,d0_3,e1k,e1v,e2k,e2v,e3k,e3v,()):=WPh.of_eq (by kernel_rfl) h
theorem kzh (p0:Int):kd9 (p0,()) ((true:Bool),(p0:Int),(0:Int),(([]:List TQuestion):List TQuestion),([]:List ByteArray),([]:List Int),([]:List ByteArray),([]:List (List Int)),([]:List ByteArray),([]:List Bool),()):=by
 exact k148 ⟨rfl,rfl,rfl,rfl,rfl,rfl,rfl,rfl,rfl,rfl⟩
noncomputable def kmx:Con TB.den:=k1w.totR fun x=>((fun(p0:Int)=>(true:Bool)) x.1,(fun(p0:Int)=>(p0:Int)) x.1,(fun(p0:Int)=>(0:Int)) x.1,(fun(p0:Int)=>(([]:List TQuestion):List TQuestion)) x.1,(fun(p0:Int)=>([]:List ByteArray)) x.1,(fun(p0:Int)=>([]:List Int)) x.1,(fun(p0:Int)=>([]:List ByteArray)) x.1,(fun(p0:Int)=>([]:List (List Int))) x.1,(fun(p0:Int)=>([]:List ByteArray)) x.1,(fun(p0:Int)=>([]:List Bool)) x.1,())
theorem k140:kmx.Ok Try.prog TB:=Con.ok_tot k1w bd17 fun x=>k12s (kzh x.1)
def k5q:Con TB.den:=Con.mk0 42 [.one (.d (.int .u64)),.one (.d (.int .u64))] [] (.one (.one (.d (.int .u64)))) []
abbrev k1an:=HL TB.den (hsT k5q.ins (hsOs k5q.pre))
abbrev kp2:=HL TB.den (hsV k5q.res (hsOs k5q.post))
noncomputable def kgv:Cx TB:=⟨inf,[kef],[],4,[]⟩
noncomputable def ko0:Code:=Try.f42.body.getD .skip
noncomputable def kts:List ResultVar:=Try.f42.results.toList
noncomputable def k15s (o:kp2):An TB:= .no
def knx (x:k1an) (o:kp2):Prop:=WPh TB kgv 9 0 ko0 (k15s o) (k5q.st TB x) (retTQ TB kgv k5q kts o)
theorem k1gt (o:kp2):OblH TB kgv 9 0 ko0 (k15s o) (retTQ TB kgv k5q kts o):=
 OblH.ofC (X:=True) (by kernel_rfl) trivial
theorem k1gg {x:k1an} {o:kp2} (h:knx x o):k5q.Snd Try.prog x o:=
 Con.soundH (c:=k5q) (C:=kgv) TBok ⟨inf_ok,(all_cons kmb all_nil),all_nil⟩ mix Try.func42 (show Try.f42.body=some ko0 by kernel_rfl) (show Try.f42.ntmps=9 by kernel_rfl) (show Try.f42.results.toList=kts by kernel_rfl) rfl h (k1gt o)
theorem k1kg {p0:Int} {p1:Int} {r0:Int} (h:
(((18446744069414584321:Int)=18446744069414584321∧U64 (6:Int)∧Us [p0,p1]∧[p0,p1].length≤1099511627776)∧(hashS (6:Int) [p0,p1])=r0)):knx (p0,p1,()) (r0,()):=WPh.of_eq (by kernel_rfl) h
theorem bd42:Callable Try.prog 42:=⟨by rw[Try.func42];kernel_rfl,by rw[Try.func42];show some _≠some _;decide⟩
theorem k1fr (p0:Int) (p1:Int) (h:U64 p0∧U64 p1):knx (p0,p1,()) (((hashS 6 [p0,p1]):Int),()):=by
 refine k1kg ⟨⟨rfl,by decide,?_,by simp⟩,rfl⟩
 intro x hx
 simp only[List.mem_cons,List.not_mem_nil,or_false]at hx
 rcases hx with rfl|rfl
 ·exact h.1
 ·exact h.2
noncomputable def k10e:Con TB.den:=k5q.fnR (fun x=>(fun(p0:Int) (p1:Int)=>U64 p0∧U64 p1) x.1 x.2.1) fun x=>((fun(p0:Int) (p1:Int)=>((hashS 6 [p0,p1]):Int)) x.1 x.2.1,())
theorem k1kb:k10e.Ok Try.prog TB:=Con.ok_fn k5q bd42 fun x h=>k1gg (k1fr x.1 x.2.1 h)
def k6b:Con TB.den:=Con.mk0 41 [.one (.d (.int .i64)),.one (.d (.int .i64))] [] (.one (.one (.d (.int .i64)))) []
abbrev k1dl:=HL TB.den (hsT k6b.ins (hsOs k6b.pre))
abbrev ksk:=HL TB.den (hsV k6b.res (hsOs k6b.post))
noncomputable def kjl:Cx TB:=⟨inf,[],[],4,[]⟩
noncomputable def kr6:Code:=Try.f41.body.getD .skip
noncomputable def kxo:List ResultVar:=Try.f41.results.toList
noncomputable def k1a7 (o:ksk):An TB:= .no
def kpt (x:k1dl) (o:ksk):Prop:=WPh TB kjl 9 0 kr6 (k1a7 o) (k6b.st TB x) (retTQ TB kjl k6b kxo o)
theorem k1kd (o:ksk):OblH TB kjl 9 0 kr6 (k1a7 o) (retTQ TB kjl k6b kxo o):=
 OblH.ofC (X:=True) (by kernel_rfl) trivial
theorem k1jy {x:k1dl} {o:ksk} (h:kpt x o):k6b.Snd Try.prog x o:=
 Con.soundH (c:=k6b) (C:=kjl) TBok ⟨inf_ok,all_nil,all_nil⟩ mix Try.func41 (show Try.f41.body=some kr6 by kernel_rfl) (show Try.f41.ntmps=9 by kernel_rfl) (show Try.f41.results.toList=kxo by kernel_rfl) rfl h (k1kd o)
theorem k1lt {p0:Int} {p1:Int} {r0:Int} (h:
((0≤p1)∧Int.tmod (ishr .i64 p0 p1) 2=r0)):kpt (p0,p1,()) (r0,()):=WPh.of_eq (by kernel_rfl) h
theorem bd41:Callable Try.prog 41:=⟨by rw[Try.func41];kernel_rfl,by rw[Try.func41];show some _≠some _;decide⟩
theorem k1ia (p0:Int) (p1:Int) (h:0≤p0∧0≤p1∧p1≤62):kpt (p0,p1,()) (((p0/2^p1.toNat%2):Int),()):=by
 obtain⟨h0,h1,h2⟩:=h
 refine k1lt ⟨h1,?_⟩
 have hs:ishr .i64 p0 p1=p0/2^p1.toNat:=by
  rw[kew,show min p1.toNat IntKind.i64.bits=p1.toNat from Nat.min_eq_left (by show p1.toNat≤64;omega)]
  simp
 rw[hs,tmod_nn _ _ (Int.ediv_nonneg h0 (Int.le_of_lt (Int.pow_pos (by omega))))]
noncomputable def k15d:Con TB.den:=k6b.fnR (fun x=>(fun(p0:Int) (p1:Int)=>0≤p0∧0≤p1∧p1≤62) x.1 x.2.1) fun x=>((fun(p0:Int) (p1:Int)=>((p0/2^p1.toNat%2):Int)) x.1 x.2.1,())
theorem k1m0:k15d.Ok Try.prog TB:=Con.ok_fn k6b bd41 fun x h=>k1jy (k1ia x.1 x.2.1 h)
def k38:Con TB.den:=Con.mk0 20 [.one (.d (.int .u64)),.one (.d (.int .i64)),.one (.d (.sl (.int .u64)))] [] (.one (.one (.d (.int .u64)))) []
abbrev k15g:=HL TB.den (hsT k38.ins (hsOs k38.pre))
abbrev k5o:=HL TB.den (hsV k38.res (hsOs k38.post))
noncomputable def k4x:Cx TB:=⟨inf,[k15d,k10e],[],4,[]⟩
noncomputable def k6y:Code:=Try.f20.body.getD .skip
noncomputable def kez:List ResultVar:=Try.f20.results.toList
def k1gx (o:k5o):=qS TB k4x 63 0 (cB (cB (cB (cB (cB k6y))))) .no (retTQ TB k4x k38 kez o)
def kb7:Tm:=⟨[],[],[1,2,8,9],[.one (.d (.int .i64)),.one (.d (.sl (.int .u64))),.one (.d (.int .u64)),.one (.d (.int .i64))],0⟩
def kep (o:k5o) (nx2:NX TB kb7) (i:HL TB.den kb7.hs):Prop:=WP TB k4x 63 0 (cA (cA (cB (cA (cB (cB (cB (cB k6y)))))))) .no (kb7.fill TB i) (qM TB 0 kb7 nx2 (blockT TB 2 (k1gx o)))
noncomputable def k11c (o:k5o):An TB:= .nd [] .no [] (.lp [] kb7 (kep o) fun nx2=> .no)
def k1i7 (o:k5o):=qS TB k4x 63 0 (cB (cB (cB k6y))) (.nd [] .no [] (.nd [] (k11c o) [] .no)) (retTQ TB k4x k38 kez o)
def kax:Tm:=⟨[],[],[0,1,2,7],[.one (.d (.int .u64)),.one (.d (.int .i64)),.one (.d (.sl (.int .u64))),.one (.d (.int .i64))],0⟩
def kfc (o:k5o) (nx1:NX TB kax) (i:HL TB.den kax.hs):Prop:=WP TB k4x 63 0 (cA (cA (cB (cA (cB (cB k6y)))))) .no (kax.fill TB i) (qM TB 0 kax nx1 (blockT TB 0 (k1i7 o)))
noncomputable def k1j6 (o:k5o):An TB:= .nd [] .no [] (.lp [] kax (kfc o) fun nx1=> .no)
noncomputable def k1il (o:k5o):An TB:= .nd [] (k1j6 o) [] (.nd [] .no [] (.nd [] (k11c o) [] .no))
noncomputable def k10v (o:k5o):An TB:= .nd [] .no [] (.nd [] .no [] (k1il o))
def kku (x:k15g) (o:k5o):Prop:=WPh TB k4x 63 0 k6y (k10v o) (k38.st TB x) (retTQ TB k4x k38 kez o)
theorem k1fm (o:k5o):OblH TB k4x 63 0 k6y (k10v o) (retTQ TB k4x k38 kez o):=
 OblH.ofC (X:=((∀nx i,(kfc o) nx i=(kfc o) nx i)∧(∀nx1:NX TB kax,True)∧(∀nx i,(kep o) nx i=(kep o) nx i)∧(∀nx2:NX TB kb7,True)∧True)) (by kernel_rfl) ⟨fun _ _=>rfl,fun _=>trivial,fun _ _=>rfl,fun _=>trivial,trivial⟩
theorem k1fg {x:k15g} {o:k5o} (h:kku x o):k38.Snd Try.prog x o:=
 Con.soundH (c:=k38) (C:=k4x) TBok ⟨inf_ok,(all_cons k1m0 (all_cons k1kb all_nil)),all_nil⟩ mix Try.func20 (show Try.f20.body=some k6y by kernel_rfl) (show Try.f20.ntmps=63 by kernel_rfl) (show Try.f20.results.toList=kez by kernel_rfl) rfl h (k1fm o)
theorem k1j8 {p0:Int} {p1:Int} {p2:List Int} {r0:Int} (h:
((decide (12<(p2.length:Int))=true→
 0=r0)∧
(decide (12<(p2.length:Int))=false→
(decide (p1<0)=true→
 0=r0)∧
(decide (p1<0)=false→
(0≤(p2.length:Int))∧let v1:Bool:=decide ((ishl .i64 1 (p2.length:Int))≤p1)
(v1=true→
 0=r0)∧
(v1=false→
(decide (18446744069414584321≤p0)=true→
 0=r0)∧
(decide (18446744069414584321≤p0)=false→
 Md.Loop (p0,p1,p2,(0:Int),()) (kfc (r0,())))))))):kku (p0,p1,p2,()) (r0,()):=WPh.of_eq (by kernel_rfl) h
def k110 (r0:Int) (k1:Int→Prop) (s0:Int) (s1:Int) (s2:List Int) (s7:Int):Prop:=
(decide (s7<(s2.length:Int))=true→
(0≤s7)∧s7<(s2.length:Int)∧let v2:Bool:=decide (18446744069414584321≤(ix s2 s7))
(v2=true→
 0=r0)∧
(v2=false→
 k1 (IntKind.i64.wrap (s7+1):Int)))∧
(decide (s7<(s2.length:Int))=false→
 Md.Loop (s1,s2,s0,(0:Int),()) (kep (r0,())))
theorem k1ek {r0:Int} {s0:Int} {s1:Int} {s2:List Int} {s7:Int} (inv:Int→Prop) (μ:Int→Nat) (h0:inv s7) (hs:∀(s7:Int),inv s7→k110 r0 (fun s7q=>inv s7q∧μ s7q<μ s7) s0 s1 s2 s7):Md.Loop (s0,s1,s2,s7,()) (kfc (r0,())):=
 ⟨⟨fun s:Int×Int×(List Int)×Int×Unit=>(s.1=s0∧s.2.1=s1∧s.2.2.1=s2)∧inv s.2.2.2.1,fun s:Int×Int×(List Int)×Int×Unit=>μ s.2.2.2.1,⟨⟨rfl,rfl,rfl⟩,h0⟩,fun(s0p,s1p,s2p,s7p,()) ⟨⟨eq0,eq1,eq2⟩,hi⟩=>by
  have eq0:s0p=s0:=eq0;subst s0p;have eq1:s1p=s1:=eq1;subst s1p;have eq2:s2p=s2:=eq2;subst s2p;exact mpr_of (by kernel_rfl) ((congrArg (fun k=>k110 r0 k s0 s1 s2 s7p) (lpk1 (⟨rfl,rfl,rfl⟩:s0=s0∧s1=s1∧s2=s2) inv (fun s7q=>μ s7q<μ s7p))).mpr (hs s7p hi))⟩⟩
def k10d (r0:Int) (k2:Int→Int→Prop) (s1:Int) (s2:List Int) (s8:Int) (s9:Int):Prop:=
(decide (s9<(s2.length:Int))=true→
(0≤s1∧0≤s9∧s9≤62)∧(((s1/2^s9.toNat%2)==1)=true→
(0≤s9)∧s9<(s2.length:Int)∧(U64 (ix s2 s9)∧U64 s8)∧k2 ((hashS 6 [(ix s2 s9),s8]):Int) (IntKind.i64.wrap (s9+1):Int))∧
(((s1/2^s9.toNat%2)==1)=false→
(0≤s9)∧s9<(s2.length:Int)∧(U64 s8∧U64 (ix s2 s9))∧k2 ((hashS 6 [s8,(ix s2 s9)]):Int) (IntKind.i64.wrap (s9+1):Int)))∧
(decide (s9<(s2.length:Int))=false→
 s8=r0)
theorem k1fv {r0:Int} {s1:Int} {s2:List Int} {s8:Int} {s9:Int} (inv:Int→Int→Prop) (μ:Int→Int→Nat) (h0:inv s8 s9) (hs:∀(s8:Int) (s9:Int),inv s8 s9→k10d r0 (fun s8q s9q=>inv s8q s9q∧μ s8q s9q<μ s8 s9) s1 s2 s8 s9):Md.Loop (s1,s2,s8,s9,()) (kep (r0,())):=
 ⟨⟨fun s:Int×(List Int)×Int×Int×Unit=>(s.1=s1∧s.2.1=s2)∧inv s.2.2.1 s.2.2.2.1,fun s:Int×(List Int)×Int×Int×Unit=>μ s.2.2.1 s.2.2.2.1,⟨⟨rfl,rfl⟩,h0⟩,fun(s1p,s2p,s8p,s9p,()) ⟨⟨eq0,eq1⟩,hi⟩=>by
  have eq0:s1p=s1:=eq0;subst s1p;have eq1:s2p=s2:=eq1;subst s2p;exact mpr_of (by kernel_rfl) ((congrArg (fun k=>k10d r0 k s1 s2 s8p s9p) (lpk2 (⟨rfl,rfl⟩:s1=s1∧s2=s2) inv (fun s8q s9q=>μ s8q s9q<μ s8p s9p))).mpr (hs s8p s9p hi))⟩⟩
theorem bd20:Callable Try.prog 20:=⟨by rw[Try.func20];kernel_rfl,by rw[Try.func20];show some _≠some _;decide⟩
theorem k1ar (p0:Int) (p1:Int) (p2:List Int) (h:U64 p0∧Us p2∧p2.length≤1073741824∧p1≤9223372036854775807):kku (p0,p1,p2,()) (((climbS p0 p1 p2):Int),()):=by
 obtain⟨h0,h2,h3,h4⟩:=h
 have sh:∀d:Nat,d≤12→ishl .i64 1 (d:Int)=2^d:=by decide +kernel
 refine k1j8 ⟨fun e=> ?_,fun e=>⟨fun e2=> ?_,fun e2=>⟨by omega,fun e3=> ?_,fun e3=>⟨fun e4=> ?_,fun e4=> ?_⟩⟩⟩⟩
 ·have e:=of_decide_eq_true e
  unfold climbS
  rw[if_neg (by omega)]
 ·have e2:=of_decide_eq_true e2
  unfold climbS
  rw[if_neg (by omega)]
 ·have e:=of_decide_eq_false e
  have e3:=of_decide_eq_true e3
  rw[sh _ (by omega)]at e3
  unfold climbS
  rw[if_neg (fun a=>by have:=a.2.2.1;omega)]
 ·have e4:=of_decide_eq_true e4
  unfold climbS
  rw[if_neg (by omega)]
 have e:=of_decide_eq_false e
 have e2:=of_decide_eq_false e2
 have e3:=of_decide_eq_false e3
 have e4:=of_decide_eq_false e4
 rw[sh _ (by omega)]at e3
 refine k1ek (AllI (fun x=>decide (x<18446744069414584321)) p2) (fun i=>(p2.length-i).toNat) AllI.start ?_
 intro i hi
 refine⟨fun hh=> ?_,fun hh=> ?_⟩
 ·have hh:=of_decide_eq_true hh
  refine⟨hi.1,hh,?_⟩
  dsimp only
  refine⟨fun e5=> ?_,fun e5=>hi.next hh (by omega) (by simpa using e5)⟩
  have hb:allB p2=false:=hi.bad hh (by simpa using e5)
  unfold climbS
  rw[if_neg (fun a=>by rw[hb]at a;exact absurd a.2.2.2.2 (by simp))]
 ·have ha:allB p2=true:=hi.done (of_decide_eq_false hh)
  have hc:climbS p0 p1 p2=climbL p0 p1 p2:=by
   unfold climbS
   rw[if_pos ⟨by omega,by omega,by omega,by omega,ha⟩]
  rw[hc]
  refine k1fv (fun d i=>0≤i∧i≤p2.length∧U64 d∧climbL d (p1/2^i.toNat) (p2.drop i.toNat)=climbL p0 p1 p2) (fun d i=>(p2.length-i).toNat) ⟨by omega,by omega,h0,by simp⟩ ?_
  rintro d i ⟨g0,g1,g2,g3⟩
  refine⟨fun hh=> ?_,fun hh=> ?_⟩
  ·have hh:=of_decide_eq_true hh
   have hx:=h2 _ (ix_mem p2 i g0 hh)
   rw[drop_ix p2 i g0 hh]at g3
   have nx:=inc i p2.length g0 hh (by omega)
   have hq:p1/2^i.toNat/2=p1/2^(i+1).toNat:=by
    rw[show(i+1).toNat=i.toNat+1 by omega,Int.pow_succ,Int.ediv_ediv_of_nonneg (Int.le_of_lt (Int.pow_pos (by omega)))]
   have g3:climbL (if p1/2^i.toNat%2=0 then hashS 6 [d,ix p2 i]else hashS 6 [ix p2 i,d]) (p1/2^i.toNat/2) (p2.drop (i+1).toNat)=climbL p0 p1 p2:=g3
   rw[hq]at g3
   refine⟨⟨by omega,g0,by omega⟩,fun hb=> ?_,fun hb=> ?_⟩
   ·have hb:p1/2^i.toNat%2=1:=by simpa using hb
    rw[if_neg (by omega)]at g3
    rw[nx]
    exact⟨g0,hh,⟨hx,g2⟩,⟨by omega,by omega,k9w _ _,g3⟩,by omega⟩
   ·have hb:¬p1/2^i.toNat%2=1:=by simpa using hb
    rw[if_pos (by omega)]at g3
    rw[nx]
    exact⟨g0,hh,⟨g2,hx⟩,⟨by omega,by omega,k9w _ _,g3⟩,by omega⟩
  ·have hh:=of_decide_eq_false hh
   rw[List.drop_eq_nil_of_le (by omega)]at g3
   exact g3
noncomputable def ko4:Con TB.den:=k38.fnR (fun x=>(fun(p0:Int) (p1:Int) (p2:List Int)=>U64 p0∧Us p2∧p2.length≤1073741824∧p1≤9223372036854775807) x.1 x.2.1 x.2.2.1) fun x=>((fun(p0:Int) (p1:Int) (p2:List Int)=>((climbS p0 p1 p2):Int)) x.1 x.2.1 x.2.2.1,())
theorem k10g:ko4.Ok Try.prog TB:=Con.ok_fn k38 bd20 fun x h=>k1fg (k1ar x.1 x.2.1 x.2.2.1 h)
def k20:Con TB.den:=Con.mk0 44 [.agg [.d (.bool),.d (.int .u64),.d (.int .i64),.d (.sl (.st 3)),.d (.sl (.st 8)),.d (.sl (.st 8))],.agg [.d (.int .u64),.d (.int .u64),.d (.int .u64),.d (.int .u64)]] [] (.tup [.one (.d (.int .u64)),.one (.d (.bool))]) []
abbrev kq5:=HL TB.den (hsT k20.ins (hsOs k20.pre))
abbrev kc7:=HL TB.den (hsV k20.res (hsOs k20.post))
noncomputable def k80:Cx TB:=⟨inf,[kck,kle,kjg,kk7],[],4,[]⟩
noncomputable def kd5:Code:=Try.f44.body.getD .skip
noncomputable def kgc:List ResultVar:=Try.f44.results.toList
noncomputable def koa (o:kc7):An TB:= .no
def kd8 (x:kq5) (o:kc7):Prop:=WPh TB k80 21 0 kd5 (koa o) (k20.st TB x) (retTQ TB k80 k20 kgc o)
theorem k12p (o:kc7):OblH TB k80 21 0 kd5 (koa o) (retTQ TB k80 k20 kgc o):=
 OblH.ofC (X:=True) (by kernel_rfl) trivial
theorem k12r {x:kq5} {o:kc7} (h:kd8 x o):k20.Snd Try.prog x o:=
 Con.soundH (c:=k20) (C:=k80) TBok ⟨inf_ok,(all_cons kkb (all_cons ky0 (all_cons ktd (all_cons ktn all_nil)))),all_nil⟩ mix Try.func44 (show Try.f44.body=some kd5 by kernel_rfl) (show Try.f44.ntmps=21 by kernel_rfl) (show Try.f44.results.toList=kgc by kernel_rfl) rfl h (k12p o)
theorem k14e {p0:TPlace} {p1:TNote} {r0:Int} {r1:Bool} (h:
(((!(noteV p1))=true→
 0=r0∧false=r1)∧
((!(noteV p1))=false→
((!p0.Ideal)=true→
(NR p1)∧let r2:Int:=(if noteV p1=true then hashS 2 (noteL p1)else 0)
 r2=r0∧true=r1)∧
((!p0.Ideal)=false→
(KQ (TModel.mk p0.M_State p0.M_Draws p0.M_Known p0.M_Seals p0.M_Proofs).Known∧(noteL p1).length≤1000000000)∧let r3:Int:=((rpk (TModel.mk p0.M_State p0.M_Draws p0.M_Known p0.M_Seals p0.M_Proofs).Known (2:Int) (noteL p1)).getD 0)
 let r4:Bool:=((rpk (TModel.mk p0.M_State p0.M_Draws p0.M_Known p0.M_Seals p0.M_Proofs).Known (2:Int) (noteL p1)).isSome)
 r3=r0∧r4=r1)))):kd8 (p0.Ideal,p0.M_State,p0.M_Draws,p0.M_Known,p0.M_Seals,p0.M_Proofs,p1.Value,p1.Owner,p1.Rho,p1.Blind,()) (r0,r1,()):=WPh.of_eq (by kernel_rfl) h
theorem bd44:Callable Try.prog 44:=⟨by rw[Try.func44];kernel_rfl,by rw[Try.func44];show some _≠some _;decide⟩
theorem kzt (p0:TPlace) (p1:TNote) (h:p0.Ideal=true∧KQ p0.M_Known∧NR p1):kd8 (p0.Ideal,p0.M_State,p0.M_Draws,p0.M_Known,p0.M_Seals,p0.M_Proofs,p1.Value,p1.Owner,p1.Rho,p1.Blind,()) ((((commP (rpk p0.M_Known) p1).getD 0):Int),(((commP (rpk p0.M_Known) p1).isSome):Bool),()):=by
 obtain⟨h1,h2,h3⟩:=h
 refine k14e ?_
 try simp only[kn0]
 unfold commP
 refine⟨fun e=> ?_,fun e=>⟨fun e=>by rw[h1]at e;simp at e,fun _=>⟨⟨h2,by simp[noteL]⟩,?_⟩⟩⟩
 ·have e:noteV p1=false:=by simpa using e
  simp[e]
 ·have e:noteV p1=true:=by simpa using e
  simp[e]
noncomputable def kdt:Con TB.den:=k20.fnR (fun x=>(fun(p0:TPlace) (p1:TNote)=>p0.Ideal=true∧KQ p0.M_Known∧NR p1) (TPlace.mk x.1 x.2.1 x.2.2.1 x.2.2.2.1 x.2.2.2.2.1 x.2.2.2.2.2.1) (TNote.mk x.2.2.2.2.2.2.1 x.2.2.2.2.2.2.2.1 x.2.2.2.2.2.2.2.2.1 x.2.2.2.2.2.2.2.2.2.1)) fun x=>((fun(p0:TPlace) (p1:TNote)=>(((commP (rpk p0.M_Known) p1).getD 0):Int)) (TPlace.mk x.1 x.2.1 x.2.2.1 x.2.2.2.1 x.2.2.2.2.1 x.2.2.2.2.2.1) (TNote.mk x.2.2.2.2.2.2.1 x.2.2.2.2.2.2.2.1 x.2.2.2.2.2.2.2.2.1 x.2.2.2.2.2.2.2.2.2.1),(fun(p0:TPlace) (p1:TNote)=>(((commP (rpk p0.M_Known) p1).isSome):Bool)) (TPlace.mk x.1 x.2.1 x.2.2.1 x.2.2.2.1 x.2.2.2.2.1 x.2.2.2.2.2.1) (TNote.mk x.2.2.2.2.2.2.1 x.2.2.2.2.2.2.2.1 x.2.2.2.2.2.2.2.2.1 x.2.2.2.2.2.2.2.2.2.1),())
theorem kos:kdt.Ok Try.prog TB:=Con.ok_fn k20 bd44 fun x h=>k12r (kzt (TPlace.mk x.1 x.2.1 x.2.2.1 x.2.2.2.1 x.2.2.2.2.1 x.2.2.2.2.2.1) (TNote.mk x.2.2.2.2.2.2.1 x.2.2.2.2.2.2.2.1 x.2.2.2.2.2.2.2.2.1 x.2.2.2.2.2.2.2.2.2.1) h)
def k32:Con TB.den:=Con.mk0 11 [.agg [.d (.sl (.st 0)),.d (.sl (.st 1)),.d (.int .u64)]] [] (.one (.one (.d (.int .u64)))) []
abbrev k12a:=HL TB.den (hsT k32.ins (hsOs k32.pre))
abbrev k97:=HL TB.den (hsV k32.res (hsOs k32.post))
noncomputable def k6p:Cx TB:=⟨inf,[],[],4,[]⟩
noncomputable def k9y:Code:=Try.f11.body.getD .skip
noncomputable def khc:List ResultVar:=Try.f11.results.toList
def k1ey (o:k97):=qS TB k6p 22 0 (cB (cB (cB k9y))) .no (retTQ TB k6p k32 khc o)
def k9o:Tm:=⟨[0],[.cells [.d (.sl (.st 0)),.d (.sl (.st 1)),.d (.int .u64)]],[1,3,4],[.one (.ptr 0 0),.one (.d (.int .u64)),.one (.d (.int .i64))],1⟩
def kch (o:k97) (nx1:NX TB k9o) (i:HL TB.den k9o.hs):Prop:=WP TB k6p 22 0 (cA (cA (cB (cA (cB (cB k9y)))))) .no (k9o.fill TB i) (qM TB 0 k9o nx1 (blockT TB 0 (k1ey o)))
noncomputable def k1fb (o:k97):An TB:= .nd [] .no [] (.lp [] k9o (kch o) fun nx1=> .no)
noncomputable def kz3 (o:k97):An TB:= .nd [] .no [] (.nd [] .no [] (.nd [] (k1fb o) [] .no))
def kjw (x:k12a) (o:k97):Prop:=WPh TB k6p 22 0 k9y (kz3 o) (k32.st TB x) (retTQ TB k6p k32 khc o)
theorem k1cg (o:k97):OblH TB k6p 22 0 k9y (kz3 o) (retTQ TB k6p k32 khc o):=
 OblH.ofC (X:=((∀nx i,(kch o) nx i=(kch o) nx i)∧(∀nx1:NX TB k9o,True)∧True)) (by kernel_rfl) ⟨fun _ _=>rfl,fun _=>trivial,trivial⟩
theorem k1aw {x:k12a} {o:k97} (h:kjw x o):k32.Snd Try.prog x o:=
 Con.soundH (c:=k32) (C:=k6p) TBok ⟨inf_ok,all_nil,all_nil⟩ mix Try.func11 (show Try.f11.body=some k9y by kernel_rfl) (show Try.f11.ntmps=22 by kernel_rfl) (show Try.f11.results.toList=khc by kernel_rfl) rfl h (k1cg o)
theorem k1f5 {p0:TWitness} {r0:Int} (h:
(Md.Loop ((0:Int),(0:Int),p0.Ins,p0.Outs,p0.Secret,()) (kch (r0,())))):kjw (p0.Ins,p0.Outs,p0.Secret,()) (r0,()):=WPh.of_eq (by kernel_rfl) h
def kyu (r0:Int) (k1:Int→Int→Prop) (h0_0:List TSpent) (h0_1:List TNote) (h0_2:Int) (s3:Int) (s4:Int):Prop:=
(decide (s4<(h0_0.length:Int))=true→
(0≤s4)∧s4<(h0_0.length:Int)∧let v1:Int:=IntKind.u64.wrap (s3+((ix h0_0 s4).Note_Value))
 k1 v1 (IntKind.i64.wrap (s4+1):Int))∧
(decide (s4<(h0_0.length:Int))=false→
 s3=r0)
theorem k1cl {r0:Int} {h0_0:List TSpent} {h0_1:List TNote} {h0_2:Int} {s3:Int} {s4:Int} (inv:Int→Int→Prop) (μ:Int→Int→Nat) (h0:inv s3 s4) (hs:∀(s3:Int) (s4:Int),inv s3 s4→kyu r0 (fun s3q s4q=>inv s3q s4q∧μ s3q s4q<μ s3 s4) h0_0 h0_1 h0_2 s3 s4):Md.Loop (s3,s4,h0_0,h0_1,h0_2,()) (kch (r0,())):=
 ⟨⟨fun s:Int×Int×(List TSpent)×(List TNote)×Int×Unit=>(s.2.2.1=h0_0∧s.2.2.2.1=h0_1∧s.2.2.2.2.1=h0_2)∧inv s.1 s.2.1,fun s:Int×Int×(List TSpent)×(List TNote)×Int×Unit=>μ s.1 s.2.1,⟨⟨rfl,rfl,rfl⟩,h0⟩,fun(s3p,s4p,h0_0p,h0_1p,h0_2p,()) ⟨⟨eq0,eq1,eq2⟩,hi⟩=>by
  have eq0:h0_0p=h0_0:=eq0;subst h0_0p;have eq1:h0_1p=h0_1:=eq1;subst h0_1p;have eq2:h0_2p=h0_2:=eq2;subst h0_2p;exact mpr_of (by kernel_rfl) ((congrArg (fun k=>kyu r0 k h0_0 h0_1 h0_2 s3p s4p) (lpk2 (⟨rfl,rfl,rfl⟩:h0_0=h0_0∧h0_1=h0_1∧h0_2=h0_2) inv (fun s3q s4q=>μ s3q s4q<μ s3p s4p))).mpr (hs s3p s4p hi))⟩⟩
theorem bd11:Callable Try.prog 11:=⟨by rw[Try.func11];kernel_rfl,by rw[Try.func11];show some _≠some _;decide⟩
theorem k199 (p0:TWitness) (h:p0.Ins.length≤9223372036854775807):kjw (p0.Ins,p0.Outs,p0.Secret,()) (((inS p0.Ins):Int),()):=by
 refine k1f5 (k1cl (fun s i=>FoldI (fun s x=>(s+x.Note_Value)%18446744073709551616) 0 p0.Ins i s) (fun s i=>(p0.Ins.length-i).toNat) FoldI.start ?_)
 intro s i hi
 refine⟨fun hh=> ?_,fun hh=>hi.done (of_decide_eq_false hh)⟩
 have hh:=of_decide_eq_true hh
 exact⟨hi.1,hh,hi.next hh (by omega) (by rw[u64w])⟩
noncomputable def kvh:Con TB.den:=k32.fnR (fun x=>(fun(p0:TWitness)=>p0.Ins.length≤9223372036854775807) (TWitness.mk x.1 x.2.1 x.2.2.1)) fun x=>((fun(p0:TWitness)=>((inS p0.Ins):Int)) (TWitness.mk x.1 x.2.1 x.2.2.1),())
theorem k1f3:kvh.Ok Try.prog TB:=Con.ok_fn k32 bd11 fun x h=>k1aw (k199 (TWitness.mk x.1 x.2.1 x.2.2.1) h)
def k2l:Con TB.den:=Con.mk0 13 [.agg [.d (.sl (.st 0)),.d (.sl (.st 1)),.d (.int .u64)]] [] (.one (.one (.d (.int .u64)))) []
abbrev kyi:=HL TB.den (hsT k2l.ins (hsOs k2l.pre))
abbrev k7u:=HL TB.den (hsV k2l.res (hsOs k2l.post))
noncomputable def k62:Cx TB:=⟨inf,[],[],4,[]⟩
noncomputable def k90:Code:=Try.f13.body.getD .skip
noncomputable def kfk:List ResultVar:=Try.f13.results.toList
def k1by (o:k7u):=qS TB k62 21 0 (cB (cB (cB k90))) .no (retTQ TB k62 k2l kfk o)
def k8m:Tm:=⟨[0],[.cells [.d (.sl (.st 0)),.d (.sl (.st 1)),.d (.int .u64)]],[1,3,4],[.one (.ptr 0 0),.one (.d (.int .u64)),.one (.d (.int .i64))],1⟩
def kba (o:k7u) (nx1:NX TB k8m) (i:HL TB.den k8m.hs):Prop:=WP TB k62 21 0 (cA (cA (cB (cA (cB (cB k90)))))) .no (k8m.fill TB i) (qM TB 0 k8m nx1 (blockT TB 0 (k1by o)))
noncomputable def k1bo (o:k7u):An TB:= .nd [] .no [] (.lp [] k8m (kba o) fun nx1=> .no)
noncomputable def kvw (o:k7u):An TB:= .nd [] .no [] (.nd [] .no [] (.nd [] (k1bo o) [] .no))
def khv (x:kyi) (o:k7u):Prop:=WPh TB k62 21 0 k90 (kvw o) (k2l.st TB x) (retTQ TB k62 k2l kfk o)
theorem k18x (o:k7u):OblH TB k62 21 0 k90 (kvw o) (retTQ TB k62 k2l kfk o):=
 OblH.ofC (X:=((∀nx i,(kba o) nx i=(kba o) nx i)∧(∀nx1:NX TB k8m,True)∧True)) (by kernel_rfl) ⟨fun _ _=>rfl,fun _=>trivial,trivial⟩
theorem k19i {x:kyi} {o:k7u} (h:khv x o):k2l.Snd Try.prog x o:=
 Con.soundH (c:=k2l) (C:=k62) TBok ⟨inf_ok,all_nil,all_nil⟩ mix Try.func13 (show Try.f13.body=some k90 by kernel_rfl) (show Try.f13.ntmps=21 by kernel_rfl) (show Try.f13.results.toList=kfk by kernel_rfl) rfl h (k18x o)
theorem k1ay {p0:TWitness} {r0:Int} (h:
(Md.Loop ((0:Int),(0:Int),p0.Ins,p0.Outs,p0.Secret,()) (kba (r0,())))):khv (p0.Ins,p0.Outs,p0.Secret,()) (r0,()):=WPh.of_eq (by kernel_rfl) h
def kvv (r0:Int) (k1:Int→Int→Prop) (h0_0:List TSpent) (h0_1:List TNote) (h0_2:Int) (s3:Int) (s4:Int):Prop:=
(decide (s4<(h0_1.length:Int))=true→
(0≤s4)∧s4<(h0_1.length:Int)∧let v1:Int:=IntKind.u64.wrap (s3+((ix h0_1 s4).Value))
 k1 v1 (IntKind.i64.wrap (s4+1):Int))∧
(decide (s4<(h0_1.length:Int))=false→
 s3=r0)
theorem k18v {r0:Int} {h0_0:List TSpent} {h0_1:List TNote} {h0_2:Int} {s3:Int} {s4:Int} (inv:Int→Int→Prop) (μ:Int→Int→Nat) (h0:inv s3 s4) (hs:∀(s3:Int) (s4:Int),inv s3 s4→kvv r0 (fun s3q s4q=>inv s3q s4q∧μ s3q s4q<μ s3 s4) h0_0 h0_1 h0_2 s3 s4):Md.Loop (s3,s4,h0_0,h0_1,h0_2,()) (kba (r0,())):=
 ⟨⟨fun s:Int×Int×(List TSpent)×(List TNote)×Int×Unit=>(s.2.2.1=h0_0∧s.2.2.2.1=h0_1∧s.2.2.2.2.1=h0_2)∧inv s.1 s.2.1,fun s:Int×Int×(List TSpent)×(List TNote)×Int×Unit=>μ s.1 s.2.1,⟨⟨rfl,rfl,rfl⟩,h0⟩,fun(s3p,s4p,h0_0p,h0_1p,h0_2p,()) ⟨⟨eq0,eq1,eq2⟩,hi⟩=>by
  have eq0:h0_0p=h0_0:=eq0;subst h0_0p;have eq1:h0_1p=h0_1:=eq1;subst h0_1p;have eq2:h0_2p=h0_2:=eq2;subst h0_2p;exact mpr_of (by kernel_rfl) ((congrArg (fun k=>kvv r0 k h0_0 h0_1 h0_2 s3p s4p) (lpk2 (⟨rfl,rfl,rfl⟩:h0_0=h0_0∧h0_1=h0_1∧h0_2=h0_2) inv (fun s3q s4q=>μ s3q s4q<μ s3p s4p))).mpr (hs s3p s4p hi))⟩⟩
theorem bd13:Callable Try.prog 13:=⟨by rw[Try.func13];kernel_rfl,by rw[Try.func13];show some _≠some _;decide⟩
theorem k16h (p0:TWitness) (h:p0.Outs.length≤9223372036854775807):khv (p0.Ins,p0.Outs,p0.Secret,()) (((outS p0.Outs):Int),()):=by
 refine k1ay (k18v (fun s i=>FoldI (fun s x=>(s+x.Value)%18446744073709551616) 0 p0.Outs i s) (fun s i=>(p0.Outs.length-i).toNat) FoldI.start ?_)
 intro s i hi
 refine⟨fun hh=> ?_,fun hh=>hi.done (of_decide_eq_false hh)⟩
 have hh:=of_decide_eq_true hh
 exact⟨hi.1,hh,hi.next hh (by omega) (by rw[u64w])⟩
noncomputable def ksd:Con TB.den:=k2l.fnR (fun x=>(fun(p0:TWitness)=>p0.Outs.length≤9223372036854775807) (TWitness.mk x.1 x.2.1 x.2.2.1)) fun x=>((fun(p0:TWitness)=>((outS p0.Outs):Int)) (TWitness.mk x.1 x.2.1 x.2.2.1),())
theorem k1ck:ksd.Ok Try.prog TB:=Con.ok_fn k2l bd13 fun x h=>k19i (k16h (TWitness.mk x.1 x.2.1 x.2.2.1) h)
def k4h:Con TB.den:=Con.mk0 37 [.agg [.d (.int .u64),.d (.int .u64),.d (.int .u64),.d (.int .u64),.d (.int .u64),.d (.int .i64),.d (.int .i64),.d (.sl (.int .u64)),.d (.bool)],.one (.d (.int .i64))] [] (.one (.one (.d (.bool)))) []
abbrev k161:=HL TB.den (hsT k4h.ins (hsOs k4h.pre))
abbrev kmp:=HL TB.den (hsV k4h.res (hsOs k4h.post))
noncomputable def kek:Cx TB:=⟨inf,[kck,kdk,k91],[],4,[]⟩
noncomputable def kla:Code:=Try.f37.body.getD .skip
noncomputable def kqt:List ResultVar:=Try.f37.results.toList
noncomputable def k10a (o:kmp):An TB:= .no
def klo (x:k161) (o:kmp):Prop:=WPh TB kek 47 0 kla (k10a o) (k4h.st TB x) (retTQ TB kek k4h kqt o)
theorem k1fz (o:kmp):OblH TB kek 47 0 kla (k10a o) (retTQ TB kek k4h kqt o):=
 OblH.ofC (X:=True) (by kernel_rfl) trivial
theorem k1e4 {x:k161} {o:kmp} (h:klo x o):k4h.Snd Try.prog x o:=
 Con.soundH (c:=k4h) (C:=kek) TBok ⟨inf_ok,(all_cons kkb (all_cons km5 (all_cons kdg all_nil))),all_nil⟩ mix Try.func37 (show Try.f37.body=some kla by kernel_rfl) (show Try.f37.ntmps=47 by kernel_rfl) (show Try.f37.results.toList=kqt by kernel_rfl) rfl h (k1fz o)
theorem k1it {p0:TSpent} {p1:Int} {r0:Bool} (h:
(let r1:Bool:=(noteV (TNote.mk p0.Note_Value p0.Note_Owner p0.Note_Rho p0.Note_Blind))
(r1=true→
((decide (p0.Key<18446744069414584321))=true→
(decide (0≤p0.Number)=true→
(decide (p0.Number<4)=true→
(((p0.Path.length:Int)==p1)=true→
(p0.Path.length≤9223372036854775807)∧let r2:Bool:=(p0.Path.all (fun x=>decide (x<18446744069414584321)))
(r2=true→
(decide (0≤p0.Position)=true→
(0≤p1)∧decide (p0.Position<(ishl .i64 1 p1))=r0)∧
(decide (0≤p0.Position)=false→
 false=r0))∧
(r2=false→
 false=r0))∧
(((p0.Path.length:Int)==p1)=false→
 false=r0))∧
(decide (p0.Number<4)=false→
 false=r0))∧
(decide (0≤p0.Number)=false→
 false=r0))∧
((decide (p0.Key<18446744069414584321))=false→
 false=r0))∧
(r1=false→
 false=r0))):klo (p0.Note_Value,p0.Note_Owner,p0.Note_Rho,p0.Note_Blind,p0.Key,p0.Number,p0.Position,p0.Path,p0.Dummy,p1,()) (r0,()):=WPh.of_eq (by kernel_rfl) h
theorem bd37:Callable Try.prog 37:=⟨by rw[Try.func37];kernel_rfl,by rw[Try.func37];show some _≠some _;decide⟩
theorem k1ci (p0:TSpent) (p1:Int) (h:p0.Path.length≤9223372036854775807):klo (p0.Note_Value,p0.Note_Owner,p0.Note_Rho,p0.Note_Blind,p0.Key,p0.Number,p0.Position,p0.Path,p0.Dummy,p1,()) (((inpV p0 p1):Bool),()):=by
 refine k1it ?_
 unfold inpV noteOf allB
 have e2:(((p0.Path.length:Int)==p1)=true)↔(p0.Path.length:Int)=p1:=by simp
 have e3:(decide ((p0.Path.length:Int)=p1))=((p0.Path.length:Int)==p1):=by rw[Bool.eq_iff_iff];simp
 rw[e3]
 refine⟨fun h1=> ?_,fun h1=>by rw[h1];rfl⟩
 rw[h1]
 refine⟨fun h2=> ?_,fun h2=>by rw[h2];rfl⟩
 rw[h2]
 refine⟨fun h3=> ?_,fun h3=>by rw[h3];rfl⟩
 rw[h3]
 refine⟨fun h4=> ?_,fun h4=>by rw[h4];rfl⟩
 rw[h4]
 refine⟨fun h5=> ?_,fun h5=>by rw[h5];rfl⟩
 rw[h5]
 have h5:=e2.1 h5
 refine⟨h,fun h6=> ?_,fun h6=>by rw[h6];rfl⟩
 rw[h6]
 refine⟨fun h7=> ?_,fun h7=>by rw[h7];rfl⟩
 rw[h7]
 exact⟨by omega,rfl⟩
noncomputable def kz0:Con TB.den:=k4h.fnR (fun x=>(fun(p0:TSpent) (p1:Int)=>p0.Path.length≤9223372036854775807) (TSpent.mk x.1 x.2.1 x.2.2.1 x.2.2.2.1 x.2.2.2.2.1 x.2.2.2.2.2.1 x.2.2.2.2.2.2.1 x.2.2.2.2.2.2.2.1 x.2.2.2.2.2.2.2.2.1) x.2.2.2.2.2.2.2.2.2.1) fun x=>((fun(p0:TSpent) (p1:Int)=>((inpV p0 p1):Bool)) (TSpent.mk x.1 x.2.1 x.2.2.1 x.2.2.2.1 x.2.2.2.2.1 x.2.2.2.2.2.1 x.2.2.2.2.2.2.1 x.2.2.2.2.2.2.2.1 x.2.2.2.2.2.2.2.2.1) x.2.2.2.2.2.2.2.2.2.1,())
theorem k1hi:kz0.Ok Try.prog TB:=Con.ok_fn k4h bd37 fun x h=>k1e4 (k1ci (TSpent.mk x.1 x.2.1 x.2.2.1 x.2.2.2.1 x.2.2.2.2.1 x.2.2.2.2.2.1 x.2.2.2.2.2.2.1 x.2.2.2.2.2.2.2.1 x.2.2.2.2.2.2.2.2.1) x.2.2.2.2.2.2.2.2.2.1 h)
def k3n:Con TB.den:=Con.mk0 38 [.one (.d (.sl (.st 1)))] [] (.one (.one (.d (.bool)))) []
abbrev k15u:=HL TB.den (hsT k3n.ins (hsOs k3n.pre))
abbrev kac:=HL TB.den (hsV k3n.res (hsOs k3n.post))
noncomputable def k7c:Cx TB:=⟨inf,[kck],[],4,[]⟩
noncomputable def kaw:Code:=Try.f38.body.getD .skip
noncomputable def kja:List ResultVar:=Try.f38.results.toList
def k1hj (o:kac):=qS TB k7c 16 0 (cB (cB kaw)) .no (retTQ TB k7c k3n kja o)
def kay:Tm:=⟨[],[],[0,3],[.one (.d (.sl (.st 1))),.one (.d (.int .i64))],0⟩
def ke2 (o:kac) (nx1:NX TB kay) (i:HL TB.den kay.hs):Prop:=WP TB k7c 16 0 (cA (cA (cB (cA (cB kaw))))) .no (kay.fill TB i) (qM TB 0 kay nx1 (blockT TB 0 (k1hj o)))
noncomputable def k1gi (o:kac):An TB:= .nd [] .no [] (.lp [] kay (ke2 o) fun nx1=> .no)
noncomputable def k106 (o:kac):An TB:= .nd [] .no [] (.nd [] (k1gi o) [] .no)
def kl0 (x:k15u) (o:kac):Prop:=WPh TB k7c 16 0 kaw (k106 o) (k3n.st TB x) (retTQ TB k7c k3n kja o)
theorem k1ed (o:kac):OblH TB k7c 16 0 kaw (k106 o) (retTQ TB k7c k3n kja o):=
 OblH.ofC (X:=((∀nx i,(ke2 o) nx i=(ke2 o) nx i)∧(∀nx1:NX TB kay,True)∧True)) (by kernel_rfl) ⟨fun _ _=>rfl,fun _=>trivial,trivial⟩
theorem k1g5 {x:k15u} {o:kac} (h:kl0 x o):k3n.Snd Try.prog x o:=
 Con.soundH (c:=k3n) (C:=k7c) TBok ⟨inf_ok,(all_cons kkb all_nil),all_nil⟩ mix Try.func38 (show Try.f38.body=some kaw by kernel_rfl) (show Try.f38.ntmps=16 by kernel_rfl) (show Try.f38.results.toList=kja by kernel_rfl) rfl h (k1ed o)
theorem k1j3 {p0:List TNote} {r0:Bool} (h:
(Md.Loop (p0,(0:Int),()) (ke2 (r0,())))):kl0 (p0,()) (r0,()):=WPh.of_eq (by kernel_rfl) h
def k10n (r0:Bool) (k1:Int→Prop) (s0:List TNote) (s3:Int):Prop:=
(decide (s3<(s0.length:Int))=true→
(0≤s3)∧s3<(s0.length:Int)∧((!(noteV (ix s0 s3)))=true→
 false=r0)∧
((!(noteV (ix s0 s3)))=false→
 k1 (IntKind.i64.wrap (s3+1):Int)))∧
(decide (s3<(s0.length:Int))=false→
 true=r0)
theorem k1fj {r0:Bool} {s0:List TNote} {s3:Int} (inv:Int→Prop) (μ:Int→Nat) (h0:inv s3) (hs:∀(s3:Int),inv s3→k10n r0 (fun s3q=>inv s3q∧μ s3q<μ s3) s0 s3):Md.Loop (s0,s3,()) (ke2 (r0,())):=
 ⟨⟨fun s:(List TNote)×Int×Unit=>(s.1=s0)∧inv s.2.1,fun s:(List TNote)×Int×Unit=>μ s.2.1,⟨rfl,h0⟩,fun(s0p,s3p,()) ⟨eq0,hi⟩=>by
  have eq0:s0p=s0:=eq0;subst s0p;exact mpr_of (by kernel_rfl) ((congrArg (fun k=>k10n r0 k s0 s3p) (lpk1 (rfl:s0=s0) inv (fun s3q=>μ s3q<μ s3p))).mpr (hs s3p hi))⟩⟩
theorem bd38:Callable Try.prog 38:=⟨by rw[Try.func38];kernel_rfl,by rw[Try.func38];show some _≠some _;decide⟩
theorem k1ax (p0:List TNote) (h:p0.length≤9223372036854775807):kl0 (p0,()) (((p0.all noteV):Bool),()):=by
 refine k1j3 (k1fj (AllI noteV p0) (fun i=>(p0.length-i).toNat) AllI.start ?_)
 intro i hi
 refine⟨fun hh=> ?_,fun hh=>(hi.done (of_decide_eq_false hh)).symm⟩
 have hh:=of_decide_eq_true hh
 exact⟨hi.1,hh,fun e=>(hi.bad hh (by simpa using e)).symm,fun e=>hi.next hh (by omega) (by simpa using e)⟩
noncomputable def kyd:Con TB.den:=k3n.fnR (fun x=>(fun(p0:List TNote)=>p0.length≤9223372036854775807) x.1) fun x=>((fun(p0:List TNote)=>((p0.all noteV):Bool)) x.1,())
theorem k1ji:kyd.Ok Try.prog TB:=Con.ok_fn k3n bd38 fun x h=>k1g5 (k1ax x.1 h)
def k3z:Con TB.den:=Con.mk0 16 [.agg [.d (.int .i64),.d (.int .u64),.d (.sl (.int .u64)),.d (.sl (.int .u64)),.d (.sl (.int .u64)),.d (.int .u64),.d (.int .u64),.d (.int .u64),.d (.int .u64),.d (.int .u64)],.agg [.d (.sl (.st 0)),.d (.sl (.st 1)),.d (.int .u64)]] [] (.one (.one (.d (.bool)))) []
abbrev k153:=HL TB.den (hsT k3z.ins (hsOs k3z.pre))
abbrev k8i:=HL TB.den (hsV k3z.res (hsOs k3z.post))
noncomputable def k76:Cx TB:=⟨inf,[k91,kz0,kyd],[],4,[]⟩
noncomputable def kbi:Code:=Try.f16.body.getD .skip
noncomputable def kjz:List ResultVar:=Try.f16.results.toList
def k1hl (o:k8i):=qS TB k76 112 0 (cB (cB (cB (cB (cB (cB kbi)))))) .no (retTQ TB k76 k3z kjz o)
def kbj:Tm:=⟨[0,1],[.cells [.d (.int .i64),.d (.int .u64),.d (.sl (.int .u64)),.d (.sl (.int .u64)),.d (.sl (.int .u64)),.d (.int .u64),.d (.int .u64),.d (.int .u64),.d (.int .u64),.d (.int .u64)],.cells [.d (.sl (.st 0)),.d (.sl (.st 1)),.d (.int .u64)]],[2,3,5],[.one (.ptr 0 0),.one (.ptr 1 0),.one (.d (.int .i64))],3⟩
def kdq (o:k8i) (nx1:NX TB kbj) (i:HL TB.den kbj.hs):Prop:=WP TB k76 112 0 (cA (cA (cB (cA (cB (cB (cB (cB (cB kbi))))))))) .no (kbj.fill TB i) (qM TB 0 kbj nx1 (blockT TB 0 (k1hl o)))
noncomputable def k1ip (o:k8i):An TB:= .nd [] .no [] (.lp [] kbj (kdq o) fun nx1=> .no)
noncomputable def k1gh (o:k8i):An TB:= .nd [] .no [] (.nd [] .no [] (.nd [] (k1ip o) [] .no))
noncomputable def k128 (o:k8i):An TB:= .nd [] .no [] (.nd [] .no [] (.nd [] .no [] (k1gh o)))
def kl8 (x:k153) (o:k8i):Prop:=WPh TB k76 112 0 kbi (k128 o) (k3z.st TB x) (retTQ TB k76 k3z kjz o)
theorem k1e2 (o:k8i):OblH TB k76 112 0 kbi (k128 o) (retTQ TB k76 k3z kjz o):=
 OblH.ofC (X:=((∀nx i,(kdq o) nx i=(kdq o) nx i)∧(∀nx1:NX TB kbj,True)∧True)) (by kernel_rfl) ⟨fun _ _=>rfl,fun _=>trivial,trivial⟩
theorem k1e1 {x:k153} {o:k8i} (h:kl8 x o):k3z.Snd Try.prog x o:=
 Con.soundH (c:=k3z) (C:=k76) TBok ⟨inf_ok,(all_cons kdg (all_cons k1hi (all_cons k1ji all_nil))),all_nil⟩ mix Try.func16 (show Try.f16.body=some kbi by kernel_rfl) (show Try.f16.ntmps=112 by kernel_rfl) (show Try.f16.results.toList=kjz by kernel_rfl) rfl h (k1e2 o)
theorem k1hz {p0:TStatement} {p1:TWitness} {r0:Bool} (h:
((decide (p0.Depth<1)=true→
 false=r0)∧
(decide (p0.Depth<1)=false→
(decide (12<p0.Depth)=true→
 false=r0)∧
(decide (12<p0.Depth)=false→
([p0.Anchor,p0.Account,p0.Bind,p1.Secret].length≤9223372036854775807)∧let r1:Bool:=([p0.Anchor,p0.Account,p0.Bind,p1.Secret].all (fun x=>decide (x<18446744069414584321)))
((!r1)=true→
 false=r0)∧
((!r1)=false→
(p0.Marks.length≤9223372036854775807)∧let r2:Bool:=(p0.Marks.all (fun x=>decide (x<18446744069414584321)))
((!r2)=true→
 false=r0)∧
((!r2)=false→
(p0.Commits.length≤9223372036854775807)∧let r3:Bool:=(p0.Commits.all (fun x=>decide (x<18446744069414584321)))
((!r3)=true→
 false=r0)∧
((!r3)=false→
(p0.Rhos.length≤9223372036854775807)∧let r4:Bool:=(p0.Rhos.all (fun x=>decide (x<18446744069414584321)))
((!r4)=true→
 false=r0)∧
((!r4)=false→
(decide (4294967295<p0.Deposit)=true→
 false=r0)∧
(decide (4294967295<p0.Deposit)=false→
(decide (4294967295<p0.Withdraw)=true→
 false=r0)∧
(decide (4294967295<p0.Withdraw)=false→
(decide (4294967295<p0.Fee)=true→
 false=r0)∧
(decide (4294967295<p0.Fee)=false→
 let v5:Bool:=((p1.Ins.length:Int) !=(p0.Marks.length:Int))
(v5=true→
 false=r0)∧
(v5=false→
(decide (4<(p1.Ins.length:Int))=true→
 false=r0)∧
(decide (4<(p1.Ins.length:Int))=false→
 let v6:Bool:=((p1.Outs.length:Int) !=(p0.Commits.length:Int))
(v6=true→
 false=r0)∧
(v6=false→
 let v7:Bool:=((p1.Outs.length:Int) !=(p0.Rhos.length:Int))
(v7=true→
 false=r0)∧
(v7=false→
(decide (4<(p1.Outs.length:Int))=true→
 false=r0)∧
(decide (4<(p1.Outs.length:Int))=false→
 Md.Loop ((0:Int),p0.Depth,p0.Anchor,p0.Marks,p0.Commits,p0.Rhos,p0.Deposit,p0.Withdraw,p0.Fee,p0.Account,p0.Bind,p1.Ins,p1.Outs,p1.Secret,()) (kdq (r0,())))))))))))))))))):kl8 (p0.Depth,p0.Anchor,p0.Marks,p0.Commits,p0.Rhos,p0.Deposit,p0.Withdraw,p0.Fee,p0.Account,p0.Bind,p1.Ins,p1.Outs,p1.Secret,()) (r0,()):=WPh.of_eq (by kernel_rfl) h
def k10f (r0:Bool) (k1:Int→Prop) (h0_0:Int) (h0_1:Int) (h0_2:List Int) (h0_3:List Int) (h0_4:List Int) (h0_5:Int) (h0_6:Int) (h0_7:Int) (h0_8:Int) (h0_9:Int) (h1_0:List TSpent) (h1_1:List TNote) (h1_2:Int) (s5:Int):Prop:=
(decide (s5<(h1_0.length:Int))=true→
(0≤s5)∧s5<(h1_0.length:Int)∧((ix h1_0 s5).Path.length≤9223372036854775807)∧((!(inpV (ix h1_0 s5) h0_0))=true→
 false=r0)∧
((!(inpV (ix h1_0 s5) h0_0))=false→
 k1 (IntKind.i64.wrap (s5+1):Int)))∧
(decide (s5<(h1_0.length:Int))=false→
(h1_1.length≤9223372036854775807)∧(h1_1.all noteV)=r0)
theorem k1ep {r0:Bool} {h0_0:Int} {h0_1:Int} {h0_2:List Int} {h0_3:List Int} {h0_4:List Int} {h0_5:Int} {h0_6:Int} {h0_7:Int} {h0_8:Int} {h0_9:Int} {h1_0:List TSpent} {h1_1:List TNote} {h1_2:Int} {s5:Int} (inv:Int→Prop) (μ:Int→Nat) (h0:inv s5) (hs:∀(s5:Int),inv s5→k10f r0 (fun s5q=>inv s5q∧μ s5q<μ s5) h0_0 h0_1 h0_2 h0_3 h0_4 h0_5 h0_6 h0_7 h0_8 h0_9 h1_0 h1_1 h1_2 s5):Md.Loop (s5,h0_0,h0_1,h0_2,h0_3,h0_4,h0_5,h0_6,h0_7,h0_8,h0_9,h1_0,h1_1,h1_2,()) (kdq (r0,())):=
 ⟨⟨fun s:Int×Int×Int×(List Int)×(List Int)×(List Int)×Int×Int×Int×Int×Int×(List TSpent)×(List TNote)×Int×Unit=>(s.2.1=h0_0∧s.2.2.1=h0_1∧s.2.2.2.1=h0_2∧s.2.2.2.2.1=h0_3∧s.2.2.2.2.2.1=h0_4∧s.2.2.2.2.2.2.1=h0_5∧s.2.2.2.2.2.2.2.1=h0_6∧s.2.2.2.2.2.2.2.2.1=h0_7∧s.2.2.2.2.2.2.2.2.2.1=h0_8∧s.2.2.2.2.2.2.2.2.2.2.1=h0_9∧s.2.2.2.2.2.2.2.2.2.2.2.1=h1_0∧s.2.2.2.2.2.2.2.2.2.2.2.2.1=h1_1∧s.2.2.2.2.2.2.2.2.2.2.2.2.2.1=h1_2)∧inv s.1,fun s:Int×Int×Int×(List Int)×(List Int)×(List Int)×Int×Int×Int×Int×Int×(List TSpent)×(List TNote)×Int×Unit=>μ s.1,⟨⟨rfl,rfl,rfl,rfl,rfl,rfl,rfl,rfl,rfl,rfl,rfl,rfl,rfl⟩,h0⟩,fun(s5p,h0_0p,h0_1p,h0_2p,h0_3p,h0_4p,h0_5p,h0_6p,h0_7p,h0_8p,h0_9p,h1_0p,h1_1p,h1_2p,()) ⟨⟨eq0,eq1,eq2,eq3,eq4,eq5,eq6,eq7,eq8,eq9,eq10,eq11,eq12⟩,hi⟩=>by
  have eq0:h0_0p=h0_0:=eq0;subst h0_0p;have eq1:h0_1p=h0_1:=eq1;subst h0_1p;have eq2:h0_2p=h0_2:=eq2;subst h0_2p;have eq3:h0_3p=h0_3:=eq3;subst h0_3p;have eq4:h0_4p=h0_4:=eq4;subst h0_4p;have eq5:h0_5p=h0_5:=eq5;subst h0_5p;have eq6:h0_6p=h0_6:=eq6;subst h0_6p;have eq7:h0_7p=h0_7:=eq7;subst h0_7p;have eq8:h0_8p=h0_8:=eq8;subst h0_8p;have eq9:h0_9p=h0_9:=eq9;subst h0_9p;have eq10:h1_0p=h1_0:=eq10;subst h1_0p;have eq11:h1_1p=h1_1:=eq11;subst h1_1p;have eq12:h1_2p=h1_2:=eq12;subst h1_2p;exact mpr_of (by kernel_rfl) ((congrArg (fun k=>k10f r0 k h0_0 h0_1 h0_2 h0_3 h0_4 h0_5 h0_6 h0_7 h0_8 h0_9 h1_0 h1_1 h1_2 s5p) (lpk1 (⟨rfl,rfl,rfl,rfl,rfl,rfl,rfl,rfl,rfl,rfl,rfl,rfl,rfl⟩:h0_0=h0_0∧h0_1=h0_1∧h0_2=h0_2∧h0_3=h0_3∧h0_4=h0_4∧h0_5=h0_5∧h0_6=h0_6∧h0_7=h0_7∧h0_8=h0_8∧h0_9=h0_9∧h1_0=h1_0∧h1_1=h1_1∧h1_2=h1_2) inv (fun s5q=>μ s5q<μ s5p))).mpr (hs s5p hi))⟩⟩
theorem bd16:Callable Try.prog 16:=⟨by rw[Try.func16];kernel_rfl,by rw[Try.func16];show some _≠some _;decide⟩
theorem k1bh (p0:TStatement) (p1:TWitness) (h:SR p0∧WR p1):kl8 (p0.Depth,p0.Anchor,p0.Marks,p0.Commits,p0.Rhos,p0.Deposit,p0.Withdraw,p0.Fee,p0.Account,p0.Bind,p1.Ins,p1.Outs,p1.Secret,()) (((relV p0 p1):Bool),()):=by
 obtain⟨hs,hw⟩:=h
 have l1:=hs.ml
 have l2:=hs.cl
 have l3:=hs.rl
 have l4:=hw.il
 have l5:=hw.ol
 have hf:relV p0 p1=true↔_:=kx6
 have no:relV p0 p1≠true→false=relV p0 p1:=fun h=>by cases hr:relV p0 p1 with
  |false=>rfl
  |true=>exact(h hr).elim
 have no:(_→False)→false=relV p0 p1:=fun h=>no fun a=>h (hf.1 a)
 have ea:∀l:List Int,(l.all (fun x=>decide (x<18446744069414584321)))=allB l:=fun _=>rfl
 refine k1hz ?_
 simp only[ea]
 refine⟨fun h=>no fun a=> ?_,fun h1=>⟨fun h=>no fun a=> ?_,fun h2=>⟨by simp,fun h=>no fun a=> ?_,fun h3=>⟨by omega,fun h=>no fun a=> ?_,fun h4=>⟨by omega,fun h=>no fun a=> ?_,fun h5=>⟨by omega,fun h=>no fun a=> ?_,fun h6=>⟨fun h=>no fun a=> ?_,fun h7=>⟨fun h=>no fun a=> ?_,fun h8=>⟨fun h=>no fun a=> ?_,fun h9=>⟨fun h=>no fun a=> ?_,fun h10=>⟨fun h=>no fun a=> ?_,fun h11=>⟨fun h=>no fun a=> ?_,fun h12=>⟨fun h=>no fun a=> ?_,fun h13=>⟨fun h=>no fun a=> ?_,fun h14=> ?_⟩⟩⟩⟩⟩⟩⟩⟩⟩⟩⟩⟩⟩⟩
 ·have h:=of_decide_eq_true h;omega
 ·have h:=of_decide_eq_true h;omega
 ·rw[a.2.2.1]at h;cases h
 ·rw[a.2.2.2.2.2.2.1]at h;cases h
 ·rw[a.2.2.2.2.2.2.2.1]at h;cases h
 ·rw[a.2.2.2.2.2.2.2.2.1]at h;cases h
 ·have h:=of_decide_eq_true h;omega
 ·have h:=of_decide_eq_true h;omega
 ·have h:=of_decide_eq_true h;omega
 ·have h:¬(p1.Ins.length:Int)=p0.Marks.length:=by simpa using h
  omega
 ·have h:=of_decide_eq_true h;omega
 ·have h:¬(p1.Outs.length:Int)=p0.Commits.length:=by simpa using h
  omega
 ·have h:¬(p1.Outs.length:Int)=p0.Rhos.length:=by simpa using h
  omega
 ·have h:=of_decide_eq_true h;omega
 have h1:=of_decide_eq_false h1
 have h2:=of_decide_eq_false h2
 have h3:allB [p0.Anchor,p0.Account,p0.Bind,p1.Secret]=true:=by simpa using h3
 have h4:allB p0.Marks=true:=by simpa using h4
 have h5:allB p0.Commits=true:=by simpa using h5
 have h6:allB p0.Rhos=true:=by simpa using h6
 have h7:=of_decide_eq_false h7
 have h8:=of_decide_eq_false h8
 have h9:=of_decide_eq_false h9
 have h10:(p1.Ins.length:Int)=p0.Marks.length:=by simpa using h10
 have h11:=of_decide_eq_false h11
 have h12:(p1.Outs.length:Int)=p0.Commits.length:=by simpa using h12
 have h13:(p1.Outs.length:Int)=p0.Rhos.length:=by simpa using h13
 have h14:=of_decide_eq_false h14
 have hd:1≤p0.Depth∧p0.Depth≤12:=⟨by omega,by omega⟩
 refine k1ep (AllI (inV p0.Depth) p1.Ins) (fun i=>(p1.Ins.length-i).toNat) AllI.start ?_
 intro i hi
 refine⟨fun hh=> ?_,fun hh=> ?_⟩
 ·have hh:=of_decide_eq_true hh
  have hx:=hw.i _ (ix_mem p1.Ins i hi.1 hh)
  have hxl:=hx.pl
  rw[k1m9 hd.1 hd.2]
  refine⟨hi.1,hh,by omega,fun e=>no fun a=> ?_,fun e=>hi.next hh (by omega) (by simpa using e)⟩
  have e:inV p0.Depth (ix p1.Ins i)=false:=by simpa using e
  rw[hi.bad hh e]at a
  exact absurd a.2.2.2.2.2.2.2.2.2.2.2.2.2.2.1 (by simp)
 ·have hh:=of_decide_eq_false hh
  have ha:=hi.done hh
  refine⟨by omega,?_⟩
  cases hb:p1.Outs.all noteV with
  |false=>exact no fun a=>by rw[hb]at a;exact absurd a.2.2.2.2.2.2.2.2.2.2.2.2.2.2.2 (by simp)
  |true=>exact(hf.2 ⟨hd.1,hd.2,h3,by omega,by omega,by omega,h4,h5,h6,by omega,by omega,by omega,by omega,by omega,ha,hb⟩).symm
noncomputable def knw:Con TB.den:=k3z.fnR (fun x=>(fun(p0:TStatement) (p1:TWitness)=>SR p0∧WR p1) (TStatement.mk x.1 x.2.1 x.2.2.1 x.2.2.2.1 x.2.2.2.2.1 x.2.2.2.2.2.1 x.2.2.2.2.2.2.1 x.2.2.2.2.2.2.2.1 x.2.2.2.2.2.2.2.2.1 x.2.2.2.2.2.2.2.2.2.1) (TWitness.mk x.2.2.2.2.2.2.2.2.2.2.1 x.2.2.2.2.2.2.2.2.2.2.2.1 x.2.2.2.2.2.2.2.2.2.2.2.2.1)) fun x=>((fun(p0:TStatement) (p1:TWitness)=>((relV p0 p1):Bool)) (TStatement.mk x.1 x.2.1 x.2.2.1 x.2.2.2.1 x.2.2.2.2.1 x.2.2.2.2.2.1 x.2.2.2.2.2.2.1 x.2.2.2.2.2.2.2.1 x.2.2.2.2.2.2.2.2.1 x.2.2.2.2.2.2.2.2.2.1) (TWitness.mk x.2.2.2.2.2.2.2.2.2.2.1 x.2.2.2.2.2.2.2.2.2.2.2.1 x.2.2.2.2.2.2.2.2.2.2.2.2.1),())
theorem k12d:knw.Ok Try.prog TB:=Con.ok_fn k3z bd16 fun x h=>k1e1 (k1bh (TStatement.mk x.1 x.2.1 x.2.2.1 x.2.2.2.1 x.2.2.2.2.1 x.2.2.2.2.2.1 x.2.2.2.2.2.2.1 x.2.2.2.2.2.2.2.1 x.2.2.2.2.2.2.2.2.1 x.2.2.2.2.2.2.2.2.2.1) (TWitness.mk x.2.2.2.2.2.2.2.2.2.2.1 x.2.2.2.2.2.2.2.2.2.2.2.1 x.2.2.2.2.2.2.2.2.2.2.2.2.1) h)
def k3l:Con TB.den:=Con.mk0 108 [.one (.d (.int .i64))] [] (.one (.one (.d (.bool)))) []
abbrev k12j:=HL TB.den (hsT k3l.ins (hsOs k3l.pre))
abbrev kk4:=HL TB.den (hsV k3l.res (hsOs k3l.post))
noncomputable def kca:Cx TB:=⟨inf,[],[],4,[]⟩
noncomputable def kk9:Code:=Try.f108.body.getD .skip
noncomputable def knm:List ResultVar:=Try.f108.results.toList
noncomputable def kye (o:kk4):An TB:= .no
def kje (x:k12j) (o:kk4):Prop:=WPh TB kca 9 0 kk9 (kye o) (k3l.st TB x) (retTQ TB kca k3l knm o)
theorem k1ca (o:kk4):OblH TB kca 9 0 kk9 (kye o) (retTQ TB kca k3l knm o):=
 OblH.ofC (X:=True) (by kernel_rfl) trivial
theorem k1bn {x:k12j} {o:kk4} (h:kje x o):k3l.Snd Try.prog x o:=
 Con.soundH (c:=k3l) (C:=kca) TBok ⟨inf_ok,all_nil,all_nil⟩ mix Try.func108 (show Try.f108.body=some kk9 by kernel_rfl) (show Try.f108.ntmps=9 by kernel_rfl) (show Try.f108.results.toList=knm by kernel_rfl) rfl h (k1ca o)
theorem k1dv {p0:Int} {r0:Bool} (h:
((decide (0≤p0)=true→
 decide (p0<4)=r0)∧
(decide (0≤p0)=false→
 false=r0))):kje (p0,()) (r0,()):=WPh.of_eq (by kernel_rfl) h
theorem bd108:Callable Try.prog 108:=⟨by rw[Try.func108];kernel_rfl,by rw[Try.func108];show some _≠some _;decide⟩
theorem k1ae (p0:Int):kje (p0,()) (((decide (0≤p0)&&decide (p0<4)):Bool),()):=by
 refine k1dv ⟨fun e=> ?_,fun e=> ?_⟩
 ·rw[e];rfl
 ·rw[e];rfl
noncomputable def kun:Con TB.den:=k3l.totR fun x=>((fun(p0:Int)=>((decide (0≤p0)&&decide (p0<4)):Bool)) x.1,())
theorem k1el:kun.Ok Try.prog TB:=Con.ok_tot k3l bd108 fun x=>k1bn (k1ae x.1)
def k4y:Con TB.den:=Con.mk0 88 [.one (.d (.int .u64)),.one (.d (.int .i64))] [] (.one (.one (.d (.int .u64)))) []
abbrev k15p:=HL TB.den (hsT k4y.ins (hsOs k4y.pre))
abbrev kmo:=HL TB.den (hsV k4y.res (hsOs k4y.post))
noncomputable def kds:Cx TB:=⟨inf,[kun,kqs],[],4,[]⟩
noncomputable def km1:Code:=Try.f88.body.getD .skip
noncomputable def kqc:List ResultVar:=Try.f88.results.toList
noncomputable def k12h (o:kmo):An TB:= .no
def km0 (x:k15p) (o:kmo):Prop:=WPh TB kds 13 0 km1 (k12h o) (k4y.st TB x) (retTQ TB kds k4y kqc o)
theorem k1gb (o:kmo):OblH TB kds 13 0 km1 (k12h o) (retTQ TB kds k4y kqc o):=
 OblH.ofC (X:=True) (by kernel_rfl) trivial
theorem k1fn {x:k15p} {o:kmo} (h:km0 x o):k4y.Snd Try.prog x o:=
 Con.soundH (c:=k4y) (C:=kds) TBok ⟨inf_ok,(all_cons k1el (all_cons k162 all_nil)),all_nil⟩ mix Try.func88 (show Try.f88.body=some km1 by kernel_rfl) (show Try.f88.ntmps=13 by kernel_rfl) (show Try.f88.results.toList=kqc by kernel_rfl) rfl h (k1gb o)
theorem k1go {p0:Int} {p1:Int} {r0:Int} (h:
(((!(decide (0≤p1)&&decide (p1<4)))=true→
 0=r0)∧
((!(decide (0≤p1)&&decide (p1<4)))=false→
(U64 (1:Int)∧Us [p0,IntKind.u64.wrap p1]∧(∀x∈[p0,IntKind.u64.wrap p1],x<18446744069414584321)∧[p0,IntKind.u64.wrap p1].length≤1073741824)∧let r1:Int:=(hashS (1:Int) [p0,IntKind.u64.wrap p1])
 r1=r0))):km0 (p0,p1,()) (r0,()):=WPh.of_eq (by kernel_rfl) h
theorem bd88:Callable Try.prog 88:=⟨by rw[Try.func88];kernel_rfl,by rw[Try.func88];show some _≠some _;decide⟩
theorem k1b5 (p0:Int) (p1:Int) (h:(U64 p0∧p0<18446744069414584321)∧-9223372036854775808≤p1∧p1≤9223372036854775807):km0 (p0,p1,()) (((ownerS p0 p1):Int),()):=by
 obtain⟨⟨h0,h1⟩,h2,h3⟩:=h
 refine k1go ?_
 unfold ownerS
 refine⟨fun e=> ?_,fun e=> ?_⟩
 ·rw[if_neg (fun a=>by simp at e;omega)]
 ·have e:0≤p1∧p1<4:=by simpa using e
  have ew:IntKind.u64.wrap p1=p1:=by rw[IntKind.wrap_u64];omega
  rw[if_pos e,ew]
  refine⟨⟨by decide,?_,?_,by simp⟩,rfl⟩<;>intro x hx<;>simp only[List.mem_cons,List.not_mem_nil,or_false]at hx<;>rcases hx with rfl|rfl
  ·exact h0
  ·exact⟨by omega,by omega⟩
  ·exact h1
  ·omega
noncomputable def kyj:Con TB.den:=k4y.fnR (fun x=>(fun(p0:Int) (p1:Int)=>(U64 p0∧p0<18446744069414584321)∧-9223372036854775808≤p1∧p1≤9223372036854775807) x.1 x.2.1) fun x=>((fun(p0:Int) (p1:Int)=>((ownerS p0 p1):Int)) x.1 x.2.1,())
theorem k1j1:kyj.Ok Try.prog TB:=Con.ok_fn k4y bd88 fun x h=>k1fn (k1b5 x.1 x.2.1 h)
def k5g:Con TB.den:=Con.mk0 109 [.one (.d (.int .u64)),.one (.d (.int .u64))] [] (.one (.one (.d (.int .u64)))) []
abbrev k1aj:=HL TB.den (hsT k5g.ins (hsOs k5g.pre))
abbrev kpf:=HL TB.den (hsV k5g.res (hsOs k5g.post))
noncomputable def kgj:Cx TB:=⟨inf,[kdk,kef],[],4,[]⟩
noncomputable def knn:Code:=Try.f109.body.getD .skip
noncomputable def kua:List ResultVar:=Try.f109.results.toList
noncomputable def k152 (o:kpf):An TB:= .no
def knr (x:k1aj) (o:kpf):Prop:=WPh TB kgj 17 0 knn (k152 o) (k5g.st TB x) (retTQ TB kgj k5g kua o)
theorem k1h6 (o:kpf):OblH TB kgj 17 0 knn (k152 o) (retTQ TB kgj k5g kua o):=
 OblH.ofC (X:=True) (by kernel_rfl) trivial
theorem k1hm {x:k1aj} {o:kpf} (h:knr x o):k5g.Snd Try.prog x o:=
 Con.soundH (c:=k5g) (C:=kgj) TBok ⟨inf_ok,(all_cons km5 (all_cons kmb all_nil)),all_nil⟩ mix Try.func109 (show Try.f109.body=some knn by kernel_rfl) (show Try.f109.ntmps=17 by kernel_rfl) (show Try.f109.results.toList=kua by kernel_rfl) rfl h (k1h6 o)
theorem bd109:Callable Try.prog 109:=⟨by rw[Try.func109];kernel_rfl,by rw[Try.func109];show some _≠some _;decide⟩
noncomputable def k11z:Con TB.den:=k5g.relR knr
theorem k1l5:k11z.Ok Try.prog TB:=Con.ok_rel k5g bd109 fun _ _ h=>k1hm h
def k3m:Con TB.den:=Con.mk0 89 [.agg [.d (.bool),.d (.int .u64),.d (.int .i64),.d (.sl (.st 3)),.d (.sl (.st 8)),.d (.sl (.st 8))],.one (.d (.int .u64)),.one (.d (.int .u64))] [] (.tup [.one (.d (.int .u64)),.one (.d (.bool))]) []
abbrev k12c:=HL TB.den (hsT k3m.ins (hsOs k3m.pre))
abbrev kjh:=HL TB.den (hsV k3m.res (hsOs k3m.post))
noncomputable def kcg:Cx TB:=⟨inf,[k11z,kk7],[],4,[]⟩
noncomputable def kir:Code:=Try.f89.body.getD .skip
noncomputable def knu:List ResultVar:=Try.f89.results.toList
noncomputable def kym (o:kjh):An TB:= .no
def kjy (x:k12c) (o:kjh):Prop:=WPh TB kcg 22 0 kir (kym o) (k3m.st TB x) (retTQ TB kcg k3m knu o)
theorem k1cp (o:kjh):OblH TB kcg 22 0 kir (kym o) (retTQ TB kcg k3m knu o):=
 OblH.ofC (X:=True) (by kernel_rfl) trivial
theorem k1bt {x:k12c} {o:kjh} (h:kjy x o):k3m.Snd Try.prog x o:=
 Con.soundH (c:=k3m) (C:=kcg) TBok ⟨inf_ok,(all_cons k1l5 (all_cons ktn all_nil)),all_nil⟩ mix Try.func89 (show Try.f89.body=some kir by kernel_rfl) (show Try.f89.ntmps=22 by kernel_rfl) (show Try.f89.results.toList=knu by kernel_rfl) rfl h (k1cp o)
theorem k1f9 {p0:TPlace} {p1:Int} {p2:Int} {r0:Int} {r1:Bool} (h:
(((!p0.Ideal)=true→
 ∃r5:Int,knr (p1,p2,()) (r5,())∧r5=r0∧true=r1)∧
((!p0.Ideal)=false→
(KQ (TModel.mk p0.M_State p0.M_Draws p0.M_Known p0.M_Seals p0.M_Proofs).Known∧[p1,p2].length≤1000000000)∧let r6:Int:=((rpk (TModel.mk p0.M_State p0.M_Draws p0.M_Known p0.M_Seals p0.M_Proofs).Known (3:Int) [p1,p2]).getD 0)
 let r7:Bool:=((rpk (TModel.mk p0.M_State p0.M_Draws p0.M_Known p0.M_Seals p0.M_Proofs).Known (3:Int) [p1,p2]).isSome)
 r6=r0∧r7=r1))):kjy (p0.Ideal,p0.M_State,p0.M_Draws,p0.M_Known,p0.M_Seals,p0.M_Proofs,p1,p2,()) (r0,r1,()):=WPh.of_eq (by kernel_rfl) h
theorem bd89:Callable Try.prog 89:=⟨by rw[Try.func89];kernel_rfl,by rw[Try.func89];show some _≠some _;decide⟩
theorem k18r (p0:TPlace) (p1:Int) (p2:Int) (h:p0.Ideal=true∧KQ p0.M_Known∧p1<18446744069414584321∧p2<18446744069414584321):kjy (p0.Ideal,p0.M_State,p0.M_Draws,p0.M_Known,p0.M_Seals,p0.M_Proofs,p1,p2,()) ((((markP (rpk p0.M_Known) p1 p2).getD 0):Int),(((markP (rpk p0.M_Known) p1 p2).isSome):Bool),()):=by
 obtain⟨h1,h2,h3,h4⟩:=h
 refine k1f9 ⟨fun e=>by rw[h1]at e;simp at e,fun _=>⟨⟨h2,by simp⟩,?_⟩⟩
 unfold markP
 rw[if_pos ⟨h3,h4⟩]
 exact⟨rfl,rfl⟩
noncomputable def kv2:Con TB.den:=k3m.fnR (fun x=>(fun(p0:TPlace) (p1:Int) (p2:Int)=>p0.Ideal=true∧KQ p0.M_Known∧p1<18446744069414584321∧p2<18446744069414584321) (TPlace.mk x.1 x.2.1 x.2.2.1 x.2.2.2.1 x.2.2.2.2.1 x.2.2.2.2.2.1) x.2.2.2.2.2.2.1 x.2.2.2.2.2.2.2.1) fun x=>((fun(p0:TPlace) (p1:Int) (p2:Int)=>(((markP (rpk p0.M_Known) p1 p2).getD 0):Int)) (TPlace.mk x.1 x.2.1 x.2.2.1 x.2.2.2.1 x.2.2.2.2.1 x.2.2.2.2.2.1) x.2.2.2.2.2.2.1 x.2.2.2.2.2.2.2.1,(fun(p0:TPlace) (p1:Int) (p2:Int)=>(((markP (rpk p0.M_Known) p1 p2).isSome):Bool)) (TPlace.mk x.1 x.2.1 x.2.2.1 x.2.2.2.1 x.2.2.2.2.1 x.2.2.2.2.2.1) x.2.2.2.2.2.2.1 x.2.2.2.2.2.2.2.1,())
theorem k1e7:kv2.Ok Try.prog TB:=Con.ok_fn k3m bd89 fun x h=>k1bt (k18r (TPlace.mk x.1 x.2.1 x.2.2.1 x.2.2.2.1 x.2.2.2.2.1 x.2.2.2.2.2.1) x.2.2.2.2.2.2.1 x.2.2.2.2.2.2.2.1 h)
def k4g:Con TB.den:=Con.mk0 43 [.agg [.d (.bool),.d (.int .u64),.d (.int .i64),.d (.sl (.st 3)),.d (.sl (.st 8)),.d (.sl (.st 8))],.one (.d (.int .u64)),.one (.d (.int .u64)),.agg [.d (.int .u64),.d (.int .u64),.d (.int .u64),.d (.int .u64),.d (.int .u64),.d (.int .i64),.d (.int .i64),.d (.sl (.int .u64)),.d (.bool)]] [] (.one (.one (.d (.int .i64)))) []
abbrev k15v:=HL TB.den (hsT k4g.ins (hsOs k4g.pre))
abbrev kmc:=HL TB.den (hsV k4g.res (hsOs k4g.post))
noncomputable def kdw:Cx TB:=⟨inf,[kyj,kv2,kdt,ko4],[],4,[]⟩
noncomputable def klh:Code:=Try.f43.body.getD .skip
noncomputable def kpn:List ResultVar:=Try.f43.results.toList
noncomputable def k122 (o:kmc):An TB:= .no
def klq (x:k15v) (o:kmc):Prop:=WPh TB kdw 63 0 klh (k122 o) (k4g.st TB x) (retTQ TB kdw k4g kpn o)
theorem k1fx (o:kmc):OblH TB kdw 63 0 klh (k122 o) (retTQ TB kdw k4g kpn o):=
 OblH.ofC (X:=True) (by kernel_rfl) trivial
theorem k1eh {x:k15v} {o:kmc} (h:klq x o):k4g.Snd Try.prog x o:=
 Con.soundH (c:=k4g) (C:=kdw) TBok ⟨inf_ok,(all_cons k1j1 (all_cons k1e7 (all_cons kos (all_cons k10g all_nil)))),all_nil⟩ mix Try.func43 (show Try.f43.body=some klh by kernel_rfl) (show Try.f43.ntmps=63 by kernel_rfl) (show Try.f43.results.toList=kpn by kernel_rfl) rfl h (k1fx o)
theorem k1gp {p0:TPlace} {p1:Int} {p2:Int} {p3:TSpent} {r0:Int} (h:
(((U64 p3.Key∧p3.Key<18446744069414584321)∧-9223372036854775808≤p3.Number∧p3.Number≤9223372036854775807)∧let v1:Bool:=(p3.Note_Owner !=(ownerS p3.Key p3.Number))
(v1=true→
 21=r0)∧
(v1=false→
(p0.Ideal=true∧KQ p0.M_Known∧p3.Key<18446744069414584321∧p3.Note_Rho<18446744069414584321)∧let r2:Int:=((markP (rpk p0.M_Known) p3.Key p3.Note_Rho).getD 0)
 let r3:Bool:=((markP (rpk p0.M_Known) p3.Key p3.Note_Rho).isSome)
((!r3)=true→
 12=r0)∧
((!r3)=false→
((r2 !=p2)=true→
 12=r0)∧
((r2 !=p2)=false→
(p3.Dummy=true→
((p3.Note_Value !=0)=true→
 13=r0)∧
((p3.Note_Value !=0)=false→
 0=r0))∧
(p3.Dummy=false→
(p0.Ideal=true∧KQ p0.M_Known∧NR (TNote.mk p3.Note_Value p3.Note_Owner p3.Note_Rho p3.Note_Blind))∧let r4:Int:=((commP (rpk p0.M_Known) (TNote.mk p3.Note_Value p3.Note_Owner p3.Note_Rho p3.Note_Blind)).getD 0)
 let r5:Bool:=((commP (rpk p0.M_Known) (TNote.mk p3.Note_Value p3.Note_Owner p3.Note_Rho p3.Note_Blind)).isSome)
((!r5)=true→
 11=r0)∧
((!r5)=false→
(U64 r4∧Us p3.Path∧p3.Path.length≤1073741824∧p3.Position≤9223372036854775807)∧(((climbS r4 p3.Position p3.Path) !=p1)=true→
 11=r0)∧
(((climbS r4 p3.Position p3.Path) !=p1)=false→
 0=r0)))))))):klq (p0.Ideal,p0.M_State,p0.M_Draws,p0.M_Known,p0.M_Seals,p0.M_Proofs,p1,p2,p3.Note_Value,p3.Note_Owner,p3.Note_Rho,p3.Note_Blind,p3.Key,p3.Number,p3.Position,p3.Path,p3.Dummy,()) (r0,()):=WPh.of_eq (by kernel_rfl) h
theorem bd43:Callable Try.prog 43:=⟨by rw[Try.func43];kernel_rfl,by rw[Try.func43];show some _≠some _;decide⟩
theorem k1bm (p0:TPlace) (p1:Int) (p2:Int) (p3:TSpent) (h:p0.Ideal=true∧KU p0.M_Known∧PR p3∧spendV p3=true):klq (p0.Ideal,p0.M_State,p0.M_Draws,p0.M_Known,p0.M_Seals,p0.M_Proofs,p1,p2,p3.Note_Value,p3.Note_Owner,p3.Note_Rho,p3.Note_Blind,p3.Key,p3.Number,p3.Position,p3.Path,p3.Dummy,()) (((inE (rpk p0.M_Known) p1 p2 p3):Int),()):=by
 obtain⟨h1,hk,hp,hs⟩:=h
 have hs:=kp8.1 hs
 have hnv:noteV (noteOf p3)=true:=hs.1
 have hrho:p3.Note_Rho<18446744069414584321:=by
  unfold noteV at hnv
  simp only[Bool.and_eq_true,decide_eq_true_eq]at hnv
  exact hnv.1.2
 have hu:=rpk_u hk.u
 have hcu:U64 ((commP (rpk p0.M_Known) (noteOf p3)).getD 0):=by
  unfold commP
  rw[if_pos hnv]
  rcases hu 2 (noteL (noteOf p3))with h|⟨n,h,hn⟩
  ·rw[h];decide
  ·rw[h];exact hn
 clear hu
 have en:noteOf p3=⟨p3.Note_Value,p3.Note_Owner,p3.Note_Rho,p3.Note_Blind⟩:=rfl
 refine k1gp ⟨⟨⟨hp.k,hs.2.1⟩,hp.nu.1,hp.nu.2⟩,?_⟩
 simp only[←en]
 unfold inE
 refine⟨fun e=> ?_,fun e=>⟨⟨h1,hk.k,hs.2.1,hrho⟩,fun e2=> ?_,fun e2=>⟨fun e3=> ?_,fun e3=>⟨fun e4=>⟨fun e5=> ?_,fun e5=> ?_⟩,fun e4=>⟨⟨h1,hk.k,hp.n⟩,fun e6=> ?_,fun e6=>⟨⟨hcu,hp.pa,hp.pl,hp.po.2⟩,fun e7=> ?_,fun e7=> ?_⟩⟩⟩⟩⟩⟩
 all_goals simp_all
noncomputable def ky8:Con TB.den:=k4g.fnR (fun x=>(fun(p0:TPlace) (p1:Int) (p2:Int) (p3:TSpent)=>p0.Ideal=true∧KU p0.M_Known∧PR p3∧spendV p3=true) (TPlace.mk x.1 x.2.1 x.2.2.1 x.2.2.2.1 x.2.2.2.2.1 x.2.2.2.2.2.1) x.2.2.2.2.2.2.1 x.2.2.2.2.2.2.2.1 (TSpent.mk x.2.2.2.2.2.2.2.2.1 x.2.2.2.2.2.2.2.2.2.1 x.2.2.2.2.2.2.2.2.2.2.1 x.2.2.2.2.2.2.2.2.2.2.2.1 x.2.2.2.2.2.2.2.2.2.2.2.2.1 x.2.2.2.2.2.2.2.2.2.2.2.2.2.1 x.2.2.2.2.2.2.2.2.2.2.2.2.2.2.1 x.2.2.2.2.2.2.2.2.2.2.2.2.2.2.2.1 x.2.2.2.2.2.2.2.2.2.2.2.2.2.2.2.2.1)) fun x=>((fun(p0:TPlace) (p1:Int) (p2:Int) (p3:TSpent)=>((inE (rpk p0.M_Known) p1 p2 p3):Int)) (TPlace.mk x.1 x.2.1 x.2.2.1 x.2.2.2.1 x.2.2.2.2.1 x.2.2.2.2.2.1) x.2.2.2.2.2.2.1 x.2.2.2.2.2.2.2.1 (TSpent.mk x.2.2.2.2.2.2.2.2.1 x.2.2.2.2.2.2.2.2.2.1 x.2.2.2.2.2.2.2.2.2.2.1 x.2.2.2.2.2.2.2.2.2.2.2.1 x.2.2.2.2.2.2.2.2.2.2.2.2.1 x.2.2.2.2.2.2.2.2.2.2.2.2.2.1 x.2.2.2.2.2.2.2.2.2.2.2.2.2.2.1 x.2.2.2.2.2.2.2.2.2.2.2.2.2.2.2.1 x.2.2.2.2.2.2.2.2.2.2.2.2.2.2.2.2.1),())
theorem k1i3:ky8.Ok Try.prog TB:=Con.ok_fn k4g bd43 fun x h=>k1eh (k1bm (TPlace.mk x.1 x.2.1 x.2.2.1 x.2.2.2.1 x.2.2.2.2.1 x.2.2.2.2.2.1) x.2.2.2.2.2.2.1 x.2.2.2.2.2.2.2.1 (TSpent.mk x.2.2.2.2.2.2.2.2.1 x.2.2.2.2.2.2.2.2.2.1 x.2.2.2.2.2.2.2.2.2.2.1 x.2.2.2.2.2.2.2.2.2.2.2.1 x.2.2.2.2.2.2.2.2.2.2.2.2.1 x.2.2.2.2.2.2.2.2.2.2.2.2.2.1 x.2.2.2.2.2.2.2.2.2.2.2.2.2.2.1 x.2.2.2.2.2.2.2.2.2.2.2.2.2.2.2.1 x.2.2.2.2.2.2.2.2.2.2.2.2.2.2.2.2.1) h)
end Go.Proofs.Ytpffhgljgpjenaa
end
