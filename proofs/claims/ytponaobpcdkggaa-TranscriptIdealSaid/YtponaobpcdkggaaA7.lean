/-
  Parts of the proofs that the laws of this seat hold of every input, merged by a program: a machine over pure data that is sound for the model, what each function of the translation does in it, and plain lemmas. No conditions but those in each theorem.
-/
import Derived.Test.YtponaobpcdkggaaA6
set_option linter.all false
set_option maxRecDepth 100000
noncomputable section
namespace Go.Proofs.Ytponaobpcdkggaa
open Go Go.Bv Go.Cv Go.Md Go.RowKit
def k2t:Con TB.den:=Con.mk0 8 [.one (.d (.int .u64)),.one (.d (.sl (.st 0))),.one (.d (.int .u8))] [] (.one (.one (.d (.bool)))) []
abbrev kn8:=HL TB.den (hsT k2t.ins (hsOs k2t.pre))
abbrev k4y:=HL TB.den (hsV k2t.res (hsOs k2t.post))
noncomputable def k4f:Cx TB:=⟨inf,[krk,kz4,kzw,kuf,k7z,ksw,kaq,kus],[],4,[]⟩
noncomputable def k72:Code:=Try.f8.body.getD .skip
noncomputable def k9l:List ResultVar:=Try.f8.results.toList
def kwg (o:k4y):=qS TB k4f 125 0 (cB (cB (cB k72))) .no (retTQ TB k4f k2t k9l o)
def k99:Tm:=⟨[0,5,1,2,3,4,6,7,8,9],[.cells [.d (.bool),.d (.int .u64),.d (.int .i64),.own 2,.mp 3,.mp 4,.mp 5],.cells [.d (.bool),.d (.int .u64),.d (.int .i64),.own 6,.mp 7,.mp 8,.mp 9],.tip (.st 1),.map (.str) (.int .i64),.map (.str) (.sl (.int .u64)),.map (.str) (.bool),.tip (.st 1),.map (.str) (.int .i64),.map (.str) (.sl (.int .u64)),.map (.str) (.bool)],[1,2,7,8,35],[.one (.d (.sl (.st 0))),.one (.d (.int .u8)),.one (.ptr 0 0),.one (.ptr 1 0),.one (.d (.bool))],10⟩
def kkg (o:k4y) (i:HL TB.den k99.hs):Prop:=ghs TB [] (k99.fill TB i) fun s=>WP TB k4f 125 0 (cB (cA (cB (cB k72)))) .no s (kwg o)
structure k5i (o:k4y) (i:HL TB.den k99.hs):Prop where
 h:kkg o i
noncomputable def kx5 (o:k4y):An TB:= .jn k99 (k5i o) [] .no [] .no
noncomputable def km3 (o:k4y):An TB:= .nd [] .no [] (.nd [] .no [] (.nd [] (kx5 o) [] .no))
def kc6 (x:kn8) (o:k4y):Prop:=WPh TB k4f 125 0 k72 (km3 o) (k2t.st TB x) (retTQ TB k4f k2t k9l o)
theorem kvc (o:k4y):OblH TB k4f 125 0 k72 (km3 o) (retTQ TB k4f k2t k9l o):=
 OblH.ofC (X:=((∀i,(k5i o) i=kkg o i)∧True)) (by kernel_rfl) ⟨fun _=>propext ⟨fun h=>h.1,fun h=>⟨h⟩⟩,trivial⟩
theorem kvh {x:kn8} {o:k4y} (h:kc6 x o):k2t.Snd Try.prog x o:=
 Con.soundH (c:=k2t) (C:=k4f) TBok ⟨inf_ok,(all_cons k134 (all_cons k1bh (all_cons k1cg (all_cons k171 (all_cons kbb (all_cons k14q (all_cons khg (all_cons k13a all_nil)))))))),all_nil⟩ mix Try.func8 (show Try.f8.body=some k72 by kernel_rfl) (show Try.f8.ntmps=125 by kernel_rfl) (show Try.f8.results.toList=k9l by kernel_rfl) rfl h (kvc o)
theorem kws {p0:Int} {p1:List TMessage} {p2:Int} {r0:Bool} (h:
(((!true)=true→
(([]:List TQuestion)=([]:List TQuestion))∧(([]:List TQuestion)=([]:List TQuestion))∧k5i (r0,()) (p1,p2,true,true,p0,(0:Int),true,p0,(0:Int),(([]:List TQuestion):List TQuestion),([]:List ByteArray),([]:List Int),([]:List ByteArray),([]:List (List Int)),([]:List ByteArray),([]:List Bool),(([]:List TQuestion):List TQuestion),([]:List ByteArray),([]:List Int),([]:List ByteArray),([]:List (List Int)),([]:List ByteArray),([]:List Bool),()))∧
((!true)=false→
(p1.length≤9223372036854775807)∧let r1:Bool:=(decide (p1.length≤20)&&p1.all (fun m=>decide (m.L.length≤40)))
((!r1)=true→
(([]:List TQuestion)=([]:List TQuestion))∧(([]:List TQuestion)=([]:List TQuestion))∧k5i (r0,()) (p1,p2,true,true,p0,(0:Int),true,p0,(0:Int),(([]:List TQuestion):List TQuestion),([]:List ByteArray),([]:List Int),([]:List ByteArray),([]:List (List Int)),([]:List ByteArray),([]:List Bool),(([]:List TQuestion):List TQuestion),([]:List ByteArray),([]:List Int),([]:List ByteArray),([]:List (List Int)),([]:List ByteArray),([]:List Bool),()))∧
((!r1)=false→
(([]:List TQuestion)=([]:List TQuestion))∧(([]:List TQuestion)=([]:List TQuestion))∧k5i (r0,()) (p1,p2,false,true,p0,(0:Int),true,p0,(0:Int),(([]:List TQuestion):List TQuestion),([]:List ByteArray),([]:List Int),([]:List ByteArray),([]:List (List Int)),([]:List ByteArray),([]:List Bool),(([]:List TQuestion):List TQuestion),([]:List ByteArray),([]:List Int),([]:List ByteArray),([]:List (List Int)),([]:List ByteArray),([]:List Bool),()))))):kc6 (p0,p1,p2,()) (r0,()):=WPh.of_eq (by kernel_rfl) h
theorem ktd {r0:Bool} {s1:List TMessage} {s2:Int} {s35:Bool} {h0_0:Bool} {h0_1:Int} {h0_2:Int} {h5_0:Bool} {h5_1:Int} {h5_2:Int} {g1:List TQuestion} {g2k:List ByteArray} {g2v:List Int} {g3k:List ByteArray} {g3v:List (List Int)} {g4k:List ByteArray} {g4v:List Bool} {g6:List TQuestion} {g7k:List ByteArray} {g7v:List Int} {g8k:List ByteArray} {g8v:List (List Int)} {g9k:List ByteArray} {g9v:List Bool} (h:
((s35=true→
(true=true→
 true=r0)∧
(true=false→
 false=r0))∧
(s35=false→
(g1=g1)∧(U64 (20:Int)∧((∀m∈s1,MR m)∧s1.length≤1000)∧OOk (OS.mk h0_0 h0_1 h0_2 g1 g2k g2v g3k g3v g4k g4v)∧g1.length≤900000)∧let r2:Int:=((absO (OS.mk h0_0 h0_1 h0_2 g1 g2k g2v g3k g3v g4k g4v) (TTranscript.mk (20:Int) 0) s1).t).State
 let r3:Int:=((absO (OS.mk h0_0 h0_1 h0_2 g1 g2k g2v g3k g3v g4k g4v) (TTranscript.mk (20:Int) 0) s1).t).Count
 let r4:Bool:=((absO (OS.mk h0_0 h0_1 h0_2 g1 g2k g2v g3k g3v g4k g4v) (TTranscript.mk (20:Int) 0) s1).o.a)
 let r5:Int:=((absO (OS.mk h0_0 h0_1 h0_2 g1 g2k g2v g3k g3v g4k g4v) (TTranscript.mk (20:Int) 0) s1).o.b)
 let r6:Int:=((absO (OS.mk h0_0 h0_1 h0_2 g1 g2k g2v g3k g3v g4k g4v) (TTranscript.mk (20:Int) 0) s1).o.c)
 let r7:List TQuestion:=((absO (OS.mk h0_0 h0_1 h0_2 g1 g2k g2v g3k g3v g4k g4v) (TTranscript.mk (20:Int) 0) s1).o.q)
 let r8:List ByteArray:=((absO (OS.mk h0_0 h0_1 h0_2 g1 g2k g2v g3k g3v g4k g4v) (TTranscript.mk (20:Int) 0) s1).o.k)
 let r9:List Int:=((absO (OS.mk h0_0 h0_1 h0_2 g1 g2k g2v g3k g3v g4k g4v) (TTranscript.mk (20:Int) 0) s1).o.v)
 let r10:List ByteArray:=((absO (OS.mk h0_0 h0_1 h0_2 g1 g2k g2v g3k g3v g4k g4v) (TTranscript.mk (20:Int) 0) s1).o.s)
 let r11:List (List Int):=((absO (OS.mk h0_0 h0_1 h0_2 g1 g2k g2v g3k g3v g4k g4v) (TTranscript.mk (20:Int) 0) s1).o.t)
 let r12:List ByteArray:=((absO (OS.mk h0_0 h0_1 h0_2 g1 g2k g2v g3k g3v g4k g4v) (TTranscript.mk (20:Int) 0) s1).o.x)
 let r13:List Bool:=((absO (OS.mk h0_0 h0_1 h0_2 g1 g2k g2v g3k g3v g4k g4v) (TTranscript.mk (20:Int) 0) s1).o.y)
(g6=g6)∧(U64 (20:Int)∧((∀m∈s1,MR m)∧s1.length≤1000)∧OOk (OS.mk h5_0 h5_1 h5_2 g6 g7k g7v g8k g8v g9k g9v)∧g6.length≤900000)∧let r14:Int:=((absO (OS.mk h5_0 h5_1 h5_2 g6 g7k g7v g8k g8v g9k g9v) (TTranscript.mk (20:Int) 0) s1).t).State
 let r15:Int:=((absO (OS.mk h5_0 h5_1 h5_2 g6 g7k g7v g8k g8v g9k g9v) (TTranscript.mk (20:Int) 0) s1).t).Count
 let r16:Bool:=((absO (OS.mk h5_0 h5_1 h5_2 g6 g7k g7v g8k g8v g9k g9v) (TTranscript.mk (20:Int) 0) s1).o.a)
 let r17:Int:=((absO (OS.mk h5_0 h5_1 h5_2 g6 g7k g7v g8k g8v g9k g9v) (TTranscript.mk (20:Int) 0) s1).o.b)
 let r18:Int:=((absO (OS.mk h5_0 h5_1 h5_2 g6 g7k g7v g8k g8v g9k g9v) (TTranscript.mk (20:Int) 0) s1).o.c)
 let r19:List TQuestion:=((absO (OS.mk h5_0 h5_1 h5_2 g6 g7k g7v g8k g8v g9k g9v) (TTranscript.mk (20:Int) 0) s1).o.q)
 let r20:List ByteArray:=((absO (OS.mk h5_0 h5_1 h5_2 g6 g7k g7v g8k g8v g9k g9v) (TTranscript.mk (20:Int) 0) s1).o.k)
 let r21:List Int:=((absO (OS.mk h5_0 h5_1 h5_2 g6 g7k g7v g8k g8v g9k g9v) (TTranscript.mk (20:Int) 0) s1).o.v)
 let r22:List ByteArray:=((absO (OS.mk h5_0 h5_1 h5_2 g6 g7k g7v g8k g8v g9k g9v) (TTranscript.mk (20:Int) 0) s1).o.s)
 let r23:List (List Int):=((absO (OS.mk h5_0 h5_1 h5_2 g6 g7k g7v g8k g8v g9k g9v) (TTranscript.mk (20:Int) 0) s1).o.t)
 let r24:List ByteArray:=((absO (OS.mk h5_0 h5_1 h5_2 g6 g7k g7v g8k g8v g9k g9v) (TTranscript.mk (20:Int) 0) s1).o.x)
 let r25:List Bool:=((absO (OS.mk h5_0 h5_1 h5_2 g6 g7k g7v g8k g8v g9k g9v) (TTranscript.mk (20:Int) 0) s1).o.y)
 let v26:Bool:=(!((r2==r14)&&((r3==r15)&&true)))
(v26=true→
 false=r0)∧
(v26=false→
(r7=r7)∧((U64 (TTranscript.mk r2 r3).State∧U64 (TTranscript.mk r2 r3).Count)∧OOk (OS.mk r4 r5 r6 r7 r8 r9 r10 r11 r12 r13))∧let r27:Int:=((chO (OS.mk r4 r5 r6 r7 r8 r9 r10 r11 r12 r13) (TTranscript.mk r2 r3) (18446744069414584321:Int)).n)
 let r28:Int:=((chO (OS.mk r4 r5 r6 r7 r8 r9 r10 r11 r12 r13) (TTranscript.mk r2 r3) (18446744069414584321:Int)).t).State
 let r29:Int:=((chO (OS.mk r4 r5 r6 r7 r8 r9 r10 r11 r12 r13) (TTranscript.mk r2 r3) (18446744069414584321:Int)).t).Count
 let r30:Bool:=((chO (OS.mk r4 r5 r6 r7 r8 r9 r10 r11 r12 r13) (TTranscript.mk r2 r3) (18446744069414584321:Int)).o.a)
 let r31:Int:=((chO (OS.mk r4 r5 r6 r7 r8 r9 r10 r11 r12 r13) (TTranscript.mk r2 r3) (18446744069414584321:Int)).o.b)
 let r32:Int:=((chO (OS.mk r4 r5 r6 r7 r8 r9 r10 r11 r12 r13) (TTranscript.mk r2 r3) (18446744069414584321:Int)).o.c)
 let r33:List TQuestion:=((chO (OS.mk r4 r5 r6 r7 r8 r9 r10 r11 r12 r13) (TTranscript.mk r2 r3) (18446744069414584321:Int)).o.q)
 let r34:List ByteArray:=((chO (OS.mk r4 r5 r6 r7 r8 r9 r10 r11 r12 r13) (TTranscript.mk r2 r3) (18446744069414584321:Int)).o.k)
 let r35:List Int:=((chO (OS.mk r4 r5 r6 r7 r8 r9 r10 r11 r12 r13) (TTranscript.mk r2 r3) (18446744069414584321:Int)).o.v)
 let r36:List ByteArray:=((chO (OS.mk r4 r5 r6 r7 r8 r9 r10 r11 r12 r13) (TTranscript.mk r2 r3) (18446744069414584321:Int)).o.s)
 let r37:List (List Int):=((chO (OS.mk r4 r5 r6 r7 r8 r9 r10 r11 r12 r13) (TTranscript.mk r2 r3) (18446744069414584321:Int)).o.t)
 let r38:List ByteArray:=((chO (OS.mk r4 r5 r6 r7 r8 r9 r10 r11 r12 r13) (TTranscript.mk r2 r3) (18446744069414584321:Int)).o.x)
 let r39:List Bool:=((chO (OS.mk r4 r5 r6 r7 r8 r9 r10 r11 r12 r13) (TTranscript.mk r2 r3) (18446744069414584321:Int)).o.y)
(r19=r19)∧((U64 (TTranscript.mk r14 r15).State∧U64 (TTranscript.mk r14 r15).Count)∧OOk (OS.mk r16 r17 r18 r19 r20 r21 r22 r23 r24 r25))∧let r40:Int:=((chO (OS.mk r16 r17 r18 r19 r20 r21 r22 r23 r24 r25) (TTranscript.mk r14 r15) (18446744069414584321:Int)).n)
 let r41:Int:=((chO (OS.mk r16 r17 r18 r19 r20 r21 r22 r23 r24 r25) (TTranscript.mk r14 r15) (18446744069414584321:Int)).t).State
 let r42:Int:=((chO (OS.mk r16 r17 r18 r19 r20 r21 r22 r23 r24 r25) (TTranscript.mk r14 r15) (18446744069414584321:Int)).t).Count
 let r43:Bool:=((chO (OS.mk r16 r17 r18 r19 r20 r21 r22 r23 r24 r25) (TTranscript.mk r14 r15) (18446744069414584321:Int)).o.a)
 let r44:Int:=((chO (OS.mk r16 r17 r18 r19 r20 r21 r22 r23 r24 r25) (TTranscript.mk r14 r15) (18446744069414584321:Int)).o.b)
 let r45:Int:=((chO (OS.mk r16 r17 r18 r19 r20 r21 r22 r23 r24 r25) (TTranscript.mk r14 r15) (18446744069414584321:Int)).o.c)
 let r46:List TQuestion:=((chO (OS.mk r16 r17 r18 r19 r20 r21 r22 r23 r24 r25) (TTranscript.mk r14 r15) (18446744069414584321:Int)).o.q)
 let r47:List ByteArray:=((chO (OS.mk r16 r17 r18 r19 r20 r21 r22 r23 r24 r25) (TTranscript.mk r14 r15) (18446744069414584321:Int)).o.k)
 let r48:List Int:=((chO (OS.mk r16 r17 r18 r19 r20 r21 r22 r23 r24 r25) (TTranscript.mk r14 r15) (18446744069414584321:Int)).o.v)
 let r49:List ByteArray:=((chO (OS.mk r16 r17 r18 r19 r20 r21 r22 r23 r24 r25) (TTranscript.mk r14 r15) (18446744069414584321:Int)).o.s)
 let r50:List (List Int):=((chO (OS.mk r16 r17 r18 r19 r20 r21 r22 r23 r24 r25) (TTranscript.mk r14 r15) (18446744069414584321:Int)).o.t)
 let r51:List ByteArray:=((chO (OS.mk r16 r17 r18 r19 r20 r21 r22 r23 r24 r25) (TTranscript.mk r14 r15) (18446744069414584321:Int)).o.x)
 let r52:List Bool:=((chO (OS.mk r16 r17 r18 r19 r20 r21 r22 r23 r24 r25) (TTranscript.mk r14 r15) (18446744069414584321:Int)).o.y)
(r33=r33)∧(U64 (19:Int)∧(Us [r28,0]∧[r28,0].length≤1000000000)∧OOk (OS.mk r30 r31 r32 r33 r34 r35 r36 r37 r38 r39))∧let r53:Int:=((pk r30 r33 r34 r35 (19:Int) [r28,0]).getD 0)
 let r54:Bool:=((pk r30 r33 r34 r35 (19:Int) [r28,0]).isSome)
 let r55:Bool:=((OS.mk r30 r31 r32 r33 r34 r35 r36 r37 r38 r39).a)
 let r56:Int:=((OS.mk r30 r31 r32 r33 r34 r35 r36 r37 r38 r39).b)
 let r57:Int:=((OS.mk r30 r31 r32 r33 r34 r35 r36 r37 r38 r39).c)
 let r58:List TQuestion:=((OS.mk r30 r31 r32 r33 r34 r35 r36 r37 r38 r39).q)
 let r59:List ByteArray:=((OS.mk r30 r31 r32 r33 r34 r35 r36 r37 r38 r39).k)
 let r60:List Int:=((OS.mk r30 r31 r32 r33 r34 r35 r36 r37 r38 r39).v)
 let r61:List ByteArray:=((OS.mk r30 r31 r32 r33 r34 r35 r36 r37 r38 r39).s)
 let r62:List (List Int):=((OS.mk r30 r31 r32 r33 r34 r35 r36 r37 r38 r39).t)
 let r63:List ByteArray:=((OS.mk r30 r31 r32 r33 r34 r35 r36 r37 r38 r39).x)
 let r64:List Bool:=((OS.mk r30 r31 r32 r33 r34 r35 r36 r37 r38 r39).y)
((r27 !=r40)=true→
 false=r0)∧
((r27 !=r40)=false→
 let v65:Bool:=(!((r28==r41)&&((r29==r42)&&true)))
(v65=true→
 false=r0)∧
(v65=false→
((!r54)=true→
 false=r0)∧
((!r54)=false→
((r53 !=r27)=true→
 false=r0)∧
((r53 !=r27)=false→
(r58=r58)∧((U64 (TTranscript.mk r28 r29).State∧U64 (TTranscript.mk r28 r29).Count)∧OOk (OS.mk r55 r56 r57 r58 r59 r60 r61 r62 r63 r64)∧r58.length≤900000)∧let r66:List Int:=((posO (OS.mk r55 r56 r57 r58 r59 r60 r61 r62 r63 r64) (TTranscript.mk r28 r29) (64:Int) (Int.tmod (IntKind.i64.wrap s2) 64)).g)
 let r67:Int:=((posO (OS.mk r55 r56 r57 r58 r59 r60 r61 r62 r63 r64) (TTranscript.mk r28 r29) (64:Int) (Int.tmod (IntKind.i64.wrap s2) 64)).t).State
 let r68:Int:=((posO (OS.mk r55 r56 r57 r58 r59 r60 r61 r62 r63 r64) (TTranscript.mk r28 r29) (64:Int) (Int.tmod (IntKind.i64.wrap s2) 64)).t).Count
 let r69:Bool:=((posO (OS.mk r55 r56 r57 r58 r59 r60 r61 r62 r63 r64) (TTranscript.mk r28 r29) (64:Int) (Int.tmod (IntKind.i64.wrap s2) 64)).o.a)
 let r70:Int:=((posO (OS.mk r55 r56 r57 r58 r59 r60 r61 r62 r63 r64) (TTranscript.mk r28 r29) (64:Int) (Int.tmod (IntKind.i64.wrap s2) 64)).o.b)
 let r71:Int:=((posO (OS.mk r55 r56 r57 r58 r59 r60 r61 r62 r63 r64) (TTranscript.mk r28 r29) (64:Int) (Int.tmod (IntKind.i64.wrap s2) 64)).o.c)
 let r72:List TQuestion:=((posO (OS.mk r55 r56 r57 r58 r59 r60 r61 r62 r63 r64) (TTranscript.mk r28 r29) (64:Int) (Int.tmod (IntKind.i64.wrap s2) 64)).o.q)
 let r73:List ByteArray:=((posO (OS.mk r55 r56 r57 r58 r59 r60 r61 r62 r63 r64) (TTranscript.mk r28 r29) (64:Int) (Int.tmod (IntKind.i64.wrap s2) 64)).o.k)
 let r74:List Int:=((posO (OS.mk r55 r56 r57 r58 r59 r60 r61 r62 r63 r64) (TTranscript.mk r28 r29) (64:Int) (Int.tmod (IntKind.i64.wrap s2) 64)).o.v)
 let r75:List ByteArray:=((posO (OS.mk r55 r56 r57 r58 r59 r60 r61 r62 r63 r64) (TTranscript.mk r28 r29) (64:Int) (Int.tmod (IntKind.i64.wrap s2) 64)).o.s)
 let r76:List (List Int):=((posO (OS.mk r55 r56 r57 r58 r59 r60 r61 r62 r63 r64) (TTranscript.mk r28 r29) (64:Int) (Int.tmod (IntKind.i64.wrap s2) 64)).o.t)
 let r77:List ByteArray:=((posO (OS.mk r55 r56 r57 r58 r59 r60 r61 r62 r63 r64) (TTranscript.mk r28 r29) (64:Int) (Int.tmod (IntKind.i64.wrap s2) 64)).o.x)
 let r78:List Bool:=((posO (OS.mk r55 r56 r57 r58 r59 r60 r61 r62 r63 r64) (TTranscript.mk r28 r29) (64:Int) (Int.tmod (IntKind.i64.wrap s2) 64)).o.y)
(r46=r46)∧((U64 (TTranscript.mk r41 r42).State∧U64 (TTranscript.mk r41 r42).Count)∧OOk (OS.mk r43 r44 r45 r46 r47 r48 r49 r50 r51 r52)∧r46.length≤900000)∧let r79:List Int:=((posO (OS.mk r43 r44 r45 r46 r47 r48 r49 r50 r51 r52) (TTranscript.mk r41 r42) (64:Int) (Int.tmod (IntKind.i64.wrap s2) 64)).g)
 let r80:Int:=((posO (OS.mk r43 r44 r45 r46 r47 r48 r49 r50 r51 r52) (TTranscript.mk r41 r42) (64:Int) (Int.tmod (IntKind.i64.wrap s2) 64)).t).State
 let r81:Int:=((posO (OS.mk r43 r44 r45 r46 r47 r48 r49 r50 r51 r52) (TTranscript.mk r41 r42) (64:Int) (Int.tmod (IntKind.i64.wrap s2) 64)).t).Count
 let r82:Bool:=((posO (OS.mk r43 r44 r45 r46 r47 r48 r49 r50 r51 r52) (TTranscript.mk r41 r42) (64:Int) (Int.tmod (IntKind.i64.wrap s2) 64)).o.a)
 let r83:Int:=((posO (OS.mk r43 r44 r45 r46 r47 r48 r49 r50 r51 r52) (TTranscript.mk r41 r42) (64:Int) (Int.tmod (IntKind.i64.wrap s2) 64)).o.b)
 let r84:Int:=((posO (OS.mk r43 r44 r45 r46 r47 r48 r49 r50 r51 r52) (TTranscript.mk r41 r42) (64:Int) (Int.tmod (IntKind.i64.wrap s2) 64)).o.c)
 let r85:List TQuestion:=((posO (OS.mk r43 r44 r45 r46 r47 r48 r49 r50 r51 r52) (TTranscript.mk r41 r42) (64:Int) (Int.tmod (IntKind.i64.wrap s2) 64)).o.q)
 let r86:List ByteArray:=((posO (OS.mk r43 r44 r45 r46 r47 r48 r49 r50 r51 r52) (TTranscript.mk r41 r42) (64:Int) (Int.tmod (IntKind.i64.wrap s2) 64)).o.k)
 let r87:List Int:=((posO (OS.mk r43 r44 r45 r46 r47 r48 r49 r50 r51 r52) (TTranscript.mk r41 r42) (64:Int) (Int.tmod (IntKind.i64.wrap s2) 64)).o.v)
 let r88:List ByteArray:=((posO (OS.mk r43 r44 r45 r46 r47 r48 r49 r50 r51 r52) (TTranscript.mk r41 r42) (64:Int) (Int.tmod (IntKind.i64.wrap s2) 64)).o.s)
 let r89:List (List Int):=((posO (OS.mk r43 r44 r45 r46 r47 r48 r49 r50 r51 r52) (TTranscript.mk r41 r42) (64:Int) (Int.tmod (IntKind.i64.wrap s2) 64)).o.t)
 let r90:List ByteArray:=((posO (OS.mk r43 r44 r45 r46 r47 r48 r49 r50 r51 r52) (TTranscript.mk r41 r42) (64:Int) (Int.tmod (IntKind.i64.wrap s2) 64)).o.x)
 let r91:List Bool:=((posO (OS.mk r43 r44 r45 r46 r47 r48 r49 r50 r51 r52) (TTranscript.mk r41 r42) (64:Int) (Int.tmod (IntKind.i64.wrap s2) 64)).o.y)
(r66.length≤9223372036854775807)∧((decide (r66=r79))=true→
(((r67==r80)&&((r68==r81)&&true))=true→
 let v92:Bool:=((r66.length:Int)==(Int.tmod (IntKind.i64.wrap s2) 64))
 v92=r0)∧
(((r67==r80)&&((r68==r81)&&true))=false→
 false=r0))∧
((decide (r66=r79))=false→
 false=r0))))))))):k5i (r0,()) (s1,s2,s35,h0_0,h0_1,h0_2,h5_0,h5_1,h5_2,g1,g2k,g2v,g3k,g3v,g4k,g4v,g6,g7k,g7v,g8k,g8v,g9k,g9v,()):=⟨mpr_of (by kernel_rfl) h⟩
theorem kuk (p0:Int) (p1:List TMessage) (p2:Int) (h:U64 p0∧((∀m∈p1,MU m)∧p1.length≤9223372036854775807)∧0≤p2∧p2<256):kc6 (p0,p1,p2,()) ((true:Bool),()):=by
 obtain⟨h1,⟨h2,h3⟩,h4,h5⟩:=h
 have zo:OOk (OS.mk true p0 0 [] [] [] [] [] [] []):=OOk.z true p0
 have en:Int.tmod (IntKind.i64.wrap p2) 64=p2%64:=by rw[wi _ (by omega) (by omega),tmod_nn _ _ h4]
 have j1:∀s,(s=false→p1.length≤20∧∀m∈p1,m.L.length≤40)→k5i (true,()) (p1,p2,s,true,p0,(0:Int),true,p0,(0:Int),([]:List TQuestion),([]:List ByteArray),([]:List Int),([]:List ByteArray),([]:List (List Int)),([]:List ByteArray),([]:List Bool),([]:List TQuestion),([]:List ByteArray),([]:List Int),([]:List ByteArray),([]:List (List Int)),([]:List ByteArray),([]:List Bool),()):=by
  intro s hs
  refine ktd ⟨fun _=>⟨fun _=>by first|exact rfl|exact True.intro,fun h=>by cases h⟩,fun e=> ?_⟩
  obtain⟨q1,q2⟩:=hs e
  have hmr:∀m∈p1,MR m:=fun m hm=>⟨(h2 m hm).t,(h2 m hm).l,by have:=q2 m hm;omega⟩
  have ha:=absO_ok p1 (OS.mk true p0 0 [] [] [] [] [] [] []) ⟨20,0⟩ zo hmr (by show 0+p1.length≤_;omega)
  have ht:=absO_t p1 (OS.mk true p0 0 [] [] [] [] [] [] []) ⟨20,0⟩ zo hmr (by show 0+p1.length≤_;omega) ⟨by decide,by decide,rfl⟩
  refine⟨by first|exact rfl|exact True.intro,⟨by decide,⟨hmr,by omega⟩,zo,by simp⟩,?_⟩
  dsimp only
  generalize absO (OS.mk true p0 0 [] [] [] [] [] [] []) ⟨20,0⟩ p1=A at *
  have hq:A.o.q.length≤20:=by have:=ha.2;simp at this;omega
  refine⟨by first|exact rfl|exact True.intro,⟨by decide,⟨hmr,by omega⟩,zo,by simp⟩,fun h=>by simp at h,fun _=> ?_⟩
  simp only[OS_eta,kw3]
  have us:U64 A.t.State∧U64 A.t.Count:=⟨⟨ht.1,by omega⟩,by rw[ht.2.2];decide⟩
  obtain⟨c1,c2,c3,c4⟩:=ha.1.ch A.t 18446744069414584321 (by omega)
  obtain⟨c5,c6,c7⟩:=c4 rfl
  have hb:allB [A.t.State,0]=true:=k1hb.2 (by intro x hx;simp at hx;rcases hx with rfl|rfl<;>omega)
  have pe:=ha.1.peek 19 hb
  have ce:chO A.o A.t 18446744069414584321=⟨Int.tmod (hO A.o 19 [A.t.State,0]).n 18446744069414584321,⟨A.t.State,IntKind.u64.wrap (A.t.Count+1)⟩,(hO A.o 19 [A.t.State,0]).o⟩:=by
   unfold chO
   rw[if_neg (by decide),ht.2.2]
  have hlt:=ha.1.lt 19 [A.t.State,0]
  have tm:Int.tmod (hO A.o 19 [A.t.State,0]).n 18446744069414584321=(hO A.o 19 [A.t.State,0]).n:=by rw[tmod_nn _ _ hlt.1];omega
  rw[tm]at ce
  have co:(hO A.o 19 [A.t.State,0]).o=(chO A.o A.t 18446744069414584321).o:=by rw[ce]
  have cn:(hO A.o 19 [A.t.State,0]).n=(chO A.o A.t 18446744069414584321).n:=by rw[ce]
  rw[co,cn]at pe
  have cs:(chO A.o A.t 18446744069414584321).t.State=A.t.State:=c3
  refine⟨by first|exact rfl|exact True.intro,⟨us,ha.1⟩,?_⟩
  clear ce co cn tm hlt
  generalize chO A.o A.t 18446744069414584321=C at *
  have hcq:C.o.q.length≤21:=by omega
  refine⟨by first|exact rfl|exact True.intro,⟨us,ha.1⟩,by first|exact rfl|exact True.intro,⟨by decide,⟨by intro x hx;simp at hx;rcases hx with rfl|rfl;rw[cs];exact us.1;decide,by simp⟩,c1⟩,?_⟩
  rw[cs,pe]
  simp only[Option.getD_some,Option.isSome_some,en]
  have p64:0≤p2%64∧p2%64<64:=by omega
  have pl:=k1gv c1 C.t (n:=64) (c:=p2%64) (by omega) (by omega) (by omega)
  have uc:U64 C.t.State∧U64 C.t.Count:=⟨by rw[cs];exact us.1,c7⟩
  rw[←cs]
  refine⟨fun h=>by simp at h,fun _=>⟨fun h=>by simp at h,fun _=>⟨fun h=>by simp at h,fun _=>⟨fun h=>by simp at h,fun _=>⟨by first|exact rfl|exact True.intro,⟨uc,c1,by omega⟩,?_⟩⟩⟩⟩⟩
  generalize posO C.o C.t 64 (p2%64)=P at *
  refine⟨by first|exact rfl|exact True.intro,⟨uc,c1,by omega⟩,by omega,fun _=>⟨fun _=> ?_,fun h=>by simp at h⟩,fun h=>by simp at h⟩
  rw[pl]
  simp
 refine kws ⟨(fun h=>by cases h),fun _=>⟨h3,?_⟩⟩
 dsimp only
 refine⟨fun e=>⟨rfl,rfl,j1 _ fun h=>by cases h⟩,fun e=>⟨rfl,rfl,j1 _ fun _=> ?_⟩⟩
 have e:(decide (p1.length≤20)&&p1.all (fun m=>decide (m.L.length≤40)))=true:=by simpa using e
 rw[Bool.and_eq_true,decide_eq_true_eq,List.all_eq_true]at e
 exact⟨e.1,fun m hm=>of_decide_eq_true (e.2 m hm)⟩
end Go.Proofs.Ytponaobpcdkggaa
end
