/-
  Parts of the proofs that the laws of this seat hold of every input, merged by a program: a machine over pure data that is sound for the model, what each function of the translation does in it, and plain lemmas. No conditions but those in each theorem.
-/
import Derived.Test.YtpffhgljgpjenaaA5
set_option maxRecDepth 100000
noncomputable section
namespace Go.Proofs.Ytpffhgljgpjenaa
open Go Go.Bv Go.Cv Go.Md Go.RowKit
def ky:Con TB.den:=Con.mk0 15 [.one (.ptr 0 0),.agg [.d (.int .i64),.d (.int .u64),.d (.sl (.int .u64)),.d (.sl (.int .u64)),.d (.sl (.int .u64)),.d (.int .u64),.d (.int .u64),.d (.int .u64),.d (.int .u64),.d (.int .u64)],.agg [.d (.sl (.st 0)),.d (.sl (.st 1)),.d (.int .u64)]] [.cells [.d (.bool),.d (.int .u64),.d (.int .i64),.d (.sl (.st 3)),.mp 1,.mp 2,.mp 3],.map (.str) (.int .i64),.map (.str) (.sl (.int .u64)),.map (.str) (.bool)] (.one (.one (.d (.int .i64)))) [.cells [.d (.bool),.d (.int .u64),.d (.int .i64),.d (.sl (.st 3)),.mp 1,.mp 2,.mp 3],.map (.str) (.int .i64),.map (.str) (.sl (.int .u64)),.map (.str) (.bool)]
abbrev kqy:=HL TB.den (hsT ky.ins (hsOs ky.pre))
abbrev kn:=HL TB.den (hsV ky.res (hsOs ky.post))
def k1b:Cx TB:=⟨inf,[kfu,kjq,ke9,kr9,ke3,kd1],[],4,[]⟩
def k34:Code:=Try.f15.body.getD .skip
def k72:List ResultVar:=Try.f15.results.toList
def k7z:Tm:=⟨[0,1,2,3,4,5],[.cells [.d (.bool),.d (.int .u64),.d (.int .i64),.d (.sl (.st 3)),.mp 1,.mp 2,.mp 3],.map (.str) (.int .i64),.map (.str) (.sl (.int .u64)),.map (.str) (.bool),.cells [.d (.int .i64),.d (.int .u64),.d (.sl (.int .u64)),.d (.sl (.int .u64)),.d (.sl (.int .u64)),.d (.int .u64),.d (.int .u64),.d (.int .u64),.d (.int .u64),.d (.int .u64)],.cells [.d (.sl (.st 0)),.d (.sl (.st 1)),.d (.int .u64)]],[4,5],[.one (.ptr 4 0),.one (.ptr 5 0)],50⟩
def ko0 (o:kn) (i:HL TB.den k7z.hs):Prop:=ghs TB [] (k7z.fill TB i) fun s=>WP TB k1b 100 4 (cB (cB (cB (cB (cB k34))))) .no s (retTQ TB k1b ky k72 o)
structure k5u (o:kn) (i:HL TB.den k7z.hs):Prop where
 h:ko0 o i
def k15m (o:kn):=qS TB k1b 100 4 (cB (cB (cB (cB k34)))) (.jn k7z (k5u o) [] .no [] .no) (retTQ TB k1b ky k72 o)
def k5r:Tm:=⟨[0,1,2,3,4,5],[.cells [.d (.bool),.d (.int .u64),.d (.int .i64),.d (.sl (.st 3)),.mp 1,.mp 2,.mp 3],.map (.str) (.int .i64),.map (.str) (.sl (.int .u64)),.map (.str) (.bool),.cells [.d (.int .i64),.d (.int .u64),.d (.sl (.int .u64)),.d (.sl (.int .u64)),.d (.sl (.int .u64)),.d (.int .u64),.d (.int .u64),.d (.int .u64),.d (.int .u64),.d (.int .u64)],.cells [.d (.sl (.st 0)),.d (.sl (.st 1)),.d (.int .u64)]],[0,4,5,40,41,42],[.one (.ptr 0 0),.one (.ptr 4 0),.one (.ptr 5 0),.one (.d (.sl (.st 1))),.one (.d (.int .i64)),.one (.d (.int .i64))],6⟩
def k15g (o:kn) (nx2:NX TB k5r):=qM TB 4 k5r nx2 (blockT TB 2 (k15m o))
def k8z (o:kn) (nx2:NX TB k5r) (i:HL TB.den k5r.hs):Prop:=WP TB k1b 100 4 (cA (cA (cB (cA (cB (cB (cB k34))))))) .no (k5r.fill TB i) (k15g o nx2)
def k15y (o:kn):An TB:= .lp [] k5r (k8z o) fun nx2=> .no
def kpm (o:kn):An TB:= .nd [] (.nd [] .no [] (k15y o)) [] (.jn k7z (k5u o) [] .no [] .no)
def k14z (o:kn):=qS TB k1b 100 4 (cB (cB (cB k34))) (kpm o) (retTQ TB k1b ky k72 o)
def k5s:Tm:=⟨[0,1,2,3,4,5],[.cells [.d (.bool),.d (.int .u64),.d (.int .i64),.d (.sl (.st 3)),.mp 1,.mp 2,.mp 3],.map (.str) (.int .i64),.map (.str) (.sl (.int .u64)),.map (.str) (.bool),.cells [.d (.int .i64),.d (.int .u64),.d (.sl (.int .u64)),.d (.sl (.int .u64)),.d (.sl (.int .u64)),.d (.int .u64),.d (.int .u64),.d (.int .u64),.d (.int .u64),.d (.int .u64)],.cells [.d (.sl (.st 0)),.d (.sl (.st 1)),.d (.int .u64)]],[0,4,5,19,20,21],[.one (.ptr 0 0),.one (.ptr 4 0),.one (.ptr 5 0),.one (.d (.sl (.st 0))),.one (.d (.int .i64)),.one (.d (.int .i64))],6⟩
def k11s (o:kn) (nx1:NX TB k5s):=qM TB 4 k5s nx1 (blockT TB 0 (k14z o))
def k90 (o:kn) (nx1:NX TB k5s) (i:HL TB.den k5s.hs):Prop:=WP TB k1b 100 4 (cA (cA (cB (cA (cB (cB k34)))))) .no (k5s.fill TB i) (k11s o nx1)
def k144 (o:kn):An TB:= .lp [] k5s (k90 o) fun nx1=> .no
def k13z (o:kn):An TB:= .nd [] (.nd [] .no [] (k144 o)) [] (kpm o)
def kpg (o:kn):An TB:= .nd [] .no [] (.nd [] .no [] (k13z o))
def ke4 (x:kqy) (o:kn):Prop:=WPh TB k1b 100 4 k34 (kpg o) (ky.st TB x) (retTQ TB k1b ky k72 o)
theorem k142 (o:kn):OblH TB k1b 100 4 k34 (kpg o) (retTQ TB k1b ky k72 o):=
 OblH.ofC (X:=((∀nx i,(k90 o) nx i=(k90 o) nx i)∧(∀nx1:NX TB k5s,True)∧(∀nx i,(k8z o) nx i=(k8z o) nx i)∧(∀nx2:NX TB k5r,True)∧(∀i,(k5u o) i=ko0 o i)∧True)) (by kernel_rfl) ⟨fun _ _=>rfl,fun _=>trivial,fun _ _=>rfl,fun _=>trivial,fun _=>propext ⟨fun h=>h.1,fun h=>⟨h⟩⟩,trivial⟩
theorem k12e {x:kqy} {o:kn} (h:ke4 x o):ky.Snd Try.prog x o:=
 Con.soundH (c:=ky) (C:=k1b) TBok ⟨inf_ok,(all_cons kph (all_cons k11d (all_cons ko2 (all_cons k19z (all_cons kob (all_cons kll all_nil)))))),all_nil⟩ mix Try.func15 (show Try.f15.body=some k34 by kernel_rfl) (show Try.f15.ntmps=100 by kernel_rfl) (show Try.f15.results.toList=k72 by kernel_rfl) rfl h (k142 o)
theorem k160 {p1:TStatement} {p2:TWitness} {c0_0:Bool} {c0_1:Int} {c0_2:Int} {c0_3:List TQuestion} {w1k:List ByteArray} {w1v:List Int} {w2k:List ByteArray} {w2v:List (List Int)} {w3k:List ByteArray} {w3v:List Bool} {r0:Int} {d0_0:Bool} {d0_1:Int} {d0_2:Int} {d0_3:List TQuestion} {e1k:List ByteArray} {e1v:List Int} {e2k:List ByteArray} {e2v:List (List Int)} {e3k:List ByteArray} {e3v:List Bool} (h:
((SR p1∧WR p2)∧((!(relV p1 p2))=true→
1=r0∧c0_0=d0_0∧c0_1=d0_1∧c0_2=d0_2∧c0_3=d0_3∧w1k=e1k∧w1v=e1v∧w2k=e2k∧w2v=e2v∧w3k=e3k∧w3v=e3v)∧
((!(relV p1 p2))=false→
Md.Loop (p2.Ins,((p2.Ins.length:Int):Int),(0:Int),c0_0,c0_1,c0_2,c0_3,p1.Depth,p1.Anchor,p1.Marks,p1.Commits,p1.Rhos,p1.Deposit,p1.Withdraw,p1.Fee,p1.Account,p1.Bind,p2.Ins,p2.Outs,p2.Secret,w1k,w1v,w2k,w2v,w3k,w3v,()) (k90 (r0,d0_0,d0_1,d0_2,d0_3,e1k,e1v,e2k,e2v,e3k,e3v,()))))):ke4 (p1.Depth,p1.Anchor,p1.Marks,p1.Commits,p1.Rhos,p1.Deposit,p1.Withdraw,p1.Fee,p1.Account,p1.Bind,p2.Ins,p2.Outs,p2.Secret,c0_0,c0_1,c0_2,c0_3,w1k,w1v,w2k,w2v,w3k,w3v,()) (r0,d0_0,d0_1,d0_2,d0_3,e1k,e1v,e2k,e2v,e3k,e3v,()):=WPh.of_eq (by kernel_rfl) h
theorem ky5 {r0:Int} {d0_0:Bool} {d0_1:Int} {d0_2:Int} {d0_3:List TQuestion} {e1k:List ByteArray} {e1v:List Int} {e2k:List ByteArray} {e2v:List (List Int)} {e3k:List ByteArray} {e3v:List Bool} {h0_0:Bool} {h0_1:Int} {h0_2:Int} {h0_3:List TQuestion} {h4_0:Int} {h4_1:Int} {h4_2:List Int} {h4_3:List Int} {h4_4:List Int} {h4_5:Int} {h4_6:Int} {h4_7:Int} {h4_8:Int} {h4_9:Int} {h5_0:List TSpent} {h5_1:List TNote} {h5_2:Int} {g1k:List ByteArray} {g1v:List Int} {g2k:List ByteArray} {g2v:List (List Int)} {g3k:List ByteArray} {g3v:List Bool} (h:
(((TWitness.mk h5_0 h5_1 h5_2).Ins.length≤9223372036854775807)∧let v4:Int:=IntKind.u64.wrap ((inS (TWitness.mk h5_0 h5_1 h5_2).Ins)+h4_5)
((TWitness.mk h5_0 h5_1 h5_2).Outs.length≤9223372036854775807)∧let v5:Int:=IntKind.u64.wrap ((outS (TWitness.mk h5_0 h5_1 h5_2).Outs)+h4_6)
((v4 !=(IntKind.u64.wrap (v5+h4_7)))=true→
13=r0∧h0_0=d0_0∧h0_1=d0_1∧h0_2=d0_2∧h0_3=d0_3∧g1k=e1k∧g1v=e1v∧g2k=e2k∧g2v=e2v∧g3k=e3k∧g3v=e3v)∧
((v4 !=(IntKind.u64.wrap (v5+h4_7)))=false→
0=r0∧h0_0=d0_0∧h0_1=d0_1∧h0_2=d0_2∧h0_3=d0_3∧g1k=e1k∧g1v=e1v∧g2k=e2k∧g2v=e2v∧g3k=e3k∧g3v=e3v))):k5u (r0,d0_0,d0_1,d0_2,d0_3,e1k,e1v,e2k,e2v,e3k,e3v,()) (h0_0,h0_1,h0_2,h0_3,h4_0,h4_1,h4_2,h4_3,h4_4,h4_5,h4_6,h4_7,h4_8,h4_9,h5_0,h5_1,h5_2,g1k,g1v,g2k,g2v,g3k,g3v,()):=⟨mpr_of (by kernel_rfl) h⟩
def kpb (r0:Int) (d0_0:Bool) (d0_1:Int) (d0_2:Int) (d0_3:List TQuestion) (e1k:List ByteArray) (e1v:List Int) (e2k:List ByteArray) (e2v:List (List Int)) (e3k:List ByteArray) (e3v:List Bool) (k1:Int→Prop) (s19:List TSpent) (s20:Int) (h0_0:Bool) (h0_1:Int) (h0_2:Int) (h0_3:List TQuestion) (h4_0:Int) (h4_1:Int) (h4_2:List Int) (h4_3:List Int) (h4_4:List Int) (h4_5:Int) (h4_6:Int) (h4_7:Int) (h4_8:Int) (h4_9:Int) (h5_0:List TSpent) (h5_1:List TNote) (h5_2:Int) (g1k:List ByteArray) (g1v:List Int) (g2k:List ByteArray) (g2v:List (List Int)) (g3k:List ByteArray) (g3v:List Bool) (s21:Int):Prop:=
(decide (s21<s20)=true→
(0≤s21)∧s21<(s19.length:Int)∧(0≤s21)∧s21<(h4_2.length:Int)∧(PR (ix s19 s21)∧OrOk g1k g1v h0_3∧(∀l a,(pk h0_0 h0_3 g1k g1v) l a=none∨∃n,(pk h0_0 h0_3 g1k g1v) l a=some n∧U64 n))∧let r1:Int:=(inE (pk h0_0 h0_3 g1k g1v) (TStatement.mk h4_0 h4_1 h4_2 h4_3 h4_4 h4_5 h4_6 h4_7 h4_8 h4_9).Anchor (ix h4_2 s21) (ix s19 s21))
((r1 !=0)=true→
r1=r0∧h0_0=d0_0∧h0_1=d0_1∧h0_2=d0_2∧h0_3=d0_3∧g1k=e1k∧g1v=e1v∧g2k=e2k∧g2v=e2v∧g3k=e3k∧g3v=e3v)∧
((r1 !=0)=false→
k1 (IntKind.i64.wrap (s21+1):Int)))∧
(decide (s21<s20)=false→
Md.Loop (h5_1,((h5_1.length:Int):Int),(0:Int),h0_0,h0_1,h0_2,h0_3,h4_0,h4_1,h4_2,h4_3,h4_4,h4_5,h4_6,h4_7,h4_8,h4_9,h5_0,h5_1,h5_2,g1k,g1v,g2k,g2v,g3k,g3v,()) (k8z (r0,d0_0,d0_1,d0_2,d0_3,e1k,e1v,e2k,e2v,e3k,e3v,())))
theorem k12g {r0:Int} {d0_0:Bool} {d0_1:Int} {d0_2:Int} {d0_3:List TQuestion} {e1k:List ByteArray} {e1v:List Int} {e2k:List ByteArray} {e2v:List (List Int)} {e3k:List ByteArray} {e3v:List Bool} {s19:List TSpent} {s20:Int} {h0_0:Bool} {h0_1:Int} {h0_2:Int} {h0_3:List TQuestion} {h4_0:Int} {h4_1:Int} {h4_2:List Int} {h4_3:List Int} {h4_4:List Int} {h4_5:Int} {h4_6:Int} {h4_7:Int} {h4_8:Int} {h4_9:Int} {h5_0:List TSpent} {h5_1:List TNote} {h5_2:Int} {g1k:List ByteArray} {g1v:List Int} {g2k:List ByteArray} {g2v:List (List Int)} {g3k:List ByteArray} {g3v:List Bool} {s21:Int} (inv:Int→Prop) (μ:Int→Nat) (h0:inv s21) (hs:∀(s21:Int),inv s21→kpb r0 d0_0 d0_1 d0_2 d0_3 e1k e1v e2k e2v e3k e3v (fun s21q=>inv s21q∧μ s21q<μ s21) s19 s20 h0_0 h0_1 h0_2 h0_3 h4_0 h4_1 h4_2 h4_3 h4_4 h4_5 h4_6 h4_7 h4_8 h4_9 h5_0 h5_1 h5_2 g1k g1v g2k g2v g3k g3v s21):Md.Loop (s19,s20,s21,h0_0,h0_1,h0_2,h0_3,h4_0,h4_1,h4_2,h4_3,h4_4,h4_5,h4_6,h4_7,h4_8,h4_9,h5_0,h5_1,h5_2,g1k,g1v,g2k,g2v,g3k,g3v,()) (k90 (r0,d0_0,d0_1,d0_2,d0_3,e1k,e1v,e2k,e2v,e3k,e3v,())):=
 ⟨⟨fun s:(List TSpent)×Int×Int×Bool×Int×Int×(List TQuestion)×Int×Int×(List Int)×(List Int)×(List Int)×Int×Int×Int×Int×Int×(List TSpent)×(List TNote)×Int×(List ByteArray)×(List Int)×(List ByteArray)×(List (List Int))×(List ByteArray)×(List Bool)×Unit=>(s.1=s19∧s.2.1=s20∧s.2.2.2.1=h0_0∧s.2.2.2.2.1=h0_1∧s.2.2.2.2.2.1=h0_2∧s.2.2.2.2.2.2.1=h0_3∧s.2.2.2.2.2.2.2.1=h4_0∧s.2.2.2.2.2.2.2.2.1=h4_1∧s.2.2.2.2.2.2.2.2.2.1=h4_2∧s.2.2.2.2.2.2.2.2.2.2.1=h4_3∧s.2.2.2.2.2.2.2.2.2.2.2.1=h4_4∧s.2.2.2.2.2.2.2.2.2.2.2.2.1=h4_5∧s.2.2.2.2.2.2.2.2.2.2.2.2.2.1=h4_6∧s.2.2.2.2.2.2.2.2.2.2.2.2.2.2.1=h4_7∧s.2.2.2.2.2.2.2.2.2.2.2.2.2.2.2.1=h4_8∧s.2.2.2.2.2.2.2.2.2.2.2.2.2.2.2.2.1=h4_9∧s.2.2.2.2.2.2.2.2.2.2.2.2.2.2.2.2.2.1=h5_0∧s.2.2.2.2.2.2.2.2.2.2.2.2.2.2.2.2.2.2.1=h5_1∧s.2.2.2.2.2.2.2.2.2.2.2.2.2.2.2.2.2.2.2.1=h5_2∧s.2.2.2.2.2.2.2.2.2.2.2.2.2.2.2.2.2.2.2.2.1=g1k∧s.2.2.2.2.2.2.2.2.2.2.2.2.2.2.2.2.2.2.2.2.2.1=g1v∧s.2.2.2.2.2.2.2.2.2.2.2.2.2.2.2.2.2.2.2.2.2.2.1=g2k∧s.2.2.2.2.2.2.2.2.2.2.2.2.2.2.2.2.2.2.2.2.2.2.2.1=g2v∧s.2.2.2.2.2.2.2.2.2.2.2.2.2.2.2.2.2.2.2.2.2.2.2.2.1=g3k∧s.2.2.2.2.2.2.2.2.2.2.2.2.2.2.2.2.2.2.2.2.2.2.2.2.2.1=g3v)∧inv s.2.2.1,fun s:(List TSpent)×Int×Int×Bool×Int×Int×(List TQuestion)×Int×Int×(List Int)×(List Int)×(List Int)×Int×Int×Int×Int×Int×(List TSpent)×(List TNote)×Int×(List ByteArray)×(List Int)×(List ByteArray)×(List (List Int))×(List ByteArray)×(List Bool)×Unit=>μ s.2.2.1,⟨⟨rfl,rfl,rfl,rfl,rfl,rfl,rfl,rfl,rfl,rfl,rfl,rfl,rfl,rfl,rfl,rfl,rfl,rfl,rfl,rfl,rfl,rfl,rfl,rfl,rfl⟩,h0⟩,fun(s19p,s20p,s21p,h0_0p,h0_1p,h0_2p,h0_3p,h4_0p,h4_1p,h4_2p,h4_3p,h4_4p,h4_5p,h4_6p,h4_7p,h4_8p,h4_9p,h5_0p,h5_1p,h5_2p,g1kp,g1vp,g2kp,g2vp,g3kp,g3vp,()) ⟨⟨eq0,eq1,eq2,eq3,eq4,eq5,eq6,eq7,eq8,eq9,eq10,eq11,eq12,eq13,eq14,eq15,eq16,eq17,eq18,eq19,eq20,eq21,eq22,eq23,eq24⟩,hi⟩=>by
  have eq0:s19p=s19:=eq0;subst s19p;have eq1:s20p=s20:=eq1;subst s20p;have eq2:h0_0p=h0_0:=eq2;subst h0_0p;have eq3:h0_1p=h0_1:=eq3;subst h0_1p;have eq4:h0_2p=h0_2:=eq4;subst h0_2p;have eq5:h0_3p=h0_3:=eq5;subst h0_3p;have eq6:h4_0p=h4_0:=eq6;subst h4_0p;have eq7:h4_1p=h4_1:=eq7;subst h4_1p;have eq8:h4_2p=h4_2:=eq8;subst h4_2p;have eq9:h4_3p=h4_3:=eq9;subst h4_3p;have eq10:h4_4p=h4_4:=eq10;subst h4_4p;have eq11:h4_5p=h4_5:=eq11;subst h4_5p;have eq12:h4_6p=h4_6:=eq12;subst h4_6p;have eq13:h4_7p=h4_7:=eq13;subst h4_7p;have eq14:h4_8p=h4_8:=eq14;subst h4_8p;have eq15:h4_9p=h4_9:=eq15;subst h4_9p;have eq16:h5_0p=h5_0:=eq16;subst h5_0p;have eq17:h5_1p=h5_1:=eq17;subst h5_1p;have eq18:h5_2p=h5_2:=eq18;subst h5_2p;have eq19:g1kp=g1k:=eq19;subst g1kp;have eq20:g1vp=g1v:=eq20;subst g1vp;have eq21:g2kp=g2k:=eq21;subst g2kp;have eq22:g2vp=g2v:=eq22;subst g2vp;have eq23:g3kp=g3k:=eq23;subst g3kp;have eq24:g3vp=g3v:=eq24;subst g3vp;exact mpr_of (by kernel_rfl) ((congrArg (fun k=>kpb r0 d0_0 d0_1 d0_2 d0_3 e1k e1v e2k e2v e3k e3v k s19 s20 h0_0 h0_1 h0_2 h0_3 h4_0 h4_1 h4_2 h4_3 h4_4 h4_5 h4_6 h4_7 h4_8 h4_9 h5_0 h5_1 h5_2 g1k g1v g2k g2v g3k g3v s21p) (lpk1 (⟨rfl,rfl,rfl,rfl,rfl,rfl,rfl,rfl,rfl,rfl,rfl,rfl,rfl,rfl,rfl,rfl,rfl,rfl,rfl,rfl,rfl,rfl,rfl,rfl,rfl⟩:s19=s19∧s20=s20∧h0_0=h0_0∧h0_1=h0_1∧h0_2=h0_2∧h0_3=h0_3∧h4_0=h4_0∧h4_1=h4_1∧h4_2=h4_2∧h4_3=h4_3∧h4_4=h4_4∧h4_5=h4_5∧h4_6=h4_6∧h4_7=h4_7∧h4_8=h4_8∧h4_9=h4_9∧h5_0=h5_0∧h5_1=h5_1∧h5_2=h5_2∧g1k=g1k∧g1v=g1v∧g2k=g2k∧g2v=g2v∧g3k=g3k∧g3v=g3v) inv (fun s21q=>μ s21q<μ s21p))).mpr (hs s21p hi))⟩⟩
def kq2 (r0:Int) (d0_0:Bool) (d0_1:Int) (d0_2:Int) (d0_3:List TQuestion) (e1k:List ByteArray) (e1v:List Int) (e2k:List ByteArray) (e2v:List (List Int)) (e3k:List ByteArray) (e3v:List Bool) (k2:Int→Prop) (s40:List TNote) (s41:Int) (h0_0:Bool) (h0_1:Int) (h0_2:Int) (h0_3:List TQuestion) (h4_0:Int) (h4_1:Int) (h4_2:List Int) (h4_3:List Int) (h4_4:List Int) (h4_5:Int) (h4_6:Int) (h4_7:Int) (h4_8:Int) (h4_9:Int) (h5_0:List TSpent) (h5_1:List TNote) (h5_2:Int) (g1k:List ByteArray) (g1v:List Int) (g2k:List ByteArray) (g2v:List (List Int)) (g3k:List ByteArray) (g3v:List Bool) (s42:Int):Prop:=
(decide (s42<s41)=true→
(0≤s42)∧s42<(s40.length:Int)∧(NR (ix s40 s42)∧OrOk g1k g1v h0_3)∧let r2:Int:=((commP (pk h0_0 h0_3 g1k g1v) (ix s40 s42)).getD 0)
let r3:Bool:=((commP (pk h0_0 h0_3 g1k g1v) (ix s40 s42)).isSome)
((!r3)=true→
1=r0∧h0_0=d0_0∧h0_1=d0_1∧h0_2=d0_2∧h0_3=d0_3∧g1k=e1k∧g1v=e1v∧g2k=e2k∧g2v=e2v∧g3k=e3k∧g3v=e3v)∧
((!r3)=false→
(0≤s42)∧s42<(h4_3.length:Int)∧((r2 !=(ix h4_3 s42))=true→
1=r0∧h0_0=d0_0∧h0_1=d0_1∧h0_2=d0_2∧h0_3=d0_3∧g1k=e1k∧g1v=e1v∧g2k=e2k∧g2v=e2v∧g3k=e3k∧g3v=e3v)∧
((r2 !=(ix h4_3 s42))=false→
(0≤s42)∧s42<(h4_4.length:Int)∧((((ix s40 s42).Rho) !=(ix h4_4 s42))=true→
1=r0∧h0_0=d0_0∧h0_1=d0_1∧h0_2=d0_2∧h0_3=d0_3∧g1k=e1k∧g1v=e1v∧g2k=e2k∧g2v=e2v∧g3k=e3k∧g3v=e3v)∧
((((ix s40 s42).Rho) !=(ix h4_4 s42))=false→
k2 (IntKind.i64.wrap (s42+1):Int)))))∧
(decide (s42<s41)=false→
(decide (0<h4_5)=true→
(U64 h5_2)∧((h4_8 !=(acctS h5_2))=true→
21=r0∧h0_0=d0_0∧h0_1=d0_1∧h0_2=d0_2∧h0_3=d0_3∧g1k=e1k∧g1v=e1v∧g2k=e2k∧g2v=e2v∧g3k=e3k∧g3v=e3v)∧
((h4_8 !=(acctS h5_2))=false→
k5u (r0,d0_0,d0_1,d0_2,d0_3,e1k,e1v,e2k,e2v,e3k,e3v,()) (h0_0,h0_1,h0_2,h0_3,h4_0,h4_1,h4_2,h4_3,h4_4,h4_5,h4_6,h4_7,h4_8,h4_9,h5_0,h5_1,h5_2,g1k,g1v,g2k,g2v,g3k,g3v,())))∧
(decide (0<h4_5)=false→
k5u (r0,d0_0,d0_1,d0_2,d0_3,e1k,e1v,e2k,e2v,e3k,e3v,()) (h0_0,h0_1,h0_2,h0_3,h4_0,h4_1,h4_2,h4_3,h4_4,h4_5,h4_6,h4_7,h4_8,h4_9,h5_0,h5_1,h5_2,g1k,g1v,g2k,g2v,g3k,g3v,())))
theorem k13s {r0:Int} {d0_0:Bool} {d0_1:Int} {d0_2:Int} {d0_3:List TQuestion} {e1k:List ByteArray} {e1v:List Int} {e2k:List ByteArray} {e2v:List (List Int)} {e3k:List ByteArray} {e3v:List Bool} {s40:List TNote} {s41:Int} {h0_0:Bool} {h0_1:Int} {h0_2:Int} {h0_3:List TQuestion} {h4_0:Int} {h4_1:Int} {h4_2:List Int} {h4_3:List Int} {h4_4:List Int} {h4_5:Int} {h4_6:Int} {h4_7:Int} {h4_8:Int} {h4_9:Int} {h5_0:List TSpent} {h5_1:List TNote} {h5_2:Int} {g1k:List ByteArray} {g1v:List Int} {g2k:List ByteArray} {g2v:List (List Int)} {g3k:List ByteArray} {g3v:List Bool} {s42:Int} (inv:Int→Prop) (μ:Int→Nat) (h0:inv s42) (hs:∀(s42:Int),inv s42→kq2 r0 d0_0 d0_1 d0_2 d0_3 e1k e1v e2k e2v e3k e3v (fun s42q=>inv s42q∧μ s42q<μ s42) s40 s41 h0_0 h0_1 h0_2 h0_3 h4_0 h4_1 h4_2 h4_3 h4_4 h4_5 h4_6 h4_7 h4_8 h4_9 h5_0 h5_1 h5_2 g1k g1v g2k g2v g3k g3v s42):Md.Loop (s40,s41,s42,h0_0,h0_1,h0_2,h0_3,h4_0,h4_1,h4_2,h4_3,h4_4,h4_5,h4_6,h4_7,h4_8,h4_9,h5_0,h5_1,h5_2,g1k,g1v,g2k,g2v,g3k,g3v,()) (k8z (r0,d0_0,d0_1,d0_2,d0_3,e1k,e1v,e2k,e2v,e3k,e3v,())):=
 ⟨⟨fun s:(List TNote)×Int×Int×Bool×Int×Int×(List TQuestion)×Int×Int×(List Int)×(List Int)×(List Int)×Int×Int×Int×Int×Int×(List TSpent)×(List TNote)×Int×(List ByteArray)×(List Int)×(List ByteArray)×(List (List Int))×(List ByteArray)×(List Bool)×Unit=>(s.1=s40∧s.2.1=s41∧s.2.2.2.1=h0_0∧s.2.2.2.2.1=h0_1∧s.2.2.2.2.2.1=h0_2∧s.2.2.2.2.2.2.1=h0_3∧s.2.2.2.2.2.2.2.1=h4_0∧s.2.2.2.2.2.2.2.2.1=h4_1∧s.2.2.2.2.2.2.2.2.2.1=h4_2∧s.2.2.2.2.2.2.2.2.2.2.1=h4_3∧s.2.2.2.2.2.2.2.2.2.2.2.1=h4_4∧s.2.2.2.2.2.2.2.2.2.2.2.2.1=h4_5∧s.2.2.2.2.2.2.2.2.2.2.2.2.2.1=h4_6∧s.2.2.2.2.2.2.2.2.2.2.2.2.2.2.1=h4_7∧s.2.2.2.2.2.2.2.2.2.2.2.2.2.2.2.1=h4_8∧s.2.2.2.2.2.2.2.2.2.2.2.2.2.2.2.2.1=h4_9∧s.2.2.2.2.2.2.2.2.2.2.2.2.2.2.2.2.2.1=h5_0∧s.2.2.2.2.2.2.2.2.2.2.2.2.2.2.2.2.2.2.1=h5_1∧s.2.2.2.2.2.2.2.2.2.2.2.2.2.2.2.2.2.2.2.1=h5_2∧s.2.2.2.2.2.2.2.2.2.2.2.2.2.2.2.2.2.2.2.2.1=g1k∧s.2.2.2.2.2.2.2.2.2.2.2.2.2.2.2.2.2.2.2.2.2.1=g1v∧s.2.2.2.2.2.2.2.2.2.2.2.2.2.2.2.2.2.2.2.2.2.2.1=g2k∧s.2.2.2.2.2.2.2.2.2.2.2.2.2.2.2.2.2.2.2.2.2.2.2.1=g2v∧s.2.2.2.2.2.2.2.2.2.2.2.2.2.2.2.2.2.2.2.2.2.2.2.2.1=g3k∧s.2.2.2.2.2.2.2.2.2.2.2.2.2.2.2.2.2.2.2.2.2.2.2.2.2.1=g3v)∧inv s.2.2.1,fun s:(List TNote)×Int×Int×Bool×Int×Int×(List TQuestion)×Int×Int×(List Int)×(List Int)×(List Int)×Int×Int×Int×Int×Int×(List TSpent)×(List TNote)×Int×(List ByteArray)×(List Int)×(List ByteArray)×(List (List Int))×(List ByteArray)×(List Bool)×Unit=>μ s.2.2.1,⟨⟨rfl,rfl,rfl,rfl,rfl,rfl,rfl,rfl,rfl,rfl,rfl,rfl,rfl,rfl,rfl,rfl,rfl,rfl,rfl,rfl,rfl,rfl,rfl,rfl,rfl⟩,h0⟩,fun(s40p,s41p,s42p,h0_0p,h0_1p,h0_2p,h0_3p,h4_0p,h4_1p,h4_2p,h4_3p,h4_4p,h4_5p,h4_6p,h4_7p,h4_8p,h4_9p,h5_0p,h5_1p,h5_2p,g1kp,g1vp,g2kp,g2vp,g3kp,g3vp,()) ⟨⟨eq0,eq1,eq2,eq3,eq4,eq5,eq6,eq7,eq8,eq9,eq10,eq11,eq12,eq13,eq14,eq15,eq16,eq17,eq18,eq19,eq20,eq21,eq22,eq23,eq24⟩,hi⟩=>by
  have eq0:s40p=s40:=eq0;subst s40p;have eq1:s41p=s41:=eq1;subst s41p;have eq2:h0_0p=h0_0:=eq2;subst h0_0p;have eq3:h0_1p=h0_1:=eq3;subst h0_1p;have eq4:h0_2p=h0_2:=eq4;subst h0_2p;have eq5:h0_3p=h0_3:=eq5;subst h0_3p;have eq6:h4_0p=h4_0:=eq6;subst h4_0p;have eq7:h4_1p=h4_1:=eq7;subst h4_1p;have eq8:h4_2p=h4_2:=eq8;subst h4_2p;have eq9:h4_3p=h4_3:=eq9;subst h4_3p;have eq10:h4_4p=h4_4:=eq10;subst h4_4p;have eq11:h4_5p=h4_5:=eq11;subst h4_5p;have eq12:h4_6p=h4_6:=eq12;subst h4_6p;have eq13:h4_7p=h4_7:=eq13;subst h4_7p;have eq14:h4_8p=h4_8:=eq14;subst h4_8p;have eq15:h4_9p=h4_9:=eq15;subst h4_9p;have eq16:h5_0p=h5_0:=eq16;subst h5_0p;have eq17:h5_1p=h5_1:=eq17;subst h5_1p;have eq18:h5_2p=h5_2:=eq18;subst h5_2p;have eq19:g1kp=g1k:=eq19;subst g1kp;have eq20:g1vp=g1v:=eq20;subst g1vp;have eq21:g2kp=g2k:=eq21;subst g2kp;have eq22:g2vp=g2v:=eq22;subst g2vp;have eq23:g3kp=g3k:=eq23;subst g3kp;have eq24:g3vp=g3v:=eq24;subst g3vp;exact mpr_of (by kernel_rfl) ((congrArg (fun k=>kq2 r0 d0_0 d0_1 d0_2 d0_3 e1k e1v e2k e2v e3k e3v k s40 s41 h0_0 h0_1 h0_2 h0_3 h4_0 h4_1 h4_2 h4_3 h4_4 h4_5 h4_6 h4_7 h4_8 h4_9 h5_0 h5_1 h5_2 g1k g1v g2k g2v g3k g3v s42p) (lpk1 (⟨rfl,rfl,rfl,rfl,rfl,rfl,rfl,rfl,rfl,rfl,rfl,rfl,rfl,rfl,rfl,rfl,rfl,rfl,rfl,rfl,rfl,rfl,rfl,rfl,rfl⟩:s40=s40∧s41=s41∧h0_0=h0_0∧h0_1=h0_1∧h0_2=h0_2∧h0_3=h0_3∧h4_0=h4_0∧h4_1=h4_1∧h4_2=h4_2∧h4_3=h4_3∧h4_4=h4_4∧h4_5=h4_5∧h4_6=h4_6∧h4_7=h4_7∧h4_8=h4_8∧h4_9=h4_9∧h5_0=h5_0∧h5_1=h5_1∧h5_2=h5_2∧g1k=g1k∧g1v=g1v∧g2k=g2k∧g2v=g2v∧g3k=g3k∧g3v=g3v) inv (fun s42q=>μ s42q<μ s42p))).mpr (hs s42p hi))⟩⟩
theorem bd15:Callable Try.prog 15:=⟨by rw[Try.func15];kernel_rfl,by rw[Try.func15];show some _≠some _;decide⟩
theorem k10v (p1:TStatement) (p2:TWitness) (c0_0:Bool) (c0_1:Int) (c0_2:Int) (c0_3:List TQuestion) (w1k:List ByteArray) (w1v:List Int) (w2k:List ByteArray) (w2v:List (List Int)) (w3k:List ByteArray) (w3v:List Bool) (h:SR p1∧WR p2∧OrOk w1k w1v c0_3∧(∀l a,(pk c0_0 c0_3 w1k w1v) l a=none∨∃n,(pk c0_0 c0_3 w1k w1v) l a=some n∧U64 n)):ke4 (p1.Depth,p1.Anchor,p1.Marks,p1.Commits,p1.Rhos,p1.Deposit,p1.Withdraw,p1.Fee,p1.Account,p1.Bind,p2.Ins,p2.Outs,p2.Secret,c0_0,c0_1,c0_2,c0_3,w1k,w1v,w2k,w2v,w3k,w3v,()) (((checkS (pk c0_0 c0_3 w1k w1v) p1 p2):Int),(c0_0:Bool),(c0_1:Int),(c0_2:Int),(c0_3:List TQuestion),(w1k:List ByteArray),(w1v:List Int),(w2k:List ByteArray),(w2v:List (List Int)),(w3k:List ByteArray),(w3v:List Bool),()):=by
 obtain⟨hs,hw,ho,hu⟩:=h
 refine k160 ⟨⟨hs,hw⟩,fun e=> ?_,fun e=> ?_⟩
 ·have e:relV p1 p2=false:=by simpa using e
  unfold checkS
  rw[if_pos e]
  (repeat' apply And.intro)<;>first|rfl|exact True.intro
 have e:relV p1 p2=true:=by simpa using e
 have hv:p2.Ins.length=p1.Marks.length∧p2.Outs.length=p1.Commits.length∧p2.Outs.length=p1.Rhos.length:=by
  unfold relV at e
  simp only[Bool.and_eq_true,decide_eq_true_eq]at e
  exact⟨e.1.1.1.1.1.1.2,e.1.1.1.1.2,e.1.1.1.2⟩
 obtain⟨v1,v2,v3⟩:=hv
 have hil:=hw.il
 have hol:=hw.ol
 refine k12g (fun i=>(0≤i∧i≤p2.Ins.length∧insE (pk c0_0 c0_3 w1k w1v) p1.Anchor (p2.Ins.drop i.toNat) (p1.Marks.drop i.toNat)=insE (pk c0_0 c0_3 w1k w1v) p1.Anchor p2.Ins p1.Marks)) (fun i=>(p2.Ins.length-i).toNat) ⟨by omega,by omega,rfl⟩ ?_
 rintro i ⟨g0,g1,g2⟩
 refine⟨fun hh=> ?_,fun hh=> ?_⟩
 ·have hh:=of_decide_eq_true hh
  have hp:=hw.i _ (ix_mem p2.Ins i g0 hh)
  have hd:=drop_ix p2.Ins i g0 hh
  have hd2:=drop_ix p1.Marks i g0 (by omega)
  rw[hd,hd2]at g2
  have g2:(if inE (pk c0_0 c0_3 w1k w1v) p1.Anchor (ix p1.Marks i) (ix p2.Ins i)≠0 then inE (pk c0_0 c0_3 w1k w1v) p1.Anchor (ix p1.Marks i) (ix p2.Ins i)else insE (pk c0_0 c0_3 w1k w1v) p1.Anchor (p2.Ins.drop (i+1).toNat) (p1.Marks.drop (i+1).toNat))=insE (pk c0_0 c0_3 w1k w1v) p1.Anchor p2.Ins p1.Marks:=g2
  have nx:=inc i p2.Ins.length g0 hh (by omega)
  refine⟨g0,hh,g0,by omega,⟨hp,ho,hu⟩,?_⟩
  simp only[k1nv]
  refine⟨fun e2=> ?_,fun e2=> ?_⟩
  ·have e2:inE (pk c0_0 c0_3 w1k w1v) p1.Anchor (ix p1.Marks i) (ix p2.Ins i)≠0:=by simpa using e2
   rw[if_pos e2]at g2
   refine⟨?_,by(repeat' apply And.intro)<;>first|rfl|exact True.intro⟩
   have g2:_=insE (pk c0_0 c0_3 w1k w1v) p1.Anchor p2.Ins p1.Marks:=g2
   unfold checkS
   rw[if_neg (by simp[e]),if_pos (by rw[←g2];exact e2),←g2]
  ·have e2:inE (pk c0_0 c0_3 w1k w1v) p1.Anchor (ix p1.Marks i) (ix p2.Ins i)=0:=by simpa using e2
   rw[if_neg (by simp[e2])]at g2
   rw[nx]
   exact⟨⟨by omega,by omega,g2⟩,by omega⟩
 ·have hh:=of_decide_eq_false hh
  rw[List.drop_eq_nil_of_le (by omega)]at g2
  have g2:0=insE (pk c0_0 c0_3 w1k w1v) p1.Anchor p2.Ins p1.Marks:=g2
  have hck:checkS (pk c0_0 c0_3 w1k w1v) p1 p2=if outsB (pk c0_0 c0_3 w1k w1v) p2.Outs p1.Commits p1.Rhos=false then 1 else if 0<p1.Deposit∧p1.Account≠acctS p2.Secret then 21 else
    if(inS p2.Ins+p1.Deposit)%18446744073709551616≠((outS p2.Outs+p1.Withdraw)%18446744073709551616+p1.Fee)%18446744073709551616 then 13 else 0:=by
   conv=>lhs;unfold checkS
   rw[if_neg (by simp[e]),if_neg (by rw[←g2];simp)]
  rw[hck]
  refine k13s (fun i=>(0≤i∧i≤p2.Outs.length∧outsB (pk c0_0 c0_3 w1k w1v) (p2.Outs.drop i.toNat) (p1.Commits.drop i.toNat) (p1.Rhos.drop i.toNat)=outsB (pk c0_0 c0_3 w1k w1v) p2.Outs p1.Commits p1.Rhos)) (fun i=>(p2.Outs.length-i).toNat) ⟨by omega,by omega,rfl⟩ ?_
  rintro k ⟨k0,k1,k2⟩
  refine⟨fun hk=> ?_,fun hk=> ?_⟩
  ·have hk:=of_decide_eq_true hk
   have hp:=hw.o _ (ix_mem p2.Outs k k0 hk)
   rw[drop_ix p2.Outs k k0 hk,drop_ix p1.Commits k k0 (by omega),drop_ix p1.Rhos k k0 (by omega)]at k2
   have k2:(outB (pk c0_0 c0_3 w1k w1v) (ix p2.Outs k) (ix p1.Commits k) (ix p1.Rhos k)&&outsB (pk c0_0 c0_3 w1k w1v) (p2.Outs.drop (k+1).toNat) (p1.Commits.drop (k+1).toNat) (p1.Rhos.drop (k+1).toNat))=outsB (pk c0_0 c0_3 w1k w1v) p2.Outs p1.Commits p1.Rhos:=k2
   have nx:=inc k p2.Outs.length k0 hk (by omega)
   have bad:outB (pk c0_0 c0_3 w1k w1v) (ix p2.Outs k) (ix p1.Commits k) (ix p1.Rhos k)=false→outsB (pk c0_0 c0_3 w1k w1v) p2.Outs p1.Commits p1.Rhos=false:=fun hb=>by rw[hb]at k2;exact k2.symm
   refine⟨k0,hk,⟨hp,ho⟩,?_⟩
   simp only[k13n]
   refine⟨fun e3=> ?_,fun e3=>⟨k0,by omega,fun e4=> ?_,fun e4=>⟨k0,by omega,fun e5=> ?_,fun e5=> ?_⟩⟩⟩
   ·rw[if_pos (bad (by unfold outB;rw[show(commP (pk c0_0 c0_3 w1k w1v) (ix p2.Outs k)).isSome=false by simpa using e3];rfl))]
    (repeat' apply And.intro)<;>first|rfl|exact True.intro
   ·rw[if_pos (bad (by
     have e4:¬(commP (pk c0_0 c0_3 w1k w1v) (ix p2.Outs k)).getD 0=ix p1.Commits k:=by simpa using e4
     simp[outB,e4]))]
    (repeat' apply And.intro)<;>first|rfl|exact True.intro
   ·rw[if_pos (bad (by
     have e5:¬(ix p2.Outs k).Rho=ix p1.Rhos k:=by simpa using e5
     simp[outB,e5]))]
    (repeat' apply And.intro)<;>first|rfl|exact True.intro
   ·have e3:(commP (pk c0_0 c0_3 w1k w1v) (ix p2.Outs k)).isSome=true:=by simpa using e3
    have e4:(commP (pk c0_0 c0_3 w1k w1v) (ix p2.Outs k)).getD 0=ix p1.Commits k:=by simpa using e4
    have e5:(ix p2.Outs k).Rho=ix p1.Rhos k:=by simpa using e5
    have hb:outB (pk c0_0 c0_3 w1k w1v) (ix p2.Outs k) (ix p1.Commits k) (ix p1.Rhos k)=true:=by simp[outB,e3,e4,e5]
    rw[hb,Bool.true_and]at k2
    rw[nx]
    exact⟨⟨by omega,by omega,k2⟩,by omega⟩
  ·have hk:=of_decide_eq_false hk
   rw[List.drop_eq_nil_of_le (by omega)]at k2
   have k2:true=outsB (pk c0_0 c0_3 w1k w1v) p2.Outs p1.Commits p1.Rhos:=k2
   rw[←k2]
   have j1:∀r:Int,(r=if(inS p2.Ins+p1.Deposit)%18446744073709551616≠((outS p2.Outs+p1.Withdraw)%18446744073709551616+p1.Fee)%18446744073709551616 then 13 else 0)→k5u (r,c0_0,c0_1,c0_2,c0_3,w1k,w1v,w2k,w2v,w3k,w3v,()) (c0_0,c0_1,c0_2,c0_3,p1.Depth,p1.Anchor,p1.Marks,p1.Commits,p1.Rhos,p1.Deposit,p1.Withdraw,p1.Fee,p1.Account,p1.Bind,p2.Ins,p2.Outs,p2.Secret,w1k,w1v,w2k,w2v,w3k,w3v,()):=by
    intro r hr
    refine ky5 ⟨by show p2.Ins.length≤_;omega,by show p2.Outs.length≤_;omega,?_⟩
    simp only[u64w]
    refine⟨fun hb=> ?_,fun hb=> ?_⟩
    ·rw[hr,if_pos (by simpa using hb)]
     (repeat' apply And.intro)<;>first|rfl|exact True.intro
    ·rw[hr,if_neg (by simpa using hb)]
     (repeat' apply And.intro)<;>first|rfl|exact True.intro
   rw[if_neg (by simp)]
   refine⟨fun hd=>⟨hw.s,fun ha=> ?_,fun ha=>j1 _ ?_⟩,fun hd=>j1 _ ?_⟩
   ·have ha:¬p1.Account=acctS p2.Secret:=by simpa using ha
    rw[if_pos ⟨of_decide_eq_true hd,ha⟩]
    (repeat' apply And.intro)<;>first|rfl|exact True.intro
   ·have ha:p1.Account=acctS p2.Secret:=by simpa using ha
    rw[if_neg (fun h=>h.2 ha)]
   ·rw[if_neg (fun h=>of_decide_eq_false hd h.1)]
def koh:Con TB.den:=ky.fnR (fun x=>(fun(p1:TStatement) (p2:TWitness) (c0_0:Bool) (c0_1:Int) (c0_2:Int) (c0_3:List TQuestion) (w1k:List ByteArray) (w1v:List Int) (w2k:List ByteArray) (w2v:List (List Int)) (w3k:List ByteArray) (w3v:List Bool)=>SR p1∧WR p2∧OrOk w1k w1v c0_3∧(∀l a,(pk c0_0 c0_3 w1k w1v) l a=none∨∃n,(pk c0_0 c0_3 w1k w1v) l a=some n∧U64 n)) (TStatement.mk x.1 x.2.1 x.2.2.1 x.2.2.2.1 x.2.2.2.2.1 x.2.2.2.2.2.1 x.2.2.2.2.2.2.1 x.2.2.2.2.2.2.2.1 x.2.2.2.2.2.2.2.2.1 x.2.2.2.2.2.2.2.2.2.1) (TWitness.mk x.2.2.2.2.2.2.2.2.2.2.1 x.2.2.2.2.2.2.2.2.2.2.2.1 x.2.2.2.2.2.2.2.2.2.2.2.2.1) x.2.2.2.2.2.2.2.2.2.2.2.2.2.1 x.2.2.2.2.2.2.2.2.2.2.2.2.2.2.1 x.2.2.2.2.2.2.2.2.2.2.2.2.2.2.2.1 x.2.2.2.2.2.2.2.2.2.2.2.2.2.2.2.2.1 x.2.2.2.2.2.2.2.2.2.2.2.2.2.2.2.2.2.1 x.2.2.2.2.2.2.2.2.2.2.2.2.2.2.2.2.2.2.1 x.2.2.2.2.2.2.2.2.2.2.2.2.2.2.2.2.2.2.2.1 x.2.2.2.2.2.2.2.2.2.2.2.2.2.2.2.2.2.2.2.2.1 x.2.2.2.2.2.2.2.2.2.2.2.2.2.2.2.2.2.2.2.2.2.1 x.2.2.2.2.2.2.2.2.2.2.2.2.2.2.2.2.2.2.2.2.2.2.1) fun x=>((fun(p1:TStatement) (p2:TWitness) (c0_0:Bool) (c0_1:Int) (c0_2:Int) (c0_3:List TQuestion) (w1k:List ByteArray) (w1v:List Int) (w2k:List ByteArray) (w2v:List (List Int)) (w3k:List ByteArray) (w3v:List Bool)=>((checkS (pk c0_0 c0_3 w1k w1v) p1 p2):Int)) (TStatement.mk x.1 x.2.1 x.2.2.1 x.2.2.2.1 x.2.2.2.2.1 x.2.2.2.2.2.1 x.2.2.2.2.2.2.1 x.2.2.2.2.2.2.2.1 x.2.2.2.2.2.2.2.2.1 x.2.2.2.2.2.2.2.2.2.1) (TWitness.mk x.2.2.2.2.2.2.2.2.2.2.1 x.2.2.2.2.2.2.2.2.2.2.2.1 x.2.2.2.2.2.2.2.2.2.2.2.2.1) x.2.2.2.2.2.2.2.2.2.2.2.2.2.1 x.2.2.2.2.2.2.2.2.2.2.2.2.2.2.1 x.2.2.2.2.2.2.2.2.2.2.2.2.2.2.2.1 x.2.2.2.2.2.2.2.2.2.2.2.2.2.2.2.2.1 x.2.2.2.2.2.2.2.2.2.2.2.2.2.2.2.2.2.1 x.2.2.2.2.2.2.2.2.2.2.2.2.2.2.2.2.2.2.1 x.2.2.2.2.2.2.2.2.2.2.2.2.2.2.2.2.2.2.2.1 x.2.2.2.2.2.2.2.2.2.2.2.2.2.2.2.2.2.2.2.2.1 x.2.2.2.2.2.2.2.2.2.2.2.2.2.2.2.2.2.2.2.2.2.1 x.2.2.2.2.2.2.2.2.2.2.2.2.2.2.2.2.2.2.2.2.2.2.1,(fun(p1:TStatement) (p2:TWitness) (c0_0:Bool) (c0_1:Int) (c0_2:Int) (c0_3:List TQuestion) (w1k:List ByteArray) (w1v:List Int) (w2k:List ByteArray) (w2v:List (List Int)) (w3k:List ByteArray) (w3v:List Bool)=>(c0_0:Bool)) (TStatement.mk x.1 x.2.1 x.2.2.1 x.2.2.2.1 x.2.2.2.2.1 x.2.2.2.2.2.1 x.2.2.2.2.2.2.1 x.2.2.2.2.2.2.2.1 x.2.2.2.2.2.2.2.2.1 x.2.2.2.2.2.2.2.2.2.1) (TWitness.mk x.2.2.2.2.2.2.2.2.2.2.1 x.2.2.2.2.2.2.2.2.2.2.2.1 x.2.2.2.2.2.2.2.2.2.2.2.2.1) x.2.2.2.2.2.2.2.2.2.2.2.2.2.1 x.2.2.2.2.2.2.2.2.2.2.2.2.2.2.1 x.2.2.2.2.2.2.2.2.2.2.2.2.2.2.2.1 x.2.2.2.2.2.2.2.2.2.2.2.2.2.2.2.2.1 x.2.2.2.2.2.2.2.2.2.2.2.2.2.2.2.2.2.1 x.2.2.2.2.2.2.2.2.2.2.2.2.2.2.2.2.2.2.1 x.2.2.2.2.2.2.2.2.2.2.2.2.2.2.2.2.2.2.2.1 x.2.2.2.2.2.2.2.2.2.2.2.2.2.2.2.2.2.2.2.2.1 x.2.2.2.2.2.2.2.2.2.2.2.2.2.2.2.2.2.2.2.2.2.1 x.2.2.2.2.2.2.2.2.2.2.2.2.2.2.2.2.2.2.2.2.2.2.1,(fun(p1:TStatement) (p2:TWitness) (c0_0:Bool) (c0_1:Int) (c0_2:Int) (c0_3:List TQuestion) (w1k:List ByteArray) (w1v:List Int) (w2k:List ByteArray) (w2v:List (List Int)) (w3k:List ByteArray) (w3v:List Bool)=>(c0_1:Int)) (TStatement.mk x.1 x.2.1 x.2.2.1 x.2.2.2.1 x.2.2.2.2.1 x.2.2.2.2.2.1 x.2.2.2.2.2.2.1 x.2.2.2.2.2.2.2.1 x.2.2.2.2.2.2.2.2.1 x.2.2.2.2.2.2.2.2.2.1) (TWitness.mk x.2.2.2.2.2.2.2.2.2.2.1 x.2.2.2.2.2.2.2.2.2.2.2.1 x.2.2.2.2.2.2.2.2.2.2.2.2.1) x.2.2.2.2.2.2.2.2.2.2.2.2.2.1 x.2.2.2.2.2.2.2.2.2.2.2.2.2.2.1 x.2.2.2.2.2.2.2.2.2.2.2.2.2.2.2.1 x.2.2.2.2.2.2.2.2.2.2.2.2.2.2.2.2.1 x.2.2.2.2.2.2.2.2.2.2.2.2.2.2.2.2.2.1 x.2.2.2.2.2.2.2.2.2.2.2.2.2.2.2.2.2.2.1 x.2.2.2.2.2.2.2.2.2.2.2.2.2.2.2.2.2.2.2.1 x.2.2.2.2.2.2.2.2.2.2.2.2.2.2.2.2.2.2.2.2.1 x.2.2.2.2.2.2.2.2.2.2.2.2.2.2.2.2.2.2.2.2.2.1 x.2.2.2.2.2.2.2.2.2.2.2.2.2.2.2.2.2.2.2.2.2.2.1,(fun(p1:TStatement) (p2:TWitness) (c0_0:Bool) (c0_1:Int) (c0_2:Int) (c0_3:List TQuestion) (w1k:List ByteArray) (w1v:List Int) (w2k:List ByteArray) (w2v:List (List Int)) (w3k:List ByteArray) (w3v:List Bool)=>(c0_2:Int)) (TStatement.mk x.1 x.2.1 x.2.2.1 x.2.2.2.1 x.2.2.2.2.1 x.2.2.2.2.2.1 x.2.2.2.2.2.2.1 x.2.2.2.2.2.2.2.1 x.2.2.2.2.2.2.2.2.1 x.2.2.2.2.2.2.2.2.2.1) (TWitness.mk x.2.2.2.2.2.2.2.2.2.2.1 x.2.2.2.2.2.2.2.2.2.2.2.1 x.2.2.2.2.2.2.2.2.2.2.2.2.1) x.2.2.2.2.2.2.2.2.2.2.2.2.2.1 x.2.2.2.2.2.2.2.2.2.2.2.2.2.2.1 x.2.2.2.2.2.2.2.2.2.2.2.2.2.2.2.1 x.2.2.2.2.2.2.2.2.2.2.2.2.2.2.2.2.1 x.2.2.2.2.2.2.2.2.2.2.2.2.2.2.2.2.2.1 x.2.2.2.2.2.2.2.2.2.2.2.2.2.2.2.2.2.2.1 x.2.2.2.2.2.2.2.2.2.2.2.2.2.2.2.2.2.2.2.1 x.2.2.2.2.2.2.2.2.2.2.2.2.2.2.2.2.2.2.2.2.1 x.2.2.2.2.2.2.2.2.2.2.2.2.2.2.2.2.2.2.2.2.2.1 x.2.2.2.2.2.2.2.2.2.2.2.2.2.2.2.2.2.2.2.2.2.2.1,(fun(p1:TStatement) (p2:TWitness) (c0_0:Bool) (c0_1:Int) (c0_2:Int) (c0_3:List TQuestion) (w1k:List ByteArray) (w1v:List Int) (w2k:List ByteArray) (w2v:List (List Int)) (w3k:List ByteArray) (w3v:List Bool)=>(c0_3:List TQuestion)) (TStatement.mk x.1 x.2.1 x.2.2.1 x.2.2.2.1 x.2.2.2.2.1 x.2.2.2.2.2.1 x.2.2.2.2.2.2.1 x.2.2.2.2.2.2.2.1 x.2.2.2.2.2.2.2.2.1 x.2.2.2.2.2.2.2.2.2.1) (TWitness.mk x.2.2.2.2.2.2.2.2.2.2.1 x.2.2.2.2.2.2.2.2.2.2.2.1 x.2.2.2.2.2.2.2.2.2.2.2.2.1) x.2.2.2.2.2.2.2.2.2.2.2.2.2.1 x.2.2.2.2.2.2.2.2.2.2.2.2.2.2.1 x.2.2.2.2.2.2.2.2.2.2.2.2.2.2.2.1 x.2.2.2.2.2.2.2.2.2.2.2.2.2.2.2.2.1 x.2.2.2.2.2.2.2.2.2.2.2.2.2.2.2.2.2.1 x.2.2.2.2.2.2.2.2.2.2.2.2.2.2.2.2.2.2.1 x.2.2.2.2.2.2.2.2.2.2.2.2.2.2.2.2.2.2.2.1 x.2.2.2.2.2.2.2.2.2.2.2.2.2.2.2.2.2.2.2.2.1 x.2.2.2.2.2.2.2.2.2.2.2.2.2.2.2.2.2.2.2.2.2.1 x.2.2.2.2.2.2.2.2.2.2.2.2.2.2.2.2.2.2.2.2.2.2.1,(fun(p1:TStatement) (p2:TWitness) (c0_0:Bool) (c0_1:Int) (c0_2:Int) (c0_3:List TQuestion) (w1k:List ByteArray) (w1v:List Int) (w2k:List ByteArray) (w2v:List (List Int)) (w3k:List ByteArray) (w3v:List Bool)=>(w1k:List ByteArray)) (TStatement.mk x.1 x.2.1 x.2.2.1 x.2.2.2.1 x.2.2.2.2.1 x.2.2.2.2.2.1 x.2.2.2.2.2.2.1 x.2.2.2.2.2.2.2.1 x.2.2.2.2.2.2.2.2.1 x.2.2.2.2.2.2.2.2.2.1) (TWitness.mk x.2.2.2.2.2.2.2.2.2.2.1 x.2.2.2.2.2.2.2.2.2.2.2.1 x.2.2.2.2.2.2.2.2.2.2.2.2.1) x.2.2.2.2.2.2.2.2.2.2.2.2.2.1 x.2.2.2.2.2.2.2.2.2.2.2.2.2.2.1 x.2.2.2.2.2.2.2.2.2.2.2.2.2.2.2.1 x.2.2.2.2.2.2.2.2.2.2.2.2.2.2.2.2.1 x.2.2.2.2.2.2.2.2.2.2.2.2.2.2.2.2.2.1 x.2.2.2.2.2.2.2.2.2.2.2.2.2.2.2.2.2.2.1 x.2.2.2.2.2.2.2.2.2.2.2.2.2.2.2.2.2.2.2.1 x.2.2.2.2.2.2.2.2.2.2.2.2.2.2.2.2.2.2.2.2.1 x.2.2.2.2.2.2.2.2.2.2.2.2.2.2.2.2.2.2.2.2.2.1 x.2.2.2.2.2.2.2.2.2.2.2.2.2.2.2.2.2.2.2.2.2.2.1,(fun(p1:TStatement) (p2:TWitness) (c0_0:Bool) (c0_1:Int) (c0_2:Int) (c0_3:List TQuestion) (w1k:List ByteArray) (w1v:List Int) (w2k:List ByteArray) (w2v:List (List Int)) (w3k:List ByteArray) (w3v:List Bool)=>(w1v:List Int)) (TStatement.mk x.1 x.2.1 x.2.2.1 x.2.2.2.1 x.2.2.2.2.1 x.2.2.2.2.2.1 x.2.2.2.2.2.2.1 x.2.2.2.2.2.2.2.1 x.2.2.2.2.2.2.2.2.1 x.2.2.2.2.2.2.2.2.2.1) (TWitness.mk x.2.2.2.2.2.2.2.2.2.2.1 x.2.2.2.2.2.2.2.2.2.2.2.1 x.2.2.2.2.2.2.2.2.2.2.2.2.1) x.2.2.2.2.2.2.2.2.2.2.2.2.2.1 x.2.2.2.2.2.2.2.2.2.2.2.2.2.2.1 x.2.2.2.2.2.2.2.2.2.2.2.2.2.2.2.1 x.2.2.2.2.2.2.2.2.2.2.2.2.2.2.2.2.1 x.2.2.2.2.2.2.2.2.2.2.2.2.2.2.2.2.2.1 x.2.2.2.2.2.2.2.2.2.2.2.2.2.2.2.2.2.2.1 x.2.2.2.2.2.2.2.2.2.2.2.2.2.2.2.2.2.2.2.1 x.2.2.2.2.2.2.2.2.2.2.2.2.2.2.2.2.2.2.2.2.1 x.2.2.2.2.2.2.2.2.2.2.2.2.2.2.2.2.2.2.2.2.2.1 x.2.2.2.2.2.2.2.2.2.2.2.2.2.2.2.2.2.2.2.2.2.2.1,(fun(p1:TStatement) (p2:TWitness) (c0_0:Bool) (c0_1:Int) (c0_2:Int) (c0_3:List TQuestion) (w1k:List ByteArray) (w1v:List Int) (w2k:List ByteArray) (w2v:List (List Int)) (w3k:List ByteArray) (w3v:List Bool)=>(w2k:List ByteArray)) (TStatement.mk x.1 x.2.1 x.2.2.1 x.2.2.2.1 x.2.2.2.2.1 x.2.2.2.2.2.1 x.2.2.2.2.2.2.1 x.2.2.2.2.2.2.2.1 x.2.2.2.2.2.2.2.2.1 x.2.2.2.2.2.2.2.2.2.1) (TWitness.mk x.2.2.2.2.2.2.2.2.2.2.1 x.2.2.2.2.2.2.2.2.2.2.2.1 x.2.2.2.2.2.2.2.2.2.2.2.2.1) x.2.2.2.2.2.2.2.2.2.2.2.2.2.1 x.2.2.2.2.2.2.2.2.2.2.2.2.2.2.1 x.2.2.2.2.2.2.2.2.2.2.2.2.2.2.2.1 x.2.2.2.2.2.2.2.2.2.2.2.2.2.2.2.2.1 x.2.2.2.2.2.2.2.2.2.2.2.2.2.2.2.2.2.1 x.2.2.2.2.2.2.2.2.2.2.2.2.2.2.2.2.2.2.1 x.2.2.2.2.2.2.2.2.2.2.2.2.2.2.2.2.2.2.2.1 x.2.2.2.2.2.2.2.2.2.2.2.2.2.2.2.2.2.2.2.2.1 x.2.2.2.2.2.2.2.2.2.2.2.2.2.2.2.2.2.2.2.2.2.1 x.2.2.2.2.2.2.2.2.2.2.2.2.2.2.2.2.2.2.2.2.2.2.1,(fun(p1:TStatement) (p2:TWitness) (c0_0:Bool) (c0_1:Int) (c0_2:Int) (c0_3:List TQuestion) (w1k:List ByteArray) (w1v:List Int) (w2k:List ByteArray) (w2v:List (List Int)) (w3k:List ByteArray) (w3v:List Bool)=>(w2v:List (List Int))) (TStatement.mk x.1 x.2.1 x.2.2.1 x.2.2.2.1 x.2.2.2.2.1 x.2.2.2.2.2.1 x.2.2.2.2.2.2.1 x.2.2.2.2.2.2.2.1 x.2.2.2.2.2.2.2.2.1 x.2.2.2.2.2.2.2.2.2.1) (TWitness.mk x.2.2.2.2.2.2.2.2.2.2.1 x.2.2.2.2.2.2.2.2.2.2.2.1 x.2.2.2.2.2.2.2.2.2.2.2.2.1) x.2.2.2.2.2.2.2.2.2.2.2.2.2.1 x.2.2.2.2.2.2.2.2.2.2.2.2.2.2.1 x.2.2.2.2.2.2.2.2.2.2.2.2.2.2.2.1 x.2.2.2.2.2.2.2.2.2.2.2.2.2.2.2.2.1 x.2.2.2.2.2.2.2.2.2.2.2.2.2.2.2.2.2.1 x.2.2.2.2.2.2.2.2.2.2.2.2.2.2.2.2.2.2.1 x.2.2.2.2.2.2.2.2.2.2.2.2.2.2.2.2.2.2.2.1 x.2.2.2.2.2.2.2.2.2.2.2.2.2.2.2.2.2.2.2.2.1 x.2.2.2.2.2.2.2.2.2.2.2.2.2.2.2.2.2.2.2.2.2.1 x.2.2.2.2.2.2.2.2.2.2.2.2.2.2.2.2.2.2.2.2.2.2.1,(fun(p1:TStatement) (p2:TWitness) (c0_0:Bool) (c0_1:Int) (c0_2:Int) (c0_3:List TQuestion) (w1k:List ByteArray) (w1v:List Int) (w2k:List ByteArray) (w2v:List (List Int)) (w3k:List ByteArray) (w3v:List Bool)=>(w3k:List ByteArray)) (TStatement.mk x.1 x.2.1 x.2.2.1 x.2.2.2.1 x.2.2.2.2.1 x.2.2.2.2.2.1 x.2.2.2.2.2.2.1 x.2.2.2.2.2.2.2.1 x.2.2.2.2.2.2.2.2.1 x.2.2.2.2.2.2.2.2.2.1) (TWitness.mk x.2.2.2.2.2.2.2.2.2.2.1 x.2.2.2.2.2.2.2.2.2.2.2.1 x.2.2.2.2.2.2.2.2.2.2.2.2.1) x.2.2.2.2.2.2.2.2.2.2.2.2.2.1 x.2.2.2.2.2.2.2.2.2.2.2.2.2.2.1 x.2.2.2.2.2.2.2.2.2.2.2.2.2.2.2.1 x.2.2.2.2.2.2.2.2.2.2.2.2.2.2.2.2.1 x.2.2.2.2.2.2.2.2.2.2.2.2.2.2.2.2.2.1 x.2.2.2.2.2.2.2.2.2.2.2.2.2.2.2.2.2.2.1 x.2.2.2.2.2.2.2.2.2.2.2.2.2.2.2.2.2.2.2.1 x.2.2.2.2.2.2.2.2.2.2.2.2.2.2.2.2.2.2.2.2.1 x.2.2.2.2.2.2.2.2.2.2.2.2.2.2.2.2.2.2.2.2.2.1 x.2.2.2.2.2.2.2.2.2.2.2.2.2.2.2.2.2.2.2.2.2.2.1,(fun(p1:TStatement) (p2:TWitness) (c0_0:Bool) (c0_1:Int) (c0_2:Int) (c0_3:List TQuestion) (w1k:List ByteArray) (w1v:List Int) (w2k:List ByteArray) (w2v:List (List Int)) (w3k:List ByteArray) (w3v:List Bool)=>(w3v:List Bool)) (TStatement.mk x.1 x.2.1 x.2.2.1 x.2.2.2.1 x.2.2.2.2.1 x.2.2.2.2.2.1 x.2.2.2.2.2.2.1 x.2.2.2.2.2.2.2.1 x.2.2.2.2.2.2.2.2.1 x.2.2.2.2.2.2.2.2.2.1) (TWitness.mk x.2.2.2.2.2.2.2.2.2.2.1 x.2.2.2.2.2.2.2.2.2.2.2.1 x.2.2.2.2.2.2.2.2.2.2.2.2.1) x.2.2.2.2.2.2.2.2.2.2.2.2.2.1 x.2.2.2.2.2.2.2.2.2.2.2.2.2.2.1 x.2.2.2.2.2.2.2.2.2.2.2.2.2.2.2.1 x.2.2.2.2.2.2.2.2.2.2.2.2.2.2.2.2.1 x.2.2.2.2.2.2.2.2.2.2.2.2.2.2.2.2.2.1 x.2.2.2.2.2.2.2.2.2.2.2.2.2.2.2.2.2.2.1 x.2.2.2.2.2.2.2.2.2.2.2.2.2.2.2.2.2.2.2.1 x.2.2.2.2.2.2.2.2.2.2.2.2.2.2.2.2.2.2.2.2.1 x.2.2.2.2.2.2.2.2.2.2.2.2.2.2.2.2.2.2.2.2.2.1 x.2.2.2.2.2.2.2.2.2.2.2.2.2.2.2.2.2.2.2.2.2.2.1,())
theorem k162:koh.Ok Try.prog TB:=Con.ok_fn ky bd15 fun x h=>k12e (k10v (TStatement.mk x.1 x.2.1 x.2.2.1 x.2.2.2.1 x.2.2.2.2.1 x.2.2.2.2.2.1 x.2.2.2.2.2.2.1 x.2.2.2.2.2.2.2.1 x.2.2.2.2.2.2.2.2.1 x.2.2.2.2.2.2.2.2.2.1) (TWitness.mk x.2.2.2.2.2.2.2.2.2.2.1 x.2.2.2.2.2.2.2.2.2.2.2.1 x.2.2.2.2.2.2.2.2.2.2.2.2.1) x.2.2.2.2.2.2.2.2.2.2.2.2.2.1 x.2.2.2.2.2.2.2.2.2.2.2.2.2.2.1 x.2.2.2.2.2.2.2.2.2.2.2.2.2.2.2.1 x.2.2.2.2.2.2.2.2.2.2.2.2.2.2.2.2.1 x.2.2.2.2.2.2.2.2.2.2.2.2.2.2.2.2.2.1 x.2.2.2.2.2.2.2.2.2.2.2.2.2.2.2.2.2.2.1 x.2.2.2.2.2.2.2.2.2.2.2.2.2.2.2.2.2.2.2.1 x.2.2.2.2.2.2.2.2.2.2.2.2.2.2.2.2.2.2.2.2.1 x.2.2.2.2.2.2.2.2.2.2.2.2.2.2.2.2.2.2.2.2.2.1 x.2.2.2.2.2.2.2.2.2.2.2.2.2.2.2.2.2.2.2.2.2.2.1 h)
def k57:Con TB.den:=Con.mk0 8 [] [] (.one (.one (.d (.bool)))) []
abbrev k16s:=HL TB.den (hsT k57.ins (hsOs k57.pre))
abbrev knh:=HL TB.den (hsV k57.res (hsOs k57.post))
def kf2:Cx TB:=⟨inf,[kt4,ksv,koh,kfu,ke3,kd1],[],4,[]⟩
def klw:Code:=Try.f8.body.getD .skip
def kri:List ResultVar:=Try.f8.results.toList
def k14b (o:knh):An TB:= .no
def kmy (x:k16s) (o:knh):Prop:=WPh TB kf2 44 0 klw (k14b o) (k57.st TB x) (retTQ TB kf2 k57 kri o)
theorem k1h6 (o:knh):OblH TB kf2 44 0 klw (k14b o) (retTQ TB kf2 k57 kri o):=
 OblH.ofC (X:=True) (by kernel_rfl) trivial
theorem k1ig {x:k16s} {o:knh} (h:kmy x o):k57.Snd Try.prog x o:=
 Con.soundH (c:=k57) (C:=kf2) TBok ⟨inf_ok,(all_cons k1de (all_cons k1dz (all_cons k162 (all_cons kph (all_cons kob (all_cons kll all_nil)))))),all_nil⟩ mix Try.func8 (show Try.f8.body=some klw by kernel_rfl) (show Try.f8.ntmps=44 by kernel_rfl) (show Try.f8.results.toList=kri by kernel_rfl) rfl h (k1h6 o)
theorem k1jh  {r0:Bool} (h:
((U64 (2:Int))∧(U64 (1:Int))∧(SR (exS (2:Int))∧WR exW∧OrOk [] [] []∧(∀l a,(pk false [] [] []) l a=none∨∃n,(pk false [] [] []) l a=some n∧U64 n))∧let r1:Int:=(checkS (pk false [] [] []) (exS (2:Int)) exW)
((r1==0)=true→
(SR (exS (1:Int))∧WR exW∧OrOk [] [] []∧(∀l a,(pk false [] [] []) l a=none∨∃n,(pk false [] [] []) l a=some n∧U64 n))∧let r2:Int:=(checkS (pk false [] [] []) (exS (1:Int)) exW)
((r2==13)=true→
(SR (exS (2:Int))∧WR exW)∧((relV (exS (2:Int)) exW)=true→
(exW.Ins.length≤9223372036854775807)∧(((inS exW.Ins)==0)=true→
(exW.Outs.length≤9223372036854775807)∧((outS exW.Outs)==5)=r0)∧
(((inS exW.Ins)==0)=false→
false=r0))∧
((relV (exS (2:Int)) exW)=false→
false=r0))∧
((r2==13)=false→
false=r0))∧
((r1==0)=false→
false=r0))):kmy (()) (r0,()):=WPh.of_eq (by kernel_rfl) h
theorem bd8:Callable Try.prog 8:=⟨by rw[Try.func8];kernel_rfl,by rw[Try.func8];show some _≠some _;decide⟩
theorem k1e2:kmy (()) ((true:Bool),()):=by
 have u2:U64 2:=by decide
 have u1:U64 1:=by decide
 have k:∀l a,pk false [] [] [] l a=none∨∃n,pk false [] [] [] l a=some n∧U64 n:=by rw[pk_nil];exact fun _ _=>pkR_u
 refine k1jh ⟨u2,u1,?_⟩
 simp only[k1d7,k13q,pk_nil,exS_ok,exS_not]
 rw[pk_nil]at k
 refine⟨⟨exS_sr 2 u2,exW_wr,k1k0,k⟩,fun _=>⟨⟨exS_sr 1 u1,exW_wr,k1k0,k⟩,fun _=>⟨⟨exS_sr 2 u2,exW_wr⟩,fun _=>⟨by decide,fun _=>⟨by decide,by decide⟩,fun h=> ?_⟩,fun h=> ?_⟩,fun h=> ?_⟩,fun h=> ?_⟩
 ·simp[exW,inS]at h
 ·rw[k17l 2 (by decide)]at h;cases h
 ·simp at h
 ·simp at h
def kyx:Con TB.den:=k57.totR fun x=>((true:Bool),())
theorem k1l4:kyx.Ok Try.prog TB:=Con.ok_tot k57 bd8 fun x=>k1ig (k1e2)
def k37:Con TB.den:=Con.mk0 97 [.one (.d (.int .u64)),.one (.d (.int .i64))] [] (.one (.one (.d (.sl (.int .u8))))) []
abbrev k14h:=HL TB.den (hsT k37.ins (hsOs k37.pre))
abbrev k7w:=HL TB.den (hsV k37.res (hsOs k37.post))
def k75:Cx TB:=⟨inf,[],[],4,[]⟩
def kal:Code:=Try.f97.body.getD .skip
def ki9:List ResultVar:=Try.f97.results.toList
def k1hp (o:k7w):=qS TB k75 21 0 (cB (cB (cB kal))) .no (retTQ TB k75 k37 ki9 o)
def kae:Tm:=⟨[0],[.tip (.int .u8)],[0,1,5,6],[.one (.d (.int .u64)),.one (.d (.int .i64)),.one (.own 0),.one (.d (.int .i64))],1⟩
def kdb (o:k7w) (nx1:NX TB kae) (i:HL TB.den kae.hs):Prop:=WP TB k75 21 0 (cA (cA (cB (cA (cB (cB kal)))))) .no (kae.fill TB i) (qM TB 0 kae nx1 (blockT TB 0 (k1hp o)))
def k1gy (o:k7w):An TB:= .lp [.tok 5 (.int .u8)] kae (kdb o) fun nx1=> .no
def k1ie (o:k7w):An TB:= .nd [] .no [] (.nd [] (.nd [] .no [] (k1gy o)) [] .no)
def kz9 (o:k7w):An TB:= .nd [] .no [] (k1ie o)
def kk2 (x:k14h) (o:k7w):Prop:=WPh TB k75 21 0 kal (kz9 o) (k37.st TB x) (retTQ TB k75 k37 ki9 o)
theorem k1ch (o:k7w):OblH TB k75 21 0 kal (kz9 o) (retTQ TB k75 k37 ki9 o):=
 OblH.ofC (X:=((∀nx i,(kdb o) nx i=(kdb o) nx i)∧(∀nx1:NX TB kae,True)∧True)) (by kernel_rfl) ⟨fun _ _=>rfl,fun _=>trivial,trivial⟩
theorem k1dm {x:k14h} {o:k7w} (h:kk2 x o):k37.Snd Try.prog x o:=
 Con.soundH (c:=k37) (C:=k75) TBok ⟨inf_ok,all_nil,all_nil⟩ mix Try.func97 (show Try.f97.body=some kal by kernel_rfl) (show Try.f97.ntmps=21 by kernel_rfl) (show Try.f97.results.toList=ki9 by kernel_rfl) rfl h (k1ch o)
theorem k1hh {p0:Int} {p1:Int} {r0:List Int} (h:
((([]:List Int)=([]:List Int))∧Md.Loop (p0,p1,(0:Int),(([]:List Int):List Int),()) (kdb (r0,())))):kk2 (p0,p1,()) (r0,()):=WPh.of_eq (by kernel_rfl) h
def kzd (r0:List Int) (k1:Int→Int→List Int→Prop) (s1:Int) (s0:Int) (s6:Int) (g0:List Int):Prop:=
(decide (s6<s1)=true→
g0.length=g0.length∧(g0.length+[IntKind.u8.wrap (Int.tmod s0 256)].length)*1≤140737488355328∧g0.length+[IntKind.u8.wrap (Int.tmod s0 256)].length≤maxLen∧let v1:List Int:=g0++[IntKind.u8.wrap (Int.tmod s0 256)]
(v1=v1)∧k1 (IntKind.u64.wrap (Int.tdiv s0 256):Int) (IntKind.i64.wrap (s6+1):Int) v1)∧
(decide (s6<s1)=false→
g0=r0)
theorem k1et {r0:List Int} {s1:Int} {s0:Int} {s6:Int} {g0:List Int} (inv:Int→Int→List Int→Prop) (μ:Int→Int→List Int→Nat) (h0:inv s0 s6 g0) (hs:∀(s0:Int) (s6:Int) (g0:List Int),inv s0 s6 g0→kzd r0 (fun s0q s6q g0q=>inv s0q s6q g0q∧μ s0q s6q g0q<μ s0 s6 g0) s1 s0 s6 g0):Md.Loop (s0,s1,s6,g0,()) (kdb (r0,())):=
 ⟨⟨fun s:Int×Int×Int×(List Int)×Unit=>(s.2.1=s1)∧inv s.1 s.2.2.1 s.2.2.2.1,fun s:Int×Int×Int×(List Int)×Unit=>μ s.1 s.2.2.1 s.2.2.2.1,⟨rfl,h0⟩,fun(s0p,s1p,s6p,g0p,()) ⟨eq0,hi⟩=>by
  have eq0:s1p=s1:=eq0;subst s1p;exact mpr_of (by kernel_rfl) ((congrArg (fun k=>kzd r0 k s1 s0p s6p g0p) (lpk3 (rfl:s1=s1) inv (fun s0q s6q g0q=>μ s0q s6q g0q<μ s0p s6p g0p))).mpr (hs s0p s6p g0p hi))⟩⟩
theorem bd97:Callable Try.prog 97:=⟨by rw[Try.func97];kernel_rfl,by rw[Try.func97];show some _≠some _;decide⟩
theorem k1bj (p0:Int) (p1:Int) (h:U64 p0∧0≤p1∧p1≤8):kk2 (p0,p1,()) (((dig p1.toNat p0):List Int),()):=by
 obtain⟨h1,h2,h3⟩:=h
 refine k1hh ⟨rfl,k1et (fun n i g=>0≤i∧i≤p1∧U64 n∧n=p0/256^i.toNat∧g=dig i.toNat p0) (fun _ i _=>(p1-i).toNat) ⟨by omega,by omega,h1,by simp,by simp[dig]⟩ ?_⟩
 rintro n i g ⟨g0,g1,g2,g3,rfl⟩
 refine⟨fun h=> ?_,fun h=> ?_⟩
 ·have h:=of_decide_eq_true h
  rw[inc i p1 g0 h (by omega),tmod_nn _ _ g2.1,tdiv_nn _ _ g2.1,u8w,wu (n/256) (by omega) (by omega)]
  refine⟨rfl,?_,?_,rfl,⟨by omega,by omega,⟨by omega,by omega⟩,?_,?_⟩,by omega⟩
  ·simp;omega
  ·simp;unfold maxLen;omega
  ·rw[g3,show(i+1).toNat=i.toNat+1 by omega,Int.ediv_ediv_of_nonneg (Int.le_of_lt (kar _)),Int.pow_succ]
  ·rw[show(i+1).toNat=i.toNat+1 by omega,krt,g3]
   congr 2
   omega
 ·have h:=of_decide_eq_false h
  rw[show i=p1 by omega]
def kge:Con TB.den:=k37.fnR (fun x=>(fun(p0:Int) (p1:Int)=>U64 p0∧0≤p1∧p1≤8) x.1 x.2.1) fun x=>((fun(p0:Int) (p1:Int)=>((dig p1.toNat p0):List Int)) x.1 x.2.1,())
theorem kzi:kge.Ok Try.prog TB:=Con.ok_fn k37 bd97 fun x h=>k1dm (k1bj x.1 x.2.1 h)
def k26:Con TB.den:=Con.mk0 97 [.one (.d (.int .u64)),.one (.d (.int .i64))] [] (.one (.one (.own 0))) [.tip (.int .u8)]
abbrev kvn:=HL TB.den (hsT k26.ins (hsOs k26.pre))
abbrev k5i:=HL TB.den (hsV k26.res (hsOs k26.post))
def k5w:Cx TB:=⟨inf,[],[],4,[]⟩
def k8s:Code:=Try.f97.body.getD .skip
def keo:List ResultVar:=Try.f97.results.toList
def k1a3 (o:k5i):=qS TB k5w 21 0 (cB (cB (cB k8s))) .no (retTQ TB k5w k26 keo o)
def k6t:Tm:=⟨[0],[.tip (.int .u8)],[0,1,5,6],[.one (.d (.int .u64)),.one (.d (.int .i64)),.one (.own 0),.one (.d (.int .i64))],1⟩
def k1c1 (o:k5i) (nx1:NX TB k6t):=qM TB 0 k6t nx1 (blockT TB 0 (k1a3 o))
def kat (o:k5i) (nx1:NX TB k6t) (i:HL TB.den k6t.hs):Prop:=WP TB k5w 21 0 (cA (cA (cB (cA (cB (cB k8s)))))) .no (k6t.fill TB i) (k1c1 o nx1)
def k1b5 (o:k5i):An TB:= .lp [.tok 5 (.int .u8)] k6t (kat o) fun nx1=> .no
def k19y (o:k5i):An TB:= .nd [] .no [] (.nd [] (.nd [] .no [] (k1b5 o)) [] .no)
def kt1 (o:k5i):An TB:= .nd [] .no [] (k19y o)
def kgx (x:kvn) (o:k5i):Prop:=WPh TB k5w 21 0 k8s (kt1 o) (k26.st TB x) (retTQ TB k5w k26 keo o)
theorem k17u (o:k5i):OblH TB k5w 21 0 k8s (kt1 o) (retTQ TB k5w k26 keo o):=
 OblH.ofC (X:=((∀nx i,(kat o) nx i=(kat o) nx i)∧(∀nx1:NX TB k6t,True)∧True)) (by kernel_rfl) ⟨fun _ _=>rfl,fun _=>trivial,trivial⟩
theorem k17r {x:kvn} {o:k5i} (h:kgx x o):k26.Snd Try.prog x o:=
 Con.soundH (c:=k26) (C:=k5w) TBok ⟨inf_ok,all_nil,all_nil⟩ mix Try.func97 (show Try.f97.body=some k8s by kernel_rfl) (show Try.f97.ntmps=21 by kernel_rfl) (show Try.f97.results.toList=keo by kernel_rfl) rfl h (k17u o)
theorem k1b7 {p0:Int} {p1:Int} {e0:List Int} (h:
((([]:List Int)=([]:List Int))∧Md.Loop (p0,p1,(0:Int),(([]:List Int):List Int),()) (kat (e0,())))):kgx (p0,p1,()) (e0,()):=WPh.of_eq (by kernel_rfl) h
def ktr (e0:List Int) (k1:Int→Int→List Int→Prop) (s1:Int) (s0:Int) (s6:Int) (g0:List Int):Prop:=
(decide (s6<s1)=true→
g0.length=g0.length∧(g0.length+[IntKind.u8.wrap (Int.tmod s0 256)].length)*1≤140737488355328∧g0.length+[IntKind.u8.wrap (Int.tmod s0 256)].length≤maxLen∧let v1:List Int:=g0++[IntKind.u8.wrap (Int.tmod s0 256)]
(v1=v1)∧k1 (IntKind.u64.wrap (Int.tdiv s0 256):Int) (IntKind.i64.wrap (s6+1):Int) v1)∧
(decide (s6<s1)=false→
(g0=g0)∧g0=e0)
theorem k19f {e0:List Int} {s1:Int} {s0:Int} {s6:Int} {g0:List Int} (inv:Int→Int→List Int→Prop) (μ:Int→Int→List Int→Nat) (h0:inv s0 s6 g0) (hs:∀(s0:Int) (s6:Int) (g0:List Int),inv s0 s6 g0→ktr e0 (fun s0q s6q g0q=>inv s0q s6q g0q∧μ s0q s6q g0q<μ s0 s6 g0) s1 s0 s6 g0):Md.Loop (s0,s1,s6,g0,()) (kat (e0,())):=
 ⟨⟨fun s:Int×Int×Int×(List Int)×Unit=>(s.2.1=s1)∧inv s.1 s.2.2.1 s.2.2.2.1,fun s:Int×Int×Int×(List Int)×Unit=>μ s.1 s.2.2.1 s.2.2.2.1,⟨rfl,h0⟩,fun(s0p,s1p,s6p,g0p,()) ⟨eq0,hi⟩=>by
  have eq0:s1p=s1:=eq0;subst s1p;exact mpr_of (by kernel_rfl) ((congrArg (fun k=>ktr e0 k s1 s0p s6p g0p) (lpk3 (rfl:s1=s1) inv (fun s0q s6q g0q=>μ s0q s6q g0q<μ s0p s6p g0p))).mpr (hs s0p s6p g0p hi))⟩⟩
theorem k157 (p0:Int) (p1:Int) (h:U64 p0∧0≤p1∧p1≤8):kgx (p0,p1,()) (((dig p1.toNat p0):List Int),()):=by
 obtain⟨h1,h2,h3⟩:=h
 refine k1b7 ⟨rfl,k19f (fun n i g=>0≤i∧i≤p1∧U64 n∧n=p0/256^i.toNat∧g=dig i.toNat p0) (fun _ i _=>(p1-i).toNat) ⟨by omega,by omega,h1,by simp,by simp[dig]⟩ ?_⟩
 rintro n i g ⟨g0,g1,g2,g3,rfl⟩
 refine⟨fun h=> ?_,fun h=> ?_⟩
 ·have h:=of_decide_eq_true h
  rw[inc i p1 g0 h (by omega),tmod_nn _ _ g2.1,tdiv_nn _ _ g2.1,u8w,wu (n/256) (by omega) (by omega)]
  refine⟨rfl,?_,?_,rfl,⟨by omega,by omega,⟨by omega,by omega⟩,?_,?_⟩,by omega⟩
  ·simp;omega
  ·simp;unfold maxLen;omega
  ·rw[g3,show(i+1).toNat=i.toNat+1 by omega,Int.ediv_ediv_of_nonneg (Int.le_of_lt (kar _)),Int.pow_succ]
  ·rw[show(i+1).toNat=i.toNat+1 by omega,krt,g3]
   congr 2
   omega
 ·have h:=of_decide_eq_false h
  exact⟨rfl,by rw[show i=p1 by omega]⟩
def kqq:Con TB.den:=k26.fnR (fun x=>(fun(p0:Int) (p1:Int)=>U64 p0∧0≤p1∧p1≤8) x.1 x.2.1) fun x=>((fun(p0:Int) (p1:Int)=>((dig p1.toNat p0):List Int)) x.1 x.2.1,())
theorem k1am:kqq.Ok Try.prog TB:=Con.ok_fn k26 bd97 fun x h=>k17r (k157 x.1 x.2.1 h)
def kya:Con TB.den:=Con.mk0 59 [.one (.d (.int .i64))] [] (.one (.one (.d (.sl (.int .u8))))) []
abbrev k1fd:=HL TB.den (hsV kya.res (hsOs kya.post))
def k1by:Cx TB:=⟨inf,[kge],[],4,[]⟩
def k1ji:Code:=Try.f59.body.getD .skip
def k1ny:List ResultVar:=Try.f59.results.toList
def kum:Tm:=⟨[],[],[0],[.one (.d (.int .i64))],0⟩
def k1n0 (o:k1fd) (i:HL TB.den kum.hs):Prop:=ghs TB [] (kum.fill TB i) fun s=>WP TB k1by 12 0 (cB (cB k1ji)) .no s (retTQ TB k1by kya k1ny o)
structure k1r2 (o:k1fd) (i:HL TB.den kum.hs):Prop where
 h:k1n0 o i
theorem bd59:Callable Try.prog 59:=⟨by rw[Try.func59];kernel_rfl,by rw[Try.func59];show some _≠some _;decide⟩
def k4a:Con TB.den:=Con.mk0 59 [.one (.d (.int .i64))] [] (.one (.one (.own 0))) [.tip (.int .u8)]
abbrev k16i:=HL TB.den (hsT k4a.ins (hsOs k4a.pre))
abbrev kdv:=HL TB.den (hsV k4a.res (hsOs k4a.post))
def k9w:Cx TB:=⟨inf,[kqq],[],4,[]⟩
def kgj:Code:=Try.f59.body.getD .skip
def kke:List ResultVar:=Try.f59.results.toList
def khz:Tm:=⟨[],[],[0],[.one (.d (.int .i64))],0⟩
def k104 (o:kdv) (i:HL TB.den khz.hs):Prop:=ghs TB [] (khz.fill TB i) fun s=>WP TB k9w 12 0 (cB (cB kgj)) .no s (retTQ TB k9w k4a kke o)
structure k9x (o:kdv) (i:HL TB.den khz.hs):Prop where
 h:k104 o i
def k12t (o:kdv):An TB:= .nd [] .no [] (.jn khz (k9x o) [] .no [] .no)
def kmd (x:k16i) (o:kdv):Prop:=WPh TB k9w 12 0 kgj (k12t o) (k4a.st TB x) (retTQ TB k9w k4a kke o)
theorem k1hr (o:kdv):OblH TB k9w 12 0 kgj (k12t o) (retTQ TB k9w k4a kke o):=
 OblH.ofC (X:=((∀i,(k9x o) i=k104 o i)∧True)) (by kernel_rfl) ⟨fun _=>propext ⟨fun h=>h.1,fun h=>⟨h⟩⟩,trivial⟩
theorem k1i1 {x:k16i} {o:kdv} (h:kmd x o):k4a.Snd Try.prog x o:=
 Con.soundH (c:=k4a) (C:=k9w) TBok ⟨inf_ok,(all_cons k1am all_nil),all_nil⟩ mix Try.func59 (show Try.f59.body=some kgj by kernel_rfl) (show Try.f59.ntmps=12 by kernel_rfl) (show Try.f59.results.toList=kke by kernel_rfl) rfl h (k1hr o)
theorem k1kw {p0:Int} {e0:List Int} (h:
((decide (p0<0)=true→
k9x (e0,()) ((0:Int),()))∧
(decide (p0<0)=false→
(decide (4294967296≤p0)=true→
k9x (e0,()) ((0:Int),()))∧
(decide (4294967296≤p0)=false→
k9x (e0,()) (p0,()))))):kmd (p0,()) (e0,()):=WPh.of_eq (by kernel_rfl) h
theorem k1ax {e0:List Int} {s0:Int} (h:
((U64 (IntKind.u64.wrap s0)∧0≤(4:Int)∧(4:Int)≤8)∧let r1:List Int:=(dig (4:Int).toNat (IntKind.u64.wrap s0))
(r1=r1)∧r1=e0)):k9x (e0,()) (s0,()):=⟨mpr_of (by kernel_rfl) h⟩
theorem k1dl (p0:Int):kmd (p0,()) (((dig 4 (len4 p0)):List Int),()):=by
 have j:∀n,0≤n→n≤4294967295→len4 p0=n→k9x ((dig 4 (len4 p0):List Int),()) (n,()):=by
  intro n h0 h1 e
  refine k1ax ?_
  rw[wu n (by omega) (by omega),e]
  exact⟨⟨⟨h0,by omega⟩,by omega⟩,by trivial,rfl⟩
 refine k1kw ⟨fun h=>j 0 (by omega) (by omega) ?_,fun h=>⟨fun h' =>j 0 (by omega) (by omega) ?_,fun h' =>j p0 ?_ ?_ ?_⟩⟩
 ·have h:=of_decide_eq_true h;exact if_pos (.inl h)
 ·have h' :=of_decide_eq_true h';exact if_pos (.inr (by omega))
 ·have h:=of_decide_eq_false h;omega
 ·have h' :=of_decide_eq_false h';omega
 ·have h:=of_decide_eq_false h;have h' :=of_decide_eq_false h';exact len4_in ⟨by omega,by omega⟩
def kp1:Con TB.den:=k4a.totR fun x=>((fun(p0:Int)=>((dig 4 (len4 p0)):List Int)) x.1,())
theorem k13p:kp1.Ok Try.prog TB:=Con.ok_tot k4a bd59 fun x=>k1i1 (k1dl x.1)
def k5g:Con TB.den:=Con.mk0 61 [.one (.d (.sl (.int .u64)))] [] (.one (.one (.d (.sl (.int .u8))))) []
abbrev k1ao:=HL TB.den (hsT k5g.ins (hsOs k5g.pre))
abbrev kcr:=HL TB.den (hsV k5g.res (hsOs k5g.post))
def k9a:Cx TB:=⟨inf,[kp1,kge],[],4,[]⟩
def kdg:Code:=Try.f61.body.getD .skip
def knr:List ResultVar:=Try.f61.results.toList
def k1na (o:kcr):=qS TB k9a 22 0 (cB (cB (cB kdg))) .no (retTQ TB k9a k5g knr o)
def kdy:Tm:=⟨[0],[.tip (.int .u8)],[0,3,4],[.one (.d (.sl (.int .u64))),.one (.own 0),.one (.d (.int .i64))],1⟩
def khj (o:kcr) (nx1:NX TB kdy) (i:HL TB.den kdy.hs):Prop:=WP TB k9a 22 0 (cA (cA (cB (cA (cB (cB kdg)))))) .no (kdy.fill TB i) (qM TB 0 kdy nx1 (blockT TB 0 (k1na o)))
def k1n7 (o:kcr):An TB:= .nd [] .no [] (.lp [] kdy (khj o) fun nx1=> .no)
def k16l (o:kcr):An TB:= .nd [] .no [] (.nd [] .no [] (.nd [] (k1n7 o) [] .no))
def koz (x:k1ao) (o:kcr):Prop:=WPh TB k9a 22 0 kdg (k16l o) (k5g.st TB x) (retTQ TB k9a k5g knr o)
theorem k1l9 (o:kcr):OblH TB k9a 22 0 kdg (k16l o) (retTQ TB k9a k5g knr o):=
 OblH.ofC (X:=((∀nx i,(khj o) nx i=(khj o) nx i)∧(∀nx1:NX TB kdy,True)∧True)) (by kernel_rfl) ⟨fun _ _=>rfl,fun _=>trivial,trivial⟩
theorem k1jg {x:k1ao} {o:kcr} (h:koz x o):k5g.Snd Try.prog x o:=
 Con.soundH (c:=k5g) (C:=k9a) TBok ⟨inf_ok,(all_cons k13p (all_cons kzi all_nil)),all_nil⟩ mix Try.func61 (show Try.f61.body=some kdg by kernel_rfl) (show Try.f61.ntmps=22 by kernel_rfl) (show Try.f61.results.toList=knr by kernel_rfl) rfl h (k1l9 o)
theorem k1n6 {p0:List Int} {r0:List Int} (h:
(((dig 4 (len4 (p0.length:Int)))=(dig 4 (len4 (p0.length:Int))))∧Md.Loop (p0,(0:Int),((dig 4 (len4 (p0.length:Int))):List Int),()) (khj (r0,())))):koz (p0,()) (r0,()):=WPh.of_eq (by kernel_rfl) h
def k171 (r0:List Int) (k1:Int→List Int→Prop) (s0:List Int) (s4:Int) (g0:List Int):Prop:=
(decide (s4<(s0.length:Int))=true→
(0≤s4)∧s4<(s0.length:Int)∧(U64 (ix s0 s4)∧0≤(8:Int)∧(8:Int)≤8)∧g0.length=g0.length∧(g0.length+(dig (8:Int).toNat (ix s0 s4)).length)*1≤140737488355328∧g0.length+(dig (8:Int).toNat (ix s0 s4)).length≤maxLen∧(g0++(dig (8:Int).toNat (ix s0 s4))=g0++(dig (8:Int).toNat (ix s0 s4)))∧k1 (IntKind.i64.wrap (s4+1):Int) (g0++(dig (8:Int).toNat (ix s0 s4)):List Int))∧
(decide (s4<(s0.length:Int))=false→
g0=r0)
theorem k1lf {r0:List Int} {s0:List Int} {s4:Int} {g0:List Int} (inv:Int→List Int→Prop) (μ:Int→List Int→Nat) (h0:inv s4 g0) (hs:∀(s4:Int) (g0:List Int),inv s4 g0→k171 r0 (fun s4q g0q=>inv s4q g0q∧μ s4q g0q<μ s4 g0) s0 s4 g0):Md.Loop (s0,s4,g0,()) (khj (r0,())):=
 ⟨⟨fun s:(List Int)×Int×(List Int)×Unit=>(s.1=s0)∧inv s.2.1 s.2.2.1,fun s:(List Int)×Int×(List Int)×Unit=>μ s.2.1 s.2.2.1,⟨rfl,h0⟩,fun(s0p,s4p,g0p,()) ⟨eq0,hi⟩=>by
  have eq0:s0p=s0:=eq0;subst s0p;exact mpr_of (by kernel_rfl) ((congrArg (fun k=>k171 r0 k s0 s4p g0p) (lpk2 (rfl:s0=s0) inv (fun s4q g0q=>μ s4q g0q<μ s4p g0p))).mpr (hs s4p g0p hi))⟩⟩
theorem bd61:Callable Try.prog 61:=⟨by rw[Try.func61];kernel_rfl,by rw[Try.func61];show some _≠some _;decide⟩
theorem k1gf (p0:List Int) (h:Us p0∧p0.length≤4294967295):koz (p0,()) (((encL p0):List Int),()):=by
 obtain⟨h1,h2⟩:=h
 refine k1n6 ⟨rfl,k1lf (fun i g=>0≤i∧i≤p0.length∧g=dig 4 (len4 p0.length)++(p0.take i.toNat).flatMap (dig 8)) (fun i _=>(p0.length-i).toNat) ⟨by omega,by omega,by simp⟩ ?_⟩
 rintro i g ⟨g0,g1,rfl⟩
 refine⟨fun h=> ?_,fun h=> ?_⟩
 ·have h:=of_decide_eq_true h
  have hx:=h1 _ (ix_mem p0 i g0 h)
  rw[inc i p0.length g0 h (by omega)]
  have hlen:(dig 4 (len4 p0.length)++(p0.take i.toNat).flatMap (dig 8)).length≤4+8*p0.length:=by simp only[List.length_append,kh,kko,List.length_take];omega
  refine⟨g0,h,⟨hx,by omega⟩,rfl,?_,?_,rfl,⟨by omega,by omega,?_⟩,by omega⟩
  ·rw[kh];omega
  ·rw[kh];unfold maxLen;omega
  ·rw[k16 p0 i g0 h,List.flatMap_append,List.append_assoc]
   simp
 ·have h:=of_decide_eq_false h
  rw[List.take_of_length_le (by omega)]
  rfl
def k149:Con TB.den:=k5g.fnR (fun x=>(fun(p0:List Int)=>Us p0∧p0.length≤4294967295) x.1) fun x=>((fun(p0:List Int)=>((encL p0):List Int)) x.1,())
theorem k1m3:k149.Ok Try.prog TB:=Con.ok_fn k5g bd61 fun x h=>k1jg (k1gf x.1 h)
def k49:Con TB.den:=Con.mk0 19 [.agg [.d (.int .u64),.d (.int .u64),.d (.int .u64),.d (.int .u64)]] [] (.one (.one (.full (.int .u64)))) []
abbrev k11n:=HL TB.den (hsT k49.ins (hsOs k49.pre))
abbrev kkz:=HL TB.den (hsV k49.res (hsOs k49.post))
def kdi:Cx TB:=⟨inf,[],[],4,[]⟩
def kkd:Code:=Try.f19.body.getD .skip
def kp8:List ResultVar:=Try.f19.results.toList
def kzm (o:kkz):An TB:= .no
def kju (x:k11n) (o:kkz):Prop:=WPh TB kdi 12 0 kkd (kzm o) (k49.st TB x) (retTQ TB kdi k49 kp8 o)
theorem k1cn (o:kkz):OblH TB kdi 12 0 kkd (kzm o) (retTQ TB kdi k49 kp8 o):=
 OblH.ofC (X:=True) (by kernel_rfl) trivial
theorem k1d9 {x:k11n} {o:kkz} (h:kju x o):k49.Snd Try.prog x o:=
 Con.soundH (c:=k49) (C:=kdi) TBok ⟨inf_ok,all_nil,all_nil⟩ mix Try.func19 (show Try.f19.body=some kkd by kernel_rfl) (show Try.f19.ntmps=12 by kernel_rfl) (show Try.f19.results.toList=kp8 by kernel_rfl) rfl h (k1cn o)
theorem k1hz {p0:TNote} {r0:List Int} (h:
([p0.Value,p0.Owner,p0.Rho,p0.Blind]=r0)):kju (p0.Value,p0.Owner,p0.Rho,p0.Blind,()) (r0,()):=WPh.of_eq (by kernel_rfl) h
theorem k1bi (p0:TNote):kju (p0.Value,p0.Owner,p0.Rho,p0.Blind,()) (((noteL p0):List Int),()):=by
 exact k1hz rfl
def kw5:Con TB.den:=k49.totR fun x=>((fun(p0:TNote)=>((noteL p0):List Int)) (TNote.mk x.1 x.2.1 x.2.2.1 x.2.2.2.1),())
theorem k1gd:kw5.Ok Try.prog TB:=Con.ok_tot k49 bd19 fun x=>k1d9 (k1bi (TNote.mk x.1 x.2.1 x.2.2.1 x.2.2.2.1))
def k42:Con TB.den:=Con.mk0 60 [.one (.d (.sl (.int .u64)))] [] (.one (.one (.d (.sl (.int .u8))))) []
abbrev k16z:=HL TB.den (hsT k42.ins (hsOs k42.pre))
abbrev k9d:=HL TB.den (hsV k42.res (hsOs k42.post))
def k7q:Cx TB:=⟨inf,[kge],[],4,[]⟩
def kco:Code:=Try.f60.body.getD .skip
def kkb:List ResultVar:=Try.f60.results.toList
def k1ky (o:k9d):=qS TB k7q 19 0 (cB (cB (cB kco))) .no (retTQ TB k7q k42 kkb o)
def kc1:Tm:=⟨[0],[.tip (.int .u8)],[0,3,4],[.one (.d (.sl (.int .u64))),.one (.own 0),.one (.d (.int .i64))],1⟩
def kev (o:k9d) (nx1:NX TB kc1) (i:HL TB.den kc1.hs):Prop:=WP TB k7q 19 0 (cA (cA (cB (cA (cB (cB kco)))))) .no (kc1.fill TB i) (qM TB 0 kc1 nx1 (blockT TB 0 (k1ky o)))
def k1jk (o:k9d):An TB:= .lp [.tok 3 (.int .u8)] kc1 (kev o) fun nx1=> .no
def k1ir (o:k9d):An TB:= .nd [] .no [] (.nd [] (.nd [] .no [] (k1jk o)) [] .no)
def k13a (o:k9d):An TB:= .nd [] .no [] (k1ir o)
def kmz (x:k16z) (o:k9d):Prop:=WPh TB k7q 19 0 kco (k13a o) (k42.st TB x) (retTQ TB k7q k42 kkb o)
theorem k1gq (o:k9d):OblH TB k7q 19 0 kco (k13a o) (retTQ TB k7q k42 kkb o):=
 OblH.ofC (X:=((∀nx i,(kev o) nx i=(kev o) nx i)∧(∀nx1:NX TB kc1,True)∧True)) (by kernel_rfl) ⟨fun _ _=>rfl,fun _=>trivial,trivial⟩
theorem k1hj {x:k16z} {o:k9d} (h:kmz x o):k42.Snd Try.prog x o:=
 Con.soundH (c:=k42) (C:=k7q) TBok ⟨inf_ok,(all_cons kzi all_nil),all_nil⟩ mix Try.func60 (show Try.f60.body=some kco by kernel_rfl) (show Try.f60.ntmps=19 by kernel_rfl) (show Try.f60.results.toList=kkb by kernel_rfl) rfl h (k1gq o)
theorem k1jo {p0:List Int} {r0:List Int} (h:
((([]:List Int)=([]:List Int))∧Md.Loop (p0,(0:Int),(([]:List Int):List Int),()) (kev (r0,())))):kmz (p0,()) (r0,()):=WPh.of_eq (by kernel_rfl) h
def k11i (r0:List Int) (k1:Int→List Int→Prop) (s0:List Int) (s4:Int) (g0:List Int):Prop:=
(decide (s4<(s0.length:Int))=true→
(0≤s4)∧s4<(s0.length:Int)∧(U64 (ix s0 s4)∧0≤(8:Int)∧(8:Int)≤8)∧g0.length=g0.length∧(g0.length+(dig (8:Int).toNat (ix s0 s4)).length)*1≤140737488355328∧g0.length+(dig (8:Int).toNat (ix s0 s4)).length≤maxLen∧(g0++(dig (8:Int).toNat (ix s0 s4))=g0++(dig (8:Int).toNat (ix s0 s4)))∧k1 (IntKind.i64.wrap (s4+1):Int) (g0++(dig (8:Int).toNat (ix s0 s4)):List Int))∧
(decide (s4<(s0.length:Int))=false→
g0=r0)
theorem k1gp {r0:List Int} {s0:List Int} {s4:Int} {g0:List Int} (inv:Int→List Int→Prop) (μ:Int→List Int→Nat) (h0:inv s4 g0) (hs:∀(s4:Int) (g0:List Int),inv s4 g0→k11i r0 (fun s4q g0q=>inv s4q g0q∧μ s4q g0q<μ s4 g0) s0 s4 g0):Md.Loop (s0,s4,g0,()) (kev (r0,())):=
 ⟨⟨fun s:(List Int)×Int×(List Int)×Unit=>(s.1=s0)∧inv s.2.1 s.2.2.1,fun s:(List Int)×Int×(List Int)×Unit=>μ s.2.1 s.2.2.1,⟨rfl,h0⟩,fun(s0p,s4p,g0p,()) ⟨eq0,hi⟩=>by
  have eq0:s0p=s0:=eq0;subst s0p;exact mpr_of (by kernel_rfl) ((congrArg (fun k=>k11i r0 k s0 s4p g0p) (lpk2 (rfl:s0=s0) inv (fun s4q g0q=>μ s4q g0q<μ s4p g0p))).mpr (hs s4p g0p hi))⟩⟩
theorem bd60:Callable Try.prog 60:=⟨by rw[Try.func60];kernel_rfl,by rw[Try.func60];show some _≠some _;decide⟩
theorem k1ct (p0:List Int) (h:Us p0∧p0.length≤4294967295):kmz (p0,()) (((p0.flatMap (dig 8)):List Int),()):=by
 obtain⟨hu,hl⟩:=h
 refine k1jo ⟨rfl,?_⟩
 refine k1gp (fun i g=>0≤i∧i≤p0.length∧g=(p0.take i.toNat).flatMap (dig 8)) (fun i _=>(p0.length-i).toNat) ⟨by omega,by omega,by simp⟩ ?_
 rintro i g ⟨g0,g1,rfl⟩
 have hg:((p0.take i.toNat).flatMap (dig 8)).length≤8*4294967295:=by rw[kft,List.length_take];omega
 have e8:(8:Int).toNat=8:=rfl
 refine⟨fun hh=> ?_,fun hh=> ?_⟩
 ·have hh:=of_decide_eq_true hh
  rw[inc i p0.length g0 hh (by omega)]
  refine⟨g0,hh,⟨hu _ (ix_mem p0 i g0 hh),by omega,by omega⟩,rfl,by rw[kh];omega,by rw[kh];unfold maxLen;omega,rfl,⟨by omega,by omega,?_⟩,by omega⟩
  rw[k16 p0 i g0 hh,List.flatMap_append,e8]
  simp
 ·have hh:=of_decide_eq_false hh
  rw[List.take_of_length_le (by omega)]
def kyq:Con TB.den:=k42.fnR (fun x=>(fun(p0:List Int)=>Us p0∧p0.length≤4294967295) x.1) fun x=>((fun(p0:List Int)=>((p0.flatMap (dig 8)):List Int)) x.1,())
theorem k1lr:kyq.Ok Try.prog TB:=Con.ok_fn k42 bd60 fun x h=>k1hj (k1ct x.1 h)
def k3m:Con TB.den:=Con.mk0 27 [.agg [.d (.sl (.st 0)),.d (.sl (.st 1)),.d (.int .u64)]] [] (.one (.one (.d (.sl (.int .u8))))) []
abbrev k175:=HL TB.den (hsT k3m.ins (hsOs k3m.pre))
abbrev k22:=HL TB.den (hsV k3m.res (hsOs k3m.post))
def k3h:Cx TB:=⟨inf,[kp1,kw5,kyq,k149],[],4,[]⟩
def k5j:Code:=Try.f27.body.getD .skip
def kf4:List ResultVar:=Try.f27.results.toList
def k1ll (o:k22):=qS TB k3h 83 0 (cB (cB (cB (cB (cB k5j))))) .no (retTQ TB k3h k3m kf4 o)
def kby:Tm:=⟨[0,1],[.cells [.d (.sl (.st 0)),.d (.sl (.st 1)),.d (.int .u64)],.tip (.int .u8)],[1,3,7],[.one (.ptr 0 0),.one (.own 1),.one (.d (.int .i64))],3⟩
def kg3 (o:k22) (nx2:NX TB kby) (i:HL TB.den kby.hs):Prop:=WP TB k3h 83 0 (cA (cA (cB (cA (cB (cB (cB (cB k5j)))))))) .no (kby.fill TB i) (qM TB 0 kby nx2 (blockT TB 2 (k1ll o)))
def k11k (o:k22):An TB:= .nd [] .no [] (.lp [] kby (kg3 o) fun nx2=> .no)
def k14q (o:k22):=qS TB k3h 83 0 (cB (cB (cB k5j))) (.nd [] .no [] (.nd [] (k11k o) [] .no)) (retTQ TB k3h k3m kf4 o)
def k2e:Tm:=⟨[0,1],[.cells [.d (.sl (.st 0)),.d (.sl (.st 1)),.d (.int .u64)],.tip (.int .u8)],[1,3,4],[.one (.ptr 0 0),.one (.own 1),.one (.d (.int .i64))],2⟩
def k1in (o:k22) (nx1:NX TB k2e):=qS TB k3h 83 0 (cB (cB (cA (cA (cB (cA (cB (cB k5j)))))))) .no (qM TB 0 k2e nx1 (blockT TB 0 (k14q o)))
def khw:Tm:=⟨[0,1],[.cells [.d (.sl (.st 0)),.d (.sl (.st 1)),.d (.int .u64)],.tip (.int .u8)],[1,3,4,6],[.one (.ptr 0 0),.one (.own 1),.one (.d (.int .i64)),.one (.d (.int .i64))],49⟩
def kzc (o:k22) (nx1:NX TB k2e) (i:HL TB.den khw.hs):Prop:=ghs TB [] (khw.fill TB i) fun s=>WP TB k3h 83 0 (cB (cB (cB (cB (cB (cB (cB (cA (cA (cB (cA (cA (cB (cA (cB (cB k5j)))))))))))))))) .no s (blockT TB 1 (k1in o nx1))
structure kfn (o:k22) (nx1:NX TB k2e) (i:HL TB.den khw.hs):Prop where
 h:kzc o nx1 i
def k1jq (o:k22) (nx1:NX TB k2e):An TB:= .nd [] .no [] (.jn khw (kfn o nx1) [] .no [] .no)
def k1jl (o:k22) (nx1:NX TB k2e):An TB:= .nd [] .no [] (.nd [] .no [] (.nd [] .no [] (k1jq o nx1)))
def kzq (o:k22) (nx1:NX TB k2e):An TB:= .nd [] (.nd [] .no [] (.nd [] .no [] (k1jl o nx1))) [] .no
def kf7 (o:k22) (nx1:NX TB k2e) (i:HL TB.den k2e.hs):Prop:=WP TB k3h 83 0 (cA (cA (cB (cA (cB (cB k5j)))))) (.nd [] .no [] (kzq o nx1)) (k2e.fill TB i) (qM TB 0 k2e nx1 (blockT TB 0 (k14q o)))
def k1fz (o:k22):An TB:= .lp [] k2e (kf7 o) fun nx1=>(.nd [] .no [] (kzq o nx1))
def k1gn (o:k22):An TB:= .nd [] (.nd [] .no [] (k1fz o)) [] (.nd [] .no [] (.nd [] (k11k o) [] .no))
def k11p (o:k22):An TB:= .nd [] .no [] (.nd [] .no [] (k1gn o))
def kmb (x:k175) (o:k22):Prop:=WPh TB k3h 83 0 k5j (k11p o) (k3m.st TB x) (retTQ TB k3h k3m kf4 o)
theorem k1g1 (o:k22):OblH TB k3h 83 0 k5j (k11p o) (retTQ TB k3h k3m kf4 o):=
 OblH.ofC (X:=((∀nx i,(kf7 o) nx i=(kf7 o) nx i)∧(∀nx1:NX TB k2e,((∀i,(kfn o nx1) i=kzc o nx1 i)∧True))∧(∀nx i,(kg3 o) nx i=(kg3 o) nx i)∧(∀nx2:NX TB kby,True)∧True)) (by kernel_rfl) ⟨fun _ _=>rfl,fun _=>⟨fun _=>propext ⟨fun h=>h.1,fun h=>⟨h⟩⟩,trivial⟩,fun _ _=>rfl,fun _=>trivial,trivial⟩
theorem k1ht {x:k175} {o:k22} (h:kmb x o):k3m.Snd Try.prog x o:=
 Con.soundH (c:=k3m) (C:=k3h) TBok ⟨inf_ok,(all_cons k13p (all_cons k1gd (all_cons k1lr (all_cons k1m3 all_nil)))),all_nil⟩ mix Try.func27 (show Try.f27.body=some k5j by kernel_rfl) (show Try.f27.ntmps=83 by kernel_rfl) (show Try.f27.results.toList=kf4 by kernel_rfl) rfl h (k1g1 o)
theorem k1kh {p0:TWitness} {r0:List Int} (h:
(((dig 4 (len4 (p0.Ins.length:Int)))=(dig 4 (len4 (p0.Ins.length:Int))))∧Md.Loop ((0:Int),p0.Ins,p0.Outs,p0.Secret,((dig 4 (len4 (p0.Ins.length:Int))):List Int),()) (kf7 (r0,())))):kmb (p0.Ins,p0.Outs,p0.Secret,()) (r0,()):=WPh.of_eq (by kernel_rfl) h
theorem kt8 {r0:List Int} {nx1:NX TB k2e} {s4:Int} {s6:Int} {h0_0:List TSpent} {h0_1:List TNote} {h0_2:Int} {g1:List Int} (h:
(g1.length=g1.length∧(g1.length+(dig 4 (len4 s6)).length)*1≤140737488355328∧g1.length+(dig 4 (len4 s6)).length≤maxLen∧(g1++(dig 4 (len4 s6))=g1++(dig 4 (len4 s6)))∧nx1 ((IntKind.i64.wrap (s4+1):Int),h0_0,h0_1,h0_2,(g1++(dig 4 (len4 s6)):List Int),()))):kfn (r0,()) nx1 (s4,s6,h0_0,h0_1,h0_2,g1,()):=⟨mpr_of (by kernel_rfl) h⟩
def k11f (r0:List Int) (nx1:NX TB k2e) (k1:Int→List Int→Prop) (h0_0:List TSpent) (h0_1:List TNote) (h0_2:Int) (s4:Int) (g1:List Int):Prop:=
(decide (s4<(h0_0.length:Int))=true→
(0≤s4)∧s4<(h0_0.length:Int)∧let r1:List Int:=(noteL (TNote.mk ((ix h0_0 s4).Note_Value) ((ix h0_0 s4).Note_Owner) ((ix h0_0 s4).Note_Rho) ((ix h0_0 s4).Note_Blind)))
(r1.length+[(ix h0_0 s4).Key].length)*8≤140737488355328∧r1.length+[(ix h0_0 s4).Key].length≤maxLen∧(Us (r1++[(ix h0_0 s4).Key])∧(r1++[(ix h0_0 s4).Key]).length≤4294967295)∧let r2:List Int:=((r1++[(ix h0_0 s4).Key]).flatMap (dig 8))
g1.length=g1.length∧(g1.length+r2.length)*1≤140737488355328∧g1.length+r2.length≤maxLen∧(g1++r2).length=(g1++r2).length∧((g1++r2).length+(dig 4 (len4 ((ix h0_0 s4).Number))).length)*1≤140737488355328∧(g1++r2).length+(dig 4 (len4 ((ix h0_0 s4).Number))).length≤maxLen∧let v3:List Int:=(g1++r2)++(dig 4 (len4 ((ix h0_0 s4).Number)))
v3.length=v3.length∧(v3.length+(dig 4 (len4 ((ix h0_0 s4).Position))).length)*1≤140737488355328∧v3.length+(dig 4 (len4 ((ix h0_0 s4).Position))).length≤maxLen∧let v4:List Int:=v3++(dig 4 (len4 ((ix h0_0 s4).Position)))
(Us ((ix h0_0 s4).Path)∧((ix h0_0 s4).Path).length≤4294967295)∧v4.length=v4.length∧(v4.length+(encL ((ix h0_0 s4).Path)).length)*1≤140737488355328∧v4.length+(encL ((ix h0_0 s4).Path)).length≤maxLen∧((ix h0_0 s4).Dummy=true→
(v4++(encL ((ix h0_0 s4).Path))=v4++(encL ((ix h0_0 s4).Path)))∧kfn (r0,()) nx1 (s4,(1:Int),h0_0,h0_1,h0_2,(v4++(encL ((ix h0_0 s4).Path)):List Int),()))∧
((ix h0_0 s4).Dummy=false→
(v4++(encL ((ix h0_0 s4).Path))=v4++(encL ((ix h0_0 s4).Path)))∧kfn (r0,()) nx1 (s4,(0:Int),h0_0,h0_1,h0_2,(v4++(encL ((ix h0_0 s4).Path)):List Int),())))∧
(decide (s4<(h0_0.length:Int))=false→
g1.length=g1.length∧(g1.length+(dig 4 (len4 (h0_1.length:Int))).length)*1≤140737488355328∧g1.length+(dig 4 (len4 (h0_1.length:Int))).length≤maxLen∧(g1++(dig 4 (len4 (h0_1.length:Int)))=g1++(dig 4 (len4 (h0_1.length:Int))))∧Md.Loop ((0:Int),h0_0,h0_1,h0_2,(g1++(dig 4 (len4 (h0_1.length:Int))):List Int),()) (kg3 (r0,())))
theorem k1gj {r0:List Int} {h0_0:List TSpent} {h0_1:List TNote} {h0_2:Int} {s4:Int} {g1:List Int} (inv:Int→List Int→Prop) (μ:Int→List Int→Nat) (h0:inv s4 g1) (hs:∀(s4:Int) (g1:List Int),inv s4 g1→k11f r0 (fun s:Int×(List TSpent)×(List TNote)×Int×(List Int)×Unit=>((s.2.1=h0_0∧s.2.2.1=h0_1∧s.2.2.2.1=h0_2)∧inv s.1 s.2.2.2.2.1)∧μ s.1 s.2.2.2.2.1<μ s4 g1) (fun s4q g1q=>inv s4q g1q∧μ s4q g1q<μ s4 g1) h0_0 h0_1 h0_2 s4 g1):Md.Loop (s4,h0_0,h0_1,h0_2,g1,()) (kf7 (r0,())):=
 ⟨⟨fun s:Int×(List TSpent)×(List TNote)×Int×(List Int)×Unit=>(s.2.1=h0_0∧s.2.2.1=h0_1∧s.2.2.2.1=h0_2)∧inv s.1 s.2.2.2.2.1,fun s:Int×(List TSpent)×(List TNote)×Int×(List Int)×Unit=>μ s.1 s.2.2.2.2.1,⟨⟨rfl,rfl,rfl⟩,h0⟩,fun(s4p,h0_0p,h0_1p,h0_2p,g1p,()) ⟨⟨eq0,eq1,eq2⟩,hi⟩=>by
  have eq0:h0_0p=h0_0:=eq0;subst h0_0p;have eq1:h0_1p=h0_1:=eq1;subst h0_1p;have eq2:h0_2p=h0_2:=eq2;subst h0_2p;exact mpr_of (by kernel_rfl) ((congrArg (fun k=>k11f r0 (fun s:Int×(List TSpent)×(List TNote)×Int×(List Int)×Unit=>((s.2.1=h0_0∧s.2.2.1=h0_1∧s.2.2.2.1=h0_2)∧inv s.1 s.2.2.2.2.1)∧μ s.1 s.2.2.2.2.1<μ s4p g1p) k h0_0 h0_1 h0_2 s4p g1p) (lpk2 (⟨rfl,rfl,rfl⟩:h0_0=h0_0∧h0_1=h0_1∧h0_2=h0_2) inv (fun s4q g1q=>μ s4q g1q<μ s4p g1p))).mpr (hs s4p g1p hi))⟩⟩
def k136 (r0:List Int) (k2:Int→List Int→Prop) (h0_0:List TSpent) (h0_1:List TNote) (h0_2:Int) (s7:Int) (g1:List Int):Prop:=
(decide (s7<(h0_1.length:Int))=true→
(0≤s7)∧s7<(h0_1.length:Int)∧(Us (noteL (ix h0_1 s7))∧(noteL (ix h0_1 s7)).length≤4294967295)∧g1.length=g1.length∧(g1.length+((noteL (ix h0_1 s7)).flatMap (dig 8)).length)*1≤140737488355328∧g1.length+((noteL (ix h0_1 s7)).flatMap (dig 8)).length≤maxLen∧let v5:List Int:=g1++((noteL (ix h0_1 s7)).flatMap (dig 8))
(v5=v5)∧k2 (IntKind.i64.wrap (s7+1):Int) v5)∧
(decide (s7<(h0_1.length:Int))=false→
(Us [h0_2]∧[h0_2].length≤4294967295)∧g1.length=g1.length∧(g1.length+([h0_2].flatMap (dig 8)).length)*1≤140737488355328∧g1.length+([h0_2].flatMap (dig 8)).length≤maxLen∧g1++([h0_2].flatMap (dig 8))=r0)
theorem k1h3 {r0:List Int} {h0_0:List TSpent} {h0_1:List TNote} {h0_2:Int} {s7:Int} {g1:List Int} (inv:Int→List Int→Prop) (μ:Int→List Int→Nat) (h0:inv s7 g1) (hs:∀(s7:Int) (g1:List Int),inv s7 g1→k136 r0 (fun s7q g1q=>inv s7q g1q∧μ s7q g1q<μ s7 g1) h0_0 h0_1 h0_2 s7 g1):Md.Loop (s7,h0_0,h0_1,h0_2,g1,()) (kg3 (r0,())):=
 ⟨⟨fun s:Int×(List TSpent)×(List TNote)×Int×(List Int)×Unit=>(s.2.1=h0_0∧s.2.2.1=h0_1∧s.2.2.2.1=h0_2)∧inv s.1 s.2.2.2.2.1,fun s:Int×(List TSpent)×(List TNote)×Int×(List Int)×Unit=>μ s.1 s.2.2.2.2.1,⟨⟨rfl,rfl,rfl⟩,h0⟩,fun(s7p,h0_0p,h0_1p,h0_2p,g1p,()) ⟨⟨eq0,eq1,eq2⟩,hi⟩=>by
  have eq0:h0_0p=h0_0:=eq0;subst h0_0p;have eq1:h0_1p=h0_1:=eq1;subst h0_1p;have eq2:h0_2p=h0_2:=eq2;subst h0_2p;exact mpr_of (by kernel_rfl) ((congrArg (fun k=>k136 r0 k h0_0 h0_1 h0_2 s7p g1p) (lpk2 (⟨rfl,rfl,rfl⟩:h0_0=h0_0∧h0_1=h0_1∧h0_2=h0_2) inv (fun s7q g1q=>μ s7q g1q<μ s7p g1p))).mpr (hs s7p g1p hi))⟩⟩
theorem bd27:Callable Try.prog 27:=⟨by rw[Try.func27];kernel_rfl,by rw[Try.func27];show some _≠some _;decide⟩
theorem k1cm (p0:TWitness) (h:WQ p0∧rightV p0=true):kmb (p0.Ins,p0.Outs,p0.Secret,()) (((encW p0):List Int),()):=by
 obtain⟨h,e⟩:=h
 obtain⟨v1,v2,v3,v4,v5⟩:=k92.1 e
 refine k1kh ⟨rfl,?_⟩
 refine k1gj (fun i g=>0≤i∧i≤p0.Ins.length∧g=dig 4 (len4 (p0.Ins.length:Int))++(p0.Ins.take i.toNat).flatMap encSp) (fun i _=>(p0.Ins.length-i).toNat) ⟨by omega,by omega,by simp⟩ ?_
 rintro i g ⟨g0,g1,rfl⟩
 have hle:=k6f encSp 200 (p0.Ins.take i.toNat) fun x hx=>by
  have:=(k7m.1 (v4 x (List.mem_of_mem_take hx))).2.2.2.2.2.2.1
  rw[k130];omega
 rw[List.length_take]at hle
 have hgl:(dig 4 (len4 (p0.Ins.length:Int))++(p0.Ins.take i.toNat).flatMap encSp).length≤1000:=by
  rw[List.length_append,kh];omega
 refine⟨fun hh=> ?_,fun hh=> ?_⟩
 ·have hh:=of_decide_eq_true hh
  have hm:=ix_mem p0.Ins i g0 hh
  have hx:=h.i _ hm
  obtain⟨w1,w2,w3,w4,w5,w6,w7,w8⟩:=k7m.1 (v4 _ hm)
  have hx1:NR (noteOf (ix p0.Ins i)):=hx.n
  have eu:(noteL (noteOf (ix p0.Ins i))++[(ix p0.Ins i).Key]).flatMap (dig 8)=encN (noteOf (ix p0.Ins i))++dig 8 (ix p0.Ins i).Key:=by rw[List.flatMap_append,k1bw];simp
  have hlen:(((((dig 4 (len4 (p0.Ins.length:Int))++(p0.Ins.take i.toNat).flatMap encSp)++(noteL (noteOf (ix p0.Ins i))++[(ix p0.Ins i).Key]).flatMap (dig 8))++dig 4 (len4 (ix p0.Ins i).Number))++dig 4 (len4 (ix p0.Ins i).Position))++encL (ix p0.Ins i).Path).length≤1300:=by
   rw[eu];simp only[List.length_append,kh,ka1,kx1]at hgl ⊢;omega
  have hinv:∀d:Int,(d=if(ix p0.Ins i).Dummy=true then 1 else 0)→(0≤i+1∧i+1≤p0.Ins.length∧((((((dig 4 (len4 (p0.Ins.length:Int))++(p0.Ins.take i.toNat).flatMap encSp)++(noteL (noteOf (ix p0.Ins i))++[(ix p0.Ins i).Key]).flatMap (dig 8))++dig 4 (len4 (ix p0.Ins i).Number))++dig 4 (len4 (ix p0.Ins i).Position))++encL (ix p0.Ins i).Path)++dig 4 (len4 d))=dig 4 (len4 (p0.Ins.length:Int))++(p0.Ins.take (i+1).toNat).flatMap encSp)∧(p0.Ins.length-(i+1)).toNat<(p0.Ins.length-i).toNat:=by
   rintro d rfl
   refine⟨⟨by omega,by omega,?_⟩,by omega⟩
   rw[k16 p0.Ins i g0 hh,eu,List.flatMap_append]
   simp[encSp,List.append_assoc]
  have hus:Us (noteL (noteOf (ix p0.Ins i))++[(ix p0.Ins i).Key]):=by
   intro y hy
   simp only[noteL,List.cons_append,List.nil_append,List.mem_cons,List.not_mem_nil,or_false]at hy
   rcases hy with rfl|rfl|rfl|rfl|rfl
   ·exact hx1.v
   ·exact hx1.o
   ·exact hx1.r
   ·exact hx1.b
   ·exact hx.k
  have hul:((noteL (noteOf (ix p0.Ins i))++[(ix p0.Ins i).Key]).flatMap (dig 8)).length=40:=by rw[kft];simp[noteL]
  refine⟨g0,hh,by show((noteL (noteOf (ix p0.Ins i))).length+1)*8≤_;simp[noteL],by show(noteL (noteOf (ix p0.Ins i))).length+1≤_;simp[noteL,maxLen],⟨hus,by simp[noteL]⟩,rfl,?_,?_,rfl,?_,?_,rfl,?_,?_,⟨hx.pa,by omega⟩,rfl,?_,?_,fun e=>⟨rfl,kt8 ⟨rfl,?_,?_,rfl,by rw[inc i p0.Ins.length g0 hh (by omega)];exact⟨⟨⟨rfl,rfl,rfl⟩,(hinv _ (by rw[if_pos e])).1⟩,(hinv 1 (by rw[if_pos e])).2⟩⟩⟩,
   fun e=>⟨rfl,kt8 ⟨rfl,?_,?_,rfl,by rw[inc i p0.Ins.length g0 hh (by omega)];exact⟨⟨⟨rfl,rfl,rfl⟩,(hinv _ (by rw[if_neg (by rw[e];decide)])).1⟩,(hinv 0 (by rw[if_neg (by rw[e];decide)])).2⟩⟩⟩⟩
  all_goals
   simp only[List.length_append,kh,ka1,kx1,hul,noteOf,maxLen]at hgl hlen hul ⊢
   omega
 ·have hh:=of_decide_eq_false hh
  rw[List.take_of_length_le (by omega)]at hgl ⊢
  refine⟨rfl,by rw[kh];omega,by rw[kh];unfold maxLen;omega,rfl,?_⟩
  refine k1h3 (fun i g=>0≤i∧i≤p0.Outs.length∧g=(dig 4 (len4 (p0.Ins.length:Int))++p0.Ins.flatMap encSp)++dig 4 (len4 (p0.Outs.length:Int))++(p0.Outs.take i.toNat).flatMap encN) (fun i _=>(p0.Outs.length-i).toNat) ⟨by omega,by omega,by simp⟩ ?_
  rintro i g ⟨g0,g1,rfl⟩
  have hle:=k6f encN 32 (p0.Outs.take i.toNat) fun x hx=>by rw[ka1];omega
  rw[List.length_take]at hle
  have hgl2:((dig 4 (len4 (p0.Ins.length:Int))++p0.Ins.flatMap encSp)++dig 4 (len4 (p0.Outs.length:Int))++(p0.Outs.take i.toNat).flatMap encN).length≤2000:=by
   rw[List.length_append,List.length_append,kh];omega
  refine⟨fun hh=> ?_,fun hh=> ?_⟩
  ·have hh:=of_decide_eq_true hh
   have hm:=ix_mem p0.Outs i g0 hh
   have hx1:NR (ix p0.Outs i):=h.o _ hm
   have hus:Us (noteL (ix p0.Outs i)):=by
    intro y hy
    simp only[noteL,List.mem_cons,List.not_mem_nil,or_false]at hy
    rcases hy with rfl|rfl|rfl|rfl
    ·exact hx1.v
    ·exact hx1.o
    ·exact hx1.r
    ·exact hx1.b
   have hul:((noteL (ix p0.Outs i)).flatMap (dig 8)).length=32:=by rw[kft];simp[noteL]
   rw[inc i p0.Outs.length g0 hh (by omega)]
   refine⟨g0,hh,⟨hus,by show(noteL (ix p0.Outs i)).length≤_;simp[noteL]⟩,rfl,?_,?_,rfl,⟨by omega,by omega,?_⟩,by omega⟩
   ·show(_+((noteL (ix p0.Outs i)).flatMap (dig 8)).length)*1≤_
    omega
   ·show _+((noteL (ix p0.Outs i)).flatMap (dig 8)).length≤_
    unfold maxLen;omega
   ·rw[k16 p0.Outs i g0 hh,List.flatMap_append]
    show _++(noteL (ix p0.Outs i)).flatMap (dig 8)=_
    rw[k1bw]
    simp[List.append_assoc]
  ·have hh:=of_decide_eq_false hh
   rw[List.take_of_length_le (by omega)]at hgl2 ⊢
   have hs:Us [p0.Secret]:=by intro y hy;rw[List.mem_singleton.1 hy];exact h.s
   refine⟨⟨hs,by simp⟩,rfl,by simp only[kft,List.length_singleton];omega,by simp only[kft,List.length_singleton];unfold maxLen;omega,?_⟩
   simp[encW,List.append_assoc]
def kz5:Con TB.den:=k3m.fnR (fun x=>(fun(p0:TWitness)=>WQ p0∧rightV p0=true) (TWitness.mk x.1 x.2.1 x.2.2.1)) fun x=>((fun(p0:TWitness)=>((encW p0):List Int)) (TWitness.mk x.1 x.2.1 x.2.2.1),())
theorem k1j3:kz5.Ok Try.prog TB:=Con.ok_fn k3m bd27 fun x h=>k1ht (k1cm (TWitness.mk x.1 x.2.1 x.2.2.1) h)
def k50:Con TB.den:=Con.mk0 37 [.agg [.d (.int .u64),.d (.int .u64),.d (.int .u64),.d (.int .u64),.d (.int .u64),.d (.int .i64),.d (.int .i64),.d (.sl (.int .u64)),.d (.bool)],.one (.d (.int .i64))] [] (.one (.one (.d (.bool)))) []
abbrev k17h:=HL TB.den (hsT k50.ins (hsOs k50.pre))
abbrev knd:=HL TB.den (hsV k50.res (hsOs k50.post))
def kg4:Cx TB:=⟨inf,[kib,kek,kiv],[],4,[]⟩
def kn5:Code:=Try.f37.body.getD .skip
def kqz:List ResultVar:=Try.f37.results.toList
def k12r (o:knd):An TB:= .no
def kma (x:k17h) (o:knd):Prop:=WPh TB kg4 47 0 kn5 (k12r o) (k50.st TB x) (retTQ TB kg4 k50 kqz o)
theorem k1gh (o:knd):OblH TB kg4 47 0 kn5 (k12r o) (retTQ TB kg4 k50 kqz o):=
 OblH.ofC (X:=True) (by kernel_rfl) trivial
theorem k1gc {x:k17h} {o:knd} (h:kma x o):k50.Snd Try.prog x o:=
 Con.soundH (c:=k50) (C:=kg4) TBok ⟨inf_ok,(all_cons kro (all_cons km9 (all_cons ktn all_nil))),all_nil⟩ mix Try.func37 (show Try.f37.body=some kn5 by kernel_rfl) (show Try.f37.ntmps=47 by kernel_rfl) (show Try.f37.results.toList=kqz by kernel_rfl) rfl h (k1gh o)
theorem k1jx {p0:TSpent} {p1:Int} {r0:Bool} (h:
(let r1:Bool:=(noteV (TNote.mk p0.Note_Value p0.Note_Owner p0.Note_Rho p0.Note_Blind))
(r1=true→
((decide (p0.Key<18446744069414584321))=true→
(decide (0≤p0.Number)=true→
(decide (p0.Number<4)=true→
(((p0.Path.length:Int)==p1)=true→
(p0.Path.length≤9223372036854775807)∧let r2:Bool:=(p0.Path.all (fun x=>decide (x<18446744069414584321)))
(r2=true→
(decide (0≤p0.Position)=true→
(0≤p1)∧decide (p0.Position<(ishl .i64 1 p1))=r0)∧
(decide (0≤p0.Position)=false→
false=r0))∧
(r2=false→
false=r0))∧
(((p0.Path.length:Int)==p1)=false→
false=r0))∧
(decide (p0.Number<4)=false→
false=r0))∧
(decide (0≤p0.Number)=false→
false=r0))∧
((decide (p0.Key<18446744069414584321))=false→
false=r0))∧
(r1=false→
false=r0))):kma (p0.Note_Value,p0.Note_Owner,p0.Note_Rho,p0.Note_Blind,p0.Key,p0.Number,p0.Position,p0.Path,p0.Dummy,p1,()) (r0,()):=WPh.of_eq (by kernel_rfl) h
theorem bd37:Callable Try.prog 37:=⟨by rw[Try.func37];kernel_rfl,by rw[Try.func37];show some _≠some _;decide⟩
theorem k1ej (p0:TSpent) (p1:Int) (h:p0.Path.length≤9223372036854775807):kma (p0.Note_Value,p0.Note_Owner,p0.Note_Rho,p0.Note_Blind,p0.Key,p0.Number,p0.Position,p0.Path,p0.Dummy,p1,()) (((inpV p0 p1):Bool),()):=by
 refine k1jx ?_
 unfold inpV noteOf allB
 have e2:(((p0.Path.length:Int)==p1)=true)↔(p0.Path.length:Int)=p1:=by simp
 have e3:(decide ((p0.Path.length:Int)=p1))=((p0.Path.length:Int)==p1):=by rw[Bool.eq_iff_iff];simp
 rw[e3]
 refine⟨fun h1=> ?_,fun h1=>by rw[h1];rfl⟩
 rw[h1]
 refine⟨fun h2=> ?_,fun h2=>by rw[h2];rfl⟩
 rw[h2]
 refine⟨fun h3=> ?_,fun h3=>by rw[h3];rfl⟩
 rw[h3]
 refine⟨fun h4=> ?_,fun h4=>by rw[h4];rfl⟩
 rw[h4]
 refine⟨fun h5=> ?_,fun h5=>by rw[h5];rfl⟩
 rw[h5]
 have h5:=e2.1 h5
 refine⟨h,fun h6=> ?_,fun h6=>by rw[h6];rfl⟩
 rw[h6]
 refine⟨fun h7=> ?_,fun h7=>by rw[h7];rfl⟩
 rw[h7]
 exact⟨by omega,rfl⟩
def kze:Con TB.den:=k50.fnR (fun x=>(fun(p0:TSpent) (p1:Int)=>p0.Path.length≤9223372036854775807) (TSpent.mk x.1 x.2.1 x.2.2.1 x.2.2.2.1 x.2.2.2.2.1 x.2.2.2.2.2.1 x.2.2.2.2.2.2.1 x.2.2.2.2.2.2.2.1 x.2.2.2.2.2.2.2.2.1) x.2.2.2.2.2.2.2.2.2.1) fun x=>((fun(p0:TSpent) (p1:Int)=>((inpV p0 p1):Bool)) (TSpent.mk x.1 x.2.1 x.2.2.1 x.2.2.2.1 x.2.2.2.2.1 x.2.2.2.2.2.1 x.2.2.2.2.2.2.1 x.2.2.2.2.2.2.2.1 x.2.2.2.2.2.2.2.2.1) x.2.2.2.2.2.2.2.2.2.1,())
theorem k1iu:kze.Ok Try.prog TB:=Con.ok_fn k50 bd37 fun x h=>k1gc (k1ej (TSpent.mk x.1 x.2.1 x.2.2.1 x.2.2.2.1 x.2.2.2.2.1 x.2.2.2.2.2.1 x.2.2.2.2.2.2.1 x.2.2.2.2.2.2.2.1 x.2.2.2.2.2.2.2.2.1) x.2.2.2.2.2.2.2.2.2.1 h)
def k46:Con TB.den:=Con.mk0 38 [.one (.d (.sl (.st 1)))] [] (.one (.one (.d (.bool)))) []
abbrev k16v:=HL TB.den (hsT k46.ins (hsOs k46.pre))
abbrev kbb:=HL TB.den (hsV k46.res (hsOs k46.post))
def k88:Cx TB:=⟨inf,[kib],[],4,[]⟩
def kc7:Code:=Try.f38.body.getD .skip
def kkm:List ResultVar:=Try.f38.results.toList
def k1le (o:kbb):=qS TB k88 16 0 (cB (cB kc7)) .no (retTQ TB k88 k46 kkm o)
def kbj:Tm:=⟨[],[],[0,3],[.one (.d (.sl (.st 1))),.one (.d (.int .i64))],0⟩
def kfj (o:kbb) (nx1:NX TB kbj) (i:HL TB.den kbj.hs):Prop:=WP TB k88 16 0 (cA (cA (cB (cA (cB kc7))))) .no (kbj.fill TB i) (qM TB 0 kbj nx1 (blockT TB 0 (k1le o)))
def k1k5 (o:kbb):An TB:= .nd [] .no [] (.lp [] kbj (kfj o) fun nx1=> .no)
def k14n (o:kbb):An TB:= .nd [] .no [] (.nd [] (k1k5 o) [] .no)
def kn2 (x:k16v) (o:kbb):Prop:=WPh TB k88 16 0 kc7 (k14n o) (k46.st TB x) (retTQ TB k88 k46 kkm o)
theorem k1gx (o:kbb):OblH TB k88 16 0 kc7 (k14n o) (retTQ TB k88 k46 kkm o):=
 OblH.ofC (X:=((∀nx i,(kfj o) nx i=(kfj o) nx i)∧(∀nx1:NX TB kbj,True)∧True)) (by kernel_rfl) ⟨fun _ _=>rfl,fun _=>trivial,trivial⟩
theorem k1hk {x:k16v} {o:kbb} (h:kn2 x o):k46.Snd Try.prog x o:=
 Con.soundH (c:=k46) (C:=k88) TBok ⟨inf_ok,(all_cons kro all_nil),all_nil⟩ mix Try.func38 (show Try.f38.body=some kc7 by kernel_rfl) (show Try.f38.ntmps=16 by kernel_rfl) (show Try.f38.results.toList=kkm by kernel_rfl) rfl h (k1gx o)
theorem k1l1 {p0:List TNote} {r0:Bool} (h:
(Md.Loop (p0,(0:Int),()) (kfj (r0,())))):kn2 (p0,()) (r0,()):=WPh.of_eq (by kernel_rfl) h
def k11h (r0:Bool) (k1:Int→Prop) (s0:List TNote) (s3:Int):Prop:=
(decide (s3<(s0.length:Int))=true→
(0≤s3)∧s3<(s0.length:Int)∧((!(noteV (ix s0 s3)))=true→
false=r0)∧
((!(noteV (ix s0 s3)))=false→
k1 (IntKind.i64.wrap (s3+1):Int)))∧
(decide (s3<(s0.length:Int))=false→
true=r0)
theorem k1i3 {r0:Bool} {s0:List TNote} {s3:Int} (inv:Int→Prop) (μ:Int→Nat) (h0:inv s3) (hs:∀(s3:Int),inv s3→k11h r0 (fun s3q=>inv s3q∧μ s3q<μ s3) s0 s3):Md.Loop (s0,s3,()) (kfj (r0,())):=
 ⟨⟨fun s:(List TNote)×Int×Unit=>(s.1=s0)∧inv s.2.1,fun s:(List TNote)×Int×Unit=>μ s.2.1,⟨rfl,h0⟩,fun(s0p,s3p,()) ⟨eq0,hi⟩=>by
  have eq0:s0p=s0:=eq0;subst s0p;exact mpr_of (by kernel_rfl) ((congrArg (fun k=>k11h r0 k s0 s3p) (lpk1 (rfl:s0=s0) inv (fun s3q=>μ s3q<μ s3p))).mpr (hs s3p hi))⟩⟩
theorem bd38:Callable Try.prog 38:=⟨by rw[Try.func38];kernel_rfl,by rw[Try.func38];show some _≠some _;decide⟩
theorem k1dn (p0:List TNote) (h:p0.length≤9223372036854775807):kn2 (p0,()) (((p0.all noteV):Bool),()):=by
 refine k1l1 (k1i3 (AllI noteV p0) (fun i=>(p0.length-i).toNat) AllI.start ?_)
 intro i hi
 refine⟨fun hh=> ?_,fun hh=>(hi.done (of_decide_eq_false hh)).symm⟩
 have hh:=of_decide_eq_true hh
 exact⟨hi.1,hh,fun e=>(hi.bad hh (by simpa using e)).symm,fun e=>hi.next hh (by omega) (by simpa using e)⟩
def k102:Con TB.den:=k46.fnR (fun x=>(fun(p0:List TNote)=>p0.length≤9223372036854775807) x.1) fun x=>((fun(p0:List TNote)=>((p0.all noteV):Bool)) x.1,())
theorem k1k2:k102.Ok Try.prog TB:=Con.ok_fn k46 bd38 fun x h=>k1hk (k1dn x.1 h)
def k47:Con TB.den:=Con.mk0 25 [.agg [.d (.sl (.st 0)),.d (.sl (.st 1)),.d (.int .u64)]] [] (.one (.one (.d (.bool)))) []
abbrev k16j:=HL TB.den (hsT k47.ins (hsOs k47.pre))
abbrev kb0:=HL TB.den (hsV k47.res (hsOs k47.post))
def k86:Cx TB:=⟨inf,[kek,kze,k102],[],4,[]⟩
def kc3:Code:=Try.f25.body.getD .skip
def kl1:List ResultVar:=Try.f25.results.toList
def k1l0 (o:kb0):=qS TB k86 57 0 (cB (cB (cB kc3))) .no (retTQ TB k86 k47 kl1 o)
def kca:Tm:=⟨[0],[.cells [.d (.sl (.st 0)),.d (.sl (.st 1)),.d (.int .u64)]],[1,3],[.one (.ptr 0 0),.one (.d (.int .i64))],1⟩
def kf1 (o:kb0) (nx1:NX TB kca) (i:HL TB.den kca.hs):Prop:=WP TB k86 57 0 (cA (cA (cB (cA (cB (cB kc3)))))) .no (kca.fill TB i) (qM TB 0 kca nx1 (blockT TB 0 (k1l0 o)))
def k1la (o:kb0):An TB:= .nd [] .no [] (.lp [] kca (kf1 o) fun nx1=> .no)
def k14l (o:kb0):An TB:= .nd [] .no [] (.nd [] .no [] (.nd [] (k1la o) [] .no))
def kmi (x:k16j) (o:kb0):Prop:=WPh TB k86 57 0 kc3 (k14l o) (k47.st TB x) (retTQ TB k86 k47 kl1 o)
theorem k1he (o:kb0):OblH TB k86 57 0 kc3 (k14l o) (retTQ TB k86 k47 kl1 o):=
 OblH.ofC (X:=((∀nx i,(kf1 o) nx i=(kf1 o) nx i)∧(∀nx1:NX TB kca,True)∧True)) (by kernel_rfl) ⟨fun _ _=>rfl,fun _=>trivial,trivial⟩
theorem k1g7 {x:k16j} {o:kb0} (h:kmi x o):k47.Snd Try.prog x o:=
 Con.soundH (c:=k47) (C:=k86) TBok ⟨inf_ok,(all_cons km9 (all_cons k1iu (all_cons k1k2 all_nil))),all_nil⟩ mix Try.func25 (show Try.f25.body=some kc3 by kernel_rfl) (show Try.f25.ntmps=57 by kernel_rfl) (show Try.f25.results.toList=kl1 by kernel_rfl) rfl h (k1he o)
theorem k1kk {p0:TWitness} {r0:Bool} (h:
((decide (4<(p0.Ins.length:Int))=true→
false=r0)∧
(decide (4<(p0.Ins.length:Int))=false→
(decide (4<(p0.Outs.length:Int))=true→
false=r0)∧
(decide (4<(p0.Outs.length:Int))=false→
let r1:Bool:=(decide (p0.Secret<18446744069414584321))
((!r1)=true→
false=r0)∧
((!r1)=false→
Md.Loop ((0:Int),p0.Ins,p0.Outs,p0.Secret,()) (kf1 (r0,()))))))):kmi (p0.Ins,p0.Outs,p0.Secret,()) (r0,()):=WPh.of_eq (by kernel_rfl) h
def k148 (r0:Bool) (k1:Int→Prop) (h0_0:List TSpent) (h0_1:List TNote) (h0_2:Int) (s3:Int):Prop:=
(decide (s3<(h0_0.length:Int))=true→
(0≤s3)∧s3<(h0_0.length:Int)∧let v2:Bool:=decide (12<(((ix h0_0 s3).Path).length:Int))
(v2=true→
false=r0)∧
(v2=false→
(decide (((ix h0_0 s3).Position)<0)=true→
false=r0)∧
(decide (((ix h0_0 s3).Position)<0)=false→
(decide (4096≤((ix h0_0 s3).Position))=true→
false=r0)∧
(decide (4096≤((ix h0_0 s3).Position))=false→
((TSpent.mk ((ix h0_0 s3).Note_Value) ((ix h0_0 s3).Note_Owner) ((ix h0_0 s3).Note_Rho) ((ix h0_0 s3).Note_Blind) ((ix h0_0 s3).Key) ((ix h0_0 s3).Number) 0 ((ix h0_0 s3).Path) ((ix h0_0 s3).Dummy)).Path.length≤9223372036854775807)∧let r3:Bool:=(inpV (TSpent.mk ((ix h0_0 s3).Note_Value) ((ix h0_0 s3).Note_Owner) ((ix h0_0 s3).Note_Rho) ((ix h0_0 s3).Note_Blind) ((ix h0_0 s3).Key) ((ix h0_0 s3).Number) 0 ((ix h0_0 s3).Path) ((ix h0_0 s3).Dummy)) (((ix h0_0 s3).Path).length:Int))
((!r3)=true→
false=r0)∧
((!r3)=false→
k1 (IntKind.i64.wrap (s3+1):Int))))))∧
(decide (s3<(h0_0.length:Int))=false→
(h0_1.length≤9223372036854775807)∧(h0_1.all noteV)=r0)
theorem k1ge {r0:Bool} {h0_0:List TSpent} {h0_1:List TNote} {h0_2:Int} {s3:Int} (inv:Int→Prop) (μ:Int→Nat) (h0:inv s3) (hs:∀(s3:Int),inv s3→k148 r0 (fun s3q=>inv s3q∧μ s3q<μ s3) h0_0 h0_1 h0_2 s3):Md.Loop (s3,h0_0,h0_1,h0_2,()) (kf1 (r0,())):=
 ⟨⟨fun s:Int×(List TSpent)×(List TNote)×Int×Unit=>(s.2.1=h0_0∧s.2.2.1=h0_1∧s.2.2.2.1=h0_2)∧inv s.1,fun s:Int×(List TSpent)×(List TNote)×Int×Unit=>μ s.1,⟨⟨rfl,rfl,rfl⟩,h0⟩,fun(s3p,h0_0p,h0_1p,h0_2p,()) ⟨⟨eq0,eq1,eq2⟩,hi⟩=>by
  have eq0:h0_0p=h0_0:=eq0;subst h0_0p;have eq1:h0_1p=h0_1:=eq1;subst h0_1p;have eq2:h0_2p=h0_2:=eq2;subst h0_2p;exact mpr_of (by kernel_rfl) ((congrArg (fun k=>k148 r0 k h0_0 h0_1 h0_2 s3p) (lpk1 (⟨rfl,rfl,rfl⟩:h0_0=h0_0∧h0_1=h0_1∧h0_2=h0_2) inv (fun s3q=>μ s3q<μ s3p))).mpr (hs s3p hi))⟩⟩
theorem bd25:Callable Try.prog 25:=⟨by rw[Try.func25];kernel_rfl,by rw[Try.func25];show some _≠some _;decide⟩
theorem k1e9 (p0:TWitness) (h:p0.Ins.length≤9223372036854775807∧p0.Outs.length≤9223372036854775807∧(∀x∈p0.Ins,x.Path.length≤9223372036854775807)):kmi (p0.Ins,p0.Outs,p0.Secret,()) (((rightV p0):Bool),()):=by
 obtain⟨h1,h2,h3⟩:=h
 have no:¬(p0.Ins.length≤4∧p0.Outs.length≤4∧p0.Secret<18446744069414584321∧(∀x∈p0.Ins,spendV x=true)∧∀x∈p0.Outs,noteV x=true)→false=rightV p0:=by
  intro h
  cases hr:rightV p0 with
  |false=>rfl
  |true=>exact(h (k92.1 hr)).elim
 refine k1kk ⟨fun h=>no fun a=> ?_,fun e1=>⟨fun h=>no fun a=> ?_,fun e2=>⟨fun h=>no fun a=> ?_,fun e3=> ?_⟩⟩⟩
 ·have h:=of_decide_eq_true h;omega
 ·have h:=of_decide_eq_true h;omega
 ·rw[decide_eq_true a.2.2.1]at h;cases h
 have e1:=of_decide_eq_false e1
 have e2:=of_decide_eq_false e2
 have e3:p0.Secret<18446744069414584321:=by simpa using e3
 refine k1ge (AllI spendV p0.Ins) (fun i=>(p0.Ins.length-i).toNat) AllI.start ?_
 intro i hi
 refine⟨fun hh=> ?_,fun hh=> ?_⟩
 ·have hh:=of_decide_eq_true hh
  have hm:=ix_mem p0.Ins i hi.1 hh
  have bad:spendV (ix p0.Ins i)=false→false=rightV p0:=fun e=>no fun a=>by rw[a.2.2.2.1 _ hm]at e;cases e
  have bad2:¬(0≤(ix p0.Ins i).Position∧(ix p0.Ins i).Position≤4095∧(ix p0.Ins i).Path.length≤12)→false=rightV p0:=fun e=>bad (by
   cases hc:spendV (ix p0.Ins i)with
   |false=>rfl
   |true=>exact(e ⟨(k7m.1 hc).2.2.2.2.1,(k7m.1 hc).2.2.2.2.2.1,(k7m.1 hc).2.2.2.2.2.2.1⟩).elim)
  refine⟨hi.1,hh,fun e=>bad2 ?_,fun q1=>⟨fun e=>bad2 ?_,fun q2=>⟨fun e=>bad2 ?_,fun q3=> ?_⟩⟩⟩
  ·have e:=of_decide_eq_true e;omega
  ·have e:=of_decide_eq_true e;omega
  ·have e:=of_decide_eq_true e;omega
  have q1:=of_decide_eq_false q1
  have q2:=of_decide_eq_false q2
  have q3:=of_decide_eq_false q3
  rw[k1on (x:=ix p0.Ins i) (by omega) (by omega) (by omega)]
  refine⟨h3 (ix p0.Ins i) hm,fun e=>bad (by simpa using e),fun e=>hi.next hh (by omega) (by simpa using e)⟩
 ·have ha:=hi.done (of_decide_eq_false hh)
  refine⟨h2,?_⟩
  cases hn:p0.Outs.all noteV with
  |false=>exact no fun a=>by rw[List.all_eq_true.2 a.2.2.2.2]at hn;cases hn
  |true=>exact(k92.2 ⟨by omega,by omega,e3,List.all_eq_true.1 ha,List.all_eq_true.1 hn⟩).symm
def kzf:Con TB.den:=k47.fnR (fun x=>(fun(p0:TWitness)=>p0.Ins.length≤9223372036854775807∧p0.Outs.length≤9223372036854775807∧(∀x∈p0.Ins,x.Path.length≤9223372036854775807)) (TWitness.mk x.1 x.2.1 x.2.2.1)) fun x=>((fun(p0:TWitness)=>((rightV p0):Bool)) (TWitness.mk x.1 x.2.1 x.2.2.1),())
theorem k1ja:kzf.Ok Try.prog TB:=Con.ok_fn k47 bd25 fun x h=>k1g7 (k1e9 (TWitness.mk x.1 x.2.1 x.2.2.1) h)
def k5h:Con TB.den:=Con.mk0 62 [.one (.d (.sl (.int .u64))),.one (.d (.sl (.int .u64)))] [] (.one (.one (.d (.bool)))) []
abbrev k1a8:=HL TB.den (hsT k5h.ins (hsOs k5h.pre))
abbrev kcz:=HL TB.den (hsV k5h.res (hsOs k5h.post))
def k9f:Cx TB:=⟨inf,[],[],4,[]⟩
def kdd:Code:=Try.f62.body.getD .skip
def knt:List ResultVar:=Try.f62.results.toList
def k1mb (o:kcz):=qS TB k9f 26 0 (cB (cB (cB kdd))) .no (retTQ TB k9f k5h knt o)
def kdu:Tm:=⟨[],[],[0,1,5],[.one (.d (.sl (.int .u64))),.one (.d (.sl (.int .u64))),.one (.d (.int .i64))],0⟩
def khn (o:kcz) (nx1:NX TB kdu) (i:HL TB.den kdu.hs):Prop:=WP TB k9f 26 0 (cA (cA (cB (cA (cB (cB kdd)))))) .no (kdu.fill TB i) (qM TB 0 kdu nx1 (blockT TB 0 (k1mb o)))
def k1mn (o:kcz):An TB:= .nd [] .no [] (.lp [] kdu (khn o) fun nx1=> .no)
def k17g (o:kcz):An TB:= .nd [] .no [] (.nd [] .no [] (.nd [] (k1mn o) [] .no))
def kp5 (x:k1a8) (o:kcz):Prop:=WPh TB k9f 26 0 kdd (k17g o) (k5h.st TB x) (retTQ TB k9f k5h knt o)
theorem k1jv (o:kcz):OblH TB k9f 26 0 kdd (k17g o) (retTQ TB k9f k5h knt o):=
 OblH.ofC (X:=((∀nx i,(khn o) nx i=(khn o) nx i)∧(∀nx1:NX TB kdu,True)∧True)) (by kernel_rfl) ⟨fun _ _=>rfl,fun _=>trivial,trivial⟩
theorem k1im {x:k1a8} {o:kcz} (h:kp5 x o):k5h.Snd Try.prog x o:=
 Con.soundH (c:=k5h) (C:=k9f) TBok ⟨inf_ok,all_nil,all_nil⟩ mix Try.func62 (show Try.f62.body=some kdd by kernel_rfl) (show Try.f62.ntmps=26 by kernel_rfl) (show Try.f62.results.toList=knt by kernel_rfl) rfl h (k1jv o)
theorem k1mx {p0:List Int} {p1:List Int} {r0:Bool} (h:
((((p0.length:Int) !=(p1.length:Int))=true→
false=r0)∧
(((p0.length:Int) !=(p1.length:Int))=false→
Md.Loop (p0,p1,(0:Int),()) (khn (r0,()))))):kp5 (p0,p1,()) (r0,()):=WPh.of_eq (by kernel_rfl) h
def k16o (r0:Bool) (k1:Int→Prop) (s0:List Int) (s1:List Int) (s5:Int):Prop:=
(decide (s5<(s0.length:Int))=true→
(0≤s5)∧s5<(s0.length:Int)∧(0≤s5)∧s5<(s1.length:Int)∧(((ix s0 s5) !=(ix s1 s5))=true→
false=r0)∧
(((ix s0 s5) !=(ix s1 s5))=false→
k1 (IntKind.i64.wrap (s5+1):Int)))∧
(decide (s5<(s0.length:Int))=false→
true=r0)
theorem k1lm {r0:Bool} {s0:List Int} {s1:List Int} {s5:Int} (inv:Int→Prop) (μ:Int→Nat) (h0:inv s5) (hs:∀(s5:Int),inv s5→k16o r0 (fun s5q=>inv s5q∧μ s5q<μ s5) s0 s1 s5):Md.Loop (s0,s1,s5,()) (khn (r0,())):=
 ⟨⟨fun s:(List Int)×(List Int)×Int×Unit=>(s.1=s0∧s.2.1=s1)∧inv s.2.2.1,fun s:(List Int)×(List Int)×Int×Unit=>μ s.2.2.1,⟨⟨rfl,rfl⟩,h0⟩,fun(s0p,s1p,s5p,()) ⟨⟨eq0,eq1⟩,hi⟩=>by
  have eq0:s0p=s0:=eq0;subst s0p;have eq1:s1p=s1:=eq1;subst s1p;exact mpr_of (by kernel_rfl) ((congrArg (fun k=>k16o r0 k s0 s1 s5p) (lpk1 (⟨rfl,rfl⟩:s0=s0∧s1=s1) inv (fun s5q=>μ s5q<μ s5p))).mpr (hs s5p hi))⟩⟩
theorem bd62:Callable Try.prog 62:=⟨by rw[Try.func62];kernel_rfl,by rw[Try.func62];show some _≠some _;decide⟩
theorem k1gi (p0:List Int) (p1:List Int) (h:p0.length≤9223372036854775807∧p1.length≤9223372036854775807):kp5 (p0,p1,()) (((decide (p0=p1)):Bool),()):=by
 obtain⟨h1,h2⟩:=h
 have no:p0≠p1→false=decide (p0=p1):=fun h=>(decide_eq_false h).symm
 refine k1mx ⟨fun e=>no ?_,fun e=> ?_⟩
 ·rintro rfl
  simp at e
 have e:(p0.length:Int)=p1.length:=by simpa using e
 refine k1lm (fun i=>0≤i∧i≤p0.length∧p0.take i.toNat=p1.take i.toNat) (fun i=>(p0.length-i).toNat) ⟨by omega,by omega,by simp⟩ ?_
 rintro i ⟨g0,g1,g2⟩
 refine⟨fun hh=> ?_,fun hh=> ?_⟩
 ·have hh:=of_decide_eq_true hh
  refine⟨g0,hh,g0,by omega,fun e2=>no ?_,fun e2=> ?_⟩
  ·rintro rfl
   simp at e2
  ·have e2:ix p0 i=ix p1 i:=by simpa using e2
   rw[inc i p0.length g0 hh (by omega)]
   refine⟨⟨by omega,by omega,?_⟩,by omega⟩
   rw[k16 p0 i g0 hh,k16 p1 i g0 (by omega),g2,e2]
 ·have hh:=of_decide_eq_false hh
  rw[List.take_of_length_le (by omega),List.take_of_length_le (by omega)]at g2
  exact(decide_eq_true g2).symm
def k12y:Con TB.den:=k5h.fnR (fun x=>(fun(p0:List Int) (p1:List Int)=>p0.length≤9223372036854775807∧p1.length≤9223372036854775807) x.1 x.2.1) fun x=>((fun(p0:List Int) (p1:List Int)=>((decide (p0=p1)):Bool)) x.1 x.2.1,())
theorem k1mw:k12y.Ok Try.prog TB:=Con.ok_fn k5h bd62 fun x h=>k1im (k1gi x.1 x.2.1 h)
def k4i:Con TB.den:=Con.mk0 28 [.agg [.d (.sl (.st 0)),.d (.sl (.st 1)),.d (.int .u64)],.agg [.d (.sl (.st 0)),.d (.sl (.st 1)),.d (.int .u64)]] [] (.one (.one (.d (.bool)))) []
abbrev k1bg:=HL TB.den (hsT k4i.ins (hsOs k4i.pre))
abbrev k6o:=HL TB.den (hsV k4i.res (hsOs k4i.post))
def k5y:Cx TB:=⟨inf,[k12y],[],4,[]⟩
def k8h:Code:=Try.f28.body.getD .skip
def khi:List ResultVar:=Try.f28.results.toList
def k1ma (o:k6o):=qS TB k5y 108 0 (cB (cB (cB (cB k8h)))) .no (retTQ TB k5y k4i khi o)
def kdw:Tm:=⟨[0,1],[.cells [.d (.sl (.st 0)),.d (.sl (.st 1)),.d (.int .u64)],.cells [.d (.sl (.st 0)),.d (.sl (.st 1)),.d (.int .u64)]],[2,3,8],[.one (.ptr 0 0),.one (.ptr 1 0),.one (.d (.int .i64))],2⟩
def khu (o:k6o) (nx2:NX TB kdw) (i:HL TB.den kdw.hs):Prop:=WP TB k5y 108 0 (cA (cA (cB (cA (cB (cB (cB k8h))))))) .no (kdw.fill TB i) (qM TB 0 kdw nx2 (blockT TB 2 (k1ma o)))
def k16f (o:k6o):An TB:= .nd [] .no [] (.lp [] kdw (khu o) fun nx2=> .no)
def k1mu (o:k6o):=qS TB k5y 108 0 (cB (cB (cB k8h))) (.nd [] (k16f o) [] .no) (retTQ TB k5y k4i khi o)
def kdt:Tm:=⟨[0,1],[.cells [.d (.sl (.st 0)),.d (.sl (.st 1)),.d (.int .u64)],.cells [.d (.sl (.st 0)),.d (.sl (.st 1)),.d (.int .u64)]],[2,3,5],[.one (.ptr 0 0),.one (.ptr 1 0),.one (.d (.int .i64))],2⟩
def kha (o:k6o) (nx1:NX TB kdt) (i:HL TB.den kdt.hs):Prop:=WP TB k5y 108 0 (cA (cA (cB (cA (cB (cB k8h)))))) .no (kdt.fill TB i) (qM TB 0 kdt nx1 (blockT TB 0 (k1mu o)))
def k1mr (o:k6o):An TB:= .nd [] .no [] (.lp [] kdt (kha o) fun nx1=> .no)
def k1lc (o:k6o):An TB:= .nd [] .no [] (.nd [] (k1mr o) [] (.nd [] (k16f o) [] .no))
def k16u (o:k6o):An TB:= .nd [] .no [] (k1lc o)
def kp4 (x:k1bg) (o:k6o):Prop:=WPh TB k5y 108 0 k8h (k16u o) (k4i.st TB x) (retTQ TB k5y k4i khi o)
theorem k1jp (o:k6o):OblH TB k5y 108 0 k8h (k16u o) (retTQ TB k5y k4i khi o):=
 OblH.ofC (X:=((∀nx i,(kha o) nx i=(kha o) nx i)∧(∀nx1:NX TB kdt,True)∧(∀nx i,(khu o) nx i=(khu o) nx i)∧(∀nx2:NX TB kdw,True)∧True)) (by kernel_rfl) ⟨fun _ _=>rfl,fun _=>trivial,fun _ _=>rfl,fun _=>trivial,trivial⟩
theorem k1jb {x:k1bg} {o:k6o} (h:kp4 x o):k4i.Snd Try.prog x o:=
 Con.soundH (c:=k4i) (C:=k5y) TBok ⟨inf_ok,(all_cons k1mw all_nil),all_nil⟩ mix Try.func28 (show Try.f28.body=some k8h by kernel_rfl) (show Try.f28.ntmps=108 by kernel_rfl) (show Try.f28.results.toList=khi by kernel_rfl) rfl h (k1jp o)
theorem k1n5 {p0:TWitness} {p1:TWitness} {r0:Bool} (h:
(let v1:Bool:=((p0.Ins.length:Int) !=(p1.Ins.length:Int))
(v1=true→
false=r0)∧
(v1=false→
let v2:Bool:=((p0.Outs.length:Int) !=(p1.Outs.length:Int))
(v2=true→
false=r0)∧
(v2=false→
((p0.Secret !=p1.Secret)=true→
false=r0)∧
((p0.Secret !=p1.Secret)=false→
Md.Loop ((0:Int),p0.Ins,p0.Outs,p0.Secret,p1.Ins,p1.Outs,p1.Secret,()) (kha (r0,()))))))):kp4 (p0.Ins,p0.Outs,p0.Secret,p1.Ins,p1.Outs,p1.Secret,()) (r0,()):=WPh.of_eq (by kernel_rfl) h
def k16d (r0:Bool) (k1:Int→Prop) (h0_0:List TSpent) (h0_1:List TNote) (h0_2:Int) (h1_0:List TSpent) (h1_1:List TNote) (h1_2:Int) (s5:Int):Prop:=
(decide (s5<(h0_0.length:Int))=true→
(0≤s5)∧s5<(h0_0.length:Int)∧(0≤s5)∧s5<(h1_0.length:Int)∧let v3:Bool:=(!(((ix h0_0 s5).Note_Value==(ix h1_0 s5).Note_Value)&&(((ix h0_0 s5).Note_Owner==(ix h1_0 s5).Note_Owner)&&(((ix h0_0 s5).Note_Rho==(ix h1_0 s5).Note_Rho)&&(((ix h0_0 s5).Note_Blind==(ix h1_0 s5).Note_Blind)&&true)))))
(v3=true→
false=r0)∧
(v3=false→
let v4:Bool:=(((ix h0_0 s5).Key) !=((ix h1_0 s5).Key))
(v4=true→
false=r0)∧
(v4=false→
let v5:Bool:=(((ix h0_0 s5).Number) !=((ix h1_0 s5).Number))
(v5=true→
false=r0)∧
(v5=false→
let v6:Bool:=(((ix h0_0 s5).Position) !=((ix h1_0 s5).Position))
(v6=true→
false=r0)∧
(v6=false→
let v7:Bool:=(!((ix h0_0 s5).Dummy==(ix h1_0 s5).Dummy))
(v7=true→
false=r0)∧
(v7=false→
(((ix h0_0 s5).Path).length≤9223372036854775807∧((ix h1_0 s5).Path).length≤9223372036854775807)∧let r8:Bool:=(decide (((ix h0_0 s5).Path)=((ix h1_0 s5).Path)))
((!r8)=true→
false=r0)∧
((!r8)=false→
k1 (IntKind.i64.wrap (s5+1):Int))))))))∧
(decide (s5<(h0_0.length:Int))=false→
Md.Loop ((0:Int),h0_0,h0_1,h0_2,h1_0,h1_1,h1_2,()) (khu (r0,())))
theorem k1ke {r0:Bool} {h0_0:List TSpent} {h0_1:List TNote} {h0_2:Int} {h1_0:List TSpent} {h1_1:List TNote} {h1_2:Int} {s5:Int} (inv:Int→Prop) (μ:Int→Nat) (h0:inv s5) (hs:∀(s5:Int),inv s5→k16d r0 (fun s5q=>inv s5q∧μ s5q<μ s5) h0_0 h0_1 h0_2 h1_0 h1_1 h1_2 s5):Md.Loop (s5,h0_0,h0_1,h0_2,h1_0,h1_1,h1_2,()) (kha (r0,())):=
 ⟨⟨fun s:Int×(List TSpent)×(List TNote)×Int×(List TSpent)×(List TNote)×Int×Unit=>(s.2.1=h0_0∧s.2.2.1=h0_1∧s.2.2.2.1=h0_2∧s.2.2.2.2.1=h1_0∧s.2.2.2.2.2.1=h1_1∧s.2.2.2.2.2.2.1=h1_2)∧inv s.1,fun s:Int×(List TSpent)×(List TNote)×Int×(List TSpent)×(List TNote)×Int×Unit=>μ s.1,⟨⟨rfl,rfl,rfl,rfl,rfl,rfl⟩,h0⟩,fun(s5p,h0_0p,h0_1p,h0_2p,h1_0p,h1_1p,h1_2p,()) ⟨⟨eq0,eq1,eq2,eq3,eq4,eq5⟩,hi⟩=>by
  have eq0:h0_0p=h0_0:=eq0;subst h0_0p;have eq1:h0_1p=h0_1:=eq1;subst h0_1p;have eq2:h0_2p=h0_2:=eq2;subst h0_2p;have eq3:h1_0p=h1_0:=eq3;subst h1_0p;have eq4:h1_1p=h1_1:=eq4;subst h1_1p;have eq5:h1_2p=h1_2:=eq5;subst h1_2p;exact mpr_of (by kernel_rfl) ((congrArg (fun k=>k16d r0 k h0_0 h0_1 h0_2 h1_0 h1_1 h1_2 s5p) (lpk1 (⟨rfl,rfl,rfl,rfl,rfl,rfl⟩:h0_0=h0_0∧h0_1=h0_1∧h0_2=h0_2∧h1_0=h1_0∧h1_1=h1_1∧h1_2=h1_2) inv (fun s5q=>μ s5q<μ s5p))).mpr (hs s5p hi))⟩⟩
def k16c (r0:Bool) (k2:Int→Prop) (h0_0:List TSpent) (h0_1:List TNote) (h0_2:Int) (h1_0:List TSpent) (h1_1:List TNote) (h1_2:Int) (s8:Int):Prop:=
(decide (s8<(h0_1.length:Int))=true→
(0≤s8)∧s8<(h0_1.length:Int)∧(0≤s8)∧s8<(h1_1.length:Int)∧let v9:Bool:=(!(((ix h0_1 s8).Value==(ix h1_1 s8).Value)&&(((ix h0_1 s8).Owner==(ix h1_1 s8).Owner)&&(((ix h0_1 s8).Rho==(ix h1_1 s8).Rho)&&(((ix h0_1 s8).Blind==(ix h1_1 s8).Blind)&&true)))))
(v9=true→
false=r0)∧
(v9=false→
k2 (IntKind.i64.wrap (s8+1):Int)))∧
(decide (s8<(h0_1.length:Int))=false→
true=r0)
theorem k1jz {r0:Bool} {h0_0:List TSpent} {h0_1:List TNote} {h0_2:Int} {h1_0:List TSpent} {h1_1:List TNote} {h1_2:Int} {s8:Int} (inv:Int→Prop) (μ:Int→Nat) (h0:inv s8) (hs:∀(s8:Int),inv s8→k16c r0 (fun s8q=>inv s8q∧μ s8q<μ s8) h0_0 h0_1 h0_2 h1_0 h1_1 h1_2 s8):Md.Loop (s8,h0_0,h0_1,h0_2,h1_0,h1_1,h1_2,()) (khu (r0,())):=
 ⟨⟨fun s:Int×(List TSpent)×(List TNote)×Int×(List TSpent)×(List TNote)×Int×Unit=>(s.2.1=h0_0∧s.2.2.1=h0_1∧s.2.2.2.1=h0_2∧s.2.2.2.2.1=h1_0∧s.2.2.2.2.2.1=h1_1∧s.2.2.2.2.2.2.1=h1_2)∧inv s.1,fun s:Int×(List TSpent)×(List TNote)×Int×(List TSpent)×(List TNote)×Int×Unit=>μ s.1,⟨⟨rfl,rfl,rfl,rfl,rfl,rfl⟩,h0⟩,fun(s8p,h0_0p,h0_1p,h0_2p,h1_0p,h1_1p,h1_2p,()) ⟨⟨eq0,eq1,eq2,eq3,eq4,eq5⟩,hi⟩=>by
  have eq0:h0_0p=h0_0:=eq0;subst h0_0p;have eq1:h0_1p=h0_1:=eq1;subst h0_1p;have eq2:h0_2p=h0_2:=eq2;subst h0_2p;have eq3:h1_0p=h1_0:=eq3;subst h1_0p;have eq4:h1_1p=h1_1:=eq4;subst h1_1p;have eq5:h1_2p=h1_2:=eq5;subst h1_2p;exact mpr_of (by kernel_rfl) ((congrArg (fun k=>k16c r0 k h0_0 h0_1 h0_2 h1_0 h1_1 h1_2 s8p) (lpk1 (⟨rfl,rfl,rfl,rfl,rfl,rfl⟩:h0_0=h0_0∧h0_1=h0_1∧h0_2=h0_2∧h1_0=h1_0∧h1_1=h1_1∧h1_2=h1_2) inv (fun s8q=>μ s8q<μ s8p))).mpr (hs s8p hi))⟩⟩
theorem bd28:Callable Try.prog 28:=⟨by rw[Try.func28];kernel_rfl,by rw[Try.func28];show some _≠some _;decide⟩
theorem k1hq (p0:TWitness) (p1:TWitness) (h:WQ p0∧WQ p1):kp4 (p0.Ins,p0.Outs,p0.Secret,p1.Ins,p1.Outs,p1.Secret,()) (((sameW p0 p1):Bool),()):=by
 obtain⟨h1,h2⟩:=h
 have no:p0≠p1→false=sameW p0 p1:=fun h=>by
  cases hc:sameW p0 p1 with
  |false=>rfl
  |true=>exact(h (k1fu.1 hc)).elim
 refine k1n5 ⟨fun e=>no ?_,fun e1=>⟨fun e=>no ?_,fun e2=>⟨fun e=>no ?_,fun e3=> ?_⟩⟩⟩
 ·rintro rfl
  simp at e
 ·rintro rfl
  simp at e
 ·rintro rfl
  simp at e
 have e1:(p0.Ins.length:Int)=p1.Ins.length:=by simpa using e1
 have e2:(p0.Outs.length:Int)=p1.Outs.length:=by simpa using e2
 have e3:p0.Secret=p1.Secret:=by simpa using e3
 have hil:=h1.il
 have hol:=h1.ol
 refine k1ke (fun i=>0≤i∧i≤p0.Ins.length∧p0.Ins.take i.toNat=p1.Ins.take i.toNat) (fun i=>(p0.Ins.length-i).toNat) ⟨by omega,by omega,by simp⟩ ?_
 rintro i ⟨g0,g1,g2⟩
 refine⟨fun hh=> ?_,fun hh=> ?_⟩
 ·have hh:=of_decide_eq_true hh
  have hm1:=ix_mem p0.Ins i g0 hh
  have hm2:=ix_mem p1.Ins i g0 (by omega)
  refine⟨g0,hh,g0,by omega,fun e=>no ?_,fun a1=>⟨fun e=>no ?_,fun a2=>⟨fun e=>no ?_,fun a3=>⟨fun e=>no ?_,fun a4=>⟨fun e=>no ?_,fun a5=>⟨⟨(h1.i _ hm1).pl,(h2.i _ hm2).pl⟩,fun e=>no ?_,fun a6=> ?_⟩⟩⟩⟩⟩⟩
  ·rintro rfl;simp at e
  ·rintro rfl;simp at e
  ·rintro rfl;simp at e
  ·rintro rfl;simp at e
  ·rintro rfl;simp at e
  ·rintro rfl;simp at e
  ·rw[inc i p0.Ins.length g0 hh (by omega)]
   refine⟨⟨by omega,by omega,?_⟩,by omega⟩
   rw[k16 p0.Ins i g0 hh,k16 p1.Ins i g0 (by omega),g2]
   congr 2
   generalize ix p0.Ins i=x at *
   generalize ix p1.Ins i=y at *
   cases x;cases y
   simp_all
 ·have hh:=of_decide_eq_false hh
  rw[List.take_of_length_le (by omega),List.take_of_length_le (by omega)]at g2
  refine k1jz (fun i=>0≤i∧i≤p0.Outs.length∧p0.Outs.take i.toNat=p1.Outs.take i.toNat) (fun i=>(p0.Outs.length-i).toNat) ⟨by omega,by omega,by simp⟩ ?_
  rintro k ⟨k0,k1,k2⟩
  refine⟨fun hh=> ?_,fun hh=> ?_⟩
  ·have hh:=of_decide_eq_true hh
   refine⟨k0,hh,k0,by omega,fun e=>no ?_,fun a1=> ?_⟩
   ·rintro rfl;simp at e
   ·rw[inc k p0.Outs.length k0 hh (by omega)]
    refine⟨⟨by omega,by omega,?_⟩,by omega⟩
    rw[k16 p0.Outs k k0 hh,k16 p1.Outs k k0 (by omega),k2]
    congr 2
    generalize ix p0.Outs k=x at *
    generalize ix p1.Outs k=y at *
    cases x;cases y
    simp_all
  ·have hh:=of_decide_eq_false hh
   rw[List.take_of_length_le (by omega),List.take_of_length_le (by omega)]at k2
   refine(k1fu.2 ?_).symm
   cases p0;cases p1
   simp_all
def k13l:Con TB.den:=k4i.fnR (fun x=>(fun(p0:TWitness) (p1:TWitness)=>WQ p0∧WQ p1) (TWitness.mk x.1 x.2.1 x.2.2.1) (TWitness.mk x.2.2.2.1 x.2.2.2.2.1 x.2.2.2.2.2.1)) fun x=>((fun(p0:TWitness) (p1:TWitness)=>((sameW p0 p1):Bool)) (TWitness.mk x.1 x.2.1 x.2.2.1) (TWitness.mk x.2.2.2.1 x.2.2.2.2.1 x.2.2.2.2.2.1),())
theorem k1mc:k13l.Ok Try.prog TB:=Con.ok_fn k4i bd28 fun x h=>k1jb (k1hq (TWitness.mk x.1 x.2.1 x.2.2.1) (TWitness.mk x.2.2.2.1 x.2.2.2.2.1 x.2.2.2.2.2.1) h)
def k44:Con TB.den:=Con.mk0 9 [.agg [.d (.int .i64),.d (.int .u64),.d (.sl (.int .u64)),.d (.sl (.int .u64)),.d (.sl (.int .u64)),.d (.int .u64),.d (.int .u64),.d (.int .u64),.d (.int .u64),.d (.int .u64)],.agg [.d (.sl (.st 0)),.d (.sl (.st 1)),.d (.int .u64)]] [] (.one (.one (.d (.bool)))) []
abbrev k16k:=HL TB.den (hsT k44.ins (hsOs k44.pre))
abbrev kb4:=HL TB.den (hsV k44.res (hsOs k44.post))
def k7p:Cx TB:=⟨inf,[],[],4,[]⟩
def kcb:Code:=Try.f9.body.getD .skip
def kkl:List ResultVar:=Try.f9.results.toList
def k1lh (o:kb4):=qS TB k7p 49 0 (cB (cB (cB kcb))) .no (retTQ TB k7p k44 kkl o)
def kbm:Tm:=⟨[1],[.cells [.d (.sl (.st 0)),.d (.sl (.st 1)),.d (.int .u64)]],[3,5],[.one (.ptr 0 0),.one (.d (.int .i64))],2⟩
def kfx (o:kb4) (nx1:NX TB kbm) (i:HL TB.den kbm.hs):Prop:=WP TB k7p 49 0 (cA (cA (cB (cA (cB (cB kcb)))))) .no (kbm.fill TB i) (qM TB 0 kbm nx1 (blockT TB 0 (k1lh o)))
def k1jj (o:kb4):An TB:= .nd [] .no [] (.lp [] kbm (kfx o) fun nx1=> .no)
def k13b (o:kb4):An TB:= .nd [] .no [] (.nd [] .no [] (.nd [] (k1jj o) [] .no))
def kn6 (x:k16k) (o:kb4):Prop:=WPh TB k7p 49 0 kcb (k13b o) (k44.st TB x) (retTQ TB k7p k44 kkl o)
theorem k1gk (o:kb4):OblH TB k7p 49 0 kcb (k13b o) (retTQ TB k7p k44 kkl o):=
 OblH.ofC (X:=((∀nx i,(kfx o) nx i=(kfx o) nx i)∧(∀nx1:NX TB kbm,True)∧True)) (by kernel_rfl) ⟨fun _ _=>rfl,fun _=>trivial,trivial⟩
theorem k1g6 {x:k16k} {o:kb4} (h:kn6 x o):k44.Snd Try.prog x o:=
 Con.soundH (c:=k44) (C:=k7p) TBok ⟨inf_ok,all_nil,all_nil⟩ mix Try.func9 (show Try.f9.body=some kcb by kernel_rfl) (show Try.f9.ntmps=49 by kernel_rfl) (show Try.f9.results.toList=kkl by kernel_rfl) rfl h (k1gk o)
theorem k1lp {p0:TStatement} {p1:TWitness} {r0:Bool} (h:
((decide (8<(p0.Marks.length:Int))=true→
false=r0)∧
(decide (8<(p0.Marks.length:Int))=false→
(decide (8<(p0.Commits.length:Int))=true→
false=r0)∧
(decide (8<(p0.Commits.length:Int))=false→
(decide (8<(p0.Rhos.length:Int))=true→
false=r0)∧
(decide (8<(p0.Rhos.length:Int))=false→
(decide (8<(p1.Ins.length:Int))=true→
false=r0)∧
(decide (8<(p1.Ins.length:Int))=false→
(decide (8<(p1.Outs.length:Int))=true→
false=r0)∧
(decide (8<(p1.Outs.length:Int))=false→
Md.Loop ((0:Int),p1.Ins,p1.Outs,p1.Secret,()) (kfx (r0,()))))))))):kn6 (p0.Depth,p0.Anchor,p0.Marks,p0.Commits,p0.Rhos,p0.Deposit,p0.Withdraw,p0.Fee,p0.Account,p0.Bind,p1.Ins,p1.Outs,p1.Secret,()) (r0,()):=WPh.of_eq (by kernel_rfl) h
def k14e (r0:Bool) (k1:Int→Prop) (h1_0:List TSpent) (h1_1:List TNote) (h1_2:Int) (s5:Int):Prop:=
(decide (s5<(h1_0.length:Int))=true→
(0≤s5)∧s5<(h1_0.length:Int)∧let v1:Bool:=decide (20<(((ix h1_0 s5).Path).length:Int))
(v1=true→
false=r0)∧
(v1=false→
k1 (IntKind.i64.wrap (s5+1):Int)))∧
(decide (s5<(h1_0.length:Int))=false→
true=r0)
theorem k1ic {r0:Bool} {h1_0:List TSpent} {h1_1:List TNote} {h1_2:Int} {s5:Int} (inv:Int→Prop) (μ:Int→Nat) (h0:inv s5) (hs:∀(s5:Int),inv s5→k14e r0 (fun s5q=>inv s5q∧μ s5q<μ s5) h1_0 h1_1 h1_2 s5):Md.Loop (s5,h1_0,h1_1,h1_2,()) (kfx (r0,())):=
 ⟨⟨fun s:Int×(List TSpent)×(List TNote)×Int×Unit=>(s.2.1=h1_0∧s.2.2.1=h1_1∧s.2.2.2.1=h1_2)∧inv s.1,fun s:Int×(List TSpent)×(List TNote)×Int×Unit=>μ s.1,⟨⟨rfl,rfl,rfl⟩,h0⟩,fun(s5p,h1_0p,h1_1p,h1_2p,()) ⟨⟨eq0,eq1,eq2⟩,hi⟩=>by
  have eq0:h1_0p=h1_0:=eq0;subst h1_0p;have eq1:h1_1p=h1_1:=eq1;subst h1_1p;have eq2:h1_2p=h1_2:=eq2;subst h1_2p;exact mpr_of (by kernel_rfl) ((congrArg (fun k=>k14e r0 k h1_0 h1_1 h1_2 s5p) (lpk1 (⟨rfl,rfl,rfl⟩:h1_0=h1_0∧h1_1=h1_1∧h1_2=h1_2) inv (fun s5q=>μ s5q<μ s5p))).mpr (hs s5p hi))⟩⟩
theorem bd9:Callable Try.prog 9:=⟨by rw[Try.func9];kernel_rfl,by rw[Try.func9];show some _≠some _;decide⟩
theorem k1e4 (p0:TStatement) (p1:TWitness) (h:p1.Ins.length≤9223372036854775807):kn6 (p0.Depth,p0.Anchor,p0.Marks,p0.Commits,p0.Rhos,p0.Deposit,p0.Withdraw,p0.Fee,p0.Account,p0.Bind,p1.Ins,p1.Outs,p1.Secret,()) (((smallW p0 p1):Bool),()):=by
 have no:¬(p0.Marks.length≤8∧p0.Commits.length≤8∧p0.Rhos.length≤8∧p1.Ins.length≤8∧p1.Outs.length≤8∧∀x∈p1.Ins,x.Path.length≤20)→false=smallW p0 p1:=by
  intro h
  cases hr:smallW p0 p1 with
  |false=>rfl
  |true=>exact(h (kx0.1 hr)).elim
 refine k1lp ⟨fun h=>no fun a=> ?_,fun h1=>⟨fun h=>no fun a=> ?_,fun h2=>⟨fun h=>no fun a=> ?_,fun h3=>⟨fun h=>no fun a=> ?_,fun h4=>⟨fun h=>no fun a=> ?_,fun h5=> ?_⟩⟩⟩⟩⟩
 ·have h:=of_decide_eq_true h;omega
 ·have h:=of_decide_eq_true h;omega
 ·have h:=of_decide_eq_true h;omega
 ·have h:=of_decide_eq_true h;omega
 ·have h:=of_decide_eq_true h;omega
 have h1:=of_decide_eq_false h1
 have h2:=of_decide_eq_false h2
 have h3:=of_decide_eq_false h3
 have h4:=of_decide_eq_false h4
 have h5:=of_decide_eq_false h5
 refine k1ic (AllI (fun x=>decide (x.Path.length≤20)) p1.Ins) (fun i=>(p1.Ins.length-i).toNat) AllI.start ?_
 intro i hi
 refine⟨fun hh=> ?_,fun hh=> ?_⟩
 ·have hh:=of_decide_eq_true hh
  refine⟨hi.1,hh,fun e=>no fun a=> ?_,fun e=>hi.next hh (by omega) ?_⟩
  ·have:=a.2.2.2.2.2 _ (ix_mem p1.Ins i hi.1 hh)
   have e:=of_decide_eq_true e
   omega
  ·have e:=of_decide_eq_false e
   apply decide_eq_true
   omega
 ·have ha:=hi.done (of_decide_eq_false hh)
  exact(kx0.2 ⟨by omega,by omega,by omega,by omega,by omega,by simpa using ha⟩).symm
def kzj:Con TB.den:=k44.fnR (fun x=>(fun(p0:TStatement) (p1:TWitness)=>p1.Ins.length≤9223372036854775807) (TStatement.mk x.1 x.2.1 x.2.2.1 x.2.2.2.1 x.2.2.2.2.1 x.2.2.2.2.2.1 x.2.2.2.2.2.2.1 x.2.2.2.2.2.2.2.1 x.2.2.2.2.2.2.2.2.1 x.2.2.2.2.2.2.2.2.2.1) (TWitness.mk x.2.2.2.2.2.2.2.2.2.2.1 x.2.2.2.2.2.2.2.2.2.2.2.1 x.2.2.2.2.2.2.2.2.2.2.2.2.1)) fun x=>((fun(p0:TStatement) (p1:TWitness)=>((smallW p0 p1):Bool)) (TStatement.mk x.1 x.2.1 x.2.2.1 x.2.2.2.1 x.2.2.2.2.1 x.2.2.2.2.2.1 x.2.2.2.2.2.2.1 x.2.2.2.2.2.2.2.1 x.2.2.2.2.2.2.2.2.1 x.2.2.2.2.2.2.2.2.2.1) (TWitness.mk x.2.2.2.2.2.2.2.2.2.2.1 x.2.2.2.2.2.2.2.2.2.2.2.1 x.2.2.2.2.2.2.2.2.2.2.2.2.1),())
theorem k1ih:kzj.Ok Try.prog TB:=Con.ok_fn k44 bd9 fun x h=>k1g6 (k1e4 (TStatement.mk x.1 x.2.1 x.2.2.1 x.2.2.2.1 x.2.2.2.2.1 x.2.2.2.2.2.1 x.2.2.2.2.2.2.1 x.2.2.2.2.2.2.2.1 x.2.2.2.2.2.2.2.2.1 x.2.2.2.2.2.2.2.2.2.1) (TWitness.mk x.2.2.2.2.2.2.2.2.2.2.1 x.2.2.2.2.2.2.2.2.2.2.2.1 x.2.2.2.2.2.2.2.2.2.2.2.2.1) h)
def k3j:Con TB.den:=Con.mk0 58 [.one (.ptr 0 0)] [.cells [.d (.sl (.int .u8)),.d (.int .i64),.d (.bool)]] (.one (.one (.d (.bool)))) [.cells [.d (.sl (.int .u8)),.d (.int .i64),.d (.bool)]]
abbrev kzn:=HL TB.den (hsT k3j.ins (hsOs k3j.pre))
abbrev khy:=HL TB.den (hsV k3j.res (hsOs k3j.post))
def kck:Cx TB:=⟨inf,[],[],4,[]⟩
def kj1:Code:=Try.f58.body.getD .skip
def kmf:List ResultVar:=Try.f58.results.toList
def kws (o:khy):An TB:= .no
def kiw (x:kzn) (o:khy):Prop:=WPh TB kck 20 1 kj1 (kws o) (k3j.st TB x) (retTQ TB kck k3j kmf o)
theorem k19p (o:khy):OblH TB kck 20 1 kj1 (kws o) (retTQ TB kck k3j kmf o):=
 OblH.ofC (X:=True) (by kernel_rfl) trivial
theorem k1be {x:kzn} {o:khy} (h:kiw x o):k3j.Snd Try.prog x o:=
 Con.soundH (c:=k3j) (C:=kck) TBok ⟨inf_ok,all_nil,all_nil⟩ mix Try.func58 (show Try.f58.body=some kj1 by kernel_rfl) (show Try.f58.ntmps=20 by kernel_rfl) (show Try.f58.results.toList=kmf by kernel_rfl) rfl h (k19p o)
theorem k1ee {c0_0:List Int} {c0_1:Int} {c0_2:Bool} {r0:Bool} {d0_0:List Int} {d0_1:Int} {d0_2:Bool} (h:
(((!c0_2)=true→
(c0_1==(c0_0.length:Int))=r0∧c0_0=d0_0∧c0_1=d0_1∧c0_2=d0_2)∧
((!c0_2)=false→
false=r0∧c0_0=d0_0∧c0_1=d0_1∧c0_2=d0_2))):kiw (c0_0,c0_1,c0_2,()) (r0,d0_0,d0_1,d0_2,()):=WPh.of_eq (by kernel_rfl) h
theorem bd58:Callable Try.prog 58:=⟨by rw[Try.func58];kernel_rfl,by rw[Try.func58];show some _≠some _;decide⟩
theorem k18k (c0_0:List Int) (c0_1:Int) (c0_2:Bool):kiw (c0_0,c0_1,c0_2,()) (((!c0_2&&c0_1==(c0_0.length:Int)):Bool),(c0_0:List Int),(c0_1:Int),(c0_2:Bool),()):=by
 refine k1ee ⟨fun e=>⟨by rw[e];rfl,rfl,rfl,rfl⟩,fun e=>⟨by rw[e];rfl,rfl,rfl,rfl⟩⟩
def kth:Con TB.den:=k3j.totR fun x=>((fun(c0_0:List Int) (c0_1:Int) (c0_2:Bool)=>((!c0_2&&c0_1==(c0_0.length:Int)):Bool)) x.1 x.2.1 x.2.2.1,(fun(c0_0:List Int) (c0_1:Int) (c0_2:Bool)=>(c0_0:List Int)) x.1 x.2.1 x.2.2.1,(fun(c0_0:List Int) (c0_1:Int) (c0_2:Bool)=>(c0_1:Int)) x.1 x.2.1 x.2.2.1,(fun(c0_0:List Int) (c0_1:Int) (c0_2:Bool)=>(c0_2:Bool)) x.1 x.2.1 x.2.2.1,())
theorem k1cy:kth.Ok Try.prog TB:=Con.ok_tot k3j bd58 fun x=>k1be (k18k x.1 x.2.1 x.2.2.1)
def k3o:Con TB.den:=Con.mk0 96 [.one (.ptr 0 0)] [.cells [.d (.sl (.int .u8)),.d (.int .i64),.d (.bool)]] (.one (.one (.d (.int .i64)))) [.cells [.d (.sl (.int .u8)),.d (.int .i64),.d (.bool)]]
abbrev kys:=HL TB.den (hsT k3o.ins (hsOs k3o.pre))
abbrev ki3:=HL TB.den (hsV k3o.res (hsOs k3o.post))
def kcl:Cx TB:=⟨inf,[],[],4,[]⟩
def kiq:Code:=Try.f96.body.getD .skip
def klx:List ResultVar:=Try.f96.results.toList
def kwn (o:ki3):An TB:= .no
def kim (x:kys) (o:ki3):Prop:=WPh TB kcl 13 1 kiq (kwn o) (k3o.st TB x) (retTQ TB kcl k3o klx o)
theorem k1bf (o:ki3):OblH TB kcl 13 1 kiq (kwn o) (retTQ TB kcl k3o klx o):=
 OblH.ofC (X:=True) (by kernel_rfl) trivial
theorem k1at {x:kys} {o:ki3} (h:kim x o):k3o.Snd Try.prog x o:=
 Con.soundH (c:=k3o) (C:=kcl) TBok ⟨inf_ok,all_nil,all_nil⟩ mix Try.func96 (show Try.f96.body=some kiq by kernel_rfl) (show Try.f96.ntmps=13 by kernel_rfl) (show Try.f96.results.toList=klx by kernel_rfl) rfl h (k1bf o)
theorem k1da {c0_0:List Int} {c0_1:Int} {c0_2:Bool} {r0:Int} {d0_0:List Int} {d0_1:Int} {d0_2:Bool} (h:
(let v1:Int:=IntKind.i64.wrap ((c0_0.length:Int)-c0_1)
v1=r0∧c0_0=d0_0∧c0_1=d0_1∧c0_2=d0_2)):kim (c0_0,c0_1,c0_2,()) (r0,d0_0,d0_1,d0_2,()):=WPh.of_eq (by kernel_rfl) h
theorem bd96:Callable Try.prog 96:=⟨by rw[Try.func96];kernel_rfl,by rw[Try.func96];show some _≠some _;decide⟩
theorem k186 (c0_0:List Int) (c0_1:Int) (c0_2:Bool) (h:(0≤c0_1∧c0_1≤c0_0.length)∧c0_0.length≤137438953472):kim (c0_0,c0_1,c0_2,()) ((((c0_0.length:Int)-c0_1):Int),(c0_0:List Int),(c0_1:Int),(c0_2:Bool),()):=by
 exact k1da ⟨wi _ (by omega) (by omega),rfl,rfl,rfl⟩
def kjr:Con TB.den:=k3o.fnR (fun x=>(fun(c0_0:List Int) (c0_1:Int) (c0_2:Bool)=>(0≤c0_1∧c0_1≤c0_0.length)∧c0_0.length≤137438953472) x.1 x.2.1 x.2.2.1) fun x=>((fun(c0_0:List Int) (c0_1:Int) (c0_2:Bool)=>(((c0_0.length:Int)-c0_1):Int)) x.1 x.2.1 x.2.2.1,(fun(c0_0:List Int) (c0_1:Int) (c0_2:Bool)=>(c0_0:List Int)) x.1 x.2.1 x.2.2.1,(fun(c0_0:List Int) (c0_1:Int) (c0_2:Bool)=>(c0_1:Int)) x.1 x.2.1 x.2.2.1,(fun(c0_0:List Int) (c0_1:Int) (c0_2:Bool)=>(c0_2:Bool)) x.1 x.2.1 x.2.2.1,())
theorem kwm:kjr.Ok Try.prog TB:=Con.ok_fn k3o bd96 fun x h=>k1at (k186 x.1 x.2.1 x.2.2.1 h)
def k1x:Con TB.den:=Con.mk0 95 [.one (.ptr 0 0),.one (.d (.int .i64))] [.cells [.d (.sl (.int .u8)),.d (.int .i64),.d (.bool)]] (.tup [.one (.d (.int .u64)),.one (.d (.bool))]) [.cells [.d (.sl (.int .u8)),.d (.int .i64),.d (.bool)]]
abbrev ktp:=HL TB.den (hsT k1x.ins (hsOs k1x.pre))
abbrev k25:=HL TB.den (hsV k1x.res (hsOs k1x.post))
def k2g:Cx TB:=⟨inf,[kjr],[],4,[]⟩
def k53:Code:=Try.f95.body.getD .skip
def k9u:List ResultVar:=Try.f95.results.toList
def k18f (o:k25):=qS TB k2g 53 1 (cB (cB (cB (cB k53)))) .no (retTQ TB k2g k1x k9u o)
def k6g:Tm:=⟨[0],[.cells [.d (.sl (.int .u8)),.d (.int .i64),.d (.bool)]],[0,1,6,21,22],[.one (.ptr 0 0),.one (.d (.int .i64)),.one (.d (.int .u64)),.one (.d (.int .i64)),.one (.d (.int .i64))],1⟩
def k19b (o:k25) (nx1:NX TB k6g):=qM TB 1 k6g nx1 (blockT TB 0 (k18f o))
def k9p (o:k25) (nx1:NX TB k6g) (i:HL TB.den k6g.hs):Prop:=WP TB k2g 53 1 (cA (cA (cB (cA (cB (cB (cB k53))))))) .no (k6g.fill TB i) (k19b o nx1)
def krx (o:k25):An TB:= .nd [] .no [] (.lp [] k6g (k9p o) fun nx1=> .no)
def k180 (o:k25):=qS TB k2g 53 1 (cB (cB k53)) (.nd [] .no [] (.nd [] (krx o) [] .no)) (retTQ TB k2g k1x k9u o)
def kbh:Tm:=⟨[0],[.cells [.d (.sl (.int .u8)),.d (.int .i64),.d (.bool)]],[0,1,17],[.one (.ptr 0 0),.one (.d (.int .i64)),.one (.d (.bool))],1⟩
def kpi (o:k25) (i:HL TB.den kbh.hs):Prop:=ghs TB [] (kbh.fill TB i) fun s=>WP TB k2g 53 1 (cB (cA (cB k53))) .no s (k180 o)
structure k6h (o:k25) (i:HL TB.den kbh.hs):Prop where
 h:kpi o i
def k18j (o:k25):An TB:= .nd [] (.jn kbh (k6h o) [] .no [] .no) [] (.nd [] .no [] (.nd [] (krx o) [] .no))
def krv (o:k25):An TB:= .nd [] .no [] (k18j o)
def kep (x:ktp) (o:k25):Prop:=WPh TB k2g 53 1 k53 (krv o) (k1x.st TB x) (retTQ TB k2g k1x k9u o)
theorem k15s (o:k25):OblH TB k2g 53 1 k53 (krv o) (retTQ TB k2g k1x k9u o):=
 OblH.ofC (X:=((∀i,(k6h o) i=kpi o i)∧(∀nx i,(k9p o) nx i=(k9p o) nx i)∧(∀nx1:NX TB k6g,True)∧True)) (by kernel_rfl) ⟨fun _=>propext ⟨fun h=>h.1,fun h=>⟨h⟩⟩,fun _ _=>rfl,fun _=>trivial,trivial⟩
theorem k15u {x:ktp} {o:k25} (h:kep x o):k1x.Snd Try.prog x o:=
 Con.soundH (c:=k1x) (C:=k2g) TBok ⟨inf_ok,(all_cons kwm all_nil),all_nil⟩ mix Try.func95 (show Try.f95.body=some k53 by kernel_rfl) (show Try.f95.ntmps=53 by kernel_rfl) (show Try.f95.results.toList=k9u by kernel_rfl) rfl h (k15s o)
theorem k17v {p1:Int} {c0_0:List Int} {c0_1:Int} {c0_2:Bool} {r0:Int} {r1:Bool} {d0_0:List Int} {d0_1:Int} {d0_2:Bool} (h:
((c0_2=true→
k6h (r0,r1,d0_0,d0_1,d0_2,()) (p1,true,c0_0,c0_1,c0_2,()))∧
(c0_2=false→
((0≤c0_1∧c0_1≤c0_0.length)∧c0_0.length≤137438953472)∧let v2:Bool:=decide (((c0_0.length:Int)-c0_1)<p1)
k6h (r0,r1,d0_0,d0_1,d0_2,()) (p1,v2,c0_0,c0_1,c0_2,())))):kep (p1,c0_0,c0_1,c0_2,()) (r0,r1,d0_0,d0_1,d0_2,()):=WPh.of_eq (by kernel_rfl) h
theorem klg {r0:Int} {r1:Bool} {d0_0:List Int} {d0_1:Int} {d0_2:Bool} {s1:Int} {s17:Bool} {h0_0:List Int} {h0_1:Int} {h0_2:Bool} (h:
((s17=true→
0=r0∧false=r1∧h0_0=d0_0∧h0_1=d0_1∧true=d0_2)∧
(s17=false→
Md.Loop (s1,(0:Int),s1,(0:Int),h0_0,h0_1,h0_2,()) (k9p (r0,r1,d0_0,d0_1,d0_2,()))))):k6h (r0,r1,d0_0,d0_1,d0_2,()) (s1,s17,h0_0,h0_1,h0_2,()):=⟨mpr_of (by kernel_rfl) h⟩
def kqu (r0:Int) (r1:Bool) (d0_0:List Int) (d0_1:Int) (d0_2:Bool) (k1:Int→Int→Prop) (s1:Int) (s21:Int) (h0_0:List Int) (h0_1:Int) (h0_2:Bool) (s6:Int) (s22:Int):Prop:=
(decide (s22<s21)=true→
(0≤IntKind.i64.wrap (h0_1+s22))∧IntKind.i64.wrap (h0_1+s22)<(h0_0.length:Int)∧let v3:Int:=IntKind.u64.wrap (ix h0_0 (IntKind.i64.wrap (h0_1+s22)))
(0≤IntKind.i64.wrap (8*s22))∧let v4:Int:=ishl .u64 v3 (IntKind.i64.wrap (8*s22))
k1 (ior .u64 s6 v4:Int) (IntKind.i64.wrap (s22+1):Int))∧
(decide (s22<s21)=false→
s6=r0∧true=r1∧h0_0=d0_0∧IntKind.i64.wrap (h0_1+s1)=d0_1∧h0_2=d0_2)
theorem k15l {r0:Int} {r1:Bool} {d0_0:List Int} {d0_1:Int} {d0_2:Bool} {s1:Int} {s21:Int} {h0_0:List Int} {h0_1:Int} {h0_2:Bool} {s6:Int} {s22:Int} (inv:Int→Int→Prop) (μ:Int→Int→Nat) (h0:inv s6 s22) (hs:∀(s6:Int) (s22:Int),inv s6 s22→kqu r0 r1 d0_0 d0_1 d0_2 (fun s6q s22q=>inv s6q s22q∧μ s6q s22q<μ s6 s22) s1 s21 h0_0 h0_1 h0_2 s6 s22):Md.Loop (s1,s6,s21,s22,h0_0,h0_1,h0_2,()) (k9p (r0,r1,d0_0,d0_1,d0_2,())):=
 ⟨⟨fun s:Int×Int×Int×Int×(List Int)×Int×Bool×Unit=>(s.1=s1∧s.2.2.1=s21∧s.2.2.2.2.1=h0_0∧s.2.2.2.2.2.1=h0_1∧s.2.2.2.2.2.2.1=h0_2)∧inv s.2.1 s.2.2.2.1,fun s:Int×Int×Int×Int×(List Int)×Int×Bool×Unit=>μ s.2.1 s.2.2.2.1,⟨⟨rfl,rfl,rfl,rfl,rfl⟩,h0⟩,fun(s1p,s6p,s21p,s22p,h0_0p,h0_1p,h0_2p,()) ⟨⟨eq0,eq1,eq2,eq3,eq4⟩,hi⟩=>by
  have eq0:s1p=s1:=eq0;subst s1p;have eq1:s21p=s21:=eq1;subst s21p;have eq2:h0_0p=h0_0:=eq2;subst h0_0p;have eq3:h0_1p=h0_1:=eq3;subst h0_1p;have eq4:h0_2p=h0_2:=eq4;subst h0_2p;exact mpr_of (by kernel_rfl) ((congrArg (fun k=>kqu r0 r1 d0_0 d0_1 d0_2 k s1 s21 h0_0 h0_1 h0_2 s6p s22p) (lpk2 (⟨rfl,rfl,rfl,rfl,rfl⟩:s1=s1∧s21=s21∧h0_0=h0_0∧h0_1=h0_1∧h0_2=h0_2) inv (fun s6q s22q=>μ s6q s22q<μ s6p s22p))).mpr (hs s6p s22p hi))⟩⟩
theorem bd95:Callable Try.prog 95:=⟨by rw[Try.func95];kernel_rfl,by rw[Try.func95];show some _≠some _;decide⟩
theorem k11o (p1:Int) (c0_0:List Int) (c0_1:Int) (c0_2:Bool) (h:RdOk c0_0 c0_1∧1≤p1∧p1≤8):kep (p1,c0_0,c0_1,c0_2,()) ((((rdD c0_0 c0_1 c0_2 p1).n):Int),(((rdD c0_0 c0_1 c0_2 p1).ok):Bool),(c0_0:List Int),(((rdD c0_0 c0_1 c0_2 p1).pos):Int),(((rdD c0_0 c0_1 c0_2 p1).fail):Bool),()):=by
 obtain⟨⟨hb,hl,h0,h1⟩,h2,h3⟩:=h
 have jf:(c0_2=true∨(c0_0.length:Int)-c0_1<p1)→k6h ((rdD c0_0 c0_1 c0_2 p1).n,(rdD c0_0 c0_1 c0_2 p1).ok,c0_0,(rdD c0_0 c0_1 c0_2 p1).pos,(rdD c0_0 c0_1 c0_2 p1).fail,()) (p1,true,c0_0,c0_1,c0_2,()):=by
  intro h
  refine klg ⟨fun _=> ?_,fun h=>by simp at h⟩
  unfold rdD
  rw[if_pos h]
  exact⟨rfl,rfl,rfl,rfl,rfl⟩
 have jt:¬(c0_2=true∨(c0_0.length:Int)-c0_1<p1)→k6h ((rdD c0_0 c0_1 c0_2 p1).n,(rdD c0_0 c0_1 c0_2 p1).ok,c0_0,(rdD c0_0 c0_1 c0_2 p1).pos,(rdD c0_0 c0_1 c0_2 p1).fail,()) (p1,false,c0_0,c0_1,c0_2,()):=by
  intro h
  refine klg ⟨fun h=>by simp at h,fun _=> ?_⟩
  have hD:rdD c0_0 c0_1 c0_2 p1=⟨val ((c0_0.drop c0_1.toNat).take p1.toNat),true,c0_1+p1,false⟩:=by unfold rdD;rw[if_neg h]
  rw[hD]
  refine k15l (fun n i=>0≤i∧i≤p1∧n=val ((c0_0.drop c0_1.toNat).take i.toNat)) (fun _ i=>(p1-i).toNat) ⟨by omega,by omega,rfl⟩ ?_
  rintro n i ⟨g0,g1,rfl⟩
  refine⟨fun hh=> ?_,fun hh=> ?_⟩
  ·have hh:=of_decide_eq_true hh
   have hlen:(((c0_0.drop c0_1.toNat).take i.toNat).length:Int)=i:=by rw[List.length_take,List.length_drop];omega
   have hix:ix c0_0 (c0_1+i)=ix (c0_0.drop c0_1.toNat) i:=by
    rw[ix_nat _ _ (by omega) (by omega),ix_nat _ _ g0 (by rw[List.length_drop];omega),List.getElem_drop]
    congr 1
    omega
   have hx:=hb _ (ix_mem c0_0 (c0_1+i) (by omega) (by omega))
   have hv:=ior_val ((c0_0.drop c0_1.toNat).take i.toNat) (ix (c0_0.drop c0_1.toNat) i) ((hb.drop _).take _) (by omega) (by rw[←hix];exact hx)
   rw[hlen]at hv
   rw[inc i p1 g0 hh (by omega),wi (c0_1+i) (by omega) (by omega),wi (8*i) (by omega) (by omega),wu (ix c0_0 (c0_1+i)) (by omega) (by omega),hix]
   simp only[hv]
   refine⟨by omega,by omega,by omega,⟨by omega,by omega,?_⟩,by omega⟩
   rw[k16 _ i g0 (by rw[List.length_drop];omega)]
  ·have hh:=of_decide_eq_false hh
   have h4:c0_2=false:=by
    cases hc:c0_2
    ·rfl
    ·exact absurd (.inl hc) h
   exact⟨by rw[show i=p1 by omega],rfl,rfl,wi _ (by omega) (by omega),h4⟩
 refine k17v ⟨fun h=>jf (.inl h),fun h=>⟨⟨⟨h0,h1⟩,hl⟩,?_⟩⟩
 by_cases hq:(c0_0.length:Int)-c0_1<p1
 ·rw[decide_eq_true hq];exact jf (.inr hq)
 ·rw[decide_eq_false hq];exact jt (by rw[h];simpa using hq)
def kbg:Con TB.den:={k1x with R:=fun x K=>(fun(p1:Int) (c0_0:List Int) (c0_1:Int) (c0_2:Bool)=>((RdOk c0_0 c0_1∧1≤p1∧p1≤8)∧∀(v0:Int) (v1:Bool) (v3:Int) (v4:Bool),(v0=(((rdD c0_0 c0_1 c0_2 p1).n))∧v1=(((rdD c0_0 c0_1 c0_2 p1).ok))∧v3=(((rdD c0_0 c0_1 c0_2 p1).pos))∧v4=(((rdD c0_0 c0_1 c0_2 p1).fail)))→K (v0,v1,(c0_0:List Int),v3,v4,()):Prop)) x.1 x.2.1 x.2.2.1 x.2.2.2.1}
theorem kin:kbg.Ok Try.prog TB:=⟨bd95,fun x K hx=>⟨((fun(p1:Int) (c0_0:List Int) (c0_1:Int) (c0_2:Bool)=>(((rdD c0_0 c0_1 c0_2 p1).n):Int)) x.1 x.2.1 x.2.2.1 x.2.2.2.1,(fun(p1:Int) (c0_0:List Int) (c0_1:Int) (c0_2:Bool)=>(((rdD c0_0 c0_1 c0_2 p1).ok):Bool)) x.1 x.2.1 x.2.2.1 x.2.2.2.1,(fun(p1:Int) (c0_0:List Int) (c0_1:Int) (c0_2:Bool)=>(c0_0:List Int)) x.1 x.2.1 x.2.2.1 x.2.2.2.1,(fun(p1:Int) (c0_0:List Int) (c0_1:Int) (c0_2:Bool)=>(((rdD c0_0 c0_1 c0_2 p1).pos):Int)) x.1 x.2.1 x.2.2.1 x.2.2.2.1,(fun(p1:Int) (c0_0:List Int) (c0_1:Int) (c0_2:Bool)=>(((rdD c0_0 c0_1 c0_2 p1).fail):Bool)) x.1 x.2.1 x.2.2.1 x.2.2.2.1,()),hx.2 ((fun(p1:Int) (c0_0:List Int) (c0_1:Int) (c0_2:Bool)=>((((rdD c0_0 c0_1 c0_2 p1).n)))) x.1 x.2.1 x.2.2.1 x.2.2.2.1) ((fun(p1:Int) (c0_0:List Int) (c0_1:Int) (c0_2:Bool)=>((((rdD c0_0 c0_1 c0_2 p1).ok)))) x.1 x.2.1 x.2.2.1 x.2.2.2.1) ((fun(p1:Int) (c0_0:List Int) (c0_1:Int) (c0_2:Bool)=>((((rdD c0_0 c0_1 c0_2 p1).pos)))) x.1 x.2.1 x.2.2.1 x.2.2.2.1) ((fun(p1:Int) (c0_0:List Int) (c0_1:Int) (c0_2:Bool)=>((((rdD c0_0 c0_1 c0_2 p1).fail)))) x.1 x.2.1 x.2.2.1 x.2.2.2.1) ⟨rfl,rfl,rfl,rfl⟩,k15u (k11o x.1 x.2.1 x.2.2.1 x.2.2.2.1 hx.1)⟩⟩
def k40:Con TB.den:=Con.mk0 54 [.one (.ptr 0 0),.one (.d (.int .i64))] [.cells [.d (.sl (.int .u8)),.d (.int .i64),.d (.bool)]] (.one (.one (.d (.int .i64)))) [.cells [.d (.sl (.int .u8)),.d (.int .i64),.d (.bool)]]
abbrev k14i:=HL TB.den (hsT k40.ins (hsOs k40.pre))
abbrev k87:=HL TB.den (hsV k40.res (hsOs k40.post))
def k77:Cx TB:=⟨inf,[kbg],[],4,[]⟩
def kaw:Code:=Try.f54.body.getD .skip
def khx:List ResultVar:=Try.f54.results.toList
def k1gg (o:k87):=qS TB k77 25 1 (cB (cB (cB kaw))) .no (retTQ TB k77 k40 khx o)
def kgc:Tm:=⟨[0],[.cells [.d (.sl (.int .u8)),.d (.int .i64),.d (.bool)]],[0,5,19],[.one (.ptr 0 0),.one (.d (.int .u64)),.one (.d (.bool))],1⟩
def kvt (o:k87) (i:HL TB.den kgc.hs):Prop:=ghs TB [] (kgc.fill TB i) fun s=>WP TB k77 25 1 (cB (cA (cB (cB kaw)))) .no s (k1gg o)
structure kds (o:k87) (i:HL TB.den kgc.hs):Prop where
 h:kvt o i
def k1g0 (o:k87):An TB:= .nd [] (.jn kgc (kds o) [] .no [] .no) [] .no
def k109 (o:k87):An TB:= .nd [] .no [] (.nd [] .no [] (k1g0 o))
def kkg (x:k14i) (o:k87):Prop:=WPh TB k77 25 1 kaw (k109 o) (k40.st TB x) (retTQ TB k77 k40 khx o)
theorem k1cr (o:k87):OblH TB k77 25 1 kaw (k109 o) (retTQ TB k77 k40 khx o):=
 OblH.ofC (X:=((∀i,(kds o) i=kvt o i)∧True)) (by kernel_rfl) ⟨fun _=>propext ⟨fun h=>h.1,fun h=>⟨h⟩⟩,trivial⟩
theorem k1e1 {x:k14i} {o:k87} (h:kkg x o):k40.Snd Try.prog x o:=
 Con.soundH (c:=k40) (C:=k77) TBok ⟨inf_ok,(all_cons kin all_nil),all_nil⟩ mix Try.func54 (show Try.f54.body=some kaw by kernel_rfl) (show Try.f54.ntmps=25 by kernel_rfl) (show Try.f54.results.toList=khx by kernel_rfl) rfl h (k1cr o)
theorem k1hx {p1:Int} {c0_0:List Int} {c0_1:Int} {c0_2:Bool} {r0:Int} {d0_0:List Int} {d0_1:Int} {d0_2:Bool} (h:
((RdOk c0_0 c0_1∧1≤(4:Int)∧(4:Int)≤8)∧∀(r5:Int) (r6:Bool) (r7:Int) (r8:Bool),(r5=((rdD c0_0 c0_1 c0_2 (4:Int)).n)∧r6=((rdD c0_0 c0_1 c0_2 (4:Int)).ok)∧r7=((rdD c0_0 c0_1 c0_2 (4:Int)).pos)∧r8=((rdD c0_0 c0_1 c0_2 (4:Int)).fail))→((!r6)=true→
kds (r0,d0_0,d0_1,d0_2,()) (r5,true,c0_0,r7,r8,()))∧
((!r6)=false→
kds (r0,d0_0,d0_1,d0_2,()) (r5,(decide (p1<(IntKind.i64.wrap r5)):Bool),c0_0,r7,r8,())))):kkg (p1,c0_0,c0_1,c0_2,()) (r0,d0_0,d0_1,d0_2,()):=WPh.of_eq (by kernel_rfl) h
theorem krh {r0:Int} {d0_0:List Int} {d0_1:Int} {d0_2:Bool} {s5:Int} {s19:Bool} {h0_0:List Int} {h0_1:Int} {h0_2:Bool} (h:
((s19=true→
0=r0∧h0_0=d0_0∧h0_1=d0_1∧true=d0_2)∧
(s19=false→
IntKind.i64.wrap s5=r0∧h0_0=d0_0∧h0_1=d0_1∧h0_2=d0_2))):kds (r0,d0_0,d0_1,d0_2,()) (s5,s19,h0_0,h0_1,h0_2,()):=⟨mpr_of (by kernel_rfl) h⟩
theorem bd54:Callable Try.prog 54:=⟨by rw[Try.func54];kernel_rfl,by rw[Try.func54];show some _≠some _;decide⟩
theorem k1bo (p1:Int) (c0_0:List Int) (c0_1:Int) (c0_2:Bool) (h:RdOk c0_0 c0_1):kkg (p1,c0_0,c0_1,c0_2,()) ((((rdI c0_0 c0_1 c0_2 p1).n):Int),(c0_0:List Int),(((rdI c0_0 c0_1 c0_2 p1).pos):Int),(((rdI c0_0 c0_1 c0_2 p1).fail):Bool),()):=by
 have hn:0≤(rdD c0_0 c0_1 c0_2 4).n∧(rdD c0_0 c0_1 c0_2 4).n<4294967296:=k13c h (p:=4) (f:=c0_2) (by omega) (by omega)
 refine k1hx ⟨⟨h,by omega,by omega⟩,?_⟩
 rintro _ _ _ _ ⟨rfl,rfl,rfl,rfl⟩
 unfold rdI
 rw[wi (rdD c0_0 c0_1 c0_2 4).n (by omega) (by have:=hn.2;omega)]
 refine⟨fun e=>krh ⟨fun _=> ?_,fun h=>by simp at h⟩,fun e=>krh ⟨fun e2=> ?_,fun e2=> ?_⟩⟩
 ·have e:(rdD c0_0 c0_1 c0_2 4).ok=false:=by simpa using e
  rw[e]
  exact⟨rfl,rfl,rfl,rfl⟩
 ·have e:(rdD c0_0 c0_1 c0_2 4).ok=true:=by simpa using e
  have e2:=of_decide_eq_true e2
  rw[if_pos (.inr e2)]
  exact⟨rfl,rfl,rfl,rfl⟩
 ·have e:(rdD c0_0 c0_1 c0_2 4).ok=true:=by simpa using e
  have e2:=of_decide_eq_false e2
  rw[if_neg (by rw[e];simpa using e2)]
  exact⟨wi _ (by omega) (by have:=hn.2;omega),rfl,rfl,rfl⟩
def km4:Con TB.den:={k40 with R:=fun x K=>(fun(p1:Int) (c0_0:List Int) (c0_1:Int) (c0_2:Bool)=>((RdOk c0_0 c0_1)∧∀(v0:Int) (v2:Int) (v3:Bool),(v0=(((rdI c0_0 c0_1 c0_2 p1).n))∧v2=(((rdI c0_0 c0_1 c0_2 p1).pos))∧v3=(((rdI c0_0 c0_1 c0_2 p1).fail)))→K (v0,(c0_0:List Int),v2,v3,()):Prop)) x.1 x.2.1 x.2.2.1 x.2.2.2.1}
theorem kyj:km4.Ok Try.prog TB:=⟨bd54,fun x K hx=>⟨((fun(p1:Int) (c0_0:List Int) (c0_1:Int) (c0_2:Bool)=>(((rdI c0_0 c0_1 c0_2 p1).n):Int)) x.1 x.2.1 x.2.2.1 x.2.2.2.1,(fun(p1:Int) (c0_0:List Int) (c0_1:Int) (c0_2:Bool)=>(c0_0:List Int)) x.1 x.2.1 x.2.2.1 x.2.2.2.1,(fun(p1:Int) (c0_0:List Int) (c0_1:Int) (c0_2:Bool)=>(((rdI c0_0 c0_1 c0_2 p1).pos):Int)) x.1 x.2.1 x.2.2.1 x.2.2.2.1,(fun(p1:Int) (c0_0:List Int) (c0_1:Int) (c0_2:Bool)=>(((rdI c0_0 c0_1 c0_2 p1).fail):Bool)) x.1 x.2.1 x.2.2.1 x.2.2.2.1,()),hx.2 ((fun(p1:Int) (c0_0:List Int) (c0_1:Int) (c0_2:Bool)=>((((rdI c0_0 c0_1 c0_2 p1).n)))) x.1 x.2.1 x.2.2.1 x.2.2.2.1) ((fun(p1:Int) (c0_0:List Int) (c0_1:Int) (c0_2:Bool)=>((((rdI c0_0 c0_1 c0_2 p1).pos)))) x.1 x.2.1 x.2.2.1 x.2.2.2.1) ((fun(p1:Int) (c0_0:List Int) (c0_1:Int) (c0_2:Bool)=>((((rdI c0_0 c0_1 c0_2 p1).fail)))) x.1 x.2.1 x.2.2.1 x.2.2.2.1) ⟨rfl,rfl,rfl⟩,k1e1 (k1bo x.1 x.2.1 x.2.2.1 x.2.2.2.1 hx.1)⟩⟩
def k2n:Con TB.den:=Con.mk0 57 [.one (.ptr 0 0),.one (.d (.int .i64)),.one (.d (.int .u64))] [.cells [.d (.sl (.int .u8)),.d (.int .i64),.d (.bool)]] (.one (.one (.d (.sl (.int .u64))))) [.cells [.d (.sl (.int .u8)),.d (.int .i64),.d (.bool)]]
abbrev kyp:=HL TB.den (hsT k2n.ins (hsOs k2n.pre))
abbrev k39:=HL TB.den (hsV k2n.res (hsOs k2n.post))
def k3k:Cx TB:=⟨inf,[km4,kjr,kbg],[],4,[]⟩
def k6d:Code:=Try.f57.body.getD .skip
def kc9:List ResultVar:=Try.f57.results.toList
def k1e5 (o:k39):=qS TB k3k 53 1 (cB (cB (cB (cB (cB k6d))))) (.nd [] .no [] (.rt [.frz 1 [6]])) (retTQ TB k3k k2n kc9 o)
def k9h:Tm:=⟨[0,1],[.cells [.d (.sl (.int .u8)),.d (.int .i64),.d (.bool)],.vec (.int .u64)],[0,2,8,30,31],[.one (.ptr 0 0),.one (.d (.int .u64)),.one (.row 1),.one (.d (.int .i64)),.one (.d (.int .i64))],2⟩
def kbq (o:k39) (nx1:NX TB k9h) (i:HL TB.den k9h.hs):Prop:=WP TB k3k 53 1 (cA (cA (cB (cA (cB (cB (cB (cB k6d)))))))) .no (k9h.fill TB i) (qM TB 1 k9h nx1 (blockT TB 0 (k1e5 o)))
def k1ei (o:k39):An TB:= .nd [] .no [] (.lp [] k9h (kbq o) fun nx1=> .no)
def kvo (o:k39):An TB:= .nd [] (k1ei o) [] (.nd [] .no [] (.rt [.frz 1 [6]]))
def k1cq (o:k39):=qS TB k3k 53 1 (cB (cB (cB k6d))) (.nd [] .no [] (kvo o)) (retTQ TB k3k k2n kc9 o)
def ked:Tm:=⟨[0],[.cells [.d (.sl (.int .u8)),.d (.int .i64),.d (.bool)]],[0,2,7,23],[.one (.ptr 0 0),.one (.d (.int .u64)),.one (.d (.int .i64)),.one (.d (.bool))],1⟩
def ktj (o:k39) (i:HL TB.den ked.hs):Prop:=ghs TB [] (ked.fill TB i) fun s=>WP TB k3k 53 1 (cB (cA (cB (cB k6d)))) .no s (k1cq o)
structure k7g (o:k39) (i:HL TB.den ked.hs):Prop where
 h:ktj o i
def k1eo (o:k39):An TB:= .nd [] (.jn ked (k7g o) [] .no [] .no) [] (.nd [] .no [] (kvo o))
def kvj (o:k39):An TB:= .nd [] .no [] (.nd [] .no [] (k1eo o))
def kj4 (x:kyp) (o:k39):Prop:=WPh TB k3k 53 1 k6d (kvj o) (k2n.st TB x) (retTQ TB k3k k2n kc9 o)
theorem k1b2 (o:k39):OblH TB k3k 53 1 k6d (kvj o) (retTQ TB k3k k2n kc9 o):=
 OblH.ofC (X:=((∀i,(k7g o) i=ktj o i)∧(∀nx i,(kbq o) nx i=(kbq o) nx i)∧(∀nx1:NX TB k9h,True)∧True)) (by kernel_rfl) ⟨fun _=>propext ⟨fun h=>h.1,fun h=>⟨h⟩⟩,fun _ _=>rfl,fun _=>trivial,trivial⟩
theorem k1bt {x:kyp} {o:k39} (h:kj4 x o):k2n.Snd Try.prog x o:=
 Con.soundH (c:=k2n) (C:=k3k) TBok ⟨inf_ok,(all_cons kyj (all_cons kwm (all_cons kin all_nil))),all_nil⟩ mix Try.func57 (show Try.f57.body=some k6d by kernel_rfl) (show Try.f57.ntmps=53 by kernel_rfl) (show Try.f57.results.toList=kc9 by kernel_rfl) rfl h (k1b2 o)
theorem k1eq {p1:Int} {p2:Int} {c0_0:List Int} {c0_1:Int} {c0_2:Bool} {r0:List Int} {d0_0:List Int} {d0_1:Int} {d0_2:Bool} (h:
((RdOk c0_0 c0_1)∧∀(r4:Int) (r5:Int) (r6:Bool),(r4=((rdI c0_0 c0_1 c0_2 p1).n)∧r5=((rdI c0_0 c0_1 c0_2 p1).pos)∧r6=((rdI c0_0 c0_1 c0_2 p1).fail))→(r6=true→
k7g (r0,d0_0,d0_1,d0_2,()) (p2,r4,true,c0_0,r5,r6,()))∧
(r6=false→
((0≤r5∧r5≤c0_0.length)∧c0_0.length≤137438953472)∧let v7:Int:=IntKind.i64.wrap (Int.tdiv ((c0_0.length:Int)-r5) 8)
k7g (r0,d0_0,d0_1,d0_2,()) (p2,r4,(decide (v7<r4):Bool),c0_0,r5,r6,())))):kj4 (p1,p2,c0_0,c0_1,c0_2,()) (r0,d0_0,d0_1,d0_2,()):=WPh.of_eq (by kernel_rfl) h
theorem kq3 {r0:List Int} {d0_0:List Int} {d0_1:Int} {d0_2:Bool} {s2:Int} {s7:Int} {s23:Bool} {h0_0:List Int} {h0_1:Int} {h0_2:Bool} (h:
((s23=true→
([]:List Int)=r0∧h0_0=d0_0∧h0_1=d0_1∧true=d0_2)∧
(s23=false→
0≤s7∧s7≤s7∧(s7.toNat*8≤140737488355328)∧(s7.toNat≤maxLen)∧(s7.toNat=(List.replicate s7.toNat (0:Int)).length)∧Md.Loop (s2,((s7.toNat:Int):Int),(0:Int),h0_0,h0_1,h0_2,(List.replicate s7.toNat (0:Int):List Int),()) (kbq (r0,d0_0,d0_1,d0_2,()))))):k7g (r0,d0_0,d0_1,d0_2,()) (s2,s7,s23,h0_0,h0_1,h0_2,()):=⟨mpr_of (by kernel_rfl) h⟩
def kwg (r0:List Int) (d0_0:List Int) (d0_1:Int) (d0_2:Bool) (k1:Int→Int→Bool→List Int→Prop) (s2:Int) (s30:Int) (h0_0:List Int) (s31:Int) (h0_1:Int) (h0_2:Bool) (g1:List Int):Prop:=
(decide (s31<s30)=true→
(RdOk h0_0 h0_1∧1≤(8:Int)∧(8:Int)≤8)∧∀(r36:Int) (r37:Bool) (r38:Int) (r39:Bool),(r36=((rdD h0_0 h0_1 h0_2 (8:Int)).n)∧r37=((rdD h0_0 h0_1 h0_2 (8:Int)).ok)∧r38=((rdD h0_0 h0_1 h0_2 (8:Int)).pos)∧r39=((rdD h0_0 h0_1 h0_2 (8:Int)).fail))→(0≤s31∧s31<(g1.length:Int))∧(0≤s31∧s31<(g1.length:Int))∧(0≤s31∧s31<(g1.length:Int))∧(0≤s31∧s31<((g1.set s31.toNat r36).length:Int))∧let v40:Bool:=decide (s2≤(ix (g1.set s31.toNat r36) s31))
(v40=true→
([]:List Int)=r0∧h0_0=d0_0∧r38=d0_1∧true=d0_2)∧
(v40=false→
(g1.length=(g1.set s31.toNat r36).length)∧k1 (IntKind.i64.wrap (s31+1):Int) r38 r39 (g1.set s31.toNat r36:List Int)))∧
(decide (s31<s30)=false→
(g1.length=g1.length)∧g1=r0∧h0_0=d0_0∧h0_1=d0_1∧h0_2=d0_2)
theorem k1bl {r0:List Int} {d0_0:List Int} {d0_1:Int} {d0_2:Bool} {s2:Int} {s30:Int} {h0_0:List Int} {s31:Int} {h0_1:Int} {h0_2:Bool} {g1:List Int} (inv:Int→Int→Bool→List Int→Prop) (μ:Int→Int→Bool→List Int→Nat) (h0:inv s31 h0_1 h0_2 g1) (hs:∀(s31:Int) (h0_1:Int) (h0_2:Bool) (g1:List Int),inv s31 h0_1 h0_2 g1→kwg r0 d0_0 d0_1 d0_2 (fun s31q h0_1q h0_2q g1q=>inv s31q h0_1q h0_2q g1q∧μ s31q h0_1q h0_2q g1q<μ s31 h0_1 h0_2 g1) s2 s30 h0_0 s31 h0_1 h0_2 g1):Md.Loop (s2,s30,s31,h0_0,h0_1,h0_2,g1,()) (kbq (r0,d0_0,d0_1,d0_2,())):=
 ⟨⟨fun s:Int×Int×Int×(List Int)×Int×Bool×(List Int)×Unit=>(s.1=s2∧s.2.1=s30∧s.2.2.2.1=h0_0)∧inv s.2.2.1 s.2.2.2.2.1 s.2.2.2.2.2.1 s.2.2.2.2.2.2.1,fun s:Int×Int×Int×(List Int)×Int×Bool×(List Int)×Unit=>μ s.2.2.1 s.2.2.2.2.1 s.2.2.2.2.2.1 s.2.2.2.2.2.2.1,⟨⟨rfl,rfl,rfl⟩,h0⟩,fun(s2p,s30p,s31p,h0_0p,h0_1p,h0_2p,g1p,()) ⟨⟨eq0,eq1,eq2⟩,hi⟩=>by
  have eq0:s2p=s2:=eq0;subst s2p;have eq1:s30p=s30:=eq1;subst s30p;have eq2:h0_0p=h0_0:=eq2;subst h0_0p;exact mpr_of (by kernel_rfl) ((congrArg (fun k=>kwg r0 d0_0 d0_1 d0_2 k s2 s30 h0_0 s31p h0_1p h0_2p g1p) (lpk4 (⟨rfl,rfl,rfl⟩:s2=s2∧s30=s30∧h0_0=h0_0) inv (fun s31q h0_1q h0_2q g1q=>μ s31q h0_1q h0_2q g1q<μ s31p h0_1p h0_2p g1p))).mpr (hs s31p h0_1p h0_2p g1p hi))⟩⟩
theorem bd57:Callable Try.prog 57:=⟨by rw[Try.func57];kernel_rfl,by rw[Try.func57];show some _≠some _;decide⟩
theorem k17k (p1:Int) (p2:Int) (c0_0:List Int) (c0_1:Int) (c0_2:Bool) (h:RdOk c0_0 c0_1∧(0≤p1∧p1≤4096)):kj4 (p1,p2,c0_0,c0_1,c0_2,()) ((((rdL c0_0 c0_1 c0_2 p1 p2).l):List Int),(c0_0:List Int),(((rdL c0_0 c0_1 c0_2 p1 p2).pos):Int),(((rdL c0_0 c0_1 c0_2 p1 p2).fail):Bool),()):=by
 obtain⟨h,hp0,hp1⟩:=h
 have hI:=rdI_ok h (f:=c0_2) (m:=p1)
 have hIn:=rdI_n h (f:=c0_2) (m:=p1) hp0
 have hb:=h.by_
 have hl:=h.len
 generalize hX:rdI c0_0 c0_1 c0_2 p1=X at *
 have jf:(X.fail=true∨((c0_0.length:Int)-X.pos)/8<X.n)→k7g ((rdL c0_0 c0_1 c0_2 p1 p2).l,c0_0,(rdL c0_0 c0_1 c0_2 p1 p2).pos,(rdL c0_0 c0_1 c0_2 p1 p2).fail,()) (p2,X.n,true,c0_0,X.pos,X.fail,()):=by
  intro hf
  refine kq3 ⟨fun _=> ?_,fun h=>by simp at h⟩
  unfold rdL
  rw[hX,if_pos hf]
  exact⟨rfl,rfl,rfl,rfl⟩
 have jt:¬(X.fail=true∨((c0_0.length:Int)-X.pos)/8<X.n)→k7g ((rdL c0_0 c0_1 c0_2 p1 p2).l,c0_0,(rdL c0_0 c0_1 c0_2 p1 p2).pos,(rdL c0_0 c0_1 c0_2 p1 p2).fail,()) (p2,X.n,false,c0_0,X.pos,X.fail,()):=by
  intro hf
  have hff:X.fail=false:=by
   cases hc:X.fail
   ·rfl
   ·exact absurd (.inl hc) hf
  have hle:X.n*8≤(c0_0.length:Int)-X.pos:=by
   have:¬((c0_0.length:Int)-X.pos)/8<X.n:=fun h=>hf (.inr h)
   omega
  refine kq3 ⟨fun h=>by simp at h,fun _=>⟨hIn.1,by omega,by have:=hIn.2;omega,by have:=hIn.2;unfold maxLen;omega,by simp,?_⟩⟩
  have hL:rdL c0_0 c0_1 c0_2 p1 p2=rdLs c0_0 p2 X.n.toNat X.pos []:=by unfold rdL;rw[hX,if_neg hf]
  rw[hff]
  have hnn:((X.n.toNat:Int))=X.n:=by have:=hIn.1;omega
  rw[hnn,hL]
  refine k1bl (fun i pos f g=>0≤i∧i≤X.n∧f=false∧0≤pos∧pos+(X.n-i)*8≤c0_0.length∧(g.length:Int)=X.n∧rdLs c0_0 p2 (X.n-i).toNat pos (g.take i.toNat)=rdLs c0_0 p2 X.n.toNat X.pos []) (fun i _ _ _=>(X.n-i).toNat) ⟨by omega,hIn.1,rfl,hI.pos0,by omega,by simp;have:=hIn.1;omega,by simp⟩ ?_
  rintro i pos f g ⟨g0,g1,rfl,g2,g3,g4,g5⟩
  have hok:RdOk c0_0 pos:=⟨hb,hl,g2,by omega⟩
  refine⟨fun hh=> ?_,fun hh=> ?_⟩
  ·have hh:=of_decide_eq_true hh
   have hD:rdD c0_0 pos false 8=⟨val ((c0_0.drop pos.toNat).take 8),true,pos+8,false⟩:=by unfold rdD;rw[if_neg (by simp;omega)];rfl
   have hset:ix (g.set i.toNat (val ((c0_0.drop pos.toNat).take 8))) i=val ((c0_0.drop pos.toNat).take 8):=by
    rw[ix_nat _ i g0 (by rw[List.length_set];omega)]
    simp
   have hstep:rdLs c0_0 p2 (X.n-i).toNat pos (g.take i.toNat)=if p2≤val ((c0_0.drop pos.toNat).take 8)then⟨[],pos+8,true⟩else rdLs c0_0 p2 (X.n-(i+1)).toNat (pos+8) (g.take i.toNat++[val ((c0_0.drop pos.toNat).take 8)]):=by
    rw[show(X.n-i).toNat=(X.n-(i+1)).toNat+1 by omega]
    rfl
   refine⟨⟨hok,by omega,by omega⟩,fun n1 n2 n3 n4 e=> ?_⟩
   rw[hD]at e
   obtain⟨rfl,rfl,rfl,rfl⟩:=e
   refine⟨by omega,by omega,by omega,by rw[List.length_set];omega,fun e=> ?_,fun e=>⟨by rw[List.length_set],?_⟩⟩
   ·have e:=of_decide_eq_true e
    rw[hset]at e
    rw[←g5,hstep,if_pos e]
    exact⟨rfl,rfl,rfl,rfl⟩
   ·have e:=of_decide_eq_false e
    rw[hset]at e
    rw[inc i X.n g0 hh (by have:=hIn.2;omega)]
    refine⟨⟨by omega,by omega,rfl,by show 0≤pos+8;omega,by show pos+8+(X.n-(i+1))*8≤_;omega,by rw[List.length_set];exact g4,?_⟩,by omega⟩
    rw[←g5,hstep,if_neg e]
    congr 1
    rw[k16 _ i g0 (by rw[List.length_set];omega),hset]
    congr 1
    rw[List.take_set_of_le (by omega)]
  ·have hh:=of_decide_eq_false hh
   have hi:i=X.n:=by omega
   subst hi
   rw[Int.sub_self,List.take_of_length_le (by omega)]at g5
   rw[←g5]
   exact⟨rfl,rfl,rfl,rfl,rfl⟩
 refine k1eq ⟨h,?_⟩
 rintro _ _ _ ⟨rfl,rfl,rfl⟩
 rw[hX]
 refine⟨fun e=>jf (.inl e),fun e=>⟨⟨⟨hI.pos0,hI.pos1⟩,hl⟩,?_⟩⟩
 have:=hI.pos0
 have:=hI.pos1
 try simp only[]
 rw[tdiv_nn _ _ (by omega),wi _ (by omega) (by omega)]
 by_cases hq:((c0_0.length:Int)-X.pos)/8<X.n
 ·rw[decide_eq_true hq];exact jf (.inr hq)
 ·rw[decide_eq_false hq];exact jt (by rw[e];simpa using hq)
def kt0:Con TB.den:={k2n with R:=fun x K=>(fun(p1:Int) (p2:Int) (c0_0:List Int) (c0_1:Int) (c0_2:Bool)=>((RdOk c0_0 c0_1∧(0≤p1∧p1≤4096))∧∀(v0:List Int) (v2:Int) (v3:Bool),(v0=(((rdL c0_0 c0_1 c0_2 p1 p2).l))∧v2=(((rdL c0_0 c0_1 c0_2 p1 p2).pos))∧v3=(((rdL c0_0 c0_1 c0_2 p1 p2).fail)))→K (v0,(c0_0:List Int),v2,v3,()):Prop)) x.1 x.2.1 x.2.2.1 x.2.2.2.1 x.2.2.2.2.1}
theorem k1dh:kt0.Ok Try.prog TB:=⟨bd57,fun x K hx=>⟨((fun(p1:Int) (p2:Int) (c0_0:List Int) (c0_1:Int) (c0_2:Bool)=>(((rdL c0_0 c0_1 c0_2 p1 p2).l):List Int)) x.1 x.2.1 x.2.2.1 x.2.2.2.1 x.2.2.2.2.1,(fun(p1:Int) (p2:Int) (c0_0:List Int) (c0_1:Int) (c0_2:Bool)=>(c0_0:List Int)) x.1 x.2.1 x.2.2.1 x.2.2.2.1 x.2.2.2.2.1,(fun(p1:Int) (p2:Int) (c0_0:List Int) (c0_1:Int) (c0_2:Bool)=>(((rdL c0_0 c0_1 c0_2 p1 p2).pos):Int)) x.1 x.2.1 x.2.2.1 x.2.2.2.1 x.2.2.2.2.1,(fun(p1:Int) (p2:Int) (c0_0:List Int) (c0_1:Int) (c0_2:Bool)=>(((rdL c0_0 c0_1 c0_2 p1 p2).fail):Bool)) x.1 x.2.1 x.2.2.1 x.2.2.2.1 x.2.2.2.2.1,()),hx.2 ((fun(p1:Int) (p2:Int) (c0_0:List Int) (c0_1:Int) (c0_2:Bool)=>((((rdL c0_0 c0_1 c0_2 p1 p2).l)))) x.1 x.2.1 x.2.2.1 x.2.2.2.1 x.2.2.2.2.1) ((fun(p1:Int) (p2:Int) (c0_0:List Int) (c0_1:Int) (c0_2:Bool)=>((((rdL c0_0 c0_1 c0_2 p1 p2).pos)))) x.1 x.2.1 x.2.2.1 x.2.2.2.1 x.2.2.2.2.1) ((fun(p1:Int) (p2:Int) (c0_0:List Int) (c0_1:Int) (c0_2:Bool)=>((((rdL c0_0 c0_1 c0_2 p1 p2).fail)))) x.1 x.2.1 x.2.2.1 x.2.2.2.1 x.2.2.2.2.1) ⟨rfl,rfl,rfl⟩,k1bt (k17k x.1 x.2.1 x.2.2.1 x.2.2.2.1 x.2.2.2.2.1 hx.1)⟩⟩
def k3p:Con TB.den:=Con.mk0 56 [.one (.ptr 0 0),.one (.d (.int .u64))] [.cells [.d (.sl (.int .u8)),.d (.int .i64),.d (.bool)]] (.one (.one (.d (.int .u64)))) [.cells [.d (.sl (.int .u8)),.d (.int .i64),.d (.bool)]]
abbrev kz0:=HL TB.den (hsT k3p.ins (hsOs k3p.pre))
abbrev k74:=HL TB.den (hsV k3p.res (hsOs k3p.post))
def k6k:Cx TB:=⟨inf,[kbg],[],4,[]⟩
def k9t:Code:=Try.f56.body.getD .skip
def kgg:List ResultVar:=Try.f56.results.toList
def k1e3 (o:k74):=qS TB k6k 23 1 (cB (cB (cB k9t))) .no (retTQ TB k6k k3p kgg o)
def kec:Tm:=⟨[0],[.cells [.d (.sl (.int .u8)),.d (.int .i64),.d (.bool)]],[0,5,18],[.one (.ptr 0 0),.one (.d (.int .u64)),.one (.d (.bool))],1⟩
def ktc (o:k74) (i:HL TB.den kec.hs):Prop:=ghs TB [] (kec.fill TB i) fun s=>WP TB k6k 23 1 (cB (cA (cB (cB k9t)))) .no s (k1e3 o)
structure kcg (o:k74) (i:HL TB.den kec.hs):Prop where
 h:ktc o i
def k1d4 (o:k74):An TB:= .nd [] (.jn kec (kcg o) [] .no [] .no) [] .no
def kwd (o:k74):An TB:= .nd [] .no [] (.nd [] .no [] (k1d4 o))
def kit (x:kz0) (o:k74):Prop:=WPh TB k6k 23 1 k9t (kwd o) (k3p.st TB x) (retTQ TB k6k k3p kgg o)
theorem k1b3 (o:k74):OblH TB k6k 23 1 k9t (kwd o) (retTQ TB k6k k3p kgg o):=
 OblH.ofC (X:=((∀i,(kcg o) i=ktc o i)∧True)) (by kernel_rfl) ⟨fun _=>propext ⟨fun h=>h.1,fun h=>⟨h⟩⟩,trivial⟩
theorem k1ca {x:kz0} {o:k74} (h:kit x o):k3p.Snd Try.prog x o:=
 Con.soundH (c:=k3p) (C:=k6k) TBok ⟨inf_ok,(all_cons kin all_nil),all_nil⟩ mix Try.func56 (show Try.f56.body=some k9t by kernel_rfl) (show Try.f56.ntmps=23 by kernel_rfl) (show Try.f56.results.toList=kgg by kernel_rfl) rfl h (k1b3 o)
theorem k1d6 {p1:Int} {c0_0:List Int} {c0_1:Int} {c0_2:Bool} {r0:Int} {d0_0:List Int} {d0_1:Int} {d0_2:Bool} (h:
((RdOk c0_0 c0_1∧1≤(8:Int)∧(8:Int)≤8)∧∀(r5:Int) (r6:Bool) (r7:Int) (r8:Bool),(r5=((rdD c0_0 c0_1 c0_2 (8:Int)).n)∧r6=((rdD c0_0 c0_1 c0_2 (8:Int)).ok)∧r7=((rdD c0_0 c0_1 c0_2 (8:Int)).pos)∧r8=((rdD c0_0 c0_1 c0_2 (8:Int)).fail))→((!r6)=true→
kcg (r0,d0_0,d0_1,d0_2,()) (r5,true,c0_0,r7,r8,()))∧
((!r6)=false→
kcg (r0,d0_0,d0_1,d0_2,()) (r5,(decide (p1<r5):Bool),c0_0,r7,r8,())))):kit (p1,c0_0,c0_1,c0_2,()) (r0,d0_0,d0_1,d0_2,()):=WPh.of_eq (by kernel_rfl) h
theorem kpl {r0:Int} {d0_0:List Int} {d0_1:Int} {d0_2:Bool} {s5:Int} {s18:Bool} {h0_0:List Int} {h0_1:Int} {h0_2:Bool} (h:
((s18=true→
0=r0∧h0_0=d0_0∧h0_1=d0_1∧true=d0_2)∧
(s18=false→
s5=r0∧h0_0=d0_0∧h0_1=d0_1∧h0_2=d0_2))):kcg (r0,d0_0,d0_1,d0_2,()) (s5,s18,h0_0,h0_1,h0_2,()):=⟨mpr_of (by kernel_rfl) h⟩
theorem bd56:Callable Try.prog 56:=⟨by rw[Try.func56];kernel_rfl,by rw[Try.func56];show some _≠some _;decide⟩
theorem k18i (p1:Int) (c0_0:List Int) (c0_1:Int) (c0_2:Bool) (h:RdOk c0_0 c0_1):kit (p1,c0_0,c0_1,c0_2,()) ((((rdU c0_0 c0_1 c0_2 p1).n):Int),(c0_0:List Int),(((rdU c0_0 c0_1 c0_2 p1).pos):Int),(((rdU c0_0 c0_1 c0_2 p1).fail):Bool),()):=by
 refine k1d6 ⟨⟨h,by omega,by omega⟩,?_⟩
 rintro _ _ _ _ ⟨rfl,rfl,rfl,rfl⟩
 unfold rdU
 refine⟨fun e=>kpl ⟨fun _=> ?_,fun h=>by simp at h⟩,fun e=>kpl ⟨fun e2=> ?_,fun e2=> ?_⟩⟩
 ·have e:(rdD c0_0 c0_1 c0_2 8).ok=false:=by simpa using e
  rw[e]
  exact⟨rfl,rfl,rfl,rfl⟩
 ·have e:(rdD c0_0 c0_1 c0_2 8).ok=true:=by simpa using e
  have e2:=of_decide_eq_true e2
  rw[if_pos (.inr e2)]
  exact⟨rfl,rfl,rfl,rfl⟩
 ·have e:(rdD c0_0 c0_1 c0_2 8).ok=true:=by simpa using e
  have e2:=of_decide_eq_false e2
  rw[if_neg (by rw[e];simpa using e2)]
  exact⟨rfl,rfl,rfl,rfl⟩
def kkn:Con TB.den:={k3p with R:=fun x K=>(fun(p1:Int) (c0_0:List Int) (c0_1:Int) (c0_2:Bool)=>((RdOk c0_0 c0_1)∧∀(v0:Int) (v2:Int) (v3:Bool),(v0=(((rdU c0_0 c0_1 c0_2 p1).n))∧v2=(((rdU c0_0 c0_1 c0_2 p1).pos))∧v3=(((rdU c0_0 c0_1 c0_2 p1).fail)))→K (v0,(c0_0:List Int),v2,v3,()):Prop)) x.1 x.2.1 x.2.2.1 x.2.2.2.1}
theorem kwh:kkn.Ok Try.prog TB:=⟨bd56,fun x K hx=>⟨((fun(p1:Int) (c0_0:List Int) (c0_1:Int) (c0_2:Bool)=>(((rdU c0_0 c0_1 c0_2 p1).n):Int)) x.1 x.2.1 x.2.2.1 x.2.2.2.1,(fun(p1:Int) (c0_0:List Int) (c0_1:Int) (c0_2:Bool)=>(c0_0:List Int)) x.1 x.2.1 x.2.2.1 x.2.2.2.1,(fun(p1:Int) (c0_0:List Int) (c0_1:Int) (c0_2:Bool)=>(((rdU c0_0 c0_1 c0_2 p1).pos):Int)) x.1 x.2.1 x.2.2.1 x.2.2.2.1,(fun(p1:Int) (c0_0:List Int) (c0_1:Int) (c0_2:Bool)=>(((rdU c0_0 c0_1 c0_2 p1).fail):Bool)) x.1 x.2.1 x.2.2.1 x.2.2.2.1,()),hx.2 ((fun(p1:Int) (c0_0:List Int) (c0_1:Int) (c0_2:Bool)=>((((rdU c0_0 c0_1 c0_2 p1).n)))) x.1 x.2.1 x.2.2.1 x.2.2.2.1) ((fun(p1:Int) (c0_0:List Int) (c0_1:Int) (c0_2:Bool)=>((((rdU c0_0 c0_1 c0_2 p1).pos)))) x.1 x.2.1 x.2.2.1 x.2.2.2.1) ((fun(p1:Int) (c0_0:List Int) (c0_1:Int) (c0_2:Bool)=>((((rdU c0_0 c0_1 c0_2 p1).fail)))) x.1 x.2.1 x.2.2.1 x.2.2.2.1) ⟨rfl,rfl,rfl⟩,k1ca (k18i x.1 x.2.1 x.2.2.1 x.2.2.2.1 hx.1)⟩⟩
def k1m:Con TB.den:=Con.mk0 55 [.one (.ptr 0 0)] [.cells [.d (.sl (.int .u8)),.d (.int .i64),.d (.bool)]] (.one (.agg [.d (.int .u64),.d (.int .u64),.d (.int .u64),.d (.int .u64)])) [.cells [.d (.sl (.int .u8)),.d (.int .i64),.d (.bool)]]
abbrev klc:=HL TB.den (hsT k1m.ins (hsOs k1m.pre))
abbrev ka4:=HL TB.den (hsV k1m.res (hsOs k1m.post))
def k6z:Cx TB:=⟨inf,[kkn],[],4,[]⟩
def kb1:Code:=Try.f55.body.getD .skip
def kd8:List ResultVar:=Try.f55.results.toList
def kkx (o:ka4):An TB:= .no
def kb7 (x:klc) (o:ka4):Prop:=WPh TB k6z 20 1 kb1 (kkx o) (k1m.st TB x) (retTQ TB k6z k1m kd8 o)
theorem kv7 (o:ka4):OblH TB k6z 20 1 kb1 (kkx o) (retTQ TB k6z k1m kd8 o):=
 OblH.ofC (X:=True) (by kernel_rfl) trivial
theorem kw7 {x:klc} {o:ka4} (h:kb7 x o):k1m.Snd Try.prog x o:=
 Con.soundH (c:=k1m) (C:=k6z) TBok ⟨inf_ok,(all_cons kwh all_nil),all_nil⟩ mix Try.func55 (show Try.f55.body=some kb1 by kernel_rfl) (show Try.f55.ntmps=20 by kernel_rfl) (show Try.f55.results.toList=kd8 by kernel_rfl) rfl h (kv7 o)
theorem kxs {c0_0:List Int} {c0_1:Int} {c0_2:Bool} {r0:TNote} {d0_0:List Int} {d0_1:Int} {d0_2:Bool} (h:
((RdOk c0_0 c0_1)∧∀(r4:Int) (r5:Int) (r6:Bool),(r4=((rdU c0_0 c0_1 c0_2 (4294967295:Int)).n)∧r5=((rdU c0_0 c0_1 c0_2 (4294967295:Int)).pos)∧r6=((rdU c0_0 c0_1 c0_2 (4294967295:Int)).fail))→(RdOk c0_0 r5)∧∀(r10:Int) (r11:Int) (r12:Bool),(r10=((rdU c0_0 r5 r6 (18446744069414584320:Int)).n)∧r11=((rdU c0_0 r5 r6 (18446744069414584320:Int)).pos)∧r12=((rdU c0_0 r5 r6 (18446744069414584320:Int)).fail))→(RdOk c0_0 r11)∧∀(r16:Int) (r17:Int) (r18:Bool),(r16=((rdU c0_0 r11 r12 (18446744069414584320:Int)).n)∧r17=((rdU c0_0 r11 r12 (18446744069414584320:Int)).pos)∧r18=((rdU c0_0 r11 r12 (18446744069414584320:Int)).fail))→(RdOk c0_0 r17)∧∀(r22:Int) (r23:Int) (r24:Bool),(r22=((rdU c0_0 r17 r18 (18446744069414584320:Int)).n)∧r23=((rdU c0_0 r17 r18 (18446744069414584320:Int)).pos)∧r24=((rdU c0_0 r17 r18 (18446744069414584320:Int)).fail))→r4=r0.Value∧r10=r0.Owner∧r16=r0.Rho∧r22=r0.Blind∧c0_0=d0_0∧r23=d0_1∧r24=d0_2)):kb7 (c0_0,c0_1,c0_2,()) (r0.Value,r0.Owner,r0.Rho,r0.Blind,d0_0,d0_1,d0_2,()):=WPh.of_eq (by kernel_rfl) h
theorem bd55:Callable Try.prog 55:=⟨by rw[Try.func55];kernel_rfl,by rw[Try.func55];show some _≠some _;decide⟩
theorem kuc (c0_0:List Int) (c0_1:Int) (c0_2:Bool) (h:RdOk c0_0 c0_1):kb7 (c0_0,c0_1,c0_2,()) ((((rdNt c0_0 c0_1 c0_2).n).Value:Int),(((rdNt c0_0 c0_1 c0_2).n).Owner:Int),(((rdNt c0_0 c0_1 c0_2).n).Rho:Int),(((rdNt c0_0 c0_1 c0_2).n).Blind:Int),(c0_0:List Int),(((rdNt c0_0 c0_1 c0_2).pos):Int),(((rdNt c0_0 c0_1 c0_2).f):Bool),()):=by
 refine kxs (r0:=(rdNt c0_0 c0_1 c0_2).n) ⟨h,?_⟩
 rintro _ _ _ ⟨rfl,rfl,rfl⟩
 refine⟨rdU_ok h,?_⟩
 rintro _ _ _ ⟨rfl,rfl,rfl⟩
 refine⟨rdU_ok (rdU_ok h),?_⟩
 rintro _ _ _ ⟨rfl,rfl,rfl⟩
 refine⟨rdU_ok (rdU_ok (rdU_ok h)),?_⟩
 rintro _ _ _ ⟨rfl,rfl,rfl⟩
 exact⟨rfl,rfl,rfl,rfl,rfl,rfl,rfl⟩
def kjk:Con TB.den:={k1m with R:=fun x K=>(fun(c0_0:List Int) (c0_1:Int) (c0_2:Bool)=>((RdOk c0_0 c0_1)∧∀(v0:TNote) (v2:Int) (v3:Bool),(v0=(((rdNt c0_0 c0_1 c0_2).n))∧v2=(((rdNt c0_0 c0_1 c0_2).pos))∧v3=(((rdNt c0_0 c0_1 c0_2).f)))→K (v0.Value,v0.Owner,v0.Rho,v0.Blind,(c0_0:List Int),v2,v3,()):Prop)) x.1 x.2.1 x.2.2.1}
theorem kyb:kjk.Ok Try.prog TB:=⟨bd55,fun x K hx=>⟨((fun(c0_0:List Int) (c0_1:Int) (c0_2:Bool)=>(((rdNt c0_0 c0_1 c0_2).n).Value:Int)) x.1 x.2.1 x.2.2.1,(fun(c0_0:List Int) (c0_1:Int) (c0_2:Bool)=>(((rdNt c0_0 c0_1 c0_2).n).Owner:Int)) x.1 x.2.1 x.2.2.1,(fun(c0_0:List Int) (c0_1:Int) (c0_2:Bool)=>(((rdNt c0_0 c0_1 c0_2).n).Rho:Int)) x.1 x.2.1 x.2.2.1,(fun(c0_0:List Int) (c0_1:Int) (c0_2:Bool)=>(((rdNt c0_0 c0_1 c0_2).n).Blind:Int)) x.1 x.2.1 x.2.2.1,(fun(c0_0:List Int) (c0_1:Int) (c0_2:Bool)=>(c0_0:List Int)) x.1 x.2.1 x.2.2.1,(fun(c0_0:List Int) (c0_1:Int) (c0_2:Bool)=>(((rdNt c0_0 c0_1 c0_2).pos):Int)) x.1 x.2.1 x.2.2.1,(fun(c0_0:List Int) (c0_1:Int) (c0_2:Bool)=>(((rdNt c0_0 c0_1 c0_2).f):Bool)) x.1 x.2.1 x.2.2.1,()),hx.2 ((fun(c0_0:List Int) (c0_1:Int) (c0_2:Bool)=>((((rdNt c0_0 c0_1 c0_2).n)))) x.1 x.2.1 x.2.2.1) ((fun(c0_0:List Int) (c0_1:Int) (c0_2:Bool)=>((((rdNt c0_0 c0_1 c0_2).pos)))) x.1 x.2.1 x.2.2.1) ((fun(c0_0:List Int) (c0_1:Int) (c0_2:Bool)=>((((rdNt c0_0 c0_1 c0_2).f)))) x.1 x.2.1 x.2.2.1) ⟨rfl,rfl,rfl⟩,kw7 (kuc x.1 x.2.1 x.2.2.1 hx.1)⟩⟩
def k4x:Con TB.den:=Con.mk0 93 [.one (.d (.sl (.int .u8))),.one (.d (.int .i64))] [] (.one (.one (.d (.sl (.int .u8))))) []
abbrev k17e:=HL TB.den (hsT k4x.ins (hsOs k4x.pre))
abbrev kh9:=HL TB.den (hsV k4x.res (hsOs k4x.post))
def ket:Cx TB:=⟨inf,[],[],4,[]⟩
def kn4:Code:=Try.f93.body.getD .skip
def kry:List ResultVar:=Try.f93.results.toList
def k1ip (o:kh9):An TB:= .nd [] .no [] (.nd [] .no [] (.nd [] .no [] (.rt [.frz 0 [4]])))
def k14p (o:kh9):An TB:= .nd [] .no [] (k1ip o)
def kmw (x:k17e) (o:kh9):Prop:=WPh TB ket 17 0 kn4 (k14p o) (k4x.st TB x) (retTQ TB ket k4x kry o)
theorem k1hv (o:kh9):OblH TB ket 17 0 kn4 (k14p o) (retTQ TB ket k4x kry o):=
 OblH.ofC (X:=True) (by kernel_rfl) trivial
theorem k1gv {x:k17e} {o:kh9} (h:kmw x o):k4x.Snd Try.prog x o:=
 Con.soundH (c:=k4x) (C:=ket) TBok ⟨inf_ok,all_nil,all_nil⟩ mix Try.func93 (show Try.f93.body=some kn4 by kernel_rfl) (show Try.f93.ntmps=17 by kernel_rfl) (show Try.f93.results.toList=kry by kernel_rfl) rfl h (k1hv o)
theorem k1j1 {p0:List Int} {p1:Int} {r0:List Int} (h:
(let v1:Int:=IntKind.i64.wrap ((p0.length:Int)+p1)
0≤(p0.length:Int)∧(p0.length:Int)≤v1∧(v1.toNat*1≤140737488355328)∧(v1.toNat≤maxLen)∧(p0.length:Int).toNat=(List.replicate ((p0.length:Int).toNat) (0:Int)).length∧let v2:Int:=((min p0.length (List.replicate ((p0.length:Int).toNat) (0:Int)).length:Nat):Int)
((p0.length:Int).toNat=(rowOver (List.replicate ((p0.length:Int).toNat) (0:Int)) p0 (List.replicate ((p0.length:Int).toNat) (0:Int)).length).length)∧rowOver (List.replicate ((p0.length:Int).toNat) (0:Int)) p0 (List.replicate ((p0.length:Int).toNat) (0:Int)).length=r0)):kmw (p0,p1,()) (r0,()):=WPh.of_eq (by kernel_rfl) h
theorem bd93:Callable Try.prog 93:=⟨by rw[Try.func93];kernel_rfl,by rw[Try.func93];show some _≠some _;decide⟩
theorem k1er (p0:List Int) (p1:Int) (h:0≤p1∧p0.length+p1≤140737488355328):kmw (p0,p1,()) ((p0:List Int),()):=by
 obtain⟨h1,h2⟩:=h
 refine k1j1 ?_
 rw[wi _ (by omega) (by omega)]
 have e:rowOver (List.replicate ((p0.length:Int).toNat) (0:Int)) p0 (List.replicate ((p0.length:Int).toNat) (0:Int)).length=p0:=k17d _ _ (by simp)
 simp only[e]
 exact⟨by omega,by omega,by omega,by unfold maxLen;omega,by simp,by omega,by trivial⟩
def kzo:Con TB.den:=k4x.fnR (fun x=>(fun(p0:List Int) (p1:Int)=>0≤p1∧p0.length+p1≤140737488355328) x.1 x.2.1) fun x=>((fun(p0:List Int) (p1:Int)=>(p0:List Int)) x.1 x.2.1,())
theorem k1kx:kzo.Ok Try.prog TB:=Con.ok_fn k4x bd93 fun x h=>k1gv (k1er x.1 x.2.1 h)
def k2k:Con TB.den:=Con.mk0 53 [.one (.d (.sl (.int .u8)))] [] (.one (.one (.ptr 0 0))) [.cells [.d (.sl (.int .u8)),.d (.int .i64),.d (.bool)]]
abbrev krl:=HL TB.den (hsT k2k.ins (hsOs k2k.pre))
abbrev kcw:=HL TB.den (hsV k2k.res (hsOs k2k.post))
def k8v:Cx TB:=⟨inf,[kzo],[],4,[]⟩
def ke6:Code:=Try.f53.body.getD .skip
def kgv:List ResultVar:=Try.f53.results.toList
def kq5 (o:kcw):An TB:= .no
def ke0 (x:krl) (o:kcw):Prop:=WPh TB k8v 7 0 ke6 (kq5 o) (k2k.st TB x) (retTQ TB k8v k2k kgv o)
theorem k121 (o:kcw):OblH TB k8v 7 0 ke6 (kq5 o) (retTQ TB k8v k2k kgv o):=
 OblH.ofC (X:=True) (by kernel_rfl) trivial
theorem k14u {x:krl} {o:kcw} (h:ke0 x o):k2k.Snd Try.prog x o:=
 Con.soundH (c:=k2k) (C:=k8v) TBok ⟨inf_ok,(all_cons k1kx all_nil),all_nil⟩ mix Try.func53 (show Try.f53.body=some ke6 by kernel_rfl) (show Try.f53.ntmps=7 by kernel_rfl) (show Try.f53.results.toList=kgv by kernel_rfl) rfl h (k121 o)
theorem k15z {p0:List Int} {d0_0:List Int} {d0_1:Int} {d0_2:Bool} (h:
((0≤(0:Int)∧p0.length+(0:Int)≤140737488355328)∧p0=d0_0∧0=d0_1∧false=d0_2)):ke0 (p0,()) (d0_0,d0_1,d0_2,()):=WPh.of_eq (by kernel_rfl) h
theorem bd53:Callable Try.prog 53:=⟨by rw[Try.func53];kernel_rfl,by rw[Try.func53];show some _≠some _;decide⟩
theorem k116 (p0:List Int) (h:p0.length≤137438953472):ke0 (p0,()) ((p0:List Int),(0:Int),(false:Bool),()):=by
 exact k15z ⟨⟨by omega,by omega⟩,rfl,rfl,rfl⟩
def ko3:Con TB.den:={k2k with R:=fun x K=>(fun(p0:List Int)=>((p0.length≤137438953472)∧K ((p0:List Int),(0:Int),(false:Bool),()):Prop)) x.1}
theorem k15t:ko3.Ok Try.prog TB:=⟨bd53,fun x K hx=>⟨((fun(p0:List Int)=>(p0:List Int)) x.1,(fun(p0:List Int)=>(0:Int)) x.1,(fun(p0:List Int)=>(false:Bool)) x.1,()),hx.2,k14u (k116 x.1 hx.1)⟩⟩
def k1e:Con TB.den:=Con.mk0 26 [.one (.d (.sl (.int .u8)))] [] (.tup [.agg [.d (.sl (.st 0)),.d (.sl (.st 1)),.d (.int .u64)],.one (.d (.int .i64))]) []
abbrev kpo:=HL TB.den (hsT k1e.ins (hsOs k1e.pre))
abbrev k1a:=HL TB.den (hsV k1e.res (hsOs k1e.post))
def k1o:Cx TB:=⟨inf,[ko3,km4,kjk,kkn,kt0,kth],[],4,[]⟩
def k3y:Code:=Try.f26.body.getD .skip
def k85:List ResultVar:=Try.f26.results.toList
def k13h (o:k1a):=qS TB k1o 52 0 (cB (cB (cB (cB (cB k3y))))) .no (retTQ TB k1o k1e k85 o)
def k4z:Tm:=⟨[0,1,2,3,4],[.cells [.full (.st 0),.full (.st 1),.d (.int .u64)],.cells [.d (.sl (.int .u8)),.d (.int .i64),.d (.bool)],.cells [.own 3,.own 4,.d (.int .u64)],.tip (.st 0),.tip (.st 1)],[2,4,5,33,34],[.one (.ptr 0 0),.one (.ptr 1 0),.one (.ptr 2 0),.one (.d (.int .i64)),.one (.d (.int .i64))],5⟩
def k13r (o:k1a) (nx2:NX TB k4z):=qM TB 0 k4z nx2 (blockT TB 2 (k13h o))
def k81 (o:k1a) (nx2:NX TB k4z) (i:HL TB.den k4z.hs):Prop:=WP TB k1o 52 0 (cA (cA (cB (cA (cB (cB (cB (cB k3y)))))))) .no (k4z.fill TB i) (k13r o nx2)
def knv (o:k1a):An TB:= .lp [] k4z (k81 o) fun nx2=> .no
def k12a (o:k1a):=qS TB k1o 52 0 (cB (cB (cB (cB k3y)))) (.nd [] (.nd [] .no [] (knv o)) [] .no) (retTQ TB k1o k1e k85 o)
def k58:Tm:=⟨[0,1,2,3,4],[.cells [.full (.st 0),.full (.st 1),.d (.int .u64)],.cells [.d (.sl (.int .u8)),.d (.int .i64),.d (.bool)],.cells [.own 3,.own 4,.d (.int .u64)],.tip (.st 0),.tip (.st 1)],[2,4,5,9,10],[.one (.ptr 0 0),.one (.ptr 1 0),.one (.ptr 2 0),.one (.d (.int .i64)),.one (.d (.int .i64))],5⟩
def k13t (o:k1a) (nx1:NX TB k58):=qM TB 0 k58 nx1 (blockT TB 0 (k12a o))
def k7r (o:k1a) (nx1:NX TB k58) (i:HL TB.den k58.hs):Prop:=WP TB k1o 52 0 (cA (cA (cB (cA (cB (cB (cB k3y))))))) .no (k58.fill TB i) (k13t o nx1)
def k117 (o:k1a):An TB:= .lp [.tokc 2 0 (.st 0),.tokc 2 1 (.st 1)] k58 (k7r o) fun nx1=> .no
def k112 (o:k1a):An TB:= .nd [] (.nd [] .no [] (k117 o)) [] (.nd [] (.nd [] .no [] (knv o)) [] .no)
def koc (o:k1a):An TB:= .nd [] .no [] (.nd [] .no [] (.nd [] .no [] (k112 o)))
def kcu (x:kpo) (o:k1a):Prop:=WPh TB k1o 52 0 k3y (koc o) (k1e.st TB x) (retTQ TB k1o k1e k85 o)
theorem k10f (o:k1a):OblH TB k1o 52 0 k3y (koc o) (retTQ TB k1o k1e k85 o):=
 OblH.ofC (X:=((∀nx i,(k7r o) nx i=(k7r o) nx i)∧(∀nx1:NX TB k58,True)∧(∀nx i,(k81 o) nx i=(k81 o) nx i)∧(∀nx2:NX TB k4z,True)∧True)) (by kernel_rfl) ⟨fun _ _=>rfl,fun _=>trivial,fun _ _=>rfl,fun _=>trivial,trivial⟩
theorem k10a {x:kpo} {o:k1a} (h:kcu x o):k1e.Snd Try.prog x o:=
 Con.soundH (c:=k1e) (C:=k1o) TBok ⟨inf_ok,(all_cons k15t (all_cons kyj (all_cons kyb (all_cons kwh (all_cons k1dh (all_cons k1cy all_nil)))))),all_nil⟩ mix Try.func26 (show Try.f26.body=some k3y by kernel_rfl) (show Try.f26.ntmps=52 by kernel_rfl) (show Try.f26.results.toList=k85 by kernel_rfl) rfl h (k10f o)
theorem k11z {p0:List Int} {r0:TWitness} {r1:Int} (h:
((p0.length≤137438953472)∧(RdOk p0 (0:Int))∧∀(r47:Int) (r48:Int) (r49:Bool),(r47=((rdI p0 (0:Int) false (4:Int)).n)∧r48=((rdI p0 (0:Int) false (4:Int)).pos)∧r49=((rdI p0 (0:Int) false (4:Int)).fail))→(([]:List TNote)=([]:List TNote))∧(([]:List TSpent)=([]:List TSpent))∧Md.Loop (r47,(0:Int),(([]:List TSpent):List TSpent),(([]:List TNote):List TNote),(0:Int),p0,r48,r49,(0:Int),(([]:List TSpent):List TSpent),(([]:List TNote):List TNote),()) (k7r (r0.Ins,r0.Outs,r0.Secret,r1,())))):kcu (p0,()) (r0.Ins,r0.Outs,r0.Secret,r1,()):=WPh.of_eq (by kernel_rfl) h
def ko8 (r0:TWitness) (r1:Int) (k1:Int→Int→Bool→List TSpent→Prop) (s9:Int) (h0_0:List TSpent) (h0_1:List TNote) (h0_2:Int) (h1_0:List Int) (h2_2:Int) (g4:List TNote) (s10:Int) (h1_1:Int) (h1_2:Bool) (g3:List TSpent):Prop:=
(decide (s10<s9)=true→
(RdOk h1_0 h1_1)∧∀(r68:TNote) (r69:Int) (r70:Bool),(r68=((rdNt h1_0 h1_1 h1_2).n)∧r69=((rdNt h1_0 h1_1 h1_2).pos)∧r70=((rdNt h1_0 h1_1 h1_2).f))→(RdOk h1_0 r69)∧∀(r71:Int) (r72:Int) (r73:Bool),(r71=((rdU h1_0 r69 r70 (18446744069414584320:Int)).n)∧r72=((rdU h1_0 r69 r70 (18446744069414584320:Int)).pos)∧r73=((rdU h1_0 r69 r70 (18446744069414584320:Int)).fail))→(RdOk h1_0 r72)∧∀(r74:Int) (r75:Int) (r76:Bool),(r74=((rdI h1_0 r72 r73 (3:Int)).n)∧r75=((rdI h1_0 r72 r73 (3:Int)).pos)∧r76=((rdI h1_0 r72 r73 (3:Int)).fail))→(RdOk h1_0 r75)∧∀(r77:Int) (r78:Int) (r79:Bool),(r77=((rdI h1_0 r75 r76 (4095:Int)).n)∧r78=((rdI h1_0 r75 r76 (4095:Int)).pos)∧r79=((rdI h1_0 r75 r76 (4095:Int)).fail))→(RdOk h1_0 r78∧(0≤(12:Int)∧(12:Int)≤4096))∧∀(r80:List Int) (r81:Int) (r82:Bool),(r80=((rdL h1_0 r78 r79 (12:Int) (18446744069414584321:Int)).l)∧r81=((rdL h1_0 r78 r79 (12:Int) (18446744069414584321:Int)).pos)∧r82=((rdL h1_0 r78 r79 (12:Int) (18446744069414584321:Int)).fail))→(RdOk h1_0 r81)∧∀(r83:Int) (r84:Int) (r85:Bool),(r83=((rdI h1_0 r81 r82 (1:Int)).n)∧r84=((rdI h1_0 r81 r82 (1:Int)).pos)∧r85=((rdI h1_0 r81 r82 (1:Int)).fail))→let v86:List TSpent:=[TSpent.mk r68.Value r68.Owner r68.Rho r68.Blind r71 r74 r77 r80 (r83==1)]
g3.length=g3.length∧(g3.length+v86.length)*88≤140737488355328∧g3.length+v86.length≤maxLen∧(g4=g4)∧(g3++v86=g3++v86)∧k1 (IntKind.i64.wrap (s10+1):Int) r84 r85 (g3++v86:List TSpent))∧
(decide (s10<s9)=false→
(RdOk h1_0 h1_1)∧∀(r102:Int) (r103:Int) (r104:Bool),(r102=((rdI h1_0 h1_1 h1_2 (4:Int)).n)∧r103=((rdI h1_0 h1_1 h1_2 (4:Int)).pos)∧r104=((rdI h1_0 h1_1 h1_2 (4:Int)).fail))→(g4=g4)∧(g3=g3)∧Md.Loop (r102,(0:Int),h0_0,h0_1,h0_2,h1_0,r103,r104,h2_2,g3,g4,()) (k81 (r0.Ins,r0.Outs,r0.Secret,r1,())))
theorem k10q {r0:TWitness} {r1:Int} {s9:Int} {h0_0:List TSpent} {h0_1:List TNote} {h0_2:Int} {h1_0:List Int} {h2_2:Int} {g4:List TNote} {s10:Int} {h1_1:Int} {h1_2:Bool} {g3:List TSpent} (inv:Int→Int→Bool→List TSpent→Prop) (μ:Int→Int→Bool→List TSpent→Nat) (h0:inv s10 h1_1 h1_2 g3) (hs:∀(s10:Int) (h1_1:Int) (h1_2:Bool) (g3:List TSpent),inv s10 h1_1 h1_2 g3→ko8 r0 r1 (fun s10q h1_1q h1_2q g3q=>inv s10q h1_1q h1_2q g3q∧μ s10q h1_1q h1_2q g3q<μ s10 h1_1 h1_2 g3) s9 h0_0 h0_1 h0_2 h1_0 h2_2 g4 s10 h1_1 h1_2 g3):Md.Loop (s9,s10,h0_0,h0_1,h0_2,h1_0,h1_1,h1_2,h2_2,g3,g4,()) (k7r (r0.Ins,r0.Outs,r0.Secret,r1,())):=
 ⟨⟨fun s:Int×Int×(List TSpent)×(List TNote)×Int×(List Int)×Int×Bool×Int×(List TSpent)×(List TNote)×Unit=>(s.1=s9∧s.2.2.1=h0_0∧s.2.2.2.1=h0_1∧s.2.2.2.2.1=h0_2∧s.2.2.2.2.2.1=h1_0∧s.2.2.2.2.2.2.2.2.1=h2_2∧s.2.2.2.2.2.2.2.2.2.2.1=g4)∧inv s.2.1 s.2.2.2.2.2.2.1 s.2.2.2.2.2.2.2.1 s.2.2.2.2.2.2.2.2.2.1,fun s:Int×Int×(List TSpent)×(List TNote)×Int×(List Int)×Int×Bool×Int×(List TSpent)×(List TNote)×Unit=>μ s.2.1 s.2.2.2.2.2.2.1 s.2.2.2.2.2.2.2.1 s.2.2.2.2.2.2.2.2.2.1,⟨⟨rfl,rfl,rfl,rfl,rfl,rfl,rfl⟩,h0⟩,fun(s9p,s10p,h0_0p,h0_1p,h0_2p,h1_0p,h1_1p,h1_2p,h2_2p,g3p,g4p,()) ⟨⟨eq0,eq1,eq2,eq3,eq4,eq5,eq6⟩,hi⟩=>by
  have eq0:s9p=s9:=eq0;subst s9p;have eq1:h0_0p=h0_0:=eq1;subst h0_0p;have eq2:h0_1p=h0_1:=eq2;subst h0_1p;have eq3:h0_2p=h0_2:=eq3;subst h0_2p;have eq4:h1_0p=h1_0:=eq4;subst h1_0p;have eq5:h2_2p=h2_2:=eq5;subst h2_2p;have eq6:g4p=g4:=eq6;subst g4p;exact mpr_of (by kernel_rfl) ((congrArg (fun k=>ko8 r0 r1 k s9 h0_0 h0_1 h0_2 h1_0 h2_2 g4 s10p h1_1p h1_2p g3p) (lpk4 (⟨rfl,rfl,rfl,rfl,rfl,rfl,rfl⟩:s9=s9∧h0_0=h0_0∧h0_1=h0_1∧h0_2=h0_2∧h1_0=h1_0∧h2_2=h2_2∧g4=g4) inv (fun s10q h1_1q h1_2q g3q=>μ s10q h1_1q h1_2q g3q<μ s10p h1_1p h1_2p g3p))).mpr (hs s10p h1_1p h1_2p g3p hi))⟩⟩
def koi (r0:TWitness) (r1:Int) (k2:Int→Int→Bool→List TNote→Prop) (s33:Int) (h0_0:List TSpent) (h0_1:List TNote) (h0_2:Int) (h1_0:List Int) (h2_2:Int) (g3:List TSpent) (s34:Int) (h1_1:Int) (h1_2:Bool) (g4:List TNote):Prop:=
(decide (s34<s33)=true→
(RdOk h1_0 h1_1)∧∀(r108:TNote) (r109:Int) (r110:Bool),(r108=((rdNt h1_0 h1_1 h1_2).n)∧r109=((rdNt h1_0 h1_1 h1_2).pos)∧r110=((rdNt h1_0 h1_1 h1_2).f))→g4.length=g4.length∧(g4.length+[r108].length)*32≤140737488355328∧g4.length+[r108].length≤maxLen∧(g4++[r108]=g4++[r108])∧(g3=g3)∧k2 (IntKind.i64.wrap (s34+1):Int) r109 r110 (g4++[r108]:List TNote))∧
(decide (s34<s33)=false→
(RdOk h1_0 h1_1)∧∀(r114:Int) (r115:Int) (r116:Bool),(r114=((rdU h1_0 h1_1 h1_2 (18446744069414584320:Int)).n)∧r115=((rdU h1_0 h1_1 h1_2 (18446744069414584320:Int)).pos)∧r116=((rdU h1_0 h1_1 h1_2 (18446744069414584320:Int)).fail))→let v117:Bool:=(!(!r116&&r115==(h1_0.length:Int)))
(v117=true→
([]:List TSpent)=r0.Ins∧([]:List TNote)=r0.Outs∧0=r0.Secret∧2=r1)∧
(v117=false→
g3=r0.Ins∧g4=r0.Outs∧r114=r0.Secret∧0=r1))
theorem k10y {r0:TWitness} {r1:Int} {s33:Int} {h0_0:List TSpent} {h0_1:List TNote} {h0_2:Int} {h1_0:List Int} {h2_2:Int} {g3:List TSpent} {s34:Int} {h1_1:Int} {h1_2:Bool} {g4:List TNote} (inv:Int→Int→Bool→List TNote→Prop) (μ:Int→Int→Bool→List TNote→Nat) (h0:inv s34 h1_1 h1_2 g4) (hs:∀(s34:Int) (h1_1:Int) (h1_2:Bool) (g4:List TNote),inv s34 h1_1 h1_2 g4→koi r0 r1 (fun s34q h1_1q h1_2q g4q=>inv s34q h1_1q h1_2q g4q∧μ s34q h1_1q h1_2q g4q<μ s34 h1_1 h1_2 g4) s33 h0_0 h0_1 h0_2 h1_0 h2_2 g3 s34 h1_1 h1_2 g4):Md.Loop (s33,s34,h0_0,h0_1,h0_2,h1_0,h1_1,h1_2,h2_2,g3,g4,()) (k81 (r0.Ins,r0.Outs,r0.Secret,r1,())):=
 ⟨⟨fun s:Int×Int×(List TSpent)×(List TNote)×Int×(List Int)×Int×Bool×Int×(List TSpent)×(List TNote)×Unit=>(s.1=s33∧s.2.2.1=h0_0∧s.2.2.2.1=h0_1∧s.2.2.2.2.1=h0_2∧s.2.2.2.2.2.1=h1_0∧s.2.2.2.2.2.2.2.2.1=h2_2∧s.2.2.2.2.2.2.2.2.2.1=g3)∧inv s.2.1 s.2.2.2.2.2.2.1 s.2.2.2.2.2.2.2.1 s.2.2.2.2.2.2.2.2.2.2.1,fun s:Int×Int×(List TSpent)×(List TNote)×Int×(List Int)×Int×Bool×Int×(List TSpent)×(List TNote)×Unit=>μ s.2.1 s.2.2.2.2.2.2.1 s.2.2.2.2.2.2.2.1 s.2.2.2.2.2.2.2.2.2.2.1,⟨⟨rfl,rfl,rfl,rfl,rfl,rfl,rfl⟩,h0⟩,fun(s33p,s34p,h0_0p,h0_1p,h0_2p,h1_0p,h1_1p,h1_2p,h2_2p,g3p,g4p,()) ⟨⟨eq0,eq1,eq2,eq3,eq4,eq5,eq6⟩,hi⟩=>by
  have eq0:s33p=s33:=eq0;subst s33p;have eq1:h0_0p=h0_0:=eq1;subst h0_0p;have eq2:h0_1p=h0_1:=eq2;subst h0_1p;have eq3:h0_2p=h0_2:=eq3;subst h0_2p;have eq4:h1_0p=h1_0:=eq4;subst h1_0p;have eq5:h2_2p=h2_2:=eq5;subst h2_2p;have eq6:g3p=g3:=eq6;subst g3p;exact mpr_of (by kernel_rfl) ((congrArg (fun k=>koi r0 r1 k s33 h0_0 h0_1 h0_2 h1_0 h2_2 g3 s34p h1_1p h1_2p g4p) (lpk4 (⟨rfl,rfl,rfl,rfl,rfl,rfl,rfl⟩:s33=s33∧h0_0=h0_0∧h0_1=h0_1∧h0_2=h0_2∧h1_0=h1_0∧h2_2=h2_2∧g3=g3) inv (fun s34q h1_1q h1_2q g4q=>μ s34q h1_1q h1_2q g4q<μ s34p h1_1p h1_2p g4p))).mpr (hs s34p h1_1p h1_2p g4p hi))⟩⟩
theorem bd26:Callable Try.prog 26:=⟨by rw[Try.func26];kernel_rfl,by rw[Try.func26];show some _≠some _;decide⟩
theorem kxw (p0:List Int) (h:By p0∧p0.length≤137438953472):kcu (p0,()) ((((decW p0).1).Ins:List TSpent),(((decW p0).1).Outs:List TNote),(((decW p0).1).Secret:Int),(((decW p0).2):Int),()):=by
 obtain⟨hb,hl⟩:=h
 have h0:RdOk p0 0:=⟨hb,hl,by omega,by omega⟩
 refine k11z (r0:=(decW p0).1) ⟨hl,h0,?_⟩
 rintro _ _ _ ⟨rfl,rfl,rfl⟩
 have hC:=rdI_ok (m:=4) (f:=false) h0
 have nC:=rdI_n (m:=4) (f:=false) h0 (by omega)
 have zC:=rdI_pz (m:=4) (f:=false) h0 (by omega)
 generalize rdI p0 0 false 4=C at *
 refine⟨rfl,rfl,?_⟩
 refine k10q (r0:=(decW p0).1) (fun i pos f g=>0≤i∧i≤C.n∧RdOk p0 pos∧(g.length:Int)=i∧Pz (fun l:List TSpent=>l.flatMap encSp) (Gl (GS limW) i.toNat) (p0.drop C.pos.toNat) C.fail g (p0.drop pos.toNat) f) (fun i _ _ _=>(C.n-i).toNat) ⟨by omega,nC.1,hC,rfl,Pz.nil⟩ ?_
 rintro i pos f g ⟨g0,g1,hp,g2,gz⟩
 refine⟨fun hh=> ?_,fun hh=> ?_⟩
 ·have hh:=of_decide_eq_true hh
  refine⟨hp,?_⟩
  rintro _ _ _ ⟨rfl,rfl,rfl⟩
  have o1:=rdNt_ok (f:=f) hp
  have z1:=rdNt_pz (f:=f) hp
  generalize rdNt p0 pos f=A1 at *
  refine⟨o1,?_⟩
  rintro _ _ _ ⟨rfl,rfl,rfl⟩
  have o2:=rdU_ok (m:=18446744069414584320) (f:=A1.f) o1
  have z2:=rdU_pz (m:=18446744069414584320) (f:=A1.f) o1
  generalize rdU p0 A1.pos A1.f 18446744069414584320=A2 at *
  refine⟨o2,?_⟩
  rintro _ _ _ ⟨rfl,rfl,rfl⟩
  have o3:=rdI_ok (m:=3) (f:=A2.fail) o2
  have z3:=rdI_pz (m:=3) (f:=A2.fail) o2 (by omega)
  generalize rdI p0 A2.pos A2.fail 3=A3 at *
  refine⟨o3,?_⟩
  rintro _ _ _ ⟨rfl,rfl,rfl⟩
  have o4:=rdI_ok (m:=4095) (f:=A3.fail) o3
  have z4:=rdI_pz (m:=4095) (f:=A3.fail) o3 (by omega)
  generalize rdI p0 A3.pos A3.fail 4095=A4 at *
  refine⟨⟨o4,by omega,by omega⟩,?_⟩
  rintro _ _ _ ⟨rfl,rfl,rfl⟩
  have o5:=rdL_ok (m:=12) (p:=18446744069414584321) (f:=A4.fail) o4 (by omega)
  have z5:=rdL_pz (m:=12) (p:=18446744069414584321) (f:=A4.fail) o4 (by omega)
  generalize rdL p0 A4.pos A4.fail 12 18446744069414584321=A5 at *
  refine⟨o5,?_⟩
  rintro _ _ _ ⟨rfl,rfl,rfl⟩
  have o6:=rdI_ok (m:=1) (f:=A5.fail) o5
  have z6:=rdI_pz (m:=1) (f:=A5.fail) o5 (by omega)
  generalize rdI p0 A5.pos A5.fail 1=A6 at *
  have zz:=k1lk (L:=limW) z1 z2 z3 z4 z5 z6
  rw[inc i C.n g0 hh (by omega)]
  refine⟨rfl,by simp;omega,by simp;unfold maxLen;omega,rfl,rfl,⟨by omega,by omega,o6,by simp;omega,?_⟩,by omega⟩
  rw[show(i+1).toNat=i.toNat+1 by omega]
  exact gz.snoc zz
 ·have hh:=of_decide_eq_false hh
  have hi:i=C.n:=by omega
  subst hi
  have zI:=Pz.list zC gz
  refine⟨hp,?_⟩
  rintro _ _ _ ⟨rfl,rfl,rfl⟩
  have hD:=rdI_ok (m:=4) (f:=f) hp
  have nD:=rdI_n (m:=4) (f:=f) hp (by omega)
  have zD:=rdI_pz (m:=4) (f:=f) hp (by omega)
  generalize rdI p0 pos f 4=D at *
  refine⟨rfl,rfl,?_⟩
  refine k10y (r0:=(decW p0).1) (fun i pos' f' g' =>0≤i∧i≤D.n∧RdOk p0 pos'∧(g'.length:Int)=i∧Pz (fun l:List TNote=>l.flatMap encN) (Gl (GN limW) i.toNat) (p0.drop D.pos.toNat) D.fail g' (p0.drop pos'.toNat) f') (fun i _ _ _=>(D.n-i).toNat) ⟨by omega,nD.1,hD,rfl,Pz.nil⟩ ?_
  rintro i pos' f' g' ⟨g0',g1',hp',g2',gz'⟩
  refine⟨fun hh=> ?_,fun hh=> ?_⟩
  ·have hh:=of_decide_eq_true hh
   refine⟨hp',?_⟩
   rintro _ _ _ ⟨rfl,rfl,rfl⟩
   have o1:=rdNt_ok (f:=f') hp'
   have z1:=rdNt_pz (f:=f') hp'
   generalize rdNt p0 pos' f' =A1 at *
   rw[inc i D.n g0' hh (by omega)]
   refine⟨rfl,by simp;omega,by simp;unfold maxLen;omega,rfl,rfl,⟨by omega,by omega,o1,by simp;omega,?_⟩,by omega⟩
   rw[show(i+1).toNat=i.toNat+1 by omega]
   exact gz'.snoc z1
  ·have hh:=of_decide_eq_false hh
   have hi:i=D.n:=by omega
   subst hi
   have zO:=Pz.list zD gz'
   refine⟨hp',?_⟩
   rintro _ _ _ ⟨rfl,rfl,rfl⟩
   have hS:=rdU_ok (m:=18446744069414584320) (f:=f') hp'
   have zS:=rdU_pz (m:=18446744069414584320) (f:=f') hp'
   generalize rdU p0 pos' f' 18446744069414584320=X at *
   obtain⟨snd,cpl⟩:=pz_wit (L:=limW) zI zO zS
   refine⟨fun e=> ?_,fun e=> ?_⟩
   ·rw[decW_no]
    ·exact⟨rfl,rfl,rfl,rfl⟩
    intro u hu
    obtain⟨c1,c2,c3⟩:=cpl u hu
    obtain⟨_,_,q3,q4⟩:=hS
    have:=List.drop_eq_nil_iff.1 c2
    have e4:X.pos=(p0.length:Int):=by omega
    rw[c1,e4]at e
    simp at e
   ·have e:X.fail=false∧X.pos=(p0.length:Int):=by simpa using e
    obtain⟨s1,s2⟩:=snd e.1 (List.drop_eq_nil_of_le (by omega))
    have hE:EW ⟨g,g',X.n⟩ p0:=by
     refine⟨s2.wq,k92.2 ⟨?_,?_,?_,fun x hx=>(s2.1.2 x hx).spendV,fun x hx=>(s2.2.1.2 x hx).noteV⟩,s1⟩
     ·have:=s2.1.1.2.2;show g.length≤4;omega
     ·have:=s2.2.1.1.2.2;show g'.length≤4;omega
     ·have:X.n≤18446744069414584320:=s2.2.2.2
      show X.n<_;omega
    rw[k1ix hE fun u hu=>(cpl u hu).2.2]
    exact⟨rfl,rfl,rfl,rfl⟩
def klm:Con TB.den:={k1e with R:=fun x K=>(fun(p0:List Int)=>((By p0∧p0.length≤137438953472)∧∀(v0:TWitness) (v1:Int),(v0=(((decW p0).1))∧v1=(((decW p0).2)))→K (v0.Ins,v0.Outs,v0.Secret,v1,()):Prop)) x.1}
theorem k13m:klm.Ok Try.prog TB:=⟨bd26,fun x K hx=>⟨((fun(p0:List Int)=>(((decW p0).1).Ins:List TSpent)) x.1,(fun(p0:List Int)=>(((decW p0).1).Outs:List TNote)) x.1,(fun(p0:List Int)=>(((decW p0).1).Secret:Int)) x.1,(fun(p0:List Int)=>(((decW p0).2):Int)) x.1,()),hx.2 ((fun(p0:List Int)=>((((decW p0).1)))) x.1) ((fun(p0:List Int)=>((((decW p0).2)))) x.1) ⟨rfl,rfl⟩,k10a (kxw x.1 hx.1)⟩⟩
def ku:Con TB.den:=Con.mk0 94 [.one (.own 0),.one (.d (.int .u64)),.one (.d (.int .i64))] [.tip (.int .u8)] (.one (.one (.own 0))) [.tip (.int .u8)]
abbrev klf:=HL TB.den (hsT ku.ins (hsOs ku.pre))
abbrev k31:=HL TB.den (hsV ku.res (hsOs ku.post))
def k2u:Cx TB:=⟨inf,[],[],4,[]⟩
def k68:Code:=Try.f94.body.getD .skip
def k94:List ResultVar:=Try.f94.results.toList
def ky6 (o:k31):=qS TB k2u 19 1 (cB (cB k68)) .no (retTQ TB k2u ku k94 o)
def k3x:Tm:=⟨[0],[.tip (.int .u8)],[0,1,7,8],[.one (.own 0),.one (.d (.int .u64)),.one (.d (.int .i64)),.one (.d (.int .i64))],1⟩
def kxm (o:k31) (nx1:NX TB k3x):=qM TB 1 k3x nx1 (blockT TB 0 (ky6 o))
def k70 (o:k31) (nx1:NX TB k3x) (i:HL TB.den k3x.hs):Prop:=WP TB k2u 19 1 (cA (cA (cB (cA (cB k68))))) .no (k3x.fill TB i) (kxm o nx1)
def kxn (o:k31):An TB:= .lp [] k3x (k70 o) fun nx1=> .no
def kl2 (o:k31):An TB:= .nd [] .no [] (.nd [] (.nd [] .no [] (kxn o)) [] .no)
def kb5 (x:klf) (o:k31):Prop:=WPh TB k2u 19 1 k68 (kl2 o) (ku.st TB x) (retTQ TB k2u ku k94 o)
theorem kvv (o:k31):OblH TB k2u 19 1 k68 (kl2 o) (retTQ TB k2u ku k94 o):=
 OblH.ofC (X:=((∀nx i,(k70 o) nx i=(k70 o) nx i)∧(∀nx1:NX TB k3x,True)∧True)) (by kernel_rfl) ⟨fun _ _=>rfl,fun _=>trivial,trivial⟩
theorem kw9 {x:klf} {o:k31} (h:kb5 x o):ku.Snd Try.prog x o:=
 Con.soundH (c:=ku) (C:=k2u) TBok ⟨inf_ok,all_nil,all_nil⟩ mix Try.func94 (show Try.f94.body=some k68 by kernel_rfl) (show Try.f94.ntmps=19 by kernel_rfl) (show Try.f94.results.toList=k94 by kernel_rfl) rfl h (kvv o)
theorem kyg {p1:Int} {p2:Int} {w0:List Int} {e0:List Int} (h:
((w0=w0)∧Md.Loop (p1,p2,(0:Int),w0,()) (k70 (e0,())))):kb5 (p1,p2,w0,()) (e0,()):=WPh.of_eq (by kernel_rfl) h
def kki (e0:List Int) (k1:Int→Int→List Int→Prop) (s7:Int) (s1:Int) (s8:Int) (g0:List Int):Prop:=
(decide (s8<s7)=true→
g0.length=g0.length∧(g0.length+[IntKind.u8.wrap s1].length)*1≤140737488355328∧g0.length+[IntKind.u8.wrap s1].length≤maxLen∧(g0++[IntKind.u8.wrap s1]=g0++[IntKind.u8.wrap s1])∧k1 (ishr .u64 s1 8:Int) (IntKind.i64.wrap (s8+1):Int) (g0++[IntKind.u8.wrap s1]:List Int))∧
(decide (s8<s7)=false→
(g0=g0)∧g0=e0)
theorem kw6 {e0:List Int} {s7:Int} {s1:Int} {s8:Int} {g0:List Int} (inv:Int→Int→List Int→Prop) (μ:Int→Int→List Int→Nat) (h0:inv s1 s8 g0) (hs:∀(s1:Int) (s8:Int) (g0:List Int),inv s1 s8 g0→kki e0 (fun s1q s8q g0q=>inv s1q s8q g0q∧μ s1q s8q g0q<μ s1 s8 g0) s7 s1 s8 g0):Md.Loop (s1,s7,s8,g0,()) (k70 (e0,())):=
 ⟨⟨fun s:Int×Int×Int×(List Int)×Unit=>(s.2.1=s7)∧inv s.1 s.2.2.1 s.2.2.2.1,fun s:Int×Int×Int×(List Int)×Unit=>μ s.1 s.2.2.1 s.2.2.2.1,⟨rfl,h0⟩,fun(s1p,s7p,s8p,g0p,()) ⟨eq0,hi⟩=>by
  have eq0:s7p=s7:=eq0;subst s7p;exact mpr_of (by kernel_rfl) ((congrArg (fun k=>kki e0 k s7 s1p s8p g0p) (lpk3 (rfl:s7=s7) inv (fun s1q s8q g0q=>μ s1q s8q g0q<μ s1p s8p g0p))).mpr (hs s1p s8p g0p hi))⟩⟩
theorem bd94:Callable Try.prog 94:=⟨by rw[Try.func94];kernel_rfl,by rw[Try.func94];show some _≠some _;decide⟩
theorem kul (p1:Int) (p2:Int) (w0:List Int) (h:U64 p1∧(0≤p2∧p2≤8)∧w0.length≤137438953472):kb5 (p1,p2,w0,()) (((w0++dig p2.toNat p1):List Int),()):=by
 obtain⟨h1,h2,h3⟩:=h
 refine kyg ⟨rfl,kw6 (fun n i g=>0≤i∧i≤p2∧U64 n∧n=p1/256^i.toNat∧g=w0++dig i.toNat p1) (fun _ i _=>(p2-i).toNat) ⟨by omega,by omega,h1,by simp,by simp[dig]⟩ ?_⟩
 rintro n i g ⟨g0,g1,g2,g3,rfl⟩
 refine⟨fun h=> ?_,fun h=> ?_⟩
 ·have h:=of_decide_eq_true h
  rw[inc i p2 g0 h (by omega),ishr8,u8w]
  refine⟨rfl,?_,?_,rfl,⟨by omega,by omega,⟨by omega,by omega⟩,?_,?_⟩,by omega⟩
  ·simp;omega
  ·simp;unfold maxLen;omega
  ·rw[g3,show(i+1).toNat=i.toNat+1 by omega,Int.ediv_ediv_of_nonneg (Int.le_of_lt (kar _)),Int.pow_succ]
  ·rw[show(i+1).toNat=i.toNat+1 by omega,krt,List.append_assoc,g3]
 ·have h:=of_decide_eq_false h
  exact⟨rfl,by rw[show i=p2 by omega]⟩
def k8e:Con TB.den:=ku.fnR (fun x=>(fun(p1:Int) (p2:Int) (w0:List Int)=>U64 p1∧(0≤p2∧p2≤8)∧w0.length≤137438953472) x.1 x.2.1 x.2.2.1) fun x=>((fun(p1:Int) (p2:Int) (w0:List Int)=>((w0++dig p2.toNat p1):List Int)) x.1 x.2.1 x.2.2.1,())
theorem kd6:k8e.Ok Try.prog TB:=Con.ok_fn ku bd94 fun x h=>kw9 (kul x.1 x.2.1 x.2.2.1 h)
def k3n:Con TB.den:=Con.mk0 93 [.one (.d (.sl (.int .u8))),.one (.d (.int .i64))] [] (.one (.one (.own 0))) [.tip (.int .u8)]
abbrev kz2:=HL TB.den (hsT k3n.ins (hsOs k3n.pre))
abbrev kde:=HL TB.den (hsV k3n.res (hsOs k3n.post))
def kbl:Cx TB:=⟨inf,[],[],4,[]⟩
def kj0:Code:=Try.f93.body.getD .skip
def km3:List ResultVar:=Try.f93.results.toList
def k1eh (o:kde):An TB:= .nd [] .no [] (.nd [] .no [] (.nd [] .no [] (.rt [.frz 0 [4]])))
def kvc (o:kde):An TB:= .nd [] .no [] (k1eh o)
def kj9 (x:kz2) (o:kde):Prop:=WPh TB kbl 17 0 kj0 (kvc o) (k3n.st TB x) (retTQ TB kbl k3n km3 o)
theorem k1br (o:kde):OblH TB kbl 17 0 kj0 (kvc o) (retTQ TB kbl k3n km3 o):=
 OblH.ofC (X:=True) (by kernel_rfl) trivial
theorem k1a7 {x:kz2} {o:kde} (h:kj9 x o):k3n.Snd Try.prog x o:=
 Con.soundH (c:=k3n) (C:=kbl) TBok ⟨inf_ok,all_nil,all_nil⟩ mix Try.func93 (show Try.f93.body=some kj0 by kernel_rfl) (show Try.f93.ntmps=17 by kernel_rfl) (show Try.f93.results.toList=km3 by kernel_rfl) rfl h (k1br o)
theorem k1db {p0:List Int} {p1:Int} {e0:List Int} (h:
(let v1:Int:=IntKind.i64.wrap ((p0.length:Int)+p1)
0≤(p0.length:Int)∧(p0.length:Int)≤v1∧(v1.toNat*1≤140737488355328)∧(v1.toNat≤maxLen)∧(p0.length:Int).toNat=(List.replicate ((p0.length:Int).toNat) (0:Int)).length∧let v2:Int:=((min p0.length (List.replicate ((p0.length:Int).toNat) (0:Int)).length:Nat):Int)
((p0.length:Int).toNat=(rowOver (List.replicate ((p0.length:Int).toNat) (0:Int)) p0 (List.replicate ((p0.length:Int).toNat) (0:Int)).length).length)∧(rowOver (List.replicate ((p0.length:Int).toNat) (0:Int)) p0 (List.replicate ((p0.length:Int).toNat) (0:Int)).length=rowOver (List.replicate ((p0.length:Int).toNat) (0:Int)) p0 (List.replicate ((p0.length:Int).toNat) (0:Int)).length)∧rowOver (List.replicate ((p0.length:Int).toNat) (0:Int)) p0 (List.replicate ((p0.length:Int).toNat) (0:Int)).length=e0)):kj9 (p0,p1,()) (e0,()):=WPh.of_eq (by kernel_rfl) h
theorem k17n (p0:List Int) (p1:Int) (h:0≤p1∧p0.length+p1≤140737488355328):kj9 (p0,p1,()) ((p0:List Int),()):=by
 obtain⟨h1,h2⟩:=h
 refine k1db ?_
 rw[wi _ (by omega) (by omega)]
 have e:rowOver (List.replicate ((p0.length:Int).toNat) (0:Int)) p0 (List.replicate ((p0.length:Int).toNat) (0:Int)).length=p0:=k17d _ _ (by simp)
 simp only[e]
 exact⟨by omega,by omega,by omega,by unfold maxLen;omega,by simp,by omega,by trivial,by trivial⟩
def kel:Con TB.den:=k3n.fnR (fun x=>(fun(p0:List Int) (p1:Int)=>0≤p1∧p0.length+p1≤140737488355328) x.1 x.2.1) fun x=>((fun(p0:List Int) (p1:Int)=>(p0:List Int)) x.1 x.2.1,())
theorem kmu:kel.Ok Try.prog TB:=Con.ok_fn k3n bd93 fun x h=>k1a7 (k17n x.1 x.2.1 h)
def k4t:Con TB.den:=Con.mk0 50 [.one (.d (.sl (.int .u8))),.one (.d (.int .u64))] [] (.one (.one (.d (.sl (.int .u8))))) []
abbrev k16p:=HL TB.den (hsT k4t.ins (hsOs k4t.pre))
abbrev knk:=HL TB.den (hsV k4t.res (hsOs k4t.post))
def kf3:Cx TB:=⟨inf,[kel,k8e],[],4,[]⟩
def klz:Code:=Try.f50.body.getD .skip
def ks8:List ResultVar:=Try.f50.results.toList
def k13o (o:knk):An TB:= .no
def kn7 (x:k16p) (o:knk):Prop:=WPh TB kf3 9 0 klz (k13o o) (k4t.st TB x) (retTQ TB kf3 k4t ks8 o)
theorem k1hd (o:knk):OblH TB kf3 9 0 klz (k13o o) (retTQ TB kf3 k4t ks8 o):=
 OblH.ofC (X:=True) (by kernel_rfl) trivial
theorem k1i0 {x:k16p} {o:knk} (h:kn7 x o):k4t.Snd Try.prog x o:=
 Con.soundH (c:=k4t) (C:=kf3) TBok ⟨inf_ok,(all_cons kmu (all_cons kd6 all_nil)),all_nil⟩ mix Try.func50 (show Try.f50.body=some klz by kernel_rfl) (show Try.f50.ntmps=9 by kernel_rfl) (show Try.f50.results.toList=ks8 by kernel_rfl) rfl h (k1hd o)
theorem k1js {p0:List Int} {p1:Int} {r0:List Int} (h:
((0≤(8:Int)∧p0.length+(8:Int)≤140737488355328)∧(p0=p0)∧(U64 p1∧(0≤(8:Int)∧(8:Int)≤8)∧p0.length≤137438953472)∧(p0++dig (8:Int).toNat p1)=r0)):kn7 (p0,p1,()) (r0,()):=WPh.of_eq (by kernel_rfl) h
theorem bd50:Callable Try.prog 50:=⟨by rw[Try.func50];kernel_rfl,by rw[Try.func50];show some _≠some _;decide⟩
theorem k1dt (p0:List Int) (p1:Int) (h:U64 p1∧p0.length≤137438953472):kn7 (p0,p1,()) (((p0++dig 8 p1):List Int),()):=by
 obtain⟨h1,h2⟩:=h
 refine k1js ⟨⟨by omega,by omega⟩,by trivial,⟨h1,by omega,h2⟩,rfl⟩
def kp3:Con TB.den:=k4t.fnR (fun x=>(fun(p0:List Int) (p1:Int)=>U64 p1∧p0.length≤137438953472) x.1 x.2.1) fun x=>((fun(p0:List Int) (p1:Int)=>((p0++dig 8 p1):List Int)) x.1 x.2.1,())
theorem k12q:kp3.Ok Try.prog TB:=Con.ok_fn k4t bd50 fun x h=>k1i0 (k1dt x.1 x.2.1 h)
def kr:Con TB.den:=Con.mk0 49 [.one (.d (.sl (.int .u8))),.agg [.d (.int .u64),.d (.int .u64),.d (.int .u64),.d (.int .u64)]] [] (.one (.one (.d (.sl (.int .u8))))) []
abbrev kjl:=HL TB.den (hsT kr.ins (hsOs kr.pre))
abbrev k8g:=HL TB.den (hsV kr.res (hsOs kr.post))
def k62:Cx TB:=⟨inf,[kp3],[],4,[]⟩
def k9q:Code:=Try.f49.body.getD .skip
def kb9:List ResultVar:=Try.f49.results.toList
def khg (o:k8g):An TB:= .no
def k9l (x:kjl) (o:k8g):Prop:=WPh TB k62 21 0 k9q (khg o) (kr.st TB x) (retTQ TB k62 kr kb9 o)
theorem ksp (o:k8g):OblH TB k62 21 0 k9q (khg o) (retTQ TB k62 kr kb9 o):=
 OblH.ofC (X:=True) (by kernel_rfl) trivial
theorem ksk {x:kjl} {o:k8g} (h:k9l x o):kr.Snd Try.prog x o:=
 Con.soundH (c:=kr) (C:=k62) TBok ⟨inf_ok,(all_cons k12q all_nil),all_nil⟩ mix Try.func49 (show Try.f49.body=some k9q by kernel_rfl) (show Try.f49.ntmps=21 by kernel_rfl) (show Try.f49.results.toList=kb9 by kernel_rfl) rfl h (ksp o)
theorem ku1 {p0:List Int} {p1:TNote} {r0:List Int} (h:
((U64 p1.Value∧p0.length≤137438953472)∧(U64 p1.Owner∧(p0++dig 8 p1.Value).length≤137438953472)∧let r1:List Int:=((p0++dig 8 p1.Value)++dig 8 p1.Owner)
(U64 p1.Rho∧r1.length≤137438953472)∧(U64 p1.Blind∧(r1++dig 8 p1.Rho).length≤137438953472)∧((r1++dig 8 p1.Rho)++dig 8 p1.Blind)=r0)):k9l (p0,p1.Value,p1.Owner,p1.Rho,p1.Blind,()) (r0,()):=WPh.of_eq (by kernel_rfl) h
theorem bd49:Callable Try.prog 49:=⟨by rw[Try.func49];kernel_rfl,by rw[Try.func49];show some _≠some _;decide⟩
theorem krz (p0:List Int) (p1:TNote) (h:NR p1∧p0.length≤68719476736):k9l (p0,p1.Value,p1.Owner,p1.Rho,p1.Blind,()) (((p0++encN p1):List Int),()):=by
 obtain⟨hn,hl⟩:=h
 refine ku1 ⟨⟨hn.v,by omega⟩,⟨hn.o,by simp;omega⟩,⟨hn.r,by simp;omega⟩,⟨hn.b,by simp;omega⟩,?_⟩
 simp[encN,List.append_assoc]
def kgr:Con TB.den:=kr.fnR (fun x=>(fun(p0:List Int) (p1:TNote)=>NR p1∧p0.length≤68719476736) x.1 (TNote.mk x.2.1 x.2.2.1 x.2.2.2.1 x.2.2.2.2.1)) fun x=>((fun(p0:List Int) (p1:TNote)=>((p0++encN p1):List Int)) x.1 (TNote.mk x.2.1 x.2.2.1 x.2.2.2.1 x.2.2.2.2.1),())
theorem kut:kgr.Ok Try.prog TB:=Con.ok_fn kr bd49 fun x h=>ksk (krz x.1 (TNote.mk x.2.1 x.2.2.1 x.2.2.2.1 x.2.2.2.2.1) h)
def km:Con TB.den:=Con.mk0 47 [.agg [.d (.sl (.st 0)),.d (.sl (.st 1)),.d (.int .u64)]] [] (.one (.one (.d (.bool)))) []
abbrev kl4:=HL TB.den (hsT km.ins (hsOs km.pre))
abbrev k21:=HL TB.den (hsV km.res (hsOs km.post))
def k2j:Cx TB:=⟨inf,[k8b,kaz,kf5],[],4,[]⟩
def k5l:Code:=Try.f47.body.getD .skip
def k8d:List ResultVar:=Try.f47.results.toList
def kww (o:k21):=qS TB k2j 36 0 (cB (cB (cB k5l))) .no (retTQ TB k2j km k8d o)
def k3f:Tm:=⟨[0],[.cells [.d (.sl (.st 0)),.d (.sl (.st 1)),.d (.int .u64)]],[1,23,24,25],[.one (.ptr 0 0),.one (.d (.sl (.st 0))),.one (.d (.int .i64)),.one (.d (.int .i64))],2⟩
def kvi (o:k21) (nx1:NX TB k3f):=qM TB 0 k3f nx1 (blockT TB 0 (kww o))
def k6m (o:k21) (nx1:NX TB k3f) (i:HL TB.den k3f.hs):Prop:=WP TB k2j 36 0 (cA (cA (cB (cA (cB (cB k5l)))))) .no (k3f.fill TB i) (kvi o nx1)
def kvp (o:k21):An TB:= .lp [] k3f (k6m o) fun nx1=> .no
def kvl (o:k21):An TB:= .nd [] .no [] (.nd [] (.nd [] .no [] (kvp o)) [] .no)
def kjn (o:k21):An TB:= .nd [] .no [] (kvl o)
def ka7 (x:kl4) (o:k21):Prop:=WPh TB k2j 36 0 k5l (kjn o) (km.st TB x) (retTQ TB k2j km k8d o)
theorem ktz (o:k21):OblH TB k2j 36 0 k5l (kjn o) (retTQ TB k2j km k8d o):=
 OblH.ofC (X:=((∀nx i,(k6m o) nx i=(k6m o) nx i)∧(∀nx1:NX TB k3f,True)∧True)) (by kernel_rfl) ⟨fun _ _=>rfl,fun _=>trivial,trivial⟩
theorem kty {x:kl4} {o:k21} (h:ka7 x o):km.Snd Try.prog x o:=
 Con.soundH (c:=km) (C:=k2j) TBok ⟨inf_ok,(all_cons kd5 (all_cons kji (all_cons kpp all_nil))),all_nil⟩ mix Try.func47 (show Try.f47.body=some k5l by kernel_rfl) (show Try.f47.ntmps=36 by kernel_rfl) (show Try.f47.results.toList=k8d by kernel_rfl) rfl h (ktz o)
theorem kwl {p0:TWitness} {r0:Bool} (h:
((decide (4<(p0.Ins.length:Int))=true→
false=r0)∧
(decide (4<(p0.Ins.length:Int))=false→
(decide (4<(p0.Outs.length:Int))=true→
false=r0)∧
(decide (4<(p0.Outs.length:Int))=false→
([p0.Secret].length≤9223372036854775807)∧((!(allB [p0.Secret]))=true→
false=r0)∧
((!(allB [p0.Secret]))=false→
Md.Loop (p0.Ins,((p0.Ins.length:Int):Int),(0:Int),p0.Ins,p0.Outs,p0.Secret,()) (k6m (r0,()))))))):ka7 (p0.Ins,p0.Outs,p0.Secret,()) (r0,()):=WPh.of_eq (by kernel_rfl) h
def kjb (r0:Bool) (k1:Int→Prop) (s23:List TSpent) (s24:Int) (h0_0:List TSpent) (h0_1:List TNote) (h0_2:Int) (s25:Int):Prop:=
(decide (s25<s24)=true→
(0≤s25)∧s25<(s23.length:Int)∧((ix s23 s25).Path.length≤9223372036854775807)∧((!(spendV (ix s23 s25)))=true→
false=r0)∧
((!(spendV (ix s23 s25)))=false→
k1 (IntKind.i64.wrap (s25+1):Int)))∧
(decide (s25<s24)=false→
(h0_1.length≤9223372036854775807)∧(h0_1.all noteV)=r0)
theorem kuz {r0:Bool} {s23:List TSpent} {s24:Int} {h0_0:List TSpent} {h0_1:List TNote} {h0_2:Int} {s25:Int} (inv:Int→Prop) (μ:Int→Nat) (h0:inv s25) (hs:∀(s25:Int),inv s25→kjb r0 (fun s25q=>inv s25q∧μ s25q<μ s25) s23 s24 h0_0 h0_1 h0_2 s25):Md.Loop (s23,s24,s25,h0_0,h0_1,h0_2,()) (k6m (r0,())):=
 ⟨⟨fun s:(List TSpent)×Int×Int×(List TSpent)×(List TNote)×Int×Unit=>(s.1=s23∧s.2.1=s24∧s.2.2.2.1=h0_0∧s.2.2.2.2.1=h0_1∧s.2.2.2.2.2.1=h0_2)∧inv s.2.2.1,fun s:(List TSpent)×Int×Int×(List TSpent)×(List TNote)×Int×Unit=>μ s.2.2.1,⟨⟨rfl,rfl,rfl,rfl,rfl⟩,h0⟩,fun(s23p,s24p,s25p,h0_0p,h0_1p,h0_2p,()) ⟨⟨eq0,eq1,eq2,eq3,eq4⟩,hi⟩=>by
  have eq0:s23p=s23:=eq0;subst s23p;have eq1:s24p=s24:=eq1;subst s24p;have eq2:h0_0p=h0_0:=eq2;subst h0_0p;have eq3:h0_1p=h0_1:=eq3;subst h0_1p;have eq4:h0_2p=h0_2:=eq4;subst h0_2p;exact mpr_of (by kernel_rfl) ((congrArg (fun k=>kjb r0 k s23 s24 h0_0 h0_1 h0_2 s25p) (lpk1 (⟨rfl,rfl,rfl,rfl,rfl⟩:s23=s23∧s24=s24∧h0_0=h0_0∧h0_1=h0_1∧h0_2=h0_2) inv (fun s25q=>μ s25q<μ s25p))).mpr (hs s25p hi))⟩⟩
theorem bd47:Callable Try.prog 47:=⟨by rw[Try.func47];kernel_rfl,by rw[Try.func47];show some _≠some _;decide⟩
theorem ksg (p0:TWitness) (h:p0.Ins.length≤9223372036854775807∧p0.Outs.length≤9223372036854775807∧(∀x∈p0.Ins,x.Path.length≤9223372036854775807)):ka7 (p0.Ins,p0.Outs,p0.Secret,()) (((rightV p0):Bool),()):=by
 obtain⟨h1,h2,h3⟩:=h
 have no:¬(p0.Ins.length≤4∧p0.Outs.length≤4∧p0.Secret<18446744069414584321∧(∀x∈p0.Ins,spendV x=true)∧∀x∈p0.Outs,noteV x=true)→false=rightV p0:=by
  intro h
  cases hr:rightV p0 with
  |false=>rfl
  |true=>exact(h (k92.1 hr)).elim
 have hs:allB [p0.Secret]=decide (p0.Secret<18446744069414584321):=by simp[allB]
 refine kwl ⟨fun h=>no fun a=> ?_,fun e1=>⟨fun h=>no fun a=> ?_,fun e2=>⟨by simp,fun h=>no fun a=> ?_,fun e3=> ?_⟩⟩⟩
 ·have h:=of_decide_eq_true h;omega
 ·have h:=of_decide_eq_true h;omega
 ·rw[hs,decide_eq_true a.2.2.1]at h;cases h
 have e1:=of_decide_eq_false e1
 have e2:=of_decide_eq_false e2
 have e3:p0.Secret<18446744069414584321:=by rw[hs]at e3;simpa using e3
 refine kuz (AllI spendV p0.Ins) (fun i=>(p0.Ins.length-i).toNat) AllI.start ?_
 intro i hi
 refine⟨fun hh=> ?_,fun hh=> ?_⟩
 ·have hh:=of_decide_eq_true hh
  have hm:=ix_mem p0.Ins i hi.1 hh
  refine⟨hi.1,hh,h3 _ hm,fun e=>no fun a=> ?_,fun e=>hi.next hh (by omega) (by simpa using e)⟩
  rw[a.2.2.2.1 _ hm]at e;cases e
 ·have ha:=hi.done (of_decide_eq_false hh)
  refine⟨h2,?_⟩
  cases hn:p0.Outs.all noteV with
  |false=>exact no fun a=>by rw[List.all_eq_true.2 a.2.2.2.2]at hn;cases hn
  |true=>exact(k92.2 ⟨by omega,by omega,e3,List.all_eq_true.1 ha,List.all_eq_true.1 hn⟩).symm
def khb:Con TB.den:=km.fnR (fun x=>(fun(p0:TWitness)=>p0.Ins.length≤9223372036854775807∧p0.Outs.length≤9223372036854775807∧(∀x∈p0.Ins,x.Path.length≤9223372036854775807)) (TWitness.mk x.1 x.2.1 x.2.2.1)) fun x=>((fun(p0:TWitness)=>((rightV p0):Bool)) (TWitness.mk x.1 x.2.1 x.2.2.1),())
theorem kva:khb.Ok Try.prog TB:=Con.ok_fn km bd47 fun x h=>kty (ksg (TWitness.mk x.1 x.2.1 x.2.2.1) h)
def kw:Con TB.den:=Con.mk0 92 [.one (.own 0),.one (.d (.int .i64))] [.tip (.int .u8)] (.one (.one (.own 0))) [.tip (.int .u8)]
abbrev klk:=HL TB.den (hsT kw.ins (hsOs kw.pre))
abbrev k4n:=HL TB.den (hsV kw.res (hsOs kw.post))
def k3u:Cx TB:=⟨inf,[k8e],[],4,[]⟩
def k7n:Code:=Try.f92.body.getD .skip
def k99:List ResultVar:=Try.f92.results.toList
def k89:Tm:=⟨[0],[.tip (.int .u8)],[0,1],[.one (.own 0),.one (.d (.int .i64))],1⟩
def kjm (o:k4n) (i:HL TB.den k89.hs):Prop:=ghs TB [] (k89.fill TB i) fun s=>WP TB k3u 15 1 (cB (cB k7n)) .no s (retTQ TB k3u kw k99 o)
structure k3v (o:k4n) (i:HL TB.den k89.hs):Prop where
 h:kjm o i
def kxy (o:k4n):An TB:= .jn k89 (k3v o) [] .no [] .no
def kky (o:k4n):An TB:= .nd [] .no [] (kxy o)
def kb3 (x:klk) (o:k4n):Prop:=WPh TB k3u 15 1 k7n (kky o) (kw.st TB x) (retTQ TB k3u kw k99 o)
theorem kv4 (o:k4n):OblH TB k3u 15 1 k7n (kky o) (retTQ TB k3u kw k99 o):=
 OblH.ofC (X:=((∀i,(k3v o) i=kjm o i)∧True)) (by kernel_rfl) ⟨fun _=>propext ⟨fun h=>h.1,fun h=>⟨h⟩⟩,trivial⟩
theorem kwj {x:klk} {o:k4n} (h:kb3 x o):kw.Snd Try.prog x o:=
 Con.soundH (c:=kw) (C:=k3u) TBok ⟨inf_ok,(all_cons kd6 all_nil),all_nil⟩ mix Try.func92 (show Try.f92.body=some k7n by kernel_rfl) (show Try.f92.ntmps=15 by kernel_rfl) (show Try.f92.results.toList=k99 by kernel_rfl) rfl h (kv4 o)
theorem ky7 {p1:Int} {w0:List Int} {e0:List Int} (h:
((decide (p1<0)=true→
(w0=w0)∧k3v (e0,()) ((0:Int),w0,()))∧
(decide (p1<0)=false→
(decide (4294967295<p1)=true→
(w0=w0)∧k3v (e0,()) ((0:Int),w0,()))∧
(decide (4294967295<p1)=false→
(w0=w0)∧k3v (e0,()) (p1,w0,()))))):kb3 (p1,w0,()) (e0,()):=WPh.of_eq (by kernel_rfl) h
theorem ksr {e0:List Int} {s1:Int} {g0:List Int} (h:
((g0=g0)∧(U64 (IntKind.u64.wrap s1)∧(0≤(4:Int)∧(4:Int)≤8)∧g0.length≤137438953472)∧let r1:List Int:=(g0++dig (4:Int).toNat (IntKind.u64.wrap s1))
(r1=r1)∧r1=e0)):k3v (e0,()) (s1,g0,()):=⟨mpr_of (by kernel_rfl) h⟩
theorem bd92:Callable Try.prog 92:=⟨by rw[Try.func92];kernel_rfl,by rw[Try.func92];show some _≠some _;decide⟩
theorem kuq (p1:Int) (w0:List Int) (h:(-9223372036854775808≤p1∧p1≤9223372036854775807)∧w0.length≤137438953472):kb3 (p1,w0,()) (((w0++dig 4 (len4 p1)):List Int),()):=by
 obtain⟨h1,h2⟩:=h
 have j:∀n,0≤n→n≤4294967295→len4 p1=n→k3v ((w0++dig 4 (len4 p1):List Int),()) (n,w0,()):=by
  intro n h0 h1 e
  refine ksr ?_
  rw[wu n (by omega) (by omega),e]
  exact⟨rfl,⟨⟨h0,by omega⟩,by omega,h2⟩,by trivial,rfl⟩
 refine ky7 ⟨fun h=>⟨rfl,j 0 (by omega) (by omega) ?_⟩,fun h=>⟨fun h' =>⟨rfl,j 0 (by omega) (by omega) ?_⟩,fun h' =>⟨rfl,j p1 ?_ ?_ ?_⟩⟩⟩
 ·have h:=of_decide_eq_true h;exact if_pos (.inl h)
 ·have h' :=of_decide_eq_true h';exact if_pos (.inr h')
 ·have h:=of_decide_eq_false h;omega
 ·have h' :=of_decide_eq_false h';omega
 ·have h:=of_decide_eq_false h;have h' :=of_decide_eq_false h';exact len4_in ⟨by omega,by omega⟩
def kc5:Con TB.den:=kw.fnR (fun x=>(fun(p1:Int) (w0:List Int)=>(-9223372036854775808≤p1∧p1≤9223372036854775807)∧w0.length≤137438953472) x.1 x.2.1) fun x=>((fun(p1:Int) (w0:List Int)=>((w0++dig 4 (len4 p1)):List Int)) x.1 x.2.1,())
theorem kk0:kc5.Ok Try.prog TB:=Con.ok_fn kw bd92 fun x h=>kwj (kuq x.1 x.2.1 h)
def k61:Con TB.den:=Con.mk0 48 [.one (.d (.sl (.int .u8))),.one (.d (.int .i64))] [] (.one (.one (.d (.sl (.int .u8))))) []
abbrev k19n:=HL TB.den (hsT k61.ins (hsOs k61.pre))
abbrev kq6:=HL TB.den (hsV k61.res (hsOs k61.post))
def khe:Cx TB:=⟨inf,[kel,kc5],[],4,[]⟩
def kow:Code:=Try.f48.body.getD .skip
def kue:List ResultVar:=Try.f48.results.toList
def k176 (o:kq6):An TB:= .no
def kov (x:k19n) (o:kq6):Prop:=WPh TB khe 9 0 kow (k176 o) (k61.st TB x) (retTQ TB khe k61 kue o)
theorem k1j6 (o:kq6):OblH TB khe 9 0 kow (k176 o) (retTQ TB khe k61 kue o):=
 OblH.ofC (X:=True) (by kernel_rfl) trivial
theorem k1lu {x:k19n} {o:kq6} (h:kov x o):k61.Snd Try.prog x o:=
 Con.soundH (c:=k61) (C:=khe) TBok ⟨inf_ok,(all_cons kmu (all_cons kk0 all_nil)),all_nil⟩ mix Try.func48 (show Try.f48.body=some kow by kernel_rfl) (show Try.f48.ntmps=9 by kernel_rfl) (show Try.f48.results.toList=kue by kernel_rfl) rfl h (k1j6 o)
theorem k1md {p0:List Int} {p1:Int} {r0:List Int} (h:
((0≤(4:Int)∧p0.length+(4:Int)≤140737488355328)∧(p0=p0)∧((-9223372036854775808≤p1∧p1≤9223372036854775807)∧p0.length≤137438953472)∧(p0++dig 4 (len4 p1))=r0)):kov (p0,p1,()) (r0,()):=WPh.of_eq (by kernel_rfl) h
theorem bd48:Callable Try.prog 48:=⟨by rw[Try.func48];kernel_rfl,by rw[Try.func48];show some _≠some _;decide⟩
theorem k1g5 (p0:List Int) (p1:Int) (h:(-9223372036854775808≤p1∧p1≤9223372036854775807)∧p0.length≤137438953472):kov (p0,p1,()) (((p0++dig 4 (len4 p1)):List Int),()):=by
 obtain⟨h1,h2⟩:=h
 exact k1md ⟨⟨by omega,by omega⟩,by trivial,⟨h1,h2⟩,rfl⟩
def k123:Con TB.den:=k61.fnR (fun x=>(fun(p0:List Int) (p1:Int)=>(-9223372036854775808≤p1∧p1≤9223372036854775807)∧p0.length≤137438953472) x.1 x.2.1) fun x=>((fun(p0:List Int) (p1:Int)=>((p0++dig 4 (len4 p1)):List Int)) x.1 x.2.1,())
theorem k1nd:k123.Ok Try.prog TB:=Con.ok_fn k61 bd48 fun x h=>k1lu (k1g5 x.1 x.2.1 h)
def k45:Con TB.den:=Con.mk0 51 [.one (.d (.sl (.int .u8))),.one (.d (.sl (.int .u64)))] [] (.one (.one (.d (.sl (.int .u8))))) []
abbrev k17a:=HL TB.den (hsT k45.ins (hsOs k45.pre))
abbrev kb8:=HL TB.den (hsV k45.res (hsOs k45.post))
def k7v:Cx TB:=⟨inf,[kel,kc5,k8e],[],4,[]⟩
def kcn:Code:=Try.f51.body.getD .skip
def kks:List ResultVar:=Try.f51.results.toList
def k1kb (o:kb8):=qS TB k7v 28 0 (cB (cB (cB kcn))) .no (retTQ TB k7v k45 kks o)
def kc6:Tm:=⟨[0],[.tip (.int .u8)],[5,17,18,19],[.one (.own 0),.one (.d (.sl (.int .u64))),.one (.d (.int .i64)),.one (.d (.int .i64))],1⟩
def kg1 (o:kb8) (nx1:NX TB kc6) (i:HL TB.den kc6.hs):Prop:=WP TB k7v 28 0 (cA (cA (cB (cA (cB (cB kcn)))))) .no (kc6.fill TB i) (qM TB 0 kc6 nx1 (blockT TB 0 (k1kb o)))
def k1lg (o:kb8):An TB:= .nd [] .no [] (.lp [] kc6 (kg1 o) fun nx1=> .no)
def k13d (o:kb8):An TB:= .nd [] .no [] (.nd [] .no [] (.nd [] (k1lg o) [] .no))
def kmk (x:k17a) (o:kb8):Prop:=WPh TB k7v 28 0 kcn (k13d o) (k45.st TB x) (retTQ TB k7v k45 kks o)
theorem k1if (o:kb8):OblH TB k7v 28 0 kcn (k13d o) (retTQ TB k7v k45 kks o):=
 OblH.ofC (X:=((∀nx i,(kg1 o) nx i=(kg1 o) nx i)∧(∀nx1:NX TB kc6,True)∧True)) (by kernel_rfl) ⟨fun _ _=>rfl,fun _=>trivial,trivial⟩
theorem k1hn {x:k17a} {o:kb8} (h:kmk x o):k45.Snd Try.prog x o:=
 Con.soundH (c:=k45) (C:=k7v) TBok ⟨inf_ok,(all_cons kmu (all_cons kk0 (all_cons kd6 all_nil))),all_nil⟩ mix Try.func51 (show Try.f51.body=some kcn by kernel_rfl) (show Try.f51.ntmps=28 by kernel_rfl) (show Try.f51.results.toList=kks by kernel_rfl) rfl h (k1if o)
theorem k1m0 {p0:List Int} {p1:List Int} {r0:List Int} (h:
(let v1:Int:=IntKind.i64.wrap (4+(IntKind.i64.wrap (8*(p1.length:Int))))
(0≤v1∧p0.length+v1≤140737488355328)∧(p0=p0)∧((-9223372036854775808≤(p1.length:Int)∧(p1.length:Int)≤9223372036854775807)∧p0.length≤137438953472)∧((p0++dig 4 (len4 (p1.length:Int)))=(p0++dig 4 (len4 (p1.length:Int))))∧Md.Loop (p1,((p1.length:Int):Int),(0:Int),((p0++dig 4 (len4 (p1.length:Int))):List Int),()) (kg1 (r0,())))):kmk (p0,p1,()) (r0,()):=WPh.of_eq (by kernel_rfl) h
def k14k (r0:List Int) (k1:Int→List Int→Prop) (s17:List Int) (s18:Int) (s19:Int) (g0:List Int):Prop:=
(decide (s19<s18)=true→
(0≤s19)∧s19<(s17.length:Int)∧(g0=g0)∧(U64 (ix s17 s19)∧(0≤(8:Int)∧(8:Int)≤8)∧g0.length≤137438953472)∧((g0++dig (8:Int).toNat (ix s17 s19))=(g0++dig (8:Int).toNat (ix s17 s19)))∧k1 (IntKind.i64.wrap (s19+1):Int) ((g0++dig (8:Int).toNat (ix s17 s19)):List Int))∧
(decide (s19<s18)=false→
g0=r0)
theorem k1gz {r0:List Int} {s17:List Int} {s18:Int} {s19:Int} {g0:List Int} (inv:Int→List Int→Prop) (μ:Int→List Int→Nat) (h0:inv s19 g0) (hs:∀(s19:Int) (g0:List Int),inv s19 g0→k14k r0 (fun s19q g0q=>inv s19q g0q∧μ s19q g0q<μ s19 g0) s17 s18 s19 g0):Md.Loop (s17,s18,s19,g0,()) (kg1 (r0,())):=
 ⟨⟨fun s:(List Int)×Int×Int×(List Int)×Unit=>(s.1=s17∧s.2.1=s18)∧inv s.2.2.1 s.2.2.2.1,fun s:(List Int)×Int×Int×(List Int)×Unit=>μ s.2.2.1 s.2.2.2.1,⟨⟨rfl,rfl⟩,h0⟩,fun(s17p,s18p,s19p,g0p,()) ⟨⟨eq0,eq1⟩,hi⟩=>by
  have eq0:s17p=s17:=eq0;subst s17p;have eq1:s18p=s18:=eq1;subst s18p;exact mpr_of (by kernel_rfl) ((congrArg (fun k=>k14k r0 k s17 s18 s19p g0p) (lpk2 (⟨rfl,rfl⟩:s17=s17∧s18=s18) inv (fun s19q g0q=>μ s19q g0q<μ s19p g0p))).mpr (hs s19p g0p hi))⟩⟩
theorem bd51:Callable Try.prog 51:=⟨by rw[Try.func51];kernel_rfl,by rw[Try.func51];show some _≠some _;decide⟩
theorem k1df (p0:List Int) (p1:List Int) (h:Us p1∧p0.length≤68719476736∧p1.length≤4294967295):kmk (p0,p1,()) (((p0++encL p1):List Int),()):=by
 obtain⟨h1,h2,h3⟩:=h
 refine k1m0 ?_
 rw[wi (8*(p1.length:Int)) (by omega) (by omega),wi (4+8*(p1.length:Int)) (by omega) (by omega)]
 refine⟨⟨by omega,by omega⟩,by trivial,⟨by omega,by omega⟩,by trivial,?_⟩
 refine k1gz (fun i g=>0≤i∧i≤p1.length∧g=p0++dig 4 (len4 p1.length)++(p1.take i.toNat).flatMap (dig 8)) (fun i _=>(p1.length-i).toNat) ⟨by omega,by omega,by simp⟩ ?_
 rintro i g ⟨g0,g1,rfl⟩
 refine⟨fun h=> ?_,fun h=> ?_⟩
 ·have h:=of_decide_eq_true h
  have hx:=h1 _ (ix_mem p1 i g0 h)
  rw[inc i p1.length g0 h (by omega)]
  refine⟨g0,h,by trivial,⟨hx,by omega,?_⟩,by trivial,⟨by omega,by omega,?_⟩,by omega⟩
  ·simp only[List.length_append,kh,kko,List.length_take];omega
  ·rw[k16 p1 i g0 h,List.flatMap_append,List.append_assoc]
   simp
 ·have h:=of_decide_eq_false h
  rw[List.take_of_length_le (by omega),List.append_assoc]
  rfl
def kzz:Con TB.den:=k45.fnR (fun x=>(fun(p0:List Int) (p1:List Int)=>Us p1∧p0.length≤68719476736∧p1.length≤4294967295) x.1 x.2.1) fun x=>((fun(p0:List Int) (p1:List Int)=>((p0++encL p1):List Int)) x.1 x.2.1,())
theorem k1kc:kzz.Ok Try.prog TB:=Con.ok_fn k45 bd51 fun x h=>k1hn (k1df x.1 x.2.1 h)
end Go.Proofs.Ytpffhgljgpjenaa
end
