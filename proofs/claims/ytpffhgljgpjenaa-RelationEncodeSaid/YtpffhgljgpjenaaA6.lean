/-
  Parts of the proofs that the laws of this seat hold of every input, merged by a program: a machine over pure data that is sound for the model, what each function of the translation does in it, and plain lemmas. No conditions but those in each theorem.
-/
import Derived.Test.YtpffhgljgpjenaaA5
set_option linter.all false
set_option maxRecDepth 100000
noncomputable section
namespace Go.Proofs.Ytpffhgljgpjenaa
open Go Go.Bv Go.Cv Go.Md Go.RowKit
def ky:Con TB.den:=Con.mk0 15 [.one (.ptr 0 0),.agg [.d (.int .i64),.d (.int .u64),.d (.sl (.int .u64)),.d (.sl (.int .u64)),.d (.sl (.int .u64)),.d (.int .u64),.d (.int .u64),.d (.int .u64),.d (.int .u64),.d (.int .u64)],.agg [.d (.sl (.st 0)),.d (.sl (.st 1)),.d (.int .u64)]] [.cells [.d (.bool),.d (.int .u64),.d (.int .i64),.d (.sl (.st 3)),.mp 1,.mp 2,.mp 3],.map (.str) (.int .i64),.map (.str) (.sl (.int .u64)),.map (.str) (.bool)] (.one (.one (.d (.int .i64)))) [.cells [.d (.bool),.d (.int .u64),.d (.int .i64),.d (.sl (.st 3)),.mp 1,.mp 2,.mp 3],.map (.str) (.int .i64),.map (.str) (.sl (.int .u64)),.map (.str) (.bool)]
abbrev kre:=HL TB.den (hsT ky.ins (hsOs ky.pre))
abbrev kn:=HL TB.den (hsV ky.res (hsOs ky.post))
noncomputable def k19:Cx TB:=⟨inf,[kfw,kkq,ke8,ks7,ke3,kcs],[],4,[]⟩
noncomputable def k33:Code:=Try.f15.body.getD .skip
noncomputable def k72:List ResultVar:=Try.f15.results.toList
def k85:Tm:=⟨[0,1,2,3,4,5],[.cells [.d (.bool),.d (.int .u64),.d (.int .i64),.d (.sl (.st 3)),.mp 1,.mp 2,.mp 3],.map (.str) (.int .i64),.map (.str) (.sl (.int .u64)),.map (.str) (.bool),.cells [.d (.int .i64),.d (.int .u64),.d (.sl (.int .u64)),.d (.sl (.int .u64)),.d (.sl (.int .u64)),.d (.int .u64),.d (.int .u64),.d (.int .u64),.d (.int .u64),.d (.int .u64)],.cells [.d (.sl (.st 0)),.d (.sl (.st 1)),.d (.int .u64)]],[4,5],[.one (.ptr 4 0),.one (.ptr 5 0)],50⟩
def knz (o:kn) (i:HL TB.den k85.hs):Prop:=ghs TB [] (k85.fill TB i) fun s=>WP TB k19 100 4 (cB (cB (cB (cB (cB k33))))) .no s (retTQ TB k19 ky k72 o)
structure k5u (o:kn) (i:HL TB.den k85.hs):Prop where
 h:knz o i
def k14y (o:kn):=qS TB k19 100 4 (cB (cB (cB (cB k33)))) (.jn k85 (k5u o) [] .no [] .no) (retTQ TB k19 ky k72 o)
def k5t:Tm:=⟨[0,1,2,3,4,5],[.cells [.d (.bool),.d (.int .u64),.d (.int .i64),.d (.sl (.st 3)),.mp 1,.mp 2,.mp 3],.map (.str) (.int .i64),.map (.str) (.sl (.int .u64)),.map (.str) (.bool),.cells [.d (.int .i64),.d (.int .u64),.d (.sl (.int .u64)),.d (.sl (.int .u64)),.d (.sl (.int .u64)),.d (.int .u64),.d (.int .u64),.d (.int .u64),.d (.int .u64),.d (.int .u64)],.cells [.d (.sl (.st 0)),.d (.sl (.st 1)),.d (.int .u64)]],[0,4,5,40,41,42],[.one (.ptr 0 0),.one (.ptr 4 0),.one (.ptr 5 0),.one (.d (.sl (.st 1))),.one (.d (.int .i64)),.one (.d (.int .i64))],6⟩
def k15c (o:kn) (nx2:NX TB k5t):=qM TB 4 k5t nx2 (blockT TB 2 (k14y o))
def k8y (o:kn) (nx2:NX TB k5t) (i:HL TB.den k5t.hs):Prop:=WP TB k19 100 4 (cA (cA (cB (cA (cB (cB (cB k33))))))) .no (k5t.fill TB i) (k15c o nx2)
noncomputable def k15d (o:kn):An TB:= .lp [] k5t (k8y o) fun nx2=> .no
noncomputable def kq0 (o:kn):An TB:= .nd [] (.nd [] .no [] (k15d o)) [] (.jn k85 (k5u o) [] .no [] .no)
def k15n (o:kn):=qS TB k19 100 4 (cB (cB (cB k33))) (kq0 o) (retTQ TB k19 ky k72 o)
def k5p:Tm:=⟨[0,1,2,3,4,5],[.cells [.d (.bool),.d (.int .u64),.d (.int .i64),.d (.sl (.st 3)),.mp 1,.mp 2,.mp 3],.map (.str) (.int .i64),.map (.str) (.sl (.int .u64)),.map (.str) (.bool),.cells [.d (.int .i64),.d (.int .u64),.d (.sl (.int .u64)),.d (.sl (.int .u64)),.d (.sl (.int .u64)),.d (.int .u64),.d (.int .u64),.d (.int .u64),.d (.int .u64),.d (.int .u64)],.cells [.d (.sl (.st 0)),.d (.sl (.st 1)),.d (.int .u64)]],[0,4,5,19,20,21],[.one (.ptr 0 0),.one (.ptr 4 0),.one (.ptr 5 0),.one (.d (.sl (.st 0))),.one (.d (.int .i64)),.one (.d (.int .i64))],6⟩
def k13w (o:kn) (nx1:NX TB k5p):=qM TB 4 k5p nx1 (blockT TB 0 (k15n o))
def k91 (o:kn) (nx1:NX TB k5p) (i:HL TB.den k5p.hs):Prop:=WP TB k19 100 4 (cA (cA (cB (cA (cB (cB k33)))))) .no (k5p.fill TB i) (k13w o nx1)
noncomputable def k12e (o:kn):An TB:= .lp [] k5p (k91 o) fun nx1=> .no
noncomputable def k12m (o:kn):An TB:= .nd [] (.nd [] .no [] (k12e o)) [] (kq0 o)
noncomputable def kq2 (o:kn):An TB:= .nd [] .no [] (.nd [] .no [] (k12m o))
def keb (x:kre) (o:kn):Prop:=WPh TB k19 100 4 k33 (kq2 o) (ky.st TB x) (retTQ TB k19 ky k72 o)
theorem k13p (o:kn):OblH TB k19 100 4 k33 (kq2 o) (retTQ TB k19 ky k72 o):=
 OblH.ofC (X:=((∀nx i,(k91 o) nx i=(k91 o) nx i)∧(∀nx1:NX TB k5p,True)∧(∀nx i,(k8y o) nx i=(k8y o) nx i)∧(∀nx2:NX TB k5t,True)∧(∀i,(k5u o) i=knz o i)∧True)) (by kernel_rfl) ⟨fun _ _=>rfl,fun _=>trivial,fun _ _=>rfl,fun _=>trivial,fun _=>propext ⟨fun h=>h.1,fun h=>⟨h⟩⟩,trivial⟩
theorem k140 {x:kre} {o:kn} (h:keb x o):ky.Snd Try.prog x o:=
 Con.soundH (c:=ky) (C:=k19) TBok ⟨inf_ok,(all_cons kq3 (all_cons k115 (all_cons kod (all_cons k1am (all_cons kny (all_cons klh all_nil)))))),all_nil⟩ mix Try.func15 (show Try.f15.body=some k33 by kernel_rfl) (show Try.f15.ntmps=100 by kernel_rfl) (show Try.f15.results.toList=k72 by kernel_rfl) rfl h (k13p o)
theorem k163 {p1:TStatement} {p2:TWitness} {c0_0:Bool} {c0_1:Int} {c0_2:Int} {c0_3:List TQuestion} {w1k:List ByteArray} {w1v:List Int} {w2k:List ByteArray} {w2v:List (List Int)} {w3k:List ByteArray} {w3v:List Bool} {r0:Int} {d0_0:Bool} {d0_1:Int} {d0_2:Int} {d0_3:List TQuestion} {e1k:List ByteArray} {e1v:List Int} {e2k:List ByteArray} {e2v:List (List Int)} {e3k:List ByteArray} {e3v:List Bool} (h:
((SR p1∧WR p2)∧((!(relV p1 p2))=true→
 1=r0∧c0_0=d0_0∧c0_1=d0_1∧c0_2=d0_2∧c0_3=d0_3∧w1k=e1k∧w1v=e1v∧w2k=e2k∧w2v=e2v∧w3k=e3k∧w3v=e3v)∧
((!(relV p1 p2))=false→
 Md.Loop (p2.Ins,((p2.Ins.length:Int):Int),(0:Int),c0_0,c0_1,c0_2,c0_3,p1.Depth,p1.Anchor,p1.Marks,p1.Commits,p1.Rhos,p1.Deposit,p1.Withdraw,p1.Fee,p1.Account,p1.Bind,p2.Ins,p2.Outs,p2.Secret,w1k,w1v,w2k,w2v,w3k,w3v,()) (k91 (r0,d0_0,d0_1,d0_2,d0_3,e1k,e1v,e2k,e2v,e3k,e3v,()))))):keb (p1.Depth,p1.Anchor,p1.Marks,p1.Commits,p1.Rhos,p1.Deposit,p1.Withdraw,p1.Fee,p1.Account,p1.Bind,p2.Ins,p2.Outs,p2.Secret,c0_0,c0_1,c0_2,c0_3,w1k,w1v,w2k,w2v,w3k,w3v,()) (r0,d0_0,d0_1,d0_2,d0_3,e1k,e1v,e2k,e2v,e3k,e3v,()):=WPh.of_eq (by kernel_rfl) h
theorem kwz {r0:Int} {d0_0:Bool} {d0_1:Int} {d0_2:Int} {d0_3:List TQuestion} {e1k:List ByteArray} {e1v:List Int} {e2k:List ByteArray} {e2v:List (List Int)} {e3k:List ByteArray} {e3v:List Bool} {h0_0:Bool} {h0_1:Int} {h0_2:Int} {h0_3:List TQuestion} {h4_0:Int} {h4_1:Int} {h4_2:List Int} {h4_3:List Int} {h4_4:List Int} {h4_5:Int} {h4_6:Int} {h4_7:Int} {h4_8:Int} {h4_9:Int} {h5_0:List TSpent} {h5_1:List TNote} {h5_2:Int} {g1k:List ByteArray} {g1v:List Int} {g2k:List ByteArray} {g2v:List (List Int)} {g3k:List ByteArray} {g3v:List Bool} (h:
(((TWitness.mk h5_0 h5_1 h5_2).Ins.length≤9223372036854775807)∧let v4:Int:=IntKind.u64.wrap ((inS (TWitness.mk h5_0 h5_1 h5_2).Ins)+h4_5)
((TWitness.mk h5_0 h5_1 h5_2).Outs.length≤9223372036854775807)∧let v5:Int:=IntKind.u64.wrap ((outS (TWitness.mk h5_0 h5_1 h5_2).Outs)+h4_6)
((v4 !=(IntKind.u64.wrap (v5+h4_7)))=true→
 13=r0∧h0_0=d0_0∧h0_1=d0_1∧h0_2=d0_2∧h0_3=d0_3∧g1k=e1k∧g1v=e1v∧g2k=e2k∧g2v=e2v∧g3k=e3k∧g3v=e3v)∧
((v4 !=(IntKind.u64.wrap (v5+h4_7)))=false→
 0=r0∧h0_0=d0_0∧h0_1=d0_1∧h0_2=d0_2∧h0_3=d0_3∧g1k=e1k∧g1v=e1v∧g2k=e2k∧g2v=e2v∧g3k=e3k∧g3v=e3v))):k5u (r0,d0_0,d0_1,d0_2,d0_3,e1k,e1v,e2k,e2v,e3k,e3v,()) (h0_0,h0_1,h0_2,h0_3,h4_0,h4_1,h4_2,h4_3,h4_4,h4_5,h4_6,h4_7,h4_8,h4_9,h5_0,h5_1,h5_2,g1k,g1v,g2k,g2v,g3k,g3v,()):=⟨mpr_of (by kernel_rfl) h⟩
def kpb (r0:Int) (d0_0:Bool) (d0_1:Int) (d0_2:Int) (d0_3:List TQuestion) (e1k:List ByteArray) (e1v:List Int) (e2k:List ByteArray) (e2v:List (List Int)) (e3k:List ByteArray) (e3v:List Bool) (k1:Int→Prop) (s19:List TSpent) (s20:Int) (h0_0:Bool) (h0_1:Int) (h0_2:Int) (h0_3:List TQuestion) (h4_0:Int) (h4_1:Int) (h4_2:List Int) (h4_3:List Int) (h4_4:List Int) (h4_5:Int) (h4_6:Int) (h4_7:Int) (h4_8:Int) (h4_9:Int) (h5_0:List TSpent) (h5_1:List TNote) (h5_2:Int) (g1k:List ByteArray) (g1v:List Int) (g2k:List ByteArray) (g2v:List (List Int)) (g3k:List ByteArray) (g3v:List Bool) (s21:Int):Prop:=
(decide (s21<s20)=true→
(0≤s21)∧s21<(s19.length:Int)∧(0≤s21)∧s21<(h4_2.length:Int)∧(PR (ix s19 s21)∧OrOk g1k g1v h0_3∧(∀l a,(pk h0_0 h0_3 g1k g1v) l a=none∨∃n,(pk h0_0 h0_3 g1k g1v) l a=some n∧U64 n))∧let r1:Int:=(inE (pk h0_0 h0_3 g1k g1v) (TStatement.mk h4_0 h4_1 h4_2 h4_3 h4_4 h4_5 h4_6 h4_7 h4_8 h4_9).Anchor (ix h4_2 s21) (ix s19 s21))
((r1 !=0)=true→
 r1=r0∧h0_0=d0_0∧h0_1=d0_1∧h0_2=d0_2∧h0_3=d0_3∧g1k=e1k∧g1v=e1v∧g2k=e2k∧g2v=e2v∧g3k=e3k∧g3v=e3v)∧
((r1 !=0)=false→
 k1 (IntKind.i64.wrap (s21+1):Int)))∧
(decide (s21<s20)=false→
 Md.Loop (h5_1,((h5_1.length:Int):Int),(0:Int),h0_0,h0_1,h0_2,h0_3,h4_0,h4_1,h4_2,h4_3,h4_4,h4_5,h4_6,h4_7,h4_8,h4_9,h5_0,h5_1,h5_2,g1k,g1v,g2k,g2v,g3k,g3v,()) (k8y (r0,d0_0,d0_1,d0_2,d0_3,e1k,e1v,e2k,e2v,e3k,e3v,())))
theorem k14k {r0:Int} {d0_0:Bool} {d0_1:Int} {d0_2:Int} {d0_3:List TQuestion} {e1k:List ByteArray} {e1v:List Int} {e2k:List ByteArray} {e2v:List (List Int)} {e3k:List ByteArray} {e3v:List Bool} {s19:List TSpent} {s20:Int} {h0_0:Bool} {h0_1:Int} {h0_2:Int} {h0_3:List TQuestion} {h4_0:Int} {h4_1:Int} {h4_2:List Int} {h4_3:List Int} {h4_4:List Int} {h4_5:Int} {h4_6:Int} {h4_7:Int} {h4_8:Int} {h4_9:Int} {h5_0:List TSpent} {h5_1:List TNote} {h5_2:Int} {g1k:List ByteArray} {g1v:List Int} {g2k:List ByteArray} {g2v:List (List Int)} {g3k:List ByteArray} {g3v:List Bool} {s21:Int} (inv:Int→Prop) (μ:Int→Nat) (h0:inv s21) (hs:∀(s21:Int),inv s21→kpb r0 d0_0 d0_1 d0_2 d0_3 e1k e1v e2k e2v e3k e3v (fun s21q=>inv s21q∧μ s21q<μ s21) s19 s20 h0_0 h0_1 h0_2 h0_3 h4_0 h4_1 h4_2 h4_3 h4_4 h4_5 h4_6 h4_7 h4_8 h4_9 h5_0 h5_1 h5_2 g1k g1v g2k g2v g3k g3v s21):Md.Loop (s19,s20,s21,h0_0,h0_1,h0_2,h0_3,h4_0,h4_1,h4_2,h4_3,h4_4,h4_5,h4_6,h4_7,h4_8,h4_9,h5_0,h5_1,h5_2,g1k,g1v,g2k,g2v,g3k,g3v,()) (k91 (r0,d0_0,d0_1,d0_2,d0_3,e1k,e1v,e2k,e2v,e3k,e3v,())):=
 ⟨⟨fun s:(List TSpent)×Int×Int×Bool×Int×Int×(List TQuestion)×Int×Int×(List Int)×(List Int)×(List Int)×Int×Int×Int×Int×Int×(List TSpent)×(List TNote)×Int×(List ByteArray)×(List Int)×(List ByteArray)×(List (List Int))×(List ByteArray)×(List Bool)×Unit=>(s.1=s19∧s.2.1=s20∧s.2.2.2.1=h0_0∧s.2.2.2.2.1=h0_1∧s.2.2.2.2.2.1=h0_2∧s.2.2.2.2.2.2.1=h0_3∧s.2.2.2.2.2.2.2.1=h4_0∧s.2.2.2.2.2.2.2.2.1=h4_1∧s.2.2.2.2.2.2.2.2.2.1=h4_2∧s.2.2.2.2.2.2.2.2.2.2.1=h4_3∧s.2.2.2.2.2.2.2.2.2.2.2.1=h4_4∧s.2.2.2.2.2.2.2.2.2.2.2.2.1=h4_5∧s.2.2.2.2.2.2.2.2.2.2.2.2.2.1=h4_6∧s.2.2.2.2.2.2.2.2.2.2.2.2.2.2.1=h4_7∧s.2.2.2.2.2.2.2.2.2.2.2.2.2.2.2.1=h4_8∧s.2.2.2.2.2.2.2.2.2.2.2.2.2.2.2.2.1=h4_9∧s.2.2.2.2.2.2.2.2.2.2.2.2.2.2.2.2.2.1=h5_0∧s.2.2.2.2.2.2.2.2.2.2.2.2.2.2.2.2.2.2.1=h5_1∧s.2.2.2.2.2.2.2.2.2.2.2.2.2.2.2.2.2.2.2.1=h5_2∧s.2.2.2.2.2.2.2.2.2.2.2.2.2.2.2.2.2.2.2.2.1=g1k∧s.2.2.2.2.2.2.2.2.2.2.2.2.2.2.2.2.2.2.2.2.2.1=g1v∧s.2.2.2.2.2.2.2.2.2.2.2.2.2.2.2.2.2.2.2.2.2.2.1=g2k∧s.2.2.2.2.2.2.2.2.2.2.2.2.2.2.2.2.2.2.2.2.2.2.2.1=g2v∧s.2.2.2.2.2.2.2.2.2.2.2.2.2.2.2.2.2.2.2.2.2.2.2.2.1=g3k∧s.2.2.2.2.2.2.2.2.2.2.2.2.2.2.2.2.2.2.2.2.2.2.2.2.2.1=g3v)∧inv s.2.2.1,fun s:(List TSpent)×Int×Int×Bool×Int×Int×(List TQuestion)×Int×Int×(List Int)×(List Int)×(List Int)×Int×Int×Int×Int×Int×(List TSpent)×(List TNote)×Int×(List ByteArray)×(List Int)×(List ByteArray)×(List (List Int))×(List ByteArray)×(List Bool)×Unit=>μ s.2.2.1,⟨⟨rfl,rfl,rfl,rfl,rfl,rfl,rfl,rfl,rfl,rfl,rfl,rfl,rfl,rfl,rfl,rfl,rfl,rfl,rfl,rfl,rfl,rfl,rfl,rfl,rfl⟩,h0⟩,fun(s19p,s20p,s21p,h0_0p,h0_1p,h0_2p,h0_3p,h4_0p,h4_1p,h4_2p,h4_3p,h4_4p,h4_5p,h4_6p,h4_7p,h4_8p,h4_9p,h5_0p,h5_1p,h5_2p,g1kp,g1vp,g2kp,g2vp,g3kp,g3vp,()) ⟨⟨eq0,eq1,eq2,eq3,eq4,eq5,eq6,eq7,eq8,eq9,eq10,eq11,eq12,eq13,eq14,eq15,eq16,eq17,eq18,eq19,eq20,eq21,eq22,eq23,eq24⟩,hi⟩=>by
  have eq0:s19p=s19:=eq0;subst s19p;have eq1:s20p=s20:=eq1;subst s20p;have eq2:h0_0p=h0_0:=eq2;subst h0_0p;have eq3:h0_1p=h0_1:=eq3;subst h0_1p;have eq4:h0_2p=h0_2:=eq4;subst h0_2p;have eq5:h0_3p=h0_3:=eq5;subst h0_3p;have eq6:h4_0p=h4_0:=eq6;subst h4_0p;have eq7:h4_1p=h4_1:=eq7;subst h4_1p;have eq8:h4_2p=h4_2:=eq8;subst h4_2p;have eq9:h4_3p=h4_3:=eq9;subst h4_3p;have eq10:h4_4p=h4_4:=eq10;subst h4_4p;have eq11:h4_5p=h4_5:=eq11;subst h4_5p;have eq12:h4_6p=h4_6:=eq12;subst h4_6p;have eq13:h4_7p=h4_7:=eq13;subst h4_7p;have eq14:h4_8p=h4_8:=eq14;subst h4_8p;have eq15:h4_9p=h4_9:=eq15;subst h4_9p;have eq16:h5_0p=h5_0:=eq16;subst h5_0p;have eq17:h5_1p=h5_1:=eq17;subst h5_1p;have eq18:h5_2p=h5_2:=eq18;subst h5_2p;have eq19:g1kp=g1k:=eq19;subst g1kp;have eq20:g1vp=g1v:=eq20;subst g1vp;have eq21:g2kp=g2k:=eq21;subst g2kp;have eq22:g2vp=g2v:=eq22;subst g2vp;have eq23:g3kp=g3k:=eq23;subst g3kp;have eq24:g3vp=g3v:=eq24;subst g3vp;exact mpr_of (by kernel_rfl) ((congrArg (fun k=>kpb r0 d0_0 d0_1 d0_2 d0_3 e1k e1v e2k e2v e3k e3v k s19 s20 h0_0 h0_1 h0_2 h0_3 h4_0 h4_1 h4_2 h4_3 h4_4 h4_5 h4_6 h4_7 h4_8 h4_9 h5_0 h5_1 h5_2 g1k g1v g2k g2v g3k g3v s21p) (lpk1 (⟨rfl,rfl,rfl,rfl,rfl,rfl,rfl,rfl,rfl,rfl,rfl,rfl,rfl,rfl,rfl,rfl,rfl,rfl,rfl,rfl,rfl,rfl,rfl,rfl,rfl⟩:s19=s19∧s20=s20∧h0_0=h0_0∧h0_1=h0_1∧h0_2=h0_2∧h0_3=h0_3∧h4_0=h4_0∧h4_1=h4_1∧h4_2=h4_2∧h4_3=h4_3∧h4_4=h4_4∧h4_5=h4_5∧h4_6=h4_6∧h4_7=h4_7∧h4_8=h4_8∧h4_9=h4_9∧h5_0=h5_0∧h5_1=h5_1∧h5_2=h5_2∧g1k=g1k∧g1v=g1v∧g2k=g2k∧g2v=g2v∧g3k=g3k∧g3v=g3v) inv (fun s21q=>μ s21q<μ s21p))).mpr (hs s21p hi))⟩⟩
def kpq (r0:Int) (d0_0:Bool) (d0_1:Int) (d0_2:Int) (d0_3:List TQuestion) (e1k:List ByteArray) (e1v:List Int) (e2k:List ByteArray) (e2v:List (List Int)) (e3k:List ByteArray) (e3v:List Bool) (k2:Int→Prop) (s40:List TNote) (s41:Int) (h0_0:Bool) (h0_1:Int) (h0_2:Int) (h0_3:List TQuestion) (h4_0:Int) (h4_1:Int) (h4_2:List Int) (h4_3:List Int) (h4_4:List Int) (h4_5:Int) (h4_6:Int) (h4_7:Int) (h4_8:Int) (h4_9:Int) (h5_0:List TSpent) (h5_1:List TNote) (h5_2:Int) (g1k:List ByteArray) (g1v:List Int) (g2k:List ByteArray) (g2v:List (List Int)) (g3k:List ByteArray) (g3v:List Bool) (s42:Int):Prop:=
(decide (s42<s41)=true→
(0≤s42)∧s42<(s40.length:Int)∧(NR (ix s40 s42)∧OrOk g1k g1v h0_3)∧let r2:Int:=((commP (pk h0_0 h0_3 g1k g1v) (ix s40 s42)).getD 0)
 let r3:Bool:=((commP (pk h0_0 h0_3 g1k g1v) (ix s40 s42)).isSome)
((!r3)=true→
 1=r0∧h0_0=d0_0∧h0_1=d0_1∧h0_2=d0_2∧h0_3=d0_3∧g1k=e1k∧g1v=e1v∧g2k=e2k∧g2v=e2v∧g3k=e3k∧g3v=e3v)∧
((!r3)=false→
(0≤s42)∧s42<(h4_3.length:Int)∧((r2 !=(ix h4_3 s42))=true→
 1=r0∧h0_0=d0_0∧h0_1=d0_1∧h0_2=d0_2∧h0_3=d0_3∧g1k=e1k∧g1v=e1v∧g2k=e2k∧g2v=e2v∧g3k=e3k∧g3v=e3v)∧
((r2 !=(ix h4_3 s42))=false→
(0≤s42)∧s42<(h4_4.length:Int)∧((((ix s40 s42).Rho) !=(ix h4_4 s42))=true→
 1=r0∧h0_0=d0_0∧h0_1=d0_1∧h0_2=d0_2∧h0_3=d0_3∧g1k=e1k∧g1v=e1v∧g2k=e2k∧g2v=e2v∧g3k=e3k∧g3v=e3v)∧
((((ix s40 s42).Rho) !=(ix h4_4 s42))=false→
 k2 (IntKind.i64.wrap (s42+1):Int)))))∧
(decide (s42<s41)=false→
(decide (0<h4_5)=true→
(U64 h5_2)∧((h4_8 !=(acctS h5_2))=true→
 21=r0∧h0_0=d0_0∧h0_1=d0_1∧h0_2=d0_2∧h0_3=d0_3∧g1k=e1k∧g1v=e1v∧g2k=e2k∧g2v=e2v∧g3k=e3k∧g3v=e3v)∧
((h4_8 !=(acctS h5_2))=false→
 k5u (r0,d0_0,d0_1,d0_2,d0_3,e1k,e1v,e2k,e2v,e3k,e3v,()) (h0_0,h0_1,h0_2,h0_3,h4_0,h4_1,h4_2,h4_3,h4_4,h4_5,h4_6,h4_7,h4_8,h4_9,h5_0,h5_1,h5_2,g1k,g1v,g2k,g2v,g3k,g3v,())))∧
(decide (0<h4_5)=false→
 k5u (r0,d0_0,d0_1,d0_2,d0_3,e1k,e1v,e2k,e2v,e3k,e3v,()) (h0_0,h0_1,h0_2,h0_3,h4_0,h4_1,h4_2,h4_3,h4_4,h4_5,h4_6,h4_7,h4_8,h4_9,h5_0,h5_1,h5_2,g1k,g1v,g2k,g2v,g3k,g3v,())))
theorem k13u {r0:Int} {d0_0:Bool} {d0_1:Int} {d0_2:Int} {d0_3:List TQuestion} {e1k:List ByteArray} {e1v:List Int} {e2k:List ByteArray} {e2v:List (List Int)} {e3k:List ByteArray} {e3v:List Bool} {s40:List TNote} {s41:Int} {h0_0:Bool} {h0_1:Int} {h0_2:Int} {h0_3:List TQuestion} {h4_0:Int} {h4_1:Int} {h4_2:List Int} {h4_3:List Int} {h4_4:List Int} {h4_5:Int} {h4_6:Int} {h4_7:Int} {h4_8:Int} {h4_9:Int} {h5_0:List TSpent} {h5_1:List TNote} {h5_2:Int} {g1k:List ByteArray} {g1v:List Int} {g2k:List ByteArray} {g2v:List (List Int)} {g3k:List ByteArray} {g3v:List Bool} {s42:Int} (inv:Int→Prop) (μ:Int→Nat) (h0:inv s42) (hs:∀(s42:Int),inv s42→kpq r0 d0_0 d0_1 d0_2 d0_3 e1k e1v e2k e2v e3k e3v (fun s42q=>inv s42q∧μ s42q<μ s42) s40 s41 h0_0 h0_1 h0_2 h0_3 h4_0 h4_1 h4_2 h4_3 h4_4 h4_5 h4_6 h4_7 h4_8 h4_9 h5_0 h5_1 h5_2 g1k g1v g2k g2v g3k g3v s42):Md.Loop (s40,s41,s42,h0_0,h0_1,h0_2,h0_3,h4_0,h4_1,h4_2,h4_3,h4_4,h4_5,h4_6,h4_7,h4_8,h4_9,h5_0,h5_1,h5_2,g1k,g1v,g2k,g2v,g3k,g3v,()) (k8y (r0,d0_0,d0_1,d0_2,d0_3,e1k,e1v,e2k,e2v,e3k,e3v,())):=
 ⟨⟨fun s:(List TNote)×Int×Int×Bool×Int×Int×(List TQuestion)×Int×Int×(List Int)×(List Int)×(List Int)×Int×Int×Int×Int×Int×(List TSpent)×(List TNote)×Int×(List ByteArray)×(List Int)×(List ByteArray)×(List (List Int))×(List ByteArray)×(List Bool)×Unit=>(s.1=s40∧s.2.1=s41∧s.2.2.2.1=h0_0∧s.2.2.2.2.1=h0_1∧s.2.2.2.2.2.1=h0_2∧s.2.2.2.2.2.2.1=h0_3∧s.2.2.2.2.2.2.2.1=h4_0∧s.2.2.2.2.2.2.2.2.1=h4_1∧s.2.2.2.2.2.2.2.2.2.1=h4_2∧s.2.2.2.2.2.2.2.2.2.2.1=h4_3∧s.2.2.2.2.2.2.2.2.2.2.2.1=h4_4∧s.2.2.2.2.2.2.2.2.2.2.2.2.1=h4_5∧s.2.2.2.2.2.2.2.2.2.2.2.2.2.1=h4_6∧s.2.2.2.2.2.2.2.2.2.2.2.2.2.2.1=h4_7∧s.2.2.2.2.2.2.2.2.2.2.2.2.2.2.2.1=h4_8∧s.2.2.2.2.2.2.2.2.2.2.2.2.2.2.2.2.1=h4_9∧s.2.2.2.2.2.2.2.2.2.2.2.2.2.2.2.2.2.1=h5_0∧s.2.2.2.2.2.2.2.2.2.2.2.2.2.2.2.2.2.2.1=h5_1∧s.2.2.2.2.2.2.2.2.2.2.2.2.2.2.2.2.2.2.2.1=h5_2∧s.2.2.2.2.2.2.2.2.2.2.2.2.2.2.2.2.2.2.2.2.1=g1k∧s.2.2.2.2.2.2.2.2.2.2.2.2.2.2.2.2.2.2.2.2.2.1=g1v∧s.2.2.2.2.2.2.2.2.2.2.2.2.2.2.2.2.2.2.2.2.2.2.1=g2k∧s.2.2.2.2.2.2.2.2.2.2.2.2.2.2.2.2.2.2.2.2.2.2.2.1=g2v∧s.2.2.2.2.2.2.2.2.2.2.2.2.2.2.2.2.2.2.2.2.2.2.2.2.1=g3k∧s.2.2.2.2.2.2.2.2.2.2.2.2.2.2.2.2.2.2.2.2.2.2.2.2.2.1=g3v)∧inv s.2.2.1,fun s:(List TNote)×Int×Int×Bool×Int×Int×(List TQuestion)×Int×Int×(List Int)×(List Int)×(List Int)×Int×Int×Int×Int×Int×(List TSpent)×(List TNote)×Int×(List ByteArray)×(List Int)×(List ByteArray)×(List (List Int))×(List ByteArray)×(List Bool)×Unit=>μ s.2.2.1,⟨⟨rfl,rfl,rfl,rfl,rfl,rfl,rfl,rfl,rfl,rfl,rfl,rfl,rfl,rfl,rfl,rfl,rfl,rfl,rfl,rfl,rfl,rfl,rfl,rfl,rfl⟩,h0⟩,fun(s40p,s41p,s42p,h0_0p,h0_1p,h0_2p,h0_3p,h4_0p,h4_1p,h4_2p,h4_3p,h4_4p,h4_5p,h4_6p,h4_7p,h4_8p,h4_9p,h5_0p,h5_1p,h5_2p,g1kp,g1vp,g2kp,g2vp,g3kp,g3vp,()) ⟨⟨eq0,eq1,eq2,eq3,eq4,eq5,eq6,eq7,eq8,eq9,eq10,eq11,eq12,eq13,eq14,eq15,eq16,eq17,eq18,eq19,eq20,eq21,eq22,eq23,eq24⟩,hi⟩=>by
  have eq0:s40p=s40:=eq0;subst s40p;have eq1:s41p=s41:=eq1;subst s41p;have eq2:h0_0p=h0_0:=eq2;subst h0_0p;have eq3:h0_1p=h0_1:=eq3;subst h0_1p;have eq4:h0_2p=h0_2:=eq4;subst h0_2p;have eq5:h0_3p=h0_3:=eq5;subst h0_3p;have eq6:h4_0p=h4_0:=eq6;subst h4_0p;have eq7:h4_1p=h4_1:=eq7;subst h4_1p;have eq8:h4_2p=h4_2:=eq8;subst h4_2p;have eq9:h4_3p=h4_3:=eq9;subst h4_3p;have eq10:h4_4p=h4_4:=eq10;subst h4_4p;have eq11:h4_5p=h4_5:=eq11;subst h4_5p;have eq12:h4_6p=h4_6:=eq12;subst h4_6p;have eq13:h4_7p=h4_7:=eq13;subst h4_7p;have eq14:h4_8p=h4_8:=eq14;subst h4_8p;have eq15:h4_9p=h4_9:=eq15;subst h4_9p;have eq16:h5_0p=h5_0:=eq16;subst h5_0p;have eq17:h5_1p=h5_1:=eq17;subst h5_1p;have eq18:h5_2p=h5_2:=eq18;subst h5_2p;have eq19:g1kp=g1k:=eq19;subst g1kp;have eq20:g1vp=g1v:=eq20;subst g1vp;have eq21:g2kp=g2k:=eq21;subst g2kp;have eq22:g2vp=g2v:=eq22;subst g2vp;have eq23:g3kp=g3k:=eq23;subst g3kp;have eq24:g3vp=g3v:=eq24;subst g3vp;exact mpr_of (by kernel_rfl) ((congrArg (fun k=>kpq r0 d0_0 d0_1 d0_2 d0_3 e1k e1v e2k e2v e3k e3v k s40 s41 h0_0 h0_1 h0_2 h0_3 h4_0 h4_1 h4_2 h4_3 h4_4 h4_5 h4_6 h4_7 h4_8 h4_9 h5_0 h5_1 h5_2 g1k g1v g2k g2v g3k g3v s42p) (lpk1 (⟨rfl,rfl,rfl,rfl,rfl,rfl,rfl,rfl,rfl,rfl,rfl,rfl,rfl,rfl,rfl,rfl,rfl,rfl,rfl,rfl,rfl,rfl,rfl,rfl,rfl⟩:s40=s40∧s41=s41∧h0_0=h0_0∧h0_1=h0_1∧h0_2=h0_2∧h0_3=h0_3∧h4_0=h4_0∧h4_1=h4_1∧h4_2=h4_2∧h4_3=h4_3∧h4_4=h4_4∧h4_5=h4_5∧h4_6=h4_6∧h4_7=h4_7∧h4_8=h4_8∧h4_9=h4_9∧h5_0=h5_0∧h5_1=h5_1∧h5_2=h5_2∧g1k=g1k∧g1v=g1v∧g2k=g2k∧g2v=g2v∧g3k=g3k∧g3v=g3v) inv (fun s42q=>μ s42q<μ s42p))).mpr (hs s42p hi))⟩⟩
theorem bd15:Callable Try.prog 15:=⟨by rw[Try.func15];kernel_rfl,by rw[Try.func15];show some _≠some _;decide⟩
theorem k10f (p1:TStatement) (p2:TWitness) (c0_0:Bool) (c0_1:Int) (c0_2:Int) (c0_3:List TQuestion) (w1k:List ByteArray) (w1v:List Int) (w2k:List ByteArray) (w2v:List (List Int)) (w3k:List ByteArray) (w3v:List Bool) (h:SR p1∧WR p2∧OrOk w1k w1v c0_3∧(∀l a,(pk c0_0 c0_3 w1k w1v) l a=none∨∃n,(pk c0_0 c0_3 w1k w1v) l a=some n∧U64 n)):keb (p1.Depth,p1.Anchor,p1.Marks,p1.Commits,p1.Rhos,p1.Deposit,p1.Withdraw,p1.Fee,p1.Account,p1.Bind,p2.Ins,p2.Outs,p2.Secret,c0_0,c0_1,c0_2,c0_3,w1k,w1v,w2k,w2v,w3k,w3v,()) (((checkS (pk c0_0 c0_3 w1k w1v) p1 p2):Int),(c0_0:Bool),(c0_1:Int),(c0_2:Int),(c0_3:List TQuestion),(w1k:List ByteArray),(w1v:List Int),(w2k:List ByteArray),(w2v:List (List Int)),(w3k:List ByteArray),(w3v:List Bool),()):=by
 obtain⟨hs,hw,ho,hu⟩:=h
 refine k163 ⟨⟨hs,hw⟩,fun e=> ?_,fun e=> ?_⟩
 ·have e:relV p1 p2=false:=by simpa using e
  unfold checkS
  rw[if_pos e]
  (repeat' apply And.intro)<;>first|rfl|exact True.intro
 have e:relV p1 p2=true:=by simpa using e
 have hv:p2.Ins.length=p1.Marks.length∧p2.Outs.length=p1.Commits.length∧p2.Outs.length=p1.Rhos.length:=by
  unfold relV at e
  simp only[Bool.and_eq_true,decide_eq_true_eq]at e
  exact⟨e.1.1.1.1.1.1.2,e.1.1.1.1.2,e.1.1.1.2⟩
 obtain⟨v1,v2,v3⟩:=hv
 have hil:=hw.il
 have hol:=hw.ol
 refine k14k (fun i=>(0≤i∧i≤p2.Ins.length∧insE (pk c0_0 c0_3 w1k w1v) p1.Anchor (p2.Ins.drop i.toNat) (p1.Marks.drop i.toNat)=insE (pk c0_0 c0_3 w1k w1v) p1.Anchor p2.Ins p1.Marks)) (fun i=>(p2.Ins.length-i).toNat) ⟨by omega,by omega,rfl⟩ ?_
 rintro i ⟨g0,g1,g2⟩
 refine⟨fun hh=> ?_,fun hh=> ?_⟩
 ·have hh:=of_decide_eq_true hh
  have hp:=hw.i _ (ix_mem p2.Ins i g0 hh)
  have hd:=drop_ix p2.Ins i g0 hh
  have hd2:=drop_ix p1.Marks i g0 (by omega)
  rw[hd,hd2]at g2
  have g2:(if inE (pk c0_0 c0_3 w1k w1v) p1.Anchor (ix p1.Marks i) (ix p2.Ins i)≠0 then inE (pk c0_0 c0_3 w1k w1v) p1.Anchor (ix p1.Marks i) (ix p2.Ins i)else insE (pk c0_0 c0_3 w1k w1v) p1.Anchor (p2.Ins.drop (i+1).toNat) (p1.Marks.drop (i+1).toNat))=insE (pk c0_0 c0_3 w1k w1v) p1.Anchor p2.Ins p1.Marks:=g2
  have nx:=inc i p2.Ins.length g0 hh (by omega)
  refine⟨g0,hh,g0,by omega,⟨hp,ho,hu⟩,?_⟩
  simp only[k1og]
  refine⟨fun e2=> ?_,fun e2=> ?_⟩
  ·have e2:inE (pk c0_0 c0_3 w1k w1v) p1.Anchor (ix p1.Marks i) (ix p2.Ins i)≠0:=by simpa using e2
   rw[if_pos e2]at g2
   refine⟨?_,by(repeat' apply And.intro)<;>first|rfl|exact True.intro⟩
   have g2:_=insE (pk c0_0 c0_3 w1k w1v) p1.Anchor p2.Ins p1.Marks:=g2
   unfold checkS
   rw[if_neg (by simp[e]),if_pos (by rw[←g2];exact e2),←g2]
  ·have e2:inE (pk c0_0 c0_3 w1k w1v) p1.Anchor (ix p1.Marks i) (ix p2.Ins i)=0:=by simpa using e2
   rw[if_neg (by simp[e2])]at g2
   rw[nx]
   exact⟨⟨by omega,by omega,g2⟩,by omega⟩
 ·have hh:=of_decide_eq_false hh
  rw[List.drop_eq_nil_of_le (by omega)]at g2
  have g2:0=insE (pk c0_0 c0_3 w1k w1v) p1.Anchor p2.Ins p1.Marks:=g2
  have hck:checkS (pk c0_0 c0_3 w1k w1v) p1 p2=if outsB (pk c0_0 c0_3 w1k w1v) p2.Outs p1.Commits p1.Rhos=false then 1 else if 0<p1.Deposit∧p1.Account≠acctS p2.Secret then 21 else
    if(inS p2.Ins+p1.Deposit)%18446744073709551616≠((outS p2.Outs+p1.Withdraw)%18446744073709551616+p1.Fee)%18446744073709551616 then 13 else 0:=by
   conv=>lhs;unfold checkS
   rw[if_neg (by simp[e]),if_neg (by rw[←g2];simp)]
  rw[hck]
  refine k13u (fun i=>(0≤i∧i≤p2.Outs.length∧outsB (pk c0_0 c0_3 w1k w1v) (p2.Outs.drop i.toNat) (p1.Commits.drop i.toNat) (p1.Rhos.drop i.toNat)=outsB (pk c0_0 c0_3 w1k w1v) p2.Outs p1.Commits p1.Rhos)) (fun i=>(p2.Outs.length-i).toNat) ⟨by omega,by omega,rfl⟩ ?_
  rintro k ⟨k0,k1,k2⟩
  refine⟨fun hk=> ?_,fun hk=> ?_⟩
  ·have hk:=of_decide_eq_true hk
   have hp:=hw.o _ (ix_mem p2.Outs k k0 hk)
   rw[drop_ix p2.Outs k k0 hk,drop_ix p1.Commits k k0 (by omega),drop_ix p1.Rhos k k0 (by omega)]at k2
   have k2:(outB (pk c0_0 c0_3 w1k w1v) (ix p2.Outs k) (ix p1.Commits k) (ix p1.Rhos k)&&outsB (pk c0_0 c0_3 w1k w1v) (p2.Outs.drop (k+1).toNat) (p1.Commits.drop (k+1).toNat) (p1.Rhos.drop (k+1).toNat))=outsB (pk c0_0 c0_3 w1k w1v) p2.Outs p1.Commits p1.Rhos:=k2
   have nx:=inc k p2.Outs.length k0 hk (by omega)
   have bad:outB (pk c0_0 c0_3 w1k w1v) (ix p2.Outs k) (ix p1.Commits k) (ix p1.Rhos k)=false→outsB (pk c0_0 c0_3 w1k w1v) p2.Outs p1.Commits p1.Rhos=false:=fun hb=>by rw[hb]at k2;exact k2.symm
   refine⟨k0,hk,⟨hp,ho⟩,?_⟩
   simp only[k12u]
   refine⟨fun e3=> ?_,fun e3=>⟨k0,by omega,fun e4=> ?_,fun e4=>⟨k0,by omega,fun e5=> ?_,fun e5=> ?_⟩⟩⟩
   ·rw[if_pos (bad (by unfold outB;rw[show(commP (pk c0_0 c0_3 w1k w1v) (ix p2.Outs k)).isSome=false by simpa using e3];rfl))]
    (repeat' apply And.intro)<;>first|rfl|exact True.intro
   ·rw[if_pos (bad (by
     have e4:¬(commP (pk c0_0 c0_3 w1k w1v) (ix p2.Outs k)).getD 0=ix p1.Commits k:=by simpa using e4
     simp[outB,e4]))]
    (repeat' apply And.intro)<;>first|rfl|exact True.intro
   ·rw[if_pos (bad (by
     have e5:¬(ix p2.Outs k).Rho=ix p1.Rhos k:=by simpa using e5
     simp[outB,e5]))]
    (repeat' apply And.intro)<;>first|rfl|exact True.intro
   ·have e3:(commP (pk c0_0 c0_3 w1k w1v) (ix p2.Outs k)).isSome=true:=by simpa using e3
    have e4:(commP (pk c0_0 c0_3 w1k w1v) (ix p2.Outs k)).getD 0=ix p1.Commits k:=by simpa using e4
    have e5:(ix p2.Outs k).Rho=ix p1.Rhos k:=by simpa using e5
    have hb:outB (pk c0_0 c0_3 w1k w1v) (ix p2.Outs k) (ix p1.Commits k) (ix p1.Rhos k)=true:=by simp[outB,e3,e4,e5]
    rw[hb,Bool.true_and]at k2
    rw[nx]
    exact⟨⟨by omega,by omega,k2⟩,by omega⟩
  ·have hk:=of_decide_eq_false hk
   rw[List.drop_eq_nil_of_le (by omega)]at k2
   have k2:true=outsB (pk c0_0 c0_3 w1k w1v) p2.Outs p1.Commits p1.Rhos:=k2
   rw[←k2]
   have j1:∀r:Int,(r=if(inS p2.Ins+p1.Deposit)%18446744073709551616≠((outS p2.Outs+p1.Withdraw)%18446744073709551616+p1.Fee)%18446744073709551616 then 13 else 0)→k5u (r,c0_0,c0_1,c0_2,c0_3,w1k,w1v,w2k,w2v,w3k,w3v,()) (c0_0,c0_1,c0_2,c0_3,p1.Depth,p1.Anchor,p1.Marks,p1.Commits,p1.Rhos,p1.Deposit,p1.Withdraw,p1.Fee,p1.Account,p1.Bind,p2.Ins,p2.Outs,p2.Secret,w1k,w1v,w2k,w2v,w3k,w3v,()):=by
    intro r hr
    refine kwz ⟨by show p2.Ins.length≤_;omega,by show p2.Outs.length≤_;omega,?_⟩
    simp only[u64w]
    refine⟨fun hb=> ?_,fun hb=> ?_⟩
    ·rw[hr,if_pos (by simpa using hb)]
     (repeat' apply And.intro)<;>first|rfl|exact True.intro
    ·rw[hr,if_neg (by simpa using hb)]
     (repeat' apply And.intro)<;>first|rfl|exact True.intro
   rw[if_neg (by simp)]
   refine⟨fun hd=>⟨hw.s,fun ha=> ?_,fun ha=>j1 _ ?_⟩,fun hd=>j1 _ ?_⟩
   ·have ha:¬p1.Account=acctS p2.Secret:=by simpa using ha
    rw[if_pos ⟨of_decide_eq_true hd,ha⟩]
    (repeat' apply And.intro)<;>first|rfl|exact True.intro
   ·have ha:p1.Account=acctS p2.Secret:=by simpa using ha
    rw[if_neg (fun h=>h.2 ha)]
   ·rw[if_neg (fun h=>of_decide_eq_false hd h.1)]
noncomputable def koh:Con TB.den:=ky.fnR (fun x=>(fun(p1:TStatement) (p2:TWitness) (c0_0:Bool) (c0_1:Int) (c0_2:Int) (c0_3:List TQuestion) (w1k:List ByteArray) (w1v:List Int) (w2k:List ByteArray) (w2v:List (List Int)) (w3k:List ByteArray) (w3v:List Bool)=>SR p1∧WR p2∧OrOk w1k w1v c0_3∧(∀l a,(pk c0_0 c0_3 w1k w1v) l a=none∨∃n,(pk c0_0 c0_3 w1k w1v) l a=some n∧U64 n)) (TStatement.mk x.1 x.2.1 x.2.2.1 x.2.2.2.1 x.2.2.2.2.1 x.2.2.2.2.2.1 x.2.2.2.2.2.2.1 x.2.2.2.2.2.2.2.1 x.2.2.2.2.2.2.2.2.1 x.2.2.2.2.2.2.2.2.2.1) (TWitness.mk x.2.2.2.2.2.2.2.2.2.2.1 x.2.2.2.2.2.2.2.2.2.2.2.1 x.2.2.2.2.2.2.2.2.2.2.2.2.1) x.2.2.2.2.2.2.2.2.2.2.2.2.2.1 x.2.2.2.2.2.2.2.2.2.2.2.2.2.2.1 x.2.2.2.2.2.2.2.2.2.2.2.2.2.2.2.1 x.2.2.2.2.2.2.2.2.2.2.2.2.2.2.2.2.1 x.2.2.2.2.2.2.2.2.2.2.2.2.2.2.2.2.2.1 x.2.2.2.2.2.2.2.2.2.2.2.2.2.2.2.2.2.2.1 x.2.2.2.2.2.2.2.2.2.2.2.2.2.2.2.2.2.2.2.1 x.2.2.2.2.2.2.2.2.2.2.2.2.2.2.2.2.2.2.2.2.1 x.2.2.2.2.2.2.2.2.2.2.2.2.2.2.2.2.2.2.2.2.2.1 x.2.2.2.2.2.2.2.2.2.2.2.2.2.2.2.2.2.2.2.2.2.2.1) fun x=>((fun(p1:TStatement) (p2:TWitness) (c0_0:Bool) (c0_1:Int) (c0_2:Int) (c0_3:List TQuestion) (w1k:List ByteArray) (w1v:List Int) (w2k:List ByteArray) (w2v:List (List Int)) (w3k:List ByteArray) (w3v:List Bool)=>((checkS (pk c0_0 c0_3 w1k w1v) p1 p2):Int)) (TStatement.mk x.1 x.2.1 x.2.2.1 x.2.2.2.1 x.2.2.2.2.1 x.2.2.2.2.2.1 x.2.2.2.2.2.2.1 x.2.2.2.2.2.2.2.1 x.2.2.2.2.2.2.2.2.1 x.2.2.2.2.2.2.2.2.2.1) (TWitness.mk x.2.2.2.2.2.2.2.2.2.2.1 x.2.2.2.2.2.2.2.2.2.2.2.1 x.2.2.2.2.2.2.2.2.2.2.2.2.1) x.2.2.2.2.2.2.2.2.2.2.2.2.2.1 x.2.2.2.2.2.2.2.2.2.2.2.2.2.2.1 x.2.2.2.2.2.2.2.2.2.2.2.2.2.2.2.1 x.2.2.2.2.2.2.2.2.2.2.2.2.2.2.2.2.1 x.2.2.2.2.2.2.2.2.2.2.2.2.2.2.2.2.2.1 x.2.2.2.2.2.2.2.2.2.2.2.2.2.2.2.2.2.2.1 x.2.2.2.2.2.2.2.2.2.2.2.2.2.2.2.2.2.2.2.1 x.2.2.2.2.2.2.2.2.2.2.2.2.2.2.2.2.2.2.2.2.1 x.2.2.2.2.2.2.2.2.2.2.2.2.2.2.2.2.2.2.2.2.2.1 x.2.2.2.2.2.2.2.2.2.2.2.2.2.2.2.2.2.2.2.2.2.2.1,(fun(p1:TStatement) (p2:TWitness) (c0_0:Bool) (c0_1:Int) (c0_2:Int) (c0_3:List TQuestion) (w1k:List ByteArray) (w1v:List Int) (w2k:List ByteArray) (w2v:List (List Int)) (w3k:List ByteArray) (w3v:List Bool)=>(c0_0:Bool)) (TStatement.mk x.1 x.2.1 x.2.2.1 x.2.2.2.1 x.2.2.2.2.1 x.2.2.2.2.2.1 x.2.2.2.2.2.2.1 x.2.2.2.2.2.2.2.1 x.2.2.2.2.2.2.2.2.1 x.2.2.2.2.2.2.2.2.2.1) (TWitness.mk x.2.2.2.2.2.2.2.2.2.2.1 x.2.2.2.2.2.2.2.2.2.2.2.1 x.2.2.2.2.2.2.2.2.2.2.2.2.1) x.2.2.2.2.2.2.2.2.2.2.2.2.2.1 x.2.2.2.2.2.2.2.2.2.2.2.2.2.2.1 x.2.2.2.2.2.2.2.2.2.2.2.2.2.2.2.1 x.2.2.2.2.2.2.2.2.2.2.2.2.2.2.2.2.1 x.2.2.2.2.2.2.2.2.2.2.2.2.2.2.2.2.2.1 x.2.2.2.2.2.2.2.2.2.2.2.2.2.2.2.2.2.2.1 x.2.2.2.2.2.2.2.2.2.2.2.2.2.2.2.2.2.2.2.1 x.2.2.2.2.2.2.2.2.2.2.2.2.2.2.2.2.2.2.2.2.1 x.2.2.2.2.2.2.2.2.2.2.2.2.2.2.2.2.2.2.2.2.2.1 x.2.2.2.2.2.2.2.2.2.2.2.2.2.2.2.2.2.2.2.2.2.2.1,(fun(p1:TStatement) (p2:TWitness) (c0_0:Bool) (c0_1:Int) (c0_2:Int) (c0_3:List TQuestion) (w1k:List ByteArray) (w1v:List Int) (w2k:List ByteArray) (w2v:List (List Int)) (w3k:List ByteArray) (w3v:List Bool)=>(c0_1:Int)) (TStatement.mk x.1 x.2.1 x.2.2.1 x.2.2.2.1 x.2.2.2.2.1 x.2.2.2.2.2.1 x.2.2.2.2.2.2.1 x.2.2.2.2.2.2.2.1 x.2.2.2.2.2.2.2.2.1 x.2.2.2.2.2.2.2.2.2.1) (TWitness.mk x.2.2.2.2.2.2.2.2.2.2.1 x.2.2.2.2.2.2.2.2.2.2.2.1 x.2.2.2.2.2.2.2.2.2.2.2.2.1) x.2.2.2.2.2.2.2.2.2.2.2.2.2.1 x.2.2.2.2.2.2.2.2.2.2.2.2.2.2.1 x.2.2.2.2.2.2.2.2.2.2.2.2.2.2.2.1 x.2.2.2.2.2.2.2.2.2.2.2.2.2.2.2.2.1 x.2.2.2.2.2.2.2.2.2.2.2.2.2.2.2.2.2.1 x.2.2.2.2.2.2.2.2.2.2.2.2.2.2.2.2.2.2.1 x.2.2.2.2.2.2.2.2.2.2.2.2.2.2.2.2.2.2.2.1 x.2.2.2.2.2.2.2.2.2.2.2.2.2.2.2.2.2.2.2.2.1 x.2.2.2.2.2.2.2.2.2.2.2.2.2.2.2.2.2.2.2.2.2.1 x.2.2.2.2.2.2.2.2.2.2.2.2.2.2.2.2.2.2.2.2.2.2.1,(fun(p1:TStatement) (p2:TWitness) (c0_0:Bool) (c0_1:Int) (c0_2:Int) (c0_3:List TQuestion) (w1k:List ByteArray) (w1v:List Int) (w2k:List ByteArray) (w2v:List (List Int)) (w3k:List ByteArray) (w3v:List Bool)=>(c0_2:Int)) (TStatement.mk x.1 x.2.1 x.2.2.1 x.2.2.2.1 x.2.2.2.2.1 x.2.2.2.2.2.1 x.2.2.2.2.2.2.1 x.2.2.2.2.2.2.2.1 x.2.2.2.2.2.2.2.2.1 x.2.2.2.2.2.2.2.2.2.1) (TWitness.mk x.2.2.2.2.2.2.2.2.2.2.1 x.2.2.2.2.2.2.2.2.2.2.2.1 x.2.2.2.2.2.2.2.2.2.2.2.2.1) x.2.2.2.2.2.2.2.2.2.2.2.2.2.1 x.2.2.2.2.2.2.2.2.2.2.2.2.2.2.1 x.2.2.2.2.2.2.2.2.2.2.2.2.2.2.2.1 x.2.2.2.2.2.2.2.2.2.2.2.2.2.2.2.2.1 x.2.2.2.2.2.2.2.2.2.2.2.2.2.2.2.2.2.1 x.2.2.2.2.2.2.2.2.2.2.2.2.2.2.2.2.2.2.1 x.2.2.2.2.2.2.2.2.2.2.2.2.2.2.2.2.2.2.2.1 x.2.2.2.2.2.2.2.2.2.2.2.2.2.2.2.2.2.2.2.2.1 x.2.2.2.2.2.2.2.2.2.2.2.2.2.2.2.2.2.2.2.2.2.1 x.2.2.2.2.2.2.2.2.2.2.2.2.2.2.2.2.2.2.2.2.2.2.1,(fun(p1:TStatement) (p2:TWitness) (c0_0:Bool) (c0_1:Int) (c0_2:Int) (c0_3:List TQuestion) (w1k:List ByteArray) (w1v:List Int) (w2k:List ByteArray) (w2v:List (List Int)) (w3k:List ByteArray) (w3v:List Bool)=>(c0_3:List TQuestion)) (TStatement.mk x.1 x.2.1 x.2.2.1 x.2.2.2.1 x.2.2.2.2.1 x.2.2.2.2.2.1 x.2.2.2.2.2.2.1 x.2.2.2.2.2.2.2.1 x.2.2.2.2.2.2.2.2.1 x.2.2.2.2.2.2.2.2.2.1) (TWitness.mk x.2.2.2.2.2.2.2.2.2.2.1 x.2.2.2.2.2.2.2.2.2.2.2.1 x.2.2.2.2.2.2.2.2.2.2.2.2.1) x.2.2.2.2.2.2.2.2.2.2.2.2.2.1 x.2.2.2.2.2.2.2.2.2.2.2.2.2.2.1 x.2.2.2.2.2.2.2.2.2.2.2.2.2.2.2.1 x.2.2.2.2.2.2.2.2.2.2.2.2.2.2.2.2.1 x.2.2.2.2.2.2.2.2.2.2.2.2.2.2.2.2.2.1 x.2.2.2.2.2.2.2.2.2.2.2.2.2.2.2.2.2.2.1 x.2.2.2.2.2.2.2.2.2.2.2.2.2.2.2.2.2.2.2.1 x.2.2.2.2.2.2.2.2.2.2.2.2.2.2.2.2.2.2.2.2.1 x.2.2.2.2.2.2.2.2.2.2.2.2.2.2.2.2.2.2.2.2.2.1 x.2.2.2.2.2.2.2.2.2.2.2.2.2.2.2.2.2.2.2.2.2.2.1,(fun(p1:TStatement) (p2:TWitness) (c0_0:Bool) (c0_1:Int) (c0_2:Int) (c0_3:List TQuestion) (w1k:List ByteArray) (w1v:List Int) (w2k:List ByteArray) (w2v:List (List Int)) (w3k:List ByteArray) (w3v:List Bool)=>(w1k:List ByteArray)) (TStatement.mk x.1 x.2.1 x.2.2.1 x.2.2.2.1 x.2.2.2.2.1 x.2.2.2.2.2.1 x.2.2.2.2.2.2.1 x.2.2.2.2.2.2.2.1 x.2.2.2.2.2.2.2.2.1 x.2.2.2.2.2.2.2.2.2.1) (TWitness.mk x.2.2.2.2.2.2.2.2.2.2.1 x.2.2.2.2.2.2.2.2.2.2.2.1 x.2.2.2.2.2.2.2.2.2.2.2.2.1) x.2.2.2.2.2.2.2.2.2.2.2.2.2.1 x.2.2.2.2.2.2.2.2.2.2.2.2.2.2.1 x.2.2.2.2.2.2.2.2.2.2.2.2.2.2.2.1 x.2.2.2.2.2.2.2.2.2.2.2.2.2.2.2.2.1 x.2.2.2.2.2.2.2.2.2.2.2.2.2.2.2.2.2.1 x.2.2.2.2.2.2.2.2.2.2.2.2.2.2.2.2.2.2.1 x.2.2.2.2.2.2.2.2.2.2.2.2.2.2.2.2.2.2.2.1 x.2.2.2.2.2.2.2.2.2.2.2.2.2.2.2.2.2.2.2.2.1 x.2.2.2.2.2.2.2.2.2.2.2.2.2.2.2.2.2.2.2.2.2.1 x.2.2.2.2.2.2.2.2.2.2.2.2.2.2.2.2.2.2.2.2.2.2.1,(fun(p1:TStatement) (p2:TWitness) (c0_0:Bool) (c0_1:Int) (c0_2:Int) (c0_3:List TQuestion) (w1k:List ByteArray) (w1v:List Int) (w2k:List ByteArray) (w2v:List (List Int)) (w3k:List ByteArray) (w3v:List Bool)=>(w1v:List Int)) (TStatement.mk x.1 x.2.1 x.2.2.1 x.2.2.2.1 x.2.2.2.2.1 x.2.2.2.2.2.1 x.2.2.2.2.2.2.1 x.2.2.2.2.2.2.2.1 x.2.2.2.2.2.2.2.2.1 x.2.2.2.2.2.2.2.2.2.1) (TWitness.mk x.2.2.2.2.2.2.2.2.2.2.1 x.2.2.2.2.2.2.2.2.2.2.2.1 x.2.2.2.2.2.2.2.2.2.2.2.2.1) x.2.2.2.2.2.2.2.2.2.2.2.2.2.1 x.2.2.2.2.2.2.2.2.2.2.2.2.2.2.1 x.2.2.2.2.2.2.2.2.2.2.2.2.2.2.2.1 x.2.2.2.2.2.2.2.2.2.2.2.2.2.2.2.2.1 x.2.2.2.2.2.2.2.2.2.2.2.2.2.2.2.2.2.1 x.2.2.2.2.2.2.2.2.2.2.2.2.2.2.2.2.2.2.1 x.2.2.2.2.2.2.2.2.2.2.2.2.2.2.2.2.2.2.2.1 x.2.2.2.2.2.2.2.2.2.2.2.2.2.2.2.2.2.2.2.2.1 x.2.2.2.2.2.2.2.2.2.2.2.2.2.2.2.2.2.2.2.2.2.1 x.2.2.2.2.2.2.2.2.2.2.2.2.2.2.2.2.2.2.2.2.2.2.1,(fun(p1:TStatement) (p2:TWitness) (c0_0:Bool) (c0_1:Int) (c0_2:Int) (c0_3:List TQuestion) (w1k:List ByteArray) (w1v:List Int) (w2k:List ByteArray) (w2v:List (List Int)) (w3k:List ByteArray) (w3v:List Bool)=>(w2k:List ByteArray)) (TStatement.mk x.1 x.2.1 x.2.2.1 x.2.2.2.1 x.2.2.2.2.1 x.2.2.2.2.2.1 x.2.2.2.2.2.2.1 x.2.2.2.2.2.2.2.1 x.2.2.2.2.2.2.2.2.1 x.2.2.2.2.2.2.2.2.2.1) (TWitness.mk x.2.2.2.2.2.2.2.2.2.2.1 x.2.2.2.2.2.2.2.2.2.2.2.1 x.2.2.2.2.2.2.2.2.2.2.2.2.1) x.2.2.2.2.2.2.2.2.2.2.2.2.2.1 x.2.2.2.2.2.2.2.2.2.2.2.2.2.2.1 x.2.2.2.2.2.2.2.2.2.2.2.2.2.2.2.1 x.2.2.2.2.2.2.2.2.2.2.2.2.2.2.2.2.1 x.2.2.2.2.2.2.2.2.2.2.2.2.2.2.2.2.2.1 x.2.2.2.2.2.2.2.2.2.2.2.2.2.2.2.2.2.2.1 x.2.2.2.2.2.2.2.2.2.2.2.2.2.2.2.2.2.2.2.1 x.2.2.2.2.2.2.2.2.2.2.2.2.2.2.2.2.2.2.2.2.1 x.2.2.2.2.2.2.2.2.2.2.2.2.2.2.2.2.2.2.2.2.2.1 x.2.2.2.2.2.2.2.2.2.2.2.2.2.2.2.2.2.2.2.2.2.2.1,(fun(p1:TStatement) (p2:TWitness) (c0_0:Bool) (c0_1:Int) (c0_2:Int) (c0_3:List TQuestion) (w1k:List ByteArray) (w1v:List Int) (w2k:List ByteArray) (w2v:List (List Int)) (w3k:List ByteArray) (w3v:List Bool)=>(w2v:List (List Int))) (TStatement.mk x.1 x.2.1 x.2.2.1 x.2.2.2.1 x.2.2.2.2.1 x.2.2.2.2.2.1 x.2.2.2.2.2.2.1 x.2.2.2.2.2.2.2.1 x.2.2.2.2.2.2.2.2.1 x.2.2.2.2.2.2.2.2.2.1) (TWitness.mk x.2.2.2.2.2.2.2.2.2.2.1 x.2.2.2.2.2.2.2.2.2.2.2.1 x.2.2.2.2.2.2.2.2.2.2.2.2.1) x.2.2.2.2.2.2.2.2.2.2.2.2.2.1 x.2.2.2.2.2.2.2.2.2.2.2.2.2.2.1 x.2.2.2.2.2.2.2.2.2.2.2.2.2.2.2.1 x.2.2.2.2.2.2.2.2.2.2.2.2.2.2.2.2.1 x.2.2.2.2.2.2.2.2.2.2.2.2.2.2.2.2.2.1 x.2.2.2.2.2.2.2.2.2.2.2.2.2.2.2.2.2.2.1 x.2.2.2.2.2.2.2.2.2.2.2.2.2.2.2.2.2.2.2.1 x.2.2.2.2.2.2.2.2.2.2.2.2.2.2.2.2.2.2.2.2.1 x.2.2.2.2.2.2.2.2.2.2.2.2.2.2.2.2.2.2.2.2.2.1 x.2.2.2.2.2.2.2.2.2.2.2.2.2.2.2.2.2.2.2.2.2.2.1,(fun(p1:TStatement) (p2:TWitness) (c0_0:Bool) (c0_1:Int) (c0_2:Int) (c0_3:List TQuestion) (w1k:List ByteArray) (w1v:List Int) (w2k:List ByteArray) (w2v:List (List Int)) (w3k:List ByteArray) (w3v:List Bool)=>(w3k:List ByteArray)) (TStatement.mk x.1 x.2.1 x.2.2.1 x.2.2.2.1 x.2.2.2.2.1 x.2.2.2.2.2.1 x.2.2.2.2.2.2.1 x.2.2.2.2.2.2.2.1 x.2.2.2.2.2.2.2.2.1 x.2.2.2.2.2.2.2.2.2.1) (TWitness.mk x.2.2.2.2.2.2.2.2.2.2.1 x.2.2.2.2.2.2.2.2.2.2.2.1 x.2.2.2.2.2.2.2.2.2.2.2.2.1) x.2.2.2.2.2.2.2.2.2.2.2.2.2.1 x.2.2.2.2.2.2.2.2.2.2.2.2.2.2.1 x.2.2.2.2.2.2.2.2.2.2.2.2.2.2.2.1 x.2.2.2.2.2.2.2.2.2.2.2.2.2.2.2.2.1 x.2.2.2.2.2.2.2.2.2.2.2.2.2.2.2.2.2.1 x.2.2.2.2.2.2.2.2.2.2.2.2.2.2.2.2.2.2.1 x.2.2.2.2.2.2.2.2.2.2.2.2.2.2.2.2.2.2.2.1 x.2.2.2.2.2.2.2.2.2.2.2.2.2.2.2.2.2.2.2.2.1 x.2.2.2.2.2.2.2.2.2.2.2.2.2.2.2.2.2.2.2.2.2.1 x.2.2.2.2.2.2.2.2.2.2.2.2.2.2.2.2.2.2.2.2.2.2.1,(fun(p1:TStatement) (p2:TWitness) (c0_0:Bool) (c0_1:Int) (c0_2:Int) (c0_3:List TQuestion) (w1k:List ByteArray) (w1v:List Int) (w2k:List ByteArray) (w2v:List (List Int)) (w3k:List ByteArray) (w3v:List Bool)=>(w3v:List Bool)) (TStatement.mk x.1 x.2.1 x.2.2.1 x.2.2.2.1 x.2.2.2.2.1 x.2.2.2.2.2.1 x.2.2.2.2.2.2.1 x.2.2.2.2.2.2.2.1 x.2.2.2.2.2.2.2.2.1 x.2.2.2.2.2.2.2.2.2.1) (TWitness.mk x.2.2.2.2.2.2.2.2.2.2.1 x.2.2.2.2.2.2.2.2.2.2.2.1 x.2.2.2.2.2.2.2.2.2.2.2.2.1) x.2.2.2.2.2.2.2.2.2.2.2.2.2.1 x.2.2.2.2.2.2.2.2.2.2.2.2.2.2.1 x.2.2.2.2.2.2.2.2.2.2.2.2.2.2.2.1 x.2.2.2.2.2.2.2.2.2.2.2.2.2.2.2.2.1 x.2.2.2.2.2.2.2.2.2.2.2.2.2.2.2.2.2.1 x.2.2.2.2.2.2.2.2.2.2.2.2.2.2.2.2.2.2.1 x.2.2.2.2.2.2.2.2.2.2.2.2.2.2.2.2.2.2.2.1 x.2.2.2.2.2.2.2.2.2.2.2.2.2.2.2.2.2.2.2.2.1 x.2.2.2.2.2.2.2.2.2.2.2.2.2.2.2.2.2.2.2.2.2.1 x.2.2.2.2.2.2.2.2.2.2.2.2.2.2.2.2.2.2.2.2.2.2.1,())
theorem k15b:koh.Ok Try.prog TB:=Con.ok_fn ky bd15 fun x h=>k140 (k10f (TStatement.mk x.1 x.2.1 x.2.2.1 x.2.2.2.1 x.2.2.2.2.1 x.2.2.2.2.2.1 x.2.2.2.2.2.2.1 x.2.2.2.2.2.2.2.1 x.2.2.2.2.2.2.2.2.1 x.2.2.2.2.2.2.2.2.2.1) (TWitness.mk x.2.2.2.2.2.2.2.2.2.2.1 x.2.2.2.2.2.2.2.2.2.2.2.1 x.2.2.2.2.2.2.2.2.2.2.2.2.1) x.2.2.2.2.2.2.2.2.2.2.2.2.2.1 x.2.2.2.2.2.2.2.2.2.2.2.2.2.2.1 x.2.2.2.2.2.2.2.2.2.2.2.2.2.2.2.1 x.2.2.2.2.2.2.2.2.2.2.2.2.2.2.2.2.1 x.2.2.2.2.2.2.2.2.2.2.2.2.2.2.2.2.2.1 x.2.2.2.2.2.2.2.2.2.2.2.2.2.2.2.2.2.2.1 x.2.2.2.2.2.2.2.2.2.2.2.2.2.2.2.2.2.2.2.1 x.2.2.2.2.2.2.2.2.2.2.2.2.2.2.2.2.2.2.2.2.1 x.2.2.2.2.2.2.2.2.2.2.2.2.2.2.2.2.2.2.2.2.2.1 x.2.2.2.2.2.2.2.2.2.2.2.2.2.2.2.2.2.2.2.2.2.2.1 h)
def k54:Con TB.den:=Con.mk0 8 [] [] (.one (.one (.d (.bool)))) []
abbrev k175:=HL TB.den (hsT k54.ins (hsOs k54.pre))
abbrev knq:=HL TB.den (hsV k54.res (hsOs k54.post))
noncomputable def kfj:Cx TB:=⟨inf,[ksw,kt2,koh,kfw,ke3,kcs],[],4,[]⟩
noncomputable def kn6:Code:=Try.f8.body.getD .skip
noncomputable def kqw:List ResultVar:=Try.f8.results.toList
noncomputable def k11x (o:knq):An TB:= .no
def kmi (x:k175) (o:knq):Prop:=WPh TB kfj 44 0 kn6 (k11x o) (k54.st TB x) (retTQ TB kfj k54 kqw o)
theorem k1gc (o:knq):OblH TB kfj 44 0 kn6 (k11x o) (retTQ TB kfj k54 kqw o):=
 OblH.ofC (X:=True) (by kernel_rfl) trivial
theorem k1gw {x:k175} {o:knq} (h:kmi x o):k54.Snd Try.prog x o:=
 Con.soundH (c:=k54) (C:=kfj) TBok ⟨inf_ok,(all_cons k1eu (all_cons k1eg (all_cons k15b (all_cons kq3 (all_cons kny (all_cons klh all_nil)))))),all_nil⟩ mix Try.func8 (show Try.f8.body=some kn6 by kernel_rfl) (show Try.f8.ntmps=44 by kernel_rfl) (show Try.f8.results.toList=kqw by kernel_rfl) rfl h (k1gc o)
theorem k1ki  {r0:Bool} (h:
((U64 (2:Int))∧(U64 (1:Int))∧(SR (exS (2:Int))∧WR exW∧OrOk [] [] []∧(∀l a,(pk false [] [] []) l a=none∨∃n,(pk false [] [] []) l a=some n∧U64 n))∧let r1:Int:=(checkS (pk false [] [] []) (exS (2:Int)) exW)
((r1==0)=true→
(SR (exS (1:Int))∧WR exW∧OrOk [] [] []∧(∀l a,(pk false [] [] []) l a=none∨∃n,(pk false [] [] []) l a=some n∧U64 n))∧let r2:Int:=(checkS (pk false [] [] []) (exS (1:Int)) exW)
((r2==13)=true→
(SR (exS (2:Int))∧WR exW)∧((relV (exS (2:Int)) exW)=true→
(exW.Ins.length≤9223372036854775807)∧(((inS exW.Ins)==0)=true→
(exW.Outs.length≤9223372036854775807)∧((outS exW.Outs)==5)=r0)∧
(((inS exW.Ins)==0)=false→
 false=r0))∧
((relV (exS (2:Int)) exW)=false→
 false=r0))∧
((r2==13)=false→
 false=r0))∧
((r1==0)=false→
 false=r0))):kmi (()) (r0,()):=WPh.of_eq (by kernel_rfl) h
theorem bd8:Callable Try.prog 8:=⟨by rw[Try.func8];kernel_rfl,by rw[Try.func8];show some _≠some _;decide⟩
theorem k1ee:kmi (()) ((true:Bool),()):=by
 have u2:U64 2:=by decide
 have u1:U64 1:=by decide
 have k:∀l a,pk false [] [] [] l a=none∨∃n,pk false [] [] [] l a=some n∧U64 n:=by rw[pk_nil];exact fun _ _=>pkR_u
 refine k1ki ⟨u2,u1,?_⟩
 simp only[k1d3,k13t,pk_nil,exS_ok,exS_not]
 rw[pk_nil]at k
 refine⟨⟨exS_sr 2 u2,exW_wr,k1lh,k⟩,fun _=>⟨⟨exS_sr 1 u1,exW_wr,k1lh,k⟩,fun _=>⟨⟨exS_sr 2 u2,exW_wr⟩,fun _=>⟨by decide,fun _=>⟨by decide,by decide⟩,fun h=> ?_⟩,fun h=> ?_⟩,fun h=> ?_⟩,fun h=> ?_⟩
 ·simp[exW,inS]at h
 ·rw[k187 2 (by decide)]at h;cases h
 ·simp at h
 ·simp at h
noncomputable def kyj:Con TB.den:=k54.totR fun x=>((true:Bool),())
theorem k1j6:kyj.Ok Try.prog TB:=Con.ok_tot k54 bd8 fun x=>k1gw (k1ee)
def k36:Con TB.den:=Con.mk0 97 [.one (.d (.int .u64)),.one (.d (.int .i64))] [] (.one (.one (.d (.sl (.int .u8))))) []
abbrev k126:=HL TB.den (hsT k36.ins (hsOs k36.pre))
abbrev k7t:=HL TB.den (hsV k36.res (hsOs k36.post))
noncomputable def k73:Cx TB:=⟨inf,[],[],4,[]⟩
noncomputable def kas:Code:=Try.f97.body.getD .skip
noncomputable def ki4:List ResultVar:=Try.f97.results.toList
def k1i2 (o:k7t):=qS TB k73 21 0 (cB (cB (cB kas))) .no (retTQ TB k73 k36 ki4 o)
def kae:Tm:=⟨[0],[.tip (.int .u8)],[0,1,5,6],[.one (.d (.int .u64)),.one (.d (.int .i64)),.one (.own 0),.one (.d (.int .i64))],1⟩
def kdg (o:k7t) (nx1:NX TB kae) (i:HL TB.den kae.hs):Prop:=WP TB k73 21 0 (cA (cA (cB (cA (cB (cB kas)))))) .no (kae.fill TB i) (qM TB 0 kae nx1 (blockT TB 0 (k1i2 o)))
noncomputable def k1ib (o:k7t):An TB:= .lp [.tok 5 (.int .u8)] kae (kdg o) fun nx1=> .no
noncomputable def k1h8 (o:k7t):An TB:= .nd [] .no [] (.nd [] (.nd [] .no [] (k1ib o)) [] .no)
noncomputable def kzq (o:k7t):An TB:= .nd [] .no [] (k1h8 o)
def kl3 (x:k126) (o:k7t):Prop:=WPh TB k73 21 0 kas (kzq o) (k36.st TB x) (retTQ TB k73 k36 ki4 o)
theorem k1d8 (o:k7t):OblH TB k73 21 0 kas (kzq o) (retTQ TB k73 k36 ki4 o):=
 OblH.ofC (X:=((∀nx i,(kdg o) nx i=(kdg o) nx i)∧(∀nx1:NX TB kae,True)∧True)) (by kernel_rfl) ⟨fun _ _=>rfl,fun _=>trivial,trivial⟩
theorem k1dv {x:k126} {o:k7t} (h:kl3 x o):k36.Snd Try.prog x o:=
 Con.soundH (c:=k36) (C:=k73) TBok ⟨inf_ok,all_nil,all_nil⟩ mix Try.func97 (show Try.f97.body=some kas by kernel_rfl) (show Try.f97.ntmps=21 by kernel_rfl) (show Try.f97.results.toList=ki4 by kernel_rfl) rfl h (k1d8 o)
theorem k1gj {p0:Int} {p1:Int} {r0:List Int} (h:
((([]:List Int)=([]:List Int))∧Md.Loop (p0,p1,(0:Int),(([]:List Int):List Int),()) (kdg (r0,())))):kl3 (p0,p1,()) (r0,()):=WPh.of_eq (by kernel_rfl) h
def kyi (r0:List Int) (k1:Int→Int→List Int→Prop) (s1:Int) (s0:Int) (s6:Int) (g0:List Int):Prop:=
(decide (s6<s1)=true→
 g0.length=g0.length∧(g0.length+[IntKind.u8.wrap (Int.tmod s0 256)].length)*1≤140737488355328∧g0.length+[IntKind.u8.wrap (Int.tmod s0 256)].length≤maxLen∧let v1:List Int:=g0++[IntKind.u8.wrap (Int.tmod s0 256)]
(v1=v1)∧k1 (IntKind.u64.wrap (Int.tdiv s0 256):Int) (IntKind.i64.wrap (s6+1):Int) v1)∧
(decide (s6<s1)=false→
 g0=r0)
theorem k1dw {r0:List Int} {s1:Int} {s0:Int} {s6:Int} {g0:List Int} (inv:Int→Int→List Int→Prop) (μ:Int→Int→List Int→Nat) (h0:inv s0 s6 g0) (hs:∀(s0:Int) (s6:Int) (g0:List Int),inv s0 s6 g0→kyi r0 (fun s0q s6q g0q=>inv s0q s6q g0q∧μ s0q s6q g0q<μ s0 s6 g0) s1 s0 s6 g0):Md.Loop (s0,s1,s6,g0,()) (kdg (r0,())):=
 ⟨⟨fun s:Int×Int×Int×(List Int)×Unit=>(s.2.1=s1)∧inv s.1 s.2.2.1 s.2.2.2.1,fun s:Int×Int×Int×(List Int)×Unit=>μ s.1 s.2.2.1 s.2.2.2.1,⟨rfl,h0⟩,fun(s0p,s1p,s6p,g0p,()) ⟨eq0,hi⟩=>by
  have eq0:s1p=s1:=eq0;subst s1p;exact mpr_of (by kernel_rfl) ((congrArg (fun k=>kyi r0 k s1 s0p s6p g0p) (lpk3 (rfl:s1=s1) inv (fun s0q s6q g0q=>μ s0q s6q g0q<μ s0p s6p g0p))).mpr (hs s0p s6p g0p hi))⟩⟩
theorem bd97:Callable Try.prog 97:=⟨by rw[Try.func97];kernel_rfl,by rw[Try.func97];show some _≠some _;decide⟩
theorem k1bz (p0:Int) (p1:Int) (h:U64 p0∧0≤p1∧p1≤8):kl3 (p0,p1,()) (((dig p1.toNat p0):List Int),()):=by
 obtain⟨h1,h2,h3⟩:=h
 refine k1gj ⟨rfl,k1dw (fun n i g=>0≤i∧i≤p1∧U64 n∧n=p0/256^i.toNat∧g=dig i.toNat p0) (fun _ i _=>(p1-i).toNat) ⟨by omega,by omega,h1,by simp,by simp[dig]⟩ ?_⟩
 rintro n i g ⟨g0,g1,g2,g3,rfl⟩
 refine⟨fun h=> ?_,fun h=> ?_⟩
 ·have h:=of_decide_eq_true h
  rw[inc i p1 g0 h (by omega),tmod_nn _ _ g2.1,tdiv_nn _ _ g2.1,u8w,wu (n/256) (by omega) (by omega)]
  refine⟨rfl,?_,?_,rfl,⟨by omega,by omega,⟨by omega,by omega⟩,?_,?_⟩,by omega⟩
  ·simp;omega
  ·simp;unfold maxLen;omega
  ·rw[g3,show(i+1).toNat=i.toNat+1 by omega,Int.ediv_ediv_of_nonneg (Int.le_of_lt (kan _)),Int.pow_succ]
  ·rw[show(i+1).toNat=i.toNat+1 by omega,ks8,g3]
   congr 2
   omega
 ·have h:=of_decide_eq_false h
  rw[show i=p1 by omega]
noncomputable def kgd:Con TB.den:=k36.fnR (fun x=>(fun(p0:Int) (p1:Int)=>U64 p0∧0≤p1∧p1≤8) x.1 x.2.1) fun x=>((fun(p0:Int) (p1:Int)=>((dig p1.toNat p0):List Int)) x.1 x.2.1,())
theorem kyo:kgd.Ok Try.prog TB:=Con.ok_fn k36 bd97 fun x h=>k1dv (k1bz x.1 x.2.1 h)
def k28:Con TB.den:=Con.mk0 97 [.one (.d (.int .u64)),.one (.d (.int .i64))] [] (.one (.one (.own 0))) [.tip (.int .u8)]
abbrev kvx:=HL TB.den (hsT k28.ins (hsOs k28.pre))
abbrev k5k:=HL TB.den (hsV k28.res (hsOs k28.post))
noncomputable def k5x:Cx TB:=⟨inf,[],[],4,[]⟩
noncomputable def k8u:Code:=Try.f97.body.getD .skip
noncomputable def kee:List ResultVar:=Try.f97.results.toList
def k1bs (o:k5k):=qS TB k5x 21 0 (cB (cB (cB k8u))) .no (retTQ TB k5x k28 kee o)
def k6p:Tm:=⟨[0],[.tip (.int .u8)],[0,1,5,6],[.one (.d (.int .u64)),.one (.d (.int .i64)),.one (.own 0),.one (.d (.int .i64))],1⟩
def k19x (o:k5k) (nx1:NX TB k6p):=qM TB 0 k6p nx1 (blockT TB 0 (k1bs o))
def kaw (o:k5k) (nx1:NX TB k6p) (i:HL TB.den k6p.hs):Prop:=WP TB k5x 21 0 (cA (cA (cB (cA (cB (cB k8u)))))) .no (k6p.fill TB i) (k19x o nx1)
noncomputable def k1b1 (o:k5k):An TB:= .lp [.tok 5 (.int .u8)] k6p (kaw o) fun nx1=> .no
noncomputable def k1b4 (o:k5k):An TB:= .nd [] .no [] (.nd [] (.nd [] .no [] (k1b1 o)) [] .no)
noncomputable def kti (o:k5k):An TB:= .nd [] .no [] (k1b4 o)
def kh3 (x:kvx) (o:k5k):Prop:=WPh TB k5x 21 0 k8u (kti o) (k28.st TB x) (retTQ TB k5x k28 kee o)
theorem k18g (o:k5k):OblH TB k5x 21 0 k8u (kti o) (retTQ TB k5x k28 kee o):=
 OblH.ofC (X:=((∀nx i,(kaw o) nx i=(kaw o) nx i)∧(∀nx1:NX TB k6p,True)∧True)) (by kernel_rfl) ⟨fun _ _=>rfl,fun _=>trivial,trivial⟩
theorem k19d {x:kvx} {o:k5k} (h:kh3 x o):k28.Snd Try.prog x o:=
 Con.soundH (c:=k28) (C:=k5x) TBok ⟨inf_ok,all_nil,all_nil⟩ mix Try.func97 (show Try.f97.body=some k8u by kernel_rfl) (show Try.f97.ntmps=21 by kernel_rfl) (show Try.f97.results.toList=kee by kernel_rfl) rfl h (k18g o)
theorem k1bu {p0:Int} {p1:Int} {e0:List Int} (h:
((([]:List Int)=([]:List Int))∧Md.Loop (p0,p1,(0:Int),(([]:List Int):List Int),()) (kaw (e0,())))):kh3 (p0,p1,()) (e0,()):=WPh.of_eq (by kernel_rfl) h
def ktu (e0:List Int) (k1:Int→Int→List Int→Prop) (s1:Int) (s0:Int) (s6:Int) (g0:List Int):Prop:=
(decide (s6<s1)=true→
 g0.length=g0.length∧(g0.length+[IntKind.u8.wrap (Int.tmod s0 256)].length)*1≤140737488355328∧g0.length+[IntKind.u8.wrap (Int.tmod s0 256)].length≤maxLen∧let v1:List Int:=g0++[IntKind.u8.wrap (Int.tmod s0 256)]
(v1=v1)∧k1 (IntKind.u64.wrap (Int.tdiv s0 256):Int) (IntKind.i64.wrap (s6+1):Int) v1)∧
(decide (s6<s1)=false→
(g0=g0)∧g0=e0)
theorem k17q {e0:List Int} {s1:Int} {s0:Int} {s6:Int} {g0:List Int} (inv:Int→Int→List Int→Prop) (μ:Int→Int→List Int→Nat) (h0:inv s0 s6 g0) (hs:∀(s0:Int) (s6:Int) (g0:List Int),inv s0 s6 g0→ktu e0 (fun s0q s6q g0q=>inv s0q s6q g0q∧μ s0q s6q g0q<μ s0 s6 g0) s1 s0 s6 g0):Md.Loop (s0,s1,s6,g0,()) (kaw (e0,())):=
 ⟨⟨fun s:Int×Int×Int×(List Int)×Unit=>(s.2.1=s1)∧inv s.1 s.2.2.1 s.2.2.2.1,fun s:Int×Int×Int×(List Int)×Unit=>μ s.1 s.2.2.1 s.2.2.2.1,⟨rfl,h0⟩,fun(s0p,s1p,s6p,g0p,()) ⟨eq0,hi⟩=>by
  have eq0:s1p=s1:=eq0;subst s1p;exact mpr_of (by kernel_rfl) ((congrArg (fun k=>ktu e0 k s1 s0p s6p g0p) (lpk3 (rfl:s1=s1) inv (fun s0q s6q g0q=>μ s0q s6q g0q<μ s0p s6p g0p))).mpr (hs s0p s6p g0p hi))⟩⟩
theorem k15e (p0:Int) (p1:Int) (h:U64 p0∧0≤p1∧p1≤8):kh3 (p0,p1,()) (((dig p1.toNat p0):List Int),()):=by
 obtain⟨h1,h2,h3⟩:=h
 refine k1bu ⟨rfl,k17q (fun n i g=>0≤i∧i≤p1∧U64 n∧n=p0/256^i.toNat∧g=dig i.toNat p0) (fun _ i _=>(p1-i).toNat) ⟨by omega,by omega,h1,by simp,by simp[dig]⟩ ?_⟩
 rintro n i g ⟨g0,g1,g2,g3,rfl⟩
 refine⟨fun h=> ?_,fun h=> ?_⟩
 ·have h:=of_decide_eq_true h
  rw[inc i p1 g0 h (by omega),tmod_nn _ _ g2.1,tdiv_nn _ _ g2.1,u8w,wu (n/256) (by omega) (by omega)]
  refine⟨rfl,?_,?_,rfl,⟨by omega,by omega,⟨by omega,by omega⟩,?_,?_⟩,by omega⟩
  ·simp;omega
  ·simp;unfold maxLen;omega
  ·rw[g3,show(i+1).toNat=i.toNat+1 by omega,Int.ediv_ediv_of_nonneg (Int.le_of_lt (kan _)),Int.pow_succ]
  ·rw[show(i+1).toNat=i.toNat+1 by omega,ks8,g3]
   congr 2
   omega
 ·have h:=of_decide_eq_false h
  exact⟨rfl,by rw[show i=p1 by omega]⟩
noncomputable def kr0:Con TB.den:=k28.fnR (fun x=>(fun(p0:Int) (p1:Int)=>U64 p0∧0≤p1∧p1≤8) x.1 x.2.1) fun x=>((fun(p0:Int) (p1:Int)=>((dig p1.toNat p0):List Int)) x.1 x.2.1,())
theorem k1ai:kr0.Ok Try.prog TB:=Con.ok_fn k28 bd97 fun x h=>k19d (k15e x.1 x.2.1 h)
def kxu:Con TB.den:=Con.mk0 59 [.one (.d (.int .i64))] [] (.one (.one (.d (.sl (.int .u8))))) []
abbrev k1f6:=HL TB.den (hsV kxu.res (hsOs kxu.post))
noncomputable def k1c2:Cx TB:=⟨inf,[kgd],[],4,[]⟩
noncomputable def k1ln:Code:=Try.f59.body.getD .skip
noncomputable def k1nv:List ResultVar:=Try.f59.results.toList
def ktw:Tm:=⟨[],[],[0],[.one (.d (.int .i64))],0⟩
def k1n6 (o:k1f6) (i:HL TB.den ktw.hs):Prop:=ghs TB [] (ktw.fill TB i) fun s=>WP TB k1c2 12 0 (cB (cB k1ln)) .no s (retTQ TB k1c2 kxu k1nv o)
structure k1r2 (o:k1f6) (i:HL TB.den ktw.hs):Prop where
 h:k1n6 o i
theorem bd59:Callable Try.prog 59:=⟨by rw[Try.func59];kernel_rfl,by rw[Try.func59];show some _≠some _;decide⟩
def k42:Con TB.den:=Con.mk0 59 [.one (.d (.int .i64))] [] (.one (.one (.own 0))) [.tip (.int .u8)]
abbrev k16t:=HL TB.den (hsT k42.ins (hsOs k42.pre))
abbrev kdv:=HL TB.den (hsV k42.res (hsOs k42.post))
noncomputable def k9o:Cx TB:=⟨inf,[kr0],[],4,[]⟩
noncomputable def kgk:Code:=Try.f59.body.getD .skip
noncomputable def kk7:List ResultVar:=Try.f59.results.toList
def kib:Tm:=⟨[],[],[0],[.one (.d (.int .i64))],0⟩
def kzs (o:kdv) (i:HL TB.den kib.hs):Prop:=ghs TB [] (kib.fill TB i) fun s=>WP TB k9o 12 0 (cB (cB kgk)) .no s (retTQ TB k9o k42 kk7 o)
structure k9s (o:kdv) (i:HL TB.den kib.hs):Prop where
 h:kzs o i
noncomputable def k14l (o:kdv):An TB:= .nd [] .no [] (.jn kib (k9s o) [] .no [] .no)
def kmk (x:k16t) (o:kdv):Prop:=WPh TB k9o 12 0 kgk (k14l o) (k42.st TB x) (retTQ TB k9o k42 kk7 o)
theorem k1ig (o:kdv):OblH TB k9o 12 0 kgk (k14l o) (retTQ TB k9o k42 kk7 o):=
 OblH.ofC (X:=((∀i,(k9s o) i=kzs o i)∧True)) (by kernel_rfl) ⟨fun _=>propext ⟨fun h=>h.1,fun h=>⟨h⟩⟩,trivial⟩
theorem k1gh {x:k16t} {o:kdv} (h:kmk x o):k42.Snd Try.prog x o:=
 Con.soundH (c:=k42) (C:=k9o) TBok ⟨inf_ok,(all_cons k1ai all_nil),all_nil⟩ mix Try.func59 (show Try.f59.body=some kgk by kernel_rfl) (show Try.f59.ntmps=12 by kernel_rfl) (show Try.f59.results.toList=kk7 by kernel_rfl) rfl h (k1ig o)
theorem k1iy {p0:Int} {e0:List Int} (h:
((decide (p0<0)=true→
 k9s (e0,()) ((0:Int),()))∧
(decide (p0<0)=false→
(decide (4294967296≤p0)=true→
 k9s (e0,()) ((0:Int),()))∧
(decide (4294967296≤p0)=false→
 k9s (e0,()) (p0,()))))):kmk (p0,()) (e0,()):=WPh.of_eq (by kernel_rfl) h
theorem k1a7 {e0:List Int} {s0:Int} (h:
((U64 (IntKind.u64.wrap s0)∧0≤(4:Int)∧(4:Int)≤8)∧let r1:List Int:=(dig (4:Int).toNat (IntKind.u64.wrap s0))
(r1=r1)∧r1=e0)):k9s (e0,()) (s0,()):=⟨mpr_of (by kernel_rfl) h⟩
theorem k1em (p0:Int):kmk (p0,()) (((dig 4 (len4 p0)):List Int),()):=by
 have j:∀n,0≤n→n≤4294967295→len4 p0=n→k9s ((dig 4 (len4 p0):List Int),()) (n,()):=by
  intro n h0 h1 e
  refine k1a7 ?_
  rw[wu n (by omega) (by omega),e]
  exact⟨⟨⟨h0,by omega⟩,by omega⟩,by trivial,rfl⟩
 refine k1iy ⟨fun h=>j 0 (by omega) (by omega) ?_,fun h=>⟨fun h' =>j 0 (by omega) (by omega) ?_,fun h' =>j p0 ?_ ?_ ?_⟩⟩
 ·have h:=of_decide_eq_true h;exact if_pos (.inl h)
 ·have h' :=of_decide_eq_true h';exact if_pos (.inr (by omega))
 ·have h:=of_decide_eq_false h;omega
 ·have h' :=of_decide_eq_false h';omega
 ·have h:=of_decide_eq_false h;have h' :=of_decide_eq_false h';exact len4_in ⟨by omega,by omega⟩
noncomputable def kow:Con TB.den:=k42.totR fun x=>((fun(p0:Int)=>((dig 4 (len4 p0)):List Int)) x.1,())
theorem k13m:kow.Ok Try.prog TB:=Con.ok_tot k42 bd59 fun x=>k1gh (k1em x.1)
def k5g:Con TB.den:=Con.mk0 61 [.one (.d (.sl (.int .u64)))] [] (.one (.one (.d (.sl (.int .u8))))) []
abbrev k1bq:=HL TB.den (hsT k5g.ins (hsOs k5g.pre))
abbrev kda:=HL TB.den (hsV k5g.res (hsOs k5g.post))
noncomputable def k9d:Cx TB:=⟨inf,[kow,kgd],[],4,[]⟩
noncomputable def kdp:Code:=Try.f61.body.getD .skip
noncomputable def kns:List ResultVar:=Try.f61.results.toList
def k1my (o:kda):=qS TB k9d 22 0 (cB (cB (cB kdp))) .no (retTQ TB k9d k5g kns o)
def kdw:Tm:=⟨[0],[.tip (.int .u8)],[0,3,4],[.one (.d (.sl (.int .u64))),.one (.own 0),.one (.d (.int .i64))],1⟩
def khs (o:kda) (nx1:NX TB kdw) (i:HL TB.den kdw.hs):Prop:=WP TB k9d 22 0 (cA (cA (cB (cA (cB (cB kdp)))))) .no (kdw.fill TB i) (qM TB 0 kdw nx1 (blockT TB 0 (k1my o)))
noncomputable def k1md (o:kda):An TB:= .nd [] .no [] (.lp [] kdw (khs o) fun nx1=> .no)
noncomputable def k16b (o:kda):An TB:= .nd [] .no [] (.nd [] .no [] (.nd [] (k1md o) [] .no))
def kox (x:k1bq) (o:kda):Prop:=WPh TB k9d 22 0 kdp (k16b o) (k5g.st TB x) (retTQ TB k9d k5g kns o)
theorem k1ih (o:kda):OblH TB k9d 22 0 kdp (k16b o) (retTQ TB k9d k5g kns o):=
 OblH.ofC (X:=((∀nx i,(khs o) nx i=(khs o) nx i)∧(∀nx1:NX TB kdw,True)∧True)) (by kernel_rfl) ⟨fun _ _=>rfl,fun _=>trivial,trivial⟩
theorem k1ka {x:k1bq} {o:kda} (h:kox x o):k5g.Snd Try.prog x o:=
 Con.soundH (c:=k5g) (C:=k9d) TBok ⟨inf_ok,(all_cons k13m (all_cons kyo all_nil)),all_nil⟩ mix Try.func61 (show Try.f61.body=some kdp by kernel_rfl) (show Try.f61.ntmps=22 by kernel_rfl) (show Try.f61.results.toList=kns by kernel_rfl) rfl h (k1ih o)
theorem k1mh {p0:List Int} {r0:List Int} (h:
(((dig 4 (len4 (p0.length:Int)))=(dig 4 (len4 (p0.length:Int))))∧Md.Loop (p0,(0:Int),((dig 4 (len4 (p0.length:Int))):List Int),()) (khs (r0,())))):kox (p0,()) (r0,()):=WPh.of_eq (by kernel_rfl) h
def k16r (r0:List Int) (k1:Int→List Int→Prop) (s0:List Int) (s4:Int) (g0:List Int):Prop:=
(decide (s4<(s0.length:Int))=true→
(0≤s4)∧s4<(s0.length:Int)∧(U64 (ix s0 s4)∧0≤(8:Int)∧(8:Int)≤8)∧g0.length=g0.length∧(g0.length+(dig (8:Int).toNat (ix s0 s4)).length)*1≤140737488355328∧g0.length+(dig (8:Int).toNat (ix s0 s4)).length≤maxLen∧(g0++(dig (8:Int).toNat (ix s0 s4))=g0++(dig (8:Int).toNat (ix s0 s4)))∧k1 (IntKind.i64.wrap (s4+1):Int) (g0++(dig (8:Int).toNat (ix s0 s4)):List Int))∧
(decide (s4<(s0.length:Int))=false→
 g0=r0)
theorem k1lv {r0:List Int} {s0:List Int} {s4:Int} {g0:List Int} (inv:Int→List Int→Prop) (μ:Int→List Int→Nat) (h0:inv s4 g0) (hs:∀(s4:Int) (g0:List Int),inv s4 g0→k16r r0 (fun s4q g0q=>inv s4q g0q∧μ s4q g0q<μ s4 g0) s0 s4 g0):Md.Loop (s0,s4,g0,()) (khs (r0,())):=
 ⟨⟨fun s:(List Int)×Int×(List Int)×Unit=>(s.1=s0)∧inv s.2.1 s.2.2.1,fun s:(List Int)×Int×(List Int)×Unit=>μ s.2.1 s.2.2.1,⟨rfl,h0⟩,fun(s0p,s4p,g0p,()) ⟨eq0,hi⟩=>by
  have eq0:s0p=s0:=eq0;subst s0p;exact mpr_of (by kernel_rfl) ((congrArg (fun k=>k16r r0 k s0 s4p g0p) (lpk2 (rfl:s0=s0) inv (fun s4q g0q=>μ s4q g0q<μ s4p g0p))).mpr (hs s4p g0p hi))⟩⟩
theorem bd61:Callable Try.prog 61:=⟨by rw[Try.func61];kernel_rfl,by rw[Try.func61];show some _≠some _;decide⟩
theorem k1gb (p0:List Int) (h:Us p0∧p0.length≤4294967295):kox (p0,()) (((encL p0):List Int),()):=by
 obtain⟨h1,h2⟩:=h
 refine k1mh ⟨rfl,k1lv (fun i g=>0≤i∧i≤p0.length∧g=dig 4 (len4 p0.length)++(p0.take i.toNat).flatMap (dig 8)) (fun i _=>(p0.length-i).toNat) ⟨by omega,by omega,by simp⟩ ?_⟩
 rintro i g ⟨g0,g1,rfl⟩
 refine⟨fun h=> ?_,fun h=> ?_⟩
 ·have h:=of_decide_eq_true h
  have hx:=h1 _ (ix_mem p0 i g0 h)
  rw[inc i p0.length g0 h (by omega)]
  have hlen:(dig 4 (len4 p0.length)++(p0.take i.toNat).flatMap (dig 8)).length≤4+8*p0.length:=by simp only[List.length_append,kh,kjs,List.length_take];omega
  refine⟨g0,h,⟨hx,by omega⟩,rfl,?_,?_,rfl,⟨by omega,by omega,?_⟩,by omega⟩
  ·rw[kh];omega
  ·rw[kh];unfold maxLen;omega
  ·rw[k16 p0 i g0 h,List.flatMap_append,List.append_assoc]
   simp
 ·have h:=of_decide_eq_false h
  rw[List.take_of_length_le (by omega)]
  rfl
noncomputable def k12j:Con TB.den:=k5g.fnR (fun x=>(fun(p0:List Int)=>Us p0∧p0.length≤4294967295) x.1) fun x=>((fun(p0:List Int)=>((encL p0):List Int)) x.1,())
theorem k1m4:k12j.Ok Try.prog TB:=Con.ok_fn k5g bd61 fun x h=>k1ka (k1gb x.1 h)
def k4g:Con TB.den:=Con.mk0 19 [.agg [.d (.int .u64),.d (.int .u64),.d (.int .u64),.d (.int .u64)]] [] (.one (.one (.full (.int .u64)))) []
abbrev k12b:=HL TB.den (hsT k4g.ins (hsOs k4g.pre))
abbrev kl8:=HL TB.den (hsV k4g.res (hsOs k4g.post))
noncomputable def kdm:Cx TB:=⟨inf,[],[],4,[]⟩
noncomputable def kk0:Code:=Try.f19.body.getD .skip
noncomputable def kp5:List ResultVar:=Try.f19.results.toList
noncomputable def kzv (o:kl8):An TB:= .no
def kk3 (x:k12b) (o:kl8):Prop:=WPh TB kdm 12 0 kk0 (kzv o) (k4g.st TB x) (retTQ TB kdm k4g kp5 o)
theorem k1cv (o:kl8):OblH TB kdm 12 0 kk0 (kzv o) (retTQ TB kdm k4g kp5 o):=
 OblH.ofC (X:=True) (by kernel_rfl) trivial
theorem k1cl {x:k12b} {o:kl8} (h:kk3 x o):k4g.Snd Try.prog x o:=
 Con.soundH (c:=k4g) (C:=kdm) TBok ⟨inf_ok,all_nil,all_nil⟩ mix Try.func19 (show Try.f19.body=some kk0 by kernel_rfl) (show Try.f19.ntmps=12 by kernel_rfl) (show Try.f19.results.toList=kp5 by kernel_rfl) rfl h (k1cv o)
theorem k1ht {p0:TNote} {r0:List Int} (h:
([p0.Value,p0.Owner,p0.Rho,p0.Blind]=r0)):kk3 (p0.Value,p0.Owner,p0.Rho,p0.Blind,()) (r0,()):=WPh.of_eq (by kernel_rfl) h
theorem k1b7 (p0:TNote):kk3 (p0.Value,p0.Owner,p0.Rho,p0.Blind,()) (((noteL p0):List Int),()):=by
 exact k1ht rfl
noncomputable def kvn:Con TB.den:=k4g.totR fun x=>((fun(p0:TNote)=>((noteL p0):List Int)) (TNote.mk x.1 x.2.1 x.2.2.1 x.2.2.2.1),())
theorem k1gl:kvn.Ok Try.prog TB:=Con.ok_tot k4g bd19 fun x=>k1cl (k1b7 (TNote.mk x.1 x.2.1 x.2.2.1 x.2.2.2.1))
def k4a:Con TB.den:=Con.mk0 60 [.one (.d (.sl (.int .u64)))] [] (.one (.one (.d (.sl (.int .u8))))) []
abbrev k16q:=HL TB.den (hsT k4a.ins (hsOs k4a.pre))
abbrev k9b:=HL TB.den (hsV k4a.res (hsOs k4a.post))
noncomputable def k88:Cx TB:=⟨inf,[kgd],[],4,[]⟩
noncomputable def kbt:Code:=Try.f60.body.getD .skip
noncomputable def kkg:List ResultVar:=Try.f60.results.toList
def k1j1 (o:k9b):=qS TB k88 19 0 (cB (cB (cB kbt))) .no (retTQ TB k88 k4a kkg o)
def kc6:Tm:=⟨[0],[.tip (.int .u8)],[0,3,4],[.one (.d (.sl (.int .u64))),.one (.own 0),.one (.d (.int .i64))],1⟩
def kf0 (o:k9b) (nx1:NX TB kc6) (i:HL TB.den kc6.hs):Prop:=WP TB k88 19 0 (cA (cA (cB (cA (cB (cB kbt)))))) .no (kc6.fill TB i) (qM TB 0 kc6 nx1 (blockT TB 0 (k1j1 o)))
noncomputable def k1jq (o:k9b):An TB:= .lp [.tok 3 (.int .u8)] kc6 (kf0 o) fun nx1=> .no
noncomputable def k1jb (o:k9b):An TB:= .nd [] .no [] (.nd [] (.nd [] .no [] (k1jq o)) [] .no)
noncomputable def k12g (o:k9b):An TB:= .nd [] .no [] (k1jb o)
def kml (x:k16q) (o:k9b):Prop:=WPh TB k88 19 0 kbt (k12g o) (k4a.st TB x) (retTQ TB k88 k4a kkg o)
theorem k1gi (o:k9b):OblH TB k88 19 0 kbt (k12g o) (retTQ TB k88 k4a kkg o):=
 OblH.ofC (X:=((∀nx i,(kf0 o) nx i=(kf0 o) nx i)∧(∀nx1:NX TB kc6,True)∧True)) (by kernel_rfl) ⟨fun _ _=>rfl,fun _=>trivial,trivial⟩
theorem k1go {x:k16q} {o:k9b} (h:kml x o):k4a.Snd Try.prog x o:=
 Con.soundH (c:=k4a) (C:=k88) TBok ⟨inf_ok,(all_cons kyo all_nil),all_nil⟩ mix Try.func60 (show Try.f60.body=some kbt by kernel_rfl) (show Try.f60.ntmps=19 by kernel_rfl) (show Try.f60.results.toList=kkg by kernel_rfl) rfl h (k1gi o)
theorem k1kj {p0:List Int} {r0:List Int} (h:
((([]:List Int)=([]:List Int))∧Md.Loop (p0,(0:Int),(([]:List Int):List Int),()) (kf0 (r0,())))):kml (p0,()) (r0,()):=WPh.of_eq (by kernel_rfl) h
def k13f (r0:List Int) (k1:Int→List Int→Prop) (s0:List Int) (s4:Int) (g0:List Int):Prop:=
(decide (s4<(s0.length:Int))=true→
(0≤s4)∧s4<(s0.length:Int)∧(U64 (ix s0 s4)∧0≤(8:Int)∧(8:Int)≤8)∧g0.length=g0.length∧(g0.length+(dig (8:Int).toNat (ix s0 s4)).length)*1≤140737488355328∧g0.length+(dig (8:Int).toNat (ix s0 s4)).length≤maxLen∧(g0++(dig (8:Int).toNat (ix s0 s4))=g0++(dig (8:Int).toNat (ix s0 s4)))∧k1 (IntKind.i64.wrap (s4+1):Int) (g0++(dig (8:Int).toNat (ix s0 s4)):List Int))∧
(decide (s4<(s0.length:Int))=false→
 g0=r0)
theorem k1gt {r0:List Int} {s0:List Int} {s4:Int} {g0:List Int} (inv:Int→List Int→Prop) (μ:Int→List Int→Nat) (h0:inv s4 g0) (hs:∀(s4:Int) (g0:List Int),inv s4 g0→k13f r0 (fun s4q g0q=>inv s4q g0q∧μ s4q g0q<μ s4 g0) s0 s4 g0):Md.Loop (s0,s4,g0,()) (kf0 (r0,())):=
 ⟨⟨fun s:(List Int)×Int×(List Int)×Unit=>(s.1=s0)∧inv s.2.1 s.2.2.1,fun s:(List Int)×Int×(List Int)×Unit=>μ s.2.1 s.2.2.1,⟨rfl,h0⟩,fun(s0p,s4p,g0p,()) ⟨eq0,hi⟩=>by
  have eq0:s0p=s0:=eq0;subst s0p;exact mpr_of (by kernel_rfl) ((congrArg (fun k=>k13f r0 k s0 s4p g0p) (lpk2 (rfl:s0=s0) inv (fun s4q g0q=>μ s4q g0q<μ s4p g0p))).mpr (hs s4p g0p hi))⟩⟩
theorem bd60:Callable Try.prog 60:=⟨by rw[Try.func60];kernel_rfl,by rw[Try.func60];show some _≠some _;decide⟩
theorem k1cg (p0:List Int) (h:Us p0∧p0.length≤4294967295):kml (p0,()) (((p0.flatMap (dig 8)):List Int),()):=by
 obtain⟨hu,hl⟩:=h
 refine k1kj ⟨rfl,?_⟩
 refine k1gt (fun i g=>0≤i∧i≤p0.length∧g=(p0.take i.toNat).flatMap (dig 8)) (fun i _=>(p0.length-i).toNat) ⟨by omega,by omega,by simp⟩ ?_
 rintro i g ⟨g0,g1,rfl⟩
 have hg:((p0.take i.toNat).flatMap (dig 8)).length≤8*4294967295:=by rw[kf7,List.length_take];omega
 have e8:(8:Int).toNat=8:=rfl
 refine⟨fun hh=> ?_,fun hh=> ?_⟩
 ·have hh:=of_decide_eq_true hh
  rw[inc i p0.length g0 hh (by omega)]
  refine⟨g0,hh,⟨hu _ (ix_mem p0 i g0 hh),by omega,by omega⟩,rfl,by rw[kh];omega,by rw[kh];unfold maxLen;omega,rfl,⟨by omega,by omega,?_⟩,by omega⟩
  rw[k16 p0 i g0 hh,List.flatMap_append,e8]
  simp
 ·have hh:=of_decide_eq_false hh
  rw[List.take_of_length_le (by omega)]
noncomputable def k101:Con TB.den:=k4a.fnR (fun x=>(fun(p0:List Int)=>Us p0∧p0.length≤4294967295) x.1) fun x=>((fun(p0:List Int)=>((p0.flatMap (dig 8)):List Int)) x.1,())
theorem k1m0:k101.Ok Try.prog TB:=Con.ok_fn k4a bd60 fun x h=>k1go (k1cg x.1 h)
def k3c:Con TB.den:=Con.mk0 27 [.agg [.d (.sl (.st 0)),.d (.sl (.st 1)),.d (.int .u64)]] [] (.one (.one (.d (.sl (.int .u8))))) []
abbrev k17c:=HL TB.den (hsT k3c.ins (hsOs k3c.pre))
abbrev k23:=HL TB.den (hsV k3c.res (hsOs k3c.post))
noncomputable def k3p:Cx TB:=⟨inf,[kow,kvn,k101,k12j],[],4,[]⟩
noncomputable def k5j:Code:=Try.f27.body.getD .skip
noncomputable def kes:List ResultVar:=Try.f27.results.toList
def k1ku (o:k23):=qS TB k3p 83 0 (cB (cB (cB (cB (cB k5j))))) .no (retTQ TB k3p k3c kes o)
def kca:Tm:=⟨[0,1],[.cells [.d (.sl (.st 0)),.d (.sl (.st 1)),.d (.int .u64)],.tip (.int .u8)],[1,3,7],[.one (.ptr 0 0),.one (.own 1),.one (.d (.int .i64))],3⟩
def kfc (o:k23) (nx2:NX TB kca) (i:HL TB.den kca.hs):Prop:=WP TB k3p 83 0 (cA (cA (cB (cA (cB (cB (cB (cB k5j)))))))) .no (kca.fill TB i) (qM TB 0 kca nx2 (blockT TB 2 (k1ku o)))
noncomputable def k13x (o:k23):An TB:= .nd [] .no [] (.lp [] kca (kfc o) fun nx2=> .no)
def k143 (o:k23):=qS TB k3p 83 0 (cB (cB (cB k5j))) (.nd [] .no [] (.nd [] (k13x o) [] .no)) (retTQ TB k3p k3c kes o)
def k2a:Tm:=⟨[0,1],[.cells [.d (.sl (.st 0)),.d (.sl (.st 1)),.d (.int .u64)],.tip (.int .u8)],[1,3,4],[.one (.ptr 0 0),.one (.own 1),.one (.d (.int .i64))],2⟩
def k1k7 (o:k23) (nx1:NX TB k2a):=qS TB k3p 83 0 (cB (cB (cA (cA (cB (cA (cB (cB k5j)))))))) .no (qM TB 0 k2a nx1 (blockT TB 0 (k143 o)))
def khw:Tm:=⟨[0,1],[.cells [.d (.sl (.st 0)),.d (.sl (.st 1)),.d (.int .u64)],.tip (.int .u8)],[1,3,4,6],[.one (.ptr 0 0),.one (.own 1),.one (.d (.int .i64)),.one (.d (.int .i64))],49⟩
def kzr (o:k23) (nx1:NX TB k2a) (i:HL TB.den khw.hs):Prop:=ghs TB [] (khw.fill TB i) fun s=>WP TB k3p 83 0 (cB (cB (cB (cB (cB (cB (cB (cA (cA (cB (cA (cA (cB (cA (cB (cB k5j)))))))))))))))) .no s (blockT TB 1 (k1k7 o nx1))
structure kfq (o:k23) (nx1:NX TB k2a) (i:HL TB.den khw.hs):Prop where
 h:kzr o nx1 i
noncomputable def k1jh (o:k23) (nx1:NX TB k2a):An TB:= .nd [] .no [] (.jn khw (kfq o nx1) [] .no [] .no)
noncomputable def k1kz (o:k23) (nx1:NX TB k2a):An TB:= .nd [] .no [] (.nd [] .no [] (.nd [] .no [] (k1jh o nx1)))
noncomputable def kyp (o:k23) (nx1:NX TB k2a):An TB:= .nd [] (.nd [] .no [] (.nd [] .no [] (k1kz o nx1))) [] .no
def kg0 (o:k23) (nx1:NX TB k2a) (i:HL TB.den k2a.hs):Prop:=WP TB k3p 83 0 (cA (cA (cB (cA (cB (cB k5j)))))) (.nd [] .no [] (kyp o nx1)) (k2a.fill TB i) (qM TB 0 k2a nx1 (blockT TB 0 (k143 o)))
noncomputable def k1g7 (o:k23):An TB:= .lp [] k2a (kg0 o) fun nx1=>(.nd [] .no [] (kyp o nx1))
noncomputable def k1g4 (o:k23):An TB:= .nd [] (.nd [] .no [] (k1g7 o)) [] (.nd [] .no [] (.nd [] (k13x o) [] .no))
noncomputable def k132 (o:k23):An TB:= .nd [] .no [] (.nd [] .no [] (k1g4 o))
def klw (x:k17c) (o:k23):Prop:=WPh TB k3p 83 0 k5j (k132 o) (k3c.st TB x) (retTQ TB k3p k3c kes o)
theorem k1i5 (o:k23):OblH TB k3p 83 0 k5j (k132 o) (retTQ TB k3p k3c kes o):=
 OblH.ofC (X:=((∀nx i,(kg0 o) nx i=(kg0 o) nx i)∧(∀nx1:NX TB k2a,((∀i,(kfq o nx1) i=kzr o nx1 i)∧True))∧(∀nx i,(kfc o) nx i=(kfc o) nx i)∧(∀nx2:NX TB kca,True)∧True)) (by kernel_rfl) ⟨fun _ _=>rfl,fun _=>⟨fun _=>propext ⟨fun h=>h.1,fun h=>⟨h⟩⟩,trivial⟩,fun _ _=>rfl,fun _=>trivial,trivial⟩
theorem k1i9 {x:k17c} {o:k23} (h:klw x o):k3c.Snd Try.prog x o:=
 Con.soundH (c:=k3c) (C:=k3p) TBok ⟨inf_ok,(all_cons k13m (all_cons k1gl (all_cons k1m0 (all_cons k1m4 all_nil)))),all_nil⟩ mix Try.func27 (show Try.f27.body=some k5j by kernel_rfl) (show Try.f27.ntmps=83 by kernel_rfl) (show Try.f27.results.toList=kes by kernel_rfl) rfl h (k1i5 o)
theorem k1kp {p0:TWitness} {r0:List Int} (h:
(((dig 4 (len4 (p0.Ins.length:Int)))=(dig 4 (len4 (p0.Ins.length:Int))))∧Md.Loop ((0:Int),p0.Ins,p0.Outs,p0.Secret,((dig 4 (len4 (p0.Ins.length:Int))):List Int),()) (kg0 (r0,())))):klw (p0.Ins,p0.Outs,p0.Secret,()) (r0,()):=WPh.of_eq (by kernel_rfl) h
theorem ktf {r0:List Int} {nx1:NX TB k2a} {s4:Int} {s6:Int} {h0_0:List TSpent} {h0_1:List TNote} {h0_2:Int} {g1:List Int} (h:
(g1.length=g1.length∧(g1.length+(dig 4 (len4 s6)).length)*1≤140737488355328∧g1.length+(dig 4 (len4 s6)).length≤maxLen∧(g1++(dig 4 (len4 s6))=g1++(dig 4 (len4 s6)))∧nx1 ((IntKind.i64.wrap (s4+1):Int),h0_0,h0_1,h0_2,(g1++(dig 4 (len4 s6)):List Int),()))):kfq (r0,()) nx1 (s4,s6,h0_0,h0_1,h0_2,g1,()):=⟨mpr_of (by kernel_rfl) h⟩
def k12k (r0:List Int) (nx1:NX TB k2a) (k1:Int→List Int→Prop) (h0_0:List TSpent) (h0_1:List TNote) (h0_2:Int) (s4:Int) (g1:List Int):Prop:=
(decide (s4<(h0_0.length:Int))=true→
(0≤s4)∧s4<(h0_0.length:Int)∧let r1:List Int:=(noteL (TNote.mk ((ix h0_0 s4).Note_Value) ((ix h0_0 s4).Note_Owner) ((ix h0_0 s4).Note_Rho) ((ix h0_0 s4).Note_Blind)))
(r1.length+[(ix h0_0 s4).Key].length)*8≤140737488355328∧r1.length+[(ix h0_0 s4).Key].length≤maxLen∧(Us (r1++[(ix h0_0 s4).Key])∧(r1++[(ix h0_0 s4).Key]).length≤4294967295)∧let r2:List Int:=((r1++[(ix h0_0 s4).Key]).flatMap (dig 8))
 g1.length=g1.length∧(g1.length+r2.length)*1≤140737488355328∧g1.length+r2.length≤maxLen∧(g1++r2).length=(g1++r2).length∧((g1++r2).length+(dig 4 (len4 ((ix h0_0 s4).Number))).length)*1≤140737488355328∧(g1++r2).length+(dig 4 (len4 ((ix h0_0 s4).Number))).length≤maxLen∧let v3:List Int:=(g1++r2)++(dig 4 (len4 ((ix h0_0 s4).Number)))
 v3.length=v3.length∧(v3.length+(dig 4 (len4 ((ix h0_0 s4).Position))).length)*1≤140737488355328∧v3.length+(dig 4 (len4 ((ix h0_0 s4).Position))).length≤maxLen∧let v4:List Int:=v3++(dig 4 (len4 ((ix h0_0 s4).Position)))
(Us ((ix h0_0 s4).Path)∧((ix h0_0 s4).Path).length≤4294967295)∧v4.length=v4.length∧(v4.length+(encL ((ix h0_0 s4).Path)).length)*1≤140737488355328∧v4.length+(encL ((ix h0_0 s4).Path)).length≤maxLen∧((ix h0_0 s4).Dummy=true→
(v4++(encL ((ix h0_0 s4).Path))=v4++(encL ((ix h0_0 s4).Path)))∧kfq (r0,()) nx1 (s4,(1:Int),h0_0,h0_1,h0_2,(v4++(encL ((ix h0_0 s4).Path)):List Int),()))∧
((ix h0_0 s4).Dummy=false→
(v4++(encL ((ix h0_0 s4).Path))=v4++(encL ((ix h0_0 s4).Path)))∧kfq (r0,()) nx1 (s4,(0:Int),h0_0,h0_1,h0_2,(v4++(encL ((ix h0_0 s4).Path)):List Int),())))∧
(decide (s4<(h0_0.length:Int))=false→
 g1.length=g1.length∧(g1.length+(dig 4 (len4 (h0_1.length:Int))).length)*1≤140737488355328∧g1.length+(dig 4 (len4 (h0_1.length:Int))).length≤maxLen∧(g1++(dig 4 (len4 (h0_1.length:Int)))=g1++(dig 4 (len4 (h0_1.length:Int))))∧Md.Loop ((0:Int),h0_0,h0_1,h0_2,(g1++(dig 4 (len4 (h0_1.length:Int))):List Int),()) (kfc (r0,())))
theorem k1hb {r0:List Int} {h0_0:List TSpent} {h0_1:List TNote} {h0_2:Int} {s4:Int} {g1:List Int} (inv:Int→List Int→Prop) (μ:Int→List Int→Nat) (h0:inv s4 g1) (hs:∀(s4:Int) (g1:List Int),inv s4 g1→k12k r0 (fun s:Int×(List TSpent)×(List TNote)×Int×(List Int)×Unit=>((s.2.1=h0_0∧s.2.2.1=h0_1∧s.2.2.2.1=h0_2)∧inv s.1 s.2.2.2.2.1)∧μ s.1 s.2.2.2.2.1<μ s4 g1) (fun s4q g1q=>inv s4q g1q∧μ s4q g1q<μ s4 g1) h0_0 h0_1 h0_2 s4 g1):Md.Loop (s4,h0_0,h0_1,h0_2,g1,()) (kg0 (r0,())):=
 ⟨⟨fun s:Int×(List TSpent)×(List TNote)×Int×(List Int)×Unit=>(s.2.1=h0_0∧s.2.2.1=h0_1∧s.2.2.2.1=h0_2)∧inv s.1 s.2.2.2.2.1,fun s:Int×(List TSpent)×(List TNote)×Int×(List Int)×Unit=>μ s.1 s.2.2.2.2.1,⟨⟨rfl,rfl,rfl⟩,h0⟩,fun(s4p,h0_0p,h0_1p,h0_2p,g1p,()) ⟨⟨eq0,eq1,eq2⟩,hi⟩=>by
  have eq0:h0_0p=h0_0:=eq0;subst h0_0p;have eq1:h0_1p=h0_1:=eq1;subst h0_1p;have eq2:h0_2p=h0_2:=eq2;subst h0_2p;exact mpr_of (by kernel_rfl) ((congrArg (fun k=>k12k r0 (fun s:Int×(List TSpent)×(List TNote)×Int×(List Int)×Unit=>((s.2.1=h0_0∧s.2.2.1=h0_1∧s.2.2.2.1=h0_2)∧inv s.1 s.2.2.2.2.1)∧μ s.1 s.2.2.2.2.1<μ s4p g1p) k h0_0 h0_1 h0_2 s4p g1p) (lpk2 (⟨rfl,rfl,rfl⟩:h0_0=h0_0∧h0_1=h0_1∧h0_2=h0_2) inv (fun s4q g1q=>μ s4q g1q<μ s4p g1p))).mpr (hs s4p g1p hi))⟩⟩
def k123 (r0:List Int) (k2:Int→List Int→Prop) (h0_0:List TSpent) (h0_1:List TNote) (h0_2:Int) (s7:Int) (g1:List Int):Prop:=
(decide (s7<(h0_1.length:Int))=true→
(0≤s7)∧s7<(h0_1.length:Int)∧(Us (noteL (ix h0_1 s7))∧(noteL (ix h0_1 s7)).length≤4294967295)∧g1.length=g1.length∧(g1.length+((noteL (ix h0_1 s7)).flatMap (dig 8)).length)*1≤140737488355328∧g1.length+((noteL (ix h0_1 s7)).flatMap (dig 8)).length≤maxLen∧let v5:List Int:=g1++((noteL (ix h0_1 s7)).flatMap (dig 8))
(v5=v5)∧k2 (IntKind.i64.wrap (s7+1):Int) v5)∧
(decide (s7<(h0_1.length:Int))=false→
(Us [h0_2]∧[h0_2].length≤4294967295)∧g1.length=g1.length∧(g1.length+([h0_2].flatMap (dig 8)).length)*1≤140737488355328∧g1.length+([h0_2].flatMap (dig 8)).length≤maxLen∧g1++([h0_2].flatMap (dig 8))=r0)
theorem k1hi {r0:List Int} {h0_0:List TSpent} {h0_1:List TNote} {h0_2:Int} {s7:Int} {g1:List Int} (inv:Int→List Int→Prop) (μ:Int→List Int→Nat) (h0:inv s7 g1) (hs:∀(s7:Int) (g1:List Int),inv s7 g1→k123 r0 (fun s7q g1q=>inv s7q g1q∧μ s7q g1q<μ s7 g1) h0_0 h0_1 h0_2 s7 g1):Md.Loop (s7,h0_0,h0_1,h0_2,g1,()) (kfc (r0,())):=
 ⟨⟨fun s:Int×(List TSpent)×(List TNote)×Int×(List Int)×Unit=>(s.2.1=h0_0∧s.2.2.1=h0_1∧s.2.2.2.1=h0_2)∧inv s.1 s.2.2.2.2.1,fun s:Int×(List TSpent)×(List TNote)×Int×(List Int)×Unit=>μ s.1 s.2.2.2.2.1,⟨⟨rfl,rfl,rfl⟩,h0⟩,fun(s7p,h0_0p,h0_1p,h0_2p,g1p,()) ⟨⟨eq0,eq1,eq2⟩,hi⟩=>by
  have eq0:h0_0p=h0_0:=eq0;subst h0_0p;have eq1:h0_1p=h0_1:=eq1;subst h0_1p;have eq2:h0_2p=h0_2:=eq2;subst h0_2p;exact mpr_of (by kernel_rfl) ((congrArg (fun k=>k123 r0 k h0_0 h0_1 h0_2 s7p g1p) (lpk2 (⟨rfl,rfl,rfl⟩:h0_0=h0_0∧h0_1=h0_1∧h0_2=h0_2) inv (fun s7q g1q=>μ s7q g1q<μ s7p g1p))).mpr (hs s7p g1p hi))⟩⟩
theorem bd27:Callable Try.prog 27:=⟨by rw[Try.func27];kernel_rfl,by rw[Try.func27];show some _≠some _;decide⟩
theorem k1eq (p0:TWitness) (h:WQ p0∧rightV p0=true):klw (p0.Ins,p0.Outs,p0.Secret,()) (((encW p0):List Int),()):=by
 obtain⟨h,e⟩:=h
 obtain⟨v1,v2,v3,v4,v5⟩:=k96.1 e
 refine k1kp ⟨rfl,?_⟩
 refine k1hb (fun i g=>0≤i∧i≤p0.Ins.length∧g=dig 4 (len4 (p0.Ins.length:Int))++(p0.Ins.take i.toNat).flatMap encSp) (fun i _=>(p0.Ins.length-i).toNat) ⟨by omega,by omega,by simp⟩ ?_
 rintro i g ⟨g0,g1,rfl⟩
 have hle:=k6e encSp 200 (p0.Ins.take i.toNat) fun x hx=>by
  have:=(k7i.1 (v4 x (List.mem_of_mem_take hx))).2.2.2.2.2.2.1
  rw[k12s];omega
 rw[List.length_take]at hle
 have hgl:(dig 4 (len4 (p0.Ins.length:Int))++(p0.Ins.take i.toNat).flatMap encSp).length≤1000:=by
  rw[List.length_append,kh];omega
 refine⟨fun hh=> ?_,fun hh=> ?_⟩
 ·have hh:=of_decide_eq_true hh
  have hm:=ix_mem p0.Ins i g0 hh
  have hx:=h.i _ hm
  obtain⟨w1,w2,w3,w4,w5,w6,w7,w8⟩:=k7i.1 (v4 _ hm)
  have hx1:NR (noteOf (ix p0.Ins i)):=hx.n
  have eu:(noteL (noteOf (ix p0.Ins i))++[(ix p0.Ins i).Key]).flatMap (dig 8)=encN (noteOf (ix p0.Ins i))++dig 8 (ix p0.Ins i).Key:=by rw[List.flatMap_append,k1a6];simp
  have hlen:(((((dig 4 (len4 (p0.Ins.length:Int))++(p0.Ins.take i.toNat).flatMap encSp)++(noteL (noteOf (ix p0.Ins i))++[(ix p0.Ins i).Key]).flatMap (dig 8))++dig 4 (len4 (ix p0.Ins i).Number))++dig 4 (len4 (ix p0.Ins i).Position))++encL (ix p0.Ins i).Path).length≤1300:=by
   rw[eu];simp only[List.length_append,kh,k9k,kx8]at hgl ⊢;omega
  have hinv:∀d:Int,(d=if(ix p0.Ins i).Dummy=true then 1 else 0)→(0≤i+1∧i+1≤p0.Ins.length∧((((((dig 4 (len4 (p0.Ins.length:Int))++(p0.Ins.take i.toNat).flatMap encSp)++(noteL (noteOf (ix p0.Ins i))++[(ix p0.Ins i).Key]).flatMap (dig 8))++dig 4 (len4 (ix p0.Ins i).Number))++dig 4 (len4 (ix p0.Ins i).Position))++encL (ix p0.Ins i).Path)++dig 4 (len4 d))=dig 4 (len4 (p0.Ins.length:Int))++(p0.Ins.take (i+1).toNat).flatMap encSp)∧(p0.Ins.length-(i+1)).toNat<(p0.Ins.length-i).toNat:=by
   rintro d rfl
   refine⟨⟨by omega,by omega,?_⟩,by omega⟩
   rw[k16 p0.Ins i g0 hh,eu,List.flatMap_append]
   simp[encSp,List.append_assoc]
  have hus:Us (noteL (noteOf (ix p0.Ins i))++[(ix p0.Ins i).Key]):=by
   intro y hy
   simp only[noteL,List.cons_append,List.nil_append,List.mem_cons,List.not_mem_nil,or_false]at hy
   rcases hy with rfl|rfl|rfl|rfl|rfl
   ·exact hx1.v
   ·exact hx1.o
   ·exact hx1.r
   ·exact hx1.b
   ·exact hx.k
  have hul:((noteL (noteOf (ix p0.Ins i))++[(ix p0.Ins i).Key]).flatMap (dig 8)).length=40:=by rw[kf7];simp[noteL]
  refine⟨g0,hh,by show((noteL (noteOf (ix p0.Ins i))).length+1)*8≤_;simp[noteL],by show(noteL (noteOf (ix p0.Ins i))).length+1≤_;simp[noteL,maxLen],⟨hus,by simp[noteL]⟩,rfl,?_,?_,rfl,?_,?_,rfl,?_,?_,⟨hx.pa,by omega⟩,rfl,?_,?_,fun e=>⟨rfl,ktf ⟨rfl,?_,?_,rfl,by rw[inc i p0.Ins.length g0 hh (by omega)];exact⟨⟨⟨rfl,rfl,rfl⟩,(hinv _ (by rw[if_pos e])).1⟩,(hinv 1 (by rw[if_pos e])).2⟩⟩⟩,
   fun e=>⟨rfl,ktf ⟨rfl,?_,?_,rfl,by rw[inc i p0.Ins.length g0 hh (by omega)];exact⟨⟨⟨rfl,rfl,rfl⟩,(hinv _ (by rw[if_neg (by rw[e];decide)])).1⟩,(hinv 0 (by rw[if_neg (by rw[e];decide)])).2⟩⟩⟩⟩
  all_goals
   simp only[List.length_append,kh,k9k,kx8,hul,noteOf,maxLen]at hgl hlen hul ⊢
   omega
 ·have hh:=of_decide_eq_false hh
  rw[List.take_of_length_le (by omega)]at hgl ⊢
  refine⟨rfl,by rw[kh];omega,by rw[kh];unfold maxLen;omega,rfl,?_⟩
  refine k1hi (fun i g=>0≤i∧i≤p0.Outs.length∧g=(dig 4 (len4 (p0.Ins.length:Int))++p0.Ins.flatMap encSp)++dig 4 (len4 (p0.Outs.length:Int))++(p0.Outs.take i.toNat).flatMap encN) (fun i _=>(p0.Outs.length-i).toNat) ⟨by omega,by omega,by simp⟩ ?_
  rintro i g ⟨g0,g1,rfl⟩
  have hle:=k6e encN 32 (p0.Outs.take i.toNat) fun x hx=>by rw[k9k];omega
  rw[List.length_take]at hle
  have hgl2:((dig 4 (len4 (p0.Ins.length:Int))++p0.Ins.flatMap encSp)++dig 4 (len4 (p0.Outs.length:Int))++(p0.Outs.take i.toNat).flatMap encN).length≤2000:=by
   rw[List.length_append,List.length_append,kh];omega
  refine⟨fun hh=> ?_,fun hh=> ?_⟩
  ·have hh:=of_decide_eq_true hh
   have hm:=ix_mem p0.Outs i g0 hh
   have hx1:NR (ix p0.Outs i):=h.o _ hm
   have hus:Us (noteL (ix p0.Outs i)):=by
    intro y hy
    simp only[noteL,List.mem_cons,List.not_mem_nil,or_false]at hy
    rcases hy with rfl|rfl|rfl|rfl
    ·exact hx1.v
    ·exact hx1.o
    ·exact hx1.r
    ·exact hx1.b
   have hul:((noteL (ix p0.Outs i)).flatMap (dig 8)).length=32:=by rw[kf7];simp[noteL]
   rw[inc i p0.Outs.length g0 hh (by omega)]
   refine⟨g0,hh,⟨hus,by show(noteL (ix p0.Outs i)).length≤_;simp[noteL]⟩,rfl,?_,?_,rfl,⟨by omega,by omega,?_⟩,by omega⟩
   ·show(_+((noteL (ix p0.Outs i)).flatMap (dig 8)).length)*1≤_
    omega
   ·show _+((noteL (ix p0.Outs i)).flatMap (dig 8)).length≤_
    unfold maxLen;omega
   ·rw[k16 p0.Outs i g0 hh,List.flatMap_append]
    show _++(noteL (ix p0.Outs i)).flatMap (dig 8)=_
    rw[k1a6]
    simp[List.append_assoc]
  ·have hh:=of_decide_eq_false hh
   rw[List.take_of_length_le (by omega)]at hgl2 ⊢
   have hs:Us [p0.Secret]:=by intro y hy;rw[List.mem_singleton.1 hy];exact h.s
   refine⟨⟨hs,by simp⟩,rfl,by simp only[kf7,List.length_singleton];omega,by simp only[kf7,List.length_singleton];unfold maxLen;omega,?_⟩
   simp[encW,List.append_assoc]
noncomputable def kzn:Con TB.den:=k3c.fnR (fun x=>(fun(p0:TWitness)=>WQ p0∧rightV p0=true) (TWitness.mk x.1 x.2.1 x.2.2.1)) fun x=>((fun(p0:TWitness)=>((encW p0):List Int)) (TWitness.mk x.1 x.2.1 x.2.2.1),())
theorem k1jk:kzn.Ok Try.prog TB:=Con.ok_fn k3c bd27 fun x h=>k1i9 (k1eq (TWitness.mk x.1 x.2.1 x.2.2.1) h)
def k5d:Con TB.den:=Con.mk0 37 [.agg [.d (.int .u64),.d (.int .u64),.d (.int .u64),.d (.int .u64),.d (.int .u64),.d (.int .i64),.d (.int .i64),.d (.sl (.int .u64)),.d (.bool)],.one (.d (.int .i64))] [] (.one (.one (.d (.bool)))) []
abbrev k17i:=HL TB.den (hsT k5d.ins (hsOs k5d.pre))
abbrev kne:=HL TB.den (hsV k5d.res (hsOs k5d.post))
noncomputable def kex:Cx TB:=⟨inf,[ki8,kec,kj7],[],4,[]⟩
noncomputable def km8:Code:=Try.f37.body.getD .skip
noncomputable def kr6:List ResultVar:=Try.f37.results.toList
noncomputable def k138 (o:kne):An TB:= .no
def km3 (x:k17i) (o:kne):Prop:=WPh TB kex 47 0 km8 (k138 o) (k5d.st TB x) (retTQ TB kex k5d kr6 o)
theorem k1g2 (o:kne):OblH TB kex 47 0 km8 (k138 o) (retTQ TB kex k5d kr6 o):=
 OblH.ofC (X:=True) (by kernel_rfl) trivial
theorem k1gk {x:k17i} {o:kne} (h:km3 x o):k5d.Snd Try.prog x o:=
 Con.soundH (c:=k5d) (C:=kex) TBok ⟨inf_ok,(all_cons kri (all_cons km1 (all_cons kth all_nil))),all_nil⟩ mix Try.func37 (show Try.f37.body=some km8 by kernel_rfl) (show Try.f37.ntmps=47 by kernel_rfl) (show Try.f37.results.toList=kr6 by kernel_rfl) rfl h (k1g2 o)
theorem k1ii {p0:TSpent} {p1:Int} {r0:Bool} (h:
(let r1:Bool:=(noteV (TNote.mk p0.Note_Value p0.Note_Owner p0.Note_Rho p0.Note_Blind))
(r1=true→
((decide (p0.Key<18446744069414584321))=true→
(decide (0≤p0.Number)=true→
(decide (p0.Number<4)=true→
(((p0.Path.length:Int)==p1)=true→
(p0.Path.length≤9223372036854775807)∧let r2:Bool:=(p0.Path.all (fun x=>decide (x<18446744069414584321)))
(r2=true→
(decide (0≤p0.Position)=true→
(0≤p1)∧decide (p0.Position<(ishl .i64 1 p1))=r0)∧
(decide (0≤p0.Position)=false→
 false=r0))∧
(r2=false→
 false=r0))∧
(((p0.Path.length:Int)==p1)=false→
 false=r0))∧
(decide (p0.Number<4)=false→
 false=r0))∧
(decide (0≤p0.Number)=false→
 false=r0))∧
((decide (p0.Key<18446744069414584321))=false→
 false=r0))∧
(r1=false→
 false=r0))):km3 (p0.Note_Value,p0.Note_Owner,p0.Note_Rho,p0.Note_Blind,p0.Key,p0.Number,p0.Position,p0.Path,p0.Dummy,p1,()) (r0,()):=WPh.of_eq (by kernel_rfl) h
theorem bd37:Callable Try.prog 37:=⟨by rw[Try.func37];kernel_rfl,by rw[Try.func37];show some _≠some _;decide⟩
theorem k1cp (p0:TSpent) (p1:Int) (h:p0.Path.length≤9223372036854775807):km3 (p0.Note_Value,p0.Note_Owner,p0.Note_Rho,p0.Note_Blind,p0.Key,p0.Number,p0.Position,p0.Path,p0.Dummy,p1,()) (((inpV p0 p1):Bool),()):=by
 refine k1ii ?_
 unfold inpV noteOf allB
 have e2:(((p0.Path.length:Int)==p1)=true)↔(p0.Path.length:Int)=p1:=by simp
 have e3:(decide ((p0.Path.length:Int)=p1))=((p0.Path.length:Int)==p1):=by rw[Bool.eq_iff_iff];simp
 rw[e3]
 refine⟨fun h1=> ?_,fun h1=>by rw[h1];rfl⟩
 rw[h1]
 refine⟨fun h2=> ?_,fun h2=>by rw[h2];rfl⟩
 rw[h2]
 refine⟨fun h3=> ?_,fun h3=>by rw[h3];rfl⟩
 rw[h3]
 refine⟨fun h4=> ?_,fun h4=>by rw[h4];rfl⟩
 rw[h4]
 refine⟨fun h5=> ?_,fun h5=>by rw[h5];rfl⟩
 rw[h5]
 have h5:=e2.1 h5
 refine⟨h,fun h6=> ?_,fun h6=>by rw[h6];rfl⟩
 rw[h6]
 refine⟨fun h7=> ?_,fun h7=>by rw[h7];rfl⟩
 rw[h7]
 exact⟨by omega,rfl⟩
noncomputable def k102:Con TB.den:=k5d.fnR (fun x=>(fun(p0:TSpent) (p1:Int)=>p0.Path.length≤9223372036854775807) (TSpent.mk x.1 x.2.1 x.2.2.1 x.2.2.2.1 x.2.2.2.2.1 x.2.2.2.2.2.1 x.2.2.2.2.2.2.1 x.2.2.2.2.2.2.2.1 x.2.2.2.2.2.2.2.2.1) x.2.2.2.2.2.2.2.2.2.1) fun x=>((fun(p0:TSpent) (p1:Int)=>((inpV p0 p1):Bool)) (TSpent.mk x.1 x.2.1 x.2.2.1 x.2.2.2.1 x.2.2.2.2.1 x.2.2.2.2.2.1 x.2.2.2.2.2.2.1 x.2.2.2.2.2.2.2.1 x.2.2.2.2.2.2.2.2.1) x.2.2.2.2.2.2.2.2.2.1,())
theorem k1l9:k102.Ok Try.prog TB:=Con.ok_fn k5d bd37 fun x h=>k1gk (k1cp (TSpent.mk x.1 x.2.1 x.2.2.1 x.2.2.2.1 x.2.2.2.2.1 x.2.2.2.2.2.1 x.2.2.2.2.2.2.1 x.2.2.2.2.2.2.2.1 x.2.2.2.2.2.2.2.2.1) x.2.2.2.2.2.2.2.2.2.1 h)
def k48:Con TB.den:=Con.mk0 38 [.one (.d (.sl (.st 1)))] [] (.one (.one (.d (.bool)))) []
abbrev k16i:=HL TB.den (hsT k48.ins (hsOs k48.pre))
abbrev kb8:=HL TB.den (hsV k48.res (hsOs k48.post))
noncomputable def k7u:Cx TB:=⟨inf,[ki8],[],4,[]⟩
noncomputable def kbu:Code:=Try.f38.body.getD .skip
noncomputable def kl2:List ResultVar:=Try.f38.results.toList
def k1j4 (o:kb8):=qS TB k7u 16 0 (cB (cB kbu)) .no (retTQ TB k7u k48 kl2 o)
def kco:Tm:=⟨[],[],[0,3],[.one (.d (.sl (.st 1))),.one (.d (.int .i64))],0⟩
def kew (o:kb8) (nx1:NX TB kco) (i:HL TB.den kco.hs):Prop:=WP TB k7u 16 0 (cA (cA (cB (cA (cB kbu))))) .no (kco.fill TB i) (qM TB 0 kco nx1 (blockT TB 0 (k1j4 o)))
noncomputable def k1ks (o:kb8):An TB:= .nd [] .no [] (.lp [] kco (kew o) fun nx1=> .no)
noncomputable def k149 (o:kb8):An TB:= .nd [] .no [] (.nd [] (k1ks o) [] .no)
def kmb (x:k16i) (o:kb8):Prop:=WPh TB k7u 16 0 kbu (k149 o) (k48.st TB x) (retTQ TB k7u k48 kl2 o)
theorem k1hl (o:kb8):OblH TB k7u 16 0 kbu (k149 o) (retTQ TB k7u k48 kl2 o):=
 OblH.ofC (X:=((∀nx i,(kew o) nx i=(kew o) nx i)∧(∀nx1:NX TB kco,True)∧True)) (by kernel_rfl) ⟨fun _ _=>rfl,fun _=>trivial,trivial⟩
theorem k1hx {x:k16i} {o:kb8} (h:kmb x o):k48.Snd Try.prog x o:=
 Con.soundH (c:=k48) (C:=k7u) TBok ⟨inf_ok,(all_cons kri all_nil),all_nil⟩ mix Try.func38 (show Try.f38.body=some kbu by kernel_rfl) (show Try.f38.ntmps=16 by kernel_rfl) (show Try.f38.results.toList=kl2 by kernel_rfl) rfl h (k1hl o)
theorem k1j0 {p0:List TNote} {r0:Bool} (h:
(Md.Loop (p0,(0:Int),()) (kew (r0,())))):kmb (p0,()) (r0,()):=WPh.of_eq (by kernel_rfl) h
def k12d (r0:Bool) (k1:Int→Prop) (s0:List TNote) (s3:Int):Prop:=
(decide (s3<(s0.length:Int))=true→
(0≤s3)∧s3<(s0.length:Int)∧((!(noteV (ix s0 s3)))=true→
 false=r0)∧
((!(noteV (ix s0 s3)))=false→
 k1 (IntKind.i64.wrap (s3+1):Int)))∧
(decide (s3<(s0.length:Int))=false→
 true=r0)
theorem k1i1 {r0:Bool} {s0:List TNote} {s3:Int} (inv:Int→Prop) (μ:Int→Nat) (h0:inv s3) (hs:∀(s3:Int),inv s3→k12d r0 (fun s3q=>inv s3q∧μ s3q<μ s3) s0 s3):Md.Loop (s0,s3,()) (kew (r0,())):=
 ⟨⟨fun s:(List TNote)×Int×Unit=>(s.1=s0)∧inv s.2.1,fun s:(List TNote)×Int×Unit=>μ s.2.1,⟨rfl,h0⟩,fun(s0p,s3p,()) ⟨eq0,hi⟩=>by
  have eq0:s0p=s0:=eq0;subst s0p;exact mpr_of (by kernel_rfl) ((congrArg (fun k=>k12d r0 k s0 s3p) (lpk1 (rfl:s0=s0) inv (fun s3q=>μ s3q<μ s3p))).mpr (hs s3p hi))⟩⟩
theorem bd38:Callable Try.prog 38:=⟨by rw[Try.func38];kernel_rfl,by rw[Try.func38];show some _≠some _;decide⟩
theorem k1dl (p0:List TNote) (h:p0.length≤9223372036854775807):kmb (p0,()) (((p0.all noteV):Bool),()):=by
 refine k1j0 (k1i1 (AllI noteV p0) (fun i=>(p0.length-i).toNat) AllI.start ?_)
 intro i hi
 refine⟨fun hh=> ?_,fun hh=>(hi.done (of_decide_eq_false hh)).symm⟩
 have hh:=of_decide_eq_true hh
 exact⟨hi.1,hh,fun e=>(hi.bad hh (by simpa using e)).symm,fun e=>hi.next hh (by omega) (by simpa using e)⟩
noncomputable def kz4:Con TB.den:=k48.fnR (fun x=>(fun(p0:List TNote)=>p0.length≤9223372036854775807) x.1) fun x=>((fun(p0:List TNote)=>((p0.all noteV):Bool)) x.1,())
theorem k1lz:kz4.Ok Try.prog TB:=Con.ok_fn k48 bd38 fun x h=>k1hx (k1dl x.1 h)
def k3z:Con TB.den:=Con.mk0 25 [.agg [.d (.sl (.st 0)),.d (.sl (.st 1)),.d (.int .u64)]] [] (.one (.one (.d (.bool)))) []
abbrev k16l:=HL TB.den (hsT k3z.ins (hsOs k3z.pre))
abbrev kbb:=HL TB.den (hsV k3z.res (hsOs k3z.post))
noncomputable def k83:Cx TB:=⟨inf,[kec,k102,kz4],[],4,[]⟩
noncomputable def kc3:Code:=Try.f25.body.getD .skip
noncomputable def kkb:List ResultVar:=Try.f25.results.toList
def k1kq (o:kbb):=qS TB k83 57 0 (cB (cB (cB kc3))) .no (retTQ TB k83 k3z kkb o)
def kcn:Tm:=⟨[0],[.cells [.d (.sl (.st 0)),.d (.sl (.st 1)),.d (.int .u64)]],[1,3],[.one (.ptr 0 0),.one (.d (.int .i64))],1⟩
def kfz (o:kbb) (nx1:NX TB kcn) (i:HL TB.den kcn.hs):Prop:=WP TB k83 57 0 (cA (cA (cB (cA (cB (cB kc3)))))) .no (kcn.fill TB i) (qM TB 0 kcn nx1 (blockT TB 0 (k1kq o)))
noncomputable def k1jg (o:kbb):An TB:= .nd [] .no [] (.lp [] kcn (kfz o) fun nx1=> .no)
noncomputable def k134 (o:kbb):An TB:= .nd [] .no [] (.nd [] .no [] (.nd [] (k1jg o) [] .no))
def kmp (x:k16l) (o:kbb):Prop:=WPh TB k83 57 0 kc3 (k134 o) (k3z.st TB x) (retTQ TB k83 k3z kkb o)
theorem k1ho (o:kbb):OblH TB k83 57 0 kc3 (k134 o) (retTQ TB k83 k3z kkb o):=
 OblH.ofC (X:=((∀nx i,(kfz o) nx i=(kfz o) nx i)∧(∀nx1:NX TB kcn,True)∧True)) (by kernel_rfl) ⟨fun _ _=>rfl,fun _=>trivial,trivial⟩
theorem k1hj {x:k16l} {o:kbb} (h:kmp x o):k3z.Snd Try.prog x o:=
 Con.soundH (c:=k3z) (C:=k83) TBok ⟨inf_ok,(all_cons km1 (all_cons k1l9 (all_cons k1lz all_nil))),all_nil⟩ mix Try.func25 (show Try.f25.body=some kc3 by kernel_rfl) (show Try.f25.ntmps=57 by kernel_rfl) (show Try.f25.results.toList=kkb by kernel_rfl) rfl h (k1ho o)
theorem k1k4 {p0:TWitness} {r0:Bool} (h:
((decide (4<(p0.Ins.length:Int))=true→
 false=r0)∧
(decide (4<(p0.Ins.length:Int))=false→
(decide (4<(p0.Outs.length:Int))=true→
 false=r0)∧
(decide (4<(p0.Outs.length:Int))=false→
 let r1:Bool:=(decide (p0.Secret<18446744069414584321))
((!r1)=true→
 false=r0)∧
((!r1)=false→
 Md.Loop ((0:Int),p0.Ins,p0.Outs,p0.Secret,()) (kfz (r0,()))))))):kmp (p0.Ins,p0.Outs,p0.Secret,()) (r0,()):=WPh.of_eq (by kernel_rfl) h
def k13d (r0:Bool) (k1:Int→Prop) (h0_0:List TSpent) (h0_1:List TNote) (h0_2:Int) (s3:Int):Prop:=
(decide (s3<(h0_0.length:Int))=true→
(0≤s3)∧s3<(h0_0.length:Int)∧let v2:Bool:=decide (12<(((ix h0_0 s3).Path).length:Int))
(v2=true→
 false=r0)∧
(v2=false→
(decide (((ix h0_0 s3).Position)<0)=true→
 false=r0)∧
(decide (((ix h0_0 s3).Position)<0)=false→
(decide (4096≤((ix h0_0 s3).Position))=true→
 false=r0)∧
(decide (4096≤((ix h0_0 s3).Position))=false→
((TSpent.mk ((ix h0_0 s3).Note_Value) ((ix h0_0 s3).Note_Owner) ((ix h0_0 s3).Note_Rho) ((ix h0_0 s3).Note_Blind) ((ix h0_0 s3).Key) ((ix h0_0 s3).Number) 0 ((ix h0_0 s3).Path) ((ix h0_0 s3).Dummy)).Path.length≤9223372036854775807)∧let r3:Bool:=(inpV (TSpent.mk ((ix h0_0 s3).Note_Value) ((ix h0_0 s3).Note_Owner) ((ix h0_0 s3).Note_Rho) ((ix h0_0 s3).Note_Blind) ((ix h0_0 s3).Key) ((ix h0_0 s3).Number) 0 ((ix h0_0 s3).Path) ((ix h0_0 s3).Dummy)) (((ix h0_0 s3).Path).length:Int))
((!r3)=true→
 false=r0)∧
((!r3)=false→
 k1 (IntKind.i64.wrap (s3+1):Int))))))∧
(decide (s3<(h0_0.length:Int))=false→
(h0_1.length≤9223372036854775807)∧(h0_1.all noteV)=r0)
theorem k1ha {r0:Bool} {h0_0:List TSpent} {h0_1:List TNote} {h0_2:Int} {s3:Int} (inv:Int→Prop) (μ:Int→Nat) (h0:inv s3) (hs:∀(s3:Int),inv s3→k13d r0 (fun s3q=>inv s3q∧μ s3q<μ s3) h0_0 h0_1 h0_2 s3):Md.Loop (s3,h0_0,h0_1,h0_2,()) (kfz (r0,())):=
 ⟨⟨fun s:Int×(List TSpent)×(List TNote)×Int×Unit=>(s.2.1=h0_0∧s.2.2.1=h0_1∧s.2.2.2.1=h0_2)∧inv s.1,fun s:Int×(List TSpent)×(List TNote)×Int×Unit=>μ s.1,⟨⟨rfl,rfl,rfl⟩,h0⟩,fun(s3p,h0_0p,h0_1p,h0_2p,()) ⟨⟨eq0,eq1,eq2⟩,hi⟩=>by
  have eq0:h0_0p=h0_0:=eq0;subst h0_0p;have eq1:h0_1p=h0_1:=eq1;subst h0_1p;have eq2:h0_2p=h0_2:=eq2;subst h0_2p;exact mpr_of (by kernel_rfl) ((congrArg (fun k=>k13d r0 k h0_0 h0_1 h0_2 s3p) (lpk1 (⟨rfl,rfl,rfl⟩:h0_0=h0_0∧h0_1=h0_1∧h0_2=h0_2) inv (fun s3q=>μ s3q<μ s3p))).mpr (hs s3p hi))⟩⟩
theorem bd25:Callable Try.prog 25:=⟨by rw[Try.func25];kernel_rfl,by rw[Try.func25];show some _≠some _;decide⟩
theorem k1e8 (p0:TWitness) (h:p0.Ins.length≤9223372036854775807∧p0.Outs.length≤9223372036854775807∧(∀x∈p0.Ins,x.Path.length≤9223372036854775807)):kmp (p0.Ins,p0.Outs,p0.Secret,()) (((rightV p0):Bool),()):=by
 obtain⟨h1,h2,h3⟩:=h
 have no:¬(p0.Ins.length≤4∧p0.Outs.length≤4∧p0.Secret<18446744069414584321∧(∀x∈p0.Ins,spendV x=true)∧∀x∈p0.Outs,noteV x=true)→false=rightV p0:=by
  intro h
  cases hr:rightV p0 with
  |false=>rfl
  |true=>exact(h (k96.1 hr)).elim
 refine k1k4 ⟨fun h=>no fun a=> ?_,fun e1=>⟨fun h=>no fun a=> ?_,fun e2=>⟨fun h=>no fun a=> ?_,fun e3=> ?_⟩⟩⟩
 ·have h:=of_decide_eq_true h;omega
 ·have h:=of_decide_eq_true h;omega
 ·rw[decide_eq_true a.2.2.1]at h;cases h
 have e1:=of_decide_eq_false e1
 have e2:=of_decide_eq_false e2
 have e3:p0.Secret<18446744069414584321:=by simpa using e3
 refine k1ha (AllI spendV p0.Ins) (fun i=>(p0.Ins.length-i).toNat) AllI.start ?_
 intro i hi
 refine⟨fun hh=> ?_,fun hh=> ?_⟩
 ·have hh:=of_decide_eq_true hh
  have hm:=ix_mem p0.Ins i hi.1 hh
  have bad:spendV (ix p0.Ins i)=false→false=rightV p0:=fun e=>no fun a=>by rw[a.2.2.2.1 _ hm]at e;cases e
  have bad2:¬(0≤(ix p0.Ins i).Position∧(ix p0.Ins i).Position≤4095∧(ix p0.Ins i).Path.length≤12)→false=rightV p0:=fun e=>bad (by
   cases hc:spendV (ix p0.Ins i)with
   |false=>rfl
   |true=>exact(e ⟨(k7i.1 hc).2.2.2.2.1,(k7i.1 hc).2.2.2.2.2.1,(k7i.1 hc).2.2.2.2.2.2.1⟩).elim)
  refine⟨hi.1,hh,fun e=>bad2 ?_,fun q1=>⟨fun e=>bad2 ?_,fun q2=>⟨fun e=>bad2 ?_,fun q3=> ?_⟩⟩⟩
  ·have e:=of_decide_eq_true e;omega
  ·have e:=of_decide_eq_true e;omega
  ·have e:=of_decide_eq_true e;omega
  have q1:=of_decide_eq_false q1
  have q2:=of_decide_eq_false q2
  have q3:=of_decide_eq_false q3
  rw[k1p5 (x:=ix p0.Ins i) (by omega) (by omega) (by omega)]
  refine⟨h3 (ix p0.Ins i) hm,fun e=>bad (by simpa using e),fun e=>hi.next hh (by omega) (by simpa using e)⟩
 ·have ha:=hi.done (of_decide_eq_false hh)
  refine⟨h2,?_⟩
  cases hn:p0.Outs.all noteV with
  |false=>exact no fun a=>by rw[List.all_eq_true.2 a.2.2.2.2]at hn;cases hn
  |true=>exact(k96.2 ⟨by omega,by omega,e3,List.all_eq_true.1 ha,List.all_eq_true.1 hn⟩).symm
noncomputable def kzd:Con TB.den:=k3z.fnR (fun x=>(fun(p0:TWitness)=>p0.Ins.length≤9223372036854775807∧p0.Outs.length≤9223372036854775807∧(∀x∈p0.Ins,x.Path.length≤9223372036854775807)) (TWitness.mk x.1 x.2.1 x.2.2.1)) fun x=>((fun(p0:TWitness)=>((rightV p0):Bool)) (TWitness.mk x.1 x.2.1 x.2.2.1),())
theorem k1jy:kzd.Ok Try.prog TB:=Con.ok_fn k3z bd25 fun x h=>k1hj (k1e8 (TWitness.mk x.1 x.2.1 x.2.2.1) h)
def k5f:Con TB.den:=Con.mk0 62 [.one (.d (.sl (.int .u64))),.one (.d (.sl (.int .u64)))] [] (.one (.one (.d (.bool)))) []
abbrev k1bx:=HL TB.den (hsT k5f.ins (hsOs k5f.pre))
abbrev kd0:=HL TB.den (hsV k5f.res (hsOs k5f.post))
noncomputable def k9e:Cx TB:=⟨inf,[],[],4,[]⟩
noncomputable def kdk:Code:=Try.f62.body.getD .skip
noncomputable def knr:List ResultVar:=Try.f62.results.toList
def k1mw (o:kd0):=qS TB k9e 26 0 (cB (cB (cB kdk))) .no (retTQ TB k9e k5f knr o)
def kdx:Tm:=⟨[],[],[0,1,5],[.one (.d (.sl (.int .u64))),.one (.d (.sl (.int .u64))),.one (.d (.int .i64))],0⟩
def khq (o:kd0) (nx1:NX TB kdx) (i:HL TB.den kdx.hs):Prop:=WP TB k9e 26 0 (cA (cA (cB (cA (cB (cB kdk)))))) .no (kdx.fill TB i) (qM TB 0 kdx nx1 (blockT TB 0 (k1mw o)))
noncomputable def k1mk (o:kd0):An TB:= .nd [] .no [] (.lp [] kdx (khq o) fun nx1=> .no)
noncomputable def k17a (o:kd0):An TB:= .nd [] .no [] (.nd [] .no [] (.nd [] (k1mk o) [] .no))
def kov (x:k1bx) (o:kd0):Prop:=WPh TB k9e 26 0 kdk (k17a o) (k5f.st TB x) (retTQ TB k9e k5f knr o)
theorem k1io (o:kd0):OblH TB k9e 26 0 kdk (k17a o) (retTQ TB k9e k5f knr o):=
 OblH.ofC (X:=((∀nx i,(khq o) nx i=(khq o) nx i)∧(∀nx1:NX TB kdx,True)∧True)) (by kernel_rfl) ⟨fun _ _=>rfl,fun _=>trivial,trivial⟩
theorem k1lw {x:k1bx} {o:kd0} (h:kov x o):k5f.Snd Try.prog x o:=
 Con.soundH (c:=k5f) (C:=k9e) TBok ⟨inf_ok,all_nil,all_nil⟩ mix Try.func62 (show Try.f62.body=some kdk by kernel_rfl) (show Try.f62.ntmps=26 by kernel_rfl) (show Try.f62.results.toList=knr by kernel_rfl) rfl h (k1io o)
theorem k1nd {p0:List Int} {p1:List Int} {r0:Bool} (h:
((((p0.length:Int) !=(p1.length:Int))=true→
 false=r0)∧
(((p0.length:Int) !=(p1.length:Int))=false→
 Md.Loop (p0,p1,(0:Int),()) (khq (r0,()))))):kov (p0,p1,()) (r0,()):=WPh.of_eq (by kernel_rfl) h
def k16j (r0:Bool) (k1:Int→Prop) (s0:List Int) (s1:List Int) (s5:Int):Prop:=
(decide (s5<(s0.length:Int))=true→
(0≤s5)∧s5<(s0.length:Int)∧(0≤s5)∧s5<(s1.length:Int)∧(((ix s0 s5) !=(ix s1 s5))=true→
 false=r0)∧
(((ix s0 s5) !=(ix s1 s5))=false→
 k1 (IntKind.i64.wrap (s5+1):Int)))∧
(decide (s5<(s0.length:Int))=false→
 true=r0)
theorem k1lf {r0:Bool} {s0:List Int} {s1:List Int} {s5:Int} (inv:Int→Prop) (μ:Int→Nat) (h0:inv s5) (hs:∀(s5:Int),inv s5→k16j r0 (fun s5q=>inv s5q∧μ s5q<μ s5) s0 s1 s5):Md.Loop (s0,s1,s5,()) (khq (r0,())):=
 ⟨⟨fun s:(List Int)×(List Int)×Int×Unit=>(s.1=s0∧s.2.1=s1)∧inv s.2.2.1,fun s:(List Int)×(List Int)×Int×Unit=>μ s.2.2.1,⟨⟨rfl,rfl⟩,h0⟩,fun(s0p,s1p,s5p,()) ⟨⟨eq0,eq1⟩,hi⟩=>by
  have eq0:s0p=s0:=eq0;subst s0p;have eq1:s1p=s1:=eq1;subst s1p;exact mpr_of (by kernel_rfl) ((congrArg (fun k=>k16j r0 k s0 s1 s5p) (lpk1 (⟨rfl,rfl⟩:s0=s0∧s1=s1) inv (fun s5q=>μ s5q<μ s5p))).mpr (hs s5p hi))⟩⟩
theorem bd62:Callable Try.prog 62:=⟨by rw[Try.func62];kernel_rfl,by rw[Try.func62];show some _≠some _;decide⟩
theorem k1gr (p0:List Int) (p1:List Int) (h:p0.length≤9223372036854775807∧p1.length≤9223372036854775807):kov (p0,p1,()) (((decide (p0=p1)):Bool),()):=by
 obtain⟨h1,h2⟩:=h
 have no:p0≠p1→false=decide (p0=p1):=fun h=>(decide_eq_false h).symm
 refine k1nd ⟨fun e=>no ?_,fun e=> ?_⟩
 ·rintro rfl
  simp at e
 have e:(p0.length:Int)=p1.length:=by simpa using e
 refine k1lf (fun i=>0≤i∧i≤p0.length∧p0.take i.toNat=p1.take i.toNat) (fun i=>(p0.length-i).toNat) ⟨by omega,by omega,by simp⟩ ?_
 rintro i ⟨g0,g1,g2⟩
 refine⟨fun hh=> ?_,fun hh=> ?_⟩
 ·have hh:=of_decide_eq_true hh
  refine⟨g0,hh,g0,by omega,fun e2=>no ?_,fun e2=> ?_⟩
  ·rintro rfl
   simp at e2
  ·have e2:ix p0 i=ix p1 i:=by simpa using e2
   rw[inc i p0.length g0 hh (by omega)]
   refine⟨⟨by omega,by omega,?_⟩,by omega⟩
   rw[k16 p0 i g0 hh,k16 p1 i g0 (by omega),g2,e2]
 ·have hh:=of_decide_eq_false hh
  rw[List.take_of_length_le (by omega),List.take_of_length_le (by omega)]at g2
  exact(decide_eq_true g2).symm
noncomputable def k11m:Con TB.den:=k5f.fnR (fun x=>(fun(p0:List Int) (p1:List Int)=>p0.length≤9223372036854775807∧p1.length≤9223372036854775807) x.1 x.2.1) fun x=>((fun(p0:List Int) (p1:List Int)=>((decide (p0=p1)):Bool)) x.1 x.2.1,())
theorem k1mr:k11m.Ok Try.prog TB:=Con.ok_fn k5f bd62 fun x h=>k1lw (k1gr x.1 x.2.1 h)
def k4i:Con TB.den:=Con.mk0 28 [.agg [.d (.sl (.st 0)),.d (.sl (.st 1)),.d (.int .u64)],.agg [.d (.sl (.st 0)),.d (.sl (.st 1)),.d (.int .u64)]] [] (.one (.one (.d (.bool)))) []
abbrev k1aw:=HL TB.den (hsT k4i.ins (hsOs k4i.pre))
abbrev k6w:=HL TB.den (hsV k4i.res (hsOs k4i.post))
noncomputable def k65:Cx TB:=⟨inf,[k11m],[],4,[]⟩
noncomputable def k8k:Code:=Try.f28.body.getD .skip
noncomputable def khc:List ResultVar:=Try.f28.results.toList
def k1ma (o:k6w):=qS TB k65 108 0 (cB (cB (cB (cB k8k)))) .no (retTQ TB k65 k4i khc o)
def kdz:Tm:=⟨[0,1],[.cells [.d (.sl (.st 0)),.d (.sl (.st 1)),.d (.int .u64)],.cells [.d (.sl (.st 0)),.d (.sl (.st 1)),.d (.int .u64)]],[2,3,8],[.one (.ptr 0 0),.one (.ptr 1 0),.one (.d (.int .i64))],2⟩
def khu (o:k6w) (nx2:NX TB kdz) (i:HL TB.den kdz.hs):Prop:=WP TB k65 108 0 (cA (cA (cB (cA (cB (cB (cB k8k))))))) .no (kdz.fill TB i) (qM TB 0 kdz nx2 (blockT TB 2 (k1ma o)))
noncomputable def k17g (o:k6w):An TB:= .nd [] .no [] (.lp [] kdz (khu o) fun nx2=> .no)
def k1mu (o:k6w):=qS TB k65 108 0 (cB (cB (cB k8k))) (.nd [] (k17g o) [] .no) (retTQ TB k65 k4i khc o)
def kdt:Tm:=⟨[0,1],[.cells [.d (.sl (.st 0)),.d (.sl (.st 1)),.d (.int .u64)],.cells [.d (.sl (.st 0)),.d (.sl (.st 1)),.d (.int .u64)]],[2,3,5],[.one (.ptr 0 0),.one (.ptr 1 0),.one (.d (.int .i64))],2⟩
def kht (o:k6w) (nx1:NX TB kdt) (i:HL TB.den kdt.hs):Prop:=WP TB k65 108 0 (cA (cA (cB (cA (cB (cB k8k)))))) .no (kdt.fill TB i) (qM TB 0 kdt nx1 (blockT TB 0 (k1mu o)))
noncomputable def k1m7 (o:k6w):An TB:= .nd [] .no [] (.lp [] kdt (kht o) fun nx1=> .no)
noncomputable def k1lq (o:k6w):An TB:= .nd [] .no [] (.nd [] (k1m7 o) [] (.nd [] (k17g o) [] .no))
noncomputable def k16g (o:k6w):An TB:= .nd [] .no [] (k1lq o)
def kp0 (x:k1aw) (o:k6w):Prop:=WPh TB k65 108 0 k8k (k16g o) (k4i.st TB x) (retTQ TB k65 k4i khc o)
theorem k1kx (o:k6w):OblH TB k65 108 0 k8k (k16g o) (retTQ TB k65 k4i khc o):=
 OblH.ofC (X:=((∀nx i,(kht o) nx i=(kht o) nx i)∧(∀nx1:NX TB kdt,True)∧(∀nx i,(khu o) nx i=(khu o) nx i)∧(∀nx2:NX TB kdz,True)∧True)) (by kernel_rfl) ⟨fun _ _=>rfl,fun _=>trivial,fun _ _=>rfl,fun _=>trivial,trivial⟩
theorem k1kh {x:k1aw} {o:k6w} (h:kp0 x o):k4i.Snd Try.prog x o:=
 Con.soundH (c:=k4i) (C:=k65) TBok ⟨inf_ok,(all_cons k1mr all_nil),all_nil⟩ mix Try.func28 (show Try.f28.body=some k8k by kernel_rfl) (show Try.f28.ntmps=108 by kernel_rfl) (show Try.f28.results.toList=khc by kernel_rfl) rfl h (k1kx o)
theorem k1m3 {p0:TWitness} {p1:TWitness} {r0:Bool} (h:
(let v1:Bool:=((p0.Ins.length:Int) !=(p1.Ins.length:Int))
(v1=true→
 false=r0)∧
(v1=false→
 let v2:Bool:=((p0.Outs.length:Int) !=(p1.Outs.length:Int))
(v2=true→
 false=r0)∧
(v2=false→
((p0.Secret !=p1.Secret)=true→
 false=r0)∧
((p0.Secret !=p1.Secret)=false→
 Md.Loop ((0:Int),p0.Ins,p0.Outs,p0.Secret,p1.Ins,p1.Outs,p1.Secret,()) (kht (r0,()))))))):kp0 (p0.Ins,p0.Outs,p0.Secret,p1.Ins,p1.Outs,p1.Secret,()) (r0,()):=WPh.of_eq (by kernel_rfl) h
def k178 (r0:Bool) (k1:Int→Prop) (h0_0:List TSpent) (h0_1:List TNote) (h0_2:Int) (h1_0:List TSpent) (h1_1:List TNote) (h1_2:Int) (s5:Int):Prop:=
(decide (s5<(h0_0.length:Int))=true→
(0≤s5)∧s5<(h0_0.length:Int)∧(0≤s5)∧s5<(h1_0.length:Int)∧let v3:Bool:=(!(((ix h0_0 s5).Note_Value==(ix h1_0 s5).Note_Value)&&(((ix h0_0 s5).Note_Owner==(ix h1_0 s5).Note_Owner)&&(((ix h0_0 s5).Note_Rho==(ix h1_0 s5).Note_Rho)&&(((ix h0_0 s5).Note_Blind==(ix h1_0 s5).Note_Blind)&&true)))))
(v3=true→
 false=r0)∧
(v3=false→
 let v4:Bool:=(((ix h0_0 s5).Key) !=((ix h1_0 s5).Key))
(v4=true→
 false=r0)∧
(v4=false→
 let v5:Bool:=(((ix h0_0 s5).Number) !=((ix h1_0 s5).Number))
(v5=true→
 false=r0)∧
(v5=false→
 let v6:Bool:=(((ix h0_0 s5).Position) !=((ix h1_0 s5).Position))
(v6=true→
 false=r0)∧
(v6=false→
 let v7:Bool:=(!((ix h0_0 s5).Dummy==(ix h1_0 s5).Dummy))
(v7=true→
 false=r0)∧
(v7=false→
(((ix h0_0 s5).Path).length≤9223372036854775807∧((ix h1_0 s5).Path).length≤9223372036854775807)∧let r8:Bool:=(decide (((ix h0_0 s5).Path)=((ix h1_0 s5).Path)))
((!r8)=true→
 false=r0)∧
((!r8)=false→
 k1 (IntKind.i64.wrap (s5+1):Int))))))))∧
(decide (s5<(h0_0.length:Int))=false→
 Md.Loop ((0:Int),h0_0,h0_1,h0_2,h1_0,h1_1,h1_2,()) (khu (r0,())))
theorem k1ke {r0:Bool} {h0_0:List TSpent} {h0_1:List TNote} {h0_2:Int} {h1_0:List TSpent} {h1_1:List TNote} {h1_2:Int} {s5:Int} (inv:Int→Prop) (μ:Int→Nat) (h0:inv s5) (hs:∀(s5:Int),inv s5→k178 r0 (fun s5q=>inv s5q∧μ s5q<μ s5) h0_0 h0_1 h0_2 h1_0 h1_1 h1_2 s5):Md.Loop (s5,h0_0,h0_1,h0_2,h1_0,h1_1,h1_2,()) (kht (r0,())):=
 ⟨⟨fun s:Int×(List TSpent)×(List TNote)×Int×(List TSpent)×(List TNote)×Int×Unit=>(s.2.1=h0_0∧s.2.2.1=h0_1∧s.2.2.2.1=h0_2∧s.2.2.2.2.1=h1_0∧s.2.2.2.2.2.1=h1_1∧s.2.2.2.2.2.2.1=h1_2)∧inv s.1,fun s:Int×(List TSpent)×(List TNote)×Int×(List TSpent)×(List TNote)×Int×Unit=>μ s.1,⟨⟨rfl,rfl,rfl,rfl,rfl,rfl⟩,h0⟩,fun(s5p,h0_0p,h0_1p,h0_2p,h1_0p,h1_1p,h1_2p,()) ⟨⟨eq0,eq1,eq2,eq3,eq4,eq5⟩,hi⟩=>by
  have eq0:h0_0p=h0_0:=eq0;subst h0_0p;have eq1:h0_1p=h0_1:=eq1;subst h0_1p;have eq2:h0_2p=h0_2:=eq2;subst h0_2p;have eq3:h1_0p=h1_0:=eq3;subst h1_0p;have eq4:h1_1p=h1_1:=eq4;subst h1_1p;have eq5:h1_2p=h1_2:=eq5;subst h1_2p;exact mpr_of (by kernel_rfl) ((congrArg (fun k=>k178 r0 k h0_0 h0_1 h0_2 h1_0 h1_1 h1_2 s5p) (lpk1 (⟨rfl,rfl,rfl,rfl,rfl,rfl⟩:h0_0=h0_0∧h0_1=h0_1∧h0_2=h0_2∧h1_0=h1_0∧h1_1=h1_1∧h1_2=h1_2) inv (fun s5q=>μ s5q<μ s5p))).mpr (hs s5p hi))⟩⟩
def k16w (r0:Bool) (k2:Int→Prop) (h0_0:List TSpent) (h0_1:List TNote) (h0_2:Int) (h1_0:List TSpent) (h1_1:List TNote) (h1_2:Int) (s8:Int):Prop:=
(decide (s8<(h0_1.length:Int))=true→
(0≤s8)∧s8<(h0_1.length:Int)∧(0≤s8)∧s8<(h1_1.length:Int)∧let v9:Bool:=(!(((ix h0_1 s8).Value==(ix h1_1 s8).Value)&&(((ix h0_1 s8).Owner==(ix h1_1 s8).Owner)&&(((ix h0_1 s8).Rho==(ix h1_1 s8).Rho)&&(((ix h0_1 s8).Blind==(ix h1_1 s8).Blind)&&true)))))
(v9=true→
 false=r0)∧
(v9=false→
 k2 (IntKind.i64.wrap (s8+1):Int)))∧
(decide (s8<(h0_1.length:Int))=false→
 true=r0)
theorem k1lo {r0:Bool} {h0_0:List TSpent} {h0_1:List TNote} {h0_2:Int} {h1_0:List TSpent} {h1_1:List TNote} {h1_2:Int} {s8:Int} (inv:Int→Prop) (μ:Int→Nat) (h0:inv s8) (hs:∀(s8:Int),inv s8→k16w r0 (fun s8q=>inv s8q∧μ s8q<μ s8) h0_0 h0_1 h0_2 h1_0 h1_1 h1_2 s8):Md.Loop (s8,h0_0,h0_1,h0_2,h1_0,h1_1,h1_2,()) (khu (r0,())):=
 ⟨⟨fun s:Int×(List TSpent)×(List TNote)×Int×(List TSpent)×(List TNote)×Int×Unit=>(s.2.1=h0_0∧s.2.2.1=h0_1∧s.2.2.2.1=h0_2∧s.2.2.2.2.1=h1_0∧s.2.2.2.2.2.1=h1_1∧s.2.2.2.2.2.2.1=h1_2)∧inv s.1,fun s:Int×(List TSpent)×(List TNote)×Int×(List TSpent)×(List TNote)×Int×Unit=>μ s.1,⟨⟨rfl,rfl,rfl,rfl,rfl,rfl⟩,h0⟩,fun(s8p,h0_0p,h0_1p,h0_2p,h1_0p,h1_1p,h1_2p,()) ⟨⟨eq0,eq1,eq2,eq3,eq4,eq5⟩,hi⟩=>by
  have eq0:h0_0p=h0_0:=eq0;subst h0_0p;have eq1:h0_1p=h0_1:=eq1;subst h0_1p;have eq2:h0_2p=h0_2:=eq2;subst h0_2p;have eq3:h1_0p=h1_0:=eq3;subst h1_0p;have eq4:h1_1p=h1_1:=eq4;subst h1_1p;have eq5:h1_2p=h1_2:=eq5;subst h1_2p;exact mpr_of (by kernel_rfl) ((congrArg (fun k=>k16w r0 k h0_0 h0_1 h0_2 h1_0 h1_1 h1_2 s8p) (lpk1 (⟨rfl,rfl,rfl,rfl,rfl,rfl⟩:h0_0=h0_0∧h0_1=h0_1∧h0_2=h0_2∧h1_0=h1_0∧h1_1=h1_1∧h1_2=h1_2) inv (fun s8q=>μ s8q<μ s8p))).mpr (hs s8p hi))⟩⟩
theorem bd28:Callable Try.prog 28:=⟨by rw[Try.func28];kernel_rfl,by rw[Try.func28];show some _≠some _;decide⟩
theorem k1g1 (p0:TWitness) (p1:TWitness) (h:WQ p0∧WQ p1):kp0 (p0.Ins,p0.Outs,p0.Secret,p1.Ins,p1.Outs,p1.Secret,()) (((sameW p0 p1):Bool),()):=by
 obtain⟨h1,h2⟩:=h
 have no:p0≠p1→false=sameW p0 p1:=fun h=>by
  cases hc:sameW p0 p1 with
  |false=>rfl
  |true=>exact(h (k1fv.1 hc)).elim
 refine k1m3 ⟨fun e=>no ?_,fun e1=>⟨fun e=>no ?_,fun e2=>⟨fun e=>no ?_,fun e3=> ?_⟩⟩⟩
 ·rintro rfl
  simp at e
 ·rintro rfl
  simp at e
 ·rintro rfl
  simp at e
 have e1:(p0.Ins.length:Int)=p1.Ins.length:=by simpa using e1
 have e2:(p0.Outs.length:Int)=p1.Outs.length:=by simpa using e2
 have e3:p0.Secret=p1.Secret:=by simpa using e3
 have hil:=h1.il
 have hol:=h1.ol
 refine k1ke (fun i=>0≤i∧i≤p0.Ins.length∧p0.Ins.take i.toNat=p1.Ins.take i.toNat) (fun i=>(p0.Ins.length-i).toNat) ⟨by omega,by omega,by simp⟩ ?_
 rintro i ⟨g0,g1,g2⟩
 refine⟨fun hh=> ?_,fun hh=> ?_⟩
 ·have hh:=of_decide_eq_true hh
  have hm1:=ix_mem p0.Ins i g0 hh
  have hm2:=ix_mem p1.Ins i g0 (by omega)
  refine⟨g0,hh,g0,by omega,fun e=>no ?_,fun a1=>⟨fun e=>no ?_,fun a2=>⟨fun e=>no ?_,fun a3=>⟨fun e=>no ?_,fun a4=>⟨fun e=>no ?_,fun a5=>⟨⟨(h1.i _ hm1).pl,(h2.i _ hm2).pl⟩,fun e=>no ?_,fun a6=> ?_⟩⟩⟩⟩⟩⟩
  ·rintro rfl;simp at e
  ·rintro rfl;simp at e
  ·rintro rfl;simp at e
  ·rintro rfl;simp at e
  ·rintro rfl;simp at e
  ·rintro rfl;simp at e
  ·rw[inc i p0.Ins.length g0 hh (by omega)]
   refine⟨⟨by omega,by omega,?_⟩,by omega⟩
   rw[k16 p0.Ins i g0 hh,k16 p1.Ins i g0 (by omega),g2]
   congr 2
   generalize ix p0.Ins i=x at *
   generalize ix p1.Ins i=y at *
   cases x;cases y
   simp_all
 ·have hh:=of_decide_eq_false hh
  rw[List.take_of_length_le (by omega),List.take_of_length_le (by omega)]at g2
  refine k1lo (fun i=>0≤i∧i≤p0.Outs.length∧p0.Outs.take i.toNat=p1.Outs.take i.toNat) (fun i=>(p0.Outs.length-i).toNat) ⟨by omega,by omega,by simp⟩ ?_
  rintro k ⟨k0,k1,k2⟩
  refine⟨fun hh=> ?_,fun hh=> ?_⟩
  ·have hh:=of_decide_eq_true hh
   refine⟨k0,hh,k0,by omega,fun e=>no ?_,fun a1=> ?_⟩
   ·rintro rfl;simp at e
   ·rw[inc k p0.Outs.length k0 hh (by omega)]
    refine⟨⟨by omega,by omega,?_⟩,by omega⟩
    rw[k16 p0.Outs k k0 hh,k16 p1.Outs k k0 (by omega),k2]
    congr 2
    generalize ix p0.Outs k=x at *
    generalize ix p1.Outs k=y at *
    cases x;cases y
    simp_all
  ·have hh:=of_decide_eq_false hh
   rw[List.take_of_length_le (by omega),List.take_of_length_le (by omega)]at k2
   refine(k1fv.2 ?_).symm
   cases p0;cases p1
   simp_all
noncomputable def k14f:Con TB.den:=k4i.fnR (fun x=>(fun(p0:TWitness) (p1:TWitness)=>WQ p0∧WQ p1) (TWitness.mk x.1 x.2.1 x.2.2.1) (TWitness.mk x.2.2.2.1 x.2.2.2.2.1 x.2.2.2.2.2.1)) fun x=>((fun(p0:TWitness) (p1:TWitness)=>((sameW p0 p1):Bool)) (TWitness.mk x.1 x.2.1 x.2.2.1) (TWitness.mk x.2.2.2.1 x.2.2.2.2.1 x.2.2.2.2.2.1),())
theorem k1m9:k14f.Ok Try.prog TB:=Con.ok_fn k4i bd28 fun x h=>k1kh (k1g1 (TWitness.mk x.1 x.2.1 x.2.2.1) (TWitness.mk x.2.2.2.1 x.2.2.2.2.1 x.2.2.2.2.2.1) h)
def k4h:Con TB.den:=Con.mk0 9 [.agg [.d (.int .i64),.d (.int .u64),.d (.sl (.int .u64)),.d (.sl (.int .u64)),.d (.sl (.int .u64)),.d (.int .u64),.d (.int .u64),.d (.int .u64),.d (.int .u64),.d (.int .u64)],.agg [.d (.sl (.st 0)),.d (.sl (.st 1)),.d (.int .u64)]] [] (.one (.one (.d (.bool)))) []
abbrev k17d:=HL TB.den (hsT k4h.ins (hsOs k4h.pre))
abbrev kb3:=HL TB.den (hsV k4h.res (hsOs k4h.post))
noncomputable def k7y:Cx TB:=⟨inf,[],[],4,[]⟩
noncomputable def kcg:Code:=Try.f9.body.getD .skip
noncomputable def kk2:List ResultVar:=Try.f9.results.toList
def k1jp (o:kb3):=qS TB k7y 49 0 (cB (cB (cB kcg))) .no (retTQ TB k7y k4h kk2 o)
def kck:Tm:=⟨[1],[.cells [.d (.sl (.st 0)),.d (.sl (.st 1)),.d (.int .u64)]],[3,5],[.one (.ptr 0 0),.one (.d (.int .i64))],2⟩
def kf5 (o:kb3) (nx1:NX TB kck) (i:HL TB.den kck.hs):Prop:=WP TB k7y 49 0 (cA (cA (cB (cA (cB (cB kcg)))))) .no (kck.fill TB i) (qM TB 0 kck nx1 (blockT TB 0 (k1jp o)))
noncomputable def k1kl (o:kb3):An TB:= .nd [] .no [] (.lp [] kck (kf5 o) fun nx1=> .no)
noncomputable def k11n (o:kb3):An TB:= .nd [] .no [] (.nd [] .no [] (.nd [] (k1kl o) [] .no))
def km4 (x:k17d) (o:kb3):Prop:=WPh TB k7y 49 0 kcg (k11n o) (k4h.st TB x) (retTQ TB k7y k4h kk2 o)
theorem k1gq (o:kb3):OblH TB k7y 49 0 kcg (k11n o) (retTQ TB k7y k4h kk2 o):=
 OblH.ofC (X:=((∀nx i,(kf5 o) nx i=(kf5 o) nx i)∧(∀nx1:NX TB kck,True)∧True)) (by kernel_rfl) ⟨fun _ _=>rfl,fun _=>trivial,trivial⟩
theorem k1i6 {x:k17d} {o:kb3} (h:km4 x o):k4h.Snd Try.prog x o:=
 Con.soundH (c:=k4h) (C:=k7y) TBok ⟨inf_ok,all_nil,all_nil⟩ mix Try.func9 (show Try.f9.body=some kcg by kernel_rfl) (show Try.f9.ntmps=49 by kernel_rfl) (show Try.f9.results.toList=kk2 by kernel_rfl) rfl h (k1gq o)
theorem k1l2 {p0:TStatement} {p1:TWitness} {r0:Bool} (h:
((decide (8<(p0.Marks.length:Int))=true→
 false=r0)∧
(decide (8<(p0.Marks.length:Int))=false→
(decide (8<(p0.Commits.length:Int))=true→
 false=r0)∧
(decide (8<(p0.Commits.length:Int))=false→
(decide (8<(p0.Rhos.length:Int))=true→
 false=r0)∧
(decide (8<(p0.Rhos.length:Int))=false→
(decide (8<(p1.Ins.length:Int))=true→
 false=r0)∧
(decide (8<(p1.Ins.length:Int))=false→
(decide (8<(p1.Outs.length:Int))=true→
 false=r0)∧
(decide (8<(p1.Outs.length:Int))=false→
 Md.Loop ((0:Int),p1.Ins,p1.Outs,p1.Secret,()) (kf5 (r0,()))))))))):km4 (p0.Depth,p0.Anchor,p0.Marks,p0.Commits,p0.Rhos,p0.Deposit,p0.Withdraw,p0.Fee,p0.Account,p0.Bind,p1.Ins,p1.Outs,p1.Secret,()) (r0,()):=WPh.of_eq (by kernel_rfl) h
def k124 (r0:Bool) (k1:Int→Prop) (h1_0:List TSpent) (h1_1:List TNote) (h1_2:Int) (s5:Int):Prop:=
(decide (s5<(h1_0.length:Int))=true→
(0≤s5)∧s5<(h1_0.length:Int)∧let v1:Bool:=decide (20<(((ix h1_0 s5).Path).length:Int))
(v1=true→
 false=r0)∧
(v1=false→
 k1 (IntKind.i64.wrap (s5+1):Int)))∧
(decide (s5<(h1_0.length:Int))=false→
 true=r0)
theorem k1hg {r0:Bool} {h1_0:List TSpent} {h1_1:List TNote} {h1_2:Int} {s5:Int} (inv:Int→Prop) (μ:Int→Nat) (h0:inv s5) (hs:∀(s5:Int),inv s5→k124 r0 (fun s5q=>inv s5q∧μ s5q<μ s5) h1_0 h1_1 h1_2 s5):Md.Loop (s5,h1_0,h1_1,h1_2,()) (kf5 (r0,())):=
 ⟨⟨fun s:Int×(List TSpent)×(List TNote)×Int×Unit=>(s.2.1=h1_0∧s.2.2.1=h1_1∧s.2.2.2.1=h1_2)∧inv s.1,fun s:Int×(List TSpent)×(List TNote)×Int×Unit=>μ s.1,⟨⟨rfl,rfl,rfl⟩,h0⟩,fun(s5p,h1_0p,h1_1p,h1_2p,()) ⟨⟨eq0,eq1,eq2⟩,hi⟩=>by
  have eq0:h1_0p=h1_0:=eq0;subst h1_0p;have eq1:h1_1p=h1_1:=eq1;subst h1_1p;have eq2:h1_2p=h1_2:=eq2;subst h1_2p;exact mpr_of (by kernel_rfl) ((congrArg (fun k=>k124 r0 k h1_0 h1_1 h1_2 s5p) (lpk1 (⟨rfl,rfl,rfl⟩:h1_0=h1_0∧h1_1=h1_1∧h1_2=h1_2) inv (fun s5q=>μ s5q<μ s5p))).mpr (hs s5p hi))⟩⟩
theorem bd9:Callable Try.prog 9:=⟨by rw[Try.func9];kernel_rfl,by rw[Try.func9];show some _≠some _;decide⟩
theorem k1e9 (p0:TStatement) (p1:TWitness) (h:p1.Ins.length≤9223372036854775807):km4 (p0.Depth,p0.Anchor,p0.Marks,p0.Commits,p0.Rhos,p0.Deposit,p0.Withdraw,p0.Fee,p0.Account,p0.Bind,p1.Ins,p1.Outs,p1.Secret,()) (((smallW p0 p1):Bool),()):=by
 have no:¬(p0.Marks.length≤8∧p0.Commits.length≤8∧p0.Rhos.length≤8∧p1.Ins.length≤8∧p1.Outs.length≤8∧∀x∈p1.Ins,x.Path.length≤20)→false=smallW p0 p1:=by
  intro h
  cases hr:smallW p0 p1 with
  |false=>rfl
  |true=>exact(h (kxh.1 hr)).elim
 refine k1l2 ⟨fun h=>no fun a=> ?_,fun h1=>⟨fun h=>no fun a=> ?_,fun h2=>⟨fun h=>no fun a=> ?_,fun h3=>⟨fun h=>no fun a=> ?_,fun h4=>⟨fun h=>no fun a=> ?_,fun h5=> ?_⟩⟩⟩⟩⟩
 ·have h:=of_decide_eq_true h;omega
 ·have h:=of_decide_eq_true h;omega
 ·have h:=of_decide_eq_true h;omega
 ·have h:=of_decide_eq_true h;omega
 ·have h:=of_decide_eq_true h;omega
 have h1:=of_decide_eq_false h1
 have h2:=of_decide_eq_false h2
 have h3:=of_decide_eq_false h3
 have h4:=of_decide_eq_false h4
 have h5:=of_decide_eq_false h5
 refine k1hg (AllI (fun x=>decide (x.Path.length≤20)) p1.Ins) (fun i=>(p1.Ins.length-i).toNat) AllI.start ?_
 intro i hi
 refine⟨fun hh=> ?_,fun hh=> ?_⟩
 ·have hh:=of_decide_eq_true hh
  refine⟨hi.1,hh,fun e=>no fun a=> ?_,fun e=>hi.next hh (by omega) ?_⟩
  ·have:=a.2.2.2.2.2 _ (ix_mem p1.Ins i hi.1 hh)
   have e:=of_decide_eq_true e
   omega
  ·have e:=of_decide_eq_false e
   apply decide_eq_true
   omega
 ·have ha:=hi.done (of_decide_eq_false hh)
  exact(kxh.2 ⟨by omega,by omega,by omega,by omega,by omega,by simpa using ha⟩).symm
noncomputable def kzt:Con TB.den:=k4h.fnR (fun x=>(fun(p0:TStatement) (p1:TWitness)=>p1.Ins.length≤9223372036854775807) (TStatement.mk x.1 x.2.1 x.2.2.1 x.2.2.2.1 x.2.2.2.2.1 x.2.2.2.2.2.1 x.2.2.2.2.2.2.1 x.2.2.2.2.2.2.2.1 x.2.2.2.2.2.2.2.2.1 x.2.2.2.2.2.2.2.2.2.1) (TWitness.mk x.2.2.2.2.2.2.2.2.2.2.1 x.2.2.2.2.2.2.2.2.2.2.2.1 x.2.2.2.2.2.2.2.2.2.2.2.2.1)) fun x=>((fun(p0:TStatement) (p1:TWitness)=>((smallW p0 p1):Bool)) (TStatement.mk x.1 x.2.1 x.2.2.1 x.2.2.2.1 x.2.2.2.2.1 x.2.2.2.2.2.1 x.2.2.2.2.2.2.1 x.2.2.2.2.2.2.2.1 x.2.2.2.2.2.2.2.2.1 x.2.2.2.2.2.2.2.2.2.1) (TWitness.mk x.2.2.2.2.2.2.2.2.2.2.1 x.2.2.2.2.2.2.2.2.2.2.2.1 x.2.2.2.2.2.2.2.2.2.2.2.2.1),())
theorem k1j8:kzt.Ok Try.prog TB:=Con.ok_fn k4h bd9 fun x h=>k1i6 (k1e9 (TStatement.mk x.1 x.2.1 x.2.2.1 x.2.2.2.1 x.2.2.2.2.1 x.2.2.2.2.2.1 x.2.2.2.2.2.2.1 x.2.2.2.2.2.2.2.1 x.2.2.2.2.2.2.2.2.1 x.2.2.2.2.2.2.2.2.2.1) (TWitness.mk x.2.2.2.2.2.2.2.2.2.2.1 x.2.2.2.2.2.2.2.2.2.2.2.1 x.2.2.2.2.2.2.2.2.2.2.2.2.1) h)
def k3k:Con TB.den:=Con.mk0 58 [.one (.ptr 0 0)] [.cells [.d (.sl (.int .u8)),.d (.int .i64),.d (.bool)]] (.one (.one (.d (.bool)))) [.cells [.d (.sl (.int .u8)),.d (.int .i64),.d (.bool)]]
abbrev kyk:=HL TB.den (hsT k3k.ins (hsOs k3k.pre))
abbrev ki2:=HL TB.den (hsV k3k.res (hsOs k3k.post))
noncomputable def kbo:Cx TB:=⟨inf,[],[],4,[]⟩
noncomputable def kiz:Code:=Try.f58.body.getD .skip
noncomputable def kls:List ResultVar:=Try.f58.results.toList
noncomputable def kwn (o:ki2):An TB:= .no
def kiu (x:kyk) (o:ki2):Prop:=WPh TB kbo 20 1 kiz (kwn o) (k3k.st TB x) (retTQ TB kbo k3k kls o)
theorem k1cc (o:ki2):OblH TB kbo 20 1 kiz (kwn o) (retTQ TB kbo k3k kls o):=
 OblH.ofC (X:=True) (by kernel_rfl) trivial
theorem k1b9 {x:kyk} {o:ki2} (h:kiu x o):k3k.Snd Try.prog x o:=
 Con.soundH (c:=k3k) (C:=kbo) TBok ⟨inf_ok,all_nil,all_nil⟩ mix Try.func58 (show Try.f58.body=some kiz by kernel_rfl) (show Try.f58.ntmps=20 by kernel_rfl) (show Try.f58.results.toList=kls by kernel_rfl) rfl h (k1cc o)
theorem k1ek {c0_0:List Int} {c0_1:Int} {c0_2:Bool} {r0:Bool} {d0_0:List Int} {d0_1:Int} {d0_2:Bool} (h:
(((!c0_2)=true→
(c0_1==(c0_0.length:Int))=r0∧c0_0=d0_0∧c0_1=d0_1∧c0_2=d0_2)∧
((!c0_2)=false→
 false=r0∧c0_0=d0_0∧c0_1=d0_1∧c0_2=d0_2))):kiu (c0_0,c0_1,c0_2,()) (r0,d0_0,d0_1,d0_2,()):=WPh.of_eq (by kernel_rfl) h
theorem bd58:Callable Try.prog 58:=⟨by rw[Try.func58];kernel_rfl,by rw[Try.func58];show some _≠some _;decide⟩
theorem k195 (c0_0:List Int) (c0_1:Int) (c0_2:Bool):kiu (c0_0,c0_1,c0_2,()) (((!c0_2&&c0_1==(c0_0.length:Int)):Bool),(c0_0:List Int),(c0_1:Int),(c0_2:Bool),()):=by
 refine k1ek ⟨fun e=>⟨by rw[e];rfl,rfl,rfl,rfl⟩,fun e=>⟨by rw[e];rfl,rfl,rfl,rfl⟩⟩
noncomputable def ktj:Con TB.den:=k3k.totR fun x=>((fun(c0_0:List Int) (c0_1:Int) (c0_2:Bool)=>((!c0_2&&c0_1==(c0_0.length:Int)):Bool)) x.1 x.2.1 x.2.2.1,(fun(c0_0:List Int) (c0_1:Int) (c0_2:Bool)=>(c0_0:List Int)) x.1 x.2.1 x.2.2.1,(fun(c0_0:List Int) (c0_1:Int) (c0_2:Bool)=>(c0_1:Int)) x.1 x.2.1 x.2.2.1,(fun(c0_0:List Int) (c0_1:Int) (c0_2:Bool)=>(c0_2:Bool)) x.1 x.2.1 x.2.2.1,())
theorem k1en:ktj.Ok Try.prog TB:=Con.ok_tot k3k bd58 fun x=>k1b9 (k195 x.1 x.2.1 x.2.2.1)
def k3i:Con TB.den:=Con.mk0 96 [.one (.ptr 0 0)] [.cells [.d (.sl (.int .u8)),.d (.int .i64),.d (.bool)]] (.one (.one (.d (.int .i64)))) [.cells [.d (.sl (.int .u8)),.d (.int .i64),.d (.bool)]]
abbrev kzz:=HL TB.den (hsT k3i.ins (hsOs k3i.pre))
abbrev ki6:=HL TB.den (hsV k3i.res (hsOs k3i.post))
noncomputable def kbx:Cx TB:=⟨inf,[],[],4,[]⟩
noncomputable def kiy:Code:=Try.f96.body.getD .skip
noncomputable def kma:List ResultVar:=Try.f96.results.toList
noncomputable def kve (o:ki6):An TB:= .no
def kis (x:kzz) (o:ki6):Prop:=WPh TB kbx 13 1 kiy (kve o) (k3i.st TB x) (retTQ TB kbx k3i kma o)
theorem k1by (o:ki6):OblH TB kbx 13 1 kiy (kve o) (retTQ TB kbx k3i kma o):=
 OblH.ofC (X:=True) (by kernel_rfl) trivial
theorem k1ay {x:kzz} {o:ki6} (h:kis x o):k3i.Snd Try.prog x o:=
 Con.soundH (c:=k3i) (C:=kbx) TBok ⟨inf_ok,all_nil,all_nil⟩ mix Try.func96 (show Try.f96.body=some kiy by kernel_rfl) (show Try.f96.ntmps=13 by kernel_rfl) (show Try.f96.results.toList=kma by kernel_rfl) rfl h (k1by o)
theorem k1d6 {c0_0:List Int} {c0_1:Int} {c0_2:Bool} {r0:Int} {d0_0:List Int} {d0_1:Int} {d0_2:Bool} (h:
(let v1:Int:=IntKind.i64.wrap ((c0_0.length:Int)-c0_1)
 v1=r0∧c0_0=d0_0∧c0_1=d0_1∧c0_2=d0_2)):kis (c0_0,c0_1,c0_2,()) (r0,d0_0,d0_1,d0_2,()):=WPh.of_eq (by kernel_rfl) h
theorem bd96:Callable Try.prog 96:=⟨by rw[Try.func96];kernel_rfl,by rw[Try.func96];show some _≠some _;decide⟩
theorem k18d (c0_0:List Int) (c0_1:Int) (c0_2:Bool) (h:(0≤c0_1∧c0_1≤c0_0.length)∧c0_0.length≤137438953472):kis (c0_0,c0_1,c0_2,()) ((((c0_0.length:Int)-c0_1):Int),(c0_0:List Int),(c0_1:Int),(c0_2:Bool),()):=by
 exact k1d6 ⟨wi _ (by omega) (by omega),rfl,rfl,rfl⟩
noncomputable def kjo:Con TB.den:=k3i.fnR (fun x=>(fun(c0_0:List Int) (c0_1:Int) (c0_2:Bool)=>(0≤c0_1∧c0_1≤c0_0.length)∧c0_0.length≤137438953472) x.1 x.2.1 x.2.2.1) fun x=>((fun(c0_0:List Int) (c0_1:Int) (c0_2:Bool)=>(((c0_0.length:Int)-c0_1):Int)) x.1 x.2.1 x.2.2.1,(fun(c0_0:List Int) (c0_1:Int) (c0_2:Bool)=>(c0_0:List Int)) x.1 x.2.1 x.2.2.1,(fun(c0_0:List Int) (c0_1:Int) (c0_2:Bool)=>(c0_1:Int)) x.1 x.2.1 x.2.2.1,(fun(c0_0:List Int) (c0_1:Int) (c0_2:Bool)=>(c0_2:Bool)) x.1 x.2.1 x.2.2.1,())
theorem kvq:kjo.Ok Try.prog TB:=Con.ok_fn k3i bd96 fun x h=>k1ay (k18d x.1 x.2.1 x.2.2.1 h)
def k1v:Con TB.den:=Con.mk0 95 [.one (.ptr 0 0),.one (.d (.int .i64))] [.cells [.d (.sl (.int .u8)),.d (.int .i64),.d (.bool)]] (.tup [.one (.d (.int .u64)),.one (.d (.bool))]) [.cells [.d (.sl (.int .u8)),.d (.int .i64),.d (.bool)]]
abbrev kt4:=HL TB.den (hsT k1v.ins (hsOs k1v.pre))
abbrev k26:=HL TB.den (hsV k1v.res (hsOs k1v.post))
noncomputable def k2b:Cx TB:=⟨inf,[kjo],[],4,[]⟩
noncomputable def k50:Code:=Try.f95.body.getD .skip
noncomputable def k9p:List ResultVar:=Try.f95.results.toList
def k18z (o:k26):=qS TB k2b 53 1 (cB (cB (cB (cB k50)))) .no (retTQ TB k2b k1v k9p o)
def k6f:Tm:=⟨[0],[.cells [.d (.sl (.int .u8)),.d (.int .i64),.d (.bool)]],[0,1,6,21,22],[.one (.ptr 0 0),.one (.d (.int .i64)),.one (.d (.int .u64)),.one (.d (.int .i64)),.one (.d (.int .i64))],1⟩
def k190 (o:k26) (nx1:NX TB k6f):=qM TB 1 k6f nx1 (blockT TB 0 (k18z o))
def ka1 (o:k26) (nx1:NX TB k6f) (i:HL TB.den k6f.hs):Prop:=WP TB k2b 53 1 (cA (cA (cB (cA (cB (cB (cB k50))))))) .no (k6f.fill TB i) (k190 o nx1)
noncomputable def kr9 (o:k26):An TB:= .nd [] .no [] (.lp [] k6f (ka1 o) fun nx1=> .no)
def k17j (o:k26):=qS TB k2b 53 1 (cB (cB k50)) (.nd [] .no [] (.nd [] (kr9 o) [] .no)) (retTQ TB k2b k1v k9p o)
def kbc:Tm:=⟨[0],[.cells [.d (.sl (.int .u8)),.d (.int .i64),.d (.bool)]],[0,1,17],[.one (.ptr 0 0),.one (.d (.int .i64)),.one (.d (.bool))],1⟩
def kq1 (o:k26) (i:HL TB.den kbc.hs):Prop:=ghs TB [] (kbc.fill TB i) fun s=>WP TB k2b 53 1 (cB (cA (cB k50))) .no s (k17j o)
structure k6g (o:k26) (i:HL TB.den kbc.hs):Prop where
 h:kq1 o i
noncomputable def k189 (o:k26):An TB:= .nd [] (.jn kbc (k6g o) [] .no [] .no) [] (.nd [] .no [] (.nd [] (kr9 o) [] .no))
noncomputable def krw (o:k26):An TB:= .nd [] .no [] (k189 o)
def kf9 (x:kt4) (o:k26):Prop:=WPh TB k2b 53 1 k50 (krw o) (k1v.st TB x) (retTQ TB k2b k1v k9p o)
theorem k169 (o:k26):OblH TB k2b 53 1 k50 (krw o) (retTQ TB k2b k1v k9p o):=
 OblH.ofC (X:=((∀i,(k6g o) i=kq1 o i)∧(∀nx i,(ka1 o) nx i=(ka1 o) nx i)∧(∀nx1:NX TB k6f,True)∧True)) (by kernel_rfl) ⟨fun _=>propext ⟨fun h=>h.1,fun h=>⟨h⟩⟩,fun _ _=>rfl,fun _=>trivial,trivial⟩
theorem k15k {x:kt4} {o:k26} (h:kf9 x o):k1v.Snd Try.prog x o:=
 Con.soundH (c:=k1v) (C:=k2b) TBok ⟨inf_ok,(all_cons kvq all_nil),all_nil⟩ mix Try.func95 (show Try.f95.body=some k50 by kernel_rfl) (show Try.f95.ntmps=53 by kernel_rfl) (show Try.f95.results.toList=k9p by kernel_rfl) rfl h (k169 o)
theorem k17k {p1:Int} {c0_0:List Int} {c0_1:Int} {c0_2:Bool} {r0:Int} {r1:Bool} {d0_0:List Int} {d0_1:Int} {d0_2:Bool} (h:
((c0_2=true→
 k6g (r0,r1,d0_0,d0_1,d0_2,()) (p1,true,c0_0,c0_1,c0_2,()))∧
(c0_2=false→
((0≤c0_1∧c0_1≤c0_0.length)∧c0_0.length≤137438953472)∧let v2:Bool:=decide (((c0_0.length:Int)-c0_1)<p1)
 k6g (r0,r1,d0_0,d0_1,d0_2,()) (p1,v2,c0_0,c0_1,c0_2,())))):kf9 (p1,c0_0,c0_1,c0_2,()) (r0,r1,d0_0,d0_1,d0_2,()):=WPh.of_eq (by kernel_rfl) h
theorem kle {r0:Int} {r1:Bool} {d0_0:List Int} {d0_1:Int} {d0_2:Bool} {s1:Int} {s17:Bool} {h0_0:List Int} {h0_1:Int} {h0_2:Bool} (h:
((s17=true→
 0=r0∧false=r1∧h0_0=d0_0∧h0_1=d0_1∧true=d0_2)∧
(s17=false→
 Md.Loop (s1,(0:Int),s1,(0:Int),h0_0,h0_1,h0_2,()) (ka1 (r0,r1,d0_0,d0_1,d0_2,()))))):k6g (r0,r1,d0_0,d0_1,d0_2,()) (s1,s17,h0_0,h0_1,h0_2,()):=⟨mpr_of (by kernel_rfl) h⟩
def krb (r0:Int) (r1:Bool) (d0_0:List Int) (d0_1:Int) (d0_2:Bool) (k1:Int→Int→Prop) (s1:Int) (s21:Int) (h0_0:List Int) (h0_1:Int) (h0_2:Bool) (s6:Int) (s22:Int):Prop:=
(decide (s22<s21)=true→
(0≤IntKind.i64.wrap (h0_1+s22))∧IntKind.i64.wrap (h0_1+s22)<(h0_0.length:Int)∧let v3:Int:=IntKind.u64.wrap (ix h0_0 (IntKind.i64.wrap (h0_1+s22)))
(0≤IntKind.i64.wrap (8*s22))∧let v4:Int:=ishl .u64 v3 (IntKind.i64.wrap (8*s22))
 k1 (ior .u64 s6 v4:Int) (IntKind.i64.wrap (s22+1):Int))∧
(decide (s22<s21)=false→
 s6=r0∧true=r1∧h0_0=d0_0∧IntKind.i64.wrap (h0_1+s1)=d0_1∧h0_2=d0_2)
theorem k15p {r0:Int} {r1:Bool} {d0_0:List Int} {d0_1:Int} {d0_2:Bool} {s1:Int} {s21:Int} {h0_0:List Int} {h0_1:Int} {h0_2:Bool} {s6:Int} {s22:Int} (inv:Int→Int→Prop) (μ:Int→Int→Nat) (h0:inv s6 s22) (hs:∀(s6:Int) (s22:Int),inv s6 s22→krb r0 r1 d0_0 d0_1 d0_2 (fun s6q s22q=>inv s6q s22q∧μ s6q s22q<μ s6 s22) s1 s21 h0_0 h0_1 h0_2 s6 s22):Md.Loop (s1,s6,s21,s22,h0_0,h0_1,h0_2,()) (ka1 (r0,r1,d0_0,d0_1,d0_2,())):=
 ⟨⟨fun s:Int×Int×Int×Int×(List Int)×Int×Bool×Unit=>(s.1=s1∧s.2.2.1=s21∧s.2.2.2.2.1=h0_0∧s.2.2.2.2.2.1=h0_1∧s.2.2.2.2.2.2.1=h0_2)∧inv s.2.1 s.2.2.2.1,fun s:Int×Int×Int×Int×(List Int)×Int×Bool×Unit=>μ s.2.1 s.2.2.2.1,⟨⟨rfl,rfl,rfl,rfl,rfl⟩,h0⟩,fun(s1p,s6p,s21p,s22p,h0_0p,h0_1p,h0_2p,()) ⟨⟨eq0,eq1,eq2,eq3,eq4⟩,hi⟩=>by
  have eq0:s1p=s1:=eq0;subst s1p;have eq1:s21p=s21:=eq1;subst s21p;have eq2:h0_0p=h0_0:=eq2;subst h0_0p;have eq3:h0_1p=h0_1:=eq3;subst h0_1p;have eq4:h0_2p=h0_2:=eq4;subst h0_2p;exact mpr_of (by kernel_rfl) ((congrArg (fun k=>krb r0 r1 d0_0 d0_1 d0_2 k s1 s21 h0_0 h0_1 h0_2 s6p s22p) (lpk2 (⟨rfl,rfl,rfl,rfl,rfl⟩:s1=s1∧s21=s21∧h0_0=h0_0∧h0_1=h0_1∧h0_2=h0_2) inv (fun s6q s22q=>μ s6q s22q<μ s6p s22p))).mpr (hs s6p s22p hi))⟩⟩
theorem bd95:Callable Try.prog 95:=⟨by rw[Try.func95];kernel_rfl,by rw[Try.func95];show some _≠some _;decide⟩
theorem k14r (p1:Int) (c0_0:List Int) (c0_1:Int) (c0_2:Bool) (h:RdOk c0_0 c0_1∧1≤p1∧p1≤8):kf9 (p1,c0_0,c0_1,c0_2,()) ((((rdD c0_0 c0_1 c0_2 p1).n):Int),(((rdD c0_0 c0_1 c0_2 p1).ok):Bool),(c0_0:List Int),(((rdD c0_0 c0_1 c0_2 p1).pos):Int),(((rdD c0_0 c0_1 c0_2 p1).fail):Bool),()):=by
 obtain⟨⟨hb,hl,h0,h1⟩,h2,h3⟩:=h
 have jf:(c0_2=true∨(c0_0.length:Int)-c0_1<p1)→k6g ((rdD c0_0 c0_1 c0_2 p1).n,(rdD c0_0 c0_1 c0_2 p1).ok,c0_0,(rdD c0_0 c0_1 c0_2 p1).pos,(rdD c0_0 c0_1 c0_2 p1).fail,()) (p1,true,c0_0,c0_1,c0_2,()):=by
  intro h
  refine kle ⟨fun _=> ?_,fun h=>by simp at h⟩
  unfold rdD
  rw[if_pos h]
  exact⟨rfl,rfl,rfl,rfl,rfl⟩
 have jt:¬(c0_2=true∨(c0_0.length:Int)-c0_1<p1)→k6g ((rdD c0_0 c0_1 c0_2 p1).n,(rdD c0_0 c0_1 c0_2 p1).ok,c0_0,(rdD c0_0 c0_1 c0_2 p1).pos,(rdD c0_0 c0_1 c0_2 p1).fail,()) (p1,false,c0_0,c0_1,c0_2,()):=by
  intro h
  refine kle ⟨fun h=>by simp at h,fun _=> ?_⟩
  have hD:rdD c0_0 c0_1 c0_2 p1=⟨val ((c0_0.drop c0_1.toNat).take p1.toNat),true,c0_1+p1,false⟩:=by unfold rdD;rw[if_neg h]
  rw[hD]
  refine k15p (fun n i=>0≤i∧i≤p1∧n=val ((c0_0.drop c0_1.toNat).take i.toNat)) (fun _ i=>(p1-i).toNat) ⟨by omega,by omega,rfl⟩ ?_
  rintro n i ⟨g0,g1,rfl⟩
  refine⟨fun hh=> ?_,fun hh=> ?_⟩
  ·have hh:=of_decide_eq_true hh
   have hlen:(((c0_0.drop c0_1.toNat).take i.toNat).length:Int)=i:=by rw[List.length_take,List.length_drop];omega
   have hix:ix c0_0 (c0_1+i)=ix (c0_0.drop c0_1.toNat) i:=by
    rw[ix_nat _ _ (by omega) (by omega),ix_nat _ _ g0 (by rw[List.length_drop];omega),List.getElem_drop]
    congr 1
    omega
   have hx:=hb _ (ix_mem c0_0 (c0_1+i) (by omega) (by omega))
   have hv:=ior_val ((c0_0.drop c0_1.toNat).take i.toNat) (ix (c0_0.drop c0_1.toNat) i) ((hb.drop _).take _) (by omega) (by rw[←hix];exact hx)
   rw[hlen]at hv
   rw[inc i p1 g0 hh (by omega),wi (c0_1+i) (by omega) (by omega),wi (8*i) (by omega) (by omega),wu (ix c0_0 (c0_1+i)) (by omega) (by omega),hix]
   simp only[hv]
   refine⟨by omega,by omega,by omega,⟨by omega,by omega,?_⟩,by omega⟩
   rw[k16 _ i g0 (by rw[List.length_drop];omega)]
  ·have hh:=of_decide_eq_false hh
   have h4:c0_2=false:=by
    cases hc:c0_2
    ·rfl
    ·exact absurd (.inl hc) h
   exact⟨by rw[show i=p1 by omega],rfl,rfl,wi _ (by omega) (by omega),h4⟩
 refine k17k ⟨fun h=>jf (.inl h),fun h=>⟨⟨⟨h0,h1⟩,hl⟩,?_⟩⟩
 by_cases hq:(c0_0.length:Int)-c0_1<p1
 ·rw[decide_eq_true hq];exact jf (.inr hq)
 ·rw[decide_eq_false hq];exact jt (by rw[h];simpa using hq)
noncomputable def kbh:Con TB.den:={k1v with R:=fun x K=>(fun(p1:Int) (c0_0:List Int) (c0_1:Int) (c0_2:Bool)=>((RdOk c0_0 c0_1∧1≤p1∧p1≤8)∧∀(v0:Int) (v1:Bool) (v3:Int) (v4:Bool),(v0=(((rdD c0_0 c0_1 c0_2 p1).n))∧v1=(((rdD c0_0 c0_1 c0_2 p1).ok))∧v3=(((rdD c0_0 c0_1 c0_2 p1).pos))∧v4=(((rdD c0_0 c0_1 c0_2 p1).fail)))→K (v0,v1,(c0_0:List Int),v3,v4,()):Prop)) x.1 x.2.1 x.2.2.1 x.2.2.2.1}
theorem kj8:kbh.Ok Try.prog TB:=⟨bd95,fun x K hx=>⟨((fun(p1:Int) (c0_0:List Int) (c0_1:Int) (c0_2:Bool)=>(((rdD c0_0 c0_1 c0_2 p1).n):Int)) x.1 x.2.1 x.2.2.1 x.2.2.2.1,(fun(p1:Int) (c0_0:List Int) (c0_1:Int) (c0_2:Bool)=>(((rdD c0_0 c0_1 c0_2 p1).ok):Bool)) x.1 x.2.1 x.2.2.1 x.2.2.2.1,(fun(p1:Int) (c0_0:List Int) (c0_1:Int) (c0_2:Bool)=>(c0_0:List Int)) x.1 x.2.1 x.2.2.1 x.2.2.2.1,(fun(p1:Int) (c0_0:List Int) (c0_1:Int) (c0_2:Bool)=>(((rdD c0_0 c0_1 c0_2 p1).pos):Int)) x.1 x.2.1 x.2.2.1 x.2.2.2.1,(fun(p1:Int) (c0_0:List Int) (c0_1:Int) (c0_2:Bool)=>(((rdD c0_0 c0_1 c0_2 p1).fail):Bool)) x.1 x.2.1 x.2.2.1 x.2.2.2.1,()),hx.2 ((fun(p1:Int) (c0_0:List Int) (c0_1:Int) (c0_2:Bool)=>((((rdD c0_0 c0_1 c0_2 p1).n)))) x.1 x.2.1 x.2.2.1 x.2.2.2.1) ((fun(p1:Int) (c0_0:List Int) (c0_1:Int) (c0_2:Bool)=>((((rdD c0_0 c0_1 c0_2 p1).ok)))) x.1 x.2.1 x.2.2.1 x.2.2.2.1) ((fun(p1:Int) (c0_0:List Int) (c0_1:Int) (c0_2:Bool)=>((((rdD c0_0 c0_1 c0_2 p1).pos)))) x.1 x.2.1 x.2.2.1 x.2.2.2.1) ((fun(p1:Int) (c0_0:List Int) (c0_1:Int) (c0_2:Bool)=>((((rdD c0_0 c0_1 c0_2 p1).fail)))) x.1 x.2.1 x.2.2.1 x.2.2.2.1) ⟨rfl,rfl,rfl,rfl⟩,k15k (k14r x.1 x.2.1 x.2.2.1 x.2.2.2.1 hx.1)⟩⟩
def k4c:Con TB.den:=Con.mk0 54 [.one (.ptr 0 0),.one (.d (.int .i64))] [.cells [.d (.sl (.int .u8)),.d (.int .i64),.d (.bool)]] (.one (.one (.d (.int .i64)))) [.cells [.d (.sl (.int .u8)),.d (.int .i64),.d (.bool)]]
abbrev k11j:=HL TB.den (hsT k4c.ins (hsOs k4c.pre))
abbrev k87:=HL TB.den (hsV k4c.res (hsOs k4c.post))
noncomputable def k76:Cx TB:=⟨inf,[kbh],[],4,[]⟩
noncomputable def kat:Code:=Try.f54.body.getD .skip
noncomputable def kia:List ResultVar:=Try.f54.results.toList
def k1hf (o:k87):=qS TB k76 25 1 (cB (cB (cB kat))) .no (retTQ TB k76 k4c kia o)
def kg5:Tm:=⟨[0],[.cells [.d (.sl (.int .u8)),.d (.int .i64),.d (.bool)]],[0,5,19],[.one (.ptr 0 0),.one (.d (.int .u64)),.one (.d (.bool))],1⟩
def kv5 (o:k87) (i:HL TB.den kg5.hs):Prop:=ghs TB [] (kg5.fill TB i) fun s=>WP TB k76 25 1 (cB (cA (cB (cB kat)))) .no s (k1hf o)
structure kdn (o:k87) (i:HL TB.den kg5.hs):Prop where
 h:kv5 o i
noncomputable def k1gu (o:k87):An TB:= .nd [] (.jn kg5 (kdn o) [] .no [] .no) [] .no
noncomputable def kzo (o:k87):An TB:= .nd [] .no [] (.nd [] .no [] (k1gu o))
def kl1 (x:k11j) (o:k87):Prop:=WPh TB k76 25 1 kat (kzo o) (k4c.st TB x) (retTQ TB k76 k4c kia o)
theorem k1ea (o:k87):OblH TB k76 25 1 kat (kzo o) (retTQ TB k76 k4c kia o):=
 OblH.ofC (X:=((∀i,(kdn o) i=kv5 o i)∧True)) (by kernel_rfl) ⟨fun _=>propext ⟨fun h=>h.1,fun h=>⟨h⟩⟩,trivial⟩
theorem k1dm {x:k11j} {o:k87} (h:kl1 x o):k4c.Snd Try.prog x o:=
 Con.soundH (c:=k4c) (C:=k76) TBok ⟨inf_ok,(all_cons kj8 all_nil),all_nil⟩ mix Try.func54 (show Try.f54.body=some kat by kernel_rfl) (show Try.f54.ntmps=25 by kernel_rfl) (show Try.f54.results.toList=kia by kernel_rfl) rfl h (k1ea o)
theorem k1gg {p1:Int} {c0_0:List Int} {c0_1:Int} {c0_2:Bool} {r0:Int} {d0_0:List Int} {d0_1:Int} {d0_2:Bool} (h:
((RdOk c0_0 c0_1∧1≤(4:Int)∧(4:Int)≤8)∧∀(r5:Int) (r6:Bool) (r7:Int) (r8:Bool),(r5=((rdD c0_0 c0_1 c0_2 (4:Int)).n)∧r6=((rdD c0_0 c0_1 c0_2 (4:Int)).ok)∧r7=((rdD c0_0 c0_1 c0_2 (4:Int)).pos)∧r8=((rdD c0_0 c0_1 c0_2 (4:Int)).fail))→((!r6)=true→
 kdn (r0,d0_0,d0_1,d0_2,()) (r5,true,c0_0,r7,r8,()))∧
((!r6)=false→
 kdn (r0,d0_0,d0_1,d0_2,()) (r5,(decide (p1<(IntKind.i64.wrap r5)):Bool),c0_0,r7,r8,())))):kl1 (p1,c0_0,c0_1,c0_2,()) (r0,d0_0,d0_1,d0_2,()):=WPh.of_eq (by kernel_rfl) h
theorem kqy {r0:Int} {d0_0:List Int} {d0_1:Int} {d0_2:Bool} {s5:Int} {s19:Bool} {h0_0:List Int} {h0_1:Int} {h0_2:Bool} (h:
((s19=true→
 0=r0∧h0_0=d0_0∧h0_1=d0_1∧true=d0_2)∧
(s19=false→
 IntKind.i64.wrap s5=r0∧h0_0=d0_0∧h0_1=d0_1∧h0_2=d0_2))):kdn (r0,d0_0,d0_1,d0_2,()) (s5,s19,h0_0,h0_1,h0_2,()):=⟨mpr_of (by kernel_rfl) h⟩
theorem bd54:Callable Try.prog 54:=⟨by rw[Try.func54];kernel_rfl,by rw[Try.func54];show some _≠some _;decide⟩
theorem k1bt (p1:Int) (c0_0:List Int) (c0_1:Int) (c0_2:Bool) (h:RdOk c0_0 c0_1):kl1 (p1,c0_0,c0_1,c0_2,()) ((((rdI c0_0 c0_1 c0_2 p1).n):Int),(c0_0:List Int),(((rdI c0_0 c0_1 c0_2 p1).pos):Int),(((rdI c0_0 c0_1 c0_2 p1).fail):Bool),()):=by
 have hn:0≤(rdD c0_0 c0_1 c0_2 4).n∧(rdD c0_0 c0_1 c0_2 4).n<4294967296:=k11s h (p:=4) (f:=c0_2) (by omega) (by omega)
 refine k1gg ⟨⟨h,by omega,by omega⟩,?_⟩
 rintro _ _ _ _ ⟨rfl,rfl,rfl,rfl⟩
 unfold rdI
 rw[wi (rdD c0_0 c0_1 c0_2 4).n (by omega) (by have:=hn.2;omega)]
 refine⟨fun e=>kqy ⟨fun _=> ?_,fun h=>by simp at h⟩,fun e=>kqy ⟨fun e2=> ?_,fun e2=> ?_⟩⟩
 ·have e:(rdD c0_0 c0_1 c0_2 4).ok=false:=by simpa using e
  rw[e]
  exact⟨rfl,rfl,rfl,rfl⟩
 ·have e:(rdD c0_0 c0_1 c0_2 4).ok=true:=by simpa using e
  have e2:=of_decide_eq_true e2
  rw[if_pos (.inr e2)]
  exact⟨rfl,rfl,rfl,rfl⟩
 ·have e:(rdD c0_0 c0_1 c0_2 4).ok=true:=by simpa using e
  have e2:=of_decide_eq_false e2
  rw[if_neg (by rw[e];simpa using e2)]
  exact⟨wi _ (by omega) (by have:=hn.2;omega),rfl,rfl,rfl⟩
noncomputable def kn9:Con TB.den:={k4c with R:=fun x K=>(fun(p1:Int) (c0_0:List Int) (c0_1:Int) (c0_2:Bool)=>((RdOk c0_0 c0_1)∧∀(v0:Int) (v2:Int) (v3:Bool),(v0=(((rdI c0_0 c0_1 c0_2 p1).n))∧v2=(((rdI c0_0 c0_1 c0_2 p1).pos))∧v3=(((rdI c0_0 c0_1 c0_2 p1).fail)))→K (v0,(c0_0:List Int),v2,v3,()):Prop)) x.1 x.2.1 x.2.2.1 x.2.2.2.1}
theorem kz8:kn9.Ok Try.prog TB:=⟨bd54,fun x K hx=>⟨((fun(p1:Int) (c0_0:List Int) (c0_1:Int) (c0_2:Bool)=>(((rdI c0_0 c0_1 c0_2 p1).n):Int)) x.1 x.2.1 x.2.2.1 x.2.2.2.1,(fun(p1:Int) (c0_0:List Int) (c0_1:Int) (c0_2:Bool)=>(c0_0:List Int)) x.1 x.2.1 x.2.2.1 x.2.2.2.1,(fun(p1:Int) (c0_0:List Int) (c0_1:Int) (c0_2:Bool)=>(((rdI c0_0 c0_1 c0_2 p1).pos):Int)) x.1 x.2.1 x.2.2.1 x.2.2.2.1,(fun(p1:Int) (c0_0:List Int) (c0_1:Int) (c0_2:Bool)=>(((rdI c0_0 c0_1 c0_2 p1).fail):Bool)) x.1 x.2.1 x.2.2.1 x.2.2.2.1,()),hx.2 ((fun(p1:Int) (c0_0:List Int) (c0_1:Int) (c0_2:Bool)=>((((rdI c0_0 c0_1 c0_2 p1).n)))) x.1 x.2.1 x.2.2.1 x.2.2.2.1) ((fun(p1:Int) (c0_0:List Int) (c0_1:Int) (c0_2:Bool)=>((((rdI c0_0 c0_1 c0_2 p1).pos)))) x.1 x.2.1 x.2.2.1 x.2.2.2.1) ((fun(p1:Int) (c0_0:List Int) (c0_1:Int) (c0_2:Bool)=>((((rdI c0_0 c0_1 c0_2 p1).fail)))) x.1 x.2.1 x.2.2.1 x.2.2.2.1) ⟨rfl,rfl,rfl⟩,k1dm (k1bt x.1 x.2.1 x.2.2.1 x.2.2.2.1 hx.1)⟩⟩
def k2m:Con TB.den:=Con.mk0 57 [.one (.ptr 0 0),.one (.d (.int .i64)),.one (.d (.int .u64))] [.cells [.d (.sl (.int .u8)),.d (.int .i64),.d (.bool)]] (.one (.one (.d (.sl (.int .u64))))) [.cells [.d (.sl (.int .u8)),.d (.int .i64),.d (.bool)]]
abbrev kyz:=HL TB.den (hsT k2m.ins (hsOs k2m.pre))
abbrev k37:=HL TB.den (hsV k2m.res (hsOs k2m.post))
noncomputable def k3h:Cx TB:=⟨inf,[kn9,kjo,kbh],[],4,[]⟩
noncomputable def k6d:Code:=Try.f57.body.getD .skip
noncomputable def kbr:List ResultVar:=Try.f57.results.toList
def k1es (o:k37):=qS TB k3h 53 1 (cB (cB (cB (cB (cB k6d))))) (.nd [] .no [] (.rt [.frz 1 [6]])) (retTQ TB k3h k2m kbr o)
def k9j:Tm:=⟨[0,1],[.cells [.d (.sl (.int .u8)),.d (.int .i64),.d (.bool)],.vec (.int .u64)],[0,2,8,30,31],[.one (.ptr 0 0),.one (.d (.int .u64)),.one (.row 1),.one (.d (.int .i64)),.one (.d (.int .i64))],2⟩
def kc2 (o:k37) (nx1:NX TB k9j) (i:HL TB.den k9j.hs):Prop:=WP TB k3h 53 1 (cA (cA (cB (cA (cB (cB (cB (cB k6d)))))))) .no (k9j.fill TB i) (qM TB 1 k9j nx1 (blockT TB 0 (k1es o)))
noncomputable def k1ef (o:k37):An TB:= .nd [] .no [] (.lp [] k9j (kc2 o) fun nx1=> .no)
noncomputable def kwr (o:k37):An TB:= .nd [] (k1ef o) [] (.nd [] .no [] (.rt [.frz 1 [6]]))
def k1dc (o:k37):=qS TB k3h 53 1 (cB (cB (cB k6d))) (.nd [] .no [] (kwr o)) (retTQ TB k3h k2m kbr o)
def keg:Tm:=⟨[0],[.cells [.d (.sl (.int .u8)),.d (.int .i64),.d (.bool)]],[0,2,7,23],[.one (.ptr 0 0),.one (.d (.int .u64)),.one (.d (.int .i64)),.one (.d (.bool))],1⟩
def ksv (o:k37) (i:HL TB.den keg.hs):Prop:=ghs TB [] (keg.fill TB i) fun s=>WP TB k3h 53 1 (cB (cA (cB (cB k6d)))) .no s (k1dc o)
structure k7h (o:k37) (i:HL TB.den keg.hs):Prop where
 h:ksv o i
noncomputable def k1ew (o:k37):An TB:= .nd [] (.jn keg (k7h o) [] .no [] .no) [] (.nd [] .no [] (kwr o))
noncomputable def kvc (o:k37):An TB:= .nd [] .no [] (.nd [] .no [] (k1ew o))
def kj1 (x:kyz) (o:k37):Prop:=WPh TB k3h 53 1 k6d (kvc o) (k2m.st TB x) (retTQ TB k3h k2m kbr o)
theorem k1bn (o:k37):OblH TB k3h 53 1 k6d (kvc o) (retTQ TB k3h k2m kbr o):=
 OblH.ofC (X:=((∀i,(k7h o) i=ksv o i)∧(∀nx i,(kc2 o) nx i=(kc2 o) nx i)∧(∀nx1:NX TB k9j,True)∧True)) (by kernel_rfl) ⟨fun _=>propext ⟨fun h=>h.1,fun h=>⟨h⟩⟩,fun _ _=>rfl,fun _=>trivial,trivial⟩
theorem k19o {x:kyz} {o:k37} (h:kj1 x o):k2m.Snd Try.prog x o:=
 Con.soundH (c:=k2m) (C:=k3h) TBok ⟨inf_ok,(all_cons kz8 (all_cons kvq (all_cons kj8 all_nil))),all_nil⟩ mix Try.func57 (show Try.f57.body=some k6d by kernel_rfl) (show Try.f57.ntmps=53 by kernel_rfl) (show Try.f57.results.toList=kbr by kernel_rfl) rfl h (k1bn o)
theorem k1e7 {p1:Int} {p2:Int} {c0_0:List Int} {c0_1:Int} {c0_2:Bool} {r0:List Int} {d0_0:List Int} {d0_1:Int} {d0_2:Bool} (h:
((RdOk c0_0 c0_1)∧∀(r4:Int) (r5:Int) (r6:Bool),(r4=((rdI c0_0 c0_1 c0_2 p1).n)∧r5=((rdI c0_0 c0_1 c0_2 p1).pos)∧r6=((rdI c0_0 c0_1 c0_2 p1).fail))→(r6=true→
 k7h (r0,d0_0,d0_1,d0_2,()) (p2,r4,true,c0_0,r5,r6,()))∧
(r6=false→
((0≤r5∧r5≤c0_0.length)∧c0_0.length≤137438953472)∧let v7:Int:=IntKind.i64.wrap (Int.tdiv ((c0_0.length:Int)-r5) 8)
 k7h (r0,d0_0,d0_1,d0_2,()) (p2,r4,(decide (v7<r4):Bool),c0_0,r5,r6,())))):kj1 (p1,p2,c0_0,c0_1,c0_2,()) (r0,d0_0,d0_1,d0_2,()):=WPh.of_eq (by kernel_rfl) h
theorem kpn {r0:List Int} {d0_0:List Int} {d0_1:Int} {d0_2:Bool} {s2:Int} {s7:Int} {s23:Bool} {h0_0:List Int} {h0_1:Int} {h0_2:Bool} (h:
((s23=true→
([]:List Int)=r0∧h0_0=d0_0∧h0_1=d0_1∧true=d0_2)∧
(s23=false→
 0≤s7∧s7≤s7∧(s7.toNat*8≤140737488355328)∧(s7.toNat≤maxLen)∧(s7.toNat=(List.replicate s7.toNat (0:Int)).length)∧Md.Loop (s2,((s7.toNat:Int):Int),(0:Int),h0_0,h0_1,h0_2,(List.replicate s7.toNat (0:Int):List Int),()) (kc2 (r0,d0_0,d0_1,d0_2,()))))):k7h (r0,d0_0,d0_1,d0_2,()) (s2,s7,s23,h0_0,h0_1,h0_2,()):=⟨mpr_of (by kernel_rfl) h⟩
def kv9 (r0:List Int) (d0_0:List Int) (d0_1:Int) (d0_2:Bool) (k1:Int→Int→Bool→List Int→Prop) (s2:Int) (s30:Int) (h0_0:List Int) (s31:Int) (h0_1:Int) (h0_2:Bool) (g1:List Int):Prop:=
(decide (s31<s30)=true→
(RdOk h0_0 h0_1∧1≤(8:Int)∧(8:Int)≤8)∧∀(r36:Int) (r37:Bool) (r38:Int) (r39:Bool),(r36=((rdD h0_0 h0_1 h0_2 (8:Int)).n)∧r37=((rdD h0_0 h0_1 h0_2 (8:Int)).ok)∧r38=((rdD h0_0 h0_1 h0_2 (8:Int)).pos)∧r39=((rdD h0_0 h0_1 h0_2 (8:Int)).fail))→(0≤s31∧s31<(g1.length:Int))∧(0≤s31∧s31<(g1.length:Int))∧(0≤s31∧s31<(g1.length:Int))∧(0≤s31∧s31<((g1.set s31.toNat r36).length:Int))∧let v40:Bool:=decide (s2≤(ix (g1.set s31.toNat r36) s31))
(v40=true→
([]:List Int)=r0∧h0_0=d0_0∧r38=d0_1∧true=d0_2)∧
(v40=false→
(g1.length=(g1.set s31.toNat r36).length)∧k1 (IntKind.i64.wrap (s31+1):Int) r38 r39 (g1.set s31.toNat r36:List Int)))∧
(decide (s31<s30)=false→
(g1.length=g1.length)∧g1=r0∧h0_0=d0_0∧h0_1=d0_1∧h0_2=d0_2)
theorem k1bo {r0:List Int} {d0_0:List Int} {d0_1:Int} {d0_2:Bool} {s2:Int} {s30:Int} {h0_0:List Int} {s31:Int} {h0_1:Int} {h0_2:Bool} {g1:List Int} (inv:Int→Int→Bool→List Int→Prop) (μ:Int→Int→Bool→List Int→Nat) (h0:inv s31 h0_1 h0_2 g1) (hs:∀(s31:Int) (h0_1:Int) (h0_2:Bool) (g1:List Int),inv s31 h0_1 h0_2 g1→kv9 r0 d0_0 d0_1 d0_2 (fun s31q h0_1q h0_2q g1q=>inv s31q h0_1q h0_2q g1q∧μ s31q h0_1q h0_2q g1q<μ s31 h0_1 h0_2 g1) s2 s30 h0_0 s31 h0_1 h0_2 g1):Md.Loop (s2,s30,s31,h0_0,h0_1,h0_2,g1,()) (kc2 (r0,d0_0,d0_1,d0_2,())):=
 ⟨⟨fun s:Int×Int×Int×(List Int)×Int×Bool×(List Int)×Unit=>(s.1=s2∧s.2.1=s30∧s.2.2.2.1=h0_0)∧inv s.2.2.1 s.2.2.2.2.1 s.2.2.2.2.2.1 s.2.2.2.2.2.2.1,fun s:Int×Int×Int×(List Int)×Int×Bool×(List Int)×Unit=>μ s.2.2.1 s.2.2.2.2.1 s.2.2.2.2.2.1 s.2.2.2.2.2.2.1,⟨⟨rfl,rfl,rfl⟩,h0⟩,fun(s2p,s30p,s31p,h0_0p,h0_1p,h0_2p,g1p,()) ⟨⟨eq0,eq1,eq2⟩,hi⟩=>by
  have eq0:s2p=s2:=eq0;subst s2p;have eq1:s30p=s30:=eq1;subst s30p;have eq2:h0_0p=h0_0:=eq2;subst h0_0p;exact mpr_of (by kernel_rfl) ((congrArg (fun k=>kv9 r0 d0_0 d0_1 d0_2 k s2 s30 h0_0 s31p h0_1p h0_2p g1p) (lpk4 (⟨rfl,rfl,rfl⟩:s2=s2∧s30=s30∧h0_0=h0_0) inv (fun s31q h0_1q h0_2q g1q=>μ s31q h0_1q h0_2q g1q<μ s31p h0_1p h0_2p g1p))).mpr (hs s31p h0_1p h0_2p g1p hi))⟩⟩
theorem bd57:Callable Try.prog 57:=⟨by rw[Try.func57];kernel_rfl,by rw[Try.func57];show some _≠some _;decide⟩
theorem k197 (p1:Int) (p2:Int) (c0_0:List Int) (c0_1:Int) (c0_2:Bool) (h:RdOk c0_0 c0_1∧(0≤p1∧p1≤4096)):kj1 (p1,p2,c0_0,c0_1,c0_2,()) ((((rdL c0_0 c0_1 c0_2 p1 p2).l):List Int),(c0_0:List Int),(((rdL c0_0 c0_1 c0_2 p1 p2).pos):Int),(((rdL c0_0 c0_1 c0_2 p1 p2).fail):Bool),()):=by
 obtain⟨h,hp0,hp1⟩:=h
 have hI:=rdI_ok h (f:=c0_2) (m:=p1)
 have hIn:=rdI_n h (f:=c0_2) (m:=p1) hp0
 have hb:=h.by_
 have hl:=h.len
 generalize hX:rdI c0_0 c0_1 c0_2 p1=X at *
 have jf:(X.fail=true∨((c0_0.length:Int)-X.pos)/8<X.n)→k7h ((rdL c0_0 c0_1 c0_2 p1 p2).l,c0_0,(rdL c0_0 c0_1 c0_2 p1 p2).pos,(rdL c0_0 c0_1 c0_2 p1 p2).fail,()) (p2,X.n,true,c0_0,X.pos,X.fail,()):=by
  intro hf
  refine kpn ⟨fun _=> ?_,fun h=>by simp at h⟩
  unfold rdL
  rw[hX,if_pos hf]
  exact⟨rfl,rfl,rfl,rfl⟩
 have jt:¬(X.fail=true∨((c0_0.length:Int)-X.pos)/8<X.n)→k7h ((rdL c0_0 c0_1 c0_2 p1 p2).l,c0_0,(rdL c0_0 c0_1 c0_2 p1 p2).pos,(rdL c0_0 c0_1 c0_2 p1 p2).fail,()) (p2,X.n,false,c0_0,X.pos,X.fail,()):=by
  intro hf
  have hff:X.fail=false:=by
   cases hc:X.fail
   ·rfl
   ·exact absurd (.inl hc) hf
  have hle:X.n*8≤(c0_0.length:Int)-X.pos:=by
   have:¬((c0_0.length:Int)-X.pos)/8<X.n:=fun h=>hf (.inr h)
   omega
  refine kpn ⟨fun h=>by simp at h,fun _=>⟨hIn.1,by omega,by have:=hIn.2;omega,by have:=hIn.2;unfold maxLen;omega,by simp,?_⟩⟩
  have hL:rdL c0_0 c0_1 c0_2 p1 p2=rdLs c0_0 p2 X.n.toNat X.pos []:=by unfold rdL;rw[hX,if_neg hf]
  rw[hff]
  have hnn:((X.n.toNat:Int))=X.n:=by have:=hIn.1;omega
  rw[hnn,hL]
  refine k1bo (fun i pos f g=>0≤i∧i≤X.n∧f=false∧0≤pos∧pos+(X.n-i)*8≤c0_0.length∧(g.length:Int)=X.n∧rdLs c0_0 p2 (X.n-i).toNat pos (g.take i.toNat)=rdLs c0_0 p2 X.n.toNat X.pos []) (fun i _ _ _=>(X.n-i).toNat) ⟨by omega,hIn.1,rfl,hI.pos0,by omega,by simp;have:=hIn.1;omega,by simp⟩ ?_
  rintro i pos f g ⟨g0,g1,rfl,g2,g3,g4,g5⟩
  have hok:RdOk c0_0 pos:=⟨hb,hl,g2,by omega⟩
  refine⟨fun hh=> ?_,fun hh=> ?_⟩
  ·have hh:=of_decide_eq_true hh
   have hD:rdD c0_0 pos false 8=⟨val ((c0_0.drop pos.toNat).take 8),true,pos+8,false⟩:=by unfold rdD;rw[if_neg (by simp;omega)];rfl
   have hset:ix (g.set i.toNat (val ((c0_0.drop pos.toNat).take 8))) i=val ((c0_0.drop pos.toNat).take 8):=by
    rw[ix_nat _ i g0 (by rw[List.length_set];omega)]
    simp
   have hstep:rdLs c0_0 p2 (X.n-i).toNat pos (g.take i.toNat)=if p2≤val ((c0_0.drop pos.toNat).take 8)then⟨[],pos+8,true⟩else rdLs c0_0 p2 (X.n-(i+1)).toNat (pos+8) (g.take i.toNat++[val ((c0_0.drop pos.toNat).take 8)]):=by
    rw[show(X.n-i).toNat=(X.n-(i+1)).toNat+1 by omega]
    rfl
   refine⟨⟨hok,by omega,by omega⟩,fun n1 n2 n3 n4 e=> ?_⟩
   rw[hD]at e
   obtain⟨rfl,rfl,rfl,rfl⟩:=e
   refine⟨by omega,by omega,by omega,by rw[List.length_set];omega,fun e=> ?_,fun e=>⟨by rw[List.length_set],?_⟩⟩
   ·have e:=of_decide_eq_true e
    rw[hset]at e
    rw[←g5,hstep,if_pos e]
    exact⟨rfl,rfl,rfl,rfl⟩
   ·have e:=of_decide_eq_false e
    rw[hset]at e
    rw[inc i X.n g0 hh (by have:=hIn.2;omega)]
    refine⟨⟨by omega,by omega,rfl,by show 0≤pos+8;omega,by show pos+8+(X.n-(i+1))*8≤_;omega,by rw[List.length_set];exact g4,?_⟩,by omega⟩
    rw[←g5,hstep,if_neg e]
    congr 1
    rw[k16 _ i g0 (by rw[List.length_set];omega),hset]
    congr 1
    rw[List.take_set_of_le (by omega)]
  ·have hh:=of_decide_eq_false hh
   have hi:i=X.n:=by omega
   subst hi
   rw[Int.sub_self,List.take_of_length_le (by omega)]at g5
   rw[←g5]
   exact⟨rfl,rfl,rfl,rfl,rfl⟩
 refine k1e7 ⟨h,?_⟩
 rintro _ _ _ ⟨rfl,rfl,rfl⟩
 rw[hX]
 refine⟨fun e=>jf (.inl e),fun e=>⟨⟨⟨hI.pos0,hI.pos1⟩,hl⟩,?_⟩⟩
 have:=hI.pos0
 have:=hI.pos1
 try simp only[]
 rw[tdiv_nn _ _ (by omega),wi _ (by omega) (by omega)]
 by_cases hq:((c0_0.length:Int)-X.pos)/8<X.n
 ·rw[decide_eq_true hq];exact jf (.inr hq)
 ·rw[decide_eq_false hq];exact jt (by rw[e];simpa using hq)
noncomputable def kts:Con TB.den:={k2m with R:=fun x K=>(fun(p1:Int) (p2:Int) (c0_0:List Int) (c0_1:Int) (c0_2:Bool)=>((RdOk c0_0 c0_1∧(0≤p1∧p1≤4096))∧∀(v0:List Int) (v2:Int) (v3:Bool),(v0=(((rdL c0_0 c0_1 c0_2 p1 p2).l))∧v2=(((rdL c0_0 c0_1 c0_2 p1 p2).pos))∧v3=(((rdL c0_0 c0_1 c0_2 p1 p2).fail)))→K (v0,(c0_0:List Int),v2,v3,()):Prop)) x.1 x.2.1 x.2.2.1 x.2.2.2.1 x.2.2.2.2.1}
theorem k1ck:kts.Ok Try.prog TB:=⟨bd57,fun x K hx=>⟨((fun(p1:Int) (p2:Int) (c0_0:List Int) (c0_1:Int) (c0_2:Bool)=>(((rdL c0_0 c0_1 c0_2 p1 p2).l):List Int)) x.1 x.2.1 x.2.2.1 x.2.2.2.1 x.2.2.2.2.1,(fun(p1:Int) (p2:Int) (c0_0:List Int) (c0_1:Int) (c0_2:Bool)=>(c0_0:List Int)) x.1 x.2.1 x.2.2.1 x.2.2.2.1 x.2.2.2.2.1,(fun(p1:Int) (p2:Int) (c0_0:List Int) (c0_1:Int) (c0_2:Bool)=>(((rdL c0_0 c0_1 c0_2 p1 p2).pos):Int)) x.1 x.2.1 x.2.2.1 x.2.2.2.1 x.2.2.2.2.1,(fun(p1:Int) (p2:Int) (c0_0:List Int) (c0_1:Int) (c0_2:Bool)=>(((rdL c0_0 c0_1 c0_2 p1 p2).fail):Bool)) x.1 x.2.1 x.2.2.1 x.2.2.2.1 x.2.2.2.2.1,()),hx.2 ((fun(p1:Int) (p2:Int) (c0_0:List Int) (c0_1:Int) (c0_2:Bool)=>((((rdL c0_0 c0_1 c0_2 p1 p2).l)))) x.1 x.2.1 x.2.2.1 x.2.2.2.1 x.2.2.2.2.1) ((fun(p1:Int) (p2:Int) (c0_0:List Int) (c0_1:Int) (c0_2:Bool)=>((((rdL c0_0 c0_1 c0_2 p1 p2).pos)))) x.1 x.2.1 x.2.2.1 x.2.2.2.1 x.2.2.2.2.1) ((fun(p1:Int) (p2:Int) (c0_0:List Int) (c0_1:Int) (c0_2:Bool)=>((((rdL c0_0 c0_1 c0_2 p1 p2).fail)))) x.1 x.2.1 x.2.2.1 x.2.2.2.1 x.2.2.2.2.1) ⟨rfl,rfl,rfl⟩,k19o (k197 x.1 x.2.1 x.2.2.1 x.2.2.2.1 x.2.2.2.2.1 hx.1)⟩⟩
def k3a:Con TB.den:=Con.mk0 56 [.one (.ptr 0 0),.one (.d (.int .u64))] [.cells [.d (.sl (.int .u8)),.d (.int .i64),.d (.bool)]] (.one (.one (.d (.int .u64)))) [.cells [.d (.sl (.int .u8)),.d (.int .i64),.d (.bool)]]
abbrev k100:=HL TB.den (hsT k3a.ins (hsOs k3a.pre))
abbrev k74:=HL TB.den (hsV k3a.res (hsOs k3a.post))
noncomputable def k6l:Cx TB:=⟨inf,[kbh],[],4,[]⟩
noncomputable def ka2:Code:=Try.f56.body.getD .skip
noncomputable def kgl:List ResultVar:=Try.f56.results.toList
def k1d1 (o:k74):=qS TB k6l 23 1 (cB (cB (cB ka2))) .no (retTQ TB k6l k3a kgl o)
def kef:Tm:=⟨[0],[.cells [.d (.sl (.int .u8)),.d (.int .i64),.d (.bool)]],[0,5,18],[.one (.ptr 0 0),.one (.d (.int .u64)),.one (.d (.bool))],1⟩
def ksu (o:k74) (i:HL TB.den kef.hs):Prop:=ghs TB [] (kef.fill TB i) fun s=>WP TB k6l 23 1 (cB (cA (cB (cB ka2)))) .no s (k1d1 o)
structure kcb (o:k74) (i:HL TB.den kef.hs):Prop where
 h:ksu o i
noncomputable def k1d9 (o:k74):An TB:= .nd [] (.jn kef (kcb o) [] .no [] .no) [] .no
noncomputable def kwm (o:k74):An TB:= .nd [] .no [] (.nd [] .no [] (k1d9 o))
def kil (x:k100) (o:k74):Prop:=WPh TB k6l 23 1 ka2 (kwm o) (k3a.st TB x) (retTQ TB k6l k3a kgl o)
theorem k1ad (o:k74):OblH TB k6l 23 1 ka2 (kwm o) (retTQ TB k6l k3a kgl o):=
 OblH.ofC (X:=((∀i,(kcb o) i=ksu o i)∧True)) (by kernel_rfl) ⟨fun _=>propext ⟨fun h=>h.1,fun h=>⟨h⟩⟩,trivial⟩
theorem k1bf {x:k100} {o:k74} (h:kil x o):k3a.Snd Try.prog x o:=
 Con.soundH (c:=k3a) (C:=k6l) TBok ⟨inf_ok,(all_cons kj8 all_nil),all_nil⟩ mix Try.func56 (show Try.f56.body=some ka2 by kernel_rfl) (show Try.f56.ntmps=23 by kernel_rfl) (show Try.f56.results.toList=kgl by kernel_rfl) rfl h (k1ad o)
theorem k1e4 {p1:Int} {c0_0:List Int} {c0_1:Int} {c0_2:Bool} {r0:Int} {d0_0:List Int} {d0_1:Int} {d0_2:Bool} (h:
((RdOk c0_0 c0_1∧1≤(8:Int)∧(8:Int)≤8)∧∀(r5:Int) (r6:Bool) (r7:Int) (r8:Bool),(r5=((rdD c0_0 c0_1 c0_2 (8:Int)).n)∧r6=((rdD c0_0 c0_1 c0_2 (8:Int)).ok)∧r7=((rdD c0_0 c0_1 c0_2 (8:Int)).pos)∧r8=((rdD c0_0 c0_1 c0_2 (8:Int)).fail))→((!r6)=true→
 kcb (r0,d0_0,d0_1,d0_2,()) (r5,true,c0_0,r7,r8,()))∧
((!r6)=false→
 kcb (r0,d0_0,d0_1,d0_2,()) (r5,(decide (p1<r5):Bool),c0_0,r7,r8,())))):kil (p1,c0_0,c0_1,c0_2,()) (r0,d0_0,d0_1,d0_2,()):=WPh.of_eq (by kernel_rfl) h
theorem kpe {r0:Int} {d0_0:List Int} {d0_1:Int} {d0_2:Bool} {s5:Int} {s18:Bool} {h0_0:List Int} {h0_1:Int} {h0_2:Bool} (h:
((s18=true→
 0=r0∧h0_0=d0_0∧h0_1=d0_1∧true=d0_2)∧
(s18=false→
 s5=r0∧h0_0=d0_0∧h0_1=d0_1∧h0_2=d0_2))):kcb (r0,d0_0,d0_1,d0_2,()) (s5,s18,h0_0,h0_1,h0_2,()):=⟨mpr_of (by kernel_rfl) h⟩
theorem bd56:Callable Try.prog 56:=⟨by rw[Try.func56];kernel_rfl,by rw[Try.func56];show some _≠some _;decide⟩
theorem k18w (p1:Int) (c0_0:List Int) (c0_1:Int) (c0_2:Bool) (h:RdOk c0_0 c0_1):kil (p1,c0_0,c0_1,c0_2,()) ((((rdU c0_0 c0_1 c0_2 p1).n):Int),(c0_0:List Int),(((rdU c0_0 c0_1 c0_2 p1).pos):Int),(((rdU c0_0 c0_1 c0_2 p1).fail):Bool),()):=by
 refine k1e4 ⟨⟨h,by omega,by omega⟩,?_⟩
 rintro _ _ _ _ ⟨rfl,rfl,rfl,rfl⟩
 unfold rdU
 refine⟨fun e=>kpe ⟨fun _=> ?_,fun h=>by simp at h⟩,fun e=>kpe ⟨fun e2=> ?_,fun e2=> ?_⟩⟩
 ·have e:(rdD c0_0 c0_1 c0_2 8).ok=false:=by simpa using e
  rw[e]
  exact⟨rfl,rfl,rfl,rfl⟩
 ·have e:(rdD c0_0 c0_1 c0_2 8).ok=true:=by simpa using e
  have e2:=of_decide_eq_true e2
  rw[if_pos (.inr e2)]
  exact⟨rfl,rfl,rfl,rfl⟩
 ·have e:(rdD c0_0 c0_1 c0_2 8).ok=true:=by simpa using e
  have e2:=of_decide_eq_false e2
  rw[if_neg (by rw[e];simpa using e2)]
  exact⟨rfl,rfl,rfl,rfl⟩
noncomputable def kkw:Con TB.den:={k3a with R:=fun x K=>(fun(p1:Int) (c0_0:List Int) (c0_1:Int) (c0_2:Bool)=>((RdOk c0_0 c0_1)∧∀(v0:Int) (v2:Int) (v3:Bool),(v0=(((rdU c0_0 c0_1 c0_2 p1).n))∧v2=(((rdU c0_0 c0_1 c0_2 p1).pos))∧v3=(((rdU c0_0 c0_1 c0_2 p1).fail)))→K (v0,(c0_0:List Int),v2,v3,()):Prop)) x.1 x.2.1 x.2.2.1 x.2.2.2.1}
theorem kw6:kkw.Ok Try.prog TB:=⟨bd56,fun x K hx=>⟨((fun(p1:Int) (c0_0:List Int) (c0_1:Int) (c0_2:Bool)=>(((rdU c0_0 c0_1 c0_2 p1).n):Int)) x.1 x.2.1 x.2.2.1 x.2.2.2.1,(fun(p1:Int) (c0_0:List Int) (c0_1:Int) (c0_2:Bool)=>(c0_0:List Int)) x.1 x.2.1 x.2.2.1 x.2.2.2.1,(fun(p1:Int) (c0_0:List Int) (c0_1:Int) (c0_2:Bool)=>(((rdU c0_0 c0_1 c0_2 p1).pos):Int)) x.1 x.2.1 x.2.2.1 x.2.2.2.1,(fun(p1:Int) (c0_0:List Int) (c0_1:Int) (c0_2:Bool)=>(((rdU c0_0 c0_1 c0_2 p1).fail):Bool)) x.1 x.2.1 x.2.2.1 x.2.2.2.1,()),hx.2 ((fun(p1:Int) (c0_0:List Int) (c0_1:Int) (c0_2:Bool)=>((((rdU c0_0 c0_1 c0_2 p1).n)))) x.1 x.2.1 x.2.2.1 x.2.2.2.1) ((fun(p1:Int) (c0_0:List Int) (c0_1:Int) (c0_2:Bool)=>((((rdU c0_0 c0_1 c0_2 p1).pos)))) x.1 x.2.1 x.2.2.1 x.2.2.2.1) ((fun(p1:Int) (c0_0:List Int) (c0_1:Int) (c0_2:Bool)=>((((rdU c0_0 c0_1 c0_2 p1).fail)))) x.1 x.2.1 x.2.2.1 x.2.2.2.1) ⟨rfl,rfl,rfl⟩,k1bf (k18w x.1 x.2.1 x.2.2.1 x.2.2.2.1 hx.1)⟩⟩
def k1n:Con TB.den:=Con.mk0 55 [.one (.ptr 0 0)] [.cells [.d (.sl (.int .u8)),.d (.int .i64),.d (.bool)]] (.one (.agg [.d (.int .u64),.d (.int .u64),.d (.int .u64),.d (.int .u64)])) [.cells [.d (.sl (.int .u8)),.d (.int .i64),.d (.bool)]]
abbrev klc:=HL TB.den (hsT k1n.ins (hsOs k1n.pre))
abbrev ka3:=HL TB.den (hsV k1n.res (hsOs k1n.post))
noncomputable def k6v:Cx TB:=⟨inf,[kkw],[],4,[]⟩
noncomputable def kaz:Code:=Try.f55.body.getD .skip
noncomputable def kct:List ResultVar:=Try.f55.results.toList
noncomputable def kju (o:ka3):An TB:= .no
def kba (x:klc) (o:ka3):Prop:=WPh TB k6v 20 1 kaz (kju o) (k1n.st TB x) (retTQ TB k6v k1n kct o)
theorem kvh (o:ka3):OblH TB k6v 20 1 kaz (kju o) (retTQ TB k6v k1n kct o):=
 OblH.ofC (X:=True) (by kernel_rfl) trivial
theorem kw7 {x:klc} {o:ka3} (h:kba x o):k1n.Snd Try.prog x o:=
 Con.soundH (c:=k1n) (C:=k6v) TBok ⟨inf_ok,(all_cons kw6 all_nil),all_nil⟩ mix Try.func55 (show Try.f55.body=some kaz by kernel_rfl) (show Try.f55.ntmps=20 by kernel_rfl) (show Try.f55.results.toList=kct by kernel_rfl) rfl h (kvh o)
theorem kxt {c0_0:List Int} {c0_1:Int} {c0_2:Bool} {r0:TNote} {d0_0:List Int} {d0_1:Int} {d0_2:Bool} (h:
((RdOk c0_0 c0_1)∧∀(r4:Int) (r5:Int) (r6:Bool),(r4=((rdU c0_0 c0_1 c0_2 (4294967295:Int)).n)∧r5=((rdU c0_0 c0_1 c0_2 (4294967295:Int)).pos)∧r6=((rdU c0_0 c0_1 c0_2 (4294967295:Int)).fail))→(RdOk c0_0 r5)∧∀(r10:Int) (r11:Int) (r12:Bool),(r10=((rdU c0_0 r5 r6 (18446744069414584320:Int)).n)∧r11=((rdU c0_0 r5 r6 (18446744069414584320:Int)).pos)∧r12=((rdU c0_0 r5 r6 (18446744069414584320:Int)).fail))→(RdOk c0_0 r11)∧∀(r16:Int) (r17:Int) (r18:Bool),(r16=((rdU c0_0 r11 r12 (18446744069414584320:Int)).n)∧r17=((rdU c0_0 r11 r12 (18446744069414584320:Int)).pos)∧r18=((rdU c0_0 r11 r12 (18446744069414584320:Int)).fail))→(RdOk c0_0 r17)∧∀(r22:Int) (r23:Int) (r24:Bool),(r22=((rdU c0_0 r17 r18 (18446744069414584320:Int)).n)∧r23=((rdU c0_0 r17 r18 (18446744069414584320:Int)).pos)∧r24=((rdU c0_0 r17 r18 (18446744069414584320:Int)).fail))→r4=r0.Value∧r10=r0.Owner∧r16=r0.Rho∧r22=r0.Blind∧c0_0=d0_0∧r23=d0_1∧r24=d0_2)):kba (c0_0,c0_1,c0_2,()) (r0.Value,r0.Owner,r0.Rho,r0.Blind,d0_0,d0_1,d0_2,()):=WPh.of_eq (by kernel_rfl) h
theorem bd55:Callable Try.prog 55:=⟨by rw[Try.func55];kernel_rfl,by rw[Try.func55];show some _≠some _;decide⟩
theorem kuv (c0_0:List Int) (c0_1:Int) (c0_2:Bool) (h:RdOk c0_0 c0_1):kba (c0_0,c0_1,c0_2,()) ((((rdNt c0_0 c0_1 c0_2).n).Value:Int),(((rdNt c0_0 c0_1 c0_2).n).Owner:Int),(((rdNt c0_0 c0_1 c0_2).n).Rho:Int),(((rdNt c0_0 c0_1 c0_2).n).Blind:Int),(c0_0:List Int),(((rdNt c0_0 c0_1 c0_2).pos):Int),(((rdNt c0_0 c0_1 c0_2).f):Bool),()):=by
 refine kxt (r0:=(rdNt c0_0 c0_1 c0_2).n) ⟨h,?_⟩
 rintro _ _ _ ⟨rfl,rfl,rfl⟩
 refine⟨rdU_ok h,?_⟩
 rintro _ _ _ ⟨rfl,rfl,rfl⟩
 refine⟨rdU_ok (rdU_ok h),?_⟩
 rintro _ _ _ ⟨rfl,rfl,rfl⟩
 refine⟨rdU_ok (rdU_ok (rdU_ok h)),?_⟩
 rintro _ _ _ ⟨rfl,rfl,rfl⟩
 exact⟨rfl,rfl,rfl,rfl,rfl,rfl,rfl⟩
noncomputable def kjn:Con TB.den:={k1n with R:=fun x K=>(fun(c0_0:List Int) (c0_1:Int) (c0_2:Bool)=>((RdOk c0_0 c0_1)∧∀(v0:TNote) (v2:Int) (v3:Bool),(v0=(((rdNt c0_0 c0_1 c0_2).n))∧v2=(((rdNt c0_0 c0_1 c0_2).pos))∧v3=(((rdNt c0_0 c0_1 c0_2).f)))→K (v0.Value,v0.Owner,v0.Rho,v0.Blind,(c0_0:List Int),v2,v3,()):Prop)) x.1 x.2.1 x.2.2.1}
theorem kxy:kjn.Ok Try.prog TB:=⟨bd55,fun x K hx=>⟨((fun(c0_0:List Int) (c0_1:Int) (c0_2:Bool)=>(((rdNt c0_0 c0_1 c0_2).n).Value:Int)) x.1 x.2.1 x.2.2.1,(fun(c0_0:List Int) (c0_1:Int) (c0_2:Bool)=>(((rdNt c0_0 c0_1 c0_2).n).Owner:Int)) x.1 x.2.1 x.2.2.1,(fun(c0_0:List Int) (c0_1:Int) (c0_2:Bool)=>(((rdNt c0_0 c0_1 c0_2).n).Rho:Int)) x.1 x.2.1 x.2.2.1,(fun(c0_0:List Int) (c0_1:Int) (c0_2:Bool)=>(((rdNt c0_0 c0_1 c0_2).n).Blind:Int)) x.1 x.2.1 x.2.2.1,(fun(c0_0:List Int) (c0_1:Int) (c0_2:Bool)=>(c0_0:List Int)) x.1 x.2.1 x.2.2.1,(fun(c0_0:List Int) (c0_1:Int) (c0_2:Bool)=>(((rdNt c0_0 c0_1 c0_2).pos):Int)) x.1 x.2.1 x.2.2.1,(fun(c0_0:List Int) (c0_1:Int) (c0_2:Bool)=>(((rdNt c0_0 c0_1 c0_2).f):Bool)) x.1 x.2.1 x.2.2.1,()),hx.2 ((fun(c0_0:List Int) (c0_1:Int) (c0_2:Bool)=>((((rdNt c0_0 c0_1 c0_2).n)))) x.1 x.2.1 x.2.2.1) ((fun(c0_0:List Int) (c0_1:Int) (c0_2:Bool)=>((((rdNt c0_0 c0_1 c0_2).pos)))) x.1 x.2.1 x.2.2.1) ((fun(c0_0:List Int) (c0_1:Int) (c0_2:Bool)=>((((rdNt c0_0 c0_1 c0_2).f)))) x.1 x.2.1 x.2.2.1) ⟨rfl,rfl,rfl⟩,kw7 (kuv x.1 x.2.1 x.2.2.1 hx.1)⟩⟩
def k5b:Con TB.den:=Con.mk0 93 [.one (.d (.sl (.int .u8))),.one (.d (.int .i64))] [] (.one (.one (.d (.sl (.int .u8))))) []
abbrev k16u:=HL TB.den (hsT k5b.ins (hsOs k5b.pre))
abbrev kho:=HL TB.den (hsV k5b.res (hsOs k5b.post))
noncomputable def kf4:Cx TB:=⟨inf,[],[],4,[]⟩
noncomputable def knb:Code:=Try.f93.body.getD .skip
noncomputable def krj:List ResultVar:=Try.f93.results.toList
noncomputable def k1jl (o:kho):An TB:= .nd [] .no [] (.nd [] .no [] (.nd [] .no [] (.rt [.frz 0 [4]])))
noncomputable def k11z (o:kho):An TB:= .nd [] .no [] (k1jl o)
def km7 (x:k16u) (o:kho):Prop:=WPh TB kf4 17 0 knb (k11z o) (k5b.st TB x) (retTQ TB kf4 k5b krj o)
theorem k1h7 (o:kho):OblH TB kf4 17 0 knb (k11z o) (retTQ TB kf4 k5b krj o):=
 OblH.ofC (X:=True) (by kernel_rfl) trivial
theorem k1hv {x:k16u} {o:kho} (h:km7 x o):k5b.Snd Try.prog x o:=
 Con.soundH (c:=k5b) (C:=kf4) TBok ⟨inf_ok,all_nil,all_nil⟩ mix Try.func93 (show Try.f93.body=some knb by kernel_rfl) (show Try.f93.ntmps=17 by kernel_rfl) (show Try.f93.results.toList=krj by kernel_rfl) rfl h (k1h7 o)
theorem k1ll {p0:List Int} {p1:Int} {r0:List Int} (h:
(let v1:Int:=IntKind.i64.wrap ((p0.length:Int)+p1)
 0≤(p0.length:Int)∧(p0.length:Int)≤v1∧(v1.toNat*1≤140737488355328)∧(v1.toNat≤maxLen)∧(p0.length:Int).toNat=(List.replicate ((p0.length:Int).toNat) (0:Int)).length∧let v2:Int:=((min p0.length (List.replicate ((p0.length:Int).toNat) (0:Int)).length:Nat):Int)
((p0.length:Int).toNat=(rowOver (List.replicate ((p0.length:Int).toNat) (0:Int)) p0 (List.replicate ((p0.length:Int).toNat) (0:Int)).length).length)∧rowOver (List.replicate ((p0.length:Int).toNat) (0:Int)) p0 (List.replicate ((p0.length:Int).toNat) (0:Int)).length=r0)):km7 (p0,p1,()) (r0,()):=WPh.of_eq (by kernel_rfl) h
theorem bd93:Callable Try.prog 93:=⟨by rw[Try.func93];kernel_rfl,by rw[Try.func93];show some _≠some _;decide⟩
theorem k1cx (p0:List Int) (p1:Int) (h:0≤p1∧p0.length+p1≤140737488355328):km7 (p0,p1,()) ((p0:List Int),()):=by
 obtain⟨h1,h2⟩:=h
 refine k1ll ?_
 rw[wi _ (by omega) (by omega)]
 have e:rowOver (List.replicate ((p0.length:Int).toNat) (0:Int)) p0 (List.replicate ((p0.length:Int).toNat) (0:Int)).length=p0:=k171 _ _ (by simp)
 simp only[e]
 exact⟨by omega,by omega,by omega,by unfold maxLen;omega,by simp,by omega,by trivial⟩
noncomputable def k105:Con TB.den:=k5b.fnR (fun x=>(fun(p0:List Int) (p1:Int)=>0≤p1∧p0.length+p1≤140737488355328) x.1 x.2.1) fun x=>((fun(p0:List Int) (p1:Int)=>(p0:List Int)) x.1 x.2.1,())
theorem k1jr:k105.Ok Try.prog TB:=Con.ok_fn k5b bd93 fun x h=>k1hv (k1cx x.1 x.2.1 h)
def k2k:Con TB.den:=Con.mk0 53 [.one (.d (.sl (.int .u8)))] [] (.one (.one (.ptr 0 0))) [.cells [.d (.sl (.int .u8)),.d (.int .i64),.d (.bool)]]
abbrev ks2:=HL TB.den (hsT k2k.ins (hsOs k2k.pre))
abbrev kd8:=HL TB.den (hsV k2k.res (hsOs k2k.post))
noncomputable def k8w:Cx TB:=⟨inf,[k105],[],4,[]⟩
noncomputable def ke1:Code:=Try.f53.body.getD .skip
noncomputable def kgz:List ResultVar:=Try.f53.results.toList
noncomputable def kph (o:kd8):An TB:= .no
def ke2 (x:ks2) (o:kd8):Prop:=WPh TB k8w 7 0 ke1 (kph o) (k2k.st TB x) (retTQ TB k8w k2k kgz o)
theorem k131 (o:kd8):OblH TB k8w 7 0 ke1 (kph o) (retTQ TB k8w k2k kgz o):=
 OblH.ofC (X:=True) (by kernel_rfl) trivial
theorem k14o {x:ks2} {o:kd8} (h:ke2 x o):k2k.Snd Try.prog x o:=
 Con.soundH (c:=k2k) (C:=k8w) TBok ⟨inf_ok,(all_cons k1jr all_nil),all_nil⟩ mix Try.func53 (show Try.f53.body=some ke1 by kernel_rfl) (show Try.f53.ntmps=7 by kernel_rfl) (show Try.f53.results.toList=kgz by kernel_rfl) rfl h (k131 o)
theorem k15w {p0:List Int} {d0_0:List Int} {d0_1:Int} {d0_2:Bool} (h:
((0≤(0:Int)∧p0.length+(0:Int)≤140737488355328)∧p0=d0_0∧0=d0_1∧false=d0_2)):ke2 (p0,()) (d0_0,d0_1,d0_2,()):=WPh.of_eq (by kernel_rfl) h
theorem bd53:Callable Try.prog 53:=⟨by rw[Try.func53];kernel_rfl,by rw[Try.func53];show some _≠some _;decide⟩
theorem k10r (p0:List Int) (h:p0.length≤137438953472):ke2 (p0,()) ((p0:List Int),(0:Int),(false:Bool),()):=by
 exact k15w ⟨⟨by omega,by omega⟩,rfl,rfl,rfl⟩
noncomputable def kob:Con TB.den:={k2k with R:=fun x K=>(fun(p0:List Int)=>((p0.length≤137438953472)∧K ((p0:List Int),(0:Int),(false:Bool),()):Prop)) x.1}
theorem k166:kob.Ok Try.prog TB:=⟨bd53,fun x K hx=>⟨((fun(p0:List Int)=>(p0:List Int)) x.1,(fun(p0:List Int)=>(0:Int)) x.1,(fun(p0:List Int)=>(false:Bool)) x.1,()),hx.2,k14o (k10r x.1 hx.1)⟩⟩
def k1d:Con TB.den:=Con.mk0 26 [.one (.d (.sl (.int .u8)))] [] (.tup [.agg [.d (.sl (.st 0)),.d (.sl (.st 1)),.d (.int .u64)],.one (.d (.int .i64))]) []
abbrev kpw:=HL TB.den (hsT k1d.ins (hsOs k1d.pre))
abbrev k1a:=HL TB.den (hsV k1d.res (hsOs k1d.post))
noncomputable def k1p:Cx TB:=⟨inf,[kob,kn9,kjn,kkw,kts,ktj],[],4,[]⟩
noncomputable def k3x:Code:=Try.f26.body.getD .skip
noncomputable def k82:List ResultVar:=Try.f26.results.toList
def k14w (o:k1a):=qS TB k1p 52 0 (cB (cB (cB (cB (cB k3x))))) .no (retTQ TB k1p k1d k82 o)
def k5a:Tm:=⟨[0,1,2,3,4],[.cells [.full (.st 0),.full (.st 1),.d (.int .u64)],.cells [.d (.sl (.int .u8)),.d (.int .i64),.d (.bool)],.cells [.own 3,.own 4,.d (.int .u64)],.tip (.st 0),.tip (.st 1)],[2,4,5,33,34],[.one (.ptr 0 0),.one (.ptr 1 0),.one (.ptr 2 0),.one (.d (.int .i64)),.one (.d (.int .i64))],5⟩
def k13r (o:k1a) (nx2:NX TB k5a):=qM TB 0 k5a nx2 (blockT TB 2 (k14w o))
def k7o (o:k1a) (nx2:NX TB k5a) (i:HL TB.den k5a.hs):Prop:=WP TB k1p 52 0 (cA (cA (cB (cA (cB (cB (cB (cB k3x)))))))) .no (k5a.fill TB i) (k13r o nx2)
noncomputable def knx (o:k1a):An TB:= .lp [] k5a (k7o o) fun nx2=> .no
def k127 (o:k1a):=qS TB k1p 52 0 (cB (cB (cB (cB k3x)))) (.nd [] (.nd [] .no [] (knx o)) [] .no) (retTQ TB k1p k1d k82 o)
def k56:Tm:=⟨[0,1,2,3,4],[.cells [.full (.st 0),.full (.st 1),.d (.int .u64)],.cells [.d (.sl (.int .u8)),.d (.int .i64),.d (.bool)],.cells [.own 3,.own 4,.d (.int .u64)],.tip (.st 0),.tip (.st 1)],[2,4,5,9,10],[.one (.ptr 0 0),.one (.ptr 1 0),.one (.ptr 2 0),.one (.d (.int .i64)),.one (.d (.int .i64))],5⟩
def k12p (o:k1a) (nx1:NX TB k56):=qM TB 0 k56 nx1 (blockT TB 0 (k127 o))
def k7v (o:k1a) (nx1:NX TB k56) (i:HL TB.den k56.hs):Prop:=WP TB k1p 52 0 (cA (cA (cB (cA (cB (cB (cB k3x))))))) .no (k56.fill TB i) (k12p o nx1)
noncomputable def k10d (o:k1a):An TB:= .lp [.tokc 2 0 (.st 0),.tokc 2 1 (.st 1)] k56 (k7v o) fun nx1=> .no
noncomputable def k10x (o:k1a):An TB:= .nd [] (.nd [] .no [] (k10d o)) [] (.nd [] (.nd [] .no [] (knx o)) [] .no)
noncomputable def kom (o:k1a):An TB:= .nd [] .no [] (.nd [] .no [] (.nd [] .no [] (k10x o)))
def kd6 (x:kpw) (o:k1a):Prop:=WPh TB k1p 52 0 k3x (kom o) (k1d.st TB x) (retTQ TB k1p k1d k82 o)
theorem k10i (o:k1a):OblH TB k1p 52 0 k3x (kom o) (retTQ TB k1p k1d k82 o):=
 OblH.ofC (X:=((∀nx i,(k7v o) nx i=(k7v o) nx i)∧(∀nx1:NX TB k56,True)∧(∀nx i,(k7o o) nx i=(k7o o) nx i)∧(∀nx2:NX TB k5a,True)∧True)) (by kernel_rfl) ⟨fun _ _=>rfl,fun _=>trivial,fun _ _=>rfl,fun _=>trivial,trivial⟩
theorem k111 {x:kpw} {o:k1a} (h:kd6 x o):k1d.Snd Try.prog x o:=
 Con.soundH (c:=k1d) (C:=k1p) TBok ⟨inf_ok,(all_cons k166 (all_cons kz8 (all_cons kxy (all_cons kw6 (all_cons k1ck (all_cons k1en all_nil)))))),all_nil⟩ mix Try.func26 (show Try.f26.body=some k3x by kernel_rfl) (show Try.f26.ntmps=52 by kernel_rfl) (show Try.f26.results.toList=k82 by kernel_rfl) rfl h (k10i o)
theorem k14s {p0:List Int} {r0:TWitness} {r1:Int} (h:
((p0.length≤137438953472)∧(RdOk p0 (0:Int))∧∀(r47:Int) (r48:Int) (r49:Bool),(r47=((rdI p0 (0:Int) false (4:Int)).n)∧r48=((rdI p0 (0:Int) false (4:Int)).pos)∧r49=((rdI p0 (0:Int) false (4:Int)).fail))→(([]:List TNote)=([]:List TNote))∧(([]:List TSpent)=([]:List TSpent))∧Md.Loop (r47,(0:Int),(([]:List TSpent):List TSpent),(([]:List TNote):List TNote),(0:Int),p0,r48,r49,(0:Int),(([]:List TSpent):List TSpent),(([]:List TNote):List TNote),()) (k7v (r0.Ins,r0.Outs,r0.Secret,r1,())))):kd6 (p0,()) (r0.Ins,r0.Outs,r0.Secret,r1,()):=WPh.of_eq (by kernel_rfl) h
def ko4 (r0:TWitness) (r1:Int) (k1:Int→Int→Bool→List TSpent→Prop) (s9:Int) (h0_0:List TSpent) (h0_1:List TNote) (h0_2:Int) (h1_0:List Int) (h2_2:Int) (g4:List TNote) (s10:Int) (h1_1:Int) (h1_2:Bool) (g3:List TSpent):Prop:=
(decide (s10<s9)=true→
(RdOk h1_0 h1_1)∧∀(r68:TNote) (r69:Int) (r70:Bool),(r68=((rdNt h1_0 h1_1 h1_2).n)∧r69=((rdNt h1_0 h1_1 h1_2).pos)∧r70=((rdNt h1_0 h1_1 h1_2).f))→(RdOk h1_0 r69)∧∀(r71:Int) (r72:Int) (r73:Bool),(r71=((rdU h1_0 r69 r70 (18446744069414584320:Int)).n)∧r72=((rdU h1_0 r69 r70 (18446744069414584320:Int)).pos)∧r73=((rdU h1_0 r69 r70 (18446744069414584320:Int)).fail))→(RdOk h1_0 r72)∧∀(r74:Int) (r75:Int) (r76:Bool),(r74=((rdI h1_0 r72 r73 (3:Int)).n)∧r75=((rdI h1_0 r72 r73 (3:Int)).pos)∧r76=((rdI h1_0 r72 r73 (3:Int)).fail))→(RdOk h1_0 r75)∧∀(r77:Int) (r78:Int) (r79:Bool),(r77=((rdI h1_0 r75 r76 (4095:Int)).n)∧r78=((rdI h1_0 r75 r76 (4095:Int)).pos)∧r79=((rdI h1_0 r75 r76 (4095:Int)).fail))→(RdOk h1_0 r78∧(0≤(12:Int)∧(12:Int)≤4096))∧∀(r80:List Int) (r81:Int) (r82:Bool),(r80=((rdL h1_0 r78 r79 (12:Int) (18446744069414584321:Int)).l)∧r81=((rdL h1_0 r78 r79 (12:Int) (18446744069414584321:Int)).pos)∧r82=((rdL h1_0 r78 r79 (12:Int) (18446744069414584321:Int)).fail))→(RdOk h1_0 r81)∧∀(r83:Int) (r84:Int) (r85:Bool),(r83=((rdI h1_0 r81 r82 (1:Int)).n)∧r84=((rdI h1_0 r81 r82 (1:Int)).pos)∧r85=((rdI h1_0 r81 r82 (1:Int)).fail))→let v86:List TSpent:=[TSpent.mk r68.Value r68.Owner r68.Rho r68.Blind r71 r74 r77 r80 (r83==1)]
 g3.length=g3.length∧(g3.length+v86.length)*88≤140737488355328∧g3.length+v86.length≤maxLen∧(g4=g4)∧(g3++v86=g3++v86)∧k1 (IntKind.i64.wrap (s10+1):Int) r84 r85 (g3++v86:List TSpent))∧
(decide (s10<s9)=false→
(RdOk h1_0 h1_1)∧∀(r102:Int) (r103:Int) (r104:Bool),(r102=((rdI h1_0 h1_1 h1_2 (4:Int)).n)∧r103=((rdI h1_0 h1_1 h1_2 (4:Int)).pos)∧r104=((rdI h1_0 h1_1 h1_2 (4:Int)).fail))→(g4=g4)∧(g3=g3)∧Md.Loop (r102,(0:Int),h0_0,h0_1,h0_2,h1_0,r103,r104,h2_2,g3,g4,()) (k7o (r0.Ins,r0.Outs,r0.Secret,r1,())))
theorem k113 {r0:TWitness} {r1:Int} {s9:Int} {h0_0:List TSpent} {h0_1:List TNote} {h0_2:Int} {h1_0:List Int} {h2_2:Int} {g4:List TNote} {s10:Int} {h1_1:Int} {h1_2:Bool} {g3:List TSpent} (inv:Int→Int→Bool→List TSpent→Prop) (μ:Int→Int→Bool→List TSpent→Nat) (h0:inv s10 h1_1 h1_2 g3) (hs:∀(s10:Int) (h1_1:Int) (h1_2:Bool) (g3:List TSpent),inv s10 h1_1 h1_2 g3→ko4 r0 r1 (fun s10q h1_1q h1_2q g3q=>inv s10q h1_1q h1_2q g3q∧μ s10q h1_1q h1_2q g3q<μ s10 h1_1 h1_2 g3) s9 h0_0 h0_1 h0_2 h1_0 h2_2 g4 s10 h1_1 h1_2 g3):Md.Loop (s9,s10,h0_0,h0_1,h0_2,h1_0,h1_1,h1_2,h2_2,g3,g4,()) (k7v (r0.Ins,r0.Outs,r0.Secret,r1,())):=
 ⟨⟨fun s:Int×Int×(List TSpent)×(List TNote)×Int×(List Int)×Int×Bool×Int×(List TSpent)×(List TNote)×Unit=>(s.1=s9∧s.2.2.1=h0_0∧s.2.2.2.1=h0_1∧s.2.2.2.2.1=h0_2∧s.2.2.2.2.2.1=h1_0∧s.2.2.2.2.2.2.2.2.1=h2_2∧s.2.2.2.2.2.2.2.2.2.2.1=g4)∧inv s.2.1 s.2.2.2.2.2.2.1 s.2.2.2.2.2.2.2.1 s.2.2.2.2.2.2.2.2.2.1,fun s:Int×Int×(List TSpent)×(List TNote)×Int×(List Int)×Int×Bool×Int×(List TSpent)×(List TNote)×Unit=>μ s.2.1 s.2.2.2.2.2.2.1 s.2.2.2.2.2.2.2.1 s.2.2.2.2.2.2.2.2.2.1,⟨⟨rfl,rfl,rfl,rfl,rfl,rfl,rfl⟩,h0⟩,fun(s9p,s10p,h0_0p,h0_1p,h0_2p,h1_0p,h1_1p,h1_2p,h2_2p,g3p,g4p,()) ⟨⟨eq0,eq1,eq2,eq3,eq4,eq5,eq6⟩,hi⟩=>by
  have eq0:s9p=s9:=eq0;subst s9p;have eq1:h0_0p=h0_0:=eq1;subst h0_0p;have eq2:h0_1p=h0_1:=eq2;subst h0_1p;have eq3:h0_2p=h0_2:=eq3;subst h0_2p;have eq4:h1_0p=h1_0:=eq4;subst h1_0p;have eq5:h2_2p=h2_2:=eq5;subst h2_2p;have eq6:g4p=g4:=eq6;subst g4p;exact mpr_of (by kernel_rfl) ((congrArg (fun k=>ko4 r0 r1 k s9 h0_0 h0_1 h0_2 h1_0 h2_2 g4 s10p h1_1p h1_2p g3p) (lpk4 (⟨rfl,rfl,rfl,rfl,rfl,rfl,rfl⟩:s9=s9∧h0_0=h0_0∧h0_1=h0_1∧h0_2=h0_2∧h1_0=h1_0∧h2_2=h2_2∧g4=g4) inv (fun s10q h1_1q h1_2q g3q=>μ s10q h1_1q h1_2q g3q<μ s10p h1_1p h1_2p g3p))).mpr (hs s10p h1_1p h1_2p g3p hi))⟩⟩
def ko1 (r0:TWitness) (r1:Int) (k2:Int→Int→Bool→List TNote→Prop) (s33:Int) (h0_0:List TSpent) (h0_1:List TNote) (h0_2:Int) (h1_0:List Int) (h2_2:Int) (g3:List TSpent) (s34:Int) (h1_1:Int) (h1_2:Bool) (g4:List TNote):Prop:=
(decide (s34<s33)=true→
(RdOk h1_0 h1_1)∧∀(r108:TNote) (r109:Int) (r110:Bool),(r108=((rdNt h1_0 h1_1 h1_2).n)∧r109=((rdNt h1_0 h1_1 h1_2).pos)∧r110=((rdNt h1_0 h1_1 h1_2).f))→g4.length=g4.length∧(g4.length+[r108].length)*32≤140737488355328∧g4.length+[r108].length≤maxLen∧(g4++[r108]=g4++[r108])∧(g3=g3)∧k2 (IntKind.i64.wrap (s34+1):Int) r109 r110 (g4++[r108]:List TNote))∧
(decide (s34<s33)=false→
(RdOk h1_0 h1_1)∧∀(r114:Int) (r115:Int) (r116:Bool),(r114=((rdU h1_0 h1_1 h1_2 (18446744069414584320:Int)).n)∧r115=((rdU h1_0 h1_1 h1_2 (18446744069414584320:Int)).pos)∧r116=((rdU h1_0 h1_1 h1_2 (18446744069414584320:Int)).fail))→let v117:Bool:=(!(!r116&&r115==(h1_0.length:Int)))
(v117=true→
([]:List TSpent)=r0.Ins∧([]:List TNote)=r0.Outs∧0=r0.Secret∧2=r1)∧
(v117=false→
 g3=r0.Ins∧g4=r0.Outs∧r114=r0.Secret∧0=r1))
theorem k10b {r0:TWitness} {r1:Int} {s33:Int} {h0_0:List TSpent} {h0_1:List TNote} {h0_2:Int} {h1_0:List Int} {h2_2:Int} {g3:List TSpent} {s34:Int} {h1_1:Int} {h1_2:Bool} {g4:List TNote} (inv:Int→Int→Bool→List TNote→Prop) (μ:Int→Int→Bool→List TNote→Nat) (h0:inv s34 h1_1 h1_2 g4) (hs:∀(s34:Int) (h1_1:Int) (h1_2:Bool) (g4:List TNote),inv s34 h1_1 h1_2 g4→ko1 r0 r1 (fun s34q h1_1q h1_2q g4q=>inv s34q h1_1q h1_2q g4q∧μ s34q h1_1q h1_2q g4q<μ s34 h1_1 h1_2 g4) s33 h0_0 h0_1 h0_2 h1_0 h2_2 g3 s34 h1_1 h1_2 g4):Md.Loop (s33,s34,h0_0,h0_1,h0_2,h1_0,h1_1,h1_2,h2_2,g3,g4,()) (k7o (r0.Ins,r0.Outs,r0.Secret,r1,())):=
 ⟨⟨fun s:Int×Int×(List TSpent)×(List TNote)×Int×(List Int)×Int×Bool×Int×(List TSpent)×(List TNote)×Unit=>(s.1=s33∧s.2.2.1=h0_0∧s.2.2.2.1=h0_1∧s.2.2.2.2.1=h0_2∧s.2.2.2.2.2.1=h1_0∧s.2.2.2.2.2.2.2.2.1=h2_2∧s.2.2.2.2.2.2.2.2.2.1=g3)∧inv s.2.1 s.2.2.2.2.2.2.1 s.2.2.2.2.2.2.2.1 s.2.2.2.2.2.2.2.2.2.2.1,fun s:Int×Int×(List TSpent)×(List TNote)×Int×(List Int)×Int×Bool×Int×(List TSpent)×(List TNote)×Unit=>μ s.2.1 s.2.2.2.2.2.2.1 s.2.2.2.2.2.2.2.1 s.2.2.2.2.2.2.2.2.2.2.1,⟨⟨rfl,rfl,rfl,rfl,rfl,rfl,rfl⟩,h0⟩,fun(s33p,s34p,h0_0p,h0_1p,h0_2p,h1_0p,h1_1p,h1_2p,h2_2p,g3p,g4p,()) ⟨⟨eq0,eq1,eq2,eq3,eq4,eq5,eq6⟩,hi⟩=>by
  have eq0:s33p=s33:=eq0;subst s33p;have eq1:h0_0p=h0_0:=eq1;subst h0_0p;have eq2:h0_1p=h0_1:=eq2;subst h0_1p;have eq3:h0_2p=h0_2:=eq3;subst h0_2p;have eq4:h1_0p=h1_0:=eq4;subst h1_0p;have eq5:h2_2p=h2_2:=eq5;subst h2_2p;have eq6:g3p=g3:=eq6;subst g3p;exact mpr_of (by kernel_rfl) ((congrArg (fun k=>ko1 r0 r1 k s33 h0_0 h0_1 h0_2 h1_0 h2_2 g3 s34p h1_1p h1_2p g4p) (lpk4 (⟨rfl,rfl,rfl,rfl,rfl,rfl,rfl⟩:s33=s33∧h0_0=h0_0∧h0_1=h0_1∧h0_2=h0_2∧h1_0=h1_0∧h2_2=h2_2∧g3=g3) inv (fun s34q h1_1q h1_2q g4q=>μ s34q h1_1q h1_2q g4q<μ s34p h1_1p h1_2p g4p))).mpr (hs s34p h1_1p h1_2p g4p hi))⟩⟩
theorem bd26:Callable Try.prog 26:=⟨by rw[Try.func26];kernel_rfl,by rw[Try.func26];show some _≠some _;decide⟩
theorem kxf (p0:List Int) (h:By p0∧p0.length≤137438953472):kd6 (p0,()) ((((decW p0).1).Ins:List TSpent),(((decW p0).1).Outs:List TNote),(((decW p0).1).Secret:Int),(((decW p0).2):Int),()):=by
 obtain⟨hb,hl⟩:=h
 have h0:RdOk p0 0:=⟨hb,hl,by omega,by omega⟩
 refine k14s (r0:=(decW p0).1) ⟨hl,h0,?_⟩
 rintro _ _ _ ⟨rfl,rfl,rfl⟩
 have hC:=rdI_ok (m:=4) (f:=false) h0
 have nC:=rdI_n (m:=4) (f:=false) h0 (by omega)
 have zC:=rdI_pz (m:=4) (f:=false) h0 (by omega)
 generalize rdI p0 0 false 4=C at *
 refine⟨rfl,rfl,?_⟩
 refine k113 (r0:=(decW p0).1) (fun i pos f g=>0≤i∧i≤C.n∧RdOk p0 pos∧(g.length:Int)=i∧Pz (fun l:List TSpent=>l.flatMap encSp) (Gl (GS limW) i.toNat) (p0.drop C.pos.toNat) C.fail g (p0.drop pos.toNat) f) (fun i _ _ _=>(C.n-i).toNat) ⟨by omega,nC.1,hC,rfl,Pz.nil⟩ ?_
 rintro i pos f g ⟨g0,g1,hp,g2,gz⟩
 refine⟨fun hh=> ?_,fun hh=> ?_⟩
 ·have hh:=of_decide_eq_true hh
  refine⟨hp,?_⟩
  rintro _ _ _ ⟨rfl,rfl,rfl⟩
  have o1:=rdNt_ok (f:=f) hp
  have z1:=rdNt_pz (f:=f) hp
  generalize rdNt p0 pos f=A1 at *
  refine⟨o1,?_⟩
  rintro _ _ _ ⟨rfl,rfl,rfl⟩
  have o2:=rdU_ok (m:=18446744069414584320) (f:=A1.f) o1
  have z2:=rdU_pz (m:=18446744069414584320) (f:=A1.f) o1
  generalize rdU p0 A1.pos A1.f 18446744069414584320=A2 at *
  refine⟨o2,?_⟩
  rintro _ _ _ ⟨rfl,rfl,rfl⟩
  have o3:=rdI_ok (m:=3) (f:=A2.fail) o2
  have z3:=rdI_pz (m:=3) (f:=A2.fail) o2 (by omega)
  generalize rdI p0 A2.pos A2.fail 3=A3 at *
  refine⟨o3,?_⟩
  rintro _ _ _ ⟨rfl,rfl,rfl⟩
  have o4:=rdI_ok (m:=4095) (f:=A3.fail) o3
  have z4:=rdI_pz (m:=4095) (f:=A3.fail) o3 (by omega)
  generalize rdI p0 A3.pos A3.fail 4095=A4 at *
  refine⟨⟨o4,by omega,by omega⟩,?_⟩
  rintro _ _ _ ⟨rfl,rfl,rfl⟩
  have o5:=rdL_ok (m:=12) (p:=18446744069414584321) (f:=A4.fail) o4 (by omega)
  have z5:=rdL_pz (m:=12) (p:=18446744069414584321) (f:=A4.fail) o4 (by omega)
  generalize rdL p0 A4.pos A4.fail 12 18446744069414584321=A5 at *
  refine⟨o5,?_⟩
  rintro _ _ _ ⟨rfl,rfl,rfl⟩
  have o6:=rdI_ok (m:=1) (f:=A5.fail) o5
  have z6:=rdI_pz (m:=1) (f:=A5.fail) o5 (by omega)
  generalize rdI p0 A5.pos A5.fail 1=A6 at *
  have zz:=k1is (L:=limW) z1 z2 z3 z4 z5 z6
  rw[inc i C.n g0 hh (by omega)]
  refine⟨rfl,by simp;omega,by simp;unfold maxLen;omega,rfl,rfl,⟨by omega,by omega,o6,by simp;omega,?_⟩,by omega⟩
  rw[show(i+1).toNat=i.toNat+1 by omega]
  exact gz.snoc zz
 ·have hh:=of_decide_eq_false hh
  have hi:i=C.n:=by omega
  subst hi
  have zI:=Pz.list zC gz
  refine⟨hp,?_⟩
  rintro _ _ _ ⟨rfl,rfl,rfl⟩
  have hD:=rdI_ok (m:=4) (f:=f) hp
  have nD:=rdI_n (m:=4) (f:=f) hp (by omega)
  have zD:=rdI_pz (m:=4) (f:=f) hp (by omega)
  generalize rdI p0 pos f 4=D at *
  refine⟨rfl,rfl,?_⟩
  refine k10b (r0:=(decW p0).1) (fun i pos' f' g' =>0≤i∧i≤D.n∧RdOk p0 pos'∧(g'.length:Int)=i∧Pz (fun l:List TNote=>l.flatMap encN) (Gl (GN limW) i.toNat) (p0.drop D.pos.toNat) D.fail g' (p0.drop pos'.toNat) f') (fun i _ _ _=>(D.n-i).toNat) ⟨by omega,nD.1,hD,rfl,Pz.nil⟩ ?_
  rintro i pos' f' g' ⟨g0',g1',hp',g2',gz'⟩
  refine⟨fun hh=> ?_,fun hh=> ?_⟩
  ·have hh:=of_decide_eq_true hh
   refine⟨hp',?_⟩
   rintro _ _ _ ⟨rfl,rfl,rfl⟩
   have o1:=rdNt_ok (f:=f') hp'
   have z1:=rdNt_pz (f:=f') hp'
   generalize rdNt p0 pos' f' =A1 at *
   rw[inc i D.n g0' hh (by omega)]
   refine⟨rfl,by simp;omega,by simp;unfold maxLen;omega,rfl,rfl,⟨by omega,by omega,o1,by simp;omega,?_⟩,by omega⟩
   rw[show(i+1).toNat=i.toNat+1 by omega]
   exact gz'.snoc z1
  ·have hh:=of_decide_eq_false hh
   have hi:i=D.n:=by omega
   subst hi
   have zO:=Pz.list zD gz'
   refine⟨hp',?_⟩
   rintro _ _ _ ⟨rfl,rfl,rfl⟩
   have hS:=rdU_ok (m:=18446744069414584320) (f:=f') hp'
   have zS:=rdU_pz (m:=18446744069414584320) (f:=f') hp'
   generalize rdU p0 pos' f' 18446744069414584320=X at *
   obtain⟨snd,cpl⟩:=pz_wit (L:=limW) zI zO zS
   refine⟨fun e=> ?_,fun e=> ?_⟩
   ·rw[decW_no]
    ·exact⟨rfl,rfl,rfl,rfl⟩
    intro u hu
    obtain⟨c1,c2,c3⟩:=cpl u hu
    obtain⟨_,_,q3,q4⟩:=hS
    have:=List.drop_eq_nil_iff.1 c2
    have e4:X.pos=(p0.length:Int):=by omega
    rw[c1,e4]at e
    simp at e
   ·have e:X.fail=false∧X.pos=(p0.length:Int):=by simpa using e
    obtain⟨s1,s2⟩:=snd e.1 (List.drop_eq_nil_of_le (by omega))
    have hE:EW ⟨g,g',X.n⟩ p0:=by
     refine⟨s2.wq,k96.2 ⟨?_,?_,?_,fun x hx=>(s2.1.2 x hx).spendV,fun x hx=>(s2.2.1.2 x hx).noteV⟩,s1⟩
     ·have:=s2.1.1.2.2;show g.length≤4;omega
     ·have:=s2.2.1.1.2.2;show g'.length≤4;omega
     ·have:X.n≤18446744069414584320:=s2.2.2.2
      show X.n<_;omega
    rw[k1k6 hE fun u hu=>(cpl u hu).2.2]
    exact⟨rfl,rfl,rfl,rfl⟩
noncomputable def klq:Con TB.den:={k1d with R:=fun x K=>(fun(p0:List Int)=>((By p0∧p0.length≤137438953472)∧∀(v0:TWitness) (v1:Int),(v0=(((decW p0).1))∧v1=(((decW p0).2)))→K (v0.Ins,v0.Outs,v0.Secret,v1,()):Prop)) x.1}
theorem k13e:klq.Ok Try.prog TB:=⟨bd26,fun x K hx=>⟨((fun(p0:List Int)=>(((decW p0).1).Ins:List TSpent)) x.1,(fun(p0:List Int)=>(((decW p0).1).Outs:List TNote)) x.1,(fun(p0:List Int)=>(((decW p0).1).Secret:Int)) x.1,(fun(p0:List Int)=>(((decW p0).2):Int)) x.1,()),hx.2 ((fun(p0:List Int)=>((((decW p0).1)))) x.1) ((fun(p0:List Int)=>((((decW p0).2)))) x.1) ⟨rfl,rfl⟩,k111 (kxf x.1 hx.1)⟩⟩
def kw:Con TB.den:=Con.mk0 94 [.one (.own 0),.one (.d (.int .u64)),.one (.d (.int .i64))] [.tip (.int .u8)] (.one (.one (.own 0))) [.tip (.int .u8)]
abbrev klk:=HL TB.den (hsT kw.ins (hsOs kw.pre))
abbrev k32:=HL TB.den (hsV kw.res (hsOs kw.post))
noncomputable def k2s:Cx TB:=⟨inf,[],[],4,[]⟩
noncomputable def k63:Code:=Try.f94.body.getD .skip
noncomputable def k94:List ResultVar:=Try.f94.results.toList
def ky2 (o:k32):=qS TB k2s 19 1 (cB (cB k63)) .no (retTQ TB k2s kw k94 o)
def k3w:Tm:=⟨[0],[.tip (.int .u8)],[0,1,7,8],[.one (.own 0),.one (.d (.int .u64)),.one (.d (.int .i64)),.one (.d (.int .i64))],1⟩
def kxv (o:k32) (nx1:NX TB k3w):=qM TB 1 k3w nx1 (blockT TB 0 (ky2 o))
def k6o (o:k32) (nx1:NX TB k3w) (i:HL TB.den k3w.hs):Prop:=WP TB k2s 19 1 (cA (cA (cB (cA (cB k63))))) .no (k3w.fill TB i) (kxv o nx1)
noncomputable def kxx (o:k32):An TB:= .lp [] k3w (k6o o) fun nx1=> .no
noncomputable def kk8 (o:k32):An TB:= .nd [] .no [] (.nd [] (.nd [] .no [] (kxx o)) [] .no)
def kb1 (x:klk) (o:k32):Prop:=WPh TB k2s 19 1 k63 (kk8 o) (kw.st TB x) (retTQ TB k2s kw k94 o)
theorem kwv (o:k32):OblH TB k2s 19 1 k63 (kk8 o) (retTQ TB k2s kw k94 o):=
 OblH.ofC (X:=((∀nx i,(k6o o) nx i=(k6o o) nx i)∧(∀nx1:NX TB k3w,True)∧True)) (by kernel_rfl) ⟨fun _ _=>rfl,fun _=>trivial,trivial⟩
theorem kw3 {x:klk} {o:k32} (h:kb1 x o):kw.Snd Try.prog x o:=
 Con.soundH (c:=kw) (C:=k2s) TBok ⟨inf_ok,all_nil,all_nil⟩ mix Try.func94 (show Try.f94.body=some k63 by kernel_rfl) (show Try.f94.ntmps=19 by kernel_rfl) (show Try.f94.results.toList=k94 by kernel_rfl) rfl h (kwv o)
theorem kx2 {p1:Int} {p2:Int} {w0:List Int} {e0:List Int} (h:
((w0=w0)∧Md.Loop (p1,p2,(0:Int),w0,()) (k6o (e0,())))):kb1 (p1,p2,w0,()) (e0,()):=WPh.of_eq (by kernel_rfl) h
def kl9 (e0:List Int) (k1:Int→Int→List Int→Prop) (s7:Int) (s1:Int) (s8:Int) (g0:List Int):Prop:=
(decide (s8<s7)=true→
 g0.length=g0.length∧(g0.length+[IntKind.u8.wrap s1].length)*1≤140737488355328∧g0.length+[IntKind.u8.wrap s1].length≤maxLen∧(g0++[IntKind.u8.wrap s1]=g0++[IntKind.u8.wrap s1])∧k1 (ishr .u64 s1 8:Int) (IntKind.i64.wrap (s8+1):Int) (g0++[IntKind.u8.wrap s1]:List Int))∧
(decide (s8<s7)=false→
(g0=g0)∧g0=e0)
theorem kvp {e0:List Int} {s7:Int} {s1:Int} {s8:Int} {g0:List Int} (inv:Int→Int→List Int→Prop) (μ:Int→Int→List Int→Nat) (h0:inv s1 s8 g0) (hs:∀(s1:Int) (s8:Int) (g0:List Int),inv s1 s8 g0→kl9 e0 (fun s1q s8q g0q=>inv s1q s8q g0q∧μ s1q s8q g0q<μ s1 s8 g0) s7 s1 s8 g0):Md.Loop (s1,s7,s8,g0,()) (k6o (e0,())):=
 ⟨⟨fun s:Int×Int×Int×(List Int)×Unit=>(s.2.1=s7)∧inv s.1 s.2.2.1 s.2.2.2.1,fun s:Int×Int×Int×(List Int)×Unit=>μ s.1 s.2.2.1 s.2.2.2.1,⟨rfl,h0⟩,fun(s1p,s7p,s8p,g0p,()) ⟨eq0,hi⟩=>by
  have eq0:s7p=s7:=eq0;subst s7p;exact mpr_of (by kernel_rfl) ((congrArg (fun k=>kl9 e0 k s7 s1p s8p g0p) (lpk3 (rfl:s7=s7) inv (fun s1q s8q g0q=>μ s1q s8q g0q<μ s1p s8p g0p))).mpr (hs s1p s8p g0p hi))⟩⟩
theorem bd94:Callable Try.prog 94:=⟨by rw[Try.func94];kernel_rfl,by rw[Try.func94];show some _≠some _;decide⟩
theorem kuk (p1:Int) (p2:Int) (w0:List Int) (h:U64 p1∧(0≤p2∧p2≤8)∧w0.length≤137438953472):kb1 (p1,p2,w0,()) (((w0++dig p2.toNat p1):List Int),()):=by
 obtain⟨h1,h2,h3⟩:=h
 refine kx2 ⟨rfl,kvp (fun n i g=>0≤i∧i≤p2∧U64 n∧n=p1/256^i.toNat∧g=w0++dig i.toNat p1) (fun _ i _=>(p2-i).toNat) ⟨by omega,by omega,h1,by simp,by simp[dig]⟩ ?_⟩
 rintro n i g ⟨g0,g1,g2,g3,rfl⟩
 refine⟨fun h=> ?_,fun h=> ?_⟩
 ·have h:=of_decide_eq_true h
  rw[inc i p2 g0 h (by omega),ishr8,u8w]
  refine⟨rfl,?_,?_,rfl,⟨by omega,by omega,⟨by omega,by omega⟩,?_,?_⟩,by omega⟩
  ·simp;omega
  ·simp;unfold maxLen;omega
  ·rw[g3,show(i+1).toNat=i.toNat+1 by omega,Int.ediv_ediv_of_nonneg (Int.le_of_lt (kan _)),Int.pow_succ]
  ·rw[show(i+1).toNat=i.toNat+1 by omega,ks8,List.append_assoc,g3]
 ·have h:=of_decide_eq_false h
  exact⟨rfl,by rw[show i=p2 by omega]⟩
noncomputable def k8c:Con TB.den:=kw.fnR (fun x=>(fun(p1:Int) (p2:Int) (w0:List Int)=>U64 p1∧(0≤p2∧p2≤8)∧w0.length≤137438953472) x.1 x.2.1 x.2.2.1) fun x=>((fun(p1:Int) (p2:Int) (w0:List Int)=>((w0++dig p2.toNat p1):List Int)) x.1 x.2.1 x.2.2.1,())
theorem kd5:k8c.Ok Try.prog TB:=Con.ok_fn kw bd94 fun x h=>kw3 (kuk x.1 x.2.1 x.2.2.1 h)
def k3o:Con TB.den:=Con.mk0 93 [.one (.d (.sl (.int .u8))),.one (.d (.int .i64))] [] (.one (.one (.own 0))) [.tip (.int .u8)]
abbrev kys:=HL TB.den (hsT k3o.ins (hsOs k3o.pre))
abbrev kdr:=HL TB.den (hsV k3o.res (hsOs k3o.post))
noncomputable def kbn:Cx TB:=⟨inf,[],[],4,[]⟩
noncomputable def kik:Code:=Try.f93.body.getD .skip
noncomputable def klr:List ResultVar:=Try.f93.results.toList
noncomputable def k1cw (o:kdr):An TB:= .nd [] .no [] (.nd [] .no [] (.nd [] .no [] (.rt [.frz 0 [4]])))
noncomputable def kwp (o:kdr):An TB:= .nd [] .no [] (k1cw o)
def kj0 (x:kys) (o:kdr):Prop:=WPh TB kbn 17 0 kik (kwp o) (k3o.st TB x) (retTQ TB kbn k3o klr o)
theorem k1az (o:kdr):OblH TB kbn 17 0 kik (kwp o) (retTQ TB kbn k3o klr o):=
 OblH.ofC (X:=True) (by kernel_rfl) trivial
theorem k1ag {x:kys} {o:kdr} (h:kj0 x o):k3o.Snd Try.prog x o:=
 Con.soundH (c:=k3o) (C:=kbn) TBok ⟨inf_ok,all_nil,all_nil⟩ mix Try.func93 (show Try.f93.body=some kik by kernel_rfl) (show Try.f93.ntmps=17 by kernel_rfl) (show Try.f93.results.toList=klr by kernel_rfl) rfl h (k1az o)
theorem k1dh {p0:List Int} {p1:Int} {e0:List Int} (h:
(let v1:Int:=IntKind.i64.wrap ((p0.length:Int)+p1)
 0≤(p0.length:Int)∧(p0.length:Int)≤v1∧(v1.toNat*1≤140737488355328)∧(v1.toNat≤maxLen)∧(p0.length:Int).toNat=(List.replicate ((p0.length:Int).toNat) (0:Int)).length∧let v2:Int:=((min p0.length (List.replicate ((p0.length:Int).toNat) (0:Int)).length:Nat):Int)
((p0.length:Int).toNat=(rowOver (List.replicate ((p0.length:Int).toNat) (0:Int)) p0 (List.replicate ((p0.length:Int).toNat) (0:Int)).length).length)∧(rowOver (List.replicate ((p0.length:Int).toNat) (0:Int)) p0 (List.replicate ((p0.length:Int).toNat) (0:Int)).length=rowOver (List.replicate ((p0.length:Int).toNat) (0:Int)) p0 (List.replicate ((p0.length:Int).toNat) (0:Int)).length)∧rowOver (List.replicate ((p0.length:Int).toNat) (0:Int)) p0 (List.replicate ((p0.length:Int).toNat) (0:Int)).length=e0)):kj0 (p0,p1,()) (e0,()):=WPh.of_eq (by kernel_rfl) h
theorem k18s (p0:List Int) (p1:Int) (h:0≤p1∧p0.length+p1≤140737488355328):kj0 (p0,p1,()) ((p0:List Int),()):=by
 obtain⟨h1,h2⟩:=h
 refine k1dh ?_
 rw[wi _ (by omega) (by omega)]
 have e:rowOver (List.replicate ((p0.length:Int).toNat) (0:Int)) p0 (List.replicate ((p0.length:Int).toNat) (0:Int)).length=p0:=k171 _ _ (by simp)
 simp only[e]
 exact⟨by omega,by omega,by omega,by unfold maxLen;omega,by simp,by omega,by trivial,by trivial⟩
noncomputable def kek:Con TB.den:=k3o.fnR (fun x=>(fun(p0:List Int) (p1:Int)=>0≤p1∧p0.length+p1≤140737488355328) x.1 x.2.1) fun x=>((fun(p0:List Int) (p1:Int)=>(p0:List Int)) x.1 x.2.1,())
theorem kmo:kek.Ok Try.prog TB:=Con.ok_fn k3o bd93 fun x h=>k1ag (k18s x.1 x.2.1 h)
def k55:Con TB.den:=Con.mk0 50 [.one (.d (.sl (.int .u8))),.one (.d (.int .u64))] [] (.one (.one (.d (.sl (.int .u8))))) []
abbrev k16e:=HL TB.den (hsT k55.ins (hsOs k55.pre))
abbrev knd:=HL TB.den (hsV k55.res (hsOs k55.post))
noncomputable def kf3:Cx TB:=⟨inf,[kek,k8c],[],4,[]⟩
noncomputable def kmm:Code:=Try.f50.body.getD .skip
noncomputable def kqr:List ResultVar:=Try.f50.results.toList
noncomputable def k11p (o:knd):An TB:= .no
def klt (x:k16e) (o:knd):Prop:=WPh TB kf3 9 0 kmm (k11p o) (k55.st TB x) (retTQ TB kf3 k55 kqr o)
theorem k1gx (o:knd):OblH TB kf3 9 0 kmm (k11p o) (retTQ TB kf3 k55 kqr o):=
 OblH.ofC (X:=True) (by kernel_rfl) trivial
theorem k1gy {x:k16e} {o:knd} (h:klt x o):k55.Snd Try.prog x o:=
 Con.soundH (c:=k55) (C:=kf3) TBok ⟨inf_ok,(all_cons kmo (all_cons kd5 all_nil)),all_nil⟩ mix Try.func50 (show Try.f50.body=some kmm by kernel_rfl) (show Try.f50.ntmps=9 by kernel_rfl) (show Try.f50.results.toList=kqr by kernel_rfl) rfl h (k1gx o)
theorem k1m1 {p0:List Int} {p1:Int} {r0:List Int} (h:
((0≤(8:Int)∧p0.length+(8:Int)≤140737488355328)∧(p0=p0)∧(U64 p1∧(0≤(8:Int)∧(8:Int)≤8)∧p0.length≤137438953472)∧(p0++dig (8:Int).toNat p1)=r0)):klt (p0,p1,()) (r0,()):=WPh.of_eq (by kernel_rfl) h
theorem bd50:Callable Try.prog 50:=⟨by rw[Try.func50];kernel_rfl,by rw[Try.func50];show some _≠some _;decide⟩
theorem k1dj (p0:List Int) (p1:Int) (h:U64 p1∧p0.length≤137438953472):klt (p0,p1,()) (((p0++dig 8 p1):List Int),()):=by
 obtain⟨h1,h2⟩:=h
 refine k1m1 ⟨⟨by omega,by omega⟩,by trivial,⟨h1,by omega,h2⟩,rfl⟩
noncomputable def kp2:Con TB.den:=k55.fnR (fun x=>(fun(p0:List Int) (p1:Int)=>U64 p1∧p0.length≤137438953472) x.1 x.2.1) fun x=>((fun(p0:List Int) (p1:Int)=>((p0++dig 8 p1):List Int)) x.1 x.2.1,())
theorem k14m:kp2.Ok Try.prog TB:=Con.ok_fn k55 bd50 fun x h=>k1gy (k1dj x.1 x.2.1 h)
def ko:Con TB.den:=Con.mk0 49 [.one (.d (.sl (.int .u8))),.agg [.d (.int .u64),.d (.int .u64),.d (.int .u64),.d (.int .u64)]] [] (.one (.one (.d (.sl (.int .u8))))) []
abbrev kja:=HL TB.den (hsT ko.ins (hsOs ko.pre))
abbrev k8g:=HL TB.den (hsV ko.res (hsOs ko.post))
noncomputable def k69:Cx TB:=⟨inf,[kp2],[],4,[]⟩
noncomputable def k9v:Code:=Try.f49.body.getD .skip
noncomputable def kb4:List ResultVar:=Try.f49.results.toList
noncomputable def kh5 (o:k8g):An TB:= .no
def k9r (x:kja) (o:k8g):Prop:=WPh TB k69 21 0 k9v (kh5 o) (ko.st TB x) (retTQ TB k69 ko kb4 o)
theorem ksj (o:k8g):OblH TB k69 21 0 k9v (kh5 o) (retTQ TB k69 ko kb4 o):=
 OblH.ofC (X:=True) (by kernel_rfl) trivial
theorem ksd {x:kja} {o:k8g} (h:k9r x o):ko.Snd Try.prog x o:=
 Con.soundH (c:=ko) (C:=k69) TBok ⟨inf_ok,(all_cons k14m all_nil),all_nil⟩ mix Try.func49 (show Try.f49.body=some k9v by kernel_rfl) (show Try.f49.ntmps=21 by kernel_rfl) (show Try.f49.results.toList=kb4 by kernel_rfl) rfl h (ksj o)
theorem ku8 {p0:List Int} {p1:TNote} {r0:List Int} (h:
((U64 p1.Value∧p0.length≤137438953472)∧(U64 p1.Owner∧(p0++dig 8 p1.Value).length≤137438953472)∧let r1:List Int:=((p0++dig 8 p1.Value)++dig 8 p1.Owner)
(U64 p1.Rho∧r1.length≤137438953472)∧(U64 p1.Blind∧(r1++dig 8 p1.Rho).length≤137438953472)∧((r1++dig 8 p1.Rho)++dig 8 p1.Blind)=r0)):k9r (p0,p1.Value,p1.Owner,p1.Rho,p1.Blind,()) (r0,()):=WPh.of_eq (by kernel_rfl) h
theorem bd49:Callable Try.prog 49:=⟨by rw[Try.func49];kernel_rfl,by rw[Try.func49];show some _≠some _;decide⟩
theorem krk (p0:List Int) (p1:TNote) (h:NR p1∧p0.length≤68719476736):k9r (p0,p1.Value,p1.Owner,p1.Rho,p1.Blind,()) (((p0++encN p1):List Int),()):=by
 obtain⟨hn,hl⟩:=h
 refine ku8 ⟨⟨hn.v,by omega⟩,⟨hn.o,by simp;omega⟩,⟨hn.r,by simp;omega⟩,⟨hn.b,by simp;omega⟩,?_⟩
 simp[encN,List.append_assoc]
noncomputable def kgs:Con TB.den:=ko.fnR (fun x=>(fun(p0:List Int) (p1:TNote)=>NR p1∧p0.length≤68719476736) x.1 (TNote.mk x.2.1 x.2.2.1 x.2.2.2.1 x.2.2.2.2.1)) fun x=>((fun(p0:List Int) (p1:TNote)=>((p0++encN p1):List Int)) x.1 (TNote.mk x.2.1 x.2.2.1 x.2.2.2.1 x.2.2.2.2.1),())
theorem kud:kgs.Ok Try.prog TB:=Con.ok_fn ko bd49 fun x h=>ksd (krk x.1 (TNote.mk x.2.1 x.2.2.1 x.2.2.2.1 x.2.2.2.2.1) h)
def km:Con TB.den:=Con.mk0 47 [.agg [.d (.sl (.st 0)),.d (.sl (.st 1)),.d (.int .u64)]] [] (.one (.one (.d (.bool)))) []
abbrev kkt:=HL TB.den (hsT km.ins (hsOs km.pre))
abbrev k20:=HL TB.den (hsV km.res (hsOs km.post))
noncomputable def k2i:Cx TB:=⟨inf,[k8b,kb2,kfl],[],4,[]⟩
noncomputable def k5n:Code:=Try.f47.body.getD .skip
noncomputable def k89:List ResultVar:=Try.f47.results.toList
def kvo (o:k20):=qS TB k2i 36 0 (cB (cB (cB k5n))) .no (retTQ TB k2i km k89 o)
def k3l:Tm:=⟨[0],[.cells [.d (.sl (.st 0)),.d (.sl (.st 1)),.d (.int .u64)]],[1,23,24,25],[.one (.ptr 0 0),.one (.d (.sl (.st 0))),.one (.d (.int .i64)),.one (.d (.int .i64))],2⟩
def kvg (o:k20) (nx1:NX TB k3l):=qM TB 0 k3l nx1 (blockT TB 0 (kvo o))
def k6i (o:k20) (nx1:NX TB k3l) (i:HL TB.den k3l.hs):Prop:=WP TB k2i 36 0 (cA (cA (cB (cA (cB (cB k5n)))))) .no (k3l.fill TB i) (kvg o nx1)
noncomputable def kvk (o:k20):An TB:= .lp [] k3l (k6i o) fun nx1=> .no
noncomputable def kwd (o:k20):An TB:= .nd [] .no [] (.nd [] (.nd [] .no [] (kvk o)) [] .no)
noncomputable def kjd (o:k20):An TB:= .nd [] .no [] (kwd o)
def ka6 (x:kkt) (o:k20):Prop:=WPh TB k2i 36 0 k5n (kjd o) (km.st TB x) (retTQ TB k2i km k89 o)
theorem kuw (o:k20):OblH TB k2i 36 0 k5n (kjd o) (retTQ TB k2i km k89 o):=
 OblH.ofC (X:=((∀nx i,(k6i o) nx i=(k6i o) nx i)∧(∀nx1:NX TB k3l,True)∧True)) (by kernel_rfl) ⟨fun _ _=>rfl,fun _=>trivial,trivial⟩
theorem kug {x:kkt} {o:k20} (h:ka6 x o):km.Snd Try.prog x o:=
 Con.soundH (c:=km) (C:=k2i) TBok ⟨inf_ok,(all_cons kcv (all_cons kjc (all_cons kps all_nil))),all_nil⟩ mix Try.func47 (show Try.f47.body=some k5n by kernel_rfl) (show Try.f47.ntmps=36 by kernel_rfl) (show Try.f47.results.toList=k89 by kernel_rfl) rfl h (kuw o)
theorem kwx {p0:TWitness} {r0:Bool} (h:
((decide (4<(p0.Ins.length:Int))=true→
 false=r0)∧
(decide (4<(p0.Ins.length:Int))=false→
(decide (4<(p0.Outs.length:Int))=true→
 false=r0)∧
(decide (4<(p0.Outs.length:Int))=false→
([p0.Secret].length≤9223372036854775807)∧((!(allB [p0.Secret]))=true→
 false=r0)∧
((!(allB [p0.Secret]))=false→
 Md.Loop (p0.Ins,((p0.Ins.length:Int):Int),(0:Int),p0.Ins,p0.Outs,p0.Secret,()) (k6i (r0,()))))))):ka6 (p0.Ins,p0.Outs,p0.Secret,()) (r0,()):=WPh.of_eq (by kernel_rfl) h
def kjb (r0:Bool) (k1:Int→Prop) (s23:List TSpent) (s24:Int) (h0_0:List TSpent) (h0_1:List TNote) (h0_2:Int) (s25:Int):Prop:=
(decide (s25<s24)=true→
(0≤s25)∧s25<(s23.length:Int)∧((ix s23 s25).Path.length≤9223372036854775807)∧((!(spendV (ix s23 s25)))=true→
 false=r0)∧
((!(spendV (ix s23 s25)))=false→
 k1 (IntKind.i64.wrap (s25+1):Int)))∧
(decide (s25<s24)=false→
(h0_1.length≤9223372036854775807)∧(h0_1.all noteV)=r0)
theorem kua {r0:Bool} {s23:List TSpent} {s24:Int} {h0_0:List TSpent} {h0_1:List TNote} {h0_2:Int} {s25:Int} (inv:Int→Prop) (μ:Int→Nat) (h0:inv s25) (hs:∀(s25:Int),inv s25→kjb r0 (fun s25q=>inv s25q∧μ s25q<μ s25) s23 s24 h0_0 h0_1 h0_2 s25):Md.Loop (s23,s24,s25,h0_0,h0_1,h0_2,()) (k6i (r0,())):=
 ⟨⟨fun s:(List TSpent)×Int×Int×(List TSpent)×(List TNote)×Int×Unit=>(s.1=s23∧s.2.1=s24∧s.2.2.2.1=h0_0∧s.2.2.2.2.1=h0_1∧s.2.2.2.2.2.1=h0_2)∧inv s.2.2.1,fun s:(List TSpent)×Int×Int×(List TSpent)×(List TNote)×Int×Unit=>μ s.2.2.1,⟨⟨rfl,rfl,rfl,rfl,rfl⟩,h0⟩,fun(s23p,s24p,s25p,h0_0p,h0_1p,h0_2p,()) ⟨⟨eq0,eq1,eq2,eq3,eq4⟩,hi⟩=>by
  have eq0:s23p=s23:=eq0;subst s23p;have eq1:s24p=s24:=eq1;subst s24p;have eq2:h0_0p=h0_0:=eq2;subst h0_0p;have eq3:h0_1p=h0_1:=eq3;subst h0_1p;have eq4:h0_2p=h0_2:=eq4;subst h0_2p;exact mpr_of (by kernel_rfl) ((congrArg (fun k=>kjb r0 k s23 s24 h0_0 h0_1 h0_2 s25p) (lpk1 (⟨rfl,rfl,rfl,rfl,rfl⟩:s23=s23∧s24=s24∧h0_0=h0_0∧h0_1=h0_1∧h0_2=h0_2) inv (fun s25q=>μ s25q<μ s25p))).mpr (hs s25p hi))⟩⟩
theorem bd47:Callable Try.prog 47:=⟨by rw[Try.func47];kernel_rfl,by rw[Try.func47];show some _≠some _;decide⟩
theorem ksm (p0:TWitness) (h:p0.Ins.length≤9223372036854775807∧p0.Outs.length≤9223372036854775807∧(∀x∈p0.Ins,x.Path.length≤9223372036854775807)):ka6 (p0.Ins,p0.Outs,p0.Secret,()) (((rightV p0):Bool),()):=by
 obtain⟨h1,h2,h3⟩:=h
 have no:¬(p0.Ins.length≤4∧p0.Outs.length≤4∧p0.Secret<18446744069414584321∧(∀x∈p0.Ins,spendV x=true)∧∀x∈p0.Outs,noteV x=true)→false=rightV p0:=by
  intro h
  cases hr:rightV p0 with
  |false=>rfl
  |true=>exact(h (k96.1 hr)).elim
 have hs:allB [p0.Secret]=decide (p0.Secret<18446744069414584321):=by simp[allB]
 refine kwx ⟨fun h=>no fun a=> ?_,fun e1=>⟨fun h=>no fun a=> ?_,fun e2=>⟨by simp,fun h=>no fun a=> ?_,fun e3=> ?_⟩⟩⟩
 ·have h:=of_decide_eq_true h;omega
 ·have h:=of_decide_eq_true h;omega
 ·rw[hs,decide_eq_true a.2.2.1]at h;cases h
 have e1:=of_decide_eq_false e1
 have e2:=of_decide_eq_false e2
 have e3:p0.Secret<18446744069414584321:=by rw[hs]at e3;simpa using e3
 refine kua (AllI spendV p0.Ins) (fun i=>(p0.Ins.length-i).toNat) AllI.start ?_
 intro i hi
 refine⟨fun hh=> ?_,fun hh=> ?_⟩
 ·have hh:=of_decide_eq_true hh
  have hm:=ix_mem p0.Ins i hi.1 hh
  refine⟨hi.1,hh,h3 _ hm,fun e=>no fun a=> ?_,fun e=>hi.next hh (by omega) (by simpa using e)⟩
  rw[a.2.2.2.1 _ hm]at e;cases e
 ·have ha:=hi.done (of_decide_eq_false hh)
  refine⟨h2,?_⟩
  cases hn:p0.Outs.all noteV with
  |false=>exact no fun a=>by rw[List.all_eq_true.2 a.2.2.2.2]at hn;cases hn
  |true=>exact(k96.2 ⟨by omega,by omega,e3,List.all_eq_true.1 ha,List.all_eq_true.1 hn⟩).symm
noncomputable def khb:Con TB.den:=km.fnR (fun x=>(fun(p0:TWitness)=>p0.Ins.length≤9223372036854775807∧p0.Outs.length≤9223372036854775807∧(∀x∈p0.Ins,x.Path.length≤9223372036854775807)) (TWitness.mk x.1 x.2.1 x.2.2.1)) fun x=>((fun(p0:TWitness)=>((rightV p0):Bool)) (TWitness.mk x.1 x.2.1 x.2.2.1),())
theorem kv0:khb.Ok Try.prog TB:=Con.ok_fn km bd47 fun x h=>kug (ksm (TWitness.mk x.1 x.2.1 x.2.2.1) h)
def ku:Con TB.den:=Con.mk0 92 [.one (.own 0),.one (.d (.int .i64))] [.tip (.int .u8)] (.one (.one (.own 0))) [.tip (.int .u8)]
abbrev klp:=HL TB.den (hsT ku.ins (hsOs ku.pre))
abbrev k4m:=HL TB.den (hsV ku.res (hsOs ku.post))
noncomputable def k3y:Cx TB:=⟨inf,[k8c],[],4,[]⟩
noncomputable def k7m:Code:=Try.f92.body.getD .skip
noncomputable def k97:List ResultVar:=Try.f92.results.toList
def k8e:Tm:=⟨[0],[.tip (.int .u8)],[0,1],[.one (.own 0),.one (.d (.int .i64))],1⟩
def kjj (o:k4m) (i:HL TB.den k8e.hs):Prop:=ghs TB [] (k8e.fill TB i) fun s=>WP TB k3y 15 1 (cB (cB k7m)) .no s (retTQ TB k3y ku k97 o)
structure k3u (o:k4m) (i:HL TB.den k8e.hs):Prop where
 h:kjj o i
noncomputable def ky6 (o:k4m):An TB:= .jn k8e (k3u o) [] .no [] .no
noncomputable def kki (o:k4m):An TB:= .nd [] .no [] (ky6 o)
def kb9 (x:klp) (o:k4m):Prop:=WPh TB k3y 15 1 k7m (kki o) (ku.st TB x) (retTQ TB k3y ku k97 o)
theorem kvd (o:k4m):OblH TB k3y 15 1 k7m (kki o) (retTQ TB k3y ku k97 o):=
 OblH.ofC (X:=((∀i,(k3u o) i=kjj o i)∧True)) (by kernel_rfl) ⟨fun _=>propext ⟨fun h=>h.1,fun h=>⟨h⟩⟩,trivial⟩
theorem kv4 {x:klp} {o:k4m} (h:kb9 x o):ku.Snd Try.prog x o:=
 Con.soundH (c:=ku) (C:=k3y) TBok ⟨inf_ok,(all_cons kd5 all_nil),all_nil⟩ mix Try.func92 (show Try.f92.body=some k7m by kernel_rfl) (show Try.f92.ntmps=15 by kernel_rfl) (show Try.f92.results.toList=k97 by kernel_rfl) rfl h (kvd o)
theorem kx4 {p1:Int} {w0:List Int} {e0:List Int} (h:
((decide (p1<0)=true→
(w0=w0)∧k3u (e0,()) ((0:Int),w0,()))∧
(decide (p1<0)=false→
(decide (4294967295<p1)=true→
(w0=w0)∧k3u (e0,()) ((0:Int),w0,()))∧
(decide (4294967295<p1)=false→
(w0=w0)∧k3u (e0,()) (p1,w0,()))))):kb9 (p1,w0,()) (e0,()):=WPh.of_eq (by kernel_rfl) h
theorem ksq {e0:List Int} {s1:Int} {g0:List Int} (h:
((g0=g0)∧(U64 (IntKind.u64.wrap s1)∧(0≤(4:Int)∧(4:Int)≤8)∧g0.length≤137438953472)∧let r1:List Int:=(g0++dig (4:Int).toNat (IntKind.u64.wrap s1))
(r1=r1)∧r1=e0)):k3u (e0,()) (s1,g0,()):=⟨mpr_of (by kernel_rfl) h⟩
theorem bd92:Callable Try.prog 92:=⟨by rw[Try.func92];kernel_rfl,by rw[Try.func92];show some _≠some _;decide⟩
theorem kuz (p1:Int) (w0:List Int) (h:(-9223372036854775808≤p1∧p1≤9223372036854775807)∧w0.length≤137438953472):kb9 (p1,w0,()) (((w0++dig 4 (len4 p1)):List Int),()):=by
 obtain⟨h1,h2⟩:=h
 have j:∀n,0≤n→n≤4294967295→len4 p1=n→k3u ((w0++dig 4 (len4 p1):List Int),()) (n,w0,()):=by
  intro n h0 h1 e
  refine ksq ?_
  rw[wu n (by omega) (by omega),e]
  exact⟨rfl,⟨⟨h0,by omega⟩,by omega,h2⟩,by trivial,rfl⟩
 refine kx4 ⟨fun h=>⟨rfl,j 0 (by omega) (by omega) ?_⟩,fun h=>⟨fun h' =>⟨rfl,j 0 (by omega) (by omega) ?_⟩,fun h' =>⟨rfl,j p1 ?_ ?_ ?_⟩⟩⟩
 ·have h:=of_decide_eq_true h;exact if_pos (.inl h)
 ·have h' :=of_decide_eq_true h';exact if_pos (.inr h')
 ·have h:=of_decide_eq_false h;omega
 ·have h' :=of_decide_eq_false h';omega
 ·have h:=of_decide_eq_false h;have h' :=of_decide_eq_false h';exact len4_in ⟨by omega,by omega⟩
noncomputable def kc8:Con TB.den:=ku.fnR (fun x=>(fun(p1:Int) (w0:List Int)=>(-9223372036854775808≤p1∧p1≤9223372036854775807)∧w0.length≤137438953472) x.1 x.2.1) fun x=>((fun(p1:Int) (w0:List Int)=>((w0++dig 4 (len4 p1)):List Int)) x.1 x.2.1,())
theorem kkk:kc8.Ok Try.prog TB:=Con.ok_fn ku bd92 fun x h=>kv4 (kuz x.1 x.2.1 h)
def k5z:Con TB.den:=Con.mk0 48 [.one (.d (.sl (.int .u8))),.one (.d (.int .i64))] [] (.one (.one (.d (.sl (.int .u8))))) []
abbrev k1bm:=HL TB.den (hsT k5z.ins (hsOs k5z.pre))
abbrev kqa:=HL TB.den (hsV k5z.res (hsOs k5z.post))
noncomputable def kh8:Cx TB:=⟨inf,[kek,kc8],[],4,[]⟩
noncomputable def kp4:Code:=Try.f48.body.getD .skip
noncomputable def ku0:List ResultVar:=Try.f48.results.toList
noncomputable def k16f (o:kqa):An TB:= .no
def kp7 (x:k1bm) (o:kqa):Prop:=WPh TB kh8 9 0 kp4 (k16f o) (k5z.st TB x) (retTQ TB kh8 k5z ku0 o)
theorem k1ly (o:kqa):OblH TB kh8 9 0 kp4 (k16f o) (retTQ TB kh8 k5z ku0 o):=
 OblH.ofC (X:=True) (by kernel_rfl) trivial
theorem k1im {x:k1bm} {o:kqa} (h:kp7 x o):k5z.Snd Try.prog x o:=
 Con.soundH (c:=k5z) (C:=kh8) TBok ⟨inf_ok,(all_cons kmo (all_cons kkk all_nil)),all_nil⟩ mix Try.func48 (show Try.f48.body=some kp4 by kernel_rfl) (show Try.f48.ntmps=9 by kernel_rfl) (show Try.f48.results.toList=ku0 by kernel_rfl) rfl h (k1ly o)
theorem k1mi {p0:List Int} {p1:Int} {r0:List Int} (h:
((0≤(4:Int)∧p0.length+(4:Int)≤140737488355328)∧(p0=p0)∧((-9223372036854775808≤p1∧p1≤9223372036854775807)∧p0.length≤137438953472)∧(p0++dig 4 (len4 p1))=r0)):kp7 (p0,p1,()) (r0,()):=WPh.of_eq (by kernel_rfl) h
theorem bd48:Callable Try.prog 48:=⟨by rw[Try.func48];kernel_rfl,by rw[Try.func48];show some _≠some _;decide⟩
theorem k1gm (p0:List Int) (p1:Int) (h:(-9223372036854775808≤p1∧p1≤9223372036854775807)∧p0.length≤137438953472):kp7 (p0,p1,()) (((p0++dig 4 (len4 p1)):List Int),()):=by
 obtain⟨h1,h2⟩:=h
 exact k1mi ⟨⟨by omega,by omega⟩,by trivial,⟨h1,h2⟩,rfl⟩
noncomputable def k147:Con TB.den:=k5z.fnR (fun x=>(fun(p0:List Int) (p1:Int)=>(-9223372036854775808≤p1∧p1≤9223372036854775807)∧p0.length≤137438953472) x.1 x.2.1) fun x=>((fun(p0:List Int) (p1:Int)=>((p0++dig 4 (len4 p1)):List Int)) x.1 x.2.1,())
theorem k1n1:k147.Ok Try.prog TB:=Con.ok_fn k5z bd48 fun x h=>k1im (k1gm x.1 x.2.1 h)
def k4f:Con TB.den:=Con.mk0 51 [.one (.d (.sl (.int .u8))),.one (.d (.sl (.int .u64)))] [] (.one (.one (.d (.sl (.int .u8))))) []
abbrev k16o:=HL TB.den (hsT k4f.ins (hsOs k4f.pre))
abbrev kb7:=HL TB.den (hsV k4f.res (hsOs k4f.post))
noncomputable def k80:Cx TB:=⟨inf,[kek,kc8,k8c],[],4,[]⟩
noncomputable def kbw:Code:=Try.f51.body.getD .skip
noncomputable def kjy:List ResultVar:=Try.f51.results.toList
def k1ko (o:kb7):=qS TB k80 28 0 (cB (cB (cB kbw))) .no (retTQ TB k80 k4f kjy o)
def kbz:Tm:=⟨[0],[.tip (.int .u8)],[5,17,18,19],[.one (.own 0),.one (.d (.sl (.int .u64))),.one (.d (.int .i64)),.one (.d (.int .i64))],1⟩
def kfs (o:kb7) (nx1:NX TB kbz) (i:HL TB.den kbz.hs):Prop:=WP TB k80 28 0 (cA (cA (cB (cA (cB (cB kbw)))))) .no (kbz.fill TB i) (qM TB 0 kbz nx1 (blockT TB 0 (k1ko o)))
noncomputable def k1kf (o:kb7):An TB:= .nd [] .no [] (.lp [] kbz (kfs o) fun nx1=> .no)
noncomputable def k13a (o:kb7):An TB:= .nd [] .no [] (.nd [] .no [] (.nd [] (k1kf o) [] .no))
def kmt (x:k16o) (o:kb7):Prop:=WPh TB k80 28 0 kbw (k13a o) (k4f.st TB x) (retTQ TB k80 k4f kjy o)
theorem k1g3 (o:kb7):OblH TB k80 28 0 kbw (k13a o) (retTQ TB k80 k4f kjy o):=
 OblH.ofC (X:=((∀nx i,(kfs o) nx i=(kfs o) nx i)∧(∀nx1:NX TB kbz,True)∧True)) (by kernel_rfl) ⟨fun _ _=>rfl,fun _=>trivial,trivial⟩
theorem k1h0 {x:k16o} {o:kb7} (h:kmt x o):k4f.Snd Try.prog x o:=
 Con.soundH (c:=k4f) (C:=k80) TBok ⟨inf_ok,(all_cons kmo (all_cons kkk (all_cons kd5 all_nil))),all_nil⟩ mix Try.func51 (show Try.f51.body=some kbw by kernel_rfl) (show Try.f51.ntmps=28 by kernel_rfl) (show Try.f51.results.toList=kjy by kernel_rfl) rfl h (k1g3 o)
theorem k1iw {p0:List Int} {p1:List Int} {r0:List Int} (h:
(let v1:Int:=IntKind.i64.wrap (4+(IntKind.i64.wrap (8*(p1.length:Int))))
(0≤v1∧p0.length+v1≤140737488355328)∧(p0=p0)∧((-9223372036854775808≤(p1.length:Int)∧(p1.length:Int)≤9223372036854775807)∧p0.length≤137438953472)∧((p0++dig 4 (len4 (p1.length:Int)))=(p0++dig 4 (len4 (p1.length:Int))))∧Md.Loop (p1,((p1.length:Int):Int),(0:Int),((p0++dig 4 (len4 (p1.length:Int))):List Int),()) (kfs (r0,())))):kmt (p0,p1,()) (r0,()):=WPh.of_eq (by kernel_rfl) h
def k13v (r0:List Int) (k1:Int→List Int→Prop) (s17:List Int) (s18:Int) (s19:Int) (g0:List Int):Prop:=
(decide (s19<s18)=true→
(0≤s19)∧s19<(s17.length:Int)∧(g0=g0)∧(U64 (ix s17 s19)∧(0≤(8:Int)∧(8:Int)≤8)∧g0.length≤137438953472)∧((g0++dig (8:Int).toNat (ix s17 s19))=(g0++dig (8:Int).toNat (ix s17 s19)))∧k1 (IntKind.i64.wrap (s19+1):Int) ((g0++dig (8:Int).toNat (ix s17 s19)):List Int))∧
(decide (s19<s18)=false→
 g0=r0)
theorem k1hz {r0:List Int} {s17:List Int} {s18:Int} {s19:Int} {g0:List Int} (inv:Int→List Int→Prop) (μ:Int→List Int→Nat) (h0:inv s19 g0) (hs:∀(s19:Int) (g0:List Int),inv s19 g0→k13v r0 (fun s19q g0q=>inv s19q g0q∧μ s19q g0q<μ s19 g0) s17 s18 s19 g0):Md.Loop (s17,s18,s19,g0,()) (kfs (r0,())):=
 ⟨⟨fun s:(List Int)×Int×Int×(List Int)×Unit=>(s.1=s17∧s.2.1=s18)∧inv s.2.2.1 s.2.2.2.1,fun s:(List Int)×Int×Int×(List Int)×Unit=>μ s.2.2.1 s.2.2.2.1,⟨⟨rfl,rfl⟩,h0⟩,fun(s17p,s18p,s19p,g0p,()) ⟨⟨eq0,eq1⟩,hi⟩=>by
  have eq0:s17p=s17:=eq0;subst s17p;have eq1:s18p=s18:=eq1;subst s18p;exact mpr_of (by kernel_rfl) ((congrArg (fun k=>k13v r0 k s17 s18 s19p g0p) (lpk2 (⟨rfl,rfl⟩:s17=s17∧s18=s18) inv (fun s19q g0q=>μ s19q g0q<μ s19p g0p))).mpr (hs s19p g0p hi))⟩⟩
theorem bd51:Callable Try.prog 51:=⟨by rw[Try.func51];kernel_rfl,by rw[Try.func51];show some _≠some _;decide⟩
theorem k1d5 (p0:List Int) (p1:List Int) (h:Us p1∧p0.length≤68719476736∧p1.length≤4294967295):kmt (p0,p1,()) (((p0++encL p1):List Int),()):=by
 obtain⟨h1,h2,h3⟩:=h
 refine k1iw ?_
 rw[wi (8*(p1.length:Int)) (by omega) (by omega),wi (4+8*(p1.length:Int)) (by omega) (by omega)]
 refine⟨⟨by omega,by omega⟩,by trivial,⟨by omega,by omega⟩,by trivial,?_⟩
 refine k1hz (fun i g=>0≤i∧i≤p1.length∧g=p0++dig 4 (len4 p1.length)++(p1.take i.toNat).flatMap (dig 8)) (fun i _=>(p1.length-i).toNat) ⟨by omega,by omega,by simp⟩ ?_
 rintro i g ⟨g0,g1,rfl⟩
 refine⟨fun h=> ?_,fun h=> ?_⟩
 ·have h:=of_decide_eq_true h
  have hx:=h1 _ (ix_mem p1 i g0 h)
  rw[inc i p1.length g0 h (by omega)]
  refine⟨g0,h,by trivial,⟨hx,by omega,?_⟩,by trivial,⟨by omega,by omega,?_⟩,by omega⟩
  ·simp only[List.length_append,kh,kjs,List.length_take];omega
  ·rw[k16 p1 i g0 h,List.flatMap_append,List.append_assoc]
   simp
 ·have h:=of_decide_eq_false h
  rw[List.take_of_length_le (by omega),List.append_assoc]
  rfl
noncomputable def kyw:Con TB.den:=k4f.fnR (fun x=>(fun(p0:List Int) (p1:List Int)=>Us p1∧p0.length≤68719476736∧p1.length≤4294967295) x.1 x.2.1) fun x=>((fun(p0:List Int) (p1:List Int)=>((p0++encL p1):List Int)) x.1 x.2.1,())
theorem k1lm:kyw.Ok Try.prog TB:=Con.ok_fn k4f bd51 fun x h=>k1h0 (k1d5 x.1 x.2.1 h)
end Go.Proofs.Ytpffhgljgpjenaa
end
