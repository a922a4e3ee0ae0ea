/-
  Parts of the proofs that the laws of this seat hold of every input, merged by a program: a machine over pure data that is sound for the model, what each function of the translation does in it, and plain lemmas. No conditions but those in each theorem.
-/
import Derived.Test.YtpffhgljgpjenaaA6
set_option linter.all false
set_option maxRecDepth 100000
noncomputable section
namespace Go.Proofs.Ytpffhgljgpjenaa
open Go Go.Bv Go.Cv Go.Md Go.RowKit
def k2n:Con TB.den:=Con.mk0 21 [.agg [.d (.bool),.d (.int .u64),.d (.int .i64),.d (.sl (.st 3)),.d (.sl (.st 8)),.d (.sl (.st 8))],.agg [.d (.int .i64),.d (.int .u64),.d (.sl (.int .u64)),.d (.sl (.int .u64)),.d (.sl (.int .u64)),.d (.int .u64),.d (.int .u64),.d (.int .u64),.d (.int .u64),.d (.int .u64)],.agg [.d (.sl (.st 0)),.d (.sl (.st 1)),.d (.int .u64)]] [] (.one (.one (.d (.int .i64)))) []
abbrev k15o:=HL TB.den (hsT k2n.ins (hsOs k2n.pre))
abbrev k41:=HL TB.den (hsV k2n.res (hsOs k2n.post))
noncomputable def k34:Cx TB:=⟨inf,[knw,ky8,kdt,kjp,kvh,ksd],[],4,[]⟩
noncomputable def k65:Code:=Try.f21.body.getD .skip
noncomputable def kbl:List ResultVar:=Try.f21.results.toList
def kcl:Tm:=⟨[1,2],[.cells [.d (.int .i64),.d (.int .u64),.d (.sl (.int .u64)),.d (.sl (.int .u64)),.d (.sl (.int .u64)),.d (.int .u64),.d (.int .u64),.d (.int .u64),.d (.int .u64),.d (.int .u64)],.cells [.d (.sl (.st 0)),.d (.sl (.st 1)),.d (.int .u64)]],[4,5],[.one (.ptr 0 0),.one (.ptr 1 0)],47⟩
def kz8 (o:k41) (i:HL TB.den kcl.hs):Prop:=ghs TB [] (kcl.fill TB i) fun s=>WP TB k34 107 0 (cB (cB (cB (cB (cB k65))))) .no s (retTQ TB k34 k2n kbl o)
structure k93 (o:k41) (i:HL TB.den kcl.hs):Prop where
 h:kz8 o i
def k1hg (o:k41):=qS TB k34 107 0 (cB (cB (cB (cB k65)))) (.jn kcl (k93 o) [] .no [] .no) (retTQ TB k34 k2n kbl o)
def kbg:Tm:=⟨[0,1,2],[.cells [.d (.bool),.d (.int .u64),.d (.int .i64),.d (.sl (.st 3)),.d (.sl (.st 8)),.d (.sl (.st 8))],.cells [.d (.int .i64),.d (.int .u64),.d (.sl (.int .u64)),.d (.sl (.int .u64)),.d (.sl (.int .u64)),.d (.int .u64),.d (.int .u64),.d (.int .u64),.d (.int .u64),.d (.int .u64)],.cells [.d (.sl (.st 0)),.d (.sl (.st 1)),.d (.int .u64)]],[3,4,5,9],[.one (.ptr 0 0),.one (.ptr 1 0),.one (.ptr 2 0),.one (.d (.int .i64))],3⟩
def kf2 (o:k41) (nx2:NX TB kbg) (i:HL TB.den kbg.hs):Prop:=WP TB k34 107 0 (cA (cA (cB (cA (cB (cB (cB k65))))))) .no (kbg.fill TB i) (qM TB 0 kbg nx2 (blockT TB 2 (k1hg o)))
noncomputable def k1gq (o:k41):An TB:= .nd [] .no [] (.lp [] kbg (kf2 o) fun nx2=> .no)
noncomputable def k11r (o:k41):An TB:= .nd [] (k1gq o) [] (.jn kcl (k93 o) [] .no [] .no)
def k1jt (o:k41):=qS TB k34 107 0 (cB (cB (cB k65))) (k11r o) (retTQ TB k34 k2n kbl o)
def kar:Tm:=⟨[0,1,2],[.cells [.d (.bool),.d (.int .u64),.d (.int .i64),.d (.sl (.st 3)),.d (.sl (.st 8)),.d (.sl (.st 8))],.cells [.d (.int .i64),.d (.int .u64),.d (.sl (.int .u64)),.d (.sl (.int .u64)),.d (.sl (.int .u64)),.d (.int .u64),.d (.int .u64),.d (.int .u64),.d (.int .u64),.d (.int .u64)],.cells [.d (.sl (.st 0)),.d (.sl (.st 1)),.d (.int .u64)]],[3,4,5,7],[.one (.ptr 0 0),.one (.ptr 1 0),.one (.ptr 2 0),.one (.d (.int .i64))],3⟩
def kej (o:k41) (nx1:NX TB kar) (i:HL TB.den kar.hs):Prop:=WP TB k34 107 0 (cA (cA (cB (cA (cB (cB k65)))))) .no (kar.fill TB i) (qM TB 0 kar nx1 (blockT TB 0 (k1jt o)))
noncomputable def k1g9 (o:k41):An TB:= .nd [] .no [] (.lp [] kar (kej o) fun nx1=> .no)
noncomputable def k112 (o:k41):An TB:= .nd [] .no [] (.nd [] .no [] (.nd [] (k1g9 o) [] (k11r o)))
def klz (x:k15o) (o:k41):Prop:=WPh TB k34 107 0 k65 (k112 o) (k2n.st TB x) (retTQ TB k34 k2n kbl o)
theorem k1er (o:k41):OblH TB k34 107 0 k65 (k112 o) (retTQ TB k34 k2n kbl o):=
 OblH.ofC (X:=((∀nx i,(kej o) nx i=(kej o) nx i)∧(∀nx1:NX TB kar,True)∧(∀nx i,(kf2 o) nx i=(kf2 o) nx i)∧(∀nx2:NX TB kbg,True)∧(∀i,(k93 o) i=kz8 o i)∧True)) (by kernel_rfl) ⟨fun _ _=>rfl,fun _=>trivial,fun _ _=>rfl,fun _=>trivial,fun _=>propext ⟨fun h=>h.1,fun h=>⟨h⟩⟩,trivial⟩
theorem k1ga {x:k15o} {o:k41} (h:klz x o):k2n.Snd Try.prog x o:=
 Con.soundH (c:=k2n) (C:=k34) TBok ⟨inf_ok,(all_cons k12d (all_cons k1i3 (all_cons kos (all_cons kvy (all_cons k1f3 (all_cons k1ck all_nil)))))),all_nil⟩ mix Try.func21 (show Try.f21.body=some k65 by kernel_rfl) (show Try.f21.ntmps=107 by kernel_rfl) (show Try.f21.results.toList=kbl by kernel_rfl) rfl h (k1er o)
theorem k1j0 {p0:TPlace} {p1:TStatement} {p2:TWitness} {r0:Int} (h:
((SR p1∧WR p2)∧((!(relV p1 p2))=true→
 1=r0)∧
((!(relV p1 p2))=false→
 Md.Loop ((0:Int),p0.Ideal,p0.M_State,p0.M_Draws,p0.M_Known,p0.M_Seals,p0.M_Proofs,p1.Depth,p1.Anchor,p1.Marks,p1.Commits,p1.Rhos,p1.Deposit,p1.Withdraw,p1.Fee,p1.Account,p1.Bind,p2.Ins,p2.Outs,p2.Secret,()) (kej (r0,()))))):klz (p0.Ideal,p0.M_State,p0.M_Draws,p0.M_Known,p0.M_Seals,p0.M_Proofs,p1.Depth,p1.Anchor,p1.Marks,p1.Commits,p1.Rhos,p1.Deposit,p1.Withdraw,p1.Fee,p1.Account,p1.Bind,p2.Ins,p2.Outs,p2.Secret,()) (r0,()):=WPh.of_eq (by kernel_rfl) h
theorem k1ad {r0:Int} {h1_0:Int} {h1_1:Int} {h1_2:List Int} {h1_3:List Int} {h1_4:List Int} {h1_5:Int} {h1_6:Int} {h1_7:Int} {h1_8:Int} {h1_9:Int} {h2_0:List TSpent} {h2_1:List TNote} {h2_2:Int} (h:
(((TWitness.mk h2_0 h2_1 h2_2).Ins.length≤9223372036854775807)∧let v4:Int:=IntKind.u64.wrap ((inS (TWitness.mk h2_0 h2_1 h2_2).Ins)+h1_5)
((TWitness.mk h2_0 h2_1 h2_2).Outs.length≤9223372036854775807)∧let v5:Int:=IntKind.u64.wrap ((outS (TWitness.mk h2_0 h2_1 h2_2).Outs)+h1_6)
((v4 !=(IntKind.u64.wrap (v5+h1_7)))=true→
 13=r0)∧
((v4 !=(IntKind.u64.wrap (v5+h1_7)))=false→
 0=r0))):k93 (r0,()) (h1_0,h1_1,h1_2,h1_3,h1_4,h1_5,h1_6,h1_7,h1_8,h1_9,h2_0,h2_1,h2_2,()):=⟨mpr_of (by kernel_rfl) h⟩
def k124 (r0:Int) (k1:Int→Prop) (h0_0:Bool) (h0_1:Int) (h0_2:Int) (h0_3:List TQuestion) (h0_4:List TStored) (h0_5:List TStored) (h1_0:Int) (h1_1:Int) (h1_2:List Int) (h1_3:List Int) (h1_4:List Int) (h1_5:Int) (h1_6:Int) (h1_7:Int) (h1_8:Int) (h1_9:Int) (h2_0:List TSpent) (h2_1:List TNote) (h2_2:Int) (s7:Int):Prop:=
(decide (s7<(h2_0.length:Int))=true→
(0≤s7)∧s7<(h1_2.length:Int)∧(0≤s7)∧s7<(h2_0.length:Int)∧((TPlace.mk h0_0 h0_1 h0_2 h0_3 h0_4 h0_5).Ideal=true∧KU (TPlace.mk h0_0 h0_1 h0_2 h0_3 h0_4 h0_5).M_Known∧PR (ix h2_0 s7)∧spendV (ix h2_0 s7)=true)∧let r1:Int:=(inE (rpk (TPlace.mk h0_0 h0_1 h0_2 h0_3 h0_4 h0_5).M_Known) h1_1 (ix h1_2 s7) (ix h2_0 s7))
((r1 !=0)=true→
 r1=r0)∧
((r1 !=0)=false→
 k1 (IntKind.i64.wrap (s7+1):Int)))∧
(decide (s7<(h2_0.length:Int))=false→
 Md.Loop ((0:Int),h0_0,h0_1,h0_2,h0_3,h0_4,h0_5,h1_0,h1_1,h1_2,h1_3,h1_4,h1_5,h1_6,h1_7,h1_8,h1_9,h2_0,h2_1,h2_2,()) (kf2 (r0,())))
theorem k1em {r0:Int} {h0_0:Bool} {h0_1:Int} {h0_2:Int} {h0_3:List TQuestion} {h0_4:List TStored} {h0_5:List TStored} {h1_0:Int} {h1_1:Int} {h1_2:List Int} {h1_3:List Int} {h1_4:List Int} {h1_5:Int} {h1_6:Int} {h1_7:Int} {h1_8:Int} {h1_9:Int} {h2_0:List TSpent} {h2_1:List TNote} {h2_2:Int} {s7:Int} (inv:Int→Prop) (μ:Int→Nat) (h0:inv s7) (hs:∀(s7:Int),inv s7→k124 r0 (fun s7q=>inv s7q∧μ s7q<μ s7) h0_0 h0_1 h0_2 h0_3 h0_4 h0_5 h1_0 h1_1 h1_2 h1_3 h1_4 h1_5 h1_6 h1_7 h1_8 h1_9 h2_0 h2_1 h2_2 s7):Md.Loop (s7,h0_0,h0_1,h0_2,h0_3,h0_4,h0_5,h1_0,h1_1,h1_2,h1_3,h1_4,h1_5,h1_6,h1_7,h1_8,h1_9,h2_0,h2_1,h2_2,()) (kej (r0,())):=
 ⟨⟨fun s:Int×Bool×Int×Int×(List TQuestion)×(List TStored)×(List TStored)×Int×Int×(List Int)×(List Int)×(List Int)×Int×Int×Int×Int×Int×(List TSpent)×(List TNote)×Int×Unit=>(s.2.1=h0_0∧s.2.2.1=h0_1∧s.2.2.2.1=h0_2∧s.2.2.2.2.1=h0_3∧s.2.2.2.2.2.1=h0_4∧s.2.2.2.2.2.2.1=h0_5∧s.2.2.2.2.2.2.2.1=h1_0∧s.2.2.2.2.2.2.2.2.1=h1_1∧s.2.2.2.2.2.2.2.2.2.1=h1_2∧s.2.2.2.2.2.2.2.2.2.2.1=h1_3∧s.2.2.2.2.2.2.2.2.2.2.2.1=h1_4∧s.2.2.2.2.2.2.2.2.2.2.2.2.1=h1_5∧s.2.2.2.2.2.2.2.2.2.2.2.2.2.1=h1_6∧s.2.2.2.2.2.2.2.2.2.2.2.2.2.2.1=h1_7∧s.2.2.2.2.2.2.2.2.2.2.2.2.2.2.2.1=h1_8∧s.2.2.2.2.2.2.2.2.2.2.2.2.2.2.2.2.1=h1_9∧s.2.2.2.2.2.2.2.2.2.2.2.2.2.2.2.2.2.1=h2_0∧s.2.2.2.2.2.2.2.2.2.2.2.2.2.2.2.2.2.2.1=h2_1∧s.2.2.2.2.2.2.2.2.2.2.2.2.2.2.2.2.2.2.2.1=h2_2)∧inv s.1,fun s:Int×Bool×Int×Int×(List TQuestion)×(List TStored)×(List TStored)×Int×Int×(List Int)×(List Int)×(List Int)×Int×Int×Int×Int×Int×(List TSpent)×(List TNote)×Int×Unit=>μ s.1,⟨⟨rfl,rfl,rfl,rfl,rfl,rfl,rfl,rfl,rfl,rfl,rfl,rfl,rfl,rfl,rfl,rfl,rfl,rfl,rfl⟩,h0⟩,fun(s7p,h0_0p,h0_1p,h0_2p,h0_3p,h0_4p,h0_5p,h1_0p,h1_1p,h1_2p,h1_3p,h1_4p,h1_5p,h1_6p,h1_7p,h1_8p,h1_9p,h2_0p,h2_1p,h2_2p,()) ⟨⟨eq0,eq1,eq2,eq3,eq4,eq5,eq6,eq7,eq8,eq9,eq10,eq11,eq12,eq13,eq14,eq15,eq16,eq17,eq18⟩,hi⟩=>by
  have eq0:h0_0p=h0_0:=eq0;subst h0_0p;have eq1:h0_1p=h0_1:=eq1;subst h0_1p;have eq2:h0_2p=h0_2:=eq2;subst h0_2p;have eq3:h0_3p=h0_3:=eq3;subst h0_3p;have eq4:h0_4p=h0_4:=eq4;subst h0_4p;have eq5:h0_5p=h0_5:=eq5;subst h0_5p;have eq6:h1_0p=h1_0:=eq6;subst h1_0p;have eq7:h1_1p=h1_1:=eq7;subst h1_1p;have eq8:h1_2p=h1_2:=eq8;subst h1_2p;have eq9:h1_3p=h1_3:=eq9;subst h1_3p;have eq10:h1_4p=h1_4:=eq10;subst h1_4p;have eq11:h1_5p=h1_5:=eq11;subst h1_5p;have eq12:h1_6p=h1_6:=eq12;subst h1_6p;have eq13:h1_7p=h1_7:=eq13;subst h1_7p;have eq14:h1_8p=h1_8:=eq14;subst h1_8p;have eq15:h1_9p=h1_9:=eq15;subst h1_9p;have eq16:h2_0p=h2_0:=eq16;subst h2_0p;have eq17:h2_1p=h2_1:=eq17;subst h2_1p;have eq18:h2_2p=h2_2:=eq18;subst h2_2p;exact mpr_of (by kernel_rfl) ((congrArg (fun k=>k124 r0 k h0_0 h0_1 h0_2 h0_3 h0_4 h0_5 h1_0 h1_1 h1_2 h1_3 h1_4 h1_5 h1_6 h1_7 h1_8 h1_9 h2_0 h2_1 h2_2 s7p) (lpk1 (⟨rfl,rfl,rfl,rfl,rfl,rfl,rfl,rfl,rfl,rfl,rfl,rfl,rfl,rfl,rfl,rfl,rfl,rfl,rfl⟩:h0_0=h0_0∧h0_1=h0_1∧h0_2=h0_2∧h0_3=h0_3∧h0_4=h0_4∧h0_5=h0_5∧h1_0=h1_0∧h1_1=h1_1∧h1_2=h1_2∧h1_3=h1_3∧h1_4=h1_4∧h1_5=h1_5∧h1_6=h1_6∧h1_7=h1_7∧h1_8=h1_8∧h1_9=h1_9∧h2_0=h2_0∧h2_1=h2_1∧h2_2=h2_2) inv (fun s7q=>μ s7q<μ s7p))).mpr (hs s7p hi))⟩⟩
def k10h (r0:Int) (k2:Int→Prop) (h0_0:Bool) (h0_1:Int) (h0_2:Int) (h0_3:List TQuestion) (h0_4:List TStored) (h0_5:List TStored) (h1_0:Int) (h1_1:Int) (h1_2:List Int) (h1_3:List Int) (h1_4:List Int) (h1_5:Int) (h1_6:Int) (h1_7:Int) (h1_8:Int) (h1_9:Int) (h2_0:List TSpent) (h2_1:List TNote) (h2_2:Int) (s9:Int):Prop:=
(decide (s9<(h2_1.length:Int))=true→
(0≤s9)∧s9<(h2_1.length:Int)∧((TPlace.mk h0_0 h0_1 h0_2 h0_3 h0_4 h0_5).Ideal=true∧KQ (TPlace.mk h0_0 h0_1 h0_2 h0_3 h0_4 h0_5).M_Known∧NR (ix h2_1 s9))∧let r2:Int:=((commP (rpk (TPlace.mk h0_0 h0_1 h0_2 h0_3 h0_4 h0_5).M_Known) (ix h2_1 s9)).getD 0)
 let r3:Bool:=((commP (rpk (TPlace.mk h0_0 h0_1 h0_2 h0_3 h0_4 h0_5).M_Known) (ix h2_1 s9)).isSome)
((!r3)=true→
 1=r0)∧
((!r3)=false→
(0≤s9)∧s9<(h1_3.length:Int)∧((r2 !=(ix h1_3 s9))=true→
 1=r0)∧
((r2 !=(ix h1_3 s9))=false→
(0≤s9)∧s9<(h2_1.length:Int)∧(0≤s9)∧s9<(h1_4.length:Int)∧((((ix h2_1 s9).Rho) !=(ix h1_4 s9))=true→
 1=r0)∧
((((ix h2_1 s9).Rho) !=(ix h1_4 s9))=false→
 k2 (IntKind.i64.wrap (s9+1):Int)))))∧
(decide (s9<(h2_1.length:Int))=false→
(decide (0<h1_5)=true→
(U64 h2_2∧h2_2<18446744069414584321)∧((h1_8 !=(acctS h2_2))=true→
 21=r0)∧
((h1_8 !=(acctS h2_2))=false→
 k93 (r0,()) (h1_0,h1_1,h1_2,h1_3,h1_4,h1_5,h1_6,h1_7,h1_8,h1_9,h2_0,h2_1,h2_2,())))∧
(decide (0<h1_5)=false→
 k93 (r0,()) (h1_0,h1_1,h1_2,h1_3,h1_4,h1_5,h1_6,h1_7,h1_8,h1_9,h2_0,h2_1,h2_2,())))
theorem k1g1 {r0:Int} {h0_0:Bool} {h0_1:Int} {h0_2:Int} {h0_3:List TQuestion} {h0_4:List TStored} {h0_5:List TStored} {h1_0:Int} {h1_1:Int} {h1_2:List Int} {h1_3:List Int} {h1_4:List Int} {h1_5:Int} {h1_6:Int} {h1_7:Int} {h1_8:Int} {h1_9:Int} {h2_0:List TSpent} {h2_1:List TNote} {h2_2:Int} {s9:Int} (inv:Int→Prop) (μ:Int→Nat) (h0:inv s9) (hs:∀(s9:Int),inv s9→k10h r0 (fun s9q=>inv s9q∧μ s9q<μ s9) h0_0 h0_1 h0_2 h0_3 h0_4 h0_5 h1_0 h1_1 h1_2 h1_3 h1_4 h1_5 h1_6 h1_7 h1_8 h1_9 h2_0 h2_1 h2_2 s9):Md.Loop (s9,h0_0,h0_1,h0_2,h0_3,h0_4,h0_5,h1_0,h1_1,h1_2,h1_3,h1_4,h1_5,h1_6,h1_7,h1_8,h1_9,h2_0,h2_1,h2_2,()) (kf2 (r0,())):=
 ⟨⟨fun s:Int×Bool×Int×Int×(List TQuestion)×(List TStored)×(List TStored)×Int×Int×(List Int)×(List Int)×(List Int)×Int×Int×Int×Int×Int×(List TSpent)×(List TNote)×Int×Unit=>(s.2.1=h0_0∧s.2.2.1=h0_1∧s.2.2.2.1=h0_2∧s.2.2.2.2.1=h0_3∧s.2.2.2.2.2.1=h0_4∧s.2.2.2.2.2.2.1=h0_5∧s.2.2.2.2.2.2.2.1=h1_0∧s.2.2.2.2.2.2.2.2.1=h1_1∧s.2.2.2.2.2.2.2.2.2.1=h1_2∧s.2.2.2.2.2.2.2.2.2.2.1=h1_3∧s.2.2.2.2.2.2.2.2.2.2.2.1=h1_4∧s.2.2.2.2.2.2.2.2.2.2.2.2.1=h1_5∧s.2.2.2.2.2.2.2.2.2.2.2.2.2.1=h1_6∧s.2.2.2.2.2.2.2.2.2.2.2.2.2.2.1=h1_7∧s.2.2.2.2.2.2.2.2.2.2.2.2.2.2.2.1=h1_8∧s.2.2.2.2.2.2.2.2.2.2.2.2.2.2.2.2.1=h1_9∧s.2.2.2.2.2.2.2.2.2.2.2.2.2.2.2.2.2.1=h2_0∧s.2.2.2.2.2.2.2.2.2.2.2.2.2.2.2.2.2.2.1=h2_1∧s.2.2.2.2.2.2.2.2.2.2.2.2.2.2.2.2.2.2.2.1=h2_2)∧inv s.1,fun s:Int×Bool×Int×Int×(List TQuestion)×(List TStored)×(List TStored)×Int×Int×(List Int)×(List Int)×(List Int)×Int×Int×Int×Int×Int×(List TSpent)×(List TNote)×Int×Unit=>μ s.1,⟨⟨rfl,rfl,rfl,rfl,rfl,rfl,rfl,rfl,rfl,rfl,rfl,rfl,rfl,rfl,rfl,rfl,rfl,rfl,rfl⟩,h0⟩,fun(s9p,h0_0p,h0_1p,h0_2p,h0_3p,h0_4p,h0_5p,h1_0p,h1_1p,h1_2p,h1_3p,h1_4p,h1_5p,h1_6p,h1_7p,h1_8p,h1_9p,h2_0p,h2_1p,h2_2p,()) ⟨⟨eq0,eq1,eq2,eq3,eq4,eq5,eq6,eq7,eq8,eq9,eq10,eq11,eq12,eq13,eq14,eq15,eq16,eq17,eq18⟩,hi⟩=>by
  have eq0:h0_0p=h0_0:=eq0;subst h0_0p;have eq1:h0_1p=h0_1:=eq1;subst h0_1p;have eq2:h0_2p=h0_2:=eq2;subst h0_2p;have eq3:h0_3p=h0_3:=eq3;subst h0_3p;have eq4:h0_4p=h0_4:=eq4;subst h0_4p;have eq5:h0_5p=h0_5:=eq5;subst h0_5p;have eq6:h1_0p=h1_0:=eq6;subst h1_0p;have eq7:h1_1p=h1_1:=eq7;subst h1_1p;have eq8:h1_2p=h1_2:=eq8;subst h1_2p;have eq9:h1_3p=h1_3:=eq9;subst h1_3p;have eq10:h1_4p=h1_4:=eq10;subst h1_4p;have eq11:h1_5p=h1_5:=eq11;subst h1_5p;have eq12:h1_6p=h1_6:=eq12;subst h1_6p;have eq13:h1_7p=h1_7:=eq13;subst h1_7p;have eq14:h1_8p=h1_8:=eq14;subst h1_8p;have eq15:h1_9p=h1_9:=eq15;subst h1_9p;have eq16:h2_0p=h2_0:=eq16;subst h2_0p;have eq17:h2_1p=h2_1:=eq17;subst h2_1p;have eq18:h2_2p=h2_2:=eq18;subst h2_2p;exact mpr_of (by kernel_rfl) ((congrArg (fun k=>k10h r0 k h0_0 h0_1 h0_2 h0_3 h0_4 h0_5 h1_0 h1_1 h1_2 h1_3 h1_4 h1_5 h1_6 h1_7 h1_8 h1_9 h2_0 h2_1 h2_2 s9p) (lpk1 (⟨rfl,rfl,rfl,rfl,rfl,rfl,rfl,rfl,rfl,rfl,rfl,rfl,rfl,rfl,rfl,rfl,rfl,rfl,rfl⟩:h0_0=h0_0∧h0_1=h0_1∧h0_2=h0_2∧h0_3=h0_3∧h0_4=h0_4∧h0_5=h0_5∧h1_0=h1_0∧h1_1=h1_1∧h1_2=h1_2∧h1_3=h1_3∧h1_4=h1_4∧h1_5=h1_5∧h1_6=h1_6∧h1_7=h1_7∧h1_8=h1_8∧h1_9=h1_9∧h2_0=h2_0∧h2_1=h2_1∧h2_2=h2_2) inv (fun s9q=>μ s9q<μ s9p))).mpr (hs s9p hi))⟩⟩
theorem bd21:Callable Try.prog 21:=⟨by rw[Try.func21];kernel_rfl,by rw[Try.func21];show some _≠some _;decide⟩
theorem k1c3 (p0:TPlace) (p1:TStatement) (p2:TWitness) (h:p0.Ideal=true∧KU p0.M_Known∧SR p1∧WR p2):klz (p0.Ideal,p0.M_State,p0.M_Draws,p0.M_Known,p0.M_Seals,p0.M_Proofs,p1.Depth,p1.Anchor,p1.Marks,p1.Commits,p1.Rhos,p1.Deposit,p1.Withdraw,p1.Fee,p1.Account,p1.Bind,p2.Ins,p2.Outs,p2.Secret,()) (((checkS (rpk p0.M_Known) p1 p2):Int),()):=by
 obtain⟨h1,hk,hs,hw⟩:=h
 refine k1j0 ⟨⟨hs,hw⟩,fun e=> ?_,fun e=> ?_⟩
 ·have e:relV p1 p2=false:=by simpa using e
  unfold checkS
  rw[if_pos e]
 have e:relV p1 p2=true:=by simpa using e
 have hv:=kx6.1 e
 have v1:=hv.2.2.2.2.2.2.2.2.2.1
 have v2:=hv.2.2.2.2.2.2.2.2.2.2.2.1
 have v3:=hv.2.2.2.2.2.2.2.2.2.2.2.2.1
 have vi:=hv.2.2.2.2.2.2.2.2.2.2.2.2.2.2.1
 have va:=khp.1 hv.2.2.1 p2.Secret (by simp)
 clear hv
 have hil:=hw.il
 have hol:=hw.ol
 generalize hF:rpk p0.M_Known=F
 refine k1em (fun i=>(0≤i∧i≤p2.Ins.length∧insE F p1.Anchor (p2.Ins.drop i.toNat) (p1.Marks.drop i.toNat)=insE F p1.Anchor p2.Ins p1.Marks)) (fun i=>(p2.Ins.length-i).toNat) ⟨by omega,by omega,rfl⟩ ?_
 rintro i ⟨g0,g1,g2⟩
 refine⟨fun hh=> ?_,fun hh=> ?_⟩
 ·have hh:=of_decide_eq_true hh
  have hm:=ix_mem p2.Ins i g0 hh
  have hp:=hw.i _ hm
  have hsp:spendV (ix p2.Ins i)=true:=by
   have:=List.all_eq_true.1 vi _ hm
   unfold inV at this
   simp only[Bool.and_eq_true]at this
   exact this.1.1
  have hd:=drop_ix p2.Ins i g0 hh
  have hd2:=drop_ix p1.Marks i g0 (by omega)
  rw[hd,hd2]at g2
  have g2:(if inE F p1.Anchor (ix p1.Marks i) (ix p2.Ins i)≠0 then inE F p1.Anchor (ix p1.Marks i) (ix p2.Ins i)else insE F p1.Anchor (p2.Ins.drop (i+1).toNat) (p1.Marks.drop (i+1).toNat))=insE F p1.Anchor p2.Ins p1.Marks:=g2
  have nx:=inc i p2.Ins.length g0 hh (by omega)
  refine⟨g0,by omega,g0,hh,⟨h1,hk,hp,hsp⟩,?_⟩
  simp only[k190,hF]
  refine⟨fun e2=> ?_,fun e2=> ?_⟩
  ·have e2:inE F p1.Anchor (ix p1.Marks i) (ix p2.Ins i)≠0:=by simpa using e2
   rw[if_pos e2]at g2
   unfold checkS
   rw[if_neg (by simp[e]),if_pos (by rw[←g2];exact e2),←g2]
  ·have e2:inE F p1.Anchor (ix p1.Marks i) (ix p2.Ins i)=0:=by simpa using e2
   rw[if_neg (by simp[e2])]at g2
   rw[nx]
   exact⟨⟨by omega,by omega,g2⟩,by omega⟩
 ·have hh:=of_decide_eq_false hh
  rw[List.drop_eq_nil_of_le (by omega)]at g2
  have g2:0=insE F p1.Anchor p2.Ins p1.Marks:=g2
  have hck:checkS F p1 p2=if outsB F p2.Outs p1.Commits p1.Rhos=false then 1 else if 0<p1.Deposit∧p1.Account≠acctS p2.Secret then 21 else
    if(inS p2.Ins+p1.Deposit)%18446744073709551616≠((outS p2.Outs+p1.Withdraw)%18446744073709551616+p1.Fee)%18446744073709551616 then 13 else 0:=by
   conv=>lhs;unfold checkS
   rw[if_neg (by simp[e]),if_neg (by rw[←g2];simp)]
  rw[hck]
  refine k1g1 (fun i=>(0≤i∧i≤p2.Outs.length∧outsB F (p2.Outs.drop i.toNat) (p1.Commits.drop i.toNat) (p1.Rhos.drop i.toNat)=outsB F p2.Outs p1.Commits p1.Rhos)) (fun i=>(p2.Outs.length-i).toNat) ⟨by omega,by omega,rfl⟩ ?_
  rintro k ⟨k0,k1,k2⟩
  refine⟨fun hk2=> ?_,fun hk2=> ?_⟩
  ·have hk2:=of_decide_eq_true hk2
   have hp:=hw.o _ (ix_mem p2.Outs k k0 hk2)
   rw[drop_ix p2.Outs k k0 hk2,drop_ix p1.Commits k k0 (by omega),drop_ix p1.Rhos k k0 (by omega)]at k2
   have k2:(outB F (ix p2.Outs k) (ix p1.Commits k) (ix p1.Rhos k)&&outsB F (p2.Outs.drop (k+1).toNat) (p1.Commits.drop (k+1).toNat) (p1.Rhos.drop (k+1).toNat))=outsB F p2.Outs p1.Commits p1.Rhos:=k2
   have nx:=inc k p2.Outs.length k0 hk2 (by omega)
   have bad:outB F (ix p2.Outs k) (ix p1.Commits k) (ix p1.Rhos k)=false→outsB F p2.Outs p1.Commits p1.Rhos=false:=fun hb=>by rw[hb]at k2;exact k2.symm
   refine⟨k0,hk2,⟨h1,hk.k,hp⟩,?_⟩
   simp only[kn0,hF]
   refine⟨fun e3=> ?_,fun e3=>⟨k0,by omega,fun e4=> ?_,fun e4=>⟨k0,hk2,k0,by omega,fun e5=> ?_,fun e5=> ?_⟩⟩⟩
   ·rw[if_pos (bad (by unfold outB;rw[show(commP F (ix p2.Outs k)).isSome=false by simpa using e3];rfl))]
   ·rw[if_pos (bad (by
     have e4:¬(commP F (ix p2.Outs k)).getD 0=ix p1.Commits k:=by simpa using e4
     simp[outB,e4]))]
   ·rw[if_pos (bad (by
     have e5:¬(ix p2.Outs k).Rho=ix p1.Rhos k:=by simpa using e5
     simp[outB,e5]))]
   ·have e3:(commP F (ix p2.Outs k)).isSome=true:=by simpa using e3
    have e4:(commP F (ix p2.Outs k)).getD 0=ix p1.Commits k:=by simpa using e4
    have e5:(ix p2.Outs k).Rho=ix p1.Rhos k:=by simpa using e5
    have hb:outB F (ix p2.Outs k) (ix p1.Commits k) (ix p1.Rhos k)=true:=by simp[outB,e3,e4,e5]
    rw[hb,Bool.true_and]at k2
    rw[nx]
    exact⟨⟨by omega,by omega,k2⟩,by omega⟩
  ·have hk2:=of_decide_eq_false hk2
   rw[List.drop_eq_nil_of_le (by omega)]at k2
   have k2:true=outsB F p2.Outs p1.Commits p1.Rhos:=k2
   rw[←k2]
   have j1:∀r:Int,(r=if(inS p2.Ins+p1.Deposit)%18446744073709551616≠((outS p2.Outs+p1.Withdraw)%18446744073709551616+p1.Fee)%18446744073709551616 then 13 else 0)→k93 (r,()) (p1.Depth,p1.Anchor,p1.Marks,p1.Commits,p1.Rhos,p1.Deposit,p1.Withdraw,p1.Fee,p1.Account,p1.Bind,p2.Ins,p2.Outs,p2.Secret,()):=by
    intro r hr
    refine k1ad ⟨by show p2.Ins.length≤_;omega,by show p2.Outs.length≤_;omega,?_⟩
    simp only[u64w]
    refine⟨fun hb=> ?_,fun hb=> ?_⟩
    ·rw[hr,if_pos (by simpa using hb)]
    ·rw[hr,if_neg (by simpa using hb)]
   rw[if_neg (by simp)]
   refine⟨fun hd=>⟨⟨hw.s,va⟩,fun ha=> ?_,fun ha=>j1 _ ?_⟩,fun hd=>j1 _ ?_⟩
   ·have ha:¬p1.Account=acctS p2.Secret:=by simpa using ha
    rw[if_pos ⟨of_decide_eq_true hd,ha⟩]
   ·have ha:p1.Account=acctS p2.Secret:=by simpa using ha
    rw[if_neg (fun h=>h.2 ha)]
   ·rw[if_neg (fun h=>of_decide_eq_false hd h.1)]
noncomputable def kyt:Con TB.den:=k2n.fnR (fun x=>(fun(p0:TPlace) (p1:TStatement) (p2:TWitness)=>p0.Ideal=true∧KU p0.M_Known∧SR p1∧WR p2) (TPlace.mk x.1 x.2.1 x.2.2.1 x.2.2.2.1 x.2.2.2.2.1 x.2.2.2.2.2.1) (TStatement.mk x.2.2.2.2.2.2.1 x.2.2.2.2.2.2.2.1 x.2.2.2.2.2.2.2.2.1 x.2.2.2.2.2.2.2.2.2.1 x.2.2.2.2.2.2.2.2.2.2.1 x.2.2.2.2.2.2.2.2.2.2.2.1 x.2.2.2.2.2.2.2.2.2.2.2.2.1 x.2.2.2.2.2.2.2.2.2.2.2.2.2.1 x.2.2.2.2.2.2.2.2.2.2.2.2.2.2.1 x.2.2.2.2.2.2.2.2.2.2.2.2.2.2.2.1) (TWitness.mk x.2.2.2.2.2.2.2.2.2.2.2.2.2.2.2.2.1 x.2.2.2.2.2.2.2.2.2.2.2.2.2.2.2.2.2.1 x.2.2.2.2.2.2.2.2.2.2.2.2.2.2.2.2.2.2.1)) fun x=>((fun(p0:TPlace) (p1:TStatement) (p2:TWitness)=>((checkS (rpk p0.M_Known) p1 p2):Int)) (TPlace.mk x.1 x.2.1 x.2.2.1 x.2.2.2.1 x.2.2.2.2.1 x.2.2.2.2.2.1) (TStatement.mk x.2.2.2.2.2.2.1 x.2.2.2.2.2.2.2.1 x.2.2.2.2.2.2.2.2.1 x.2.2.2.2.2.2.2.2.2.1 x.2.2.2.2.2.2.2.2.2.2.1 x.2.2.2.2.2.2.2.2.2.2.2.1 x.2.2.2.2.2.2.2.2.2.2.2.2.1 x.2.2.2.2.2.2.2.2.2.2.2.2.2.1 x.2.2.2.2.2.2.2.2.2.2.2.2.2.2.1 x.2.2.2.2.2.2.2.2.2.2.2.2.2.2.2.1) (TWitness.mk x.2.2.2.2.2.2.2.2.2.2.2.2.2.2.2.2.1 x.2.2.2.2.2.2.2.2.2.2.2.2.2.2.2.2.2.1 x.2.2.2.2.2.2.2.2.2.2.2.2.2.2.2.2.2.2.1),())
theorem k1is:kyt.Ok Try.prog TB:=Con.ok_fn k2n bd21 fun x h=>k1ga (k1c3 (TPlace.mk x.1 x.2.1 x.2.2.1 x.2.2.2.1 x.2.2.2.2.1 x.2.2.2.2.2.1) (TStatement.mk x.2.2.2.2.2.2.1 x.2.2.2.2.2.2.2.1 x.2.2.2.2.2.2.2.2.1 x.2.2.2.2.2.2.2.2.2.1 x.2.2.2.2.2.2.2.2.2.2.1 x.2.2.2.2.2.2.2.2.2.2.2.1 x.2.2.2.2.2.2.2.2.2.2.2.2.1 x.2.2.2.2.2.2.2.2.2.2.2.2.2.1 x.2.2.2.2.2.2.2.2.2.2.2.2.2.2.1 x.2.2.2.2.2.2.2.2.2.2.2.2.2.2.2.1) (TWitness.mk x.2.2.2.2.2.2.2.2.2.2.2.2.2.2.2.2.1 x.2.2.2.2.2.2.2.2.2.2.2.2.2.2.2.2.2.1 x.2.2.2.2.2.2.2.2.2.2.2.2.2.2.2.2.2.2.1) h)
def k3v:Con TB.den:=Con.mk0 9 [.agg [.d (.int .i64),.d (.int .u64),.d (.sl (.int .u64)),.d (.sl (.int .u64)),.d (.sl (.int .u64)),.d (.int .u64),.d (.int .u64),.d (.int .u64),.d (.int .u64),.d (.int .u64)],.agg [.d (.sl (.st 0)),.d (.sl (.st 1)),.d (.int .u64)]] [] (.one (.one (.d (.bool)))) []
abbrev k15k:=HL TB.den (hsT k3v.ins (hsOs k3v.pre))
abbrev kab:=HL TB.den (hsV k3v.res (hsOs k3v.post))
noncomputable def k79:Cx TB:=⟨inf,[],[],4,[]⟩
noncomputable def kbm:Code:=Try.f9.body.getD .skip
noncomputable def kiq:List ResultVar:=Try.f9.results.toList
def k1h9 (o:kab):=qS TB k79 49 0 (cB (cB (cB kbm))) .no (retTQ TB k79 k3v kiq o)
def kau:Tm:=⟨[1],[.cells [.d (.sl (.st 0)),.d (.sl (.st 1)),.d (.int .u64)]],[3,5],[.one (.ptr 0 0),.one (.d (.int .i64))],2⟩
def kf7 (o:kab) (nx1:NX TB kau) (i:HL TB.den kau.hs):Prop:=WP TB k79 49 0 (cA (cA (cB (cA (cB (cB kbm)))))) .no (kau.fill TB i) (qM TB 0 kau nx1 (blockT TB 0 (k1h9 o)))
noncomputable def k1id (o:kab):An TB:= .nd [] .no [] (.lp [] kau (kf7 o) fun nx1=> .no)
noncomputable def k11j (o:kab):An TB:= .nd [] .no [] (.nd [] .no [] (.nd [] (k1id o) [] .no))
def kks (x:k15k) (o:kab):Prop:=WPh TB k79 49 0 kbm (k11j o) (k3v.st TB x) (retTQ TB k79 k3v kiq o)
theorem k1eb (o:kab):OblH TB k79 49 0 kbm (k11j o) (retTQ TB k79 k3v kiq o):=
 OblH.ofC (X:=((∀nx i,(kf7 o) nx i=(kf7 o) nx i)∧(∀nx1:NX TB kau,True)∧True)) (by kernel_rfl) ⟨fun _ _=>rfl,fun _=>trivial,trivial⟩
theorem k1dw {x:k15k} {o:kab} (h:kks x o):k3v.Snd Try.prog x o:=
 Con.soundH (c:=k3v) (C:=k79) TBok ⟨inf_ok,all_nil,all_nil⟩ mix Try.func9 (show Try.f9.body=some kbm by kernel_rfl) (show Try.f9.ntmps=49 by kernel_rfl) (show Try.f9.results.toList=kiq by kernel_rfl) rfl h (k1eb o)
theorem k1j7 {p0:TStatement} {p1:TWitness} {r0:Bool} (h:
((decide (8<(p0.Marks.length:Int))=true→
 false=r0)∧
(decide (8<(p0.Marks.length:Int))=false→
(decide (8<(p0.Commits.length:Int))=true→
 false=r0)∧
(decide (8<(p0.Commits.length:Int))=false→
(decide (8<(p0.Rhos.length:Int))=true→
 false=r0)∧
(decide (8<(p0.Rhos.length:Int))=false→
(decide (8<(p1.Ins.length:Int))=true→
 false=r0)∧
(decide (8<(p1.Ins.length:Int))=false→
(decide (8<(p1.Outs.length:Int))=true→
 false=r0)∧
(decide (8<(p1.Outs.length:Int))=false→
 Md.Loop ((0:Int),p1.Ins,p1.Outs,p1.Secret,()) (kf7 (r0,()))))))))):kks (p0.Depth,p0.Anchor,p0.Marks,p0.Commits,p0.Rhos,p0.Deposit,p0.Withdraw,p0.Fee,p0.Account,p0.Bind,p1.Ins,p1.Outs,p1.Secret,()) (r0,()):=WPh.of_eq (by kernel_rfl) h
def k11n (r0:Bool) (k1:Int→Prop) (h1_0:List TSpent) (h1_1:List TNote) (h1_2:Int) (s5:Int):Prop:=
(decide (s5<(h1_0.length:Int))=true→
(0≤s5)∧s5<(h1_0.length:Int)∧let v1:Bool:=decide (20<(((ix h1_0 s5).Path).length:Int))
(v1=true→
 false=r0)∧
(v1=false→
 k1 (IntKind.i64.wrap (s5+1):Int)))∧
(decide (s5<(h1_0.length:Int))=false→
 true=r0)
theorem k1g7 {r0:Bool} {h1_0:List TSpent} {h1_1:List TNote} {h1_2:Int} {s5:Int} (inv:Int→Prop) (μ:Int→Nat) (h0:inv s5) (hs:∀(s5:Int),inv s5→k11n r0 (fun s5q=>inv s5q∧μ s5q<μ s5) h1_0 h1_1 h1_2 s5):Md.Loop (s5,h1_0,h1_1,h1_2,()) (kf7 (r0,())):=
 ⟨⟨fun s:Int×(List TSpent)×(List TNote)×Int×Unit=>(s.2.1=h1_0∧s.2.2.1=h1_1∧s.2.2.2.1=h1_2)∧inv s.1,fun s:Int×(List TSpent)×(List TNote)×Int×Unit=>μ s.1,⟨⟨rfl,rfl,rfl⟩,h0⟩,fun(s5p,h1_0p,h1_1p,h1_2p,()) ⟨⟨eq0,eq1,eq2⟩,hi⟩=>by
  have eq0:h1_0p=h1_0:=eq0;subst h1_0p;have eq1:h1_1p=h1_1:=eq1;subst h1_1p;have eq2:h1_2p=h1_2:=eq2;subst h1_2p;exact mpr_of (by kernel_rfl) ((congrArg (fun k=>k11n r0 k h1_0 h1_1 h1_2 s5p) (lpk1 (⟨rfl,rfl,rfl⟩:h1_0=h1_0∧h1_1=h1_1∧h1_2=h1_2) inv (fun s5q=>μ s5q<μ s5p))).mpr (hs s5p hi))⟩⟩
theorem bd9:Callable Try.prog 9:=⟨by rw[Try.func9];kernel_rfl,by rw[Try.func9];show some _≠some _;decide⟩
theorem k1co (p0:TStatement) (p1:TWitness) (h:p1.Ins.length≤9223372036854775807):kks (p0.Depth,p0.Anchor,p0.Marks,p0.Commits,p0.Rhos,p0.Deposit,p0.Withdraw,p0.Fee,p0.Account,p0.Bind,p1.Ins,p1.Outs,p1.Secret,()) (((smallW p0 p1):Bool),()):=by
 have no:¬(p0.Marks.length≤8∧p0.Commits.length≤8∧p0.Rhos.length≤8∧p1.Ins.length≤8∧p1.Outs.length≤8∧∀x∈p1.Ins,x.Path.length≤20)→false=smallW p0 p1:=by
  intro h
  cases hr:smallW p0 p1 with
  |false=>rfl
  |true=>exact(h (kpd.1 hr)).elim
 refine k1j7 ⟨fun h=>no fun a=> ?_,fun h1=>⟨fun h=>no fun a=> ?_,fun h2=>⟨fun h=>no fun a=> ?_,fun h3=>⟨fun h=>no fun a=> ?_,fun h4=>⟨fun h=>no fun a=> ?_,fun h5=> ?_⟩⟩⟩⟩⟩
 ·have h:=of_decide_eq_true h;omega
 ·have h:=of_decide_eq_true h;omega
 ·have h:=of_decide_eq_true h;omega
 ·have h:=of_decide_eq_true h;omega
 ·have h:=of_decide_eq_true h;omega
 have h1:=of_decide_eq_false h1
 have h2:=of_decide_eq_false h2
 have h3:=of_decide_eq_false h3
 have h4:=of_decide_eq_false h4
 have h5:=of_decide_eq_false h5
 refine k1g7 (AllI (fun x=>decide (x.Path.length≤20)) p1.Ins) (fun i=>(p1.Ins.length-i).toNat) AllI.start ?_
 intro i hi
 refine⟨fun hh=> ?_,fun hh=> ?_⟩
 ·have hh:=of_decide_eq_true hh
  refine⟨hi.1,hh,fun e=>no fun a=> ?_,fun e=>hi.next hh (by omega) ?_⟩
  ·have:=a.2.2.2.2.2 _ (ix_mem p1.Ins i hi.1 hh)
   have e:=of_decide_eq_true e
   omega
  ·have e:=of_decide_eq_false e
   apply decide_eq_true
   omega
 ·have ha:=hi.done (of_decide_eq_false hh)
  exact(kpd.2 ⟨by omega,by omega,by omega,by omega,by omega,by simpa using ha⟩).symm
noncomputable def kxv:Con TB.den:=k3v.fnR (fun x=>(fun(p0:TStatement) (p1:TWitness)=>p1.Ins.length≤9223372036854775807) (TStatement.mk x.1 x.2.1 x.2.2.1 x.2.2.2.1 x.2.2.2.2.1 x.2.2.2.2.2.1 x.2.2.2.2.2.2.1 x.2.2.2.2.2.2.2.1 x.2.2.2.2.2.2.2.2.1 x.2.2.2.2.2.2.2.2.2.1) (TWitness.mk x.2.2.2.2.2.2.2.2.2.2.1 x.2.2.2.2.2.2.2.2.2.2.2.1 x.2.2.2.2.2.2.2.2.2.2.2.2.1)) fun x=>((fun(p0:TStatement) (p1:TWitness)=>((smallW p0 p1):Bool)) (TStatement.mk x.1 x.2.1 x.2.2.1 x.2.2.2.1 x.2.2.2.2.1 x.2.2.2.2.2.1 x.2.2.2.2.2.2.1 x.2.2.2.2.2.2.2.1 x.2.2.2.2.2.2.2.2.1 x.2.2.2.2.2.2.2.2.2.1) (TWitness.mk x.2.2.2.2.2.2.2.2.2.2.1 x.2.2.2.2.2.2.2.2.2.2.2.1 x.2.2.2.2.2.2.2.2.2.2.2.2.1),())
theorem k1ja:kxv.Ok Try.prog TB:=Con.ok_fn k3v bd9 fun x h=>k1dw (k1co (TStatement.mk x.1 x.2.1 x.2.2.1 x.2.2.2.1 x.2.2.2.2.1 x.2.2.2.2.2.1 x.2.2.2.2.2.2.1 x.2.2.2.2.2.2.2.1 x.2.2.2.2.2.2.2.2.1 x.2.2.2.2.2.2.2.2.2.1) (TWitness.mk x.2.2.2.2.2.2.2.2.2.2.1 x.2.2.2.2.2.2.2.2.2.2.2.1 x.2.2.2.2.2.2.2.2.2.2.2.2.1) h)
def k14:Con TB.den:=Con.mk0 5 [.agg [.d (.int .i64),.d (.int .u64),.d (.sl (.int .u64)),.d (.sl (.int .u64)),.d (.sl (.int .u64)),.d (.int .u64),.d (.int .u64),.d (.int .u64),.d (.int .u64),.d (.int .u64)],.agg [.d (.sl (.st 0)),.d (.sl (.st 1)),.d (.int .u64)],.agg [.d (.int .u64),.d (.int .u16)]] [] (.one (.one (.d (.bool)))) []
abbrev kkr:=HL TB.den (hsT k14.ins (hsOs k14.pre))
abbrev ka:=HL TB.den (hsV k14.res (hsOs k14.post))
noncomputable def ke:Cx TB:=⟨inf,[kxw,kxv,knw,kmx,kyh,kjg,ko4,kc4,kyt,kgy,kn3],[],4,[41,44,45,48,75]⟩
noncomputable def ky:Code:=Try.f5.body.getD .skip
noncomputable def k52:List ResultVar:=Try.f5.results.toList
def kww (o:ka):=qS TB ke 169 0 (cB (cB (cB (cB (cB (cB (cB (cB ky)))))))) (.nd [] .no [] (.nd [.frzc 51 0 2,.frzc 67 0 3] .no [] .no)) (retTQ TB ke k14 k52 o)
def k3g:Tm:=⟨[0,1,2,11,27,51,67,87,12,13,14],[.cells [.d (.int .i64),.d (.int .u64),.row 5,.row 6,.d (.sl (.int .u64)),.d (.int .u64),.d (.int .u64),.d (.int .u64),.d (.int .u64),.d (.int .u64)],.cells [.d (.sl (.st 0)),.d (.sl (.st 1)),.d (.int .u64)],.cells [.d (.int .u64),.d (.int .u16)],.cells [.d (.bool),.d (.int .u64),.d (.int .i64),.own 7,.mp 8,.mp 9,.mp 10],.cells [.d (.int .u64),.d (.int .i64),.d (.sl (.st 3)),.d (.sl (.st 8)),.d (.sl (.st 8))],.vec (.int .u64),.vec (.int .u64),.tip (.st 3),.map (.str) (.int .i64),.map (.str) (.sl (.int .u64)),.map (.str) (.bool)],[3,4,5,7,8,9,107,108,109],[.one (.ptr 0 0),.one (.ptr 1 0),.one (.ptr 2 0),.one (.ptr 3 0),.one (.ptr 4 0),.one (.d (.bool)),.one (.d (.sl (.st 1))),.one (.d (.int .i64)),.one (.d (.int .i64))],88⟩
def kwo (o:ka) (nx2:NX TB k3g):=qM TB 0 k3g nx2 (blockT TB 2 (kww o))
def k69 (o:ka) (nx2:NX TB k3g) (i:HL TB.den k3g.hs):Prop:=WP TB ke 169 0 (cA (cA (cB (cA (cB (cB (cB (cB (cB (cB (cB ky))))))))))) .no (k3g.fill TB i) (kwo o nx2)
noncomputable def kwz (o:ka):An TB:= .lp [] k3g (k69 o) fun nx2=> .no
noncomputable def kjb (o:ka):An TB:= .nd [] (.nd [] .no [] (kwz o)) [] (.nd [] .no [] (.nd [.frzc 51 0 2,.frzc 67 0 3] .no [] .no))
def kx5 (o:ka):=qS TB ke 169 0 (cB (cB (cB (cB (cB (cB (cB ky))))))) (kjb o) (retTQ TB ke k14 k52 o)
def kh:Tm:=⟨[0,1,2,11,27,51,67,87,12,13,14],[.cells [.d (.int .i64),.d (.int .u64),.row 5,.row 6,.d (.sl (.int .u64)),.d (.int .u64),.d (.int .u64),.d (.int .u64),.d (.int .u64),.d (.int .u64)],.cells [.d (.sl (.st 0)),.d (.sl (.st 1)),.d (.int .u64)],.cells [.d (.int .u64),.d (.int .u16)],.cells [.d (.bool),.d (.int .u64),.d (.int .i64),.own 7,.mp 8,.mp 9,.mp 10],.cells [.d (.int .u64),.d (.int .i64),.d (.sl (.st 3)),.d (.sl (.st 8)),.d (.sl (.st 8))],.vec (.int .u64),.vec (.int .u64),.tip (.st 3),.map (.str) (.int .i64),.map (.str) (.sl (.int .u64)),.map (.str) (.bool)],[3,4,5,7,8,9,52,53,54],[.one (.ptr 0 0),.one (.ptr 1 0),.one (.ptr 2 0),.one (.ptr 3 0),.one (.ptr 4 0),.one (.d (.bool)),.one (.d (.sl (.st 0))),.one (.d (.int .i64)),.one (.d (.int .i64))],88⟩
def kj9 (o:ka) (nx1:NX TB kh):=qM TB 0 kh nx1 (blockT TB 0 (kx5 o))
def kvx (o:ka) (nx1:NX TB kh):=qS TB ke 169 0 (cB (cB (cB (cA (cA (cB (cA (cB (cB (cB (cB (cB (cB ky))))))))))))) .no (kj9 o nx1)
def k7j:Tm:=⟨[0,1,2,11,27,88,51,67,87,12,13,14],[.cells [.d (.int .i64),.d (.int .u64),.row 6,.row 7,.d (.sl (.int .u64)),.d (.int .u64),.d (.int .u64),.d (.int .u64),.d (.int .u64),.d (.int .u64)],.cells [.d (.sl (.st 0)),.d (.sl (.st 1)),.d (.int .u64)],.cells [.d (.int .u64),.d (.int .u16)],.cells [.d (.bool),.d (.int .u64),.d (.int .i64),.own 8,.mp 9,.mp 10,.mp 11],.cells [.d (.int .u64),.d (.int .i64),.d (.sl (.st 3)),.d (.sl (.st 8)),.d (.sl (.st 8))],.cells [.d (.int .u64),.d (.int .u64),.d (.int .u64),.d (.int .u64),.d (.int .u64),.d (.int .i64),.d (.int .i64),.d (.sl (.int .u64)),.d (.bool)],.vec (.int .u64),.vec (.int .u64),.tip (.st 3),.map (.str) (.int .i64),.map (.str) (.sl (.int .u64)),.map (.str) (.bool)],[3,4,5,7,8,9,12,13,52,53,54],[.one (.ptr 0 0),.one (.ptr 1 0),.one (.ptr 2 0),.one (.ptr 3 0),.one (.ptr 4 0),.one (.d (.bool)),.one (.ptr 5 0),.one (.d (.int .u64)),.one (.d (.sl (.st 0))),.one (.d (.int .i64)),.one (.d (.int .i64))],157⟩
def kia (o:ka) (nx1:NX TB kh) (i:HL TB.den k7j.hs):Prop:=ghs TB [] (k7j.fill TB i) fun s=>WP TB ke 169 0 (cB (cB (cB (cB (cB (cA (cA (cB (cB (cA (cA (cB (cA (cB (cB (cB (cB (cB (cB ky))))))))))))))))))) .no s (blockT TB 1 (kvx o nx1))
structure k3i (o:ka) (nx1:NX TB kh) (i:HL TB.den k7j.hs):Prop where
 h:kia o nx1 i
noncomputable def kv3 (o:ka) (nx1:NX TB kh):An TB:= .jn k7j (k3i o nx1) [] .no [] .no
noncomputable def kw5 (o:ka) (nx1:NX TB kh):An TB:= .nd [] .no [] (.nd [] .no [] (.nd [] .no [] (kv3 o nx1)))
noncomputable def kif (o:ka) (nx1:NX TB kh):An TB:= .nd [] .no [] (.nd [] (.nd [] .no [] (kw5 o nx1)) [] .no)
def k6l (o:ka) (nx1:NX TB kh) (i:HL TB.den kh.hs):Prop:=WP TB ke 169 0 (cA (cA (cB (cA (cB (cB (cB (cB (cB (cB ky)))))))))) (.nd [] .no [] (kif o nx1)) (kh.fill TB i) (kj9 o nx1)
noncomputable def kus (o:ka):An TB:= .lp [.tokc 11 3 (.st 3)] kh (k6l o) fun nx1=>(.nd [] .no [] (kif o nx1))
noncomputable def kv7 (o:ka):An TB:= .nd [] (.nd [] .no [] (kus o)) [] (kjb o)
noncomputable def kid (o:ka):An TB:= .nd [] .no [] (.nd [] .no [] (.nd [] .no [] (kv7 o)))
def kw8 (o:ka):=qS TB ke 169 0 (cB (cB ky)) (.nd [] .no [] (kid o)) (retTQ TB ke k14 k52 o)
def k7g:Tm:=⟨[0,1,2],[.cells [.d (.int .i64),.d (.int .u64),.d (.sl (.int .u64)),.d (.sl (.int .u64)),.d (.sl (.int .u64)),.d (.int .u64),.d (.int .u64),.d (.int .u64),.d (.int .u64),.d (.int .u64)],.cells [.d (.sl (.st 0)),.d (.sl (.st 1)),.d (.int .u64)],.cells [.d (.int .u64),.d (.int .u16)]],[3,4,5,31],[.one (.ptr 0 0),.one (.ptr 1 0),.one (.ptr 2 0),.one (.d (.bool))],3⟩
def ki4 (o:ka) (i:HL TB.den k7g.hs):Prop:=ghs TB [] (k7g.fill TB i) fun s=>WP TB ke 169 0 (cB (cA (cB ky))) .no s (kw8 o)
structure k3h (o:ka) (i:HL TB.den k7g.hs):Prop where
 h:ki4 o i
noncomputable def kw3 (o:ka):An TB:= .jn k7g (k3h o) [] .no [] .no
noncomputable def kvs (o:ka):An TB:= .nd [] (kw3 o) [] (.nd [] .no [] (kid o))
noncomputable def kj1 (o:ka):An TB:= .nd [] .no [] (kvs o)
def kaf (x:kkr) (o:ka):Prop:=WPh TB ke 169 0 ky (kj1 o) (k14.st TB x) (retTQ TB ke k14 k52 o)
theorem kuf (o:ka):OblH TB ke 169 0 ky (kj1 o) (retTQ TB ke k14 k52 o):=
 OblH.ofC (X:=((∀i,(k3h o) i=ki4 o i)∧(∀nx i,(k6l o) nx i=(k6l o) nx i)∧(∀nx1:NX TB kh,((∀i,(k3i o nx1) i=kia o nx1 i)∧True))∧(∀nx i,(k69 o) nx i=(k69 o) nx i)∧(∀nx2:NX TB k3g,True)∧True)) (by kernel_rfl) ⟨fun _=>propext ⟨fun h=>h.1,fun h=>⟨h⟩⟩,fun _ _=>rfl,fun _=>⟨fun _=>propext ⟨fun h=>h.1,fun h=>⟨h⟩⟩,trivial⟩,fun _ _=>rfl,fun _=>trivial,trivial⟩
theorem kur {x:kkr} {o:ka} (h:kaf x o):k14.Snd Try.prog x o:=
 Con.soundH (c:=k14) (C:=ke) TBok ⟨inf_ok,(all_cons k1js (all_cons k1ja (all_cons k12d (all_cons k140 (all_cons k1i0 (all_cons ktd (all_cons k10g (all_cons kko (all_cons k1is (all_cons kuy (all_cons k13b all_nil))))))))))),all_nil⟩ mix Try.func5 (show Try.f5.body=some ky by kernel_rfl) (show Try.f5.ntmps=169 by kernel_rfl) (show Try.f5.results.toList=k52 by kernel_rfl) rfl h (kuf o)
theorem kx1 {p0:TStatement} {p1:TWitness} {p2:TIdeal} {r0:Bool} (h:
(((!true)=true→
 k3h (r0,()) (true,p0.Depth,p0.Anchor,p0.Marks,p0.Commits,p0.Rhos,p0.Deposit,p0.Withdraw,p0.Fee,p0.Account,p0.Bind,p1.Ins,p1.Outs,p1.Secret,p2.Seed,p2.Bits,()))∧
((!true)=false→
(p1.Ins.length≤9223372036854775807)∧((!(smallW p0 p1))=true→
 k3h (r0,()) (true,p0.Depth,p0.Anchor,p0.Marks,p0.Commits,p0.Rhos,p0.Deposit,p0.Withdraw,p0.Fee,p0.Account,p0.Bind,p1.Ins,p1.Outs,p1.Secret,p2.Seed,p2.Bits,()))∧
((!(smallW p0 p1))=false→
(SR p0∧WR p1)∧k3h (r0,()) (((!(relV p0 p1)):Bool),p0.Depth,p0.Anchor,p0.Marks,p0.Commits,p0.Rhos,p0.Deposit,p0.Withdraw,p0.Fee,p0.Account,p0.Bind,p1.Ins,p1.Outs,p1.Secret,p2.Seed,p2.Bits,()))))):kaf (p0.Depth,p0.Anchor,p0.Marks,p0.Commits,p0.Rhos,p0.Deposit,p0.Withdraw,p0.Fee,p0.Account,p0.Bind,p1.Ins,p1.Outs,p1.Secret,p2.Seed,p2.Bits,()) (r0,()):=WPh.of_eq (by kernel_rfl) h
theorem krm {r0:Bool} {s31:Bool} {h0_0:Int} {h0_1:Int} {h0_2:List Int} {h0_3:List Int} {h0_4:List Int} {h0_5:Int} {h0_6:Int} {h0_7:Int} {h0_8:Int} {h0_9:Int} {h1_0:List TSpent} {h1_1:List TNote} {h1_2:Int} {h2_0:Int} {h2_1:Int} (h:
((s31=true→
 true=r0)∧
(s31=false→
 h0_2.length*8≤140737488355328∧h0_2.length≤maxLen∧h0_3.length*8≤140737488355328∧h0_3.length≤maxLen∧(([]:List TQuestion)=([]:List TQuestion))∧(h0_3.length=h0_3.length)∧(h0_2.length=h0_2.length)∧Md.Loop (true,h1_0,((h1_0.length:Int):Int),(0:Int),h0_0,h0_1,h0_4,h0_5,h0_6,h0_7,h0_8,h0_9,h1_0,h1_1,h1_2,h2_0,h2_1,true,h2_0,(0:Int),h2_0,(0:Int),(([]:List TQuestion):List TQuestion),(([]:List TStored):List TStored),(([]:List TStored):List TStored),h0_2,h0_3,(([]:List TQuestion):List TQuestion),([]:List ByteArray),([]:List Int),([]:List ByteArray),([]:List (List Int)),([]:List ByteArray),([]:List Bool),()) (k6l (r0,()))))):k3h (r0,()) (s31,h0_0,h0_1,h0_2,h0_3,h0_4,h0_5,h0_6,h0_7,h0_8,h0_9,h1_0,h1_1,h1_2,h2_0,h2_1,()):=⟨mpr_of (by kernel_rfl) h⟩
theorem krv {r0:Bool} {nx1:NX TB kh} {s9:Bool} {s13:Int} {s52:List TSpent} {s53:Int} {s54:Int} {h0_0:Int} {h0_1:Int} {h0_4:List Int} {h0_5:Int} {h0_6:Int} {h0_7:Int} {h0_8:Int} {h0_9:Int} {h1_0:List TSpent} {h1_1:List TNote} {h1_2:Int} {h2_0:Int} {h2_1:Int} {h11_0:Bool} {h11_1:Int} {h11_2:Int} {h27_0:Int} {h27_1:Int} {h27_2:List TQuestion} {h27_3:List TStored} {h27_4:List TStored} {h88_0:Int} {h88_1:Int} {h88_2:Int} {h88_3:Int} {h88_4:Int} {h88_5:Int} {h88_6:Int} {h88_7:List Int} {h88_8:Bool} {g51:List Int} {g67:List Int} {g87:List TQuestion} {g12k:List ByteArray} {g12v:List Int} {g13k:List ByteArray} {g13v:List (List Int)} {g14k:List ByteArray} {g14v:List Bool} (h:
(((!h88_8)=true→
(U64 s13∧Us h88_7∧h88_7.length≤1073741824∧h88_6≤9223372036854775807)∧(g87=g87)∧(g67.length=g67.length)∧(g51.length=g51.length)∧nx1 (s9,s52,s53,(IntKind.i64.wrap (s54+1):Int),h0_0,((climbS s13 h88_6 h88_7):Int),h0_4,h0_5,h0_6,h0_7,h0_8,h0_9,h1_0,h1_1,h1_2,h2_0,h2_1,h11_0,h11_1,h11_2,h27_0,h27_1,h27_2,h27_3,h27_4,g51,g67,g87,g12k,g12v,g13k,g13v,g14k,g14v,()))∧
((!h88_8)=false→
(g87=g87)∧(g67.length=g67.length)∧(g51.length=g51.length)∧nx1 (s9,s52,s53,(IntKind.i64.wrap (s54+1):Int),h0_0,h0_1,h0_4,h0_5,h0_6,h0_7,h0_8,h0_9,h1_0,h1_1,h1_2,h2_0,h2_1,h11_0,h11_1,h11_2,h27_0,h27_1,h27_2,h27_3,h27_4,g51,g67,g87,g12k,g12v,g13k,g13v,g14k,g14v,())))):k3i (r0,()) nx1 (s9,s13,s52,s53,s54,h0_0,h0_1,h0_4,h0_5,h0_6,h0_7,h0_8,h0_9,h1_0,h1_1,h1_2,h2_0,h2_1,h11_0,h11_1,h11_2,h27_0,h27_1,h27_2,h27_3,h27_4,h88_0,h88_1,h88_2,h88_3,h88_4,h88_5,h88_6,h88_7,h88_8,g51,g67,g87,g12k,g12v,g13k,g13v,g14k,g14v,()):=⟨mpr_of (by kernel_rfl) h⟩
def kj7 (r0:Bool) (nx1:NX TB kh) (k1:Bool→Int→Int→Bool→Int→Int→Int→Int→List TQuestion→List TStored→List TStored→List Int→List TQuestion→List ByteArray→List Int→List ByteArray→List (List Int)→List ByteArray→List Bool→Prop) (s52:List TSpent) (s53:Int) (h0_0:Int) (h0_4:List Int) (h0_5:Int) (h0_6:Int) (h0_7:Int) (h0_8:Int) (h0_9:Int) (h1_0:List TSpent) (h1_1:List TNote) (h1_2:Int) (h2_0:Int) (h2_1:Int) (g67:List Int) (s9:Bool) (s54:Int) (h0_1:Int) (h11_0:Bool) (h11_1:Int) (h11_2:Int) (h27_0:Int) (h27_1:Int) (h27_2:List TQuestion) (h27_3:List TStored) (h27_4:List TStored) (g51:List Int) (g87:List TQuestion) (g12k:List ByteArray) (g12v:List Int) (g13k:List ByteArray) (g13v:List (List Int)) (g14k:List ByteArray) (g14v:List Bool):Prop:=
(decide (s54<s53)=true→
(0≤s54)∧s54<(s52.length:Int)∧(0≤s54)∧let v1:Bool:=((iand .u16 (ishr .u16 h2_1 s54) 1)==1)
(v1=true→
(g87=g87)∧(g67.length=g67.length)∧(g51.length=g51.length)∧k1 s9 (IntKind.i64.wrap (s54+1):Int) h0_1 h11_0 h11_1 h11_2 h27_0 h27_1 h27_2 h27_3 h27_4 g51 g87 g12k g12v g13k g13v g14k g14v)∧
(v1=false→
(g87=g87)∧(U64 (3:Int)∧(Us [(ix s52 s54).Key,(ix s52 s54).Note_Rho]∧[(ix s52 s54).Key,(ix s52 s54).Note_Rho].length≤1000000000)∧OOk (OS.mk h11_0 h11_1 h11_2 g87 g12k g12v g13k g13v g14k g14v)∧KQ h27_2)∧let r2:Int:=((hO (OS.mk h11_0 h11_1 h11_2 g87 g12k g12v g13k g13v g14k g14v) (3:Int) [(ix s52 s54).Key,(ix s52 s54).Note_Rho]).n)
 let r3:Bool:=((hO (OS.mk h11_0 h11_1 h11_2 g87 g12k g12v g13k g13v g14k g14v) (3:Int) [(ix s52 s54).Key,(ix s52 s54).Note_Rho]).n==(mH (TModel.mk h27_0 h27_1 h27_2 h27_3 h27_4) (3:Int) [(ix s52 s54).Key,(ix s52 s54).Note_Rho]).n)
 let r4:Bool:=((hO (OS.mk h11_0 h11_1 h11_2 g87 g12k g12v g13k g13v g14k g14v) (3:Int) [(ix s52 s54).Key,(ix s52 s54).Note_Rho]).o.a)
 let r5:Int:=((hO (OS.mk h11_0 h11_1 h11_2 g87 g12k g12v g13k g13v g14k g14v) (3:Int) [(ix s52 s54).Key,(ix s52 s54).Note_Rho]).o.b)
 let r6:Int:=((hO (OS.mk h11_0 h11_1 h11_2 g87 g12k g12v g13k g13v g14k g14v) (3:Int) [(ix s52 s54).Key,(ix s52 s54).Note_Rho]).o.c)
 let r7:Int:=((mH (TModel.mk h27_0 h27_1 h27_2 h27_3 h27_4) (3:Int) [(ix s52 s54).Key,(ix s52 s54).Note_Rho]).m.State)
 let r8:Int:=((mH (TModel.mk h27_0 h27_1 h27_2 h27_3 h27_4) (3:Int) [(ix s52 s54).Key,(ix s52 s54).Note_Rho]).m.Draws)
 let r9:List TQuestion:=((mH (TModel.mk h27_0 h27_1 h27_2 h27_3 h27_4) (3:Int) [(ix s52 s54).Key,(ix s52 s54).Note_Rho]).m.Known)
 let r10:List TStored:=((mH (TModel.mk h27_0 h27_1 h27_2 h27_3 h27_4) (3:Int) [(ix s52 s54).Key,(ix s52 s54).Note_Rho]).m.Seals)
 let r11:List TStored:=((mH (TModel.mk h27_0 h27_1 h27_2 h27_3 h27_4) (3:Int) [(ix s52 s54).Key,(ix s52 s54).Note_Rho]).m.Proofs)
 let r12:List TQuestion:=((hO (OS.mk h11_0 h11_1 h11_2 g87 g12k g12v g13k g13v g14k g14v) (3:Int) [(ix s52 s54).Key,(ix s52 s54).Note_Rho]).o.q)
 let r13:List ByteArray:=((hO (OS.mk h11_0 h11_1 h11_2 g87 g12k g12v g13k g13v g14k g14v) (3:Int) [(ix s52 s54).Key,(ix s52 s54).Note_Rho]).o.k)
 let r14:List Int:=((hO (OS.mk h11_0 h11_1 h11_2 g87 g12k g12v g13k g13v g14k g14v) (3:Int) [(ix s52 s54).Key,(ix s52 s54).Note_Rho]).o.v)
 let r15:List ByteArray:=((hO (OS.mk h11_0 h11_1 h11_2 g87 g12k g12v g13k g13v g14k g14v) (3:Int) [(ix s52 s54).Key,(ix s52 s54).Note_Rho]).o.s)
 let r16:List (List Int):=((hO (OS.mk h11_0 h11_1 h11_2 g87 g12k g12v g13k g13v g14k g14v) (3:Int) [(ix s52 s54).Key,(ix s52 s54).Note_Rho]).o.t)
 let r17:List ByteArray:=((hO (OS.mk h11_0 h11_1 h11_2 g87 g12k g12v g13k g13v g14k g14v) (3:Int) [(ix s52 s54).Key,(ix s52 s54).Note_Rho]).o.x)
 let r18:List Bool:=((hO (OS.mk h11_0 h11_1 h11_2 g87 g12k g12v g13k g13v g14k g14v) (3:Int) [(ix s52 s54).Key,(ix s52 s54).Note_Rho]).o.y)
(0≤s54∧s54<(g51.length:Int))∧(0≤s54∧s54<(g51.length:Int))∧let r19:List Int:=(noteL (TNote.mk ((ix s52 s54).Note_Value) ((ix s52 s54).Note_Owner) ((ix s52 s54).Note_Rho) ((ix s52 s54).Note_Blind)))
(r12=r12)∧(U64 (2:Int)∧(Us r19∧r19.length≤1000000000)∧OOk (OS.mk r4 r5 r6 r12 r13 r14 r15 r16 r17 r18)∧KQ r9)∧let r20:Int:=((hO (OS.mk r4 r5 r6 r12 r13 r14 r15 r16 r17 r18) (2:Int) r19).n)
 let r21:Bool:=((hO (OS.mk r4 r5 r6 r12 r13 r14 r15 r16 r17 r18) (2:Int) r19).n==(mH (TModel.mk r7 r8 r9 r10 r11) (2:Int) r19).n)
 let r22:Bool:=((hO (OS.mk r4 r5 r6 r12 r13 r14 r15 r16 r17 r18) (2:Int) r19).o.a)
 let r23:Int:=((hO (OS.mk r4 r5 r6 r12 r13 r14 r15 r16 r17 r18) (2:Int) r19).o.b)
 let r24:Int:=((hO (OS.mk r4 r5 r6 r12 r13 r14 r15 r16 r17 r18) (2:Int) r19).o.c)
 let r25:Int:=((mH (TModel.mk r7 r8 r9 r10 r11) (2:Int) r19).m.State)
 let r26:Int:=((mH (TModel.mk r7 r8 r9 r10 r11) (2:Int) r19).m.Draws)
 let r27:List TQuestion:=((mH (TModel.mk r7 r8 r9 r10 r11) (2:Int) r19).m.Known)
 let r28:List TStored:=((mH (TModel.mk r7 r8 r9 r10 r11) (2:Int) r19).m.Seals)
 let r29:List TStored:=((mH (TModel.mk r7 r8 r9 r10 r11) (2:Int) r19).m.Proofs)
 let r30:List TQuestion:=((hO (OS.mk r4 r5 r6 r12 r13 r14 r15 r16 r17 r18) (2:Int) r19).o.q)
 let r31:List ByteArray:=((hO (OS.mk r4 r5 r6 r12 r13 r14 r15 r16 r17 r18) (2:Int) r19).o.k)
 let r32:List Int:=((hO (OS.mk r4 r5 r6 r12 r13 r14 r15 r16 r17 r18) (2:Int) r19).o.v)
 let r33:List ByteArray:=((hO (OS.mk r4 r5 r6 r12 r13 r14 r15 r16 r17 r18) (2:Int) r19).o.s)
 let r34:List (List Int):=((hO (OS.mk r4 r5 r6 r12 r13 r14 r15 r16 r17 r18) (2:Int) r19).o.t)
 let r35:List ByteArray:=((hO (OS.mk r4 r5 r6 r12 r13 r14 r15 r16 r17 r18) (2:Int) r19).o.x)
 let r36:List Bool:=((hO (OS.mk r4 r5 r6 r12 r13 r14 r15 r16 r17 r18) (2:Int) r19).o.y)
(s9=true→
(r3=true→
(r30=r30)∧(g67.length=g67.length)∧(g51.length=(g51.set s54.toNat r2).length)∧k3i (r0,()) nx1 (r21,r20,s52,s53,s54,h0_0,h0_1,h0_4,h0_5,h0_6,h0_7,h0_8,h0_9,h1_0,h1_1,h1_2,h2_0,h2_1,r22,r23,r24,r25,r26,r27,r28,r29,((ix s52 s54).Note_Value:Int),((ix s52 s54).Note_Owner:Int),((ix s52 s54).Note_Rho:Int),((ix s52 s54).Note_Blind:Int),((ix s52 s54).Key:Int),((ix s52 s54).Number:Int),((ix s52 s54).Position:Int),((ix s52 s54).Path:List Int),((ix s52 s54).Dummy:Bool),(g51.set s54.toNat r2:List Int),g67,r30,r31,r32,r33,r34,r35,r36,()))∧
(r3=false→
(r30=r30)∧(g67.length=g67.length)∧(g51.length=(g51.set s54.toNat r2).length)∧k3i (r0,()) nx1 (false,r20,s52,s53,s54,h0_0,h0_1,h0_4,h0_5,h0_6,h0_7,h0_8,h0_9,h1_0,h1_1,h1_2,h2_0,h2_1,r22,r23,r24,r25,r26,r27,r28,r29,((ix s52 s54).Note_Value:Int),((ix s52 s54).Note_Owner:Int),((ix s52 s54).Note_Rho:Int),((ix s52 s54).Note_Blind:Int),((ix s52 s54).Key:Int),((ix s52 s54).Number:Int),((ix s52 s54).Position:Int),((ix s52 s54).Path:List Int),((ix s52 s54).Dummy:Bool),(g51.set s54.toNat r2:List Int),g67,r30,r31,r32,r33,r34,r35,r36,())))∧
(s9=false→
(r30=r30)∧(g67.length=g67.length)∧(g51.length=(g51.set s54.toNat r2).length)∧k3i (r0,()) nx1 (false,r20,s52,s53,s54,h0_0,h0_1,h0_4,h0_5,h0_6,h0_7,h0_8,h0_9,h1_0,h1_1,h1_2,h2_0,h2_1,r22,r23,r24,r25,r26,r27,r28,r29,((ix s52 s54).Note_Value:Int),((ix s52 s54).Note_Owner:Int),((ix s52 s54).Note_Rho:Int),((ix s52 s54).Note_Blind:Int),((ix s52 s54).Key:Int),((ix s52 s54).Number:Int),((ix s52 s54).Position:Int),((ix s52 s54).Path:List Int),((ix s52 s54).Dummy:Bool),(g51.set s54.toNat r2:List Int),g67,r30,r31,r32,r33,r34,r35,r36,()))))∧
(decide (s54<s53)=false→
(g87=g87)∧(g67.length=g67.length)∧(g51.length=g51.length)∧Md.Loop (s9,h1_1,((h1_1.length:Int):Int),(0:Int),h0_0,h0_1,h0_4,h0_5,h0_6,h0_7,h0_8,h0_9,h1_0,h1_1,h1_2,h2_0,h2_1,h11_0,h11_1,h11_2,h27_0,h27_1,h27_2,h27_3,h27_4,g51,g67,g87,g12k,g12v,g13k,g13v,g14k,g14v,()) (k69 (r0,())))
theorem kv9 {r0:Bool} {s52:List TSpent} {s53:Int} {h0_0:Int} {h0_4:List Int} {h0_5:Int} {h0_6:Int} {h0_7:Int} {h0_8:Int} {h0_9:Int} {h1_0:List TSpent} {h1_1:List TNote} {h1_2:Int} {h2_0:Int} {h2_1:Int} {g67:List Int} {s9:Bool} {s54:Int} {h0_1:Int} {h11_0:Bool} {h11_1:Int} {h11_2:Int} {h27_0:Int} {h27_1:Int} {h27_2:List TQuestion} {h27_3:List TStored} {h27_4:List TStored} {g51:List Int} {g87:List TQuestion} {g12k:List ByteArray} {g12v:List Int} {g13k:List ByteArray} {g13v:List (List Int)} {g14k:List ByteArray} {g14v:List Bool} (inv:Bool→Int→Int→Bool→Int→Int→Int→Int→List TQuestion→List TStored→List TStored→List Int→List TQuestion→List ByteArray→List Int→List ByteArray→List (List Int)→List ByteArray→List Bool→Prop) (μ:Bool→Int→Int→Bool→Int→Int→Int→Int→List TQuestion→List TStored→List TStored→List Int→List TQuestion→List ByteArray→List Int→List ByteArray→List (List Int)→List ByteArray→List Bool→Nat) (h0:inv s9 s54 h0_1 h11_0 h11_1 h11_2 h27_0 h27_1 h27_2 h27_3 h27_4 g51 g87 g12k g12v g13k g13v g14k g14v) (hs:∀(s9:Bool) (s54:Int) (h0_1:Int) (h11_0:Bool) (h11_1:Int) (h11_2:Int) (h27_0:Int) (h27_1:Int) (h27_2:List TQuestion) (h27_3:List TStored) (h27_4:List TStored) (g51:List Int) (g87:List TQuestion) (g12k:List ByteArray) (g12v:List Int) (g13k:List ByteArray) (g13v:List (List Int)) (g14k:List ByteArray) (g14v:List Bool),inv s9 s54 h0_1 h11_0 h11_1 h11_2 h27_0 h27_1 h27_2 h27_3 h27_4 g51 g87 g12k g12v g13k g13v g14k g14v→kj7 r0 (fun s:Bool×(List TSpent)×Int×Int×Int×Int×(List Int)×Int×Int×Int×Int×Int×(List TSpent)×(List TNote)×Int×Int×Int×Bool×Int×Int×Int×Int×(List TQuestion)×(List TStored)×(List TStored)×(List Int)×(List Int)×(List TQuestion)×(List ByteArray)×(List Int)×(List ByteArray)×(List (List Int))×(List ByteArray)×(List Bool)×Unit=>((s.2.1=s52∧s.2.2.1=s53∧s.2.2.2.2.1=h0_0∧s.2.2.2.2.2.2.1=h0_4∧s.2.2.2.2.2.2.2.1=h0_5∧s.2.2.2.2.2.2.2.2.1=h0_6∧s.2.2.2.2.2.2.2.2.2.1=h0_7∧s.2.2.2.2.2.2.2.2.2.2.1=h0_8∧s.2.2.2.2.2.2.2.2.2.2.2.1=h0_9∧s.2.2.2.2.2.2.2.2.2.2.2.2.1=h1_0∧s.2.2.2.2.2.2.2.2.2.2.2.2.2.1=h1_1∧s.2.2.2.2.2.2.2.2.2.2.2.2.2.2.1=h1_2∧s.2.2.2.2.2.2.2.2.2.2.2.2.2.2.2.1=h2_0∧s.2.2.2.2.2.2.2.2.2.2.2.2.2.2.2.2.1=h2_1∧s.2.2.2.2.2.2.2.2.2.2.2.2.2.2.2.2.2.2.2.2.2.2.2.2.2.2.1=g67)∧inv s.1 s.2.2.2.1 s.2.2.2.2.2.1 s.2.2.2.2.2.2.2.2.2.2.2.2.2.2.2.2.2.1 s.2.2.2.2.2.2.2.2.2.2.2.2.2.2.2.2.2.2.1 s.2.2.2.2.2.2.2.2.2.2.2.2.2.2.2.2.2.2.2.1 s.2.2.2.2.2.2.2.2.2.2.2.2.2.2.2.2.2.2.2.2.1 s.2.2.2.2.2.2.2.2.2.2.2.2.2.2.2.2.2.2.2.2.2.1 s.2.2.2.2.2.2.2.2.2.2.2.2.2.2.2.2.2.2.2.2.2.2.1 s.2.2.2.2.2.2.2.2.2.2.2.2.2.2.2.2.2.2.2.2.2.2.2.1 s.2.2.2.2.2.2.2.2.2.2.2.2.2.2.2.2.2.2.2.2.2.2.2.2.1 s.2.2.2.2.2.2.2.2.2.2.2.2.2.2.2.2.2.2.2.2.2.2.2.2.2.1 s.2.2.2.2.2.2.2.2.2.2.2.2.2.2.2.2.2.2.2.2.2.2.2.2.2.2.2.1 s.2.2.2.2.2.2.2.2.2.2.2.2.2.2.2.2.2.2.2.2.2.2.2.2.2.2.2.2.1 s.2.2.2.2.2.2.2.2.2.2.2.2.2.2.2.2.2.2.2.2.2.2.2.2.2.2.2.2.2.1 s.2.2.2.2.2.2.2.2.2.2.2.2.2.2.2.2.2.2.2.2.2.2.2.2.2.2.2.2.2.2.1 s.2.2.2.2.2.2.2.2.2.2.2.2.2.2.2.2.2.2.2.2.2.2.2.2.2.2.2.2.2.2.2.1 s.2.2.2.2.2.2.2.2.2.2.2.2.2.2.2.2.2.2.2.2.2.2.2.2.2.2.2.2.2.2.2.2.1 s.2.2.2.2.2.2.2.2.2.2.2.2.2.2.2.2.2.2.2.2.2.2.2.2.2.2.2.2.2.2.2.2.2.1)∧μ s.1 s.2.2.2.1 s.2.2.2.2.2.1 s.2.2.2.2.2.2.2.2.2.2.2.2.2.2.2.2.2.1 s.2.2.2.2.2.2.2.2.2.2.2.2.2.2.2.2.2.2.1 s.2.2.2.2.2.2.2.2.2.2.2.2.2.2.2.2.2.2.2.1 s.2.2.2.2.2.2.2.2.2.2.2.2.2.2.2.2.2.2.2.2.1 s.2.2.2.2.2.2.2.2.2.2.2.2.2.2.2.2.2.2.2.2.2.1 s.2.2.2.2.2.2.2.2.2.2.2.2.2.2.2.2.2.2.2.2.2.2.1 s.2.2.2.2.2.2.2.2.2.2.2.2.2.2.2.2.2.2.2.2.2.2.2.1 s.2.2.2.2.2.2.2.2.2.2.2.2.2.2.2.2.2.2.2.2.2.2.2.2.1 s.2.2.2.2.2.2.2.2.2.2.2.2.2.2.2.2.2.2.2.2.2.2.2.2.2.1 s.2.2.2.2.2.2.2.2.2.2.2.2.2.2.2.2.2.2.2.2.2.2.2.2.2.2.2.1 s.2.2.2.2.2.2.2.2.2.2.2.2.2.2.2.2.2.2.2.2.2.2.2.2.2.2.2.2.1 s.2.2.2.2.2.2.2.2.2.2.2.2.2.2.2.2.2.2.2.2.2.2.2.2.2.2.2.2.2.1 s.2.2.2.2.2.2.2.2.2.2.2.2.2.2.2.2.2.2.2.2.2.2.2.2.2.2.2.2.2.2.1 s.2.2.2.2.2.2.2.2.2.2.2.2.2.2.2.2.2.2.2.2.2.2.2.2.2.2.2.2.2.2.2.1 s.2.2.2.2.2.2.2.2.2.2.2.2.2.2.2.2.2.2.2.2.2.2.2.2.2.2.2.2.2.2.2.2.1 s.2.2.2.2.2.2.2.2.2.2.2.2.2.2.2.2.2.2.2.2.2.2.2.2.2.2.2.2.2.2.2.2.2.1<μ s9 s54 h0_1 h11_0 h11_1 h11_2 h27_0 h27_1 h27_2 h27_3 h27_4 g51 g87 g12k g12v g13k g13v g14k g14v) (fun s9q s54q h0_1q h11_0q h11_1q h11_2q h27_0q h27_1q h27_2q h27_3q h27_4q g51q g87q g12kq g12vq g13kq g13vq g14kq g14vq=>inv s9q s54q h0_1q h11_0q h11_1q h11_2q h27_0q h27_1q h27_2q h27_3q h27_4q g51q g87q g12kq g12vq g13kq g13vq g14kq g14vq∧μ s9q s54q h0_1q h11_0q h11_1q h11_2q h27_0q h27_1q h27_2q h27_3q h27_4q g51q g87q g12kq g12vq g13kq g13vq g14kq g14vq<μ s9 s54 h0_1 h11_0 h11_1 h11_2 h27_0 h27_1 h27_2 h27_3 h27_4 g51 g87 g12k g12v g13k g13v g14k g14v) s52 s53 h0_0 h0_4 h0_5 h0_6 h0_7 h0_8 h0_9 h1_0 h1_1 h1_2 h2_0 h2_1 g67 s9 s54 h0_1 h11_0 h11_1 h11_2 h27_0 h27_1 h27_2 h27_3 h27_4 g51 g87 g12k g12v g13k g13v g14k g14v):Md.Loop (s9,s52,s53,s54,h0_0,h0_1,h0_4,h0_5,h0_6,h0_7,h0_8,h0_9,h1_0,h1_1,h1_2,h2_0,h2_1,h11_0,h11_1,h11_2,h27_0,h27_1,h27_2,h27_3,h27_4,g51,g67,g87,g12k,g12v,g13k,g13v,g14k,g14v,()) (k6l (r0,())):=
 ⟨⟨fun s:Bool×(List TSpent)×Int×Int×Int×Int×(List Int)×Int×Int×Int×Int×Int×(List TSpent)×(List TNote)×Int×Int×Int×Bool×Int×Int×Int×Int×(List TQuestion)×(List TStored)×(List TStored)×(List Int)×(List Int)×(List TQuestion)×(List ByteArray)×(List Int)×(List ByteArray)×(List (List Int))×(List ByteArray)×(List Bool)×Unit=>(s.2.1=s52∧s.2.2.1=s53∧s.2.2.2.2.1=h0_0∧s.2.2.2.2.2.2.1=h0_4∧s.2.2.2.2.2.2.2.1=h0_5∧s.2.2.2.2.2.2.2.2.1=h0_6∧s.2.2.2.2.2.2.2.2.2.1=h0_7∧s.2.2.2.2.2.2.2.2.2.2.1=h0_8∧s.2.2.2.2.2.2.2.2.2.2.2.1=h0_9∧s.2.2.2.2.2.2.2.2.2.2.2.2.1=h1_0∧s.2.2.2.2.2.2.2.2.2.2.2.2.2.1=h1_1∧s.2.2.2.2.2.2.2.2.2.2.2.2.2.2.1=h1_2∧s.2.2.2.2.2.2.2.2.2.2.2.2.2.2.2.1=h2_0∧s.2.2.2.2.2.2.2.2.2.2.2.2.2.2.2.2.1=h2_1∧s.2.2.2.2.2.2.2.2.2.2.2.2.2.2.2.2.2.2.2.2.2.2.2.2.2.2.1=g67)∧inv s.1 s.2.2.2.1 s.2.2.2.2.2.1 s.2.2.2.2.2.2.2.2.2.2.2.2.2.2.2.2.2.1 s.2.2.2.2.2.2.2.2.2.2.2.2.2.2.2.2.2.2.1 s.2.2.2.2.2.2.2.2.2.2.2.2.2.2.2.2.2.2.2.1 s.2.2.2.2.2.2.2.2.2.2.2.2.2.2.2.2.2.2.2.2.1 s.2.2.2.2.2.2.2.2.2.2.2.2.2.2.2.2.2.2.2.2.2.1 s.2.2.2.2.2.2.2.2.2.2.2.2.2.2.2.2.2.2.2.2.2.2.1 s.2.2.2.2.2.2.2.2.2.2.2.2.2.2.2.2.2.2.2.2.2.2.2.1 s.2.2.2.2.2.2.2.2.2.2.2.2.2.2.2.2.2.2.2.2.2.2.2.2.1 s.2.2.2.2.2.2.2.2.2.2.2.2.2.2.2.2.2.2.2.2.2.2.2.2.2.1 s.2.2.2.2.2.2.2.2.2.2.2.2.2.2.2.2.2.2.2.2.2.2.2.2.2.2.2.1 s.2.2.2.2.2.2.2.2.2.2.2.2.2.2.2.2.2.2.2.2.2.2.2.2.2.2.2.2.1 s.2.2.2.2.2.2.2.2.2.2.2.2.2.2.2.2.2.2.2.2.2.2.2.2.2.2.2.2.2.1 s.2.2.2.2.2.2.2.2.2.2.2.2.2.2.2.2.2.2.2.2.2.2.2.2.2.2.2.2.2.2.1 s.2.2.2.2.2.2.2.2.2.2.2.2.2.2.2.2.2.2.2.2.2.2.2.2.2.2.2.2.2.2.2.1 s.2.2.2.2.2.2.2.2.2.2.2.2.2.2.2.2.2.2.2.2.2.2.2.2.2.2.2.2.2.2.2.2.1 s.2.2.2.2.2.2.2.2.2.2.2.2.2.2.2.2.2.2.2.2.2.2.2.2.2.2.2.2.2.2.2.2.2.1,fun s:Bool×(List TSpent)×Int×Int×Int×Int×(List Int)×Int×Int×Int×Int×Int×(List TSpent)×(List TNote)×Int×Int×Int×Bool×Int×Int×Int×Int×(List TQuestion)×(List TStored)×(List TStored)×(List Int)×(List Int)×(List TQuestion)×(List ByteArray)×(List Int)×(List ByteArray)×(List (List Int))×(List ByteArray)×(List Bool)×Unit=>μ s.1 s.2.2.2.1 s.2.2.2.2.2.1 s.2.2.2.2.2.2.2.2.2.2.2.2.2.2.2.2.2.1 s.2.2.2.2.2.2.2.2.2.2.2.2.2.2.2.2.2.2.1 s.2.2.2.2.2.2.2.2.2.2.2.2.2.2.2.2.2.2.2.1 s.2.2.2.2.2.2.2.2.2.2.2.2.2.2.2.2.2.2.2.2.1 s.2.2.2.2.2.2.2.2.2.2.2.2.2.2.2.2.2.2.2.2.2.1 s.2.2.2.2.2.2.2.2.2.2.2.2.2.2.2.2.2.2.2.2.2.2.1 s.2.2.2.2.2.2.2.2.2.2.2.2.2.2.2.2.2.2.2.2.2.2.2.1 s.2.2.2.2.2.2.2.2.2.2.2.2.2.2.2.2.2.2.2.2.2.2.2.2.1 s.2.2.2.2.2.2.2.2.2.2.2.2.2.2.2.2.2.2.2.2.2.2.2.2.2.1 s.2.2.2.2.2.2.2.2.2.2.2.2.2.2.2.2.2.2.2.2.2.2.2.2.2.2.2.1 s.2.2.2.2.2.2.2.2.2.2.2.2.2.2.2.2.2.2.2.2.2.2.2.2.2.2.2.2.1 s.2.2.2.2.2.2.2.2.2.2.2.2.2.2.2.2.2.2.2.2.2.2.2.2.2.2.2.2.2.1 s.2.2.2.2.2.2.2.2.2.2.2.2.2.2.2.2.2.2.2.2.2.2.2.2.2.2.2.2.2.2.1 s.2.2.2.2.2.2.2.2.2.2.2.2.2.2.2.2.2.2.2.2.2.2.2.2.2.2.2.2.2.2.2.1 s.2.2.2.2.2.2.2.2.2.2.2.2.2.2.2.2.2.2.2.2.2.2.2.2.2.2.2.2.2.2.2.2.1 s.2.2.2.2.2.2.2.2.2.2.2.2.2.2.2.2.2.2.2.2.2.2.2.2.2.2.2.2.2.2.2.2.2.1,⟨⟨rfl,rfl,rfl,rfl,rfl,rfl,rfl,rfl,rfl,rfl,rfl,rfl,rfl,rfl,rfl⟩,h0⟩,fun(s9p,s52p,s53p,s54p,h0_0p,h0_1p,h0_4p,h0_5p,h0_6p,h0_7p,h0_8p,h0_9p,h1_0p,h1_1p,h1_2p,h2_0p,h2_1p,h11_0p,h11_1p,h11_2p,h27_0p,h27_1p,h27_2p,h27_3p,h27_4p,g51p,g67p,g87p,g12kp,g12vp,g13kp,g13vp,g14kp,g14vp,()) ⟨⟨eq0,eq1,eq2,eq3,eq4,eq5,eq6,eq7,eq8,eq9,eq10,eq11,eq12,eq13,eq14⟩,hi⟩=>by
  have eq0:s52p=s52:=eq0;subst s52p;have eq1:s53p=s53:=eq1;subst s53p;have eq2:h0_0p=h0_0:=eq2;subst h0_0p;have eq3:h0_4p=h0_4:=eq3;subst h0_4p;have eq4:h0_5p=h0_5:=eq4;subst h0_5p;have eq5:h0_6p=h0_6:=eq5;subst h0_6p;have eq6:h0_7p=h0_7:=eq6;subst h0_7p;have eq7:h0_8p=h0_8:=eq7;subst h0_8p;have eq8:h0_9p=h0_9:=eq8;subst h0_9p;have eq9:h1_0p=h1_0:=eq9;subst h1_0p;have eq10:h1_1p=h1_1:=eq10;subst h1_1p;have eq11:h1_2p=h1_2:=eq11;subst h1_2p;have eq12:h2_0p=h2_0:=eq12;subst h2_0p;have eq13:h2_1p=h2_1:=eq13;subst h2_1p;have eq14:g67p=g67:=eq14;subst g67p;exact mpr_of (by kernel_rfl) ((congrArg (fun k=>kj7 r0 (fun s:Bool×(List TSpent)×Int×Int×Int×Int×(List Int)×Int×Int×Int×Int×Int×(List TSpent)×(List TNote)×Int×Int×Int×Bool×Int×Int×Int×Int×(List TQuestion)×(List TStored)×(List TStored)×(List Int)×(List Int)×(List TQuestion)×(List ByteArray)×(List Int)×(List ByteArray)×(List (List Int))×(List ByteArray)×(List Bool)×Unit=>((s.2.1=s52∧s.2.2.1=s53∧s.2.2.2.2.1=h0_0∧s.2.2.2.2.2.2.1=h0_4∧s.2.2.2.2.2.2.2.1=h0_5∧s.2.2.2.2.2.2.2.2.1=h0_6∧s.2.2.2.2.2.2.2.2.2.1=h0_7∧s.2.2.2.2.2.2.2.2.2.2.1=h0_8∧s.2.2.2.2.2.2.2.2.2.2.2.1=h0_9∧s.2.2.2.2.2.2.2.2.2.2.2.2.1=h1_0∧s.2.2.2.2.2.2.2.2.2.2.2.2.2.1=h1_1∧s.2.2.2.2.2.2.2.2.2.2.2.2.2.2.1=h1_2∧s.2.2.2.2.2.2.2.2.2.2.2.2.2.2.2.1=h2_0∧s.2.2.2.2.2.2.2.2.2.2.2.2.2.2.2.2.1=h2_1∧s.2.2.2.2.2.2.2.2.2.2.2.2.2.2.2.2.2.2.2.2.2.2.2.2.2.2.1=g67)∧inv s.1 s.2.2.2.1 s.2.2.2.2.2.1 s.2.2.2.2.2.2.2.2.2.2.2.2.2.2.2.2.2.1 s.2.2.2.2.2.2.2.2.2.2.2.2.2.2.2.2.2.2.1 s.2.2.2.2.2.2.2.2.2.2.2.2.2.2.2.2.2.2.2.1 s.2.2.2.2.2.2.2.2.2.2.2.2.2.2.2.2.2.2.2.2.1 s.2.2.2.2.2.2.2.2.2.2.2.2.2.2.2.2.2.2.2.2.2.1 s.2.2.2.2.2.2.2.2.2.2.2.2.2.2.2.2.2.2.2.2.2.2.1 s.2.2.2.2.2.2.2.2.2.2.2.2.2.2.2.2.2.2.2.2.2.2.2.1 s.2.2.2.2.2.2.2.2.2.2.2.2.2.2.2.2.2.2.2.2.2.2.2.2.1 s.2.2.2.2.2.2.2.2.2.2.2.2.2.2.2.2.2.2.2.2.2.2.2.2.2.1 s.2.2.2.2.2.2.2.2.2.2.2.2.2.2.2.2.2.2.2.2.2.2.2.2.2.2.2.1 s.2.2.2.2.2.2.2.2.2.2.2.2.2.2.2.2.2.2.2.2.2.2.2.2.2.2.2.2.1 s.2.2.2.2.2.2.2.2.2.2.2.2.2.2.2.2.2.2.2.2.2.2.2.2.2.2.2.2.2.1 s.2.2.2.2.2.2.2.2.2.2.2.2.2.2.2.2.2.2.2.2.2.2.2.2.2.2.2.2.2.2.1 s.2.2.2.2.2.2.2.2.2.2.2.2.2.2.2.2.2.2.2.2.2.2.2.2.2.2.2.2.2.2.2.1 s.2.2.2.2.2.2.2.2.2.2.2.2.2.2.2.2.2.2.2.2.2.2.2.2.2.2.2.2.2.2.2.2.1 s.2.2.2.2.2.2.2.2.2.2.2.2.2.2.2.2.2.2.2.2.2.2.2.2.2.2.2.2.2.2.2.2.2.1)∧μ s.1 s.2.2.2.1 s.2.2.2.2.2.1 s.2.2.2.2.2.2.2.2.2.2.2.2.2.2.2.2.2.1 s.2.2.2.2.2.2.2.2.2.2.2.2.2.2.2.2.2.2.1 s.2.2.2.2.2.2.2.2.2.2.2.2.2.2.2.2.2.2.2.1 s.2.2.2.2.2.2.2.2.2.2.2.2.2.2.2.2.2.2.2.2.1 s.2.2.2.2.2.2.2.2.2.2.2.2.2.2.2.2.2.2.2.2.2.1 s.2.2.2.2.2.2.2.2.2.2.2.2.2.2.2.2.2.2.2.2.2.2.1 s.2.2.2.2.2.2.2.2.2.2.2.2.2.2.2.2.2.2.2.2.2.2.2.1 s.2.2.2.2.2.2.2.2.2.2.2.2.2.2.2.2.2.2.2.2.2.2.2.2.1 s.2.2.2.2.2.2.2.2.2.2.2.2.2.2.2.2.2.2.2.2.2.2.2.2.2.1 s.2.2.2.2.2.2.2.2.2.2.2.2.2.2.2.2.2.2.2.2.2.2.2.2.2.2.2.1 s.2.2.2.2.2.2.2.2.2.2.2.2.2.2.2.2.2.2.2.2.2.2.2.2.2.2.2.2.1 s.2.2.2.2.2.2.2.2.2.2.2.2.2.2.2.2.2.2.2.2.2.2.2.2.2.2.2.2.2.1 s.2.2.2.2.2.2.2.2.2.2.2.2.2.2.2.2.2.2.2.2.2.2.2.2.2.2.2.2.2.2.1 s.2.2.2.2.2.2.2.2.2.2.2.2.2.2.2.2.2.2.2.2.2.2.2.2.2.2.2.2.2.2.2.1 s.2.2.2.2.2.2.2.2.2.2.2.2.2.2.2.2.2.2.2.2.2.2.2.2.2.2.2.2.2.2.2.2.1 s.2.2.2.2.2.2.2.2.2.2.2.2.2.2.2.2.2.2.2.2.2.2.2.2.2.2.2.2.2.2.2.2.2.1<μ s9p s54p h0_1p h11_0p h11_1p h11_2p h27_0p h27_1p h27_2p h27_3p h27_4p g51p g87p g12kp g12vp g13kp g13vp g14kp g14vp) k s52 s53 h0_0 h0_4 h0_5 h0_6 h0_7 h0_8 h0_9 h1_0 h1_1 h1_2 h2_0 h2_1 g67 s9p s54p h0_1p h11_0p h11_1p h11_2p h27_0p h27_1p h27_2p h27_3p h27_4p g51p g87p g12kp g12vp g13kp g13vp g14kp g14vp) (lpk19 (⟨rfl,rfl,rfl,rfl,rfl,rfl,rfl,rfl,rfl,rfl,rfl,rfl,rfl,rfl,rfl⟩:s52=s52∧s53=s53∧h0_0=h0_0∧h0_4=h0_4∧h0_5=h0_5∧h0_6=h0_6∧h0_7=h0_7∧h0_8=h0_8∧h0_9=h0_9∧h1_0=h1_0∧h1_1=h1_1∧h1_2=h1_2∧h2_0=h2_0∧h2_1=h2_1∧g67=g67) inv (fun s9q s54q h0_1q h11_0q h11_1q h11_2q h27_0q h27_1q h27_2q h27_3q h27_4q g51q g87q g12kq g12vq g13kq g13vq g14kq g14vq=>μ s9q s54q h0_1q h11_0q h11_1q h11_2q h27_0q h27_1q h27_2q h27_3q h27_4q g51q g87q g12kq g12vq g13kq g13vq g14kq g14vq<μ s9p s54p h0_1p h11_0p h11_1p h11_2p h27_0p h27_1p h27_2p h27_3p h27_4p g51p g87p g12kp g12vp g13kp g13vp g14kp g14vp))).mpr (hs s9p s54p h0_1p h11_0p h11_1p h11_2p h27_0p h27_1p h27_2p h27_3p h27_4p g51p g87p g12kp g12vp g13kp g13vp g14kp g14vp hi))⟩⟩
def kk2 (r0:Bool) (k2:Bool→Int→Bool→Int→Int→Int→Int→List TQuestion→List TStored→List TStored→List Int→List TQuestion→List ByteArray→List Int→List ByteArray→List (List Int)→List ByteArray→List Bool→Prop) (s107:List TNote) (s108:Int) (h0_0:Int) (h0_1:Int) (h0_4:List Int) (h0_5:Int) (h0_6:Int) (h0_7:Int) (h0_8:Int) (h0_9:Int) (h1_0:List TSpent) (h1_1:List TNote) (h1_2:Int) (h2_0:Int) (h2_1:Int) (g51:List Int) (s9:Bool) (s109:Int) (h11_0:Bool) (h11_1:Int) (h11_2:Int) (h27_0:Int) (h27_1:Int) (h27_2:List TQuestion) (h27_3:List TStored) (h27_4:List TStored) (g67:List Int) (g87:List TQuestion) (g12k:List ByteArray) (g12v:List Int) (g13k:List ByteArray) (g13v:List (List Int)) (g14k:List ByteArray) (g14v:List Bool):Prop:=
(decide (s109<s108)=true→
(0≤s109)∧s109<(s107.length:Int)∧let v37:Int:=IntKind.i64.wrap (s109+(h1_0.length:Int))
(0≤v37)∧let v38:Bool:=((iand .u16 (ishr .u16 h2_1 v37) 1)==0)
(v38=true→
(g87=g87)∧(U64 (2:Int)∧(Us (noteL (ix s107 s109))∧(noteL (ix s107 s109)).length≤1000000000)∧OOk (OS.mk h11_0 h11_1 h11_2 g87 g12k g12v g13k g13v g14k g14v)∧KQ h27_2)∧let r39:Int:=((hO (OS.mk h11_0 h11_1 h11_2 g87 g12k g12v g13k g13v g14k g14v) (2:Int) (noteL (ix s107 s109))).n)
 let r40:Bool:=((hO (OS.mk h11_0 h11_1 h11_2 g87 g12k g12v g13k g13v g14k g14v) (2:Int) (noteL (ix s107 s109))).n==(mH (TModel.mk h27_0 h27_1 h27_2 h27_3 h27_4) (2:Int) (noteL (ix s107 s109))).n)
 let r41:Bool:=((hO (OS.mk h11_0 h11_1 h11_2 g87 g12k g12v g13k g13v g14k g14v) (2:Int) (noteL (ix s107 s109))).o.a)
 let r42:Int:=((hO (OS.mk h11_0 h11_1 h11_2 g87 g12k g12v g13k g13v g14k g14v) (2:Int) (noteL (ix s107 s109))).o.b)
 let r43:Int:=((hO (OS.mk h11_0 h11_1 h11_2 g87 g12k g12v g13k g13v g14k g14v) (2:Int) (noteL (ix s107 s109))).o.c)
 let r44:Int:=((mH (TModel.mk h27_0 h27_1 h27_2 h27_3 h27_4) (2:Int) (noteL (ix s107 s109))).m.State)
 let r45:Int:=((mH (TModel.mk h27_0 h27_1 h27_2 h27_3 h27_4) (2:Int) (noteL (ix s107 s109))).m.Draws)
 let r46:List TQuestion:=((mH (TModel.mk h27_0 h27_1 h27_2 h27_3 h27_4) (2:Int) (noteL (ix s107 s109))).m.Known)
 let r47:List TStored:=((mH (TModel.mk h27_0 h27_1 h27_2 h27_3 h27_4) (2:Int) (noteL (ix s107 s109))).m.Seals)
 let r48:List TStored:=((mH (TModel.mk h27_0 h27_1 h27_2 h27_3 h27_4) (2:Int) (noteL (ix s107 s109))).m.Proofs)
 let r49:List TQuestion:=((hO (OS.mk h11_0 h11_1 h11_2 g87 g12k g12v g13k g13v g14k g14v) (2:Int) (noteL (ix s107 s109))).o.q)
 let r50:List ByteArray:=((hO (OS.mk h11_0 h11_1 h11_2 g87 g12k g12v g13k g13v g14k g14v) (2:Int) (noteL (ix s107 s109))).o.k)
 let r51:List Int:=((hO (OS.mk h11_0 h11_1 h11_2 g87 g12k g12v g13k g13v g14k g14v) (2:Int) (noteL (ix s107 s109))).o.v)
 let r52:List ByteArray:=((hO (OS.mk h11_0 h11_1 h11_2 g87 g12k g12v g13k g13v g14k g14v) (2:Int) (noteL (ix s107 s109))).o.s)
 let r53:List (List Int):=((hO (OS.mk h11_0 h11_1 h11_2 g87 g12k g12v g13k g13v g14k g14v) (2:Int) (noteL (ix s107 s109))).o.t)
 let r54:List ByteArray:=((hO (OS.mk h11_0 h11_1 h11_2 g87 g12k g12v g13k g13v g14k g14v) (2:Int) (noteL (ix s107 s109))).o.x)
 let r55:List Bool:=((hO (OS.mk h11_0 h11_1 h11_2 g87 g12k g12v g13k g13v g14k g14v) (2:Int) (noteL (ix s107 s109))).o.y)
(0≤s109∧s109<(g67.length:Int))∧(0≤s109∧s109<(g67.length:Int))∧(s9=true→
(r49=r49)∧(g67.length=(g67.set s109.toNat r39).length)∧(g51.length=g51.length)∧k2 r40 (IntKind.i64.wrap (s109+1):Int) r41 r42 r43 r44 r45 r46 r47 r48 (g67.set s109.toNat r39:List Int) r49 r50 r51 r52 r53 r54 r55)∧
(s9=false→
(r49=r49)∧(g67.length=(g67.set s109.toNat r39).length)∧(g51.length=g51.length)∧k2 false (IntKind.i64.wrap (s109+1):Int) r41 r42 r43 r44 r45 r46 r47 r48 (g67.set s109.toNat r39:List Int) r49 r50 r51 r52 r53 r54 r55))∧
(v38=false→
(g87=g87)∧(g67.length=g67.length)∧(g51.length=g51.length)∧k2 s9 (IntKind.i64.wrap (s109+1):Int) h11_0 h11_1 h11_2 h27_0 h27_1 h27_2 h27_3 h27_4 g67 g87 g12k g12v g13k g13v g14k g14v))∧
(decide (s109<s108)=false→
((!s9)=true→
 false=r0)∧
((!s9)=false→
(g51.length=g51.length)∧(g67.length=g67.length)∧(g87=g87)∧(SR (TStatement.mk h0_0 h0_1 g51 g67 h0_4 h0_5 h0_6 h0_7 h0_8 h0_9)∧WR (TWitness.mk h1_0 h1_1 h1_2)∧OOk (OS.mk h11_0 h11_1 h11_2 g87 g12k g12v g13k g13v g14k g14v))∧let r56:Int:=(checkS (pk h11_0 g87 g12k g12v) (TStatement.mk h0_0 h0_1 g51 g67 h0_4 h0_5 h0_6 h0_7 h0_8 h0_9) (TWitness.mk h1_0 h1_1 h1_2))
 let r57:Bool:=((OS.mk h11_0 h11_1 h11_2 g87 g12k g12v g13k g13v g14k g14v).a)
 let r58:Int:=((OS.mk h11_0 h11_1 h11_2 g87 g12k g12v g13k g13v g14k g14v).b)
 let r59:Int:=((OS.mk h11_0 h11_1 h11_2 g87 g12k g12v g13k g13v g14k g14v).c)
 let r60:List TQuestion:=((OS.mk h11_0 h11_1 h11_2 g87 g12k g12v g13k g13v g14k g14v).q)
 let r61:List ByteArray:=((OS.mk h11_0 h11_1 h11_2 g87 g12k g12v g13k g13v g14k g14v).k)
 let r62:List Int:=((OS.mk h11_0 h11_1 h11_2 g87 g12k g12v g13k g13v g14k g14v).v)
 let r63:List ByteArray:=((OS.mk h11_0 h11_1 h11_2 g87 g12k g12v g13k g13v g14k g14v).s)
 let r64:List (List Int):=((OS.mk h11_0 h11_1 h11_2 g87 g12k g12v g13k g13v g14k g14v).t)
 let r65:List ByteArray:=((OS.mk h11_0 h11_1 h11_2 g87 g12k g12v g13k g13v g14k g14v).x)
 let r66:List Bool:=((OS.mk h11_0 h11_1 h11_2 g87 g12k g12v g13k g13v g14k g14v).y)
((TPlace.mk true h27_0 h27_1 h27_2 h27_3 h27_4).Ideal=true∧KU (TPlace.mk true h27_0 h27_1 h27_2 h27_3 h27_4).M_Known∧SR (TStatement.mk h0_0 h0_1 g51 g67 h0_4 h0_5 h0_6 h0_7 h0_8 h0_9)∧WR (TWitness.mk h1_0 h1_1 h1_2))∧let r67:Int:=(checkS (rpk (TPlace.mk true h27_0 h27_1 h27_2 h27_3 h27_4).M_Known) (TStatement.mk h0_0 h0_1 g51 g67 h0_4 h0_5 h0_6 h0_7 h0_8 h0_9) (TWitness.mk h1_0 h1_1 h1_2))
((r56==r67)=true→
(r60=r60)∧(r60.length≤1000000∧∀x∈r60,x.Elems.length≤1000000000)∧let v68:Bool:=((r60.length:Int)==(h27_2.length:Int))
(v68=true→
(r60=r60)∧(r59==h27_1)=r0)∧
(v68=false→
 false=r0))∧
((r56==r67)=false→
 false=r0)))
theorem kue {r0:Bool} {s107:List TNote} {s108:Int} {h0_0:Int} {h0_1:Int} {h0_4:List Int} {h0_5:Int} {h0_6:Int} {h0_7:Int} {h0_8:Int} {h0_9:Int} {h1_0:List TSpent} {h1_1:List TNote} {h1_2:Int} {h2_0:Int} {h2_1:Int} {g51:List Int} {s9:Bool} {s109:Int} {h11_0:Bool} {h11_1:Int} {h11_2:Int} {h27_0:Int} {h27_1:Int} {h27_2:List TQuestion} {h27_3:List TStored} {h27_4:List TStored} {g67:List Int} {g87:List TQuestion} {g12k:List ByteArray} {g12v:List Int} {g13k:List ByteArray} {g13v:List (List Int)} {g14k:List ByteArray} {g14v:List Bool} (inv:Bool→Int→Bool→Int→Int→Int→Int→List TQuestion→List TStored→List TStored→List Int→List TQuestion→List ByteArray→List Int→List ByteArray→List (List Int)→List ByteArray→List Bool→Prop) (μ:Bool→Int→Bool→Int→Int→Int→Int→List TQuestion→List TStored→List TStored→List Int→List TQuestion→List ByteArray→List Int→List ByteArray→List (List Int)→List ByteArray→List Bool→Nat) (h0:inv s9 s109 h11_0 h11_1 h11_2 h27_0 h27_1 h27_2 h27_3 h27_4 g67 g87 g12k g12v g13k g13v g14k g14v) (hs:∀(s9:Bool) (s109:Int) (h11_0:Bool) (h11_1:Int) (h11_2:Int) (h27_0:Int) (h27_1:Int) (h27_2:List TQuestion) (h27_3:List TStored) (h27_4:List TStored) (g67:List Int) (g87:List TQuestion) (g12k:List ByteArray) (g12v:List Int) (g13k:List ByteArray) (g13v:List (List Int)) (g14k:List ByteArray) (g14v:List Bool),inv s9 s109 h11_0 h11_1 h11_2 h27_0 h27_1 h27_2 h27_3 h27_4 g67 g87 g12k g12v g13k g13v g14k g14v→kk2 r0 (fun s9q s109q h11_0q h11_1q h11_2q h27_0q h27_1q h27_2q h27_3q h27_4q g67q g87q g12kq g12vq g13kq g13vq g14kq g14vq=>inv s9q s109q h11_0q h11_1q h11_2q h27_0q h27_1q h27_2q h27_3q h27_4q g67q g87q g12kq g12vq g13kq g13vq g14kq g14vq∧μ s9q s109q h11_0q h11_1q h11_2q h27_0q h27_1q h27_2q h27_3q h27_4q g67q g87q g12kq g12vq g13kq g13vq g14kq g14vq<μ s9 s109 h11_0 h11_1 h11_2 h27_0 h27_1 h27_2 h27_3 h27_4 g67 g87 g12k g12v g13k g13v g14k g14v) s107 s108 h0_0 h0_1 h0_4 h0_5 h0_6 h0_7 h0_8 h0_9 h1_0 h1_1 h1_2 h2_0 h2_1 g51 s9 s109 h11_0 h11_1 h11_2 h27_0 h27_1 h27_2 h27_3 h27_4 g67 g87 g12k g12v g13k g13v g14k g14v):Md.Loop (s9,s107,s108,s109,h0_0,h0_1,h0_4,h0_5,h0_6,h0_7,h0_8,h0_9,h1_0,h1_1,h1_2,h2_0,h2_1,h11_0,h11_1,h11_2,h27_0,h27_1,h27_2,h27_3,h27_4,g51,g67,g87,g12k,g12v,g13k,g13v,g14k,g14v,()) (k69 (r0,())):=
 ⟨⟨fun s:Bool×(List TNote)×Int×Int×Int×Int×(List Int)×Int×Int×Int×Int×Int×(List TSpent)×(List TNote)×Int×Int×Int×Bool×Int×Int×Int×Int×(List TQuestion)×(List TStored)×(List TStored)×(List Int)×(List Int)×(List TQuestion)×(List ByteArray)×(List Int)×(List ByteArray)×(List (List Int))×(List ByteArray)×(List Bool)×Unit=>(s.2.1=s107∧s.2.2.1=s108∧s.2.2.2.2.1=h0_0∧s.2.2.2.2.2.1=h0_1∧s.2.2.2.2.2.2.1=h0_4∧s.2.2.2.2.2.2.2.1=h0_5∧s.2.2.2.2.2.2.2.2.1=h0_6∧s.2.2.2.2.2.2.2.2.2.1=h0_7∧s.2.2.2.2.2.2.2.2.2.2.1=h0_8∧s.2.2.2.2.2.2.2.2.2.2.2.1=h0_9∧s.2.2.2.2.2.2.2.2.2.2.2.2.1=h1_0∧s.2.2.2.2.2.2.2.2.2.2.2.2.2.1=h1_1∧s.2.2.2.2.2.2.2.2.2.2.2.2.2.2.1=h1_2∧s.2.2.2.2.2.2.2.2.2.2.2.2.2.2.2.1=h2_0∧s.2.2.2.2.2.2.2.2.2.2.2.2.2.2.2.2.1=h2_1∧s.2.2.2.2.2.2.2.2.2.2.2.2.2.2.2.2.2.2.2.2.2.2.2.2.2.1=g51)∧inv s.1 s.2.2.2.1 s.2.2.2.2.2.2.2.2.2.2.2.2.2.2.2.2.2.1 s.2.2.2.2.2.2.2.2.2.2.2.2.2.2.2.2.2.2.1 s.2.2.2.2.2.2.2.2.2.2.2.2.2.2.2.2.2.2.2.1 s.2.2.2.2.2.2.2.2.2.2.2.2.2.2.2.2.2.2.2.2.1 s.2.2.2.2.2.2.2.2.2.2.2.2.2.2.2.2.2.2.2.2.2.1 s.2.2.2.2.2.2.2.2.2.2.2.2.2.2.2.2.2.2.2.2.2.2.1 s.2.2.2.2.2.2.2.2.2.2.2.2.2.2.2.2.2.2.2.2.2.2.2.1 s.2.2.2.2.2.2.2.2.2.2.2.2.2.2.2.2.2.2.2.2.2.2.2.2.1 s.2.2.2.2.2.2.2.2.2.2.2.2.2.2.2.2.2.2.2.2.2.2.2.2.2.2.1 s.2.2.2.2.2.2.2.2.2.2.2.2.2.2.2.2.2.2.2.2.2.2.2.2.2.2.2.1 s.2.2.2.2.2.2.2.2.2.2.2.2.2.2.2.2.2.2.2.2.2.2.2.2.2.2.2.2.1 s.2.2.2.2.2.2.2.2.2.2.2.2.2.2.2.2.2.2.2.2.2.2.2.2.2.2.2.2.2.1 s.2.2.2.2.2.2.2.2.2.2.2.2.2.2.2.2.2.2.2.2.2.2.2.2.2.2.2.2.2.2.1 s.2.2.2.2.2.2.2.2.2.2.2.2.2.2.2.2.2.2.2.2.2.2.2.2.2.2.2.2.2.2.2.1 s.2.2.2.2.2.2.2.2.2.2.2.2.2.2.2.2.2.2.2.2.2.2.2.2.2.2.2.2.2.2.2.2.1 s.2.2.2.2.2.2.2.2.2.2.2.2.2.2.2.2.2.2.2.2.2.2.2.2.2.2.2.2.2.2.2.2.2.1,fun s:Bool×(List TNote)×Int×Int×Int×Int×(List Int)×Int×Int×Int×Int×Int×(List TSpent)×(List TNote)×Int×Int×Int×Bool×Int×Int×Int×Int×(List TQuestion)×(List TStored)×(List TStored)×(List Int)×(List Int)×(List TQuestion)×(List ByteArray)×(List Int)×(List ByteArray)×(List (List Int))×(List ByteArray)×(List Bool)×Unit=>μ s.1 s.2.2.2.1 s.2.2.2.2.2.2.2.2.2.2.2.2.2.2.2.2.2.1 s.2.2.2.2.2.2.2.2.2.2.2.2.2.2.2.2.2.2.1 s.2.2.2.2.2.2.2.2.2.2.2.2.2.2.2.2.2.2.2.1 s.2.2.2.2.2.2.2.2.2.2.2.2.2.2.2.2.2.2.2.2.1 s.2.2.2.2.2.2.2.2.2.2.2.2.2.2.2.2.2.2.2.2.2.1 s.2.2.2.2.2.2.2.2.2.2.2.2.2.2.2.2.2.2.2.2.2.2.1 s.2.2.2.2.2.2.2.2.2.2.2.2.2.2.2.2.2.2.2.2.2.2.2.1 s.2.2.2.2.2.2.2.2.2.2.2.2.2.2.2.2.2.2.2.2.2.2.2.2.1 s.2.2.2.2.2.2.2.2.2.2.2.2.2.2.2.2.2.2.2.2.2.2.2.2.2.2.1 s.2.2.2.2.2.2.2.2.2.2.2.2.2.2.2.2.2.2.2.2.2.2.2.2.2.2.2.1 s.2.2.2.2.2.2.2.2.2.2.2.2.2.2.2.2.2.2.2.2.2.2.2.2.2.2.2.2.1 s.2.2.2.2.2.2.2.2.2.2.2.2.2.2.2.2.2.2.2.2.2.2.2.2.2.2.2.2.2.1 s.2.2.2.2.2.2.2.2.2.2.2.2.2.2.2.2.2.2.2.2.2.2.2.2.2.2.2.2.2.2.1 s.2.2.2.2.2.2.2.2.2.2.2.2.2.2.2.2.2.2.2.2.2.2.2.2.2.2.2.2.2.2.2.1 s.2.2.2.2.2.2.2.2.2.2.2.2.2.2.2.2.2.2.2.2.2.2.2.2.2.2.2.2.2.2.2.2.1 s.2.2.2.2.2.2.2.2.2.2.2.2.2.2.2.2.2.2.2.2.2.2.2.2.2.2.2.2.2.2.2.2.2.1,⟨⟨rfl,rfl,rfl,rfl,rfl,rfl,rfl,rfl,rfl,rfl,rfl,rfl,rfl,rfl,rfl,rfl⟩,h0⟩,fun(s9p,s107p,s108p,s109p,h0_0p,h0_1p,h0_4p,h0_5p,h0_6p,h0_7p,h0_8p,h0_9p,h1_0p,h1_1p,h1_2p,h2_0p,h2_1p,h11_0p,h11_1p,h11_2p,h27_0p,h27_1p,h27_2p,h27_3p,h27_4p,g51p,g67p,g87p,g12kp,g12vp,g13kp,g13vp,g14kp,g14vp,()) ⟨⟨eq0,eq1,eq2,eq3,eq4,eq5,eq6,eq7,eq8,eq9,eq10,eq11,eq12,eq13,eq14,eq15⟩,hi⟩=>by
  have eq0:s107p=s107:=eq0;subst s107p;have eq1:s108p=s108:=eq1;subst s108p;have eq2:h0_0p=h0_0:=eq2;subst h0_0p;have eq3:h0_1p=h0_1:=eq3;subst h0_1p;have eq4:h0_4p=h0_4:=eq4;subst h0_4p;have eq5:h0_5p=h0_5:=eq5;subst h0_5p;have eq6:h0_6p=h0_6:=eq6;subst h0_6p;have eq7:h0_7p=h0_7:=eq7;subst h0_7p;have eq8:h0_8p=h0_8:=eq8;subst h0_8p;have eq9:h0_9p=h0_9:=eq9;subst h0_9p;have eq10:h1_0p=h1_0:=eq10;subst h1_0p;have eq11:h1_1p=h1_1:=eq11;subst h1_1p;have eq12:h1_2p=h1_2:=eq12;subst h1_2p;have eq13:h2_0p=h2_0:=eq13;subst h2_0p;have eq14:h2_1p=h2_1:=eq14;subst h2_1p;have eq15:g51p=g51:=eq15;subst g51p;exact mpr_of (by kernel_rfl) ((congrArg (fun k=>kk2 r0 k s107 s108 h0_0 h0_1 h0_4 h0_5 h0_6 h0_7 h0_8 h0_9 h1_0 h1_1 h1_2 h2_0 h2_1 g51 s9p s109p h11_0p h11_1p h11_2p h27_0p h27_1p h27_2p h27_3p h27_4p g67p g87p g12kp g12vp g13kp g13vp g14kp g14vp) (lpk18 (⟨rfl,rfl,rfl,rfl,rfl,rfl,rfl,rfl,rfl,rfl,rfl,rfl,rfl,rfl,rfl,rfl⟩:s107=s107∧s108=s108∧h0_0=h0_0∧h0_1=h0_1∧h0_4=h0_4∧h0_5=h0_5∧h0_6=h0_6∧h0_7=h0_7∧h0_8=h0_8∧h0_9=h0_9∧h1_0=h1_0∧h1_1=h1_1∧h1_2=h1_2∧h2_0=h2_0∧h2_1=h2_1∧g51=g51) inv (fun s9q s109q h11_0q h11_1q h11_2q h27_0q h27_1q h27_2q h27_3q h27_4q g67q g87q g12kq g12vq g13kq g13vq g14kq g14vq=>μ s9q s109q h11_0q h11_1q h11_2q h27_0q h27_1q h27_2q h27_3q h27_4q g67q g87q g12kq g12vq g13kq g13vq g14kq g14vq<μ s9p s109p h11_0p h11_1p h11_2p h27_0p h27_1p h27_2p h27_3p h27_4p g67p g87p g12kp g12vp g13kp g13vp g14kp g14vp))).mpr (hs s9p s109p h11_0p h11_1p h11_2p h27_0p h27_1p h27_2p h27_3p h27_4p g67p g87p g12kp g12vp g13kp g13vp g14kp g14vp hi))⟩⟩
theorem ksz (p0:TStatement) (p1:TWitness) (p2:TIdeal) (h:SQ p0∧WQ p1∧U64 p2.Seed∧0≤p2.Bits∧p2.Bits<65536):kaf (p0.Depth,p0.Anchor,p0.Marks,p0.Commits,p0.Rhos,p0.Deposit,p0.Withdraw,p0.Fee,p0.Account,p0.Bind,p1.Ins,p1.Outs,p1.Secret,p2.Seed,p2.Bits,()) ((true:Bool),()):=by
 obtain⟨hs,hw,hx,hb0,hb1⟩:=h
 have j1:∀s,(s=false→smallW p0 p1=true∧relV p0 p1=true)→k3h (true,()) (s,p0.Depth,p0.Anchor,p0.Marks,p0.Commits,p0.Rhos,p0.Deposit,p0.Withdraw,p0.Fee,p0.Account,p0.Bind,p1.Ins,p1.Outs,p1.Secret,p2.Seed,p2.Bits,()):=by
  intro s hsm
  refine krm ⟨fun _=>(by first|exact rfl|exact True.intro),fun e=> ?_⟩
  obtain⟨sm,rv⟩:=hsm e
  have sr:=hs.sr sm
  have wr:=hw.wr sm
  have hv:=kx6.1 rv
  have v1:=hv.2.2.2.2.2.2.2.2.2.1
  have v2:=hv.2.2.2.2.2.2.2.2.2.2.1
  have v3:=hv.2.2.2.2.2.2.2.2.2.2.2.1
  have v4:=hv.2.2.2.2.2.2.2.2.2.2.2.2.2.1
  clear hv
  have l1:=sr.ml
  have l2:=sr.cl
  refine⟨by omega,by unfold maxLen;omega,by omega,by unfold maxLen;omega,(by first|exact rfl|exact True.intro),(by first|exact rfl|exact True.intro),(by first|exact rfl|exact True.intro),?_⟩
  refine kv9 (fun ok i anc a b c st dr kn se pr g q k v s t x y=>true=ok∧(0≤i∧i≤p1.Ins.length)∧U64 anc∧IdI p0.Marks.length (2*i.toNat) (OS.mk a b c q k v s t x y) (TModel.mk st dr kn se pr) g)
   (fun _ i _ _ _ _ _ _ _ _ _ _ _ _ _ _ _ _ _=>(p1.Ins.length-i).toNat) ⟨rfl,⟨by omega,by omega⟩,sr.a,⟨OM.z p2.Seed,OOk.z true p2.Seed,Nat.zero_le _,rfl,sr.m⟩⟩ ?_
  rintro ok i anc a b c st dr kn se pr g q k v s t x y ⟨rfl,⟨g0,g1⟩,g2,g3⟩
  refine⟨fun hh=> ?_,fun hh=> ?_⟩
  ·have hh:=of_decide_eq_true hh
   have hp:=wr.i _ (ix_mem p1.Ins i g0 hh)
   have ei:=inc i p1.Ins.length g0 hh (by omega)
   have gl:=g3.l
   have u1:Us [(ix p1.Ins i).Key,(ix p1.Ins i).Note_Rho]:=by
    intro y hy
    rcases List.mem_cons.1 hy with rfl|hy
    ·exact hp.k
    ·rw[List.mem_singleton.1 hy];exact hp.n.r
   have u2:Us (noteL (noteOf (ix p1.Ins i))):=kx0 hp.n
   have q1:=g3.ask (label:=3) (by decide) u1 (by simp) (by omega)
   have q2:=q1.2.2.ask (label:=2) (by decide) u2 (by simp[noteL]) (by omega)
   have j2:∀(ok:Bool) (n:Int) (o:OS) (m:TModel) (g' :List Int) nx,true=ok→U64 n→(∀(k anc' :Int),k=IntKind.i64.wrap (i+1)→U64 anc'→nx (ok,p1.Ins,((p1.Ins.length:Int):Int),k,p0.Depth,anc',p0.Rhos,p0.Deposit,p0.Withdraw,p0.Fee,p0.Account,p0.Bind,p1.Ins,p1.Outs,p1.Secret,p2.Seed,p2.Bits,o.a,o.b,o.c,m.State,m.Draws,m.Known,m.Seals,m.Proofs,g',p0.Commits,o.q,o.k,o.v,o.s,o.t,o.x,o.y,()))→
     k3i (true,()) nx (ok,n,p1.Ins,((p1.Ins.length:Int):Int),i,p0.Depth,anc,p0.Rhos,p0.Deposit,p0.Withdraw,p0.Fee,p0.Account,p0.Bind,p1.Ins,p1.Outs,p1.Secret,p2.Seed,p2.Bits,o.a,o.b,o.c,m.State,m.Draws,m.Known,m.Seals,m.Proofs,(ix p1.Ins i).Note_Value,(ix p1.Ins i).Note_Owner,(ix p1.Ins i).Note_Rho,(ix p1.Ins i).Note_Blind,(ix p1.Ins i).Key,(ix p1.Ins i).Number,(ix p1.Ins i).Position,(ix p1.Ins i).Path,(ix p1.Ins i).Dummy,g',p0.Commits,o.q,o.k,o.v,o.s,o.t,o.x,o.y,()):=by
    intro ok n o m g' nx hok hn hnx
    refine krv ⟨fun _=>⟨⟨hn,hp.pa,hp.pl,hp.po.2⟩,(by first|exact rfl|exact True.intro),(by first|exact rfl|exact True.intro),(by first|exact rfl|exact True.intro),hnx _ _ rfl (k1ll hn)⟩,fun _=>⟨(by first|exact rfl|exact True.intro),(by first|exact rfl|exact True.intro),(by first|exact rfl|exact True.intro),hnx _ _ rfl g2⟩⟩
   refine⟨g0,hh,g0,fun _=>⟨(by first|exact rfl|exact True.intro),(by first|exact rfl|exact True.intro),(by first|exact rfl|exact True.intro),?_⟩,fun _=>⟨(by first|exact rfl|exact True.intro),⟨by decide,⟨u1,by simp⟩,g3.ok,g3.kq⟩,⟨g0,by omega⟩,⟨g0,by omega⟩,(by first|exact rfl|exact True.intro),⟨by decide,⟨u2,by simp[noteL]⟩,q1.2.2.ok,q1.2.2.kq⟩,fun _=>⟨fun _=>⟨(by first|exact rfl|exact True.intro),(by first|exact rfl|exact True.intro),(by first|exact True.intro|simp),?_⟩,fun e3=> ?_⟩,fun h=>by cases h⟩⟩
   ·rw[ei]
    exact⟨⟨rfl,⟨by omega,by omega⟩,g2,g3.mono (by omega)⟩,by omega⟩
   ·refine j2 _ _ (hO (hO (OS.mk a b c q k v s t x y) 3 _).o 2 (noteL (noteOf (ix p1.Ins i)))).o (mH (mH (TModel.mk st dr kn se pr) 3 _).m 2 (noteL (noteOf (ix p1.Ins i)))).m _ _ ?_ q2.2.1 fun k anc' hk ha=> ?_
    ·symm;exact beq_iff_eq.2 q2.1
    ·rw[ei]at hk
     subst hk
     exact⟨⟨⟨rfl,rfl,rfl,rfl,rfl,rfl,rfl,rfl,rfl,rfl,rfl,rfl,rfl,rfl,rfl⟩,⟨by symm;exact beq_iff_eq.2 q2.1,(⟨by omega,by omega⟩:0≤i+1∧i+1≤(p1.Ins.length:Int)),ha,(q2.2.2.set _ q1.2.1).mono (by omega:2*i.toNat+1+1≤2*(i+1).toNat)⟩⟩,(by omega:((p1.Ins.length:Int)-(i+1)).toNat<((p1.Ins.length:Int)-i).toNat)⟩
   ·rw[beq_eq_false_iff_ne]at e3
    exact(e3 q1.1).elim
  ·have hh:=of_decide_eq_false hh
   refine⟨(by first|exact rfl|exact True.intro),(by first|exact rfl|exact True.intro),(by first|exact rfl|exact True.intro),?_⟩
   have gl:=g3.l
   refine kue (fun ok i a b c st dr kn se pr g' q k v s t x y=>true=ok∧(0≤i∧i≤p1.Outs.length)∧IdI p0.Commits.length (8+i.toNat) (OS.mk a b c q k v s t x y) (TModel.mk st dr kn se pr) g')
    (fun _ i _ _ _ _ _ _ _ _ _ _ _ _ _ _ _ _=>(p1.Outs.length-i).toNat) ⟨rfl,⟨by omega,by omega⟩,⟨g3.om,g3.ok,by have:=g3.n;omega,rfl,sr.c⟩⟩ ?_
   rintro ok i a b c st dr kn se pr g' q k v s t x y ⟨rfl,⟨k0,k1⟩,k2⟩
   have gl2:=k2.l
   refine⟨fun hh2=> ?_,fun hh2=> ?_⟩
   ·have hh2:=of_decide_eq_true hh2
    have hp:=wr.o _ (ix_mem p1.Outs i k0 hh2)
    have ei:=inc i p1.Outs.length k0 hh2 (by omega)
    have ew:IntKind.i64.wrap (i+(p1.Ins.length:Int))=i+(p1.Ins.length:Int):=wi _ (by omega) (by omega)
    have u2:Us (noteL (ix p1.Outs i)):=kx0 hp
    have q1:=k2.ask (label:=2) (by decide) u2 (by simp[noteL]) (by omega)
    refine⟨k0,hh2,by rw[ew];omega,fun _=>⟨(by first|exact rfl|exact True.intro),⟨by decide,⟨u2,by simp[noteL]⟩,k2.ok,k2.kq⟩,⟨k0,by omega⟩,⟨k0,by omega⟩,fun _=>⟨(by first|exact rfl|exact True.intro),(by first|exact True.intro|simp),(by first|exact rfl|exact True.intro),?_⟩,fun h=>by cases h⟩,fun _=>⟨(by first|exact rfl|exact True.intro),(by first|exact rfl|exact True.intro),(by first|exact rfl|exact True.intro),?_⟩⟩
    ·rw[ei]
     exact⟨⟨by symm;exact beq_iff_eq.2 q1.1,⟨by omega,by omega⟩,(q1.2.2.set _ q1.2.1).mono (by omega)⟩,by omega⟩
    ·rw[ei]
     exact⟨⟨rfl,⟨by omega,by omega⟩,k2.mono (by omega)⟩,by omega⟩
   ·have hh2:=of_decide_eq_false hh2
    have sr' :SR (TStatement.mk p0.Depth anc g g' p0.Rhos p0.Deposit p0.Withdraw p0.Fee p0.Account p0.Bind):=⟨sr.d,g2,g3.u,by show g.length≤_;omega,k2.u,by show g'.length≤_;omega,sr.r,sr.rl,sr.de,sr.wi,sr.f,sr.ac,sr.b⟩
    have ec:=k1gn k2.om.ask (s:=TStatement.mk p0.Depth anc g g' p0.Rhos p0.Deposit p0.Withdraw p0.Fee p0.Account p0.Bind) wr
    have hq:q=kn:=k2.om.q
    have hc:c=dr:=k2.om.c
    refine⟨fun h=>by(cases h),fun _=>⟨(by first|exact rfl|exact True.intro),(by first|exact rfl|exact True.intro),(by first|exact rfl|exact True.intro),⟨sr',wr,k2.ok⟩,⟨rfl,hq▸k2.ok.ku,sr',wr⟩,fun _=>⟨(by first|exact rfl|exact True.intro),⟨k2.ok.q,k2.ok.e⟩,fun _=>⟨(by first|exact rfl|exact True.intro),beq_iff_eq.2 hc⟩,fun e=> ?_⟩,fun e=> ?_⟩⟩
    ·rw[beq_eq_false_iff_ne]at e
     exact(e (by rw[←hq])).elim
    ·rw[beq_eq_false_iff_ne]at e
     exact(e ec).elim
 refine kx1 ⟨fun h=>by simp at h,fun _=>⟨hw.il,fun _=>j1 _ fun h=>by(cases h),fun e=> ?_⟩⟩
 have sm:smallW p0 p1=true:=by simpa using e
 exact⟨⟨hs.sr sm,hw.wr sm⟩,j1 _ fun h=>⟨sm,by simpa using h⟩⟩
end Go.Proofs.Ytpffhgljgpjenaa
end
