/-
  Parts of the proofs that the laws of this seat hold of every input, merged by a program: a machine over pure data that is sound for the model, what each function of the translation does in it, and plain lemmas. No conditions but those in each theorem.
-/
import Derived.Test.YtcilpmmlfpkdoaaA4
set_option maxRecDepth 100000
noncomputable section
namespace Go.Proofs.Ytcilpmmlfpkdoaa
open Go Go.Bv Go.Cv Go.Md Go.RowKit
def k7p:Con TB.den:=Con.mk0 74 [.one (.d (.int .u64)),.one (.d (.int .u64))] [] (.tup [.one (.d (.int .u64)),.one (.d (.int .u64))]) []
abbrev k19r:=HL TB.den (hsT k7p.ins (hsOs k7p.pre))
abbrev kts:=HL TB.den (hsV k7p.res (hsOs k7p.post))
noncomputable def kkg:Cx TB:=⟨inf,[],[],4,[]⟩
noncomputable def ktq:Code:=Try.f74.body.getD .skip
noncomputable def ky3:List ResultVar:=Try.f74.results.toList
noncomputable def k180 (o:kts):An TB:= .no
def kt9 (x:k19r) (o:kts):Prop:=WPh TB kkg 51 0 ktq (k180 o) (k7p.st TB x) (retTQ TB kkg k7p ky3 o)
theorem k1k3 (o:kts):OblH TB kkg 51 0 ktq (k180 o) (retTQ TB kkg k7p ky3 o):=
 OblH.ofC (X:=True) (by kernel_rfl) trivial
theorem k1ji {x:k19r} {o:kts} (h:kt9 x o):k7p.Snd Try.prog x o:=
 Con.soundH (c:=k7p) (C:=kkg) TBok ⟨inf_ok,all_nil,all_nil⟩ mix Try.func74 (show Try.f74.body=some ktq by kernel_rfl) (show Try.f74.ntmps=51 by kernel_rfl) (show Try.f74.results.toList=ky3 by kernel_rfl) rfl h (k1k3 o)
theorem k1mk {p0:Int} {p1:Int} {r0:Int} {r1:Int} (h:
(let v2:Int:=IntKind.u64.wrap ((iand .u64 p0 4294967295)*(iand .u64 p1 4294967295))
let v3:Int:=IntKind.u64.wrap ((ishr .u64 p0 32)*(iand .u64 p1 4294967295))
let v4:Int:=IntKind.u64.wrap (v3+(ishr .u64 v2 32))
let v5:Int:=IntKind.u64.wrap ((iand .u64 p0 4294967295)*(ishr .u64 p1 32))
let v6:Int:=IntKind.u64.wrap ((iand .u64 v4 4294967295)+v5)
let v7:Int:=IntKind.u64.wrap ((ishr .u64 p0 32)*(ishr .u64 p1 32))
let v8:Int:=IntKind.u64.wrap (v7+(ishr .u64 v4 32))
let v9:Int:=IntKind.u64.wrap (v8+(ishr .u64 v6 32))
v9=r0∧IntKind.u64.wrap (p0*p1)=r1)):kt9 (p0,p1,()) (r0,r1,()):=WPh.of_eq (by kernel_rfl) h
theorem bd74:Callable Try.prog 74:=⟨by rw[Try.func74];kernel_rfl,by rw[Try.func74];show some _≠some _;decide⟩
theorem k1iq (p0:Int) (p1:Int) (h:U64 p0∧U64 p1):kt9 (p0,p1,()) (((p0*p1/18446744073709551616):Int),((p0*p1%18446744073709551616):Int),()):=by
 obtain⟨h0,h1⟩:=h
 have k:=k1tz p0 p1 h0 h1
 refine k1mk ?_
 simp only[kqb p0 h0,kqb p1 h1,ishr32]
 obtain⟨e,k1,k2,k3,k4,k5,k6,k7,k8⟩:=k
 rw[←e]
 rw[wu (p0%4294967296*(p1%4294967296)) (by omega) (by omega),wu (p0/4294967296*(p1%4294967296)) (by omega) (by omega),wu (p0%4294967296*(p1/4294967296)) (by omega) (by omega),wu (p0/4294967296*(p1/4294967296)) (by omega) (by omega)]
 generalize p0%4294967296*(p1%4294967296)=a at *
 generalize p0/4294967296*(p1%4294967296)=b at *
 generalize p0%4294967296*(p1/4294967296)=c at *
 generalize p0/4294967296*(p1/4294967296)=d at *
 rw[wu (b+a/4294967296) (by omega) (by omega),kqb _ (by omega)]
 simp only[u64w]
 refine⟨?_,trivial⟩
 omega
noncomputable def kvk:Con TB.den:=k7p.fnR (fun x=>(fun(p0:Int) (p1:Int)=>U64 p0∧U64 p1) x.1 x.2.1) fun x=>(fun(p0:Int) (p1:Int)=>(((p0*p1/18446744073709551616):Int),((p0*p1%18446744073709551616):Int),())) x.1 x.2.1
theorem k17t:kvk.Ok Try.prog TB:=Con.ok_fn k7p bd74 fun x h=>k1ji (k1iq x.1 x.2.1 h)
def k8i:Con TB.den:=Con.mk0 94 [.agg [.d (.int .u64)],.one (.d (.int .u64)),.one (.d (.int .u64))] [] (.one (.one (.d (.int .u64)))) []
abbrev k1ds:=HL TB.den (hsT k8i.ins (hsOs k8i.pre))
abbrev kwk:=HL TB.den (hsV k8i.res (hsOs k8i.post))
noncomputable def kn7:Cx TB:=⟨inf,[kvk,kvq],[],4,[]⟩
noncomputable def kva:Code:=Try.f94.body.getD .skip
noncomputable def k11d:List ResultVar:=Try.f94.results.toList
noncomputable def k1ap (o:kwk):An TB:= .no
def kwb (x:k1ds) (o:kwk):Prop:=WPh TB kn7 26 0 kva (k1ap o) (k8i.st TB x) (retTQ TB kn7 k8i k11d o)
theorem k1ml (o:kwk):OblH TB kn7 26 0 kva (k1ap o) (retTQ TB kn7 k8i k11d o):=
 OblH.ofC (X:=True) (by kernel_rfl) trivial
theorem k1m3 {x:k1ds} {o:kwk} (h:kwb x o):k8i.Snd Try.prog x o:=
 Con.soundH (c:=k8i) (C:=kn7) TBok ⟨inf_ok,(all_cons k17t (all_cons k17n all_nil)),all_nil⟩ mix Try.func94 (show Try.f94.body=some kva by kernel_rfl) (show Try.f94.ntmps=26 by kernel_rfl) (show Try.f94.results.toList=k11d by kernel_rfl) rfl h (k1ml o)
theorem k1oq {p0:TField} {p1:Int} {p2:Int} {r0:Int} (h:
((U64 p1∧U64 p2)∧(U64 (p1*p2/18446744073709551616)∧U64 (p1*p2%18446744073709551616)∧U64 p0.P∧(p1*p2/18446744073709551616)<p0.P)∧let r1:Int:=(((p1*p2/18446744073709551616)*18446744073709551616+(p1*p2%18446744073709551616))/p0.P)
let r2:Int:=(((p1*p2/18446744073709551616)*18446744073709551616+(p1*p2%18446744073709551616))%p0.P)
r2=r0)):kwb (p0.P,p1,p2,()) (r0,()):=WPh.of_eq (by kernel_rfl) h
theorem bd94:Callable Try.prog 94:=⟨by rw[Try.func94];kernel_rfl,by rw[Try.func94];show some _≠some _;decide⟩
theorem k1jv (p0:TField) (p1:Int) (p2:Int) (h:p0.P=18446744069414584321∧(0≤p1∧p1<18446744069414584321)∧(0≤p2∧p2<18446744069414584321)):kwb (p0.P,p1,p2,()) (((p1*p2%18446744069414584321):Int),()):=by
 obtain⟨hP,h1,h2⟩:=h
 have h3:0≤p1*p2:=Int.mul_nonneg h1.1 h2.1
 have h4:p1*p2≤18446744069414584320*18446744069414584320:=Int.mul_le_mul (by omega) (by omega) h2.1 (by omega)
 refine k1oq ⟨⟨by omega,by omega⟩,?_⟩
 simp only[hP]
 generalize p1*p2=m at *
 refine⟨⟨⟨by omega,by omega⟩,⟨by omega,by omega⟩,by omega,by omega⟩,?_⟩
 rw[show m/18446744073709551616*18446744073709551616+m%18446744073709551616=m by omega]
noncomputable def kyc:Con TB.den:=k8i.fnR (fun x=>(fun(p0:TField) (p1:Int) (p2:Int)=>p0.P=18446744069414584321∧(0≤p1∧p1<18446744069414584321)∧(0≤p2∧p2<18446744069414584321)) (TField.mk x.1) x.2.1 x.2.2.1) fun x=>(fun(p0:TField) (p1:Int) (p2:Int)=>(((p1*p2%18446744069414584321):Int),())) (TField.mk x.1) x.2.1 x.2.2.1
theorem k1bx:kyc.Ok Try.prog TB:=Con.ok_fn k8i bd94 fun x h=>k1m3 (k1jv (TField.mk x.1) x.2.1 x.2.2.1 h)
def k8n:Con TB.den:=Con.mk0 80 [.agg [.d (.int .u64)],.one (.d (.int .u64)),.one (.d (.int .u64))] [] (.one (.one (.d (.int .u64)))) []
abbrev k1dw:=HL TB.den (hsT k8n.ins (hsOs k8n.pre))
abbrev kwg:=HL TB.den (hsV k8n.res (hsOs k8n.post))
noncomputable def km5:Cx TB:=⟨inf,[kap,kdb,kyc],[],4,[]⟩
noncomputable def kvu:Code:=Try.f80.body.getD .skip
noncomputable def k11p:List ResultVar:=Try.f80.results.toList
noncomputable def k1a9 (o:kwg):An TB:= .no
def kvx (x:k1dw) (o:kwg):Prop:=WPh TB km5 18 0 kvu (k1a9 o) (k8n.st TB x) (retTQ TB km5 k8n k11p o)
theorem k1mv (o:kwg):OblH TB km5 18 0 kvu (k1a9 o) (retTQ TB km5 k8n k11p o):=
 OblH.ofC (X:=True) (by kernel_rfl) trivial
theorem k1mf {x:k1dw} {o:kwg} (h:kvx x o):k8n.Snd Try.prog x o:=
 Con.soundH (c:=k8n) (C:=km5) TBok ⟨inf_ok,(all_cons ke7 (all_cons kjf (all_cons k1bx all_nil))),all_nil⟩ mix Try.func80 (show Try.f80.body=some kvu by kernel_rfl) (show Try.f80.ntmps=18 by kernel_rfl) (show Try.f80.results.toList=k11p by kernel_rfl) rfl h (k1mv o)
theorem k1o6 {p0:TField} {p1:Int} {p2:Int} {r0:Int} (h:
((p0.P=18446744069414584321)∧((!true)=true→
0=r0)∧
((!true)=false→
(0<p0.P∧0≤p1)∧(0<p0.P∧0≤p2)∧(p0.P=18446744069414584321∧(0≤(p1%p0.P)∧(p1%p0.P)<18446744069414584321)∧(0≤(p2%p0.P)∧(p2%p0.P)<18446744069414584321))∧let r1:Int:=((p1%p0.P)*(p2%p0.P)%18446744069414584321)
r1=r0))):kvx (p0.P,p1,p2,()) (r0,()):=WPh.of_eq (by kernel_rfl) h
theorem bd80:Callable Try.prog 80:=⟨by rw[Try.func80];kernel_rfl,by rw[Try.func80];show some _≠some _;decide⟩
theorem k1kb (p0:TField) (p1:Int) (p2:Int) (h:p0.P=18446744069414584321∧U64 p1∧U64 p2):kvx (p0.P,p1,p2,()) (((p1*p2%18446744069414584321):Int),()):=by
 obtain⟨hP,h1,h2⟩:=h
 refine k1o6 ⟨hP,?_⟩
 simp only[hP]
 refine⟨fun h=>by simp at h,fun _=>⟨by omega,by omega,⟨by trivial,by omega,by omega⟩,?_⟩⟩
 exact(Int.mul_emod _ _ _).symm
noncomputable def k182:Con TB.den:=k8n.fnR (fun x=>(fun(p0:TField) (p1:Int) (p2:Int)=>p0.P=18446744069414584321∧U64 p1∧U64 p2) (TField.mk x.1) x.2.1 x.2.2.1) fun x=>(fun(p0:TField) (p1:Int) (p2:Int)=>(((p1*p2%18446744069414584321):Int),())) (TField.mk x.1) x.2.1 x.2.2.1
theorem k1nz:k182.Ok Try.prog TB:=Con.ok_fn k8n bd80 fun x h=>k1mf (k1kb (TField.mk x.1) x.2.1 x.2.2.1 h)
def k5f:Con TB.den:=Con.mk0 89 [.agg [.d (.int .u64)]] [] (.tup [.one (.d (.int .u64)),.one (.d (.int .i64)),.one (.d (.int .u64))]) []
abbrev k136:=HL TB.den (hsT k5f.ins (hsOs k5f.pre))
abbrev kl7:=HL TB.den (hsV k5f.res (hsOs k5f.post))
noncomputable def kef:Cx TB:=⟨inf,[],[],4,[]⟩
noncomputable def km7:Code:=Try.f89.body.getD .skip
noncomputable def krc:List ResultVar:=Try.f89.results.toList
noncomputable def k10l (o:kl7):An TB:= .no
def knk (x:k136) (o:kl7):Prop:=WPh TB kef 21 0 km7 (k10l o) (k5f.st TB x) (retTQ TB kef k5f krc o)
theorem k1cy (o:kl7):OblH TB kef 21 0 km7 (k10l o) (retTQ TB kef k5f krc o):=
 OblH.ofC (X:=True) (by kernel_rfl) trivial
theorem k1dd {x:k136} {o:kl7} (h:knk x o):k5f.Snd Try.prog x o:=
 Con.soundH (c:=k5f) (C:=kef) TBok ⟨inf_ok,all_nil,all_nil⟩ mix Try.func89 (show Try.f89.body=some km7 by kernel_rfl) (show Try.f89.ntmps=21 by kernel_rfl) (show Try.f89.results.toList=krc by kernel_rfl) rfl h (k1cy o)
theorem k1eh {p0:TField} {r0:Int} {r1:Int} {r2:Int} (h:
(((p0.P==17)=true→
3=r0∧4=r1∧3=r2)∧
((p0.P==17)=false→
((p0.P==97)=true→
5=r0∧5=r1∧5=r2)∧
((p0.P==97)=false→
((p0.P==193)=true→
5=r0∧6=r1∧5=r2)∧
((p0.P==193)=false→
((p0.P==257)=true→
3=r0∧8=r1∧3=r2)∧
((p0.P==257)=false→
((p0.P==12289)=true→
11=r0∧12=r1∧5=r2)∧
((p0.P==12289)=false→
((p0.P==65537)=true→
3=r0∧16=r1∧3=r2)∧
((p0.P==65537)=false→
((p0.P==18446744069414584321)=true→
7=r0∧32=r1∧7=r2)∧
((p0.P==18446744069414584321)=false→
0=r0∧0=r1∧0=r2))))))))):knk (p0.P,()) (r0,r1,r2,()):=WPh.of_eq (by kernel_rfl) h
theorem bd89:Callable Try.prog 89:=⟨by rw[Try.func89];kernel_rfl,by rw[Try.func89];show some _≠some _;decide⟩
theorem k1ai (p0:TField) (h:p0.P=18446744069414584321):knk (p0.P,()) ((7:Int),(32:Int),(7:Int),()):=by
 refine k1eh ?_
 simp[h]
noncomputable def kz6:Con TB.den:=k5f.fnR (fun x=>(fun(p0:TField)=>p0.P=18446744069414584321) (TField.mk x.1)) fun x=>(fun(p0:TField)=>((7:Int),(32:Int),(7:Int),())) (TField.mk x.1)
theorem k1ga:kz6.Ok Try.prog TB:=Con.ok_fn k5f bd89 fun x h=>k1dd (k1ai (TField.mk x.1) h)
def k4t:Con TB.den:=Con.mk0 70 [.agg [.d (.int .u64)]] [] (.one (.one (.d (.int .u64)))) []
abbrev k11k:=HL TB.den (hsT k4t.ins (hsOs k4t.pre))
abbrev kjk:=HL TB.den (hsV k4t.res (hsOs k4t.post))
noncomputable def kdc:Cx TB:=⟨inf,[kz6],[],4,[]⟩
noncomputable def kkw:Code:=Try.f70.body.getD .skip
noncomputable def kp1:List ResultVar:=Try.f70.results.toList
noncomputable def kzc (o:kjk):An TB:= .no
def kkx (x:k11k) (o:kjk):Prop:=WPh TB kdc 13 0 kkw (kzc o) (k4t.st TB x) (retTQ TB kdc k4t kp1 o)
theorem k1by (o:kjk):OblH TB kdc 13 0 kkw (kzc o) (retTQ TB kdc k4t kp1 o):=
 OblH.ofC (X:=True) (by kernel_rfl) trivial
theorem k1b5 {x:k11k} {o:kjk} (h:kkx x o):k4t.Snd Try.prog x o:=
 Con.soundH (c:=k4t) (C:=kdc) TBok ⟨inf_ok,(all_cons k1ga all_nil),all_nil⟩ mix Try.func70 (show Try.f70.body=some kkw by kernel_rfl) (show Try.f70.ntmps=13 by kernel_rfl) (show Try.f70.results.toList=kp1 by kernel_rfl) rfl h (k1by o)
theorem k1ch {p0:TField} {r0:Int} (h:
((p0.P=18446744069414584321)∧7=r0)):kkx (p0.P,()) (r0,()):=WPh.of_eq (by kernel_rfl) h
theorem bd70:Callable Try.prog 70:=⟨by rw[Try.func70];kernel_rfl,by rw[Try.func70];show some _≠some _;decide⟩
theorem k18t (p0:TField) (h:p0.P=18446744069414584321):kkx (p0.P,()) ((7:Int),()):=by
 exact k1ch ⟨h,rfl⟩
noncomputable def kx9:Con TB.den:=k4t.fnR (fun x=>(fun(p0:TField)=>p0.P=18446744069414584321) (TField.mk x.1)) fun x=>(fun(p0:TField)=>((7:Int),())) (TField.mk x.1)
theorem k1d7:kx9.Ok Try.prog TB:=Con.ok_fn k4t bd70 fun x h=>k1b5 (k18t (TField.mk x.1) h)
def k7i:Con TB.den:=Con.mk0 90 [.agg [.d (.int .u64)],.one (.d (.int .u64)),.one (.d (.int .u64))] [] (.one (.one (.d (.int .u64)))) []
abbrev k1dm:=HL TB.den (hsT k7i.ins (hsOs k7i.pre))
abbrev k9d:=HL TB.den (hsV k7i.res (hsOs k7i.post))
noncomputable def kal:Cx TB:=⟨inf,[kyc],[],4,[]⟩
noncomputable def keb:Code:=Try.f90.body.getD .skip
noncomputable def kt2:List ResultVar:=Try.f90.results.toList
def k1ah (o:k9d):=qS TB kal 26 0 (cB (cB (cB keb))) .no (retTQ TB kal k7i kt2 o)
def k77:Tm:=⟨[0],[.cells [.d (.int .u64)]],[1,2,3,7],[.one (.d (.int .u64)),.one (.d (.int .u64)),.one (.ptr 0 0),.one (.d (.int .u64))],1⟩
def k1nn (o:k9d) (nx1:NX TB k77):=blockT TB 1 (qM TB 0 k77 nx1 (blockT TB 0 (k1ah o)))
def kqo:Tm:=⟨[0],[.cells [.d (.int .u64)]],[1,2,3,7],[.one (.d (.int .u64)),.one (.d (.int .u64)),.one (.ptr 0 0),.one (.d (.int .u64))],1⟩
def k17w (o:k9d) (nx1:NX TB k77) (i:HL TB.den kqo.hs):Prop:=ghs TB [] (kqo.fill TB i) fun s=>WP TB kal 26 0 (cB (cA (cB (cA (cA (cA (cB (cB keb)))))))) .no s (k1nn o nx1)
structure khj (o:k9d) (nx1:NX TB k77) (i:HL TB.den kqo.hs):Prop where
 h:k17w o nx1 i
noncomputable def k19y (o:k9d) (nx1:NX TB k77):An TB:= .nd [] .no [] (.jn kqo (khj o nx1) [] .no [] .no)
def kmt (o:k9d) (nx1:NX TB k77) (i:HL TB.den k77.hs):Prop:=WP TB kal 26 0 (cA (cA (cA (cB (cB keb))))) (k19y o nx1) (k77.fill TB i) (qM TB 0 k77 nx1 (blockT TB 0 (k1ah o)))
noncomputable def k1o7 (o:k9d):An TB:= .lp [] k77 (kmt o) fun nx1=>(k19y o nx1)
noncomputable def k1a8 (o:k9d):An TB:= .nd [] .no [] (.nd [] .no [] (.nd [] (k1o7 o) [] .no))
def kvz (x:k1dm) (o:k9d):Prop:=WPh TB kal 26 0 keb (k1a8 o) (k7i.st TB x) (retTQ TB kal k7i kt2 o)
theorem k1m2 (o:k9d):OblH TB kal 26 0 keb (k1a8 o) (retTQ TB kal k7i kt2 o):=
 OblH.ofC (X:=((∀nx i,(kmt o) nx i=(kmt o) nx i)∧(∀nx1:NX TB k77,((∀i,(khj o nx1) i=k17w o nx1 i)∧True))∧True)) (by kernel_rfl) ⟨fun _ _=>rfl,fun _=>⟨fun _=>propext ⟨fun h=>h.1,fun h=>⟨h⟩⟩,trivial⟩,trivial⟩
theorem k1ms {x:k1dm} {o:k9d} (h:kvz x o):k7i.Snd Try.prog x o:=
 Con.soundH (c:=k7i) (C:=kal) TBok ⟨inf_ok,(all_cons k1bx all_nil),all_nil⟩ mix Try.func90 (show Try.f90.body=some keb by kernel_rfl) (show Try.f90.ntmps=26 by kernel_rfl) (show Try.f90.results.toList=kt2 by kernel_rfl) rfl h (k1m2 o)
theorem k1p5 {p0:TField} {p1:Int} {p2:Int} {r0:Int} (h:
(Md.Loop (p1,p2,(1:Int),p0.P,()) (kmt (r0,())))):kvz (p0.P,p1,p2,()) (r0,()):=WPh.of_eq (by kernel_rfl) h
theorem k1gq {r0:Int} {nx1:NX TB k77} {s1:Int} {s2:Int} {s7:Int} {h0_0:Int} (h:
((decide (0<(ishr .u64 s2 1))=true→
((TField.mk h0_0).P=18446744069414584321∧(0≤s1∧s1<18446744069414584321)∧(0≤s1∧s1<18446744069414584321))∧nx1 (((s1*s1%18446744069414584321):Int),(ishr .u64 s2 1:Int),s7,h0_0,()))∧
(decide (0<(ishr .u64 s2 1))=false→
nx1 (s1,(ishr .u64 s2 1:Int),s7,h0_0,())))):khj (r0,()) nx1 (s1,s2,s7,h0_0,()):=⟨mpr_of (by kernel_rfl) h⟩
def k1bh (r0:Int) (nx1:NX TB k77) (k1:Int→Int→Int→Prop) (h0_0:Int) (s1:Int) (s2:Int) (s7:Int):Prop:=
(decide (0<s2)=true→
(((iand .u64 s2 1)==1)=true→
((TField.mk h0_0).P=18446744069414584321∧(0≤s7∧s7<18446744069414584321)∧(0≤s1∧s1<18446744069414584321))∧khj (r0,()) nx1 (s1,s2,((s7*s1%18446744069414584321):Int),h0_0,()))∧
(((iand .u64 s2 1)==1)=false→
khj (r0,()) nx1 (s1,s2,s7,h0_0,())))∧
(decide (0<s2)=false→
s7=r0)
theorem k1mn {r0:Int} {h0_0:Int} {s1:Int} {s2:Int} {s7:Int} (inv:Int→Int→Int→Prop) (μ:Int→Int→Int→Nat) (h0:inv s1 s2 s7) (hs:∀(s1:Int) (s2:Int) (s7:Int),inv s1 s2 s7→k1bh r0 (fun s:Int×Int×Int×Int×Unit=>((s.2.2.2.1=h0_0)∧inv s.1 s.2.1 s.2.2.1)∧μ s.1 s.2.1 s.2.2.1<μ s1 s2 s7) (fun s1q s2q s7q=>inv s1q s2q s7q∧μ s1q s2q s7q<μ s1 s2 s7) h0_0 s1 s2 s7):Md.Loop (s1,s2,s7,h0_0,()) (kmt (r0,())):=
 ⟨⟨fun s:Int×Int×Int×Int×Unit=>(s.2.2.2.1=h0_0)∧inv s.1 s.2.1 s.2.2.1,fun s:Int×Int×Int×Int×Unit=>μ s.1 s.2.1 s.2.2.1,⟨rfl,h0⟩,fun(s1p,s2p,s7p,h0_0p,()) ⟨eq0,hi⟩=>by
  have eq0:h0_0p=h0_0:=eq0;subst h0_0p;exact mpr_of (by kernel_rfl) ((congrArg (fun k=>k1bh r0 (fun s:Int×Int×Int×Int×Unit=>((s.2.2.2.1=h0_0)∧inv s.1 s.2.1 s.2.2.1)∧μ s.1 s.2.1 s.2.2.1<μ s1p s2p s7p) k h0_0 s1p s2p s7p) (lpk3 (rfl:h0_0=h0_0) inv (fun s1q s2q s7q=>μ s1q s2q s7q<μ s1p s2p s7p))).mpr (hs s1p s2p s7p hi))⟩⟩
theorem bd90:Callable Try.prog 90:=⟨by rw[Try.func90];kernel_rfl,by rw[Try.func90];show some _≠some _;decide⟩
theorem k1j5 (p0:TField) (p1:Int) (p2:Int) (h:p0.P=18446744069414584321∧(0≤p1∧p1<18446744069414584321)∧U64 p2):kvz (p0.P,p1,p2,()) (((pw p1 p2):Int),()):=by
 obtain⟨hP,h1,h2⟩:=h
 refine k1p5 ?_
 rw[hP]
 refine k1mn (fun a e r=>(0≤a∧a<18446744069414584321)∧U64 e∧(0≤r∧r<18446744069414584321)∧(r*a^e.toNat)%18446744069414584321=pw p1 p2) (fun a e r=>e.toNat) ⟨h1,h2,by omega,by rw[Int.one_mul];rfl⟩ ?_
 rintro a e r ⟨ha,he,hr,hv⟩
 have jj:∀nx r',(0≤r'∧r' <18446744069414584321)→0<e→(r' *(a*a)^(e/2).toNat)%18446744069414584321=pw p1 p2→(∀a',(0≤a'∧a' <18446744069414584321)→r' *a' ^(e/2).toNat%18446744069414584321=pw p1 p2→nx (a',(e/2:Int),r',(18446744069414584321:Int),()))→khj ((pw p1 p2:Int),()) nx (a,e,r',(18446744069414584321:Int),()):=by
  intro nx r' hr' he' hv' hn
  refine k1gq ?_
  rw[ishr1]
  refine⟨fun h=>⟨⟨rfl,ha,ha⟩,?_⟩,fun h=> ?_⟩
  ·refine hn _ ⟨Int.emod_nonneg _ (by omega),Int.emod_lt_of_pos _ (by omega)⟩ ?_
   rw[←hv',Int.mul_emod,Int.mul_emod r' ((a*a)^_),k16x]
  ·have h:¬0<e/2:=of_decide_eq_false h
   refine hn _ ha ?_
   rw[show(e/2).toNat=0 by omega]at hv' ⊢
   simpa using hv'
 refine⟨fun h=> ?_,fun h=> ?_⟩
 ·have h:=of_decide_eq_true h
  rw[k1t2 e he]
  have nxt:∀a' r',(0≤a'∧a' <18446744069414584321)→(0≤r'∧r' <18446744069414584321)→r' *a' ^(e/2).toNat%18446744069414584321=pw p1 p2→((0≤a'∧a' <18446744069414584321)∧U64 (e/2)∧(0≤r'∧r' <18446744069414584321)∧r' *a' ^(e/2).toNat%18446744069414584321=pw p1 p2)∧(e/2).toNat<e.toNat:=fun a' r' h1 h2 h3=>⟨⟨h1,⟨by omega,by omega⟩,h2,h3⟩,by omega⟩
  have hpow:∀k:Nat,a^(2*k)=(a*a)^k:=fun k=>by rw[Int.pow_mul];congr 1;rw[Int.pow_succ,Int.pow_succ,Int.pow_zero,Int.one_mul]
  refine⟨fun h1=>⟨⟨rfl,hr,ha⟩,?_⟩,fun h1=> ?_⟩
  ·have h1:e%2=1:=by simpa using h1
   refine jj _ _ ⟨Int.emod_nonneg _ (by omega),Int.emod_lt_of_pos _ (by omega)⟩ h ?_ fun a' ha' hv' =>⟨⟨rfl,(nxt a' _ ha' ⟨Int.emod_nonneg _ (by omega),Int.emod_lt_of_pos _ (by omega)⟩ hv').1⟩,(nxt a' _ ha' ⟨Int.emod_nonneg _ (by omega),Int.emod_lt_of_pos _ (by omega)⟩ hv').2⟩
   rw[←hv,show e.toNat=2*(e/2).toNat+1 by omega,Int.pow_succ,hpow,Int.mul_emod,Int.emod_emod_of_dvd _ (Int.dvd_refl _),←Int.mul_emod]
   congr 1
   grind
  ·have h1:¬e%2=1:=by simpa using h1
   refine jj _ _ hr h ?_ fun a' ha' hv' =>⟨⟨rfl,(nxt a' _ ha' hr hv').1⟩,(nxt a' _ ha' hr hv').2⟩
   rw[←hv,←hpow,show e.toNat=2*(e/2).toNat by omega]
 ·have h:¬0<e:=of_decide_eq_false h
  rw[show e.toNat=0 by omega,Int.pow_zero,Int.mul_one,Int.emod_eq_of_lt hr.1 hr.2]at hv
  exact hv
noncomputable def k17l:Con TB.den:=k7i.fnR (fun x=>(fun(p0:TField) (p1:Int) (p2:Int)=>p0.P=18446744069414584321∧(0≤p1∧p1<18446744069414584321)∧U64 p2) (TField.mk x.1) x.2.1 x.2.2.1) fun x=>(fun(p0:TField) (p1:Int) (p2:Int)=>(((pw p1 p2):Int),())) (TField.mk x.1) x.2.1 x.2.2.1
theorem k1os:k17l.Ok Try.prog TB:=Con.ok_fn k7i bd90 fun x h=>k1ms (k1j5 (TField.mk x.1) x.2.1 x.2.2.1 h)
def k8q:Con TB.den:=Con.mk0 71 [.agg [.d (.int .u64)],.one (.d (.int .u64)),.one (.d (.int .u64))] [] (.one (.one (.d (.int .u64)))) []
abbrev k1dz:=HL TB.den (hsT k8q.ins (hsOs k8q.pre))
abbrev kwe:=HL TB.den (hsV k8q.res (hsOs k8q.post))
noncomputable def kml:Cx TB:=⟨inf,[kap,kdb,k17l],[],4,[]⟩
noncomputable def kw3:Code:=Try.f71.body.getD .skip
noncomputable def k115:List ResultVar:=Try.f71.results.toList
noncomputable def k1b2 (o:kwe):An TB:= .no
def kw7 (x:k1dz) (o:kwe):Prop:=WPh TB kml 16 0 kw3 (k1b2 o) (k8q.st TB x) (retTQ TB kml k8q k115 o)
theorem k1lz (o:kwe):OblH TB kml 16 0 kw3 (k1b2 o) (retTQ TB kml k8q k115 o):=
 OblH.ofC (X:=True) (by kernel_rfl) trivial
theorem k1mt {x:k1dz} {o:kwe} (h:kw7 x o):k8q.Snd Try.prog x o:=
 Con.soundH (c:=k8q) (C:=kml) TBok ⟨inf_ok,(all_cons ke7 (all_cons kjf (all_cons k1os all_nil))),all_nil⟩ mix Try.func71 (show Try.f71.body=some kw3 by kernel_rfl) (show Try.f71.ntmps=16 by kernel_rfl) (show Try.f71.results.toList=k115 by kernel_rfl) rfl h (k1lz o)
theorem k1p7 {p0:TField} {p1:Int} {p2:Int} {r0:Int} (h:
((p0.P=18446744069414584321)∧((!true)=true→
0=r0)∧
((!true)=false→
(0<p0.P∧0≤p1)∧(p0.P=18446744069414584321∧(0≤(p1%p0.P)∧(p1%p0.P)<18446744069414584321)∧U64 p2)∧(pw (p1%p0.P) p2)=r0))):kw7 (p0.P,p1,p2,()) (r0,()):=WPh.of_eq (by kernel_rfl) h
theorem bd71:Callable Try.prog 71:=⟨by rw[Try.func71];kernel_rfl,by rw[Try.func71];show some _≠some _;decide⟩
theorem k1iy (p0:TField) (p1:Int) (p2:Int) (h:p0.P=18446744069414584321∧U64 p1∧U64 p2):kw7 (p0.P,p1,p2,()) (((pw (p1%18446744069414584321) p2):Int),()):=by
 obtain⟨hP,h1,h2⟩:=h
 refine k1p7 ⟨hP,fun h=>by simp at h,fun _=>⟨by omega,?_⟩⟩
 simp only[hP]
 exact⟨⟨by trivial,by omega,h2⟩,trivial⟩
noncomputable def k178:Con TB.den:=k8q.fnR (fun x=>(fun(p0:TField) (p1:Int) (p2:Int)=>p0.P=18446744069414584321∧U64 p1∧U64 p2) (TField.mk x.1) x.2.1 x.2.2.1) fun x=>(fun(p0:TField) (p1:Int) (p2:Int)=>(((pw (p1%18446744069414584321) p2):Int),())) (TField.mk x.1) x.2.1 x.2.2.1
theorem k1oy:k178.Ok Try.prog TB:=Con.ok_fn k8q bd71 fun x h=>k1mt (k1iy (TField.mk x.1) x.2.1 x.2.2.1 h)
def k69:Con TB.den:=Con.mk0 91 [.agg [.d (.int .u64)],.one (.d (.int .u64))] [] (.one (.one (.d (.int .u64)))) []
abbrev k15b:=HL TB.den (hsT k69.ins (hsOs k69.pre))
abbrev ko8:=HL TB.den (hsV k69.res (hsOs k69.post))
noncomputable def kfo:Cx TB:=⟨inf,[kap,kdb],[],4,[]⟩
noncomputable def kp5:Code:=Try.f91.body.getD .skip
noncomputable def ksz:List ResultVar:=Try.f91.results.toList
noncomputable def k139 (o:ko8):An TB:= .no
def kpr (x:k15b) (o:ko8):Prop:=WPh TB kfo 11 0 kp5 (k139 o) (k69.st TB x) (retTQ TB kfo k69 ksz o)
theorem k1ev (o:ko8):OblH TB kfo 11 0 kp5 (k139 o) (retTQ TB kfo k69 ksz o):=
 OblH.ofC (X:=True) (by kernel_rfl) trivial
theorem k1fe {x:k15b} {o:ko8} (h:kpr x o):k69.Snd Try.prog x o:=
 Con.soundH (c:=k69) (C:=kfo) TBok ⟨inf_ok,(all_cons ke7 (all_cons kjf all_nil)),all_nil⟩ mix Try.func91 (show Try.f91.body=some kp5 by kernel_rfl) (show Try.f91.ntmps=11 by kernel_rfl) (show Try.f91.results.toList=ksz by kernel_rfl) rfl h (k1ev o)
theorem k1h0 {p0:TField} {p1:Int} {r0:Int} (h:
((p0.P=18446744069414584321)∧((!true)=true→
0=r0)∧
((!true)=false→
(0<p0.P∧0≤p1)∧(p1%p0.P)=r0))):kpr (p0.P,p1,()) (r0,()):=WPh.of_eq (by kernel_rfl) h
theorem bd91:Callable Try.prog 91:=⟨by rw[Try.func91];kernel_rfl,by rw[Try.func91];show some _≠some _;decide⟩
theorem k1c6 (p0:TField) (p1:Int) (h:p0.P=18446744069414584321∧U64 p1):kpr (p0.P,p1,()) (((p1%18446744069414584321):Int),()):=by
 obtain⟨hP,h1⟩:=h
 refine k1h0 ⟨hP,fun h=>by simp at h,fun _=>⟨by omega,?_⟩⟩
 simp only[hP]
noncomputable def krj:Con TB.den:=k69.fnR (fun x=>(fun(p0:TField) (p1:Int)=>p0.P=18446744069414584321∧U64 p1) (TField.mk x.1) x.2.1) fun x=>(fun(p0:TField) (p1:Int)=>(((p1%18446744069414584321):Int),())) (TField.mk x.1) x.2.1
theorem k13b:krj.Ok Try.prog TB:=Con.ok_fn k69 bd91 fun x h=>k1fe (k1c6 (TField.mk x.1) x.2.1 h)
def k2i:Con TB.den:=Con.mk0 72 [.one (.d (.int .u64)),.one (.d (.int .i64)),.one (.d (.int .i64))] [] (.one (.one (.d (.int .u64)))) []
abbrev kq5:=HL TB.den (hsT k2i.ins (hsOs k2i.pre))
abbrev kbk:=HL TB.den (hsV k2i.res (hsOs k2i.post))
noncomputable def k96:Cx TB:=⟨inf,[krj],[],4,[]⟩
noncomputable def kdq:Code:=Try.f72.body.getD .skip
noncomputable def kff:List ResultVar:=Try.f72.results.toList
noncomputable def kox (o:kbk):An TB:= .no
def kdp (x:kq5) (o:kbk):Prop:=WPh TB k96 31 0 kdq (kox o) (k2i.st TB x) (retTQ TB k96 k2i kff o)
theorem k10r (o:kbk):OblH TB k96 31 0 kdq (kox o) (retTQ TB k96 k2i kff o):=
 OblH.ofC (X:=True) (by kernel_rfl) trivial
theorem k11j {x:kq5} {o:kbk} (h:kdp x o):k2i.Snd Try.prog x o:=
 Con.soundH (c:=k2i) (C:=k96) TBok ⟨inf_ok,(all_cons k13b all_nil),all_nil⟩ mix Try.func72 (show Try.f72.body=some kdq by kernel_rfl) (show Try.f72.ntmps=31 by kernel_rfl) (show Try.f72.results.toList=kff by kernel_rfl) rfl h (k10r o)
theorem k12k {p0:Int} {p1:Int} {p2:Int} {r0:Int} (h:
((decide (p1<0)=true→
0=r0)∧
(decide (p1<0)=false→
(decide (8≤p1)=true→
0=r0)∧
(decide (8≤p1)=false→
(decide (p2<0)=true→
0=r0)∧
(decide (p2<0)=false→
(decide (2<p2)=true→
0=r0)∧
(decide (2<p2)=false→
let v1:Int:=IntKind.i64.wrap ((IntKind.i64.wrap (3*p1))+p2)
let v2:Int:=IntKind.u64.wrap (IntKind.i64.wrap (v1+1))
let v3:Int:=IntKind.u64.wrap (v2*11400714819323198485)
((TField.mk p0).P=18446744069414584321∧U64 v3)∧(v3%18446744069414584321)=r0)))))):kdp (p0,p1,p2,()) (r0,()):=WPh.of_eq (by kernel_rfl) h
theorem bd72:Callable Try.prog 72:=⟨by rw[Try.func72];kernel_rfl,by rw[Try.func72];show some _≠some _;decide⟩
theorem k10b (p0:Int) (p1:Int) (p2:Int) (h:p0=18446744069414584321∧(0≤p1∧p1<8)∧0≤p2∧p2<3):kdp (p0,p1,p2,()) (((rc p1 p2):Int),()):=by
 obtain⟨hP,h1,h2⟩:=h
 refine k12k ⟨fun h=> ?_,fun _=>⟨fun h=> ?_,fun _=>⟨fun h=> ?_,fun _=>⟨fun h=> ?_,fun _=> ?_⟩⟩⟩⟩
 ·simp at h;omega
 ·simp at h;omega
 ·simp at h;omega
 ·simp at h;omega
 ·simp only[]
  rw[wi (3*p1) (by omega) (by omega),wi (3*p1+p2) (by omega) (by omega),wi (3*p1+p2+1) (by omega) (by omega),wu (3*p1+p2+1) (by omega) (by omega),u64w]
  exact⟨⟨hP,by omega,by omega⟩,rfl⟩
noncomputable def km4:Con TB.den:=k2i.fnR (fun x=>(fun(p0:Int) (p1:Int) (p2:Int)=>p0=18446744069414584321∧(0≤p1∧p1<8)∧0≤p2∧p2<3) x.1 x.2.1 x.2.2.1) fun x=>(fun(p0:Int) (p1:Int) (p2:Int)=>(((rc p1 p2):Int),())) x.1 x.2.1 x.2.2.1
theorem k12i:km4.Ok Try.prog TB:=Con.ok_fn k2i bd72 fun x h=>k11j (k10b x.1 x.2.1 x.2.2.1 h)
def k44:Con TB.den:=Con.mk0 73 [.one (.d (.int .u64)),.agg [.d (.int .u64),.d (.int .u64),.d (.int .u64)]] [] (.one (.agg [.d (.int .u64),.d (.int .u64),.d (.int .u64)])) []
abbrev kzk:=HL TB.den (hsT k44.ins (hsOs k44.pre))
abbrev khb:=HL TB.den (hsV k44.res (hsOs k44.post))
noncomputable def kc3:Cx TB:=⟨inf,[kd0],[],4,[]⟩
noncomputable def kji:Code:=Try.f73.body.getD .skip
noncomputable def km1:List ResultVar:=Try.f73.results.toList
noncomputable def kxj (o:khb):An TB:= .no
def kjg (x:kzk) (o:khb):Prop:=WPh TB kc3 35 0 kji (kxj o) (k44.st TB x) (retTQ TB kc3 k44 km1 o)
theorem k18x (o:khb):OblH TB kc3 35 0 kji (kxj o) (retTQ TB kc3 k44 km1 o):=
 OblH.ofC (X:=True) (by kernel_rfl) trivial
theorem k199 {x:kzk} {o:khb} (h:kjg x o):k44.Snd Try.prog x o:=
 Con.soundH (c:=k44) (C:=kc3) TBok ⟨inf_ok,(all_cons kj0 all_nil),all_nil⟩ mix Try.func73 (show Try.f73.body=some kji by kernel_rfl) (show Try.f73.ntmps=35 by kernel_rfl) (show Try.f73.results.toList=km1 by kernel_rfl) rfl h (k18x o)
theorem k1av {p0:Int} {p1:TA3} {r0:TA3} (h:
(((TField.mk p0).P=18446744069414584321∧U64 p1.a0∧U64 p1.a1)∧((TField.mk p0).P=18446744069414584321∧U64 ((p1.a0+p1.a1)%18446744069414584321)∧U64 p1.a2)∧let r1:Int:=((((p1.a0+p1.a1)%18446744069414584321)+p1.a2)%18446744069414584321)
((TField.mk p0).P=18446744069414584321∧U64 p1.a0∧U64 r1)∧((TField.mk p0).P=18446744069414584321∧U64 p1.a1∧U64 r1)∧((TField.mk p0).P=18446744069414584321∧U64 p1.a2∧U64 r1)∧((p1.a0+r1)%18446744069414584321)=r0.a0∧((p1.a1+r1)%18446744069414584321)=r0.a1∧((p1.a2+r1)%18446744069414584321)=r0.a2)):kjg (p0,p1.a0,p1.a1,p1.a2,()) (r0.a0,r0.a1,r0.a2,()):=WPh.of_eq (by kernel_rfl) h
theorem bd73:Callable Try.prog 73:=⟨by rw[Try.func73];kernel_rfl,by rw[Try.func73];show some _≠some _;decide⟩
theorem k173 (p0:Int) (p1:TA3) (h:p0=18446744069414584321∧S3 p1):kjg (p0,p1.a0,p1.a1,p1.a2,()) (((mixS p1).a0:Int),((mixS p1).a1:Int),((mixS p1).a2:Int),()):=by
 obtain⟨hP,h0,h1,h2⟩:=h
 refine k1av ?_
 simp only[hP]
 exact⟨⟨by trivial,h0,h1⟩,⟨by trivial,by omega,h2⟩,⟨by trivial,h0,by omega⟩,⟨by trivial,h1,by omega⟩,⟨by trivial,h2,by omega⟩,rfl,rfl,rfl⟩
noncomputable def kv3:Con TB.den:=k44.fnR (fun x=>(fun(p0:Int) (p1:TA3)=>p0=18446744069414584321∧S3 p1) x.1 (TA3.mk x.2.1 x.2.2.1 x.2.2.2.1)) fun x=>(fun(p0:Int) (p1:TA3)=>(((mixS p1).a0:Int),((mixS p1).a1:Int),((mixS p1).a2:Int),())) x.1 (TA3.mk x.2.1 x.2.2.1 x.2.2.2.1)
theorem k1bv:kv3.Ok Try.prog TB:=Con.ok_fn k44 bd73 fun x h=>k199 (k173 x.1 (TA3.mk x.2.1 x.2.2.1 x.2.2.2.1) h)
def k2a:Con TB.den:=Con.mk0 48 [.one (.d (.int .u64)),.agg [.d (.int .u64),.d (.int .u64),.d (.int .u64)]] [] (.one (.agg [.d (.int .u64),.d (.int .u64),.d (.int .u64)])) []
abbrev ks5:=HL TB.den (hsT k2a.ins (hsOs k2a.pre))
abbrev k1q:=HL TB.den (hsV k2a.res (hsOs k2a.post))
noncomputable def k2v:Cx TB:=⟨inf,[kap,kx9,km4,kd0,k178,kv3],[],4,[]⟩
noncomputable def k46:Code:=Try.f48.body.getD .skip
noncomputable def kbl:List ResultVar:=Try.f48.results.toList
def k143 (o:k1q):=qS TB k2v 43 0 (cB (cB (cB (cB (cB k46))))) .no (retTQ TB k2v k2a kbl o)
def k1h:Tm:=⟨[0,1,2],[.cells [.d (.int .u64),.d (.int .u64),.d (.int .u64)],.cells [.d (.int .u64),.d (.int .u64),.d (.int .u64)],.cells [.d (.int .u64)]],[0,3,4,5,6,17],[.one (.d (.int .u64)),.one (.ptr 0 0),.one (.ptr 1 0),.one (.ptr 2 0),.one (.d (.int .u64)),.one (.d (.int .i64))],3⟩
def kpx (o:k1q) (nx2:NX TB k1h):=qM TB 0 k1h nx2 (blockT TB 0 (k143 o))
def k14d (o:k1q) (nx2:NX TB k1h):=qS TB k2v 43 0 (cB (cB (cB (cA (cA (cB (cA (cB (cB (cB (cB k46))))))))))) .no (kpx o nx2)
def k14a (o:k1q) (nx2:NX TB k1h):=qS TB k2v 43 0 (cB (cB (cA (cA (cB (cB (cA (cA (cB (cA (cB (cB (cB (cB k46)))))))))))))) .no (blockT TB 1 (k14d o nx2))
def k6g:Tm:=⟨[0,1,2],[.cells [.d (.int .u64),.d (.int .u64),.d (.int .u64)],.cells [.d (.int .u64),.d (.int .u64),.d (.int .u64)],.cells [.d (.int .u64)]],[0,3,4,5,6,7,17,20],[.one (.d (.int .u64)),.one (.ptr 0 0),.one (.ptr 1 0),.one (.ptr 2 0),.one (.d (.int .u64)),.one (.d (.int .i64)),.one (.d (.int .i64)),.one (.d (.int .i64))],3⟩
def k14i (o:k1q) (nx2:NX TB k1h) (nx1:NX TB k6g):=qM TB 0 k6g nx1 (blockT TB 2 (k14a o nx2))
def k9e (o:k1q) (nx2:NX TB k1h) (nx1:NX TB k6g) (i:HL TB.den k6g.hs):Prop:=WP TB k2v 43 0 (cA (cA (cB (cA (cB (cA (cA (cB (cB (cA (cA (cB (cA (cB (cB (cB (cB k46))))))))))))))))) .no (k6g.fill TB i) (k14i o nx2 nx1)
noncomputable def k141 (o:k1q) (nx2:NX TB k1h):An TB:= .lp [] k6g (k9e o nx2) fun nx1=> .no
noncomputable def k14f (o:k1q) (nx2:NX TB k1h):An TB:= .nd [] .no [] (.nd [] (.nd [] .no [] (k141 o nx2)) [] .no)
noncomputable def kow (o:k1q) (nx2:NX TB k1h):An TB:= .nd [] .no [] (.nd [] .no [] (.nd [] (k14f o nx2) [] .no))
def k9j (o:k1q) (nx2:NX TB k1h) (i:HL TB.den k1h.hs):Prop:=WP TB k2v 43 0 (cA (cA (cB (cA (cB (cB (cB (cB k46)))))))) (kow o nx2) (k1h.fill TB i) (kpx o nx2)
noncomputable def k127 (o:k1q):An TB:= .lp [] k1h (k9j o) fun nx2=>(kow o nx2)
noncomputable def k12b (o:k1q):An TB:= .nd [] .no [] (.nd [] (.nd [] .no [] (k127 o)) [] .no)
noncomputable def kq1 (o:k1q):An TB:= .nd [] .no [] (.nd [] .no [] (.nd [] .no [] (k12b o)))
def kej (x:ks5) (o:k1q):Prop:=WPh TB k2v 43 0 k46 (kq1 o) (k2a.st TB x) (retTQ TB k2v k2a kbl o)
theorem k129 (o:k1q):OblH TB k2v 43 0 k46 (kq1 o) (retTQ TB k2v k2a kbl o):=
 OblH.ofC (X:=((∀nx i,(k9j o) nx i=(k9j o) nx i)∧(∀nx2:NX TB k1h,((∀nx i,(k9e o nx2) nx i=(k9e o nx2) nx i)∧(∀nx1:NX TB k6g,True)∧True))∧True)) (by kernel_rfl) ⟨fun _ _=>rfl,fun _=>⟨fun _ _=>rfl,fun _=>trivial,trivial⟩,trivial⟩
theorem k12l {x:ks5} {o:k1q} (h:kej x o):k2a.Snd Try.prog x o:=
 Con.soundH (c:=k2a) (C:=k2v) TBok ⟨inf_ok,(all_cons ke7 (all_cons k1d7 (all_cons k12i (all_cons kj0 (all_cons k1oy (all_cons k1bv all_nil)))))),all_nil⟩ mix Try.func48 (show Try.f48.body=some k46 by kernel_rfl) (show Try.f48.ntmps=43 by kernel_rfl) (show Try.f48.results.toList=kbl by kernel_rfl) rfl h (k129 o)
theorem k147 {p0:Int} {p1:TA3} {r0:TA3} (h:
(((TField.mk p0).P=18446744069414584321)∧((!true)=true→
0=r0.a0∧0=r0.a1∧0=r0.a2)∧
((!true)=false→
((TField.mk p0).P=18446744069414584321)∧Md.Loop (p0,(7:Int),(0:Int),p1.a0,p1.a1,p1.a2,(0:Int),(0:Int),(0:Int),p0,()) (k9j (r0.a0,r0.a1,r0.a2,()))))):kej (p0,p1.a0,p1.a1,p1.a2,()) (r0.a0,r0.a1,r0.a2,()):=WPh.of_eq (by kernel_rfl) h
def kq6 (r0:TA3) (nx2:NX TB k1h) (k2:Int→Int→Int→Int→Prop) (s0:Int) (s6:Int) (h1_0:Int) (h1_1:Int) (h1_2:Int) (h2_0:Int) (s17:Int) (h0_0:Int) (h0_1:Int) (h0_2:Int):Prop:=
(decide (s17<8)=true→
Md.Loop (s0,s6,s17,s17,(0:Int),h0_0,h0_1,h0_2,h1_0,h1_1,h1_2,h2_0,()) (k9e (r0.a0,r0.a1,r0.a2,()) nx2))∧
(decide (s17<8)=false→
h0_0=r0.a0∧h0_1=r0.a1∧h0_2=r0.a2)
theorem k12m {r0:TA3} {s0:Int} {s6:Int} {h1_0:Int} {h1_1:Int} {h1_2:Int} {h2_0:Int} {s17:Int} {h0_0:Int} {h0_1:Int} {h0_2:Int} (inv:Int→Int→Int→Int→Prop) (μ:Int→Int→Int→Int→Nat) (h0:inv s17 h0_0 h0_1 h0_2) (hs:∀(s17:Int) (h0_0:Int) (h0_1:Int) (h0_2:Int),inv s17 h0_0 h0_1 h0_2→kq6 r0 (fun s:Int×Int×Int×Int×Int×Int×Int×Int×Int×Int×Unit=>((s.1=s0∧s.2.1=s6∧s.2.2.2.2.2.2.1=h1_0∧s.2.2.2.2.2.2.2.1=h1_1∧s.2.2.2.2.2.2.2.2.1=h1_2∧s.2.2.2.2.2.2.2.2.2.1=h2_0)∧inv s.2.2.1 s.2.2.2.1 s.2.2.2.2.1 s.2.2.2.2.2.1)∧μ s.2.2.1 s.2.2.2.1 s.2.2.2.2.1 s.2.2.2.2.2.1<μ s17 h0_0 h0_1 h0_2) (fun s17q h0_0q h0_1q h0_2q=>inv s17q h0_0q h0_1q h0_2q∧μ s17q h0_0q h0_1q h0_2q<μ s17 h0_0 h0_1 h0_2) s0 s6 h1_0 h1_1 h1_2 h2_0 s17 h0_0 h0_1 h0_2):Md.Loop (s0,s6,s17,h0_0,h0_1,h0_2,h1_0,h1_1,h1_2,h2_0,()) (k9j (r0.a0,r0.a1,r0.a2,())):=
 ⟨⟨fun s:Int×Int×Int×Int×Int×Int×Int×Int×Int×Int×Unit=>(s.1=s0∧s.2.1=s6∧s.2.2.2.2.2.2.1=h1_0∧s.2.2.2.2.2.2.2.1=h1_1∧s.2.2.2.2.2.2.2.2.1=h1_2∧s.2.2.2.2.2.2.2.2.2.1=h2_0)∧inv s.2.2.1 s.2.2.2.1 s.2.2.2.2.1 s.2.2.2.2.2.1,fun s:Int×Int×Int×Int×Int×Int×Int×Int×Int×Int×Unit=>μ s.2.2.1 s.2.2.2.1 s.2.2.2.2.1 s.2.2.2.2.2.1,⟨⟨rfl,rfl,rfl,rfl,rfl,rfl⟩,h0⟩,fun(s0p,s6p,s17p,h0_0p,h0_1p,h0_2p,h1_0p,h1_1p,h1_2p,h2_0p,()) ⟨⟨eq0,eq1,eq2,eq3,eq4,eq5⟩,hi⟩=>by
  have eq0:s0p=s0:=eq0;subst s0p;have eq1:s6p=s6:=eq1;subst s6p;have eq2:h1_0p=h1_0:=eq2;subst h1_0p;have eq3:h1_1p=h1_1:=eq3;subst h1_1p;have eq4:h1_2p=h1_2:=eq4;subst h1_2p;have eq5:h2_0p=h2_0:=eq5;subst h2_0p;exact mpr_of (by kernel_rfl) ((congrArg (fun k=>kq6 r0 (fun s:Int×Int×Int×Int×Int×Int×Int×Int×Int×Int×Unit=>((s.1=s0∧s.2.1=s6∧s.2.2.2.2.2.2.1=h1_0∧s.2.2.2.2.2.2.2.1=h1_1∧s.2.2.2.2.2.2.2.2.1=h1_2∧s.2.2.2.2.2.2.2.2.2.1=h2_0)∧inv s.2.2.1 s.2.2.2.1 s.2.2.2.2.1 s.2.2.2.2.2.1)∧μ s.2.2.1 s.2.2.2.1 s.2.2.2.2.1 s.2.2.2.2.2.1<μ s17p h0_0p h0_1p h0_2p) k s0 s6 h1_0 h1_1 h1_2 h2_0 s17p h0_0p h0_1p h0_2p) (lpk4 (⟨rfl,rfl,rfl,rfl,rfl,rfl⟩:s0=s0∧s6=s6∧h1_0=h1_0∧h1_1=h1_1∧h1_2=h1_2∧h2_0=h2_0) inv (fun s17q h0_0q h0_1q h0_2q=>μ s17q h0_0q h0_1q h0_2q<μ s17p h0_0p h0_1p h0_2p))).mpr (hs s17p h0_0p h0_1p h0_2p hi))⟩⟩
def kqd (r0:TA3) (nx2:NX TB k1h) (k1:Int→Int→Int→Int→Prop) (s0:Int) (s6:Int) (s7:Int) (s17:Int) (h1_0:Int) (h1_1:Int) (h1_2:Int) (h2_0:Int) (s20:Int) (h0_0:Int) (h0_1:Int) (h0_2:Int):Prop:=
(decide (s20<3)=true→
(0≤s20∧s20<(3:Int))∧(0≤s20∧s20<(3:Int))∧(s0=18446744069414584321∧(0≤s7∧s7<8)∧0≤s20∧s20<3)∧((TField.mk h2_0).P=18446744069414584321∧U64 (ix [h0_0,h0_1,h0_2] s20)∧U64 (rc s7 s20))∧let r1:Int:=(((ix [h0_0,h0_1,h0_2] s20)+(rc s7 s20))%18446744069414584321)
((TField.mk h2_0).P=18446744069414584321∧U64 r1∧U64 s6)∧(0≤s20∧s20<(3:Int))∧(0≤s20∧s20<(3:Int))∧k1 (IntKind.i64.wrap (s20+1):Int) ((bif decide (s20=(0:Int))then(pw (r1%18446744069414584321) s6)else h0_0):Int) ((bif decide (s20=(1:Int))then(pw (r1%18446744069414584321) s6)else h0_1):Int) ((bif decide (s20=(2:Int))then(pw (r1%18446744069414584321) s6)else h0_2):Int))∧
(decide (s20<3)=false→
(s0=18446744069414584321∧S3 (TA3.mk h0_0 h0_1 h0_2))∧nx2 (s0,s6,(IntKind.i64.wrap (s17+1):Int),((mixS (TA3.mk h0_0 h0_1 h0_2)).a0:Int),((mixS (TA3.mk h0_0 h0_1 h0_2)).a1:Int),((mixS (TA3.mk h0_0 h0_1 h0_2)).a2:Int),h1_0,h1_1,h1_2,h2_0,()))
theorem k12a {r0:TA3} {nx2:NX TB k1h} {s0:Int} {s6:Int} {s7:Int} {s17:Int} {h1_0:Int} {h1_1:Int} {h1_2:Int} {h2_0:Int} {s20:Int} {h0_0:Int} {h0_1:Int} {h0_2:Int} (inv:Int→Int→Int→Int→Prop) (μ:Int→Int→Int→Int→Nat) (h0:inv s20 h0_0 h0_1 h0_2) (hs:∀(s20:Int) (h0_0:Int) (h0_1:Int) (h0_2:Int),inv s20 h0_0 h0_1 h0_2→kqd r0 nx2 (fun s20q h0_0q h0_1q h0_2q=>inv s20q h0_0q h0_1q h0_2q∧μ s20q h0_0q h0_1q h0_2q<μ s20 h0_0 h0_1 h0_2) s0 s6 s7 s17 h1_0 h1_1 h1_2 h2_0 s20 h0_0 h0_1 h0_2):Md.Loop (s0,s6,s7,s17,s20,h0_0,h0_1,h0_2,h1_0,h1_1,h1_2,h2_0,()) (k9e (r0.a0,r0.a1,r0.a2,()) nx2):=
 ⟨⟨fun s:Int×Int×Int×Int×Int×Int×Int×Int×Int×Int×Int×Int×Unit=>(s.1=s0∧s.2.1=s6∧s.2.2.1=s7∧s.2.2.2.1=s17∧s.2.2.2.2.2.2.2.2.1=h1_0∧s.2.2.2.2.2.2.2.2.2.1=h1_1∧s.2.2.2.2.2.2.2.2.2.2.1=h1_2∧s.2.2.2.2.2.2.2.2.2.2.2.1=h2_0)∧inv s.2.2.2.2.1 s.2.2.2.2.2.1 s.2.2.2.2.2.2.1 s.2.2.2.2.2.2.2.1,fun s:Int×Int×Int×Int×Int×Int×Int×Int×Int×Int×Int×Int×Unit=>μ s.2.2.2.2.1 s.2.2.2.2.2.1 s.2.2.2.2.2.2.1 s.2.2.2.2.2.2.2.1,⟨⟨rfl,rfl,rfl,rfl,rfl,rfl,rfl,rfl⟩,h0⟩,fun(s0p,s6p,s7p,s17p,s20p,h0_0p,h0_1p,h0_2p,h1_0p,h1_1p,h1_2p,h2_0p,()) ⟨⟨eq0,eq1,eq2,eq3,eq4,eq5,eq6,eq7⟩,hi⟩=>by
  have eq0:s0p=s0:=eq0;subst s0p;have eq1:s6p=s6:=eq1;subst s6p;have eq2:s7p=s7:=eq2;subst s7p;have eq3:s17p=s17:=eq3;subst s17p;have eq4:h1_0p=h1_0:=eq4;subst h1_0p;have eq5:h1_1p=h1_1:=eq5;subst h1_1p;have eq6:h1_2p=h1_2:=eq6;subst h1_2p;have eq7:h2_0p=h2_0:=eq7;subst h2_0p;exact mpr_of (by kernel_rfl) ((congrArg (fun k=>kqd r0 nx2 k s0 s6 s7 s17 h1_0 h1_1 h1_2 h2_0 s20p h0_0p h0_1p h0_2p) (lpk4 (⟨rfl,rfl,rfl,rfl,rfl,rfl,rfl,rfl⟩:s0=s0∧s6=s6∧s7=s7∧s17=s17∧h1_0=h1_0∧h1_1=h1_1∧h1_2=h1_2∧h2_0=h2_0) inv (fun s20q h0_0q h0_1q h0_2q=>μ s20q h0_0q h0_1q h0_2q<μ s20p h0_0p h0_1p h0_2p))).mpr (hs s20p h0_0p h0_1p h0_2p hi))⟩⟩
theorem bd48:Callable Try.prog 48:=⟨by rw[Try.func48];kernel_rfl,by rw[Try.func48];show some _≠some _;decide⟩
theorem k10i (p0:Int) (p1:TA3) (h:p0=18446744069414584321∧S3 p1):kej (p0,p1.a0,p1.a1,p1.a2,()) (((permS p1).a0:Int),((permS p1).a1:Int),((permS p1).a2:Int),()):=by
 obtain⟨hP,hs⟩:=h
 subst hP
 refine k147 ⟨rfl,fun h=>by simp at h,fun _=>⟨rfl,?_⟩⟩
 refine k12m (r0:=permS p1) (fun n a b c=>0≤n∧n≤8∧(⟨a,b,c⟩:TA3)=rnds n.toNat p1∧S3 ⟨a,b,c⟩) (fun n _ _ _=>(8-n).toNat) ⟨by omega,by omega,rfl,hs⟩ ?_
 rintro n a b c ⟨g0,g1,g2,g3⟩
 refine⟨fun h=> ?_,fun h=> ?_⟩
 ·have h:=of_decide_eq_true h
  refine k12a (r0:=permS p1) (fun i x y z=>(i=0∧x=a∧y=b∧z=c)∨(i=1∧x=pw ((a+rc n 0)%18446744069414584321) 7∧y=b∧z=c)∨(i=2∧x=pw ((a+rc n 0)%18446744069414584321) 7∧y=pw ((b+rc n 1)%18446744069414584321) 7∧z=c)∨(i=3∧x=pw ((a+rc n 0)%18446744069414584321) 7∧y=pw ((b+rc n 1)%18446744069414584321) 7∧z=pw ((c+rc n 2)%18446744069414584321) 7)) (fun i _ _ _=>(3-i).toNat) (.inl ⟨rfl,rfl,rfl,rfl⟩) ?_
  intro i x y z hi
  have hrc:∀k,U64 (rc n k):=fun k=>by unfold rc;omega
  have hpw:∀k e,0≤pw k e∧pw k e<18446744069414584321:=fun k e=>⟨Int.emod_nonneg _ (by omega),Int.emod_lt_of_pos _ (by omega)⟩
  obtain⟨h3a,h3b,h3c⟩:=g3
  refine⟨fun hh=> ?_,fun hh=> ?_⟩
  ·have hh:=of_decide_eq_true hh
   rcases hi with⟨rfl,rfl,rfl,rfl⟩|⟨rfl,rfl,rfl,rfl⟩|⟨rfl,rfl,rfl,rfl⟩|⟨rfl,_⟩
   ·refine⟨by omega,by omega,⟨rfl,by omega,by omega⟩,⟨rfl,h3a,hrc _⟩,⟨rfl,?_,by omega⟩,by omega,by omega,.inr (.inl ⟨rfl,?_,rfl,rfl⟩),by decide⟩
    ·exact⟨Int.emod_nonneg _ (by omega),Int.lt_trans (Int.emod_lt_of_pos _ (by omega)) (by omega)⟩
    ·show pw ((x+rc n 0)%18446744069414584321%18446744069414584321) 7=_
     rw[Int.emod_emod_of_dvd _ (Int.dvd_refl _)]
   ·refine⟨by omega,by omega,⟨rfl,by omega,by omega⟩,⟨rfl,h3b,hrc _⟩,⟨rfl,?_,by omega⟩,by omega,by omega,.inr (.inr (.inl ⟨rfl,rfl,?_,rfl⟩)),by decide⟩
    ·exact⟨Int.emod_nonneg _ (by omega),Int.lt_trans (Int.emod_lt_of_pos _ (by omega)) (by omega)⟩
    ·show pw ((y+rc n 1)%18446744069414584321%18446744069414584321) 7=_
     rw[Int.emod_emod_of_dvd _ (Int.dvd_refl _)]
   ·refine⟨by omega,by omega,⟨rfl,by omega,by omega⟩,⟨rfl,h3c,hrc _⟩,⟨rfl,?_,by omega⟩,by omega,by omega,.inr (.inr (.inr ⟨rfl,rfl,rfl,?_⟩)),by decide⟩
    ·exact⟨Int.emod_nonneg _ (by omega),Int.lt_trans (Int.emod_lt_of_pos _ (by omega)) (by omega)⟩
    ·show pw ((z+rc n 2)%18446744069414584321%18446744069414584321) 7=_
     rw[Int.emod_emod_of_dvd _ (Int.dvd_refl _)]
   ·omega
  ·have hh:=of_decide_eq_false hh
   rcases hi with⟨rfl,_⟩|⟨rfl,_⟩|⟨rfl,_⟩|⟨rfl,rfl,rfl,rfl⟩
   ·omega
   ·omega
   ·omega
   ·have e:rnds (n+1).toNat p1=rnd ⟨a,b,c⟩ n:=by
     rw[show(n+1).toNat=n.toNat+1 by omega]
     show rnd (rnds n.toNat p1) (n.toNat:Int)=_
     rw[←g2,show(n.toNat:Int)=n by omega]
    have hS:S3 (rnds (n+1).toNat p1):=by
     rw[e]
     unfold rnd mixS S3
     dsimp only
     omega
    have hinc:IntKind.i64.wrap (n+1)=n+1:=wi _ (by omega) (by omega)
    rw[hinc]
    refine⟨⟨rfl,by unfold S3;have:=hpw ((a+rc n 0)%18446744069414584321) 7;have:=hpw ((b+rc n 1)%18446744069414584321) 7;have:=hpw ((c+rc n 2)%18446744069414584321) 7;dsimp only;omega⟩,⟨⟨rfl,rfl,rfl,rfl,rfl,rfl⟩,(?_:0≤n+1∧n+1≤8∧_∧_)⟩,(?_:(8-(n+1)).toNat<(8-n).toNat)⟩
    ·refine⟨by omega,by omega,e.symm,?_⟩
     rw[e]at hS
     exact hS
    ·omega
 ·have h:=of_decide_eq_false h
  rw[show n=8 by omega]at g2
  have g2:(⟨a,b,c⟩:TA3)=permS p1:=g2
  rw[←g2]
  exact⟨rfl,rfl,rfl⟩
noncomputable def k97:Con TB.den:=k2a.fnR (fun x=>(fun(p0:Int) (p1:TA3)=>p0=18446744069414584321∧S3 p1) x.1 (TA3.mk x.2.1 x.2.2.1 x.2.2.2.1)) fun x=>(fun(p0:Int) (p1:TA3)=>(((permS p1).a0:Int),((permS p1).a1:Int),((permS p1).a2:Int),())) x.1 (TA3.mk x.2.1 x.2.2.1 x.2.2.2.1)
theorem kbi:k97.Ok Try.prog TB:=Con.ok_fn k2a bd48 fun x h=>k12l (k10i x.1 (TA3.mk x.2.1 x.2.2.1 x.2.2.2.1) h)
def k4g:Con TB.den:=Con.mk0 55 [.one (.d (.int .u64)),.one (.d (.int .u64)),.one (.d (.sl (.int .u64)))] [] (.one (.agg [.d (.int .u64),.d (.int .u64),.d (.int .u64)])) []
abbrev k13f:=HL TB.den (hsT k4g.ins (hsOs k4g.pre))
abbrev k4c:=HL TB.den (hsV k4g.res (hsOs k4g.post))
noncomputable def k6j:Cx TB:=⟨inf,[k182,kd0,k97],[],4,[]⟩
noncomputable def k8y:Code:=Try.f55.body.getD .skip
noncomputable def kjx:List ResultVar:=Try.f55.results.toList
def k1eu (o:k4c):=qS TB k6j 61 0 (cB (cB (cB (cB (cB k8y))))) .no (retTQ TB k6j k4g kjx o)
def k3r:Tm:=⟨[0,1,38],[.cells [.d (.int .u64),.d (.int .u64),.d (.int .u64)],.cells [.d (.int .u64)],.cells [.d (.int .u64),.d (.int .u64),.d (.int .u64)]],[0,2,6,7,8,9],[.one (.d (.int .u64)),.one (.d (.sl (.int .u64))),.one (.ptr 0 0),.one (.ptr 1 0),.one (.ptr 2 0),.one (.d (.int .i64))],46⟩
def k11o (o:k4c) (nx1:NX TB k3r):=qM TB 0 k3r nx1 (blockT TB 0 (k1eu o))
def k1ee (o:k4c) (nx1:NX TB k3r):=qS TB k6j 61 0 (cB (cB (cA (cA (cB (cA (cB (cB (cB (cB k8y)))))))))) .no (k11o o nx1)
def kh6:Tm:=⟨[0,1,38],[.cells [.d (.int .u64),.d (.int .u64),.d (.int .u64)],.cells [.d (.int .u64)],.cells [.d (.int .u64),.d (.int .u64),.d (.int .u64)]],[0,2,6,7,8,9],[.one (.d (.int .u64)),.one (.d (.sl (.int .u64))),.one (.ptr 0 0),.one (.ptr 1 0),.one (.ptr 2 0),.one (.d (.int .i64))],86⟩
def kyv (o:k4c) (nx1:NX TB k3r) (i:HL TB.den kh6.hs):Prop:=ghs TB [] (kh6.fill TB i) fun s=>WP TB k6j 61 0 (cB (cB (cA (cA (cB (cA (cA (cB (cA (cB (cB (cB (cB k8y))))))))))))) .no s (blockT TB 1 (k1ee o nx1))
structure kbe (o:k4c) (nx1:NX TB k3r) (i:HL TB.den kh6.hs):Prop where
 h:kyv o nx1 i
noncomputable def k121 (o:k4c) (nx1:NX TB k3r):An TB:= .nd [] .no [] (.jn kh6 (kbe o nx1) [] .no [] .no)
def kes (o:k4c) (nx1:NX TB k3r) (i:HL TB.den k3r.hs):Prop:=WP TB k6j 61 0 (cA (cA (cB (cA (cB (cB (cB (cB k8y)))))))) (.nd [] .no [] (.nd [] (k121 o nx1) [] .no)) (k3r.fill TB i) (k11o o nx1)
noncomputable def k1gh (o:k4c):An TB:= .lp [] k3r (kes o) fun nx1=>(.nd [] .no [] (.nd [] (k121 o nx1) [] .no))
noncomputable def k1f1 (o:k4c):An TB:= .nd [] .no [] (.nd [] (.nd [] .no [] (k1gh o)) [] .no)
noncomputable def k11q (o:k4c):An TB:= .nd [] .no [] (.nd [] .no [] (.nd [] .no [] (k1f1 o)))
def kmz (x:k13f) (o:k4c):Prop:=WPh TB k6j 61 0 k8y (k11q o) (k4g.st TB x) (retTQ TB k6j k4g kjx o)
theorem k1cl (o:k4c):OblH TB k6j 61 0 k8y (k11q o) (retTQ TB k6j k4g kjx o):=
 OblH.ofC (X:=((∀nx i,(kes o) nx i=(kes o) nx i)∧(∀nx1:NX TB k3r,((∀i,(kbe o nx1) i=kyv o nx1 i)∧True))∧True)) (by kernel_rfl) ⟨fun _ _=>rfl,fun _=>⟨fun _=>propext ⟨fun h=>h.1,fun h=>⟨h⟩⟩,trivial⟩,trivial⟩
theorem k1cu {x:k13f} {o:k4c} (h:kmz x o):k4g.Snd Try.prog x o:=
 Con.soundH (c:=k4g) (C:=k6j) TBok ⟨inf_ok,(all_cons k1nz (all_cons kj0 (all_cons kbi all_nil))),all_nil⟩ mix Try.func55 (show Try.f55.body=some k8y by kernel_rfl) (show Try.f55.ntmps=61 by kernel_rfl) (show Try.f55.results.toList=kjx by kernel_rfl) rfl h (k1cl o)
theorem k1fa {p0:Int} {p1:Int} {p2:List Int} {r0:TA3} (h:
(((TField.mk p0).P=18446744069414584321∧U64 p1∧U64 (65536:Int))∧let r1:Int:=(p1*(65536:Int)%18446744069414584321)
((TField.mk p0).P=18446744069414584321∧U64 r1∧U64 (IntKind.u64.wrap (p2.length:Int)))∧let r2:Int:=((r1+(IntKind.u64.wrap (p2.length:Int)))%18446744069414584321)
(((p2.length:Int)==0)=true→
(p0=18446744069414584321∧S3 (TA3.mk 0 0 r2))∧(permS (TA3.mk 0 0 r2)).a0=r0.a0∧(permS (TA3.mk 0 0 r2)).a1=r0.a1∧(permS (TA3.mk 0 0 r2)).a2=r0.a2)∧
(((p2.length:Int)==0)=false→
Md.Loop (p0,p2,(0:Int),(0:Int),(0:Int),(0:Int),p0,(0:Int),(0:Int),r2,()) (kes (r0.a0,r0.a1,r0.a2,()))))):kmz (p0,p1,p2,()) (r0.a0,r0.a1,r0.a2,()):=WPh.of_eq (by kernel_rfl) h
theorem k18f {r0:TA3} {nx1:NX TB k3r} {s0:Int} {s2:List Int} {s9:Int} {h0_0:Int} {h0_1:Int} {h0_2:Int} {h1_0:Int} {h38_0:Int} {h38_1:Int} {h38_2:Int} (h:
((s0=18446744069414584321∧S3 (TA3.mk h38_0 h38_1 h38_2))∧nx1 (s0,s2,(IntKind.i64.wrap (s9+2):Int),h0_0,h0_1,h0_2,h1_0,((permS (TA3.mk h38_0 h38_1 h38_2)).a0:Int),((permS (TA3.mk h38_0 h38_1 h38_2)).a1:Int),((permS (TA3.mk h38_0 h38_1 h38_2)).a2:Int),()))):kbe (r0.a0,r0.a1,r0.a2,()) nx1 (s0,s2,s9,h0_0,h0_1,h0_2,h1_0,h38_0,h38_1,h38_2,()):=⟨mpr_of (by kernel_rfl) h⟩
def k125 (r0:TA3) (nx1:NX TB k3r) (k1:Int→Int→Int→Int→Prop) (s0:Int) (s2:List Int) (h0_0:Int) (h0_1:Int) (h0_2:Int) (h1_0:Int) (s9:Int) (h38_0:Int) (h38_1:Int) (h38_2:Int):Prop:=
(decide (s9<(s2.length:Int))=true→
(0≤s9)∧s9<(s2.length:Int)∧((TField.mk h1_0).P=18446744069414584321∧U64 h38_0∧U64 (ix s2 s9))∧let r3:Int:=((h38_0+(ix s2 s9))%18446744069414584321)
let v4:Bool:=decide ((IntKind.i64.wrap (s9+1))<(s2.length:Int))
(v4=true→
(0≤IntKind.i64.wrap (s9+1))∧IntKind.i64.wrap (s9+1)<(s2.length:Int)∧((TField.mk h1_0).P=18446744069414584321∧U64 h38_1∧U64 (ix s2 (IntKind.i64.wrap (s9+1))))∧let r5:Int:=((h38_1+(ix s2 (IntKind.i64.wrap (s9+1))))%18446744069414584321)
kbe (r0.a0,r0.a1,r0.a2,()) nx1 (s0,s2,s9,h0_0,h0_1,h0_2,h1_0,r3,r5,h38_2,()))∧
(v4=false→
kbe (r0.a0,r0.a1,r0.a2,()) nx1 (s0,s2,s9,h0_0,h0_1,h0_2,h1_0,r3,h38_1,h38_2,())))∧
(decide (s9<(s2.length:Int))=false→
h38_0=r0.a0∧h38_1=r0.a1∧h38_2=r0.a2)
theorem k1cm {r0:TA3} {s0:Int} {s2:List Int} {h0_0:Int} {h0_1:Int} {h0_2:Int} {h1_0:Int} {s9:Int} {h38_0:Int} {h38_1:Int} {h38_2:Int} (inv:Int→Int→Int→Int→Prop) (μ:Int→Int→Int→Int→Nat) (h0:inv s9 h38_0 h38_1 h38_2) (hs:∀(s9:Int) (h38_0:Int) (h38_1:Int) (h38_2:Int),inv s9 h38_0 h38_1 h38_2→k125 r0 (fun s:Int×(List Int)×Int×Int×Int×Int×Int×Int×Int×Int×Unit=>((s.1=s0∧s.2.1=s2∧s.2.2.2.1=h0_0∧s.2.2.2.2.1=h0_1∧s.2.2.2.2.2.1=h0_2∧s.2.2.2.2.2.2.1=h1_0)∧inv s.2.2.1 s.2.2.2.2.2.2.2.1 s.2.2.2.2.2.2.2.2.1 s.2.2.2.2.2.2.2.2.2.1)∧μ s.2.2.1 s.2.2.2.2.2.2.2.1 s.2.2.2.2.2.2.2.2.1 s.2.2.2.2.2.2.2.2.2.1<μ s9 h38_0 h38_1 h38_2) (fun s9q h38_0q h38_1q h38_2q=>inv s9q h38_0q h38_1q h38_2q∧μ s9q h38_0q h38_1q h38_2q<μ s9 h38_0 h38_1 h38_2) s0 s2 h0_0 h0_1 h0_2 h1_0 s9 h38_0 h38_1 h38_2):Md.Loop (s0,s2,s9,h0_0,h0_1,h0_2,h1_0,h38_0,h38_1,h38_2,()) (kes (r0.a0,r0.a1,r0.a2,())):=
 ⟨⟨fun s:Int×(List Int)×Int×Int×Int×Int×Int×Int×Int×Int×Unit=>(s.1=s0∧s.2.1=s2∧s.2.2.2.1=h0_0∧s.2.2.2.2.1=h0_1∧s.2.2.2.2.2.1=h0_2∧s.2.2.2.2.2.2.1=h1_0)∧inv s.2.2.1 s.2.2.2.2.2.2.2.1 s.2.2.2.2.2.2.2.2.1 s.2.2.2.2.2.2.2.2.2.1,fun s:Int×(List Int)×Int×Int×Int×Int×Int×Int×Int×Int×Unit=>μ s.2.2.1 s.2.2.2.2.2.2.2.1 s.2.2.2.2.2.2.2.2.1 s.2.2.2.2.2.2.2.2.2.1,⟨⟨rfl,rfl,rfl,rfl,rfl,rfl⟩,h0⟩,fun(s0p,s2p,s9p,h0_0p,h0_1p,h0_2p,h1_0p,h38_0p,h38_1p,h38_2p,()) ⟨⟨eq0,eq1,eq2,eq3,eq4,eq5⟩,hi⟩=>by
  have eq0:s0p=s0:=eq0;subst s0p;have eq1:s2p=s2:=eq1;subst s2p;have eq2:h0_0p=h0_0:=eq2;subst h0_0p;have eq3:h0_1p=h0_1:=eq3;subst h0_1p;have eq4:h0_2p=h0_2:=eq4;subst h0_2p;have eq5:h1_0p=h1_0:=eq5;subst h1_0p;exact mpr_of (by kernel_rfl) ((congrArg (fun k=>k125 r0 (fun s:Int×(List Int)×Int×Int×Int×Int×Int×Int×Int×Int×Unit=>((s.1=s0∧s.2.1=s2∧s.2.2.2.1=h0_0∧s.2.2.2.2.1=h0_1∧s.2.2.2.2.2.1=h0_2∧s.2.2.2.2.2.2.1=h1_0)∧inv s.2.2.1 s.2.2.2.2.2.2.2.1 s.2.2.2.2.2.2.2.2.1 s.2.2.2.2.2.2.2.2.2.1)∧μ s.2.2.1 s.2.2.2.2.2.2.2.1 s.2.2.2.2.2.2.2.2.1 s.2.2.2.2.2.2.2.2.2.1<μ s9p h38_0p h38_1p h38_2p) k s0 s2 h0_0 h0_1 h0_2 h1_0 s9p h38_0p h38_1p h38_2p) (lpk4 (⟨rfl,rfl,rfl,rfl,rfl,rfl⟩:s0=s0∧s2=s2∧h0_0=h0_0∧h0_1=h0_1∧h0_2=h0_2∧h1_0=h1_0) inv (fun s9q h38_0q h38_1q h38_2q=>μ s9q h38_0q h38_1q h38_2q<μ s9p h38_0p h38_1p h38_2p))).mpr (hs s9p h38_0p h38_1p h38_2p hi))⟩⟩
theorem bd55:Callable Try.prog 55:=⟨by rw[Try.func55];kernel_rfl,by rw[Try.func55];show some _≠some _;decide⟩
theorem k1b4 (p0:Int) (p1:Int) (p2:List Int) (h:p0=18446744069414584321∧U64 p1∧Us p2∧p2.length≤1099511627776):kmz (p0,p1,p2,()) (((absS p1 p2).a0:Int),((absS p1 p2).a1:Int),((absS p1 p2).a2:Int),()):=by
 obtain⟨hP,h1,h2,h3⟩:=h
 subst hP
 have hp:∀s:TA3,S3 (permS s):=fun s=>by
  show S3 (rnd _ _)
  unfold rnd mixS S3
  dsimp only
  omega
 have hi:S3 (absI p1 p2):=by unfold absI S3;dsimp only;omega
 have e:IntKind.u64.wrap (p2.length:Int)=p2.length:=wu _ (by omega) (by omega)
 have em:(p1*65536%18446744069414584321+(p2.length:Int))%18446744069414584321=(absI p1 p2).a2:=rfl
 refine k1fa ?_
 rw[e]
 refine⟨⟨rfl,h1,by omega⟩,⟨rfl,by omega,by omega⟩,fun h=> ?_,fun h=> ?_⟩
 ·have h:p2=[]:=by simpa using h
  refine⟨⟨rfl,?_⟩,?_⟩
  ·exact hi
  ·have:permS ⟨0,0,(p1*65536%18446744069414584321+(p2.length:Int))%18446744069414584321⟩=absS p1 p2:=by unfold absS;rw[if_pos h];rfl
   rw[this]
   exact⟨rfl,rfl,rfl⟩
 ·have h:p2≠[]:=by simpa using h
  have hv:absL p2 (absI p1 p2)=absS p1 p2:=by unfold absS;rw[if_neg h]
  rw[em]
  refine k1cm (r0:=absS p1 p2) (fun i a b c=>0≤i∧i≤p2.length+1∧absL (p2.drop i.toNat) ⟨a,b,c⟩=absS p1 p2∧S3 ⟨a,b,c⟩) (fun i _ _ _=>(p2.length+2-i).toNat) ⟨by omega,by omega,hv,hi⟩ ?_
  rintro i a b c ⟨g0,g1,g2,g3⟩
  obtain⟨h3a,h3b,h3c⟩:=g3
  refine⟨fun hh=> ?_,fun hh=> ?_⟩
  ·have hh:=of_decide_eq_true hh
   have hx:=h2 _ (ix_mem p2 i g0 hh)
   rw[wi (i+1) (by omega) (by omega)]
   have fin:∀nx x y z,S3 ⟨x,y,z⟩→absL (p2.drop (i+2).toNat) (permS ⟨x,y,z⟩)=absS p1 p2→(0≤i+2∧i+2≤p2.length+1∧absL (p2.drop (i+2).toNat) (permS ⟨x,y,z⟩)=absS p1 p2∧S3 (permS ⟨x,y,z⟩)→(p2.length+2-(i+2)).toNat<(p2.length+2-i).toNat→nx ((18446744069414584321:Int),p2,(i+2:Int),(0:Int),(0:Int),(0:Int),(18446744069414584321:Int),(permS ⟨x,y,z⟩).a0,(permS ⟨x,y,z⟩).a1,(permS ⟨x,y,z⟩).a2,()))→kbe ((absS p1 p2).a0,(absS p1 p2).a1,(absS p1 p2).a2,()) nx ((18446744069414584321:Int),p2,i,(0:Int),(0:Int),(0:Int),(18446744069414584321:Int),x,y,z,()):=by
    intro nx x y z hS hv' hn
    refine k18f (r0:=absS p1 p2) ?_
    rw[wi (i+2) (by omega) (by omega)]
    exact⟨⟨rfl,hS⟩,hn ⟨by omega,by omega,hv',hp _⟩ (by omega)⟩
   have hdrop:=drop_ix p2 i g0 hh
   rw[hdrop]at g2
   refine⟨g0,hh,⟨rfl,h3a,hx⟩,fun h5=> ?_,fun h5=> ?_⟩
   ·have h5:=of_decide_eq_true h5
    have hy:=h2 _ (ix_mem p2 (i+1) (by omega) h5)
    rw[drop_ix p2 (i+1) (by omega) h5,show i+1+1=i+2 by omega]at g2
    refine⟨by omega,h5,⟨rfl,h3b,hy⟩,fin _ _ _ _ (S3m (by omega) (by omega) h3c) g2 fun k1 k2=>⟨⟨⟨rfl,rfl,rfl,rfl,rfl,rfl⟩,k1⟩,k2⟩⟩
   ·have h5:=of_decide_eq_false h5
    have ed:p2.drop (i+1).toNat=[]:=List.drop_eq_nil_of_le (by omega)
    have ed2:p2.drop (i+2).toNat=[]:=List.drop_eq_nil_of_le (by omega)
    rw[ed]at g2
    exact fin _ _ _ _ (S3m (by omega) h3b h3c) (by rw[ed2];exact g2) fun k1 k2=>⟨⟨⟨rfl,rfl,rfl,rfl,rfl,rfl⟩,k1⟩,k2⟩
  ·have hh:=of_decide_eq_false hh
   rw[List.drop_eq_nil_of_le (by omega)]at g2
   have g2:(⟨a,b,c⟩:TA3)=absS p1 p2:=g2
   rw[←g2]
   exact⟨rfl,rfl,rfl⟩
noncomputable def kyp:Con TB.den:=k4g.fnR (fun x=>(fun(p0:Int) (p1:Int) (p2:List Int)=>p0=18446744069414584321∧U64 p1∧Us p2∧p2.length≤1099511627776) x.1 x.2.1 x.2.2.1) fun x=>(fun(p0:Int) (p1:Int) (p2:List Int)=>(((absS p1 p2).a0:Int),((absS p1 p2).a1:Int),((absS p1 p2).a2:Int),())) x.1 x.2.1 x.2.2.1
theorem k1fi:kyp.Ok Try.prog TB:=Con.ok_fn k4g bd55 fun x h=>k1cu (k1b4 x.1 x.2.1 x.2.2.1 h)
def k79:Con TB.den:=Con.mk0 40 [.one (.d (.int .u64)),.one (.d (.int .u64)),.one (.d (.sl (.int .u64)))] [] (.one (.one (.d (.int .u64)))) []
abbrev k18c:=HL TB.den (hsT k79.ins (hsOs k79.pre))
abbrev kqq:=HL TB.den (hsV k79.res (hsOs k79.post))
noncomputable def kil:Cx TB:=⟨inf,[kap,kyp],[],4,[]⟩
noncomputable def krk:Code:=Try.f40.body.getD .skip
noncomputable def kvn:List ResultVar:=Try.f40.results.toList
noncomputable def k15d (o:kqq):An TB:= .no
def kr5 (x:k18c) (o:kqq):Prop:=WPh TB kil 16 0 krk (k15d o) (k79.st TB x) (retTQ TB kil k79 kvn o)
theorem k1hm (o:kqq):OblH TB kil 16 0 krk (k15d o) (retTQ TB kil k79 kvn o):=
 OblH.ofC (X:=True) (by kernel_rfl) trivial
theorem k1ia {x:k18c} {o:kqq} (h:kr5 x o):k79.Snd Try.prog x o:=
 Con.soundH (c:=k79) (C:=kil) TBok ⟨inf_ok,(all_cons ke7 (all_cons k1fi all_nil)),all_nil⟩ mix Try.func40 (show Try.f40.body=some krk by kernel_rfl) (show Try.f40.ntmps=16 by kernel_rfl) (show Try.f40.results.toList=kvn by kernel_rfl) rfl h (k1hm o)
theorem k1is {p0:Int} {p1:Int} {p2:List Int} {r0:Int} (h:
(((TField.mk p0).P=18446744069414584321)∧((!true)=true→
0=r0)∧
((!true)=false→
(p0=18446744069414584321∧U64 p1∧Us p2∧p2.length≤1099511627776)∧(absS p1 p2).a0=r0))):kr5 (p0,p1,p2,()) (r0,()):=WPh.of_eq (by kernel_rfl) h
theorem bd40:Callable Try.prog 40:=⟨by rw[Try.func40];kernel_rfl,by rw[Try.func40];show some _≠some _;decide⟩
theorem k1fg (p0:Int) (p1:Int) (p2:List Int) (h:p0=18446744069414584321∧U64 p1∧Us p2∧p2.length≤1099511627776):kr5 (p0,p1,p2,()) (((hashS p1 p2):Int),()):=by
 obtain⟨hP,h1,h2,h3⟩:=h
 subst hP
 exact k1is ⟨rfl,fun h=>by simp at h,fun _=>⟨⟨rfl,h1,h2,h3⟩,rfl⟩⟩
noncomputable def k13p:Con TB.den:=k79.fnR (fun x=>(fun(p0:Int) (p1:Int) (p2:List Int)=>p0=18446744069414584321∧U64 p1∧Us p2∧p2.length≤1099511627776) x.1 x.2.1 x.2.2.1) fun x=>(fun(p0:Int) (p1:Int) (p2:List Int)=>(((hashS p1 p2):Int),())) x.1 x.2.1 x.2.2.1
theorem k1jj:k13p.Ok Try.prog TB:=Con.ok_fn k79 bd40 fun x h=>k1ia (k1fg x.1 x.2.1 x.2.2.1 h)
def k4i:Con TB.den:=Con.mk0 21 [.one (.ptr 0 0),.one (.d (.int .u64)),.one (.d (.sl (.int .u64)))] [.cells [.d (.bool),.d (.int .u64),.d (.int .i64),.own 1,.mp 2,.mp 3,.mp 4],.tip (.st 1),.map (.str) (.int .i64),.map (.str) (.sl (.int .u64)),.map (.str) (.bool)] (.one (.one (.d (.int .u64)))) [.cells [.d (.bool),.d (.int .u64),.d (.int .i64),.own 1,.mp 2,.mp 3,.mp 4],.tip (.st 1),.map (.str) (.int .i64),.map (.str) (.sl (.int .u64)),.map (.str) (.bool)]
abbrev k134:=HL TB.den (hsT k4i.ins (hsOs k4i.pre))
abbrev k9b:=HL TB.den (hsV k4i.res (hsOs k4i.post))
noncomputable def k9w:Cx TB:=⟨inf,[kkl,kvg,kpp,k13p,kux],[],4,[]⟩
noncomputable def kg8:Code:=Try.f21.body.getD .skip
noncomputable def kjz:List ResultVar:=Try.f21.results.toList
def kh8:Tm:=⟨[0,1,2,3,4],[.cells [.d (.bool),.d (.int .u64),.d (.int .i64),.own 1,.mp 2,.mp 3,.mp 4],.tip (.st 1),.map (.str) (.int .i64),.map (.str) (.sl (.int .u64)),.map (.str) (.bool)],[0,1,2,7,10],[.one (.ptr 0 0),.one (.d (.int .u64)),.one (.d (.sl (.int .u64))),.one (.d (.str)),.one (.d (.int .u64))],6⟩
def kz4 (o:k9b) (i:HL TB.den kh8.hs):Prop:=ghs TB [] (kh8.fill TB i) fun s=>WP TB k9w 52 5 (cB (cB (cB (cB (cB (cB kg8)))))) .no s (retTQ TB k9w k4i kjz o)
structure kf0 (o:k9b) (i:HL TB.den kh8.hs):Prop where
 h:kz4 o i
noncomputable def k1ef (o:k9b):An TB:= .nd [] .no [] (.jn kh8 (kf0 o) [] .no [] .no)
noncomputable def k1gd (o:k9b):An TB:= .nd [] .no [] (.nd [] .no [] (.nd [] .no [] (k1ef o)))
noncomputable def k116 (o:k9b):An TB:= .nd [] .no [] (k1gd o)
def klt (x:k134) (o:k9b):Prop:=WPh TB k9w 52 5 kg8 (k116 o) (k4i.st TB x) (retTQ TB k9w k4i kjz o)
theorem k1cq (o:k9b):OblH TB k9w 52 5 kg8 (k116 o) (retTQ TB k9w k4i kjz o):=
 OblH.ofC (X:=((∀i,(kf0 o) i=kz4 o i)∧True)) (by kernel_rfl) ⟨fun _=>propext ⟨fun h=>h.1,fun h=>⟨h⟩⟩,trivial⟩
theorem k1d2 {x:k134} {o:k9b} (h:klt x o):k4i.Snd Try.prog x o:=
 Con.soundH (c:=k4i) (C:=k9w) TBok ⟨inf_ok,(all_cons kx7 (all_cons k184 (all_cons k10z (all_cons k1jj (all_cons k19p all_nil))))),all_nil⟩ mix Try.func21 (show Try.f21.body=some kg8 by kernel_rfl) (show Try.f21.ntmps=52 by kernel_rfl) (show Try.f21.results.toList=kjz by kernel_rfl) rfl h (k1cq o)
theorem k1gg {p1:Int} {p2:List Int} {c0_0:Bool} {c0_1:Int} {c0_2:Int} {w1:List TQuestion} {w2k:List ByteArray} {w2v:List Int} {w3k:List ByteArray} {w3v:List (List Int)} {w4k:List ByteArray} {w4v:List Bool} {r0:Int} {d0_0:Bool} {d0_1:Int} {d0_2:Int} {e1:List TQuestion} {e2k:List ByteArray} {e2v:List Int} {e3k:List ByteArray} {e3v:List (List Int)} {e4k:List ByteArray} {e4v:List Bool} (h:
((p2.length≤9223372036854775807)∧((!(allB p2))=true→
(w1=w1)∧0=r0∧c0_0=d0_0∧c0_1=d0_1∧c0_2=d0_2∧w1=e1∧w2k=e2k∧w2v=e2v∧w3k=e3k∧w3v=e3v∧w4k=e4k∧w4v=e4v)∧
((!(allB p2))=false→
(Us p2∧Us [p1]∧p2.length≤1073741824∧[p1].length≤1073741824)∧w2k.length=w2v.length∧let v1:Int:=mVal (BEq.beq (keyB [p1] p2)) w2k w2v (0:Int)
(mHas (BEq.beq (keyB [p1] p2)) w2k=true→
(0≤v1)∧v1<(w1.length:Int)∧(w1=w1)∧(ix w1 v1).Answer=r0∧c0_0=d0_0∧c0_1=d0_1∧c0_2=d0_2∧w1=e1∧w2k=e2k∧w2v=e2v∧w3k=e3k∧w3v=e3v∧w4k=e4k∧w4v=e4v)∧
(mHas (BEq.beq (keyB [p1] p2)) w2k=false→
(c0_0=true→
(w1=w1)∧let r2:=drO (OS.mk c0_0 c0_1 c0_2 w1 w2k w2v w3k w3v w4k w4v)
(r2.o.q=r2.o.q)∧kf0 (r0,d0_0,d0_1,d0_2,e1,e2k,e2v,e3k,e3v,e4k,e4v,()) (p1,p2,((keyB [p1] p2):ByteArray),r2.n,r2.o.a,r2.o.b,r2.o.c,r2.o.q,r2.o.k,r2.o.v,r2.o.s,r2.o.t,r2.o.x,r2.o.y,()))∧
(c0_0=false→
((18446744069414584321:Int)=18446744069414584321∧U64 p1∧Us p2∧p2.length≤1099511627776)∧(w1=w1)∧kf0 (r0,d0_0,d0_1,d0_2,e1,e2k,e2v,e3k,e3v,e4k,e4v,()) (p1,p2,((keyB [p1] p2):ByteArray),((hashS p1 p2):Int),c0_0,c0_1,c0_2,w1,w2k,w2v,w3k,w3v,w4k,w4v,())))))):klt (p1,p2,c0_0,c0_1,c0_2,w1,w2k,w2v,w3k,w3v,w4k,w4v,()) (r0,d0_0,d0_1,d0_2,e1,e2k,e2v,e3k,e3v,e4k,e4v,()):=WPh.of_eq (by kernel_rfl) h
theorem kv6 {r0:Int} {d0_0:Bool} {d0_1:Int} {d0_2:Int} {e1:List TQuestion} {e2k:List ByteArray} {e2v:List Int} {e3k:List ByteArray} {e3v:List (List Int)} {e4k:List ByteArray} {e4v:List Bool} {s1:Int} {s2:List Int} {s7:ByteArray} {s10:Int} {h0_0:Bool} {h0_1:Int} {h0_2:Int} {g1:List TQuestion} {g2k:List ByteArray} {g2v:List Int} {g3k:List ByteArray} {g3v:List (List Int)} {g4k:List ByteArray} {g4v:List Bool} (h:
((g1=g1)∧(g2k.length=g2v.length∧g1.length≤1000000∧s2.length≤1000000000)∧let r3:=recO (OS.mk h0_0 h0_1 h0_2 g1 g2k g2v g3k g3v g4k g4v) s7 s1 s2 s10
(r3.q=r3.q)∧s10=r0∧r3.a=d0_0∧r3.b=d0_1∧r3.c=d0_2∧r3.q=e1∧r3.k=e2k∧r3.v=e2v∧r3.s=e3k∧r3.t=e3v∧r3.x=e4k∧r3.y=e4v)):kf0 (r0,d0_0,d0_1,d0_2,e1,e2k,e2v,e3k,e3v,e4k,e4v,()) (s1,s2,s7,s10,h0_0,h0_1,h0_2,g1,g2k,g2v,g3k,g3v,g4k,g4v,()):=⟨mpr_of (by kernel_rfl) h⟩
theorem bd21:Callable Try.prog 21:=⟨by rw[Try.func21];kernel_rfl,by rw[Try.func21];show some _≠some _;decide⟩
theorem k1a7 (p1:Int) (p2:List Int) (c0_0:Bool) (c0_1:Int) (c0_2:Int) (w1:List TQuestion) (w2k:List ByteArray) (w2v:List Int) (w3k:List ByteArray) (w3v:List (List Int)) (w4k:List ByteArray) (w4v:List Bool) (h:U64 p1∧(Us p2∧p2.length≤1000000000)∧OOk (OS.mk c0_0 c0_1 c0_2 w1 w2k w2v w3k w3v w4k w4v)):klt (p1,p2,c0_0,c0_1,c0_2,w1,w2k,w2v,w3k,w3v,w4k,w4v,()) ((((hO (OS.mk c0_0 c0_1 c0_2 w1 w2k w2v w3k w3v w4k w4v) p1 p2).n):Int),(((hO (OS.mk c0_0 c0_1 c0_2 w1 w2k w2v w3k w3v w4k w4v) p1 p2).o.a):Bool),(((hO (OS.mk c0_0 c0_1 c0_2 w1 w2k w2v w3k w3v w4k w4v) p1 p2).o.b):Int),(((hO (OS.mk c0_0 c0_1 c0_2 w1 w2k w2v w3k w3v w4k w4v) p1 p2).o.c):Int),(((hO (OS.mk c0_0 c0_1 c0_2 w1 w2k w2v w3k w3v w4k w4v) p1 p2).o.q):List TQuestion),(((hO (OS.mk c0_0 c0_1 c0_2 w1 w2k w2v w3k w3v w4k w4v) p1 p2).o.k):List ByteArray),(((hO (OS.mk c0_0 c0_1 c0_2 w1 w2k w2v w3k w3v w4k w4v) p1 p2).o.v):List Int),(((hO (OS.mk c0_0 c0_1 c0_2 w1 w2k w2v w3k w3v w4k w4v) p1 p2).o.s):List ByteArray),(((hO (OS.mk c0_0 c0_1 c0_2 w1 w2k w2v w3k w3v w4k w4v) p1 p2).o.t):List (List Int)),(((hO (OS.mk c0_0 c0_1 c0_2 w1 w2k w2v w3k w3v w4k w4v) p1 p2).o.x):List ByteArray),(((hO (OS.mk c0_0 c0_1 c0_2 w1 w2k w2v w3k w3v w4k w4v) p1 p2).o.y):List Bool),()):=by
 obtain⟨h1,⟨h2,h3⟩,h4⟩:=h
 have hl:=h4.or.len
 have hq:=h4.q
 refine k1gg ⟨by omega,fun e=> ?_,fun e=> ?_⟩
 ·have e:allB p2=false:=by simpa using e
  unfold hO
  rw[if_neg (by rw[e];decide)]
  exact⟨rfl,rfl,rfl,rfl,rfl,rfl,rfl,rfl,rfl,rfl,rfl,rfl⟩
 ·have e:allB p2=true:=by simpa using e
  refine⟨⟨h2,fun x hx=>by rw[List.mem_singleton.1 hx];exact h1,by omega,by simp⟩,hl,?_⟩
  try dsimp only
  refine⟨fun e2=> ?_,fun e2=> ?_⟩
  ·have:=k1nx h4 e2
   unfold hO
   rw[if_pos e,if_pos e2]
   exact⟨this.1,this.2,rfl,rfl,rfl,rfl,rfl,rfl,rfl,rfl,rfl,rfl,rfl,rfl⟩
  ·have e3:¬mHas (BEq.beq (keyB [p1] p2)) (OS.mk c0_0 c0_1 c0_2 w1 w2k w2v w3k w3v w4k w4v).k=true:=by rw[e2];decide
   unfold hO
   rw[if_pos e,if_neg e3]
   refine⟨fun e4=> ?_,fun e4=> ?_⟩
   ·subst e4
    exact⟨rfl,rfl,kv6 ⟨rfl,⟨hl,hq,h3⟩,rfl,rfl,rfl,rfl,rfl,rfl,rfl,rfl,rfl,rfl,rfl,rfl⟩⟩
   ·subst e4
    exact⟨⟨rfl,h1,h2,by omega⟩,rfl,kv6 ⟨rfl,⟨hl,hq,h3⟩,rfl,rfl,rfl,rfl,rfl,rfl,rfl,rfl,rfl,rfl,rfl,rfl⟩⟩
noncomputable def kd5:Con TB.den:=k4i.fnR (fun x=>(fun(p1:Int) (p2:List Int) (c0_0:Bool) (c0_1:Int) (c0_2:Int) (w1:List TQuestion) (w2k:List ByteArray) (w2v:List Int) (w3k:List ByteArray) (w3v:List (List Int)) (w4k:List ByteArray) (w4v:List Bool)=>U64 p1∧(Us p2∧p2.length≤1000000000)∧OOk (OS.mk c0_0 c0_1 c0_2 w1 w2k w2v w3k w3v w4k w4v)) x.1 x.2.1 x.2.2.1 x.2.2.2.1 x.2.2.2.2.1 x.2.2.2.2.2.1 x.2.2.2.2.2.2.1 x.2.2.2.2.2.2.2.1 x.2.2.2.2.2.2.2.2.1 x.2.2.2.2.2.2.2.2.2.1 x.2.2.2.2.2.2.2.2.2.2.1 x.2.2.2.2.2.2.2.2.2.2.2.1) fun x=>(fun(p1:Int) (p2:List Int) (c0_0:Bool) (c0_1:Int) (c0_2:Int) (w1:List TQuestion) (w2k:List ByteArray) (w2v:List Int) (w3k:List ByteArray) (w3v:List (List Int)) (w4k:List ByteArray) (w4v:List Bool)=>((((hO (OS.mk c0_0 c0_1 c0_2 w1 w2k w2v w3k w3v w4k w4v) p1 p2).n):Int),(((hO (OS.mk c0_0 c0_1 c0_2 w1 w2k w2v w3k w3v w4k w4v) p1 p2).o.a):Bool),(((hO (OS.mk c0_0 c0_1 c0_2 w1 w2k w2v w3k w3v w4k w4v) p1 p2).o.b):Int),(((hO (OS.mk c0_0 c0_1 c0_2 w1 w2k w2v w3k w3v w4k w4v) p1 p2).o.c):Int),(((hO (OS.mk c0_0 c0_1 c0_2 w1 w2k w2v w3k w3v w4k w4v) p1 p2).o.q):List TQuestion),(((hO (OS.mk c0_0 c0_1 c0_2 w1 w2k w2v w3k w3v w4k w4v) p1 p2).o.k):List ByteArray),(((hO (OS.mk c0_0 c0_1 c0_2 w1 w2k w2v w3k w3v w4k w4v) p1 p2).o.v):List Int),(((hO (OS.mk c0_0 c0_1 c0_2 w1 w2k w2v w3k w3v w4k w4v) p1 p2).o.s):List ByteArray),(((hO (OS.mk c0_0 c0_1 c0_2 w1 w2k w2v w3k w3v w4k w4v) p1 p2).o.t):List (List Int)),(((hO (OS.mk c0_0 c0_1 c0_2 w1 w2k w2v w3k w3v w4k w4v) p1 p2).o.x):List ByteArray),(((hO (OS.mk c0_0 c0_1 c0_2 w1 w2k w2v w3k w3v w4k w4v) p1 p2).o.y):List Bool),())) x.1 x.2.1 x.2.2.1 x.2.2.2.1 x.2.2.2.2.1 x.2.2.2.2.2.1 x.2.2.2.2.2.2.1 x.2.2.2.2.2.2.2.1 x.2.2.2.2.2.2.2.2.1 x.2.2.2.2.2.2.2.2.2.1 x.2.2.2.2.2.2.2.2.2.2.1 x.2.2.2.2.2.2.2.2.2.2.2.1
theorem kjw:kd5.Ok Try.prog TB:=Con.ok_fn k4i bd21 fun x h=>k1d2 (k1a7 x.1 x.2.1 x.2.2.1 x.2.2.2.1 x.2.2.2.2.1 x.2.2.2.2.2.1 x.2.2.2.2.2.2.1 x.2.2.2.2.2.2.2.1 x.2.2.2.2.2.2.2.2.1 x.2.2.2.2.2.2.2.2.2.1 x.2.2.2.2.2.2.2.2.2.2.1 x.2.2.2.2.2.2.2.2.2.2.2.1 h)
def k3j:Con TB.den:=Con.mk0 25 [.one (.d (.sl (.int .u64)))] [] (.one (.one (.d (.bool)))) []
abbrev kyn:=HL TB.den (hsT k3j.ins (hsOs k3j.pre))
abbrev k7r:=HL TB.den (hsV k3j.res (hsOs k3j.post))
noncomputable def k7d:Cx TB:=⟨inf,[],[],4,[]⟩
noncomputable def kax:Code:=Try.f25.body.getD .skip
noncomputable def kga:List ResultVar:=Try.f25.results.toList
def k1b9 (o:k7r):=qS TB k7d 14 0 (cB (cB kax)) .no (retTQ TB k7d k3j kga o)
def k8p:Tm:=⟨[],[],[5,6,7],[.one (.d (.sl (.int .u64))),.one (.d (.int .i64)),.one (.d (.int .i64))],0⟩
def k1c2 (o:k7r) (nx1:NX TB k8p):=qM TB 0 k8p nx1 (blockT TB 0 (k1b9 o))
def kbw (o:k7r) (nx1:NX TB k8p) (i:HL TB.den k8p.hs):Prop:=WP TB k7d 14 0 (cA (cA (cB (cA (cB kax))))) .no (k8p.fill TB i) (k1c2 o nx1)
noncomputable def k1a5 (o:k7r):An TB:= .lp [] k8p (kbw o) fun nx1=> .no
noncomputable def kx4 (o:k7r):An TB:= .nd [] .no [] (.nd [] (.nd [] .no [] (k1a5 o)) [] .no)
def kjh (x:kyn) (o:k7r):Prop:=WPh TB k7d 14 0 kax (kx4 o) (k3j.st TB x) (retTQ TB k7d k3j kga o)
theorem k18p (o:k7r):OblH TB k7d 14 0 kax (kx4 o) (retTQ TB k7d k3j kga o):=
 OblH.ofC (X:=((∀nx i,(kbw o) nx i=(kbw o) nx i)∧(∀nx1:NX TB k8p,True)∧True)) (by kernel_rfl) ⟨fun _ _=>rfl,fun _=>trivial,trivial⟩
theorem k18o {x:kyn} {o:k7r} (h:kjh x o):k3j.Snd Try.prog x o:=
 Con.soundH (c:=k3j) (C:=k7d) TBok ⟨inf_ok,all_nil,all_nil⟩ mix Try.func25 (show Try.f25.body=some kax by kernel_rfl) (show Try.f25.ntmps=14 by kernel_rfl) (show Try.f25.results.toList=kga by kernel_rfl) rfl h (k18p o)
theorem k1ar {p0:List Int} {r0:Bool} (h:
(Md.Loop (p0,((p0.length:Int):Int),(0:Int),()) (kbw (r0,())))):kjh (p0,()) (r0,()):=WPh.of_eq (by kernel_rfl) h
def kwx (r0:Bool) (k1:Int→Prop) (s5:List Int) (s6:Int) (s7:Int):Prop:=
(decide (s7<s6)=true→
(0≤s7)∧s7<(s5.length:Int)∧let v1:Bool:=decide (18446744069414584321≤(ix s5 s7))
(v1=true→
false=r0)∧
(v1=false→
k1 (IntKind.i64.wrap (s7+1):Int)))∧
(decide (s7<s6)=false→
true=r0)
theorem k18d {r0:Bool} {s5:List Int} {s6:Int} {s7:Int} (inv:Int→Prop) (μ:Int→Nat) (h0:inv s7) (hs:∀(s7:Int),inv s7→kwx r0 (fun s7q=>inv s7q∧μ s7q<μ s7) s5 s6 s7):Md.Loop (s5,s6,s7,()) (kbw (r0,())):=
 ⟨⟨fun s:(List Int)×Int×Int×Unit=>(s.1=s5∧s.2.1=s6)∧inv s.2.2.1,fun s:(List Int)×Int×Int×Unit=>μ s.2.2.1,⟨⟨rfl,rfl⟩,h0⟩,fun(s5p,s6p,s7p,()) ⟨⟨eq0,eq1⟩,hi⟩=>by
  have eq0:s5p=s5:=eq0;subst s5p;have eq1:s6p=s6:=eq1;subst s6p;exact mpr_of (by kernel_rfl) ((congrArg (fun k=>kwx r0 k s5 s6 s7p) (lpk1 (⟨rfl,rfl⟩:s5=s5∧s6=s6) inv (fun s7q=>μ s7q<μ s7p))).mpr (hs s7p hi))⟩⟩
theorem bd25:Callable Try.prog 25:=⟨by rw[Try.func25];kernel_rfl,by rw[Try.func25];show some _≠some _;decide⟩
theorem k15x (p0:List Int) (h:p0.length≤9223372036854775807):kjh (p0,()) (((allB p0):Bool),()):=by
 refine k1ar (k18d (AllI (fun x=>decide (x<18446744069414584321)) p0) (fun i=>(p0.length-i).toNat) AllI.start ?_)
 intro i hi
 refine⟨fun hh=> ?_,fun hh=> ?_⟩
 ·have hh:=of_decide_eq_true hh
  refine⟨hi.1,hh,?_⟩
  dsimp only
  refine⟨fun e=> ?_,fun e=> ?_⟩
  ·have e:=of_decide_eq_true e
   exact(hi.bad hh (decide_eq_false (by omega))).symm
  ·have e:=of_decide_eq_false e
   exact hi.next hh (by omega) (decide_eq_true (by omega))
 ·have hh:=of_decide_eq_false hh
  exact(hi.done hh).symm
noncomputable def kuw:Con TB.den:=k3j.fnR (fun x=>(fun(p0:List Int)=>p0.length≤9223372036854775807) x.1) fun x=>(fun(p0:List Int)=>(((allB p0):Bool),())) x.1
theorem k1az:kuw.Ok Try.prog TB:=Con.ok_fn k3j bd25 fun x h=>k18o (k15x x.1 h)
def k47:Con TB.den:=Con.mk0 24 [.one (.d (.int .i64))] [] (.one (.one (.d (.bool)))) []
abbrev kyw:=HL TB.den (hsT k47.ins (hsOs k47.pre))
abbrev kh3:=HL TB.den (hsV k47.res (hsOs k47.post))
noncomputable def kc4:Cx TB:=⟨inf,[],[],4,[]⟩
noncomputable def kjv:Code:=Try.f24.body.getD .skip
noncomputable def kly:List ResultVar:=Try.f24.results.toList
noncomputable def kx5 (o:kh3):An TB:= .no
def kje (x:kyw) (o:kh3):Prop:=WPh TB kc4 16 0 kjv (kx5 o) (k47.st TB x) (retTQ TB kc4 k47 kly o)
theorem k18u (o:kh3):OblH TB kc4 16 0 kjv (kx5 o) (retTQ TB kc4 k47 kly o):=
 OblH.ofC (X:=True) (by kernel_rfl) trivial
theorem k18j {x:kyw} {o:kh3} (h:kje x o):k47.Snd Try.prog x o:=
 Con.soundH (c:=k47) (C:=kc4) TBok ⟨inf_ok,all_nil,all_nil⟩ mix Try.func24 (show Try.f24.body=some kjv by kernel_rfl) (show Try.f24.ntmps=16 by kernel_rfl) (show Try.f24.results.toList=kly by kernel_rfl) rfl h (k18u o)
theorem k1bo {p0:Int} {r0:Bool} (h:
((decide (1≤p0)=true→
(decide (p0≤1024)=true→
let v1:Bool:=((iand .i64 p0 (IntKind.i64.wrap (p0-1)))==0)
v1=r0)∧
(decide (p0≤1024)=false→
false=r0))∧
(decide (1≤p0)=false→
false=r0))):kje (p0,()) (r0,()):=WPh.of_eq (by kernel_rfl) h
theorem bd24:Callable Try.prog 24:=⟨by rw[Try.func24];kernel_rfl,by rw[Try.func24];show some _≠some _;decide⟩
theorem k170 (p0:Int):kje (p0,()) (((isNum p0):Bool),()):=by
 refine k1bo ⟨fun e=>⟨fun e2=> ?_,fun e2=> ?_⟩,fun e=> ?_⟩
 ·unfold isNum;rw[e,e2];rfl
 ·unfold isNum;rw[e,e2];rfl
 ·unfold isNum;rw[e];rfl
noncomputable def kkn:Con TB.den:=k47.totR fun x=>(fun(p0:Int)=>(((isNum p0):Bool),())) x.1
theorem kwu:kkn.Ok Try.prog TB:=Con.ok_tot k47 bd24 fun x=>k18j (k170 x.1)
def k5d:Con TB.den:=Con.mk0 26 [.one (.d (.int .u64)),.one (.d (.sl (.int .u64)))] [] (.one (.one (.d (.sl (.int .u64))))) []
abbrev k12v:=HL TB.den (hsT k5d.ins (hsOs k5d.pre))
abbrev klb:=HL TB.den (hsV k5d.res (hsOs k5d.post))
noncomputable def kei:Cx TB:=⟨inf,[],[],4,[]⟩
noncomputable def kmy:Code:=Try.f26.body.getD .skip
noncomputable def krq:List ResultVar:=Try.f26.results.toList
noncomputable def k11b (o:klb):An TB:= .no
def klx (x:k12v) (o:klb):Prop:=WPh TB kei 9 0 kmy (k11b o) (k5d.st TB x) (retTQ TB kei k5d krq o)
theorem k1cg (o:klb):OblH TB kei 9 0 kmy (k11b o) (retTQ TB kei k5d krq o):=
 OblH.ofC (X:=True) (by kernel_rfl) trivial
theorem k1cw {x:k12v} {o:klb} (h:klx x o):k5d.Snd Try.prog x o:=
 Con.soundH (c:=k5d) (C:=kei) TBok ⟨inf_ok,all_nil,all_nil⟩ mix Try.func26 (show Try.f26.body=some kmy by kernel_rfl) (show Try.f26.ntmps=9 by kernel_rfl) (show Try.f26.results.toList=krq by kernel_rfl) rfl h (k1cg o)
theorem k1g9 {p0:Int} {p1:List Int} {r0:List Int} (h:
(([p0].length+p1.length)*8≤140737488355328∧[p0].length+p1.length≤maxLen∧[p0]++p1=r0)):klx (p0,p1,()) (r0,()):=WPh.of_eq (by kernel_rfl) h
theorem bd26:Callable Try.prog 26:=⟨by rw[Try.func26];kernel_rfl,by rw[Try.func26];show some _≠some _;decide⟩
theorem k1af (p0:Int) (p1:List Int) (h:p1.length≤1000000000):klx (p0,p1,()) (((p0::p1):List Int),()):=by
 exact k1g9 ⟨by simp;omega,by simp;unfold maxLen;omega,rfl⟩
noncomputable def kyr:Con TB.den:=k5d.fnR (fun x=>(fun(p0:Int) (p1:List Int)=>p1.length≤1000000000) x.1 x.2.1) fun x=>(fun(p0:Int) (p1:List Int)=>(((p0::p1):List Int),())) x.1 x.2.1
theorem k1ft:kyr.Ok Try.prog TB:=Con.ok_fn k5d bd26 fun x h=>k1cw (k1af x.1 x.2.1 h)
def k26:Con TB.den:=Con.mk0 8 [.one (.ptr 0 0),.one (.d (.sl (.sl (.int .u64)))),.one (.d (.sl (.int .u64)))] [.cells [.d (.bool),.d (.int .u64),.d (.int .i64),.own 1,.mp 2,.mp 3,.mp 4],.tip (.st 1),.map (.str) (.int .i64),.map (.str) (.sl (.int .u64)),.map (.str) (.bool)] (.tup [.agg [.d (.sl (.sl (.int .u64)))],.one (.d (.int .i64))]) [.cells [.d (.bool),.d (.int .u64),.d (.int .i64),.own 1,.mp 2,.mp 3,.mp 4],.tip (.st 1),.map (.str) (.int .i64),.map (.str) (.sl (.int .u64)),.map (.str) (.bool)]
abbrev kyq:=HL TB.den (hsT k26.ins (hsOs k26.pre))
abbrev k13:=HL TB.den (hsV k26.res (hsOs k26.post))
noncomputable def k1p:Cx TB:=⟨inf,[kkn,kuw,kyr,kd5],[],4,[94]⟩
noncomputable def k2e:Code:=Try.f8.body.getD .skip
noncomputable def k8t:List ResultVar:=Try.f8.results.toList
def k1bj (o:k13):=qS TB k1p 105 5 (cB (cB (cB (cB (cB (cB (cB k2e))))))) .no (retTQ TB k1p k26 k8t o)
def k29:Tm:=⟨[0,1,2,3,4,5,9],[.cells [.d (.bool),.d (.int .u64),.d (.int .i64),.own 1,.mp 2,.mp 3,.mp 4],.tip (.st 1),.map (.str) (.int .i64),.map (.str) (.sl (.int .u64)),.map (.str) (.bool),.cells [.full (.sl (.int .u64))],.tip (.sl (.int .u64))],[0,6,10,13],[.one (.ptr 0 0),.one (.ptr 5 0),.one (.d (.sl (.int .u64))),.one (.own 6)],10⟩
def kx2 (o:k13) (nx4:NX TB k29):=qM TB 5 k29 nx4 (blockT TB 4 (k1bj o))
def k19m (o:k13) (nx4:NX TB k29):=qS TB k1p 105 5 (cB (cB (cA (cB (cA (cA (cA (cB (cB (cB (cB (cB (cB k2e))))))))))))) (.nd [.frz 10 [14]] .no [] .no) (blockT TB 5 (kx2 o nx4))
def k8c:Tm:=⟨[0,1,2,3,4,5,9,10],[.cells [.d (.bool),.d (.int .u64),.d (.int .i64),.own 1,.mp 2,.mp 3,.mp 4],.tip (.st 1),.map (.str) (.int .i64),.map (.str) (.sl (.int .u64)),.map (.str) (.bool),.cells [.full (.sl (.int .u64))],.tip (.sl (.int .u64)),.vec (.int .u64)],[0,6,10,13,14,76,77],[.one (.ptr 0 0),.one (.ptr 5 0),.one (.d (.sl (.int .u64))),.one (.own 6),.one (.row 7),.one (.d (.int .i64)),.one (.d (.int .i64))],11⟩
def k1ba (o:k13) (nx4:NX TB k29) (nx3:NX TB k8c):=qM TB 5 k8c nx3 (blockT TB 6 (k19m o nx4))
def kbr (o:k13) (nx4:NX TB k29) (nx3:NX TB k8c) (i:HL TB.den k8c.hs):Prop:=WP TB k1p 105 5 (cA (cA (cB (cA (cB (cA (cB (cA (cA (cA (cB (cB (cB (cB (cB (cB k2e)))))))))))))))) .no (k8c.fill TB i) (k1ba o nx4 nx3)
noncomputable def k1ao (o:k13) (nx4:NX TB k29):An TB:= .lp [] k8c (kbr o nx4) fun nx3=> .no
noncomputable def kxk (o:k13) (nx4:NX TB k29):An TB:= .nd [] (.nd [] .no [] (k1ao o nx4)) [] (.nd [.frz 10 [14]] .no [] .no)
def kc6 (o:k13) (nx4:NX TB k29) (i:HL TB.den k29.hs):Prop:=WP TB k1p 105 5 (cA (cA (cA (cB (cB (cB (cB (cB (cB k2e))))))))) (.nd [] .no [] (.nd [] .no [] (kxk o nx4))) (k29.fill TB i) (kx2 o nx4)
noncomputable def k197 (o:k13):An TB:= .lp [.tok 13 (.sl (.int .u64))] k29 (kc6 o) fun nx4=>(.nd [] .no [] (.nd [] .no [] (kxk o nx4)))
noncomputable def kuy (o:k13):An TB:= .nd [.frz 6 [10]] .no [] (.nd [] (k197 o) [] .no)
def k18s (o:k13):=qS TB k1p 105 5 (cB (cB (cB (cB (cB k2e))))) (kuy o) (retTQ TB k1p k26 k8t o)
def k8k:Tm:=⟨[0,1,2,3,4,5,6],[.cells [.d (.bool),.d (.int .u64),.d (.int .i64),.own 1,.mp 2,.mp 3,.mp 4],.tip (.st 1),.map (.str) (.int .i64),.map (.str) (.sl (.int .u64)),.map (.str) (.bool),.cells [.full (.sl (.int .u64))],.vec (.int .u64)],[0,2,6,10,47,48,49],[.one (.ptr 0 0),.one (.d (.sl (.int .u64))),.one (.ptr 5 0),.one (.row 6),.one (.d (.sl (.sl (.int .u64)))),.one (.d (.int .i64)),.one (.d (.int .i64))],7⟩
def k18e (o:k13) (nx2:NX TB k8k):=qM TB 5 k8k nx2 (blockT TB 2 (k18s o))
def kbx (o:k13) (nx2:NX TB k8k) (i:HL TB.den k8k.hs):Prop:=WP TB k1p 105 5 (cA (cA (cB (cA (cB (cB (cB (cB k2e)))))))) .no (k8k.fill TB i) (k18e o nx2)
noncomputable def k18y (o:k13):An TB:= .lp [] k8k (kbx o) fun nx2=> .no
noncomputable def kv4 (o:k13):An TB:= .nd [] (.nd [] .no [] (k18y o)) [] (kuy o)
def k190 (o:k13):=qS TB k1p 105 5 (cB (cB (cB k2e))) (.nd [] .no [] (kv4 o)) (retTQ TB k1p k26 k8t o)
def k8x:Tm:=⟨[0,1,2,3,4,5],[.cells [.d (.bool),.d (.int .u64),.d (.int .i64),.own 1,.mp 2,.mp 3,.mp 4],.tip (.st 1),.map (.str) (.int .i64),.map (.str) (.sl (.int .u64)),.map (.str) (.bool),.cells [.full (.sl (.int .u64))]],[0,1,2,6,33,34,35],[.one (.ptr 0 0),.one (.d (.sl (.sl (.int .u64)))),.one (.d (.sl (.int .u64))),.one (.ptr 5 0),.one (.d (.sl (.sl (.int .u64)))),.one (.d (.int .i64)),.one (.d (.int .i64))],6⟩
def k19e (o:k13) (nx1:NX TB k8x):=qM TB 5 k8x nx1 (blockT TB 0 (k190 o))
def kc7 (o:k13) (nx1:NX TB k8x) (i:HL TB.den k8x.hs):Prop:=WP TB k1p 105 5 (cA (cA (cB (cA (cB (cB k2e)))))) .no (k8x.fill TB i) (k19e o nx1)
noncomputable def k19g (o:k13):An TB:= .lp [] k8x (kc7 o) fun nx1=> .no
noncomputable def kv1 (o:k13):An TB:= .nd [] (.nd [] .no [] (k19g o)) [] (.nd [] .no [] (kv4 o))
def k18r (o:k13):=qS TB k1p 105 5 (cB (cB k2e)) (kv1 o) (retTQ TB k1p k26 k8t o)
def kf4:Tm:=⟨[0,1,2,3,4,5],[.cells [.d (.bool),.d (.int .u64),.d (.int .i64),.own 1,.mp 2,.mp 3,.mp 4],.tip (.st 1),.map (.str) (.int .i64),.map (.str) (.sl (.int .u64)),.map (.str) (.bool),.cells [.full (.sl (.int .u64))]],[0,1,2,6,31],[.one (.ptr 0 0),.one (.d (.sl (.sl (.int .u64)))),.one (.d (.sl (.int .u64))),.one (.ptr 5 0),.one (.d (.bool))],6⟩
def kuz (o:k13) (i:HL TB.den kf4.hs):Prop:=ghs TB [] (kf4.fill TB i) fun s=>WP TB k1p 105 5 (cB (cA (cB k2e))) .no s (k18r o)
structure k8d (o:k13) (i:HL TB.den kf4.hs):Prop where
 h:kuz o i
noncomputable def k19c (o:k13):An TB:= .nd [] (.jn kf4 (k8d o) [] .no [] .no) [] (kv1 o)
noncomputable def kxa (o:k13):An TB:= .nd [] .no [] (k19c o)
def kjq (x:kyq) (o:k13):Prop:=WPh TB k1p 105 5 k2e (kxa o) (k26.st TB x) (retTQ TB k1p k26 k8t o)
theorem k18l (o:k13):OblH TB k1p 105 5 k2e (kxa o) (retTQ TB k1p k26 k8t o):=
 OblH.ofC (X:=((∀i,(k8d o) i=kuz o i)∧(∀nx i,(kc7 o) nx i=(kc7 o) nx i)∧(∀nx1:NX TB k8x,True)∧(∀nx i,(kbx o) nx i=(kbx o) nx i)∧(∀nx2:NX TB k8k,True)∧(∀nx i,(kc6 o) nx i=(kc6 o) nx i)∧(∀nx4:NX TB k29,((∀nx i,(kbr o nx4) nx i=(kbr o nx4) nx i)∧(∀nx3:NX TB k8c,True)∧True))∧True)) (by kernel_rfl) ⟨fun _=>propext ⟨fun h=>h.1,fun h=>⟨h⟩⟩,fun _ _=>rfl,fun _=>trivial,fun _ _=>rfl,fun _=>trivial,fun _ _=>rfl,fun _=>⟨fun _ _=>rfl,fun _=>trivial,trivial⟩,trivial⟩
theorem k18h {x:kyq} {o:k13} (h:kjq x o):k26.Snd Try.prog x o:=
 Con.soundH (c:=k26) (C:=k1p) TBok ⟨inf_ok,(all_cons kwu (all_cons k1az (all_cons k1ft (all_cons kjw all_nil)))),all_nil⟩ mix Try.func8 (show Try.f8.body=some k2e by kernel_rfl) (show Try.f8.ntmps=105 by kernel_rfl) (show Try.f8.results.toList=k8t by kernel_rfl) rfl h (k18l o)
theorem k1ad {p1:List (List Int)} {p2:List Int} {c0_0:Bool} {c0_1:Int} {c0_2:Int} {w1:List TQuestion} {w2k:List ByteArray} {w2v:List Int} {w3k:List ByteArray} {w3v:List (List Int)} {w4k:List ByteArray} {w4v:List Bool} {r0:TTree} {r1:Int} {d0_0:Bool} {d0_1:Int} {d0_2:Int} {e1:List TQuestion} {e2k:List ByteArray} {e2v:List Int} {e3k:List ByteArray} {e3v:List (List Int)} {e4k:List ByteArray} {e4v:List Bool} (h:
(((!(isNum (p1.length:Int)))=true→
(w1=w1)∧k8d (r0.Levels,r1,d0_0,d0_1,d0_2,e1,e2k,e2v,e3k,e3v,e4k,e4v,()) (p1,p2,true,c0_0,c0_1,c0_2,(([]:List (List Int)):List (List Int)),w1,w2k,w2v,w3k,w3v,w4k,w4v,()))∧
((!(isNum (p1.length:Int)))=false→
(((p2.length:Int) !=(p1.length:Int))=true→
(w1=w1)∧k8d (r0.Levels,r1,d0_0,d0_1,d0_2,e1,e2k,e2v,e3k,e3v,e4k,e4v,()) (p1,p2,true,c0_0,c0_1,c0_2,(([]:List (List Int)):List (List Int)),w1,w2k,w2v,w3k,w3v,w4k,w4v,()))∧
(((p2.length:Int) !=(p1.length:Int))=false→
(p2.length≤9223372036854775807)∧(w1=w1)∧k8d (r0.Levels,r1,d0_0,d0_1,d0_2,e1,e2k,e2v,e3k,e3v,e4k,e4v,()) (p1,p2,((!(allB p2)):Bool),c0_0,c0_1,c0_2,(([]:List (List Int)):List (List Int)),w1,w2k,w2v,w3k,w3v,w4k,w4v,()))))):kjq (p1,p2,c0_0,c0_1,c0_2,w1,w2k,w2v,w3k,w3v,w4k,w4v,()) (r0.Levels,r1,d0_0,d0_1,d0_2,e1,e2k,e2v,e3k,e3v,e4k,e4v,()):=WPh.of_eq (by kernel_rfl) h
theorem krz {r0:TTree} {r1:Int} {d0_0:Bool} {d0_1:Int} {d0_2:Int} {e1:List TQuestion} {e2k:List ByteArray} {e2v:List Int} {e3k:List ByteArray} {e3v:List (List Int)} {e4k:List ByteArray} {e4v:List Bool} {s1:List (List Int)} {s2:List Int} {s31:Bool} {h0_0:Bool} {h0_1:Int} {h0_2:Int} {h5_0:List (List Int)} {g1:List TQuestion} {g2k:List ByteArray} {g2v:List Int} {g3k:List ByteArray} {g3v:List (List Int)} {g4k:List ByteArray} {g4v:List Bool} (h:
((s31=true→
(g1=g1)∧([]:List (List Int))=r0.Levels∧1=r1∧h0_0=d0_0∧h0_1=d0_1∧h0_2=d0_2∧g1=e1∧g2k=e2k∧g2v=e2v∧g3k=e3k∧g3v=e3v∧g4k=e4k∧g4v=e4v)∧
(s31=false→
(g1=g1)∧Md.Loop (s1,s2,s1,((s1.length:Int):Int),(0:Int),h0_0,h0_1,h0_2,h5_0,g1,g2k,g2v,g3k,g3v,g4k,g4v,()) (kc7 (r0.Levels,r1,d0_0,d0_1,d0_2,e1,e2k,e2v,e3k,e3v,e4k,e4v,()))))):k8d (r0.Levels,r1,d0_0,d0_1,d0_2,e1,e2k,e2v,e3k,e3v,e4k,e4v,()) (s1,s2,s31,h0_0,h0_1,h0_2,h5_0,g1,g2k,g2v,g3k,g3v,g4k,g4v,()):=⟨mpr_of (by kernel_rfl) h⟩
def kwt (r0:TTree) (r1:Int) (d0_0:Bool) (d0_1:Int) (d0_2:Int) (e1:List TQuestion) (e2k:List ByteArray) (e2v:List Int) (e3k:List ByteArray) (e3v:List (List Int)) (e4k:List ByteArray) (e4v:List Bool) (k1:Int→Prop) (s1:List (List Int)) (s2:List Int) (s33:List (List Int)) (s34:Int) (h0_0:Bool) (h0_1:Int) (h0_2:Int) (h5_0:List (List Int)) (g1:List TQuestion) (g2k:List ByteArray) (g2v:List Int) (g3k:List ByteArray) (g3v:List (List Int)) (g4k:List ByteArray) (g4v:List Bool) (s35:Int):Prop:=
(decide (s35<s34)=true→
(0≤s35)∧s35<(s33.length:Int)∧((ix s33 s35).length≤9223372036854775807)∧((!(allB (ix s33 s35)))=true→
(g1=g1)∧([]:List (List Int))=r0.Levels∧1=r1∧h0_0=d0_0∧h0_1=d0_1∧h0_2=d0_2∧g1=e1∧g2k=e2k∧g2v=e2v∧g3k=e3k∧g3v=e3v∧g4k=e4k∧g4v=e4v)∧
((!(allB (ix s33 s35)))=false→
(g1=g1)∧k1 (IntKind.i64.wrap (s35+1):Int)))∧
(decide (s35<s34)=false→
0≤(s1.length:Int)∧(s1.length:Int)≤(s1.length:Int)∧((s1.length:Int).toNat*8≤140737488355328)∧((s1.length:Int).toNat≤maxLen)∧(g1=g1)∧((s1.length:Int).toNat=(List.replicate ((s1.length:Int).toNat) (0:Int)).length)∧Md.Loop (s2,s1,((s1.length:Int):Int),(0:Int),h0_0,h0_1,h0_2,h5_0,g1,g2k,g2v,g3k,g3v,g4k,g4v,(List.replicate ((s1.length:Int).toNat) (0:Int):List Int),()) (kbx (r0.Levels,r1,d0_0,d0_1,d0_2,e1,e2k,e2v,e3k,e3v,e4k,e4v,())))
theorem k19i {r0:TTree} {r1:Int} {d0_0:Bool} {d0_1:Int} {d0_2:Int} {e1:List TQuestion} {e2k:List ByteArray} {e2v:List Int} {e3k:List ByteArray} {e3v:List (List Int)} {e4k:List ByteArray} {e4v:List Bool} {s1:List (List Int)} {s2:List Int} {s33:List (List Int)} {s34:Int} {h0_0:Bool} {h0_1:Int} {h0_2:Int} {h5_0:List (List Int)} {g1:List TQuestion} {g2k:List ByteArray} {g2v:List Int} {g3k:List ByteArray} {g3v:List (List Int)} {g4k:List ByteArray} {g4v:List Bool} {s35:Int} (inv:Int→Prop) (μ:Int→Nat) (h0:inv s35) (hs:∀(s35:Int),inv s35→kwt r0 r1 d0_0 d0_1 d0_2 e1 e2k e2v e3k e3v e4k e4v (fun s35q=>inv s35q∧μ s35q<μ s35) s1 s2 s33 s34 h0_0 h0_1 h0_2 h5_0 g1 g2k g2v g3k g3v g4k g4v s35):Md.Loop (s1,s2,s33,s34,s35,h0_0,h0_1,h0_2,h5_0,g1,g2k,g2v,g3k,g3v,g4k,g4v,()) (kc7 (r0.Levels,r1,d0_0,d0_1,d0_2,e1,e2k,e2v,e3k,e3v,e4k,e4v,())):=
 ⟨⟨fun s:(List (List Int))×(List Int)×(List (List Int))×Int×Int×Bool×Int×Int×(List (List Int))×(List TQuestion)×(List ByteArray)×(List Int)×(List ByteArray)×(List (List Int))×(List ByteArray)×(List Bool)×Unit=>(s.1=s1∧s.2.1=s2∧s.2.2.1=s33∧s.2.2.2.1=s34∧s.2.2.2.2.2.1=h0_0∧s.2.2.2.2.2.2.1=h0_1∧s.2.2.2.2.2.2.2.1=h0_2∧s.2.2.2.2.2.2.2.2.1=h5_0∧s.2.2.2.2.2.2.2.2.2.1=g1∧s.2.2.2.2.2.2.2.2.2.2.1=g2k∧s.2.2.2.2.2.2.2.2.2.2.2.1=g2v∧s.2.2.2.2.2.2.2.2.2.2.2.2.1=g3k∧s.2.2.2.2.2.2.2.2.2.2.2.2.2.1=g3v∧s.2.2.2.2.2.2.2.2.2.2.2.2.2.2.1=g4k∧s.2.2.2.2.2.2.2.2.2.2.2.2.2.2.2.1=g4v)∧inv s.2.2.2.2.1,fun s:(List (List Int))×(List Int)×(List (List Int))×Int×Int×Bool×Int×Int×(List (List Int))×(List TQuestion)×(List ByteArray)×(List Int)×(List ByteArray)×(List (List Int))×(List ByteArray)×(List Bool)×Unit=>μ s.2.2.2.2.1,⟨⟨rfl,rfl,rfl,rfl,rfl,rfl,rfl,rfl,rfl,rfl,rfl,rfl,rfl,rfl,rfl⟩,h0⟩,fun(s1p,s2p,s33p,s34p,s35p,h0_0p,h0_1p,h0_2p,h5_0p,g1p,g2kp,g2vp,g3kp,g3vp,g4kp,g4vp,()) ⟨⟨eq0,eq1,eq2,eq3,eq4,eq5,eq6,eq7,eq8,eq9,eq10,eq11,eq12,eq13,eq14⟩,hi⟩=>by
  have eq0:s1p=s1:=eq0;subst s1p;have eq1:s2p=s2:=eq1;subst s2p;have eq2:s33p=s33:=eq2;subst s33p;have eq3:s34p=s34:=eq3;subst s34p;have eq4:h0_0p=h0_0:=eq4;subst h0_0p;have eq5:h0_1p=h0_1:=eq5;subst h0_1p;have eq6:h0_2p=h0_2:=eq6;subst h0_2p;have eq7:h5_0p=h5_0:=eq7;subst h5_0p;have eq8:g1p=g1:=eq8;subst g1p;have eq9:g2kp=g2k:=eq9;subst g2kp;have eq10:g2vp=g2v:=eq10;subst g2vp;have eq11:g3kp=g3k:=eq11;subst g3kp;have eq12:g3vp=g3v:=eq12;subst g3vp;have eq13:g4kp=g4k:=eq13;subst g4kp;have eq14:g4vp=g4v:=eq14;subst g4vp;exact mpr_of (by kernel_rfl) ((congrArg (fun k=>kwt r0 r1 d0_0 d0_1 d0_2 e1 e2k e2v e3k e3v e4k e4v k s1 s2 s33 s34 h0_0 h0_1 h0_2 h5_0 g1 g2k g2v g3k g3v g4k g4v s35p) (lpk1 (⟨rfl,rfl,rfl,rfl,rfl,rfl,rfl,rfl,rfl,rfl,rfl,rfl,rfl,rfl,rfl⟩:s1=s1∧s2=s2∧s33=s33∧s34=s34∧h0_0=h0_0∧h0_1=h0_1∧h0_2=h0_2∧h5_0=h5_0∧g1=g1∧g2k=g2k∧g2v=g2v∧g3k=g3k∧g3v=g3v∧g4k=g4k∧g4v=g4v) inv (fun s35q=>μ s35q<μ s35p))).mpr (hs s35p hi))⟩⟩
def kxc (r0:TTree) (r1:Int) (d0_0:Bool) (d0_1:Int) (d0_2:Int) (e1:List TQuestion) (e2k:List ByteArray) (e2v:List Int) (e3k:List ByteArray) (e3v:List (List Int)) (e4k:List ByteArray) (e4v:List Bool) (k2:Int→Bool→Int→Int→List TQuestion→List ByteArray→List Int→List ByteArray→List (List Int)→List ByteArray→List Bool→List Int→Prop) (s2:List Int) (s47:List (List Int)) (s48:Int) (h5_0:List (List Int)) (s49:Int) (h0_0:Bool) (h0_1:Int) (h0_2:Int) (g1:List TQuestion) (g2k:List ByteArray) (g2v:List Int) (g3k:List ByteArray) (g3v:List (List Int)) (g4k:List ByteArray) (g4v:List Bool) (g6:List Int):Prop:=
(decide (s49<s48)=true→
(0≤s49)∧s49<(s47.length:Int)∧(0≤s49)∧s49<(s2.length:Int)∧((ix s47 s49).length≤1000000000)∧(g1=g1)∧(U64 (16:Int)∧(Us ((ix s2 s49)::(ix s47 s49))∧((ix s2 s49)::(ix s47 s49)).length≤1000000000)∧OOk (OS.mk h0_0 h0_1 h0_2 g1 g2k g2v g3k g3v g4k g4v))∧let r2:=hO (OS.mk h0_0 h0_1 h0_2 g1 g2k g2v g3k g3v g4k g4v) (16:Int) ((ix s2 s49)::(ix s47 s49))
(0≤s49∧s49<(g6.length:Int))∧(0≤s49∧s49<(g6.length:Int))∧(r2.o.q=r2.o.q)∧(g6.length=(g6.set s49.toNat r2.n).length)∧k2 (IntKind.i64.wrap (s49+1):Int) r2.o.a r2.o.b r2.o.c r2.o.q r2.o.k r2.o.v r2.o.s r2.o.t r2.o.x r2.o.y (g6.set s49.toNat r2.n:List Int))∧
(decide (s49<s48)=false→
(g6.length=g6.length)∧(g1=g1)∧([g6]=[g6])∧Md.Loop (g6,h0_0,h0_1,h0_2,h5_0,g1,g2k,g2v,g3k,g3v,g4k,g4v,([g6]:List (List Int)),()) (kc6 (r0.Levels,r1,d0_0,d0_1,d0_2,e1,e2k,e2v,e3k,e3v,e4k,e4v,())))
theorem k196 {r0:TTree} {r1:Int} {d0_0:Bool} {d0_1:Int} {d0_2:Int} {e1:List TQuestion} {e2k:List ByteArray} {e2v:List Int} {e3k:List ByteArray} {e3v:List (List Int)} {e4k:List ByteArray} {e4v:List Bool} {s2:List Int} {s47:List (List Int)} {s48:Int} {h5_0:List (List Int)} {s49:Int} {h0_0:Bool} {h0_1:Int} {h0_2:Int} {g1:List TQuestion} {g2k:List ByteArray} {g2v:List Int} {g3k:List ByteArray} {g3v:List (List Int)} {g4k:List ByteArray} {g4v:List Bool} {g6:List Int} (inv:Int→Bool→Int→Int→List TQuestion→List ByteArray→List Int→List ByteArray→List (List Int)→List ByteArray→List Bool→List Int→Prop) (μ:Int→Bool→Int→Int→List TQuestion→List ByteArray→List Int→List ByteArray→List (List Int)→List ByteArray→List Bool→List Int→Nat) (h0:inv s49 h0_0 h0_1 h0_2 g1 g2k g2v g3k g3v g4k g4v g6) (hs:∀(s49:Int) (h0_0:Bool) (h0_1:Int) (h0_2:Int) (g1:List TQuestion) (g2k:List ByteArray) (g2v:List Int) (g3k:List ByteArray) (g3v:List (List Int)) (g4k:List ByteArray) (g4v:List Bool) (g6:List Int),inv s49 h0_0 h0_1 h0_2 g1 g2k g2v g3k g3v g4k g4v g6→kxc r0 r1 d0_0 d0_1 d0_2 e1 e2k e2v e3k e3v e4k e4v (fun s49q h0_0q h0_1q h0_2q g1q g2kq g2vq g3kq g3vq g4kq g4vq g6q=>inv s49q h0_0q h0_1q h0_2q g1q g2kq g2vq g3kq g3vq g4kq g4vq g6q∧μ s49q h0_0q h0_1q h0_2q g1q g2kq g2vq g3kq g3vq g4kq g4vq g6q<μ s49 h0_0 h0_1 h0_2 g1 g2k g2v g3k g3v g4k g4v g6) s2 s47 s48 h5_0 s49 h0_0 h0_1 h0_2 g1 g2k g2v g3k g3v g4k g4v g6):Md.Loop (s2,s47,s48,s49,h0_0,h0_1,h0_2,h5_0,g1,g2k,g2v,g3k,g3v,g4k,g4v,g6,()) (kbx (r0.Levels,r1,d0_0,d0_1,d0_2,e1,e2k,e2v,e3k,e3v,e4k,e4v,())):=
 ⟨⟨fun s:(List Int)×(List (List Int))×Int×Int×Bool×Int×Int×(List (List Int))×(List TQuestion)×(List ByteArray)×(List Int)×(List ByteArray)×(List (List Int))×(List ByteArray)×(List Bool)×(List Int)×Unit=>(s.1=s2∧s.2.1=s47∧s.2.2.1=s48∧s.2.2.2.2.2.2.2.1=h5_0)∧inv s.2.2.2.1 s.2.2.2.2.1 s.2.2.2.2.2.1 s.2.2.2.2.2.2.1 s.2.2.2.2.2.2.2.2.1 s.2.2.2.2.2.2.2.2.2.1 s.2.2.2.2.2.2.2.2.2.2.1 s.2.2.2.2.2.2.2.2.2.2.2.1 s.2.2.2.2.2.2.2.2.2.2.2.2.1 s.2.2.2.2.2.2.2.2.2.2.2.2.2.1 s.2.2.2.2.2.2.2.2.2.2.2.2.2.2.1 s.2.2.2.2.2.2.2.2.2.2.2.2.2.2.2.1,fun s:(List Int)×(List (List Int))×Int×Int×Bool×Int×Int×(List (List Int))×(List TQuestion)×(List ByteArray)×(List Int)×(List ByteArray)×(List (List Int))×(List ByteArray)×(List Bool)×(List Int)×Unit=>μ s.2.2.2.1 s.2.2.2.2.1 s.2.2.2.2.2.1 s.2.2.2.2.2.2.1 s.2.2.2.2.2.2.2.2.1 s.2.2.2.2.2.2.2.2.2.1 s.2.2.2.2.2.2.2.2.2.2.1 s.2.2.2.2.2.2.2.2.2.2.2.1 s.2.2.2.2.2.2.2.2.2.2.2.2.1 s.2.2.2.2.2.2.2.2.2.2.2.2.2.1 s.2.2.2.2.2.2.2.2.2.2.2.2.2.2.1 s.2.2.2.2.2.2.2.2.2.2.2.2.2.2.2.1,⟨⟨rfl,rfl,rfl,rfl⟩,h0⟩,fun(s2p,s47p,s48p,s49p,h0_0p,h0_1p,h0_2p,h5_0p,g1p,g2kp,g2vp,g3kp,g3vp,g4kp,g4vp,g6p,()) ⟨⟨eq0,eq1,eq2,eq3⟩,hi⟩=>by
  have eq0:s2p=s2:=eq0;subst s2p;have eq1:s47p=s47:=eq1;subst s47p;have eq2:s48p=s48:=eq2;subst s48p;have eq3:h5_0p=h5_0:=eq3;subst h5_0p;exact mpr_of (by kernel_rfl) ((congrArg (fun k=>kxc r0 r1 d0_0 d0_1 d0_2 e1 e2k e2v e3k e3v e4k e4v k s2 s47 s48 h5_0 s49p h0_0p h0_1p h0_2p g1p g2kp g2vp g3kp g3vp g4kp g4vp g6p) (lpk12 (⟨rfl,rfl,rfl,rfl⟩:s2=s2∧s47=s47∧s48=s48∧h5_0=h5_0) inv (fun s49q h0_0q h0_1q h0_2q g1q g2kq g2vq g3kq g3vq g4kq g4vq g6q=>μ s49q h0_0q h0_1q h0_2q g1q g2kq g2vq g3kq g3vq g4kq g4vq g6q<μ s49p h0_0p h0_1p h0_2p g1p g2kp g2vp g3kp g3vp g4kp g4vp g6p))).mpr (hs s49p h0_0p h0_1p h0_2p g1p g2kp g2vp g3kp g3vp g4kp g4vp g6p hi))⟩⟩
def kxh (r0:TTree) (r1:Int) (d0_0:Bool) (d0_1:Int) (d0_2:Int) (e1:List TQuestion) (e2k:List ByteArray) (e2v:List Int) (e3k:List ByteArray) (e3v:List (List Int)) (e4k:List ByteArray) (e4v:List Bool) (nx4:NX TB k29) (k4:List Int→Bool→Int→Int→List TQuestion→List ByteArray→List Int→List ByteArray→List (List Int)→List ByteArray→List Bool→List (List Int)→Prop) (h5_0:List (List Int)) (s10:List Int) (h0_0:Bool) (h0_1:Int) (h0_2:Int) (g1:List TQuestion) (g2k:List ByteArray) (g2v:List Int) (g3k:List ByteArray) (g3v:List (List Int)) (g4k:List ByteArray) (g4v:List Bool) (g9:List (List Int)):Prop:=
(decide (1<(s10.length:Int))=true→
let v3:Int:=IntKind.i64.wrap (Int.tdiv (s10.length:Int) 2)
0≤v3∧v3≤v3∧(v3.toNat*8≤140737488355328)∧(v3.toNat≤maxLen)∧(g1=g1)∧(v3.toNat=(List.replicate v3.toNat (0:Int)).length)∧(g9=g9)∧Md.Loop (s10,((v3.toNat:Int):Int),(0:Int),h0_0,h0_1,h0_2,h5_0,g1,g2k,g2v,g3k,g3v,g4k,g4v,g9,(List.replicate v3.toNat (0:Int):List Int),()) (kbr (r0.Levels,r1,d0_0,d0_1,d0_2,e1,e2k,e2v,e3k,e3v,e4k,e4v,()) nx4))∧
(decide (1<(s10.length:Int))=false→
(g1=g1)∧g9=r0.Levels∧0=r1∧h0_0=d0_0∧h0_1=d0_1∧h0_2=d0_2∧g1=e1∧g2k=e2k∧g2v=e2v∧g3k=e3k∧g3v=e3v∧g4k=e4k∧g4v=e4v)
theorem k194 {r0:TTree} {r1:Int} {d0_0:Bool} {d0_1:Int} {d0_2:Int} {e1:List TQuestion} {e2k:List ByteArray} {e2v:List Int} {e3k:List ByteArray} {e3v:List (List Int)} {e4k:List ByteArray} {e4v:List Bool} {h5_0:List (List Int)} {s10:List Int} {h0_0:Bool} {h0_1:Int} {h0_2:Int} {g1:List TQuestion} {g2k:List ByteArray} {g2v:List Int} {g3k:List ByteArray} {g3v:List (List Int)} {g4k:List ByteArray} {g4v:List Bool} {g9:List (List Int)} (inv:List Int→Bool→Int→Int→List TQuestion→List ByteArray→List Int→List ByteArray→List (List Int)→List ByteArray→List Bool→List (List Int)→Prop) (μ:List Int→Bool→Int→Int→List TQuestion→List ByteArray→List Int→List ByteArray→List (List Int)→List ByteArray→List Bool→List (List Int)→Nat) (h0:inv s10 h0_0 h0_1 h0_2 g1 g2k g2v g3k g3v g4k g4v g9) (hs:∀(s10:List Int) (h0_0:Bool) (h0_1:Int) (h0_2:Int) (g1:List TQuestion) (g2k:List ByteArray) (g2v:List Int) (g3k:List ByteArray) (g3v:List (List Int)) (g4k:List ByteArray) (g4v:List Bool) (g9:List (List Int)),inv s10 h0_0 h0_1 h0_2 g1 g2k g2v g3k g3v g4k g4v g9→kxh r0 r1 d0_0 d0_1 d0_2 e1 e2k e2v e3k e3v e4k e4v (fun s:(List Int)×Bool×Int×Int×(List (List Int))×(List TQuestion)×(List ByteArray)×(List Int)×(List ByteArray)×(List (List Int))×(List ByteArray)×(List Bool)×(List (List Int))×Unit=>((s.2.2.2.2.1=h5_0)∧inv s.1 s.2.1 s.2.2.1 s.2.2.2.1 s.2.2.2.2.2.1 s.2.2.2.2.2.2.1 s.2.2.2.2.2.2.2.1 s.2.2.2.2.2.2.2.2.1 s.2.2.2.2.2.2.2.2.2.1 s.2.2.2.2.2.2.2.2.2.2.1 s.2.2.2.2.2.2.2.2.2.2.2.1 s.2.2.2.2.2.2.2.2.2.2.2.2.1)∧μ s.1 s.2.1 s.2.2.1 s.2.2.2.1 s.2.2.2.2.2.1 s.2.2.2.2.2.2.1 s.2.2.2.2.2.2.2.1 s.2.2.2.2.2.2.2.2.1 s.2.2.2.2.2.2.2.2.2.1 s.2.2.2.2.2.2.2.2.2.2.1 s.2.2.2.2.2.2.2.2.2.2.2.1 s.2.2.2.2.2.2.2.2.2.2.2.2.1<μ s10 h0_0 h0_1 h0_2 g1 g2k g2v g3k g3v g4k g4v g9) (fun s10q h0_0q h0_1q h0_2q g1q g2kq g2vq g3kq g3vq g4kq g4vq g9q=>inv s10q h0_0q h0_1q h0_2q g1q g2kq g2vq g3kq g3vq g4kq g4vq g9q∧μ s10q h0_0q h0_1q h0_2q g1q g2kq g2vq g3kq g3vq g4kq g4vq g9q<μ s10 h0_0 h0_1 h0_2 g1 g2k g2v g3k g3v g4k g4v g9) h5_0 s10 h0_0 h0_1 h0_2 g1 g2k g2v g3k g3v g4k g4v g9):Md.Loop (s10,h0_0,h0_1,h0_2,h5_0,g1,g2k,g2v,g3k,g3v,g4k,g4v,g9,()) (kc6 (r0.Levels,r1,d0_0,d0_1,d0_2,e1,e2k,e2v,e3k,e3v,e4k,e4v,())):=
 ⟨⟨fun s:(List Int)×Bool×Int×Int×(List (List Int))×(List TQuestion)×(List ByteArray)×(List Int)×(List ByteArray)×(List (List Int))×(List ByteArray)×(List Bool)×(List (List Int))×Unit=>(s.2.2.2.2.1=h5_0)∧inv s.1 s.2.1 s.2.2.1 s.2.2.2.1 s.2.2.2.2.2.1 s.2.2.2.2.2.2.1 s.2.2.2.2.2.2.2.1 s.2.2.2.2.2.2.2.2.1 s.2.2.2.2.2.2.2.2.2.1 s.2.2.2.2.2.2.2.2.2.2.1 s.2.2.2.2.2.2.2.2.2.2.2.1 s.2.2.2.2.2.2.2.2.2.2.2.2.1,fun s:(List Int)×Bool×Int×Int×(List (List Int))×(List TQuestion)×(List ByteArray)×(List Int)×(List ByteArray)×(List (List Int))×(List ByteArray)×(List Bool)×(List (List Int))×Unit=>μ s.1 s.2.1 s.2.2.1 s.2.2.2.1 s.2.2.2.2.2.1 s.2.2.2.2.2.2.1 s.2.2.2.2.2.2.2.1 s.2.2.2.2.2.2.2.2.1 s.2.2.2.2.2.2.2.2.2.1 s.2.2.2.2.2.2.2.2.2.2.1 s.2.2.2.2.2.2.2.2.2.2.2.1 s.2.2.2.2.2.2.2.2.2.2.2.2.1,⟨rfl,h0⟩,fun(s10p,h0_0p,h0_1p,h0_2p,h5_0p,g1p,g2kp,g2vp,g3kp,g3vp,g4kp,g4vp,g9p,()) ⟨eq0,hi⟩=>by
  have eq0:h5_0p=h5_0:=eq0;subst h5_0p;exact mpr_of (by kernel_rfl) ((congrArg (fun k=>kxh r0 r1 d0_0 d0_1 d0_2 e1 e2k e2v e3k e3v e4k e4v (fun s:(List Int)×Bool×Int×Int×(List (List Int))×(List TQuestion)×(List ByteArray)×(List Int)×(List ByteArray)×(List (List Int))×(List ByteArray)×(List Bool)×(List (List Int))×Unit=>((s.2.2.2.2.1=h5_0)∧inv s.1 s.2.1 s.2.2.1 s.2.2.2.1 s.2.2.2.2.2.1 s.2.2.2.2.2.2.1 s.2.2.2.2.2.2.2.1 s.2.2.2.2.2.2.2.2.1 s.2.2.2.2.2.2.2.2.2.1 s.2.2.2.2.2.2.2.2.2.2.1 s.2.2.2.2.2.2.2.2.2.2.2.1 s.2.2.2.2.2.2.2.2.2.2.2.2.1)∧μ s.1 s.2.1 s.2.2.1 s.2.2.2.1 s.2.2.2.2.2.1 s.2.2.2.2.2.2.1 s.2.2.2.2.2.2.2.1 s.2.2.2.2.2.2.2.2.1 s.2.2.2.2.2.2.2.2.2.1 s.2.2.2.2.2.2.2.2.2.2.1 s.2.2.2.2.2.2.2.2.2.2.2.1 s.2.2.2.2.2.2.2.2.2.2.2.2.1<μ s10p h0_0p h0_1p h0_2p g1p g2kp g2vp g3kp g3vp g4kp g4vp g9p) k h5_0 s10p h0_0p h0_1p h0_2p g1p g2kp g2vp g3kp g3vp g4kp g4vp g9p) (lpk12 (rfl:h5_0=h5_0) inv (fun s10q h0_0q h0_1q h0_2q g1q g2kq g2vq g3kq g3vq g4kq g4vq g9q=>μ s10q h0_0q h0_1q h0_2q g1q g2kq g2vq g3kq g3vq g4kq g4vq g9q<μ s10p h0_0p h0_1p h0_2p g1p g2kp g2vp g3kp g3vp g4kp g4vp g9p))).mpr (hs s10p h0_0p h0_1p h0_2p g1p g2kp g2vp g3kp g3vp g4kp g4vp g9p hi))⟩⟩
def kwv (r0:TTree) (r1:Int) (d0_0:Bool) (d0_1:Int) (d0_2:Int) (e1:List TQuestion) (e2k:List ByteArray) (e2v:List Int) (e3k:List ByteArray) (e3v:List (List Int)) (e4k:List ByteArray) (e4v:List Bool) (nx4:NX TB k29) (k3:Int→Bool→Int→Int→List TQuestion→List ByteArray→List Int→List ByteArray→List (List Int)→List ByteArray→List Bool→List Int→Prop) (s10:List Int) (s76:Int) (h5_0:List (List Int)) (g9:List (List Int)) (s77:Int) (h0_0:Bool) (h0_1:Int) (h0_2:Int) (g1:List TQuestion) (g2k:List ByteArray) (g2v:List Int) (g3k:List ByteArray) (g3v:List (List Int)) (g4k:List ByteArray) (g4v:List Bool) (g10:List Int):Prop:=
(decide (s77<s76)=true→
(0≤IntKind.i64.wrap (2*s77))∧IntKind.i64.wrap (2*s77)<(s10.length:Int)∧let v4:Int:=IntKind.i64.wrap ((IntKind.i64.wrap (2*s77))+1)
(0≤v4)∧v4<(s10.length:Int)∧(g1=g1)∧(U64 (17:Int)∧(Us [ix s10 (IntKind.i64.wrap (2*s77)),ix s10 v4]∧[ix s10 (IntKind.i64.wrap (2*s77)),ix s10 v4].length≤1000000000)∧OOk (OS.mk h0_0 h0_1 h0_2 g1 g2k g2v g3k g3v g4k g4v))∧let r5:=hO (OS.mk h0_0 h0_1 h0_2 g1 g2k g2v g3k g3v g4k g4v) (17:Int) [ix s10 (IntKind.i64.wrap (2*s77)),ix s10 v4]
(0≤s77∧s77<(g10.length:Int))∧(0≤s77∧s77<(g10.length:Int))∧(r5.o.q=r5.o.q)∧(g10.length=(g10.set s77.toNat r5.n).length)∧(g9=g9)∧k3 (IntKind.i64.wrap (s77+1):Int) r5.o.a r5.o.b r5.o.c r5.o.q r5.o.k r5.o.v r5.o.s r5.o.t r5.o.x r5.o.y (g10.set s77.toNat r5.n:List Int))∧
(decide (s77<s76)=false→
(g10.length=g10.length)∧g9.length=g9.length∧(g9.length+[g10].length)*24≤140737488355328∧g9.length+[g10].length≤maxLen∧(g1=g1)∧(g9++[g10]=g9++[g10])∧nx4 (g10,h0_0,h0_1,h0_2,h5_0,g1,g2k,g2v,g3k,g3v,g4k,g4v,(g9++[g10]:List (List Int)),()))
theorem k18g {r0:TTree} {r1:Int} {d0_0:Bool} {d0_1:Int} {d0_2:Int} {e1:List TQuestion} {e2k:List ByteArray} {e2v:List Int} {e3k:List ByteArray} {e3v:List (List Int)} {e4k:List ByteArray} {e4v:List Bool} {nx4:NX TB k29} {s10:List Int} {s76:Int} {h5_0:List (List Int)} {g9:List (List Int)} {s77:Int} {h0_0:Bool} {h0_1:Int} {h0_2:Int} {g1:List TQuestion} {g2k:List ByteArray} {g2v:List Int} {g3k:List ByteArray} {g3v:List (List Int)} {g4k:List ByteArray} {g4v:List Bool} {g10:List Int} (inv:Int→Bool→Int→Int→List TQuestion→List ByteArray→List Int→List ByteArray→List (List Int)→List ByteArray→List Bool→List Int→Prop) (μ:Int→Bool→Int→Int→List TQuestion→List ByteArray→List Int→List ByteArray→List (List Int)→List ByteArray→List Bool→List Int→Nat) (h0:inv s77 h0_0 h0_1 h0_2 g1 g2k g2v g3k g3v g4k g4v g10) (hs:∀(s77:Int) (h0_0:Bool) (h0_1:Int) (h0_2:Int) (g1:List TQuestion) (g2k:List ByteArray) (g2v:List Int) (g3k:List ByteArray) (g3v:List (List Int)) (g4k:List ByteArray) (g4v:List Bool) (g10:List Int),inv s77 h0_0 h0_1 h0_2 g1 g2k g2v g3k g3v g4k g4v g10→kwv r0 r1 d0_0 d0_1 d0_2 e1 e2k e2v e3k e3v e4k e4v nx4 (fun s77q h0_0q h0_1q h0_2q g1q g2kq g2vq g3kq g3vq g4kq g4vq g10q=>inv s77q h0_0q h0_1q h0_2q g1q g2kq g2vq g3kq g3vq g4kq g4vq g10q∧μ s77q h0_0q h0_1q h0_2q g1q g2kq g2vq g3kq g3vq g4kq g4vq g10q<μ s77 h0_0 h0_1 h0_2 g1 g2k g2v g3k g3v g4k g4v g10) s10 s76 h5_0 g9 s77 h0_0 h0_1 h0_2 g1 g2k g2v g3k g3v g4k g4v g10):Md.Loop (s10,s76,s77,h0_0,h0_1,h0_2,h5_0,g1,g2k,g2v,g3k,g3v,g4k,g4v,g9,g10,()) (kbr (r0.Levels,r1,d0_0,d0_1,d0_2,e1,e2k,e2v,e3k,e3v,e4k,e4v,()) nx4):=
 ⟨⟨fun s:(List Int)×Int×Int×Bool×Int×Int×(List (List Int))×(List TQuestion)×(List ByteArray)×(List Int)×(List ByteArray)×(List (List Int))×(List ByteArray)×(List Bool)×(List (List Int))×(List Int)×Unit=>(s.1=s10∧s.2.1=s76∧s.2.2.2.2.2.2.1=h5_0∧s.2.2.2.2.2.2.2.2.2.2.2.2.2.2.1=g9)∧inv s.2.2.1 s.2.2.2.1 s.2.2.2.2.1 s.2.2.2.2.2.1 s.2.2.2.2.2.2.2.1 s.2.2.2.2.2.2.2.2.1 s.2.2.2.2.2.2.2.2.2.1 s.2.2.2.2.2.2.2.2.2.2.1 s.2.2.2.2.2.2.2.2.2.2.2.1 s.2.2.2.2.2.2.2.2.2.2.2.2.1 s.2.2.2.2.2.2.2.2.2.2.2.2.2.1 s.2.2.2.2.2.2.2.2.2.2.2.2.2.2.2.1,fun s:(List Int)×Int×Int×Bool×Int×Int×(List (List Int))×(List TQuestion)×(List ByteArray)×(List Int)×(List ByteArray)×(List (List Int))×(List ByteArray)×(List Bool)×(List (List Int))×(List Int)×Unit=>μ s.2.2.1 s.2.2.2.1 s.2.2.2.2.1 s.2.2.2.2.2.1 s.2.2.2.2.2.2.2.1 s.2.2.2.2.2.2.2.2.1 s.2.2.2.2.2.2.2.2.2.1 s.2.2.2.2.2.2.2.2.2.2.1 s.2.2.2.2.2.2.2.2.2.2.2.1 s.2.2.2.2.2.2.2.2.2.2.2.2.1 s.2.2.2.2.2.2.2.2.2.2.2.2.2.1 s.2.2.2.2.2.2.2.2.2.2.2.2.2.2.2.1,⟨⟨rfl,rfl,rfl,rfl⟩,h0⟩,fun(s10p,s76p,s77p,h0_0p,h0_1p,h0_2p,h5_0p,g1p,g2kp,g2vp,g3kp,g3vp,g4kp,g4vp,g9p,g10p,()) ⟨⟨eq0,eq1,eq2,eq3⟩,hi⟩=>by
  have eq0:s10p=s10:=eq0;subst s10p;have eq1:s76p=s76:=eq1;subst s76p;have eq2:h5_0p=h5_0:=eq2;subst h5_0p;have eq3:g9p=g9:=eq3;subst g9p;exact mpr_of (by kernel_rfl) ((congrArg (fun k=>kwv r0 r1 d0_0 d0_1 d0_2 e1 e2k e2v e3k e3v e4k e4v nx4 k s10 s76 h5_0 g9 s77p h0_0p h0_1p h0_2p g1p g2kp g2vp g3kp g3vp g4kp g4vp g10p) (lpk12 (⟨rfl,rfl,rfl,rfl⟩:s10=s10∧s76=s76∧h5_0=h5_0∧g9=g9) inv (fun s77q h0_0q h0_1q h0_2q g1q g2kq g2vq g3kq g3vq g4kq g4vq g10q=>μ s77q h0_0q h0_1q h0_2q g1q g2kq g2vq g3kq g3vq g4kq g4vq g10q<μ s77p h0_0p h0_1p h0_2p g1p g2kp g2vp g3kp g3vp g4kp g4vp g10p))).mpr (hs s77p h0_0p h0_1p h0_2p g1p g2kp g2vp g3kp g3vp g4kp g4vp g10p hi))⟩⟩
theorem bd8:Callable Try.prog 8:=⟨by rw[Try.func8];kernel_rfl,by rw[Try.func8];show some _≠some _;decide⟩
theorem k16r (p1:List (List Int)) (p2:List Int) (c0_0:Bool) (c0_1:Int) (c0_2:Int) (w1:List TQuestion) (w2k:List ByteArray) (w2v:List Int) (w3k:List ByteArray) (w3v:List (List Int)) (w4k:List ByteArray) (w4v:List Bool) (h:((p1.length≤1000000∧∀l∈p1,Us l∧l.length≤99999999)∧Us p2∧p2.length≤1000000)∧OOk (OS.mk c0_0 c0_1 c0_2 w1 w2k w2v w3k w3v w4k w4v)∧w1.length≤800000):kjq (p1,p2,c0_0,c0_1,c0_2,w1,w2k,w2v,w3k,w3v,w4k,w4v,()) ((((comO (OS.mk c0_0 c0_1 c0_2 w1 w2k w2v w3k w3v w4k w4v) p1 p2).t).Levels:List (List Int)),(((comO (OS.mk c0_0 c0_1 c0_2 w1 w2k w2v w3k w3v w4k w4v) p1 p2).e):Int),(((comO (OS.mk c0_0 c0_1 c0_2 w1 w2k w2v w3k w3v w4k w4v) p1 p2).o.a):Bool),(((comO (OS.mk c0_0 c0_1 c0_2 w1 w2k w2v w3k w3v w4k w4v) p1 p2).o.b):Int),(((comO (OS.mk c0_0 c0_1 c0_2 w1 w2k w2v w3k w3v w4k w4v) p1 p2).o.c):Int),(((comO (OS.mk c0_0 c0_1 c0_2 w1 w2k w2v w3k w3v w4k w4v) p1 p2).o.q):List TQuestion),(((comO (OS.mk c0_0 c0_1 c0_2 w1 w2k w2v w3k w3v w4k w4v) p1 p2).o.k):List ByteArray),(((comO (OS.mk c0_0 c0_1 c0_2 w1 w2k w2v w3k w3v w4k w4v) p1 p2).o.v):List Int),(((comO (OS.mk c0_0 c0_1 c0_2 w1 w2k w2v w3k w3v w4k w4v) p1 p2).o.s):List ByteArray),(((comO (OS.mk c0_0 c0_1 c0_2 w1 w2k w2v w3k w3v w4k w4v) p1 p2).o.t):List (List Int)),(((comO (OS.mk c0_0 c0_1 c0_2 w1 w2k w2v w3k w3v w4k w4v) p1 p2).o.x):List ByteArray),(((comO (OS.mk c0_0 c0_1 c0_2 w1 w2k w2v w3k w3v w4k w4v) p1 p2).o.y):List Bool),()):=by
 obtain⟨⟨⟨h1,h2⟩,h3,h3'⟩,h4,h5⟩:=h
 generalize hA:comO (OS.mk c0_0 c0_1 c0_2 w1 w2k w2v w3k w3v w4k w4v) p1 p2=A
 have bad:comOk p1 p2=false→A=⟨⟨[]⟩,1,OS.mk c0_0 c0_1 c0_2 w1 w2k w2v w3k w3v w4k w4v⟩:=fun hb=>by rw[←hA];exact if_neg (by rw[hb];decide)
 have jt:comOk p1 p2=false→k8d (A.t.Levels,A.e,A.o.a,A.o.b,A.o.c,A.o.q,A.o.k,A.o.v,A.o.s,A.o.t,A.o.x,A.o.y,()) (p1,p2,true,c0_0,c0_1,c0_2,([]:List (List Int)),w1,w2k,w2v,w3k,w3v,w4k,w4v,()):=by
  intro hb
  rw[bad hb]
  exact krz (r0:=⟨[]⟩) ⟨fun _=>⟨rfl,rfl,rfl,rfl,rfl,rfl,rfl,rfl,rfl,rfl,rfl,rfl,rfl⟩,fun h=>by cases h⟩
 refine k1ad (r0:=A.t) ⟨fun e=>⟨rfl,jt ?_⟩,fun e=>⟨fun e2=>⟨rfl,jt ?_⟩,fun e2=>⟨by omega,rfl,?_⟩⟩⟩
 ·have e:isNum (p1.length:Int)=false:=by simpa using e
  unfold comOk;rw[e];rfl
 ·have e:isNum (p1.length:Int)=true:=by simpa using e
  have e2:((p2.length:Int)==(p1.length:Int))=false:=by simpa using e2
  unfold comOk;rw[e,e2];rfl
 have e:isNum (p1.length:Int)=true:=by simpa using e
 have e2:((p2.length:Int)==(p1.length:Int))=true:=by simpa using e2
 cases e3:allB p2 with
 |false=>exact jt (by unfold comOk;rw[e,e2,e3];rfl)
 |true=>
 refine krz (r0:=A.t) ⟨(fun h=>by cases h),fun _=>⟨rfl,?_⟩⟩
 refine k19i (r0:=A.t) (AllI allB p1) (fun i=>(p1.length-i).toNat) AllI.start ?_
 intro i hi
 refine⟨fun hh=> ?_,fun hh=> ?_⟩
 ·have hh:=of_decide_eq_true hh
  have hl:=h2 _ (ix_mem p1 i hi.1 hh)
  refine⟨hi.1,hh,by omega,fun e4=> ?_,fun e4=> ?_⟩
  ·have e4:allB (ix p1 i)=false:=by simpa using e4
   have:=hi.bad hh e4
   rw[bad (by unfold comOk;rw[e,e2,e3,this];rfl)]
   exact⟨rfl,rfl,rfl,rfl,rfl,rfl,rfl,rfl,rfl,rfl,rfl,rfl,rfl⟩
  ·have e4:allB (ix p1 i)=true:=by simpa using e4
   exact⟨rfl,hi.next hh (by omega) e4⟩
 have hh:=of_decide_eq_false hh
 have hall:=hi.done hh
 have hok:comOk p1 p2=true:=by unfold comOk;rw[e,e2,e3,hall];rfl
 have hg:A=⟨⟨(lvlO 1024 (leafO (OS.mk c0_0 c0_1 c0_2 w1 w2k w2v w3k w3v w4k w4v) p2 p1).o (leafO (OS.mk c0_0 c0_1 c0_2 w1 w2k w2v w3k w3v w4k w4v) p2 p1).g).g⟩,0,(lvlO 1024 (leafO (OS.mk c0_0 c0_1 c0_2 w1 w2k w2v w3k w3v w4k w4v) p2 p1).o (leafO (OS.mk c0_0 c0_1 c0_2 w1 w2k w2v w3k w3v w4k w4v) p2 p1).g).o⟩:=by
  rw[←hA];exact if_pos hok
 clear hA bad jt
 obtain⟨n1,n2,n3,_,_⟩:=kn3 hok
 have hlen:=kxf p2 p1 (OS.mk c0_0 c0_1 c0_2 w1 w2k w2v w3k w3v w4k w4v) n1
 have hLok:=k117 p2 p1 (OS.mk c0_0 c0_1 c0_2 w1 w2k w2v w3k w3v w4k w4v) h4 (fun l hl=>by have:=(h2 l hl).2;omega) (by show w1.length+_≤_;omega)
 generalize hL:leafO (OS.mk c0_0 c0_1 c0_2 w1 w2k w2v w3k w3v w4k w4v) p2 p1=L at *
 obtain⟨L1,L2,L3⟩:=hLok
 have L2:L.o.q.length≤w1.length+p1.length:=L2
 refine⟨by omega,by omega,by omega,by unfold maxLen;omega,rfl,by simp,?_⟩
 refine k196 (r0:=A.t) (fun i a b c q k v s t x y g=>(0≤i∧i≤p1.length)∧(OOk (OS.mk a b c q k v s t x y)∧q.length≤800000+i.toNat)∧(g.length=p1.length)∧(leafO (OS.mk a b c q k v s t x y) (p2.drop i.toNat) (p1.drop i.toNat)).o=L.o∧g.take i.toNat++(leafO (OS.mk a b c q k v s t x y) (p2.drop i.toNat) (p1.drop i.toNat)).g=L.g)
  (fun i _ _ _ _ _ _ _ _ _ _ _=>(p1.length-i).toNat) ⟨⟨by omega,by omega⟩,⟨h4,by omega⟩,by simp,by rw[←hL];rfl,by rw[←hL];rfl⟩ ?_
 rintro i a b c q k v s t x y g ⟨⟨g0,g1⟩,⟨g2,g3⟩,g4,g5,g6⟩
 refine⟨fun hh=> ?_,fun hh=> ?_⟩
 ·have hh:=of_decide_eq_true hh
  have hl:=h2 _ (ix_mem p1 i g0 hh)
  have hs:=h3 _ (ix_mem p2 i g0 (by omega))
  have hus:Us (ix p2 i::ix p1 i):=us_cons hs hl.1
  have hle:(ix p2 i::ix p1 i).length≤1000000000:=by simp;omega
  rw[drop_ix p1 i g0 hh,drop_ix p2 i g0 (by omega)]at g5 g6
  refine⟨g0,hh,g0,by omega,by omega,rfl,⟨by decide,⟨hus,hle⟩,g2⟩,?_⟩
  dsimp only
  obtain⟨q1,q2,q3⟩:=g2.h 16 hle (show q.length≤999999 by omega)
  have q3:(hO (OS.mk a b c q k v s t x y) 16 (ix p2 i::ix p1 i)).o.q.length≤q.length+1:=q3
  refine⟨⟨g0,by omega⟩,⟨g0,by omega⟩,rfl,by rw[List.length_set],?_⟩
  rw[inc i p1.length g0 hh (by omega)]
  refine⟨⟨⟨by omega,by omega⟩,⟨q1,by omega⟩,by rw[List.length_set];exact g4,g5,?_⟩,by omega⟩
  rw[←g6,show(i+1).toNat=i.toNat+1 by omega,List.take_succ_eq_append_getElem (by rw[List.length_set];omega),List.getElem_set_self,List.take_set_of_le (Nat.le_refl _),List.append_assoc]
  rfl
 have hh:=of_decide_eq_false hh
 rw[List.drop_eq_nil_of_le (show p1.length≤i.toNat by omega),List.drop_eq_nil_of_le (show p2.length≤i.toNat by omega),List.take_of_length_le (by omega)]at g6
 rw[List.drop_eq_nil_of_le (show p1.length≤i.toNat by omega),List.drop_eq_nil_of_le (show p2.length≤i.toNat by omega)]at g5
 have g5:(OS.mk a b c q k v s t x y)=L.o:=g5
 have g6:g=L.g:=by rw[←g6];exact(List.append_nil g).symm
 refine⟨rfl,rfl,rfl,?_⟩
 refine k194 (r0:=A.t) (fun l a b c q k v s t x y z=>∃n z0,(1≤l.length∧l.length≤n∧l.length≤1024∧n≤1024)∧(OOk (OS.mk a b c q k v s t x y)∧q.length+2*l.length≤900000)∧Us l∧z=z0++[l]∧z0.length+n≤2048∧A=⟨⟨z0++(lvlO n (OS.mk a b c q k v s t x y) l).g⟩,0,(lvlO n (OS.mk a b c q k v s t x y) l).o⟩)
  (fun l _ _ _ _ _ _ _ _ _ _ _=>l.length) ⟨1024,[],⟨by omega,by omega,by omega,by omega⟩,⟨g2,by omega⟩,by rw[g6];exact L3,rfl,by simp,by rw[g5,g6];exact hg⟩ ?_
 clear hg g0 g1 g2 g3 g4 g5 g6 hh
 rintro l a b c q k v s t x y z ⟨n,z0,⟨g0,g1,g1',g1''⟩,⟨g2,g3⟩,g4,rfl,g5,g6⟩
 refine⟨fun hh=> ?_,fun hh=> ?_⟩
 ·have hh:=of_decide_eq_true hh
  obtain⟨m,rfl⟩:∃m,n=m+1:=⟨n-1,by omega⟩
  have e5:IntKind.i64.wrap (Int.tdiv (l.length:Int) 2)=(l.length:Int)/2:=by rw[tdiv_nn _ _ (by omega),wi _ (by omega) (by omega)]
  dsimp only
  rw[e5]
  have hPl:=kxm l (OS.mk a b c q k v s t x y)
  have hPok:=k10s l (OS.mk a b c q k v s t x y) g2 (by show q.length+_≤_;omega)
  have e6:A=⟨⟨z0++l::(lvlO m (pairO (OS.mk a b c q k v s t x y) l).o (pairO (OS.mk a b c q k v s t x y) l).g).g⟩,0,(lvlO m (pairO (OS.mk a b c q k v s t x y) l).o (pairO (OS.mk a b c q k v s t x y) l).g).o⟩:=by
   rw[g6,show lvlO (m+1) (OS.mk a b c q k v s t x y) l=⟨(lvlO m (pairO (OS.mk a b c q k v s t x y) l).o (pairO (OS.mk a b c q k v s t x y) l).g).o,l::(lvlO m (pairO (OS.mk a b c q k v s t x y) l).o (pairO (OS.mk a b c q k v s t x y) l).g).g⟩from if_pos (by omega)]
  clear g6
  generalize hP:pairO (OS.mk a b c q k v s t x y) l=P at *
  obtain⟨P1,P2,P3⟩:=hPok
  have P2:P.o.q.length≤q.length+l.length/2:=P2
  refine⟨by omega,by omega,by omega,by unfold maxLen;omega,rfl,by simp,rfl,?_⟩
  have hN:((((l.length:Int)/2).toNat:Nat):Int)=(l.length:Int)/2:=by omega
  refine k18g (r0:=A.t) (fun i a b c q k v s t x y g=>(0≤i∧i≤(l.length:Int)/2)∧(OOk (OS.mk a b c q k v s t x y)∧q.length≤900000+i.toNat)∧(g.length=l.length/2)∧(pairO (OS.mk a b c q k v s t x y) (l.drop (2*i.toNat))).o=P.o∧g.take i.toNat++(pairO (OS.mk a b c q k v s t x y) (l.drop (2*i.toNat))).g=P.g)
   (fun i _ _ _ _ _ _ _ _ _ _ _=>((l.length:Int)/2-i).toNat) ⟨⟨by omega,by omega⟩,⟨g2,by omega⟩,by simp;omega,by rw[←hP];rfl,by rw[←hP];rfl⟩ ?_
  rintro i a b c q k v s t x y g ⟨⟨k0,k1⟩,⟨k2,k3⟩,k4,k5,k6⟩
  refine⟨fun hi=> ?_,fun hi=> ?_⟩
  ·have hi:=of_decide_eq_true hi
   have e7:IntKind.i64.wrap (2*i)=2*i:=wi _ (by omega) (by omega)
   have e8:IntKind.i64.wrap (2*i+1)=2*i+1:=wi _ (by omega) (by omega)
   rw[e7,e8]
   have d1:l.drop (2*i.toNat)=ix l (2*i)::ix l (2*i+1)::l.drop (2*(i+1).toNat):=by
    rw[show 2*i.toNat=(2*i).toNat by omega,drop_ix l (2*i) (by omega) (by omega),drop_ix l (2*i+1) (by omega) (by omega),show(2*i+1+1).toNat=2*(i+1).toNat by omega]
   rw[d1]at k5 k6
   have hus:Us [ix l (2*i),ix l (2*i+1)]:=fun w hw=>by
    simp at hw
    rcases hw with rfl|rfl
    ·exact g4 _ (ix_mem _ _ (by omega) (by omega))
    ·exact g4 _ (ix_mem _ _ (by omega) (by omega))
   refine⟨by omega,by omega,?_⟩
   dsimp only
   obtain⟨q1,q2,q3⟩:=k2.h 17 (l:=[ix l (2*i),ix l (2*i+1)]) (by simp) (show q.length≤999999 by omega)
   have q3:(hO (OS.mk a b c q k v s t x y) 17 [ix l (2*i),ix l (2*i+1)]).o.q.length≤q.length+1:=q3
   refine⟨by omega,by omega,rfl,⟨by decide,⟨hus,by simp⟩,k2⟩,⟨k0,by omega⟩,⟨k0,by omega⟩,rfl,by rw[List.length_set],rfl,?_⟩
   rw[wi (i+1) (by omega) (by omega)]
   refine⟨⟨⟨by omega,by omega⟩,⟨q1,by omega⟩,by rw[List.length_set];exact k4,k5,?_⟩,by omega⟩
   rw[←k6,show(i+1).toNat=i.toNat+1 by omega,List.take_succ_eq_append_getElem (by rw[List.length_set];omega),List.getElem_set_self,List.take_set_of_le (Nat.le_refl _),List.append_assoc]
   rfl
  ·have hi:=of_decide_eq_false hi
   have d0:∀o:OS,(pairO o (l.drop (2*i.toNat)))=⟨o,[]⟩:=by
    intro o
    have:(l.drop (2*i.toNat)).length≤1:=by rw[List.length_drop];omega
    match l.drop (2*i.toNat),this with
    |[],_=>rfl
    |[w],_=>simp[pairO]
   rw[d0]at k5 k6
   have k5:(OS.mk a b c q k v s t x y)=P.o:=k5
   rw[List.take_of_length_le (by omega)]at k6
   have k6:g=P.g:=by rw[←k6];exact(List.append_nil g).symm
   refine⟨rfl,rfl,by simp;omega,by simp;unfold maxLen;omega,rfl,rfl,?_⟩
   refine⟨⟨?_,?_⟩,?_⟩
   ·trivial
   ·refine⟨m,z0++[l],⟨by rw[k4];omega,by rw[k4];omega,by rw[k4];omega,by omega⟩,⟨k2,?_⟩,by rw[k6];exact P3,rfl,by simp;omega,?_⟩
    ·have:q.length=P.o.q.length:=by rw[←k5]
     show q.length+2*g.length≤900000
     rw[k4];omega
    ·rw[k5,k6,e6];simp
   ·show g.length<l.length
    rw[k4];omega
 ·have hh:=of_decide_eq_false hh
  have e6:A=⟨⟨z0++[l]⟩,0,OS.mk a b c q k v s t x y⟩:=by
   rw[g6]
   cases n with
   |zero=>rfl
   |succ n=>unfold lvlO;rw[if_neg (by omega)]
  rw[e6]
  exact⟨rfl,rfl,rfl,rfl,rfl,rfl,rfl,rfl,rfl,rfl,rfl,rfl,rfl⟩
noncomputable def kkk:Con TB.den:=k26.fnR (fun x=>(fun(p1:List (List Int)) (p2:List Int) (c0_0:Bool) (c0_1:Int) (c0_2:Int) (w1:List TQuestion) (w2k:List ByteArray) (w2v:List Int) (w3k:List ByteArray) (w3v:List (List Int)) (w4k:List ByteArray) (w4v:List Bool)=>((p1.length≤1000000∧∀l∈p1,Us l∧l.length≤99999999)∧Us p2∧p2.length≤1000000)∧OOk (OS.mk c0_0 c0_1 c0_2 w1 w2k w2v w3k w3v w4k w4v)∧w1.length≤800000) x.1 x.2.1 x.2.2.1 x.2.2.2.1 x.2.2.2.2.1 x.2.2.2.2.2.1 x.2.2.2.2.2.2.1 x.2.2.2.2.2.2.2.1 x.2.2.2.2.2.2.2.2.1 x.2.2.2.2.2.2.2.2.2.1 x.2.2.2.2.2.2.2.2.2.2.1 x.2.2.2.2.2.2.2.2.2.2.2.1) fun x=>(fun(p1:List (List Int)) (p2:List Int) (c0_0:Bool) (c0_1:Int) (c0_2:Int) (w1:List TQuestion) (w2k:List ByteArray) (w2v:List Int) (w3k:List ByteArray) (w3v:List (List Int)) (w4k:List ByteArray) (w4v:List Bool)=>((((comO (OS.mk c0_0 c0_1 c0_2 w1 w2k w2v w3k w3v w4k w4v) p1 p2).t).Levels:List (List Int)),(((comO (OS.mk c0_0 c0_1 c0_2 w1 w2k w2v w3k w3v w4k w4v) p1 p2).e):Int),(((comO (OS.mk c0_0 c0_1 c0_2 w1 w2k w2v w3k w3v w4k w4v) p1 p2).o.a):Bool),(((comO (OS.mk c0_0 c0_1 c0_2 w1 w2k w2v w3k w3v w4k w4v) p1 p2).o.b):Int),(((comO (OS.mk c0_0 c0_1 c0_2 w1 w2k w2v w3k w3v w4k w4v) p1 p2).o.c):Int),(((comO (OS.mk c0_0 c0_1 c0_2 w1 w2k w2v w3k w3v w4k w4v) p1 p2).o.q):List TQuestion),(((comO (OS.mk c0_0 c0_1 c0_2 w1 w2k w2v w3k w3v w4k w4v) p1 p2).o.k):List ByteArray),(((comO (OS.mk c0_0 c0_1 c0_2 w1 w2k w2v w3k w3v w4k w4v) p1 p2).o.v):List Int),(((comO (OS.mk c0_0 c0_1 c0_2 w1 w2k w2v w3k w3v w4k w4v) p1 p2).o.s):List ByteArray),(((comO (OS.mk c0_0 c0_1 c0_2 w1 w2k w2v w3k w3v w4k w4v) p1 p2).o.t):List (List Int)),(((comO (OS.mk c0_0 c0_1 c0_2 w1 w2k w2v w3k w3v w4k w4v) p1 p2).o.x):List ByteArray),(((comO (OS.mk c0_0 c0_1 c0_2 w1 w2k w2v w3k w3v w4k w4v) p1 p2).o.y):List Bool),())) x.1 x.2.1 x.2.2.1 x.2.2.2.1 x.2.2.2.2.1 x.2.2.2.2.2.1 x.2.2.2.2.2.2.1 x.2.2.2.2.2.2.2.1 x.2.2.2.2.2.2.2.2.1 x.2.2.2.2.2.2.2.2.2.1 x.2.2.2.2.2.2.2.2.2.2.1 x.2.2.2.2.2.2.2.2.2.2.2.1
theorem kxd:kkk.Ok Try.prog TB:=Con.ok_fn k26 bd8 fun x h=>k18h (k16r x.1 x.2.1 x.2.2.1 x.2.2.2.1 x.2.2.2.2.1 x.2.2.2.2.2.1 x.2.2.2.2.2.2.1 x.2.2.2.2.2.2.2.1 x.2.2.2.2.2.2.2.2.1 x.2.2.2.2.2.2.2.2.2.1 x.2.2.2.2.2.2.2.2.2.2.1 x.2.2.2.2.2.2.2.2.2.2.2.1 h)
def k2x:Con TB.den:=Con.mk0 27 [.agg [.d (.sl (.sl (.int .u64)))]] [] (.one (.one (.d (.bool)))) []
abbrev kv2:=HL TB.den (hsT k2x.ins (hsOs k2x.pre))
abbrev k5p:=HL TB.den (hsV k2x.res (hsOs k2x.post))
noncomputable def k67:Cx TB:=⟨inf,[kkn],[],4,[]⟩
noncomputable def k9c:Code:=Try.f27.body.getD .skip
noncomputable def kdv:List ResultVar:=Try.f27.results.toList
def k168 (o:k5p):=qS TB k67 44 0 (cB (cB (cB (cB k9c)))) .no (retTQ TB k67 k2x kdv o)
def k7h:Tm:=⟨[],[],[3,25,26,27],[.one (.d (.int .i64)),.one (.d (.sl (.sl (.int .u64)))),.one (.d (.int .i64)),.one (.d (.int .i64))],1⟩
def k167 (o:k5p) (nx1:NX TB k7h):=qM TB 0 k7h nx1 (blockT TB 0 (k168 o))
def kav (o:k5p) (nx1:NX TB k7h) (i:HL TB.den k7h.hs):Prop:=WP TB k67 44 0 (cA (cA (cB (cA (cB (cB (cB k9c))))))) .no (k7h.fill TB i) (k167 o nx1)
noncomputable def k171 (o:k5p):An TB:= .lp [] k7h (kav o) fun nx1=> .no
noncomputable def k16e (o:k5p):An TB:= .nd [] .no [] (.nd [] (.nd [] .no [] (k171 o)) [] .no)
noncomputable def ku7 (o:k5p):An TB:= .nd [] .no [] (.nd [] .no [] (k16e o))
def kgd (x:kv2) (o:k5p):Prop:=WPh TB k67 44 0 k9c (ku7 o) (k2x.st TB x) (retTQ TB k67 k2x kdv o)
theorem k154 (o:k5p):OblH TB k67 44 0 k9c (ku7 o) (retTQ TB k67 k2x kdv o):=
 OblH.ofC (X:=((∀nx i,(kav o) nx i=(kav o) nx i)∧(∀nx1:NX TB k7h,True)∧True)) (by kernel_rfl) ⟨fun _ _=>rfl,fun _=>trivial,trivial⟩
theorem k157 {x:kv2} {o:k5p} (h:kgd x o):k2x.Snd Try.prog x o:=
 Con.soundH (c:=k2x) (C:=k67) TBok ⟨inf_ok,(all_cons kwu all_nil),all_nil⟩ mix Try.func27 (show Try.f27.body=some k9c by kernel_rfl) (show Try.f27.ntmps=44 by kernel_rfl) (show Try.f27.results.toList=kdv by kernel_rfl) rfl h (k154 o)
theorem k16n {p0:TTree} {r0:Bool} (h:
((((p0.Levels.length:Int)==0)=true→
false=r0)∧
(((p0.Levels.length:Int)==0)=false→
0<(p0.Levels.length:Int)∧let v1:Bool:=(!(isNum ((ix p0.Levels 0).length:Int)))
(v1=true→
false=r0)∧
(v1=false→
0<(p0.Levels.length:Int)∧Md.Loop ((((ix p0.Levels 0).length:Int):Int),p0.Levels,((p0.Levels.length:Int):Int),(0:Int),()) (kav (r0,())))))):kgd (p0.Levels,()) (r0,()):=WPh.of_eq (by kernel_rfl) h
def ku3 (r0:Bool) (k1:Int→Int→Prop) (s25:List (List Int)) (s26:Int) (s3:Int) (s27:Int):Prop:=
(decide (s27<s26)=true→
(0≤s27)∧s27<(s25.length:Int)∧((s3==0)=true→
false=r0)∧
((s3==0)=false→
((((ix s25 s27).length:Int) !=s3)=true→
false=r0)∧
((((ix s25 s27).length:Int) !=s3)=false→
k1 (IntKind.i64.wrap (Int.tdiv s3 2):Int) (IntKind.i64.wrap (s27+1):Int))))∧
(decide (s27<s26)=false→
(s3==0)=r0)
theorem k15k {r0:Bool} {s25:List (List Int)} {s26:Int} {s3:Int} {s27:Int} (inv:Int→Int→Prop) (μ:Int→Int→Nat) (h0:inv s3 s27) (hs:∀(s3:Int) (s27:Int),inv s3 s27→ku3 r0 (fun s3q s27q=>inv s3q s27q∧μ s3q s27q<μ s3 s27) s25 s26 s3 s27):Md.Loop (s3,s25,s26,s27,()) (kav (r0,())):=
 ⟨⟨fun s:Int×(List (List Int))×Int×Int×Unit=>(s.2.1=s25∧s.2.2.1=s26)∧inv s.1 s.2.2.2.1,fun s:Int×(List (List Int))×Int×Int×Unit=>μ s.1 s.2.2.2.1,⟨⟨rfl,rfl⟩,h0⟩,fun(s3p,s25p,s26p,s27p,()) ⟨⟨eq0,eq1⟩,hi⟩=>by
  have eq0:s25p=s25:=eq0;subst s25p;have eq1:s26p=s26:=eq1;subst s26p;exact mpr_of (by kernel_rfl) ((congrArg (fun k=>ku3 r0 k s25 s26 s3p s27p) (lpk2 (⟨rfl,rfl⟩:s25=s25∧s26=s26) inv (fun s3q s27q=>μ s3q s27q<μ s3p s27p))).mpr (hs s3p s27p hi))⟩⟩
theorem bd27:Callable Try.prog 27:=⟨by rw[Try.func27];kernel_rfl,by rw[Try.func27];show some _≠some _;decide⟩
theorem k145 (p0:TTree) (h:p0.Levels.length≤1000000∧∀l∈p0.Levels,l.length≤1000000000):kgd (p0.Levels,()) (((wfT p0):Bool),()):=by
 obtain⟨h1,h2⟩:=h
 refine k16n ⟨fun e=> ?_,fun e=> ?_⟩
 ·unfold wfT;rw[e];rfl
 have e0:¬(p0.Levels.length:Int)=0:=by simpa using e
 refine⟨by omega,fun e1=> ?_,fun e1=>⟨by omega,?_⟩⟩
 ·have e1:isNum ((ix p0.Levels 0).length:Int)=false:=by simpa using e1
  unfold wfT;rw[e,e1];rfl
 have e1:isNum ((ix p0.Levels 0).length:Int)=true:=by simpa using e1
 have ew:wfT p0=wfB ((ix p0.Levels 0).length:Int) p0.Levels:=by unfold wfT;rw[e,e1];rfl
 have hix:=h2 _ (ix_mem p0.Levels 0 (by omega) (by omega))
 refine k15k (fun s i=>0≤i∧i≤p0.Levels.length∧0≤s∧s≤1000000000∧wfB s (p0.Levels.drop i.toNat)=wfT p0) (fun _ i=>(p0.Levels.length-i).toNat) ⟨by omega,by omega,by omega,by omega,ew.symm⟩ ?_
 rintro s i ⟨g0,g1,g2,g3,g4⟩
 refine⟨fun hh=> ?_,fun hh=> ?_⟩
 ·have hh:=of_decide_eq_true hh
  rw[drop_ix _ i g0 hh]at g4
  refine⟨g0,hh,fun e2=> ?_,fun e2=>⟨fun e3=> ?_,fun e3=> ?_⟩⟩
  ·rw[←g4];unfold wfB;rw[e2];rfl
  ·have e3:((((ix p0.Levels i).length:Int))==s)=false:=by simpa using e3
   rw[←g4];unfold wfB;rw[e2,e3];rfl
  ·have e3:((((ix p0.Levels i).length:Int))==s)=true:=by simpa using e3
   unfold wfB at g4
   rw[e2,e3]at g4
   have g4:wfB (s/2) (p0.Levels.drop (i+1).toNat)=wfT p0:=by simpa using g4
   rw[inc i p0.Levels.length g0 hh (by omega),tdiv_nn _ _ g2,wi (s/2) (by omega) (by omega)]
   exact⟨⟨by omega,by omega,by omega,by omega,g4⟩,by omega⟩
 ·have hh:=of_decide_eq_false hh
  rw[List.drop_eq_nil_of_le (by omega)]at g4
  exact g4
noncomputable def ki9:Con TB.den:=k2x.fnR (fun x=>(fun(p0:TTree)=>p0.Levels.length≤1000000∧∀l∈p0.Levels,l.length≤1000000000) (TTree.mk x.1)) fun x=>(fun(p0:TTree)=>(((wfT p0):Bool),())) (TTree.mk x.1)
theorem kub:ki9.Ok Try.prog TB:=Con.ok_fn k2x bd27 fun x h=>k157 (k145 (TTree.mk x.1) h)
def k63:Con TB.den:=Con.mk0 11 [.agg [.d (.sl (.sl (.int .u64)))],.one (.d (.int .i64))] [] (.one (.one (.d (.sl (.int .u64))))) []
abbrev k17k:=HL TB.den (hsT k63.ins (hsOs k63.pre))
abbrev kay:=HL TB.den (hsV k63.res (hsOs k63.post))
noncomputable def k9y:Cx TB:=⟨inf,[ki9],[],4,[]⟩
noncomputable def kf3:Code:=Try.f11.body.getD .skip
noncomputable def kny:List ResultVar:=Try.f11.results.toList
def k1ja (o:kay):=qS TB k9y 48 0 (cB (cB (cB (cB kf3)))) .no (retTQ TB k9y k63 kny o)
def kea:Tm:=⟨[1],[.tip (.int .u64)],[1,5,30,31,32],[.one (.d (.int .i64)),.one (.own 0),.one (.d (.sl (.sl (.int .u64)))),.one (.d (.int .i64)),.one (.d (.int .i64))],2⟩
def kij (o:kay) (nx1:NX TB kea) (i:HL TB.den kea.hs):Prop:=WP TB k9y 48 0 (cA (cA (cB (cA (cB (cB (cB kf3))))))) .no (kea.fill TB i) (qM TB 0 kea nx1 (blockT TB 0 (k1ja o)))
noncomputable def k1jl (o:kay):An TB:= .lp [.tok 5 (.int .u64)] kea (kij o) fun nx1=> .no
noncomputable def k1kl (o:kay):An TB:= .nd [] .no [] (.nd [] (.nd [] .no [] (k1jl o)) [] .no)
noncomputable def k150 (o:kay):An TB:= .nd [] .no [] (.nd [] .no [] (k1kl o))
def kqx (x:k17k) (o:kay):Prop:=WPh TB k9y 48 0 kf3 (k150 o) (k63.st TB x) (retTQ TB k9y k63 kny o)
theorem k1hz (o:kay):OblH TB k9y 48 0 kf3 (k150 o) (retTQ TB k9y k63 kny o):=
 OblH.ofC (X:=((∀nx i,(kij o) nx i=(kij o) nx i)∧(∀nx1:NX TB kea,True)∧True)) (by kernel_rfl) ⟨fun _ _=>rfl,fun _=>trivial,trivial⟩
theorem k1i9 {x:k17k} {o:kay} (h:kqx x o):k63.Snd Try.prog x o:=
 Con.soundH (c:=k63) (C:=k9y) TBok ⟨inf_ok,(all_cons kub all_nil),all_nil⟩ mix Try.func11 (show Try.f11.body=some kf3 by kernel_rfl) (show Try.f11.ntmps=48 by kernel_rfl) (show Try.f11.results.toList=kny by kernel_rfl) rfl h (k1hz o)
theorem k1iw {p0:TTree} {p1:Int} {r0:List Int} (h:
((p0.Levels.length≤1000000∧∀l∈p0.Levels,l.length≤1000000000)∧((!(wfT p0))=true→
([]:List Int)=r0)∧
((!(wfT p0))=false→
(decide (p1<0)=true→
([]:List Int)=r0)∧
(decide (p1<0)=false→
0<(p0.Levels.length:Int)∧let v1:Bool:=decide (((ix p0.Levels 0).length:Int)≤p1)
(v1=true→
([]:List Int)=r0)∧
(v1=false→
let v2:Int:=IntKind.i64.wrap ((p0.Levels.length:Int)-1)
(0≤v2)∧v2≤(p0.Levels.length:Int)∧(([]:List Int)=([]:List Int))∧Md.Loop (p1,(p0.Levels.take v2.toNat:List (List Int)),(((p0.Levels.take v2.toNat).length:Int):Int),(0:Int),(([]:List Int):List Int),()) (kij (r0,()))))))):kqx (p0.Levels,p1,()) (r0,()):=WPh.of_eq (by kernel_rfl) h
def k14t (r0:List Int) (k1:Int→Int→List Int→Prop) (s30:List (List Int)) (s31:Int) (s1:Int) (s32:Int) (g1:List Int):Prop:=
(decide (s32<s31)=true→
(0≤s32)∧s32<(s30.length:Int)∧(0≤ixor .i64 s1 1)∧ixor .i64 s1 1<((ix s30 s32).length:Int)∧g1.length=g1.length∧(g1.length+[ix (ix s30 s32) (ixor .i64 s1 1)].length)*8≤140737488355328∧g1.length+[ix (ix s30 s32) (ixor .i64 s1 1)].length≤maxLen∧(g1++[ix (ix s30 s32) (ixor .i64 s1 1)]=g1++[ix (ix s30 s32) (ixor .i64 s1 1)])∧k1 (IntKind.i64.wrap (Int.tdiv s1 2):Int) (IntKind.i64.wrap (s32+1):Int) (g1++[ix (ix s30 s32) (ixor .i64 s1 1)]:List Int))∧
(decide (s32<s31)=false→
g1=r0)
theorem k1hj {r0:List Int} {s30:List (List Int)} {s31:Int} {s1:Int} {s32:Int} {g1:List Int} (inv:Int→Int→List Int→Prop) (μ:Int→Int→List Int→Nat) (h0:inv s1 s32 g1) (hs:∀(s1:Int) (s32:Int) (g1:List Int),inv s1 s32 g1→k14t r0 (fun s1q s32q g1q=>inv s1q s32q g1q∧μ s1q s32q g1q<μ s1 s32 g1) s30 s31 s1 s32 g1):Md.Loop (s1,s30,s31,s32,g1,()) (kij (r0,())):=
 ⟨⟨fun s:Int×(List (List Int))×Int×Int×(List Int)×Unit=>(s.2.1=s30∧s.2.2.1=s31)∧inv s.1 s.2.2.2.1 s.2.2.2.2.1,fun s:Int×(List (List Int))×Int×Int×(List Int)×Unit=>μ s.1 s.2.2.2.1 s.2.2.2.2.1,⟨⟨rfl,rfl⟩,h0⟩,fun(s1p,s30p,s31p,s32p,g1p,()) ⟨⟨eq0,eq1⟩,hi⟩=>by
  have eq0:s30p=s30:=eq0;subst s30p;have eq1:s31p=s31:=eq1;subst s31p;exact mpr_of (by kernel_rfl) ((congrArg (fun k=>k14t r0 k s30 s31 s1p s32p g1p) (lpk3 (⟨rfl,rfl⟩:s30=s30∧s31=s31) inv (fun s1q s32q g1q=>μ s1q s32q g1q<μ s1p s32p g1p))).mpr (hs s1p s32p g1p hi))⟩⟩
theorem bd11:Callable Try.prog 11:=⟨by rw[Try.func11];kernel_rfl,by rw[Try.func11];show some _≠some _;decide⟩
theorem k1em (p0:TTree) (p1:Int) (h:(p0.Levels.length≤1000000∧∀l∈p0.Levels,l.length≤1000000000)∧p1<9223372036854775807∧-9223372036854775808≤p1):kqx (p0.Levels,p1,()) (((pathT p0 p1):List Int),()):=by
 obtain⟨hh,h3⟩:=h
 obtain⟨h1,h2⟩:=hh
 refine k1iw ⟨⟨h1,h2⟩,fun e=> ?_,fun e=>⟨fun e2=> ?_,fun e2=> ?_⟩⟩
 ·have e:wfT p0=false:=by simpa using e
  unfold pathT;rw[if_neg (by rw[e];simp)]
 ·have e2:=of_decide_eq_true e2
  unfold pathT;rw[if_neg (by omega)]
 have e:wfT p0=true:=by simpa using e
 have e2:=of_decide_eq_false e2
 have h0:¬(p0.Levels.length:Int)=0:=by
  intro h0
  unfold wfT at e
  rw[show((p0.Levels.length:Int)==0)=true from by simpa using h0]at e
  cases e
 refine⟨by omega,?_⟩
 dsimp only
 refine⟨fun e3=> ?_,fun e3=> ?_⟩
 ·have e3:=of_decide_eq_true e3
  unfold pathT;rw[if_neg (by omega)]
 have e3:=of_decide_eq_false e3
 rw[wi ((p0.Levels.length:Int)-1) (by omega) (by omega)]
 have ep:pathT p0 p1=pathL (p0.Levels.take ((p0.Levels.length:Int)-1).toNat) p1:=by unfold pathT;rw[if_pos ⟨e,by omega,by omega⟩]
 have hfit:=wfT_fit e (i:=p1) (by omega) (by omega)
 refine⟨by omega,by omega,rfl,?_⟩
 generalize hL:p0.Levels.take ((p0.Levels.length:Int)-1).toNat=L at *
 have hLn:L.length≤1000000:=by rw[←hL,List.length_take];omega
 refine k1hj (fun s i g=>0≤i∧i≤L.length∧0≤s∧s<9223372036854775807∧pathFit (L.drop i.toNat) s=true∧g++pathL (L.drop i.toNat) s=pathT p0 p1∧g.length=i.toNat) (fun _ i _=>(L.length-i).toNat) ⟨by omega,by omega,by omega,by omega,hfit,ep.symm,rfl⟩ ?_
 rintro s i g ⟨g0,g1,g2,g3,g4,g5,g6⟩
 refine⟨fun hh=> ?_,fun hh=> ?_⟩
 ·have hh:=of_decide_eq_true hh
  rw[drop_ix _ i g0 hh]at g4 g5
  unfold pathFit at g4
  simp only[Bool.and_eq_true,decide_eq_true_eq]at g4
  obtain⟨⟨k1,k2⟩,k3⟩:=g4
  refine⟨g0,hh,k1,k2,rfl,by simp;omega,by simp;unfold maxLen;omega,rfl,?_⟩
  rw[inc i L.length g0 hh (by omega),tdiv_nn _ _ g2,wi (s/2) (by omega) (by omega)]
  refine⟨⟨by omega,by omega,by omega,by omega,k3,?_,by simp;omega⟩,by omega⟩
  rw[←g5,List.append_assoc]
  rfl
 ·have hh:=of_decide_eq_false hh
  rw[List.drop_eq_nil_of_le (by omega)]at g5
  rw[←g5]
  exact(List.append_nil g).symm
noncomputable def k135:Con TB.den:=k63.fnR (fun x=>(fun(p0:TTree) (p1:Int)=>(p0.Levels.length≤1000000∧∀l∈p0.Levels,l.length≤1000000000)∧p1<9223372036854775807∧-9223372036854775808≤p1) (TTree.mk x.1) x.2.1) fun x=>(fun(p0:TTree) (p1:Int)=>(((pathT p0 p1):List Int),())) (TTree.mk x.1) x.2.1
theorem k1ju:k135.Ok Try.prog TB:=Con.ok_fn k63 bd11 fun x h=>k1i9 (k1em (TTree.mk x.1) x.2.1 h)
def k73:Con TB.den:=Con.mk0 9 [.agg [.d (.sl (.sl (.int .u64)))]] [] (.one (.one (.d (.int .u64)))) []
abbrev k17v:=HL TB.den (hsT k73.ins (hsOs k73.pre))
abbrev kqr:=HL TB.den (hsV k73.res (hsOs k73.post))
noncomputable def khv:Cx TB:=⟨inf,[ki9],[],4,[]⟩
noncomputable def krr:Code:=Try.f9.body.getD .skip
noncomputable def kvw:List ResultVar:=Try.f9.results.toList
noncomputable def k14n (o:kqr):An TB:= .no
def kqy (x:k17v) (o:kqr):Prop:=WPh TB khv 16 0 krr (k14n o) (k73.st TB x) (retTQ TB khv k73 kvw o)
theorem k1gv (o:kqr):OblH TB khv 16 0 krr (k14n o) (retTQ TB khv k73 kvw o):=
 OblH.ofC (X:=True) (by kernel_rfl) trivial
theorem k1ic {x:k17v} {o:kqr} (h:kqy x o):k73.Snd Try.prog x o:=
 Con.soundH (c:=k73) (C:=khv) TBok ⟨inf_ok,(all_cons kub all_nil),all_nil⟩ mix Try.func9 (show Try.f9.body=some krr by kernel_rfl) (show Try.f9.ntmps=16 by kernel_rfl) (show Try.f9.results.toList=kvw by kernel_rfl) rfl h (k1gv o)
theorem k1kd {p0:TTree} {r0:Int} (h:
((p0.Levels.length≤1000000∧∀l∈p0.Levels,l.length≤1000000000)∧((!(wfT p0))=true→
0=r0)∧
((!(wfT p0))=false→
let v1:Int:=IntKind.i64.wrap ((p0.Levels.length:Int)-1)
(0≤v1)∧v1<(p0.Levels.length:Int)∧0<((ix p0.Levels v1).length:Int)∧ix (ix p0.Levels v1) 0=r0))):kqy (p0.Levels,()) (r0,()):=WPh.of_eq (by kernel_rfl) h
theorem bd9:Callable Try.prog 9:=⟨by rw[Try.func9];kernel_rfl,by rw[Try.func9];show some _≠some _;decide⟩
theorem k1ge (p0:TTree) (h:p0.Levels.length≤1000000∧∀l∈p0.Levels,l.length≤1000000000):kqy (p0.Levels,()) (((rootT p0):Int),()):=by
 have hh:=h
 obtain⟨h1,h2⟩:=h
 refine k1kd ⟨hh,fun e=> ?_,fun e=> ?_⟩
 ·have e:wfT p0=false:=by simpa using e
  unfold rootT;rw[if_neg (by rw[e];decide)]
 ·have e:wfT p0=true:=by simpa using e
  have h0:¬(p0.Levels.length:Int)=0:=by
   intro h0
   unfold wfT at e
   rw[show((p0.Levels.length:Int)==0)=true from by simpa using h0]at e
   cases e
  dsimp only
  rw[wi ((p0.Levels.length:Int)-1) (by omega) (by omega)]
  refine⟨by omega,by omega,?_,?_⟩
  ·exact k1or e
  ·unfold rootT;rw[if_pos e]
noncomputable def ktn:Con TB.den:=k73.fnR (fun x=>(fun(p0:TTree)=>p0.Levels.length≤1000000∧∀l∈p0.Levels,l.length≤1000000000) (TTree.mk x.1)) fun x=>(fun(p0:TTree)=>(((rootT p0):Int),())) (TTree.mk x.1)
theorem k14r:ktn.Ok Try.prog TB:=Con.ok_fn k73 bd9 fun x h=>k1ic (k1ge (TTree.mk x.1) h)
theorem bd23:Callable Try.prog 23:=⟨by rw[Try.func23];kernel_rfl,by rw[Try.func23];show some _≠some _;decide⟩
theorem bd7:Callable Try.prog 7:=⟨by rw[Try.func7];kernel_rfl,by rw[Try.func7];show some _≠some _;decide⟩
def k32:Con TB.den:=Con.mk0 23 [] [] (.one (.one (.ptr 0 0))) [.cells [.d (.bool),.d (.int .u64),.d (.int .i64),.own 1,.mp 2,.mp 3,.mp 4],.tip (.st 1),.map (.str) (.int .i64),.map (.str) (.sl (.int .u64)),.map (.str) (.bool)]
abbrev kta:=HL TB.den (hsT k32.ins (hsOs k32.pre))
abbrev kds:=HL TB.den (hsV k32.res (hsOs k32.post))
noncomputable def ka0:Cx TB:=⟨inf,[],[],4,[]⟩
noncomputable def kfh:Code:=Try.f23.body.getD .skip
noncomputable def ki8:List ResultVar:=Try.f23.results.toList
noncomputable def ks3 (o:kds):An TB:= .nd [] .no [] (.nd [] .no [] (.rt [.tokc 3 3 (.st 1)]))
def kfg (x:kta) (o:kds):Prop:=WPh TB ka0 6 0 kfh (ks3 o) (k32.st TB x) (retTQ TB ka0 k32 ki8 o)
theorem k13z (o:kds):OblH TB ka0 6 0 kfh (ks3 o) (retTQ TB ka0 k32 ki8 o):=
 OblH.ofC (X:=True) (by kernel_rfl) trivial
theorem k14g {x:kta} {o:kds} (h:kfg x o):k32.Snd Try.prog x o:=
 Con.soundH (c:=k32) (C:=ka0) TBok ⟨inf_ok,all_nil,all_nil⟩ mix Try.func23 (show Try.f23.body=some kfh by kernel_rfl) (show Try.f23.ntmps=6 by kernel_rfl) (show Try.f23.results.toList=ki8 by kernel_rfl) rfl h (k13z o)
theorem k14s  {d0_0:Bool} {d0_1:Int} {d0_2:Int} {e1:List TQuestion} {e2k:List ByteArray} {e2v:List Int} {e3k:List ByteArray} {e3v:List (List Int)} {e4k:List ByteArray} {e4v:List Bool} (h:
((([]:List TQuestion)=([]:List TQuestion))∧false=d0_0∧0=d0_1∧0=d0_2∧([]:List TQuestion)=e1∧([]:List ByteArray)=e2k∧([]:List Int)=e2v∧([]:List ByteArray)=e3k∧([]:List (List Int))=e3v∧([]:List ByteArray)=e4k∧([]:List Bool)=e4v)):kfg (()) (d0_0,d0_1,d0_2,e1,e2k,e2v,e3k,e3v,e4k,e4v,()):=WPh.of_eq (by kernel_rfl) h
theorem k12d:kfg (()) ((false:Bool),(0:Int),(0:Int),(([]:List TQuestion):List TQuestion),([]:List ByteArray),([]:List Int),([]:List ByteArray),([]:List (List Int)),([]:List ByteArray),([]:List Bool),()):=by
 exact k14s ⟨rfl,rfl,rfl,rfl,rfl,rfl,rfl,rfl,rfl,rfl,rfl⟩
noncomputable def kgh:Con TB.den:=k32.totR fun x=>(false,(0:Int),(0:Int),(([]:List TQuestion):List TQuestion),([]:List ByteArray),([]:List Int),([]:List ByteArray),([]:List (List Int)),([]:List ByteArray),([]:List Bool),())
theorem ks0:kgh.Ok Try.prog TB:=Con.ok_tot k32 bd23 fun x=>k14g (k12d)
def k4r:Con TB.den:=Con.mk0 7 [.one (.d (.int .u64))] [] (.one (.one (.ptr 0 0))) [.cells [.d (.bool),.d (.int .u64),.d (.int .i64),.own 1,.mp 2,.mp 3,.mp 4],.tip (.st 1),.map (.str) (.int .i64),.map (.str) (.sl (.int .u64)),.map (.str) (.bool)]
abbrev k11r:=HL TB.den (hsT k4r.ins (hsOs k4r.pre))
abbrev kjj:=HL TB.den (hsV k4r.res (hsOs k4r.post))
noncomputable def kdf:Cx TB:=⟨inf,[kgh],[],4,[]⟩
noncomputable def kky:Code:=Try.f7.body.getD .skip
noncomputable def kp6:List ResultVar:=Try.f7.results.toList
noncomputable def kzf (o:kjj):An TB:= .no
def kkp (x:k11r) (o:kjj):Prop:=WPh TB kdf 13 0 kky (kzf o) (k4r.st TB x) (retTQ TB kdf k4r kp6 o)
theorem k19n (o:kjj):OblH TB kdf 13 0 kky (kzf o) (retTQ TB kdf k4r kp6 o):=
 OblH.ofC (X:=True) (by kernel_rfl) trivial
theorem k1bi {x:k11r} {o:kjj} (h:kkp x o):k4r.Snd Try.prog x o:=
 Con.soundH (c:=k4r) (C:=kdf) TBok ⟨inf_ok,(all_cons ks0 all_nil),all_nil⟩ mix Try.func7 (show Try.f7.body=some kky by kernel_rfl) (show Try.f7.ntmps=13 by kernel_rfl) (show Try.f7.results.toList=kp6 by kernel_rfl) rfl h (k19n o)
theorem k1cf {p0:Int} {d0_0:Bool} {d0_1:Int} {d0_2:Int} {e1:List TQuestion} {e2k:List ByteArray} {e2v:List Int} {e3k:List ByteArray} {e3v:List (List Int)} {e4k:List ByteArray} {e4v:List Bool} (h:
((([]:List TQuestion)=([]:List TQuestion))∧true=d0_0∧p0=d0_1∧0=d0_2∧([]:List TQuestion)=e1∧[]=e2k∧[]=e2v∧[]=e3k∧[]=e3v∧[]=e4k∧[]=e4v)):kkp (p0,()) (d0_0,d0_1,d0_2,e1,e2k,e2v,e3k,e3v,e4k,e4v,()):=WPh.of_eq (by kernel_rfl) h
theorem k18q (p0:Int):kkp (p0,()) ((true:Bool),(p0:Int),(0:Int),(([]:List TQuestion):List TQuestion),([]:List ByteArray),([]:List Int),([]:List ByteArray),([]:List (List Int)),([]:List ByteArray),([]:List Bool),()):=by
 exact k1cf ⟨rfl,rfl,rfl,rfl,rfl,rfl,rfl,rfl,rfl,rfl,rfl⟩
noncomputable def kmk:Con TB.den:=k4r.totR fun x=>(fun(p0:Int)=>(true,p0,(0:Int),(([]:List TQuestion):List TQuestion),([]:List ByteArray),([]:List Int),([]:List ByteArray),([]:List (List Int)),([]:List ByteArray),([]:List Bool),())) x.1
theorem kyo:kmk.Ok Try.prog TB:=Con.ok_tot k4r bd7 fun x=>k1bi (k18q x.1)
def k91:Con TB.den:=Con.mk0 10 [.one (.d (.sl (.int .u64))),.one (.d (.sl (.int .u64)))] [] (.one (.one (.d (.bool)))) []
abbrev k1hk:=HL TB.den (hsT k91.ins (hsOs k91.pre))
abbrev kjp:=HL TB.den (hsV k91.res (hsOs k91.post))
noncomputable def ke3:Cx TB:=⟨inf,[],[],4,[]⟩
noncomputable def kk7:Code:=Try.f10.body.getD .skip
noncomputable def kwl:List ResultVar:=Try.f10.results.toList
def k1px (o:kjp):=qS TB ke3 26 0 (cB (cB (cB kk7))) .no (retTQ TB ke3 k91 kwl o)
def kki:Tm:=⟨[],[],[0,1,5],[.one (.d (.sl (.int .u64))),.one (.d (.sl (.int .u64))),.one (.d (.int .i64))],0⟩
def kpy (o:kjp) (nx1:NX TB kki) (i:HL TB.den kki.hs):Prop:=WP TB ke3 26 0 (cA (cA (cB (cA (cB (cB kk7)))))) .no (kki.fill TB i) (qM TB 0 kki nx1 (blockT TB 0 (k1px o)))
noncomputable def k1pt (o:kjp):An TB:= .nd [] .no [] (.lp [] kki (kpy o) fun nx1=> .no)
noncomputable def k1e8 (o:kjp):An TB:= .nd [] .no [] (.nd [] .no [] (.nd [] (k1pt o) [] .no))
def kye (x:k1hk) (o:kjp):Prop:=WPh TB ke3 26 0 kk7 (k1e8 o) (k91.st TB x) (retTQ TB ke3 k91 kwl o)
theorem k1ns (o:kjp):OblH TB ke3 26 0 kk7 (k1e8 o) (retTQ TB ke3 k91 kwl o):=
 OblH.ofC (X:=((∀nx i,(kpy o) nx i=(kpy o) nx i)∧(∀nx1:NX TB kki,True)∧True)) (by kernel_rfl) ⟨fun _ _=>rfl,fun _=>trivial,trivial⟩
theorem k1oh {x:k1hk} {o:kjp} (h:kye x o):k91.Snd Try.prog x o:=
 Con.soundH (c:=k91) (C:=ke3) TBok ⟨inf_ok,all_nil,all_nil⟩ mix Try.func10 (show Try.f10.body=some kk7 by kernel_rfl) (show Try.f10.ntmps=26 by kernel_rfl) (show Try.f10.results.toList=kwl by kernel_rfl) rfl h (k1ns o)
theorem k1pk {p0:List Int} {p1:List Int} {r0:Bool} (h:
((((p0.length:Int) !=(p1.length:Int))=true→
false=r0)∧
(((p0.length:Int) !=(p1.length:Int))=false→
Md.Loop (p0,p1,(0:Int),()) (kpy (r0,()))))):kye (p0,p1,()) (r0,()):=WPh.of_eq (by kernel_rfl) h
def k1e0 (r0:Bool) (k1:Int→Prop) (s0:List Int) (s1:List Int) (s5:Int):Prop:=
(decide (s5<(s0.length:Int))=true→
(0≤s5)∧s5<(s0.length:Int)∧(0≤s5)∧s5<(s1.length:Int)∧(((ix s0 s5) !=(ix s1 s5))=true→
false=r0)∧
(((ix s0 s5) !=(ix s1 s5))=false→
k1 (IntKind.i64.wrap (s5+1):Int)))∧
(decide (s5<(s0.length:Int))=false→
true=r0)
theorem k1oc {r0:Bool} {s0:List Int} {s1:List Int} {s5:Int} (inv:Int→Prop) (μ:Int→Nat) (h0:inv s5) (hs:∀(s5:Int),inv s5→k1e0 r0 (fun s5q=>inv s5q∧μ s5q<μ s5) s0 s1 s5):Md.Loop (s0,s1,s5,()) (kpy (r0,())):=
 ⟨⟨fun s:(List Int)×(List Int)×Int×Unit=>(s.1=s0∧s.2.1=s1)∧inv s.2.2.1,fun s:(List Int)×(List Int)×Int×Unit=>μ s.2.2.1,⟨⟨rfl,rfl⟩,h0⟩,fun(s0p,s1p,s5p,()) ⟨⟨eq0,eq1⟩,hi⟩=>by
  have eq0:s0p=s0:=eq0;subst s0p;have eq1:s1p=s1:=eq1;subst s1p;exact mpr_of (by kernel_rfl) ((congrArg (fun k=>k1e0 r0 k s0 s1 s5p) (lpk1 (⟨rfl,rfl⟩:s0=s0∧s1=s1) inv (fun s5q=>μ s5q<μ s5p))).mpr (hs s5p hi))⟩⟩
theorem bd10:Callable Try.prog 10:=⟨by rw[Try.func10];kernel_rfl,by rw[Try.func10];show some _≠some _;decide⟩
theorem k1m7 (p0:List Int) (p1:List Int) (h:p0.length≤9223372036854775807):kye (p0,p1,()) (((decide (p0=p1)):Bool),()):=by
 refine k1pk ⟨fun e=> ?_,fun e=> ?_⟩
 ·have e:¬(p0.length:Int)=p1.length:=by simpa using e
  rw[decide_eq_false (by rintro rfl;exact e rfl)]
 ·have e:(p0.length:Int)=p1.length:=by simpa using e
  refine k1oc (fun i=>0≤i∧i≤p0.length∧p0.take i.toNat=p1.take i.toNat) (fun i=>(p0.length-i).toNat) ⟨by omega,by omega,by simp⟩ ?_
  rintro i ⟨g0,g1,g2⟩
  refine⟨fun hh=> ?_,fun hh=> ?_⟩
  ·have hh:=of_decide_eq_true hh
   refine⟨g0,hh,g0,by omega,fun e2=> ?_,fun e2=> ?_⟩
   ·have e2:¬ix p0 i=ix p1 i:=by simpa using e2
    rw[decide_eq_false (by rintro rfl;exact e2 rfl)]
   ·have e2:ix p0 i=ix p1 i:=by simpa using e2
    rw[inc i p0.length g0 hh (by omega)]
    refine⟨⟨by omega,by omega,?_⟩,by omega⟩
    rw[kca p0 i g0 hh,kca p1 i g0 (by omega),g2,e2]
  ·have hh:=of_decide_eq_false hh
   rw[List.take_of_length_le (by omega),List.take_of_length_le (by omega)]at g2
   rw[decide_eq_true g2]
noncomputable def k10p:Con TB.den:=k91.fnR (fun x=>(fun(p0:List Int) (p1:List Int)=>p0.length≤9223372036854775807) x.1 x.2.1) fun x=>(fun(p0:List Int) (p1:List Int)=>(((decide (p0=p1)):Bool),())) x.1 x.2.1
theorem k1e7:k10p.Ok Try.prog TB:=Con.ok_fn k91 bd10 fun x h=>k1oh (k1m7 x.1 x.2.1 h)
def k8m:Con TB.den:=Con.mk0 87 [.agg [.d (.int .u64)],.one (.d (.int .u64))] [] (.one (.one (.d (.int .u64)))) []
abbrev k1e2:=HL TB.den (hsT k8m.ins (hsOs k8m.pre))
abbrev kwf:=HL TB.den (hsV k8m.res (hsOs k8m.post))
noncomputable def kmv:Cx TB:=⟨inf,[krj],[],4,[]⟩
noncomputable def kwa:Code:=Try.f87.body.getD .skip
noncomputable def k11y:List ResultVar:=Try.f87.results.toList
noncomputable def k1bb (o:kwf):An TB:= .no
def kwc (x:k1e2) (o:kwf):Prop:=WPh TB kmv 14 0 kwa (k1bb o) (k8m.st TB x) (retTQ TB kmv k8m k11y o)
theorem k1mq (o:kwf):OblH TB kmv 14 0 kwa (k1bb o) (retTQ TB kmv k8m k11y o):=
 OblH.ofC (X:=True) (by kernel_rfl) trivial
theorem k1lu {x:k1e2} {o:kwf} (h:kwc x o):k8m.Snd Try.prog x o:=
 Con.soundH (c:=k8m) (C:=kmv) TBok ⟨inf_ok,(all_cons k13b all_nil),all_nil⟩ mix Try.func87 (show Try.f87.body=some kwa by kernel_rfl) (show Try.f87.ntmps=14 by kernel_rfl) (show Try.f87.results.toList=k11y by kernel_rfl) rfl h (k1mq o)
theorem k1pb {p0:TField} {p1:Int} {r0:Int} (h:
((p0.P=18446744069414584321∧U64 p1)∧(((p1%18446744069414584321)==0)=true→
0=r0)∧
(((p1%18446744069414584321)==0)=false→
let v1:Int:=IntKind.u64.wrap (p0.P-(p1%18446744069414584321))
v1=r0))):kwc (p0.P,p1,()) (r0,()):=WPh.of_eq (by kernel_rfl) h
theorem bd87:Callable Try.prog 87:=⟨by rw[Try.func87];kernel_rfl,by rw[Try.func87];show some _≠some _;decide⟩
theorem k1kk (p0:TField) (p1:Int) (h:p0.P=18446744069414584321∧U64 p1):kwc (p0.P,p1,()) (((negF p1):Int),()):=by
 obtain⟨h1,h2⟩:=h
 unfold negF
 refine k1pb ⟨⟨h1,h2⟩,fun e=> ?_,fun e=> ?_⟩
 ·have e:p1%18446744069414584321=0:=by simpa using e
  rw[if_pos e]
 ·have e:¬p1%18446744069414584321=0:=by simpa using e
  dsimp only
  rw[if_neg e,h1,wu _ (by omega) (by omega)]
noncomputable def k17d:Con TB.den:=k8m.fnR (fun x=>(fun(p0:TField) (p1:Int)=>p0.P=18446744069414584321∧U64 p1) (TField.mk x.1) x.2.1) fun x=>(fun(p0:TField) (p1:Int)=>(((negF p1):Int),())) (TField.mk x.1) x.2.1
theorem k1op:k17d.Ok Try.prog TB:=Con.ok_fn k8m bd87 fun x h=>k1lu (k1kk (TField.mk x.1) x.2.1 h)
def k8w:Con TB.den:=Con.mk0 67 [.agg [.d (.int .u64)],.one (.d (.int .u64)),.one (.d (.int .u64))] [] (.one (.one (.d (.int .u64)))) []
abbrev k1e3:=HL TB.den (hsT k8w.ins (hsOs k8w.pre))
abbrev kwo:=HL TB.den (hsV k8w.res (hsOs k8w.post))
noncomputable def kmj:Cx TB:=⟨inf,[k17d,kd0],[],4,[]⟩
noncomputable def kvo:Code:=Try.f67.body.getD .skip
noncomputable def k10n:List ResultVar:=Try.f67.results.toList
noncomputable def k1bk (o:kwo):An TB:= .no
def kvc (x:k1e3) (o:kwo):Prop:=WPh TB kmj 13 0 kvo (k1bk o) (k8w.st TB x) (retTQ TB kmj k8w k10n o)
theorem k1me (o:kwo):OblH TB kmj 13 0 kvo (k1bk o) (retTQ TB kmj k8w k10n o):=
 OblH.ofC (X:=True) (by kernel_rfl) trivial
theorem k1ly {x:k1e3} {o:kwo} (h:kvc x o):k8w.Snd Try.prog x o:=
 Con.soundH (c:=k8w) (C:=kmj) TBok ⟨inf_ok,(all_cons k1op (all_cons kj0 all_nil)),all_nil⟩ mix Try.func67 (show Try.f67.body=some kvo by kernel_rfl) (show Try.f67.ntmps=13 by kernel_rfl) (show Try.f67.results.toList=k10n by kernel_rfl) rfl h (k1me o)
theorem k1n4 {p0:TField} {p1:Int} {p2:Int} {r0:Int} (h:
((p0.P=18446744069414584321∧U64 p2)∧(p0.P=18446744069414584321∧U64 p1∧U64 (negF p2))∧let r1:Int:=((p1+(negF p2))%18446744069414584321)
r1=r0)):kvc (p0.P,p1,p2,()) (r0,()):=WPh.of_eq (by kernel_rfl) h
theorem bd67:Callable Try.prog 67:=⟨by rw[Try.func67];kernel_rfl,by rw[Try.func67];show some _≠some _;decide⟩
theorem k1j0 (p0:TField) (p1:Int) (p2:Int) (h:p0.P=18446744069414584321∧U64 p1∧U64 p2):kvc (p0.P,p1,p2,()) ((((p1+negF p2)%18446744069414584321):Int),()):=by
 obtain⟨h1,h2,h3⟩:=h
 exact k1n4 ⟨⟨h1,h3⟩,⟨h1,h2,by unfold negF;split<;>omega⟩,rfl⟩
noncomputable def k17r:Con TB.den:=k8w.fnR (fun x=>(fun(p0:TField) (p1:Int) (p2:Int)=>p0.P=18446744069414584321∧U64 p1∧U64 p2) (TField.mk x.1) x.2.1 x.2.2.1) fun x=>(fun(p0:TField) (p1:Int) (p2:Int)=>((((p1+negF p2)%18446744069414584321):Int),())) (TField.mk x.1) x.2.1 x.2.2.1
theorem k1nw:k17r.Ok Try.prog TB:=Con.ok_fn k8w bd67 fun x h=>k1ly (k1j0 (TField.mk x.1) x.2.1 x.2.2.1 h)
def k6f:Con TB.den:=Con.mk0 46 [.one (.d (.int .u64)),.one (.d (.int .u64)),.one (.d (.int .i64))] [] (.one (.agg [.d (.int .u64),.d (.int .u64),.d (.int .u64)])) []
abbrev k151:=HL TB.den (hsT k6f.ins (hsOs k6f.pre))
abbrev kns:=HL TB.den (hsV k6f.res (hsOs k6f.post))
noncomputable def kgc:Cx TB:=⟨inf,[kd0,k97],[],4,[]⟩
noncomputable def kpn:Code:=Try.f46.body.getD .skip
noncomputable def ku6:List ResultVar:=Try.f46.results.toList
noncomputable def k12n (o:kns):An TB:= .no
def kpe (x:k151) (o:kns):Prop:=WPh TB kgc 17 0 kpn (k12n o) (k6f.st TB x) (retTQ TB kgc k6f ku6 o)
theorem k1fb (o:kns):OblH TB kgc 17 0 kpn (k12n o) (retTQ TB kgc k6f ku6 o):=
 OblH.ofC (X:=True) (by kernel_rfl) trivial
theorem k1eg {x:k151} {o:kns} (h:kpe x o):k6f.Snd Try.prog x o:=
 Con.soundH (c:=k6f) (C:=kgc) TBok ⟨inf_ok,(all_cons kj0 (all_cons kbi all_nil)),all_nil⟩ mix Try.func46 (show Try.f46.body=some kpn by kernel_rfl) (show Try.f46.ntmps=17 by kernel_rfl) (show Try.f46.results.toList=ku6 by kernel_rfl) rfl h (k1fb o)
theorem k1gw {p0:Int} {p1:Int} {p2:Int} {r0:TA3} (h:
(((TField.mk 18446744069414584321).P=18446744069414584321∧U64 (786432:Int)∧U64 (IntKind.u64.wrap p2))∧let r1:Int:=(((786432:Int)+(IntKind.u64.wrap p2))%18446744069414584321)
((18446744069414584321:Int)=18446744069414584321∧S3 (TA3.mk p0 p1 r1))∧(permS (TA3.mk p0 p1 r1)).a0=r0.a0∧(permS (TA3.mk p0 p1 r1)).a1=r0.a1∧(permS (TA3.mk p0 p1 r1)).a2=r0.a2)):kpe (p0,p1,p2,()) (r0.a0,r0.a1,r0.a2,()):=WPh.of_eq (by kernel_rfl) h
theorem bd46:Callable Try.prog 46:=⟨by rw[Try.func46];kernel_rfl,by rw[Try.func46];show some _≠some _;decide⟩
theorem k1di (p0:Int) (p1:Int) (p2:Int) (h:U64 p0∧U64 p1∧p2=2):kpe (p0,p1,p2,()) (((st2 p0 p1).a0:Int),((st2 p0 p1).a1:Int),((st2 p0 p1).a2:Int),()):=by
 obtain⟨h1,h2,rfl⟩:=h
 have hw:IntKind.u64.wrap (2:Int)=2:=rfl
 refine k1gw (r0:=st2 p0 p1) ⟨⟨rfl,by decide,by decide⟩,?_⟩
 dsimp only
 rw[hw]
 exact⟨⟨rfl,S3m h1 h2 (by decide)⟩,rfl,rfl,rfl⟩
noncomputable def krv:Con TB.den:=k6f.fnR (fun x=>(fun(p0:Int) (p1:Int) (p2:Int)=>U64 p0∧U64 p1∧p2=2) x.1 x.2.1 x.2.2.1) fun x=>(fun(p0:Int) (p1:Int) (p2:Int)=>(((st2 p0 p1).a0:Int),((st2 p0 p1).a1:Int),((st2 p0 p1).a2:Int),())) x.1 x.2.1 x.2.2.1
theorem k13o:krv.Ok Try.prog TB:=Con.ok_fn k6f bd46 fun x h=>k1eg (k1di x.1 x.2.1 x.2.2.1 h)
def k3w:Con TB.den:=Con.mk0 45 [.one (.d (.int .u64)),.one (.d (.int .u64)),.one (.d (.sl (.int .u64)))] [] (.tup [.one (.d (.sl (.int .u64))),.one (.d (.int .u64))]) []
abbrev k10g:=HL TB.den (hsT k3w.ins (hsOs k3w.pre))
abbrev k2n:=HL TB.den (hsV k3w.res (hsOs k3w.post))
noncomputable def k5s:Cx TB:=⟨inf,[krv,k17r,k97],[],4,[]⟩
noncomputable def k7u:Code:=Try.f45.body.getD .skip
noncomputable def kh9:List ResultVar:=Try.f45.results.toList
def k1co (o:k2n):=qS TB k5s 59 0 (cB (cB (cB (cB (cB k7u))))) (.nd [] .no [] (.rt [.frz 2 [6]])) (retTQ TB k5s k3w kh9 o)
def k2k:Tm:=⟨[0,1,2],[.cells [.d (.int .u64)],.cells [.d (.int .u64),.d (.int .u64),.d (.int .u64)],.vec (.int .u64)],[2,8,9,10,22,23,24],[.one (.d (.sl (.int .u64))),.one (.ptr 0 0),.one (.ptr 1 0),.one (.row 2),.one (.d (.sl (.int .u64))),.one (.d (.int .i64)),.one (.d (.int .i64))],3⟩
def kz1 (o:k2n) (nx1:NX TB k2k):=qM TB 0 k2k nx1 (blockT TB 0 (k1co o))
def k1cd (o:k2n) (nx1:NX TB k2k):=qS TB k5s 59 0 (cB (cB (cB (cA (cA (cB (cA (cB (cB (cB (cB k7u))))))))))) .no (kz1 o nx1)
def kfs:Tm:=⟨[0,1,2],[.cells [.d (.int .u64)],.cells [.d (.int .u64),.d (.int .u64),.d (.int .u64)],.vec (.int .u64)],[2,8,9,10,22,23,24,52],[.one (.d (.sl (.int .u64))),.one (.ptr 0 0),.one (.ptr 1 0),.one (.row 2),.one (.d (.sl (.int .u64))),.one (.d (.int .i64)),.one (.d (.int .i64)),.one (.d (.bool))],47⟩
def kxb (o:k2n) (nx1:NX TB k2k) (i:HL TB.den kfs.hs):Prop:=ghs TB [] (kfs.fill TB i) fun s=>WP TB k5s 59 0 (cB (cB (cB (cB (cA (cA (cB (cB (cA (cA (cB (cA (cB (cB (cB (cB k7u)))))))))))))))) .no s (blockT TB 1 (k1cd o nx1))
structure kdk (o:k2n) (nx1:NX TB k2k) (i:HL TB.den kfs.hs):Prop where
 h:kxb o nx1 i
noncomputable def k1cn (o:k2n) (nx1:NX TB k2k):An TB:= .jn kfs (kdk o nx1) [] .no [] .no
noncomputable def k1dg (o:k2n) (nx1:NX TB k2k):An TB:= .nd [] .no [] (.nd [] .no [] (.nd [] .no [] (k1cn o nx1)))
noncomputable def kys (o:k2n) (nx1:NX TB k2k):An TB:= .nd [] .no [] (.nd [] .no [] (.nd [] (k1dg o nx1) [] .no))
def kd6 (o:k2n) (nx1:NX TB k2k) (i:HL TB.den k2k.hs):Prop:=WP TB k5s 59 0 (cA (cA (cB (cA (cB (cB (cB (cB k7u)))))))) (kys o nx1) (k2k.fill TB i) (kz1 o nx1)
noncomputable def k1ci (o:k2n):An TB:= .lp [] k2k (kd6 o) fun nx1=>(kys o nx1)
noncomputable def k1b6 (o:k2n):An TB:= .nd [] (.nd [] .no [] (k1ci o)) [] (.nd [] .no [] (.rt [.frz 2 [6]]))
noncomputable def k1b1 (o:k2n):An TB:= .nd [] .no [] (.nd [] .no [] (.nd [] .no [] (k1b6 o)))
noncomputable def kz3 (o:k2n):An TB:= .nd [] .no [] (k1b1 o)
def kks (x:k10g) (o:k2n):Prop:=WPh TB k5s 59 0 k7u (kz3 o) (k3w.st TB x) (retTQ TB k5s k3w kh9 o)
theorem k1bp (o:k2n):OblH TB k5s 59 0 k7u (kz3 o) (retTQ TB k5s k3w kh9 o):=
 OblH.ofC (X:=((∀nx i,(kd6 o) nx i=(kd6 o) nx i)∧(∀nx1:NX TB k2k,((∀i,(kdk o nx1) i=kxb o nx1 i)∧True))∧True)) (by kernel_rfl) ⟨fun _ _=>rfl,fun _=>⟨fun _=>propext ⟨fun h=>h.1,fun h=>⟨h⟩⟩,trivial⟩,trivial⟩
theorem k1ae {x:k10g} {o:k2n} (h:kks x o):k3w.Snd Try.prog x o:=
 Con.soundH (c:=k3w) (C:=k5s) TBok ⟨inf_ok,(all_cons k13o (all_cons k1nw (all_cons kbi all_nil))),all_nil⟩ mix Try.func45 (show Try.f45.body=some k7u by kernel_rfl) (show Try.f45.ntmps=59 by kernel_rfl) (show Try.f45.results.toList=kh9 by kernel_rfl) rfl h (k1bp o)
theorem k1c4 {p0:Int} {p1:Int} {p2:List Int} {r0:List Int} {r1:Int} (h:
((U64 p0∧U64 p1∧(p2.length:Int)=2)∧0≤(p2.length:Int)∧(p2.length:Int)≤(p2.length:Int)∧((p2.length:Int).toNat*8≤140737488355328)∧((p2.length:Int).toNat≤maxLen)∧((p2.length:Int).toNat=(List.replicate ((p2.length:Int).toNat) (0:Int)).length)∧Md.Loop (p2,p2,((p2.length:Int):Int),(0:Int),(18446744069414584321:Int),((st2 p0 p1).a0:Int),((st2 p0 p1).a1:Int),((st2 p0 p1).a2:Int),(List.replicate ((p2.length:Int).toNat) (0:Int):List Int),()) (kd6 (r0,r1,())))):kks (p0,p1,p2,()) (r0,r1,()):=WPh.of_eq (by kernel_rfl) h
theorem kto {r0:List Int} {r1:Int} {nx1:NX TB k2k} {s2:List Int} {s22:List Int} {s23:Int} {s24:Int} {s52:Bool} {h0_0:Int} {h1_0:Int} {h1_1:Int} {h1_2:Int} {g2:List Int} (h:
((s52=true→
((18446744069414584321:Int)=18446744069414584321∧S3 (TA3.mk h1_0 h1_1 h1_2))∧(g2.length=g2.length)∧nx1 (s2,s22,s23,(IntKind.i64.wrap (s24+1):Int),h0_0,((permS (TA3.mk h1_0 h1_1 h1_2)).a0:Int),((permS (TA3.mk h1_0 h1_1 h1_2)).a1:Int),((permS (TA3.mk h1_0 h1_1 h1_2)).a2:Int),g2,()))∧
(s52=false→
(g2.length=g2.length)∧nx1 (s2,s22,s23,(IntKind.i64.wrap (s24+1):Int),h0_0,h1_0,h1_1,h1_2,g2,())))):kdk (r0,r1,()) nx1 (s2,s22,s23,s24,s52,h0_0,h1_0,h1_1,h1_2,g2,()):=⟨mpr_of (by kernel_rfl) h⟩
def kzh (r0:List Int) (r1:Int) (nx1:NX TB k2k) (k1:Int→Int→Int→Int→List Int→Prop) (s2:List Int) (s22:List Int) (s23:Int) (h0_0:Int) (s24:Int) (h1_0:Int) (h1_1:Int) (h1_2:Int) (g2:List Int):Prop:=
(decide (s24<s23)=true→
(0≤s24)∧s24<(s22.length:Int)∧(0≤Int.tmod s24 2∧Int.tmod s24 2<(3:Int))∧(0≤Int.tmod s24 2∧Int.tmod s24 2<(3:Int))∧((TField.mk h0_0).P=18446744069414584321∧U64 (ix s22 s24)∧U64 (ix [h1_0,h1_1,h1_2] (Int.tmod s24 2)))∧let r2:Int:=(((ix s22 s24)+negF (ix [h1_0,h1_1,h1_2] (Int.tmod s24 2)))%18446744069414584321)
(0≤s24∧s24<(g2.length:Int))∧(0≤s24∧s24<(g2.length:Int))∧(0≤Int.tmod s24 2∧Int.tmod s24 2<(3:Int))∧(0≤Int.tmod s24 2∧Int.tmod s24 2<(3:Int))∧(((Int.tmod s24 2)==1)=true→
(g2.length=(g2.set s24.toNat r2).length)∧kdk (r0,r1,()) nx1 (s2,s22,s23,s24,true,h0_0,((bif decide (Int.tmod s24 2=(0:Int))then ix s22 s24 else h1_0):Int),((bif decide (Int.tmod s24 2=(1:Int))then ix s22 s24 else h1_1):Int),((bif decide (Int.tmod s24 2=(2:Int))then ix s22 s24 else h1_2):Int),(g2.set s24.toNat r2:List Int),()))∧
(((Int.tmod s24 2)==1)=false→
let v3:Bool:=(s24==(IntKind.i64.wrap ((s2.length:Int)-1)))
(g2.length=(g2.set s24.toNat r2).length)∧kdk (r0,r1,()) nx1 (s2,s22,s23,s24,v3,h0_0,((bif decide (Int.tmod s24 2=(0:Int))then ix s22 s24 else h1_0):Int),((bif decide (Int.tmod s24 2=(1:Int))then ix s22 s24 else h1_1):Int),((bif decide (Int.tmod s24 2=(2:Int))then ix s22 s24 else h1_2):Int),(g2.set s24.toNat r2:List Int),())))∧
(decide (s24<s23)=false→
(g2.length=g2.length)∧g2=r0∧h1_0=r1)
theorem k1a2 {r0:List Int} {r1:Int} {s2:List Int} {s22:List Int} {s23:Int} {h0_0:Int} {s24:Int} {h1_0:Int} {h1_1:Int} {h1_2:Int} {g2:List Int} (inv:Int→Int→Int→Int→List Int→Prop) (μ:Int→Int→Int→Int→List Int→Nat) (h0:inv s24 h1_0 h1_1 h1_2 g2) (hs:∀(s24:Int) (h1_0:Int) (h1_1:Int) (h1_2:Int) (g2:List Int),inv s24 h1_0 h1_1 h1_2 g2→kzh r0 r1 (fun s:(List Int)×(List Int)×Int×Int×Int×Int×Int×Int×(List Int)×Unit=>((s.1=s2∧s.2.1=s22∧s.2.2.1=s23∧s.2.2.2.2.1=h0_0)∧inv s.2.2.2.1 s.2.2.2.2.2.1 s.2.2.2.2.2.2.1 s.2.2.2.2.2.2.2.1 s.2.2.2.2.2.2.2.2.1)∧μ s.2.2.2.1 s.2.2.2.2.2.1 s.2.2.2.2.2.2.1 s.2.2.2.2.2.2.2.1 s.2.2.2.2.2.2.2.2.1<μ s24 h1_0 h1_1 h1_2 g2) (fun s24q h1_0q h1_1q h1_2q g2q=>inv s24q h1_0q h1_1q h1_2q g2q∧μ s24q h1_0q h1_1q h1_2q g2q<μ s24 h1_0 h1_1 h1_2 g2) s2 s22 s23 h0_0 s24 h1_0 h1_1 h1_2 g2):Md.Loop (s2,s22,s23,s24,h0_0,h1_0,h1_1,h1_2,g2,()) (kd6 (r0,r1,())):=
 ⟨⟨fun s:(List Int)×(List Int)×Int×Int×Int×Int×Int×Int×(List Int)×Unit=>(s.1=s2∧s.2.1=s22∧s.2.2.1=s23∧s.2.2.2.2.1=h0_0)∧inv s.2.2.2.1 s.2.2.2.2.2.1 s.2.2.2.2.2.2.1 s.2.2.2.2.2.2.2.1 s.2.2.2.2.2.2.2.2.1,fun s:(List Int)×(List Int)×Int×Int×Int×Int×Int×Int×(List Int)×Unit=>μ s.2.2.2.1 s.2.2.2.2.2.1 s.2.2.2.2.2.2.1 s.2.2.2.2.2.2.2.1 s.2.2.2.2.2.2.2.2.1,⟨⟨rfl,rfl,rfl,rfl⟩,h0⟩,fun(s2p,s22p,s23p,s24p,h0_0p,h1_0p,h1_1p,h1_2p,g2p,()) ⟨⟨eq0,eq1,eq2,eq3⟩,hi⟩=>by
  have eq0:s2p=s2:=eq0;subst s2p;have eq1:s22p=s22:=eq1;subst s22p;have eq2:s23p=s23:=eq2;subst s23p;have eq3:h0_0p=h0_0:=eq3;subst h0_0p;exact mpr_of (by kernel_rfl) ((congrArg (fun k=>kzh r0 r1 (fun s:(List Int)×(List Int)×Int×Int×Int×Int×Int×Int×(List Int)×Unit=>((s.1=s2∧s.2.1=s22∧s.2.2.1=s23∧s.2.2.2.2.1=h0_0)∧inv s.2.2.2.1 s.2.2.2.2.2.1 s.2.2.2.2.2.2.1 s.2.2.2.2.2.2.2.1 s.2.2.2.2.2.2.2.2.1)∧μ s.2.2.2.1 s.2.2.2.2.2.1 s.2.2.2.2.2.2.1 s.2.2.2.2.2.2.2.1 s.2.2.2.2.2.2.2.2.1<μ s24p h1_0p h1_1p h1_2p g2p) k s2 s22 s23 h0_0 s24p h1_0p h1_1p h1_2p g2p) (lpk5 (⟨rfl,rfl,rfl,rfl⟩:s2=s2∧s22=s22∧s23=s23∧h0_0=h0_0) inv (fun s24q h1_0q h1_1q h1_2q g2q=>μ s24q h1_0q h1_1q h1_2q g2q<μ s24p h1_0p h1_1p h1_2p g2p))).mpr (hs s24p h1_0p h1_1p h1_2p g2p hi))⟩⟩
theorem bd45:Callable Try.prog 45:=⟨by rw[Try.func45];kernel_rfl,by rw[Try.func45];show some _≠some _;decide⟩
theorem k18n (p0:Int) (p1:Int) (p2:List Int) (h:(U64 p0∧U64 p1)∧Us p2∧p2.length=2):kks (p0,p1,p2,()) (((dec2 p0 p1 (ix p2 0) (ix p2 1)):List Int),((tag2 p0 p1 (ix p2 0) (ix p2 1)):Int),()):=by
 obtain⟨⟨h1,h2⟩,h5,h7⟩:=h
 match p2,h7 with
 |[x,y],_=>
 have ux:U64 x:=h5 x (by simp)
 have uy:U64 y:=h5 y (by simp)
 have hr:=kbn ⟨p0,p1,786434⟩
 refine k1c4 ⟨⟨h1,h2,rfl⟩,(by simp),(by simp),(by simp),(by simp;unfold maxLen;omega),rfl,?_⟩
 have ex:(ix [x,y] 0:Int)=x:=rfl
 have ey:(ix [x,y] 1:Int)=y:=rfl
 rw[ex,ey]
 unfold dec2 tag2
 generalize hs:st2 p0 p1=s at *
 have hr:S3 s:=by rw[←hs];exact hr
 refine k1a2 (fun i a b c g=>(i=0∧a=s.a0∧b=s.a1∧c=s.a2∧g=[0,0])∨(i=1∧a=x∧b=s.a1∧c=s.a2∧g=[(x+negF s.a0)%18446744069414584321,0])∨
  (i=2∧a=(permS ⟨x,y,s.a2⟩).a0∧g=[(x+negF s.a0)%18446744069414584321,(y+negF s.a1)%18446744069414584321])) (fun i _ _ _ _=>(2-i).toNat) (.inl ⟨rfl,rfl,rfl,rfl,rfl⟩) ?_
 rintro i a b c g (⟨rfl,rfl,rfl,rfl,rfl⟩|⟨rfl,rfl,rfl,rfl,rfl⟩|⟨rfl,rfl,rfl⟩)
 ·refine⟨fun _=>⟨by decide,(by simp),⟨by decide,(by first|decide|simp)⟩,⟨by decide,(by first|decide|simp)⟩,⟨rfl,ux,hr.1⟩,⟨by decide,(by first|decide|simp)⟩,⟨by decide,(by first|decide|simp)⟩,⟨by decide,(by first|decide|simp)⟩,⟨by decide,(by first|decide|simp)⟩,(fun h=>by simp at h),fun _=>⟨rfl,kto ⟨(fun h=>absurd h (by show¬((0:Int)==IntKind.i64.wrap (2-1))=true;decide)),fun _=>⟨rfl,?_⟩⟩⟩⟩,(fun h=>by simp at h)⟩
  refine⟨⟨⟨rfl,rfl,rfl,rfl⟩,.inr (.inl ⟨rfl,rfl,rfl,rfl,rfl⟩)⟩,(by show(1:Nat)<2;decide)⟩
 ·refine⟨fun _=>⟨by decide,(by simp),⟨by decide,(by first|decide|simp)⟩,⟨by decide,(by first|decide|simp)⟩,⟨rfl,uy,hr.2.1⟩,⟨by decide,(by first|decide|simp)⟩,⟨by decide,(by first|decide|simp)⟩,⟨by decide,(by first|decide|simp)⟩,⟨by decide,(by first|decide|simp)⟩,fun _=>⟨rfl,kto ⟨fun _=>⟨⟨rfl,?_⟩,rfl,?_⟩,(fun h=>by cases h)⟩⟩,(fun h=>by simp at h)⟩,(fun h=>by simp at h)⟩
  ·exact S3m ux uy hr.2.2
  ·exact⟨⟨⟨rfl,rfl,rfl,rfl⟩,.inr (.inr ⟨rfl,rfl,rfl⟩)⟩,(by show(0:Nat)<1;decide)⟩
 ·exact⟨(fun h=>by simp at h),fun _=>⟨rfl,rfl,rfl⟩⟩
noncomputable def kxq:Con TB.den:=k3w.fnR (fun x=>(fun(p0:Int) (p1:Int) (p2:List Int)=>(U64 p0∧U64 p1)∧Us p2∧p2.length=2) x.1 x.2.1 x.2.2.1) fun x=>(fun(p0:Int) (p1:Int) (p2:List Int)=>(((dec2 p0 p1 (ix p2 0) (ix p2 1)):List Int),((tag2 p0 p1 (ix p2 0) (ix p2 1)):Int),())) x.1 x.2.1 x.2.2.1
theorem k1df:kxq.Ok Try.prog TB:=Con.ok_fn k3w bd45 fun x h=>k1ae (k18n x.1 x.2.1 x.2.2.1 h)
def k3l:Con TB.den:=Con.mk0 44 [.one (.d (.int .u64)),.one (.d (.int .u64)),.one (.d (.sl (.int .u64)))] [] (.one (.one (.d (.bool)))) []
abbrev kyy:=HL TB.den (hsT k3l.ins (hsOs k3l.pre))
abbrev k6w:=HL TB.den (hsV k3l.res (hsOs k3l.post))
noncomputable def k7c:Cx TB:=⟨inf,[],[],4,[]⟩
noncomputable def kau:Code:=Try.f44.body.getD .skip
noncomputable def kfy:List ResultVar:=Try.f44.results.toList
def k1a1 (o:k6w):=qS TB k7c 24 0 (cB (cB (cB kau))) .no (retTQ TB k7c k3l kfy o)
def k8v:Tm:=⟨[],[],[15,16,17],[.one (.d (.sl (.int .u64))),.one (.d (.int .i64)),.one (.d (.int .i64))],0⟩
def k1bm (o:k6w) (nx1:NX TB k8v):=qM TB 0 k8v nx1 (blockT TB 0 (k1a1 o))
def kbo (o:k6w) (nx1:NX TB k8v) (i:HL TB.den k8v.hs):Prop:=WP TB k7c 24 0 (cA (cA (cB (cA (cB (cB kau)))))) .no (k8v.fill TB i) (k1bm o nx1)
noncomputable def k1bc (o:k6w):An TB:= .lp [] k8v (kbo o) fun nx1=> .no
noncomputable def k19u (o:k6w):An TB:= .nd [] .no [] (.nd [] (.nd [] .no [] (k1bc o)) [] .no)
noncomputable def kwr (o:k6w):An TB:= .nd [] .no [] (k19u o)
def kju (x:kyy) (o:k6w):Prop:=WPh TB k7c 24 0 kau (kwr o) (k3l.st TB x) (retTQ TB k7c k3l kfy o)
theorem k18v (o:k6w):OblH TB k7c 24 0 kau (kwr o) (retTQ TB k7c k3l kfy o):=
 OblH.ofC (X:=((∀nx i,(kbo o) nx i=(kbo o) nx i)∧(∀nx1:NX TB k8v,True)∧True)) (by kernel_rfl) ⟨fun _ _=>rfl,fun _=>trivial,trivial⟩
theorem k19b {x:kyy} {o:k6w} (h:kju x o):k3l.Snd Try.prog x o:=
 Con.soundH (c:=k3l) (C:=k7c) TBok ⟨inf_ok,all_nil,all_nil⟩ mix Try.func44 (show Try.f44.body=some kau by kernel_rfl) (show Try.f44.ntmps=24 by kernel_rfl) (show Try.f44.results.toList=kfy by kernel_rfl) rfl h (k18v o)
theorem k1c0 {p0:Int} {p1:Int} {p2:List Int} {r0:Bool} (h:
((decide (18446744069414584321≤p0)=true→
false=r0)∧
(decide (18446744069414584321≤p0)=false→
(decide (18446744069414584321≤p1)=true→
false=r0)∧
(decide (18446744069414584321≤p1)=false→
Md.Loop (p2,((p2.length:Int):Int),(0:Int),()) (kbo (r0,())))))):kju (p0,p1,p2,()) (r0,()):=WPh.of_eq (by kernel_rfl) h
def kxn (r0:Bool) (k1:Int→Prop) (s15:List Int) (s16:Int) (s17:Int):Prop:=
(decide (s17<s16)=true→
(0≤s17)∧s17<(s15.length:Int)∧let v1:Bool:=decide (18446744069414584321≤(ix s15 s17))
(v1=true→
false=r0)∧
(v1=false→
k1 (IntKind.i64.wrap (s17+1):Int)))∧
(decide (s17<s16)=false→
true=r0)
theorem k18z {r0:Bool} {s15:List Int} {s16:Int} {s17:Int} (inv:Int→Prop) (μ:Int→Nat) (h0:inv s17) (hs:∀(s17:Int),inv s17→kxn r0 (fun s17q=>inv s17q∧μ s17q<μ s17) s15 s16 s17):Md.Loop (s15,s16,s17,()) (kbo (r0,())):=
 ⟨⟨fun s:(List Int)×Int×Int×Unit=>(s.1=s15∧s.2.1=s16)∧inv s.2.2.1,fun s:(List Int)×Int×Int×Unit=>μ s.2.2.1,⟨⟨rfl,rfl⟩,h0⟩,fun(s15p,s16p,s17p,()) ⟨⟨eq0,eq1⟩,hi⟩=>by
  have eq0:s15p=s15:=eq0;subst s15p;have eq1:s16p=s16:=eq1;subst s16p;exact mpr_of (by kernel_rfl) ((congrArg (fun k=>kxn r0 k s15 s16 s17p) (lpk1 (⟨rfl,rfl⟩:s15=s15∧s16=s16) inv (fun s17q=>μ s17q<μ s17p))).mpr (hs s17p hi))⟩⟩
theorem bd44:Callable Try.prog 44:=⟨by rw[Try.func44];kernel_rfl,by rw[Try.func44];show some _≠some _;decide⟩
theorem k16f (p0:Int) (p1:Int) (p2:List Int) (h:p2.length≤9223372036854775807):kju (p0,p1,p2,()) (((decide (p0<18446744069414584321)&&(decide (p1<18446744069414584321)&&allB p2)):Bool),()):=by
 refine k1c0 ⟨fun e=> ?_,fun e=>⟨fun e2=> ?_,fun e2=> ?_⟩⟩
 ·have e:=of_decide_eq_true e
  rw[decide_eq_false (show¬p0<18446744069414584321 by omega)];rfl
 ·have e2:=of_decide_eq_true e2
  rw[decide_eq_false (show¬p1<18446744069414584321 by omega),Bool.false_and,Bool.and_false]
 have e:=of_decide_eq_false e
 have e2:=of_decide_eq_false e2
 rw[decide_eq_true (show p0<18446744069414584321 by omega),decide_eq_true (show p1<18446744069414584321 by omega),Bool.true_and,Bool.true_and]
 refine k18z (AllI (fun x=>decide (x<18446744069414584321)) p2) (fun i=>(p2.length-i).toNat) AllI.start ?_
 intro i hi
 refine⟨fun hh=> ?_,fun hh=> ?_⟩
 ·have hh:=of_decide_eq_true hh
  refine⟨hi.1,hh,?_⟩
  dsimp only
  refine⟨fun e=> ?_,fun e=> ?_⟩
  ·have e:=of_decide_eq_true e
   exact(hi.bad hh (decide_eq_false (by omega))).symm
  ·have e:=of_decide_eq_false e
   exact hi.next hh (by omega) (decide_eq_true (by omega))
 ·have hh:=of_decide_eq_false hh
  exact(hi.done hh).symm
noncomputable def kkt:Con TB.den:=k3l.fnR (fun x=>(fun(p0:Int) (p1:Int) (p2:List Int)=>p2.length≤9223372036854775807) x.1 x.2.1 x.2.2.1) fun x=>(fun(p0:Int) (p1:Int) (p2:List Int)=>(((decide (p0<18446744069414584321)&&(decide (p1<18446744069414584321)&&allB p2)):Bool),())) x.1 x.2.1 x.2.2.1
theorem kx1:kkt.Ok Try.prog TB:=Con.ok_fn k3l bd44 fun x h=>k19b (k16f x.1 x.2.1 x.2.2.1 h)
def k5z:Con TB.den:=Con.mk0 30 [.one (.d (.int .u64)),.one (.d (.int .u64)),.one (.d (.sl (.int .u64)))] [] (.tup [.one (.d (.sl (.int .u64))),.one (.d (.bool))]) []
abbrev k17q:=HL TB.den (hsT k5z.ins (hsOs k5z.pre))
abbrev kb1:=HL TB.den (hsV k5z.res (hsOs k5z.post))
noncomputable def ka4:Cx TB:=⟨inf,[kkt,kxq],[],4,[]⟩
noncomputable def kf1:Code:=Try.f30.body.getD .skip
noncomputable def kol:List ResultVar:=Try.f30.results.toList
def k1j6 (o:kb1):=qS TB ka4 40 0 (cB (cB kf1)) .no (retTQ TB ka4 k5z kol o)
def kli:Tm:=⟨[],[],[0,1,2,20],[.one (.d (.int .u64)),.one (.d (.int .u64)),.one (.d (.sl (.int .u64))),.one (.d (.bool))],0⟩
def k12t (o:kb1) (i:HL TB.den kli.hs):Prop:=ghs TB [] (kli.fill TB i) fun s=>WP TB ka4 40 0 (cB (cA (cB kf1))) .no s (k1j6 o)
structure ki0 (o:kb1) (i:HL TB.den kli.hs):Prop where
 h:k12t o i
noncomputable def k1ix (o:kb1):An TB:= .nd [] (.jn kli (ki0 o) [] .no [] .no) [] .no
noncomputable def k15j (o:kb1):An TB:= .nd [] .no [] (k1ix o)
def kri (x:k17q) (o:kb1):Prop:=WPh TB ka4 40 0 kf1 (k15j o) (k5z.st TB x) (retTQ TB ka4 k5z kol o)
theorem k1gm (o:kb1):OblH TB ka4 40 0 kf1 (k15j o) (retTQ TB ka4 k5z kol o):=
 OblH.ofC (X:=((∀i,(ki0 o) i=k12t o i)∧True)) (by kernel_rfl) ⟨fun _=>propext ⟨fun h=>h.1,fun h=>⟨h⟩⟩,trivial⟩
theorem k1gp {x:k17q} {o:kb1} (h:kri x o):k5z.Snd Try.prog x o:=
 Con.soundH (c:=k5z) (C:=ka4) TBok ⟨inf_ok,(all_cons kx1 (all_cons k1df all_nil)),all_nil⟩ mix Try.func30 (show Try.f30.body=some kf1 by kernel_rfl) (show Try.f30.ntmps=40 by kernel_rfl) (show Try.f30.results.toList=kol by kernel_rfl) rfl h (k1gm o)
theorem k1j1 {p0:Int} {p1:Int} {p2:List Int} {r0:List Int} {r1:Bool} (h:
((((p2.length:Int)==0)=true→
ki0 (r0,r1,()) (p0,p1,p2,true,()))∧
(((p2.length:Int)==0)=false→
(p2.length≤9223372036854775807)∧let r2:Bool:=(decide (p0<18446744069414584321)&&(decide (p1<18446744069414584321)&&allB p2))
ki0 (r0,r1,()) (p0,p1,p2,((!r2):Bool),())))):kri (p0,p1,p2,()) (r0,r1,()):=WPh.of_eq (by kernel_rfl) h
theorem k1cc {r0:List Int} {r1:Bool} {s0:Int} {s1:Int} {s2:List Int} {s20:Bool} (h:
((s20=true→
([]:List Int)=r0∧false=r1)∧
(s20=false→
(0≤IntKind.i64.wrap ((s2.length:Int)-1))∧IntKind.i64.wrap ((s2.length:Int)-1)≤(s2.length:Int)∧let v3:List Int:=s2.take (IntKind.i64.wrap ((s2.length:Int)-1)).toNat
((U64 s0∧U64 s1)∧Us v3∧v3.length=2)∧(0≤IntKind.i64.wrap ((s2.length:Int)-1))∧IntKind.i64.wrap ((s2.length:Int)-1)<(s2.length:Int)∧let v4:Int:=ix s2 (IntKind.i64.wrap ((s2.length:Int)-1))
(((tag2 s0 s1 (ix v3 0) (ix v3 1)) !=v4)=true→
([]:List Int)=r0∧false=r1)∧
(((tag2 s0 s1 (ix v3 0) (ix v3 1)) !=v4)=false→
(dec2 s0 s1 (ix v3 0) (ix v3 1))=r0∧true=r1)))):ki0 (r0,r1,()) (s0,s1,s2,s20,()):=⟨mpr_of (by kernel_rfl) h⟩
theorem bd30:Callable Try.prog 30:=⟨by rw[Try.func30];kernel_rfl,by rw[Try.func30];show some _≠some _;decide⟩
theorem k1eq (p0:Int) (p1:Int) (p2:List Int) (h:(U64 p0∧U64 p1)∧p0<18446744069414584321∧p1<18446744069414584321∧(Us p2∧allB p2=true∧p2.length=3)):kri (p0,p1,p2,()) (((if tag2 p0 p1 (ix p2 0) (ix p2 1)=ix p2 2 then dec2 p0 p1 (ix p2 0) (ix p2 1)else []):List Int),((decide (tag2 p0 p1 (ix p2 0) (ix p2 1)=ix p2 2)):Bool),()):=by
 obtain⟨⟨h1,h2⟩,h3,h4,h5,h6,h7⟩:=h
 match p2,h7 with
 |[x,y,z],_=>
 have ux:U64 x:=h5 x (by simp)
 have uy:U64 y:=h5 y (by simp)
 refine k1j1 ⟨fun e=>by simp at e,fun _=>⟨by simp,k1cc ⟨fun e=> ?_,fun _=>⟨by show(0:Int)≤2;decide,by show(2:Int)≤3;decide,?_⟩⟩⟩⟩
 ·rw[decide_eq_true h3,decide_eq_true h4,h6]at e;cases e
 dsimp only
 have e1:List.take (IntKind.i64.wrap (([x,y,z].length:Int)-1)).toNat [x,y,z]=[x,y]:=rfl
 have e2:(ix [x,y,z] (IntKind.i64.wrap (([x,y,z].length:Int)-1)):Int)=z:=rfl
 have e3:(ix [x,y,z] 0:Int)=x:=rfl
 have e4:(ix [x,y,z] 1:Int)=y:=rfl
 have e5:(ix [x,y,z] 2:Int)=z:=rfl
 have e6:(ix [x,y] 0:Int)=x:=rfl
 have e7:(ix [x,y] 1:Int)=y:=rfl
 rw[e1,e2,e3,e4,e5,e6,e7]
 refine⟨⟨⟨h1,h2⟩,(fun w hw=>by simp at hw;rcases hw with rfl|rfl;exact ux;exact uy),rfl⟩,by show(0:Int)≤2;decide,by show(2:Int)<3;decide,fun e=> ?_,fun e=> ?_⟩
 ·have e:¬tag2 p0 p1 x y=z:=by simpa using e
  rw[if_neg e,decide_eq_false e]
  exact⟨rfl,rfl⟩
 ·have e:tag2 p0 p1 x y=z:=by simpa using e
  rw[if_pos e,decide_eq_true e]
  exact⟨rfl,rfl⟩
noncomputable def k133:Con TB.den:=k5z.fnR (fun x=>(fun(p0:Int) (p1:Int) (p2:List Int)=>(U64 p0∧U64 p1)∧p0<18446744069414584321∧p1<18446744069414584321∧(Us p2∧allB p2=true∧p2.length=3)) x.1 x.2.1 x.2.2.1) fun x=>(fun(p0:Int) (p1:Int) (p2:List Int)=>(((if tag2 p0 p1 (ix p2 0) (ix p2 1)=ix p2 2 then dec2 p0 p1 (ix p2 0) (ix p2 1)else []):List Int),((decide (tag2 p0 p1 (ix p2 0) (ix p2 1)=ix p2 2)):Bool),())) x.1 x.2.1 x.2.2.1
theorem k1k2:k133.Ok Try.prog TB:=Con.ok_fn k5z bd30 fun x h=>k1gp (k1eq x.1 x.2.1 x.2.2.1 h)
def k39:Con TB.den:=Con.mk0 31 [.one (.d (.int .u64)),.one (.d (.int .u64)),.one (.d (.sl (.int .u64)))] [] (.one (.one (.d (.str)))) []
abbrev kuv:=HL TB.den (hsT k39.ins (hsOs k39.pre))
abbrev kf5:=HL TB.den (hsV k39.res (hsOs k39.post))
noncomputable def kaj:Cx TB:=⟨inf,[kvg],[],4,[]⟩
noncomputable def kgg:Code:=Try.f31.body.getD .skip
noncomputable def kjr:List ResultVar:=Try.f31.results.toList
noncomputable def ktx (o:kf5):An TB:= .no
def kbm (x:kuv) (o:kf5):Prop:=WPh TB kaj 12 0 kgg (ktx o) (k39.st TB x) (retTQ TB kaj k39 kjr o)
theorem k15q (o:kf5):OblH TB kaj 12 0 kgg (ktx o) (retTQ TB kaj k39 kjr o):=
 OblH.ofC (X:=True) (by kernel_rfl) trivial
theorem k152 {x:kuv} {o:kf5} (h:kbm x o):k39.Snd Try.prog x o:=
 Con.soundH (c:=k39) (C:=kaj) TBok ⟨inf_ok,(all_cons k184 all_nil),all_nil⟩ mix Try.func31 (show Try.f31.body=some kgg by kernel_rfl) (show Try.f31.ntmps=12 by kernel_rfl) (show Try.f31.results.toList=kjr by kernel_rfl) rfl h (k15q o)
theorem bd31:Callable Try.prog 31:=⟨by rw[Try.func31];kernel_rfl,by rw[Try.func31];show some _≠some _;decide⟩
noncomputable def kie:Con TB.den:=k39.relR kbm
theorem ktp:kie.Ok Try.prog TB:=Con.ok_rel k39 bd31 fun _ _ h=>k152 h
def k5k:Con TB.den:=Con.mk0 18 [.one (.ptr 0 0),.one (.d (.int .u64)),.one (.d (.int .u64)),.one (.d (.sl (.int .u64)))] [.cells [.d (.bool),.d (.int .u64),.d (.int .i64),.own 1,.mp 2,.mp 3,.mp 4],.tip (.st 1),.map (.str) (.int .i64),.map (.str) (.sl (.int .u64)),.map (.str) (.bool)] (.tup [.one (.d (.sl (.int .u64))),.one (.d (.bool))]) [.cells [.d (.bool),.d (.int .u64),.d (.int .i64),.own 1,.mp 2,.mp 3,.mp 4],.tip (.st 1),.map (.str) (.int .i64),.map (.str) (.sl (.int .u64)),.map (.str) (.bool)]
abbrev k12r:=HL TB.den (hsT k5k.ins (hsOs k5k.pre))
abbrev kl4:=HL TB.den (hsV k5k.res (hsOs k5k.post))
noncomputable def ked:Cx TB:=⟨inf,[k133,kie,kha],[],4,[]⟩
noncomputable def kmc:Code:=Try.f18.body.getD .skip
noncomputable def kr8:List ResultVar:=Try.f18.results.toList
noncomputable def k10k (o:kl4):An TB:= .no
def knn (x:k12r) (o:kl4):Prop:=WPh TB ked 38 5 kmc (k10k o) (k5k.st TB x) (retTQ TB ked k5k kr8 o)
theorem k1db (o:kl4):OblH TB ked 38 5 kmc (k10k o) (retTQ TB ked k5k kr8 o):=
 OblH.ofC (X:=True) (by kernel_rfl) trivial
theorem k1c7 {x:k12r} {o:kl4} (h:knn x o):k5k.Snd Try.prog x o:=
 Con.soundH (c:=k5k) (C:=ked) TBok ⟨inf_ok,(all_cons k1k2 (all_cons ktp (all_cons kr9 all_nil))),all_nil⟩ mix Try.func18 (show Try.f18.body=some kmc by kernel_rfl) (show Try.f18.ntmps=38 by kernel_rfl) (show Try.f18.results.toList=kr8 by kernel_rfl) rfl h (k1db o)
theorem k1g0 {p1:Int} {p2:Int} {p3:List Int} {c0_0:Bool} {c0_1:Int} {c0_2:Int} {w1:List TQuestion} {w2k:List ByteArray} {w2v:List Int} {w3k:List ByteArray} {w3v:List (List Int)} {w4k:List ByteArray} {w4v:List Bool} {r0:List Int} {r1:Bool} {d0_0:Bool} {d0_1:Int} {d0_2:Int} {e1:List TQuestion} {e2k:List ByteArray} {e2v:List Int} {e3k:List ByteArray} {e3v:List (List Int)} {e4k:List ByteArray} {e4v:List Bool} (h:
(((!c0_0)=true→
((U64 p1∧U64 p2)∧p1<18446744069414584321∧p2<18446744069414584321∧(Us p3∧allB p3=true∧p3.length=3))∧let r2:List Int:=(if tag2 p1 p2 (ix p3 0) (ix p3 1)=ix p3 2 then dec2 p1 p2 (ix p3 0) (ix p3 1)else [])
let r3:Bool:=(decide (tag2 p1 p2 (ix p3 0) (ix p3 1)=ix p3 2))
(w1=w1)∧r2=r0∧r3=r1∧c0_0=d0_0∧c0_1=d0_1∧c0_2=d0_2∧w1=e1∧w2k=e2k∧w2v=e2v∧w3k=e3k∧w3v=e3v∧w4k=e4k∧w4v=e4v)∧
((!c0_0)=false→
∃r5:ByteArray,kbm (p1,p2,p3,()) (r5,())∧w3k.length=w3v.length∧let v6:List Int:=mVal (BEq.beq r5) w3k w3v ([]:List Int)
(v6.length≤1000000000)∧(w1=w1)∧v6=r0∧mHas (BEq.beq r5) w3k=r1∧c0_0=d0_0∧c0_1=d0_1∧c0_2=d0_2∧w1=e1∧w2k=e2k∧w2v=e2v∧w3k=e3k∧w3v=e3v∧w4k=e4k∧w4v=e4v))):knn (p1,p2,p3,c0_0,c0_1,c0_2,w1,w2k,w2v,w3k,w3v,w4k,w4v,()) (r0,r1,d0_0,d0_1,d0_2,e1,e2k,e2v,e3k,e3v,e4k,e4v,()):=WPh.of_eq (by kernel_rfl) h
theorem bd18:Callable Try.prog 18:=⟨by rw[Try.func18];kernel_rfl,by rw[Try.func18];show some _≠some _;decide⟩
theorem k1c3 (p1:Int) (p2:Int) (p3:List Int) (c0_0:Bool) (c0_1:Int) (c0_2:Int) (w1:List TQuestion) (w2k:List ByteArray) (w2v:List Int) (w3k:List ByteArray) (w3v:List (List Int)) (w4k:List ByteArray) (w4v:List Bool) (h:c0_0=false∧(U64 p1∧U64 p2)∧p1<18446744069414584321∧p2<18446744069414584321∧(Us p3∧allB p3=true∧p3.length=3)):knn (p1,p2,p3,c0_0,c0_1,c0_2,w1,w2k,w2v,w3k,w3v,w4k,w4v,()) (((if tag2 p1 p2 (ix p3 0) (ix p3 1)=ix p3 2 then dec2 p1 p2 (ix p3 0) (ix p3 1)else []):List Int),((decide (tag2 p1 p2 (ix p3 0) (ix p3 1)=ix p3 2)):Bool),(((OS.mk c0_0 c0_1 c0_2 w1 w2k w2v w3k w3v w4k w4v).a):Bool),(((OS.mk c0_0 c0_1 c0_2 w1 w2k w2v w3k w3v w4k w4v).b):Int),(((OS.mk c0_0 c0_1 c0_2 w1 w2k w2v w3k w3v w4k w4v).c):Int),(((OS.mk c0_0 c0_1 c0_2 w1 w2k w2v w3k w3v w4k w4v).q):List TQuestion),(((OS.mk c0_0 c0_1 c0_2 w1 w2k w2v w3k w3v w4k w4v).k):List ByteArray),(((OS.mk c0_0 c0_1 c0_2 w1 w2k w2v w3k w3v w4k w4v).v):List Int),(((OS.mk c0_0 c0_1 c0_2 w1 w2k w2v w3k w3v w4k w4v).s):List ByteArray),(((OS.mk c0_0 c0_1 c0_2 w1 w2k w2v w3k w3v w4k w4v).t):List (List Int)),(((OS.mk c0_0 c0_1 c0_2 w1 w2k w2v w3k w3v w4k w4v).x):List ByteArray),(((OS.mk c0_0 c0_1 c0_2 w1 w2k w2v w3k w3v w4k w4v).y):List Bool),()):=by
 obtain⟨rfl,h⟩:=h
 exact k1g0 ⟨fun _=>⟨h,rfl,rfl,rfl,rfl,rfl,rfl,rfl,rfl,rfl,rfl,rfl,rfl,rfl⟩,fun e=>by cases e⟩
noncomputable def kyz:Con TB.den:=k5k.fnR (fun x=>(fun(p1:Int) (p2:Int) (p3:List Int) (c0_0:Bool) (c0_1:Int) (c0_2:Int) (w1:List TQuestion) (w2k:List ByteArray) (w2v:List Int) (w3k:List ByteArray) (w3v:List (List Int)) (w4k:List ByteArray) (w4v:List Bool)=>c0_0=false∧(U64 p1∧U64 p2)∧p1<18446744069414584321∧p2<18446744069414584321∧(Us p3∧allB p3=true∧p3.length=3)) x.1 x.2.1 x.2.2.1 x.2.2.2.1 x.2.2.2.2.1 x.2.2.2.2.2.1 x.2.2.2.2.2.2.1 x.2.2.2.2.2.2.2.1 x.2.2.2.2.2.2.2.2.1 x.2.2.2.2.2.2.2.2.2.1 x.2.2.2.2.2.2.2.2.2.2.1 x.2.2.2.2.2.2.2.2.2.2.2.1 x.2.2.2.2.2.2.2.2.2.2.2.2.1) fun x=>(fun(p1:Int) (p2:Int) (p3:List Int) (c0_0:Bool) (c0_1:Int) (c0_2:Int) (w1:List TQuestion) (w2k:List ByteArray) (w2v:List Int) (w3k:List ByteArray) (w3v:List (List Int)) (w4k:List ByteArray) (w4v:List Bool)=>(((if tag2 p1 p2 (ix p3 0) (ix p3 1)=ix p3 2 then dec2 p1 p2 (ix p3 0) (ix p3 1)else []):List Int),((decide (tag2 p1 p2 (ix p3 0) (ix p3 1)=ix p3 2)):Bool),(((OS.mk c0_0 c0_1 c0_2 w1 w2k w2v w3k w3v w4k w4v).a):Bool),(((OS.mk c0_0 c0_1 c0_2 w1 w2k w2v w3k w3v w4k w4v).b):Int),(((OS.mk c0_0 c0_1 c0_2 w1 w2k w2v w3k w3v w4k w4v).c):Int),(((OS.mk c0_0 c0_1 c0_2 w1 w2k w2v w3k w3v w4k w4v).q):List TQuestion),(((OS.mk c0_0 c0_1 c0_2 w1 w2k w2v w3k w3v w4k w4v).k):List ByteArray),(((OS.mk c0_0 c0_1 c0_2 w1 w2k w2v w3k w3v w4k w4v).v):List Int),(((OS.mk c0_0 c0_1 c0_2 w1 w2k w2v w3k w3v w4k w4v).s):List ByteArray),(((OS.mk c0_0 c0_1 c0_2 w1 w2k w2v w3k w3v w4k w4v).t):List (List Int)),(((OS.mk c0_0 c0_1 c0_2 w1 w2k w2v w3k w3v w4k w4v).x):List ByteArray),(((OS.mk c0_0 c0_1 c0_2 w1 w2k w2v w3k w3v w4k w4v).y):List Bool),())) x.1 x.2.1 x.2.2.1 x.2.2.2.1 x.2.2.2.2.1 x.2.2.2.2.2.1 x.2.2.2.2.2.2.1 x.2.2.2.2.2.2.2.1 x.2.2.2.2.2.2.2.2.1 x.2.2.2.2.2.2.2.2.2.1 x.2.2.2.2.2.2.2.2.2.2.1 x.2.2.2.2.2.2.2.2.2.2.2.1 x.2.2.2.2.2.2.2.2.2.2.2.2.1
theorem k1gf:kyz.Ok Try.prog TB:=Con.ok_fn k5k bd18 fun x h=>k1c7 (k1c3 x.1 x.2.1 x.2.2.1 x.2.2.2.1 x.2.2.2.2.1 x.2.2.2.2.2.1 x.2.2.2.2.2.2.1 x.2.2.2.2.2.2.2.1 x.2.2.2.2.2.2.2.2.1 x.2.2.2.2.2.2.2.2.2.1 x.2.2.2.2.2.2.2.2.2.2.1 x.2.2.2.2.2.2.2.2.2.2.2.1 x.2.2.2.2.2.2.2.2.2.2.2.2.1 h)
def k4k:Con TB.den:=Con.mk0 35 [.one (.ptr 0 0),.one (.d (.int .i64))] [.cells [.d (.bool),.d (.int .u64),.d (.int .i64),.own 1,.mp 2,.mp 3,.mp 4],.tip (.st 1),.map (.str) (.int .i64),.map (.str) (.sl (.int .u64)),.map (.str) (.bool)] (.one (.one (.d (.sl (.int .u64))))) [.cells [.d (.bool),.d (.int .u64),.d (.int .i64),.own 1,.mp 2,.mp 3,.mp 4],.tip (.st 1),.map (.str) (.int .i64),.map (.str) (.sl (.int .u64)),.map (.str) (.bool)]
abbrev k131:=HL TB.den (hsT k4k.ins (hsOs k4k.pre))
abbrev k7z:=HL TB.den (hsV k4k.res (hsOs k4k.post))
noncomputable def k8z:Cx TB:=⟨inf,[kpp],[],4,[]⟩
noncomputable def kc9:Code:=Try.f35.body.getD .skip
noncomputable def kjn:List ResultVar:=Try.f35.results.toList
def k1ep (o:k7z):=qS TB k8z 21 5 (cB (cB (cB kc9))) (.nd [] .no [] (.rt [.frz 5 [4]])) (retTQ TB k8z k4k kjn o)
def k9u:Tm:=⟨[0,1,2,3,4,5],[.cells [.d (.bool),.d (.int .u64),.d (.int .i64),.own 1,.mp 2,.mp 3,.mp 4],.tip (.st 1),.map (.str) (.int .i64),.map (.str) (.sl (.int .u64)),.map (.str) (.bool),.vec (.int .u64)],[0,5,10,11],[.one (.ptr 0 0),.one (.row 5),.one (.d (.int .i64)),.one (.d (.int .i64))],6⟩
def k1f5 (o:k7z) (nx1:NX TB k9u):=qM TB 5 k9u nx1 (blockT TB 0 (k1ep o))
def krd (o:k7z) (nx1:NX TB k9u) (i:HL TB.den k9u.hs):Prop:=WP TB k8z 21 5 (cA (cA (cB (cA (cB (cB kc9)))))) .no (k9u.fill TB i) (k1f5 o nx1)
noncomputable def k1fy (o:k7z):An TB:= .nd [] .no [] (.lp [] k9u (krd o) fun nx1=> .no)
noncomputable def k1es (o:k7z):An TB:= .nd [] (k1fy o) [] (.nd [] .no [] (.rt [.frz 5 [4]]))
noncomputable def k10w (o:k7z):An TB:= .nd [] .no [] (.nd [] .no [] (k1es o))
def klu (x:k131) (o:k7z):Prop:=WPh TB k8z 21 5 kc9 (k10w o) (k4k.st TB x) (retTQ TB k8z k4k kjn o)
theorem k1d6 (o:k7z):OblH TB k8z 21 5 kc9 (k10w o) (retTQ TB k8z k4k kjn o):=
 OblH.ofC (X:=((∀nx i,(krd o) nx i=(krd o) nx i)∧(∀nx1:NX TB k9u,True)∧True)) (by kernel_rfl) ⟨fun _ _=>rfl,fun _=>trivial,trivial⟩
theorem k1cp {x:k131} {o:k7z} (h:klu x o):k4k.Snd Try.prog x o:=
 Con.soundH (c:=k4k) (C:=k8z) TBok ⟨inf_ok,(all_cons k10z all_nil),all_nil⟩ mix Try.func35 (show Try.f35.body=some kc9 by kernel_rfl) (show Try.f35.ntmps=21 by kernel_rfl) (show Try.f35.results.toList=kjn by kernel_rfl) rfl h (k1d6 o)
theorem bd35:Callable Try.prog 35:=⟨by rw[Try.func35];kernel_rfl,by rw[Try.func35];show some _≠some _;decide⟩
noncomputable def kza:Con TB.den:=k4k.relR klu
theorem k1ed:kza.Ok Try.prog TB:=Con.ok_rel k4k bd35 fun _ _ h=>k1cp h
def k5y:Con TB.den:=Con.mk0 33 [.one (.d (.int .u64)),.one (.d (.int .u64)),.one (.d (.sl (.int .u64)))] [] (.one (.one (.d (.sl (.int .u64))))) []
abbrev k179:=HL TB.den (hsT k5y.ins (hsOs k5y.pre))
abbrev k5a:=HL TB.den (hsV k5y.res (hsOs k5y.post))
noncomputable def k7q:Cx TB:=⟨inf,[kkt,krv,kd0,k97],[],4,[]⟩
noncomputable def k9x:Code:=Try.f33.body.getD .skip
noncomputable def koh:List ResultVar:=Try.f33.results.toList
def k15p (o:k5a):=qS TB k7q 69 0 (cB (cB (cB (cB (cB (cB k9x)))))) .no (retTQ TB k7q k5y koh o)
def k4e:Tm:=⟨[0,1,3],[.cells [.d (.int .u64)],.cells [.d (.int .u64),.d (.int .u64),.d (.int .u64)],.tip (.int .u64)],[2,7,8,9,27,28,29],[.one (.d (.sl (.int .u64))),.one (.ptr 0 0),.one (.ptr 1 0),.one (.own 2),.one (.d (.sl (.int .u64))),.one (.d (.int .i64)),.one (.d (.int .i64))],4⟩
def k1k0 (o:k5a) (nx1:NX TB k4e):=qS TB k7q 69 0 (cB (cB (cB (cA (cA (cB (cA (cB (cB (cB (cB (cB k9x)))))))))))) .no (qM TB 0 k4e nx1 (blockT TB 0 (k15p o)))
def klh:Tm:=⟨[0,1,3],[.cells [.d (.int .u64)],.cells [.d (.int .u64),.d (.int .u64),.d (.int .u64)],.tip (.int .u64)],[2,7,8,9,27,28,29,60],[.one (.d (.sl (.int .u64))),.one (.ptr 0 0),.one (.ptr 1 0),.one (.own 2),.one (.d (.sl (.int .u64))),.one (.d (.int .i64)),.one (.d (.int .i64)),.one (.d (.bool))],49⟩
def k13i (o:k5a) (nx1:NX TB k4e) (i:HL TB.den klh.hs):Prop:=ghs TB [] (klh.fill TB i) fun s=>WP TB k7q 69 0 (cB (cB (cB (cB (cA (cA (cB (cB (cA (cA (cB (cA (cB (cB (cB (cB (cB k9x))))))))))))))))) .no s (blockT TB 1 (k1k0 o nx1))
structure kiy (o:k5a) (nx1:NX TB k4e) (i:HL TB.den klh.hs):Prop where
 h:k13i o nx1 i
noncomputable def k1j9 (o:k5a) (nx1:NX TB k4e):An TB:= .nd [] .no [] (.jn klh (kiy o nx1) [] .no [] .no)
noncomputable def k15i (o:k5a) (nx1:NX TB k4e):An TB:= .nd [] (.nd [] .no [] (.nd [] .no [] (k1j9 o nx1))) [] .no
def ki4 (o:k5a) (nx1:NX TB k4e) (i:HL TB.den k4e.hs):Prop:=WP TB k7q 69 0 (cA (cA (cB (cA (cB (cB (cB (cB (cB k9x))))))))) (.nd [] .no [] (.nd [] .no [] (k15i o nx1))) (k4e.fill TB i) (qM TB 0 k4e nx1 (blockT TB 0 (k15p o)))
noncomputable def k1jo (o:k5a):An TB:= .lp [.frz 2 [9]] k4e (ki4 o) fun nx1=>(.nd [] .no [] (.nd [] .no [] (k15i o nx1)))
noncomputable def k1it (o:k5a):An TB:= .nd [] .no [] (.nd [] (.nd [] .no [] (k1jo o)) [] .no)
noncomputable def k1i8 (o:k5a):An TB:= .nd [] .no [] (.nd [] .no [] (.nd [] .no [] (k1it o)))
noncomputable def k14w (o:k5a):An TB:= .nd [] .no [] (k1i8 o)
def kqz (x:k179) (o:k5a):Prop:=WPh TB k7q 69 0 k9x (k14w o) (k5y.st TB x) (retTQ TB k7q k5y koh o)
theorem k1ht (o:k5a):OblH TB k7q 69 0 k9x (k14w o) (retTQ TB k7q k5y koh o):=
 OblH.ofC (X:=((∀nx i,(ki4 o) nx i=(ki4 o) nx i)∧(∀nx1:NX TB k4e,((∀i,(kiy o nx1) i=k13i o nx1 i)∧True))∧True)) (by kernel_rfl) ⟨fun _ _=>rfl,fun _=>⟨fun _=>propext ⟨fun h=>h.1,fun h=>⟨h⟩⟩,trivial⟩,trivial⟩
theorem k1gr {x:k179} {o:k5a} (h:kqz x o):k5y.Snd Try.prog x o:=
 Con.soundH (c:=k5y) (C:=k7q) TBok ⟨inf_ok,(all_cons kx1 (all_cons k13o (all_cons kj0 (all_cons kbi all_nil)))),all_nil⟩ mix Try.func33 (show Try.f33.body=some k9x by kernel_rfl) (show Try.f33.ntmps=69 by kernel_rfl) (show Try.f33.results.toList=koh by kernel_rfl) rfl h (k1ht o)
theorem k1iv {p0:Int} {p1:Int} {p2:List Int} {r0:List Int} (h:
((p2.length≤9223372036854775807)∧let r1:Bool:=(decide (p0<18446744069414584321)&&(decide (p1<18446744069414584321)&&allB p2))
((!r1)=true→
([]:List Int)=r0)∧
((!r1)=false→
(U64 p0∧U64 p1∧(p2.length:Int)=2)∧0≤(0:Int)∧(0:Int)≤IntKind.i64.wrap ((p2.length:Int)+1)∧((IntKind.i64.wrap ((p2.length:Int)+1)).toNat*8≤140737488355328)∧((IntKind.i64.wrap ((p2.length:Int)+1)).toNat≤maxLen)∧(0=(List.replicate 0 (0:Int)).length)∧(List.replicate 0 (0:Int)=List.replicate 0 (0:Int))∧Md.Loop (p2,p2,((p2.length:Int):Int),(0:Int),(18446744069414584321:Int),((st2 p0 p1).a0:Int),((st2 p0 p1).a1:Int),((st2 p0 p1).a2:Int),(List.replicate 0 (0:Int):List Int),()) (ki4 (r0,()))))):kqz (p0,p1,p2,()) (r0,()):=WPh.of_eq (by kernel_rfl) h
theorem kzj {r0:List Int} {nx1:NX TB k4e} {s2:List Int} {s27:List Int} {s28:Int} {s29:Int} {s60:Bool} {h0_0:Int} {h1_0:Int} {h1_1:Int} {h1_2:Int} {g3:List Int} (h:
((s60=true→
((18446744069414584321:Int)=18446744069414584321∧S3 (TA3.mk h1_0 h1_1 h1_2))∧(g3=g3)∧nx1 (s2,s27,s28,(IntKind.i64.wrap (s29+1):Int),h0_0,((permS (TA3.mk h1_0 h1_1 h1_2)).a0:Int),((permS (TA3.mk h1_0 h1_1 h1_2)).a1:Int),((permS (TA3.mk h1_0 h1_1 h1_2)).a2:Int),g3,()))∧
(s60=false→
(g3=g3)∧nx1 (s2,s27,s28,(IntKind.i64.wrap (s29+1):Int),h0_0,h1_0,h1_1,h1_2,g3,())))):kiy (r0,()) nx1 (s2,s27,s28,s29,s60,h0_0,h1_0,h1_1,h1_2,g3,()):=⟨mpr_of (by kernel_rfl) h⟩
def k15v (r0:List Int) (nx1:NX TB k4e) (k1:Int→Int→Int→Int→List Int→Prop) (s2:List Int) (s27:List Int) (s28:Int) (h0_0:Int) (s29:Int) (h1_0:Int) (h1_1:Int) (h1_2:Int) (g3:List Int):Prop:=
(decide (s29<s28)=true→
(0≤s29)∧s29<(s27.length:Int)∧(0≤Int.tmod s29 2∧Int.tmod s29 2<(3:Int))∧(0≤Int.tmod s29 2∧Int.tmod s29 2<(3:Int))∧((TField.mk h0_0).P=18446744069414584321∧U64 (ix [h1_0,h1_1,h1_2] (Int.tmod s29 2))∧U64 (ix s27 s29))∧let r2:Int:=(((ix [h1_0,h1_1,h1_2] (Int.tmod s29 2))+(ix s27 s29))%18446744069414584321)
(0≤Int.tmod s29 2∧Int.tmod s29 2<(3:Int))∧(0≤Int.tmod s29 2∧Int.tmod s29 2<(3:Int))∧(0≤Int.tmod s29 2∧Int.tmod s29 2<(3:Int))∧(0≤Int.tmod s29 2∧Int.tmod s29 2<(3:Int))∧let v3:Int:=ix [(bif decide (Int.tmod s29 2=(0:Int))then r2 else h1_0),(bif decide (Int.tmod s29 2=(1:Int))then r2 else h1_1),(bif decide (Int.tmod s29 2=(2:Int))then r2 else h1_2)] (Int.tmod s29 2)
g3.length=g3.length∧(g3.length+[v3].length)*8≤140737488355328∧g3.length+[v3].length≤maxLen∧(((Int.tmod s29 2)==1)=true→
(g3++[v3]=g3++[v3])∧kiy (r0,()) nx1 (s2,s27,s28,s29,true,h0_0,((bif decide (Int.tmod s29 2=(0:Int))then r2 else h1_0):Int),((bif decide (Int.tmod s29 2=(1:Int))then r2 else h1_1):Int),((bif decide (Int.tmod s29 2=(2:Int))then r2 else h1_2):Int),(g3++[v3]:List Int),()))∧
(((Int.tmod s29 2)==1)=false→
let v4:Bool:=(s29==(IntKind.i64.wrap ((s2.length:Int)-1)))
(g3++[v3]=g3++[v3])∧kiy (r0,()) nx1 (s2,s27,s28,s29,v4,h0_0,((bif decide (Int.tmod s29 2=(0:Int))then r2 else h1_0):Int),((bif decide (Int.tmod s29 2=(1:Int))then r2 else h1_1):Int),((bif decide (Int.tmod s29 2=(2:Int))then r2 else h1_2):Int),(g3++[v3]:List Int),())))∧
(decide (s29<s28)=false→
g3.length=g3.length∧(g3.length+[h1_0].length)*8≤140737488355328∧g3.length+[h1_0].length≤maxLen∧g3++[h1_0]=r0)
theorem k1hw {r0:List Int} {s2:List Int} {s27:List Int} {s28:Int} {h0_0:Int} {s29:Int} {h1_0:Int} {h1_1:Int} {h1_2:Int} {g3:List Int} (inv:Int→Int→Int→Int→List Int→Prop) (μ:Int→Int→Int→Int→List Int→Nat) (h0:inv s29 h1_0 h1_1 h1_2 g3) (hs:∀(s29:Int) (h1_0:Int) (h1_1:Int) (h1_2:Int) (g3:List Int),inv s29 h1_0 h1_1 h1_2 g3→k15v r0 (fun s:(List Int)×(List Int)×Int×Int×Int×Int×Int×Int×(List Int)×Unit=>((s.1=s2∧s.2.1=s27∧s.2.2.1=s28∧s.2.2.2.2.1=h0_0)∧inv s.2.2.2.1 s.2.2.2.2.2.1 s.2.2.2.2.2.2.1 s.2.2.2.2.2.2.2.1 s.2.2.2.2.2.2.2.2.1)∧μ s.2.2.2.1 s.2.2.2.2.2.1 s.2.2.2.2.2.2.1 s.2.2.2.2.2.2.2.1 s.2.2.2.2.2.2.2.2.1<μ s29 h1_0 h1_1 h1_2 g3) (fun s29q h1_0q h1_1q h1_2q g3q=>inv s29q h1_0q h1_1q h1_2q g3q∧μ s29q h1_0q h1_1q h1_2q g3q<μ s29 h1_0 h1_1 h1_2 g3) s2 s27 s28 h0_0 s29 h1_0 h1_1 h1_2 g3):Md.Loop (s2,s27,s28,s29,h0_0,h1_0,h1_1,h1_2,g3,()) (ki4 (r0,())):=
 ⟨⟨fun s:(List Int)×(List Int)×Int×Int×Int×Int×Int×Int×(List Int)×Unit=>(s.1=s2∧s.2.1=s27∧s.2.2.1=s28∧s.2.2.2.2.1=h0_0)∧inv s.2.2.2.1 s.2.2.2.2.2.1 s.2.2.2.2.2.2.1 s.2.2.2.2.2.2.2.1 s.2.2.2.2.2.2.2.2.1,fun s:(List Int)×(List Int)×Int×Int×Int×Int×Int×Int×(List Int)×Unit=>μ s.2.2.2.1 s.2.2.2.2.2.1 s.2.2.2.2.2.2.1 s.2.2.2.2.2.2.2.1 s.2.2.2.2.2.2.2.2.1,⟨⟨rfl,rfl,rfl,rfl⟩,h0⟩,fun(s2p,s27p,s28p,s29p,h0_0p,h1_0p,h1_1p,h1_2p,g3p,()) ⟨⟨eq0,eq1,eq2,eq3⟩,hi⟩=>by
  have eq0:s2p=s2:=eq0;subst s2p;have eq1:s27p=s27:=eq1;subst s27p;have eq2:s28p=s28:=eq2;subst s28p;have eq3:h0_0p=h0_0:=eq3;subst h0_0p;exact mpr_of (by kernel_rfl) ((congrArg (fun k=>k15v r0 (fun s:(List Int)×(List Int)×Int×Int×Int×Int×Int×Int×(List Int)×Unit=>((s.1=s2∧s.2.1=s27∧s.2.2.1=s28∧s.2.2.2.2.1=h0_0)∧inv s.2.2.2.1 s.2.2.2.2.2.1 s.2.2.2.2.2.2.1 s.2.2.2.2.2.2.2.1 s.2.2.2.2.2.2.2.2.1)∧μ s.2.2.2.1 s.2.2.2.2.2.1 s.2.2.2.2.2.2.1 s.2.2.2.2.2.2.2.1 s.2.2.2.2.2.2.2.2.1<μ s29p h1_0p h1_1p h1_2p g3p) k s2 s27 s28 h0_0 s29p h1_0p h1_1p h1_2p g3p) (lpk5 (⟨rfl,rfl,rfl,rfl⟩:s2=s2∧s27=s27∧s28=s28∧h0_0=h0_0) inv (fun s29q h1_0q h1_1q h1_2q g3q=>μ s29q h1_0q h1_1q h1_2q g3q<μ s29p h1_0p h1_1p h1_2p g3p))).mpr (hs s29p h1_0p h1_1p h1_2p g3p hi))⟩⟩
theorem bd33:Callable Try.prog 33:=⟨by rw[Try.func33];kernel_rfl,by rw[Try.func33];show some _≠some _;decide⟩
theorem k1g5 (p0:Int) (p1:Int) (p2:List Int) (h:(U64 p0∧U64 p1)∧p0<18446744069414584321∧p1<18446744069414584321∧(Us p2∧allB p2=true∧p2.length=2)):kqz (p0,p1,p2,()) (((seal2 p0 p1 (ix p2 0) (ix p2 1)):List Int),()):=by
 obtain⟨⟨h1,h2⟩,h3,h4,h5,h6,h7⟩:=h
 match p2,h7 with
 |[x,y],_=>
 have ux:U64 x:=h5 x (by simp)
 have uy:U64 y:=h5 y (by simp)
 have hr:=kbn ⟨p0,p1,786434⟩
 refine k1iv ⟨by simp,fun e=> ?_,fun _=>⟨⟨h1,h2,rfl⟩,by decide,(by show(0:Int)≤3;decide),(by show(3:Nat)*8≤_;decide),(by show(3:Nat)≤maxLen;decide),rfl,rfl,?_⟩⟩
 ·rw[decide_eq_true h3,decide_eq_true h4,h6]at e;cases e
 have ex:(ix [x,y] 0:Int)=x:=rfl
 have ey:(ix [x,y] 1:Int)=y:=rfl
 rw[ex,ey]
 generalize hs:st2 p0 p1=s at *
 have hr:S3 s:=by rw[←hs];exact hr
 refine k1hw (fun i a b c g=>(i=0∧a=s.a0∧b=s.a1∧c=s.a2∧g=[])∨(i=1∧a=(s.a0+x)%18446744069414584321∧b=s.a1∧c=s.a2∧g=[(s.a0+x)%18446744069414584321])∨
  (i=2∧a=(permS ⟨(s.a0+x)%18446744069414584321,(s.a1+y)%18446744069414584321,s.a2⟩).a0∧g=[(s.a0+x)%18446744069414584321,(s.a1+y)%18446744069414584321])) (fun i _ _ _ _=>(2-i).toNat) (.inl ⟨rfl,rfl,rfl,rfl,rfl⟩) ?_
 rintro i a b c g (⟨rfl,rfl,rfl,rfl,rfl⟩|⟨rfl,rfl,rfl,rfl,rfl⟩|⟨rfl,rfl,rfl⟩)
 ·refine⟨fun _=>⟨by decide,(by simp),⟨by decide,(by first|decide|simp)⟩,⟨by decide,(by first|decide|simp)⟩,⟨rfl,hr.1,ux⟩,⟨by decide,(by first|decide|simp)⟩,⟨by decide,(by first|decide|simp)⟩,⟨by decide,(by first|decide|simp)⟩,⟨by decide,(by first|decide|simp)⟩,rfl,(by simp),(by simp;unfold maxLen;omega),(fun h=>by simp at h),fun _=>⟨rfl,kzj ⟨(fun h=>absurd h (by show¬((0:Int)==IntKind.i64.wrap (2-1))=true;decide)),fun _=>⟨rfl,?_⟩⟩⟩⟩,(fun h=>by simp at h)⟩
  refine⟨⟨⟨rfl,rfl,rfl,rfl⟩,.inr (.inl ⟨rfl,rfl,rfl,rfl,rfl⟩)⟩,(by show(1:Nat)<2;decide)⟩
 ·refine⟨fun _=>⟨by decide,(by simp),⟨by decide,(by first|decide|simp)⟩,⟨by decide,(by first|decide|simp)⟩,⟨rfl,hr.2.1,uy⟩,⟨by decide,(by first|decide|simp)⟩,⟨by decide,(by first|decide|simp)⟩,⟨by decide,(by first|decide|simp)⟩,⟨by decide,(by first|decide|simp)⟩,rfl,(by simp),(by simp;unfold maxLen;omega),fun _=>⟨rfl,kzj ⟨fun _=>⟨⟨rfl,?_⟩,rfl,?_⟩,(fun h=>by cases h)⟩⟩,(fun h=>by simp at h)⟩,(fun h=>by simp at h)⟩
  ·show S3 ⟨(s.a0+x)%18446744069414584321,(s.a1+y)%18446744069414584321,s.a2⟩
   exact S3m (by omega) (by omega) hr.2.2
  ·exact⟨⟨⟨rfl,rfl,rfl,rfl⟩,.inr (.inr ⟨rfl,rfl,rfl⟩)⟩,(by show(0:Nat)<1;decide)⟩
 ·exact⟨(fun h=>by simp at h),fun _=>⟨rfl,(by simp),(by simp;unfold maxLen;omega),by unfold seal2;rw[hs];rfl⟩⟩
noncomputable def k12y:Con TB.den:=k5y.fnR (fun x=>(fun(p0:Int) (p1:Int) (p2:List Int)=>(U64 p0∧U64 p1)∧p0<18446744069414584321∧p1<18446744069414584321∧(Us p2∧allB p2=true∧p2.length=2)) x.1 x.2.1 x.2.2.1) fun x=>(fun(p0:Int) (p1:Int) (p2:List Int)=>(((seal2 p0 p1 (ix p2 0) (ix p2 1)):List Int),())) x.1 x.2.1 x.2.2.1
theorem k1jk:k12y.Ok Try.prog TB:=Con.ok_fn k5y bd33 fun x h=>k1gr (k1g5 x.1 x.2.1 x.2.2.1 h)
def k5e:Con TB.den:=Con.mk0 19 [.one (.ptr 0 0),.one (.d (.int .u64)),.one (.d (.int .u64)),.one (.d (.sl (.int .u64)))] [.cells [.d (.bool),.d (.int .u64),.d (.int .i64),.own 1,.mp 2,.mp 3,.mp 4],.tip (.st 1),.map (.str) (.int .i64),.map (.str) (.sl (.int .u64)),.map (.str) (.bool)] (.one (.one (.d (.sl (.int .u64))))) [.cells [.d (.bool),.d (.int .u64),.d (.int .i64),.own 1,.mp 2,.mp 3,.mp 4],.tip (.st 1),.map (.str) (.int .i64),.map (.str) (.sl (.int .u64)),.map (.str) (.bool)]
abbrev k13l:=HL TB.den (hsT k5e.ins (hsOs k5e.pre))
abbrev kll:=HL TB.den (hsV k5e.res (hsOs k5e.post))
noncomputable def kew:Cx TB:=⟨inf,[k12y,kkl,kza,kie,kha],[],4,[]⟩
noncomputable def kn8:Code:=Try.f19.body.getD .skip
noncomputable def krx:List ResultVar:=Try.f19.results.toList
noncomputable def k10t (o:kll):An TB:= .no
def kn9 (x:k13l) (o:kll):Prop:=WPh TB kew 61 5 kn8 (k10t o) (k5e.st TB x) (retTQ TB kew k5e krx o)
theorem k1c8 (o:kll):OblH TB kew 61 5 kn8 (k10t o) (retTQ TB kew k5e krx o):=
 OblH.ofC (X:=True) (by kernel_rfl) trivial
theorem k1d8 {x:k13l} {o:kll} (h:kn9 x o):k5e.Snd Try.prog x o:=
 Con.soundH (c:=k5e) (C:=kew) TBok ⟨inf_ok,(all_cons k1jk (all_cons kx7 (all_cons k1ed (all_cons ktp (all_cons kr9 all_nil))))),all_nil⟩ mix Try.func19 (show Try.f19.body=some kn8 by kernel_rfl) (show Try.f19.ntmps=61 by kernel_rfl) (show Try.f19.results.toList=krx by kernel_rfl) rfl h (k1c8 o)
theorem k1fp {p1:Int} {p2:Int} {p3:List Int} {c0_0:Bool} {c0_1:Int} {c0_2:Int} {w1:List TQuestion} {w2k:List ByteArray} {w2v:List Int} {w3k:List ByteArray} {w3v:List (List Int)} {w4k:List ByteArray} {w4v:List Bool} {r0:List Int} {d0_0:Bool} {d0_1:Int} {d0_2:Int} {e1:List TQuestion} {e2k:List ByteArray} {e2v:List Int} {e3k:List ByteArray} {e3v:List (List Int)} {e4k:List ByteArray} {e4v:List Bool} (h:
(((!c0_0)=true→
((U64 p1∧U64 p2)∧p1<18446744069414584321∧p2<18446744069414584321∧(Us p3∧allB p3=true∧p3.length=2))∧(w1=w1)∧(seal2 p1 p2 (ix p3 0) (ix p3 1))=r0∧c0_0=d0_0∧c0_1=d0_1∧c0_2=d0_2∧w1=e1∧w2k=e2k∧w2v=e2v∧w3k=e3k∧w3v=e3v∧w4k=e4k∧w4v=e4v)∧
((!c0_0)=false→
(decide (18446744069414584321≤p1)=true→
(w1=w1)∧([]:List Int)=r0∧c0_0=d0_0∧c0_1=d0_1∧c0_2=d0_2∧w1=e1∧w2k=e2k∧w2v=e2v∧w3k=e3k∧w3v=e3v∧w4k=e4k∧w4v=e4v)∧
(decide (18446744069414584321≤p1)=false→
(decide (18446744069414584321≤p2)=true→
(w1=w1)∧([]:List Int)=r0∧c0_0=d0_0∧c0_1=d0_1∧c0_2=d0_2∧w1=e1∧w2k=e2k∧w2v=e2v∧w3k=e3k∧w3v=e3v∧w4k=e4k∧w4v=e4v)∧
(decide (18446744069414584321≤p2)=false→
(p3.length≤9223372036854775807)∧((!(allB p3))=true→
(w1=w1)∧([]:List Int)=r0∧c0_0=d0_0∧c0_1=d0_1∧c0_2=d0_2∧w1=e1∧w2k=e2k∧w2v=e2v∧w3k=e3k∧w3v=e3v∧w4k=e4k∧w4v=e4v)∧
((!(allB p3))=false→
(w1=w1)∧∃r12:List Int,∃r13:Bool,∃r14:Int,∃r15:Int,∃r16:List TQuestion,∃r17:List ByteArray,∃r18:List Int,∃r19:List ByteArray,∃r20:List (List Int),∃r21:List ByteArray,∃r22:List Bool,klu ((IntKind.i64.wrap ((p3.length:Int)+1):Int),c0_0,c0_1,c0_2,w1,w2k,w2v,w3k,w3v,w4k,w4v,()) (r12,r13,r14,r15,r16,r17,r18,r19,r20,r21,r22,())∧∃r24:ByteArray,kbm (p1,p2,r12,()) (r24,())∧r19.length=r20.length∧let v25:List Int:=mVal (BEq.beq r24) r19 r20 ([]:List Int)
((!mHas (BEq.beq r24) r19)=true→
(p3.length≤1000000000)∧r19.length=r20.length∧let v26:List ByteArray:=mPutK (BEq.beq r24) r19 r24
let v27:List (List Int):=mPutV (BEq.beq r24) r19 r20 p3
(r16=r16)∧r12=r0∧r13=d0_0∧r14=d0_1∧r15=d0_2∧r16=e1∧r17=e2k∧r18=e2v∧v26=e3k∧v27=e3v∧r21=e4k∧r22=e4v)∧
((!mHas (BEq.beq r24) r19)=false→
(r16=r16)∧r12=r0∧r13=d0_0∧r14=d0_1∧r15=d0_2∧r16=e1∧r17=e2k∧r18=e2v∧r19=e3k∧r20=e3v∧r21=e4k∧r22=e4v))))))):kn9 (p1,p2,p3,c0_0,c0_1,c0_2,w1,w2k,w2v,w3k,w3v,w4k,w4v,()) (r0,d0_0,d0_1,d0_2,e1,e2k,e2v,e3k,e3v,e4k,e4v,()):=WPh.of_eq (by kernel_rfl) h
theorem bd19:Callable Try.prog 19:=⟨by rw[Try.func19];kernel_rfl,by rw[Try.func19];show some _≠some _;decide⟩
theorem k19z (p1:Int) (p2:Int) (p3:List Int) (c0_0:Bool) (c0_1:Int) (c0_2:Int) (w1:List TQuestion) (w2k:List ByteArray) (w2v:List Int) (w3k:List ByteArray) (w3v:List (List Int)) (w4k:List ByteArray) (w4v:List Bool) (h:c0_0=false∧(U64 p1∧U64 p2)∧p1<18446744069414584321∧p2<18446744069414584321∧(Us p3∧allB p3=true∧p3.length=2)):kn9 (p1,p2,p3,c0_0,c0_1,c0_2,w1,w2k,w2v,w3k,w3v,w4k,w4v,()) (((seal2 p1 p2 (ix p3 0) (ix p3 1)):List Int),(((OS.mk c0_0 c0_1 c0_2 w1 w2k w2v w3k w3v w4k w4v).a):Bool),(((OS.mk c0_0 c0_1 c0_2 w1 w2k w2v w3k w3v w4k w4v).b):Int),(((OS.mk c0_0 c0_1 c0_2 w1 w2k w2v w3k w3v w4k w4v).c):Int),(((OS.mk c0_0 c0_1 c0_2 w1 w2k w2v w3k w3v w4k w4v).q):List TQuestion),(((OS.mk c0_0 c0_1 c0_2 w1 w2k w2v w3k w3v w4k w4v).k):List ByteArray),(((OS.mk c0_0 c0_1 c0_2 w1 w2k w2v w3k w3v w4k w4v).v):List Int),(((OS.mk c0_0 c0_1 c0_2 w1 w2k w2v w3k w3v w4k w4v).s):List ByteArray),(((OS.mk c0_0 c0_1 c0_2 w1 w2k w2v w3k w3v w4k w4v).t):List (List Int)),(((OS.mk c0_0 c0_1 c0_2 w1 w2k w2v w3k w3v w4k w4v).x):List ByteArray),(((OS.mk c0_0 c0_1 c0_2 w1 w2k w2v w3k w3v w4k w4v).y):List Bool),()):=by
 obtain⟨rfl,h⟩:=h
 exact k1fp ⟨fun _=>⟨h,rfl,rfl,rfl,rfl,rfl,rfl,rfl,rfl,rfl,rfl,rfl,rfl⟩,fun e=>by cases e⟩
noncomputable def kzi:Con TB.den:=k5e.fnR (fun x=>(fun(p1:Int) (p2:Int) (p3:List Int) (c0_0:Bool) (c0_1:Int) (c0_2:Int) (w1:List TQuestion) (w2k:List ByteArray) (w2v:List Int) (w3k:List ByteArray) (w3v:List (List Int)) (w4k:List ByteArray) (w4v:List Bool)=>c0_0=false∧(U64 p1∧U64 p2)∧p1<18446744069414584321∧p2<18446744069414584321∧(Us p3∧allB p3=true∧p3.length=2)) x.1 x.2.1 x.2.2.1 x.2.2.2.1 x.2.2.2.2.1 x.2.2.2.2.2.1 x.2.2.2.2.2.2.1 x.2.2.2.2.2.2.2.1 x.2.2.2.2.2.2.2.2.1 x.2.2.2.2.2.2.2.2.2.1 x.2.2.2.2.2.2.2.2.2.2.1 x.2.2.2.2.2.2.2.2.2.2.2.1 x.2.2.2.2.2.2.2.2.2.2.2.2.1) fun x=>(fun(p1:Int) (p2:Int) (p3:List Int) (c0_0:Bool) (c0_1:Int) (c0_2:Int) (w1:List TQuestion) (w2k:List ByteArray) (w2v:List Int) (w3k:List ByteArray) (w3v:List (List Int)) (w4k:List ByteArray) (w4v:List Bool)=>(((seal2 p1 p2 (ix p3 0) (ix p3 1)):List Int),(((OS.mk c0_0 c0_1 c0_2 w1 w2k w2v w3k w3v w4k w4v).a):Bool),(((OS.mk c0_0 c0_1 c0_2 w1 w2k w2v w3k w3v w4k w4v).b):Int),(((OS.mk c0_0 c0_1 c0_2 w1 w2k w2v w3k w3v w4k w4v).c):Int),(((OS.mk c0_0 c0_1 c0_2 w1 w2k w2v w3k w3v w4k w4v).q):List TQuestion),(((OS.mk c0_0 c0_1 c0_2 w1 w2k w2v w3k w3v w4k w4v).k):List ByteArray),(((OS.mk c0_0 c0_1 c0_2 w1 w2k w2v w3k w3v w4k w4v).v):List Int),(((OS.mk c0_0 c0_1 c0_2 w1 w2k w2v w3k w3v w4k w4v).s):List ByteArray),(((OS.mk c0_0 c0_1 c0_2 w1 w2k w2v w3k w3v w4k w4v).t):List (List Int)),(((OS.mk c0_0 c0_1 c0_2 w1 w2k w2v w3k w3v w4k w4v).x):List ByteArray),(((OS.mk c0_0 c0_1 c0_2 w1 w2k w2v w3k w3v w4k w4v).y):List Bool),())) x.1 x.2.1 x.2.2.1 x.2.2.2.1 x.2.2.2.2.1 x.2.2.2.2.2.1 x.2.2.2.2.2.2.1 x.2.2.2.2.2.2.2.1 x.2.2.2.2.2.2.2.2.1 x.2.2.2.2.2.2.2.2.2.1 x.2.2.2.2.2.2.2.2.2.2.1 x.2.2.2.2.2.2.2.2.2.2.2.1 x.2.2.2.2.2.2.2.2.2.2.2.2.1
theorem k1fz:kzi.Ok Try.prog TB:=Con.ok_fn k5e bd19 fun x h=>k1d8 (k19z x.1 x.2.1 x.2.2.1 x.2.2.2.1 x.2.2.2.2.1 x.2.2.2.2.2.1 x.2.2.2.2.2.2.1 x.2.2.2.2.2.2.2.1 x.2.2.2.2.2.2.2.2.1 x.2.2.2.2.2.2.2.2.2.1 x.2.2.2.2.2.2.2.2.2.2.1 x.2.2.2.2.2.2.2.2.2.2.2.1 x.2.2.2.2.2.2.2.2.2.2.2.2.1 h)
theorem bd17:Callable Try.prog 17:=⟨by rw[Try.func17];kernel_rfl,by rw[Try.func17];show some _≠some _;decide⟩
def k5n:Con TB.den:=Con.mk0 17 [] [] (.one (.one (.ptr 0 0))) [.cells [.d (.bool),.d (.int .u64),.d (.int .i64),.own 1,.mp 2,.mp 3,.mp 4],.tip (.st 1),.map (.str) (.int .i64),.map (.str) (.sl (.int .u64)),.map (.str) (.bool)]
abbrev k12z:=HL TB.den (hsT k5n.ins (hsOs k5n.pre))
abbrev klj:=HL TB.den (hsV k5n.res (hsOs k5n.post))
noncomputable def ket:Cx TB:=⟨inf,[kgh],[],4,[]⟩
noncomputable def klr:Code:=Try.f17.body.getD .skip
noncomputable def kqt:List ResultVar:=Try.f17.results.toList
noncomputable def k118 (o:klj):An TB:= .no
def kn0 (x:k12z) (o:klj):Prop:=WPh TB ket 2 0 klr (k118 o) (k5n.st TB x) (retTQ TB ket k5n kqt o)
theorem k1c9 (o:klj):OblH TB ket 2 0 klr (k118 o) (retTQ TB ket k5n kqt o):=
 OblH.ofC (X:=True) (by kernel_rfl) trivial
theorem k1d1 {x:k12z} {o:klj} (h:kn0 x o):k5n.Snd Try.prog x o:=
 Con.soundH (c:=k5n) (C:=ket) TBok ⟨inf_ok,(all_cons ks0 all_nil),all_nil⟩ mix Try.func17 (show Try.f17.body=some klr by kernel_rfl) (show Try.f17.ntmps=2 by kernel_rfl) (show Try.f17.results.toList=kqt by kernel_rfl) rfl h (k1c9 o)
theorem k1fn  {d0_0:Bool} {d0_1:Int} {d0_2:Int} {e1:List TQuestion} {e2k:List ByteArray} {e2v:List Int} {e3k:List ByteArray} {e3v:List (List Int)} {e4k:List ByteArray} {e4v:List Bool} (h:
((([]:List TQuestion)=([]:List TQuestion))∧false=d0_0∧0=d0_1∧0=d0_2∧([]:List TQuestion)=e1∧[]=e2k∧[]=e2v∧[]=e3k∧[]=e3v∧[]=e4k∧[]=e4v)):kn0 (()) (d0_0,d0_1,d0_2,e1,e2k,e2v,e3k,e3v,e4k,e4v,()):=WPh.of_eq (by kernel_rfl) h
theorem k1bw:kn0 (()) ((false:Bool),(0:Int),(0:Int),(([]:List TQuestion):List TQuestion),([]:List ByteArray),([]:List Int),([]:List ByteArray),([]:List (List Int)),([]:List ByteArray),([]:List Bool),()):=by
 exact k1fn ⟨rfl,rfl,rfl,rfl,rfl,rfl,rfl,rfl,rfl,rfl,rfl⟩
noncomputable def kzd:Con TB.den:=k5n.totR fun x=>(false,(0:Int),(0:Int),(([]:List TQuestion):List TQuestion),([]:List ByteArray),([]:List Int),([]:List ByteArray),([]:List (List Int)),([]:List ByteArray),([]:List Bool),())
theorem k1ej:kzd.Ok Try.prog TB:=Con.ok_tot k5n bd17 fun x=>k1d1 (k1bw)
def kas:Con TB.den:=Con.mk0 49 [.one (.d (.int .u64))] [] (.one (.agg [.d (.int .u64),.d (.int .u64),.d (.int .u64)])) []
abbrev k1lm:=HL TB.den (hsT kas.ins (hsOs kas.pre))
abbrev k130:=HL TB.den (hsV kas.res (hsOs kas.post))
noncomputable def ksx:Cx TB:=⟨inf,[],[],4,[]⟩
noncomputable def k113:Code:=Try.f49.body.getD .skip
noncomputable def k16t:List ResultVar:=Try.f49.results.toList
noncomputable def k1h1 (o:k130):An TB:= .no
def k11x (x:k1lm) (o:k130):Prop:=WPh TB ksx 26 0 k113 (k1h1 o) (kas.st TB x) (retTQ TB ksx kas k16t o)
theorem k1pp (o:k130):OblH TB ksx 26 0 k113 (k1h1 o) (retTQ TB ksx kas k16t o):=
 OblH.ofC (X:=True) (by kernel_rfl) trivial
theorem k1qc {x:k1lm} {o:k130} (h:k11x x o):kas.Snd Try.prog x o:=
 Con.soundH (c:=kas) (C:=ksx) TBok ⟨inf_ok,all_nil,all_nil⟩ mix Try.func49 (show Try.f49.body=some k113 by kernel_rfl) (show Try.f49.ntmps=26 by kernel_rfl) (show Try.f49.results.toList=k16t by kernel_rfl) rfl h (k1pp o)
theorem k1r9 {p0:Int} {r0:TA3} (h:
(((p0==17)=true→
3=r0.a0∧4=r0.a1∧3=r0.a2)∧
((p0==17)=false→
((p0==97)=true→
5=r0.a0∧5=r0.a1∧5=r0.a2)∧
((p0==97)=false→
((p0==193)=true→
5=r0.a0∧6=r0.a1∧5=r0.a2)∧
((p0==193)=false→
((p0==257)=true→
3=r0.a0∧8=r0.a1∧3=r0.a2)∧
((p0==257)=false→
((p0==12289)=true→
11=r0.a0∧12=r0.a1∧5=r0.a2)∧
((p0==12289)=false→
((p0==65537)=true→
3=r0.a0∧16=r0.a1∧3=r0.a2)∧
((p0==65537)=false→
((p0==18446744069414584321)=true→
7=r0.a0∧32=r0.a1∧7=r0.a2)∧
((p0==18446744069414584321)=false→
0=r0.a0∧0=r0.a1∧0=r0.a2))))))))):k11x (p0,()) (r0.a0,r0.a1,r0.a2,()):=WPh.of_eq (by kernel_rfl) h
theorem bd49:Callable Try.prog 49:=⟨by rw[Try.func49];kernel_rfl,by rw[Try.func49];show some _≠some _;decide⟩
theorem k1on (p0:Int) (h:p0=18446744069414584321):k11x (p0,()) ((7:Int),(32:Int),(7:Int),()):=by
 refine k1r9 (r0:=TA3.mk 7 32 7) ?_
 simp[h]
noncomputable def k13u:Con TB.den:=kas.fnR (fun x=>(fun(p0:Int)=>p0=18446744069414584321) x.1) fun x=>(fun(p0:Int)=>((7:Int),(32:Int),(7:Int),())) x.1
theorem k1gl:k13u.Ok Try.prog TB:=Con.ok_fn kas bd49 fun x h=>k1qc (k1on x.1 h)
def k8s:Con TB.den:=Con.mk0 36 [.one (.d (.int .u64))] [] (.one (.one (.d (.bool)))) []
abbrev k1dk:=HL TB.den (hsT k8s.ins (hsOs k8s.pre))
abbrev kwi:=HL TB.den (hsV k8s.res (hsOs k8s.post))
noncomputable def kms:Cx TB:=⟨inf,[k13u],[],4,[]⟩
noncomputable def kvm:Code:=Try.f36.body.getD .skip
noncomputable def k10f:List ResultVar:=Try.f36.results.toList
noncomputable def k1c1 (o:kwi):An TB:= .no
def kw0 (x:k1dk) (o:kwi):Prop:=WPh TB kms 7 0 kvm (k1c1 o) (k8s.st TB x) (retTQ TB kms k8s k10f o)
theorem k1m1 (o:kwi):OblH TB kms 7 0 kvm (k1c1 o) (retTQ TB kms k8s k10f o):=
 OblH.ofC (X:=True) (by kernel_rfl) trivial
theorem k1m5 {x:k1dk} {o:kwi} (h:kw0 x o):k8s.Snd Try.prog x o:=
 Con.soundH (c:=k8s) (C:=kms) TBok ⟨inf_ok,(all_cons k1gl all_nil),all_nil⟩ mix Try.func36 (show Try.f36.body=some kvm by kernel_rfl) (show Try.f36.ntmps=7 by kernel_rfl) (show Try.f36.results.toList=k10f by kernel_rfl) rfl h (k1m1 o)
theorem k1om {p0:Int} {r0:Bool} (h:
((p0=18446744069414584321)∧decide (0<(7:Int))=r0)):kw0 (p0,()) (r0,()):=WPh.of_eq (by kernel_rfl) h
theorem bd36:Callable Try.prog 36:=⟨by rw[Try.func36];kernel_rfl,by rw[Try.func36];show some _≠some _;decide⟩
theorem k1jh (p0:Int) (h:p0=18446744069414584321):kw0 (p0,()) ((true:Bool),()):=by
 exact k1om ⟨h,rfl⟩
noncomputable def kd1:Con TB.den:=k8s.fnR (fun x=>(fun(p0:Int)=>p0=18446744069414584321) x.1) fun x=>(fun(p0:Int)=>(true,())) x.1
theorem kis:kd1.Ok Try.prog TB:=Con.ok_fn k8s bd36 fun x h=>k1m5 (k1jh x.1 h)
def kan:Con TB.den:=Con.mk0 50 [.one (.d (.int .u64)),.one (.d (.int .u64)),.one (.d (.int .u64))] [] (.one (.one (.d (.int .u64)))) []
abbrev k1l0:=HL TB.den (hsT kan.ins (hsOs kan.pre))
abbrev k12o:=HL TB.den (hsV kan.res (hsOs kan.post))
noncomputable def kt0:Cx TB:=⟨inf,[kd1],[],4,[]⟩
noncomputable def k11g:Code:=Try.f50.body.getD .skip
noncomputable def k165:List ResultVar:=Try.f50.results.toList
noncomputable def k1hv (o:k12o):An TB:= .no
def k10o (x:k1l0) (o:k12o):Prop:=WPh TB kt0 29 0 k11g (k1hv o) (kan.st TB x) (retTQ TB kt0 kan k165 o)
theorem k1qe (o:k12o):OblH TB kt0 29 0 k11g (k1hv o) (retTQ TB kt0 kan k165 o):=
 OblH.ofC (X:=True) (by kernel_rfl) trivial
theorem k1pv {x:k1l0} {o:k12o} (h:k10o x o):kan.Snd Try.prog x o:=
 Con.soundH (c:=kan) (C:=kt0) TBok ⟨inf_ok,(all_cons kis all_nil),all_nil⟩ mix Try.func50 (show Try.f50.body=some k11g by kernel_rfl) (show Try.f50.ntmps=29 by kernel_rfl) (show Try.f50.results.toList=k165 by kernel_rfl) rfl h (k1qe o)
theorem k1qm {p0:Int} {p1:Int} {p2:Int} {r0:Int} (h:
((p0=18446744069414584321)∧((!true)=true→
0=r0)∧
((!true)=false→
(p0≠0)∧(p0≠0)∧let v1:Bool:=decide ((IntKind.u64.wrap (p0-(Int.tmod p2 p0)))≤(Int.tmod p1 p0))
(v1=true→
let v2:Int:=IntKind.u64.wrap ((Int.tmod p1 p0)-(IntKind.u64.wrap (p0-(Int.tmod p2 p0))))
v2=r0)∧
(v1=false→
let v3:Int:=IntKind.u64.wrap ((Int.tmod p1 p0)+(Int.tmod p2 p0))
v3=r0)))):k10o (p0,p1,p2,()) (r0,()):=WPh.of_eq (by kernel_rfl) h
theorem bd50:Callable Try.prog 50:=⟨by rw[Try.func50];kernel_rfl,by rw[Try.func50];show some _≠some _;decide⟩
theorem k1nr (p0:Int) (p1:Int) (p2:Int) (h:p0=18446744069414584321∧U64 p1∧U64 p2):k10o (p0,p1,p2,()) ((((p1+p2)%18446744069414584321):Int),()):=by
 obtain⟨rfl,h1,h2⟩:=h
 refine k1qm ⟨rfl,fun h=>by simp at h,fun _=> ?_⟩
 rw[tmod_nn _ _ h1.1,tmod_nn _ _ h2.1]
 simp only[u64w]
 refine⟨by omega,by omega,fun h=> ?_,fun h=> ?_⟩
 ·have h:=of_decide_eq_true h
  omega
 ·have h:=of_decide_eq_false h
  omega
noncomputable def kqh:Con TB.den:=kan.fnR (fun x=>(fun(p0:Int) (p1:Int) (p2:Int)=>p0=18446744069414584321∧U64 p1∧U64 p2) x.1 x.2.1 x.2.2.1) fun x=>(fun(p0:Int) (p1:Int) (p2:Int)=>((((p1+p2)%18446744069414584321):Int),())) x.1 x.2.1 x.2.2.1
theorem kzs:kqh.Ok Try.prog TB:=Con.ok_fn kan bd50 fun x h=>k1pv (k1nr x.1 x.2.1 x.2.2.1 h)
def kak:Con TB.den:=Con.mk0 51 [.one (.d (.int .u64)),.one (.d (.int .u64)),.one (.d (.int .u64))] [] (.one (.one (.d (.int .u64)))) []
abbrev k1l8:=HL TB.den (hsT kak.ins (hsOs kak.pre))
abbrev k12s:=HL TB.den (hsV kak.res (hsOs kak.post))
noncomputable def kua:Cx TB:=⟨inf,[kd1,kvk,kvq],[],4,[]⟩
noncomputable def k11c:Code:=Try.f51.body.getD .skip
noncomputable def k16w:List ResultVar:=Try.f51.results.toList
noncomputable def k1ho (o:k12s):An TB:= .no
def k11h (x:k1l8) (o:k12s):Prop:=WPh TB kua 32 0 k11c (k1ho o) (kak.st TB x) (retTQ TB kua kak k16w o)
theorem k1q5 (o:k12s):OblH TB kua 32 0 k11c (k1ho o) (retTQ TB kua kak k16w o):=
 OblH.ofC (X:=True) (by kernel_rfl) trivial
theorem k1q9 {x:k1l8} {o:k12s} (h:k11h x o):kak.Snd Try.prog x o:=
 Con.soundH (c:=kak) (C:=kua) TBok ⟨inf_ok,(all_cons kis (all_cons k17t (all_cons k17n all_nil))),all_nil⟩ mix Try.func51 (show Try.f51.body=some k11c by kernel_rfl) (show Try.f51.ntmps=32 by kernel_rfl) (show Try.f51.results.toList=k16w by kernel_rfl) rfl h (k1q5 o)
theorem k1rg {p0:Int} {p1:Int} {p2:Int} {r0:Int} (h:
((p0=18446744069414584321)∧((!true)=true→
0=r0)∧
((!true)=false→
(p0≠0)∧(p0≠0)∧(U64 (Int.tmod p1 p0)∧U64 (Int.tmod p2 p0))∧let r1:Int:=((Int.tmod p1 p0)*(Int.tmod p2 p0)/18446744073709551616)
let r2:Int:=((Int.tmod p1 p0)*(Int.tmod p2 p0)%18446744073709551616)
(U64 r1∧U64 r2∧U64 p0∧r1<p0)∧((r1*18446744073709551616+r2)%p0)=r0))):k11h (p0,p1,p2,()) (r0,()):=WPh.of_eq (by kernel_rfl) h
theorem bd51:Callable Try.prog 51:=⟨by rw[Try.func51];kernel_rfl,by rw[Try.func51];show some _≠some _;decide⟩
theorem k1na (p0:Int) (p1:Int) (p2:Int) (h:p0=18446744069414584321∧U64 p1∧U64 p2):k11h (p0,p1,p2,()) (((p1*p2%18446744069414584321):Int),()):=by
 obtain⟨rfl,h1,h2⟩:=h
 refine k1rg ⟨rfl,fun h=>by simp at h,fun _=> ?_⟩
 rw[tmod_nn _ _ h1.1,tmod_nn _ _ h2.1,Int.mul_emod p1 p2]
 have a1:0≤p1%18446744069414584321∧p1%18446744069414584321<18446744069414584321:=by omega
 have a2:0≤p2%18446744069414584321∧p2%18446744069414584321<18446744069414584321:=by omega
 generalize p1%18446744069414584321=a at *
 generalize p2%18446744069414584321=b at *
 have h3:0≤a*b:=Int.mul_nonneg a1.1 a2.1
 have h4:a*b≤18446744069414584320*18446744069414584320:=Int.mul_le_mul (by omega) (by omega) a2.1 (by omega)
 generalize a*b=m at *
 refine⟨by omega,by omega,⟨⟨by omega,by omega⟩,⟨by omega,by omega⟩⟩,⟨⟨by omega,by omega⟩,⟨by omega,by omega⟩,⟨by omega,by omega⟩,by omega⟩,?_⟩
 rw[show m/18446744073709551616*18446744073709551616+m%18446744073709551616=m by omega]
noncomputable def k142:Con TB.den:=kak.fnR (fun x=>(fun(p0:Int) (p1:Int) (p2:Int)=>p0=18446744069414584321∧U64 p1∧U64 p2) x.1 x.2.1 x.2.2.1) fun x=>(fun(p0:Int) (p1:Int) (p2:Int)=>(((p1*p2%18446744069414584321):Int),())) x.1 x.2.1 x.2.2.1
theorem k1ip:k142.Ok Try.prog TB:=Con.ok_fn kak bd51 fun x h=>k1q9 (k1na x.1 x.2.1 x.2.2.1 h)
def k6d:Con TB.den:=Con.mk0 78 [.one (.d (.int .u64))] [] (.one (.one (.d (.int .u64)))) []
abbrev k15t:=HL TB.den (hsT k6d.ins (hsOs k6d.pre))
abbrev ko7:=HL TB.den (hsV k6d.res (hsOs k6d.post))
noncomputable def kg6:Cx TB:=⟨inf,[k13u],[],4,[]⟩
noncomputable def kps:Code:=Try.f78.body.getD .skip
noncomputable def ktu:List ResultVar:=Try.f78.results.toList
noncomputable def k13q (o:ko7):An TB:= .no
def kpc (x:k15t) (o:ko7):Prop:=WPh TB kg6 6 0 kps (k13q o) (k6d.st TB x) (retTQ TB kg6 k6d ktu o)
theorem k1et (o:ko7):OblH TB kg6 6 0 kps (k13q o) (retTQ TB kg6 k6d ktu o):=
 OblH.ofC (X:=True) (by kernel_rfl) trivial
theorem k1ew {x:k15t} {o:ko7} (h:kpc x o):k6d.Snd Try.prog x o:=
 Con.soundH (c:=k6d) (C:=kg6) TBok ⟨inf_ok,(all_cons k1gl all_nil),all_nil⟩ mix Try.func78 (show Try.f78.body=some kps by kernel_rfl) (show Try.f78.ntmps=6 by kernel_rfl) (show Try.f78.results.toList=ktu by kernel_rfl) rfl h (k1et o)
theorem k1ib {p0:Int} {r0:Int} (h:
((p0=18446744069414584321)∧7=r0)):kpc (p0,()) (r0,()):=WPh.of_eq (by kernel_rfl) h
theorem bd78:Callable Try.prog 78:=⟨by rw[Try.func78];kernel_rfl,by rw[Try.func78];show some _≠some _;decide⟩
theorem k1dc (p0:Int) (h:p0=18446744069414584321):kpc (p0,()) ((7:Int),()):=by
 exact k1ib ⟨h,rfl⟩
noncomputable def k123:Con TB.den:=k6d.fnR (fun x=>(fun(p0:Int)=>p0=18446744069414584321) x.1) fun x=>(fun(p0:Int)=>((7:Int),())) x.1
theorem k1hd:k123.Ok Try.prog TB:=Con.ok_fn k6d bd78 fun x h=>k1ew (k1dc x.1 h)
end Go.Proofs.Ytcilpmmlfpkdoaa
end
