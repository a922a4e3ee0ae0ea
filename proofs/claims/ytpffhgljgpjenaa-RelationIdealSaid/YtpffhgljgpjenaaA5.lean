/-
  Parts of the proofs that the laws of this seat hold of every input, merged by a program: a machine over pure data that is sound for the model, what each function of the translation does in it, and plain lemmas. No conditions but those in each theorem.
-/
import Derived.Test.YtpffhgljgpjenaaA4
set_option linter.all false
set_option maxRecDepth 100000
noncomputable section
namespace Go.Proofs.Ytpffhgljgpjenaa
open Go Go.Bv Go.Cv Go.Md Go.RowKit
def k4s:Con TB.den:=Con.mk0 111 [.agg [.d (.int .u64)],.one (.d (.int .u64)),.one (.d (.int .u64))] [] (.one (.one (.d (.int .u64)))) []
abbrev k15e:=HL TB.den (hsT k4s.ins (hsOs k4s.pre))
abbrev kmg:=HL TB.den (hsV k4s.res (hsOs k4s.post))
noncomputable def ket:Cx TB:=⟨inf,[k6a,k82,ko3],[],4,[]⟩
noncomputable def kls:Code:=Try.f111.body.getD .skip
noncomputable def kps:List ResultVar:=Try.f111.results.toList
noncomputable def k10y (o:kmg):An TB:= .no
def kkt (x:k15e) (o:kmg):Prop:=WPh TB ket 18 0 kls (k10y o) (k4s.st TB x) (retTQ TB ket k4s kps o)
theorem k1e3 (o:kmg):OblH TB ket 18 0 kls (k10y o) (retTQ TB ket k4s kps o):=
 OblH.ofC (X:=True) (by kernel_rfl) trivial
theorem k1ew {x:k15e} {o:kmg} (h:kkt x o):k4s.Snd Try.prog x o:=
 Con.soundH (c:=k4s) (C:=ket) TBok ⟨inf_ok,(all_cons k8o (all_cons kby (all_cons k12b all_nil))),all_nil⟩ mix Try.func111 (show Try.f111.body=some kls by kernel_rfl) (show Try.f111.ntmps=18 by kernel_rfl) (show Try.f111.results.toList=kps by kernel_rfl) rfl h (k1e3 o)
theorem k1ir {p0:TField} {p1:Int} {p2:Int} {r0:Int} (h:
((p0.P=18446744069414584321)∧((!true)=true→
 0=r0)∧
((!true)=false→
(0<p0.P∧0≤p1)∧(0<p0.P∧0≤p2)∧(p0.P=18446744069414584321∧(0≤(p1%p0.P)∧(p1%p0.P)<18446744069414584321)∧(0≤(p2%p0.P)∧(p2%p0.P)<18446744069414584321))∧let r1:Int:=((p1%p0.P)*(p2%p0.P)%18446744069414584321)
 r1=r0))):kkt (p0.P,p1,p2,()) (r0,()):=WPh.of_eq (by kernel_rfl) h
theorem bd111:Callable Try.prog 111:=⟨by rw[Try.func111];kernel_rfl,by rw[Try.func111];show some _≠some _;decide⟩
theorem k1av (p0:TField) (p1:Int) (p2:Int) (h:p0.P=18446744069414584321∧U64 p1∧U64 p2):kkt (p0.P,p1,p2,()) (((p1*p2%18446744069414584321):Int),()):=by
 obtain⟨hP,h1,h2⟩:=h
 refine k1ir ⟨hP,?_⟩
 simp only[hP]
 refine⟨fun h=>by simp at h,fun _=>⟨by omega,by omega,⟨by trivial,by omega,by omega⟩,?_⟩⟩
 exact(Int.mul_emod _ _ _).symm
noncomputable def kyo:Con TB.den:=k4s.fnR (fun x=>(fun(p0:TField) (p1:Int) (p2:Int)=>p0.P=18446744069414584321∧U64 p1∧U64 p2) (TField.mk x.1) x.2.1 x.2.2.1) fun x=>((fun(p0:TField) (p1:Int) (p2:Int)=>((p1*p2%18446744069414584321):Int)) (TField.mk x.1) x.2.1 x.2.2.1,())
theorem k1i8:kyo.Ok Try.prog TB:=Con.ok_fn k4s bd111 fun x h=>k1ew (k1av (TField.mk x.1) x.2.1 x.2.2.1 h)
def k2d:Con TB.den:=Con.mk0 131 [.agg [.d (.int .u64)]] [] (.tup [.one (.d (.int .u64)),.one (.d (.int .i64)),.one (.d (.int .u64))]) []
abbrev ksv:=HL TB.den (hsT k2d.ins (hsOs k2d.pre))
abbrev kde:=HL TB.den (hsV k2d.res (hsOs k2d.post))
noncomputable def k8x:Cx TB:=⟨inf,[],[],4,[]⟩
noncomputable def kev:Code:=Try.f131.body.getD .skip
noncomputable def khr:List ResultVar:=Try.f131.results.toList
noncomputable def kqy (o:kde):An TB:= .no
def kes (x:ksv) (o:kde):Prop:=WPh TB k8x 21 0 kev (kqy o) (k2d.st TB x) (retTQ TB k8x k2d khr o)
theorem k14m (o:kde):OblH TB k8x 21 0 kev (kqy o) (retTQ TB k8x k2d khr o):=
 OblH.ofC (X:=True) (by kernel_rfl) trivial
theorem k13x {x:ksv} {o:kde} (h:kes x o):k2d.Snd Try.prog x o:=
 Con.soundH (c:=k2d) (C:=k8x) TBok ⟨inf_ok,all_nil,all_nil⟩ mix Try.func131 (show Try.f131.body=some kev by kernel_rfl) (show Try.f131.ntmps=21 by kernel_rfl) (show Try.f131.results.toList=khr by kernel_rfl) rfl h (k14m o)
theorem k16t {p0:TField} {r0:Int} {r1:Int} {r2:Int} (h:
(((p0.P==17)=true→
 3=r0∧4=r1∧3=r2)∧
((p0.P==17)=false→
((p0.P==97)=true→
 5=r0∧5=r1∧5=r2)∧
((p0.P==97)=false→
((p0.P==193)=true→
 5=r0∧6=r1∧5=r2)∧
((p0.P==193)=false→
((p0.P==257)=true→
 3=r0∧8=r1∧3=r2)∧
((p0.P==257)=false→
((p0.P==12289)=true→
 11=r0∧12=r1∧5=r2)∧
((p0.P==12289)=false→
((p0.P==65537)=true→
 3=r0∧16=r1∧3=r2)∧
((p0.P==65537)=false→
((p0.P==18446744069414584321)=true→
 7=r0∧32=r1∧7=r2)∧
((p0.P==18446744069414584321)=false→
 0=r0∧0=r1∧0=r2))))))))):kes (p0.P,()) (r0,r1,r2,()):=WPh.of_eq (by kernel_rfl) h
theorem bd131:Callable Try.prog 131:=⟨by rw[Try.func131];kernel_rfl,by rw[Try.func131];show some _≠some _;decide⟩
theorem k11s (p0:TField) (h:p0.P=18446744069414584321):kes (p0.P,()) ((7:Int),(32:Int),(7:Int),()):=by
 refine k16t ?_
 simp[h]
noncomputable def kok:Con TB.den:=k2d.fnR (fun x=>(fun(p0:TField)=>p0.P=18446744069414584321) (TField.mk x.1)) fun x=>((fun(p0:TField)=>(7:Int)) (TField.mk x.1),(fun(p0:TField)=>(32:Int)) (TField.mk x.1),(fun(p0:TField)=>(7:Int)) (TField.mk x.1),())
theorem k16p:kok.Ok Try.prog TB:=Con.ok_fn k2d bd131 fun x h=>k13x (k11s (TField.mk x.1) h)
def k1z:Con TB.den:=Con.mk0 120 [.agg [.d (.int .u64)]] [] (.one (.one (.d (.int .u64)))) []
abbrev kpm:=HL TB.den (hsT k1z.ins (hsOs k1z.pre))
abbrev kc9:=HL TB.den (hsV k1z.res (hsOs k1z.post))
noncomputable def k84:Cx TB:=⟨inf,[kok],[],4,[]⟩
noncomputable def kcz:Code:=Try.f120.body.getD .skip
noncomputable def kg6:List ResultVar:=Try.f120.results.toList
noncomputable def kou (o:kc9):An TB:= .no
def kcy (x:kpm) (o:kc9):Prop:=WPh TB k84 13 0 kcz (kou o) (k1z.st TB x) (retTQ TB k84 k1z kg6 o)
theorem k11w (o:kc9):OblH TB k84 13 0 kcz (kou o) (retTQ TB k84 k1z kg6 o):=
 OblH.ofC (X:=True) (by kernel_rfl) trivial
theorem k11a {x:kpm} {o:kc9} (h:kcy x o):k1z.Snd Try.prog x o:=
 Con.soundH (c:=k1z) (C:=k84) TBok ⟨inf_ok,(all_cons k16p all_nil),all_nil⟩ mix Try.func120 (show Try.f120.body=some kcz by kernel_rfl) (show Try.f120.ntmps=13 by kernel_rfl) (show Try.f120.results.toList=kg6 by kernel_rfl) rfl h (k11w o)
theorem k13t {p0:TField} {r0:Int} (h:
((p0.P=18446744069414584321)∧7=r0)):kcy (p0.P,()) (r0,()):=WPh.of_eq (by kernel_rfl) h
theorem bd120:Callable Try.prog 120:=⟨by rw[Try.func120];kernel_rfl,by rw[Try.func120];show some _≠some _;decide⟩
theorem kzj (p0:TField) (h:p0.P=18446744069414584321):kcy (p0.P,()) ((7:Int),()):=by
 exact k13t ⟨h,rfl⟩
noncomputable def kn5:Con TB.den:=k1z.fnR (fun x=>(fun(p0:TField)=>p0.P=18446744069414584321) (TField.mk x.1)) fun x=>((fun(p0:TField)=>(7:Int)) (TField.mk x.1),())
theorem k13y:kn5.Ok Try.prog TB:=Con.ok_fn k1z bd120 fun x h=>k11a (kzj (TField.mk x.1) h)
def k3s:Con TB.den:=Con.mk0 132 [.agg [.d (.int .u64)],.one (.d (.int .u64)),.one (.d (.int .u64))] [] (.one (.one (.d (.int .u64)))) []
abbrev k158:=HL TB.den (hsT k3s.ins (hsOs k3s.pre))
abbrev k5i:=HL TB.den (hsV k3s.res (hsOs k3s.post))
noncomputable def k6c:Cx TB:=⟨inf,[ko3],[],4,[]⟩
noncomputable def k8n:Code:=Try.f132.body.getD .skip
noncomputable def kij:List ResultVar:=Try.f132.results.toList
def k105 (o:k5i):=qS TB k6c 26 0 (cB (cB (cB k8n))) .no (retTQ TB k6c k3s kij o)
def k3c:Tm:=⟨[0],[.cells [.d (.int .u64)]],[1,2,3,7],[.one (.d (.int .u64)),.one (.d (.int .u64)),.one (.ptr 0 0),.one (.d (.int .u64))],1⟩
def k1i6 (o:k5i) (nx1:NX TB k3c):=blockT TB 1 (qM TB 0 k3c nx1 (blockT TB 0 (k105 o)))
def kh6:Tm:=⟨[0],[.cells [.d (.int .u64)]],[1,2,3,7],[.one (.d (.int .u64)),.one (.d (.int .u64)),.one (.ptr 0 0),.one (.d (.int .u64))],1⟩
def kzb (o:k5i) (nx1:NX TB k3c) (i:HL TB.den kh6.hs):Prop:=ghs TB [] (kh6.fill TB i) fun s=>WP TB k6c 26 0 (cB (cA (cB (cA (cA (cA (cB (cB k8n)))))))) .no s (k1i6 o nx1)
structure kav (o:k5i) (nx1:NX TB k3c) (i:HL TB.den kh6.hs):Prop where
 h:kzb o nx1 i
noncomputable def k10b (o:k5i) (nx1:NX TB k3c):An TB:= .nd [] .no [] (.jn kh6 (kav o nx1) [] .no [] .no)
def kel (o:k5i) (nx1:NX TB k3c) (i:HL TB.den k3c.hs):Prop:=WP TB k6c 26 0 (cA (cA (cA (cB (cB k8n))))) (k10b o nx1) (k3c.fill TB i) (qM TB 0 k3c nx1 (blockT TB 0 (k105 o)))
noncomputable def k1gz (o:k5i):An TB:= .lp [] k3c (kel o) fun nx1=>(k10b o nx1)
noncomputable def k134 (o:k5i):An TB:= .nd [] .no [] (.nd [] .no [] (.nd [] (k1gz o) [] .no))
def km3 (x:k158) (o:k5i):Prop:=WPh TB k6c 26 0 k8n (k134 o) (k3s.st TB x) (retTQ TB k6c k3s kij o)
theorem k1ft (o:k5i):OblH TB k6c 26 0 k8n (k134 o) (retTQ TB k6c k3s kij o):=
 OblH.ofC (X:=((∀nx i,(kel o) nx i=(kel o) nx i)∧(∀nx1:NX TB k3c,((∀i,(kav o nx1) i=kzb o nx1 i)∧True))∧True)) (by kernel_rfl) ⟨fun _ _=>rfl,fun _=>⟨fun _=>propext ⟨fun h=>h.1,fun h=>⟨h⟩⟩,trivial⟩,trivial⟩
theorem k1g4 {x:k158} {o:k5i} (h:km3 x o):k3s.Snd Try.prog x o:=
 Con.soundH (c:=k3s) (C:=k6c) TBok ⟨inf_ok,(all_cons k12b all_nil),all_nil⟩ mix Try.func132 (show Try.f132.body=some k8n by kernel_rfl) (show Try.f132.ntmps=26 by kernel_rfl) (show Try.f132.results.toList=kij by kernel_rfl) rfl h (k1ft o)
theorem k1jj {p0:TField} {p1:Int} {p2:Int} {r0:Int} (h:
(Md.Loop (p1,p2,(1:Int),p0.P,()) (kel (r0,())))):km3 (p0.P,p1,p2,()) (r0,()):=WPh.of_eq (by kernel_rfl) h
theorem k18o {r0:Int} {nx1:NX TB k3c} {s1:Int} {s2:Int} {s7:Int} {h0_0:Int} (h:
((decide (0<(ishr .u64 s2 1))=true→
((TField.mk h0_0).P=18446744069414584321∧(0≤s1∧s1<18446744069414584321)∧(0≤s1∧s1<18446744069414584321))∧nx1 (((s1*s1%18446744069414584321):Int),(ishr .u64 s2 1:Int),s7,h0_0,()))∧
(decide (0<(ishr .u64 s2 1))=false→
 nx1 (s1,(ishr .u64 s2 1:Int),s7,h0_0,())))):kav (r0,()) nx1 (s1,s2,s7,h0_0,()):=⟨mpr_of (by kernel_rfl) h⟩
def k12x (r0:Int) (nx1:NX TB k3c) (k1:Int→Int→Int→Prop) (h0_0:Int) (s1:Int) (s2:Int) (s7:Int):Prop:=
(decide (0<s2)=true→
(((iand .u64 s2 1)==1)=true→
((TField.mk h0_0).P=18446744069414584321∧(0≤s7∧s7<18446744069414584321)∧(0≤s1∧s1<18446744069414584321))∧kav (r0,()) nx1 (s1,s2,((s7*s1%18446744069414584321):Int),h0_0,()))∧
(((iand .u64 s2 1)==1)=false→
 kav (r0,()) nx1 (s1,s2,s7,h0_0,())))∧
(decide (0<s2)=false→
 s7=r0)
theorem k1g8 {r0:Int} {h0_0:Int} {s1:Int} {s2:Int} {s7:Int} (inv:Int→Int→Int→Prop) (μ:Int→Int→Int→Nat) (h0:inv s1 s2 s7) (hs:∀(s1:Int) (s2:Int) (s7:Int),inv s1 s2 s7→k12x r0 (fun s:Int×Int×Int×Int×Unit=>((s.2.2.2.1=h0_0)∧inv s.1 s.2.1 s.2.2.1)∧μ s.1 s.2.1 s.2.2.1<μ s1 s2 s7) (fun s1q s2q s7q=>inv s1q s2q s7q∧μ s1q s2q s7q<μ s1 s2 s7) h0_0 s1 s2 s7):Md.Loop (s1,s2,s7,h0_0,()) (kel (r0,())):=
 ⟨⟨fun s:Int×Int×Int×Int×Unit=>(s.2.2.2.1=h0_0)∧inv s.1 s.2.1 s.2.2.1,fun s:Int×Int×Int×Int×Unit=>μ s.1 s.2.1 s.2.2.1,⟨rfl,h0⟩,fun(s1p,s2p,s7p,h0_0p,()) ⟨eq0,hi⟩=>by
  have eq0:h0_0p=h0_0:=eq0;subst h0_0p;exact mpr_of (by kernel_rfl) ((congrArg (fun k=>k12x r0 (fun s:Int×Int×Int×Int×Unit=>((s.2.2.2.1=h0_0)∧inv s.1 s.2.1 s.2.2.1)∧μ s.1 s.2.1 s.2.2.1<μ s1p s2p s7p) k h0_0 s1p s2p s7p) (lpk3 (rfl:h0_0=h0_0) inv (fun s1q s2q s7q=>μ s1q s2q s7q<μ s1p s2p s7p))).mpr (hs s1p s2p s7p hi))⟩⟩
theorem bd132:Callable Try.prog 132:=⟨by rw[Try.func132];kernel_rfl,by rw[Try.func132];show some _≠some _;decide⟩
theorem k1aq (p0:TField) (p1:Int) (p2:Int) (h:p0.P=18446744069414584321∧(0≤p1∧p1<18446744069414584321)∧U64 p2):km3 (p0.P,p1,p2,()) (((pw p1 p2):Int),()):=by
 obtain⟨hP,h1,h2⟩:=h
 refine k1jj ?_
 rw[hP]
 refine k1g8 (fun a e r=>(0≤a∧a<18446744069414584321)∧U64 e∧(0≤r∧r<18446744069414584321)∧(r*a^e.toNat)%18446744069414584321=pw p1 p2) (fun a e r=>e.toNat) ⟨h1,h2,by omega,by rw[Int.one_mul];rfl⟩ ?_
 rintro a e r ⟨ha,he,hr,hv⟩
 have jj:∀nx r',(0≤r'∧r' <18446744069414584321)→0<e→(r' *(a*a)^(e/2).toNat)%18446744069414584321=pw p1 p2→(∀a',(0≤a'∧a' <18446744069414584321)→r' *a' ^(e/2).toNat%18446744069414584321=pw p1 p2→nx (a',(e/2:Int),r',(18446744069414584321:Int),()))→kav ((pw p1 p2:Int),()) nx (a,e,r',(18446744069414584321:Int),()):=by
  intro nx r' hr' he' hv' hn
  refine k18o ?_
  rw[ishr1]
  refine⟨fun h=>⟨⟨rfl,ha,ha⟩,?_⟩,fun h=> ?_⟩
  ·refine hn _ ⟨Int.emod_nonneg _ (by omega),Int.emod_lt_of_pos _ (by omega)⟩ ?_
   rw[←hv',Int.mul_emod,Int.mul_emod r' ((a*a)^_),kwn]
  ·have h:¬0<e/2:=of_decide_eq_false h
   refine hn _ ha ?_
   rw[show(e/2).toNat=0 by omega]at hv' ⊢
   simpa using hv'
 refine⟨fun h=> ?_,fun h=> ?_⟩
 ·have h:=of_decide_eq_true h
  rw[k1ok e he]
  have nxt:∀a' r',(0≤a'∧a' <18446744069414584321)→(0≤r'∧r' <18446744069414584321)→r' *a' ^(e/2).toNat%18446744069414584321=pw p1 p2→((0≤a'∧a' <18446744069414584321)∧U64 (e/2)∧(0≤r'∧r' <18446744069414584321)∧r' *a' ^(e/2).toNat%18446744069414584321=pw p1 p2)∧(e/2).toNat<e.toNat:=fun a' r' h1 h2 h3=>⟨⟨h1,⟨by omega,by omega⟩,h2,h3⟩,by omega⟩
  have hpow:∀k:Nat,a^(2*k)=(a*a)^k:=fun k=>by rw[Int.pow_mul];congr 1;rw[Int.pow_succ,Int.pow_succ,Int.pow_zero,Int.one_mul]
  refine⟨fun h1=>⟨⟨rfl,hr,ha⟩,?_⟩,fun h1=> ?_⟩
  ·have h1:e%2=1:=by simpa using h1
   refine jj _ _ ⟨Int.emod_nonneg _ (by omega),Int.emod_lt_of_pos _ (by omega)⟩ h ?_ fun a' ha' hv' =>⟨⟨rfl,(nxt a' _ ha' ⟨Int.emod_nonneg _ (by omega),Int.emod_lt_of_pos _ (by omega)⟩ hv').1⟩,(nxt a' _ ha' ⟨Int.emod_nonneg _ (by omega),Int.emod_lt_of_pos _ (by omega)⟩ hv').2⟩
   rw[←hv,show e.toNat=2*(e/2).toNat+1 by omega,Int.pow_succ,hpow,Int.mul_emod,Int.emod_emod_of_dvd _ (Int.dvd_refl _),←Int.mul_emod]
   congr 1
   grind
  ·have h1:¬e%2=1:=by simpa using h1
   refine jj _ _ hr h ?_ fun a' ha' hv' =>⟨⟨rfl,(nxt a' _ ha' hr hv').1⟩,(nxt a' _ ha' hr hv').2⟩
   rw[←hv,←hpow,show e.toNat=2*(e/2).toNat by omega]
 ·have h:¬0<e:=of_decide_eq_false h
  rw[show e.toNat=0 by omega,Int.pow_zero,Int.mul_one,Int.emod_eq_of_lt hr.1 hr.2]at hv
  exact hv
noncomputable def kz5:Con TB.den:=k3s.fnR (fun x=>(fun(p0:TField) (p1:Int) (p2:Int)=>p0.P=18446744069414584321∧(0≤p1∧p1<18446744069414584321)∧U64 p2) (TField.mk x.1) x.2.1 x.2.2.1) fun x=>((fun(p0:TField) (p1:Int) (p2:Int)=>((pw p1 p2):Int)) (TField.mk x.1) x.2.1 x.2.2.1,())
theorem k1gm:kz5.Ok Try.prog TB:=Con.ok_fn k3s bd132 fun x h=>k1g4 (k1aq (TField.mk x.1) x.2.1 x.2.2.1 h)
def k4v:Con TB.den:=Con.mk0 121 [.agg [.d (.int .u64)],.one (.d (.int .u64)),.one (.d (.int .u64))] [] (.one (.one (.d (.int .u64)))) []
abbrev k14w:=HL TB.den (hsT k4v.ins (hsOs k4v.pre))
abbrev kmi:=HL TB.den (hsV k4v.res (hsOs k4v.post))
noncomputable def kfb:Cx TB:=⟨inf,[k6a,k82,kz5],[],4,[]⟩
noncomputable def klk:Code:=Try.f121.body.getD .skip
noncomputable def krb:List ResultVar:=Try.f121.results.toList
noncomputable def k111 (o:kmi):An TB:= .no
def kl7 (x:k14w) (o:kmi):Prop:=WPh TB kfb 16 0 klk (k111 o) (k4v.st TB x) (retTQ TB kfb k4v krb o)
theorem k1fl (o:kmi):OblH TB kfb 16 0 klk (k111 o) (retTQ TB kfb k4v krb o):=
 OblH.ofC (X:=True) (by kernel_rfl) trivial
theorem k1fy {x:k14w} {o:kmi} (h:kl7 x o):k4v.Snd Try.prog x o:=
 Con.soundH (c:=k4v) (C:=kfb) TBok ⟨inf_ok,(all_cons k8o (all_cons kby (all_cons k1gm all_nil))),all_nil⟩ mix Try.func121 (show Try.f121.body=some klk by kernel_rfl) (show Try.f121.ntmps=16 by kernel_rfl) (show Try.f121.results.toList=krb by kernel_rfl) rfl h (k1fl o)
theorem k1je {p0:TField} {p1:Int} {p2:Int} {r0:Int} (h:
((p0.P=18446744069414584321)∧((!true)=true→
 0=r0)∧
((!true)=false→
(0<p0.P∧0≤p1)∧(p0.P=18446744069414584321∧(0≤(p1%p0.P)∧(p1%p0.P)<18446744069414584321)∧U64 p2)∧(pw (p1%p0.P) p2)=r0))):kl7 (p0.P,p1,p2,()) (r0,()):=WPh.of_eq (by kernel_rfl) h
theorem bd121:Callable Try.prog 121:=⟨by rw[Try.func121];kernel_rfl,by rw[Try.func121];show some _≠some _;decide⟩
theorem k1b4 (p0:TField) (p1:Int) (p2:Int) (h:p0.P=18446744069414584321∧U64 p1∧U64 p2):kl7 (p0.P,p1,p2,()) (((pw (p1%18446744069414584321) p2):Int),()):=by
 obtain⟨hP,h1,h2⟩:=h
 refine k1je ⟨hP,fun h=>by simp at h,fun _=>⟨by omega,?_⟩⟩
 simp only[hP]
 exact⟨⟨by trivial,by omega,h2⟩,trivial⟩
noncomputable def kza:Con TB.den:=k4v.fnR (fun x=>(fun(p0:TField) (p1:Int) (p2:Int)=>p0.P=18446744069414584321∧U64 p1∧U64 p2) (TField.mk x.1) x.2.1 x.2.2.1) fun x=>((fun(p0:TField) (p1:Int) (p2:Int)=>((pw (p1%18446744069414584321) p2):Int)) (TField.mk x.1) x.2.1 x.2.2.1,())
theorem k1iz:kza.Ok Try.prog TB:=Con.ok_fn k4v bd121 fun x h=>k1fy (k1b4 (TField.mk x.1) x.2.1 x.2.2.1 h)
def k2s:Con TB.den:=Con.mk0 133 [.agg [.d (.int .u64)],.one (.d (.int .u64))] [] (.one (.one (.d (.int .u64)))) []
abbrev kv4:=HL TB.den (hsT k2s.ins (hsOs k2s.pre))
abbrev kfs:=HL TB.den (hsV k2s.res (hsOs k2s.post))
noncomputable def ka7:Cx TB:=⟨inf,[k6a,k82],[],4,[]⟩
noncomputable def kg7:Code:=Try.f133.body.getD .skip
noncomputable def kj2:List ResultVar:=Try.f133.results.toList
noncomputable def ks5 (o:kfs):An TB:= .no
def kgb (x:kv4) (o:kfs):Prop:=WPh TB ka7 11 0 kg7 (ks5 o) (k2s.st TB x) (retTQ TB ka7 k2s kj2 o)
theorem k178 (o:kfs):OblH TB ka7 11 0 kg7 (ks5 o) (retTQ TB ka7 k2s kj2 o):=
 OblH.ofC (X:=True) (by kernel_rfl) trivial
theorem k183 {x:kv4} {o:kfs} (h:kgb x o):k2s.Snd Try.prog x o:=
 Con.soundH (c:=k2s) (C:=ka7) TBok ⟨inf_ok,(all_cons k8o (all_cons kby all_nil)),all_nil⟩ mix Try.func133 (show Try.f133.body=some kg7 by kernel_rfl) (show Try.f133.ntmps=11 by kernel_rfl) (show Try.f133.results.toList=kj2 by kernel_rfl) rfl h (k178 o)
theorem k1aa {p0:TField} {p1:Int} {r0:Int} (h:
((p0.P=18446744069414584321)∧((!true)=true→
 0=r0)∧
((!true)=false→
(0<p0.P∧0≤p1)∧(p1%p0.P)=r0))):kgb (p0.P,p1,()) (r0,()):=WPh.of_eq (by kernel_rfl) h
theorem bd133:Callable Try.prog 133:=⟨by rw[Try.func133];kernel_rfl,by rw[Try.func133];show some _≠some _;decide⟩
theorem k14h (p0:TField) (p1:Int) (h:p0.P=18446744069414584321∧U64 p1):kgb (p0.P,p1,()) (((p1%18446744069414584321):Int),()):=by
 obtain⟨hP,h1⟩:=h
 refine k1aa ⟨hP,fun h=>by simp at h,fun _=>⟨by omega,?_⟩⟩
 simp only[hP]
noncomputable def kq7:Con TB.den:=k2s.fnR (fun x=>(fun(p0:TField) (p1:Int)=>p0.P=18446744069414584321∧U64 p1) (TField.mk x.1) x.2.1) fun x=>((fun(p0:TField) (p1:Int)=>((p1%18446744069414584321):Int)) (TField.mk x.1) x.2.1,())
theorem k197:kq7.Ok Try.prog TB:=Con.ok_fn k2s bd133 fun x h=>k183 (k14h (TField.mk x.1) x.2.1 h)
def kp:Con TB.den:=Con.mk0 122 [.one (.d (.int .u64)),.one (.d (.int .i64)),.one (.d (.int .i64))] [] (.one (.one (.d (.int .u64)))) []
abbrev kgf:=HL TB.den (hsT kp.ins (hsOs kp.pre))
abbrev k73:=HL TB.den (hsV kp.res (hsOs kp.post))
noncomputable def k54:Cx TB:=⟨inf,[kq7],[],4,[]⟩
noncomputable def k89:Code:=Try.f122.body.getD .skip
noncomputable def k9i:List ResultVar:=Try.f122.results.toList
noncomputable def kfz (o:k73):An TB:= .no
def k8g (x:kgf) (o:k73):Prop:=WPh TB k54 31 0 k89 (kfz o) (kp.st TB x) (retTQ TB k54 kp k9i o)
theorem kqv (o:k73):OblH TB k54 31 0 k89 (kfz o) (retTQ TB k54 kp k9i o):=
 OblH.ofC (X:=True) (by kernel_rfl) trivial
theorem kpw {x:kgf} {o:k73} (h:k8g x o):kp.Snd Try.prog x o:=
 Con.soundH (c:=kp) (C:=k54) TBok ⟨inf_ok,(all_cons k197 all_nil),all_nil⟩ mix Try.func122 (show Try.f122.body=some k89 by kernel_rfl) (show Try.f122.ntmps=31 by kernel_rfl) (show Try.f122.results.toList=k9i by kernel_rfl) rfl h (kqv o)
theorem krn {p0:Int} {p1:Int} {p2:Int} {r0:Int} (h:
((decide (p1<0)=true→
 0=r0)∧
(decide (p1<0)=false→
(decide (8≤p1)=true→
 0=r0)∧
(decide (8≤p1)=false→
(decide (p2<0)=true→
 0=r0)∧
(decide (p2<0)=false→
(decide (2<p2)=true→
 0=r0)∧
(decide (2<p2)=false→
 let v1:Int:=IntKind.i64.wrap ((IntKind.i64.wrap (3*p1))+p2)
 let v2:Int:=IntKind.u64.wrap (IntKind.i64.wrap (v1+1))
 let v3:Int:=IntKind.u64.wrap (v2*11400714819323198485)
((TField.mk p0).P=18446744069414584321∧U64 v3)∧(v3%18446744069414584321)=r0)))))):k8g (p0,p1,p2,()) (r0,()):=WPh.of_eq (by kernel_rfl) h
theorem bd122:Callable Try.prog 122:=⟨by rw[Try.func122];kernel_rfl,by rw[Try.func122];show some _≠some _;decide⟩
theorem kp3 (p0:Int) (p1:Int) (p2:Int) (h:p0=18446744069414584321∧(0≤p1∧p1<8)∧0≤p2∧p2<3):k8g (p0,p1,p2,()) (((rc p1 p2):Int),()):=by
 obtain⟨hP,h1,h2⟩:=h
 refine krn ⟨fun h=> ?_,fun _=>⟨fun h=> ?_,fun _=>⟨fun h=> ?_,fun _=>⟨fun h=> ?_,fun _=> ?_⟩⟩⟩⟩
 ·simp at h;omega
 ·simp at h;omega
 ·simp at h;omega
 ·simp at h;omega
 ·simp only[]
  rw[wi (3*p1) (by omega) (by omega),wi (3*p1+p2) (by omega) (by omega),wi (3*p1+p2+1) (by omega) (by omega),wu (3*p1+p2+1) (by omega) (by omega),u64w]
  exact⟨⟨hP,by omega,by omega⟩,rfl⟩
noncomputable def kf0:Con TB.den:=kp.fnR (fun x=>(fun(p0:Int) (p1:Int) (p2:Int)=>p0=18446744069414584321∧(0≤p1∧p1<8)∧0≤p2∧p2<3) x.1 x.2.1 x.2.2.1) fun x=>((fun(p0:Int) (p1:Int) (p2:Int)=>((rc p1 p2):Int)) x.1 x.2.1 x.2.2.1,())
theorem ks0:kf0.Ok Try.prog TB:=Con.ok_fn kp bd122 fun x h=>kpw (kp3 x.1 x.2.1 x.2.2.1 h)
def k1n:Con TB.den:=Con.mk0 123 [.one (.d (.int .u64)),.agg [.d (.int .u64),.d (.int .u64),.d (.int .u64)]] [] (.one (.agg [.d (.int .u64),.d (.int .u64),.d (.int .u64)])) []
abbrev kol:=HL TB.den (hsT k1n.ins (hsOs k1n.pre))
abbrev kaj:=HL TB.den (hsV k1n.res (hsOs k1n.post))
noncomputable def k75:Cx TB:=⟨inf,[kha],[],4,[]⟩
noncomputable def kbx:Code:=Try.f123.body.getD .skip
noncomputable def kdz:List ResultVar:=Try.f123.results.toList
noncomputable def kmt (o:kaj):An TB:= .no
def kbp (x:kol) (o:kaj):Prop:=WPh TB k75 35 0 kbx (kmt o) (k1n.st TB x) (retTQ TB k75 k1n kdz o)
theorem k101 (o:kaj):OblH TB k75 35 0 kbx (kmt o) (retTQ TB k75 k1n kdz o):=
 OblH.ofC (X:=True) (by kernel_rfl) trivial
theorem kzx {x:kol} {o:kaj} (h:kbp x o):k1n.Snd Try.prog x o:=
 Con.soundH (c:=k1n) (C:=k75) TBok ⟨inf_ok,(all_cons kqo all_nil),all_nil⟩ mix Try.func123 (show Try.f123.body=some kbx by kernel_rfl) (show Try.f123.ntmps=35 by kernel_rfl) (show Try.f123.results.toList=kdz by kernel_rfl) rfl h (k101 o)
theorem k10i {p0:Int} {p1:TA3} {r0:TA3} (h:
(((TField.mk p0).P=18446744069414584321∧U64 p1.a0∧U64 p1.a1)∧((TField.mk p0).P=18446744069414584321∧U64 ((p1.a0+p1.a1)%18446744069414584321)∧U64 p1.a2)∧let r1:Int:=((((p1.a0+p1.a1)%18446744069414584321)+p1.a2)%18446744069414584321)
((TField.mk p0).P=18446744069414584321∧U64 p1.a0∧U64 r1)∧((TField.mk p0).P=18446744069414584321∧U64 p1.a1∧U64 r1)∧((TField.mk p0).P=18446744069414584321∧U64 p1.a2∧U64 r1)∧((p1.a0+r1)%18446744069414584321)=r0.a0∧((p1.a1+r1)%18446744069414584321)=r0.a1∧((p1.a2+r1)%18446744069414584321)=r0.a2)):kbp (p0,p1.a0,p1.a1,p1.a2,()) (r0.a0,r0.a1,r0.a2,()):=WPh.of_eq (by kernel_rfl) h
theorem bd123:Callable Try.prog 123:=⟨by rw[Try.func123];kernel_rfl,by rw[Try.func123];show some _≠some _;decide⟩
theorem kxs (p0:Int) (p1:TA3) (h:p0=18446744069414584321∧S3 p1):kbp (p0,p1.a0,p1.a1,p1.a2,()) (((mixS p1).a0:Int),((mixS p1).a1:Int),((mixS p1).a2:Int),()):=by
 obtain⟨hP,h0,h1,h2⟩:=h
 refine k10i ?_
 simp only[hP]
 exact⟨⟨by trivial,h0,h1⟩,⟨by trivial,by omega,h2⟩,⟨by trivial,h0,by omega⟩,⟨by trivial,h1,by omega⟩,⟨by trivial,h2,by omega⟩,rfl,rfl,rfl⟩
noncomputable def kkf:Con TB.den:=k1n.fnR (fun x=>(fun(p0:Int) (p1:TA3)=>p0=18446744069414584321∧S3 p1) x.1 (TA3.mk x.2.1 x.2.2.1 x.2.2.2.1)) fun x=>((fun(p0:Int) (p1:TA3)=>((mixS p1).a0:Int)) x.1 (TA3.mk x.2.1 x.2.2.1 x.2.2.2.1),(fun(p0:Int) (p1:TA3)=>((mixS p1).a1:Int)) x.1 (TA3.mk x.2.1 x.2.2.1 x.2.2.2.1),(fun(p0:Int) (p1:TA3)=>((mixS p1).a2:Int)) x.1 (TA3.mk x.2.1 x.2.2.1 x.2.2.2.1),())
theorem k135:kkf.Ok Try.prog TB:=Con.ok_fn k1n bd123 fun x h=>kzx (kxs x.1 (TA3.mk x.2.1 x.2.2.1 x.2.2.2.1) h)
def km:Con TB.den:=Con.mk0 112 [.one (.d (.int .u64)),.agg [.d (.int .u64),.d (.int .u64),.d (.int .u64)]] [] (.one (.agg [.d (.int .u64),.d (.int .u64),.d (.int .u64)])) []
abbrev kib:=HL TB.den (hsT km.ins (hsOs km.pre))
abbrev kc:=HL TB.den (hsV km.res (hsOs km.post))
noncomputable def kz:Cx TB:=⟨inf,[k6a,kn5,kf0,kha,kza,kkf],[],4,[]⟩
noncomputable def k1p:Code:=Try.f112.body.getD .skip
noncomputable def k72:List ResultVar:=Try.f112.results.toList
def ktc (o:kc):=qS TB kz 43 0 (cB (cB (cB (cB (cB k1p))))) .no (retTQ TB kz km k72 o)
def kb:Tm:=⟨[0,1,2],[.cells [.d (.int .u64),.d (.int .u64),.d (.int .u64)],.cells [.d (.int .u64),.d (.int .u64),.d (.int .u64)],.cells [.d (.int .u64)]],[0,3,4,5,6,17],[.one (.d (.int .u64)),.one (.ptr 0 0),.one (.ptr 1 0),.one (.ptr 2 0),.one (.d (.int .u64)),.one (.d (.int .i64))],3⟩
def kgu (o:kc) (nx2:NX TB kb):=qM TB 0 kb nx2 (blockT TB 0 (ktc o))
def ktq (o:kc) (nx2:NX TB kb):=qS TB kz 43 0 (cB (cB (cB (cA (cA (cB (cA (cB (cB (cB (cB k1p))))))))))) .no (kgu o nx2)
def ktf (o:kc) (nx2:NX TB kb):=qS TB kz 43 0 (cB (cB (cA (cA (cB (cB (cA (cA (cB (cA (cB (cB (cB (cB k1p)))))))))))))) .no (blockT TB 1 (ktq o nx2))
def k2t:Tm:=⟨[0,1,2],[.cells [.d (.int .u64),.d (.int .u64),.d (.int .u64)],.cells [.d (.int .u64),.d (.int .u64),.d (.int .u64)],.cells [.d (.int .u64)]],[0,3,4,5,6,7,17,20],[.one (.d (.int .u64)),.one (.ptr 0 0),.one (.ptr 1 0),.one (.ptr 2 0),.one (.d (.int .u64)),.one (.d (.int .i64)),.one (.d (.int .i64)),.one (.d (.int .i64))],3⟩
def kt4 (o:kc) (nx2:NX TB kb) (nx1:NX TB k2t):=qM TB 0 k2t nx1 (blockT TB 2 (ktf o nx2))
def k5k (o:kc) (nx2:NX TB kb) (nx1:NX TB k2t) (i:HL TB.den k2t.hs):Prop:=WP TB kz 43 0 (cA (cA (cB (cA (cB (cA (cA (cB (cB (cA (cA (cB (cA (cB (cB (cB (cB k1p))))))))))))))))) .no (k2t.fill TB i) (kt4 o nx2 nx1)
noncomputable def ku2 (o:kc) (nx2:NX TB kb):An TB:= .lp [] k2t (k5k o nx2) fun nx1=> .no
noncomputable def kt1 (o:kc) (nx2:NX TB kb):An TB:= .nd [] .no [] (.nd [] (.nd [] .no [] (ku2 o nx2)) [] .no)
noncomputable def kfx (o:kc) (nx2:NX TB kb):An TB:= .nd [] .no [] (.nd [] .no [] (.nd [] (kt1 o nx2) [] .no))
def k5r (o:kc) (nx2:NX TB kb) (i:HL TB.den kb.hs):Prop:=WP TB kz 43 0 (cA (cA (cB (cA (cB (cB (cB (cB k1p)))))))) (kfx o nx2) (kb.fill TB i) (kgu o nx2)
noncomputable def kru (o:kc):An TB:= .lp [] kb (k5r o) fun nx2=>(kfx o nx2)
noncomputable def krw (o:kc):An TB:= .nd [] .no [] (.nd [] (.nd [] .no [] (kru o)) [] .no)
noncomputable def kgx (o:kc):An TB:= .nd [] .no [] (.nd [] .no [] (.nd [] .no [] (krw o)))
def k8w (x:kib) (o:kc):Prop:=WPh TB kz 43 0 k1p (kgx o) (km.st TB x) (retTQ TB kz km k72 o)
theorem krz (o:kc):OblH TB kz 43 0 k1p (kgx o) (retTQ TB kz km k72 o):=
 OblH.ofC (X:=((∀nx i,(k5r o) nx i=(k5r o) nx i)∧(∀nx2:NX TB kb,((∀nx i,(k5k o nx2) nx i=(k5k o nx2) nx i)∧(∀nx1:NX TB k2t,True)∧True))∧True)) (by kernel_rfl) ⟨fun _ _=>rfl,fun _=>⟨fun _ _=>rfl,fun _=>trivial,trivial⟩,trivial⟩
theorem krq {x:kib} {o:kc} (h:k8w x o):km.Snd Try.prog x o:=
 Con.soundH (c:=km) (C:=kz) TBok ⟨inf_ok,(all_cons k8o (all_cons k13y (all_cons ks0 (all_cons kqo (all_cons k1iz (all_cons k135 all_nil)))))),all_nil⟩ mix Try.func112 (show Try.f112.body=some k1p by kernel_rfl) (show Try.f112.ntmps=43 by kernel_rfl) (show Try.f112.results.toList=k72 by kernel_rfl) rfl h (krz o)
theorem ku6 {p0:Int} {p1:TA3} {r0:TA3} (h:
(((TField.mk p0).P=18446744069414584321)∧((!true)=true→
 0=r0.a0∧0=r0.a1∧0=r0.a2)∧
((!true)=false→
((TField.mk p0).P=18446744069414584321)∧Md.Loop (p0,(7:Int),(0:Int),p1.a0,p1.a1,p1.a2,(0:Int),(0:Int),(0:Int),p0,()) (k5r (r0.a0,r0.a1,r0.a2,()))))):k8w (p0,p1.a0,p1.a1,p1.a2,()) (r0.a0,r0.a1,r0.a2,()):=WPh.of_eq (by kernel_rfl) h
def kgi (r0:TA3) (nx2:NX TB kb) (k2:Int→Int→Int→Int→Prop) (s0:Int) (s6:Int) (h1_0:Int) (h1_1:Int) (h1_2:Int) (h2_0:Int) (s17:Int) (h0_0:Int) (h0_1:Int) (h0_2:Int):Prop:=
(decide (s17<8)=true→
 Md.Loop (s0,s6,s17,s17,(0:Int),h0_0,h0_1,h0_2,h1_0,h1_1,h1_2,h2_0,()) (k5k (r0.a0,r0.a1,r0.a2,()) nx2))∧
(decide (s17<8)=false→
 h0_0=r0.a0∧h0_1=r0.a1∧h0_2=r0.a2)
theorem kry {r0:TA3} {s0:Int} {s6:Int} {h1_0:Int} {h1_1:Int} {h1_2:Int} {h2_0:Int} {s17:Int} {h0_0:Int} {h0_1:Int} {h0_2:Int} (inv:Int→Int→Int→Int→Prop) (μ:Int→Int→Int→Int→Nat) (h0:inv s17 h0_0 h0_1 h0_2) (hs:∀(s17:Int) (h0_0:Int) (h0_1:Int) (h0_2:Int),inv s17 h0_0 h0_1 h0_2→kgi r0 (fun s:Int×Int×Int×Int×Int×Int×Int×Int×Int×Int×Unit=>((s.1=s0∧s.2.1=s6∧s.2.2.2.2.2.2.1=h1_0∧s.2.2.2.2.2.2.2.1=h1_1∧s.2.2.2.2.2.2.2.2.1=h1_2∧s.2.2.2.2.2.2.2.2.2.1=h2_0)∧inv s.2.2.1 s.2.2.2.1 s.2.2.2.2.1 s.2.2.2.2.2.1)∧μ s.2.2.1 s.2.2.2.1 s.2.2.2.2.1 s.2.2.2.2.2.1<μ s17 h0_0 h0_1 h0_2) (fun s17q h0_0q h0_1q h0_2q=>inv s17q h0_0q h0_1q h0_2q∧μ s17q h0_0q h0_1q h0_2q<μ s17 h0_0 h0_1 h0_2) s0 s6 h1_0 h1_1 h1_2 h2_0 s17 h0_0 h0_1 h0_2):Md.Loop (s0,s6,s17,h0_0,h0_1,h0_2,h1_0,h1_1,h1_2,h2_0,()) (k5r (r0.a0,r0.a1,r0.a2,())):=
 ⟨⟨fun s:Int×Int×Int×Int×Int×Int×Int×Int×Int×Int×Unit=>(s.1=s0∧s.2.1=s6∧s.2.2.2.2.2.2.1=h1_0∧s.2.2.2.2.2.2.2.1=h1_1∧s.2.2.2.2.2.2.2.2.1=h1_2∧s.2.2.2.2.2.2.2.2.2.1=h2_0)∧inv s.2.2.1 s.2.2.2.1 s.2.2.2.2.1 s.2.2.2.2.2.1,fun s:Int×Int×Int×Int×Int×Int×Int×Int×Int×Int×Unit=>μ s.2.2.1 s.2.2.2.1 s.2.2.2.2.1 s.2.2.2.2.2.1,⟨⟨rfl,rfl,rfl,rfl,rfl,rfl⟩,h0⟩,fun(s0p,s6p,s17p,h0_0p,h0_1p,h0_2p,h1_0p,h1_1p,h1_2p,h2_0p,()) ⟨⟨eq0,eq1,eq2,eq3,eq4,eq5⟩,hi⟩=>by
  have eq0:s0p=s0:=eq0;subst s0p;have eq1:s6p=s6:=eq1;subst s6p;have eq2:h1_0p=h1_0:=eq2;subst h1_0p;have eq3:h1_1p=h1_1:=eq3;subst h1_1p;have eq4:h1_2p=h1_2:=eq4;subst h1_2p;have eq5:h2_0p=h2_0:=eq5;subst h2_0p;exact mpr_of (by kernel_rfl) ((congrArg (fun k=>kgi r0 (fun s:Int×Int×Int×Int×Int×Int×Int×Int×Int×Int×Unit=>((s.1=s0∧s.2.1=s6∧s.2.2.2.2.2.2.1=h1_0∧s.2.2.2.2.2.2.2.1=h1_1∧s.2.2.2.2.2.2.2.2.1=h1_2∧s.2.2.2.2.2.2.2.2.2.1=h2_0)∧inv s.2.2.1 s.2.2.2.1 s.2.2.2.2.1 s.2.2.2.2.2.1)∧μ s.2.2.1 s.2.2.2.1 s.2.2.2.2.1 s.2.2.2.2.2.1<μ s17p h0_0p h0_1p h0_2p) k s0 s6 h1_0 h1_1 h1_2 h2_0 s17p h0_0p h0_1p h0_2p) (lpk4 (⟨rfl,rfl,rfl,rfl,rfl,rfl⟩:s0=s0∧s6=s6∧h1_0=h1_0∧h1_1=h1_1∧h1_2=h1_2∧h2_0=h2_0) inv (fun s17q h0_0q h0_1q h0_2q=>μ s17q h0_0q h0_1q h0_2q<μ s17p h0_0p h0_1p h0_2p))).mpr (hs s17p h0_0p h0_1p h0_2p hi))⟩⟩
def kgn (r0:TA3) (nx2:NX TB kb) (k1:Int→Int→Int→Int→Prop) (s0:Int) (s6:Int) (s7:Int) (s17:Int) (h1_0:Int) (h1_1:Int) (h1_2:Int) (h2_0:Int) (s20:Int) (h0_0:Int) (h0_1:Int) (h0_2:Int):Prop:=
(decide (s20<3)=true→
(0≤s20∧s20<(3:Int))∧(0≤s20∧s20<(3:Int))∧(s0=18446744069414584321∧(0≤s7∧s7<8)∧0≤s20∧s20<3)∧((TField.mk h2_0).P=18446744069414584321∧U64 (ix [h0_0,h0_1,h0_2] s20)∧U64 (rc s7 s20))∧let r1:Int:=(((ix [h0_0,h0_1,h0_2] s20)+(rc s7 s20))%18446744069414584321)
((TField.mk h2_0).P=18446744069414584321∧U64 r1∧U64 s6)∧(0≤s20∧s20<(3:Int))∧(0≤s20∧s20<(3:Int))∧k1 (IntKind.i64.wrap (s20+1):Int) ((bif decide (s20=(0:Int))then(pw (r1%18446744069414584321) s6)else h0_0):Int) ((bif decide (s20=(1:Int))then(pw (r1%18446744069414584321) s6)else h0_1):Int) ((bif decide (s20=(2:Int))then(pw (r1%18446744069414584321) s6)else h0_2):Int))∧
(decide (s20<3)=false→
(s0=18446744069414584321∧S3 (TA3.mk h0_0 h0_1 h0_2))∧nx2 (s0,s6,(IntKind.i64.wrap (s17+1):Int),((mixS (TA3.mk h0_0 h0_1 h0_2)).a0:Int),((mixS (TA3.mk h0_0 h0_1 h0_2)).a1:Int),((mixS (TA3.mk h0_0 h0_1 h0_2)).a2:Int),h1_0,h1_1,h1_2,h2_0,()))
theorem ks1 {r0:TA3} {nx2:NX TB kb} {s0:Int} {s6:Int} {s7:Int} {s17:Int} {h1_0:Int} {h1_1:Int} {h1_2:Int} {h2_0:Int} {s20:Int} {h0_0:Int} {h0_1:Int} {h0_2:Int} (inv:Int→Int→Int→Int→Prop) (μ:Int→Int→Int→Int→Nat) (h0:inv s20 h0_0 h0_1 h0_2) (hs:∀(s20:Int) (h0_0:Int) (h0_1:Int) (h0_2:Int),inv s20 h0_0 h0_1 h0_2→kgn r0 nx2 (fun s20q h0_0q h0_1q h0_2q=>inv s20q h0_0q h0_1q h0_2q∧μ s20q h0_0q h0_1q h0_2q<μ s20 h0_0 h0_1 h0_2) s0 s6 s7 s17 h1_0 h1_1 h1_2 h2_0 s20 h0_0 h0_1 h0_2):Md.Loop (s0,s6,s7,s17,s20,h0_0,h0_1,h0_2,h1_0,h1_1,h1_2,h2_0,()) (k5k (r0.a0,r0.a1,r0.a2,()) nx2):=
 ⟨⟨fun s:Int×Int×Int×Int×Int×Int×Int×Int×Int×Int×Int×Int×Unit=>(s.1=s0∧s.2.1=s6∧s.2.2.1=s7∧s.2.2.2.1=s17∧s.2.2.2.2.2.2.2.2.1=h1_0∧s.2.2.2.2.2.2.2.2.2.1=h1_1∧s.2.2.2.2.2.2.2.2.2.2.1=h1_2∧s.2.2.2.2.2.2.2.2.2.2.2.1=h2_0)∧inv s.2.2.2.2.1 s.2.2.2.2.2.1 s.2.2.2.2.2.2.1 s.2.2.2.2.2.2.2.1,fun s:Int×Int×Int×Int×Int×Int×Int×Int×Int×Int×Int×Int×Unit=>μ s.2.2.2.2.1 s.2.2.2.2.2.1 s.2.2.2.2.2.2.1 s.2.2.2.2.2.2.2.1,⟨⟨rfl,rfl,rfl,rfl,rfl,rfl,rfl,rfl⟩,h0⟩,fun(s0p,s6p,s7p,s17p,s20p,h0_0p,h0_1p,h0_2p,h1_0p,h1_1p,h1_2p,h2_0p,()) ⟨⟨eq0,eq1,eq2,eq3,eq4,eq5,eq6,eq7⟩,hi⟩=>by
  have eq0:s0p=s0:=eq0;subst s0p;have eq1:s6p=s6:=eq1;subst s6p;have eq2:s7p=s7:=eq2;subst s7p;have eq3:s17p=s17:=eq3;subst s17p;have eq4:h1_0p=h1_0:=eq4;subst h1_0p;have eq5:h1_1p=h1_1:=eq5;subst h1_1p;have eq6:h1_2p=h1_2:=eq6;subst h1_2p;have eq7:h2_0p=h2_0:=eq7;subst h2_0p;exact mpr_of (by kernel_rfl) ((congrArg (fun k=>kgn r0 nx2 k s0 s6 s7 s17 h1_0 h1_1 h1_2 h2_0 s20p h0_0p h0_1p h0_2p) (lpk4 (⟨rfl,rfl,rfl,rfl,rfl,rfl,rfl,rfl⟩:s0=s0∧s6=s6∧s7=s7∧s17=s17∧h1_0=h1_0∧h1_1=h1_1∧h1_2=h1_2∧h2_0=h2_0) inv (fun s20q h0_0q h0_1q h0_2q=>μ s20q h0_0q h0_1q h0_2q<μ s20p h0_0p h0_1p h0_2p))).mpr (hs s20p h0_0p h0_1p h0_2p hi))⟩⟩
theorem bd112:Callable Try.prog 112:=⟨by rw[Try.func112];kernel_rfl,by rw[Try.func112];show some _≠some _;decide⟩
theorem kpq (p0:Int) (p1:TA3) (h:p0=18446744069414584321∧S3 p1):k8w (p0,p1.a0,p1.a1,p1.a2,()) (((permS p1).a0:Int),((permS p1).a1:Int),((permS p1).a2:Int),()):=by
 obtain⟨hP,hs⟩:=h
 subst hP
 refine ku6 ⟨rfl,fun h=>by simp at h,fun _=>⟨rfl,?_⟩⟩
 refine kry (r0:=permS p1) (fun n a b c=>0≤n∧n≤8∧(⟨a,b,c⟩:TA3)=rnds n.toNat p1∧S3 ⟨a,b,c⟩) (fun n _ _ _=>(8-n).toNat) ⟨by omega,by omega,rfl,hs⟩ ?_
 rintro n a b c ⟨g0,g1,g2,g3⟩
 refine⟨fun h=> ?_,fun h=> ?_⟩
 ·have h:=of_decide_eq_true h
  refine ks1 (r0:=permS p1) (fun i x y z=>(i=0∧x=a∧y=b∧z=c)∨(i=1∧x=pw ((a+rc n 0)%18446744069414584321) 7∧y=b∧z=c)∨(i=2∧x=pw ((a+rc n 0)%18446744069414584321) 7∧y=pw ((b+rc n 1)%18446744069414584321) 7∧z=c)∨(i=3∧x=pw ((a+rc n 0)%18446744069414584321) 7∧y=pw ((b+rc n 1)%18446744069414584321) 7∧z=pw ((c+rc n 2)%18446744069414584321) 7)) (fun i _ _ _=>(3-i).toNat) (.inl ⟨rfl,rfl,rfl,rfl⟩) ?_
  intro i x y z hi
  have hrc:∀k,U64 (rc n k):=fun k=>by unfold rc;omega
  have hpw:∀k e,0≤pw k e∧pw k e<18446744069414584321:=fun k e=>⟨Int.emod_nonneg _ (by omega),Int.emod_lt_of_pos _ (by omega)⟩
  obtain⟨h3a,h3b,h3c⟩:=g3
  refine⟨fun hh=> ?_,fun hh=> ?_⟩
  ·have hh:=of_decide_eq_true hh
   rcases hi with⟨rfl,rfl,rfl,rfl⟩|⟨rfl,rfl,rfl,rfl⟩|⟨rfl,rfl,rfl,rfl⟩|⟨rfl,_⟩
   ·refine⟨by omega,by omega,⟨rfl,by omega,by omega⟩,⟨rfl,h3a,hrc _⟩,⟨rfl,?_,by omega⟩,by omega,by omega,.inr (.inl ⟨rfl,?_,rfl,rfl⟩),by decide⟩
    ·exact⟨Int.emod_nonneg _ (by omega),Int.lt_trans (Int.emod_lt_of_pos _ (by omega)) (by omega)⟩
    ·show pw ((x+rc n 0)%18446744069414584321%18446744069414584321) 7=_
     rw[Int.emod_emod_of_dvd _ (Int.dvd_refl _)]
   ·refine⟨by omega,by omega,⟨rfl,by omega,by omega⟩,⟨rfl,h3b,hrc _⟩,⟨rfl,?_,by omega⟩,by omega,by omega,.inr (.inr (.inl ⟨rfl,rfl,?_,rfl⟩)),by decide⟩
    ·exact⟨Int.emod_nonneg _ (by omega),Int.lt_trans (Int.emod_lt_of_pos _ (by omega)) (by omega)⟩
    ·show pw ((y+rc n 1)%18446744069414584321%18446744069414584321) 7=_
     rw[Int.emod_emod_of_dvd _ (Int.dvd_refl _)]
   ·refine⟨by omega,by omega,⟨rfl,by omega,by omega⟩,⟨rfl,h3c,hrc _⟩,⟨rfl,?_,by omega⟩,by omega,by omega,.inr (.inr (.inr ⟨rfl,rfl,rfl,?_⟩)),by decide⟩
    ·exact⟨Int.emod_nonneg _ (by omega),Int.lt_trans (Int.emod_lt_of_pos _ (by omega)) (by omega)⟩
    ·show pw ((z+rc n 2)%18446744069414584321%18446744069414584321) 7=_
     rw[Int.emod_emod_of_dvd _ (Int.dvd_refl _)]
   ·omega
  ·have hh:=of_decide_eq_false hh
   rcases hi with⟨rfl,_⟩|⟨rfl,_⟩|⟨rfl,_⟩|⟨rfl,rfl,rfl,rfl⟩
   ·omega
   ·omega
   ·omega
   ·have e:rnds (n+1).toNat p1=rnd ⟨a,b,c⟩ n:=by
     rw[show(n+1).toNat=n.toNat+1 by omega]
     show rnd (rnds n.toNat p1) (n.toNat:Int)=_
     rw[←g2,show(n.toNat:Int)=n by omega]
    have hS:S3 (rnds (n+1).toNat p1):=by
     rw[e]
     unfold rnd mixS S3
     dsimp only
     omega
    have hinc:IntKind.i64.wrap (n+1)=n+1:=wi _ (by omega) (by omega)
    rw[hinc]
    refine⟨⟨rfl,by unfold S3;have:=hpw ((a+rc n 0)%18446744069414584321) 7;have:=hpw ((b+rc n 1)%18446744069414584321) 7;have:=hpw ((c+rc n 2)%18446744069414584321) 7;dsimp only;omega⟩,⟨⟨rfl,rfl,rfl,rfl,rfl,rfl⟩,(?_:0≤n+1∧n+1≤8∧_∧_)⟩,(?_:(8-(n+1)).toNat<(8-n).toNat)⟩
    ·refine⟨by omega,by omega,e.symm,?_⟩
     rw[e]at hS
     exact hS
    ·omega
 ·have h:=of_decide_eq_false h
  rw[show n=8 by omega]at g2
  have g2:(⟨a,b,c⟩:TA3)=permS p1:=g2
  rw[←g2]
  exact⟨rfl,rfl,rfl⟩
noncomputable def kfu:Con TB.den:=km.fnR (fun x=>(fun(p0:Int) (p1:TA3)=>p0=18446744069414584321∧S3 p1) x.1 (TA3.mk x.2.1 x.2.2.1 x.2.2.2.1)) fun x=>((fun(p0:Int) (p1:TA3)=>((permS p1).a0:Int)) x.1 (TA3.mk x.2.1 x.2.2.1 x.2.2.2.1),(fun(p0:Int) (p1:TA3)=>((permS p1).a1:Int)) x.1 (TA3.mk x.2.1 x.2.2.1 x.2.2.2.1),(fun(p0:Int) (p1:TA3)=>((permS p1).a2:Int)) x.1 (TA3.mk x.2.1 x.2.2.1 x.2.2.2.1),())
theorem kta:kfu.Ok Try.prog TB:=Con.ok_fn km bd112 fun x h=>krq (kpq x.1 (TA3.mk x.2.1 x.2.2.1 x.2.2.2.1) h)
def k1s:Con TB.den:=Con.mk0 104 [.one (.d (.int .u64)),.one (.d (.int .u64)),.one (.d (.sl (.int .u64)))] [] (.one (.agg [.d (.int .u64),.d (.int .u64),.d (.int .u64)])) []
abbrev ksl:=HL TB.den (hsT k1s.ins (hsOs k1s.pre))
abbrev k1q:=HL TB.den (hsV k1s.res (hsOs k1s.post))
noncomputable def k2w:Cx TB:=⟨inf,[kyo,kha,kfu],[],4,[]⟩
noncomputable def k4t:Code:=Try.f104.body.getD .skip
noncomputable def kc3:List ResultVar:=Try.f104.results.toList
def k16l (o:k1q):=qS TB k2w 61 0 (cB (cB (cB (cB (cB k4t))))) .no (retTQ TB k2w k1s kc3 o)
def k1i:Tm:=⟨[0,1,38],[.cells [.d (.int .u64),.d (.int .u64),.d (.int .u64)],.cells [.d (.int .u64)],.cells [.d (.int .u64),.d (.int .u64),.d (.int .u64)]],[0,2,6,7,8,9],[.one (.d (.int .u64)),.one (.d (.sl (.int .u64))),.one (.ptr 0 0),.one (.ptr 1 0),.one (.ptr 2 0),.one (.d (.int .i64))],46⟩
def kqe (o:k1q) (nx1:NX TB k1i):=qM TB 0 k1i nx1 (blockT TB 0 (k16l o))
def k17h (o:k1q) (nx1:NX TB k1i):=qS TB k2w 61 0 (cB (cB (cA (cA (cB (cA (cB (cB (cB (cB k4t)))))))))) .no (kqe o nx1)
def kag:Tm:=⟨[0,1,38],[.cells [.d (.int .u64),.d (.int .u64),.d (.int .u64)],.cells [.d (.int .u64)],.cells [.d (.int .u64),.d (.int .u64),.d (.int .u64)]],[0,2,6,7,8,9],[.one (.d (.int .u64)),.one (.d (.sl (.int .u64))),.one (.ptr 0 0),.one (.ptr 1 0),.one (.ptr 2 0),.one (.d (.int .i64))],86⟩
def koj (o:k1q) (nx1:NX TB k1i) (i:HL TB.den kag.hs):Prop:=ghs TB [] (kag.fill TB i) fun s=>WP TB k2w 61 0 (cB (cB (cA (cA (cB (cA (cA (cB (cA (cB (cB (cB (cB k4t))))))))))))) .no s (blockT TB 1 (k17h o nx1))
structure k6x (o:k1q) (nx1:NX TB k1i) (i:HL TB.den kag.hs):Prop where
 h:koj o nx1 i
noncomputable def kqk (o:k1q) (nx1:NX TB k1i):An TB:= .nd [] .no [] (.jn kag (k6x o nx1) [] .no [] .no)
def k8v (o:k1q) (nx1:NX TB k1i) (i:HL TB.den k1i.hs):Prop:=WP TB k2w 61 0 (cA (cA (cB (cA (cB (cB (cB (cB k4t)))))))) (.nd [] .no [] (.nd [] (kqk o nx1) [] .no)) (k1i.fill TB i) (kqe o nx1)
noncomputable def k16j (o:k1q):An TB:= .lp [] k1i (k8v o) fun nx1=>(.nd [] .no [] (.nd [] (kqk o nx1) [] .no))
noncomputable def k170 (o:k1q):An TB:= .nd [] .no [] (.nd [] (.nd [] .no [] (k16j o)) [] .no)
noncomputable def kq8 (o:k1q):An TB:= .nd [] .no [] (.nd [] .no [] (.nd [] .no [] (k170 o)))
def ke6 (x:ksl) (o:k1q):Prop:=WPh TB k2w 61 0 k4t (kq8 o) (k1s.st TB x) (retTQ TB k2w k1s kc3 o)
theorem k13u (o:k1q):OblH TB k2w 61 0 k4t (kq8 o) (retTQ TB k2w k1s kc3 o):=
 OblH.ofC (X:=((∀nx i,(k8v o) nx i=(k8v o) nx i)∧(∀nx1:NX TB k1i,((∀i,(k6x o nx1) i=koj o nx1 i)∧True))∧True)) (by kernel_rfl) ⟨fun _ _=>rfl,fun _=>⟨fun _=>propext ⟨fun h=>h.1,fun h=>⟨h⟩⟩,trivial⟩,trivial⟩
theorem k143 {x:ksl} {o:k1q} (h:ke6 x o):k1s.Snd Try.prog x o:=
 Con.soundH (c:=k1s) (C:=k2w) TBok ⟨inf_ok,(all_cons k1i8 (all_cons kqo (all_cons kta all_nil))),all_nil⟩ mix Try.func104 (show Try.f104.body=some k4t by kernel_rfl) (show Try.f104.ntmps=61 by kernel_rfl) (show Try.f104.results.toList=kc3 by kernel_rfl) rfl h (k13u o)
theorem k17j {p0:Int} {p1:Int} {p2:List Int} {r0:TA3} (h:
(((TField.mk p0).P=18446744069414584321∧U64 p1∧U64 (65536:Int))∧let r1:Int:=(p1*(65536:Int)%18446744069414584321)
((TField.mk p0).P=18446744069414584321∧U64 r1∧U64 (IntKind.u64.wrap (p2.length:Int)))∧let r2:Int:=((r1+(IntKind.u64.wrap (p2.length:Int)))%18446744069414584321)
(((p2.length:Int)==0)=true→
(p0=18446744069414584321∧S3 (TA3.mk 0 0 r2))∧(permS (TA3.mk 0 0 r2)).a0=r0.a0∧(permS (TA3.mk 0 0 r2)).a1=r0.a1∧(permS (TA3.mk 0 0 r2)).a2=r0.a2)∧
(((p2.length:Int)==0)=false→
 Md.Loop (p0,p2,(0:Int),(0:Int),(0:Int),(0:Int),p0,(0:Int),(0:Int),r2,()) (k8v (r0.a0,r0.a1,r0.a2,()))))):ke6 (p0,p1,p2,()) (r0.a0,r0.a1,r0.a2,()):=WPh.of_eq (by kernel_rfl) h
theorem kzr {r0:TA3} {nx1:NX TB k1i} {s0:Int} {s2:List Int} {s9:Int} {h0_0:Int} {h0_1:Int} {h0_2:Int} {h1_0:Int} {h38_0:Int} {h38_1:Int} {h38_2:Int} (h:
((s0=18446744069414584321∧S3 (TA3.mk h38_0 h38_1 h38_2))∧nx1 (s0,s2,(IntKind.i64.wrap (s9+2):Int),h0_0,h0_1,h0_2,h1_0,((permS (TA3.mk h38_0 h38_1 h38_2)).a0:Int),((permS (TA3.mk h38_0 h38_1 h38_2)).a1:Int),((permS (TA3.mk h38_0 h38_1 h38_2)).a2:Int),()))):k6x (r0.a0,r0.a1,r0.a2,()) nx1 (s0,s2,s9,h0_0,h0_1,h0_2,h1_0,h38_0,h38_1,h38_2,()):=⟨mpr_of (by kernel_rfl) h⟩
def kra (r0:TA3) (nx1:NX TB k1i) (k1:Int→Int→Int→Int→Prop) (s0:Int) (s2:List Int) (h0_0:Int) (h0_1:Int) (h0_2:Int) (h1_0:Int) (s9:Int) (h38_0:Int) (h38_1:Int) (h38_2:Int):Prop:=
(decide (s9<(s2.length:Int))=true→
(0≤s9)∧s9<(s2.length:Int)∧((TField.mk h1_0).P=18446744069414584321∧U64 h38_0∧U64 (ix s2 s9))∧let r3:Int:=((h38_0+(ix s2 s9))%18446744069414584321)
 let v4:Bool:=decide ((IntKind.i64.wrap (s9+1))<(s2.length:Int))
(v4=true→
(0≤IntKind.i64.wrap (s9+1))∧IntKind.i64.wrap (s9+1)<(s2.length:Int)∧((TField.mk h1_0).P=18446744069414584321∧U64 h38_1∧U64 (ix s2 (IntKind.i64.wrap (s9+1))))∧let r5:Int:=((h38_1+(ix s2 (IntKind.i64.wrap (s9+1))))%18446744069414584321)
 k6x (r0.a0,r0.a1,r0.a2,()) nx1 (s0,s2,s9,h0_0,h0_1,h0_2,h1_0,r3,r5,h38_2,()))∧
(v4=false→
 k6x (r0.a0,r0.a1,r0.a2,()) nx1 (s0,s2,s9,h0_0,h0_1,h0_2,h1_0,r3,h38_1,h38_2,())))∧
(decide (s9<(s2.length:Int))=false→
 h38_0=r0.a0∧h38_1=r0.a1∧h38_2=r0.a2)
theorem k13o {r0:TA3} {s0:Int} {s2:List Int} {h0_0:Int} {h0_1:Int} {h0_2:Int} {h1_0:Int} {s9:Int} {h38_0:Int} {h38_1:Int} {h38_2:Int} (inv:Int→Int→Int→Int→Prop) (μ:Int→Int→Int→Int→Nat) (h0:inv s9 h38_0 h38_1 h38_2) (hs:∀(s9:Int) (h38_0:Int) (h38_1:Int) (h38_2:Int),inv s9 h38_0 h38_1 h38_2→kra r0 (fun s:Int×(List Int)×Int×Int×Int×Int×Int×Int×Int×Int×Unit=>((s.1=s0∧s.2.1=s2∧s.2.2.2.1=h0_0∧s.2.2.2.2.1=h0_1∧s.2.2.2.2.2.1=h0_2∧s.2.2.2.2.2.2.1=h1_0)∧inv s.2.2.1 s.2.2.2.2.2.2.2.1 s.2.2.2.2.2.2.2.2.1 s.2.2.2.2.2.2.2.2.2.1)∧μ s.2.2.1 s.2.2.2.2.2.2.2.1 s.2.2.2.2.2.2.2.2.1 s.2.2.2.2.2.2.2.2.2.1<μ s9 h38_0 h38_1 h38_2) (fun s9q h38_0q h38_1q h38_2q=>inv s9q h38_0q h38_1q h38_2q∧μ s9q h38_0q h38_1q h38_2q<μ s9 h38_0 h38_1 h38_2) s0 s2 h0_0 h0_1 h0_2 h1_0 s9 h38_0 h38_1 h38_2):Md.Loop (s0,s2,s9,h0_0,h0_1,h0_2,h1_0,h38_0,h38_1,h38_2,()) (k8v (r0.a0,r0.a1,r0.a2,())):=
 ⟨⟨fun s:Int×(List Int)×Int×Int×Int×Int×Int×Int×Int×Int×Unit=>(s.1=s0∧s.2.1=s2∧s.2.2.2.1=h0_0∧s.2.2.2.2.1=h0_1∧s.2.2.2.2.2.1=h0_2∧s.2.2.2.2.2.2.1=h1_0)∧inv s.2.2.1 s.2.2.2.2.2.2.2.1 s.2.2.2.2.2.2.2.2.1 s.2.2.2.2.2.2.2.2.2.1,fun s:Int×(List Int)×Int×Int×Int×Int×Int×Int×Int×Int×Unit=>μ s.2.2.1 s.2.2.2.2.2.2.2.1 s.2.2.2.2.2.2.2.2.1 s.2.2.2.2.2.2.2.2.2.1,⟨⟨rfl,rfl,rfl,rfl,rfl,rfl⟩,h0⟩,fun(s0p,s2p,s9p,h0_0p,h0_1p,h0_2p,h1_0p,h38_0p,h38_1p,h38_2p,()) ⟨⟨eq0,eq1,eq2,eq3,eq4,eq5⟩,hi⟩=>by
  have eq0:s0p=s0:=eq0;subst s0p;have eq1:s2p=s2:=eq1;subst s2p;have eq2:h0_0p=h0_0:=eq2;subst h0_0p;have eq3:h0_1p=h0_1:=eq3;subst h0_1p;have eq4:h0_2p=h0_2:=eq4;subst h0_2p;have eq5:h1_0p=h1_0:=eq5;subst h1_0p;exact mpr_of (by kernel_rfl) ((congrArg (fun k=>kra r0 (fun s:Int×(List Int)×Int×Int×Int×Int×Int×Int×Int×Int×Unit=>((s.1=s0∧s.2.1=s2∧s.2.2.2.1=h0_0∧s.2.2.2.2.1=h0_1∧s.2.2.2.2.2.1=h0_2∧s.2.2.2.2.2.2.1=h1_0)∧inv s.2.2.1 s.2.2.2.2.2.2.2.1 s.2.2.2.2.2.2.2.2.1 s.2.2.2.2.2.2.2.2.2.1)∧μ s.2.2.1 s.2.2.2.2.2.2.2.1 s.2.2.2.2.2.2.2.2.1 s.2.2.2.2.2.2.2.2.2.1<μ s9p h38_0p h38_1p h38_2p) k s0 s2 h0_0 h0_1 h0_2 h1_0 s9p h38_0p h38_1p h38_2p) (lpk4 (⟨rfl,rfl,rfl,rfl,rfl,rfl⟩:s0=s0∧s2=s2∧h0_0=h0_0∧h0_1=h0_1∧h0_2=h0_2∧h1_0=h1_0) inv (fun s9q h38_0q h38_1q h38_2q=>μ s9q h38_0q h38_1q h38_2q<μ s9p h38_0p h38_1p h38_2p))).mpr (hs s9p h38_0p h38_1p h38_2p hi))⟩⟩
theorem bd104:Callable Try.prog 104:=⟨by rw[Try.func104];kernel_rfl,by rw[Try.func104];show some _≠some _;decide⟩
theorem k10z (p0:Int) (p1:Int) (p2:List Int) (h:p0=18446744069414584321∧U64 p1∧Us p2∧p2.length≤1099511627776):ke6 (p0,p1,p2,()) (((absS p1 p2).a0:Int),((absS p1 p2).a1:Int),((absS p1 p2).a2:Int),()):=by
 obtain⟨hP,h1,h2,h3⟩:=h
 subst hP
 have hp:∀s:TA3,S3 (permS s):=fun s=>by
  show S3 (rnd _ _)
  unfold rnd mixS S3
  dsimp only
  omega
 have hi:S3 (absI p1 p2):=by unfold absI S3;dsimp only;omega
 have e:IntKind.u64.wrap (p2.length:Int)=p2.length:=wu _ (by omega) (by omega)
 have em:(p1*65536%18446744069414584321+(p2.length:Int))%18446744069414584321=(absI p1 p2).a2:=rfl
 refine k17j ?_
 rw[e]
 refine⟨⟨rfl,h1,by omega⟩,⟨rfl,by omega,by omega⟩,fun h=> ?_,fun h=> ?_⟩
 ·have h:p2=[]:=by simpa using h
  refine⟨⟨rfl,?_⟩,?_⟩
  ·exact hi
  ·have:permS ⟨0,0,(p1*65536%18446744069414584321+(p2.length:Int))%18446744069414584321⟩=absS p1 p2:=by unfold absS;rw[if_pos h];rfl
   rw[this]
   exact⟨rfl,rfl,rfl⟩
 ·have h:p2≠[]:=by simpa using h
  have hv:absL p2 (absI p1 p2)=absS p1 p2:=by unfold absS;rw[if_neg h]
  rw[em]
  refine k13o (r0:=absS p1 p2) (fun i a b c=>0≤i∧i≤p2.length+1∧absL (p2.drop i.toNat) ⟨a,b,c⟩=absS p1 p2∧S3 ⟨a,b,c⟩) (fun i _ _ _=>(p2.length+2-i).toNat) ⟨by omega,by omega,hv,hi⟩ ?_
  rintro i a b c ⟨g0,g1,g2,g3⟩
  obtain⟨h3a,h3b,h3c⟩:=g3
  refine⟨fun hh=> ?_,fun hh=> ?_⟩
  ·have hh:=of_decide_eq_true hh
   have hx:=h2 _ (ix_mem p2 i g0 hh)
   rw[wi (i+1) (by omega) (by omega)]
   have fin:∀nx x y z,S3 ⟨x,y,z⟩→absL (p2.drop (i+2).toNat) (permS ⟨x,y,z⟩)=absS p1 p2→(0≤i+2∧i+2≤p2.length+1∧absL (p2.drop (i+2).toNat) (permS ⟨x,y,z⟩)=absS p1 p2∧S3 (permS ⟨x,y,z⟩)→(p2.length+2-(i+2)).toNat<(p2.length+2-i).toNat→nx ((18446744069414584321:Int),p2,(i+2:Int),(0:Int),(0:Int),(0:Int),(18446744069414584321:Int),(permS ⟨x,y,z⟩).a0,(permS ⟨x,y,z⟩).a1,(permS ⟨x,y,z⟩).a2,()))→k6x ((absS p1 p2).a0,(absS p1 p2).a1,(absS p1 p2).a2,()) nx ((18446744069414584321:Int),p2,i,(0:Int),(0:Int),(0:Int),(18446744069414584321:Int),x,y,z,()):=by
    intro nx x y z hS hv' hn
    refine kzr (r0:=absS p1 p2) ?_
    rw[wi (i+2) (by omega) (by omega)]
    exact⟨⟨rfl,hS⟩,hn ⟨by omega,by omega,hv',hp _⟩ (by omega)⟩
   have hdrop:=drop_ix p2 i g0 hh
   rw[hdrop]at g2
   refine⟨g0,hh,⟨rfl,h3a,hx⟩,fun h5=> ?_,fun h5=> ?_⟩
   ·have h5:=of_decide_eq_true h5
    have hy:=h2 _ (ix_mem p2 (i+1) (by omega) h5)
    rw[drop_ix p2 (i+1) (by omega) h5,show i+1+1=i+2 by omega]at g2
    refine⟨by omega,h5,⟨rfl,h3b,hy⟩,fin _ _ _ _ (S3m (by omega) (by omega) h3c) g2 fun k1 k2=>⟨⟨⟨rfl,rfl,rfl,rfl,rfl,rfl⟩,k1⟩,k2⟩⟩
   ·have h5:=of_decide_eq_false h5
    have ed:p2.drop (i+1).toNat=[]:=List.drop_eq_nil_of_le (by omega)
    have ed2:p2.drop (i+2).toNat=[]:=List.drop_eq_nil_of_le (by omega)
    rw[ed]at g2
    exact fin _ _ _ _ (S3m (by omega) h3b h3c) (by rw[ed2];exact g2) fun k1 k2=>⟨⟨⟨rfl,rfl,rfl,rfl,rfl,rfl⟩,k1⟩,k2⟩
  ·have hh:=of_decide_eq_false hh
   rw[List.drop_eq_nil_of_le (by omega)]at g2
   have g2:(⟨a,b,c⟩:TA3)=absS p1 p2:=g2
   rw[←g2]
   exact⟨rfl,rfl,rfl⟩
noncomputable def kov:Con TB.den:=k1s.fnR (fun x=>(fun(p0:Int) (p1:Int) (p2:List Int)=>p0=18446744069414584321∧U64 p1∧Us p2∧p2.length≤1099511627776) x.1 x.2.1 x.2.2.1) fun x=>((fun(p0:Int) (p1:Int) (p2:List Int)=>((absS p1 p2).a0:Int)) x.1 x.2.1 x.2.2.1,(fun(p0:Int) (p1:Int) (p2:List Int)=>((absS p1 p2).a1:Int)) x.1 x.2.1 x.2.2.1,(fun(p0:Int) (p1:Int) (p2:List Int)=>((absS p1 p2).a2:Int)) x.1 x.2.1 x.2.2.1,())
theorem k17d:kov.Ok Try.prog TB:=Con.ok_fn k1s bd104 fun x h=>k143 (k10z x.1 x.2.1 x.2.2.1 h)
def k3d:Con TB.den:=Con.mk0 82 [.one (.d (.int .u64)),.one (.d (.int .u64)),.one (.d (.sl (.int .u64)))] [] (.one (.one (.d (.int .u64)))) []
abbrev ky4:=HL TB.den (hsT k3d.ins (hsOs k3d.pre))
abbrev khb:=HL TB.den (hsV k3d.res (hsOs k3d.post))
noncomputable def kas:Cx TB:=⟨inf,[k6a,kov],[],4,[]⟩
noncomputable def kht:Code:=Try.f82.body.getD .skip
noncomputable def klp:List ResultVar:=Try.f82.results.toList
noncomputable def kuq (o:khb):An TB:= .no
def khy (x:ky4) (o:khb):Prop:=WPh TB kas 16 0 kht (kuq o) (k3d.st TB x) (retTQ TB kas k3d klp o)
theorem k18u (o:khb):OblH TB kas 16 0 kht (kuq o) (retTQ TB kas k3d klp o):=
 OblH.ofC (X:=True) (by kernel_rfl) trivial
theorem k1al {x:ky4} {o:khb} (h:khy x o):k3d.Snd Try.prog x o:=
 Con.soundH (c:=k3d) (C:=kas) TBok ⟨inf_ok,(all_cons k8o (all_cons k17d all_nil)),all_nil⟩ mix Try.func82 (show Try.f82.body=some kht by kernel_rfl) (show Try.f82.ntmps=16 by kernel_rfl) (show Try.f82.results.toList=klp by kernel_rfl) rfl h (k18u o)
theorem k1cm {p0:Int} {p1:Int} {p2:List Int} {r0:Int} (h:
(((TField.mk p0).P=18446744069414584321)∧((!true)=true→
 0=r0)∧
((!true)=false→
(p0=18446744069414584321∧U64 p1∧Us p2∧p2.length≤1099511627776)∧(absS p1 p2).a0=r0))):khy (p0,p1,p2,()) (r0,()):=WPh.of_eq (by kernel_rfl) h
theorem bd82:Callable Try.prog 82:=⟨by rw[Try.func82];kernel_rfl,by rw[Try.func82];show some _≠some _;decide⟩
theorem k16b (p0:Int) (p1:Int) (p2:List Int) (h:p0=18446744069414584321∧U64 p1∧Us p2∧p2.length≤1099511627776):khy (p0,p1,p2,()) (((hashS p1 p2):Int),()):=by
 obtain⟨hP,h1,h2,h3⟩:=h
 subst hP
 exact k1cm ⟨rfl,fun h=>by simp at h,fun _=>⟨⟨rfl,h1,h2,h3⟩,rfl⟩⟩
noncomputable def k9t:Con TB.den:=k3d.fnR (fun x=>(fun(p0:Int) (p1:Int) (p2:List Int)=>p0=18446744069414584321∧U64 p1∧Us p2∧p2.length≤1099511627776) x.1 x.2.1 x.2.2.1) fun x=>((fun(p0:Int) (p1:Int) (p2:List Int)=>((hashS p1 p2):Int)) x.1 x.2.1 x.2.2.1,())
theorem kfn:k9t.Ok Try.prog TB:=Con.ok_fn k3d bd82 fun x h=>k1al (k16b x.1 x.2.1 x.2.2.1 h)
def k1u:Con TB.den:=Con.mk0 39 [.one (.ptr 0 0),.one (.d (.int .u64)),.one (.d (.sl (.int .u64)))] [.cells [.d (.bool),.d (.int .u64),.d (.int .i64),.own 1,.mp 2,.mp 3,.mp 4],.tip (.st 3),.map (.str) (.int .i64),.map (.str) (.sl (.int .u64)),.map (.str) (.bool)] (.one (.one (.d (.int .u64)))) [.cells [.d (.bool),.d (.int .u64),.d (.int .i64),.own 1,.mp 2,.mp 3,.mp 4],.tip (.st 3),.map (.str) (.int .i64),.map (.str) (.sl (.int .u64)),.map (.str) (.bool)]
abbrev ksm:=HL TB.den (hsT k1u.ins (hsOs k1u.pre))
abbrev k5b:=HL TB.den (hsV k1u.res (hsOs k1u.post))
noncomputable def k5y:Cx TB:=⟨inf,[kd6,km4,ko8,k9t,kkg],[],4,[]⟩
noncomputable def k9z:Code:=Try.f39.body.getD .skip
noncomputable def kbt:List ResultVar:=Try.f39.results.toList
def kai:Tm:=⟨[0,1,2,3,4],[.cells [.d (.bool),.d (.int .u64),.d (.int .i64),.own 1,.mp 2,.mp 3,.mp 4],.tip (.st 3),.map (.str) (.int .i64),.map (.str) (.sl (.int .u64)),.map (.str) (.bool)],[0,1,2,7,10],[.one (.ptr 0 0),.one (.d (.int .u64)),.one (.d (.sl (.int .u64))),.one (.d (.str)),.one (.d (.int .u64))],6⟩
def koc (o:k5b) (i:HL TB.den kai.hs):Prop:=ghs TB [] (kai.fill TB i) fun s=>WP TB k5y 52 5 (cB (cB (cB (cB (cB (cB k9z)))))) .no s (retTQ TB k5y k1u kbt o)
structure k8t (o:k5b) (i:HL TB.den kai.hs):Prop where
 h:koc o i
noncomputable def k17g (o:k5b):An TB:= .nd [] .no [] (.jn kai (k8t o) [] .no [] .no)
noncomputable def k17z (o:k5b):An TB:= .nd [] .no [] (.nd [] .no [] (.nd [] .no [] (k17g o)))
noncomputable def kq1 (o:k5b):An TB:= .nd [] .no [] (k17z o)
def kf3 (x:ksm) (o:k5b):Prop:=WPh TB k5y 52 5 k9z (kq1 o) (k1u.st TB x) (retTQ TB k5y k1u kbt o)
theorem k14l (o:k5b):OblH TB k5y 52 5 k9z (kq1 o) (retTQ TB k5y k1u kbt o):=
 OblH.ofC (X:=((∀i,(k8t o) i=koc o i)∧True)) (by kernel_rfl) ⟨fun _=>propext ⟨fun h=>h.1,fun h=>⟨h⟩⟩,trivial⟩
theorem k147 {x:ksm} {o:k5b} (h:kf3 x o):k1u.Snd Try.prog x o:=
 Con.soundH (c:=k1u) (C:=k5y) TBok ⟨inf_ok,(all_cons kn4 (all_cons kya (all_cons k175 (all_cons kfn (all_cons k121 all_nil))))),all_nil⟩ mix Try.func39 (show Try.f39.body=some k9z by kernel_rfl) (show Try.f39.ntmps=52 by kernel_rfl) (show Try.f39.results.toList=kbt by kernel_rfl) rfl h (k14l o)
theorem k165 {p1:Int} {p2:List Int} {c0_0:Bool} {c0_1:Int} {c0_2:Int} {w1:List TQuestion} {w2k:List ByteArray} {w2v:List Int} {w3k:List ByteArray} {w3v:List (List Int)} {w4k:List ByteArray} {w4v:List Bool} {r0:Int} {d0_0:Bool} {d0_1:Int} {d0_2:Int} {e1:List TQuestion} {e2k:List ByteArray} {e2v:List Int} {e3k:List ByteArray} {e3v:List (List Int)} {e4k:List ByteArray} {e4v:List Bool} (h:
((p2.length≤9223372036854775807)∧((!(allB p2))=true→
(w1=w1)∧0=r0∧c0_0=d0_0∧c0_1=d0_1∧c0_2=d0_2∧w1=e1∧w2k=e2k∧w2v=e2v∧w3k=e3k∧w3v=e3v∧w4k=e4k∧w4v=e4v)∧
((!(allB p2))=false→
(Us p2∧Us [p1]∧p2.length≤1073741824∧[p1].length≤1073741824)∧w2k.length=w2v.length∧let v1:Int:=mVal (BEq.beq (keyB [p1] p2)) w2k w2v (0:Int)
(mHas (BEq.beq (keyB [p1] p2)) w2k=true→
(0≤v1)∧v1<(w1.length:Int)∧(w1=w1)∧(ix w1 v1).Answer=r0∧c0_0=d0_0∧c0_1=d0_1∧c0_2=d0_2∧w1=e1∧w2k=e2k∧w2v=e2v∧w3k=e3k∧w3v=e3v∧w4k=e4k∧w4v=e4v)∧
(mHas (BEq.beq (keyB [p1] p2)) w2k=false→
(c0_0=true→
(w1=w1)∧let r2:Int:=((drO (OS.mk c0_0 c0_1 c0_2 w1 w2k w2v w3k w3v w4k w4v)).n)
 let r3:Bool:=((drO (OS.mk c0_0 c0_1 c0_2 w1 w2k w2v w3k w3v w4k w4v)).o.a)
 let r4:Int:=((drO (OS.mk c0_0 c0_1 c0_2 w1 w2k w2v w3k w3v w4k w4v)).o.b)
 let r5:Int:=((drO (OS.mk c0_0 c0_1 c0_2 w1 w2k w2v w3k w3v w4k w4v)).o.c)
 let r6:List TQuestion:=((drO (OS.mk c0_0 c0_1 c0_2 w1 w2k w2v w3k w3v w4k w4v)).o.q)
 let r7:List ByteArray:=((drO (OS.mk c0_0 c0_1 c0_2 w1 w2k w2v w3k w3v w4k w4v)).o.k)
 let r8:List Int:=((drO (OS.mk c0_0 c0_1 c0_2 w1 w2k w2v w3k w3v w4k w4v)).o.v)
 let r9:List ByteArray:=((drO (OS.mk c0_0 c0_1 c0_2 w1 w2k w2v w3k w3v w4k w4v)).o.s)
 let r10:List (List Int):=((drO (OS.mk c0_0 c0_1 c0_2 w1 w2k w2v w3k w3v w4k w4v)).o.t)
 let r11:List ByteArray:=((drO (OS.mk c0_0 c0_1 c0_2 w1 w2k w2v w3k w3v w4k w4v)).o.x)
 let r12:List Bool:=((drO (OS.mk c0_0 c0_1 c0_2 w1 w2k w2v w3k w3v w4k w4v)).o.y)
(r6=r6)∧k8t (r0,d0_0,d0_1,d0_2,e1,e2k,e2v,e3k,e3v,e4k,e4v,()) (p1,p2,((keyB [p1] p2):ByteArray),r2,r3,r4,r5,r6,r7,r8,r9,r10,r11,r12,()))∧
(c0_0=false→
((18446744069414584321:Int)=18446744069414584321∧U64 p1∧Us p2∧p2.length≤1099511627776)∧(w1=w1)∧k8t (r0,d0_0,d0_1,d0_2,e1,e2k,e2v,e3k,e3v,e4k,e4v,()) (p1,p2,((keyB [p1] p2):ByteArray),((hashS p1 p2):Int),c0_0,c0_1,c0_2,w1,w2k,w2v,w3k,w3v,w4k,w4v,())))))):kf3 (p1,p2,c0_0,c0_1,c0_2,w1,w2k,w2v,w3k,w3v,w4k,w4v,()) (r0,d0_0,d0_1,d0_2,e1,e2k,e2v,e3k,e3v,e4k,e4v,()):=WPh.of_eq (by kernel_rfl) h
theorem kke {r0:Int} {d0_0:Bool} {d0_1:Int} {d0_2:Int} {e1:List TQuestion} {e2k:List ByteArray} {e2v:List Int} {e3k:List ByteArray} {e3v:List (List Int)} {e4k:List ByteArray} {e4v:List Bool} {s1:Int} {s2:List Int} {s7:ByteArray} {s10:Int} {h0_0:Bool} {h0_1:Int} {h0_2:Int} {g1:List TQuestion} {g2k:List ByteArray} {g2v:List Int} {g3k:List ByteArray} {g3v:List (List Int)} {g4k:List ByteArray} {g4v:List Bool} (h:
((g1=g1)∧(g2k.length=g2v.length∧g1.length≤1000000∧s2.length≤1000000000)∧let r13:Bool:=((recO (OS.mk h0_0 h0_1 h0_2 g1 g2k g2v g3k g3v g4k g4v) s7 s1 s2 s10).a)
 let r14:Int:=((recO (OS.mk h0_0 h0_1 h0_2 g1 g2k g2v g3k g3v g4k g4v) s7 s1 s2 s10).b)
 let r15:Int:=((recO (OS.mk h0_0 h0_1 h0_2 g1 g2k g2v g3k g3v g4k g4v) s7 s1 s2 s10).c)
 let r16:List TQuestion:=((recO (OS.mk h0_0 h0_1 h0_2 g1 g2k g2v g3k g3v g4k g4v) s7 s1 s2 s10).q)
 let r17:List ByteArray:=((recO (OS.mk h0_0 h0_1 h0_2 g1 g2k g2v g3k g3v g4k g4v) s7 s1 s2 s10).k)
 let r18:List Int:=((recO (OS.mk h0_0 h0_1 h0_2 g1 g2k g2v g3k g3v g4k g4v) s7 s1 s2 s10).v)
 let r19:List ByteArray:=((recO (OS.mk h0_0 h0_1 h0_2 g1 g2k g2v g3k g3v g4k g4v) s7 s1 s2 s10).s)
 let r20:List (List Int):=((recO (OS.mk h0_0 h0_1 h0_2 g1 g2k g2v g3k g3v g4k g4v) s7 s1 s2 s10).t)
 let r21:List ByteArray:=((recO (OS.mk h0_0 h0_1 h0_2 g1 g2k g2v g3k g3v g4k g4v) s7 s1 s2 s10).x)
 let r22:List Bool:=((recO (OS.mk h0_0 h0_1 h0_2 g1 g2k g2v g3k g3v g4k g4v) s7 s1 s2 s10).y)
(r16=r16)∧s10=r0∧r13=d0_0∧r14=d0_1∧r15=d0_2∧r16=e1∧r17=e2k∧r18=e2v∧r19=e3k∧r20=e3v∧r21=e4k∧r22=e4v)):k8t (r0,d0_0,d0_1,d0_2,e1,e2k,e2v,e3k,e3v,e4k,e4v,()) (s1,s2,s7,s10,h0_0,h0_1,h0_2,g1,g2k,g2v,g3k,g3v,g4k,g4v,()):=⟨mpr_of (by kernel_rfl) h⟩
theorem bd39:Callable Try.prog 39:=⟨by rw[Try.func39];kernel_rfl,by rw[Try.func39];show some _≠some _;decide⟩
theorem k10k (p1:Int) (p2:List Int) (c0_0:Bool) (c0_1:Int) (c0_2:Int) (w1:List TQuestion) (w2k:List ByteArray) (w2v:List Int) (w3k:List ByteArray) (w3v:List (List Int)) (w4k:List ByteArray) (w4v:List Bool) (h:U64 p1∧(Us p2∧p2.length≤1000000000)∧OOk (OS.mk c0_0 c0_1 c0_2 w1 w2k w2v w3k w3v w4k w4v)):kf3 (p1,p2,c0_0,c0_1,c0_2,w1,w2k,w2v,w3k,w3v,w4k,w4v,()) ((((hO (OS.mk c0_0 c0_1 c0_2 w1 w2k w2v w3k w3v w4k w4v) p1 p2).n):Int),(((hO (OS.mk c0_0 c0_1 c0_2 w1 w2k w2v w3k w3v w4k w4v) p1 p2).o.a):Bool),(((hO (OS.mk c0_0 c0_1 c0_2 w1 w2k w2v w3k w3v w4k w4v) p1 p2).o.b):Int),(((hO (OS.mk c0_0 c0_1 c0_2 w1 w2k w2v w3k w3v w4k w4v) p1 p2).o.c):Int),(((hO (OS.mk c0_0 c0_1 c0_2 w1 w2k w2v w3k w3v w4k w4v) p1 p2).o.q):List TQuestion),(((hO (OS.mk c0_0 c0_1 c0_2 w1 w2k w2v w3k w3v w4k w4v) p1 p2).o.k):List ByteArray),(((hO (OS.mk c0_0 c0_1 c0_2 w1 w2k w2v w3k w3v w4k w4v) p1 p2).o.v):List Int),(((hO (OS.mk c0_0 c0_1 c0_2 w1 w2k w2v w3k w3v w4k w4v) p1 p2).o.s):List ByteArray),(((hO (OS.mk c0_0 c0_1 c0_2 w1 w2k w2v w3k w3v w4k w4v) p1 p2).o.t):List (List Int)),(((hO (OS.mk c0_0 c0_1 c0_2 w1 w2k w2v w3k w3v w4k w4v) p1 p2).o.x):List ByteArray),(((hO (OS.mk c0_0 c0_1 c0_2 w1 w2k w2v w3k w3v w4k w4v) p1 p2).o.y):List Bool),()):=by
 obtain⟨h1,⟨h2,h3⟩,h4⟩:=h
 have hl:=h4.or.len
 have hq:=h4.q
 refine k165 ⟨by omega,fun e=> ?_,fun e=> ?_⟩
 ·have e:allB p2=false:=by simpa using e
  unfold hO
  rw[if_neg (by rw[e];decide)]
  exact⟨rfl,rfl,rfl,rfl,rfl,rfl,rfl,rfl,rfl,rfl,rfl,rfl⟩
 ·have e:allB p2=true:=by simpa using e
  refine⟨⟨h2,fun x hx=>by rw[List.mem_singleton.1 hx];exact h1,by omega,by simp⟩,hl,?_⟩
  try dsimp only
  refine⟨fun e2=> ?_,fun e2=> ?_⟩
  ·have:=kxp h4 e2
   unfold hO
   rw[if_pos e,if_pos e2]
   exact⟨this.1,this.2,rfl,rfl,rfl,rfl,rfl,rfl,rfl,rfl,rfl,rfl,rfl,rfl⟩
  ·have e3:¬mHas (BEq.beq (keyB [p1] p2)) (OS.mk c0_0 c0_1 c0_2 w1 w2k w2v w3k w3v w4k w4v).k=true:=by rw[e2];decide
   unfold hO
   rw[if_pos e,if_neg e3]
   refine⟨fun e4=> ?_,fun e4=> ?_⟩
   ·subst e4
    exact⟨rfl,rfl,kke ⟨rfl,⟨hl,hq,h3⟩,rfl,rfl,rfl,rfl,rfl,rfl,rfl,rfl,rfl,rfl,rfl,rfl⟩⟩
   ·subst e4
    exact⟨⟨rfl,h1,h2,by omega⟩,rfl,kke ⟨rfl,⟨hl,hq,h3⟩,rfl,rfl,rfl,rfl,rfl,rfl,rfl,rfl,rfl,rfl,rfl,rfl⟩⟩
noncomputable def ko7:Con TB.den:=k1u.fnR (fun x=>(fun(p1:Int) (p2:List Int) (c0_0:Bool) (c0_1:Int) (c0_2:Int) (w1:List TQuestion) (w2k:List ByteArray) (w2v:List Int) (w3k:List ByteArray) (w3v:List (List Int)) (w4k:List ByteArray) (w4v:List Bool)=>U64 p1∧(Us p2∧p2.length≤1000000000)∧OOk (OS.mk c0_0 c0_1 c0_2 w1 w2k w2v w3k w3v w4k w4v)) x.1 x.2.1 x.2.2.1 x.2.2.2.1 x.2.2.2.2.1 x.2.2.2.2.2.1 x.2.2.2.2.2.2.1 x.2.2.2.2.2.2.2.1 x.2.2.2.2.2.2.2.2.1 x.2.2.2.2.2.2.2.2.2.1 x.2.2.2.2.2.2.2.2.2.2.1 x.2.2.2.2.2.2.2.2.2.2.2.1) fun x=>((fun(p1:Int) (p2:List Int) (c0_0:Bool) (c0_1:Int) (c0_2:Int) (w1:List TQuestion) (w2k:List ByteArray) (w2v:List Int) (w3k:List ByteArray) (w3v:List (List Int)) (w4k:List ByteArray) (w4v:List Bool)=>(((hO (OS.mk c0_0 c0_1 c0_2 w1 w2k w2v w3k w3v w4k w4v) p1 p2).n):Int)) x.1 x.2.1 x.2.2.1 x.2.2.2.1 x.2.2.2.2.1 x.2.2.2.2.2.1 x.2.2.2.2.2.2.1 x.2.2.2.2.2.2.2.1 x.2.2.2.2.2.2.2.2.1 x.2.2.2.2.2.2.2.2.2.1 x.2.2.2.2.2.2.2.2.2.2.1 x.2.2.2.2.2.2.2.2.2.2.2.1,(fun(p1:Int) (p2:List Int) (c0_0:Bool) (c0_1:Int) (c0_2:Int) (w1:List TQuestion) (w2k:List ByteArray) (w2v:List Int) (w3k:List ByteArray) (w3v:List (List Int)) (w4k:List ByteArray) (w4v:List Bool)=>(((hO (OS.mk c0_0 c0_1 c0_2 w1 w2k w2v w3k w3v w4k w4v) p1 p2).o.a):Bool)) x.1 x.2.1 x.2.2.1 x.2.2.2.1 x.2.2.2.2.1 x.2.2.2.2.2.1 x.2.2.2.2.2.2.1 x.2.2.2.2.2.2.2.1 x.2.2.2.2.2.2.2.2.1 x.2.2.2.2.2.2.2.2.2.1 x.2.2.2.2.2.2.2.2.2.2.1 x.2.2.2.2.2.2.2.2.2.2.2.1,(fun(p1:Int) (p2:List Int) (c0_0:Bool) (c0_1:Int) (c0_2:Int) (w1:List TQuestion) (w2k:List ByteArray) (w2v:List Int) (w3k:List ByteArray) (w3v:List (List Int)) (w4k:List ByteArray) (w4v:List Bool)=>(((hO (OS.mk c0_0 c0_1 c0_2 w1 w2k w2v w3k w3v w4k w4v) p1 p2).o.b):Int)) x.1 x.2.1 x.2.2.1 x.2.2.2.1 x.2.2.2.2.1 x.2.2.2.2.2.1 x.2.2.2.2.2.2.1 x.2.2.2.2.2.2.2.1 x.2.2.2.2.2.2.2.2.1 x.2.2.2.2.2.2.2.2.2.1 x.2.2.2.2.2.2.2.2.2.2.1 x.2.2.2.2.2.2.2.2.2.2.2.1,(fun(p1:Int) (p2:List Int) (c0_0:Bool) (c0_1:Int) (c0_2:Int) (w1:List TQuestion) (w2k:List ByteArray) (w2v:List Int) (w3k:List ByteArray) (w3v:List (List Int)) (w4k:List ByteArray) (w4v:List Bool)=>(((hO (OS.mk c0_0 c0_1 c0_2 w1 w2k w2v w3k w3v w4k w4v) p1 p2).o.c):Int)) x.1 x.2.1 x.2.2.1 x.2.2.2.1 x.2.2.2.2.1 x.2.2.2.2.2.1 x.2.2.2.2.2.2.1 x.2.2.2.2.2.2.2.1 x.2.2.2.2.2.2.2.2.1 x.2.2.2.2.2.2.2.2.2.1 x.2.2.2.2.2.2.2.2.2.2.1 x.2.2.2.2.2.2.2.2.2.2.2.1,(fun(p1:Int) (p2:List Int) (c0_0:Bool) (c0_1:Int) (c0_2:Int) (w1:List TQuestion) (w2k:List ByteArray) (w2v:List Int) (w3k:List ByteArray) (w3v:List (List Int)) (w4k:List ByteArray) (w4v:List Bool)=>(((hO (OS.mk c0_0 c0_1 c0_2 w1 w2k w2v w3k w3v w4k w4v) p1 p2).o.q):List TQuestion)) x.1 x.2.1 x.2.2.1 x.2.2.2.1 x.2.2.2.2.1 x.2.2.2.2.2.1 x.2.2.2.2.2.2.1 x.2.2.2.2.2.2.2.1 x.2.2.2.2.2.2.2.2.1 x.2.2.2.2.2.2.2.2.2.1 x.2.2.2.2.2.2.2.2.2.2.1 x.2.2.2.2.2.2.2.2.2.2.2.1,(fun(p1:Int) (p2:List Int) (c0_0:Bool) (c0_1:Int) (c0_2:Int) (w1:List TQuestion) (w2k:List ByteArray) (w2v:List Int) (w3k:List ByteArray) (w3v:List (List Int)) (w4k:List ByteArray) (w4v:List Bool)=>(((hO (OS.mk c0_0 c0_1 c0_2 w1 w2k w2v w3k w3v w4k w4v) p1 p2).o.k):List ByteArray)) x.1 x.2.1 x.2.2.1 x.2.2.2.1 x.2.2.2.2.1 x.2.2.2.2.2.1 x.2.2.2.2.2.2.1 x.2.2.2.2.2.2.2.1 x.2.2.2.2.2.2.2.2.1 x.2.2.2.2.2.2.2.2.2.1 x.2.2.2.2.2.2.2.2.2.2.1 x.2.2.2.2.2.2.2.2.2.2.2.1,(fun(p1:Int) (p2:List Int) (c0_0:Bool) (c0_1:Int) (c0_2:Int) (w1:List TQuestion) (w2k:List ByteArray) (w2v:List Int) (w3k:List ByteArray) (w3v:List (List Int)) (w4k:List ByteArray) (w4v:List Bool)=>(((hO (OS.mk c0_0 c0_1 c0_2 w1 w2k w2v w3k w3v w4k w4v) p1 p2).o.v):List Int)) x.1 x.2.1 x.2.2.1 x.2.2.2.1 x.2.2.2.2.1 x.2.2.2.2.2.1 x.2.2.2.2.2.2.1 x.2.2.2.2.2.2.2.1 x.2.2.2.2.2.2.2.2.1 x.2.2.2.2.2.2.2.2.2.1 x.2.2.2.2.2.2.2.2.2.2.1 x.2.2.2.2.2.2.2.2.2.2.2.1,(fun(p1:Int) (p2:List Int) (c0_0:Bool) (c0_1:Int) (c0_2:Int) (w1:List TQuestion) (w2k:List ByteArray) (w2v:List Int) (w3k:List ByteArray) (w3v:List (List Int)) (w4k:List ByteArray) (w4v:List Bool)=>(((hO (OS.mk c0_0 c0_1 c0_2 w1 w2k w2v w3k w3v w4k w4v) p1 p2).o.s):List ByteArray)) x.1 x.2.1 x.2.2.1 x.2.2.2.1 x.2.2.2.2.1 x.2.2.2.2.2.1 x.2.2.2.2.2.2.1 x.2.2.2.2.2.2.2.1 x.2.2.2.2.2.2.2.2.1 x.2.2.2.2.2.2.2.2.2.1 x.2.2.2.2.2.2.2.2.2.2.1 x.2.2.2.2.2.2.2.2.2.2.2.1,(fun(p1:Int) (p2:List Int) (c0_0:Bool) (c0_1:Int) (c0_2:Int) (w1:List TQuestion) (w2k:List ByteArray) (w2v:List Int) (w3k:List ByteArray) (w3v:List (List Int)) (w4k:List ByteArray) (w4v:List Bool)=>(((hO (OS.mk c0_0 c0_1 c0_2 w1 w2k w2v w3k w3v w4k w4v) p1 p2).o.t):List (List Int))) x.1 x.2.1 x.2.2.1 x.2.2.2.1 x.2.2.2.2.1 x.2.2.2.2.2.1 x.2.2.2.2.2.2.1 x.2.2.2.2.2.2.2.1 x.2.2.2.2.2.2.2.2.1 x.2.2.2.2.2.2.2.2.2.1 x.2.2.2.2.2.2.2.2.2.2.1 x.2.2.2.2.2.2.2.2.2.2.2.1,(fun(p1:Int) (p2:List Int) (c0_0:Bool) (c0_1:Int) (c0_2:Int) (w1:List TQuestion) (w2k:List ByteArray) (w2v:List Int) (w3k:List ByteArray) (w3v:List (List Int)) (w4k:List ByteArray) (w4v:List Bool)=>(((hO (OS.mk c0_0 c0_1 c0_2 w1 w2k w2v w3k w3v w4k w4v) p1 p2).o.x):List ByteArray)) x.1 x.2.1 x.2.2.1 x.2.2.2.1 x.2.2.2.2.1 x.2.2.2.2.2.1 x.2.2.2.2.2.2.1 x.2.2.2.2.2.2.2.1 x.2.2.2.2.2.2.2.2.1 x.2.2.2.2.2.2.2.2.2.1 x.2.2.2.2.2.2.2.2.2.2.1 x.2.2.2.2.2.2.2.2.2.2.2.1,(fun(p1:Int) (p2:List Int) (c0_0:Bool) (c0_1:Int) (c0_2:Int) (w1:List TQuestion) (w2k:List ByteArray) (w2v:List Int) (w3k:List ByteArray) (w3v:List (List Int)) (w4k:List ByteArray) (w4v:List Bool)=>(((hO (OS.mk c0_0 c0_1 c0_2 w1 w2k w2v w3k w3v w4k w4v) p1 p2).o.y):List Bool)) x.1 x.2.1 x.2.2.1 x.2.2.2.1 x.2.2.2.2.1 x.2.2.2.2.2.1 x.2.2.2.2.2.2.1 x.2.2.2.2.2.2.2.1 x.2.2.2.2.2.2.2.2.1 x.2.2.2.2.2.2.2.2.2.1 x.2.2.2.2.2.2.2.2.2.2.1 x.2.2.2.2.2.2.2.2.2.2.2.1,())
theorem k185:ko7.Ok Try.prog TB:=Con.ok_fn k1u bd39 fun x h=>k147 (k10k x.1 x.2.1 x.2.2.1 x.2.2.2.1 x.2.2.2.2.1 x.2.2.2.2.2.1 x.2.2.2.2.2.2.1 x.2.2.2.2.2.2.2.1 x.2.2.2.2.2.2.2.2.1 x.2.2.2.2.2.2.2.2.2.1 x.2.2.2.2.2.2.2.2.2.2.1 x.2.2.2.2.2.2.2.2.2.2.2.1 h)
def k5j:Con TB.den:=Con.mk0 85 [.agg [.d (.int .u64),.d (.int .i64),.d (.sl (.st 3)),.d (.sl (.st 8)),.d (.sl (.st 8))]] [] (.tup [.one (.d (.int .u64)),.agg [.d (.int .u64),.d (.int .i64),.d (.sl (.st 3)),.d (.sl (.st 8)),.d (.sl (.st 8))]]) []
abbrev k18w:=HL TB.den (hsT k5j.ins (hsOs k5j.pre))
abbrev kpj:=HL TB.den (hsV k5j.res (hsOs k5j.post))
noncomputable def kgq:Cx TB:=⟨inf,[],[],4,[]⟩
noncomputable def kne:Code:=Try.f85.body.getD .skip
noncomputable def ku7:List ResultVar:=Try.f85.results.toList
noncomputable def k14u (o:kpj):An TB:= .no
def knq (x:k18w) (o:kpj):Prop:=WPh TB kgq 32 0 kne (k14u o) (k5j.st TB x) (retTQ TB kgq k5j ku7 o)
theorem k1i9 (o:kpj):OblH TB kgq 32 0 kne (k14u o) (retTQ TB kgq k5j ku7 o):=
 OblH.ofC (X:=True) (by kernel_rfl) trivial
theorem k1i1 {x:k18w} {o:kpj} (h:knq x o):k5j.Snd Try.prog x o:=
 Con.soundH (c:=k5j) (C:=kgq) TBok ⟨inf_ok,all_nil,all_nil⟩ mix Try.func85 (show Try.f85.body=some kne by kernel_rfl) (show Try.f85.ntmps=32 by kernel_rfl) (show Try.f85.results.toList=ku7 by kernel_rfl) rfl h (k1i9 o)
theorem k1k2 {p0:TModel} {r0:Int} {r1:TModel} (h:
(let v2:Int:=IntKind.u64.wrap (p0.State+11400714819323198485)
 let v3:Int:=IntKind.u64.wrap ((ixor .u64 v2 (ishr .u64 v2 30))*13787848793156543929)
 let v4:Int:=IntKind.u64.wrap ((ixor .u64 v3 (ishr .u64 v3 27))*10723151780598845931)
 let v5:Int:=Int.tmod (ixor .u64 v4 (ishr .u64 v4 31)) 18446744069414584321
 v5=r0∧v2=r1.State∧IntKind.i64.wrap (p0.Draws+1)=r1.Draws∧p0.Known=r1.Known∧p0.Seals=r1.Seals∧p0.Proofs=r1.Proofs)):knq (p0.State,p0.Draws,p0.Known,p0.Seals,p0.Proofs,()) (r0,r1.State,r1.Draws,r1.Known,r1.Seals,r1.Proofs,()):=WPh.of_eq (by kernel_rfl) h
theorem bd85:Callable Try.prog 85:=⟨by rw[Try.func85];kernel_rfl,by rw[Try.func85];show some _≠some _;decide⟩
theorem k1ej (p0:TModel):knq (p0.State,p0.Draws,p0.Known,p0.Seals,p0.Proofs,()) ((((drM p0).n):Int),(((drM p0).m).State:Int),(((drM p0).m).Draws:Int),(((drM p0).m).Known:List TQuestion),(((drM p0).m).Seals:List TStored),(((drM p0).m).Proofs:List TStored),()):=by
 exact k1k2 (r1:=(drM p0).m) ⟨rfl,rfl,rfl,rfl,rfl,rfl⟩
noncomputable def k116:Con TB.den:=k5j.totR fun x=>((fun(p0:TModel)=>(((drM p0).n):Int)) (TModel.mk x.1 x.2.1 x.2.2.1 x.2.2.2.1 x.2.2.2.2.1),(fun(p0:TModel)=>(((drM p0).m).State:Int)) (TModel.mk x.1 x.2.1 x.2.2.1 x.2.2.2.1 x.2.2.2.2.1),(fun(p0:TModel)=>(((drM p0).m).Draws:Int)) (TModel.mk x.1 x.2.1 x.2.2.1 x.2.2.2.1 x.2.2.2.2.1),(fun(p0:TModel)=>(((drM p0).m).Known:List TQuestion)) (TModel.mk x.1 x.2.1 x.2.2.1 x.2.2.2.1 x.2.2.2.2.1),(fun(p0:TModel)=>(((drM p0).m).Seals:List TStored)) (TModel.mk x.1 x.2.1 x.2.2.1 x.2.2.2.1 x.2.2.2.2.1),(fun(p0:TModel)=>(((drM p0).m).Proofs:List TStored)) (TModel.mk x.1 x.2.1 x.2.2.1 x.2.2.2.1 x.2.2.2.2.1),())
theorem k1k4:k116.Ok Try.prog TB:=Con.ok_tot k5j bd85 fun x=>k1i1 (k1ej (TModel.mk x.1 x.2.1 x.2.2.1 x.2.2.2.1 x.2.2.2.2.1))
def k35:Con TB.den:=Con.mk0 52 [.one (.d (.int .u64))] [] (.one (.one (.d (.bool)))) []
abbrev ky1:=HL TB.den (hsT k35.ins (hsOs k35.pre))
abbrev khd:=HL TB.den (hsV k35.res (hsOs k35.post))
noncomputable def kb0:Cx TB:=⟨inf,[],[],4,[]⟩
noncomputable def ki2:Code:=Try.f52.body.getD .skip
noncomputable def km2:List ResultVar:=Try.f52.results.toList
noncomputable def kvk (o:khd):An TB:= .no
def khn (x:ky1) (o:khd):Prop:=WPh TB kb0 5 0 ki2 (kvk o) (k35.st TB x) (retTQ TB kb0 k35 km2 o)
theorem k192 (o:khd):OblH TB kb0 5 0 ki2 (kvk o) (retTQ TB kb0 k35 km2 o):=
 OblH.ofC (X:=True) (by kernel_rfl) trivial
theorem k19a {x:ky1} {o:khd} (h:khn x o):k35.Snd Try.prog x o:=
 Con.soundH (c:=k35) (C:=kb0) TBok ⟨inf_ok,all_nil,all_nil⟩ mix Try.func52 (show Try.f52.body=some ki2 by kernel_rfl) (show Try.f52.ntmps=5 by kernel_rfl) (show Try.f52.results.toList=km2 by kernel_rfl) rfl h (k192 o)
theorem k1c2 {p0:Int} {r0:Bool} (h:
(decide (p0<18446744069414584321)=r0)):khn (p0,()) (r0,()):=WPh.of_eq (by kernel_rfl) h
theorem bd52:Callable Try.prog 52:=⟨by rw[Try.func52];kernel_rfl,by rw[Try.func52];show some _≠some _;decide⟩
theorem k17v (p0:Int):khn (p0,()) (((decide (p0<18446744069414584321)):Bool),()):=by
 exact k1c2 rfl
noncomputable def kdk:Con TB.den:=k35.totR fun x=>((fun(p0:Int)=>((decide (p0<18446744069414584321)):Bool)) x.1,())
theorem km5:kdk.Ok Try.prog TB:=Con.ok_tot k35 bd52 fun x=>k19a (k17v x.1)
def k26:Con TB.den:=Con.mk0 36 [.one (.d (.sl (.int .u64)))] [] (.one (.one (.d (.bool)))) []
abbrev kvg:=HL TB.den (hsT k26.ins (hsOs k26.pre))
abbrev k64:=HL TB.den (hsV k26.res (hsOs k26.post))
noncomputable def k5d:Cx TB:=⟨inf,[kdk],[],4,[]⟩
noncomputable def k7x:Code:=Try.f36.body.getD .skip
noncomputable def kdm:List ResultVar:=Try.f36.results.toList
def k19j (o:k64):=qS TB k5d 16 0 (cB (cB k7x)) .no (retTQ TB k5d k26 kdm o)
def k6m:Tm:=⟨[],[],[0,3],[.one (.d (.sl (.int .u64))),.one (.d (.int .i64))],0⟩
def k18i (o:k64) (nx1:NX TB k6m):=qM TB 0 k6m nx1 (blockT TB 0 (k19j o))
def k9v (o:k64) (nx1:NX TB k6m) (i:HL TB.den k6m.hs):Prop:=WP TB k5d 16 0 (cA (cA (cB (cA (cB k7x))))) .no (k6m.fill TB i) (k18i o nx1)
noncomputable def k19s (o:k64):An TB:= .nd [] .no [] (.lp [] k6m (k9v o) fun nx1=> .no)
noncomputable def ksg (o:k64):An TB:= .nd [] .no [] (.nd [] (k19s o) [] .no)
def kg4 (x:kvg) (o:k64):Prop:=WPh TB k5d 16 0 k7x (ksg o) (k26.st TB x) (retTQ TB k5d k26 kdm o)
theorem k186 (o:k64):OblH TB k5d 16 0 k7x (ksg o) (retTQ TB k5d k26 kdm o):=
 OblH.ofC (X:=((∀nx i,(k9v o) nx i=(k9v o) nx i)∧(∀nx1:NX TB k6m,True)∧True)) (by kernel_rfl) ⟨fun _ _=>rfl,fun _=>trivial,trivial⟩
theorem k171 {x:kvg} {o:k64} (h:kg4 x o):k26.Snd Try.prog x o:=
 Con.soundH (c:=k26) (C:=k5d) TBok ⟨inf_ok,(all_cons km5 all_nil),all_nil⟩ mix Try.func36 (show Try.f36.body=some k7x by kernel_rfl) (show Try.f36.ntmps=16 by kernel_rfl) (show Try.f36.results.toList=kdm by kernel_rfl) rfl h (k186 o)
theorem k19m {p0:List Int} {r0:Bool} (h:
(Md.Loop (p0,(0:Int),()) (k9v (r0,())))):kg4 (p0,()) (r0,()):=WPh.of_eq (by kernel_rfl) h
def ksu (r0:Bool) (k1:Int→Prop) (s0:List Int) (s3:Int):Prop:=
(decide (s3<(s0.length:Int))=true→
(0≤s3)∧s3<(s0.length:Int)∧let r1:Bool:=(decide ((ix s0 s3)<18446744069414584321))
((!r1)=true→
 false=r0)∧
((!r1)=false→
 k1 (IntKind.i64.wrap (s3+1):Int)))∧
(decide (s3<(s0.length:Int))=false→
 true=r0)
theorem k16u {r0:Bool} {s0:List Int} {s3:Int} (inv:Int→Prop) (μ:Int→Nat) (h0:inv s3) (hs:∀(s3:Int),inv s3→ksu r0 (fun s3q=>inv s3q∧μ s3q<μ s3) s0 s3):Md.Loop (s0,s3,()) (k9v (r0,())):=
 ⟨⟨fun s:(List Int)×Int×Unit=>(s.1=s0)∧inv s.2.1,fun s:(List Int)×Int×Unit=>μ s.2.1,⟨rfl,h0⟩,fun(s0p,s3p,()) ⟨eq0,hi⟩=>by
  have eq0:s0p=s0:=eq0;subst s0p;exact mpr_of (by kernel_rfl) ((congrArg (fun k=>ksu r0 k s0 s3p) (lpk1 (rfl:s0=s0) inv (fun s3q=>μ s3q<μ s3p))).mpr (hs s3p hi))⟩⟩
theorem bd36:Callable Try.prog 36:=⟨by rw[Try.func36];kernel_rfl,by rw[Try.func36];show some _≠some _;decide⟩
theorem k14i (p0:List Int) (h:p0.length≤9223372036854775807):kg4 (p0,()) (((p0.all (fun x=>decide (x<18446744069414584321))):Bool),()):=by
 refine k19m (k16u (AllI (fun x=>decide (x<18446744069414584321)) p0) (fun i=>(p0.length-i).toNat) AllI.start ?_)
 intro i hi
 refine⟨fun hh=> ?_,fun hh=>(hi.done (of_decide_eq_false hh)).symm⟩
 have hh:=of_decide_eq_true hh
 exact⟨hi.1,hh,fun e=>(hi.bad hh (by simpa using e)).symm,fun e=>hi.next hh (by omega) (by simpa using e)⟩
noncomputable def k91:Con TB.den:=k26.fnR (fun x=>(fun(p0:List Int)=>p0.length≤9223372036854775807) x.1) fun x=>((fun(p0:List Int)=>((p0.all (fun x=>decide (x<18446744069414584321))):Bool)) x.1,())
theorem kdg:k91.Ok Try.prog TB:=Con.ok_fn k26 bd36 fun x h=>k171 (k14i x.1 h)
def k4z:Con TB.den:=Con.mk0 62 [.one (.d (.sl (.int .u64))),.one (.d (.sl (.int .u64)))] [] (.one (.one (.d (.bool)))) []
abbrev k19c:=HL TB.den (hsT k4z.ins (hsOs k4z.pre))
abbrev kc8:=HL TB.den (hsV k4z.res (hsOs k4z.post))
noncomputable def k8l:Cx TB:=⟨inf,[],[],4,[]⟩
noncomputable def kco:Code:=Try.f62.body.getD .skip
noncomputable def kmf:List ResultVar:=Try.f62.results.toList
def k1jw (o:kc8):=qS TB k8l 26 0 (cB (cB (cB kco))) .no (retTQ TB k8l k4z kmf o)
def kcv:Tm:=⟨[],[],[0,1,5],[.one (.d (.sl (.int .u64))),.one (.d (.sl (.int .u64))),.one (.d (.int .i64))],0⟩
def kh0 (o:kc8) (nx1:NX TB kcv) (i:HL TB.den kcv.hs):Prop:=WP TB k8l 26 0 (cA (cA (cB (cA (cB (cB kco)))))) .no (kcv.fill TB i) (qM TB 0 kcv nx1 (blockT TB 0 (k1jw o)))
noncomputable def k1kl (o:kc8):An TB:= .nd [] .no [] (.lp [] kcv (kh0 o) fun nx1=> .no)
noncomputable def k15j (o:kc8):An TB:= .nd [] .no [] (.nd [] .no [] (.nd [] (k1kl o) [] .no))
def kny (x:k19c) (o:kc8):Prop:=WPh TB k8l 26 0 kco (k15j o) (k4z.st TB x) (retTQ TB k8l k4z kmf o)
theorem k1ix (o:kc8):OblH TB k8l 26 0 kco (k15j o) (retTQ TB k8l k4z kmf o):=
 OblH.ofC (X:=((∀nx i,(kh0 o) nx i=(kh0 o) nx i)∧(∀nx1:NX TB kcv,True)∧True)) (by kernel_rfl) ⟨fun _ _=>rfl,fun _=>trivial,trivial⟩
theorem k1i4 {x:k19c} {o:kc8} (h:kny x o):k4z.Snd Try.prog x o:=
 Con.soundH (c:=k4z) (C:=k8l) TBok ⟨inf_ok,all_nil,all_nil⟩ mix Try.func62 (show Try.f62.body=some kco by kernel_rfl) (show Try.f62.ntmps=26 by kernel_rfl) (show Try.f62.results.toList=kmf by kernel_rfl) rfl h (k1ix o)
theorem k1k1 {p0:List Int} {p1:List Int} {r0:Bool} (h:
((((p0.length:Int) !=(p1.length:Int))=true→
 false=r0)∧
(((p0.length:Int) !=(p1.length:Int))=false→
 Md.Loop (p0,p1,(0:Int),()) (kh0 (r0,()))))):kny (p0,p1,()) (r0,()):=WPh.of_eq (by kernel_rfl) h
def k14r (r0:Bool) (k1:Int→Prop) (s0:List Int) (s1:List Int) (s5:Int):Prop:=
(decide (s5<(s0.length:Int))=true→
(0≤s5)∧s5<(s0.length:Int)∧(0≤s5)∧s5<(s1.length:Int)∧(((ix s0 s5) !=(ix s1 s5))=true→
 false=r0)∧
(((ix s0 s5) !=(ix s1 s5))=false→
 k1 (IntKind.i64.wrap (s5+1):Int)))∧
(decide (s5<(s0.length:Int))=false→
 true=r0)
theorem k1h1 {r0:Bool} {s0:List Int} {s1:List Int} {s5:Int} (inv:Int→Prop) (μ:Int→Nat) (h0:inv s5) (hs:∀(s5:Int),inv s5→k14r r0 (fun s5q=>inv s5q∧μ s5q<μ s5) s0 s1 s5):Md.Loop (s0,s1,s5,()) (kh0 (r0,())):=
 ⟨⟨fun s:(List Int)×(List Int)×Int×Unit=>(s.1=s0∧s.2.1=s1)∧inv s.2.2.1,fun s:(List Int)×(List Int)×Int×Unit=>μ s.2.2.1,⟨⟨rfl,rfl⟩,h0⟩,fun(s0p,s1p,s5p,()) ⟨⟨eq0,eq1⟩,hi⟩=>by
  have eq0:s0p=s0:=eq0;subst s0p;have eq1:s1p=s1:=eq1;subst s1p;exact mpr_of (by kernel_rfl) ((congrArg (fun k=>k14r r0 k s0 s1 s5p) (lpk1 (⟨rfl,rfl⟩:s0=s0∧s1=s1) inv (fun s5q=>μ s5q<μ s5p))).mpr (hs s5p hi))⟩⟩
theorem bd62:Callable Try.prog 62:=⟨by rw[Try.func62];kernel_rfl,by rw[Try.func62];show some _≠some _;decide⟩
theorem k1g6 (p0:List Int) (p1:List Int) (h:p0.length≤9223372036854775807∧p1.length≤9223372036854775807):kny (p0,p1,()) (((decide (p0=p1)):Bool),()):=by
 obtain⟨h1,h2⟩:=h
 have no:p0≠p1→false=decide (p0=p1):=fun h=>(decide_eq_false h).symm
 refine k1k1 ⟨fun e=>no ?_,fun e=> ?_⟩
 ·rintro rfl
  simp at e
 have e:(p0.length:Int)=p1.length:=by simpa using e
 refine k1h1 (fun i=>0≤i∧i≤p0.length∧p0.take i.toNat=p1.take i.toNat) (fun i=>(p0.length-i).toNat) ⟨by omega,by omega,by simp⟩ ?_
 rintro i ⟨g0,g1,g2⟩
 refine⟨fun hh=> ?_,fun hh=> ?_⟩
 ·have hh:=of_decide_eq_true hh
  refine⟨g0,hh,g0,by omega,fun e2=>no ?_,fun e2=> ?_⟩
  ·rintro rfl
   simp at e2
  ·have e2:ix p0 i=ix p1 i:=by simpa using e2
   rw[inc i p0.length g0 hh (by omega)]
   refine⟨⟨by omega,by omega,?_⟩,by omega⟩
   rw[k99 p0 i g0 hh,k99 p1 i g0 (by omega),g2,e2]
 ·have hh:=of_decide_eq_false hh
  rw[List.take_of_length_le (by omega),List.take_of_length_le (by omega)]at g2
  exact(decide_eq_true g2).symm
noncomputable def k12l:Con TB.den:=k4z.fnR (fun x=>(fun(p0:List Int) (p1:List Int)=>p0.length≤9223372036854775807∧p1.length≤9223372036854775807) x.1 x.2.1) fun x=>((fun(p0:List Int) (p1:List Int)=>((decide (p0=p1)):Bool)) x.1 x.2.1,())
theorem k1k9:k12l.Ok Try.prog TB:=Con.ok_fn k4z bd62 fun x h=>k1i4 (k1g6 x.1 x.2.1 h)
def k51:Con TB.den:=Con.mk0 105 [.one (.d (.sl (.st 3))),.one (.d (.int .u64)),.one (.d (.sl (.int .u64)))] [] (.one (.one (.d (.int .i64)))) []
abbrev k18q:=HL TB.den (hsT k51.ins (hsOs k51.pre))
abbrev k6g:=HL TB.den (hsV k51.res (hsOs k51.post))
noncomputable def k68:Cx TB:=⟨inf,[k12l],[],4,[]⟩
noncomputable def k7m:Code:=Try.f105.body.getD .skip
noncomputable def kmj:List ResultVar:=Try.f105.results.toList
def k14z (o:k6g):=qS TB k68 31 0 (cB (cB k7m)) .no (retTQ TB k68 k51 kmj o)
def k42:Tm:=⟨[],[],[0,1,2,7],[.one (.d (.sl (.st 3))),.one (.d (.int .u64)),.one (.d (.sl (.int .u64))),.one (.d (.int .i64))],0⟩
def k1k5 (o:k6g) (nx1:NX TB k42):=qS TB k68 31 0 (cB (cB (cA (cA (cB (cA (cB k7m))))))) .no (qM TB 0 k42 nx1 (blockT TB 0 (k14z o)))
def kk3:Tm:=⟨[],[],[0,1,2,7,29],[.one (.d (.sl (.st 3))),.one (.d (.int .u64)),.one (.d (.sl (.int .u64))),.one (.d (.int .i64)),.one (.d (.bool))],0⟩
def k12m (o:k6g) (nx1:NX TB k42) (i:HL TB.den kk3.hs):Prop:=ghs TB [] (kk3.fill TB i) fun s=>WP TB k68 31 0 (cB (cA (cA (cB (cA (cA (cB (cA (cB k7m))))))))) .no s (blockT TB 1 (k1k5 o nx1))
structure kcw (o:k6g) (nx1:NX TB k42) (i:HL TB.den kk3.hs):Prop where
 h:k12m o nx1 i
noncomputable def k14s (o:k6g) (nx1:NX TB k42):An TB:= .nd [] (.jn kk3 (kcw o nx1) [] .no [] .no) [] .no
def kgk (o:k6g) (nx1:NX TB k42) (i:HL TB.den k42.hs):Prop:=WP TB k68 31 0 (cA (cA (cB (cA (cB k7m))))) (.nd [] .no [] (k14s o nx1)) (k42.fill TB i) (qM TB 0 k42 nx1 (blockT TB 0 (k14z o)))
noncomputable def k1l7 (o:k6g):An TB:= .lp [] k42 (kgk o) fun nx1=>(.nd [] .no [] (k14s o nx1))
noncomputable def k159 (o:k6g):An TB:= .nd [] .no [] (.nd [] (.nd [] .no [] (k1l7 o)) [] .no)
def knc (x:k18q) (o:k6g):Prop:=WPh TB k68 31 0 k7m (k159 o) (k51.st TB x) (retTQ TB k68 k51 kmj o)
theorem k1gd (o:k6g):OblH TB k68 31 0 k7m (k159 o) (retTQ TB k68 k51 kmj o):=
 OblH.ofC (X:=((∀nx i,(kgk o) nx i=(kgk o) nx i)∧(∀nx1:NX TB k42,((∀i,(kcw o nx1) i=k12m o nx1 i)∧True))∧True)) (by kernel_rfl) ⟨fun _ _=>rfl,fun _=>⟨fun _=>propext ⟨fun h=>h.1,fun h=>⟨h⟩⟩,trivial⟩,trivial⟩
theorem k1h0 {x:k18q} {o:k6g} (h:knc x o):k51.Snd Try.prog x o:=
 Con.soundH (c:=k51) (C:=k68) TBok ⟨inf_ok,(all_cons k1k9 all_nil),all_nil⟩ mix Try.func105 (show Try.f105.body=some k7m by kernel_rfl) (show Try.f105.ntmps=31 by kernel_rfl) (show Try.f105.results.toList=kmj by kernel_rfl) rfl h (k1gd o)
theorem k1ki {p0:List TQuestion} {p1:Int} {p2:List Int} {r0:Int} (h:
(Md.Loop (p0,p1,p2,(0:Int),()) (kgk (r0,())))):knc (p0,p1,p2,()) (r0,()):=WPh.of_eq (by kernel_rfl) h
theorem k1b2 {r0:Int} {nx1:NX TB k42} {s0:List TQuestion} {s1:Int} {s2:List Int} {s7:Int} {s29:Bool} (h:
((s29=true→
 s7=r0)∧
(s29=false→
 nx1 (s0,s1,s2,(IntKind.i64.wrap (s7+1):Int),())))):kcw (r0,()) nx1 (s0,s1,s2,s7,s29,()):=⟨mpr_of (by kernel_rfl) h⟩
def k14x (r0:Int) (nx1:NX TB k42) (k1:Int→Prop) (s0:List TQuestion) (s1:Int) (s2:List Int) (s7:Int):Prop:=
(decide (s7<(s0.length:Int))=true→
(0≤s7)∧s7<(s0.length:Int)∧((((ix s0 s7).Label)==s1)=true→
(0≤s7)∧s7<(s0.length:Int)∧(((ix s0 s7).Elems).length≤9223372036854775807∧s2.length≤9223372036854775807)∧kcw (r0,()) nx1 (s0,s1,s2,s7,((decide (((ix s0 s7).Elems)=s2)):Bool),()))∧
((((ix s0 s7).Label)==s1)=false→
 kcw (r0,()) nx1 (s0,s1,s2,s7,false,())))∧
(decide (s7<(s0.length:Int))=false→
(-1)=r0)
theorem k1j2 {r0:Int} {s0:List TQuestion} {s1:Int} {s2:List Int} {s7:Int} (inv:Int→Prop) (μ:Int→Nat) (h0:inv s7) (hs:∀(s7:Int),inv s7→k14x r0 (fun s:(List TQuestion)×Int×(List Int)×Int×Unit=>((s.1=s0∧s.2.1=s1∧s.2.2.1=s2)∧inv s.2.2.2.1)∧μ s.2.2.2.1<μ s7) (fun s7q=>inv s7q∧μ s7q<μ s7) s0 s1 s2 s7):Md.Loop (s0,s1,s2,s7,()) (kgk (r0,())):=
 ⟨⟨fun s:(List TQuestion)×Int×(List Int)×Int×Unit=>(s.1=s0∧s.2.1=s1∧s.2.2.1=s2)∧inv s.2.2.2.1,fun s:(List TQuestion)×Int×(List Int)×Int×Unit=>μ s.2.2.2.1,⟨⟨rfl,rfl,rfl⟩,h0⟩,fun(s0p,s1p,s2p,s7p,()) ⟨⟨eq0,eq1,eq2⟩,hi⟩=>by
  have eq0:s0p=s0:=eq0;subst s0p;have eq1:s1p=s1:=eq1;subst s1p;have eq2:s2p=s2:=eq2;subst s2p;exact mpr_of (by kernel_rfl) ((congrArg (fun k=>k14x r0 (fun s:(List TQuestion)×Int×(List Int)×Int×Unit=>((s.1=s0∧s.2.1=s1∧s.2.2.1=s2)∧inv s.2.2.2.1)∧μ s.2.2.2.1<μ s7p) k s0 s1 s2 s7p) (lpk1 (⟨rfl,rfl,rfl⟩:s0=s0∧s1=s1∧s2=s2) inv (fun s7q=>μ s7q<μ s7p))).mpr (hs s7p hi))⟩⟩
theorem bd105:Callable Try.prog 105:=⟨by rw[Try.func105];kernel_rfl,by rw[Try.func105];show some _≠some _;decide⟩
theorem k1ei (p0:List TQuestion) (p1:Int) (p2:List Int) (h:KQ p0∧p2.length≤1000000000):knc (p0,p1,p2,()) (((fnd p0 p1 p2):Int),()):=by
 obtain⟨hk,hl⟩:=h
 have hn:=hk.n
 refine k1ki (k1j2 (fun i=>0≤i∧i≤p0.length∧mIdx (isQ p1 p2) (p0.take i.toNat)=none) (fun i=>(p0.length-i).toNat) ⟨by omega,by omega,rfl⟩ ?_)
 rintro i ⟨g0,g1,g2⟩
 refine⟨fun hh=> ?_,fun hh=> ?_⟩
 ·have hh:=of_decide_eq_true hh
  have hx:=hk.e _ (ix_mem p0 i g0 hh)
  have step:=k1mm p0 (isQ p1 p2) i g0 hh g2
  have j1:∀s:Bool,s=isQ p1 p2 (ix p0 i)→∀nx,(∀k:Int,k=IntKind.i64.wrap (i+1)→isQ p1 p2 (ix p0 i)=false→nx (p0,p1,p2,k,()))→kcw ((fnd p0 p1 p2:Int),()) nx (p0,p1,p2,i,s,()):=by
   intro s hs nx hn
   refine k1b2 ⟨fun e=> ?_,fun e=>hn _ rfl (by rw[←hs];exact e)⟩
   rw[e]at hs
   rw[fnd,step.1 hs.symm]
   show i=((i.toNat:Nat):Int)
   omega
  have fin:∀k:Int,k=IntKind.i64.wrap (i+1)→isQ p1 p2 (ix p0 i)=false→(0≤k∧k≤p0.length∧mIdx (isQ p1 p2) (p0.take k.toNat)=none)∧(p0.length-k).toNat<(p0.length-i).toNat:=by
   intro k hk e
   rw[inc i p0.length g0 hh (by omega)]at hk
   subst hk
   exact⟨⟨by omega,by omega,step.2 e⟩,by omega⟩
  refine⟨g0,hh,fun e=>⟨g0,hh,⟨by omega,by omega⟩,j1 _ ?_ _ fun k hk e2=> ?_⟩,fun e=>j1 _ ?_ _ fun k hk e2=> ?_⟩
  ·have e:(ix p0 i).Label=p1:=by simpa using e
   simp[isQ,e]
  ·exact⟨⟨⟨rfl,rfl,rfl⟩,(fin k hk e2).1⟩,(fin k hk e2).2⟩
  ·have e:¬(ix p0 i).Label=p1:=by simpa using e
   simp[isQ,e]
  ·exact⟨⟨⟨rfl,rfl,rfl⟩,(fin k hk e2).1⟩,(fin k hk e2).2⟩
 ·have hh:=of_decide_eq_false hh
  rw[List.take_of_length_le (by omega)]at g2
  rw[fnd,g2]
noncomputable def k10p:Con TB.den:=k51.fnR (fun x=>(fun(p0:List TQuestion) (p1:Int) (p2:List Int)=>KQ p0∧p2.length≤1000000000) x.1 x.2.1 x.2.2.1) fun x=>((fun(p0:List TQuestion) (p1:Int) (p2:List Int)=>((fnd p0 p1 p2):Int)) x.1 x.2.1 x.2.2.1,())
theorem k1kv:k10p.Ok Try.prog TB:=Con.ok_fn k51 bd105 fun x h=>k1h0 (k1ei x.1 x.2.1 x.2.2.1 h)
def k5s:Con TB.den:=Con.mk0 84 [.agg [.d (.int .u64),.d (.int .i64),.d (.sl (.st 3)),.d (.sl (.st 8)),.d (.sl (.st 8))],.one (.d (.int .u64)),.one (.d (.sl (.int .u64)))] [] (.tup [.one (.d (.int .u64)),.one (.d (.bool))]) []
abbrev k18h:=HL TB.den (hsT k5s.ins (hsOs k5s.pre))
abbrev kpc:=HL TB.den (hsV k5s.res (hsOs k5s.post))
noncomputable def kgt:Cx TB:=⟨inf,[k10p],[],4,[]⟩
noncomputable def ko2:Code:=Try.f84.body.getD .skip
noncomputable def ktv:List ResultVar:=Try.f84.results.toList
noncomputable def k15t (o:kpc):An TB:= .no
def kng (x:k18h) (o:kpc):Prop:=WPh TB kgt 22 0 ko2 (k15t o) (k5s.st TB x) (retTQ TB kgt k5s ktv o)
theorem k1j9 (o:kpc):OblH TB kgt 22 0 ko2 (k15t o) (retTQ TB kgt k5s ktv o):=
 OblH.ofC (X:=True) (by kernel_rfl) trivial
theorem k1h2 {x:k18h} {o:kpc} (h:kng x o):k5s.Snd Try.prog x o:=
 Con.soundH (c:=k5s) (C:=kgt) TBok ⟨inf_ok,(all_cons k1kv all_nil),all_nil⟩ mix Try.func84 (show Try.f84.body=some ko2 by kernel_rfl) (show Try.f84.ntmps=22 by kernel_rfl) (show Try.f84.results.toList=ktv by kernel_rfl) rfl h (k1j9 o)
theorem k1km {p0:TModel} {p1:Int} {p2:List Int} {r0:Int} {r1:Bool} (h:
((KQ p0.Known∧p2.length≤1000000000)∧(decide ((fnd p0.Known p1 p2)<0)=true→
 0=r0∧false=r1)∧
(decide ((fnd p0.Known p1 p2)<0)=false→
(0≤(fnd p0.Known p1 p2))∧(fnd p0.Known p1 p2)<(p0.Known.length:Int)∧let v2:Int:=(ix p0.Known (fnd p0.Known p1 p2)).Answer
 v2=r0∧true=r1))):kng (p0.State,p0.Draws,p0.Known,p0.Seals,p0.Proofs,p1,p2,()) (r0,r1,()):=WPh.of_eq (by kernel_rfl) h
theorem bd84:Callable Try.prog 84:=⟨by rw[Try.func84];kernel_rfl,by rw[Try.func84];show some _≠some _;decide⟩
theorem k1ea (p0:TModel) (p1:Int) (p2:List Int) (h:KQ p0.Known∧p2.length≤1000000000):kng (p0.State,p0.Draws,p0.Known,p0.Seals,p0.Proofs,p1,p2,()) ((((rpk p0.Known p1 p2).getD 0):Int),(((rpk p0.Known p1 p2).isSome):Bool),()):=by
 obtain⟨hk,hl⟩:=h
 have hn:=hk.n
 refine k1km ⟨⟨hk,hl⟩,?_⟩
 unfold fnd rpk
 cases hj:mIdx (isQ p1 p2) p0.Known with
 |none=>exact⟨fun _=>⟨rfl,rfl⟩,fun e=>by simp at e⟩
 |some j=>
  have:=mIdx_lt hj
  exact⟨fun e=>by simp at e;omega,fun _=>⟨by simp,by simp;omega,rfl,rfl⟩⟩
noncomputable def kk7:Con TB.den:=k5s.fnR (fun x=>(fun(p0:TModel) (p1:Int) (p2:List Int)=>KQ p0.Known∧p2.length≤1000000000) (TModel.mk x.1 x.2.1 x.2.2.1 x.2.2.2.1 x.2.2.2.2.1) x.2.2.2.2.2.1 x.2.2.2.2.2.2.1) fun x=>((fun(p0:TModel) (p1:Int) (p2:List Int)=>(((rpk p0.Known p1 p2).getD 0):Int)) (TModel.mk x.1 x.2.1 x.2.2.1 x.2.2.2.1 x.2.2.2.2.1) x.2.2.2.2.2.1 x.2.2.2.2.2.2.1,(fun(p0:TModel) (p1:Int) (p2:List Int)=>(((rpk p0.Known p1 p2).isSome):Bool)) (TModel.mk x.1 x.2.1 x.2.2.1 x.2.2.2.1 x.2.2.2.2.1) x.2.2.2.2.2.1 x.2.2.2.2.2.2.1,())
theorem ktn:kk7.Ok Try.prog TB:=Con.ok_fn k5s bd84 fun x h=>k1h2 (k1ea (TModel.mk x.1 x.2.1 x.2.2.1 x.2.2.2.1 x.2.2.2.2.1) x.2.2.2.2.2.1 x.2.2.2.2.2.2.1 h)
def k3y:Con TB.den:=Con.mk0 86 [.agg [.d (.int .u64),.d (.int .i64),.d (.sl (.st 3)),.d (.sl (.st 8)),.d (.sl (.st 8))],.one (.d (.int .u64)),.one (.d (.sl (.int .u64))),.one (.d (.int .u64))] [] (.one (.agg [.d (.int .u64),.d (.int .i64),.d (.sl (.st 3)),.d (.sl (.st 8)),.d (.sl (.st 8))])) []
abbrev k12q:=HL TB.den (hsT k3y.ins (hsOs k3y.pre))
abbrev kjc:=HL TB.den (hsV k3y.res (hsOs k3y.post))
noncomputable def kce:Cx TB:=⟨inf,[],[],4,[]⟩
noncomputable def kjv:Code:=Try.f86.body.getD .skip
noncomputable def knv:List ResultVar:=Try.f86.results.toList
noncomputable def kz6 (o:kjc):An TB:= .no
def kip (x:k12q) (o:kjc):Prop:=WPh TB kce 23 0 kjv (kz6 o) (k3y.st TB x) (retTQ TB kce k3y knv o)
theorem k1ce (o:kjc):OblH TB kce 23 0 kjv (kz6 o) (retTQ TB kce k3y knv o):=
 OblH.ofC (X:=True) (by kernel_rfl) trivial
theorem k1b1 {x:k12q} {o:kjc} (h:kip x o):k3y.Snd Try.prog x o:=
 Con.soundH (c:=k3y) (C:=kce) TBok ⟨inf_ok,all_nil,all_nil⟩ mix Try.func86 (show Try.f86.body=some kjv by kernel_rfl) (show Try.f86.ntmps=23 by kernel_rfl) (show Try.f86.results.toList=knv by kernel_rfl) rfl h (k1ce o)
theorem k1eo {p0:TModel} {p1:Int} {p2:List Int} {p3:Int} {r0:TModel} (h:
((([]:List TQuestion).length+p0.Known.length)*40≤140737488355328∧([]:List TQuestion).length+p0.Known.length≤maxLen∧(([]:List Int).length+p2.length)*8≤140737488355328∧([]:List Int).length+p2.length≤maxLen∧(([]:List TQuestion)++p0.Known).length=(([]:List TQuestion)++p0.Known).length∧((([]:List TQuestion)++p0.Known).length+[TQuestion.mk p1 (([]:List Int)++p2) p3].length)*40≤140737488355328∧(([]:List TQuestion)++p0.Known).length+[TQuestion.mk p1 (([]:List Int)++p2) p3].length≤maxLen∧let v1:List TQuestion:=(([]:List TQuestion)++p0.Known)++[TQuestion.mk p1 (([]:List Int)++p2) p3]
 p0.State=r0.State∧p0.Draws=r0.Draws∧v1=r0.Known∧p0.Seals=r0.Seals∧p0.Proofs=r0.Proofs)):kip (p0.State,p0.Draws,p0.Known,p0.Seals,p0.Proofs,p1,p2,p3,()) (r0.State,r0.Draws,r0.Known,r0.Seals,r0.Proofs,()):=WPh.of_eq (by kernel_rfl) h
theorem bd86:Callable Try.prog 86:=⟨by rw[Try.func86];kernel_rfl,by rw[Try.func86];show some _≠some _;decide⟩
theorem k18t (p0:TModel) (p1:Int) (p2:List Int) (p3:Int) (h:KQ p0.Known∧p2.length≤1000000000):kip (p0.State,p0.Draws,p0.Known,p0.Seals,p0.Proofs,p1,p2,p3,()) (((recM p0 p1 p2 p3).State:Int),((recM p0 p1 p2 p3).Draws:Int),((recM p0 p1 p2 p3).Known:List TQuestion),((recM p0 p1 p2 p3).Seals:List TStored),((recM p0 p1 p2 p3).Proofs:List TStored),()):=by
 obtain⟨hk,hl⟩:=h
 have hn:=hk.n
 refine k1eo (r0:=recM p0 p1 p2 p3) ⟨by simp;omega,by simp;unfold maxLen;omega,by simp;omega,by simp;unfold maxLen;omega,rfl,by simp;omega,by simp;unfold maxLen;omega,rfl,rfl,?_,rfl,rfl⟩
 simp[recM]
noncomputable def kuu:Con TB.den:=k3y.fnR (fun x=>(fun(p0:TModel) (p1:Int) (p2:List Int) (p3:Int)=>KQ p0.Known∧p2.length≤1000000000) (TModel.mk x.1 x.2.1 x.2.2.1 x.2.2.2.1 x.2.2.2.2.1) x.2.2.2.2.2.1 x.2.2.2.2.2.2.1 x.2.2.2.2.2.2.2.1) fun x=>((fun(p0:TModel) (p1:Int) (p2:List Int) (p3:Int)=>((recM p0 p1 p2 p3).State:Int)) (TModel.mk x.1 x.2.1 x.2.2.1 x.2.2.2.1 x.2.2.2.2.1) x.2.2.2.2.2.1 x.2.2.2.2.2.2.1 x.2.2.2.2.2.2.2.1,(fun(p0:TModel) (p1:Int) (p2:List Int) (p3:Int)=>((recM p0 p1 p2 p3).Draws:Int)) (TModel.mk x.1 x.2.1 x.2.2.1 x.2.2.2.1 x.2.2.2.2.1) x.2.2.2.2.2.1 x.2.2.2.2.2.2.1 x.2.2.2.2.2.2.2.1,(fun(p0:TModel) (p1:Int) (p2:List Int) (p3:Int)=>((recM p0 p1 p2 p3).Known:List TQuestion)) (TModel.mk x.1 x.2.1 x.2.2.1 x.2.2.2.1 x.2.2.2.2.1) x.2.2.2.2.2.1 x.2.2.2.2.2.2.1 x.2.2.2.2.2.2.2.1,(fun(p0:TModel) (p1:Int) (p2:List Int) (p3:Int)=>((recM p0 p1 p2 p3).Seals:List TStored)) (TModel.mk x.1 x.2.1 x.2.2.1 x.2.2.2.1 x.2.2.2.2.1) x.2.2.2.2.2.1 x.2.2.2.2.2.2.1 x.2.2.2.2.2.2.2.1,(fun(p0:TModel) (p1:Int) (p2:List Int) (p3:Int)=>((recM p0 p1 p2 p3).Proofs:List TStored)) (TModel.mk x.1 x.2.1 x.2.2.1 x.2.2.2.1 x.2.2.2.2.1) x.2.2.2.2.2.1 x.2.2.2.2.2.2.1 x.2.2.2.2.2.2.2.1,())
theorem k1et:kuu.Ok Try.prog TB:=Con.ok_fn k3y bd86 fun x h=>k1b1 (k18t (TModel.mk x.1 x.2.1 x.2.2.1 x.2.2.2.1 x.2.2.2.2.1) x.2.2.2.2.2.1 x.2.2.2.2.2.2.1 x.2.2.2.2.2.2.2.1 h)
def k5t:Con TB.den:=Con.mk0 40 [.agg [.d (.int .u64),.d (.int .i64),.d (.sl (.st 3)),.d (.sl (.st 8)),.d (.sl (.st 8))],.one (.d (.int .u64)),.one (.d (.sl (.int .u64)))] [] (.tup [.one (.d (.int .u64)),.agg [.d (.int .u64),.d (.int .i64),.d (.sl (.st 3)),.d (.sl (.st 8)),.d (.sl (.st 8))]]) []
abbrev k1ag:=HL TB.den (hsT k5t.ins (hsOs k5t.pre))
abbrev kp9:=HL TB.den (hsV k5t.res (hsOs k5t.post))
noncomputable def kgw:Cx TB:=⟨inf,[k91,kk7,k116,kuu],[],4,[]⟩
noncomputable def ko1:Code:=Try.f40.body.getD .skip
noncomputable def kt7:List ResultVar:=Try.f40.results.toList
noncomputable def k163 (o:kp9):An TB:= .no
def knf (x:k1ag) (o:kp9):Prop:=WPh TB kgw 36 0 ko1 (k163 o) (k5t.st TB x) (retTQ TB kgw k5t kt7 o)
theorem k1hd (o:kp9):OblH TB kgw 36 0 ko1 (k163 o) (retTQ TB kgw k5t kt7 o):=
 OblH.ofC (X:=True) (by kernel_rfl) trivial
theorem k1ij {x:k1ag} {o:kp9} (h:knf x o):k5t.Snd Try.prog x o:=
 Con.soundH (c:=k5t) (C:=kgw) TBok ⟨inf_ok,(all_cons kdg (all_cons ktn (all_cons k1k4 (all_cons k1et all_nil)))),all_nil⟩ mix Try.func40 (show Try.f40.body=some ko1 by kernel_rfl) (show Try.f40.ntmps=36 by kernel_rfl) (show Try.f40.results.toList=kt7 by kernel_rfl) rfl h (k1hd o)
theorem k1l9 {p0:TModel} {p1:Int} {p2:List Int} {r0:Int} {r1:TModel} (h:
((p2.length≤9223372036854775807)∧let r2:Bool:=(p2.all (fun x=>decide (x<18446744069414584321)))
((!r2)=true→
 0=r0∧p0.State=r1.State∧p0.Draws=r1.Draws∧p0.Known=r1.Known∧p0.Seals=r1.Seals∧p0.Proofs=r1.Proofs)∧
((!r2)=false→
(KQ p0.Known∧p2.length≤1000000000)∧(((rpk p0.Known p1 p2).isSome)=true→
((rpk p0.Known p1 p2).getD 0)=r0∧p0.State=r1.State∧p0.Draws=r1.Draws∧p0.Known=r1.Known∧p0.Seals=r1.Seals∧p0.Proofs=r1.Proofs)∧
(((rpk p0.Known p1 p2).isSome)=false→
(KQ ((drM p0).m).Known∧p2.length≤1000000000)∧let r3:Int:=(recM ((drM p0).m) p1 p2 ((drM p0).n)).State
 let r4:Int:=(recM ((drM p0).m) p1 p2 ((drM p0).n)).Draws
 let r5:List TQuestion:=(recM ((drM p0).m) p1 p2 ((drM p0).n)).Known
 let r6:List TStored:=(recM ((drM p0).m) p1 p2 ((drM p0).n)).Seals
 let r7:List TStored:=(recM ((drM p0).m) p1 p2 ((drM p0).n)).Proofs
((drM p0).n)=r0∧r3=r1.State∧r4=r1.Draws∧r5=r1.Known∧r6=r1.Seals∧r7=r1.Proofs)))):knf (p0.State,p0.Draws,p0.Known,p0.Seals,p0.Proofs,p1,p2,()) (r0,r1.State,r1.Draws,r1.Known,r1.Seals,r1.Proofs,()):=WPh.of_eq (by kernel_rfl) h
theorem bd40:Callable Try.prog 40:=⟨by rw[Try.func40];kernel_rfl,by rw[Try.func40];show some _≠some _;decide⟩
theorem k1dx (p0:TModel) (p1:Int) (p2:List Int) (h:KQ p0.Known∧p2.length≤1000000000):knf (p0.State,p0.Draws,p0.Known,p0.Seals,p0.Proofs,p1,p2,()) ((((mH p0 p1 p2).n):Int),(((mH p0 p1 p2).m).State:Int),(((mH p0 p1 p2).m).Draws:Int),(((mH p0 p1 p2).m).Known:List TQuestion),(((mH p0 p1 p2).m).Seals:List TStored),(((mH p0 p1 p2).m).Proofs:List TStored),()):=by
 obtain⟨hk,hl⟩:=h
 refine k1l9 (r1:=(mH p0 p1 p2).m) ⟨by omega,?_⟩
 have ea:(p2.all (fun x=>decide (x<18446744069414584321)))=allB p2:=rfl
 unfold mH
 dsimp only
 rw[ea]
 refine⟨fun e=> ?_,fun e=>⟨⟨hk,hl⟩,?_⟩⟩
 ·have e:¬allB p2=true:=by simpa using e
  rw[if_neg e]
  exact⟨rfl,rfl,rfl,rfl,rfl,rfl⟩
 ·have e:allB p2=true:=by simpa using e
  rw[if_pos e]
  try dsimp only
  cases hr:rpk p0.Known p1 p2 with
  |some n=>exact⟨fun _=>⟨rfl,rfl,rfl,rfl,rfl,rfl⟩,fun e=>by simp at e⟩
  |none=>exact⟨fun e=>by simp at e,fun _=>⟨⟨hk,hl⟩,rfl,rfl,rfl,rfl,rfl,rfl⟩⟩
noncomputable def k11k:Con TB.den:=k5t.fnR (fun x=>(fun(p0:TModel) (p1:Int) (p2:List Int)=>KQ p0.Known∧p2.length≤1000000000) (TModel.mk x.1 x.2.1 x.2.2.1 x.2.2.2.1 x.2.2.2.2.1) x.2.2.2.2.2.1 x.2.2.2.2.2.2.1) fun x=>((fun(p0:TModel) (p1:Int) (p2:List Int)=>(((mH p0 p1 p2).n):Int)) (TModel.mk x.1 x.2.1 x.2.2.1 x.2.2.2.1 x.2.2.2.2.1) x.2.2.2.2.2.1 x.2.2.2.2.2.2.1,(fun(p0:TModel) (p1:Int) (p2:List Int)=>(((mH p0 p1 p2).m).State:Int)) (TModel.mk x.1 x.2.1 x.2.2.1 x.2.2.2.1 x.2.2.2.2.1) x.2.2.2.2.2.1 x.2.2.2.2.2.2.1,(fun(p0:TModel) (p1:Int) (p2:List Int)=>(((mH p0 p1 p2).m).Draws:Int)) (TModel.mk x.1 x.2.1 x.2.2.1 x.2.2.2.1 x.2.2.2.2.1) x.2.2.2.2.2.1 x.2.2.2.2.2.2.1,(fun(p0:TModel) (p1:Int) (p2:List Int)=>(((mH p0 p1 p2).m).Known:List TQuestion)) (TModel.mk x.1 x.2.1 x.2.2.1 x.2.2.2.1 x.2.2.2.2.1) x.2.2.2.2.2.1 x.2.2.2.2.2.2.1,(fun(p0:TModel) (p1:Int) (p2:List Int)=>(((mH p0 p1 p2).m).Seals:List TStored)) (TModel.mk x.1 x.2.1 x.2.2.1 x.2.2.2.1 x.2.2.2.2.1) x.2.2.2.2.2.1 x.2.2.2.2.2.2.1,(fun(p0:TModel) (p1:Int) (p2:List Int)=>(((mH p0 p1 p2).m).Proofs:List TStored)) (TModel.mk x.1 x.2.1 x.2.2.1 x.2.2.2.1 x.2.2.2.2.1) x.2.2.2.2.2.1 x.2.2.2.2.2.2.1,())
theorem k1kw:k11k.Ok Try.prog TB:=Con.ok_fn k5t bd40 fun x h=>k1ij (k1dx (TModel.mk x.1 x.2.1 x.2.2.1 x.2.2.2.1 x.2.2.2.2.1) x.2.2.2.2.2.1 x.2.2.2.2.2.2.1 h)
def k4m:Con TB.den:=Con.mk0 18 [.one (.ptr 0 0),.one (.ptr 1 0),.one (.d (.int .u64)),.one (.d (.sl (.int .u64)))] [.cells [.d (.bool),.d (.int .u64),.d (.int .i64),.own 2,.mp 3,.mp 4,.mp 5],.cells [.d (.int .u64),.d (.int .i64),.d (.sl (.st 3)),.d (.sl (.st 8)),.d (.sl (.st 8))],.tip (.st 3),.map (.str) (.int .i64),.map (.str) (.sl (.int .u64)),.map (.str) (.bool)] (.tup [.one (.d (.int .u64)),.one (.d (.bool))]) [.cells [.d (.bool),.d (.int .u64),.d (.int .i64),.own 2,.mp 3,.mp 4,.mp 5],.cells [.d (.int .u64),.d (.int .i64),.d (.sl (.st 3)),.d (.sl (.st 8)),.d (.sl (.st 8))],.tip (.st 3),.map (.str) (.int .i64),.map (.str) (.sl (.int .u64)),.map (.str) (.bool)]
abbrev k15i:=HL TB.den (hsT k4m.ins (hsOs k4m.pre))
abbrev kmm:=HL TB.den (hsV k4m.res (hsOs k4m.post))
noncomputable def kec:Cx TB:=⟨inf,[ko7,k11k],[],4,[]⟩
noncomputable def klm:Code:=Try.f18.body.getD .skip
noncomputable def kre:List ResultVar:=Try.f18.results.toList
noncomputable def k11d (o:kmm):An TB:= .no
def kl4 (x:k15i) (o:kmm):Prop:=WPh TB kec 33 6 klm (k11d o) (k4m.st TB x) (retTQ TB kec k4m kre o)
theorem k1ez (o:kmm):OblH TB kec 33 6 klm (k11d o) (retTQ TB kec k4m kre o):=
 OblH.ofC (X:=True) (by kernel_rfl) trivial
theorem k1f1 {x:k15i} {o:kmm} (h:kl4 x o):k4m.Snd Try.prog x o:=
 Con.soundH (c:=k4m) (C:=kec) TBok ⟨inf_ok,(all_cons k185 (all_cons k1kw all_nil)),all_nil⟩ mix Try.func18 (show Try.f18.body=some klm by kernel_rfl) (show Try.f18.ntmps=33 by kernel_rfl) (show Try.f18.results.toList=kre by kernel_rfl) rfl h (k1ez o)
theorem k1gl {p2:Int} {p3:List Int} {c0_0:Bool} {c0_1:Int} {c0_2:Int} {c1_0:Int} {c1_1:Int} {c1_2:List TQuestion} {c1_3:List TStored} {c1_4:List TStored} {w2:List TQuestion} {w3k:List ByteArray} {w3v:List Int} {w4k:List ByteArray} {w4v:List (List Int)} {w5k:List ByteArray} {w5v:List Bool} {r0:Int} {r1:Bool} {d0_0:Bool} {d0_1:Int} {d0_2:Int} {d1_0:Int} {d1_1:Int} {d1_2:List TQuestion} {d1_3:List TStored} {d1_4:List TStored} {e2:List TQuestion} {e3k:List ByteArray} {e3v:List Int} {e4k:List ByteArray} {e4v:List (List Int)} {e5k:List ByteArray} {e5v:List Bool} (h:
((w2=w2)∧(U64 p2∧(Us p3∧p3.length≤1000000000)∧OOk (OS.mk c0_0 c0_1 c0_2 w2 w3k w3v w4k w4v w5k w5v))∧let r2:Int:=((hO (OS.mk c0_0 c0_1 c0_2 w2 w3k w3v w4k w4v w5k w5v) p2 p3).n)
 let r3:Bool:=((hO (OS.mk c0_0 c0_1 c0_2 w2 w3k w3v w4k w4v w5k w5v) p2 p3).o.a)
 let r4:Int:=((hO (OS.mk c0_0 c0_1 c0_2 w2 w3k w3v w4k w4v w5k w5v) p2 p3).o.b)
 let r5:Int:=((hO (OS.mk c0_0 c0_1 c0_2 w2 w3k w3v w4k w4v w5k w5v) p2 p3).o.c)
 let r6:List TQuestion:=((hO (OS.mk c0_0 c0_1 c0_2 w2 w3k w3v w4k w4v w5k w5v) p2 p3).o.q)
 let r7:List ByteArray:=((hO (OS.mk c0_0 c0_1 c0_2 w2 w3k w3v w4k w4v w5k w5v) p2 p3).o.k)
 let r8:List Int:=((hO (OS.mk c0_0 c0_1 c0_2 w2 w3k w3v w4k w4v w5k w5v) p2 p3).o.v)
 let r9:List ByteArray:=((hO (OS.mk c0_0 c0_1 c0_2 w2 w3k w3v w4k w4v w5k w5v) p2 p3).o.s)
 let r10:List (List Int):=((hO (OS.mk c0_0 c0_1 c0_2 w2 w3k w3v w4k w4v w5k w5v) p2 p3).o.t)
 let r11:List ByteArray:=((hO (OS.mk c0_0 c0_1 c0_2 w2 w3k w3v w4k w4v w5k w5v) p2 p3).o.x)
 let r12:List Bool:=((hO (OS.mk c0_0 c0_1 c0_2 w2 w3k w3v w4k w4v w5k w5v) p2 p3).o.y)
(KQ (TModel.mk c1_0 c1_1 c1_2 c1_3 c1_4).Known∧p3.length≤1000000000)∧let r13:Int:=((mH (TModel.mk c1_0 c1_1 c1_2 c1_3 c1_4) p2 p3).n)
 let r14:Int:=((mH (TModel.mk c1_0 c1_1 c1_2 c1_3 c1_4) p2 p3).m).State
 let r15:Int:=((mH (TModel.mk c1_0 c1_1 c1_2 c1_3 c1_4) p2 p3).m).Draws
 let r16:List TQuestion:=((mH (TModel.mk c1_0 c1_1 c1_2 c1_3 c1_4) p2 p3).m).Known
 let r17:List TStored:=((mH (TModel.mk c1_0 c1_1 c1_2 c1_3 c1_4) p2 p3).m).Seals
 let r18:List TStored:=((mH (TModel.mk c1_0 c1_1 c1_2 c1_3 c1_4) p2 p3).m).Proofs
(r6=r6)∧r2=r0∧(r2==r13)=r1∧r3=d0_0∧r4=d0_1∧r5=d0_2∧r14=d1_0∧r15=d1_1∧r16=d1_2∧r17=d1_3∧r18=d1_4∧r6=e2∧r7=e3k∧r8=e3v∧r9=e4k∧r10=e4v∧r11=e5k∧r12=e5v)):kl4 (p2,p3,c0_0,c0_1,c0_2,c1_0,c1_1,c1_2,c1_3,c1_4,w2,w3k,w3v,w4k,w4v,w5k,w5v,()) (r0,r1,d0_0,d0_1,d0_2,d1_0,d1_1,d1_2,d1_3,d1_4,e2,e3k,e3v,e4k,e4v,e5k,e5v,()):=WPh.of_eq (by kernel_rfl) h
theorem bd18:Callable Try.prog 18:=⟨by rw[Try.func18];kernel_rfl,by rw[Try.func18];show some _≠some _;decide⟩
theorem k1b9 (p2:Int) (p3:List Int) (c0_0:Bool) (c0_1:Int) (c0_2:Int) (c1_0:Int) (c1_1:Int) (c1_2:List TQuestion) (c1_3:List TStored) (c1_4:List TStored) (w2:List TQuestion) (w3k:List ByteArray) (w3v:List Int) (w4k:List ByteArray) (w4v:List (List Int)) (w5k:List ByteArray) (w5v:List Bool) (h:U64 p2∧(Us p3∧p3.length≤1000000000)∧OOk (OS.mk c0_0 c0_1 c0_2 w2 w3k w3v w4k w4v w5k w5v)∧KQ c1_2):kl4 (p2,p3,c0_0,c0_1,c0_2,c1_0,c1_1,c1_2,c1_3,c1_4,w2,w3k,w3v,w4k,w4v,w5k,w5v,()) ((((hO (OS.mk c0_0 c0_1 c0_2 w2 w3k w3v w4k w4v w5k w5v) p2 p3).n):Int),(((hO (OS.mk c0_0 c0_1 c0_2 w2 w3k w3v w4k w4v w5k w5v) p2 p3).n==(mH (TModel.mk c1_0 c1_1 c1_2 c1_3 c1_4) p2 p3).n):Bool),(((hO (OS.mk c0_0 c0_1 c0_2 w2 w3k w3v w4k w4v w5k w5v) p2 p3).o.a):Bool),(((hO (OS.mk c0_0 c0_1 c0_2 w2 w3k w3v w4k w4v w5k w5v) p2 p3).o.b):Int),(((hO (OS.mk c0_0 c0_1 c0_2 w2 w3k w3v w4k w4v w5k w5v) p2 p3).o.c):Int),(((mH (TModel.mk c1_0 c1_1 c1_2 c1_3 c1_4) p2 p3).m.State):Int),(((mH (TModel.mk c1_0 c1_1 c1_2 c1_3 c1_4) p2 p3).m.Draws):Int),(((mH (TModel.mk c1_0 c1_1 c1_2 c1_3 c1_4) p2 p3).m.Known):List TQuestion),(((mH (TModel.mk c1_0 c1_1 c1_2 c1_3 c1_4) p2 p3).m.Seals):List TStored),(((mH (TModel.mk c1_0 c1_1 c1_2 c1_3 c1_4) p2 p3).m.Proofs):List TStored),(((hO (OS.mk c0_0 c0_1 c0_2 w2 w3k w3v w4k w4v w5k w5v) p2 p3).o.q):List TQuestion),(((hO (OS.mk c0_0 c0_1 c0_2 w2 w3k w3v w4k w4v w5k w5v) p2 p3).o.k):List ByteArray),(((hO (OS.mk c0_0 c0_1 c0_2 w2 w3k w3v w4k w4v w5k w5v) p2 p3).o.v):List Int),(((hO (OS.mk c0_0 c0_1 c0_2 w2 w3k w3v w4k w4v w5k w5v) p2 p3).o.s):List ByteArray),(((hO (OS.mk c0_0 c0_1 c0_2 w2 w3k w3v w4k w4v w5k w5v) p2 p3).o.t):List (List Int)),(((hO (OS.mk c0_0 c0_1 c0_2 w2 w3k w3v w4k w4v w5k w5v) p2 p3).o.x):List ByteArray),(((hO (OS.mk c0_0 c0_1 c0_2 w2 w3k w3v w4k w4v w5k w5v) p2 p3).o.y):List Bool),()):=by
 obtain⟨h1,h2,h3,h4⟩:=h
 exact k1gl ⟨rfl,⟨h1,h2,h3⟩,⟨h4,h2.2⟩,rfl,rfl,rfl,rfl,rfl,rfl,rfl,rfl,rfl,rfl,rfl,rfl,rfl,rfl,rfl,rfl,rfl,rfl⟩
noncomputable def kyh:Con TB.den:=k4m.fnR (fun x=>(fun(p2:Int) (p3:List Int) (c0_0:Bool) (c0_1:Int) (c0_2:Int) (c1_0:Int) (c1_1:Int) (c1_2:List TQuestion) (c1_3:List TStored) (c1_4:List TStored) (w2:List TQuestion) (w3k:List ByteArray) (w3v:List Int) (w4k:List ByteArray) (w4v:List (List Int)) (w5k:List ByteArray) (w5v:List Bool)=>U64 p2∧(Us p3∧p3.length≤1000000000)∧OOk (OS.mk c0_0 c0_1 c0_2 w2 w3k w3v w4k w4v w5k w5v)∧KQ c1_2) x.1 x.2.1 x.2.2.1 x.2.2.2.1 x.2.2.2.2.1 x.2.2.2.2.2.1 x.2.2.2.2.2.2.1 x.2.2.2.2.2.2.2.1 x.2.2.2.2.2.2.2.2.1 x.2.2.2.2.2.2.2.2.2.1 x.2.2.2.2.2.2.2.2.2.2.1 x.2.2.2.2.2.2.2.2.2.2.2.1 x.2.2.2.2.2.2.2.2.2.2.2.2.1 x.2.2.2.2.2.2.2.2.2.2.2.2.2.1 x.2.2.2.2.2.2.2.2.2.2.2.2.2.2.1 x.2.2.2.2.2.2.2.2.2.2.2.2.2.2.2.1 x.2.2.2.2.2.2.2.2.2.2.2.2.2.2.2.2.1) fun x=>((fun(p2:Int) (p3:List Int) (c0_0:Bool) (c0_1:Int) (c0_2:Int) (c1_0:Int) (c1_1:Int) (c1_2:List TQuestion) (c1_3:List TStored) (c1_4:List TStored) (w2:List TQuestion) (w3k:List ByteArray) (w3v:List Int) (w4k:List ByteArray) (w4v:List (List Int)) (w5k:List ByteArray) (w5v:List Bool)=>(((hO (OS.mk c0_0 c0_1 c0_2 w2 w3k w3v w4k w4v w5k w5v) p2 p3).n):Int)) x.1 x.2.1 x.2.2.1 x.2.2.2.1 x.2.2.2.2.1 x.2.2.2.2.2.1 x.2.2.2.2.2.2.1 x.2.2.2.2.2.2.2.1 x.2.2.2.2.2.2.2.2.1 x.2.2.2.2.2.2.2.2.2.1 x.2.2.2.2.2.2.2.2.2.2.1 x.2.2.2.2.2.2.2.2.2.2.2.1 x.2.2.2.2.2.2.2.2.2.2.2.2.1 x.2.2.2.2.2.2.2.2.2.2.2.2.2.1 x.2.2.2.2.2.2.2.2.2.2.2.2.2.2.1 x.2.2.2.2.2.2.2.2.2.2.2.2.2.2.2.1 x.2.2.2.2.2.2.2.2.2.2.2.2.2.2.2.2.1,(fun(p2:Int) (p3:List Int) (c0_0:Bool) (c0_1:Int) (c0_2:Int) (c1_0:Int) (c1_1:Int) (c1_2:List TQuestion) (c1_3:List TStored) (c1_4:List TStored) (w2:List TQuestion) (w3k:List ByteArray) (w3v:List Int) (w4k:List ByteArray) (w4v:List (List Int)) (w5k:List ByteArray) (w5v:List Bool)=>(((hO (OS.mk c0_0 c0_1 c0_2 w2 w3k w3v w4k w4v w5k w5v) p2 p3).n==(mH (TModel.mk c1_0 c1_1 c1_2 c1_3 c1_4) p2 p3).n):Bool)) x.1 x.2.1 x.2.2.1 x.2.2.2.1 x.2.2.2.2.1 x.2.2.2.2.2.1 x.2.2.2.2.2.2.1 x.2.2.2.2.2.2.2.1 x.2.2.2.2.2.2.2.2.1 x.2.2.2.2.2.2.2.2.2.1 x.2.2.2.2.2.2.2.2.2.2.1 x.2.2.2.2.2.2.2.2.2.2.2.1 x.2.2.2.2.2.2.2.2.2.2.2.2.1 x.2.2.2.2.2.2.2.2.2.2.2.2.2.1 x.2.2.2.2.2.2.2.2.2.2.2.2.2.2.1 x.2.2.2.2.2.2.2.2.2.2.2.2.2.2.2.1 x.2.2.2.2.2.2.2.2.2.2.2.2.2.2.2.2.1,(fun(p2:Int) (p3:List Int) (c0_0:Bool) (c0_1:Int) (c0_2:Int) (c1_0:Int) (c1_1:Int) (c1_2:List TQuestion) (c1_3:List TStored) (c1_4:List TStored) (w2:List TQuestion) (w3k:List ByteArray) (w3v:List Int) (w4k:List ByteArray) (w4v:List (List Int)) (w5k:List ByteArray) (w5v:List Bool)=>(((hO (OS.mk c0_0 c0_1 c0_2 w2 w3k w3v w4k w4v w5k w5v) p2 p3).o.a):Bool)) x.1 x.2.1 x.2.2.1 x.2.2.2.1 x.2.2.2.2.1 x.2.2.2.2.2.1 x.2.2.2.2.2.2.1 x.2.2.2.2.2.2.2.1 x.2.2.2.2.2.2.2.2.1 x.2.2.2.2.2.2.2.2.2.1 x.2.2.2.2.2.2.2.2.2.2.1 x.2.2.2.2.2.2.2.2.2.2.2.1 x.2.2.2.2.2.2.2.2.2.2.2.2.1 x.2.2.2.2.2.2.2.2.2.2.2.2.2.1 x.2.2.2.2.2.2.2.2.2.2.2.2.2.2.1 x.2.2.2.2.2.2.2.2.2.2.2.2.2.2.2.1 x.2.2.2.2.2.2.2.2.2.2.2.2.2.2.2.2.1,(fun(p2:Int) (p3:List Int) (c0_0:Bool) (c0_1:Int) (c0_2:Int) (c1_0:Int) (c1_1:Int) (c1_2:List TQuestion) (c1_3:List TStored) (c1_4:List TStored) (w2:List TQuestion) (w3k:List ByteArray) (w3v:List Int) (w4k:List ByteArray) (w4v:List (List Int)) (w5k:List ByteArray) (w5v:List Bool)=>(((hO (OS.mk c0_0 c0_1 c0_2 w2 w3k w3v w4k w4v w5k w5v) p2 p3).o.b):Int)) x.1 x.2.1 x.2.2.1 x.2.2.2.1 x.2.2.2.2.1 x.2.2.2.2.2.1 x.2.2.2.2.2.2.1 x.2.2.2.2.2.2.2.1 x.2.2.2.2.2.2.2.2.1 x.2.2.2.2.2.2.2.2.2.1 x.2.2.2.2.2.2.2.2.2.2.1 x.2.2.2.2.2.2.2.2.2.2.2.1 x.2.2.2.2.2.2.2.2.2.2.2.2.1 x.2.2.2.2.2.2.2.2.2.2.2.2.2.1 x.2.2.2.2.2.2.2.2.2.2.2.2.2.2.1 x.2.2.2.2.2.2.2.2.2.2.2.2.2.2.2.1 x.2.2.2.2.2.2.2.2.2.2.2.2.2.2.2.2.1,(fun(p2:Int) (p3:List Int) (c0_0:Bool) (c0_1:Int) (c0_2:Int) (c1_0:Int) (c1_1:Int) (c1_2:List TQuestion) (c1_3:List TStored) (c1_4:List TStored) (w2:List TQuestion) (w3k:List ByteArray) (w3v:List Int) (w4k:List ByteArray) (w4v:List (List Int)) (w5k:List ByteArray) (w5v:List Bool)=>(((hO (OS.mk c0_0 c0_1 c0_2 w2 w3k w3v w4k w4v w5k w5v) p2 p3).o.c):Int)) x.1 x.2.1 x.2.2.1 x.2.2.2.1 x.2.2.2.2.1 x.2.2.2.2.2.1 x.2.2.2.2.2.2.1 x.2.2.2.2.2.2.2.1 x.2.2.2.2.2.2.2.2.1 x.2.2.2.2.2.2.2.2.2.1 x.2.2.2.2.2.2.2.2.2.2.1 x.2.2.2.2.2.2.2.2.2.2.2.1 x.2.2.2.2.2.2.2.2.2.2.2.2.1 x.2.2.2.2.2.2.2.2.2.2.2.2.2.1 x.2.2.2.2.2.2.2.2.2.2.2.2.2.2.1 x.2.2.2.2.2.2.2.2.2.2.2.2.2.2.2.1 x.2.2.2.2.2.2.2.2.2.2.2.2.2.2.2.2.1,(fun(p2:Int) (p3:List Int) (c0_0:Bool) (c0_1:Int) (c0_2:Int) (c1_0:Int) (c1_1:Int) (c1_2:List TQuestion) (c1_3:List TStored) (c1_4:List TStored) (w2:List TQuestion) (w3k:List ByteArray) (w3v:List Int) (w4k:List ByteArray) (w4v:List (List Int)) (w5k:List ByteArray) (w5v:List Bool)=>(((mH (TModel.mk c1_0 c1_1 c1_2 c1_3 c1_4) p2 p3).m.State):Int)) x.1 x.2.1 x.2.2.1 x.2.2.2.1 x.2.2.2.2.1 x.2.2.2.2.2.1 x.2.2.2.2.2.2.1 x.2.2.2.2.2.2.2.1 x.2.2.2.2.2.2.2.2.1 x.2.2.2.2.2.2.2.2.2.1 x.2.2.2.2.2.2.2.2.2.2.1 x.2.2.2.2.2.2.2.2.2.2.2.1 x.2.2.2.2.2.2.2.2.2.2.2.2.1 x.2.2.2.2.2.2.2.2.2.2.2.2.2.1 x.2.2.2.2.2.2.2.2.2.2.2.2.2.2.1 x.2.2.2.2.2.2.2.2.2.2.2.2.2.2.2.1 x.2.2.2.2.2.2.2.2.2.2.2.2.2.2.2.2.1,(fun(p2:Int) (p3:List Int) (c0_0:Bool) (c0_1:Int) (c0_2:Int) (c1_0:Int) (c1_1:Int) (c1_2:List TQuestion) (c1_3:List TStored) (c1_4:List TStored) (w2:List TQuestion) (w3k:List ByteArray) (w3v:List Int) (w4k:List ByteArray) (w4v:List (List Int)) (w5k:List ByteArray) (w5v:List Bool)=>(((mH (TModel.mk c1_0 c1_1 c1_2 c1_3 c1_4) p2 p3).m.Draws):Int)) x.1 x.2.1 x.2.2.1 x.2.2.2.1 x.2.2.2.2.1 x.2.2.2.2.2.1 x.2.2.2.2.2.2.1 x.2.2.2.2.2.2.2.1 x.2.2.2.2.2.2.2.2.1 x.2.2.2.2.2.2.2.2.2.1 x.2.2.2.2.2.2.2.2.2.2.1 x.2.2.2.2.2.2.2.2.2.2.2.1 x.2.2.2.2.2.2.2.2.2.2.2.2.1 x.2.2.2.2.2.2.2.2.2.2.2.2.2.1 x.2.2.2.2.2.2.2.2.2.2.2.2.2.2.1 x.2.2.2.2.2.2.2.2.2.2.2.2.2.2.2.1 x.2.2.2.2.2.2.2.2.2.2.2.2.2.2.2.2.1,(fun(p2:Int) (p3:List Int) (c0_0:Bool) (c0_1:Int) (c0_2:Int) (c1_0:Int) (c1_1:Int) (c1_2:List TQuestion) (c1_3:List TStored) (c1_4:List TStored) (w2:List TQuestion) (w3k:List ByteArray) (w3v:List Int) (w4k:List ByteArray) (w4v:List (List Int)) (w5k:List ByteArray) (w5v:List Bool)=>(((mH (TModel.mk c1_0 c1_1 c1_2 c1_3 c1_4) p2 p3).m.Known):List TQuestion)) x.1 x.2.1 x.2.2.1 x.2.2.2.1 x.2.2.2.2.1 x.2.2.2.2.2.1 x.2.2.2.2.2.2.1 x.2.2.2.2.2.2.2.1 x.2.2.2.2.2.2.2.2.1 x.2.2.2.2.2.2.2.2.2.1 x.2.2.2.2.2.2.2.2.2.2.1 x.2.2.2.2.2.2.2.2.2.2.2.1 x.2.2.2.2.2.2.2.2.2.2.2.2.1 x.2.2.2.2.2.2.2.2.2.2.2.2.2.1 x.2.2.2.2.2.2.2.2.2.2.2.2.2.2.1 x.2.2.2.2.2.2.2.2.2.2.2.2.2.2.2.1 x.2.2.2.2.2.2.2.2.2.2.2.2.2.2.2.2.1,(fun(p2:Int) (p3:List Int) (c0_0:Bool) (c0_1:Int) (c0_2:Int) (c1_0:Int) (c1_1:Int) (c1_2:List TQuestion) (c1_3:List TStored) (c1_4:List TStored) (w2:List TQuestion) (w3k:List ByteArray) (w3v:List Int) (w4k:List ByteArray) (w4v:List (List Int)) (w5k:List ByteArray) (w5v:List Bool)=>(((mH (TModel.mk c1_0 c1_1 c1_2 c1_3 c1_4) p2 p3).m.Seals):List TStored)) x.1 x.2.1 x.2.2.1 x.2.2.2.1 x.2.2.2.2.1 x.2.2.2.2.2.1 x.2.2.2.2.2.2.1 x.2.2.2.2.2.2.2.1 x.2.2.2.2.2.2.2.2.1 x.2.2.2.2.2.2.2.2.2.1 x.2.2.2.2.2.2.2.2.2.2.1 x.2.2.2.2.2.2.2.2.2.2.2.1 x.2.2.2.2.2.2.2.2.2.2.2.2.1 x.2.2.2.2.2.2.2.2.2.2.2.2.2.1 x.2.2.2.2.2.2.2.2.2.2.2.2.2.2.1 x.2.2.2.2.2.2.2.2.2.2.2.2.2.2.2.1 x.2.2.2.2.2.2.2.2.2.2.2.2.2.2.2.2.1,(fun(p2:Int) (p3:List Int) (c0_0:Bool) (c0_1:Int) (c0_2:Int) (c1_0:Int) (c1_1:Int) (c1_2:List TQuestion) (c1_3:List TStored) (c1_4:List TStored) (w2:List TQuestion) (w3k:List ByteArray) (w3v:List Int) (w4k:List ByteArray) (w4v:List (List Int)) (w5k:List ByteArray) (w5v:List Bool)=>(((mH (TModel.mk c1_0 c1_1 c1_2 c1_3 c1_4) p2 p3).m.Proofs):List TStored)) x.1 x.2.1 x.2.2.1 x.2.2.2.1 x.2.2.2.2.1 x.2.2.2.2.2.1 x.2.2.2.2.2.2.1 x.2.2.2.2.2.2.2.1 x.2.2.2.2.2.2.2.2.1 x.2.2.2.2.2.2.2.2.2.1 x.2.2.2.2.2.2.2.2.2.2.1 x.2.2.2.2.2.2.2.2.2.2.2.1 x.2.2.2.2.2.2.2.2.2.2.2.2.1 x.2.2.2.2.2.2.2.2.2.2.2.2.2.1 x.2.2.2.2.2.2.2.2.2.2.2.2.2.2.1 x.2.2.2.2.2.2.2.2.2.2.2.2.2.2.2.1 x.2.2.2.2.2.2.2.2.2.2.2.2.2.2.2.2.1,(fun(p2:Int) (p3:List Int) (c0_0:Bool) (c0_1:Int) (c0_2:Int) (c1_0:Int) (c1_1:Int) (c1_2:List TQuestion) (c1_3:List TStored) (c1_4:List TStored) (w2:List TQuestion) (w3k:List ByteArray) (w3v:List Int) (w4k:List ByteArray) (w4v:List (List Int)) (w5k:List ByteArray) (w5v:List Bool)=>(((hO (OS.mk c0_0 c0_1 c0_2 w2 w3k w3v w4k w4v w5k w5v) p2 p3).o.q):List TQuestion)) x.1 x.2.1 x.2.2.1 x.2.2.2.1 x.2.2.2.2.1 x.2.2.2.2.2.1 x.2.2.2.2.2.2.1 x.2.2.2.2.2.2.2.1 x.2.2.2.2.2.2.2.2.1 x.2.2.2.2.2.2.2.2.2.1 x.2.2.2.2.2.2.2.2.2.2.1 x.2.2.2.2.2.2.2.2.2.2.2.1 x.2.2.2.2.2.2.2.2.2.2.2.2.1 x.2.2.2.2.2.2.2.2.2.2.2.2.2.1 x.2.2.2.2.2.2.2.2.2.2.2.2.2.2.1 x.2.2.2.2.2.2.2.2.2.2.2.2.2.2.2.1 x.2.2.2.2.2.2.2.2.2.2.2.2.2.2.2.2.1,(fun(p2:Int) (p3:List Int) (c0_0:Bool) (c0_1:Int) (c0_2:Int) (c1_0:Int) (c1_1:Int) (c1_2:List TQuestion) (c1_3:List TStored) (c1_4:List TStored) (w2:List TQuestion) (w3k:List ByteArray) (w3v:List Int) (w4k:List ByteArray) (w4v:List (List Int)) (w5k:List ByteArray) (w5v:List Bool)=>(((hO (OS.mk c0_0 c0_1 c0_2 w2 w3k w3v w4k w4v w5k w5v) p2 p3).o.k):List ByteArray)) x.1 x.2.1 x.2.2.1 x.2.2.2.1 x.2.2.2.2.1 x.2.2.2.2.2.1 x.2.2.2.2.2.2.1 x.2.2.2.2.2.2.2.1 x.2.2.2.2.2.2.2.2.1 x.2.2.2.2.2.2.2.2.2.1 x.2.2.2.2.2.2.2.2.2.2.1 x.2.2.2.2.2.2.2.2.2.2.2.1 x.2.2.2.2.2.2.2.2.2.2.2.2.1 x.2.2.2.2.2.2.2.2.2.2.2.2.2.1 x.2.2.2.2.2.2.2.2.2.2.2.2.2.2.1 x.2.2.2.2.2.2.2.2.2.2.2.2.2.2.2.1 x.2.2.2.2.2.2.2.2.2.2.2.2.2.2.2.2.1,(fun(p2:Int) (p3:List Int) (c0_0:Bool) (c0_1:Int) (c0_2:Int) (c1_0:Int) (c1_1:Int) (c1_2:List TQuestion) (c1_3:List TStored) (c1_4:List TStored) (w2:List TQuestion) (w3k:List ByteArray) (w3v:List Int) (w4k:List ByteArray) (w4v:List (List Int)) (w5k:List ByteArray) (w5v:List Bool)=>(((hO (OS.mk c0_0 c0_1 c0_2 w2 w3k w3v w4k w4v w5k w5v) p2 p3).o.v):List Int)) x.1 x.2.1 x.2.2.1 x.2.2.2.1 x.2.2.2.2.1 x.2.2.2.2.2.1 x.2.2.2.2.2.2.1 x.2.2.2.2.2.2.2.1 x.2.2.2.2.2.2.2.2.1 x.2.2.2.2.2.2.2.2.2.1 x.2.2.2.2.2.2.2.2.2.2.1 x.2.2.2.2.2.2.2.2.2.2.2.1 x.2.2.2.2.2.2.2.2.2.2.2.2.1 x.2.2.2.2.2.2.2.2.2.2.2.2.2.1 x.2.2.2.2.2.2.2.2.2.2.2.2.2.2.1 x.2.2.2.2.2.2.2.2.2.2.2.2.2.2.2.1 x.2.2.2.2.2.2.2.2.2.2.2.2.2.2.2.2.1,(fun(p2:Int) (p3:List Int) (c0_0:Bool) (c0_1:Int) (c0_2:Int) (c1_0:Int) (c1_1:Int) (c1_2:List TQuestion) (c1_3:List TStored) (c1_4:List TStored) (w2:List TQuestion) (w3k:List ByteArray) (w3v:List Int) (w4k:List ByteArray) (w4v:List (List Int)) (w5k:List ByteArray) (w5v:List Bool)=>(((hO (OS.mk c0_0 c0_1 c0_2 w2 w3k w3v w4k w4v w5k w5v) p2 p3).o.s):List ByteArray)) x.1 x.2.1 x.2.2.1 x.2.2.2.1 x.2.2.2.2.1 x.2.2.2.2.2.1 x.2.2.2.2.2.2.1 x.2.2.2.2.2.2.2.1 x.2.2.2.2.2.2.2.2.1 x.2.2.2.2.2.2.2.2.2.1 x.2.2.2.2.2.2.2.2.2.2.1 x.2.2.2.2.2.2.2.2.2.2.2.1 x.2.2.2.2.2.2.2.2.2.2.2.2.1 x.2.2.2.2.2.2.2.2.2.2.2.2.2.1 x.2.2.2.2.2.2.2.2.2.2.2.2.2.2.1 x.2.2.2.2.2.2.2.2.2.2.2.2.2.2.2.1 x.2.2.2.2.2.2.2.2.2.2.2.2.2.2.2.2.1,(fun(p2:Int) (p3:List Int) (c0_0:Bool) (c0_1:Int) (c0_2:Int) (c1_0:Int) (c1_1:Int) (c1_2:List TQuestion) (c1_3:List TStored) (c1_4:List TStored) (w2:List TQuestion) (w3k:List ByteArray) (w3v:List Int) (w4k:List ByteArray) (w4v:List (List Int)) (w5k:List ByteArray) (w5v:List Bool)=>(((hO (OS.mk c0_0 c0_1 c0_2 w2 w3k w3v w4k w4v w5k w5v) p2 p3).o.t):List (List Int))) x.1 x.2.1 x.2.2.1 x.2.2.2.1 x.2.2.2.2.1 x.2.2.2.2.2.1 x.2.2.2.2.2.2.1 x.2.2.2.2.2.2.2.1 x.2.2.2.2.2.2.2.2.1 x.2.2.2.2.2.2.2.2.2.1 x.2.2.2.2.2.2.2.2.2.2.1 x.2.2.2.2.2.2.2.2.2.2.2.1 x.2.2.2.2.2.2.2.2.2.2.2.2.1 x.2.2.2.2.2.2.2.2.2.2.2.2.2.1 x.2.2.2.2.2.2.2.2.2.2.2.2.2.2.1 x.2.2.2.2.2.2.2.2.2.2.2.2.2.2.2.1 x.2.2.2.2.2.2.2.2.2.2.2.2.2.2.2.2.1,(fun(p2:Int) (p3:List Int) (c0_0:Bool) (c0_1:Int) (c0_2:Int) (c1_0:Int) (c1_1:Int) (c1_2:List TQuestion) (c1_3:List TStored) (c1_4:List TStored) (w2:List TQuestion) (w3k:List ByteArray) (w3v:List Int) (w4k:List ByteArray) (w4v:List (List Int)) (w5k:List ByteArray) (w5v:List Bool)=>(((hO (OS.mk c0_0 c0_1 c0_2 w2 w3k w3v w4k w4v w5k w5v) p2 p3).o.x):List ByteArray)) x.1 x.2.1 x.2.2.1 x.2.2.2.1 x.2.2.2.2.1 x.2.2.2.2.2.1 x.2.2.2.2.2.2.1 x.2.2.2.2.2.2.2.1 x.2.2.2.2.2.2.2.2.1 x.2.2.2.2.2.2.2.2.2.1 x.2.2.2.2.2.2.2.2.2.2.1 x.2.2.2.2.2.2.2.2.2.2.2.1 x.2.2.2.2.2.2.2.2.2.2.2.2.1 x.2.2.2.2.2.2.2.2.2.2.2.2.2.1 x.2.2.2.2.2.2.2.2.2.2.2.2.2.2.1 x.2.2.2.2.2.2.2.2.2.2.2.2.2.2.2.1 x.2.2.2.2.2.2.2.2.2.2.2.2.2.2.2.2.1,(fun(p2:Int) (p3:List Int) (c0_0:Bool) (c0_1:Int) (c0_2:Int) (c1_0:Int) (c1_1:Int) (c1_2:List TQuestion) (c1_3:List TStored) (c1_4:List TStored) (w2:List TQuestion) (w3k:List ByteArray) (w3v:List Int) (w4k:List ByteArray) (w4v:List (List Int)) (w5k:List ByteArray) (w5v:List Bool)=>(((hO (OS.mk c0_0 c0_1 c0_2 w2 w3k w3v w4k w4v w5k w5v) p2 p3).o.y):List Bool)) x.1 x.2.1 x.2.2.1 x.2.2.2.1 x.2.2.2.2.1 x.2.2.2.2.2.1 x.2.2.2.2.2.2.1 x.2.2.2.2.2.2.2.1 x.2.2.2.2.2.2.2.2.1 x.2.2.2.2.2.2.2.2.2.1 x.2.2.2.2.2.2.2.2.2.2.1 x.2.2.2.2.2.2.2.2.2.2.2.1 x.2.2.2.2.2.2.2.2.2.2.2.2.1 x.2.2.2.2.2.2.2.2.2.2.2.2.2.1 x.2.2.2.2.2.2.2.2.2.2.2.2.2.2.1 x.2.2.2.2.2.2.2.2.2.2.2.2.2.2.2.1 x.2.2.2.2.2.2.2.2.2.2.2.2.2.2.2.2.1,())
theorem k1i0:kyh.Ok Try.prog TB:=Con.ok_fn k4m bd18 fun x h=>k1f1 (k1b9 x.1 x.2.1 x.2.2.1 x.2.2.2.1 x.2.2.2.2.1 x.2.2.2.2.2.1 x.2.2.2.2.2.2.1 x.2.2.2.2.2.2.2.1 x.2.2.2.2.2.2.2.2.1 x.2.2.2.2.2.2.2.2.2.1 x.2.2.2.2.2.2.2.2.2.2.1 x.2.2.2.2.2.2.2.2.2.2.2.1 x.2.2.2.2.2.2.2.2.2.2.2.2.1 x.2.2.2.2.2.2.2.2.2.2.2.2.2.1 x.2.2.2.2.2.2.2.2.2.2.2.2.2.2.1 x.2.2.2.2.2.2.2.2.2.2.2.2.2.2.2.1 x.2.2.2.2.2.2.2.2.2.2.2.2.2.2.2.2.1 h)
def k6e:Con TB.den:=Con.mk0 113 [.one (.d (.int .u64))] [] (.one (.agg [.d (.int .u64),.d (.int .u64),.d (.int .u64)])) []
abbrev k1cz:=HL TB.den (hsT k6e.ins (hsOs k6e.pre))
abbrev kse:=HL TB.den (hsV k6e.res (hsOs k6e.post))
noncomputable def kin:Cx TB:=⟨inf,[],[],4,[]⟩
noncomputable def kqu:Code:=Try.f113.body.getD .skip
noncomputable def kx2:List ResultVar:=Try.f113.results.toList
noncomputable def k195 (o:kse):An TB:= .no
def kqp (x:k1cz) (o:kse):Prop:=WPh TB kin 26 0 kqu (k195 o) (k6e.st TB x) (retTQ TB kin k6e kx2 o)
theorem k1kf (o:kse):OblH TB kin 26 0 kqu (k195 o) (retTQ TB kin k6e kx2 o):=
 OblH.ofC (X:=True) (by kernel_rfl) trivial
theorem k1kj {x:k1cz} {o:kse} (h:kqp x o):k6e.Snd Try.prog x o:=
 Con.soundH (c:=k6e) (C:=kin) TBok ⟨inf_ok,all_nil,all_nil⟩ mix Try.func113 (show Try.f113.body=some kqu by kernel_rfl) (show Try.f113.ntmps=26 by kernel_rfl) (show Try.f113.results.toList=kx2 by kernel_rfl) rfl h (k1kf o)
theorem k1le {p0:Int} {r0:TA3} (h:
(((p0==17)=true→
 3=r0.a0∧4=r0.a1∧3=r0.a2)∧
((p0==17)=false→
((p0==97)=true→
 5=r0.a0∧5=r0.a1∧5=r0.a2)∧
((p0==97)=false→
((p0==193)=true→
 5=r0.a0∧6=r0.a1∧5=r0.a2)∧
((p0==193)=false→
((p0==257)=true→
 3=r0.a0∧8=r0.a1∧3=r0.a2)∧
((p0==257)=false→
((p0==12289)=true→
 11=r0.a0∧12=r0.a1∧5=r0.a2)∧
((p0==12289)=false→
((p0==65537)=true→
 3=r0.a0∧16=r0.a1∧3=r0.a2)∧
((p0==65537)=false→
((p0==18446744069414584321)=true→
 7=r0.a0∧32=r0.a1∧7=r0.a2)∧
((p0==18446744069414584321)=false→
 0=r0.a0∧0=r0.a1∧0=r0.a2))))))))):kqp (p0,()) (r0.a0,r0.a1,r0.a2,()):=WPh.of_eq (by kernel_rfl) h
theorem bd113:Callable Try.prog 113:=⟨by rw[Try.func113];kernel_rfl,by rw[Try.func113];show some _≠some _;decide⟩
theorem k1ju (p0:Int) (h:p0=18446744069414584321):kqp (p0,()) ((7:Int),(32:Int),(7:Int),()):=by
 refine k1le (r0:=TA3.mk 7 32 7) ?_
 simp[h]
noncomputable def ktu:Con TB.den:=k6e.fnR (fun x=>(fun(p0:Int)=>p0=18446744069414584321) x.1) fun x=>((fun(p0:Int)=>(7:Int)) x.1,(fun(p0:Int)=>(32:Int)) x.1,(fun(p0:Int)=>(7:Int)) x.1,())
theorem k1a2:ktu.Ok Try.prog TB:=Con.ok_fn k6e bd113 fun x h=>k1kj (k1ju x.1 h)
def k4p:Con TB.den:=Con.mk0 106 [.one (.d (.int .u64))] [] (.one (.one (.d (.bool)))) []
abbrev k150:=HL TB.den (hsT k4p.ins (hsOs k4p.pre))
abbrev kmn:=HL TB.den (hsV k4p.res (hsOs k4p.post))
noncomputable def kf5:Cx TB:=⟨inf,[ktu],[],4,[]⟩
noncomputable def kky:Code:=Try.f106.body.getD .skip
noncomputable def kqm:List ResultVar:=Try.f106.results.toList
noncomputable def k11v (o:kmn):An TB:= .no
def klw (x:k150) (o:kmn):Prop:=WPh TB kf5 7 0 kky (k11v o) (k4p.st TB x) (retTQ TB kf5 k4p kqm o)
theorem k1g2 (o:kmn):OblH TB kf5 7 0 kky (k11v o) (retTQ TB kf5 k4p kqm o):=
 OblH.ofC (X:=True) (by kernel_rfl) trivial
theorem k1fu {x:k150} {o:kmn} (h:klw x o):k4p.Snd Try.prog x o:=
 Con.soundH (c:=k4p) (C:=kf5) TBok ⟨inf_ok,(all_cons k1a2 all_nil),all_nil⟩ mix Try.func106 (show Try.f106.body=some kky by kernel_rfl) (show Try.f106.ntmps=7 by kernel_rfl) (show Try.f106.results.toList=kqm by kernel_rfl) rfl h (k1g2 o)
theorem k1gy {p0:Int} {r0:Bool} (h:
((p0=18446744069414584321)∧decide (0<(7:Int))=r0)):klw (p0,()) (r0,()):=WPh.of_eq (by kernel_rfl) h
theorem bd106:Callable Try.prog 106:=⟨by rw[Try.func106];kernel_rfl,by rw[Try.func106];show some _≠some _;decide⟩
theorem k1cb (p0:Int) (h:p0=18446744069414584321):klw (p0,()) ((true:Bool),()):=by
 exact k1gy ⟨h,rfl⟩
noncomputable def k7k:Con TB.den:=k4p.fnR (fun x=>(fun(p0:Int)=>p0=18446744069414584321) x.1) fun x=>((fun(p0:Int)=>(true:Bool)) x.1,())
theorem kb4:k7k.Ok Try.prog TB:=Con.ok_fn k4p bd106 fun x h=>k1fu (k1cb x.1 h)
def k6j:Con TB.den:=Con.mk0 114 [.one (.d (.int .u64)),.one (.d (.int .u64)),.one (.d (.int .u64))] [] (.one (.one (.d (.int .u64)))) []
abbrev k1dh:=HL TB.den (hsT k6j.ins (hsOs k6j.pre))
abbrev ks6:=HL TB.den (hsV k6j.res (hsOs k6j.post))
noncomputable def kjq:Cx TB:=⟨inf,[k7k],[],4,[]⟩
noncomputable def kpy:Code:=Try.f114.body.getD .skip
noncomputable def kxh:List ResultVar:=Try.f114.results.toList
noncomputable def k19b (o:ks6):An TB:= .no
def kql (x:k1dh) (o:ks6):Prop:=WPh TB kjq 29 0 kpy (k19b o) (k6j.st TB x) (retTQ TB kjq k6j kxh o)
theorem k1k3 (o:ks6):OblH TB kjq 29 0 kpy (k19b o) (retTQ TB kjq k6j kxh o):=
 OblH.ofC (X:=True) (by kernel_rfl) trivial
theorem k1l2 {x:k1dh} {o:ks6} (h:kql x o):k6j.Snd Try.prog x o:=
 Con.soundH (c:=k6j) (C:=kjq) TBok ⟨inf_ok,(all_cons kb4 all_nil),all_nil⟩ mix Try.func114 (show Try.f114.body=some kpy by kernel_rfl) (show Try.f114.ntmps=29 by kernel_rfl) (show Try.f114.results.toList=kxh by kernel_rfl) rfl h (k1k3 o)
theorem k1m5 {p0:Int} {p1:Int} {p2:Int} {r0:Int} (h:
((p0=18446744069414584321)∧((!true)=true→
 0=r0)∧
((!true)=false→
(p0≠0)∧(p0≠0)∧let v1:Bool:=decide ((IntKind.u64.wrap (p0-(Int.tmod p2 p0)))≤(Int.tmod p1 p0))
(v1=true→
 let v2:Int:=IntKind.u64.wrap ((Int.tmod p1 p0)-(IntKind.u64.wrap (p0-(Int.tmod p2 p0))))
 v2=r0)∧
(v1=false→
 let v3:Int:=IntKind.u64.wrap ((Int.tmod p1 p0)+(Int.tmod p2 p0))
 v3=r0)))):kql (p0,p1,p2,()) (r0,()):=WPh.of_eq (by kernel_rfl) h
theorem bd114:Callable Try.prog 114:=⟨by rw[Try.func114];kernel_rfl,by rw[Try.func114];show some _≠some _;decide⟩
theorem k1hw (p0:Int) (p1:Int) (p2:Int) (h:p0=18446744069414584321∧U64 p1∧U64 p2):kql (p0,p1,p2,()) ((((p1+p2)%18446744069414584321):Int),()):=by
 obtain⟨rfl,h1,h2⟩:=h
 refine k1m5 ⟨rfl,fun h=>by simp at h,fun _=> ?_⟩
 rw[tmod_nn _ _ h1.1,tmod_nn _ _ h2.1]
 simp only[u64w]
 refine⟨by omega,by omega,fun h=> ?_,fun h=> ?_⟩
 ·have h:=of_decide_eq_true h
  omega
 ·have h:=of_decide_eq_false h
  omega
noncomputable def kh3:Con TB.den:=k6j.fnR (fun x=>(fun(p0:Int) (p1:Int) (p2:Int)=>p0=18446744069414584321∧U64 p1∧U64 p2) x.1 x.2.1 x.2.2.1) fun x=>((fun(p0:Int) (p1:Int) (p2:Int)=>(((p1+p2)%18446744069414584321):Int)) x.1 x.2.1 x.2.2.1,())
theorem kp4:kh3.Ok Try.prog TB:=Con.ok_fn k6j bd114 fun x h=>k1l2 (k1hw x.1 x.2.1 x.2.2.1 h)
def k6d:Con TB.den:=Con.mk0 115 [.one (.d (.int .u64)),.one (.d (.int .u64)),.one (.d (.int .u64))] [] (.one (.one (.d (.int .u64)))) []
abbrev k1d4:=HL TB.den (hsT k6d.ins (hsOs k6d.pre))
abbrev ks4:=HL TB.den (hsV k6d.res (hsOs k6d.post))
noncomputable def kiu:Cx TB:=⟨inf,[k7k,klv,klr],[],4,[]⟩
noncomputable def krh:Code:=Try.f115.body.getD .skip
noncomputable def kwr:List ResultVar:=Try.f115.results.toList
noncomputable def k19o (o:ks4):An TB:= .no
def kq2 (x:k1d4) (o:ks4):Prop:=WPh TB kiu 32 0 krh (k19o o) (k6d.st TB x) (retTQ TB kiu k6d kwr o)
theorem k1l8 (o:ks4):OblH TB kiu 32 0 krh (k19o o) (retTQ TB kiu k6d kwr o):=
 OblH.ofC (X:=True) (by kernel_rfl) trivial
theorem k1jv {x:k1d4} {o:ks4} (h:kq2 x o):k6d.Snd Try.prog x o:=
 Con.soundH (c:=k6d) (C:=kiu) TBok ⟨inf_ok,(all_cons kb4 (all_cons kyx (all_cons kz1 all_nil))),all_nil⟩ mix Try.func115 (show Try.f115.body=some krh by kernel_rfl) (show Try.f115.ntmps=32 by kernel_rfl) (show Try.f115.results.toList=kwr by kernel_rfl) rfl h (k1l8 o)
theorem k1li {p0:Int} {p1:Int} {p2:Int} {r0:Int} (h:
((p0=18446744069414584321)∧((!true)=true→
 0=r0)∧
((!true)=false→
(p0≠0)∧(p0≠0)∧(U64 (Int.tmod p1 p0)∧U64 (Int.tmod p2 p0))∧let r1:Int:=((Int.tmod p1 p0)*(Int.tmod p2 p0)/18446744073709551616)
 let r2:Int:=((Int.tmod p1 p0)*(Int.tmod p2 p0)%18446744073709551616)
(U64 r1∧U64 r2∧U64 p0∧r1<p0)∧((r1*18446744073709551616+r2)%p0)=r0))):kq2 (p0,p1,p2,()) (r0,()):=WPh.of_eq (by kernel_rfl) h
theorem bd115:Callable Try.prog 115:=⟨by rw[Try.func115];kernel_rfl,by rw[Try.func115];show some _≠some _;decide⟩
theorem k1jd (p0:Int) (p1:Int) (p2:Int) (h:p0=18446744069414584321∧U64 p1∧U64 p2):kq2 (p0,p1,p2,()) (((p1*p2%18446744069414584321):Int),()):=by
 obtain⟨rfl,h1,h2⟩:=h
 refine k1li ⟨rfl,fun h=>by simp at h,fun _=> ?_⟩
 rw[tmod_nn _ _ h1.1,tmod_nn _ _ h2.1,Int.mul_emod p1 p2]
 have a1:0≤p1%18446744069414584321∧p1%18446744069414584321<18446744069414584321:=by omega
 have a2:0≤p2%18446744069414584321∧p2%18446744069414584321<18446744069414584321:=by omega
 generalize p1%18446744069414584321=a at *
 generalize p2%18446744069414584321=b at *
 have h3:0≤a*b:=Int.mul_nonneg a1.1 a2.1
 have h4:a*b≤18446744069414584320*18446744069414584320:=Int.mul_le_mul (by omega) (by omega) a2.1 (by omega)
 generalize a*b=m at *
 refine⟨by omega,by omega,⟨⟨by omega,by omega⟩,⟨by omega,by omega⟩⟩,⟨⟨by omega,by omega⟩,⟨by omega,by omega⟩,⟨by omega,by omega⟩,by omega⟩,?_⟩
 rw[show m/18446744073709551616*18446744073709551616+m%18446744073709551616=m by omega]
noncomputable def ktk:Con TB.den:=k6d.fnR (fun x=>(fun(p0:Int) (p1:Int) (p2:Int)=>p0=18446744069414584321∧U64 p1∧U64 p2) x.1 x.2.1 x.2.2.1) fun x=>((fun(p0:Int) (p1:Int) (p2:Int)=>((p1*p2%18446744069414584321):Int)) x.1 x.2.1 x.2.2.1,())
theorem k1a3:ktk.Ok Try.prog TB:=Con.ok_fn k6d bd115 fun x h=>k1jv (k1jd x.1 x.2.1 x.2.2.1 h)
def k2r:Con TB.den:=Con.mk0 128 [.one (.d (.int .u64))] [] (.one (.one (.d (.int .u64)))) []
abbrev kul:=HL TB.den (hsT k2r.ins (hsOs k2r.pre))
abbrev kfp:=HL TB.den (hsV k2r.res (hsOs k2r.post))
noncomputable def k9u:Cx TB:=⟨inf,[ktu],[],4,[]⟩
noncomputable def kge:Code:=Try.f128.body.getD .skip
noncomputable def kju:List ResultVar:=Try.f128.results.toList
noncomputable def kso (o:kfp):An TB:= .no
def kga (x:kul) (o:kfp):Prop:=WPh TB k9u 6 0 kge (kso o) (k2r.st TB x) (retTQ TB k9u k2r kju o)
theorem k164 (o:kfp):OblH TB k9u 6 0 kge (kso o) (retTQ TB k9u k2r kju o):=
 OblH.ofC (X:=True) (by kernel_rfl) trivial
theorem k180 {x:kul} {o:kfp} (h:kga x o):k2r.Snd Try.prog x o:=
 Con.soundH (c:=k2r) (C:=k9u) TBok ⟨inf_ok,(all_cons k1a2 all_nil),all_nil⟩ mix Try.func128 (show Try.f128.body=some kge by kernel_rfl) (show Try.f128.ntmps=6 by kernel_rfl) (show Try.f128.results.toList=kju by kernel_rfl) rfl h (k164 o)
theorem k19v {p0:Int} {r0:Int} (h:
((p0=18446744069414584321)∧7=r0)):kga (p0,()) (r0,()):=WPh.of_eq (by kernel_rfl) h
theorem bd128:Callable Try.prog 128:=⟨by rw[Try.func128];kernel_rfl,by rw[Try.func128];show some _≠some _;decide⟩
theorem k13r (p0:Int) (h:p0=18446744069414584321):kga (p0,()) ((7:Int),()):=by
 exact k19v ⟨h,rfl⟩
noncomputable def kr2:Con TB.den:=k2r.fnR (fun x=>(fun(p0:Int)=>p0=18446744069414584321) x.1) fun x=>((fun(p0:Int)=>(7:Int)) x.1,())
theorem k18g:kr2.Ok Try.prog TB:=Con.ok_fn k2r bd128 fun x h=>k180 (k13r x.1 h)
def k5u:Con TB.den:=Con.mk0 126 [.one (.d (.int .u64)),.one (.d (.int .u64)),.one (.d (.int .u64))] [] (.one (.one (.d (.int .u64)))) []
abbrev k1dm:=HL TB.den (hsT k5u.ins (hsOs k5u.pre))
abbrev k6o:=HL TB.den (hsV k5u.res (hsOs k5u.post))
noncomputable def k88:Cx TB:=⟨inf,[k7k,ktk],[],4,[]⟩
noncomputable def kbc:Code:=Try.f126.body.getD .skip
noncomputable def kpa:List ResultVar:=Try.f126.results.toList
def k189 (o:k6o):=qS TB k88 30 0 (cB (cB (cB (cB (cB kbc))))) .no (retTQ TB k88 k5u kpa o)
def k53:Tm:=⟨[],[],[0,1,2,7],[.one (.d (.int .u64)),.one (.d (.int .u64)),.one (.d (.int .u64)),.one (.d (.int .u64))],0⟩
def k1m1 (o:k6o) (nx1:NX TB k53):=blockT TB 1 (qM TB 0 k53 nx1 (blockT TB 0 (k189 o)))
def km7:Tm:=⟨[],[],[0,1,2,7],[.one (.d (.int .u64)),.one (.d (.int .u64)),.one (.d (.int .u64)),.one (.d (.int .u64))],0⟩
def k14v (o:k6o) (nx1:NX TB k53) (i:HL TB.den km7.hs):Prop:=ghs TB [] (km7.fill TB i) fun s=>WP TB k88 30 0 (cB (cA (cB (cA (cA (cA (cB (cB (cB (cB kbc)))))))))) .no s (k1m1 o nx1)
structure kfr (o:k6o) (nx1:NX TB k53) (i:HL TB.den km7.hs):Prop where
 h:k14v o nx1 i
noncomputable def k19n (o:k6o) (nx1:NX TB k53):An TB:= .nd [] .no [] (.jn km7 (kfr o nx1) [] .no [] .no)
def kis (o:k6o) (nx1:NX TB k53) (i:HL TB.den k53.hs):Prop:=WP TB k88 30 0 (cA (cA (cA (cB (cB (cB (cB kbc))))))) (k19n o nx1) (k53.fill TB i) (qM TB 0 k53 nx1 (blockT TB 0 (k189 o)))
noncomputable def k1ln (o:k6o):An TB:= .lp [] k53 (kis o) fun nx1=>(k19n o nx1)
noncomputable def k1lz (o:k6o):An TB:= .nd [] .no [] (.nd [] .no [] (.nd [] .no [] (.nd [] (k1ln o) [] .no)))
noncomputable def k18e (o:k6o):An TB:= .nd [] .no [] (k1lz o)
def kpo (x:k1dm) (o:k6o):Prop:=WPh TB k88 30 0 kbc (k18e o) (k5u.st TB x) (retTQ TB k88 k5u kpa o)
theorem k1ks (o:k6o):OblH TB k88 30 0 kbc (k18e o) (retTQ TB k88 k5u kpa o):=
 OblH.ofC (X:=((∀nx i,(kis o) nx i=(kis o) nx i)∧(∀nx1:NX TB k53,((∀i,(kfr o nx1) i=k14v o nx1 i)∧True))∧True)) (by kernel_rfl) ⟨fun _ _=>rfl,fun _=>⟨fun _=>propext ⟨fun h=>h.1,fun h=>⟨h⟩⟩,trivial⟩,trivial⟩
theorem k1la {x:k1dm} {o:k6o} (h:kpo x o):k5u.Snd Try.prog x o:=
 Con.soundH (c:=k5u) (C:=k88) TBok ⟨inf_ok,(all_cons kb4 (all_cons k1a3 all_nil)),all_nil⟩ mix Try.func126 (show Try.f126.body=some kbc by kernel_rfl) (show Try.f126.ntmps=30 by kernel_rfl) (show Try.f126.results.toList=kpa by kernel_rfl) rfl h (k1ks o)
theorem k1mb {p0:Int} {p1:Int} {p2:Int} {r0:Int} (h:
((p0=18446744069414584321)∧((!true)=true→
 0=r0)∧
((!true)=false→
(p0≠0)∧Md.Loop (p0,(Int.tmod p1 p0:Int),p2,(1:Int),()) (kis (r0,()))))):kpo (p0,p1,p2,()) (r0,()):=WPh.of_eq (by kernel_rfl) h
theorem k1ff {r0:Int} {nx1:NX TB k53} {s0:Int} {s1:Int} {s2:Int} {s7:Int} (h:
((s0=18446744069414584321∧U64 s1∧U64 s1)∧nx1 (s0,((s1*s1%18446744069414584321):Int),(IntKind.u64.wrap (Int.tdiv s2 2):Int),s7,()))):kfr (r0,()) nx1 (s0,s1,s2,s7,()):=⟨mpr_of (by kernel_rfl) h⟩
def k19z (r0:Int) (nx1:NX TB k53) (k1:Int→Int→Int→Prop) (s0:Int) (s1:Int) (s2:Int) (s7:Int):Prop:=
(decide (0<s2)=true→
(((Int.tmod s2 2)==1)=true→
(s0=18446744069414584321∧U64 s7∧U64 s1)∧kfr (r0,()) nx1 (s0,s1,s2,((s7*s1%18446744069414584321):Int),()))∧
(((Int.tmod s2 2)==1)=false→
 kfr (r0,()) nx1 (s0,s1,s2,s7,())))∧
(decide (0<s2)=false→
 s7=r0)
theorem k1kh {r0:Int} {s0:Int} {s1:Int} {s2:Int} {s7:Int} (inv:Int→Int→Int→Prop) (μ:Int→Int→Int→Nat) (h0:inv s1 s2 s7) (hs:∀(s1:Int) (s2:Int) (s7:Int),inv s1 s2 s7→k19z r0 (fun s:Int×Int×Int×Int×Unit=>((s.1=s0)∧inv s.2.1 s.2.2.1 s.2.2.2.1)∧μ s.2.1 s.2.2.1 s.2.2.2.1<μ s1 s2 s7) (fun s1q s2q s7q=>inv s1q s2q s7q∧μ s1q s2q s7q<μ s1 s2 s7) s0 s1 s2 s7):Md.Loop (s0,s1,s2,s7,()) (kis (r0,())):=
 ⟨⟨fun s:Int×Int×Int×Int×Unit=>(s.1=s0)∧inv s.2.1 s.2.2.1 s.2.2.2.1,fun s:Int×Int×Int×Int×Unit=>μ s.2.1 s.2.2.1 s.2.2.2.1,⟨rfl,h0⟩,fun(s0p,s1p,s2p,s7p,()) ⟨eq0,hi⟩=>by
  have eq0:s0p=s0:=eq0;subst s0p;exact mpr_of (by kernel_rfl) ((congrArg (fun k=>k19z r0 (fun s:Int×Int×Int×Int×Unit=>((s.1=s0)∧inv s.2.1 s.2.2.1 s.2.2.2.1)∧μ s.2.1 s.2.2.1 s.2.2.2.1<μ s1p s2p s7p) k s0 s1p s2p s7p) (lpk3 (rfl:s0=s0) inv (fun s1q s2q s7q=>μ s1q s2q s7q<μ s1p s2p s7p))).mpr (hs s1p s2p s7p hi))⟩⟩
theorem bd126:Callable Try.prog 126:=⟨by rw[Try.func126];kernel_rfl,by rw[Try.func126];show some _≠some _;decide⟩
theorem k1ha (p0:Int) (p1:Int) (p2:Int) (h:p0=18446744069414584321∧U64 p1∧U64 p2):kpo (p0,p1,p2,()) (((pw p1 p2):Int),()):=by
 obtain⟨rfl,h1,h2⟩:=h
 refine k1mb ⟨rfl,fun h=>by simp at h,fun _=>⟨by omega,?_⟩⟩
 rw[tmod_nn _ _ h1.1]
 refine k1kh (fun a e r=>(0≤a∧a<18446744069414584321)∧U64 e∧(0≤r∧r<18446744069414584321)∧(r*a^e.toNat)%18446744069414584321=pw p1 p2) (fun a e r=>e.toNat) ⟨by omega,h2,by omega,by rw[Int.one_mul,kwn];rfl⟩ ?_
 rintro a e r ⟨ha,he,hr,hv⟩
 have hpow:∀k:Nat,a^(2*k)=(a*a)^k:=fun k=>by rw[Int.pow_mul];congr 1;rw[Int.pow_succ,Int.pow_succ,Int.pow_zero,Int.one_mul]
 have jj:∀nx r',(0≤r'∧r' <18446744069414584321)→0<e→(r' *(a*a)^(e/2).toNat)%18446744069414584321=pw p1 p2→(∀a',(0≤a'∧a' <18446744069414584321)→r' *a' ^(e/2).toNat%18446744069414584321=pw p1 p2→nx ((18446744069414584321:Int),a',(e/2:Int),r',()))→kfr ((pw p1 p2:Int),()) nx ((18446744069414584321:Int),a,e,r',()):=by
  intro nx r' hr' he' hv' hn
  refine k1ff ⟨⟨rfl,by omega,by omega⟩,?_⟩
  rw[tdiv_nn _ _ he.1,wu (e/2) (by omega) (by omega)]
  refine hn _ ⟨Int.emod_nonneg _ (by omega),Int.emod_lt_of_pos _ (by omega)⟩ ?_
  rw[←hv',Int.mul_emod,Int.mul_emod r' ((a*a)^_),kwn]
 refine⟨fun h=> ?_,fun h=> ?_⟩
 ·have h:=of_decide_eq_true h
  rw[tmod_nn _ _ he.1]
  have nxt:∀a' r',(0≤a'∧a' <18446744069414584321)→(0≤r'∧r' <18446744069414584321)→r' *a' ^(e/2).toNat%18446744069414584321=pw p1 p2→((0≤a'∧a' <18446744069414584321)∧U64 (e/2)∧(0≤r'∧r' <18446744069414584321)∧r' *a' ^(e/2).toNat%18446744069414584321=pw p1 p2)∧(e/2).toNat<e.toNat:=fun a' r' h1 h2 h3=>⟨⟨h1,⟨by omega,by omega⟩,h2,h3⟩,by omega⟩
  refine⟨fun h1=>⟨⟨rfl,by omega,by omega⟩,?_⟩,fun h1=> ?_⟩
  ·have h1:e%2=1:=by simpa using h1
   refine jj _ _ ⟨Int.emod_nonneg _ (by omega),Int.emod_lt_of_pos _ (by omega)⟩ h ?_ fun a' ha' hv' =>⟨⟨rfl,(nxt a' _ ha' ⟨Int.emod_nonneg _ (by omega),Int.emod_lt_of_pos _ (by omega)⟩ hv').1⟩,(nxt a' _ ha' ⟨Int.emod_nonneg _ (by omega),Int.emod_lt_of_pos _ (by omega)⟩ hv').2⟩
   rw[←hv,show e.toNat=2*(e/2).toNat+1 by omega,Int.pow_succ,hpow,Int.mul_emod,Int.emod_emod_of_dvd _ (Int.dvd_refl _),←Int.mul_emod]
   congr 1
   grind
  ·have h1:¬e%2=1:=by simpa using h1
   refine jj _ _ hr h ?_ fun a' ha' hv' =>⟨⟨rfl,(nxt a' _ ha' hr hv').1⟩,(nxt a' _ ha' hr hv').2⟩
   rw[←hv,←hpow,show e.toNat=2*(e/2).toNat by omega]
 ·have h:¬0<e:=of_decide_eq_false h
  rw[show e.toNat=0 by omega,Int.pow_zero,Int.mul_one,Int.emod_eq_of_lt hr.1 hr.2]at hv
  exact hv
noncomputable def k15r:Con TB.den:=k5u.fnR (fun x=>(fun(p0:Int) (p1:Int) (p2:Int)=>p0=18446744069414584321∧U64 p1∧U64 p2) x.1 x.2.1 x.2.2.1) fun x=>((fun(p0:Int) (p1:Int) (p2:Int)=>((pw p1 p2):Int)) x.1 x.2.1 x.2.2.1,())
theorem k1m4:k15r.Ok Try.prog TB:=Con.ok_fn k5u bd126 fun x h=>k1la (k1ha x.1 x.2.1 x.2.2.1 h)
def k2m:Con TB.den:=Con.mk0 127 [.one (.d (.int .u64)),.one (.d (.int .i64)),.one (.d (.int .i64))] [] (.one (.one (.d (.int .u64)))) []
abbrev kvb:=HL TB.den (hsT k2m.ins (hsOs k2m.pre))
abbrev kfg:=HL TB.den (hsV k2m.res (hsOs k2m.post))
noncomputable def ka1:Cx TB:=⟨inf,[k7k],[],4,[]⟩
noncomputable def kgd:Code:=Try.f127.body.getD .skip
noncomputable def kjf:List ResultVar:=Try.f127.results.toList
noncomputable def kst (o:kfg):An TB:= .no
def kg0 (x:kvb) (o:kfg):Prop:=WPh TB ka1 35 0 kgd (kst o) (k2m.st TB x) (retTQ TB ka1 k2m kjf o)
theorem k16k (o:kfg):OblH TB ka1 35 0 kgd (kst o) (retTQ TB ka1 k2m kjf o):=
 OblH.ofC (X:=True) (by kernel_rfl) trivial
theorem k167 {x:kvb} {o:kfg} (h:kg0 x o):k2m.Snd Try.prog x o:=
 Con.soundH (c:=k2m) (C:=ka1) TBok ⟨inf_ok,(all_cons kb4 all_nil),all_nil⟩ mix Try.func127 (show Try.f127.body=some kgd by kernel_rfl) (show Try.f127.ntmps=35 by kernel_rfl) (show Try.f127.results.toList=kjf by kernel_rfl) rfl h (k16k o)
theorem k1ai {p0:Int} {p1:Int} {p2:Int} {r0:Int} (h:
((p0=18446744069414584321)∧((!true)=true→
 0=r0)∧
((!true)=false→
(decide (p1<0)=true→
 0=r0)∧
(decide (p1<0)=false→
(decide (7<p1)=true→
 0=r0)∧
(decide (7<p1)=false→
(decide (p2<0)=true→
 0=r0)∧
(decide (p2<0)=false→
(decide (2<p2)=true→
 0=r0)∧
(decide (2<p2)=false→
 let v1:Int:=IntKind.i64.wrap ((IntKind.i64.wrap (3*p1))+p2)
 let v2:Int:=IntKind.u64.wrap (IntKind.i64.wrap (v1+1))
 let v3:Int:=IntKind.u64.wrap (v2*11400714819323198485)
(p0≠0)∧Int.tmod v3 p0=r0))))))):kg0 (p0,p1,p2,()) (r0,()):=WPh.of_eq (by kernel_rfl) h
theorem bd127:Callable Try.prog 127:=⟨by rw[Try.func127];kernel_rfl,by rw[Try.func127];show some _≠some _;decide⟩
theorem k13w (p0:Int) (p1:Int) (p2:Int) (h:p0=18446744069414584321∧(0≤p1∧p1<8)∧0≤p2∧p2<3):kg0 (p0,p1,p2,()) (((rc p1 p2):Int),()):=by
 obtain⟨rfl,h1,h2⟩:=h
 refine k1ai ⟨rfl,fun h=>by simp at h,fun _=>⟨fun h=> ?_,fun _=>⟨fun h=> ?_,fun _=>⟨fun h=> ?_,fun _=>⟨fun h=> ?_,fun _=> ?_⟩⟩⟩⟩⟩
 ·simp at h;omega
 ·simp at h;omega
 ·simp at h;omega
 ·simp at h;omega
 ·simp only[]
  rw[wi (3*p1) (by omega) (by omega),wi (3*p1+p2) (by omega) (by omega),wi (3*p1+p2+1) (by omega) (by omega),wu (3*p1+p2+1) (by omega) (by omega),u64w]
  exact⟨by omega,by rw[tmod_nn _ _ (by omega)];rfl⟩
noncomputable def kqa:Con TB.den:=k2m.fnR (fun x=>(fun(p0:Int) (p1:Int) (p2:Int)=>p0=18446744069414584321∧(0≤p1∧p1<8)∧0≤p2∧p2<3) x.1 x.2.1 x.2.2.1) fun x=>((fun(p0:Int) (p1:Int) (p2:Int)=>((rc p1 p2):Int)) x.1 x.2.1 x.2.2.1,())
theorem k1ac:kqa.Ok Try.prog TB:=Con.ok_fn k2m bd127 fun x h=>k167 (k13w x.1 x.2.1 x.2.2.1 h)
def k5w:Con TB.den:=Con.mk0 135 [.one (.d (.int .u64)),.one (.d (.sl (.int .u64)))] [] (.one (.one (.d (.int .u64)))) []
abbrev k1cr:=HL TB.den (hsT k5w.ins (hsOs k5w.pre))
abbrev kf4:=HL TB.den (hsV k5w.res (hsOs k5w.post))
noncomputable def ka6:Cx TB:=⟨inf,[kh3],[],4,[]⟩
noncomputable def ke8:Code:=Try.f135.body.getD .skip
noncomputable def kpg:List ResultVar:=Try.f135.results.toList
def k1m8 (o:kf4):=qS TB ka6 21 0 (cB (cB (cB ke8))) .no (retTQ TB ka6 k5w kpg o)
def kfl:Tm:=⟨[],[],[0,1,5,6],[.one (.d (.int .u64)),.one (.d (.sl (.int .u64))),.one (.d (.int .u64)),.one (.d (.int .i64))],0⟩
def kjx (o:kf4) (nx1:NX TB kfl) (i:HL TB.den kfl.hs):Prop:=WP TB ka6 21 0 (cA (cA (cB (cA (cB (cB ke8)))))) .no (kfl.fill TB i) (qM TB 0 kfl nx1 (blockT TB 0 (k1m8 o)))
noncomputable def k1lr (o:kf4):An TB:= .nd [] .no [] (.lp [] kfl (kjx o) fun nx1=> .no)
noncomputable def k19k (o:kf4):An TB:= .nd [] .no [] (.nd [] .no [] (.nd [] (k1lr o) [] .no))
def kq0 (x:k1cr) (o:kf4):Prop:=WPh TB ka6 21 0 ke8 (k19k o) (k5w.st TB x) (retTQ TB ka6 k5w kpg o)
theorem k1kx (o:kf4):OblH TB ka6 21 0 ke8 (k19k o) (retTQ TB ka6 k5w kpg o):=
 OblH.ofC (X:=((∀nx i,(kjx o) nx i=(kjx o) nx i)∧(∀nx1:NX TB kfl,True)∧True)) (by kernel_rfl) ⟨fun _ _=>rfl,fun _=>trivial,trivial⟩
theorem k1kn {x:k1cr} {o:kf4} (h:kq0 x o):k5w.Snd Try.prog x o:=
 Con.soundH (c:=k5w) (C:=ka6) TBok ⟨inf_ok,(all_cons kp4 all_nil),all_nil⟩ mix Try.func135 (show Try.f135.body=some ke8 by kernel_rfl) (show Try.f135.ntmps=21 by kernel_rfl) (show Try.f135.results.toList=kpg by kernel_rfl) rfl h (k1kx o)
theorem k1m7 {p0:Int} {p1:List Int} {r0:Int} (h:
(Md.Loop (p0,p1,(0:Int),(0:Int),()) (kjx (r0,())))):kq0 (p0,p1,()) (r0,()):=WPh.of_eq (by kernel_rfl) h
def k19q (r0:Int) (k1:Int→Int→Prop) (s0:Int) (s1:List Int) (s5:Int) (s6:Int):Prop:=
(decide (s6<(s1.length:Int))=true→
(0≤s6)∧s6<(s1.length:Int)∧(s0=18446744069414584321∧U64 s5∧U64 (ix s1 s6))∧let r1:Int:=((s5+(ix s1 s6))%18446744069414584321)
 k1 r1 (IntKind.i64.wrap (s6+1):Int))∧
(decide (s6<(s1.length:Int))=false→
 s5=r0)
theorem k1ku {r0:Int} {s0:Int} {s1:List Int} {s5:Int} {s6:Int} (inv:Int→Int→Prop) (μ:Int→Int→Nat) (h0:inv s5 s6) (hs:∀(s5:Int) (s6:Int),inv s5 s6→k19q r0 (fun s5q s6q=>inv s5q s6q∧μ s5q s6q<μ s5 s6) s0 s1 s5 s6):Md.Loop (s0,s1,s5,s6,()) (kjx (r0,())):=
 ⟨⟨fun s:Int×(List Int)×Int×Int×Unit=>(s.1=s0∧s.2.1=s1)∧inv s.2.2.1 s.2.2.2.1,fun s:Int×(List Int)×Int×Int×Unit=>μ s.2.2.1 s.2.2.2.1,⟨⟨rfl,rfl⟩,h0⟩,fun(s0p,s1p,s5p,s6p,()) ⟨⟨eq0,eq1⟩,hi⟩=>by
  have eq0:s0p=s0:=eq0;subst s0p;have eq1:s1p=s1:=eq1;subst s1p;exact mpr_of (by kernel_rfl) ((congrArg (fun k=>k19q r0 k s0 s1 s5p s6p) (lpk2 (⟨rfl,rfl⟩:s0=s0∧s1=s1) inv (fun s5q s6q=>μ s5q s6q<μ s5p s6p))).mpr (hs s5p s6p hi))⟩⟩
theorem bd135:Callable Try.prog 135:=⟨by rw[Try.func135];kernel_rfl,by rw[Try.func135];show some _≠some _;decide⟩
theorem k1h4 (p0:Int) (p1:List Int) (h:p0=18446744069414584321∧Us p1∧p1.length≤9223372036854775807):kq0 (p0,p1,()) (((p1.foldl (fun s x=>(s+x)%18446744069414584321) 0):Int),()):=by
 obtain⟨rfl,h1,h2⟩:=h
 refine k1m7 (k1ku (fun s i=>FoldI (fun s x=>(s+x)%18446744069414584321) 0 p1 i s∧U64 s) (fun s i=>(p1.length-i).toNat) ⟨FoldI.start,by omega⟩ ?_)
 rintro s i ⟨hi,hs⟩
 refine⟨fun hh=> ?_,fun hh=>hi.done (of_decide_eq_false hh)⟩
 have hh:=of_decide_eq_true hh
 have hx:=h1 _ (ix_mem p1 i hi.1 hh)
 have nx:=hi.next hh (by omega) rfl
 exact⟨hi.1,hh,⟨rfl,hs,hx⟩,⟨nx.1,by omega⟩,nx.2⟩
noncomputable def k157:Con TB.den:=k5w.fnR (fun x=>(fun(p0:Int) (p1:List Int)=>p0=18446744069414584321∧Us p1∧p1.length≤9223372036854775807) x.1 x.2.1) fun x=>((fun(p0:Int) (p1:List Int)=>((p1.foldl (fun s x=>(s+x)%18446744069414584321) 0):Int)) x.1 x.2.1,())
theorem k1ly:k157.Ok Try.prog TB:=Con.ok_fn k5w bd135 fun x h=>k1kn (k1h4 x.1 x.2.1 h)
def k5v:Con TB.den:=Con.mk0 129 [.one (.d (.int .u64)),.agg [.d (.int .u64),.d (.int .u64),.d (.int .u64)]] [] (.one (.agg [.d (.int .u64),.d (.int .u64),.d (.int .u64)])) []
abbrev k1dg:=HL TB.den (hsT k5v.ins (hsOs k5v.pre))
abbrev kfa:=HL TB.den (hsV k5v.res (hsOs k5v.post))
noncomputable def k9x:Cx TB:=⟨inf,[k157,kh3],[],4,[]⟩
noncomputable def kem:Code:=Try.f129.body.getD .skip
noncomputable def kpe:List ResultVar:=Try.f129.results.toList
def k1lv (o:kfa):=qS TB k9x 30 0 (cB (cB (cB (cB kem)))) .no (retTQ TB k9x k5v kpe o)
def kfm:Tm:=⟨[0,1,3],[.cells [.d (.int .u64),.d (.int .u64),.d (.int .u64)],.cells [.d (.int .u64),.d (.int .u64),.d (.int .u64)],.cells [.d (.int .u64),.d (.int .u64),.d (.int .u64)]],[0,3,4,5,6,7],[.one (.d (.int .u64)),.one (.ptr 0 0),.one (.ptr 1 0),.one (.d (.int .u64)),.one (.ptr 2 0),.one (.d (.int .i64))],4⟩
def kk8 (o:kfa) (nx1:NX TB kfm) (i:HL TB.den kfm.hs):Prop:=WP TB k9x 30 0 (cA (cA (cB (cA (cB (cB (cB kem))))))) .no (kfm.fill TB i) (qM TB 0 kfm nx1 (blockT TB 0 (k1lv o)))
noncomputable def k1m6 (o:kfa):An TB:= .nd [] .no [] (.lp [] kfm (kk8 o) fun nx1=> .no)
noncomputable def k1a5 (o:kfa):An TB:= .nd [] .no [] (.nd [] .no [] (.nd [] .no [] (.nd [] (k1m6 o) [] .no)))
def kq3 (x:k1dg) (o:kfa):Prop:=WPh TB k9x 30 0 kem (k1a5 o) (k5v.st TB x) (retTQ TB k9x k5v kpe o)
theorem k1k7 (o:kfa):OblH TB k9x 30 0 kem (k1a5 o) (retTQ TB k9x k5v kpe o):=
 OblH.ofC (X:=((∀nx i,(kk8 o) nx i=(kk8 o) nx i)∧(∀nx1:NX TB kfm,True)∧True)) (by kernel_rfl) ⟨fun _ _=>rfl,fun _=>trivial,trivial⟩
theorem k1kr {x:k1dg} {o:kfa} (h:kq3 x o):k5v.Snd Try.prog x o:=
 Con.soundH (c:=k5v) (C:=k9x) TBok ⟨inf_ok,(all_cons k1ly (all_cons kp4 all_nil)),all_nil⟩ mix Try.func129 (show Try.f129.body=some kem by kernel_rfl) (show Try.f129.ntmps=30 by kernel_rfl) (show Try.f129.results.toList=kpe by kernel_rfl) rfl h (k1k7 o)
theorem k1lj {p0:Int} {p1:TA3} {r0:TA3} (h:
((p0=18446744069414584321∧Us [p1.a0,p1.a1,p1.a2]∧[p1.a0,p1.a1,p1.a2].length≤9223372036854775807)∧let r1:Int:=([p1.a0,p1.a1,p1.a2].foldl (fun s x=>(s+x)%18446744069414584321) 0)
 Md.Loop (p0,r1,(0:Int),p1.a0,p1.a1,p1.a2,(0:Int),(0:Int),(0:Int),(0:Int),(0:Int),(0:Int),()) (kk8 (r0.a0,r0.a1,r0.a2,())))):kq3 (p0,p1.a0,p1.a1,p1.a2,()) (r0.a0,r0.a1,r0.a2,()):=WPh.of_eq (by kernel_rfl) h
def k19w (r0:TA3) (k1:Int→Int→Int→Int→Prop) (s0:Int) (s5:Int) (h0_0:Int) (h0_1:Int) (h0_2:Int) (h1_0:Int) (h1_1:Int) (h1_2:Int) (s7:Int) (h3_0:Int) (h3_1:Int) (h3_2:Int):Prop:=
(decide (s7<3)=true→
(0≤s7∧s7<(3:Int))∧(0≤s7∧s7<(3:Int))∧(s0=18446744069414584321∧U64 (ix [h0_0,h0_1,h0_2] s7)∧U64 s5)∧let r2:Int:=(((ix [h0_0,h0_1,h0_2] s7)+s5)%18446744069414584321)
(0≤s7∧s7<(3:Int))∧(0≤s7∧s7<(3:Int))∧k1 (IntKind.i64.wrap (s7+1):Int) ((bif decide (s7=(0:Int))then r2 else h3_0):Int) ((bif decide (s7=(1:Int))then r2 else h3_1):Int) ((bif decide (s7=(2:Int))then r2 else h3_2):Int))∧
(decide (s7<3)=false→
 h3_0=r0.a0∧h3_1=r0.a1∧h3_2=r0.a2)
theorem k1jz {r0:TA3} {s0:Int} {s5:Int} {h0_0:Int} {h0_1:Int} {h0_2:Int} {h1_0:Int} {h1_1:Int} {h1_2:Int} {s7:Int} {h3_0:Int} {h3_1:Int} {h3_2:Int} (inv:Int→Int→Int→Int→Prop) (μ:Int→Int→Int→Int→Nat) (h0:inv s7 h3_0 h3_1 h3_2) (hs:∀(s7:Int) (h3_0:Int) (h3_1:Int) (h3_2:Int),inv s7 h3_0 h3_1 h3_2→k19w r0 (fun s7q h3_0q h3_1q h3_2q=>inv s7q h3_0q h3_1q h3_2q∧μ s7q h3_0q h3_1q h3_2q<μ s7 h3_0 h3_1 h3_2) s0 s5 h0_0 h0_1 h0_2 h1_0 h1_1 h1_2 s7 h3_0 h3_1 h3_2):Md.Loop (s0,s5,s7,h0_0,h0_1,h0_2,h1_0,h1_1,h1_2,h3_0,h3_1,h3_2,()) (kk8 (r0.a0,r0.a1,r0.a2,())):=
 ⟨⟨fun s:Int×Int×Int×Int×Int×Int×Int×Int×Int×Int×Int×Int×Unit=>(s.1=s0∧s.2.1=s5∧s.2.2.2.1=h0_0∧s.2.2.2.2.1=h0_1∧s.2.2.2.2.2.1=h0_2∧s.2.2.2.2.2.2.1=h1_0∧s.2.2.2.2.2.2.2.1=h1_1∧s.2.2.2.2.2.2.2.2.1=h1_2)∧inv s.2.2.1 s.2.2.2.2.2.2.2.2.2.1 s.2.2.2.2.2.2.2.2.2.2.1 s.2.2.2.2.2.2.2.2.2.2.2.1,fun s:Int×Int×Int×Int×Int×Int×Int×Int×Int×Int×Int×Int×Unit=>μ s.2.2.1 s.2.2.2.2.2.2.2.2.2.1 s.2.2.2.2.2.2.2.2.2.2.1 s.2.2.2.2.2.2.2.2.2.2.2.1,⟨⟨rfl,rfl,rfl,rfl,rfl,rfl,rfl,rfl⟩,h0⟩,fun(s0p,s5p,s7p,h0_0p,h0_1p,h0_2p,h1_0p,h1_1p,h1_2p,h3_0p,h3_1p,h3_2p,()) ⟨⟨eq0,eq1,eq2,eq3,eq4,eq5,eq6,eq7⟩,hi⟩=>by
  have eq0:s0p=s0:=eq0;subst s0p;have eq1:s5p=s5:=eq1;subst s5p;have eq2:h0_0p=h0_0:=eq2;subst h0_0p;have eq3:h0_1p=h0_1:=eq3;subst h0_1p;have eq4:h0_2p=h0_2:=eq4;subst h0_2p;have eq5:h1_0p=h1_0:=eq5;subst h1_0p;have eq6:h1_1p=h1_1:=eq6;subst h1_1p;have eq7:h1_2p=h1_2:=eq7;subst h1_2p;exact mpr_of (by kernel_rfl) ((congrArg (fun k=>k19w r0 k s0 s5 h0_0 h0_1 h0_2 h1_0 h1_1 h1_2 s7p h3_0p h3_1p h3_2p) (lpk4 (⟨rfl,rfl,rfl,rfl,rfl,rfl,rfl,rfl⟩:s0=s0∧s5=s5∧h0_0=h0_0∧h0_1=h0_1∧h0_2=h0_2∧h1_0=h1_0∧h1_1=h1_1∧h1_2=h1_2) inv (fun s7q h3_0q h3_1q h3_2q=>μ s7q h3_0q h3_1q h3_2q<μ s7p h3_0p h3_1p h3_2p))).mpr (hs s7p h3_0p h3_1p h3_2p hi))⟩⟩
theorem bd129:Callable Try.prog 129:=⟨by rw[Try.func129];kernel_rfl,by rw[Try.func129];show some _≠some _;decide⟩
theorem k1jo (p0:Int) (p1:TA3) (h:p0=18446744069414584321∧S3 p1):kq3 (p0,p1.a0,p1.a1,p1.a2,()) (((mixS p1).a0:Int),((mixS p1).a1:Int),((mixS p1).a2:Int),()):=by
 obtain⟨rfl,h0,h1,h2⟩:=h
 have e:[p1.a0,p1.a1,p1.a2].foldl (fun s x=>(s+x)%18446744069414584321) 0=((p1.a0+p1.a1)%18446744069414584321+p1.a2)%18446744069414584321:=by
  show(((0+p1.a0)%18446744069414584321+p1.a1)%18446744069414584321+p1.a2)%18446744069414584321=_
  omega
 refine k1lj (r0:=mixS p1) ⟨⟨rfl,?_,by simp⟩,?_⟩
 ·intro x hx
  simp only[List.mem_cons,List.not_mem_nil,or_false]at hx
  rcases hx with rfl|rfl|rfl
  ·exact h0
  ·exact h1
  ·exact h2
 rw[e]
 have hu:U64 (((p1.a0+p1.a1)%18446744069414584321+p1.a2)%18446744069414584321):=⟨by omega,by omega⟩
 generalize hg:((p1.a0+p1.a1)%18446744069414584321+p1.a2)%18446744069414584321=t at *
 refine k1jz (r0:=mixS p1) (fun i x y z=>(i=0)∨(i=1∧x=(p1.a0+t)%18446744069414584321)∨(i=2∧x=(p1.a0+t)%18446744069414584321∧y=(p1.a1+t)%18446744069414584321)∨(i=3∧x=(p1.a0+t)%18446744069414584321∧y=(p1.a1+t)%18446744069414584321∧z=(p1.a2+t)%18446744069414584321)) (fun i _ _ _=>(3-i).toNat) (.inl rfl) ?_
 intro i x y z hi
 refine⟨fun hh=> ?_,fun hh=> ?_⟩
 ·have hh:=of_decide_eq_true hh
  rcases hi with rfl|⟨rfl,rfl⟩|⟨rfl,rfl,rfl⟩|⟨rfl,_⟩
  ·exact⟨by omega,by omega,⟨rfl,h0,hu⟩,by omega,by omega,.inr (.inl ⟨rfl,rfl⟩),by decide⟩
  ·exact⟨by omega,by omega,⟨rfl,h1,hu⟩,by omega,by omega,.inr (.inr (.inl ⟨rfl,rfl,rfl⟩)),by decide⟩
  ·exact⟨by omega,by omega,⟨rfl,h2,hu⟩,by omega,by omega,.inr (.inr (.inr ⟨rfl,rfl,rfl,rfl⟩)),by decide⟩
  ·omega
 ·have hh:=of_decide_eq_false hh
  rcases hi with rfl|⟨rfl,rfl⟩|⟨rfl,rfl,rfl⟩|⟨rfl,rfl,rfl,rfl⟩
  ·omega
  ·omega
  ·omega
  ·unfold mixS
   rw[hg]
   exact⟨rfl,rfl,rfl⟩
noncomputable def k160:Con TB.den:=k5v.fnR (fun x=>(fun(p0:Int) (p1:TA3)=>p0=18446744069414584321∧S3 p1) x.1 (TA3.mk x.2.1 x.2.2.1 x.2.2.2.1)) fun x=>((fun(p0:Int) (p1:TA3)=>((mixS p1).a0:Int)) x.1 (TA3.mk x.2.1 x.2.2.1 x.2.2.2.1),(fun(p0:Int) (p1:TA3)=>((mixS p1).a1:Int)) x.1 (TA3.mk x.2.1 x.2.2.1 x.2.2.2.1),(fun(p0:Int) (p1:TA3)=>((mixS p1).a2:Int)) x.1 (TA3.mk x.2.1 x.2.2.1 x.2.2.2.1),())
theorem k1lh:k160.Ok Try.prog TB:=Con.ok_fn k5v bd129 fun x h=>k1kr (k1jo x.1 (TA3.mk x.2.1 x.2.2.1 x.2.2.2.1) h)
def k2k:Con TB.den:=Con.mk0 116 [.one (.d (.int .u64)),.agg [.d (.int .u64),.d (.int .u64),.d (.int .u64)]] [] (.one (.agg [.d (.int .u64),.d (.int .u64),.d (.int .u64)])) []
abbrev ky5:=HL TB.den (hsT k2k.ins (hsOs k2k.pre))
abbrev k25:=HL TB.den (hsV k2k.res (hsOs k2k.post))
noncomputable def k3b:Cx TB:=⟨inf,[k7k,kqa,kh3,kr2,k15r,k160],[],4,[]⟩
noncomputable def k4e:Code:=Try.f116.body.getD .skip
noncomputable def kfo:List ResultVar:=Try.f116.results.toList
def kuo (o:k25):=qS TB k3b 38 0 (cB (cB (cB k4e))) .no (retTQ TB k3b k2k kfo o)
def k1e:Tm:=⟨[0,1],[.cells [.d (.int .u64),.d (.int .u64),.d (.int .u64)],.cells [.d (.int .u64),.d (.int .u64),.d (.int .u64)]],[0,3,4,5],[.one (.d (.int .u64)),.one (.ptr 0 0),.one (.ptr 1 0),.one (.d (.int .i64))],2⟩
def k1cj (o:k25) (nx2:NX TB k1e):=qS TB k3b 38 0 (cB (cB (cA (cA (cB (cA (cB (cB k4e)))))))) .no (qM TB 0 k1e nx2 (blockT TB 0 (kuo o)))
def k1bl (o:k25) (nx2:NX TB k1e):=qS TB k3b 38 0 (cB (cA (cA (cB (cA (cA (cB (cA (cB (cB k4e)))))))))) .no (blockT TB 1 (k1cj o nx2))
def k70:Tm:=⟨[0,1],[.cells [.d (.int .u64),.d (.int .u64),.d (.int .u64)],.cells [.d (.int .u64),.d (.int .u64),.d (.int .u64)]],[0,3,4,5,6],[.one (.d (.int .u64)),.one (.ptr 0 0),.one (.ptr 1 0),.one (.d (.int .i64)),.one (.d (.int .i64))],2⟩
def k1bd (o:k25) (nx2:NX TB k1e) (nx1:NX TB k70):=qM TB 0 k70 nx1 (blockT TB 2 (k1bl o nx2))
def kbd (o:k25) (nx2:NX TB k1e) (nx1:NX TB k70) (i:HL TB.den k70.hs):Prop:=WP TB k3b 38 0 (cA (cA (cB (cA (cA (cA (cB (cA (cA (cB (cA (cB (cB k4e))))))))))))) .no (k70.fill TB i) (k1bd o nx2 nx1)
noncomputable def k1au (o:k25) (nx2:NX TB k1e):An TB:= .nd [] .no [] (.lp [] k70 (kbd o nx2) fun nx1=> .no)
noncomputable def kux (o:k25) (nx2:NX TB k1e):An TB:= .nd [] .no [] (.nd [] (.nd [] (k1au o nx2) [] .no) [] .no)
def kap (o:k25) (nx2:NX TB k1e) (i:HL TB.den k1e.hs):Prop:=WP TB k3b 38 0 (cA (cA (cB (cA (cB (cB k4e)))))) (kux o nx2) (k1e.fill TB i) (qM TB 0 k1e nx2 (blockT TB 0 (kuo o)))
noncomputable def k18c (o:k25):An TB:= .lp [] k1e (kap o) fun nx2=>(kux o nx2)
noncomputable def k1ab (o:k25):An TB:= .nd [] .no [] (.nd [] (.nd [] .no [] (k18c o)) [] .no)
noncomputable def kvl (o:k25):An TB:= .nd [] .no [] (k1ab o)
def ki0 (x:ky5) (o:k25):Prop:=WPh TB k3b 38 0 k4e (kvl o) (k2k.st TB x) (retTQ TB k3b k2k kfo o)
theorem k19h (o:k25):OblH TB k3b 38 0 k4e (kvl o) (retTQ TB k3b k2k kfo o):=
 OblH.ofC (X:=((∀nx i,(kap o) nx i=(kap o) nx i)∧(∀nx2:NX TB k1e,((∀nx i,(kbd o nx2) nx i=(kbd o nx2) nx i)∧(∀nx1:NX TB k70,True)∧True))∧True)) (by kernel_rfl) ⟨fun _ _=>rfl,fun _=>⟨fun _ _=>rfl,fun _=>trivial,trivial⟩,trivial⟩
theorem k18d {x:ky5} {o:k25} (h:ki0 x o):k2k.Snd Try.prog x o:=
 Con.soundH (c:=k2k) (C:=k3b) TBok ⟨inf_ok,(all_cons kb4 (all_cons k1ac (all_cons kp4 (all_cons k18g (all_cons k1m4 (all_cons k1lh all_nil)))))),all_nil⟩ mix Try.func116 (show Try.f116.body=some k4e by kernel_rfl) (show Try.f116.ntmps=38 by kernel_rfl) (show Try.f116.results.toList=kfo by kernel_rfl) rfl h (k19h o)
theorem k1at {p0:Int} {p1:TA3} {r0:TA3} (h:
((p0=18446744069414584321)∧((!true)=true→
 0=r0.a0∧0=r0.a1∧0=r0.a2)∧
((!true)=false→
 Md.Loop (p0,(0:Int),p1.a0,p1.a1,p1.a2,(0:Int),(0:Int),(0:Int),()) (kap (r0.a0,r0.a1,r0.a2,()))))):ki0 (p0,p1.a0,p1.a1,p1.a2,()) (r0.a0,r0.a1,r0.a2,()):=WPh.of_eq (by kernel_rfl) h
def kv5 (r0:TA3) (nx2:NX TB k1e) (k2:Int→Int→Int→Int→Prop) (s0:Int) (h1_0:Int) (h1_1:Int) (h1_2:Int) (s5:Int) (h0_0:Int) (h0_1:Int) (h0_2:Int):Prop:=
(decide (s5<8)=true→
 Md.Loop (s0,s5,(0:Int),h0_0,h0_1,h0_2,h1_0,h1_1,h1_2,()) (kbd (r0.a0,r0.a1,r0.a2,()) nx2))∧
(decide (s5<8)=false→
 h0_0=r0.a0∧h0_1=r0.a1∧h0_2=r0.a2)
theorem k18s {r0:TA3} {s0:Int} {h1_0:Int} {h1_1:Int} {h1_2:Int} {s5:Int} {h0_0:Int} {h0_1:Int} {h0_2:Int} (inv:Int→Int→Int→Int→Prop) (μ:Int→Int→Int→Int→Nat) (h0:inv s5 h0_0 h0_1 h0_2) (hs:∀(s5:Int) (h0_0:Int) (h0_1:Int) (h0_2:Int),inv s5 h0_0 h0_1 h0_2→kv5 r0 (fun s:Int×Int×Int×Int×Int×Int×Int×Int×Unit=>((s.1=s0∧s.2.2.2.2.2.1=h1_0∧s.2.2.2.2.2.2.1=h1_1∧s.2.2.2.2.2.2.2.1=h1_2)∧inv s.2.1 s.2.2.1 s.2.2.2.1 s.2.2.2.2.1)∧μ s.2.1 s.2.2.1 s.2.2.2.1 s.2.2.2.2.1<μ s5 h0_0 h0_1 h0_2) (fun s5q h0_0q h0_1q h0_2q=>inv s5q h0_0q h0_1q h0_2q∧μ s5q h0_0q h0_1q h0_2q<μ s5 h0_0 h0_1 h0_2) s0 h1_0 h1_1 h1_2 s5 h0_0 h0_1 h0_2):Md.Loop (s0,s5,h0_0,h0_1,h0_2,h1_0,h1_1,h1_2,()) (kap (r0.a0,r0.a1,r0.a2,())):=
 ⟨⟨fun s:Int×Int×Int×Int×Int×Int×Int×Int×Unit=>(s.1=s0∧s.2.2.2.2.2.1=h1_0∧s.2.2.2.2.2.2.1=h1_1∧s.2.2.2.2.2.2.2.1=h1_2)∧inv s.2.1 s.2.2.1 s.2.2.2.1 s.2.2.2.2.1,fun s:Int×Int×Int×Int×Int×Int×Int×Int×Unit=>μ s.2.1 s.2.2.1 s.2.2.2.1 s.2.2.2.2.1,⟨⟨rfl,rfl,rfl,rfl⟩,h0⟩,fun(s0p,s5p,h0_0p,h0_1p,h0_2p,h1_0p,h1_1p,h1_2p,()) ⟨⟨eq0,eq1,eq2,eq3⟩,hi⟩=>by
  have eq0:s0p=s0:=eq0;subst s0p;have eq1:h1_0p=h1_0:=eq1;subst h1_0p;have eq2:h1_1p=h1_1:=eq2;subst h1_1p;have eq3:h1_2p=h1_2:=eq3;subst h1_2p;exact mpr_of (by kernel_rfl) ((congrArg (fun k=>kv5 r0 (fun s:Int×Int×Int×Int×Int×Int×Int×Int×Unit=>((s.1=s0∧s.2.2.2.2.2.1=h1_0∧s.2.2.2.2.2.2.1=h1_1∧s.2.2.2.2.2.2.2.1=h1_2)∧inv s.2.1 s.2.2.1 s.2.2.2.1 s.2.2.2.2.1)∧μ s.2.1 s.2.2.1 s.2.2.2.1 s.2.2.2.2.1<μ s5p h0_0p h0_1p h0_2p) k s0 h1_0 h1_1 h1_2 s5p h0_0p h0_1p h0_2p) (lpk4 (⟨rfl,rfl,rfl,rfl⟩:s0=s0∧h1_0=h1_0∧h1_1=h1_1∧h1_2=h1_2) inv (fun s5q h0_0q h0_1q h0_2q=>μ s5q h0_0q h0_1q h0_2q<μ s5p h0_0p h0_1p h0_2p))).mpr (hs s5p h0_0p h0_1p h0_2p hi))⟩⟩
def kvm (r0:TA3) (nx2:NX TB k1e) (k1:Int→Int→Int→Int→Prop) (s0:Int) (s5:Int) (h1_0:Int) (h1_1:Int) (h1_2:Int) (s6:Int) (h0_0:Int) (h0_1:Int) (h0_2:Int):Prop:=
(decide (s6<3)=true→
(0≤s6∧s6<(3:Int))∧(0≤s6∧s6<(3:Int))∧(s0=18446744069414584321∧(0≤s5∧s5<8)∧0≤s6∧s6<3)∧(s0=18446744069414584321∧U64 (ix [h0_0,h0_1,h0_2] s6)∧U64 (rc s5 s6))∧let r1:Int:=(((ix [h0_0,h0_1,h0_2] s6)+(rc s5 s6))%18446744069414584321)
(s0=18446744069414584321)∧(s0=18446744069414584321∧U64 r1∧U64 (7:Int))∧(0≤s6∧s6<(3:Int))∧(0≤s6∧s6<(3:Int))∧k1 (IntKind.i64.wrap (s6+1):Int) ((bif decide (s6=(0:Int))then(pw r1 (7:Int))else h0_0):Int) ((bif decide (s6=(1:Int))then(pw r1 (7:Int))else h0_1):Int) ((bif decide (s6=(2:Int))then(pw r1 (7:Int))else h0_2):Int))∧
(decide (s6<3)=false→
(s0=18446744069414584321∧S3 (TA3.mk h0_0 h0_1 h0_2))∧nx2 (s0,(IntKind.i64.wrap (s5+1):Int),((mixS (TA3.mk h0_0 h0_1 h0_2)).a0:Int),((mixS (TA3.mk h0_0 h0_1 h0_2)).a1:Int),((mixS (TA3.mk h0_0 h0_1 h0_2)).a2:Int),h1_0,h1_1,h1_2,()))
theorem k19g {r0:TA3} {nx2:NX TB k1e} {s0:Int} {s5:Int} {h1_0:Int} {h1_1:Int} {h1_2:Int} {s6:Int} {h0_0:Int} {h0_1:Int} {h0_2:Int} (inv:Int→Int→Int→Int→Prop) (μ:Int→Int→Int→Int→Nat) (h0:inv s6 h0_0 h0_1 h0_2) (hs:∀(s6:Int) (h0_0:Int) (h0_1:Int) (h0_2:Int),inv s6 h0_0 h0_1 h0_2→kvm r0 nx2 (fun s6q h0_0q h0_1q h0_2q=>inv s6q h0_0q h0_1q h0_2q∧μ s6q h0_0q h0_1q h0_2q<μ s6 h0_0 h0_1 h0_2) s0 s5 h1_0 h1_1 h1_2 s6 h0_0 h0_1 h0_2):Md.Loop (s0,s5,s6,h0_0,h0_1,h0_2,h1_0,h1_1,h1_2,()) (kbd (r0.a0,r0.a1,r0.a2,()) nx2):=
 ⟨⟨fun s:Int×Int×Int×Int×Int×Int×Int×Int×Int×Unit=>(s.1=s0∧s.2.1=s5∧s.2.2.2.2.2.2.1=h1_0∧s.2.2.2.2.2.2.2.1=h1_1∧s.2.2.2.2.2.2.2.2.1=h1_2)∧inv s.2.2.1 s.2.2.2.1 s.2.2.2.2.1 s.2.2.2.2.2.1,fun s:Int×Int×Int×Int×Int×Int×Int×Int×Int×Unit=>μ s.2.2.1 s.2.2.2.1 s.2.2.2.2.1 s.2.2.2.2.2.1,⟨⟨rfl,rfl,rfl,rfl,rfl⟩,h0⟩,fun(s0p,s5p,s6p,h0_0p,h0_1p,h0_2p,h1_0p,h1_1p,h1_2p,()) ⟨⟨eq0,eq1,eq2,eq3,eq4⟩,hi⟩=>by
  have eq0:s0p=s0:=eq0;subst s0p;have eq1:s5p=s5:=eq1;subst s5p;have eq2:h1_0p=h1_0:=eq2;subst h1_0p;have eq3:h1_1p=h1_1:=eq3;subst h1_1p;have eq4:h1_2p=h1_2:=eq4;subst h1_2p;exact mpr_of (by kernel_rfl) ((congrArg (fun k=>kvm r0 nx2 k s0 s5 h1_0 h1_1 h1_2 s6p h0_0p h0_1p h0_2p) (lpk4 (⟨rfl,rfl,rfl,rfl,rfl⟩:s0=s0∧s5=s5∧h1_0=h1_0∧h1_1=h1_1∧h1_2=h1_2) inv (fun s6q h0_0q h0_1q h0_2q=>μ s6q h0_0q h0_1q h0_2q<μ s6p h0_0p h0_1p h0_2p))).mpr (hs s6p h0_0p h0_1p h0_2p hi))⟩⟩
theorem bd116:Callable Try.prog 116:=⟨by rw[Try.func116];kernel_rfl,by rw[Try.func116];show some _≠some _;decide⟩
theorem k17e (p0:Int) (p1:TA3) (h:p0=18446744069414584321∧S3 p1):ki0 (p0,p1.a0,p1.a1,p1.a2,()) (((permS p1).a0:Int),((permS p1).a1:Int),((permS p1).a2:Int),()):=by
 obtain⟨hP,hs⟩:=h
 subst hP
 refine k1at ⟨rfl,fun h=>by simp at h,fun _=> ?_⟩
 refine k18s (r0:=permS p1) (fun n a b c=>0≤n∧n≤8∧(⟨a,b,c⟩:TA3)=rnds n.toNat p1∧S3 ⟨a,b,c⟩) (fun n _ _ _=>(8-n).toNat) ⟨by omega,by omega,rfl,hs⟩ ?_
 rintro n a b c ⟨g0,g1,g2,g3⟩
 refine⟨fun h=> ?_,fun h=> ?_⟩
 ·have h:=of_decide_eq_true h
  refine k19g (r0:=permS p1) (fun i x y z=>(i=0∧x=a∧y=b∧z=c)∨(i=1∧x=pw ((a+rc n 0)%18446744069414584321) 7∧y=b∧z=c)∨(i=2∧x=pw ((a+rc n 0)%18446744069414584321) 7∧y=pw ((b+rc n 1)%18446744069414584321) 7∧z=c)∨(i=3∧x=pw ((a+rc n 0)%18446744069414584321) 7∧y=pw ((b+rc n 1)%18446744069414584321) 7∧z=pw ((c+rc n 2)%18446744069414584321) 7)) (fun i _ _ _=>(3-i).toNat) (.inl ⟨rfl,rfl,rfl,rfl⟩) ?_
  intro i x y z hi
  have hrc:∀k,U64 (rc n k):=fun k=>by unfold rc;omega
  have hpw:∀k e,0≤pw k e∧pw k e<18446744069414584321:=fun k e=>⟨Int.emod_nonneg _ (by omega),Int.emod_lt_of_pos _ (by omega)⟩
  obtain⟨h3a,h3b,h3c⟩:=g3
  have u7:U64 7:=by decide
  have hm:∀q:Int,U64 (q%18446744069414584321):=fun q=>⟨Int.emod_nonneg _ (by omega),Int.lt_trans (Int.emod_lt_of_pos _ (by omega)) (by omega)⟩
  refine⟨fun hh=> ?_,fun hh=> ?_⟩
  ·have hh:=of_decide_eq_true hh
   rcases hi with⟨rfl,rfl,rfl,rfl⟩|⟨rfl,rfl,rfl,rfl⟩|⟨rfl,rfl,rfl,rfl⟩|⟨rfl,_⟩
   ·exact⟨by omega,by omega,⟨rfl,by omega,by omega⟩,⟨rfl,h3a,hrc _⟩,rfl,⟨rfl,hm _,u7⟩,by omega,by omega,.inr (.inl ⟨rfl,rfl,rfl,rfl⟩),by decide⟩
   ·exact⟨by omega,by omega,⟨rfl,by omega,by omega⟩,⟨rfl,h3b,hrc _⟩,rfl,⟨rfl,hm _,u7⟩,by omega,by omega,.inr (.inr (.inl ⟨rfl,rfl,rfl,rfl⟩)),by decide⟩
   ·exact⟨by omega,by omega,⟨rfl,by omega,by omega⟩,⟨rfl,h3c,hrc _⟩,rfl,⟨rfl,hm _,u7⟩,by omega,by omega,.inr (.inr (.inr ⟨rfl,rfl,rfl,rfl⟩)),by decide⟩
   ·omega
  ·have hh:=of_decide_eq_false hh
   rcases hi with⟨rfl,_⟩|⟨rfl,_⟩|⟨rfl,_⟩|⟨rfl,rfl,rfl,rfl⟩
   ·omega
   ·omega
   ·omega
   ·have e:rnds (n+1).toNat p1=rnd ⟨a,b,c⟩ n:=by
     rw[show(n+1).toNat=n.toNat+1 by omega]
     show rnd (rnds n.toNat p1) (n.toNat:Int)=_
     rw[←g2,show(n.toNat:Int)=n by omega]
    have hS:S3 (rnds (n+1).toNat p1):=by
     rw[e]
     unfold rnd mixS S3
     dsimp only
     omega
    have hinc:IntKind.i64.wrap (n+1)=n+1:=wi _ (by omega) (by omega)
    rw[hinc]
    refine⟨⟨rfl,by unfold S3;have:=hpw ((a+rc n 0)%18446744069414584321) 7;have:=hpw ((b+rc n 1)%18446744069414584321) 7;have:=hpw ((c+rc n 2)%18446744069414584321) 7;dsimp only;omega⟩,⟨⟨rfl,rfl,rfl,rfl⟩,(?_:0≤n+1∧n+1≤8∧_∧_)⟩,(?_:(8-(n+1)).toNat<(8-n).toNat)⟩
    ·refine⟨by omega,by omega,e.symm,?_⟩
     rw[e]at hS
     exact hS
    ·omega
 ·have h:=of_decide_eq_false h
  rw[show n=8 by omega]at g2
  have g2:(⟨a,b,c⟩:TA3)=permS p1:=g2
  rw[←g2]
  exact⟨rfl,rfl,rfl⟩
noncomputable def ks7:Con TB.den:=k2k.fnR (fun x=>(fun(p0:Int) (p1:TA3)=>p0=18446744069414584321∧S3 p1) x.1 (TA3.mk x.2.1 x.2.2.1 x.2.2.2.1)) fun x=>((fun(p0:Int) (p1:TA3)=>((permS p1).a0:Int)) x.1 (TA3.mk x.2.1 x.2.2.1 x.2.2.2.1),(fun(p0:Int) (p1:TA3)=>((permS p1).a1:Int)) x.1 (TA3.mk x.2.1 x.2.2.1 x.2.2.2.1),(fun(p0:Int) (p1:TA3)=>((permS p1).a2:Int)) x.1 (TA3.mk x.2.1 x.2.2.1 x.2.2.2.1),())
theorem k1c9:ks7.Ok Try.prog TB:=Con.ok_fn k2k bd116 fun x h=>k18d (k17e x.1 (TA3.mk x.2.1 x.2.2.1 x.2.2.2.1) h)
def k30:Con TB.den:=Con.mk0 107 [.one (.d (.int .u64)),.one (.d (.int .u64)),.one (.d (.sl (.int .u64)))] [] (.one (.agg [.d (.int .u64),.d (.int .u64),.d (.int .u64)])) []
abbrev k130:=HL TB.den (hsT k30.ins (hsOs k30.pre))
abbrev k1m:=HL TB.den (hsV k30.res (hsOs k30.post))
noncomputable def k31:Cx TB:=⟨inf,[ktk,kh3,ks7],[],4,[]⟩
noncomputable def k4a:Code:=Try.f107.body.getD .skip
noncomputable def khe:List ResultVar:=Try.f107.results.toList
def kno (o:k1m):=qS TB k31 60 0 (cB (cB (cB k4a))) .no (retTQ TB k31 k30 khe o)
def kl:Tm:=⟨[0,1],[.cells [.d (.int .u64),.d (.int .u64),.d (.int .u64)],.cells [.d (.int .u64),.d (.int .u64),.d (.int .u64)]],[0,2,6,7,8],[.one (.d (.int .u64)),.one (.d (.sl (.int .u64))),.one (.ptr 0 0),.one (.ptr 1 0),.one (.d (.int .i64))],2⟩
def kyv (o:k1m) (nx1:NX TB kl):=qS TB k31 60 0 (cB (cB (cA (cA (cB (cA (cB (cB k4a)))))))) .no (qM TB 0 kl nx1 (blockT TB 0 (kno o)))
def kao:Tm:=⟨[0,1],[.cells [.d (.int .u64),.d (.int .u64),.d (.int .u64)],.cells [.d (.int .u64),.d (.int .u64),.d (.int .u64)]],[0,2,6,7,8],[.one (.d (.int .u64)),.one (.d (.sl (.int .u64))),.one (.ptr 0 0),.one (.ptr 1 0),.one (.d (.int .i64))],2⟩
def kvp (o:k1m) (nx1:NX TB kl) (i:HL TB.den kao.hs):Prop:=ghs TB [] (kao.fill TB i) fun s=>WP TB k31 60 0 (cB (cB (cA (cA (cB (cA (cA (cB (cA (cB (cB k4a))))))))))) .no s (blockT TB 1 (kyv o nx1))
structure k7n (o:k1m) (nx1:NX TB kl) (i:HL TB.den kao.hs):Prop where
 h:kvp o nx1 i
def kfh:Tm:=⟨[0,1],[.cells [.d (.int .u64),.d (.int .u64),.d (.int .u64)],.cells [.d (.int .u64),.d (.int .u64),.d (.int .u64)]],[0,2,6,7,8],[.one (.d (.int .u64)),.one (.d (.sl (.int .u64))),.one (.ptr 0 0),.one (.ptr 1 0),.one (.d (.int .i64))],2⟩
def kut (o:k1m) (nx1:NX TB kl) (i:HL TB.den kfh.hs):Prop:=ghs TB [] (kfh.fill TB i) fun s=>WP TB k31 60 0 (cB (cA (cA (cB (cA (cA (cB (cA (cB (cB k4a)))))))))) (.jn kao (k7n o nx1) [] .no [] .no) s (blockT TB 1 (kyv o nx1))
structure kcs (o:k1m) (nx1:NX TB kl) (i:HL TB.den kfh.hs):Prop where
 h:kut o nx1 i
noncomputable def ky2 (o:k1m) (nx1:NX TB kl):An TB:= .jn kfh (kcs o nx1) [] .no [] (.jn kao (k7n o nx1) [] .no [] .no)
def kfq:Tm:=⟨[0,1],[.cells [.d (.int .u64),.d (.int .u64),.d (.int .u64)],.cells [.d (.int .u64),.d (.int .u64),.d (.int .u64)]],[0,2,6,7,8],[.one (.d (.int .u64)),.one (.d (.sl (.int .u64))),.one (.ptr 0 0),.one (.ptr 1 0),.one (.d (.int .i64))],2⟩
def kvr (o:k1m) (nx1:NX TB kl) (i:HL TB.den kfq.hs):Prop:=ghs TB [] (kfq.fill TB i) fun s=>WP TB k31 60 0 (cB (cA (cA (cB (cA (cB (cB k4a))))))) (.nd [] (ky2 o nx1) [] .no) s (qM TB 0 kl nx1 (blockT TB 0 (kno o)))
structure k9s (o:k1m) (nx1:NX TB kl) (i:HL TB.den kfq.hs):Prop where
 h:kvr o nx1 i
noncomputable def kyb (o:k1m) (nx1:NX TB kl):An TB:= .jn kfq (k9s o nx1) [] .no [] (.nd [] (ky2 o nx1) [] .no)
def kcj (o:k1m) (nx1:NX TB kl) (i:HL TB.den kl.hs):Prop:=WP TB k31 60 0 (cA (cA (cB (cA (cB (cB k4a)))))) (kyb o nx1) (kl.fill TB i) (qM TB 0 kl nx1 (blockT TB 0 (kno o)))
noncomputable def k1f6 (o:k1m):An TB:= .lp [] kl (kcj o) fun nx1=>(kyb o nx1)
noncomputable def k1e5 (o:k1m):An TB:= .nd [] .no [] (.nd [] (.nd [] .no [] (k1f6 o)) [] .no)
noncomputable def kz4 (o:k1m):An TB:= .nd [] .no [] (k1e5 o)
def kkc (x:k130) (o:k1m):Prop:=WPh TB k31 60 0 k4a (kz4 o) (k30.st TB x) (retTQ TB k31 k30 khe o)
theorem k1as (o:k1m):OblH TB k31 60 0 k4a (kz4 o) (retTQ TB k31 k30 khe o):=
 OblH.ofC (X:=((∀nx i,(kcj o) nx i=(kcj o) nx i)∧(∀nx1:NX TB kl,((∀i,(k9s o nx1) i=kvr o nx1 i)∧(∀i,(kcs o nx1) i=kut o nx1 i)∧(∀i,(k7n o nx1) i=kvp o nx1 i)∧True))∧True)) (by kernel_rfl) ⟨fun _ _=>rfl,fun _=>⟨fun _=>propext ⟨fun h=>h.1,fun h=>⟨h⟩⟩,fun _=>propext ⟨fun h=>h.1,fun h=>⟨h⟩⟩,fun _=>propext ⟨fun h=>h.1,fun h=>⟨h⟩⟩,trivial⟩,trivial⟩
theorem k1c0 {x:k130} {o:k1m} (h:kkc x o):k30.Snd Try.prog x o:=
 Con.soundH (c:=k30) (C:=k31) TBok ⟨inf_ok,(all_cons k1a3 (all_cons kp4 (all_cons k1c9 all_nil))),all_nil⟩ mix Try.func107 (show Try.f107.body=some k4a by kernel_rfl) (show Try.f107.ntmps=60 by kernel_rfl) (show Try.f107.results.toList=khe by kernel_rfl) rfl h (k1as o)
theorem k1g3 {p0:Int} {p1:Int} {p2:List Int} {r0:TA3} (h:
((p0=18446744069414584321∧U64 p1∧U64 (65536:Int))∧let r1:Int:=(p1*(65536:Int)%18446744069414584321)
(p0=18446744069414584321∧U64 r1∧U64 (IntKind.u64.wrap (p2.length:Int)))∧let r2:Int:=((r1+(IntKind.u64.wrap (p2.length:Int)))%18446744069414584321)
 Md.Loop (p0,p2,(0:Int),(0:Int),(0:Int),(0:Int),(0:Int),(0:Int),r2,()) (kcj (r0.a0,r0.a1,r0.a2,())))):kkc (p0,p1,p2,()) (r0.a0,r0.a1,r0.a2,()):=WPh.of_eq (by kernel_rfl) h
theorem k16q {r0:TA3} {nx1:NX TB kl} {s0:Int} {s2:List Int} {s8:Int} {h0_0:Int} {h0_1:Int} {h0_2:Int} {h1_0:Int} {h1_1:Int} {h1_2:Int} (h:
((decide (s8<(s2.length:Int))=true→
(0≤s8)∧s8<(s2.length:Int)∧(s0=18446744069414584321∧U64 h1_0∧U64 (ix s2 s8))∧let r3:Int:=((h1_0+(ix s2 s8))%18446744069414584321)
 kcs (r0.a0,r0.a1,r0.a2,()) nx1 (s0,s2,s8,h0_0,h0_1,h0_2,r3,h1_1,h1_2,()))∧
(decide (s8<(s2.length:Int))=false→
 kcs (r0.a0,r0.a1,r0.a2,()) nx1 (s0,s2,s8,h0_0,h0_1,h0_2,h1_0,h1_1,h1_2,())))):k9s (r0.a0,r0.a1,r0.a2,()) nx1 (s0,s2,s8,h0_0,h0_1,h0_2,h1_0,h1_1,h1_2,()):=⟨mpr_of (by kernel_rfl) h⟩
theorem kqw {r0:TA3} {nx1:NX TB kl} {s0:Int} {s2:List Int} {s8:Int} {h0_0:Int} {h0_1:Int} {h0_2:Int} {h1_0:Int} {h1_1:Int} {h1_2:Int} (h:
(let v4:Bool:=decide ((IntKind.i64.wrap (s8+1))<(s2.length:Int))
(v4=true→
(0≤IntKind.i64.wrap (s8+1))∧IntKind.i64.wrap (s8+1)<(s2.length:Int)∧(s0=18446744069414584321∧U64 h1_1∧U64 (ix s2 (IntKind.i64.wrap (s8+1))))∧let r5:Int:=((h1_1+(ix s2 (IntKind.i64.wrap (s8+1))))%18446744069414584321)
 k7n (r0.a0,r0.a1,r0.a2,()) nx1 (s0,s2,s8,h0_0,h0_1,h0_2,h1_0,r5,h1_2,()))∧
(v4=false→
 k7n (r0.a0,r0.a1,r0.a2,()) nx1 (s0,s2,s8,h0_0,h0_1,h0_2,h1_0,h1_1,h1_2,())))):kcs (r0.a0,r0.a1,r0.a2,()) nx1 (s0,s2,s8,h0_0,h0_1,h0_2,h1_0,h1_1,h1_2,()):=⟨mpr_of (by kernel_rfl) h⟩
theorem k16z {r0:TA3} {nx1:NX TB kl} {s0:Int} {s2:List Int} {s8:Int} {h0_0:Int} {h0_1:Int} {h0_2:Int} {h1_0:Int} {h1_1:Int} {h1_2:Int} (h:
((s0=18446744069414584321∧S3 (TA3.mk h1_0 h1_1 h1_2))∧nx1 (s0,s2,(IntKind.i64.wrap (s8+2):Int),h0_0,h0_1,h0_2,((permS (TA3.mk h1_0 h1_1 h1_2)).a0:Int),((permS (TA3.mk h1_0 h1_1 h1_2)).a1:Int),((permS (TA3.mk h1_0 h1_1 h1_2)).a2:Int),()))):k7n (r0.a0,r0.a1,r0.a2,()) nx1 (s0,s2,s8,h0_0,h0_1,h0_2,h1_0,h1_1,h1_2,()):=⟨mpr_of (by kernel_rfl) h⟩
def kyw (r0:TA3) (nx1:NX TB kl) (k1:Int→Int→Int→Int→Prop) (s0:Int) (s2:List Int) (h0_0:Int) (h0_1:Int) (h0_2:Int) (s8:Int) (h1_0:Int) (h1_1:Int) (h1_2:Int):Prop:=
((s8==0)=true→
 k9s (r0.a0,r0.a1,r0.a2,()) nx1 (s0,s2,s8,h0_0,h0_1,h0_2,h1_0,h1_1,h1_2,()))∧
((s8==0)=false→
(decide (s8<(s2.length:Int))=true→
 k9s (r0.a0,r0.a1,r0.a2,()) nx1 (s0,s2,s8,h0_0,h0_1,h0_2,h1_0,h1_1,h1_2,()))∧
(decide (s8<(s2.length:Int))=false→
 h1_0=r0.a0∧h1_1=r0.a1∧h1_2=r0.a2))
theorem k1be {r0:TA3} {s0:Int} {s2:List Int} {h0_0:Int} {h0_1:Int} {h0_2:Int} {s8:Int} {h1_0:Int} {h1_1:Int} {h1_2:Int} (inv:Int→Int→Int→Int→Prop) (μ:Int→Int→Int→Int→Nat) (h0:inv s8 h1_0 h1_1 h1_2) (hs:∀(s8:Int) (h1_0:Int) (h1_1:Int) (h1_2:Int),inv s8 h1_0 h1_1 h1_2→kyw r0 (fun s:Int×(List Int)×Int×Int×Int×Int×Int×Int×Int×Unit=>((s.1=s0∧s.2.1=s2∧s.2.2.2.1=h0_0∧s.2.2.2.2.1=h0_1∧s.2.2.2.2.2.1=h0_2)∧inv s.2.2.1 s.2.2.2.2.2.2.1 s.2.2.2.2.2.2.2.1 s.2.2.2.2.2.2.2.2.1)∧μ s.2.2.1 s.2.2.2.2.2.2.1 s.2.2.2.2.2.2.2.1 s.2.2.2.2.2.2.2.2.1<μ s8 h1_0 h1_1 h1_2) (fun s8q h1_0q h1_1q h1_2q=>inv s8q h1_0q h1_1q h1_2q∧μ s8q h1_0q h1_1q h1_2q<μ s8 h1_0 h1_1 h1_2) s0 s2 h0_0 h0_1 h0_2 s8 h1_0 h1_1 h1_2):Md.Loop (s0,s2,s8,h0_0,h0_1,h0_2,h1_0,h1_1,h1_2,()) (kcj (r0.a0,r0.a1,r0.a2,())):=
 ⟨⟨fun s:Int×(List Int)×Int×Int×Int×Int×Int×Int×Int×Unit=>(s.1=s0∧s.2.1=s2∧s.2.2.2.1=h0_0∧s.2.2.2.2.1=h0_1∧s.2.2.2.2.2.1=h0_2)∧inv s.2.2.1 s.2.2.2.2.2.2.1 s.2.2.2.2.2.2.2.1 s.2.2.2.2.2.2.2.2.1,fun s:Int×(List Int)×Int×Int×Int×Int×Int×Int×Int×Unit=>μ s.2.2.1 s.2.2.2.2.2.2.1 s.2.2.2.2.2.2.2.1 s.2.2.2.2.2.2.2.2.1,⟨⟨rfl,rfl,rfl,rfl,rfl⟩,h0⟩,fun(s0p,s2p,s8p,h0_0p,h0_1p,h0_2p,h1_0p,h1_1p,h1_2p,()) ⟨⟨eq0,eq1,eq2,eq3,eq4⟩,hi⟩=>by
  have eq0:s0p=s0:=eq0;subst s0p;have eq1:s2p=s2:=eq1;subst s2p;have eq2:h0_0p=h0_0:=eq2;subst h0_0p;have eq3:h0_1p=h0_1:=eq3;subst h0_1p;have eq4:h0_2p=h0_2:=eq4;subst h0_2p;exact mpr_of (by kernel_rfl) ((congrArg (fun k=>kyw r0 (fun s:Int×(List Int)×Int×Int×Int×Int×Int×Int×Int×Unit=>((s.1=s0∧s.2.1=s2∧s.2.2.2.1=h0_0∧s.2.2.2.2.1=h0_1∧s.2.2.2.2.2.1=h0_2)∧inv s.2.2.1 s.2.2.2.2.2.2.1 s.2.2.2.2.2.2.2.1 s.2.2.2.2.2.2.2.2.1)∧μ s.2.2.1 s.2.2.2.2.2.2.1 s.2.2.2.2.2.2.2.1 s.2.2.2.2.2.2.2.2.1<μ s8p h1_0p h1_1p h1_2p) k s0 s2 h0_0 h0_1 h0_2 s8p h1_0p h1_1p h1_2p) (lpk4 (⟨rfl,rfl,rfl,rfl,rfl⟩:s0=s0∧s2=s2∧h0_0=h0_0∧h0_1=h0_1∧h0_2=h0_2) inv (fun s8q h1_0q h1_1q h1_2q=>μ s8q h1_0q h1_1q h1_2q<μ s8p h1_0p h1_1p h1_2p))).mpr (hs s8p h1_0p h1_1p h1_2p hi))⟩⟩
theorem bd107:Callable Try.prog 107:=⟨by rw[Try.func107];kernel_rfl,by rw[Try.func107];show some _≠some _;decide⟩
theorem k1a6 (p0:Int) (p1:Int) (p2:List Int) (h:p0=18446744069414584321∧U64 p1∧Us p2∧p2.length≤1099511627776):kkc (p0,p1,p2,()) (((absS p1 p2).a0:Int),((absS p1 p2).a1:Int),((absS p1 p2).a2:Int),()):=by
 obtain⟨hP,h1,h2,h3⟩:=h
 subst hP
 have hp:=kct
 have hi:S3 (absI p1 p2):=by unfold absI S3;dsimp only;omega
 have e:IntKind.u64.wrap (p2.length:Int)=p2.length:=wu _ (by omega) (by omega)
 have em:(p1*65536%18446744069414584321+(p2.length:Int))%18446744069414584321=(absI p1 p2).a2:=rfl
 refine k1g3 ?_
 rw[e]
 refine⟨⟨rfl,h1,by omega⟩,⟨rfl,by omega,by omega⟩,?_⟩
 rw[em]
 have j3:∀nx (i x y z:Int),0≤i→i≤p2.length→S3 ⟨x,y,z⟩→nx ((18446744069414584321:Int),p2,(i+2:Int),(0:Int),(0:Int),(0:Int),(permS ⟨x,y,z⟩).a0,(permS ⟨x,y,z⟩).a1,(permS ⟨x,y,z⟩).a2,())→k7n ((absS p1 p2).a0,(absS p1 p2).a1,(absS p1 p2).a2,()) nx ((18446744069414584321:Int),p2,i,(0:Int),(0:Int),(0:Int),x,y,z,()):=by
  intro nx i x y z g0 g1 hS hn
  refine k16z (r0:=absS p1 p2) ?_
  rw[wi (i+2) (by omega) (by omega)]
  exact⟨⟨rfl,hS⟩,hn⟩
 refine k1be (r0:=absS p1 p2) (fun i a b c=>(i=0∧a=0∧b=0∧c=(absI p1 p2).a2)∨(0<i∧i≤p2.length+2∧absL (p2.drop i.toNat) ⟨a,b,c⟩=absS p1 p2∧S3 ⟨a,b,c⟩)) (fun i _ _ _=>(p2.length+4-i).toNat) (.inl ⟨rfl,rfl,rfl,rfl⟩) ?_
 intro i a b c hg
 have body:∀(i:Int) (a b c:Int),0≤i→i≤p2.length→(i<p2.length→absL (p2.drop i.toNat) ⟨a,b,c⟩=absS p1 p2)→(¬i<p2.length→permS ⟨a,b,c⟩=absS p1 p2)→S3 ⟨a,b,c⟩→∀nx,(∀x y z,absL (p2.drop (i+2).toNat) ⟨x,y,z⟩=absS p1 p2→S3 ⟨x,y,z⟩→nx ((18446744069414584321:Int),p2,(i+2:Int),(0:Int),(0:Int),(0:Int),x,y,z,()))→
   k9s ((absS p1 p2).a0,(absS p1 p2).a1,(absS p1 p2).a2,()) nx ((18446744069414584321:Int),p2,i,(0:Int),(0:Int),(0:Int),a,b,c,()):=by
  intro i a b c g0 g1 hne hnil hS nx hn
  obtain⟨h3a,h3b,h3c⟩:=hS
  refine k16q (r0:=absS p1 p2) ⟨fun hh=> ?_,fun hh=> ?_⟩
  ·have hh:=of_decide_eq_true hh
   have hx:=h2 _ (ix_mem p2 i g0 hh)
   have g2:=hne hh
   rw[drop_ix p2 i g0 hh]at g2
   refine⟨g0,hh,⟨rfl,h3a,hx⟩,kqw (r0:=absS p1 p2) ?_⟩
   rw[wi (i+1) (by omega) (by omega)]
   refine⟨fun h5=> ?_,fun h5=> ?_⟩
   ·have h5:=of_decide_eq_true h5
    have hy:=h2 _ (ix_mem p2 (i+1) (by omega) h5)
    rw[drop_ix p2 (i+1) (by omega) h5,show i+1+1=i+2 by omega]at g2
    exact⟨by omega,h5,⟨rfl,h3b,hy⟩,j3 _ _ _ _ _ g0 g1 (S3m (by omega) (by omega) h3c) (hn _ _ _ g2 (hp _))⟩
   ·have h5:=of_decide_eq_false h5
    have ed:p2.drop (i+1).toNat=[]:=List.drop_eq_nil_of_le (by omega)
    have ed2:p2.drop (i+2).toNat=[]:=List.drop_eq_nil_of_le (by omega)
    rw[ed]at g2
    exact j3 _ _ _ _ _ g0 g1 (S3m (by omega) h3b h3c) (hn _ _ _ (by rw[ed2];exact g2) (hp _))
  ·have hh:=of_decide_eq_false hh
   refine kqw (r0:=absS p1 p2) ?_
   rw[wi (i+1) (by omega) (by omega)]
   refine⟨fun h5=> ?_,fun h5=> ?_⟩
   ·have h5:=of_decide_eq_true h5
    omega
   ·have ed2:p2.drop (i+2).toNat=[]:=List.drop_eq_nil_of_le (by omega)
    exact j3 _ _ _ _ _ g0 g1 (S3m h3a h3b h3c) (hn _ _ _ (by rw[ed2];exact hnil hh) (hp _))
 refine⟨fun h0=> ?_,fun h0=>⟨fun hh=> ?_,fun hh=> ?_⟩⟩
 ·have h0:i=0:=by simpa using h0
  rcases hg with⟨_,rfl,rfl,rfl⟩|⟨hp0,_⟩
  ·subst h0
   refine body 0 _ _ _ (by omega) (by omega) (fun hl=> ?_) (fun hl=> ?_) hi _ fun x y z k1 k2=>⟨⟨⟨rfl,rfl,rfl,rfl,rfl⟩,.inr ⟨(by omega:(0:Int)<0+2),(by omega:(0:Int)+2≤p2.length+2),k1,k2⟩⟩,(by omega:(p2.length+4-((0:Int)+2)).toNat<(p2.length+4-0:Int).toNat)⟩
   ·have hne:p2≠[]:=by rintro rfl;simp at hl
    unfold absS
    rw[if_neg hne]
    rfl
   ·have hnil:p2=[]:=List.eq_nil_of_length_eq_zero (by omega)
    unfold absS
    rw[if_pos hnil]
    rfl
  ·omega
 ·have h0:¬i=0:=by simpa using h0
  have hh:=of_decide_eq_true hh
  rcases hg with⟨h1,_⟩|⟨g0,g1,g2,g3⟩
  ·omega
  ·exact body i _ _ _ (by omega) (by omega) (fun _=>g2) (fun hl=>absurd hh hl) g3 _ fun x y z k1 k2=>⟨⟨⟨rfl,rfl,rfl,rfl,rfl⟩,.inr ⟨(by omega:0<i+2),(by omega:i+2≤p2.length+2),k1,k2⟩⟩,(by omega:(p2.length+4-(i+2)).toNat<(p2.length+4-i).toNat)⟩
 ·have h0:¬i=0:=by simpa using h0
  have hh:=of_decide_eq_false hh
  rcases hg with⟨h1,_⟩|⟨g0,g1,g2,g3⟩
  ·omega
  ·rw[List.drop_eq_nil_of_le (by omega)]at g2
   have hv:(⟨a,b,c⟩:TA3)=absS p1 p2:=g2
   rw[←hv]
   exact⟨rfl,rfl,rfl⟩
noncomputable def kw6:Con TB.den:=k30.fnR (fun x=>(fun(p0:Int) (p1:Int) (p2:List Int)=>p0=18446744069414584321∧U64 p1∧Us p2∧p2.length≤1099511627776) x.1 x.2.1 x.2.2.1) fun x=>((fun(p0:Int) (p1:Int) (p2:List Int)=>((absS p1 p2).a0:Int)) x.1 x.2.1 x.2.2.1,(fun(p0:Int) (p1:Int) (p2:List Int)=>((absS p1 p2).a1:Int)) x.1 x.2.1 x.2.2.1,(fun(p0:Int) (p1:Int) (p2:List Int)=>((absS p1 p2).a2:Int)) x.1 x.2.1 x.2.2.1,())
theorem k1f4:kw6.Ok Try.prog TB:=Con.ok_fn k30 bd107 fun x h=>k1c0 (k1a6 x.1 x.2.1 x.2.2.1 h)
def k5p:Con TB.den:=Con.mk0 87 [.one (.d (.int .u64)),.one (.d (.int .u64)),.one (.d (.sl (.int .u64)))] [] (.one (.one (.d (.int .u64)))) []
abbrev k18l:=HL TB.den (hsT k5p.ins (hsOs k5p.pre))
abbrev kpi:=HL TB.den (hsV k5p.res (hsOs k5p.post))
noncomputable def kh1:Cx TB:=⟨inf,[k7k,kw6],[],4,[]⟩
noncomputable def knj:Code:=Try.f87.body.getD .skip
noncomputable def kt2:List ResultVar:=Try.f87.results.toList
noncomputable def k15b (o:kpi):An TB:= .no
def knt (x:k18l) (o:kpi):Prop:=WPh TB kh1 15 0 knj (k15b o) (k5p.st TB x) (retTQ TB kh1 k5p kt2 o)
theorem k1jh (o:kpi):OblH TB kh1 15 0 knj (k15b o) (retTQ TB kh1 k5p kt2 o):=
 OblH.ofC (X:=True) (by kernel_rfl) trivial
theorem k1hh {x:k18l} {o:kpi} (h:knt x o):k5p.Snd Try.prog x o:=
 Con.soundH (c:=k5p) (C:=kh1) TBok ⟨inf_ok,(all_cons kb4 (all_cons k1f4 all_nil)),all_nil⟩ mix Try.func87 (show Try.f87.body=some knj by kernel_rfl) (show Try.f87.ntmps=15 by kernel_rfl) (show Try.f87.results.toList=kt2 by kernel_rfl) rfl h (k1jh o)
theorem k1k8 {p0:Int} {p1:Int} {p2:List Int} {r0:Int} (h:
((p0=18446744069414584321)∧((!true)=true→
 0=r0)∧
((!true)=false→
(p0=18446744069414584321∧U64 p1∧Us p2∧p2.length≤1099511627776)∧(absS p1 p2).a0=r0))):knt (p0,p1,p2,()) (r0,()):=WPh.of_eq (by kernel_rfl) h
theorem bd87:Callable Try.prog 87:=⟨by rw[Try.func87];kernel_rfl,by rw[Try.func87];show some _≠some _;decide⟩
theorem k1fi (p0:Int) (p1:Int) (p2:List Int) (h:p0=18446744069414584321∧U64 p1∧Us p2∧p2.length≤1099511627776):knt (p0,p1,p2,()) (((hashS p1 p2):Int),()):=by
 obtain⟨hP,h1,h2,h3⟩:=h
 subst hP
 exact k1k8 ⟨rfl,fun h=>by simp at h,fun _=>⟨⟨rfl,h1,h2,h3⟩,rfl⟩⟩
noncomputable def kef:Con TB.den:=k5p.fnR (fun x=>(fun(p0:Int) (p1:Int) (p2:List Int)=>p0=18446744069414584321∧U64 p1∧Us p2∧p2.length≤1099511627776) x.1 x.2.1 x.2.2.1) fun x=>((fun(p0:Int) (p1:Int) (p2:List Int)=>((hashS p1 p2):Int)) x.1 x.2.1 x.2.2.1,())
theorem kmb:kef.Ok Try.prog TB:=Con.ok_fn k5p bd87 fun x h=>k1hh (k1fi x.1 x.2.1 x.2.2.1 h)
def k50:Con TB.den:=Con.mk0 90 [.one (.d (.int .u64)),.one (.d (.sl (.int .u64)))] [] (.one (.one (.d (.int .u64)))) []
abbrev k198:=HL TB.den (hsT k50.ins (hsOs k50.pre))
abbrev ka5:=HL TB.den (hsV k50.res (hsOs k50.post))
noncomputable def k8h:Cx TB:=⟨inf,[kef],[],4,[]⟩
noncomputable def kci:Code:=Try.f90.body.getD .skip
noncomputable def kmd:List ResultVar:=Try.f90.results.toList
def k1ke (o:ka5):=qS TB k8h 25 0 (cB (cB (cB kci))) .no (retTQ TB k8h k50 kmd o)
def kcu:Tm:=⟨[1],[.tip (.int .u64)],[0,1,5,6],[.one (.d (.int .u64)),.one (.d (.sl (.int .u64))),.one (.own 0),.one (.d (.int .i64))],2⟩
def kgm (o:ka5) (nx1:NX TB kcu) (i:HL TB.den kcu.hs):Prop:=WP TB k8h 25 0 (cA (cA (cB (cA (cB (cB kci)))))) .no (kcu.fill TB i) (qM TB 0 kcu nx1 (blockT TB 0 (k1ke o)))
noncomputable def k1l0 (o:ka5):An TB:= .lp [.tok 5 (.int .u64)] kcu (kgm o) fun nx1=> .no
noncomputable def k1kq (o:ka5):An TB:= .nd [] .no [] (.nd [] (.nd [] .no [] (k1l0 o)) [] .no)
noncomputable def k15z (o:ka5):An TB:= .nd [] .no [] (k1kq o)
def kns (x:k198) (o:ka5):Prop:=WPh TB k8h 25 0 kci (k15z o) (k50.st TB x) (retTQ TB k8h k50 kmd o)
theorem k1ih (o:ka5):OblH TB k8h 25 0 kci (k15z o) (retTQ TB k8h k50 kmd o):=
 OblH.ofC (X:=((∀nx i,(kgm o) nx i=(kgm o) nx i)∧(∀nx1:NX TB kcu,True)∧True)) (by kernel_rfl) ⟨fun _ _=>rfl,fun _=>trivial,trivial⟩
theorem k1gc {x:k198} {o:ka5} (h:kns x o):k50.Snd Try.prog x o:=
 Con.soundH (c:=k50) (C:=k8h) TBok ⟨inf_ok,(all_cons kmb all_nil),all_nil⟩ mix Try.func90 (show Try.f90.body=some kci by kernel_rfl) (show Try.f90.ntmps=25 by kernel_rfl) (show Try.f90.results.toList=kmd by kernel_rfl) rfl h (k1ih o)
theorem k1l4 {p0:Int} {p1:List Int} {r0:Int} (h:
((([]:List Int)=([]:List Int))∧Md.Loop (p0,p1,(0:Int),(([]:List Int):List Int),()) (kgm (r0,())))):kns (p0,p1,()) (r0,()):=WPh.of_eq (by kernel_rfl) h
def k155 (r0:Int) (k1:Int→List Int→Prop) (s0:Int) (s1:List Int) (s6:Int) (g1:List Int):Prop:=
(decide (s6<(s1.length:Int))=true→
(0≤s6)∧s6<(s1.length:Int)∧g1.length=g1.length∧(g1.length+[Int.tmod (ix s1 s6) 18446744069414584321].length)*8≤140737488355328∧g1.length+[Int.tmod (ix s1 s6) 18446744069414584321].length≤maxLen∧let v1:List Int:=g1++[Int.tmod (ix s1 s6) 18446744069414584321]
(v1=v1)∧k1 (IntKind.i64.wrap (s6+1):Int) v1)∧
(decide (s6<(s1.length:Int))=false→
((18446744069414584321:Int)=18446744069414584321∧U64 s0∧Us g1∧g1.length≤1099511627776)∧(hashS s0 g1)=r0)
theorem k1ic {r0:Int} {s0:Int} {s1:List Int} {s6:Int} {g1:List Int} (inv:Int→List Int→Prop) (μ:Int→List Int→Nat) (h0:inv s6 g1) (hs:∀(s6:Int) (g1:List Int),inv s6 g1→k155 r0 (fun s6q g1q=>inv s6q g1q∧μ s6q g1q<μ s6 g1) s0 s1 s6 g1):Md.Loop (s0,s1,s6,g1,()) (kgm (r0,())):=
 ⟨⟨fun s:Int×(List Int)×Int×(List Int)×Unit=>(s.1=s0∧s.2.1=s1)∧inv s.2.2.1 s.2.2.2.1,fun s:Int×(List Int)×Int×(List Int)×Unit=>μ s.2.2.1 s.2.2.2.1,⟨⟨rfl,rfl⟩,h0⟩,fun(s0p,s1p,s6p,g1p,()) ⟨⟨eq0,eq1⟩,hi⟩=>by
  have eq0:s0p=s0:=eq0;subst s0p;have eq1:s1p=s1:=eq1;subst s1p;exact mpr_of (by kernel_rfl) ((congrArg (fun k=>k155 r0 k s0 s1 s6p g1p) (lpk2 (⟨rfl,rfl⟩:s0=s0∧s1=s1) inv (fun s6q g1q=>μ s6q g1q<μ s6p g1p))).mpr (hs s6p g1p hi))⟩⟩
theorem bd90:Callable Try.prog 90:=⟨by rw[Try.func90];kernel_rfl,by rw[Try.func90];show some _≠some _;decide⟩
theorem k1fk (p0:Int) (p1:List Int) (h:U64 p0∧Us p1∧(∀x∈p1,x<18446744069414584321)∧p1.length≤1073741824):kns (p0,p1,()) (((hashS p0 p1):Int),()):=by
 obtain⟨h0,h1,h2,h3⟩:=h
 refine k1l4 ⟨by trivial,k1ic (fun i g=>MapI (fun x=>x) p1 i g) (fun i _=>(p1.length-i).toNat) MapI.start ?_⟩
 intro i g hg
 have hl:=hg.len
 refine⟨fun hh=> ?_,fun hh=> ?_⟩
 ·have hh:=of_decide_eq_true hh
  have hx:=h1 _ (ix_mem p1 i hg.1 hh)
  have hx2:=h2 _ (ix_mem p1 i hg.1 hh)
  have e:Int.tmod (ix p1 i) 18446744069414584321=ix p1 i:=by rw[tmod_nn _ _ hx.1];omega
  rw[e]
  have:=hg.1
  exact⟨hg.1,hh,rfl,by simp;omega,by simp;unfold maxLen;omega,by trivial,hg.next hh (by omega) rfl⟩
 ·have e:=hg.done (of_decide_eq_false hh)
  rw[List.map_id']at e
  subst e
  exact⟨⟨rfl,h0,h1,by omega⟩,rfl⟩
noncomputable def kqs:Con TB.den:=k50.fnR (fun x=>(fun(p0:Int) (p1:List Int)=>U64 p0∧Us p1∧(∀x∈p1,x<18446744069414584321)∧p1.length≤1073741824) x.1 x.2.1) fun x=>((fun(p0:Int) (p1:List Int)=>((hashS p0 p1):Int)) x.1 x.2.1,())
theorem k162:kqs.Ok Try.prog TB:=Con.ok_fn k50 bd90 fun x h=>k1gc (k1fk x.1 x.2.1 h)
def k37:Con TB.den:=Con.mk0 45 [.one (.d (.int .u64))] [] (.one (.one (.d (.int .u64)))) []
abbrev kyk:=HL TB.den (hsT k37.ins (hsOs k37.pre))
abbrev khf:=HL TB.den (hsV k37.res (hsOs k37.post))
noncomputable def kbn:Cx TB:=⟨inf,[kqs],[],4,[]⟩
noncomputable def khh:Code:=Try.f45.body.getD .skip
noncomputable def klg:List ResultVar:=Try.f45.results.toList
noncomputable def kvd (o:khf):An TB:= .no
def khq (x:kyk) (o:khf):Prop:=WPh TB kbn 6 0 khh (kvd o) (k37.st TB x) (retTQ TB kbn k37 klg o)
theorem k18j (o:khf):OblH TB kbn 6 0 khh (kvd o) (retTQ TB kbn k37 klg o):=
 OblH.ofC (X:=True) (by kernel_rfl) trivial
theorem k18y {x:kyk} {o:khf} (h:khq x o):k37.Snd Try.prog x o:=
 Con.soundH (c:=k37) (C:=kbn) TBok ⟨inf_ok,(all_cons k162 all_nil),all_nil⟩ mix Try.func45 (show Try.f45.body=some khh by kernel_rfl) (show Try.f45.ntmps=6 by kernel_rfl) (show Try.f45.results.toList=klg by kernel_rfl) rfl h (k18j o)
theorem k1c6 {p0:Int} {r0:Int} (h:
((U64 (7:Int)∧Us [p0]∧(∀x∈[p0],x<18446744069414584321)∧[p0].length≤1073741824)∧(hashS (7:Int) [p0])=r0)):khq (p0,()) (r0,()):=WPh.of_eq (by kernel_rfl) h
theorem bd45:Callable Try.prog 45:=⟨by rw[Try.func45];kernel_rfl,by rw[Try.func45];show some _≠some _;decide⟩
theorem k168 (p0:Int) (h:U64 p0∧p0<18446744069414584321):khq (p0,()) (((acctS p0):Int),()):=by
 refine k1c6 ⟨⟨by decide,?_,?_,by simp⟩,rfl⟩
 ·intro x hx;rw[List.mem_singleton]at hx;subst hx;exact h.1
 ·intro x hx;rw[List.mem_singleton]at hx;subst hx;exact h.2
noncomputable def kjp:Con TB.den:=k37.fnR (fun x=>(fun(p0:Int)=>U64 p0∧p0<18446744069414584321) x.1) fun x=>((fun(p0:Int)=>((acctS p0):Int)) x.1,())
theorem kvy:kjp.Ok Try.prog TB:=Con.ok_fn k37 bd45 fun x h=>k18y (k168 x.1 h)
def k5h:Con TB.den:=Con.mk0 19 [.agg [.d (.int .u64),.d (.int .u64),.d (.int .u64),.d (.int .u64)]] [] (.one (.one (.d (.sl (.int .u64))))) []
abbrev k1a1:=HL TB.den (hsT k5h.ins (hsOs k5h.pre))
abbrev kpb:=HL TB.den (hsV k5h.res (hsOs k5h.post))
noncomputable def kgh:Cx TB:=⟨inf,[],[],4,[]⟩
noncomputable def knz:Code:=Try.f19.body.getD .skip
noncomputable def ku4:List ResultVar:=Try.f19.results.toList
noncomputable def k15n (o:kpb):An TB:= .no
def kni (x:k1a1) (o:kpb):Prop:=WPh TB kgh 12 0 knz (k15n o) (k5h.st TB x) (retTQ TB kgh k5h ku4 o)
theorem k1jp (o:kpb):OblH TB kgh 12 0 knz (k15n o) (retTQ TB kgh k5h ku4 o):=
 OblH.ofC (X:=True) (by kernel_rfl) trivial
theorem k1ii {x:k1a1} {o:kpb} (h:kni x o):k5h.Snd Try.prog x o:=
 Con.soundH (c:=k5h) (C:=kgh) TBok ⟨inf_ok,all_nil,all_nil⟩ mix Try.func19 (show Try.f19.body=some knz by kernel_rfl) (show Try.f19.ntmps=12 by kernel_rfl) (show Try.f19.results.toList=ku4 by kernel_rfl) rfl h (k1jp o)
theorem k1l1 {p0:TNote} {r0:List Int} (h:
([p0.Value,p0.Owner,p0.Rho,p0.Blind]=r0)):kni (p0.Value,p0.Owner,p0.Rho,p0.Blind,()) (r0,()):=WPh.of_eq (by kernel_rfl) h
theorem bd19:Callable Try.prog 19:=⟨by rw[Try.func19];kernel_rfl,by rw[Try.func19];show some _≠some _;decide⟩
theorem k1fc (p0:TNote):kni (p0.Value,p0.Owner,p0.Rho,p0.Blind,()) (((noteL p0):List Int),()):=by
 exact k1l1 rfl
noncomputable def kjg:Con TB.den:=k5h.totR fun x=>((fun(p0:TNote)=>((noteL p0):List Int)) (TNote.mk x.1 x.2.1 x.2.2.1 x.2.2.2.1),())
theorem ktd:kjg.Ok Try.prog TB:=Con.ok_tot k5h bd19 fun x=>k1ii (k1fc (TNote.mk x.1 x.2.1 x.2.2.1 x.2.2.2.1))
def k4l:Con TB.den:=Con.mk0 78 [.agg [.d (.int .u64),.d (.int .u64),.d (.int .u64),.d (.int .u64)]] [] (.one (.one (.d (.bool)))) []
abbrev k15y:=HL TB.den (hsT k4l.ins (hsOs k4l.pre))
abbrev kma:=HL TB.den (hsV k4l.res (hsOs k4l.post))
noncomputable def keb:Cx TB:=⟨inf,[k91],[],4,[]⟩
noncomputable def kl1:Code:=Try.f78.body.getD .skip
noncomputable def krc:List ResultVar:=Try.f78.results.toList
noncomputable def k109 (o:kma):An TB:= .no
def klf (x:k15y) (o:kma):Prop:=WPh TB keb 16 0 kl1 (k109 o) (k4l.st TB x) (retTQ TB keb k4l krc o)
theorem k1fs (o:kma):OblH TB keb 16 0 kl1 (k109 o) (retTQ TB keb k4l krc o):=
 OblH.ofC (X:=True) (by kernel_rfl) trivial
theorem k1fo {x:k15y} {o:kma} (h:klf x o):k4l.Snd Try.prog x o:=
 Con.soundH (c:=k4l) (C:=keb) TBok ⟨inf_ok,(all_cons kdg all_nil),all_nil⟩ mix Try.func78 (show Try.f78.body=some kl1 by kernel_rfl) (show Try.f78.ntmps=16 by kernel_rfl) (show Try.f78.results.toList=krc by kernel_rfl) rfl h (k1fs o)
theorem k1jq {p0:TNote} {r0:Bool} (h:
((decide (p0.Value≤4294967295)=true→
([p0.Owner,p0.Rho,p0.Blind].length≤9223372036854775807)∧let r1:Bool:=([p0.Owner,p0.Rho,p0.Blind].all (fun x=>decide (x<18446744069414584321)))
 r1=r0)∧
(decide (p0.Value≤4294967295)=false→
 false=r0))):klf (p0.Value,p0.Owner,p0.Rho,p0.Blind,()) (r0,()):=WPh.of_eq (by kernel_rfl) h
theorem bd78:Callable Try.prog 78:=⟨by rw[Try.func78];kernel_rfl,by rw[Try.func78];show some _≠some _;decide⟩
theorem k1b6 (p0:TNote):klf (p0.Value,p0.Owner,p0.Rho,p0.Blind,()) (((noteV p0):Bool),()):=by
 have e:[p0.Owner,p0.Rho,p0.Blind].all (fun x=>decide (x<18446744069414584321))=(decide (p0.Owner<18446744069414584321)&&(decide (p0.Rho<18446744069414584321)&&decide (p0.Blind<18446744069414584321))):=by simp
 refine k1jq ⟨fun h=>⟨by simp,?_⟩,fun h=> ?_⟩
 ·rw[e];unfold noteV;rw[h];simp[Bool.and_assoc]
 ·unfold noteV;rw[h];rfl
noncomputable def kck:Con TB.den:=k4l.totR fun x=>((fun(p0:TNote)=>((noteV p0):Bool)) (TNote.mk x.1 x.2.1 x.2.2.1 x.2.2.2.1),())
theorem kkb:kck.Ok Try.prog TB:=Con.ok_tot k4l bd78 fun x=>k1fo (k1b6 (TNote.mk x.1 x.2.1 x.2.2.1 x.2.2.2.1))
def k3p:Con TB.den:=Con.mk0 67 [.agg [.d (.int .u64),.d (.int .u64),.d (.int .u64),.d (.int .u64)]] [] (.one (.one (.d (.int .u64)))) []
abbrev k10s:=HL TB.den (hsT k3p.ins (hsOs k3p.pre))
abbrev kj4:=HL TB.den (hsV k3p.res (hsOs k3p.post))
noncomputable def kcr:Cx TB:=⟨inf,[kck,kjg,kef],[],4,[]⟩
noncomputable def kjk:Code:=Try.f67.body.getD .skip
noncomputable def knh:List ResultVar:=Try.f67.results.toList
noncomputable def kyl (o:kj4):An TB:= .no
def kiz (x:k10s) (o:kj4):Prop:=WPh TB kcr 9 0 kjk (kyl o) (k3p.st TB x) (retTQ TB kcr k3p knh o)
theorem k1ch (o:kj4):OblH TB kcr 9 0 kjk (kyl o) (retTQ TB kcr k3p knh o):=
 OblH.ofC (X:=True) (by kernel_rfl) trivial
theorem k1bj {x:k10s} {o:kj4} (h:kiz x o):k3p.Snd Try.prog x o:=
 Con.soundH (c:=k3p) (C:=kcr) TBok ⟨inf_ok,(all_cons kkb (all_cons ktd (all_cons kmb all_nil))),all_nil⟩ mix Try.func67 (show Try.f67.body=some kjk by kernel_rfl) (show Try.f67.ntmps=9 by kernel_rfl) (show Try.f67.results.toList=knh by kernel_rfl) rfl h (k1ch o)
theorem k1ef {p0:TNote} {r0:Int} (h:
(((!(noteV p0))=true→
 0=r0)∧
((!(noteV p0))=false→
((18446744069414584321:Int)=18446744069414584321∧U64 (2:Int)∧Us (noteL p0)∧(noteL p0).length≤1099511627776)∧(hashS (2:Int) (noteL p0))=r0))):kiz (p0.Value,p0.Owner,p0.Rho,p0.Blind,()) (r0,()):=WPh.of_eq (by kernel_rfl) h
theorem bd67:Callable Try.prog 67:=⟨by rw[Try.func67];kernel_rfl,by rw[Try.func67];show some _≠some _;decide⟩
theorem k1ak (p0:TNote) (h:NR p0):kiz (p0.Value,p0.Owner,p0.Rho,p0.Blind,()) (((if noteV p0=true then hashS 2 (noteL p0)else 0):Int),()):=by
 have hu:Us (noteL p0):=by
  intro x hx
  simp only[noteL,List.mem_cons,List.not_mem_nil,or_false]at hx
  rcases hx with rfl|rfl|rfl|rfl
  ·exact h.v
  ·exact h.o
  ·exact h.r
  ·exact h.b
 refine k1ef ?_
 simp only[kn0]
 refine⟨fun e=> ?_,fun e=>⟨⟨by trivial,by decide,hu,by simp[noteL]⟩,?_⟩⟩
 ·rw[if_neg (by simpa using e)]
 ·rw[if_pos (by simpa using e)]
noncomputable def kle:Con TB.den:=k3p.fnR (fun x=>(fun(p0:TNote)=>NR p0) (TNote.mk x.1 x.2.1 x.2.2.1 x.2.2.2.1)) fun x=>((fun(p0:TNote)=>((if noteV p0=true then hashS 2 (noteL p0)else 0):Int)) (TNote.mk x.1 x.2.1 x.2.2.1 x.2.2.2.1),())
theorem ky0:kle.Ok Try.prog TB:=Con.ok_fn k3p bd67 fun x h=>k1bj (k1ak (TNote.mk x.1 x.2.1 x.2.2.1 x.2.2.2.1) h)
def k36:Con TB.den:=Con.mk0 30 [.one (.d (.int .u64))] [] (.tup [.agg [.d (.int .i64),.d (.int .u64),.d (.sl (.int .u64)),.d (.sl (.int .u64)),.d (.sl (.int .u64)),.d (.int .u64),.d (.int .u64),.d (.int .u64),.d (.int .u64),.d (.int .u64)],.agg [.d (.sl (.st 0)),.d (.sl (.st 1)),.d (.int .u64)]]) []
abbrev kz7:=HL TB.den (hsT k36.ins (hsOs k36.pre))
abbrev kh9:=HL TB.den (hsV k36.res (hsOs k36.post))
noncomputable def kbf:Cx TB:=⟨inf,[kle,kjp],[],4,[]⟩
noncomputable def khj:Code:=Try.f30.body.getD .skip
noncomputable def klu:List ResultVar:=Try.f30.results.toList
noncomputable def kw7 (o:kh9):An TB:= .no
def khz (x:kz7) (o:kh9):Prop:=WPh TB kbf 18 0 khj (kw7 o) (k36.st TB x) (retTQ TB kbf k36 klu o)
theorem k18z (o:kh9):OblH TB kbf 18 0 khj (kw7 o) (retTQ TB kbf k36 klu o):=
 OblH.ofC (X:=True) (by kernel_rfl) trivial
theorem k1a8 {x:kz7} {o:kh9} (h:khz x o):k36.Snd Try.prog x o:=
 Con.soundH (c:=k36) (C:=kbf) TBok ⟨inf_ok,(all_cons ky0 (all_cons kvy all_nil)),all_nil⟩ mix Try.func30 (show Try.f30.body=some khj by kernel_rfl) (show Try.f30.ntmps=18 by kernel_rfl) (show Try.f30.results.toList=klu by kernel_rfl) rfl h (k18z o)
theorem k1c1 {p0:Int} {r0:TStatement} {r1:TWitness} (h:
((NR (TNote.mk 5 1 2 3))∧let r2:Int:=(if noteV (TNote.mk 5 1 2 3)=true then hashS 2 (noteL (TNote.mk 5 1 2 3))else 0)
(U64 (9:Int)∧(9:Int)<18446744069414584321)∧1=r0.Depth∧0=r0.Anchor∧([]:List Int)=r0.Marks∧[r2]=r0.Commits∧[2]=r0.Rhos∧7=r0.Deposit∧0=r0.Withdraw∧p0=r0.Fee∧(acctS (9:Int))=r0.Account∧0=r0.Bind∧([]:List TSpent)=r1.Ins∧[TNote.mk 5 1 2 3]=r1.Outs∧9=r1.Secret)):khz (p0,()) (r0.Depth,r0.Anchor,r0.Marks,r0.Commits,r0.Rhos,r0.Deposit,r0.Withdraw,r0.Fee,r0.Account,r0.Bind,r1.Ins,r1.Outs,r1.Secret,()):=WPh.of_eq (by kernel_rfl) h
theorem bd30:Callable Try.prog 30:=⟨by rw[Try.func30];kernel_rfl,by rw[Try.func30];show some _≠some _;decide⟩
theorem k17a (p0:Int) (h:U64 p0):khz (p0,()) (((exS p0).Depth:Int),((exS p0).Anchor:Int),((exS p0).Marks:List Int),((exS p0).Commits:List Int),((exS p0).Rhos:List Int),((exS p0).Deposit:Int),((exS p0).Withdraw:Int),((exS p0).Fee:Int),((exS p0).Account:Int),((exS p0).Bind:Int),(exW.Ins:List TSpent),(exW.Outs:List TNote),(exW.Secret:Int),()):=by
 refine k1c1 (r0:=exS p0) (r1:=exW) ⟨⟨by decide,by decide,by decide,by decide⟩,?_⟩
 exact⟨⟨by decide,by decide⟩,rfl,rfl,rfl,rfl,rfl,rfl,rfl,rfl,rfl,rfl,rfl,rfl,rfl⟩
noncomputable def ks3:Con TB.den:=k36.fnR (fun x=>(fun(p0:Int)=>U64 p0) x.1) fun x=>((fun(p0:Int)=>((exS p0).Depth:Int)) x.1,(fun(p0:Int)=>((exS p0).Anchor:Int)) x.1,(fun(p0:Int)=>((exS p0).Marks:List Int)) x.1,(fun(p0:Int)=>((exS p0).Commits:List Int)) x.1,(fun(p0:Int)=>((exS p0).Rhos:List Int)) x.1,(fun(p0:Int)=>((exS p0).Deposit:Int)) x.1,(fun(p0:Int)=>((exS p0).Withdraw:Int)) x.1,(fun(p0:Int)=>((exS p0).Fee:Int)) x.1,(fun(p0:Int)=>((exS p0).Account:Int)) x.1,(fun(p0:Int)=>((exS p0).Bind:Int)) x.1,(fun(p0:Int)=>(exW.Ins:List TSpent)) x.1,(fun(p0:Int)=>(exW.Outs:List TNote)) x.1,(fun(p0:Int)=>(exW.Secret:Int)) x.1,())
theorem k1cc:ks3.Ok Try.prog TB:=Con.ok_fn k36 bd30 fun x h=>k1a8 (k17a x.1 h)
theorem bd32:Callable Try.prog 32:=⟨by rw[Try.func32];kernel_rfl,by rw[Try.func32];show some _≠some _;decide⟩
def k18:Con TB.den:=Con.mk0 32 [] [] (.one (.one (.ptr 0 0))) [.cells [.d (.bool),.d (.int .u64),.d (.int .i64),.own 1,.mp 2,.mp 3,.mp 4],.tip (.st 3),.map (.str) (.int .i64),.map (.str) (.sl (.int .u64)),.map (.str) (.bool)]
abbrev kjs:=HL TB.den (hsT k18.ins (hsOs k18.pre))
abbrev k8c:=HL TB.den (hsV k18.res (hsOs k18.post))
noncomputable def k63:Cx TB:=⟨inf,[],[],4,[]⟩
noncomputable def k9l:Code:=Try.f32.body.getD .skip
noncomputable def kbh:List ResultVar:=Try.f32.results.toList
noncomputable def kie (o:k8c):An TB:= .nd [] .no [] (.nd [] .no [] (.rt [.tokc 3 3 (.st 3)]))
def k9k (x:kjs) (o:k8c):Prop:=WPh TB k63 6 0 k9l (kie o) (k18.st TB x) (retTQ TB k63 k18 kbh o)
theorem ku8 (o:k8c):OblH TB k63 6 0 k9l (kie o) (retTQ TB k63 k18 kbh o):=
 OblH.ofC (X:=True) (by kernel_rfl) trivial
theorem ku3 {x:kjs} {o:k8c} (h:k9k x o):k18.Snd Try.prog x o:=
 Con.soundH (c:=k18) (C:=k63) TBok ⟨inf_ok,all_nil,all_nil⟩ mix Try.func32 (show Try.f32.body=some k9l by kernel_rfl) (show Try.f32.ntmps=6 by kernel_rfl) (show Try.f32.results.toList=kbh by kernel_rfl) rfl h (ku8 o)
theorem kvo  {d0_0:Bool} {d0_1:Int} {d0_2:Int} {e1:List TQuestion} {e2k:List ByteArray} {e2v:List Int} {e3k:List ByteArray} {e3v:List (List Int)} {e4k:List ByteArray} {e4v:List Bool} (h:
((([]:List TQuestion)=([]:List TQuestion))∧false=d0_0∧0=d0_1∧0=d0_2∧([]:List TQuestion)=e1∧([]:List ByteArray)=e2k∧([]:List Int)=e2v∧([]:List ByteArray)=e3k∧([]:List (List Int))=e3v∧([]:List ByteArray)=e4k∧([]:List Bool)=e4v)):k9k (()) (d0_0,d0_1,d0_2,e1,e2k,e2v,e3k,e3v,e4k,e4v,()):=WPh.of_eq (by kernel_rfl) h
theorem krl:k9k (()) ((false:Bool),(0:Int),(0:Int),(([]:List TQuestion):List TQuestion),([]:List ByteArray),([]:List Int),([]:List ByteArray),([]:List (List Int)),([]:List ByteArray),([]:List Bool),()):=by
 exact kvo ⟨rfl,rfl,rfl,rfl,rfl,rfl,rfl,rfl,rfl,rfl,rfl⟩
noncomputable def kgr:Con TB.den:=k18.totR fun x=>((false:Bool),(0:Int),(0:Int),(([]:List TQuestion):List TQuestion),([]:List ByteArray),([]:List Int),([]:List ByteArray),([]:List (List Int)),([]:List ByteArray),([]:List Bool),())
theorem kvi:kgr.Ok Try.prog TB:=Con.ok_tot k18 bd32 fun x=>ku3 (krl)
def k28:Con TB.den:=Con.mk0 14 [] [] (.one (.one (.ptr 0 0))) [.cells [.d (.bool),.d (.int .u64),.d (.int .i64),.own 1,.mp 2,.mp 3,.mp 4],.tip (.st 3),.map (.str) (.int .i64),.map (.str) (.sl (.int .u64)),.map (.str) (.bool)]
abbrev ksr:=HL TB.den (hsT k28.ins (hsOs k28.pre))
abbrev kda:=HL TB.den (hsV k28.res (hsOs k28.post))
noncomputable def k8r:Cx TB:=⟨inf,[kgr],[],4,[]⟩
noncomputable def kdy:Code:=Try.f14.body.getD .skip
noncomputable def khx:List ResultVar:=Try.f14.results.toList
noncomputable def kpp (o:kda):An TB:= .no
def kfd (x:ksr) (o:kda):Prop:=WPh TB k8r 2 0 kdy (kpp o) (k28.st TB x) (retTQ TB k8r k28 khx o)
theorem k13i (o:kda):OblH TB k8r 2 0 kdy (kpp o) (retTQ TB k8r k28 khx o):=
 OblH.ofC (X:=True) (by kernel_rfl) trivial
theorem k13g {x:ksr} {o:kda} (h:kfd x o):k28.Snd Try.prog x o:=
 Con.soundH (c:=k28) (C:=k8r) TBok ⟨inf_ok,(all_cons kvi all_nil),all_nil⟩ mix Try.func14 (show Try.f14.body=some kdy by kernel_rfl) (show Try.f14.ntmps=2 by kernel_rfl) (show Try.f14.results.toList=khx by kernel_rfl) rfl h (k13i o)
theorem k17y  {d0_0:Bool} {d0_1:Int} {d0_2:Int} {e1:List TQuestion} {e2k:List ByteArray} {e2v:List Int} {e3k:List ByteArray} {e3v:List (List Int)} {e4k:List ByteArray} {e4v:List Bool} (h:
((([]:List TQuestion)=([]:List TQuestion))∧false=d0_0∧0=d0_1∧0=d0_2∧([]:List TQuestion)=e1∧[]=e2k∧[]=e2v∧[]=e3k∧[]=e3v∧[]=e4k∧[]=e4v)):kfd (()) (d0_0,d0_1,d0_2,e1,e2k,e2v,e3k,e3v,e4k,e4v,()):=WPh.of_eq (by kernel_rfl) h
theorem bd14:Callable Try.prog 14:=⟨by rw[Try.func14];kernel_rfl,by rw[Try.func14];show some _≠some _;decide⟩
theorem k12u:kfd (()) ((false:Bool),(0:Int),(0:Int),(([]:List TQuestion):List TQuestion),([]:List ByteArray),([]:List Int),([]:List ByteArray),([]:List (List Int)),([]:List ByteArray),([]:List Bool),()):=by
 exact k17y ⟨rfl,rfl,rfl,rfl,rfl,rfl,rfl,rfl,rfl,rfl,rfl⟩
noncomputable def kor:Con TB.den:=k28.totR fun x=>((false:Bool),(0:Int),(0:Int),(([]:List TQuestion):List TQuestion),([]:List ByteArray),([]:List Int),([]:List ByteArray),([]:List (List Int)),([]:List ByteArray),([]:List Bool),())
theorem k16i:kor.Ok Try.prog TB:=Con.ok_tot k28 bd14 fun x=>k13g (k12u)
def k4o:Con TB.den:=Con.mk0 77 [.one (.d (.int .u64)),.one (.d (.sl (.int .u64)))] [] (.one (.one (.d (.int .u64)))) []
abbrev k154:=HL TB.den (hsT k4o.ins (hsOs k4o.pre))
abbrev km9:=HL TB.den (hsV k4o.res (hsOs k4o.post))
noncomputable def kf1:Cx TB:=⟨inf,[k9t],[],4,[]⟩
noncomputable def klj:Code:=Try.f77.body.getD .skip
noncomputable def kr0:List ResultVar:=Try.f77.results.toList
noncomputable def k11h (o:km9):An TB:= .no
def kkw (x:k154) (o:km9):Prop:=WPh TB kf1 8 0 klj (k11h o) (k4o.st TB x) (retTQ TB kf1 k4o kr0 o)
theorem k1eg (o:km9):OblH TB kf1 8 0 klj (k11h o) (retTQ TB kf1 k4o kr0 o):=
 OblH.ofC (X:=True) (by kernel_rfl) trivial
theorem k1fh {x:k154} {o:km9} (h:kkw x o):k4o.Snd Try.prog x o:=
 Con.soundH (c:=k4o) (C:=kf1) TBok ⟨inf_ok,(all_cons kfn all_nil),all_nil⟩ mix Try.func77 (show Try.f77.body=some klj by kernel_rfl) (show Try.f77.ntmps=8 by kernel_rfl) (show Try.f77.results.toList=kr0 by kernel_rfl) rfl h (k1eg o)
theorem k1hk {p0:Int} {p1:List Int} {r0:Int} (h:
(((18446744069414584321:Int)=18446744069414584321∧U64 p0∧Us p1∧p1.length≤1099511627776)∧(hashS p0 p1)=r0)):kkw (p0,p1,()) (r0,()):=WPh.of_eq (by kernel_rfl) h
theorem bd77:Callable Try.prog 77:=⟨by rw[Try.func77];kernel_rfl,by rw[Try.func77];show some _≠some _;decide⟩
theorem k1bi (p0:Int) (p1:List Int) (h:U64 p0∧Us p1∧p1.length≤1099511627776):kkw (p0,p1,()) (((hashS p0 p1):Int),()):=by
 exact k1hk ⟨⟨rfl,h.1,h.2.1,h.2.2⟩,rfl⟩
noncomputable def ko6:Con TB.den:=k4o.fnR (fun x=>(fun(p0:Int) (p1:List Int)=>U64 p0∧Us p1∧p1.length≤1099511627776) x.1 x.2.1) fun x=>((fun(p0:Int) (p1:List Int)=>((hashS p0 p1):Int)) x.1 x.2.1,())
theorem k12t:ko6.Ok Try.prog TB:=Con.ok_fn k4o bd77 fun x h=>k1fh (k1bi x.1 x.2.1 h)
def k2o:Con TB.den:=Con.mk0 35 [.one (.d (.int .u64))] [] (.one (.one (.d (.int .u64)))) []
abbrev kw0:=HL TB.den (hsT k2o.ins (hsOs k2o.pre))
abbrev kft:=HL TB.den (hsV k2o.res (hsOs k2o.post))
noncomputable def ka4:Cx TB:=⟨inf,[ko6],[],4,[]⟩
noncomputable def kg9:Code:=Try.f35.body.getD .skip
noncomputable def kjd:List ResultVar:=Try.f35.results.toList
noncomputable def ksj (o:kft):An TB:= .no
def kg1 (x:kw0) (o:kft):Prop:=WPh TB ka4 6 0 kg9 (ksj o) (k2o.st TB x) (retTQ TB ka4 k2o kjd o)
theorem k16d (o:kft):OblH TB ka4 6 0 kg9 (ksj o) (retTQ TB ka4 k2o kjd o):=
 OblH.ofC (X:=True) (by kernel_rfl) trivial
theorem k17r {x:kw0} {o:kft} (h:kg1 x o):k2o.Snd Try.prog x o:=
 Con.soundH (c:=k2o) (C:=ka4) TBok ⟨inf_ok,(all_cons k12t all_nil),all_nil⟩ mix Try.func35 (show Try.f35.body=some kg9 by kernel_rfl) (show Try.f35.ntmps=6 by kernel_rfl) (show Try.f35.results.toList=kjd by kernel_rfl) rfl h (k16d o)
theorem k19x {p0:Int} {r0:Int} (h:
((U64 (7:Int)∧Us [p0]∧[p0].length≤1099511627776)∧(hashS (7:Int) [p0])=r0)):kg1 (p0,()) (r0,()):=WPh.of_eq (by kernel_rfl) h
theorem bd35:Callable Try.prog 35:=⟨by rw[Try.func35];kernel_rfl,by rw[Try.func35];show some _≠some _;decide⟩
theorem k145 (p0:Int) (h:U64 p0):kg1 (p0,()) (((acctS p0):Int),()):=by
 exact k19x ⟨⟨by decide,(by intro x hx;rw[List.mem_singleton]at hx;subst hx;exact h),by simp⟩,rfl⟩
noncomputable def kqh:Con TB.den:=k2o.fnR (fun x=>(fun(p0:Int)=>U64 p0) x.1) fun x=>((fun(p0:Int)=>((acctS p0):Int)) x.1,())
theorem k1ao:kqh.Ok Try.prog TB:=Con.ok_fn k2o bd35 fun x h=>k17r (k145 x.1 h)
def k2e:Con TB.den:=Con.mk0 75 [.one (.ptr 0 0),.one (.d (.int .u64)),.one (.d (.sl (.int .u64)))] [.cells [.d (.bool),.d (.int .u64),.d (.int .i64),.own 1,.mp 2,.mp 3,.mp 4],.tip (.st 3),.map (.str) (.int .i64),.map (.str) (.sl (.int .u64)),.map (.str) (.bool)] (.tup [.one (.d (.int .u64)),.one (.d (.bool))]) [.cells [.d (.bool),.d (.int .u64),.d (.int .i64),.own 1,.mp 2,.mp 3,.mp 4],.tip (.st 3),.map (.str) (.int .i64),.map (.str) (.sl (.int .u64)),.map (.str) (.bool)]
abbrev kss:=HL TB.den (hsT k2e.ins (hsOs k2e.pre))
abbrev kdf:=HL TB.den (hsV k2e.res (hsOs k2e.post))
noncomputable def k8s:Cx TB:=⟨inf,[kd6,km4,k9t],[],4,[]⟩
noncomputable def ke0:Code:=Try.f75.body.getD .skip
noncomputable def kho:List ResultVar:=Try.f75.results.toList
noncomputable def kqg (o:kdf):An TB:= .no
def ked (x:kss) (o:kdf):Prop:=WPh TB k8s 41 5 ke0 (kqg o) (k2e.st TB x) (retTQ TB k8s k2e kho o)
theorem k14f (o:kdf):OblH TB k8s 41 5 ke0 (kqg o) (retTQ TB k8s k2e kho o):=
 OblH.ofC (X:=True) (by kernel_rfl) trivial
theorem k13s {x:kss} {o:kdf} (h:ked x o):k2e.Snd Try.prog x o:=
 Con.soundH (c:=k2e) (C:=k8s) TBok ⟨inf_ok,(all_cons kn4 (all_cons kya (all_cons kfn all_nil))),all_nil⟩ mix Try.func75 (show Try.f75.body=some ke0 by kernel_rfl) (show Try.f75.ntmps=41 by kernel_rfl) (show Try.f75.results.toList=kho by kernel_rfl) rfl h (k14f o)
theorem k17i {p1:Int} {p2:List Int} {c0_0:Bool} {c0_1:Int} {c0_2:Int} {w1:List TQuestion} {w2k:List ByteArray} {w2v:List Int} {w3k:List ByteArray} {w3v:List (List Int)} {w4k:List ByteArray} {w4v:List Bool} {r0:Int} {r1:Bool} {d0_0:Bool} {d0_1:Int} {d0_2:Int} {e1:List TQuestion} {e2k:List ByteArray} {e2v:List Int} {e3k:List ByteArray} {e3v:List (List Int)} {e4k:List ByteArray} {e4v:List Bool} (h:
((p2.length≤9223372036854775807)∧((!(allB p2))=true→
(w1=w1)∧0=r0∧false=r1∧c0_0=d0_0∧c0_1=d0_1∧c0_2=d0_2∧w1=e1∧w2k=e2k∧w2v=e2v∧w3k=e3k∧w3v=e3v∧w4k=e4k∧w4v=e4v)∧
((!(allB p2))=false→
(Us p2∧Us [p1]∧p2.length≤1073741824∧[p1].length≤1073741824)∧w2k.length=w2v.length∧let v2:Int:=mVal (BEq.beq (keyB [p1] p2)) w2k w2v (0:Int)
(mHas (BEq.beq (keyB [p1] p2)) w2k=true→
(0≤v2)∧v2<(w1.length:Int)∧(w1=w1)∧(ix w1 v2).Answer=r0∧true=r1∧c0_0=d0_0∧c0_1=d0_1∧c0_2=d0_2∧w1=e1∧w2k=e2k∧w2v=e2v∧w3k=e3k∧w3v=e3v∧w4k=e4k∧w4v=e4v)∧
(mHas (BEq.beq (keyB [p1] p2)) w2k=false→
(c0_0=true→
(w1=w1)∧0=r0∧false=r1∧c0_0=d0_0∧c0_1=d0_1∧c0_2=d0_2∧w1=e1∧w2k=e2k∧w2v=e2v∧w3k=e3k∧w3v=e3v∧w4k=e4k∧w4v=e4v)∧
(c0_0=false→
((18446744069414584321:Int)=18446744069414584321∧U64 p1∧Us p2∧p2.length≤1099511627776)∧(w1=w1)∧(hashS p1 p2)=r0∧true=r1∧c0_0=d0_0∧c0_1=d0_1∧c0_2=d0_2∧w1=e1∧w2k=e2k∧w2v=e2v∧w3k=e3k∧w3v=e3v∧w4k=e4k∧w4v=e4v))))):ked (p1,p2,c0_0,c0_1,c0_2,w1,w2k,w2v,w3k,w3v,w4k,w4v,()) (r0,r1,d0_0,d0_1,d0_2,e1,e2k,e2v,e3k,e3v,e4k,e4v,()):=WPh.of_eq (by kernel_rfl) h
theorem bd75:Callable Try.prog 75:=⟨by rw[Try.func75];kernel_rfl,by rw[Try.func75];show some _≠some _;decide⟩
theorem k114 (p1:Int) (p2:List Int) (c0_0:Bool) (c0_1:Int) (c0_2:Int) (w1:List TQuestion) (w2k:List ByteArray) (w2v:List Int) (w3k:List ByteArray) (w3v:List (List Int)) (w4k:List ByteArray) (w4v:List Bool) (h:U64 p1∧(Us p2∧p2.length≤1000000000)∧OOk (OS.mk c0_0 c0_1 c0_2 w1 w2k w2v w3k w3v w4k w4v)):ked (p1,p2,c0_0,c0_1,c0_2,w1,w2k,w2v,w3k,w3v,w4k,w4v,()) ((((pk c0_0 w1 w2k w2v p1 p2).getD 0):Int),(((pk c0_0 w1 w2k w2v p1 p2).isSome):Bool),(((OS.mk c0_0 c0_1 c0_2 w1 w2k w2v w3k w3v w4k w4v).a):Bool),(((OS.mk c0_0 c0_1 c0_2 w1 w2k w2v w3k w3v w4k w4v).b):Int),(((OS.mk c0_0 c0_1 c0_2 w1 w2k w2v w3k w3v w4k w4v).c):Int),(((OS.mk c0_0 c0_1 c0_2 w1 w2k w2v w3k w3v w4k w4v).q):List TQuestion),(((OS.mk c0_0 c0_1 c0_2 w1 w2k w2v w3k w3v w4k w4v).k):List ByteArray),(((OS.mk c0_0 c0_1 c0_2 w1 w2k w2v w3k w3v w4k w4v).v):List Int),(((OS.mk c0_0 c0_1 c0_2 w1 w2k w2v w3k w3v w4k w4v).s):List ByteArray),(((OS.mk c0_0 c0_1 c0_2 w1 w2k w2v w3k w3v w4k w4v).t):List (List Int)),(((OS.mk c0_0 c0_1 c0_2 w1 w2k w2v w3k w3v w4k w4v).x):List ByteArray),(((OS.mk c0_0 c0_1 c0_2 w1 w2k w2v w3k w3v w4k w4v).y):List Bool),()):=by
 obtain⟨h1,⟨h2,h3⟩,h4⟩:=h
 have ho:=h4.or
 have hu:Us [p1]:=by intro x hx;rw[List.mem_singleton]at hx;subst hx;exact h1
 refine k17i ⟨by omega,fun e=> ?_,fun e=>⟨⟨h2,hu,by omega,by simp⟩,ho.len,?_⟩⟩
 ·have e:allB p2=false:=by simpa using e
  simp[pk,e]
 ·have e:allB p2=true:=by simpa using e
  dsimp only
  refine⟨fun hm=> ?_,fun hm=>⟨fun hi=> ?_,fun hi=>⟨⟨rfl,h1,h2,by omega⟩,?_⟩⟩⟩
  ·have hv:=kxp h4 hm
   refine⟨hv.1,hv.2,?_⟩
   simp[pk,e,hm]
  ·simp[pk,e,hm,hi]
  ·simp[pk,e,hm,hi]
noncomputable def kg3:Con TB.den:=k2e.fnR (fun x=>(fun(p1:Int) (p2:List Int) (c0_0:Bool) (c0_1:Int) (c0_2:Int) (w1:List TQuestion) (w2k:List ByteArray) (w2v:List Int) (w3k:List ByteArray) (w3v:List (List Int)) (w4k:List ByteArray) (w4v:List Bool)=>U64 p1∧(Us p2∧p2.length≤1000000000)∧OOk (OS.mk c0_0 c0_1 c0_2 w1 w2k w2v w3k w3v w4k w4v)) x.1 x.2.1 x.2.2.1 x.2.2.2.1 x.2.2.2.2.1 x.2.2.2.2.2.1 x.2.2.2.2.2.2.1 x.2.2.2.2.2.2.2.1 x.2.2.2.2.2.2.2.2.1 x.2.2.2.2.2.2.2.2.2.1 x.2.2.2.2.2.2.2.2.2.2.1 x.2.2.2.2.2.2.2.2.2.2.2.1) fun x=>((fun(p1:Int) (p2:List Int) (c0_0:Bool) (c0_1:Int) (c0_2:Int) (w1:List TQuestion) (w2k:List ByteArray) (w2v:List Int) (w3k:List ByteArray) (w3v:List (List Int)) (w4k:List ByteArray) (w4v:List Bool)=>(((pk c0_0 w1 w2k w2v p1 p2).getD 0):Int)) x.1 x.2.1 x.2.2.1 x.2.2.2.1 x.2.2.2.2.1 x.2.2.2.2.2.1 x.2.2.2.2.2.2.1 x.2.2.2.2.2.2.2.1 x.2.2.2.2.2.2.2.2.1 x.2.2.2.2.2.2.2.2.2.1 x.2.2.2.2.2.2.2.2.2.2.1 x.2.2.2.2.2.2.2.2.2.2.2.1,(fun(p1:Int) (p2:List Int) (c0_0:Bool) (c0_1:Int) (c0_2:Int) (w1:List TQuestion) (w2k:List ByteArray) (w2v:List Int) (w3k:List ByteArray) (w3v:List (List Int)) (w4k:List ByteArray) (w4v:List Bool)=>(((pk c0_0 w1 w2k w2v p1 p2).isSome):Bool)) x.1 x.2.1 x.2.2.1 x.2.2.2.1 x.2.2.2.2.1 x.2.2.2.2.2.1 x.2.2.2.2.2.2.1 x.2.2.2.2.2.2.2.1 x.2.2.2.2.2.2.2.2.1 x.2.2.2.2.2.2.2.2.2.1 x.2.2.2.2.2.2.2.2.2.2.1 x.2.2.2.2.2.2.2.2.2.2.2.1,(fun(p1:Int) (p2:List Int) (c0_0:Bool) (c0_1:Int) (c0_2:Int) (w1:List TQuestion) (w2k:List ByteArray) (w2v:List Int) (w3k:List ByteArray) (w3v:List (List Int)) (w4k:List ByteArray) (w4v:List Bool)=>(((OS.mk c0_0 c0_1 c0_2 w1 w2k w2v w3k w3v w4k w4v).a):Bool)) x.1 x.2.1 x.2.2.1 x.2.2.2.1 x.2.2.2.2.1 x.2.2.2.2.2.1 x.2.2.2.2.2.2.1 x.2.2.2.2.2.2.2.1 x.2.2.2.2.2.2.2.2.1 x.2.2.2.2.2.2.2.2.2.1 x.2.2.2.2.2.2.2.2.2.2.1 x.2.2.2.2.2.2.2.2.2.2.2.1,(fun(p1:Int) (p2:List Int) (c0_0:Bool) (c0_1:Int) (c0_2:Int) (w1:List TQuestion) (w2k:List ByteArray) (w2v:List Int) (w3k:List ByteArray) (w3v:List (List Int)) (w4k:List ByteArray) (w4v:List Bool)=>(((OS.mk c0_0 c0_1 c0_2 w1 w2k w2v w3k w3v w4k w4v).b):Int)) x.1 x.2.1 x.2.2.1 x.2.2.2.1 x.2.2.2.2.1 x.2.2.2.2.2.1 x.2.2.2.2.2.2.1 x.2.2.2.2.2.2.2.1 x.2.2.2.2.2.2.2.2.1 x.2.2.2.2.2.2.2.2.2.1 x.2.2.2.2.2.2.2.2.2.2.1 x.2.2.2.2.2.2.2.2.2.2.2.1,(fun(p1:Int) (p2:List Int) (c0_0:Bool) (c0_1:Int) (c0_2:Int) (w1:List TQuestion) (w2k:List ByteArray) (w2v:List Int) (w3k:List ByteArray) (w3v:List (List Int)) (w4k:List ByteArray) (w4v:List Bool)=>(((OS.mk c0_0 c0_1 c0_2 w1 w2k w2v w3k w3v w4k w4v).c):Int)) x.1 x.2.1 x.2.2.1 x.2.2.2.1 x.2.2.2.2.1 x.2.2.2.2.2.1 x.2.2.2.2.2.2.1 x.2.2.2.2.2.2.2.1 x.2.2.2.2.2.2.2.2.1 x.2.2.2.2.2.2.2.2.2.1 x.2.2.2.2.2.2.2.2.2.2.1 x.2.2.2.2.2.2.2.2.2.2.2.1,(fun(p1:Int) (p2:List Int) (c0_0:Bool) (c0_1:Int) (c0_2:Int) (w1:List TQuestion) (w2k:List ByteArray) (w2v:List Int) (w3k:List ByteArray) (w3v:List (List Int)) (w4k:List ByteArray) (w4v:List Bool)=>(((OS.mk c0_0 c0_1 c0_2 w1 w2k w2v w3k w3v w4k w4v).q):List TQuestion)) x.1 x.2.1 x.2.2.1 x.2.2.2.1 x.2.2.2.2.1 x.2.2.2.2.2.1 x.2.2.2.2.2.2.1 x.2.2.2.2.2.2.2.1 x.2.2.2.2.2.2.2.2.1 x.2.2.2.2.2.2.2.2.2.1 x.2.2.2.2.2.2.2.2.2.2.1 x.2.2.2.2.2.2.2.2.2.2.2.1,(fun(p1:Int) (p2:List Int) (c0_0:Bool) (c0_1:Int) (c0_2:Int) (w1:List TQuestion) (w2k:List ByteArray) (w2v:List Int) (w3k:List ByteArray) (w3v:List (List Int)) (w4k:List ByteArray) (w4v:List Bool)=>(((OS.mk c0_0 c0_1 c0_2 w1 w2k w2v w3k w3v w4k w4v).k):List ByteArray)) x.1 x.2.1 x.2.2.1 x.2.2.2.1 x.2.2.2.2.1 x.2.2.2.2.2.1 x.2.2.2.2.2.2.1 x.2.2.2.2.2.2.2.1 x.2.2.2.2.2.2.2.2.1 x.2.2.2.2.2.2.2.2.2.1 x.2.2.2.2.2.2.2.2.2.2.1 x.2.2.2.2.2.2.2.2.2.2.2.1,(fun(p1:Int) (p2:List Int) (c0_0:Bool) (c0_1:Int) (c0_2:Int) (w1:List TQuestion) (w2k:List ByteArray) (w2v:List Int) (w3k:List ByteArray) (w3v:List (List Int)) (w4k:List ByteArray) (w4v:List Bool)=>(((OS.mk c0_0 c0_1 c0_2 w1 w2k w2v w3k w3v w4k w4v).v):List Int)) x.1 x.2.1 x.2.2.1 x.2.2.2.1 x.2.2.2.2.1 x.2.2.2.2.2.1 x.2.2.2.2.2.2.1 x.2.2.2.2.2.2.2.1 x.2.2.2.2.2.2.2.2.1 x.2.2.2.2.2.2.2.2.2.1 x.2.2.2.2.2.2.2.2.2.2.1 x.2.2.2.2.2.2.2.2.2.2.2.1,(fun(p1:Int) (p2:List Int) (c0_0:Bool) (c0_1:Int) (c0_2:Int) (w1:List TQuestion) (w2k:List ByteArray) (w2v:List Int) (w3k:List ByteArray) (w3v:List (List Int)) (w4k:List ByteArray) (w4v:List Bool)=>(((OS.mk c0_0 c0_1 c0_2 w1 w2k w2v w3k w3v w4k w4v).s):List ByteArray)) x.1 x.2.1 x.2.2.1 x.2.2.2.1 x.2.2.2.2.1 x.2.2.2.2.2.1 x.2.2.2.2.2.2.1 x.2.2.2.2.2.2.2.1 x.2.2.2.2.2.2.2.2.1 x.2.2.2.2.2.2.2.2.2.1 x.2.2.2.2.2.2.2.2.2.2.1 x.2.2.2.2.2.2.2.2.2.2.2.1,(fun(p1:Int) (p2:List Int) (c0_0:Bool) (c0_1:Int) (c0_2:Int) (w1:List TQuestion) (w2k:List ByteArray) (w2v:List Int) (w3k:List ByteArray) (w3v:List (List Int)) (w4k:List ByteArray) (w4v:List Bool)=>(((OS.mk c0_0 c0_1 c0_2 w1 w2k w2v w3k w3v w4k w4v).t):List (List Int))) x.1 x.2.1 x.2.2.1 x.2.2.2.1 x.2.2.2.2.1 x.2.2.2.2.2.1 x.2.2.2.2.2.2.1 x.2.2.2.2.2.2.2.1 x.2.2.2.2.2.2.2.2.1 x.2.2.2.2.2.2.2.2.2.1 x.2.2.2.2.2.2.2.2.2.2.1 x.2.2.2.2.2.2.2.2.2.2.2.1,(fun(p1:Int) (p2:List Int) (c0_0:Bool) (c0_1:Int) (c0_2:Int) (w1:List TQuestion) (w2k:List ByteArray) (w2v:List Int) (w3k:List ByteArray) (w3v:List (List Int)) (w4k:List ByteArray) (w4v:List Bool)=>(((OS.mk c0_0 c0_1 c0_2 w1 w2k w2v w3k w3v w4k w4v).x):List ByteArray)) x.1 x.2.1 x.2.2.1 x.2.2.2.1 x.2.2.2.2.1 x.2.2.2.2.2.1 x.2.2.2.2.2.2.1 x.2.2.2.2.2.2.2.1 x.2.2.2.2.2.2.2.2.1 x.2.2.2.2.2.2.2.2.2.1 x.2.2.2.2.2.2.2.2.2.2.1 x.2.2.2.2.2.2.2.2.2.2.2.1,(fun(p1:Int) (p2:List Int) (c0_0:Bool) (c0_1:Int) (c0_2:Int) (w1:List TQuestion) (w2k:List ByteArray) (w2v:List Int) (w3k:List ByteArray) (w3v:List (List Int)) (w4k:List ByteArray) (w4v:List Bool)=>(((OS.mk c0_0 c0_1 c0_2 w1 w2k w2v w3k w3v w4k w4v).y):List Bool)) x.1 x.2.1 x.2.2.1 x.2.2.2.1 x.2.2.2.2.1 x.2.2.2.2.2.1 x.2.2.2.2.2.2.1 x.2.2.2.2.2.2.2.1 x.2.2.2.2.2.2.2.2.1 x.2.2.2.2.2.2.2.2.2.1 x.2.2.2.2.2.2.2.2.2.2.1 x.2.2.2.2.2.2.2.2.2.2.2.1,())
theorem kq4:kg3.Ok Try.prog TB:=Con.ok_fn k2e bd75 fun x h=>k13s (k114 x.1 x.2.1 x.2.2.1 x.2.2.2.1 x.2.2.2.2.1 x.2.2.2.2.2.1 x.2.2.2.2.2.2.1 x.2.2.2.2.2.2.2.1 x.2.2.2.2.2.2.2.2.1 x.2.2.2.2.2.2.2.2.2.1 x.2.2.2.2.2.2.2.2.2.2.1 x.2.2.2.2.2.2.2.2.2.2.2.1 h)
def k3r:Con TB.den:=Con.mk0 74 [.agg [.d (.int .u64),.d (.int .u64),.d (.int .u64),.d (.int .u64)]] [] (.one (.one (.d (.bool)))) []
abbrev k131:=HL TB.den (hsT k3r.ins (hsOs k3r.pre))
abbrev kjn:=HL TB.den (hsV k3r.res (hsOs k3r.post))
noncomputable def kcn:Cx TB:=⟨inf,[],[],4,[]⟩
noncomputable def kiy:Code:=Try.f74.body.getD .skip
noncomputable def knl:List ResultVar:=Try.f74.results.toList
noncomputable def ky9 (o:kjn):An TB:= .no
def kjr (x:k131) (o:kjn):Prop:=WPh TB kcn 21 0 kiy (ky9 o) (k3r.st TB x) (retTQ TB kcn k3r knl o)
theorem k1c7 (o:kjn):OblH TB kcn 21 0 kiy (ky9 o) (retTQ TB kcn k3r knl o):=
 OblH.ofC (X:=True) (by kernel_rfl) trivial
theorem k1bc {x:k131} {o:kjn} (h:kjr x o):k3r.Snd Try.prog x o:=
 Con.soundH (c:=k3r) (C:=kcn) TBok ⟨inf_ok,all_nil,all_nil⟩ mix Try.func74 (show Try.f74.body=some kiy by kernel_rfl) (show Try.f74.ntmps=21 by kernel_rfl) (show Try.f74.results.toList=knl by kernel_rfl) rfl h (k1c7 o)
theorem k1g0 {p0:TNote} {r0:Bool} (h:
((decide (p0.Value≤4294967295)=true→
(decide (p0.Owner<18446744069414584321)=true→
(decide (p0.Rho<18446744069414584321)=true→
 decide (p0.Blind<18446744069414584321)=r0)∧
(decide (p0.Rho<18446744069414584321)=false→
 false=r0))∧
(decide (p0.Owner<18446744069414584321)=false→
 false=r0))∧
(decide (p0.Value≤4294967295)=false→
 false=r0))):kjr (p0.Value,p0.Owner,p0.Rho,p0.Blind,()) (r0,()):=WPh.of_eq (by kernel_rfl) h
theorem bd74:Callable Try.prog 74:=⟨by rw[Try.func74];kernel_rfl,by rw[Try.func74];show some _≠some _;decide⟩
theorem k191 (p0:TNote):kjr (p0.Value,p0.Owner,p0.Rho,p0.Blind,()) (((noteV p0):Bool),()):=by
 refine k1g0 ?_
 unfold noteV
 grind
noncomputable def kfi:Con TB.den:=k3r.totR fun x=>((fun(p0:TNote)=>((noteV p0):Bool)) (TNote.mk x.1 x.2.1 x.2.2.1 x.2.2.2.1),())
theorem knd:kfi.Ok Try.prog TB:=Con.ok_tot k3r bd74 fun x=>k1bc (k191 (TNote.mk x.1 x.2.1 x.2.2.1 x.2.2.2.1))
def k2b:Con TB.den:=Con.mk0 76 [.agg [.d (.int .u64),.d (.int .u64),.d (.int .u64),.d (.int .u64)]] [] (.one (.one (.d (.sl (.int .u64))))) []
abbrev ksw:=HL TB.den (hsT k2b.ins (hsOs k2b.pre))
abbrev kdc:=HL TB.den (hsV k2b.res (hsOs k2b.post))
noncomputable def k8q:Cx TB:=⟨inf,[],[],4,[]⟩
noncomputable def kf6:Code:=Try.f76.body.getD .skip
noncomputable def khw:List ResultVar:=Try.f76.results.toList
noncomputable def krg (o:kdc):An TB:= .no
def kf9 (x:ksw) (o:kdc):Prop:=WPh TB k8q 12 0 kf6 (krg o) (k2b.st TB x) (retTQ TB k8q k2b khw o)
theorem k13q (o:kdc):OblH TB k8q 12 0 kf6 (krg o) (retTQ TB k8q k2b khw o):=
 OblH.ofC (X:=True) (by kernel_rfl) trivial
theorem k13e {x:ksw} {o:kdc} (h:kf9 x o):k2b.Snd Try.prog x o:=
 Con.soundH (c:=k2b) (C:=k8q) TBok ⟨inf_ok,all_nil,all_nil⟩ mix Try.func76 (show Try.f76.body=some kf6 by kernel_rfl) (show Try.f76.ntmps=12 by kernel_rfl) (show Try.f76.results.toList=khw by kernel_rfl) rfl h (k13q o)
theorem k173 {p0:TNote} {r0:List Int} (h:
([p0.Value,p0.Owner,p0.Rho,p0.Blind]=r0)):kf9 (p0.Value,p0.Owner,p0.Rho,p0.Blind,()) (r0,()):=WPh.of_eq (by kernel_rfl) h
theorem bd76:Callable Try.prog 76:=⟨by rw[Try.func76];kernel_rfl,by rw[Try.func76];show some _≠some _;decide⟩
theorem k12z (p0:TNote):kf9 (p0.Value,p0.Owner,p0.Rho,p0.Blind,()) (((noteL p0):List Int),()):=by
 exact k173 rfl
noncomputable def kog:Con TB.den:=k2b.totR fun x=>((fun(p0:TNote)=>((noteL p0):List Int)) (TNote.mk x.1 x.2.1 x.2.2.1 x.2.2.2.1),())
theorem k16y:kog.Ok Try.prog TB:=Con.ok_tot k2b bd76 fun x=>k13e (k12z (TNote.mk x.1 x.2.1 x.2.2.1 x.2.2.2.1))
end Go.Proofs.Ytpffhgljgpjenaa
end
