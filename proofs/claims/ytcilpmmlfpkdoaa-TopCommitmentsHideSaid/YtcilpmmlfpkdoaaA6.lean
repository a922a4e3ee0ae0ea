/-
  Parts of the proofs that the laws of this seat hold of every input, merged by a program: a machine over pure data that is sound for the model, what each function of the translation does in it, and plain lemmas. No conditions but those in each theorem.
-/
import Derived.Test.YtcilpmmlfpkdoaaA5
set_option maxRecDepth 100000
noncomputable section
namespace Go.Proofs.Ytcilpmmlfpkdoaa
open Go Go.Bv Go.Cv Go.Md Go.RowKit
def k9s:Con TB.den:=Con.mk0 76 [.one (.d (.int .u64)),.one (.d (.int .u64)),.one (.d (.int .u64))] [] (.one (.one (.d (.int .u64)))) []
abbrev k1lq:=HL TB.den (hsT k9s.ins (hsOs k9s.pre))
abbrev kb0:=HL TB.den (hsV k9s.res (hsOs k9s.post))
noncomputable def kdu:Cx TB:=⟨inf,[kd1,k142],[],4,[]⟩
noncomputable def ki7:Code:=Try.f76.body.getD .skip
noncomputable def k107:List ResultVar:=Try.f76.results.toList
def k1ii (o:kb0):=qS TB kdu 30 0 (cB (cB (cB (cB (cB ki7))))) .no (retTQ TB kdu k9s k107 o)
def k94:Tm:=⟨[],[],[0,1,2,7],[.one (.d (.int .u64)),.one (.d (.int .u64)),.one (.d (.int .u64)),.one (.d (.int .u64))],0⟩
def k1rd (o:kb0) (nx1:NX TB k94):=blockT TB 1 (qM TB 0 k94 nx1 (blockT TB 0 (k1ii o)))
def kwq:Tm:=⟨[],[],[0,1,2,7],[.one (.d (.int .u64)),.one (.d (.int .u64)),.one (.d (.int .u64)),.one (.d (.int .u64))],0⟩
def k1e1 (o:kb0) (nx1:NX TB k94) (i:HL TB.den kwq.hs):Prop:=ghs TB [] (kwq.fill TB i) fun s=>WP TB kdu 30 0 (cB (cA (cB (cA (cA (cA (cB (cB (cB (cB ki7)))))))))) .no s (k1rd o nx1)
structure knw (o:kb0) (nx1:NX TB k94) (i:HL TB.den kwq.hs):Prop where
 h:k1e1 o nx1 i
noncomputable def k1io (o:kb0) (nx1:NX TB k94):An TB:= .nd [] .no [] (.jn kwq (knw o nx1) [] .no [] .no)
def kt5 (o:kb0) (nx1:NX TB k94) (i:HL TB.den k94.hs):Prop:=WP TB kdu 30 0 (cA (cA (cA (cB (cB (cB (cB ki7))))))) (k1io o nx1) (k94.fill TB i) (qM TB 0 k94 nx1 (blockT TB 0 (k1ii o)))
noncomputable def k1rb (o:kb0):An TB:= .lp [] k94 (kt5 o) fun nx1=>(k1io o nx1)
noncomputable def k1rn (o:kb0):An TB:= .nd [] .no [] (.nd [] .no [] (.nd [] .no [] (.nd [] (k1rb o) [] .no)))
noncomputable def k1hb (o:kb0):An TB:= .nd [] .no [] (k1rn o)
def k10q (x:k1lq) (o:kb0):Prop:=WPh TB kdu 30 0 ki7 (k1hb o) (k9s.st TB x) (retTQ TB kdu k9s k107 o)
theorem k1pz (o:kb0):OblH TB kdu 30 0 ki7 (k1hb o) (retTQ TB kdu k9s k107 o):=
 OblH.ofC (X:=((∀nx i,(kt5 o) nx i=(kt5 o) nx i)∧(∀nx1:NX TB k94,((∀i,(knw o nx1) i=k1e1 o nx1 i)∧True))∧True)) (by kernel_rfl) ⟨fun _ _=>rfl,fun _=>⟨fun _=>propext ⟨fun h=>h.1,fun h=>⟨h⟩⟩,trivial⟩,trivial⟩
theorem k1q7 {x:k1lq} {o:kb0} (h:k10q x o):k9s.Snd Try.prog x o:=
 Con.soundH (c:=k9s) (C:=kdu) TBok ⟨inf_ok,(all_cons kis (all_cons k1ip all_nil)),all_nil⟩ mix Try.func76 (show Try.f76.body=some ki7 by kernel_rfl) (show Try.f76.ntmps=30 by kernel_rfl) (show Try.f76.results.toList=k107 by kernel_rfl) rfl h (k1pz o)
theorem k1rm {p0:Int} {p1:Int} {p2:Int} {r0:Int} (h:
((p0=18446744069414584321)∧((!true)=true→
0=r0)∧
((!true)=false→
(p0≠0)∧Md.Loop (p0,(Int.tmod p1 p0:Int),p2,(1:Int),()) (kt5 (r0,()))))):k10q (p0,p1,p2,()) (r0,()):=WPh.of_eq (by kernel_rfl) h
theorem k1lw {r0:Int} {nx1:NX TB k94} {s0:Int} {s1:Int} {s2:Int} {s7:Int} (h:
((s0=18446744069414584321∧U64 s1∧U64 s1)∧nx1 (s0,((s1*s1%18446744069414584321):Int),(IntKind.u64.wrap (Int.tdiv s2 2):Int),s7,()))):knw (r0,()) nx1 (s0,s1,s2,s7,()):=⟨mpr_of (by kernel_rfl) h⟩
def k1i0 (r0:Int) (nx1:NX TB k94) (k1:Int→Int→Int→Prop) (s0:Int) (s1:Int) (s2:Int) (s7:Int):Prop:=
(decide (0<s2)=true→
(((Int.tmod s2 2)==1)=true→
(s0=18446744069414584321∧U64 s7∧U64 s1)∧knw (r0,()) nx1 (s0,s1,s2,((s7*s1%18446744069414584321):Int),()))∧
(((Int.tmod s2 2)==1)=false→
knw (r0,()) nx1 (s0,s1,s2,s7,())))∧
(decide (0<s2)=false→
s7=r0)
theorem k1pg {r0:Int} {s0:Int} {s1:Int} {s2:Int} {s7:Int} (inv:Int→Int→Int→Prop) (μ:Int→Int→Int→Nat) (h0:inv s1 s2 s7) (hs:∀(s1:Int) (s2:Int) (s7:Int),inv s1 s2 s7→k1i0 r0 (fun s:Int×Int×Int×Int×Unit=>((s.1=s0)∧inv s.2.1 s.2.2.1 s.2.2.2.1)∧μ s.2.1 s.2.2.1 s.2.2.2.1<μ s1 s2 s7) (fun s1q s2q s7q=>inv s1q s2q s7q∧μ s1q s2q s7q<μ s1 s2 s7) s0 s1 s2 s7):Md.Loop (s0,s1,s2,s7,()) (kt5 (r0,())):=
 ⟨⟨fun s:Int×Int×Int×Int×Unit=>(s.1=s0)∧inv s.2.1 s.2.2.1 s.2.2.2.1,fun s:Int×Int×Int×Int×Unit=>μ s.2.1 s.2.2.1 s.2.2.2.1,⟨rfl,h0⟩,fun(s0p,s1p,s2p,s7p,()) ⟨eq0,hi⟩=>by
  have eq0:s0p=s0:=eq0;subst s0p;exact mpr_of (by kernel_rfl) ((congrArg (fun k=>k1i0 r0 (fun s:Int×Int×Int×Int×Unit=>((s.1=s0)∧inv s.2.1 s.2.2.1 s.2.2.2.1)∧μ s.2.1 s.2.2.1 s.2.2.2.1<μ s1p s2p s7p) k s0 s1p s2p s7p) (lpk3 (rfl:s0=s0) inv (fun s1q s2q s7q=>μ s1q s2q s7q<μ s1p s2p s7p))).mpr (hs s1p s2p s7p hi))⟩⟩
theorem bd76:Callable Try.prog 76:=⟨by rw[Try.func76];kernel_rfl,by rw[Try.func76];show some _≠some _;decide⟩
theorem k1nh (p0:Int) (p1:Int) (p2:Int) (h:p0=18446744069414584321∧U64 p1∧U64 p2):k10q (p0,p1,p2,()) (((pw p1 p2):Int),()):=by
 obtain⟨rfl,h1,h2⟩:=h
 refine k1rm ⟨rfl,fun h=>by simp at h,fun _=>⟨by omega,?_⟩⟩
 rw[tmod_nn _ _ h1.1]
 refine k1pg (fun a e r=>(0≤a∧a<18446744069414584321)∧U64 e∧(0≤r∧r<18446744069414584321)∧(r*a^e.toNat)%18446744069414584321=pw p1 p2) (fun a e r=>e.toNat) ⟨by omega,h2,by omega,by rw[Int.one_mul,k16x];rfl⟩ ?_
 rintro a e r ⟨ha,he,hr,hv⟩
 have hpow:∀k:Nat,a^(2*k)=(a*a)^k:=fun k=>by rw[Int.pow_mul];congr 1;rw[Int.pow_succ,Int.pow_succ,Int.pow_zero,Int.one_mul]
 have jj:∀nx r',(0≤r'∧r' <18446744069414584321)→0<e→(r' *(a*a)^(e/2).toNat)%18446744069414584321=pw p1 p2→(∀a',(0≤a'∧a' <18446744069414584321)→r' *a' ^(e/2).toNat%18446744069414584321=pw p1 p2→nx ((18446744069414584321:Int),a',(e/2:Int),r',()))→knw ((pw p1 p2:Int),()) nx ((18446744069414584321:Int),a,e,r',()):=by
  intro nx r' hr' he' hv' hn
  refine k1lw ⟨⟨rfl,by omega,by omega⟩,?_⟩
  rw[tdiv_nn _ _ he.1,wu (e/2) (by omega) (by omega)]
  refine hn _ ⟨Int.emod_nonneg _ (by omega),Int.emod_lt_of_pos _ (by omega)⟩ ?_
  rw[←hv',Int.mul_emod,Int.mul_emod r' ((a*a)^_),k16x]
 refine⟨fun h=> ?_,fun h=> ?_⟩
 ·have h:=of_decide_eq_true h
  rw[tmod_nn _ _ he.1]
  have nxt:∀a' r',(0≤a'∧a' <18446744069414584321)→(0≤r'∧r' <18446744069414584321)→r' *a' ^(e/2).toNat%18446744069414584321=pw p1 p2→((0≤a'∧a' <18446744069414584321)∧U64 (e/2)∧(0≤r'∧r' <18446744069414584321)∧r' *a' ^(e/2).toNat%18446744069414584321=pw p1 p2)∧(e/2).toNat<e.toNat:=fun a' r' h1 h2 h3=>⟨⟨h1,⟨by omega,by omega⟩,h2,h3⟩,by omega⟩
  refine⟨fun h1=>⟨⟨rfl,by omega,by omega⟩,?_⟩,fun h1=> ?_⟩
  ·have h1:e%2=1:=by simpa using h1
   refine jj _ _ ⟨Int.emod_nonneg _ (by omega),Int.emod_lt_of_pos _ (by omega)⟩ h ?_ fun a' ha' hv' =>⟨⟨rfl,(nxt a' _ ha' ⟨Int.emod_nonneg _ (by omega),Int.emod_lt_of_pos _ (by omega)⟩ hv').1⟩,(nxt a' _ ha' ⟨Int.emod_nonneg _ (by omega),Int.emod_lt_of_pos _ (by omega)⟩ hv').2⟩
   rw[←hv,show e.toNat=2*(e/2).toNat+1 by omega,Int.pow_succ,hpow,Int.mul_emod,Int.emod_emod_of_dvd _ (Int.dvd_refl _),←Int.mul_emod]
   congr 1
   grind
  ·have h1:¬e%2=1:=by simpa using h1
   refine jj _ _ hr h ?_ fun a' ha' hv' =>⟨⟨rfl,(nxt a' _ ha' hr hv').1⟩,(nxt a' _ ha' hr hv').2⟩
   rw[←hv,←hpow,show e.toNat=2*(e/2).toNat by omega]
 ·have h:¬0<e:=of_decide_eq_false h
  rw[show e.toNat=0 by omega,Int.pow_zero,Int.mul_one,Int.emod_eq_of_lt hr.1 hr.2]at hv
  exact hv
noncomputable def k1dr:Con TB.den:=k9s.fnR (fun x=>(fun(p0:Int) (p1:Int) (p2:Int)=>p0=18446744069414584321∧U64 p1∧U64 p2) x.1 x.2.1 x.2.2.1) fun x=>(fun(p0:Int) (p1:Int) (p2:Int)=>(((pw p1 p2):Int),())) x.1 x.2.1 x.2.2.1
theorem k1r6:k1dr.Ok Try.prog TB:=Con.ok_fn k9s bd76 fun x h=>k1q7 (k1nh x.1 x.2.1 x.2.2.1 h)
def k65:Con TB.den:=Con.mk0 77 [.one (.d (.int .u64)),.one (.d (.int .i64)),.one (.d (.int .i64))] [] (.one (.one (.d (.int .u64)))) []
abbrev k15o:=HL TB.den (hsT k65.ins (hsOs k65.pre))
abbrev kob:=HL TB.den (hsV k65.res (hsOs k65.post))
noncomputable def kg7:Cx TB:=⟨inf,[kd1],[],4,[]⟩
noncomputable def kpt:Code:=Try.f77.body.getD .skip
noncomputable def ku2:List ResultVar:=Try.f77.results.toList
noncomputable def k13c (o:kob):An TB:= .no
def kp2 (x:k15o) (o:kob):Prop:=WPh TB kg7 35 0 kpt (k13c o) (k65.st TB x) (retTQ TB kg7 k65 ku2 o)
theorem k1fl (o:kob):OblH TB kg7 35 0 kpt (k13c o) (retTQ TB kg7 k65 ku2 o):=
 OblH.ofC (X:=True) (by kernel_rfl) trivial
theorem k1ea {x:k15o} {o:kob} (h:kp2 x o):k65.Snd Try.prog x o:=
 Con.soundH (c:=k65) (C:=kg7) TBok ⟨inf_ok,(all_cons kis all_nil),all_nil⟩ mix Try.func77 (show Try.f77.body=some kpt by kernel_rfl) (show Try.f77.ntmps=35 by kernel_rfl) (show Try.f77.results.toList=ku2 by kernel_rfl) rfl h (k1fl o)
theorem k1ig {p0:Int} {p1:Int} {p2:Int} {r0:Int} (h:
((p0=18446744069414584321)∧((!true)=true→
0=r0)∧
((!true)=false→
(decide (p1<0)=true→
0=r0)∧
(decide (p1<0)=false→
(decide (7<p1)=true→
0=r0)∧
(decide (7<p1)=false→
(decide (p2<0)=true→
0=r0)∧
(decide (p2<0)=false→
(decide (2<p2)=true→
0=r0)∧
(decide (2<p2)=false→
let v1:Int:=IntKind.i64.wrap ((IntKind.i64.wrap (3*p1))+p2)
let v2:Int:=IntKind.u64.wrap (IntKind.i64.wrap (v1+1))
let v3:Int:=IntKind.u64.wrap (v2*11400714819323198485)
(p0≠0)∧Int.tmod v3 p0=r0))))))):kp2 (p0,p1,p2,()) (r0,()):=WPh.of_eq (by kernel_rfl) h
theorem bd77:Callable Try.prog 77:=⟨by rw[Try.func77];kernel_rfl,by rw[Try.func77];show some _≠some _;decide⟩
theorem k1d3 (p0:Int) (p1:Int) (p2:Int) (h:p0=18446744069414584321∧(0≤p1∧p1<8)∧0≤p2∧p2<3):kp2 (p0,p1,p2,()) (((rc p1 p2):Int),()):=by
 obtain⟨rfl,h1,h2⟩:=h
 refine k1ig ⟨rfl,fun h=>by simp at h,fun _=>⟨fun h=> ?_,fun _=>⟨fun h=> ?_,fun _=>⟨fun h=> ?_,fun _=>⟨fun h=> ?_,fun _=> ?_⟩⟩⟩⟩⟩
 ·simp at h;omega
 ·simp at h;omega
 ·simp at h;omega
 ·simp at h;omega
 ·simp only[]
  rw[wi (3*p1) (by omega) (by omega),wi (3*p1+p2) (by omega) (by omega),wi (3*p1+p2+1) (by omega) (by omega),wu (3*p1+p2+1) (by omega) (by omega),u64w]
  exact⟨by omega,by rw[tmod_nn _ _ (by omega)];rfl⟩
noncomputable def k112:Con TB.den:=k65.fnR (fun x=>(fun(p0:Int) (p1:Int) (p2:Int)=>p0=18446744069414584321∧(0≤p1∧p1<8)∧0≤p2∧p2<3) x.1 x.2.1 x.2.2.1) fun x=>(fun(p0:Int) (p1:Int) (p2:Int)=>(((rc p1 p2):Int),())) x.1 x.2.1 x.2.2.1
theorem k1i4:k112.Ok Try.prog TB:=Con.ok_fn k65 bd77 fun x h=>k1ea (k1d3 x.1 x.2.1 x.2.2.1 h)
def k9o:Con TB.den:=Con.mk0 93 [.one (.d (.int .u64)),.one (.d (.sl (.int .u64)))] [] (.one (.one (.d (.int .u64)))) []
abbrev k1l4:=HL TB.den (hsT k9o.ins (hsOs k9o.pre))
abbrev klq:=HL TB.den (hsV k9o.res (hsOs k9o.post))
noncomputable def kfw:Cx TB:=⟨inf,[kqh],[],4,[]⟩
noncomputable def kng:Code:=Try.f93.body.getD .skip
noncomputable def kzq:List ResultVar:=Try.f93.results.toList
def k1qy (o:klq):=qS TB kfw 21 0 (cB (cB (cB kng))) .no (retTQ TB kfw k9o kzq o)
def koi:Tm:=⟨[],[],[0,1,5,6],[.one (.d (.int .u64)),.one (.d (.sl (.int .u64))),.one (.d (.int .u64)),.one (.d (.int .i64))],0⟩
def ksy (o:klq) (nx1:NX TB koi) (i:HL TB.den koi.hs):Prop:=WP TB kfw 21 0 (cA (cA (cB (cA (cB (cB kng)))))) .no (koi.fill TB i) (qM TB 0 koi nx1 (blockT TB 0 (k1qy o)))
noncomputable def k1re (o:klq):An TB:= .nd [] .no [] (.lp [] koi (ksy o) fun nx1=> .no)
noncomputable def k1h8 (o:klq):An TB:= .nd [] .no [] (.nd [] .no [] (.nd [] (k1re o) [] .no))
def k11i (x:k1l4) (o:klq):Prop:=WPh TB kfw 21 0 kng (k1h8 o) (k9o.st TB x) (retTQ TB kfw k9o kzq o)
theorem k1po (o:klq):OblH TB kfw 21 0 kng (k1h8 o) (retTQ TB kfw k9o kzq o):=
 OblH.ofC (X:=((∀nx i,(ksy o) nx i=(ksy o) nx i)∧(∀nx1:NX TB koi,True)∧True)) (by kernel_rfl) ⟨fun _ _=>rfl,fun _=>trivial,trivial⟩
theorem k1qf {x:k1l4} {o:klq} (h:k11i x o):k9o.Snd Try.prog x o:=
 Con.soundH (c:=k9o) (C:=kfw) TBok ⟨inf_ok,(all_cons kzs all_nil),all_nil⟩ mix Try.func93 (show Try.f93.body=some kng by kernel_rfl) (show Try.f93.ntmps=21 by kernel_rfl) (show Try.f93.results.toList=kzq by kernel_rfl) rfl h (k1po o)
theorem k1qq {p0:Int} {p1:List Int} {r0:Int} (h:
(Md.Loop (p0,p1,(0:Int),(0:Int),()) (ksy (r0,())))):k11i (p0,p1,()) (r0,()):=WPh.of_eq (by kernel_rfl) h
def k1ik (r0:Int) (k1:Int→Int→Prop) (s0:Int) (s1:List Int) (s5:Int) (s6:Int):Prop:=
(decide (s6<(s1.length:Int))=true→
(0≤s6)∧s6<(s1.length:Int)∧(s0=18446744069414584321∧U64 s5∧U64 (ix s1 s6))∧let r1:Int:=((s5+(ix s1 s6))%18446744069414584321)
k1 r1 (IntKind.i64.wrap (s6+1):Int))∧
(decide (s6<(s1.length:Int))=false→
s5=r0)
theorem k1q1 {r0:Int} {s0:Int} {s1:List Int} {s5:Int} {s6:Int} (inv:Int→Int→Prop) (μ:Int→Int→Nat) (h0:inv s5 s6) (hs:∀(s5:Int) (s6:Int),inv s5 s6→k1ik r0 (fun s5q s6q=>inv s5q s6q∧μ s5q s6q<μ s5 s6) s0 s1 s5 s6):Md.Loop (s0,s1,s5,s6,()) (ksy (r0,())):=
 ⟨⟨fun s:Int×(List Int)×Int×Int×Unit=>(s.1=s0∧s.2.1=s1)∧inv s.2.2.1 s.2.2.2.1,fun s:Int×(List Int)×Int×Int×Unit=>μ s.2.2.1 s.2.2.2.1,⟨⟨rfl,rfl⟩,h0⟩,fun(s0p,s1p,s5p,s6p,()) ⟨⟨eq0,eq1⟩,hi⟩=>by
  have eq0:s0p=s0:=eq0;subst s0p;have eq1:s1p=s1:=eq1;subst s1p;exact mpr_of (by kernel_rfl) ((congrArg (fun k=>k1ik r0 k s0 s1 s5p s6p) (lpk2 (⟨rfl,rfl⟩:s0=s0∧s1=s1) inv (fun s5q s6q=>μ s5q s6q<μ s5p s6p))).mpr (hs s5p s6p hi))⟩⟩
theorem bd93:Callable Try.prog 93:=⟨by rw[Try.func93];kernel_rfl,by rw[Try.func93];show some _≠some _;decide⟩
theorem k1oj (p0:Int) (p1:List Int) (h:p0=18446744069414584321∧Us p1∧p1.length≤9223372036854775807):k11i (p0,p1,()) (((p1.foldl (fun s x=>(s+x)%18446744069414584321) 0):Int),()):=by
 obtain⟨rfl,h1,h2⟩:=h
 refine k1qq (k1q1 (fun s i=>FoldI (fun s x=>(s+x)%18446744069414584321) 0 p1 i s∧U64 s) (fun s i=>(p1.length-i).toNat) ⟨FoldI.start,by omega⟩ ?_)
 rintro s i ⟨hi,hs⟩
 refine⟨fun hh=> ?_,fun hh=>hi.done (of_decide_eq_false hh)⟩
 have hh:=of_decide_eq_true hh
 have hx:=h1 _ (ix_mem p1 i hi.1 hh)
 have nx:=hi.next hh (by omega) rfl
 exact⟨hi.1,hh,⟨rfl,hs,hx⟩,⟨nx.1,by omega⟩,nx.2⟩
noncomputable def k1do:Con TB.den:=k9o.fnR (fun x=>(fun(p0:Int) (p1:List Int)=>p0=18446744069414584321∧Us p1∧p1.length≤9223372036854775807) x.1 x.2.1) fun x=>(fun(p0:Int) (p1:List Int)=>(((p1.foldl (fun s x=>(s+x)%18446744069414584321) 0):Int),())) x.1 x.2.1
theorem k1rl:k1do.Ok Try.prog TB:=Con.ok_fn k9o bd93 fun x h=>k1qf (k1oj x.1 x.2.1 h)
def k9p:Con TB.den:=Con.mk0 79 [.one (.d (.int .u64)),.agg [.d (.int .u64),.d (.int .u64),.d (.int .u64)]] [] (.one (.agg [.d (.int .u64),.d (.int .u64),.d (.int .u64)])) []
abbrev k1ln:=HL TB.den (hsT k9p.ins (hsOs k9p.pre))
abbrev kmx:=HL TB.den (hsV k9p.res (hsOs k9p.post))
noncomputable def kg9:Cx TB:=⟨inf,[k1do,kqh],[],4,[]⟩
noncomputable def klp:Code:=Try.f79.body.getD .skip
noncomputable def kzz:List ResultVar:=Try.f79.results.toList
def k1qn (o:kmx):=qS TB kg9 30 0 (cB (cB (cB (cB klp)))) .no (retTQ TB kg9 k9p kzz o)
def knv:Tm:=⟨[0,1,3],[.cells [.d (.int .u64),.d (.int .u64),.d (.int .u64)],.cells [.d (.int .u64),.d (.int .u64),.d (.int .u64)],.cells [.d (.int .u64),.d (.int .u64),.d (.int .u64)]],[0,3,4,5,6,7],[.one (.d (.int .u64)),.one (.ptr 0 0),.one (.ptr 1 0),.one (.d (.int .u64)),.one (.ptr 2 0),.one (.d (.int .i64))],4⟩
def ktl (o:kmx) (nx1:NX TB knv) (i:HL TB.den knv.hs):Prop:=WP TB kg9 30 0 (cA (cA (cB (cA (cB (cB (cB klp))))))) .no (knv.fill TB i) (qM TB 0 knv nx1 (blockT TB 0 (k1qn o)))
noncomputable def k1qk (o:kmx):An TB:= .nd [] .no [] (.lp [] knv (ktl o) fun nx1=> .no)
noncomputable def k1hp (o:kmx):An TB:= .nd [] .no [] (.nd [] .no [] (.nd [] .no [] (.nd [] (k1qk o) [] .no)))
def k111 (x:k1ln) (o:kmx):Prop:=WPh TB kg9 30 0 klp (k1hp o) (k9p.st TB x) (retTQ TB kg9 k9p kzz o)
theorem k1pw (o:kmx):OblH TB kg9 30 0 klp (k1hp o) (retTQ TB kg9 k9p kzz o):=
 OblH.ofC (X:=((∀nx i,(ktl o) nx i=(ktl o) nx i)∧(∀nx1:NX TB knv,True)∧True)) (by kernel_rfl) ⟨fun _ _=>rfl,fun _=>trivial,trivial⟩
theorem k1pr {x:k1ln} {o:kmx} (h:k111 x o):k9p.Snd Try.prog x o:=
 Con.soundH (c:=k9p) (C:=kg9) TBok ⟨inf_ok,(all_cons k1rl (all_cons kzs all_nil)),all_nil⟩ mix Try.func79 (show Try.f79.body=some klp by kernel_rfl) (show Try.f79.ntmps=30 by kernel_rfl) (show Try.f79.results.toList=kzz by kernel_rfl) rfl h (k1pw o)
theorem k1qo {p0:Int} {p1:TA3} {r0:TA3} (h:
((p0=18446744069414584321∧Us [p1.a0,p1.a1,p1.a2]∧[p1.a0,p1.a1,p1.a2].length≤9223372036854775807)∧let r1:Int:=([p1.a0,p1.a1,p1.a2].foldl (fun s x=>(s+x)%18446744069414584321) 0)
Md.Loop (p0,r1,(0:Int),p1.a0,p1.a1,p1.a2,(0:Int),(0:Int),(0:Int),(0:Int),(0:Int),(0:Int),()) (ktl (r0.a0,r0.a1,r0.a2,())))):k111 (p0,p1.a0,p1.a1,p1.a2,()) (r0.a0,r0.a1,r0.a2,()):=WPh.of_eq (by kernel_rfl) h
def k1i2 (r0:TA3) (k1:Int→Int→Int→Int→Prop) (s0:Int) (s5:Int) (h0_0:Int) (h0_1:Int) (h0_2:Int) (h1_0:Int) (h1_1:Int) (h1_2:Int) (s7:Int) (h3_0:Int) (h3_1:Int) (h3_2:Int):Prop:=
(decide (s7<3)=true→
(0≤s7∧s7<(3:Int))∧(0≤s7∧s7<(3:Int))∧(s0=18446744069414584321∧U64 (ix [h0_0,h0_1,h0_2] s7)∧U64 s5)∧let r2:Int:=(((ix [h0_0,h0_1,h0_2] s7)+s5)%18446744069414584321)
(0≤s7∧s7<(3:Int))∧(0≤s7∧s7<(3:Int))∧k1 (IntKind.i64.wrap (s7+1):Int) ((bif decide (s7=(0:Int))then r2 else h3_0):Int) ((bif decide (s7=(1:Int))then r2 else h3_1):Int) ((bif decide (s7=(2:Int))then r2 else h3_2):Int))∧
(decide (s7<3)=false→
h3_0=r0.a0∧h3_1=r0.a1∧h3_2=r0.a2)
theorem k1pl {r0:TA3} {s0:Int} {s5:Int} {h0_0:Int} {h0_1:Int} {h0_2:Int} {h1_0:Int} {h1_1:Int} {h1_2:Int} {s7:Int} {h3_0:Int} {h3_1:Int} {h3_2:Int} (inv:Int→Int→Int→Int→Prop) (μ:Int→Int→Int→Int→Nat) (h0:inv s7 h3_0 h3_1 h3_2) (hs:∀(s7:Int) (h3_0:Int) (h3_1:Int) (h3_2:Int),inv s7 h3_0 h3_1 h3_2→k1i2 r0 (fun s7q h3_0q h3_1q h3_2q=>inv s7q h3_0q h3_1q h3_2q∧μ s7q h3_0q h3_1q h3_2q<μ s7 h3_0 h3_1 h3_2) s0 s5 h0_0 h0_1 h0_2 h1_0 h1_1 h1_2 s7 h3_0 h3_1 h3_2):Md.Loop (s0,s5,s7,h0_0,h0_1,h0_2,h1_0,h1_1,h1_2,h3_0,h3_1,h3_2,()) (ktl (r0.a0,r0.a1,r0.a2,())):=
 ⟨⟨fun s:Int×Int×Int×Int×Int×Int×Int×Int×Int×Int×Int×Int×Unit=>(s.1=s0∧s.2.1=s5∧s.2.2.2.1=h0_0∧s.2.2.2.2.1=h0_1∧s.2.2.2.2.2.1=h0_2∧s.2.2.2.2.2.2.1=h1_0∧s.2.2.2.2.2.2.2.1=h1_1∧s.2.2.2.2.2.2.2.2.1=h1_2)∧inv s.2.2.1 s.2.2.2.2.2.2.2.2.2.1 s.2.2.2.2.2.2.2.2.2.2.1 s.2.2.2.2.2.2.2.2.2.2.2.1,fun s:Int×Int×Int×Int×Int×Int×Int×Int×Int×Int×Int×Int×Unit=>μ s.2.2.1 s.2.2.2.2.2.2.2.2.2.1 s.2.2.2.2.2.2.2.2.2.2.1 s.2.2.2.2.2.2.2.2.2.2.2.1,⟨⟨rfl,rfl,rfl,rfl,rfl,rfl,rfl,rfl⟩,h0⟩,fun(s0p,s5p,s7p,h0_0p,h0_1p,h0_2p,h1_0p,h1_1p,h1_2p,h3_0p,h3_1p,h3_2p,()) ⟨⟨eq0,eq1,eq2,eq3,eq4,eq5,eq6,eq7⟩,hi⟩=>by
  have eq0:s0p=s0:=eq0;subst s0p;have eq1:s5p=s5:=eq1;subst s5p;have eq2:h0_0p=h0_0:=eq2;subst h0_0p;have eq3:h0_1p=h0_1:=eq3;subst h0_1p;have eq4:h0_2p=h0_2:=eq4;subst h0_2p;have eq5:h1_0p=h1_0:=eq5;subst h1_0p;have eq6:h1_1p=h1_1:=eq6;subst h1_1p;have eq7:h1_2p=h1_2:=eq7;subst h1_2p;exact mpr_of (by kernel_rfl) ((congrArg (fun k=>k1i2 r0 k s0 s5 h0_0 h0_1 h0_2 h1_0 h1_1 h1_2 s7p h3_0p h3_1p h3_2p) (lpk4 (⟨rfl,rfl,rfl,rfl,rfl,rfl,rfl,rfl⟩:s0=s0∧s5=s5∧h0_0=h0_0∧h0_1=h0_1∧h0_2=h0_2∧h1_0=h1_0∧h1_1=h1_1∧h1_2=h1_2) inv (fun s7q h3_0q h3_1q h3_2q=>μ s7q h3_0q h3_1q h3_2q<μ s7p h3_0p h3_1p h3_2p))).mpr (hs s7p h3_0p h3_1p h3_2p hi))⟩⟩
theorem bd79:Callable Try.prog 79:=⟨by rw[Try.func79];kernel_rfl,by rw[Try.func79];show some _≠some _;decide⟩
theorem k1oa (p0:Int) (p1:TA3) (h:p0=18446744069414584321∧S3 p1):k111 (p0,p1.a0,p1.a1,p1.a2,()) (((mixS p1).a0:Int),((mixS p1).a1:Int),((mixS p1).a2:Int),()):=by
 obtain⟨rfl,h0,h1,h2⟩:=h
 have e:[p1.a0,p1.a1,p1.a2].foldl (fun s x=>(s+x)%18446744069414584321) 0=((p1.a0+p1.a1)%18446744069414584321+p1.a2)%18446744069414584321:=by
  show(((0+p1.a0)%18446744069414584321+p1.a1)%18446744069414584321+p1.a2)%18446744069414584321=_
  omega
 refine k1qo (r0:=mixS p1) ⟨⟨rfl,?_,by simp⟩,?_⟩
 ·intro x hx
  simp only[List.mem_cons,List.not_mem_nil,or_false]at hx
  rcases hx with rfl|rfl|rfl
  ·exact h0
  ·exact h1
  ·exact h2
 rw[e]
 have hu:U64 (((p1.a0+p1.a1)%18446744069414584321+p1.a2)%18446744069414584321):=⟨by omega,by omega⟩
 generalize hg:((p1.a0+p1.a1)%18446744069414584321+p1.a2)%18446744069414584321=t at *
 refine k1pl (r0:=mixS p1) (fun i x y z=>(i=0)∨(i=1∧x=(p1.a0+t)%18446744069414584321)∨(i=2∧x=(p1.a0+t)%18446744069414584321∧y=(p1.a1+t)%18446744069414584321)∨(i=3∧x=(p1.a0+t)%18446744069414584321∧y=(p1.a1+t)%18446744069414584321∧z=(p1.a2+t)%18446744069414584321)) (fun i _ _ _=>(3-i).toNat) (.inl rfl) ?_
 intro i x y z hi
 refine⟨fun hh=> ?_,fun hh=> ?_⟩
 ·have hh:=of_decide_eq_true hh
  rcases hi with rfl|⟨rfl,rfl⟩|⟨rfl,rfl,rfl⟩|⟨rfl,_⟩
  ·exact⟨by omega,by omega,⟨rfl,h0,hu⟩,by omega,by omega,.inr (.inl ⟨rfl,rfl⟩),by decide⟩
  ·exact⟨by omega,by omega,⟨rfl,h1,hu⟩,by omega,by omega,.inr (.inr (.inl ⟨rfl,rfl,rfl⟩)),by decide⟩
  ·exact⟨by omega,by omega,⟨rfl,h2,hu⟩,by omega,by omega,.inr (.inr (.inr ⟨rfl,rfl,rfl,rfl⟩)),by decide⟩
  ·omega
 ·have hh:=of_decide_eq_false hh
  rcases hi with rfl|⟨rfl,rfl⟩|⟨rfl,rfl,rfl⟩|⟨rfl,rfl,rfl,rfl⟩
  ·omega
  ·omega
  ·omega
  ·unfold mixS
   rw[hg]
   exact⟨rfl,rfl,rfl⟩
noncomputable def k1e5:Con TB.den:=k9p.fnR (fun x=>(fun(p0:Int) (p1:TA3)=>p0=18446744069414584321∧S3 p1) x.1 (TA3.mk x.2.1 x.2.2.1 x.2.2.2.1)) fun x=>(fun(p0:Int) (p1:TA3)=>(((mixS p1).a0:Int),((mixS p1).a1:Int),((mixS p1).a2:Int),())) x.1 (TA3.mk x.2.1 x.2.2.1 x.2.2.2.1)
theorem k1r3:k1e5.Ok Try.prog TB:=Con.ok_fn k9p bd79 fun x h=>k1pr (k1oa x.1 (TA3.mk x.2.1 x.2.2.1 x.2.2.2.1) h)
def k5x:Con TB.den:=Con.mk0 52 [.one (.d (.int .u64)),.agg [.d (.int .u64),.d (.int .u64),.d (.int .u64)]] [] (.one (.agg [.d (.int .u64),.d (.int .u64),.d (.int .u64)])) []
abbrev k186:=HL TB.den (hsT k5x.ins (hsOs k5x.pre))
abbrev k5c:=HL TB.den (hsV k5x.res (hsOs k5x.post))
noncomputable def k72:Cx TB:=⟨inf,[kd1,k112,kqh,k123,k1dr,k1e5],[],4,[]⟩
noncomputable def k8r:Code:=Try.f52.body.getD .skip
noncomputable def kod:List ResultVar:=Try.f52.results.toList
def k15m (o:k5c):=qS TB k72 38 0 (cB (cB (cB k8r))) .no (retTQ TB k72 k5x kod o)
def k3i:Tm:=⟨[0,1],[.cells [.d (.int .u64),.d (.int .u64),.d (.int .u64)],.cells [.d (.int .u64),.d (.int .u64),.d (.int .u64)]],[0,3,4,5],[.one (.d (.int .u64)),.one (.ptr 0 0),.one (.ptr 1 0),.one (.d (.int .i64))],2⟩
def k1k5 (o:k5c) (nx2:NX TB k3i):=qS TB k72 38 0 (cB (cB (cA (cA (cB (cA (cB (cB k8r)))))))) .no (qM TB 0 k3i nx2 (blockT TB 0 (k15m o)))
def k1jq (o:k5c) (nx2:NX TB k3i):=qS TB k72 38 0 (cB (cA (cA (cB (cA (cA (cB (cA (cB (cB k8r)))))))))) .no (blockT TB 1 (k1k5 o nx2))
def kbc:Tm:=⟨[0,1],[.cells [.d (.int .u64),.d (.int .u64),.d (.int .u64)],.cells [.d (.int .u64),.d (.int .u64),.d (.int .u64)]],[0,3,4,5,6],[.one (.d (.int .u64)),.one (.ptr 0 0),.one (.ptr 1 0),.one (.d (.int .i64)),.one (.d (.int .i64))],2⟩
def k1kj (o:k5c) (nx2:NX TB k3i) (nx1:NX TB kbc):=qM TB 0 kbc nx1 (blockT TB 2 (k1jq o nx2))
def ki6 (o:k5c) (nx2:NX TB k3i) (nx1:NX TB kbc) (i:HL TB.den kbc.hs):Prop:=WP TB k72 38 0 (cA (cA (cB (cA (cA (cA (cB (cA (cA (cB (cA (cB (cB k8r))))))))))))) .no (kbc.fill TB i) (k1kj o nx2 nx1)
noncomputable def k1jr (o:k5c) (nx2:NX TB k3i):An TB:= .nd [] .no [] (.lp [] kbc (ki6 o nx2) fun nx1=> .no)
noncomputable def k15f (o:k5c) (nx2:NX TB k3i):An TB:= .nd [] .no [] (.nd [] (.nd [] (k1jr o nx2) [] .no) [] .no)
def kii (o:k5c) (nx2:NX TB k3i) (i:HL TB.den k3i.hs):Prop:=WP TB k72 38 0 (cA (cA (cB (cA (cB (cB k8r)))))) (k15f o nx2) (k3i.fill TB i) (qM TB 0 k3i nx2 (blockT TB 0 (k15m o)))
noncomputable def k1im (o:k5c):An TB:= .lp [] k3i (kii o) fun nx2=>(k15f o nx2)
noncomputable def k1hr (o:k5c):An TB:= .nd [] .no [] (.nd [] (.nd [] .no [] (k1im o)) [] .no)
noncomputable def k15s (o:k5c):An TB:= .nd [] .no [] (k1hr o)
def kry (x:k186) (o:k5c):Prop:=WPh TB k72 38 0 k8r (k15s o) (k5x.st TB x) (retTQ TB k72 k5x kod o)
theorem k1i7 (o:k5c):OblH TB k72 38 0 k8r (k15s o) (retTQ TB k72 k5x kod o):=
 OblH.ofC (X:=((∀nx i,(kii o) nx i=(kii o) nx i)∧(∀nx2:NX TB k3i,((∀nx i,(ki6 o nx2) nx i=(ki6 o nx2) nx i)∧(∀nx1:NX TB kbc,True)∧True))∧True)) (by kernel_rfl) ⟨fun _ _=>rfl,fun _=>⟨fun _ _=>rfl,fun _=>trivial,trivial⟩,trivial⟩
theorem k1gt {x:k186} {o:k5c} (h:kry x o):k5x.Snd Try.prog x o:=
 Con.soundH (c:=k5x) (C:=k72) TBok ⟨inf_ok,(all_cons kis (all_cons k1i4 (all_cons kzs (all_cons k1hd (all_cons k1r6 (all_cons k1r3 all_nil)))))),all_nil⟩ mix Try.func52 (show Try.f52.body=some k8r by kernel_rfl) (show Try.f52.ntmps=38 by kernel_rfl) (show Try.f52.results.toList=kod by kernel_rfl) rfl h (k1i7 o)
theorem k1jy {p0:Int} {p1:TA3} {r0:TA3} (h:
((p0=18446744069414584321)∧((!true)=true→
0=r0.a0∧0=r0.a1∧0=r0.a2)∧
((!true)=false→
Md.Loop (p0,(0:Int),p1.a0,p1.a1,p1.a2,(0:Int),(0:Int),(0:Int),()) (kii (r0.a0,r0.a1,r0.a2,()))))):kry (p0,p1.a0,p1.a1,p1.a2,()) (r0.a0,r0.a1,r0.a2,()):=WPh.of_eq (by kernel_rfl) h
def k14q (r0:TA3) (nx2:NX TB k3i) (k2:Int→Int→Int→Int→Prop) (s0:Int) (h1_0:Int) (h1_1:Int) (h1_2:Int) (s5:Int) (h0_0:Int) (h0_1:Int) (h0_2:Int):Prop:=
(decide (s5<8)=true→
Md.Loop (s0,s5,(0:Int),h0_0,h0_1,h0_2,h1_0,h1_1,h1_2,()) (ki6 (r0.a0,r0.a1,r0.a2,()) nx2))∧
(decide (s5<8)=false→
h0_0=r0.a0∧h0_1=r0.a1∧h0_2=r0.a2)
theorem k1hs {r0:TA3} {s0:Int} {h1_0:Int} {h1_1:Int} {h1_2:Int} {s5:Int} {h0_0:Int} {h0_1:Int} {h0_2:Int} (inv:Int→Int→Int→Int→Prop) (μ:Int→Int→Int→Int→Nat) (h0:inv s5 h0_0 h0_1 h0_2) (hs:∀(s5:Int) (h0_0:Int) (h0_1:Int) (h0_2:Int),inv s5 h0_0 h0_1 h0_2→k14q r0 (fun s:Int×Int×Int×Int×Int×Int×Int×Int×Unit=>((s.1=s0∧s.2.2.2.2.2.1=h1_0∧s.2.2.2.2.2.2.1=h1_1∧s.2.2.2.2.2.2.2.1=h1_2)∧inv s.2.1 s.2.2.1 s.2.2.2.1 s.2.2.2.2.1)∧μ s.2.1 s.2.2.1 s.2.2.2.1 s.2.2.2.2.1<μ s5 h0_0 h0_1 h0_2) (fun s5q h0_0q h0_1q h0_2q=>inv s5q h0_0q h0_1q h0_2q∧μ s5q h0_0q h0_1q h0_2q<μ s5 h0_0 h0_1 h0_2) s0 h1_0 h1_1 h1_2 s5 h0_0 h0_1 h0_2):Md.Loop (s0,s5,h0_0,h0_1,h0_2,h1_0,h1_1,h1_2,()) (kii (r0.a0,r0.a1,r0.a2,())):=
 ⟨⟨fun s:Int×Int×Int×Int×Int×Int×Int×Int×Unit=>(s.1=s0∧s.2.2.2.2.2.1=h1_0∧s.2.2.2.2.2.2.1=h1_1∧s.2.2.2.2.2.2.2.1=h1_2)∧inv s.2.1 s.2.2.1 s.2.2.2.1 s.2.2.2.2.1,fun s:Int×Int×Int×Int×Int×Int×Int×Int×Unit=>μ s.2.1 s.2.2.1 s.2.2.2.1 s.2.2.2.2.1,⟨⟨rfl,rfl,rfl,rfl⟩,h0⟩,fun(s0p,s5p,h0_0p,h0_1p,h0_2p,h1_0p,h1_1p,h1_2p,()) ⟨⟨eq0,eq1,eq2,eq3⟩,hi⟩=>by
  have eq0:s0p=s0:=eq0;subst s0p;have eq1:h1_0p=h1_0:=eq1;subst h1_0p;have eq2:h1_1p=h1_1:=eq2;subst h1_1p;have eq3:h1_2p=h1_2:=eq3;subst h1_2p;exact mpr_of (by kernel_rfl) ((congrArg (fun k=>k14q r0 (fun s:Int×Int×Int×Int×Int×Int×Int×Int×Unit=>((s.1=s0∧s.2.2.2.2.2.1=h1_0∧s.2.2.2.2.2.2.1=h1_1∧s.2.2.2.2.2.2.2.1=h1_2)∧inv s.2.1 s.2.2.1 s.2.2.2.1 s.2.2.2.2.1)∧μ s.2.1 s.2.2.1 s.2.2.2.1 s.2.2.2.2.1<μ s5p h0_0p h0_1p h0_2p) k s0 h1_0 h1_1 h1_2 s5p h0_0p h0_1p h0_2p) (lpk4 (⟨rfl,rfl,rfl,rfl⟩:s0=s0∧h1_0=h1_0∧h1_1=h1_1∧h1_2=h1_2) inv (fun s5q h0_0q h0_1q h0_2q=>μ s5q h0_0q h0_1q h0_2q<μ s5p h0_0p h0_1p h0_2p))).mpr (hs s5p h0_0p h0_1p h0_2p hi))⟩⟩
def k159 (r0:TA3) (nx2:NX TB k3i) (k1:Int→Int→Int→Int→Prop) (s0:Int) (s5:Int) (h1_0:Int) (h1_1:Int) (h1_2:Int) (s6:Int) (h0_0:Int) (h0_1:Int) (h0_2:Int):Prop:=
(decide (s6<3)=true→
(0≤s6∧s6<(3:Int))∧(0≤s6∧s6<(3:Int))∧(s0=18446744069414584321∧(0≤s5∧s5<8)∧0≤s6∧s6<3)∧(s0=18446744069414584321∧U64 (ix [h0_0,h0_1,h0_2] s6)∧U64 (rc s5 s6))∧let r1:Int:=(((ix [h0_0,h0_1,h0_2] s6)+(rc s5 s6))%18446744069414584321)
(s0=18446744069414584321)∧(s0=18446744069414584321∧U64 r1∧U64 (7:Int))∧(0≤s6∧s6<(3:Int))∧(0≤s6∧s6<(3:Int))∧k1 (IntKind.i64.wrap (s6+1):Int) ((bif decide (s6=(0:Int))then(pw r1 (7:Int))else h0_0):Int) ((bif decide (s6=(1:Int))then(pw r1 (7:Int))else h0_1):Int) ((bif decide (s6=(2:Int))then(pw r1 (7:Int))else h0_2):Int))∧
(decide (s6<3)=false→
(s0=18446744069414584321∧S3 (TA3.mk h0_0 h0_1 h0_2))∧nx2 (s0,(IntKind.i64.wrap (s5+1):Int),((mixS (TA3.mk h0_0 h0_1 h0_2)).a0:Int),((mixS (TA3.mk h0_0 h0_1 h0_2)).a1:Int),((mixS (TA3.mk h0_0 h0_1 h0_2)).a2:Int),h1_0,h1_1,h1_2,()))
theorem k1h9 {r0:TA3} {nx2:NX TB k3i} {s0:Int} {s5:Int} {h1_0:Int} {h1_1:Int} {h1_2:Int} {s6:Int} {h0_0:Int} {h0_1:Int} {h0_2:Int} (inv:Int→Int→Int→Int→Prop) (μ:Int→Int→Int→Int→Nat) (h0:inv s6 h0_0 h0_1 h0_2) (hs:∀(s6:Int) (h0_0:Int) (h0_1:Int) (h0_2:Int),inv s6 h0_0 h0_1 h0_2→k159 r0 nx2 (fun s6q h0_0q h0_1q h0_2q=>inv s6q h0_0q h0_1q h0_2q∧μ s6q h0_0q h0_1q h0_2q<μ s6 h0_0 h0_1 h0_2) s0 s5 h1_0 h1_1 h1_2 s6 h0_0 h0_1 h0_2):Md.Loop (s0,s5,s6,h0_0,h0_1,h0_2,h1_0,h1_1,h1_2,()) (ki6 (r0.a0,r0.a1,r0.a2,()) nx2):=
 ⟨⟨fun s:Int×Int×Int×Int×Int×Int×Int×Int×Int×Unit=>(s.1=s0∧s.2.1=s5∧s.2.2.2.2.2.2.1=h1_0∧s.2.2.2.2.2.2.2.1=h1_1∧s.2.2.2.2.2.2.2.2.1=h1_2)∧inv s.2.2.1 s.2.2.2.1 s.2.2.2.2.1 s.2.2.2.2.2.1,fun s:Int×Int×Int×Int×Int×Int×Int×Int×Int×Unit=>μ s.2.2.1 s.2.2.2.1 s.2.2.2.2.1 s.2.2.2.2.2.1,⟨⟨rfl,rfl,rfl,rfl,rfl⟩,h0⟩,fun(s0p,s5p,s6p,h0_0p,h0_1p,h0_2p,h1_0p,h1_1p,h1_2p,()) ⟨⟨eq0,eq1,eq2,eq3,eq4⟩,hi⟩=>by
  have eq0:s0p=s0:=eq0;subst s0p;have eq1:s5p=s5:=eq1;subst s5p;have eq2:h1_0p=h1_0:=eq2;subst h1_0p;have eq3:h1_1p=h1_1:=eq3;subst h1_1p;have eq4:h1_2p=h1_2:=eq4;subst h1_2p;exact mpr_of (by kernel_rfl) ((congrArg (fun k=>k159 r0 nx2 k s0 s5 h1_0 h1_1 h1_2 s6p h0_0p h0_1p h0_2p) (lpk4 (⟨rfl,rfl,rfl,rfl,rfl⟩:s0=s0∧s5=s5∧h1_0=h1_0∧h1_1=h1_1∧h1_2=h1_2) inv (fun s6q h0_0q h0_1q h0_2q=>μ s6q h0_0q h0_1q h0_2q<μ s6p h0_0p h0_1p h0_2p))).mpr (hs s6p h0_0p h0_1p h0_2p hi))⟩⟩
theorem bd52:Callable Try.prog 52:=⟨by rw[Try.func52];kernel_rfl,by rw[Try.func52];show some _≠some _;decide⟩
theorem k1gb (p0:Int) (p1:TA3) (h:p0=18446744069414584321∧S3 p1):kry (p0,p1.a0,p1.a1,p1.a2,()) (((permS p1).a0:Int),((permS p1).a1:Int),((permS p1).a2:Int),()):=by
 obtain⟨hP,hs⟩:=h
 subst hP
 refine k1jy ⟨rfl,fun h=>by simp at h,fun _=> ?_⟩
 refine k1hs (r0:=permS p1) (fun n a b c=>0≤n∧n≤8∧(⟨a,b,c⟩:TA3)=rnds n.toNat p1∧S3 ⟨a,b,c⟩) (fun n _ _ _=>(8-n).toNat) ⟨by omega,by omega,rfl,hs⟩ ?_
 rintro n a b c ⟨g0,g1,g2,g3⟩
 refine⟨fun h=> ?_,fun h=> ?_⟩
 ·have h:=of_decide_eq_true h
  refine k1h9 (r0:=permS p1) (fun i x y z=>(i=0∧x=a∧y=b∧z=c)∨(i=1∧x=pw ((a+rc n 0)%18446744069414584321) 7∧y=b∧z=c)∨(i=2∧x=pw ((a+rc n 0)%18446744069414584321) 7∧y=pw ((b+rc n 1)%18446744069414584321) 7∧z=c)∨(i=3∧x=pw ((a+rc n 0)%18446744069414584321) 7∧y=pw ((b+rc n 1)%18446744069414584321) 7∧z=pw ((c+rc n 2)%18446744069414584321) 7)) (fun i _ _ _=>(3-i).toNat) (.inl ⟨rfl,rfl,rfl,rfl⟩) ?_
  intro i x y z hi
  have hrc:∀k,U64 (rc n k):=fun k=>by unfold rc;omega
  have hpw:∀k e,0≤pw k e∧pw k e<18446744069414584321:=fun k e=>⟨Int.emod_nonneg _ (by omega),Int.emod_lt_of_pos _ (by omega)⟩
  obtain⟨h3a,h3b,h3c⟩:=g3
  have u7:U64 7:=by decide
  have hm:∀q:Int,U64 (q%18446744069414584321):=fun q=>⟨Int.emod_nonneg _ (by omega),Int.lt_trans (Int.emod_lt_of_pos _ (by omega)) (by omega)⟩
  refine⟨fun hh=> ?_,fun hh=> ?_⟩
  ·have hh:=of_decide_eq_true hh
   rcases hi with⟨rfl,rfl,rfl,rfl⟩|⟨rfl,rfl,rfl,rfl⟩|⟨rfl,rfl,rfl,rfl⟩|⟨rfl,_⟩
   ·exact⟨by omega,by omega,⟨rfl,by omega,by omega⟩,⟨rfl,h3a,hrc _⟩,rfl,⟨rfl,hm _,u7⟩,by omega,by omega,.inr (.inl ⟨rfl,rfl,rfl,rfl⟩),by decide⟩
   ·exact⟨by omega,by omega,⟨rfl,by omega,by omega⟩,⟨rfl,h3b,hrc _⟩,rfl,⟨rfl,hm _,u7⟩,by omega,by omega,.inr (.inr (.inl ⟨rfl,rfl,rfl,rfl⟩)),by decide⟩
   ·exact⟨by omega,by omega,⟨rfl,by omega,by omega⟩,⟨rfl,h3c,hrc _⟩,rfl,⟨rfl,hm _,u7⟩,by omega,by omega,.inr (.inr (.inr ⟨rfl,rfl,rfl,rfl⟩)),by decide⟩
   ·omega
  ·have hh:=of_decide_eq_false hh
   rcases hi with⟨rfl,_⟩|⟨rfl,_⟩|⟨rfl,_⟩|⟨rfl,rfl,rfl,rfl⟩
   ·omega
   ·omega
   ·omega
   ·have e:rnds (n+1).toNat p1=rnd ⟨a,b,c⟩ n:=by
     rw[show(n+1).toNat=n.toNat+1 by omega]
     show rnd (rnds n.toNat p1) (n.toNat:Int)=_
     rw[←g2,show(n.toNat:Int)=n by omega]
    have hS:S3 (rnds (n+1).toNat p1):=by
     rw[e]
     unfold rnd mixS S3
     dsimp only
     omega
    have hinc:IntKind.i64.wrap (n+1)=n+1:=wi _ (by omega) (by omega)
    rw[hinc]
    refine⟨⟨rfl,by unfold S3;have:=hpw ((a+rc n 0)%18446744069414584321) 7;have:=hpw ((b+rc n 1)%18446744069414584321) 7;have:=hpw ((c+rc n 2)%18446744069414584321) 7;dsimp only;omega⟩,⟨⟨rfl,rfl,rfl,rfl⟩,(?_:0≤n+1∧n+1≤8∧_∧_)⟩,(?_:(8-(n+1)).toNat<(8-n).toNat)⟩
    ·refine⟨by omega,by omega,e.symm,?_⟩
     rw[e]at hS
     exact hS
    ·omega
 ·have h:=of_decide_eq_false h
  rw[show n=8 by omega]at g2
  have g2:(⟨a,b,c⟩:TA3)=permS p1:=g2
  rw[←g2]
  exact⟨rfl,rfl,rfl⟩
noncomputable def k13m:Con TB.den:=k5x.fnR (fun x=>(fun(p0:Int) (p1:TA3)=>p0=18446744069414584321∧S3 p1) x.1 (TA3.mk x.2.1 x.2.2.1 x.2.2.2.1)) fun x=>(fun(p0:Int) (p1:TA3)=>(((permS p1).a0:Int),((permS p1).a1:Int),((permS p1).a2:Int),())) x.1 (TA3.mk x.2.1 x.2.2.1 x.2.2.2.1)
theorem k1ke:k13m.Ok Try.prog TB:=Con.ok_fn k5x bd52 fun x h=>k1gt (k1gb x.1 (TA3.mk x.2.1 x.2.2.1 x.2.2.2.1) h)
def k71:Con TB.den:=Con.mk0 37 [.one (.d (.int .u64)),.one (.d (.int .u64)),.one (.d (.sl (.int .u64)))] [] (.one (.agg [.d (.int .u64),.d (.int .u64),.d (.int .u64)])) []
abbrev k1at:=HL TB.den (hsT k71.ins (hsOs k71.pre))
abbrev k41:=HL TB.den (hsV k71.res (hsOs k71.post))
noncomputable def k70:Cx TB:=⟨inf,[k142,kqh,k13m],[],4,[]⟩
noncomputable def k7x:Code:=Try.f37.body.getD .skip
noncomputable def kqp:List ResultVar:=Try.f37.results.toList
def ky4 (o:k41):=qS TB k70 60 0 (cB (cB (cB k7x))) .no (retTQ TB k70 k71 kqp o)
def k2b:Tm:=⟨[0,1],[.cells [.d (.int .u64),.d (.int .u64),.d (.int .u64)],.cells [.d (.int .u64),.d (.int .u64),.d (.int .u64)]],[0,2,6,7,8],[.one (.d (.int .u64)),.one (.d (.sl (.int .u64))),.one (.ptr 0 0),.one (.ptr 1 0),.one (.d (.int .i64))],2⟩
def k17b (o:k41) (nx1:NX TB k2b):=qS TB k70 60 0 (cB (cB (cA (cA (cB (cA (cB (cB k7x)))))))) .no (qM TB 0 k2b nx1 (blockT TB 0 (ky4 o)))
def khz:Tm:=⟨[0,1],[.cells [.d (.int .u64),.d (.int .u64),.d (.int .u64)],.cells [.d (.int .u64),.d (.int .u64),.d (.int .u64)]],[0,2,6,7,8],[.one (.d (.int .u64)),.one (.d (.sl (.int .u64))),.one (.ptr 0 0),.one (.ptr 1 0),.one (.d (.int .i64))],2⟩
def k14o (o:k41) (nx1:NX TB k2b) (i:HL TB.den khz.hs):Prop:=ghs TB [] (khz.fill TB i) fun s=>WP TB k70 60 0 (cB (cB (cA (cA (cB (cA (cA (cB (cA (cB (cB k7x))))))))))) .no s (blockT TB 1 (k17b o nx1))
structure kcw (o:k41) (nx1:NX TB k2b) (i:HL TB.den khz.hs):Prop where
 h:k14o o nx1 i
def koo:Tm:=⟨[0,1],[.cells [.d (.int .u64),.d (.int .u64),.d (.int .u64)],.cells [.d (.int .u64),.d (.int .u64),.d (.int .u64)]],[0,2,6,7,8],[.one (.d (.int .u64)),.one (.d (.sl (.int .u64))),.one (.ptr 0 0),.one (.ptr 1 0),.one (.d (.int .i64))],2⟩
def k15r (o:k41) (nx1:NX TB k2b) (i:HL TB.den koo.hs):Prop:=ghs TB [] (koo.fill TB i) fun s=>WP TB k70 60 0 (cB (cA (cA (cB (cA (cA (cB (cA (cB (cB k7x)))))))))) (.jn khz (kcw o nx1) [] .no [] .no) s (blockT TB 1 (k17b o nx1))
structure kk9 (o:k41) (nx1:NX TB k2b) (i:HL TB.den koo.hs):Prop where
 h:k15r o nx1 i
noncomputable def k17x (o:k41) (nx1:NX TB k2b):An TB:= .jn koo (kk9 o nx1) [] .no [] (.jn khz (kcw o nx1) [] .no [] .no)
def ko3:Tm:=⟨[0,1],[.cells [.d (.int .u64),.d (.int .u64),.d (.int .u64)],.cells [.d (.int .u64),.d (.int .u64),.d (.int .u64)]],[0,2,6,7,8],[.one (.d (.int .u64)),.one (.d (.sl (.int .u64))),.one (.ptr 0 0),.one (.ptr 1 0),.one (.d (.int .i64))],2⟩
def k15e (o:k41) (nx1:NX TB k2b) (i:HL TB.den ko3.hs):Prop:=ghs TB [] (ko3.fill TB i) fun s=>WP TB k70 60 0 (cB (cA (cA (cB (cA (cB (cB k7x))))))) (.nd [] (k17x o nx1) [] .no) s (qM TB 0 k2b nx1 (blockT TB 0 (ky4 o)))
structure kfl (o:k41) (nx1:NX TB k2b) (i:HL TB.den ko3.hs):Prop where
 h:k15e o nx1 i
noncomputable def k187 (o:k41) (nx1:NX TB k2b):An TB:= .jn ko3 (kfl o nx1) [] .no [] (.nd [] (k17x o nx1) [] .no)
def kkd (o:k41) (nx1:NX TB k2b) (i:HL TB.den k2b.hs):Prop:=WP TB k70 60 0 (cA (cA (cB (cA (cB (cB k7x)))))) (k187 o nx1) (k2b.fill TB i) (qM TB 0 k2b nx1 (blockT TB 0 (ky4 o)))
noncomputable def k1m9 (o:k41):An TB:= .lp [] k2b (kkd o) fun nx1=>(k187 o nx1)
noncomputable def k1mx (o:k41):An TB:= .nd [] .no [] (.nd [] (.nd [] .no [] (k1m9 o)) [] .no)
noncomputable def k176 (o:k41):An TB:= .nd [] .no [] (k1mx o)
def ku1 (x:k1at) (o:k41):Prop:=WPh TB k70 60 0 k7x (k176 o) (k71.st TB x) (retTQ TB k70 k71 kqp o)
theorem k1k9 (o:k41):OblH TB k70 60 0 k7x (k176 o) (retTQ TB k70 k71 kqp o):=
 OblH.ofC (X:=((∀nx i,(kkd o) nx i=(kkd o) nx i)∧(∀nx1:NX TB k2b,((∀i,(kfl o nx1) i=k15e o nx1 i)∧(∀i,(kk9 o nx1) i=k15r o nx1 i)∧(∀i,(kcw o nx1) i=k14o o nx1 i)∧True))∧True)) (by kernel_rfl) ⟨fun _ _=>rfl,fun _=>⟨fun _=>propext ⟨fun h=>h.1,fun h=>⟨h⟩⟩,fun _=>propext ⟨fun h=>h.1,fun h=>⟨h⟩⟩,fun _=>propext ⟨fun h=>h.1,fun h=>⟨h⟩⟩,trivial⟩,trivial⟩
theorem k1jd {x:k1at} {o:k41} (h:ku1 x o):k71.Snd Try.prog x o:=
 Con.soundH (c:=k71) (C:=k70) TBok ⟨inf_ok,(all_cons k1ip (all_cons kzs (all_cons k1ke all_nil))),all_nil⟩ mix Try.func37 (show Try.f37.body=some k7x by kernel_rfl) (show Try.f37.ntmps=60 by kernel_rfl) (show Try.f37.results.toList=kqp by kernel_rfl) rfl h (k1k9 o)
theorem k1lx {p0:Int} {p1:Int} {p2:List Int} {r0:TA3} (h:
((p0=18446744069414584321∧U64 p1∧U64 (65536:Int))∧let r1:Int:=(p1*(65536:Int)%18446744069414584321)
(p0=18446744069414584321∧U64 r1∧U64 (IntKind.u64.wrap (p2.length:Int)))∧let r2:Int:=((r1+(IntKind.u64.wrap (p2.length:Int)))%18446744069414584321)
Md.Loop (p0,p2,(0:Int),(0:Int),(0:Int),(0:Int),(0:Int),(0:Int),r2,()) (kkd (r0.a0,r0.a1,r0.a2,())))):ku1 (p0,p1,p2,()) (r0.a0,r0.a1,r0.a2,()):=WPh.of_eq (by kernel_rfl) h
theorem k1fs {r0:TA3} {nx1:NX TB k2b} {s0:Int} {s2:List Int} {s8:Int} {h0_0:Int} {h0_1:Int} {h0_2:Int} {h1_0:Int} {h1_1:Int} {h1_2:Int} (h:
((decide (s8<(s2.length:Int))=true→
(0≤s8)∧s8<(s2.length:Int)∧(s0=18446744069414584321∧U64 h1_0∧U64 (ix s2 s8))∧let r3:Int:=((h1_0+(ix s2 s8))%18446744069414584321)
kk9 (r0.a0,r0.a1,r0.a2,()) nx1 (s0,s2,s8,h0_0,h0_1,h0_2,r3,h1_1,h1_2,()))∧
(decide (s8<(s2.length:Int))=false→
kk9 (r0.a0,r0.a1,r0.a2,()) nx1 (s0,s2,s8,h0_0,h0_1,h0_2,h1_0,h1_1,h1_2,())))):kfl (r0.a0,r0.a1,r0.a2,()) nx1 (s0,s2,s8,h0_0,h0_1,h0_2,h1_0,h1_1,h1_2,()):=⟨mpr_of (by kernel_rfl) h⟩
theorem k114 {r0:TA3} {nx1:NX TB k2b} {s0:Int} {s2:List Int} {s8:Int} {h0_0:Int} {h0_1:Int} {h0_2:Int} {h1_0:Int} {h1_1:Int} {h1_2:Int} (h:
(let v4:Bool:=decide ((IntKind.i64.wrap (s8+1))<(s2.length:Int))
(v4=true→
(0≤IntKind.i64.wrap (s8+1))∧IntKind.i64.wrap (s8+1)<(s2.length:Int)∧(s0=18446744069414584321∧U64 h1_1∧U64 (ix s2 (IntKind.i64.wrap (s8+1))))∧let r5:Int:=((h1_1+(ix s2 (IntKind.i64.wrap (s8+1))))%18446744069414584321)
kcw (r0.a0,r0.a1,r0.a2,()) nx1 (s0,s2,s8,h0_0,h0_1,h0_2,h1_0,r5,h1_2,()))∧
(v4=false→
kcw (r0.a0,r0.a1,r0.a2,()) nx1 (s0,s2,s8,h0_0,h0_1,h0_2,h1_0,h1_1,h1_2,())))):kk9 (r0.a0,r0.a1,r0.a2,()) nx1 (s0,s2,s8,h0_0,h0_1,h0_2,h1_0,h1_1,h1_2,()):=⟨mpr_of (by kernel_rfl) h⟩
theorem k1fo {r0:TA3} {nx1:NX TB k2b} {s0:Int} {s2:List Int} {s8:Int} {h0_0:Int} {h0_1:Int} {h0_2:Int} {h1_0:Int} {h1_1:Int} {h1_2:Int} (h:
((s0=18446744069414584321∧S3 (TA3.mk h1_0 h1_1 h1_2))∧nx1 (s0,s2,(IntKind.i64.wrap (s8+2):Int),h0_0,h0_1,h0_2,((permS (TA3.mk h1_0 h1_1 h1_2)).a0:Int),((permS (TA3.mk h1_0 h1_1 h1_2)).a1:Int),((permS (TA3.mk h1_0 h1_1 h1_2)).a2:Int),()))):kcw (r0.a0,r0.a1,r0.a2,()) nx1 (s0,s2,s8,h0_0,h0_1,h0_2,h1_0,h1_1,h1_2,()):=⟨mpr_of (by kernel_rfl) h⟩
def k183 (r0:TA3) (nx1:NX TB k2b) (k1:Int→Int→Int→Int→Prop) (s0:Int) (s2:List Int) (h0_0:Int) (h0_1:Int) (h0_2:Int) (s8:Int) (h1_0:Int) (h1_1:Int) (h1_2:Int):Prop:=
((s8==0)=true→
kfl (r0.a0,r0.a1,r0.a2,()) nx1 (s0,s2,s8,h0_0,h0_1,h0_2,h1_0,h1_1,h1_2,()))∧
((s8==0)=false→
(decide (s8<(s2.length:Int))=true→
kfl (r0.a0,r0.a1,r0.a2,()) nx1 (s0,s2,s8,h0_0,h0_1,h0_2,h1_0,h1_1,h1_2,()))∧
(decide (s8<(s2.length:Int))=false→
h1_0=r0.a0∧h1_1=r0.a1∧h1_2=r0.a2))
theorem k1k4 {r0:TA3} {s0:Int} {s2:List Int} {h0_0:Int} {h0_1:Int} {h0_2:Int} {s8:Int} {h1_0:Int} {h1_1:Int} {h1_2:Int} (inv:Int→Int→Int→Int→Prop) (μ:Int→Int→Int→Int→Nat) (h0:inv s8 h1_0 h1_1 h1_2) (hs:∀(s8:Int) (h1_0:Int) (h1_1:Int) (h1_2:Int),inv s8 h1_0 h1_1 h1_2→k183 r0 (fun s:Int×(List Int)×Int×Int×Int×Int×Int×Int×Int×Unit=>((s.1=s0∧s.2.1=s2∧s.2.2.2.1=h0_0∧s.2.2.2.2.1=h0_1∧s.2.2.2.2.2.1=h0_2)∧inv s.2.2.1 s.2.2.2.2.2.2.1 s.2.2.2.2.2.2.2.1 s.2.2.2.2.2.2.2.2.1)∧μ s.2.2.1 s.2.2.2.2.2.2.1 s.2.2.2.2.2.2.2.1 s.2.2.2.2.2.2.2.2.1<μ s8 h1_0 h1_1 h1_2) (fun s8q h1_0q h1_1q h1_2q=>inv s8q h1_0q h1_1q h1_2q∧μ s8q h1_0q h1_1q h1_2q<μ s8 h1_0 h1_1 h1_2) s0 s2 h0_0 h0_1 h0_2 s8 h1_0 h1_1 h1_2):Md.Loop (s0,s2,s8,h0_0,h0_1,h0_2,h1_0,h1_1,h1_2,()) (kkd (r0.a0,r0.a1,r0.a2,())):=
 ⟨⟨fun s:Int×(List Int)×Int×Int×Int×Int×Int×Int×Int×Unit=>(s.1=s0∧s.2.1=s2∧s.2.2.2.1=h0_0∧s.2.2.2.2.1=h0_1∧s.2.2.2.2.2.1=h0_2)∧inv s.2.2.1 s.2.2.2.2.2.2.1 s.2.2.2.2.2.2.2.1 s.2.2.2.2.2.2.2.2.1,fun s:Int×(List Int)×Int×Int×Int×Int×Int×Int×Int×Unit=>μ s.2.2.1 s.2.2.2.2.2.2.1 s.2.2.2.2.2.2.2.1 s.2.2.2.2.2.2.2.2.1,⟨⟨rfl,rfl,rfl,rfl,rfl⟩,h0⟩,fun(s0p,s2p,s8p,h0_0p,h0_1p,h0_2p,h1_0p,h1_1p,h1_2p,()) ⟨⟨eq0,eq1,eq2,eq3,eq4⟩,hi⟩=>by
  have eq0:s0p=s0:=eq0;subst s0p;have eq1:s2p=s2:=eq1;subst s2p;have eq2:h0_0p=h0_0:=eq2;subst h0_0p;have eq3:h0_1p=h0_1:=eq3;subst h0_1p;have eq4:h0_2p=h0_2:=eq4;subst h0_2p;exact mpr_of (by kernel_rfl) ((congrArg (fun k=>k183 r0 (fun s:Int×(List Int)×Int×Int×Int×Int×Int×Int×Int×Unit=>((s.1=s0∧s.2.1=s2∧s.2.2.2.1=h0_0∧s.2.2.2.2.1=h0_1∧s.2.2.2.2.2.1=h0_2)∧inv s.2.2.1 s.2.2.2.2.2.2.1 s.2.2.2.2.2.2.2.1 s.2.2.2.2.2.2.2.2.1)∧μ s.2.2.1 s.2.2.2.2.2.2.1 s.2.2.2.2.2.2.2.1 s.2.2.2.2.2.2.2.2.1<μ s8p h1_0p h1_1p h1_2p) k s0 s2 h0_0 h0_1 h0_2 s8p h1_0p h1_1p h1_2p) (lpk4 (⟨rfl,rfl,rfl,rfl,rfl⟩:s0=s0∧s2=s2∧h0_0=h0_0∧h0_1=h0_1∧h0_2=h0_2) inv (fun s8q h1_0q h1_1q h1_2q=>μ s8q h1_0q h1_1q h1_2q<μ s8p h1_0p h1_1p h1_2p))).mpr (hs s8p h1_0p h1_1p h1_2p hi))⟩⟩
theorem bd37:Callable Try.prog 37:=⟨by rw[Try.func37];kernel_rfl,by rw[Try.func37];show some _≠some _;decide⟩
theorem k1gj (p0:Int) (p1:Int) (p2:List Int) (h:p0=18446744069414584321∧U64 p1∧Us p2∧p2.length≤1099511627776):ku1 (p0,p1,p2,()) (((absS p1 p2).a0:Int),((absS p1 p2).a1:Int),((absS p1 p2).a2:Int),()):=by
 obtain⟨hP,h1,h2,h3⟩:=h
 subst hP
 have hp:=kbn
 have hi:S3 (absI p1 p2):=by unfold absI S3;dsimp only;omega
 have e:IntKind.u64.wrap (p2.length:Int)=p2.length:=wu _ (by omega) (by omega)
 have em:(p1*65536%18446744069414584321+(p2.length:Int))%18446744069414584321=(absI p1 p2).a2:=rfl
 refine k1lx ?_
 rw[e]
 refine⟨⟨rfl,h1,by omega⟩,⟨rfl,by omega,by omega⟩,?_⟩
 rw[em]
 have j3:∀nx (i x y z:Int),0≤i→i≤p2.length→S3 ⟨x,y,z⟩→nx ((18446744069414584321:Int),p2,(i+2:Int),(0:Int),(0:Int),(0:Int),(permS ⟨x,y,z⟩).a0,(permS ⟨x,y,z⟩).a1,(permS ⟨x,y,z⟩).a2,())→kcw ((absS p1 p2).a0,(absS p1 p2).a1,(absS p1 p2).a2,()) nx ((18446744069414584321:Int),p2,i,(0:Int),(0:Int),(0:Int),x,y,z,()):=by
  intro nx i x y z g0 g1 hS hn
  refine k1fo (r0:=absS p1 p2) ?_
  rw[wi (i+2) (by omega) (by omega)]
  exact⟨⟨rfl,hS⟩,hn⟩
 refine k1k4 (r0:=absS p1 p2) (fun i a b c=>(i=0∧a=0∧b=0∧c=(absI p1 p2).a2)∨(0<i∧i≤p2.length+2∧absL (p2.drop i.toNat) ⟨a,b,c⟩=absS p1 p2∧S3 ⟨a,b,c⟩)) (fun i _ _ _=>(p2.length+4-i).toNat) (.inl ⟨rfl,rfl,rfl,rfl⟩) ?_
 intro i a b c hg
 have body:∀(i:Int) (a b c:Int),0≤i→i≤p2.length→(i<p2.length→absL (p2.drop i.toNat) ⟨a,b,c⟩=absS p1 p2)→(¬i<p2.length→permS ⟨a,b,c⟩=absS p1 p2)→S3 ⟨a,b,c⟩→∀nx,(∀x y z,absL (p2.drop (i+2).toNat) ⟨x,y,z⟩=absS p1 p2→S3 ⟨x,y,z⟩→nx ((18446744069414584321:Int),p2,(i+2:Int),(0:Int),(0:Int),(0:Int),x,y,z,()))→
   kfl ((absS p1 p2).a0,(absS p1 p2).a1,(absS p1 p2).a2,()) nx ((18446744069414584321:Int),p2,i,(0:Int),(0:Int),(0:Int),a,b,c,()):=by
  intro i a b c g0 g1 hne hnil hS nx hn
  obtain⟨h3a,h3b,h3c⟩:=hS
  refine k1fs (r0:=absS p1 p2) ⟨fun hh=> ?_,fun hh=> ?_⟩
  ·have hh:=of_decide_eq_true hh
   have hx:=h2 _ (ix_mem p2 i g0 hh)
   have g2:=hne hh
   rw[drop_ix p2 i g0 hh]at g2
   refine⟨g0,hh,⟨rfl,h3a,hx⟩,k114 (r0:=absS p1 p2) ?_⟩
   rw[wi (i+1) (by omega) (by omega)]
   refine⟨fun h5=> ?_,fun h5=> ?_⟩
   ·have h5:=of_decide_eq_true h5
    have hy:=h2 _ (ix_mem p2 (i+1) (by omega) h5)
    rw[drop_ix p2 (i+1) (by omega) h5,show i+1+1=i+2 by omega]at g2
    exact⟨by omega,h5,⟨rfl,h3b,hy⟩,j3 _ _ _ _ _ g0 g1 (S3m (by omega) (by omega) h3c) (hn _ _ _ g2 (hp _))⟩
   ·have h5:=of_decide_eq_false h5
    have ed:p2.drop (i+1).toNat=[]:=List.drop_eq_nil_of_le (by omega)
    have ed2:p2.drop (i+2).toNat=[]:=List.drop_eq_nil_of_le (by omega)
    rw[ed]at g2
    exact j3 _ _ _ _ _ g0 g1 (S3m (by omega) h3b h3c) (hn _ _ _ (by rw[ed2];exact g2) (hp _))
  ·have hh:=of_decide_eq_false hh
   refine k114 (r0:=absS p1 p2) ?_
   rw[wi (i+1) (by omega) (by omega)]
   refine⟨fun h5=> ?_,fun h5=> ?_⟩
   ·have h5:=of_decide_eq_true h5
    omega
   ·have ed2:p2.drop (i+2).toNat=[]:=List.drop_eq_nil_of_le (by omega)
    exact j3 _ _ _ _ _ g0 g1 (S3m h3a h3b h3c) (hn _ _ _ (by rw[ed2];exact hnil hh) (hp _))
 refine⟨fun h0=> ?_,fun h0=>⟨fun hh=> ?_,fun hh=> ?_⟩⟩
 ·have h0:i=0:=by simpa using h0
  rcases hg with⟨_,rfl,rfl,rfl⟩|⟨hp0,_⟩
  ·subst h0
   refine body 0 _ _ _ (by omega) (by omega) (fun hl=> ?_) (fun hl=> ?_) hi _ fun x y z k1 k2=>⟨⟨⟨rfl,rfl,rfl,rfl,rfl⟩,.inr ⟨(by omega:(0:Int)<0+2),(by omega:(0:Int)+2≤p2.length+2),k1,k2⟩⟩,(by omega:(p2.length+4-((0:Int)+2)).toNat<(p2.length+4-0:Int).toNat)⟩
   ·have hne:p2≠[]:=by rintro rfl;simp at hl
    unfold absS
    rw[if_neg hne]
    rfl
   ·have hnil:p2=[]:=List.eq_nil_of_length_eq_zero (by omega)
    unfold absS
    rw[if_pos hnil]
    rfl
  ·omega
 ·have h0:¬i=0:=by simpa using h0
  have hh:=of_decide_eq_true hh
  rcases hg with⟨h1,_⟩|⟨g0,g1,g2,g3⟩
  ·omega
  ·exact body i _ _ _ (by omega) (by omega) (fun _=>g2) (fun hl=>absurd hh hl) g3 _ fun x y z k1 k2=>⟨⟨⟨rfl,rfl,rfl,rfl,rfl⟩,.inr ⟨(by omega:0<i+2),(by omega:i+2≤p2.length+2),k1,k2⟩⟩,(by omega:(p2.length+4-(i+2)).toNat<(p2.length+4-i).toNat)⟩
 ·have h0:¬i=0:=by simpa using h0
  have hh:=of_decide_eq_false hh
  rcases hg with⟨h1,_⟩|⟨g0,g1,g2,g3⟩
  ·omega
  ·rw[List.drop_eq_nil_of_le (by omega)]at g2
   have hv:(⟨a,b,c⟩:TA3)=absS p1 p2:=g2
   rw[←hv]
   exact⟨rfl,rfl,rfl⟩
noncomputable def k14v:Con TB.den:=k71.fnR (fun x=>(fun(p0:Int) (p1:Int) (p2:List Int)=>p0=18446744069414584321∧U64 p1∧Us p2∧p2.length≤1099511627776) x.1 x.2.1 x.2.2.1) fun x=>(fun(p0:Int) (p1:Int) (p2:List Int)=>(((absS p1 p2).a0:Int),((absS p1 p2).a1:Int),((absS p1 p2).a2:Int),())) x.1 x.2.1 x.2.2.1
theorem k1mu:k14v.Ok Try.prog TB:=Con.ok_fn k71 bd37 fun x h=>k1jd (k1gj x.1 x.2.1 x.2.2.1 h)
def k9h:Con TB.den:=Con.mk0 20 [.one (.d (.int .u64)),.one (.d (.int .u64)),.one (.d (.sl (.int .u64)))] [] (.one (.one (.d (.int .u64)))) []
abbrev k1i3:=HL TB.den (hsT k9h.ins (hsOs k9h.pre))
abbrev k10e:=HL TB.den (hsV k9h.res (hsOs k9h.post))
noncomputable def kqg:Cx TB:=⟨inf,[kd1,k14v],[],4,[]⟩
noncomputable def kxv:Code:=Try.f20.body.getD .skip
noncomputable def k13x:List ResultVar:=Try.f20.results.toList
noncomputable def k1dq (o:k10e):An TB:= .no
def kyd (x:k1i3) (o:k10e):Prop:=WPh TB kqg 15 0 kxv (k1dq o) (k9h.st TB x) (retTQ TB kqg k9h k13x o)
theorem k1oe (o:k10e):OblH TB kqg 15 0 kxv (k1dq o) (retTQ TB kqg k9h k13x o):=
 OblH.ofC (X:=True) (by kernel_rfl) trivial
theorem k1o0 {x:k1i3} {o:k10e} (h:kyd x o):k9h.Snd Try.prog x o:=
 Con.soundH (c:=k9h) (C:=kqg) TBok ⟨inf_ok,(all_cons kis (all_cons k1mu all_nil)),all_nil⟩ mix Try.func20 (show Try.f20.body=some kxv by kernel_rfl) (show Try.f20.ntmps=15 by kernel_rfl) (show Try.f20.results.toList=k13x by kernel_rfl) rfl h (k1oe o)
theorem k1ps {p0:Int} {p1:Int} {p2:List Int} {r0:Int} (h:
((p0=18446744069414584321)∧((!true)=true→
0=r0)∧
((!true)=false→
(p0=18446744069414584321∧U64 p1∧Us p2∧p2.length≤1099511627776)∧(absS p1 p2).a0=r0))):kyd (p0,p1,p2,()) (r0,()):=WPh.of_eq (by kernel_rfl) h
theorem bd20:Callable Try.prog 20:=⟨by rw[Try.func20];kernel_rfl,by rw[Try.func20];show some _≠some _;decide⟩
theorem k1m0 (p0:Int) (p1:Int) (p2:List Int) (h:p0=18446744069414584321∧U64 p1∧Us p2∧p2.length≤1099511627776):kyd (p0,p1,p2,()) (((hashS p1 p2):Int),()):=by
 obtain⟨hP,h1,h2,h3⟩:=h
 subst hP
 exact k1ps ⟨rfl,fun h=>by simp at h,fun _=>⟨⟨rfl,h1,h2,h3⟩,rfl⟩⟩
noncomputable def k1bu:Con TB.den:=k9h.fnR (fun x=>(fun(p0:Int) (p1:Int) (p2:List Int)=>p0=18446744069414584321∧U64 p1∧Us p2∧p2.length≤1099511627776) x.1 x.2.1 x.2.2.1) fun x=>(fun(p0:Int) (p1:Int) (p2:List Int)=>(((hashS p1 p2):Int),())) x.1 x.2.1 x.2.2.1
theorem k1qg:k1bu.Ok Try.prog TB:=Con.ok_fn k9h bd20 fun x h=>k1o0 (k1m0 x.1 x.2.1 x.2.2.1 h)
def k24:Con TB.den:=Con.mk0 12 [.one (.ptr 0 0),.agg [.d (.int .u64),.d (.int .u64)],.one (.d (.int .u64))] [.cells [.d (.bool),.d (.int .u64),.d (.int .i64),.own 1,.mp 2,.mp 3,.mp 4],.tip (.st 1),.map (.str) (.int .i64),.map (.str) (.sl (.int .u64)),.map (.str) (.bool)] (.tup [.one (.d (.int .u64)),.agg [.d (.int .u64),.d (.int .u64)]]) [.cells [.d (.bool),.d (.int .u64),.d (.int .i64),.own 1,.mp 2,.mp 3,.mp 4],.tip (.st 1),.map (.str) (.int .i64),.map (.str) (.sl (.int .u64)),.map (.str) (.bool)]
abbrev knd:=HL TB.den (hsT k24.ins (hsOs k24.pre))
abbrev kam:=HL TB.den (hsV k24.res (hsOs k24.post))
noncomputable def k80:Cx TB:=⟨inf,[kd5],[],4,[]⟩
noncomputable def kbz:Code:=Try.f12.body.getD .skip
noncomputable def kdr:List ResultVar:=Try.f12.results.toList
noncomputable def kle (o:kam):An TB:= .no
def kcb (x:knd) (o:kam):Prop:=WPh TB k80 28 5 kbz (kle o) (k24.st TB x) (retTQ TB k80 k24 kdr o)
theorem kxt (o:kam):OblH TB k80 28 5 kbz (kle o) (retTQ TB k80 k24 kdr o):=
 OblH.ofC (X:=True) (by kernel_rfl) trivial
theorem ky9 {x:knd} {o:kam} (h:kcb x o):k24.Snd Try.prog x o:=
 Con.soundH (c:=k24) (C:=k80) TBok ⟨inf_ok,(all_cons kjw all_nil),all_nil⟩ mix Try.func12 (show Try.f12.body=some kbz by kernel_rfl) (show Try.f12.ntmps=28 by kernel_rfl) (show Try.f12.results.toList=kdr by kernel_rfl) rfl h (kxt o)
theorem kzr {p1:TTranscript} {p2:Int} {c0_0:Bool} {c0_1:Int} {c0_2:Int} {w1:List TQuestion} {w2k:List ByteArray} {w2v:List Int} {w3k:List ByteArray} {w3v:List (List Int)} {w4k:List ByteArray} {w4v:List Bool} {r0:Int} {r1:TTranscript} {d0_0:Bool} {d0_1:Int} {d0_2:Int} {e1:List TQuestion} {e2k:List ByteArray} {e2v:List Int} {e3k:List ByteArray} {e3v:List (List Int)} {e4k:List ByteArray} {e4v:List Bool} (h:
(((p2==0)=true→
(w1=w1)∧0=r0∧p1.State=r1.State∧p1.Count=r1.Count∧c0_0=d0_0∧c0_1=d0_1∧c0_2=d0_2∧w1=e1∧w2k=e2k∧w2v=e2v∧w3k=e3k∧w3v=e3v∧w4k=e4k∧w4v=e4v)∧
((p2==0)=false→
(w1=w1)∧(U64 (19:Int)∧(Us [p1.State,p1.Count]∧[p1.State,p1.Count].length≤1000000000)∧OOk (OS.mk c0_0 c0_1 c0_2 w1 w2k w2v w3k w3v w4k w4v))∧let r2:=hO (OS.mk c0_0 c0_1 c0_2 w1 w2k w2v w3k w3v w4k w4v) (19:Int) [p1.State,p1.Count]
(p2≠0)∧(r2.o.q=r2.o.q)∧Int.tmod r2.n p2=r0∧p1.State=r1.State∧IntKind.u64.wrap (p1.Count+1)=r1.Count∧r2.o.a=d0_0∧r2.o.b=d0_1∧r2.o.c=d0_2∧r2.o.q=e1∧r2.o.k=e2k∧r2.o.v=e2v∧r2.o.s=e3k∧r2.o.t=e3v∧r2.o.x=e4k∧r2.o.y=e4v))):kcb (p1.State,p1.Count,p2,c0_0,c0_1,c0_2,w1,w2k,w2v,w3k,w3v,w4k,w4v,()) (r0,r1.State,r1.Count,d0_0,d0_1,d0_2,e1,e2k,e2v,e3k,e3v,e4k,e4v,()):=WPh.of_eq (by kernel_rfl) h
theorem bd12:Callable Try.prog 12:=⟨by rw[Try.func12];kernel_rfl,by rw[Try.func12];show some _≠some _;decide⟩
theorem kws (p1:TTranscript) (p2:Int) (c0_0:Bool) (c0_1:Int) (c0_2:Int) (w1:List TQuestion) (w2k:List ByteArray) (w2v:List Int) (w3k:List ByteArray) (w3v:List (List Int)) (w4k:List ByteArray) (w4v:List Bool) (h:(U64 p1.State∧U64 p1.Count)∧OOk (OS.mk c0_0 c0_1 c0_2 w1 w2k w2v w3k w3v w4k w4v)):kcb (p1.State,p1.Count,p2,c0_0,c0_1,c0_2,w1,w2k,w2v,w3k,w3v,w4k,w4v,()) ((((chO (OS.mk c0_0 c0_1 c0_2 w1 w2k w2v w3k w3v w4k w4v) p1 p2).n):Int),(((chO (OS.mk c0_0 c0_1 c0_2 w1 w2k w2v w3k w3v w4k w4v) p1 p2).t).State:Int),(((chO (OS.mk c0_0 c0_1 c0_2 w1 w2k w2v w3k w3v w4k w4v) p1 p2).t).Count:Int),(((chO (OS.mk c0_0 c0_1 c0_2 w1 w2k w2v w3k w3v w4k w4v) p1 p2).o.a):Bool),(((chO (OS.mk c0_0 c0_1 c0_2 w1 w2k w2v w3k w3v w4k w4v) p1 p2).o.b):Int),(((chO (OS.mk c0_0 c0_1 c0_2 w1 w2k w2v w3k w3v w4k w4v) p1 p2).o.c):Int),(((chO (OS.mk c0_0 c0_1 c0_2 w1 w2k w2v w3k w3v w4k w4v) p1 p2).o.q):List TQuestion),(((chO (OS.mk c0_0 c0_1 c0_2 w1 w2k w2v w3k w3v w4k w4v) p1 p2).o.k):List ByteArray),(((chO (OS.mk c0_0 c0_1 c0_2 w1 w2k w2v w3k w3v w4k w4v) p1 p2).o.v):List Int),(((chO (OS.mk c0_0 c0_1 c0_2 w1 w2k w2v w3k w3v w4k w4v) p1 p2).o.s):List ByteArray),(((chO (OS.mk c0_0 c0_1 c0_2 w1 w2k w2v w3k w3v w4k w4v) p1 p2).o.t):List (List Int)),(((chO (OS.mk c0_0 c0_1 c0_2 w1 w2k w2v w3k w3v w4k w4v) p1 p2).o.x):List ByteArray),(((chO (OS.mk c0_0 c0_1 c0_2 w1 w2k w2v w3k w3v w4k w4v) p1 p2).o.y):List Bool),()):=by
 obtain⟨⟨h1,h2⟩,h3⟩:=h
 refine kzr (r1:=(chO (OS.mk c0_0 c0_1 c0_2 w1 w2k w2v w3k w3v w4k w4v) p1 p2).t) ⟨fun e=> ?_,fun e=> ?_⟩
 ·have e:p2=0:=by simpa using e
  unfold chO
  rw[if_pos e]
  exact⟨rfl,rfl,rfl,rfl,rfl,rfl,rfl,rfl,rfl,rfl,rfl,rfl,rfl,rfl⟩
 ·have e:¬p2=0:=by simpa using e
  unfold chO
  rw[if_neg e]
  refine⟨rfl,⟨by decide,⟨fun x hx=> ?_,by simp⟩,h3⟩,e,rfl,rfl,rfl,rfl,rfl,rfl,rfl,rfl,rfl,rfl,rfl,rfl,rfl,rfl⟩
  rcases List.mem_cons.1 hx with rfl|hx
  ·exact h1
  ·rw[List.mem_singleton.1 hx];exact h2
noncomputable def k9n:Con TB.den:=k24.fnR (fun x=>(fun(p1:TTranscript) (p2:Int) (c0_0:Bool) (c0_1:Int) (c0_2:Int) (w1:List TQuestion) (w2k:List ByteArray) (w2v:List Int) (w3k:List ByteArray) (w3v:List (List Int)) (w4k:List ByteArray) (w4v:List Bool)=>(U64 p1.State∧U64 p1.Count)∧OOk (OS.mk c0_0 c0_1 c0_2 w1 w2k w2v w3k w3v w4k w4v)) (TTranscript.mk x.1 x.2.1) x.2.2.1 x.2.2.2.1 x.2.2.2.2.1 x.2.2.2.2.2.1 x.2.2.2.2.2.2.1 x.2.2.2.2.2.2.2.1 x.2.2.2.2.2.2.2.2.1 x.2.2.2.2.2.2.2.2.2.1 x.2.2.2.2.2.2.2.2.2.2.1 x.2.2.2.2.2.2.2.2.2.2.2.1 x.2.2.2.2.2.2.2.2.2.2.2.2.1) fun x=>(fun(p1:TTranscript) (p2:Int) (c0_0:Bool) (c0_1:Int) (c0_2:Int) (w1:List TQuestion) (w2k:List ByteArray) (w2v:List Int) (w3k:List ByteArray) (w3v:List (List Int)) (w4k:List ByteArray) (w4v:List Bool)=>((((chO (OS.mk c0_0 c0_1 c0_2 w1 w2k w2v w3k w3v w4k w4v) p1 p2).n):Int),(((chO (OS.mk c0_0 c0_1 c0_2 w1 w2k w2v w3k w3v w4k w4v) p1 p2).t).State:Int),(((chO (OS.mk c0_0 c0_1 c0_2 w1 w2k w2v w3k w3v w4k w4v) p1 p2).t).Count:Int),(((chO (OS.mk c0_0 c0_1 c0_2 w1 w2k w2v w3k w3v w4k w4v) p1 p2).o.a):Bool),(((chO (OS.mk c0_0 c0_1 c0_2 w1 w2k w2v w3k w3v w4k w4v) p1 p2).o.b):Int),(((chO (OS.mk c0_0 c0_1 c0_2 w1 w2k w2v w3k w3v w4k w4v) p1 p2).o.c):Int),(((chO (OS.mk c0_0 c0_1 c0_2 w1 w2k w2v w3k w3v w4k w4v) p1 p2).o.q):List TQuestion),(((chO (OS.mk c0_0 c0_1 c0_2 w1 w2k w2v w3k w3v w4k w4v) p1 p2).o.k):List ByteArray),(((chO (OS.mk c0_0 c0_1 c0_2 w1 w2k w2v w3k w3v w4k w4v) p1 p2).o.v):List Int),(((chO (OS.mk c0_0 c0_1 c0_2 w1 w2k w2v w3k w3v w4k w4v) p1 p2).o.s):List ByteArray),(((chO (OS.mk c0_0 c0_1 c0_2 w1 w2k w2v w3k w3v w4k w4v) p1 p2).o.t):List (List Int)),(((chO (OS.mk c0_0 c0_1 c0_2 w1 w2k w2v w3k w3v w4k w4v) p1 p2).o.x):List ByteArray),(((chO (OS.mk c0_0 c0_1 c0_2 w1 w2k w2v w3k w3v w4k w4v) p1 p2).o.y):List Bool),())) (TTranscript.mk x.1 x.2.1) x.2.2.1 x.2.2.2.1 x.2.2.2.2.1 x.2.2.2.2.2.1 x.2.2.2.2.2.2.1 x.2.2.2.2.2.2.2.1 x.2.2.2.2.2.2.2.2.1 x.2.2.2.2.2.2.2.2.2.1 x.2.2.2.2.2.2.2.2.2.2.1 x.2.2.2.2.2.2.2.2.2.2.2.1 x.2.2.2.2.2.2.2.2.2.2.2.2.1
theorem kdt:k9n.Ok Try.prog TB:=Con.ok_fn k24 bd12 fun x h=>ky9 (kws (TTranscript.mk x.1 x.2.1) x.2.2.1 x.2.2.2.1 x.2.2.2.2.1 x.2.2.2.2.2.1 x.2.2.2.2.2.2.1 x.2.2.2.2.2.2.2.1 x.2.2.2.2.2.2.2.2.1 x.2.2.2.2.2.2.2.2.2.1 x.2.2.2.2.2.2.2.2.2.2.1 x.2.2.2.2.2.2.2.2.2.2.2.1 x.2.2.2.2.2.2.2.2.2.2.2.2.1 h)
def k4n:Con TB.den:=Con.mk0 14 [.one (.d (.int .u64))] [] (.one (.agg [.d (.int .u64),.d (.int .u64)])) []
abbrev k11t:=HL TB.den (hsT k4n.ins (hsOs k4n.pre))
abbrev kk0:=HL TB.den (hsV k4n.res (hsOs k4n.post))
noncomputable def kdh:Cx TB:=⟨inf,[],[],4,[]⟩
noncomputable def kkr:Code:=Try.f14.body.getD .skip
noncomputable def kpu:List ResultVar:=Try.f14.results.toList
noncomputable def kzb (o:kk0):An TB:= .no
def kkq (x:k11t) (o:kk0):Prop:=WPh TB kdh 5 0 kkr (kzb o) (k4n.st TB x) (retTQ TB kdh k4n kpu o)
theorem k1bq (o:kk0):OblH TB kdh 5 0 kkr (kzb o) (retTQ TB kdh k4n kpu o):=
 OblH.ofC (X:=True) (by kernel_rfl) trivial
theorem k1bf {x:k11t} {o:kk0} (h:kkq x o):k4n.Snd Try.prog x o:=
 Con.soundH (c:=k4n) (C:=kdh) TBok ⟨inf_ok,all_nil,all_nil⟩ mix Try.func14 (show Try.f14.body=some kkr by kernel_rfl) (show Try.f14.ntmps=5 by kernel_rfl) (show Try.f14.results.toList=kpu by kernel_rfl) rfl h (k1bq o)
theorem k1ca {p0:Int} {r0:TTranscript} (h:
(p0=r0.State∧0=r0.Count)):kkq (p0,()) (r0.State,r0.Count,()):=WPh.of_eq (by kernel_rfl) h
theorem bd14:Callable Try.prog 14:=⟨by rw[Try.func14];kernel_rfl,by rw[Try.func14];show some _≠some _;decide⟩
theorem k19d (p0:Int):kkq (p0,()) ((p0:Int),(0:Int),()):=by
 exact k1ca (r0:=⟨p0,0⟩) ⟨rfl,rfl⟩
noncomputable def kmq:Con TB.den:=k4n.totR fun x=>(fun(p0:Int)=>(p0,(0:Int),())) x.1
theorem kz9:kmq.Ok Try.prog TB:=Con.ok_tot k4n bd14 fun x=>k1bf (k19d x.1)
def k76:Con TB.den:=Con.mk0 4 [] [] (.one (.one (.d (.bool)))) []
abbrev k17f:=HL TB.den (hsT k76.ins (hsOs k76.pre))
abbrev kql:=HL TB.den (hsV k76.res (hsOs k76.post))
noncomputable def khp:Cx TB:=⟨inf,[kzd,kmk,kkk,kmq,k9n,kzi,kyz,ktn,k1bu,k10p,kd5,kmg],[],4,[]⟩
noncomputable def krm:Code:=Try.f4.body.getD .skip
noncomputable def kw2:List ResultVar:=Try.f4.results.toList
noncomputable def k153 (o:kql):An TB:= .no
def krb (x:k17f) (o:kql):Prop:=WPh TB khp 74 0 krm (k153 o) (k76.st TB x) (retTQ TB khp k76 kw2 o)
theorem k1h7 (o:kql):OblH TB khp 74 0 krm (k153 o) (retTQ TB khp k76 kw2 o):=
 OblH.ofC (X:=True) (by kernel_rfl) trivial
theorem k1ih {x:k17f} {o:kql} (h:krb x o):k76.Snd Try.prog x o:=
 Con.soundH (c:=k76) (C:=khp) TBok ⟨inf_ok,(all_cons k1ej (all_cons kyo (all_cons kxd (all_cons kz9 (all_cons kdt (all_cons k1fz (all_cons k1gf (all_cons k14r (all_cons k1qg (all_cons k1e7 (all_cons kjw (all_cons kz8 all_nil)))))))))))),all_nil⟩ mix Try.func4 (show Try.f4.body=some krm by kernel_rfl) (show Try.f4.ntmps=74 by kernel_rfl) (show Try.f4.results.toList=kw2 by kernel_rfl) rfl h (k1h7 o)
theorem k1km  {r0:Bool} (h:
((([]:List TQuestion)=([]:List TQuestion))∧((([[5]].length≤1000000∧∀l∈[[5]],Us l∧l.length≤99999999)∧Us [7]∧[7].length≤1000000)∧OOk (OS.mk false (0:Int) (0:Int) ([]:List TQuestion) [] [] [] [] [] [])∧([]:List TQuestion).length≤800000)∧let r1:List (List Int):=((comO (OS.mk false (0:Int) (0:Int) ([]:List TQuestion) [] [] [] [] [] []) [[5]] [7]).t).Levels
let r2:=comO (OS.mk false (0:Int) (0:Int) ([]:List TQuestion) [] [] [] [] [] []) [[5]] [7]
(r2.o.q=r2.o.q)∧((U64 (TTranscript.mk (5:Int) 0).State∧U64 (TTranscript.mk (5:Int) 0).Count)∧OOk (OS.mk r2.o.a r2.o.b r2.o.c r2.o.q r2.o.k r2.o.v r2.o.s r2.o.t r2.o.x r2.o.y))∧let r3:=chO (OS.mk r2.o.a r2.o.b r2.o.c r2.o.q r2.o.k r2.o.v r2.o.s r2.o.t r2.o.x r2.o.y) (TTranscript.mk (5:Int) 0) (18446744069414584321:Int)
let r4:=(chO (OS.mk r2.o.a r2.o.b r2.o.c r2.o.q r2.o.k r2.o.v r2.o.s r2.o.t r2.o.x r2.o.y) (TTranscript.mk (5:Int) 0) (18446744069414584321:Int)).t
(r3.o.q=r3.o.q)∧(r3.o.a=false∧(U64 (3:Int)∧U64 (4:Int))∧(3:Int)<18446744069414584321∧(4:Int)<18446744069414584321∧(Us [1,5]∧allB [1,5]=true∧[1,5].length=2))∧let r5:List Int:=(seal2 (3:Int) (4:Int) (ix [1,5] 0) (ix [1,5] 1))
let r6:=OS.mk r3.o.a r3.o.b r3.o.c r3.o.q r3.o.k r3.o.v r3.o.s r3.o.t r3.o.x r3.o.y
(r6.q=r6.q)∧(r6.a=false∧(U64 (3:Int)∧U64 (4:Int))∧(3:Int)<18446744069414584321∧(4:Int)<18446744069414584321∧(Us r5∧allB r5=true∧r5.length=3))∧let r7:List Int:=(if tag2 (3:Int) (4:Int) (ix r5 0) (ix r5 1)=ix r5 2 then dec2 (3:Int) (4:Int) (ix r5 0) (ix r5 1)else [])
let r8:Bool:=(decide (tag2 (3:Int) (4:Int) (ix r5 0) (ix r5 1)=ix r5 2))
let r9:=OS.mk r6.a r6.b r6.c r6.q r6.k r6.v r6.s r6.t r6.x r6.y
((r2.e==0)=true→
((TTree.mk r1).Levels.length≤1000000∧∀l∈(TTree.mk r1).Levels,l.length≤1000000000)∧((18446744069414584321:Int)=18446744069414584321∧U64 (16:Int)∧Us [7,5]∧[7,5].length≤1099511627776)∧let v10:Bool:=((rootT (TTree.mk r1))==(hashS (16:Int) [7,5]))
(v10=true→
((18446744069414584321:Int)=18446744069414584321∧U64 (19:Int)∧Us [5,0]∧[5,0].length≤1099511627776)∧((r3.n==(hashS (19:Int) [5,0]))=true→
(r8=true→
(r7.length≤9223372036854775807)∧((decide (r7=[1,5]))=true→
(([]:List TQuestion)=([]:List TQuestion))∧(U64 (1:Int)∧(Us ([]:List Int)∧([]:List Int).length≤1000000000)∧OOk (OS.mk true (1:Int) (0:Int) ([]:List TQuestion) [] [] [] [] [] []))∧let r11:=hO (OS.mk true (1:Int) (0:Int) ([]:List TQuestion) [] [] [] [] [] []) (1:Int) ([]:List Int)
(r11.o.q=r11.o.q)∧(U64 (1:Int)∧(Us ([]:List Int)∧([]:List Int).length≤1000000000)∧OOk (OS.mk r11.o.a r11.o.b r11.o.c r11.o.q r11.o.k r11.o.v r11.o.s r11.o.t r11.o.x r11.o.y))∧let r12:=hO (OS.mk r11.o.a r11.o.b r11.o.c r11.o.q r11.o.k r11.o.v r11.o.s r11.o.t r11.o.x r11.o.y) (1:Int) ([]:List Int)
((r11.n==r12.n)=true→
(r12.o.q=r12.o.q)∧(r12.o.c==1)=r0)∧
((r11.n==r12.n)=false→
false=r0))∧
((decide (r7=[1,5]))=false→
false=r0))∧
(r8=false→
false=r0))∧
((r3.n==(hashS (19:Int) [5,0]))=false→
false=r0))∧
(v10=false→
false=r0))∧
((r2.e==0)=false→
false=r0))):krb (()) (r0,()):=WPh.of_eq (by kernel_rfl) h
theorem bd4:Callable Try.prog 4:=⟨by rw[Try.func4];kernel_rfl,by rw[Try.func4];show some _≠some _;decide⟩
theorem k1ei:krb (()) ((true:Bool),()):=by
 have z:RR (OS.mk false 0 0 [] [] [] [] [] [] []):=RR.z
 have zo:OOk (OS.mk false 0 0 [] [] [] [] [] [] []):=OOk.z false 0
 have hc:comOk [[5]] [7]=true:=by decide +kernel
 have u5:Us [5]:=by intro x hx;simp at hx;omega
 have u7:Us [7]:=by intro x hx;simp at hx;omega
 obtain⟨a1,a2,a3⟩:=k1ru z (s:=7) (l:=[5]) (by decide) u5 hc
 have b:=comO_ok (ls:=[[5]]) (ss:=[7]) zo (by intro l hl;simp at hl;subst hl;simp) (by decide)
 refine k1km ⟨rfl,⟨⟨⟨by simp,fun l hl=>by simp at hl;subst hl;exact⟨u5,by simp⟩⟩,u7,by simp⟩,zo,by decide⟩,?_⟩
 dsimp only
 generalize comO (OS.mk false 0 0 [] [] [] [] [] [] []) [[5]] [7]=C at *
 simp only[OS_eta]
 have bq:C.o.q.length≤2048:=b.2
 obtain⟨c1,c2,_,c4⟩:=a3.ch (t:=⟨5,0⟩) (p:=18446744069414584321) (by decide) (by decide) (by decide)
 have d1:=b.1.ch ⟨5,0⟩ 18446744069414584321 (by omega)
 refine⟨(by first|exact rfl|exact True.intro),⟨⟨by decide,by decide⟩,b.1⟩,?_⟩
 generalize chO C.o ⟨5,0⟩ 18446744069414584321=c at *
 have s0:(ix [1,5] 0:Int)=1:=rfl
 have s1:(ix [1,5] 1:Int)=5:=rfl
 rw[s0,s1]
 obtain⟨f1,f2,f3,f4,f5⟩:=k1u2 3 4 1 5 (by decide) (by decide)
 generalize seal2 3 4 1 5=L at *
 rw[if_pos f4,f5,decide_eq_true f4]
 refine⟨(by first|exact rfl|exact True.intro),⟨c4.a,⟨by decide,by decide⟩,by decide,by decide,(by intro x hx;simp at hx;omega),by decide,rfl⟩,(by first|exact rfl|exact True.intro),⟨c4.a,⟨by decide,by decide⟩,by decide,by decide,f1,f2,f3⟩,fun _=> ?_,fun h=>by rw[a2]at h;simp at h⟩
 have h5:valH 19 [5,0]=hashS 19 [5,0]:=rfl
 have h6:valH 16 [7,5]=hashS 16 [7,5]:=rfl
 have g5:Int.tmod (hashS 19 [5,0]) 18446744069414584321=hashS 19 [5,0]:=by
  have:=k1ls 19 [5,0]
  have:=k1od 19 [5,0]
  rw[tmod_nn _ _ (by omega)]
  omega
 have hroot:rootT ⟨C.t.Levels⟩=hashS 16 [7,5]:=by
  rw[a1,h6]
  rfl
 rw[hroot,c1,h5,g5]
 refine⟨⟨by rw[a1];simp,fun l hl=>by rw[a1]at hl;simp at hl;subst hl;simp⟩,⟨(by first|exact rfl|exact True.intro),by decide,(by intro x hx;simp at hx;omega),by simp⟩,fun _=>⟨⟨(by first|exact rfl|exact True.intro),by decide,(by intro x hx;simp at hx;omega),by simp⟩,fun _=>⟨fun _=>⟨by simp,fun _=> ?_,fun h=>by simp at h⟩,fun h=>by cases h⟩,fun h=>by simp at h⟩,fun h=>by simp at h⟩
 have zi:RO (OS.mk true 1 0 [] [] [] [] [] [] []):=(RT.z 1).ro
 have zio:OOk (OS.mk true 1 0 [] [] [] [] [] [] []):=OOk.z true 1
 have un:Us ([]:List Int):=fun x hx=>by cases hx
 obtain⟨k1,k2,k3,k4,k5⟩:=hO_new zi rfl (label:=1) (l:=[]) (by decide) un rfl (fun x hx=>by cases hx)
 have m1:=zi.h (label:=1) (l:=[]) (by decide) un
 have m2:=zio.h 1 (l:=[]) (by simp) (by decide)
 refine⟨(by first|exact rfl|exact True.intro),⟨by decide,⟨un,by simp⟩,zio⟩,?_⟩
 generalize hO (OS.mk true 1 0 [] [] [] [] [] [] []) 1 []=I at *
 have k2:I.o.q=[⟨1,[],mixN (IntKind.u64.wrap (1+11400714819323198485))⟩]:=k2
 have hu:Uq I.o.q:=by
  rw[k2]
  intro x hx y hy _ _
  rw[List.mem_singleton.1 hx,List.mem_singleton.1 hy]
 have hold:=hO_old m1 (label:=1) (l:=[]) (by decide) un rfl hu (x:=⟨1,[],mixN (IntKind.u64.wrap (1+11400714819323198485))⟩) (by rw[k2];simp) rfl rfl
 try simp only[OS_eta]
 rw[hold]
 have k1:I.n=mixN (IntKind.u64.wrap (1+11400714819323198485)):=k1
 have k5:I.o.c=1:=k5
 refine⟨(by first|exact rfl|exact True.intro),⟨by decide,⟨un,by simp⟩,m2.1⟩,fun _=>⟨(by first|exact rfl|exact True.intro),?_⟩,fun h=> ?_⟩
 ·show(I.o.c==1)=true
  rw[k5];rfl
 ·dsimp only at h
  rw[k1]at h
  simp at h
noncomputable def k13d:Con TB.den:=k76.totR fun x=>(true,())
theorem k1jp:k13d.Ok Try.prog TB:=Con.ok_tot k76 bd4 fun x=>k1ih (k1ei)
def k3v:Con TB.den:=Con.mk0 6 [.one (.d (.sl (.int .u64)))] [] (.one (.one (.d (.bool)))) []
abbrev k11w:=HL TB.den (hsT k3v.ins (hsOs k3v.pre))
abbrev k3s:=HL TB.den (hsV k3v.res (hsOs k3v.post))
noncomputable def k5r:Cx TB:=⟨inf,[],[],4,[]⟩
noncomputable def k7t:Code:=Try.f6.body.getD .skip
noncomputable def kh5:List ResultVar:=Try.f6.results.toList
def k1cx (o:k3s):=qS TB k5r 25 0 (cB (cB k7t)) .no (retTQ TB k5r k3v kh5 o)
def k2l:Tm:=⟨[],[],[0,6,7],[.one (.d (.sl (.int .u64))),.one (.d (.int .i64)),.one (.d (.int .i64))],0⟩
def kyt (o:k3s) (nx2:NX TB k2l):=qM TB 0 k2l nx2 (blockT TB 0 (k1cx o))
def k1cb (o:k3s) (nx2:NX TB k2l):=qS TB k5r 25 0 (cB (cB (cB (cA (cA (cB (cA (cB k7t)))))))) .no (kyt o nx2)
def k98:Tm:=⟨[],[],[0,3,6,7,10,11],[.one (.d (.sl (.int .u64))),.one (.d (.int .i64)),.one (.d (.int .i64)),.one (.d (.int .i64)),.one (.d (.int .i64)),.one (.d (.int .i64))],0⟩
def k1d5 (o:k3s) (nx2:NX TB k2l) (nx1:NX TB k98):=qM TB 0 k98 nx1 (blockT TB 2 (blockT TB 1 (k1cb o nx2)))
def kdd (o:k3s) (nx2:NX TB k2l) (nx1:NX TB k98) (i:HL TB.den k98.hs):Prop:=WP TB k5r 25 0 (cA (cA (cB (cB (cA (cA (cB (cB (cA (cA (cB (cA (cB k7t))))))))))))) .no (k98.fill TB i) (k1d5 o nx2 nx1)
noncomputable def k1cs (o:k3s) (nx2:NX TB k2l):An TB:= .lp [] k98 (kdd o nx2) fun nx1=> .no
noncomputable def kyu (o:k3s) (nx2:NX TB k2l):An TB:= .nd [] (.nd [] .no [] (.nd [] .no [] (k1cs o nx2))) [] .no
def kdm (o:k3s) (nx2:NX TB k2l) (i:HL TB.den k2l.hs):Prop:=WP TB k5r 25 0 (cA (cA (cB (cA (cB k7t))))) (.nd [] .no [] (.nd [] .no [] (kyu o nx2))) (k2l.fill TB i) (kyt o nx2)
noncomputable def k1bg (o:k3s):An TB:= .lp [] k2l (kdm o) fun nx2=>(.nd [] .no [] (.nd [] .no [] (kyu o nx2)))
noncomputable def kzg (o:k3s):An TB:= .nd [] .no [] (.nd [] (.nd [] .no [] (k1bg o)) [] .no)
def kkz (x:k11w) (o:k3s):Prop:=WPh TB k5r 25 0 k7t (kzg o) (k3v.st TB x) (retTQ TB k5r k3v kh5 o)
theorem k1ab (o:k3s):OblH TB k5r 25 0 k7t (kzg o) (retTQ TB k5r k3v kh5 o):=
 OblH.ofC (X:=((∀nx i,(kdm o) nx i=(kdm o) nx i)∧(∀nx2:NX TB k2l,((∀nx i,(kdd o nx2) nx i=(kdd o nx2) nx i)∧(∀nx1:NX TB k98,True)∧True))∧True)) (by kernel_rfl) ⟨fun _ _=>rfl,fun _=>⟨fun _ _=>rfl,fun _=>trivial,trivial⟩,trivial⟩
theorem k19j {x:k11w} {o:k3s} (h:kkz x o):k3v.Snd Try.prog x o:=
 Con.soundH (c:=k3v) (C:=k5r) TBok ⟨inf_ok,all_nil,all_nil⟩ mix Try.func6 (show Try.f6.body=some k7t by kernel_rfl) (show Try.f6.ntmps=25 by kernel_rfl) (show Try.f6.results.toList=kh5 by kernel_rfl) rfl h (k1ab o)
theorem k1ck {p0:List Int} {r0:Bool} (h:
(Md.Loop (p0,((p0.length:Int):Int),(0:Int),()) (kdm (r0,())))):kkz (p0,()) (r0,()):=WPh.of_eq (by kernel_rfl) h
def kz2 (r0:Bool) (nx2:NX TB k2l) (k2:Int→Prop) (s0:List Int) (s6:Int) (s7:Int):Prop:=
(decide (s7<s6)=true→
Md.Loop (s0,s7,s6,s7,s7,(0:Int),()) (kdd (r0,()) nx2))∧
(decide (s7<s6)=false→
true=r0)
theorem k19o {r0:Bool} {s0:List Int} {s6:Int} {s7:Int} (inv:Int→Prop) (μ:Int→Nat) (h0:inv s7) (hs:∀(s7:Int),inv s7→kz2 r0 (fun s:(List Int)×Int×Int×Unit=>((s.1=s0∧s.2.1=s6)∧inv s.2.2.1)∧μ s.2.2.1<μ s7) (fun s7q=>inv s7q∧μ s7q<μ s7) s0 s6 s7):Md.Loop (s0,s6,s7,()) (kdm (r0,())):=
 ⟨⟨fun s:(List Int)×Int×Int×Unit=>(s.1=s0∧s.2.1=s6)∧inv s.2.2.1,fun s:(List Int)×Int×Int×Unit=>μ s.2.2.1,⟨⟨rfl,rfl⟩,h0⟩,fun(s0p,s6p,s7p,()) ⟨⟨eq0,eq1⟩,hi⟩=>by
  have eq0:s0p=s0:=eq0;subst s0p;have eq1:s6p=s6:=eq1;subst s6p;exact mpr_of (by kernel_rfl) ((congrArg (fun k=>kz2 r0 (fun s:(List Int)×Int×Int×Unit=>((s.1=s0∧s.2.1=s6)∧inv s.2.2.1)∧μ s.2.2.1<μ s7p) k s0 s6 s7p) (lpk1 (⟨rfl,rfl⟩:s0=s0∧s6=s6) inv (fun s7q=>μ s7q<μ s7p))).mpr (hs s7p hi))⟩⟩
def kz5 (r0:Bool) (nx2:NX TB k2l) (k1:Int→Prop) (s0:List Int) (s3:Int) (s6:Int) (s7:Int) (s10:Int) (s11:Int):Prop:=
(decide (s11<s10)=true→
(0≤s3)∧s3<(s0.length:Int)∧(0≤s11)∧s11<(s0.length:Int)∧(((ix s0 s3)==(ix s0 s11))=true→
false=r0)∧
(((ix s0 s3)==(ix s0 s11))=false→
k1 (IntKind.i64.wrap (s11+1):Int)))∧
(decide (s11<s10)=false→
nx2 (s0,s6,(IntKind.i64.wrap (s7+1):Int),()))
theorem k1a0 {r0:Bool} {nx2:NX TB k2l} {s0:List Int} {s3:Int} {s6:Int} {s7:Int} {s10:Int} {s11:Int} (inv:Int→Prop) (μ:Int→Nat) (h0:inv s11) (hs:∀(s11:Int),inv s11→kz5 r0 nx2 (fun s11q=>inv s11q∧μ s11q<μ s11) s0 s3 s6 s7 s10 s11):Md.Loop (s0,s3,s6,s7,s10,s11,()) (kdd (r0,()) nx2):=
 ⟨⟨fun s:(List Int)×Int×Int×Int×Int×Int×Unit=>(s.1=s0∧s.2.1=s3∧s.2.2.1=s6∧s.2.2.2.1=s7∧s.2.2.2.2.1=s10)∧inv s.2.2.2.2.2.1,fun s:(List Int)×Int×Int×Int×Int×Int×Unit=>μ s.2.2.2.2.2.1,⟨⟨rfl,rfl,rfl,rfl,rfl⟩,h0⟩,fun(s0p,s3p,s6p,s7p,s10p,s11p,()) ⟨⟨eq0,eq1,eq2,eq3,eq4⟩,hi⟩=>by
  have eq0:s0p=s0:=eq0;subst s0p;have eq1:s3p=s3:=eq1;subst s3p;have eq2:s6p=s6:=eq2;subst s6p;have eq3:s7p=s7:=eq3;subst s7p;have eq4:s10p=s10:=eq4;subst s10p;exact mpr_of (by kernel_rfl) ((congrArg (fun k=>kz5 r0 nx2 k s0 s3 s6 s7 s10 s11p) (lpk1 (⟨rfl,rfl,rfl,rfl,rfl⟩:s0=s0∧s3=s3∧s6=s6∧s7=s7∧s10=s10) inv (fun s11q=>μ s11q<μ s11p))).mpr (hs s11p hi))⟩⟩
theorem bd6:Callable Try.prog 6:=⟨by rw[Try.func6];kernel_rfl,by rw[Try.func6];show some _≠some _;decide⟩
theorem k18m (p0:List Int) (h:p0.length≤9223372036854775807):kkz (p0,()) (((decide (p0.Nodup)):Bool),()):=by
 refine k1ck (k19o (fun i=>0≤i∧i≤p0.length∧(p0.take i.toNat).Nodup) (fun i=>(p0.length-i).toNat) ⟨by omega,by omega,by simp⟩ ?_)
 rintro i ⟨g0,g1,g2⟩
 refine⟨fun hh=> ?_,fun hh=> ?_⟩
 ·have hh:=of_decide_eq_true hh
  refine k1a0 (fun j=>0≤j∧j≤i∧∀x∈p0.take j.toNat,x≠ix p0 i) (fun j=>(i-j).toNat) ⟨by omega,g0,by simp⟩ ?_
  rintro j ⟨k0,k1,k2⟩
  refine⟨fun hj=> ?_,fun hj=> ?_⟩
  ·have hj:=of_decide_eq_true hj
   refine⟨g0,hh,k0,by omega,fun e=> ?_,fun e=> ?_⟩
   ·have e:ix p0 i=ix p0 j:=by simpa using e
    refine(decide_eq_false fun hnd=> ?_).symm
    rw[ix_nat p0 i g0 hh,ix_nat p0 j k0 (by omega)]at e
    have:=(List.getElem_inj hnd).1 e
    omega
   ·have e:¬ix p0 i=ix p0 j:=by simpa using e
    rw[inc j p0.length k0 (by omega) (by omega)]
    refine⟨⟨by omega,by omega,fun x hx=> ?_⟩,by omega⟩
    rw[kca p0 j k0 (by omega)]at hx
    rcases List.mem_append.1 hx with hx|hx
    ·exact k2 x hx
    ·rw[List.mem_singleton.1 hx];exact fun h=>e h.symm
  ·have hj:=of_decide_eq_false hj
   have:j=i:=by omega
   subst this
   rw[inc j p0.length g0 hh (by omega)]
   refine⟨⟨⟨rfl,rfl⟩,(?_:0≤j+1∧j+1≤p0.length∧(p0.take (j+1).toNat).Nodup)⟩,(?_:((p0.length:Int)-(j+1)).toNat<((p0.length:Int)-j).toNat)⟩
   ·refine⟨by omega,by omega,?_⟩
    rw[kca p0 j g0 hh,List.nodup_append]
    exact⟨g2,by simp,fun x hx y hy=>by rw[List.mem_singleton.1 hy];exact k2 x hx⟩
   ·omega
 ·have hh:=of_decide_eq_false hh
  rw[List.take_of_length_le (by omega)]at g2
  exact(decide_eq_true g2).symm
noncomputable def kx6:Con TB.den:=k3v.fnR (fun x=>(fun(p0:List Int)=>p0.length≤9223372036854775807) x.1) fun x=>(fun(p0:List Int)=>(((decide (p0.Nodup)):Bool),())) x.1
theorem k1ct:kx6.Ok Try.prog TB:=Con.ok_fn k3v bd6 fun x h=>k19j (k18m x.1 h)
def k61:Con TB.den:=Con.mk0 22 [.one (.d (.sl (.int .u64)))] [] (.one (.one (.d (.bool)))) []
abbrev k17o:=HL TB.den (hsT k61.ins (hsOs k61.pre))
abbrev kcy:=HL TB.den (hsV k61.res (hsOs k61.post))
noncomputable def ka3:Cx TB:=⟨inf,[],[],4,[]⟩
noncomputable def kep:Code:=Try.f22.body.getD .skip
noncomputable def koe:List ResultVar:=Try.f22.results.toList
def k1jw (o:kcy):=qS TB ka3 15 0 (cB (cB kep)) .no (retTQ TB ka3 k61 koe o)
def ke8:Tm:=⟨[],[],[0,3],[.one (.d (.sl (.int .u64))),.one (.d (.int .i64))],0⟩
def kj1 (o:kcy) (nx1:NX TB ke8) (i:HL TB.den ke8.hs):Prop:=WP TB ka3 15 0 (cA (cA (cB (cA (cB kep))))) .no (ke8.fill TB i) (qM TB 0 ke8 nx1 (blockT TB 0 (k1jw o)))
noncomputable def k1je (o:kcy):An TB:= .nd [] .no [] (.lp [] ke8 (kj1 o) fun nx1=> .no)
noncomputable def k15n (o:kcy):An TB:= .nd [] .no [] (.nd [] (k1je o) [] .no)
def krf (x:k17o) (o:kcy):Prop:=WPh TB ka3 15 0 kep (k15n o) (k61.st TB x) (retTQ TB ka3 k61 koe o)
theorem k1h5 (o:kcy):OblH TB ka3 15 0 kep (k15n o) (retTQ TB ka3 k61 koe o):=
 OblH.ofC (X:=((∀nx i,(kj1 o) nx i=(kj1 o) nx i)∧(∀nx1:NX TB ke8,True)∧True)) (by kernel_rfl) ⟨fun _ _=>rfl,fun _=>trivial,trivial⟩
theorem k1hi {x:k17o} {o:kcy} (h:krf x o):k61.Snd Try.prog x o:=
 Con.soundH (c:=k61) (C:=ka3) TBok ⟨inf_ok,all_nil,all_nil⟩ mix Try.func22 (show Try.f22.body=some kep by kernel_rfl) (show Try.f22.ntmps=15 by kernel_rfl) (show Try.f22.results.toList=koe by kernel_rfl) rfl h (k1h5 o)
theorem k1j4 {p0:List Int} {r0:Bool} (h:
(Md.Loop (p0,(0:Int),()) (kj1 (r0,())))):krf (p0,()) (r0,()):=WPh.of_eq (by kernel_rfl) h
def k15w (r0:Bool) (k1:Int→Prop) (s0:List Int) (s3:Int):Prop:=
(decide (s3<(s0.length:Int))=true→
(0≤s3)∧s3<(s0.length:Int)∧let v1:Bool:=decide (18446744069414584321≤(ix s0 s3))
(v1=true→
false=r0)∧
(v1=false→
k1 (IntKind.i64.wrap (s3+1):Int)))∧
(decide (s3<(s0.length:Int))=false→
true=r0)
theorem k1ie {r0:Bool} {s0:List Int} {s3:Int} (inv:Int→Prop) (μ:Int→Nat) (h0:inv s3) (hs:∀(s3:Int),inv s3→k15w r0 (fun s3q=>inv s3q∧μ s3q<μ s3) s0 s3):Md.Loop (s0,s3,()) (kj1 (r0,())):=
 ⟨⟨fun s:(List Int)×Int×Unit=>(s.1=s0)∧inv s.2.1,fun s:(List Int)×Int×Unit=>μ s.2.1,⟨rfl,h0⟩,fun(s0p,s3p,()) ⟨eq0,hi⟩=>by
  have eq0:s0p=s0:=eq0;subst s0p;exact mpr_of (by kernel_rfl) ((congrArg (fun k=>k15w r0 k s0 s3p) (lpk1 (rfl:s0=s0) inv (fun s3q=>μ s3q<μ s3p))).mpr (hs s3p hi))⟩⟩
theorem bd22:Callable Try.prog 22:=⟨by rw[Try.func22];kernel_rfl,by rw[Try.func22];show some _≠some _;decide⟩
theorem k1ff (p0:List Int) (h:p0.length≤9223372036854775807):krf (p0,()) (((allB p0):Bool),()):=by
 refine k1j4 (k1ie (AllI (fun x=>decide (x<18446744069414584321)) p0) (fun i=>(p0.length-i).toNat) AllI.start ?_)
 intro i hi
 refine⟨fun hh=> ?_,fun hh=> ?_⟩
 ·have hh:=of_decide_eq_true hh
  refine⟨hi.1,hh,?_⟩
  dsimp only
  refine⟨fun e=> ?_,fun e=> ?_⟩
  ·have e:=of_decide_eq_true e
   exact(hi.bad hh (decide_eq_false (by omega))).symm
  ·have e:=of_decide_eq_false e
   exact hi.next hh (by omega) (decide_eq_true (by omega))
 ·have hh:=of_decide_eq_false hh
  exact(hi.done hh).symm
noncomputable def k13k:Con TB.den:=k61.fnR (fun x=>(fun(p0:List Int)=>p0.length≤9223372036854775807) x.1) fun x=>(fun(p0:List Int)=>(((allB p0):Bool),())) x.1
theorem k1j2:k13k.Ok Try.prog TB:=Con.ok_fn k61 bd22 fun x h=>k1hi (k1ff x.1 h)
def k62:Con TB.den:=Con.mk0 5 [.agg [.d (.sl (.sl (.int .u64))),.d (.sl (.int .u64))]] [] (.one (.one (.d (.bool)))) []
abbrev k17p:=HL TB.den (hsT k62.ins (hsOs k62.pre))
abbrev kaz:=HL TB.den (hsV k62.res (hsOs k62.post))
noncomputable def k9z:Cx TB:=⟨inf,[k13k],[],4,[]⟩
noncomputable def kez:Code:=Try.f5.body.getD .skip
noncomputable def ko6:List ResultVar:=Try.f5.results.toList
def k1jn (o:kaz):=qS TB k9z 51 0 (cB (cB (cB (cB kez)))) .no (retTQ TB k9z k62 ko6 o)
def ke9:Tm:=⟨[],[],[36,37,38],[.one (.d (.sl (.sl (.int .u64)))),.one (.d (.int .i64)),.one (.d (.int .i64))],1⟩
def khx (o:kaz) (nx1:NX TB ke9) (i:HL TB.den ke9.hs):Prop:=WP TB k9z 51 0 (cA (cA (cB (cA (cB (cB (cB kez))))))) .no (ke9.fill TB i) (qM TB 0 ke9 nx1 (blockT TB 0 (k1jn o)))
noncomputable def k1kf (o:kaz):An TB:= .nd [] .no [] (.lp [] ke9 (khx o) fun nx1=> .no)
noncomputable def k1iu (o:kaz):An TB:= .nd [] .no [] (.nd [] .no [] (.nd [] (k1kf o) [] .no))
noncomputable def k14p (o:kaz):An TB:= .nd [] .no [] (k1iu o)
def kra (x:k17p) (o:kaz):Prop:=WPh TB k9z 51 0 kez (k14p o) (k62.st TB x) (retTQ TB k9z k62 ko6 o)
theorem k1il (o:kaz):OblH TB k9z 51 0 kez (k14p o) (retTQ TB k9z k62 ko6 o):=
 OblH.ofC (X:=((∀nx i,(khx o) nx i=(khx o) nx i)∧(∀nx1:NX TB ke9,True)∧True)) (by kernel_rfl) ⟨fun _ _=>rfl,fun _=>trivial,trivial⟩
theorem k1gn {x:k17p} {o:kaz} (h:kra x o):k62.Snd Try.prog x o:=
 Con.soundH (c:=k62) (C:=k9z) TBok ⟨inf_ok,(all_cons k1j2 all_nil),all_nil⟩ mix Try.func5 (show Try.f5.body=some kez by kernel_rfl) (show Try.f5.ntmps=51 by kernel_rfl) (show Try.f5.results.toList=ko6 by kernel_rfl) rfl h (k1il o)
theorem k1ka {p0:TList13} {r0:Bool} (h:
((decide ((p0.Leaves.length:Int)<1)=true→
false=r0)∧
(decide ((p0.Leaves.length:Int)<1)=false→
(decide (16<(p0.Leaves.length:Int))=true→
false=r0)∧
(decide (16<(p0.Leaves.length:Int))=false→
let v1:Int:=IntKind.i64.wrap ((p0.Leaves.length:Int)-1)
let v2:Bool:=((iand .i64 (p0.Leaves.length:Int) v1) !=0)
(v2=true→
false=r0)∧
(v2=false→
let v3:Bool:=((p0.Salts.length:Int) !=(p0.Leaves.length:Int))
(v3=true→
false=r0)∧
(v3=false→
(p0.Salts.length≤9223372036854775807)∧((!(allB p0.Salts))=true→
false=r0)∧
((!(allB p0.Salts))=false→
Md.Loop (p0.Leaves,((p0.Leaves.length:Int):Int),(0:Int),()) (khx (r0,()))))))))):kra (p0.Leaves,p0.Salts,()) (r0,()):=WPh.of_eq (by kernel_rfl) h
def k14u (r0:Bool) (k1:Int→Prop) (s36:List (List Int)) (s37:Int) (s38:Int):Prop:=
(decide (s38<s37)=true→
(0≤s38)∧s38<(s36.length:Int)∧let v4:Bool:=decide (20<((ix s36 s38).length:Int))
(v4=true→
false=r0)∧
(v4=false→
((ix s36 s38).length≤9223372036854775807)∧((!(allB (ix s36 s38)))=true→
false=r0)∧
((!(allB (ix s36 s38)))=false→
k1 (IntKind.i64.wrap (s38+1):Int))))∧
(decide (s38<s37)=false→
true=r0)
theorem k1gs {r0:Bool} {s36:List (List Int)} {s37:Int} {s38:Int} (inv:Int→Prop) (μ:Int→Nat) (h0:inv s38) (hs:∀(s38:Int),inv s38→k14u r0 (fun s38q=>inv s38q∧μ s38q<μ s38) s36 s37 s38):Md.Loop (s36,s37,s38,()) (khx (r0,())):=
 ⟨⟨fun s:(List (List Int))×Int×Int×Unit=>(s.1=s36∧s.2.1=s37)∧inv s.2.2.1,fun s:(List (List Int))×Int×Int×Unit=>μ s.2.2.1,⟨⟨rfl,rfl⟩,h0⟩,fun(s36p,s37p,s38p,()) ⟨⟨eq0,eq1⟩,hi⟩=>by
  have eq0:s36p=s36:=eq0;subst s36p;have eq1:s37p=s37:=eq1;subst s37p;exact mpr_of (by kernel_rfl) ((congrArg (fun k=>k14u r0 k s36 s37 s38p) (lpk1 (⟨rfl,rfl⟩:s36=s36∧s37=s37) inv (fun s38q=>μ s38q<μ s38p))).mpr (hs s38p hi))⟩⟩
theorem bd5:Callable Try.prog 5:=⟨by rw[Try.func5];kernel_rfl,by rw[Try.func5];show some _≠some _;decide⟩
theorem k1g8 (p0:TList13) (h:p0.Leaves.length≤9223372036854775807∧(p0.Salts.length≤9223372036854775807∧∀l∈p0.Leaves,l.length≤9223372036854775807)):kra (p0.Leaves,p0.Salts,()) (((rightB p0):Bool),()):=by
 obtain⟨h1,h2,h3⟩:=h
 unfold rightB
 refine k1ka ⟨fun e=> ?_,fun e=>⟨fun e2=> ?_,fun e2=> ?_⟩⟩
 ·rw[e];rfl
 ·rw[e,e2];rfl
 have f1:=of_decide_eq_false e
 have f2:=of_decide_eq_false e2
 dsimp only
 rw[e,e2]
 refine⟨fun e3=> ?_,fun e3=>⟨fun e4=> ?_,fun e4=>⟨h2,fun e5=> ?_,fun e5=> ?_⟩⟩⟩
 ·rw[e3];rfl
 ·rw[e3,e4];rfl
 ·have e5:allB p0.Salts=false:=by simpa using e5
  rw[e3,e4,e5];rfl
 have e5:allB p0.Salts=true:=by simpa using e5
 rw[e3,e4,e5]
 refine k1gs (AllI (fun l=>decide (l.length≤20)&&allB l) p0.Leaves) (fun i=>(p0.Leaves.length-i).toNat) AllI.start ?_
 intro i hi
 refine⟨fun hh=> ?_,fun hh=> ?_⟩
 ·have hh:=of_decide_eq_true hh
  refine⟨hi.1,hh,?_⟩
  dsimp only
  refine⟨fun e6=> ?_,fun e6=>⟨h3 _ (ix_mem _ _ hi.1 hh),fun e7=> ?_,fun e7=> ?_⟩⟩
  ·have e6:=of_decide_eq_true e6
   have:=hi.bad hh (by rw[decide_eq_false (by omega)];rfl)
   rw[this];rfl
  ·have e7:allB (ix p0.Leaves i)=false:=by simpa using e7
   have:=hi.bad hh (by rw[e7,Bool.and_false])
   rw[this];rfl
  ·have e6:=of_decide_eq_false e6
   have e7:allB (ix p0.Leaves i)=true:=by simpa using e7
   exact hi.next hh (by omega) (by rw[e7,decide_eq_true (by omega)];rfl)
 ·have hh:=of_decide_eq_false hh
  rw[hi.done hh];rfl
noncomputable def k12u:Con TB.den:=k62.fnR (fun x=>(fun(p0:TList13)=>p0.Leaves.length≤9223372036854775807∧(p0.Salts.length≤9223372036854775807∧∀l∈p0.Leaves,l.length≤9223372036854775807)) (TList13.mk x.1 x.2.1)) fun x=>(fun(p0:TList13)=>(((rightB p0):Bool),())) (TList13.mk x.1 x.2.1)
theorem k1j7:k12u.Ok Try.prog TB:=Con.ok_fn k62 bd5 fun x h=>k1gn (k1g8 (TList13.mk x.1 x.2.1) h)
def k2s:Con TB.den:=Con.mk0 13 [.one (.ptr 0 0),.agg [.d (.int .u64),.d (.int .u64)],.one (.d (.int .u64)),.one (.d (.sl (.int .u64)))] [.cells [.d (.bool),.d (.int .u64),.d (.int .i64),.own 1,.mp 2,.mp 3,.mp 4],.tip (.st 1),.map (.str) (.int .i64),.map (.str) (.sl (.int .u64)),.map (.str) (.bool)] (.one (.agg [.d (.int .u64),.d (.int .u64)])) [.cells [.d (.bool),.d (.int .u64),.d (.int .i64),.own 1,.mp 2,.mp 3,.mp 4],.tip (.st 1),.map (.str) (.int .i64),.map (.str) (.sl (.int .u64)),.map (.str) (.bool)]
abbrev ks4:=HL TB.den (hsT k2s.ins (hsOs k2s.pre))
abbrev kcg:=HL TB.den (hsV k2s.res (hsOs k2s.post))
noncomputable def k9g:Cx TB:=⟨inf,[kd5],[],4,[]⟩
noncomputable def kev:Code:=Try.f13.body.getD .skip
noncomputable def kge:List ResultVar:=Try.f13.results.toList
noncomputable def kqe (o:kcg):An TB:= .no
def kel (x:ks4) (o:kcg):Prop:=WPh TB k9g 20 5 kev (kqe o) (k2s.st TB x) (retTQ TB k9g k2s kge o)
theorem k128 (o:kcg):OblH TB k9g 20 5 kev (kqe o) (retTQ TB k9g k2s kge o):=
 OblH.ofC (X:=True) (by kernel_rfl) trivial
theorem k12j {x:ks4} {o:kcg} (h:kel x o):k2s.Snd Try.prog x o:=
 Con.soundH (c:=k2s) (C:=k9g) TBok ⟨inf_ok,(all_cons kjw all_nil),all_nil⟩ mix Try.func13 (show Try.f13.body=some kev by kernel_rfl) (show Try.f13.ntmps=20 by kernel_rfl) (show Try.f13.results.toList=kge by kernel_rfl) rfl h (k128 o)
theorem k14m {p1:TTranscript} {p2:Int} {p3:List Int} {c0_0:Bool} {c0_1:Int} {c0_2:Int} {w1:List TQuestion} {w2k:List ByteArray} {w2v:List Int} {w3k:List ByteArray} {w3v:List (List Int)} {w4k:List ByteArray} {w4v:List Bool} {r0:TTranscript} {d0_0:Bool} {d0_1:Int} {d0_2:Int} {e1:List TQuestion} {e2k:List ByteArray} {e2v:List Int} {e3k:List ByteArray} {e3v:List (List Int)} {e4k:List ByteArray} {e4v:List Bool} (h:
(([p1.State,p2].length+p3.length)*8≤140737488355328∧[p1.State,p2].length+p3.length≤maxLen∧(w1=w1)∧(U64 (18:Int)∧(Us ([p1.State,p2]++p3)∧([p1.State,p2]++p3).length≤1000000000)∧OOk (OS.mk c0_0 c0_1 c0_2 w1 w2k w2v w3k w3v w4k w4v))∧let r1:=hO (OS.mk c0_0 c0_1 c0_2 w1 w2k w2v w3k w3v w4k w4v) (18:Int) ([p1.State,p2]++p3)
(r1.o.q=r1.o.q)∧r1.n=r0.State∧0=r0.Count∧r1.o.a=d0_0∧r1.o.b=d0_1∧r1.o.c=d0_2∧r1.o.q=e1∧r1.o.k=e2k∧r1.o.v=e2v∧r1.o.s=e3k∧r1.o.t=e3v∧r1.o.x=e4k∧r1.o.y=e4v)):kel (p1.State,p1.Count,p2,p3,c0_0,c0_1,c0_2,w1,w2k,w2v,w3k,w3v,w4k,w4v,()) (r0.State,r0.Count,d0_0,d0_1,d0_2,e1,e2k,e2v,e3k,e3v,e4k,e4v,()):=WPh.of_eq (by kernel_rfl) h
theorem bd13:Callable Try.prog 13:=⟨by rw[Try.func13];kernel_rfl,by rw[Try.func13];show some _≠some _;decide⟩
theorem k10j (p1:TTranscript) (p2:Int) (p3:List Int) (c0_0:Bool) (c0_1:Int) (c0_2:Int) (w1:List TQuestion) (w2k:List ByteArray) (w2v:List Int) (w3k:List ByteArray) (w3v:List (List Int)) (w4k:List ByteArray) (w4v:List Bool) (h:U64 p1.State∧U64 p2∧(Us p3∧p3.length≤999999990)∧OOk (OS.mk c0_0 c0_1 c0_2 w1 w2k w2v w3k w3v w4k w4v)):kel (p1.State,p1.Count,p2,p3,c0_0,c0_1,c0_2,w1,w2k,w2v,w3k,w3v,w4k,w4v,()) ((((abO (OS.mk c0_0 c0_1 c0_2 w1 w2k w2v w3k w3v w4k w4v) p1 p2 p3).t).State:Int),(((abO (OS.mk c0_0 c0_1 c0_2 w1 w2k w2v w3k w3v w4k w4v) p1 p2 p3).t).Count:Int),(((abO (OS.mk c0_0 c0_1 c0_2 w1 w2k w2v w3k w3v w4k w4v) p1 p2 p3).o.a):Bool),(((abO (OS.mk c0_0 c0_1 c0_2 w1 w2k w2v w3k w3v w4k w4v) p1 p2 p3).o.b):Int),(((abO (OS.mk c0_0 c0_1 c0_2 w1 w2k w2v w3k w3v w4k w4v) p1 p2 p3).o.c):Int),(((abO (OS.mk c0_0 c0_1 c0_2 w1 w2k w2v w3k w3v w4k w4v) p1 p2 p3).o.q):List TQuestion),(((abO (OS.mk c0_0 c0_1 c0_2 w1 w2k w2v w3k w3v w4k w4v) p1 p2 p3).o.k):List ByteArray),(((abO (OS.mk c0_0 c0_1 c0_2 w1 w2k w2v w3k w3v w4k w4v) p1 p2 p3).o.v):List Int),(((abO (OS.mk c0_0 c0_1 c0_2 w1 w2k w2v w3k w3v w4k w4v) p1 p2 p3).o.s):List ByteArray),(((abO (OS.mk c0_0 c0_1 c0_2 w1 w2k w2v w3k w3v w4k w4v) p1 p2 p3).o.t):List (List Int)),(((abO (OS.mk c0_0 c0_1 c0_2 w1 w2k w2v w3k w3v w4k w4v) p1 p2 p3).o.x):List ByteArray),(((abO (OS.mk c0_0 c0_1 c0_2 w1 w2k w2v w3k w3v w4k w4v) p1 p2 p3).o.y):List Bool),()):=by
 obtain⟨h1,h2,⟨h3,h4⟩,h5⟩:=h
 refine k14m (r0:=(abO (OS.mk c0_0 c0_1 c0_2 w1 w2k w2v w3k w3v w4k w4v) p1 p2 p3).t) ⟨by simp;omega,by simp;unfold maxLen;omega,rfl,⟨by decide,⟨fun x hx=> ?_,by simp;omega⟩,h5⟩,rfl,rfl,rfl,rfl,rfl,rfl,rfl,rfl,rfl,rfl,rfl,rfl,rfl⟩
 rcases List.mem_append.1 hx with hx|hx
 ·rcases List.mem_cons.1 hx with rfl|hx
  ·exact h1
  ·rw[List.mem_singleton.1 hx];exact h2
 ·exact h3 x hx
noncomputable def kov:Con TB.den:=k2s.fnR (fun x=>(fun(p1:TTranscript) (p2:Int) (p3:List Int) (c0_0:Bool) (c0_1:Int) (c0_2:Int) (w1:List TQuestion) (w2k:List ByteArray) (w2v:List Int) (w3k:List ByteArray) (w3v:List (List Int)) (w4k:List ByteArray) (w4v:List Bool)=>U64 p1.State∧U64 p2∧(Us p3∧p3.length≤999999990)∧OOk (OS.mk c0_0 c0_1 c0_2 w1 w2k w2v w3k w3v w4k w4v)) (TTranscript.mk x.1 x.2.1) x.2.2.1 x.2.2.2.1 x.2.2.2.2.1 x.2.2.2.2.2.1 x.2.2.2.2.2.2.1 x.2.2.2.2.2.2.2.1 x.2.2.2.2.2.2.2.2.1 x.2.2.2.2.2.2.2.2.2.1 x.2.2.2.2.2.2.2.2.2.2.1 x.2.2.2.2.2.2.2.2.2.2.2.1 x.2.2.2.2.2.2.2.2.2.2.2.2.1 x.2.2.2.2.2.2.2.2.2.2.2.2.2.1) fun x=>(fun(p1:TTranscript) (p2:Int) (p3:List Int) (c0_0:Bool) (c0_1:Int) (c0_2:Int) (w1:List TQuestion) (w2k:List ByteArray) (w2v:List Int) (w3k:List ByteArray) (w3v:List (List Int)) (w4k:List ByteArray) (w4v:List Bool)=>((((abO (OS.mk c0_0 c0_1 c0_2 w1 w2k w2v w3k w3v w4k w4v) p1 p2 p3).t).State:Int),(((abO (OS.mk c0_0 c0_1 c0_2 w1 w2k w2v w3k w3v w4k w4v) p1 p2 p3).t).Count:Int),(((abO (OS.mk c0_0 c0_1 c0_2 w1 w2k w2v w3k w3v w4k w4v) p1 p2 p3).o.a):Bool),(((abO (OS.mk c0_0 c0_1 c0_2 w1 w2k w2v w3k w3v w4k w4v) p1 p2 p3).o.b):Int),(((abO (OS.mk c0_0 c0_1 c0_2 w1 w2k w2v w3k w3v w4k w4v) p1 p2 p3).o.c):Int),(((abO (OS.mk c0_0 c0_1 c0_2 w1 w2k w2v w3k w3v w4k w4v) p1 p2 p3).o.q):List TQuestion),(((abO (OS.mk c0_0 c0_1 c0_2 w1 w2k w2v w3k w3v w4k w4v) p1 p2 p3).o.k):List ByteArray),(((abO (OS.mk c0_0 c0_1 c0_2 w1 w2k w2v w3k w3v w4k w4v) p1 p2 p3).o.v):List Int),(((abO (OS.mk c0_0 c0_1 c0_2 w1 w2k w2v w3k w3v w4k w4v) p1 p2 p3).o.s):List ByteArray),(((abO (OS.mk c0_0 c0_1 c0_2 w1 w2k w2v w3k w3v w4k w4v) p1 p2 p3).o.t):List (List Int)),(((abO (OS.mk c0_0 c0_1 c0_2 w1 w2k w2v w3k w3v w4k w4v) p1 p2 p3).o.x):List ByteArray),(((abO (OS.mk c0_0 c0_1 c0_2 w1 w2k w2v w3k w3v w4k w4v) p1 p2 p3).o.y):List Bool),())) (TTranscript.mk x.1 x.2.1) x.2.2.1 x.2.2.2.1 x.2.2.2.2.1 x.2.2.2.2.2.1 x.2.2.2.2.2.2.1 x.2.2.2.2.2.2.2.1 x.2.2.2.2.2.2.2.2.1 x.2.2.2.2.2.2.2.2.2.1 x.2.2.2.2.2.2.2.2.2.2.1 x.2.2.2.2.2.2.2.2.2.2.2.1 x.2.2.2.2.2.2.2.2.2.2.2.2.1 x.2.2.2.2.2.2.2.2.2.2.2.2.2.1
theorem k13s:kov.Ok Try.prog TB:=Con.ok_fn k2s bd13 fun x h=>k12j (k10j (TTranscript.mk x.1 x.2.1) x.2.2.1 x.2.2.2.1 x.2.2.2.2.1 x.2.2.2.2.2.1 x.2.2.2.2.2.2.1 x.2.2.2.2.2.2.2.1 x.2.2.2.2.2.2.2.2.1 x.2.2.2.2.2.2.2.2.2.1 x.2.2.2.2.2.2.2.2.2.2.1 x.2.2.2.2.2.2.2.2.2.2.2.1 x.2.2.2.2.2.2.2.2.2.2.2.2.1 x.2.2.2.2.2.2.2.2.2.2.2.2.2.1 h)
def k3p:Con TB.den:=Con.mk0 28 [.one (.view 0)] [.vec (.int .i64)] (.one (.one (.row 1))) [.vec (.int .i64),.vec (.int .i64)]
abbrev kxi:=HL TB.den (hsT k3p.ins (hsOs k3p.pre))
abbrev kc0:=HL TB.den (hsV k3p.res (hsOs k3p.post))
noncomputable def kba:Cx TB:=⟨inf,[],[],4,[5,7]⟩
noncomputable def kiw:Code:=Try.f28.body.getD .skip
noncomputable def kku:List ResultVar:=Try.f28.results.toList
noncomputable def k195 (o:kc0):An TB:= .nd [] .no [] (.nd [] (.nd [] .no [] (.rt [.rnil 2 (.int .i64)])) [] .no)
noncomputable def kv5 (o:kc0):An TB:= .nd [] .no [] (.nd [] (k195 o) [] .no)
def kho (x:kxi) (o:kc0):Prop:=WPh TB kba 8 1 kiw (kv5 o) (k3p.st TB x) (retTQ TB kba k3p kku o)
theorem k16g (o:kc0):OblH TB kba 8 1 kiw (kv5 o) (retTQ TB kba k3p kku o):=
 OblH.ofC (X:=True) (by kernel_rfl) trivial
theorem k16d {x:kxi} {o:kc0} (h:kho x o):k3p.Snd Try.prog x o:=
 Con.soundH (c:=k3p) (C:=kba) TBok ⟨inf_ok,all_nil,all_nil⟩ mix Try.func28 (show Try.f28.body=some kiw by kernel_rfl) (show Try.f28.ntmps=8 by kernel_rfl) (show Try.f28.results.toList=kku by kernel_rfl) rfl h (k16g o)
theorem k18w {p0o:Int} {p0n:Int} {w0:List Int} {e0:List Int} {e1:List Int} (h:
(∀z4:Bool,(z4=true→p0n.toNat=0)→(z4=true→
(0=([]:List Int).length)∧w0=e0∧([]:List Int)=e1)∧
(z4=false→
([]:List Int).length=([]:List Int).length∧p0o.toNat+p0n.toNat≤w0.length∧(([]:List Int).length+((w0.drop p0o.toNat).take p0n.toNat).length)*8≤140737488355328∧([]:List Int).length+((w0.drop p0o.toNat).take p0n.toNat).length≤maxLen∧let v5:List Int:=([]:List Int)++((w0.drop p0o.toNat).take p0n.toNat)
(v5.length=v5.length)∧w0=e0∧v5=e1))):kho (p0o,p0n,w0,()) (e0,e1,()):=WPh.of_eq (by kernel_rfl) h
theorem bd28:Callable Try.prog 28:=⟨by rw[Try.func28];kernel_rfl,by rw[Try.func28];show some _≠some _;decide⟩
theorem k155 (p0o:Int) (p0n:Int) (w0:List Int) (h:0≤p0o∧0≤p0n∧p0o.toNat+p0n.toNat≤w0.length∧w0.length≤1000000):kho (p0o,p0n,w0,()) ((w0:List Int),(((w0.drop p0o.toNat).take p0n.toNat):List Int),()):=by
 obtain⟨h1,h2,h3,h4⟩:=h
 have hl:((w0.drop p0o.toNat).take p0n.toNat).length=p0n.toNat:=by rw[List.length_take,List.length_drop];omega
 refine k18w fun z hz=>⟨fun e=> ?_,fun e=> ?_⟩
 ·have:=hz e
  rw[this]
  exact⟨rfl,rfl,by simp⟩
 ·exact⟨rfl,h3,by rw[hl];simp;omega,by rw[hl];simp;unfold maxLen;omega,by simp⟩
noncomputable def ktg:Con TB.den:=k3p.fnR (fun x=>(fun(p0o:Int) (p0n:Int) (w0:List Int)=>0≤p0o∧0≤p0n∧p0o.toNat+p0n.toNat≤w0.length∧w0.length≤1000000) x.1 x.2.1 x.2.2.1) fun x=>(fun(p0o:Int) (p0n:Int) (w0:List Int)=>(w0,(((w0.drop p0o.toNat).take p0n.toNat):List Int),())) x.1 x.2.1 x.2.2.1
theorem k19a:ktg.Ok Try.prog TB:=Con.ok_fn k3p bd28 fun x h=>k16d (k155 x.1 x.2.1 x.2.2.1 h)
def k9f:Con TB.den:=Con.mk0 43 [.one (.d (.int .u64))] [] (.one (.one (.d (.int .i64)))) []
abbrev k1gx:=HL TB.den (hsT k9f.ins (hsOs k9f.pre))
abbrev k100:=HL TB.den (hsV k9f.res (hsOs k9f.post))
noncomputable def kqf:Cx TB:=⟨inf,[kvr],[],4,[]⟩
noncomputable def kxu:Code:=Try.f43.body.getD .skip
noncomputable def k14h:List ResultVar:=Try.f43.results.toList
noncomputable def k1dl (o:k100):An TB:= .no
def kxy (x:k1gx) (o:k100):Prop:=WPh TB kqf 8 0 kxu (k1dl o) (k9f.st TB x) (retTQ TB kqf k9f k14h o)
theorem k1ny (o:k100):OblH TB kqf 8 0 kxu (k1dl o) (retTQ TB kqf k9f k14h o):=
 OblH.ofC (X:=True) (by kernel_rfl) trivial
theorem k1no {x:k1gx} {o:k100} (h:kxy x o):k9f.Snd Try.prog x o:=
 Con.soundH (c:=k9f) (C:=kqf) TBok ⟨inf_ok,(all_cons k177 all_nil),all_nil⟩ mix Try.func43 (show Try.f43.body=some kxu by kernel_rfl) (show Try.f43.ntmps=8 by kernel_rfl) (show Try.f43.results.toList=k14h by kernel_rfl) rfl h (k1ny o)
theorem k1qd {p0:Int} {r0:Int} (h:
((U64 p0)∧(len64 p0)=r0)):kxy (p0,()) (r0,()):=WPh.of_eq (by kernel_rfl) h
theorem bd43:Callable Try.prog 43:=⟨by rw[Try.func43];kernel_rfl,by rw[Try.func43];show some _≠some _;decide⟩
theorem k1n0 (p0:Int) (h:U64 p0):kxy (p0,()) (((len64 p0):Int),()):=by
 exact k1qd ⟨h,rfl⟩
noncomputable def k120:Con TB.den:=k9f.fnR (fun x=>(fun(p0:Int)=>U64 p0) x.1) fun x=>(fun(p0:Int)=>(((len64 p0):Int),())) x.1
theorem k1dj:k120.Ok Try.prog TB:=Con.ok_fn k9f bd43 fun x h=>k1no (k1n0 x.1 h)
def k5o:Con TB.den:=Con.mk0 86 [.one (.d (.int .i64))] [] (.one (.one (.d (.bool)))) []
abbrev k13a:=HL TB.den (hsT k5o.ins (hsOs k5o.pre))
abbrev kl8:=HL TB.den (hsV k5o.res (hsOs k5o.post))
noncomputable def ker:Cx TB:=⟨inf,[],[],4,[]⟩
noncomputable def km9:Code:=Try.f86.body.getD .skip
noncomputable def krl:List ResultVar:=Try.f86.results.toList
noncomputable def k10x (o:kl8):An TB:= .no
def kne (x:k13a) (o:kl8):Prop:=WPh TB ker 6 0 km9 (k10x o) (k5o.st TB x) (retTQ TB ker k5o krl o)
theorem k1cj (o:kl8):OblH TB ker 6 0 km9 (k10x o) (retTQ TB ker k5o krl o):=
 OblH.ofC (X:=True) (by kernel_rfl) trivial
theorem k1dh {x:k13a} {o:kl8} (h:kne x o):k5o.Snd Try.prog x o:=
 Con.soundH (c:=k5o) (C:=ker) TBok ⟨inf_ok,all_nil,all_nil⟩ mix Try.func86 (show Try.f86.body=some km9 by kernel_rfl) (show Try.f86.ntmps=6 by kernel_rfl) (show Try.f86.results.toList=krl by kernel_rfl) rfl h (k1cj o)
theorem k1fq {p0:Int} {r0:Bool} (h:
((p0 !=p0)=r0)):kne (p0,()) (r0,()):=WPh.of_eq (by kernel_rfl) h
theorem bd86:Callable Try.prog 86:=⟨by rw[Try.func86];kernel_rfl,by rw[Try.func86];show some _≠some _;decide⟩
theorem k1an (p0:Int):kne (p0,()) ((false:Bool),()):=by
 exact k1fq (by simp)
noncomputable def kz0:Con TB.den:=k5o.totR fun x=>(fun(p0:Int)=>(false,())) x.1
theorem k1el:kz0.Ok Try.prog TB:=Con.ok_tot k5o bd86 fun x=>k1dh (k1an x.1)
def k6b:Con TB.den:=Con.mk0 62 [.one (.d (.int .i64)),.one (.d (.int .i64))] [] (.one (.one (.d (.bool)))) []
abbrev k156:=HL TB.den (hsT k6b.ins (hsOs k6b.pre))
abbrev kog:=HL TB.den (hsV k6b.res (hsOs k6b.post))
noncomputable def kfp:Cx TB:=⟨inf,[kz0],[],4,[]⟩
noncomputable def kpm:Code:=Try.f62.body.getD .skip
noncomputable def ktt:List ResultVar:=Try.f62.results.toList
noncomputable def k12w (o:kog):An TB:= .no
def kp0 (x:k156) (o:kog):Prop:=WPh TB kfp 17 0 kpm (k12w o) (k6b.st TB x) (retTQ TB kfp k6b ktt o)
theorem k1fh (o:kog):OblH TB kfp 17 0 kpm (k12w o) (retTQ TB kfp k6b ktt o):=
 OblH.ofC (X:=True) (by kernel_rfl) trivial
theorem k1fc {x:k156} {o:kog} (h:kp0 x o):k6b.Snd Try.prog x o:=
 Con.soundH (c:=k6b) (C:=kfp) TBok ⟨inf_ok,(all_cons k1el all_nil),all_nil⟩ mix Try.func62 (show Try.f62.body=some kpm by kernel_rfl) (show Try.f62.ntmps=17 by kernel_rfl) (show Try.f62.results.toList=ktt by kernel_rfl) rfl h (k1fh o)
theorem k1gy {p0:Int} {p1:Int} {r0:Bool} (h:
((false=true→
((!false)=true→
true=r0)∧
((!false)=false→
decide (p0<p1)=r0))∧
(false=false→
decide (p0<p1)=r0))):kp0 (p0,p1,()) (r0,()):=WPh.of_eq (by kernel_rfl) h
theorem bd62:Callable Try.prog 62:=⟨by rw[Try.func62];kernel_rfl,by rw[Try.func62];show some _≠some _;decide⟩
theorem k1d4 (p0:Int) (p1:Int):kp0 (p0,p1,()) (((decide (p0<p1)):Bool),()):=by
 exact k1gy ⟨fun h=>by simp at h,fun _=>rfl⟩
noncomputable def k8l:Con TB.den:=k6b.totR fun x=>(fun(p0:Int) (p1:Int)=>(((decide (p0<p1)):Bool),())) x.1 x.2.1
theorem kar:k8l.Ok Try.prog TB:=Con.ok_tot k6b bd62 fun x=>k1fc (k1d4 x.1 x.2.1)
def k28:Con TB.den:=Con.mk0 82 [.one (.d (.int .i64))] [] (.one (.one (.d (.int .u64)))) []
abbrev kos:=HL TB.den (hsT k28.ins (hsOs k28.pre))
abbrev kb9:=HL TB.den (hsV k28.res (hsOs k28.post))
noncomputable def k8o:Cx TB:=⟨inf,[k120],[],4,[]⟩
noncomputable def kd3:Code:=Try.f82.body.getD .skip
noncomputable def keh:List ResultVar:=Try.f82.results.toList
noncomputable def kmi (o:kb9):An TB:= .no
def kcz (x:kos) (o:kb9):Prop:=WPh TB k8o 7 0 kd3 (kmi o) (k28.st TB x) (retTQ TB k8o k28 keh o)
theorem k108 (o:kb9):OblH TB k8o 7 0 kd3 (kmi o) (retTQ TB k8o k28 keh o):=
 OblH.ofC (X:=True) (by kernel_rfl) trivial
theorem k109 {x:kos} {o:kb9} (h:kcz x o):k28.Snd Try.prog x o:=
 Con.soundH (c:=k28) (C:=k8o) TBok ⟨inf_ok,(all_cons k1dj all_nil),all_nil⟩ mix Try.func82 (show Try.f82.body=some kd3 by kernel_rfl) (show Try.f82.ntmps=7 by kernel_rfl) (show Try.f82.results.toList=keh by kernel_rfl) rfl h (k108 o)
theorem k119 {p0:Int} {r0:Int} (h:
((U64 (IntKind.u64.wrap p0))∧(0≤(len64 (IntKind.u64.wrap p0)))∧let v1:Int:=ishl .u64 1 (len64 (IntKind.u64.wrap p0))
v1=r0)):kcz (p0,()) (r0,()):=WPh.of_eq (by kernel_rfl) h
theorem bd82:Callable Try.prog 82:=⟨by rw[Try.func82];kernel_rfl,by rw[Try.func82];show some _≠some _;decide⟩
theorem ky2 (p0:Int) (h:0≤p0∧p0<4611686018427387904):kcz (p0,()) ((((1<<<Sort.bitsLen p0.toNat:Nat):Int):Int),()):=by
 obtain⟨h0,h1⟩:=h
 have e:=npo p0.toNat (by omega)
 rw[show((p0.toNat:Nat):Int)=p0 by omega]at e
 have e2:=k1hh p0.toNat
 rw[show((p0.toNat:Nat):Int)=p0 by omega]at e2
 refine k119 ?_
 rw[wu p0 h0 (by omega),e]
 exact⟨⟨h0,by omega⟩,by rw[e2];omega,rfl⟩
noncomputable def kld:Con TB.den:=k28.fnR (fun x=>(fun(p0:Int)=>0≤p0∧p0<4611686018427387904) x.1) fun x=>(fun(p0:Int)=>((((1<<<Sort.bitsLen p0.toNat:Nat):Int):Int),())) x.1
theorem k126:kld.Ok Try.prog TB:=Con.ok_fn k28 bd82 fun x h=>k109 (ky2 x.1 h)
def k5g:Con TB.den:=Con.mk0 83 [.one (.ptr 0 0)] [.cells [.d (.int .u64)]] (.one (.one (.d (.int .u64)))) [.cells [.d (.int .u64)]]
abbrev k138:=HL TB.den (hsT k5g.ins (hsOs k5g.pre))
abbrev klg:=HL TB.den (hsV k5g.res (hsOs k5g.post))
noncomputable def keo:Cx TB:=⟨inf,[],[],4,[]⟩
noncomputable def kma:Code:=Try.f83.body.getD .skip
noncomputable def kro:List ResultVar:=Try.f83.results.toList
noncomputable def k11m (o:klg):An TB:= .no
def kme (x:k138) (o:klg):Prop:=WPh TB keo 33 1 kma (k11m o) (k5g.st TB x) (retTQ TB keo k5g kro o)
theorem k1cz (o:klg):OblH TB keo 33 1 kma (k11m o) (retTQ TB keo k5g kro o):=
 OblH.ofC (X:=True) (by kernel_rfl) trivial
theorem k1d9 {x:k138} {o:klg} (h:kme x o):k5g.Snd Try.prog x o:=
 Con.soundH (c:=k5g) (C:=keo) TBok ⟨inf_ok,all_nil,all_nil⟩ mix Try.func83 (show Try.f83.body=some kma by kernel_rfl) (show Try.f83.ntmps=33 by kernel_rfl) (show Try.f83.results.toList=kro by kernel_rfl) rfl h (k1cz o)
theorem k1ec {c0_0:Int} {r0:Int} {d0_0:Int} (h:
(let v1:Int:=ishr .u64 (ixor .u64 c0_0 (ishl .u64 c0_0 13)) 7
let v2:Int:=ixor .u64 (ixor .u64 c0_0 (ishl .u64 c0_0 13)) v1
ixor .u64 v2 (ishl .u64 v2 17)=r0∧ixor .u64 v2 (ishl .u64 v2 17)=d0_0)):kme (c0_0,()) (r0,d0_0,()):=WPh.of_eq (by kernel_rfl) h
theorem bd83:Callable Try.prog 83:=⟨by rw[Try.func83];kernel_rfl,by rw[Try.func83];show some _≠some _;decide⟩
theorem k19q (c0_0:Int):kme (c0_0,()) (((xnI c0_0):Int),((xnI c0_0):Int),()):=by
 exact k1ec ⟨rfl,rfl⟩
noncomputable def kzm:Con TB.den:=k5g.totR fun x=>(fun(c0_0:Int)=>(((xnI c0_0):Int),((xnI c0_0):Int),())) x.1
theorem k1f4:kzm.Ok Try.prog TB:=Con.ok_tot k5g bd83 fun x=>k1d9 (k19q x.1)
def k1b:Con TB.den:=Con.mk0 58 [.one (.row 0),.one (.d (.int .i64)),.one (.d (.int .i64))] [.vec (.int .i64)] (.tup []) [.vec (.int .i64)]
abbrev ke2:=HL TB.den (hsT k1b.ins (hsOs k1b.pre))
abbrev kr:=HL TB.den (hsV k1b.res (hsOs k1b.post))
noncomputable def k1s:Cx TB:=⟨inf,[kld,kzm],[],4,[]⟩
noncomputable def k2z:Code:=Try.f58.body.getD .skip
noncomputable def k6y:List ResultVar:=Try.f58.results.toList
def kpb (o:kr):=blockT TB 0 (retTQ TB k1s k1b k6y o)
def ky:Tm:=⟨[0,1],[.vec (.int .i64),.cells [.d (.int .u64)]],[0,1,6,7,8,9],[.one (.row 0),.one (.d (.int .i64)),.one (.d (.int .i64)),.one (.ptr 1 0),.one (.d (.int .u64)),.one (.d (.int .i64))],2⟩
def kd9 (o:kr) (nx1:NX TB ky):=qM TB 1 ky nx1 (kpb o)
def kpq (o:kr) (nx1:NX TB ky):=qS TB k1s 65 1 (cB (cB (cA (cA (cB (cB (cB (cA (cB (cB k2z)))))))))) .no (kd9 o nx1)
def k6n:Tm:=⟨[0,1],[.vec (.int .i64),.cells [.d (.int .u64)]],[0,1,6,7,8,9,10],[.one (.row 0),.one (.d (.int .i64)),.one (.d (.int .i64)),.one (.ptr 1 0),.one (.d (.int .u64)),.one (.d (.int .i64)),.one (.d (.int .i64))],2⟩
def kcf (o:kr) (nx1:NX TB ky) (i:HL TB.den k6n.hs):Prop:=ghs TB [] (k6n.fill TB i) fun s=>WP TB k1s 65 1 (cB (cB (cA (cA (cB (cA (cA (cB (cB (cB (cA (cB (cB k2z))))))))))))) .no s (blockT TB 1 (kpq o nx1))
structure k4p (o:kr) (nx1:NX TB ky) (i:HL TB.den k6n.hs):Prop where
 h:kcf o nx1 i
noncomputable def kpk (o:kr) (nx1:NX TB ky):An TB:= .jn k6n (k4p o nx1) [] .no [] .no
noncomputable def kdi (o:kr) (nx1:NX TB ky):An TB:= .nd [] (.nd [] .no [] (kpk o nx1)) [] .no
def k4o (o:kr) (nx1:NX TB ky) (i:HL TB.den ky.hs):Prop:=WP TB k1s 65 1 (cA (cA (cB (cB (cB (cA (cB (cB k2z)))))))) (.nd [] .no [] (kdi o nx1)) (ky.fill TB i) (kd9 o nx1)
noncomputable def kpj (o:kr):An TB:= .lp [] ky (k4o o) fun nx1=>(.nd [] .no [] (kdi o nx1))
noncomputable def kpa (o:kr):An TB:= .nd [] .no [] (.nd [] .no [] (kpj o))
noncomputable def knt (o:kr):An TB:= .nd [] (.nd [] .no [] (kpa o)) [] .no
noncomputable def kda (o:kr):An TB:= .nd [] .no [] (.nd [] .no [] (knt o))
def k8u (x:ke2) (o:kr):Prop:=WPh TB k1s 65 1 k2z (kda o) (k1b.st TB x) (retTQ TB k1s k1b k6y o)
theorem ko1 (o:kr):OblH TB k1s 65 1 k2z (kda o) (retTQ TB k1s k1b k6y o):=
 OblH.ofC (X:=((∀nx i,(k4o o) nx i=(k4o o) nx i)∧(∀nx1:NX TB ky,((∀i,(k4p o nx1) i=kcf o nx1 i)∧True))∧True)) (by kernel_rfl) ⟨fun _ _=>rfl,fun _=>⟨fun _=>propext ⟨fun h=>h.1,fun h=>⟨h⟩⟩,trivial⟩,trivial⟩
theorem knx {x:ke2} {o:kr} (h:k8u x o):k1b.Snd Try.prog x o:=
 Con.soundH (c:=k1b) (C:=k1s) TBok ⟨inf_ok,(all_cons k126 (all_cons k1f4 all_nil)),all_nil⟩ mix Try.func58 (show Try.f58.body=some k2z by kernel_rfl) (show Try.f58.ntmps=65 by kernel_rfl) (show Try.f58.results.toList=k6y by kernel_rfl) rfl h (ko1 o)
theorem kph {p1:Int} {p2:Int} {w0:List Int} {e0:List Int} (h:
(let v1:Bool:=decide (8≤(IntKind.i64.wrap (p2-p1)))
(v1=true→
let v2:Int:=IntKind.u64.wrap (IntKind.i64.wrap (p2-p1))
(0≤(IntKind.i64.wrap (p2-p1))∧(IntKind.i64.wrap (p2-p1))<4611686018427387904)∧let r3:Int:=((1<<<Sort.bitsLen (IntKind.i64.wrap (p2-p1)).toNat:Nat):Int)
let v4:Int:=IntKind.i64.wrap (Int.tdiv (IntKind.i64.wrap (p2-p1)) 4)
let v5:Int:=IntKind.i64.wrap (p1+(IntKind.i64.wrap (v4*2)))
(w0.length=w0.length)∧Md.Loop (p1,(IntKind.i64.wrap (p2-p1):Int),r3,(IntKind.i64.wrap (v5-1):Int),v2,w0,()) (k4o (e0,())))∧
(v1=false→
w0=e0))):k8u (p1,p2,w0,()) (e0,()):=WPh.of_eq (by kernel_rfl) h
theorem kbh {e0:List Int} {nx1:NX TB ky} {s1:Int} {s6:Int} {s8:Int} {s9:Int} {s10:Int} {h1_0:Int} {g0:List Int} (h:
((0≤IntKind.i64.wrap (s1+s10)∧IntKind.i64.wrap (s1+s10)<(g0.length:Int))∧(0≤IntKind.i64.wrap (s1+s10)∧IntKind.i64.wrap (s1+s10)<(g0.length:Int))∧(0≤s9∧s9<(g0.length:Int))∧(0≤s9∧s9<(g0.length:Int))∧(0≤s9∧s9<(g0.length:Int))∧(0≤s9∧s9<(g0.length:Int))∧(0≤IntKind.i64.wrap (s1+s10)∧IntKind.i64.wrap (s1+s10)<(g0.length:Int))∧(0≤IntKind.i64.wrap (s1+s10)∧IntKind.i64.wrap (s1+s10)<((g0.set s9.toNat (ix g0 (IntKind.i64.wrap (s1+s10)))).length:Int))∧(g0.length=((g0.set s9.toNat (ix g0 (IntKind.i64.wrap (s1+s10)))).set (IntKind.i64.wrap (s1+s10)).toNat (ix g0 s9)).length)∧nx1 (s1,s6,s8,(IntKind.i64.wrap (s9+1):Int),h1_0,((g0.set s9.toNat (ix g0 (IntKind.i64.wrap (s1+s10)))).set (IntKind.i64.wrap (s1+s10)).toNat (ix g0 s9):List Int),()))):k4p (e0,()) nx1 (s1,s6,s8,s9,s10,h1_0,g0,()):=⟨mpr_of (by kernel_rfl) h⟩
def k99 (e0:List Int) (nx1:NX TB ky) (k1:Int→Int→List Int→Prop) (s1:Int) (s6:Int) (s8:Int) (s9:Int) (h1_0:Int) (g0:List Int):Prop:=
let v6:Int:=IntKind.i64.wrap ((IntKind.i64.wrap (Int.tdiv s6 4))*2)
let v7:Int:=IntKind.i64.wrap ((IntKind.i64.wrap (s1+v6))+1)
(decide (s9≤v7)=true→
let v8:Int:=iand .u64 (xnI h1_0) (IntKind.u64.wrap (s8-1))
(decide (s6≤(IntKind.i64.wrap v8))=true→
let v9:Int:=IntKind.i64.wrap ((IntKind.i64.wrap v8)-s6)
(g0.length=g0.length)∧k4p (e0,()) nx1 (s1,s6,s8,s9,v9,((xnI h1_0):Int),g0,()))∧
(decide (s6≤(IntKind.i64.wrap v8))=false→
(g0.length=g0.length)∧k4p (e0,()) nx1 (s1,s6,s8,s9,(IntKind.i64.wrap v8:Int),((xnI h1_0):Int),g0,())))∧
(decide (s9≤v7)=false→
g0=e0)
theorem knu {e0:List Int} {s1:Int} {s6:Int} {s8:Int} {s9:Int} {h1_0:Int} {g0:List Int} (inv:Int→Int→List Int→Prop) (μ:Int→Int→List Int→Nat) (h0:inv s9 h1_0 g0) (hs:∀(s9:Int) (h1_0:Int) (g0:List Int),inv s9 h1_0 g0→k99 e0 (fun s:Int×Int×Int×Int×Int×(List Int)×Unit=>((s.1=s1∧s.2.1=s6∧s.2.2.1=s8)∧inv s.2.2.2.1 s.2.2.2.2.1 s.2.2.2.2.2.1)∧μ s.2.2.2.1 s.2.2.2.2.1 s.2.2.2.2.2.1<μ s9 h1_0 g0) (fun s9q h1_0q g0q=>inv s9q h1_0q g0q∧μ s9q h1_0q g0q<μ s9 h1_0 g0) s1 s6 s8 s9 h1_0 g0):Md.Loop (s1,s6,s8,s9,h1_0,g0,()) (k4o (e0,())):=
 ⟨⟨fun s:Int×Int×Int×Int×Int×(List Int)×Unit=>(s.1=s1∧s.2.1=s6∧s.2.2.1=s8)∧inv s.2.2.2.1 s.2.2.2.2.1 s.2.2.2.2.2.1,fun s:Int×Int×Int×Int×Int×(List Int)×Unit=>μ s.2.2.2.1 s.2.2.2.2.1 s.2.2.2.2.2.1,⟨⟨rfl,rfl,rfl⟩,h0⟩,fun(s1p,s6p,s8p,s9p,h1_0p,g0p,()) ⟨⟨eq0,eq1,eq2⟩,hi⟩=>by
  have eq0:s1p=s1:=eq0;subst s1p;have eq1:s6p=s6:=eq1;subst s6p;have eq2:s8p=s8:=eq2;subst s8p;exact mpr_of (by kernel_rfl) ((congrArg (fun k=>k99 e0 (fun s:Int×Int×Int×Int×Int×(List Int)×Unit=>((s.1=s1∧s.2.1=s6∧s.2.2.1=s8)∧inv s.2.2.2.1 s.2.2.2.2.1 s.2.2.2.2.2.1)∧μ s.2.2.2.1 s.2.2.2.2.1 s.2.2.2.2.2.1<μ s9p h1_0p g0p) k s1 s6 s8 s9p h1_0p g0p) (lpk3 (⟨rfl,rfl,rfl⟩:s1=s1∧s6=s6∧s8=s8) inv (fun s9q h1_0q g0q=>μ s9q h1_0q g0q<μ s9p h1_0p g0p))).mpr (hs s9p h1_0p g0p hi))⟩⟩
theorem bd58:Callable Try.prog 58:=⟨by rw[Try.func58];kernel_rfl,by rw[Try.func58];show some _≠some _;decide⟩
set_option maxHeartbeats 1000000 in
theorem knj (p1:Int) (p2:Int) (w0:List Int) (h:(0≤p1∧p1≤p2∧p2≤w0.length)∧w0.length≤1099511627776):k8u (p1,p2,w0,()) (((brkS w0 p1 p2):List Int),()):=by
 obtain⟨⟨h1,h2,h3⟩,h4⟩:=h
 have e1:=wi (p2-p1) (by omega) (by omega)
 have e5:=wu (p2-p1) (by omega) (by omega)
 have e3:Int.tdiv (p2-p1) 4=(p2-p1)/4:=Int.tdiv_eq_ediv_of_nonneg (by omega)
 have e4:=wi ((p2-p1)/4) (by omega) (by omega)
 have e6:=wi ((p2-p1)/4*2) (by omega) (by omega)
 have e7:=wi (p1+(p2-p1)/4*2) (by omega) (by omega)
 have e8:=wi (p1+(p2-p1)/4*2-1) (by omega) (by omega)
 have e9:=wi (p1+(p2-p1)/4*2+1) (by omega) (by omega)
 refine kph ?_
 dsimp only
 rw[e1,e5,e3,e4,e6,e7,e8]
 refine⟨fun hh=> ?_,fun hh=> ?_⟩
 ·have hh:=of_decide_eq_true hh
  have hm:=npo_le (p2-p1).toNat (by omega)
  have hb:=brk_eq w0.toArray p1.toNat p2.toNat (by omega)
  rw[show p2.toNat-p1.toNat=(p2-p1).toNat by omega]at hb
  have hR:(brkS w0 p1 p2)=(brkL p1.toNat (p2-p1).toNat (1<<<Sort.bitsLen (p2-p1).toNat) 3 (UInt64.ofNat (p2-p1).toNat,w0.toArray) (p1.toNat+(p2-p1).toNat/4*2-1)).toList:=by unfold brkS;rw[hb]
  refine⟨⟨by omega,by omega⟩,rfl,?_⟩
  generalize 1<<<Sort.bitsLen (p2-p1).toNat=md at *
  generalize brkS w0 p1 p2=R at *
  clear hb
  have e0:(UInt64.ofNat (p2-p1).toNat).toNat=(p2-p1).toNat:=by rw[UInt64.toNat_ofNat',Nat.mod_eq_of_lt (by omega)]
  refine knu (fun idx rnd g=>∃(k:Nat) (u:UInt64),(k≤3∧idx+k=p1+(p2-p1)/4*2+2)∧rnd=(u.toNat:Int)∧g.length=w0.length∧R=(brkL p1.toNat (p2-p1).toNat md k (u,g.toArray) idx.toNat).toList) (fun idx _ _=>(p1+(p2-p1)/4*2+2-idx).toNat) ⟨3,UInt64.ofNat (p2-p1).toNat,⟨by omega,by omega⟩,by omega,rfl,by rw[hR,show(p1+(p2-p1)/4*2-1).toNat=p1.toNat+(p2-p1).toNat/4*2-1 by omega]⟩ ?_
  clear hR e0
  have hq:0≤(p2-p1)/4∧4*((p2-p1)/4)≤p2-p1∧p2-p1<4*((p2-p1)/4)+4:=by omega
  generalize (p2-p1)/4=dq at *
  generalize hn:(p2-p1).toNat=n at *
  have hn2:(n:Int)=p2-p1:=by omega
  rintro idx rnd g ⟨k,u,⟨k0,k1⟩,rfl,g2,g3⟩
  unfold k99
  dsimp only
  rw[e3,e4,e6,e7,e9]
  refine⟨fun q=> ?_,fun q=> ?_⟩
  ·have q:=of_decide_eq_true q
   obtain⟨k,rfl⟩:∃m,k=m+1:=⟨k-1,by omega⟩
   rw[brkL_go]at g3
   have hx:=xnI_eq u
   have hlt:=(Sort.xorNext u).toNat_lt
   generalize xnI (u.toNat:Int)=xu at *
   generalize Sort.xorNext u=u' at *
   subst hx
   have hmd:(u'.toNat&&&(md-1))≤md-1:=Nat.and_le_right
   have e10:iand .u64 (u'.toNat:Int) (IntKind.u64.wrap ((md:Int)-1))=((u'.toNat&&&(md-1):Nat):Int):=by
    rw[wu _ (by omega) (by omega),show(md:Int)-1=((md-1:Nat):Int)by omega,k1f8 _ _ (by omega) (by omega)]
   rw[e10]
   generalize u'.toNat&&&(md-1)=z at *
   rw[wi (z:Int) (by omega) (by omega)]
   generalize ho:(if z≥n then z-n else z)=o at *
   have ho2:o<n:=by rw[←ho];split<;>omega
   have w1:=wi (p1+(o:Int)) (by omega) (by omega)
   have w2:=wi (idx+1) (by omega) (by omega)
   have hs:=swp_arr (g:=g) (i:=idx) (j:=p1+(o:Int)) (by omega) (by omega) (by omega) (by omega)
   rw[show p1.toNat+o=(p1+(o:Int)).toNat by omega,hs,show idx.toNat+1=(idx+1).toNat by omega]at g3
   have fin:(∃(k:Nat) (u:UInt64),(k≤3∧IntKind.i64.wrap (idx+1)+k=p1+dq*2+2)∧(u'.toNat:Int)=(u.toNat:Int)∧(swpL g idx (IntKind.i64.wrap (p1+(o:Int)))).length=w0.length∧R=(brkL p1.toNat n md k (u,(swpL g idx (IntKind.i64.wrap (p1+(o:Int)))).toArray) (IntKind.i64.wrap (idx+1)).toNat).toList)∧(p1+dq*2+2-IntKind.i64.wrap (idx+1)).toNat<(p1+dq*2+2-idx).toNat:=by
    rw[w1,w2]
    exact⟨⟨k,u',⟨by omega,by omega⟩,rfl,by rw[krp];exact g2,g3⟩,by omega⟩
   have rng:(0≤IntKind.i64.wrap (p1+(o:Int))∧IntKind.i64.wrap (p1+(o:Int))<(g.length:Int))∧(0≤idx∧idx<(g.length:Int)):=by rw[w1];exact⟨⟨by omega,by omega⟩,⟨by omega,by omega⟩⟩
   have rng2:0≤IntKind.i64.wrap (p1+(o:Int))∧IntKind.i64.wrap (p1+(o:Int))<((g.set idx.toNat (ix g (IntKind.i64.wrap (p1+(o:Int))))).length:Int):=by rw[List.length_set];exact rng.1
   refine⟨fun e=> ?_,fun e=> ?_⟩
   ·have e:=of_decide_eq_true e
    rw[if_pos (by omega)]at ho
    rw[show(z:Int)-(p2-p1)=(o:Int)by omega,wi (o:Int) (by omega) (by omega)]
    exact⟨rfl,kbh ⟨rng.1,rng.1,rng.2,rng.2,rng.2,rng.2,rng.1,rng2,by rw[List.length_set,List.length_set],⟨⟨rfl,rfl,rfl⟩,fin.1⟩,fin.2⟩⟩
   ·have e:=of_decide_eq_false e
    rw[if_neg (by omega)]at ho
    subst ho
    exact⟨rfl,kbh ⟨rng.1,rng.1,rng.2,rng.2,rng.2,rng.2,rng.1,rng2,by rw[List.length_set,List.length_set],⟨⟨rfl,rfl,rfl⟩,fin.1⟩,fin.2⟩⟩
  ·have q:=of_decide_eq_false q
   have:k=0:=by omega
   subst this
   rw[g3]
   rfl
 ·have hh:=of_decide_eq_false hh
  unfold brkS
  rw[brk_no _ _ _ (by omega)]
noncomputable def kck:Con TB.den:=k1b.fnR (fun x=>(fun(p1:Int) (p2:Int) (w0:List Int)=>(0≤p1∧p1≤p2∧p2≤w0.length)∧w0.length≤1099511627776) x.1 x.2.1 x.2.2.1) fun x=>(fun(p1:Int) (p2:Int) (w0:List Int)=>(((brkS w0 p1 p2):List Int),())) x.1 x.2.1 x.2.2.1
theorem kpl:kck.Ok Try.prog TB:=Con.ok_fn k1b bd58 fun x h=>knx (knj x.1 x.2.1 x.2.2.1 h)
def k1z:Con TB.den:=Con.mk0 95 [.one (.row 0),.one (.d (.int .i64)),.one (.d (.int .i64)),.one (.ptr 1 0)] [.vec (.int .i64),.cells [.d (.int .i64)]] (.tup [.one (.d (.int .i64)),.one (.d (.int .i64))]) [.vec (.int .i64),.cells [.d (.int .i64)]]
abbrev kkb:=HL TB.den (hsT k1z.ins (hsOs k1z.pre))
abbrev k9l:=HL TB.den (hsV k1z.res (hsOs k1z.post))
noncomputable def k7f:Cx TB:=⟨inf,[k8l],[],4,[]⟩
noncomputable def kb6:Code:=Try.f95.body.getD .skip
noncomputable def kc8:List ResultVar:=Try.f95.results.toList
noncomputable def kja (o:k9l):An TB:= .no
def kb3 (x:kkb) (o:k9l):Prop:=WPh TB k7f 28 2 kb6 (kja o) (k1z.st TB x) (retTQ TB k7f k1z kc8 o)
theorem kv9 (o:k9l):OblH TB k7f 28 2 kb6 (kja o) (retTQ TB k7f k1z kc8 o):=
 OblH.ofC (X:=True) (by kernel_rfl) trivial
theorem kv7 {x:kkb} {o:k9l} (h:kb3 x o):k1z.Snd Try.prog x o:=
 Con.soundH (c:=k1z) (C:=k7f) TBok ⟨inf_ok,(all_cons kar all_nil),all_nil⟩ mix Try.func95 (show Try.f95.body=some kb6 by kernel_rfl) (show Try.f95.ntmps=28 by kernel_rfl) (show Try.f95.results.toList=kc8 by kernel_rfl) rfl h (kv9 o)
theorem kxl {p1:Int} {p2:Int} {c1_0:Int} {w0:List Int} {r0:Int} {r1:Int} {d1_0:Int} {e0:List Int} (h:
((0≤p2∧p2<(w0.length:Int))∧(0≤p2∧p2<(w0.length:Int))∧(0≤p1∧p1<(w0.length:Int))∧(0≤p1∧p1<(w0.length:Int))∧((decide ((ix w0 p2)<(ix w0 p1)))=true→
p2=r0∧p1=r1∧IntKind.i64.wrap (c1_0+1)=d1_0∧w0=e0)∧
((decide ((ix w0 p2)<(ix w0 p1)))=false→
p1=r0∧p2=r1∧c1_0=d1_0∧w0=e0))):kb3 (p1,p2,c1_0,w0,()) (r0,r1,d1_0,e0,()):=WPh.of_eq (by kernel_rfl) h
theorem bd95:Callable Try.prog 95:=⟨by rw[Try.func95];kernel_rfl,by rw[Try.func95];show some _≠some _;decide⟩
theorem kum (p1:Int) (p2:Int) (c1_0:Int) (w0:List Int) (h:(0≤p1∧p1<w0.length)∧(0≤p2∧p2<w0.length)∧0≤c1_0∧c1_0≤1000):kb3 (p1,p2,c1_0,w0,()) ((((Sort.order2 Sort.ltInt w0.toArray p1.toNat p2.toNat c1_0.toNat).1:Int):Int),(((Sort.order2 Sort.ltInt w0.toArray p1.toNat p2.toNat c1_0.toNat).2.1:Int):Int),(((Sort.order2 Sort.ltInt w0.toArray p1.toNat p2.toNat c1_0.toNat).2.2:Int):Int),(w0:List Int),()):=by
 obtain⟨⟨h1,h2⟩,⟨h3,h4⟩,h5,h6⟩:=h
 have x1:=arr_ix (g:=w0) h1 h2
 have x2:=arr_ix (g:=w0) h3 h4
 refine kxl ⟨⟨h3,h4⟩,⟨h3,h4⟩,⟨h1,h2⟩,⟨h1,h2⟩,fun e=> ?_,fun e=> ?_⟩
 ·unfold Sort.order2
  rw[x1,x2,ltI_iff,e,if_pos rfl,wi (c1_0+1) (by omega) (by omega)]
  exact⟨(Int.toNat_of_nonneg h3).symm,(Int.toNat_of_nonneg h1).symm,(by show c1_0+1=((c1_0.toNat+1:Nat):Int);omega),rfl⟩
 ·unfold Sort.order2
  rw[x1,x2,ltI_iff,e,if_neg (by decide)]
  exact⟨(Int.toNat_of_nonneg h1).symm,(Int.toNat_of_nonneg h3).symm,(Int.toNat_of_nonneg h5).symm,rfl⟩
noncomputable def kht:Con TB.den:=k1z.fnR (fun x=>(fun(p1:Int) (p2:Int) (c1_0:Int) (w0:List Int)=>(0≤p1∧p1<w0.length)∧(0≤p2∧p2<w0.length)∧0≤c1_0∧c1_0≤1000) x.1 x.2.1 x.2.2.1 x.2.2.2.1) fun x=>(fun(p1:Int) (p2:Int) (c1_0:Int) (w0:List Int)=>((((Sort.order2 Sort.ltInt w0.toArray p1.toNat p2.toNat c1_0.toNat).1:Int):Int),(((Sort.order2 Sort.ltInt w0.toArray p1.toNat p2.toNat c1_0.toNat).2.1:Int):Int),(((Sort.order2 Sort.ltInt w0.toArray p1.toNat p2.toNat c1_0.toNat).2.2:Int):Int),w0,())) x.1 x.2.1 x.2.2.1 x.2.2.2.1
theorem kx3:kht.Ok Try.prog TB:=Con.ok_fn k1z bd95 fun x h=>kv7 (kum x.1 x.2.1 x.2.2.1 x.2.2.2.1 h)
def k20:Con TB.den:=Con.mk0 85 [.one (.row 0),.one (.d (.int .i64)),.one (.d (.int .i64)),.one (.d (.int .i64)),.one (.ptr 1 0)] [.vec (.int .i64),.cells [.d (.int .i64)]] (.one (.one (.d (.int .i64)))) [.vec (.int .i64),.cells [.d (.int .i64)]]
abbrev kk8:=HL TB.den (hsT k20.ins (hsOs k20.pre))
abbrev k9q:=HL TB.den (hsV k20.res (hsOs k20.post))
noncomputable def k7e:Cx TB:=⟨inf,[kht],[],4,[]⟩
noncomputable def kb7:Code:=Try.f85.body.getD .skip
noncomputable def kbu:List ResultVar:=Try.f85.results.toList
noncomputable def kjb (o:k9q):An TB:= .no
def kb4 (x:kk8) (o:k9q):Prop:=WPh TB k7e 36 2 kb7 (kjb o) (k20.st TB x) (retTQ TB k7e k20 kbu o)
theorem kw6 (o:k9q):OblH TB k7e 36 2 kb7 (kjb o) (retTQ TB k7e k20 kbu o):=
 OblH.ofC (X:=True) (by kernel_rfl) trivial
theorem kw9 {x:kk8} {o:k9q} (h:kb4 x o):k20.Snd Try.prog x o:=
 Con.soundH (c:=k20) (C:=k7e) TBok ⟨inf_ok,(all_cons kx3 all_nil),all_nil⟩ mix Try.func85 (show Try.f85.body=some kb7 by kernel_rfl) (show Try.f85.ntmps=36 by kernel_rfl) (show Try.f85.results.toList=kbu by kernel_rfl) rfl h (kw6 o)
theorem kww {p1:Int} {p2:Int} {p3:Int} {c1_0:Int} {w0:List Int} {r0:Int} {d1_0:Int} {e0:List Int} (h:
((w0.length=w0.length)∧((0≤p1∧p1<w0.length)∧(0≤p2∧p2<w0.length)∧0≤c1_0∧c1_0≤1000)∧let r1:Int:=((Sort.order2 Sort.ltInt w0.toArray p1.toNat p2.toNat c1_0.toNat).1:Int)
let r2:Int:=((Sort.order2 Sort.ltInt w0.toArray p1.toNat p2.toNat c1_0.toNat).2.1:Int)
let r3:Int:=((Sort.order2 Sort.ltInt w0.toArray p1.toNat p2.toNat c1_0.toNat).2.2:Int)
(w0.length=w0.length)∧((0≤r2∧r2<w0.length)∧(0≤p3∧p3<w0.length)∧0≤r3∧r3≤1000)∧let r4:Int:=((Sort.order2 Sort.ltInt w0.toArray r2.toNat p3.toNat r3.toNat).1:Int)
let r5:Int:=((Sort.order2 Sort.ltInt w0.toArray r2.toNat p3.toNat r3.toNat).2.1:Int)
let r6:Int:=((Sort.order2 Sort.ltInt w0.toArray r2.toNat p3.toNat r3.toNat).2.2:Int)
(w0.length=w0.length)∧((0≤r1∧r1<w0.length)∧(0≤r4∧r4<w0.length)∧0≤r6∧r6≤1000)∧let r7:Int:=((Sort.order2 Sort.ltInt w0.toArray r1.toNat r4.toNat r6.toNat).1:Int)
let r8:Int:=((Sort.order2 Sort.ltInt w0.toArray r1.toNat r4.toNat r6.toNat).2.1:Int)
let r9:Int:=((Sort.order2 Sort.ltInt w0.toArray r1.toNat r4.toNat r6.toNat).2.2:Int)
r8=r0∧r9=d1_0∧w0=e0)):kb4 (p1,p2,p3,c1_0,w0,()) (r0,d1_0,e0,()):=WPh.of_eq (by kernel_rfl) h
theorem bd85:Callable Try.prog 85:=⟨by rw[Try.func85];kernel_rfl,by rw[Try.func85];show some _≠some _;decide⟩
theorem kuq (p1:Int) (p2:Int) (p3:Int) (c1_0:Int) (w0:List Int) (h:(0≤p1∧p1<w0.length)∧(0≤p2∧p2<w0.length)∧(0≤p3∧p3<w0.length)∧0≤c1_0∧c1_0≤100):kb4 (p1,p2,p3,c1_0,w0,()) ((((Sort.median Sort.ltInt w0.toArray p1.toNat p2.toNat p3.toNat c1_0.toNat).1:Int):Int),(((Sort.median Sort.ltInt w0.toArray p1.toNat p2.toNat p3.toNat c1_0.toNat).2:Int):Int),(w0:List Int),()):=by
 obtain⟨⟨h1,h2⟩,⟨h3,h4⟩,⟨h5,h6⟩,h7,h8⟩:=h
 refine kww ?_
 unfold Sort.median
 dsimp only
 simp only[Int.toNat_natCast]
 have q1:=kno (d:=w0.toArray) (a:=p1.toNat) (b:=p2.toNat) (c:=c1_0.toNat) (n:=w0.length) (by omega) (by omega)
 generalize Sort.order2 Sort.ltInt w0.toArray p1.toNat p2.toNat c1_0.toNat=r1 at *
 have q2:=kno (d:=w0.toArray) (a:=r1.2.1) (b:=p3.toNat) (c:=r1.2.2) (n:=w0.length) q1.2.1 (by omega)
 generalize Sort.order2 Sort.ltInt w0.toArray r1.2.1 p3.toNat r1.2.2=r2 at *
 have q3:=kno (d:=w0.toArray) (a:=r1.1) (b:=r2.1) (c:=r2.2.2) (n:=w0.length) q1.1 q2.1
 exact⟨by trivial,⟨⟨h1,h2⟩,⟨h3,h4⟩,h7,by omega⟩,by trivial,⟨⟨by omega,by omega⟩,⟨h5,h6⟩,by omega,by omega⟩,by trivial,⟨⟨by omega,by omega⟩,⟨by omega,by omega⟩,by omega,by omega⟩,by trivial,by trivial,by trivial⟩
noncomputable def kbd:Con TB.den:=k20.fnR (fun x=>(fun(p1:Int) (p2:Int) (p3:Int) (c1_0:Int) (w0:List Int)=>(0≤p1∧p1<w0.length)∧(0≤p2∧p2<w0.length)∧(0≤p3∧p3<w0.length)∧0≤c1_0∧c1_0≤100) x.1 x.2.1 x.2.2.1 x.2.2.2.1 x.2.2.2.2.1) fun x=>(fun(p1:Int) (p2:Int) (p3:Int) (c1_0:Int) (w0:List Int)=>((((Sort.median Sort.ltInt w0.toArray p1.toNat p2.toNat p3.toNat c1_0.toNat).1:Int):Int),(((Sort.median Sort.ltInt w0.toArray p1.toNat p2.toNat p3.toNat c1_0.toNat).2:Int):Int),w0,())) x.1 x.2.1 x.2.2.1 x.2.2.2.1 x.2.2.2.2.1
theorem kjc:kbd.Ok Try.prog TB:=Con.ok_fn k20 bd85 fun x h=>kw9 (kuq x.1 x.2.1 x.2.2.1 x.2.2.2.1 x.2.2.2.2.1 h)
def k1f:Con TB.den:=Con.mk0 84 [.one (.row 0),.one (.d (.int .i64)),.one (.ptr 1 0)] [.vec (.int .i64),.cells [.d (.int .i64)]] (.one (.one (.d (.int .i64)))) [.vec (.int .i64),.cells [.d (.int .i64)]]
abbrev kde:=HL TB.den (hsT k1f.ins (hsOs k1f.pre))
abbrev k6x:=HL TB.den (hsV k1f.res (hsOs k1f.post))
noncomputable def k49:Cx TB:=⟨inf,[kbd],[],4,[]⟩
noncomputable def k86:Code:=Try.f84.body.getD .skip
noncomputable def k93:List ResultVar:=Try.f84.results.toList
noncomputable def kcp (o:k6x):An TB:= .no
def k84 (x:kde) (o:k6x):Prop:=WPh TB k49 15 2 k86 (kcp o) (k1f.st TB x) (retTQ TB k49 k1f k93 o)
theorem km0 (o:k6x):OblH TB k49 15 2 k86 (kcp o) (retTQ TB k49 k1f k93 o):=
 OblH.ofC (X:=True) (by kernel_rfl) trivial
theorem klw {x:kde} {o:k6x} (h:k84 x o):k1f.Snd Try.prog x o:=
 Con.soundH (c:=k1f) (C:=k49) TBok ⟨inf_ok,(all_cons kjc all_nil),all_nil⟩ mix Try.func84 (show Try.f84.body=some k86 by kernel_rfl) (show Try.f84.ntmps=15 by kernel_rfl) (show Try.f84.results.toList=k93 by kernel_rfl) rfl h (km0 o)
theorem ko2 {p1:Int} {c1_0:Int} {w0:List Int} {r0:Int} {d1_0:Int} {e0:List Int} (h:
((w0.length=w0.length)∧((0≤(IntKind.i64.wrap (p1-1))∧(IntKind.i64.wrap (p1-1))<w0.length)∧(0≤p1∧p1<w0.length)∧(0≤(IntKind.i64.wrap (p1+1))∧(IntKind.i64.wrap (p1+1))<w0.length)∧0≤c1_0∧c1_0≤100)∧let r1:Int:=((Sort.median Sort.ltInt w0.toArray (IntKind.i64.wrap (p1-1)).toNat p1.toNat (IntKind.i64.wrap (p1+1)).toNat c1_0.toNat).1:Int)
let r2:Int:=((Sort.median Sort.ltInt w0.toArray (IntKind.i64.wrap (p1-1)).toNat p1.toNat (IntKind.i64.wrap (p1+1)).toNat c1_0.toNat).2:Int)
r1=r0∧r2=d1_0∧w0=e0)):k84 (p1,c1_0,w0,()) (r0,d1_0,e0,()):=WPh.of_eq (by kernel_rfl) h
theorem bd84:Callable Try.prog 84:=⟨by rw[Try.func84];kernel_rfl,by rw[Try.func84];show some _≠some _;decide⟩
theorem klo (p1:Int) (c1_0:Int) (w0:List Int) (h:(1≤p1∧p1+1<w0.length)∧w0.length≤1099511627776∧0≤c1_0∧c1_0≤100):k84 (p1,c1_0,w0,()) ((((Sort.medianAdjacent Sort.ltInt w0.toArray p1.toNat c1_0.toNat).1:Int):Int),(((Sort.medianAdjacent Sort.ltInt w0.toArray p1.toNat c1_0.toNat).2:Int):Int),(w0:List Int),()):=by
 obtain⟨⟨h1,h2⟩,h3,h4,h5⟩:=h
 refine ko2 ?_
 rw[wi (p1-1) (by omega) (by omega),wi (p1+1) (by omega) (by omega)]
 unfold Sort.medianAdjacent
 rw[show(p1-1).toNat=p1.toNat-1 by omega,show(p1+1).toNat=p1.toNat+1 by omega]
 exact⟨rfl,⟨⟨by omega,by omega⟩,⟨by omega,by omega⟩,⟨by omega,by omega⟩,h4,h5⟩,rfl,rfl,rfl⟩
noncomputable def kc5:Con TB.den:=k1f.fnR (fun x=>(fun(p1:Int) (c1_0:Int) (w0:List Int)=>(1≤p1∧p1+1<w0.length)∧w0.length≤1099511627776∧0≤c1_0∧c1_0≤100) x.1 x.2.1 x.2.2.1) fun x=>(fun(p1:Int) (c1_0:Int) (w0:List Int)=>((((Sort.medianAdjacent Sort.ltInt w0.toArray p1.toNat c1_0.toNat).1:Int):Int),(((Sort.medianAdjacent Sort.ltInt w0.toArray p1.toNat c1_0.toNat).2:Int):Int),w0,())) x.1 x.2.1 x.2.2.1
theorem kop:kc5.Ok Try.prog TB:=Con.ok_fn k1f bd84 fun x h=>klw (klo x.1 x.2.1 x.2.2.1 h)
def k1a:Con TB.den:=Con.mk0 59 [.one (.row 0),.one (.d (.int .i64)),.one (.d (.int .i64))] [.vec (.int .i64)] (.tup [.one (.d (.int .i64)),.one (.d (.int .i64))]) [.vec (.int .i64)]
abbrev kf7:=HL TB.den (hsT k1a.ins (hsOs k1a.pre))
abbrev k15:=HL TB.den (hsV k1a.res (hsOs k1a.post))
noncomputable def k21:Cx TB:=⟨inf,[kc5,kbd],[],4,[]⟩
noncomputable def k4m:Code:=Try.f59.body.getD .skip
noncomputable def k5m:List ResultVar:=Try.f59.results.toList
def k52:Tm:=⟨[0,1],[.vec (.int .i64),.cells [.d (.int .i64)]],[9,11],[.one (.ptr 1 0),.one (.d (.int .i64))],2⟩
def kdx (o:k15) (i:HL TB.den k52.hs):Prop:=ghs TB [] (k52.fill TB i) fun s=>WP TB k21 57 1 (cB (cB (cB (cB (cB (cB (cB k4m))))))) .no s (retTQ TB k21 k1a k5m o)
structure k2y (o:k15) (i:HL TB.den k52.hs):Prop where
 h:kdx o i
def krh (o:k15):=qM TB 1 k52 (k2y o) (retTQ TB k21 k1a k5m o)
def k7b:Tm:=⟨[0,1],[.vec (.int .i64),.cells [.d (.int .i64)]],[0,9,10,11,12],[.one (.row 0),.one (.ptr 1 0),.one (.d (.int .i64)),.one (.d (.int .i64)),.one (.d (.int .i64))],2⟩
def ke5 (o:k15) (i:HL TB.den k7b.hs):Prop:=ghs TB [] (k7b.fill TB i) fun s=>WP TB k21 57 1 (cB (cA (cB (cA (cB (cB (cB (cB (cB (cB k4m)))))))))) .no s (krh o)
structure k3t (o:k15) (i:HL TB.den k7b.hs):Prop where
 h:ke5 o i
noncomputable def kr4 (o:k15):An TB:= .jn k7b (k3t o) [] .no [] .no
noncomputable def kr3 (o:k15):An TB:= .nd [] .no [] (.nd [] (kr4 o) [] .no)
noncomputable def krs (o:k15):An TB:= .jn k52 (k2y o) [] (kr3 o) [] .no
noncomputable def kr2 (o:k15):An TB:= .nd [] .no [] (.nd [] .no [] (krs o))
noncomputable def kqu (o:k15):An TB:= .nd [] .no [] (.nd [] .no [] (kr2 o))
noncomputable def ken (o:k15):An TB:= .nd [] .no [] (.nd [] .no [] (kqu o))
def k9a (x:kf7) (o:k15):Prop:=WPh TB k21 57 1 k4m (ken o) (k1a.st TB x) (retTQ TB k21 k1a k5m o)
theorem kpv (o:k15):OblH TB k21 57 1 k4m (ken o) (retTQ TB k21 k1a k5m o):=
 OblH.ofC (X:=((∀i,(k3t o) i=ke5 o i)∧(∀i,(k2y o) i=kdx o i)∧True)) (by kernel_rfl) ⟨fun _=>propext ⟨fun h=>h.1,fun h=>⟨h⟩⟩,fun _=>propext ⟨fun h=>h.1,fun h=>⟨h⟩⟩,trivial⟩
theorem kq7 {x:kf7} {o:k15} (h:k9a x o):k1a.Snd Try.prog x o:=
 Con.soundH (c:=k1a) (C:=k21) TBok ⟨inf_ok,(all_cons kop (all_cons kjc all_nil)),all_nil⟩ mix Try.func59 (show Try.f59.body=some k4m by kernel_rfl) (show Try.f59.ntmps=57 by kernel_rfl) (show Try.f59.results.toList=k5m by kernel_rfl) rfl h (kpv o)
theorem kqw {p1:Int} {p2:Int} {w0:List Int} {r0:Int} {r1:Int} {e0:List Int} (h:
(let v2:Int:=IntKind.i64.wrap (Int.tdiv (IntKind.i64.wrap (p2-p1)) 4)
let v3:Int:=IntKind.i64.wrap (p1+(IntKind.i64.wrap (v2*1)))
let v4:Int:=IntKind.i64.wrap (Int.tdiv (IntKind.i64.wrap (p2-p1)) 4)
let v5:Int:=IntKind.i64.wrap (p1+(IntKind.i64.wrap (v4*2)))
let v6:Int:=IntKind.i64.wrap (Int.tdiv (IntKind.i64.wrap (p2-p1)) 4)
let v7:Int:=IntKind.i64.wrap (p1+(IntKind.i64.wrap (v6*3)))
let v8:Bool:=decide (8≤(IntKind.i64.wrap (p2-p1)))
(v8=true→
let v9:Bool:=decide (50≤(IntKind.i64.wrap (p2-p1)))
(v9=true→
(w0.length=w0.length)∧((1≤v3∧v3+1<w0.length)∧w0.length≤1099511627776∧0≤(0:Int)∧(0:Int)≤100)∧let r10:Int:=((Sort.medianAdjacent Sort.ltInt w0.toArray v3.toNat (0:Int).toNat).1:Int)
let r11:Int:=((Sort.medianAdjacent Sort.ltInt w0.toArray v3.toNat (0:Int).toNat).2:Int)
(w0.length=w0.length)∧((1≤v5∧v5+1<w0.length)∧w0.length≤1099511627776∧0≤r11∧r11≤100)∧let r12:Int:=((Sort.medianAdjacent Sort.ltInt w0.toArray v5.toNat r11.toNat).1:Int)
let r13:Int:=((Sort.medianAdjacent Sort.ltInt w0.toArray v5.toNat r11.toNat).2:Int)
(w0.length=w0.length)∧((1≤v7∧v7+1<w0.length)∧w0.length≤1099511627776∧0≤r13∧r13≤100)∧let r14:Int:=((Sort.medianAdjacent Sort.ltInt w0.toArray v7.toNat r13.toNat).1:Int)
let r15:Int:=((Sort.medianAdjacent Sort.ltInt w0.toArray v7.toNat r13.toNat).2:Int)
(w0.length=w0.length)∧k3t (r0,r1,e0,()) (r10,r12,r14,r15,w0,()))∧
(v9=false→
(w0.length=w0.length)∧k3t (r0,r1,e0,()) (v3,v5,v7,(0:Int),w0,())))∧
(v8=false→
k2y (r0,r1,e0,()) (v5,(0:Int),w0,())))):k9a (p1,p2,w0,()) (r0,r1,e0,()):=WPh.of_eq (by kernel_rfl) h
theorem ko4 {r0:Int} {r1:Int} {e0:List Int} {s10:Int} {s11:Int} {s12:Int} {h1_0:Int} {g0:List Int} (h:
((g0.length=g0.length)∧((0≤s10∧s10<g0.length)∧(0≤s11∧s11<g0.length)∧(0≤s12∧s12<g0.length)∧0≤h1_0∧h1_0≤100)∧let r16:Int:=((Sort.median Sort.ltInt g0.toArray s10.toNat s11.toNat s12.toNat h1_0.toNat).1:Int)
let r17:Int:=((Sort.median Sort.ltInt g0.toArray s10.toNat s11.toNat s12.toNat h1_0.toNat).2:Int)
k2y (r0,r1,e0,()) (r16,r17,g0,()))):k3t (r0,r1,e0,()) (s10,s11,s12,h1_0,g0,()):=⟨mpr_of (by kernel_rfl) h⟩
theorem ko9 {r0:Int} {r1:Int} {e0:List Int} {s11:Int} {h1_0:Int} {g0:List Int} (h:
(((h1_0==0)=true→
s11=r0∧1=r1∧g0=e0)∧
((h1_0==0)=false→
((h1_0==12)=true→
s11=r0∧2=r1∧g0=e0)∧
((h1_0==12)=false→
s11=r0∧0=r1∧g0=e0)))):k2y (r0,r1,e0,()) (s11,h1_0,g0,()):=⟨mpr_of (by kernel_rfl) h⟩
theorem bd59:Callable Try.prog 59:=⟨by rw[Try.func59];kernel_rfl,by rw[Try.func59];show some _≠some _;decide⟩
set_option maxHeartbeats 1000000 in
theorem kp8 (p1:Int) (p2:Int) (w0:List Int) (h:(0≤p1∧p1<p2∧p2≤w0.length)∧w0.length≤1099511627776):k9a (p1,p2,w0,()) ((((cpS w0 p1 p2).1:Int):Int),((hintN (cpS w0 p1 p2).2):Int),(w0:List Int),()):=by
 obtain⟨⟨h1,h2,h3⟩,h4⟩:=h
 have e1:=wi (p2-p1) (by omega) (by omega)
 have e3:Int.tdiv (p2-p1) 4=(p2-p1)/4:=Int.tdiv_eq_ediv_of_nonneg (by omega)
 have e4:=wi ((p2-p1)/4) (by omega) (by omega)
 have e5:=wi ((p2-p1)/4*1) (by omega) (by omega)
 have e6:=wi ((p2-p1)/4*2) (by omega) (by omega)
 have e7:=wi ((p2-p1)/4*3) (by omega) (by omega)
 have f5:=wi (p1+(p2-p1)/4*1) (by omega) (by omega)
 have f6:=wi (p1+(p2-p1)/4*2) (by omega) (by omega)
 have f7:=wi (p1+(p2-p1)/4*3) (by omega) (by omega)
 have j2:∀(r:Nat×Nat),cpS w0 p1 p2=(r.1,if r.2=0 then Sort.Hint.increasing else if r.2=12 then .decreasing else .unknown)→k2y (((cpS w0 p1 p2).1:Int),hintN (cpS w0 p1 p2).2,w0,()) ((r.1:Int),(r.2:Int),w0,()):=by
  intro r hr
  rw[hr]
  refine ko9 ⟨fun e=> ?_,fun e=>⟨fun e2=> ?_,fun e2=> ?_⟩⟩
  ·have e:(r.2:Int)=0:=by simpa using e
   rw[if_pos (by omega)]
   exact⟨rfl,rfl,rfl⟩
  ·have e:¬(r.2:Int)=0:=by simpa using e
   have e2:(r.2:Int)=12:=by simpa using e2
   rw[if_neg (by omega),if_pos (by omega)]
   exact⟨rfl,rfl,rfl⟩
  ·have e:¬(r.2:Int)=0:=by simpa using e
   have e2:¬(r.2:Int)=12:=by simpa using e2
   rw[if_neg (by omega),if_neg (by omega)]
   exact⟨rfl,rfl,rfl⟩
 have j1:∀(i j k s:Nat),(i<w0.length∧j<w0.length∧k<w0.length∧s≤100)→cpS w0 p1 p2=((Sort.median Sort.ltInt w0.toArray i j k s).1,if(Sort.median Sort.ltInt w0.toArray i j k s).2=0 then Sort.Hint.increasing else if(Sort.median Sort.ltInt w0.toArray i j k s).2=12 then .decreasing else .unknown)→k3t (((cpS w0 p1 p2).1:Int),hintN (cpS w0 p1 p2).2,w0,()) ((i:Int),(j:Int),(k:Int),(s:Int),w0,()):=by
  intro i j k s ⟨i1,i2,i3,i4⟩ hr
  refine ko4 ⟨rfl,⟨⟨by omega,by omega⟩,⟨by omega,by omega⟩,⟨by omega,by omega⟩,by omega,by omega⟩,?_⟩
  dsimp only
  simp only[Int.toNat_natCast]
  exact j2 _ hr
 have hcp:cpS w0 p1 p2=Sort.choosePivot Sort.ltInt w0.toArray p1.toNat p2.toNat:=rfl
 refine kqw ?_
 dsimp only
 rw[e1,e3,e4,e5,e6,e7,f5,f6,f7]
 have dq:(p2-p1)/4=(((p2.toNat-p1.toNat)/4:Nat):Int):=by omega
 refine⟨fun a=>⟨fun b=> ?_,fun b=> ?_⟩,fun a=> ?_⟩
 ·have a:=of_decide_eq_true a
  have b:=of_decide_eq_true b
  have ei:(p1+(p2-p1)/4*1).toNat=p1.toNat+(p2.toNat-p1.toNat)/4*1:=by omega
  have ej:(p1+(p2-p1)/4*2).toNat=p1.toNat+(p2.toNat-p1.toNat)/4*2:=by omega
  have ek:(p1+(p2-p1)/4*3).toNat=p1.toNat+(p2.toNat-p1.toNat)/4*3:=by omega
  have key:=hcp
  unfold Sort.choosePivot at key
  simp only[if_pos (show p2.toNat-p1.toNat≥8 by omega),if_pos (show p2.toNat-p1.toNat≥50 by omega)]at key
  rw[←ei,←ej,←ek]at key
  have r1:=k174 (d:=w0.toArray) (a:=(p1+(p2-p1)/4*1).toNat-1) (b:=(p1+(p2-p1)/4*1).toNat) (c:=(p1+(p2-p1)/4*1).toNat+1) (s:=0) (n:=w0.length) (by omega) (by omega) (by omega)
  have m1:Sort.medianAdjacent Sort.ltInt w0.toArray (p1+(p2-p1)/4*1).toNat 0=Sort.median Sort.ltInt w0.toArray ((p1+(p2-p1)/4*1).toNat-1) (p1+(p2-p1)/4*1).toNat ((p1+(p2-p1)/4*1).toNat+1) 0:=rfl
  rw[←m1]at r1
  rw[show(0:Int).toNat=0 from rfl]
  generalize Sort.medianAdjacent Sort.ltInt w0.toArray (p1+(p2-p1)/4*1).toNat 0=A at *
  have r2:=k174 (d:=w0.toArray) (a:=(p1+(p2-p1)/4*2).toNat-1) (b:=(p1+(p2-p1)/4*2).toNat) (c:=(p1+(p2-p1)/4*2).toNat+1) (s:=A.2) (n:=w0.length) (by omega) (by omega) (by omega)
  have m2:Sort.medianAdjacent Sort.ltInt w0.toArray (p1+(p2-p1)/4*2).toNat A.2=Sort.median Sort.ltInt w0.toArray ((p1+(p2-p1)/4*2).toNat-1) (p1+(p2-p1)/4*2).toNat ((p1+(p2-p1)/4*2).toNat+1) A.2:=rfl
  rw[←m2]at r2
  simp only[Int.toNat_natCast]
  generalize Sort.medianAdjacent Sort.ltInt w0.toArray (p1+(p2-p1)/4*2).toNat A.2=B at *
  have r3:=k174 (d:=w0.toArray) (a:=(p1+(p2-p1)/4*3).toNat-1) (b:=(p1+(p2-p1)/4*3).toNat) (c:=(p1+(p2-p1)/4*3).toNat+1) (s:=B.2) (n:=w0.length) (by omega) (by omega) (by omega)
  have m3:Sort.medianAdjacent Sort.ltInt w0.toArray (p1+(p2-p1)/4*3).toNat B.2=Sort.median Sort.ltInt w0.toArray ((p1+(p2-p1)/4*3).toNat-1) (p1+(p2-p1)/4*3).toNat ((p1+(p2-p1)/4*3).toNat+1) B.2:=rfl
  rw[←m3]at r3
  generalize Sort.medianAdjacent Sort.ltInt w0.toArray (p1+(p2-p1)/4*3).toNat B.2=C at *
  exact⟨by trivial,⟨⟨by omega,by omega⟩,h4,by omega,by omega⟩,by trivial,⟨⟨by omega,by omega⟩,h4,by omega,by omega⟩,by trivial,⟨⟨by omega,by omega⟩,h4,by omega,by omega⟩,by trivial,j1 _ _ _ _ ⟨r1.1,r2.1,r3.1,by omega⟩ key⟩
 ·have a:=of_decide_eq_true a
  have b:=of_decide_eq_false b
  have key:=hcp
  unfold Sort.choosePivot at key
  simp only[if_pos (show p2.toNat-p1.toNat≥8 by omega),if_neg (show¬p2.toNat-p1.toNat≥50 by omega)]at key
  refine⟨rfl,?_⟩
  have ei:p1+(p2-p1)/4*1=((p1.toNat+(p2.toNat-p1.toNat)/4*1:Nat):Int):=by omega
  have ej:p1+(p2-p1)/4*2=((p1.toNat+(p2.toNat-p1.toNat)/4*2:Nat):Int):=by omega
  have ek:p1+(p2-p1)/4*3=((p1.toNat+(p2.toNat-p1.toNat)/4*3:Nat):Int):=by omega
  rw[ei,ej,ek]
  exact j1 _ _ _ 0 ⟨by omega,by omega,by omega,by omega⟩ key
 ·have a:=of_decide_eq_false a
  have key:=hcp
  unfold Sort.choosePivot at key
  simp only[if_neg (show¬p2.toNat-p1.toNat≥8 by omega)]at key
  have ej:p1+(p2-p1)/4*2=((p1.toNat+(p2.toNat-p1.toNat)/4*2:Nat):Int):=by omega
  rw[ej]
  exact j2 (_,0) key
noncomputable def ke0:Con TB.den:=k1a.fnR (fun x=>(fun(p1:Int) (p2:Int) (w0:List Int)=>(0≤p1∧p1<p2∧p2≤w0.length)∧w0.length≤1099511627776) x.1 x.2.1 x.2.2.1) fun x=>(fun(p1:Int) (p2:Int) (w0:List Int)=>((((cpS w0 p1 p2).1:Int):Int),((hintN (cpS w0 p1 p2).2):Int),w0,())) x.1 x.2.1 x.2.2.1
theorem krg:ke0.Ok Try.prog TB:=Con.ok_fn k1a bd59 fun x h=>kq7 (kp8 x.1 x.2.1 x.2.2.1 h)
def k1j:Con TB.den:=Con.mk0 81 [.one (.row 0),.one (.d (.int .i64)),.one (.d (.int .i64)),.one (.d (.int .i64))] [.vec (.int .i64)] (.tup []) [.vec (.int .i64)]
abbrev kih:=HL TB.den (hsT k1j.ins (hsOs k1j.pre))
abbrev k14:=HL TB.den (hsV k1j.res (hsOs k1j.post))
noncomputable def k25:Cx TB:=⟨inf,[k8l],[],4,[]⟩
noncomputable def k3y:Code:=Try.f81.body.getD .skip
noncomputable def k89:List ResultVar:=Try.f81.results.toList
def kur (o:k14):=blockT TB 0 (retTQ TB k25 k1j k89 o)
def ko:Tm:=⟨[0],[.vec (.int .i64)],[0,2,3,8],[.one (.row 0),.one (.d (.int .i64)),.one (.d (.int .i64)),.one (.d (.int .i64))],1⟩
def kb5 (o:k14) (nx1:NX TB ko):=qM TB 1 ko nx1 (kur o)
def k6a:Tm:=⟨[0],[.vec (.int .i64)],[0,2,3,8,9],[.one (.row 0),.one (.d (.int .i64)),.one (.d (.int .i64)),.one (.d (.int .i64)),.one (.d (.int .i64))],81⟩
def kfq (o:k14) (nx1:NX TB ko) (i:HL TB.den k6a.hs):Prop:=ghs TB [] (k6a.fill TB i) fun s=>WP TB k25 76 1 (cB (cB (cB (cA (cA (cA (cB k3y))))))) .no s (blockT TB 1 (kb5 o nx1))
structure k3m (o:k14) (nx1:NX TB ko) (i:HL TB.den k6a.hs):Prop where
 h:kfq o nx1 i
def kuj (o:k14) (nx1:NX TB ko):=qM TB 1 k6a (k3m o nx1) (blockT TB 1 (kb5 o nx1))
def k81:Tm:=⟨[0],[.vec (.int .i64)],[0,2,3,8,9,36],[.one (.row 0),.one (.d (.int .i64)),.one (.d (.int .i64)),.one (.d (.int .i64)),.one (.d (.int .i64)),.one (.d (.bool))],81⟩
def kfu (o:k14) (nx1:NX TB ko) (i:HL TB.den k81.hs):Prop:=ghs TB [] (k81.fill TB i) fun s=>WP TB k25 76 1 (cB (cA (cB (cB (cA (cA (cA (cB k3y)))))))) .no s (kuj o nx1)
structure k4v (o:k14) (nx1:NX TB ko) (i:HL TB.den k81.hs):Prop where
 h:kfu o nx1 i
noncomputable def kuo (o:k14) (nx1:NX TB ko):An TB:= .jn k81 (k4v o nx1) [] .no [] .no
noncomputable def kut (o:k14) (nx1:NX TB ko):An TB:= .jn k6a (k3m o nx1) [] (kuo o nx1) [] .no
noncomputable def kgl (o:k14) (nx1:NX TB ko):An TB:= .nd [] .no [] (.nd [] .no [] (kut o nx1))
def k6s (o:k14) (nx1:NX TB ko) (i:HL TB.den ko.hs):Prop:=WP TB k25 76 1 (cA (cA (cB k3y))) (kgl o nx1) (ko.fill TB i) (kb5 o nx1)
noncomputable def ktf (o:k14):An TB:= .lp [] ko (k6s o) fun nx1=>(kgl o nx1)
noncomputable def kgu (o:k14):An TB:= .nd [] .no [] (ktf o)
def kab (x:kih) (o:k14):Prop:=WPh TB k25 76 1 k3y (kgu o) (k1j.st TB x) (retTQ TB k25 k1j k89 o)
theorem kth (o:k14):OblH TB k25 76 1 k3y (kgu o) (retTQ TB k25 k1j k89 o):=
 OblH.ofC (X:=((∀nx i,(k6s o) nx i=(k6s o) nx i)∧(∀nx1:NX TB ko,((∀i,(k4v o nx1) i=kfu o nx1 i)∧(∀i,(k3m o nx1) i=kfq o nx1 i)∧True))∧True)) (by kernel_rfl) ⟨fun _ _=>rfl,fun _=>⟨fun _=>propext ⟨fun h=>h.1,fun h=>⟨h⟩⟩,fun _=>propext ⟨fun h=>h.1,fun h=>⟨h⟩⟩,trivial⟩,trivial⟩
theorem ktj {x:kih} {o:k14} (h:kab x o):k1j.Snd Try.prog x o:=
 Con.soundH (c:=k1j) (C:=k25) TBok ⟨inf_ok,(all_cons kar all_nil),all_nil⟩ mix Try.func81 (show Try.f81.body=some k3y by kernel_rfl) (show Try.f81.ntmps=76 by kernel_rfl) (show Try.f81.results.toList=k89 by kernel_rfl) rfl h (kth o)
theorem kus {p1:Int} {p2:Int} {p3:Int} {w0:List Int} {e0:List Int} (h:
((w0.length=w0.length)∧Md.Loop (p2,p3,p1,w0,()) (k6s (e0,())))):kab (p1,p2,p3,w0,()) (e0,()):=WPh.of_eq (by kernel_rfl) h
theorem krn {e0:List Int} {nx1:NX TB ko} {s2:Int} {s3:Int} {s8:Int} {s9:Int} {s36:Bool} {g0:List Int} (h:
((s36=true→
(g0.length=g0.length)∧k3m (e0,()) nx1 (s2,s3,s8,(IntKind.i64.wrap (s9+1):Int),g0,()))∧
(s36=false→
(g0.length=g0.length)∧k3m (e0,()) nx1 (s2,s3,s8,s9,g0,())))):k4v (e0,()) nx1 (s2,s3,s8,s9,s36,g0,()):=⟨mpr_of (by kernel_rfl) h⟩
theorem kre {e0:List Int} {nx1:NX TB ko} {s2:Int} {s3:Int} {s8:Int} {s9:Int} {g0:List Int} (h:
((0≤IntKind.i64.wrap (s3+s8)∧IntKind.i64.wrap (s3+s8)<(g0.length:Int))∧(0≤IntKind.i64.wrap (s3+s8)∧IntKind.i64.wrap (s3+s8)<(g0.length:Int))∧(0≤IntKind.i64.wrap (s3+s9)∧IntKind.i64.wrap (s3+s9)<(g0.length:Int))∧(0≤IntKind.i64.wrap (s3+s9)∧IntKind.i64.wrap (s3+s9)<(g0.length:Int))∧let r5:Bool:=(decide ((ix g0 (IntKind.i64.wrap (s3+s8)))<(ix g0 (IntKind.i64.wrap (s3+s9)))))
((!r5)=true→
g0=e0)∧
((!r5)=false→
(0≤IntKind.i64.wrap (s3+s9)∧IntKind.i64.wrap (s3+s9)<(g0.length:Int))∧(0≤IntKind.i64.wrap (s3+s9)∧IntKind.i64.wrap (s3+s9)<(g0.length:Int))∧(0≤IntKind.i64.wrap (s3+s8)∧IntKind.i64.wrap (s3+s8)<(g0.length:Int))∧(0≤IntKind.i64.wrap (s3+s8)∧IntKind.i64.wrap (s3+s8)<(g0.length:Int))∧(0≤IntKind.i64.wrap (s3+s8)∧IntKind.i64.wrap (s3+s8)<(g0.length:Int))∧(0≤IntKind.i64.wrap (s3+s8)∧IntKind.i64.wrap (s3+s8)<(g0.length:Int))∧(0≤IntKind.i64.wrap (s3+s9)∧IntKind.i64.wrap (s3+s9)<(g0.length:Int))∧(0≤IntKind.i64.wrap (s3+s9)∧IntKind.i64.wrap (s3+s9)<((g0.set (IntKind.i64.wrap (s3+s8)).toNat (ix g0 (IntKind.i64.wrap (s3+s9)))).length:Int))∧(g0.length=((g0.set (IntKind.i64.wrap (s3+s8)).toNat (ix g0 (IntKind.i64.wrap (s3+s9)))).set (IntKind.i64.wrap (s3+s9)).toNat (ix g0 (IntKind.i64.wrap (s3+s8)))).length)∧nx1 (s2,s3,s9,((g0.set (IntKind.i64.wrap (s3+s8)).toNat (ix g0 (IntKind.i64.wrap (s3+s9)))).set (IntKind.i64.wrap (s3+s9)).toNat (ix g0 (IntKind.i64.wrap (s3+s8))):List Int),())))):k3m (e0,()) nx1 (s2,s3,s8,s9,g0,()):=⟨mpr_of (by kernel_rfl) h⟩
def kb8 (e0:List Int) (nx1:NX TB ko) (k1:Int→List Int→Prop) (s2:Int) (s3:Int) (s8:Int) (g0:List Int):Prop:=
let v1:Int:=IntKind.i64.wrap ((IntKind.i64.wrap (2*s8))+1)
(decide (s2≤v1)=true→
g0=e0)∧
(decide (s2≤v1)=false→
let v2:Bool:=decide ((IntKind.i64.wrap (v1+1))<s2)
(v2=true→
(0≤IntKind.i64.wrap (s3+v1)∧IntKind.i64.wrap (s3+v1)<(g0.length:Int))∧(0≤IntKind.i64.wrap (s3+v1)∧IntKind.i64.wrap (s3+v1)<(g0.length:Int))∧let v3:Int:=IntKind.i64.wrap ((IntKind.i64.wrap (s3+v1))+1)
(0≤v3∧v3<(g0.length:Int))∧(0≤v3∧v3<(g0.length:Int))∧let r4:Bool:=(decide ((ix g0 (IntKind.i64.wrap (s3+v1)))<(ix g0 v3)))
(g0.length=g0.length)∧k4v (e0,()) nx1 (s2,s3,s8,v1,r4,g0,()))∧
(v2=false→
(g0.length=g0.length)∧k4v (e0,()) nx1 (s2,s3,s8,v1,false,g0,())))
theorem ktb {e0:List Int} {s2:Int} {s3:Int} {s8:Int} {g0:List Int} (inv:Int→List Int→Prop) (μ:Int→List Int→Nat) (h0:inv s8 g0) (hs:∀(s8:Int) (g0:List Int),inv s8 g0→kb8 e0 (fun s:Int×Int×Int×(List Int)×Unit=>((s.1=s2∧s.2.1=s3)∧inv s.2.2.1 s.2.2.2.1)∧μ s.2.2.1 s.2.2.2.1<μ s8 g0) (fun s8q g0q=>inv s8q g0q∧μ s8q g0q<μ s8 g0) s2 s3 s8 g0):Md.Loop (s2,s3,s8,g0,()) (k6s (e0,())):=
 ⟨⟨fun s:Int×Int×Int×(List Int)×Unit=>(s.1=s2∧s.2.1=s3)∧inv s.2.2.1 s.2.2.2.1,fun s:Int×Int×Int×(List Int)×Unit=>μ s.2.2.1 s.2.2.2.1,⟨⟨rfl,rfl⟩,h0⟩,fun(s2p,s3p,s8p,g0p,()) ⟨⟨eq0,eq1⟩,hi⟩=>by
  have eq0:s2p=s2:=eq0;subst s2p;have eq1:s3p=s3:=eq1;subst s3p;exact mpr_of (by kernel_rfl) ((congrArg (fun k=>kb8 e0 (fun s:Int×Int×Int×(List Int)×Unit=>((s.1=s2∧s.2.1=s3)∧inv s.2.2.1 s.2.2.2.1)∧μ s.2.2.1 s.2.2.2.1<μ s8p g0p) k s2 s3 s8p g0p) (lpk2 (⟨rfl,rfl⟩:s2=s2∧s3=s3) inv (fun s8q g0q=>μ s8q g0q<μ s8p g0p))).mpr (hs s8p g0p hi))⟩⟩
theorem bd81:Callable Try.prog 81:=⟨by rw[Try.func81];kernel_rfl,by rw[Try.func81];show some _≠some _;decide⟩
theorem ksa (p1:Int) (p2:Int) (p3:Int) (w0:List Int) (h:(0≤p1∧p1≤1099511627776)∧(0≤p2∧0≤p3∧p3+p2≤w0.length)∧w0.length≤1099511627776):kab (p1,p2,p3,w0,()) (((sdS w0 p1 p2 p3):List Int),()):=by
 obtain⟨⟨h0,h1⟩,⟨h2,h3,h4⟩,h5⟩:=h
 refine kus ⟨rfl,?_⟩
 refine ktb (fun root g=>(0≤root∧root≤1099511627776)∧g.length=w0.length∧Sort.siftDown Sort.ltInt p2.toNat p3.toNat root.toNat g.toArray=Sort.siftDown Sort.ltInt p2.toNat p3.toNat p1.toNat w0.toArray) (fun root _=>(p2-root).toNat) ⟨⟨h0,h1⟩,rfl,rfl⟩ ?_
 rintro root g ⟨⟨g0,g1⟩,g2,g3⟩
 unfold kb8
 rw[wi (2*root) (by omega) (by omega),wi (2*root+1) (by omega) (by omega)]
 dsimp only
 rw[wi (2*root+1+1) (by omega) (by omega)]
 refine⟨fun hh=> ?_,fun hh=> ?_⟩
 ·have hh:=of_decide_eq_true hh
  rw[k1o4 g0 hh]at g3
  unfold sdS
  rw[←g3]
 have hh:=of_decide_eq_false hh
 have hc:=chS_rng (g:=g) (hi:=p2) (first:=p3) (root:=root) (by omega)
 rw[k1q8 g0 h3 (by omega) (by omega)]at g3
 have key:∀c:Int,c=chS g p2 p3 root→∀nx:NX TB ko,(∀g' :List Int,((0≤c∧c≤1099511627776)∧g'.length=w0.length∧Sort.siftDown Sort.ltInt p2.toNat p3.toNat c.toNat g'.toArray=Sort.siftDown Sort.ltInt p2.toNat p3.toNat p1.toNat w0.toArray)∧(p2-c).toNat<(p2-root).toNat→nx (p2,p3,c,g',()))→k3m (sdS w0 p1 p2 p3,()) nx (p2,p3,root,c,g,()):=by
  rintro c rfl nx hn
  rw[←wi (p3+root) (by omega) (by omega)]at g3
  rw[←wi (p3+chS g p2 p3 root) (by omega) (by omega)]at g3
  have w1:=wi (p3+root) (by omega) (by omega)
  have w2:=wi (p3+chS g p2 p3 root) (by omega) (by omega)
  generalize hcc:chS g p2 p3 root=c at *
  refine kre ?_
  generalize IntKind.i64.wrap (p3+root)=u at *
  generalize IntKind.i64.wrap (p3+c)=v at *
  refine⟨⟨by omega,by omega⟩,⟨by omega,by omega⟩,⟨by omega,by omega⟩,⟨by omega,by omega⟩,fun e=> ?_,fun e=> ?_⟩
  ·have e:¬ix g u<ix g v:=by simpa using e
   rw[if_neg e]at g3
   unfold sdS
   rw[←g3]
  ·have e:ix g u<ix g v:=by simpa using e
   rw[if_pos e]at g3
   exact⟨⟨by omega,by omega⟩,⟨by omega,by omega⟩,⟨by omega,by omega⟩,⟨by omega,by omega⟩,⟨by omega,by omega⟩,⟨by omega,by omega⟩,⟨by omega,by omega⟩,⟨by omega,by rw[List.length_set];omega⟩,by rw[List.length_set,List.length_set],hn _ ⟨⟨⟨by omega,by omega⟩,by rw[List.length_set,List.length_set];exact g2,g3⟩,by omega⟩⟩
 have j1:∀s:Bool,(s=true↔(2*root+2<p2∧ix g (p3+(2*root+1))<ix g (p3+(2*root+1)+1)))→∀nx:NX TB ko,(∀(c:Int) (g' :List Int),((0≤c∧c≤1099511627776)∧g'.length=w0.length∧Sort.siftDown Sort.ltInt p2.toNat p3.toNat c.toNat g'.toArray=Sort.siftDown Sort.ltInt p2.toNat p3.toNat p1.toNat w0.toArray)∧(p2-c).toNat<(p2-root).toNat→nx (p2,p3,c,g',()))→k4v (sdS w0 p1 p2 p3,()) nx (p2,p3,root,2*root+1,s,g,()):=by
  intro s hs nx hn
  refine krn ⟨fun e=>⟨rfl,?_⟩,fun e=>⟨rfl,?_⟩⟩
  ·exact key _ (by show IntKind.i64.wrap (2*root+1+1)=chS g p2 p3 root;rw[wi (2*root+1+1) (by omega) (by omega)];unfold chS;rw[if_pos (hs.1 e)];omega) nx fun g' =>hn _ g'
  ·exact key _ (Eq.symm (if_neg fun q=>by rw[hs.2 q]at e;cases e)) nx fun g' =>hn _ g'
 refine⟨fun e=> ?_,fun e=> ?_⟩
 ·have e:=of_decide_eq_true e
  have w1:=wi (p3+(2*root+1)) (by omega) (by omega)
  rw[w1,wi (p3+(2*root+1)+1) (by omega) (by omega)]
  refine⟨⟨by omega,by omega⟩,⟨by omega,by omega⟩,⟨by omega,by omega⟩,⟨by omega,by omega⟩,rfl,?_⟩
  exact j1 _ ⟨fun q=>⟨by omega,of_decide_eq_true q⟩,fun q=>decide_eq_true q.2⟩ _ fun c g' q=>⟨⟨⟨rfl,rfl⟩,q.1⟩,q.2⟩
 ·have e:=of_decide_eq_false e
  exact⟨rfl,j1 _ ⟨fun q=>(by cases q),fun q=>absurd q.1 (by omega)⟩ _ fun c g' q=>⟨⟨⟨rfl,rfl⟩,q.1⟩,q.2⟩⟩
noncomputable def kg2:Con TB.den:=k1j.fnR (fun x=>(fun(p1:Int) (p2:Int) (p3:Int) (w0:List Int)=>(0≤p1∧p1≤1099511627776)∧(0≤p2∧0≤p3∧p3+p2≤w0.length)∧w0.length≤1099511627776) x.1 x.2.1 x.2.2.1 x.2.2.2.1) fun x=>(fun(p1:Int) (p2:Int) (p3:Int) (w0:List Int)=>(((sdS w0 p1 p2 p3):List Int),())) x.1 x.2.1 x.2.2.1 x.2.2.2.1
theorem kuk:kg2.Ok Try.prog TB:=Con.ok_fn k1j bd81 fun x h=>ktj (ksa x.1 x.2.1 x.2.2.1 x.2.2.2.1 h)
def k1g:Con TB.den:=Con.mk0 57 [.one (.row 0),.one (.d (.int .i64)),.one (.d (.int .i64))] [.vec (.int .i64)] (.tup []) [.vec (.int .i64)]
abbrev khq:=HL TB.den (hsT k1g.ins (hsOs k1g.pre))
abbrev k1e:=HL TB.den (hsV k1g.res (hsOs k1g.post))
noncomputable def k22:Cx TB:=⟨inf,[kg2],[],4,[]⟩
noncomputable def k3z:Code:=Try.f57.body.getD .skip
noncomputable def k6q:List ResultVar:=Try.f57.results.toList
def kud (o:k1e):=blockT TB 2 (retTQ TB k22 k1g k6q o)
def k3n:Tm:=⟨[0],[.vec (.int .i64)],[0,6,7,10],[.one (.row 0),.one (.d (.int .i64)),.one (.d (.int .i64)),.one (.d (.int .i64))],1⟩
def kun (o:k1e) (nx2:NX TB k3n):=qM TB 1 k3n nx2 (kud o)
def k6p (o:k1e) (nx2:NX TB k3n) (i:HL TB.den k3n.hs):Prop:=WP TB k22 56 1 (cA (cA (cB (cB (cB (cB (cB k3z))))))) .no (k3n.fill TB i) (kun o nx2)
noncomputable def kgx (o:k1e):An TB:= .lp [] k3n (k6p o) fun nx2=> .no
def kup (o:k1e):=qS TB k22 56 1 (cB (cB (cB (cB k3z)))) (.nd [] .no [] (kgx o)) (retTQ TB k22 k1g k6q o)
def k3o:Tm:=⟨[0],[.vec (.int .i64)],[0,6,7,8,9],[.one (.row 0),.one (.d (.int .i64)),.one (.d (.int .i64)),.one (.d (.int .i64)),.one (.d (.int .i64))],1⟩
def kui (o:k1e) (nx1:NX TB k3o):=qM TB 1 k3o nx1 (blockT TB 0 (kup o))
def k6r (o:k1e) (nx1:NX TB k3o) (i:HL TB.den k3o.hs):Prop:=WP TB k22 56 1 (cA (cA (cB (cA (cB (cB (cB k3z))))))) .no (k3o.fill TB i) (kui o nx1)
noncomputable def kt6 (o:k1e):An TB:= .lp [] k3o (k6r o) fun nx1=> .no
noncomputable def ktz (o:k1e):An TB:= .nd [] (.nd [] .no [] (kt6 o)) [] (.nd [] .no [] (kgx o))
noncomputable def kuc (o:k1e):An TB:= .nd [] .no [] (.nd [] .no [] (ktz o))
noncomputable def kh0 (o:k1e):An TB:= .nd [] .no [] (kuc o)
def kac (x:khq) (o:k1e):Prop:=WPh TB k22 56 1 k3z (kh0 o) (k1g.st TB x) (retTQ TB k22 k1g k6q o)
theorem ktd (o:k1e):OblH TB k22 56 1 k3z (kh0 o) (retTQ TB k22 k1g k6q o):=
 OblH.ofC (X:=((∀nx i,(k6r o) nx i=(k6r o) nx i)∧(∀nx1:NX TB k3o,True)∧(∀nx i,(k6p o) nx i=(k6p o) nx i)∧(∀nx2:NX TB k3n,True)∧True)) (by kernel_rfl) ⟨fun _ _=>rfl,fun _=>trivial,fun _ _=>rfl,fun _=>trivial,trivial⟩
theorem kt3 {x:khq} {o:k1e} (h:kac x o):k1g.Snd Try.prog x o:=
 Con.soundH (c:=k1g) (C:=k22) TBok ⟨inf_ok,(all_cons kuk all_nil),all_nil⟩ mix Try.func57 (show Try.f57.body=some k3z by kernel_rfl) (show Try.f57.ntmps=56 by kernel_rfl) (show Try.f57.results.toList=k6q by kernel_rfl) rfl h (ktd o)
theorem kug {p1:Int} {p2:Int} {w0:List Int} {e0:List Int} (h:
(let v1:Int:=IntKind.i64.wrap ((IntKind.i64.wrap (p2-p1))-1)
(w0.length=w0.length)∧Md.Loop (p1,(0:Int),(IntKind.i64.wrap (p2-p1):Int),(IntKind.i64.wrap (Int.tdiv v1 2):Int),w0,()) (k6r (e0,())))):kac (p1,p2,w0,()) (e0,()):=WPh.of_eq (by kernel_rfl) h
def kgq (e0:List Int) (k1:Int→List Int→Prop) (s6:Int) (s7:Int) (s8:Int) (s9:Int) (g0:List Int):Prop:=
(decide (0≤s9)=true→
(g0.length=g0.length)∧((0≤s9∧s9≤1099511627776)∧(0≤s8∧0≤s6∧s6+s8≤g0.length)∧g0.length≤1099511627776)∧(g0.length=(sdS g0 s9 s8 s6).length)∧k1 (IntKind.i64.wrap (s9-1):Int) ((sdS g0 s9 s8 s6):List Int))∧
(decide (0≤s9)=false→
(g0.length=g0.length)∧Md.Loop (s6,s7,(IntKind.i64.wrap (s8-1):Int),g0,()) (k6p (e0,())))
theorem ktm {e0:List Int} {s6:Int} {s7:Int} {s8:Int} {s9:Int} {g0:List Int} (inv:Int→List Int→Prop) (μ:Int→List Int→Nat) (h0:inv s9 g0) (hs:∀(s9:Int) (g0:List Int),inv s9 g0→kgq e0 (fun s9q g0q=>inv s9q g0q∧μ s9q g0q<μ s9 g0) s6 s7 s8 s9 g0):Md.Loop (s6,s7,s8,s9,g0,()) (k6r (e0,())):=
 ⟨⟨fun s:Int×Int×Int×Int×(List Int)×Unit=>(s.1=s6∧s.2.1=s7∧s.2.2.1=s8)∧inv s.2.2.2.1 s.2.2.2.2.1,fun s:Int×Int×Int×Int×(List Int)×Unit=>μ s.2.2.2.1 s.2.2.2.2.1,⟨⟨rfl,rfl,rfl⟩,h0⟩,fun(s6p,s7p,s8p,s9p,g0p,()) ⟨⟨eq0,eq1,eq2⟩,hi⟩=>by
  have eq0:s6p=s6:=eq0;subst s6p;have eq1:s7p=s7:=eq1;subst s7p;have eq2:s8p=s8:=eq2;subst s8p;exact mpr_of (by kernel_rfl) ((congrArg (fun k=>kgq e0 k s6 s7 s8 s9p g0p) (lpk2 (⟨rfl,rfl,rfl⟩:s6=s6∧s7=s7∧s8=s8) inv (fun s9q g0q=>μ s9q g0q<μ s9p g0p))).mpr (hs s9p g0p hi))⟩⟩
def kgt (e0:List Int) (k2:Int→List Int→Prop) (s6:Int) (s7:Int) (s10:Int) (g0:List Int):Prop:=
(decide (0≤s10)=true→
(0≤IntKind.i64.wrap (s6+s10)∧IntKind.i64.wrap (s6+s10)<(g0.length:Int))∧(0≤IntKind.i64.wrap (s6+s10)∧IntKind.i64.wrap (s6+s10)<(g0.length:Int))∧(0≤s6∧s6<(g0.length:Int))∧(0≤s6∧s6<(g0.length:Int))∧(0≤s6∧s6<(g0.length:Int))∧(0≤s6∧s6<(g0.length:Int))∧(0≤IntKind.i64.wrap (s6+s10)∧IntKind.i64.wrap (s6+s10)<(g0.length:Int))∧(0≤IntKind.i64.wrap (s6+s10)∧IntKind.i64.wrap (s6+s10)<((g0.set s6.toNat (ix g0 (IntKind.i64.wrap (s6+s10)))).length:Int))∧(g0.length=((g0.set s6.toNat (ix g0 (IntKind.i64.wrap (s6+s10)))).set (IntKind.i64.wrap (s6+s10)).toNat (ix g0 s6)).length)∧((0≤s7∧s7≤1099511627776)∧(0≤s10∧0≤s6∧s6+s10≤((g0.set s6.toNat (ix g0 (IntKind.i64.wrap (s6+s10)))).set (IntKind.i64.wrap (s6+s10)).toNat (ix g0 s6)).length)∧((g0.set s6.toNat (ix g0 (IntKind.i64.wrap (s6+s10)))).set (IntKind.i64.wrap (s6+s10)).toNat (ix g0 s6)).length≤1099511627776)∧let r2:List Int:=(sdS ((g0.set s6.toNat (ix g0 (IntKind.i64.wrap (s6+s10)))).set (IntKind.i64.wrap (s6+s10)).toNat (ix g0 s6)) s7 s10 s6)
(g0.length=r2.length)∧k2 (IntKind.i64.wrap (s10-1):Int) r2)∧
(decide (0≤s10)=false→
g0=e0)
theorem kti {e0:List Int} {s6:Int} {s7:Int} {s10:Int} {g0:List Int} (inv:Int→List Int→Prop) (μ:Int→List Int→Nat) (h0:inv s10 g0) (hs:∀(s10:Int) (g0:List Int),inv s10 g0→kgt e0 (fun s10q g0q=>inv s10q g0q∧μ s10q g0q<μ s10 g0) s6 s7 s10 g0):Md.Loop (s6,s7,s10,g0,()) (k6p (e0,())):=
 ⟨⟨fun s:Int×Int×Int×(List Int)×Unit=>(s.1=s6∧s.2.1=s7)∧inv s.2.2.1 s.2.2.2.1,fun s:Int×Int×Int×(List Int)×Unit=>μ s.2.2.1 s.2.2.2.1,⟨⟨rfl,rfl⟩,h0⟩,fun(s6p,s7p,s10p,g0p,()) ⟨⟨eq0,eq1⟩,hi⟩=>by
  have eq0:s6p=s6:=eq0;subst s6p;have eq1:s7p=s7:=eq1;subst s7p;exact mpr_of (by kernel_rfl) ((congrArg (fun k=>kgt e0 k s6 s7 s10p g0p) (lpk2 (⟨rfl,rfl⟩:s6=s6∧s7=s7) inv (fun s10q g0q=>μ s10q g0q<μ s10p g0p))).mpr (hs s10p g0p hi))⟩⟩
theorem bd57:Callable Try.prog 57:=⟨by rw[Try.func57];kernel_rfl,by rw[Try.func57];show some _≠some _;decide⟩
theorem kso (p1:Int) (p2:Int) (w0:List Int) (h:(0≤p1∧p1<p2∧p2≤w0.length)∧w0.length≤1099511627776):kac (p1,p2,w0,()) (((heapS w0 p1 p2):List Int),()):=by
 obtain⟨⟨h1,h2,h3⟩,h4⟩:=h
 have e1:=wi (p2-p1) (by omega) (by omega)
 have e2:=wi (p2-p1-1) (by omega) (by omega)
 have e3:Int.tdiv (p2-p1-1) 2=(p2-p1-1)/2:=Int.tdiv_eq_ediv_of_nonneg (by omega)
 have e4:=wi ((p2-p1-1)/2) (by omega) (by omega)
 refine kug ?_
 dsimp only
 rw[e1,e2,e3,e4]
 refine⟨rfl,?_⟩
 refine ktm (fun i g=>(-1≤i∧i≤1099511627776)∧g.length=w0.length∧Sort.heapPop Sort.ltInt p1.toNat (p2-p1).toNat (Sort.heapBuild Sort.ltInt (p2-p1).toNat p1.toNat (i+1).toNat g.toArray)=Sort.heapSort Sort.ltInt w0.toArray p1.toNat p2.toNat) (fun i _=>(i+1).toNat) ⟨⟨by omega,by omega⟩,rfl,?_⟩ ?_
 ·unfold Sort.heapSort
  rw[show(p2-p1).toNat=p2.toNat-p1.toNat by omega,show((p2-p1-1)/2+1).toNat=(p2.toNat-p1.toNat-1)/2+1 by omega]
 rintro i g ⟨⟨g0,g1⟩,g2,g3⟩
 refine⟨fun hh=> ?_,fun hh=> ?_⟩
 ·have hh:=of_decide_eq_true hh
  rw[k1nj hh]at g3
  have hl:(sdS g i (p2-p1) p1).length=g.length:=sdS_len
  refine⟨rfl,⟨⟨by omega,by omega⟩,⟨by omega,by omega,by omega⟩,by omega⟩,?_⟩
  dsimp only
  rw[wi (i-1) (by omega) (by omega)]
  refine⟨hl.symm,⟨⟨by omega,by omega⟩,hl.trans g2,?_⟩,by omega⟩
  rw[show(i-1+1).toNat=i.toNat by omega]
  exact g3
 ·have hh:=of_decide_eq_false hh
  rw[show(i+1).toNat=0 by omega,Sort.heapBuild]at g3
  rw[e2]
  refine⟨rfl,?_⟩
  refine kti (fun i g=>(-1≤i∧i<p2-p1)∧g.length=w0.length∧Sort.heapPop Sort.ltInt p1.toNat (i+1).toNat g.toArray=Sort.heapSort Sort.ltInt w0.toArray p1.toNat p2.toNat) (fun i _=>(i+1).toNat) ⟨⟨by omega,by omega⟩,g2,by rw[show(p2-p1-1+1).toNat=(p2-p1).toNat by omega];exact g3⟩ ?_
  rintro i g ⟨⟨g0,g1⟩,g2,g3⟩
  refine⟨fun hh=> ?_,fun hh=> ?_⟩
  ·have hh:=of_decide_eq_true hh
   rw[k1qj hh]at g3
   have w1:=wi (p1+i) (by omega) (by omega)
   rw[w1]
   have hs:=swp_arr (g:=g) (i:=p1) (j:=p1+i) (by omega) (by omega) (by omega) (by omega)
   rw[show p1.toNat+i.toNat=(p1+i).toNat by omega,hs]at g3
   have hl0:(swpL g p1 (p1+i)).length=g.length:=krp
   have hl:(sdS (swpL g p1 (p1+i)) 0 i p1).length=(swpL g p1 (p1+i)).length:=sdS_len
   refine⟨⟨by omega,by omega⟩,⟨by omega,by omega⟩,⟨by omega,by omega⟩,⟨by omega,by omega⟩,⟨by omega,by omega⟩,⟨by omega,by omega⟩,⟨by omega,by omega⟩,⟨by omega,by rw[List.length_set];omega⟩,by rw[List.length_set,List.length_set],⟨⟨by omega,by omega⟩,⟨by omega,by omega,?_⟩,?_⟩,?_⟩
   ·rw[List.length_set,List.length_set];omega
   ·rw[List.length_set,List.length_set];omega
   dsimp only
   rw[wi (i-1) (by omega) (by omega)]
   refine⟨(hl.trans hl0).symm,⟨⟨by omega,by omega⟩,(hl.trans hl0).trans g2,?_⟩,by omega⟩
   rw[show(i-1+1).toNat=i.toNat by omega]
   exact g3
  ·have hh:=of_decide_eq_false hh
   rw[show(i+1).toNat=0 by omega,Sort.heapPop]at g3
   unfold heapS
   rw[←g3]
noncomputable def kfx:Con TB.den:=k1g.fnR (fun x=>(fun(p1:Int) (p2:Int) (w0:List Int)=>(0≤p1∧p1<p2∧p2≤w0.length)∧w0.length≤1099511627776) x.1 x.2.1 x.2.2.1) fun x=>(fun(p1:Int) (p2:Int) (w0:List Int)=>(((heapS w0 p1 p2):List Int),())) x.1 x.2.1 x.2.2.1
theorem kuh:kfx.Ok Try.prog TB:=Con.ok_fn k1g bd57 fun x h=>kt3 (kso x.1 x.2.1 x.2.2.1 h)
def k1c:Con TB.den:=Con.mk0 56 [.one (.row 0),.one (.d (.int .i64)),.one (.d (.int .i64))] [.vec (.int .i64)] (.tup []) [.vec (.int .i64)]
abbrev kdw:=HL TB.den (hsT k1c.ins (hsOs k1c.pre))
abbrev k12:=HL TB.den (hsV k1c.res (hsOs k1c.post))
noncomputable def k1r:Cx TB:=⟨inf,[k8l],[],4,[]⟩
noncomputable def k33:Code:=Try.f56.body.getD .skip
noncomputable def k6z:List ResultVar:=Try.f56.results.toList
def kpd (o:k12):=blockT TB 0 (retTQ TB k1r k1c k6z o)
def kp:Tm:=⟨[0],[.vec (.int .i64)],[0,1,2,6],[.one (.row 0),.one (.d (.int .i64)),.one (.d (.int .i64)),.one (.d (.int .i64))],1⟩
def kdl (o:k12) (nx2:NX TB kp):=qM TB 1 kp nx2 (kpd o)
def koy (o:k12) (nx2:NX TB kp):=qS TB k1r 49 1 (cB (cB (cA (cA (cB k33))))) .no (kdl o nx2)
def kpg (o:k12) (nx2:NX TB kp):=blockT TB 2 (blockT TB 1 (koy o nx2))
def k2m:Tm:=⟨[0],[.vec (.int .i64)],[0,1,2,6,7],[.one (.row 0),.one (.d (.int .i64)),.one (.d (.int .i64)),.one (.d (.int .i64)),.one (.d (.int .i64))],1⟩
def kpf (o:k12) (nx2:NX TB kp) (nx1:NX TB k2m):=qM TB 1 k2m nx1 (kpg o nx2)
def k4q (o:k12) (nx2:NX TB kp) (nx1:NX TB k2m) (i:HL TB.den k2m.hs):Prop:=WP TB k1r 49 1 (cA (cA (cB (cA (cA (cB (cA (cA (cB k33))))))))) .no (k2m.fill TB i) (kpf o nx2 nx1)
noncomputable def kp9 (o:k12) (nx2:NX TB kp):An TB:= .lp [] k2m (k4q o nx2) fun nx1=> .no
noncomputable def kd4 (o:k12) (nx2:NX TB kp):An TB:= .nd [] (.nd [] .no [] (kp9 o nx2)) [] .no
def k4s (o:k12) (nx2:NX TB kp) (i:HL TB.den kp.hs):Prop:=WP TB k1r 49 1 (cA (cA (cB k33))) (.nd [] .no [] (kd4 o nx2)) (kp.fill TB i) (kdl o nx2)
noncomputable def knp (o:k12):An TB:= .lp [] kp (k4s o) fun nx2=>(.nd [] .no [] (kd4 o nx2))
noncomputable def kdo (o:k12):An TB:= .nd [] .no [] (knp o)
def k90 (x:kdw) (o:k12):Prop:=WPh TB k1r 49 1 k33 (kdo o) (k1c.st TB x) (retTQ TB k1r k1c k6z o)
theorem kom (o:k12):OblH TB k1r 49 1 k33 (kdo o) (retTQ TB k1r k1c k6z o):=
 OblH.ofC (X:=((∀nx i,(k4s o) nx i=(k4s o) nx i)∧(∀nx2:NX TB kp,((∀nx i,(k4q o nx2) nx i=(k4q o nx2) nx i)∧(∀nx1:NX TB k2m,True)∧True))∧True)) (by kernel_rfl) ⟨fun _ _=>rfl,fun _=>⟨fun _ _=>rfl,fun _=>trivial,trivial⟩,trivial⟩
theorem koj {x:kdw} {o:k12} (h:k90 x o):k1c.Snd Try.prog x o:=
 Con.soundH (c:=k1c) (C:=k1r) TBok ⟨inf_ok,(all_cons kar all_nil),all_nil⟩ mix Try.func56 (show Try.f56.body=some k33 by kernel_rfl) (show Try.f56.ntmps=49 by kernel_rfl) (show Try.f56.results.toList=k6z by kernel_rfl) rfl h (kom o)
theorem kp4 {p1:Int} {p2:Int} {w0:List Int} {e0:List Int} (h:
((w0.length=w0.length)∧Md.Loop (p1,p2,(IntKind.i64.wrap (p1+1):Int),w0,()) (k4s (e0,())))):k90 (p1,p2,w0,()) (e0,()):=WPh.of_eq (by kernel_rfl) h
def kdj (e0:List Int) (nx2:NX TB kp) (k2:Int→List Int→Prop) (s1:Int) (s2:Int) (s6:Int) (g0:List Int):Prop:=
(decide (s6<s2)=true→
(g0.length=g0.length)∧Md.Loop (s1,s2,s6,s6,g0,()) (k4q (e0,()) nx2))∧
(decide (s6<s2)=false→
g0=e0)
theorem koa {e0:List Int} {s1:Int} {s2:Int} {s6:Int} {g0:List Int} (inv:Int→List Int→Prop) (μ:Int→List Int→Nat) (h0:inv s6 g0) (hs:∀(s6:Int) (g0:List Int),inv s6 g0→kdj e0 (fun s:Int×Int×Int×(List Int)×Unit=>((s.1=s1∧s.2.1=s2)∧inv s.2.2.1 s.2.2.2.1)∧μ s.2.2.1 s.2.2.2.1<μ s6 g0) (fun s6q g0q=>inv s6q g0q∧μ s6q g0q<μ s6 g0) s1 s2 s6 g0):Md.Loop (s1,s2,s6,g0,()) (k4s (e0,())):=
 ⟨⟨fun s:Int×Int×Int×(List Int)×Unit=>(s.1=s1∧s.2.1=s2)∧inv s.2.2.1 s.2.2.2.1,fun s:Int×Int×Int×(List Int)×Unit=>μ s.2.2.1 s.2.2.2.1,⟨⟨rfl,rfl⟩,h0⟩,fun(s1p,s2p,s6p,g0p,()) ⟨⟨eq0,eq1⟩,hi⟩=>by
  have eq0:s1p=s1:=eq0;subst s1p;have eq1:s2p=s2:=eq1;subst s2p;exact mpr_of (by kernel_rfl) ((congrArg (fun k=>kdj e0 (fun s:Int×Int×Int×(List Int)×Unit=>((s.1=s1∧s.2.1=s2)∧inv s.2.2.1 s.2.2.2.1)∧μ s.2.2.1 s.2.2.2.1<μ s6p g0p) k s1 s2 s6p g0p) (lpk2 (⟨rfl,rfl⟩:s1=s1∧s2=s2) inv (fun s6q g0q=>μ s6q g0q<μ s6p g0p))).mpr (hs s6p g0p hi))⟩⟩
def kd8 (e0:List Int) (nx2:NX TB kp) (k1:Int→List Int→Prop) (s1:Int) (s2:Int) (s6:Int) (s7:Int) (g0:List Int):Prop:=
(decide (s1<s7)=true→
(0≤s7∧s7<(g0.length:Int))∧(0≤s7∧s7<(g0.length:Int))∧(0≤IntKind.i64.wrap (s7-1)∧IntKind.i64.wrap (s7-1)<(g0.length:Int))∧(0≤IntKind.i64.wrap (s7-1)∧IntKind.i64.wrap (s7-1)<(g0.length:Int))∧let r1:Bool:=(decide ((ix g0 s7)<(ix g0 (IntKind.i64.wrap (s7-1)))))
(r1=true→
(0≤IntKind.i64.wrap (s7-1)∧IntKind.i64.wrap (s7-1)<(g0.length:Int))∧(0≤IntKind.i64.wrap (s7-1)∧IntKind.i64.wrap (s7-1)<(g0.length:Int))∧(0≤s7∧s7<(g0.length:Int))∧(0≤s7∧s7<(g0.length:Int))∧(0≤s7∧s7<(g0.length:Int))∧(0≤s7∧s7<(g0.length:Int))∧(0≤IntKind.i64.wrap (s7-1)∧IntKind.i64.wrap (s7-1)<(g0.length:Int))∧(0≤IntKind.i64.wrap (s7-1)∧IntKind.i64.wrap (s7-1)<((g0.set s7.toNat (ix g0 (IntKind.i64.wrap (s7-1)))).length:Int))∧(g0.length=((g0.set s7.toNat (ix g0 (IntKind.i64.wrap (s7-1)))).set (IntKind.i64.wrap (s7-1)).toNat (ix g0 s7)).length)∧k1 (IntKind.i64.wrap (s7-1):Int) ((g0.set s7.toNat (ix g0 (IntKind.i64.wrap (s7-1)))).set (IntKind.i64.wrap (s7-1)).toNat (ix g0 s7):List Int))∧
(r1=false→
(g0.length=g0.length)∧nx2 (s1,s2,(IntKind.i64.wrap (s6+1):Int),g0,())))∧
(decide (s1<s7)=false→
(g0.length=g0.length)∧nx2 (s1,s2,(IntKind.i64.wrap (s6+1):Int),g0,()))
theorem kon {e0:List Int} {nx2:NX TB kp} {s1:Int} {s2:Int} {s6:Int} {s7:Int} {g0:List Int} (inv:Int→List Int→Prop) (μ:Int→List Int→Nat) (h0:inv s7 g0) (hs:∀(s7:Int) (g0:List Int),inv s7 g0→kd8 e0 nx2 (fun s7q g0q=>inv s7q g0q∧μ s7q g0q<μ s7 g0) s1 s2 s6 s7 g0):Md.Loop (s1,s2,s6,s7,g0,()) (k4q (e0,()) nx2):=
 ⟨⟨fun s:Int×Int×Int×Int×(List Int)×Unit=>(s.1=s1∧s.2.1=s2∧s.2.2.1=s6)∧inv s.2.2.2.1 s.2.2.2.2.1,fun s:Int×Int×Int×Int×(List Int)×Unit=>μ s.2.2.2.1 s.2.2.2.2.1,⟨⟨rfl,rfl,rfl⟩,h0⟩,fun(s1p,s2p,s6p,s7p,g0p,()) ⟨⟨eq0,eq1,eq2⟩,hi⟩=>by
  have eq0:s1p=s1:=eq0;subst s1p;have eq1:s2p=s2:=eq1;subst s2p;have eq2:s6p=s6:=eq2;subst s6p;exact mpr_of (by kernel_rfl) ((congrArg (fun k=>kd8 e0 nx2 k s1 s2 s6 s7p g0p) (lpk2 (⟨rfl,rfl,rfl⟩:s1=s1∧s2=s2∧s6=s6) inv (fun s7q g0q=>μ s7q g0q<μ s7p g0p))).mpr (hs s7p g0p hi))⟩⟩
theorem bd56:Callable Try.prog 56:=⟨by rw[Try.func56];kernel_rfl,by rw[Try.func56];show some _≠some _;decide⟩
theorem kn6 (p1:Int) (p2:Int) (w0:List Int) (h:(0≤p1∧p1≤p2∧p2≤w0.length)∧w0.length≤1099511627776):k90 (p1,p2,w0,()) (((insS w0 p1 p2):List Int),()):=by
 obtain⟨⟨h1,h2,h3⟩,h4⟩:=h
 refine kp4 ⟨rfl,?_⟩
 rw[wi (p1+1) (by omega) (by omega)]
 refine koa (fun i g=>(p1+1≤i∧i≤1099511627777)∧g.length=w0.length∧Sort.insOuter Sort.ltInt p1.toNat p2.toNat i.toNat g.toArray=Sort.insertionSort Sort.ltInt w0.toArray p1.toNat p2.toNat) (fun i _=>(1099511627778-i).toNat) ⟨⟨by omega,by omega⟩,rfl,by unfold Sort.insertionSort;rw[show(p1+1).toNat=p1.toNat+1 by omega]⟩ ?_
 rintro i g ⟨⟨g0,g1⟩,g2,g3⟩
 refine⟨fun hh=> ?_,fun hh=> ?_⟩
 ·have hh:=of_decide_eq_true hh
  refine⟨rfl,?_⟩
  rw[k1qa (by omega) hh]at g3
  refine kon (fun j g' =>(p1≤j∧j≤i)∧g'.length=w0.length∧Sort.insInner Sort.ltInt p1.toNat j.toNat g'.toArray=Sort.insInner Sort.ltInt p1.toNat i.toNat g.toArray) (fun j _=>j.toNat) ⟨⟨by omega,by omega⟩,g2,rfl⟩ ?_
  rintro j g' ⟨⟨k0,k1⟩,k2,k3⟩
  have nxt:g'.toArray=Sort.insInner Sort.ltInt p1.toNat i.toNat g.toArray→((p1+1≤IntKind.i64.wrap (i+1)∧IntKind.i64.wrap (i+1)≤1099511627777)∧g'.length=w0.length∧Sort.insOuter Sort.ltInt p1.toNat p2.toNat (IntKind.i64.wrap (i+1)).toNat g'.toArray=Sort.insertionSort Sort.ltInt w0.toArray p1.toNat p2.toNat)∧(1099511627778-IntKind.i64.wrap (i+1)).toNat<(1099511627778-i).toNat:=by
   intro e
   rw[wi (i+1) (by omega) (by omega),e]
   exact⟨⟨⟨by omega,by omega⟩,k2,g3⟩,by omega⟩
  refine⟨fun h2=> ?_,fun h2=> ?_⟩
  ·have h2:=of_decide_eq_true h2
   rw[wi (j-1) (by omega) (by omega)]
   rw[k1qb h1 h2 (by omega)]at k3
   refine⟨⟨by omega,by omega⟩,⟨by omega,by omega⟩,⟨by omega,by omega⟩,⟨by omega,by omega⟩,fun h5=> ?_,fun h5=> ?_⟩
   ·have h5:=of_decide_eq_true h5
    rw[if_pos h5]at k3
    exact⟨⟨by omega,by omega⟩,⟨by omega,by omega⟩,⟨by omega,by omega⟩,⟨by omega,by omega⟩,⟨by omega,by omega⟩,⟨by omega,by omega⟩,⟨by omega,by omega⟩,⟨by omega,by rw[List.length_set];omega⟩,by rw[List.length_set,List.length_set],⟨⟨by omega,by omega⟩,by rw[List.length_set,List.length_set];exact k2,k3⟩,by omega⟩
   ·have h5:=of_decide_eq_false h5
    rw[if_neg h5]at k3
    exact⟨rfl,⟨⟨rfl,rfl⟩,(nxt k3).1⟩,(nxt k3).2⟩
  ·have h2:=of_decide_eq_false h2
   rw[k1ob h2]at k3
   exact⟨rfl,⟨⟨rfl,rfl⟩,(nxt k3).1⟩,(nxt k3).2⟩
 ·have hh:=of_decide_eq_false hh
  rw[k1ou (by omega) hh]at g3
  unfold insS
  rw[←g3]
noncomputable def kcn:Con TB.den:=k1c.fnR (fun x=>(fun(p1:Int) (p2:Int) (w0:List Int)=>(0≤p1∧p1≤p2∧p2≤w0.length)∧w0.length≤1099511627776) x.1 x.2.1 x.2.2.1) fun x=>(fun(p1:Int) (p2:Int) (w0:List Int)=>(((insS w0 p1 p2):List Int),())) x.1 x.2.1 x.2.2.1
theorem kpi:kcn.Ok Try.prog TB:=Con.ok_fn k1c bd56 fun x h=>koj (kn6 x.1 x.2.1 x.2.2.1 h)
def kq:Con TB.den:=Con.mk0 61 [.one (.row 0),.one (.d (.int .i64)),.one (.d (.int .i64))] [.vec (.int .i64)] (.one (.one (.d (.bool)))) [.vec (.int .i64)]
abbrev kaw:=HL TB.den (hsT kq.ins (hsOs kq.pre))
abbrev ke:=HL TB.den (hsV kq.res (hsOs kq.post))
noncomputable def kn:Cx TB:=⟨inf,[k8l],[],4,[]⟩
noncomputable def kw:Code:=Try.f61.body.getD .skip
noncomputable def k4l:List ResultVar:=Try.f61.results.toList
def kj3 (o:ke):=qS TB kn 133 1 (cB (cB (cB kw))) .no (retTQ TB kn kq k4l o)
def kc:Tm:=⟨[0],[.vec (.int .i64)],[0,1,2,7,8],[.one (.row 0),.one (.d (.int .i64)),.one (.d (.int .i64)),.one (.d (.int .i64)),.one (.d (.int .i64))],1⟩
def kae (o:ke) (nx2:NX TB kc):=qM TB 1 kc nx2 (blockT TB 0 (kj3 o))
def kj5 (o:ke) (nx2:NX TB kc):=qS TB kn 133 1 (cB (cB (cA (cA (cB (cA (cB (cB kw)))))))) .no (kae o nx2)
def k36 (o:ke) (nx2:NX TB kc):=blockT TB 1 (kj5 o nx2)
def kj4 (o:ke) (nx2:NX TB kc):=blockT TB 6 (k36 o nx2)
def k1x:Tm:=⟨[0],[.vec (.int .i64)],[0,1,2,7,8,10],[.one (.row 0),.one (.d (.int .i64)),.one (.d (.int .i64)),.one (.d (.int .i64)),.one (.d (.int .i64)),.one (.d (.int .i64))],137⟩
def kj6 (o:ke) (nx2:NX TB kc) (nx4:NX TB k1x):=qM TB 1 k1x nx4 (kj4 o nx2)
def k35 (o:ke) (nx2:NX TB kc) (nx4:NX TB k1x) (i:HL TB.den k1x.hs):Prop:=WP TB kn 133 1 (cA (cA (cB (cA (cB (cB (cB (cB (cB (cB (cA (cA (cB (cA (cA (cB (cA (cB (cB kw))))))))))))))))))) .no (k1x.fill TB i) (kj6 o nx2 nx4)
noncomputable def khf (o:ke) (nx2:NX TB kc):An TB:= .lp [] k1x (k35 o nx2) fun nx4=> .no
noncomputable def kiv (o:ke) (nx2:NX TB kc):An TB:= .nd [] .no [] (khf o nx2)
noncomputable def ki3 (o:ke) (nx2:NX TB kc):An TB:= .nd [] (kiv o nx2) [] .no
noncomputable def ka8 (o:ke) (nx2:NX TB kc):An TB:= .nd [] .no [] (ki3 o nx2)
def k31:Tm:=⟨[0],[.vec (.int .i64)],[0,1,2,7,8],[.one (.row 0),.one (.d (.int .i64)),.one (.d (.int .i64)),.one (.d (.int .i64)),.one (.d (.int .i64))],137⟩
def ka1 (o:ke) (nx2:NX TB kc) (i:HL TB.den k31.hs):Prop:=ghs TB [] (k31.fill TB i) fun s=>WP TB kn 133 1 (cB (cB (cB (cB (cB (cA (cA (cB (cA (cA (cB (cA (cB (cB kw)))))))))))))) (ka8 o nx2) s (k36 o nx2)
structure k1o (o:ke) (nx2:NX TB kc) (i:HL TB.den k31.hs):Prop where
 h:ka1 o nx2 i
def khu (o:ke) (nx2:NX TB kc):=qM TB 1 k31 (k1o o nx2) (k36 o nx2)
def khh (o:ke) (nx2:NX TB kc):=blockT TB 4 (khu o nx2)
def k1v:Tm:=⟨[0],[.vec (.int .i64)],[0,1,2,7,8,9],[.one (.row 0),.one (.d (.int .i64)),.one (.d (.int .i64)),.one (.d (.int .i64)),.one (.d (.int .i64)),.one (.d (.int .i64))],137⟩
def kia (o:ke) (nx2:NX TB kc) (nx3:NX TB k1v):=qM TB 1 k1v nx3 (khh o nx2)
def k37 (o:ke) (nx2:NX TB kc) (nx3:NX TB k1v) (i:HL TB.den k1v.hs):Prop:=WP TB kn 133 1 (cA (cA (cB (cA (cB (cA (cB (cB (cB (cB (cA (cA (cB (cA (cA (cB (cA (cB (cB kw))))))))))))))))))) .no (k1v.fill TB i) (kia o nx2 nx3)
noncomputable def kin (o:ke) (nx2:NX TB kc):An TB:= .lp [] k1v (k37 o nx2) fun nx3=> .no
noncomputable def kiz (o:ke) (nx2:NX TB kc):An TB:= .nd [] .no [] (kin o nx2)
noncomputable def khy (o:ke) (nx2:NX TB kc):An TB:= .nd [] (kiz o nx2) [] .no
noncomputable def kiu (o:ke) (nx2:NX TB kc):An TB:= .nd [] .no [] (khy o nx2)
noncomputable def khs (o:ke) (nx2:NX TB kc):An TB:= .jn k31 (k1o o nx2) [] (kiu o nx2) [] (ka8 o nx2)
noncomputable def kib (o:ke) (nx2:NX TB kc):An TB:= .nd [] .no [] (khs o nx2)
noncomputable def khk (o:ke) (nx2:NX TB kc):An TB:= .nd [] .no [] (kib o nx2)
noncomputable def ka7 (o:ke) (nx2:NX TB kc):An TB:= .nd [] .no [] (khk o nx2)
def k30:Tm:=⟨[0],[.vec (.int .i64)],[0,1,2,7,8],[.one (.row 0),.one (.d (.int .i64)),.one (.d (.int .i64)),.one (.d (.int .i64)),.one (.d (.int .i64))],65⟩
def ka5 (o:ke) (nx2:NX TB kc) (i:HL TB.den k30.hs):Prop:=ghs TB [] (k30.fill TB i) fun s=>WP TB kn 133 1 (cB (cA (cA (cB (cA (cA (cB (cA (cB (cB kw)))))))))) (ka7 o nx2) s (k36 o nx2)
structure k1w (o:ke) (nx2:NX TB kc) (i:HL TB.den k30.hs):Prop where
 h:ka5 o nx2 i
def khm (o:ke) (nx2:NX TB kc):=qM TB 1 k30 (k1w o nx2) (k36 o nx2)
def kid (o:ke) (nx2:NX TB kc):=blockT TB 2 (khm o nx2)
def k1u:Tm:=⟨[0],[.vec (.int .i64)],[0,1,2,7,8],[.one (.row 0),.one (.d (.int .i64)),.one (.d (.int .i64)),.one (.d (.int .i64)),.one (.d (.int .i64))],1⟩
def ki1 (o:ke) (nx2:NX TB kc) (nx1:NX TB k1u):=qM TB 1 k1u nx1 (kid o nx2)
def k34 (o:ke) (nx2:NX TB kc) (nx1:NX TB k1u) (i:HL TB.den k1u.hs):Prop:=WP TB kn 133 1 (cA (cA (cA (cA (cA (cB (cA (cA (cB (cA (cB (cB kw)))))))))))) .no (k1u.fill TB i) (ki1 o nx2 nx1)
noncomputable def kig (o:ke) (nx2:NX TB kc):An TB:= .lp [] k1u (k34 o nx2) fun nx1=> .no
noncomputable def khd (o:ke) (nx2:NX TB kc):An TB:= .jn k30 (k1w o nx2) [] (kig o nx2) [] (ka7 o nx2)
noncomputable def kip (o:ke) (nx2:NX TB kc):An TB:= .nd [] (khd o nx2) [] .no
noncomputable def ka6 (o:ke) (nx2:NX TB kc):An TB:= .nd [] .no [] (kip o nx2)
def k38 (o:ke) (nx2:NX TB kc) (i:HL TB.den kc.hs):Prop:=WP TB kn 133 1 (cA (cA (cB (cA (cB (cB kw)))))) (ka6 o nx2) (kc.fill TB i) (kae o nx2)
noncomputable def kim (o:ke):An TB:= .lp [] kc (k38 o) fun nx2=>(ka6 o nx2)
noncomputable def kiq (o:ke):An TB:= .nd [] (.nd [] .no [] (kim o)) [] .no
noncomputable def kah (o:ke):An TB:= .nd [] .no [] (.nd [] .no [] (kiq o))
def k6u (x:kaw) (o:ke):Prop:=WPh TB kn 133 1 kw (kah o) (kq.st TB x) (retTQ TB kn kq k4l o)
theorem ki5 (o:ke):OblH TB kn 133 1 kw (kah o) (retTQ TB kn kq k4l o):=
 OblH.ofC (X:=((∀nx i,(k38 o) nx i=(k38 o) nx i)∧(∀nx2:NX TB kc,((∀nx i,(k34 o nx2) nx i=(k34 o nx2) nx i)∧(∀nx1:NX TB k1u,True)∧(∀i,(k1w o nx2) i=ka5 o nx2 i)∧(∀nx i,(k37 o nx2) nx i=(k37 o nx2) nx i)∧(∀nx3:NX TB k1v,True)∧(∀i,(k1o o nx2) i=ka1 o nx2 i)∧(∀nx i,(k35 o nx2) nx i=(k35 o nx2) nx i)∧(∀nx4:NX TB k1x,True)∧True))∧True)) (by kernel_rfl) ⟨fun _ _=>rfl,fun _=>⟨fun _ _=>rfl,fun _=>trivial,fun _=>propext ⟨fun h=>h.1,fun h=>⟨h⟩⟩,fun _ _=>rfl,fun _=>trivial,fun _=>propext ⟨fun h=>h.1,fun h=>⟨h⟩⟩,fun _ _=>rfl,fun _=>trivial,trivial⟩,trivial⟩
theorem kit {x:kaw} {o:ke} (h:k6u x o):kq.Snd Try.prog x o:=
 Con.soundH (c:=kq) (C:=kn) TBok ⟨inf_ok,(all_cons kar all_nil),all_nil⟩ mix Try.func61 (show Try.f61.body=some kw by kernel_rfl) (show Try.f61.ntmps=133 by kernel_rfl) (show Try.f61.results.toList=k4l by kernel_rfl) rfl h (ki5 o)
theorem kj2 {p1:Int} {p2:Int} {w0:List Int} {r0:Bool} {e0:List Int} (h:
((w0.length=w0.length)∧Md.Loop (p1,p2,(IntKind.i64.wrap (p1+1):Int),(0:Int),w0,()) (k38 (r0,e0,())))):k6u (p1,p2,w0,()) (r0,e0,()):=WPh.of_eq (by kernel_rfl) h
theorem kgk {r0:Bool} {e0:List Int} {nx2:NX TB kc} {s1:Int} {s2:Int} {s7:Int} {s8:Int} {g0:List Int} (h:
(((s7==s2)=true→
true=r0∧g0=e0)∧
((s7==s2)=false→
let v2:Bool:=decide ((IntKind.i64.wrap (s2-s1))<50)
(v2=true→
false=r0∧g0=e0)∧
(v2=false→
(0≤IntKind.i64.wrap (s7-1)∧IntKind.i64.wrap (s7-1)<(g0.length:Int))∧(0≤IntKind.i64.wrap (s7-1)∧IntKind.i64.wrap (s7-1)<(g0.length:Int))∧(0≤s7∧s7<(g0.length:Int))∧(0≤s7∧s7<(g0.length:Int))∧(0≤s7∧s7<(g0.length:Int))∧(0≤s7∧s7<(g0.length:Int))∧(0≤IntKind.i64.wrap (s7-1)∧IntKind.i64.wrap (s7-1)<(g0.length:Int))∧(0≤IntKind.i64.wrap (s7-1)∧IntKind.i64.wrap (s7-1)<((g0.set s7.toNat (ix g0 (IntKind.i64.wrap (s7-1)))).length:Int))∧let v3:Bool:=decide (2≤(IntKind.i64.wrap (s7-s1)))
(v3=true→
(g0.length=((g0.set s7.toNat (ix g0 (IntKind.i64.wrap (s7-1)))).set (IntKind.i64.wrap (s7-1)).toNat (ix g0 s7)).length)∧Md.Loop (s1,s2,s7,s8,(IntKind.i64.wrap (s7-1):Int),((g0.set s7.toNat (ix g0 (IntKind.i64.wrap (s7-1)))).set (IntKind.i64.wrap (s7-1)).toNat (ix g0 s7):List Int),()) (k37 (r0,e0,()) nx2))∧
(v3=false→
(g0.length=((g0.set s7.toNat (ix g0 (IntKind.i64.wrap (s7-1)))).set (IntKind.i64.wrap (s7-1)).toNat (ix g0 s7)).length)∧k1o (r0,e0,()) nx2 (s1,s2,s7,s8,((g0.set s7.toNat (ix g0 (IntKind.i64.wrap (s7-1)))).set (IntKind.i64.wrap (s7-1)).toNat (ix g0 s7):List Int),())))))):k1w (r0,e0,()) nx2 (s1,s2,s7,s8,g0,()):=⟨mpr_of (by kernel_rfl) h⟩
theorem kgf {r0:Bool} {e0:List Int} {nx2:NX TB kc} {s1:Int} {s2:Int} {s7:Int} {s8:Int} {g0:List Int} (h:
(let v5:Bool:=decide (2≤(IntKind.i64.wrap (s2-s7)))
(v5=true→
(g0.length=g0.length)∧Md.Loop (s1,s2,s7,s8,(IntKind.i64.wrap (s7+1):Int),g0,()) (k35 (r0,e0,()) nx2))∧
(v5=false→
(g0.length=g0.length)∧nx2 (s1,s2,s7,(IntKind.i64.wrap (s8+1):Int),g0,())))):k1o (r0,e0,()) nx2 (s1,s2,s7,s8,g0,()):=⟨mpr_of (by kernel_rfl) h⟩
def kad (r0:Bool) (e0:List Int) (nx2:NX TB kc) (k2:Int→Int→List Int→Prop) (s1:Int) (s2:Int) (s7:Int) (s8:Int) (g0:List Int):Prop:=
(decide (s8<5)=true→
(g0.length=g0.length)∧Md.Loop (s1,s2,s7,s8,g0,()) (k34 (r0,e0,()) nx2))∧
(decide (s8<5)=false→
false=r0∧g0=e0)
theorem khn {r0:Bool} {e0:List Int} {s1:Int} {s2:Int} {s7:Int} {s8:Int} {g0:List Int} (inv:Int→Int→List Int→Prop) (μ:Int→Int→List Int→Nat) (h0:inv s7 s8 g0) (hs:∀(s7:Int) (s8:Int) (g0:List Int),inv s7 s8 g0→kad r0 e0 (fun s:Int×Int×Int×Int×(List Int)×Unit=>((s.1=s1∧s.2.1=s2)∧inv s.2.2.1 s.2.2.2.1 s.2.2.2.2.1)∧μ s.2.2.1 s.2.2.2.1 s.2.2.2.2.1<μ s7 s8 g0) (fun s7q s8q g0q=>inv s7q s8q g0q∧μ s7q s8q g0q<μ s7 s8 g0) s1 s2 s7 s8 g0):Md.Loop (s1,s2,s7,s8,g0,()) (k38 (r0,e0,())):=
 ⟨⟨fun s:Int×Int×Int×Int×(List Int)×Unit=>(s.1=s1∧s.2.1=s2)∧inv s.2.2.1 s.2.2.2.1 s.2.2.2.2.1,fun s:Int×Int×Int×Int×(List Int)×Unit=>μ s.2.2.1 s.2.2.2.1 s.2.2.2.2.1,⟨⟨rfl,rfl⟩,h0⟩,fun(s1p,s2p,s7p,s8p,g0p,()) ⟨⟨eq0,eq1⟩,hi⟩=>by
  have eq0:s1p=s1:=eq0;subst s1p;have eq1:s2p=s2:=eq1;subst s2p;exact mpr_of (by kernel_rfl) ((congrArg (fun k=>kad r0 e0 (fun s:Int×Int×Int×Int×(List Int)×Unit=>((s.1=s1∧s.2.1=s2)∧inv s.2.2.1 s.2.2.2.1 s.2.2.2.2.1)∧μ s.2.2.1 s.2.2.2.1 s.2.2.2.2.1<μ s7p s8p g0p) k s1 s2 s7p s8p g0p) (lpk3 (⟨rfl,rfl⟩:s1=s1∧s2=s2) inv (fun s7q s8q g0q=>μ s7q s8q g0q<μ s7p s8p g0p))).mpr (hs s7p s8p g0p hi))⟩⟩
def kaf (r0:Bool) (e0:List Int) (nx2:NX TB kc) (k1:Int→Prop) (s1:Int) (s2:Int) (s8:Int) (g0:List Int) (s7:Int):Prop:=
(decide (s7<s2)=true→
(0≤s7∧s7<(g0.length:Int))∧(0≤s7∧s7<(g0.length:Int))∧(0≤IntKind.i64.wrap (s7-1)∧IntKind.i64.wrap (s7-1)<(g0.length:Int))∧(0≤IntKind.i64.wrap (s7-1)∧IntKind.i64.wrap (s7-1)<(g0.length:Int))∧let r1:Bool:=(decide ((ix g0 s7)<(ix g0 (IntKind.i64.wrap (s7-1)))))
((!r1)=true→
(g0.length=g0.length)∧k1 (IntKind.i64.wrap (s7+1):Int))∧
((!r1)=false→
(g0.length=g0.length)∧k1w (r0,e0,()) nx2 (s1,s2,s7,s8,g0,())))∧
(decide (s7<s2)=false→
(g0.length=g0.length)∧k1w (r0,e0,()) nx2 (s1,s2,s7,s8,g0,()))
theorem khw {r0:Bool} {e0:List Int} {nx2:NX TB kc} {s1:Int} {s2:Int} {s8:Int} {g0:List Int} {s7:Int} (inv:Int→Prop) (μ:Int→Nat) (h0:inv s7) (hs:∀(s7:Int),inv s7→kaf r0 e0 nx2 (fun s7q=>inv s7q∧μ s7q<μ s7) s1 s2 s8 g0 s7):Md.Loop (s1,s2,s7,s8,g0,()) (k34 (r0,e0,()) nx2):=
 ⟨⟨fun s:Int×Int×Int×Int×(List Int)×Unit=>(s.1=s1∧s.2.1=s2∧s.2.2.2.1=s8∧s.2.2.2.2.1=g0)∧inv s.2.2.1,fun s:Int×Int×Int×Int×(List Int)×Unit=>μ s.2.2.1,⟨⟨rfl,rfl,rfl,rfl⟩,h0⟩,fun(s1p,s2p,s7p,s8p,g0p,()) ⟨⟨eq0,eq1,eq2,eq3⟩,hi⟩=>by
  have eq0:s1p=s1:=eq0;subst s1p;have eq1:s2p=s2:=eq1;subst s2p;have eq2:s8p=s8:=eq2;subst s8p;have eq3:g0p=g0:=eq3;subst g0p;exact mpr_of (by kernel_rfl) ((congrArg (fun k=>kaf r0 e0 nx2 k s1 s2 s8 g0 s7p) (lpk1 (⟨rfl,rfl,rfl,rfl⟩:s1=s1∧s2=s2∧s8=s8∧g0=g0) inv (fun s7q=>μ s7q<μ s7p))).mpr (hs s7p hi))⟩⟩
def kai (r0:Bool) (e0:List Int) (nx2:NX TB kc) (k3:Int→List Int→Prop) (s1:Int) (s2:Int) (s7:Int) (s8:Int) (s9:Int) (g0:List Int):Prop:=
(decide (1≤s9)=true→
(0≤s9∧s9<(g0.length:Int))∧(0≤s9∧s9<(g0.length:Int))∧(0≤IntKind.i64.wrap (s9-1)∧IntKind.i64.wrap (s9-1)<(g0.length:Int))∧(0≤IntKind.i64.wrap (s9-1)∧IntKind.i64.wrap (s9-1)<(g0.length:Int))∧let r4:Bool:=(decide ((ix g0 s9)<(ix g0 (IntKind.i64.wrap (s9-1)))))
((!r4)=true→
(g0.length=g0.length)∧k1o (r0,e0,()) nx2 (s1,s2,s7,s8,g0,()))∧
((!r4)=false→
(0≤IntKind.i64.wrap (s9-1)∧IntKind.i64.wrap (s9-1)<(g0.length:Int))∧(0≤IntKind.i64.wrap (s9-1)∧IntKind.i64.wrap (s9-1)<(g0.length:Int))∧(0≤s9∧s9<(g0.length:Int))∧(0≤s9∧s9<(g0.length:Int))∧(0≤s9∧s9<(g0.length:Int))∧(0≤s9∧s9<(g0.length:Int))∧(0≤IntKind.i64.wrap (s9-1)∧IntKind.i64.wrap (s9-1)<(g0.length:Int))∧(0≤IntKind.i64.wrap (s9-1)∧IntKind.i64.wrap (s9-1)<((g0.set s9.toNat (ix g0 (IntKind.i64.wrap (s9-1)))).length:Int))∧(g0.length=((g0.set s9.toNat (ix g0 (IntKind.i64.wrap (s9-1)))).set (IntKind.i64.wrap (s9-1)).toNat (ix g0 s9)).length)∧k3 (IntKind.i64.wrap (s9-1):Int) ((g0.set s9.toNat (ix g0 (IntKind.i64.wrap (s9-1)))).set (IntKind.i64.wrap (s9-1)).toNat (ix g0 s9):List Int)))∧
(decide (1≤s9)=false→
(g0.length=g0.length)∧k1o (r0,e0,()) nx2 (s1,s2,s7,s8,g0,()))
theorem kik {r0:Bool} {e0:List Int} {nx2:NX TB kc} {s1:Int} {s2:Int} {s7:Int} {s8:Int} {s9:Int} {g0:List Int} (inv:Int→List Int→Prop) (μ:Int→List Int→Nat) (h0:inv s9 g0) (hs:∀(s9:Int) (g0:List Int),inv s9 g0→kai r0 e0 nx2 (fun s9q g0q=>inv s9q g0q∧μ s9q g0q<μ s9 g0) s1 s2 s7 s8 s9 g0):Md.Loop (s1,s2,s7,s8,s9,g0,()) (k37 (r0,e0,()) nx2):=
 ⟨⟨fun s:Int×Int×Int×Int×Int×(List Int)×Unit=>(s.1=s1∧s.2.1=s2∧s.2.2.1=s7∧s.2.2.2.1=s8)∧inv s.2.2.2.2.1 s.2.2.2.2.2.1,fun s:Int×Int×Int×Int×Int×(List Int)×Unit=>μ s.2.2.2.2.1 s.2.2.2.2.2.1,⟨⟨rfl,rfl,rfl,rfl⟩,h0⟩,fun(s1p,s2p,s7p,s8p,s9p,g0p,()) ⟨⟨eq0,eq1,eq2,eq3⟩,hi⟩=>by
  have eq0:s1p=s1:=eq0;subst s1p;have eq1:s2p=s2:=eq1;subst s2p;have eq2:s7p=s7:=eq2;subst s7p;have eq3:s8p=s8:=eq3;subst s8p;exact mpr_of (by kernel_rfl) ((congrArg (fun k=>kai r0 e0 nx2 k s1 s2 s7 s8 s9p g0p) (lpk2 (⟨rfl,rfl,rfl,rfl⟩:s1=s1∧s2=s2∧s7=s7∧s8=s8) inv (fun s9q g0q=>μ s9q g0q<μ s9p g0p))).mpr (hs s9p g0p hi))⟩⟩
def kag (r0:Bool) (e0:List Int) (nx2:NX TB kc) (k4:Int→List Int→Prop) (s1:Int) (s2:Int) (s7:Int) (s8:Int) (s10:Int) (g0:List Int):Prop:=
(decide (s10<s2)=true→
(0≤s10∧s10<(g0.length:Int))∧(0≤s10∧s10<(g0.length:Int))∧(0≤IntKind.i64.wrap (s10-1)∧IntKind.i64.wrap (s10-1)<(g0.length:Int))∧(0≤IntKind.i64.wrap (s10-1)∧IntKind.i64.wrap (s10-1)<(g0.length:Int))∧let r6:Bool:=(decide ((ix g0 s10)<(ix g0 (IntKind.i64.wrap (s10-1)))))
((!r6)=true→
(g0.length=g0.length)∧nx2 (s1,s2,s7,(IntKind.i64.wrap (s8+1):Int),g0,()))∧
((!r6)=false→
(0≤IntKind.i64.wrap (s10-1)∧IntKind.i64.wrap (s10-1)<(g0.length:Int))∧(0≤IntKind.i64.wrap (s10-1)∧IntKind.i64.wrap (s10-1)<(g0.length:Int))∧(0≤s10∧s10<(g0.length:Int))∧(0≤s10∧s10<(g0.length:Int))∧(0≤s10∧s10<(g0.length:Int))∧(0≤s10∧s10<(g0.length:Int))∧(0≤IntKind.i64.wrap (s10-1)∧IntKind.i64.wrap (s10-1)<(g0.length:Int))∧(0≤IntKind.i64.wrap (s10-1)∧IntKind.i64.wrap (s10-1)<((g0.set s10.toNat (ix g0 (IntKind.i64.wrap (s10-1)))).length:Int))∧(g0.length=((g0.set s10.toNat (ix g0 (IntKind.i64.wrap (s10-1)))).set (IntKind.i64.wrap (s10-1)).toNat (ix g0 s10)).length)∧k4 (IntKind.i64.wrap (s10+1):Int) ((g0.set s10.toNat (ix g0 (IntKind.i64.wrap (s10-1)))).set (IntKind.i64.wrap (s10-1)).toNat (ix g0 s10):List Int)))∧
(decide (s10<s2)=false→
(g0.length=g0.length)∧nx2 (s1,s2,s7,(IntKind.i64.wrap (s8+1):Int),g0,()))
theorem khr {r0:Bool} {e0:List Int} {nx2:NX TB kc} {s1:Int} {s2:Int} {s7:Int} {s8:Int} {s10:Int} {g0:List Int} (inv:Int→List Int→Prop) (μ:Int→List Int→Nat) (h0:inv s10 g0) (hs:∀(s10:Int) (g0:List Int),inv s10 g0→kag r0 e0 nx2 (fun s10q g0q=>inv s10q g0q∧μ s10q g0q<μ s10 g0) s1 s2 s7 s8 s10 g0):Md.Loop (s1,s2,s7,s8,s10,g0,()) (k35 (r0,e0,()) nx2):=
 ⟨⟨fun s:Int×Int×Int×Int×Int×(List Int)×Unit=>(s.1=s1∧s.2.1=s2∧s.2.2.1=s7∧s.2.2.2.1=s8)∧inv s.2.2.2.2.1 s.2.2.2.2.2.1,fun s:Int×Int×Int×Int×Int×(List Int)×Unit=>μ s.2.2.2.2.1 s.2.2.2.2.2.1,⟨⟨rfl,rfl,rfl,rfl⟩,h0⟩,fun(s1p,s2p,s7p,s8p,s10p,g0p,()) ⟨⟨eq0,eq1,eq2,eq3⟩,hi⟩=>by
  have eq0:s1p=s1:=eq0;subst s1p;have eq1:s2p=s2:=eq1;subst s2p;have eq2:s7p=s7:=eq2;subst s7p;have eq3:s8p=s8:=eq3;subst s8p;exact mpr_of (by kernel_rfl) ((congrArg (fun k=>kag r0 e0 nx2 k s1 s2 s7 s8 s10p g0p) (lpk2 (⟨rfl,rfl,rfl,rfl⟩:s1=s1∧s2=s2∧s7=s7∧s8=s8) inv (fun s10q g0q=>μ s10q g0q<μ s10p g0p))).mpr (hs s10p g0p hi))⟩⟩
theorem bd61:Callable Try.prog 61:=⟨by rw[Try.func61];kernel_rfl,by rw[Try.func61];show some _≠some _;decide⟩
set_option maxHeartbeats 1000000 in
theorem kh2 (p1:Int) (p2:Int) (w0:List Int) (h:(0≤p1∧p1<p2∧p2≤w0.length)∧w0.length≤1099511627776):k6u (p1,p2,w0,()) ((((pisS w0 p1 p2).2):Bool),(((pisS w0 p1 p2).1.toList):List Int),()):=by
 obtain⟨⟨h1,h2,h3⟩,h4⟩:=h
 refine kj2 ⟨rfl,?_⟩
 rw[wi (p1+1) (by omega) (by omega)]
 have hst:pisS w0 p1 p2=Sort.partialIns Sort.ltInt p1.toNat p2.toNat 5 (p1.toNat+1) w0.toArray:=rfl
 generalize pisS w0 p1 p2=R at *
 refine khn (fun i jj g=>(p1<i∧i≤p2)∧(0≤jj∧jj≤5)∧g.length=w0.length∧R=Sort.partialIns Sort.ltInt p1.toNat p2.toNat (5-jj).toNat i.toNat g.toArray) (fun _ jj _=>(5-jj).toNat) ⟨⟨by omega,by omega⟩,⟨by omega,by omega⟩,rfl,by rw[hst,show(p1+1).toNat=p1.toNat+1 by omega];rfl⟩ ?_
 clear hst
 rintro i jj g ⟨⟨i0,i1⟩,⟨j0,j1⟩,g2,g3⟩
 refine⟨fun hh=> ?_,fun hh=> ?_⟩
 ·have hh:=of_decide_eq_true hh
  refine⟨rfl,?_⟩
  rw[show(5-jj).toNat=(5-(jj+1)).toNat+1 by omega,Sort.partialIns_succ]at g3
  have wj:=wi (jj+1) (by omega) (by omega)
  have last:∀(nx:NX TB kc) (i' :Int) (g' :List Int),(p1<i'∧i'≤p2)→g'.length=w0.length→R=Sort.partialIns Sort.ltInt p1.toNat p2.toNat (5-(jj+1)).toNat i'.toNat g'.toArray→(((p1<i'∧i'≤p2)∧(0≤IntKind.i64.wrap (jj+1)∧IntKind.i64.wrap (jj+1)≤5)∧g'.length=w0.length∧R=Sort.partialIns Sort.ltInt p1.toNat p2.toNat (5-IntKind.i64.wrap (jj+1)).toNat i'.toNat g'.toArray)∧(5-IntKind.i64.wrap (jj+1)).toNat<(5-jj).toNat):=by
   intro _ i' g' q1 q2 q3
   rw[wj]
   exact⟨⟨q1,⟨by omega,by omega⟩,q2,q3⟩,by omega⟩
  have j2:∀(nx:NX TB kc) (i' :Int) (g' :List Int),(p1<i'∧i' <p2)→g'.length=w0.length→R=Sort.partialIns Sort.ltInt p1.toNat p2.toNat (5-(jj+1)).toNat i'.toNat (Sort.fixUp Sort.ltInt p2.toNat i'.toNat g'.toArray)→
    (∀g' :List Int,(((p1<i'∧i'≤p2)∧(0≤IntKind.i64.wrap (jj+1)∧IntKind.i64.wrap (jj+1)≤5)∧g'.length=w0.length∧R=Sort.partialIns Sort.ltInt p1.toNat p2.toNat (5-IntKind.i64.wrap (jj+1)).toNat i'.toNat g'.toArray)∧(5-IntKind.i64.wrap (jj+1)).toNat<(5-jj).toNat)→nx (p1,p2,i',IntKind.i64.wrap (jj+1),g',()))→k1o (R.2,R.1.toList,()) nx (p1,p2,i',jj,g',()):=by
   intro nx i' g' ⟨q0,q1⟩ q2 q3 hn
   refine kgf ?_
   rw[wi (p2-i') (by omega) (by omega),wi (i' +1) (by omega) (by omega)]
   refine⟨fun e=>⟨rfl,?_⟩,fun e=>⟨rfl,hn _ (last nx _ _ ⟨q0,by omega⟩ q2 ?_)⟩⟩
   ·have e:=of_decide_eq_true e
    unfold Sort.fixUp at q3
    rw[if_pos (by omega),show i'.toNat+1=(i' +1).toNat by omega]at q3
    refine khr (fun k g2=>(i' +1≤k∧k≤p2)∧g2.length=w0.length∧Sort.shiftUp Sort.ltInt p2.toNat k.toNat g2.toArray=Sort.shiftUp Sort.ltInt p2.toNat (i' +1).toNat g'.toArray) (fun k _=>(p2-k).toNat) ⟨⟨by omega,by omega⟩,q2,rfl⟩ ?_
    rintro k g2 ⟨⟨k0,k1⟩,k2,k3⟩
    refine⟨fun c=> ?_,fun c=> ?_⟩
    ·have c:=of_decide_eq_true c
     rw[wi (k-1) (by omega) (by omega),wi (k+1) (by omega) (by omega)]
     rw[k1qw (by omega) c (by omega)]at k3
     refine⟨⟨by omega,by omega⟩,⟨by omega,by omega⟩,⟨by omega,by omega⟩,⟨by omega,by omega⟩,fun d=> ?_,fun d=> ?_⟩
     ·have d:¬ix g2 k<ix g2 (k-1):=by simpa using d
      rw[if_neg d]at k3
      exact⟨rfl,hn _ (last nx _ _ ⟨q0,by omega⟩ k2 (by rw[q3,←k3]))⟩
     ·have d:ix g2 k<ix g2 (k-1):=by simpa using d
      rw[if_pos d]at k3
      exact⟨⟨by omega,by omega⟩,⟨by omega,by omega⟩,⟨by omega,by omega⟩,⟨by omega,by omega⟩,⟨by omega,by omega⟩,⟨by omega,by omega⟩,⟨by omega,by omega⟩,⟨by omega,by rw[List.length_set];omega⟩,by rw[List.length_set,List.length_set],⟨⟨by omega,by omega⟩,by rw[List.length_set,List.length_set];exact k2,k3⟩,by omega⟩
    ·have c:=of_decide_eq_false c
     rw[k1ph (by omega) c]at k3
     exact⟨rfl,hn _ (last nx _ _ ⟨q0,by omega⟩ k2 (by rw[q3,←k3]))⟩
   ·have e:=of_decide_eq_false e
    unfold Sort.fixUp at q3
    rw[if_neg (by omega)]at q3
    exact q3
  have jj1:∀(nx:NX TB kc) (i' :Int),(p1<i'∧i'≤p2)→Sort.scanSorted Sort.ltInt g.toArray p2.toNat i.toNat=i'.toNat→
    (∀g' :List Int,(((p1<i'∧i'≤p2)∧(0≤IntKind.i64.wrap (jj+1)∧IntKind.i64.wrap (jj+1)≤5)∧g'.length=w0.length∧R=Sort.partialIns Sort.ltInt p1.toNat p2.toNat (5-IntKind.i64.wrap (jj+1)).toNat i'.toNat g'.toArray)∧(5-IntKind.i64.wrap (jj+1)).toNat<(5-jj).toNat)→nx (p1,p2,i',IntKind.i64.wrap (jj+1),g',()))→k1w (R.2,R.1.toList,()) nx (p1,p2,i',jj,g,()):=by
   intro nx i' ⟨q0,q1⟩ q2 hn
   rw[q2]at g3
   refine kgk ?_
   rw[wi (p2-p1) (by omega) (by omega),wi (i' -1) (by omega) (by omega),wi (i' -p1) (by omega) (by omega)]
   refine⟨fun e=> ?_,fun e=>⟨fun e2=> ?_,fun e2=> ?_⟩⟩
   ·have e:i' =p2:=by simpa using e
    rw[if_pos (by omega)]at g3
    rw[g3]
    exact⟨rfl,rfl⟩
   ·have e:¬i' =p2:=by simpa using e
    have e2:=of_decide_eq_true e2
    rw[if_neg (by omega),if_pos (by omega)]at g3
    rw[g3]
    exact⟨rfl,rfl⟩
   ·have e:¬i' =p2:=by simpa using e
    have e2:=of_decide_eq_false e2
    rw[if_neg (by omega),if_neg (by omega)]at g3
    have hs:=swp_arr (g:=g) (i:=i') (j:=i' -1) (by omega) (by omega) (by omega) (by omega)
    rw[show i'.toNat-1=(i' -1).toNat by omega,hs]at g3
    have sl:(swpL g i' (i' -1)).length=w0.length:=by rw[krp];exact g2
    refine⟨⟨by omega,by omega⟩,⟨by omega,by omega⟩,⟨by omega,by omega⟩,⟨by omega,by omega⟩,⟨by omega,by omega⟩,⟨by omega,by omega⟩,⟨by omega,by omega⟩,⟨by omega,by rw[List.length_set];omega⟩,fun e3=> ?_,fun e3=> ?_⟩
    ·have e3:=of_decide_eq_true e3
     refine⟨by rw[List.length_set,List.length_set],?_⟩
     unfold Sort.fixDown at g3
     rw[if_pos (by omega),show i'.toNat-1=(i' -1).toNat by omega]at g3
     refine kik (fun k g2=>(0≤k∧k<p2)∧g2.length=w0.length∧Sort.shiftDown Sort.ltInt k.toNat g2.toArray=Sort.shiftDown Sort.ltInt (i' -1).toNat (swpL g i' (i' -1)).toArray) (fun k _=>k.toNat) ⟨⟨by omega,by omega⟩,sl,rfl⟩ ?_
     rintro k g2 ⟨⟨k0,k1⟩,k2,k3⟩
     refine⟨fun c=> ?_,fun c=> ?_⟩
     ·have c:=of_decide_eq_true c
      rw[wi (k-1) (by omega) (by omega)]
      rw[k1o5 c (by omega)]at k3
      refine⟨⟨by omega,by omega⟩,⟨by omega,by omega⟩,⟨by omega,by omega⟩,⟨by omega,by omega⟩,fun d=> ?_,fun d=> ?_⟩
      ·have d:¬ix g2 k<ix g2 (k-1):=by simpa using d
       rw[if_neg d]at k3
       exact⟨rfl,j2 nx _ _ ⟨q0,by omega⟩ k2 (by rw[g3,k3]) hn⟩
      ·have d:ix g2 k<ix g2 (k-1):=by simpa using d
       rw[if_pos d]at k3
       exact⟨⟨by omega,by omega⟩,⟨by omega,by omega⟩,⟨by omega,by omega⟩,⟨by omega,by omega⟩,⟨by omega,by omega⟩,⟨by omega,by omega⟩,⟨by omega,by omega⟩,⟨by omega,by rw[List.length_set];omega⟩,by rw[List.length_set,List.length_set],⟨⟨by omega,by omega⟩,by rw[List.length_set,List.length_set];exact k2,k3⟩,by omega⟩
     ·have c:=of_decide_eq_false c
      rw[k1mj c]at k3
      exact⟨rfl,j2 nx _ _ ⟨q0,by omega⟩ k2 (by rw[g3,k3]) hn⟩
    ·have e3:=of_decide_eq_false e3
     unfold Sort.fixDown at g3
     rw[if_neg (by omega)]at g3
     exact⟨by rw[List.length_set,List.length_set],j2 nx _ _ ⟨q0,by omega⟩ sl g3 hn⟩
  refine khw (fun i' =>(p1<i'∧i'≤p2)∧Sort.scanSorted Sort.ltInt g.toArray p2.toNat i'.toNat=Sort.scanSorted Sort.ltInt g.toArray p2.toNat i.toNat) (fun i' =>(p2-i').toNat) ⟨⟨i0,i1⟩,rfl⟩ ?_
  rintro i' ⟨⟨q0,q1⟩,q2⟩
  refine⟨fun c=> ?_,fun c=> ?_⟩
  ·have c:=of_decide_eq_true c
   rw[k1md (by omega) c (by omega)]at q2
   rw[wi (i' -1) (by omega) (by omega),wi (i' +1) (by omega) (by omega)]
   refine⟨⟨by omega,by omega⟩,⟨by omega,by omega⟩,⟨by omega,by omega⟩,⟨by omega,by omega⟩,fun d=>⟨rfl,⟨⟨by omega,by omega⟩,?_⟩,by omega⟩,fun d=>⟨rfl,jj1 _ _ ⟨q0,q1⟩ ?_ fun g' q=>⟨⟨⟨rfl,rfl⟩,q.1⟩,q.2⟩⟩⟩
   ·have d:¬ix g i' <ix g (i' -1):=by simpa using d
    rw[if_neg d]at q2
    exact q2
   ·have d:ix g i' <ix g (i' -1):=by simpa using d
    rw[if_pos d]at q2
    exact q2.symm
  ·have c:=of_decide_eq_false c
   rw[k1ir (by omega) c]at q2
   exact⟨rfl,jj1 _ _ ⟨q0,q1⟩ q2.symm fun g' q=>⟨⟨⟨rfl,rfl⟩,q.1⟩,q.2⟩⟩
 ·have hh:=of_decide_eq_false hh
  rw[show(5-jj).toNat=0 by omega]at g3
  rw[g3]
  exact⟨rfl,rfl⟩
noncomputable def ka9:Con TB.den:=kq.fnR (fun x=>(fun(p1:Int) (p2:Int) (w0:List Int)=>(0≤p1∧p1<p2∧p2≤w0.length)∧w0.length≤1099511627776) x.1 x.2.1 x.2.2.1) fun x=>(fun(p1:Int) (p2:Int) (w0:List Int)=>((((pisS w0 p1 p2).2):Bool),(((pisS w0 p1 p2).1.toList):List Int),())) x.1 x.2.1 x.2.2.1
theorem kj7:ka9.Ok Try.prog TB:=Con.ok_fn kq bd61 fun x h=>kit (kh2 x.1 x.2.1 x.2.2.1 h)
end Go.Proofs.Ytcilpmmlfpkdoaa
end
