/-
  Parts of the proofs that the laws of this seat hold of every input, merged by a program: a machine over pure data that is sound for the model, what each function of the translation does in it, and plain lemmas. No conditions but those in each theorem.
-/
import Derived.Test.YtpffhgljgpjenaaA6
set_option linter.all false
set_option maxRecDepth 100000
noncomputable section
namespace Go.Proofs.Ytpffhgljgpjenaa
open Go Go.Bv Go.Cv Go.Md Go.RowKit
def kz:Con TB.den:=Con.mk0 24 [.agg [.d (.sl (.st 0)),.d (.sl (.st 1)),.d (.int .u64)]] [] (.tup [.one (.d (.sl (.int .u8))),.one (.d (.int .i64))]) []
abbrev kq4:=HL TB.den (hsT kz.ins (hsOs kz.pre))
abbrev kb:=HL TB.den (hsV kz.res (hsOs kz.post))
noncomputable def k12:Cx TB:=⟨inf,[khb,k147,kgs,kp2,kyw],[],4,[]⟩
noncomputable def k21:Code:=Try.f24.body.getD .skip
noncomputable def k7w:List ResultVar:=Try.f24.results.toList
def k13c (o:kb):=qS TB k12 70 0 (cB (cB (cB (cB (cB (cB k21)))))) .no (retTQ TB k12 kz k7w o)
def k5e:Tm:=⟨[0],[.cells [.d (.sl (.st 0)),.d (.sl (.st 1)),.d (.int .u64)]],[1,4,56,57,58],[.one (.ptr 0 0),.one (.d (.sl (.int .u8))),.one (.d (.sl (.st 1))),.one (.d (.int .i64)),.one (.d (.int .i64))],1⟩
def k13q (o:kb) (nx2:NX TB k5e):=qM TB 0 k5e nx2 (blockT TB 2 (k13c o))
def k84 (o:kb) (nx2:NX TB k5e) (i:HL TB.den k5e.hs):Prop:=WP TB k12 70 0 (cA (cA (cB (cA (cB (cB (cB (cB (cB k21))))))))) .no (k5e.fill TB i) (k13q o nx2)
noncomputable def k11t (o:kb):An TB:= .lp [] k5e (k84 o) fun nx2=> .no
noncomputable def koc (o:kb):An TB:= .nd [] .no [] (.nd [] (.nd [] .no [] (k11t o)) [] .no)
def k12r (o:kb):=qS TB k12 70 0 (cB (cB (cB (cB k21)))) (koc o) (retTQ TB k12 kz k7w o)
def kg:Tm:=⟨[0],[.cells [.d (.sl (.st 0)),.d (.sl (.st 1)),.d (.int .u64)]],[1,4,18,19,20],[.one (.ptr 0 0),.one (.d (.sl (.int .u8))),.one (.d (.sl (.st 0))),.one (.d (.int .i64)),.one (.d (.int .i64))],1⟩
def koj (o:kb) (nx1:NX TB kg):=qM TB 0 kg nx1 (blockT TB 0 (k12r o))
def k12a (o:kb) (nx1:NX TB kg):=qS TB k12 70 0 (cB (cB (cB (cA (cA (cB (cA (cB (cB (cB k21)))))))))) .no (koj o nx1)
def ka5:Tm:=⟨[0],[.cells [.d (.sl (.st 0)),.d (.sl (.st 1)),.d (.int .u64)]],[1,4,7,18,19,20],[.one (.ptr 0 0),.one (.d (.sl (.int .u8))),.one (.d (.int .i64)),.one (.d (.sl (.st 0))),.one (.d (.int .i64)),.one (.d (.int .i64))],2⟩
def kld (o:kb) (nx1:NX TB kg) (i:HL TB.den ka5.hs):Prop:=ghs TB [] (ka5.fill TB i) fun s=>WP TB k12 70 0 (cB (cB (cB (cB (cB (cB (cB (cB (cA (cA (cB (cB (cA (cA (cB (cA (cB (cB (cB k21))))))))))))))))))) .no s (blockT TB 1 (k12a o nx1))
structure k7z (o:kb) (nx1:NX TB kg) (i:HL TB.den ka5.hs):Prop where
 h:kld o nx1 i
noncomputable def k112 (o:kb) (nx1:NX TB kg):An TB:= .jn ka5 (k7z o nx1) [] .no [] .no
noncomputable def k117 (o:kb) (nx1:NX TB kg):An TB:= .nd [] .no [] (.nd [] .no [] (.nd [] .no [] (k112 o nx1)))
noncomputable def k110 (o:kb) (nx1:NX TB kg):An TB:= .nd [] .no [] (.nd [] .no [] (.nd [] .no [] (k117 o nx1)))
noncomputable def klb (o:kb) (nx1:NX TB kg):An TB:= .nd [] .no [] (.nd [] (.nd [] .no [] (k110 o nx1)) [] .no)
def k7q (o:kb) (nx1:NX TB kg) (i:HL TB.den kg.hs):Prop:=WP TB k12 70 0 (cA (cA (cB (cA (cB (cB (cB k21))))))) (.nd [] .no [] (klb o nx1)) (kg.fill TB i) (koj o nx1)
noncomputable def k10y (o:kb):An TB:= .lp [] kg (k7q o) fun nx1=>(.nd [] .no [] (klb o nx1))
noncomputable def k10z (o:kb):An TB:= .nd [] (.nd [] .no [] (k10y o)) [] (koc o)
noncomputable def kop (o:kb):An TB:= .nd [] .no [] (.nd [] .no [] (.nd [] .no [] (k10z o)))
def kcz (x:kq4) (o:kb):Prop:=WPh TB k12 70 0 k21 (kop o) (kz.st TB x) (retTQ TB k12 kz k7w o)
theorem k10k (o:kb):OblH TB k12 70 0 k21 (kop o) (retTQ TB k12 kz k7w o):=
 OblH.ofC (X:=((∀nx i,(k7q o) nx i=(k7q o) nx i)∧(∀nx1:NX TB kg,((∀i,(k7z o nx1) i=kld o nx1 i)∧True))∧(∀nx i,(k84 o) nx i=(k84 o) nx i)∧(∀nx2:NX TB k5e,True)∧True)) (by kernel_rfl) ⟨fun _ _=>rfl,fun _=>⟨fun _=>propext ⟨fun h=>h.1,fun h=>⟨h⟩⟩,trivial⟩,fun _ _=>rfl,fun _=>trivial,trivial⟩
theorem k114 {x:kq4} {o:kb} (h:kcz x o):kz.Snd Try.prog x o:=
 Con.soundH (c:=kz) (C:=k12) TBok ⟨inf_ok,(all_cons kv0 (all_cons k1n1 (all_cons kud (all_cons k14m (all_cons k1lm all_nil))))),all_nil⟩ mix Try.func24 (show Try.f24.body=some k21 by kernel_rfl) (show Try.f24.ntmps=70 by kernel_rfl) (show Try.f24.results.toList=k7w by kernel_rfl) rfl h (k10k o)
theorem k13s {p0:TWitness} {r0:List Int} {r1:Int} (h:
((p0.Ins.length≤9223372036854775807∧p0.Outs.length≤9223372036854775807∧(∀x∈p0.Ins,x.Path.length≤9223372036854775807))∧((!(rightV p0))=true→
([]:List Int)=r0∧1=r1)∧
((!(rightV p0))=false→
((-9223372036854775808≤(p0.Ins.length:Int)∧(p0.Ins.length:Int)≤9223372036854775807)∧([]:List Int).length≤137438953472)∧let r2:List Int:=(([]:List Int)++dig 4 (len4 (p0.Ins.length:Int)))
 Md.Loop (r2,p0.Ins,((p0.Ins.length:Int):Int),(0:Int),p0.Ins,p0.Outs,p0.Secret,()) (k7q (r0,r1,()))))):kcz (p0.Ins,p0.Outs,p0.Secret,()) (r0,r1,()):=WPh.of_eq (by kernel_rfl) h
theorem kjk {r0:List Int} {r1:Int} {nx1:NX TB kg} {s4:List Int} {s7:Int} {s18:List TSpent} {s19:Int} {s20:Int} {h0_0:List TSpent} {h0_1:List TNote} {h0_2:Int} (h:
(((-9223372036854775808≤s7∧s7≤9223372036854775807)∧s4.length≤137438953472)∧nx1 (((s4++dig 4 (len4 s7)):List Int),s18,s19,(IntKind.i64.wrap (s20+1):Int),h0_0,h0_1,h0_2,()))):k7z (r0,r1,()) nx1 (s4,s7,s18,s19,s20,h0_0,h0_1,h0_2,()):=⟨mpr_of (by kernel_rfl) h⟩
def kog (r0:List Int) (r1:Int) (nx1:NX TB kg) (k1:List Int→Int→Prop) (s18:List TSpent) (s19:Int) (h0_0:List TSpent) (h0_1:List TNote) (h0_2:Int) (s4:List Int) (s20:Int):Prop:=
(decide (s20<s19)=true→
(0≤s20)∧s20<(s18.length:Int)∧(NR (TNote.mk ((ix s18 s20).Note_Value) ((ix s18 s20).Note_Owner) ((ix s18 s20).Note_Rho) ((ix s18 s20).Note_Blind))∧s4.length≤68719476736)∧let r3:List Int:=(s4++encN (TNote.mk ((ix s18 s20).Note_Value) ((ix s18 s20).Note_Owner) ((ix s18 s20).Note_Rho) ((ix s18 s20).Note_Blind)))
(U64 ((ix s18 s20).Key)∧r3.length≤137438953472)∧((-9223372036854775808≤((ix s18 s20).Number)∧((ix s18 s20).Number)≤9223372036854775807)∧(r3++dig 8 ((ix s18 s20).Key)).length≤137438953472)∧let r4:List Int:=((r3++dig 8 ((ix s18 s20).Key))++dig 4 (len4 ((ix s18 s20).Number)))
((-9223372036854775808≤((ix s18 s20).Position)∧((ix s18 s20).Position)≤9223372036854775807)∧r4.length≤137438953472)∧let r5:List Int:=(r4++dig 4 (len4 ((ix s18 s20).Position)))
(Us ((ix s18 s20).Path)∧r5.length≤68719476736∧((ix s18 s20).Path).length≤4294967295)∧((ix s18 s20).Dummy=true→
 k7z (r0,r1,()) nx1 (((r5++encL ((ix s18 s20).Path)):List Int),(1:Int),s18,s19,s20,h0_0,h0_1,h0_2,()))∧
((ix s18 s20).Dummy=false→
 k7z (r0,r1,()) nx1 (((r5++encL ((ix s18 s20).Path)):List Int),(0:Int),s18,s19,s20,h0_0,h0_1,h0_2,())))∧
(decide (s20<s19)=false→
((-9223372036854775808≤(h0_1.length:Int)∧(h0_1.length:Int)≤9223372036854775807)∧s4.length≤137438953472)∧Md.Loop (((s4++dig 4 (len4 (h0_1.length:Int))):List Int),h0_1,((h0_1.length:Int):Int),(0:Int),h0_0,h0_1,h0_2,()) (k84 (r0,r1,())))
theorem k10u {r0:List Int} {r1:Int} {s18:List TSpent} {s19:Int} {h0_0:List TSpent} {h0_1:List TNote} {h0_2:Int} {s4:List Int} {s20:Int} (inv:List Int→Int→Prop) (μ:List Int→Int→Nat) (h0:inv s4 s20) (hs:∀(s4:List Int) (s20:Int),inv s4 s20→kog r0 r1 (fun s:(List Int)×(List TSpent)×Int×Int×(List TSpent)×(List TNote)×Int×Unit=>((s.2.1=s18∧s.2.2.1=s19∧s.2.2.2.2.1=h0_0∧s.2.2.2.2.2.1=h0_1∧s.2.2.2.2.2.2.1=h0_2)∧inv s.1 s.2.2.2.1)∧μ s.1 s.2.2.2.1<μ s4 s20) (fun s4q s20q=>inv s4q s20q∧μ s4q s20q<μ s4 s20) s18 s19 h0_0 h0_1 h0_2 s4 s20):Md.Loop (s4,s18,s19,s20,h0_0,h0_1,h0_2,()) (k7q (r0,r1,())):=
 ⟨⟨fun s:(List Int)×(List TSpent)×Int×Int×(List TSpent)×(List TNote)×Int×Unit=>(s.2.1=s18∧s.2.2.1=s19∧s.2.2.2.2.1=h0_0∧s.2.2.2.2.2.1=h0_1∧s.2.2.2.2.2.2.1=h0_2)∧inv s.1 s.2.2.2.1,fun s:(List Int)×(List TSpent)×Int×Int×(List TSpent)×(List TNote)×Int×Unit=>μ s.1 s.2.2.2.1,⟨⟨rfl,rfl,rfl,rfl,rfl⟩,h0⟩,fun(s4p,s18p,s19p,s20p,h0_0p,h0_1p,h0_2p,()) ⟨⟨eq0,eq1,eq2,eq3,eq4⟩,hi⟩=>by
  have eq0:s18p=s18:=eq0;subst s18p;have eq1:s19p=s19:=eq1;subst s19p;have eq2:h0_0p=h0_0:=eq2;subst h0_0p;have eq3:h0_1p=h0_1:=eq3;subst h0_1p;have eq4:h0_2p=h0_2:=eq4;subst h0_2p;exact mpr_of (by kernel_rfl) ((congrArg (fun k=>kog r0 r1 (fun s:(List Int)×(List TSpent)×Int×Int×(List TSpent)×(List TNote)×Int×Unit=>((s.2.1=s18∧s.2.2.1=s19∧s.2.2.2.2.1=h0_0∧s.2.2.2.2.2.1=h0_1∧s.2.2.2.2.2.2.1=h0_2)∧inv s.1 s.2.2.2.1)∧μ s.1 s.2.2.2.1<μ s4p s20p) k s18 s19 h0_0 h0_1 h0_2 s4p s20p) (lpk2 (⟨rfl,rfl,rfl,rfl,rfl⟩:s18=s18∧s19=s19∧h0_0=h0_0∧h0_1=h0_1∧h0_2=h0_2) inv (fun s4q s20q=>μ s4q s20q<μ s4p s20p))).mpr (hs s4p s20p hi))⟩⟩
def kok (r0:List Int) (r1:Int) (k2:List Int→Int→Prop) (s56:List TNote) (s57:Int) (h0_0:List TSpent) (h0_1:List TNote) (h0_2:Int) (s4:List Int) (s58:Int):Prop:=
(decide (s58<s57)=true→
(0≤s58)∧s58<(s56.length:Int)∧(NR (ix s56 s58)∧s4.length≤68719476736)∧k2 ((s4++encN (ix s56 s58)):List Int) (IntKind.i64.wrap (s58+1):Int))∧
(decide (s58<s57)=false→
(U64 h0_2∧s4.length≤137438953472)∧(s4++dig 8 h0_2)=r0∧0=r1)
theorem k119 {r0:List Int} {r1:Int} {s56:List TNote} {s57:Int} {h0_0:List TSpent} {h0_1:List TNote} {h0_2:Int} {s4:List Int} {s58:Int} (inv:List Int→Int→Prop) (μ:List Int→Int→Nat) (h0:inv s4 s58) (hs:∀(s4:List Int) (s58:Int),inv s4 s58→kok r0 r1 (fun s4q s58q=>inv s4q s58q∧μ s4q s58q<μ s4 s58) s56 s57 h0_0 h0_1 h0_2 s4 s58):Md.Loop (s4,s56,s57,s58,h0_0,h0_1,h0_2,()) (k84 (r0,r1,())):=
 ⟨⟨fun s:(List Int)×(List TNote)×Int×Int×(List TSpent)×(List TNote)×Int×Unit=>(s.2.1=s56∧s.2.2.1=s57∧s.2.2.2.2.1=h0_0∧s.2.2.2.2.2.1=h0_1∧s.2.2.2.2.2.2.1=h0_2)∧inv s.1 s.2.2.2.1,fun s:(List Int)×(List TNote)×Int×Int×(List TSpent)×(List TNote)×Int×Unit=>μ s.1 s.2.2.2.1,⟨⟨rfl,rfl,rfl,rfl,rfl⟩,h0⟩,fun(s4p,s56p,s57p,s58p,h0_0p,h0_1p,h0_2p,()) ⟨⟨eq0,eq1,eq2,eq3,eq4⟩,hi⟩=>by
  have eq0:s56p=s56:=eq0;subst s56p;have eq1:s57p=s57:=eq1;subst s57p;have eq2:h0_0p=h0_0:=eq2;subst h0_0p;have eq3:h0_1p=h0_1:=eq3;subst h0_1p;have eq4:h0_2p=h0_2:=eq4;subst h0_2p;exact mpr_of (by kernel_rfl) ((congrArg (fun k=>kok r0 r1 k s56 s57 h0_0 h0_1 h0_2 s4p s58p) (lpk2 (⟨rfl,rfl,rfl,rfl,rfl⟩:s56=s56∧s57=s57∧h0_0=h0_0∧h0_1=h0_1∧h0_2=h0_2) inv (fun s4q s58q=>μ s4q s58q<μ s4p s58p))).mpr (hs s4p s58p hi))⟩⟩
theorem bd24:Callable Try.prog 24:=⟨by rw[Try.func24];kernel_rfl,by rw[Try.func24];show some _≠some _;decide⟩
theorem kxm (p0:TWitness) (h:WQ p0):kcz (p0.Ins,p0.Outs,p0.Secret,()) (((if rightV p0=true then encW p0 else []):List Int),((if rightV p0=true then 0 else 1:Int):Int),()):=by
 refine k13s ⟨⟨h.il,h.ol,fun x hx=>(h.i x hx).pl⟩,fun e=> ?_,fun e=> ?_⟩
 ·have e:rightV p0=false:=by simpa using e
  rw[e];exact⟨rfl,rfl⟩
 have e:rightV p0=true:=by simpa using e
 rw[if_pos e,if_pos e]
 obtain⟨v1,v2,v3,v4,v5⟩:=k96.1 e
 refine⟨⟨⟨by omega,by omega⟩,by simp⟩,?_⟩
 refine k10u (fun g i=>0≤i∧i≤p0.Ins.length∧g=dig 4 (len4 (p0.Ins.length:Int))++(p0.Ins.take i.toNat).flatMap encSp) (fun _ i=>(p0.Ins.length-i).toNat) ⟨by omega,by omega,by simp⟩ ?_
 rintro g i ⟨g0,g1,rfl⟩
 have hle:=k6e encSp 200 (p0.Ins.take i.toNat) fun x hx=>by
  have:=(k7i.1 (v4 x (List.mem_of_mem_take hx))).2.2.2.2.2.2.1
  rw[k12s];omega
 rw[List.length_take]at hle
 have hgl:(dig 4 (len4 (p0.Ins.length:Int))++(p0.Ins.take i.toNat).flatMap encSp).length≤1000:=by
  rw[List.length_append,kh];omega
 refine⟨fun hh=> ?_,fun hh=> ?_⟩
 ·have hh:=of_decide_eq_true hh
  have hm:=ix_mem p0.Ins i g0 hh
  have hx:=h.i _ hm
  obtain⟨w1,w2,w3,w4,w5,w6,w7,w8⟩:=k7i.1 (v4 _ hm)
  have hx1:NR (noteOf (ix p0.Ins i)):=hx.n
  have hinv:∀d:Int,(d=if(ix p0.Ins i).Dummy=true then 1 else 0)→(0≤i+1∧i+1≤p0.Ins.length∧(((((((dig 4 (len4 (p0.Ins.length:Int))++(p0.Ins.take i.toNat).flatMap encSp)++encN (noteOf (ix p0.Ins i)))++dig 8 (ix p0.Ins i).Key)++dig 4 (len4 (ix p0.Ins i).Number))++dig 4 (len4 (ix p0.Ins i).Position))++encL (ix p0.Ins i).Path)++dig 4 (len4 d))=dig 4 (len4 (p0.Ins.length:Int))++(p0.Ins.take (i+1).toNat).flatMap encSp)∧(p0.Ins.length-(i+1)).toNat<(p0.Ins.length-i).toNat:=by
   rintro d rfl
   refine⟨⟨by omega,by omega,?_⟩,by omega⟩
   rw[k16 p0.Ins i g0 hh,List.flatMap_append]
   simp[encSp,List.append_assoc]
  have hlen:(((((((dig 4 (len4 (p0.Ins.length:Int))++(p0.Ins.take i.toNat).flatMap encSp)++encN (noteOf (ix p0.Ins i)))++dig 8 (ix p0.Ins i).Key)++dig 4 (len4 (ix p0.Ins i).Number))++dig 4 (len4 (ix p0.Ins i).Position))++encL (ix p0.Ins i).Path)).length≤137438953472:=by
   simp only[List.length_append,kh,k9k,kx8]at hgl ⊢;omega
  refine⟨g0,hh,⟨hx1,by omega⟩,⟨hx.k,?_⟩,⟨hx.nu,?_⟩,⟨hx.po,?_⟩,⟨hx.pa,?_,by omega⟩,fun e=>kjk ⟨⟨by omega,hlen⟩,by rw[inc i p0.Ins.length g0 hh (by omega)];exact⟨⟨⟨rfl,rfl,rfl,rfl,rfl⟩,(hinv _ (by rw[if_pos e])).1⟩,(hinv 1 (by rw[if_pos e])).2⟩⟩,fun e=>kjk ⟨⟨by omega,hlen⟩,by rw[inc i p0.Ins.length g0 hh (by omega)];exact⟨⟨⟨rfl,rfl,rfl,rfl,rfl⟩,(hinv _ (by rw[if_neg (by rw[e];decide)])).1⟩,(hinv 0 (by rw[if_neg (by rw[e];decide)])).2⟩⟩⟩
  ·rw[List.length_append,k9k];omega
  ·rw[List.length_append,List.length_append,k9k,kh];omega
  ·simp only[List.length_append,kh,k9k]at hgl ⊢;omega
  ·simp only[List.length_append,kh,k9k]at hgl ⊢;omega
 ·have hh:=of_decide_eq_false hh
  rw[List.take_of_length_le (by omega)]at hgl ⊢
  refine⟨⟨⟨by omega,by omega⟩,by omega⟩,?_⟩
  refine k119 (fun g i=>0≤i∧i≤p0.Outs.length∧g=(dig 4 (len4 (p0.Ins.length:Int))++p0.Ins.flatMap encSp)++dig 4 (len4 (p0.Outs.length:Int))++(p0.Outs.take i.toNat).flatMap encN) (fun _ i=>(p0.Outs.length-i).toNat) ⟨by omega,by omega,by simp⟩ ?_
  rintro g i ⟨g0,g1,rfl⟩
  have hle:=k6e encN 32 (p0.Outs.take i.toNat) fun x hx=>by rw[k9k];omega
  rw[List.length_take]at hle
  have hgl2:((dig 4 (len4 (p0.Ins.length:Int))++p0.Ins.flatMap encSp)++dig 4 (len4 (p0.Outs.length:Int))++(p0.Outs.take i.toNat).flatMap encN).length≤2000:=by
   rw[List.length_append,List.length_append,kh];omega
  refine⟨fun hh=> ?_,fun hh=> ?_⟩
  ·have hh:=of_decide_eq_true hh
   have hm:=ix_mem p0.Outs i g0 hh
   rw[inc i p0.Outs.length g0 hh (by omega)]
   refine⟨g0,hh,⟨h.o _ hm,by omega⟩,⟨by omega,by omega,?_⟩,by omega⟩
   rw[k16 p0.Outs i g0 hh,List.flatMap_append]
   simp[List.append_assoc]
  ·have hh:=of_decide_eq_false hh
   rw[List.take_of_length_le (by omega)]  at hgl2 ⊢
   refine⟨⟨h.s,by omega⟩,?_,rfl⟩
   simp[encW,List.append_assoc]
noncomputable def klj:Con TB.den:=kz.fnR (fun x=>(fun(p0:TWitness)=>WQ p0) (TWitness.mk x.1 x.2.1 x.2.2.1)) fun x=>((fun(p0:TWitness)=>((if rightV p0=true then encW p0 else []):List Int)) (TWitness.mk x.1 x.2.1 x.2.2.1),(fun(p0:TWitness)=>((if rightV p0=true then 0 else 1:Int):Int)) (TWitness.mk x.1 x.2.1 x.2.2.1),())
theorem k12t:klj.Ok Try.prog TB:=Con.ok_fn kz bd24 fun x h=>k114 (kxm (TWitness.mk x.1 x.2.1 x.2.2.1) h)
def k1g:Con TB.den:=Con.mk0 6 [.agg [.d (.sl (.st 0)),.d (.sl (.st 1)),.d (.int .u64)]] [] (.one (.one (.d (.bool)))) []
abbrev kkc:=HL TB.den (hsT k1g.ins (hsOs k1g.pre))
abbrev k2t:=HL TB.den (hsV k1g.res (hsOs k1g.post))
noncomputable def k2h:Cx TB:=⟨inf,[kyj,kzt,klj,kzd,klq,kzn,k14f],[],4,[]⟩
noncomputable def k5m:Code:=Try.f6.body.getD .skip
noncomputable def k8a:List ResultVar:=Try.f6.results.toList
def kwt (o:k2t):=qS TB k2h 57 0 (cB (cB k5m)) .no (retTQ TB k2h k1g k8a o)
def k7l:Tm:=⟨[0],[.cells [.d (.sl (.st 0)),.d (.sl (.st 1)),.d (.int .u64)]],[1,14],[.one (.ptr 0 0),.one (.d (.bool))],1⟩
def khe (o:k2t) (i:HL TB.den k7l.hs):Prop:=ghs TB [] (k7l.fill TB i) fun s=>WP TB k2h 57 0 (cB (cA (cB k5m))) .no s (kwt o)
structure k4r (o:k2t) (i:HL TB.den k7l.hs):Prop where
 h:khe o i
noncomputable def kvl (o:k2t):An TB:= .jn k7l (k4r o) [] .no [] .no
noncomputable def kjg (o:k2t):An TB:= .nd [] .no [] (.nd [] (kvl o) [] .no)
def ka8 (x:kkc) (o:k2t):Prop:=WPh TB k2h 57 0 k5m (kjg o) (k1g.st TB x) (retTQ TB k2h k1g k8a o)
theorem kup (o:k2t):OblH TB k2h 57 0 k5m (kjg o) (retTQ TB k2h k1g k8a o):=
 OblH.ofC (X:=((∀i,(k4r o) i=khe o i)∧True)) (by kernel_rfl) ⟨fun _=>propext ⟨fun h=>h.1,fun h=>⟨h⟩⟩,trivial⟩
theorem kur {x:kkc} {o:k2t} (h:ka8 x o):k1g.Snd Try.prog x o:=
 Con.soundH (c:=k1g) (C:=k2h) TBok ⟨inf_ok,(all_cons k1j6 (all_cons k1j8 (all_cons k12t (all_cons k1jy (all_cons k13e (all_cons k1jk (all_cons k1m9 all_nil))))))),all_nil⟩ mix Try.func6 (show Try.f6.body=some k5m by kernel_rfl) (show Try.f6.ntmps=57 by kernel_rfl) (show Try.f6.results.toList=k8a by kernel_rfl) rfl h (kup o)
theorem kw9 {p0:TWitness} {r0:Bool} (h:
(((!true)=true→
 k4r (r0,()) (true,p0.Ins,p0.Outs,p0.Secret,()))∧
((!true)=false→
(p0.Ins.length≤9223372036854775807)∧let r1:Bool:=(smallW (TStatement.mk 0 0 ([]:List Int) ([]:List Int) ([]:List Int) 0 0 0 0 0) p0)
 k4r (r0,()) (((!r1):Bool),p0.Ins,p0.Outs,p0.Secret,())))):ka8 (p0.Ins,p0.Outs,p0.Secret,()) (r0,()):=WPh.of_eq (by kernel_rfl) h
theorem kqs {r0:Bool} {s14:Bool} {h0_0:List TSpent} {h0_1:List TNote} {h0_2:Int} (h:
((s14=true→
 true=r0)∧
(s14=false→
(WQ (TWitness.mk h0_0 h0_1 h0_2))∧let r2:List Int:=(if rightV (TWitness.mk h0_0 h0_1 h0_2)=true then encW (TWitness.mk h0_0 h0_1 h0_2)else [])
 let r3:Int:=(if rightV (TWitness.mk h0_0 h0_1 h0_2)=true then 0 else 1:Int)
((TWitness.mk h0_0 h0_1 h0_2).Ins.length≤9223372036854775807∧(TWitness.mk h0_0 h0_1 h0_2).Outs.length≤9223372036854775807∧(∀x∈(TWitness.mk h0_0 h0_1 h0_2).Ins,x.Path.length≤9223372036854775807))∧((!(rightV (TWitness.mk h0_0 h0_1 h0_2)))=true→
(((r2.length:Int)==0)=true→
(r3==1)=r0)∧
(((r2.length:Int)==0)=false→
 false=r0))∧
((!(rightV (TWitness.mk h0_0 h0_1 h0_2)))=false→
(([]:List Int).length+r2.length)*1≤140737488355328∧([]:List Int).length+r2.length≤maxLen∧(By (([]:List Int)++r2)∧(([]:List Int)++r2).length≤137438953472)∧∀(r6:TWitness) (r7:Int),(r6=((decW (([]:List Int)++r2)).1)∧r7=((decW (([]:List Int)++r2)).2))→(WQ (TWitness.mk h0_0 h0_1 h0_2)∧rightV (TWitness.mk h0_0 h0_1 h0_2)=true)∧let v8:ByteArray:=strOfNums (encW (TWitness.mk h0_0 h0_1 h0_2))
(((strOfNums r2).toList==v8.toList)=true→
((r3==0)=true→
((r7==0)=true→
(WQ r6∧WQ (TWitness.mk h0_0 h0_1 h0_2))∧(sameW r6 (TWitness.mk h0_0 h0_1 h0_2))=r0)∧
((r7==0)=false→
 false=r0))∧
((r3==0)=false→
 false=r0))∧
(((strOfNums r2).toList==v8.toList)=false→
 false=r0))))):k4r (r0,()) (s14,h0_0,h0_1,h0_2,()):=⟨mpr_of (by kernel_rfl) h⟩
theorem ksk (p0:TWitness) (h:WQ p0):ka8 (p0.Ins,p0.Outs,p0.Secret,()) ((true:Bool),()):=by
 have j:∀s,k4r (true,()) (s,p0.Ins,p0.Outs,p0.Secret,()):=by
  intro s
  refine kqs ⟨fun _=>rfl,fun _=> ?_⟩
  simp only[k13t]
  refine⟨h,⟨h.il,h.ol,fun x hx=>(h.i x hx).pl⟩,fun e=> ?_,fun e=> ?_⟩
  ·have e:rightV p0=false:=by simpa using e
   rw[e]
   exact⟨fun _=>rfl,fun h=>by simp at h⟩
  ·have e:rightV p0=true:=by simpa using e
   have hl:=k1pv e
   rw[if_pos e,if_pos e]
   refine⟨by simp;omega,by simp;unfold maxLen;omega,⟨by rw[List.nil_append];exact encW_by p0,by simp;omega⟩,?_⟩
   rw[List.nil_append,k1pm h e]
   rintro w r ⟨e1,e2⟩
   have e1:w=p0:=e1
   have e2:r=0:=e2
   rw[e1,e2]
   refine⟨⟨h,e⟩,fun _=>⟨fun _=>⟨fun _=>⟨⟨h,h⟩,k1np p0⟩,fun h=>by simp at h⟩,fun h=>by simp at h⟩,fun h=> ?_⟩
   have h:((strOfNums (encW p0)).toList==(strOfNums (encW p0)).toList)=false:=h
   rw[beq_self_eq_true]at h
   cases h
 exact kw9 ⟨fun _=>j _,fun _=>⟨h.il,j _⟩⟩
end Go.Proofs.Ytpffhgljgpjenaa
end
