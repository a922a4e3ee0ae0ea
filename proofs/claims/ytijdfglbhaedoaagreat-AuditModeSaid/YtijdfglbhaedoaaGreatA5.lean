/-
  Parts of the proofs that the laws of this seat hold of every input, merged by a program: a machine over pure data that is sound for the model, what each function of the translation does in it, and plain lemmas. No conditions but those in each theorem.
-/
import Derived.Test.YtijdfglbhaedoaaGreatA4
set_option maxRecDepth 100000
noncomputable section
namespace Go.Proofs.YtijdfglbhaedoaaGreat
open Go Go.Bv Go.Cv Go.Md Go.RowKit
open Go.IntKind (i64 u64)
structure BI (s0 s:PS) (m:List Int):Prop where
 R:s.R=s0.R
 p:s.p=s0.p
 r:s.r=s0.r
 l:∃x,s.l=s0.l++x
 k:s.k=s0.k++m
 kn:s.k.Nodup
 kb:BG s.k
 v:s.v=trs s.k
 lb:BG s.l
 F:s.F=frF s.R.wD s.l
 ll:s.l.length<=2^s.R.wD.toNat
theorem BI.refl {s:PS} {c:Nat} {f:Int} (h:PI s c f):BI s s []:=⟨rfl,rfl,rfl,⟨[],by simp⟩,by simp,h.kn,h.kb,h.v,h.l,h.F,h.ll⟩
theorem BI.perf {s0 s:PS} {m:List Int} {c:Nat} {f:Int} (b:BI s0 s m) (h:PI s c f) (hc:c<=800) {t:wx} (ht:TR t) (k:CK s t):BI s0 (perfS s t).s (m++t.wK):=by
 obtain⟨⟨g,h1⟩,_,_⟩:=h.perf hc ht k
 obtain⟨k1,k2,k3,k4,k5,k6⟩:=kg1 s t
 refine⟨k1.trans b.R,k2.trans b.p,k3.trans b.r,?_,?_,h1.kn,h1.kb,h1.v,h1.l,h1.F,h1.ll⟩
 ·obtain⟨x,hx⟩:=b.l
  exact⟨x++t.wN.map (·.wm),by rw[k4,hx,List.append_assoc]⟩
 ·rw[k5,b.k,List.append_assoc]
structure BO (s0:PS) (x:PB) (c:Nat):Prop where
 b:BI s0 x.s x.m
 ok:x.e=0->PI x.s c x.f
theorem kdj {s:PS} {c:Nat} {f:Int} (h:PI s c f) (hc:c<=800) {t:wx} (ht:TR t) (k:CK s t):u64.wrap (f+t.Fee)=f+t.Fee:=by
 obtain⟨a1,a2,a3,a4,a5⟩:=k.v.am'
 obtain⟨s1,s2,s3,s4⟩:=sup_bd h hc
 exact wrap_u64 _ (by have:=h.ff;have:=ht.f.1;omega) (by omega)
theorem k51:∀{r:List wx} {s0 s:PS} {m:List Int} {c:Nat} {f:Int},BI s0 s m->PI s c f->c+r.length<=800->(∀t∈r,TR t)->BO s0 (blkGo r s m f) (c+r.length)
 |[],s0,s,m,c,f,b,h,_,_=>⟨b,fun _=>h⟩
 |t::r,s0,s,m,c,f,b,h,hc,ht=>by
  have hc:c+(r.length+1)<=800:=hc
  unfold blkGo
  split
  ·rename_i h1
   exact⟨b,fun he=>(h1 he).elim⟩
  ·rename_i h1
   have k:=k8q (Classical.byContradiction h1)
   have tt:=ht t (by simp)
   have b2:=b.perf h (by omega) tt k
   split
   ·rename_i h2
    exact⟨b2,fun he=>(h2 he).elim⟩
   ·rename_i h2
    have h3:=(h.perf (by omega) tt k).2.2 (Classical.byContradiction h2)
    rw[kdj h (by omega) tt k]
    have:=k51 (r:=r) b2 h3 (by omega) (fun t ht' =>ht t (by simp[ht']))
    rw[show c+(t::r).length=c+1+r.length by simp;omega]
    exact this
structure BR' (b:wU):Prop where
 m:U64 b.wAU
 t:∀t∈b.Txs,TR t
 l:∀t∈b.Txs,TL t
theorem kds {x:PB} {c:Nat} (h:PI x.s c x.f) (hc:c<=800):u64.wrap (x.s.R.wJ+x.f)=x.s.R.wJ+x.f/\U64 (x.s.R.wJ+x.f):=by
 obtain⟨s1,s2,s3,s4⟩:=sup_bd h hc
 have h1:=h.rw
 have h2:=h.ff
 exact⟨wrap_u64 _ (by omega) (by omega),by omega,by omega⟩
theorem blkS_BI {s:PS} {c:Nat} (h:PI s c 0) {b:wU} (hc:c+b.Txs.length<=800) (hb:BR' b):BI s (blkS s [] b).s (blkS s [] b).m:=by
 have:=(k51 (BI.refl h) h hc hb.t).b
 unfold blkS
 split
 ·exact this
 ·split
  ·exact this
  ·exact⟨this.R,this.p,this.r,this.l,this.k,this.kn,this.kb,this.v,this.lb,this.F,this.ll⟩
theorem khy {s0 s:PS} {m:List Int} (h:BI s0 s m) (hv:s0.v=trs s0.k):resS s (befS s0 m)=s0:=by
 have hk:(remS m s.k).2=s0.k:=by
  have hn:=h.kn
  rw[h.k]at hn ⊢
  unfold remS
  have e1:(m.any fun x=> !decide (x∈s0.k++m))=false:=by
   rw[List.any_eq_false]
   intro x hx
   simp[hx]
  have e2:m.Nodup:=by rw[List.nodup_append]at hn;exact hn.2.1
  rw[e1,decide_eq_true e2]
  exact rem_add hn
 obtain⟨x,hx⟩:=h.l
 unfold resS befS
 simp only[Int.toNat_natCast]
 rw[hk,h.R,h.p,h.r,hx,List.take_left,<-hv]
theorem kdm {s:PS} {c:Nat} (h:PI s c 0) {b:wU} (hc:c+b.Txs.length<=790) (hb:BR' b) (he:(applyS s b).e=0):PI (applyS s b).s (c+b.Txs.length+1) 0:=by
 have hB:=k51 (BI.refl h) h (by omega) hb.t
 unfold applyS at he ⊢
 split at he
 ·cases he
 ·rename_i h1
  rw[if_neg h1]
  split at he
  ·cases he
  ·rename_i h2
   rw[if_neg h2]
   unfold blkS at he ⊢
   by_cases h3:(blkGo b.Txs s [] 0).e≠0
   ·rw[if_pos h3,if_pos h3]at he
    exact(h3 he).elim
   ·rw[if_neg h3]at he ⊢
    have hP:=hB.ok (Classical.byContradiction h3)
    by_cases h4:(crB (blkGo b.Txs s [] 0) b).2≠0
    ·rw[if_pos h4,if_pos h4]at he
     exact(h4 he).elim
    ·rw[if_neg h4,if_neg (by simp)]
     have h4:(crB (blkGo b.Txs s [] 0) b).2=0:=Classical.byContradiction h4
     generalize blkGo b.Txs s [] 0=x at *
     have hw:=kds hP (by omega)
     have hB:=hB.b
     unfold crB at h4 ⊢
     rw[hw.1]at h4 ⊢
     have hF:=hP.F
     have hr:=kab (d:=x.s.R.wD) (l:=x.s.l) (by have:=hP.d1;omega) hP.ll
     refine⟨hP.d1,hP.d2,hP.w1,hP.w2,hP.rw,hP.F,hP.ll,hP.l,k7c hP.b (by omega) ⟨hb.m.1,by omega⟩ hw.2.1,hP.n,Int.le_refl _,?_,?_,?_,?_,hP.kn,hP.kb,?_,hP.v⟩
     ·have h9:=hP.sup
      simp only[k96 hP.b.1.1 h4]
      rw[hB.p]at h9
      rw[List.length_append,List.length_singleton]
      have:((s.p.length+1:Nat):Int)*x.s.R.wJ=(s.p.length:Int)*x.s.R.wJ+x.s.R.wJ:=by
       rw[Int.natCast_add,Int.add_mul];simp
      rw[this]
      omega
     ·intro y hy
      rcases List.mem_append.1 hy with hy|hy
      ·exact h.r y hy
      ·rw[List.mem_singleton.1 hy,hF,hr]
       exact TT_r hP.l _ _
     ·have:=h.rl
      simp only[List.length_append,List.length_singleton]
      omega
     ·have:=h.p
      simp only[List.length_append,List.length_singleton]
      omega
     ·have:=hP.kl
      simp only
      omega
theorem kce:∀{r:List wx} {s:PS} {m:List Int} {f:Int},(blkGo r s m f).m.length<=m.length+4*r.length
 |[],_,_,_=>by simp[blkGo]
 |t::r,s,m,f=>by
  unfold blkGo
  split
  ·simp
  ·rename_i h1
   have:=(k8q (Classical.byContradiction h1:chkS s t=0)).v.ml
   split
   ·simp;omega
   ·have:=kce (r:=r) (s:=(perfS s t).s) (m:=m++t.wK) (f:=u64.wrap (f+t.Fee))
    rw[List.length_append]at this
    simp
    omega
theorem blkS_ml (s:PS) (b:wU):(blkS s [] b).m.length<=4*b.Txs.length:=by
 have:=kce (r:=b.Txs) (s:=s) (m:=[]) (f:=0)
 rw[List.length_nil,Nat.zero_add]at this
 unfold blkS
 split
 ·exact this
 ·split<;>exact this
theorem kgr {r:wE} (h:rulesE r=0):rulesB r=true:=by
 cases hb:rulesB r with
 |true=>rfl
 |false=>unfold rulesE at h;rw[hb]at h;cases h
theorem new_PI {r:wE} (h:rulesE r=0) (h0:0<=r.wJ):PI (newS r) 0 0:=by
 have hb:=kgr h
 simp only[rulesB,Bool.and_eq_true,decide_eq_true_eq]at hb
 have hr:=kab (d:=r.wD) (l:=[]) (by omega) (Nat.zero_le _)
 refine⟨(by show 1<=r.wD;omega),(by show r.wD<=12;omega),(by show 1<=r.wb;omega),(by show r.wb<=100;omega),⟨h0,(by show r.wJ<=4294967296;omega)⟩,rfl,Nat.zero_le _,(fun x hx=>by cases hx),k37 0,Int.le_refl _,Int.le_refl _,?_,?_,rfl,Nat.le_refl _,List.nodup_nil,(fun x hx=>by cases hx),Nat.zero_le _,rfl⟩
 ·show(0:Int)+0+0=((0:Nat):Int)*r.wJ
  simp
 ·intro x hx
  rw[List.mem_singleton.1 hx,hr]
  exact TT_r (fun x hx=>by cases hx) _ _
theorem PI.mono {s:PS} {c d:Nat} {f:Int} (h:PI s c f) (hd:c<=d):PI s d f:=
 ⟨h.d1,h.d2,h.w1,h.w2,h.rw,h.F,h.ll,h.l,⟨h.b.1,h.b.2.1,Nat.le_trans h.b.2.2 hd⟩,h.n,h.ff,h.sup,h.r,h.rl,Nat.le_trans h.p hd,h.kn,h.kb,Nat.le_trans h.kl (Nat.mul_le_mul_left 4 hd),h.v⟩
theorem sup_PI {s:PS} {c:Nat} (h:PI s c 0) (hc:c<=800):totA 0 s.b=(sumA s.b,0)/\u64.wrap (sumA s.b+s.n)=u64.wrap (u64.wrap (s.p.length:Int)*s.R.wJ):=by
 obtain⟨s1,s2,s3,s4⟩:=sup_bd h hc
 have hp:=h.p
 have hs:=h.sup
 refine⟨?_,?_⟩
 ·have:=tot_sum (l:=s.b) (s:=0) (fun a ha=>(h.b.1.2.2 a ha).2.1.1) (by omega)
  rw[this,Int.zero_add]
 ·rw[wrap_u64 (s.p.length:Int) (by omega) (by omega),<-hs]
  congr 1
  omega
def sameQ (a b:wF):Bool:=(a.wAY==b.wAY)&&((a.wAW==b.wAW)&&decide (a.wAR=b.wAR))
theorem kf7 (a:wF):sameQ a a=true:=by simp[sameQ]
def qA (r:wj):wF:=wF.mk r.wW r.wM r.wR
def qB (r:wj):wF:=wF.mk r.wV r.wL r.wS
def sameR (a b:wj):Bool:=(a.wAC==b.wAC)&&((a.wAI==b.wAI)&&((a.wy==b.wy)&&((a.wt==b.wt)&&((a.wAB==b.wAB)&&((a.wg==b.wg)&&((a.wZ==b.wZ)&&((a.wn==b.wn)&&(sameQ (qA a) (qA b)&&sameQ (qB a) (qB b)))))))))
theorem k9n (a:wj):sameR a a=true:=by simp[sameR,kf7]
def smA (r:wE) (l:List wU):Bool:=decide (1<=r.wD)&&(decide (r.wD<=6)&&(decide ((l.length:Int)<=8)&&l.all (fun b=>decide ((b.Txs.length:Int)<=4)&&b.Txs.all (fun t=>smallB t 1200))))
def zeroR:wj:=wj.mk 0 0 0 0 0 0 0 0 0 [] 0 0 [] 0
def auGo:List wU->PS->PE
 |[],s=>⟨0,s⟩
 |b::r,s=>if(applyS s b).e=0 then auGo r (applyS s b).s else⟨(applyS s b).e,s⟩
def auS (r:wE) (l:List wU):wj×Int:=if rulesE r=0 then(if(auGo l (newS r)).e=0 then(wj.mk (u64.wrap (u64.wrap (l.length:Int)*r.wJ)) (totA 0 (auGo l (newS r)).s.b).1 0 0 0 0 0 0 0 [] 0 0 [] 0,0)else(zeroR,(auGo l (newS r)).e))else(zeroR,rulesE r)
structure BL0 (l:List wU):Prop where
 t:∀b∈l,b.Txs=[]
 r:∀b∈l,BR' b
theorem BL0.tail {b:wU} {l:List wU} (h:BL0 (b::l)):BL0 l:=⟨fun x hx=>h.t x (by simp[hx]),fun x hx=>h.r x (by simp[hx])⟩
theorem kbg {l:List wU} {k:Nat} (h:k<l.length) (s:PS):auGo (l.drop k) s=if(applyS s l[k]).e=0 then auGo (l.drop (k+1)) (applyS s l[k]).s else⟨(applyS s l[k]).e,s⟩:=by
 rw[List.drop_eq_getElem_cons h]
 rfl
def audS (ideal:Bool) (r:wE) (l:List wU):wj×Int:=if rulesE r≠0 then(zeroR,rulesE r)else if r.we≠2∨ideal=true then(zeroR,1)else auS r l
def bokS (ideal:Bool) (r:wE):wj×Int:=if rulesE r≠0 then(zeroR,rulesE r)else if(ideal==(r.we==3))=false then(zeroR,1)else auS r []
theorem BL0.nil:BL0 []:=⟨fun _ h=>(by cases h),fun _ h=>(by cases h)⟩
theorem k6p.tr {t:wx} (h:k6p t):TR t/\t.wN.length<=9223372036854775807:=
 ⟨⟨h.wAO,h.wK.2,fun x hx=>let y:=h.wN.2 x hx;⟨y.wm,y.wAE,y.wAF,y.wv.2⟩,h.wP,h.wd,h.Fee,h.wo,h.wc,by have:=h.wAD;omega,h.wAQ.2⟩,h.wN.1⟩
theorem k6q {p0:wE} {p2:List wU} (h0:k8m p0) (_:True) (h2:p2.length<=9223372036854775807/\∀y∈p2,k31 y):0<=p0.wJ/\p2.length<=9223372036854775807/\∀b∈p2,b.Txs.length<=9223372036854775807/\∀t∈b.Txs,t.wN.length<=9223372036854775807:=
 ⟨h0.wJ.1,h2.1,fun b hb=>⟨(h2.2 b hb).Txs.1,fun t ht=>(((h2.2 b hb).Txs.2 t ht).tr).2⟩⟩
noncomputable def k69:Con TB.den:= .t ⟨22,[.one (.ptr 0 0)],[.cells [.d (.bool),zqu,zqi,.d (.sl (.st 4)),.mp 1,.mp 2,.mp 3],.map (.str) yqi,.map (.str) (.sl yqu),.map (.str) (.bool)],(.one (.one (.d (.bool)))),[.cells [.d (.bool),zqu,zqi,.d (.sl (.st 4)),.mp 1,.mp 2,.mp 3],.map (.str) yqi,.map (.str) (.sl yqu),.map (.str) (.bool)],false⟩ [.bool,yqu,yqi,.sl (.st 4),.sl (.str),.sl yqi,.sl (.str),.sl (.sl yqu),.sl (.str),.sl (.bool)] [.bool,.bool,yqu,yqi,.sl (.st 4),.sl (.str),.sl yqi,.sl (.str),.sl (.sl yqu),.sl (.str),.sl (.bool)] [] fun(Af:Bool) (Ad Ah:Int) (Ag:List wF) (w1k:List ByteArray) (w1v:List Int) (w2k:List ByteArray) (w2v:List (List Int)) (w3k:List ByteArray) (w3v:List Bool)=>(Af,Af,Ad,Ah,Ag,w1k,w1v,w2k,w2v,w3k,w3v,())
theorem k2s:k69.Ok Tryz.prog TB:=ptv Bs Tryz.func22 .no c0 (Q:=∀(Af:Bool) (Ad Ah:Int) (Ag:List wF) (w1k:List ByteArray) (w1v:List Int) (w2k:List ByteArray) (w2v:List (List Int)) (w3k:List ByteArray) (w3v:List Bool),∀r0:Bool,Af=r0->∀As:Bool,Af=As->∀Ap:Int,Ad=Ap->∀At:Int,Ah=At->∀Aq:List wF,Ag=Aq->∀e1k:List ByteArray,w1k=e1k->∀e1v:List Int,w1v=e1v->∀e2k:List ByteArray,w2k=e2k->∀e2v:List (List Int),w2v=e2v->∀e3k:List ByteArray,w3k=e3k->∀e3v:List Bool,w3v=e3v-> 
Af=r0/\Af=As/\Ad=Ap/\Ah=At/\Ag=Aq/\w1k=e1k/\w1v=e1v/\w2k=e2k/\w2v=e2v/\w3k=e3k/\w3v=e3v) (by kernel_rfl)<|by
 rintro Af Ad Ah Ag w1k w1v w2k w2v w3k w3v _ rfl _ rfl _ rfl _ rfl _ rfl _ rfl _ rfl _ rfl _ rfl _ rfl _ rfl
 exact(by repeat' first|apply And.intro|exact rfl|exact True.intro)
noncomputable def kea:Con TB.den:= .g ⟨147,[.one (.ptr 0 0),.one (zqu)],[.cells [.mp 1],.map yqu (.bool)],(.one (.one (.d (.bool)))),[.cells [.mp 1],.map yqu (.bool)],false⟩ [yqu,.sl yqu,.sl (.bool)] [.bool,.sl yqu,.sl (.bool)] [] fun(p1:Int) (w1k:List Int) (w1v:List Bool)=>(w1v=trs w1k,(decide (p1∈w1k):Bool),w1k,w1v,())
theorem kez:kea.Ok Tryz.prog TB:=prv Bs Tryz.func147 .no c0 (Q:=∀(p1:Int) (w1k:List Int) (w1v:List Bool),(w1v=trs w1k)->∀r0:Bool,(decide (p1∈w1k))=r0->∀e1k:List Int,w1k=e1k->∀e1v:List Bool,w1v=e1v-> 
w1k.length=w1v.length/\let v1:Bool:=mVal (BEq.beq p1) w1k w1v false
v1=r0/\w1k=e1k/\w1v=e1v) (by kernel_rfl)<|by
 rintro p1 w1k w1v h _ rfl _ rfl _ rfl
 subst h
 exact⟨by simp[trs],sVal _ _,rfl,rfl⟩
noncomputable def k71:Con TB.den:= .g ⟨146,[.one (.ptr 0 0)],[.cells [zqi,zqi,zqi,zqi,zqi,zqu,zqi,zqi,zqu,zqi,zqi,zql,.row 1,.ptr 2 0,.d (.sl (.st 9)),zqu,.row 3,.row 4],.vec yqu,.cells [.mp 5],.vec yqu,.vec (.st 10),.map yqu (.bool)],(.one (.one (.view 3))),[.cells [zqi,zqi,zqi,zqi,zqi,zqu,zqi,zqi,zqu,zqi,zqi,zql,.row 1,.ptr 2 0,.d (.sl (.st 9)),zqu,.row 3,.row 4],.vec yqu,.cells [.mp 5],.vec yqu,.vec (.st 10),.map yqu (.bool)],false⟩ [yqi,yqi,yqi,yqi,yqi,yqu,yqi,yqi,yqu,yqi,yqi,.sl yqu,.sl (.st 9),yqu,.sl yqu,.sl yqu,.sl (.st 10),.sl yqu,.sl (.bool)] [yqi,yqi,yqi,yqi,yqi,yqi,yqi,yqu,yqi,yqi,yqu,yqi,yqi,.sl yqu,.sl (.st 9),yqu,.sl yqu,.sl yqu,.sl (.st 10),.sl yqu,.sl (.bool)] [] fun(Af Ad Ah Ag Ak Ao Ai Al Am Aj Ab:Int) (Ac:List Int) (Aa:List wA) (Ae:Int) (w1 w3:List Int) (w4:List wO) (w5k:List Int) (w5v:List Bool)=>((1<=Ai/\Ai<=100)/\w3.length<=1000000,(((w3.length-Ai.toNat:Nat):Int):Int),(((w3.length-(w3.length-Ai.toNat):Nat):Int):Int),Af,Ad,Ah,Ag,Ak,Ao,Ai,Al,Am,Aj,Ab,Ac,Aa,Ae,w1,w3,w4,w5k,w5v,())
theorem k85:k71.Ok Tryz.prog TB:=prv Bs Tryz.func146 .no c0 (Q:=∀(Af Ad Ah Ag Ak Ao Ai Al Am Aj Ab:Int) (Ac:List Int) (Aa:List wA) (Ae:Int) (w1 w3:List Int) (w4:List wO) (w5k:List Int) (w5v:List Bool),((1<=Ai/\Ai<=100)/\w3.length<=1000000)->∀r0o:Int,((w3.length-Ai.toNat:Nat):Int)=r0o->∀r0n:Int,((w3.length-(w3.length-Ai.toNat):Nat):Int)=r0n->∀As:Int,Af=As->∀Ap:Int,Ad=Ap->∀At:Int,Ah=At->∀Aq:Int,Ag=Aq->∀Az:Int,Ak=Az->∀A8:Int,Ao=A8->∀A0:Int,Ai=A0->∀A1:Int,Al=A1->∀A3:Int,Am=A3->∀A4:Int,Aj=A4->∀Au:Int,Ab=Au->∀Av:List Int,Ac=Av->∀Aw:List wA,Aa=Aw->∀Ax:Int,Ae=Ax->∀e1:List Int,w1=e1->∀e3:List Int,w3=e3->∀e4:List wO,w4=e4->∀e5k:List Int,w5k=e5k->∀e5v:List Bool,w5v=e5v-> 
let v1:Int:=i64.wrap ((w3.length:Int)-(if 0<Ai then Ai else 0))
(0<=(if 0<v1 then v1 else 0))/\(if 0<v1 then v1 else 0)<=(w3.length:Int)/\(w4.length=w4.length)/\(w3.length=w3.length)/\(w1.length=w1.length)/\(((if 0<v1 then v1 else 0).toNat:Nat):Int)=r0o/\((w3.length-(if 0<v1 then v1 else 0).toNat:Nat):Int)=r0n/\Af=As/\Ad=Ap/\Ah=At/\Ag=Aq/\Ak=Az/\Ao=A8/\Ai=A0/\Al=A1/\Am=A3/\Aj=A4/\Ab=Au/\Ac=Av/\Aa=Aw/\Ae=Ax/\w1=e1/\w3=e3/\w4=e4/\w5k=e5k/\w5v=e5v) (by kernel_rfl)<|by
 rintro Af Ad Ah Ag Ak Ao Ai Al Am Aj Ab Ac Aa Ae w1 w3 w4 w5k w5v h _ rfl _ rfl _ rfl _ rfl _ rfl _ rfl _ rfl _ rfl _ rfl _ rfl _ rfl _ rfl _ rfl _ rfl _ rfl _ rfl _ rfl _ rfl _ rfl _ rfl _ rfl
 obtain⟨⟨h1,h2⟩,h3⟩:=h
 refine ?_
 intro v1
 have hv:v1=(w3.length:Int)-Ai:=by
  show i64.wrap _=_
  rw[if_pos (show 0<Ai by omega),kp _ (by omega) (by omega)]
 have e:(if 0<v1 then v1 else 0)=((w3.length-Ai.toNat:Nat):Int):=by
  rw[hv]
  split<;>omega
 rw[e,Int.toNat_natCast]
 exact⟨by omega,by omega,rfl,rfl,rfl,rfl,rfl,rfl,rfl,rfl,rfl,rfl,rfl,rfl,rfl,rfl,rfl,rfl,rfl,rfl,rfl,rfl,rfl,rfl,rfl,rfl⟩
noncomputable def kbk:Con TB.den:= .tp 236 [yqu] [.bool] [] fun(p0:Int)=>(false,())
theorem kd5:kbk.Ok Tryz.prog TB:=qtv Bs Tryz.func236 .no c0 (Q:=∀(p0:Int),∀r0:Bool,(false:Bool)=r0-> 
(p0 !=p0)=r0) (by kernel_rfl)<|by
 rintro p0 _ rfl
 exact(by simp)
noncomputable def k9d:Con TB.den:= .tp 226 [yqu,yqu] [yqi] [] fun(p0 p1:Int)=>((cmp3 p0 p1:Int),())
theorem ka6:k9d.Ok Tryz.prog TB:=qtv Bs Tryz.func226 .no (kd5.c c0) (Q:=∀(p0 p1:Int),∀r0:Int,cmp3 p0 p1=r0-> 
(false=true->
(false=true->
0=r0)/\
(false=false->
(-1)=r0))/\
(false=false->
(false=true->
1=r0)/\
(false=false->
(decide (p0<p1)=true->
(-1)=r0)/\
(decide (p0<p1)=false->
(decide (p1<p0)=true->
1=r0)/\
(decide (p1<p0)=false->
0=r0))))) (by kernel_rfl)<|by
 rintro p0 p1 _ rfl
 refine⟨fun e=>(by cases e),fun _=>⟨fun e=>(by cases e),fun _=> ?_⟩⟩
 simp only[decide_eq_true_eq,decide_eq_false_iff_not]
 unfold cmp3
 exact⟨fun h=>by simp[h],fun h=>⟨fun h2=>by simp[h,h2],fun h2=>by simp[h,h2]⟩⟩
noncomputable def k30:Con TB.den:= .tp 225 [.st 9,yqu] [yqi] [] fun(p0:wA) (p1:Int)=>((cmp3 p0.ID p1:Int),())
theorem k36:k30.Ok Tryz.prog TB:=qtv Bs Tryz.func225 .no (ka6.c c0) (Q:=∀(p0:wA) (p1:Int),∀r0:Int,cmp3 p0.ID p1=r0-> 
(cmp3 p0.ID p1)=r0) (by kernel_rfl)<|by
 rintro p0 p1 _ rfl
 exact rfl
noncomputable def k2o:Con TB.den:= .g ⟨224,[.one (.d (.sl (.st 9))),.one (zqu),.one (.k (.fn 225))],[],(.tup [.one (zqi),.one (.d (.bool))]),[],false⟩ [.sl (.st 9),yqu] [yqi,.bool] [] fun(p0:List wA) (p1:Int)=>(Srt p0/\p0.length<4611686018427387904,((lb p0 p1:Int):Int),(fnd p0 p1:Bool),())
theorem k2r:k2o.Ok Tryz.prog TB:=prv Bs Tryz.func224 (.r 2 (.nd [] (.lp [] ⟨[],[],[9,10],[.one (zqi),.one (zqi)],[]⟩ .no) [] .no)) (k36.c c0) (Q:=∀(p0:List wA) (p1:Int),(Srt p0/\p0.length<4611686018427387904)->∀r0:Int,(lb p0 p1:Int)=r0->∀r1:Bool,fnd p0 p1=r1-> 
∃(I1:Int->Int->Prop) (M1:Int->Int->Nat),I1 0 (p0.length:Int)/\∀(b1 f1:Int),(I1 b1 f1->
(decide (b1<f1)=true->
let v2:Int:=u64.wrap (i64.wrap (b1+f1))
(0<=i64.wrap (ishr .u64 v2 1))/\i64.wrap (ishr .u64 v2 1)<(p0.length:Int)/\let r3:Int:=(cmp3 (ix p0 (i64.wrap (ishr .u64 v2 1))).ID p1)
(decide (r3<0)=true->
let v4:Int:=i64.wrap ((i64.wrap (ishr .u64 v2 1))+1)
I1 v4 f1/\M1 v4 f1<M1 b1 f1)/\
(decide (r3<0)=false->
I1 b1 (i64.wrap (ishr .u64 v2 1))/\M1 b1 (i64.wrap (ishr .u64 v2 1))<M1 b1 f1))/\
(decide (b1<f1)=false->
(decide (b1<(p0.length:Int))=true->
(0<=b1)/\b1<(p0.length:Int)/\b1=r0/\((cmp3 (ix p0 b1).ID p1)==0)=r1)/\
(decide (b1<(p0.length:Int))=false->
b1=r0/\false=r1)))) (by kernel_rfl)<|by
 rintro p0 p1 h _ rfl _ rfl
 obtain⟨hs,hl⟩:=h
 refine(⟨(fun a b=>∃i j:Nat,a=(i:Int)/\b=(j:Int)/\i<=j/\j<=p0.length/\(∀k (h:k<p0.length),k<i->p0[k].ID<p1)/\(∀k (h:k<p0.length),j<=k->p1<=p0[k].ID)),(fun a b=>(b-a).toNat),⟨0,p0.length,rfl,rfl,by omega,by omega,fun k h hk=>by omega,fun k h hk=>by omega⟩,?_⟩)
 rintro _ _ ⟨i,j,rfl,rfl,hij,hj,h1,h2⟩
 refine⟨fun hlt=> ?_,fun hlt=> ?_⟩
 ·have hlt' :i<j:=by have:=of_decide_eq_true hlt;omega
  intro v2
  have e:i64.wrap (ishr .u64 v2 1)=(((i+j)/2:Nat):Int):=mid_eq i j (by omega)
  rw[e]
  have hm:(i+j)/2<p0.length:=by omega
  rw[ix_get _ _ hm]
  refine⟨by omega,by omega,fun hc=> ?_,fun hc=> ?_⟩
  ·have hc:=cmp3_lt.1 (of_decide_eq_true hc)
   refine⟨⟨(i+j)/2+1,j,inc_i64 _ (by omega),rfl,by omega,hj,fun k h hk=> ?_,h2⟩,?_⟩
   ·rcases Nat.lt_or_ge k ((i+j)/2)with h5|h5
    ·have:=hs _ _ h5 hm;omega
    ·have:k=(i+j)/2:=by omega
     subst this;exact hc
   ·rw[inc_i64 _ (by omega)];(dsimp only;omega)
  ·have hc:¬p0[(i+j)/2].ID<p1:=fun hh=>of_decide_eq_false hc (cmp3_lt.2 hh)
   refine⟨⟨i,(i+j)/2,rfl,rfl,by omega,by omega,h1,fun k h hk=> ?_⟩,by(dsimp only;omega)⟩
   rcases Nat.lt_or_ge ((i+j)/2) k with h5|h5
   ·have:=hs _ _ h5 h;omega
   ·have:k=(i+j)/2:=by omega
    subst this;omega
 ·have hij' :i=j:=by have:=of_decide_eq_false hlt;omega
  subst hij'
  have hb:lb p0 p1=i:=lb_eq p0 p1 i hj h1 (fun h=>h2 i h (by omega))
  refine⟨fun hi=> ?_,fun hi=> ?_⟩
  ·have hi:i<p0.length:=by have:=of_decide_eq_true hi;omega
   refine⟨by omega,by omega,by rw[hb],?_⟩
   unfold fnd
   rw[hb,ix_get _ _ hi,List.getElem?_eq_getElem hi]
   show((cmp3 p0[i].ID p1)==0)=decide (p0[i].ID=p1)
   rw[Bool.eq_iff_iff]
   simp[cmp3_eq]
  ·have hi:¬i<p0.length:=by have:=of_decide_eq_false hi;omega
   refine⟨by rw[hb],?_⟩
   unfold fnd
   rw[hb,List.getElem?_eq_none (by omega)]
noncomputable def k97:Con TB.den:= .gp 195 [.st 15,yqu] [yqi,.bool] [] fun(p0:wY) (p1:Int)=>(Srt p0.wB/\p0.wB.length<4611686018427387904,((lb p0.wB p1:Int):Int),(fnd p0.wB p1:Bool),())
theorem k49:k97.Ok Tryz.prog TB:=qrv Bs Tryz.func195 .no (k2r.c c0) (Q:=∀(p0:wY) (p1:Int),(Srt p0.wB/\p0.wB.length<4611686018427387904)->∀r0:Int,(lb p0.wB p1:Int)=r0->∀r1:Bool,fnd p0.wB p1=r1-> 
(Srt p0.wB/\p0.wB.length<4611686018427387904)/\(lb p0.wB p1:Int)=r0/\(fnd p0.wB p1)=r1) (by kernel_rfl)<|by
 rintro p0 p1 h _ rfl _ rfl
 exact⟨h,rfl,rfl⟩
noncomputable def ka5:Con TB.den:= .bp 151 [.st 15,yqu] [yqu,yqu] fun(p0:wY) (p1:Int)=>(Srt p0.wB/\p0.wB.length<4611686018427387904,getA p0.wB p1,fun R=>(R.wT,R.wc,()))
theorem k5k:ka5.Ok Tryz.prog TB:=qbv Bs Tryz.func151 .no (k49.c c0) (Q:=∀(p0:wY) (p1:Int),(Srt p0.wB/\p0.wB.length<4611686018427387904)->∀R,getA p0.wB p1=R-> 
(Srt p0.wB/\p0.wB.length<4611686018427387904)/\((!(fnd p0.wB p1))=true->
0=R.wT/\0=R.wc)/\
((!(fnd p0.wB p1))=false->
(0<=(lb p0.wB p1:Int))/\(lb p0.wB p1:Int)<(p0.wB.length:Int)/\let v2:Int:=(ix p0.wB (lb p0.wB p1:Int)).wT
(0<=(lb p0.wB p1:Int))/\(lb p0.wB p1:Int)<(p0.wB.length:Int)/\let v3:Int:=(ix p0.wB (lb p0.wB p1:Int)).wc
v2=R.wT/\v3=R.wc)) (by kernel_rfl)<|by
 rintro p0 p1 h R hR
 subst hR
 refine⟨h,fun hh=> ?_,fun hh=> ?_⟩
 ·have hf:fnd p0.wB p1=false:=by simpa using hh
  rw[getA_no h.1 hf]
  exact⟨rfl,rfl⟩
 ·have hf:fnd p0.wB p1=true:=by simpa using hh
  obtain⟨hb,_⟩:=k3c hf
  rw[getA_of h.1 hf hb,ix_get _ _ hb]
  exact⟨by omega,by omega,by omega,by omega,rfl,rfl⟩
noncomputable def k2q:Con TB.den:= .g ⟨71,[.one (.d (.sl (.st 9)))],[],(.one (.one (.own 0))),[.tip (.st 9)],false⟩ [.sl (.st 9)] [.sl (.st 9)] [] fun(p0:List wA)=>(p0.length<=100000,p0,())
theorem k2x:k2q.Ok Tryz.prog TB:=prv Bs Tryz.func71 (.r 0 (.nd [] (.r 0 (.nd [] (.r 0 (.rt [.tok 2 (.st 9)])) [] .no)) [] .no)) c0 (Q:=∀(p0:List wA),(p0.length<=100000)->∀e0:List wA,p0=e0-> 
∀z4:Bool,(z4=true->p0=[])->(z4=true->
(([]:List wA)=([]:List wA))/\([]:List wA)=e0)/\
(z4=false->
(([]:List wA).length+p0.length)*24<=140737488355328/\([]:List wA).length+p0.length<=maxLen/\(([]:List wA)++p0=([]:List wA)++p0)/\([]:List wA)++p0=e0)) (by kernel_rfl)<|by
 rintro p0 h _ rfl
 exact fun z hz=>⟨fun h=>⟨rfl,(hz h).symm⟩,fun _=>⟨by simp;omega,by simp;unfold maxLen;omega,rfl,rfl⟩⟩
noncomputable def ka1:Con TB.den:= .gp 153 [.st 15,.st 9] [.st 15] [] fun(p0:wY) (p1:wA)=>(Srt p0.wB/\p0.wB.length<=1000,(wY.mk (putA p0.wB p1):wY),())
theorem k5n:ka1.Ok Tryz.prog TB:=qrv Bs Tryz.func153 (.r 2 (.jn ⟨[3],[.tip (.st 9)],[7],[.one (.own 0)],[]⟩ [] (.jn ⟨[],[],[27],[.one (.d (.bool))],[]⟩ [] .no [] .no) [] (.jn ⟨[],[],[5],[.one (zqi)],[]⟩ [] .no [] .no))) (k49.c (k2x.c c0)) (Q:=∀(p0:wY) (p1:wA),(Srt p0.wB/\p0.wB.length<=1000)->∀r0:wY,(wY.mk (putA p0.wB p1))=r0-> 
(Srt p0.wB/\p0.wB.length<4611686018427387904)/\(0<=(lb p0.wB p1.ID:Int))/\(lb p0.wB p1.ID:Int)<=(p0.wB.length:Int)/\let v1:List wA:=p0.wB.take (lb p0.wB p1.ID:Int).toNat
(v1.length<=100000)/\∀J1:(List wA)->Prop,(∀(b1:List wA),
(∀J3:Int->Prop,(∀(i1:Int),
((0<=i1)/\i1<=(p0.wB.length:Int)/\b1.length=b1.length/\(b1.length+(p0.wB.drop i1.toNat).length)*24<=140737488355328/\b1.length+(p0.wB.drop i1.toNat).length<=maxLen/\b1++(p0.wB.drop i1.toNat)=r0.wB)->J3 i1)->
((fnd p0.wB p1.ID)=true->
let v2:Int:=i64.wrap ((lb p0.wB p1.ID:Int)+1)
J3 v2)/\
((fnd p0.wB p1.ID)=false->
J3 (lb p0.wB p1.ID:Int)))->J1 b1)->
∀J2:Bool->Prop,(∀(f1:Bool),
((f1=true->
v1.length=v1.length/\(v1.length+[p1].length)*24<=140737488355328/\v1.length+[p1].length<=maxLen/\(v1++[p1]=v1++[p1])/\J1 (v1++[p1]))/\
(f1=false->
(v1=v1)/\J1 v1))->J2 f1)->
((p1.wT !=0)=true->
J2 true)/\
((p1.wT !=0)=false->
J2 (p1.wc !=0))) (by kernel_rfl)<|by
 rintro p0 p1 h _ rfl
 obtain⟨hs,hl⟩:=h
 have hlb:=lb_le p0.wB p1.ID
 refine⟨⟨hs,by omega⟩,by omega,by omega,?_⟩
 simp only[Int.toNat_natCast]
 refine⟨by simp;omega,fun J1 j1=> ?_⟩
 have hJ1:∀m:List wA,m=p0.wB.take (lb p0.wB p1.ID)++(if p1.wT≠0∨p1.wc≠0 then [p1]else [])->J1 m:=by
  intro m hm
  have hml:m.length<=1001:=by
   rw[hm];simp only[List.length_append,List.length_take];split<;>simp<;>omega
  refine j1 _ fun J3 j3=> ?_
  have hJ3:∀n:Nat,n<=p0.wB.length->m++p0.wB.drop n=putA p0.wB p1->J3 (n:Int):=by
   intro n hn he
   have:=(List.length_drop:(p0.wB.drop n).length=_)
   refine j3 _ ⟨by omega,by omega,by first|exact rfl|exact True.intro,?_,?_,?_⟩
   ·simp only[Int.toNat_natCast];omega
   ·simp only[Int.toNat_natCast];unfold maxLen;omega
   ·simp only[Int.toNat_natCast];exact he
  refine⟨fun hf=> ?_,fun hf=> ?_⟩
  ·obtain⟨hb,_⟩:=k3c hf
   rw[inc_i64 _ (by omega)]
   refine hJ3 _ (by omega) ?_
   rw[hm]
   unfold putA
   rw[hf]
   rfl
  ·refine hJ3 _ (by omega) ?_
   rw[hm]
   unfold putA
   rw[hf]
   rfl
 intro J2 j2
 have hJ2:∀b:Bool,(b=true↔(p1.wT≠0∨p1.wc≠0))->J2 b:=by
  intro b hb
  refine j2 _ ⟨fun e=> ?_,fun e=> ?_⟩
  ·have hlt:(p0.wB.take (lb p0.wB p1.ID)).length<=1000:=by rw[List.length_take];omega
   refine⟨by first|exact rfl|exact True.intro,(len24 _ _ (Nat.le_trans hlt (by decide))).1,(len24 _ _ (Nat.le_trans hlt (by decide))).2,by first|exact rfl|exact True.intro,hJ1 _ ?_⟩
   rw[if_pos (hb.1 e)]
  ·refine⟨by first|exact rfl|exact True.intro,hJ1 _ ?_⟩
   rw[if_neg (fun hh=>by rw[hb.2 hh]at e;cases e)]
   exact(List.append_nil _).symm
 refine⟨fun e=>hJ2 _ ?_,fun e=>hJ2 _ ?_⟩
 ·have:p1.wT≠0:=by simpa using e
  simp[this]
 ·have:p1.wT=0:=by simpa using e
  simp[this]
noncomputable def k8t:Con TB.den:= .gp 148 [.st 15,yqu,yqu,yqu] [.st 15,yqi] [] fun(p0:wY) (p1 p2 p3:Int)=>(OkA p0.wB/\U64 p2/\U64 p3,(wY.mk (debitA p0.wB p1 p2 p3).1:wY),((debitA p0.wB p1 p2 p3).2:Int),())
theorem k3q:k8t.Ok Tryz.prog TB:=qrv Bs Tryz.func148 (.r 2 (.nd [] (.jn ⟨[],[],[27],[.one (.d (.bool))],[]⟩ [] .no [] .no) [] .no)) (k5k.c (k5n.c c0)) (Q:=∀(p0:wY) (p1 p2 p3:Int),(OkA p0.wB/\U64 p2/\U64 p3)->∀r0:wY,(wY.mk (debitA p0.wB p1 p2 p3).1)=r0->∀r1:Int,((debitA p0.wB p1 p2 p3).2)=r1-> 
(Srt p0.wB/\p0.wB.length<4611686018427387904)/\((p2==0)=true->
([]:List wA)=r0.wB/\1=r1)/\
((p2==0)=false->
∀J1:Bool->Prop,(∀(b1:Bool),
((b1=true->
([]:List wA)=r0.wB/\20=r1)/\
(b1=false->
let v2:Bool:=decide (((getA p0.wB p1).wT)<p2)
(v2=true->
([]:List wA)=r0.wB/\15=r1)/\
(v2=false->
let v3:Int:=u64.wrap (((getA p0.wB p1).wT)-p2)
(Srt p0.wB/\p0.wB.length<=1000)/\let r4:List wA:=(putA p0.wB (wA.mk p1 v3 (u64.wrap (p3+1))))
r4=r0.wB/\0=r1)))->J1 b1)->
((p3 !=((getA p0.wB p1).wc))=true->
J1 true)/\
((p3 !=((getA p0.wB p1).wc))=false->
J1 (p3==18446744073709551615)))) (by kernel_rfl)<|by
 rintro p0 p1 p2 p3 h _ rfl _ rfl
 obtain⟨h,⟨ha,ha'⟩,hn,hn'⟩:=h
 obtain⟨g1,g2⟩:=getA_ok h p1
 refine⟨⟨h.1,by have:=h.2.1;omega⟩,fun hh=> ?_,fun hh J1 j=> ?_⟩
 ·have:p2=0:=by simpa using hh
  simp[debitA,this]
 have h0:p2≠0:=by simpa using hh
 have key:∀b:Bool,(b=true↔(p3≠(getA p0.wB p1).wc∨p3=18446744073709551615))->J1 b:=by
  intro b hb
  refine j _ ⟨fun e=> ?_,fun e=> ?_⟩
  ·simp only[debitA,if_neg h0,if_pos (hb.1 e)]
   exact⟨by first|exact rfl|exact True.intro,by first|exact rfl|exact True.intro⟩
  ·have h1:¬(p3≠(getA p0.wB p1).wc∨p3=18446744073709551615):=fun hh=>by rw[hb.2 hh]at e;cases e
   simp only[debitA,if_neg h0,if_neg h1]
   refine⟨fun hh=> ?_,fun hh=> ?_⟩
   ·have:=of_decide_eq_true hh
    simp[this]
   ·have h2:=of_decide_eq_false hh
    simp only[if_neg h2]
    have:p3≠18446744073709551615:=fun e=>h1 (.inr e)
    rw[wrap_u64 _ (by omega) (by omega),wrap_u64 (p3+1) (by omega) (by omega)]
    exact⟨⟨h.1,h.2.1⟩,rfl,by first|exact rfl|exact True.intro⟩
 refine⟨fun e=>key _ ?_,fun e=>key _ ?_⟩
 ·have:p3≠(getA p0.wB p1).wc:=by simpa using e
  simp[this]
 ·have:p3=(getA p0.wB p1).wc:=by simpa using e
  rw[this];simp
noncomputable def k6i:Con TB.den:= .g ⟨51,[.one (.view 0),.one (zqu)],[.vec yqu],(.one (.one (zqi))),[.vec yqu],false⟩ [yqi,yqi,yqu,.sl yqu] [yqi,.sl yqu] [] fun(p0o p0n p1:Int) (w0:List Int)=>(0<=p0o/\0<=p0n/\p0o.toNat+p0n.toNat<=w0.length/\w0.length<=1000000,(idxI ((w0.drop p0o.toNat).take p0n.toNat) p1:Int),w0,())
theorem k6r:k6i.Ok Tryz.prog TB:=prv Bs Tryz.func51 (.r 0 (.nd [] (.r 0 (.lp [] ⟨[],[],[8],[.one (zqi)],[]⟩ .no)) [] .no)) c0 (Q:=∀(p0o p0n p1:Int) (w0:List Int),(0<=p0o/\0<=p0n/\p0o.toNat+p0n.toNat<=w0.length/\w0.length<=1000000)->∀r0:Int,(idxI ((w0.drop p0o.toNat).take p0n.toNat) p1)=r0->∀e0:List Int,w0=e0-> 
∃(I1:Int->Prop) (M1:Int->Nat),I1 0/\∀(b1:Int),(I1 b1->
(decide (b1<(p0n.toNat:Int))=true->
(0<=b1/\b1<(p0n.toNat:Int))/\(0<=((p0o.toNat:Int)+b1)/\((p0o.toNat:Int)+b1)<(w0.length:Int))/\((p1==(ix w0 ((p0o.toNat:Int)+b1)))=true->
b1=r0/\w0=e0)/\
((p1==(ix w0 ((p0o.toNat:Int)+b1)))=false->
I1 (i64.wrap (b1+1))/\M1 (i64.wrap (b1+1))<M1 b1))/\
(decide (b1<(p0n.toNat:Int))=false->
(-1)=r0/\w0=e0))) (by kernel_rfl)<|by
 rintro p0o p0n p1 w0 h _ rfl _ rfl
 obtain⟨h0,h1,h2,h3⟩:=h
 obtain⟨o,rfl⟩:=Int.eq_ofNat_of_zero_le h0
 obtain⟨n,rfl⟩:=Int.eq_ofNat_of_zero_le h1
 simp only[Int.toNat_natCast]at h2 ⊢
 have hl:((w0.drop o).take n).length=n:=by simp;omega
 refine⟨(fun c=>∃i:Nat,c=(i:Int)/\i<=n/\p1∉((w0.drop o).take n).take i),(fun c=>(n-c).toNat),⟨0,rfl,by omega,by simp⟩,?_⟩
 rintro _ ⟨i,rfl,hi,hm⟩
 refine⟨fun e=> ?_,fun e=> ?_⟩
 ·have e:i<n:=by have:=of_decide_eq_true e;omega
  have hw:o+i<w0.length:=by omega
  have hg:((w0.drop o).take n)[i]'(by omega)=w0[o+i]:=by simp
  have hx:ix w0 ((o:Int)+(i:Int))=w0[o+i]:=by rw[show(o:Int)+(i:Int)=((o+i:Nat):Int)by omega,ix_get _ _ hw]
  rw[hx]
  refine⟨by omega,by omega,fun e2=> ?_,fun e2=> ?_⟩
  ·have e2:p1=w0[o+i]:=by simpa using e2
   unfold idxI
   rw[if_pos (by rw[e2,<-hg];exact List.getElem_mem _)]
   have:((w0.drop o).take n).idxOf p1=i:=by
    conv=>lhs;rw[<-List.take_append_drop i ((w0.drop o).take n)]
    rw[List.idxOf_append,if_neg hm,List.drop_eq_getElem_cons (show i<((w0.drop o).take n).length by omega),hg,<-e2,List.idxOf_cons_self,List.length_take]
    omega
   rw[this]
   exact⟨rfl,trivial⟩
  ·have e2:¬p1=w0[o+i]:=by simpa using e2
   rw[inc_i64 _ (by omega)]
   refine⟨⟨i+1,rfl,by omega,?_⟩,by(dsimp only;omega)⟩
   rw[List.take_succ_eq_append_getElem (show i<((w0.drop o).take n).length by omega),hg]
   simp only[List.mem_append,List.mem_singleton]
   exact fun hh=>hh.elim hm e2
 ·have e:i=n:=by have:=of_decide_eq_false e;omega
  rw[List.take_of_length_le (by omega)]at hm
  unfold idxI
  rw[if_neg hm]
  exact⟨rfl,trivial⟩
noncomputable def k4c:Con TB.den:= .g ⟨31,[.one (.view 0),.one (zqu)],[.vec yqu],(.one (.one (.d (.bool)))),[.vec yqu],false⟩ [yqi,yqi,yqu,.sl yqu] [.bool,.sl yqu] [] fun(p0o p0n p1:Int) (w0:List Int)=>(0<=p0o/\0<=p0n/\p0o.toNat+p0n.toNat<=w0.length/\w0.length<=1000000,(decide (p1∈(w0.drop p0o.toNat).take p0n.toNat):Bool),w0,())
theorem k5f:k4c.Ok Tryz.prog TB:=prv Bs Tryz.func31 .no (k6r.c c0) (Q:=∀(p0o p0n p1:Int) (w0:List Int),(0<=p0o/\0<=p0n/\p0o.toNat+p0n.toNat<=w0.length/\w0.length<=1000000)->∀r0:Bool,(decide (p1∈(w0.drop p0o.toNat).take p0n.toNat))=r0->∀e0:List Int,w0=e0-> 
(0<=(p0o.toNat:Int)/\0<=(p0n.toNat:Int)/\(p0o.toNat:Int).toNat+(p0n.toNat:Int).toNat<=w0.length/\w0.length<=1000000)/\let r1:Int:=(idxI ((w0.drop (p0o.toNat:Int).toNat).take (p0n.toNat:Int).toNat) p1)
decide (0<=r1)=r0/\w0=e0) (by kernel_rfl)<|by
 rintro p0o p0n p1 w0 h _ rfl _ rfl
 have h' :=h
 obtain⟨h0,h1,h2,h3⟩:=h
 obtain⟨o,rfl⟩:=Int.eq_ofNat_of_zero_le h0
 obtain⟨n,rfl⟩:=Int.eq_ofNat_of_zero_le h1
 refine⟨h',?_,rfl⟩
 simp only[Int.toNat_natCast]
 unfold idxI
 by_cases hm:p1∈(w0.drop o).take n
 ·simp[hm]
 ·simp[hm]
noncomputable def k5p:Con TB.den:= .tp 194 [.st 2] [.bool] [] fun(p0:wx)=>((vAmounts p0:Bool),())
theorem k6o:k5p.Ok Tryz.prog TB:=qtv Bs Tryz.func194 .no c0 (Q:=∀(p0:wx),∀r0:Bool,vAmounts p0=r0-> 
(decide (4294967295<p0.wP)=true->
false=r0)/\
(decide (4294967295<p0.wP)=false->
(decide (4294967295<p0.wd)=true->
false=r0)/\
(decide (4294967295<p0.wd)=false->
(decide (4294967295<p0.Fee)=true->
false=r0)/\
(decide (4294967295<p0.Fee)=false->
let v1:Bool:=decide (18446744069414584321<=p0.wo)
(v1=true->
false=r0)/\
(v1=false->
(decide (18446744069414584321<=p0.wc)=true->
false=r0)/\
(decide (18446744069414584321<=p0.wc)=false->
(decide (0<p0.wP)=true->
(p0.wd==0)=r0)/\
(decide (0<p0.wP)=false->
(((p0.wK.length:Int)==0)=true->
false=r0)/\
(((p0.wK.length:Int)==0)=false->
((p0.wc !=0)=true->
false=r0)/\
((p0.wc !=0)=false->
(decide (0<p0.wd)=true->
true=r0)/\
(decide (0<p0.wd)=false->
(p0.wo==0)=r0)))))))))) (by kernel_rfl)<|by
 rintro p0 _ rfl
 refine ?_
 unfold vAmounts
 try simp only[]
 repeat' (apply And.intro<;>intro h)
 all_goals simp only[decide_eq_true_eq,decide_eq_false_iff_not,beq_iff_eq,bne_iff_ne,Bool.not_eq_true,beq_eq_false_iff_ne,bne_eq_false_iff_eq,List.isEmpty_iff,Int.natCast_eq_zero,List.length_eq_zero_iff]at *
 all_goals simp[*]
 all_goals grind
noncomputable def k7z:Con TB.den:= .gp 51 [.sl yqu,yqu] [yqi] [] fun(p0:List Int) (p1:Int)=>(p0.length<=9223372036854775807,(idxI p0 p1:Int),())
theorem k9k:k7z.Ok Tryz.prog TB:=qrv Bs Tryz.func51 (.r 0 (.nd [] (.r 0 (.lp [] ⟨[],[],[8],[.one (zqi)],[]⟩ .no)) [] .no)) c0 (Q:=∀(p0:List Int) (p1:Int),(p0.length<=9223372036854775807)->∀r0:Int,idxI p0 p1=r0-> 
∃(I1:Int->Prop) (M1:Int->Nat),I1 0/\∀(b1:Int),(I1 b1->
(decide (b1<(p0.length:Int))=true->
(0<=b1)/\b1<(p0.length:Int)/\((p1==(ix p0 b1))=true->
b1=r0)/\
((p1==(ix p0 b1))=false->
I1 (i64.wrap (b1+1))/\M1 (i64.wrap (b1+1))<M1 b1))/\
(decide (b1<(p0.length:Int))=false->
(-1)=r0))) (by kernel_rfl)<|by
 rintro p0 p1 h _ rfl
 refine(⟨(fun i=>0<=i/\i<=p0.length/\p1∉p0.take i.toNat),(fun i=>(p0.length-i).toNat),⟨by omega,by omega,by simp⟩,?_⟩)
 rintro i ⟨g0,g1,g2⟩
 refine⟨fun h=> ?_,fun h=> ?_⟩
 ·have h:=of_decide_eq_true h
  refine⟨g0,h,fun e=> ?_,fun e=> ?_⟩
  ·have e:p1=ix p0 i:=by simpa using e
   unfold idxI
   rw[if_pos (by rw[e];exact ix_mem p0 i g0 h)]
   have:p0.idxOf p1=i.toNat:=by
    conv=>lhs;rw[<-List.take_append_drop i.toNat p0]
    rw[List.idxOf_append,if_neg g2,drop_ix p0 i g0 h,<-e,List.idxOf_cons_self,List.length_take]
    omega
   rw[this]
   omega
  ·have e:¬p1=ix p0 i:=by simpa using e
   rw[inc i p0.length g0 h (by omega)]
   refine⟨⟨by omega,by omega,?_⟩,by(dsimp only;omega)⟩
   rw[ki p0 i g0 h]
   simp only[List.mem_append,List.mem_singleton]
   exact fun hh=>hh.elim g2 e
 ·have h:=of_decide_eq_false h
  rw[List.take_of_length_le (by omega)]at g2
  unfold idxI
  rw[if_neg g2]
noncomputable def k5o:Con TB.den:= .gp 31 [.sl yqu,yqu] [.bool] [] fun(p0:List Int) (p1:Int)=>(p0.length<=9223372036854775807,(decide (p1∈p0):Bool),())
theorem k64:k5o.Ok Tryz.prog TB:=qrv Bs Tryz.func31 .no (k9k.c c0) (Q:=∀(p0:List Int) (p1:Int),(p0.length<=9223372036854775807)->∀r0:Bool,(decide (p1∈p0))=r0-> 
(p0.length<=9223372036854775807)/\decide (0<=(idxI p0 p1))=r0) (by kernel_rfl)<|by
 rintro p0 p1 h _ rfl
 refine⟨h,?_⟩
 unfold idxI
 by_cases hm:p1∈p0
 ·simp[hm]
 ·simp[hm]
noncomputable def k72:Con TB.den:= .tp 192 [.sl yqu] [.bool] [] fun(p0:List Int)=>((vMarks p0:Bool),())
theorem k82:k72.Ok Tryz.prog TB:=qtv Bs Tryz.func192 (.r 1 (.nd [] (.r 0 (.lp [] ⟨[],[],[10],[.one (zqi)],[]⟩ .no)) [] .no)) (k64.c c0) (Q:=∀(p0:List Int),∀r0:Bool,vMarks p0=r0-> 
(decide (4<(p0.length:Int))=true->
false=r0)/\
(decide (4<(p0.length:Int))=false->
∃(I1:Int->Prop) (M1:Int->Nat),I1 0/\∀(b1:Int),(I1 b1->
(decide (b1<(p0.length:Int))=true->
(0<=b1)/\b1<(p0.length:Int)/\let v1:Bool:=decide (18446744069414584321<=(ix p0 b1))
(v1=true->
false=r0)/\
(v1=false->
(0<=b1)/\b1<=(p0.length:Int)/\((p0.take b1.toNat).length<=9223372036854775807)/\let r2:Bool:=(decide ((ix p0 b1)∈(p0.take b1.toNat)))
(r2=true->
false=r0)/\
(r2=false->
I1 (i64.wrap (b1+1))/\M1 (i64.wrap (b1+1))<M1 b1)))/\
(decide (b1<(p0.length:Int))=false->
true=r0)))) (by kernel_rfl)<|by
 rintro p0 _ rfl
 refine⟨fun h=> ?_,fun h=> ?_⟩
 ·have h:=of_decide_eq_true h
  unfold vMarks
  rw[decide_eq_false (by omega)]
  rfl
 ·have h:=of_decide_eq_false h
  refine⟨(fun i=>0<=i/\i<=p0.length/\(∀x∈p0.take i.toNat,x<18446744069414584321)/\(p0.take i.toNat).Nodup),(fun i=>(p0.length-i).toNat),⟨by omega,by omega,by simp,by simp⟩,?_⟩
  rintro i ⟨g0,g1,g2,g3⟩
  refine⟨fun hh=> ?_,fun hh=> ?_⟩
  ·have hh:=of_decide_eq_true hh
   have hm:=ix_mem p0 i g0 hh
   refine⟨g0,hh,fun e=> ?_,fun e=>⟨g0,by omega,by simp;omega,fun e2=> ?_,fun e2=> ?_⟩⟩
   ·have e:=of_decide_eq_true e
    unfold vMarks
    have:p0.all (fun x=>decide (x<18446744069414584321))=false:=List.all_eq_false.2 ⟨_,hm,by simp;omega⟩
    rw[this]
    simp
   ·have e2:=of_decide_eq_true e2
    unfold vMarks
    have:¬p0.Nodup:=by
     intro hn
     rw[<-List.take_append_drop i.toNat p0,drop_ix p0 i g0 hh]at hn
     have:=(List.nodup_append.1 hn).2.2 _ e2 _ (List.mem_cons_self ..)
     exact this rfl
    rw[decide_eq_false this]
    simp
   ·have e:=of_decide_eq_false e
    have e2:=of_decide_eq_false e2
    rw[inc i p0.length g0 hh (by omega)]
    refine⟨⟨by omega,by omega,?_,?_⟩,by(dsimp only;omega)⟩
    ·rw[ki p0 i g0 hh]
     intro x hx
     rcases List.mem_append.1 hx with hx|hx
     ·exact g2 x hx
     ·have:x=ix p0 i:=by simpa using hx
      omega
    ·rw[ki p0 i g0 hh]
     refine List.nodup_append.2 ⟨g3,by simp,fun a ha b hb=> ?_⟩
     have:b=ix p0 i:=by simpa using hb
     rintro rfl
     exact e2 (this▸ha)
  ·have hh:=of_decide_eq_false hh
   rw[List.take_of_length_le (by omega)]at g2 g3
   unfold vMarks
   have:p0.all (fun x=>decide (x<18446744069414584321))=true:=by simpa using g2
   rw[this,decide_eq_true g3,decide_eq_true (by omega)]
   rfl
noncomputable def k9e:Con TB.den:= .tp 223 [.st 14] [.bool] [] fun(p0:wAb)=>((vPoint p0.a0 p0.a1:Bool),())
theorem k9x:k9e.Ok Tryz.prog TB:=qtv Bs Tryz.func223 .no c0 (Q:=∀(p0:wAb),∀r0:Bool,vPoint p0.a0 p0.a1=r0-> 
(decide (p0.a0<18446744069414584321)=true->
(decide (p0.a1<18446744069414584321)=true->
((p0.a0 !=0)=true->
true=r0)/\
((p0.a0 !=0)=false->
(p0.a1 !=0)=r0))/\
(decide (p0.a1<18446744069414584321)=false->
false=r0))/\
(decide (p0.a0<18446744069414584321)=false->
false=r0)) (by kernel_rfl)<|by
 rintro p0 _ rfl
 refine ?_
 unfold vPoint
 refine⟨fun h=>⟨fun h1=>⟨fun h2=> ?_,fun h2=> ?_⟩,fun h1=> ?_⟩,fun h=> ?_⟩<;>simp_all<;>omega
noncomputable def k7s:Con TB.den:= .tp 193 [.sl (.st 1)] [.bool] [] fun(p0:List wAP)=>((vOuts p0:Bool),())
theorem k92:k7s.Ok Tryz.prog TB:=qtv Bs Tryz.func193 (.r 1 (.nd [] (.r 0 (.lp [] ⟨[],[],[12],[.one (zqi)],[]⟩ (.r 1 (.nd [] (.r 2 (.lp [] ⟨[],[],[34],[.one (zqi)],[]⟩ .no)) [] .no)))) [] .no)) (k9x.c c0) (Q:=∀(p0:List wAP),∀r0:Bool,vOuts p0=r0-> 
(decide (4<(p0.length:Int))=true->
false=r0)/\
(decide (4<(p0.length:Int))=false->
∃(I1:Int->Prop) (M1:Int->Nat),I1 0/\∀(b1:Int),(I1 b1->
(decide (b1<(p0.length:Int))=true->
(0<=b1)/\b1<(p0.length:Int)/\let v1:Bool:=decide (18446744069414584321<=((ix p0 b1).wm))
(v1=true->
false=r0)/\
(v1=false->
let r2:Bool:=(vPoint (wAb.mk ((ix p0 b1).wAE) ((ix p0 b1).wAF)).a0 (wAb.mk ((ix p0 b1).wAE) ((ix p0 b1).wAF)).a1)
((!r2)=true->
false=r0)/\
((!r2)=false->
let v3:Bool:=((((ix p0 b1).wv).length:Int) !=3)
(v3=true->
false=r0)/\
(v3=false->
∃(I2:Int->Prop) (M2:Int->Nat),I2 0/\∀(f1:Int),(I2 f1->
let v4:Bool:=decide (f1<(((ix p0 b1).wv).length:Int))
(v4=true->
(0<=f1)/\f1<(((ix p0 b1).wv).length:Int)/\let v5:Bool:=decide (18446744069414584321<=(ix ((ix p0 b1).wv) f1))
(v5=true->
false=r0)/\
(v5=false->
I2 (i64.wrap (f1+1))/\M2 (i64.wrap (f1+1))<M2 f1))/\
(v4=false->
I1 (i64.wrap (b1+1))/\M1 (i64.wrap (b1+1))<M1 b1))))))/\
(decide (b1<(p0.length:Int))=false->
true=r0)))) (by kernel_rfl)<|by
 rintro p0 _ rfl
 refine⟨fun h=> ?_,fun h=> ?_⟩
 ·have h:=of_decide_eq_true h
  unfold vOuts
  rw[decide_eq_false (by omega)]
  rfl
 ·have h:=of_decide_eq_false h
  have bad:∀i,0<=i->i<(p0.length:Int)->vOut (ix p0 i)=false->false=vOuts p0:=by
   intro i h0 h1 hb
   unfold vOuts
   have:p0.all vOut=false:=List.all_eq_false.2 ⟨_,ix_mem p0 i h0 h1,by simp[hb]⟩
   rw[this]
   simp
  refine⟨(fun i=>0<=i/\i<=p0.length/\∀x∈p0.take i.toNat,vOut x=true),(fun i=>(p0.length-i).toNat),⟨by omega,by omega,by simp⟩,?_⟩
  rintro i ⟨g0,g1,g2⟩
  refine⟨fun hh=> ?_,fun hh=> ?_⟩
  ·have hh:=of_decide_eq_true hh
   have bd:=bad i g0 hh
   unfold vOut at bd
   refine⟨g0,hh,fun e=>bd ?_,fun e=>⟨fun e2=>bd ?_,fun e2=>⟨fun e3=>bd ?_,fun e3=> ?_⟩⟩⟩
   ·have e:=of_decide_eq_true e
    rw[decide_eq_false (by omega)]
    rfl
   ·have e2:vPoint (ix p0 i).wAE (ix p0 i).wAF=false:=by simpa using e2
    simp[e2]
   ·have e3:¬(ix p0 i).wv.length=3:=by
     have:¬((ix p0 i).wv.length:Int)=3:=by simpa using e3
     omega
    simp[e3]
   ·have e:=of_decide_eq_false e
    have e2:vPoint (ix p0 i).wAE (ix p0 i).wAF=true:=by simpa using e2
    have e3:(ix p0 i).wv.length=3:=by
     have:((ix p0 i).wv.length:Int)=3:=by simpa using e3
     omega
    refine⟨(fun k=>0<=k/\k<=3/\∀x∈(ix p0 i).wv.take k.toNat,x<18446744069414584321),(fun k=>(3-k).toNat),⟨by omega,by omega,by simp⟩,?_⟩
    rintro k ⟨k0,k1,k2⟩
    refine⟨fun hk=> ?_,fun hk=> ?_⟩
    ·have hk:=of_decide_eq_true hk
     refine⟨k0,hk,fun e4=>bd ?_,fun e4=> ?_⟩
     ·have e4:=of_decide_eq_true e4
      have:(ix p0 i).wv.all (fun n=>decide (n<18446744069414584321))=false:=List.all_eq_false.2 ⟨_,ix_mem _ k k0 hk,by simp;omega⟩
      rw[this]
      simp
     ·have e4:=of_decide_eq_false e4
      rw[inc k 3 k0 (by omega) (by omega)]
      refine⟨⟨by omega,by omega,?_⟩,by(dsimp only;omega)⟩
      rw[ki _ k k0 hk]
      intro x hx
      rcases List.mem_append.1 hx with hx|hx
      ·exact k2 x hx
      ·have:x=ix (ix p0 i).wv k:=by simpa using hx
       omega
    ·have hk:=of_decide_eq_false hk
     rw[List.take_of_length_le (by omega)]at k2
     have hv:vOut (ix p0 i)=true:=(k83 _).2 ⟨by omega,e2,e3,k2⟩
     have hi:=inc i p0.length g0 hh (by omega)
     rw[hi]
     have nxt:(0<=i+1/\i+1<=p0.length/\∀x∈p0.take (i+1).toNat,vOut x=true)/\(p0.length-(i+1)).toNat<(p0.length-i).toNat:=by
      refine⟨⟨by omega,by omega,?_⟩,by omega⟩
      rw[ki p0 i g0 hh]
      intro x hx
      rcases List.mem_append.1 hx with hx|hx
      ·exact g2 x hx
      ·have:x=ix p0 i:=by simpa using hx
       rw[this];exact hv
     exact nxt
  ·have hh:=of_decide_eq_false hh
   rw[List.take_of_length_le (by omega)]at g2
   unfold vOuts
   have:p0.all vOut=true:=by simpa using g2
   rw[this,decide_eq_true (by omega)]
   rfl
noncomputable def kc2:Con TB.den:= .tp 145 [.st 2] [yqi] [] fun(p0:wx)=>((validE p0:Int),())
theorem keb:kc2.Ok Tryz.prog TB:=qtv Bs Tryz.func145 .no (k82.c (k92.c (k6o.c c0))) (Q:=∀(p0:wx),∀r0:Int,validE p0=r0-> 
((!(vMarks p0.wK))=true->
1=r0)/\
((!(vMarks p0.wK))=false->
((!(vOuts p0.wN))=true->
1=r0)/\
((!(vOuts p0.wN))=false->
((!(vAmounts p0))=true->
1=r0)/\
((!(vAmounts p0))=false->
let v1:Bool:=decide (18446744069414584321<=p0.wAO)
(v1=true->
1=r0)/\
(v1=false->
(decide (p0.wAD<0)=true->
1=r0)/\
(decide (p0.wAD<0)=false->
(decide (1048576<p0.wAD)=true->
1=r0)/\
(decide (1048576<p0.wAD)=false->
let v2:Bool:=decide (1048576<(p0.wAQ.length:Int))
(v2=true->
3=r0)/\
(v2=false->
0=r0)))))))) (by kernel_rfl)<|by
 rintro p0 _ rfl
 refine ?_
 unfold validE vRest
 grind
noncomputable def k99:Con TB.den:= .g ⟨101,[.one (.ptr 0 0),.agg [zqu,zql,.d (.sl (.st 1)),zqu,zqu,zqu,zqu,zqu,zqi,.d (.sl yqb)]],[.cells [zqi,zqi,zqi,zqi,zqi,zqu,zqi,zqi,zqu,zqi,zqi,zql,.row 1,.ptr 2 0,.d (.sl (.st 9)),zqu,.row 3,.row 4],.vec yqu,.cells [.mp 5],.vec yqu,.vec (.st 10),.map yqu (.bool)],(.one (.one (zqi))),[.cells [zqi,zqi,zqi,zqi,zqi,zqu,zqi,zqi,zqu,zqi,zqi,zql,.row 1,.ptr 2 0,.d (.sl (.st 9)),zqu,.row 3,.row 4],.vec yqu,.cells [.mp 5],.vec yqu,.vec (.st 10),.map yqu (.bool)],false⟩ [.st 2,yqi,yqi,yqi,yqi,yqi,yqu,yqi,yqi,yqu,yqi,yqi,.sl yqu,.sl (.st 9),yqu,.sl yqu,.sl yqu,.sl (.st 10),.sl yqu,.sl (.bool)] [yqi,yqi,yqi,yqi,yqi,yqi,yqu,yqi,yqi,yqu,yqi,yqi,.sl yqu,.sl (.st 9),yqu,.sl yqu,.sl yqu,.sl (.st 10),.sl yqu,.sl (.bool)] [] fun(p1:wx) (Af Ad Ah Ag Ak Ao Ai Al Am Aj Ab:Int) (Ac:List Int) (Aa:List wA) (Ae:Int) (w1 w3:List Int) (w4:List wO) (w5k:List Int) (w5v:List Bool)=>((∃(c:Nat) (f:Int),c<=800/\PI (PS.mk (wE.mk Af Ad Ah Ag Ak Ao Ai Al Am) (wC.mk Aj Ab Ac) Aa Ae w1 w3 w4 w5k w5v) c f)/\TR p1,(chkS (PS.mk (wE.mk Af Ad Ah Ag Ak Ao Ai Al Am) (wC.mk Aj Ab Ac) Aa Ae w1 w3 w4 w5k w5v) p1:Int),Af,Ad,Ah,Ag,Ak,Ao,Ai,Al,Am,Aj,Ab,Ac,Aa,Ae,w1,w3,w4,w5k,w5v,())
theorem ka9:k99.Ok Tryz.prog TB:=prv Bs Tryz.func101 (.r 3 (.nd [] (.r 0 (.lp [] ⟨[5,2],[.map yqu (.bool),.cells [.mp 0]],[33],[.one (zqi)],[]⟩ .no)) [] (.jn ⟨[],[],[],[],[]⟩ [] .no [] .no))) (keb.c (k85.c (k5f.c (kez.c (k3q.c c0))))) (Q:=∀(p1:wx) (Af Ad Ah Ag Ak Ao Ai Al Am Aj Ab:Int) (Ac:List Int) (Aa:List wA) (Ae:Int) (w1 w3:List Int) (w4:List wO) (w5k:List Int) (w5v:List Bool),((∃(c:Nat) (f:Int),c<=800/\PI (PS.mk (wE.mk Af Ad Ah Ag Ak Ao Ai Al Am) (wC.mk Aj Ab Ac) Aa Ae w1 w3 w4 w5k w5v) c f)/\TR p1)->∀r0:Int,(chkS (PS.mk (wE.mk Af Ad Ah Ag Ak Ao Ai Al Am) (wC.mk Aj Ab Ac) Aa Ae w1 w3 w4 w5k w5v) p1)=r0->∀As:Int,Af=As->∀Ap:Int,Ad=Ap->∀At:Int,Ah=At->∀Aq:Int,Ag=Aq->∀Az:Int,Ak=Az->∀A8:Int,Ao=A8->∀A0:Int,Ai=A0->∀A1:Int,Al=A1->∀A3:Int,Am=A3->∀A4:Int,Aj=A4->∀Au:Int,Ab=Au->∀Av:List Int,Ac=Av->∀Aw:List wA,Aa=Aw->∀Ax:Int,Ae=Ax->∀e1:List Int,w1=e1->∀e3:List Int,w3=e3->∀e4:List wO,w4=e4->∀e5k:List Int,w5k=e5k->∀e5v:List Bool,w5v=e5v-> 
(((validE p1) !=0)=true->
(w4.length=w4.length)/\(w3.length=w3.length)/\(w1.length=w1.length)/\(validE p1)=r0/\Af=As/\Ad=Ap/\Ah=At/\Ag=Aq/\Ak=Az/\Ao=A8/\Ai=A0/\Al=A1/\Am=A3/\Aj=A4/\Ab=Au/\Ac=Av/\Aa=Aw/\Ae=Ax/\w1=e1/\w3=e3/\w4=e4/\w5k=e5k/\w5v=e5v)/\
(((validE p1) !=0)=false->
let v1:Bool:=decide (p1.wAD<(i64.wrap ((w4.length:Int)+1)))
(v1=true->
(w4.length=w4.length)/\(w3.length=w3.length)/\(w1.length=w1.length)/\14=r0/\Af=As/\Ad=Ap/\Ah=At/\Ag=Aq/\Ak=Az/\Ao=A8/\Ai=A0/\Al=A1/\Am=A3/\Aj=A4/\Ab=Au/\Ac=Av/\Aa=Aw/\Ae=Ax/\w1=e1/\w3=e3/\w4=e4/\w5k=e5k/\w5v=e5v)/\
(v1=false->
(w4.length=w4.length)/\(w3.length=w3.length)/\(w1.length=w1.length)/\((1<=Ai/\Ai<=100)/\w3.length<=1000000)/\let r2:Int:=((w3.length-(w3.length-Ai.toNat):Nat):Int)
(0<=((((w3.length-Ai.toNat:Nat):Int).toNat:Nat):Int)/\0<=(r2.toNat:Int)/\((((w3.length-Ai.toNat:Nat):Int).toNat:Nat):Int).toNat+(r2.toNat:Int).toNat<=w3.length/\w3.length<=1000000)/\let r3:Bool:=(decide (p1.wAO∈(w3.drop ((((w3.length-Ai.toNat:Nat):Int).toNat:Nat):Int).toNat).take (r2.toNat:Int).toNat))
((!r3)=true->
(w4.length=w4.length)/\(w3.length=w3.length)/\(w1.length=w1.length)/\11=r0/\Af=As/\Ad=Ap/\Ah=At/\Ag=Aq/\Ak=Az/\Ao=A8/\Ai=A0/\Al=A1/\Am=A3/\Aj=A4/\Ab=Au/\Ac=Av/\Aa=Aw/\Ae=Ax/\w1=e1/\w3=e3/\w4=e4/\w5k=e5k/\w5v=e5v)/\
((!r3)=false->
∃(I1:Int->(List Int)->(List Bool)->Prop) (M1:Int->(List Int)->(List Bool)->Nat),I1 0 w5k w5v/\∀(b1:Int) (f1:List Int) (i1:List Bool),(I1 b1 f1 i1->
(decide (b1<(p1.wK.length:Int))=true->
(0<=b1)/\b1<(p1.wK.length:Int)/\(i1=trs f1)/\((decide ((ix p1.wK b1)∈f1))=true->
(w4.length=w4.length)/\(w3.length=w3.length)/\(w1.length=w1.length)/\12=r0/\Af=As/\Ad=Ap/\Ah=At/\Ag=Aq/\Ak=Az/\Ao=A8/\Ai=A0/\Al=A1/\Am=A3/\Aj=A4/\Ab=Au/\Ac=Av/\Aa=Aw/\Ae=Ax/\w1=e1/\w3=e3/\w4=e4/\f1=e5k/\i1=e5v)/\
((decide ((ix p1.wK b1)∈f1))=false->
I1 (i64.wrap (b1+1)) f1 i1/\M1 (i64.wrap (b1+1)) f1 i1<M1 b1 f1 i1))/\
(decide (b1<(p1.wK.length:Int))=false->
∀J1:Prop,((let v5:Bool:=decide ((u64.wrap (Ae+p1.wP))<(u64.wrap (p1.wd+p1.Fee)))
(v5=true->
(w4.length=w4.length)/\(w3.length=w3.length)/\(w1.length=w1.length)/\13=r0/\Af=As/\Ad=Ap/\Ah=At/\Ag=Aq/\Ak=Az/\Ao=A8/\Ai=A0/\Al=A1/\Am=A3/\Aj=A4/\Ab=Au/\Ac=Av/\Aa=Aw/\Ae=Ax/\w1=e1/\w3=e3/\w4=e4/\f1=e5k/\i1=e5v)/\
(v5=false->
let v6:Int:=i64.wrap ((w1.length:Int)+(p1.wN.length:Int))
(0<=Ad)/\(decide ((ishl .i64 1 Ad)<v6)=true->
(w4.length=w4.length)/\(w3.length=w3.length)/\(w1.length=w1.length)/\16=r0/\Af=As/\Ad=Ap/\Ah=At/\Ag=Aq/\Ak=Az/\Ao=A8/\Ai=A0/\Al=A1/\Am=A3/\Aj=A4/\Ab=Au/\Ac=Av/\Aa=Aw/\Ae=Ax/\w1=e1/\w3=e3/\w4=e4/\f1=e5k/\i1=e5v)/\
(decide ((ishl .i64 1 Ad)<v6)=false->
(w4.length=w4.length)/\(w3.length=w3.length)/\(w1.length=w1.length)/\0=r0/\Af=As/\Ad=Ap/\Ah=At/\Ag=Aq/\Ak=Az/\Ao=A8/\Ai=A0/\Al=A1/\Am=A3/\Aj=A4/\Ab=Au/\Ac=Av/\Aa=Aw/\Ae=Ax/\w1=e1/\w3=e3/\w4=e4/\f1=e5k/\i1=e5v)))->J1)->
(decide (0<p1.wP)=true->
(OkA (wY.mk Aa).wB/\U64 p1.wP/\U64 p1.wc)/\let r4:=debitA (wY.mk Aa).wB p1.wo p1.wP p1.wc
((r4.2 !=0)=true->
(w4.length=w4.length)/\(w3.length=w3.length)/\(w1.length=w1.length)/\r4.2=r0/\Af=As/\Ad=Ap/\Ah=At/\Ag=Aq/\Ak=Az/\Ao=A8/\Ai=A0/\Al=A1/\Am=A3/\Aj=A4/\Ab=Au/\Ac=Av/\Aa=Aw/\Ae=Ax/\w1=e1/\w3=e3/\w4=e4/\f1=e5k/\i1=e5v)/\
((r4.2 !=0)=false->
J1))/\
(decide (0<p1.wP)=false->
J1))))))) (by kernel_rfl)<|by
 rintro p1 Af Ad Ah Ag Ak Ao Ai Al Am Aj Ab Ac Aa Ae w1 w3 w4 w5k w5v h _ rfl _ rfl _ rfl _ rfl _ rfl _ rfl _ rfl _ rfl _ rfl _ rfl _ rfl _ rfl _ rfl _ rfl _ rfl _ rfl _ rfl _ rfl _ rfl _ rfl
 obtain⟨⟨c,f,hc,hp⟩,ht⟩:=h
 have hb:OkA Aa:=hp.b.1
 have hv:w5v=trs w5k:=hp.v
 have h1:1<=Ai:=hp.w1
 have h2:Ai<=100:=hp.w2
 have hd1:1<=Ad:=hp.d1
 have hd2:Ad<=12:=hp.d2
 have hrl:w3.length=w4.length+1:=hp.rl
 have hpl:w4.length<=c:=hp.p
 have hll:w1.length<=2^Ad.toNat:=hp.ll
 have hp12:=pow12 Ad.toNat (by omega)
 generalize hR0:chkS (PS.mk (wE.mk Af Ad Ah Ag Ak Ao Ai Al Am) (wC.mk Aj Ab Ac) Aa Ae w1 w3 w4 w5k w5v) p1=R
 have hR:chk (w4.length:Int) (ancL w3 Ai) w5k Aa Ae w1.length Ad p1=R:=hR0
 clear hR0
 unfold chk at hR
 refine⟨fun e=> ?_,fun e=> ?_⟩
 ·have e:validE p1≠0:=by simpa using e
  rw[if_pos e]at hR
  subst hR
  exact(by repeat' first|apply And.intro|exact rfl|exact True.intro)
 have e:validE p1=0:=by simpa using e
 have vt:=(k7e p1).1 e
 have hol:=vt.ol
 have hml:=vt.ml
 rw[if_neg (by rw[e];decide)]at hR
 have ei:i64.wrap ((w4.length:Int)+1)=(w4.length:Int)+1:=kp _ (by omega) (by omega)
 rw[ei]
 refine⟨fun e2=> ?_,fun e2=>⟨rfl,rfl,rfl,⟨⟨h1,h2⟩,by omega⟩,?_⟩⟩
 ·rw[if_pos (of_decide_eq_true e2)]at hR
  subst hR
  exact(by repeat' first|apply And.intro|exact rfl|exact True.intro)
 rw[if_neg (of_decide_eq_false e2)]at hR
 have eA:(w3.drop (w3.length-Ai.toNat)).take (w3.length-(w3.length-Ai.toNat))=ancL w3 Ai:=by
  unfold ancL
  exact List.take_of_length_le (by rw[List.length_drop];omega)
 simp only[Int.toNat_natCast,eA]
 refine⟨⟨by omega,by omega,by omega,by omega⟩,fun e3=> ?_,fun e3=> ?_⟩
 ·have e3:p1.wAO∉ancL w3 Ai:=by simpa using e3
  rw[if_pos e3]at hR
  subst hR
  exact(by repeat' first|apply And.intro|exact rfl|exact True.intro)
 have e3:¬p1.wAO∉ancL w3 Ai:=by simpa using e3
 rw[if_neg e3]at hR
 refine⟨fun a k v=>(w5k=k/\w5v=v)/\∃i:Nat,a=(i:Int)/\i<=p1.wK.length/\((p1.wK.take i).any fun m=>decide (m∈w5k))=false,fun a _ _=>(p1.wK.length-a).toNat,⟨⟨rfl,rfl⟩,0,rfl,by omega,rfl⟩,?_⟩
 rintro _ _ _ ⟨⟨rfl,rfl⟩,i,rfl,hi,hm⟩
 refine⟨fun e4=> ?_,fun e4 J1 j=> ?_⟩
 ·have e4:i<p1.wK.length:=by have:=of_decide_eq_true e4;omega
  rw[ix_get _ _ e4,inc_i64 _ (by omega)]
  refine⟨by omega,by omega,hv,fun e5=> ?_,fun e5=>⟨⟨⟨rfl,rfl⟩,i+1,rfl,by omega,?_⟩,by(dsimp only;omega)⟩⟩
  ·rw[if_pos (List.any_eq_true.2 ⟨_,List.getElem_mem e4,e5⟩)]at hR
   subst hR
   exact(by repeat' first|apply And.intro|exact rfl|exact True.intro)
  ·rw[List.take_succ_eq_append_getElem e4,List.any_append,hm,List.any_cons,e5]
   rfl
 ·have e4:i=p1.wK.length:=by have:=of_decide_eq_false e4;omega
  subst e4
  rw[List.take_length]at hm
  have j1:(p1.wK.any fun m=>decide (m∈w5k))=false->¬(0<p1.wP/\(debitA Aa p1.wo p1.wP p1.wc).2≠0)->J1:=by
   intro g1 g2
   rw[if_neg (by rw[g1];decide),if_neg g2]at hR
   refine j ⟨fun e4=> ?_,fun e4=>⟨by omega,?_⟩⟩
   ·rw[if_pos (of_decide_eq_true e4)]at hR
    subst hR
    exact(by repeat' first|apply And.intro|exact rfl|exact True.intro)
   ·rw[if_neg (of_decide_eq_false e4)]at hR
    obtain⟨d,hd⟩:=Int.eq_ofNat_of_zero_le (show 0<=Ad by omega)
    have hdn:Ad.toNat=d:=by omega
    rw[hdn]at hR hp12 hll
    rw[kp _ (by omega) (by omega),show ishl .i64 1 Ad=((2^d:Nat):Int)by rw[hd];exact shl1 d (by omega)]
    refine⟨fun e5=> ?_,fun e5=> ?_⟩
    ·rw[if_pos (by have:=of_decide_eq_true e5;omega)]at hR
     subst hR
     exact(by repeat' first|apply And.intro|exact rfl|exact True.intro)
    ·rw[if_neg (by have:=of_decide_eq_false e5;omega)]at hR
     subst hR
     exact(by repeat' first|apply And.intro|exact rfl|exact True.intro)
  refine⟨fun e5=>⟨⟨hb,ht.d,ht.n⟩,fun e6=> ?_,fun e6=>j1 hm ?_⟩,fun e5=>j1 hm ?_⟩
  ·have e5:=of_decide_eq_true e5
   have e6:(debitA Aa p1.wo p1.wP p1.wc).2≠0:=by simpa using e6
   rw[if_neg (by rw[hm];decide),if_pos ⟨e5,e6⟩]at hR
   subst hR
   exact(by repeat' first|apply And.intro|exact rfl|exact True.intro)
  ·have e6:(debitA Aa p1.wo p1.wP p1.wc).2=0:=by simpa using e6
   exact fun hh=>hh.2 e6
  ·have e5:=of_decide_eq_false e5
   exact fun hh=>e5 hh.1
noncomputable def kcr:Con TB.den:= .g ⟨154,[.one (.ptr 0 0),.one (zql),.one (.d (.bool))],[.cells [.mp 1],.map yqu (.bool)],(.one (.one (.d (.bool)))),[.cells [.mp 1],.map yqu (.bool)],false⟩ [.sl yqu,.bool,.sl yqu,.sl (.bool)] [.bool,.sl yqu,.sl (.bool)] [] fun(p1:List Int) (p2:Bool) (w1k:List Int) (w1v:List Bool)=>(w1v=trs w1k/\p1.length<=1000000,(p1.any (fun m=>decide (m∈w1k)==p2):Bool),w1k,w1v,())
theorem k7j:kcr.Ok Tryz.prog TB:=prv Bs Tryz.func154 (.r 0 (.nd [] (.r 0 (.lp [] ⟨[],[],[11],[.one (zqi)],[]⟩ .no)) [] .no)) c0 (Q:=∀(p1:List Int) (p2:Bool) (w1k:List Int) (w1v:List Bool),(w1v=trs w1k/\p1.length<=1000000)->∀r0:Bool,(p1.any (fun m=>decide (m∈w1k)==p2))=r0->∀e1k:List Int,w1k=e1k->∀e1v:List Bool,w1v=e1v-> 
∃(I1:Int->Prop) (M1:Int->Nat),I1 0/\∀(b1:Int),(I1 b1->
(decide (b1<(p1.length:Int))=true->
(0<=b1)/\b1<(p1.length:Int)/\w1k.length=w1v.length/\let v1:Bool:=mVal (BEq.beq (ix p1 b1)) w1k w1v false
((v1==p2)=true->
true=r0/\w1k=e1k/\w1v=e1v)/\
((v1==p2)=false->
I1 (i64.wrap (b1+1))/\M1 (i64.wrap (b1+1))<M1 b1))/\
(decide (b1<(p1.length:Int))=false->
false=r0/\w1k=e1k/\w1v=e1v))) (by kernel_rfl)<|by
 rintro p1 p2 w1k w1v h _ rfl _ rfl _ rfl
 obtain⟨h,hl⟩:=h
 subst h
 refine(⟨(fun a=>∃i:Nat,a=(i:Int)/\i<=p1.length/\(p1.drop i).any (fun m=>decide (m∈w1k)==p2)=p1.any (fun m=>decide (m∈w1k)==p2)),(fun a=>(p1.length-a).toNat),⟨0,rfl,by omega,rfl⟩,?_⟩)
 rintro _ ⟨i,rfl,hi,he⟩
 refine⟨fun e=> ?_,fun e=> ?_⟩
 ·have e:i<p1.length:=by have:=of_decide_eq_true e;omega
  rw[ix_get _ _ e,sVal,inc_i64 _ (by omega)]
  rw[List.drop_eq_getElem_cons e,List.any_cons]at he
  refine⟨by omega,by omega,by simp[trs],fun e2=> ?_,fun e2=> ?_⟩
  ·rw[e2,Bool.true_or]at he
   rw[<-he]
   exact⟨rfl,rfl,rfl⟩
  ·rw[e2,Bool.false_or]at he
   exact⟨⟨i+1,rfl,by omega,he⟩,by(dsimp only;omega)⟩
 ·have e:i=p1.length:=by have:=of_decide_eq_false e;omega
  subst e
  rw[List.drop_length]at he
  rw[<-he]
  exact⟨rfl,rfl,rfl⟩
noncomputable def k5g:Con TB.den:= .gp 155 [.sl yqu] [.bool] [] fun(p0:List Int)=>(p0.length<=1000000,(!decide p0.Nodup:Bool),())
theorem k27:k5g.Ok Tryz.prog TB:=qrv Bs Tryz.func155 (.r 1 (.nd [] (.r 0 (.lp [] ⟨[0],[.map yqu (.bool)],[9],[.one (zqi)],[]⟩ .no)) [] .no)) c0 (Q:=∀(p0:List Int),(p0.length<=1000000)->∀r0:Bool,(!decide p0.Nodup)=r0-> 
∃(I1:Int->(List Int)->(List Bool)->Prop) (M1:Int->(List Int)->(List Bool)->Nat),I1 0 ([]:List Int) ([]:List Bool)/\∀(b1:Int) (f1:List Int) (i1:List Bool),(I1 b1 f1 i1->
(decide (b1<(p0.length:Int))=true->
(0<=b1)/\b1<(p0.length:Int)/\f1.length=i1.length/\let v1:Bool:=mVal (BEq.beq (ix p0 b1)) f1 i1 false
(v1=true->
true=r0)/\
(v1=false->
f1.length=i1.length/\let v2:List Int:=mPutK (BEq.beq (ix p0 b1)) f1 (ix p0 b1)
let v3:List Bool:=mPutV (BEq.beq (ix p0 b1)) f1 i1 true
I1 (i64.wrap (b1+1)) v2 v3/\M1 (i64.wrap (b1+1)) v2 v3<M1 b1 f1 i1))/\
(decide (b1<(p0.length:Int))=false->
false=r0))) (by kernel_rfl)<|by
 rintro p0 h _ rfl
 refine(⟨(fun a k v=>∃i:Nat,a=(i:Int)/\i<=p0.length/\k=p0.take i/\v=trs k/\k.Nodup),(fun a _ _=>(p0.length-a).toNat),⟨0,rfl,by omega,rfl,rfl,List.nodup_nil⟩,?_⟩)
 rintro _ _ _ ⟨i,rfl,hi,rfl,rfl,hn⟩
 refine⟨fun e=> ?_,fun e=> ?_⟩
 ·have e:i<p0.length:=by have:=of_decide_eq_true e;omega
  rw[ix_get _ _ e,sVal,inc_i64 _ (by omega)]
  refine⟨by omega,by omega,by simp[trs],fun e2=> ?_,fun e2=>⟨by simp[trs],?_⟩⟩
  ·have e2:=of_decide_eq_true e2
   have:¬p0.Nodup:=fun hh=>by
    rw[<-List.take_append_drop i p0,List.drop_eq_getElem_cons e,List.nodup_append]at hh
    exact hh.2.2 _ e2 p0[i] List.mem_cons_self rfl
   simp[this]
  ·have e2:=of_decide_eq_false e2
   obtain⟨q1,q2⟩:=sPut e2
   rw[q1,q2,<-List.take_succ_eq_append_getElem]
   refine⟨⟨i+1,rfl,by omega,rfl,rfl,?_⟩,by(dsimp only;omega)⟩
   rw[List.take_succ_eq_append_getElem e,List.nodup_append]
   exact⟨hn,by simp,fun a ha b hb=>by rw[List.mem_singleton.1 hb];rintro rfl;exact e2 ha⟩
 ·have e:i=p0.length:=by have:=of_decide_eq_false e;omega
  subst e
  rw[List.take_length]at hn
  simp[hn]
noncomputable def ke5:Con TB.den:= .g ⟨149,[.one (.ptr 0 0),.one (zql)],[.cells [.mp 1],.map yqu (.bool)],(.one (.one (zqi))),[.cells [.mp 1],.map yqu (.bool)],false⟩ [.sl yqu,.sl yqu,.sl (.bool)] [yqi,.sl yqu,.sl (.bool)] [] fun(p1 w1k:List Int) (w1v:List Bool)=>(w1v=trs w1k/\p1.length<=1000000,((addS p1 w1k).1:Int),((addS p1 w1k).2:List Int),(trs (addS p1 w1k).2:List Bool),())
theorem kf2:ke5.Ok Tryz.prog TB:=prv Bs Tryz.func149 (.r 2 (.nd [] (.r 0 (.lp [] ⟨[1],[.map yqu (.bool)],[25],[.one (zqi)],[]⟩ .no)) [] .no)) (k7j.c (k27.c c0)) (Q:=∀(p1 w1k:List Int) (w1v:List Bool),(w1v=trs w1k/\p1.length<=1000000)->∀r0:Int,((addS p1 w1k).1)=r0->∀e1k:List Int,((addS p1 w1k).2)=e1k->∀e1v:List Bool,(trs (addS p1 w1k).2)=e1v-> 
(w1v=trs w1k/\p1.length<=1000000)/\let r1:Bool:=(p1.any (fun m=>decide (m∈w1k)==true))
(r1=true->
12=r0/\w1k=e1k/\w1v=e1v)/\
(r1=false->
(p1.length<=1000000)/\((!decide p1.Nodup)=true->
12=r0/\w1k=e1k/\w1v=e1v)/\
((!decide p1.Nodup)=false->
∃(I1:Int->(List Int)->(List Bool)->Prop) (M1:Int->(List Int)->(List Bool)->Nat),I1 0 w1k w1v/\∀(b1:Int) (f1:List Int) (i1:List Bool),(I1 b1 f1 i1->
(decide (b1<(p1.length:Int))=true->
(0<=b1)/\b1<(p1.length:Int)/\f1.length=i1.length/\let v2:List Int:=mPutK (BEq.beq (ix p1 b1)) f1 (ix p1 b1)
let v3:List Bool:=mPutV (BEq.beq (ix p1 b1)) f1 i1 true
I1 (i64.wrap (b1+1)) v2 v3/\M1 (i64.wrap (b1+1)) v2 v3<M1 b1 f1 i1)/\
(decide (b1<(p1.length:Int))=false->
0=r0/\f1=e1k/\i1=e1v))))) (by kernel_rfl)<|by
 rintro p1 w1k w1v h _ rfl _ rfl _ rfl
 obtain⟨h,hl⟩:=h
 subst h
 have ea:(p1.any fun m=>decide (m∈w1k)==true)=p1.any fun m=>decide (m∈w1k):=by congr 1;funext m;simp
 refine⟨⟨rfl,hl⟩,?_⟩
 rw[ea]
 refine⟨fun e=> ?_,fun e=>⟨hl,fun e2=> ?_,fun e2=> ?_⟩⟩
 ·have:addS p1 w1k=(12,w1k):=by unfold addS;rw[e];rfl
  rw[this]
  exact⟨rfl,rfl,rfl⟩
 ·have:addS p1 w1k=(12,w1k):=by unfold addS;rw[e,e2];rfl
  rw[this]
  exact⟨rfl,rfl,rfl⟩
 ·have hA:addS p1 w1k=(0,w1k++p1):=by unfold addS;rw[e,e2];rfl
  have hn:p1.Nodup:=by simpa using e2
  rw[hA]
  refine⟨(fun a k v=>∃i:Nat,a=(i:Int)/\i<=p1.length/\k=w1k++p1.take i/\v=trs k),(fun a _ _=>(p1.length-a).toNat),⟨0,rfl,by omega,by simp,by simp⟩,?_⟩
  rintro _ _ _ ⟨i,rfl,hi,rfl,rfl⟩
  refine⟨fun e3=> ?_,fun e3=> ?_⟩
  ·have e3:i<p1.length:=by have:=of_decide_eq_true e3;omega
   rw[ix_get _ _ e3,inc_i64 _ (by omega)]
   have hm:p1[i]∉w1k++p1.take i:=by
    intro hm
    rcases List.mem_append.1 hm with hm|hm
    ·have:=List.any_eq_false.1 e p1[i] (List.getElem_mem e3)
     simp[hm]at this
    ·rw[<-List.take_append_drop i p1,List.drop_eq_getElem_cons e3,List.nodup_append]at hn
     exact hn.2.2 _ hm p1[i] List.mem_cons_self rfl
   obtain⟨q1,q2⟩:=sPut hm
   rw[q1,q2]
   refine⟨by omega,by omega,by simp[trs],⟨i+1,rfl,by omega,?_,rfl⟩,by(dsimp only;omega)⟩
   rw[List.take_succ_eq_append_getElem e3,List.append_assoc]
  ·have e3:i=p1.length:=by have:=of_decide_eq_false e3;omega
   subst e3
   rw[List.take_length]
   exact⟨rfl,rfl,rfl⟩
noncomputable def k6e:Con TB.den:= .gp 98 [.st 6] [.bool] [] fun(p0:wC)=>(FV p0,true,())
theorem k2t:k6e.Ok Tryz.prog TB:=qrv Bs Tryz.func98 (.r 2 (.nd [] (.r 0 (.lp [] ⟨[],[],[36],[.one (zqi)],[]⟩ .no)) [] .no)) c0 (Q:=∀(p0:wC),(FV p0)->∀r0:Bool,(true:Bool)=r0-> 
(decide (p0.wD<1)=true->
false=r0)/\
(decide (p0.wD<1)=false->
(decide (12<p0.wD)=true->
false=r0)/\
(decide (12<p0.wD)=false->
(decide (p0.wX<0)=true->
false=r0)/\
(decide (p0.wX<0)=false->
(0<=p0.wD)/\let v1:Bool:=decide ((ishl .i64 1 p0.wD)<p0.wX)
(v1=true->
false=r0)/\
(v1=false->
let v2:Bool:=((p0.wa.length:Int) !=(i64.wrap (p0.wD+1)))
(v2=true->
false=r0)/\
(v2=false->
∃(I1:Int->Prop) (M1:Int->Nat),I1 0/\∀(b1:Int),(I1 b1->
(decide (b1<(p0.wa.length:Int))=true->
(0<=b1)/\b1<(p0.wa.length:Int)/\let v3:Bool:=decide (18446744069414584321<=(ix p0.wa b1))
(v3=true->
false=r0)/\
(v3=false->
(((ix p0.wa b1) !=0)=true->
(0<=b1)/\let v4:Bool:=((iand .i64 (ishr .i64 p0.wX b1) 1)==0)
(v4=true->
false=r0)/\
(v4=false->
I1 (i64.wrap (b1+1))/\M1 (i64.wrap (b1+1))<M1 b1))/\
(((ix p0.wa b1) !=0)=false->
I1 (i64.wrap (b1+1))/\M1 (i64.wrap (b1+1))<M1 b1)))/\
(decide (b1<(p0.wa.length:Int))=false->
true=r0)))))))) (by kernel_rfl)<|by
 rintro p0 h _ rfl
 obtain⟨d1,d2,c0,c1,ll,u,z⟩:=h
 obtain⟨d,hd⟩:=Int.eq_ofNat_of_zero_le (show 0<=p0.wD by omega)
 obtain⟨n,hn⟩:=Int.eq_ofNat_of_zero_le c0
 rw[hd,Int.toNat_natCast]at c1 ll
 rw[hn,Int.toNat_natCast]at z
 have hp:=pow12 d (by omega)
 refine⟨fun e=>(by have:=of_decide_eq_true e;omega),fun _=>⟨fun e=>(by have:=of_decide_eq_true e;omega),fun _=>⟨fun e=>(by have:=of_decide_eq_true e;omega),fun _=>⟨by omega,?_⟩⟩⟩⟩
 rw[hd,hn,shl1 d (by omega),kp _ (by omega) (by omega)]
 refine⟨fun e=>(by have:=of_decide_eq_true e;omega),fun _=>⟨fun e=> ?_,fun _=> ?_⟩⟩
 ·have e:¬(p0.wa.length:Int)=(d:Int)+1:=by simpa using e
  omega
 refine⟨(fun a=>∃i:Nat,a=(i:Int)/\i<=p0.wa.length),(fun a=>(p0.wa.length-a).toNat),⟨0,rfl,by omega⟩,?_⟩
 rintro _ ⟨i,rfl,hi⟩
 refine⟨fun hh=> ?_,fun _=>rfl⟩
 have hh:i<p0.wa.length:=by have:=of_decide_eq_true hh;omega
 have hx:=u _ (List.getElem_mem hh)
 rw[ix_get _ _ hh,inc_i64 _ (by omega),bit1 n i (by omega) (by omega)]
 have next:(∃j:Nat,((i+1:Nat):Int)=(j:Int)/\j<=p0.wa.length)/\((p0.wa.length:Int)-((i+1:Nat):Int)).toNat<((p0.wa.length:Int)-(i:Int)).toNat:=⟨⟨i+1,rfl,by omega⟩,by omega⟩
 refine⟨by omega,by omega,fun e=>(by have:=of_decide_eq_true e;omega),fun _=>⟨fun e=>⟨by omega,fun e2=> ?_,fun _=>next⟩,fun _=>next⟩⟩
 have e:p0.wa[i]≠0:=by simpa using e
 have e2:((n/2^i%2:Nat):Int)=0:=by simpa using e2
 refine(e (z i hh ?_)).elim
 unfold bitN
 generalize n/2^i%2=q at *
 have:q=0:=by omega
 rw[this]
 rfl
noncomputable def k91:Con TB.den:= .gp 113 [.st 7] [.bool] [] fun(p0:wl)=>(p0.P=18446744069414584321,true,())
theorem k15:k91.Ok Tryz.prog TB:=qrv Bs Tryz.func113 .no c0 (Q:=∀(p0:wl),(p0.P=18446744069414584321)->∀r0:Bool,(true:Bool)=r0-> 
((p0.P==18446744069414584321)=true->
((p0.P==18446744069414584321)=true->
true=r0)/\
((p0.P==18446744069414584321)=false->
false=r0))/\
((p0.P==18446744069414584321)=false->
((p0.P==17)=true->
((p0.P==17)=true->
true=r0)/\
((p0.P==17)=false->
false=r0))/\
((p0.P==17)=false->
((p0.P==97)=true->
((p0.P==97)=true->
true=r0)/\
((p0.P==97)=false->
false=r0))/\
((p0.P==97)=false->
((p0.P==193)=true->
((p0.P==193)=true->
true=r0)/\
((p0.P==193)=false->
false=r0))/\
((p0.P==193)=false->
((p0.P==257)=true->
((p0.P==257)=true->
true=r0)/\
((p0.P==257)=false->
false=r0))/\
((p0.P==257)=false->
((p0.P==12289)=true->
((p0.P==12289)=true->
true=r0)/\
((p0.P==12289)=false->
false=r0))/\
((p0.P==12289)=false->
((p0.P==65537)=true->
true=r0)/\
((p0.P==65537)=false->
false=r0)))))))) (by kernel_rfl)<|by
 rintro p0 h _ rfl
 refine ?_
 simp[h]
noncomputable def kby:Con TB.den:= .gp 207 [.st 7,yqu,yqu] [yqu] [] fun(p0:wl) (p1 p2:Int)=>(p0.P=18446744069414584321/\(0<=p1/\p1<18446744069414584321)/\(0<=p2/\p2<18446744069414584321),((p1+p2)%18446744069414584321:Int),())
theorem ke0:kby.Ok Tryz.prog TB:=qrx Bs [] Tryz.func207 (.r 1 (.nd [] (.jn ⟨[],[],[22],[.one (.d (.bool))],[]⟩ [] .no [] .no) [] .no)) (x1 x70_ok x0) c0 (Q:=∀(p0:wl) (p1 p2:Int),(p0.P=18446744069414584321/\(0<=p1/\p1<18446744069414584321)/\(0<=p2/\p2<18446744069414584321))->∀r0:Int,((p1+p2)%18446744069414584321)=r0-> 
(0<=p1/\0<=p2/\0<=(0:Int)/\(0:Int)<=1)/\let r1:Int:=(p1+p2+(0:Int))%18446744073709551616
let r2:Int:=(p1+p2+(0:Int))/18446744073709551616
∀J1:Bool->Prop,(∀(b1:Bool),
((b1=true->
u64.wrap (r1-p0.P)=r0)/\
(b1=false->
r1=r0))->J1 b1)->
((r2 !=0)=true->
J1 true)/\
((r2 !=0)=false->
J1 (decide (p0.P<=r1)))) (by kernel_rfl)<|by
 rintro p0 p1 p2 h _ rfl
 obtain⟨hP,h1,h2⟩:=h
 refine⟨by omega,fun J1 j=>⟨fun h=>j _ ⟨fun _=> ?_,fun h=>by simp at h⟩,fun h=>j _ ⟨fun g=> ?_,fun g=> ?_⟩⟩⟩
 ·have h:(p1+p2+0)/18446744073709551616≠0:=by simpa using h
  rw[hP,u64w];omega
 ·have h:(p1+p2+0)/18446744073709551616=0:=by simpa using h
  have g:=of_decide_eq_true g
  rw[hP]at g ⊢
  rw[u64w];omega
 ·have h:(p1+p2+0)/18446744073709551616=0:=by simpa using h
  have g:=of_decide_eq_false g
  rw[hP]at g
  omega
noncomputable def k76:Con TB.den:= .gp 208 [.st 7,yqu] [yqu] [] fun(p0:wl) (p1:Int)=>(0<p0.P/\0<=p1,(p1%p0.P:Int),())
theorem k1i:k76.Ok Tryz.prog TB:=qrv Bs Tryz.func208 .no c0 (Q:=∀(p0:wl) (p1:Int),(0<p0.P/\0<=p1)->∀r0:Int,(p1%p0.P)=r0-> 
(decide (p0.P<=p1)=true->
(p0.P≠0)/\Int.tmod p1 p0.P=r0)/\
(decide (p0.P<=p1)=false->
p1=r0)) (by kernel_rfl)<|by
 rintro p0 p1 h _ rfl
 refine⟨fun h1=>⟨by omega,tmod_nn _ _ h.2⟩,fun h1=> ?_⟩
 simp at h1
 rw[Int.emod_eq_of_lt (by omega) (by omega)]
noncomputable def kbw:Con TB.den:= .gp 169 [.st 7,yqu,yqu] [yqu] [] fun(p0:wl) (p1 p2:Int)=>(p0.P=18446744069414584321/\U64 p1/\U64 p2,((p1+p2)%18446744069414584321:Int),())
theorem k3g:kbw.Ok Tryz.prog TB:=qrv Bs Tryz.func169 .no (k15.c (k1i.c (ke0.c c0))) (Q:=∀(p0:wl) (p1 p2:Int),(p0.P=18446744069414584321/\U64 p1/\U64 p2)->∀r0:Int,((p1+p2)%18446744069414584321)=r0-> 
(p0.P=18446744069414584321)/\((!true)=true->
0=r0)/\
((!true)=false->
(0<p0.P/\0<=p1)/\(0<p0.P/\0<=p2)/\(p0.P=18446744069414584321/\(0<=(p1%p0.P)/\(p1%p0.P)<18446744069414584321)/\(0<=(p2%p0.P)/\(p2%p0.P)<18446744069414584321))/\let r1:Int:=(((p1%p0.P)+(p2%p0.P))%18446744069414584321)
r1=r0)) (by kernel_rfl)<|by
 rintro p0 p1 p2 h _ rfl
 obtain⟨hP,h1,h2⟩:=h
 refine⟨hP,?_⟩
 simp only[hP]
 refine⟨fun h=>by simp at h,fun _=>⟨by omega,by omega,⟨by trivial,by omega,by omega⟩,?_⟩⟩
 omega
noncomputable def ka2:Con TB.den:= .gp 235 [yqu] [yqi] [] fun(p0:Int)=>(U64 p0,(len64 p0:Int),())
theorem kbu:ka2.Ok Tryz.prog TB:=qrv Bs Tryz.func235 (.r 0 (.jn ⟨[],[],[0,2],[.one (zqu),.one (zqi)],[]⟩ [] .no [] (.jn ⟨[],[],[0,2],[.one (zqu),.one (zqi)],[]⟩ [] .no [] (.jn ⟨[],[],[0,2],[.one (zqu),.one (zqi)],[]⟩ [] .no [] .no)))) c0 (Q:=∀(p0:Int),(U64 p0)->∀r0:Int,len64 p0=r0-> 
∀J1:Int->Int->Prop,(∀(b1 f1:Int),
(∀J2:Int->Int->Prop,(∀(i1 k1:Int),
(∀J3:Int->Int->Prop,(∀(l1 m1:Int),
((0<=IntKind.u8.wrap l1/\IntKind.u8.wrap l1<((⟨#[0,1,2,2,3,3,3,3,4,4,4,4,4,4,4,4,5,5,5,5,5,5,5,5,5,5,5,5,5,5,5,5,6,6,6,6,6,6,6,6,6,6,6,6,6,6,6,6,6,6,6,6,6,6,6,6,6,6,6,6,6,6,6,6,7,7,7,7,7,7,7,7,7,7,7,7,7,7,7,7,7,7,7,7,7,7,7,7,7,7,7,7,7,7,7,7,7,7,7,7,7,7,7,7,7,7,7,7,7,7,7,7,7,7,7,7,7,7,7,7,7,7,7,7,7,7,7,7,8,8,8,8,8,8,8,8,8,8,8,8,8,8,8,8,8,8,8,8,8,8,8,8,8,8,8,8,8,8,8,8,8,8,8,8,8,8,8,8,8,8,8,8,8,8,8,8,8,8,8,8,8,8,8,8,8,8,8,8,8,8,8,8,8,8,8,8,8,8,8,8,8,8,8,8,8,8,8,8,8,8,8,8,8,8,8,8,8,8,8,8,8,8,8,8,8,8,8,8,8,8,8,8,8,8,8,8,8,8,8,8,8,8,8,8,8,8,8,8,8,8,8,8,8,8,8,8]⟩:ByteArray).size:Int))/\let v1:Int:=byteAt (⟨#[0,1,2,2,3,3,3,3,4,4,4,4,4,4,4,4,5,5,5,5,5,5,5,5,5,5,5,5,5,5,5,5,6,6,6,6,6,6,6,6,6,6,6,6,6,6,6,6,6,6,6,6,6,6,6,6,6,6,6,6,6,6,6,6,7,7,7,7,7,7,7,7,7,7,7,7,7,7,7,7,7,7,7,7,7,7,7,7,7,7,7,7,7,7,7,7,7,7,7,7,7,7,7,7,7,7,7,7,7,7,7,7,7,7,7,7,7,7,7,7,7,7,7,7,7,7,7,7,8,8,8,8,8,8,8,8,8,8,8,8,8,8,8,8,8,8,8,8,8,8,8,8,8,8,8,8,8,8,8,8,8,8,8,8,8,8,8,8,8,8,8,8,8,8,8,8,8,8,8,8,8,8,8,8,8,8,8,8,8,8,8,8,8,8,8,8,8,8,8,8,8,8,8,8,8,8,8,8,8,8,8,8,8,8,8,8,8,8,8,8,8,8,8,8,8,8,8,8,8,8,8,8,8,8,8,8,8,8,8,8,8,8,8,8,8,8,8,8,8,8,8,8,8,8,8,8]⟩:ByteArray) (IntKind.u8.wrap l1)
let v2:Int:=i64.wrap (m1+(i64.wrap v1))
v2=r0)->J3 l1 m1)->
(decide (256<=i1)=true->
J3 (ishr .u64 i1 8) (i64.wrap (k1+8)))/\
(decide (256<=i1)=false->
J3 i1 k1))->J2 i1 k1)->
(decide (65536<=b1)=true->
J2 (ishr .u64 b1 16) (i64.wrap (f1+16)))/\
(decide (65536<=b1)=false->
J2 b1 f1))->J1 b1 f1)->
(decide (4294967296<=p0)=true->
J1 (ishr .u64 p0 32) 32)/\
(decide (4294967296<=p0)=false->
J1 p0 0)) (by kernel_rfl)<|by
 rintro p0 h _ rfl
 intro J1 j1
 have j1:∀s0 s2:Int,0<=s0->s0<4294967296->0<=s2->s2<=32->len64 p0=s2+len64 s0->J1 s0 s2:=fun s0 s2 h0 h1 h2 h3 h4=>by
  refine j1 _ _ fun J2 j2=> ?_
  have j2:∀s0 s2:Int,0<=s0->s0<65536->0<=s2->s2<=48->len64 p0=s2+len64 s0->J2 s0 s2:=fun s0 s2 h0 h1 h2 h3 h4=>by
   refine j2 _ _ fun J3 j3=> ?_
   have j3:∀s0 s2:Int,0<=s0->s0<256->0<=s2->s2<=56->len64 p0=s2+len64 s0->J3 s0 s2:=fun s0 s2 h0 h1 h2 h3 h4=>by
    refine j3 _ _ ?_
    have e:IntKind.u8.wrap s0=s0:=by rw[u8w];omega
    have l:=kef s0 ⟨h0,h1⟩
    show(0<=IntKind.u8.wrap s0/\IntKind.u8.wrap s0<(tab8.size:Int))/\i64.wrap (s2+i64.wrap (byteAt tab8 (IntKind.u8.wrap s0)))=_
    rw[e,kfv,kca s0 ⟨h0,h1⟩,wi (len64 s0) (by omega) (by omega),wi (s2+len64 s0) (by omega) (by omega),h4]
    exact⟨⟨h0,h1⟩,rfl⟩
   refine⟨fun h=> ?_,fun h=>j3 s0 s2 h0 (by simpa using h) h2 (by omega) h4⟩
   have h:=of_decide_eq_true h
   rw[<-k41 s0 8 (by simpa using h),<-Int.add_assoc,Int.add_right_comm]at h4
   rw[ishr8,wi _ (by omega) (by omega)]
   exact j3 _ _ (by omega) (by omega) (by omega) (by omega) (by omega)
  refine⟨fun h=> ?_,fun h=>j2 s0 s2 h0 (by simpa using h) h2 (by omega) h4⟩
  have h:=of_decide_eq_true h
  rw[<-k41 s0 16 (by simpa using h),<-Int.add_assoc,Int.add_right_comm]at h4
  rw[ishr16,wi _ (by omega) (by omega)]
  exact j2 _ _ (by omega) (by omega) (by omega) (by omega) (by omega)
 refine⟨fun h1=> ?_,fun h1=> ?_⟩
 ·have h1:=of_decide_eq_true h1
  rw[ishr32]
  exact j1 _ _ (by omega) (by omega) (by omega) (by omega) (by rw[<-k41 p0 32 (by simpa using h1),Int.add_comm];rfl)
 ·exact j1 p0 0 h.1 (by simpa using h1) (by omega) (by omega) (by omega)
noncomputable def k3l:Con TB.den:= .gp 221 [yqu] [yqi] [] fun(p0:Int)=>(0<p0/\p0<18446744073709551616,(64-len64 p0:Int),())
theorem k3y:k3l.Ok Tryz.prog TB:=qrv Bs Tryz.func221 .no (kbu.c c0) (Q:=∀(p0:Int),(0<p0/\p0<18446744073709551616)->∀r0:Int,(64-len64 p0)=r0-> 
(U64 p0)/\i64.wrap (64-(len64 p0))=r0) (by kernel_rfl)<|by
 rintro p0 h _ rfl
 obtain⟨s,e,h1,_⟩:=k9f p0 h
 refine⟨⟨by omega,h.2⟩,?_⟩
 exact wi _ (by omega) (by omega)
noncomputable def k9z:Con TB.den:= .gp 187 [yqu,yqu,yqu] [yqu,yqu] [] fun(p0 p1 p2:Int)=>(U64 p0/\U64 p1/\U64 p2/\p0<p2,((p0*18446744073709551616+p1)/p2:Int),((p0*18446744073709551616+p1)%p2:Int),())
theorem kbn:k9z.Ok Tryz.prog TB:=qrv Bs Tryz.func187 (.r 13 (.jn ⟨[],[],[15,16],[.one (zqu),.one (.any)],[]⟩ [] (.lp [] ⟨[],[],[15,16],[.one (zqu),.one (zqu)],[]⟩ (.jn ⟨[],[],[],[],[]⟩ [] .no [] .no)) [] (.r 2 (.jn ⟨[],[],[16,18],[.one (.any),.one (zqu)],[]⟩ [] (.lp [] ⟨[],[],[16,18],[.one (zqu),.one (zqu)],[]⟩ (.jn ⟨[],[],[],[],[]⟩ [] .no [] .no)) [] .no)))) (k3y.c c0) (Q:=∀(p0 p1 p2:Int),(U64 p0/\U64 p1/\U64 p2/\p0<p2)->∀r0:Int,((p0*18446744073709551616+p1)/p2)=r0->∀r1:Int,((p0*18446744073709551616+p1)%p2)=r1-> 
((p2==0)=true->
False)/\
((p2==0)=false->
(decide (p2<=p0)=true->
False)/\
(decide (p2<=p0)=false->
((p0==0)=true->
(p2≠0)/\(p2≠0)/\u64.wrap (Int.tdiv p1 p2)=r0/\Int.tmod p1 p2=r1)/\
((p0==0)=false->
(0<p2/\p2<18446744073709551616)/\(0<=u64.wrap (64-len64 p2))/\let v2:Int:=ishl .u64 p2 (u64.wrap (64-len64 p2))
(0<=u64.wrap (64-len64 p2))/\let v3:Int:=ishl .u64 p0 (u64.wrap (64-len64 p2))
let v4:Int:=u64.wrap (64-(u64.wrap (64-len64 p2)))
(0<=v4)/\(0<=u64.wrap (64-len64 p2))/\let v5:Int:=ishl .u64 p1 (u64.wrap (64-len64 p2))
(ishr .u64 v2 32≠0)/\let v6:Int:=u64.wrap (Int.tdiv (ior .u64 v3 (ishr .u64 p1 v4)) (ishr .u64 v2 32))
let v7:Int:=u64.wrap (v6*(ishr .u64 v2 32))
let v8:Int:=u64.wrap ((ior .u64 v3 (ishr .u64 p1 v4))-v7)
∀J1:Int->Prop,(∀(b1:Int),
(let v12:Int:=u64.wrap ((ior .u64 v3 (ishr .u64 p1 v4))*4294967296)
let v13:Int:=u64.wrap (v12+(ishr .u64 v5 32))
let v14:Int:=u64.wrap (v13-(u64.wrap (b1*v2)))
(ishr .u64 v2 32≠0)/\let v15:Int:=u64.wrap (Int.tdiv v14 (ishr .u64 v2 32))
let v16:Int:=u64.wrap (v15*(ishr .u64 v2 32))
∀J3:Int->Prop,(∀(k1:Int),
(let v20:Int:=u64.wrap ((u64.wrap (b1*4294967296))+k1)
let v21:Int:=u64.wrap ((u64.wrap (v14*4294967296))+(iand .u64 v5 4294967295))
let v22:Int:=u64.wrap (v21-(u64.wrap (k1*v2)))
(0<=u64.wrap (64-len64 p2))/\let v23:Int:=ishr .u64 v22 (u64.wrap (64-len64 p2))
v20=r0/\v23=r1)->J3 k1)->
∃(I2:Int->Int->Prop) (M2:Int->Int->Nat),I2 (u64.wrap (v14-v16)) v15/\∀(l1 m1:Int),(I2 l1 m1->
∀J4:Prop,((let v19:Int:=u64.wrap (l1+(ishr .u64 v2 32))
(decide (4294967296<=v19)=true->
J3 (u64.wrap (m1-1)))/\
(decide (4294967296<=v19)=false->
I2 v19 (u64.wrap (m1-1))/\M2 v19 (u64.wrap (m1-1))<M2 l1 m1))->J4)->
(decide (4294967296<=m1)=true->
J4)/\
(decide (4294967296<=m1)=false->
let v17:Int:=u64.wrap (m1*(iand .u64 v2 4294967295))
let v18:Int:=u64.wrap ((u64.wrap (4294967296*l1))+(iand .u64 v5 4294967295))
(decide (v18<v17)=true->
J4)/\
(decide (v18<v17)=false->
J3 m1))))->J1 b1)->
∃(I1:Int->Int->Prop) (M1:Int->Int->Nat),I1 v6 v8/\∀(f1 i1:Int),(I1 f1 i1->
∀J2:Prop,((let v11:Int:=u64.wrap (i1+(ishr .u64 v2 32))
(decide (4294967296<=v11)=true->
J1 (u64.wrap (f1-1)))/\
(decide (4294967296<=v11)=false->
I1 (u64.wrap (f1-1)) v11/\M1 (u64.wrap (f1-1)) v11<M1 f1 i1))->J2)->
(decide (4294967296<=f1)=true->
J2)/\
(decide (4294967296<=f1)=false->
let v9:Int:=u64.wrap (f1*(iand .u64 v2 4294967295))
let v10:Int:=u64.wrap ((u64.wrap (4294967296*i1))+(ishr .u64 v5 32))
(decide (v10<v9)=true->
J2)/\
(decide (v10<v9)=false->
J1 f1))))))) (by kernel_rfl)<|by
 rintro p0 p1 p2 h _ rfl _ rfl
 obtain⟨h0,h1,h2,hlt⟩:=h
 refine⟨fun e=> ?_,fun _=>⟨fun e=> ?_,fun _=>⟨fun e=> ?_,fun _=> ?_⟩⟩⟩
 ·simp at e;omega
 ·simp at e;omega
 ·have e:p0=0:=by simpa using e
  subst e
  rw[tdiv_nn _ _ h1.1,tmod_nn _ _ h1.1,Int.zero_mul,Int.zero_add]
  have:=Int.ediv_le_self p2 h1.1
  have:=Int.ediv_nonneg h1.1 h2.1
  exact⟨by omega,by omega,wu _ (by omega) (by have:=Int.ediv_le_self p2 h1.1;omega),rfl⟩
 obtain⟨s,e,hs,n1,n2⟩:=k9f p2 ⟨by omega,h2.2⟩
 have ew:u64.wrap (64-len64 p2)=(s:Int):=by rw[e,wu _ (by omega) (by omega)]
 have ew3:u64.wrap (64-(s:Int))=((64-s:Nat):Int):=by rw[wu _ (by omega) (by omega)];omega
 have hp:0<2^s:=Nat.two_pow_pos s
 have hp' :0<2^(64-s):=Nat.two_pow_pos _
 have hpp:2^s*2^(64-s)=18446744073709551616:=by rw[<-Nat.pow_add,show s+(64-s)=64 by omega]
 have hP:((2^s:Nat):Int)*((2^(64-s):Nat):Int)=18446744073709551616:=by rw[<-Int.natCast_mul,hpp];rfl
 have il:∀a:Int,ishl .u64 a (s:Int)=a*((2^s:Nat):Int)%18446744073709551616:=fun a=>by rw[kgx,Int.toNat_natCast,Nat.min_eq_left (by omega)]
 have ir:∀a:Int,ishr .u64 a (s:Int)=a/((2^s:Nat):Int):=fun a=>by rw[k1x,Int.toNat_natCast,show min s u64.bits=s from Nat.min_eq_left (by show s<=64;omega)]
 have ir' :∀a:Int,ishr .u64 a ((64-s:Nat):Int)=a/((2^(64-s):Nat):Int):=fun a=>by rw[k1x,Int.toNat_natCast,show min (64-s) u64.bits=64-s from Nat.min_eq_left (by show 64-s<=64;omega)]
 have hor:∀c:Int,0<=c->c<((2^s:Nat):Int)->p0*((2^s:Nat):Int)+c<18446744073709551616->ior .u64 (p0*((2^s:Nat):Int)) c=p0*((2^s:Nat):Int)+c:=by
  intro c hc0 hc1 hc2
  obtain⟨a,rfl⟩:=Int.eq_ofNat_of_zero_le h0.1
  obtain⟨c,rfl⟩:=Int.eq_ofNat_of_zero_le hc0
  have key:=ior_add' c a s (by omega)
  rw[Int.mul_comm,<-Int.natCast_mul]at hc2 ⊢
  rw[key (by omega)]
  omega
 simp only[ew,ew3,il,ir',ishr32]
 have hP'0:(0:Int)<((2^(64-s):Nat):Int):=by omega
 generalize hPd:((2^s:Nat):Int)=P at *
 generalize hPd' :((2^(64-s):Nat):Int)=P' at *
 have hP0:0<P:=by omega
 have hlo:p1/P' <P:=Int.ediv_lt_of_lt_mul hP'0 (by omega)
 have hlo0:0<=p1/P' :=Int.ediv_nonneg h1.1 (by omega)
 have hUv:p0*P+P<=p2*P:=by
  have:(p0+1)*P<=p2*P:=Int.mul_le_mul_of_nonneg_right (by omega) (by omega)
  grind
 have hUp:0<=p0*P:=Int.mul_nonneg h0.1 (by omega)
 rw[Int.emod_eq_of_lt (a:=p2*P) (by omega) n2,Int.emod_eq_of_lt (a:=p0*P) hUp (by omega),hor _ hlo0 hlo (by omega)]
 have hN:(p0*18446744073709551616+p1)*P=(p0*P+p1/P')*18446744073709551616+(p1*P%18446744073709551616/4294967296)*4294967296+p1*P%18446744073709551616%4294967296:=by
  have h5:p1*P/18446744073709551616=p1/P' :=by
   rw[<-hP,Int.mul_comm p1 P,Int.mul_ediv_mul_of_pos _ _ hP0]
  have h6:=Int.emod_add_mul_ediv (p1*P) 18446744073709551616
  rw[h5]at h6
  have:(p0*18446744073709551616+p1)*P=p0*P*18446744073709551616+p1*P:=by grind
  rw[this]
  generalize p1*P=w at *
  generalize p0*P=w' at *
  omega
 have hlb:0<=p1*P%18446744073709551616/\p1*P%18446744073709551616<18446744073709551616:=⟨Int.emod_nonneg _ (by omega),Int.emod_lt_of_pos _ (by omega)⟩
 generalize hUd:p0*P+p1/P' =U at *
 generalize hLd:p1*P%18446744073709551616=L at *
 have hVd:p2*P/4294967296*4294967296+p2*P%4294967296=p2*P:=by omega
 have hw:∀{Q R V' :Int},R-Q=V'->0<=V'->V' <18446744073709551616->∀A,R=A*4294967296+(R-A*4294967296)->u64.wrap (u64.wrap (u64.wrap (A*4294967296)+(R-A*4294967296))-u64.wrap Q)=V' :=by
  intro Q R V' hv h0 h1 A hA
  simp only[u64w]
  omega
 rw[k1s (p2*P) (by omega),k1s L (by omega)]
 generalize ha:p2*P/4294967296=a at *
 generalize hb:p2*P%4294967296=b at *
 have hQ1:Half U (L/4294967296) a b ((U*4294967296+L/4294967296)/(a*4294967296+b)):=⟨by omega,by omega,by omega,by omega,by omega,rfl⟩
 have hr1:=hQ1.rest
 have hq1:=hQ1.q
 generalize (U*4294967296+L/4294967296)/(a*4294967296+b)=Q1 at *
 generalize (U*4294967296+L/4294967296)%(a*4294967296+b)=R1 at *
 have hQ0:Half R1 (L%4294967296) a b ((R1*4294967296+L%4294967296)/(a*4294967296+b)):=⟨by omega,by omega,by omega,by omega,by omega,rfl⟩
 have hr0:=hQ0.rest
 have hq0:=hQ0.q
 generalize (R1*4294967296+L%4294967296)/(a*4294967296+b)=Q0 at *
 generalize (R1*4294967296+L%4294967296)%(a*4294967296+b)=R0 at *
 rw[hVd]at hr1 hr0 hq1 hq0
 have fin:=kel hP0 (by omega:0<p2) hN hr1.1 hr0.1 ⟨hr0.2.1,hr0.2.2⟩
 have aux:∀{U x Q q r:Int},Half U x a b Q->U<18446744073709551616->q*a+r=U->Q<=q->0<=r->q<=8589934592:=by
  intro U x Q q r hh hU e hQ hr
  have h1:=hh.ha
  refine Int.le_of_lt_add_one (Int.lt_of_mul_lt_mul_right (a:=a) ?_ (by omega))
  generalize q*a=w at *
  omega
 have init:∀{U x Q:Int},Half U x a b Q->Q<=U/a:=by
  intro U x Q hh
  have h1:=hh.ha
  have h2:=hh.q
  have h3:=hh.hb
  have h4:=hh.hx
  refine(Int.le_ediv_iff_mul_le (by omega)).2 ?_
  have h5:Q*(a*4294967296+b)=Q*a*4294967296+Q*b:=by grind
  have h6:0<=Q*b:=Int.mul_nonneg h2.1 h3.1
  generalize Q*a=w at *
  omega
 have hd:=Int.emod_add_mul_ediv U a
 have hd1:=Int.emod_nonneg U (by omega:a≠0)
 have hd2:=Int.emod_lt_of_pos U (by omega:0<a)
 have hd3:0<=U/a:=Int.ediv_nonneg (by omega) (by omega)
 rw[Int.mul_comm]at hd
 have hd5:0<=U/a*a:=Int.mul_nonneg hd3 (by omega)
 have hd4:=aux hQ1 (by omega) (q:=U/a) (r:=U%a) (by omega) (init hQ1) hd1
 rw[tdiv_nn _ _ (by omega),wu (U/a) (by omega) (by omega),wu (U/a*a) (by omega) (by omega),show U-U/a*a=U%a by omega,wu (U%a) (by omega) (by omega)]
 refine⟨⟨by omega,h2.2⟩,by omega,by omega,by omega,by omega,by omega,fun J1 k1=> ?_⟩
 have j2:J1 Q1:=by
  have e1:=hw (Q:=Q1*(p2*P)) (R:=U*4294967296+L/4294967296) hr1.1 hr1.2.1 (by omega) U (by omega)
  rw[show U*4294967296+L/4294967296-U*4294967296=L/4294967296 by omega]at e1
  refine k1 _ ?_
  simp only[e1]
  have hd:=Int.emod_add_mul_ediv R1 a
  have hd1:=Int.emod_nonneg R1 (by omega:a≠0)
  have hd2:=Int.emod_lt_of_pos R1 (by omega:0<a)
  have hd3:0<=R1/a:=Int.ediv_nonneg hr1.2.1 (by omega)
  rw[Int.mul_comm]at hd
  have hd5:0<=R1/a*a:=Int.mul_nonneg hd3 (by omega)
  have hd4:=aux hQ0 (by omega) (q:=R1/a) (r:=R1%a) (by omega) (init hQ0) hd1
  rw[tdiv_nn _ _ hr1.2.1,wu (R1/a) (by omega) (by omega),wu (R1/a*a) (by omega) (by omega),show R1-R1/a*a=R1%a by omega,wu (R1%a) (by omega) (by omega)]
  refine⟨by omega,fun J3 k3=> ?_⟩
  have j4:J3 Q0:=by
   refine k3 _ ⟨by omega,?_,?_⟩
   ·rw[wu (Q1*4294967296) (by omega) (by omega),wu _ (by omega) (by omega)]
    exact fin.1
   ·have:=hw (Q:=Q0*(p2*P)) (R:=R1*4294967296+L%4294967296) hr0.1 hr0.2.1 (by omega) R1 (by omega)
    rw[show R1*4294967296+L%4294967296-R1*4294967296=L%4294967296 by omega]at this
    rw[this,ir]
    exact fin.2
  refine⟨fun r q=>q*a+r=R1/\Q0<=q/\0<=r/\r<4294967296,fun r q=>q.toNat,⟨by omega,init hQ0,hd1,by omega⟩,?_⟩
  rintro r q ⟨g1,g2,g3,g4⟩ J4 k4
  have g5:=aux hQ0 (by omega) g1 g2 g3
  have nxt:Q0<=q-1->r+a<4294967296->((q-1)*a+(r+a)=R1/\Q0<=q-1/\0<=r+a/\r+a<4294967296)/\(q-1).toNat<q.toNat:=fun h1 h2=>⟨⟨by grind,h1,by omega,h2⟩,by omega⟩
  have j3:Q0<=q-1->J4:=by
   intro hq
   refine k4 ?_
   rw[wu (q-1) (by omega) (by omega),wu (r+a) (by omega) (by omega)]
   refine⟨fun hd=> ?_,fun hd=>nxt hq (by simpa using hd)⟩
   have hd:4294967296<=r+a:=of_decide_eq_true hd
   rw[hQ0.done (q:=q-1) (r:=r+a) (by grind) hq hd]
   exact j4
  refine⟨fun hd=>j3 (hQ0.down g1 (.inl (of_decide_eq_true hd))),fun hd=> ?_⟩
  have hd:q<4294967296:=by simpa using hd
  have hqb:0<=q*b/\q*b<18446744073709551616:=by
   have:=hQ0.hb
   have h1:q*b<=4294967295*4294967295:=Int.mul_le_mul (by omega) (by omega) (by omega) (by omega)
   exact⟨Int.mul_nonneg (by omega) (by omega),by omega⟩
  have:=hQ0.hx
  rw[wu (q*b) (by omega) (by omega),wu (4294967296*r) (by omega) (by omega),wu (4294967296*r+L%4294967296) (by omega) (by omega)]
  refine⟨fun ht=> ?_,fun ht=> ?_⟩
  ·have ht:4294967296*r+L%4294967296<q*b:=of_decide_eq_true ht
   exact j3 (hQ0.down g1 (.inr (by omega)))
  ·have ht:¬(4294967296*r+L%4294967296<q*b):=of_decide_eq_false ht
   rw[hQ0.exit g1 g2 (by omega)]
   exact j4
 refine⟨fun q r=>q*a+r=U/\Q1<=q/\0<=r/\r<4294967296,fun q r=>q.toNat,⟨by omega,init hQ1,hd1,by omega⟩,?_⟩
 rintro q r ⟨g1,g2,g3,g4⟩ J2 k2
 have g5:=aux hQ1 (by omega) g1 g2 g3
 have nxt:Q1<=q-1->r+a<4294967296->((q-1)*a+(r+a)=U/\Q1<=q-1/\0<=r+a/\r+a<4294967296)/\(q-1).toNat<q.toNat:=fun h1 h2=>⟨⟨by grind,h1,by omega,h2⟩,by omega⟩
 have j1:Q1<=q-1->J2:=by
  intro hq
  refine k2 ?_
  rw[wu (q-1) (by omega) (by omega),wu (r+a) (by omega) (by omega)]
  refine⟨fun hd=> ?_,fun hd=>nxt hq (by simpa using hd)⟩
  have hd:4294967296<=r+a:=of_decide_eq_true hd
  rw[hQ1.done (q:=q-1) (r:=r+a) (by grind) hq hd]
  exact j2
 refine⟨fun hd=>j1 (hQ1.down g1 (.inl (of_decide_eq_true hd))),fun hd=> ?_⟩
 have hd:q<4294967296:=by simpa using hd
 have hqb:0<=q*b/\q*b<18446744073709551616:=by
  have:=hQ1.hb
  have h1:q*b<=4294967295*4294967295:=Int.mul_le_mul (by omega) (by omega) (by omega) (by omega)
  exact⟨Int.mul_nonneg (by omega) (by omega),by omega⟩
 have:=hQ1.hx
 rw[wu (q*b) (by omega) (by omega),wu (4294967296*r) (by omega) (by omega),wu (4294967296*r+L/4294967296) (by omega) (by omega)]
 refine⟨fun ht=> ?_,fun ht=> ?_⟩
 ·have ht:4294967296*r+L/4294967296<q*b:=of_decide_eq_true ht
  exact j1 (hQ1.down g1 (.inr (by omega)))
 ·have ht:¬(4294967296*r+L/4294967296<q*b):=of_decide_eq_false ht
  rw[hQ1.exit g1 g2 (by omega)]
  exact j2
noncomputable def ka7:Con TB.den:= .gp 186 [yqu,yqu] [yqu,yqu] [] fun(p0 p1:Int)=>(U64 p0/\U64 p1,(p0*p1/18446744073709551616:Int),(p0*p1%18446744073709551616:Int),())
theorem kbz:ka7.Ok Tryz.prog TB:=qrv Bs Tryz.func186 .no c0 (Q:=∀(p0 p1:Int),(U64 p0/\U64 p1)->∀r0:Int,(p0*p1/18446744073709551616)=r0->∀r1:Int,(p0*p1%18446744073709551616)=r1-> 
let v2:Int:=u64.wrap ((iand .u64 p0 4294967295)*(iand .u64 p1 4294967295))
let v3:Int:=u64.wrap ((ishr .u64 p0 32)*(iand .u64 p1 4294967295))
let v4:Int:=u64.wrap (v3+(ishr .u64 v2 32))
let v5:Int:=u64.wrap ((iand .u64 p0 4294967295)*(ishr .u64 p1 32))
let v6:Int:=u64.wrap ((iand .u64 v4 4294967295)+v5)
let v7:Int:=u64.wrap ((ishr .u64 p0 32)*(ishr .u64 p1 32))
let v8:Int:=u64.wrap (v7+(ishr .u64 v4 32))
let v9:Int:=u64.wrap (v8+(ishr .u64 v6 32))
v9=r0/\u64.wrap (p0*p1)=r1) (by kernel_rfl)<|by
 rintro p0 p1 h _ rfl _ rfl
 obtain⟨h0,h1⟩:=h
 have k:=kht p0 p1 h0 h1
 refine ?_
 simp only[k1s p0 h0,k1s p1 h1,ishr32]
 obtain⟨e,k1,k2,k3,k4,k5,k6,k7,k8⟩:=k
 rw[<-e]
 rw[wu (p0%4294967296*(p1%4294967296)) (by omega) (by omega),wu (p0/4294967296*(p1%4294967296)) (by omega) (by omega),wu (p0%4294967296*(p1/4294967296)) (by omega) (by omega),wu (p0/4294967296*(p1/4294967296)) (by omega) (by omega)]
 generalize p0%4294967296*(p1%4294967296)=a at *
 generalize p0/4294967296*(p1%4294967296)=b at *
 generalize p0%4294967296*(p1/4294967296)=c at *
 generalize p0/4294967296*(p1/4294967296)=d at *
 rw[wu (b+a/4294967296) (by omega) (by omega),k1s _ (by omega)]
 simp only[u64w]
 refine⟨?_,trivial⟩
 omega
noncomputable def kbi:Con TB.den:= .gp 209 [.st 7,yqu,yqu] [yqu] [] fun(p0:wl) (p1 p2:Int)=>(p0.P=18446744069414584321/\(0<=p1/\p1<18446744069414584321)/\(0<=p2/\p2<18446744069414584321),(p1*p2%18446744069414584321:Int),())
theorem k6d:kbi.Ok Tryz.prog TB:=qrv Bs Tryz.func209 .no (kbz.c (kbn.c c0)) (Q:=∀(p0:wl) (p1 p2:Int),(p0.P=18446744069414584321/\(0<=p1/\p1<18446744069414584321)/\(0<=p2/\p2<18446744069414584321))->∀r0:Int,(p1*p2%18446744069414584321)=r0-> 
(U64 p1/\U64 p2)/\(U64 (p1*p2/18446744073709551616)/\U64 (p1*p2%18446744073709551616)/\U64 p0.P/\(p1*p2/18446744073709551616)<p0.P)/\let r1:Int:=(((p1*p2/18446744073709551616)*18446744073709551616+(p1*p2%18446744073709551616))/p0.P)
let r2:Int:=(((p1*p2/18446744073709551616)*18446744073709551616+(p1*p2%18446744073709551616))%p0.P)
r2=r0) (by kernel_rfl)<|by
 rintro p0 p1 p2 h _ rfl
 obtain⟨hP,h1,h2⟩:=h
 have h3:0<=p1*p2:=Int.mul_nonneg h1.1 h2.1
 have h4:p1*p2<=18446744069414584320*18446744069414584320:=Int.mul_le_mul (by omega) (by omega) h2.1 (by omega)
 refine⟨⟨by omega,by omega⟩,?_⟩
 simp only[hP]
 generalize p1*p2=m at *
 refine⟨⟨⟨by omega,by omega⟩,⟨by omega,by omega⟩,by omega,by omega⟩,?_⟩
 rw[show m/18446744073709551616*18446744073709551616+m%18446744073709551616=m by omega]
noncomputable def kbm:Con TB.den:= .gp 170 [.st 7,yqu,yqu] [yqu] [] fun(p0:wl) (p1 p2:Int)=>(p0.P=18446744069414584321/\U64 p1/\U64 p2,(p1*p2%18446744069414584321:Int),())
theorem kcx:kbm.Ok Tryz.prog TB:=qrv Bs Tryz.func170 .no (k15.c (k1i.c (k6d.c c0))) (Q:=∀(p0:wl) (p1 p2:Int),(p0.P=18446744069414584321/\U64 p1/\U64 p2)->∀r0:Int,(p1*p2%18446744069414584321)=r0-> 
(p0.P=18446744069414584321)/\((!true)=true->
0=r0)/\
((!true)=false->
(0<p0.P/\0<=p1)/\(0<p0.P/\0<=p2)/\(p0.P=18446744069414584321/\(0<=(p1%p0.P)/\(p1%p0.P)<18446744069414584321)/\(0<=(p2%p0.P)/\(p2%p0.P)<18446744069414584321))/\let r1:Int:=((p1%p0.P)*(p2%p0.P)%18446744069414584321)
r1=r0)) (by kernel_rfl)<|by
 rintro p0 p1 p2 h _ rfl
 obtain⟨hP,h1,h2⟩:=h
 refine⟨hP,?_⟩
 simp only[hP]
 refine⟨fun h=>by simp at h,fun _=>⟨by omega,by omega,⟨by trivial,by omega,by omega⟩,?_⟩⟩
 exact(Int.mul_emod _ _ _).symm
noncomputable def k6s:Con TB.den:= .gp 232 [.st 7] [yqu,yqi,yqu] [] fun(p0:wl)=>(p0.P=18446744069414584321,(7:Int),(32:Int),(7:Int),())
theorem k7o:k6s.Ok Tryz.prog TB:=qrv Bs Tryz.func232 .no c0 (Q:=∀(p0:wl),(p0.P=18446744069414584321)->∀r0:Int,(7:Int)=r0->∀r1:Int,(32:Int)=r1->∀r2:Int,(7:Int)=r2-> 
((p0.P==17)=true->
3=r0/\4=r1/\3=r2)/\
((p0.P==17)=false->
((p0.P==97)=true->
5=r0/\5=r1/\5=r2)/\
((p0.P==97)=false->
((p0.P==193)=true->
5=r0/\6=r1/\5=r2)/\
((p0.P==193)=false->
((p0.P==257)=true->
3=r0/\8=r1/\3=r2)/\
((p0.P==257)=false->
((p0.P==12289)=true->
11=r0/\12=r1/\5=r2)/\
((p0.P==12289)=false->
((p0.P==65537)=true->
3=r0/\16=r1/\3=r2)/\
((p0.P==65537)=false->
((p0.P==18446744069414584321)=true->
7=r0/\32=r1/\7=r2)/\
((p0.P==18446744069414584321)=false->
0=r0/\0=r1/\0=r2)))))))) (by kernel_rfl)<|by
 rintro p0 h _ rfl _ rfl _ rfl
 refine ?_
 simp[h]
noncomputable def k6j:Con TB.den:= .gp 210 [.st 7] [yqu] [] fun(p0:wl)=>(p0.P=18446744069414584321,(7:Int),())
theorem k79:k6j.Ok Tryz.prog TB:=qrv Bs Tryz.func210 .no (k7o.c c0) (Q:=∀(p0:wl),(p0.P=18446744069414584321)->∀r0:Int,(7:Int)=r0-> 
(p0.P=18446744069414584321)/\7=r0) (by kernel_rfl)<|by
 rintro p0 h _ rfl
 exact⟨h,rfl⟩
noncomputable def kc0:Con TB.den:= .gp 233 [.st 7,yqu,yqu] [yqu] [] fun(p0:wl) (p1 p2:Int)=>(p0.P=18446744069414584321/\(0<=p1/\p1<18446744069414584321)/\U64 p2,(pw p1 p2:Int),())
theorem kc4:kc0.Ok Tryz.prog TB:=qrv Bs Tryz.func233 (.r 1 (.nd [] (.lp [] ⟨[],[],[1,2,7],[.one (zqu),.one (zqu),.one (zqu)],[]⟩ (.r 0 (.jn ⟨[],[],[7],[.one (zqu)],[]⟩ [] .no [] .no))) [] .no)) (k6d.c c0) (Q:=∀(p0:wl) (p1 p2:Int),(p0.P=18446744069414584321/\(0<=p1/\p1<18446744069414584321)/\U64 p2)->∀r0:Int,pw p1 p2=r0-> 
∃(I1:Int->Int->Int->Prop) (M1:Int->Int->Int->Nat),I1 p1 p2 1/\∀(b1 f1 i1:Int),(I1 b1 f1 i1->
(decide (0<f1)=true->
∀J1:Int->Prop,(∀(k1:Int),
((decide (0<(ishr .u64 f1 1))=true->
(p0.P=18446744069414584321/\(0<=b1/\b1<18446744069414584321)/\(0<=b1/\b1<18446744069414584321))/\I1 (b1*b1%18446744069414584321) (ishr .u64 f1 1) k1/\M1 (b1*b1%18446744069414584321) (ishr .u64 f1 1) k1<M1 b1 f1 i1)/\
(decide (0<(ishr .u64 f1 1))=false->
I1 b1 (ishr .u64 f1 1) k1/\M1 b1 (ishr .u64 f1 1) k1<M1 b1 f1 i1))->J1 k1)->
(((iand .u64 f1 1)==1)=true->
(p0.P=18446744069414584321/\(0<=i1/\i1<18446744069414584321)/\(0<=b1/\b1<18446744069414584321))/\J1 (i1*b1%18446744069414584321))/\
(((iand .u64 f1 1)==1)=false->
J1 i1))/\
(decide (0<f1)=false->
i1=r0))) (by kernel_rfl)<|by
 rintro p0 p1 p2 h _ rfl
 obtain⟨hP,h1,h2⟩:=h
 rw[hP]
 refine⟨fun a e r=>(0<=a/\a<18446744069414584321)/\U64 e/\(0<=r/\r<18446744069414584321)/\(r*a^e.toNat)%18446744069414584321=pw p1 p2,fun a e r=>e.toNat,⟨h1,h2,by omega,by rw[Int.one_mul];rfl⟩,?_⟩
 rintro a e r ⟨ha,he,hr,hv⟩
 refine⟨fun h J1 j=> ?_,fun h=> ?_⟩
 ·have h:=of_decide_eq_true h
  have jj:∀r',(0<=r'/\r' <18446744069414584321)->(r' *(a*a)^(e/2).toNat)%18446744069414584321=pw p1 p2->J1 r' :=by
   intro r' hr' hv'
   have hn:∀a',(0<=a'/\a' <18446744069414584321)->r' *a' ^(e/2).toNat%18446744069414584321=pw p1 p2->((0<=a'/\a' <18446744069414584321)/\U64 (e/2)/\(0<=r'/\r' <18446744069414584321)/\r' *a' ^(e/2).toNat%18446744069414584321=pw p1 p2)/\(e/2).toNat<e.toNat:=fun a' h1 h3=>⟨⟨h1,⟨by omega,by omega⟩,hr',h3⟩,by omega⟩
   refine j _ ?_
   rw[ishr1]
   refine⟨fun h=>⟨⟨rfl,ha,ha⟩,?_⟩,fun h=> ?_⟩
   ·refine hn _ ⟨Int.emod_nonneg _ (by omega),Int.emod_lt_of_pos _ (by omega)⟩ ?_
    rw[<-hv',Int.mul_emod,Int.mul_emod r' ((a*a)^_),ke1]
   ·have h:¬0<e/2:=of_decide_eq_false h
    refine hn _ ha ?_
    rw[show(e/2).toNat=0 by omega]at hv' ⊢
    simpa using hv'
  rw[kgy e he]
  have hpow:∀k:Nat,a^(2*k)=(a*a)^k:=fun k=>by rw[Int.pow_mul];congr 1;rw[Int.pow_succ,Int.pow_succ,Int.pow_zero,Int.one_mul]
  refine⟨fun h1=>⟨⟨rfl,hr,ha⟩,?_⟩,fun h1=> ?_⟩
  ·have h1:e%2=1:=by simpa using h1
   refine jj _ ⟨Int.emod_nonneg _ (by omega),Int.emod_lt_of_pos _ (by omega)⟩ ?_
   rw[<-hv,show e.toNat=2*(e/2).toNat+1 by omega,Int.pow_succ,hpow,Int.mul_emod,Int.emod_emod_of_dvd _ (Int.dvd_refl _),<-Int.mul_emod]
   congr 1
   grind
  ·have h1:¬e%2=1:=by simpa using h1
   refine jj _ hr ?_
   rw[<-hv,<-hpow,show e.toNat=2*(e/2).toNat by omega]
 ·have h:¬0<e:=of_decide_eq_false h
  rw[show e.toNat=0 by omega,Int.pow_zero,Int.mul_one,Int.emod_eq_of_lt hr.1 hr.2]at hv
  exact hv
noncomputable def kbo:Con TB.den:= .gp 211 [.st 7,yqu,yqu] [yqu] [] fun(p0:wl) (p1 p2:Int)=>(p0.P=18446744069414584321/\U64 p1/\U64 p2,(pw (p1%18446744069414584321) p2:Int),())
theorem kda:kbo.Ok Tryz.prog TB:=qrv Bs Tryz.func211 .no (k15.c (k1i.c (kc4.c c0))) (Q:=∀(p0:wl) (p1 p2:Int),(p0.P=18446744069414584321/\U64 p1/\U64 p2)->∀r0:Int,(pw (p1%18446744069414584321) p2)=r0-> 
(p0.P=18446744069414584321)/\((!true)=true->
0=r0)/\
((!true)=false->
(0<p0.P/\0<=p1)/\(p0.P=18446744069414584321/\(0<=(p1%p0.P)/\(p1%p0.P)<18446744069414584321)/\U64 p2)/\(pw (p1%p0.P) p2)=r0)) (by kernel_rfl)<|by
 rintro p0 p1 p2 h _ rfl
 obtain⟨hP,h1,h2⟩:=h
 refine⟨hP,fun h=>by simp at h,fun _=>⟨by omega,?_⟩⟩
 simp only[hP]
 exact⟨⟨by trivial,by omega,h2⟩,trivial⟩
noncomputable def k8r:Con TB.den:= .gp 234 [.st 7,yqu] [yqu] [] fun(p0:wl) (p1:Int)=>(p0.P=18446744069414584321/\U64 p1,(p1%18446744069414584321:Int),())
theorem k8w:k8r.Ok Tryz.prog TB:=qrv Bs Tryz.func234 .no (k15.c (k1i.c c0)) (Q:=∀(p0:wl) (p1:Int),(p0.P=18446744069414584321/\U64 p1)->∀r0:Int,(p1%18446744069414584321)=r0-> 
(p0.P=18446744069414584321)/\((!true)=true->
0=r0)/\
((!true)=false->
(0<p0.P/\0<=p1)/\(p1%p0.P)=r0)) (by kernel_rfl)<|by
 rintro p0 p1 h _ rfl
 obtain⟨hP,h1⟩:=h
 refine⟨hP,fun h=>by simp at h,fun _=>⟨by omega,?_⟩⟩
 simp only[hP]
noncomputable def k3a:Con TB.den:= .gp 212 [yqu,yqi,yqi] [yqu] [] fun(p0 p1 p2:Int)=>(p0=18446744069414584321/\(0<=p1/\p1<8)/\0<=p2/\p2<3,(rc p1 p2:Int),())
theorem k3k:k3a.Ok Tryz.prog TB:=qrv Bs Tryz.func212 .no (k8w.c c0) (Q:=∀(p0 p1 p2:Int),(p0=18446744069414584321/\(0<=p1/\p1<8)/\0<=p2/\p2<3)->∀r0:Int,rc p1 p2=r0-> 
(decide (p1<0)=true->
0=r0)/\
(decide (p1<0)=false->
(decide (8<=p1)=true->
0=r0)/\
(decide (8<=p1)=false->
(decide (p2<0)=true->
0=r0)/\
(decide (p2<0)=false->
(decide (2<p2)=true->
0=r0)/\
(decide (2<p2)=false->
let v1:Int:=i64.wrap ((i64.wrap (3*p1))+p2)
let v2:Int:=u64.wrap (i64.wrap (v1+1))
let v3:Int:=u64.wrap (v2*11400714819323198485)
((wl.mk p0).P=18446744069414584321/\U64 v3)/\(v3%18446744069414584321)=r0))))) (by kernel_rfl)<|by
 rintro p0 p1 p2 h _ rfl
 obtain⟨hP,h1,h2⟩:=h
 refine⟨fun h=> ?_,fun _=>⟨fun h=> ?_,fun _=>⟨fun h=> ?_,fun _=>⟨fun h=> ?_,fun _=> ?_⟩⟩⟩⟩
 ·simp at h;omega
 ·simp at h;omega
 ·simp at h;omega
 ·simp at h;omega
 ·simp only[]
  rw[wi (3*p1) (by omega) (by omega),wi (3*p1+p2) (by omega) (by omega),wi (3*p1+p2+1) (by omega) (by omega),wu (3*p1+p2+1) (by omega) (by omega),u64w]
  exact⟨⟨hP,by omega,by omega⟩,rfl⟩
noncomputable def k5u:Con TB.den:= .gp 213 [yqu,.st 8] [.st 8] [] fun(p0:Int) (p1:wz)=>(p0=18446744069414584321/\S3 p1,(mixS p1:wz),())
theorem k6b:k5u.Ok Tryz.prog TB:=qrv Bs Tryz.func213 .no (k3g.c c0) (Q:=∀(p0:Int) (p1:wz),(p0=18446744069414584321/\S3 p1)->∀r0:wz,mixS p1=r0-> 
((wl.mk p0).P=18446744069414584321/\U64 p1.a0/\U64 p1.a1)/\((wl.mk p0).P=18446744069414584321/\U64 ((p1.a0+p1.a1)%18446744069414584321)/\U64 p1.a2)/\let r1:Int:=((((p1.a0+p1.a1)%18446744069414584321)+p1.a2)%18446744069414584321)
((wl.mk p0).P=18446744069414584321/\U64 p1.a0/\U64 r1)/\((wl.mk p0).P=18446744069414584321/\U64 p1.a1/\U64 r1)/\((wl.mk p0).P=18446744069414584321/\U64 p1.a2/\U64 r1)/\((p1.a0+r1)%18446744069414584321)=r0.a0/\((p1.a1+r1)%18446744069414584321)=r0.a1/\((p1.a2+r1)%18446744069414584321)=r0.a2) (by kernel_rfl)<|by
 rintro p0 p1 h _ rfl
 obtain⟨hP,h0,h1,h2⟩:=h
 refine ?_
 simp only[hP]
 exact⟨⟨by trivial,h0,h1⟩,⟨by trivial,by omega,h2⟩,⟨by trivial,h0,by omega⟩,⟨by trivial,h1,by omega⟩,⟨by trivial,h2,by omega⟩,rfl,rfl,rfl⟩
noncomputable def k3m:Con TB.den:= .gp 171 [yqu,.st 8] [.st 8] [] fun(p0:Int) (p1:wz)=>(p0=18446744069414584321/\S3 p1,(permS p1:wz),())
theorem k46:k3m.Ok Tryz.prog TB:=qrv Bs Tryz.func171 (.r 3 (.nd [] (.r 0 (.lp [] ⟨[0],[.cells [zqu,zqu,zqu]],[17],[.one (zqi)],[]⟩ (.r 1 (.nd [] (.r 0 (.nd [] (.r 0 (.lp [] ⟨[0],[.cells [zqu,zqu,zqu]],[20],[.one (zqi)],[]⟩ .no)) [] .no)) [] .no)))) [] .no)) (k15.c (k79.c (k3k.c (k3g.c (kda.c (k6b.c c0)))))) (Q:=∀(p0:Int) (p1:wz),(p0=18446744069414584321/\S3 p1)->∀r0:wz,permS p1=r0-> 
((wl.mk p0).P=18446744069414584321)/\((!true)=true->
0=r0.a0/\0=r0.a1/\0=r0.a2)/\
((!true)=false->
((wl.mk p0).P=18446744069414584321)/\∃(I1:Int->Int->Int->Int->Prop) (M1:Int->Int->Int->Int->Nat),I1 0 p1.a0 p1.a1 p1.a2/\∀(b1 f1 i1 k1:Int),(I1 b1 f1 i1 k1->
(decide (b1<8)=true->
∃(I2:Int->Int->Int->Int->Prop) (M2:Int->Int->Int->Int->Nat),I2 0 f1 i1 k1/\∀(l1 m1 n1 o1:Int),(I2 l1 m1 n1 o1->
(decide (l1<3)=true->
(0<=l1/\l1<(3:Int))/\(0<=l1/\l1<(3:Int))/\(p0=18446744069414584321/\(0<=b1/\b1<8)/\0<=l1/\l1<3)/\((wl.mk p0).P=18446744069414584321/\U64 (ix [m1,n1,o1] l1)/\U64 (rc b1 l1))/\let r1:Int:=(((ix [m1,n1,o1] l1)+(rc b1 l1))%18446744069414584321)
((wl.mk p0).P=18446744069414584321/\U64 r1/\U64 (7:Int))/\let r2:Int:=(pw (r1%18446744069414584321) (7:Int))
(0<=l1/\l1<(3:Int))/\(0<=l1/\l1<(3:Int))/\I2 (i64.wrap (l1+1)) (bif decide (l1=(0:Int))then r2 else m1) (bif decide (l1=(1:Int))then r2 else n1) (bif decide (l1=(2:Int))then r2 else o1)/\M2 (i64.wrap (l1+1)) (bif decide (l1=(0:Int))then r2 else m1) (bif decide (l1=(1:Int))then r2 else n1) (bif decide (l1=(2:Int))then r2 else o1)<M2 l1 m1 n1 o1)/\
(decide (l1<3)=false->
(p0=18446744069414584321/\S3 (wz.mk m1 n1 o1))/\I1 (i64.wrap (b1+1)) ((mixS (wz.mk m1 n1 o1)).a0) ((mixS (wz.mk m1 n1 o1)).a1) ((mixS (wz.mk m1 n1 o1)).a2)/\M1 (i64.wrap (b1+1)) ((mixS (wz.mk m1 n1 o1)).a0) ((mixS (wz.mk m1 n1 o1)).a1) ((mixS (wz.mk m1 n1 o1)).a2)<M1 b1 f1 i1 k1)))/\
(decide (b1<8)=false->
f1=r0.a0/\i1=r0.a1/\k1=r0.a2)))) (by kernel_rfl)<|by
 rintro p0 p1 h _ rfl
 obtain⟨hP,hs⟩:=h
 subst hP
 refine⟨rfl,fun h=>by simp at h,fun _=>⟨rfl,?_⟩⟩
 refine⟨(fun n a b c=>0<=n/\n<=8/\(⟨a,b,c⟩:wz)=rnds n.toNat p1/\S3 ⟨a,b,c⟩),(fun n _ _ _=>(8-n).toNat),⟨by omega,by omega,rfl,hs⟩,?_⟩
 rintro n a b c ⟨g0,g1,g2,g3⟩
 refine⟨fun h=> ?_,fun h=> ?_⟩
 ·have h:=of_decide_eq_true h
  refine⟨(fun i x y z=>(i=0/\x=a/\y=b/\z=c)∨(i=1/\x=pw ((a+rc n 0)%18446744069414584321) 7/\y=b/\z=c)∨(i=2/\x=pw ((a+rc n 0)%18446744069414584321) 7/\y=pw ((b+rc n 1)%18446744069414584321) 7/\z=c)∨(i=3/\x=pw ((a+rc n 0)%18446744069414584321) 7/\y=pw ((b+rc n 1)%18446744069414584321) 7/\z=pw ((c+rc n 2)%18446744069414584321) 7)),(fun i _ _ _=>(3-i).toNat),(.inl ⟨rfl,rfl,rfl,rfl⟩),?_⟩
  intro i x y z hi
  have hrc:∀k,U64 (rc n k):=fun k=>by unfold rc;omega
  have hpw:∀k e,0<=pw k e/\pw k e<18446744069414584321:=fun k e=>⟨Int.emod_nonneg _ (by omega),Int.emod_lt_of_pos _ (by omega)⟩
  obtain⟨h3a,h3b,h3c⟩:=g3
  refine⟨fun hh=> ?_,fun hh=> ?_⟩
  ·have hh:=of_decide_eq_true hh
   rcases hi with⟨rfl,rfl,rfl,rfl⟩|⟨rfl,rfl,rfl,rfl⟩|⟨rfl,rfl,rfl,rfl⟩|⟨rfl,_⟩
   ·refine⟨by omega,by omega,⟨rfl,by omega,by omega⟩,⟨rfl,h3a,hrc _⟩,⟨rfl,?_,by omega⟩,by omega,by omega,.inr (.inl ⟨rfl,?_,rfl,rfl⟩),by(dsimp only;decide)⟩
    ·exact⟨Int.emod_nonneg _ (by omega),Int.lt_trans (Int.emod_lt_of_pos _ (by omega)) (by omega)⟩
    ·show pw ((x+rc n 0)%18446744069414584321%18446744069414584321) 7=_
     rw[Int.emod_emod_of_dvd _ (Int.dvd_refl _)]
   ·refine⟨by omega,by omega,⟨rfl,by omega,by omega⟩,⟨rfl,h3b,hrc _⟩,⟨rfl,?_,by omega⟩,by omega,by omega,.inr (.inr (.inl ⟨rfl,rfl,?_,rfl⟩)),by(dsimp only;decide)⟩
    ·exact⟨Int.emod_nonneg _ (by omega),Int.lt_trans (Int.emod_lt_of_pos _ (by omega)) (by omega)⟩
    ·show pw ((y+rc n 1)%18446744069414584321%18446744069414584321) 7=_
     rw[Int.emod_emod_of_dvd _ (Int.dvd_refl _)]
   ·refine⟨by omega,by omega,⟨rfl,by omega,by omega⟩,⟨rfl,h3c,hrc _⟩,⟨rfl,?_,by omega⟩,by omega,by omega,.inr (.inr (.inr ⟨rfl,rfl,rfl,?_⟩)),by(dsimp only;decide)⟩
    ·exact⟨Int.emod_nonneg _ (by omega),Int.lt_trans (Int.emod_lt_of_pos _ (by omega)) (by omega)⟩
    ·show pw ((z+rc n 2)%18446744069414584321%18446744069414584321) 7=_
     rw[Int.emod_emod_of_dvd _ (Int.dvd_refl _)]
   ·omega
  ·have hh:=of_decide_eq_false hh
   rcases hi with⟨rfl,_⟩|⟨rfl,_⟩|⟨rfl,_⟩|⟨rfl,rfl,rfl,rfl⟩
   ·omega
   ·omega
   ·omega
   ·have e:rnds (n+1).toNat p1=rnd ⟨a,b,c⟩ n:=by
     rw[show(n+1).toNat=n.toNat+1 by omega]
     show rnd (rnds n.toNat p1) (n.toNat:Int)=_
     rw[<-g2,show(n.toNat:Int)=n by omega]
    have hS:S3 (rnds (n+1).toNat p1):=by
     rw[e]
     unfold rnd mixS S3
     dsimp only
     omega
    have hinc:i64.wrap (n+1)=n+1:=wi _ (by omega) (by omega)
    rw[hinc]
    refine⟨⟨rfl,by unfold S3;have:=hpw ((a+rc n 0)%18446744069414584321) 7;have:=hpw ((b+rc n 1)%18446744069414584321) 7;have:=hpw ((c+rc n 2)%18446744069414584321) 7;dsimp only;omega⟩,(?_:0<=n+1/\n+1<=8/\_/\_),(?_:(8-(n+1)).toNat<(8-n).toNat)⟩
    ·refine⟨by omega,by omega,e.symm,?_⟩
     rw[e]at hS
     exact hS
    ·omega
 ·have h:=of_decide_eq_false h
  rw[show n=8 by omega]at g2
  have g2:(⟨a,b,c⟩:wz)=permS p1:=g2
  rw[<-g2]
  exact⟨rfl,rfl,rfl⟩
noncomputable def k6x:Con TB.den:= .gp 114 [yqu,yqu,.sl yqu] [.st 8] [] fun(p0 p1:Int) (p2:List Int)=>(p0=18446744069414584321/\U64 p1/\Us p2/\p2.length<=1099511627776,(absS p1 p2:wz),())
theorem k7u:k6x.Ok Tryz.prog TB:=qrv Bs Tryz.func114 (.r 3 (.nd [] (.r 0 (.lp [] ⟨[38],[.cells [zqu,zqu,zqu]],[9],[.one (zqi)],[]⟩ (.r 0 (.nd [] (.r 0 (.jn ⟨[38],[.cells [zqu,zqu,zqu]],[],[],[]⟩ [] .no [] .no)) [] .no)))) [] .no)) (kcx.c (k3g.c (k46.c c0))) (Q:=∀(p0 p1:Int) (p2:List Int),(p0=18446744069414584321/\U64 p1/\Us p2/\p2.length<=1099511627776)->∀r0:wz,absS p1 p2=r0-> 
((wl.mk p0).P=18446744069414584321/\U64 p1/\U64 (65536:Int))/\let r1:Int:=(p1*(65536:Int)%18446744069414584321)
((wl.mk p0).P=18446744069414584321/\U64 r1/\U64 (u64.wrap (p2.length:Int)))/\let r2:Int:=((r1+(u64.wrap (p2.length:Int)))%18446744069414584321)
(((p2.length:Int)==0)=true->
(p0=18446744069414584321/\S3 (wz.mk 0 0 r2))/\(permS (wz.mk 0 0 r2)).a0=r0.a0/\(permS (wz.mk 0 0 r2)).a1=r0.a1/\(permS (wz.mk 0 0 r2)).a2=r0.a2)/\
(((p2.length:Int)==0)=false->
∃(I1:Int->Int->Int->Int->Prop) (M1:Int->Int->Int->Int->Nat),I1 0 0 0 r2/\∀(b1 f1 i1 k1:Int),(I1 b1 f1 i1 k1->
(decide (b1<(p2.length:Int))=true->
(0<=b1)/\b1<(p2.length:Int)/\((wl.mk p0).P=18446744069414584321/\U64 f1/\U64 (ix p2 b1))/\let r3:Int:=((f1+(ix p2 b1))%18446744069414584321)
∀J1:Int->Int->Int->Prop,(∀(l1 m1 n1:Int),
((p0=18446744069414584321/\S3 (wz.mk l1 m1 n1))/\I1 (i64.wrap (b1+2)) ((permS (wz.mk l1 m1 n1)).a0) ((permS (wz.mk l1 m1 n1)).a1) ((permS (wz.mk l1 m1 n1)).a2)/\M1 (i64.wrap (b1+2)) ((permS (wz.mk l1 m1 n1)).a0) ((permS (wz.mk l1 m1 n1)).a1) ((permS (wz.mk l1 m1 n1)).a2)<M1 b1 f1 i1 k1)->J1 l1 m1 n1)->
let v4:Bool:=decide ((i64.wrap (b1+1))<(p2.length:Int))
(v4=true->
(0<=i64.wrap (b1+1))/\i64.wrap (b1+1)<(p2.length:Int)/\((wl.mk p0).P=18446744069414584321/\U64 i1/\U64 (ix p2 (i64.wrap (b1+1))))/\let r5:Int:=((i1+(ix p2 (i64.wrap (b1+1))))%18446744069414584321)
J1 r3 r5 k1)/\
(v4=false->
J1 r3 i1 k1))/\
(decide (b1<(p2.length:Int))=false->
f1=r0.a0/\i1=r0.a1/\k1=r0.a2)))) (by kernel_rfl)<|by
 rintro p0 p1 p2 h _ rfl
 obtain⟨hP,h1,h2,h3⟩:=h
 subst hP
 have hp:∀s:wz,S3 (permS s):=fun s=>by
  show S3 (rnd _ _)
  unfold rnd mixS S3
  dsimp only
  omega
 have hi:S3 (absI p1 p2):=by unfold absI S3;dsimp only;omega
 have e:u64.wrap (p2.length:Int)=p2.length:=wu _ (by omega) (by omega)
 have em:(p1*65536%18446744069414584321+(p2.length:Int))%18446744069414584321=(absI p1 p2).a2:=rfl
 rw[e]
 refine⟨⟨rfl,h1,by omega⟩,⟨rfl,by omega,by omega⟩,fun h=> ?_,fun h=> ?_⟩
 ·have h:p2=[]:=by simpa using h
  refine⟨⟨rfl,?_⟩,?_⟩
  ·exact hi
  ·have:permS ⟨0,0,(p1*65536%18446744069414584321+(p2.length:Int))%18446744069414584321⟩=absS p1 p2:=by unfold absS;rw[if_pos h];rfl
   rw[this]
   exact⟨rfl,rfl,rfl⟩
 ·have h:p2≠[]:=by simpa using h
  have hv:absL p2 (absI p1 p2)=absS p1 p2:=by unfold absS;rw[if_neg h]
  rw[em]
  refine⟨fun i a b c=>0<=i/\i<=p2.length+1/\absL (p2.drop i.toNat) ⟨a,b,c⟩=absS p1 p2/\S3 ⟨a,b,c⟩,fun i _ _ _=>(p2.length+2-i).toNat,⟨by omega,by omega,hv,hi⟩,?_⟩
  rintro i a b c ⟨g0,g1,g2,g3⟩
  obtain⟨h3a,h3b,h3c⟩:=g3
  refine⟨fun hh=> ?_,fun hh=> ?_⟩
  ·have hh:=of_decide_eq_true hh
   have hx:=h2 _ (ix_mem p2 i g0 hh)
   refine⟨g0,hh,⟨rfl,h3a,hx⟩,fun J1 j=> ?_⟩
   rw[wi (i+1) (by omega) (by omega)]
   have fin:∀x y z,S3 ⟨x,y,z⟩->absL (p2.drop (i+2).toNat) (permS ⟨x,y,z⟩)=absS p1 p2->J1 x y z:=by
    intro x y z hS hv'
    refine j _ _ _ ?_
    rw[wi (i+2) (by omega) (by omega)]
    exact⟨⟨rfl,hS⟩,⟨by omega,by omega,hv',hp _⟩,by(dsimp only;omega)⟩
   have hdrop:=drop_ix p2 i g0 hh
   rw[hdrop]at g2
   refine⟨fun h5=> ?_,fun h5=> ?_⟩
   ·have h5:=of_decide_eq_true h5
    have hy:=h2 _ (ix_mem p2 (i+1) (by omega) h5)
    rw[drop_ix p2 (i+1) (by omega) h5,show i+1+1=i+2 by omega]at g2
    exact⟨by omega,h5,⟨rfl,h3b,hy⟩,fin _ _ _ (S3m (by omega) (by omega) h3c) g2⟩
   ·have h5:=of_decide_eq_false h5
    have ed:p2.drop (i+1).toNat=[]:=List.drop_eq_nil_of_le (by omega)
    have ed2:p2.drop (i+2).toNat=[]:=List.drop_eq_nil_of_le (by omega)
    rw[ed]at g2
    exact fin _ _ _ (S3m (by omega) h3b h3c) (by rw[ed2];exact g2)
  ·have hh:=of_decide_eq_false hh
   rw[List.drop_eq_nil_of_le (by omega)]at g2
   have g2:(⟨a,b,c⟩:wz)=absS p1 p2:=g2
   rw[<-g2]
   exact⟨rfl,rfl,rfl⟩
noncomputable def k9t:Con TB.den:= .gp 79 [yqu,yqu,.sl yqu] [yqu] [] fun(p0 p1:Int) (p2:List Int)=>(p0=18446744069414584321/\U64 p1/\Us p2/\p2.length<=1099511627776,(hashS p1 p2:Int),())
theorem k4a:k9t.Ok Tryz.prog TB:=qrv Bs Tryz.func79 .no (k15.c (k7u.c c0)) (Q:=∀(p0 p1:Int) (p2:List Int),(p0=18446744069414584321/\U64 p1/\Us p2/\p2.length<=1099511627776)->∀r0:Int,hashS p1 p2=r0-> 
((wl.mk p0).P=18446744069414584321)/\((!true)=true->
0=r0)/\
((!true)=false->
(p0=18446744069414584321/\U64 p1/\Us p2/\p2.length<=1099511627776)/\(absS p1 p2).a0=r0)) (by kernel_rfl)<|by
 rintro p0 p1 p2 h _ rfl
 obtain⟨hP,h1,h2,h3⟩:=h
 subst hP
 exact⟨rfl,fun h=>by simp at h,fun _=>⟨⟨rfl,h1,h2,h3⟩,rfl⟩⟩
noncomputable def k6u:Con TB.den:= .gp 100 [yqu,yqu] [yqu] [] fun(p0 p1:Int)=>(U64 p0/\U64 p1,(hashS 6 [p0,p1]:Int),())
theorem k1y:k6u.Ok Tryz.prog TB:=qrv Bs Tryz.func100 .no (k4a.c c0) (Q:=∀(p0 p1:Int),(U64 p0/\U64 p1)->∀r0:Int,(hashS 6 [p0,p1])=r0-> 
((18446744069414584321:Int)=18446744069414584321/\U64 (6:Int)/\Us [p0,p1]/\[p0,p1].length<=1099511627776)/\(hashS (6:Int) [p0,p1])=r0) (by kernel_rfl)<|by
 rintro p0 p1 h _ rfl
 refine⟨⟨rfl,by decide,?_,by simp⟩,rfl⟩
 intro x hx
 simp only[List.mem_cons,List.not_mem_nil,or_false]at hx
 rcases hx with rfl|rfl
 ·exact h.1
 ·exact h.2
noncomputable def k8o:Con TB.den:= .g ⟨69,[.one (zql)],[],(.one (.one (.row 0))),[.vec yqu],false⟩ [.sl yqu] [.sl yqu] [] fun(p0:List Int)=>(p0.length<=4294967295,p0,())
theorem k8x:k8o.Ok Tryz.prog TB:=prx Bs [5,7] Tryz.func69 (.r 0 (.nd [] (.r 0 (.nd [] (.r 0 (.rt [.rnil 2 yqu])) [] .no)) [] .no)) x0 c0 (Q:=∀(p0:List Int),(p0.length<=4294967295)->∀e0:List Int,p0=e0-> 
∀z4:Bool,(z4=true->p0=[])->(z4=true->
(0=([]:List Int).length)/\([]:List Int)=e0)/\
(z4=false->
([]:List Int).length=([]:List Int).length/\(([]:List Int).length+p0.length)*8<=140737488355328/\([]:List Int).length+p0.length<=maxLen/\((([]:List Int)++p0).length=(([]:List Int)++p0).length)/\([]:List Int)++p0=e0)) (by kernel_rfl)<|by
 rintro p0 h _ rfl
 exact fun z hz=>⟨fun h=>⟨rfl,(hz h).symm⟩,fun h=>⟨rfl,by simp;omega,by simp;unfold maxLen;omega,rfl,rfl⟩⟩
noncomputable def k5q:Con TB.den:= .gp 150 [.st 6,yqu] [.st 6,yqi] [] fun(p0:wC) (p1:Int)=>(FV p0/\p0.wX<((2^p0.wD.toNat:Nat):Int)/\0<=p1/\p1<18446744069414584321,(apF p0 p1:wC),(0:Int),())
theorem k6h:k5q.Ok Tryz.prog TB:=qrv Bs Tryz.func150 (.r 0 (.nd [] (.jn ⟨[],[],[15],[.one (.d (.bool))],[]⟩ [] .no [] .no) [] (.r 2 (.nd [] (.lp [] ⟨[26],[.vec yqu],[7,8],[.one (zqi),.one (zqu)],[]⟩ .no) [] (.r 1 (.rt [.frzc 26 1 2])))))) (k2t.c (k8x.c (k1y.c c0))) (Q:=∀(p0:wC) (p1:Int),(FV p0/\p0.wX<((2^p0.wD.toNat:Nat):Int)/\0<=p1/\p1<18446744069414584321)->∀r0:wC,apF p0 p1=r0->∀r1:Int,(0:Int)=r1-> 
∀J1:Bool->Prop,(∀(b1:Bool),
((b1=true->
0=r0.wD/\0=r0.wX/\([]:List Int)=r0.wa/\1=r1)/\
(b1=false->
(0<=p0.wD)/\((p0.wX==(ishl .i64 1 p0.wD))=true->
0=r0.wD/\0=r0.wX/\([]:List Int)=r0.wa/\16=r1)/\
((p0.wX==(ishl .i64 1 p0.wD))=false->
(p0.wa.length<=4294967295)/\∃(I1:Int->Int->(List Int)->Prop) (M1:Int->Int->(List Int)->Nat),I1 0 p1 p0.wa/\∀(f1 i1:Int) (k1:List Int),(I1 f1 i1 k1->
(0<=f1)/\let v2:Bool:=((iand .i64 (ishr .i64 p0.wX f1) 1)==1)
(v2=true->
(0<=f1/\f1<(p0.wa.length:Int))/\(0<=f1/\f1<(k1.length:Int))/\(U64 (ix k1 f1)/\U64 i1)/\(0<=f1/\f1<(p0.wa.length:Int))/\(0<=f1/\f1<(k1.length:Int))/\I1 (i64.wrap (f1+1)) (hashS 6 [(ix k1 f1),i1]) (k1.set f1.toNat 0)/\M1 (i64.wrap (f1+1)) (hashS 6 [(ix k1 f1),i1]) (k1.set f1.toNat 0)<M1 f1 i1 k1)/\
(v2=false->
(0<=f1/\f1<(p0.wa.length:Int))/\(0<=f1/\f1<(k1.length:Int))/\(p0.wa.length=(k1.set f1.toNat i1).length)/\p0.wD=r0.wD/\i64.wrap (p0.wX+1)=r0.wX/\k1.set f1.toNat i1=r0.wa/\0=r1)))))->J1 b1)->
(FV p0)/\((!true)=true->
J1 true)/\
((!true)=false->
J1 (decide (18446744069414584321<=p1)))) (by kernel_rfl)<|by
 rintro p0 p1 h _ rfl _ rfl
 obtain⟨hv,hc,hx0,hx1⟩:=h
 obtain⟨d1,d2,c0,c1,ll,u,z⟩:=id hv
 obtain⟨d,hd⟩:=Int.eq_ofNat_of_zero_le (show 0<=p0.wD by omega)
 obtain⟨n,hn⟩:=Int.eq_ofNat_of_zero_le c0
 have hdn:p0.wD.toNat=d:=by omega
 have hp:=pow12 d (by omega)
 rw[hdn]at c1 ll hc
 have hnd:n<2^d:=by omega
 have hbd:=kf8 hnd
 refine fun J1 j=>⟨hv,fun e=>(by cases e),fun _=> ?_⟩
 refine j _ ⟨fun e=>(by have:=of_decide_eq_true e;omega),fun _=>⟨by omega,?_⟩⟩
 rw[hd,shl1 d (by omega),hn]
 have hne:¬(n:Int)=((2^d:Nat):Int):=by omega
 refine⟨fun e=>(hne (by simpa using e)).elim,fun _=>⟨by omega,?_⟩⟩
 refine⟨fun a x g=>∃i:Nat,a=(i:Int)/\i<=d/\g.length=d+1/\(∀y∈g,0<=y/\y<18446744069414584321)/\(0<=x/\x<18446744069414584321)/\carry (d+1-i) i g x n=carry (d+1) 0 p0.wa p1 n,fun a _ _=>(d-a).toNat,⟨0,rfl,by omega,ll,u,⟨hx0,hx1⟩,rfl⟩,?_⟩
 rintro _ x g ⟨i,rfl,hi,hgl,hgu,hx,hcy⟩
 have hs:i<g.length:=by omega
 have hgx:=hgu _ (List.getElem_mem hs)
 generalize hR:carry (d+1) 0 p0.wa p1 n=R at hcy
 rw[show d+1-i=d-i+1 by omega]at hcy
 unfold carry at hcy
 have hbit:=bit1 n i (by omega) (by omega)
 refine⟨by omega,fun e=> ?_,fun e=> ?_⟩
 ·have e2:((n/2^i%2:Nat):Int)=1:=by rw[hbit]at e;simpa using e
  have hb:bitN n i=true:=by unfold bitN;generalize n/2^i%2=q at *;simp;omega
  have hid:i<d:=by
   rcases Nat.lt_or_ge i d with h1|h1
   ·exact h1
   ·have:i=d:=by omega
    subst this
    rw[hbd]at hb
    cases hb
  rw[if_pos hb]at hcy
  rw[inc_i64 _ (by omega),Int.toNat_natCast]
  refine⟨⟨by omega,by omega⟩,⟨by omega,by omega⟩,?_,⟨by omega,by omega⟩,⟨by omega,by omega⟩,⟨i+1,rfl,by omega,by simp[hgl],?_,⟨(k2n _ _).1,k3i _ _⟩,?_⟩,by(dsimp only;omega)⟩
  ·rw[ix_get _ _ hs]
   exact⟨⟨hgx.1,by omega⟩,hx.1,by omega⟩
  ·intro y hy
   rcases List.mem_or_eq_of_mem_set hy with hy|rfl
   ·exact hgu y hy
   ·decide
  ·rw[show d+1-(i+1)=d-i by omega]
   exact hcy
 ·have e2:¬((n/2^i%2:Nat):Int)=1:=by rw[hbit]at e;simpa using e
  have hb:¬bitN n i=true:=by unfold bitN;generalize n/2^i%2=q at *;simp;omega
  rw[if_neg hb]at hcy
  rw[Int.toNat_natCast]
  refine⟨⟨by omega,by omega⟩,⟨by omega,by omega⟩,by simp;omega,hd.symm,?_,?_,by first|exact rfl|exact True.intro⟩
  ·rw[inc_i64 _ (by omega)]
   show _=p0.wX+1
   omega
  ·show _=carry (p0.wD.toNat+1) 0 p0.wa p1 p0.wX.toNat
   rw[hdn,hn,Int.toNat_natCast,hR]
   exact hcy
noncomputable def k6k:Con TB.den:= .gp 152 [yqu,yqu] [.bool] [] fun(p0 p1:Int)=>(0<=p0/\p0<=9223372036854775807,(decide (9223372036854775807-p0<p1):Bool),())
theorem k6w:k6k.Ok Tryz.prog TB:=qrv Bs Tryz.func152 .no c0 (Q:=∀(p0 p1:Int),(0<=p0/\p0<=9223372036854775807)->∀r0:Bool,(decide (9223372036854775807-p0<p1))=r0-> 
(decide (9223372036854775807<p0)=true->
true=r0)/\
(decide (9223372036854775807<p0)=false->
let v1:Int:=u64.wrap (9223372036854775807-p0)
decide (v1<p1)=r0)) (by kernel_rfl)<|by
 rintro p0 p1 h _ rfl
 refine⟨fun e=> ?_,fun e=> ?_⟩
 ·have:=of_decide_eq_true e;omega
 ·rw[wrap_u64 _ (by omega) (by omega)]
noncomputable def k70:Con TB.den:= .gp 103 [.st 15,yqu,yqu] [.st 15,yqi] [] fun(p0:wY) (p1 p2:Int)=>(OkA p0.wB/\U64 p2,(wY.mk (creditA p0.wB p1 p2).1:wY),((creditA p0.wB p1 p2).2:Int),())
theorem k3f:k70.Ok Tryz.prog TB:=qrv Bs Tryz.func103 .no (k5k.c (k6w.c (k5n.c c0))) (Q:=∀(p0:wY) (p1 p2:Int),(OkA p0.wB/\U64 p2)->∀r0:wY,(wY.mk (creditA p0.wB p1 p2).1)=r0->∀r1:Int,((creditA p0.wB p1 p2).2)=r1-> 
(Srt p0.wB/\p0.wB.length<4611686018427387904)/\(0<=((getA p0.wB p1).wT)/\((getA p0.wB p1).wT)<=9223372036854775807)/\let r2:Bool:=(decide (9223372036854775807-((getA p0.wB p1).wT)<p2))
(r2=true->
([]:List wA)=r0.wB/\1=r1)/\
(r2=false->
let v3:Int:=u64.wrap (((getA p0.wB p1).wT)+p2)
(Srt p0.wB/\p0.wB.length<=1000)/\let r4:List wA:=(putA p0.wB (wA.mk p1 v3 ((getA p0.wB p1).wc)))
r4=r0.wB/\0=r1)) (by kernel_rfl)<|by
 rintro p0 p1 p2 h _ rfl _ rfl
 obtain⟨h,ha,ha'⟩:=h
 obtain⟨g1,g2⟩:=getA_ok h p1
 refine⟨⟨h.1,by have:=h.2.1;omega⟩,g1,fun hh=> ?_,fun hh=> ?_⟩
 ·have:=of_decide_eq_true hh
  simp[creditA,this]
 ·have:=of_decide_eq_false hh
  simp only[creditA,if_neg this]
  rw[wrap_u64 _ (by omega) (by omega)]
  exact⟨⟨h.1,h.2.1⟩,rfl,by first|exact rfl|exact True.intro⟩
noncomputable def k5s:Con TB.den:= .b ⟨102,[.one (.ptr 0 0),.agg [zqu,zql,.d (.sl (.st 1)),zqu,zqu,zqu,zqu,zqu,zqi,.d (.sl yqb)],.one (.ptr 1 0)],[.cells [zqi,zqi,zqi,zqi,zqi,zqu,zqi,zqi,zqu,zqi,zqi,zql,.row 2,.ptr 3 0,.d (.sl (.st 9)),zqu,.row 4,.row 5],.cells [zqi,zqi,zql,zqi,.own 6,.d (.sl (.st 9)),zqu],.vec yqu,.cells [.mp 7],.vec yqu,.vec (.st 10),.tip yqu,.map yqu (.bool)],(.one (.one (zqi))),[.cells [zqi,zqi,zqi,zqi,zqi,zqu,zqi,zqi,zqu,zqi,zqi,zql,.row 8,.ptr 3 0,.d (.sl (.st 9)),zqu,.row 4,.row 5],.cells [zqi,zqi,zql,zqi,.own 6,.d (.sl (.st 9)),zqu],.dead,.cells [.mp 7],.vec yqu,.vec (.st 10),.tip yqu,.map yqu (.bool),.vec yqu],false⟩ [.st 2,yqi,yqi,yqi,yqi,yqi,yqu,yqi,yqi,yqu,yqi,yqi,.sl yqu,.sl (.st 9),yqu,yqi,yqi,.sl yqu,yqi,.sl (.st 9),yqu,.sl yqu,.sl yqu,.sl (.st 10),.sl yqu,.sl yqu,.sl (.bool)] [yqi,yqi,yqi,yqi,yqi,yqi,yqu,yqi,yqi,yqu,yqi,yqi,.sl yqu,.sl (.st 9),yqu,yqi,yqi,.sl yqu,yqi,.sl (.st 9),yqu,.sl yqu,.sl (.st 10),.sl yqu,.sl yqu,.sl (.bool),.sl yqu] fun(p1:wx) (Af Ad Ah Ag Ak Ao Ai Al Am Aj Ab:Int) (Ac:List Int) (Aa:List wA) (Ae Ay A5:Int) (A6:List Int) (A7:Int) (A9:List wA) (Ba:Int) (w2 w4:List Int) (w5:List wO) (w6 w7k:List Int) (w7v:List Bool)=>((∃(c:Nat) (f:Int),c<=800/\PI (PS.mk (wE.mk Af Ad Ah Ag Ak Ao Ai Al Am) (wC.mk Aj Ab Ac) Aa Ae w2 w4 w5 w7k w7v) c f)/\TR p1/\CK (PS.mk (wE.mk Af Ad Ah Ag Ak Ao Ai Al Am) (wC.mk Aj Ab Ac) Aa Ae w2 w4 w5 w7k w7v) p1/\w6.length<=1000000,perfS (PS.mk (wE.mk Af Ad Ah Ag Ak Ao Ai Al Am) (wC.mk Aj Ab Ac) Aa Ae w2 w4 w5 w7k w7v) p1,fun R=>(R.e,R.s.R.we,R.s.R.wD,R.s.R.wI,R.s.R.wH,R.s.R.wG,R.s.R.wJ,R.s.R.wb,R.s.R.wQ,R.s.R.wq,R.s.F.wD,R.s.F.wX,R.s.F.wa,R.s.b,R.s.n,Ay,A5,A6,A7,A9,Ba,R.s.r,R.s.p,((w6++p1.wK):List Int),R.s.k,R.s.v,R.s.l,()))
theorem k6a:k5s.Ok Tryz.prog TB:=pbx Bs [33,67,68] Tryz.func102 (.nd [.trimc 0 12] .no [] (.r 1 (.nd [] (.r 0 (.lp [] ⟨[7,5,4,3,0],[.map yqu (.bool),.vec (.st 10),.vec yqu,.cells [.mp 0],.cells [zqi,zqi,zqi,zqi,zqi,zqu,zqi,zqi,zqu,zqi,zqi,zql,.row 5,.ptr 3 0,.d (.sl (.st 9)),zqu,.row 2,.row 1],.vec yqu],[39],[.one (zqi)],[8]⟩ .no)) [] (.jn ⟨[0,86,3,4,5,7],[.cells [zqi,zqi,zqi,zqi,zqi,zqu,zqi,zqi,zqu,zqi,zqi,zql,.row 1,.ptr 2 0,.d (.sl (.st 9)),zqu,.row 3,.row 4],.vec yqu,.cells [.mp 5],.vec yqu,.vec (.st 10),.map yqu (.bool)],[],[],[]⟩ [] .no [] (.jn ⟨[0,86,3,4,5,7],[.cells [zqi,zqi,zqi,zqi,zqi,zqu,zqi,zqi,zqu,zqi,zqi,zql,.row 1,.ptr 2 0,.d (.sl (.st 9)),zqu,.row 3,.row 4],.vec yqu,.cells [.mp 5],.vec yqu,.vec (.st 10),.map yqu (.bool)],[],[],[]⟩ [] .no [] .no))))) x0 (kf2.c (k6h.c (k3q.c (k3f.c c0)))) (Q:=∀(p1:wx) (Af Ad Ah Ag Ak Ao Ai Al Am Aj Ab:Int) (Ac:List Int) (Aa:List wA) (Ae Ay A5:Int) (A6:List Int) (A7:Int) (A9:List wA) (Ba:Int) (w2 w4:List Int) (w5:List wO) (w6 w7k:List Int) (w7v:List Bool),((∃(c:Nat) (f:Int),c<=800/\PI (PS.mk (wE.mk Af Ad Ah Ag Ak Ao Ai Al Am) (wC.mk Aj Ab Ac) Aa Ae w2 w4 w5 w7k w7v) c f)/\TR p1/\CK (PS.mk (wE.mk Af Ad Ah Ag Ak Ao Ai Al Am) (wC.mk Aj Ab Ac) Aa Ae w2 w4 w5 w7k w7v) p1/\w6.length<=1000000)->∀R,perfS (PS.mk (wE.mk Af Ad Ah Ag Ak Ao Ai Al Am) (wC.mk Aj Ab Ac) Aa Ae w2 w4 w5 w7k w7v) p1=R-> 
w2.length=w2.length/\(w7v=trs w7k/\p1.wK.length<=1000000)/\((((addS p1.wK w7k).1) !=0)=true->
(w6=w6)/\(w5.length=w5.length)/\(w4.length=w4.length)/\(w2.length=w2.length)/\((addS p1.wK w7k).1)=R.e/\Af=R.s.R.we/\Ad=R.s.R.wD/\Ah=R.s.R.wI/\Ag=R.s.R.wH/\Ak=R.s.R.wG/\Ao=R.s.R.wJ/\Ai=R.s.R.wb/\Al=R.s.R.wQ/\Am=R.s.R.wq/\Aj=R.s.F.wD/\Ab=R.s.F.wX/\Ac=R.s.F.wa/\Aa=R.s.b/\Ae=R.s.n/\Ay=Ay/\A5=A5/\A6=A6/\A7=A7/\A9=A9/\Ba=Ba/\w4=R.s.r/\w5=R.s.p/\w6=(w6++p1.wK)/\((addS p1.wK w7k).2)=R.s.k/\(trs (addS p1.wK w7k).2)=R.s.v/\w2=R.s.l)/\
((((addS p1.wK w7k).1) !=0)=false->
w6.length=w6.length/\(w6.length+p1.wK.length)*8<=140737488355328/\w6.length+p1.wK.length<=maxLen/\(w5.length=w5.length)/\(w4.length=w4.length)/\(w2.length=w2.length)/\∃(I1:Int->Int->Int->Int->Int->Int->Int->Int->Int->Int->Int->Int->(List Int)->(List wA)->Int->(List Int)->(List Bool)->(List wO)->(List Int)->(List Int)->Prop) (M1:Int->Int->Int->Int->Int->Int->Int->Int->Int->Int->Int->Int->(List Int)->(List wA)->Int->(List Int)->(List Bool)->(List wO)->(List Int)->(List Int)->Nat),I1 0 Af Ad Ah Ag Ak Ao Ai Al Am Aj Ab Ac Aa Ae ((addS p1.wK w7k).2) (trs (addS p1.wK w7k).2) w5 w4 w2/\∀(b1 f1 i1 k1 l1 m1 n1 o1 q1 s1 t1 u1:Int) (x1:List Int) (y1:List wA) (b2:Int) (f2:List Int) (i2:List Bool) (k2:List wO) (l2 m2:List Int),(I1 b1 f1 i1 k1 l1 m1 n1 o1 q1 s1 t1 u1 x1 y1 b2 f2 i2 k2 l2 m2->
(decide (b1<(p1.wN.length:Int))=true->
(0<=b1)/\b1<(p1.wN.length:Int)/\(FV (wC.mk t1 u1 x1)/\(wC.mk t1 u1 x1).wX<((2^(wC.mk t1 u1 x1).wD.toNat:Nat):Int)/\0<=((ix p1.wN b1).wm)/\((ix p1.wN b1).wm)<18446744069414584321)/\let r1:=apF (wC.mk t1 u1 x1) ((ix p1.wN b1).wm)
(((0:Int) !=0)=true->
(w6++p1.wK=w6++p1.wK)/\(k2.length=k2.length)/\(l2.length=l2.length)/\(m2.length=m2.length)/\0=R.e/\f1=R.s.R.we/\i1=R.s.R.wD/\k1=R.s.R.wI/\l1=R.s.R.wH/\m1=R.s.R.wG/\n1=R.s.R.wJ/\o1=R.s.R.wb/\q1=R.s.R.wQ/\s1=R.s.R.wq/\t1=R.s.F.wD/\u1=R.s.F.wX/\x1=R.s.F.wa/\y1=R.s.b/\b2=R.s.n/\Ay=Ay/\A5=A5/\A6=A6/\A7=A7/\A9=A9/\Ba=Ba/\l2=R.s.r/\k2=R.s.p/\w6++p1.wK=(w6++p1.wK)/\f2=R.s.k/\i2=R.s.v/\m2=R.s.l)/\
(((0:Int) !=0)=false->
m2.length=m2.length/\[(ix p1.wN b1).wm].length=[(ix p1.wN b1).wm].length/\(m2.length+[(ix p1.wN b1).wm].length)*8<=140737488355328/\m2.length+[(ix p1.wN b1).wm].length<=maxLen/\(k2.length=k2.length)/\(l2.length=l2.length)/\((m2++[(ix p1.wN b1).wm]).length=(m2++[(ix p1.wN b1).wm]).length)/\I1 (i64.wrap (b1+1)) f1 i1 k1 l1 m1 n1 o1 q1 s1 r1.wD r1.wX r1.wa y1 b2 f2 i2 k2 l2 (m2++[(ix p1.wN b1).wm])/\M1 (i64.wrap (b1+1)) f1 i1 k1 l1 m1 n1 o1 q1 s1 r1.wD r1.wX r1.wa y1 b2 f2 i2 k2 l2 (m2++[(ix p1.wN b1).wm])<M1 b1 f1 i1 k1 l1 m1 n1 o1 q1 s1 t1 u1 x1 y1 b2 f2 i2 k2 l2 m2))/\
(decide (b1<(p1.wN.length:Int))=false->
∀J1:Int->Int->Int->Int->Int->Int->Int->Int->Int->Int->Int->(List Int)->(List wA)->Int->(List Int)->(List Int)->(List wO)->(List Int)->(List Bool)->Prop,(∀(n2 o2 q2 s2 t2 u2 x2 y2 b3 f3 i3:Int) (k3:List Int) (l3:List wA) (m3:Int) (n3 o3:List Int) (q3:List wO) (s3:List Int) (t3:List Bool),
(∀J2:Int->Int->Int->Int->Int->Int->Int->Int->Int->Int->Int->(List Int)->(List wA)->Int->(List Int)->(List Int)->(List wO)->(List Int)->(List Bool)->Prop,(∀(u3 x3 y3 b4 f4 i4 k4 l4 m4 n4 o4:Int) (q4:List Int) (s4:List wA) (t4:Int) (u4 x4:List Int) (y4:List wO) (b5:List Int) (f5:List Bool),
(let v4:Int:=u64.wrap ((u64.wrap (t4+p1.wP))-p1.wd)
(w6++p1.wK=w6++p1.wK)/\(y4.length=y4.length)/\(x4.length=x4.length)/\(u4.length=u4.length)/\0=R.e/\u3=R.s.R.we/\x3=R.s.R.wD/\y3=R.s.R.wI/\b4=R.s.R.wH/\f4=R.s.R.wG/\i4=R.s.R.wJ/\k4=R.s.R.wb/\l4=R.s.R.wQ/\m4=R.s.R.wq/\n4=R.s.F.wD/\o4=R.s.F.wX/\q4=R.s.F.wa/\s4=R.s.b/\u64.wrap (v4-p1.Fee)=R.s.n/\Ay=Ay/\A5=A5/\A6=A6/\A7=A7/\A9=A9/\Ba=Ba/\x4=R.s.r/\y4=R.s.p/\w6++p1.wK=(w6++p1.wK)/\b5=R.s.k/\f5=R.s.v/\u4=R.s.l)->J2 u3 x3 y3 b4 f4 i4 k4 l4 m4 n4 o4 q4 s4 t4 u4 x4 y4 b5 f5)->
(decide (0<p1.wd)=true->
(OkA (wY.mk l3).wB/\U64 p1.wd)/\let r3:=creditA (wY.mk l3).wB p1.wo p1.wd
((r3.2 !=0)=true->
(w6++p1.wK=w6++p1.wK)/\(q3.length=q3.length)/\(o3.length=o3.length)/\(n3.length=n3.length)/\r3.2=R.e/\n2=R.s.R.we/\o2=R.s.R.wD/\q2=R.s.R.wI/\s2=R.s.R.wH/\t2=R.s.R.wG/\u2=R.s.R.wJ/\x2=R.s.R.wb/\y2=R.s.R.wQ/\b3=R.s.R.wq/\f3=R.s.F.wD/\i3=R.s.F.wX/\k3=R.s.F.wa/\l3=R.s.b/\m3=R.s.n/\Ay=Ay/\A5=A5/\A6=A6/\A7=A7/\A9=A9/\Ba=Ba/\o3=R.s.r/\q3=R.s.p/\w6++p1.wK=(w6++p1.wK)/\s3=R.s.k/\t3=R.s.v/\n3=R.s.l)/\
((r3.2 !=0)=false->
(q3.length=q3.length)/\(o3.length=o3.length)/\(n3.length=n3.length)/\J2 n2 o2 q2 s2 t2 u2 x2 y2 b3 f3 i3 k3 r3.1 m3 n3 o3 q3 s3 t3))/\
(decide (0<p1.wd)=false->
(q3.length=q3.length)/\(o3.length=o3.length)/\(n3.length=n3.length)/\J2 n2 o2 q2 s2 t2 u2 x2 y2 b3 f3 i3 k3 l3 m3 n3 o3 q3 s3 t3))->J1 n2 o2 q2 s2 t2 u2 x2 y2 b3 f3 i3 k3 l3 m3 n3 o3 q3 s3 t3)->
(decide (0<p1.wP)=true->
(OkA (wY.mk y1).wB/\U64 p1.wP/\U64 p1.wc)/\let r2:=debitA (wY.mk y1).wB p1.wo p1.wP p1.wc
((r2.2 !=0)=true->
(w6++p1.wK=w6++p1.wK)/\(k2.length=k2.length)/\(l2.length=l2.length)/\(m2.length=m2.length)/\r2.2=R.e/\f1=R.s.R.we/\i1=R.s.R.wD/\k1=R.s.R.wI/\l1=R.s.R.wH/\m1=R.s.R.wG/\n1=R.s.R.wJ/\o1=R.s.R.wb/\q1=R.s.R.wQ/\s1=R.s.R.wq/\t1=R.s.F.wD/\u1=R.s.F.wX/\x1=R.s.F.wa/\y1=R.s.b/\b2=R.s.n/\Ay=Ay/\A5=A5/\A6=A6/\A7=A7/\A9=A9/\Ba=Ba/\l2=R.s.r/\k2=R.s.p/\w6++p1.wK=(w6++p1.wK)/\f2=R.s.k/\i2=R.s.v/\m2=R.s.l)/\
((r2.2 !=0)=false->
(k2.length=k2.length)/\(l2.length=l2.length)/\(m2.length=m2.length)/\J1 f1 i1 k1 l1 m1 n1 o1 q1 s1 t1 u1 x1 r2.1 b2 m2 l2 k2 f2 i2))/\
(decide (0<p1.wP)=false->
(k2.length=k2.length)/\(l2.length=l2.length)/\(m2.length=m2.length)/\J1 f1 i1 k1 l1 m1 n1 o1 q1 s1 t1 u1 x1 y1 b2 m2 l2 k2 f2 i2))))) (by kernel_rfl)<|by
 rintro p1 Af Ad Ah Ag Ak Ao Ai Al Am Aj Ab Ac Aa Ae Ay A5 A6 A7 A9 Ba w2 w4 w5 w6 w7k w7v h R hR
 obtain⟨⟨c,f,hc,hp⟩,ht,hk,hw6⟩:=h
 have hv:w7v=trs w7k:=hp.v
 have hA:addS p1.wK w7k=(0,w7k++p1.wK):=by
  unfold addS
  have e1:(p1.wK.any fun m=>decide (m∈w7k))=false:=by
   rw[List.any_eq_false]
   intro m hm
   simpa using hk.m m hm
  rw[e1,decide_eq_true hk.v.mn]
  rfl
 have hml:=hk.v.ml
 have hol:=hk.v.ol
 have hll:w2.length+p1.wN.length<=2^Ad.toNat:=hk.l
 have hd1:1<=Ad:=hp.d1
 have hd2:Ad<=12:=hp.d2
 have hF0:wC.mk Aj Ab Ac=frF Ad w2:=hp.F
 have hlb:BG w2:=hp.l
 have hp12:=pow12 Ad.toNat (by omega)
 obtain⟨a1,a2,a3,a4,a5⟩:=hk.v.am'
 have hgb:GoodA c Aa:=hp.b
 have hdA:OkA (depA Aa p1):=by
  unfold depA
  split
  ·exact(k9l hgb (by omega) ⟨ht.ac.1,a4⟩ ht.d.1 ht.n).1
  ·exact hgb.1
 have hdd:0<p1.wP->(debitA Aa p1.wo p1.wP p1.wc).2=0:=hk.d
 unfold perfS at hR
 refine⟨rfl,⟨hv,by omega⟩,?_⟩
 rw[hA]
 refine⟨fun e=>(by cases e),fun _=>⟨rfl,by omega,by unfold maxLen;omega,rfl,rfl,rfl,?_⟩⟩
 refine⟨fun a y0 y1 y2 y3 y4 y5 y6 y7 y8 x y z bb nn kk vv pp rr g=>(Af=y0/\Ad=y1/\Ah=y2/\Ag=y3/\Ak=y4/\Ao=y5/\Ai=y6/\Al=y7/\Am=y8/\Aa=bb/\Ae=nn/\w7k++p1.wK=kk/\trs (w7k++p1.wK)=vv/\w5=pp/\w4=rr)/\∃i:Nat,a=(i:Int)/\i<=p1.wN.length/\wC.mk x y z=outsF (wC.mk Aj Ab Ac) (p1.wN.take i)/\g=w2++(p1.wN.take i).map (·.wm),fun a _ _ _ _ _ _ _ _ _ _ _ _ _ _ _ _ _ _ _=>(p1.wN.length-a).toNat,⟨⟨rfl,rfl,rfl,rfl,rfl,rfl,rfl,rfl,rfl,rfl,rfl,rfl,rfl,rfl,rfl⟩,0,rfl,by omega,rfl,by simp⟩,?_⟩
 rintro _ _ _ _ _ _ _ _ _ _ x y z _ _ _ _ _ _ _ ⟨⟨rfl,rfl,rfl,rfl,rfl,rfl,rfl,rfl,rfl,rfl,rfl,rfl,rfl,rfl,rfl⟩,i,rfl,hi,hF,rfl⟩
 have hx:x=(outsF (wC.mk Aj Ab Ac) (p1.wN.take i)).wD:=congrArg wC.wD hF
 have hy:y=(outsF (wC.mk Aj Ab Ac) (p1.wN.take i)).wX:=congrArg wC.wX hF
 have hz:z=(outsF (wC.mk Aj Ab Ac) (p1.wN.take i)).wa:=congrArg wC.wa hF
 clear hF
 subst hx
 subst hy
 subst hz
 refine⟨fun e=> ?_,fun e=> ?_⟩
 ·have e:i<p1.wN.length:=by have:=of_decide_eq_true e;omega
  have ho:=List.getElem_mem e
  have hil:(p1.wN.take i).length=i:=by rw[List.length_take];omega
  have hFi:outsF (wC.mk Aj Ab Ac) (p1.wN.take i)=frF Ad (w2++(p1.wN.take i).map (·.wm)):=by
   rw[hF0]
   exact k8v (by omega)
  have hgl:(w2++(p1.wN.take i).map (·.wm)).length=w2.length+i:=by simp only[List.length_append,List.length_map];omega
  have hbg:BG (w2++(p1.wN.take i).map (·.wm)):=by
   intro q hq
   rcases List.mem_append.1 hq with hq|hq
   ·exact hlb q hq
   ·obtain⟨o,h1,rfl⟩:=List.mem_map.1 hq
    exact⟨(ht.o o (List.mem_of_mem_take h1)).c.1,(hk.v.o o (List.mem_of_mem_take h1)).c⟩
  rw[ix_get _ _ e,inc_i64 _ (by omega)]
  have hfv:FV (outsF (wC.mk Aj Ab Ac) (p1.wN.take i)):=by
   rw[hFi]
   exact frF_FV hd1 hd2 (by omega) hbg
  have hct:(outsF (wC.mk Aj Ab Ac) (p1.wN.take i)).wX<((2^(outsF (wC.mk Aj Ab Ac) (p1.wN.take i)).wD.toNat:Nat):Int):=by
   rw[hFi]
   show((w2++(p1.wN.take i).map (·.wm)).length:Int)<((2^Ad.toNat:Nat):Int)
   omega
  refine⟨by omega,by omega,⟨hfv,hct,(ht.o _ ho).c.1,(hk.v.o _ ho).c⟩,fun e2=>(by cases e2),fun _=>⟨rfl,rfl,?_,?_,rfl,rfl,rfl,⟨⟨rfl,rfl,rfl,rfl,rfl,rfl,rfl,rfl,rfl,rfl,rfl,rfl,rfl,rfl,rfl⟩,i+1,rfl,by omega,?_,?_⟩,by(dsimp only;omega)⟩⟩
  ·rw[hgl];simp only[List.length_cons,List.length_nil];omega
  ·rw[hgl];simp only[List.length_cons,List.length_nil];unfold maxLen;omega
  ·rw[List.take_succ_eq_append_getElem e]
   unfold outsF
   rw[List.foldl_append]
   rfl
  ·rw[List.take_succ_eq_append_getElem e,List.map_append,List.append_assoc]
   rfl
 ·have e:i=p1.wN.length:=by have:=of_decide_eq_false e;omega
  subst e
  rw[List.take_length]
  intro J1 j
  have j1:∀b',b' =depA Aa p1->J1 Af Ad Ah Ag Ak Ao Ai Al Am (outsF (wC.mk Aj Ab Ac) p1.wN).wD (outsF (wC.mk Aj Ab Ac) p1.wN).wX (outsF (wC.mk Aj Ab Ac) p1.wN).wa b' Ae (w2++p1.wN.map (·.wm)) w4 w5 (w7k++p1.wK) (trs (w7k++p1.wK)):=by
   intro b' h1
   subst h1
   refine j _ _ _ _ _ _ _ _ _ _ _ _ _ _ _ _ _ _ _ fun J2 k=> ?_
   have j2:∀b',(wdA Aa p1).2=0->b' =(wdA Aa p1).1->J2 Af Ad Ah Ag Ak Ao Ai Al Am (outsF (wC.mk Aj Ab Ac) p1.wN).wD (outsF (wC.mk Aj Ab Ac) p1.wN).wX (outsF (wC.mk Aj Ab Ac) p1.wN).wa b' Ae (w2++p1.wN.map (·.wm)) w4 w5 (w7k++p1.wK) (trs (w7k++p1.wK)):=by
    intro b' h0 h1
    rw[if_neg (fun hh=>hh h0)]at hR
    subst hR
    subst h1
    exact k _ _ _ _ _ _ _ _ _ _ _ _ _ _ _ _ _ _ _ (by repeat' first|apply And.intro|exact rfl|exact True.intro)
   refine⟨fun e=>⟨⟨hdA,ht.w⟩,fun e2=> ?_,fun e2=>⟨rfl,rfl,rfl,j2 _ ?_ ?_⟩⟩,fun e=>⟨rfl,rfl,rfl,j2 _ ?_ ?_⟩⟩
   ·have e2:(creditA (depA Aa p1) p1.wo p1.wd).2≠0:=by simpa using e2
    have ew:wdA Aa p1=creditA (depA Aa p1) p1.wo p1.wd:=by unfold wdA;rw[if_pos (of_decide_eq_true e)]
    rw[ew,if_pos e2]at hR
    subst hR
    exact(by repeat' first|apply And.intro|exact rfl|exact True.intro)
   ·have e2:(creditA (depA Aa p1) p1.wo p1.wd).2=0:=by simpa using e2
    unfold wdA;rw[if_pos (of_decide_eq_true e)];exact e2
   ·unfold wdA;rw[if_pos (of_decide_eq_true e)]
   ·unfold wdA;rw[if_neg (of_decide_eq_false e)]
   ·unfold wdA;rw[if_neg (of_decide_eq_false e)]
  refine⟨fun e2=>⟨⟨hgb.1,ht.d,ht.n⟩,fun e3=> ?_,fun e3=>⟨rfl,rfl,rfl,j1 _ ?_⟩⟩,fun e2=>⟨rfl,rfl,rfl,j1 _ ?_⟩⟩
  ·have e3:(debitA Aa p1.wo p1.wP p1.wc).2≠0:=by simpa using e3
   exact(e3 (hdd (of_decide_eq_true e2))).elim
  ·unfold depA;rw[if_pos (of_decide_eq_true e2)]
  ·unfold depA;rw[if_neg (of_decide_eq_false e2)]
noncomputable def k73:Con TB.den:= .b ⟨67,[.one (.ptr 0 0),.agg [zqu,zqi,zqu,zqu,zqu,.d (.sl (.st 2))],.one (.ptr 1 0)],[.cells [zqi,zqi,zqi,zqi,zqi,zqu,zqi,zqi,zqu,zqi,zqi,zql,.row 2,.ptr 3 0,.d (.sl (.st 9)),zqu,.row 4,.row 5],.cells [zqi,zqi,zql,zqi,.own 6,.d (.sl (.st 9)),zqu],.vec yqu,.cells [.mp 7],.vec yqu,.vec (.st 10),.tip yqu,.map yqu (.bool)],(.one (.one (zqi))),[.cells [zqi,zqi,zqi,zqi,zqi,zqu,zqi,zqi,zqu,zqi,zqi,zql,.row 8,.ptr 3 0,.d (.sl (.st 9)),zqu,.row 4,.row 5],.cells [zqi,zqi,zql,zqi,.own 6,.d (.sl (.st 9)),zqu],.dead,.cells [.mp 7],.vec yqu,.vec (.st 10),.tip yqu,.map yqu (.bool),.vec yqu],false⟩ [.st 3,yqi,yqi,yqi,yqi,yqi,yqu,yqi,yqi,yqu,yqi,yqi,.sl yqu,.sl (.st 9),yqu,yqi,yqi,.sl yqu,yqi,.sl (.st 9),yqu,.sl yqu,.sl yqu,.sl (.st 10),.sl yqu,.sl yqu,.sl (.bool)] [yqi,yqi,yqi,yqi,yqi,yqi,yqu,yqi,yqi,yqu,yqi,yqi,.sl yqu,.sl (.st 9),yqu,yqi,yqi,.sl yqu,yqi,.sl (.st 9),yqu,.sl yqu,.sl (.st 10),.sl yqu,.sl yqu,.sl (.bool),.sl yqu] fun(p1:wU) (Af Ad Ah Ag Ak Ao Ai Al Am Aj Ab:Int) (Ac:List Int) (Aa:List wA) (Ae Ay A5:Int) (A6:List Int) (A7:Int) (A9:List wA) (Ba:Int) (w2 w4:List Int) (w5:List wO) (w6 w7k:List Int) (w7v:List Bool)=>((∃c:Nat,c+p1.Txs.length<=790/\PI (PS.mk (wE.mk Af Ad Ah Ag Ak Ao Ai Al Am) (wC.mk Aj Ab Ac) Aa Ae w2 w4 w5 w7k w7v) c 0)/\BR' p1/\w6=[],blkS (PS.mk (wE.mk Af Ad Ah Ag Ak Ao Ai Al Am) (wC.mk Aj Ab Ac) Aa Ae w2 w4 w5 w7k w7v) w6 p1,fun R=>(R.e,R.s.R.we,R.s.R.wD,R.s.R.wI,R.s.R.wH,R.s.R.wG,R.s.R.wJ,R.s.R.wb,R.s.R.wQ,R.s.R.wq,R.s.F.wD,R.s.F.wX,R.s.F.wa,R.s.b,R.s.n,Ay,A5,A6,A7,A9,Ba,R.s.r,R.s.p,R.m,R.s.k,R.s.v,R.s.l,()))
theorem k8p:k73.Ok Tryz.prog TB:=pbv Bs Tryz.func67 (.nd [.trimc 0 12] .no [] (.r 0 (.nd [] (.r 0 (.lp [] ⟨[7,6,5,4,3,1,0],[.map yqu (.bool),.tip yqu,.vec (.st 10),.vec yqu,.cells [.mp 0],.cells [zqi,zqi,zql,zqi,.own 1,.d (.sl (.st 9)),zqu],.cells [zqi,zqi,zqi,zqi,zqi,zqu,zqi,zqi,zqu,zqi,zqi,zql,.row 7,.ptr 4 0,.d (.sl (.st 9)),zqu,.row 3,.row 2],.vec yqu],[7,17],[.one (zqu),.one (zqi)],[8]⟩ .no)) [] .no))) (ka9.c (k6a.c (k3f.c c0))) (Q:=∀(p1:wU) (Af Ad Ah Ag Ak Ao Ai Al Am Aj Ab:Int) (Ac:List Int) (Aa:List wA) (Ae Ay A5:Int) (A6:List Int) (A7:Int) (A9:List wA) (Ba:Int) (w2 w4:List Int) (w5:List wO) (w6 w7k:List Int) (w7v:List Bool),((∃c:Nat,c+p1.Txs.length<=790/\PI (PS.mk (wE.mk Af Ad Ah Ag Ak Ao Ai Al Am) (wC.mk Aj Ab Ac) Aa Ae w2 w4 w5 w7k w7v) c 0)/\BR' p1/\w6=[])->∀R,blkS (PS.mk (wE.mk Af Ad Ah Ag Ak Ao Ai Al Am) (wC.mk Aj Ab Ac) Aa Ae w2 w4 w5 w7k w7v) w6 p1=R-> 
w2.length=w2.length/\(w5.length=w5.length)/\(w4.length=w4.length)/\(w2.length=w2.length)/\(w6=w6)/\∃(I1:Int->Int->Int->Int->(List Int)->Int->(List wA)->Int->Int->Int->Int->Int->Int->Int->Int->Int->Int->Int->Int->(List Int)->(List wA)->Int->(List Int)->(List Bool)->(List Int)->(List wO)->(List Int)->(List Int)->Prop) (M1:Int->Int->Int->Int->(List Int)->Int->(List wA)->Int->Int->Int->Int->Int->Int->Int->Int->Int->Int->Int->Int->(List Int)->(List wA)->Int->(List Int)->(List Bool)->(List Int)->(List wO)->(List Int)->(List Int)->Nat),I1 0 0 Ay A5 A6 A7 A9 Ba Af Ad Ah Ag Ak Ao Ai Al Am Aj Ab Ac Aa Ae w7k w7v w6 w5 w4 w2/\∀(b1 f1 i1 k1:Int) (l1:List Int) (m1:Int) (n1:List wA) (o1 q1 s1 t1 u1 x1 y1 b2 f2 i2 k2 l2:Int) (m2:List Int) (n2:List wA) (o2:Int) (q2:List Int) (s2:List Bool) (t2:List Int) (u2:List wO) (x2 y2:List Int),(I1 b1 f1 i1 k1 l1 m1 n1 o1 q1 s1 t1 u1 x1 y1 b2 f2 i2 k2 l2 m2 n2 o2 q2 s2 t2 u2 x2 y2->
(decide (f1<(p1.Txs.length:Int))=true->
(0<=f1)/\f1<(p1.Txs.length:Int)/\(u2.length=u2.length)/\(x2.length=x2.length)/\(y2.length=y2.length)/\((∃(c:Nat) (f:Int),c<=800/\PI (PS.mk (wE.mk q1 s1 t1 u1 x1 y1 b2 f2 i2) (wC.mk k2 l2 m2) n2 o2 y2 x2 u2 q2 s2) c f)/\TR (ix p1.Txs f1))/\let r1:Int:=(chkS (PS.mk (wE.mk q1 s1 t1 u1 x1 y1 b2 f2 i2) (wC.mk k2 l2 m2) n2 o2 y2 x2 u2 q2 s2) (ix p1.Txs f1))
((r1 !=0)=true->
(t2=t2)/\(u2.length=u2.length)/\(x2.length=x2.length)/\(y2.length=y2.length)/\r1=R.e/\q1=R.s.R.we/\s1=R.s.R.wD/\t1=R.s.R.wI/\u1=R.s.R.wH/\x1=R.s.R.wG/\y1=R.s.R.wJ/\b2=R.s.R.wb/\f2=R.s.R.wQ/\i2=R.s.R.wq/\k2=R.s.F.wD/\l2=R.s.F.wX/\m2=R.s.F.wa/\n2=R.s.b/\o2=R.s.n/\i1=Ay/\k1=A5/\l1=A6/\m1=A7/\n1=A9/\o1=Ba/\x2=R.s.r/\u2=R.s.p/\t2=R.m/\q2=R.s.k/\s2=R.s.v/\y2=R.s.l)/\
((r1 !=0)=false->
(t2=t2)/\(u2.length=u2.length)/\(x2.length=x2.length)/\(y2.length=y2.length)/\((∃(c:Nat) (f:Int),c<=800/\PI (PS.mk (wE.mk q1 s1 t1 u1 x1 y1 b2 f2 i2) (wC.mk k2 l2 m2) n2 o2 y2 x2 u2 q2 s2) c f)/\TR (ix p1.Txs f1)/\CK (PS.mk (wE.mk q1 s1 t1 u1 x1 y1 b2 f2 i2) (wC.mk k2 l2 m2) n2 o2 y2 x2 u2 q2 s2) (ix p1.Txs f1)/\t2.length<=1000000)/\let r2:Int:=((perfS (PS.mk (wE.mk q1 s1 t1 u1 x1 y1 b2 f2 i2) (wC.mk k2 l2 m2) n2 o2 y2 x2 u2 q2 s2) (ix p1.Txs f1)).e)
let r3:=(perfS (PS.mk (wE.mk q1 s1 t1 u1 x1 y1 b2 f2 i2) (wC.mk k2 l2 m2) n2 o2 y2 x2 u2 q2 s2) (ix p1.Txs f1)).s
((r2 !=0)=true->
((t2++(ix p1.Txs f1).wK)=(t2++(ix p1.Txs f1).wK))/\(r3.p.length=r3.p.length)/\(r3.r.length=r3.r.length)/\(r3.l.length=r3.l.length)/\r2=R.e/\r3.R.we=R.s.R.we/\r3.R.wD=R.s.R.wD/\r3.R.wI=R.s.R.wI/\r3.R.wH=R.s.R.wH/\r3.R.wG=R.s.R.wG/\r3.R.wJ=R.s.R.wJ/\r3.R.wb=R.s.R.wb/\r3.R.wQ=R.s.R.wQ/\r3.R.wq=R.s.R.wq/\r3.F.wD=R.s.F.wD/\r3.F.wX=R.s.F.wX/\r3.F.wa=R.s.F.wa/\r3.b=R.s.b/\r3.n=R.s.n/\i1=Ay/\k1=A5/\l1=A6/\m1=A7/\n1=A9/\o1=Ba/\r3.r=R.s.r/\r3.p=R.s.p/\(t2++(ix p1.Txs f1).wK)=R.m/\r3.k=R.s.k/\r3.v=R.s.v/\r3.l=R.s.l)/\
((r2 !=0)=false->
let v4:Int:=u64.wrap (b1+((ix p1.Txs f1).Fee))
(r3.p.length=r3.p.length)/\(r3.r.length=r3.r.length)/\(r3.l.length=r3.l.length)/\((t2++(ix p1.Txs f1).wK)=(t2++(ix p1.Txs f1).wK))/\I1 v4 (i64.wrap (f1+1)) i1 k1 l1 m1 n1 o1 r3.R.we r3.R.wD r3.R.wI r3.R.wH r3.R.wG r3.R.wJ r3.R.wb r3.R.wQ r3.R.wq r3.F.wD r3.F.wX r3.F.wa r3.b r3.n r3.k r3.v (t2++(ix p1.Txs f1).wK) r3.p r3.r r3.l/\M1 v4 (i64.wrap (f1+1)) i1 k1 l1 m1 n1 o1 r3.R.we r3.R.wD r3.R.wI r3.R.wH r3.R.wG r3.R.wJ r3.R.wb r3.R.wQ r3.R.wq r3.F.wD r3.F.wX r3.F.wa r3.b r3.n r3.k r3.v (t2++(ix p1.Txs f1).wK) r3.p r3.r r3.l<M1 b1 f1 i1 k1 l1 m1 n1 o1 q1 s1 t1 u1 x1 y1 b2 f2 i2 k2 l2 m2 n2 o2 q2 s2 t2 u2 x2 y2)))/\
(decide (f1<(p1.Txs.length:Int))=false->
(OkA (wY.mk n2).wB/\U64 (u64.wrap (y1+b1)))/\let r5:=creditA (wY.mk n2).wB p1.wAU (u64.wrap (y1+b1))
((r5.2 !=0)=true->
(t2=t2)/\(u2.length=u2.length)/\(x2.length=x2.length)/\(y2.length=y2.length)/\r5.2=R.e/\q1=R.s.R.we/\s1=R.s.R.wD/\t1=R.s.R.wI/\u1=R.s.R.wH/\x1=R.s.R.wG/\y1=R.s.R.wJ/\b2=R.s.R.wb/\f2=R.s.R.wQ/\i2=R.s.R.wq/\k2=R.s.F.wD/\l2=R.s.F.wX/\m2=R.s.F.wa/\n2=R.s.b/\o2=R.s.n/\i1=Ay/\k1=A5/\l1=A6/\m1=A7/\n1=A9/\o1=Ba/\x2=R.s.r/\u2=R.s.p/\t2=R.m/\q2=R.s.k/\s2=R.s.v/\y2=R.s.l)/\
((r5.2 !=0)=false->
(t2=t2)/\(u2.length=u2.length)/\(x2.length=x2.length)/\(y2.length=y2.length)/\0=R.e/\q1=R.s.R.we/\s1=R.s.R.wD/\t1=R.s.R.wI/\u1=R.s.R.wH/\x1=R.s.R.wG/\y1=R.s.R.wJ/\b2=R.s.R.wb/\f2=R.s.R.wQ/\i2=R.s.R.wq/\k2=R.s.F.wD/\l2=R.s.F.wX/\m2=R.s.F.wa/\r5.1=R.s.b/\o2=R.s.n/\i1=Ay/\k1=A5/\l1=A6/\m1=A7/\n1=A9/\o1=Ba/\x2=R.s.r/\u2=R.s.p/\t2=R.m/\q2=R.s.k/\s2=R.s.v/\y2=R.s.l)))) (by kernel_rfl)<|by
 rintro p1 Af Ad Ah Ag Ak Ao Ai Al Am Aj Ab Ac Aa Ae Ay A5 A6 A7 A9 Ba w2 w4 w5 w6 w7k w7v h R hR
 obtain⟨⟨c,hc,hp⟩,hb,hw⟩:=h
 subst hw
 unfold blkS at hR
 generalize hG:blkGo p1.Txs (PS.mk (wE.mk Af Ad Ah Ag Ak Ao Ai Al Am) (wC.mk Aj Ab Ac) Aa Ae w2 w4 w5 w7k w7v) [] 0=G at hR
 refine⟨rfl,rfl,rfl,rfl,rfl,⟨(fun fe a y0 y1 y2 y3 y4 y5 x0 x1 x2 x3 x4 x5 x6 x7 x8 x9 x10 x11 bb nn kk vv mm pp rr ll=>(y0=Ay/\y1=A5/\y2=A6/\y3=A7/\y4=A9/\y5=Ba)/\∃i:Nat,a=(i:Int)/\i<=p1.Txs.length/\(∃c' :Nat,c' +(p1.Txs.length-i)<=790/\PI (PS.mk (wE.mk x0 x1 x2 x3 x4 x5 x6 x7 x8) (wC.mk x9 x10 x11) bb nn ll rr pp kk vv) c' fe)/\mm.length<=4*i/\blkGo (p1.Txs.drop i) (PS.mk (wE.mk x0 x1 x2 x3 x4 x5 x6 x7 x8) (wC.mk x9 x10 x11) bb nn ll rr pp kk vv) mm fe=G),(fun _ a _ _ _ _ _ _ _ _ _ _ _ _ _ _ _ _ _ _ _ _ _ _ _ _ _ _=>(p1.Txs.length-a).toNat),⟨⟨rfl,rfl,rfl,rfl,rfl,rfl⟩,0,rfl,by omega,⟨c,by omega,hp⟩,by simp,hG⟩,?_⟩⟩
 rintro fe _ y0 y1 y2 y3 y4 y5 x0 x1 x2 x3 x4 x5 x6 x7 x8 x9 x10 x11 bb nn kk vv mm pp rr ll ⟨⟨rfl,rfl,rfl,rfl,rfl,rfl⟩,i,rfl,hi,⟨c',hc',hq⟩,hm,hg⟩
 refine⟨fun e=> ?_,fun e=> ?_⟩
 ·have e:i<p1.Txs.length:=by have:=of_decide_eq_true e;omega
  have ht:=hb.t _ (List.getElem_mem e)
  rw[List.drop_eq_getElem_cons e]at hg
  unfold blkGo at hg
  rw[ix_get _ _ e,inc_i64 _ (by omega)]
  refine⟨by omega,by omega,rfl,rfl,rfl,⟨⟨c',fe,by omega,hq⟩,ht⟩,fun e2=> ?_,fun e2=> ?_⟩
  ·have e2:chkS (PS.mk (wE.mk x0 x1 x2 x3 x4 x5 x6 x7 x8) (wC.mk x9 x10 x11) bb nn ll rr pp kk vv) p1.Txs[i]≠0:=by simpa using e2
   rw[if_pos e2]at hg
   subst hg
   simp only at hR
   rw[if_pos e2]at hR
   subst hR
   exact(by repeat' first|apply And.intro|exact rfl|exact True.intro)
  ·have e2:chkS (PS.mk (wE.mk x0 x1 x2 x3 x4 x5 x6 x7 x8) (wC.mk x9 x10 x11) bb nn ll rr pp kk vv) p1.Txs[i]=0:=by simpa using e2
   have k:=k8q e2
   rw[if_neg (fun hh=>hh e2)]at hg
   refine⟨rfl,rfl,rfl,rfl,⟨⟨c',fe,by omega,hq⟩,ht,k,by omega⟩,fun e3=> ?_,fun e3=>⟨rfl,rfl,rfl,rfl,⟨⟨rfl,rfl,rfl,rfl,rfl,rfl⟩,i+1,rfl,by omega,⟨c' +1,by omega,?_⟩,?_,?_⟩,by(dsimp only;omega)⟩⟩
   ·have e3:(perfS (PS.mk (wE.mk x0 x1 x2 x3 x4 x5 x6 x7 x8) (wC.mk x9 x10 x11) bb nn ll rr pp kk vv) p1.Txs[i]).e≠0:=by simpa using e3
    rw[if_pos e3]at hg
    subst hg
    simp only at hR
    rw[if_pos e3]at hR
    subst hR
    exact(by repeat' first|apply And.intro|exact rfl|exact True.intro)
   ·have e3:(perfS (PS.mk (wE.mk x0 x1 x2 x3 x4 x5 x6 x7 x8) (wC.mk x9 x10 x11) bb nn ll rr pp kk vv) p1.Txs[i]).e=0:=by simpa using e3
    have h9:=(hq.perf (by omega) ht k).2.2 e3
    rw[kdj hq (by omega) ht k]
    exact h9
   ·have:=k.v.ml
    rw[List.length_append]
    omega
   ·have e3:(perfS (PS.mk (wE.mk x0 x1 x2 x3 x4 x5 x6 x7 x8) (wC.mk x9 x10 x11) bb nn ll rr pp kk vv) p1.Txs[i]).e=0:=by simpa using e3
    rw[if_neg (fun hh=>hh e3)]at hg
    exact hg
 ·have e:i=p1.Txs.length:=by have:=of_decide_eq_false e;omega
  subst e
  rw[List.drop_length]at hg
  unfold blkGo at hg
  subst hg
  have hw:=kds (x:=⟨0,(PS.mk (wE.mk x0 x1 x2 x3 x4 x5 x6 x7 x8) (wC.mk x9 x10 x11) bb nn ll rr pp kk vv),mm,fe⟩) hq (by omega)
  simp only at hw
  unfold crB at hR
  simp only at hR
  rw[if_neg (fun hh=>hh rfl)]at hR
  refine⟨⟨hq.b.1,?_⟩,fun e2=> ?_,fun e2=> ?_⟩
  ·rw[hw.1];exact hw.2
  ·have e2:(creditA bb p1.wAU (u64.wrap (x5+fe))).2≠0:=by simpa using e2
   rw[if_pos e2]at hR
   subst hR
   exact(by repeat' first|apply And.intro|exact rfl|exact True.intro)
  ·have e2:(creditA bb p1.wAU (u64.wrap (x5+fe))).2=0:=by simpa using e2
   rw[if_neg (fun hh=>hh e2)]at hR
   subst hR
   exact(by repeat' first|apply And.intro|exact rfl|exact True.intro)
noncomputable def ka0:Con TB.den:= .g ⟨104,[.one (.ptr 0 0),.one (zql)],[.cells [.mp 1],.map yqu (.bool)],(.one (.one (zqi))),[.cells [.mp 1],.map yqu (.bool)],false⟩ [.sl yqu,.sl yqu,.sl (.bool)] [yqi,.sl yqu,.sl (.bool)] [] fun(p1 w1k:List Int) (w1v:List Bool)=>(w1v=trs w1k/\p1.length<=1000000,((remS p1 w1k).1:Int),((remS p1 w1k).2:List Int),(trs (remS p1 w1k).2:List Bool),())
theorem kbh:ka0.Ok Tryz.prog TB:=prv Bs Tryz.func104 (.r 1 (.nd [] (.r 0 (.lp [] ⟨[1],[.map yqu (.bool)],[16],[.one (zqi)],[]⟩ .no)) [] .no)) (k7j.c (k27.c c0)) (Q:=∀(p1 w1k:List Int) (w1v:List Bool),(w1v=trs w1k/\p1.length<=1000000)->∀r0:Int,((remS p1 w1k).1)=r0->∀e1k:List Int,((remS p1 w1k).2)=e1k->∀e1v:List Bool,(trs (remS p1 w1k).2)=e1v-> 
(w1v=trs w1k/\p1.length<=1000000)/\let r1:Bool:=(p1.any (fun m=>decide (m∈w1k)==false))
(r1=true->
4=r0/\w1k=e1k/\w1v=e1v)/\
(r1=false->
(p1.length<=1000000)/\((!decide p1.Nodup)=true->
4=r0/\w1k=e1k/\w1v=e1v)/\
((!decide p1.Nodup)=false->
∃(I1:Int->(List Int)->(List Bool)->Prop) (M1:Int->(List Int)->(List Bool)->Nat),I1 0 w1k w1v/\∀(b1:Int) (f1:List Int) (i1:List Bool),(I1 b1 f1 i1->
(decide (b1<(p1.length:Int))=true->
(0<=b1)/\b1<(p1.length:Int)/\f1.length=i1.length/\let v2:List Int:=mDelK (BEq.beq (ix p1 b1)) f1
let v3:List Bool:=mDelV (BEq.beq (ix p1 b1)) f1 i1
I1 (i64.wrap (b1+1)) v2 v3/\M1 (i64.wrap (b1+1)) v2 v3<M1 b1 f1 i1)/\
(decide (b1<(p1.length:Int))=false->
0=r0/\f1=e1k/\i1=e1v))))) (by kernel_rfl)<|by
 rintro p1 w1k w1v h _ rfl _ rfl _ rfl
 obtain⟨h,hl⟩:=h
 subst h
 have ea:(p1.any fun m=>decide (m∈w1k)==false)=p1.any fun m=> !decide (m∈w1k):=by congr 1;funext m;cases decide (m∈w1k)<;>rfl
 refine⟨⟨rfl,hl⟩,?_⟩
 rw[ea]
 refine⟨fun e=> ?_,fun e=>⟨hl,fun e2=> ?_,fun e2=> ?_⟩⟩
 ·have:remS p1 w1k=(4,w1k):=by unfold remS;rw[e];rfl
  rw[this]
  exact⟨rfl,rfl,rfl⟩
 ·have:remS p1 w1k=(4,w1k):=by unfold remS;rw[e,e2];rfl
  rw[this]
  exact⟨rfl,rfl,rfl⟩
 ·have hA:remS p1 w1k=(0,p1.foldl List.erase w1k):=by unfold remS;rw[e,e2];rfl
  rw[hA]
  refine⟨(fun a k v=>∃i:Nat,a=(i:Int)/\i<=p1.length/\k=(p1.take i).foldl List.erase w1k/\v=trs k),(fun a _ _=>(p1.length-a).toNat),⟨0,rfl,by omega,rfl,rfl⟩,?_⟩
  rintro _ _ _ ⟨i,rfl,hi,rfl,rfl⟩
  refine⟨fun e3=> ?_,fun e3=> ?_⟩
  ·have e3:i<p1.length:=by have:=of_decide_eq_true e3;omega
   rw[ix_get _ _ e3,inc_i64 _ (by omega)]
   obtain⟨q1,q2⟩:=sDel ((p1.take i).foldl List.erase w1k) p1[i]
   rw[q1,q2]
   refine⟨by omega,by omega,by simp[trs],⟨i+1,rfl,by omega,?_,rfl⟩,by(dsimp only;omega)⟩
   rw[List.take_succ_eq_append_getElem e3,List.foldl_append]
   rfl
  ·have e3:i=p1.length:=by have:=of_decide_eq_false e3;omega
   subst e3
   rw[List.take_length]
   exact⟨rfl,rfl,rfl⟩
noncomputable def k6y:Con TB.den:= .g ⟨68,[.one (.ptr 0 0),.agg [zqi,zqi,zql,zqi,zql,.d (.sl (.st 9)),zqu]],[.cells [zqi,zqi,zqi,zqi,zqi,zqu,zqi,zqi,zqu,zqi,zqi,zql,.row 1,.ptr 2 0,.d (.sl (.st 9)),zqu,.row 3,.row 4],.vec yqu,.cells [.mp 5],.vec yqu,.vec (.st 10),.map yqu (.bool)],(.tup []),[.cells [zqi,zqi,zqi,zqi,zqi,zqu,zqi,zqi,zqu,zqi,zqi,zql,.view 1,.ptr 2 0,.d (.sl (.st 9)),zqu,.row 3,.row 4],.vec yqu,.cells [.mp 5],.vec yqu,.vec (.st 10),.map yqu (.bool)],false⟩ [.st 10,yqi,yqi,yqi,yqi,yqi,yqu,yqi,yqi,yqu,yqi,yqi,.sl yqu,.sl (.st 9),yqu,.sl yqu,.sl yqu,.sl (.st 10),.sl yqu,.sl (.bool)] [yqi,yqi,yqi,yqi,yqi,yqu,yqi,yqi,yqu,yqi,yqi,.sl yqu,yqi,yqi,.sl (.st 9),yqu,.sl yqu,.sl yqu,.sl (.st 10),.sl yqu,.sl (.bool)] [] fun(p1:wO) (Af Ad Ah Ag Ak Ao Ai Al Am Aj Ab:Int) (Ac:List Int) (Aa:List wA) (Ae:Int) (w1 w3:List Int) (w4:List wO) (w5k:List Int) (w5v:List Bool)=>(w5v=trs w5k/\p1.marks.length<=1000000/\0<=p1.leaves/\p1.leaves<=(w1.length:Int),Af,Ad,Ah,Ag,Ak,Ao,Ai,Al,Am,p1.wAS,p1.wAT,p1.wAV,(0:Int),(p1.leaves.toNat:Int),p1.wAM,p1.hidden,w1,w3,w4,((remS p1.marks w5k).2:List Int),(trs (remS p1.marks w5k).2:List Bool),())
theorem k8c:k6y.Ok Tryz.prog TB:=prv Bs Tryz.func68 .no (kbh.c c0) (Q:=∀(p1:wO) (Af Ad Ah Ag Ak Ao Ai Al Am Aj Ab:Int) (Ac:List Int) (Aa:List wA) (Ae:Int) (w1 w3:List Int) (w4:List wO) (w5k:List Int) (w5v:List Bool),(w5v=trs w5k/\p1.marks.length<=1000000/\0<=p1.leaves/\p1.leaves<=(w1.length:Int))->∀As:Int,Af=As->∀Ap:Int,Ad=Ap->∀At:Int,Ah=At->∀Aq:Int,Ag=Aq->∀Az:Int,Ak=Az->∀A8:Int,Ao=A8->∀A0:Int,Ai=A0->∀A1:Int,Al=A1->∀A3:Int,Am=A3->∀A4:Int,p1.wAS=A4->∀Au:Int,p1.wAT=Au->∀Av:List Int,p1.wAV=Av->∀d0_12o:Int,(0:Int)=d0_12o->∀d0_12n:Int,(p1.leaves.toNat:Int)=d0_12n->∀Aw:List wA,p1.wAM=Aw->∀Ax:Int,p1.hidden=Ax->∀e1:List Int,w1=e1->∀e3:List Int,w3=e3->∀e4:List wO,w4=e4->∀e5k:List Int,((remS p1.marks w5k).2)=e5k->∀e5v:List Bool,(trs (remS p1.marks w5k).2)=e5v-> 
(w5v=trs w5k/\p1.marks.length<=1000000)/\(0<=p1.leaves)/\p1.leaves<=(w1.length:Int)/\(w4.length=w4.length)/\(w3.length=w3.length)/\Af=As/\Ad=Ap/\Ah=At/\Ag=Aq/\Ak=Az/\Ao=A8/\Ai=A0/\Al=A1/\Am=A3/\p1.wAS=A4/\p1.wAT=Au/\p1.wAV=Av/\(0:Int)=d0_12o/\(p1.leaves.toNat:Int)=d0_12n/\p1.wAM=Aw/\p1.hidden=Ax/\w1=e1/\w3=e3/\w4=e4/\((remS p1.marks w5k).2)=e5k/\(trs (remS p1.marks w5k).2)=e5v) (by kernel_rfl)<|by
 rintro p1 Af Ad Ah Ag Ak Ao Ai Al Am Aj Ab Ac Aa Ae w1 w3 w4 w5k w5v h _ rfl _ rfl _ rfl _ rfl _ rfl _ rfl _ rfl _ rfl _ rfl _ rfl _ rfl _ rfl _ rfl _ rfl _ rfl _ rfl _ rfl _ rfl _ rfl _ rfl _ rfl
 exact⟨⟨h.1,h.2.1⟩,h.2.2.1,h.2.2.2,rfl,rfl,rfl,rfl,rfl,rfl,rfl,rfl,rfl,rfl,rfl,rfl,rfl,rfl,rfl,rfl,rfl,rfl,rfl,rfl,rfl,rfl,rfl⟩
noncomputable def k6f:Con TB.den:= .gp 99 [yqi] [yqu] [] fun(p0:Int)=>(0<=p0/\p0<=12,(emp p0.toNat:Int),())
theorem k6t:k6f.Ok Tryz.prog TB:=qrv Bs Tryz.func99 (.r 2 (.nd [] (.r 0 (.lp [] ⟨[],[],[3,12],[.one (zqu),.one (zqi)],[]⟩ .no)) [] .no)) (k4a.c (k1y.c c0)) (Q:=∀(p0:Int),(0<=p0/\p0<=12)->∀r0:Int,emp p0.toNat=r0-> 
(decide (p0<0)=true->
0=r0)/\
(decide (p0<0)=false->
(decide (12<p0)=true->
0=r0)/\
(decide (12<p0)=false->
((18446744069414584321:Int)=18446744069414584321/\U64 (6:Int)/\Us ([]:List Int)/\([]:List Int).length<=1099511627776)/\∃(I1:Int->Int->Prop) (M1:Int->Int->Nat),I1 (hashS (6:Int) ([]:List Int)) 0/\∀(b1 f1:Int),(I1 b1 f1->
(decide (f1<p0)=true->
(U64 b1/\U64 b1)/\I1 (hashS 6 [b1,b1]) (i64.wrap (f1+1))/\M1 (hashS 6 [b1,b1]) (i64.wrap (f1+1))<M1 b1 f1)/\
(decide (f1<p0)=false->
b1=r0))))) (by kernel_rfl)<|by
 rintro p0 h _ rfl
 refine⟨fun e=>(by have:=of_decide_eq_true e;omega),fun _=>⟨fun e=>(by have:=of_decide_eq_true e;omega),fun _=>⟨⟨rfl,by decide,(by intro x hx;cases hx),by decide⟩,?_⟩⟩⟩
 refine⟨(fun x a=>∃i:Nat,a=(i:Int)/\(i:Int)<=p0/\x=emp i),(fun _ a=>(p0-a).toNat),⟨0,rfl,by omega,rfl⟩,?_⟩
 rintro _ _ ⟨i,rfl,hi,rfl⟩
 refine⟨fun e=> ?_,fun e=> ?_⟩
 ·have e:=of_decide_eq_true e
  rw[inc_i64 _ (by omega)]
  exact⟨⟨emp_u i,emp_u i⟩,⟨i+1,rfl,by omega,rfl⟩,by(dsimp only;omega)⟩
 ·have e:=of_decide_eq_false e
  have:p0.toNat=i:=by omega
  rw[this]
noncomputable def k77:Con TB.den:= .gp 66 [.st 6] [yqu] [] fun(p0:wC)=>(FV p0,(rootF p0:Int),())
theorem k20:k77.Ok Tryz.prog TB:=qrv Bs Tryz.func66 (.r 4 (.nd [] (.r 0 (.lp [] ⟨[],[],[3,4,25],[.one (zqu),.one (zqu),.one (zqi)],[]⟩ (.r 1 (.nd [] (.r 0 (.jn ⟨[],[],[4],[.one (zqu)],[]⟩ [] .no [] .no)) [] .no)))) [] .no)) (k2t.c (k6t.c (k1y.c c0))) (Q:=∀(p0:wC),(FV p0)->∀r0:Int,rootF p0=r0-> 
(FV p0)/\((!true)=true->
0=r0)/\
((!true)=false->
(0<=p0.wD)/\((p0.wX==(ishl .i64 1 p0.wD))=true->
(0<=p0.wD)/\p0.wD<(p0.wa.length:Int)/\ix p0.wa p0.wD=r0)/\
((p0.wX==(ishl .i64 1 p0.wD))=false->
(0<=(0:Int)/\(0:Int)<=12)/\∃(I1:Int->Int->Int->Prop) (M1:Int->Int->Int->Nat),I1 (emp (0:Int).toNat) (emp (0:Int).toNat) 0/\∀(b1 f1 i1:Int),(I1 b1 f1 i1->
(decide (i1<p0.wD)=true->
∀J1:Int->Prop,(∀(k1:Int),
((U64 b1/\U64 b1)/\I1 (hashS 6 [b1,b1]) k1 (i64.wrap (i1+1))/\M1 (hashS 6 [b1,b1]) k1 (i64.wrap (i1+1))<M1 b1 f1 i1)->J1 k1)->
(0<=i1)/\let v1:Bool:=((iand .i64 (ishr .i64 p0.wX i1) 1)==1)
(v1=true->
(0<=i1)/\i1<(p0.wa.length:Int)/\(U64 (ix p0.wa i1)/\U64 f1)/\J1 (hashS 6 [(ix p0.wa i1),f1]))/\
(v1=false->
(U64 f1/\U64 b1)/\J1 (hashS 6 [f1,b1])))/\
(decide (i1<p0.wD)=false->
f1=r0))))) (by kernel_rfl)<|by
 rintro p0 h _ rfl
 have hv:=h
 obtain⟨d1,d2,c0,c1,ll,u,z⟩:=h
 obtain⟨d,hd⟩:=Int.eq_ofNat_of_zero_le (show 0<=p0.wD by omega)
 obtain⟨n,hn⟩:=Int.eq_ofNat_of_zero_le c0
 have hdn:p0.wD.toNat=d:=by omega
 have hp:=pow12 d (by omega)
 rw[hdn]at c1 ll
 refine⟨hv,fun e=>(by cases e),fun _=>⟨by omega,?_⟩⟩
 rw[hd,shl1 d (by omega),hn]
 refine⟨fun e=>⟨by omega,by omega,?_⟩,fun e=>⟨by decide,?_⟩⟩
 ·have e:(n:Int)=((2^d:Nat):Int):=by simpa using e
  unfold rootF
  rw[hdn,hn,if_pos e,hd]
 have e:¬(n:Int)=((2^d:Nat):Int):=by simpa using e
 have hr:rootF p0=rootGo p0 d 0 (emp 0) (emp 0):=by
  unfold rootF
  rw[hdn,hn,if_neg e]
 rw[hr]
 refine⟨fun a x b=>∃i:Nat,b=(i:Int)/\i<=d/\a=emp i/\(0<=x/\x<18446744069414584321)/\rootGo p0 (d-i) i (emp i) x=rootGo p0 d 0 (emp 0) (emp 0),fun _ _ b=>(d-b).toNat,⟨0,rfl,by omega,rfl,⟨(emp_u 0).1,emp_lt 0⟩,rfl⟩,?_⟩
 rintro _ x _ ⟨i,rfl,hi,rfl,hx,hg⟩
 refine⟨fun e J1 j=> ?_,fun e=> ?_⟩
 ·have e:i<d:=by have:=of_decide_eq_true e;omega
  have hs:i<p0.wa.length:=by omega
  have hxl:=u _ (List.getElem_mem hs)
  generalize hR:rootGo p0 d 0 (emp 0) (emp 0)=R at hg ⊢
  rw[show d-i=d-(i+1)+1 by omega]at hg
  unfold rootGo at hg
  rw[hn,Int.toNat_natCast]at hg
  rw[bit1 n i (by omega) (by omega)]
  refine⟨by omega,fun e2=>⟨by omega,by omega,?_,?_⟩,fun e2=>⟨⟨⟨hx.1,by omega⟩,emp_u i⟩,?_⟩⟩
  ·rw[ix_get _ _ hs]
   exact⟨⟨hxl.1,by omega⟩,hx.1,by omega⟩
  ·have e2:((n/2^i%2:Nat):Int)=1:=by simpa using e2
   have hb:bitN n i=true:=by unfold bitN;generalize n/2^i%2=q at *;simp;omega
   rw[if_pos hb]at hg
   refine j _ ⟨⟨emp_u i,emp_u i⟩,?_⟩
   rw[inc_i64 _ (by omega)]
   exact⟨⟨i+1,rfl,by omega,rfl,⟨(k2n _ _).1,k3i _ _⟩,hg.trans hR.symm⟩,by show((d:Int)-((i+1:Nat):Int)).toNat<((d:Int)-(i:Int)).toNat;omega⟩
  ·have e2:¬((n/2^i%2:Nat):Int)=1:=by simpa using e2
   have hb:¬bitN n i=true:=by unfold bitN;generalize n/2^i%2=q at *;simp;omega
   rw[if_neg hb]at hg
   refine j _ ⟨⟨emp_u i,emp_u i⟩,?_⟩
   rw[inc_i64 _ (by omega)]
   exact⟨⟨i+1,rfl,by omega,rfl,⟨(k2n _ _).1,k3i _ _⟩,hg.trans hR.symm⟩,by show((d:Int)-((i+1:Nat):Int)).toNat<((d:Int)-(i:Int)).toNat;omega⟩
 ·have e:d=i:=by have:=of_decide_eq_false e;omega
  subst e
  rw[Nat.sub_self]at hg
  exact hg
noncomputable def k9j:Con TB.den:= .b ⟨43,[.one (.ptr 0 0),.agg [zqu,zqi,zqu,zqu,zqu,.d (.sl (.st 2))]],[.cells [zqi,zqi,zqi,zqi,zqi,zqu,zqi,zqi,zqu,zqi,zqi,zql,.row 1,.ptr 2 0,.d (.sl (.st 9)),zqu,.row 3,.row 4],.vec yqu,.cells [.mp 5],.vec yqu,.vec (.st 10),.map yqu (.bool)],(.one (.one (zqi))),[.cells [zqi,zqi,zqi,zqi,zqi,zqu,zqi,zqi,zqu,zqi,zqi,zql,.row 6,.ptr 2 0,.d (.sl (.st 9)),zqu,.row 7,.row 8],.dead,.cells [.mp 5],.dead,.dead,.map yqu (.bool),.vec yqu,.vec yqu,.vec (.st 10)],false⟩ [.st 3,yqi,yqi,yqi,yqi,yqi,yqu,yqi,yqi,yqu,yqi,yqi,.sl yqu,.sl (.st 9),yqu,.sl yqu,.sl yqu,.sl (.st 10),.sl yqu,.sl (.bool)] [yqi,yqi,yqi,yqi,yqi,yqi,yqu,yqi,yqi,yqu,yqi,yqi,.sl yqu,.sl (.st 9),yqu,.sl yqu,.sl (.bool),.sl yqu,.sl yqu,.sl (.st 10)] fun(p1:wU) (Af Ad Ah Ag Ak Ao Ai Al Am Aj Ab:Int) (Ac:List Int) (Aa:List wA) (Ae:Int) (w1 w3:List Int) (w4:List wO) (w5k:List Int) (w5v:List Bool)=>((∃c:Nat,c+p1.Txs.length<=790/\PI (PS.mk (wE.mk Af Ad Ah Ag Ak Ao Ai Al Am) (wC.mk Aj Ab Ac) Aa Ae w1 w3 w4 w5k w5v) c 0)/\BR' p1,applyS (PS.mk (wE.mk Af Ad Ah Ag Ak Ao Ai Al Am) (wC.mk Aj Ab Ac) Aa Ae w1 w3 w4 w5k w5v) p1,fun R=>(R.e,R.s.R.we,R.s.R.wD,R.s.R.wI,R.s.R.wH,R.s.R.wG,R.s.R.wJ,R.s.R.wb,R.s.R.wQ,R.s.R.wq,R.s.F.wD,R.s.F.wX,R.s.F.wa,R.s.b,R.s.n,R.s.k,R.s.v,R.s.l,R.s.r,R.s.p,()))
theorem k48:k9j.Ok Tryz.prog TB:=pbx Bs [61,62,75,76] Tryz.func43 (.r 0 (.nd [] (.r 0 (.nd [] (.r 0 (.rt [.trimc 0 12,.trimc 0 16,.trimc 0 17])) [] .no)) [] (.nd [] (.r 0 (.nd [] (.r 0 (.rt [.trimc 0 12,.trimc 0 16,.trimc 0 17])) [] .no)) [] (.r 1 (.nd [] (.nd [.tokc 115 4 yqu] .no [] (.r 0 (.nd [] (.r 1 (.rt [.trimc 0 12,.trimc 0 16,.trimc 0 17])) [] .no))) [] .no))))) x0 (k8p.c (k8c.c (k20.c c0))) (Q:=∀(p1:wU) (Af Ad Ah Ag Ak Ao Ai Al Am Aj Ab:Int) (Ac:List Int) (Aa:List wA) (Ae:Int) (w1 w3:List Int) (w4:List wO) (w5k:List Int) (w5v:List Bool),((∃c:Nat,c+p1.Txs.length<=790/\PI (PS.mk (wE.mk Af Ad Ah Ag Ak Ao Ai Al Am) (wC.mk Aj Ab Ac) Aa Ae w1 w3 w4 w5k w5v) c 0)/\BR' p1)->∀R,applyS (PS.mk (wE.mk Af Ad Ah Ag Ak Ao Ai Al Am) (wC.mk Aj Ab Ac) Aa Ae w1 w3 w4 w5k w5v) p1=R-> 
let v1:Bool:=(p1.wAN !=(i64.wrap ((w4.length:Int)+1)))
(v1=true->
w1.length=w1.length/\w3.length=w3.length/\w4.length=w4.length/\(w4.length=w4.length)/\(w3.length=w3.length)/\(w1.length=w1.length)/\18=R.e/\Af=R.s.R.we/\Ad=R.s.R.wD/\Ah=R.s.R.wI/\Ag=R.s.R.wH/\Ak=R.s.R.wG/\Ao=R.s.R.wJ/\Ai=R.s.R.wb/\Al=R.s.R.wQ/\Am=R.s.R.wq/\Aj=R.s.F.wD/\Ab=R.s.F.wX/\Ac=R.s.F.wa/\Aa=R.s.b/\Ae=R.s.n/\w5k=R.s.k/\w5v=R.s.v/\w1=R.s.l/\w3=R.s.r/\w4=R.s.p)/\
(v1=false->
(decide (18446744069414584321<=p1.wAU)=true->
w1.length=w1.length/\w3.length=w3.length/\w4.length=w4.length/\(w4.length=w4.length)/\(w3.length=w3.length)/\(w1.length=w1.length)/\1=R.e/\Af=R.s.R.we/\Ad=R.s.R.wD/\Ah=R.s.R.wI/\Ag=R.s.R.wH/\Ak=R.s.R.wG/\Ao=R.s.R.wJ/\Ai=R.s.R.wb/\Al=R.s.R.wQ/\Am=R.s.R.wq/\Aj=R.s.F.wD/\Ab=R.s.F.wX/\Ac=R.s.F.wa/\Aa=R.s.b/\Ae=R.s.n/\w5k=R.s.k/\w5v=R.s.v/\w1=R.s.l/\w3=R.s.r/\w4=R.s.p)/\
(decide (18446744069414584321<=p1.wAU)=false->
(([]:List Int)=([]:List Int))/\(w4.length=w4.length)/\(w3.length=w3.length)/\(w1.length=w1.length)/\((∃c:Nat,c+p1.Txs.length<=790/\PI (PS.mk (wE.mk Af Ad Ah Ag Ak Ao Ai Al Am) (wC.mk Aj Ab Ac) Aa Ae w1 w3 w4 w5k w5v) c 0)/\BR' p1/\([]:List Int)=[])/\let r2:=blkS (PS.mk (wE.mk Af Ad Ah Ag Ak Ao Ai Al Am) (wC.mk Aj Ab Ac) Aa Ae w1 w3 w4 w5k w5v) ([]:List Int) p1
let r3:=(blkS (PS.mk (wE.mk Af Ad Ah Ag Ak Ao Ai Al Am) (wC.mk Aj Ab Ac) Aa Ae w1 w3 w4 w5k w5v) ([]:List Int) p1).s
((r2.e !=0)=true->
(r3.p.length=r3.p.length)/\(r3.r.length=r3.r.length)/\(r3.l.length=r3.l.length)/\(r3.v=trs r3.k/\(wO.mk Aj Ab Ac (w1.length:Int) r2.m Aa Ae).marks.length<=1000000/\0<=(wO.mk Aj Ab Ac (w1.length:Int) r2.m Aa Ae).leaves/\(wO.mk Aj Ab Ac (w1.length:Int) r2.m Aa Ae).leaves<=(r3.l.length:Int))/\let r4:=wO.mk Aj Ab Ac (w1.length:Int) r2.m Aa Ae
let r5:Int:=((wO.mk Aj Ab Ac (w1.length:Int) r2.m Aa Ae).leaves.toNat:Int)
let r6:List Int:=((remS (wO.mk Aj Ab Ac (w1.length:Int) r2.m Aa Ae).marks r3.k).2)
let r7:List Bool:=(trs (remS (wO.mk Aj Ab Ac (w1.length:Int) r2.m Aa Ae).marks r3.k).2)
(0:Int).toNat=0/\r5.toNat<=r3.l.length/\r3.r.length=r3.r.length/\r3.p.length=r3.p.length/\(r3.p.length=r3.p.length)/\(r3.r.length=r3.r.length)/\((r3.l.take r5.toNat).length=(r3.l.take r5.toNat).length)/\r2.e=R.e/\r3.R.we=R.s.R.we/\r3.R.wD=R.s.R.wD/\r3.R.wI=R.s.R.wI/\r3.R.wH=R.s.R.wH/\r3.R.wG=R.s.R.wG/\r3.R.wJ=R.s.R.wJ/\r3.R.wb=R.s.R.wb/\r3.R.wQ=R.s.R.wQ/\r3.R.wq=R.s.R.wq/\r4.wAS=R.s.F.wD/\r4.wAT=R.s.F.wX/\r4.wAV=R.s.F.wa/\r4.wAM=R.s.b/\r4.hidden=R.s.n/\r6=R.s.k/\r7=R.s.v/\r3.l.take r5.toNat=R.s.l/\r3.r=R.s.r/\r3.p=R.s.p)/\
((r2.e !=0)=false->
let v8:List wO:=[wO.mk Aj Ab Ac (w1.length:Int) r2.m Aa Ae]
r3.p.length=r3.p.length/\v8.length=v8.length/\(r3.p.length+v8.length)*104<=140737488355328/\r3.p.length+v8.length<=maxLen/\(FV r3.F)/\r3.r.length=r3.r.length/\[(rootF r3.F)].length=[(rootF r3.F)].length/\(r3.r.length+[(rootF r3.F)].length)*8<=140737488355328/\r3.r.length+[(rootF r3.F)].length<=maxLen/\((r3.p++v8).length=(r3.p++v8).length)/\((r3.r++[(rootF r3.F)]).length=(r3.r++[(rootF r3.F)]).length)/\(r3.l.length=r3.l.length)/\0=R.e/\r3.R.we=R.s.R.we/\r3.R.wD=R.s.R.wD/\r3.R.wI=R.s.R.wI/\r3.R.wH=R.s.R.wH/\r3.R.wG=R.s.R.wG/\r3.R.wJ=R.s.R.wJ/\r3.R.wb=R.s.R.wb/\r3.R.wQ=R.s.R.wQ/\r3.R.wq=R.s.R.wq/\r3.F.wD=R.s.F.wD/\r3.F.wX=R.s.F.wX/\r3.F.wa=R.s.F.wa/\r3.b=R.s.b/\r3.n=R.s.n/\r3.k=R.s.k/\r3.v=R.s.v/\r3.l=R.s.l/\r3.r++[(rootF r3.F)]=R.s.r/\r3.p++v8=R.s.p)))) (by kernel_rfl)<|by
 rintro p1 Af Ad Ah Ag Ak Ao Ai Al Am Aj Ab Ac Aa Ae w1 w3 w4 w5k w5v h R hR
 obtain⟨⟨c,hc,hp⟩,hb⟩:=h
 have hB:=blkS_BI hp (by omega) hb
 have hml:=blkS_ml (PS.mk (wE.mk Af Ad Ah Ag Ak Ao Ai Al Am) (wC.mk Aj Ab Ac) Aa Ae w1 w3 w4 w5k w5v) p1
 have hQ:=khy hB hp.v
 have hpl:w4.length<=c:=hp.p
 have hrl:w3.length=w4.length+1:=hp.rl
 unfold applyS at hR
 generalize hx:blkS (PS.mk (wE.mk Af Ad Ah Ag Ak Ao Ai Al Am) (wC.mk Aj Ab Ac) Aa Ae w1 w3 w4 w5k w5v) [] p1=x at hB hml hQ hR
 simp only at hR
 have ei:i64.wrap ((w4.length:Int)+1)=(w4.length:Int)+1:=kp _ (by omega) (by omega)
 rw[ei]
 refine⟨fun e=> ?_,fun e=>⟨fun e2=> ?_,fun e2=>⟨(by first|exact rfl|exact True.intro),rfl,rfl,rfl,⟨⟨c,hc,hp⟩,hb,rfl⟩,fun e3=> ?_,fun e3=> ?_⟩⟩⟩
 ·have e:p1.wAN≠(w4.length:Int)+1:=by simpa using e
  rw[if_pos e]at hR
  subst hR
  exact(by repeat' first|apply And.intro|exact rfl|exact True.intro)
 ·have e:¬p1.wAN≠(w4.length:Int)+1:=by simpa using e
  rw[if_neg e,if_pos (of_decide_eq_true e2)]at hR
  subst hR
  exact(by repeat' first|apply And.intro|exact rfl|exact True.intro)
 ·have e:¬p1.wAN≠(w4.length:Int)+1:=by simpa using e
  have e3:x.e≠0:=by simpa using e3
  rw[if_neg e,if_neg (of_decide_eq_false e2),if_pos e3]at hR
  subst hR
  obtain⟨y,hy⟩:=hB.l
  have hy:x.s.l=w1++y:=hy
  have hR2:x.s.R=wE.mk Af Ad Ah Ag Ak Ao Ai Al Am:=hB.R
  have hk2:(remS x.m x.s.k).2=w5k:=congrArg PS.k hQ
  have hv2:trs (remS x.m x.s.k).2=w5v:=congrArg PS.v hQ
  have hl2:x.s.l.take w1.length=w1:=by rw[hy];exact List.take_left
  have hr2:x.s.r=w3:=hB.r
  have hp2:x.s.p=w4:=hB.p
  refine⟨rfl,rfl,rfl,⟨hB.v,?_,?_,?_⟩,?_⟩
  ·show x.m.length<=1000000
   omega
  ·show(0:Int)<=(w1.length:Int)
   omega
  ·show(w1.length:Int)<=(x.s.l.length:Int)
   rw[hy,List.length_append]
   omega
  ·simp only[Int.toNat_natCast]
   rw[hR2,hk2,hl2,hr2,hp2]
   rw[hk2]at hv2
   refine⟨(by first|exact rfl|exact True.intro),?_,?_⟩
   ·rw[hy,List.length_append]
    omega
   ·rw[hv2]
    exact(by repeat' first|apply And.intro|exact rfl|exact True.intro)
 ·have e:¬p1.wAN≠(w4.length:Int)+1:=by simpa using e
  have e3:x.e=0:=by simpa using e3
  rw[if_neg e,if_neg (of_decide_eq_false e2),if_neg (fun hh=>hh e3)]at hR
  subst hR
  have hr2:x.s.r=w3:=hB.r
  have hp2:x.s.p=w4:=hB.p
  have hR2:x.s.R=wE.mk Af Ad Ah Ag Ak Ao Ai Al Am:=hB.R
  have hfv:FV x.s.F:=by
   rw[hB.F]
   exact frF_FV (by rw[hR2];exact hp.d1) (by rw[hR2];exact hp.d2) hB.ll hB.lb
  rw[hr2,hp2]
  refine⟨rfl,rfl,?_,?_,hfv,rfl,rfl,?_,?_,(by repeat' first|apply And.intro|exact rfl|exact True.intro)⟩
  ·simp only[List.length_cons,List.length_nil];omega
  ·simp only[List.length_cons,List.length_nil];unfold maxLen;omega
  ·simp only[List.length_cons,List.length_nil];omega
  ·simp only[List.length_cons,List.length_nil];unfold maxLen;omega
noncomputable def k5v:Con TB.den:= .g ⟨69,[.one (.row 0)],[.vec yqu],(.one (.one (.row 1))),[.vec yqu,.vec yqu],false⟩ [.sl yqu] [.sl yqu,.sl yqu] [] fun(w0:List Int)=>(w0.length<=1000000,w0,w0,())
theorem k6v:k5v.Ok Tryz.prog TB:=prx Bs [5,7] Tryz.func69 (.r 0 (.nd [] (.r 0 (.nd [] (.r 0 (.rt [.rnil 2 yqu])) [] .no)) [] .no)) x0 c0 (Q:=∀(w0:List Int),(w0.length<=1000000)->∀e0:List Int,w0=e0->∀e1:List Int,w0=e1-> 
∀z4:Bool,(z4=true->w0.length=0)->(z4=true->
(0=([]:List Int).length)/\w0=e0/\([]:List Int)=e1)/\
(z4=false->
([]:List Int).length=([]:List Int).length/\w0.length=w0.length/\(([]:List Int).length+w0.length)*8<=140737488355328/\([]:List Int).length+w0.length<=maxLen/\((([]:List Int)++w0).length=(([]:List Int)++w0).length)/\w0=e0/\([]:List Int)++w0=e1)) (by kernel_rfl)<|by
 rintro w0 h _ rfl _ rfl
 exact fun z hz=>⟨fun e=>⟨rfl,rfl,(List.eq_nil_of_length_eq_zero (hz e)).symm⟩,fun e=>⟨rfl,rfl,by simp;omega,by simp;unfold maxLen;omega,rfl,rfl,rfl⟩⟩
noncomputable def k7p:Con TB.den:= .g ⟨44,[.one (.ptr 0 0)],[.cells [zqi,zqi,zqi,zqi,zqi,zqu,zqi,zqi,zqu,zqi,zqi,zql,.row 1,.ptr 2 0,.d (.sl (.st 9)),zqu,.row 3,.row 4],.vec yqu,.cells [.mp 5],.vec yqu,.vec (.st 10),.map yqu (.bool)],(.one (.one (zql))),[.cells [zqi,zqi,zqi,zqi,zqi,zqu,zqi,zqi,zqu,zqi,zqi,zql,.row 1,.ptr 2 0,.d (.sl (.st 9)),zqu,.row 3,.row 4],.vec yqu,.cells [.mp 5],.vec yqu,.vec (.st 10),.map yqu (.bool)],false⟩ [yqi,yqi,yqi,yqi,yqi,yqu,yqi,yqi,yqu,yqi,yqi,.sl yqu,.sl (.st 9),yqu,.sl yqu,.sl yqu,.sl (.st 10),.sl yqu,.sl (.bool)] [.sl yqu,yqi,yqi,yqi,yqi,yqi,yqu,yqi,yqi,yqu,yqi,yqi,.sl yqu,.sl (.st 9),yqu,.sl yqu,.sl yqu,.sl (.st 10),.sl yqu,.sl (.bool)] [] fun(Af Ad Ah Ag Ak Ao Ai Al Am Aj Ab:Int) (Ac:List Int) (Aa:List wA) (Ae:Int) (w1 w3:List Int) (w4:List wO) (w5k:List Int) (w5v:List Bool)=>(w1.length<=1000000,w1,Af,Ad,Ah,Ag,Ak,Ao,Ai,Al,Am,Aj,Ab,Ac,Aa,Ae,w1,w3,w4,w5k,w5v,())
theorem k3w:k7p.Ok Tryz.prog TB:=prv Bs Tryz.func44 (.r 1 (.rt [.frz 6 [2]])) (k6v.c c0) (Q:=∀(Af Ad Ah Ag Ak Ao Ai Al Am Aj Ab:Int) (Ac:List Int) (Aa:List wA) (Ae:Int) (w1 w3:List Int) (w4:List wO) (w5k:List Int) (w5v:List Bool),(w1.length<=1000000)->∀r0:List Int,w1=r0->∀As:Int,Af=As->∀Ap:Int,Ad=Ap->∀At:Int,Ah=At->∀Aq:Int,Ag=Aq->∀Az:Int,Ak=Az->∀A8:Int,Ao=A8->∀A0:Int,Ai=A0->∀A1:Int,Al=A1->∀A3:Int,Am=A3->∀A4:Int,Aj=A4->∀Au:Int,Ab=Au->∀Av:List Int,Ac=Av->∀Aw:List wA,Aa=Aw->∀Ax:Int,Ae=Ax->∀e1:List Int,w1=e1->∀e3:List Int,w3=e3->∀e4:List wO,w4=e4->∀e5k:List Int,w5k=e5k->∀e5v:List Bool,w5v=e5v-> 
(w1.length=w1.length)/\(w1.length<=1000000)/\(w1.length=w1.length)/\(w4.length=w4.length)/\(w3.length=w3.length)/\(w1.length=w1.length)/\w1=r0/\Af=As/\Ad=Ap/\Ah=At/\Ag=Aq/\Ak=Az/\Ao=A8/\Ai=A0/\Al=A1/\Am=A3/\Aj=A4/\Ab=Au/\Ac=Av/\Aa=Aw/\Ae=Ax/\w1=e1/\w3=e3/\w4=e4/\w5k=e5k/\w5v=e5v) (by kernel_rfl)<|by
 rintro Af Ad Ah Ag Ak Ao Ai Al Am Aj Ab Ac Aa Ae w1 w3 w4 w5k w5v h _ rfl _ rfl _ rfl _ rfl _ rfl _ rfl _ rfl _ rfl _ rfl _ rfl _ rfl _ rfl _ rfl _ rfl _ rfl _ rfl _ rfl _ rfl _ rfl _ rfl
 exact⟨rfl,h,(by repeat' first|apply And.intro|exact rfl|exact True.intro)⟩
noncomputable def k33:Con TB.den:= .gp 71 [.sl (.st 9)] [.sl (.st 9)] [] fun(p0:List wA)=>(p0.length<=100000,p0,())
theorem k3j:k33.Ok Tryz.prog TB:=qrv Bs Tryz.func71 .no c0 (Q:=∀(p0:List wA),(p0.length<=100000)->∀r0:List wA,p0=r0-> 
∀z4:Bool,(z4=true->p0=[])->(z4=true->
([]:List wA)=r0)/\
(z4=false->
(([]:List wA).length+p0.length)*24<=140737488355328/\([]:List wA).length+p0.length<=maxLen/\([]:List wA)++p0=r0)) (by kernel_rfl)<|by
 rintro p0 h _ rfl
 exact fun z hz=>⟨fun h=>(hz h).symm,fun _=>⟨by simp;omega,by simp;unfold maxLen;omega,rfl⟩⟩
noncomputable def k7v:Con TB.den:= .g ⟨46,[.one (.ptr 0 0)],[.cells [zqi,zqi,zqi,zqi,zqi,zqu,zqi,zqi,zqu,zqi,zqi,zql,.row 1,.ptr 2 0,.d (.sl (.st 9)),zqu,.row 3,.row 4],.vec yqu,.cells [.mp 5],.vec yqu,.vec (.st 10),.map yqu (.bool)],(.one (.agg [.d (.sl (.st 9))])),[.cells [zqi,zqi,zqi,zqi,zqi,zqu,zqi,zqi,zqu,zqi,zqi,zql,.row 1,.ptr 2 0,.d (.sl (.st 9)),zqu,.row 3,.row 4],.vec yqu,.cells [.mp 5],.vec yqu,.vec (.st 10),.map yqu (.bool)],false⟩ [yqi,yqi,yqi,yqi,yqi,yqu,yqi,yqi,yqu,yqi,yqi,.sl yqu,.sl (.st 9),yqu,.sl yqu,.sl yqu,.sl (.st 10),.sl yqu,.sl (.bool)] [.st 15,yqi,yqi,yqi,yqi,yqi,yqu,yqi,yqi,yqu,yqi,yqi,.sl yqu,.sl (.st 9),yqu,.sl yqu,.sl yqu,.sl (.st 10),.sl yqu,.sl (.bool)] [] fun(Af Ad Ah Ag Ak Ao Ai Al Am Aj Ab:Int) (Ac:List Int) (Aa:List wA) (Ae:Int) (w1 w3:List Int) (w4:List wO) (w5k:List Int) (w5v:List Bool)=>(Aa.length<=100000,(wY.mk Aa:wY),Af,Ad,Ah,Ag,Ak,Ao,Ai,Al,Am,Aj,Ab,Ac,Aa,Ae,w1,w3,w4,w5k,w5v,())
theorem k3t:k7v.Ok Tryz.prog TB:=prv Bs Tryz.func46 .no (k3j.c c0) (Q:=∀(Af Ad Ah Ag Ak Ao Ai Al Am Aj Ab:Int) (Ac:List Int) (Aa:List wA) (Ae:Int) (w1 w3:List Int) (w4:List wO) (w5k:List Int) (w5v:List Bool),(Aa.length<=100000)->∀r0:wY,wY.mk Aa=r0->∀As:Int,Af=As->∀Ap:Int,Ad=Ap->∀At:Int,Ah=At->∀Aq:Int,Ag=Aq->∀Az:Int,Ak=Az->∀A8:Int,Ao=A8->∀A0:Int,Ai=A0->∀A1:Int,Al=A1->∀A3:Int,Am=A3->∀A4:Int,Aj=A4->∀Au:Int,Ab=Au->∀Av:List Int,Ac=Av->∀Aw:List wA,Aa=Aw->∀Ax:Int,Ae=Ax->∀e1:List Int,w1=e1->∀e3:List Int,w3=e3->∀e4:List wO,w4=e4->∀e5k:List Int,w5k=e5k->∀e5v:List Bool,w5v=e5v-> 
(Aa.length<=100000)/\(w4.length=w4.length)/\(w3.length=w3.length)/\(w1.length=w1.length)/\Aa=r0.wB/\Af=As/\Ad=Ap/\Ah=At/\Ag=Aq/\Ak=Az/\Ao=A8/\Ai=A0/\Al=A1/\Am=A3/\Aj=A4/\Ab=Au/\Ac=Av/\Aa=Aw/\Ae=Ax/\w1=e1/\w3=e3/\w4=e4/\w5k=e5k/\w5v=e5v) (by kernel_rfl)<|by
 rintro Af Ad Ah Ag Ak Ao Ai Al Am Aj Ab Ac Aa Ae w1 w3 w4 w5k w5v h _ rfl _ rfl _ rfl _ rfl _ rfl _ rfl _ rfl _ rfl _ rfl _ rfl _ rfl _ rfl _ rfl _ rfl _ rfl _ rfl _ rfl _ rfl _ rfl _ rfl
 exact⟨h,(by repeat' first|apply And.intro|exact rfl|exact True.intro)⟩
noncomputable def k9w:Con TB.den:= .g ⟨42,[.one (.ptr 0 0)],[.cells [zqi,zqi,zqi,zqi,zqi,zqu,zqi,zqi,zqu,zqi,zqi,zql,.row 1,.ptr 2 0,.d (.sl (.st 9)),zqu,.row 3,.row 4],.vec yqu,.cells [.mp 5],.vec yqu,.vec (.st 10),.map yqu (.bool)],(.one (.one (zqu))),[.cells [zqi,zqi,zqi,zqi,zqi,zqu,zqi,zqi,zqu,zqi,zqi,zql,.row 1,.ptr 2 0,.d (.sl (.st 9)),zqu,.row 3,.row 4],.vec yqu,.cells [.mp 5],.vec yqu,.vec (.st 10),.map yqu (.bool)],false⟩ [yqi,yqi,yqi,yqi,yqi,yqu,yqi,yqi,yqu,yqi,yqi,.sl yqu,.sl (.st 9),yqu,.sl yqu,.sl yqu,.sl (.st 10),.sl yqu,.sl (.bool)] [yqu,yqi,yqi,yqi,yqi,yqi,yqu,yqi,yqi,yqu,yqi,yqi,.sl yqu,.sl (.st 9),yqu,.sl yqu,.sl yqu,.sl (.st 10),.sl yqu,.sl (.bool)] [] fun(Af Ad Ah Ag Ak Ao Ai Al Am Aj Ab:Int) (Ac:List Int) (Aa:List wA) (Ae:Int) (w1 w3:List Int) (w4:List wO) (w5k:List Int) (w5v:List Bool)=>(w3.length<=1000000,((if w3=[]then 0 else ix w3 ((w3.length:Int)-1)):Int),Af,Ad,Ah,Ag,Ak,Ao,Ai,Al,Am,Aj,Ab,Ac,Aa,Ae,w1,w3,w4,w5k,w5v,())
theorem k5h:k9w.Ok Tryz.prog TB:=prv Bs Tryz.func42 .no c0 (Q:=∀(Af Ad Ah Ag Ak Ao Ai Al Am Aj Ab:Int) (Ac:List Int) (Aa:List wA) (Ae:Int) (w1 w3:List Int) (w4:List wO) (w5k:List Int) (w5v:List Bool),(w3.length<=1000000)->∀r0:Int,((if w3=[]then 0 else ix w3 ((w3.length:Int)-1)):Int)=r0->∀As:Int,Af=As->∀Ap:Int,Ad=Ap->∀At:Int,Ah=At->∀Aq:Int,Ag=Aq->∀Az:Int,Ak=Az->∀A8:Int,Ao=A8->∀A0:Int,Ai=A0->∀A1:Int,Al=A1->∀A3:Int,Am=A3->∀A4:Int,Aj=A4->∀Au:Int,Ab=Au->∀Av:List Int,Ac=Av->∀Aw:List wA,Aa=Aw->∀Ax:Int,Ae=Ax->∀e1:List Int,w1=e1->∀e3:List Int,w3=e3->∀e4:List wO,w4=e4->∀e5k:List Int,w5k=e5k->∀e5v:List Bool,w5v=e5v-> 
(((w3.length:Int)==0)=true->
(w4.length=w4.length)/\(w3.length=w3.length)/\(w1.length=w1.length)/\0=r0/\Af=As/\Ad=Ap/\Ah=At/\Ag=Aq/\Ak=Az/\Ao=A8/\Ai=A0/\Al=A1/\Am=A3/\Aj=A4/\Ab=Au/\Ac=Av/\Aa=Aw/\Ae=Ax/\w1=e1/\w3=e3/\w4=e4/\w5k=e5k/\w5v=e5v)/\
(((w3.length:Int)==0)=false->
(0<=i64.wrap ((w3.length:Int)-1)/\i64.wrap ((w3.length:Int)-1)<(w3.length:Int))/\(0<=i64.wrap ((w3.length:Int)-1)/\i64.wrap ((w3.length:Int)-1)<(w3.length:Int))/\let v1:Int:=ix w3 (i64.wrap ((w3.length:Int)-1))
(w4.length=w4.length)/\(w3.length=w3.length)/\(w1.length=w1.length)/\v1=r0/\Af=As/\Ad=Ap/\Ah=At/\Ag=Aq/\Ak=Az/\Ao=A8/\Ai=A0/\Al=A1/\Am=A3/\Aj=A4/\Ab=Au/\Ac=Av/\Aa=Aw/\Ae=Ax/\w1=e1/\w3=e3/\w4=e4/\w5k=e5k/\w5v=e5v)) (by kernel_rfl)<|by
 rintro Af Ad Ah Ag Ak Ao Ai Al Am Aj Ab Ac Aa Ae w1 w3 w4 w5k w5v h _ rfl _ rfl _ rfl _ rfl _ rfl _ rfl _ rfl _ rfl _ rfl _ rfl _ rfl _ rfl _ rfl _ rfl _ rfl _ rfl _ rfl _ rfl _ rfl _ rfl
 refine⟨fun e=> ?_,fun e=> ?_⟩
 ·have e:w3=[]:=by simpa using e
  rw[if_pos e]
  exact(by repeat' first|apply And.intro|exact rfl|exact True.intro)
 ·have e:¬w3=[]:=by simpa using e
  have hne:1<=w3.length:=List.length_pos_iff.2 e
  rw[if_neg e,kp _ (by omega) (by omega)]
  exact⟨⟨by omega,by omega⟩,⟨by omega,by omega⟩,(by repeat' first|apply And.intro|exact rfl|exact True.intro)⟩
noncomputable def k8u:Con TB.den:= .g ⟨47,[.one (.ptr 0 0),.one (.d (.sl (.st 3))),.one (.k (.fn 24))],[.cells [.ptr 1 0,zqi,.own 2,zql,.d (.sl (.st 13)),.mp 3,zqu,zqu,zqu,zqi,zqi,zqi,zqi,zqi,zqu,zql,zqu,zqu,zql,zqu],.cells [.d (.bool),zqu,zqi,.d (.sl (.st 4)),.mp 4,.mp 5,.mp 6],.tip (.st 12),.map yqi (.st 11),.map (.str) yqi,.map (.str) (.sl yqu),.map (.str) (.bool)],(.tup []),[.cells [.ptr 1 0,zqi,.own 2,zql,.d (.sl (.st 13)),.mp 3,zqu,zqu,zqu,zqi,zqi,zqi,zqi,zqi,zqu,zql,zqu,zqu,zql,zqu],.cells [.d (.bool),zqu,zqi,.d (.sl (.st 4)),.mp 4,.mp 5,.mp 6],.tip (.st 12),.map yqi (.st 11),.map (.str) yqi,.map (.str) (.sl yqu),.map (.str) (.bool)],false⟩ [.sl (.st 3),yqi,.sl yqu,.sl (.st 13),yqu,yqu,yqu,yqi,yqi,yqi,yqi,yqi,yqu,.sl yqu,yqu,yqu,.sl yqu,yqu,.bool,yqu,yqi,.sl (.st 4),.sl (.st 12),.sl yqi,.sl (.st 11),.sl (.str),.sl yqi,.sl (.str),.sl (.sl yqu),.sl (.str),.sl (.bool)] [yqi,.sl yqu,.sl (.st 13),yqu,yqu,yqu,yqi,yqi,yqi,yqi,yqi,yqu,.sl yqu,yqu,yqu,.sl yqu,yqu,.bool,yqu,yqi,.sl (.st 4),.sl (.st 12),.sl yqi,.sl (.st 11),.sl (.str),.sl yqi,.sl (.str),.sl (.sl yqu),.sl (.str),.sl (.bool)] [] fun(p1:List wU) (Ad:Int) (Ag:List Int) (Ak:List wAL) (Ai Al Am Aj Ab Ac Bb Bc Aa:Int) (Ae:List Int) (Bd Be:Int) (Bf:List Int) (Bg:Int) (Ay:Bool) (A5 A6:Int) (A7:List wF) (w2:List wh) (w3k:List Int) (w3v:List wAH) (w4k:List ByteArray) (w4v:List Int) (w5k:List ByteArray) (w5v:List (List Int)) (w6k:List ByteArray) (w6v:List Bool)=>(BL0 p1/\p1.length<=8,Ad,Ag,Ak,Ai,Al,Am,Aj,Ab,Ac,Bb,Bc,Aa,Ae,Bd,Be,Bf,Bg,Ay,A5,A6,A7,w2,w3k,w3v,w4k,w4v,w5k,w5v,w6k,w6v,())
theorem k9v:k8u.Ok Tryz.prog TB:=prv Bs Tryz.func47 (.r 1 (.lp [] ⟨[],[],[16],[.one (zqi)],[]⟩ (.r 1 (.nd [] (.r 1 (.lp [] ⟨[],[],[],[],[]⟩ .no)) [] .no)))) c0 (Q:=∀(p1:List wU) (Ad:Int) (Ag:List Int) (Ak:List wAL) (Ai Al Am Aj Ab Ac Bb Bc Aa:Int) (Ae:List Int) (Bd Be:Int) (Bf:List Int) (Bg:Int) (Ay:Bool) (A5 A6:Int) (A7:List wF) (w2:List wh) (w3k:List Int) (w3v:List wAH) (w4k:List ByteArray) (w4v:List Int) (w5k:List ByteArray) (w5v:List (List Int)) (w6k:List ByteArray) (w6v:List Bool),(BL0 p1/\p1.length<=8)->∀Ap:Int,Ad=Ap->∀Aq:List Int,Ag=Aq->∀Az:List wAL,Ak=Az->∀A0:Int,Ai=A0->∀A1:Int,Al=A1->∀A3:Int,Am=A3->∀A4:Int,Aj=A4->∀Au:Int,Ab=Au->∀Av:Int,Ac=Av->∀d0_12:Int,Bb=d0_12->∀d0_13:Int,Bc=d0_13->∀Aw:Int,Aa=Aw->∀Ax:List Int,Ae=Ax->∀d0_16:Int,Bd=d0_16->∀d0_17:Int,Be=d0_17->∀d0_18:List Int,Bf=d0_18->∀d0_19:Int,Bg=d0_19->∀d1_0:Bool,Ay=d1_0->∀d1_1:Int,A5=d1_1->∀d1_2:Int,A6=d1_2->∀d1_3:List wF,A7=d1_3->∀e2:List wh,w2=e2->∀e3k:List Int,w3k=e3k->∀e3v:List wAH,w3v=e3v->∀e4k:List ByteArray,w4k=e4k->∀e4v:List Int,w4v=e4v->∀e5k:List ByteArray,w5k=e5k->∀e5v:List (List Int),w5v=e5v->∀e6k:List ByteArray,w6k=e6k->∀e6v:List Bool,w6v=e6v-> 
∃(I1:Int->Prop) (M1:Int->Nat),I1 0/\∀(b1:Int),(I1 b1->
(decide (b1<(p1.length:Int))=true->
(0<=b1)/\b1<(p1.length:Int)/\∃(I2:Prop) (M2:Nat),I2/\(I2->
let v1:Bool:=decide ((0:Int)<(((ix p1 b1).Txs).length:Int))
(v1=true->
(0<=(0:Int))/\0<(((ix p1 b1).Txs).length:Int)/\False)/\
(v1=false->
I1 (i64.wrap (b1+1))/\M1 (i64.wrap (b1+1))<M1 b1)))/\
(decide (b1<(p1.length:Int))=false->
(w2=w2)/\Ad=Ap/\Ag=Aq/\Ak=Az/\Ai=A0/\Al=A1/\Am=A3/\Aj=A4/\Ab=Au/\Ac=Av/\Bb=d0_12/\Bc=d0_13/\Aa=Aw/\Ae=Ax/\Bd=d0_16/\Be=d0_17/\Bf=d0_18/\Bg=d0_19/\Ay=d1_0/\A5=d1_1/\A6=d1_2/\A7=d1_3/\w2=e2/\w3k=e3k/\w3v=e3v/\w4k=e4k/\w4v=e4v/\w5k=e5k/\w5v=e5v/\w6k=e6k/\w6v=e6v))) (by kernel_rfl)<|by
 rintro p1 Ad Ag Ak Ai Al Am Aj Ab Ac Bb Bc Aa Ae Bd Be Bf Bg Ay A5 A6 A7 w2 w3k w3v w4k w4v w5k w5v w6k w6v h _ rfl _ rfl _ rfl _ rfl _ rfl _ rfl _ rfl _ rfl _ rfl _ rfl _ rfl _ rfl _ rfl _ rfl _ rfl _ rfl _ rfl _ rfl _ rfl _ rfl _ rfl _ rfl _ rfl _ rfl _ rfl _ rfl _ rfl _ rfl _ rfl _ rfl
 obtain⟨hl,h8⟩:=h
 refine⟨(fun i=>0<=i/\i<=p1.length),(fun i=>(p1.length-i).toNat),⟨by omega,by omega⟩,?_⟩
 rintro i ⟨g0,g1⟩
 refine⟨fun hh=> ?_,fun hh=> ?_⟩
 ·have hh:=of_decide_eq_true hh
  have ht:(ix p1 i).Txs=[]:=hl.t _ (ix_mem p1 i g0 hh)
  refine⟨g0,hh,True,0,trivial,fun _=> ?_⟩
  refine⟨fun e=> ?_,fun e=> ?_⟩
  ·exfalso
   rw[ht]at e
   simp at e
  ·rw[inc i p1.length g0 hh (by omega)]
   exact⟨⟨by omega,by omega⟩,by(first|omega|(dsimp only;omega))⟩
 ·exact(by repeat' first|apply And.intro|exact rfl|exact True.intro)
noncomputable def k8f:Con TB.den:= .bp 45 [.st 15] [yqu,yqi] fun(p0:wY)=>(OkA p0.wB,totA 0 p0.wB,fun R=>(R.1,R.2,()))
theorem k3v:k8f.Ok Tryz.prog TB:=qbx Bs [] Tryz.func45 (.r 1 (.nd [] (.r 0 (.lp [] ⟨[],[],[4,12],[.one (zqu),.one (zqi)],[]⟩ .no)) [] .no)) (x1 x70_ok x0) c0 (Q:=∀(p0:wY),(OkA p0.wB)->∀R,totA 0 p0.wB=R-> 
∃(I1:Int->Int->Prop) (M1:Int->Int->Nat),I1 0 0/\∀(b1 f1:Int),(I1 b1 f1->
(decide (f1<(p0.wB.length:Int))=true->
(0<=f1)/\f1<(p0.wB.length:Int)/\(0<=b1/\0<=((ix p0.wB f1).wT)/\0<=(0:Int)/\(0:Int)<=1)/\let r2:Int:=(b1+((ix p0.wB f1).wT)+(0:Int))%18446744073709551616
let r3:Int:=(b1+((ix p0.wB f1).wT)+(0:Int))/18446744073709551616
((r3 !=0)=true->
0=R.1/\3=R.2)/\
((r3 !=0)=false->
I1 r2 (i64.wrap (f1+1))/\M1 r2 (i64.wrap (f1+1))<M1 b1 f1))/\
(decide (f1<(p0.wB.length:Int))=false->
b1=R.1/\0=R.2))) (by kernel_rfl)<|by
 rintro p0 h R hR
 subst hR
 have hl:=h.2.1
 refine(⟨(fun t a=>∃i:Nat,a=(i:Int)/\i<=p0.wB.length/\(0<=t/\t<18446744073709551616)/\totA t (p0.wB.drop i)=totA 0 p0.wB),(fun _ a=>(p0.wB.length-a).toNat),⟨0,rfl,by omega,by omega,rfl⟩,?_⟩)
 rintro t _ ⟨i,rfl,hi,ht,he⟩
 refine⟨fun hc=> ?_,fun hc=> ?_⟩
 ·have hc:=of_decide_eq_true hc
  have hi' :i<p0.wB.length:=by omega
  have hb:=h.2.2 _ (List.getElem_mem hi')
  unfold AccOk at hb
  rw[kgj _ _ _ hi']at he
  rw[ix_get _ _ hi']
  refine⟨by omega,hc,⟨ht.1,by omega,by omega,by omega⟩,fun hx=> ?_,fun hx=> ?_⟩
  ·have hx:(t+p0.wB[i].wT+0)/18446744073709551616≠0:=by simpa using hx
   rw[if_pos (by omega)]at he
   rw[<-he]
   exact⟨rfl,rfl⟩
  ·have hx:(t+p0.wB[i].wT+0)/18446744073709551616=0:=by simpa using hx
   rw[if_neg (by omega)]at he
   rw[inc_i64 _ (by omega)]
   have e:(t+p0.wB[i].wT+0)%18446744073709551616=t+p0.wB[i].wT:=by omega
   rw[e]
   exact⟨⟨i+1,rfl,by omega,by omega,he⟩,by(dsimp only;omega)⟩
 ·have hc:=of_decide_eq_false hc
  have:i=p0.wB.length:=by omega
  subst this
  rw[List.drop_length]at he
  rw[<-he]
  exact⟨rfl,rfl⟩
noncomputable def k7y:Con TB.den:= .gp 64 [yqi] [.st 6] [] fun(p0:Int)=>(1<=p0/\p0<=12,(frF p0 []:wC),())
theorem k3x:k7y.Ok Tryz.prog TB:=qrv Bs Tryz.func64 (.r 0 (.nd [] (.jn ⟨[],[],[8],[.one (.d (.bool))],[]⟩ [] .no [] .no) [] (.r 0 (.rt [.frzc 1 0 2])))) c0 (Q:=∀(p0:Int),(1<=p0/\p0<=12)->∀r0:wC,(frF p0 [])=r0-> 
∀J1:Bool->Prop,(∀(b1:Bool),
((b1=true->
0=r0.wD/\0=r0.wX/\([]:List Int)=r0.wa)/\
(b1=false->
0<=i64.wrap (p0+1)/\i64.wrap (p0+1)<=i64.wrap (p0+1)/\((i64.wrap (p0+1)).toNat*8<=140737488355328)/\((i64.wrap (p0+1)).toNat<=maxLen)/\((i64.wrap (p0+1)).toNat=(List.replicate ((i64.wrap (p0+1)).toNat) (0:Int)).length)/\p0=r0.wD/\0=r0.wX/\List.replicate ((i64.wrap (p0+1)).toNat) (0:Int)=r0.wa))->J1 b1)->
(decide (p0<1)=true->
J1 true)/\
(decide (p0<1)=false->
J1 (decide (12<p0)))) (by kernel_rfl)<|by
 rintro p0 h _ rfl
 refine fun J1 j=>⟨fun e=>(by have:=of_decide_eq_true e;omega),fun e=> ?_⟩
 refine j _ ⟨fun e=>(by have:=of_decide_eq_true e;omega),fun _=> ?_⟩
 obtain⟨d,rfl⟩:=Int.eq_ofNat_of_zero_le (show 0<=p0 by omega)
 rw[kp _ (by omega) (by omega)]
 have e2:((d:Int)+1).toNat=d+1:=by omega
 rw[e2]
 refine⟨by omega,by omega,by omega,by unfold maxLen;omega,by simp,rfl,rfl,?_⟩
 show _=leftS (d:Int).toNat []
 rw[Int.toNat_natCast]
 refine(List.eq_replicate_iff.2 ⟨k1f _ _,fun x hx=> ?_⟩).symm
 obtain⟨i,hi,rfl⟩:=List.mem_map.1 hx
 have:bitN ([]:List Int).length i=false:=by simp[bitN]
 rw[if_neg (by rw[this];decide)]
noncomputable def k93:Con TB.den:= .t ⟨65,[],[],(.one (.one (.ptr 0 0))),[.cells [.mp 1],.map yqu (.bool)],false⟩ [] [.sl yqu,.sl (.bool)] [] (([]:List Int),([]:List Bool),())
theorem k4f:k93.Ok Tryz.prog TB:=ptv Bs Tryz.func65 .no c0 (Q:=∀e1k:List Int,([]:List Int)=e1k->∀e1v:List Bool,([]:List Bool)=e1v-> 
([]:List Int)=e1k/\([]:List Bool)=e1v) (by kernel_rfl)<|by
 rintro _ rfl _ rfl
 exact⟨rfl,rfl⟩
noncomputable def k5x:Con TB.den:= .tp 40 [.st 5] [.bool] [] fun(p0:ww)=>((prS p0:Bool),())
theorem k74:k5x.Ok Tryz.prog TB:=qtv Bs Tryz.func40 (.r 0 (.jn ⟨[],[],[3],[.one (.d (.bool))],[]⟩ [] .no [] (.jn ⟨[],[],[4],[.one (.d (.bool))],[]⟩ [] .no [] .no))) c0 (Q:=∀(p0:ww),∀r0:Bool,prS p0=r0-> 
∀J1:Bool->Prop,(∀(b1:Bool),
(∀J2:Bool->Prop,(∀(f1:Bool),
((b1=true->
(f1=true->
(decide (1<=p0.wAJ)=true->
decide (p0.wAJ<=64)=r0)/\
(decide (1<=p0.wAJ)=false->
false=r0))/\
(f1=false->
false=r0))/\
(b1=false->
false=r0))->J2 f1)->
((p0.wAA==1)=true->
J2 true)/\
((p0.wAA==1)=false->
((p0.wAA==2)=true->
J2 true)/\
((p0.wAA==2)=false->
((p0.wAA==4)=true->
J2 true)/\
((p0.wAA==4)=false->
J2 (p0.wAA==8)))))->J1 b1)->
(decide (2<=p0.wAK)=true->
(decide (p0.wAK<=256)=true->
let v1:Int:=iand .i64 p0.wAK (i64.wrap (p0.wAK-1))
J1 (v1==0))/\
(decide (p0.wAK<=256)=false->
J1 false))/\
(decide (2<=p0.wAK)=false->
J1 false)) (by kernel_rfl)<|by
 rintro p0 _ rfl
 have hb4:pws 4 1 p0.wAA=((p0.wAA==1)||(p0.wAA==2)||(p0.wAA==4)||(p0.wAA==8)):=by simp[pws,List.range_succ,Bool.or_assoc]
 intro J1 j1
 have j1:∀a,a=pws 8 2 p0.wAK->J1 a:=by
  intro a ha
  refine j1 _ fun J2 j2=> ?_
  have j2:∀b,b=pws 4 1 p0.wAA->J2 b:=by
   intro b hb
   refine j2 _ ?_
   unfold prS
   rw[<-ha,<-hb]
   refine⟨fun e=>⟨fun e2=>⟨fun e3=> ?_,fun e3=> ?_⟩,fun e2=> ?_⟩,fun e=> ?_⟩
   ·rw[e,e2,e3];simp
   ·rw[e,e2,e3];simp
   ·rw[e,e2];simp
   ·rw[e];simp
  refine⟨fun e=>j2 _ ?_,fun e=>⟨fun e2=>j2 _ ?_,fun e2=>⟨fun e3=>j2 _ ?_,fun e3=>j2 _ ?_⟩⟩⟩
  ·rw[hb4,e];rfl
  ·rw[hb4,e,e2];rfl
  ·rw[hb4,e,e2,e3];rfl
  ·rw[hb4,e,e2,e3];rfl
 refine⟨fun e=>⟨fun e2=> ?_,fun e2=>j1 _ ?_⟩,fun e=>j1 _ ?_⟩
 ·have e:=of_decide_eq_true e
  have e2:=of_decide_eq_true e2
  obtain⟨b,hb⟩:=Int.eq_ofNat_of_zero_le (show 0<=p0.wAK by omega)
  refine j1 _ ?_
  rw[hb,kp _ (by omega) (by omega)]
  exact pws_and b (by omega)
 ·have e2:=of_decide_eq_false e2
  cases hq:pws 8 2 p0.wAK with
  |false=>rfl
  |true=>have:=kbf hq (by decide);simp at this;omega
 ·have e:=of_decide_eq_false e
  cases hq:pws 8 2 p0.wAK with
  |false=>rfl
  |true=>have:=kbf hq (by decide);simp at this;omega
noncomputable def k6z:Con TB.den:= .tp 21 [.st 0] [yqi] [] fun(p0:wE)=>((rulesE p0:Int),())
theorem k1j:k6z.Ok Tryz.prog TB:=qtv Bs Tryz.func21 (.r 0 (.jn ⟨[],[],[3],[.one (.d (.bool))],[]⟩ [] .no [] .no)) (k74.c c0) (Q:=∀(p0:wE),∀r0:Int,rulesE p0=r0-> 
∀J1:Bool->Prop,(∀(b1:Bool),
(((!b1)=true->
1=r0)/\
((!b1)=false->
((p0.we==1)=true->
let r1:Bool:=(prS (ww.mk p0.wI p0.wH p0.wG))
((!r1)=true->
1=r0)/\
((!r1)=false->
0=r0))/\
((p0.we==1)=false->
0=r0)))->J1 b1)->
(decide (1<=p0.we)=true->
(decide (p0.we<=3)=true->
(decide (1<=p0.wD)=true->
(decide (p0.wD<=12)=true->
(decide (1<=p0.wb)=true->
(decide (p0.wb<=100)=true->
(decide (1<=p0.wQ)=true->
(decide (p0.wQ<=1048576)=true->
(decide (p0.wJ<=4294967296)=true->
(decide (1<=p0.wq)=true->
J1 (decide (p0.wq<=65536)))/\
(decide (1<=p0.wq)=false->
J1 false))/\
(decide (p0.wJ<=4294967296)=false->
J1 false))/\
(decide (p0.wQ<=1048576)=false->
J1 false))/\
(decide (1<=p0.wQ)=false->
J1 false))/\
(decide (p0.wb<=100)=false->
J1 false))/\
(decide (1<=p0.wb)=false->
J1 false))/\
(decide (p0.wD<=12)=false->
J1 false))/\
(decide (1<=p0.wD)=false->
J1 false))/\
(decide (p0.we<=3)=false->
J1 false))/\
(decide (1<=p0.we)=false->
J1 false)) (by kernel_rfl)<|by
 rintro p0 _ rfl
 intro J1 j1
 have j1:∀b,b=rulesB p0->J1 b:=by
  intro b hb
  refine j1 _ ?_
  unfold rulesE
  rw[<-hb]
  refine⟨fun e=> ?_,fun e=> ?_⟩
  ·have e:b=false:=by simpa using e
   rw[e];rfl
  ·have e:b=true:=by simpa using e
   rw[e,if_pos rfl]
   refine⟨fun e2=>⟨fun e3=> ?_,fun e3=> ?_⟩,fun e2=> ?_⟩
   ·have e2:p0.we=1:=by simpa using e2
    have e3:¬prS ⟨p0.wI,p0.wH,p0.wG⟩=true:=by simpa using e3
    rw[if_pos e2,if_neg e3]
   ·have e2:p0.we=1:=by simpa using e2
    have e3:prS ⟨p0.wI,p0.wH,p0.wG⟩=true:=by simpa using e3
    rw[if_pos e2,if_pos e3]
   ·have e2:¬p0.we=1:=by simpa using e2
    rw[if_neg e2]
 have no:∀b:Bool,(b=false->rulesB p0=false)->b=false->false=rulesB p0:=fun b h e=>(h e).symm
 refine⟨fun e1=>⟨fun e2=>⟨fun e3=>⟨fun e4=>⟨fun e5=>⟨fun e6=>⟨fun e7=>⟨fun e8=>⟨fun e9=>⟨fun e10=>j1 _ ?_,fun e=>j1 _ ?_⟩,fun e=>j1 _ ?_⟩,fun e=>j1 _ ?_⟩,fun e=>j1 _ ?_⟩,fun e=>j1 _ ?_⟩,fun e=>j1 _ ?_⟩,fun e=>j1 _ ?_⟩,fun e=>j1 _ ?_⟩,fun e=>j1 _ ?_⟩,fun e=>j1 _ ?_⟩
 ·unfold rulesB;rw[e1,e2,e3,e4,e5,e6,e7,e8,e9,e10];simp
 all_goals unfold rulesB;rw[e];simp
noncomputable def kdq:Con TB.den:= .g ⟨41,[.agg [zqi,zqi,zqi,zqi,zqi,zqu,zqi,zqi,zqu]],[],(.tup [.one (.ptr 0 0),.one (zqi)]),[.cells [zqi,zqi,zqi,zqi,zqi,zqu,zqi,zqi,zqu,zqi,zqi,zql,.row 1,.ptr 2 0,.d (.sl (.st 9)),zqu,.row 3,.row 4],.vec yqu,.cells [.mp 5],.vec yqu,.vec (.st 10),.map yqu (.bool)],true⟩ [.st 0] [yqi,yqi,yqi,yqi,yqi,yqi,yqu,yqi,yqi,yqu,yqi,yqi,.sl yqu,.sl (.st 9),yqu,.sl yqu,.sl yqu,.sl (.st 10),.sl yqu,.sl (.bool)] [] fun(p0:wE)=>(rulesE p0=0,(0:Int),((newS p0).R.we:Int),((newS p0).R.wD:Int),((newS p0).R.wI:Int),((newS p0).R.wH:Int),((newS p0).R.wG:Int),((newS p0).R.wJ:Int),((newS p0).R.wb:Int),((newS p0).R.wQ:Int),((newS p0).R.wq:Int),((newS p0).F.wD:Int),((newS p0).F.wX:Int),((newS p0).F.wa:List Int),((newS p0).b:List wA),((newS p0).n:Int),((newS p0).l:List Int),((newS p0).r:List Int),((newS p0).p:List wO),((newS p0).k:List Int),((newS p0).v:List Bool),())
theorem k7k:kdq.Ok Tryz.prog TB:=prx Bs [19] Tryz.func41 (.r 3 (.rt [.rnilc 30 12 yqu,.rnilc 30 17 (.st 10)])) x0 (k1j.c (k3x.c (k4f.c (k20.c c0)))) (Q:=∀(p0:wE),(rulesE p0=0)->∀r1:Int,(0:Int)=r1->∀As:Int,((newS p0).R.we)=As->∀Ap:Int,((newS p0).R.wD)=Ap->∀At:Int,((newS p0).R.wI)=At->∀Aq:Int,((newS p0).R.wH)=Aq->∀Az:Int,((newS p0).R.wG)=Az->∀A8:Int,((newS p0).R.wJ)=A8->∀A0:Int,((newS p0).R.wb)=A0->∀A1:Int,((newS p0).R.wQ)=A1->∀A3:Int,((newS p0).R.wq)=A3->∀A4:Int,((newS p0).F.wD)=A4->∀Au:Int,((newS p0).F.wX)=Au->∀Av:List Int,((newS p0).F.wa)=Av->∀Aw:List wA,((newS p0).b)=Aw->∀Ax:Int,((newS p0).n)=Ax->∀e1:List Int,((newS p0).l)=e1->∀e3:List Int,((newS p0).r)=e3->∀e4:List wO,((newS p0).p)=e4->∀e5k:List Int,((newS p0).k)=e5k->∀e5v:List Bool,((newS p0).v)=e5v-> 
(((rulesE p0) !=0)=true->
False)/\
(((rulesE p0) !=0)=false->
(1<=p0.wD/\p0.wD<=12)/\(FV (frF p0.wD []))/\(0=([]:List wO).length)/\([(rootF (frF p0.wD []))].length=[(rootF (frF p0.wD []))].length)/\(0=([]:List Int).length)/\0=r1/\p0.we=As/\p0.wD=Ap/\p0.wI=At/\p0.wH=Aq/\p0.wG=Az/\p0.wJ=A8/\p0.wb=A0/\p0.wQ=A1/\p0.wq=A3/\(frF p0.wD []).wD=A4/\(frF p0.wD []).wX=Au/\(frF p0.wD []).wa=Av/\([]:List wA)=Aw/\0=Ax/\([]:List Int)=e1/\[(rootF (frF p0.wD []))]=e3/\([]:List wO)=e4/\[]=e5k/\[]=e5v)) (by kernel_rfl)<|by
 rintro p0 h _ rfl _ rfl _ rfl _ rfl _ rfl _ rfl _ rfl _ rfl _ rfl _ rfl _ rfl _ rfl _ rfl _ rfl _ rfl _ rfl _ rfl _ rfl _ rfl _ rfl
 have hb:rulesB p0=true:=by
  cases hb:rulesB p0 with
  |true=>rfl
  |false=>unfold rulesE at h;rw[hb]at h;cases h
 have hd:1<=p0.wD/\p0.wD<=12:=by
  simp only[rulesB,Bool.and_eq_true,decide_eq_true_eq]at hb
  omega
 exact⟨fun e=>(by rw[h]at e;cases e),fun _=>⟨hd,frF_FV hd.1 hd.2 (Nat.zero_le _) (fun x hx=>by cases hx),rfl,rfl,rfl,rfl,rfl,rfl,rfl,rfl,rfl,rfl,rfl,rfl,rfl,rfl,rfl,rfl,rfl,rfl,rfl,rfl,rfl,rfl,rfl⟩⟩
noncomputable def k8y:Con TB.den:= .g ⟨41,[.agg [zqi,zqi,zqi,zqi,zqi,zqu,zqi,zqi,zqu]],[],(.tup [.one (.k .nilPtr),.one (zqi)]),[],false⟩ [.st 0] [yqi] [] fun(p0:wE)=>(rulesE p0≠0,(rulesE p0:Int),())
theorem k47:k8y.Ok Tryz.prog TB:=prx Bs [19] Tryz.func41 (.r 3 (.rt [.rnilc 30 12 yqu,.rnilc 30 17 (.st 10)])) x0 (k1j.c (k3x.c (k4f.c (k20.c c0)))) (Q:=∀(p0:wE),(rulesE p0≠0)->∀r1:Int,rulesE p0=r1-> 
(((rulesE p0) !=0)=true->
(rulesE p0)=r1)/\
(((rulesE p0) !=0)=false->
(1<=p0.wD/\p0.wD<=12)/\(FV (frF p0.wD []))/\False)) (by kernel_rfl)<|by
 rintro p0 h _ rfl
 exact⟨fun _=>rfl,fun e=>(h (by simpa using e)).elim⟩
noncomputable def k75:Con TB.den:= .g ⟨23,[.one (.ptr 0 0),.agg [zqi,zqi,zqi,zqi,zqi,zqu,zqi,zqi,zqu],.one (.d (.sl (.st 3))),.one (.k (.fn 24))],[.cells [.d (.bool),zqu,zqi,.d (.sl (.st 4)),.mp 1,.mp 2,.mp 3],.map (.str) yqi,.map (.str) (.sl yqu),.map (.str) (.bool)],(.tup [.agg [zqu,zqu,zqu,zqi,zqi,zqi,zqi,zqi,zqu,zql,zqu,zqu,zql,zqu],.one (zqi)]),[.cells [.d (.bool),zqu,zqi,.d (.sl (.st 4)),.mp 1,.mp 2,.mp 3],.map (.str) yqi,.map (.str) (.sl yqu),.map (.str) (.bool)],false⟩ [.st 0,.sl (.st 3),.bool,yqu,yqi,.sl (.st 4),.sl (.str),.sl yqi,.sl (.str),.sl (.sl yqu),.sl (.str),.sl (.bool)] [.st 16,yqi,.bool,yqu,yqi,.sl (.st 4),.sl (.str),.sl yqi,.sl (.str),.sl (.sl yqu),.sl (.str),.sl (.bool)] [] fun(p1:wE) (p2:List wU) (Af:Bool) (Ad Ah:Int) (Ag:List wF) (w1k:List ByteArray) (w1v:List Int) (w2k:List ByteArray) (w2v:List (List Int)) (w3k:List ByteArray) (w3v:List Bool)=>((BL0 p2/\p2.length<=8)/\0<=p1.wJ,((auS p1 p2).1:wj),((auS p1 p2).2:Int),Af,Ad,Ah,Ag,w1k,w1v,w2k,w2v,w3k,w3v,())
theorem k7n:k75.Ok Tryz.prog TB:=prv Bs Tryz.func23 (.r 3 (.nd [.tokc 13 2 (.st 12)] .no [] (.nd [] (.r 0 (.lp [] ⟨[13,6,3,2,1,0,14,12,8,11],[.cells [.ptr 5 0,zqi,.own 6,zql,.full (.st 13),.mp 7,zqu,zqu,zqu,zqi,zqi,zqi,zqi,zqi,zqu,.full yqu,zqu,zqu,.full yqu,zqu],.cells [zqi,zqi,zqi,zqi,zqi,zqu,zqi,zqi,zqu,zqi,zqi,zql,.row 10,.ptr 8 0,.d (.sl (.st 9)),zqu,.row 11,.row 12],.map (.str) (.bool),.map (.str) (.sl yqu),.map (.str) yqi,.cells [.d (.bool),zqu,zqi,.d (.sl (.st 4)),.mp 4,.mp 3,.mp 2],.tip (.st 12),.map yqi (.st 11),.cells [.mp 9],.map yqu (.bool),.vec yqu,.vec yqu,.vec (.st 10)],[41],[.one (zqi)],[7,9,10]⟩ .no)) [] .no))) (k7k.c (k47.c (k5h.c (k48.c (k3w.c (k3t.c (k3v.c (k9v.c c0)))))))) (Q:=∀(p1:wE) (p2:List wU) (Af:Bool) (Ad Ah:Int) (Ag:List wF) (w1k:List ByteArray) (w1v:List Int) (w2k:List ByteArray) (w2v:List (List Int)) (w3k:List ByteArray) (w3v:List Bool),((BL0 p2/\p2.length<=8)/\0<=p1.wJ)->∀r0:wj,((auS p1 p2).1)=r0->∀r1:Int,((auS p1 p2).2)=r1->∀As:Bool,Af=As->∀Ap:Int,Ad=Ap->∀At:Int,Ah=At->∀Aq:List wF,Ag=Aq->∀e1k:List ByteArray,w1k=e1k->∀e1v:List Int,w1v=e1v->∀e2k:List ByteArray,w2k=e2k->∀e2v:List (List Int),w2v=e2v->∀e3k:List ByteArray,w3k=e3k->∀e3v:List Bool,w3v=e3v-> 
((rulesE p1=0)/\(((0:Int) !=0)=true->
0=r0.wAC/\0=r0.wAI/\0=r0.wy/\0=r0.wt/\0=r0.wAB/\0=r0.wg/\0=r0.wZ/\0=r0.wn/\0=r0.wW/\([]:List Int)=r0.wM/\0=r0.wR/\0=r0.wV/\([]:List Int)=r0.wL/\0=r0.wS/\0=r1/\Af=As/\Ad=Ap/\Ah=At/\Ag=Aq/\w1k=e1k/\w1v=e1v/\w2k=e2k/\w2v=e2v/\w3k=e3k/\w3v=e3v)/\
(((0:Int) !=0)=false->
(((newS p1).p).length=((newS p1).p).length)/\(((newS p1).r).length=((newS p1).r).length)/\(((newS p1).l).length=((newS p1).l).length)/\(((newS p1).r).length<=1000000)/\let r2:Int:=(if((newS p1).r)=[]then 0 else ix ((newS p1).r) ((((newS p1).r).length:Int)-1))
([]:List wh).length=([]:List wh).length/\(([]:List wh).length+[wh.mk r2 0].length)*16<=140737488355328/\([]:List wh).length+[wh.mk r2 0].length<=maxLen/\(((newS p1).p).length=((newS p1).p).length)/\(((newS p1).r).length=((newS p1).r).length)/\(((newS p1).l).length=((newS p1).l).length)/\(([]:List wh)++[wh.mk r2 0]=([]:List wh)++[wh.mk r2 0])/\∃(I1:Int->Int->(List Int)->(List wAL)->Int->Int->Int->Int->Int->Int->Int->Int->Int->(List Int)->Int->Int->(List Int)->Int->Int->Int->Int->Int->Int->Int->Int->Int->Int->Int->Int->(List Int)->(List wA)->Int->Bool->Int->Int->(List wF)->(List ByteArray)->(List Bool)->(List ByteArray)->(List (List Int))->(List ByteArray)->(List Int)->(List wh)->(List Int)->(List wAH)->(List Int)->(List Bool)->(List Int)->(List Int)->(List wO)->Prop) (M1:Int->Int->(List Int)->(List wAL)->Int->Int->Int->Int->Int->Int->Int->Int->Int->(List Int)->Int->Int->(List Int)->Int->Int->Int->Int->Int->Int->Int->Int->Int->Int->Int->Int->(List Int)->(List wA)->Int->Bool->Int->Int->(List wF)->(List ByteArray)->(List Bool)->(List ByteArray)->(List (List Int))->(List ByteArray)->(List Int)->(List wh)->(List Int)->(List wAH)->(List Int)->(List Bool)->(List Int)->(List Int)->(List wO)->Nat),I1 0 p1.wD ([]:List Int) ([]:List wAL) 0 0 0 0 0 0 0 0 0 ([]:List Int) 0 0 ([]:List Int) 0 ((newS p1).R.we) ((newS p1).R.wD) ((newS p1).R.wI) ((newS p1).R.wH) ((newS p1).R.wG) ((newS p1).R.wJ) ((newS p1).R.wb) ((newS p1).R.wQ) ((newS p1).R.wq) ((newS p1).F.wD) ((newS p1).F.wX) ((newS p1).F.wa) ((newS p1).b) ((newS p1).n) Af Ad Ah Ag w3k w3v w2k w2v w1k w1v (([]:List wh)++[wh.mk r2 0]) ([]:List Int) ([]:List wAH) ((newS p1).k) ((newS p1).v) ((newS p1).l) ((newS p1).r) ((newS p1).p)/\∀(b1 f1:Int) (i1:List Int) (k1:List wAL) (l1 m1 n1 o1 q1 s1 t1 u1 x1:Int) (y1:List Int) (b2 f2:Int) (i2:List Int) (k2 l2 m2 n2 o2 q2 s2 t2 u2 x2 y2 b3:Int) (f3:List Int) (i3:List wA) (k3:Int) (l3:Bool) (m3 n3:Int) (o3:List wF) (q3:List ByteArray) (s3:List Bool) (t3:List ByteArray) (u3:List (List Int)) (x3:List ByteArray) (y3:List Int) (b4:List wh) (f4:List Int) (i4:List wAH) (k4:List Int) (l4:List Bool) (m4 n4:List Int) (o4:List wO),(I1 b1 f1 i1 k1 l1 m1 n1 o1 q1 s1 t1 u1 x1 y1 b2 f2 i2 k2 l2 m2 n2 o2 q2 s2 t2 u2 x2 y2 b3 f3 i3 k3 l3 m3 n3 o3 q3 s3 t3 u3 x3 y3 b4 f4 i4 k4 l4 m4 n4 o4->
(decide (b1<(p2.length:Int))=true->
(0<=b1)/\b1<(p2.length:Int)/\(o4.length=o4.length)/\(n4.length=n4.length)/\(m4.length=m4.length)/\((∃c:Nat,c+(ix p2 b1).Txs.length<=790/\PI (PS.mk (wE.mk l2 m2 n2 o2 q2 s2 t2 u2 x2) (wC.mk y2 b3 f3) i3 k3 m4 n4 o4 k4 l4) c 0)/\BR' (ix p2 b1))/\let r3:Int:=((applyS (PS.mk (wE.mk l2 m2 n2 o2 q2 s2 t2 u2 x2) (wC.mk y2 b3 f3) i3 k3 m4 n4 o4 k4 l4) (ix p2 b1)).e)
let r4:=(applyS (PS.mk (wE.mk l2 m2 n2 o2 q2 s2 t2 u2 x2) (wC.mk y2 b3 f3) i3 k3 m4 n4 o4 k4 l4) (ix p2 b1)).s
((r3 !=0)=true->
0=r0.wAC/\0=r0.wAI/\0=r0.wy/\0=r0.wt/\0=r0.wAB/\0=r0.wg/\0=r0.wZ/\0=r0.wn/\0=r0.wW/\([]:List Int)=r0.wM/\0=r0.wR/\0=r0.wV/\([]:List Int)=r0.wL/\0=r0.wS/\r3=r1/\l3=As/\m3=Ap/\n3=At/\o3=Aq/\x3=e1k/\y3=e1v/\t3=e2k/\u3=e2v/\q3=e3k/\s3=e3v)/\
((r3 !=0)=false->
(r4.p.length=r4.p.length)/\(r4.r.length=r4.r.length)/\(r4.l.length=r4.l.length)/\(r4.l.length<=1000000)/\(r4.p.length=r4.p.length)/\(r4.r.length=r4.r.length)/\(r4.l.length=r4.l.length)/\(r4.r.length<=1000000)/\let r5:Int:=(if r4.r=[]then 0 else ix r4.r ((r4.r.length:Int)-1))
b4.length=b4.length/\(b4.length+[wh.mk r5 (r4.l.length:Int)].length)*16<=140737488355328/\b4.length+[wh.mk r5 (r4.l.length:Int)].length<=maxLen/\(r4.p.length=r4.p.length)/\(r4.r.length=r4.r.length)/\(r4.l.length=r4.l.length)/\(b4++[wh.mk r5 (r4.l.length:Int)]=b4++[wh.mk r5 (r4.l.length:Int)])/\I1 (i64.wrap (b1+1)) f1 r4.l k1 l1 m1 n1 o1 q1 s1 t1 u1 x1 y1 b2 f2 i2 k2 r4.R.we r4.R.wD r4.R.wI r4.R.wH r4.R.wG r4.R.wJ r4.R.wb r4.R.wQ r4.R.wq r4.F.wD r4.F.wX r4.F.wa r4.b r4.n l3 m3 n3 o3 q3 s3 t3 u3 x3 y3 (b4++[wh.mk r5 (r4.l.length:Int)]) f4 i4 r4.k r4.v r4.l r4.r r4.p/\M1 (i64.wrap (b1+1)) f1 r4.l k1 l1 m1 n1 o1 q1 s1 t1 u1 x1 y1 b2 f2 i2 k2 r4.R.we r4.R.wD r4.R.wI r4.R.wH r4.R.wG r4.R.wJ r4.R.wb r4.R.wQ r4.R.wq r4.F.wD r4.F.wX r4.F.wa r4.b r4.n l3 m3 n3 o3 q3 s3 t3 u3 x3 y3 (b4++[wh.mk r5 (r4.l.length:Int)]) f4 i4 r4.k r4.v r4.l r4.r r4.p<M1 b1 f1 i1 k1 l1 m1 n1 o1 q1 s1 t1 u1 x1 y1 b2 f2 i2 k2 l2 m2 n2 o2 q2 s2 t2 u2 x2 y2 b3 f3 i3 k3 l3 m3 n3 o3 q3 s3 t3 u3 x3 y3 b4 f4 i4 k4 l4 m4 n4 o4))/\
(decide (b1<(p2.length:Int))=false->
(o4.length=o4.length)/\(n4.length=n4.length)/\(m4.length=m4.length)/\(i3.length<=100000)/\(OkA (wY.mk i3).wB)/\let v6:Bool:=(((totA 0 (wY.mk i3).wB).2) !=0)
(v6=true->
0=r0.wAC/\0=r0.wAI/\0=r0.wy/\0=r0.wt/\0=r0.wAB/\0=r0.wg/\0=r0.wZ/\0=r0.wn/\0=r0.wW/\([]:List Int)=r0.wM/\0=r0.wR/\0=r0.wV/\([]:List Int)=r0.wL/\0=r0.wS/\((totA 0 (wY.mk i3).wB).2)=r1/\l3=As/\m3=Ap/\n3=At/\o3=Aq/\x3=e1k/\y3=e1v/\t3=e2k/\u3=e2v/\q3=e3k/\s3=e3v)/\
(v6=false->
(b4=b4)/\(BL0 p2/\p2.length<=8)/\let v7:Int:=u64.wrap ((u64.wrap (p2.length:Int))*p1.wJ)
v7=r0.wAC/\((totA 0 (wY.mk i3).wB).1)=r0.wAI/\n1=r0.wy/\o1=r0.wt/\q1=r0.wAB/\s1=r0.wg/\t1=r0.wZ/\u1=r0.wn/\x1=r0.wW/\y1=r0.wM/\b2=r0.wR/\f2=r0.wV/\i2=r0.wL/\k2=r0.wS/\0=r1/\l3=As/\m3=Ap/\n3=At/\o3=Aq/\x3=e1k/\y3=e1v/\t3=e2k/\u3=e2v/\q3=e3k/\s3=e3v)))))∨((rulesE p1≠0)/\(((rulesE p1) !=0)=true->
0=r0.wAC/\0=r0.wAI/\0=r0.wy/\0=r0.wt/\0=r0.wAB/\0=r0.wg/\0=r0.wZ/\0=r0.wn/\0=r0.wW/\([]:List Int)=r0.wM/\0=r0.wR/\0=r0.wV/\([]:List Int)=r0.wL/\0=r0.wS/\(rulesE p1)=r1/\Af=As/\Ad=Ap/\Ah=At/\Ag=Aq/\w1k=e1k/\w1v=e1v/\w2k=e2k/\w2v=e2v/\w3k=e3k/\w3v=e3v)/\
(((rulesE p1) !=0)=false->
False))) (by kernel_rfl)<|by
 rintro p1 p2 Af Ad Ah Ag w1k w1v w2k w2v w3k w3v h _ rfl _ rfl _ rfl _ rfl _ rfl _ rfl _ rfl _ rfl _ rfl _ rfl _ rfl _ rfl
 obtain⟨⟨hl,h8⟩,hw⟩:=h
 by_cases hE:rulesE p1=0
 ·refine .inl ⟨hE,fun e=>(by cases e),fun _=> ?_⟩
  generalize hG:auS p1 p2=G
  have hP:PI (newS p1) 0 0:=new_PI hE hw
  refine⟨rfl,rfl,rfl,(by show(1:Nat)<=_;omega),rfl,(by show(0+1)*16<=_;omega),(by show 0+1<=maxLen;unfold maxLen;omega),rfl,rfl,rfl,rfl,?_⟩
  refine⟨(fun i _ _ _ _ _ n1 o1 q1 s1 t1 u1 x1 y1 b2 f2 i2 k2 l2 m2 n2 o2 q2 s2 t2 u2 x2 y2 b3 f3 i3 k3 l3 m3 n3 o3 q3 s3 t3 u3 x3 y3 b4 _ _ k4 l4 m4 n4 o4=>∃k:Nat,i=(k:Int)/\k<=p2.length/\(n1=0/\o1=0/\q1=0/\s1=0/\t1=0/\u1=0/\x1=0/\y1=[]/\b2=0/\f2=0/\i2=[]/\k2=0)/\(l3=Af/\m3=Ad/\n3=Ah/\o3=Ag/\q3=w3k/\s3=w3v/\t3=w2k/\u3=w2v/\x3=w1k/\y3=w1v)/\b4.length=k+1/\PI (PS.mk (wE.mk l2 m2 n2 o2 q2 s2 t2 u2 x2) (wC.mk y2 b3 f3) i3 k3 m4 n4 o4 k4 l4) k 0/\auGo (p2.drop k) (PS.mk (wE.mk l2 m2 n2 o2 q2 s2 t2 u2 x2) (wC.mk y2 b3 f3) i3 k3 m4 n4 o4 k4 l4)=auGo p2 (newS p1)),(fun i _ _ _ _ _ _ _ _ _ _ _ _ _ _ _ _ _ _ _ _ _ _ _ _ _ _ _ _ _ _ _ _ _ _ _ _ _ _ _ _ _ _ _ _ _ _ _ _ _=>(p2.length-i).toNat),⟨0,rfl,by omega,⟨rfl,rfl,rfl,rfl,rfl,rfl,rfl,rfl,rfl,rfl,rfl,rfl⟩,⟨rfl,rfl,rfl,rfl,rfl,rfl,rfl,rfl,rfl,rfl⟩,rfl,hP,rfl⟩,?_⟩
  rintro _ f1 i1 k1 l1 m1 _ _ _ _ _ _ _ _ _ _ _ _ l2 m2 n2 o2 q2 s2 t2 u2 x2 y2 b3 f3 i3 k3 _ _ _ _ _ _ _ _ _ _ b4 f4 i4 k4 l4 m4 n4 o4 ⟨k,rfl,g1,⟨rfl,rfl,rfl,rfl,rfl,rfl,rfl,rfl,rfl,rfl,rfl,rfl⟩,⟨rfl,rfl,rfl,rfl,rfl,rfl,rfl,rfl,rfl,rfl⟩,hb4,hPI,hgo⟩
  refine⟨fun hh=> ?_,fun hh=> ?_⟩
  ·have hk:k<p2.length:=by have:=of_decide_eq_true hh;omega
   have hx:ix p2 (k:Int)=p2[k]:=ix_get _ _ hk
   have htx:p2[k].Txs=[]:=hl.t _ (List.getElem_mem hk)
   have hbr:BR' p2[k]:=hl.r _ (List.getElem_mem hk)
   have hz:p2[k].Txs.length=0:=by rw[htx];rfl
   rw[kbg hk]at hgo
   rw[hx,inc (k:Int) p2.length (by omega) (by omega) (by omega)]
   refine⟨by omega,by omega,rfl,rfl,rfl,⟨⟨k,by omega,hPI⟩,hbr⟩,?_⟩
   dsimp only
   refine⟨fun e=> ?_,fun e=> ?_⟩
   ·have e:¬(applyS (PS.mk (wE.mk l2 m2 n2 o2 q2 s2 t2 u2 x2) (wC.mk y2 b3 f3) i3 k3 m4 n4 o4 k4 l4) p2[k]).e=0:=by simpa using e
    rw[if_neg e]at hgo
    have hG2:G=(zeroR,(applyS (PS.mk (wE.mk l2 m2 n2 o2 q2 s2 t2 u2 x2) (wC.mk y2 b3 f3) i3 k3 m4 n4 o4 k4 l4) p2[k]).e):=by
     rw[<-hG]
     unfold auS
     rw[if_pos hE,<-hgo]
     exact if_neg e
    subst hG2
    exact(by repeat' first|apply And.intro|exact rfl|exact True.intro)
   ·have e:(applyS (PS.mk (wE.mk l2 m2 n2 o2 q2 s2 t2 u2 x2) (wC.mk y2 b3 f3) i3 k3 m4 n4 o4 k4 l4) p2[k]).e=0:=by simpa using e
    rw[if_pos e]at hgo
    have hP2:=kdm hPI (by omega) hbr e
    rw[hz]at hP2
    have a1:=hP2.ll
    have a2:=hP2.rl
    have a3:=hP2.p
    have a4:=pow12 (applyS (PS.mk (wE.mk l2 m2 n2 o2 q2 s2 t2 u2 x2) (wC.mk y2 b3 f3) i3 k3 m4 n4 o4 k4 l4) p2[k]).s.R.wD.toNat (by have:=hP2.d2;omega)
    refine⟨rfl,rfl,rfl,by omega,rfl,rfl,rfl,by omega,rfl,?_,?_,rfl,rfl,rfl,rfl,⟨k+1,rfl,by omega,⟨rfl,rfl,rfl,rfl,rfl,rfl,rfl,rfl,rfl,rfl,rfl,rfl⟩,⟨rfl,rfl,rfl,rfl,rfl,rfl,rfl,rfl,rfl,rfl⟩,?_,hP2,hgo⟩,by(first|omega|(dsimp only;omega))⟩
    ·simp only[List.length_cons,List.length_nil];omega
    ·simp only[List.length_cons,List.length_nil];unfold maxLen;omega
    ·rw[List.length_append,hb4];rfl
  ·have hk:k=p2.length:=by have:=of_decide_eq_false hh;omega
   subst hk
   rw[List.drop_length]at hgo
   have hgo:(⟨0,(PS.mk (wE.mk l2 m2 n2 o2 q2 s2 t2 u2 x2) (wC.mk y2 b3 f3) i3 k3 m4 n4 o4 k4 l4)⟩:PE)=auGo p2 (newS p1):=hgo
   have hbl:=hPI.b.2.2
   have ht:=(sup_PI hPI (by omega)).1
   have hG2:G=(wj.mk (u64.wrap (u64.wrap (p2.length:Int)*p1.wJ)) (totA 0 i3).1 0 0 0 0 0 0 0 [] 0 0 [] 0,0):=by
    rw[<-hG]
    unfold auS
    rw[if_pos hE,<-hgo]
    rfl
   have ht2:(totA 0 i3).2=0:=by
    have:totA 0 i3=(sumA i3,0):=ht
    rw[this]
   refine⟨rfl,rfl,rfl,(by have:i3.length<=_:=hbl;omega),hPI.b.1,?_⟩
   subst hG2
   refine⟨fun e=> ?_,fun e=> ?_⟩
   ·exfalso
    have e:((totA 0 i3).2 !=0)=true:=e
    rw[ht2]at e
    cases e
   ·exact⟨rfl,⟨hl,h8⟩,(by repeat' first|apply And.intro|exact rfl|exact True.intro)⟩
 ·refine .inr ⟨hE,fun e=> ?_,fun e=>(hE (by simpa using e)).elim⟩
  have hG2:auS p1 p2=(zeroR,rulesE p1):=if_neg hE
  rw[hG2]
  exact(by repeat' first|apply And.intro|exact rfl|exact True.intro)
noncomputable def k9a:Con TB.den:= .b ⟨8,[.one (.ptr 0 0),.agg [zqi,zqi,zqi,zqi,zqi,zqu,zqi,zqi,zqu],.one (.d (.sl (.st 3)))],[.cells [.d (.bool),zqu,zqi,.d (.sl (.st 4)),.mp 1,.mp 2,.mp 3],.map (.str) yqi,.map (.str) (.sl yqu),.map (.str) (.bool)],(.tup [.agg [zqu,zqu,zqu,zqi,zqi,zqi,zqi,zqi,zqu,zql,zqu,zqu,zql,zqu],.one (zqi)]),[.cells [.d (.bool),zqu,zqi,.d (.sl (.st 4)),.mp 1,.mp 2,.mp 3],.map (.str) yqi,.map (.str) (.sl yqu),.map (.str) (.bool)],false⟩ [.st 0,.sl (.st 3),.bool,yqu,yqi,.sl (.st 4),.sl (.str),.sl yqi,.sl (.str),.sl (.sl yqu),.sl (.str),.sl (.bool)] [.st 16,yqi,.bool,yqu,yqi,.sl (.st 4),.sl (.str),.sl yqi,.sl (.str),.sl (.sl yqu),.sl (.str),.sl (.bool)] fun(p1:wE) (p2:List wU) (Af:Bool) (Ad Ah:Int) (Ag:List wF) (w1k:List ByteArray) (w1v:List Int) (w2k:List ByteArray) (w2v:List (List Int)) (w3k:List ByteArray) (w3v:List Bool)=>((rulesE p1=0->p1.we=2->Af=false->BL0 p2/\p2.length<=8)/\0<=p1.wJ,audS Af p1 p2,fun R=>(R.1,R.2,Af,Ad,Ah,Ag,w1k,w1v,w2k,w2v,w3k,w3v,()))
theorem k4e:k9a.Ok Tryz.prog TB:=pbv Bs Tryz.func8 (.r 1 (.nd [] (.jn ⟨[3,2,1,0],[.map (.str) (.bool),.map (.str) (.sl yqu),.map (.str) yqi,.cells [.d (.bool),zqu,zqi,.d (.sl (.st 4)),.mp 2,.mp 1,.mp 0]],[21],[.one (.d (.bool))],[]⟩ [] .no [] .no) [] .no)) (k1j.c (k2s.c (k7n.c c0))) (Q:=∀(p1:wE) (p2:List wU) (Af:Bool) (Ad Ah:Int) (Ag:List wF) (w1k:List ByteArray) (w1v:List Int) (w2k:List ByteArray) (w2v:List (List Int)) (w3k:List ByteArray) (w3v:List Bool),((rulesE p1=0->p1.we=2->Af=false->BL0 p2/\p2.length<=8)/\0<=p1.wJ)->∀R,audS Af p1 p2=R-> 
(((rulesE p1) !=0)=true->
0=R.1.wAC/\0=R.1.wAI/\0=R.1.wy/\0=R.1.wt/\0=R.1.wAB/\0=R.1.wg/\0=R.1.wZ/\0=R.1.wn/\0=R.1.wW/\([]:List Int)=R.1.wM/\0=R.1.wR/\0=R.1.wV/\([]:List Int)=R.1.wL/\0=R.1.wS/\(rulesE p1)=R.2/\Af=Af/\Ad=Ad/\Ah=Ah/\Ag=Ag/\w1k=w1k/\w1v=w1v/\w2k=w2k/\w2v=w2v/\w3k=w3k/\w3v=w3v)/\
(((rulesE p1) !=0)=false->
∀J1:Bool->Bool->Int->Int->(List wF)->(List ByteArray)->(List Bool)->(List ByteArray)->(List (List Int))->(List ByteArray)->(List Int)->Prop,(∀(b1 f1:Bool) (i1 k1:Int) (l1:List wF) (m1:List ByteArray) (n1:List Bool) (o1:List ByteArray) (q1:List (List Int)) (s1:List ByteArray) (t1:List Int),
((b1=true->
0=R.1.wAC/\0=R.1.wAI/\0=R.1.wy/\0=R.1.wt/\0=R.1.wAB/\0=R.1.wg/\0=R.1.wZ/\0=R.1.wn/\0=R.1.wW/\([]:List Int)=R.1.wM/\0=R.1.wR/\0=R.1.wV/\([]:List Int)=R.1.wL/\0=R.1.wS/\1=R.2/\f1=Af/\i1=Ad/\k1=Ah/\l1=Ag/\s1=w1k/\t1=w1v/\o1=w2k/\q1=w2v/\m1=w3k/\n1=w3v)/\
(b1=false->
((BL0 p2/\p2.length<=8)/\0<=p1.wJ)/\((auS p1 p2).1).wAC=R.1.wAC/\((auS p1 p2).1).wAI=R.1.wAI/\((auS p1 p2).1).wy=R.1.wy/\((auS p1 p2).1).wt=R.1.wt/\((auS p1 p2).1).wAB=R.1.wAB/\((auS p1 p2).1).wg=R.1.wg/\((auS p1 p2).1).wZ=R.1.wZ/\((auS p1 p2).1).wn=R.1.wn/\((auS p1 p2).1).wW=R.1.wW/\((auS p1 p2).1).wM=R.1.wM/\((auS p1 p2).1).wR=R.1.wR/\((auS p1 p2).1).wV=R.1.wV/\((auS p1 p2).1).wL=R.1.wL/\((auS p1 p2).1).wS=R.1.wS/\((auS p1 p2).2)=R.2/\f1=Af/\i1=Ad/\k1=Ah/\l1=Ag/\s1=w1k/\t1=w1v/\o1=w2k/\q1=w2v/\m1=w3k/\n1=w3v))->J1 b1 f1 i1 k1 l1 m1 n1 o1 q1 s1 t1)->
((p1.we !=2)=true->
J1 true Af Ad Ah Ag w3k w3v w2k w2v w1k w1v)/\
((p1.we !=2)=false->
J1 Af Af Ad Ah Ag w3k w3v w2k w2v w1k w1v))) (by kernel_rfl)<|by
 rintro p1 p2 Af Ad Ah Ag w1k w1v w2k w2v w3k w3v h R hR
 obtain⟨hb,hw⟩:=h
 have hG:=hR
 clear hR
 unfold audS at hG
 refine⟨fun e=> ?_,fun e=> ?_⟩
 ·rw[if_pos (by simpa using e)]at hG
  subst hG
  exact(by repeat' first|apply And.intro|exact rfl|exact True.intro)
 ·have e:rulesE p1=0:=by simpa using e
  rw[if_neg (by simp[e])]at hG
  intro J1 k1
  have j:∀b:Bool,(b=true↔(p1.we≠2∨Af=true))->J1 b Af Ad Ah Ag w3k w3v w2k w2v w1k w1v:=fun b hb2=>k1 _ _ _ _ _ _ _ _ _ _ _ ⟨fun eb=>by
    rw[if_pos (hb2.1 eb)]at hG
    subst hG
    exact(by repeat' first|apply And.intro|exact rfl|exact True.intro),fun eb=>by
    have hn:¬(p1.we≠2∨Af=true):=fun hh=>by rw[hb2.2 hh]at eb;cases eb
    rw[if_neg hn]at hG
    subst hG
    exact⟨⟨hb e (Classical.byContradiction fun hh=>hn (.inl hh)) (by cases hc:Af with|false=>rfl|true=>exact(hn (.inr hc)).elim),hw⟩,(by repeat' first|apply And.intro|exact rfl|exact True.intro)⟩⟩
  exact⟨fun em=>j true ⟨fun _=> .inl (by simpa using em),fun _=>rfl⟩,fun em=>j _ ⟨fun hh=> .inr hh,fun hh=>hh.elim (fun h2=>(h2 (by simpa using em)).elim) id⟩⟩
noncomputable def k6c:Con TB.den:= .g ⟨47,[.one (.ptr 0 0),.one (.d (.sl (.st 3))),.one (.clo 26 [] [some (1,0)])],[.cells [.ptr 2 0,zqi,.own 3,zql,.d (.sl (.st 13)),.mp 4,zqu,zqu,zqu,zqi,zqi,zqi,zqi,zqi,zqu,zql,zqu,zqu,zql,zqu],.cells [.d (.sl (.st 18))],.cells [.d (.bool),zqu,zqi,.d (.sl (.st 4)),.mp 5,.mp 6,.mp 7],.tip (.st 12),.map yqi (.st 11),.map (.str) yqi,.map (.str) (.sl yqu),.map (.str) (.bool)],(.tup []),[.cells [.ptr 2 0,zqi,.own 3,zql,.d (.sl (.st 13)),.mp 4,zqu,zqu,zqu,zqi,zqi,zqi,zqi,zqi,zqu,zql,zqu,zqu,zql,zqu],.cells [.d (.sl (.st 18))],.cells [.d (.bool),zqu,zqi,.d (.sl (.st 4)),.mp 5,.mp 6,.mp 7],.tip (.st 12),.map yqi (.st 11),.map (.str) yqi,.map (.str) (.sl yqu),.map (.str) (.bool)],false⟩ [.sl (.st 3),yqi,.sl yqu,.sl (.st 13),yqu,yqu,yqu,yqi,yqi,yqi,yqi,yqi,yqu,.sl yqu,yqu,yqu,.sl yqu,yqu,.sl (.st 18),.bool,yqu,yqi,.sl (.st 4),.sl (.st 12),.sl yqi,.sl (.st 11),.sl (.str),.sl yqi,.sl (.str),.sl (.sl yqu),.sl (.str),.sl (.bool)] [yqi,.sl yqu,.sl (.st 13),yqu,yqu,yqu,yqi,yqi,yqi,yqi,yqi,yqu,.sl yqu,yqu,yqu,.sl yqu,yqu,.sl (.st 18),.bool,yqu,yqi,.sl (.st 4),.sl (.st 12),.sl yqi,.sl (.st 11),.sl (.str),.sl yqi,.sl (.str),.sl (.sl yqu),.sl (.str),.sl (.bool)] [] fun(p1:List wU) (Ad:Int) (Ag:List Int) (Ak:List wAL) (Ai Al Am Aj Ab Ac Bb Bc Aa:Int) (Ae:List Int) (Bd Be:Int) (Bf:List Int) (Bg:Int) (Ay:List wAG) (c2_0:Bool) (c2_1 c2_2:Int) (c2_3:List wF) (w3:List wh) (w4k:List Int) (w4v:List wAH) (w5k:List ByteArray) (w5v:List Int) (w6k:List ByteArray) (w6v:List (List Int)) (w7k:List ByteArray) (w7v:List Bool)=>(BL0 p1/\p1.length<=8,Ad,Ag,Ak,Ai,Al,Am,Aj,Ab,Ac,Bb,Bc,Aa,Ae,Bd,Be,Bf,Bg,Ay,c2_0,c2_1,c2_2,c2_3,w3,w4k,w4v,w5k,w5v,w6k,w6v,w7k,w7v,())
theorem k78:k6c.Ok Tryz.prog TB:=prv Bs Tryz.func47 (.r 1 (.lp [] ⟨[],[],[16],[.one (zqi)],[]⟩ (.r 1 (.nd [] (.r 1 (.lp [] ⟨[],[],[],[],[]⟩ .no)) [] .no)))) c0 (Q:=∀(p1:List wU) (Ad:Int) (Ag:List Int) (Ak:List wAL) (Ai Al Am Aj Ab Ac Bb Bc Aa:Int) (Ae:List Int) (Bd Be:Int) (Bf:List Int) (Bg:Int) (Ay:List wAG) (c2_0:Bool) (c2_1 c2_2:Int) (c2_3:List wF) (w3:List wh) (w4k:List Int) (w4v:List wAH) (w5k:List ByteArray) (w5v:List Int) (w6k:List ByteArray) (w6v:List (List Int)) (w7k:List ByteArray) (w7v:List Bool),(BL0 p1/\p1.length<=8)->∀Ap:Int,Ad=Ap->∀Aq:List Int,Ag=Aq->∀Az:List wAL,Ak=Az->∀A0:Int,Ai=A0->∀A1:Int,Al=A1->∀A3:Int,Am=A3->∀A4:Int,Aj=A4->∀Au:Int,Ab=Au->∀Av:Int,Ac=Av->∀d0_12:Int,Bb=d0_12->∀d0_13:Int,Bc=d0_13->∀Aw:Int,Aa=Aw->∀Ax:List Int,Ae=Ax->∀d0_16:Int,Bd=d0_16->∀d0_17:Int,Be=d0_17->∀d0_18:List Int,Bf=d0_18->∀d0_19:Int,Bg=d0_19->∀d1_0:List wAG,Ay=d1_0->∀d2_0:Bool,c2_0=d2_0->∀d2_1:Int,c2_1=d2_1->∀d2_2:Int,c2_2=d2_2->∀d2_3:List wF,c2_3=d2_3->∀e3:List wh,w3=e3->∀e4k:List Int,w4k=e4k->∀e4v:List wAH,w4v=e4v->∀e5k:List ByteArray,w5k=e5k->∀e5v:List Int,w5v=e5v->∀e6k:List ByteArray,w6k=e6k->∀e6v:List (List Int),w6v=e6v->∀e7k:List ByteArray,w7k=e7k->∀e7v:List Bool,w7v=e7v-> 
∃(I1:Int->Prop) (M1:Int->Nat),I1 0/\∀(b1:Int),(I1 b1->
(decide (b1<(p1.length:Int))=true->
(0<=b1)/\b1<(p1.length:Int)/\∃(I2:Prop) (M2:Nat),I2/\(I2->
let v1:Bool:=decide ((0:Int)<(((ix p1 b1).Txs).length:Int))
(v1=true->
(0<=(0:Int))/\0<(((ix p1 b1).Txs).length:Int)/\False)/\
(v1=false->
I1 (i64.wrap (b1+1))/\M1 (i64.wrap (b1+1))<M1 b1)))/\
(decide (b1<(p1.length:Int))=false->
(w3=w3)/\Ad=Ap/\Ag=Aq/\Ak=Az/\Ai=A0/\Al=A1/\Am=A3/\Aj=A4/\Ab=Au/\Ac=Av/\Bb=d0_12/\Bc=d0_13/\Aa=Aw/\Ae=Ax/\Bd=d0_16/\Be=d0_17/\Bf=d0_18/\Bg=d0_19/\Ay=d1_0/\c2_0=d2_0/\c2_1=d2_1/\c2_2=d2_2/\c2_3=d2_3/\w3=e3/\w4k=e4k/\w4v=e4v/\w5k=e5k/\w5v=e5v/\w6k=e6k/\w6v=e6v/\w7k=e7k/\w7v=e7v))) (by kernel_rfl)<|by
 rintro p1 Ad Ag Ak Ai Al Am Aj Ab Ac Bb Bc Aa Ae Bd Be Bf Bg Ay c2_0 c2_1 c2_2 c2_3 w3 w4k w4v w5k w5v w6k w6v w7k w7v h _ rfl _ rfl _ rfl _ rfl _ rfl _ rfl _ rfl _ rfl _ rfl _ rfl _ rfl _ rfl _ rfl _ rfl _ rfl _ rfl _ rfl _ rfl _ rfl _ rfl _ rfl _ rfl _ rfl _ rfl _ rfl _ rfl _ rfl _ rfl _ rfl _ rfl _ rfl
 obtain⟨hl,h8⟩:=h
 refine⟨(fun i=>0<=i/\i<=p1.length),(fun i=>(p1.length-i).toNat),⟨by omega,by omega⟩,?_⟩
 rintro i ⟨g0,g1⟩
 refine⟨fun hh=> ?_,fun hh=> ?_⟩
 ·have hh:=of_decide_eq_true hh
  have ht:(ix p1 i).Txs=[]:=hl.t _ (ix_mem p1 i g0 hh)
  refine⟨g0,hh,True,0,trivial,fun _=> ?_⟩
  refine⟨fun e=> ?_,fun e=> ?_⟩
  ·exfalso
   rw[ht]at e
   simp at e
  ·rw[inc i p1.length g0 hh (by omega)]
   exact⟨⟨by omega,by omega⟩,by(first|omega|(dsimp only;omega))⟩
 ·exact(by repeat' first|apply And.intro|exact rfl|exact True.intro)
noncomputable def k5t:Con TB.den:= .g ⟨23,[.one (.ptr 0 0),.agg [zqi,zqi,zqi,zqi,zqi,zqu,zqi,zqi,zqu],.one (.d (.sl (.st 3))),.one (.clo 26 [] [some (1,0)])],[.cells [.d (.bool),zqu,zqi,.d (.sl (.st 4)),.mp 2,.mp 3,.mp 4],.cells [.d (.sl (.st 18))],.map (.str) yqi,.map (.str) (.sl yqu),.map (.str) (.bool)],(.tup [.agg [zqu,zqu,zqu,zqi,zqi,zqi,zqi,zqi,zqu,zql,zqu,zqu,zql,zqu],.one (zqi)]),[.cells [.d (.bool),zqu,zqi,.d (.sl (.st 4)),.mp 2,.mp 3,.mp 4],.cells [.d (.sl (.st 18))],.map (.str) yqi,.map (.str) (.sl yqu),.map (.str) (.bool)],false⟩ [.st 0,.sl (.st 3),.bool,yqu,yqi,.sl (.st 4),.sl (.st 18),.sl (.str),.sl yqi,.sl (.str),.sl (.sl yqu),.sl (.str),.sl (.bool)] [.st 16,yqi,.bool,yqu,yqi,.sl (.st 4),.sl (.st 18),.sl (.str),.sl yqi,.sl (.str),.sl (.sl yqu),.sl (.str),.sl (.bool)] [] fun(p1:wE) (p2:List wU) (Af:Bool) (Ad Ah:Int) (Ag:List wF) (Ay:List wAG) (w2k:List ByteArray) (w2v:List Int) (w3k:List ByteArray) (w3v:List (List Int)) (w4k:List ByteArray) (w4v:List Bool)=>((BL0 p2/\p2.length<=8)/\0<=p1.wJ,((auS p1 p2).1:wj),((auS p1 p2).2:Int),Af,Ad,Ah,Ag,Ay,w2k,w2v,w3k,w3v,w4k,w4v,())
theorem k61:k5t.Ok Tryz.prog TB:=prv Bs Tryz.func23 (.r 3 (.nd [.tokc 14 2 (.st 12)] .no [] (.nd [] (.r 0 (.lp [] ⟨[14,7,4,3,2,0,15,13,9,12],[.cells [.ptr 5 0,zqi,.own 6,zql,.full (.st 13),.mp 7,zqu,zqu,zqu,zqi,zqi,zqi,zqi,zqi,zqu,.full yqu,zqu,zqu,.full yqu,zqu],.cells [zqi,zqi,zqi,zqi,zqi,zqu,zqi,zqi,zqu,zqi,zqi,zql,.row 10,.ptr 8 0,.d (.sl (.st 9)),zqu,.row 11,.row 12],.map (.str) (.bool),.map (.str) (.sl yqu),.map (.str) yqi,.cells [.d (.bool),zqu,zqi,.d (.sl (.st 4)),.mp 4,.mp 3,.mp 2],.tip (.st 12),.map yqi (.st 11),.cells [.mp 9],.map yqu (.bool),.vec yqu,.vec yqu,.vec (.st 10)],[41],[.one (zqi)],[8,10,11]⟩ .no)) [] .no))) (k7k.c (k47.c (k5h.c (k48.c (k3w.c (k3t.c (k3v.c (k78.c c0)))))))) (Q:=∀(p1:wE) (p2:List wU) (Af:Bool) (Ad Ah:Int) (Ag:List wF) (Ay:List wAG) (w2k:List ByteArray) (w2v:List Int) (w3k:List ByteArray) (w3v:List (List Int)) (w4k:List ByteArray) (w4v:List Bool),((BL0 p2/\p2.length<=8)/\0<=p1.wJ)->∀r0:wj,((auS p1 p2).1)=r0->∀r1:Int,((auS p1 p2).2)=r1->∀As:Bool,Af=As->∀Ap:Int,Ad=Ap->∀At:Int,Ah=At->∀Aq:List wF,Ag=Aq->∀d1_0:List wAG,Ay=d1_0->∀e2k:List ByteArray,w2k=e2k->∀e2v:List Int,w2v=e2v->∀e3k:List ByteArray,w3k=e3k->∀e3v:List (List Int),w3v=e3v->∀e4k:List ByteArray,w4k=e4k->∀e4v:List Bool,w4v=e4v-> 
((rulesE p1=0)/\(((0:Int) !=0)=true->
0=r0.wAC/\0=r0.wAI/\0=r0.wy/\0=r0.wt/\0=r0.wAB/\0=r0.wg/\0=r0.wZ/\0=r0.wn/\0=r0.wW/\([]:List Int)=r0.wM/\0=r0.wR/\0=r0.wV/\([]:List Int)=r0.wL/\0=r0.wS/\0=r1/\Af=As/\Ad=Ap/\Ah=At/\Ag=Aq/\Ay=d1_0/\w2k=e2k/\w2v=e2v/\w3k=e3k/\w3v=e3v/\w4k=e4k/\w4v=e4v)/\
(((0:Int) !=0)=false->
(((newS p1).p).length=((newS p1).p).length)/\(((newS p1).r).length=((newS p1).r).length)/\(((newS p1).l).length=((newS p1).l).length)/\(((newS p1).r).length<=1000000)/\let r2:Int:=(if((newS p1).r)=[]then 0 else ix ((newS p1).r) ((((newS p1).r).length:Int)-1))
([]:List wh).length=([]:List wh).length/\(([]:List wh).length+[wh.mk r2 0].length)*16<=140737488355328/\([]:List wh).length+[wh.mk r2 0].length<=maxLen/\(((newS p1).p).length=((newS p1).p).length)/\(((newS p1).r).length=((newS p1).r).length)/\(((newS p1).l).length=((newS p1).l).length)/\(([]:List wh)++[wh.mk r2 0]=([]:List wh)++[wh.mk r2 0])/\∃(I1:Int->Int->(List Int)->(List wAL)->Int->Int->Int->Int->Int->Int->Int->Int->Int->(List Int)->Int->Int->(List Int)->Int->Int->Int->Int->Int->Int->Int->Int->Int->Int->Int->Int->(List Int)->(List wA)->Int->Bool->Int->Int->(List wF)->(List ByteArray)->(List Bool)->(List ByteArray)->(List (List Int))->(List ByteArray)->(List Int)->(List wh)->(List Int)->(List wAH)->(List Int)->(List Bool)->(List Int)->(List Int)->(List wO)->Prop) (M1:Int->Int->(List Int)->(List wAL)->Int->Int->Int->Int->Int->Int->Int->Int->Int->(List Int)->Int->Int->(List Int)->Int->Int->Int->Int->Int->Int->Int->Int->Int->Int->Int->Int->(List Int)->(List wA)->Int->Bool->Int->Int->(List wF)->(List ByteArray)->(List Bool)->(List ByteArray)->(List (List Int))->(List ByteArray)->(List Int)->(List wh)->(List Int)->(List wAH)->(List Int)->(List Bool)->(List Int)->(List Int)->(List wO)->Nat),I1 0 p1.wD ([]:List Int) ([]:List wAL) 0 0 0 0 0 0 0 0 0 ([]:List Int) 0 0 ([]:List Int) 0 ((newS p1).R.we) ((newS p1).R.wD) ((newS p1).R.wI) ((newS p1).R.wH) ((newS p1).R.wG) ((newS p1).R.wJ) ((newS p1).R.wb) ((newS p1).R.wQ) ((newS p1).R.wq) ((newS p1).F.wD) ((newS p1).F.wX) ((newS p1).F.wa) ((newS p1).b) ((newS p1).n) Af Ad Ah Ag w4k w4v w3k w3v w2k w2v (([]:List wh)++[wh.mk r2 0]) ([]:List Int) ([]:List wAH) ((newS p1).k) ((newS p1).v) ((newS p1).l) ((newS p1).r) ((newS p1).p)/\∀(b1 f1:Int) (i1:List Int) (k1:List wAL) (l1 m1 n1 o1 q1 s1 t1 u1 x1:Int) (y1:List Int) (b2 f2:Int) (i2:List Int) (k2 l2 m2 n2 o2 q2 s2 t2 u2 x2 y2 b3:Int) (f3:List Int) (i3:List wA) (k3:Int) (l3:Bool) (m3 n3:Int) (o3:List wF) (q3:List ByteArray) (s3:List Bool) (t3:List ByteArray) (u3:List (List Int)) (x3:List ByteArray) (y3:List Int) (b4:List wh) (f4:List Int) (i4:List wAH) (k4:List Int) (l4:List Bool) (m4 n4:List Int) (o4:List wO),(I1 b1 f1 i1 k1 l1 m1 n1 o1 q1 s1 t1 u1 x1 y1 b2 f2 i2 k2 l2 m2 n2 o2 q2 s2 t2 u2 x2 y2 b3 f3 i3 k3 l3 m3 n3 o3 q3 s3 t3 u3 x3 y3 b4 f4 i4 k4 l4 m4 n4 o4->
(decide (b1<(p2.length:Int))=true->
(0<=b1)/\b1<(p2.length:Int)/\(o4.length=o4.length)/\(n4.length=n4.length)/\(m4.length=m4.length)/\((∃c:Nat,c+(ix p2 b1).Txs.length<=790/\PI (PS.mk (wE.mk l2 m2 n2 o2 q2 s2 t2 u2 x2) (wC.mk y2 b3 f3) i3 k3 m4 n4 o4 k4 l4) c 0)/\BR' (ix p2 b1))/\let r3:Int:=((applyS (PS.mk (wE.mk l2 m2 n2 o2 q2 s2 t2 u2 x2) (wC.mk y2 b3 f3) i3 k3 m4 n4 o4 k4 l4) (ix p2 b1)).e)
let r4:=(applyS (PS.mk (wE.mk l2 m2 n2 o2 q2 s2 t2 u2 x2) (wC.mk y2 b3 f3) i3 k3 m4 n4 o4 k4 l4) (ix p2 b1)).s
((r3 !=0)=true->
0=r0.wAC/\0=r0.wAI/\0=r0.wy/\0=r0.wt/\0=r0.wAB/\0=r0.wg/\0=r0.wZ/\0=r0.wn/\0=r0.wW/\([]:List Int)=r0.wM/\0=r0.wR/\0=r0.wV/\([]:List Int)=r0.wL/\0=r0.wS/\r3=r1/\l3=As/\m3=Ap/\n3=At/\o3=Aq/\Ay=d1_0/\x3=e2k/\y3=e2v/\t3=e3k/\u3=e3v/\q3=e4k/\s3=e4v)/\
((r3 !=0)=false->
(r4.p.length=r4.p.length)/\(r4.r.length=r4.r.length)/\(r4.l.length=r4.l.length)/\(r4.l.length<=1000000)/\(r4.p.length=r4.p.length)/\(r4.r.length=r4.r.length)/\(r4.l.length=r4.l.length)/\(r4.r.length<=1000000)/\let r5:Int:=(if r4.r=[]then 0 else ix r4.r ((r4.r.length:Int)-1))
b4.length=b4.length/\(b4.length+[wh.mk r5 (r4.l.length:Int)].length)*16<=140737488355328/\b4.length+[wh.mk r5 (r4.l.length:Int)].length<=maxLen/\(r4.p.length=r4.p.length)/\(r4.r.length=r4.r.length)/\(r4.l.length=r4.l.length)/\(b4++[wh.mk r5 (r4.l.length:Int)]=b4++[wh.mk r5 (r4.l.length:Int)])/\I1 (i64.wrap (b1+1)) f1 r4.l k1 l1 m1 n1 o1 q1 s1 t1 u1 x1 y1 b2 f2 i2 k2 r4.R.we r4.R.wD r4.R.wI r4.R.wH r4.R.wG r4.R.wJ r4.R.wb r4.R.wQ r4.R.wq r4.F.wD r4.F.wX r4.F.wa r4.b r4.n l3 m3 n3 o3 q3 s3 t3 u3 x3 y3 (b4++[wh.mk r5 (r4.l.length:Int)]) f4 i4 r4.k r4.v r4.l r4.r r4.p/\M1 (i64.wrap (b1+1)) f1 r4.l k1 l1 m1 n1 o1 q1 s1 t1 u1 x1 y1 b2 f2 i2 k2 r4.R.we r4.R.wD r4.R.wI r4.R.wH r4.R.wG r4.R.wJ r4.R.wb r4.R.wQ r4.R.wq r4.F.wD r4.F.wX r4.F.wa r4.b r4.n l3 m3 n3 o3 q3 s3 t3 u3 x3 y3 (b4++[wh.mk r5 (r4.l.length:Int)]) f4 i4 r4.k r4.v r4.l r4.r r4.p<M1 b1 f1 i1 k1 l1 m1 n1 o1 q1 s1 t1 u1 x1 y1 b2 f2 i2 k2 l2 m2 n2 o2 q2 s2 t2 u2 x2 y2 b3 f3 i3 k3 l3 m3 n3 o3 q3 s3 t3 u3 x3 y3 b4 f4 i4 k4 l4 m4 n4 o4))/\
(decide (b1<(p2.length:Int))=false->
(o4.length=o4.length)/\(n4.length=n4.length)/\(m4.length=m4.length)/\(i3.length<=100000)/\(OkA (wY.mk i3).wB)/\let v6:Bool:=(((totA 0 (wY.mk i3).wB).2) !=0)
(v6=true->
0=r0.wAC/\0=r0.wAI/\0=r0.wy/\0=r0.wt/\0=r0.wAB/\0=r0.wg/\0=r0.wZ/\0=r0.wn/\0=r0.wW/\([]:List Int)=r0.wM/\0=r0.wR/\0=r0.wV/\([]:List Int)=r0.wL/\0=r0.wS/\((totA 0 (wY.mk i3).wB).2)=r1/\l3=As/\m3=Ap/\n3=At/\o3=Aq/\Ay=d1_0/\x3=e2k/\y3=e2v/\t3=e3k/\u3=e3v/\q3=e4k/\s3=e4v)/\
(v6=false->
(b4=b4)/\(BL0 p2/\p2.length<=8)/\let v7:Int:=u64.wrap ((u64.wrap (p2.length:Int))*p1.wJ)
v7=r0.wAC/\((totA 0 (wY.mk i3).wB).1)=r0.wAI/\n1=r0.wy/\o1=r0.wt/\q1=r0.wAB/\s1=r0.wg/\t1=r0.wZ/\u1=r0.wn/\x1=r0.wW/\y1=r0.wM/\b2=r0.wR/\f2=r0.wV/\i2=r0.wL/\k2=r0.wS/\0=r1/\l3=As/\m3=Ap/\n3=At/\o3=Aq/\Ay=d1_0/\x3=e2k/\y3=e2v/\t3=e3k/\u3=e3v/\q3=e4k/\s3=e4v)))))∨((rulesE p1≠0)/\(((rulesE p1) !=0)=true->
0=r0.wAC/\0=r0.wAI/\0=r0.wy/\0=r0.wt/\0=r0.wAB/\0=r0.wg/\0=r0.wZ/\0=r0.wn/\0=r0.wW/\([]:List Int)=r0.wM/\0=r0.wR/\0=r0.wV/\([]:List Int)=r0.wL/\0=r0.wS/\(rulesE p1)=r1/\Af=As/\Ad=Ap/\Ah=At/\Ag=Aq/\Ay=d1_0/\w2k=e2k/\w2v=e2v/\w3k=e3k/\w3v=e3v/\w4k=e4k/\w4v=e4v)/\
(((rulesE p1) !=0)=false->
False))) (by kernel_rfl)<|by
 rintro p1 p2 Af Ad Ah Ag Ay w2k w2v w3k w3v w4k w4v h _ rfl _ rfl _ rfl _ rfl _ rfl _ rfl _ rfl _ rfl _ rfl _ rfl _ rfl _ rfl _ rfl
 obtain⟨⟨hl,h8⟩,hw⟩:=h
 by_cases hE:rulesE p1=0
 ·refine .inl ⟨hE,fun e=>(by cases e),fun _=> ?_⟩
  generalize hG:auS p1 p2=G
  have hP:PI (newS p1) 0 0:=new_PI hE hw
  refine⟨rfl,rfl,rfl,(by show(1:Nat)<=_;omega),rfl,(by show(0+1)*16<=_;omega),(by show 0+1<=maxLen;unfold maxLen;omega),rfl,rfl,rfl,rfl,?_⟩
  refine⟨(fun i _ _ _ _ _ n1 o1 q1 s1 t1 u1 x1 y1 b2 f2 i2 k2 l2 m2 n2 o2 q2 s2 t2 u2 x2 y2 b3 f3 i3 k3 l3 m3 n3 o3 q3 s3 t3 u3 x3 y3 b4 _ _ k4 l4 m4 n4 o4=>∃k:Nat,i=(k:Int)/\k<=p2.length/\(n1=0/\o1=0/\q1=0/\s1=0/\t1=0/\u1=0/\x1=0/\y1=[]/\b2=0/\f2=0/\i2=[]/\k2=0)/\(l3=Af/\m3=Ad/\n3=Ah/\o3=Ag/\q3=w4k/\s3=w4v/\t3=w3k/\u3=w3v/\x3=w2k/\y3=w2v)/\b4.length=k+1/\PI (PS.mk (wE.mk l2 m2 n2 o2 q2 s2 t2 u2 x2) (wC.mk y2 b3 f3) i3 k3 m4 n4 o4 k4 l4) k 0/\auGo (p2.drop k) (PS.mk (wE.mk l2 m2 n2 o2 q2 s2 t2 u2 x2) (wC.mk y2 b3 f3) i3 k3 m4 n4 o4 k4 l4)=auGo p2 (newS p1)),(fun i _ _ _ _ _ _ _ _ _ _ _ _ _ _ _ _ _ _ _ _ _ _ _ _ _ _ _ _ _ _ _ _ _ _ _ _ _ _ _ _ _ _ _ _ _ _ _ _ _=>(p2.length-i).toNat),⟨0,rfl,by omega,⟨rfl,rfl,rfl,rfl,rfl,rfl,rfl,rfl,rfl,rfl,rfl,rfl⟩,⟨rfl,rfl,rfl,rfl,rfl,rfl,rfl,rfl,rfl,rfl⟩,rfl,hP,rfl⟩,?_⟩
  rintro _ f1 i1 k1 l1 m1 _ _ _ _ _ _ _ _ _ _ _ _ l2 m2 n2 o2 q2 s2 t2 u2 x2 y2 b3 f3 i3 k3 _ _ _ _ _ _ _ _ _ _ b4 f4 i4 k4 l4 m4 n4 o4 ⟨k,rfl,g1,⟨rfl,rfl,rfl,rfl,rfl,rfl,rfl,rfl,rfl,rfl,rfl,rfl⟩,⟨rfl,rfl,rfl,rfl,rfl,rfl,rfl,rfl,rfl,rfl⟩,hb4,hPI,hgo⟩
  refine⟨fun hh=> ?_,fun hh=> ?_⟩
  ·have hk:k<p2.length:=by have:=of_decide_eq_true hh;omega
   have hx:ix p2 (k:Int)=p2[k]:=ix_get _ _ hk
   have htx:p2[k].Txs=[]:=hl.t _ (List.getElem_mem hk)
   have hbr:BR' p2[k]:=hl.r _ (List.getElem_mem hk)
   have hz:p2[k].Txs.length=0:=by rw[htx];rfl
   rw[kbg hk]at hgo
   rw[hx,inc (k:Int) p2.length (by omega) (by omega) (by omega)]
   refine⟨by omega,by omega,rfl,rfl,rfl,⟨⟨k,by omega,hPI⟩,hbr⟩,?_⟩
   dsimp only
   refine⟨fun e=> ?_,fun e=> ?_⟩
   ·have e:¬(applyS (PS.mk (wE.mk l2 m2 n2 o2 q2 s2 t2 u2 x2) (wC.mk y2 b3 f3) i3 k3 m4 n4 o4 k4 l4) p2[k]).e=0:=by simpa using e
    rw[if_neg e]at hgo
    have hG2:G=(zeroR,(applyS (PS.mk (wE.mk l2 m2 n2 o2 q2 s2 t2 u2 x2) (wC.mk y2 b3 f3) i3 k3 m4 n4 o4 k4 l4) p2[k]).e):=by
     rw[<-hG]
     unfold auS
     rw[if_pos hE,<-hgo]
     exact if_neg e
    subst hG2
    exact(by repeat' first|apply And.intro|exact rfl|exact True.intro)
   ·have e:(applyS (PS.mk (wE.mk l2 m2 n2 o2 q2 s2 t2 u2 x2) (wC.mk y2 b3 f3) i3 k3 m4 n4 o4 k4 l4) p2[k]).e=0:=by simpa using e
    rw[if_pos e]at hgo
    have hP2:=kdm hPI (by omega) hbr e
    rw[hz]at hP2
    have a1:=hP2.ll
    have a2:=hP2.rl
    have a3:=hP2.p
    have a4:=pow12 (applyS (PS.mk (wE.mk l2 m2 n2 o2 q2 s2 t2 u2 x2) (wC.mk y2 b3 f3) i3 k3 m4 n4 o4 k4 l4) p2[k]).s.R.wD.toNat (by have:=hP2.d2;omega)
    refine⟨rfl,rfl,rfl,by omega,rfl,rfl,rfl,by omega,rfl,?_,?_,rfl,rfl,rfl,rfl,⟨k+1,rfl,by omega,⟨rfl,rfl,rfl,rfl,rfl,rfl,rfl,rfl,rfl,rfl,rfl,rfl⟩,⟨rfl,rfl,rfl,rfl,rfl,rfl,rfl,rfl,rfl,rfl⟩,?_,hP2,hgo⟩,by(first|omega|(dsimp only;omega))⟩
    ·simp only[List.length_cons,List.length_nil];omega
    ·simp only[List.length_cons,List.length_nil];unfold maxLen;omega
    ·rw[List.length_append,hb4];rfl
  ·have hk:k=p2.length:=by have:=of_decide_eq_false hh;omega
   subst hk
   rw[List.drop_length]at hgo
   have hgo:(⟨0,(PS.mk (wE.mk l2 m2 n2 o2 q2 s2 t2 u2 x2) (wC.mk y2 b3 f3) i3 k3 m4 n4 o4 k4 l4)⟩:PE)=auGo p2 (newS p1):=hgo
   have hbl:=hPI.b.2.2
   have ht:=(sup_PI hPI (by omega)).1
   have hG2:G=(wj.mk (u64.wrap (u64.wrap (p2.length:Int)*p1.wJ)) (totA 0 i3).1 0 0 0 0 0 0 0 [] 0 0 [] 0,0):=by
    rw[<-hG]
    unfold auS
    rw[if_pos hE,<-hgo]
    rfl
   have ht2:(totA 0 i3).2=0:=by
    have:totA 0 i3=(sumA i3,0):=ht
    rw[this]
   refine⟨rfl,rfl,rfl,(by have:i3.length<=_:=hbl;omega),hPI.b.1,?_⟩
   subst hG2
   refine⟨fun e=> ?_,fun e=> ?_⟩
   ·exfalso
    have e:((totA 0 i3).2 !=0)=true:=e
    rw[ht2]at e
    cases e
   ·exact⟨rfl,⟨hl,h8⟩,(by repeat' first|apply And.intro|exact rfl|exact True.intro)⟩
 ·refine .inr ⟨hE,fun e=> ?_,fun e=>(hE (by simpa using e)).elim⟩
  have hG2:auS p1 p2=(zeroR,rulesE p1):=if_neg hE
  rw[hG2]
  exact(by repeat' first|apply And.intro|exact rfl|exact True.intro)
noncomputable def ka4:Con TB.den:= .g ⟨11,[.one (.ptr 0 0),.agg [zqi,zqi,zqi,zqi,zqi,zqu,zqi,zqi,zqu],.one (.d (.sl (.st 3))),.one (.d (.sl (.st 18)))],[.cells [.d (.bool),zqu,zqi,.d (.sl (.st 4)),.mp 1,.mp 2,.mp 3],.map (.str) yqi,.map (.str) (.sl yqu),.map (.str) (.bool)],(.tup [.agg [zqu,zqu,zqu,zqi,zqi,zqi,zqi,zqi,zqu,zql,zqu,zqu,zql,zqu],.one (zqi)]),[.cells [.d (.bool),zqu,zqi,.d (.sl (.st 4)),.mp 1,.mp 2,.mp 3],.map (.str) yqi,.map (.str) (.sl yqu),.map (.str) (.bool)],false⟩ [.st 0,.sl (.st 3),.sl (.st 18),.bool,yqu,yqi,.sl (.st 4),.sl (.str),.sl yqi,.sl (.str),.sl (.sl yqu),.sl (.str),.sl (.bool)] [.st 16,yqi,.bool,yqu,yqi,.sl (.st 4),.sl (.str),.sl yqi,.sl (.str),.sl (.sl yqu),.sl (.str),.sl (.bool)] [] fun(p1:wE) (p2:List wU) (p3:List wAG) (Af:Bool) (Ad Ah:Int) (Ag:List wF) (w1k:List ByteArray) (w1v:List Int) (w2k:List ByteArray) (w2v:List (List Int)) (w3k:List ByteArray) (w3v:List Bool)=>(p2=[]/\p3=[]/\0<=p1.wJ,((bokS Af p1).1:wj),((bokS Af p1).2:Int),Af,Ad,Ah,Ag,w1k,w1v,w2k,w2v,w3k,w3v,())
theorem kbt:ka4.Ok Tryz.prog TB:=prv Bs Tryz.func11 (.r 2 (.nd [] (.r 0 (.lp [] ⟨[],[],[11,22],[.one (zqi),.one (zqi)],[]⟩ .no)) [] (.nd [] (.jn ⟨[3,2,1,0],[.map (.str) (.bool),.map (.str) (.sl yqu),.map (.str) yqi,.cells [.d (.bool),zqu,zqi,.d (.sl (.st 4)),.mp 2,.mp 1,.mp 0]],[43],[.one (.d (.bool))],[]⟩ [] .no [] .no) [] .no))) (k1j.c (k2s.c (k61.c c0))) (Q:=∀(p1:wE) (p2:List wU) (p3:List wAG) (Af:Bool) (Ad Ah:Int) (Ag:List wF) (w1k:List ByteArray) (w1v:List Int) (w2k:List ByteArray) (w2v:List (List Int)) (w3k:List ByteArray) (w3v:List Bool),(p2=[]/\p3=[]/\0<=p1.wJ)->∀r0:wj,((bokS Af p1).1)=r0->∀r1:Int,((bokS Af p1).2)=r1->∀As:Bool,Af=As->∀Ap:Int,Ad=Ap->∀At:Int,Ah=At->∀Aq:List wF,Ag=Aq->∀e1k:List ByteArray,w1k=e1k->∀e1v:List Int,w1v=e1v->∀e2k:List ByteArray,w2k=e2k->∀e2v:List (List Int),w2v=e2v->∀e3k:List ByteArray,w3k=e3k->∀e3v:List Bool,w3v=e3v-> 
(((rulesE p1) !=0)=true->
0=r0.wAC/\0=r0.wAI/\0=r0.wy/\0=r0.wt/\0=r0.wAB/\0=r0.wg/\0=r0.wZ/\0=r0.wn/\0=r0.wW/\([]:List Int)=r0.wM/\0=r0.wR/\0=r0.wV/\([]:List Int)=r0.wL/\0=r0.wS/\(rulesE p1)=r1/\Af=As/\Ad=Ap/\Ah=At/\Ag=Aq/\w1k=e1k/\w1v=e1v/\w2k=e2k/\w2v=e2v/\w3k=e3k/\w3v=e3v)/\
(((rulesE p1) !=0)=false->
∃(I1:Int->Int->Prop) (M1:Int->Int->Nat),I1 0 0/\∀(b1 f1:Int),(I1 b1 f1->
(decide (f1<(p2.length:Int))=true->
(0<=f1)/\f1<(p2.length:Int)/\let v2:Int:=i64.wrap (b1+(((ix p2 f1).Txs).length:Int))
I1 v2 (i64.wrap (f1+1))/\M1 v2 (i64.wrap (f1+1))<M1 b1 f1)/\
(decide (f1<(p2.length:Int))=false->
∀J1:Bool->Bool->Int->Int->(List wF)->(List ByteArray)->(List Bool)->(List ByteArray)->(List (List Int))->(List ByteArray)->(List Int)->Prop,(∀(i1 k1:Bool) (l1 m1:Int) (n1:List wF) (o1:List ByteArray) (q1:List Bool) (s1:List ByteArray) (t1:List (List Int)) (u1:List ByteArray) (x1:List Int),
((i1=true->
0=r0.wAC/\0=r0.wAI/\0=r0.wy/\0=r0.wt/\0=r0.wAB/\0=r0.wg/\0=r0.wZ/\0=r0.wn/\0=r0.wW/\([]:List Int)=r0.wM/\0=r0.wR/\0=r0.wV/\([]:List Int)=r0.wL/\0=r0.wS/\1=r1/\k1=As/\l1=Ap/\m1=At/\n1=Aq/\u1=e1k/\x1=e1v/\s1=e2k/\t1=e2v/\o1=e3k/\q1=e3v)/\
(i1=false->
((BL0 p2/\p2.length<=8)/\0<=p1.wJ)/\((auS p1 p2).1).wAC=r0.wAC/\((auS p1 p2).1).wAI=r0.wAI/\((auS p1 p2).1).wy=r0.wy/\((auS p1 p2).1).wt=r0.wt/\((auS p1 p2).1).wAB=r0.wAB/\((auS p1 p2).1).wg=r0.wg/\((auS p1 p2).1).wZ=r0.wZ/\((auS p1 p2).1).wn=r0.wn/\((auS p1 p2).1).wW=r0.wW/\((auS p1 p2).1).wM=r0.wM/\((auS p1 p2).1).wR=r0.wR/\((auS p1 p2).1).wV=r0.wV/\((auS p1 p2).1).wL=r0.wL/\((auS p1 p2).1).wS=r0.wS/\((auS p1 p2).2)=r1/\k1=As/\l1=Ap/\m1=At/\n1=Aq/\u1=e1k/\x1=e1v/\s1=e2k/\t1=e2v/\o1=e3k/\q1=e3v))->J1 i1 k1 l1 m1 n1 o1 q1 s1 t1 u1 x1)->
((!(Af==(p1.we==3)))=true->
J1 true Af Ad Ah Ag w3k w3v w2k w2v w1k w1v)/\
((!(Af==(p1.we==3)))=false->
J1 (b1 !=(p3.length:Int)) Af Ad Ah Ag w3k w3v w2k w2v w1k w1v))))) (by kernel_rfl)<|by
 rintro p1 p2 p3 Af Ad Ah Ag w1k w1v w2k w2v w3k w3v h _ rfl _ rfl _ rfl _ rfl _ rfl _ rfl _ rfl _ rfl _ rfl _ rfl _ rfl _ rfl
 obtain⟨rfl,rfl,hw⟩:=h
 generalize hG:bokS Af p1=G
 unfold bokS at hG
 refine⟨fun e=> ?_,fun e=> ?_⟩
 ·rw[if_pos (by simpa using e)]at hG
  subst hG
  exact(by repeat' first|apply And.intro|exact rfl|exact True.intro)
 ·have e:rulesE p1=0:=by simpa using e
  rw[if_neg (by simp[e])]at hG
  refine⟨(fun c i=>c=0/\i=0),(fun _ _=>0),⟨rfl,rfl⟩,?_⟩
  rintro c i ⟨rfl,rfl⟩
  refine⟨fun hh=>by simp at hh,fun _=> ?_⟩
  intro J1 k1
  have j:∀b:Bool,(b=true↔(Af==(p1.we==3))=false)->J1 b Af Ad Ah Ag w3k w3v w2k w2v w1k w1v:=fun b hb2=>k1 _ _ _ _ _ _ _ _ _ _ _ ⟨fun eb=>by
    rw[if_pos (hb2.1 eb)]at hG
    subst hG
    exact(by repeat' first|apply And.intro|exact rfl|exact True.intro),fun eb=>by
    rw[if_neg (fun hh=>by rw[hb2.2 hh]at eb;cases eb)]at hG
    subst hG
    exact⟨⟨⟨BL0.nil,by decide⟩,hw⟩,(by repeat' first|apply And.intro|exact rfl|exact True.intro)⟩⟩
  refine⟨fun em=>j true ⟨fun _=>by simpa using em,fun _=>rfl⟩,fun em=> ?_⟩
  have e0:((0:Int) !=((([]:List wAG).length:Nat):Int))=false:=rfl
  rw[e0]
  exact j false ⟨fun hh=>(by cases hh),fun hh=>by rw[hh]at em;cases em⟩
noncomputable def kbp:Con TB.den:= .tp 29 [.st 17] [.st 17] [] fun(p0:wAX)=>(p0,())
theorem kd9:kbp.Ok Tryz.prog TB:=qtv Bs Tryz.func29 .no c0 (Q:=∀(p0:wAX),∀r0:wAX,p0=r0-> 
p0.wAm=r0.wAm/\p0.wAN=r0.wAN/\p0.Tx=r0.Tx/\p0.wAe=r0.wAe/\p0.wAd=r0.wAd/\p0.wAZ=r0.wAZ/\p0.wAg=r0.wAg/\p0.wAf=r0.wAf/\p0.wAa=r0.wAa) (by kernel_rfl)<|by
 rintro p0 _ rfl
 exact(by repeat' first|apply And.intro|exact rfl|exact True.intro)
noncomputable def ka3:Con TB.den:= .tp 14 [.st 16] [.st 16] [] fun(p0:wj)=>(p0,())
theorem k5i:ka3.Ok Tryz.prog TB:=qtv Bs Tryz.func14 .no (kd9.c c0) (Q:=∀(p0:wj),∀r0:wj,p0=r0-> 
p0.wAC=r0.wAC/\p0.wAI=r0.wAI/\p0.wy=r0.wy/\p0.wt=r0.wt/\p0.wAB=r0.wAB/\p0.wg=r0.wg/\p0.wZ=r0.wZ/\p0.wn=r0.wn/\p0.wW=r0.wW/\p0.wM=r0.wM/\p0.wR=r0.wR/\p0.wV=r0.wV/\p0.wL=r0.wL/\p0.wS=r0.wS) (by kernel_rfl)<|by
 rintro p0 _ rfl
 exact(by repeat' first|apply And.intro|exact rfl|exact True.intro)
noncomputable def kbr:Con TB.den:= .tp 19 [] [.st 0] [] ((wE.mk 2 2 0 0 0 50 3 5 1:wE),())
theorem kdn:kbr.Ok Tryz.prog TB:=qtv Bs Tryz.func19 .no c0 (Q:=∀r0:wE,wE.mk 2 2 0 0 0 50 3 5 1=r0-> 
2=r0.we/\2=r0.wD/\0=r0.wI/\0=r0.wH/\0=r0.wG/\50=r0.wJ/\3=r0.wb/\5=r0.wQ/\1=r0.wq) (by kernel_rfl)<|by
 rintro _ rfl
 exact(by repeat' first|apply And.intro|exact rfl|exact True.intro)
end Go.Proofs.YtijdfglbhaedoaaGreat
end
