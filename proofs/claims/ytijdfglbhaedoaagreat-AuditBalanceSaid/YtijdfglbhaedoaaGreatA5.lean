/-
  Parts of the proofs that the laws of this seat hold of every input, merged by a program: a machine over pure data that is sound for the model, what each function of the translation does in it, and plain lemmas. No conditions but those in each theorem.
-/
import Derived.Test.YtijdfglbhaedoaaGreatA4
set_option maxRecDepth 100000
noncomputable section
namespace Go.Proofs.YtijdfglbhaedoaaGreat
open Go Go.Bv Go.Cv Go.Md Go.RowKit
open Go.IntKind (i64 u64)
structure Pz {α:Type} (enc:α->List Int) (G:α->Prop) (r:List Int) (f:Bool) (v:α) (r' :List Int) (f' :Bool):Prop where
 snd:f' =false->f=false/\r=enc v++r'/\G v
 cpl:∀v0 s,f=false->r=enc v0++s->G v0->f' =false/\v=v0/\r' =s
theorem Pz.two {α β:Type} {e1:α->List Int} {G1:α->Prop} {e2:β->List Int} {G2:β->Prop} {r r1 r2:List Int} {f f1 f2:Bool} {a:α} {b:β}
  (h1:Pz e1 G1 r f a r1 f1) (h2:Pz e2 G2 r1 f1 b r2 f2):Pz (fun p:α×β=>e1 p.1++e2 p.2) (fun p=>G1 p.1/\G2 p.2) r f (a,b) r2 f2 where
 snd h:=by
  obtain⟨x1,x2,x3⟩:=h2.snd h
  obtain⟨y1,y2,y3⟩:=h1.snd x1
  exact⟨y1,by rw[y2,x2,List.append_assoc],y3,x3⟩
 cpl v0 s hf hr hG:=by
  rw[List.append_assoc]at hr
  obtain⟨y1,y2,y3⟩:=h1.cpl v0.1 _ hf hr hG.1
  obtain⟨x1,x2,x3⟩:=h2.cpl v0.2 _ y1 y3 hG.2
  exact⟨x1,by rw[y2,x2],x3⟩
theorem Pz.to {α β:Type} {e1:α->List Int} {G1:α->Prop} {e2:β->List Int} {G2:β->Prop} {r r1:List Int} {f f1:Bool} {a:α}
  (h1:Pz e1 G1 r f a r1 f1) (φ:α->β) (ψ:β->α) (he:∀x,G1 x->e2 (φ x)=e1 x/\G2 (φ x)) (hi:∀y,G2 y->φ (ψ y)=y/\e1 (ψ y)=e2 y/\G1 (ψ y)):Pz e2 G2 r f (φ a) r1 f1 where
 snd h:=by
  obtain⟨x1,x2,x3⟩:=h1.snd h
  exact⟨x1,by rw[x2,(he a x3).1],(he a x3).2⟩
 cpl v0 s hf hr hG:=by
  obtain⟨i1,i2,i3⟩:=hi v0 hG
  obtain⟨y1,y2,y3⟩:=h1.cpl (ψ v0) s hf (by rw[i2];exact hr) i3
  exact⟨y1,by rw[y2,i1],y3⟩
def Gl {α:Type} (G:α->Prop) (n:Nat) (l:List α):Prop:=l.length=n/\∀x∈l,G x
theorem Pz.nil {α:Type} {e:α->List Int} {G:α->Prop} {r:List Int} {f:Bool}:Pz (fun l:List α=>l.flatMap e) (Gl G 0) r f [] r f where
 snd h:=⟨h,rfl,rfl,by intro x hx;cases hx⟩
 cpl v0 s hf hr hG:=by
  have:v0=[]:=List.length_eq_zero_iff.1 hG.1
  subst this
  exact⟨hf,rfl,hr⟩
theorem Pz.snoc {α:Type} {e:α->List Int} {G:α->Prop} {r r1 r2:List Int} {f f1 f2:Bool} {l:List α} {x:α} {n:Nat}
  (h1:Pz (fun l:List α=>l.flatMap e) (Gl G n) r f l r1 f1) (h2:Pz e G r1 f1 x r2 f2):Pz (fun l:List α=>l.flatMap e) (Gl G (n+1)) r f (l++[x]) r2 f2 where
 snd h:=by
  obtain⟨x1,x2,x3⟩:=h2.snd h
  obtain⟨y1,y2,y3⟩:=h1.snd x1
  refine⟨y1,by rw[y2,x2];simp,by simp[y3.1],?_⟩
  intro y hy
  rcases List.mem_append.1 hy with hy|hy
  ·exact y3.2 y hy
  ·rw[List.mem_singleton.1 hy];exact x3
 cpl v0 s hf hr hG:=by
  have hne:v0≠[]:=by intro h;have:=hG.1;rw[h]at this;simp at this
  have hd:=List.dropLast_concat_getLast hne
  generalize v0.dropLast=i at *
  generalize v0.getLast hne=z at *
  subst hd
  obtain⟨g1,g2⟩:=hG
  have hr:r=i.flatMap e++(e z++s):=by rw[hr];simp
  obtain⟨y1,y2,y3⟩:=h1.cpl i _ hf hr ⟨by simpa using g1,fun y hy=>g2 y (by simp[hy])⟩
  obtain⟨x1,x2,x3⟩:=h2.cpl z _ y1 y3 (g2 z (by simp))
  exact⟨x1,by rw[y2,x2],x3⟩
def encC {α:Type} (e:α->List Int) (l:List α):List Int:=dig 4 (l.length:Int)++l.flatMap e
def Gn (m n:Int):Prop:=0<=n/\n<4294967296/\n<=m
def Gc {α:Type} (G:α->Prop) (m:Int) (l:List α):Prop:=Gn m (l.length:Int)/\∀x∈l,G x
theorem Pz.list {α:Type} {e:α->List Int} {G:α->Prop} {r r1 r2:List Int} {f f1 f2:Bool} {l:List α} {n m:Int}
  (h1:Pz (dig 4) (Gn m) r f n r1 f1) (h2:Pz (fun l:List α=>l.flatMap e) (Gl G n.toNat) r1 f1 l r2 f2):Pz (encC e) (Gc G m) r f l r2 f2 where
 snd h:=by
  obtain⟨x1,x2,x3⟩:=h2.snd h
  obtain⟨y1,y2,y3⟩:=h1.snd x1
  have hn:(l.length:Int)=n:=by rw[x3.1];have:=y3.1;omega
  exact⟨y1,by unfold encC;rw[hn,y2,x2,List.append_assoc],by unfold Gc;rw[hn];exact⟨y3,x3.2⟩⟩
 cpl v0 s hf hr hG:=by
  unfold encC at hr
  rw[List.append_assoc]at hr
  obtain⟨y1,y2,y3⟩:=h1.cpl _ _ hf hr hG.1
  obtain⟨x1,x2,x3⟩:=h2.cpl v0 s y1 y3 ⟨by rw[y2];simp,hG.2⟩
  exact⟨x1,x2,x3⟩
def Gu (m n:Int):Prop:=U64 n/\n<=m
def Gp (m p:Int) (l:List Int):Prop:=(l.length:Int)<=m/\(∀x∈l,x<p)/\Us l
section
variable {b:List Int} {pos m p:Int} {f:Bool}
theorem rdU_pz (h:RdOk b pos):Pz (dig 8) (Gu m) (b.drop pos.toNat) f (rdU b pos f m).n (b.drop (rdU b pos f m).pos.toNat) (rdU b pos f m).fail where
 snd hf:=by
  obtain⟨h1,h2,h3⟩:=rdU_snd h hf
  exact⟨h1,h2,rdU_n h,h3⟩
 cpl v0 s hf hr hG:=rdU_cpl h hf hr hG.1 hG.2
theorem rdI_pz (h:RdOk b pos) (hm:0<=m/\m<4294967296):Pz (dig 4) (Gn m) (b.drop pos.toNat) f (rdI b pos f m).n (b.drop (rdI b pos f m).pos.toNat) (rdI b pos f m).fail where
 snd hf:=by
  obtain⟨h1,h2,h3⟩:=rdI_snd h hf
  have:=rdI_n (f:=f) h hm.1
  exact⟨h1,h2,this.1,by omega,h3⟩
 cpl v0 s hf hr hG:=rdI_cpl h hf hr hG.1 hG.2.1 hG.2.2
theorem rdL_pz (h:RdOk b pos) (hm:0<=m/\m<=4294967295):Pz encL (Gp m p) (b.drop pos.toNat) f (rdL b pos f m p).l (b.drop (rdL b pos f m p).pos.toNat) (rdL b pos f m p).fail where
 snd hf:=by
  obtain⟨h1,h2,h3,h4,h5⟩:=rdL_snd h hm hf
  exact⟨h1,h2,h3,h4,h5⟩
 cpl v0 s hf hr hG:=rdL_cpl h hm hf hr hG.1 hG.2.1 hG.2.2
end
section
variable {b:List Int} {f:Bool} {m p:Int}
theorem nB8_pz (h:By b) (hm:m<=18446744073709551615):Pz (dig 8) (Gu m) b f (nB 8 b f m).n (nB 8 b f m).b (nB 8 b f m).f where
 snd hf:=by
  obtain⟨h1,h2,h3⟩:=nB_snd h (by omega) hf
  have:=nB_n (f:=f) (m:=m) h (k:=8) (by omega)
  exact⟨h1,h2,⟨this.1,by omega⟩,h3⟩
 cpl v0 s hf hr hG:=by
  have p8:(256:Int)^(8:Int).toNat=18446744073709551616:=by decide
  have hu:=hG.1
  rw[nB_cpl (k:=8) (by omega) hf hr hu.1 (by rw[p8];exact hu.2) hG.2]
  exact⟨rfl,rfl,rfl⟩
theorem nB4_pz (h:By b):Pz (dig 4) (Gn m) b f (nB 4 b f m).n (nB 4 b f m).b (nB 4 b f m).f where
 snd hf:=by
  have p4:(256:Int)^(4:Int).toNat=4294967296:=by decide
  obtain⟨h1,h2,h3⟩:=nB_snd h (by omega) hf
  have:=nB_n (f:=f) (m:=m) h (k:=4) (by omega)
  rw[p4]at this
  exact⟨h1,h2,this.1,this.2,h3⟩
 cpl v0 s hf hr hG:=by
  have p4:(256:Int)^(4:Int).toNat=4294967296:=by decide
  rw[nB_cpl (k:=4) (by omega) hf hr hG.1 (by rw[p4];exact hG.2.1) hG.2.2]
  exact⟨rfl,rfl,rfl⟩
def lBs (p:Int):Nat->List Int->List Int->RB
 |0,b,acc=>⟨acc,b,false⟩
 |k+1,b,acc=>if p<=val (b.take 8)then⟨[],b.drop 8,true⟩else lBs p k (b.drop 8) (acc++[val (b.take 8)])
def lB (b:List Int) (f:Bool) (m p:Int):RB:=if(nB 4 b f m).f=true∨((nB 4 b f m).b.length:Int)/8<(nB 4 b f m).n then⟨[],(nB 4 b f m).b,true⟩else lBs p (nB 4 b f m).n.toNat (nB 4 b f m).b []
theorem lBs_b:∀(k:Nat) {b acc:List Int},By b->By (lBs p k b acc).b/\(lBs p k b acc).b.length<=b.length
 |0,_,_,h=>⟨h,Nat.le_refl _⟩
 |k+1,b,acc,h=>by
  unfold lBs
  split
  ·exact⟨h.drop _,by show(b.drop 8).length<=_;rw[List.length_drop];omega⟩
  ·have:=lBs_b k (acc:=acc++[val (b.take 8)]) (h.drop 8)
   rw[List.length_drop]at this
   exact⟨this.1,by omega⟩
theorem lBs_snd:∀(k:Nat) {b acc:List Int},8*k<=b.length->(lBs p k b acc).f=false->
  (lBs p k b acc).l=acc++nums k b/\(∀x∈nums k b,x<p)/\(lBs p k b acc).b=b.drop (8*k)
 |0,b,acc,_,_=>⟨by simp[lBs,nums],by simp[nums],by simp[lBs]⟩
 |k+1,b,acc,hk,hf=>by
  unfold lBs at *
  split at hf
  ·cases hf
  ·rename_i hn
   rw[if_neg hn]
   obtain⟨g1,g2,g3⟩:=lBs_snd k (by rw[List.length_drop];omega) hf
   refine⟨?_,?_,?_⟩
   ·rw[g1,List.append_assoc];rfl
   ·intro x hx
    rcases List.mem_cons.1 hx with rfl|hx
    ·omega
    ·exact g2 x hx
   ·rw[g3,List.drop_drop];congr 1;omega
theorem lBs_cpl:∀(k:Nat) {b acc:List Int},(∀x∈nums k b,x<p)->(lBs p k b acc).f=false
 |0,_,_,_=>rfl
 |k+1,b,acc,hf=>by
  unfold lBs
  have h3:=hf (val (b.take 8)) (by simp[nums])
  rw[if_neg (by omega)]
  exact lBs_cpl k (fun x hx=>hf x (List.mem_cons_of_mem _ hx))
theorem lB_b (h:By b):By (lB b f m p).b/\(lB b f m p).b.length<=b.length:=by
 unfold lB
 have h1:=nB_b (k:=4) (f:=f) (m:=m) h
 split
 ·exact h1
 ·have:=lBs_b (p:=p) (nB 4 b f m).n.toNat (acc:=[]) h1.1
  exact⟨this.1,by omega⟩
theorem lB_pz (h:By b) (hm:m<=4294967295):Pz encL (Gp m p) b f (lB b f m p).l (lB b f m p).b (lB b f m p).f where
 snd hf:=by
  unfold lB at *
  split at hf
  ·cases hf
  ·rename_i hn
   rw[if_neg hn]
   have hN:(nB 4 b f m).f=false:=by
    cases hc:(nB 4 b f m).f
    ·rfl
    ·exact absurd (.inl hc) hn
   obtain⟨y1,y2,y3⟩:=(nB4_pz (f:=f) (m:=m) h).snd hN
   have hb:=(nB_b (k:=4) (f:=f) (m:=m) h).1
   have hle:¬((nB 4 b f m).b.length:Int)/8<(nB 4 b f m).n:=fun h=>hn (.inr h)
   obtain⟨z1,z2,z3⟩:=y3
   generalize nB 4 b f m=N at *
   obtain⟨k1,k2,k3⟩:=lBs_snd N.n.toNat (by omega) hf
   rw[List.nil_append]at k1
   rw[k1,k3]
   refine⟨y1,?_,by rw[k24];omega,k2,nums_us _ hb⟩
   rw[y2]
   unfold encL
   rw[k24,show((N.n.toNat:Nat):Int)=N.n by omega,len4_in (by omega),List.append_assoc]
   congr 1
   exact k9m N.n.toNat hb (by omega)
 cpl v0 s hf hr hG:=by
  obtain⟨hl,hp,hu⟩:=hG
  unfold encL at hr
  rw[len4_in (by omega),List.append_assoc]at hr
  obtain⟨y1,y2,y3⟩:=(nB4_pz (f:=f) (m:=m) h).cpl _ _ hf hr ⟨by omega,by omega,hl⟩
  obtain⟨k1,k2,k3⟩:=ka6 v0 y3 hu
  have hn:¬((nB 4 b f m).f=true∨((nB 4 b f m).b.length:Int)/8<(nB 4 b f m).n):=by
   rw[y1,y2]
   simp only[Bool.false_eq_true,false_or]
   omega
  unfold lB
  rw[if_neg hn,y2,Int.toNat_natCast]
  have hc:=lBs_cpl (p:=p) (acc:=[]) v0.length (b:=(nB 4 b f m).b) (by rw[k1];exact hp)
  obtain⟨q1,q2,q3⟩:=lBs_snd _ k3 hc
  exact⟨hc,by rw[q1,k1];rfl,by rw[q3];exact k2⟩
end
def encN (n:wM):List Int:=dig 8 n.Value++(dig 8 n.wAi++(dig 8 n.Rho++dig 8 n.wAk))
def encSp (x:wK):List Int:=encN (noteOf x)++(dig 8 x.Key++(dig 4 (len4 x.wAY)++(dig 4 (len4 x.wH)++(encL x.wn++dig 4 (len4 (if x.wAv=true then 1 else 0))))))
def encW (w:wV):List Int:=dig 4 (len4 (w.Ins.length:Int))++(w.Ins.flatMap encSp++(dig 4 (len4 (w.wB.length:Int))++(w.wB.flatMap encN++dig 8 w.wAN)))
def rightV (w:wV):Bool:=decide (w.Ins.length<=4)&&decide (w.wB.length<=4)&&decide (w.wAN<18446744069414584321)&&w.Ins.all spendV&&w.wB.all noteV
structure Lim where
 m:Int
 p:Int
 n:Int
 q:Int
 hm:m<=18446744073709551615
 hp:p<=18446744073709551615
 hn:3<=n
 hq:4095<=q
 hm' :4294967295<=m
 hp' :18446744069414584320<=p
def limW:Lim:=⟨4294967295,18446744069414584320,3,4095,by omega,by omega,by omega,by omega,by omega,by omega⟩
def limR:Lim:=⟨18446744073709551615,18446744073709551615,4294967296,4294967296,by omega,by omega,by omega,by omega,by omega,by omega⟩
def GN (L:Lim) (n:wM):Prop:=Gu L.m n.Value/\Gu L.p n.wAi/\Gu L.p n.Rho/\Gu L.p n.wAk
def GS (L:Lim) (x:wK):Prop:=GN L (noteOf x)/\Gu L.p x.Key/\Gn L.n x.wAY/\Gn L.q x.wH/\Gp 12 18446744069414584321 x.wn
theorem GN.nr {L:Lim} {n:wM} (h:GN L n):NR n:=⟨h.1.1,h.2.1.1,h.2.2.1.1,h.2.2.2.1⟩
theorem GS.pq {L:Lim} {x:wK} (h:GS L x):PQ x:=by
 obtain⟨h1,h2,h3,h4,h5⟩:=h
 obtain⟨a1,a2,a3⟩:=h3
 obtain⟨b1,b2,b3⟩:=h4
 obtain⟨c1,c2,c3⟩:=h5
 exact⟨h1.nr,h2.1,by omega,by omega,c3,by omega⟩
theorem kdu {n:wM}:noteV n=true↔n.Value<=4294967295/\n.wAi<18446744069414584321/\n.Rho<18446744069414584321/\n.wAk<18446744069414584321:=by
 unfold noteV
 simp only[Bool.and_eq_true,decide_eq_true_eq,and_assoc]
theorem k3o {x:wK}:spendV x=true↔noteV (noteOf x)=true/\x.Key<18446744069414584321/\0<=x.wAY/\x.wAY<4/\0<=x.wH/\x.wH<=4095/\x.wn.length<=12/\allB x.wn=true:=by
 unfold spendV
 simp only[Bool.and_eq_true,decide_eq_true_eq,and_assoc]
theorem k6g {w:wV}:rightV w=true↔w.Ins.length<=4/\w.wB.length<=4/\w.wAN<18446744069414584321/\(∀x∈w.Ins,spendV x=true)/\∀x∈w.wB,noteV x=true:=by
 unfold rightV
 simp only[Bool.and_eq_true,decide_eq_true_eq,and_assoc,List.all_eq_true]
theorem NR.gn {n:wM} (h:NR n) (hv:noteV n=true) (L:Lim):GN L n:=by
 obtain⟨h1,h2,h3,h4⟩:=kdu.1 hv
 have:=L.hm'
 have:=L.hp'
 exact⟨⟨h.v,by omega⟩,⟨h.o,by omega⟩,⟨h.r,by omega⟩,⟨h.b,by omega⟩⟩
theorem PQ.gs {x:wK} (h:PQ x) (hv:spendV x=true) (L:Lim):GS L x:=by
 obtain⟨h1,h2,h3,h4,h5,h6,h7,h8⟩:=k3o.1 hv
 have:=L.hp'
 have:=L.hn
 have:=L.hq
 exact⟨h.n.gn h1 L,⟨h.k,by omega⟩,⟨h3,by omega,by omega⟩,⟨h5,by omega,by omega⟩,by omega,kfq.1 h8,h.pa⟩
theorem GN.noteV {n:wM} (h:GN limW n):noteV n=true:=by
 obtain⟨h1,h2,h3,h4⟩:=h
 have e1:n.Value<=4294967295:=h1.2
 have e2:n.wAi<=18446744069414584320:=h2.2
 have e3:n.Rho<=18446744069414584320:=h3.2
 have e4:n.wAk<=18446744069414584320:=h4.2
 exact kdu.2 ⟨e1,by omega,by omega,by omega⟩
theorem GS.spendV {x:wK} (h:GS limW x):spendV x=true:=by
 obtain⟨h1,h2,h3,h4,h5⟩:=h
 have e1:x.Key<=18446744069414584320:=h2.2
 have e2:x.wAY<=3:=h3.2.2
 have e3:x.wH<=4095:=h4.2.2
 have e4:=h5.1
 exact k3o.2 ⟨h1.noteV,by omega,h3.1,by omega,h4.1,e3,by omega,kfq.2 h5.2.1⟩
theorem pz_note {L:Lim} {r r1 r2 r3 r4:List Int} {f f1 f2 f3 f4:Bool} {a b c d:Int} (h1:Pz (dig 8) (Gu L.m) r f a r1 f1) (h2:Pz (dig 8) (Gu L.p) r1 f1 b r2 f2) (h3:Pz (dig 8) (Gu L.p) r2 f2 c r3 f3) (h4:Pz (dig 8) (Gu L.p) r3 f3 d r4 f4):Pz encN (GN L) r f ⟨a,b,c,d⟩ r4 f4:=
 (((h3.two h4)|>h2.two)|>h1.two).to (fun p:Int×Int×Int×Int=>wM.mk p.1 p.2.1 p.2.2.1 p.2.2.2) (fun n=>(n.Value,n.wAi,n.Rho,n.wAk)) (fun _ h=>⟨rfl,h⟩) (fun _ h=>⟨rfl,rfl,h⟩)
theorem kg2 {L:Lim} {r r1 r2 r3 r4 r5 r6:List Int} {f f1 f2 f3 f4 f5 f6:Bool} {a:wM} {k n q:Int} {p:List Int} {d:Int} (h1:Pz encN (GN L) r f a r1 f1) (h2:Pz (dig 8) (Gu L.p) r1 f1 k r2 f2) (h3:Pz (dig 4) (Gn L.n) r2 f2 n r3 f3) (h4:Pz (dig 4) (Gn L.q) r3 f3 q r4 f4)
  (h5:Pz encL (Gp 12 18446744069414584321) r4 f4 p r5 f5) (h6:Pz (dig 4) (Gn 1) r5 f5 d r6 f6):Pz encSp (GS L) r f ⟨a.Value,a.wAi,a.Rho,a.wAk,k,n,q,p,d==1⟩ r6 f6:=by
 refine(((((h5.two h6)|>h4.two)|>h3.two)|>h2.two)|>h1.two).to (fun x:wM×Int×Int×Int×List Int×Int=>wK.mk x.1.Value x.1.wAi x.1.Rho x.1.wAk x.2.1 x.2.2.1 x.2.2.2.1 x.2.2.2.2.1 (x.2.2.2.2.2==1)) (fun x=>(noteOf x,x.Key,x.wAY,x.wH,x.wn,if x.wAv=true then 1 else 0)) ?_ ?_
 ·rintro ⟨a,k,n,q,p,d⟩ ⟨g1,g2,g3,g4,g5,g6⟩
  refine⟨?_,g1,g2,g3,g4,g5⟩
  obtain⟨d0,d1,d2⟩:=g6
  obtain⟨n0,n1,n2⟩:=g3
  obtain⟨q0,q1,q2⟩:=g4
  have e:(if(d==1)=true then(1:Int)else 0)=d:=by
   have d2:d<=1:=d2
   have d0:0<=d:=d0
   rcases(by omega:d=0∨d=1)with rfl|rfl<;>rfl
  show encN a++(dig 8 k++(dig 4 (len4 n)++(dig 4 (len4 q)++(encL p++dig 4 (len4 (if(d==1)=true then 1 else 0))))))=encN a++(dig 8 k++(dig 4 n++(dig 4 q++(encL p++dig 4 d))))
  rw[e,len4_in (n:=n) ⟨n0,by have:n<4294967296:=n1;omega⟩,len4_in (n:=q) ⟨q0,by have:q<4294967296:=q1;omega⟩,len4_in (n:=d) ⟨d0,by have:d<4294967296:=d1;omega⟩]
 ·rintro ⟨v,o,rh,bl,k,n,q,p,d⟩ ⟨g1,g2,g3,g4,g5⟩
  obtain⟨n0,n1,n2⟩:=g3
  obtain⟨q0,q1,q2⟩:=g4
  refine⟨?_,?_,g1,g2,⟨n0,n1,n2⟩,⟨q0,q1,q2⟩,g5,?_⟩
  ·cases d<;>rfl
  ·show encN ⟨v,o,rh,bl⟩++(dig 8 k++(dig 4 n++(dig 4 q++(encL p++dig 4 (if d=true then 1 else 0)))))=encN ⟨v,o,rh,bl⟩++(dig 8 k++(dig 4 (len4 n)++(dig 4 (len4 q)++(encL p++dig 4 (len4 (if d=true then 1 else 0))))))
   rw[len4_in (n:=n) (by exact⟨n0,by have:n<4294967296:=n1;omega⟩),len4_in (n:=q) (by exact⟨q0,by have:q<4294967296:=q1;omega⟩),len4_in (n:=if d=true then 1 else 0) (by split<;>omega)]
  ·cases d
   ·exact(⟨by decide,by decide,by decide⟩:Gn 1 0)
   ·exact(⟨by decide,by decide,by decide⟩:Gn 1 1)
structure EW (w:wV) (b:List Int):Prop where
 r:WQ w
 v:rightV w=true
 e:encW w=b
def zeroW:wV:=⟨[],[],0⟩
open Classical in
def decW (b:List Int):wV×Int:=if h:∃w,EW w b then(Classical.choose h,0)else(zeroW,2)
theorem kmm {b:List Int} {t:wV} (h:EW t b) (hu:∀u,EW u b->t=u):decW b=(t,0):=by
 unfold decW
 have hex:∃t,EW t b:=⟨t,h⟩
 rw[dif_pos hex,<-hu _ (Classical.choose_spec hex)]
theorem decW_no {b:List Int} (h:∀u,¬EW u b):decW b=(zeroW,2):=by
 unfold decW
 rw[dif_neg fun⟨u,hu⟩=>h u hu]
def Gw (L:Lim) (w:wV):Prop:=Gc (GS L) 4 w.Ins/\Gc (GN L) 4 w.wB/\Gu L.p w.wAN
theorem Gw.wq {L:Lim} {w:wV} (h:Gw L w):WQ w:=by
 obtain⟨⟨i,hi⟩,⟨o,ho⟩,s⟩:=h
 have:=i.2.2
 have:=o.2.2
 exact⟨fun x hx=>(hi x hx).pq,by omega,fun x hx=>(ho x hx).nr,by omega,s.1⟩
theorem encC_in {α:Type} (e:α->List Int) (l:List α) (h:l.length<=4):encC e l=dig 4 (len4 (l.length:Int))++l.flatMap e:=by
 unfold encC
 rw[len4_in (by omega)]
theorem pz_wit {L:Lim} {b r1 r2 r3:List Int} {f1 f2 f3:Bool} {is:List wK} {os:List wM} {s:Int} (h1:Pz (encC encSp) (Gc (GS L) 4) b false is r1 f1) (h2:Pz (encC encN) (Gc (GN L) 4) r1 f1 os r2 f2) (h3:Pz (dig 8) (Gu L.p) r2 f2 s r3 f3):
  (f3=false->r3=[]->encW ⟨is,os,s⟩=b/\Gw L ⟨is,os,s⟩)/\∀w,EW w b->f3=false/\r3=[]/\(⟨is,os,s⟩:wV)=w:=by
 constructor
 ·rintro rfl rfl
  obtain⟨a1,a2,a3⟩:=h3.snd rfl
  obtain⟨b1,b2,b3⟩:=h2.snd a1
  obtain⟨c1,c2,c3⟩:=h1.snd b1
  refine⟨?_,c3,b3,a3⟩
  have l1:=c3.1.2.2
  have l2:=b3.1.2.2
  rw[c2,b2,a2,encC_in _ _ (by omega),encC_in _ _ (by omega)]
  simp[encW,List.append_assoc]
 ·rintro ⟨is0,os0,s0⟩ ⟨hr,hv,he⟩
  obtain⟨v1,v2,v3,v4,v5⟩:=k6g.1 hv
  have v1:is0.length<=4:=v1
  have v2:os0.length<=4:=v2
  have v3:s0<18446744069414584321:=v3
  have hp:=L.hp'
  have e:b=encC encSp is0++(encC encN os0++(dig 8 s0++[])):=by
   rw[<-he,encC_in _ _ v1,encC_in _ _ v2]
   simp[encW,List.append_assoc]
  obtain⟨c1,c2,c3⟩:=h1.cpl is0 _ rfl e ⟨⟨by omega,by omega,by omega⟩,fun x hx=>(hr.i x hx).gs (v4 x hx) L⟩
  obtain⟨b1,b2,b3⟩:=h2.cpl os0 _ c1 c3 ⟨⟨by omega,by omega,by omega⟩,fun x hx=>(hr.o x hx).gn (v5 x hx) L⟩
  obtain⟨a1,a2,a3⟩:=h3.cpl s0 _ b1 b3 ⟨hr.s,by omega⟩
  exact⟨a1,a3,by rw[c2,b2,a2]⟩
structure RNt where
 n:wM
 pos:Int
 f:Bool
def rdNt (b:List Int) (pos:Int) (f:Bool):RNt:=
 let A:=rdU b pos f 4294967295
 let B:=rdU b A.pos A.fail 18446744069414584320
 let C:=rdU b B.pos B.fail 18446744069414584320
 let D:=rdU b C.pos C.fail 18446744069414584320
 ⟨⟨A.n,B.n,C.n,D.n⟩,D.pos,D.fail⟩
theorem rdNt_ok {b:List Int} {pos:Int} {f:Bool} (h:RdOk b pos):RdOk b (rdNt b pos f).pos:=rdU_ok (rdU_ok (rdU_ok (rdU_ok h)))
theorem rdNt_pz {b:List Int} {pos:Int} {f:Bool} (h:RdOk b pos):Pz encN (GN limW) (b.drop pos.toNat) f (rdNt b pos f).n (b.drop (rdNt b pos f).pos.toNat) (rdNt b pos f).f:=
 pz_note (L:=limW) (rdU_pz h) (rdU_pz (rdU_ok h)) (rdU_pz (rdU_ok (rdU_ok h))) (rdU_pz (rdU_ok (rdU_ok (rdU_ok h))))
structure RNb where
 n:wM
 b:List Int
 f:Bool
def nNt (b:List Int) (f:Bool):RNb:=
 let A:=nB 8 b f 18446744073709551615
 let B:=nB 8 A.b A.f 18446744073709551615
 let C:=nB 8 B.b B.f 18446744073709551615
 let D:=nB 8 C.b C.f 18446744073709551615
 ⟨⟨A.n,B.n,C.n,D.n⟩,D.b,D.f⟩
theorem nNt_b {b:List Int} {f:Bool} (h:By b):By (nNt b f).b/\(nNt b f).b.length<=b.length:=
 have h1:=nB_b (k:=8) (f:=f) (m:=18446744073709551615) h
 have h2:=nB_b (k:=8) (f:=(nB 8 b f 18446744073709551615).f) (m:=18446744073709551615) h1.1
 have h3:=nB_b (k:=8) (f:=(nB 8 (nB 8 b f 18446744073709551615).b (nB 8 b f 18446744073709551615).f 18446744073709551615).f) (m:=18446744073709551615) h2.1
 have h4:=nB_b (k:=8) (f:=(nB 8 (nB 8 (nB 8 b f 18446744073709551615).b (nB 8 b f 18446744073709551615).f 18446744073709551615).b (nB 8 (nB 8 b f 18446744073709551615).b (nB 8 b f 18446744073709551615).f 18446744073709551615).f 18446744073709551615).f) (m:=18446744073709551615) h3.1
 ⟨h4.1,Nat.le_trans h4.2 (Nat.le_trans h3.2 (Nat.le_trans h2.2 h1.2))⟩
theorem nNt_pz {b:List Int} {f:Bool} (h:By b):Pz encN (GN limR) b f (nNt b f).n (nNt b f).b (nNt b f).f:=
 have h1:=(nB_b (k:=8) (f:=f) (m:=18446744073709551615) h).1
 have h2:=(nB_b (k:=8) (f:=(nB 8 b f 18446744073709551615).f) (m:=18446744073709551615) h1).1
 have h3:=(nB_b (k:=8) (f:=(nB 8 (nB 8 b f 18446744073709551615).b (nB 8 b f 18446744073709551615).f 18446744073709551615).f) (m:=18446744073709551615) h2).1
 pz_note (L:=limR) (nB8_pz h (by decide)) (nB8_pz h1 (by decide)) (nB8_pz h2 (by decide)) (nB8_pz h3 (by decide))
theorem k13 {α:Type} (e:α->List Int) (k:Nat):∀(l:List α),(∀x∈l,(e x).length<=k)->(l.flatMap e).length<=k*l.length
 |[],_=>by simp
 |x::r,h=>by
  have h1:=k13 e k r fun y hy=>h y (List.mem_cons_of_mem _ hy)
  have h2:=h x (by simp)
  rw[List.flatMap_cons,List.length_append,List.length_cons,Nat.mul_add]
  omega
theorem kj5 (b:List Int):(∃w,EW w b/\decW b=(w,0))∨decW b=(zeroW,2):=by
 unfold decW
 by_cases h:∃w,EW w b
 ·rw[dif_pos h];exact .inl ⟨_,Classical.choose_spec h,rfl⟩
 ·rw[dif_neg h];exact .inr rfl
theorem pz_exL {α:Type} {e:α->List Int} {G:α->Prop} (hx:∀b f,By b->∃v b' f',Pz e G b f v b' f'/\By b'):∀(n:Nat) (b:List Int) (f:Bool),By b->∃l b' f',Pz (fun l:List α=>l.flatMap e) (Gl G n) b f l b' f'/\By b'
 |0,b,f,hb=>⟨[],b,f,Pz.nil,hb⟩
 |n+1,b,f,hb=>by
  obtain⟨l,b1,f1,h1,hb1⟩:=pz_exL hx n b f hb
  obtain⟨v,b2,f2,h2,hb2⟩:=hx b1 f1 hb1
  exact⟨l++[v],b2,f2,h1.snoc h2,hb2⟩
theorem pz_exC {α:Type} {e:α->List Int} {G:α->Prop} (hx:∀b f,By b->∃v b' f',Pz e G b f v b' f'/\By b') (m:Int) (b:List Int) (f:Bool) (hb:By b):∃l b' f',Pz (encC e) (Gc G m) b f l b' f'/\By b' :=by
 obtain⟨l,b2,f2,h2,hb2⟩:=pz_exL hx (nB 4 b f m).n.toNat _ (nB 4 b f m).f (nB_b (k:=4) (f:=f) (m:=m) hb).1
 exact⟨l,b2,f2,Pz.list (nB4_pz hb) h2,hb2⟩
theorem EW.inj {t u:wV} {b:List Int} (hb:By b) (h:EW t b) (h' :EW u b):t=u:=by
 obtain⟨is,b1,f1,z1,hb1⟩:=pz_exC (e:=encSp) (G:=GS limR) (fun b f hb=>by
  have o1:=nNt_b (f:=f) hb
  have o2:=nB_b (k:=8) (f:=(nNt b f).f) (m:=18446744073709551615) o1.1
  have o3:=nB_b (k:=4) (f:=(nB 8 (nNt b f).b (nNt b f).f 18446744073709551615).f) (m:=4294967296) o2.1
  have z1:=nNt_pz (f:=f) hb
  have z2:=nB8_pz (f:=(nNt b f).f) (m:=18446744073709551615) o1.1 (by omega)
  have z3:=nB4_pz (f:=(nB 8 (nNt b f).b (nNt b f).f 18446744073709551615).f) (m:=4294967296) o2.1
  generalize nB 8 (nNt b f).b (nNt b f).f 18446744073709551615=A2 at *
  generalize nB 4 A2.b A2.f 4294967296=A3 at *
  have o4:=nB_b (k:=4) (f:=A3.f) (m:=4294967296) o3.1
  have z4:=nB4_pz (f:=A3.f) (m:=4294967296) o3.1
  generalize nB 4 A3.b A3.f 4294967296=A4 at *
  have o5:=lB_b (m:=12) (p:=18446744069414584321) (f:=A4.f) o4.1
  have z5:=lB_pz (m:=12) (p:=18446744069414584321) (f:=A4.f) o4.1 (by omega)
  generalize lB A4.b A4.f 12 18446744069414584321=A5 at *
  exact⟨_,_,_,kg2 (L:=limR) z1 z2 z3 z4 z5 (nB4_pz o5.1),(nB_b o5.1).1⟩) 4 b false hb
 obtain⟨os,b2,f2,z2,hb2⟩:=pz_exC (e:=encN) (G:=GN limR) (fun b f hb=>⟨_,_,_,nNt_pz hb,(nNt_b hb).1⟩) 4 b1 f1 hb1
 obtain⟨_,cpl⟩:=pz_wit (L:=limR) z1 z2 (nB8_pz (m:=18446744073709551615) hb2 (by omega))
 exact((cpl t h).2.2).symm.trans (cpl u h').2.2
end Go.Proofs.YtijdfglbhaedoaaGreat
namespace Go.Md
open Go Go.Bv Go.Cv Go.Md Go.RowKit
section
variable {g:List Int} {a b i j:Int} {d:Array Int}
theorem ltI_iff {x y:Int}:Sort.ltInt x y=decide (x<y):=rfl
def chS (g:List Int) (hi first root:Int):Int:=if 2*root+2<hi/\ix g (first+(2*root+1))<ix g (first+(2*root+1)+1)then 2*root+2 else 2*root+1
end
def insS (g:List Int) (a b:Int):List Int:=(Sort.insertionSort Sort.ltInt g.toArray a.toNat b.toNat).toList
def heapS (g:List Int) (a b:Int):List Int:=(Sort.heapSort Sort.ltInt g.toArray a.toNat b.toNat).toList
def partS (g:List Int) (a b p:Int):Nat×Bool×Array Int:=Sort.partition Sort.ltInt g.toArray a.toNat b.toNat p.toNat
section
variable {g:List Int} {a b p:Int}
theorem ki1 (h0:0<=a) (h1:a<=b) (h2:b<=g.length):(insS g a b).length=g.length:=by
 have:=(Sort.insertionSort_holds (lt:=Sort.ltInt) Sort.swo_ltInt g.toArray a.toNat b.toNat (by omega) (by simp;omega)).1.1
 simpa[insS]using this
end
end Go.Md
namespace Go.Proofs.YtijdfglbhaedoaaGreat
open Go Go.Bv Go.Cv Go.Md Go.RowKit
open Go.IntKind (i64 u64)
theorem k6t:∀(l m:List Int),l.Perm m->l.Pairwise (·<=·)->m.Pairwise (·<=·)->l=m
 |[],m,h,_,_=>by rw[h.symm.eq_nil]
 |x::l,[],h,_,_=>by cases h.eq_nil
 |x::l,y::m,h,hl,hm=>by
  rw[List.pairwise_cons]at hl hm
  have hx:x∈y::m:=h.mem_iff.1 (by simp)
  have hy:y∈x::l:=h.mem_iff.2 (by simp)
  have e:x=y:=by
   rcases List.mem_cons.1 hx with e|hx
   ·exact e
   ·rcases List.mem_cons.1 hy with e|hy
    ·exact e.symm
    ·have:=hl.1 y hy
     have:=hm.1 x hx
     omega
  subst e
  rw[k6t l m ((List.perm_cons x).1 h) hl.2 hm.2]
def SortedTo (g:List Int) (i:Nat):Prop:=∀a b:Nat,a<b->b<i->g[a]?.getD 0<=g[b]?.getD 0
def SortedBut (g:List Int) (i j:Nat):Prop:=∀a b:Nat,a<b->b<i->b≠j->g[a]?.getD 0<=g[b]?.getD 0
theorem SortedTo.all {g:List Int} (h:SortedTo g g.length):g.Pairwise (·<=·):=by
 rw[List.pairwise_iff_getElem]
 intro a b ha hb hab
 have:=h a b hab hb
 rwa [List.getElem?_eq_getElem ha,List.getElem?_eq_getElem hb]at this
theorem SortedBut.zero {g:List Int} {i:Nat} (h:SortedBut g i 0):SortedTo g i:=fun a b hab hb=>h a b hab hb (by omega)
theorem k6e (d:Array Int) (a b k:Nat) (hb:b<=d.size) (hk:a+k<b):(d.extract a b).toList[k]? =some d[a+k]! :=by
 rw[Sort.extract_toList d a b hb,List.getElem?_map,List.getElem?_range' (by omega)]
 simp
theorem k9i {d:Array Int} {a b:Nat} (hb:b<=d.size) (h:Sort.SortedIn Sort.ltInt a b d):(d.extract a b).toList.Pairwise (·<=·):=by
 rw[List.pairwise_iff_getElem]
 intro i j hi hj hij
 have hl:(d.extract a b).toList.length=b-a:=by simp;omega
 have e1:=k6e d a b i hb (by omega)
 have e2:=k6e d a b j hb (by omega)
 rw[List.getElem?_eq_getElem hi]at e1
 rw[List.getElem?_eq_getElem hj]at e2
 rw[Option.some.inj e1,Option.some.inj e2]
 have:=h (a+i) (a+j) (by omega) (by omega) (by omega)
 rw[ltI_iff]at this
 have:=of_decide_eq_false this
 omega
theorem keu {d R R' :Array Int} {a b:Nat} (hb:b<=d.size) (h1:Sort.PermIn a b d R) (h2:Sort.SortedIn Sort.ltInt a b R) (h3:Sort.PermIn a b d R') (h4:Sort.SortedIn Sort.ltInt a b R'):R=R' :=by
 have e:=k6t _ _ (h1.2.2.trans h3.2.2.symm) (k9i (by rw[h1.1];exact hb) h2) (k9i (by rw[h3.1];exact hb) h4)
 refine Array.ext (by rw[h1.1,h3.1]) fun i hi hi' => ?_
 have q1:R[i]! =R[i]:=getElem!_pos R i hi
 have q2:R'[i]! =R'[i]:=getElem!_pos R' i hi'
 rw[<-q1,<-q2]
 by_cases hc:a<=i/\i<b
 ·have e1:=k6e R a b (i-a) (by rw[h1.1];exact hb) (by omega)
  have e2:=k6e R' a b (i-a) (by rw[h3.1];exact hb) (by omega)
  rw[e,e2,show a+(i-a)=i by omega]at e1
  exact(Option.some.inj e1).symm
 ·rw[h1.2.1 i (by omega),h3.2.1 i (by omega)]
theorem k3k {g:List Int} {a b:Int} (h0:0<=a) (h1:a<=b) (h2:b<=g.length):Sort.PermIn a.toNat b.toNat g.toArray (insS g a b).toArray/\Sort.SortedIn Sort.ltInt a.toNat b.toNat (insS g a b).toArray:=by
 have:=Sort.insertionSort_holds (lt:=Sort.ltInt) Sort.swo_ltInt g.toArray a.toNat b.toNat (by omega) (by simp;omega)
 unfold insS
 simpa using this
theorem kip {g:List Int} {a b:Int} (h0:0<=a) (h1:a<=b) (h2:b<=g.length):Sort.PermIn a.toNat b.toNat g.toArray (heapS g a b).toArray/\Sort.SortedIn Sort.ltInt a.toNat b.toNat (heapS g a b).toArray:=by
 have:=Sort.heapSort_holds (lt:=Sort.ltInt) Sort.swo_ltInt g.toArray a.toNat b.toNat (by omega) (by simp;omega)
 unfold heapS
 simpa using this
structure PdqI (R0:Array Int) (n:Nat) (a b:Int) (g:List Int):Prop where
 a0:0<=a
 ab:a<=b
 bl:b<=g.length
 n:g.length=n
 be:Sort.Below Sort.ltInt a.toNat b.toNat g.toArray
 u:∀R,Sort.PermIn a.toNat b.toNat g.toArray R->Sort.SortedIn Sort.ltInt a.toNat b.toNat R->R=R0
theorem PdqI.ins {R0:Array Int} {n:Nat} {a b:Int} {g:List Int} (h:PdqI R0 n a b g):insS g a b=R0.toList:=by
 obtain⟨h1,h2⟩:=k3k h.a0 h.ab h.bl
 rw[<-h.u _ h1 h2]
theorem PdqI.heap {R0:Array Int} {n:Nat} {a b:Int} {g:List Int} (h:PdqI R0 n a b g):heapS g a b=R0.toList:=by
 obtain⟨h1,h2⟩:=kip h.a0 h.ab h.bl
 rw[<-h.u _ h1 h2]
theorem PdqI.part {R0:Array Int} {n:Nat} {a b p:Int} {g:List Int} (h:PdqI R0 n a b g) (h1:a<=p) (h2:p<b):a<=(partS g a b p).1/\(partS g a b p).1<b/\(partS g a b p).2.2.size=n/\
  Sort.Below Sort.ltInt a.toNat (partS g a b p).1 (partS g a b p).2.2/\Sort.Below Sort.ltInt ((partS g a b p).1+1) b.toNat (partS g a b p).2.2/\
  PdqI R0 n ((partS g a b p).1+1) b (insS (partS g a b p).2.2.toList a (partS g a b p).1)/\PdqI R0 n a (partS g a b p).1 (insS (partS g a b p).2.2.toList ((partS g a b p).1+1) b):=by
 have h3:=h.bl
 have h0:=h.a0
 obtain⟨q1,q2,q3,q4,q5,q6,q7⟩:=Sort.round_part (lt:=Sort.ltInt) (d3:=g.toArray) (d4:=(partS g a b p).2.2) (a:=a.toNat) (b:=b.toNat) (pivot:=p.toNat) (mid:=(partS g a b p).1) (ap:=(partS g a b p).2.1) Sort.swo_ltInt (Sort.partition_holds Sort.ltInt) (by omega) (by omega) (by simp;omega) h.be rfl
 simp at q3
 have hn:=h.n
 generalize partS g a b p=P at *
 obtain⟨m,ap,d⟩:=P
 dsimp only at *
 have l1:=k3k (g:=d.toList) (a:=a) (b:=m) h0 (by omega) (by simp;omega)
 have l2:=k3k (g:=d.toList) (a:=(m:Int)+1) (b:=b) (by omega) (by omega) (by simp;omega)
 simp only[Array.toArray_toList,Int.toNat_natCast]at l1 l2
 rw[show((m:Int)+1).toNat=m+1 by omega]at l2
 have n1:(insS d.toList a m).length=d.toList.length:=ki1 h0 (by omega) (by simp;omega)
 have n2:(insS d.toList ((m:Int)+1) b).length=d.toList.length:=ki1 (by omega) (by omega) (by simp;omega)
 simp at n1 n2
 obtain⟨w1,w2⟩:=q6 _ l1.1 l1.2
 obtain⟨w3,w4⟩:=q7 _ l2.1 l2.2
 refine⟨by omega,by omega,by omega,q4,q5,⟨by omega,by omega,by omega,by omega,by rw[show((m:Int)+1).toNat=m+1 by omega];exact w1,fun R r1 r2=> ?_⟩,⟨h0,by omega,by omega,by omega,by simpa using w3,fun R r1 r2=> ?_⟩⟩
 ·rw[show((m:Int)+1).toNat=m+1 by omega]at r1 r2
  obtain⟨s1,s2⟩:=w2 R r1 r2
  exact h.u R s1 s2
 ·simp only[Int.toNat_natCast]at r1 r2
  obtain⟨s1,s2⟩:=w4 R r1 r2
  exact h.u R s1 s2
theorem PdqI.start {g:List Int} {a b:Int} (h0:0<=a) (h1:a<=b) (h2:b<=g.length) (hB:Sort.Below Sort.ltInt a.toNat b.toNat g.toArray):PdqI (insS g a b).toArray g.length a b g:=by
 obtain⟨q1,q2⟩:=k3k h0 h1 h2
 exact⟨h0,h1,h2,rfl,hB,fun R r1 r2=>keu (by simp;omega) r1 r2 q1 q2⟩
def lb (l:List wA) (t:Int):Nat:=(l.takeWhile (fun a=>decide (a.ID<t))).length
def fnd (l:List wA) (t:Int):Bool:=match l[lb l t]? with
 |some a=>decide (a.ID=t)
 |none=>false
def Srt (l:List wA):Prop:=∀i j (_:i<j) (hj:j<l.length),l[i].ID<l[j].ID
theorem lb_eq (l:List wA) (t:Int) (i:Nat) (hi:i<=l.length) (h1:∀k (h:k<l.length),k<i->l[k].ID<t) (h2:∀h:i<l.length,t<=l[i].ID):lb l t=i:=by
 unfold lb
 induction l generalizing i with
 |nil=>simp at hi;simp[hi]
 |cons a l ih=>
  cases i with
  |zero=>
   have:=h2 (by simp)
   simp at this
   rw[List.takeWhile_cons,if_neg (by simp;omega)]
   rfl
  |succ i=>
   have h0:=h1 0 (by simp) (by omega)
   simp at h0
   rw[List.takeWhile_cons,if_pos (by simpa using h0),List.length_cons,ih i (by simpa using hi) (fun k h hk=>by have:=h1 (k+1) (by simpa using h) (by omega);simpa using this) (fun h=>by have:=h2 (by simpa using h);simpa using this)]
theorem lb_le (l:List wA) (t:Int):lb l t<=l.length:=(List.takeWhile_sublist _).length_le
theorem lb_spec (l:List wA) (t:Int):(∀k (h:k<l.length),k<lb l t->l[k].ID<t)/\∀h:lb l t<l.length,t<=l[lb l t].ID:=by
 unfold lb
 induction l with
 |nil=>exact⟨fun k h=>absurd h (by simp),fun h=>absurd h (by simp)⟩
 |cons a l ih=>
  by_cases ha:a.ID<t
  ·simp only[List.takeWhile_cons,ha,decide_true,if_true,List.length_cons]
   refine⟨fun k h hk=> ?_,fun h=> ?_⟩
   ·cases k with
    |zero=>exact ha
    |succ k=>simpa using ih.1 k (by simpa using h) (by simpa using hk)
   ·simpa using ih.2 (by simpa using h)
  ·simp only[List.takeWhile_cons,ha,decide_false,Bool.false_eq_true,if_false,List.length_nil]
   exact⟨fun k h hk=>absurd hk (Nat.not_lt_zero _),fun h=>by simpa using ha⟩
theorem k48 {l:List wA} {t:Int} (h:fnd l t=true):∃hl:lb l t<l.length,l[lb l t].ID=t:=by
 unfold fnd at h
 split at h
 ·rename_i a ha
  obtain⟨h1,h2⟩:=List.getElem?_eq_some_iff.1 ha
  exact⟨h1,by rw[h2];simpa using h⟩
 ·cases h
def getA (l:List wA) (t:Int):wA:=match l.find? (fun a=>decide (a.ID=t))with
 |some a=>a
 |none=>⟨t,0,0⟩
theorem getA_of {l:List wA} {t:Int} (hs:Srt l) (h:fnd l t=true) (hl:lb l t<l.length):getA l t=l[lb l t]:=by
 obtain⟨_,he⟩:=k48 h
 unfold getA
 have:l.find? (fun a=>decide (a.ID=t))=some l[lb l t]:=by
  rw[List.find?_eq_some_iff_getElem]
  refine⟨by simpa using he,lb l t,hl,rfl,fun j hj=> ?_⟩
  have:=(lb_spec l t).1 j (by omega) hj
  simp;omega
 rw[this]
theorem getA_no {l:List wA} {t:Int} (hs:Srt l) (h:fnd l t=false):getA l t=⟨t,0,0⟩:=by
 unfold getA
 have:l.find? (fun a=>decide (a.ID=t))=none:=by
  rw[List.find?_eq_none]
  intro a ha hat
  simp only[decide_eq_true_eq]at hat
  obtain⟨k,hk,rfl⟩:=List.getElem_of_mem ha
  obtain⟨g1,g2⟩:=lb_spec l t
  rcases Nat.lt_or_ge k (lb l t)with h1|h1
  ·have:=g1 k hk h1;omega
  ·have h2:lb l t<l.length:=by omega
   have h3:=g2 h2
   have h4:l[lb l t].ID≠t:=by
    intro he
    have:fnd l t=true:=by unfold fnd;rw[List.getElem?_eq_getElem h2];simpa using he
    rw[h]at this;cases this
   rcases Nat.lt_or_ge (lb l t) k with h5|h5
   ·have:=hs _ _ h5 hk;omega
   ·have:k=lb l t:=by omega
    subst this;omega
 rw[this]
def AccOk (a:wA):Prop:=(0<=a.ID/\a.ID<18446744069414584321)/\(0<=a.wU/\a.wU<=9223372036854775807)/\0<=a.wX/\a.wX<18446744073709551616
def OkA (l:List wA):Prop:=Srt l/\l.length<=1000/\∀a∈l,AccOk a
theorem getA_ok {l:List wA} (h:OkA l) (t:Int):(0<=(getA l t).wU/\(getA l t).wU<=9223372036854775807)/\0<=(getA l t).wX/\(getA l t).wX<18446744073709551616:=by
 unfold getA
 split
 ·rename_i a ha
  exact(h.2.2 a (List.mem_of_find?_eq_some ha)).2
 ·simp
def putA (l:List wA) (a:wA):List wA:=l.take (lb l a.ID)++(if a.wU≠0∨a.wX≠0 then [a]else [])++l.drop (lb l a.ID+if fnd l a.ID then 1 else 0)
def creditA (l:List wA) (id amt:Int):List wA×Int:=
 if 9223372036854775807-(getA l id).wU<amt then([],1)else(putA l ⟨id,(getA l id).wU+amt,(getA l id).wX⟩,0)
def debitA (l:List wA) (id amt non:Int):List wA×Int:=
 if amt=0 then([],1)else if non≠(getA l id).wX∨non=18446744073709551615 then([],20)else if(getA l id).wU<amt then([],15)else(putA l ⟨id,(getA l id).wU-amt,non+1⟩,0)
theorem tail_eq {l:List wA} (hs:Srt l) (t:Int):l.filter (fun x=>decide (t<x.ID))=l.drop (lb l t+if fnd l t then 1 else 0):=by
 obtain⟨g1,g2⟩:=lb_spec l t
 have key:∀(i:Nat),(∀k (h:k<l.length),k<i->l[k].ID<=t)->(∀k (h:k<l.length),i<=k->t<l[k].ID)->l.filter (fun x=>decide (t<x.ID))=l.drop i:=by
  intro i h1 h2
  rw[<-List.take_append_drop i l,List.filter_append,List.take_append_drop]
  have e1:(l.take i).filter (fun x=>decide (t<x.ID))=[]:=by
   rw[List.filter_eq_nil_iff]
   intro x hx
   obtain⟨k,hk,rfl⟩:=List.getElem_of_mem hx
   rw[List.length_take]at hk
   have:=h1 k (by omega) (by omega)
   rw[List.getElem_take]
   simp;omega
  have e2:(l.drop i).filter (fun x=>decide (t<x.ID))=l.drop i:=by
   rw[List.filter_eq_self]
   intro x hx
   obtain⟨k,hk,rfl⟩:=List.getElem_of_mem hx
   rw[List.length_drop]at hk
   have:=h2 (i+k) (by omega) (by omega)
   rw[List.getElem_drop]
   simp;omega
  rw[e1,e2,List.nil_append]
 apply key
 ·intro k h hk
  split at hk
  ·rename_i hf
   obtain⟨h1,h2⟩:=k48 hf
   rcases Nat.lt_or_ge k (lb l t)with h3|h3
   ·have:=g1 k h h3;omega
   ·have:k=lb l t:=by omega
    subst this;omega
  ·have:=g1 k h (by omega);omega
 ·intro k h hk
  split at hk
  ·rename_i hf
   obtain⟨h1,h2⟩:=k48 hf
   have:=hs (lb l t) k (by omega) h
   omega
  ·rename_i hf
   have h1:lb l t<l.length:=by omega
   have h2:=g2 h1
   have h3:l[lb l t].ID≠t:=by
    intro he
    apply hf
    unfold fnd;rw[List.getElem?_eq_getElem h1];simpa using he
   rcases Nat.lt_or_ge (lb l t) k with h5|h5
   ·have:=hs _ _ h5 h;omega
   ·have:k=lb l t:=by omega
    subst this;omega
theorem inc_i64 (i:Nat) (h:i<4611686018427387904):i64.wrap ((i:Int)+1)=((i+1:Nat):Int):=by rw[k15 _ (by omega) (by omega)];omega
theorem mid_eq (i j:Nat) (h:i+j<9223372036854775808):i64.wrap (ishr .u64 (u64.wrap (i64.wrap (↑i+↑j))) 1)=(((i+j)/2:Nat):Int):=by
 have e1:i64.wrap ((i:Int)+j)=(i:Int)+j:=k15 _ (by omega) (by omega)
 have e2:u64.wrap ((i:Int)+j)=(i:Int)+j:=wrap_u64 _ (by omega) (by omega)
 have e:(2:Int)^min (1:Int).toNat u64.bits=2:=rfl
 have e3:((i:Int)+j).fdiv 2=((i:Int)+j)/2:=Int.fdiv_eq_ediv_of_nonneg _ (by omega)
 unfold ishr
 rw[e1,e2,e,e3,k15 _ (by omega) (by omega)]
 omega
def cmp3 (a b:Int):Int:=if a<b then -1 else if b<a then 1 else 0
theorem cmp3_lt {a b:Int}:(cmp3 a b<0)↔a<b:=by unfold cmp3;split<;>(try split)<;>omega
theorem cmp3_eq {a b:Int}:(cmp3 a b=0)↔a=b:=by unfold cmp3;split<;>(try split)<;>omega
theorem put_len (l:List wA) (a:wA):(putA l a).length<=l.length+1:=by
 have:=lb_le l a.ID
 unfold putA
 simp only[List.length_append,List.length_take,List.length_drop]
 split<;>simp<;>omega
theorem ok_nil:OkA []:=⟨fun i j _ h=>by simp at h,by simp,by simp⟩
theorem srt_pw {l:List wA}:Srt l↔l.Pairwise (fun a b=>a.ID<b.ID):=by
 rw[List.pairwise_iff_getElem]
 exact⟨fun h i j hi hj hij=>h i j hij hj,fun h i j hij hj=>h i j (by omega) hj hij⟩
def Mid (id:Int) (m:List wA):Prop:=m=[]∨∃x:wA,m=[x]/\x.ID=id
def Spl (l:List wA) (id:Int) (a m b:List wA):Prop:=l=a++(m++b)/\(∀x∈a,x.ID<id)/\Mid id m/\∀x∈b,id<x.ID
theorem spl_of {l:List wA} (hs:Srt l) (id:Int):∃a m b,Spl l id a m b:=by
 rw[srt_pw]at hs
 induction l with
 |nil=>exact⟨[],[],[],rfl,by simp,.inl rfl,by simp⟩
 |cons x r ih=>
  obtain⟨h1,h2⟩:=List.pairwise_cons.1 hs
  by_cases hx:x.ID<id
  ·obtain⟨a,m,b,rfl,g1,g2,g3⟩:=ih h2
   refine⟨x::a,m,b,rfl,?_,g2,g3⟩
   intro y hy
   rcases List.mem_cons.1 hy with rfl|hy
   ·exact hx
   ·exact g1 y hy
  ·by_cases he:x.ID=id
   ·exact⟨[],[x],r,rfl,by simp,.inr ⟨x,rfl,he⟩,fun y hy=>by have:=h1 y hy;omega⟩
   ·refine⟨[],[],x::r,rfl,by simp,.inl rfl,?_⟩
    intro y hy
    rcases List.mem_cons.1 hy with rfl|hy
    ·omega
    ·have:=h1 y hy;omega
theorem take_lb (l:List wA) (t:Int):l.take (lb l t)=l.takeWhile (fun a=>decide (a.ID<t)):=(List.prefix_iff_eq_take.1 (List.takeWhile_prefix _)).symm
theorem put_spl {l a m b:List wA} {x:wA} (hs:Srt l) (h:Spl l x.ID a m b):putA l x=a++((if x.wU≠0∨x.wX≠0 then [x]else [])++b):=by
 obtain⟨rfl,h1,h2,h3⟩:=h
 unfold putA
 rw[<-tail_eq hs,take_lb,List.append_assoc]
 have e1:(a++(m++b)).takeWhile (fun y=>decide (y.ID<x.ID))=a:=by
  rw[List.takeWhile_append_of_pos (by intro y hy;simpa using h1 y hy)]
  have:(m++b).takeWhile (fun y=>decide (y.ID<x.ID))=[]:=by
   rcases h2 with rfl|⟨y,rfl,hy⟩
   ·cases b with
    |nil=>rfl
    |cons y b=>rw[List.nil_append,List.takeWhile_cons,if_neg];have:=h3 y (by simp);simp;omega
   ·rw[List.cons_append,List.takeWhile_cons,if_neg];simp;omega
  rw[this,List.append_nil]
 have e2:(a++(m++b)).filter (fun y=>decide (x.ID<y.ID))=b:=by
  rw[List.filter_append,List.filter_append]
  have f1:a.filter (fun y=>decide (x.ID<y.ID))=[]:=by
   rw[List.filter_eq_nil_iff];intro y hy;have:=h1 y hy;simp;omega
  have f2:m.filter (fun y=>decide (x.ID<y.ID))=[]:=by
   rw[List.filter_eq_nil_iff];intro y hy
   rcases h2 with rfl|⟨z,rfl,hz⟩
   ·simp at hy
   ·simp at hy;subst hy;simp;omega
  have f3:b.filter (fun y=>decide (x.ID<y.ID))=b:=by
   rw[List.filter_eq_self];intro y hy;have:=h3 y hy;simpa using this
  rw[f1,f2,f3];rfl
 rw[e1,e2]
theorem get_spl {l a m b:List wA} {id:Int} (h:Spl l id a m b):getA l id=m.headD ⟨id,0,0⟩:=by
 obtain⟨rfl,h1,h2,h3⟩:=h
 unfold getA
 have f1:a.find? (fun y=>decide (y.ID=id))=none:=by
  rw[List.find?_eq_none];intro y hy;have:=h1 y hy;simp;omega
 have f3:b.find? (fun y=>decide (y.ID=id))=none:=by
  rw[List.find?_eq_none];intro y hy;have:=h3 y hy;simp;omega
 rw[List.find?_append,List.find?_append,f1,f3]
 rcases h2 with rfl|⟨x,rfl,hx⟩
 ·rfl
 ·simp[hx]
theorem srt_spl {a m b:List wA} {id:Int} {l:List wA} (hs:Srt l) (h:Spl l id a m b) {m' :List wA} (hm:Mid id m'):Srt (a++(m' ++b)):=by
 obtain⟨rfl,h1,h2,h3⟩:=h
 rw[srt_pw]at hs ⊢
 rw[List.pairwise_append]at hs ⊢
 obtain⟨k1,k2,k3⟩:=hs
 rw[List.pairwise_append]at k2 ⊢
 obtain⟨_,k4,_⟩:=k2
 refine⟨k1,⟨?_,k4,?_⟩,?_⟩
 ·rcases hm with rfl|⟨x,rfl,_⟩<;>simp
 ·intro x hx y hy
  rcases hm with rfl|⟨z,rfl,hz⟩
  ·simp at hx
  ·simp at hx;subst hx;have:=h3 y hy;omega
 ·intro x hx y hy
  have h4:=h1 x hx
  rcases List.mem_append.1 hy with hy|hy
  ·rcases hm with rfl|⟨z,rfl,hz⟩
   ·simp at hy
   ·simp at hy;subst hy;omega
  ·have:=h3 y hy;omega
theorem mid_put (x:wA):Mid x.ID (if x.wU≠0∨x.wX≠0 then [x]else []):=by
 split
 ·exact .inr ⟨x,rfl,rfl⟩
 ·exact .inl rfl
theorem put_ok {l:List wA} {x:wA} (h:OkA l) (hl:l.length<=999) (hx:AccOk x):OkA (putA l x):=by
 obtain⟨a,m,b,hS⟩:=spl_of h.1 x.ID
 refine⟨?_,by have:=put_len l x;omega,?_⟩
 ·rw[put_spl h.1 hS]
  exact srt_spl h.1 hS (mid_put x)
 ·rw[put_spl h.1 hS]
  intro y hy
  obtain⟨rfl,_,_,_⟩:=hS
  simp only[List.mem_append]at hy
  rcases hy with hy|hy|hy
  ·exact h.2.2 y (by simp[hy])
  ·split at hy
   ·simp at hy;subst hy;exact hx
   ·simp at hy
  ·exact h.2.2 y (by simp[hy])
def Nz (l:List wA):Prop:=∀a∈l,a.wU≠0∨a.wX≠0
def GoodA (n:Nat) (l:List wA):Prop:=OkA l/\Nz l/\l.length<=n
theorem k3x (n:Nat):GoodA n []:=⟨ok_nil,by simp[Nz],by simp⟩
theorem khy {l:List wA} {x:wA} {n:Nat} (h:GoodA n l) (hn:n<=900) (hx:AccOk x):GoodA (n+1) (putA l x):=by
 obtain⟨h1,h2,h3⟩:=h
 refine⟨put_ok h1 (by omega) hx,?_,by have:=put_len l x;omega⟩
 obtain⟨a,m,b,hS⟩:=spl_of h1.1 x.ID
 rw[put_spl h1.1 hS]
 obtain⟨rfl,_,_,_⟩:=hS
 intro y hy
 simp only[List.mem_append]at hy
 rcases hy with hy|hy|hy
 ·exact h2 y (by simp[hy])
 ·split at hy
  ·rename_i hz;simp at hy;subst hy;exact hz
  ·simp at hy
 ·exact h2 y (by simp[hy])
theorem k9b {l:List wA} {n:Nat} {id amt:Int} (h:GoodA n l) (hn:n<=900) (hid:0<=id/\id<18446744069414584321) (ha:0<=amt):GoodA (n+1) (creditA l id amt).1:=by
 obtain⟨g1,g2⟩:=getA_ok h.1 id
 unfold creditA
 split
 ·exact k3x _
 ·exact khy h hn ⟨hid,by simp only;omega,g2⟩
theorem kbn {l:List wA} {n:Nat} {id amt non:Int} (h:GoodA n l) (hn:n<=900) (hid:0<=id/\id<18446744069414584321) (ha:0<=amt) (hN:0<=non/\non<18446744073709551616):GoodA (n+1) (debitA l id amt non).1:=by
 obtain⟨g1,g2⟩:=getA_ok h.1 id
 unfold debitA
 split
 ·exact k3x _
 ·split
  ·exact k3x _
  ·split
   ·exact k3x _
   ·rename_i h1 _
    have:non≠18446744073709551615:=fun e=>h1 (.inr e)
    exact khy h hn ⟨hid,by simp only;omega,by simp only;omega⟩
def totA:Int->List wA->Int×Int
 |s,[]=>(s,0)
 |s,a::r=>if 18446744073709551616<=s+a.wU then(0,3)else totA (s+a.wU) r
theorem kma (s:Int) (l:List wA) (i:Nat) (h:i<l.length):totA s (l.drop i)=if 18446744073709551616<=s+l[i].wU then(0,3)else totA (s+l[i].wU) (l.drop (i+1)):=by
 rw[List.drop_eq_getElem_cons h]
 rfl
theorem len24 {α:Type} (m:List α) (x:α) (h:m.length<=90000):(m.length+[x].length)*24<=140737488355328/\m.length+[x].length<=maxLen:=by
 simp only[List.length_cons,List.length_nil]
 unfold maxLen
 omega
def nd (a b:Int):Int:=hashS 6 [a,b]
def emp:Nat->Int
 |0=>hashS 6 []
 |i+1=>nd (emp i) (emp i)
theorem emp_u (i:Nat):U64 (emp i):=by cases i<;>exact kr _ _
theorem emp_lt (i:Nat):emp i<18446744069414584321:=by cases i<;>exact k3w _ _
theorem gD_lt {l:List Int} {i:Nat} {z:Int} (h:i<l.length):l.getD i z=l[i]:=by simp[h]
theorem gD_ge {l:List Int} {i:Nat} {z:Int} (h:l.length<=i):l.getD i z=z:=by simp[h]
def lf (l:List Int) (p:Nat):Int:=l.getD p (emp 0)
def TT (f:Nat->Int):Nat->Nat->Int
 |0,k=>f k
 |i+1,k=>nd (TT f i (2*k)) (TT f i (2*k+1))
theorem k9x {f g:Nat->Int}:∀(i k:Nat),(∀p,k*2^i<=p->p<(k+1)*2^i->f p=g p)->TT f i k=TT g i k
 |0,k,h=>h k (by simp) (by simp)
 |i+1,k,h=>by
  have e:2^(i+1)=2*2^i:=by rw[Nat.pow_succ];omega
  rw[e]at h
  have e1:k*(2*2^i)=2*k*2^i:=by rw[<-Nat.mul_assoc,Nat.mul_comm k 2]
  have e2:(k+1)*(2*2^i)=(2*k+1+1)*2^i:=by rw[<-Nat.mul_assoc];congr 1;omega
  have e3:(2*k+1)*2^i=2*k*2^i+2^i:=by rw[Nat.add_mul,Nat.one_mul]
  have e4:(2*k+1+1)*2^i=(2*k+1)*2^i+2^i:=by rw[Nat.add_mul (2*k+1),Nat.one_mul]
  simp only[TT]
  rw[k9x i (2*k) fun p h1 h2=>h p (by omega) (by omega),k9x i (2*k+1) fun p h1 h2=>h p (by omega) (by omega)]
theorem TT_emp {l:List Int}:∀(i k:Nat),l.length<=k*2^i->TT (lf l) i k=emp i
 |0,k,h=>by simp only[TT,lf];rw[gD_ge (by simpa using h)]
 |i+1,k,h=>by
  have e1:k*2^(i+1)=2*k*2^i:=by rw[Nat.pow_succ,Nat.mul_comm (2^i) 2,<-Nat.mul_assoc,Nat.mul_comm k 2]
  have e3:(2*k+1)*2^i=2*k*2^i+2^i:=by rw[Nat.add_mul,Nat.one_mul]
  have:=Nat.two_pow_pos i
  simp only[TT,emp]
  rw[TT_emp i (2*k) (by omega),TT_emp i (2*k+1) (by omega)]
theorem TT_r {l:List Int} (hl:∀x∈l,0<=x/\x<18446744069414584321):∀(i k:Nat),0<=TT (lf l) i k/\TT (lf l) i k<18446744069414584321
 |0,k=>by
  simp only[TT,lf]
  by_cases h:k<l.length
  ·rw[gD_lt h];exact hl _ (List.getElem_mem h)
  ·rw[gD_ge (by omega)];exact⟨(emp_u 0).1,emp_lt 0⟩
 |i+1,k=>⟨(kr _ _).1,k3w _ _⟩
def bitN (n i:Nat):Bool:=n/2^i%2==1
def leftS (d:Nat) (l:List Int):List Int:=(List.range (d+1)).map fun i=>if bitN l.length i then TT (lf l) i (l.length/2^i-1)else 0
def frF (d:Int) (l:List Int):wF:=⟨d,l.length,leftS d.toNat l⟩
theorem k1j (d:Nat) (l:List Int):(leftS d l).length=d+1:=by simp[leftS]
theorem k2h (d:Nat) (l:List Int) (i:Nat) (h:i<(leftS d l).length):(leftS d l)[i]=if bitN l.length i then TT (lf l) i (l.length/2^i-1)else 0:=by simp[leftS]
structure FV (f:wF):Prop where
 d1:1<=f.wC
 d2:f.wC<=12
 c0:0<=f.wa
 c1:f.wa<=((2^f.wC.toNat:Nat):Int)
 ll:f.wh.length=f.wC.toNat+1
 u:∀x∈f.wh,0<=x/\x<18446744069414584321
 z:∀(i:Nat) (h:i<f.wh.length),bitN f.wa.toNat i=false->f.wh[i]=0
theorem frF_FV {d:Int} {l:List Int} (h1:1<=d) (h2:d<=12) (hl:l.length<=2^d.toNat) (hu:∀x∈l,0<=x/\x<18446744069414584321):FV (frF d l):=by
 refine⟨h1,h2,by simp[frF],by simp only[frF];omega,k1j _ _,fun x hx=> ?_,fun i h hb=> ?_⟩
 ·simp only[frF,leftS,List.mem_map]at hx
  obtain⟨i,_,rfl⟩:=hx
  split
  ·exact TT_r hu _ _
  ·decide
 ·show(leftS d.toNat l)[i]=0
  have hb:bitN l.length i=false:=by simpa[frF]using hb
  exact(k2h d.toNat l i h).trans (by rw[hb];rfl)
theorem shl1 (d:Nat) (h:d<=12):ishl .i64 1 (d:Int)=((2^d:Nat):Int):=by
 have:∀d∈List.range 13,ishl .i64 1 (d:Int)=((2^d:Nat):Int):=by decide
 exact this d (by simp;omega)
theorem pow12 (d:Nat) (h:d<=12):2^d<=4096:=by
 have:2^d<=2^12:=Nat.pow_le_pow_right (by decide) h
 omega
theorem bit1 (n i:Nat) (hn:n<=4096) (hi:i<=20):iand .i64 (ishr .i64 (n:Int) (i:Int)) 1=((n/2^i%2:Nat):Int):=by
 have e:min ((i:Int).toNat) i64.bits=i:=by
  rw[Int.toNat_natCast]
  exact Nat.min_eq_left (Nat.le_trans hi (by decide))
 have e2:ishr .i64 (n:Int) (i:Int)=((n/2^i:Nat):Int):=by
  rw[k1n,e]
  simp
 have:=Nat.div_le_self n (2^i)
 rw[e2]
 generalize n/2^i=q at *
 rw[k45 _ (by omega)]
 omega
def carry:Nat->Nat->List Int->Int->Nat->List Int
 |0,lv,L,x,_=>L.set lv x
 |k+1,lv,L,x,n=>if bitN n lv then carry k (lv+1) (L.set lv 0) (nd (ix L (lv:Int)) x) n else L.set lv x
def apF (f:wF) (x:Int):wF:=⟨f.wC,f.wa+1,carry (f.wC.toNat+1) 0 f.wh x f.wa.toNat⟩
theorem k1c (n i:Nat):n/2^(i+1)=n/2^i/2:=by rw[Nat.pow_succ,Nat.div_div_eq_div_mul]
theorem kjb {n d:Nat} (h:n<2^d):bitN n d=false:=by
 unfold bitN
 rw[Nat.div_eq_of_lt h]
 rfl
theorem succ_hi {n i:Nat} (h:bitN n i=true) (hq:(n+1)/2^i=n/2^i+1):(n+1)/2^(i+1)=n/2^(i+1)+1:=by
 have h:n/2^i%2=1:=by simpa[bitN]using h
 rw[k1c,k1c,hq]
 omega
theorem succ_lo {n i:Nat} (h:bitN n i=false) (hq:(n+1)/2^i=n/2^i+1):∀j,i<j->(n+1)/2^j=n/2^j:=by
 have h:¬n/2^i%2=1:=by simpa[bitN]using h
 intro j
 induction j with
 |zero=>intro hj;omega
 |succ j ih=>
  intro hj
  rcases Nat.lt_or_ge i j with h1|h1
  ·rw[k1c,k1c,ih h1]
  ·have:j=i:=by omega
   subst this
   rw[k1c,k1c,hq]
   omega
theorem TT_app {l:List Int} {x:Int} {i k:Nat} (h:(k+1)*2^i<=l.length):TT (lf (l++[x])) i k=TT (lf l) i k:=by
 refine k9x i k fun p _ h2=> ?_
 unfold lf
 rw[List.getD_eq_getElem?_getD,List.getD_eq_getElem?_getD,List.getElem?_append_left (by omega)]
theorem kg9 (d:Nat) (l:List Int) (x:Int) (hn:l.length<2^d):∀(k lv:Nat) (L:List Int) (y:Int),lv+k=d+1->L.length=d+1->
  (l.length+1)/2^lv=l.length/2^lv+1->y=TT (lf (l++[x])) lv (l.length/2^lv)->
  (∀(i:Nat) (h:i<L.length),L[i]=if i<lv then 0 else(leftS d l).getD i 0)->(∀i,i<lv->bitN (l.length+1) i=false)->carry k lv L y l.length=leftS d (l++[x])
 |0,lv,L,y,hk,hL,hq,hy,hg,hb=>by
  exfalso
  have hlv:lv=d+1:=by omega
  subst hlv
  have hp:2^(d+1)=2*2^d:=by rw[Nat.pow_succ];omega
  have h1:1<=2^d:=Nat.two_pow_pos d
  rw[hp,Nat.div_eq_of_lt (by omega),Nat.div_eq_of_lt (by omega)]at hq
  omega
 |k+1,lv,L,y,hk,hL,hq,hy,hg,hb=>by
  unfold carry
  have hlv:lv<L.length:=by omega
  by_cases hbit:bitN l.length lv=true
  ·rw[if_pos hbit]
   have hodd:l.length/2^lv%2=1:=by simpa[bitN]using hbit
   have hleft:ix L (lv:Int)=TT (lf (l++[x])) lv (2*(l.length/2^(lv+1))):=by
    have h2:lv<(leftS d l).length:=by rw[k1j];omega
    rw[ix_get _ _ hlv,hg lv hlv,if_neg (by omega),gD_lt h2,k2h,if_pos hbit]
    have e:l.length/2^lv-1=2*(l.length/2^(lv+1)):=by rw[k1c];omega
    rw[e]
    refine(TT_app ?_).symm
    have:(2*(l.length/2^(lv+1))+1)=l.length/2^lv:=by rw[k1c];omega
    rw[this]
    exact Nat.div_mul_le_self _ _
   refine kg9 d l x hn k (lv+1) _ _ (by omega) (by simp[hL]) (succ_hi hbit hq) ?_ (fun i h=> ?_) (fun i hi=> ?_)
   ·simp only[TT]
    rw[hleft,hy]
    have:l.length/2^lv=2*(l.length/2^(lv+1))+1:=by rw[k1c];omega
    rw[<-this]
   ·rw[List.getElem_set]
    by_cases h1:lv=i
    ·rw[if_pos h1,if_pos (by omega)]
    ·rw[if_neg h1,hg i (by simpa using h)]
     by_cases h2:i<lv
     ·rw[if_pos h2,if_pos (by omega)]
     ·rw[if_neg h2,if_neg (by omega)]
   ·rcases Nat.lt_or_ge i lv with h1|h1
    ·exact hb i h1
    ·have:i=lv:=by omega
     subst this
     unfold bitN
     rw[hq]
     have:(l.length/2^i+1)%2=0:=by omega
     rw[this]
     rfl
  ·have hbit:bitN l.length lv=false:=by simpa using hbit
   rw[if_neg (by rw[hbit];decide)]
   have hev:¬l.length/2^lv%2=1:=by simpa[bitN]using hbit
   have hlo:=succ_lo hbit hq
   apply List.ext_getElem
   ·simp[k1j,hL]
   ·intro i h1 h2
    rw[k2h,List.getElem_set,List.length_append,List.length_singleton]
    have hi:i<L.length:=by simpa using h1
    by_cases h3:lv=i
    ·subst h3
     rw[if_pos rfl,hy]
     have:bitN (l.length+1) lv=true:=by unfold bitN;rw[hq];simp;omega
     rw[if_pos this,hq]
     rfl
    ·rw[if_neg h3,hg i hi]
     rcases Nat.lt_or_ge i lv with h4|h4
     ·rw[if_pos h4,hb i h4]
      rfl
     ·have h5:lv<i:=by omega
      have hs:i<(leftS d l).length:=by rw[k1j];omega
      rw[if_neg (by omega),gD_lt hs,k2h]
      have eb:bitN (l.length+1) i=bitN l.length i:=by unfold bitN;rw[hlo i h5]
      rw[eb,hlo i h5]
      by_cases hb2:bitN l.length i=true
      ·rw[if_pos hb2,if_pos hb2]
       refine(TT_app ?_).symm
       have ho:l.length/2^i%2=1:=by simpa[bitN]using hb2
       have:l.length/2^i-1+1=l.length/2^i:=Nat.sub_add_cancel (Nat.pos_of_ne_zero fun h=>by rw[h]at ho;cases ho)
       rw[this]
       exact Nat.div_mul_le_self _ _
      ·rw[if_neg hb2,if_neg hb2]
theorem apF_frF {d:Int} {l:List Int} {x:Int} (hn:l.length<2^d.toNat):apF (frF d l) x=frF d (l++[x]):=by
 have:=kg9 d.toNat l x hn (d.toNat+1) 0 (leftS d.toNat l) x (by omega) (k1j _ _) (by simp) (by simp[TT,lf]) (fun i h=>by
  rw[if_neg (by omega),gD_lt h]) (fun i hi=>by omega)
 unfold apF frF
 simp only[Int.toNat_natCast]
 rw[this]
 simp
def rootGo (f:wF):Nat->Nat->Int->Int->Int
 |0,_,_,x=>x
 |k+1,lv,e,x=>rootGo f k (lv+1) (nd e e) (if bitN f.wa.toNat lv then nd (ix f.wh (lv:Int)) x else nd x e)
def rootF (f:wF):Int:=if f.wa=((2^f.wC.toNat:Nat):Int)then ix f.wh f.wC else rootGo f f.wC.toNat 0 (emp 0) (emp 0)
theorem ke1 (d:Int) (l:List Int):∀(k lv:Nat) (x:Int),lv+k=d.toNat->x=TT (lf l) lv (l.length/2^lv)->rootGo (frF d l) k lv (emp lv) x=TT (lf l) (lv+k) (l.length/2^(lv+k))
 |0,lv,x,_,hx=>hx
 |k+1,lv,x,hk,hx=>by
  unfold rootGo
  rw[show lv+(k+1)=lv+1+k by omega]
  have hc:(frF d l).wa.toNat=l.length:=by simp[frF]
  rw[hc]
  refine ke1 d l k (lv+1) _ (by omega) ?_
  have hh:=k1c l.length lv
  simp only[TT]
  by_cases hb:bitN l.length lv=true
  ·have ho:l.length/2^lv%2=1:=by simpa[bitN]using hb
   have hs:lv<(leftS d.toNat l).length:=by rw[k1j];omega
   rw[if_pos hb,show(frF d l).wh=leftS d.toNat l from rfl,ix_get _ _ hs,k2h,if_pos hb,hx]
   have e1:l.length/2^lv-1=2*(l.length/2^(lv+1)):=by omega
   have e2:l.length/2^lv=2*(l.length/2^(lv+1))+1:=by omega
   rw[e1,<-e2]
  ·have ho:¬l.length/2^lv%2=1:=by simpa[bitN]using hb
   rw[if_neg hb,hx]
   have e2:l.length/2^lv=2*(l.length/2^(lv+1)):=by omega
   rw[<-e2]
   congr 1
   refine(TT_emp lv _ ?_).symm
   have:=Nat.lt_div_mul_add (a:=l.length) (b:=2^lv) (Nat.two_pow_pos lv)
   rw[Nat.add_mul,Nat.one_mul]
   omega
theorem kee {d:Int} {l:List Int} (h0:0<=d) (hn:l.length<=2^d.toNat):rootF (frF d l)=TT (lf l) d.toNat 0:=by
 unfold rootF
 by_cases hc:(frF d l).wa=((2^(frF d l).wC.toNat:Nat):Int)
 ·rw[if_pos hc]
  have hc:l.length=2^d.toNat:=by simp only[frF]at hc;omega
  have hs:d.toNat<(leftS d.toNat l).length:=by rw[k1j];omega
  have e:(frF d l).wC=(d.toNat:Int):=by simp only[frF];omega
  have e1:l.length/2^d.toNat=1:=by rw[hc];exact Nat.div_self (Nat.two_pow_pos _)
  have hb:bitN l.length d.toNat=true:=by unfold bitN;rw[e1];rfl
  rw[e,show(frF d l).wh=leftS d.toNat l from rfl,ix_get _ _ hs,k2h,if_pos hb,e1]
 ·rw[if_neg hc]
  have hc:l.length<2^d.toNat:=by simp only[frF]at hc;omega
  have:=ke1 d l d.toNat 0 (emp 0) (by omega) (by simp[TT,lf])
  rw[show(frF d l).wC=d from rfl,this,Nat.zero_add,Nat.div_eq_of_lt hc]
def trs (k:List Int):List Bool:=List.replicate k.length true
theorem k68 {m:Int}:∀{k:List Int},(mIdx (BEq.beq m) k).isSome=decide (m∈k)
 |[]=>rfl
 |x::r=>by
  unfold mIdx
  by_cases h:m=x
  ·subst h;simp
  ·have:BEq.beq m x=false:=by simpa using h
   rw[this,cond_false,Option.isSome_map,k68]
   simp[h]
theorem sVal (k:List Int) (m:Int):mVal (BEq.beq m) k (trs k) false=decide (m∈k):=by
 rw[<-k68]
 unfold mVal
 cases h:mIdx (BEq.beq m) k with
 |none=>rfl
 |some j=>simp[trs,mIdx_lt h]
theorem sPut {k:List Int} {m:Int} (h:m∉k):mPutK (BEq.beq m) k m=k++[m]/\mPutV (BEq.beq m) k (trs k) true=trs (k++[m]):=by
 have:mIdx (BEq.beq m) k=none:=by
  have:=k68 (m:=m) (k:=k)
  rw[decide_eq_false h]at this
  cases hq:mIdx (BEq.beq m) k with
  |none=>rfl
  |some j=>rw[hq]at this;cases this
 unfold mPutK mPutV
 rw[this]
 exact⟨rfl,by simp[trs,List.replicate_succ']⟩
theorem k6a {m:Int}:∀{k:List Int} {j:Nat},mIdx (BEq.beq m) k=some j->k.eraseIdx j=k.erase m
 |x::r,j,h=>by
  unfold mIdx at h
  by_cases e:m=x
  ·subst e
   simp at h
   subst h
   simp
  ·have e2:BEq.beq m x=false:=by simpa using e
   rw[e2,cond_false]at h
   cases hq:mIdx (BEq.beq m) r with
   |none=>rw[hq]at h;cases h
   |some i=>
    rw[hq]at h
    simp at h
    subst h
    rw[List.eraseIdx_cons_succ,k6a hq,List.erase_cons_tail (by simpa using fun h=>e h.symm)]
theorem sDel (k:List Int) (m:Int):mDelK (BEq.beq m) k=k.erase m/\mDelV (BEq.beq m) k (trs k)=trs (k.erase m):=by
 unfold mDelK mDelV
 cases h:mIdx (BEq.beq m) k with
 |none=>
  have h2:m∉k:=by
   have:=k68 (m:=m) (k:=k)
   rw[h]at this
   simpa using this.symm
  rw[List.erase_of_not_mem h2]
  exact⟨rfl,rfl⟩
 |some j=>
  refine⟨k6a h,?_⟩
  have hj:=mIdx_lt h
  rw[<-k6a h]
  unfold trs
  refine List.eq_replicate_iff.2 ⟨?_,fun b hb=> ?_⟩
  ·simp[List.length_eraseIdx]
  ·exact(List.eq_replicate_iff.1 rfl).2 b (List.mem_of_mem_eraseIdx hb)
def addS (l k:List Int):Int×List Int:=if(l.any fun m=>decide (m∈k))|| !decide l.Nodup then(12,k)else(0,k++l)
def remS (l k:List Int):Int×List Int:=if(l.any fun m=> !decide (m∈k))|| !decide l.Nodup then(4,k)else(0,l.foldl List.erase k)
theorem kkb {m:Int} {k r:List Int} (h:m∉k):(k++m::r).erase m=k++r:=by
 rw[List.erase_append_right _ h,List.erase_cons_head]
theorem rem_add:∀{l k:List Int},(k++l).Nodup->l.foldl List.erase (k++l)=k
 |[],k,_=>by simp
 |m::r,k,h=>by
  have h1:m∉k:=fun hm=>by
   rw[List.nodup_append]at h
   exact h.2.2 m hm m (by simp) rfl
  rw[List.foldl_cons,kkb h1]
  refine rem_add ?_
  rw[List.nodup_append]at h ⊢
  refine⟨h.1,(List.nodup_cons.1 h.2.1).2,fun a ha b hb=>h.2.2 a ha b (by simp[hb])⟩
def pws (n:Nat) (z b:Int):Bool:=(List.range n).any fun j=>b==z*((2^j:Nat):Int)
def prS (p:wAb):Bool:=pws 8 2 p.wAp&&pws 4 1 p.wAf&&decide (1<=p.wAq)&&decide (p.wAq<=64)
def rulesB (p:wJ):Bool:=decide (1<=p.wAE)&&decide (p.wAE<=3)&&decide (1<=p.wC)&&decide (p.wC<=12)&&decide (1<=p.wm)&&decide (p.wm<=100)&&decide (1<=p.wc)&&decide (p.wc<=1048576)&&decide (p.wQ<=4294967296)&&decide (1<=p.wAJ)&&decide (p.wAJ<=65536)
def rulesE (p:wJ):Int:=if rulesB p then(if p.wAE=1 then(if prS ⟨p.wR,p.wO,p.wN⟩then 0 else 1)else 0)else 1
theorem pws_and (b:Nat) (h:2<=b/\b<=256):(iand .i64 (b:Int) (((b:Int))-1)==0)=pws 8 2 b:=by
 have:∀b∈List.range' 2 255,(iand .i64 ((b:Nat):Int) (((b:Nat):Int)-1)==0)=pws 8 2 ((b:Nat):Int):=by decide +kernel
 exact this b (by rw[List.mem_range'_1];omega)
theorem kea {n:Nat} {z b:Int} (h:pws n z b=true) (hz:0<z):z<=b/\b<=z*((2^(n-1):Nat):Int):=by
 obtain⟨j,hj,e⟩:=List.any_eq_true.1 h
 have hj:j<n:=by simpa using hj
 have e:b=z*((2^j:Nat):Int):=by simpa using e
 have h1:1<=2^j:=Nat.two_pow_pos j
 have h2:2^j<=2^(n-1):=Nat.pow_le_pow_right (by decide) (by omega)
 rw[e]
 constructor
 ·have:=Int.mul_le_mul_of_nonneg_left (show(1:Int)<=((2^j:Nat):Int)by omega) (show 0<=z by omega)
  omega
 ·exact Int.mul_le_mul_of_nonneg_left (by omega) (by omega)
structure PS where
 R:wJ
 F:wF
 b:List wA
 n:Int
 l:List Int
 r:List Int
 p:List wS
 k:List Int
 v:List Bool
def ancL (r:List Int) (w:Int):List Int:=r.drop (r.length-w.toNat)
def chk (h:Int) (anc k:List Int) (b:List wA) (n:Int) (ll:Nat) (d:Int) (t:wl):Int:=
 if validE t≠0 then validE t else if t.wAZ<h+1 then 14 else if t.wW∉anc then 11 else if t.wG.any (fun m=>decide (m∈k))=true then 12
 else if 0<t.wI/\(debitA b t.wP t.wI t.wX).2≠0 then(debitA b t.wP t.wI t.wX).2
 else if u64.wrap (n+t.wI)<u64.wrap (t.wL+t.Fee)then 13 else if 2^d.toNat<ll+t.wB.length then 16 else 0
def chkS (s:PS) (t:wl):Int:=chk (s.p.length:Int) (ancL s.r s.R.wm) s.k s.b s.n s.l.length s.R.wC t
def outsF (F:wF) (o:List wAn):wF:=o.foldl (fun f x=>apF f x.wb) F
def depA (b:List wA) (t:wl):List wA:=if 0<t.wI then(debitA b t.wP t.wI t.wX).1 else b
def wdA (b:List wA) (t:wl):List wA×Int:=if 0<t.wL then creditA (depA b t) t.wP t.wL else(depA b t,0)
def hidN (n:Int) (t:wl):Int:=u64.wrap (u64.wrap (u64.wrap (n+t.wI)-t.wL)-t.Fee)
structure PE where
 e:Int
 s:PS
def perfS (s:PS) (t:wl):PE:=
 if(wdA s.b t).2≠0 then⟨(wdA s.b t).2,{s with F:=outsF s.F t.wB,l:=s.l++t.wB.map (·.wb),k:=s.k++t.wG,v:=trs (s.k++t.wG),b:=depA s.b t}⟩
 else⟨0,{s with F:=outsF s.F t.wB,l:=s.l++t.wB.map (·.wb),k:=s.k++t.wG,v:=trs (s.k++t.wG),b:=(wdA s.b t).1,n:=hidN s.n t}⟩
structure PB where
 e:Int
 s:PS
 m:List Int
 f:Int
def blkGo:List wl->PS->List Int->Int->PB
 |[],s,m,f=>⟨0,s,m,f⟩
 | t::r,s,m,f=>if chkS s t≠0 then⟨chkS s t,s,m,f⟩else if(perfS s t).e≠0 then⟨(perfS s t).e,(perfS s t).s,m++t.wG,f⟩
   else blkGo r (perfS s t).s (m++t.wG) (u64.wrap (f+t.Fee))
def crB (x:PB) (b:wT):List wA×Int:=creditA x.s.b b.wAo (u64.wrap (x.s.R.wQ+x.f))
def blkS (s:PS) (m:List Int) (b:wT):PB:=
 if(blkGo b.Txs s m 0).e≠0 then blkGo b.Txs s m 0
 else if(crB (blkGo b.Txs s m 0) b).2≠0 then {blkGo b.Txs s m 0 with e:=(crB (blkGo b.Txs s m 0) b).2}
 else {blkGo b.Txs s m 0 with e:=0,s:={(blkGo b.Txs s m 0).s with b:=(crB (blkGo b.Txs s m 0) b).1}}
def befS (s:PS) (m:List Int):wS:=⟨s.F.wC,s.F.wa,s.F.wh,s.l.length,m,s.b,s.n⟩
def applyS (s:PS) (b:wT):PE:=
 if b.wY≠(s.p.length:Int)+1 then⟨18,s⟩else if 18446744069414584321<=b.wAo then⟨1,s⟩else
 if(blkS s [] b).e≠0 then⟨(blkS s [] b).e,s⟩
 else⟨0,{(blkS s [] b).s with p:=s.p++[befS s (blkS s [] b).m],r:=s.r++[rootF (blkS s [] b).s.F]}⟩
def resS (s:PS) (q:wS):PS:={s with F:=⟨q.wAs,q.wAt,q.wAu⟩,b:=q.wAm,n:=q.hidden,l:=s.l.take q.leaves.toNat,k:=(remS q.marks s.k).2,v:=trs (remS q.marks s.k).2}
def newS (r:wJ):PS:=⟨r,frF r.wC [],[],0,[],[rootF (frF r.wC [])],[],[],[]⟩
def BG (l:List Int):Prop:=∀x∈l,0<=x/\x<18446744069414584321
def sumA (l:List wA):Int:=(l.map (·.wU)).sum
structure PI (s:PS) (c:Nat) (f:Int):Prop where
 d1:1<=s.R.wC
 d2:s.R.wC<=12
 w1:1<=s.R.wm
 w2:s.R.wm<=100
 rw:0<=s.R.wQ/\s.R.wQ<=4294967296
 F:s.F=frF s.R.wC s.l
 ll:s.l.length<=2^s.R.wC.toNat
 l:BG s.l
 b:GoodA c s.b
 n:0<=s.n
 ff:0<=f
 sup:sumA s.b+s.n+f=(s.p.length:Int)*s.R.wQ
 r:BG s.r
 rl:s.r.length=s.p.length+1
 p:s.p.length<=c
 kn:s.k.Nodup
 kb:BG s.k
 kl:s.k.length<=4*c
 v:s.v=trs s.k
theorem sum_app (a b:List wA):sumA (a++b)=sumA a+sumA b:=by simp[sumA]
theorem sumA_nn {l:List wA} (h:∀a∈l,0<=a.wU):0<=sumA l:=by
 induction l with
 |nil=>exact Int.le_refl _
 |cons a l ih=>
  have h1:=h a (by simp)
  have h2:=ih fun x hx=>h x (by simp[hx])
  have:sumA (a::l)=a.wU+sumA l:=by simp[sumA]
  omega
theorem sum_put {l:List wA} {x:wA} (hs:Srt l):sumA (putA l x)=sumA l-(getA l x.ID).wU+x.wU:=by
 obtain⟨a,m,b,h⟩:=spl_of hs x.ID
 rw[put_spl hs h,get_spl h,h.1]
 have e1:sumA (if x.wU≠0∨x.wX≠0 then [x]else [])=x.wU:=by
  split
  ·simp[sumA]
  ·rename_i hh
   have:x.wU=0:=Classical.byContradiction fun hb=>hh (.inl hb)
   rw[this]
   rfl
 have e2:sumA m=(m.headD ⟨x.ID,0,0⟩).wU:=by
  rcases h.2.2.1 with rfl|⟨y,rfl,_⟩
  ·rfl
  ·simp[sumA]
 simp only[sum_app,e1,e2]
 omega
theorem kbo {l:List wA} {id amt:Int} (hs:Srt l) (h:(creditA l id amt).2=0):sumA (creditA l id amt).1=sumA l+amt:=by
 unfold creditA at h ⊢
 split at h
 ·cases h
 ·rename_i hh
  rw[if_neg hh]
  have:=sum_put (x:=⟨id,(getA l id).wU+amt,(getA l id).wX⟩) hs
  rw[this]
  simp only
  omega
theorem kjx {l:List wA} {id amt non:Int} (hs:Srt l) (h:(debitA l id amt non).2=0):sumA (debitA l id amt non).1=sumA l-amt:=by
 unfold debitA at h ⊢
 split at h
 ·cases h
 ·rename_i h1
  rw[if_neg h1]
  split at h
  ·cases h
  ·rename_i h2
   rw[if_neg h2]
   split at h
   ·cases h
   ·rename_i h3
    rw[if_neg h3]
    have:=sum_put (x:=⟨id,(getA l id).wU-amt,non+1⟩) hs
    rw[this]
    simp only
    omega
theorem tot_sum:∀{l:List wA} {s:Int},(∀a∈l,0<=a.wU)->s+sumA l<18446744073709551616->totA s l=(s+sumA l,0)
 |[],s,_,_=>by simp[totA,sumA]
 |a::r,s,hn,h=>by
  have e:sumA (a::r)=a.wU+sumA r:=by simp[sumA]
  have h1:=hn a (by simp)
  have h2:=sumA_nn (l:=r) fun x hx=>hn x (by simp[hx])
  rw[e]at h ⊢
  unfold totA
  rw[if_neg (by omega),tot_sum (fun x hx=>hn x (by simp[hx])) (by omega)]
  rw[Int.add_assoc]
structure CK (s:PS) (t:wl):Prop where
 v:VT t
 m:∀m∈t.wG,m∉s.k
 d:0<t.wI->(debitA s.b t.wP t.wI t.wX).2=0
 h:¬u64.wrap (s.n+t.wI)<u64.wrap (t.wL+t.Fee)
 l:s.l.length+t.wB.length<=2^s.R.wC.toNat
theorem kai {s:PS} {t:wl} (h:chkS s t=0):CK s t:=by
 unfold chkS chk at h
 split at h
 ·rename_i h1;exact(h1 h).elim
 ·rename_i h1
  split at h
  ·cases h
  ·split at h
   ·cases h
   ·split at h
    ·cases h
    ·rename_i h4
     split at h
     ·rename_i h5;exact(h5.2 h).elim
     ·rename_i h5
      split at h
      ·cases h
      ·rename_i h6
       split at h
       ·cases h
       ·rename_i h7
        refine⟨(k1r t).1 (Classical.byContradiction h1),fun m hm hk=>h4 ?_,fun hd=>Classical.byContradiction fun he=>h5 ⟨hd,he⟩,h6,by omega⟩
        exact List.any_eq_true.2 ⟨m,hm,by simpa using hk⟩
theorem VT.am' {t:wl} (v:VT t):t.wI<=4294967295/\t.wL<=4294967295/\t.Fee<=4294967295/\t.wP<18446744069414584321/\(0<t.wI->t.wL=0):=by
 have:=v.am
 simp only[vAmounts,Bool.and_eq_true,decide_eq_true_eq]at this
 obtain⟨⟨⟨⟨⟨a1,a2⟩,a3⟩,a4⟩,a5⟩,a6⟩:=this
 refine⟨a1,a2,a3,a4,fun h=> ?_⟩
 rw[if_pos h]at a6
 simpa using a6
theorem kaa {d:Int}:∀{o:List wAn} {l:List Int},l.length+o.length<=2^d.toNat->outsF (frF d l) o=frF d (l++o.map (·.wb))
 |[],l,_=>by simp[outsF]
 |x::o,l,h=>by
  have h:l.length+(o.length+1)<=2^d.toNat:=h
  show outsF (apF (frF d l) x.wb) o=_
  rw[apF_frF (by omega),kaa (by simp;omega),List.append_assoc]
  rfl
theorem sup_bd {s:PS} {c:Nat} {f:Int} (h:PI s c f) (hc:c<=800):sumA s.b<=3435973836800/\s.n<=3435973836800/\f<=3435973836800/\0<=sumA s.b:=by
 have h0:=sumA_nn (l:=s.b) fun a ha=>(h.b.1.2.2 a ha).2.1.1
 have h1:=h.sup
 have h2:=h.n
 have h3:=h.ff
 have h4:(s.p.length:Int)*s.R.wQ<=800*4294967296:=Int.mul_le_mul (by have:=h.p;omega) h.rw.2 h.rw.1 (by decide)
 omega
theorem PI.perf {s:PS} {c:Nat} {f:Int} (h:PI s c f) (hc:c<=800) {t:wl} (ht:TR t) (k:CK s t):(∃g,PI {(perfS s t).s with b:=s.b,n:=s.n} (c+1) g)/\GoodA (c+1) (perfS s t).s.b/\
  ((perfS s t).e=0->PI (perfS s t).s (c+1) (f+t.Fee)):=by
 obtain⟨a1,a2,a3,a4,a5⟩:=k.v.am'
 obtain⟨s1,s2,s3,s4⟩:=sup_bd h hc
 have hd0:=ht.d.1
 have hw0:=ht.w.1
 have hf0:=ht.f.1
 have hk:=k.h
 rw[wrap_u64 (s.n+t.wI) (by have:=h.n;omega) (by omega),wrap_u64 (t.wL+t.Fee) (by omega) (by omega)]at hk
 have hF:outsF s.F t.wB=frF s.R.wC (s.l++t.wB.map (·.wb)):=by rw[h.F];exact kaa k.l
 have hl:BG (s.l++t.wB.map (·.wb)):=by
  intro x hx
  rcases List.mem_append.1 hx with hx|hx
  ·exact h.l x hx
  ·obtain⟨o,ho,rfl⟩:=List.mem_map.1 hx
   exact⟨(ht.o o ho).c.1,(k.v.o o ho).c⟩
 have hkb:BG (s.k++t.wG):=by
  intro x hx
  rcases List.mem_append.1 hx with hx|hx
  ·exact h.kb x hx
  ·exact⟨(ht.m x hx).1,k.v.m x hx⟩
 have hkn:(s.k++t.wG).Nodup:=by
  rw[List.nodup_append]
  exact⟨h.kn,k.v.mn,fun a ha b hb e=>k.m b hb (e▸ha)⟩
 have hkl:(s.k++t.wG).length<=4*(c+1):=by
  rw[List.length_append]
  have:=h.kl
  have:=k.v.ml
  omega
 have hdep:GoodA (c+1) (depA s.b t)/\(t.wI=0->depA s.b t=s.b)/\sumA (depA s.b t)=sumA s.b-t.wI:=by
  unfold depA
  split
  ·rename_i hd
   exact⟨kbn h.b (by omega) ⟨ht.ac.1,a4⟩ hd0 ⟨ht.n.1,by have:=ht.n.2;omega⟩,fun h0=>by omega,kjx h.b.1.1 (k.d hd)⟩
  ·rename_i hd
   exact⟨⟨h.b.1,h.b.2.1,Nat.le_succ_of_le h.b.2.2⟩,fun _=>rfl,by omega⟩
 have hwd:GoodA (c+1) (wdA s.b t).1/\((wdA s.b t).2=0->sumA (wdA s.b t).1=sumA s.b-t.wI+t.wL):=by
  unfold wdA
  split
  ·rename_i hw
   have hz:t.wI=0:=by
    rcases Int.lt_or_le 0 t.wI with h1|h1
    ·have:=a5 h1;omega
    ·omega
   rw[hdep.2.1 hz]
   exact⟨k9b h.b (by omega) ⟨ht.ac.1,a4⟩ hw0,fun he=>by rw[kbo h.b.1.1 he];omega⟩
  ·exact⟨hdep.1,fun _=>by simp only;omega⟩
 have hlen:(s.l++t.wB.map (·.wb)).length<=2^s.R.wC.toNat:=by simp only[List.length_append,List.length_map];exact k.l
 refine⟨⟨f,?_⟩,?_,?_⟩
 ·have base:PI {s with F:=outsF s.F t.wB,l:=s.l++t.wB.map (·.wb),k:=s.k++t.wG,v:=trs (s.k++t.wG)} (c+1) f:=
   ⟨h.d1,h.d2,h.w1,h.w2,h.rw,hF,hlen,hl,⟨h.b.1,h.b.2.1,Nat.le_succ_of_le h.b.2.2⟩,h.n,h.ff,h.sup,h.r,h.rl,by have:=h.p;simp only;omega,hkn,hkb,hkl,rfl⟩
  unfold perfS
  split
  ·exact base
  ·exact base
 ·unfold perfS
  split
  ·exact hdep.1
  ·exact hwd.1
 ·intro he
  unfold perfS at he ⊢
  split at he
  ·rename_i h1;exact(h1 he).elim
  ·rename_i h1
   rw[if_neg h1]
   have hz:(wdA s.b t).2=0:=Classical.byContradiction h1
   have hn0:=h.n
   have hh:hidN s.n t=s.n+t.wI-t.wL-t.Fee:=by
    unfold hidN
    rw[wrap_u64 (s.n+t.wI) (by omega) (by omega),wrap_u64 (s.n+t.wI-t.wL) (by omega) (by omega),wrap_u64 _ (by omega) (by omega)]
   refine⟨h.d1,h.d2,h.w1,h.w2,h.rw,hF,hlen,hl,hwd.1,?_,by have:=h.ff;omega,?_,h.r,h.rl,by have:=h.p;simp only;omega,hkn,hkb,hkl,rfl⟩
   ·simp only[hh];omega
   ·have h9:=h.sup
    simp only[hh,hwd.2 hz]
    omega
theorem kkc (s:PS) (t:wl):(perfS s t).s.R=s.R/\(perfS s t).s.p=s.p/\(perfS s t).s.r=s.r/\(perfS s t).s.l=s.l++t.wB.map (·.wb)/\(perfS s t).s.k=s.k++t.wG/\(perfS s t).s.v=trs (s.k++t.wG):=by
 unfold perfS
 split<;>exact⟨rfl,rfl,rfl,rfl,rfl,rfl⟩
structure BI (s0 s:PS) (m:List Int):Prop where
 R:s.R=s0.R
 p:s.p=s0.p
 r:s.r=s0.r
 l:∃x,s.l=s0.l++x
 k:s.k=s0.k++m
 kn:s.k.Nodup
 kb:BG s.k
 v:s.v=trs s.k
 lb:BG s.l
 F:s.F=frF s.R.wC s.l
 ll:s.l.length<=2^s.R.wC.toNat
theorem BI.refl {s:PS} {c:Nat} {f:Int} (h:PI s c f):BI s s []:=⟨rfl,rfl,rfl,⟨[],by simp⟩,by simp,h.kn,h.kb,h.v,h.l,h.F,h.ll⟩
theorem BI.perf {s0 s:PS} {m:List Int} {c:Nat} {f:Int} (b:BI s0 s m) (h:PI s c f) (hc:c<=800) {t:wl} (ht:TR t) (k:CK s t):BI s0 (perfS s t).s (m++t.wG):=by
 obtain⟨⟨g,h1⟩,_,_⟩:=h.perf hc ht k
 obtain⟨k1,k2,k3,k4,k5,k6⟩:=kkc s t
 refine⟨k1.trans b.R,k2.trans b.p,k3.trans b.r,?_,?_,h1.kn,h1.kb,h1.v,h1.l,h1.F,h1.ll⟩
 ·obtain⟨x,hx⟩:=b.l
  exact⟨x++t.wB.map (·.wb),by rw[k4,hx,List.append_assoc]⟩
 ·rw[k5,b.k,List.append_assoc]
structure BO (s0:PS) (x:PB) (c:Nat):Prop where
 b:BI s0 x.s x.m
 ok:x.e=0->PI x.s c x.f
theorem khj {s:PS} {c:Nat} {f:Int} (h:PI s c f) (hc:c<=800) {t:wl} (ht:TR t) (k:CK s t):u64.wrap (f+t.Fee)=f+t.Fee:=by
 obtain⟨a1,a2,a3,a4,a5⟩:=k.v.am'
 obtain⟨s1,s2,s3,s4⟩:=sup_bd h hc
 exact wrap_u64 _ (by have:=h.ff;have:=ht.f.1;omega) (by omega)
theorem k5x:∀{r:List wl} {s0 s:PS} {m:List Int} {c:Nat} {f:Int},BI s0 s m->PI s c f->c+r.length<=800->(∀t∈r,TR t)->BO s0 (blkGo r s m f) (c+r.length)
 |[],s0,s,m,c,f,b,h,_,_=>⟨b,fun _=>h⟩
 |t::r,s0,s,m,c,f,b,h,hc,ht=>by
  have hc:c+(r.length+1)<=800:=hc
  unfold blkGo
  split
  ·rename_i h1
   exact⟨b,fun he=>(h1 he).elim⟩
  ·rename_i h1
   have k:=kai (Classical.byContradiction h1)
   have tt:=ht t (by simp)
   have b2:=b.perf h (by omega) tt k
   split
   ·rename_i h2
    exact⟨b2,fun he=>(h2 he).elim⟩
   ·rename_i h2
    have h3:=(h.perf (by omega) tt k).2.2 (Classical.byContradiction h2)
    rw[khj h (by omega) tt k]
    have:=k5x (r:=r) b2 h3 (by omega) (fun t ht' =>ht t (by simp[ht']))
    rw[show c+(t::r).length=c+1+r.length by simp;omega]
    exact this
structure BR' (b:wT):Prop where
 m:U64 b.wAo
 t:∀t∈b.Txs,TR t
 l:∀t∈b.Txs,TL t
theorem khp {x:PB} {c:Nat} (h:PI x.s c x.f) (hc:c<=800):u64.wrap (x.s.R.wQ+x.f)=x.s.R.wQ+x.f/\U64 (x.s.R.wQ+x.f):=by
 obtain⟨s1,s2,s3,s4⟩:=sup_bd h hc
 have h1:=h.rw
 have h2:=h.ff
 exact⟨wrap_u64 _ (by omega) (by omega),by omega,by omega⟩
theorem blkS_BI {s:PS} {c:Nat} (h:PI s c 0) {b:wT} (hc:c+b.Txs.length<=800) (hb:BR' b):BI s (blkS s [] b).s (blkS s [] b).m:=by
 have:=(k5x (BI.refl h) h hc hb.t).b
 unfold blkS
 split
 ·exact this
 ·split
  ·exact this
  ·exact⟨this.R,this.p,this.r,this.l,this.k,this.kn,this.kb,this.v,this.lb,this.F,this.ll⟩
theorem kln {s0 s:PS} {m:List Int} (h:BI s0 s m) (hv:s0.v=trs s0.k):resS s (befS s0 m)=s0:=by
 have hk:(remS m s.k).2=s0.k:=by
  have hn:=h.kn
  rw[h.k]at hn ⊢
  unfold remS
  have e1:(m.any fun x=> !decide (x∈s0.k++m))=false:=by
   rw[List.any_eq_false]
   intro x hx
   simp[hx]
  have e2:m.Nodup:=by rw[List.nodup_append]at hn;exact hn.2.1
  rw[e1,decide_eq_true e2]
  exact rem_add hn
 obtain⟨x,hx⟩:=h.l
 unfold resS befS
 simp only[Int.toNat_natCast]
 rw[hk,h.R,h.p,h.r,hx,List.take_left,<-hv]
theorem kfu {s:PS} {c:Nat} (h:PI s c 0) {b:wT} (hc:c+b.Txs.length<=790) (hb:BR' b) (he:(applyS s b).e=0):PI (applyS s b).s (c+b.Txs.length+1) 0:=by
 have hB:=k5x (BI.refl h) h (by omega) hb.t
 unfold applyS at he ⊢
 split at he
 ·cases he
 ·rename_i h1
  rw[if_neg h1]
  split at he
  ·cases he
  ·rename_i h2
   rw[if_neg h2]
   unfold blkS at he ⊢
   by_cases h3:(blkGo b.Txs s [] 0).e≠0
   ·rw[if_pos h3,if_pos h3]at he
    exact(h3 he).elim
   ·rw[if_neg h3]at he ⊢
    have hP:=hB.ok (Classical.byContradiction h3)
    by_cases h4:(crB (blkGo b.Txs s [] 0) b).2≠0
    ·rw[if_pos h4,if_pos h4]at he
     exact(h4 he).elim
    ·rw[if_neg h4,if_neg (by simp)]
     have h4:(crB (blkGo b.Txs s [] 0) b).2=0:=Classical.byContradiction h4
     generalize blkGo b.Txs s [] 0=x at *
     have hw:=khp hP (by omega)
     have hB:=hB.b
     unfold crB at h4 ⊢
     rw[hw.1]at h4 ⊢
     have hF:=hP.F
     have hr:=kee (d:=x.s.R.wC) (l:=x.s.l) (by have:=hP.d1;omega) hP.ll
     refine⟨hP.d1,hP.d2,hP.w1,hP.w2,hP.rw,hP.F,hP.ll,hP.l,k9b hP.b (by omega) ⟨hb.m.1,by omega⟩ hw.2.1,hP.n,Int.le_refl _,?_,?_,?_,?_,hP.kn,hP.kb,?_,hP.v⟩
     ·have h9:=hP.sup
      simp only[kbo hP.b.1.1 h4]
      rw[hB.p]at h9
      rw[List.length_append,List.length_singleton]
      have:((s.p.length+1:Nat):Int)*x.s.R.wQ=(s.p.length:Int)*x.s.R.wQ+x.s.R.wQ:=by
       rw[Int.natCast_add,Int.add_mul];simp
      rw[this]
      omega
     ·intro y hy
      rcases List.mem_append.1 hy with hy|hy
      ·exact h.r y hy
      ·rw[List.mem_singleton.1 hy,hF,hr]
       exact TT_r hP.l _ _
     ·have:=h.rl
      simp only[List.length_append,List.length_singleton]
      omega
     ·have:=h.p
      simp only[List.length_append,List.length_singleton]
      omega
     ·have:=hP.kl
      simp only
      omega
theorem kh3:∀{r:List wl} {s:PS} {m:List Int} {f:Int},(blkGo r s m f).m.length<=m.length+4*r.length
 |[],_,_,_=>by simp[blkGo]
 |t::r,s,m,f=>by
  unfold blkGo
  split
  ·simp
  ·rename_i h1
   have:=(kai (Classical.byContradiction h1:chkS s t=0)).v.ml
   split
   ·simp;omega
   ·have:=kh3 (r:=r) (s:=(perfS s t).s) (m:=m++t.wG) (f:=u64.wrap (f+t.Fee))
    rw[List.length_append]at this
    simp
    omega
theorem blkS_ml (s:PS) (b:wT):(blkS s [] b).m.length<=4*b.Txs.length:=by
 have:=kh3 (r:=b.Txs) (s:=s) (m:=[]) (f:=0)
 rw[List.length_nil,Nat.zero_add]at this
 unfold blkS
 split
 ·exact this
 ·split<;>exact this
theorem kl5 {r:wJ} (h:rulesE r=0):rulesB r=true:=by
 cases hb:rulesB r with
 |true=>rfl
 |false=>unfold rulesE at h;rw[hb]at h;cases h
theorem new_PI {r:wJ} (h:rulesE r=0) (h0:0<=r.wQ):PI (newS r) 0 0:=by
 have hb:=kl5 h
 simp only[rulesB,Bool.and_eq_true,decide_eq_true_eq]at hb
 have hr:=kee (d:=r.wC) (l:=[]) (by omega) (Nat.zero_le _)
 refine⟨(by show 1<=r.wC;omega),(by show r.wC<=12;omega),(by show 1<=r.wm;omega),(by show r.wm<=100;omega),⟨h0,(by show r.wQ<=4294967296;omega)⟩,rfl,Nat.zero_le _,(fun x hx=>by cases hx),k3x 0,Int.le_refl _,Int.le_refl _,?_,?_,rfl,Nat.le_refl _,List.nodup_nil,(fun x hx=>by cases hx),Nat.zero_le _,rfl⟩
 ·show(0:Int)+0+0=((0:Nat):Int)*r.wQ
  simp
 ·intro x hx
  rw[List.mem_singleton.1 hx,hr]
  exact TT_r (fun x hx=>by cases hx) _ _
theorem PI.mono {s:PS} {c d:Nat} {f:Int} (h:PI s c f) (hd:c<=d):PI s d f:=
 ⟨h.d1,h.d2,h.w1,h.w2,h.rw,h.F,h.ll,h.l,⟨h.b.1,h.b.2.1,Nat.le_trans h.b.2.2 hd⟩,h.n,h.ff,h.sup,h.r,h.rl,Nat.le_trans h.p hd,h.kn,h.kb,Nat.le_trans h.kl (Nat.mul_le_mul_left 4 hd),h.v⟩
theorem apply_R {s:PS} {c:Nat} (h:PI s c 0) {b:wT} (hc:c+b.Txs.length<=790) (hb:BR' b):(applyS s b).s.R=s.R:=by
 have hB:=blkS_BI h (by omega) hb
 unfold applyS
 split
 ·rfl
 ·split
  ·rfl
  ·split
   ·rfl
   ·exact hB.R
theorem sup_PI {s:PS} {c:Nat} (h:PI s c 0) (hc:c<=800):totA 0 s.b=(sumA s.b,0)/\u64.wrap (sumA s.b+s.n)=u64.wrap (u64.wrap (s.p.length:Int)*s.R.wQ):=by
 obtain⟨s1,s2,s3,s4⟩:=sup_bd h hc
 have hp:=h.p
 have hs:=h.sup
 refine⟨?_,?_⟩
 ·have:=tot_sum (l:=s.b) (s:=0) (fun a ha=>(h.b.1.2.2 a ha).2.1.1) (by omega)
  rw[this,Int.zero_add]
 ·rw[wrap_u64 (s.p.length:Int) (by omega) (by omega),<-hs]
  congr 1
  omega
def sameQ (a b:wE):Bool:=(a.wAl==b.wAl)&&((a.wAd==b.wAd)&&decide (a.wAa=b.wAa))
theorem kj9 (a:wE):sameQ a a=true:=by simp[sameQ]
def qA (r:wAI):wE:=wE.mk r.wz r.wd r.wt
def qB (r:wAI):wE:=wE.mk r.wy r.we r.wv
def sameR (a b:wAI):Bool:=(a.wAg==b.wAg)&&((a.wAr==b.wAr)&&((a.wAe==b.wAe)&&((a.wAW==b.wAW)&&((a.wAh==b.wAh)&&((a.wAC==b.wAC)&&((a.wAB==b.wAB)&&((a.wAR==b.wAR)&&(sameQ (qA a) (qA b)&&sameQ (qB a) (qB b)))))))))
theorem kjq (a:wAI):sameR a a=true:=by simp[sameR,kj9]
def smA (r:wJ) (l:List wT):Bool:=decide (1<=r.wC)&&(decide (r.wC<=6)&&(decide ((l.length:Int)<=8)&&l.all (fun b=>decide ((b.Txs.length:Int)<=4)&&b.Txs.all (fun t=>smallB t 1200))))
def zeroR:wAI:=wAI.mk 0 0 0 0 0 0 0 0 0 [] 0 0 [] 0
def auGo:List wT->PS->PE
 |[],s=>⟨0,s⟩
 |b::r,s=>if(applyS s b).e=0 then auGo r (applyS s b).s else⟨(applyS s b).e,s⟩
theorem kkg {l:List wT} {k:Nat} (h:k<l.length) (s:PS):auGo (l.drop k) s=if(applyS s l[k]).e=0 then auGo (l.drop (k+1)) (applyS s l[k]).s else⟨(applyS s l[k]).e,s⟩:=by
 rw[List.drop_eq_getElem_cons h]
 rfl
def ndA (x:wAF):Int:=nd x.a0 x.a1
def ownP (p leaf s:Int):wAF:=if p%2=1 then⟨s,leaf⟩else⟨leaf,s⟩
def ownsL:Int->Int->List Int->List wAF
 |_,_,[]=>[]
 |p,leaf,s::r=>ownP p leaf s::ownsL (p/2) (ndA (ownP p leaf s)) r
def realP (f:Nat->Int) (p i:Nat):wAF:=⟨TT f i (2*(p/2^i/2)),TT f i (2*(p/2^i/2)+1)⟩
def realsL (f:Nat->Int) (p n:Nat):List wAF:=(List.range n).map (realP f p)
def abvS (lv:Nat):List Int->List Int
 |a::b::r=>nd a b::abvS lv r
 |[a]=>[nd a (emp lv)]
 |[]=>[]
theorem kh9 (lv:Nat):∀l:List Int,(abvS lv l).length<=l.length
 |[]=>Nat.le_refl _
 |[_]=>Nat.le_refl _
 |_::_::r=>by have:=kh9 lv r;simp only[abvS,List.length_cons];omega
theorem abvS_u (lv:Nat):∀l:List Int,Us (abvS lv l)
 |[]=>fun x hx=>by cases hx
 |[_]=>fun x hx=>by rw[List.mem_singleton.1 hx];exact kr _ _
 |_::_::r=>fun x hx=>by
  rcases List.mem_cons.1 hx with rfl|hx
  ·exact kr _ _
  ·exact abvS_u lv r x hx
theorem kgc (lv:Nat):∀(l:List Int) (p:Nat),(abvS lv l).getD p (emp (lv+1))=nd (l.getD (2*p) (emp lv)) (l.getD (2*p+1) (emp lv))
 |[],p=>by simp[abvS,emp]
 |[a],0=>by simp[abvS]
 |[a],p+1=>by
  rw[gD_ge (l:=[a]) (by simp only[List.length_singleton];omega),gD_ge (l:=[a]) (by simp only[List.length_singleton];omega),gD_ge (by simp[abvS])]
  rfl
 |a::b::r,0=>by simp[abvS]
 |a::b::r,p+1=>by
  have:=kgc lv r p
  rw[show 2*(p+1)=2*p+1+1 by omega]
  simpa[abvS]using this
theorem kkh (lv:Nat) (l:List Int) (k:Nat) (h:2*k<l.length):abvS lv (l.drop (2*k))=nd (l.getD (2*k) 0) (l.getD (2*k+1) (emp lv))::abvS lv (l.drop (2*(k+1))):=by
 rw[List.drop_eq_getElem_cons h,gD_lt h]
 by_cases h2:2*k+1<l.length
 ·rw[List.drop_eq_getElem_cons h2,gD_lt h2]
  rfl
 ·rw[List.drop_eq_nil_of_le (by omega),gD_ge (by omega),List.drop_eq_nil_of_le (by omega)]
  rfl
def zeroF:wAj:=⟨0,0,0,0,[],0,0,[],0⟩
def unF:wAj:=⟨1,0,0,0,[],0,0,[],0⟩
def ownQ (x:wK):wE:=⟨1,[x.Key,u64.wrap x.wAY],x.wAD⟩
def comQ (n:wM) (a:Int):wE:=⟨2,noteL n,a⟩
def brQ (x:wAF) (a:Int):wE:=⟨6,[x.a0,x.a1],a⟩
def colF (a b:wE):wAj:=⟨2,0,0,a.wAl,a.wAa,a.wAd,b.wAl,b.wAa,b.wAd⟩
def wrgGo (o r:List wAF):Nat->Option Nat
 |0=>none
 |h+1=>if ix o (h:Int)≠ix r (h:Int)then some h else wrgGo o r h
def ancS (tr:List wo) (lv:List Int) (root:Int):Nat->List Int
 |0=>[]
 |h+1=>if(ix tr (h:Int)).root=root then lv.take (ix tr (h:Int)).leaves.toNat else ancS tr lv root h
structure EC where
 t:List wo
 l:List Int
def leafS (x:wK):Int:=(commP pkR (noteOf x)).getD 0
def wrgF (ls:List Int) (ns:List wM) (x:wK) (o r:List wAF):wAj:=
 match wrgGo o r o.length with
 |some k=>colF (brQ (ix o (k:Int)) (ndA (ix o (k:Int)))) (brQ (ix r (k:Int)) (ndA (ix o (k:Int))))
 |none=>if x.wH<ls.length/\x.wH<ns.length then colF (comQ (noteOf x) (leafS x)) (comQ (ix ns x.wH) (leafS x))else colF (comQ (noteOf x) (leafS x)) ⟨6,[],leafS x⟩
def wrgS (C:EC) (ns:List wM) (x:wK) (anchor h:Int):wAj:=
 wrgF (ancS C.t C.l anchor h.toNat) ns x (ownsL x.wH (leafS x) x.wn) (realsL (lf (ancS C.t C.l anchor h.toNat)) x.wH.toNat x.wn.length)
theorem ke7 (ls:List Int) (ns:List wM) (x:wK) (o r:List wAF):(wrgF ls ns x o r).wAK=2:=by
 unfold wrgF
 split
 ·rfl
 ·split<;>rfl
structure EX where
 n:List wM
 k:List Int
 v:List wK
 cr:Int
 sp:Int
 hd:Int
structure EIn where
 f:wAj
 c:Int
 a:Int
 k:List Int
 v:List wK
def insS (C:EC) (ns:List wM) (anchor h:Int):List wK->EIn->EIn
 |[],I=>I
 |x::r,I=>if x.wAv=true then insS C ns anchor h r I
  else if(ns.length:Int)<=x.wH∨ix ns x.wH≠noteOf x then {I with f:=wrgS C ns x anchor h}
  else if x.wH∈I.k then {I with f:=colF (ownQ (mVal (BEq.beq x.wH) I.k I.v default)) (ownQ x)}
  else insS C ns anchor h r ⟨I.f,i64.wrap (I.c+1),u64.wrap (I.a+x.wZ),I.k++[x.wH],I.v++[x]⟩
def exIn (C:EC) (x:EX) (t:wl) (w:wV) (h:Int):EIn:=insS C x.n t.wW h w.Ins ⟨zeroF,0,0,x.k,x.v⟩
structure EF where
 f:wAj
 x:EX
def exTx (C:EC) (d:Int) (x:EX) (t:wl) (w:wV) (known:Bool) (h:Int):EF:=
 if known=false∨checkS pkR (stmtS t d) w≠0 then⟨unF,x⟩
 else if(exIn C x t w h).f.wAK≠0 then⟨(exIn C x t w h).f,{x with k:=(exIn C x t w h).k,v:=(exIn C x t w h).v}⟩
 else⟨zeroF,⟨x.n++w.wB,(exIn C x t w h).k,(exIn C x t w h).v,i64.wrap (x.cr+(w.wB.length:Int)),i64.wrap (x.sp+(exIn C x t w h).c),u64.wrap (x.hd+u64.wrap (outS w.wB-(exIn C x t w h).a))⟩⟩
def exTd (C:EC) (d h:Int) (x:EX) (t:wl):EF:=exTx C d x t (decW t.wAH).1 ((decW t.wAH).2==0) h
def txsGo (C:EC) (d h:Int):Nat->List wl->EX->EF
 |_,[],x=>⟨zeroF,x⟩
 |i,t::r,x=>if(exTd C d h x t).f.wAK≠0 then⟨{(exTd C d h x t).f with wY:=h,Tx:=(i:Int)},(exTd C d h x t).x⟩else txsGo C d h (i+1) r (exTd C d h x t).x
def chnGo (C:EC) (d:Int):List wT->EX->EF
 |[],x=>⟨zeroF,x⟩
 |b::r,x=>if(txsGo C d b.wY 0 b.Txs x).f.wAK≠0 then txsGo C d b.wY 0 b.Txs x else chnGo C d r (txsGo C d b.wY 0 b.Txs x).x
structure ECk (C:EC):Prop where
 t:∀x∈C.t,0<=x.leaves/\x.leaves<=C.l.length
 l:Us C.l
 ll:C.l.length<=4096
structure EXk (x:EX) (c:Nat):Prop where
 nl:x.n.length<=4*c
 nr:∀y∈x.n,NR y
 kv:x.k.length=x.v.length
 kp:∀p∈x.k,0<=p/\p<x.n.length
 nd:x.k.Nodup
 vr:∀y∈x.v,PR y
 sp:x.sp=x.k.length
 cr:x.cr=x.n.length
structure SPk (x:wK):Prop where
 n:NR (noteOf x)
 p0:0<=x.wH
 pm:x.wH<=64
 pl:x.wn.length<=12
 pu:Us x.wn
theorem khf {C:EC} (h:ECk C) (root:Int):∀n:Nat,(ancS C.t C.l root n).length<=4096/\Us (ancS C.t C.l root n)
 |0=>⟨Nat.zero_le _,fun x hx=>by cases hx⟩
 |n+1=>by
  unfold ancS
  split
  ·refine⟨by have:=h.ll;rw[List.length_take];omega,fun x hx=>h.l x (List.mem_of_mem_take hx)⟩
  ·exact khf h root n
theorem bitnot (n:Nat) (h:n<=64):ianot .i64 (n:Int) 1=((2*(n/2):Nat):Int)/\ior .i64 (n:Int) 1=((2*(n/2)+1:Nat):Int):=by
 have key:∀n∈List.range 65,ianot .i64 (n:Int) 1=((2*(n/2):Nat):Int)/\ior .i64 (n:Int) 1=((2*(n/2)+1:Nat):Int):=by decide
 exact key n (by simp;omega)
theorem shr_nat (n i:Nat) (hi:i<=20):ishr .i64 (n:Int) (i:Int)=((n/2^i:Nat):Int):=by
 have e:min ((i:Int).toNat) i64.bits=i:=by
  rw[Int.toNat_natCast]
  exact Nat.min_eq_left (Nat.le_trans hi (by decide))
 rw[k1n,e]
 simp
theorem us2 {a b:Int} (ha:U64 a) (hb:U64 b):Us [a,b]:=by
 intro x hx
 simp only[List.mem_cons,List.mem_nil_iff,or_false]at hx
 rcases hx with rfl|rfl
 ·exact ha
 ·exact hb
theorem pk_emp (q:List wE):pk false q [] []=pkR:=by funext l a;exact pk_real _ _ _
theorem kh2 (q:List wE):OrOk [] [] q:=⟨rfl,fun v hv=>by cases hv⟩
theorem khl {p:Int} {l:List Int}:mHas (BEq.beq p) l=true↔p∈l:=by
 rw[kmg]
 constructor
 ·rintro ⟨x,hx,h⟩
  have:p=x:=by simpa using h
  exact this▸hx
 ·intro h
  exact⟨p,h,by simp⟩
theorem klz {β:Type} {p:Int} {l:List Int} (h:mHas (BEq.beq p) l=false) (v:List β) (y:β):mPutK (BEq.beq p) l p=l++[p]/\mPutV (BEq.beq p) l v y=v++[y]:=by
 unfold mHas at h
 unfold mPutK mPutV
 cases hm:mIdx (BEq.beq p) l with
 |none=>exact⟨rfl,rfl⟩
 |some j=>rw[hm]at h;cases h
theorem note_ne (a:wM) (x:wK):(!((a.Value==x.wZ)&&((a.wAi==x.wAD)&&((a.Rho==x.wAG)&&((a.wAk==x.wAQ)&&true)))))=true↔a≠noteOf x:=by
 obtain⟨a1,a2,a3,a4⟩:=a
 simp only[noteOf,Bool.and_true,Bool.not_eq_true',Bool.and_eq_false_iff,beq_eq_false_iff_ne,ne_eq,wM.mk.injEq,not_and]
 constructor
 ·rintro (h|h|h|h) q1 q2 q3 q4
  ·exact h q1
  ·exact h q2
  ·exact h q3
  ·exact h q4
 ·intro h
  by_cases q1:a1=x.wZ
  ·by_cases q2:a2=x.wAD
   ·by_cases q3:a3=x.wAG
    ·exact .inr (.inr (.inr (h q1 q2 q3)))
    ·exact .inr (.inr (.inl q3))
   ·exact .inr (.inl q2)
  ·exact .inl q1
theorem nd_le:∀(n:Nat) (l:List Int),l.Nodup->(∀p∈l,0<=p/\p<(n:Int))->l.length<=n
 |0,[],_,_=>Nat.le_refl _
 |0,a::_,_,h=>by have:=h a (by simp);omega
 |n+1,l,hn,h=>by
  have ih:=nd_le n (l.erase (n:Int)) (hn.erase _) (fun p hp=>by
   have h1:=(List.Nodup.mem_erase_iff hn).1 hp
   have:=h p h1.2
   have:=h1.1
   omega)
  by_cases hm:(n:Int)∈l
  ·rw[List.length_erase_of_mem hm]at ih;omega
  ·rw[List.erase_of_not_mem hm]at ih;omega
theorem pair_ne (a b:wAF):(!((a.a0==b.a0)&&((a.a1==b.a1)&&true)))=true↔a≠b:=by
 obtain⟨a0,a1⟩:=a
 obtain⟨b0,b1⟩:=b
 simp only[Bool.and_true,Bool.not_eq_true',Bool.and_eq_false_iff,beq_eq_false_iff_ne,ne_eq,wAF.mk.injEq,not_and]
 constructor
 ·rintro (h|h) q1 q2
  ·exact h q1
  ·exact h q2
 ·intro h
  by_cases q1:a0=b0
  ·exact .inr (h q1)
  ·exact .inl q1
theorem leafS_u (x:wK):U64 (leafS x):=by
 unfold leafS commP
 split
 ·rcases pkR_u (l:=2) (a:=noteL (noteOf x))with h|⟨n,h,hn⟩
  ·rw[h];decide
  ·rw[h];exact hn
 ·decide
theorem kdw:∀(p leaf:Int) (l:List Int),(ownsL p leaf l).length=l.length
 |_,_,[]=>rfl
 |p,leaf,s::r=>by rw[ownsL,List.length_cons,kdw,List.length_cons]
theorem ownsL_u:∀(p leaf:Int) (l:List Int),U64 leaf->Us l->∀x∈ownsL p leaf l,U64 x.a0/\U64 x.a1
 |_,_,[],_,_,x,hx=>by cases hx
 |p,leaf,s::r,hl,hu,x,hx=>by
  rw[ownsL]at hx
  rcases List.mem_cons.1 hx with rfl|hx
  ·unfold ownP
   split
   ·exact⟨hu s (by simp),hl⟩
   ·exact⟨hl,hu s (by simp)⟩
  ·exact ownsL_u _ _ r (kr _ _) (fun y hy=>hu y (by simp[hy])) x hx
theorem kiy (f:Nat->Int) (p n:Nat):(realsL f p n).length=n:=by simp[realsL]
theorem rhoS_u (o i:Int):U64 (rhoS o i):=by
 unfold rhoS
 split
 ·exact kr _ _
 ·decide
theorem bindS_u (t:wl):U64 (bindS t):=by
 unfold bindS
 split
 ·exact kr _ _
 ·decide
theorem stmt_SR {t:wl} {d:Int} (h:TR t) (hd: -9223372036854775808<=d/\d<=9223372036854775807):SR (stmtS t d):=by
 unfold stmtS
 split
 ·rename_i hv
  have v:=(k1r t).1 hv
  refine⟨hd,h.a,h.m,(by show t.wG.length<=_;have:=v.ml;omega),fun x hx=> ?_,(by have:=v.ol;simp;omega),fun x hx=> ?_,(by have:=v.ol;simp;omega),h.d,h.w,h.f,h.ac,bindS_u t⟩
  ·obtain⟨o,ho,rfl⟩:=List.mem_map.1 hx
   exact(h.o o ho).c
  ·obtain⟨i,_,rfl⟩:=List.mem_map.1 hx
   exact rhoS_u _ _
 ·exact⟨⟨(by simp only;omega),(by simp only;omega)⟩,(by decide:U64 0),fun x hx=>(by cases hx),(by decide:(0:Nat)<=_),fun x hx=>(by cases hx),(by decide:(0:Nat)<=_),fun x hx=>(by cases hx),(by decide:(0:Nat)<=_),(by decide:U64 0),(by decide:U64 0),(by decide:U64 0),(by decide:U64 0),(by decide:U64 0)⟩
theorem pow6 {d:Int} (h:d<=6):(2:Int)^d.toNat<=64:=by
 have key:∀n:Nat,n<=6->(2:Int)^n<=64:=by decide
 exact key d.toNat (by omega)
theorem rel_in {s:wx} {w:wV} (h:relV s w=true) (hd:s.wC<=6) (hW:WR w):(∀x∈w.Ins,SPk x/\PR x)/\w.Ins.length<=4/\w.wB.length<=4/\∀x∈w.wB,NR x:=by
 have h:=khd.1 h
 obtain⟨_,h2,_,_,_,_,_,_,_,_,h11,_,_,h14,h15,_⟩:=h
 refine⟨fun x hx=> ?_,h11,h14,hW.o⟩
 have hi:=List.all_eq_true.1 h15 x hx
 unfold inV at hi
 simp only[Bool.and_eq_true,decide_eq_true_eq]at hi
 obtain⟨⟨hs,hl⟩,hp⟩:=hi
 have hs:=k3o.1 hs
 have:=pow6 hd
 have hq:=hW.i x hx
 exact⟨⟨hq.n,hs.2.2.2.2.1,by omega,by omega,hq.pa⟩,hq⟩
structure EIk (ns:List wM) (I:EIn):Prop where
 kv:I.k.length=I.v.length
 kp:∀p∈I.k,0<=p/\p<ns.length
 nd:I.k.Nodup
 vr:∀y∈I.v,PR y
def valL (l:List wK):Int:=(l.map (fun x=>if x.wAv=true then 0 else x.wZ)).sum
theorem insS_ok (C:EC) (ns:List wM) (an h:Int):∀(l:List wK) (I:EIn),(∀x∈l,SPk x/\PR x)->EIk ns I->0<=I.c->I.c+l.length<=9223372036854775807->(insS C ns an h l I).f.wAK≠2->
  EIk ns (insS C ns an h l I)/\(insS C ns an h l I).c-I.c=(insS C ns an h l I).k.length-(I.k.length:Int)/\(insS C ns an h l I).a%18446744073709551616=(I.a+valL l)%18446744073709551616
 |[],I,_,hI,_,_,_=>⟨hI,by simp[insS],by simp[insS,valL]⟩
 |x::r,I,hl,hI,hc,hb,hk=>by
  obtain⟨sx,px⟩:=hl x (by simp)
  have hr:∀y∈r,SPk y/\PR y:=fun y hy=>hl y (by simp[hy])
  have hb:I.c+(r.length+1:Nat)<=9223372036854775807:=by simpa using hb
  unfold insS at hk ⊢
  split at hk
  ·rename_i h1
   rw[if_pos h1]
   obtain⟨g1,g2,g3⟩:=insS_ok C ns an h r I hr hI hc (by omega) hk
   refine⟨g1,g2,?_⟩
   rw[g3,valL,valL,List.map_cons,List.sum_cons,if_pos h1,Int.zero_add]
  ·rename_i h1
   rw[if_neg h1]
   split at hk
   ·exact(hk (ke7 _ _ _ _ _)).elim
   ·rename_i h2
    rw[if_neg h2]
    split at hk
    ·exact(hk rfl).elim
    ·rename_i h3
     rw[if_neg h3]
     have h2:¬((ns.length:Int)<=x.wH):=fun hh=>h2 (.inl hh)
     have e1:i64.wrap (I.c+1)=I.c+1:=wi _ (by omega) (by omega)
     have hI2:EIk ns ⟨I.f,i64.wrap (I.c+1),u64.wrap (I.a+x.wZ),I.k++[x.wH],I.v++[x]⟩:=by
      refine⟨by simp[hI.kv],fun p hp=> ?_,?_,fun y hy=> ?_⟩
      ·rcases List.mem_append.1 hp with hp|hp
       ·exact hI.kp p hp
       ·rw[List.mem_singleton.1 hp];exact⟨sx.p0,by omega⟩
      ·rw[List.nodup_append]
       exact⟨hI.nd,by simp,fun a ha b hb e=>by rw[List.mem_singleton.1 hb]at e;exact h3 (e▸ha)⟩
      ·rcases List.mem_append.1 hy with hy|hy
       ·exact hI.vr y hy
       ·rw[List.mem_singleton.1 hy];exact px
     obtain⟨g1,g2,g3⟩:=insS_ok C ns an h r _ hr hI2 (by simp only[e1];omega) (by simp only[e1];omega) hk
     refine⟨g1,?_,?_⟩
     ·simp only[e1,List.length_append,List.length_singleton]at g2 ⊢
      omega
     ·rw[g3,valL,valL,List.map_cons,List.sum_cons,if_neg h1]
      simp only
      rw[show u64.wrap (I.a+x.wZ)=(I.a+x.wZ)%18446744073709551616 from rfl]
      omega
theorem exTx_un {C:EC} {d h:Int} {x:EX} {t:wl} {w:wV} {k:Bool} (hf:(exTx C d x t w k h).f.wAK=0):k=true/\checkS pkR (stmtS t d) w=0/\(exIn C x t w h).f.wAK=0/\(exTx C d x t w k h).f=zeroF/\
  (exTx C d x t w k h).x=⟨x.n++w.wB,(exIn C x t w h).k,(exIn C x t w h).v,i64.wrap (x.cr+(w.wB.length:Int)),i64.wrap (x.sp+(exIn C x t w h).c),u64.wrap (x.hd+u64.wrap (outS w.wB-(exIn C x t w h).a))⟩:=by
 unfold exTx at hf ⊢
 split at hf
 ·cases hf
 ·rename_i h1
  rw[if_neg h1]
  split at hf
  ·rename_i h2;exact(h2 hf).elim
  ·rename_i h2
   rw[if_neg h2]
   refine⟨?_,Classical.byContradiction fun hh=>h1 (.inr hh),Classical.byContradiction h2,rfl,rfl⟩
   cases k with
   |true=>rfl
   |false=>exact(h1 (.inl rfl)).elim
theorem kc2 {t:wl} {d:Int} (h1:1<=d):(stmtS t d).wC<=d:=by
 unfold stmtS
 split
 ·exact Int.le_refl _
 ·simp only;omega
theorem exTx_ok {C:EC} {d h:Int} {x:EX} {c:Nat} {t:wl} {w:wV} {k:Bool} (hx:EXk x c) (hc:c<=1000) (hd:1<=d/\d<=6) (hW:k=true->WR w) (hf:(exTx C d x t w k h).f.wAK=0):
  EXk (exTx C d x t w k h).x (c+1)/\(exTx C d x t w k h).x.hd%18446744073709551616=(x.hd+outS w.wB-valL w.Ins)%18446744073709551616:=by
 obtain⟨rfl,f2,f3,f4,f5⟩:=exTx_un hf
 have hr:=(k4r.1 f2).1
 obtain⟨r1,r2,r3,r4⟩:=rel_in hr (Int.le_trans (kc2 hd.1) hd.2) (hW rfl)
 have hkl:x.k.length<=x.n.length:=nd_le _ _ hx.nd hx.kp
 have hnl:=hx.nl
 have hb:0+(w.Ins.length:Int)<=9223372036854775807:=by omega
 obtain⟨g1,g2,g3⟩:=insS_ok C x.n t.wW h w.Ins ⟨zeroF,0,0,x.k,x.v⟩ r1 ⟨hx.kv,hx.kp,hx.nd,hx.vr⟩ (Int.le_refl _) hb (by show(exIn C x t w h).f.wAK≠2;rw[f3];decide)
 rw[f5]
 have g2:(exIn C x t w h).c-0=(exIn C x t w h).k.length-(x.k.length:Int):=g2
 have g3:(exIn C x t w h).a%18446744073709551616=(0+valL w.Ins)%18446744073709551616:=g3
 have g1:EIk x.n (exIn C x t w h):=g1
 have hsp:=hx.sp
 have hcr:=hx.cr
 have hkl2:(exIn C x t w h).k.length<=x.n.length:=nd_le _ _ g1.nd g1.kp
 refine⟨⟨?_,?_,g1.kv,fun p hp=> ?_,g1.nd,g1.vr,?_,?_⟩,?_⟩
 ·simp only[List.length_append];omega
 ·intro y hy
  rcases List.mem_append.1 hy with hy|hy
  ·exact hx.nr y hy
  ·exact r4 y hy
 ·have:=g1.kp p hp
  simp only[List.length_append]
  omega
 ·simp only
  rw[wi _ (by omega) (by omega)]
  omega
 ·simp only[List.length_append]
  rw[wi _ (by omega) (by omega)]
  omega
 ·simp only
  rw[show∀z,u64.wrap z=z%18446744073709551616 from fun _=>rfl,show∀z,u64.wrap z=z%18446744073709551616 from fun _=>rfl]
  omega
theorem decW_WR {b:List Int} (h:((decW b).2==0)=true):WR (decW b).1:=by
 rcases kj5 b with⟨w,hE,e⟩|e
 ·rw[e]
  obtain⟨v1,v2,v3,v4,v5⟩:=k6g.1 hE.v
  have hq:=hE.r
  exact⟨fun x hx=>by
   have h1:=hq.i x hx
   have h2:=(k3o.1 (v4 x hx)).2.2.2.2.2.2.1
   exact⟨h1.n,h1.k,h1.nu,h1.po,h1.pa,by omega⟩,by show w.Ins.length<=_;omega,hq.o,by show w.wB.length<=_;omega,hq.s⟩
 ·rw[e]at h;cases h
structure CHk (d:Int) (l:List wT) (t:List wo) (lv:List Int) (x:EX):Prop where
 C:ECk ⟨t,lv⟩
 d1:1<=d
 d6:d<=6
 h:∀b∈l,0<=b.wY/\b.wY<=t.length/\b.wY<=9223372036854775807
 tl:∀b∈l,b.Txs.length<=4
 t:∀b∈l,∀t∈b.Txs,TR t/\t.wAH.length<=137438953472
 len:l.length<=8
 x:EXk x 0
theorem kjf {C:EC} {d:Int} {l:List wT} {k:Nat} (h:k<l.length) (x:EX):chnGo C d (l.drop k) x=if(txsGo C d (ix l (k:Int)).wY 0 (ix l (k:Int)).Txs x).f.wAK≠0 then txsGo C d (ix l (k:Int)).wY 0 (ix l (k:Int)).Txs x else chnGo C d (l.drop (k+1)) (txsGo C d (ix l (k:Int)).wY 0 (ix l (k:Int)).Txs x).x:=by
 rw[List.drop_eq_getElem_cons h,ix_get _ _ h]
 rfl
def rtS (s:PS):Int:=if s.r=[]then 0 else ix s.r ((s.r.length:Int)-1)
def treS (s:PS):wo:=⟨rtS s,(s.l.length:Int)⟩
def trGo:List wT->PS->List wo
 |[],_=>[]
 |b::r,s=>treS (applyS s b).s::trGo r (applyS s b).s
def ex0:EX:=⟨[],[],[],0,0,0⟩
def exmC (r:wJ) (l:List wT):EC:=⟨treS (newS r)::trGo l (newS r),(auGo l (newS r)).s.l⟩
def exmY (r:wJ) (l:List wT):EF:=chnGo (exmC r l) r.wC l ex0
def exmS (r:wJ) (l:List wT):wAI×Int:=if rulesE r=0 then(if(auGo l (newS r)).e=0 then(wAI.mk (u64.wrap (u64.wrap (l.length:Int)*r.wQ)) (totA 0 (auGo l (newS r)).s.b).1 (exmY r l).x.hd (exmY r l).x.cr (exmY r l).x.sp (exmY r l).f.wAK (exmY r l).f.wY (exmY r l).f.Tx (exmY r l).f.wAT (exmY r l).f.wAS (exmY r l).f.wAL (exmY r l).f.wAV (exmY r l).f.wAU (exmY r l).f.wAM,0)else(zeroR,(auGo l (newS r)).e))else(zeroR,rulesE r)
def audS (ideal:Bool) (r:wJ) (l:List wT):wAI×Int:=if rulesE r≠0 then(zeroR,rulesE r)else if r.wAE≠2∨ideal=true then(zeroR,1)else exmS r l
structure BLk (l:List wT):Prop where
 r:∀b∈l,BR' b
 tl:∀b∈l,b.Txs.length<=4
 len:l.length<=8
theorem smA_B {r:wJ} {l:List wT} (h:smA r l=true) (hr:∀b∈l,U64 b.wAo/\∀t∈b.Txs,TR t):r.wC<=6/\BLk l:=by
 unfold smA at h
 simp only[Bool.and_eq_true,decide_eq_true_eq,List.all_eq_true]at h
 obtain⟨_,h2,h3,h4⟩:=h
 refine⟨h2,fun b hb=>⟨(hr b hb).1,(hr b hb).2,fun t ht=> ?_⟩,fun b hb=>by have:=(h4 b hb).1;omega,by omega⟩
 exact kmt ((h4 b hb).2 t ht)
theorem kkr {l:List wT} {k:Nat} (h:k<l.length) (s:PS):trGo (l.drop k) s=treS (applyS s l[k]).s::trGo (l.drop (k+1)) (applyS s l[k]).s:=by
 rw[List.drop_eq_getElem_cons h]
 rfl
theorem k3n {s:PS} {b:wT} (h:(applyS s b).e=0):b.wY=(s.p.length:Int)+1/\(applyS s b).s.p.length=s.p.length+1/\(blkS s [] b).e=0/\(applyS s b).s.n=(blkS s [] b).s.n/\(applyS s b).s.l=(blkS s [] b).s.l:=by
 unfold applyS at h ⊢
 split at h
 ·cases h
 ·rename_i h1
  rw[if_neg h1]
  split at h
  ·cases h
  ·rename_i h2
   rw[if_neg h2]
   split at h
   ·rename_i h3;exact(h3 h).elim
   ·rename_i h3
    rw[if_neg h3]
    exact⟨Classical.byContradiction h1,by simp,Classical.byContradiction h3,rfl,rfl⟩
theorem kk8 {s:PS} {c:Nat} (h:PI s c 0) {b:wT} (hc:c+b.Txs.length<=790) (hb:BR' b) (he:(applyS s b).e=0):s.l.length<=(applyS s b).s.l.length:=by
 have hB:=blkS_BI h (by omega) hb
 rw[(k3n he).2.2.2.2]
 obtain⟨x,hx⟩:=hB.l
 rw[hx,List.length_append]
 omega
theorem ex0_k:EXk ex0 0:=⟨Nat.zero_le _,fun y hy=>(by cases hy),rfl,fun p hp=>(by cases hp),List.nodup_nil,fun y hy=>(by cases hy),rfl,rfl⟩
def txV (t:wl):Int:=t.wI-t.wL-t.Fee
def txsV (l:List wl):Int:=(l.map txV).sum
def blsV (l:List wT):Int:=(l.map (fun b=>txsV b.Txs)).sum
theorem klr (n:Int) (t:wl):hidN n t%18446744073709551616=(n+txV t)%18446744073709551616:=by
 unfold hidN txV
 simp only[show∀z,u64.wrap z=z%18446744073709551616 from fun _=>rfl]
 omega
theorem blkGo_n:∀(r:List wl) (s:PS) (m:List Int) (f:Int),(blkGo r s m f).e=0->(blkGo r s m f).s.n%18446744073709551616=(s.n+txsV r)%18446744073709551616
 |[],s,m,f,_=>by simp[blkGo,txsV]
 |t::r,s,m,f,h=>by
  unfold blkGo at h ⊢
  split at h
  ·rename_i h1;exact(h1 h).elim
  ·rename_i h1
   rw[if_neg h1]
   split at h
   ·rename_i h2;exact(h2 h).elim
   ·rename_i h2
    rw[if_neg h2]
    rw[blkGo_n r _ _ _ h]
    have hn:(perfS s t).s.n=hidN s.n t:=by
     unfold perfS at h2 ⊢
     split
     ·rename_i h3;rw[if_pos h3]at h2;exact(h2 h3).elim
     ·rfl
    have:=klr s.n t
    rw[hn,txsV,txsV,List.map_cons,List.sum_cons]
    omega
theorem apply_n {s:PS} {b:wT} (h:(applyS s b).e=0):(applyS s b).s.n%18446744073709551616=(s.n+txsV b.Txs)%18446744073709551616:=by
 obtain⟨_,_,h3,h4,_⟩:=k3n h
 rw[h4]
 unfold blkS at h3 ⊢
 split at h3
 ·rename_i h5;exact(h5 h3).elim
 ·rename_i h5
  rw[if_neg h5]
  split at h3
  ·rename_i h6;exact(h6 h3).elim
  ·rename_i h6
   rw[if_neg h6]
   exact blkGo_n _ _ _ _ (Classical.byContradiction h5)
theorem auGo_n:∀(l:List wT) (s:PS),(auGo l s).e=0->(auGo l s).s.n%18446744073709551616=(s.n+blsV l)%18446744073709551616
 |[],s,_=>by simp[auGo,blsV]
 |b::r,s,h=>by
  unfold auGo at h ⊢
  split at h
  ·rename_i h1
   rw[if_pos h1,auGo_n r _ h,blsV,blsV,List.map_cons,List.sum_cons]
   have:=apply_n h1
   omega
  ·rename_i h1;exact(h1 h).elim
theorem auGo_PI:∀(l:List wT) (s:PS) (c:Nat),PI s c 0->(∀b∈l,BR' b)->(∀b∈l,b.Txs.length<=4)->c+5*l.length<=790->(auGo l s).e=0->PI (auGo l s).s (c+5*l.length) 0/\(auGo l s).s.p.length=s.p.length+l.length/\(auGo l s).s.R=s.R
 |[],s,c,h,_,_,_,_=>⟨h,by simp[auGo],rfl⟩
 |b::r,s,c,h,hb,ht,hc,he=>by
  have hc:c+5*(r.length+1)<=790:=hc
  unfold auGo at he ⊢
  split at he
  ·rename_i h1
   rw[if_pos h1]
   have h4:=ht b (by simp)
   have hP:=(kfu h (by omega) (hb b (by simp)) h1).mono (d:=c+5) (by omega)
   obtain⟨g1,g2,g3⟩:=auGo_PI r _ (c+5) hP (fun x hx=>hb x (by simp[hx])) (fun x hx=>ht x (by simp[hx])) (by omega) he
   refine⟨?_,?_,?_⟩
   ·rw[List.length_cons,show c+5*(r.length+1)=c+5+5*r.length by omega];exact g1
   ·rw[g2,(k3n h1).2.1,List.length_cons];omega
   ·rw[g3];exact apply_R h (by omega) (hb b (by simp))
  ·rename_i h1;exact(h1 he).elim
theorem kc8 {f:Ask} {an:Int}:∀(l:List wK) (ms:List Int),l.length=ms.length->insE f an l ms=0->∀x∈l,x.wAv=true->x.wZ=0
 |[],_,_,_,x,hx,_=>by cases hx
 |y::r,[],hl,_,_,_,_=>by simp at hl
 |y::r,m::ms,hl,h,x,hx,hd=>by
  unfold insE at h
  split at h
  ·rename_i h1;exact(h1 h).elim
  ·rename_i h1
   rcases List.mem_cons.1 hx with rfl|hx
   ·have h1:inE f an m x=0:=Classical.byContradiction h1
    unfold inE at h1
    split at h1
    ·cases h1
    ·split at h1
     ·cases h1
     ·try rw[if_pos hd]at h1
      by_cases h5:x.wZ=0
      ·exact h5
      ·rw[if_pos h5]at h1;cases h1
   ·exact kc8 r ms (by simpa using hl) h x hx hd
theorem kdo {α:Type} (g:α->Int):∀(l:List α) (s:Int),l.foldl (fun s x=>(s+g x)%18446744073709551616) s%18446744073709551616=(s+(l.map g).sum)%18446744073709551616
 |[],s=>by simp
 |x::r,s=>by
  rw[List.foldl_cons,kdo g r,List.map_cons,List.sum_cons]
  omega
theorem valL_in:∀{l:List wK},(∀x∈l,x.wAv=true->x.wZ=0)->valL l=(l.map (·.wZ)).sum
 |[],_=>rfl
 |x::r,h=>by
  have ih:=valL_in (l:=r) fun y hy=>h y (by simp[hy])
  unfold valL at ih ⊢
  rw[List.map_cons,List.map_cons,List.sum_cons,List.sum_cons,ih]
  split
  ·rename_i hd;rw[h x (by simp) hd]
  ·rfl
theorem check_V {t:wl} {d:Int} {w:wV} (h:checkS pkR (stmtS t d) w=0):(outS w.wB-valL w.Ins)%18446744073709551616=txV t%18446744073709551616/\validE t=0:=by
 obtain⟨h1,h2,h3,h4,h5⟩:=k4r.1 h
 have hr:=khd.1 h1
 have hv:validE t=0:=Classical.byContradiction fun hv=>by
  have:=hr.1
  unfold stmtS at this
  rw[if_neg hv]at this
  simp at this
 have hst:stmtS t d=⟨d,t.wW,t.wG,t.wB.map (·.wb),(List.range t.wB.length).map (fun i:Nat=>rhoS (originS t) (i:Int)),t.wI,t.wL,t.Fee,t.wP,bindS t⟩:=if_pos hv
 have hd:=kc8 _ _ hr.2.2.2.2.2.2.2.2.2.1 h2
 have hi:=kdo (·.wZ) w.Ins 0
 have hi:inS w.Ins%18446744073709551616=(0+(w.Ins.map (·.wZ)).sum)%18446744073709551616:=hi
 rw[<-valL_in hd]at hi
 rw[hst]at h5
 have h5:(inS w.Ins+t.wI)%18446744073709551616=((outS w.wB+t.wL)%18446744073709551616+t.Fee)%18446744073709551616:=h5
 refine⟨?_,hv⟩
 unfold txV
 omega
theorem exTd_V {C:EC} {d h:Int} {x:EX} {c:Nat} {t:wl} (hx:EXk x c) (hc:c<=1000) (hd:1<=d/\d<=6) (hf:(exTd C d h x t).f.wAK=0):
  EXk (exTd C d h x t).x (c+1)/\(exTd C d h x t).x.hd%18446744073709551616=(x.hd+txV t)%18446744073709551616/\U64 (exTd C d h x t).x.hd:=by
 obtain⟨g1,g2⟩:=exTx_ok hx hc hd decW_WR hf
 obtain⟨f1,f2,f3,f4,f5⟩:=exTx_un hf
 have hV:=(check_V f2).1
 refine⟨g1,?_,?_⟩
 ·have g2:(exTd C d h x t).x.hd%18446744073709551616=_:=g2
  rw[g2]
  omega
 ·have f5:(exTd C d h x t).x=_:=f5
  rw[f5]
  have:∀z:Int,U64 (u64.wrap z):=fun z=>by
   rw[show u64.wrap z=z%18446744073709551616 from rfl]
   exact⟨by omega,by omega⟩
  exact this _
theorem txsGo_V {C:EC} {d h:Int}:∀(l:List wl) (i:Nat) (x:EX) (c:Nat),EXk x c->c+l.length<=1000->1<=d/\d<=6->U64 x.hd->(txsGo C d h i l x).f.wAK=0->
  EXk (txsGo C d h i l x).x (c+l.length)/\(txsGo C d h i l x).x.hd%18446744073709551616=(x.hd+txsV l)%18446744073709551616/\U64 (txsGo C d h i l x).x.hd
 |[],i,x,c,hx,_,_,hu,_=>⟨hx,by simp[txsGo,txsV],hu⟩
 |t::r,i,x,c,hx,hc,hd,hu,hf=>by
  have hc:c+(r.length+1)<=1000:=hc
  rw[txsGo]at hf ⊢
  split at hf
  ·rename_i h1;exact(h1 hf).elim
  ·rename_i h1
   rw[if_neg h1]
   have h1:(exTd C d h x t).f.wAK=0:=Classical.byContradiction h1
   obtain⟨g1,g2,g3⟩:=exTd_V hx (by omega) hd h1
   obtain⟨k1,k2,k3⟩:=txsGo_V r (i+1) _ (c+1) g1 (by omega) hd g3 hf
   refine⟨?_,?_,k3⟩
   ·rw[List.length_cons,show c+(r.length+1)=c+1+r.length by omega];exact k1
   ·rw[k2,txsV,txsV,List.map_cons,List.sum_cons]
    omega
theorem chnGo_V {C:EC} {d:Int}:∀(l:List wT) (x:EX) (c:Nat),EXk x c->(∀b∈l,b.Txs.length<=4)->c+4*l.length<=1000->1<=d/\d<=6->U64 x.hd->(chnGo C d l x).f.wAK=0->
  EXk (chnGo C d l x).x (c+4*l.length)/\(chnGo C d l x).x.hd%18446744073709551616=(x.hd+blsV l)%18446744073709551616/\U64 (chnGo C d l x).x.hd
 |[],x,c,hx,_,_,_,hu,_=>⟨hx,by simp[chnGo,blsV],hu⟩
 |b::r,x,c,hx,hb,hc,hd,hu,hf=>by
  have hc:c+4*(r.length+1)<=1000:=hc
  have h4:=hb b (by simp)
  rw[chnGo]at hf ⊢
  split at hf
  ·rename_i h1;exact(h1 hf).elim
  ·rename_i h1
   rw[if_neg h1]
   have h1:(txsGo C d b.wY 0 b.Txs x).f.wAK=0:=Classical.byContradiction h1
   obtain⟨g1,g2,g3⟩:=txsGo_V b.Txs 0 x c hx (by omega) hd hu h1
   have g1:EXk (txsGo C d b.wY 0 b.Txs x).x (c+4):=⟨by have:=g1.nl;omega,g1.nr,g1.kv,g1.kp,g1.nd,g1.vr,g1.sp,g1.cr⟩
   obtain⟨k1,k2,k3⟩:=chnGo_V r _ (c+4) g1 (fun y hy=>hb y (by simp[hy])) (by omega) hd g3 hf
   refine⟨?_,?_,k3⟩
   ·rw[List.length_cons,show c+4*(r.length+1)=c+4+4*r.length by omega];exact k1
   ·rw[k2,blsV,blsV,List.map_cons,List.sum_cons]
    omega
theorem aud_bal {r:wJ} {l:List wT} (h0:0<=r.wQ) (h6:r.wC<=6) (hl:BLk l) (he:(audS false r l).2=0) (hk:(audS false r l).1.wAC=0):
  (audS false r l).1.wAg=u64.wrap ((audS false r l).1.wAr+(audS false r l).1.wAe)/\(audS false r l).1.wAh<=(audS false r l).1.wAW:=by
 unfold audS at he hk ⊢
 split at he
 ·rename_i h1;exact(h1 he).elim
 ·rename_i h1
  rw[if_neg h1]at hk ⊢
  have h1:rulesE r=0:=Classical.byContradiction h1
  split at he
  ·cases he
  ·rename_i h2
   rw[if_neg h2]at hk ⊢
   unfold exmS at he hk ⊢
   rw[if_pos h1]at he hk ⊢
   split at he
   ·rename_i h3
    rw[if_pos h3]at hk ⊢
    have hlen:=hl.len
    have hP:=new_PI h1 h0
    obtain⟨p1,p2,p3⟩:=auGo_PI l (newS r) 0 hP hl.r hl.tl (by omega) h3
    have hn:=auGo_n l (newS r) h3
    have hk:(exmY r l).f.wAK=0:=hk
    have hd1:1<=r.wC:=hP.d1
    obtain⟨k1,k2,k3⟩:=chnGo_V l ex0 0 ex0_k hl.tl (by omega) ⟨hd1,h6⟩ (by decide) hk
    have hp0:(newS r).p.length=0:=rfl
    have hpl:(auGo l (newS r)).s.p.length=l.length:=by rw[p2,hp0];omega
    obtain⟨s1,s2⟩:=sup_PI p1 (by omega)
    have hsb:=sup_bd p1 (by omega)
    have hn0:=p1.n
    have hRr:(auGo l (newS r)).s.R.wQ=r.wQ:=by rw[p3];rfl
    have hh:(exmY r l).x.hd=(auGo l (newS r)).s.n:=by
     have e1:(exmY r l).x.hd%18446744073709551616=(0+blsV l)%18446744073709551616:=k2
     have e2:(auGo l (newS r)).s.n%18446744073709551616=(0+blsV l)%18446744073709551616:=hn
     have k3:U64 (exmY r l).x.hd:=k3
     have:=k3.1
     have:=k3.2
     omega
    refine⟨?_,?_⟩
    ·show u64.wrap (u64.wrap (l.length:Int)*r.wQ)=u64.wrap ((totA 0 (auGo l (newS r)).s.b).1+(exmY r l).x.hd)
     rw[s1,hh,s2,hpl,hRr]
    ·show(exmY r l).x.sp<=(exmY r l).x.cr
     have k1:EXk (exmY r l).x (0+4*l.length):=k1
     rw[k1.sp,k1.cr]
     have:=nd_le _ _ k1.nd k1.kp
     omega
   ·rename_i h3;exact(h3 he).elim
theorem kk2 {P:Program} {f:FuncId} {a b n:Int} {e:TypeId} {m:Int} (hs:SoundH P f [.d (.int .u64 m),.d (.int .u64 6),.d (.slice 1 [.int .u64 a,.int .u64 b])] [] (.d (.int .u64 n)) []) {G:Gh} {w:World} (hW:Go.Bv.WR (tkOf G []) w.heap.size G w (hpOf 0 []) 0):
  Calls P f #[.int .u64 m,.int .u64 6,.slice (some ⟨w.heap.size,0,none⟩) 2 2] (w.alloc (.cells #[.int .u64 a,.int .u64 b] e)) fun e w' =>∃v G',e= .returned v/\v= .int .u64 n/\Go.Bv.WR (tkOf G []) w.heap.size G' w' (hpOf 0 []) 0/\Fr (tkOf G []) G w G' w'/\Ex (tkOf G []) G w G' w' (hpOf 0 []) 0:=by
 have hR0:R (tkOf G []) G w 0 ⟨[],hpOf 0 [],0⟩ ⟨#[],[]⟩ G w:=
  ⟨⟨rfl,rfl,rfl,Nat.le_refl _,fun _ _ _=>⟨rfl,rfl⟩,Mono.refl _ _⟩,hW,rfl,rfl,fun t=> .any _,⟨Nat.le_refl _,fun _ _ _ h=>h,fun tok t' _ h=>⟨t',h,Nat.le_refl _,fun _ _ hb=>⟨hb,rfl,rfl⟩⟩,fun _ _ h=>h⟩⟩
 obtain⟨G1,hR1,hp⟩:=hR0.alloc e [.int .u64 a,.int .u64 b] [.d (.int .u64 a),.d (.int .u64 b)] rfl (fun x hx=>by
  simp only[List.mem_cons,List.mem_nil_iff,or_false]at hx
  rcases hx with rfl|rfl<;>rfl) (fun j v x hv hx=>by
  match j with
  |0=>cases hv;cases hx;exact .d _ _ (.int _ _)
  |1=>cases hv;cases hx;exact .d _ _ (.int _ _)
  |j+2=>simp at hv)
 obtain⟨G2,hR2,he,hv⟩:=hR1.freeze (id:=0) (l:=[.int .u64 a,.int .u64 b]) (sz:=1) (n:=2) rfl (fun d hd=>by
  simp only[List.mem_cons,List.mem_nil_iff,or_false]at hd
  rcases hd with rfl|rfl<;>exact⟨rfl,fun c hc=>by simp only[D.cells,List.mem_singleton]at hc;subst hc;rfl⟩) rfl
 have hT:(tkOf G []).nx=0:=rfl
 have hw1:(w.alloc (.cells #[.int .u64 a,.int .u64 b] e)).heap[w.heap.size]? =some (.cells #[.int .u64 a,.int .u64 b] e (0,0)):=by show(w.heap.push _)[w.heap.size]? =_;simp
 have hrow:RepV G2 (w.alloc (.cells #[.int .u64 a,.int .u64 b] e)) ((1,.tip 2)::(0,.dead)::(0,.cells [.d (.int .u64 a),.d (.int .u64 b)])::hpOf 0 []) 2 (.slice (some ⟨w.heap.size,0,none⟩) 2 2) (.row 0 0 2 1):=by
  cases hp with
  |ptr _ _ b' hid hl=>exact .row 0 0 2 1 w.heap.size 0 2 2 (by omega) (he.loc 0 _ hid hl) (fun _=>rfl) (Nat.le_refl _) (by decide) (csz_of hw1) (by omega)
 have hsl:=(hv _ hrow).le1 (y:= .d (.slice 1 [.int .u64 a,.int .u64 b])) ⟨rfl,rfl⟩
 refine(hR2.call (vs:=[.int .u64 m,.int .u64 6,.slice (some ⟨w.heap.size,0,none⟩) 2 2]) hs (fun i o hg=> ?_) (ids:=[]) (fb:=2) (nx' :=2) trivial List.nodup_nil ⟨Nat.le_refl _,fun o ho=>by cases ho⟩ (.inl ⟨rfl,rfl⟩) rfl (fun j v x hv hx=> ?_) trivial).mono fun e w' ⟨v,G',h1,h2,h3,_⟩=> ?_
 ·simp only[Hp.get,hpOf]at hg
  split at hg
  ·cases hg;trivial
  ·split at hg
   ·cases hg;trivial
   ·cases hg
 ·match j with
  |0=>cases hv;cases hx;exact⟨.d _ _ (.int _ _),trivial⟩
  |1=>cases hv;cases hx;exact⟨.d _ _ (.int _ _),trivial⟩
  |2=>cases hv;cases hx;exact⟨hsl,trivial⟩
  |j+3=>simp at hv
 ·have h4:=h2.le (s' :=⟨[],hpOf 0 [],0⟩) ⟨⟨Nat.le_refl _,Nat.zero_le _⟩,trivial,trivial⟩
  have h3:RepV G' w' _ _ v (.d (.int .u64 n)):=h3
  exact⟨v,G',h1,h3.int_inv,h4.wr,h4.fr,h4.ex⟩
theorem kiw {a b n:Int} (hs:SoundH Tryz.prog 79 [.d (.int .u64 18446744069414584321),.d (.int .u64 6),.d (.slice 1 [.int .u64 a,.int .u64 b])] [] (.d (.int .u64 n)) []):SoundH Tryz.prog 167 [.agg [.d (.int .u64 a),.d (.int .u64 b)]] [] (.d (.int .u64 n)) []:=by
 intro G w vs hlen hrep hW
 match vs,hlen with
 |[v0],_=>
  obtain⟨us,rfl,h1,h2,h3⟩:=(hrep 0 v0 _ rfl rfl).agg_inv
  match us,h1 with
  |[u0,u1],_=>
   have e0:=(h3 0 u0 _ rfl rfl).int_inv
   have e1:=(h3 1 u1 _ rfl rfl).int_inv
   subst e0
   subst e1
   have hc:=kk2 (e:=106) hs hW
   clear hrep h2 h3 hs
   go_enter Tryz.func167,Tryz.ntmps167
   go_wp2_with (go_at_call 79;refine hc.mono ?_;rintro e w' ⟨v,G',rfl,rfl,q1,q2,q3⟩)
   go_ret
   exact⟨_,G',rfl,.d _ _ (.int _ _),q1,q2,q3⟩
theorem k8g.tr {t:wl} (h:k8g t):TR t/\t.wB.length<=9223372036854775807:=
 ⟨⟨h.wW,h.wG.2,fun x hx=>let y:=h.wB.2 x hx;⟨y.wb,y.wAc,y.wAX,y.wAA.2⟩,h.wI,h.wL,h.Fee,h.wP,h.wX,by have:=h.wAZ;omega,h.wAH.2⟩,h.wB.1⟩
theorem k63 {p0:wJ} {p1:List wT} (h0:k9r p0) (h2:p1.length<=9223372036854775807/\∀y∈p1,k3q y):0<=p0.wQ/\(∀b∈p1,U64 b.wAo/\∀t∈b.Txs,TR t)/\p1.length<=9223372036854775807/\∀b∈p1,b.Txs.length<=9223372036854775807/\∀t∈b.Txs,t.wB.length<=9223372036854775807:=
 ⟨h0.wQ.1,fun b hb=>⟨(h2.2 b hb).wAo,fun t ht=>(((h2.2 b hb).Txs.2 t ht).tr).1⟩,h2.1,fun b hb=>⟨(h2.2 b hb).Txs.1,fun t ht=>(((h2.2 b hb).Txs.2 t ht).tr).2⟩⟩
noncomputable def k87:Con TB.den:= .t ⟨22,[.one (.ptr 0 0)],[.cells [.d (.bool),zqu,zqi,.d (.sl (.st 4)),.mp 1,.mp 2,.mp 3],.map (.str) yqi,.map (.str) (.sl yqu),.map (.str) (.bool)],(.one (.one (.d (.bool)))),[.cells [.d (.bool),zqu,zqi,.d (.sl (.st 4)),.mp 1,.mp 2,.mp 3],.map (.str) yqi,.map (.str) (.sl yqu),.map (.str) (.bool)],false⟩ [.bool,yqu,yqi,.sl (.st 4),.sl (.str),.sl yqi,.sl (.str),.sl (.sl yqu),.sl (.str),.sl (.bool)] [.bool,.bool,yqu,yqi,.sl (.st 4),.sl (.str),.sl yqi,.sl (.str),.sl (.sl yqu),.sl (.str),.sl (.bool)] [] fun(Aa:Bool) (Ab Ad:Int) (Ac:List wE) (w1k:List ByteArray) (w1v:List Int) (w2k:List ByteArray) (w2v:List (List Int)) (w3k:List ByteArray) (w3v:List Bool)=>(Aa,Aa,Ab,Ad,Ac,w1k,w1v,w2k,w2v,w3k,w3v,())
theorem k8p:k87.Ok Tryz.prog TB:=ptv Bs Tryz.func22 .no c0 (Q:=∀(Aa:Bool) (Ab Ad:Int) (Ac:List wE) (w1k:List ByteArray) (w1v:List Int) (w2k:List ByteArray) (w2v:List (List Int)) (w3k:List ByteArray) (w3v:List Bool),∀r0:Bool,Aa=r0->∀Ao:Bool,Aa=Ao->∀Am:Int,Ab=Am->∀Ap:Int,Ad=Ap->∀Aq:List wE,Ac=Aq->∀e1k:List ByteArray,w1k=e1k->∀e1v:List Int,w1v=e1v->∀e2k:List ByteArray,w2k=e2k->∀e2v:List (List Int),w2v=e2v->∀e3k:List ByteArray,w3k=e3k->∀e3v:List Bool,w3v=e3v-> 
Aa=r0/\Aa=Ao/\Ab=Am/\Ad=Ap/\Ac=Aq/\w1k=e1k/\w1v=e1v/\w2k=e2k/\w2v=e2v/\w3k=e3k/\w3v=e3v) (by kernel_rfl)<|by
 rintro Aa Ab Ad Ac w1k w1v w2k w2v w3k w3v _ rfl _ rfl _ rfl _ rfl _ rfl _ rfl _ rfl _ rfl _ rfl _ rfl _ rfl
 exact(by repeat' first|apply And.intro|exact rfl|exact True.intro)
noncomputable def kii:Con TB.den:= .g ⟨147,[.one (.ptr 0 0),.one (zqu)],[.cells [.mp 1],.map yqu (.bool)],(.one (.one (.d (.bool)))),[.cells [.mp 1],.map yqu (.bool)],false⟩ [yqu,.sl yqu,.sl (.bool)] [.bool,.sl yqu,.sl (.bool)] [] fun(p1:Int) (w1k:List Int) (w1v:List Bool)=>(w1v=trs w1k,(decide (p1∈w1k):Bool),w1k,w1v,())
theorem kj1:kii.Ok Tryz.prog TB:=prv Bs Tryz.func147 .no c0 (Q:=∀(p1:Int) (w1k:List Int) (w1v:List Bool),(w1v=trs w1k)->∀r0:Bool,(decide (p1∈w1k))=r0->∀e1k:List Int,w1k=e1k->∀e1v:List Bool,w1v=e1v-> 
w1k.length=w1v.length/\let v1:Bool:=mVal (BEq.beq p1) w1k w1v false
v1=r0/\w1k=e1k/\w1v=e1v) (by kernel_rfl)<|by
 rintro p1 w1k w1v h _ rfl _ rfl _ rfl
 subst h
 exact⟨by simp[trs],sVal _ _,rfl,rfl⟩
noncomputable def k93:Con TB.den:= .g ⟨146,[.one (.ptr 0 0)],[.cells [zqi,zqi,zqi,zqi,zqi,zqu,zqi,zqi,zqu,zqi,zqi,zql,.row 1,.ptr 2 0,.d (.sl (.st 9)),zqu,.row 3,.row 4],.vec yqu,.cells [.mp 5],.vec yqu,.vec (.st 10),.map yqu (.bool)],(.one (.one (.view 3))),[.cells [zqi,zqi,zqi,zqi,zqi,zqu,zqi,zqi,zqu,zqi,zqi,zql,.row 1,.ptr 2 0,.d (.sl (.st 9)),zqu,.row 3,.row 4],.vec yqu,.cells [.mp 5],.vec yqu,.vec (.st 10),.map yqu (.bool)],false⟩ [yqi,yqi,yqi,yqi,yqi,yqu,yqi,yqi,yqu,yqi,yqi,.sl yqu,.sl (.st 9),yqu,.sl yqu,.sl yqu,.sl (.st 10),.sl yqu,.sl (.bool)] [yqi,yqi,yqi,yqi,yqi,yqi,yqi,yqu,yqi,yqi,yqu,yqi,yqi,.sl yqu,.sl (.st 9),yqu,.sl yqu,.sl yqu,.sl (.st 10),.sl yqu,.sl (.bool)] [] fun(Aa Ab Ad Ac As At Ai Ak Al Aj Af:Int) (Ag:List Int) (Ae:List wA) (Ah:Int) (w1 w3:List Int) (w4:List wS) (w5k:List Int) (w5v:List Bool)=>((1<=Ai/\Ai<=100)/\w3.length<=1000000,(((w3.length-Ai.toNat:Nat):Int):Int),(((w3.length-(w3.length-Ai.toNat):Nat):Int):Int),Aa,Ab,Ad,Ac,As,At,Ai,Ak,Al,Aj,Af,Ag,Ae,Ah,w1,w3,w4,w5k,w5v,())
theorem k9u:k93.Ok Tryz.prog TB:=prv Bs Tryz.func146 .no c0 (Q:=∀(Aa Ab Ad Ac As At Ai Ak Al Aj Af:Int) (Ag:List Int) (Ae:List wA) (Ah:Int) (w1 w3:List Int) (w4:List wS) (w5k:List Int) (w5v:List Bool),((1<=Ai/\Ai<=100)/\w3.length<=1000000)->∀r0o:Int,((w3.length-Ai.toNat:Nat):Int)=r0o->∀r0n:Int,((w3.length-(w3.length-Ai.toNat):Nat):Int)=r0n->∀Ao:Int,Aa=Ao->∀Am:Int,Ab=Am->∀Ap:Int,Ad=Ap->∀Aq:Int,Ac=Aq->∀Bi:Int,As=Bi->∀Bj:Int,At=Bj->∀Be:Int,Ai=Be->∀Bf:Int,Ak=Bf->∀Bg:Int,Al=Bg->∀Bh:Int,Aj=Bh->∀Ba:Int,Af=Ba->∀Bb:List Int,Ag=Bb->∀Bc:List wA,Ae=Bc->∀Bd:Int,Ah=Bd->∀e1:List Int,w1=e1->∀e3:List Int,w3=e3->∀e4:List wS,w4=e4->∀e5k:List Int,w5k=e5k->∀e5v:List Bool,w5v=e5v-> 
let v1:Int:=i64.wrap ((w3.length:Int)-(if 0<Ai then Ai else 0))
(0<=(if 0<v1 then v1 else 0))/\(if 0<v1 then v1 else 0)<=(w3.length:Int)/\(w4.length=w4.length)/\(w3.length=w3.length)/\(w1.length=w1.length)/\(((if 0<v1 then v1 else 0).toNat:Nat):Int)=r0o/\((w3.length-(if 0<v1 then v1 else 0).toNat:Nat):Int)=r0n/\Aa=Ao/\Ab=Am/\Ad=Ap/\Ac=Aq/\As=Bi/\At=Bj/\Ai=Be/\Ak=Bf/\Al=Bg/\Aj=Bh/\Af=Ba/\Ag=Bb/\Ae=Bc/\Ah=Bd/\w1=e1/\w3=e3/\w4=e4/\w5k=e5k/\w5v=e5v) (by kernel_rfl)<|by
 rintro Aa Ab Ad Ac As At Ai Ak Al Aj Af Ag Ae Ah w1 w3 w4 w5k w5v h _ rfl _ rfl _ rfl _ rfl _ rfl _ rfl _ rfl _ rfl _ rfl _ rfl _ rfl _ rfl _ rfl _ rfl _ rfl _ rfl _ rfl _ rfl _ rfl _ rfl _ rfl
 obtain⟨⟨h1,h2⟩,h3⟩:=h
 refine ?_
 intro v1
 have hv:v1=(w3.length:Int)-Ai:=by
  show i64.wrap _=_
  rw[if_pos (show 0<Ai by omega),k15 _ (by omega) (by omega)]
 have e:(if 0<v1 then v1 else 0)=((w3.length-Ai.toNat:Nat):Int):=by
  rw[hv]
  split<;>omega
 rw[e,Int.toNat_natCast]
 exact⟨by omega,by omega,rfl,rfl,rfl,rfl,rfl,rfl,rfl,rfl,rfl,rfl,rfl,rfl,rfl,rfl,rfl,rfl,rfl,rfl,rfl,rfl,rfl,rfl,rfl,rfl⟩
noncomputable def kf4:Con TB.den:= .tp 236 [yqu] [.bool] [] fun(p0:Int)=>(false,())
theorem ki0:kf4.Ok Tryz.prog TB:=qtv Bs Tryz.func236 .no c0 (Q:=∀(p0:Int),∀r0:Bool,(false:Bool)=r0-> 
(p0 !=p0)=r0) (by kernel_rfl)<|by
 rintro p0 _ rfl
 exact(by simp)
noncomputable def kc9:Con TB.den:= .tp 226 [yqu,yqu] [yqi] [] fun(p0 p1:Int)=>((cmp3 p0 p1:Int),())
theorem kdc:kc9.Ok Tryz.prog TB:=qtv Bs Tryz.func226 .no (ki0.c c0) (Q:=∀(p0 p1:Int),∀r0:Int,cmp3 p0 p1=r0-> 
(false=true->
(false=true->
0=r0)/\
(false=false->
(-1)=r0))/\
(false=false->
(false=true->
1=r0)/\
(false=false->
(decide (p0<p1)=true->
(-1)=r0)/\
(decide (p0<p1)=false->
(decide (p1<p0)=true->
1=r0)/\
(decide (p1<p0)=false->
0=r0))))) (by kernel_rfl)<|by
 rintro p0 p1 _ rfl
 refine⟨fun e=>(by cases e),fun _=>⟨fun e=>(by cases e),fun _=> ?_⟩⟩
 simp only[decide_eq_true_eq,decide_eq_false_iff_not]
 unfold cmp3
 exact⟨fun h=>by simp[h],fun h=>⟨fun h2=>by simp[h,h2],fun h2=>by simp[h,h2]⟩⟩
noncomputable def k3m:Con TB.den:= .tp 225 [.st 9,yqu] [yqi] [] fun(p0:wA) (p1:Int)=>((cmp3 p0.ID p1:Int),())
theorem k42:k3m.Ok Tryz.prog TB:=qtv Bs Tryz.func225 .no (kdc.c c0) (Q:=∀(p0:wA) (p1:Int),∀r0:Int,cmp3 p0.ID p1=r0-> 
(cmp3 p0.ID p1)=r0) (by kernel_rfl)<|by
 rintro p0 p1 _ rfl
 exact rfl
noncomputable def k36:Con TB.den:= .g ⟨224,[.one (.d (.sl (.st 9))),.one (zqu),.one (.k (.fn 225))],[],(.tup [.one (zqi),.one (.d (.bool))]),[],false⟩ [.sl (.st 9),yqu] [yqi,.bool] [] fun(p0:List wA) (p1:Int)=>(Srt p0/\p0.length<4611686018427387904,((lb p0 p1:Int):Int),(fnd p0 p1:Bool),())
theorem k3a:k36.Ok Tryz.prog TB:=prv Bs Tryz.func224 (.r 2 (.nd [] (.lp [] ⟨[],[],[9,10],[.one (zqi),.one (zqi)],[]⟩ .no) [] .no)) (k42.c c0) (Q:=∀(p0:List wA) (p1:Int),(Srt p0/\p0.length<4611686018427387904)->∀r0:Int,(lb p0 p1:Int)=r0->∀r1:Bool,fnd p0 p1=r1-> 
∃(I1:Int->Int->Prop) (M1:Int->Int->Nat),I1 0 (p0.length:Int)/\∀(b1 f1:Int),(I1 b1 f1->
(decide (b1<f1)=true->
let v2:Int:=u64.wrap (i64.wrap (b1+f1))
(0<=i64.wrap (ishr .u64 v2 1))/\i64.wrap (ishr .u64 v2 1)<(p0.length:Int)/\let r3:Int:=(cmp3 (ix p0 (i64.wrap (ishr .u64 v2 1))).ID p1)
(decide (r3<0)=true->
let v4:Int:=i64.wrap ((i64.wrap (ishr .u64 v2 1))+1)
I1 v4 f1/\M1 v4 f1<M1 b1 f1)/\
(decide (r3<0)=false->
I1 b1 (i64.wrap (ishr .u64 v2 1))/\M1 b1 (i64.wrap (ishr .u64 v2 1))<M1 b1 f1))/\
(decide (b1<f1)=false->
(decide (b1<(p0.length:Int))=true->
(0<=b1)/\b1<(p0.length:Int)/\b1=r0/\((cmp3 (ix p0 b1).ID p1)==0)=r1)/\
(decide (b1<(p0.length:Int))=false->
b1=r0/\false=r1)))) (by kernel_rfl)<|by
 rintro p0 p1 h _ rfl _ rfl
 obtain⟨hs,hl⟩:=h
 refine(⟨(fun a b=>∃i j:Nat,a=(i:Int)/\b=(j:Int)/\i<=j/\j<=p0.length/\(∀k (h:k<p0.length),k<i->p0[k].ID<p1)/\(∀k (h:k<p0.length),j<=k->p1<=p0[k].ID)),(fun a b=>(b-a).toNat),⟨0,p0.length,rfl,rfl,by omega,by omega,fun k h hk=>by omega,fun k h hk=>by omega⟩,?_⟩)
 rintro _ _ ⟨i,j,rfl,rfl,hij,hj,h1,h2⟩
 refine⟨fun hlt=> ?_,fun hlt=> ?_⟩
 ·have hlt' :i<j:=by have:=of_decide_eq_true hlt;omega
  intro v2
  have e:i64.wrap (ishr .u64 v2 1)=(((i+j)/2:Nat):Int):=mid_eq i j (by omega)
  rw[e]
  have hm:(i+j)/2<p0.length:=by omega
  rw[ix_get _ _ hm]
  refine⟨by omega,by omega,fun hc=> ?_,fun hc=> ?_⟩
  ·have hc:=cmp3_lt.1 (of_decide_eq_true hc)
   refine⟨⟨(i+j)/2+1,j,inc_i64 _ (by omega),rfl,by omega,hj,fun k h hk=> ?_,h2⟩,?_⟩
   ·rcases Nat.lt_or_ge k ((i+j)/2)with h5|h5
    ·have:=hs _ _ h5 hm;omega
    ·have:k=(i+j)/2:=by omega
     subst this;exact hc
   ·rw[inc_i64 _ (by omega)];(dsimp only;omega)
  ·have hc:¬p0[(i+j)/2].ID<p1:=fun hh=>of_decide_eq_false hc (cmp3_lt.2 hh)
   refine⟨⟨i,(i+j)/2,rfl,rfl,by omega,by omega,h1,fun k h hk=> ?_⟩,by(dsimp only;omega)⟩
   rcases Nat.lt_or_ge ((i+j)/2) k with h5|h5
   ·have:=hs _ _ h5 h;omega
   ·have:k=(i+j)/2:=by omega
    subst this;omega
 ·have hij' :i=j:=by have:=of_decide_eq_false hlt;omega
  subst hij'
  have hb:lb p0 p1=i:=lb_eq p0 p1 i hj h1 (fun h=>h2 i h (by omega))
  refine⟨fun hi=> ?_,fun hi=> ?_⟩
  ·have hi:i<p0.length:=by have:=of_decide_eq_true hi;omega
   refine⟨by omega,by omega,by rw[hb],?_⟩
   unfold fnd
   rw[hb,ix_get _ _ hi,List.getElem?_eq_getElem hi]
   show((cmp3 p0[i].ID p1)==0)=decide (p0[i].ID=p1)
   rw[Bool.eq_iff_iff]
   simp[cmp3_eq]
  ·have hi:¬i<p0.length:=by have:=of_decide_eq_false hi;omega
   refine⟨by rw[hb],?_⟩
   unfold fnd
   rw[hb,List.getElem?_eq_none (by omega)]
noncomputable def kbl:Con TB.den:= .gp 195 [.st 15,yqu] [yqi,.bool] [] fun(p0:wg) (p1:Int)=>(Srt p0.wD/\p0.wD.length<4611686018427387904,((lb p0.wD p1:Int):Int),(fnd p0.wD p1:Bool),())
theorem k52:kbl.Ok Tryz.prog TB:=qrv Bs Tryz.func195 .no (k3a.c c0) (Q:=∀(p0:wg) (p1:Int),(Srt p0.wD/\p0.wD.length<4611686018427387904)->∀r0:Int,(lb p0.wD p1:Int)=r0->∀r1:Bool,fnd p0.wD p1=r1-> 
(Srt p0.wD/\p0.wD.length<4611686018427387904)/\(lb p0.wD p1:Int)=r0/\(fnd p0.wD p1)=r1) (by kernel_rfl)<|by
 rintro p0 p1 h _ rfl _ rfl
 exact⟨h,rfl,rfl⟩
noncomputable def kco:Con TB.den:= .bp 151 [.st 15,yqu] [yqu,yqu] fun(p0:wg) (p1:Int)=>(Srt p0.wD/\p0.wD.length<4611686018427387904,getA p0.wD p1,fun R=>(R.wU,R.wX,()))
theorem k6n:kco.Ok Tryz.prog TB:=qbv Bs Tryz.func151 .no (k52.c c0) (Q:=∀(p0:wg) (p1:Int),(Srt p0.wD/\p0.wD.length<4611686018427387904)->∀R,getA p0.wD p1=R-> 
(Srt p0.wD/\p0.wD.length<4611686018427387904)/\((!(fnd p0.wD p1))=true->
0=R.wU/\0=R.wX)/\
((!(fnd p0.wD p1))=false->
(0<=(lb p0.wD p1:Int))/\(lb p0.wD p1:Int)<(p0.wD.length:Int)/\let v2:Int:=(ix p0.wD (lb p0.wD p1:Int)).wU
(0<=(lb p0.wD p1:Int))/\(lb p0.wD p1:Int)<(p0.wD.length:Int)/\let v3:Int:=(ix p0.wD (lb p0.wD p1:Int)).wX
v2=R.wU/\v3=R.wX)) (by kernel_rfl)<|by
 rintro p0 p1 h R hR
 subst hR
 refine⟨h,fun hh=> ?_,fun hh=> ?_⟩
 ·have hf:fnd p0.wD p1=false:=by simpa using hh
  rw[getA_no h.1 hf]
  exact⟨rfl,rfl⟩
 ·have hf:fnd p0.wD p1=true:=by simpa using hh
  obtain⟨hb,_⟩:=k48 hf
  rw[getA_of h.1 hf hb,ix_get _ _ hb]
  exact⟨by omega,by omega,by omega,by omega,rfl,rfl⟩
noncomputable def k3b:Con TB.den:= .g ⟨71,[.one (.d (.sl (.st 9)))],[],(.one (.one (.own 0))),[.tip (.st 9)],false⟩ [.sl (.st 9)] [.sl (.st 9)] [] fun(p0:List wA)=>(p0.length<=100000,p0,())
theorem k3i:k3b.Ok Tryz.prog TB:=prv Bs Tryz.func71 (.r 0 (.nd [] (.r 0 (.nd [] (.r 0 (.rt [.tok 2 (.st 9)])) [] .no)) [] .no)) c0 (Q:=∀(p0:List wA),(p0.length<=100000)->∀e0:List wA,p0=e0-> 
∀z4:Bool,(z4=true->p0=[])->(z4=true->
(([]:List wA)=([]:List wA))/\([]:List wA)=e0)/\
(z4=false->
(([]:List wA).length+p0.length)*24<=140737488355328/\([]:List wA).length+p0.length<=maxLen/\(([]:List wA)++p0=([]:List wA)++p0)/\([]:List wA)++p0=e0)) (by kernel_rfl)<|by
 rintro p0 h _ rfl
 exact fun z hz=>⟨fun h=>⟨rfl,(hz h).symm⟩,fun _=>⟨by simp;omega,by simp;unfold maxLen;omega,rfl,rfl⟩⟩
noncomputable def kd5:Con TB.den:= .gp 153 [.st 15,.st 9] [.st 15] [] fun(p0:wg) (p1:wA)=>(Srt p0.wD/\p0.wD.length<=1000,(wg.mk (putA p0.wD p1):wg),())
theorem k6s:kd5.Ok Tryz.prog TB:=qrv Bs Tryz.func153 (.r 2 (.jn ⟨[3],[.tip (.st 9)],[7],[.one (.own 0)],[]⟩ [] (.jn ⟨[],[],[27],[.one (.d (.bool))],[]⟩ [] .no [] .no) [] (.jn ⟨[],[],[5],[.one (zqi)],[]⟩ [] .no [] .no))) (k52.c (k3i.c c0)) (Q:=∀(p0:wg) (p1:wA),(Srt p0.wD/\p0.wD.length<=1000)->∀r0:wg,(wg.mk (putA p0.wD p1))=r0-> 
(Srt p0.wD/\p0.wD.length<4611686018427387904)/\(0<=(lb p0.wD p1.ID:Int))/\(lb p0.wD p1.ID:Int)<=(p0.wD.length:Int)/\let v1:List wA:=p0.wD.take (lb p0.wD p1.ID:Int).toNat
(v1.length<=100000)/\∀J1:(List wA)->Prop,(∀(b1:List wA),
(∀J3:Int->Prop,(∀(i1:Int),
((0<=i1)/\i1<=(p0.wD.length:Int)/\b1.length=b1.length/\(b1.length+(p0.wD.drop i1.toNat).length)*24<=140737488355328/\b1.length+(p0.wD.drop i1.toNat).length<=maxLen/\b1++(p0.wD.drop i1.toNat)=r0.wD)->J3 i1)->
((fnd p0.wD p1.ID)=true->
let v2:Int:=i64.wrap ((lb p0.wD p1.ID:Int)+1)
J3 v2)/\
((fnd p0.wD p1.ID)=false->
J3 (lb p0.wD p1.ID:Int)))->J1 b1)->
∀J2:Bool->Prop,(∀(f1:Bool),
((f1=true->
v1.length=v1.length/\(v1.length+[p1].length)*24<=140737488355328/\v1.length+[p1].length<=maxLen/\(v1++[p1]=v1++[p1])/\J1 (v1++[p1]))/\
(f1=false->
(v1=v1)/\J1 v1))->J2 f1)->
((p1.wU !=0)=true->
J2 true)/\
((p1.wU !=0)=false->
J2 (p1.wX !=0))) (by kernel_rfl)<|by
 rintro p0 p1 h _ rfl
 obtain⟨hs,hl⟩:=h
 have hlb:=lb_le p0.wD p1.ID
 refine⟨⟨hs,by omega⟩,by omega,by omega,?_⟩
 simp only[Int.toNat_natCast]
 refine⟨by simp;omega,fun J1 j1=> ?_⟩
 have hJ1:∀m:List wA,m=p0.wD.take (lb p0.wD p1.ID)++(if p1.wU≠0∨p1.wX≠0 then [p1]else [])->J1 m:=by
  intro m hm
  have hml:m.length<=1001:=by
   rw[hm];simp only[List.length_append,List.length_take];split<;>simp<;>omega
  refine j1 _ fun J3 j3=> ?_
  have hJ3:∀n:Nat,n<=p0.wD.length->m++p0.wD.drop n=putA p0.wD p1->J3 (n:Int):=by
   intro n hn he
   have:=(List.length_drop:(p0.wD.drop n).length=_)
   refine j3 _ ⟨by omega,by omega,by first|exact rfl|exact True.intro,?_,?_,?_⟩
   ·simp only[Int.toNat_natCast];omega
   ·simp only[Int.toNat_natCast];unfold maxLen;omega
   ·simp only[Int.toNat_natCast];exact he
  refine⟨fun hf=> ?_,fun hf=> ?_⟩
  ·obtain⟨hb,_⟩:=k48 hf
   rw[inc_i64 _ (by omega)]
   refine hJ3 _ (by omega) ?_
   rw[hm]
   unfold putA
   rw[hf]
   rfl
  ·refine hJ3 _ (by omega) ?_
   rw[hm]
   unfold putA
   rw[hf]
   rfl
 intro J2 j2
 have hJ2:∀b:Bool,(b=true↔(p1.wU≠0∨p1.wX≠0))->J2 b:=by
  intro b hb
  refine j2 _ ⟨fun e=> ?_,fun e=> ?_⟩
  ·have hlt:(p0.wD.take (lb p0.wD p1.ID)).length<=1000:=by rw[List.length_take];omega
   refine⟨by first|exact rfl|exact True.intro,(len24 _ _ (Nat.le_trans hlt (by decide))).1,(len24 _ _ (Nat.le_trans hlt (by decide))).2,by first|exact rfl|exact True.intro,hJ1 _ ?_⟩
   rw[if_pos (hb.1 e)]
  ·refine⟨by first|exact rfl|exact True.intro,hJ1 _ ?_⟩
   rw[if_neg (fun hh=>by rw[hb.2 hh]at e;cases e)]
   exact(List.append_nil _).symm
 refine⟨fun e=>hJ2 _ ?_,fun e=>hJ2 _ ?_⟩
 ·have:p1.wU≠0:=by simpa using e
  simp[this]
 ·have:p1.wU=0:=by simpa using e
  simp[this]
noncomputable def k9q:Con TB.den:= .gp 148 [.st 15,yqu,yqu,yqu] [.st 15,yqi] [] fun(p0:wg) (p1 p2 p3:Int)=>(OkA p0.wD/\U64 p2/\U64 p3,(wg.mk (debitA p0.wD p1 p2 p3).1:wg),((debitA p0.wD p1 p2 p3).2:Int),())
theorem k4h:k9q.Ok Tryz.prog TB:=qrv Bs Tryz.func148 (.r 2 (.nd [] (.jn ⟨[],[],[27],[.one (.d (.bool))],[]⟩ [] .no [] .no) [] .no)) (k6n.c (k6s.c c0)) (Q:=∀(p0:wg) (p1 p2 p3:Int),(OkA p0.wD/\U64 p2/\U64 p3)->∀r0:wg,(wg.mk (debitA p0.wD p1 p2 p3).1)=r0->∀r1:Int,((debitA p0.wD p1 p2 p3).2)=r1-> 
(Srt p0.wD/\p0.wD.length<4611686018427387904)/\((p2==0)=true->
([]:List wA)=r0.wD/\1=r1)/\
((p2==0)=false->
∀J1:Bool->Prop,(∀(b1:Bool),
((b1=true->
([]:List wA)=r0.wD/\20=r1)/\
(b1=false->
let v2:Bool:=decide (((getA p0.wD p1).wU)<p2)
(v2=true->
([]:List wA)=r0.wD/\15=r1)/\
(v2=false->
let v3:Int:=u64.wrap (((getA p0.wD p1).wU)-p2)
(Srt p0.wD/\p0.wD.length<=1000)/\let r4:List wA:=(putA p0.wD (wA.mk p1 v3 (u64.wrap (p3+1))))
r4=r0.wD/\0=r1)))->J1 b1)->
((p3 !=((getA p0.wD p1).wX))=true->
J1 true)/\
((p3 !=((getA p0.wD p1).wX))=false->
J1 (p3==18446744073709551615)))) (by kernel_rfl)<|by
 rintro p0 p1 p2 p3 h _ rfl _ rfl
 obtain⟨h,⟨ha,ha'⟩,hn,hn'⟩:=h
 obtain⟨g1,g2⟩:=getA_ok h p1
 refine⟨⟨h.1,by have:=h.2.1;omega⟩,fun hh=> ?_,fun hh J1 j=> ?_⟩
 ·have:p2=0:=by simpa using hh
  simp[debitA,this]
 have h0:p2≠0:=by simpa using hh
 have key:∀b:Bool,(b=true↔(p3≠(getA p0.wD p1).wX∨p3=18446744073709551615))->J1 b:=by
  intro b hb
  refine j _ ⟨fun e=> ?_,fun e=> ?_⟩
  ·simp only[debitA,if_neg h0,if_pos (hb.1 e)]
   exact⟨by first|exact rfl|exact True.intro,by first|exact rfl|exact True.intro⟩
  ·have h1:¬(p3≠(getA p0.wD p1).wX∨p3=18446744073709551615):=fun hh=>by rw[hb.2 hh]at e;cases e
   simp only[debitA,if_neg h0,if_neg h1]
   refine⟨fun hh=> ?_,fun hh=> ?_⟩
   ·have:=of_decide_eq_true hh
    simp[this]
   ·have h2:=of_decide_eq_false hh
    simp only[if_neg h2]
    have:p3≠18446744073709551615:=fun e=>h1 (.inr e)
    rw[wrap_u64 _ (by omega) (by omega),wrap_u64 (p3+1) (by omega) (by omega)]
    exact⟨⟨h.1,h.2.1⟩,rfl,by first|exact rfl|exact True.intro⟩
 refine⟨fun e=>key _ ?_,fun e=>key _ ?_⟩
 ·have:p3≠(getA p0.wD p1).wX:=by simpa using e
  simp[this]
 ·have:p3=(getA p0.wD p1).wX:=by simpa using e
  rw[this];simp
noncomputable def k83:Con TB.den:= .g ⟨51,[.one (.view 0),.one (zqu)],[.vec yqu],(.one (.one (zqi))),[.vec yqu],false⟩ [yqi,yqi,yqu,.sl yqu] [yqi,.sl yqu] [] fun(p0o p0n p1:Int) (w0:List Int)=>(0<=p0o/\0<=p0n/\p0o.toNat+p0n.toNat<=w0.length/\w0.length<=1000000,(idxI ((w0.drop p0o.toNat).take p0n.toNat) p1:Int),w0,())
theorem k8v:k83.Ok Tryz.prog TB:=prv Bs Tryz.func51 (.r 0 (.nd [] (.r 0 (.lp [] ⟨[],[],[8],[.one (zqi)],[]⟩ .no)) [] .no)) c0 (Q:=∀(p0o p0n p1:Int) (w0:List Int),(0<=p0o/\0<=p0n/\p0o.toNat+p0n.toNat<=w0.length/\w0.length<=1000000)->∀r0:Int,(idxI ((w0.drop p0o.toNat).take p0n.toNat) p1)=r0->∀e0:List Int,w0=e0-> 
∃(I1:Int->Prop) (M1:Int->Nat),I1 0/\∀(b1:Int),(I1 b1->
(decide (b1<(p0n.toNat:Int))=true->
(0<=b1/\b1<(p0n.toNat:Int))/\(0<=((p0o.toNat:Int)+b1)/\((p0o.toNat:Int)+b1)<(w0.length:Int))/\((p1==(ix w0 ((p0o.toNat:Int)+b1)))=true->
b1=r0/\w0=e0)/\
((p1==(ix w0 ((p0o.toNat:Int)+b1)))=false->
I1 (i64.wrap (b1+1))/\M1 (i64.wrap (b1+1))<M1 b1))/\
(decide (b1<(p0n.toNat:Int))=false->
(-1)=r0/\w0=e0))) (by kernel_rfl)<|by
 rintro p0o p0n p1 w0 h _ rfl _ rfl
 obtain⟨h0,h1,h2,h3⟩:=h
 obtain⟨o,rfl⟩:=Int.eq_ofNat_of_zero_le h0
 obtain⟨n,rfl⟩:=Int.eq_ofNat_of_zero_le h1
 simp only[Int.toNat_natCast]at h2 ⊢
 have hl:((w0.drop o).take n).length=n:=by simp;omega
 refine⟨(fun c=>∃i:Nat,c=(i:Int)/\i<=n/\p1∉((w0.drop o).take n).take i),(fun c=>(n-c).toNat),⟨0,rfl,by omega,by simp⟩,?_⟩
 rintro _ ⟨i,rfl,hi,hm⟩
 refine⟨fun e=> ?_,fun e=> ?_⟩
 ·have e:i<n:=by have:=of_decide_eq_true e;omega
  have hw:o+i<w0.length:=by omega
  have hg:((w0.drop o).take n)[i]'(by omega)=w0[o+i]:=by simp
  have hx:ix w0 ((o:Int)+(i:Int))=w0[o+i]:=by rw[show(o:Int)+(i:Int)=((o+i:Nat):Int)by omega,ix_get _ _ hw]
  rw[hx]
  refine⟨by omega,by omega,fun e2=> ?_,fun e2=> ?_⟩
  ·have e2:p1=w0[o+i]:=by simpa using e2
   unfold idxI
   rw[if_pos (by rw[e2,<-hg];exact List.getElem_mem _)]
   have:((w0.drop o).take n).idxOf p1=i:=by
    conv=>lhs;rw[<-List.take_append_drop i ((w0.drop o).take n)]
    rw[List.idxOf_append,if_neg hm,List.drop_eq_getElem_cons (show i<((w0.drop o).take n).length by omega),hg,<-e2,List.idxOf_cons_self,List.length_take]
    omega
   rw[this]
   exact⟨rfl,trivial⟩
  ·have e2:¬p1=w0[o+i]:=by simpa using e2
   rw[inc_i64 _ (by omega)]
   refine⟨⟨i+1,rfl,by omega,?_⟩,by(dsimp only;omega)⟩
   rw[List.take_succ_eq_append_getElem (show i<((w0.drop o).take n).length by omega),hg]
   simp only[List.mem_append,List.mem_singleton]
   exact fun hh=>hh.elim hm e2
 ·have e:i=n:=by have:=of_decide_eq_false e;omega
  rw[List.take_of_length_le (by omega)]at hm
  unfold idxI
  rw[if_neg hm]
  exact⟨rfl,trivial⟩
noncomputable def k5f:Con TB.den:= .g ⟨31,[.one (.view 0),.one (zqu)],[.vec yqu],(.one (.one (.d (.bool)))),[.vec yqu],false⟩ [yqi,yqi,yqu,.sl yqu] [.bool,.sl yqu] [] fun(p0o p0n p1:Int) (w0:List Int)=>(0<=p0o/\0<=p0n/\p0o.toNat+p0n.toNat<=w0.length/\w0.length<=1000000,(decide (p1∈(w0.drop p0o.toNat).take p0n.toNat):Bool),w0,())
theorem k5p:k5f.Ok Tryz.prog TB:=prv Bs Tryz.func31 .no (k8v.c c0) (Q:=∀(p0o p0n p1:Int) (w0:List Int),(0<=p0o/\0<=p0n/\p0o.toNat+p0n.toNat<=w0.length/\w0.length<=1000000)->∀r0:Bool,(decide (p1∈(w0.drop p0o.toNat).take p0n.toNat))=r0->∀e0:List Int,w0=e0-> 
(0<=(p0o.toNat:Int)/\0<=(p0n.toNat:Int)/\(p0o.toNat:Int).toNat+(p0n.toNat:Int).toNat<=w0.length/\w0.length<=1000000)/\let r1:Int:=(idxI ((w0.drop (p0o.toNat:Int).toNat).take (p0n.toNat:Int).toNat) p1)
decide (0<=r1)=r0/\w0=e0) (by kernel_rfl)<|by
 rintro p0o p0n p1 w0 h _ rfl _ rfl
 have h' :=h
 obtain⟨h0,h1,h2,h3⟩:=h
 obtain⟨o,rfl⟩:=Int.eq_ofNat_of_zero_le h0
 obtain⟨n,rfl⟩:=Int.eq_ofNat_of_zero_le h1
 refine⟨h',?_,rfl⟩
 simp only[Int.toNat_natCast]
 unfold idxI
 by_cases hm:p1∈(w0.drop o).take n
 ·simp[hm]
 ·simp[hm]
noncomputable def k6y:Con TB.den:= .tp 194 [.st 2] [.bool] [] fun(p0:wl)=>((vAmounts p0:Bool),())
theorem k8b:k6y.Ok Tryz.prog TB:=qtv Bs Tryz.func194 .no c0 (Q:=∀(p0:wl),∀r0:Bool,vAmounts p0=r0-> 
(decide (4294967295<p0.wI)=true->
false=r0)/\
(decide (4294967295<p0.wI)=false->
(decide (4294967295<p0.wL)=true->
false=r0)/\
(decide (4294967295<p0.wL)=false->
(decide (4294967295<p0.Fee)=true->
false=r0)/\
(decide (4294967295<p0.Fee)=false->
let v1:Bool:=decide (18446744069414584321<=p0.wP)
(v1=true->
false=r0)/\
(v1=false->
(decide (18446744069414584321<=p0.wX)=true->
false=r0)/\
(decide (18446744069414584321<=p0.wX)=false->
(decide (0<p0.wI)=true->
(p0.wL==0)=r0)/\
(decide (0<p0.wI)=false->
(((p0.wG.length:Int)==0)=true->
false=r0)/\
(((p0.wG.length:Int)==0)=false->
((p0.wX !=0)=true->
false=r0)/\
((p0.wX !=0)=false->
(decide (0<p0.wL)=true->
true=r0)/\
(decide (0<p0.wL)=false->
(p0.wP==0)=r0)))))))))) (by kernel_rfl)<|by
 rintro p0 _ rfl
 refine ?_
 unfold vAmounts
 try simp only[]
 repeat' (apply And.intro<;>intro h)
 all_goals simp only[decide_eq_true_eq,decide_eq_false_iff_not,beq_iff_eq,bne_iff_ne,Bool.not_eq_true,beq_eq_false_iff_ne,bne_eq_false_iff_eq,List.isEmpty_iff,Int.natCast_eq_zero,List.length_eq_zero_iff]at *
 all_goals simp[*]
 all_goals grind
noncomputable def k9s:Con TB.den:= .gp 51 [.sl yqu,yqu] [yqi] [] fun(p0:List Int) (p1:Int)=>(p0.length<=9223372036854775807,(idxI p0 p1:Int),())
theorem kb4:k9s.Ok Tryz.prog TB:=qrv Bs Tryz.func51 (.r 0 (.nd [] (.r 0 (.lp [] ⟨[],[],[8],[.one (zqi)],[]⟩ .no)) [] .no)) c0 (Q:=∀(p0:List Int) (p1:Int),(p0.length<=9223372036854775807)->∀r0:Int,idxI p0 p1=r0-> 
∃(I1:Int->Prop) (M1:Int->Nat),I1 0/\∀(b1:Int),(I1 b1->
(decide (b1<(p0.length:Int))=true->
(0<=b1)/\b1<(p0.length:Int)/\((p1==(ix p0 b1))=true->
b1=r0)/\
((p1==(ix p0 b1))=false->
I1 (i64.wrap (b1+1))/\M1 (i64.wrap (b1+1))<M1 b1))/\
(decide (b1<(p0.length:Int))=false->
(-1)=r0))) (by kernel_rfl)<|by
 rintro p0 p1 h _ rfl
 refine(⟨(fun i=>0<=i/\i<=p0.length/\p1∉p0.take i.toNat),(fun i=>(p0.length-i).toNat),⟨by omega,by omega,by simp⟩,?_⟩)
 rintro i ⟨g0,g1,g2⟩
 refine⟨fun h=> ?_,fun h=> ?_⟩
 ·have h:=of_decide_eq_true h
  refine⟨g0,h,fun e=> ?_,fun e=> ?_⟩
  ·have e:p1=ix p0 i:=by simpa using e
   unfold idxI
   rw[if_pos (by rw[e];exact ix_mem p0 i g0 h)]
   have:p0.idxOf p1=i.toNat:=by
    conv=>lhs;rw[<-List.take_append_drop i.toNat p0]
    rw[List.idxOf_append,if_neg g2,drop_ix p0 i g0 h,<-e,List.idxOf_cons_self,List.length_take]
    omega
   rw[this]
   omega
  ·have e:¬p1=ix p0 i:=by simpa using e
   rw[inc i p0.length g0 h (by omega)]
   refine⟨⟨by omega,by omega,?_⟩,by(dsimp only;omega)⟩
   rw[kg p0 i g0 h]
   simp only[List.mem_append,List.mem_singleton]
   exact fun hh=>hh.elim g2 e
 ·have h:=of_decide_eq_false h
  rw[List.take_of_length_le (by omega)]at g2
  unfold idxI
  rw[if_neg g2]
noncomputable def k6w:Con TB.den:= .gp 31 [.sl yqu,yqu] [.bool] [] fun(p0:List Int) (p1:Int)=>(p0.length<=9223372036854775807,(decide (p1∈p0):Bool),())
theorem k7f:k6w.Ok Tryz.prog TB:=qrv Bs Tryz.func31 .no (kb4.c c0) (Q:=∀(p0:List Int) (p1:Int),(p0.length<=9223372036854775807)->∀r0:Bool,(decide (p1∈p0))=r0-> 
(p0.length<=9223372036854775807)/\decide (0<=(idxI p0 p1))=r0) (by kernel_rfl)<|by
 rintro p0 p1 h _ rfl
 refine⟨h,?_⟩
 unfold idxI
 by_cases hm:p1∈p0
 ·simp[hm]
 ·simp[hm]
noncomputable def k8j:Con TB.den:= .tp 192 [.sl yqu] [.bool] [] fun(p0:List Int)=>((vMarks p0:Bool),())
theorem kav:k8j.Ok Tryz.prog TB:=qtv Bs Tryz.func192 (.r 1 (.nd [] (.r 0 (.lp [] ⟨[],[],[10],[.one (zqi)],[]⟩ .no)) [] .no)) (k7f.c c0) (Q:=∀(p0:List Int),∀r0:Bool,vMarks p0=r0-> 
(decide (4<(p0.length:Int))=true->
false=r0)/\
(decide (4<(p0.length:Int))=false->
∃(I1:Int->Prop) (M1:Int->Nat),I1 0/\∀(b1:Int),(I1 b1->
(decide (b1<(p0.length:Int))=true->
(0<=b1)/\b1<(p0.length:Int)/\let v1:Bool:=decide (18446744069414584321<=(ix p0 b1))
(v1=true->
false=r0)/\
(v1=false->
(0<=b1)/\b1<=(p0.length:Int)/\((p0.take b1.toNat).length<=9223372036854775807)/\let r2:Bool:=(decide ((ix p0 b1)∈(p0.take b1.toNat)))
(r2=true->
false=r0)/\
(r2=false->
I1 (i64.wrap (b1+1))/\M1 (i64.wrap (b1+1))<M1 b1)))/\
(decide (b1<(p0.length:Int))=false->
true=r0)))) (by kernel_rfl)<|by
 rintro p0 _ rfl
 refine⟨fun h=> ?_,fun h=> ?_⟩
 ·have h:=of_decide_eq_true h
  unfold vMarks
  rw[decide_eq_false (by omega)]
  rfl
 ·have h:=of_decide_eq_false h
  refine⟨(fun i=>0<=i/\i<=p0.length/\(∀x∈p0.take i.toNat,x<18446744069414584321)/\(p0.take i.toNat).Nodup),(fun i=>(p0.length-i).toNat),⟨by omega,by omega,by simp,by simp⟩,?_⟩
  rintro i ⟨g0,g1,g2,g3⟩
  refine⟨fun hh=> ?_,fun hh=> ?_⟩
  ·have hh:=of_decide_eq_true hh
   have hm:=ix_mem p0 i g0 hh
   refine⟨g0,hh,fun e=> ?_,fun e=>⟨g0,by omega,by simp;omega,fun e2=> ?_,fun e2=> ?_⟩⟩
   ·have e:=of_decide_eq_true e
    unfold vMarks
    have:p0.all (fun x=>decide (x<18446744069414584321))=false:=List.all_eq_false.2 ⟨_,hm,by simp;omega⟩
    rw[this]
    simp
   ·have e2:=of_decide_eq_true e2
    unfold vMarks
    have:¬p0.Nodup:=by
     intro hn
     rw[<-List.take_append_drop i.toNat p0,drop_ix p0 i g0 hh]at hn
     have:=(List.nodup_append.1 hn).2.2 _ e2 _ (List.mem_cons_self ..)
     exact this rfl
    rw[decide_eq_false this]
    simp
   ·have e:=of_decide_eq_false e
    have e2:=of_decide_eq_false e2
    rw[inc i p0.length g0 hh (by omega)]
    refine⟨⟨by omega,by omega,?_,?_⟩,by(dsimp only;omega)⟩
    ·rw[kg p0 i g0 hh]
     intro x hx
     rcases List.mem_append.1 hx with hx|hx
     ·exact g2 x hx
     ·have:x=ix p0 i:=by simpa using hx
      omega
    ·rw[kg p0 i g0 hh]
     refine List.nodup_append.2 ⟨g3,by simp,fun a ha b hb=> ?_⟩
     have:b=ix p0 i:=by simpa using hb
     rintro rfl
     exact e2 (this▸ha)
  ·have hh:=of_decide_eq_false hh
   rw[List.take_of_length_le (by omega)]at g2 g3
   unfold vMarks
   have:p0.all (fun x=>decide (x<18446744069414584321))=true:=by simpa using g2
   rw[this,decide_eq_true g3,decide_eq_true (by omega)]
   rfl
noncomputable def kb5:Con TB.den:= .tp 223 [.st 14] [.bool] [] fun(p0:wAF)=>((vPoint p0.a0 p0.a1:Bool),())
theorem kd3:kb5.Ok Tryz.prog TB:=qtv Bs Tryz.func223 .no c0 (Q:=∀(p0:wAF),∀r0:Bool,vPoint p0.a0 p0.a1=r0-> 
(decide (p0.a0<18446744069414584321)=true->
(decide (p0.a1<18446744069414584321)=true->
((p0.a0 !=0)=true->
true=r0)/\
((p0.a0 !=0)=false->
(p0.a1 !=0)=r0))/\
(decide (p0.a1<18446744069414584321)=false->
false=r0))/\
(decide (p0.a0<18446744069414584321)=false->
false=r0)) (by kernel_rfl)<|by
 rintro p0 _ rfl
 refine ?_
 unfold vPoint
 refine⟨fun h=>⟨fun h1=>⟨fun h2=> ?_,fun h2=> ?_⟩,fun h1=> ?_⟩,fun h=> ?_⟩<;>simp_all<;>omega
noncomputable def kad:Con TB.den:= .tp 193 [.sl (.st 1)] [.bool] [] fun(p0:List wAn)=>((vOuts p0:Bool),())
theorem kbw:kad.Ok Tryz.prog TB:=qtv Bs Tryz.func193 (.r 1 (.nd [] (.r 0 (.lp [] ⟨[],[],[12],[.one (zqi)],[]⟩ (.r 1 (.nd [] (.r 2 (.lp [] ⟨[],[],[34],[.one (zqi)],[]⟩ .no)) [] .no)))) [] .no)) (kd3.c c0) (Q:=∀(p0:List wAn),∀r0:Bool,vOuts p0=r0-> 
(decide (4<(p0.length:Int))=true->
false=r0)/\
(decide (4<(p0.length:Int))=false->
∃(I1:Int->Prop) (M1:Int->Nat),I1 0/\∀(b1:Int),(I1 b1->
(decide (b1<(p0.length:Int))=true->
(0<=b1)/\b1<(p0.length:Int)/\let v1:Bool:=decide (18446744069414584321<=((ix p0 b1).wb))
(v1=true->
false=r0)/\
(v1=false->
let r2:Bool:=(vPoint (wAF.mk ((ix p0 b1).wAc) ((ix p0 b1).wAX)).a0 (wAF.mk ((ix p0 b1).wAc) ((ix p0 b1).wAX)).a1)
((!r2)=true->
false=r0)/\
((!r2)=false->
let v3:Bool:=((((ix p0 b1).wAA).length:Int) !=3)
(v3=true->
false=r0)/\
(v3=false->
∃(I2:Int->Prop) (M2:Int->Nat),I2 0/\∀(f1:Int),(I2 f1->
let v4:Bool:=decide (f1<(((ix p0 b1).wAA).length:Int))
(v4=true->
(0<=f1)/\f1<(((ix p0 b1).wAA).length:Int)/\let v5:Bool:=decide (18446744069414584321<=(ix ((ix p0 b1).wAA) f1))
(v5=true->
false=r0)/\
(v5=false->
I2 (i64.wrap (f1+1))/\M2 (i64.wrap (f1+1))<M2 f1))/\
(v4=false->
I1 (i64.wrap (b1+1))/\M1 (i64.wrap (b1+1))<M1 b1))))))/\
(decide (b1<(p0.length:Int))=false->
true=r0)))) (by kernel_rfl)<|by
 rintro p0 _ rfl
 refine⟨fun h=> ?_,fun h=> ?_⟩
 ·have h:=of_decide_eq_true h
  unfold vOuts
  rw[decide_eq_false (by omega)]
  rfl
 ·have h:=of_decide_eq_false h
  have bad:∀i,0<=i->i<(p0.length:Int)->vOut (ix p0 i)=false->false=vOuts p0:=by
   intro i h0 h1 hb
   unfold vOuts
   have:p0.all vOut=false:=List.all_eq_false.2 ⟨_,ix_mem p0 i h0 h1,by simp[hb]⟩
   rw[this]
   simp
  refine⟨(fun i=>0<=i/\i<=p0.length/\∀x∈p0.take i.toNat,vOut x=true),(fun i=>(p0.length-i).toNat),⟨by omega,by omega,by simp⟩,?_⟩
  rintro i ⟨g0,g1,g2⟩
  refine⟨fun hh=> ?_,fun hh=> ?_⟩
  ·have hh:=of_decide_eq_true hh
   have bd:=bad i g0 hh
   unfold vOut at bd
   refine⟨g0,hh,fun e=>bd ?_,fun e=>⟨fun e2=>bd ?_,fun e2=>⟨fun e3=>bd ?_,fun e3=> ?_⟩⟩⟩
   ·have e:=of_decide_eq_true e
    rw[decide_eq_false (by omega)]
    rfl
   ·have e2:vPoint (ix p0 i).wAc (ix p0 i).wAX=false:=by simpa using e2
    simp[e2]
   ·have e3:¬(ix p0 i).wAA.length=3:=by
     have:¬((ix p0 i).wAA.length:Int)=3:=by simpa using e3
     omega
    simp[e3]
   ·have e:=of_decide_eq_false e
    have e2:vPoint (ix p0 i).wAc (ix p0 i).wAX=true:=by simpa using e2
    have e3:(ix p0 i).wAA.length=3:=by
     have:((ix p0 i).wAA.length:Int)=3:=by simpa using e3
     omega
    refine⟨(fun k=>0<=k/\k<=3/\∀x∈(ix p0 i).wAA.take k.toNat,x<18446744069414584321),(fun k=>(3-k).toNat),⟨by omega,by omega,by simp⟩,?_⟩
    rintro k ⟨k0,k1,k2⟩
    refine⟨fun hk=> ?_,fun hk=> ?_⟩
    ·have hk:=of_decide_eq_true hk
     refine⟨k0,hk,fun e4=>bd ?_,fun e4=> ?_⟩
     ·have e4:=of_decide_eq_true e4
      have:(ix p0 i).wAA.all (fun n=>decide (n<18446744069414584321))=false:=List.all_eq_false.2 ⟨_,ix_mem _ k k0 hk,by simp;omega⟩
      rw[this]
      simp
     ·have e4:=of_decide_eq_false e4
      rw[inc k 3 k0 (by omega) (by omega)]
      refine⟨⟨by omega,by omega,?_⟩,by(dsimp only;omega)⟩
      rw[kg _ k k0 hk]
      intro x hx
      rcases List.mem_append.1 hx with hx|hx
      ·exact k2 x hx
      ·have:x=ix (ix p0 i).wAA k:=by simpa using hx
       omega
    ·have hk:=of_decide_eq_false hk
     rw[List.take_of_length_le (by omega)]at k2
     have hv:vOut (ix p0 i)=true:=(kat _).2 ⟨by omega,e2,e3,k2⟩
     have hi:=inc i p0.length g0 hh (by omega)
     rw[hi]
     have nxt:(0<=i+1/\i+1<=p0.length/\∀x∈p0.take (i+1).toNat,vOut x=true)/\(p0.length-(i+1)).toNat<(p0.length-i).toNat:=by
      refine⟨⟨by omega,by omega,?_⟩,by(first|omega|(dsimp only;omega))⟩
      rw[kg p0 i g0 hh]
      intro x hx
      rcases List.mem_append.1 hx with hx|hx
      ·exact g2 x hx
      ·have:x=ix p0 i:=by simpa using hx
       rw[this];exact hv
     exact nxt
  ·have hh:=of_decide_eq_false hh
   rw[List.take_of_length_le (by omega)]at g2
   unfold vOuts
   have:p0.all vOut=true:=by simpa using g2
   rw[this,decide_eq_true (by omega)]
   rfl
noncomputable def kgk:Con TB.den:= .tp 145 [.st 2] [yqi] [] fun(p0:wl)=>((validE p0:Int),())
theorem k32:kgk.Ok Tryz.prog TB:=qtv Bs Tryz.func145 .no (kav.c (kbw.c (k8b.c c0))) (Q:=∀(p0:wl),∀r0:Int,validE p0=r0-> 
((!(vMarks p0.wG))=true->
1=r0)/\
((!(vMarks p0.wG))=false->
((!(vOuts p0.wB))=true->
1=r0)/\
((!(vOuts p0.wB))=false->
((!(vAmounts p0))=true->
1=r0)/\
((!(vAmounts p0))=false->
let v1:Bool:=decide (18446744069414584321<=p0.wW)
(v1=true->
1=r0)/\
(v1=false->
(decide (p0.wAZ<0)=true->
1=r0)/\
(decide (p0.wAZ<0)=false->
(decide (1048576<p0.wAZ)=true->
1=r0)/\
(decide (1048576<p0.wAZ)=false->
let v2:Bool:=decide (1048576<(p0.wAH.length:Int))
(v2=true->
3=r0)/\
(v2=false->
0=r0)))))))) (by kernel_rfl)<|by
 rintro p0 _ rfl
 refine ?_
 unfold validE vRest
 grind
noncomputable def kbt:Con TB.den:= .g ⟨101,[.one (.ptr 0 0),.agg [zqu,zql,.d (.sl (.st 1)),zqu,zqu,zqu,zqu,zqu,zqi,.d (.sl yqb)]],[.cells [zqi,zqi,zqi,zqi,zqi,zqu,zqi,zqi,zqu,zqi,zqi,zql,.row 1,.ptr 2 0,.d (.sl (.st 9)),zqu,.row 3,.row 4],.vec yqu,.cells [.mp 5],.vec yqu,.vec (.st 10),.map yqu (.bool)],(.one (.one (zqi))),[.cells [zqi,zqi,zqi,zqi,zqi,zqu,zqi,zqi,zqu,zqi,zqi,zql,.row 1,.ptr 2 0,.d (.sl (.st 9)),zqu,.row 3,.row 4],.vec yqu,.cells [.mp 5],.vec yqu,.vec (.st 10),.map yqu (.bool)],false⟩ [.st 2,yqi,yqi,yqi,yqi,yqi,yqu,yqi,yqi,yqu,yqi,yqi,.sl yqu,.sl (.st 9),yqu,.sl yqu,.sl yqu,.sl (.st 10),.sl yqu,.sl (.bool)] [yqi,yqi,yqi,yqi,yqi,yqi,yqu,yqi,yqi,yqu,yqi,yqi,.sl yqu,.sl (.st 9),yqu,.sl yqu,.sl yqu,.sl (.st 10),.sl yqu,.sl (.bool)] [] fun(p1:wl) (Aa Ab Ad Ac As At Ai Ak Al Aj Af:Int) (Ag:List Int) (Ae:List wA) (Ah:Int) (w1 w3:List Int) (w4:List wS) (w5k:List Int) (w5v:List Bool)=>((∃(c:Nat) (f:Int),c<=800/\PI (PS.mk (wJ.mk Aa Ab Ad Ac As At Ai Ak Al) (wF.mk Aj Af Ag) Ae Ah w1 w3 w4 w5k w5v) c f)/\TR p1,(chkS (PS.mk (wJ.mk Aa Ab Ad Ac As At Ai Ak Al) (wF.mk Aj Af Ag) Ae Ah w1 w3 w4 w5k w5v) p1:Int),Aa,Ab,Ad,Ac,As,At,Ai,Ak,Al,Aj,Af,Ag,Ae,Ah,w1,w3,w4,w5k,w5v,())
theorem kcx:kbt.Ok Tryz.prog TB:=prv Bs Tryz.func101 (.r 3 (.nd [] (.r 0 (.lp [] ⟨[5,2],[.map yqu (.bool),.cells [.mp 0]],[33],[.one (zqi)],[]⟩ .no)) [] (.jn ⟨[],[],[],[],[]⟩ [] .no [] .no))) (k32.c (k9u.c (k5p.c (kj1.c (k4h.c c0))))) (Q:=∀(p1:wl) (Aa Ab Ad Ac As At Ai Ak Al Aj Af:Int) (Ag:List Int) (Ae:List wA) (Ah:Int) (w1 w3:List Int) (w4:List wS) (w5k:List Int) (w5v:List Bool),((∃(c:Nat) (f:Int),c<=800/\PI (PS.mk (wJ.mk Aa Ab Ad Ac As At Ai Ak Al) (wF.mk Aj Af Ag) Ae Ah w1 w3 w4 w5k w5v) c f)/\TR p1)->∀r0:Int,(chkS (PS.mk (wJ.mk Aa Ab Ad Ac As At Ai Ak Al) (wF.mk Aj Af Ag) Ae Ah w1 w3 w4 w5k w5v) p1)=r0->∀Ao:Int,Aa=Ao->∀Am:Int,Ab=Am->∀Ap:Int,Ad=Ap->∀Aq:Int,Ac=Aq->∀Bi:Int,As=Bi->∀Bj:Int,At=Bj->∀Be:Int,Ai=Be->∀Bf:Int,Ak=Bf->∀Bg:Int,Al=Bg->∀Bh:Int,Aj=Bh->∀Ba:Int,Af=Ba->∀Bb:List Int,Ag=Bb->∀Bc:List wA,Ae=Bc->∀Bd:Int,Ah=Bd->∀e1:List Int,w1=e1->∀e3:List Int,w3=e3->∀e4:List wS,w4=e4->∀e5k:List Int,w5k=e5k->∀e5v:List Bool,w5v=e5v-> 
(((validE p1) !=0)=true->
(w4.length=w4.length)/\(w3.length=w3.length)/\(w1.length=w1.length)/\(validE p1)=r0/\Aa=Ao/\Ab=Am/\Ad=Ap/\Ac=Aq/\As=Bi/\At=Bj/\Ai=Be/\Ak=Bf/\Al=Bg/\Aj=Bh/\Af=Ba/\Ag=Bb/\Ae=Bc/\Ah=Bd/\w1=e1/\w3=e3/\w4=e4/\w5k=e5k/\w5v=e5v)/\
(((validE p1) !=0)=false->
let v1:Bool:=decide (p1.wAZ<(i64.wrap ((w4.length:Int)+1)))
(v1=true->
(w4.length=w4.length)/\(w3.length=w3.length)/\(w1.length=w1.length)/\14=r0/\Aa=Ao/\Ab=Am/\Ad=Ap/\Ac=Aq/\As=Bi/\At=Bj/\Ai=Be/\Ak=Bf/\Al=Bg/\Aj=Bh/\Af=Ba/\Ag=Bb/\Ae=Bc/\Ah=Bd/\w1=e1/\w3=e3/\w4=e4/\w5k=e5k/\w5v=e5v)/\
(v1=false->
(w4.length=w4.length)/\(w3.length=w3.length)/\(w1.length=w1.length)/\((1<=Ai/\Ai<=100)/\w3.length<=1000000)/\let r2:Int:=((w3.length-(w3.length-Ai.toNat):Nat):Int)
(0<=((((w3.length-Ai.toNat:Nat):Int).toNat:Nat):Int)/\0<=(r2.toNat:Int)/\((((w3.length-Ai.toNat:Nat):Int).toNat:Nat):Int).toNat+(r2.toNat:Int).toNat<=w3.length/\w3.length<=1000000)/\let r3:Bool:=(decide (p1.wW∈(w3.drop ((((w3.length-Ai.toNat:Nat):Int).toNat:Nat):Int).toNat).take (r2.toNat:Int).toNat))
((!r3)=true->
(w4.length=w4.length)/\(w3.length=w3.length)/\(w1.length=w1.length)/\11=r0/\Aa=Ao/\Ab=Am/\Ad=Ap/\Ac=Aq/\As=Bi/\At=Bj/\Ai=Be/\Ak=Bf/\Al=Bg/\Aj=Bh/\Af=Ba/\Ag=Bb/\Ae=Bc/\Ah=Bd/\w1=e1/\w3=e3/\w4=e4/\w5k=e5k/\w5v=e5v)/\
((!r3)=false->
∃(I1:Int->(List Int)->(List Bool)->Prop) (M1:Int->(List Int)->(List Bool)->Nat),I1 0 w5k w5v/\∀(b1:Int) (f1:List Int) (i1:List Bool),(I1 b1 f1 i1->
(decide (b1<(p1.wG.length:Int))=true->
(0<=b1)/\b1<(p1.wG.length:Int)/\(i1=trs f1)/\((decide ((ix p1.wG b1)∈f1))=true->
(w4.length=w4.length)/\(w3.length=w3.length)/\(w1.length=w1.length)/\12=r0/\Aa=Ao/\Ab=Am/\Ad=Ap/\Ac=Aq/\As=Bi/\At=Bj/\Ai=Be/\Ak=Bf/\Al=Bg/\Aj=Bh/\Af=Ba/\Ag=Bb/\Ae=Bc/\Ah=Bd/\w1=e1/\w3=e3/\w4=e4/\f1=e5k/\i1=e5v)/\
((decide ((ix p1.wG b1)∈f1))=false->
I1 (i64.wrap (b1+1)) f1 i1/\M1 (i64.wrap (b1+1)) f1 i1<M1 b1 f1 i1))/\
(decide (b1<(p1.wG.length:Int))=false->
∀J1:Prop,((let v5:Bool:=decide ((u64.wrap (Ah+p1.wI))<(u64.wrap (p1.wL+p1.Fee)))
(v5=true->
(w4.length=w4.length)/\(w3.length=w3.length)/\(w1.length=w1.length)/\13=r0/\Aa=Ao/\Ab=Am/\Ad=Ap/\Ac=Aq/\As=Bi/\At=Bj/\Ai=Be/\Ak=Bf/\Al=Bg/\Aj=Bh/\Af=Ba/\Ag=Bb/\Ae=Bc/\Ah=Bd/\w1=e1/\w3=e3/\w4=e4/\f1=e5k/\i1=e5v)/\
(v5=false->
let v6:Int:=i64.wrap ((w1.length:Int)+(p1.wB.length:Int))
(0<=Ab)/\(decide ((ishl .i64 1 Ab)<v6)=true->
(w4.length=w4.length)/\(w3.length=w3.length)/\(w1.length=w1.length)/\16=r0/\Aa=Ao/\Ab=Am/\Ad=Ap/\Ac=Aq/\As=Bi/\At=Bj/\Ai=Be/\Ak=Bf/\Al=Bg/\Aj=Bh/\Af=Ba/\Ag=Bb/\Ae=Bc/\Ah=Bd/\w1=e1/\w3=e3/\w4=e4/\f1=e5k/\i1=e5v)/\
(decide ((ishl .i64 1 Ab)<v6)=false->
(w4.length=w4.length)/\(w3.length=w3.length)/\(w1.length=w1.length)/\0=r0/\Aa=Ao/\Ab=Am/\Ad=Ap/\Ac=Aq/\As=Bi/\At=Bj/\Ai=Be/\Ak=Bf/\Al=Bg/\Aj=Bh/\Af=Ba/\Ag=Bb/\Ae=Bc/\Ah=Bd/\w1=e1/\w3=e3/\w4=e4/\f1=e5k/\i1=e5v)))->J1)->
(decide (0<p1.wI)=true->
(OkA (wg.mk Ae).wD/\U64 p1.wI/\U64 p1.wX)/\let r4:=debitA (wg.mk Ae).wD p1.wP p1.wI p1.wX
((r4.2 !=0)=true->
(w4.length=w4.length)/\(w3.length=w3.length)/\(w1.length=w1.length)/\r4.2=r0/\Aa=Ao/\Ab=Am/\Ad=Ap/\Ac=Aq/\As=Bi/\At=Bj/\Ai=Be/\Ak=Bf/\Al=Bg/\Aj=Bh/\Af=Ba/\Ag=Bb/\Ae=Bc/\Ah=Bd/\w1=e1/\w3=e3/\w4=e4/\f1=e5k/\i1=e5v)/\
((r4.2 !=0)=false->
J1))/\
(decide (0<p1.wI)=false->
J1))))))) (by kernel_rfl)<|by
 rintro p1 Aa Ab Ad Ac As At Ai Ak Al Aj Af Ag Ae Ah w1 w3 w4 w5k w5v h _ rfl _ rfl _ rfl _ rfl _ rfl _ rfl _ rfl _ rfl _ rfl _ rfl _ rfl _ rfl _ rfl _ rfl _ rfl _ rfl _ rfl _ rfl _ rfl _ rfl
 obtain⟨⟨c,f,hc,hp⟩,ht⟩:=h
 have hb:OkA Ae:=hp.b.1
 have hv:w5v=trs w5k:=hp.v
 have h1:1<=Ai:=hp.w1
 have h2:Ai<=100:=hp.w2
 have hd1:1<=Ab:=hp.d1
 have hd2:Ab<=12:=hp.d2
 have hrl:w3.length=w4.length+1:=hp.rl
 have hpl:w4.length<=c:=hp.p
 have hll:w1.length<=2^Ab.toNat:=hp.ll
 have hp12:=pow12 Ab.toNat (by omega)
 generalize hR0:chkS (PS.mk (wJ.mk Aa Ab Ad Ac As At Ai Ak Al) (wF.mk Aj Af Ag) Ae Ah w1 w3 w4 w5k w5v) p1=R
 have hR:chk (w4.length:Int) (ancL w3 Ai) w5k Ae Ah w1.length Ab p1=R:=hR0
 clear hR0
 unfold chk at hR
 refine⟨fun e=> ?_,fun e=> ?_⟩
 ·have e:validE p1≠0:=by simpa using e
  rw[if_pos e]at hR
  subst hR
  exact(by repeat' first|apply And.intro|exact rfl|exact True.intro)
 have e:validE p1=0:=by simpa using e
 have vt:=(k1r p1).1 e
 have hol:=vt.ol
 have hml:=vt.ml
 rw[if_neg (by rw[e];decide)]at hR
 have ei:i64.wrap ((w4.length:Int)+1)=(w4.length:Int)+1:=k15 _ (by omega) (by omega)
 rw[ei]
 refine⟨fun e2=> ?_,fun e2=>⟨rfl,rfl,rfl,⟨⟨h1,h2⟩,by omega⟩,?_⟩⟩
 ·rw[if_pos (of_decide_eq_true e2)]at hR
  subst hR
  exact(by repeat' first|apply And.intro|exact rfl|exact True.intro)
 rw[if_neg (of_decide_eq_false e2)]at hR
 have eA:(w3.drop (w3.length-Ai.toNat)).take (w3.length-(w3.length-Ai.toNat))=ancL w3 Ai:=by
  unfold ancL
  exact List.take_of_length_le (by rw[List.length_drop];omega)
 simp only[Int.toNat_natCast,eA]
 refine⟨⟨by omega,by omega,by omega,by omega⟩,fun e3=> ?_,fun e3=> ?_⟩
 ·have e3:p1.wW∉ancL w3 Ai:=by simpa using e3
  rw[if_pos e3]at hR
  subst hR
  exact(by repeat' first|apply And.intro|exact rfl|exact True.intro)
 have e3:¬p1.wW∉ancL w3 Ai:=by simpa using e3
 rw[if_neg e3]at hR
 refine⟨fun a k v=>(w5k=k/\w5v=v)/\∃i:Nat,a=(i:Int)/\i<=p1.wG.length/\((p1.wG.take i).any fun m=>decide (m∈w5k))=false,fun a _ _=>(p1.wG.length-a).toNat,⟨⟨rfl,rfl⟩,0,rfl,by omega,rfl⟩,?_⟩
 rintro _ _ _ ⟨⟨rfl,rfl⟩,i,rfl,hi,hm⟩
 refine⟨fun e4=> ?_,fun e4 J1 j=> ?_⟩
 ·have e4:i<p1.wG.length:=by have:=of_decide_eq_true e4;omega
  rw[ix_get _ _ e4,inc_i64 _ (by omega)]
  refine⟨by omega,by omega,hv,fun e5=> ?_,fun e5=>⟨⟨⟨rfl,rfl⟩,i+1,rfl,by omega,?_⟩,by(dsimp only;omega)⟩⟩
  ·rw[if_pos (List.any_eq_true.2 ⟨_,List.getElem_mem e4,e5⟩)]at hR
   subst hR
   exact(by repeat' first|apply And.intro|exact rfl|exact True.intro)
  ·rw[List.take_succ_eq_append_getElem e4,List.any_append,hm,List.any_cons,e5]
   rfl
 ·have e4:i=p1.wG.length:=by have:=of_decide_eq_false e4;omega
  subst e4
  rw[List.take_length]at hm
  have j1:(p1.wG.any fun m=>decide (m∈w5k))=false->¬(0<p1.wI/\(debitA Ae p1.wP p1.wI p1.wX).2≠0)->J1:=by
   intro g1 g2
   rw[if_neg (by rw[g1];decide),if_neg g2]at hR
   refine j ⟨fun e4=> ?_,fun e4=>⟨by omega,?_⟩⟩
   ·rw[if_pos (of_decide_eq_true e4)]at hR
    subst hR
    exact(by repeat' first|apply And.intro|exact rfl|exact True.intro)
   ·rw[if_neg (of_decide_eq_false e4)]at hR
    obtain⟨d,hd⟩:=Int.eq_ofNat_of_zero_le (show 0<=Ab by omega)
    have hdn:Ab.toNat=d:=by omega
    rw[hdn]at hR hp12 hll
    rw[k15 _ (by omega) (by omega),show ishl .i64 1 Ab=((2^d:Nat):Int)by rw[hd];exact shl1 d (by omega)]
    refine⟨fun e5=> ?_,fun e5=> ?_⟩
    ·rw[if_pos (by have:=of_decide_eq_true e5;omega)]at hR
     subst hR
     exact(by repeat' first|apply And.intro|exact rfl|exact True.intro)
    ·rw[if_neg (by have:=of_decide_eq_false e5;omega)]at hR
     subst hR
     exact(by repeat' first|apply And.intro|exact rfl|exact True.intro)
  refine⟨fun e5=>⟨⟨hb,ht.d,ht.n⟩,fun e6=> ?_,fun e6=>j1 hm ?_⟩,fun e5=>j1 hm ?_⟩
  ·have e5:=of_decide_eq_true e5
   have e6:(debitA Ae p1.wP p1.wI p1.wX).2≠0:=by simpa using e6
   rw[if_neg (by rw[hm];decide),if_pos ⟨e5,e6⟩]at hR
   subst hR
   exact(by repeat' first|apply And.intro|exact rfl|exact True.intro)
  ·have e6:(debitA Ae p1.wP p1.wI p1.wX).2=0:=by simpa using e6
   exact fun hh=>hh.2 e6
  ·have e5:=of_decide_eq_false e5
   exact fun hh=>e5 hh.1
noncomputable def kgi:Con TB.den:= .g ⟨154,[.one (.ptr 0 0),.one (zql),.one (.d (.bool))],[.cells [.mp 1],.map yqu (.bool)],(.one (.one (.d (.bool)))),[.cells [.mp 1],.map yqu (.bool)],false⟩ [.sl yqu,.bool,.sl yqu,.sl (.bool)] [.bool,.sl yqu,.sl (.bool)] [] fun(p1:List Int) (p2:Bool) (w1k:List Int) (w1v:List Bool)=>(w1v=trs w1k/\p1.length<=1000000,(p1.any (fun m=>decide (m∈w1k)==p2):Bool),w1k,w1v,())
theorem k9k:kgi.Ok Tryz.prog TB:=prv Bs Tryz.func154 (.r 0 (.nd [] (.r 0 (.lp [] ⟨[],[],[11],[.one (zqi)],[]⟩ .no)) [] .no)) c0 (Q:=∀(p1:List Int) (p2:Bool) (w1k:List Int) (w1v:List Bool),(w1v=trs w1k/\p1.length<=1000000)->∀r0:Bool,(p1.any (fun m=>decide (m∈w1k)==p2))=r0->∀e1k:List Int,w1k=e1k->∀e1v:List Bool,w1v=e1v-> 
∃(I1:Int->Prop) (M1:Int->Nat),I1 0/\∀(b1:Int),(I1 b1->
(decide (b1<(p1.length:Int))=true->
(0<=b1)/\b1<(p1.length:Int)/\w1k.length=w1v.length/\let v1:Bool:=mVal (BEq.beq (ix p1 b1)) w1k w1v false
((v1==p2)=true->
true=r0/\w1k=e1k/\w1v=e1v)/\
((v1==p2)=false->
I1 (i64.wrap (b1+1))/\M1 (i64.wrap (b1+1))<M1 b1))/\
(decide (b1<(p1.length:Int))=false->
false=r0/\w1k=e1k/\w1v=e1v))) (by kernel_rfl)<|by
 rintro p1 p2 w1k w1v h _ rfl _ rfl _ rfl
 obtain⟨h,hl⟩:=h
 subst h
 refine(⟨(fun a=>∃i:Nat,a=(i:Int)/\i<=p1.length/\(p1.drop i).any (fun m=>decide (m∈w1k)==p2)=p1.any (fun m=>decide (m∈w1k)==p2)),(fun a=>(p1.length-a).toNat),⟨0,rfl,by omega,rfl⟩,?_⟩)
 rintro _ ⟨i,rfl,hi,he⟩
 refine⟨fun e=> ?_,fun e=> ?_⟩
 ·have e:i<p1.length:=by have:=of_decide_eq_true e;omega
  rw[ix_get _ _ e,sVal,inc_i64 _ (by omega)]
  rw[List.drop_eq_getElem_cons e,List.any_cons]at he
  refine⟨by omega,by omega,by simp[trs],fun e2=> ?_,fun e2=> ?_⟩
  ·rw[e2,Bool.true_or]at he
   rw[<-he]
   exact⟨rfl,rfl,rfl⟩
  ·rw[e2,Bool.false_or]at he
   exact⟨⟨i+1,rfl,by omega,he⟩,by(dsimp only;omega)⟩
 ·have e:i=p1.length:=by have:=of_decide_eq_false e;omega
  subst e
  rw[List.drop_length]at he
  rw[<-he]
  exact⟨rfl,rfl,rfl⟩
noncomputable def k6k:Con TB.den:= .gp 155 [.sl yqu] [.bool] [] fun(p0:List Int)=>(p0.length<=1000000,(!decide p0.Nodup:Bool),())
theorem k2o:k6k.Ok Tryz.prog TB:=qrv Bs Tryz.func155 (.r 1 (.nd [] (.r 0 (.lp [] ⟨[0],[.map yqu (.bool)],[9],[.one (zqi)],[]⟩ .no)) [] .no)) c0 (Q:=∀(p0:List Int),(p0.length<=1000000)->∀r0:Bool,(!decide p0.Nodup)=r0-> 
∃(I1:Int->(List Int)->(List Bool)->Prop) (M1:Int->(List Int)->(List Bool)->Nat),I1 0 ([]:List Int) ([]:List Bool)/\∀(b1:Int) (f1:List Int) (i1:List Bool),(I1 b1 f1 i1->
(decide (b1<(p0.length:Int))=true->
(0<=b1)/\b1<(p0.length:Int)/\f1.length=i1.length/\let v1:Bool:=mVal (BEq.beq (ix p0 b1)) f1 i1 false
(v1=true->
true=r0)/\
(v1=false->
f1.length=i1.length/\let v2:List Int:=mPutK (BEq.beq (ix p0 b1)) f1 (ix p0 b1)
let v3:List Bool:=mPutV (BEq.beq (ix p0 b1)) f1 i1 true
I1 (i64.wrap (b1+1)) v2 v3/\M1 (i64.wrap (b1+1)) v2 v3<M1 b1 f1 i1))/\
(decide (b1<(p0.length:Int))=false->
false=r0))) (by kernel_rfl)<|by
 rintro p0 h _ rfl
 refine(⟨(fun a k v=>∃i:Nat,a=(i:Int)/\i<=p0.length/\k=p0.take i/\v=trs k/\k.Nodup),(fun a _ _=>(p0.length-a).toNat),⟨0,rfl,by omega,rfl,rfl,List.nodup_nil⟩,?_⟩)
 rintro _ _ _ ⟨i,rfl,hi,rfl,rfl,hn⟩
 refine⟨fun e=> ?_,fun e=> ?_⟩
 ·have e:i<p0.length:=by have:=of_decide_eq_true e;omega
  rw[ix_get _ _ e,sVal,inc_i64 _ (by omega)]
  refine⟨by omega,by omega,by simp[trs],fun e2=> ?_,fun e2=>⟨by simp[trs],?_⟩⟩
  ·have e2:=of_decide_eq_true e2
   have:¬p0.Nodup:=fun hh=>by
    rw[<-List.take_append_drop i p0,List.drop_eq_getElem_cons e,List.nodup_append]at hh
    exact hh.2.2 _ e2 p0[i] List.mem_cons_self rfl
   simp[this]
  ·have e2:=of_decide_eq_false e2
   obtain⟨q1,q2⟩:=sPut e2
   rw[q1,q2,<-List.take_succ_eq_append_getElem]
   refine⟨⟨i+1,rfl,by omega,rfl,rfl,?_⟩,by(dsimp only;omega)⟩
   rw[List.take_succ_eq_append_getElem e,List.nodup_append]
   exact⟨hn,by simp,fun a ha b hb=>by rw[List.mem_singleton.1 hb];rintro rfl;exact e2 ha⟩
 ·have e:i=p0.length:=by have:=of_decide_eq_false e;omega
  subst e
  rw[List.take_length]at hn
  simp[hn]
noncomputable def ki6:Con TB.den:= .g ⟨149,[.one (.ptr 0 0),.one (zql)],[.cells [.mp 1],.map yqu (.bool)],(.one (.one (zqi))),[.cells [.mp 1],.map yqu (.bool)],false⟩ [.sl yqu,.sl yqu,.sl (.bool)] [yqi,.sl yqu,.sl (.bool)] [] fun(p1 w1k:List Int) (w1v:List Bool)=>(w1v=trs w1k/\p1.length<=1000000,((addS p1 w1k).1:Int),((addS p1 w1k).2:List Int),(trs (addS p1 w1k).2:List Bool),())
theorem kj3:ki6.Ok Tryz.prog TB:=prv Bs Tryz.func149 (.r 2 (.nd [] (.r 0 (.lp [] ⟨[1],[.map yqu (.bool)],[25],[.one (zqi)],[]⟩ .no)) [] .no)) (k9k.c (k2o.c c0)) (Q:=∀(p1 w1k:List Int) (w1v:List Bool),(w1v=trs w1k/\p1.length<=1000000)->∀r0:Int,((addS p1 w1k).1)=r0->∀e1k:List Int,((addS p1 w1k).2)=e1k->∀e1v:List Bool,(trs (addS p1 w1k).2)=e1v-> 
(w1v=trs w1k/\p1.length<=1000000)/\let r1:Bool:=(p1.any (fun m=>decide (m∈w1k)==true))
(r1=true->
12=r0/\w1k=e1k/\w1v=e1v)/\
(r1=false->
(p1.length<=1000000)/\((!decide p1.Nodup)=true->
12=r0/\w1k=e1k/\w1v=e1v)/\
((!decide p1.Nodup)=false->
∃(I1:Int->(List Int)->(List Bool)->Prop) (M1:Int->(List Int)->(List Bool)->Nat),I1 0 w1k w1v/\∀(b1:Int) (f1:List Int) (i1:List Bool),(I1 b1 f1 i1->
(decide (b1<(p1.length:Int))=true->
(0<=b1)/\b1<(p1.length:Int)/\f1.length=i1.length/\let v2:List Int:=mPutK (BEq.beq (ix p1 b1)) f1 (ix p1 b1)
let v3:List Bool:=mPutV (BEq.beq (ix p1 b1)) f1 i1 true
I1 (i64.wrap (b1+1)) v2 v3/\M1 (i64.wrap (b1+1)) v2 v3<M1 b1 f1 i1)/\
(decide (b1<(p1.length:Int))=false->
0=r0/\f1=e1k/\i1=e1v))))) (by kernel_rfl)<|by
 rintro p1 w1k w1v h _ rfl _ rfl _ rfl
 obtain⟨h,hl⟩:=h
 subst h
 have ea:(p1.any fun m=>decide (m∈w1k)==true)=p1.any fun m=>decide (m∈w1k):=by congr 1;funext m;simp
 refine⟨⟨rfl,hl⟩,?_⟩
 rw[ea]
 refine⟨fun e=> ?_,fun e=>⟨hl,fun e2=> ?_,fun e2=> ?_⟩⟩
 ·have:addS p1 w1k=(12,w1k):=by unfold addS;rw[e];rfl
  rw[this]
  exact⟨rfl,rfl,rfl⟩
 ·have:addS p1 w1k=(12,w1k):=by unfold addS;rw[e,e2];rfl
  rw[this]
  exact⟨rfl,rfl,rfl⟩
 ·have hA:addS p1 w1k=(0,w1k++p1):=by unfold addS;rw[e,e2];rfl
  have hn:p1.Nodup:=by simpa using e2
  rw[hA]
  refine⟨(fun a k v=>∃i:Nat,a=(i:Int)/\i<=p1.length/\k=w1k++p1.take i/\v=trs k),(fun a _ _=>(p1.length-a).toNat),⟨0,rfl,by omega,by simp,by simp⟩,?_⟩
  rintro _ _ _ ⟨i,rfl,hi,rfl,rfl⟩
  refine⟨fun e3=> ?_,fun e3=> ?_⟩
  ·have e3:i<p1.length:=by have:=of_decide_eq_true e3;omega
   rw[ix_get _ _ e3,inc_i64 _ (by omega)]
   have hm:p1[i]∉w1k++p1.take i:=by
    intro hm
    rcases List.mem_append.1 hm with hm|hm
    ·have:=List.any_eq_false.1 e p1[i] (List.getElem_mem e3)
     simp[hm]at this
    ·rw[<-List.take_append_drop i p1,List.drop_eq_getElem_cons e3,List.nodup_append]at hn
     exact hn.2.2 _ hm p1[i] List.mem_cons_self rfl
   obtain⟨q1,q2⟩:=sPut hm
   rw[q1,q2]
   refine⟨by omega,by omega,by simp[trs],⟨i+1,rfl,by omega,?_,rfl⟩,by(dsimp only;omega)⟩
   rw[List.take_succ_eq_append_getElem e3,List.append_assoc]
  ·have e3:i=p1.length:=by have:=of_decide_eq_false e3;omega
   subst e3
   rw[List.take_length]
   exact⟨rfl,rfl,rfl⟩
noncomputable def k7e:Con TB.den:= .gp 98 [.st 6] [.bool] [] fun(p0:wF)=>(FV p0,true,())
theorem k3e:k7e.Ok Tryz.prog TB:=qrv Bs Tryz.func98 (.r 2 (.nd [] (.r 0 (.lp [] ⟨[],[],[36],[.one (zqi)],[]⟩ .no)) [] .no)) c0 (Q:=∀(p0:wF),(FV p0)->∀r0:Bool,(true:Bool)=r0-> 
(decide (p0.wC<1)=true->
false=r0)/\
(decide (p0.wC<1)=false->
(decide (12<p0.wC)=true->
false=r0)/\
(decide (12<p0.wC)=false->
(decide (p0.wa<0)=true->
false=r0)/\
(decide (p0.wa<0)=false->
(0<=p0.wC)/\let v1:Bool:=decide ((ishl .i64 1 p0.wC)<p0.wa)
(v1=true->
false=r0)/\
(v1=false->
let v2:Bool:=((p0.wh.length:Int) !=(i64.wrap (p0.wC+1)))
(v2=true->
false=r0)/\
(v2=false->
∃(I1:Int->Prop) (M1:Int->Nat),I1 0/\∀(b1:Int),(I1 b1->
(decide (b1<(p0.wh.length:Int))=true->
(0<=b1)/\b1<(p0.wh.length:Int)/\let v3:Bool:=decide (18446744069414584321<=(ix p0.wh b1))
(v3=true->
false=r0)/\
(v3=false->
(((ix p0.wh b1) !=0)=true->
(0<=b1)/\let v4:Bool:=((iand .i64 (ishr .i64 p0.wa b1) 1)==0)
(v4=true->
false=r0)/\
(v4=false->
I1 (i64.wrap (b1+1))/\M1 (i64.wrap (b1+1))<M1 b1))/\
(((ix p0.wh b1) !=0)=false->
I1 (i64.wrap (b1+1))/\M1 (i64.wrap (b1+1))<M1 b1)))/\
(decide (b1<(p0.wh.length:Int))=false->
true=r0)))))))) (by kernel_rfl)<|by
 rintro p0 h _ rfl
 obtain⟨d1,d2,c0,c1,ll,u,z⟩:=h
 obtain⟨d,hd⟩:=Int.eq_ofNat_of_zero_le (show 0<=p0.wC by omega)
 obtain⟨n,hn⟩:=Int.eq_ofNat_of_zero_le c0
 rw[hd,Int.toNat_natCast]at c1 ll
 rw[hn,Int.toNat_natCast]at z
 have hp:=pow12 d (by omega)
 refine⟨fun e=>(by have:=of_decide_eq_true e;omega),fun _=>⟨fun e=>(by have:=of_decide_eq_true e;omega),fun _=>⟨fun e=>(by have:=of_decide_eq_true e;omega),fun _=>⟨by omega,?_⟩⟩⟩⟩
 rw[hd,hn,shl1 d (by omega),k15 _ (by omega) (by omega)]
 refine⟨fun e=>(by have:=of_decide_eq_true e;omega),fun _=>⟨fun e=> ?_,fun _=> ?_⟩⟩
 ·have e:¬(p0.wh.length:Int)=(d:Int)+1:=by simpa using e
  omega
 refine⟨(fun a=>∃i:Nat,a=(i:Int)/\i<=p0.wh.length),(fun a=>(p0.wh.length-a).toNat),⟨0,rfl,by omega⟩,?_⟩
 rintro _ ⟨i,rfl,hi⟩
 refine⟨fun hh=> ?_,fun _=>rfl⟩
 have hh:i<p0.wh.length:=by have:=of_decide_eq_true hh;omega
 have hx:=u _ (List.getElem_mem hh)
 rw[ix_get _ _ hh,inc_i64 _ (by omega),bit1 n i (by omega) (by omega)]
 have next:(∃j:Nat,((i+1:Nat):Int)=(j:Int)/\j<=p0.wh.length)/\((p0.wh.length:Int)-((i+1:Nat):Int)).toNat<((p0.wh.length:Int)-(i:Int)).toNat:=⟨⟨i+1,rfl,by omega⟩,by omega⟩
 refine⟨by omega,by omega,fun e=>(by have:=of_decide_eq_true e;omega),fun _=>⟨fun e=>⟨by omega,fun e2=> ?_,fun _=>next⟩,fun _=>next⟩⟩
 have e:p0.wh[i]≠0:=by simpa using e
 have e2:((n/2^i%2:Nat):Int)=0:=by simpa using e2
 refine(e (z i hh ?_)).elim
 unfold bitN
 generalize n/2^i%2=q at *
 have:q=0:=by omega
 rw[this]
 rfl
noncomputable def kb9:Con TB.den:= .gp 113 [.st 7] [.bool] [] fun(p0:ww)=>(p0.P=18446744069414584321,true,())
theorem k1a:kb9.Ok Tryz.prog TB:=qrv Bs Tryz.func113 .no c0 (Q:=∀(p0:ww),(p0.P=18446744069414584321)->∀r0:Bool,(true:Bool)=r0-> 
((p0.P==18446744069414584321)=true->
((p0.P==18446744069414584321)=true->
true=r0)/\
((p0.P==18446744069414584321)=false->
false=r0))/\
((p0.P==18446744069414584321)=false->
((p0.P==17)=true->
((p0.P==17)=true->
true=r0)/\
((p0.P==17)=false->
false=r0))/\
((p0.P==17)=false->
((p0.P==97)=true->
((p0.P==97)=true->
true=r0)/\
((p0.P==97)=false->
false=r0))/\
((p0.P==97)=false->
((p0.P==193)=true->
((p0.P==193)=true->
true=r0)/\
((p0.P==193)=false->
false=r0))/\
((p0.P==193)=false->
((p0.P==257)=true->
((p0.P==257)=true->
true=r0)/\
((p0.P==257)=false->
false=r0))/\
((p0.P==257)=false->
((p0.P==12289)=true->
((p0.P==12289)=true->
true=r0)/\
((p0.P==12289)=false->
false=r0))/\
((p0.P==12289)=false->
((p0.P==65537)=true->
true=r0)/\
((p0.P==65537)=false->
false=r0)))))))) (by kernel_rfl)<|by
 rintro p0 h _ rfl
 refine ?_
 simp[h]
noncomputable def kf2:Con TB.den:= .gp 207 [.st 7,yqu,yqu] [yqu] [] fun(p0:ww) (p1 p2:Int)=>(p0.P=18446744069414584321/\(0<=p1/\p1<18446744069414584321)/\(0<=p2/\p2<18446744069414584321),((p1+p2)%18446744069414584321:Int),())
theorem kgx:kf2.Ok Tryz.prog TB:=qrx Bs [] Tryz.func207 (.r 1 (.nd [] (.jn ⟨[],[],[22],[.one (.d (.bool))],[]⟩ [] .no [] .no) [] .no)) (x1 x70_ok x0) c0 (Q:=∀(p0:ww) (p1 p2:Int),(p0.P=18446744069414584321/\(0<=p1/\p1<18446744069414584321)/\(0<=p2/\p2<18446744069414584321))->∀r0:Int,((p1+p2)%18446744069414584321)=r0-> 
(0<=p1/\0<=p2/\0<=(0:Int)/\(0:Int)<=1)/\let r1:Int:=(p1+p2+(0:Int))%18446744073709551616
let r2:Int:=(p1+p2+(0:Int))/18446744073709551616
∀J1:Bool->Prop,(∀(b1:Bool),
((b1=true->
u64.wrap (r1-p0.P)=r0)/\
(b1=false->
r1=r0))->J1 b1)->
((r2 !=0)=true->
J1 true)/\
((r2 !=0)=false->
J1 (decide (p0.P<=r1)))) (by kernel_rfl)<|by
 rintro p0 p1 p2 h _ rfl
 obtain⟨hP,h1,h2⟩:=h
 refine⟨by omega,fun J1 j=>⟨fun h=>j _ ⟨fun _=> ?_,fun h=>by simp at h⟩,fun h=>j _ ⟨fun g=> ?_,fun g=> ?_⟩⟩⟩
 ·have h:(p1+p2+0)/18446744073709551616≠0:=by simpa using h
  rw[hP,u64w];omega
 ·have h:(p1+p2+0)/18446744073709551616=0:=by simpa using h
  have g:=of_decide_eq_true g
  rw[hP]at g ⊢
  rw[u64w];omega
 ·have h:(p1+p2+0)/18446744073709551616=0:=by simpa using h
  have g:=of_decide_eq_false g
  rw[hP]at g
  omega
noncomputable def k96:Con TB.den:= .gp 208 [.st 7,yqu] [yqu] [] fun(p0:ww) (p1:Int)=>(0<p0.P/\0<=p1,(p1%p0.P:Int),())
theorem k1o:k96.Ok Tryz.prog TB:=qrv Bs Tryz.func208 .no c0 (Q:=∀(p0:ww) (p1:Int),(0<p0.P/\0<=p1)->∀r0:Int,(p1%p0.P)=r0-> 
(decide (p0.P<=p1)=true->
(p0.P≠0)/\Int.tmod p1 p0.P=r0)/\
(decide (p0.P<=p1)=false->
p1=r0)) (by kernel_rfl)<|by
 rintro p0 p1 h _ rfl
 refine⟨fun h1=>⟨by omega,tmod_nn _ _ h.2⟩,fun h1=> ?_⟩
 simp at h1
 rw[Int.emod_eq_of_lt (by omega) (by omega)]
noncomputable def kf6:Con TB.den:= .gp 169 [.st 7,yqu,yqu] [yqu] [] fun(p0:ww) (p1 p2:Int)=>(p0.P=18446744069414584321/\U64 p1/\U64 p2,((p1+p2)%18446744069414584321:Int),())
theorem k47:kf6.Ok Tryz.prog TB:=qrv Bs Tryz.func169 .no (k1a.c (k1o.c (kgx.c c0))) (Q:=∀(p0:ww) (p1 p2:Int),(p0.P=18446744069414584321/\U64 p1/\U64 p2)->∀r0:Int,((p1+p2)%18446744069414584321)=r0-> 
(p0.P=18446744069414584321)/\((!true)=true->
0=r0)/\
((!true)=false->
(0<p0.P/\0<=p1)/\(0<p0.P/\0<=p2)/\(p0.P=18446744069414584321/\(0<=(p1%p0.P)/\(p1%p0.P)<18446744069414584321)/\(0<=(p2%p0.P)/\(p2%p0.P)<18446744069414584321))/\let r1:Int:=(((p1%p0.P)+(p2%p0.P))%18446744069414584321)
r1=r0)) (by kernel_rfl)<|by
 rintro p0 p1 p2 h _ rfl
 obtain⟨hP,h1,h2⟩:=h
 refine⟨hP,?_⟩
 simp only[hP]
 refine⟨fun h=>by simp at h,fun _=>⟨by omega,by omega,⟨by trivial,by omega,by omega⟩,?_⟩⟩
 omega
noncomputable def kcp:Con TB.den:= .gp 235 [yqu] [yqi] [] fun(p0:Int)=>(U64 p0,(len64 p0:Int),())
theorem kf0:kcp.Ok Tryz.prog TB:=qrv Bs Tryz.func235 (.r 0 (.jn ⟨[],[],[0,2],[.one (zqu),.one (zqi)],[]⟩ [] .no [] (.jn ⟨[],[],[0,2],[.one (zqu),.one (zqi)],[]⟩ [] .no [] (.jn ⟨[],[],[0,2],[.one (zqu),.one (zqi)],[]⟩ [] .no [] .no)))) c0 (Q:=∀(p0:Int),(U64 p0)->∀r0:Int,len64 p0=r0-> 
∀J1:Int->Int->Prop,(∀(b1 f1:Int),
(∀J2:Int->Int->Prop,(∀(i1 k1:Int),
(∀J3:Int->Int->Prop,(∀(l1 m1:Int),
((0<=IntKind.u8.wrap l1/\IntKind.u8.wrap l1<((⟨#[0,1,2,2,3,3,3,3,4,4,4,4,4,4,4,4,5,5,5,5,5,5,5,5,5,5,5,5,5,5,5,5,6,6,6,6,6,6,6,6,6,6,6,6,6,6,6,6,6,6,6,6,6,6,6,6,6,6,6,6,6,6,6,6,7,7,7,7,7,7,7,7,7,7,7,7,7,7,7,7,7,7,7,7,7,7,7,7,7,7,7,7,7,7,7,7,7,7,7,7,7,7,7,7,7,7,7,7,7,7,7,7,7,7,7,7,7,7,7,7,7,7,7,7,7,7,7,7,8,8,8,8,8,8,8,8,8,8,8,8,8,8,8,8,8,8,8,8,8,8,8,8,8,8,8,8,8,8,8,8,8,8,8,8,8,8,8,8,8,8,8,8,8,8,8,8,8,8,8,8,8,8,8,8,8,8,8,8,8,8,8,8,8,8,8,8,8,8,8,8,8,8,8,8,8,8,8,8,8,8,8,8,8,8,8,8,8,8,8,8,8,8,8,8,8,8,8,8,8,8,8,8,8,8,8,8,8,8,8,8,8,8,8,8,8,8,8,8,8,8,8,8,8,8,8,8]⟩:ByteArray).size:Int))/\let v1:Int:=byteAt (⟨#[0,1,2,2,3,3,3,3,4,4,4,4,4,4,4,4,5,5,5,5,5,5,5,5,5,5,5,5,5,5,5,5,6,6,6,6,6,6,6,6,6,6,6,6,6,6,6,6,6,6,6,6,6,6,6,6,6,6,6,6,6,6,6,6,7,7,7,7,7,7,7,7,7,7,7,7,7,7,7,7,7,7,7,7,7,7,7,7,7,7,7,7,7,7,7,7,7,7,7,7,7,7,7,7,7,7,7,7,7,7,7,7,7,7,7,7,7,7,7,7,7,7,7,7,7,7,7,7,8,8,8,8,8,8,8,8,8,8,8,8,8,8,8,8,8,8,8,8,8,8,8,8,8,8,8,8,8,8,8,8,8,8,8,8,8,8,8,8,8,8,8,8,8,8,8,8,8,8,8,8,8,8,8,8,8,8,8,8,8,8,8,8,8,8,8,8,8,8,8,8,8,8,8,8,8,8,8,8,8,8,8,8,8,8,8,8,8,8,8,8,8,8,8,8,8,8,8,8,8,8,8,8,8,8,8,8,8,8,8,8,8,8,8,8,8,8,8,8,8,8,8,8,8,8,8,8]⟩:ByteArray) (IntKind.u8.wrap l1)
let v2:Int:=i64.wrap (m1+(i64.wrap v1))
v2=r0)->J3 l1 m1)->
(decide (256<=i1)=true->
J3 (ishr .u64 i1 8) (i64.wrap (k1+8)))/\
(decide (256<=i1)=false->
J3 i1 k1))->J2 i1 k1)->
(decide (65536<=b1)=true->
J2 (ishr .u64 b1 16) (i64.wrap (f1+16)))/\
(decide (65536<=b1)=false->
J2 b1 f1))->J1 b1 f1)->
(decide (4294967296<=p0)=true->
J1 (ishr .u64 p0 32) 32)/\
(decide (4294967296<=p0)=false->
J1 p0 0)) (by kernel_rfl)<|by
 rintro p0 h _ rfl
 intro J1 j1
 have j1:∀s0 s2:Int,0<=s0->s0<4294967296->0<=s2->s2<=32->len64 p0=s2+len64 s0->J1 s0 s2:=fun s0 s2 h0 h1 h2 h3 h4=>by
  refine j1 _ _ fun J2 j2=> ?_
  have j2:∀s0 s2:Int,0<=s0->s0<65536->0<=s2->s2<=48->len64 p0=s2+len64 s0->J2 s0 s2:=fun s0 s2 h0 h1 h2 h3 h4=>by
   refine j2 _ _ fun J3 j3=> ?_
   have j3:∀s0 s2:Int,0<=s0->s0<256->0<=s2->s2<=56->len64 p0=s2+len64 s0->J3 s0 s2:=fun s0 s2 h0 h1 h2 h3 h4=>by
    refine j3 _ _ ?_
    have e:IntKind.u8.wrap s0=s0:=by rw[u8w];omega
    have l:=kim s0 ⟨h0,h1⟩
    show(0<=IntKind.u8.wrap s0/\IntKind.u8.wrap s0<(tab8.size:Int))/\i64.wrap (s2+i64.wrap (byteAt tab8 (IntKind.u8.wrap s0)))=_
    rw[e,kke,kgo s0 ⟨h0,h1⟩,wi (len64 s0) (by omega) (by omega),wi (s2+len64 s0) (by omega) (by omega),h4]
    exact⟨⟨h0,h1⟩,rfl⟩
   refine⟨fun h=> ?_,fun h=>j3 s0 s2 h0 (by simpa using h) h2 (by omega) h4⟩
   have h:=of_decide_eq_true h
   rw[<-k4w s0 8 (by simpa using h),<-Int.add_assoc,Int.add_right_comm]at h4
   rw[ishr8,wi _ (by omega) (by omega)]
   exact j3 _ _ (by omega) (by omega) (by omega) (by omega) (by omega)
  refine⟨fun h=> ?_,fun h=>j2 s0 s2 h0 (by simpa using h) h2 (by omega) h4⟩
  have h:=of_decide_eq_true h
  rw[<-k4w s0 16 (by simpa using h),<-Int.add_assoc,Int.add_right_comm]at h4
  rw[ishr16,wi _ (by omega) (by omega)]
  exact j2 _ _ (by omega) (by omega) (by omega) (by omega) (by omega)
 refine⟨fun h1=> ?_,fun h1=> ?_⟩
 ·have h1:=of_decide_eq_true h1
  rw[ishr32]
  exact j1 _ _ (by omega) (by omega) (by omega) (by omega) (by rw[<-k4w p0 32 (by simpa using h1),Int.add_comm];rfl)
 ·exact j1 p0 0 h.1 (by simpa using h1) (by omega) (by omega) (by omega)
noncomputable def k4d:Con TB.den:= .gp 221 [yqu] [yqi] [] fun(p0:Int)=>(0<p0/\p0<18446744073709551616,(64-len64 p0:Int),())
theorem k4v:k4d.Ok Tryz.prog TB:=qrv Bs Tryz.func221 .no (kf0.c c0) (Q:=∀(p0:Int),(0<p0/\p0<18446744073709551616)->∀r0:Int,(64-len64 p0)=r0-> 
(U64 p0)/\i64.wrap (64-(len64 p0))=r0) (by kernel_rfl)<|by
 rintro p0 h _ rfl
 obtain⟨s,e,h1,_⟩:=kc7 p0 h
 refine⟨⟨by omega,h.2⟩,?_⟩
 exact wi _ (by omega) (by omega)
noncomputable def kd4:Con TB.den:= .gp 187 [yqu,yqu,yqu] [yqu,yqu] [] fun(p0 p1 p2:Int)=>(U64 p0/\U64 p1/\U64 p2/\p0<p2,((p0*18446744073709551616+p1)/p2:Int),((p0*18446744073709551616+p1)%p2:Int),())
theorem kfh:kd4.Ok Tryz.prog TB:=qrv Bs Tryz.func187 (.r 13 (.jn ⟨[],[],[15,16],[.one (zqu),.one (.any)],[]⟩ [] (.lp [] ⟨[],[],[15,16],[.one (zqu),.one (zqu)],[]⟩ (.jn ⟨[],[],[],[],[]⟩ [] .no [] .no)) [] (.r 2 (.jn ⟨[],[],[16,18],[.one (.any),.one (zqu)],[]⟩ [] (.lp [] ⟨[],[],[16,18],[.one (zqu),.one (zqu)],[]⟩ (.jn ⟨[],[],[],[],[]⟩ [] .no [] .no)) [] .no)))) (k4v.c c0) (Q:=∀(p0 p1 p2:Int),(U64 p0/\U64 p1/\U64 p2/\p0<p2)->∀r0:Int,((p0*18446744073709551616+p1)/p2)=r0->∀r1:Int,((p0*18446744073709551616+p1)%p2)=r1-> 
((p2==0)=true->
False)/\
((p2==0)=false->
(decide (p2<=p0)=true->
False)/\
(decide (p2<=p0)=false->
((p0==0)=true->
(p2≠0)/\(p2≠0)/\u64.wrap (Int.tdiv p1 p2)=r0/\Int.tmod p1 p2=r1)/\
((p0==0)=false->
(0<p2/\p2<18446744073709551616)/\(0<=u64.wrap (64-len64 p2))/\let v2:Int:=ishl .u64 p2 (u64.wrap (64-len64 p2))
(0<=u64.wrap (64-len64 p2))/\let v3:Int:=ishl .u64 p0 (u64.wrap (64-len64 p2))
let v4:Int:=u64.wrap (64-(u64.wrap (64-len64 p2)))
(0<=v4)/\(0<=u64.wrap (64-len64 p2))/\let v5:Int:=ishl .u64 p1 (u64.wrap (64-len64 p2))
(ishr .u64 v2 32≠0)/\let v6:Int:=u64.wrap (Int.tdiv (ior .u64 v3 (ishr .u64 p1 v4)) (ishr .u64 v2 32))
let v7:Int:=u64.wrap (v6*(ishr .u64 v2 32))
let v8:Int:=u64.wrap ((ior .u64 v3 (ishr .u64 p1 v4))-v7)
∀J1:Int->Prop,(∀(b1:Int),
(let v12:Int:=u64.wrap ((ior .u64 v3 (ishr .u64 p1 v4))*4294967296)
let v13:Int:=u64.wrap (v12+(ishr .u64 v5 32))
let v14:Int:=u64.wrap (v13-(u64.wrap (b1*v2)))
(ishr .u64 v2 32≠0)/\let v15:Int:=u64.wrap (Int.tdiv v14 (ishr .u64 v2 32))
let v16:Int:=u64.wrap (v15*(ishr .u64 v2 32))
∀J3:Int->Prop,(∀(k1:Int),
(let v20:Int:=u64.wrap ((u64.wrap (b1*4294967296))+k1)
let v21:Int:=u64.wrap ((u64.wrap (v14*4294967296))+(iand .u64 v5 4294967295))
let v22:Int:=u64.wrap (v21-(u64.wrap (k1*v2)))
(0<=u64.wrap (64-len64 p2))/\let v23:Int:=ishr .u64 v22 (u64.wrap (64-len64 p2))
v20=r0/\v23=r1)->J3 k1)->
∃(I2:Int->Int->Prop) (M2:Int->Int->Nat),I2 (u64.wrap (v14-v16)) v15/\∀(l1 m1:Int),(I2 l1 m1->
∀J4:Prop,((let v19:Int:=u64.wrap (l1+(ishr .u64 v2 32))
(decide (4294967296<=v19)=true->
J3 (u64.wrap (m1-1)))/\
(decide (4294967296<=v19)=false->
I2 v19 (u64.wrap (m1-1))/\M2 v19 (u64.wrap (m1-1))<M2 l1 m1))->J4)->
(decide (4294967296<=m1)=true->
J4)/\
(decide (4294967296<=m1)=false->
let v17:Int:=u64.wrap (m1*(iand .u64 v2 4294967295))
let v18:Int:=u64.wrap ((u64.wrap (4294967296*l1))+(iand .u64 v5 4294967295))
(decide (v18<v17)=true->
J4)/\
(decide (v18<v17)=false->
J3 m1))))->J1 b1)->
∃(I1:Int->Int->Prop) (M1:Int->Int->Nat),I1 v6 v8/\∀(f1 i1:Int),(I1 f1 i1->
∀J2:Prop,((let v11:Int:=u64.wrap (i1+(ishr .u64 v2 32))
(decide (4294967296<=v11)=true->
J1 (u64.wrap (f1-1)))/\
(decide (4294967296<=v11)=false->
I1 (u64.wrap (f1-1)) v11/\M1 (u64.wrap (f1-1)) v11<M1 f1 i1))->J2)->
(decide (4294967296<=f1)=true->
J2)/\
(decide (4294967296<=f1)=false->
let v9:Int:=u64.wrap (f1*(iand .u64 v2 4294967295))
let v10:Int:=u64.wrap ((u64.wrap (4294967296*i1))+(ishr .u64 v5 32))
(decide (v10<v9)=true->
J2)/\
(decide (v10<v9)=false->
J1 f1))))))) (by kernel_rfl)<|by
 rintro p0 p1 p2 h _ rfl _ rfl
 obtain⟨h0,h1,h2,hlt⟩:=h
 refine⟨fun e=> ?_,fun _=>⟨fun e=> ?_,fun _=>⟨fun e=> ?_,fun _=> ?_⟩⟩⟩
 ·simp at e;omega
 ·simp at e;omega
 ·have e:p0=0:=by simpa using e
  subst e
  rw[tdiv_nn _ _ h1.1,tmod_nn _ _ h1.1,Int.zero_mul,Int.zero_add]
  have:=Int.ediv_le_self p2 h1.1
  have:=Int.ediv_nonneg h1.1 h2.1
  exact⟨by omega,by omega,wu _ (by omega) (by have:=Int.ediv_le_self p2 h1.1;omega),rfl⟩
 obtain⟨s,e,hs,n1,n2⟩:=kc7 p2 ⟨by omega,h2.2⟩
 have ew:u64.wrap (64-len64 p2)=(s:Int):=by rw[e,wu _ (by omega) (by omega)]
 have ew3:u64.wrap (64-(s:Int))=((64-s:Nat):Int):=by rw[wu _ (by omega) (by omega)];omega
 have hp:0<2^s:=Nat.two_pow_pos s
 have hp' :0<2^(64-s):=Nat.two_pow_pos _
 have hpp:2^s*2^(64-s)=18446744073709551616:=by rw[<-Nat.pow_add,show s+(64-s)=64 by omega]
 have hP:((2^s:Nat):Int)*((2^(64-s):Nat):Int)=18446744073709551616:=by rw[<-Int.natCast_mul,hpp];rfl
 have il:∀a:Int,ishl .u64 a (s:Int)=a*((2^s:Nat):Int)%18446744073709551616:=fun a=>by rw[kgf,Int.toNat_natCast,Nat.min_eq_left (by omega)]
 have ir:∀a:Int,ishr .u64 a (s:Int)=a/((2^s:Nat):Int):=fun a=>by rw[k1n,Int.toNat_natCast,show min s u64.bits=s from Nat.min_eq_left (by show s<=64;omega)]
 have ir' :∀a:Int,ishr .u64 a ((64-s:Nat):Int)=a/((2^(64-s):Nat):Int):=fun a=>by rw[k1n,Int.toNat_natCast,show min (64-s) u64.bits=64-s from Nat.min_eq_left (by show 64-s<=64;omega)]
 have hor:∀c:Int,0<=c->c<((2^s:Nat):Int)->p0*((2^s:Nat):Int)+c<18446744073709551616->ior .u64 (p0*((2^s:Nat):Int)) c=p0*((2^s:Nat):Int)+c:=by
  intro c hc0 hc1 hc2
  obtain⟨a,rfl⟩:=Int.eq_ofNat_of_zero_le h0.1
  obtain⟨c,rfl⟩:=Int.eq_ofNat_of_zero_le hc0
  have key:=ior_add' c a s (by omega)
  rw[Int.mul_comm,<-Int.natCast_mul]at hc2 ⊢
  rw[key (by omega)]
  omega
 simp only[ew,ew3,il,ir',ishr32]
 have hP'0:(0:Int)<((2^(64-s):Nat):Int):=by omega
 generalize hPd:((2^s:Nat):Int)=P at *
 generalize hPd' :((2^(64-s):Nat):Int)=P' at *
 have hP0:0<P:=by omega
 have hlo:p1/P' <P:=Int.ediv_lt_of_lt_mul hP'0 (by omega)
 have hlo0:0<=p1/P' :=Int.ediv_nonneg h1.1 (by omega)
 have hUv:p0*P+P<=p2*P:=by
  have:(p0+1)*P<=p2*P:=Int.mul_le_mul_of_nonneg_right (by omega) (by omega)
  grind
 have hUp:0<=p0*P:=Int.mul_nonneg h0.1 (by omega)
 rw[Int.emod_eq_of_lt (a:=p2*P) (by omega) n2,Int.emod_eq_of_lt (a:=p0*P) hUp (by omega),hor _ hlo0 hlo (by omega)]
 have hN:(p0*18446744073709551616+p1)*P=(p0*P+p1/P')*18446744073709551616+(p1*P%18446744073709551616/4294967296)*4294967296+p1*P%18446744073709551616%4294967296:=by
  have h5:p1*P/18446744073709551616=p1/P' :=by
   rw[<-hP,Int.mul_comm p1 P,Int.mul_ediv_mul_of_pos _ _ hP0]
  have h6:=Int.emod_add_mul_ediv (p1*P) 18446744073709551616
  rw[h5]at h6
  have:(p0*18446744073709551616+p1)*P=p0*P*18446744073709551616+p1*P:=by grind
  rw[this]
  generalize p1*P=w at *
  generalize p0*P=w' at *
  omega
 have hlb:0<=p1*P%18446744073709551616/\p1*P%18446744073709551616<18446744073709551616:=⟨Int.emod_nonneg _ (by omega),Int.emod_lt_of_pos _ (by omega)⟩
 generalize hUd:p0*P+p1/P' =U at *
 generalize hLd:p1*P%18446744073709551616=L at *
 have hVd:p2*P/4294967296*4294967296+p2*P%4294967296=p2*P:=by omega
 have hw:∀{Q R V' :Int},R-Q=V'->0<=V'->V' <18446744073709551616->∀A,R=A*4294967296+(R-A*4294967296)->u64.wrap (u64.wrap (u64.wrap (A*4294967296)+(R-A*4294967296))-u64.wrap Q)=V' :=by
  intro Q R V' hv h0 h1 A hA
  simp only[u64w]
  omega
 rw[k25 (p2*P) (by omega),k25 L (by omega)]
 generalize ha:p2*P/4294967296=a at *
 generalize hb:p2*P%4294967296=b at *
 have hQ1:Half U (L/4294967296) a b ((U*4294967296+L/4294967296)/(a*4294967296+b)):=⟨by omega,by omega,by omega,by omega,by omega,rfl⟩
 have hr1:=hQ1.rest
 have hq1:=hQ1.q
 generalize (U*4294967296+L/4294967296)/(a*4294967296+b)=Q1 at *
 generalize (U*4294967296+L/4294967296)%(a*4294967296+b)=R1 at *
 have hQ0:Half R1 (L%4294967296) a b ((R1*4294967296+L%4294967296)/(a*4294967296+b)):=⟨by omega,by omega,by omega,by omega,by omega,rfl⟩
 have hr0:=hQ0.rest
 have hq0:=hQ0.q
 generalize (R1*4294967296+L%4294967296)/(a*4294967296+b)=Q0 at *
 generalize (R1*4294967296+L%4294967296)%(a*4294967296+b)=R0 at *
 rw[hVd]at hr1 hr0 hq1 hq0
 have fin:=kj4 hP0 (by omega:0<p2) hN hr1.1 hr0.1 ⟨hr0.2.1,hr0.2.2⟩
 have aux:∀{U x Q q r:Int},Half U x a b Q->U<18446744073709551616->q*a+r=U->Q<=q->0<=r->q<=8589934592:=by
  intro U x Q q r hh hU e hQ hr
  have h1:=hh.ha
  refine Int.le_of_lt_add_one (Int.lt_of_mul_lt_mul_right (a:=a) ?_ (by omega))
  generalize q*a=w at *
  omega
 have init:∀{U x Q:Int},Half U x a b Q->Q<=U/a:=by
  intro U x Q hh
  have h1:=hh.ha
  have h2:=hh.q
  have h3:=hh.hb
  have h4:=hh.hx
  refine(Int.le_ediv_iff_mul_le (by omega)).2 ?_
  have h5:Q*(a*4294967296+b)=Q*a*4294967296+Q*b:=by grind
  have h6:0<=Q*b:=Int.mul_nonneg h2.1 h3.1
  generalize Q*a=w at *
  omega
 have hd:=Int.emod_add_mul_ediv U a
 have hd1:=Int.emod_nonneg U (by omega:a≠0)
 have hd2:=Int.emod_lt_of_pos U (by omega:0<a)
 have hd3:0<=U/a:=Int.ediv_nonneg (by omega) (by omega)
 rw[Int.mul_comm]at hd
 have hd5:0<=U/a*a:=Int.mul_nonneg hd3 (by omega)
 have hd4:=aux hQ1 (by omega) (q:=U/a) (r:=U%a) (by omega) (init hQ1) hd1
 rw[tdiv_nn _ _ (by omega),wu (U/a) (by omega) (by omega),wu (U/a*a) (by omega) (by omega),show U-U/a*a=U%a by omega,wu (U%a) (by omega) (by omega)]
 refine⟨⟨by omega,h2.2⟩,by omega,by omega,by omega,by omega,by omega,fun J1 k1=> ?_⟩
 have j2:J1 Q1:=by
  have e1:=hw (Q:=Q1*(p2*P)) (R:=U*4294967296+L/4294967296) hr1.1 hr1.2.1 (by omega) U (by omega)
  rw[show U*4294967296+L/4294967296-U*4294967296=L/4294967296 by omega]at e1
  refine k1 _ ?_
  simp only[e1]
  have hd:=Int.emod_add_mul_ediv R1 a
  have hd1:=Int.emod_nonneg R1 (by omega:a≠0)
  have hd2:=Int.emod_lt_of_pos R1 (by omega:0<a)
  have hd3:0<=R1/a:=Int.ediv_nonneg hr1.2.1 (by omega)
  rw[Int.mul_comm]at hd
  have hd5:0<=R1/a*a:=Int.mul_nonneg hd3 (by omega)
  have hd4:=aux hQ0 (by omega) (q:=R1/a) (r:=R1%a) (by omega) (init hQ0) hd1
  rw[tdiv_nn _ _ hr1.2.1,wu (R1/a) (by omega) (by omega),wu (R1/a*a) (by omega) (by omega),show R1-R1/a*a=R1%a by omega,wu (R1%a) (by omega) (by omega)]
  refine⟨by omega,fun J3 k3=> ?_⟩
  have j4:J3 Q0:=by
   refine k3 _ ⟨by omega,?_,?_⟩
   ·rw[wu (Q1*4294967296) (by omega) (by omega),wu _ (by omega) (by omega)]
    exact fin.1
   ·have:=hw (Q:=Q0*(p2*P)) (R:=R1*4294967296+L%4294967296) hr0.1 hr0.2.1 (by omega) R1 (by omega)
    rw[show R1*4294967296+L%4294967296-R1*4294967296=L%4294967296 by omega]at this
    rw[this,ir]
    exact fin.2
  refine⟨fun r q=>q*a+r=R1/\Q0<=q/\0<=r/\r<4294967296,fun r q=>q.toNat,⟨by omega,init hQ0,hd1,by omega⟩,?_⟩
  rintro r q ⟨g1,g2,g3,g4⟩ J4 k4
  have g5:=aux hQ0 (by omega) g1 g2 g3
  have nxt:Q0<=q-1->r+a<4294967296->((q-1)*a+(r+a)=R1/\Q0<=q-1/\0<=r+a/\r+a<4294967296)/\(q-1).toNat<q.toNat:=fun h1 h2=>⟨⟨by grind,h1,by omega,h2⟩,by(first|omega|(dsimp only;omega))⟩
  have j3:Q0<=q-1->J4:=by
   intro hq
   refine k4 ?_
   rw[wu (q-1) (by omega) (by omega),wu (r+a) (by omega) (by omega)]
   refine⟨fun hd=> ?_,fun hd=>nxt hq (by simpa using hd)⟩
   have hd:4294967296<=r+a:=of_decide_eq_true hd
   rw[hQ0.done (q:=q-1) (r:=r+a) (by grind) hq hd]
   exact j4
  refine⟨fun hd=>j3 (hQ0.down g1 (.inl (of_decide_eq_true hd))),fun hd=> ?_⟩
  have hd:q<4294967296:=by simpa using hd
  have hqb:0<=q*b/\q*b<18446744073709551616:=by
   have:=hQ0.hb
   have h1:q*b<=4294967295*4294967295:=Int.mul_le_mul (by omega) (by omega) (by omega) (by omega)
   exact⟨Int.mul_nonneg (by omega) (by omega),by(first|omega|(dsimp only;omega))⟩
  have:=hQ0.hx
  rw[wu (q*b) (by omega) (by omega),wu (4294967296*r) (by omega) (by omega),wu (4294967296*r+L%4294967296) (by omega) (by omega)]
  refine⟨fun ht=> ?_,fun ht=> ?_⟩
  ·have ht:4294967296*r+L%4294967296<q*b:=of_decide_eq_true ht
   exact j3 (hQ0.down g1 (.inr (by omega)))
  ·have ht:¬(4294967296*r+L%4294967296<q*b):=of_decide_eq_false ht
   rw[hQ0.exit g1 g2 (by omega)]
   exact j4
 refine⟨fun q r=>q*a+r=U/\Q1<=q/\0<=r/\r<4294967296,fun q r=>q.toNat,⟨by omega,init hQ1,hd1,by omega⟩,?_⟩
 rintro q r ⟨g1,g2,g3,g4⟩ J2 k2
 have g5:=aux hQ1 (by omega) g1 g2 g3
 have nxt:Q1<=q-1->r+a<4294967296->((q-1)*a+(r+a)=U/\Q1<=q-1/\0<=r+a/\r+a<4294967296)/\(q-1).toNat<q.toNat:=fun h1 h2=>⟨⟨by grind,h1,by omega,h2⟩,by(first|omega|(dsimp only;omega))⟩
 have j1:Q1<=q-1->J2:=by
  intro hq
  refine k2 ?_
  rw[wu (q-1) (by omega) (by omega),wu (r+a) (by omega) (by omega)]
  refine⟨fun hd=> ?_,fun hd=>nxt hq (by simpa using hd)⟩
  have hd:4294967296<=r+a:=of_decide_eq_true hd
  rw[hQ1.done (q:=q-1) (r:=r+a) (by grind) hq hd]
  exact j2
 refine⟨fun hd=>j1 (hQ1.down g1 (.inl (of_decide_eq_true hd))),fun hd=> ?_⟩
 have hd:q<4294967296:=by simpa using hd
 have hqb:0<=q*b/\q*b<18446744073709551616:=by
  have:=hQ1.hb
  have h1:q*b<=4294967295*4294967295:=Int.mul_le_mul (by omega) (by omega) (by omega) (by omega)
  exact⟨Int.mul_nonneg (by omega) (by omega),by(first|omega|(dsimp only;omega))⟩
 have:=hQ1.hx
 rw[wu (q*b) (by omega) (by omega),wu (4294967296*r) (by omega) (by omega),wu (4294967296*r+L/4294967296) (by omega) (by omega)]
 refine⟨fun ht=> ?_,fun ht=> ?_⟩
 ·have ht:4294967296*r+L/4294967296<q*b:=of_decide_eq_true ht
  exact j1 (hQ1.down g1 (.inr (by omega)))
 ·have ht:¬(4294967296*r+L/4294967296<q*b):=of_decide_eq_false ht
  rw[hQ1.exit g1 g2 (by omega)]
  exact j2
noncomputable def kcy:Con TB.den:= .gp 186 [yqu,yqu] [yqu,yqu] [] fun(p0 p1:Int)=>(U64 p0/\U64 p1,(p0*p1/18446744073709551616:Int),(p0*p1%18446744073709551616:Int),())
theorem kf8:kcy.Ok Tryz.prog TB:=qrv Bs Tryz.func186 .no c0 (Q:=∀(p0 p1:Int),(U64 p0/\U64 p1)->∀r0:Int,(p0*p1/18446744073709551616)=r0->∀r1:Int,(p0*p1%18446744073709551616)=r1-> 
let v2:Int:=u64.wrap ((iand .u64 p0 4294967295)*(iand .u64 p1 4294967295))
let v3:Int:=u64.wrap ((ishr .u64 p0 32)*(iand .u64 p1 4294967295))
let v4:Int:=u64.wrap (v3+(ishr .u64 v2 32))
let v5:Int:=u64.wrap ((iand .u64 p0 4294967295)*(ishr .u64 p1 32))
let v6:Int:=u64.wrap ((iand .u64 v4 4294967295)+v5)
let v7:Int:=u64.wrap ((ishr .u64 p0 32)*(ishr .u64 p1 32))
let v8:Int:=u64.wrap (v7+(ishr .u64 v4 32))
let v9:Int:=u64.wrap (v8+(ishr .u64 v6 32))
v9=r0/\u64.wrap (p0*p1)=r1) (by kernel_rfl)<|by
 rintro p0 p1 h _ rfl _ rfl
 obtain⟨h0,h1⟩:=h
 have k:=klo p0 p1 h0 h1
 refine ?_
 simp only[k25 p0 h0,k25 p1 h1,ishr32]
 obtain⟨e,k1,k2,k3,k4,k5,k6,k7,k8⟩:=k
 rw[<-e]
 rw[wu (p0%4294967296*(p1%4294967296)) (by omega) (by omega),wu (p0/4294967296*(p1%4294967296)) (by omega) (by omega),wu (p0%4294967296*(p1/4294967296)) (by omega) (by omega),wu (p0/4294967296*(p1/4294967296)) (by omega) (by omega)]
 generalize p0%4294967296*(p1%4294967296)=a at *
 generalize p0/4294967296*(p1%4294967296)=b at *
 generalize p0%4294967296*(p1/4294967296)=c at *
 generalize p0/4294967296*(p1/4294967296)=d at *
 rw[wu (b+a/4294967296) (by omega) (by omega),k25 _ (by omega)]
 simp only[u64w]
 refine⟨?_,trivial⟩
 omega
noncomputable def kf1:Con TB.den:= .gp 209 [.st 7,yqu,yqu] [yqu] [] fun(p0:ww) (p1 p2:Int)=>(p0.P=18446744069414584321/\(0<=p1/\p1<18446744069414584321)/\(0<=p2/\p2<18446744069414584321),(p1*p2%18446744069414584321:Int),())
theorem k8d:kf1.Ok Tryz.prog TB:=qrv Bs Tryz.func209 .no (kf8.c (kfh.c c0)) (Q:=∀(p0:ww) (p1 p2:Int),(p0.P=18446744069414584321/\(0<=p1/\p1<18446744069414584321)/\(0<=p2/\p2<18446744069414584321))->∀r0:Int,(p1*p2%18446744069414584321)=r0-> 
(U64 p1/\U64 p2)/\(U64 (p1*p2/18446744073709551616)/\U64 (p1*p2%18446744073709551616)/\U64 p0.P/\(p1*p2/18446744073709551616)<p0.P)/\let r1:Int:=(((p1*p2/18446744073709551616)*18446744073709551616+(p1*p2%18446744073709551616))/p0.P)
let r2:Int:=(((p1*p2/18446744073709551616)*18446744073709551616+(p1*p2%18446744073709551616))%p0.P)
r2=r0) (by kernel_rfl)<|by
 rintro p0 p1 p2 h _ rfl
 obtain⟨hP,h1,h2⟩:=h
 have h3:0<=p1*p2:=Int.mul_nonneg h1.1 h2.1
 have h4:p1*p2<=18446744069414584320*18446744069414584320:=Int.mul_le_mul (by omega) (by omega) h2.1 (by omega)
 refine⟨⟨by omega,by omega⟩,?_⟩
 simp only[hP]
 generalize p1*p2=m at *
 refine⟨⟨⟨by omega,by omega⟩,⟨by omega,by omega⟩,by omega,by omega⟩,?_⟩
 rw[show m/18446744073709551616*18446744073709551616+m%18446744073709551616=m by omega]
noncomputable def kfc:Con TB.den:= .gp 170 [.st 7,yqu,yqu] [yqu] [] fun(p0:ww) (p1 p2:Int)=>(p0.P=18446744069414584321/\U64 p1/\U64 p2,(p1*p2%18446744069414584321:Int),())
theorem kg3:kfc.Ok Tryz.prog TB:=qrv Bs Tryz.func170 .no (k1a.c (k1o.c (k8d.c c0))) (Q:=∀(p0:ww) (p1 p2:Int),(p0.P=18446744069414584321/\U64 p1/\U64 p2)->∀r0:Int,(p1*p2%18446744069414584321)=r0-> 
(p0.P=18446744069414584321)/\((!true)=true->
0=r0)/\
((!true)=false->
(0<p0.P/\0<=p1)/\(0<p0.P/\0<=p2)/\(p0.P=18446744069414584321/\(0<=(p1%p0.P)/\(p1%p0.P)<18446744069414584321)/\(0<=(p2%p0.P)/\(p2%p0.P)<18446744069414584321))/\let r1:Int:=((p1%p0.P)*(p2%p0.P)%18446744069414584321)
r1=r0)) (by kernel_rfl)<|by
 rintro p0 p1 p2 h _ rfl
 obtain⟨hP,h1,h2⟩:=h
 refine⟨hP,?_⟩
 simp only[hP]
 refine⟨fun h=>by simp at h,fun _=>⟨by omega,by omega,⟨by trivial,by omega,by omega⟩,?_⟩⟩
 exact(Int.mul_emod _ _ _).symm
noncomputable def k94:Con TB.den:= .gp 232 [.st 7] [yqu,yqi,yqu] [] fun(p0:ww)=>(p0.P=18446744069414584321,(7:Int),(32:Int),(7:Int),())
theorem ka9:k94.Ok Tryz.prog TB:=qrv Bs Tryz.func232 .no c0 (Q:=∀(p0:ww),(p0.P=18446744069414584321)->∀r0:Int,(7:Int)=r0->∀r1:Int,(32:Int)=r1->∀r2:Int,(7:Int)=r2-> 
((p0.P==17)=true->
3=r0/\4=r1/\3=r2)/\
((p0.P==17)=false->
((p0.P==97)=true->
5=r0/\5=r1/\5=r2)/\
((p0.P==97)=false->
((p0.P==193)=true->
5=r0/\6=r1/\5=r2)/\
((p0.P==193)=false->
((p0.P==257)=true->
3=r0/\8=r1/\3=r2)/\
((p0.P==257)=false->
((p0.P==12289)=true->
11=r0/\12=r1/\5=r2)/\
((p0.P==12289)=false->
((p0.P==65537)=true->
3=r0/\16=r1/\3=r2)/\
((p0.P==65537)=false->
((p0.P==18446744069414584321)=true->
7=r0/\32=r1/\7=r2)/\
((p0.P==18446744069414584321)=false->
0=r0/\0=r1/\0=r2)))))))) (by kernel_rfl)<|by
 rintro p0 h _ rfl _ rfl _ rfl
 refine ?_
 simp[h]
noncomputable def k7v:Con TB.den:= .gp 210 [.st 7] [yqu] [] fun(p0:ww)=>(p0.P=18446744069414584321,(7:Int),())
theorem k8w:k7v.Ok Tryz.prog TB:=qrv Bs Tryz.func210 .no (ka9.c c0) (Q:=∀(p0:ww),(p0.P=18446744069414584321)->∀r0:Int,(7:Int)=r0-> 
(p0.P=18446744069414584321)/\7=r0) (by kernel_rfl)<|by
 rintro p0 h _ rfl
 exact⟨h,rfl⟩
noncomputable def kf9:Con TB.den:= .gp 233 [.st 7,yqu,yqu] [yqu] [] fun(p0:ww) (p1 p2:Int)=>(p0.P=18446744069414584321/\(0<=p1/\p1<18446744069414584321)/\U64 p2,(pw p1 p2:Int),())
theorem khs:kf9.Ok Tryz.prog TB:=qrv Bs Tryz.func233 (.r 1 (.nd [] (.lp [] ⟨[],[],[1,2,7],[.one (zqu),.one (zqu),.one (zqu)],[]⟩ (.r 0 (.jn ⟨[],[],[7],[.one (zqu)],[]⟩ [] .no [] .no))) [] .no)) (k8d.c c0) (Q:=∀(p0:ww) (p1 p2:Int),(p0.P=18446744069414584321/\(0<=p1/\p1<18446744069414584321)/\U64 p2)->∀r0:Int,pw p1 p2=r0-> 
∃(I1:Int->Int->Int->Prop) (M1:Int->Int->Int->Nat),I1 p1 p2 1/\∀(b1 f1 i1:Int),(I1 b1 f1 i1->
(decide (0<f1)=true->
∀J1:Int->Prop,(∀(k1:Int),
((decide (0<(ishr .u64 f1 1))=true->
(p0.P=18446744069414584321/\(0<=b1/\b1<18446744069414584321)/\(0<=b1/\b1<18446744069414584321))/\I1 (b1*b1%18446744069414584321) (ishr .u64 f1 1) k1/\M1 (b1*b1%18446744069414584321) (ishr .u64 f1 1) k1<M1 b1 f1 i1)/\
(decide (0<(ishr .u64 f1 1))=false->
I1 b1 (ishr .u64 f1 1) k1/\M1 b1 (ishr .u64 f1 1) k1<M1 b1 f1 i1))->J1 k1)->
(((iand .u64 f1 1)==1)=true->
(p0.P=18446744069414584321/\(0<=i1/\i1<18446744069414584321)/\(0<=b1/\b1<18446744069414584321))/\J1 (i1*b1%18446744069414584321))/\
(((iand .u64 f1 1)==1)=false->
J1 i1))/\
(decide (0<f1)=false->
i1=r0))) (by kernel_rfl)<|by
 rintro p0 p1 p2 h _ rfl
 obtain⟨hP,h1,h2⟩:=h
 rw[hP]
 refine⟨fun a e r=>(0<=a/\a<18446744069414584321)/\U64 e/\(0<=r/\r<18446744069414584321)/\(r*a^e.toNat)%18446744069414584321=pw p1 p2,fun a e r=>e.toNat,⟨h1,h2,by omega,by rw[Int.one_mul];rfl⟩,?_⟩
 rintro a e r ⟨ha,he,hr,hv⟩
 refine⟨fun h J1 j=> ?_,fun h=> ?_⟩
 ·have h:=of_decide_eq_true h
  have jj:∀r',(0<=r'/\r' <18446744069414584321)->(r' *(a*a)^(e/2).toNat)%18446744069414584321=pw p1 p2->J1 r' :=by
   intro r' hr' hv'
   have hn:∀a',(0<=a'/\a' <18446744069414584321)->r' *a' ^(e/2).toNat%18446744069414584321=pw p1 p2->((0<=a'/\a' <18446744069414584321)/\U64 (e/2)/\(0<=r'/\r' <18446744069414584321)/\r' *a' ^(e/2).toNat%18446744069414584321=pw p1 p2)/\(e/2).toNat<e.toNat:=fun a' h1 h3=>⟨⟨h1,⟨by omega,by omega⟩,hr',h3⟩,by(first|omega|(dsimp only;omega))⟩
   refine j _ ?_
   rw[ishr1]
   refine⟨fun h=>⟨⟨rfl,ha,ha⟩,?_⟩,fun h=> ?_⟩
   ·refine hn _ ⟨Int.emod_nonneg _ (by omega),Int.emod_lt_of_pos _ (by omega)⟩ ?_
    rw[<-hv',Int.mul_emod,Int.mul_emod r' ((a*a)^_),kgn]
   ·have h:¬0<e/2:=of_decide_eq_false h
    refine hn _ ha ?_
    rw[show(e/2).toNat=0 by omega]at hv' ⊢
    simpa using hv'
  rw[kll e he]
  have hpow:∀k:Nat,a^(2*k)=(a*a)^k:=fun k=>by rw[Int.pow_mul];congr 1;rw[Int.pow_succ,Int.pow_succ,Int.pow_zero,Int.one_mul]
  refine⟨fun h1=>⟨⟨rfl,hr,ha⟩,?_⟩,fun h1=> ?_⟩
  ·have h1:e%2=1:=by simpa using h1
   refine jj _ ⟨Int.emod_nonneg _ (by omega),Int.emod_lt_of_pos _ (by omega)⟩ ?_
   rw[<-hv,show e.toNat=2*(e/2).toNat+1 by omega,Int.pow_succ,hpow,Int.mul_emod,Int.emod_emod_of_dvd _ (Int.dvd_refl _),<-Int.mul_emod]
   congr 1
   grind
  ·have h1:¬e%2=1:=by simpa using h1
   refine jj _ hr ?_
   rw[<-hv,<-hpow,show e.toNat=2*(e/2).toNat by omega]
 ·have h:¬0<e:=of_decide_eq_false h
  rw[show e.toNat=0 by omega,Int.pow_zero,Int.mul_one,Int.emod_eq_of_lt hr.1 hr.2]at hv
  exact hv
noncomputable def kew:Con TB.den:= .gp 211 [.st 7,yqu,yqu] [yqu] [] fun(p0:ww) (p1 p2:Int)=>(p0.P=18446744069414584321/\U64 p1/\U64 p2,(pw (p1%18446744069414584321) p2:Int),())
theorem kh8:kew.Ok Tryz.prog TB:=qrv Bs Tryz.func211 .no (k1a.c (k1o.c (khs.c c0))) (Q:=∀(p0:ww) (p1 p2:Int),(p0.P=18446744069414584321/\U64 p1/\U64 p2)->∀r0:Int,(pw (p1%18446744069414584321) p2)=r0-> 
(p0.P=18446744069414584321)/\((!true)=true->
0=r0)/\
((!true)=false->
(0<p0.P/\0<=p1)/\(p0.P=18446744069414584321/\(0<=(p1%p0.P)/\(p1%p0.P)<18446744069414584321)/\U64 p2)/\(pw (p1%p0.P) p2)=r0)) (by kernel_rfl)<|by
 rintro p0 p1 p2 h _ rfl
 obtain⟨hP,h1,h2⟩:=h
 refine⟨hP,fun h=>by simp at h,fun _=>⟨by omega,?_⟩⟩
 simp only[hP]
 exact⟨⟨by trivial,by omega,h2⟩,trivial⟩
noncomputable def kam:Con TB.den:= .gp 234 [.st 7,yqu] [yqu] [] fun(p0:ww) (p1:Int)=>(p0.P=18446744069414584321/\U64 p1,(p1%18446744069414584321:Int),())
theorem kbu:kam.Ok Tryz.prog TB:=qrv Bs Tryz.func234 .no (k1a.c (k1o.c c0)) (Q:=∀(p0:ww) (p1:Int),(p0.P=18446744069414584321/\U64 p1)->∀r0:Int,(p1%18446744069414584321)=r0-> 
(p0.P=18446744069414584321)/\((!true)=true->
0=r0)/\
((!true)=false->
(0<p0.P/\0<=p1)/\(p1%p0.P)=r0)) (by kernel_rfl)<|by
 rintro p0 p1 h _ rfl
 obtain⟨hP,h1⟩:=h
 refine⟨hP,fun h=>by simp at h,fun _=>⟨by omega,?_⟩⟩
 simp only[hP]
noncomputable def k3r:Con TB.den:= .gp 212 [yqu,yqi,yqi] [yqu] [] fun(p0 p1 p2:Int)=>(p0=18446744069414584321/\(0<=p1/\p1<8)/\0<=p2/\p2<3,(rc p1 p2:Int),())
theorem k4a:k3r.Ok Tryz.prog TB:=qrv Bs Tryz.func212 .no (kbu.c c0) (Q:=∀(p0 p1 p2:Int),(p0=18446744069414584321/\(0<=p1/\p1<8)/\0<=p2/\p2<3)->∀r0:Int,rc p1 p2=r0-> 
(decide (p1<0)=true->
0=r0)/\
(decide (p1<0)=false->
(decide (8<=p1)=true->
0=r0)/\
(decide (8<=p1)=false->
(decide (p2<0)=true->
0=r0)/\
(decide (p2<0)=false->
(decide (2<p2)=true->
0=r0)/\
(decide (2<p2)=false->
let v1:Int:=i64.wrap ((i64.wrap (3*p1))+p2)
let v2:Int:=u64.wrap (i64.wrap (v1+1))
let v3:Int:=u64.wrap (v2*11400714819323198485)
((ww.mk p0).P=18446744069414584321/\U64 v3)/\(v3%18446744069414584321)=r0))))) (by kernel_rfl)<|by
 rintro p0 p1 p2 h _ rfl
 obtain⟨hP,h1,h2⟩:=h
 refine⟨fun h=> ?_,fun _=>⟨fun h=> ?_,fun _=>⟨fun h=> ?_,fun _=>⟨fun h=> ?_,fun _=> ?_⟩⟩⟩⟩
 ·simp at h;omega
 ·simp at h;omega
 ·simp at h;omega
 ·simp at h;omega
 ·simp only[]
  rw[wi (3*p1) (by omega) (by omega),wi (3*p1+p2) (by omega) (by omega),wi (3*p1+p2+1) (by omega) (by omega),wu (3*p1+p2+1) (by omega) (by omega),u64w]
  exact⟨⟨hP,by omega,by omega⟩,rfl⟩
noncomputable def k6v:Con TB.den:= .gp 213 [yqu,.st 8] [.st 8] [] fun(p0:Int) (p1:wAP)=>(p0=18446744069414584321/\S3 p1,(mixS p1:wAP),())
theorem k7n:k6v.Ok Tryz.prog TB:=qrv Bs Tryz.func213 .no (k47.c c0) (Q:=∀(p0:Int) (p1:wAP),(p0=18446744069414584321/\S3 p1)->∀r0:wAP,mixS p1=r0-> 
((ww.mk p0).P=18446744069414584321/\U64 p1.a0/\U64 p1.a1)/\((ww.mk p0).P=18446744069414584321/\U64 ((p1.a0+p1.a1)%18446744069414584321)/\U64 p1.a2)/\let r1:Int:=((((p1.a0+p1.a1)%18446744069414584321)+p1.a2)%18446744069414584321)
((ww.mk p0).P=18446744069414584321/\U64 p1.a0/\U64 r1)/\((ww.mk p0).P=18446744069414584321/\U64 p1.a1/\U64 r1)/\((ww.mk p0).P=18446744069414584321/\U64 p1.a2/\U64 r1)/\((p1.a0+r1)%18446744069414584321)=r0.a0/\((p1.a1+r1)%18446744069414584321)=r0.a1/\((p1.a2+r1)%18446744069414584321)=r0.a2) (by kernel_rfl)<|by
 rintro p0 p1 h _ rfl
 obtain⟨hP,h0,h1,h2⟩:=h
 refine ?_
 simp only[hP]
 exact⟨⟨by trivial,h0,h1⟩,⟨by trivial,by omega,h2⟩,⟨by trivial,h0,by omega⟩,⟨by trivial,h1,by omega⟩,⟨by trivial,h2,by omega⟩,rfl,rfl,rfl⟩
noncomputable def k4c:Con TB.den:= .gp 171 [yqu,.st 8] [.st 8] [] fun(p0:Int) (p1:wAP)=>(p0=18446744069414584321/\S3 p1,(permS p1:wAP),())
theorem k4o:k4c.Ok Tryz.prog TB:=qrv Bs Tryz.func171 (.r 3 (.nd [] (.r 0 (.lp [] ⟨[0],[.cells [zqu,zqu,zqu]],[17],[.one (zqi)],[]⟩ (.r 1 (.nd [] (.r 0 (.nd [] (.r 0 (.lp [] ⟨[0],[.cells [zqu,zqu,zqu]],[20],[.one (zqi)],[]⟩ .no)) [] .no)) [] .no)))) [] .no)) (k1a.c (k8w.c (k4a.c (k47.c (kh8.c (k7n.c c0)))))) (Q:=∀(p0:Int) (p1:wAP),(p0=18446744069414584321/\S3 p1)->∀r0:wAP,permS p1=r0-> 
((ww.mk p0).P=18446744069414584321)/\((!true)=true->
0=r0.a0/\0=r0.a1/\0=r0.a2)/\
((!true)=false->
((ww.mk p0).P=18446744069414584321)/\∃(I1:Int->Int->Int->Int->Prop) (M1:Int->Int->Int->Int->Nat),I1 0 p1.a0 p1.a1 p1.a2/\∀(b1 f1 i1 k1:Int),(I1 b1 f1 i1 k1->
(decide (b1<8)=true->
∃(I2:Int->Int->Int->Int->Prop) (M2:Int->Int->Int->Int->Nat),I2 0 f1 i1 k1/\∀(l1 m1 n1 o1:Int),(I2 l1 m1 n1 o1->
(decide (l1<3)=true->
(0<=l1/\l1<(3:Int))/\(0<=l1/\l1<(3:Int))/\(p0=18446744069414584321/\(0<=b1/\b1<8)/\0<=l1/\l1<3)/\((ww.mk p0).P=18446744069414584321/\U64 (ix [m1,n1,o1] l1)/\U64 (rc b1 l1))/\let r1:Int:=(((ix [m1,n1,o1] l1)+(rc b1 l1))%18446744069414584321)
((ww.mk p0).P=18446744069414584321/\U64 r1/\U64 (7:Int))/\let r2:Int:=(pw (r1%18446744069414584321) (7:Int))
(0<=l1/\l1<(3:Int))/\(0<=l1/\l1<(3:Int))/\I2 (i64.wrap (l1+1)) (bif decide (l1=(0:Int))then r2 else m1) (bif decide (l1=(1:Int))then r2 else n1) (bif decide (l1=(2:Int))then r2 else o1)/\M2 (i64.wrap (l1+1)) (bif decide (l1=(0:Int))then r2 else m1) (bif decide (l1=(1:Int))then r2 else n1) (bif decide (l1=(2:Int))then r2 else o1)<M2 l1 m1 n1 o1)/\
(decide (l1<3)=false->
(p0=18446744069414584321/\S3 (wAP.mk m1 n1 o1))/\I1 (i64.wrap (b1+1)) ((mixS (wAP.mk m1 n1 o1)).a0) ((mixS (wAP.mk m1 n1 o1)).a1) ((mixS (wAP.mk m1 n1 o1)).a2)/\M1 (i64.wrap (b1+1)) ((mixS (wAP.mk m1 n1 o1)).a0) ((mixS (wAP.mk m1 n1 o1)).a1) ((mixS (wAP.mk m1 n1 o1)).a2)<M1 b1 f1 i1 k1)))/\
(decide (b1<8)=false->
f1=r0.a0/\i1=r0.a1/\k1=r0.a2)))) (by kernel_rfl)<|by
 rintro p0 p1 h _ rfl
 obtain⟨hP,hs⟩:=h
 subst hP
 refine⟨rfl,fun h=>by simp at h,fun _=>⟨rfl,?_⟩⟩
 refine⟨(fun n a b c=>0<=n/\n<=8/\(⟨a,b,c⟩:wAP)=rnds n.toNat p1/\S3 ⟨a,b,c⟩),(fun n _ _ _=>(8-n).toNat),⟨by omega,by omega,rfl,hs⟩,?_⟩
 rintro n a b c ⟨g0,g1,g2,g3⟩
 refine⟨fun h=> ?_,fun h=> ?_⟩
 ·have h:=of_decide_eq_true h
  refine⟨(fun i x y z=>(i=0/\x=a/\y=b/\z=c)∨(i=1/\x=pw ((a+rc n 0)%18446744069414584321) 7/\y=b/\z=c)∨(i=2/\x=pw ((a+rc n 0)%18446744069414584321) 7/\y=pw ((b+rc n 1)%18446744069414584321) 7/\z=c)∨(i=3/\x=pw ((a+rc n 0)%18446744069414584321) 7/\y=pw ((b+rc n 1)%18446744069414584321) 7/\z=pw ((c+rc n 2)%18446744069414584321) 7)),(fun i _ _ _=>(3-i).toNat),(.inl ⟨rfl,rfl,rfl,rfl⟩),?_⟩
  intro i x y z hi
  have hrc:∀k,U64 (rc n k):=fun k=>by unfold rc;omega
  have hpw:∀k e,0<=pw k e/\pw k e<18446744069414584321:=fun k e=>⟨Int.emod_nonneg _ (by omega),Int.emod_lt_of_pos _ (by omega)⟩
  obtain⟨h3a,h3b,h3c⟩:=g3
  refine⟨fun hh=> ?_,fun hh=> ?_⟩
  ·have hh:=of_decide_eq_true hh
   rcases hi with⟨rfl,rfl,rfl,rfl⟩|⟨rfl,rfl,rfl,rfl⟩|⟨rfl,rfl,rfl,rfl⟩|⟨rfl,_⟩
   ·refine⟨by omega,by omega,⟨rfl,by omega,by omega⟩,⟨rfl,h3a,hrc _⟩,⟨rfl,?_,by omega⟩,by omega,by omega,.inr (.inl ⟨rfl,?_,rfl,rfl⟩),by(dsimp only;decide)⟩
    ·exact⟨Int.emod_nonneg _ (by omega),Int.lt_trans (Int.emod_lt_of_pos _ (by omega)) (by omega)⟩
    ·show pw ((x+rc n 0)%18446744069414584321%18446744069414584321) 7=_
     rw[Int.emod_emod_of_dvd _ (Int.dvd_refl _)]
   ·refine⟨by omega,by omega,⟨rfl,by omega,by omega⟩,⟨rfl,h3b,hrc _⟩,⟨rfl,?_,by omega⟩,by omega,by omega,.inr (.inr (.inl ⟨rfl,rfl,?_,rfl⟩)),by(dsimp only;decide)⟩
    ·exact⟨Int.emod_nonneg _ (by omega),Int.lt_trans (Int.emod_lt_of_pos _ (by omega)) (by omega)⟩
    ·show pw ((y+rc n 1)%18446744069414584321%18446744069414584321) 7=_
     rw[Int.emod_emod_of_dvd _ (Int.dvd_refl _)]
   ·refine⟨by omega,by omega,⟨rfl,by omega,by omega⟩,⟨rfl,h3c,hrc _⟩,⟨rfl,?_,by omega⟩,by omega,by omega,.inr (.inr (.inr ⟨rfl,rfl,rfl,?_⟩)),by(dsimp only;decide)⟩
    ·exact⟨Int.emod_nonneg _ (by omega),Int.lt_trans (Int.emod_lt_of_pos _ (by omega)) (by omega)⟩
    ·show pw ((z+rc n 2)%18446744069414584321%18446744069414584321) 7=_
     rw[Int.emod_emod_of_dvd _ (Int.dvd_refl _)]
   ·omega
  ·have hh:=of_decide_eq_false hh
   rcases hi with⟨rfl,_⟩|⟨rfl,_⟩|⟨rfl,_⟩|⟨rfl,rfl,rfl,rfl⟩
   ·omega
   ·omega
   ·omega
   ·have e:rnds (n+1).toNat p1=rnd ⟨a,b,c⟩ n:=by
     rw[show(n+1).toNat=n.toNat+1 by omega]
     show rnd (rnds n.toNat p1) (n.toNat:Int)=_
     rw[<-g2,show(n.toNat:Int)=n by omega]
    have hS:S3 (rnds (n+1).toNat p1):=by
     rw[e]
     unfold rnd mixS S3
     dsimp only
     omega
    have hinc:i64.wrap (n+1)=n+1:=wi _ (by omega) (by omega)
    rw[hinc]
    refine⟨⟨rfl,by unfold S3;have:=hpw ((a+rc n 0)%18446744069414584321) 7;have:=hpw ((b+rc n 1)%18446744069414584321) 7;have:=hpw ((c+rc n 2)%18446744069414584321) 7;dsimp only;omega⟩,(?_:0<=n+1/\n+1<=8/\_/\_),(?_:(8-(n+1)).toNat<(8-n).toNat)⟩
    ·refine⟨by omega,by omega,e.symm,?_⟩
     rw[e]at hS
     exact hS
    ·omega
 ·have h:=of_decide_eq_false h
  rw[show n=8 by omega]at g2
  have g2:(⟨a,b,c⟩:wAP)=permS p1:=g2
  rw[<-g2]
  exact⟨rfl,rfl,rfl⟩
noncomputable def k8l:Con TB.den:= .gp 114 [yqu,yqu,.sl yqu] [.st 8] [] fun(p0 p1:Int) (p2:List Int)=>(p0=18446744069414584321/\U64 p1/\Us p2/\p2.length<=1099511627776,(absS p1 p2:wAP),())
theorem k9o:k8l.Ok Tryz.prog TB:=qrv Bs Tryz.func114 (.r 3 (.nd [] (.r 0 (.lp [] ⟨[38],[.cells [zqu,zqu,zqu]],[9],[.one (zqi)],[]⟩ (.r 0 (.nd [] (.r 0 (.jn ⟨[38],[.cells [zqu,zqu,zqu]],[],[],[]⟩ [] .no [] .no)) [] .no)))) [] .no)) (kg3.c (k47.c (k4o.c c0))) (Q:=∀(p0 p1:Int) (p2:List Int),(p0=18446744069414584321/\U64 p1/\Us p2/\p2.length<=1099511627776)->∀r0:wAP,absS p1 p2=r0-> 
((ww.mk p0).P=18446744069414584321/\U64 p1/\U64 (65536:Int))/\let r1:Int:=(p1*(65536:Int)%18446744069414584321)
((ww.mk p0).P=18446744069414584321/\U64 r1/\U64 (u64.wrap (p2.length:Int)))/\let r2:Int:=((r1+(u64.wrap (p2.length:Int)))%18446744069414584321)
(((p2.length:Int)==0)=true->
(p0=18446744069414584321/\S3 (wAP.mk 0 0 r2))/\(permS (wAP.mk 0 0 r2)).a0=r0.a0/\(permS (wAP.mk 0 0 r2)).a1=r0.a1/\(permS (wAP.mk 0 0 r2)).a2=r0.a2)/\
(((p2.length:Int)==0)=false->
∃(I1:Int->Int->Int->Int->Prop) (M1:Int->Int->Int->Int->Nat),I1 0 0 0 r2/\∀(b1 f1 i1 k1:Int),(I1 b1 f1 i1 k1->
(decide (b1<(p2.length:Int))=true->
(0<=b1)/\b1<(p2.length:Int)/\((ww.mk p0).P=18446744069414584321/\U64 f1/\U64 (ix p2 b1))/\let r3:Int:=((f1+(ix p2 b1))%18446744069414584321)
∀J1:Int->Int->Int->Prop,(∀(l1 m1 n1:Int),
((p0=18446744069414584321/\S3 (wAP.mk l1 m1 n1))/\I1 (i64.wrap (b1+2)) ((permS (wAP.mk l1 m1 n1)).a0) ((permS (wAP.mk l1 m1 n1)).a1) ((permS (wAP.mk l1 m1 n1)).a2)/\M1 (i64.wrap (b1+2)) ((permS (wAP.mk l1 m1 n1)).a0) ((permS (wAP.mk l1 m1 n1)).a1) ((permS (wAP.mk l1 m1 n1)).a2)<M1 b1 f1 i1 k1)->J1 l1 m1 n1)->
let v4:Bool:=decide ((i64.wrap (b1+1))<(p2.length:Int))
(v4=true->
(0<=i64.wrap (b1+1))/\i64.wrap (b1+1)<(p2.length:Int)/\((ww.mk p0).P=18446744069414584321/\U64 i1/\U64 (ix p2 (i64.wrap (b1+1))))/\let r5:Int:=((i1+(ix p2 (i64.wrap (b1+1))))%18446744069414584321)
J1 r3 r5 k1)/\
(v4=false->
J1 r3 i1 k1))/\
(decide (b1<(p2.length:Int))=false->
f1=r0.a0/\i1=r0.a1/\k1=r0.a2)))) (by kernel_rfl)<|by
 rintro p0 p1 p2 h _ rfl
 obtain⟨hP,h1,h2,h3⟩:=h
 subst hP
 have hp:∀s:wAP,S3 (permS s):=fun s=>by
  show S3 (rnd _ _)
  unfold rnd mixS S3
  dsimp only
  omega
 have hi:S3 (absI p1 p2):=by unfold absI S3;dsimp only;omega
 have e:u64.wrap (p2.length:Int)=p2.length:=wu _ (by omega) (by omega)
 have em:(p1*65536%18446744069414584321+(p2.length:Int))%18446744069414584321=(absI p1 p2).a2:=rfl
 rw[e]
 refine⟨⟨rfl,h1,by omega⟩,⟨rfl,by omega,by omega⟩,fun h=> ?_,fun h=> ?_⟩
 ·have h:p2=[]:=by simpa using h
  refine⟨⟨rfl,?_⟩,?_⟩
  ·exact hi
  ·have:permS ⟨0,0,(p1*65536%18446744069414584321+(p2.length:Int))%18446744069414584321⟩=absS p1 p2:=by unfold absS;rw[if_pos h];rfl
   rw[this]
   exact⟨rfl,rfl,rfl⟩
 ·have h:p2≠[]:=by simpa using h
  have hv:absL p2 (absI p1 p2)=absS p1 p2:=by unfold absS;rw[if_neg h]
  rw[em]
  refine⟨fun i a b c=>0<=i/\i<=p2.length+1/\absL (p2.drop i.toNat) ⟨a,b,c⟩=absS p1 p2/\S3 ⟨a,b,c⟩,fun i _ _ _=>(p2.length+2-i).toNat,⟨by omega,by omega,hv,hi⟩,?_⟩
  rintro i a b c ⟨g0,g1,g2,g3⟩
  obtain⟨h3a,h3b,h3c⟩:=g3
  refine⟨fun hh=> ?_,fun hh=> ?_⟩
  ·have hh:=of_decide_eq_true hh
   have hx:=h2 _ (ix_mem p2 i g0 hh)
   refine⟨g0,hh,⟨rfl,h3a,hx⟩,fun J1 j=> ?_⟩
   rw[wi (i+1) (by omega) (by omega)]
   have fin:∀x y z,S3 ⟨x,y,z⟩->absL (p2.drop (i+2).toNat) (permS ⟨x,y,z⟩)=absS p1 p2->J1 x y z:=by
    intro x y z hS hv'
    refine j _ _ _ ?_
    rw[wi (i+2) (by omega) (by omega)]
    exact⟨⟨rfl,hS⟩,⟨by omega,by omega,hv',hp _⟩,by(dsimp only;omega)⟩
   have hdrop:=drop_ix p2 i g0 hh
   rw[hdrop]at g2
   refine⟨fun h5=> ?_,fun h5=> ?_⟩
   ·have h5:=of_decide_eq_true h5
    have hy:=h2 _ (ix_mem p2 (i+1) (by omega) h5)
    rw[drop_ix p2 (i+1) (by omega) h5,show i+1+1=i+2 by omega]at g2
    exact⟨by omega,h5,⟨rfl,h3b,hy⟩,fin _ _ _ (S3m (by omega) (by omega) h3c) g2⟩
   ·have h5:=of_decide_eq_false h5
    have ed:p2.drop (i+1).toNat=[]:=List.drop_eq_nil_of_le (by omega)
    have ed2:p2.drop (i+2).toNat=[]:=List.drop_eq_nil_of_le (by omega)
    rw[ed]at g2
    exact fin _ _ _ (S3m (by omega) h3b h3c) (by rw[ed2];exact g2)
  ·have hh:=of_decide_eq_false hh
   rw[List.drop_eq_nil_of_le (by omega)]at g2
   have g2:(⟨a,b,c⟩:wAP)=absS p1 p2:=g2
   rw[<-g2]
   exact⟨rfl,rfl,rfl⟩
noncomputable def kc0:Con TB.den:= .gp 79 [yqu,yqu,.sl yqu] [yqu] [] fun(p0 p1:Int) (p2:List Int)=>(p0=18446744069414584321/\U64 p1/\Us p2/\p2.length<=1099511627776,(hashS p1 p2:Int),())
theorem kx:kc0.Ok Tryz.prog TB:=qrv Bs Tryz.func79 .no (k1a.c (k9o.c c0)) (Q:=∀(p0 p1:Int) (p2:List Int),(p0=18446744069414584321/\U64 p1/\Us p2/\p2.length<=1099511627776)->∀r0:Int,hashS p1 p2=r0-> 
((ww.mk p0).P=18446744069414584321)/\((!true)=true->
0=r0)/\
((!true)=false->
(p0=18446744069414584321/\U64 p1/\Us p2/\p2.length<=1099511627776)/\(absS p1 p2).a0=r0)) (by kernel_rfl)<|by
 rintro p0 p1 p2 h _ rfl
 obtain⟨hP,h1,h2,h3⟩:=h
 subst hP
 exact⟨rfl,fun h=>by simp at h,fun _=>⟨⟨rfl,h1,h2,h3⟩,rfl⟩⟩
noncomputable def k8u:Con TB.den:= .gp 100 [yqu,yqu] [yqu] [] fun(p0 p1:Int)=>(U64 p0/\U64 p1,(hashS 6 [p0,p1]:Int),())
theorem k1l:k8u.Ok Tryz.prog TB:=qrv Bs Tryz.func100 .no (kx.c c0) (Q:=∀(p0 p1:Int),(U64 p0/\U64 p1)->∀r0:Int,(hashS 6 [p0,p1])=r0-> 
((18446744069414584321:Int)=18446744069414584321/\U64 (6:Int)/\Us [p0,p1]/\[p0,p1].length<=1099511627776)/\(hashS (6:Int) [p0,p1])=r0) (by kernel_rfl)<|by
 rintro p0 p1 h _ rfl
 refine⟨⟨rfl,by decide,?_,by simp⟩,rfl⟩
 intro x hx
 simp only[List.mem_cons,List.not_mem_nil,or_false]at hx
 rcases hx with rfl|rfl
 ·exact h.1
 ·exact h.2
noncomputable def kax:Con TB.den:= .g ⟨69,[.one (zql)],[],(.one (.one (.row 0))),[.vec yqu],false⟩ [.sl yqu] [.sl yqu] [] fun(p0:List Int)=>(p0.length<=4294967295,p0,())
theorem k4m:kax.Ok Tryz.prog TB:=prx Bs [5,7] Tryz.func69 (.r 0 (.nd [] (.r 0 (.nd [] (.r 0 (.rt [.rnil 2 yqu])) [] .no)) [] .no)) x0 c0 (Q:=∀(p0:List Int),(p0.length<=4294967295)->∀e0:List Int,p0=e0-> 
∀z4:Bool,(z4=true->p0=[])->(z4=true->
(0=([]:List Int).length)/\([]:List Int)=e0)/\
(z4=false->
([]:List Int).length=([]:List Int).length/\(([]:List Int).length+p0.length)*8<=140737488355328/\([]:List Int).length+p0.length<=maxLen/\((([]:List Int)++p0).length=(([]:List Int)++p0).length)/\([]:List Int)++p0=e0)) (by kernel_rfl)<|by
 rintro p0 h _ rfl
 exact fun z hz=>⟨fun h=>⟨rfl,(hz h).symm⟩,fun h=>⟨rfl,by simp;omega,by simp;unfold maxLen;omega,rfl,rfl⟩⟩
noncomputable def k72:Con TB.den:= .gp 150 [.st 6,yqu] [.st 6,yqi] [] fun(p0:wF) (p1:Int)=>(FV p0/\p0.wa<((2^p0.wC.toNat:Nat):Int)/\0<=p1/\p1<18446744069414584321,(apF p0 p1:wF),(0:Int),())
theorem k7l:k72.Ok Tryz.prog TB:=qrv Bs Tryz.func150 (.r 0 (.nd [] (.jn ⟨[],[],[15],[.one (.d (.bool))],[]⟩ [] .no [] .no) [] (.r 2 (.nd [] (.lp [] ⟨[26],[.vec yqu],[7,8],[.one (zqi),.one (zqu)],[]⟩ .no) [] (.r 1 (.rt [.frzc 26 1 2])))))) (k3e.c (k4m.c (k1l.c c0))) (Q:=∀(p0:wF) (p1:Int),(FV p0/\p0.wa<((2^p0.wC.toNat:Nat):Int)/\0<=p1/\p1<18446744069414584321)->∀r0:wF,apF p0 p1=r0->∀r1:Int,(0:Int)=r1-> 
∀J1:Bool->Prop,(∀(b1:Bool),
((b1=true->
0=r0.wC/\0=r0.wa/\([]:List Int)=r0.wh/\1=r1)/\
(b1=false->
(0<=p0.wC)/\((p0.wa==(ishl .i64 1 p0.wC))=true->
0=r0.wC/\0=r0.wa/\([]:List Int)=r0.wh/\16=r1)/\
((p0.wa==(ishl .i64 1 p0.wC))=false->
(p0.wh.length<=4294967295)/\∃(I1:Int->Int->(List Int)->Prop) (M1:Int->Int->(List Int)->Nat),I1 0 p1 p0.wh/\∀(f1 i1:Int) (k1:List Int),(I1 f1 i1 k1->
(0<=f1)/\let v2:Bool:=((iand .i64 (ishr .i64 p0.wa f1) 1)==1)
(v2=true->
(0<=f1/\f1<(p0.wh.length:Int))/\(0<=f1/\f1<(k1.length:Int))/\(U64 (ix k1 f1)/\U64 i1)/\(0<=f1/\f1<(p0.wh.length:Int))/\(0<=f1/\f1<(k1.length:Int))/\I1 (i64.wrap (f1+1)) (hashS 6 [(ix k1 f1),i1]) (k1.set f1.toNat 0)/\M1 (i64.wrap (f1+1)) (hashS 6 [(ix k1 f1),i1]) (k1.set f1.toNat 0)<M1 f1 i1 k1)/\
(v2=false->
(0<=f1/\f1<(p0.wh.length:Int))/\(0<=f1/\f1<(k1.length:Int))/\(p0.wh.length=(k1.set f1.toNat i1).length)/\p0.wC=r0.wC/\i64.wrap (p0.wa+1)=r0.wa/\k1.set f1.toNat i1=r0.wh/\0=r1)))))->J1 b1)->
(FV p0)/\((!true)=true->
J1 true)/\
((!true)=false->
J1 (decide (18446744069414584321<=p1)))) (by kernel_rfl)<|by
 rintro p0 p1 h _ rfl _ rfl
 obtain⟨hv,hc,hx0,hx1⟩:=h
 obtain⟨d1,d2,c0,c1,ll,u,z⟩:=id hv
 obtain⟨d,hd⟩:=Int.eq_ofNat_of_zero_le (show 0<=p0.wC by omega)
 obtain⟨n,hn⟩:=Int.eq_ofNat_of_zero_le c0
 have hdn:p0.wC.toNat=d:=by omega
 have hp:=pow12 d (by omega)
 rw[hdn]at c1 ll hc
 have hnd:n<2^d:=by omega
 have hbd:=kjb hnd
 refine fun J1 j=>⟨hv,fun e=>(by cases e),fun _=> ?_⟩
 refine j _ ⟨fun e=>(by have:=of_decide_eq_true e;omega),fun _=>⟨by omega,?_⟩⟩
 rw[hd,shl1 d (by omega),hn]
 have hne:¬(n:Int)=((2^d:Nat):Int):=by omega
 refine⟨fun e=>(hne (by simpa using e)).elim,fun _=>⟨by omega,?_⟩⟩
 refine⟨fun a x g=>∃i:Nat,a=(i:Int)/\i<=d/\g.length=d+1/\(∀y∈g,0<=y/\y<18446744069414584321)/\(0<=x/\x<18446744069414584321)/\carry (d+1-i) i g x n=carry (d+1) 0 p0.wh p1 n,fun a _ _=>(d-a).toNat,⟨0,rfl,by omega,ll,u,⟨hx0,hx1⟩,rfl⟩,?_⟩
 rintro _ x g ⟨i,rfl,hi,hgl,hgu,hx,hcy⟩
 have hs:i<g.length:=by omega
 have hgx:=hgu _ (List.getElem_mem hs)
 generalize hR:carry (d+1) 0 p0.wh p1 n=R at hcy
 rw[show d+1-i=d-i+1 by omega]at hcy
 unfold carry at hcy
 have hbit:=bit1 n i (by omega) (by omega)
 refine⟨by omega,fun e=> ?_,fun e=> ?_⟩
 ·have e2:((n/2^i%2:Nat):Int)=1:=by rw[hbit]at e;simpa using e
  have hb:bitN n i=true:=by unfold bitN;generalize n/2^i%2=q at *;simp;omega
  have hid:i<d:=by
   rcases Nat.lt_or_ge i d with h1|h1
   ·exact h1
   ·have:i=d:=by omega
    subst this
    rw[hbd]at hb
    cases hb
  rw[if_pos hb]at hcy
  rw[inc_i64 _ (by omega),Int.toNat_natCast]
  refine⟨⟨by omega,by omega⟩,⟨by omega,by omega⟩,?_,⟨by omega,by omega⟩,⟨by omega,by omega⟩,⟨i+1,rfl,by omega,by simp[hgl],?_,⟨(kr _ _).1,k3w _ _⟩,?_⟩,by(dsimp only;omega)⟩
  ·rw[ix_get _ _ hs]
   exact⟨⟨hgx.1,by omega⟩,hx.1,by omega⟩
  ·intro y hy
   rcases List.mem_or_eq_of_mem_set hy with hy|rfl
   ·exact hgu y hy
   ·decide
  ·rw[show d+1-(i+1)=d-i by omega]
   exact hcy
 ·have e2:¬((n/2^i%2:Nat):Int)=1:=by rw[hbit]at e;simpa using e
  have hb:¬bitN n i=true:=by unfold bitN;generalize n/2^i%2=q at *;simp;omega
  rw[if_neg hb]at hcy
  rw[Int.toNat_natCast]
  refine⟨⟨by omega,by omega⟩,⟨by omega,by omega⟩,by simp;omega,hd.symm,?_,?_,by first|exact rfl|exact True.intro⟩
  ·rw[inc_i64 _ (by omega)]
   show _=p0.wa+1
   omega
  ·show _=carry (p0.wC.toNat+1) 0 p0.wh p1 p0.wa.toNat
   rw[hdn,hn,Int.toNat_natCast,hR]
   exact hcy
noncomputable def k8f:Con TB.den:= .gp 152 [yqu,yqu] [.bool] [] fun(p0 p1:Int)=>(0<=p0/\p0<=9223372036854775807,(decide (9223372036854775807-p0<p1):Bool),())
theorem k8m:k8f.Ok Tryz.prog TB:=qrv Bs Tryz.func152 .no c0 (Q:=∀(p0 p1:Int),(0<=p0/\p0<=9223372036854775807)->∀r0:Bool,(decide (9223372036854775807-p0<p1))=r0-> 
(decide (9223372036854775807<p0)=true->
true=r0)/\
(decide (9223372036854775807<p0)=false->
let v1:Int:=u64.wrap (9223372036854775807-p0)
decide (v1<p1)=r0)) (by kernel_rfl)<|by
 rintro p0 p1 h _ rfl
 refine⟨fun e=> ?_,fun e=> ?_⟩
 ·have:=of_decide_eq_true e;omega
 ·rw[wrap_u64 _ (by omega) (by omega)]
noncomputable def k95:Con TB.den:= .gp 103 [.st 15,yqu,yqu] [.st 15,yqi] [] fun(p0:wg) (p1 p2:Int)=>(OkA p0.wD/\U64 p2,(wg.mk (creditA p0.wD p1 p2).1:wg),((creditA p0.wD p1 p2).2:Int),())
theorem k41:k95.Ok Tryz.prog TB:=qrv Bs Tryz.func103 .no (k6n.c (k8m.c (k6s.c c0))) (Q:=∀(p0:wg) (p1 p2:Int),(OkA p0.wD/\U64 p2)->∀r0:wg,(wg.mk (creditA p0.wD p1 p2).1)=r0->∀r1:Int,((creditA p0.wD p1 p2).2)=r1-> 
(Srt p0.wD/\p0.wD.length<4611686018427387904)/\(0<=((getA p0.wD p1).wU)/\((getA p0.wD p1).wU)<=9223372036854775807)/\let r2:Bool:=(decide (9223372036854775807-((getA p0.wD p1).wU)<p2))
(r2=true->
([]:List wA)=r0.wD/\1=r1)/\
(r2=false->
let v3:Int:=u64.wrap (((getA p0.wD p1).wU)+p2)
(Srt p0.wD/\p0.wD.length<=1000)/\let r4:List wA:=(putA p0.wD (wA.mk p1 v3 ((getA p0.wD p1).wX)))
r4=r0.wD/\0=r1)) (by kernel_rfl)<|by
 rintro p0 p1 p2 h _ rfl _ rfl
 obtain⟨h,ha,ha'⟩:=h
 obtain⟨g1,g2⟩:=getA_ok h p1
 refine⟨⟨h.1,by have:=h.2.1;omega⟩,g1,fun hh=> ?_,fun hh=> ?_⟩
 ·have:=of_decide_eq_true hh
  simp[creditA,this]
 ·have:=of_decide_eq_false hh
  simp only[creditA,if_neg this]
  rw[wrap_u64 _ (by omega) (by omega)]
  exact⟨⟨h.1,h.2.1⟩,rfl,by first|exact rfl|exact True.intro⟩
noncomputable def k6z:Con TB.den:= .b ⟨102,[.one (.ptr 0 0),.agg [zqu,zql,.d (.sl (.st 1)),zqu,zqu,zqu,zqu,zqu,zqi,.d (.sl yqb)],.one (.ptr 1 0)],[.cells [zqi,zqi,zqi,zqi,zqi,zqu,zqi,zqi,zqu,zqi,zqi,zql,.row 2,.ptr 3 0,.d (.sl (.st 9)),zqu,.row 4,.row 5],.cells [zqi,zqi,zql,zqi,.own 6,.d (.sl (.st 9)),zqu],.vec yqu,.cells [.mp 7],.vec yqu,.vec (.st 10),.tip yqu,.map yqu (.bool)],(.one (.one (zqi))),[.cells [zqi,zqi,zqi,zqi,zqi,zqu,zqi,zqi,zqu,zqi,zqi,zql,.row 8,.ptr 3 0,.d (.sl (.st 9)),zqu,.row 4,.row 5],.cells [zqi,zqi,zql,zqi,.own 6,.d (.sl (.st 9)),zqu],.dead,.cells [.mp 7],.vec yqu,.vec (.st 10),.tip yqu,.map yqu (.bool),.vec yqu],false⟩ [.st 2,yqi,yqi,yqi,yqi,yqi,yqu,yqi,yqi,yqu,yqi,yqi,.sl yqu,.sl (.st 9),yqu,yqi,yqi,.sl yqu,yqi,.sl (.st 9),yqu,.sl yqu,.sl yqu,.sl (.st 10),.sl yqu,.sl yqu,.sl (.bool)] [yqi,yqi,yqi,yqi,yqi,yqi,yqu,yqi,yqi,yqu,yqi,yqi,.sl yqu,.sl (.st 9),yqu,yqi,yqi,.sl yqu,yqi,.sl (.st 9),yqu,.sl yqu,.sl (.st 10),.sl yqu,.sl yqu,.sl (.bool),.sl yqu] fun(p1:wl) (Aa Ab Ad Ac As At Ai Ak Al Aj Af:Int) (Ag:List Int) (Ae:List wA) (Ah Av Aw:Int) (Ax:List Int) (Au:Int) (Bk:List wA) (Bl:Int) (w2 w4:List Int) (w5:List wS) (w6 w7k:List Int) (w7v:List Bool)=>((∃(c:Nat) (f:Int),c<=800/\PI (PS.mk (wJ.mk Aa Ab Ad Ac As At Ai Ak Al) (wF.mk Aj Af Ag) Ae Ah w2 w4 w5 w7k w7v) c f)/\TR p1/\CK (PS.mk (wJ.mk Aa Ab Ad Ac As At Ai Ak Al) (wF.mk Aj Af Ag) Ae Ah w2 w4 w5 w7k w7v) p1/\w6.length<=1000000,perfS (PS.mk (wJ.mk Aa Ab Ad Ac As At Ai Ak Al) (wF.mk Aj Af Ag) Ae Ah w2 w4 w5 w7k w7v) p1,fun R=>(R.e,R.s.R.wAE,R.s.R.wC,R.s.R.wR,R.s.R.wO,R.s.R.wN,R.s.R.wQ,R.s.R.wm,R.s.R.wc,R.s.R.wAJ,R.s.F.wC,R.s.F.wa,R.s.F.wh,R.s.b,R.s.n,Av,Aw,Ax,Au,Bk,Bl,R.s.r,R.s.p,((w6++p1.wG):List Int),R.s.k,R.s.v,R.s.l,()))
theorem k7d:k6z.Ok Tryz.prog TB:=pbx Bs [33,67,68] Tryz.func102 (.nd [.trimc 0 12] .no [] (.r 1 (.nd [] (.r 0 (.lp [] ⟨[7,5,4,3,0],[.map yqu (.bool),.vec (.st 10),.vec yqu,.cells [.mp 0],.cells [zqi,zqi,zqi,zqi,zqi,zqu,zqi,zqi,zqu,zqi,zqi,zql,.row 5,.ptr 3 0,.d (.sl (.st 9)),zqu,.row 2,.row 1],.vec yqu],[39],[.one (zqi)],[8]⟩ .no)) [] (.jn ⟨[0,86,3,4,5,7],[.cells [zqi,zqi,zqi,zqi,zqi,zqu,zqi,zqi,zqu,zqi,zqi,zql,.row 1,.ptr 2 0,.d (.sl (.st 9)),zqu,.row 3,.row 4],.vec yqu,.cells [.mp 5],.vec yqu,.vec (.st 10),.map yqu (.bool)],[],[],[]⟩ [] .no [] (.jn ⟨[0,86,3,4,5,7],[.cells [zqi,zqi,zqi,zqi,zqi,zqu,zqi,zqi,zqu,zqi,zqi,zql,.row 1,.ptr 2 0,.d (.sl (.st 9)),zqu,.row 3,.row 4],.vec yqu,.cells [.mp 5],.vec yqu,.vec (.st 10),.map yqu (.bool)],[],[],[]⟩ [] .no [] .no))))) x0 (kj3.c (k7l.c (k4h.c (k41.c c0)))) (Q:=∀(p1:wl) (Aa Ab Ad Ac As At Ai Ak Al Aj Af:Int) (Ag:List Int) (Ae:List wA) (Ah Av Aw:Int) (Ax:List Int) (Au:Int) (Bk:List wA) (Bl:Int) (w2 w4:List Int) (w5:List wS) (w6 w7k:List Int) (w7v:List Bool),((∃(c:Nat) (f:Int),c<=800/\PI (PS.mk (wJ.mk Aa Ab Ad Ac As At Ai Ak Al) (wF.mk Aj Af Ag) Ae Ah w2 w4 w5 w7k w7v) c f)/\TR p1/\CK (PS.mk (wJ.mk Aa Ab Ad Ac As At Ai Ak Al) (wF.mk Aj Af Ag) Ae Ah w2 w4 w5 w7k w7v) p1/\w6.length<=1000000)->∀R,perfS (PS.mk (wJ.mk Aa Ab Ad Ac As At Ai Ak Al) (wF.mk Aj Af Ag) Ae Ah w2 w4 w5 w7k w7v) p1=R-> 
w2.length=w2.length/\(w7v=trs w7k/\p1.wG.length<=1000000)/\((((addS p1.wG w7k).1) !=0)=true->
(w6=w6)/\(w5.length=w5.length)/\(w4.length=w4.length)/\(w2.length=w2.length)/\((addS p1.wG w7k).1)=R.e/\Aa=R.s.R.wAE/\Ab=R.s.R.wC/\Ad=R.s.R.wR/\Ac=R.s.R.wO/\As=R.s.R.wN/\At=R.s.R.wQ/\Ai=R.s.R.wm/\Ak=R.s.R.wc/\Al=R.s.R.wAJ/\Aj=R.s.F.wC/\Af=R.s.F.wa/\Ag=R.s.F.wh/\Ae=R.s.b/\Ah=R.s.n/\Av=Av/\Aw=Aw/\Ax=Ax/\Au=Au/\Bk=Bk/\Bl=Bl/\w4=R.s.r/\w5=R.s.p/\w6=(w6++p1.wG)/\((addS p1.wG w7k).2)=R.s.k/\(trs (addS p1.wG w7k).2)=R.s.v/\w2=R.s.l)/\
((((addS p1.wG w7k).1) !=0)=false->
w6.length=w6.length/\(w6.length+p1.wG.length)*8<=140737488355328/\w6.length+p1.wG.length<=maxLen/\(w5.length=w5.length)/\(w4.length=w4.length)/\(w2.length=w2.length)/\∃(I1:Int->Int->Int->Int->Int->Int->Int->Int->Int->Int->Int->Int->(List Int)->(List wA)->Int->(List Int)->(List Bool)->(List wS)->(List Int)->(List Int)->Prop) (M1:Int->Int->Int->Int->Int->Int->Int->Int->Int->Int->Int->Int->(List Int)->(List wA)->Int->(List Int)->(List Bool)->(List wS)->(List Int)->(List Int)->Nat),I1 0 Aa Ab Ad Ac As At Ai Ak Al Aj Af Ag Ae Ah ((addS p1.wG w7k).2) (trs (addS p1.wG w7k).2) w5 w4 w2/\∀(b1 f1 i1 k1 l1 m1 n1 o1 q1 s1 t1 u1:Int) (x1:List Int) (y1:List wA) (b2:Int) (f2:List Int) (i2:List Bool) (k2:List wS) (l2 m2:List Int),(I1 b1 f1 i1 k1 l1 m1 n1 o1 q1 s1 t1 u1 x1 y1 b2 f2 i2 k2 l2 m2->
(decide (b1<(p1.wB.length:Int))=true->
(0<=b1)/\b1<(p1.wB.length:Int)/\(FV (wF.mk t1 u1 x1)/\(wF.mk t1 u1 x1).wa<((2^(wF.mk t1 u1 x1).wC.toNat:Nat):Int)/\0<=((ix p1.wB b1).wb)/\((ix p1.wB b1).wb)<18446744069414584321)/\let r1:=apF (wF.mk t1 u1 x1) ((ix p1.wB b1).wb)
(((0:Int) !=0)=true->
(w6++p1.wG=w6++p1.wG)/\(k2.length=k2.length)/\(l2.length=l2.length)/\(m2.length=m2.length)/\0=R.e/\f1=R.s.R.wAE/\i1=R.s.R.wC/\k1=R.s.R.wR/\l1=R.s.R.wO/\m1=R.s.R.wN/\n1=R.s.R.wQ/\o1=R.s.R.wm/\q1=R.s.R.wc/\s1=R.s.R.wAJ/\t1=R.s.F.wC/\u1=R.s.F.wa/\x1=R.s.F.wh/\y1=R.s.b/\b2=R.s.n/\Av=Av/\Aw=Aw/\Ax=Ax/\Au=Au/\Bk=Bk/\Bl=Bl/\l2=R.s.r/\k2=R.s.p/\w6++p1.wG=(w6++p1.wG)/\f2=R.s.k/\i2=R.s.v/\m2=R.s.l)/\
(((0:Int) !=0)=false->
m2.length=m2.length/\[(ix p1.wB b1).wb].length=[(ix p1.wB b1).wb].length/\(m2.length+[(ix p1.wB b1).wb].length)*8<=140737488355328/\m2.length+[(ix p1.wB b1).wb].length<=maxLen/\(k2.length=k2.length)/\(l2.length=l2.length)/\((m2++[(ix p1.wB b1).wb]).length=(m2++[(ix p1.wB b1).wb]).length)/\I1 (i64.wrap (b1+1)) f1 i1 k1 l1 m1 n1 o1 q1 s1 r1.wC r1.wa r1.wh y1 b2 f2 i2 k2 l2 (m2++[(ix p1.wB b1).wb])/\M1 (i64.wrap (b1+1)) f1 i1 k1 l1 m1 n1 o1 q1 s1 r1.wC r1.wa r1.wh y1 b2 f2 i2 k2 l2 (m2++[(ix p1.wB b1).wb])<M1 b1 f1 i1 k1 l1 m1 n1 o1 q1 s1 t1 u1 x1 y1 b2 f2 i2 k2 l2 m2))/\
(decide (b1<(p1.wB.length:Int))=false->
∀J1:Int->Int->Int->Int->Int->Int->Int->Int->Int->Int->Int->(List Int)->(List wA)->Int->(List Int)->(List Int)->(List wS)->(List Int)->(List Bool)->Prop,(∀(n2 o2 q2 s2 t2 u2 x2 y2 b3 f3 i3:Int) (k3:List Int) (l3:List wA) (m3:Int) (n3 o3:List Int) (q3:List wS) (s3:List Int) (t3:List Bool),
(∀J2:Int->Int->Int->Int->Int->Int->Int->Int->Int->Int->Int->(List Int)->(List wA)->Int->(List Int)->(List Int)->(List wS)->(List Int)->(List Bool)->Prop,(∀(u3 x3 y3 b4 f4 i4 k4 l4 m4 n4 o4:Int) (q4:List Int) (s4:List wA) (t4:Int) (u4 x4:List Int) (y4:List wS) (b5:List Int) (f5:List Bool),
(let v4:Int:=u64.wrap ((u64.wrap (t4+p1.wI))-p1.wL)
(w6++p1.wG=w6++p1.wG)/\(y4.length=y4.length)/\(x4.length=x4.length)/\(u4.length=u4.length)/\0=R.e/\u3=R.s.R.wAE/\x3=R.s.R.wC/\y3=R.s.R.wR/\b4=R.s.R.wO/\f4=R.s.R.wN/\i4=R.s.R.wQ/\k4=R.s.R.wm/\l4=R.s.R.wc/\m4=R.s.R.wAJ/\n4=R.s.F.wC/\o4=R.s.F.wa/\q4=R.s.F.wh/\s4=R.s.b/\u64.wrap (v4-p1.Fee)=R.s.n/\Av=Av/\Aw=Aw/\Ax=Ax/\Au=Au/\Bk=Bk/\Bl=Bl/\x4=R.s.r/\y4=R.s.p/\w6++p1.wG=(w6++p1.wG)/\b5=R.s.k/\f5=R.s.v/\u4=R.s.l)->J2 u3 x3 y3 b4 f4 i4 k4 l4 m4 n4 o4 q4 s4 t4 u4 x4 y4 b5 f5)->
(decide (0<p1.wL)=true->
(OkA (wg.mk l3).wD/\U64 p1.wL)/\let r3:=creditA (wg.mk l3).wD p1.wP p1.wL
((r3.2 !=0)=true->
(w6++p1.wG=w6++p1.wG)/\(q3.length=q3.length)/\(o3.length=o3.length)/\(n3.length=n3.length)/\r3.2=R.e/\n2=R.s.R.wAE/\o2=R.s.R.wC/\q2=R.s.R.wR/\s2=R.s.R.wO/\t2=R.s.R.wN/\u2=R.s.R.wQ/\x2=R.s.R.wm/\y2=R.s.R.wc/\b3=R.s.R.wAJ/\f3=R.s.F.wC/\i3=R.s.F.wa/\k3=R.s.F.wh/\l3=R.s.b/\m3=R.s.n/\Av=Av/\Aw=Aw/\Ax=Ax/\Au=Au/\Bk=Bk/\Bl=Bl/\o3=R.s.r/\q3=R.s.p/\w6++p1.wG=(w6++p1.wG)/\s3=R.s.k/\t3=R.s.v/\n3=R.s.l)/\
((r3.2 !=0)=false->
(q3.length=q3.length)/\(o3.length=o3.length)/\(n3.length=n3.length)/\J2 n2 o2 q2 s2 t2 u2 x2 y2 b3 f3 i3 k3 r3.1 m3 n3 o3 q3 s3 t3))/\
(decide (0<p1.wL)=false->
(q3.length=q3.length)/\(o3.length=o3.length)/\(n3.length=n3.length)/\J2 n2 o2 q2 s2 t2 u2 x2 y2 b3 f3 i3 k3 l3 m3 n3 o3 q3 s3 t3))->J1 n2 o2 q2 s2 t2 u2 x2 y2 b3 f3 i3 k3 l3 m3 n3 o3 q3 s3 t3)->
(decide (0<p1.wI)=true->
(OkA (wg.mk y1).wD/\U64 p1.wI/\U64 p1.wX)/\let r2:=debitA (wg.mk y1).wD p1.wP p1.wI p1.wX
((r2.2 !=0)=true->
(w6++p1.wG=w6++p1.wG)/\(k2.length=k2.length)/\(l2.length=l2.length)/\(m2.length=m2.length)/\r2.2=R.e/\f1=R.s.R.wAE/\i1=R.s.R.wC/\k1=R.s.R.wR/\l1=R.s.R.wO/\m1=R.s.R.wN/\n1=R.s.R.wQ/\o1=R.s.R.wm/\q1=R.s.R.wc/\s1=R.s.R.wAJ/\t1=R.s.F.wC/\u1=R.s.F.wa/\x1=R.s.F.wh/\y1=R.s.b/\b2=R.s.n/\Av=Av/\Aw=Aw/\Ax=Ax/\Au=Au/\Bk=Bk/\Bl=Bl/\l2=R.s.r/\k2=R.s.p/\w6++p1.wG=(w6++p1.wG)/\f2=R.s.k/\i2=R.s.v/\m2=R.s.l)/\
((r2.2 !=0)=false->
(k2.length=k2.length)/\(l2.length=l2.length)/\(m2.length=m2.length)/\J1 f1 i1 k1 l1 m1 n1 o1 q1 s1 t1 u1 x1 r2.1 b2 m2 l2 k2 f2 i2))/\
(decide (0<p1.wI)=false->
(k2.length=k2.length)/\(l2.length=l2.length)/\(m2.length=m2.length)/\J1 f1 i1 k1 l1 m1 n1 o1 q1 s1 t1 u1 x1 y1 b2 m2 l2 k2 f2 i2))))) (by kernel_rfl)<|by
 rintro p1 Aa Ab Ad Ac As At Ai Ak Al Aj Af Ag Ae Ah Av Aw Ax Au Bk Bl w2 w4 w5 w6 w7k w7v h R hR
 obtain⟨⟨c,f,hc,hp⟩,ht,hk,hw6⟩:=h
 have hv:w7v=trs w7k:=hp.v
 have hA:addS p1.wG w7k=(0,w7k++p1.wG):=by
  unfold addS
  have e1:(p1.wG.any fun m=>decide (m∈w7k))=false:=by
   rw[List.any_eq_false]
   intro m hm
   simpa using hk.m m hm
  rw[e1,decide_eq_true hk.v.mn]
  rfl
 have hml:=hk.v.ml
 have hol:=hk.v.ol
 have hll:w2.length+p1.wB.length<=2^Ab.toNat:=hk.l
 have hd1:1<=Ab:=hp.d1
 have hd2:Ab<=12:=hp.d2
 have hF0:wF.mk Aj Af Ag=frF Ab w2:=hp.F
 have hlb:BG w2:=hp.l
 have hp12:=pow12 Ab.toNat (by omega)
 obtain⟨a1,a2,a3,a4,a5⟩:=hk.v.am'
 have hgb:GoodA c Ae:=hp.b
 have hdA:OkA (depA Ae p1):=by
  unfold depA
  split
  ·exact(kbn hgb (by omega) ⟨ht.ac.1,a4⟩ ht.d.1 ht.n).1
  ·exact hgb.1
 have hdd:0<p1.wI->(debitA Ae p1.wP p1.wI p1.wX).2=0:=hk.d
 unfold perfS at hR
 refine⟨rfl,⟨hv,by omega⟩,?_⟩
 rw[hA]
 refine⟨fun e=>(by cases e),fun _=>⟨rfl,by omega,by unfold maxLen;omega,rfl,rfl,rfl,?_⟩⟩
 refine⟨fun a y0 y1 y2 y3 y4 y5 y6 y7 y8 x y z bb nn kk vv pp rr g=>(Aa=y0/\Ab=y1/\Ad=y2/\Ac=y3/\As=y4/\At=y5/\Ai=y6/\Ak=y7/\Al=y8/\Ae=bb/\Ah=nn/\w7k++p1.wG=kk/\trs (w7k++p1.wG)=vv/\w5=pp/\w4=rr)/\∃i:Nat,a=(i:Int)/\i<=p1.wB.length/\wF.mk x y z=outsF (wF.mk Aj Af Ag) (p1.wB.take i)/\g=w2++(p1.wB.take i).map (·.wb),fun a _ _ _ _ _ _ _ _ _ _ _ _ _ _ _ _ _ _ _=>(p1.wB.length-a).toNat,⟨⟨rfl,rfl,rfl,rfl,rfl,rfl,rfl,rfl,rfl,rfl,rfl,rfl,rfl,rfl,rfl⟩,0,rfl,by omega,rfl,by simp⟩,?_⟩
 rintro _ _ _ _ _ _ _ _ _ _ x y z _ _ _ _ _ _ _ ⟨⟨rfl,rfl,rfl,rfl,rfl,rfl,rfl,rfl,rfl,rfl,rfl,rfl,rfl,rfl,rfl⟩,i,rfl,hi,hF,rfl⟩
 have hx:x=(outsF (wF.mk Aj Af Ag) (p1.wB.take i)).wC:=congrArg wF.wC hF
 have hy:y=(outsF (wF.mk Aj Af Ag) (p1.wB.take i)).wa:=congrArg wF.wa hF
 have hz:z=(outsF (wF.mk Aj Af Ag) (p1.wB.take i)).wh:=congrArg wF.wh hF
 clear hF
 subst hx
 subst hy
 subst hz
 refine⟨fun e=> ?_,fun e=> ?_⟩
 ·have e:i<p1.wB.length:=by have:=of_decide_eq_true e;omega
  have ho:=List.getElem_mem e
  have hil:(p1.wB.take i).length=i:=by rw[List.length_take];omega
  have hFi:outsF (wF.mk Aj Af Ag) (p1.wB.take i)=frF Ab (w2++(p1.wB.take i).map (·.wb)):=by
   rw[hF0]
   exact kaa (by omega)
  have hgl:(w2++(p1.wB.take i).map (·.wb)).length=w2.length+i:=by simp only[List.length_append,List.length_map];omega
  have hbg:BG (w2++(p1.wB.take i).map (·.wb)):=by
   intro q hq
   rcases List.mem_append.1 hq with hq|hq
   ·exact hlb q hq
   ·obtain⟨o,h1,rfl⟩:=List.mem_map.1 hq
    exact⟨(ht.o o (List.mem_of_mem_take h1)).c.1,(hk.v.o o (List.mem_of_mem_take h1)).c⟩
  rw[ix_get _ _ e,inc_i64 _ (by omega)]
  have hfv:FV (outsF (wF.mk Aj Af Ag) (p1.wB.take i)):=by
   rw[hFi]
   exact frF_FV hd1 hd2 (by omega) hbg
  have hct:(outsF (wF.mk Aj Af Ag) (p1.wB.take i)).wa<((2^(outsF (wF.mk Aj Af Ag) (p1.wB.take i)).wC.toNat:Nat):Int):=by
   rw[hFi]
   show((w2++(p1.wB.take i).map (·.wb)).length:Int)<((2^Ab.toNat:Nat):Int)
   omega
  refine⟨by omega,by omega,⟨hfv,hct,(ht.o _ ho).c.1,(hk.v.o _ ho).c⟩,fun e2=>(by cases e2),fun _=>⟨rfl,rfl,?_,?_,rfl,rfl,rfl,⟨⟨rfl,rfl,rfl,rfl,rfl,rfl,rfl,rfl,rfl,rfl,rfl,rfl,rfl,rfl,rfl⟩,i+1,rfl,by omega,?_,?_⟩,by(dsimp only;omega)⟩⟩
  ·rw[hgl];simp only[List.length_cons,List.length_nil];omega
  ·rw[hgl];simp only[List.length_cons,List.length_nil];unfold maxLen;omega
  ·rw[List.take_succ_eq_append_getElem e]
   unfold outsF
   rw[List.foldl_append]
   rfl
  ·rw[List.take_succ_eq_append_getElem e,List.map_append,List.append_assoc]
   rfl
 ·have e:i=p1.wB.length:=by have:=of_decide_eq_false e;omega
  subst e
  rw[List.take_length]
  intro J1 j
  have j1:∀b',b' =depA Ae p1->J1 Aa Ab Ad Ac As At Ai Ak Al (outsF (wF.mk Aj Af Ag) p1.wB).wC (outsF (wF.mk Aj Af Ag) p1.wB).wa (outsF (wF.mk Aj Af Ag) p1.wB).wh b' Ah (w2++p1.wB.map (·.wb)) w4 w5 (w7k++p1.wG) (trs (w7k++p1.wG)):=by
   intro b' h1
   subst h1
   refine j _ _ _ _ _ _ _ _ _ _ _ _ _ _ _ _ _ _ _ fun J2 k=> ?_
   have j2:∀b',(wdA Ae p1).2=0->b' =(wdA Ae p1).1->J2 Aa Ab Ad Ac As At Ai Ak Al (outsF (wF.mk Aj Af Ag) p1.wB).wC (outsF (wF.mk Aj Af Ag) p1.wB).wa (outsF (wF.mk Aj Af Ag) p1.wB).wh b' Ah (w2++p1.wB.map (·.wb)) w4 w5 (w7k++p1.wG) (trs (w7k++p1.wG)):=by
    intro b' h0 h1
    rw[if_neg (fun hh=>hh h0)]at hR
    subst hR
    subst h1
    exact k _ _ _ _ _ _ _ _ _ _ _ _ _ _ _ _ _ _ _ (by repeat' first|apply And.intro|exact rfl|exact True.intro)
   refine⟨fun e=>⟨⟨hdA,ht.w⟩,fun e2=> ?_,fun e2=>⟨rfl,rfl,rfl,j2 _ ?_ ?_⟩⟩,fun e=>⟨rfl,rfl,rfl,j2 _ ?_ ?_⟩⟩
   ·have e2:(creditA (depA Ae p1) p1.wP p1.wL).2≠0:=by simpa using e2
    have ew:wdA Ae p1=creditA (depA Ae p1) p1.wP p1.wL:=by unfold wdA;rw[if_pos (of_decide_eq_true e)]
    rw[ew,if_pos e2]at hR
    subst hR
    exact(by repeat' first|apply And.intro|exact rfl|exact True.intro)
   ·have e2:(creditA (depA Ae p1) p1.wP p1.wL).2=0:=by simpa using e2
    unfold wdA;rw[if_pos (of_decide_eq_true e)];exact e2
   ·unfold wdA;rw[if_pos (of_decide_eq_true e)]
   ·unfold wdA;rw[if_neg (of_decide_eq_false e)]
   ·unfold wdA;rw[if_neg (of_decide_eq_false e)]
  refine⟨fun e2=>⟨⟨hgb.1,ht.d,ht.n⟩,fun e3=> ?_,fun e3=>⟨rfl,rfl,rfl,j1 _ ?_⟩⟩,fun e2=>⟨rfl,rfl,rfl,j1 _ ?_⟩⟩
  ·have e3:(debitA Ae p1.wP p1.wI p1.wX).2≠0:=by simpa using e3
   exact(e3 (hdd (of_decide_eq_true e2))).elim
  ·unfold depA;rw[if_pos (of_decide_eq_true e2)]
  ·unfold depA;rw[if_neg (of_decide_eq_false e2)]
end Go.Proofs.YtijdfglbhaedoaaGreat
end
