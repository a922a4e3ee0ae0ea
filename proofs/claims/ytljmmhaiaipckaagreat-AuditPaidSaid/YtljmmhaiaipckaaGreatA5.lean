/- Parts of the proofs, merged by a program. -/
import Derived.Test.YtljmmhaiaipckaaGreatA4
set_option maxRecDepth 100000
set_option linter.all false
noncomputable section
namespace Go.Proofs.YtljmmhaiaipckaaGreat
open Go Go.Bv Go.Cv Go.Md Go.RowKit
open Go.IntKind (i64 u64)
theorem kpw {P:Program} {f:FuncId} {a b n:Int} {e:TypeId} {m:Int} (hs:SoundH P f [.d (.int .u64 m),.d (.int .u64 6),.d (.slice 1 [.int .u64 a,.int .u64 b])] [] (.d (.int .u64 n)) []) {G:Gh} {w:World} (hW:Go.Bv.WR (tkOf G []) w.heap.size G w (hpOf 0 []) 0):
  Calls P f #[.int .u64 m,.int .u64 6,.slice (some ⟨w.heap.size,0,none⟩) 2 2] (w.alloc (.cells #[.int .u64 a,.int .u64 b] e)) fun e w' =>∃v G',e= .returned v/\v= .int .u64 n/\Go.Bv.WR (tkOf G []) w.heap.size G' w' (hpOf 0 []) 0/\Fr (tkOf G []) G w G' w'/\Ex (tkOf G []) G w G' w' (hpOf 0 []) 0:=by
 have hR0:R (tkOf G []) G w 0 ⟨[],hpOf 0 [],0⟩ ⟨#[],[]⟩ G w:=⟨⟨rfl,rfl,rfl,qab _,fun _ _ _=>⟨rfl,rfl⟩,Mono.refl _ _⟩,hW,rfl,rfl,fun t=> .any _,⟨qab _,fun _ _ _ h=>h,fun tok t' _ h=>⟨t',h,qab _,fun _ _ hb=>⟨hb,rfl,rfl⟩⟩,fun _ _ h=>h⟩⟩
 obtain⟨G1,hR1,hp⟩:=hR0.alloc e [.int .u64 a,.int .u64 b] [.d (.int .u64 a),.d (.int .u64 b)] rfl (fun x hx=>by
  simp only[qae,List.mem_nil_iff,or_false]at hx;rcases hx with rfl|rfl<;>rfl) (fun j v x hv hx=>by
  match j with
  |0=>cases hv;cases hx;exact .d _ _ (.int _ _)
  |1=>cases hv;cases hx;exact .d _ _ (.int _ _)
  |j+2=>simp at hv)
 obtain⟨G2,hR2,he,hv⟩:=hR1.freeze (id:=0) (l:=[.int .u64 a,.int .u64 b]) (sz:=1) (n:=2) rfl (fun d hd=>by
  simp only[qae,List.mem_nil_iff,or_false]at hd;rcases hd with rfl|rfl<;>exact⟨rfl,fun c hc=>by simp only[D.cells,qal]at hc;subst hc;rfl⟩) rfl
 have hT:(tkOf G []).nx=0:=rfl;have hw1:(w.alloc (.cells #[.int .u64 a,.int .u64 b] e)).heap[w.heap.size]? =some (.cells #[.int .u64 a,.int .u64 b] e (0,0)):=by show(w.heap.push _)[w.heap.size]? =_;simp
 have hrow:RepV G2 (w.alloc (.cells #[.int .u64 a,.int .u64 b] e)) ((1,.tip 2)::(0,.dead)::(0,.cells [.d (.int .u64 a),.d (.int .u64 b)])::hpOf 0 []) 2 (.slice (some ⟨w.heap.size,0,none⟩) 2 2) (.row 0 0 2 1):=by
  cases hp with
  |ptr _ _ b' hid hl=>exact .row 0 0 2 1 w.heap.size 0 2 2 qqo (he.loc 0 _ hid hl) (fun _=>rfl) (qab _) qqd (csz_of hw1) qqo
 have hsl:=(hv _ hrow).le1 (y:= .d (.slice 1 [.int .u64 a,.int .u64 b])) ⟨rfl,rfl⟩;refine(hR2.call (vs:=[.int .u64 m,.int .u64 6,.slice (some ⟨w.heap.size,0,none⟩) 2 2]) hs (ids:=[]) (fb:=2) (nx' :=2) trivial qel ⟨qab _⟩ (.inl ⟨rfl,rfl⟩) rfl (fun j v x hv hx=> ?_) trivial).mono fun e w' ⟨v,G',h1,h2,h3,_⟩=> ?_
 ·match j with
  |0=>cases hv;cases hx;exact⟨.d _ _ (.int _ _),trivial⟩
  |1=>cases hv;cases hx;exact⟨.d _ _ (.int _ _),trivial⟩
  |2=>cases hv;cases hx;exact⟨hsl,trivial⟩
  |j+3=>simp at hv
 ·have h4:=h2.le (s' :=⟨[],hpOf 0 [],0⟩) ⟨⟨qab _,qaq _⟩,trivial,trivial⟩;have h3:RepV G' w' _ _ v (.d (.int .u64 n)):=h3;exact⟨v,G',h1,h3.int_inv,h4.wr,h4.fr,h4.ex⟩
theorem koo {a b n:Int} (hs:SoundH Tryz.prog 59 [.d (.int .u64 18446744069414584321),.d (.int .u64 6),.d (.slice 1 [.int .u64 a,.int .u64 b])] [] (.d (.int .u64 n)) []):SoundH Tryz.prog 185 [.agg [.d (.int .u64 a),.d (.int .u64 b)]] [] (.d (.int .u64 n)) []:=by
 intro G w vs hlen hrep hW
 match vs,hlen with
 |[v0],_=>
  obtain⟨us,rfl,h1,h2,h3⟩:=(hrep 0 v0 _ rfl rfl).agg_inv
  match us,h1 with
  |[u0,u1],_=>
   have e0:=(h3 0 u0 _ rfl rfl).int_inv;have e1:=(h3 1 u1 _ rfl rfl).int_inv;subst e0;subst e1;have hc:=kpw (e:=96) hs hW;clear hrep h2 h3 hs
   go_enter Tryz.func185,Tryz.ntmps185
   go_wp2_with (go_at_call 59;refine hc.mono ?_;rintro e w' ⟨v,G',rfl,rfl,q1,q2,q3⟩)
   go_ret
   exact⟨_,G',rfl,.d _ _ (.int _ _),q1,q2,q3⟩
theorem klh:∀(l:Li) (s:wAf),absL (l.map (·%18446744069414584321)) s=absL l s
 |[],_=>rfl
 |[x],s=>by simp only[qad,qcu,absL];rw[show(s.a0+x%18446744069414584321)%18446744069414584321=(s.a0+x)%18446744069414584321 by omega]
 |x::y::r,s=>by simp only[qad,absL];rw[klh r,show(s.a0+x%18446744069414584321)%18446744069414584321=(s.a0+x)%18446744069414584321 by omega,show(s.a1+y%18446744069414584321)%18446744069414584321=(s.a1+y)%18446744069414584321 by omega]
theorem kqc (k:Int) (l:Li):hashS k (l.map (·%18446744069414584321))=hashS k l:=by
 unfold hashS absS absI;rw[klh,qm];cases l with
 |nil=>rfl
 |cons a r=>rw[qe qqs,qe qqs]
def markV (key rho:Int):Int:=(markP pkR key rho).getD 0
def comV (n:wJ):Int:=(commP pkR n).getD 0
theorem ke3 {k r:Int} (h1:k<18446744069414584321) (h2:r<18446744069414584321):markP pkR k r=some (hashS 3 [k,r]):=by unfold markP;rw[qf ⟨h1,h2⟩];unfold pkR;rw[qf (by simp[allB,h1,h2])]
theorem kha {n:wJ} (h:noteV n=true):allB (noteL n)=true:=by unfold noteV at h;simp only[qg,qai]at h;refine k7e.2 fun x hx=> ?_;simp only[noteL,qae,qcq,or_false]at hx;rcases hx with rfl|rfl|rfl|rfl<;>omega
theorem ke1 {n:wJ} (h:noteV n=true):commP pkR n=some (hashS 2 (noteL n)):=by unfold commP;rw[qf h];unfold pkR;rw[qf (kha h)]
theorem comV_eq (n:wJ):comV n=if noteV n=true then hashS 2 (noteL n)else 0:=by
 unfold comV;split
 ·rename_i h;rw[ke1 h];rfl
 ·rename_i h;unfold commP;rw[qe h];rfl
theorem comV_u (n:wJ):U64 (comV n):=by
 rw[comV_eq];split
 ·exact kh _ _
 ·decide
theorem comV_lt (n:wJ):0<=comV n/\comV n<18446744069414584321:=by
 rw[comV_eq];split
 ·exact⟨(kh _ _).1,k2n _ _⟩
 ·decide
theorem kt9 (k r:Int):markV k r=if k<18446744069414584321/\r<18446744069414584321 then hashS 3 [k,r]else 0:=by
 unfold markV;split
 ·rename_i h;rw[ke3 h.1 h.2];rfl
 ·rename_i h;unfold markP;rw[qe h];rfl
def useOf (x:wN):wAs:=⟨x.wC,x.wR,x.we,x.wY,x.wz,x.Key,x.wAP,x.wC,x.wj,x.wBQ⟩
def usX (u:wAs):wN:=⟨u.wBX,u.wBc,u.wBf,u.wBd,u.wBq,u.wBi,u.wBg,u.wBp,u.wBm⟩
def zeroX:wN:=⟨0,0,0,0,0,0,0,[],false⟩
def fdU:List wAs->Int->Option wAs
 |[],_=>none
 |u::r,p=>if u.wC=p then some u else fdU r p
theorem kcx {p:Int}:∀{l:List wAs},fdU l p=none↔p∉l.map (·.wC)
 |[]=>by simp[fdU]
 |u::r=>by
  unfold fdU;split
  ·rename_i h;simp[h]
  ·rename_i h;rw[kcx (l:=r)];simp only[qad,qae,not_or];exact⟨fun q=>⟨fun e=>h e.symm,q⟩,fun q=>q.2⟩
def qsV (n:wJ):wG:=comQ n (comV n)
def lsz (an:Int):Li->Li->Int->Int
 |r::rs,z::zs,s=>lsz an rs zs (if r=an then z else s)
 |_,_,s=>s
def prU (p:Int) (i:Nat) (on s:Int):Li:=if p/2^i%2=1 then [s,on]else [on,s]
def sibN (k:Nat):Nat:=if k%2=1 then k-1 else k+1
def pthL (d:Nat) (l:Li) (p:Nat):Li:=(List.range d).map fun i=>TT (lf l) i (sibN (p/2^i))
structure AuQ where
 a:wG
 c:wG
def rwGo (p:Int) (xp pp:Li) (i:Nat):Nat->Int->Int->AuQ->AuQ
 |0,_,_,q=>q
 |n+1,m,o,q=>let P:=prU p i m (ix xp (i:Int));let Q:=prU p i o (ix pp (i:Int));rwGo p xp pp (i+1) n (nd (ix P 0) (ix P 1)) (nd (ix Q 0) (ix Q 1)) (if P=Q then q else⟨⟨6,P,nd (ix P 0) (ix P 1)⟩,⟨6,Q,nd (ix Q 0) (ix Q 1)⟩⟩)
def rwL (b:wv) (an:Int):Li:=(b.wl.take (lsz an b.wg b.wAu 0).toNat).map comV
def rwr (b:wv) (an:Int) (x:wN):AuQ:=
 rwGo x.wC x.wj (pthL b.wD.toNat (rwL b an) x.wC.toNat) 0 b.wD.toNat (comV (noteOf x)) (lf (rwL b an) x.wC.toNat)
  ⟨qsV (noteOf x),if x.wC<lsz an b.wg b.wAu 0 then qsV (ix b.wl x.wC)else⟨6,[],lf (rwL b an) x.wC.toNat⟩⟩
def rWr (b:wv) (an:Int) (x:wN):wAX:=colF (rwr b an x).a (rwr b an x).c
structure AuI where
 u:List wAs
 f:wAX
def rInp (b:wv) (an:Int):List wN->List wAs->AuI
 |[],u=>⟨u,zeroF⟩
 |x::r,u=>if x.wBQ=true then rInp b an r u
  else if(b.wl.length:Int)<=x.wC∨ix b.wl x.wC≠noteOf x then⟨u,rWr b an x⟩
  else match fdU u x.wC with
   |some y=>⟨u,colF (ownQ (usX y)) (ownQ x)⟩
   |none=>rInp b an r (u++[useOf x])
structure AuF where
 b:wv
 f:wAX
def setU (b:wv) (u:List wAs):wv:={b with wAJ:=u}
def rexS (b:wv) (t:wy) (w:wZ) (is:Bool):AuF:=
 if is=false∨checkS pkR (stmtS t b.wD) w≠0 then⟨b,unF⟩
 else if(rInp b t.wM w.Ins b.wAJ).f.wAW≠0 then⟨setU b (rInp b t.wM w.Ins b.wAJ).u,(rInp b t.wM w.Ins b.wAJ).f⟩
 else⟨{b with wl:=b.wl++w.wA,wAJ:=(rInp b t.wM w.Ins b.wAJ).u},zeroF⟩
def sumV (n:List wJ) (u:List wAs):Int:=u.foldl (fun s y=>u64.wrap (s-y.wBX)) (n.foldl (fun s y=>u64.wrap (s+y.Value)) 0)
structure AuS where
 b:wv
 o:wK
def rsm (b:wv) (o:wK):AuS:=⟨b,{o with wAx:=(b.wl.length:Int),wAU:=(b.wAJ.length:Int),wAE:=sumV b.wl b.wAJ}⟩
def fltR (o:wK) (f:wAX) (h k:Int):wK:={o with wT:=f.wAW,wAR:=h,wAq:=k,wAL:=f.wBH,wAD:=f.wBJ,wAH:=f.wAw,wAM:=f.wBK,wAC:=f.wBI,wAI:=f.wAv}
def rexT (b:wv) (t:wy):AuF:=rexS b t (decW t.wh).1 (decide ((decW t.wh).2=0))
def rstep (h k:Int) (t:wy) (s:AuS):AuS:=
 if 0<(rexT s.b t).f.wAW then rsm (setU (rexT s.b t).b ((rexT s.b t).b.wAJ.take s.o.wAU.toNat)) (fltR s.o (rexT s.b t).f h k)
 else rsm (rexT s.b t).b s.o
def rtxs (h:Int):Nat->List wy->AuS->AuS
 |_,[],s=>s
 |k,t::r,s=>if s.o.wT≠0 then s else rtxs h (k+1) r (rstep h (k:Int) t s)
structure AuB where
 s:AuS
 m:wAZ
 e:Int
def minR (o:wK) (R:Int):wK:={o with wBR:=u64.wrap (o.wBR+R)}
def endB (b:wv) (r:Li) (z:Int):wv:={b with wg:=r,wAu:=b.wAu++[z]}
def rbl (R:Int) (i:Nat) (b:wU) (m:wAZ) (s:AuS):AuS:=⟨endB (rtxs ((i:Int)+1) 0 b.Txs ⟨s.b,minR s.o R⟩).b m.wg (m.wAO.length:Int),(rtxs ((i:Int)+1) 0 b.Txs ⟨s.b,minR s.o R⟩).o⟩
def rbks (R:Int):Nat->List wU->wAZ->AuS->AuB
 |_,[],m,s=>⟨s,m,0⟩
 |i,b::r,m,s=>if(rapply m b).e≠0 then⟨s,m,(rapply m b).e⟩else rbks R (i+1) r (rapply m b).m (rbl R i b (rapply m b).m s)
def bk0 (o:wAr) (r:wP):wv:=⟨o.wAz,o.wBl,o.wBo,o.wBk,o.wBn,o.wBh,r.wD,(newS r).r,[0],[],[]⟩
def rbkA (o:wAr) (r:wP) (l:List wU):AuB:=rbks r.wd 0 l (mOf (newS r)) ⟨bk0 o r,zeroR⟩
def sumBal (l:List wB):Int:=l.foldl (fun s a=>u64.wrap (s+a.wb)) 0
structure AuR where
 o:wK
 e:Int
def rbkS (o:wAr) (r:wP) (l:List wU):AuR:=if(rbkA o r l).e≠0 then⟨zeroR,(rbkA o r l).e⟩else⟨{(rbkA o r l).s.o with wBS:=sumBal (rbkA o r l).m.wF},0⟩
def wtOf (t:wy):wBG:=⟨(decW t.wh).1.Ins,(decW t.wh).1.wA,(decW t.wh).1.wAV,decide ((decW t.wh).2=0)⟩
def wtL (l:List wU):List wBG:=l.flatMap fun b=>b.Txs.map wtOf
def pl0:wAr:=⟨false,0,0,[],[],[]⟩
def raudS (r:wP) (l:List wU):AuR:=if rulesE r≠0∨r.wAk≠2 then⟨zeroR,1⟩else rbkS pl0 r l
theorem khl (C:EC) (ns:List wJ) (x:wN) (an h:Int):(wrgS C ns x an h).wAW=2:=k94 _ _ _ _ _
theorem kcz {C:EC} {b:wv} {an h:Int}:∀(l:List wN) (I:EIn) (u:List wAs),I.f=zeroF->I.k=u.map (·.wC)->
  (inpS C b.wl an h l I).f.wAW=(rInp b an l u).f.wAW/\((inpS C b.wl an h l I).f.wAW=0->(inpS C b.wl an h l I).k=(rInp b an l u).u.map (·.wC))
 |[],I,u,hf,hk=>by unfold inpS rInp;exact⟨by rw[hf],fun _=>hk⟩
 |x::r,I,u,hf,hk=>by
  unfold inpS rInp;split
  ·exact kcz r I u hf hk
  ·split
   ·exact⟨khl _ _ _ _ _,fun h=>by rw[khl]at h;cases h⟩
   ·split
    ·rename_i hm;cases hd:fdU u x.wC with
     |none=>rw[hk]at hm;exact(kcx.1 hd hm).elim
     |some y=>exact⟨rfl,fun h=>by cases h⟩
    ·rename_i hm;cases hd:fdU u x.wC with
     |some y=>exact(hm (by rw[hk];exact qz fun hn=>by rw[kcx.2 hn]at hd;cases hd)).elim
     |none=>exact kcz r _ _ hf (by simp[hk,useOf])
theorem k5c {b:wv} {an:Int}:∀(l:List wN) (u:List wAs),(rInp b an l u).f.wAW=0∨(rInp b an l u).f.wAW=2
 |[],u=> .inl rfl
 |x::r,u=>by
  unfold rInp;split
  ·exact k5c r u
  ·split
   ·exact .inr rfl
   ·split
    ·exact .inr rfl
    ·exact k5c r _
structure AuE (d:Int) (x:EX) (b:wv):Prop where
 n:b.wl=x.n
 k:x.k=b.wAJ.map (·.wC)
 d:b.wD=d
theorem ex_kind {C:EC} {d h:Int} {x:EX} {b:wv} (H:AuE d x b) (t:wy):
  (exTd C d h x t).f.wAW=(rexT b t).f.wAW/\0<=(rexT b t).f.wAW/\((rexT b t).f.wAW=0->AuE d (exTd C d h x t).x (rexT b t).b):=by
 obtain⟨hn,hk,rfl⟩:=H;unfold exTd rexT exTx rexS;have e:((decW t.wh).2==0)=decide ((decW t.wh).2=0):=rfl;rw[e];obtain⟨k1,k2⟩:=kcz (C:=C) (b:=b) (an:=t.wM) (h:=h) (decW t.wh).1.Ins ⟨zeroF,0,0,x.k,x.v⟩ b.wAJ rfl hk;have eI:exIn C x t (decW t.wh).1 h=inpS C b.wl t.wM h (decW t.wh).1.Ins ⟨zeroF,0,0,x.k,x.v⟩:=by unfold exIn;rw[hn]
 rw[eI];split
 ·exact⟨rfl,(by show(0:Int)<=1;decide),fun h=>by cases h⟩
 ·rw[k1];split
  ·rename_i hh;refine⟨k1,?_,fun h=>(hh h).elim⟩;show 0<=(rInp b t.wM (decW t.wh).1.Ins b.wAJ).f.wAW;rcases k5c (b:=b) (an:=t.wM) (decW t.wh).1.Ins b.wAJ with h2|h2<;>rw[h2]<;>decide
  ·rename_i hh;have hh:(rInp b t.wM (decW t.wh).1.Ins b.wAJ).f.wAW=0:=qz hh;exact⟨rfl,qcc _,fun _=>⟨by show b.wl++_=x.n++_;rw[hn],k2 (k1.trans hh),rfl⟩⟩
theorem km5 {C:EC} {d h H:Int}:∀(l:List wy) (i k:Nat) (x:EX) (s:AuS),AuE d x s.b->s.o.wT=0->
  (txsGo C d h i l x).f.wAW=(rtxs H k l s).o.wT/\((rtxs H k l s).o.wT=0->AuE d (txsGo C d h i l x).x (rtxs H k l s).b)
 |[],i,k,x,s,hr,h0=>⟨h0.symm,fun _=>hr⟩
 |t::r,i,k,x,s,hr,h0=>by
  obtain⟨e1,e2,e3⟩:=ex_kind (C:=C) (h:=h) hr t;have eR:rtxs H k (t::r) s=rtxs H (k+1) r (rstep H (k:Int) t s):=qe (by rw[h0];exact fun h=>h rfl);rw[eR];by_cases hk:(rexT s.b t).f.wAW=0
  ·have eT:txsGo C d h i (t::r) x=txsGo C d h (i+1) r (exTd C d h x t).x:=qe (by rw[e1,hk];exact fun h=>h rfl);have es:rstep H (k:Int) t s=rsm (rexT s.b t).b s.o:=qe qqo;rw[eT,es];exact km5 r (i+1) (k+1) _ _ (e3 hk) h0
  ·have eT:txsGo C d h i (t::r) x=⟨{(exTd C d h x t).f with wO:=h,Tx:=(i:Int)},(exTd C d h x t).x⟩:=qf (by rw[e1];exact hk);have es:rstep H (k:Int) t s=rsm (setU (rexT s.b t).b ((rexT s.b t).b.wAJ.take s.o.wAU.toNat)) (fltR s.o (rexT s.b t).f H (k:Int)):=qf qqo
   have eq:∀(s' :AuS),s'.o.wT≠0->rtxs H (k+1) r s' =s' :=fun s' h' =>by
    cases r with
    |nil=>rfl
    |cons y z=>exact qf h'
   have hk' :(rsm (setU (rexT s.b t).b ((rexT s.b t).b.wAJ.take s.o.wAU.toNat)) (fltR s.o (rexT s.b t).f H (k:Int))).o.wT=(rexT s.b t).f.wAW:=rfl;rw[eT,es,eq _ (by rw[hk'];exact hk),hk'];exact⟨e1,fun h=>(hk h).elim⟩
theorem khk {H:Int} {k:Nat} {l:List wy} {s:AuS} (h:s.o.wT≠0):rtxs H k l s=s:=by
 cases l with
 |nil=>rfl
 |cons y z=>unfold rtxs;rw[qf h]
theorem khm {R:Int}:∀(l:List wU) (i:Nat) (m:wAZ) (s:AuS),s.o.wT≠0->(rbks R i l m s).s.o.wT=s.o.wT
 |[],i,m,s,h=>rfl
 |b::r,i,m,s,h=>by
  unfold rbks;split
  ·rfl
  ·have e:(rbl R i b (rapply m b).m s).o.wT=s.o.wT:=by show(rtxs ((i:Int)+1) 0 b.Txs ⟨s.b,minR s.o R⟩).o.wT=_;rw[khk (s:=⟨s.b,minR s.o R⟩) h];rfl
   rw[khm r _ _ _ (by rw[e];exact h),e]
theorem bks_err {R:Int}:∀(l:List wU) (i:Nat) (p:PS) (c:Nat) (s:AuS),PI p c 0->(∀b∈l,BR' b)->(∀b∈l,b.Txs.length<=4)->c+5*l.length<=790->(rbks R i l (mOf p) s).e=(auGo l p).e
 |[],i,p,c,s,_,_,_,_=>rfl
 |b::r,i,p,c,s,hp,hb,h4,hc=>by
  have hc:c+5*(r.length+1)<=790:=hc;have hb1:=hb b qqs;have h41:=h4 b qqs;have ea:=k9h hp (b:=b) qqo hb1;unfold rbks auGo;rw[ea];by_cases he:(applyS p b).e=0
  ·rw[qe (fun h=>h he),qf he];exact bks_err r (i+1) _ (c+5) _ ((k74 hp qqo hb1 he).mono (d:=c+5) qqo) (fun y hy=>hb y (qbz b hy)) (fun y hy=>h4 y (qbz b hy)) qqo
  ·rw[qf he,qe he]
theorem kld {C:EC} {d R:Int}:∀(l:List wU) (i:Nat) (p:PS) (c:Nat) (x:EX) (s:AuS),PI p c 0->(∀b∈l,BR' b)->(∀b∈l,b.Txs.length<=4)->c+5*l.length<=790->AuE d x s.b->s.o.wT=0->
  (rbks R i l (mOf p) s).e=(auGo l p).e/\((auGo l p).e=0->(rbks R i l (mOf p) s).s.o.wT=(chnGo C d l x).f.wAW)
 |[],i,p,c,x,s,_,_,_,_,_,h0=>⟨rfl,fun _=>h0⟩
 |b::r,i,p,c,x,s,hp,hb,h4,hc,hr,h0=>by
  have hc:c+5*(r.length+1)<=790:=hc;have hb1:=hb b qqs;have h41:=h4 b qqs;have ea:=k9h hp (b:=b) qqo hb1;unfold rbks auGo;rw[ea];by_cases he:(applyS p b).e=0
  ·rw[qe (fun h=>h he),qf he];have hP:=(k74 hp qqo hb1 he).mono (d:=c+5) qqo;have hbr:=fun y hy=>hb y (qbz b hy);have h4r:=fun y hy=>h4 y (qbz b hy);obtain⟨t1,t2⟩:=km5 (C:=C) (h:=b.wO) (H:=(i:Int)+1) b.Txs 0 0 x ⟨s.b,minR s.o R⟩ hr h0;have ek:(rbl R i b (mOf (applyS p b).s) s).o.wT=(txsGo C d b.wO 0 b.Txs x).f.wAW:=t1.symm;unfold chnGo;by_cases hk:(txsGo C d b.wO 0 b.Txs x).f.wAW=0
   ·rw[qe (fun h=>h hk)];have hk2:(rbl R i b (mOf (applyS p b).s) s).o.wT=0:=ek.trans hk;have hr2:=t2 hk2;exact kld r (i+1) _ (c+5) _ _ hP hbr h4r qqo ⟨hr2.n,hr2.k,hr2.d⟩ hk2
   ·rw[qf hk];have hk2:(rbl R i b (mOf (applyS p b).s) s).o.wT≠0:=by rw[ek];exact hk
    refine⟨?_,fun _=> ?_⟩
    ·exact bks_err r (i+1) _ (c+5) _ hP hbr h4r qqo
    ·rw[khm r _ _ _ hk2,ek]
  ·rw[qf he,qe he];exact⟨rfl,fun h=>(he h).elim⟩
theorem kt5 {r:wP} {l:List wU} (h0:0<=r.wd) (hl:BLk l):(raudS r l).e=(audS false r l).2/\((raudS r l).e=0->(raudS r l).o.wT=(audS false r l).1.wT):=by
 unfold raudS audS;by_cases h1:rulesE r=0
 ·by_cases h2:r.wAk=2
  ·rw[qe (by rw[h1,h2];simp),qe (fun h=>h h1),qe (by rw[h2];simp)];have hlen:=hl.len;have hP:=new_PI h1 h0;obtain⟨k1,k2⟩:=kld (C:=exmC r l) (d:=r.wD) (R:=r.wd) l 0 (newS r) 0 ex0 ⟨bk0 pl0 r,zeroR⟩ hP hl.r hl.tl qqo ⟨rfl,rfl,rfl⟩ rfl;unfold rbkS exmS;rw[qf h1];have k1:(rbkA pl0 r l).e=(auGo l (newS r)).e:=k1;by_cases he:(auGo l (newS r)).e=0
   ·rw[qe (by rw[k1];exact fun h=>h he),qf he];exact⟨rfl,fun _=>k2 he⟩
   ·rw[qf (by rw[k1];exact he),qe he];exact⟨k1,fun h=>(he (k1▸h)).elim⟩
  ·rw[qf (.inr h2),qe (fun h=>h h1),qf (.inl h2)];exact⟨rfl,fun h=>by cases h⟩
 ·rw[qf (.inl h1),qf h1]
  have:rulesE r=1:=by
   unfold rulesE at h1 ⊢;split
   ·split
    ·split
     ·rename_i a b c;rw[qf a,qf b,qf c]at h1;exact(h1 rfl).elim
     ·rfl
    ·rename_i a b;rw[qf a,qe b]at h1;exact(h1 rfl).elim
   ·rfl
  exact⟨this.symm,fun h=>by cases h⟩
theorem wtL_len:∀l:List wU,(∀b∈l,b.Txs.length<=4)->(wtL l).length<=4*l.length
 |[],_=>qaq _
 |b::r,h=>by have h1:=wtL_len r fun y hy=>h y (qbz b hy);have h2:=h b qqs;unfold wtL at h1 ⊢;simp only[qbb,qh,qm,qj];omega
def knW (k:wBG):wZ:=⟨k.wAK,k.wBO,k.wBe⟩
structure BOk (b:wv) (c:Nat):Prop where
 i:b.wBN=false
 d1:1<=b.wD
 d2:b.wD<=6
 rl:b.wg.length<=1000
 rz:b.wg.length=b.wAu.length
 z:∀z∈b.wAu,0<=z/\z<=b.wl.length/\z<=((2^b.wD.toNat:Nat):Int)
 nl:b.wl.length<=4*c
 nr:∀y∈b.wl,NR y
 ul:b.wAJ.length<=4*c
theorem lsz_ok {an:Int} {P:Int->Prop}:∀(rs zs:Li) (s:Int),(∀z∈zs,P z)->P s->P (lsz an rs zs s)
 |[],_,s,_,h=>h
 |_::_,[],s,_,h=>h
 |r::rs,z::zs,s,hz,h=>by
  unfold lsz;refine lsz_ok rs zs _ (fun y hy=>hz y (qbz z hy)) ?_;split
  ·exact hz z qqs
  ·exact h
theorem BOk.sz {b:wv} {c:Nat} (h:BOk b c) (an:Int):0<=lsz an b.wg b.wAu 0/\lsz an b.wg b.wAu 0<=b.wl.length/\lsz an b.wg b.wAu 0<=((2^b.wD.toNat:Nat):Int):=lsz_ok (P:=fun z=>0<=z/\z<=b.wl.length/\z<=((2^b.wD.toNat:Nat):Int)) _ _ _ h.z ⟨qcc _,qck _,qck _⟩
theorem k6r {b:wv} {an:Int}:∀(l:List wN) (u:List wAs),(rInp b an l u).u.length<=u.length+l.length
 |[],u=>by simp[rInp]
 |x::r,u=>by
  unfold rInp;split
  ·have:=k6r (b:=b) (an:=an) r u;simp only[qj];omega
  ·split
   ·simp
   ·split
    ·simp
    ·have:=k6r (b:=b) (an:=an) r (u++[useOf x]);simp only[qh,qj,qt]at this ⊢;omega
theorem kt2 {t:wy} {d:Int} {w:wZ} (h:checkS pkR (stmtS t d) w=0):w.wA.length=t.wA.length/\w.wA.length<=4/\w.Ins.length<=4:=by
 have hv:=(check_V h).2;have hr:=k36.1 (k2h.1 h).1;have hc:=hr.2.2.2.2.2.2.2.2.2.2.2.1;have e:(stmtS t d).wt.length=t.wA.length:=by unfold stmtS;rw[qf hv];simp
 exact⟨hc.trans e,hr.2.2.2.2.2.2.2.2.2.2.2.2.2.1,hr.2.2.2.2.2.2.2.2.2.2.1⟩
theorem kpy {b:wv} {t:wy} (h:(rexT b t).f.wAW=0):(decW t.wh).2=0/\checkS pkR (stmtS t b.wD) (decW t.wh).1=0/\(rexT b t).b={b with wl:=b.wl++(decW t.wh).1.wA,wAJ:=(rInp b t.wM (decW t.wh).1.Ins b.wAJ).u}:=by
 unfold rexT rexS at h ⊢;split at h
 ·cases h
 ·rename_i h1;rw[qe h1];split at h
  ·rename_i h2;exact(h2 h).elim
  ·rename_i h2;rw[qe h2];exact⟨qz fun hh=>h1 (.inl (qay hh)),qz fun hh=>h1 (.inr hh),rfl⟩
theorem BOk.step {b:wv} {c:Nat} (h:BOk b c) {t:wy} (hk:(rexT b t).f.wAW=0):BOk (rexT b t).b (c+1)/\(rexT b t).b.wl.length=b.wl.length+t.wA.length/\(rexT b t).b.wD=b.wD:=by
 obtain⟨h0,h1,h2⟩:=kpy hk;obtain⟨l1,l2,l3⟩:=kt2 h1;have hw:=decW_WR (b:=t.wh) (by rw[h0];rfl);have hul:=k6r (b:=b) (an:=t.wM) (decW t.wh).1.Ins b.wAJ;have:=h.nl;have:=h.ul;rw[h2];refine⟨⟨h.i,h.d1,h.d2,h.rl,h.rz,fun z hz=> ?_,?_,fun y hy=> ?_,?_⟩,?_,rfl⟩
 ·have:=h.z z hz;refine⟨this.1,?_,this.2.2⟩;simp only[qh];omega
 ·simp only[qh];omega
 ·rcases qak.1 hy with hy|hy
  ·exact h.nr y hy
  ·exact hw.o y hy
 ·show(rInp b t.wM (decW t.wh).1.Ins b.wAJ).u.length<=_;omega
 ·simp only[qh];omega
def outN (l:List wy):Nat:=(l.map (fun t=>t.wA.length)).sum
theorem perf_l {s:PS} {t:wy}:(perfS s t).s.l.length=s.l.length+t.wA.length:=by obtain⟨_,_,_,k4,_,_⟩:=k9v s t;rw[k4];simp
theorem blkGo_l:∀(r:List wy) (s:PS) (m:Li) (f:Int),(blkGo r s m f).e=0->(blkGo r s m f).s.l.length=s.l.length+outN r
 |[],s,m,f,_=>by simp[blkGo,outN]
 |t::r,s,m,f,h=>by
  unfold blkGo at h ⊢;split at h
  ·rename_i h1;exact(h1 h).elim
  ·rename_i h1;rw[qe h1];split at h
   ·rename_i h2;exact(h2 h).elim
   ·rename_i h2;rw[qe h2,blkGo_l r _ _ _ h,perf_l];simp only[outN,qad,qeq];omega
theorem apply_l {s:PS} {b:wU} (h:(applyS s b).e=0):(applyS s b).s.l.length=s.l.length+outN b.Txs:=by
 obtain⟨_,_,h3,_,h4⟩:=k31 h;rw[h4];unfold blkS at h3 ⊢;split at h3
 ·rename_i h5;exact(h5 h3).elim
 ·rename_i h5;rw[qe h5];split at h3
  ·rename_i h6;exact(h6 h3).elim
  ·rename_i h6;rw[qe h6];exact blkGo_l _ _ _ _ (qz h5)
structure AuSk (s:AuS) (c n:Nat):Prop where
 b:BOk s.b c
 n:s.b.wl.length=n
 sp:s.o.wAU=(s.b.wAJ.length:Int)
theorem AuSk.step {s:AuS} {c n:Nat} (h:AuSk s c n) {H k:Int} {t:wy} (hk:(rexT s.b t).f.wAW=0):AuSk (rstep H k t s) (c+1) (n+t.wA.length)/\(rstep H k t s).o.wT=s.o.wT:=by
 obtain⟨g1,g2,_⟩:=h.b.step hk;have e:rstep H k t s=rsm (rexT s.b t).b s.o:=by unfold rstep;rw[qe qqo]
 rw[e];exact⟨⟨g1,by show(rexT s.b t).b.wl.length=_;rw[g2,h.n],rfl⟩,rfl⟩
theorem ksk (b:wv) (t:wy):0<=(rexT b t).f.wAW:=by
 unfold rexT rexS;split
 ·show(0:Int)<=1;decide
 ·split
  ·rcases k5c (b:=b) (an:=t.wM) (decW t.wh).1.Ins b.wAJ with h2|h2<;>(show 0<=(rInp b t.wM (decW t.wh).1.Ins b.wAJ).f.wAW;rw[h2];decide)
  ·show(0:Int)<=0;decide
def adF (key owner:Int):Nat->Int
 |0=>4
 |n+1=>if ownerS key (3-(n:Int))=owner then 3-(n:Int)else adF key owner n
def mkO (y:wJ) (a p h:Int):wc:=⟨y.Value,y.wAg,y.Rho,y.wBL,a,p,h,0⟩
def pdO (key h:Int):List wJ->Int->List wc->List wc
 |[],_,o=>o
 |y::r,p,o=>pdO key h r (p+1) (if adF key y.wAg 4<4 then o++[mkO y (adF key y.wAg 4) p h]else o)
def spO (key h:Int) (ms:Li) (x:wc):wc:=if x.wAU=0/\markV key x.wY∈ms then {x with wAU:=h}else x
structure PD where
 o:List wc
 p:Int
def pdT (key h:Int) (t:wy) (s:PD):PD:=⟨pdO key h (decW t.wh).1.wA s.p (s.o.map (spO key h t.wE)),s.p+((decW t.wh).1.wA.length:Int)⟩
def pdX (key h:Int):List wy->PD->PD
 |[],s=>s
 |t::r,s=>pdX key h r (pdT key h t s)
def pdL (key:Int):List wU->PD->PD
 |[],s=>s
 |b::r,s=>pdL key r (pdX key b.wO b.Txs s)
def paidS (seed:Int) (l:List wU):List wc:=(pdL (hashS 8 [seed]) l ⟨[],0⟩).o
structure PDk (s:PD) (c:Nat):Prop where
 p0:0<=s.p
 pc:s.p<=c
 ol:(s.o.length:Int)<=s.p
 op:∀x∈s.o,x.wC<s.p/\U64 x.wY
theorem pdO_ok {key h:Int}:∀(l:List wJ) (p:Int) (o:List wc) (c:Nat),(∀y∈l,NR y)->PDk ⟨o,p⟩ c->PDk ⟨pdO key h l p o,p+(l.length:Int)⟩ (c+l.length)
 |[],p,o,c,_,H=>by simpa[pdO]using H
 |y::r,p,o,c,hl,H=>by
  unfold pdO;have h1:=H.p0;have h2:=H.pc;have h3:=H.ol;have h1:0<=p:=h1;have h2:p<=c:=h2;have h3:(o.length:Int)<=p:=h3
  have H2:PDk ⟨if adF key y.wAg 4<4 then o++[mkO y (adF key y.wAg 4) p h]else o,p+1⟩ (c+1):=by
   refine⟨by show 0<=p+1;omega,by show p+1<=((c+1:Nat):Int);omega,?_,fun x hx=> ?_⟩
   ·show((if _ then _ else _:List wc).length:Int)<=p+1;split
    ·simp only[qh,qj,qt];omega
    ·omega
   ·have hx:x∈(if _ then _ else _:List wc):=hx;split at hx
    ·rcases qak.1 hx with hx|hx
     ·have:=H.op x hx;exact⟨by show x.wC<p+1;have:x.wC<p:=this.1;omega,this.2⟩
     ·rw[qal.1 hx];exact⟨by show p<p+1;omega,(hl y qqs).r⟩
    ·have:=H.op x hx;exact⟨by show x.wC<p+1;have:x.wC<p:=this.1;omega,this.2⟩
  have:=pdO_ok (key:=key) (h:=h) r (p+1) _ (c+1) (fun z hz=>hl z (qbz y hz)) H2;rw[show p+((y::r).length:Int)=p+1+(r.length:Int)by simp only[qj];omega,show c+(y::r).length=c+1+r.length by simp only[qj];omega];exact this
theorem PDk.spend {s:PD} {c:Nat} (H:PDk s c) (key h:Int) (ms:Li):PDk ⟨s.o.map (spO key h ms),s.p⟩ c:=by
 refine⟨H.p0,H.pc,by simpa using H.ol,fun x hx=> ?_⟩;obtain⟨y,hy,rfl⟩:=qau.1 hx;have:=H.op y hy;unfold spO;split
 ·exact this
 ·exact this
theorem decW_NR (b:Li):(∀y∈(decW b).1.wA,NR y)/\(decW b).1.wA.length<=4:=by
 rcases k7j b with⟨w,hw,e⟩|e
 ·rw[e];have hv:=k1r.1 hw.v;exact⟨hw.r.o,hv.2.1⟩
 ·rw[e];exact⟨(fun y hy=>by cases hy),qaq _⟩
theorem pdT_ok {key h:Int} {t:wy} {s:PD} {c:Nat} (H:PDk s c):PDk (pdT key h t s) (c+4):=by obtain⟨h1,h2⟩:=decW_NR t.wh;have:=pdO_ok (key:=key) (h:=h) _ _ _ c h1 (H.spend key h t.wE);exact⟨this.p0,by have:s.p+((decW t.wh).1.wA.length:Int)<=((c+(decW t.wh).1.wA.length:Nat):Int):=this.pc;show s.p+((decW t.wh).1.wA.length:Int)<=((c+4:Nat):Int);omega,this.ol,this.op⟩
theorem rInp_ge {b:wv} {an:Int}:∀(l:List wN) (u:List wAs),u.length<=(rInp b an l u).u.length
 |[],u=>by simp[rInp]
 |x::r,u=>by
  unfold rInp;split
  ·exact rInp_ge r u
  ·split
   ·simp
   ·split
    ·simp
    ·have:=rInp_ge (b:=b) (an:=an) r (u++[useOf x]);simp only[qh,qj,qt]at this;omega
theorem decW_4 (b:Li):(decW b).1.Ins.length<=4/\(decW b).1.wA.length<=4:=by
 rcases k7j b with⟨w,hw,e⟩|e
 ·rw[e];have hv:=k1r.1 hw.v;exact⟨hv.1,hv.2.1⟩
 ·rw[e];exact⟨qaq _,qaq _⟩
theorem khh (b:wv) (t:wy):(rexT b t).b.wAu=b.wAu/\b.wAJ.length<=(rexT b t).b.wAJ.length/\(rexT b t).b.wAJ.length<=b.wAJ.length+4/\(rexT b t).b.wl.length<=b.wl.length+4:=by
 obtain⟨h1,h2⟩:=decW_4 t.wh;have h3:=k6r (b:=b) (an:=t.wM) (decW t.wh).1.Ins b.wAJ;have h4:=rInp_ge (b:=b) (an:=t.wM) (decW t.wh).1.Ins b.wAJ;unfold rexT rexS;split
 ·exact⟨rfl,qab _,qcp _ _,qcp _ _⟩
 ·split
  ·exact⟨rfl,h4,(by show(rInp b t.wM (decW t.wh).1.Ins b.wAJ).u.length<=_;omega),qcp _ _⟩
  ·exact⟨rfl,h4,(by show(rInp b t.wM (decW t.wh).1.Ins b.wAJ).u.length<=_;omega),(by simp only[qh];omega)⟩
theorem wtL_ix {l:List wU} {i k:Nat} (hi:i<l.length) (hk:k<l[i].Txs.length):(wtL (l.take i)).length+k<(wtL l).length/\ix (wtL l) (((wtL (l.take i)).length+k:Nat):Int)=wtOf l[i].Txs[k]:=by
 have e:wtL l=wtL (l.take i)++(l[i].Txs.map wtOf++wtL (l.drop (i+1))):=by
  conv=>lhs;rw[<-qbh i l,qo hi]
  unfold wtL;rw[qbo,qbb]
 have hl:(wtL (l.take i)).length+k<(wtL l).length:=by rw[e];simp only[qh,qm];omega
 refine⟨hl,?_⟩;rw[ix_get _ _ hl];have:(wtL l)[(wtL (l.take i)).length+k]? =some (wtOf l[i].Txs[k]):=by rw[e,qbi (qcp _ _),Nat.add_sub_cancel_left,qaw (by simpa using hk),qp,qd hk];rfl
 rw[qd hl]at this;exact Option.some.inj this
theorem kq1 {t:List wy} {k:Nat} (h:k<t.length):outN (t.take (k+1))=outN (t.take k)+t[k].wA.length:=by unfold outN;rw[qr h,qbg,List.sum_append];simp
theorem klo {l:List wU} {i:Nat} (h:i<l.length):(wtL (l.take (i+1))).length=(wtL (l.take i)).length+l[i].Txs.length:=by rw[qr h];unfold wtL;rw[qbo];simp
structure RJ (d H:Int) (T:List wy) (n0 c l sz:Nat) (G:AuS) (n:Int) (o:wK) (b:wv) (k:Nat):Prop where
 le:k<=T.length
 g:rtxs H k (T.drop k) ⟨b,o⟩=G
 sz:b.wAu.length=sz
 op:o.wBS=0
 k:o.wT=0->AuSk ⟨b,o⟩ (c+k) (l+outN (T.take k))/\b.wD=d/\n=((n0+k:Nat):Int)
theorem RJ.step {d H:Int} {T:List wy} {n0 c l sz:Nat} {G:AuS} {n:Int} {o:wK} {b:wv} {k:Nat} (h:RJ d H T n0 c l sz G n o b k) (hk:k<T.length) (h0:o.wT=0):
  RJ d H T n0 c l sz G (n+1) (rstep H (k:Int) T[k] ⟨b,o⟩).o (rstep H (k:Int) T[k] ⟨b,o⟩).b (k+1):=by
 obtain⟨k1,k2,k3⟩:=h.k h0;have hg:=h.g;rw[qo hk]at hg;unfold rtxs at hg;rw[qe (by show¬o.wT≠0;rw[h0];exact fun h=>h rfl)]at hg;have hS:=khh b T[k];refine⟨hk,hg,?_,?_,fun hz=> ?_⟩
 ·unfold rstep;split
  ·exact(congrArg List.length hS.1).trans h.sz
  ·exact(congrArg List.length hS.1).trans h.sz
 ·unfold rstep;split
  ·exact h.op
  ·exact h.op
 ·by_cases hq:(rexT b T[k]).f.wAW=0
  ·obtain⟨s1,_⟩:=k1.step (H:=H) (k:=(k:Int)) hq;refine⟨?_,?_,by rw[k3];push_cast;omega⟩
   ·rw[kq1 hk,show l+(outN (T.take k)+T[k].wA.length)=l+outN (T.take k)+T[k].wA.length by omega];exact s1
   ·have e:rstep H (k:Int) T[k] ⟨b,o⟩=rsm (rexT b T[k]).b o:=qe (by show¬0<(rexT b T[k]).f.wAW;omega);rw[e];exact(k1.b.step hq).2.2.trans k2
  ·have hp:=ksk b T[k];have e:rstep H (k:Int) T[k] ⟨b,o⟩=rsm (setU (rexT b T[k]).b ((rexT b T[k]).b.wAJ.take o.wAU.toNat)) (fltR o (rexT b T[k]).f H (k:Int)):=qf (by show 0<(rexT b T[k]).f.wAW;omega);rw[e]at hz;exact(hq hz).elim
theorem RJ.fin {d H:Int} {T:List wy} {n0 c l sz:Nat} {G:AuS} {n:Int} {o:wK} {b:wv} {k:Nat} (h:RJ d H T n0 c l sz G n o b k) (he:o.wT≠0∨k=T.length):G=⟨b,o⟩/\(o.wT=0->AuSk ⟨b,o⟩ (c+T.length) (l+outN T)/\b.wD=d/\n=((n0+T.length:Nat):Int)):=by
 have hg:=h.g;rcases he with he|he
 ·rw[khk he]at hg;exact⟨hg.symm,fun h=>(he h).elim⟩
 ·have hk:=h.k;rw[he,qbs]at hg;rw[he,qbd]at hk;exact⟨hg.symm,hk⟩
structure RI (p1:wP) (p2:List wU) (G:AuB) (n:Int) (o:wK) (b:wv) (m:wAZ) (i:Nat) (s:PS):Prop where
 le:i<=p2.length
 me:m=mOf s
 P:PI s (5*i) 0
 pl:s.p.length=i
 d:s.R.wD=p1.wD
 g:rbks p1.wd i (p2.drop i) m ⟨b,o⟩=G
 sz:b.wAu.length=i+1
 op:o.wBS=0
 k:o.wT=0->AuSk ⟨b,o⟩ (4*i) s.l.length/\b.wD=p1.wD/\n=((wtL (p2.take i)).length:Int)
theorem RI.start {p0:wAr} {p1:wP} {p2:List wU} (hr:rulesE p1=0) (h0:0<=p1.wd) (h6:p1.wD<=6) (hi:p0.wAz=false):RI p1 p2 (rbkA p0 p1 p2) 0 zeroR (bk0 p0 p1) (mOf (newS p1)) 0 (newS p1):=by
 have hP:=new_PI hr h0;refine⟨qaq _,rfl,hP,rfl,rfl,rfl,rfl,rfl,fun _=>⟨⟨⟨hi,hP.d1,h6,?_,?_,fun z hz=> ?_,qaq _,fun y hy=>(by cases hy),qaq _⟩,rfl,rfl⟩,rfl,rfl⟩⟩
 ·have:=hP.rl;show(newS p1).r.length<=1000;rw[this];show 0+1<=1000;omega
 ·exact hP.rl
 ·rw[qal.1 hz];exact⟨qcc _,qck _,qck _⟩
theorem RI.inner {p1:wP} {p2:List wU} {G:AuB} {n:Int} {o:wK} {b:wv} {m:wAZ} {i:Nat} {s:PS} (h:RI p1 p2 G n o b m i s) (hi:i<p2.length) (R:Int):
  RJ p1.wD ((i:Int)+1) p2[i].Txs (wtL (p2.take i)).length (4*i) s.l.length (i+1) (rtxs ((i:Int)+1) 0 p2[i].Txs ⟨b,minR o R⟩) n (minR o R) b 0:=
 ⟨qaq _,rfl,h.sz,h.op,fun hz=>by
  obtain⟨k1,k2,k3⟩:=h.k hz;exact⟨⟨k1.b,k1.n,k1.sp⟩,k2,k3⟩⟩
theorem RI.err {p1:wP} {p2:List wU} {G:AuB} {n:Int} {o:wK} {b:wv} {m:wAZ} {i:Nat} {s:PS} (h:RI p1 p2 G n o b m i s) (hi:i<p2.length) (he:(rapply m p2[i]).e≠0):G.e=(rapply m p2[i]).e:=by have hg:=h.g;rw[qo hi]at hg;unfold rbks at hg;rw[qf he]at hg;rw[<-hg]
theorem RI.next {p1:wP} {p2:List wU} {G:AuB} {n n' :Int} {o o' :wK} {b b' :wv} {m:wAZ} {i k:Nat} {s:PS} (h:RI p1 p2 G n o b m i s) (hl:BLk p2) (hi:i<p2.length) (he:(rapply m p2[i]).e=0)
  (hj:RJ p1.wD ((i:Int)+1) p2[i].Txs (wtL (p2.take i)).length (4*i) s.l.length (i+1) (rtxs ((i:Int)+1) 0 p2[i].Txs ⟨b,minR o p1.wd⟩) n' o' b' k) (hk:o'.wT≠0∨k=p2[i].Txs.length):
  RI p1 p2 G n' o' (endB b' (rapply m p2[i]).m.wg ((rapply m p2[i]).m.wAO.length:Int)) (rapply m p2[i]).m (i+1) (applyS s p2[i]).s:=by
 have hb:=qah hi;have hb1:=hl.r _ hb;have h4:=hl.tl _ hb;have hln:=hl.len;have ea:=k9h h.P (b:=p2[i]) qqo hb1;have hg:=h.g;rw[qo hi]at hg;unfold rbks at hg;rw[qe (fun hh=>hh he)]at hg;obtain⟨f1,f2⟩:=hj.fin hk;have hm:=h.me;subst hm;rw[ea]at he hg ⊢;have hP:=(k74 h.P qqo hb1 he).mono (d:=5*(i+1)) qqo;have hz:=(k31 he).2.1;have hR:=apply_R h.P qqo hb1;have hpl:=h.pl;have hrl:=hP.rl;have hll:=hP.ll;have hal:=apply_l he;refine⟨hi,rfl,hP,by omega,by rw[hR];exact h.d,?_,?_,hj.op,fun hz0=> ?_⟩
 ·rw[<-hg];unfold rbl;rw[f1]
 ·show(b'.wAu++[_]).length=_;rw[qh,hj.sz];rfl
 ·obtain⟨q1,q2,q3⟩:=f2 hz0;have hd:(applyS s p2[i]).s.R.wD=b'.wD:=by rw[hR,q2];exact h.d
  have hn:=q1.n;have hn:b'.wl.length=s.l.length+outN p2[i].Txs:=hn;rw[hd]at hll;refine⟨⟨⟨q1.b.i,q1.b.d1,q1.b.d2,?_,?_,fun z hz=> ?_,?_,q1.b.nr,?_⟩,?_,q1.sp⟩,q2,?_⟩
  ·show(applyS s p2[i]).s.r.length<=1000;omega
  ·show(applyS s p2[i]).s.r.length=(b'.wAu++[_]).length;rw[qh,hj.sz,qcg];omega
  ·have hz:z∈b'.wAu++[((applyS s p2[i]).s.l.length:Int)]:=hz;rcases qak.1 hz with hz|hz
   ·exact q1.b.z z hz
   ·rw[qal.1 hz];exact⟨qck _,(by show((applyS s p2[i]).s.l.length:Int)<=b'.wl.length;omega),(by show((applyS s p2[i]).s.l.length:Int)<=((2^b'.wD.toNat:Nat):Int);omega)⟩
  ·have:=q1.b.nl;show b'.wl.length<=_;have:b'.wl.length<=_:=this;omega
  ·have:=q1.b.ul;show b'.wAJ.length<=_;have:b'.wAJ.length<=_:=this;omega
  ·show b'.wl.length=_;omega
  ·rw[q3,klo hi]
theorem kny {l:List wB} {k:Nat} (h:k<l.length):sumBal (l.take (k+1))=u64.wrap (sumBal (l.take k)+l[k].wb):=by unfold sumBal;rw[qr h,List.foldl_append];rfl
def apS (key h:Int) (y:wJ) (p:Int) (o:List wc) (n:Nat):List wc:=if adF key y.wAg n<4 then o++[mkO y (adF key y.wAg n) p h]else o
theorem kte {key h:Int} {y:wJ} {p:Int} {o:List wc}:apS key h y p o 0=o:=qe (by show¬(4:Int)<4;decide)
theorem apS_no {key h:Int} {y:wJ} {p:Int} {o:List wc} {n:Nat} (hn:ownerS key (3-(n:Int))≠y.wAg):apS key h y p o (n+1)=apS key h y p o n:=by unfold apS;rw[adF,qe hn]
theorem apS_yes {key h:Int} {y:wJ} {p:Int} {o:List wc} {n:Nat} (hn:ownerS key (3-(n:Int))=y.wAg):apS key h y p o (n+1)=o++[mkO y (3-(n:Int)) p h]:=by unfold apS;rw[adF,qf hn,qf qqo]
theorem kk2 {key h:Int} {y:wJ} {r:List wJ} {p:Int} {o:List wc}:pdO key h (y::r) p o=pdO key h r (p+1) (apS key h y p o 4):=rfl
theorem apS_ok {key h p:Int} {y:wJ} {o:List wc} {c:Nat} (hy:NR y) (H:PDk ⟨o,p⟩ c):PDk ⟨apS key h y p o 4,p+1⟩ (c+1):=pdO_ok (key:=key) (h:=h) [y] p o c (fun x hx=>by rw[qal.1 hx];exact hy) H
def spL (key h:Int) (ms:Li) (o:List wc) (j:Nat):List wc:=(o.take j).map (spO key h ms)++o.drop j
theorem spL_len {key h:Int} {ms:Li} {o:List wc} {j:Nat}:(spL key h ms o j).length=o.length:=by unfold spL;simp only[qh,qm,qu,qan];omega
theorem spL_ix {key h:Int} {ms:Li} {o:List wc} {j:Nat} (hj:j<o.length):ix (spL key h ms o j) (j:Int)=o[j]:=by rw[ix_get _ _ (by rw[spL_len];exact hj)];unfold spL;rw[List.getElem_append_right qqm];simp only[qm,qu,List.getElem_drop];congr 1;omega
theorem kd2 {key h:Int} {ms:Li} {o:List wc} {j:Nat} (hj:j<o.length):spL key h ms o (j+1)=(spL key h ms o j).set j (spO key h ms o[j]):=by
 have e:(((o.take j).map (spO key h ms))).length=j:=by simp;omega
 unfold spL;rw[qr hj,qbg,qw,qo hj,List.set_append_right _ _ qqo,e,Nat.sub_self];rfl
theorem kkk {key h:Int} {ms:Li} {o:List wc} {j:Nat} (hj:j<o.length) (hs:spO key h ms o[j]=o[j]):spL key h ms o (j+1)=spL key h ms o j:=by have:=spL_ix (key:=key) (h:=h) (ms:=ms) hj;rw[ix_get _ _ (by rw[spL_len];exact hj)]at this;rw[kd2 hj,hs,<-this];exact List.set_getElem_self _
theorem spL_all {key h:Int} {ms:Li} {o:List wc}:spL key h ms o o.length=o.map (spO key h ms):=by simp[spL]
theorem PDk.mono {s:PD} {c d:Nat} (h:PDk s c) (hd:c<=d):PDk s d:=⟨h.p0,by have:=h.pc;omega,h.ol,h.op⟩
theorem PDk.start:PDk ⟨[],0⟩ 0:=⟨qcc _,qcc _,qcc _,fun x hx=>by cases hx⟩
theorem auGo_h:∀(l:List wU) (s:PS),(auGo l s).e=0->∀(i:Nat) (hi:i<l.length),l[i].wO=(s.p.length:Int)+1+i
 |[],_,_,i,hi=>by cases hi
 |b::r,s,he,i,hi=>by
  unfold auGo at he;split at he
  ·rename_i h1;have hz:=k31 h1;cases i with
   |zero=>exact hz.1.trans qqs
   |succ i=>
    have:=auGo_h r _ he i (by simpa using hi);rw[List.getElem_cons_succ,this,hz.2.1]
    push_cast
    omega
  ·rename_i h1;exact(h1 he).elim
theorem aud_h {r:wP} {l:List wU} (he:(audS false r l).2=0):∀(i:Nat) (hi:i<l.length),l[i].wO=(i:Int)+1:=by
 unfold audS at he;split at he
 ·rename_i h1;exact(h1 he).elim
 ·rename_i h1;split at he
  ·cases he
  ·unfold exmS at he;rw[qf (qz h1)]at he;split at he
   ·rename_i h3;intro i hi;have:=auGo_h l (newS r) h3 i hi;rw[this];show(0:Int)+1+i=i+1;omega
   ·rename_i h3;exact(h3 he).elim
def aPd (r:wP) (seed:Int) (l:List wU):List wc×Int:=if(audS false r l).2≠0 then([],(audS false r l).2)else if(audS false r l).1.wT=1 then([],10)else(paidS seed l,0)
theorem pdX_ok {key h:Int}:∀(l:List wy) (s:PD) (c:Nat),PDk s c->PDk (pdX key h l s) (c+4*l.length)
 |[],_,_,H=>H
 |t::r,s,c,H=>by rw[qj,show c+4*(r.length+1)=c+4+4*r.length by omega];exact pdX_ok r _ _ (pdT_ok H)
theorem pdL_ok {key:Int}:∀(l:List wU) (s:PD) (c:Nat),PDk s c->(∀b∈l,b.Txs.length<=4)->PDk (pdL key l s) (c+16*l.length)
 |[],_,_,H,_=>H
 |b::r,s,c,H,h=>by rw[qj,show c+16*(r.length+1)=c+16+16*r.length by omega];have h4:=h b qqs;exact pdL_ok r _ _ ((pdX_ok b.Txs s c H).mono qqo) fun y hy=>h y (qbz b hy)
theorem kqf {seed:Int} {l:List wU} (h:BLk l):(paidS seed l).length<=1000000:=by have H:=pdL_ok (key:=hashS 8 [seed]) l _ _ PDk.start h.tl;have h1:=H.ol;have h2:=H.pc;have:=h.len;show(pdL (hashS 8 [seed]) l ⟨[],0⟩).o.length<=_;omega
theorem spO_rho (key h:Int) (ms:Li) (x:wc):(spO key h ms x).wY=x.wY:=by unfold spO;split<;>rfl
def mkL (key:Int) (o:List wc):Li:=o.map fun x=>markV key x.wY
theorem mkL_sp (key h:Int) (ms:Li) (o:List wc):mkL key (o.map (spO key h ms))=mkL key o:=by unfold mkL;rw[qbq];exact qap fun x _=>by show markV key (spO key h ms x).wY=_;rw[spO_rho]
theorem mkL_len (key:Int) (o:List wc):(mkL key o).length=o.length:=by simp[mkL]
theorem kqp (r:wP) (seed:Int) (l:List wU):((aPd r seed l).2≠0->(aPd r seed l).1=[])/\((aPd r seed l).2=0->(audS false r l).2=0/\(aPd r seed l).1=paidS seed l)/\(aPd r seed l).2=if(audS false r l).2≠0 then(audS false r l).2 else if(audS false r l).1.wT=1 then 10 else 0:=by unfold aPd;by_cases h1:(audS false r l).2=0<;>by_cases h2:(audS false r l).1.wT=1<;>simp[h1,h2]
theorem wtOf_o (t:wy):(wtOf t).wBO=(decW t.wh).1.wA:=rfl
theorem k9y.tr {t:wy} (h:k9y t):TR t/\t.wA.length<=9223372036854775807:=⟨⟨h.wM,h.wE.2,fun x hx=>let y:=h.wA.2 x hx;⟨y.wm,y.wAm,y.wAl,y.wAF.2⟩,h.wH,h.wL,h.Fee,h.wQ,h.wS,by have:=h.wAc;omega,h.wh.2⟩,h.wA.1⟩
theorem kak {p0:wP} {p1:Int} {p2:List wU} (h0:kcb p0) (h1:0<=p1/\p1<18446744073709551616) (h2:p2.length<=9223372036854775807/\∀y∈p2,k4j y):0<=p0.wd/\U64 p1/\(∀b∈p2,U64 b.wBP/\∀t∈b.Txs,TR t)/\p2.length<=9223372036854775807/\∀b∈p2,b.Txs.length<=9223372036854775807/\∀t∈b.Txs,t.wA.length<=9223372036854775807:=⟨h0.wd.1,h1,fun b hb=>⟨(h2.2 b hb).wBP,fun t ht=>(((h2.2 b hb).Txs.2 t ht).tr).1⟩,h2.1,fun b hb=>⟨(h2.2 b hb).Txs.1,fun t ht=>(((h2.2 b hb).Txs.2 t ht).tr).2⟩⟩
noncomputable def k96:Ct:= .t (gk 30 [.one (.ptr 0 0)] yK (.one (.one (.d (.bool))))) yT [.bool,.bool,yqu,yqi,.sl (.st 4),.sl (.str),.sl yqi,.sl (.str),.sl (.sl yqu),.sl (.str),.sl (.bool)] [] fun(Aa:Bool) (Ab Ad:Int) (Ac:List wG) (w1k:Lb) (w1v:Li) (w2k:Lb) (w2v:List (Li)) (w3k:Lb) (w3v:Lo)=>(Aa,Aa,Ab,Ad,Ac,w1k,w1v,w2k,w2v,w3k,w3v,())
theorem kam:k96.O:=ptv Bs Tryz.func30 .no c0 (Q:=∀(Aa:Bool) (Ab Ad:Int) (Ac:List wG) (w1k:Lb) (w1v:Li) (w2k:Lb) (w2v:List (Li)) (w3k:Lb) (w3v:Lo),∀r0:Bool,Aa=r0->∀Az:Bool,Aa=Az->∀A0:Int,Ab=A0->∀A7:Int,Ad=A7->∀d0_3:List wG,Ac=d0_3->∀e1k:Lb,w1k=e1k->∀e1v:Li,w1v=e1v->∀e2k:Lb,w2k=e2k->∀e2v:List (Li),w2v=e2v->∀e3k:Lb,w3k=e3k->∀e3v:Lo,w3v=e3v-> 
Aa=r0/\Aa=Az/\Ab=A0/\Ad=A7/\Ac=d0_3/\w1k=e1k/\w1v=e1v/\w2k=e2k/\w2v=e2v/\w3k=e3k/\w3v=e3v)<|by
 rintro Aa Ab Ad Ac w1k w1v w2k w2v w3k w3v;repeat rintro _ rfl
 exact(by repeat' first|apply qaa|exact rfl|exact ql)
noncomputable def knj:Ct:= .g (gk 165 [.one (.ptr 0 0),.one (zqu)] yI1 (.one (.one (.d (.bool))))) [yqu,.sl yqu,.sl (.bool)] [.bool,.sl yqu,.sl (.bool)] [] fun(p1:Int) (w1k:Li) (w1v:Lo)=>(w1v=trs w1k,(decide (p1∈w1k):Bool),w1k,w1v,())
theorem kov:knj.O:=prv Bs Tryz.func165 .no c0 (Q:=∀(p1:Int) (w1k:Li) (w1v:Lo),(w1v=trs w1k)->∀r0:Bool,(decide (p1∈w1k))=r0->∀e1k:Li,w1k=e1k->∀e1v:Lo,w1v=e1v-> 
w1k.length=w1v.length/\let v1:Bool:=mVal (BEq.beq p1) w1k w1v false
v1=r0/\w1k=e1k/\w1v=e1v)<|by rintro p1 w1k w1v h _ rfl _ rfl _ rfl;subst h;exact⟨by simp[trs],sVal _ _,rfl,rfl⟩
noncomputable def kah:Ct:= .b (gk 164 [.one (.ptr 0 0)] yG (.one (.one (.view 3)))) yN [yqi,yqi,yqi,yqi,yqi,yqi,yqi,yqu,yqi,yqi,yqu,yqi,yqi,.sl yqu,.sl (.st 9),yqu,.sl yqu,.sl yqu,.sl (.st 10),.sl yqu,.sl (.bool)] fun(Aa Ab Ad Ac Am An Ai Ak Al Aj Af:Int) (Ag:Li) (Ae:List wB) (Ah:Int) (w1 w3:Li) (w4:List wAB) (w5k:Li) (w5v:Lo)=>((1<=Ai/\Ai<=100)/\w3.length<=1000000,(),fun _=>((((w3.length-Ai.toNat:Nat):Int):Int),(((w3.length-(w3.length-Ai.toNat):Nat):Int):Int),Aa,Ab,Ad,Ac,Am,An,Ai,Ak,Al,Aj,Af,Ag,Ae,Ah,w1,w3,w4,w5k,w5v,()))
theorem kc9:kah.O:=pbv Bs Tryz.func164 .no c0 (Q:=∀(Aa Ab Ad Ac Am An Ai Ak Al Aj Af:Int) (Ag:Li) (Ae:List wB) (Ah:Int) (w1 w3:Li) (w4:List wAB) (w5k:Li) (w5v:Lo),((1<=Ai/\Ai<=100)/\w3.length<=1000000)->∀R:Unit,()=R-> 
let v1:Int:=i64.wrap ((w3.length:Int)-(if 0<Ai then Ai else 0))
(0<=(if 0<v1 then v1 else 0))/\(if 0<v1 then v1 else 0)<=(w3.length:Int)/\lz w4/\lz w3/\lz w1/\(((if 0<v1 then v1 else 0).toNat:Nat):Int)=(((w3.length-Ai.toNat:Nat):Int):Int)/\((w3.length-(if 0<v1 then v1 else 0).toNat:Nat):Int)=(((w3.length-(w3.length-Ai.toNat):Nat):Int):Int)/\Aa=Aa/\Ab=Ab/\Ad=Ad/\Ac=Ac/\Am=Am/\An=An/\Ai=Ai/\Ak=Ak/\Al=Al/\Aj=Aj/\Af=Af/\Ag=Ag/\Ae=Ae/\Ah=Ah/\w1=w1/\w3=w3/\w4=w4/\w5k=w5k/\w5v=w5v)<|by
 rintro Aa Ab Ad Ac Am An Ai Ak Al Aj Af Ag Ae Ah w1 w3 w4 w5k w5v h R hR;obtain⟨⟨h1,h2⟩,h3⟩:=h;refine ?_;intro v1;have hv:v1=(w3.length:Int)-Ai:=by show i64.wrap _=_;rw[qf (show 0<Ai by omega),km _ qqo qqo]
 have e:(if 0<v1 then v1 else 0)=((w3.length-Ai.toNat:Nat):Int):=by rw[hv];split<;>omega
 rw[e,qx];exact⟨by omega,by omega,rfl,rfl,rfl,rfl,rfl,rfl,rfl,rfl,rfl,rfl,rfl,rfl,rfl,rfl,rfl,rfl,rfl,rfl,rfl,rfl,rfl,rfl,rfl,rfl⟩
noncomputable def ki5:Ct:= .tp 231 [yqu] [.bool] [] fun(p0:Int)=>(false,())
theorem kkv:ki5.O:=qtv Bs Tryz.func231 .no c0 (Q:=∀(p0:Int),∀r0:Bool,(false:Bool)=r0-> 
(p0 !=p0)=r0)<|by rintro p0 _ rfl;exact qqs
noncomputable def ke7:Ct:= .tp 225 [yqu,yqu] [yqi] [] fun(p0 p1:Int)=>((cmp3 p0 p1:Int),())
theorem kga:ke7.O:=qtv Bs Tryz.func225 .no (kkv.c c0) (Q:=∀(p0 p1:Int),∀r0:Int,cmp3 p0 p1=r0-> 
(false=true->
(false=true->
0=r0)/\
(false=false->
(-1)=r0))/\
(false=false->
(false=true->
1=r0)/\
(false=false->
(decide (p0<p1)=true->
(-1)=r0)/\
(decide (p0<p1)=false->
(decide (p1<p0)=true->
1=r0)/\
(decide (p1<p0)=false->
0=r0)))))<|by rintro p0 p1 _ rfl;refine⟨fun e=>(by cases e),fun _=>⟨fun e=>(by cases e),fun _=> ?_⟩⟩;simp only[qai,decide_eq_false_iff_not];unfold cmp3;exact⟨fun h=>by simp[h],fun h=>⟨fun h2=>by simp[h,h2],fun h2=>by simp[h,h2]⟩⟩
noncomputable def k44:Ct:= .tp 224 [.st 9,yqu] [yqi] [] fun(p0:wB) (p1:Int)=>((cmp3 p0.ID p1:Int),())
theorem k4q:k44.O:=qtv Bs Tryz.func224 .no (kga.c c0) (Q:=∀(p0:wB) (p1:Int),∀r0:Int,cmp3 p0.ID p1=r0-> 
(cmp3 p0.ID p1)=r0)<|by rintro p0 p1 _ rfl;exact rfl
noncomputable def k3s:Ct:= .g (gk 223 [.one (.d (.sl (.st 9))),.one (zqu),.one (.k (.fn 224))] [] (.tup [.one (zqi),.one (.d (.bool))])) [.sl (.st 9),yqu] [yqi,.bool] [] fun(p0:List wB) (p1:Int)=>(Srt p0/\p0.length<4611686018427387904,((lb p0 p1:Int):Int),(fnd p0 p1:Bool),())
theorem k3x:k3s.O:=prv Bs Tryz.func223 (.r 2 (.nd [] (.lp [] ⟨[],[],[9,10],[.one (zqi),.one (zqi)],[]⟩ .no) [] .no)) (k4q.c c0) (Q:=∀(p0:List wB) (p1:Int),(Srt p0/\p0.length<4611686018427387904)->∀r0:Int,(lb p0 p1:Int)=r0->∀r1:Bool,fnd p0 p1=r1-> 
∃(I1:Int->Int->Prop) (M1:Int->Int->Nat),I1 0 (p0.length:Int)/\∀b1 f1,(I1 b1 f1->
(decide (b1<f1)=true->
let v2:Int:=u64.wrap (i64.wrap (b1+f1))
(0<=i64.wrap (ishr .u64 v2 1))/\i64.wrap (ishr .u64 v2 1)<(p0.length:Int)/\let r3:Int:=(cmp3 (ix p0 (i64.wrap (ishr .u64 v2 1))).ID p1)
(decide (r3<0)=true->
let v4:Int:=i64.wrap ((i64.wrap (ishr .u64 v2 1))+1)
I1 v4 f1/\M1 v4 f1<M1 b1 f1)/\
(decide (r3<0)=false->
I1 b1 (i64.wrap (ishr .u64 v2 1))/\M1 b1 (i64.wrap (ishr .u64 v2 1))<M1 b1 f1))/\
(decide (b1<f1)=false->
(decide (b1<(p0.length:Int))=true->
(0<=b1)/\b1<(p0.length:Int)/\b1=r0/\((cmp3 (ix p0 b1).ID p1)==0)=r1)/\
(decide (b1<(p0.length:Int))=false->
b1=r0/\false=r1))))<|by
 rintro p0 p1 h _ rfl _ rfl;obtain⟨hs,hl⟩:=h;refine(⟨(fun a b=>∃i j:Nat,a=(i:Int)/\b=(j:Int)/\i<=j/\j<=p0.length/\(∀k (h:k<p0.length),k<i->p0[k].ID<p1)/\(∀k (h:k<p0.length),j<=k->p1<=p0[k].ID)),(fun a b=>(b-a).toNat),⟨0,p0.length,rfl,rfl,by omega,by omega,fun k h hk=>by omega,fun k h hk=>by omega⟩,?_⟩);rintro _ _ ⟨i,j,rfl,rfl,hij,hj,h1,h2⟩;refine⟨fun hlt=> ?_,fun hlt=> ?_⟩
 ·have hlt' :i<j:=by have:=qb hlt;omega
  intro v2;have e:i64.wrap (ishr .u64 v2 1)=(((i+j)/2:Nat):Int):=mid_eq i j qqo;rw[e];have hm:(i+j)/2<p0.length:=by omega
  rw[ix_get _ _ hm];refine⟨by omega,by omega,fun hc=> ?_,fun hc=> ?_⟩
  ·have hc:=cmp3_lt.1 (qb hc);refine⟨⟨(i+j)/2+1,j,inc_i64 _ qqo,rfl,by omega,hj,fun k h hk=> ?_,h2⟩,?_⟩
   ·rcases qar k ((i+j)/2)with h5|h5
    ·have:=hs _ _ h5 hm;omega
    ·have:k=(i+j)/2:=by omega
     subst this;exact hc
   ·rw[inc_i64 _ qqo];(dsimp only;omega)
  ·have hc:¬p0[(i+j)/2].ID<p1:=fun hh=>qc hc (cmp3_lt.2 hh);refine⟨⟨i,(i+j)/2,rfl,rfl,by omega,by omega,h1,fun k h hk=> ?_⟩,by(dsimp only;omega)⟩;rcases qar ((i+j)/2) k with h5|h5
   ·have:=hs _ _ h5 h;omega
   ·have:k=(i+j)/2:=by omega
    subst this;omega
 ·have hij' :i=j:=by have:=qc hlt;omega
  subst hij';have hb:lb p0 p1=i:=lb_eq p0 p1 i hj h1 (fun h=>h2 i h qqo);refine⟨fun hi=> ?_,fun hi=> ?_⟩
  ·have hi:i<p0.length:=by have:=qb hi;omega
   refine⟨by omega,by omega,by rw[hb],?_⟩;unfold fnd;rw[hb,ix_get _ _ hi,qd hi];show((cmp3 p0[i].ID p1)==0)=decide (p0[i].ID=p1);rw[Bool.eq_iff_iff];simp[cmp3_eq]
  ·have hi:¬i<p0.length:=by have:=qc hi;omega
   refine⟨by rw[hb],?_⟩;unfold fnd;rw[hb,qfd qqo]
noncomputable def ked:Ct:= .gp 206 [.st 15,yqu] [yqi,.bool] [] fun(p0:wAN) (p1:Int)=>(Srt p0.wF/\p0.wF.length<4611686018427387904,((lb p0.wF p1:Int):Int),(fnd p0.wF p1:Bool),())
theorem k6d:ked.O:=qrv Bs Tryz.func206 .no (k3x.c c0) (Q:=∀(p0:wAN) (p1:Int),(Srt p0.wF/\p0.wF.length<4611686018427387904)->∀r0:Int,(lb p0.wF p1:Int)=r0->∀r1:Bool,fnd p0.wF p1=r1-> 
(Srt p0.wF/\p0.wF.length<4611686018427387904)/\(lb p0.wF p1:Int)=r0/\(fnd p0.wF p1)=r1)<|by rintro p0 p1 h _ rfl _ rfl;exact⟨h,rfl,rfl⟩
noncomputable def kfy:Ct:= .bp 169 [.st 15,yqu] [yqu,yqu] fun(p0:wAN) (p1:Int)=>(Srt p0.wF/\p0.wF.length<4611686018427387904,getA p0.wF p1,fun R=>(R.wb,R.wS,()))
theorem k7z:kfy.O:=qbv Bs Tryz.func169 .no (k6d.c c0) (Q:=∀(p0:wAN) (p1:Int),(Srt p0.wF/\p0.wF.length<4611686018427387904)->∀R,getA p0.wF p1=R-> 
(Srt p0.wF/\p0.wF.length<4611686018427387904)/\((!(fnd p0.wF p1))=true->
0=R.wb/\0=R.wS)/\
((!(fnd p0.wF p1))=false->
(0<=(lb p0.wF p1:Int))/\(lb p0.wF p1:Int)<(p0.wF.length:Int)/\let v2:Int:=(ix p0.wF (lb p0.wF p1:Int)).wb
(0<=(lb p0.wF p1:Int))/\(lb p0.wF p1:Int)<(p0.wF.length:Int)/\let v3:Int:=(ix p0.wF (lb p0.wF p1:Int)).wS
v2=R.wb/\v3=R.wS))<|by
 rintro p0 p1 h R hR;subst hR;refine⟨h,fun hh=> ?_,fun hh=> ?_⟩
 ·have hf:fnd p0.wF p1=false:=by simpa using hh
  rw[getA_no h.1 hf];exact⟨rfl,rfl⟩
 ·have hf:fnd p0.wF p1=true:=by simpa using hh
  obtain⟨hb,_⟩:=k4w hf;rw[getA_of h.1 hf hb,ix_get _ _ hb];exact⟨by omega,by omega,by omega,by omega,rfl,rfl⟩
noncomputable def k3v:Ct:= .g ⟨91,[.one (.d (.sl (.st 9)))],[],(.one (.one (.own 0))),[.tip (.st 9)],false⟩ [.sl (.st 9)] [.sl (.st 9)] [] fun(p0:List wB)=>(p0.length<=100000,p0,())
theorem k48:k3v.O:=prv Bs Tryz.func91 (.r 0 (.nd [] (.r 0 (.nd [] (.r 0 (.rt [.tok 2 (.st 9)])) [] .no)) [] .no)) c0 (Q:=∀(p0:List wB),(p0.length<=100000)->∀e0:List wB,p0=e0-> 
∀z4:Bool,(z4=true->p0=[])->(z4=true->
(([]:List wB)=([]:List wB))/\([]:List wB)=e0)/\
(z4=false->
(([]:List wB).length+p0.length)*24<=140737488355328/\([]:List wB).length+p0.length<=maxLen/\(([]:List wB)++p0=([]:List wB)++p0)/\([]:List wB)++p0=e0))<|by rintro p0 h _ rfl;exact fun z hz=>⟨fun h=>⟨rfl,(hz h).symm⟩,fun _=>⟨by simp;omega,by simp;unfold maxLen;omega,rfl,rfl⟩⟩
noncomputable def kfx:Ct:= .gp 171 [.st 15,.st 9] [.st 15] [] fun(p0:wAN) (p1:wB)=>(Srt p0.wF/\p0.wF.length<=1000,(wAN.mk (putA p0.wF p1):wAN),())
theorem k7s:kfx.O:=qrv Bs Tryz.func171 (.r 2 (.jn ⟨[3],[.tip (.st 9)],[7],[.one (.own 0)],[]⟩ [] (.jn ⟨[],[],[27],[.one (.d (.bool))],[]⟩ [] .no [] .no) [] (.jn ⟨[],[],[5],[.one (zqi)],[]⟩ [] .no [] .no))) (k6d.c (k48.c c0)) (Q:=∀(p0:wAN) (p1:wB),(Srt p0.wF/\p0.wF.length<=1000)->∀r0:wAN,(wAN.mk (putA p0.wF p1))=r0-> 
(Srt p0.wF/\p0.wF.length<4611686018427387904)/\(0<=(lb p0.wF p1.ID:Int))/\(lb p0.wF p1.ID:Int)<=(p0.wF.length:Int)/\let v1:List wB:=p0.wF.take (lb p0.wF p1.ID:Int).toNat
(v1.length<=100000)/\∀J1:(List wB)->Prop,(∀(b1:List wB),
(∀J3:Int->Prop,(∀(i1:Int),
((0<=i1)/\i1<=(p0.wF.length:Int)/\lz b1/\(b1.length+(p0.wF.drop i1.toNat).length)*24<=140737488355328/\b1.length+(p0.wF.drop i1.toNat).length<=maxLen/\b1++(p0.wF.drop i1.toNat)=r0.wF)->J3 i1)->
((fnd p0.wF p1.ID)=true->
let v2:Int:=i64.wrap ((lb p0.wF p1.ID:Int)+1)
J3 v2)/\
((fnd p0.wF p1.ID)=false->
J3 (lb p0.wF p1.ID:Int)))->J1 b1)->
∀J2:Bool->Prop,(∀(f1:Bool),
((f1=true->
lz v1/\(v1.length+[p1].length)*24<=140737488355328/\v1.length+[p1].length<=maxLen/\(v1++[p1]=v1++[p1])/\J1 (v1++[p1]))/\
(f1=false->
(v1=v1)/\J1 v1))->J2 f1)->
((p1.wb !=0)=true->
J2 true)/\
((p1.wb !=0)=false->
J2 (p1.wS !=0)))<|by
 rintro p0 p1 h _ rfl;obtain⟨hs,hl⟩:=h;have hlb:=lb_le p0.wF p1.ID;refine⟨⟨hs,by omega⟩,by omega,by omega,?_⟩;simp only[qx];refine⟨by simp;omega,fun J1 j1=> ?_⟩
 have hJ1:∀m:List wB,m=p0.wF.take (lb p0.wF p1.ID)++(if p1.wb≠0∨p1.wS≠0 then [p1]else [])->J1 m:=by
  intro m hm;have hml:m.length<=1001:=by rw[hm];simp only[qh,qu];split<;>simp<;>omega
  refine j1 _ fun J3 j3=> ?_
  have hJ3:∀n:Nat,n<=p0.wF.length->m++p0.wF.drop n=putA p0.wF p1->J3 (n:Int):=by
   intro n hn he;have:=(qan:(p0.wF.drop n).length=_);refine j3 _ ⟨by omega,by omega,by first|exact rfl|exact ql,?_,?_,?_⟩
   ·simp only[qx];omega
   ·simp only[qx];unfold maxLen;omega
   ·simp only[qx];exact he
  refine⟨fun hf=> ?_,fun hf=> ?_⟩
  ·obtain⟨hb,_⟩:=k4w hf;rw[inc_i64 _ qqo];refine hJ3 _ qqo ?_;rw[hm];unfold putA;rw[hf];rfl
  ·refine hJ3 _ qqo ?_;rw[hm];unfold putA;rw[hf];rfl
 intro J2 j2
 have hJ2:∀b:Bool,(b=true↔(p1.wb≠0∨p1.wS≠0))->J2 b:=by
  intro b hb;refine j2 _ ⟨fun e=> ?_,fun e=> ?_⟩
  ·have hlt:(p0.wF.take (lb p0.wF p1.ID)).length<=1000:=by rw[qu];omega
   refine⟨by first|exact rfl|exact ql,(len24 _ _ (qax hlt qqd)).1,(len24 _ _ (qax hlt qqd)).2,by first|exact rfl|exact ql,hJ1 _ ?_⟩;rw[qf (hb.1 e)]
  ·refine⟨by first|exact rfl|exact ql,hJ1 _ ?_⟩;rw[qe (fun hh=>by rw[hb.2 hh]at e;cases e)];exact(qcd _).symm
 refine⟨fun e=>hJ2 _ ?_,fun e=>hJ2 _ ?_⟩
 ·have:p1.wb≠0:=by simpa using e
  simp[this]
 ·have:p1.wb=0:=by simpa using e
  simp[this]
noncomputable def kco:Ct:= .gp 166 [.st 15,yqu,yqu,yqu] [.st 15,yqi] [] fun(p0:wAN) (p1 p2 p3:Int)=>(OkA p0.wF/\U64 p2/\U64 p3,(wAN.mk (debitA p0.wF p1 p2 p3).1:wAN),((debitA p0.wF p1 p2 p3).2:Int),())
theorem k5f:kco.O:=qrv Bs Tryz.func166 (.r 2 (.nd [] (.jn ⟨[],[],[27],[.one (.d (.bool))],[]⟩ [] .no [] .no) [] .no)) (k7z.c (k7s.c c0)) (Q:=∀(p0:wAN) (p1 p2 p3:Int),(OkA p0.wF/\U64 p2/\U64 p3)->∀r0:wAN,(wAN.mk (debitA p0.wF p1 p2 p3).1)=r0->∀r1:Int,((debitA p0.wF p1 p2 p3).2)=r1-> 
(Srt p0.wF/\p0.wF.length<4611686018427387904)/\((p2==0)=true->
([]:List wB)=r0.wF/\1=r1)/\
((p2==0)=false->
∀J1:Bool->Prop,(∀(b1:Bool),
((b1=true->
([]:List wB)=r0.wF/\20=r1)/\
(b1=false->
let v2:Bool:=decide (((getA p0.wF p1).wb)<p2)
(v2=true->
([]:List wB)=r0.wF/\15=r1)/\
(v2=false->
let v3:Int:=u64.wrap (((getA p0.wF p1).wb)-p2)
(Srt p0.wF/\p0.wF.length<=1000)/\let r4:List wB:=(putA p0.wF (wB.mk p1 v3 (u64.wrap (p3+1))))
r4=r0.wF/\0=r1)))->J1 b1)->
((p3 !=((getA p0.wF p1).wS))=true->
J1 true)/\
((p3 !=((getA p0.wF p1).wS))=false->
J1 (p3==18446744073709551615))))<|by
 rintro p0 p1 p2 p3 h _ rfl _ rfl;obtain⟨h,⟨ha,ha'⟩,hn,hn'⟩:=h;obtain⟨g1,g2⟩:=getA_ok h p1;refine⟨⟨h.1,by have:=h.2.1;omega⟩,fun hh=> ?_,fun hh J1 j=> ?_⟩
 ·have:p2=0:=by simpa using hh
  simp[debitA,this]
 have h0:p2≠0:=by simpa using hh
 have key:∀b:Bool,(b=true↔(p3≠(getA p0.wF p1).wS∨p3=18446744073709551615))->J1 b:=by
  intro b hb;refine j _ ⟨fun e=> ?_,fun e=> ?_⟩
  ·simp only[debitA,qe h0,qf (hb.1 e)];exact⟨by first|exact rfl|exact ql,by first|exact rfl|exact ql⟩
  ·have h1:¬(p3≠(getA p0.wF p1).wS∨p3=18446744073709551615):=fun hh=>by rw[hb.2 hh]at e;cases e
   simp only[debitA,qe h0,qe h1];refine⟨fun hh=> ?_,fun hh=> ?_⟩
   ·have:=qb hh;simp[this]
   ·have h2:=qc hh;simp only[qe h2];have:p3≠18446744073709551615:=fun e=>h1 (.inr e);rw[wrap_u64 _ qqo qqo,wrap_u64 (p3+1) qqo qqo];exact⟨⟨h.1,h.2.1⟩,rfl,by first|exact rfl|exact ql⟩
 refine⟨fun e=>key _ ?_,fun e=>key _ ?_⟩
 ·have:p3≠(getA p0.wF p1).wS:=by simpa using e
  simp[this]
 ·have:p3=(getA p0.wF p1).wS:=by simpa using e
  rw[this];simp
noncomputable def k8l:Ct:= .g (gk 35 [.one (.view 0),.one (zqu)] [.vec yqu] (.one (.one (zqi)))) [yqi,yqi,yqu,.sl yqu] [yqi,.sl yqu] [] fun(p0o p0n p1:Int) (w0:Li)=>(0<=p0o/\0<=p0n/\p0o.toNat+p0n.toNat<=w0.length/\w0.length<=1000000,(idxI ((w0.drop p0o.toNat).take p0n.toNat) p1:Int),w0,())
theorem kae:k8l.O:=prv Bs Tryz.func35 (.r 0 (.nd [] (.r 0 (.lp [] ⟨[],[],[8],[.one (zqi)],[]⟩ .no)) [] .no)) c0 (Q:=∀(p0o p0n p1:Int) (w0:Li),(0<=p0o/\0<=p0n/\p0o.toNat+p0n.toNat<=w0.length/\w0.length<=1000000)->∀r0:Int,(idxI ((w0.drop p0o.toNat).take p0n.toNat) p1)=r0->∀e0:Li,w0=e0-> 
∃(I1:Int->Prop) (M1:Int->Nat),I1 0/\∀b1,(I1 b1->
(decide (b1<(p0n.toNat:Int))=true->
(0<=b1/\b1<(p0n.toNat:Int))/\(0<=((p0o.toNat:Int)+b1)/\((p0o.toNat:Int)+b1)<(w0.length:Int))/\((p1==(ix w0 ((p0o.toNat:Int)+b1)))=true->
b1=r0/\w0=e0)/\
((p1==(ix w0 ((p0o.toNat:Int)+b1)))=false->
I1 (i64.wrap (b1+1))/\M1 (i64.wrap (b1+1))<M1 b1))/\
(decide (b1<(p0n.toNat:Int))=false->
(-1)=r0/\w0=e0)))<|by
 rintro p0o p0n p1 w0 h _ rfl _ rfl;obtain⟨h0,h1,h2,h3⟩:=h;obtain⟨o,rfl⟩:=qn h0;obtain⟨n,rfl⟩:=qn h1;simp only[qx]at h2 ⊢;have hl:((w0.drop o).take n).length=n:=by simp;omega
 refine⟨(fun c=>∃i:Nat,c=(i:Int)/\i<=n/\p1∉((w0.drop o).take n).take i),(fun c=>(n-c).toNat),⟨0,rfl,by omega,by simp⟩,?_⟩;rintro _ ⟨i,rfl,hi,hm⟩;refine⟨fun e=> ?_,fun e=> ?_⟩
 ·have e:i<n:=by have:=qb e;omega
  have hw:o+i<w0.length:=by omega
  have hg:((w0.drop o).take n)[i]' qqo=w0[o+i]:=by simp
  have hx:ix w0 ((o:Int)+(i:Int))=w0[o+i]:=by rw[show(o:Int)+(i:Int)=((o+i:Nat):Int)by omega,ix_get _ _ hw]
  rw[hx];refine⟨by omega,by omega,fun e2=> ?_,fun e2=> ?_⟩
  ·have e2:p1=w0[o+i]:=by simpa using e2
   unfold idxI;rw[qf (by rw[e2,<-hg];exact qah _)]
   have:((w0.drop o).take n).idxOf p1=i:=by
    conv=>lhs;rw[<-qbh i ((w0.drop o).take n)]
    rw[List.idxOf_append,qe hm,qo (show i<((w0.drop o).take n).length by omega),hg,<-e2,List.idxOf_cons_self,qu];omega
   rw[this];exact⟨rfl,trivial⟩
  ·have e2:¬p1=w0[o+i]:=by simpa using e2
   rw[inc_i64 _ qqo];refine⟨⟨i+1,rfl,by omega,?_⟩,by(dsimp only;omega)⟩;rw[qr (show i<((w0.drop o).take n).length by omega),hg];simp only[qak,qal];exact fun hh=>hh.elim hm e2
 ·have e:i=n:=by have:=qc e;omega
  rw[qv qqo]at hm;unfold idxI;rw[qe hm];exact⟨rfl,trivial⟩
noncomputable def k5z:Ct:= .g (gk 17 [.one (.view 0),.one (zqu)] [.vec yqu] (.one (.one (.d (.bool))))) [yqi,yqi,yqu,.sl yqu] [.bool,.sl yqu] [] fun(p0o p0n p1:Int) (w0:Li)=>(0<=p0o/\0<=p0n/\p0o.toNat+p0n.toNat<=w0.length/\w0.length<=1000000,(decide (p1∈(w0.drop p0o.toNat).take p0n.toNat):Bool),w0,())
theorem k79:k5z.O:=prv Bs Tryz.func17 .no (kae.c c0) (Q:=∀(p0o p0n p1:Int) (w0:Li),(0<=p0o/\0<=p0n/\p0o.toNat+p0n.toNat<=w0.length/\w0.length<=1000000)->∀r0:Bool,(decide (p1∈(w0.drop p0o.toNat).take p0n.toNat))=r0->∀e0:Li,w0=e0-> 
(0<=(p0o.toNat:Int)/\0<=(p0n.toNat:Int)/\(p0o.toNat:Int).toNat+(p0n.toNat:Int).toNat<=w0.length/\w0.length<=1000000)/\let r1:Int:=(idxI ((w0.drop (p0o.toNat:Int).toNat).take (p0n.toNat:Int).toNat) p1)
decide (0<=r1)=r0/\w0=e0)<|by
 rintro p0o p0n p1 w0 h _ rfl _ rfl;have h' :=h;obtain⟨h0,h1,h2,h3⟩:=h;obtain⟨o,rfl⟩:=qn h0;obtain⟨n,rfl⟩:=qn h1;refine⟨h',?_,rfl⟩;simp only[qx];unfold idxI;by_cases hm:p1∈(w0.drop o).take n
 ·simp[hm]
 ·simp[hm]
noncomputable def k82:Ct:= .tp 205 [.st 2] [.bool] [] fun(p0:wy)=>((vAmounts p0:Bool),())
theorem k9o:k82.O:=qtv Bs Tryz.func205 .no c0 (Q:=∀(p0:wy),∀r0:Bool,vAmounts p0=r0-> 
(decide (4294967295<p0.wH)=true->
false=r0)/\
(decide (4294967295<p0.wH)=false->
(decide (4294967295<p0.wL)=true->
false=r0)/\
(decide (4294967295<p0.wL)=false->
(decide (4294967295<p0.Fee)=true->
false=r0)/\
(decide (4294967295<p0.Fee)=false->
let v1:Bool:=decide (18446744069414584321<=p0.wQ)
(v1=true->
false=r0)/\
(v1=false->
(decide (18446744069414584321<=p0.wS)=true->
false=r0)/\
(decide (18446744069414584321<=p0.wS)=false->
(decide (0<p0.wH)=true->
(p0.wL==0)=r0)/\
(decide (0<p0.wH)=false->
(((p0.wE.length:Int)==0)=true->
false=r0)/\
(((p0.wE.length:Int)==0)=false->
((p0.wS !=0)=true->
false=r0)/\
((p0.wS !=0)=false->
(decide (0<p0.wL)=true->
true=r0)/\
(decide (0<p0.wL)=false->
(p0.wQ==0)=r0))))))))))<|by
 rintro p0 _ rfl;refine ?_;unfold vAmounts
 try simp only[]
 repeat' (apply qaa<;>intro h)
 all_goals simp only[qai,decide_eq_false_iff_not,beq_iff_eq,bne_iff_ne,Bool.not_eq_true,beq_eq_false_iff_ne,bne_eq_false_iff_eq,List.isEmpty_iff,Int.natCast_eq_zero,qcz]at *
 all_goals simp[*]
 all_goals grind
noncomputable def kbo:Ct:= .gp 35 [.sl yqu,yqu] [yqi] [] fun(p0:Li) (p1:Int)=>(p0.length<=9223372036854775807,(idxI p0 p1:Int),())
theorem kf7:kbo.O:=qrv Bs Tryz.func35 (.r 0 (.nd [] (.r 0 (.lp [] ⟨[],[],[8],[.one (zqi)],[]⟩ .no)) [] .no)) c0 (Q:=∀(p0:Li) (p1:Int),(p0.length<=9223372036854775807)->∀r0:Int,idxI p0 p1=r0-> 
∃(I1:Int->Prop) (M1:Int->Nat),I1 0/\∀b1,(I1 b1->
(decide (b1<(p0.length:Int))=true->
(0<=b1)/\b1<(p0.length:Int)/\((p1==(ix p0 b1))=true->
b1=r0)/\
((p1==(ix p0 b1))=false->
I1 (i64.wrap (b1+1))/\M1 (i64.wrap (b1+1))<M1 b1))/\
(decide (b1<(p0.length:Int))=false->
(-1)=r0)))<|by
 rintro p0 p1 h _ rfl;refine(⟨(fun i=>0<=i/\i<=p0.length/\p1∉p0.take i.toNat),(fun i=>(p0.length-i).toNat),⟨by omega,by omega,by simp⟩,?_⟩);rintro i ⟨g0,g1,g2⟩;refine⟨fun h=> ?_,fun h=> ?_⟩
 ·have h:=qb h;refine⟨g0,h,fun e=> ?_,fun e=> ?_⟩
  ·have e:p1=ix p0 i:=by simpa using e
   unfold idxI;rw[qf (by rw[e];exact ix_mem p0 i g0 h)]
   have:p0.idxOf p1=i.toNat:=by
    conv=>lhs;rw[<-qbh i.toNat p0]
    rw[List.idxOf_append,qe g2,drop_ix p0 i g0 h,<-e,List.idxOf_cons_self,qu];omega
   rw[this];omega
  ·have e:¬p1=ix p0 i:=by simpa using e
   rw[inc i p0.length g0 h qqo];refine⟨⟨by omega,by omega,?_⟩,by(dsimp only;omega)⟩;rw[ke p0 i g0 h];simp only[qak,qal];exact fun hh=>hh.elim g2 e
 ·have h:=qc h;rw[qv qqo]at g2;unfold idxI;rw[qe g2]
noncomputable def k8g:Ct:= .gp 17 [.sl yqu,yqu] [.bool] [] fun(p0:Li) (p1:Int)=>(p0.length<=9223372036854775807,(decide (p1∈p0):Bool),())
theorem k3o:k8g.O:=qrv Bs Tryz.func17 .no (kf7.c c0) (Q:=∀(p0:Li) (p1:Int),(p0.length<=9223372036854775807)->∀r0:Bool,(decide (p1∈p0))=r0-> 
(p0.length<=9223372036854775807)/\decide (0<=(idxI p0 p1))=r0)<|by
 rintro p0 p1 h _ rfl;refine⟨h,?_⟩;unfold idxI;by_cases hm:p1∈p0
 ·simp[hm]
 ·simp[hm]
noncomputable def kau:Ct:= .tp 203 [.sl yqu] [.bool] [] fun(p0:Li)=>((vMarks p0:Bool),())
theorem kc2:kau.O:=qtv Bs Tryz.func203 (.r 1 (.nd [] (.r 0 (.lp [] ⟨[],[],[10],[.one (zqi)],[]⟩ .no)) [] .no)) (k3o.c c0) (Q:=∀(p0:Li),∀r0:Bool,vMarks p0=r0-> 
(decide (4<(p0.length:Int))=true->
false=r0)/\
(decide (4<(p0.length:Int))=false->
∃(I1:Int->Prop) (M1:Int->Nat),I1 0/\∀b1,(I1 b1->
(decide (b1<(p0.length:Int))=true->
(0<=b1)/\b1<(p0.length:Int)/\let v1:Bool:=decide (18446744069414584321<=(ix p0 b1))
(v1=true->
false=r0)/\
(v1=false->
(0<=b1)/\b1<=(p0.length:Int)/\((p0.take b1.toNat).length<=9223372036854775807)/\let r2:Bool:=(decide ((ix p0 b1)∈(p0.take b1.toNat)))
(r2=true->
false=r0)/\
(r2=false->
I1 (i64.wrap (b1+1))/\M1 (i64.wrap (b1+1))<M1 b1)))/\
(decide (b1<(p0.length:Int))=false->
true=r0))))<|by
 rintro p0 _ rfl;refine⟨fun h=> ?_,fun h=> ?_⟩
 ·have h:=qb h;unfold vMarks;rw[qay qqo];rfl
 ·have h:=qc h;refine⟨(fun i=>0<=i/\i<=p0.length/\(∀x∈p0.take i.toNat,x<18446744069414584321)/\(p0.take i.toNat).Nodup),(fun i=>(p0.length-i).toNat),⟨by omega,by omega,by simp,by simp⟩,?_⟩;rintro i ⟨g0,g1,g2,g3⟩;refine⟨fun hh=> ?_,fun hh=> ?_⟩
  ·have hh:=qb hh;have hm:=ix_mem p0 i g0 hh;refine⟨g0,hh,fun e=> ?_,fun e=>⟨g0,by omega,by simp;omega,fun e2=> ?_,fun e2=> ?_⟩⟩
   ·have e:=qb e;unfold vMarks;have:p0.all (fun x=>decide (x<18446744069414584321))=false:=qcm.2 ⟨_,hm,by simp;omega⟩;rw[this];simp
   ·have e2:=qb e2;unfold vMarks;have:¬p0.Nodup:=by intro hn;rw[<-qbh i.toNat p0,drop_ix p0 i g0 hh]at hn;have:=(qcf.1 hn).2.2 _ e2 _ (qew ..);exact this rfl
    rw[qay this];simp
   ·have e:=qc e;have e2:=qc e2;rw[inc i p0.length g0 hh qqo];refine⟨⟨by omega,by omega,?_,?_⟩,by(dsimp only;omega)⟩
    ·rw[ke p0 i g0 hh];intro x hx;rcases qak.1 hx with hx|hx
     ·exact g2 x hx
     ·have:x=ix p0 i:=by simpa using hx
      omega
    ·rw[ke p0 i g0 hh];refine qcf.2 ⟨g3,by simp,fun a ha b hb=> ?_⟩;have:b=ix p0 i:=by simpa using hb
     rintro rfl;exact e2 (this▸ha)
  ·have hh:=qc hh;rw[qv qqo]at g2 g3;unfold vMarks;have:p0.all (fun x=>decide (x<18446744069414584321))=true:=by simpa using g2
   rw[this,qas g3,qas qqo];rfl
noncomputable def keo:Ct:= .tp 222 [.st 14] [.bool] [] fun(p0:wAn)=>((vPoint p0.a0 p0.a1:Bool),())
theorem kfz:keo.O:=qtv Bs Tryz.func222 .no c0 (Q:=∀(p0:wAn),∀r0:Bool,vPoint p0.a0 p0.a1=r0-> 
(decide (p0.a0<18446744069414584321)=true->
(decide (p0.a1<18446744069414584321)=true->
((p0.a0 !=0)=true->
true=r0)/\
((p0.a0 !=0)=false->
(p0.a1 !=0)=r0))/\
(decide (p0.a1<18446744069414584321)=false->
false=r0))/\
(decide (p0.a0<18446744069414584321)=false->
false=r0))<|by rintro p0 _ rfl;refine ?_;unfold vPoint;refine⟨fun h=>⟨fun h1=>⟨fun h2=> ?_,fun h2=> ?_⟩,fun h1=> ?_⟩,fun h=> ?_⟩<;>simp_all<;>omega
noncomputable def kcq:Ct:= .tp 204 [.sl (.st 1)] [.bool] [] fun(p0:List wBW)=>((vOuts p0:Bool),())
theorem kdp:kcq.O:=qtv Bs Tryz.func204 (.r 1 (.nd [] (.r 0 (.lp [] ⟨[],[],[12],[.one (zqi)],[]⟩ (.r 1 (.nd [] (.r 2 (.lp [] ⟨[],[],[34],[.one (zqi)],[]⟩ .no)) [] .no)))) [] .no)) (kfz.c c0) (Q:=∀(p0:List wBW),∀r0:Bool,vOuts p0=r0-> 
(decide (4<(p0.length:Int))=true->
false=r0)/\
(decide (4<(p0.length:Int))=false->
∃(I1:Int->Prop) (M1:Int->Nat),I1 0/\∀b1,(I1 b1->
(decide (b1<(p0.length:Int))=true->
(0<=b1)/\b1<(p0.length:Int)/\let v1:Bool:=decide (18446744069414584321<=((ix p0 b1).wm))
(v1=true->
false=r0)/\
(v1=false->
let r2:Bool:=(vPoint (wAn.mk ((ix p0 b1).wAm) ((ix p0 b1).wAl)).a0 (wAn.mk ((ix p0 b1).wAm) ((ix p0 b1).wAl)).a1)
((!r2)=true->
false=r0)/\
((!r2)=false->
let v3:Bool:=((((ix p0 b1).wAF).length:Int) !=3)
(v3=true->
false=r0)/\
(v3=false->
∃(I2:Int->Prop) (M2:Int->Nat),I2 0/\∀f1,(I2 f1->
let v4:Bool:=decide (f1<(((ix p0 b1).wAF).length:Int))
(v4=true->
(0<=f1)/\f1<(((ix p0 b1).wAF).length:Int)/\let v5:Bool:=decide (18446744069414584321<=(ix ((ix p0 b1).wAF) f1))
(v5=true->
false=r0)/\
(v5=false->
I2 (i64.wrap (f1+1))/\M2 (i64.wrap (f1+1))<M2 f1))/\
(v4=false->
I1 (i64.wrap (b1+1))/\M1 (i64.wrap (b1+1))<M1 b1))))))/\
(decide (b1<(p0.length:Int))=false->
true=r0))))<|by
 rintro p0 _ rfl;refine⟨fun h=> ?_,fun h=> ?_⟩
 ·have h:=qb h;unfold vOuts;rw[qay qqo];rfl
 ·have h:=qc h;have bad:∀i,0<=i->i<(p0.length:Int)->vOut (ix p0 i)=false->false=vOuts p0:=by intro i h0 h1 hb;unfold vOuts;have:p0.all vOut=false:=qcm.2 ⟨_,ix_mem p0 i h0 h1,by simp[hb]⟩;rw[this];simp
  refine⟨(fun i=>0<=i/\i<=p0.length/\∀x∈p0.take i.toNat,vOut x=true),(fun i=>(p0.length-i).toNat),⟨by omega,by omega,by simp⟩,?_⟩;rintro i ⟨g0,g1,g2⟩;refine⟨fun hh=> ?_,fun hh=> ?_⟩
  ·have hh:=qb hh;have bd:=bad i g0 hh;unfold vOut at bd;refine⟨g0,hh,fun e=>bd ?_,fun e=>⟨fun e2=>bd ?_,fun e2=>⟨fun e3=>bd ?_,fun e3=> ?_⟩⟩⟩
   ·have e:=qb e;rw[qay qqo];rfl
   ·have e2:vPoint (ix p0 i).wAm (ix p0 i).wAl=false:=by simpa using e2
    simp[e2]
   ·have e3:¬(ix p0 i).wAF.length=3:=by
     have:¬((ix p0 i).wAF.length:Int)=3:=by simpa using e3
     omega
    simp[e3]
   ·have e:=qc e;have e2:vPoint (ix p0 i).wAm (ix p0 i).wAl=true:=by simpa using e2
    have e3:(ix p0 i).wAF.length=3:=by
     have:((ix p0 i).wAF.length:Int)=3:=by simpa using e3
     omega
    refine⟨(fun k=>0<=k/\k<=3/\∀x∈(ix p0 i).wAF.take k.toNat,x<18446744069414584321),(fun k=>(3-k).toNat),⟨by omega,by omega,by simp⟩,?_⟩;rintro k ⟨k0,k1,k2⟩;refine⟨fun hk=> ?_,fun hk=> ?_⟩
    ·have hk:=qb hk;refine⟨k0,hk,fun e4=>bd ?_,fun e4=> ?_⟩
     ·have e4:=qb e4;have:(ix p0 i).wAF.all (fun n=>decide (n<18446744069414584321))=false:=qcm.2 ⟨_,ix_mem _ k k0 hk,by simp;omega⟩;rw[this];simp
     ·have e4:=qc e4;rw[inc k 3 k0 qqo qqo];refine⟨⟨by omega,by omega,?_⟩,by(dsimp only;omega)⟩;rw[ke _ k k0 hk];intro x hx;rcases qak.1 hx with hx|hx
      ·exact k2 x hx
      ·have:x=ix (ix p0 i).wAF k:=by simpa using hx
       omega
    ·have hk:=qc hk;rw[qv qqo]at k2;have hv:vOut (ix p0 i)=true:=(k7b _).2 ⟨by omega,e2,e3,k2⟩;have hi:=inc i p0.length g0 hh qqo;rw[hi]
     have nxt:(0<=i+1/\i+1<=p0.length/\∀x∈p0.take (i+1).toNat,vOut x=true)/\(p0.length-(i+1)).toNat<(p0.length-i).toNat:=by
      refine⟨⟨by omega,by omega,?_⟩,by(first|omega|(dsimp only;omega))⟩;rw[ke p0 i g0 hh];intro x hx;rcases qak.1 hx with hx|hx
      ·exact g2 x hx
      ·have:x=ix p0 i:=by simpa using hx
       rw[this];exact hv
     exact nxt
  ·have hh:=qc hh;rw[qv qqo]at g2;unfold vOuts;have:p0.all vOut=true:=by simpa using g2
   rw[this,qas qqo];rfl
noncomputable def kl9:Ct:= .tp 163 [.st 2] [yqi] [] fun(p0:wy)=>((validE p0:Int),())
theorem k3l:kl9.O:=qtv Bs Tryz.func163 .no (kc2.c (kdp.c (k9o.c c0))) (Q:=∀(p0:wy),∀r0:Int,validE p0=r0-> 
((!(vMarks p0.wE))=true->
1=r0)/\
((!(vMarks p0.wE))=false->
((!(vOuts p0.wA))=true->
1=r0)/\
((!(vOuts p0.wA))=false->
((!(vAmounts p0))=true->
1=r0)/\
((!(vAmounts p0))=false->
let v1:Bool:=decide (18446744069414584321<=p0.wM)
(v1=true->
1=r0)/\
(v1=false->
(decide (p0.wAc<0)=true->
1=r0)/\
(decide (p0.wAc<0)=false->
(decide (1048576<p0.wAc)=true->
1=r0)/\
(decide (1048576<p0.wAc)=false->
let v2:Bool:=decide (1048576<(p0.wh.length:Int))
(v2=true->
3=r0)/\
(v2=false->
0=r0))))))))<|by rintro p0 _ rfl;refine ?_;unfold validE vRest;grind
noncomputable def kep:Ct:= .b (gk 131 [.one (.ptr 0 0),.agg yY] yG (.one (.one (zqi)))) [.st 2,yqi,yqi,yqi,yqi,yqi,yqu,yqi,yqi,yqu,yqi,yqi,.sl yqu,.sl (.st 9),yqu,.sl yqu,.sl yqu,.sl (.st 10),.sl yqu,.sl (.bool)] yL fun(p1:wy) (Aa Ab Ad Ac Am An Ai Ak Al Aj Af:Int) (Ag:Li) (Ae:List wB) (Ah:Int) (w1 w3:Li) (w4:List wAB) (w5k:Li) (w5v:Lo)=>((∃(c:Nat) (f:Int),c<=800/\PI (PS.mk (wP.mk Aa Ab Ad Ac Am An Ai Ak Al) (wI.mk Aj Af Ag) Ae Ah w1 w3 w4 w5k w5v) c f)/\TR p1,(),fun _=>((chkS (PS.mk (wP.mk Aa Ab Ad Ac Am An Ai Ak Al) (wI.mk Aj Af Ag) Ae Ah w1 w3 w4 w5k w5v) p1:Int),Aa,Ab,Ad,Ac,Am,An,Ai,Ak,Al,Aj,Af,Ag,Ae,Ah,w1,w3,w4,w5k,w5v,()))
theorem kfj:kep.O:=pbv Bs Tryz.func131 (.r 3 (.nd [] (.r 0 (.lp [] ⟨[5,2],[.map yqu (.bool),.cells [.mp 0]],[33],[.one (zqi)],[]⟩ .no)) [] (.jn ⟨[],[],[],[],[]⟩ [] .no [] .no))) (k3l.c (kc9.c (k79.c (kov.c (k5f.c c0))))) (Q:=∀(p1:wy) (Aa Ab Ad Ac Am An Ai Ak Al Aj Af:Int) (Ag:Li) (Ae:List wB) (Ah:Int) (w1 w3:Li) (w4:List wAB) (w5k:Li) (w5v:Lo),((∃(c:Nat) (f:Int),c<=800/\PI (PS.mk (wP.mk Aa Ab Ad Ac Am An Ai Ak Al) (wI.mk Aj Af Ag) Ae Ah w1 w3 w4 w5k w5v) c f)/\TR p1)->∀R:Unit,()=R-> 
(((validE p1) !=0)=true->
lz w4/\lz w3/\lz w1/\(validE p1)=(chkS (PS.mk (wP.mk Aa Ab Ad Ac Am An Ai Ak Al) (wI.mk Aj Af Ag) Ae Ah w1 w3 w4 w5k w5v) p1:Int)/\Aa=Aa/\Ab=Ab/\Ad=Ad/\Ac=Ac/\Am=Am/\An=An/\Ai=Ai/\Ak=Ak/\Al=Al/\Aj=Aj/\Af=Af/\Ag=Ag/\Ae=Ae/\Ah=Ah/\w1=w1/\w3=w3/\w4=w4/\w5k=w5k/\w5v=w5v)/\
(((validE p1) !=0)=false->
let v1:Bool:=decide (p1.wAc<(i64.wrap ((w4.length:Int)+1)))
(v1=true->
lz w4/\lz w3/\lz w1/\14=(chkS (PS.mk (wP.mk Aa Ab Ad Ac Am An Ai Ak Al) (wI.mk Aj Af Ag) Ae Ah w1 w3 w4 w5k w5v) p1:Int)/\Aa=Aa/\Ab=Ab/\Ad=Ad/\Ac=Ac/\Am=Am/\An=An/\Ai=Ai/\Ak=Ak/\Al=Al/\Aj=Aj/\Af=Af/\Ag=Ag/\Ae=Ae/\Ah=Ah/\w1=w1/\w3=w3/\w4=w4/\w5k=w5k/\w5v=w5v)/\
(v1=false->
lz w4/\lz w3/\lz w1/\((1<=Ai/\Ai<=100)/\w3.length<=1000000)/\let r2:Int:=((w3.length-(w3.length-Ai.toNat):Nat):Int)
(0<=((((w3.length-Ai.toNat:Nat):Int).toNat:Nat):Int)/\0<=(r2.toNat:Int)/\((((w3.length-Ai.toNat:Nat):Int).toNat:Nat):Int).toNat+(r2.toNat:Int).toNat<=w3.length/\w3.length<=1000000)/\let r3:Bool:=(decide (p1.wM∈(w3.drop ((((w3.length-Ai.toNat:Nat):Int).toNat:Nat):Int).toNat).take (r2.toNat:Int).toNat))
((!r3)=true->
lz w4/\lz w3/\lz w1/\11=(chkS (PS.mk (wP.mk Aa Ab Ad Ac Am An Ai Ak Al) (wI.mk Aj Af Ag) Ae Ah w1 w3 w4 w5k w5v) p1:Int)/\Aa=Aa/\Ab=Ab/\Ad=Ad/\Ac=Ac/\Am=Am/\An=An/\Ai=Ai/\Ak=Ak/\Al=Al/\Aj=Aj/\Af=Af/\Ag=Ag/\Ae=Ae/\Ah=Ah/\w1=w1/\w3=w3/\w4=w4/\w5k=w5k/\w5v=w5v)/\
((!r3)=false->
∃(I1:Int->(Li)->(Lo)->Prop) (M1:Int->(Li)->(Lo)->Nat),I1 0 w5k w5v/\∀b1 f1 i1,(I1 b1 f1 i1->
(decide (b1<(p1.wE.length:Int))=true->
(0<=b1)/\b1<(p1.wE.length:Int)/\(i1=trs f1)/\((decide ((ix p1.wE b1)∈f1))=true->
lz w4/\lz w3/\lz w1/\12=(chkS (PS.mk (wP.mk Aa Ab Ad Ac Am An Ai Ak Al) (wI.mk Aj Af Ag) Ae Ah w1 w3 w4 w5k w5v) p1:Int)/\Aa=Aa/\Ab=Ab/\Ad=Ad/\Ac=Ac/\Am=Am/\An=An/\Ai=Ai/\Ak=Ak/\Al=Al/\Aj=Aj/\Af=Af/\Ag=Ag/\Ae=Ae/\Ah=Ah/\w1=w1/\w3=w3/\w4=w4/\f1=w5k/\i1=w5v)/\
((decide ((ix p1.wE b1)∈f1))=false->
I1 (i64.wrap (b1+1)) f1 i1/\M1 (i64.wrap (b1+1)) f1 i1<M1 b1 f1 i1))/\
(decide (b1<(p1.wE.length:Int))=false->
∀J1:Prop,((let v5:Bool:=decide ((u64.wrap (Ah+p1.wH))<(u64.wrap (p1.wL+p1.Fee)))
(v5=true->
lz w4/\lz w3/\lz w1/\13=(chkS (PS.mk (wP.mk Aa Ab Ad Ac Am An Ai Ak Al) (wI.mk Aj Af Ag) Ae Ah w1 w3 w4 w5k w5v) p1:Int)/\Aa=Aa/\Ab=Ab/\Ad=Ad/\Ac=Ac/\Am=Am/\An=An/\Ai=Ai/\Ak=Ak/\Al=Al/\Aj=Aj/\Af=Af/\Ag=Ag/\Ae=Ae/\Ah=Ah/\w1=w1/\w3=w3/\w4=w4/\f1=w5k/\i1=w5v)/\
(v5=false->
let v6:Int:=i64.wrap ((w1.length:Int)+(p1.wA.length:Int))
(0<=Ab)/\(decide ((ishl .i64 1 Ab)<v6)=true->
lz w4/\lz w3/\lz w1/\16=(chkS (PS.mk (wP.mk Aa Ab Ad Ac Am An Ai Ak Al) (wI.mk Aj Af Ag) Ae Ah w1 w3 w4 w5k w5v) p1:Int)/\Aa=Aa/\Ab=Ab/\Ad=Ad/\Ac=Ac/\Am=Am/\An=An/\Ai=Ai/\Ak=Ak/\Al=Al/\Aj=Aj/\Af=Af/\Ag=Ag/\Ae=Ae/\Ah=Ah/\w1=w1/\w3=w3/\w4=w4/\f1=w5k/\i1=w5v)/\
(decide ((ishl .i64 1 Ab)<v6)=false->
lz w4/\lz w3/\lz w1/\0=(chkS (PS.mk (wP.mk Aa Ab Ad Ac Am An Ai Ak Al) (wI.mk Aj Af Ag) Ae Ah w1 w3 w4 w5k w5v) p1:Int)/\Aa=Aa/\Ab=Ab/\Ad=Ad/\Ac=Ac/\Am=Am/\An=An/\Ai=Ai/\Ak=Ak/\Al=Al/\Aj=Aj/\Af=Af/\Ag=Ag/\Ae=Ae/\Ah=Ah/\w1=w1/\w3=w3/\w4=w4/\f1=w5k/\i1=w5v)))->J1)->
(decide (0<p1.wH)=true->
(OkA (wAN.mk Ae).wF/\U64 p1.wH/\U64 p1.wS)/\let r4:=debitA (wAN.mk Ae).wF p1.wQ p1.wH p1.wS
((r4.2 !=0)=true->
lz w4/\lz w3/\lz w1/\r4.2=(chkS (PS.mk (wP.mk Aa Ab Ad Ac Am An Ai Ak Al) (wI.mk Aj Af Ag) Ae Ah w1 w3 w4 w5k w5v) p1:Int)/\Aa=Aa/\Ab=Ab/\Ad=Ad/\Ac=Ac/\Am=Am/\An=An/\Ai=Ai/\Ak=Ak/\Al=Al/\Aj=Aj/\Af=Af/\Ag=Ag/\Ae=Ae/\Ah=Ah/\w1=w1/\w3=w3/\w4=w4/\f1=w5k/\i1=w5v)/\
((r4.2 !=0)=false->
J1))/\
(decide (0<p1.wH)=false->
J1)))))))<|by
 rintro p1 Aa Ab Ad Ac Am An Ai Ak Al Aj Af Ag Ae Ah w1 w3 w4 w5k w5v h R hR;obtain⟨⟨c,f,hc,hp⟩,ht⟩:=h;have hb:OkA Ae:=hp.b.1;have hv:w5v=trs w5k:=hp.v;have h1:1<=Ai:=hp.w1;have h2:Ai<=100:=hp.w2;have hd1:1<=Ab:=hp.d1;have hd2:Ab<=12:=hp.d2;have hrl:w3.length=w4.length+1:=hp.rl;have hpl:w4.length<=c:=hp.p;have hll:w1.length<=2^Ab.toNat:=hp.ll;have hp12:=pow12 Ab.toNat qqo;generalize hR0:chkS (PS.mk (wP.mk Aa Ab Ad Ac Am An Ai Ak Al) (wI.mk Aj Af Ag) Ae Ah w1 w3 w4 w5k w5v) p1=R;have hR:chk (w4.length:Int) (ancL w3 Ai) w5k Ae Ah w1.length Ab p1=R:=hR0;clear hR0;unfold chk at hR;refine⟨fun e=> ?_,fun e=> ?_⟩
 ·have e:validE p1≠0:=by simpa using e
  rw[qf e]at hR;subst hR;exact(by repeat' first|apply qaa|exact rfl|exact ql)
 have e:validE p1=0:=by simpa using e
 have vt:=(kz p1).1 e;have hol:=vt.ol;have hml:=vt.ml;rw[qe (by rw[e];decide)]at hR;have ei:i64.wrap ((w4.length:Int)+1)=(w4.length:Int)+1:=km _ qqo qqo;rw[ei];refine⟨fun e2=> ?_,fun e2=>⟨rfl,rfl,rfl,⟨⟨h1,h2⟩,by omega⟩,?_⟩⟩
 ·rw[qf (qb e2)]at hR;subst hR;exact(by repeat' first|apply qaa|exact rfl|exact ql)
 rw[qe (qc e2)]at hR;have eA:(w3.drop (w3.length-Ai.toNat)).take (w3.length-(w3.length-Ai.toNat))=ancL w3 Ai:=by unfold ancL;exact qv (by rw[qan];omega)
 simp only[qx,eA];refine⟨⟨by omega,by omega,by omega,by omega⟩,fun e3=> ?_,fun e3=> ?_⟩
 ·have e3:p1.wM∉ancL w3 Ai:=by simpa using e3
  rw[qf e3]at hR;subst hR;exact(by repeat' first|apply qaa|exact rfl|exact ql)
 have e3:¬p1.wM∉ancL w3 Ai:=by simpa using e3
 rw[qe e3]at hR;refine⟨fun a k v=>(w5k=k/\w5v=v)/\∃i:Nat,a=(i:Int)/\i<=p1.wE.length/\((p1.wE.take i).any fun m=>decide (m∈w5k))=false,fun a _ _=>(p1.wE.length-a).toNat,⟨⟨rfl,rfl⟩,0,rfl,by omega,rfl⟩,?_⟩;rintro _ _ _ ⟨⟨rfl,rfl⟩,i,rfl,hi,hm⟩;refine⟨fun e4=> ?_,fun e4 J1 j=> ?_⟩
 ·have e4:i<p1.wE.length:=by have:=qb e4;omega
  rw[ix_get _ _ e4,inc_i64 _ qqo];refine⟨by omega,by omega,hv,fun e5=> ?_,fun e5=>⟨⟨⟨rfl,rfl⟩,i+1,rfl,by omega,?_⟩,by(dsimp only;omega)⟩⟩
  ·rw[qf (List.any_eq_true.2 ⟨_,qah e4,e5⟩)]at hR;subst hR;exact(by repeat' first|apply qaa|exact rfl|exact ql)
  ·rw[qr e4,List.any_append,hm,List.any_cons,e5];rfl
 ·have e4:i=p1.wE.length:=by have:=qc e4;omega
  subst e4;rw[qbd]at hm
  have j1:(p1.wE.any fun m=>decide (m∈w5k))=false->¬(0<p1.wH/\(debitA Ae p1.wQ p1.wH p1.wS).2≠0)->J1:=by
   intro g1 g2;rw[qe (by rw[g1];decide),qe g2]at hR;refine j ⟨fun e4=> ?_,fun e4=>⟨by omega,?_⟩⟩
   ·rw[qf (qb e4)]at hR;subst hR;exact(by repeat' first|apply qaa|exact rfl|exact ql)
   ·rw[qe (qc e4)]at hR;obtain⟨d,hd⟩:=qn (show 0<=Ab by omega);have hdn:Ab.toNat=d:=by omega
    rw[hdn]at hR hp12 hll;rw[km _ qqo qqo,show ishl .i64 1 Ab=((2^d:Nat):Int)by rw[hd];exact shl1 d qqo];refine⟨fun e5=> ?_,fun e5=> ?_⟩
    ·rw[qf (by have:=qb e5;omega)]at hR;subst hR;exact(by repeat' first|apply qaa|exact rfl|exact ql)
    ·rw[qe (by have:=qc e5;omega)]at hR;subst hR;exact(by repeat' first|apply qaa|exact rfl|exact ql)
  refine⟨fun e5=>⟨⟨hb,ht.d,ht.n⟩,fun e6=> ?_,fun e6=>j1 hm ?_⟩,fun e5=>j1 hm ?_⟩
  ·have e5:=qb e5;have e6:(debitA Ae p1.wQ p1.wH p1.wS).2≠0:=by simpa using e6
   rw[qe (by rw[hm];decide),qf ⟨e5,e6⟩]at hR;subst hR;exact(by repeat' first|apply qaa|exact rfl|exact ql)
  ·have e6:(debitA Ae p1.wQ p1.wH p1.wS).2=0:=by simpa using e6
   exact fun hh=>hh.2 e6
  ·have e5:=qc e5;exact fun hh=>e5 hh.1
noncomputable def kl6:Ct:= .g (gk 172 [.one (.ptr 0 0),.one (zql),.one (.d (.bool))] yI1 (.one (.one (.d (.bool))))) [.sl yqu,.bool,.sl yqu,.sl (.bool)] [.bool,.sl yqu,.sl (.bool)] [] fun(p1:Li) (p2:Bool) (w1k:Li) (w1v:Lo)=>(w1v=trs w1k/\p1.length<=1000000,(p1.any (fun m=>decide (m∈w1k)==p2):Bool),w1k,w1v,())
theorem kb7:kl6.O:=prv Bs Tryz.func172 (.r 0 (.nd [] (.r 0 (.lp [] ⟨[],[],[11],[.one (zqi)],[]⟩ .no)) [] .no)) c0 (Q:=∀(p1:Li) (p2:Bool) (w1k:Li) (w1v:Lo),(w1v=trs w1k/\p1.length<=1000000)->∀r0:Bool,(p1.any (fun m=>decide (m∈w1k)==p2))=r0->∀e1k:Li,w1k=e1k->∀e1v:Lo,w1v=e1v-> 
∃(I1:Int->Prop) (M1:Int->Nat),I1 0/\∀b1,(I1 b1->
(decide (b1<(p1.length:Int))=true->
(0<=b1)/\b1<(p1.length:Int)/\w1k.length=w1v.length/\let v1:Bool:=mVal (BEq.beq (ix p1 b1)) w1k w1v false
((v1==p2)=true->
true=r0/\w1k=e1k/\w1v=e1v)/\
((v1==p2)=false->
I1 (i64.wrap (b1+1))/\M1 (i64.wrap (b1+1))<M1 b1))/\
(decide (b1<(p1.length:Int))=false->
false=r0/\w1k=e1k/\w1v=e1v)))<|by
 rintro p1 p2 w1k w1v h _ rfl _ rfl _ rfl;obtain⟨h,hl⟩:=h;subst h;refine(⟨(fun a=>∃i:Nat,a=(i:Int)/\i<=p1.length/\(p1.drop i).any (fun m=>decide (m∈w1k)==p2)=p1.any (fun m=>decide (m∈w1k)==p2)),(fun a=>(p1.length-a).toNat),⟨0,rfl,by omega,rfl⟩,?_⟩);rintro _ ⟨i,rfl,hi,he⟩;refine⟨fun e=> ?_,fun e=> ?_⟩
 ·have e:i<p1.length:=by have:=qb e;omega
  rw[ix_get _ _ e,sVal,inc_i64 _ qqo];rw[qo e,List.any_cons]at he;refine⟨by omega,by omega,by simp[trs],fun e2=> ?_,fun e2=> ?_⟩
  ·rw[e2,Bool.true_or]at he;rw[<-he];exact⟨rfl,rfl,rfl⟩
  ·rw[e2,Bool.false_or]at he;exact⟨⟨i+1,rfl,by omega,he⟩,by(dsimp only;omega)⟩
 ·have e:i=p1.length:=by have:=qc e;omega
  subst e;rw[qbs]at he;rw[<-he];exact⟨rfl,rfl,rfl⟩
noncomputable def k73:Ct:= .gp 173 [.sl yqu] [.bool] [] fun(p0:Li)=>(p0.length<=1000000,(!decide p0.Nodup:Bool),())
theorem k34:k73.O:=qrv Bs Tryz.func173 (.r 1 (.nd [] (.r 0 (.lp [] ⟨[0],yN1,[9],[.one (zqi)],[]⟩ .no)) [] .no)) c0 (Q:=∀(p0:Li),(p0.length<=1000000)->∀r0:Bool,(!decide p0.Nodup)=r0-> 
∃(I1:Int->(Li)->(Lo)->Prop) (M1:Int->(Li)->(Lo)->Nat),I1 0 ([]:Li) ([]:Lo)/\∀b1 f1 i1,(I1 b1 f1 i1->
(decide (b1<(p0.length:Int))=true->
(0<=b1)/\b1<(p0.length:Int)/\f1.length=i1.length/\let v1:Bool:=mVal (BEq.beq (ix p0 b1)) f1 i1 false
(v1=true->
true=r0)/\
(v1=false->
f1.length=i1.length/\let v2:Li:=mPutK (BEq.beq (ix p0 b1)) f1 (ix p0 b1)
let v3:Lo:=mPutV (BEq.beq (ix p0 b1)) f1 i1 true
I1 (i64.wrap (b1+1)) v2 v3/\M1 (i64.wrap (b1+1)) v2 v3<M1 b1 f1 i1))/\
(decide (b1<(p0.length:Int))=false->
false=r0)))<|by
 rintro p0 h _ rfl;refine(⟨(fun a k v=>∃i:Nat,a=(i:Int)/\i<=p0.length/\k=p0.take i/\v=trs k/\k.Nodup),(fun a _ _=>(p0.length-a).toNat),⟨0,rfl,by omega,rfl,rfl,qel⟩,?_⟩);rintro _ _ _ ⟨i,rfl,hi,rfl,rfl,hn⟩;refine⟨fun e=> ?_,fun e=> ?_⟩
 ·have e:i<p0.length:=by have:=qb e;omega
  rw[ix_get _ _ e,sVal,inc_i64 _ qqo];refine⟨by omega,by omega,by simp[trs],fun e2=> ?_,fun e2=>⟨by simp[trs],?_⟩⟩
  ·have e2:=qb e2;have:¬p0.Nodup:=fun hh=>by rw[<-qbh i p0,qo e,qcf]at hh;exact hh.2.2 _ e2 p0[i] qew rfl
   simp[this]
  ·have e2:=qc e2;obtain⟨q1,q2⟩:=sPut e2;rw[q1,q2,<-qr];refine⟨⟨i+1,rfl,by omega,rfl,rfl,?_⟩,by(dsimp only;omega)⟩;rw[qr e,qcf];exact⟨hn,by simp,fun a ha b hb=>by rw[qal.1 hb];rintro rfl;exact e2 ha⟩
 ·have e:i=p0.length:=by have:=qc e;omega
  subst e;rw[qbd]at hn;simp[hn]
noncomputable def knb:Ct:= .g (gk 167 [.one (.ptr 0 0),.one (zql)] yI1 (.one (.one (zqi)))) [.sl yqu,.sl yqu,.sl (.bool)] [yqi,.sl yqu,.sl (.bool)] [] fun(p1 w1k:Li) (w1v:Lo)=>(w1v=trs w1k/\p1.length<=1000000,((addS p1 w1k).1:Int),((addS p1 w1k).2:Li),(trs (addS p1 w1k).2:Lo),())
theorem kpd:knb.O:=prv Bs Tryz.func167 (.r 2 (.nd [] (.r 0 (.lp [] ⟨[1],yN1,[25],[.one (zqi)],[]⟩ .no)) [] .no)) (kb7.c (k34.c c0)) (Q:=∀(p1 w1k:Li) (w1v:Lo),(w1v=trs w1k/\p1.length<=1000000)->∀r0:Int,((addS p1 w1k).1)=r0->∀e1k:Li,((addS p1 w1k).2)=e1k->∀e1v:Lo,(trs (addS p1 w1k).2)=e1v-> 
(w1v=trs w1k/\p1.length<=1000000)/\let r1:Bool:=(p1.any (fun m=>decide (m∈w1k)==true))
(r1=true->
12=r0/\w1k=e1k/\w1v=e1v)/\
(r1=false->
(p1.length<=1000000)/\((!decide p1.Nodup)=true->
12=r0/\w1k=e1k/\w1v=e1v)/\
((!decide p1.Nodup)=false->
∃(I1:Int->(Li)->(Lo)->Prop) (M1:Int->(Li)->(Lo)->Nat),I1 0 w1k w1v/\∀b1 f1 i1,(I1 b1 f1 i1->
(decide (b1<(p1.length:Int))=true->
(0<=b1)/\b1<(p1.length:Int)/\f1.length=i1.length/\let v2:Li:=mPutK (BEq.beq (ix p1 b1)) f1 (ix p1 b1)
let v3:Lo:=mPutV (BEq.beq (ix p1 b1)) f1 i1 true
I1 (i64.wrap (b1+1)) v2 v3/\M1 (i64.wrap (b1+1)) v2 v3<M1 b1 f1 i1)/\
(decide (b1<(p1.length:Int))=false->
0=r0/\f1=e1k/\i1=e1v)))))<|by
 rintro p1 w1k w1v h _ rfl _ rfl _ rfl;obtain⟨h,hl⟩:=h;subst h;have ea:(p1.any fun m=>decide (m∈w1k)==true)=p1.any fun m=>decide (m∈w1k):=by congr 1;funext m;simp
 refine⟨⟨rfl,hl⟩,?_⟩;rw[ea];refine⟨fun e=> ?_,fun e=>⟨hl,fun e2=> ?_,fun e2=> ?_⟩⟩
 ·have:addS p1 w1k=(12,w1k):=by unfold addS;rw[e];rfl
  rw[this];exact⟨rfl,rfl,rfl⟩
 ·have:addS p1 w1k=(12,w1k):=by unfold addS;rw[e,e2];rfl
  rw[this];exact⟨rfl,rfl,rfl⟩
 ·have hA:addS p1 w1k=(0,w1k++p1):=by unfold addS;rw[e,e2];rfl
  have hn:p1.Nodup:=by simpa using e2
  rw[hA];refine⟨(fun a k v=>∃i:Nat,a=(i:Int)/\i<=p1.length/\k=w1k++p1.take i/\v=trs k),(fun a _ _=>(p1.length-a).toNat),⟨0,rfl,by omega,by simp,by simp⟩,?_⟩;rintro _ _ _ ⟨i,rfl,hi,rfl,rfl⟩;refine⟨fun e3=> ?_,fun e3=> ?_⟩
  ·have e3:i<p1.length:=by have:=qb e3;omega
   rw[ix_get _ _ e3,inc_i64 _ qqo]
   have hm:p1[i]∉w1k++p1.take i:=by
    intro hm;rcases qak.1 hm with hm|hm
    ·have:=List.any_eq_false.1 e p1[i] (qah e3);simp[hm]at this
    ·rw[<-qbh i p1,qo e3,qcf]at hn;exact hn.2.2 _ hm p1[i] qew rfl
   obtain⟨q1,q2⟩:=sPut hm;rw[q1,q2];refine⟨by omega,by omega,by simp[trs],⟨i+1,rfl,by omega,?_,rfl⟩,by(dsimp only;omega)⟩;rw[qr e3,qw]
  ·have e3:i=p1.length:=by have:=qc e3;omega
   subst e3;rw[qbd];exact⟨rfl,rfl,rfl⟩
noncomputable def k8i:Ct:= .gp 128 [.st 6] [.bool] [] fun(p0:wI)=>(FV p0,true,())
theorem k41:k8i.O:=qrv Bs Tryz.func128 (.r 2 (.nd [] (.r 0 (.lp [] ⟨[],[],[36],[.one (zqi)],[]⟩ .no)) [] .no)) c0 (Q:=∀(p0:wI),(FV p0)->∀r0:Bool,(true:Bool)=r0-> 
(decide (p0.wD<1)=true->
false=r0)/\
(decide (p0.wD<1)=false->
(decide (12<p0.wD)=true->
false=r0)/\
(decide (12<p0.wD)=false->
(decide (p0.wAY<0)=true->
false=r0)/\
(decide (p0.wAY<0)=false->
(0<=p0.wD)/\let v1:Bool:=decide ((ishl .i64 1 p0.wD)<p0.wAY)
(v1=true->
false=r0)/\
(v1=false->
let v2:Bool:=((p0.wAa.length:Int) !=(i64.wrap (p0.wD+1)))
(v2=true->
false=r0)/\
(v2=false->
∃(I1:Int->Prop) (M1:Int->Nat),I1 0/\∀b1,(I1 b1->
(decide (b1<(p0.wAa.length:Int))=true->
(0<=b1)/\b1<(p0.wAa.length:Int)/\let v3:Bool:=decide (18446744069414584321<=(ix p0.wAa b1))
(v3=true->
false=r0)/\
(v3=false->
(((ix p0.wAa b1) !=0)=true->
(0<=b1)/\let v4:Bool:=((iand .i64 (ishr .i64 p0.wAY b1) 1)==0)
(v4=true->
false=r0)/\
(v4=false->
I1 (i64.wrap (b1+1))/\M1 (i64.wrap (b1+1))<M1 b1))/\
(((ix p0.wAa b1) !=0)=false->
I1 (i64.wrap (b1+1))/\M1 (i64.wrap (b1+1))<M1 b1)))/\
(decide (b1<(p0.wAa.length:Int))=false->
true=r0))))))))<|by
 rintro p0 h _ rfl;obtain⟨d1,d2,c0,c1,ll,u,z⟩:=h;obtain⟨d,hd⟩:=qn (show 0<=p0.wD by omega);obtain⟨n,hn⟩:=qn c0;rw[hd,qx]at c1 ll;rw[hn,qx]at z;have hp:=pow12 d qqo;refine⟨fun e=>(by have:=qb e;omega),fun _=>⟨fun e=>(by have:=qb e;omega),fun _=>⟨fun e=>(by have:=qb e;omega),fun _=>⟨by omega,?_⟩⟩⟩⟩;rw[hd,hn,shl1 d qqo,km _ qqo qqo];refine⟨fun e=>(by have:=qb e;omega),fun _=>⟨fun e=> ?_,fun _=> ?_⟩⟩
 ·have e:¬(p0.wAa.length:Int)=(d:Int)+1:=by simpa using e
  omega
 refine⟨(fun a=>∃i:Nat,a=(i:Int)/\i<=p0.wAa.length),(fun a=>(p0.wAa.length-a).toNat),⟨0,rfl,by omega⟩,?_⟩;rintro _ ⟨i,rfl,hi⟩;refine⟨fun hh=> ?_,fun _=>rfl⟩;have hh:i<p0.wAa.length:=by have:=qb hh;omega
 have hx:=u _ (qah hh);rw[ix_get _ _ hh,inc_i64 _ qqo,bit1 n i qqo qqo];have next:(∃j:Nat,((i+1:Nat):Int)=(j:Int)/\j<=p0.wAa.length)/\((p0.wAa.length:Int)-((i+1:Nat):Int)).toNat<((p0.wAa.length:Int)-(i:Int)).toNat:=⟨⟨i+1,rfl,by omega⟩,by omega⟩
 refine⟨by omega,by omega,fun e=>(by have:=qb e;omega),fun _=>⟨fun e=>⟨by omega,fun e2=> ?_,fun _=>next⟩,fun _=>next⟩⟩;have e:p0.wAa[i]≠0:=by simpa using e
 have e2:((n/2^i%2:Nat):Int)=0:=by simpa using e2
 refine(e (z i hh ?_)).elim;unfold bitN;generalize n/2^i%2=q at *
 have:q=0:=by omega
 rw[this];rfl
noncomputable def kde:Ct:= .gp 93 [.st 7] [.bool] [] fun(p0:wAh)=>(p0.P=18446744069414584321,true,())
theorem k1d:kde.O:=qrv Bs Tryz.func93 .no c0 (Q:=∀(p0:wAh),(p0.P=18446744069414584321)->∀r0:Bool,(true:Bool)=r0-> 
((p0.P==18446744069414584321)=true->
((p0.P==18446744069414584321)=true->
true=r0)/\
((p0.P==18446744069414584321)=false->
false=r0))/\
((p0.P==18446744069414584321)=false->
((p0.P==17)=true->
((p0.P==17)=true->
true=r0)/\
((p0.P==17)=false->
false=r0))/\
((p0.P==17)=false->
((p0.P==97)=true->
((p0.P==97)=true->
true=r0)/\
((p0.P==97)=false->
false=r0))/\
((p0.P==97)=false->
((p0.P==193)=true->
((p0.P==193)=true->
true=r0)/\
((p0.P==193)=false->
false=r0))/\
((p0.P==193)=false->
((p0.P==257)=true->
((p0.P==257)=true->
true=r0)/\
((p0.P==257)=false->
false=r0))/\
((p0.P==257)=false->
((p0.P==12289)=true->
((p0.P==12289)=true->
true=r0)/\
((p0.P==12289)=false->
false=r0))/\
((p0.P==12289)=false->
((p0.P==65537)=true->
true=r0)/\
((p0.P==65537)=false->
false=r0))))))))<|by rintro p0 h _ rfl;refine ?_;simp[h]
noncomputable def kj8:Ct:= .gp 187 [.st 7,yqu,yqu] [yqu] [] fun(p0:wAh) (p1 p2:Int)=>(p0.P=18446744069414584321/\(0<=p1/\p1<18446744069414584321)/\(0<=p2/\p2<18446744069414584321),((p1+p2)%18446744069414584321:Int),())
theorem kmr:kj8.O:=qrx Bs [] Tryz.func187 (.r 1 (.nd [] (.jn ⟨[],[],[22],[.one (.d (.bool))],[]⟩ [] .no [] .no) [] .no)) (x1 x90_ok x0) c0 (Q:=∀(p0:wAh) (p1 p2:Int),(p0.P=18446744069414584321/\(0<=p1/\p1<18446744069414584321)/\(0<=p2/\p2<18446744069414584321))->∀r0:Int,((p1+p2)%18446744069414584321)=r0-> 
(0<=p1/\0<=p2/\0<=(0:Int)/\(0:Int)<=1)/\let r1:Int:=(p1+p2+(0:Int))%18446744073709551616
let r2:Int:=(p1+p2+(0:Int))/18446744073709551616
∀J1:Bool->Prop,(∀(b1:Bool),
((b1=true->
u64.wrap (r1-p0.P)=r0)/\
(b1=false->
r1=r0))->J1 b1)->
((r2 !=0)=true->
J1 true)/\
((r2 !=0)=false->
J1 (decide (p0.P<=r1))))<|by
 rintro p0 p1 p2 h _ rfl;obtain⟨hP,h1,h2⟩:=h;refine⟨by omega,fun J1 j=>⟨fun h=>j _ ⟨fun _=> ?_,fun h=>by simp at h⟩,fun h=>j _ ⟨fun g=> ?_,fun g=> ?_⟩⟩⟩
 ·have h:(p1+p2+0)/18446744073709551616≠0:=by simpa using h
  rw[hP,u64w];omega
 ·have h:(p1+p2+0)/18446744073709551616=0:=by simpa using h
  have g:=qb g;rw[hP]at g ⊢;rw[u64w];omega
 ·have h:(p1+p2+0)/18446744073709551616=0:=by simpa using h
  have g:=qc g;rw[hP]at g;omega
noncomputable def kac:Ct:= .gp 188 [.st 7,yqu] [yqu] [] fun(p0:wAh) (p1:Int)=>(0<p0.P/\0<=p1,(p1%p0.P:Int),())
theorem k1n:kac.O:=qrv Bs Tryz.func188 .no c0 (Q:=∀(p0:wAh) (p1:Int),(0<p0.P/\0<=p1)->∀r0:Int,(p1%p0.P)=r0-> 
(decide (p0.P<=p1)=true->
(p0.P≠0)/\Int.tmod p1 p0.P=r0)/\
(decide (p0.P<=p1)=false->
p1=r0))<|by rintro p0 p1 h _ rfl;refine⟨fun h1=>⟨by omega,tmod_nn _ _ h.2⟩,fun h1=> ?_⟩;simp at h1;rw[qdl qqo qqo]
noncomputable def kix:Ct:= .gp 140 [.st 7,yqu,yqu] [yqu] [] fun(p0:wAh) (p1 p2:Int)=>(p0.P=18446744069414584321/\U64 p1/\U64 p2,((p1+p2)%18446744069414584321:Int),())
theorem k50:kix.O:=qrv Bs Tryz.func140 .no (k1d.c (k1n.c (kmr.c c0))) (Q:=∀(p0:wAh) (p1 p2:Int),(p0.P=18446744069414584321/\U64 p1/\U64 p2)->∀r0:Int,((p1+p2)%18446744069414584321)=r0-> 
(p0.P=18446744069414584321)/\((!true)=true->
0=r0)/\
((!true)=false->
(0<p0.P/\0<=p1)/\(0<p0.P/\0<=p2)/\(p0.P=18446744069414584321/\(0<=(p1%p0.P)/\(p1%p0.P)<18446744069414584321)/\(0<=(p2%p0.P)/\(p2%p0.P)<18446744069414584321))/\let r1:Int:=(((p1%p0.P)+(p2%p0.P))%18446744069414584321)
r1=r0))<|by rintro p0 p1 p2 h _ rfl;obtain⟨hP,h1,h2⟩:=h;refine⟨hP,?_⟩;simp only[hP];refine⟨fun h=>by simp at h,fun _=>⟨by omega,by omega,⟨by trivial,by omega,by omega⟩,?_⟩⟩;omega
noncomputable def kgh:Ct:= .gp 221 [yqu] [yqi] [] fun(p0:Int)=>(U64 p0,(len64 p0:Int),())
theorem kjb:kgh.O:=qrv Bs Tryz.func221 (.r 0 (.jn ⟨[],[],[0,2],[.one (zqu),.one (zqi)],[]⟩ [] .no [] (.jn ⟨[],[],[0,2],[.one (zqu),.one (zqi)],[]⟩ [] .no [] (.jn ⟨[],[],[0,2],[.one (zqu),.one (zqi)],[]⟩ [] .no [] .no)))) c0 (Q:=∀(p0:Int),(U64 p0)->∀r0:Int,len64 p0=r0-> 
∀J1:Int->Int->Prop,(∀(b1 f1:Int),
(∀J2:Int->Int->Prop,(∀(i1 k1:Int),
(∀J3:Int->Int->Prop,(∀(l1 m1:Int),
((0<=IntKind.u8.wrap l1/\IntKind.u8.wrap l1<((⟨#[0,1,2,2,3,3,3,3,4,4,4,4,4,4,4,4,5,5,5,5,5,5,5,5,5,5,5,5,5,5,5,5,6,6,6,6,6,6,6,6,6,6,6,6,6,6,6,6,6,6,6,6,6,6,6,6,6,6,6,6,6,6,6,6,7,7,7,7,7,7,7,7,7,7,7,7,7,7,7,7,7,7,7,7,7,7,7,7,7,7,7,7,7,7,7,7,7,7,7,7,7,7,7,7,7,7,7,7,7,7,7,7,7,7,7,7,7,7,7,7,7,7,7,7,7,7,7,7,8,8,8,8,8,8,8,8,8,8,8,8,8,8,8,8,8,8,8,8,8,8,8,8,8,8,8,8,8,8,8,8,8,8,8,8,8,8,8,8,8,8,8,8,8,8,8,8,8,8,8,8,8,8,8,8,8,8,8,8,8,8,8,8,8,8,8,8,8,8,8,8,8,8,8,8,8,8,8,8,8,8,8,8,8,8,8,8,8,8,8,8,8,8,8,8,8,8,8,8,8,8,8,8,8,8,8,8,8,8,8,8,8,8,8,8,8,8,8,8,8,8,8,8,8,8,8,8]⟩:ByteArray).size:Int))/\let v1:Int:=byteAt (⟨#[0,1,2,2,3,3,3,3,4,4,4,4,4,4,4,4,5,5,5,5,5,5,5,5,5,5,5,5,5,5,5,5,6,6,6,6,6,6,6,6,6,6,6,6,6,6,6,6,6,6,6,6,6,6,6,6,6,6,6,6,6,6,6,6,7,7,7,7,7,7,7,7,7,7,7,7,7,7,7,7,7,7,7,7,7,7,7,7,7,7,7,7,7,7,7,7,7,7,7,7,7,7,7,7,7,7,7,7,7,7,7,7,7,7,7,7,7,7,7,7,7,7,7,7,7,7,7,7,8,8,8,8,8,8,8,8,8,8,8,8,8,8,8,8,8,8,8,8,8,8,8,8,8,8,8,8,8,8,8,8,8,8,8,8,8,8,8,8,8,8,8,8,8,8,8,8,8,8,8,8,8,8,8,8,8,8,8,8,8,8,8,8,8,8,8,8,8,8,8,8,8,8,8,8,8,8,8,8,8,8,8,8,8,8,8,8,8,8,8,8,8,8,8,8,8,8,8,8,8,8,8,8,8,8,8,8,8,8,8,8,8,8,8,8,8,8,8,8,8,8,8,8,8,8,8,8]⟩:ByteArray) (IntKind.u8.wrap l1)
let v2:Int:=i64.wrap (m1+(i64.wrap v1))
v2=r0)->J3 l1 m1)->
(decide (256<=i1)=true->
J3 (ishr .u64 i1 8) (i64.wrap (k1+8)))/\
(decide (256<=i1)=false->
J3 i1 k1))->J2 i1 k1)->
(decide (65536<=b1)=true->
J2 (ishr .u64 b1 16) (i64.wrap (f1+16)))/\
(decide (65536<=b1)=false->
J2 b1 f1))->J1 b1 f1)->
(decide (4294967296<=p0)=true->
J1 (ishr .u64 p0 32) 32)/\
(decide (4294967296<=p0)=false->
J1 p0 0))<|by
 rintro p0 h _ rfl;intro J1 j1
 have j1:∀s0 s2:Int,0<=s0->s0<4294967296->0<=s2->s2<=32->len64 p0=s2+len64 s0->J1 s0 s2:=fun s0 s2 h0 h1 h2 h3 h4=>by
  refine j1 _ _ fun J2 j2=> ?_
  have j2:∀s0 s2:Int,0<=s0->s0<65536->0<=s2->s2<=48->len64 p0=s2+len64 s0->J2 s0 s2:=fun s0 s2 h0 h1 h2 h3 h4=>by
   refine j2 _ _ fun J3 j3=> ?_
   have j3:∀s0 s2:Int,0<=s0->s0<256->0<=s2->s2<=56->len64 p0=s2+len64 s0->J3 s0 s2:=fun s0 s2 h0 h1 h2 h3 h4=>by
    refine j3 _ _ ?_;have e:IntKind.u8.wrap s0=s0:=by rw[u8w];omega
    have l:=kn8 s0 ⟨h0,h1⟩;show(0<=IntKind.u8.wrap s0/\IntKind.u8.wrap s0<(tab8.size:Int))/\i64.wrap (s2+i64.wrap (byteAt tab8 (IntKind.u8.wrap s0)))=_;rw[e,kqm,kma s0 ⟨h0,h1⟩,wi (len64 s0) qqo qqo,wi (s2+len64 s0) qqo qqo,h4];exact⟨⟨h0,h1⟩,rfl⟩
   refine⟨fun h=> ?_,fun h=>j3 s0 s2 h0 qqh h2 qqo h4⟩;have h:=qb h;rw[<-k5l s0 8 qqh,<-Int.add_assoc,Int.add_right_comm]at h4;rw[ishr8,wi _ qqo qqo];exact j3 _ _ qqo qqo qqo qqo qqo
  refine⟨fun h=> ?_,fun h=>j2 s0 s2 h0 qqh h2 qqo h4⟩;have h:=qb h;rw[<-k5l s0 16 qqh,<-Int.add_assoc,Int.add_right_comm]at h4;rw[ishr16,wi _ qqo qqo];exact j2 _ _ qqo qqo qqo qqo qqo
 refine⟨fun h1=> ?_,fun h1=> ?_⟩
 ·have h1:=qb h1;rw[ishr32];exact j1 _ _ qqo qqo qqo qqo (by rw[<-k5l p0 32 (by simpa using h1),Int.add_comm];rfl)
 ·exact j1 p0 0 h.1 (by simpa using h1) qqo qqo qqo
noncomputable def k55:Ct:= .gp 201 [yqu] [yqi] [] fun(p0:Int)=>(0<p0/\p0<18446744073709551616,(64-len64 p0:Int),())
theorem k5v:k55.O:=qrv Bs Tryz.func201 .no (kjb.c c0) (Q:=∀(p0:Int),(0<p0/\p0<18446744073709551616)->∀r0:Int,(64-len64 p0)=r0-> 
(U64 p0)/\i64.wrap (64-(len64 p0))=r0)<|by rintro p0 h _ rfl;obtain⟨s,e,h1,_⟩:=kef p0 h;refine⟨⟨by omega,h.2⟩,?_⟩;exact wi _ qqo qqo
noncomputable def kfm:Ct:= .gp 158 [yqu,yqu,yqu] [yqu,yqu] [] fun(p0 p1 p2:Int)=>(U64 p0/\U64 p1/\U64 p2/\p0<p2,((p0*18446744073709551616+p1)/p2:Int),((p0*18446744073709551616+p1)%p2:Int),())
theorem k7r:kfm.O:=qrv Bs Tryz.func158 (.r 13 (.jn ⟨[],[],[15,16],[.one (zqu),.one (.any)],[]⟩ [] (.lp [] ⟨[],[],[15,16],[.one (zqu),.one (zqu)],[]⟩ (.jn ⟨[],[],[],[],[]⟩ [] .no [] .no)) [] (.r 2 (.jn ⟨[],[],[16,18],[.one (.any),.one (zqu)],[]⟩ [] (.lp [] ⟨[],[],[16,18],[.one (zqu),.one (zqu)],[]⟩ (.jn ⟨[],[],[],[],[]⟩ [] .no [] .no)) [] .no)))) (k5v.c c0) (Q:=∀(p0 p1 p2:Int),(U64 p0/\U64 p1/\U64 p2/\p0<p2)->∀r0:Int,((p0*18446744073709551616+p1)/p2)=r0->∀r1:Int,((p0*18446744073709551616+p1)%p2)=r1-> 
((p2==0)=true->
False)/\
((p2==0)=false->
(decide (p2<=p0)=true->
False)/\
(decide (p2<=p0)=false->
((p0==0)=true->
(p2≠0)/\(p2≠0)/\u64.wrap (Int.tdiv p1 p2)=r0/\Int.tmod p1 p2=r1)/\
((p0==0)=false->
(0<p2/\p2<18446744073709551616)/\(0<=u64.wrap (64-len64 p2))/\let v2:Int:=ishl .u64 p2 (u64.wrap (64-len64 p2))
(0<=u64.wrap (64-len64 p2))/\let v3:Int:=ishl .u64 p0 (u64.wrap (64-len64 p2))
let v4:Int:=u64.wrap (64-(u64.wrap (64-len64 p2)))
(0<=v4)/\(0<=u64.wrap (64-len64 p2))/\let v5:Int:=ishl .u64 p1 (u64.wrap (64-len64 p2))
(ishr .u64 v2 32≠0)/\let v6:Int:=u64.wrap (Int.tdiv (ior .u64 v3 (ishr .u64 p1 v4)) (ishr .u64 v2 32))
let v7:Int:=u64.wrap (v6*(ishr .u64 v2 32))
let v8:Int:=u64.wrap ((ior .u64 v3 (ishr .u64 p1 v4))-v7)
∀J1:Int->Prop,(∀(b1:Int),
(let v12:Int:=u64.wrap ((ior .u64 v3 (ishr .u64 p1 v4))*4294967296)
let v13:Int:=u64.wrap (v12+(ishr .u64 v5 32))
let v14:Int:=u64.wrap (v13-(u64.wrap (b1*v2)))
(ishr .u64 v2 32≠0)/\let v15:Int:=u64.wrap (Int.tdiv v14 (ishr .u64 v2 32))
let v16:Int:=u64.wrap (v15*(ishr .u64 v2 32))
∀J3:Int->Prop,(∀(k1:Int),
(let v20:Int:=u64.wrap ((u64.wrap (b1*4294967296))+k1)
let v21:Int:=u64.wrap ((u64.wrap (v14*4294967296))+(iand .u64 v5 4294967295))
let v22:Int:=u64.wrap (v21-(u64.wrap (k1*v2)))
(0<=u64.wrap (64-len64 p2))/\let v23:Int:=ishr .u64 v22 (u64.wrap (64-len64 p2))
v20=r0/\v23=r1)->J3 k1)->
∃(I2:Int->Int->Prop) (M2:Int->Int->Nat),I2 (u64.wrap (v14-v16)) v15/\∀l1 m1,(I2 l1 m1->
∀J4:Prop,((let v19:Int:=u64.wrap (l1+(ishr .u64 v2 32))
(decide (4294967296<=v19)=true->
J3 (u64.wrap (m1-1)))/\
(decide (4294967296<=v19)=false->
I2 v19 (u64.wrap (m1-1))/\M2 v19 (u64.wrap (m1-1))<M2 l1 m1))->J4)->
(decide (4294967296<=m1)=true->
J4)/\
(decide (4294967296<=m1)=false->
let v17:Int:=u64.wrap (m1*(iand .u64 v2 4294967295))
let v18:Int:=u64.wrap ((u64.wrap (4294967296*l1))+(iand .u64 v5 4294967295))
(decide (v18<v17)=true->
J4)/\
(decide (v18<v17)=false->
J3 m1))))->J1 b1)->
∃(I1:Int->Int->Prop) (M1:Int->Int->Nat),I1 v6 v8/\∀f1 i1,(I1 f1 i1->
∀J2:Prop,((let v11:Int:=u64.wrap (i1+(ishr .u64 v2 32))
(decide (4294967296<=v11)=true->
J1 (u64.wrap (f1-1)))/\
(decide (4294967296<=v11)=false->
I1 (u64.wrap (f1-1)) v11/\M1 (u64.wrap (f1-1)) v11<M1 f1 i1))->J2)->
(decide (4294967296<=f1)=true->
J2)/\
(decide (4294967296<=f1)=false->
let v9:Int:=u64.wrap (f1*(iand .u64 v2 4294967295))
let v10:Int:=u64.wrap ((u64.wrap (4294967296*i1))+(ishr .u64 v5 32))
(decide (v10<v9)=true->
J2)/\
(decide (v10<v9)=false->
J1 f1)))))))<|by
 rintro p0 p1 p2 h _ rfl _ rfl;obtain⟨h0,h1,h2,hlt⟩:=h;refine⟨fun e=> ?_,fun _=>⟨fun e=> ?_,fun _=>⟨fun e=> ?_,fun _=> ?_⟩⟩⟩
 ·simp at e;omega
 ·simp at e;omega
 ·have e:p0=0:=by simpa using e
  subst e;rw[tdiv_nn _ _ h1.1,tmod_nn _ _ h1.1,Int.zero_mul,Int.zero_add];have:=Int.ediv_le_self p2 h1.1;have:=qdi h1.1 h2.1;exact⟨by omega,by omega,wu _ qqo (by have:=Int.ediv_le_self p2 h1.1;omega),rfl⟩
 obtain⟨s,e,hs,n1,n2⟩:=kef p2 ⟨by omega,h2.2⟩;have ew:u64.wrap (64-len64 p2)=(s:Int):=by rw[e,wu _ qqo qqo]
 have ew3:u64.wrap (64-(s:Int))=((64-s:Nat):Int):=by rw[wu _ qqo qqo];omega
 have hp:0<2^s:=qbw s;have hp' :0<2^(64-s):=qbw _;have hpp:2^s*2^(64-s)=18446744073709551616:=by rw[<-Nat.pow_add,show s+(64-s)=64 by omega]
 have hP:((2^s:Nat):Int)*((2^(64-s):Nat):Int)=18446744073709551616:=by rw[<-qdu,hpp];rfl
 have il:∀a:Int,ishl .u64 a (s:Int)=a*((2^s:Nat):Int)%18446744073709551616:=fun a=>by rw[kkn,qx,qca qqo]
 have ir:∀a:Int,ishr .u64 a (s:Int)=a/((2^s:Nat):Int):=fun a=>by rw[k1e,qx,show min s u64.bits=s from qca (by show s<=64;omega)]
 have ir' :∀a:Int,ishr .u64 a ((64-s:Nat):Int)=a/((2^(64-s):Nat):Int):=fun a=>by rw[k1e,qx,show min (64-s) u64.bits=64-s from qca (by show 64-s<=64;omega)]
 have hor:∀c:Int,0<=c->c<((2^s:Nat):Int)->p0*((2^s:Nat):Int)+c<18446744073709551616->ior .u64 (p0*((2^s:Nat):Int)) c=p0*((2^s:Nat):Int)+c:=by intro c hc0 hc1 hc2;obtain⟨a,rfl⟩:=qn h0.1;obtain⟨c,rfl⟩:=qn hc0;have key:=ior_add' c a s qqo;rw[qeh,<-qdu]at hc2 ⊢;rw[key qqo];omega
 simp only[ew,ew3,il,ir',ishr32];have hP'0:(0:Int)<((2^(64-s):Nat):Int):=by omega
 generalize hPd:((2^s:Nat):Int)=P at *
 generalize hPd' :((2^(64-s):Nat):Int)=P' at *
 have hP0:0<P:=by omega
 have hlo:p1/P' <P:=qff hP'0 qqo;have hlo0:0<=p1/P' :=qdi h1.1 qqo;have hUv:p0*P+P<=p2*P:=by have:(p0+1)*P<=p2*P:=Int.mul_le_mul_of_nonneg_right qqo qqo;grind
 have hUp:0<=p0*P:=qcs h0.1 qqo;rw[qdl (a:=p2*P) qqo n2,qdl (a:=p0*P) hUp qqo,hor _ hlo0 hlo qqo]
 have hN:(p0*18446744073709551616+p1)*P=(p0*P+p1/P')*18446744073709551616+(p1*P%18446744073709551616/4294967296)*4294967296+p1*P%18446744073709551616%4294967296:=by
  have h5:p1*P/18446744073709551616=p1/P' :=by rw[<-hP,qeh p1 P,Int.mul_ediv_mul_of_pos _ _ hP0]
  have h6:=qdz (p1*P) 18446744073709551616;rw[h5]at h6;have:(p0*18446744073709551616+p1)*P=p0*P*18446744073709551616+p1*P:=by grind
  rw[this];generalize p1*P=w at *
  generalize p0*P=w' at *
  omega
 have hlb:0<=p1*P%18446744073709551616/\p1*P%18446744073709551616<18446744073709551616:=⟨qcb _ qqo,qbt _ qqo⟩;generalize hUd:p0*P+p1/P' =U at *
 generalize hLd:p1*P%18446744073709551616=L at *
 have hVd:p2*P/4294967296*4294967296+p2*P%4294967296=p2*P:=by omega
 have hw:∀{Q R V' :Int},R-Q=V'->0<=V'->V' <18446744073709551616->∀A,R=A*4294967296+(R-A*4294967296)->u64.wrap (u64.wrap (u64.wrap (A*4294967296)+(R-A*4294967296))-u64.wrap Q)=V' :=by intro Q R V' hv h0 h1 A hA;simp only[u64w];omega
 rw[k2f (p2*P) qqo,k2f L qqo];generalize ha:p2*P/4294967296=a at *
 generalize hb:p2*P%4294967296=b at *
 have hQ1:Half U (L/4294967296) a b ((U*4294967296+L/4294967296)/(a*4294967296+b)):=⟨by omega,by omega,by omega,by omega,by omega,rfl⟩;have hr1:=hQ1.rest;have hq1:=hQ1.q;generalize (U*4294967296+L/4294967296)/(a*4294967296+b)=Q1 at *
 generalize (U*4294967296+L/4294967296)%(a*4294967296+b)=R1 at *
 have hQ0:Half R1 (L%4294967296) a b ((R1*4294967296+L%4294967296)/(a*4294967296+b)):=⟨by omega,by omega,by omega,by omega,by omega,rfl⟩;have hr0:=hQ0.rest;have hq0:=hQ0.q;generalize (R1*4294967296+L%4294967296)/(a*4294967296+b)=Q0 at *
 generalize (R1*4294967296+L%4294967296)%(a*4294967296+b)=R0 at *
 rw[hVd]at hr1 hr0 hq1 hq0;have fin:=kof hP0 (by omega:0<p2) hN hr1.1 hr0.1 ⟨hr0.2.1,hr0.2.2⟩
 have aux:∀{U x Q q r:Int},Half U x a b Q->U<18446744073709551616->q*a+r=U->Q<=q->0<=r->q<=8589934592:=by
  intro U x Q q r hh hU e hQ hr;have h1:=hh.ha;refine Int.le_of_lt_add_one (qdd (a:=a) ?_ qqo);generalize q*a=w at *
  omega
 have init:∀{U x Q:Int},Half U x a b Q->Q<=U/a:=by
  intro U x Q hh;have h1:=hh.ha;have h2:=hh.q;have h3:=hh.hb;have h4:=hh.hx;refine(Int.le_ediv_iff_mul_le qqo).2 ?_;have h5:Q*(a*4294967296+b)=Q*a*4294967296+Q*b:=by grind
  have h6:0<=Q*b:=qcs h2.1 h3.1;generalize Q*a=w at *
  omega
 have hd:=qdz U a;have hd1:=qcb U (by omega:a≠0);have hd2:=qbt U (by omega:0<a);have hd3:0<=U/a:=qdi qqo qqo;rw[qeh]at hd;have hd5:0<=U/a*a:=qcs hd3 qqo;have hd4:=aux hQ1 qqo (q:=U/a) (r:=U%a) qqo (init hQ1) hd1;rw[tdiv_nn _ _ qqo,wu (U/a) qqo qqo,wu (U/a*a) qqo qqo,show U-U/a*a=U%a by omega,wu (U%a) qqo qqo];refine⟨⟨by omega,h2.2⟩,by omega,by omega,by omega,by omega,by omega,fun J1 k1=> ?_⟩
 have j2:J1 Q1:=by
  have e1:=hw (Q:=Q1*(p2*P)) (R:=U*4294967296+L/4294967296) hr1.1 hr1.2.1 qqo U qqo;rw[show U*4294967296+L/4294967296-U*4294967296=L/4294967296 by omega]at e1;refine k1 _ ?_;simp only[e1];have hd:=qdz R1 a;have hd1:=qcb R1 (by omega:a≠0);have hd2:=qbt R1 (by omega:0<a);have hd3:0<=R1/a:=qdi hr1.2.1 qqo;rw[qeh]at hd;have hd5:0<=R1/a*a:=qcs hd3 qqo;have hd4:=aux hQ0 qqo (q:=R1/a) (r:=R1%a) qqo (init hQ0) hd1;rw[tdiv_nn _ _ hr1.2.1,wu (R1/a) qqo qqo,wu (R1/a*a) qqo qqo,show R1-R1/a*a=R1%a by omega,wu (R1%a) qqo qqo];refine⟨by omega,fun J3 k3=> ?_⟩
  have j4:J3 Q0:=by
   refine k3 _ ⟨by omega,?_,?_⟩
   ·rw[wu (Q1*4294967296) qqo qqo,wu _ qqo qqo];exact fin.1
   ·have:=hw (Q:=Q0*(p2*P)) (R:=R1*4294967296+L%4294967296) hr0.1 hr0.2.1 qqo R1 qqo;rw[show R1*4294967296+L%4294967296-R1*4294967296=L%4294967296 by omega]at this;rw[this,ir];exact fin.2
  refine⟨fun r q=>q*a+r=R1/\Q0<=q/\0<=r/\r<4294967296,fun r q=>q.toNat,⟨by omega,init hQ0,hd1,by omega⟩,?_⟩;rintro r q ⟨g1,g2,g3,g4⟩ J4 k4;have g5:=aux hQ0 qqo g1 g2 g3;have nxt:Q0<=q-1->r+a<4294967296->((q-1)*a+(r+a)=R1/\Q0<=q-1/\0<=r+a/\r+a<4294967296)/\(q-1).toNat<q.toNat:=fun h1 h2=>⟨⟨by grind,h1,by omega,h2⟩,by(first|omega|(dsimp only;omega))⟩;have j3:Q0<=q-1->J4:=by intro hq;refine k4 ?_;rw[wu (q-1) qqo qqo,wu (r+a) qqo qqo];refine⟨fun hd=> ?_,fun hd=>nxt hq (by simpa using hd)⟩;have hd:4294967296<=r+a:=qb hd;rw[hQ0.done (q:=q-1) (r:=r+a) (by grind) hq hd];exact j4
  refine⟨fun hd=>j3 (hQ0.down g1 (.inl (qb hd))),fun hd=> ?_⟩;have hd:q<4294967296:=by simpa using hd
  have hqb:0<=q*b/\q*b<18446744073709551616:=by have:=hQ0.hb;have h1:q*b<=4294967295*4294967295:=qdr qqo qqo qqo qqo;exact⟨qcs qqo qqo,by(first|omega|(dsimp only;omega))⟩
  have:=hQ0.hx;rw[wu (q*b) qqo qqo,wu (4294967296*r) qqo qqo,wu (4294967296*r+L%4294967296) qqo qqo];refine⟨fun ht=> ?_,fun ht=> ?_⟩
  ·have ht:4294967296*r+L%4294967296<q*b:=qb ht;exact j3 (hQ0.down g1 (.inr qqo))
  ·have ht:¬(4294967296*r+L%4294967296<q*b):=qc ht;rw[hQ0.exit g1 g2 qqo];exact j4
 refine⟨fun q r=>q*a+r=U/\Q1<=q/\0<=r/\r<4294967296,fun q r=>q.toNat,⟨by omega,init hQ1,hd1,by omega⟩,?_⟩;rintro q r ⟨g1,g2,g3,g4⟩ J2 k2;have g5:=aux hQ1 qqo g1 g2 g3;have nxt:Q1<=q-1->r+a<4294967296->((q-1)*a+(r+a)=U/\Q1<=q-1/\0<=r+a/\r+a<4294967296)/\(q-1).toNat<q.toNat:=fun h1 h2=>⟨⟨by grind,h1,by omega,h2⟩,by(first|omega|(dsimp only;omega))⟩;have j1:Q1<=q-1->J2:=by intro hq;refine k2 ?_;rw[wu (q-1) qqo qqo,wu (r+a) qqo qqo];refine⟨fun hd=> ?_,fun hd=>nxt hq (by simpa using hd)⟩;have hd:4294967296<=r+a:=qb hd;rw[hQ1.done (q:=q-1) (r:=r+a) (by grind) hq hd];exact j2
 refine⟨fun hd=>j1 (hQ1.down g1 (.inl (qb hd))),fun hd=> ?_⟩;have hd:q<4294967296:=by simpa using hd
 have hqb:0<=q*b/\q*b<18446744073709551616:=by have:=hQ1.hb;have h1:q*b<=4294967295*4294967295:=qdr qqo qqo qqo qqo;exact⟨qcs qqo qqo,by(first|omega|(dsimp only;omega))⟩
 have:=hQ1.hx;rw[wu (q*b) qqo qqo,wu (4294967296*r) qqo qqo,wu (4294967296*r+L/4294967296) qqo qqo];refine⟨fun ht=> ?_,fun ht=> ?_⟩
 ·have ht:4294967296*r+L/4294967296<q*b:=qb ht;exact j1 (hQ1.down g1 (.inr qqo))
 ·have ht:¬(4294967296*r+L/4294967296<q*b):=qc ht;rw[hQ1.exit g1 g2 qqo];exact j2
noncomputable def kfw:Ct:= .gp 157 [yqu,yqu] [yqu,yqu] [] fun(p0 p1:Int)=>(U64 p0/\U64 p1,(p0*p1/18446744073709551616:Int),(p0*p1%18446744073709551616:Int),())
theorem k7x:kfw.O:=qrv Bs Tryz.func157 .no c0 (Q:=∀(p0 p1:Int),(U64 p0/\U64 p1)->∀r0:Int,(p0*p1/18446744073709551616)=r0->∀r1:Int,(p0*p1%18446744073709551616)=r1-> 
let v2:Int:=u64.wrap ((iand .u64 p0 4294967295)*(iand .u64 p1 4294967295))
let v3:Int:=u64.wrap ((ishr .u64 p0 32)*(iand .u64 p1 4294967295))
let v4:Int:=u64.wrap (v3+(ishr .u64 v2 32))
let v5:Int:=u64.wrap ((iand .u64 p0 4294967295)*(ishr .u64 p1 32))
let v6:Int:=u64.wrap ((iand .u64 v4 4294967295)+v5)
let v7:Int:=u64.wrap ((ishr .u64 p0 32)*(ishr .u64 p1 32))
let v8:Int:=u64.wrap (v7+(ishr .u64 v4 32))
let v9:Int:=u64.wrap (v8+(ishr .u64 v6 32))
v9=r0/\u64.wrap (p0*p1)=r1)<|by
 rintro p0 p1 h _ rfl _ rfl;obtain⟨h0,h1⟩:=h;have k:=krq p0 p1 h0 h1;refine ?_;simp only[k2f p0 h0,k2f p1 h1,ishr32];obtain⟨e,k1,k2,k3,k4,k5,k6,k7,k8⟩:=k;rw[<-e];rw[wu (p0%4294967296*(p1%4294967296)) qqo qqo,wu (p0/4294967296*(p1%4294967296)) qqo qqo,wu (p0%4294967296*(p1/4294967296)) qqo qqo,wu (p0/4294967296*(p1/4294967296)) qqo qqo];generalize p0%4294967296*(p1%4294967296)=a at *
 generalize p0/4294967296*(p1%4294967296)=b at *
 generalize p0%4294967296*(p1/4294967296)=c at *
 generalize p0/4294967296*(p1/4294967296)=d at *
 rw[wu (b+a/4294967296) qqo qqo,k2f _ qqo];simp only[u64w];refine⟨?_,trivial⟩;omega
noncomputable def kji:Ct:= .gp 189 [.st 7,yqu,yqu] [yqu] [] fun(p0:wAh) (p1 p2:Int)=>(p0.P=18446744069414584321/\(0<=p1/\p1<18446744069414584321)/\(0<=p2/\p2<18446744069414584321),(p1*p2%18446744069414584321:Int),())
theorem k8x:kji.O:=qrv Bs Tryz.func189 .no (k7x.c (k7r.c c0)) (Q:=∀(p0:wAh) (p1 p2:Int),(p0.P=18446744069414584321/\(0<=p1/\p1<18446744069414584321)/\(0<=p2/\p2<18446744069414584321))->∀r0:Int,(p1*p2%18446744069414584321)=r0-> 
(U64 p1/\U64 p2)/\(U64 (p1*p2/18446744073709551616)/\U64 (p1*p2%18446744073709551616)/\U64 p0.P/\(p1*p2/18446744073709551616)<p0.P)/\let r1:Int:=(((p1*p2/18446744073709551616)*18446744073709551616+(p1*p2%18446744073709551616))/p0.P)
let r2:Int:=(((p1*p2/18446744073709551616)*18446744073709551616+(p1*p2%18446744073709551616))%p0.P)
r2=r0)<|by
 rintro p0 p1 p2 h _ rfl;obtain⟨hP,h1,h2⟩:=h;have h3:0<=p1*p2:=qcs h1.1 h2.1;have h4:p1*p2<=18446744069414584320*18446744069414584320:=qdr qqo qqo h2.1 qqo;refine⟨⟨by omega,by omega⟩,?_⟩;simp only[hP];generalize p1*p2=m at *
 refine⟨⟨⟨by omega,by omega⟩,⟨by omega,by omega⟩,by omega,by omega⟩,?_⟩;rw[show m/18446744073709551616*18446744073709551616+m%18446744073709551616=m by omega]
noncomputable def kj5:Ct:= .gp 141 [.st 7,yqu,yqu] [yqu] [] fun(p0:wAh) (p1 p2:Int)=>(p0.P=18446744069414584321/\U64 p1/\U64 p2,(p1*p2%18446744069414584321:Int),())
theorem kl8:kj5.O:=qrv Bs Tryz.func141 .no (k1d.c (k1n.c (k8x.c c0))) (Q:=∀(p0:wAh) (p1 p2:Int),(p0.P=18446744069414584321/\U64 p1/\U64 p2)->∀r0:Int,(p1*p2%18446744069414584321)=r0-> 
(p0.P=18446744069414584321)/\((!true)=true->
0=r0)/\
((!true)=false->
(0<p0.P/\0<=p1)/\(0<p0.P/\0<=p2)/\(p0.P=18446744069414584321/\(0<=(p1%p0.P)/\(p1%p0.P)<18446744069414584321)/\(0<=(p2%p0.P)/\(p2%p0.P)<18446744069414584321))/\let r1:Int:=((p1%p0.P)*(p2%p0.P)%18446744069414584321)
r1=r0))<|by rintro p0 p1 p2 h _ rfl;obtain⟨hP,h1,h2⟩:=h;refine⟨hP,?_⟩;simp only[hP];refine⟨fun h=>by simp at h,fun _=>⟨by omega,by omega,⟨by trivial,by omega,by omega⟩,?_⟩⟩;exact(qcv _ _ _).symm
noncomputable def kar:Ct:= .gp 218 [.st 7] [yqu,yqi,yqu] [] fun(p0:wAh)=>(p0.P=18446744069414584321,(7:Int),(32:Int),(7:Int),())
theorem kci:kar.O:=qrv Bs Tryz.func218 .no c0 (Q:=∀(p0:wAh),(p0.P=18446744069414584321)->∀r0:Int,(7:Int)=r0->∀r1:Int,(32:Int)=r1->∀r2:Int,(7:Int)=r2-> 
((p0.P==17)=true->
3=r0/\4=r1/\3=r2)/\
((p0.P==17)=false->
((p0.P==97)=true->
5=r0/\5=r1/\5=r2)/\
((p0.P==97)=false->
((p0.P==193)=true->
5=r0/\6=r1/\5=r2)/\
((p0.P==193)=false->
((p0.P==257)=true->
3=r0/\8=r1/\3=r2)/\
((p0.P==257)=false->
((p0.P==12289)=true->
11=r0/\12=r1/\5=r2)/\
((p0.P==12289)=false->
((p0.P==65537)=true->
3=r0/\16=r1/\3=r2)/\
((p0.P==65537)=false->
((p0.P==18446744069414584321)=true->
7=r0/\32=r1/\7=r2)/\
((p0.P==18446744069414584321)=false->
0=r0/\0=r1/\0=r2))))))))<|by rintro p0 h _ rfl _ rfl _ rfl;refine ?_;simp[h]
noncomputable def k9q:Ct:= .gp 190 [.st 7] [yqu] [] fun(p0:wAh)=>(p0.P=18446744069414584321,(7:Int),())
theorem kal:k9q.O:=qrv Bs Tryz.func190 .no (kci.c c0) (Q:=∀(p0:wAh),(p0.P=18446744069414584321)->∀r0:Int,(7:Int)=r0-> 
(p0.P=18446744069414584321)/\7=r0)<|by rintro p0 h _ rfl;exact⟨h,rfl⟩
noncomputable def kie:Ct:= .gp 219 [.st 7,yqu,yqu] [yqu] [] fun(p0:wAh) (p1 p2:Int)=>(p0.P=18446744069414584321/\(0<=p1/\p1<18446744069414584321)/\U64 p2,(pw p1 p2:Int),())
theorem kkh:kie.O:=qrv Bs Tryz.func219 (.r 1 (.nd [] (.lp [] ⟨[],[],[1,2,7],[.one (zqu),.one (zqu),.one (zqu)],[]⟩ (.r 0 (.jn ⟨[],[],[7],[.one (zqu)],[]⟩ [] .no [] .no))) [] .no)) (k8x.c c0) (Q:=∀(p0:wAh) (p1 p2:Int),(p0.P=18446744069414584321/\(0<=p1/\p1<18446744069414584321)/\U64 p2)->∀r0:Int,pw p1 p2=r0-> 
∃(I1:Int->Int->Int->Prop) (M1:Int->Int->Int->Nat),I1 p1 p2 1/\∀b1 f1 i1,(I1 b1 f1 i1->
(decide (0<f1)=true->
∀J1:Int->Prop,(∀(k1:Int),
((decide (0<(ishr .u64 f1 1))=true->
(p0.P=18446744069414584321/\(0<=b1/\b1<18446744069414584321)/\(0<=b1/\b1<18446744069414584321))/\I1 (b1*b1%18446744069414584321) (ishr .u64 f1 1) k1/\M1 (b1*b1%18446744069414584321) (ishr .u64 f1 1) k1<M1 b1 f1 i1)/\
(decide (0<(ishr .u64 f1 1))=false->
I1 b1 (ishr .u64 f1 1) k1/\M1 b1 (ishr .u64 f1 1) k1<M1 b1 f1 i1))->J1 k1)->
(((iand .u64 f1 1)==1)=true->
(p0.P=18446744069414584321/\(0<=i1/\i1<18446744069414584321)/\(0<=b1/\b1<18446744069414584321))/\J1 (i1*b1%18446744069414584321))/\
(((iand .u64 f1 1)==1)=false->
J1 i1))/\
(decide (0<f1)=false->
i1=r0)))<|by
 rintro p0 p1 p2 h _ rfl;obtain⟨hP,h1,h2⟩:=h;rw[hP];refine⟨fun a e r=>(0<=a/\a<18446744069414584321)/\U64 e/\(0<=r/\r<18446744069414584321)/\(r*a^e.toNat)%18446744069414584321=pw p1 p2,fun a e r=>e.toNat,⟨h1,h2,by omega,by rw[Int.one_mul];rfl⟩,?_⟩;rintro a e r ⟨ha,he,hr,hv⟩;refine⟨fun h J1 j=> ?_,fun h=> ?_⟩
 ·have h:=qb h
  have jj:∀r',(0<=r'/\r' <18446744069414584321)->(r' *(a*a)^(e/2).toNat)%18446744069414584321=pw p1 p2->J1 r' :=by
   intro r' hr' hv';have hn:∀a',(0<=a'/\a' <18446744069414584321)->r' *a' ^(e/2).toNat%18446744069414584321=pw p1 p2->((0<=a'/\a' <18446744069414584321)/\U64 (e/2)/\(0<=r'/\r' <18446744069414584321)/\r' *a' ^(e/2).toNat%18446744069414584321=pw p1 p2)/\(e/2).toNat<e.toNat:=fun a' h1 h3=>⟨⟨h1,⟨by omega,by omega⟩,hr',h3⟩,by(first|omega|(dsimp only;omega))⟩;refine j _ ?_;rw[ishr1];refine⟨fun h=>⟨⟨rfl,ha,ha⟩,?_⟩,fun h=> ?_⟩
   ·refine hn _ ⟨qcb _ qqo,qbt _ qqo⟩ ?_;rw[<-hv',qcv,qcv r' ((a*a)^_),k6y]
   ·have h:¬0<e/2:=qc h;refine hn _ ha ?_;rw[show(e/2).toNat=0 by omega]at hv' ⊢;simpa using hv'
  rw[ksd e he];have hpow:∀k:Nat,a^(2*k)=(a*a)^k:=fun k=>by rw[Int.pow_mul];congr 1;rw[qcl,qcl,Int.pow_zero,Int.one_mul]
  refine⟨fun h1=>⟨⟨rfl,hr,ha⟩,?_⟩,fun h1=> ?_⟩
  ·have h1:e%2=1:=by simpa using h1
   refine jj _ ⟨qcb _ qqo,qbt _ qqo⟩ ?_;rw[<-hv,show e.toNat=2*(e/2).toNat+1 by omega,qcl,hpow,qcv,qdj _ (qex _),<-qcv];congr 1;grind
  ·have h1:¬e%2=1:=by simpa using h1
   refine jj _ hr ?_;rw[<-hv,<-hpow,show e.toNat=2*(e/2).toNat by omega]
 ·have h:¬0<e:=qc h;rw[show e.toNat=0 by omega,Int.pow_zero,Int.mul_one,qdl hr.1 hr.2]at hv;exact hv
noncomputable def kii:Ct:= .gp 191 [.st 7,yqu,yqu] [yqu] [] fun(p0:wAh) (p1 p2:Int)=>(p0.P=18446744069414584321/\U64 p1/\U64 p2,(pw (p1%18446744069414584321) p2:Int),())
theorem kl7:kii.O:=qrv Bs Tryz.func191 .no (k1d.c (k1n.c (kkh.c c0))) (Q:=∀(p0:wAh) (p1 p2:Int),(p0.P=18446744069414584321/\U64 p1/\U64 p2)->∀r0:Int,(pw (p1%18446744069414584321) p2)=r0-> 
(p0.P=18446744069414584321)/\((!true)=true->
0=r0)/\
((!true)=false->
(0<p0.P/\0<=p1)/\(p0.P=18446744069414584321/\(0<=(p1%p0.P)/\(p1%p0.P)<18446744069414584321)/\U64 p2)/\(pw (p1%p0.P) p2)=r0))<|by rintro p0 p1 p2 h _ rfl;obtain⟨hP,h1,h2⟩:=h;refine⟨hP,fun h=>by simp at h,fun _=>⟨by omega,?_⟩⟩;simp only[hP];exact⟨⟨by trivial,by omega,h2⟩,trivial⟩
noncomputable def kbm:Ct:= .gp 220 [.st 7,yqu] [yqu] [] fun(p0:wAh) (p1:Int)=>(p0.P=18446744069414584321/\U64 p1,(p1%18446744069414584321:Int),())
theorem kei:kbm.O:=qrv Bs Tryz.func220 .no (k1d.c (k1n.c c0)) (Q:=∀(p0:wAh) (p1:Int),(p0.P=18446744069414584321/\U64 p1)->∀r0:Int,(p1%18446744069414584321)=r0-> 
(p0.P=18446744069414584321)/\((!true)=true->
0=r0)/\
((!true)=false->
(0<p0.P/\0<=p1)/\(p1%p0.P)=r0))<|by rintro p0 p1 h _ rfl;obtain⟨hP,h1⟩:=h;refine⟨hP,fun h=>by simp at h,fun _=>⟨by omega,?_⟩⟩;simp only[hP]
noncomputable def k4n:Ct:= .gp 192 [yqu,yqi,yqi] [yqu] [] fun(p0 p1 p2:Int)=>(p0=18446744069414584321/\(0<=p1/\p1<8)/\0<=p2/\p2<3,(rc p1 p2:Int),())
theorem k54:k4n.O:=qrv Bs Tryz.func192 .no (kei.c c0) (Q:=∀(p0 p1 p2:Int),(p0=18446744069414584321/\(0<=p1/\p1<8)/\0<=p2/\p2<3)->∀r0:Int,rc p1 p2=r0-> 
(decide (p1<0)=true->
0=r0)/\
(decide (p1<0)=false->
(decide (8<=p1)=true->
0=r0)/\
(decide (8<=p1)=false->
(decide (p2<0)=true->
0=r0)/\
(decide (p2<0)=false->
(decide (2<p2)=true->
0=r0)/\
(decide (2<p2)=false->
let v1:Int:=i64.wrap ((i64.wrap (3*p1))+p2)
let v2:Int:=u64.wrap (i64.wrap (v1+1))
let v3:Int:=u64.wrap (v2*11400714819323198485)
((wAh.mk p0).P=18446744069414584321/\U64 v3)/\(v3%18446744069414584321)=r0)))))<|by
 rintro p0 p1 p2 h _ rfl;obtain⟨hP,h1,h2⟩:=h;refine⟨fun h=> ?_,fun _=>⟨fun h=> ?_,fun _=>⟨fun h=> ?_,fun _=>⟨fun h=> ?_,fun _=> ?_⟩⟩⟩⟩
 ·simp at h;omega
 ·simp at h;omega
 ·simp at h;omega
 ·simp at h;omega
 ·simp only[];rw[wi (3*p1) qqo qqo,wi (3*p1+p2) qqo qqo,wi (3*p1+p2+1) qqo qqo,wu (3*p1+p2+1) qqo qqo,u64w];exact⟨⟨hP,by omega,by omega⟩,rfl⟩
noncomputable def k8d:Ct:= .gp 193 [yqu,.st 8] [.st 8] [] fun(p0:Int) (p1:wAf)=>(p0=18446744069414584321/\S3 p1,(mixS p1:wAf),())
theorem k98:k8d.O:=qrv Bs Tryz.func193 .no (k50.c c0) (Q:=∀(p0:Int) (p1:wAf),(p0=18446744069414584321/\S3 p1)->∀r0:wAf,mixS p1=r0-> 
((wAh.mk p0).P=18446744069414584321/\U64 p1.a0/\U64 p1.a1)/\((wAh.mk p0).P=18446744069414584321/\U64 ((p1.a0+p1.a1)%18446744069414584321)/\U64 p1.a2)/\let r1:Int:=((((p1.a0+p1.a1)%18446744069414584321)+p1.a2)%18446744069414584321)
((wAh.mk p0).P=18446744069414584321/\U64 p1.a0/\U64 r1)/\((wAh.mk p0).P=18446744069414584321/\U64 p1.a1/\U64 r1)/\((wAh.mk p0).P=18446744069414584321/\U64 p1.a2/\U64 r1)/\((p1.a0+r1)%18446744069414584321)=r0.a0/\((p1.a1+r1)%18446744069414584321)=r0.a1/\((p1.a2+r1)%18446744069414584321)=r0.a2)<|by rintro p0 p1 h _ rfl;obtain⟨hP,h0,h1,h2⟩:=h;refine ?_;simp only[hP];exact⟨⟨by trivial,h0,h1⟩,⟨by trivial,by omega,h2⟩,⟨by trivial,h0,by omega⟩,⟨by trivial,h1,by omega⟩,⟨by trivial,h2,by omega⟩,rfl,rfl,rfl⟩
noncomputable def k51:Ct:= .gp 142 [yqu,.st 8] [.st 8] [] fun(p0:Int) (p1:wAf)=>(p0=18446744069414584321/\S3 p1,(permS p1:wAf),())
theorem k5u:k51.O:=qrv Bs Tryz.func142 (.r 3 (.nd [] (.r 0 (.lp [] ⟨[0],yK1,[17],[.one (zqi)],[]⟩ (.r 1 (.nd [] (.r 0 (.nd [] (.r 0 (.lp [] ⟨[0],yK1,[20],[.one (zqi)],[]⟩ .no)) [] .no)) [] .no)))) [] .no)) (k1d.c (kal.c (k54.c (k50.c (kl7.c (k98.c c0)))))) (Q:=∀(p0:Int) (p1:wAf),(p0=18446744069414584321/\S3 p1)->∀r0:wAf,permS p1=r0-> 
((wAh.mk p0).P=18446744069414584321)/\((!true)=true->
0=r0.a0/\0=r0.a1/\0=r0.a2)/\
((!true)=false->
((wAh.mk p0).P=18446744069414584321)/\∃(I1:Int->Int->Int->Int->Prop) (M1:Int->Int->Int->Int->Nat),I1 0 p1.a0 p1.a1 p1.a2/\∀b1 f1 i1 k1,(I1 b1 f1 i1 k1->
(decide (b1<8)=true->
∃(I2:Int->Int->Int->Int->Prop) (M2:Int->Int->Int->Int->Nat),I2 0 f1 i1 k1/\∀l1 m1 n1 o1,(I2 l1 m1 n1 o1->
(decide (l1<3)=true->
(0<=l1/\l1<(3:Int))/\(0<=l1/\l1<(3:Int))/\(p0=18446744069414584321/\(0<=b1/\b1<8)/\0<=l1/\l1<3)/\((wAh.mk p0).P=18446744069414584321/\U64 (ix [m1,n1,o1] l1)/\U64 (rc b1 l1))/\let r1:Int:=(((ix [m1,n1,o1] l1)+(rc b1 l1))%18446744069414584321)
((wAh.mk p0).P=18446744069414584321/\U64 r1/\U64 (7:Int))/\let r2:Int:=(pw (r1%18446744069414584321) (7:Int))
(0<=l1/\l1<(3:Int))/\(0<=l1/\l1<(3:Int))/\I2 (i64.wrap (l1+1)) (bif decide (l1=(0:Int))then r2 else m1) (bif decide (l1=(1:Int))then r2 else n1) (bif decide (l1=(2:Int))then r2 else o1)/\M2 (i64.wrap (l1+1)) (bif decide (l1=(0:Int))then r2 else m1) (bif decide (l1=(1:Int))then r2 else n1) (bif decide (l1=(2:Int))then r2 else o1)<M2 l1 m1 n1 o1)/\
(decide (l1<3)=false->
(p0=18446744069414584321/\S3 (wAf.mk m1 n1 o1))/\I1 (i64.wrap (b1+1)) ((mixS (wAf.mk m1 n1 o1)).a0) ((mixS (wAf.mk m1 n1 o1)).a1) ((mixS (wAf.mk m1 n1 o1)).a2)/\M1 (i64.wrap (b1+1)) ((mixS (wAf.mk m1 n1 o1)).a0) ((mixS (wAf.mk m1 n1 o1)).a1) ((mixS (wAf.mk m1 n1 o1)).a2)<M1 b1 f1 i1 k1)))/\
(decide (b1<8)=false->
f1=r0.a0/\i1=r0.a1/\k1=r0.a2))))<|by
 rintro p0 p1 h _ rfl;obtain⟨hP,hs⟩:=h;subst hP;refine⟨rfl,fun h=>by simp at h,fun _=>⟨rfl,?_⟩⟩;refine⟨(fun n a b c=>0<=n/\n<=8/\(⟨a,b,c⟩:wAf)=rnds n.toNat p1/\S3 ⟨a,b,c⟩),(fun n _ _ _=>(8-n).toNat),⟨by omega,by omega,rfl,hs⟩,?_⟩;rintro n a b c ⟨g0,g1,g2,g3⟩;refine⟨fun h=> ?_,fun h=> ?_⟩
 ·have h:=qb h;refine⟨(fun i x y z=>(i=0/\x=a/\y=b/\z=c)∨(i=1/\x=pw ((a+rc n 0)%18446744069414584321) 7/\y=b/\z=c)∨(i=2/\x=pw ((a+rc n 0)%18446744069414584321) 7/\y=pw ((b+rc n 1)%18446744069414584321) 7/\z=c)∨(i=3/\x=pw ((a+rc n 0)%18446744069414584321) 7/\y=pw ((b+rc n 1)%18446744069414584321) 7/\z=pw ((c+rc n 2)%18446744069414584321) 7)),(fun i _ _ _=>(3-i).toNat),(.inl ⟨rfl,rfl,rfl,rfl⟩),?_⟩;intro i x y z hi;have hrc:∀k,U64 (rc n k):=fun k=>by unfold rc;omega
  have hpw:∀k e,0<=pw k e/\pw k e<18446744069414584321:=fun k e=>⟨qcb _ qqo,qbt _ qqo⟩;obtain⟨h3a,h3b,h3c⟩:=g3;refine⟨fun hh=> ?_,fun hh=> ?_⟩
  ·have hh:=qb hh;rcases hi with⟨rfl,rfl,rfl,rfl⟩|⟨rfl,rfl,rfl,rfl⟩|⟨rfl,rfl,rfl,rfl⟩|⟨rfl,_⟩
   ·refine⟨by omega,by omega,⟨rfl,by omega,by omega⟩,⟨rfl,h3a,hrc _⟩,⟨rfl,?_,by omega⟩,by omega,by omega,.inr (.inl ⟨rfl,?_,rfl,rfl⟩),by(dsimp only;decide)⟩
    ·exact⟨qcb _ qqo,Int.lt_trans (qbt _ qqo) qqo⟩
    ·show pw ((x+rc n 0)%18446744069414584321%18446744069414584321) 7=_;rw[qdj _ (qex _)]
   ·refine⟨by omega,by omega,⟨rfl,by omega,by omega⟩,⟨rfl,h3b,hrc _⟩,⟨rfl,?_,by omega⟩,by omega,by omega,.inr (.inr (.inl ⟨rfl,rfl,?_,rfl⟩)),by(dsimp only;decide)⟩
    ·exact⟨qcb _ qqo,Int.lt_trans (qbt _ qqo) qqo⟩
    ·show pw ((y+rc n 1)%18446744069414584321%18446744069414584321) 7=_;rw[qdj _ (qex _)]
   ·refine⟨by omega,by omega,⟨rfl,by omega,by omega⟩,⟨rfl,h3c,hrc _⟩,⟨rfl,?_,by omega⟩,by omega,by omega,.inr (.inr (.inr ⟨rfl,rfl,rfl,?_⟩)),by(dsimp only;decide)⟩
    ·exact⟨qcb _ qqo,Int.lt_trans (qbt _ qqo) qqo⟩
    ·show pw ((z+rc n 2)%18446744069414584321%18446744069414584321) 7=_;rw[qdj _ (qex _)]
   ·omega
  ·have hh:=qc hh;rcases hi with⟨rfl,_⟩|⟨rfl,_⟩|⟨rfl,_⟩|⟨rfl,rfl,rfl,rfl⟩
   ·omega
   ·omega
   ·omega
   ·have e:rnds (n+1).toNat p1=rnd ⟨a,b,c⟩ n:=by rw[show(n+1).toNat=n.toNat+1 by omega];show rnd (rnds n.toNat p1) (n.toNat:Int)=_;rw[<-g2,show(n.toNat:Int)=n by omega]
    have hS:S3 (rnds (n+1).toNat p1):=by rw[e];unfold rnd mixS S3;dsimp only;omega
    have hinc:i64.wrap (n+1)=n+1:=wi _ qqo qqo;rw[hinc];refine⟨⟨rfl,by unfold S3;have:=hpw ((a+rc n 0)%18446744069414584321) 7;have:=hpw ((b+rc n 1)%18446744069414584321) 7;have:=hpw ((c+rc n 2)%18446744069414584321) 7;dsimp only;omega⟩,(?_:0<=n+1/\n+1<=8/\_/\_),(?_:(8-(n+1)).toNat<(8-n).toNat)⟩
    ·refine⟨by omega,by omega,e.symm,?_⟩;rw[e]at hS;exact hS
    ·omega
 ·have h:=qc h;rw[show n=8 by omega]at g2;have g2:(⟨a,b,c⟩:wAf)=permS p1:=g2;rw[<-g2];exact⟨rfl,rfl,rfl⟩
noncomputable def kax:Ct:= .gp 94 yO1 [.st 8] [] fun(p0 p1:Int) (p2:Li)=>(p0=18446744069414584321/\U64 p1/\Us p2/\p2.length<=1099511627776,(absS p1 p2:wAf),())
theorem kbl:kax.O:=qrv Bs Tryz.func94 (.r 3 (.nd [] (.r 0 (.lp [] ⟨[146],yK1,[9],[.one (zqi)],[]⟩ (.r 0 (.nd [] (.r 0 (.jn ⟨[146],yK1,[],[],[]⟩ [] .no [] .no)) [] .no)))) [] .no)) (kl8.c (k50.c (k5u.c c0))) (Q:=∀(p0 p1:Int) (p2:Li),(p0=18446744069414584321/\U64 p1/\Us p2/\p2.length<=1099511627776)->∀r0:wAf,absS p1 p2=r0-> 
((wAh.mk p0).P=18446744069414584321/\U64 p1/\U64 (65536:Int))/\let r1:Int:=(p1*(65536:Int)%18446744069414584321)
((wAh.mk p0).P=18446744069414584321/\U64 r1/\U64 (u64.wrap (p2.length:Int)))/\let r2:Int:=((r1+(u64.wrap (p2.length:Int)))%18446744069414584321)
(((p2.length:Int)==0)=true->
(p0=18446744069414584321/\S3 (wAf.mk 0 0 r2))/\(permS (wAf.mk 0 0 r2)).a0=r0.a0/\(permS (wAf.mk 0 0 r2)).a1=r0.a1/\(permS (wAf.mk 0 0 r2)).a2=r0.a2)/\
(((p2.length:Int)==0)=false->
∃(I1:Int->Int->Int->Int->Prop) (M1:Int->Int->Int->Int->Nat),I1 0 0 0 r2/\∀b1 f1 i1 k1,(I1 b1 f1 i1 k1->
(decide (b1<(p2.length:Int))=true->
(0<=b1)/\b1<(p2.length:Int)/\((wAh.mk p0).P=18446744069414584321/\U64 f1/\U64 (ix p2 b1))/\let r3:Int:=((f1+(ix p2 b1))%18446744069414584321)
∀J1:Int->Int->Int->Prop,(∀(l1 m1 n1:Int),
((p0=18446744069414584321/\S3 (wAf.mk l1 m1 n1))/\I1 (i64.wrap (b1+2)) ((permS (wAf.mk l1 m1 n1)).a0) ((permS (wAf.mk l1 m1 n1)).a1) ((permS (wAf.mk l1 m1 n1)).a2)/\M1 (i64.wrap (b1+2)) ((permS (wAf.mk l1 m1 n1)).a0) ((permS (wAf.mk l1 m1 n1)).a1) ((permS (wAf.mk l1 m1 n1)).a2)<M1 b1 f1 i1 k1)->J1 l1 m1 n1)->
let v4:Bool:=decide ((i64.wrap (b1+1))<(p2.length:Int))
(v4=true->
(0<=i64.wrap (b1+1))/\i64.wrap (b1+1)<(p2.length:Int)/\((wAh.mk p0).P=18446744069414584321/\U64 i1/\U64 (ix p2 (i64.wrap (b1+1))))/\let r5:Int:=((i1+(ix p2 (i64.wrap (b1+1))))%18446744069414584321)
J1 r3 r5 k1)/\
(v4=false->
J1 r3 i1 k1))/\
(decide (b1<(p2.length:Int))=false->
f1=r0.a0/\i1=r0.a1/\k1=r0.a2))))<|by
 rintro p0 p1 p2 h _ rfl;obtain⟨hP,h1,h2,h3⟩:=h;subst hP;have hp:∀s:wAf,S3 (permS s):=fun s=>by show S3 (rnd _ _);unfold rnd mixS S3;dsimp only;omega
 have hi:S3 (absI p1 p2):=by unfold absI S3;dsimp only;omega
 have e:u64.wrap (p2.length:Int)=p2.length:=wu _ qqo qqo;have em:(p1*65536%18446744069414584321+(p2.length:Int))%18446744069414584321=(absI p1 p2).a2:=rfl;rw[e];refine⟨⟨rfl,h1,by omega⟩,⟨rfl,by omega,by omega⟩,fun h=> ?_,fun h=> ?_⟩
 ·have h:p2=[]:=by simpa using h
  refine⟨⟨rfl,?_⟩,?_⟩
  ·exact hi
  ·have:permS ⟨0,0,(p1*65536%18446744069414584321+(p2.length:Int))%18446744069414584321⟩=absS p1 p2:=by unfold absS;rw[qf h];rfl
   rw[this];exact⟨rfl,rfl,rfl⟩
 ·have h:p2≠[]:=by simpa using h
  have hv:absL p2 (absI p1 p2)=absS p1 p2:=by unfold absS;rw[qe h]
  rw[em];refine⟨fun i a b c=>0<=i/\i<=p2.length+1/\absL (p2.drop i.toNat) ⟨a,b,c⟩=absS p1 p2/\S3 ⟨a,b,c⟩,fun i _ _ _=>(p2.length+2-i).toNat,⟨by omega,by omega,hv,hi⟩,?_⟩;rintro i a b c ⟨g0,g1,g2,g3⟩;obtain⟨h3a,h3b,h3c⟩:=g3;refine⟨fun hh=> ?_,fun hh=> ?_⟩
  ·have hh:=qb hh;have hx:=h2 _ (ix_mem p2 i g0 hh);refine⟨g0,hh,⟨rfl,h3a,hx⟩,fun J1 j=> ?_⟩;rw[wi (i+1) qqo qqo];have fin:∀x y z,S3 ⟨x,y,z⟩->absL (p2.drop (i+2).toNat) (permS ⟨x,y,z⟩)=absS p1 p2->J1 x y z:=by intro x y z hS hv';refine j _ _ _ ?_;rw[wi (i+2) qqo qqo];exact⟨⟨rfl,hS⟩,⟨by omega,by omega,hv',hp _⟩,by(dsimp only;omega)⟩
   have hdrop:=drop_ix p2 i g0 hh;rw[hdrop]at g2;refine⟨fun h5=> ?_,fun h5=> ?_⟩
   ·have h5:=qb h5;have hy:=h2 _ (ix_mem p2 (i+1) qqo h5);rw[drop_ix p2 (i+1) qqo h5,show i+1+1=i+2 by omega]at g2;exact⟨by omega,h5,⟨rfl,h3b,hy⟩,fin _ _ _ (S3m qqo qqo h3c) g2⟩
   ·have h5:=qc h5;have ed:p2.drop (i+1).toNat=[]:=qam qqo;have ed2:p2.drop (i+2).toNat=[]:=qam qqo;rw[ed]at g2;exact fin _ _ _ (S3m qqo h3b h3c) (by rw[ed2];exact g2)
  ·have hh:=qc hh;rw[qam qqo]at g2;have g2:(⟨a,b,c⟩:wAf)=absS p1 p2:=g2;rw[<-g2];exact⟨rfl,rfl,rfl⟩
noncomputable def kev:Ct:= .gp 59 yO1 [yqu] [] fun(p0 p1:Int) (p2:Li)=>(p0=18446744069414584321/\U64 p1/\Us p2/\p2.length<=1099511627776,(hashS p1 p2:Int),())
theorem kx:kev.O:=qrv Bs Tryz.func59 .no (k1d.c (kbl.c c0)) (Q:=∀(p0 p1:Int) (p2:Li),(p0=18446744069414584321/\U64 p1/\Us p2/\p2.length<=1099511627776)->∀r0:Int,hashS p1 p2=r0-> 
((wAh.mk p0).P=18446744069414584321)/\((!true)=true->
0=r0)/\
((!true)=false->
(p0=18446744069414584321/\U64 p1/\Us p2/\p2.length<=1099511627776)/\(absS p1 p2).a0=r0))<|by rintro p0 p1 p2 h _ rfl;obtain⟨hP,h1,h2,h3⟩:=h;subst hP;exact⟨rfl,fun h=>by simp at h,fun _=>⟨⟨rfl,h1,h2,h3⟩,rfl⟩⟩
noncomputable def kaw:Ct:= .gp 130 [yqu,yqu] [yqu] [] fun(p0 p1:Int)=>(U64 p0/\U64 p1,(hashS 6 [p0,p1]:Int),())
theorem k1p:kaw.O:=qrv Bs Tryz.func130 .no (kx.c c0) (Q:=∀(p0 p1:Int),(U64 p0/\U64 p1)->∀r0:Int,(hashS 6 [p0,p1])=r0-> 
((18446744069414584321:Int)=18446744069414584321/\U64 (6:Int)/\Us [p0,p1]/\[p0,p1].length<=1099511627776)/\(hashS (6:Int) [p0,p1])=r0)<|by
 rintro p0 p1 h _ rfl;refine⟨⟨rfl,by decide,?_,by simp⟩,rfl⟩;intro x hx;simp only[qae,qcq,or_false]at hx;rcases hx with rfl|rfl
 ·exact h.1
 ·exact h.2
noncomputable def kcl:Ct:= .g ⟨89,[.one (zql)],[],(.one (.one (.row 0))),[.vec yqu],false⟩ [.sl yqu] [.sl yqu] [] fun(p0:Li)=>(p0.length<=4294967295,p0,())
theorem k5i:kcl.O:=prx Bs [5,7] Tryz.func89 (.r 0 (.nd [] (.r 0 (.nd [] (.r 0 (.rt [.rnil 2 yqu])) [] .no)) [] .no)) x0 c0 (Q:=∀(p0:Li),(p0.length<=4294967295)->∀e0:Li,p0=e0-> 
∀z4:Bool,(z4=true->p0=[])->(z4=true->
(0=([]:Li).length)/\([]:Li)=e0)/\
(z4=false->
lz ([]:Li)/\(([]:Li).length+p0.length)*8<=140737488355328/\([]:Li).length+p0.length<=maxLen/\lz (([]:Li)++p0)/\([]:Li)++p0=e0))<|by rintro p0 h _ rfl;exact fun z hz=>⟨fun h=>⟨rfl,(hz h).symm⟩,fun h=>⟨rfl,by simp;omega,by simp;unfold maxLen;omega,rfl,rfl⟩⟩
noncomputable def k8e:Ct:= .gp 168 [.st 6,yqu] [.st 6,yqi] [] fun(p0:wI) (p1:Int)=>(FV p0/\p0.wAY<((2^p0.wD.toNat:Nat):Int)/\0<=p1/\p1<18446744069414584321,(apF p0 p1:wI),(0:Int),())
theorem k8j:k8e.O:=qrv Bs Tryz.func168 (.r 0 (.nd [] (.jn ⟨[],[],[15],[.one (.d (.bool))],[]⟩ [] .no [] .no) [] (.r 2 (.nd [] (.lp [] ⟨[98],[.vec yqu],[7,8],[.one (zqi),.one (zqu)],[]⟩ .no) [] (.r 1 (.rt [.frzc 98 1 2])))))) (k41.c (k5i.c (k1p.c c0))) (Q:=∀(p0:wI) (p1:Int),(FV p0/\p0.wAY<((2^p0.wD.toNat:Nat):Int)/\0<=p1/\p1<18446744069414584321)->∀r0:wI,apF p0 p1=r0->∀r1:Int,(0:Int)=r1-> 
∀J1:Bool->Prop,(∀(b1:Bool),
((b1=true->
0=r0.wD/\0=r0.wAY/\([]:Li)=r0.wAa/\1=r1)/\
(b1=false->
(0<=p0.wD)/\((p0.wAY==(ishl .i64 1 p0.wD))=true->
0=r0.wD/\0=r0.wAY/\([]:Li)=r0.wAa/\16=r1)/\
((p0.wAY==(ishl .i64 1 p0.wD))=false->
(p0.wAa.length<=4294967295)/\∃(I1:Int->Int->(Li)->Prop) (M1:Int->Int->(Li)->Nat),I1 0 p1 p0.wAa/\∀f1 i1 k1,(I1 f1 i1 k1->
(0<=f1)/\let v2:Bool:=((iand .i64 (ishr .i64 p0.wAY f1) 1)==1)
(v2=true->
(0<=f1/\f1<(p0.wAa.length:Int))/\(0<=f1/\f1<(k1.length:Int))/\(U64 (ix k1 f1)/\U64 i1)/\(0<=f1/\f1<(p0.wAa.length:Int))/\(0<=f1/\f1<(k1.length:Int))/\I1 (i64.wrap (f1+1)) (hashS 6 [(ix k1 f1),i1]) (k1.set f1.toNat 0)/\M1 (i64.wrap (f1+1)) (hashS 6 [(ix k1 f1),i1]) (k1.set f1.toNat 0)<M1 f1 i1 k1)/\
(v2=false->
(0<=f1/\f1<(p0.wAa.length:Int))/\(0<=f1/\f1<(k1.length:Int))/\(p0.wAa.length=(k1.set f1.toNat i1).length)/\p0.wD=r0.wD/\i64.wrap (p0.wAY+1)=r0.wAY/\k1.set f1.toNat i1=r0.wAa/\0=r1)))))->J1 b1)->
(FV p0)/\((!true)=true->
J1 true)/\
((!true)=false->
J1 (decide (18446744069414584321<=p1))))<|by
 rintro p0 p1 h _ rfl _ rfl;obtain⟨hv,hc,hx0,hx1⟩:=h;obtain⟨d1,d2,c0,c1,ll,u,z⟩:=id hv;obtain⟨d,hd⟩:=qn (show 0<=p0.wD by omega);obtain⟨n,hn⟩:=qn c0;have hdn:p0.wD.toNat=d:=by omega
 have hp:=pow12 d qqo;rw[hdn]at c1 ll hc;have hnd:n<2^d:=by omega
 have hbd:=kp3 hnd;refine fun J1 j=>⟨hv,fun e=>(by cases e),fun _=> ?_⟩;refine j _ ⟨fun e=>(by have:=qb e;omega),fun _=>⟨by omega,?_⟩⟩;rw[hd,shl1 d qqo,hn];have hne:¬(n:Int)=((2^d:Nat):Int):=by omega
 refine⟨fun e=>(hne (by simpa using e)).elim,fun _=>⟨by omega,?_⟩⟩;refine⟨fun a x g=>∃i:Nat,a=(i:Int)/\i<=d/\g.length=d+1/\(∀y∈g,0<=y/\y<18446744069414584321)/\(0<=x/\x<18446744069414584321)/\carry (d+1-i) i g x n=carry (d+1) 0 p0.wAa p1 n,fun a _ _=>(d-a).toNat,⟨0,rfl,by omega,ll,u,⟨hx0,hx1⟩,rfl⟩,?_⟩;rintro _ x g ⟨i,rfl,hi,hgl,hgu,hx,hcy⟩;have hs:i<g.length:=by omega
 have hgx:=hgu _ (qah hs);generalize hR:carry (d+1) 0 p0.wAa p1 n=R at hcy;rw[show d+1-i=d-i+1 by omega]at hcy;unfold carry at hcy;have hbit:=bit1 n i qqo qqo;refine⟨by omega,fun e=> ?_,fun e=> ?_⟩
 ·have e2:((n/2^i%2:Nat):Int)=1:=by rw[hbit]at e;simpa using e
  have hb:bitN n i=true:=by unfold bitN;generalize n/2^i%2=q at *;simp;omega
  have hid:i<d:=by
   rcases qar i d with h1|h1
   ·exact h1
   ·have:i=d:=by omega
    subst this;rw[hbd]at hb;cases hb
  rw[qf hb]at hcy;rw[inc_i64 _ qqo,qx];refine⟨⟨by omega,by omega⟩,⟨by omega,by omega⟩,?_,⟨by omega,by omega⟩,⟨by omega,by omega⟩,⟨i+1,rfl,by omega,by simp[hgl],?_,⟨(kh _ _).1,k2n _ _⟩,?_⟩,by(dsimp only;omega)⟩
  ·rw[ix_get _ _ hs];exact⟨⟨hgx.1,by omega⟩,hx.1,by omega⟩
  ·intro y hy;rcases List.mem_or_eq_of_mem_set hy with hy|rfl
   ·exact hgu y hy
   ·decide
  ·rw[show d+1-(i+1)=d-i by omega];exact hcy
 ·have e2:¬((n/2^i%2:Nat):Int)=1:=by rw[hbit]at e;simpa using e
  have hb:¬bitN n i=true:=by unfold bitN;generalize n/2^i%2=q at *;simp;omega
  rw[qe hb]at hcy;rw[qx];refine⟨⟨by omega,by omega⟩,⟨by omega,by omega⟩,by simp;omega,hd.symm,?_,?_,by first|exact rfl|exact ql⟩
  ·rw[inc_i64 _ qqo];show _=p0.wAY+1;omega
  ·show _=carry (p0.wD.toNat+1) 0 p0.wAa p1 p0.wAY.toNat;rw[hdn,hn,qx,hR];exact hcy
noncomputable def k93:Ct:= .gp 170 [yqu,yqu] [.bool] [] fun(p0 p1:Int)=>(0<=p0/\p0<=9223372036854775807,(decide (9223372036854775807-p0<p1):Bool),())
theorem kan:k93.O:=qrv Bs Tryz.func170 .no c0 (Q:=∀(p0 p1:Int),(0<=p0/\p0<=9223372036854775807)->∀r0:Bool,(decide (9223372036854775807-p0<p1))=r0-> 
(decide (9223372036854775807<p0)=true->
true=r0)/\
(decide (9223372036854775807<p0)=false->
let v1:Int:=u64.wrap (9223372036854775807-p0)
decide (v1<p1)=r0))<|by
 rintro p0 p1 h _ rfl;refine⟨fun e=> ?_,fun e=> ?_⟩
 ·have:=qb e;omega
 ·rw[wrap_u64 _ qqo qqo]
noncomputable def kap:Ct:= .gp 133 [.st 15,yqu,yqu] [.st 15,yqi] [] fun(p0:wAN) (p1 p2:Int)=>(OkA p0.wF/\U64 p2,(wAN.mk (creditA p0.wF p1 p2).1:wAN),((creditA p0.wF p1 p2).2:Int),())
theorem k4c:kap.O:=qrv Bs Tryz.func133 .no (k7z.c (kan.c (k7s.c c0))) (Q:=∀(p0:wAN) (p1 p2:Int),(OkA p0.wF/\U64 p2)->∀r0:wAN,(wAN.mk (creditA p0.wF p1 p2).1)=r0->∀r1:Int,((creditA p0.wF p1 p2).2)=r1-> 
(Srt p0.wF/\p0.wF.length<4611686018427387904)/\(0<=((getA p0.wF p1).wb)/\((getA p0.wF p1).wb)<=9223372036854775807)/\let r2:Bool:=(decide (9223372036854775807-((getA p0.wF p1).wb)<p2))
(r2=true->
([]:List wB)=r0.wF/\1=r1)/\
(r2=false->
let v3:Int:=u64.wrap (((getA p0.wF p1).wb)+p2)
(Srt p0.wF/\p0.wF.length<=1000)/\let r4:List wB:=(putA p0.wF (wB.mk p1 v3 ((getA p0.wF p1).wS)))
r4=r0.wF/\0=r1))<|by
 rintro p0 p1 p2 h _ rfl _ rfl;obtain⟨h,ha,ha'⟩:=h;obtain⟨g1,g2⟩:=getA_ok h p1;refine⟨⟨h.1,by have:=h.2.1;omega⟩,g1,fun hh=> ?_,fun hh=> ?_⟩
 ·have:=qb hh;simp[creditA,this]
 ·have:=qc hh;simp only[creditA,qe this];rw[wrap_u64 _ qqo qqo];exact⟨⟨h.1,h.2.1⟩,rfl,by first|exact rfl|exact ql⟩
noncomputable def k89:Ct:= .b ⟨132,[.one (.ptr 0 0),.agg yY,.one (.ptr 1 0)],yD,(.one (.one (zqi))),yC,false⟩ [.st 2,yqi,yqi,yqi,yqi,yqi,yqu,yqi,yqi,yqu,yqi,yqi,.sl yqu,.sl (.st 9),yqu,yqi,yqi,.sl yqu,yqi,.sl (.st 9),yqu,.sl yqu,.sl yqu,.sl (.st 10),.sl yqu,.sl yqu,.sl (.bool)] yH fun(p1:wy) (Aa Ab Ad Ac Am An Ai Ak Al Aj Af:Int) (Ag:Li) (Ae:List wB) (Ah Ap Aq:Int) (As:Li) (Ao:Int) (A8:List wB) (A9:Int) (w2 w4:Li) (w5:List wAB) (w6 w7k:Li) (w7v:Lo)=>((∃(c:Nat) (f:Int),c<=800/\PI (PS.mk (wP.mk Aa Ab Ad Ac Am An Ai Ak Al) (wI.mk Aj Af Ag) Ae Ah w2 w4 w5 w7k w7v) c f)/\TR p1/\CK (PS.mk (wP.mk Aa Ab Ad Ac Am An Ai Ak Al) (wI.mk Aj Af Ag) Ae Ah w2 w4 w5 w7k w7v) p1/\w6.length<=1000000,perfS (PS.mk (wP.mk Aa Ab Ad Ac Am An Ai Ak Al) (wI.mk Aj Af Ag) Ae Ah w2 w4 w5 w7k w7v) p1,fun R=>(R.e,R.s.R.wAk,R.s.R.wD,R.s.R.wAG,R.s.R.wAA,R.s.R.ww,R.s.R.wd,R.s.R.wAe,R.s.R.wAQ,R.s.R.wBA,R.s.F.wD,R.s.F.wAY,R.s.F.wAa,R.s.b,R.s.n,Ap,Aq,As,Ao,A8,A9,R.s.r,R.s.p,((w6++p1.wE):Li),R.s.k,R.s.v,R.s.l,()))
abbrev k15 (R:PE) (p1:wy) (Ap Aq:Int) (As:Li) (Ao:Int) (A8:List wB) (A9:Int) (w6:Li) (o0 o1 o2 o3 o4 o5 o6 o7 o8 o9 o10 o11:Int) (o12:Li) (o13:List wB) (o14 o15 o16:Int) (o17:Li) (o18:Int) (o19:List wB) (o20:Int) (o21:Li) (o22:List wAB) (o23 o24:Li) (o25:Lo) (o26:Li):Prop:=o0=R.e/\o1=R.s.R.wAk/\o2=R.s.R.wD/\o3=R.s.R.wAG/\o4=R.s.R.wAA/\o5=R.s.R.ww/\o6=R.s.R.wd/\o7=R.s.R.wAe/\o8=R.s.R.wAQ/\o9=R.s.R.wBA/\o10=R.s.F.wD/\o11=R.s.F.wAY/\o12=R.s.F.wAa/\o13=R.s.b/\o14=R.s.n/\o15=Ap/\o16=Aq/\o17=As/\o18=Ao/\o19=A8/\o20=A9/\o21=R.s.r/\o22=R.s.p/\o23=(w6++p1.wE)/\o24=R.s.k/\o25=R.s.v/\o26=R.s.l
abbrev Fz0 (r:Type):=Int->Int->Int->Int->Int->Int->Int->Int->Int->Int->Int->Int->(Li)->(List wB)->Int->(Li)->(Lo)->(List wAB)->(Li)->(Li)->r
theorem k99:k89.O:=pbx Bs [33,67,68] Tryz.func132 (.nd [.trimc 0 12] .no [] (.r 1 (.nd [] (.r 0 (.lp [] ⟨[7,5,4,3,0],[.map yqu (.bool),.vec (.st 10),.vec yqu,.cells [.mp 0],.cells [zqi,zqi,zqi,zqi,zqi,zqu,zqi,zqi,zqu,zqi,zqi,zql,.row 5,.ptr 3 0,.d (.sl (.st 9)),zqu,.row 2,.row 1],.vec yqu],[39],[.one (zqi)],[8]⟩ .no)) [] (.jn ⟨[0,314,3,4,5,7],yG,[],[],[]⟩ [] .no [] (.jn ⟨[0,314,3,4,5,7],yG,[],[],[]⟩ [] .no [] .no))))) x0 (kpd.c (k8j.c (k5f.c (k4c.c c0)))) (Q:=∀(p1:wy) (Aa Ab Ad Ac Am An Ai Ak Al Aj Af:Int) (Ag:Li) (Ae:List wB) (Ah Ap Aq:Int) (As:Li) (Ao:Int) (A8:List wB) (A9:Int) (w2 w4:Li) (w5:List wAB) (w6 w7k:Li) (w7v:Lo),((∃(c:Nat) (f:Int),c<=800/\PI (PS.mk (wP.mk Aa Ab Ad Ac Am An Ai Ak Al) (wI.mk Aj Af Ag) Ae Ah w2 w4 w5 w7k w7v) c f)/\TR p1/\CK (PS.mk (wP.mk Aa Ab Ad Ac Am An Ai Ak Al) (wI.mk Aj Af Ag) Ae Ah w2 w4 w5 w7k w7v) p1/\w6.length<=1000000)->∀R,perfS (PS.mk (wP.mk Aa Ab Ad Ac Am An Ai Ak Al) (wI.mk Aj Af Ag) Ae Ah w2 w4 w5 w7k w7v) p1=R-> 
lz w2/\(w7v=trs w7k/\p1.wE.length<=1000000)/\((((addS p1.wE w7k).1) !=0)=true->
(w6=w6)/\lz w5/\lz w4/\lz w2/\k15 R p1 Ap Aq As Ao A8 A9 w6 ((addS p1.wE w7k).1) Aa Ab Ad Ac Am An Ai Ak Al Aj Af Ag Ae Ah Ap Aq As Ao A8 A9 w4 w5 w6 ((addS p1.wE w7k).2) (trs (addS p1.wE w7k).2) w2)/\
((((addS p1.wE w7k).1) !=0)=false->
lz w6/\(w6.length+p1.wE.length)*8<=140737488355328/\w6.length+p1.wE.length<=maxLen/\lz w5/\lz w4/\lz w2/\∃(I1:Fz0 Prop) (M1:Fz0 Nat),I1 0 Aa Ab Ad Ac Am An Ai Ak Al Aj Af Ag Ae Ah ((addS p1.wE w7k).2) (trs (addS p1.wE w7k).2) w5 w4 w2/\∀b1 f1 i1 k1 l1 m1 n1 o1 q1 s1 t1 u1 x1 y1 b2 f2 i2 k2 l2 m2,(I1 b1 f1 i1 k1 l1 m1 n1 o1 q1 s1 t1 u1 x1 y1 b2 f2 i2 k2 l2 m2->
(decide (b1<(p1.wA.length:Int))=true->
(0<=b1)/\b1<(p1.wA.length:Int)/\(FV (wI.mk t1 u1 x1)/\(wI.mk t1 u1 x1).wAY<((2^(wI.mk t1 u1 x1).wD.toNat:Nat):Int)/\0<=((ix p1.wA b1).wm)/\((ix p1.wA b1).wm)<18446744069414584321)/\let r1:=apF (wI.mk t1 u1 x1) ((ix p1.wA b1).wm)
(((0:Int) !=0)=true->
(w6++p1.wE=w6++p1.wE)/\lz k2/\lz l2/\lz m2/\k15 R p1 Ap Aq As Ao A8 A9 w6 0 f1 i1 k1 l1 m1 n1 o1 q1 s1 t1 u1 x1 y1 b2 Ap Aq As Ao A8 A9 l2 k2 (w6++p1.wE) f2 i2 m2)/\
(((0:Int) !=0)=false->
lz m2/\lz [(ix p1.wA b1).wm]/\(m2.length+[(ix p1.wA b1).wm].length)*8<=140737488355328/\m2.length+[(ix p1.wA b1).wm].length<=maxLen/\lz k2/\lz l2/\lz (m2++[(ix p1.wA b1).wm])/\I1 (i64.wrap (b1+1)) f1 i1 k1 l1 m1 n1 o1 q1 s1 r1.wD r1.wAY r1.wAa y1 b2 f2 i2 k2 l2 (m2++[(ix p1.wA b1).wm])/\M1 (i64.wrap (b1+1)) f1 i1 k1 l1 m1 n1 o1 q1 s1 r1.wD r1.wAY r1.wAa y1 b2 f2 i2 k2 l2 (m2++[(ix p1.wA b1).wm])<M1 b1 f1 i1 k1 l1 m1 n1 o1 q1 s1 t1 u1 x1 y1 b2 f2 i2 k2 l2 m2))/\
(decide (b1<(p1.wA.length:Int))=false->
∀J1:Int->Int->Int->Int->Int->Int->Int->Int->Int->Int->Int->(Li)->(List wB)->Int->(Li)->(Li)->(List wAB)->(Li)->(Lo)->Prop,(∀(n2 o2 q2 s2 t2 u2 x2 y2 b3 f3 i3:Int) (k3:Li) (l3:List wB) (m3:Int) (n3 o3:Li) (q3:List wAB) (s3:Li) (t3:Lo),
(∀J2:Int->Int->Int->Int->Int->Int->Int->Int->Int->Int->Int->(Li)->(List wB)->Int->(Li)->(Li)->(List wAB)->(Li)->(Lo)->Prop,(∀(u3 x3 y3 b4 f4 i4 k4 l4 m4 n4 o4:Int) (q4:Li) (s4:List wB) (t4:Int) (u4 x4:Li) (y4:List wAB) (b5:Li) (f5:Lo),
(let v4:Int:=u64.wrap ((u64.wrap (t4+p1.wH))-p1.wL)
(w6++p1.wE=w6++p1.wE)/\lz y4/\lz x4/\lz u4/\k15 R p1 Ap Aq As Ao A8 A9 w6 0 u3 x3 y3 b4 f4 i4 k4 l4 m4 n4 o4 q4 s4 (u64.wrap (v4-p1.Fee)) Ap Aq As Ao A8 A9 x4 y4 (w6++p1.wE) b5 f5 u4)->J2 u3 x3 y3 b4 f4 i4 k4 l4 m4 n4 o4 q4 s4 t4 u4 x4 y4 b5 f5)->
(decide (0<p1.wL)=true->
(OkA (wAN.mk l3).wF/\U64 p1.wL)/\let r3:=creditA (wAN.mk l3).wF p1.wQ p1.wL
((r3.2 !=0)=true->
(w6++p1.wE=w6++p1.wE)/\lz q3/\lz o3/\lz n3/\k15 R p1 Ap Aq As Ao A8 A9 w6 r3.2 n2 o2 q2 s2 t2 u2 x2 y2 b3 f3 i3 k3 l3 m3 Ap Aq As Ao A8 A9 o3 q3 (w6++p1.wE) s3 t3 n3)/\
((r3.2 !=0)=false->
lz q3/\lz o3/\lz n3/\J2 n2 o2 q2 s2 t2 u2 x2 y2 b3 f3 i3 k3 r3.1 m3 n3 o3 q3 s3 t3))/\
(decide (0<p1.wL)=false->
lz q3/\lz o3/\lz n3/\J2 n2 o2 q2 s2 t2 u2 x2 y2 b3 f3 i3 k3 l3 m3 n3 o3 q3 s3 t3))->J1 n2 o2 q2 s2 t2 u2 x2 y2 b3 f3 i3 k3 l3 m3 n3 o3 q3 s3 t3)->
(decide (0<p1.wH)=true->
(OkA (wAN.mk y1).wF/\U64 p1.wH/\U64 p1.wS)/\let r2:=debitA (wAN.mk y1).wF p1.wQ p1.wH p1.wS
((r2.2 !=0)=true->
(w6++p1.wE=w6++p1.wE)/\lz k2/\lz l2/\lz m2/\k15 R p1 Ap Aq As Ao A8 A9 w6 r2.2 f1 i1 k1 l1 m1 n1 o1 q1 s1 t1 u1 x1 y1 b2 Ap Aq As Ao A8 A9 l2 k2 (w6++p1.wE) f2 i2 m2)/\
((r2.2 !=0)=false->
lz k2/\lz l2/\lz m2/\J1 f1 i1 k1 l1 m1 n1 o1 q1 s1 t1 u1 x1 r2.1 b2 m2 l2 k2 f2 i2))/\
(decide (0<p1.wH)=false->
lz k2/\lz l2/\lz m2/\J1 f1 i1 k1 l1 m1 n1 o1 q1 s1 t1 u1 x1 y1 b2 m2 l2 k2 f2 i2)))))<|by
 rintro p1 Aa Ab Ad Ac Am An Ai Ak Al Aj Af Ag Ae Ah Ap Aq As Ao A8 A9 w2 w4 w5 w6 w7k w7v h R hR;obtain⟨⟨c,f,hc,hp⟩,ht,hk,hw6⟩:=h;have hv:w7v=trs w7k:=hp.v
 have hA:addS p1.wE w7k=(0,w7k++p1.wE):=by
  unfold addS;have e1:(p1.wE.any fun m=>decide (m∈w7k))=false:=by rw[List.any_eq_false];intro m hm;simpa using hk.m m hm
  rw[e1,qas hk.v.mn];rfl
 have hml:=hk.v.ml;have hol:=hk.v.ol;have hll:w2.length+p1.wA.length<=2^Ab.toNat:=hk.l;have hd1:1<=Ab:=hp.d1;have hd2:Ab<=12:=hp.d2;have hF0:wI.mk Aj Af Ag=frF Ab w2:=hp.F;have hlb:BG w2:=hp.l;have hp12:=pow12 Ab.toNat qqo;obtain⟨a1,a2,a3,a4,a5⟩:=hk.v.am';have hgb:GoodA c Ae:=hp.b
 have hdA:OkA (depA Ae p1):=by
  unfold depA;split
  ·exact(kf3 hgb qqo ⟨ht.ac.1,a4⟩ ht.d.1 ht.n).1
  ·exact hgb.1
 have hdd:0<p1.wH->(debitA Ae p1.wQ p1.wH p1.wS).2=0:=hk.d;unfold perfS at hR;refine⟨rfl,⟨hv,by omega⟩,?_⟩;rw[hA];refine⟨fun e=>(by cases e),fun _=>⟨rfl,by omega,by unfold maxLen;omega,rfl,rfl,rfl,?_⟩⟩;refine⟨fun a y0 y1 y2 y3 y4 y5 y6 y7 y8 x y z bb nn kk vv pp rr g=>(Aa=y0/\Ab=y1/\Ad=y2/\Ac=y3/\Am=y4/\An=y5/\Ai=y6/\Ak=y7/\Al=y8/\Ae=bb/\Ah=nn/\w7k++p1.wE=kk/\trs (w7k++p1.wE)=vv/\w5=pp/\w4=rr)/\∃i:Nat,a=(i:Int)/\i<=p1.wA.length/\wI.mk x y z=outsF (wI.mk Aj Af Ag) (p1.wA.take i)/\g=w2++(p1.wA.take i).map (·.wm),fun a _ _ _ _ _ _ _ _ _ _ _ _ _ _ _ _ _ _ _=>(p1.wA.length-a).toNat,⟨⟨rfl,rfl,rfl,rfl,rfl,rfl,rfl,rfl,rfl,rfl,rfl,rfl,rfl,rfl,rfl⟩,0,rfl,by omega,rfl,by simp⟩,?_⟩;rintro _ _ _ _ _ _ _ _ _ _ x y z _ _ _ _ _ _ _ ⟨⟨rfl,rfl,rfl,rfl,rfl,rfl,rfl,rfl,rfl,rfl,rfl,rfl,rfl,rfl,rfl⟩,i,rfl,hi,hF,rfl⟩;have hx:x=(outsF (wI.mk Aj Af Ag) (p1.wA.take i)).wD:=congrArg wI.wD hF;have hy:y=(outsF (wI.mk Aj Af Ag) (p1.wA.take i)).wAY:=congrArg wI.wAY hF;have hz:z=(outsF (wI.mk Aj Af Ag) (p1.wA.take i)).wAa:=congrArg wI.wAa hF;clear hF;subst hx;subst hy;subst hz;refine⟨fun e=> ?_,fun e=> ?_⟩
 ·have e:i<p1.wA.length:=by have:=qb e;omega
  have ho:=qah e;have hil:(p1.wA.take i).length=i:=by rw[qu];omega
  have hFi:outsF (wI.mk Aj Af Ag) (p1.wA.take i)=frF Ab (w2++(p1.wA.take i).map (·.wm)):=by rw[hF0];exact kbs qqo
  have hgl:(w2++(p1.wA.take i).map (·.wm)).length=w2.length+i:=by simp only[qh,qm];omega
  have hbg:BG (w2++(p1.wA.take i).map (·.wm)):=by
   intro q hq;rcases qak.1 hq with hq|hq
   ·exact hlb q hq
   ·obtain⟨o,h1,rfl⟩:=qau.1 hq;exact⟨(ht.o o (qbk h1)).c.1,(hk.v.o o (qbk h1)).c⟩
  rw[ix_get _ _ e,inc_i64 _ qqo];have hfv:FV (outsF (wI.mk Aj Af Ag) (p1.wA.take i)):=by rw[hFi];exact frF_FV hd1 hd2 qqo hbg
  have hct:(outsF (wI.mk Aj Af Ag) (p1.wA.take i)).wAY<((2^(outsF (wI.mk Aj Af Ag) (p1.wA.take i)).wD.toNat:Nat):Int):=by rw[hFi];show((w2++(p1.wA.take i).map (·.wm)).length:Int)<((2^Ab.toNat:Nat):Int);omega
  refine⟨by omega,by omega,⟨hfv,hct,(ht.o _ ho).c.1,(hk.v.o _ ho).c⟩,fun e2=>(by cases e2),fun _=>⟨rfl,rfl,?_,?_,rfl,rfl,rfl,⟨⟨rfl,rfl,rfl,rfl,rfl,rfl,rfl,rfl,rfl,rfl,rfl,rfl,rfl,rfl,rfl⟩,i+1,rfl,by omega,?_,?_⟩,by(dsimp only;omega)⟩⟩
  ·rw[hgl];simp only[qj,qt];omega
  ·rw[hgl];simp only[qj,qt];unfold maxLen;omega
  ·rw[qr e];unfold outsF;rw[List.foldl_append];rfl
  ·rw[qr e,qbg,qw];rfl
 ·have e:i=p1.wA.length:=by have:=qc e;omega
  subst e;rw[qbd];intro J1 j
  have j1:∀b',b' =depA Ae p1->J1 Aa Ab Ad Ac Am An Ai Ak Al (outsF (wI.mk Aj Af Ag) p1.wA).wD (outsF (wI.mk Aj Af Ag) p1.wA).wAY (outsF (wI.mk Aj Af Ag) p1.wA).wAa b' Ah (w2++p1.wA.map (·.wm)) w4 w5 (w7k++p1.wE) (trs (w7k++p1.wE)):=by
   intro b' h1;subst h1;refine j _ _ _ _ _ _ _ _ _ _ _ _ _ _ _ _ _ _ _ fun J2 k=> ?_;have j2:∀b',(wdA Ae p1).2=0->b' =(wdA Ae p1).1->J2 Aa Ab Ad Ac Am An Ai Ak Al (outsF (wI.mk Aj Af Ag) p1.wA).wD (outsF (wI.mk Aj Af Ag) p1.wA).wAY (outsF (wI.mk Aj Af Ag) p1.wA).wAa b' Ah (w2++p1.wA.map (·.wm)) w4 w5 (w7k++p1.wE) (trs (w7k++p1.wE)):=by intro b' h0 h1;rw[qe (fun hh=>hh h0)]at hR;subst hR;subst h1;exact k _ _ _ _ _ _ _ _ _ _ _ _ _ _ _ _ _ _ _ (by repeat' first|apply qaa|exact rfl|exact ql)
   refine⟨fun e=>⟨⟨hdA,ht.w⟩,fun e2=> ?_,fun e2=>⟨rfl,rfl,rfl,j2 _ ?_ ?_⟩⟩,fun e=>⟨rfl,rfl,rfl,j2 _ ?_ ?_⟩⟩
   ·have e2:(creditA (depA Ae p1) p1.wQ p1.wL).2≠0:=by simpa using e2
    have ew:wdA Ae p1=creditA (depA Ae p1) p1.wQ p1.wL:=by unfold wdA;rw[qf (qb e)]
    rw[ew,qf e2]at hR;subst hR;exact(by repeat' first|apply qaa|exact rfl|exact ql)
   ·have e2:(creditA (depA Ae p1) p1.wQ p1.wL).2=0:=by simpa using e2
    unfold wdA;rw[qf (qb e)];exact e2
   ·unfold wdA;rw[qf (qb e)]
   ·unfold wdA;rw[qe (qc e)]
   ·unfold wdA;rw[qe (qc e)]
  refine⟨fun e2=>⟨⟨hgb.1,ht.d,ht.n⟩,fun e3=> ?_,fun e3=>⟨rfl,rfl,rfl,j1 _ ?_⟩⟩,fun e2=>⟨rfl,rfl,rfl,j1 _ ?_⟩⟩
  ·have e3:(debitA Ae p1.wQ p1.wH p1.wS).2≠0:=by simpa using e3
   exact(e3 (hdd (qb e2))).elim
  ·unfold depA;rw[qf (qb e2)]
  ·unfold depA;rw[qe (qc e2)]
noncomputable def kav:Ct:= .b ⟨87,[.one (.ptr 0 0),.agg yD1,.one (.ptr 1 0)],yD,(.one (.one (zqi))),yC,false⟩ [.st 3,yqi,yqi,yqi,yqi,yqi,yqu,yqi,yqi,yqu,yqi,yqi,.sl yqu,.sl (.st 9),yqu,yqi,yqi,.sl yqu,yqi,.sl (.st 9),yqu,.sl yqu,.sl yqu,.sl (.st 10),.sl yqu,.sl yqu,.sl (.bool)] yH fun(p1:wU) (Aa Ab Ad Ac Am An Ai Ak Al Aj Af:Int) (Ag:Li) (Ae:List wB) (Ah Ap Aq:Int) (As:Li) (Ao:Int) (A8:List wB) (A9:Int) (w2 w4:Li) (w5:List wAB) (w6 w7k:Li) (w7v:Lo)=>((∃c:Nat,c+p1.Txs.length<=790/\PI (PS.mk (wP.mk Aa Ab Ad Ac Am An Ai Ak Al) (wI.mk Aj Af Ag) Ae Ah w2 w4 w5 w7k w7v) c 0)/\BR' p1/\w6=[],blkS (PS.mk (wP.mk Aa Ab Ad Ac Am An Ai Ak Al) (wI.mk Aj Af Ag) Ae Ah w2 w4 w5 w7k w7v) w6 p1,fun R=>(R.e,R.s.R.wAk,R.s.R.wD,R.s.R.wAG,R.s.R.wAA,R.s.R.ww,R.s.R.wd,R.s.R.wAe,R.s.R.wAQ,R.s.R.wBA,R.s.F.wD,R.s.F.wAY,R.s.F.wAa,R.s.b,R.s.n,Ap,Aq,As,Ao,A8,A9,R.s.r,R.s.p,R.m,R.s.k,R.s.v,R.s.l,()))
abbrev k1q (R:PB) (Ap Aq:Int) (As:Li) (Ao:Int) (A8:List wB) (A9 o0 o1 o2 o3 o4 o5 o6 o7 o8 o9 o10 o11:Int) (o12:Li) (o13:List wB) (o14 o15 o16:Int) (o17:Li) (o18:Int) (o19:List wB) (o20:Int) (o21:Li) (o22:List wAB) (o23 o24:Li) (o25:Lo) (o26:Li):Prop:=o0=R.e/\o1=R.s.R.wAk/\o2=R.s.R.wD/\o3=R.s.R.wAG/\o4=R.s.R.wAA/\o5=R.s.R.ww/\o6=R.s.R.wd/\o7=R.s.R.wAe/\o8=R.s.R.wAQ/\o9=R.s.R.wBA/\o10=R.s.F.wD/\o11=R.s.F.wAY/\o12=R.s.F.wAa/\o13=R.s.b/\o14=R.s.n/\o15=Ap/\o16=Aq/\o17=As/\o18=Ao/\o19=A8/\o20=A9/\o21=R.s.r/\o22=R.s.p/\o23=R.m/\o24=R.s.k/\o25=R.s.v/\o26=R.s.l
abbrev Fz1 (r:Type):=Int->Int->Int->Int->(Li)->Int->(List wB)->Int->Int->Int->Int->Int->Int->Int->Int->Int->Int->Int->Int->(Li)->(List wB)->Int->(Li)->(Lo)->(Li)->(List wAB)->(Li)->(Li)->r
theorem kbk:kav.O:=pbv Bs Tryz.func87 (.nd [.trimc 0 12] .no [] (.r 0 (.nd [] (.r 0 (.lp [] ⟨[7,6,5,4,3,1,0],[.map yqu (.bool),.tip yqu,.vec (.st 10),.vec yqu,.cells [.mp 0],.cells [zqi,zqi,zql,zqi,.own 1,.d (.sl (.st 9)),zqu],.cells [zqi,zqi,zqi,zqi,zqi,zqu,zqi,zqi,zqu,zqi,zqi,zql,.row 7,.ptr 4 0,.d (.sl (.st 9)),zqu,.row 3,.row 2],.vec yqu],[7,17],[.one (zqu),.one (zqi)],[8]⟩ .no)) [] .no))) (kfj.c (k99.c (k4c.c c0))) (Q:=∀(p1:wU) (Aa Ab Ad Ac Am An Ai Ak Al Aj Af:Int) (Ag:Li) (Ae:List wB) (Ah Ap Aq:Int) (As:Li) (Ao:Int) (A8:List wB) (A9:Int) (w2 w4:Li) (w5:List wAB) (w6 w7k:Li) (w7v:Lo),((∃c:Nat,c+p1.Txs.length<=790/\PI (PS.mk (wP.mk Aa Ab Ad Ac Am An Ai Ak Al) (wI.mk Aj Af Ag) Ae Ah w2 w4 w5 w7k w7v) c 0)/\BR' p1/\w6=[])->∀R,blkS (PS.mk (wP.mk Aa Ab Ad Ac Am An Ai Ak Al) (wI.mk Aj Af Ag) Ae Ah w2 w4 w5 w7k w7v) w6 p1=R-> 
lz w2/\lz w5/\lz w4/\lz w2/\(w6=w6)/\∃(I1:Fz1 Prop) (M1:Fz1 Nat),I1 0 0 Ap Aq As Ao A8 A9 Aa Ab Ad Ac Am An Ai Ak Al Aj Af Ag Ae Ah w7k w7v w6 w5 w4 w2/\∀b1 f1 i1 k1 l1 m1 n1 o1 q1 s1 t1 u1 x1 y1 b2 f2 i2 k2 l2 m2 n2 o2 q2 s2 t2 u2 x2 y2,(I1 b1 f1 i1 k1 l1 m1 n1 o1 q1 s1 t1 u1 x1 y1 b2 f2 i2 k2 l2 m2 n2 o2 q2 s2 t2 u2 x2 y2->
(decide (f1<(p1.Txs.length:Int))=true->
(0<=f1)/\f1<(p1.Txs.length:Int)/\lz u2/\lz x2/\lz y2/\((∃(c:Nat) (f:Int),c<=800/\PI (PS.mk (wP.mk q1 s1 t1 u1 x1 y1 b2 f2 i2) (wI.mk k2 l2 m2) n2 o2 y2 x2 u2 q2 s2) c f)/\TR (ix p1.Txs f1))/\let r1:Int:=(chkS (PS.mk (wP.mk q1 s1 t1 u1 x1 y1 b2 f2 i2) (wI.mk k2 l2 m2) n2 o2 y2 x2 u2 q2 s2) (ix p1.Txs f1))
((r1 !=0)=true->
(t2=t2)/\lz u2/\lz x2/\lz y2/\k1q R Ap Aq As Ao A8 A9 r1 q1 s1 t1 u1 x1 y1 b2 f2 i2 k2 l2 m2 n2 o2 i1 k1 l1 m1 n1 o1 x2 u2 t2 q2 s2 y2)/\
((r1 !=0)=false->
(t2=t2)/\lz u2/\lz x2/\lz y2/\((∃(c:Nat) (f:Int),c<=800/\PI (PS.mk (wP.mk q1 s1 t1 u1 x1 y1 b2 f2 i2) (wI.mk k2 l2 m2) n2 o2 y2 x2 u2 q2 s2) c f)/\TR (ix p1.Txs f1)/\CK (PS.mk (wP.mk q1 s1 t1 u1 x1 y1 b2 f2 i2) (wI.mk k2 l2 m2) n2 o2 y2 x2 u2 q2 s2) (ix p1.Txs f1)/\t2.length<=1000000)/\let r2:Int:=((perfS (PS.mk (wP.mk q1 s1 t1 u1 x1 y1 b2 f2 i2) (wI.mk k2 l2 m2) n2 o2 y2 x2 u2 q2 s2) (ix p1.Txs f1)).e)
let r3:=(perfS (PS.mk (wP.mk q1 s1 t1 u1 x1 y1 b2 f2 i2) (wI.mk k2 l2 m2) n2 o2 y2 x2 u2 q2 s2) (ix p1.Txs f1)).s
((r2 !=0)=true->
((t2++(ix p1.Txs f1).wE)=(t2++(ix p1.Txs f1).wE))/\lz r3.p/\lz r3.r/\lz r3.l/\k1q R Ap Aq As Ao A8 A9 r2 r3.R.wAk r3.R.wD r3.R.wAG r3.R.wAA r3.R.ww r3.R.wd r3.R.wAe r3.R.wAQ r3.R.wBA r3.F.wD r3.F.wAY r3.F.wAa r3.b r3.n i1 k1 l1 m1 n1 o1 r3.r r3.p (t2++(ix p1.Txs f1).wE) r3.k r3.v r3.l)/\
((r2 !=0)=false->
let v4:Int:=u64.wrap (b1+((ix p1.Txs f1).Fee))
lz r3.p/\lz r3.r/\lz r3.l/\((t2++(ix p1.Txs f1).wE)=(t2++(ix p1.Txs f1).wE))/\I1 v4 (i64.wrap (f1+1)) i1 k1 l1 m1 n1 o1 r3.R.wAk r3.R.wD r3.R.wAG r3.R.wAA r3.R.ww r3.R.wd r3.R.wAe r3.R.wAQ r3.R.wBA r3.F.wD r3.F.wAY r3.F.wAa r3.b r3.n r3.k r3.v (t2++(ix p1.Txs f1).wE) r3.p r3.r r3.l/\M1 v4 (i64.wrap (f1+1)) i1 k1 l1 m1 n1 o1 r3.R.wAk r3.R.wD r3.R.wAG r3.R.wAA r3.R.ww r3.R.wd r3.R.wAe r3.R.wAQ r3.R.wBA r3.F.wD r3.F.wAY r3.F.wAa r3.b r3.n r3.k r3.v (t2++(ix p1.Txs f1).wE) r3.p r3.r r3.l<M1 b1 f1 i1 k1 l1 m1 n1 o1 q1 s1 t1 u1 x1 y1 b2 f2 i2 k2 l2 m2 n2 o2 q2 s2 t2 u2 x2 y2)))/\
(decide (f1<(p1.Txs.length:Int))=false->
(OkA (wAN.mk n2).wF/\U64 (u64.wrap (y1+b1)))/\let r5:=creditA (wAN.mk n2).wF p1.wBP (u64.wrap (y1+b1))
((r5.2 !=0)=true->
(t2=t2)/\lz u2/\lz x2/\lz y2/\k1q R Ap Aq As Ao A8 A9 r5.2 q1 s1 t1 u1 x1 y1 b2 f2 i2 k2 l2 m2 n2 o2 i1 k1 l1 m1 n1 o1 x2 u2 t2 q2 s2 y2)/\
((r5.2 !=0)=false->
(t2=t2)/\lz u2/\lz x2/\lz y2/\k1q R Ap Aq As Ao A8 A9 0 q1 s1 t1 u1 x1 y1 b2 f2 i2 k2 l2 m2 r5.1 o2 i1 k1 l1 m1 n1 o1 x2 u2 t2 q2 s2 y2))))<|by
 rintro p1 Aa Ab Ad Ac Am An Ai Ak Al Aj Af Ag Ae Ah Ap Aq As Ao A8 A9 w2 w4 w5 w6 w7k w7v h R hR;obtain⟨⟨c,hc,hp⟩,hb,hw⟩:=h;subst hw;unfold blkS at hR;generalize hG:blkGo p1.Txs (PS.mk (wP.mk Aa Ab Ad Ac Am An Ai Ak Al) (wI.mk Aj Af Ag) Ae Ah w2 w4 w5 w7k w7v) [] 0=G at hR;refine⟨rfl,rfl,rfl,rfl,rfl,⟨(fun fe a y0 y1 y2 y3 y4 y5 x0 x1 x2 x3 x4 x5 x6 x7 x8 x9 x10 x11 bb nn kk vv mm pp rr ll=>(y0=Ap/\y1=Aq/\y2=As/\y3=Ao/\y4=A8/\y5=A9)/\∃i:Nat,a=(i:Int)/\i<=p1.Txs.length/\(∃c' :Nat,c' +(p1.Txs.length-i)<=790/\PI (PS.mk (wP.mk x0 x1 x2 x3 x4 x5 x6 x7 x8) (wI.mk x9 x10 x11) bb nn ll rr pp kk vv) c' fe)/\mm.length<=4*i/\blkGo (p1.Txs.drop i) (PS.mk (wP.mk x0 x1 x2 x3 x4 x5 x6 x7 x8) (wI.mk x9 x10 x11) bb nn ll rr pp kk vv) mm fe=G),(fun _ a _ _ _ _ _ _ _ _ _ _ _ _ _ _ _ _ _ _ _ _ _ _ _ _ _ _=>(p1.Txs.length-a).toNat),⟨⟨rfl,rfl,rfl,rfl,rfl,rfl⟩,0,rfl,by omega,⟨c,by omega,hp⟩,by simp,hG⟩,?_⟩⟩;rintro fe _ y0 y1 y2 y3 y4 y5 x0 x1 x2 x3 x4 x5 x6 x7 x8 x9 x10 x11 bb nn kk vv mm pp rr ll ⟨⟨rfl,rfl,rfl,rfl,rfl,rfl⟩,i,rfl,hi,⟨c',hc',hq⟩,hm,hg⟩;refine⟨fun e=> ?_,fun e=> ?_⟩
 ·have e:i<p1.Txs.length:=by have:=qb e;omega
  have ht:=hb.t _ (qah e);rw[qo e]at hg;unfold blkGo at hg;rw[ix_get _ _ e,inc_i64 _ qqo];refine⟨by omega,by omega,rfl,rfl,rfl,⟨⟨c',fe,by omega,hq⟩,ht⟩,fun e2=> ?_,fun e2=> ?_⟩
  ·have e2:chkS (PS.mk (wP.mk x0 x1 x2 x3 x4 x5 x6 x7 x8) (wI.mk x9 x10 x11) bb nn ll rr pp kk vv) p1.Txs[i]≠0:=by simpa using e2
   rw[qf e2]at hg;subst hg;simp only at hR;rw[qf e2]at hR;subst hR;exact(by repeat' first|apply qaa|exact rfl|exact ql)
  ·have e2:chkS (PS.mk (wP.mk x0 x1 x2 x3 x4 x5 x6 x7 x8) (wI.mk x9 x10 x11) bb nn ll rr pp kk vv) p1.Txs[i]=0:=by simpa using e2
   have k:=k7i e2;rw[qe (fun hh=>hh e2)]at hg;refine⟨rfl,rfl,rfl,rfl,⟨⟨c',fe,by omega,hq⟩,ht,k,by omega⟩,fun e3=> ?_,fun e3=>⟨rfl,rfl,rfl,rfl,⟨⟨rfl,rfl,rfl,rfl,rfl,rfl⟩,i+1,rfl,by omega,⟨c' +1,by omega,?_⟩,?_,?_⟩,by(dsimp only;omega)⟩⟩
   ·have e3:(perfS (PS.mk (wP.mk x0 x1 x2 x3 x4 x5 x6 x7 x8) (wI.mk x9 x10 x11) bb nn ll rr pp kk vv) p1.Txs[i]).e≠0:=by simpa using e3
    rw[qf e3]at hg;subst hg;simp only at hR;rw[qf e3]at hR;subst hR;exact(by repeat' first|apply qaa|exact rfl|exact ql)
   ·have e3:(perfS (PS.mk (wP.mk x0 x1 x2 x3 x4 x5 x6 x7 x8) (wI.mk x9 x10 x11) bb nn ll rr pp kk vv) p1.Txs[i]).e=0:=by simpa using e3
    have h9:=(hq.perf qqo ht k).2.2 e3;rw[kbf hq qqo ht k];exact h9
   ·have:=k.v.ml;rw[qh];omega
   ·have e3:(perfS (PS.mk (wP.mk x0 x1 x2 x3 x4 x5 x6 x7 x8) (wI.mk x9 x10 x11) bb nn ll rr pp kk vv) p1.Txs[i]).e=0:=by simpa using e3
    rw[qe (fun hh=>hh e3)]at hg;exact hg
 ·have e:i=p1.Txs.length:=by have:=qc e;omega
  subst e;rw[qbs]at hg;unfold blkGo at hg;subst hg;have hw:=kbx (x:=⟨0,(PS.mk (wP.mk x0 x1 x2 x3 x4 x5 x6 x7 x8) (wI.mk x9 x10 x11) bb nn ll rr pp kk vv),mm,fe⟩) hq qqo;simp only at hw;unfold crB at hR;simp only at hR;rw[qe (fun hh=>hh rfl)]at hR;refine⟨⟨hq.b.1,?_⟩,fun e2=> ?_,fun e2=> ?_⟩
  ·rw[hw.1];exact hw.2
  ·have e2:(creditA bb p1.wBP (u64.wrap (x5+fe))).2≠0:=by simpa using e2
   rw[qf e2]at hR;subst hR;exact(by repeat' first|apply qaa|exact rfl|exact ql)
  ·have e2:(creditA bb p1.wBP (u64.wrap (x5+fe))).2=0:=by simpa using e2
   rw[qe (fun hh=>hh e2)]at hR;subst hR;exact(by repeat' first|apply qaa|exact rfl|exact ql)
noncomputable def kfa:Ct:= .g (gk 134 [.one (.ptr 0 0),.one (zql)] yI1 (.one (.one (zqi)))) [.sl yqu,.sl yqu,.sl (.bool)] [yqi,.sl yqu,.sl (.bool)] [] fun(p1 w1k:Li) (w1v:Lo)=>(w1v=trs w1k/\p1.length<=1000000,((remS p1 w1k).1:Int),((remS p1 w1k).2:Li),(trs (remS p1 w1k).2:Lo),())
theorem ki9:kfa.O:=prv Bs Tryz.func134 (.r 1 (.nd [] (.r 0 (.lp [] ⟨[1],yN1,[16],[.one (zqi)],[]⟩ .no)) [] .no)) (kb7.c (k34.c c0)) (Q:=∀(p1 w1k:Li) (w1v:Lo),(w1v=trs w1k/\p1.length<=1000000)->∀r0:Int,((remS p1 w1k).1)=r0->∀e1k:Li,((remS p1 w1k).2)=e1k->∀e1v:Lo,(trs (remS p1 w1k).2)=e1v-> 
(w1v=trs w1k/\p1.length<=1000000)/\let r1:Bool:=(p1.any (fun m=>decide (m∈w1k)==false))
(r1=true->
4=r0/\w1k=e1k/\w1v=e1v)/\
(r1=false->
(p1.length<=1000000)/\((!decide p1.Nodup)=true->
4=r0/\w1k=e1k/\w1v=e1v)/\
((!decide p1.Nodup)=false->
∃(I1:Int->(Li)->(Lo)->Prop) (M1:Int->(Li)->(Lo)->Nat),I1 0 w1k w1v/\∀b1 f1 i1,(I1 b1 f1 i1->
(decide (b1<(p1.length:Int))=true->
(0<=b1)/\b1<(p1.length:Int)/\f1.length=i1.length/\let v2:Li:=mDelK (BEq.beq (ix p1 b1)) f1
let v3:Lo:=mDelV (BEq.beq (ix p1 b1)) f1 i1
I1 (i64.wrap (b1+1)) v2 v3/\M1 (i64.wrap (b1+1)) v2 v3<M1 b1 f1 i1)/\
(decide (b1<(p1.length:Int))=false->
0=r0/\f1=e1k/\i1=e1v)))))<|by
 rintro p1 w1k w1v h _ rfl _ rfl _ rfl;obtain⟨h,hl⟩:=h;subst h;have ea:(p1.any fun m=>decide (m∈w1k)==false)=p1.any fun m=> !decide (m∈w1k):=by congr 1;funext m;cases decide (m∈w1k)<;>rfl
 refine⟨⟨rfl,hl⟩,?_⟩;rw[ea];refine⟨fun e=> ?_,fun e=>⟨hl,fun e2=> ?_,fun e2=> ?_⟩⟩
 ·have:remS p1 w1k=(4,w1k):=by unfold remS;rw[e];rfl
  rw[this];exact⟨rfl,rfl,rfl⟩
 ·have:remS p1 w1k=(4,w1k):=by unfold remS;rw[e,e2];rfl
  rw[this];exact⟨rfl,rfl,rfl⟩
 ·have hA:remS p1 w1k=(0,p1.foldl List.erase w1k):=by unfold remS;rw[e,e2];rfl
  rw[hA];refine⟨(fun a k v=>∃i:Nat,a=(i:Int)/\i<=p1.length/\k=(p1.take i).foldl List.erase w1k/\v=trs k),(fun a _ _=>(p1.length-a).toNat),⟨0,rfl,by omega,rfl,rfl⟩,?_⟩;rintro _ _ _ ⟨i,rfl,hi,rfl,rfl⟩;refine⟨fun e3=> ?_,fun e3=> ?_⟩
  ·have e3:i<p1.length:=by have:=qb e3;omega
   rw[ix_get _ _ e3,inc_i64 _ qqo];obtain⟨q1,q2⟩:=sDel ((p1.take i).foldl List.erase w1k) p1[i];rw[q1,q2];refine⟨by omega,by omega,by simp[trs],⟨i+1,rfl,by omega,?_,rfl⟩,by(dsimp only;omega)⟩;rw[qr e3,List.foldl_append];rfl
  ·have e3:i=p1.length:=by have:=qc e3;omega
   subst e3;rw[qbd];exact⟨rfl,rfl,rfl⟩
noncomputable def ka9:Ct:= .b ⟨88,[.one (.ptr 0 0),.agg [zqi,zqi,zql,zqi,zql,.d (.sl (.st 9)),zqu]],yG,(.tup []),[.cells [zqi,zqi,zqi,zqi,zqi,zqu,zqi,zqi,zqu,zqi,zqi,zql,.view 1,.ptr 2 0,.d (.sl (.st 9)),zqu,.row 3,.row 4],.vec yqu,.cells [.mp 5],.vec yqu,.vec (.st 10),.map yqu (.bool)],false⟩ [.st 10,yqi,yqi,yqi,yqi,yqi,yqu,yqi,yqi,yqu,yqi,yqi,.sl yqu,.sl (.st 9),yqu,.sl yqu,.sl yqu,.sl (.st 10),.sl yqu,.sl (.bool)] [yqi,yqi,yqi,yqi,yqi,yqu,yqi,yqi,yqu,yqi,yqi,.sl yqu,yqi,yqi,.sl (.st 9),yqu,.sl yqu,.sl yqu,.sl (.st 10),.sl yqu,.sl (.bool)] fun(p1:wAB) (Aa Ab Ad Ac Am An Ai Ak Al Aj Af:Int) (Ag:Li) (Ae:List wB) (Ah:Int) (w1 w3:Li) (w4:List wAB) (w5k:Li) (w5v:Lo)=>(w5v=trs w5k/\p1.marks.length<=1000000/\0<=p1.leaves/\p1.leaves<=(w1.length:Int),(),fun _=>(Aa,Ab,Ad,Ac,Am,An,Ai,Ak,Al,p1.wBY,p1.wBZ,p1.wBa,(0:Int),(p1.leaves.toNat:Int),p1.wBV,p1.hidden,w1,w3,w4,((remS p1.marks w5k).2:Li),(trs (remS p1.marks w5k).2:Lo),()))
theorem kcv:ka9.O:=pbv Bs Tryz.func88 .no (ki9.c c0) (Q:=∀(p1:wAB) (Aa Ab Ad Ac Am An Ai Ak Al Aj Af:Int) (Ag:Li) (Ae:List wB) (Ah:Int) (w1 w3:Li) (w4:List wAB) (w5k:Li) (w5v:Lo),(w5v=trs w5k/\p1.marks.length<=1000000/\0<=p1.leaves/\p1.leaves<=(w1.length:Int))->∀R:Unit,()=R-> 
(w5v=trs w5k/\p1.marks.length<=1000000)/\(0<=p1.leaves)/\p1.leaves<=(w1.length:Int)/\lz w4/\lz w3/\Aa=Aa/\Ab=Ab/\Ad=Ad/\Ac=Ac/\Am=Am/\An=An/\Ai=Ai/\Ak=Ak/\Al=Al/\p1.wBY=p1.wBY/\p1.wBZ=p1.wBZ/\p1.wBa=p1.wBa/\(0:Int)=(0:Int)/\(p1.leaves.toNat:Int)=(p1.leaves.toNat:Int)/\p1.wBV=p1.wBV/\p1.hidden=p1.hidden/\w1=w1/\w3=w3/\w4=w4/\((remS p1.marks w5k).2)=((remS p1.marks w5k).2:Li)/\(trs (remS p1.marks w5k).2)=(trs (remS p1.marks w5k).2:Lo))<|by rintro p1 Aa Ab Ad Ac Am An Ai Ak Al Aj Af Ag Ae Ah w1 w3 w4 w5k w5v h R hR;exact⟨⟨h.1,h.2.1⟩,h.2.2.1,h.2.2.2,rfl,rfl,rfl,rfl,rfl,rfl,rfl,rfl,rfl,rfl,rfl,rfl,rfl,rfl,rfl,rfl,rfl,rfl,rfl,rfl,rfl,rfl,rfl⟩
noncomputable def k92:Ct:= .gp 129 [yqi] [yqu] [] fun(p0:Int)=>(0<=p0/\p0<=12,(emp p0.toNat:Int),())
theorem k3z:k92.O:=qrv Bs Tryz.func129 (.r 2 (.nd [] (.r 0 (.lp [] ⟨[],[],[3,12],[.one (zqu),.one (zqi)],[]⟩ .no)) [] .no)) (kx.c (k1p.c c0)) (Q:=∀(p0:Int),(0<=p0/\p0<=12)->∀r0:Int,emp p0.toNat=r0-> 
(decide (p0<0)=true->
0=r0)/\
(decide (p0<0)=false->
(decide (12<p0)=true->
0=r0)/\
(decide (12<p0)=false->
((18446744069414584321:Int)=18446744069414584321/\U64 (6:Int)/\Us ([]:Li)/\([]:Li).length<=1099511627776)/\∃(I1:Int->Int->Prop) (M1:Int->Int->Nat),I1 (hashS (6:Int) ([]:Li)) 0/\∀b1 f1,(I1 b1 f1->
(decide (f1<p0)=true->
(U64 b1/\U64 b1)/\I1 (hashS 6 [b1,b1]) (i64.wrap (f1+1))/\M1 (hashS 6 [b1,b1]) (i64.wrap (f1+1))<M1 b1 f1)/\
(decide (f1<p0)=false->
b1=r0)))))<|by
 rintro p0 h _ rfl;refine⟨fun e=>(by have:=qb e;omega),fun _=>⟨fun e=>(by have:=qb e;omega),fun _=>⟨⟨rfl,by decide,(by intro x hx;cases hx),by decide⟩,?_⟩⟩⟩;refine⟨(fun x a=>∃i:Nat,a=(i:Int)/\(i:Int)<=p0/\x=emp i),(fun _ a=>(p0-a).toNat),⟨0,rfl,by omega,rfl⟩,?_⟩;rintro _ _ ⟨i,rfl,hi,rfl⟩;refine⟨fun e=> ?_,fun e=> ?_⟩
 ·have e:=qb e;rw[inc_i64 _ qqo];exact⟨⟨emp_u i,emp_u i⟩,⟨i+1,rfl,by omega,rfl⟩,by(dsimp only;omega)⟩
 ·have e:=qc e;have:p0.toNat=i:=by omega
  rw[this]
noncomputable def kas:Ct:= .gp 86 [.st 6] [yqu] [] fun(p0:wI)=>(FV p0,(rootF p0:Int),())
theorem k2o:kas.O:=qrv Bs Tryz.func86 (.r 4 (.nd [] (.r 0 (.lp [] ⟨[],[],[3,4,25],[.one (zqu),.one (zqu),.one (zqi)],[]⟩ (.r 1 (.nd [] (.r 0 (.jn ⟨[],[],[4],[.one (zqu)],[]⟩ [] .no [] .no)) [] .no)))) [] .no)) (k41.c (k3z.c (k1p.c c0))) (Q:=∀(p0:wI),(FV p0)->∀r0:Int,rootF p0=r0-> 
(FV p0)/\((!true)=true->
0=r0)/\
((!true)=false->
(0<=p0.wD)/\((p0.wAY==(ishl .i64 1 p0.wD))=true->
(0<=p0.wD)/\p0.wD<(p0.wAa.length:Int)/\ix p0.wAa p0.wD=r0)/\
((p0.wAY==(ishl .i64 1 p0.wD))=false->
(0<=(0:Int)/\(0:Int)<=12)/\∃(I1:Int->Int->Int->Prop) (M1:Int->Int->Int->Nat),I1 (emp (0:Int).toNat) (emp (0:Int).toNat) 0/\∀b1 f1 i1,(I1 b1 f1 i1->
(decide (i1<p0.wD)=true->
∀J1:Int->Prop,(∀(k1:Int),
((U64 b1/\U64 b1)/\I1 (hashS 6 [b1,b1]) k1 (i64.wrap (i1+1))/\M1 (hashS 6 [b1,b1]) k1 (i64.wrap (i1+1))<M1 b1 f1 i1)->J1 k1)->
(0<=i1)/\let v1:Bool:=((iand .i64 (ishr .i64 p0.wAY i1) 1)==1)
(v1=true->
(0<=i1)/\i1<(p0.wAa.length:Int)/\(U64 (ix p0.wAa i1)/\U64 f1)/\J1 (hashS 6 [(ix p0.wAa i1),f1]))/\
(v1=false->
(U64 f1/\U64 b1)/\J1 (hashS 6 [f1,b1])))/\
(decide (i1<p0.wD)=false->
f1=r0)))))<|by
 rintro p0 h _ rfl;have hv:=h;obtain⟨d1,d2,c0,c1,ll,u,z⟩:=h;obtain⟨d,hd⟩:=qn (show 0<=p0.wD by omega);obtain⟨n,hn⟩:=qn c0;have hdn:p0.wD.toNat=d:=by omega
 have hp:=pow12 d qqo;rw[hdn]at c1 ll;refine⟨hv,fun e=>(by cases e),fun _=>⟨by omega,?_⟩⟩;rw[hd,shl1 d qqo,hn];refine⟨fun e=>⟨by omega,by omega,?_⟩,fun e=>⟨by decide,?_⟩⟩
 ·have e:(n:Int)=((2^d:Nat):Int):=by simpa using e
  unfold rootF;rw[hdn,hn,qf e,hd]
 have e:¬(n:Int)=((2^d:Nat):Int):=by simpa using e
 have hr:rootF p0=rootGo p0 d 0 (emp 0) (emp 0):=by unfold rootF;rw[hdn,hn,qe e]
 rw[hr];refine⟨fun a x b=>∃i:Nat,b=(i:Int)/\i<=d/\a=emp i/\(0<=x/\x<18446744069414584321)/\rootGo p0 (d-i) i (emp i) x=rootGo p0 d 0 (emp 0) (emp 0),fun _ _ b=>(d-b).toNat,⟨0,rfl,by omega,rfl,⟨(emp_u 0).1,emp_lt 0⟩,rfl⟩,?_⟩;rintro _ x _ ⟨i,rfl,hi,rfl,hx,hg⟩;refine⟨fun e J1 j=> ?_,fun e=> ?_⟩
 ·have e:i<d:=by have:=qb e;omega
  have hs:i<p0.wAa.length:=by omega
  have hxl:=u _ (qah hs);generalize hR:rootGo p0 d 0 (emp 0) (emp 0)=R at hg ⊢;rw[show d-i=d-(i+1)+1 by omega]at hg;unfold rootGo at hg;rw[hn,qx]at hg;rw[bit1 n i qqo qqo];refine⟨by omega,fun e2=>⟨by omega,by omega,?_,?_⟩,fun e2=>⟨⟨⟨hx.1,by omega⟩,emp_u i⟩,?_⟩⟩
  ·rw[ix_get _ _ hs];exact⟨⟨hxl.1,by omega⟩,hx.1,by omega⟩
  ·have e2:((n/2^i%2:Nat):Int)=1:=by simpa using e2
   have hb:bitN n i=true:=by unfold bitN;generalize n/2^i%2=q at *;simp;omega
   rw[qf hb]at hg;refine j _ ⟨⟨emp_u i,emp_u i⟩,?_⟩;rw[inc_i64 _ qqo];exact⟨⟨i+1,rfl,by omega,rfl,⟨(kh _ _).1,k2n _ _⟩,hg.trans hR.symm⟩,by show((d:Int)-((i+1:Nat):Int)).toNat<((d:Int)-(i:Int)).toNat;omega⟩
  ·have e2:¬((n/2^i%2:Nat):Int)=1:=by simpa using e2
   have hb:¬bitN n i=true:=by unfold bitN;generalize n/2^i%2=q at *;simp;omega
   rw[qe hb]at hg;refine j _ ⟨⟨emp_u i,emp_u i⟩,?_⟩;rw[inc_i64 _ qqo];exact⟨⟨i+1,rfl,by omega,rfl,⟨(kh _ _).1,k2n _ _⟩,hg.trans hR.symm⟩,by show((d:Int)-((i+1:Nat):Int)).toNat<((d:Int)-(i:Int)).toNat;omega⟩
 ·have e:d=i:=by have:=qc e;omega
  subst e;rw[Nat.sub_self]at hg;exact hg
noncomputable def ke2:Ct:= .b ⟨53,[.one (.ptr 0 0),.agg yD1],yG,(.one (.one (zqi))),[.cells [zqi,zqi,zqi,zqi,zqi,zqu,zqi,zqi,zqu,zqi,zqi,zql,.row 6,.ptr 2 0,.d (.sl (.st 9)),zqu,.row 7,.row 8],.dead,.cells [.mp 5],.dead,.dead,.map yqu (.bool),.vec yqu,.vec yqu,.vec (.st 10)],false⟩ [.st 3,yqi,yqi,yqi,yqi,yqi,yqu,yqi,yqi,yqu,yqi,yqi,.sl yqu,.sl (.st 9),yqu,.sl yqu,.sl yqu,.sl (.st 10),.sl yqu,.sl (.bool)] [yqi,yqi,yqi,yqi,yqi,yqi,yqu,yqi,yqi,yqu,yqi,yqi,.sl yqu,.sl (.st 9),yqu,.sl yqu,.sl (.bool),.sl yqu,.sl yqu,.sl (.st 10)] fun(p1:wU) (Aa Ab Ad Ac Am An Ai Ak Al Aj Af:Int) (Ag:Li) (Ae:List wB) (Ah:Int) (w1 w3:Li) (w4:List wAB) (w5k:Li) (w5v:Lo)=>((∃c:Nat,c+p1.Txs.length<=790/\PI (PS.mk (wP.mk Aa Ab Ad Ac Am An Ai Ak Al) (wI.mk Aj Af Ag) Ae Ah w1 w3 w4 w5k w5v) c 0)/\BR' p1,applyS (PS.mk (wP.mk Aa Ab Ad Ac Am An Ai Ak Al) (wI.mk Aj Af Ag) Ae Ah w1 w3 w4 w5k w5v) p1,fun R=>(R.e,R.s.R.wAk,R.s.R.wD,R.s.R.wAG,R.s.R.wAA,R.s.R.ww,R.s.R.wd,R.s.R.wAe,R.s.R.wAQ,R.s.R.wBA,R.s.F.wD,R.s.F.wAY,R.s.F.wAa,R.s.b,R.s.n,R.s.k,R.s.v,R.s.l,R.s.r,R.s.p,()))
abbrev k29 (R:PE) (o0 o1 o2 o3 o4 o5 o6 o7 o8 o9 o10 o11:Int) (o12:Li) (o13:List wB) (o14:Int) (o15:Li) (o16:Lo) (o17 o18:Li) (o19:List wAB):Prop:=o0=R.e/\o1=R.s.R.wAk/\o2=R.s.R.wD/\o3=R.s.R.wAG/\o4=R.s.R.wAA/\o5=R.s.R.ww/\o6=R.s.R.wd/\o7=R.s.R.wAe/\o8=R.s.R.wAQ/\o9=R.s.R.wBA/\o10=R.s.F.wD/\o11=R.s.F.wAY/\o12=R.s.F.wAa/\o13=R.s.b/\o14=R.s.n/\o15=R.s.k/\o16=R.s.v/\o17=R.s.l/\o18=R.s.r/\o19=R.s.p
theorem kgk:ke2.O:=pbx Bs [61,62,75,76] Tryz.func53 (.r 0 (.nd [] (.r 0 (.nd [] (.r 0 (.rt [.trimc 0 12,.trimc 0 16,.trimc 0 17])) [] .no)) [] (.nd [] (.r 0 (.nd [] (.r 0 (.rt [.trimc 0 12,.trimc 0 16,.trimc 0 17])) [] .no)) [] (.r 1 (.nd [] (.nd [.tokc 439 4 yqu] .no [] (.r 0 (.nd [] (.r 1 (.rt [.trimc 0 12,.trimc 0 16,.trimc 0 17])) [] .no))) [] .no))))) x0 (kbk.c (kcv.c (k2o.c c0))) (Q:=∀(p1:wU) (Aa Ab Ad Ac Am An Ai Ak Al Aj Af:Int) (Ag:Li) (Ae:List wB) (Ah:Int) (w1 w3:Li) (w4:List wAB) (w5k:Li) (w5v:Lo),((∃c:Nat,c+p1.Txs.length<=790/\PI (PS.mk (wP.mk Aa Ab Ad Ac Am An Ai Ak Al) (wI.mk Aj Af Ag) Ae Ah w1 w3 w4 w5k w5v) c 0)/\BR' p1)->∀R,applyS (PS.mk (wP.mk Aa Ab Ad Ac Am An Ai Ak Al) (wI.mk Aj Af Ag) Ae Ah w1 w3 w4 w5k w5v) p1=R-> 
let v1:Bool:=(p1.wO !=(i64.wrap ((w4.length:Int)+1)))
(v1=true->
lz w1/\lz w3/\lz w4/\lz w4/\lz w3/\lz w1/\k29 R 18 Aa Ab Ad Ac Am An Ai Ak Al Aj Af Ag Ae Ah w5k w5v w1 w3 w4)/\
(v1=false->
(decide (18446744069414584321<=p1.wBP)=true->
lz w1/\lz w3/\lz w4/\lz w4/\lz w3/\lz w1/\k29 R 1 Aa Ab Ad Ac Am An Ai Ak Al Aj Af Ag Ae Ah w5k w5v w1 w3 w4)/\
(decide (18446744069414584321<=p1.wBP)=false->
(([]:Li)=([]:Li))/\lz w4/\lz w3/\lz w1/\((∃c:Nat,c+p1.Txs.length<=790/\PI (PS.mk (wP.mk Aa Ab Ad Ac Am An Ai Ak Al) (wI.mk Aj Af Ag) Ae Ah w1 w3 w4 w5k w5v) c 0)/\BR' p1/\([]:Li)=[])/\let r2:=blkS (PS.mk (wP.mk Aa Ab Ad Ac Am An Ai Ak Al) (wI.mk Aj Af Ag) Ae Ah w1 w3 w4 w5k w5v) ([]:Li) p1
let r3:=(blkS (PS.mk (wP.mk Aa Ab Ad Ac Am An Ai Ak Al) (wI.mk Aj Af Ag) Ae Ah w1 w3 w4 w5k w5v) ([]:Li) p1).s
((r2.e !=0)=true->
lz r3.p/\lz r3.r/\lz r3.l/\(r3.v=trs r3.k/\(wAB.mk Aj Af Ag (w1.length:Int) r2.m Ae Ah).marks.length<=1000000/\0<=(wAB.mk Aj Af Ag (w1.length:Int) r2.m Ae Ah).leaves/\(wAB.mk Aj Af Ag (w1.length:Int) r2.m Ae Ah).leaves<=(r3.l.length:Int))/\let r4:=wAB.mk Aj Af Ag (w1.length:Int) r2.m Ae Ah
let r5:Int:=((wAB.mk Aj Af Ag (w1.length:Int) r2.m Ae Ah).leaves.toNat:Int)
let r6:Li:=((remS (wAB.mk Aj Af Ag (w1.length:Int) r2.m Ae Ah).marks r3.k).2)
let r7:Lo:=(trs (remS (wAB.mk Aj Af Ag (w1.length:Int) r2.m Ae Ah).marks r3.k).2)
(0:Int).toNat=0/\r5.toNat<=r3.l.length/\lz r3.r/\lz r3.p/\lz r3.p/\lz r3.r/\lz (r3.l.take r5.toNat)/\k29 R r2.e r3.R.wAk r3.R.wD r3.R.wAG r3.R.wAA r3.R.ww r3.R.wd r3.R.wAe r3.R.wAQ r3.R.wBA r4.wBY r4.wBZ r4.wBa r4.wBV r4.hidden r6 r7 (r3.l.take r5.toNat) r3.r r3.p)/\
((r2.e !=0)=false->
let v8:List wAB:=[wAB.mk Aj Af Ag (w1.length:Int) r2.m Ae Ah]
lz r3.p/\lz v8/\(r3.p.length+v8.length)*104<=140737488355328/\r3.p.length+v8.length<=maxLen/\(FV r3.F)/\lz r3.r/\lz [(rootF r3.F)]/\(r3.r.length+[(rootF r3.F)].length)*8<=140737488355328/\r3.r.length+[(rootF r3.F)].length<=maxLen/\lz (r3.p++v8)/\lz (r3.r++[(rootF r3.F)])/\lz r3.l/\k29 R 0 r3.R.wAk r3.R.wD r3.R.wAG r3.R.wAA r3.R.ww r3.R.wd r3.R.wAe r3.R.wAQ r3.R.wBA r3.F.wD r3.F.wAY r3.F.wAa r3.b r3.n r3.k r3.v r3.l (r3.r++[(rootF r3.F)]) (r3.p++v8)))))<|by
 rintro p1 Aa Ab Ad Ac Am An Ai Ak Al Aj Af Ag Ae Ah w1 w3 w4 w5k w5v h R hR;obtain⟨⟨c,hc,hp⟩,hb⟩:=h;have hB:=blkS_BI hp qqo hb;have hml:=blkS_ml (PS.mk (wP.mk Aa Ab Ad Ac Am An Ai Ak Al) (wI.mk Aj Af Ag) Ae Ah w1 w3 w4 w5k w5v) p1;have hQ:=ks7 hB hp.v;have hpl:w4.length<=c:=hp.p;have hrl:w3.length=w4.length+1:=hp.rl;unfold applyS at hR;generalize hx:blkS (PS.mk (wP.mk Aa Ab Ad Ac Am An Ai Ak Al) (wI.mk Aj Af Ag) Ae Ah w1 w3 w4 w5k w5v) [] p1=x at hB hml hQ hR;simp only at hR;have ei:i64.wrap ((w4.length:Int)+1)=(w4.length:Int)+1:=km _ qqo qqo;rw[ei];refine⟨fun e=> ?_,fun e=>⟨fun e2=> ?_,fun e2=>⟨(by first|exact rfl|exact ql),rfl,rfl,rfl,⟨⟨c,hc,hp⟩,hb,rfl⟩,fun e3=> ?_,fun e3=> ?_⟩⟩⟩
 ·have e:p1.wO≠(w4.length:Int)+1:=by simpa using e
  rw[qf e]at hR;subst hR;exact(by repeat' first|apply qaa|exact rfl|exact ql)
 ·have e:¬p1.wO≠(w4.length:Int)+1:=by simpa using e
  rw[qe e,qf (qb e2)]at hR;subst hR;exact(by repeat' first|apply qaa|exact rfl|exact ql)
 ·have e:¬p1.wO≠(w4.length:Int)+1:=by simpa using e
  have e3:x.e≠0:=by simpa using e3
  rw[qe e,qe (qc e2),qf e3]at hR;subst hR;obtain⟨y,hy⟩:=hB.l;have hy:x.s.l=w1++y:=hy;have hR2:x.s.R=wP.mk Aa Ab Ad Ac Am An Ai Ak Al:=hB.R;have hk2:(remS x.m x.s.k).2=w5k:=congrArg PS.k hQ;have hv2:trs (remS x.m x.s.k).2=w5v:=congrArg PS.v hQ;have hl2:x.s.l.take w1.length=w1:=by rw[hy];exact List.take_left
  have hr2:x.s.r=w3:=hB.r;have hp2:x.s.p=w4:=hB.p;refine⟨rfl,rfl,rfl,⟨hB.v,?_,?_,?_⟩,?_⟩
  ·show x.m.length<=1000000;omega
  ·show(0:Int)<=(w1.length:Int);omega
  ·show(w1.length:Int)<=(x.s.l.length:Int);rw[hy,qh];omega
  ·simp only[qx];rw[hR2,hk2,hl2,hr2,hp2];rw[hk2]at hv2;refine⟨(by first|exact rfl|exact ql),?_,?_⟩
   ·rw[hy,qh];omega
   ·rw[hv2];exact(by repeat' first|apply qaa|exact rfl|exact ql)
 ·have e:¬p1.wO≠(w4.length:Int)+1:=by simpa using e
  have e3:x.e=0:=by simpa using e3
  rw[qe e,qe (qc e2),qe (fun hh=>hh e3)]at hR;subst hR;have hr2:x.s.r=w3:=hB.r;have hp2:x.s.p=w4:=hB.p;have hR2:x.s.R=wP.mk Aa Ab Ad Ac Am An Ai Ak Al:=hB.R;have hfv:FV x.s.F:=by rw[hB.F];exact frF_FV (by rw[hR2];exact hp.d1) (by rw[hR2];exact hp.d2) hB.ll hB.lb
  rw[hr2,hp2];refine⟨rfl,rfl,?_,?_,hfv,rfl,rfl,?_,?_,(by repeat' first|apply qaa|exact rfl|exact ql)⟩
  ·simp only[qj,qt];omega
  ·simp only[qj,qt];unfold maxLen;omega
  ·simp only[qj,qt];omega
  ·simp only[qj,qt];unfold maxLen;omega
noncomputable def k9i:Ct:= .g ⟨89,[.one (.row 0)],[.vec yqu],(.one (.one (.row 1))),[.vec yqu,.vec yqu],false⟩ [.sl yqu] [.sl yqu,.sl yqu] [] fun(w0:Li)=>(w0.length<=1000000,w0,w0,())
theorem kad:k9i.O:=prx Bs [5,7] Tryz.func89 (.r 0 (.nd [] (.r 0 (.nd [] (.r 0 (.rt [.rnil 2 yqu])) [] .no)) [] .no)) x0 c0 (Q:=∀(w0:Li),(w0.length<=1000000)->∀e0:Li,w0=e0->∀e1:Li,w0=e1-> 
∀z4:Bool,(z4=true->w0.length=0)->(z4=true->
(0=([]:Li).length)/\w0=e0/\([]:Li)=e1)/\
(z4=false->
lz ([]:Li)/\lz w0/\(([]:Li).length+w0.length)*8<=140737488355328/\([]:Li).length+w0.length<=maxLen/\lz (([]:Li)++w0)/\w0=e0/\([]:Li)++w0=e1))<|by rintro w0 h _ rfl _ rfl;exact fun z hz=>⟨fun e=>⟨rfl,rfl,(qav (hz e)).symm⟩,fun e=>⟨rfl,rfl,by simp;omega,by simp;unfold maxLen;omega,rfl,rfl,rfl⟩⟩
noncomputable def kc0:Ct:= .b (gk 54 [.one (.ptr 0 0)] yG (.one (.one (zql)))) yN [.sl yqu,yqi,yqi,yqi,yqi,yqi,yqu,yqi,yqi,yqu,yqi,yqi,.sl yqu,.sl (.st 9),yqu,.sl yqu,.sl yqu,.sl (.st 10),.sl yqu,.sl (.bool)] fun(Aa Ab Ad Ac Am An Ai Ak Al Aj Af:Int) (Ag:Li) (Ae:List wB) (Ah:Int) (w1 w3:Li) (w4:List wAB) (w5k:Li) (w5v:Lo)=>(w1.length<=1000000,(),fun _=>(w1,Aa,Ab,Ad,Ac,Am,An,Ai,Ak,Al,Aj,Af,Ag,Ae,Ah,w1,w3,w4,w5k,w5v,()))
theorem keh:kc0.O:=pbv Bs Tryz.func54 (.r 1 (.rt [.frz 6 [2]])) (kad.c c0) (Q:=∀(Aa Ab Ad Ac Am An Ai Ak Al Aj Af:Int) (Ag:Li) (Ae:List wB) (Ah:Int) (w1 w3:Li) (w4:List wAB) (w5k:Li) (w5v:Lo),(w1.length<=1000000)->∀R:Unit,()=R-> 
lz w1/\(w1.length<=1000000)/\lz w1/\lz w4/\lz w3/\lz w1/\w1=w1/\Aa=Aa/\Ab=Ab/\Ad=Ad/\Ac=Ac/\Am=Am/\An=An/\Ai=Ai/\Ak=Ak/\Al=Al/\Aj=Aj/\Af=Af/\Ag=Ag/\Ae=Ae/\Ah=Ah/\w1=w1/\w3=w3/\w4=w4/\w5k=w5k/\w5v=w5v)<|by rintro Aa Ab Ad Ac Am An Ai Ak Al Aj Af Ag Ae Ah w1 w3 w4 w5k w5v h R hR;exact⟨rfl,h,(by repeat' first|apply qaa|exact rfl|exact ql)⟩
noncomputable def k4s:Ct:= .gp 91 [.sl (.st 9)] [.sl (.st 9)] [] fun(p0:List wB)=>(p0.length<=100000,p0,())
theorem k53:k4s.O:=qrv Bs Tryz.func91 .no c0 (Q:=∀(p0:List wB),(p0.length<=100000)->∀r0:List wB,p0=r0-> 
∀z4:Bool,(z4=true->p0=[])->(z4=true->
([]:List wB)=r0)/\
(z4=false->
(([]:List wB).length+p0.length)*24<=140737488355328/\([]:List wB).length+p0.length<=maxLen/\([]:List wB)++p0=r0))<|by rintro p0 h _ rfl;exact fun z hz=>⟨fun h=>(hz h).symm,fun _=>⟨by simp;omega,by simp;unfold maxLen;omega,rfl⟩⟩
noncomputable def kbu:Ct:= .b (gk 56 [.one (.ptr 0 0)] yG (.one (.agg [.d (.sl (.st 9))]))) yN [.st 15,yqi,yqi,yqi,yqi,yqi,yqu,yqi,yqi,yqu,yqi,yqi,.sl yqu,.sl (.st 9),yqu,.sl yqu,.sl yqu,.sl (.st 10),.sl yqu,.sl (.bool)] fun(Aa Ab Ad Ac Am An Ai Ak Al Aj Af:Int) (Ag:Li) (Ae:List wB) (Ah:Int) (w1 w3:Li) (w4:List wAB) (w5k:Li) (w5v:Lo)=>(Ae.length<=100000,(),fun _=>((wAN.mk Ae:wAN),Aa,Ab,Ad,Ac,Am,An,Ai,Ak,Al,Aj,Af,Ag,Ae,Ah,w1,w3,w4,w5k,w5v,()))
theorem kdc:kbu.O:=pbv Bs Tryz.func56 .no (k53.c c0) (Q:=∀(Aa Ab Ad Ac Am An Ai Ak Al Aj Af:Int) (Ag:Li) (Ae:List wB) (Ah:Int) (w1 w3:Li) (w4:List wAB) (w5k:Li) (w5v:Lo),(Ae.length<=100000)->∀R:Unit,()=R-> 
(Ae.length<=100000)/\lz w4/\lz w3/\lz w1/\Ae=(wAN.mk Ae:wAN).wF/\Aa=Aa/\Ab=Ab/\Ad=Ad/\Ac=Ac/\Am=Am/\An=An/\Ai=Ai/\Ak=Ak/\Al=Al/\Aj=Aj/\Af=Af/\Ag=Ag/\Ae=Ae/\Ah=Ah/\w1=w1/\w3=w3/\w4=w4/\w5k=w5k/\w5v=w5v)<|by rintro Aa Ab Ad Ac Am An Ai Ak Al Aj Af Ag Ae Ah w1 w3 w4 w5k w5v h R hR;exact⟨h,(by repeat' first|apply qaa|exact rfl|exact ql)⟩
noncomputable def kfu:Ct:= .b (gk 52 [.one (.ptr 0 0)] yG (.one (.one (zqu)))) yN [yqu,yqi,yqi,yqi,yqi,yqi,yqu,yqi,yqi,yqu,yqi,yqi,.sl yqu,.sl (.st 9),yqu,.sl yqu,.sl yqu,.sl (.st 10),.sl yqu,.sl (.bool)] fun(Aa Ab Ad Ac Am An Ai Ak Al Aj Af:Int) (Ag:Li) (Ae:List wB) (Ah:Int) (w1 w3:Li) (w4:List wAB) (w5k:Li) (w5v:Lo)=>(w3.length<=1000000,(),fun _=>(((if w3=[]then 0 else ix w3 ((w3.length:Int)-1)):Int),Aa,Ab,Ad,Ac,Am,An,Ai,Ak,Al,Aj,Af,Ag,Ae,Ah,w1,w3,w4,w5k,w5v,()))
theorem kje:kfu.O:=pbv Bs Tryz.func52 .no c0 (Q:=∀(Aa Ab Ad Ac Am An Ai Ak Al Aj Af:Int) (Ag:Li) (Ae:List wB) (Ah:Int) (w1 w3:Li) (w4:List wAB) (w5k:Li) (w5v:Lo),(w3.length<=1000000)->∀R:Unit,()=R-> 
(((w3.length:Int)==0)=true->
lz w4/\lz w3/\lz w1/\0=((if w3=[]then 0 else ix w3 ((w3.length:Int)-1)):Int)/\Aa=Aa/\Ab=Ab/\Ad=Ad/\Ac=Ac/\Am=Am/\An=An/\Ai=Ai/\Ak=Ak/\Al=Al/\Aj=Aj/\Af=Af/\Ag=Ag/\Ae=Ae/\Ah=Ah/\w1=w1/\w3=w3/\w4=w4/\w5k=w5k/\w5v=w5v)/\
(((w3.length:Int)==0)=false->
(0<=i64.wrap ((w3.length:Int)-1)/\i64.wrap ((w3.length:Int)-1)<(w3.length:Int))/\(0<=i64.wrap ((w3.length:Int)-1)/\i64.wrap ((w3.length:Int)-1)<(w3.length:Int))/\let v1:Int:=ix w3 (i64.wrap ((w3.length:Int)-1))
lz w4/\lz w3/\lz w1/\v1=((if w3=[]then 0 else ix w3 ((w3.length:Int)-1)):Int)/\Aa=Aa/\Ab=Ab/\Ad=Ad/\Ac=Ac/\Am=Am/\An=An/\Ai=Ai/\Ak=Ak/\Al=Al/\Aj=Aj/\Af=Af/\Ag=Ag/\Ae=Ae/\Ah=Ah/\w1=w1/\w3=w3/\w4=w4/\w5k=w5k/\w5v=w5v))<|by
 rintro Aa Ab Ad Ac Am An Ai Ak Al Aj Af Ag Ae Ah w1 w3 w4 w5k w5v h R hR;refine⟨fun e=> ?_,fun e=> ?_⟩
 ·have e:w3=[]:=by simpa using e
  rw[qf e];exact(by repeat' first|apply qaa|exact rfl|exact ql)
 ·have e:¬w3=[]:=by simpa using e
  have hne:1<=w3.length:=qdb.2 e;rw[qe e,km _ qqo qqo];exact⟨⟨by omega,by omega⟩,⟨by omega,by omega⟩,(by repeat' first|apply qaa|exact rfl|exact ql)⟩
noncomputable def kdr:Ct:= .t (gk 65 [.one (.ptr 0 0)] yE1 (.one (.one (.d (.bool))))) yL1 [.bool,.sl yqb,yqi,.bool] [] fun(Aa:Li) (Ab:Int) (Ad:Bool)=>(((!Ad&&Ab==(Aa.length:Int)):Bool),Aa,Ab,Ad,())
theorem kgj:kdr.O:=ptv Bs Tryz.func65 .no c0 (Q:=∀(Aa:Li) (Ab:Int) (Ad:Bool),∀r0:Bool,(!Ad&&Ab==(Aa.length:Int))=r0->∀Az:Li,Aa=Az->∀A0:Int,Ab=A0->∀A7:Bool,Ad=A7-> 
((!Ad)=true->
(Ab==(Aa.length:Int))=r0/\Aa=Az/\Ab=A0/\Ad=A7)/\
((!Ad)=false->
false=r0/\Aa=Az/\Ab=A0/\Ad=A7))<|by rintro Aa Ab Ad _ rfl _ rfl _ rfl _ rfl;refine⟨fun e=>⟨by rw[e];rfl,rfl,rfl,rfl⟩,fun e=>⟨by rw[e];rfl,rfl,rfl,rfl⟩⟩
noncomputable def kdw:Ct:= .g (gk 97 [.one (.ptr 0 0)] yE1 (.one (.one (zqi)))) yL1 yJ1 [] fun(Aa:Li) (Ab:Int) (Ad:Bool)=>((0<=Ab/\Ab<=Aa.length)/\Aa.length<=137438953472,((Aa.length:Int)-Ab:Int),Aa,Ab,Ad,())
theorem k69:kdw.O:=prv Bs Tryz.func97 .no c0 (Q:=∀(Aa:Li) (Ab:Int) (Ad:Bool),((0<=Ab/\Ab<=Aa.length)/\Aa.length<=137438953472)->∀r0:Int,((Aa.length:Int)-Ab)=r0->∀Az:Li,Aa=Az->∀A0:Int,Ab=A0->∀A7:Bool,Ad=A7-> 
let v1:Int:=i64.wrap ((Aa.length:Int)-Ab)
v1=r0/\Aa=Az/\Ab=A0/\Ad=A7)<|by rintro Aa Ab Ad h _ rfl _ rfl _ rfl _ rfl;exact⟨wi _ qqo qqo,rfl,rfl,rfl⟩
noncomputable def ka1:Ct:= .g (gk 96 [.one (.ptr 0 0),.one (zqi)] yE1 (.tup [.one (zqu),.one (.d (.bool))])) yJ1 [yqu,.bool,.sl yqb,yqi,.bool] [true,true,false,true,true] fun(p1:Int) (Aa:Li) (Ab:Int) (Ad:Bool)=>(RdOk Aa Ab/\1<=p1/\p1<=8,((rdD Aa Ab Ad p1).n:Int),((rdD Aa Ab Ad p1).ok:Bool),Aa,((rdD Aa Ab Ad p1).pos:Int),((rdD Aa Ab Ad p1).fail:Bool),())
theorem k2p:ka1.O:=prv Bs Tryz.func96 (.r 0 (.nd [] (.jn ⟨[0],yE1,[17],[.one (.d (.bool))],[]⟩ [] .no [] .no) [] (.r 0 (.nd [] (.r 0 (.lp [] ⟨[],[],[6,22],[.one (zqu),.one (zqi)],[]⟩ .no)) [] .no)))) (k69.c c0) (Q:=∀(p1:Int) (Aa:Li) (Ab:Int) (Ad:Bool),(RdOk Aa Ab/\1<=p1/\p1<=8)->∀r0:Int,((rdD Aa Ab Ad p1).n)=r0->∀r1:Bool,((rdD Aa Ab Ad p1).ok)=r1->∀Az:Li,Aa=Az->∀A0:Int,((rdD Aa Ab Ad p1).pos)=A0->∀A7:Bool,((rdD Aa Ab Ad p1).fail)=A7-> 
∀J1:Bool->(Li)->Int->Bool->Prop,(∀(b1:Bool) (f1:Li) (i1:Int) (k1:Bool),
((b1=true->
0=r0/\false=r1/\f1=Az/\i1=A0/\true=A7)/\
(b1=false->
∃(I1:Int->Int->Prop) (M1:Int->Int->Nat),I1 0 0/\∀l1 m1,(I1 l1 m1->
(decide (m1<p1)=true->
(0<=i64.wrap (i1+m1))/\i64.wrap (i1+m1)<(f1.length:Int)/\let v3:Int:=u64.wrap (ix f1 (i64.wrap (i1+m1)))
(0<=i64.wrap (8*m1))/\let v4:Int:=ior .u64 l1 (ishl .u64 v3 (i64.wrap (8*m1)))
I1 v4 (i64.wrap (m1+1))/\M1 v4 (i64.wrap (m1+1))<M1 l1 m1)/\
(decide (m1<p1)=false->
l1=r0/\true=r1/\f1=Az/\i64.wrap (i1+p1)=A0/\k1=A7))))->J1 b1 f1 i1 k1)->
(Ad=true->
J1 true Aa Ab Ad)/\
(Ad=false->
((0<=Ab/\Ab<=Aa.length)/\Aa.length<=137438953472)/\let v2:Bool:=decide (((Aa.length:Int)-Ab)<p1)
J1 v2 Aa Ab Ad))<|by
 rintro p1 Aa Ab Ad h;repeat rintro _ rfl
 obtain⟨⟨hb,hl,h0,h1⟩,h2,h3⟩:=h;intro J1 k1;have jf:(Ad=true∨(Aa.length:Int)-Ab<p1)->J1 true Aa Ab Ad:=by intro h;refine k1 _ _ _ _ ⟨fun _=> ?_,fun h=>by simp at h⟩;unfold rdD;rw[qf h];exact⟨rfl,rfl,rfl,rfl,rfl⟩
 have jt:¬(Ad=true∨(Aa.length:Int)-Ab<p1)->J1 false Aa Ab Ad:=by
  intro h;refine k1 _ _ _ _ ⟨fun h=>by simp at h,fun _=> ?_⟩;have hD:rdD Aa Ab Ad p1=⟨val ((Aa.drop Ab.toNat).take p1.toNat),true,Ab+p1,false⟩:=by unfold rdD;rw[qe h]
  rw[hD];refine⟨(fun n i=>0<=i/\i<=p1/\n=val ((Aa.drop Ab.toNat).take i.toNat)),(fun _ i=>(p1-i).toNat),⟨by omega,by omega,rfl⟩,?_⟩;rintro n i ⟨g0,g1,rfl⟩;refine⟨fun hh=> ?_,fun hh=> ?_⟩
  ·have hh:=qb hh;have hlen:(((Aa.drop Ab.toNat).take i.toNat).length:Int)=i:=by rw[qu,qan];omega
   have hix:ix Aa (Ab+i)=ix (Aa.drop Ab.toNat) i:=by rw[ix_nat _ _ qqo qqo,ix_nat _ _ g0 (by rw[qan];omega),List.getElem_drop];congr 1;omega
   have hx:=hb _ (ix_mem Aa (Ab+i) qqo qqo);have hv:=ior_val ((Aa.drop Ab.toNat).take i.toNat) (ix (Aa.drop Ab.toNat) i) ((hb.drop _).take _) qqo (by rw[<-hix];exact hx);rw[hlen]at hv;rw[inc i p1 g0 hh qqo,wi (Ab+i) qqo qqo,wi (8*i) qqo qqo,wu (ix Aa (Ab+i)) qqo qqo,hix];simp only[hv];refine⟨by omega,by omega,by omega,⟨by omega,by omega,?_⟩,by(first|omega|(dsimp only;omega))⟩;rw[ke _ i g0 (by rw[qan];omega)]
  ·have hh:=qc hh
   have h4:Ad=false:=by
    cases hc:Ad
    ·rfl
    ·exact absurd (.inl hc) h
   exact⟨by rw[show i=p1 by omega],rfl,rfl,wi _ qqo qqo,h4⟩
 refine⟨fun h=>by have:=jf (.inl h);rw[h]at this;exact h▸this,fun h=>⟨⟨⟨h0,h1⟩,hl⟩,?_⟩⟩;by_cases hq:(Aa.length:Int)-Ab<p1
 ·rw[qas hq];exact jf (.inr hq)
 ·rw[qay hq];exact jt (by rw[h];simpa using hq)
noncomputable def kgd:Ct:= .g (gk 61 [.one (.ptr 0 0),.one (zqi)] yE1 (.one (.one (zqi)))) yJ1 yJ1 [true,false,true,true] fun(p1:Int) (Aa:Li) (Ab:Int) (Ad:Bool)=>(RdOk Aa Ab,((rdI Aa Ab Ad p1).n:Int),Aa,((rdI Aa Ab Ad p1).pos:Int),((rdI Aa Ab Ad p1).fail:Bool),())
theorem k7t:kgd.O:=prv Bs Tryz.func61 (.r 1 (.nd [] (.jn ⟨[],[],[19],[.one (.d (.bool))],[]⟩ [] .no [] .no) [] .no)) (k2p.c c0) (Q:=∀(p1:Int) (Aa:Li) (Ab:Int) (Ad:Bool),(RdOk Aa Ab)->∀r0:Int,((rdI Aa Ab Ad p1).n)=r0->∀Az:Li,Aa=Az->∀A0:Int,((rdI Aa Ab Ad p1).pos)=A0->∀A7:Bool,((rdI Aa Ab Ad p1).fail)=A7-> 
(RdOk Aa Ab/\1<=(4:Int)/\(4:Int)<=8)/\∀(r5:Int) (r6:Bool) (r7:Int) (r8:Bool),(r5=((rdD Aa Ab Ad (4:Int)).n)/\r6=((rdD Aa Ab Ad (4:Int)).ok)/\r7=((rdD Aa Ab Ad (4:Int)).pos)/\r8=((rdD Aa Ab Ad (4:Int)).fail))->∀J1:Bool->Prop,(∀(b1:Bool),
((b1=true->
0=r0/\Aa=Az/\r7=A0/\true=A7)/\
(b1=false->
i64.wrap r5=r0/\Aa=Az/\r7=A0/\r8=A7))->J1 b1)->
((!r6)=true->
J1 true)/\
((!r6)=false->
J1 (decide (p1<(i64.wrap r5)))))<|by
 rintro p1 Aa Ab Ad h _ rfl _ rfl _ rfl _ rfl;have hn:0<=(rdD Aa Ab Ad 4).n/\(rdD Aa Ab Ad 4).n<4294967296:=k9t h (p:=4) (f:=Ad) qqo qqo;refine⟨⟨h,by omega,by omega⟩,?_⟩;rintro _ _ _ _ ⟨rfl,rfl,rfl,rfl⟩;intro J1 k1;unfold rdI at k1;rw[wi (rdD Aa Ab Ad 4).n qqo (by have:=hn.2;omega)];refine⟨fun e=>k1 _ ⟨fun _=> ?_,fun h=>by simp at h⟩,fun e=>k1 _ ⟨fun e2=> ?_,fun e2=> ?_⟩⟩
 ·have e:(rdD Aa Ab Ad 4).ok=false:=by simpa using e
  rw[e];exact⟨rfl,rfl,rfl,rfl⟩
 ·have e:(rdD Aa Ab Ad 4).ok=true:=by simpa using e
  have e2:=qb e2;rw[qf (.inr e2)];exact⟨rfl,rfl,rfl,rfl⟩
 ·have e:(rdD Aa Ab Ad 4).ok=true:=by simpa using e
  have e2:=qc e2;rw[qe (by rw[e];simpa using e2)];exact⟨wi _ qqo (by have:=hn.2;omega),rfl,rfl,rfl⟩
noncomputable def kdf:Ct:= .g (gk 64 [.one (.ptr 0 0),.one (zqi),.one (zqu)] yE1 (.one (.one (zql)))) [yqi,yqu,.sl yqb,yqi,.bool] [.sl yqu,.sl yqb,yqi,.bool] [true,false,true,true] fun(p1 p2:Int) (Aa:Li) (Ab:Int) (Ad:Bool)=>(RdOk Aa Ab/\(0<=p1/\p1<=4096),((rdL Aa Ab Ad p1 p2).l:Li),Aa,((rdL Aa Ab Ad p1 p2).pos:Int),((rdL Aa Ab Ad p1 p2).fail:Bool),())
theorem kfg:kdf.O:=prv Bs Tryz.func64 (.r 1 (.nd [] (.jn ⟨[0],yE1,[23],[.one (.d (.bool))],[]⟩ [] .no [] .no) [] (.r 0 (.nd [] (.r 0 (.lp [] ⟨[1,0],[.vec yqu,.cells [.d (.sl yqb),zqi,.d (.bool)]],[31],[.one (zqi)],[]⟩ .no)) [] (.r 0 (.rt [.frz 1 [6]])))))) (k7t.c (k69.c (k2p.c c0))) (Q:=∀(p1 p2:Int) (Aa:Li) (Ab:Int) (Ad:Bool),(RdOk Aa Ab/\(0<=p1/\p1<=4096))->∀r0:Li,((rdL Aa Ab Ad p1 p2).l)=r0->∀Az:Li,Aa=Az->∀A0:Int,((rdL Aa Ab Ad p1 p2).pos)=A0->∀A7:Bool,((rdL Aa Ab Ad p1 p2).fail)=A7-> 
(RdOk Aa Ab)/\∀(r4 r5:Int) (r6:Bool),(r4=((rdI Aa Ab Ad p1).n)/\r5=((rdI Aa Ab Ad p1).pos)/\r6=((rdI Aa Ab Ad p1).fail))->∀J1:Bool->(Li)->Int->Bool->Prop,(∀(b1:Bool) (f1:Li) (i1:Int) (k1:Bool),
((b1=true->
([]:Li)=r0/\f1=Az/\i1=A0/\true=A7)/\
(b1=false->
0<=r4/\r4<=r4/\(r4.toNat*8<=140737488355328)/\(r4.toNat<=maxLen)/\∃(I1:Int->(Li)->Int->Bool->(Li)->Prop) (M1:Int->(Li)->Int->Bool->(Li)->Nat),I1 0 f1 i1 k1 (List.replicate r4.toNat (0:Int))/\∀l1 m1 n1 o1 q1,(I1 l1 m1 n1 o1 q1->
(decide (l1<(r4.toNat:Int))=true->
(RdOk m1 n1/\1<=(8:Int)/\(8:Int)<=8)/\∀(r40:Int) (r41:Bool) (r42:Int) (r43:Bool),(r40=((rdD m1 n1 o1 (8:Int)).n)/\r41=((rdD m1 n1 o1 (8:Int)).ok)/\r42=((rdD m1 n1 o1 (8:Int)).pos)/\r43=((rdD m1 n1 o1 (8:Int)).fail))->(0<=l1/\l1<(r4.toNat:Int))/\(0<=l1/\l1<(q1.length:Int))/\(0<=l1/\l1<(r4.toNat:Int))/\(0<=l1/\l1<((q1.set l1.toNat r40).length:Int))/\let v44:Bool:=decide (p2<=(ix (q1.set l1.toNat r40) l1))
(v44=true->
([]:Li)=r0/\m1=Az/\r42=A0/\true=A7)/\
(v44=false->
I1 (i64.wrap (l1+1)) m1 r42 r43 (q1.set l1.toNat r40)/\M1 (i64.wrap (l1+1)) m1 r42 r43 (q1.set l1.toNat r40)<M1 l1 m1 n1 o1 q1))/\
(decide (l1<(r4.toNat:Int))=false->
(r4.toNat=q1.length)/\q1=r0/\m1=Az/\n1=A0/\o1=A7))))->J1 b1 f1 i1 k1)->
(r6=true->
J1 true Aa r5 r6)/\
(r6=false->
((0<=r5/\r5<=Aa.length)/\Aa.length<=137438953472)/\let v7:Int:=i64.wrap (Int.tdiv ((Aa.length:Int)-r5) 8)
J1 (decide (v7<r4)) Aa r5 r6))<|by
 rintro p1 p2 Aa Ab Ad h _ rfl _ rfl _ rfl _ rfl;obtain⟨h,hp0,hp1⟩:=h;have hI:=rdI_ok h (f:=Ad) (m:=p1);have hIn:=rdI_n h (f:=Ad) (m:=p1) hp0;have hb:=h.by_;have hl:=h.len;generalize hX:rdI Aa Ab Ad p1=X at *
 refine⟨h,?_⟩;rintro _ _ _ ⟨rfl,rfl,rfl⟩;intro J1 k1;have jf:(X.fail=true∨((Aa.length:Int)-X.pos)/8<X.n)->J1 true Aa X.pos X.fail:=by intro hf;refine k1 _ _ _ _ ⟨fun _=> ?_,fun h=>by simp at h⟩;unfold rdL;rw[hX,qf hf];exact⟨rfl,rfl,rfl,rfl⟩
 have jt:¬(X.fail=true∨((Aa.length:Int)-X.pos)/8<X.n)->J1 false Aa X.pos X.fail:=by
  intro hf
  have hff:X.fail=false:=by
   cases hc:X.fail
   ·rfl
   ·exact absurd (.inl hc) hf
  have hle:X.n*8<=(Aa.length:Int)-X.pos:=by have:¬((Aa.length:Int)-X.pos)/8<X.n:=fun h=>hf (.inr h);omega
  refine k1 _ _ _ _ ⟨fun h=>by simp at h,fun _=>⟨hIn.1,by omega,by have:=hIn.2;omega,by have:=hIn.2;unfold maxLen;omega,?_⟩⟩;have hL:rdL Aa Ab Ad p1 p2=rdLs Aa p2 X.n.toNat X.pos []:=by unfold rdL;rw[hX,qe hf]
  rw[hff];have hnn:((X.n.toNat:Int))=X.n:=by have:=hIn.1;omega
  rw[hnn,hL];refine⟨(fun i c pos f g=>Aa=c/\0<=i/\i<=X.n/\f=false/\0<=pos/\pos+(X.n-i)*8<=Aa.length/\(g.length:Int)=X.n/\rdLs Aa p2 (X.n-i).toNat pos (g.take i.toNat)=rdLs Aa p2 X.n.toNat X.pos []),(fun i _ _ _ _=>(X.n-i).toNat),⟨rfl,by omega,hIn.1,rfl,hI.pos0,by omega,by simp;have:=hIn.1;omega,by simp⟩,?_⟩;rintro i _ pos f g ⟨rfl,g0,g1,rfl,g2,g3,g4,g5⟩;have hok:RdOk Aa pos:=⟨hb,hl,g2,by(first|omega|(dsimp only;omega))⟩;refine⟨fun hh=> ?_,fun hh=> ?_⟩
  ·have hh:=qb hh;have hD:rdD Aa pos false 8=⟨val ((Aa.drop pos.toNat).take 8),true,pos+8,false⟩:=by unfold rdD;rw[qe qqm];rfl
   have hset:ix (g.set i.toNat (val ((Aa.drop pos.toNat).take 8))) i=val ((Aa.drop pos.toNat).take 8):=by rw[ix_nat _ i g0 (by rw[qdy];omega)];simp
   have hstep:rdLs Aa p2 (X.n-i).toNat pos (g.take i.toNat)=if p2<=val ((Aa.drop pos.toNat).take 8)then⟨[],pos+8,true⟩else rdLs Aa p2 (X.n-(i+1)).toNat (pos+8) (g.take i.toNat++[val ((Aa.drop pos.toNat).take 8)]):=by rw[show(X.n-i).toNat=(X.n-(i+1)).toNat+1 by omega];rfl
   refine⟨⟨hok,by omega,by omega⟩,fun n1 n2 n3 n4 e=> ?_⟩;rw[hD]at e;obtain⟨rfl,rfl,rfl,rfl⟩:=e;refine⟨⟨by omega,by omega⟩,⟨by omega,by omega⟩,⟨by omega,by omega⟩,⟨by omega,by rw[qdy];omega⟩,fun e=> ?_,fun e=> ?_⟩
   ·have e:=qb e;rw[hset]at e;rw[<-g5,hstep,qf e];exact⟨rfl,rfl,rfl,rfl⟩
   ·have e:=qc e;rw[hset]at e;rw[inc i X.n g0 hh (by have:=hIn.2;omega)];refine⟨⟨rfl,by omega,by omega,rfl,by show 0<=pos+8;omega,by show pos+8+(X.n-(i+1))*8<=_;omega,by rw[qdy];exact g4,?_⟩,by(dsimp only;omega)⟩;rw[<-g5,hstep,qe e];congr 1;rw[ke _ i g0 (by rw[qdy];omega),hset];congr 1;rw[List.take_set_of_le qqo]
  ·have hh:=qc hh;have hi:i=X.n:=by omega
   subst hi;rw[Int.sub_self,qv qqo]at g5;rw[<-g5];exact⟨by omega,rfl,rfl,rfl,rfl⟩
 refine⟨fun e=>by have:=jf (.inl e);rw[e]at this;exact e▸this,fun e=>⟨⟨⟨hI.pos0,hI.pos1⟩,hl⟩,?_⟩⟩;have:=hI.pos0;have:=hI.pos1
 try simp only[]
 rw[tdiv_nn _ _ qqo,wi _ qqo qqo];by_cases hq:((Aa.length:Int)-X.pos)/8<X.n
 ·rw[qas hq];exact jf (.inr hq)
 ·rw[qay hq];exact jt (by rw[e];simpa using hq)
noncomputable def kf1:Ct:= .g (gk 63 [.one (.ptr 0 0),.one (zqu)] yE1 (.one (.one (zqu)))) [yqu,.sl yqb,yqi,.bool] [yqu,.sl yqb,yqi,.bool] [true,false,true,true] fun(p1:Int) (Aa:Li) (Ab:Int) (Ad:Bool)=>(RdOk Aa Ab,((rdU Aa Ab Ad p1).n:Int),Aa,((rdU Aa Ab Ad p1).pos:Int),((rdU Aa Ab Ad p1).fail:Bool),())
theorem k64:kf1.O:=prv Bs Tryz.func63 (.r 1 (.nd [] (.jn ⟨[],[],[18],[.one (.d (.bool))],[]⟩ [] .no [] .no) [] .no)) (k2p.c c0) (Q:=∀(p1:Int) (Aa:Li) (Ab:Int) (Ad:Bool),(RdOk Aa Ab)->∀r0:Int,((rdU Aa Ab Ad p1).n)=r0->∀Az:Li,Aa=Az->∀A0:Int,((rdU Aa Ab Ad p1).pos)=A0->∀A7:Bool,((rdU Aa Ab Ad p1).fail)=A7-> 
(RdOk Aa Ab/\1<=(8:Int)/\(8:Int)<=8)/\∀(r5:Int) (r6:Bool) (r7:Int) (r8:Bool),(r5=((rdD Aa Ab Ad (8:Int)).n)/\r6=((rdD Aa Ab Ad (8:Int)).ok)/\r7=((rdD Aa Ab Ad (8:Int)).pos)/\r8=((rdD Aa Ab Ad (8:Int)).fail))->∀J1:Bool->Prop,(∀(b1:Bool),
((b1=true->
0=r0/\Aa=Az/\r7=A0/\true=A7)/\
(b1=false->
r5=r0/\Aa=Az/\r7=A0/\r8=A7))->J1 b1)->
((!r6)=true->
J1 true)/\
((!r6)=false->
J1 (decide (p1<r5))))<|by
 rintro p1 Aa Ab Ad h _ rfl _ rfl _ rfl _ rfl;refine⟨⟨h,by omega,by omega⟩,?_⟩;rintro _ _ _ _ ⟨rfl,rfl,rfl,rfl⟩;intro J1 k1;unfold rdU at k1;refine⟨fun e=>k1 _ ⟨fun _=> ?_,fun h=>by simp at h⟩,fun e=>k1 _ ⟨fun e2=> ?_,fun e2=> ?_⟩⟩
 ·have e:(rdD Aa Ab Ad 8).ok=false:=by simpa using e
  rw[e];exact⟨rfl,rfl,rfl,rfl⟩
 ·have e:(rdD Aa Ab Ad 8).ok=true:=by simpa using e
  have e2:=qb e2;rw[qf (.inr e2)];exact⟨rfl,rfl,rfl,rfl⟩
 ·have e:(rdD Aa Ab Ad 8).ok=true:=by simpa using e
  have e2:=qc e2;rw[qe (by rw[e];simpa using e2)];exact⟨rfl,rfl,rfl,rfl⟩
noncomputable def k63:Ct:= .g (gk 62 [.one (.ptr 0 0)] yE1 (.one (.agg [zqu,zqu,zqu,zqu]))) yL1 [.st 13,.sl yqb,yqi,.bool] [true,false,true,true] fun(Aa:Li) (Ab:Int) (Ad:Bool)=>(RdOk Aa Ab,((rdNt Aa Ab Ad).n:wJ),Aa,((rdNt Aa Ab Ad).pos:Int),((rdNt Aa Ab Ad).f:Bool),())
theorem k6q:k63.O:=prv Bs Tryz.func62 .no (k64.c c0) (Q:=∀(Aa:Li) (Ab:Int) (Ad:Bool),(RdOk Aa Ab)->∀r0:wJ,((rdNt Aa Ab Ad).n)=r0->∀Az:Li,Aa=Az->∀A0:Int,((rdNt Aa Ab Ad).pos)=A0->∀A7:Bool,((rdNt Aa Ab Ad).f)=A7-> 
(RdOk Aa Ab)/\∀(r4 r5:Int) (r6:Bool),(r4=((rdU Aa Ab Ad (4294967295:Int)).n)/\r5=((rdU Aa Ab Ad (4294967295:Int)).pos)/\r6=((rdU Aa Ab Ad (4294967295:Int)).fail))->(RdOk Aa r5)/\∀(r10 r11:Int) (r12:Bool),(r10=((rdU Aa r5 r6 (18446744069414584320:Int)).n)/\r11=((rdU Aa r5 r6 (18446744069414584320:Int)).pos)/\r12=((rdU Aa r5 r6 (18446744069414584320:Int)).fail))->(RdOk Aa r11)/\∀(r16 r17:Int) (r18:Bool),(r16=((rdU Aa r11 r12 (18446744069414584320:Int)).n)/\r17=((rdU Aa r11 r12 (18446744069414584320:Int)).pos)/\r18=((rdU Aa r11 r12 (18446744069414584320:Int)).fail))->(RdOk Aa r17)/\∀(r22 r23:Int) (r24:Bool),(r22=((rdU Aa r17 r18 (18446744069414584320:Int)).n)/\r23=((rdU Aa r17 r18 (18446744069414584320:Int)).pos)/\r24=((rdU Aa r17 r18 (18446744069414584320:Int)).fail))->r4=r0.Value/\r10=r0.wAg/\r16=r0.Rho/\r22=r0.wBL/\Aa=Az/\r23=A0/\r24=A7)<|by rintro Aa Ab Ad h _ rfl _ rfl _ rfl _ rfl;refine⟨h,?_⟩;rintro _ _ _ ⟨rfl,rfl,rfl⟩;refine⟨rdU_ok h,?_⟩;rintro _ _ _ ⟨rfl,rfl,rfl⟩;refine⟨rdU_ok (rdU_ok h),?_⟩;rintro _ _ _ ⟨rfl,rfl,rfl⟩;refine⟨rdU_ok (rdU_ok (rdU_ok h)),?_⟩;rintro _ _ _ ⟨rfl,rfl,rfl⟩;exact⟨rfl,rfl,rfl,rfl,rfl,rfl,rfl⟩
noncomputable def kja:Ct:= .gp 95 [.sl yqb,yqi] [.sl yqb] [] fun(p0:Li) (p1:Int)=>(0<=p1/\p0.length+p1<=140737488355328,p0,())
theorem kl3:kja.O:=qrv Bs Tryz.func95 (.r 3 (.rt [.frz 0 [4]])) c0 (Q:=∀(p0:Li) (p1:Int),(0<=p1/\p0.length+p1<=140737488355328)->∀r0:Li,p0=r0-> 
let v1:Int:=i64.wrap ((p0.length:Int)+p1)
0<=(p0.length:Int)/\(p0.length:Int)<=v1/\(v1.toNat*1<=140737488355328)/\(v1.toNat<=maxLen)/\(p0.length:Int).toNat=(List.replicate ((p0.length:Int).toNat) (0:Int)).length/\let v2:Int:=((min p0.length (List.replicate ((p0.length:Int).toNat) (0:Int)).length:Nat):Int)
((p0.length:Int).toNat=(rowOver (List.replicate ((p0.length:Int).toNat) (0:Int)) p0 (List.replicate ((p0.length:Int).toNat) (0:Int)).length).length)/\rowOver (List.replicate ((p0.length:Int).toNat) (0:Int)) p0 (List.replicate ((p0.length:Int).toNat) (0:Int)).length=r0)<|by rintro p0 p1 h _ rfl;obtain⟨h1,h2⟩:=h;refine ?_;rw[wi _ qqo qqo];have e:rowOver (List.replicate ((p0.length:Int).toNat) (0:Int)) p0 (List.replicate ((p0.length:Int).toNat) (0:Int)).length=p0:=kb3 _ _ qqs;simp only[e];exact⟨by omega,by omega,by omega,by unfold maxLen;omega,by simp,by omega,by trivial⟩
noncomputable def k8r:Ct:= .g ⟨60,[.one (.d (.sl yqb))],[],(.one (.one (.ptr 0 0))),yE1,false⟩ [.sl yqb] yL1 [] fun(p0:Li)=>(p0.length<=137438953472,p0,(0:Int),false,())
theorem ka6:k8r.O:=prv Bs Tryz.func60 .no (kl3.c c0) (Q:=∀(p0:Li),(p0.length<=137438953472)->∀Az:Li,p0=Az->∀A0:Int,(0:Int)=A0->∀A7:Bool,(false:Bool)=A7-> 
(0<=(0:Int)/\p0.length+(0:Int)<=140737488355328)/\p0=Az/\0=A0/\false=A7)<|by rintro p0 h _ rfl _ rfl _ rfl;exact⟨⟨by omega,by omega⟩,rfl,rfl,rfl⟩
noncomputable def k83:Ct:= .gp 36 [.sl yqb] [.st 16,yqi] [true,true] fun(p0:Li)=>(By p0/\p0.length<=137438953472,((decW p0).1:wZ),((decW p0).2:Int),())
abbrev Fz2 (r:Type):=Int->Int->(Li)->Int->Bool->(List wN)->(List wJ)->r
theorem k95:k83.O:=qrv Bs Tryz.func36 (.r 2 (.nd [] (.r 0 (.lp [.tokc 2 0 (.st 11),.tokc 2 1 (.st 13)] ⟨[2,1,3,4],yU,[10],[.one (zqi)],[]⟩ .no)) [] (.nd [] (.r 0 (.lp [] ⟨[2,1,3,4],yU,[34],[.one (zqi)],[]⟩ .no)) [] .no))) (ka6.c (k7t.c (k6q.c (k64.c (kfg.c (kgj.c c0)))))) (Q:=∀(p0:Li),(By p0/\p0.length<=137438953472)->∀r0:wZ,((decW p0).1)=r0->∀r1:Int,((decW p0).2)=r1-> 
(p0.length<=137438953472)/\(RdOk p0 (0:Int))/\∀(r49 r50:Int) (r51:Bool),(r49=((rdI p0 (0:Int) false (4:Int)).n)/\r50=((rdI p0 (0:Int) false (4:Int)).pos)/\r51=((rdI p0 (0:Int) false (4:Int)).fail))->(([]:List wJ)=([]:List wJ))/\(([]:List wN)=([]:List wN))/\∃(I1:Fz2 Prop) (M1:Fz2 Nat),I1 0 0 p0 r50 r51 ([]:List wN) ([]:List wJ)/\∀b1 f1 i1 k1 l1 m1 n1,(I1 b1 f1 i1 k1 l1 m1 n1->
(decide (b1<r49)=true->
(RdOk i1 k1)/\∀(r70:wJ) (r71:Int) (r72:Bool),(r70=((rdNt i1 k1 l1).n)/\r71=((rdNt i1 k1 l1).pos)/\r72=((rdNt i1 k1 l1).f))->(RdOk i1 r71)/\∀(r73 r74:Int) (r75:Bool),(r73=((rdU i1 r71 r72 (18446744069414584320:Int)).n)/\r74=((rdU i1 r71 r72 (18446744069414584320:Int)).pos)/\r75=((rdU i1 r71 r72 (18446744069414584320:Int)).fail))->(RdOk i1 r74)/\∀(r76 r77:Int) (r78:Bool),(r76=((rdI i1 r74 r75 (3:Int)).n)/\r77=((rdI i1 r74 r75 (3:Int)).pos)/\r78=((rdI i1 r74 r75 (3:Int)).fail))->(RdOk i1 r77)/\∀(r79 r80:Int) (r81:Bool),(r79=((rdI i1 r77 r78 (4095:Int)).n)/\r80=((rdI i1 r77 r78 (4095:Int)).pos)/\r81=((rdI i1 r77 r78 (4095:Int)).fail))->(RdOk i1 r80/\(0<=(12:Int)/\(12:Int)<=4096))/\∀(r82:Li) (r83:Int) (r84:Bool),(r82=((rdL i1 r80 r81 (12:Int) (18446744069414584321:Int)).l)/\r83=((rdL i1 r80 r81 (12:Int) (18446744069414584321:Int)).pos)/\r84=((rdL i1 r80 r81 (12:Int) (18446744069414584321:Int)).fail))->(RdOk i1 r83)/\∀(r85 r86:Int) (r87:Bool),(r85=((rdI i1 r83 r84 (1:Int)).n)/\r86=((rdI i1 r83 r84 (1:Int)).pos)/\r87=((rdI i1 r83 r84 (1:Int)).fail))->let v88:List wN:=[wN.mk r70.Value r70.wAg r70.Rho r70.wBL r73 r76 r79 r82 (r85==1)]
lz m1/\(m1.length+v88.length)*88<=140737488355328/\m1.length+v88.length<=maxLen/\(n1=n1)/\(m1++v88=m1++v88)/\I1 (i64.wrap (b1+1)) f1 i1 r86 r87 (m1++v88) n1/\M1 (i64.wrap (b1+1)) f1 i1 r86 r87 (m1++v88) n1<M1 b1 f1 i1 k1 l1 m1 n1)/\
(decide (b1<r49)=false->
(RdOk i1 k1)/\∀(r106 r107:Int) (r108:Bool),(r106=((rdI i1 k1 l1 (4:Int)).n)/\r107=((rdI i1 k1 l1 (4:Int)).pos)/\r108=((rdI i1 k1 l1 (4:Int)).fail))->(n1=n1)/\(m1=m1)/\∃(I2:Fz2 Prop) (M2:Fz2 Nat),I2 0 f1 i1 r107 r108 m1 n1/\∀o1 q1 s1 t1 u1 x1 y1,(I2 o1 q1 s1 t1 u1 x1 y1->
(decide (o1<r106)=true->
(RdOk s1 t1)/\∀(r112:wJ) (r113:Int) (r114:Bool),(r112=((rdNt s1 t1 u1).n)/\r113=((rdNt s1 t1 u1).pos)/\r114=((rdNt s1 t1 u1).f))->lz y1/\(y1.length+[r112].length)*32<=140737488355328/\y1.length+[r112].length<=maxLen/\(y1++[r112]=y1++[r112])/\(x1=x1)/\I2 (i64.wrap (o1+1)) q1 s1 r113 r114 x1 (y1++[r112])/\M2 (i64.wrap (o1+1)) q1 s1 r113 r114 x1 (y1++[r112])<M2 o1 q1 s1 t1 u1 x1 y1)/\
(decide (o1<r106)=false->
(RdOk s1 t1)/\∀(r118 r119:Int) (r120:Bool),(r118=((rdU s1 t1 u1 (18446744069414584320:Int)).n)/\r119=((rdU s1 t1 u1 (18446744069414584320:Int)).pos)/\r120=((rdU s1 t1 u1 (18446744069414584320:Int)).fail))->((!(!r120&&r119==(s1.length:Int)))=true->
([]:List wN)=r0.Ins/\([]:List wJ)=r0.wA/\0=r0.wAV/\2=r1)/\
((!(!r120&&r119==(s1.length:Int)))=false->
x1=r0.Ins/\y1=r0.wA/\r118=r0.wAV/\0=r1))))))<|by
 rintro p0 h _ rfl _ rfl;obtain⟨hb,hl⟩:=h;have h0:RdOk p0 0:=⟨hb,hl,by omega,by(first|omega|(dsimp only;omega))⟩;refine⟨hl,h0,?_⟩;rintro _ _ _ ⟨rfl,rfl,rfl⟩;have hC:=rdI_ok (m:=4) (f:=false) h0;have nC:=rdI_n (m:=4) (f:=false) h0 qqo;have zC:=rdI_pz (m:=4) (f:=false) h0 qqo;generalize rdI p0 0 false 4=C at *
 refine⟨rfl,rfl,?_⟩;refine⟨(fun i sec l pos f g o=>(p0=l/\sec=0/\([]:List wJ)=o)/\0<=i/\i<=C.n/\RdOk p0 pos/\(g.length:Int)=i/\Pz (fun l:List wN=>l.flatMap encSp) (Gl (GS limW) i.toNat) (p0.drop C.pos.toNat) C.fail g (p0.drop pos.toNat) f),(fun i _ _ _ _ _ _=>(C.n-i).toNat),⟨⟨rfl,rfl,rfl⟩,by omega,nC.1,hC,rfl,Pz.nil⟩,?_⟩;rintro i _ _ pos f g _ ⟨⟨rfl,rfl,rfl⟩,g0,g1,hp,g2,gz⟩;refine⟨fun hh=> ?_,fun hh=> ?_⟩
 ·have hh:=qb hh;refine⟨hp,?_⟩;rintro _ _ _ ⟨rfl,rfl,rfl⟩;have o1:=rdNt_ok (f:=f) hp;have z1:=rdNt_pz (f:=f) hp;generalize rdNt p0 pos f=A1 at *
  refine⟨o1,?_⟩;rintro _ _ _ ⟨rfl,rfl,rfl⟩;have o2:=rdU_ok (m:=18446744069414584320) (f:=A1.f) o1;have z2:=rdU_pz (m:=18446744069414584320) (f:=A1.f) o1;generalize rdU p0 A1.pos A1.f 18446744069414584320=A2 at *
  refine⟨o2,?_⟩;rintro _ _ _ ⟨rfl,rfl,rfl⟩;have o3:=rdI_ok (m:=3) (f:=A2.fail) o2;have z3:=rdI_pz (m:=3) (f:=A2.fail) o2 qqo;generalize rdI p0 A2.pos A2.fail 3=A3 at *
  refine⟨o3,?_⟩;rintro _ _ _ ⟨rfl,rfl,rfl⟩;have o4:=rdI_ok (m:=4095) (f:=A3.fail) o3;have z4:=rdI_pz (m:=4095) (f:=A3.fail) o3 qqo;generalize rdI p0 A3.pos A3.fail 4095=A4 at *
  refine⟨⟨o4,by omega,by omega⟩,?_⟩;rintro _ _ _ ⟨rfl,rfl,rfl⟩;have o5:=rdL_ok (m:=12) (p:=18446744069414584321) (f:=A4.fail) o4 qqo;have z5:=rdL_pz (m:=12) (p:=18446744069414584321) (f:=A4.fail) o4 qqo;generalize rdL p0 A4.pos A4.fail 12 18446744069414584321=A5 at *
  refine⟨o5,?_⟩;rintro _ _ _ ⟨rfl,rfl,rfl⟩;have o6:=rdI_ok (m:=1) (f:=A5.fail) o5;have z6:=rdI_pz (m:=1) (f:=A5.fail) o5 qqo;generalize rdI p0 A5.pos A5.fail 1=A6 at *
  have zz:=kkt (L:=limW) z1 z2 z3 z4 z5 z6;rw[inc i C.n g0 hh qqo];refine⟨rfl,by simp;omega,by simp;unfold maxLen;omega,rfl,rfl,⟨⟨rfl,rfl,rfl⟩,by omega,by omega,o6,by simp;omega,?_⟩,by(dsimp only;omega)⟩;rw[show(i+1).toNat=i.toNat+1 by omega];exact gz.snoc zz
 ·have hh:=qc hh;have hi:i=C.n:=by omega
  subst hi;have zI:=Pz.list zC gz;refine⟨hp,?_⟩;rintro _ _ _ ⟨rfl,rfl,rfl⟩;have hD:=rdI_ok (m:=4) (f:=f) hp;have nD:=rdI_n (m:=4) (f:=f) hp qqo;have zD:=rdI_pz (m:=4) (f:=f) hp qqo;generalize rdI p0 pos f 4=D at *
  refine⟨rfl,rfl,?_⟩;refine⟨(fun i sec l pos' f' gg g' =>(p0=l/\sec=0/\g=gg)/\0<=i/\i<=D.n/\RdOk p0 pos'/\(g'.length:Int)=i/\Pz (fun l:List wJ=>l.flatMap encN) (Gl (GN limW) i.toNat) (p0.drop D.pos.toNat) D.fail g' (p0.drop pos'.toNat) f'),(fun i _ _ _ _ _ _=>(D.n-i).toNat),⟨⟨rfl,rfl,rfl⟩,by omega,nD.1,hD,rfl,Pz.nil⟩,?_⟩;rintro i _ _ pos' f' _ g' ⟨⟨rfl,rfl,rfl⟩,g0',g1',hp',g2',gz'⟩;refine⟨fun hh=> ?_,fun hh=> ?_⟩
  ·have hh:=qb hh;refine⟨hp',?_⟩;rintro _ _ _ ⟨rfl,rfl,rfl⟩;have o1:=rdNt_ok (f:=f') hp';have z1:=rdNt_pz (f:=f') hp';generalize rdNt p0 pos' f' =A1 at *
   rw[inc i D.n g0' hh qqo];refine⟨rfl,by simp;omega,by simp;unfold maxLen;omega,rfl,rfl,⟨⟨rfl,rfl,rfl⟩,by omega,by omega,o1,by simp;omega,?_⟩,by(dsimp only;omega)⟩;rw[show(i+1).toNat=i.toNat+1 by omega];exact gz'.snoc z1
  ·have hh:=qc hh;have hi:i=D.n:=by omega
   subst hi;have zO:=Pz.list zD gz';refine⟨hp',?_⟩;rintro _ _ _ ⟨rfl,rfl,rfl⟩;have hS:=rdU_ok (m:=18446744069414584320) (f:=f') hp';have zS:=rdU_pz (m:=18446744069414584320) (f:=f') hp';generalize rdU p0 pos' f' 18446744069414584320=X at *
   obtain⟨snd,cpl⟩:=pz_wit (L:=limW) zI zO zS;refine⟨fun e=> ?_,fun e=> ?_⟩
   ·rw[decW_no]
    ·exact⟨rfl,rfl,rfl,rfl⟩
    intro u hu;obtain⟨c1,c2,c3⟩:=cpl u hu;obtain⟨_,_,q3,q4⟩:=hS;have:=List.drop_eq_nil_iff.1 c2;have e4:X.pos=(p0.length:Int):=by omega
    rw[c1,e4]at e;simp at e
   ·have e:X.fail=false/\X.pos=(p0.length:Int):=by simpa using e
    obtain⟨s1,s2⟩:=snd e.1 (qam qqo)
    have hE:EW ⟨g,g',X.n⟩ p0:=by
     refine⟨s2.wq,k1r.2 ⟨?_,?_,?_,fun x hx=>(s2.1.2 x hx).spendV,fun x hx=>(s2.2.1.2 x hx).noteV⟩,s1⟩
     ·have:=s2.1.1.2.2;show g.length<=4;omega
     ·have:=s2.2.1.1.2.2;show g'.length<=4;omega
     ·have:X.n<=18446744069414584320:=s2.2.2.2;show X.n<_;omega
    rw[kmv hE fun u hu=>(cpl u hu).2.2];exact⟨rfl,rfl,rfl,rfl⟩
noncomputable def kaf:Ct:= .gp 18 [yqi,.st 2] [.st 16,.bool] [] fun(p0:Int) (p1:wy)=>(By p1.wh/\p1.wh.length<=137438953472,((decW p1.wh).1:wZ),((decW p1.wh).2==0:Bool),())
theorem k4e:kaf.O:=qrv Bs Tryz.func18 .no (k95.c c0) (Q:=∀(p0:Int) (p1:wy),(By p1.wh/\p1.wh.length<=137438953472)->∀r0:wZ,((decW p1.wh).1)=r0->∀r1:Bool,((decW p1.wh).2==0)=r1-> 
(By p1.wh/\p1.wh.length<=137438953472)/\∀(r4:wZ) (r5:Int),(r4=((decW p1.wh).1)/\r5=((decW p1.wh).2))->r4.Ins=r0.Ins/\r4.wA=r0.wA/\r4.wAV=r0.wAV/\(r5==0)=r1)<|by rintro p0 p1 h _ rfl _ rfl;exact⟨h,fun r4 r5 hr=>by obtain⟨rfl,rfl⟩:=hr;exact⟨rfl,rfl,rfl,rfl⟩⟩
noncomputable def kdd:Ct:= .tp 138 [.st 11] [.st 4] [] fun(p0:wN)=>((ownQ p0:wG),())
theorem kfe:kdd.O:=qtv Bs Tryz.func138 .no c0 (Q:=∀(p0:wN),∀r0:wG,ownQ p0=r0-> 
1=r0.wBF/\[p0.Key,u64.wrap p0.wAP]=r0.wAp/\p0.we=r0.wAo)<|by rintro p0 _ rfl;exact(by repeat' first|apply qaa|exact rfl|exact ql)
noncomputable def kd5:Ct:= .tp 184 [.st 14,yqu] [.st 4] [] fun(p0:wAn) (p1:Int)=>((brQ p0 p1:wG),())
theorem ke0:kd5.O:=qtv Bs Tryz.func184 .no c0 (Q:=∀(p0:wAn) (p1:Int),∀r0:wG,brQ p0 p1=r0-> 
6=r0.wBF/\[p0.a0,p0.a1]=r0.wAp/\p1=r0.wAo)<|by rintro p0 p1 _ rfl;exact(by repeat' first|apply qaa|exact rfl|exact ql)
noncomputable def k6m:Ct:= .tp 186 [.st 13,yqu] [.st 4] [] fun(p0:wJ) (p1:Int)=>((comQ p0 p1:wG),())
theorem k8a:k6m.O:=qtv Bs Tryz.func186 .no c0 (Q:=∀(p0:wJ) (p1:Int),∀r0:wG,comQ p0 p1=r0-> 
2=r0.wBF/\[p0.Value,p0.wAg,p0.Rho,p0.wBL]=r0.wAp/\p1=r0.wAo)<|by rintro p0 p1 _ rfl;exact(by repeat' first|apply qaa|exact rfl|exact ql)
noncomputable def kg7:Ct:= .gp 185 [.st 14] [yqu] [] fun(p0:wAn)=>(U64 p0.a0/\U64 p0.a1,(ndA p0:Int),())
theorem k3y:kg7.O:=by refine⟨cal Tryz.func185 qqk,fun x K hx=> ?_⟩;obtain⟨(a:Int),(b:Int),_⟩:=x;obtain⟨h,hK⟩:=hx;have h:U64 a/\U64 b:=h;have hs:=kx.at ((18446744069414584321:Int),(6:Int),([a,b]:Li),()) ((nd a b:Int),()) ⟨⟨rfl,(by decide:U64 6),us2 h.1 h.2,(by decide:(2:Nat)<=_)⟩,rfl⟩;exact⟨_,hK,koo hs⟩
end Go.Proofs.YtljmmhaiaipckaaGreat
end
