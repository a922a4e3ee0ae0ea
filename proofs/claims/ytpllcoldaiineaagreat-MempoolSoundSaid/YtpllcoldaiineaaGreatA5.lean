/-
  Parts of the proofs that the laws of this seat hold of every input, merged by a program: a machine over pure data that is sound for the model, what each function of the translation does in it, and plain lemmas. No conditions but those in each theorem.
-/
import Derived.Test.YtpllcoldaiineaaGreatA4
set_option linter.all false
set_option maxRecDepth 100000
noncomputable section
namespace Go.Proofs.YtpllcoldaiineaaGreat
open Go Go.Bv Go.Cv Go.Md Go.RowKit
open Go.IntKind (i64 u64)
theorem k3u {a b:wC}:betT a b=true↔betE (eOf a) (eOf b):=by unfold betT;exact decide_eq_true_iff
theorem kjz {a b c:wC} (ha:VR a) (hb:VR b) (hc:VR c) (h1:betT a b=true) (h2:betT b c=true):betT a c=true:=
 k3u.2 (k3i (ge_of ha) (ge_of hb) (ge_of hc) (k3u.1 h1) (k3u.1 h2))
theorem bet_tot {a b:wC} (hi:idS a≠idS b) (h:betT a b=false):betT b a=true:=by
 rcases k76 (a:=eOf a) (b:=eOf b)with q|q|⟨_,q⟩
 ·rw[k3u.2 q]at h;cases h
 ·exact k3u.2 q
 ·exact absurd q hi
theorem k3q (L:List wC) (t:wC):(putL L t).Perm (t::L):=by
 unfold putL
 have h:(L.takeWhile (betT · t)++L.dropWhile (betT · t))=L:=List.takeWhile_append_dropWhile
 exact List.perm_middle.trans (by rw[h])
theorem wL_perm {L M:List wC} (h:L.Perm M):wL L=wL M:=by
 unfold wL
 induction h with
 |nil=>rfl
 |cons x _ ih=>simp only[List.map_cons,List.sum_cons];omega
 |swap x y l=>simp only[List.map_cons,List.sum_cons];omega
 |trans _ _ a b=>exact a.trans b
theorem put_len (L:List wC) (t:wC):(putL L t).length=L.length+1:=(k3q L t).length_eq
theorem dw_head {p:wC->Bool}:∀{L:List wC} {y:wC} {r:List wC},L.dropWhile p=y::r->p y=false
 |[],_,_,h=>by cases h
 |x::L,y,r,h=>by
  rw[List.dropWhile_cons]at h
  split at h
  ·exact dw_head h
  ·rename_i hp
   injection h with h1 h2
   subst h1
   simpa using hp
theorem tw_all {p:wC->Bool}:∀{L:List wC} {y:wC},y∈L.takeWhile p->p y=true
 |[],_,h=>by cases h
 |x::L,y,h=>by
  rw[List.takeWhile_cons]at h
  split at h
  ·rename_i hp
   rcases List.mem_cons.1 h with rfl|h
   ·exact hp
   ·exact tw_all h
  ·cases h
theorem kbn {L:List wC} {t:wC} (hv:VL L) (hs:L.Pairwise (fun a b=>betT a b=true)) (ht:VR t) (hi:idS t∉L.map idS):(putL L t).Pairwise (fun a b=>betT a b=true):=by
 have h:(L.takeWhile (betT · t)++L.dropWhile (betT · t))=L:=List.takeWhile_append_dropWhile
 have hm1:∀x∈L.takeWhile (betT · t),x∈L:=fun x hx=>by rw[<-h];exact List.mem_append_left _ hx
 have hm2:∀x∈L.dropWhile (betT · t),x∈L:=fun x hx=>by rw[<-h];exact List.mem_append_right _ hx
 rw[<-h,List.pairwise_append]at hs
 obtain⟨s1,s2,s3⟩:=hs
 unfold putL
 rw[List.pairwise_append,List.pairwise_cons]
 have hd:∀z∈L.dropWhile (betT · t),betT t z=true:=by
  intro z hz
  cases hq:L.dropWhile (betT · t)with
  |nil=>rw[hq]at hz;cases hz
  |cons y r=>
   have hy:betT y t=false:=dw_head (p:=fun x=>betT x t) hq
   have hyL:=hm2 y (by rw[hq];simp)
   have hty:betT t y=true:=bet_tot (fun e=>hi (e▸List.mem_map_of_mem hyL)) hy
   rw[hq]at hz s2
   rcases List.mem_cons.1 hz with rfl|hz
   ·exact hty
   ·exact kjz ht (hv y hyL) (hv z (hm2 z (by rw[hq];exact List.mem_cons_of_mem _ hz))) hty ((List.pairwise_cons.1 s2).1 z hz)
 refine⟨s1,⟨hd,s2⟩,fun a ha b hb=> ?_⟩
 rcases List.mem_cons.1 hb with rfl|hb
 ·exact tw_all (p:=fun x=>betT x b) ha
 ·exact s3 a ha b hb
theorem k8o {L:List wC} (hv:VL L) (hs:L.Pairwise (fun a b=>betT a b=true)):(eL L).Pairwise (fun x y=>¬y<x):=by
 unfold eL
 rw[List.pairwise_map]
 refine(List.pairwise_iff_getElem.2 fun i j hi hj hij=> ?_)
 have h:=List.pairwise_iff_getElem.1 hs i j hi hj hij
 have v1:=hv _ (List.getElem_mem hi)
 have v2:=hv _ (List.getElem_mem hj)
 intro q
 have q:=(lt_good (ge_of v2) (ge_of v1)).1 q
 exact kga _ (k3i (ge_of v1) (ge_of v2) (ge_of v1) (k3u.1 h) q)
theorem eL_gl {L:List wC} (hv:VL L) (hi:(L.map idS).Nodup):GL (eL L):=by
 refine⟨fun x hx=> ?_,fun x hx y hy h1 h2=> ?_⟩
 ·obtain⟨t,ht,rfl⟩:=List.mem_map.1 hx
  exact ge_of (hv t ht)
 ·obtain⟨t,ht,rfl⟩:=List.mem_map.1 hx
  obtain⟨u,hu,rfl⟩:=List.mem_map.1 hy
  have n1:=mt (lt_good (ge_of (hv t ht)) (ge_of (hv u hu))).2 h1
  have n2:=mt (lt_good (ge_of (hv u hu)) (ge_of (hv t ht))).2 h2
  rcases k76 (a:=eOf t) (b:=eOf u)with q|q|⟨_,q⟩
  ·exact absurd q n1
  ·exact absurd q n2
  ·have q:idS t=idS u:=q
   have:t=u:=by
    obtain⟨i,hi',rfl⟩:=List.getElem_of_mem ht
    obtain⟨j,hj',rfl⟩:=List.getElem_of_mem hu
    have:=(List.getElem_inj (i:=i) (j:=j) (h₀:=by simpa using hi') (h₁:=by simpa using hj') hi).1 (by simpa using q)
    subst this
    rfl
   rw[this]
theorem ins_put {L:List wC} {t:wC} (hv:VL L) (hs:L.Pairwise (fun a b=>betT a b=true)) (hi:(L.map idS).Nodup) (ht:VR t) (hn:idS t∉L.map idS):
  GL (eL L++[eOf t])/\insS (eL L++[eOf t]) 0 (eL L++[eOf t]).length=eL (putL L t):=by
 have hvt:VL (L++[t]):=fun x hx=>by
  rcases List.mem_append.1 hx with hx|hx
  ·exact hv x hx
  ·rw[List.mem_singleton.1 hx];exact ht
 have hit:((L++[t]).map idS).Nodup:=by
  rw[List.map_append,List.nodup_append]
  refine⟨hi,by simp,fun a ha b hb=> ?_⟩
  rw[List.map_singleton,List.mem_singleton]at hb
  rintro rfl
  rw[hb]at ha
  exact hn ha
 have e1:eL L++[eOf t]=eL (L++[t]):=by simp[eL]
 rw[e1]
 have hG:=eL_gl hvt hit
 refine⟨hG,?_⟩
 have hp:(putL L t).Perm (L++[t]):=(k3q L t).trans (List.perm_append_comm (l₁:=[t]) (l₂:=L))
 have f:=k18 (g:=eL (L++[t])) (a:=0) (b:=(eL (L++[t])).length) (by omega) (by omega) (by omega)
 have hl:(insS (eL (L++[t])) 0 (eL (L++[t])).length).length=(eL (L++[t])).length:=kap (by omega) (by omega) (by omega)
 have e:=f.1.2.2
 have s:=k6a (d:=(insS (eL (L++[t])) 0 (eL (L++[t])).length).toArray) (by simp only[List.size_toArray,Int.toNat_natCast];rw[hl];exact Nat.le_refl _) f.2
 have key:∀l:List wA,(l.toArray.extract 0 l.length).toList=l:=by intro l;simp
 have x1:((insS (eL (L++[t])) 0 (eL (L++[t])).length).toArray.extract (0:Int).toNat ((eL (L++[t])).length:Int).toNat).toList=insS (eL (L++[t])) 0 (eL (L++[t])).length:=by
  have:=key (insS (eL (L++[t])) 0 (eL (L++[t])).length)
  rw[hl]at this
  simp only[Int.toNat_natCast,Int.toNat_zero]
  exact this
 have x2:((eL (L++[t])).toArray.extract (0:Int).toNat ((eL (L++[t])).length:Int).toNat).toList=eL (L++[t]):=by
  simp only[Int.toNat_natCast,Int.toNat_zero]
  exact key _
 rw[x1]at s e
 rw[x2]at e
 refine k2z _ _ (e.trans (hp.map eOf).symm) (fun x hx y hy=>hG.a x (e.mem_iff.1 hx) y (e.mem_iff.1 hy)) s (k8o (fun x hx=>hvt x (hp.mem_iff.1 hx)) (kbn hv hs ht hn))
theorem k4c (a b:wC):confT a b=confT b a:=by
 unfold confT
 by_cases h:idS a=idS b
 ·rw[if_pos h,if_pos h.symm]
 ·rw[if_neg h,if_neg (Ne.symm h)]
  have e:(a.wD.any fun m=>decide (m∈b.wD))=b.wD.any fun m=>decide (m∈a.wD):=by
   rw[Bool.eq_iff_iff,List.any_eq_true,List.any_eq_true]
   exact⟨fun⟨m,h1,h2⟩=>⟨m,of_decide_eq_true h2,decide_eq_true h1⟩,fun⟨m,h1,h2⟩=>⟨m,of_decide_eq_true h2,decide_eq_true h1⟩⟩
  rw[e,show decide (a.wH=b.wH)=decide (b.wH=a.wH)from decide_eq_decide.2 ⟨Eq.symm,Eq.symm⟩,show decide (a.wQ=b.wQ)=decide (b.wQ=a.wQ)from decide_eq_decide.2 ⟨Eq.symm,Eq.symm⟩,Bool.and_comm (decide (0<a.wF))]
theorem PL.nil:PL []:=⟨fun _ h=>(by cases h),.nil,.nil,.nil⟩
theorem PL.put {L:List wC} {t:wC} (h:PL L) (ht:VR t) (hn:idS t∉L.map idS) (hc:cfl L t=[]):PL (putL L t):=by
 have hp:=k3q L t
 refine⟨fun x hx=> ?_,kbn h.v h.s ht hn,?_,?_⟩
 ·rcases List.mem_cons.1 (hp.mem_iff.1 hx)with rfl|hx
  ·exact ht
  ·exact h.v x hx
 ·exact(hp.map idS).nodup_iff.2 (List.nodup_cons.2 ⟨hn,h.i⟩)
 ·refine(hp.pairwise_iff (fun {x y} q=>by rw[k4c];exact q)).2 (List.pairwise_cons.2 ⟨fun x hx=> ?_,h.c⟩)
  cases hq:confT t x with
  |false=>rfl
  |true=>
   have:idS x∈cfl L t:=List.mem_map_of_mem (List.mem_filter.2 ⟨hx,hq⟩)
   rw[hc]at this
   cases this
theorem PL.take {L:List wC} (h:PL L) (k:Nat):PL (L.take k):=
 ⟨h.v.take k,h.s.sublist (List.take_sublist ..),h.i.sublist ((List.take_sublist ..).map _),h.c.sublist (List.take_sublist ..)⟩
theorem PL.del {L:List wC} (h:PL L) (k:Nat):PL (L.take k++L.drop (k+1)):=by
 have hs:(L.take k++L.drop (k+1)).Sublist L:=by
  have:=List.Sublist.append (List.Sublist.refl (L.take k)) (show(L.drop (k+1)).Sublist (L.drop k)by rw[<-List.drop_drop];exact List.drop_sublist 1 _)
  rwa [List.take_append_drop]at this
 exact⟨fun x hx=>h.v x (hs.subset hx),h.s.sublist hs,h.i.sublist (hs.map _),h.c.sublist hs⟩
theorem k7h {c i:Int} {L:List wC} (h0:0<=c):∀(k:Nat) (g:List Int),k<=L.length->(evL c i L k g).ok=true->
  (evL c i L k g).k<=k/\wL (L.take (evL c i L k g).k)<=c/\(evL c i L k g).g=g++(((L.take k).drop (evL c i L k g).k).map idS).reverse/\(∀j (hj:j<k),(evL c i L k g).k<=j->∀hl:j<L.length,idS L[j]≠i)/\((evL c i L k g).k<k->c<wL (L.take ((evL c i L k g).k+1)))
 |0,g,_,_=>by unfold evL;exact⟨Nat.le_refl _,by simpa[wL]using h0,by simp,fun j hj=>by omega,fun h=>by cases h⟩
 |k+1,g,hk,ho=>by
  unfold evL at ho ⊢
  by_cases h1:c<wL (L.take (k+1))
  ·rw[if_pos h1]at ho ⊢
   by_cases h2:idS (ix L (k:Int))=i
   ·rw[if_pos h2]at ho;cases ho
   ·rw[if_neg h2]at ho ⊢
    rw[ix_get _ _ hk]at h2
    obtain⟨q1,q2,q3,q4,q5⟩:=k7h h0 k _ (by omega) ho
    generalize evL c i L k (g++[idS (ix L (k:Int))])=E at *
    refine⟨by omega,q2,?_,fun j hj h3 hl=> ?_,fun h3=> ?_⟩
    ·rw[q3,List.take_succ_eq_append_getElem hk,List.drop_append_of_le_length (by rw[List.length_take];omega),List.map_append,List.reverse_append,ix_get _ _ hk,List.append_assoc]
     rfl
    ·by_cases e:j=k
     ·subst e;exact h2
     ·exact q4 j (by omega) h3 hl
    ·by_cases e:E.k=k
     ·rw[e];exact h1
     ·exact q5 (by omega)
  ·rw[if_neg h1]
   exact⟨Nat.le_refl _,(show wL (L.take (k+1))<=c by omega),by simp,fun j hj (h3:k+1<=j)=>by omega,fun(h3:k+1<k+1)=>by omega⟩
structure PW (w:List wA):Prop where
 e:w=eL (tL w)
 p:PL (tL w)
 n:w.length<=1000
theorem PW.at {w:List wA} (h:PW w):∃L,w=eL L/\PL L/\L.length<=1000:=⟨tL w,h.e,h.p,by have:=h.n;simpa[tL]using this⟩
theorem PW.of {L:List wC} (h:PL L) (hn:L.length<=1000):PW (eL L):=⟨by simp,by simpa using h,by simpa using hn⟩
theorem PW.el {w:List wA} (h:PW w):EL w:=⟨h.e,h.p.v,by have:=h.n;omega⟩
theorem addL_ok {c:Int} {L:List wC} {t:wC} (h:PL L) (hr:TR t):PL (addL c L t).l/\(addL c L t).l.length<=L.length+1:=by
 unfold addL
 by_cases h1:validE t≠0
 ·rw[if_pos h1];exact⟨h,Nat.le_succ _⟩
 ·rw[if_neg h1]
  have hv:VR t:=⟨Decidable.not_not.1 h1,hr⟩
  by_cases h2:0<=fndL L (idS t)
  ·rw[if_pos h2];exact⟨h,Nat.le_succ _⟩
  ·rw[if_neg h2]
   by_cases h3:cfl L t≠[]
   ·rw[if_pos h3];exact⟨h,Nat.le_succ _⟩
   ·rw[if_neg h3]
    by_cases h4:c<weightS t
    ·rw[if_pos h4];exact⟨h,Nat.le_succ _⟩
    ·rw[if_neg h4]
     split
     ·have hp:=h.put hv (fun q=>h2 ((fnd_has _ _).2 q)) (Decidable.not_not.1 h3)
      refine⟨hp.take _,?_⟩
      rw[List.length_take,put_len]
      omega
     ·exact⟨h,Nat.le_succ _⟩
theorem remL_ok {L:List wC} {i:Int} (h:PL L):PL (remL L i).l/\(remL L i).l.length<=L.length:=by
 unfold remL
 split
 ·exact⟨h,Nat.le_refl _⟩
 ·refine⟨h.del _,?_⟩
  rw[List.length_append,List.length_take,List.length_drop]
  omega
abbrev opT (o:wo):wC:=wC.mk o.wP o.wT o.wd o.wM o.wJ o.wh o.wN o.wV o.wO o.wU
def fewB (l:List wo) (m:List wC):Bool:=l.all (fun o=>smallB (opT o) 400)&&m.all (fun t=>smallB t 400)&&decide (l.length<=16)&&decide (m.length<=12)
def capS (c:Int):Int:=if 0<c then c else 0
theorem capS_nn (c:Int):0<=capS c:=by unfold capS;split<;>omega
def stepL (c:Int) (L:List wC) (o:wo):List wC:=if o.wz=true then(remL L (idS (opT o))).l else(addL c L (opT o)).l
def runL (c:Int) (l:List wo):List wC:=l.foldl (stepL c) []
theorem k5r {c:Int} {l:List wo} {k:Nat} (h:k<l.length):runL c (l.take (k+1))=stepL c (runL c (l.take k)) l[k]:=by
 unfold runL
 rw[List.take_succ_eq_append_getElem h,List.foldl_append]
 rfl
structure OA (l:List wo) (m:List wC):Prop where
 a:l.length<=9223372036854775807
 r:∀o∈l,TR (opT o)/\(opT o).wB.length<=9223372036854775807
 b:m.length<=9223372036854775807
 s:∀t∈m,TR t/\t.wB.length<=9223372036854775807
structure FA (l:List wo) (m:List wC):Prop where
 a:l.length<=16
 r:∀o∈l,TR (opT o)/\TL (opT o)
 b:m.length<=12
 s:∀t∈m,TR t/\TL t
theorem few_fa {l:List wo} {m:List wC} (h:OA l m) (hf:fewB l m=true):FA l m:=by
 unfold fewB at hf
 simp only[Bool.and_eq_true,List.all_eq_true,decide_eq_true_eq]at hf
 obtain⟨⟨⟨h1,h2⟩,h3⟩,h4⟩:=hf
 exact⟨h3,fun o ho=>⟨(h.r o ho).1,kgi (h1 o ho)⟩,h4,fun t ht=>⟨(h.s t ht).1,kgi (h2 t ht)⟩⟩
theorem step_ok {c:Int} {L:List wC} {o:wo} (h:PL L) (hr:TR (opT o)):PL (stepL c L o)/\(stepL c L o).length<=L.length+1:=by
 unfold stepL
 split
 ·have:=remL_ok (i:=idS (opT o)) h
  exact⟨this.1,by omega⟩
 ·exact addL_ok h hr
theorem run_ok {c:Int} {l:List wo} (h:∀o∈l,TR (opT o)):∀k,k<=l.length->PL (runL c (l.take k))/\(runL c (l.take k)).length<=k
 |0,_=>⟨PL.nil,Nat.le_refl _⟩
 |k+1,hk=>by
  obtain⟨q1,q2⟩:=run_ok h k (by omega)
  rw[k5r hk]
  obtain⟨r1,r2⟩:=step_ok (c:=c) q1 (h _ (List.getElem_mem hk))
  exact⟨r1,by omega⟩
theorem run_all {c:Int} {l:List wo} {m:List wC} (h:FA l m):PL (runL c l)/\(runL c l).length<=16:=by
 have:=run_ok (c:=c) (fun o ho=>(h.r o ho).1) l.length (Nat.le_refl _)
 rw[List.take_length]at this
 exact⟨this.1,by have:=h.a;omega⟩
theorem klc {c:Int} {L:List wC} {t:wC} (h0:0<=c):(addL c L t).g.length<=L.length+1:=by
 unfold addL
 split
 ·exact Nat.zero_le _
 split
 ·exact Nat.zero_le _
 split
 ·exact Nat.zero_le _
 split
 ·exact Nat.zero_le _
 split
 ·rename_i h
  have:=k7h h0 _ [] (Nat.le_refl _) h
  show(evL c (idS t) (putL L t) (putL L t).length []).g.length<=_
  rw[this.2.2.1]
  simp only[List.nil_append,List.length_reverse,List.length_map,List.length_drop,List.length_take,put_len]
  omega
 ·exact Nat.zero_le _
def pay (a f:Int):wC:=wC.mk 0 [] [] 5 0 f a 0 0 []
theorem pay_r (a f:Int) (h:0<=a/\a<=100) (h2:0<=f/\f<=100):TR (pay a f):=
 ⟨by show U64 0;omega,(by intro x hx;cases hx),(by intro x hx;cases hx),by show U64 5;omega,by show U64 0;omega,by show U64 f;omega,by show U64 a;omega,by show U64 0;omega,by show _<=(0:Int)/\(0:Int)<=_;omega,(by intro x hx;cases hx)⟩
theorem ex1:addL 0 [] (pay 1 9)=⟨[],3,[]⟩:=by kernel_rfl
theorem ex2:addL 64 [] (pay 1 3)=⟨[],0,[pay 1 3]⟩:=by kernel_rfl
theorem ex3:addL 64 [pay 1 3] (pay 2 4)=⟨[idS (pay 1 3)],0,[pay 2 4]⟩:=by kernel_rfl
theorem ex4:addL 64 [pay 2 4] (pay 3 2)=⟨[],16,[pay 2 4]⟩:=by kernel_rfl
theorem ex5:wL [pay 2 4]=64:=by kernel_rfl
theorem ex6:betB (pay 2 4) (pay 1 3)=true:=by kernel_rfl
theorem ex7:PL [pay 1 3]/\PL [pay 2 4]:=by
 have h1:=(addL_ok (c:=64) (t:=pay 1 3) PL.nil (pay_r 1 3 (by omega) (by omega))).1
 rw[ex2]at h1
 have h2:=(addL_ok (c:=64) (t:=pay 2 4) h1 (pay_r 2 4 (by omega) (by omega))).1
 rw[ex3]at h2
 exact⟨h1,h2⟩
theorem wL_sub {L M:List wC} (h:L.Sublist M) (hv:VL M):wL L<=wL M:=by
 unfold wL
 induction h with
 |slnil=>exact Int.le_refl _
 |cons x _ ih=>
  have:=ih fun y hy=>hv y (List.mem_cons_of_mem _ hy)
  have hx:=k2c (hv x (List.mem_cons_self ..))
  simp only[List.map_cons,List.sum_cons]
  omega
 |cons_cons x _ ih=>
  have:=ih fun y hy=>hv y (List.mem_cons_of_mem _ hy)
  simp only[List.map_cons,List.sum_cons]
  omega
theorem add_w {c:Int} {L:List wC} {t:wC} (h0:0<=c) (h:wL L<=c):wL (addL c L t).l<=c:=by
 unfold addL
 split
 ·exact h
 split
 ·exact h
 split
 ·exact h
 split
 ·exact h
 split
 ·rename_i hh
  exact(k7h h0 _ [] (Nat.le_refl _) hh).2.1
 ·exact h
theorem del_sub (L:List wC) (k:Nat):(L.take k++L.drop (k+1)).Sublist L:=by
 have:=List.Sublist.append (List.Sublist.refl (L.take k)) (show(L.drop (k+1)).Sublist (L.drop k)by rw[<-List.drop_drop];exact List.drop_sublist 1 _)
 rwa [List.take_append_drop]at this
theorem rem_w {c:Int} {L:List wC} {i:Int} (hv:VL L) (h:wL L<=c):wL (remL L i).l<=c:=by
 unfold remL
 split
 ·exact h
 ·exact Int.le_trans (wL_sub (del_sub L _) hv) h
theorem run_w {c:Int} (h0:0<=c) {l:List wo} (h:∀o∈l,TR (opT o)):∀k,k<=l.length->wL (runL c (l.take k))<=c
 |0,_=>by simpa[runL,wL]using h0
 |k+1,hk=>by
  have q:=run_w h0 h k (by omega)
  have p:=(run_ok (c:=c) h k (by omega)).1
  rw[k5r hk]
  unfold stepL
  split
  ·exact rem_w p.v q
  ·exact add_w h0 q
theorem pl_conf {L:List wC} (h:PL L) {i j:Nat} (hi:i<L.length) (hj:j<L.length) (hne:i≠j):confT L[i] L[j]=false:=by
 rcases Nat.lt_or_gt_of_ne hne with q|q
 ·exact List.pairwise_iff_getElem.1 h.c i j hi hj q
 ·rw[k4c];exact List.pairwise_iff_getElem.1 h.c j i hj hi q
theorem pl_bet {L:List wC} (h:PL L) {i j:Nat} (hi:i<L.length) (hj:j<L.length) (hij:i<j):betB L[i] L[j]=true:=by
 unfold betB
 rw[decide_eq_true (h.v _ (List.getElem_mem hi)).v,decide_eq_true (h.v _ (List.getElem_mem hj)).v,List.pairwise_iff_getElem.1 h.s i j hi hj hij]
 rfl
theorem pl_has {L:List wC} {i:Nat} (hi:i<L.length):0<=fndL L (idS L[i]):=(fnd_has _ _).2 (List.mem_map_of_mem (List.getElem_mem hi))
theorem add_fit {c:Int} {L:List wC} {t:wC} (hP:PL L) (ht:VR t) (hn:idS t∉L.map idS) (hc:∀x∈L,confT t x=false) (hw:wL L+weightS t<=c):addL c L t=⟨[],0,putL L t⟩:=by
 have hwp:wL (putL L t)=wL L+weightS t:=by
  rw[wL_perm (k3q L t)];unfold wL;rw[List.map_cons,List.sum_cons];omega
 have h0:=(wL_b hP.v).1
 have hcf:cfl L t=[]:=by
  unfold cfl
  rw[List.filter_eq_nil_iff.2 fun x hx=>by rw[hc x hx];decide]
  rfl
 have hE:evL c (idS t) (putL L t) (putL L t).length []=⟨true,[],(putL L t).length⟩:=by
  have hl:=put_len L t
  cases hq:(putL L t).length with
  |zero=>omega
  |succ k=>
   rw[evL,if_neg]
   rw[<-hq,List.take_length]
   omega
 unfold addL
 rw[if_neg (by rw[ht.v];decide),if_neg (fun q=>hn ((fnd_has _ _).1 q)),if_neg (by rw[hcf];simp),if_neg (by omega),hE,if_pos rfl,List.take_length]
def allL (ts:List wC):List wC:=ts.foldl putL []
theorem k93 {ts:List wC} {k:Nat} (h:k<ts.length):allL (ts.take (k+1))=putL (allL (ts.take k)) ts[k]:=by
 unfold allL
 rw[List.take_succ_eq_append_getElem h,List.foldl_append]
 rfl
theorem k6o:∀(ts L:List wC),(ts.foldl putL L).Perm (ts++L)
 |[],L=>List.Perm.refl _
 |t::ts,L=>by
  rw[List.foldl_cons]
  refine(k6o ts (putL L t)).trans ?_
  exact((k3q L t).append_left ts).trans List.perm_middle
theorem k38 (ts:List wC):(allL ts).Perm ts:=by
 have:=k6o ts []
 rwa [List.append_nil]at this
structure OK (ts:List wC):Prop where
 v:VL ts
 i:(ts.map idS).Nodup
 c:ts.Pairwise (fun a b=>confT a b=false)
theorem OK.perm {l m:List wC} (h:OK l) (hp:l.Perm m):OK m:=
 ⟨fun x hx=>h.v x (hp.mem_iff.2 hx),(hp.map idS).nodup_iff.1 h.i,(hp.pairwise_iff (fun {x y} q=>by rw[k4c];exact q)).1 h.c⟩
theorem OK.take {l:List wC} (h:OK l) (k:Nat):OK (l.take k):=⟨h.v.take k,h.i.sublist ((List.take_sublist ..).map _),h.c.sublist (List.take_sublist ..)⟩
theorem OK.new {l:List wC} (h:OK l) {k:Nat} (hk:k<l.length):idS l[k]∉(allL (l.take k)).map idS/\∀x∈allL (l.take k),confT l[k] x=false:=by
 have h2:=h.take (k+1)
 rw[List.take_succ_eq_append_getElem hk]at h2
 have hi:=h2.i
 have hc:=h2.c
 rw[List.map_append,List.nodup_append]at hi
 rw[List.pairwise_append]at hc
 have hp:=k38 (l.take k)
 refine⟨fun q=> ?_,fun x hx=> ?_⟩
 ·have q:=(hp.map idS).mem_iff.1 q
  exact hi.2.2 _ q _ (by simp) rfl
 ·rw[k4c]
  exact hc.2.2 x (hp.mem_iff.1 hx) _ (by simp)
theorem allL_pl {l:List wC} (h:OK l):∀k,k<=l.length->PL (allL (l.take k))
 |0,_=>PL.nil
 |k+1,hk=>by
  obtain⟨q1,q2⟩:=h.new hk
  rw[k93 hk]
  refine(allL_pl h k (by omega)).put (h.v _ (List.getElem_mem hk)) q1 ?_
  unfold cfl
  rw[List.filter_eq_nil_iff.2 fun x hx=>by rw[q2 x hx];decide]
  rfl
theorem pl_uniq {L M:List wC} (hL:PL L) (hM:PL M) (hp:L.Perm M):L=M:=by
 have hG:=eL_gl hL.v hL.i
 have:=k2z (eL L) (eL M) (hp.map eOf) hG.a (k8o hL.v hL.s) (k8o hM.v hM.s)
 have:=congrArg tL this
 simpa using this
def rotL (l:List wC) (r:Nat):List wC:=l.drop r++l.take r
theorem kes (l:List wC) (r:Nat):(rotL l r).Perm l:=by
 unfold rotL
 exact List.perm_append_comm.trans (by rw[List.take_append_drop])
theorem rot_len (l:List wC) (r:Nat):(rotL l r).length=l.length:=(kes l r).length_eq
theorem rot_get {l:List wC} {r k:Nat} (hr:r<l.length) (hk:k<l.length):(rotL l r)[k]'(by rw[rot_len];exact hk)=l[(k+r)%l.length]'(Nat.mod_lt _ (by omega)):=by
 unfold rotL
 rw[List.getElem_append]
 by_cases h:k<(l.drop r).length
 ·rw[dif_pos h,List.getElem_drop]
  rw[List.length_drop]at h
  congr 1
  rw[Nat.mod_eq_of_lt (by omega)]
  omega
 ·rw[dif_neg h,List.getElem_take]
  rw[List.length_drop]at h
  congr 1
  rw[List.length_drop,Nat.mod_eq_sub_mod (by omega),Nat.mod_eq_of_lt (by omega)]
  omega
structure DS (c:Int) (L:List wC) (t:wC) (n:Nat):Prop where
 a:n<=L.length
 g:(addL c L t).g=((L.drop n).map idS).reverse
 l:(addL c L t).l.length=n+1
 h:∀i:Int,i∈(addL c L t).l.map idS↔i=idS t∨i∈(L.take n).map idS
 b:∀x∈L.drop n,betT t x=true
 w:n<L.length->c<wL (L.take (n+1))+weightS t
 v:VR t
 ni:idS t∉L.map idS
theorem add_ds {c:Int} {L:List wC} {t:wC} (h0:0<=c) (hP:PL L) (hr:TR t) (he:(addL c L t).e=0):∃n,DS c L t n:=by
 generalize hA:addL c L t=A at *
 have hA' :=hA
 unfold addL at hA
 have hv:validE t=0:=Decidable.by_contra fun q=>by
  rw[if_pos q]at hA;rw[<-hA]at he;exact q he
 have ht:VR t:=⟨hv,hr⟩
 rw[if_neg (by rw[hv];decide)]at hA
 have hn:¬0<=fndL L (idS t):=fun q=>by rw[if_pos q]at hA;rw[<-hA]at he;cases he
 rw[if_neg hn]at hA
 have hcf:¬cfl L t≠[]:=fun q=>by rw[if_pos q]at hA;rw[<-hA]at he;cases he
 rw[if_neg hcf]at hA
 have hwt:¬c<weightS t:=fun q=>by rw[if_pos q]at hA;rw[<-hA]at he;cases he
 rw[if_neg hwt]at hA
 have hni:idS t∉L.map idS:=fun q=>hn ((fnd_has _ _).2 q)
 have hpp:=hP.put ht hni (Decidable.not_not.1 hcf)
 by_cases hE:(evL c (idS t) (putL L t) (putL L t).length []).ok=true
 ·rw[if_pos hE]at hA
  obtain⟨e1,e2,e3,e4,e5⟩:=k7h h0 _ [] (Nat.le_refl _) hE
  generalize evL c (idS t) (putL L t) (putL L t).length []=E at *
  have hsp:L.takeWhile (betT · t)++L.dropWhile (betT · t)=L:=List.takeWhile_append_dropWhile
  have hps:=hpp.s
  have hl:=put_len L t
  unfold putL at *
  generalize L.takeWhile (betT · t)=a at *
  generalize L.dropWhile (betT · t)=b at *
  subst hsp
  have hk:a.length<E.k:=by
   refine Decidable.by_contra fun q=> ?_
   have:=e4 a.length (by rw[hl,List.length_append];omega) (by omega) (by rw[hl,List.length_append];omega)
   exact this (by rw[List.getElem_append_right (Nat.le_refl _)];simp)
  obtain⟨d,hd⟩:∃d,E.k=a.length+(d+1):=⟨E.k-a.length-1,by omega⟩
  have hl' :(a++t::b).length=a.length+(b.length+1):=by simp
  have e1' :a.length+(d+1)<=a.length+(b.length+1):=by rw[<-hl',<-hd];exact e1
  have m1:(a++t::b).take E.k=a++t::b.take d:=by rw[hd,List.take_append,List.take_of_length_le (by omega),show a.length+(d+1)-a.length=d+1 by omega,List.take_succ_cons]
  have m2:(a++t::b).drop E.k=b.drop d:=by rw[hd,List.drop_append,List.drop_eq_nil_of_le (by omega),show a.length+(d+1)-a.length=d+1 by omega,List.drop_succ_cons];rfl
  have n1:(a++b).take (a.length+d)=a++b.take d:=by rw[List.take_append,List.take_of_length_le (by omega),show a.length+d-a.length=d by omega]
  have n2:(a++b).drop (a.length+d)=b.drop d:=by rw[List.drop_append,List.drop_eq_nil_of_le (by omega),show a.length+d-a.length=d by omega];rfl
  subst hA
  refine⟨a.length+d,by rw[List.length_append];omega,?_,?_,fun i=> ?_,fun x hx=> ?_,fun hlt=> ?_,ht,hni⟩
  ·rw[hA',n2]
   show E.g=_
   rw[e3,List.take_length,m2]
   rfl
  ·rw[hA']
   show((a++t::b).take E.k).length=_
   rw[List.length_take,hl']
   omega
  ·rw[hA',n1]
   show i∈((a++t::b).take E.k).map idS↔_
   rw[m1]
   simp only[List.map_append,List.map_cons,List.mem_append,List.mem_cons]
   constructor
   ·rintro (h|h|h)
    ·exact .inr (.inl h)
    ·exact .inl h
    ·exact .inr (.inr h)
   ·rintro (h|h|h)
    ·exact .inr (.inl h)
    ·exact .inl h
    ·exact .inr (.inr h)
  ·rw[n2]at hx
   rw[List.pairwise_append,List.pairwise_cons]at hps
   exact hps.2.1.1 x (List.mem_of_mem_drop hx)
  ·rw[List.length_append]at hlt
   have:=e5 (by rw[hl'];omega)
   rw[hd,List.take_append,List.take_of_length_le (by omega),show a.length+(d+1)+1-a.length=(d+1)+1 by omega,List.take_succ_cons]at this
   rw[List.take_append,List.take_of_length_le (by omega),show a.length+d+1-a.length=d+1 by omega]
   rw[wL_app]at this ⊢
   have e:wL (t::b.take (d+1))=weightS t+wL (b.take (d+1)):=by unfold wL;rw[List.map_cons,List.sum_cons]
   rw[e]at this
   omega
 ·rw[if_neg hE]at hA
  rw[<-hA]at he
  cases he
theorem kl6 {c:Int} {L:List wC} {t:wC} (he:(addL c L t).e≠0):(addL c L t).g=[]/\(addL c L t).l=L:=by
 unfold addL at he ⊢
 split
 ·exact⟨rfl,rfl⟩
 split
 ·exact⟨rfl,rfl⟩
 split
 ·exact⟨rfl,rfl⟩
 split
 ·exact⟨rfl,rfl⟩
 split
 ·rename_i h1 h2 h3 h4 h5
  rw[if_neg h1,if_neg h2,if_neg h3,if_neg h4,if_pos h5]at he
  exact absurd rfl he
 ·exact⟨rfl,rfl⟩
theorem k1s.tr {t:wC} (h:k1s t):TR t/\t.wB.length<=9223372036854775807:=
 ⟨⟨h.wY,h.wD.2,fun x hx=>let y:=h.wB.2 x hx;⟨y.wn,y.wW,y.wS,y.wE.2⟩,h.wF,h.wG,h.Fee,h.wH,h.wQ,by have:=h.wK;omega,h.wR.2⟩,h.wB.1⟩
theorem k21.tr {o:wo} (h:k21 o):TR (opT o)/\(opT o).wB.length<=9223372036854775807:=
 ⟨⟨h.wP,h.wT.2,fun x hx=>let y:=h.wd.2 x hx;⟨y.wn,y.wW,y.wS,y.wE.2⟩,h.wM,h.wJ,h.wh,h.wN,h.wV,by have:=h.wO;show _<=o.wO/\o.wO<=_;omega,h.wU.2⟩,h.wd.1⟩
theorem l46_arg {p1:List wo} {m:List wC} (h1:p1.length<=9223372036854775807/\∀y∈p1,k21 y) (h2:m.length<=9223372036854775807/\∀y∈m,k1s y):OA p1 m:=
 ⟨h1.1,fun o ho=>(h1.2 o ho).tr,h2.1,fun t ht=>(h2.2 t ht).tr⟩
theorem kfj:([]:List wC).length<=9223372036854775807/\∀y∈([]:List wC),k1s y:=⟨by decide,fun _ h=>by cases h⟩
theorem l46_one {t:wC} (h:k1s t):[t].length<=9223372036854775807/\∀y∈[t],k1s y:=⟨by simp,fun y hy=>by rw[List.mem_singleton.1 hy];exact h⟩
theorem k49 {p0:Int} {p1:List wo} (h0: -9223372036854775808<=p0/\p0<9223372036854775808) (h1:p1.length<=9223372036854775807/\∀y∈p1,k21 y):OA p1 []:=l46_arg h1 kfj
theorem k73 {p0:Int} {p1:List wo} (h0: -9223372036854775808<=p0/\p0<9223372036854775808) (h1:p1.length<=9223372036854775807/\∀y∈p1,k21 y):OA p1 []:=l46_arg h1 kfj
theorem k52 {p0:Int} {p1:List wo} {p2:wC} (h0: -9223372036854775808<=p0/\p0<9223372036854775808) (h1:p1.length<=9223372036854775807/\∀y∈p1,k21 y) (h2:k1s p2):OA p1 [p2]:=l46_arg h1 (l46_one h2)
theorem k5b {p0:Int} {p1:List wo} {p2:wC} (h0: -9223372036854775808<=p0/\p0<9223372036854775808) (h1:p1.length<=9223372036854775807/\∀y∈p1,k21 y) (h2:k1s p2):OA p1 [p2]:=l46_arg h1 (l46_one h2)
theorem k7o {p0:List wC} {p1:Int} (h0:p0.length<=9223372036854775807/\∀y∈p0,k1s y) (h1:0<=p1/\p1<256):OA [] p0/\0<=p1/\p1<256:=
 ⟨⟨by decide,fun _ h=>(by cases h),h0.1,fun t ht=>(h0.2 t ht).tr⟩,h1⟩
noncomputable def Pool_find_1_con:Con TB.den:= .t ⟨69,[.agg [zqu,zql,.d (.sl (.st 0)),zqu,zqu,zqu,zqu,zqu,zqi,.d (.sl yqb),zqu,zqi],.one (.ptr 0 0)],[.cells [zqu]],(.one (.one (.d (.bool)))),[.cells [zqu]],false⟩ [.st 2,yqu] [.bool,yqu] [] fun(p0:wA) (Aa:Int)=>(((p0.id==Aa):Bool),Aa,())
theorem Pool_find_1_ok:Pool_find_1_con.Ok Tryz.prog TB:=ptv Bs Tryz.func69 .no c0 (Q:=∀(p0:wA) (Aa:Int),∀r0:Bool,(p0.id==Aa)=r0->∀Ac:Int,Aa=Ac-> 
(p0.id==Aa)=r0/\Aa=Ac) (by kernel_rfl)<|by
 rintro p0 Aa _ rfl _ rfl
 exact⟨rfl,rfl⟩
noncomputable def k4f:Con TB.den:= .g ⟨68,[.one (.row 0),.one (.clo 69 [] [some (1,0)])],[.vec (.st 2),.cells [zqu]],(.one (.one (zqi))),[.vec (.st 2),.cells [zqu]],false⟩ [yqu,.sl (.st 2)] [yqi,yqu,.sl (.st 2)] [] fun(Ab:Int) (w0:List wA)=>(w0.length<=1000000,(idxI (w0.map (·.id)) Ab:Int),Ab,w0,())
theorem k4o:k4f.Ok Tryz.prog TB:=prv Bs Tryz.func68 (.r 0 (.nd [] (.r 0 (.lp [] ⟨[1],[.cells [zqu]],[8],[.one (zqi)],[]⟩ .no)) [] .no)) (Pool_find_1_ok.c c0) (Q:=∀(Ab:Int) (w0:List wA),(w0.length<=1000000)->∀r0:Int,(idxI (w0.map (·.id)) Ab)=r0->∀d1_0:Int,Ab=d1_0->∀e0:List wA,w0=e0-> 
 ∃(I1:Int->Int->Prop) (M1:Int->Int->Nat),I1 0 Ab/\∀(b1 f1:Int),(I1 b1 f1->
(decide (b1<(w0.length:Int))=true->
(0<=b1/\b1<(w0.length:Int))/\(0<=b1/\b1<(w0.length:Int))/\(((ix w0 b1).id==f1)=true->
 b1=r0/\f1=d1_0/\w0=e0)/\
(((ix w0 b1).id==f1)=false->
 I1 (i64.wrap (b1+1)) f1/\M1 (i64.wrap (b1+1)) f1<M1 b1 f1))/\
(decide (b1<(w0.length:Int))=false->
(-1)=r0/\f1=d1_0/\w0=e0))) (by kernel_rfl)<|by
 rintro Ab w0 h _ rfl _ rfl _ rfl
 refine⟨(fun i f=>f=Ab/\∃k:Nat,i=(k:Int)/\k<=w0.length/\Ab∉(w0.map (·.id)).take k),fun i _=>(w0.length-i).toNat,⟨rfl,0,rfl,by omega,by simp⟩,?_⟩
 rintro _ f ⟨hf,k,rfl,h1,h2⟩
 subst f
 have hl:(w0.map (·.id)).length=w0.length:=List.length_map ..
 refine⟨fun e=> ?_,fun e=> ?_⟩
 ·have e:k<w0.length:=by have:=of_decide_eq_true e;omega
  rw[ix_get _ _ e,inc_i64 _ (by omega)]
  refine⟨by omega,by omega,fun e2=> ?_,fun e2=>⟨⟨rfl,k+1,rfl,by omega,?_⟩,by(dsimp only;omega)⟩⟩
  ·have e2:w0[k].id=Ab:=by simpa using e2
   exact⟨(idx_at (by omega) h2 (by simpa using e2)).symm,rfl,rfl⟩
  ·have e2:¬w0[k].id=Ab:=by simpa using e2
   rw[List.take_succ_eq_append_getElem (by omega)]
   simp only[List.mem_append,List.mem_singleton,List.getElem_map]
   exact fun hh=>hh.elim h2 fun q=>e2 q.symm
 ·have e:k=w0.length:=by have:=of_decide_eq_false e;omega
  rw[List.take_of_length_le (by omega)]at h2
  exact⟨(idx_no h2).symm,rfl,rfl⟩
noncomputable def kea:Con TB.den:= .g ⟨48,[.one (.ptr 0 0),.one (zqu)],[.cells [zqi,.row 1],.vec (.st 2)],(.one (.one (zqi))),[.cells [zqi,.row 1],.vec (.st 2)],false⟩ [yqu,yqi,.sl (.st 2)] [yqi,yqi,.sl (.st 2)] [] fun(p1 Aa:Int) (w1:List wA)=>(w1.length<=1000000,(idxI (w1.map (·.id)) p1:Int),Aa,w1,())
theorem k8x:kea.Ok Tryz.prog TB:=prv Bs Tryz.func48 .no (k4o.c c0) (Q:=∀(p1 Aa:Int) (w1:List wA),(w1.length<=1000000)->∀r0:Int,(idxI (w1.map (·.id)) p1)=r0->∀Ac:Int,Aa=Ac->∀e1:List wA,w1=e1-> 
(w1.length=w1.length)/\(w1.length<=1000000)/\(w1.length=w1.length)/\(idxI (w1.map (·.id)) p1)=r0/\Aa=Ac/\w1=e1) (by kernel_rfl)<|by
 rintro p1 Aa w1 h _ rfl _ rfl _ rfl
 exact⟨rfl,h,rfl,rfl,rfl,rfl⟩
noncomputable def kf9:Con TB.den:= .g ⟨28,[.one (.ptr 0 0),.one (zqu)],[.cells [zqi,.row 1],.vec (.st 2)],(.one (.one (.d (.bool)))),[.cells [zqi,.row 1],.vec (.st 2)],false⟩ [yqu,yqi,.sl (.st 2)] [.bool,yqi,.sl (.st 2)] [] fun(p1 Aa:Int) (w1:List wA)=>(w1.length<=1000000,(decide (0<=idxI (w1.map (·.id)) p1):Bool),Aa,w1,())
theorem k42:kf9.Ok Tryz.prog TB:=prv Bs Tryz.func28 .no (k8x.c c0) (Q:=∀(p1 Aa:Int) (w1:List wA),(w1.length<=1000000)->∀r0:Bool,(decide (0<=idxI (w1.map (·.id)) p1))=r0->∀Ac:Int,Aa=Ac->∀e1:List wA,w1=e1-> 
(w1.length=w1.length)/\(w1.length<=1000000)/\(w1.length=w1.length)/\decide (0<=(idxI (w1.map (·.id)) p1))=r0/\Aa=Ac/\w1=e1) (by kernel_rfl)<|by
 rintro p1 Aa w1 h _ rfl _ rfl _ rfl
 exact⟨rfl,h,rfl,rfl,rfl,rfl⟩
noncomputable def kbr:Con TB.den:= .g ⟨20,[.one (.ptr 0 0)],[.cells [zqi,.row 1],.vec (.st 2)],(.one (.one (zqi))),[.cells [zqi,.row 1],.vec (.st 2)],false⟩ [yqi,.sl (.st 2)] [yqi,yqi,.sl (.st 2)] [] fun(Aa:Int) (w1:List wA)=>(EL w1,(wL (tL w1):Int),Aa,w1,())
theorem k1p:kbr.Ok Tryz.prog TB:=prv Bs Tryz.func20 (.r 1 (.nd [] (.r 0 (.lp [] ⟨[],[],[3,11],[.one (zqi),.one (zqi)],[]⟩ .no)) [] .no)) c0 (Q:=∀(Aa:Int) (w1:List wA),(EL w1)->∀r0:Int,(wL (tL w1))=r0->∀Ac:Int,Aa=Ac->∀e1:List wA,w1=e1-> 
 ∃(I1:Int->Int->Prop) (M1:Int->Int->Nat),I1 0 0/\∀(b1 f1:Int),(I1 b1 f1->
(decide (f1<(w1.length:Int))=true->
(0<=f1/\f1<(w1.length:Int))/\(0<=f1/\f1<(w1.length:Int))/\let v1:Int:=i64.wrap (b1+((ix w1 f1).weight))
 I1 v1 (i64.wrap (f1+1))/\M1 v1 (i64.wrap (f1+1))<M1 b1 f1)/\
(decide (f1<(w1.length:Int))=false->
(w1.length=w1.length)/\b1=r0/\Aa=Ac/\w1=e1))) (by kernel_rfl)<|by
 rintro Aa w1 h _ rfl _ rfl _ rfl
 obtain⟨L,rfl,hL,hn⟩:=h.at
 rw[tL_eL]
 refine⟨(fun b i=>∃k:Nat,i=(k:Int)/\k<=L.length/\b=wL (L.take k)),fun _ i=>(L.length-i).toNat,⟨0,rfl,by omega,rfl⟩,?_⟩
 rintro _ _ ⟨k,rfl,g1,rfl⟩
 rw[eL_len]
 refine⟨fun e=> ?_,fun e=> ?_⟩
 ·have e:k<L.length:=by have:=of_decide_eq_true e;omega
  have hb:=wL_tb hL hn (k+1)
  rw[wL_take e]at hb
  rw[eL_ix e,inc_i64 _ (by omega)]
  refine⟨by omega,by omega,⟨k+1,rfl,by omega,?_⟩,by(dsimp only;omega)⟩
  rw[wL_take e]
  have ew:(eOf L[k]).weight=weightS L[k]:=rfl
  rw[ew,wi _ (by omega) (by omega)]
 ·have e:k=L.length:=by have:=of_decide_eq_false e;omega
  rw[List.take_of_length_le (by omega)]
  exact⟨rfl,rfl,rfl,rfl⟩
noncomputable def ka0:Con TB.den:= .gp 97 [.sl yqu,yqu] [yqi] [] fun(p0:List Int) (p1:Int)=>(p0.length<=9223372036854775807,(idxI p0 p1:Int),())
theorem kbs:ka0.Ok Tryz.prog TB:=qrv Bs Tryz.func97 (.r 0 (.nd [] (.r 0 (.lp [] ⟨[],[],[8],[.one (zqi)],[]⟩ .no)) [] .no)) c0 (Q:=∀(p0:List Int) (p1:Int),(p0.length<=9223372036854775807)->∀r0:Int,idxI p0 p1=r0-> 
 ∃(I1:Int->Prop) (M1:Int->Nat),I1 0/\∀(b1:Int),(I1 b1->
(decide (b1<(p0.length:Int))=true->
(0<=b1)/\b1<(p0.length:Int)/\((p1==(ix p0 b1))=true->
 b1=r0)/\
((p1==(ix p0 b1))=false->
 I1 (i64.wrap (b1+1))/\M1 (i64.wrap (b1+1))<M1 b1))/\
(decide (b1<(p0.length:Int))=false->
(-1)=r0))) (by kernel_rfl)<|by
 rintro p0 p1 h _ rfl
 refine(⟨(fun i=>0<=i/\i<=p0.length/\p1∉p0.take i.toNat),(fun i=>(p0.length-i).toNat),⟨by omega,by omega,by simp⟩,?_⟩)
 rintro i ⟨g0,g1,g2⟩
 refine⟨fun h=> ?_,fun h=> ?_⟩
 ·have h:=of_decide_eq_true h
  refine⟨g0,h,fun e=> ?_,fun e=> ?_⟩
  ·have e:p1=ix p0 i:=by simpa using e
   unfold idxI
   rw[if_pos (by rw[e];exact ix_mem p0 i g0 h)]
   have:p0.idxOf p1=i.toNat:=by
    conv=>lhs;rw[<-List.take_append_drop i.toNat p0]
    rw[List.idxOf_append,if_neg g2,drop_ix p0 i g0 h,<-e,List.idxOf_cons_self,List.length_take]
    omega
   rw[this]
   omega
  ·have e:¬p1=ix p0 i:=by simpa using e
   rw[inc i p0.length g0 h (by omega)]
   refine⟨⟨by omega,by omega,?_⟩,by(dsimp only;omega)⟩
   rw[kb p0 i g0 h]
   simp only[List.mem_append,List.mem_singleton]
   exact fun hh=>hh.elim g2 e
 ·have h:=of_decide_eq_false h
  rw[List.take_of_length_le (by omega)]at g2
  unfold idxI
  rw[if_neg g2]
noncomputable def k87:Con TB.den:= .gp 78 [.sl yqu,yqu] [.bool] [] fun(p0:List Int) (p1:Int)=>(p0.length<=9223372036854775807,(decide (p1∈p0):Bool),())
theorem k4a:k87.Ok Tryz.prog TB:=qrv Bs Tryz.func78 .no (kbs.c c0) (Q:=∀(p0:List Int) (p1:Int),(p0.length<=9223372036854775807)->∀r0:Bool,(decide (p1∈p0))=r0-> 
(p0.length<=9223372036854775807)/\decide (0<=(idxI p0 p1))=r0) (by kernel_rfl)<|by
 rintro p0 p1 h _ rfl
 refine⟨h,?_⟩
 unfold idxI
 by_cases hm:p1∈p0
 ·simp[hm]
 ·simp[hm]
noncomputable def k7p:Con TB.den:= .gp 61 [.st 2,.st 2] [.bool] [] fun(p0 p1:wA)=>(p0.we.length<=4294967295/\p1.we.length<=4294967295,((if p0.id=p1.id then false else p0.we.any (fun m=>decide (m∈p1.we))||(decide (0<p0.wl)&&decide (0<p1.wl)&&decide (p0.wm=p1.wm)&&decide (p0.wq=p1.wq))):Bool),())
theorem k82:k7p.Ok Tryz.prog TB:=qrv Bs Tryz.func61 (.r 1 (.nd [] (.r 0 (.lp [] ⟨[],[],[16],[.one (zqi)],[]⟩ .no)) [] .no)) (k4a.c c0) (Q:=∀(p0 p1:wA),(p0.we.length<=4294967295/\p1.we.length<=4294967295)->∀r0:Bool,((if p0.id=p1.id then false else p0.we.any (fun m=>decide (m∈p1.we))||(decide (0<p0.wl)&&decide (0<p1.wl)&&decide (p0.wm=p1.wm)&&decide (p0.wq=p1.wq))):Bool)=r0-> 
((p0.id==p1.id)=true->
 false=r0)/\
((p0.id==p1.id)=false->
 ∃(I1:Int->Prop) (M1:Int->Nat),I1 0/\∀(b1:Int),(I1 b1->
(decide (b1<(p0.we.length:Int))=true->
(0<=b1)/\b1<(p0.we.length:Int)/\(p1.we.length<=9223372036854775807)/\let r1:Bool:=(decide ((ix p0.we b1)∈p1.we))
(r1=true->
 true=r0)/\
(r1=false->
 I1 (i64.wrap (b1+1))/\M1 (i64.wrap (b1+1))<M1 b1))/\
(decide (b1<(p0.we.length:Int))=false->
(decide (0<p0.wl)=true->
(decide (0<p1.wl)=true->
((p0.wm==p1.wm)=true->
(p0.wq==p1.wq)=r0)/\
((p0.wm==p1.wm)=false->
 false=r0))/\
(decide (0<p1.wl)=false->
 false=r0))/\
(decide (0<p0.wl)=false->
 false=r0))))) (by kernel_rfl)<|by
 rintro p0 p1 h _ rfl
 obtain⟨h1,h2⟩:=h
 refine⟨fun e=> ?_,fun e=> ?_⟩
 ·have e:p0.id=p1.id:=by simpa using e
  rw[if_pos e]
 ·have e:¬p0.id=p1.id:=by simpa using e
  rw[if_neg e]
  refine⟨(fun i=>∃k:Nat,i=(k:Int)/\k<=p0.we.length/\(p0.we.take k).any (fun m=>decide (m∈p1.we))=false),fun i=>(p0.we.length-i).toNat,⟨0,rfl,by omega,by simp⟩,?_⟩
  rintro _ ⟨k,rfl,g1,g2⟩
  refine⟨fun c=> ?_,fun c=> ?_⟩
  ·have c:k<p0.we.length:=by have:=of_decide_eq_true c;omega
   rw[ix_get _ _ c,inc_i64 _ (by omega)]
   refine⟨by omega,by omega,by omega,fun q=> ?_,fun q=>⟨⟨k+1,rfl,by omega,?_⟩,by(dsimp only;omega)⟩⟩
   ·rw[List.any_eq_true.2 ⟨_,List.getElem_mem c,q⟩]
    rfl
   ·rw[List.take_succ_eq_append_getElem c,List.any_append,g2,List.any_cons,q]
    rfl
  ·have c:k=p0.we.length:=by have:=of_decide_eq_false c;omega
   rw[List.take_of_length_le (by omega)]at g2
   rw[g2]
   by_cases q1:0<p0.wl<;>by_cases q2:0<p1.wl<;>by_cases q3:p0.wm=p1.wm<;>by_cases q4:p0.wq=p1.wq<;>simp[q1,q2,q3,q4]
noncomputable def k8z:Con TB.den:= .g ⟨42,[.one (.ptr 0 0),.agg [zqu,zql,.d (.sl (.st 0)),zqu,zqu,zqu,zqu,zqu,zqi,.d (.sl yqb),zqu,zqi]],[.cells [zqi,.row 1],.vec (.st 2)],(.one (.one (zql))),[.cells [zqi,.row 1],.vec (.st 2)],false⟩ [.st 2,yqi,.sl (.st 2)] [.sl yqu,yqi,.sl (.st 2)] [] fun(p1:wA) (Aa:Int) (w1:List wA)=>((∃t,p1=eOf t/\VR t)/\EL w1,(cfl (tL w1) (tOf p1):List Int),Aa,w1,())
theorem k4j:k8z.Ok Tryz.prog TB:=prv Bs Tryz.func42 (.r 1 (.nd [] (.r 0 (.lp [.tok 5 yqu] ⟨[3],[.tip yqu],[5,13],[.one (.own 0),.one (zqi)],[]⟩ .no)) [] .no)) (k82.c c0) (Q:=∀(p1:wA) (Aa:Int) (w1:List wA),((∃t,p1=eOf t/\VR t)/\EL w1)->∀r0:List Int,(cfl (tL w1) (tOf p1))=r0->∀Ac:Int,Aa=Ac->∀e1:List wA,w1=e1-> 
(([]:List Int)=([]:List Int))/\∃(I1:Int->(List Int)->Prop) (M1:Int->(List Int)->Nat),I1 0 ([]:List Int)/\∀(b1:Int) (f1:List Int),(I1 b1 f1->
(decide (b1<(w1.length:Int))=true->
(0<=b1/\b1<(w1.length:Int))/\(0<=b1/\b1<(w1.length:Int))/\(p1.we.length<=4294967295/\(ix w1 b1).we.length<=4294967295)/\let r1:Bool:=(if p1.id=(ix w1 b1).id then false else p1.we.any (fun m=>decide (m∈(ix w1 b1).we))||(decide (0<p1.wl)&&decide (0<(ix w1 b1).wl)&&decide (p1.wm=(ix w1 b1).wm)&&decide (p1.wq=(ix w1 b1).wq)))
(r1=true->
 f1.length=f1.length/\(f1.length+[(ix w1 b1).id].length)*8<=140737488355328/\f1.length+[(ix w1 b1).id].length<=maxLen/\(f1++[(ix w1 b1).id]=f1++[(ix w1 b1).id])/\I1 (i64.wrap (b1+1)) (f1++[(ix w1 b1).id])/\M1 (i64.wrap (b1+1)) (f1++[(ix w1 b1).id])<M1 b1 f1)/\
(r1=false->
(f1=f1)/\I1 (i64.wrap (b1+1)) f1/\M1 (i64.wrap (b1+1)) f1<M1 b1 f1))/\
(decide (b1<(w1.length:Int))=false->
(w1.length=w1.length)/\f1=r0/\Aa=Ac/\w1=e1))) (by kernel_rfl)<|by
 rintro p1 Aa w1 h _ rfl _ rfl _ rfl
 obtain⟨⟨t,rfl,ht⟩,hE⟩:=h
 obtain⟨L,rfl,hL,hn⟩:=hE.at
 rw[tL_eL,tOf_eOf]
 refine⟨rfl,?_⟩
 refine⟨(fun i f=>∃k:Nat,i=(k:Int)/\k<=L.length/\f=cfl (L.take k) t),fun i _=>(L.length-i).toNat,⟨0,rfl,by omega,rfl⟩,?_⟩
 rintro _ _ ⟨k,rfl,g1,rfl⟩
 have hcl:=cfl_len (L.take k) t
 rw[List.length_take]at hcl
 refine⟨fun e=> ?_,fun e=> ?_⟩
 ·have e:k<L.length:=by have:=of_decide_eq_true e;rw[eL_len]at this;omega
  have hu:=(hL _ (List.getElem_mem e)).tl.m
  have hct:=kgm (t:=t) e
  rw[eL_ix e,inc_i64 _ (by omega)]
  rw[eL_len]
  refine⟨by omega,by omega,⟨ht.tl.m,hu⟩,fun q=> ?_,fun q=> ?_⟩
  ·have q:confT t L[k]=true:=q
   rw[if_pos q]at hct
   refine⟨rfl,?_,?_,rfl,⟨k+1,rfl,by omega,hct.symm⟩,by(dsimp only;omega)⟩<;>simp only[List.length_singleton]<;>(try unfold maxLen)<;>omega
  ·rw[if_neg (by rw[show confT t L[k]=false from q];decide)]at hct
   exact⟨rfl,⟨k+1,rfl,by omega,hct.symm⟩,by(dsimp only;omega)⟩
 ·have e:k=L.length:=by have:=of_decide_eq_false e;rw[eL_len]at this;omega
  rw[List.take_of_length_le (by omega)]
  exact⟨rfl,rfl,rfl,rfl⟩
noncomputable def k9y:Con TB.den:= .gp 62 [.sl yqu] [.sl yqu] [] fun(p0:List Int)=>(p0.length<=4294967295,p0,())
theorem kbd:k9y.Ok Tryz.prog TB:=qrv Bs Tryz.func62 .no c0 (Q:=∀(p0:List Int),(p0.length<=4294967295)->∀r0:List Int,p0=r0-> 
 ∀z4:Bool,(z4=true->p0=[])->(z4=true->
([]:List Int)=r0)/\
(z4=false->
(([]:List Int).length+p0.length)*8<=140737488355328/\([]:List Int).length+p0.length<=maxLen/\([]:List Int)++p0=r0)) (by kernel_rfl)<|by
 rintro p0 h _ rfl
 refine fun z hz=>⟨fun h=>(hz h).symm,fun h=>⟨by simp;omega,by simp;unfold maxLen;omega,rfl⟩⟩
noncomputable def k7b:Con TB.den:= .g ⟨63,[.one (.d (.sl (.st 0)))],[],(.one (.one (.row 0))),[.vec (.st 0)],false⟩ [.sl (.st 0)] [.sl (.st 0)] [] fun(p0:List wg)=>(p0.length<=4294967295,p0,())
theorem k85:k7b.Ok Tryz.prog TB:=prx Bs [5,7] Tryz.func63 (.r 0 (.nd [] (.r 0 (.nd [] (.r 0 (.rt [.rnil 2 (.st 0)])) [] .no)) [] .no)) x0 c0 (Q:=∀(p0:List wg),(p0.length<=4294967295)->∀e0:List wg,p0=e0-> 
 ∀z4:Bool,(z4=true->p0=[])->(z4=true->
(0=([]:List wg).length)/\([]:List wg)=e0)/\
(z4=false->
([]:List wg).length=([]:List wg).length/\(([]:List wg).length+p0.length)*48<=140737488355328/\([]:List wg).length+p0.length<=maxLen/\((([]:List wg)++p0).length=(([]:List wg)++p0).length)/\([]:List wg)++p0=e0)) (by kernel_rfl)<|by
 rintro p0 h _ rfl
 intro z hz
 refine⟨fun e=> ?_,fun e=> ?_⟩
 ·rw[hz e];exact⟨rfl,rfl⟩
 ·refine⟨rfl,?_,?_,rfl,rfl⟩<;>simp only[List.length_nil]<;>(try unfold maxLen)<;>omega
noncomputable def k6g:Con TB.den:= .gp 64 [.sl yqb] [.sl yqb] [] fun(p0:List Int)=>(p0.length<=4294967295,p0,())
theorem k7i:k6g.Ok Tryz.prog TB:=qrv Bs Tryz.func64 .no c0 (Q:=∀(p0:List Int),(p0.length<=4294967295)->∀r0:List Int,p0=r0-> 
 ∀z4:Bool,(z4=true->p0=[])->(z4=true->
([]:List Int)=r0)/\
(z4=false->
(([]:List Int).length+p0.length)*1<=140737488355328/\([]:List Int).length+p0.length<=maxLen/\([]:List Int)++p0=r0)) (by kernel_rfl)<|by
 rintro p0 h _ rfl
 intro z hz
 refine⟨fun e=>(hz e).symm,fun e=> ?_⟩
 refine⟨?_,?_,rfl⟩<;>simp only[List.length_nil]<;>(try unfold maxLen)<;>omega
noncomputable def k9d:Con TB.den:= .gp 43 [.st 1] [.st 1] [] fun(p0:wC)=>(TL p0,p0,())
theorem k4z:k9d.Ok Tryz.prog TB:=qrv Bs Tryz.func43 (.r 2 (.nd [] (.r 0 (.lp [] ⟨[2],[.vec (.st 0)],[15],[.one (zqi)],[]⟩ .no)) [] (.r 1 (.rt [.frzc 2 1 2])))) (kbd.c (k85.c (k7i.c c0))) (Q:=∀(p0:wC),(TL p0)->∀r0:wC,p0=r0-> 
(p0.wD.length<=4294967295)/\(p0.wB.length<=4294967295)/\∃(I1:Int->(List wg)->Prop) (M1:Int->(List wg)->Nat),I1 0 p0.wB/\∀(b1:Int) (f1:List wg),(I1 b1 f1->
(decide (b1<(p0.wB.length:Int))=true->
(0<=b1/\b1<(p0.wB.length:Int))/\(0<=b1/\b1<(f1.length:Int))/\(((ix f1 b1).wE).length<=4294967295)/\(0<=b1/\b1<(p0.wB.length:Int))/\(0<=b1/\b1<(f1.length:Int))/\I1 (i64.wrap (b1+1)) (f1.set b1.toNat (wg.mk ((ix f1 b1).wn) ((ix f1 b1).wW) ((ix f1 b1).wS) ((ix f1 b1).wE)))/\M1 (i64.wrap (b1+1)) (f1.set b1.toNat (wg.mk ((ix f1 b1).wn) ((ix f1 b1).wW) ((ix f1 b1).wS) ((ix f1 b1).wE)))<M1 b1 f1)/\
(decide (b1<(p0.wB.length:Int))=false->
(p0.wR.length<=4294967295)/\(p0.wB.length=f1.length)/\p0.wY=r0.wY/\p0.wD=r0.wD/\f1=r0.wB/\p0.wF=r0.wF/\p0.wG=r0.wG/\p0.Fee=r0.Fee/\p0.wH=r0.wH/\p0.wQ=r0.wQ/\p0.wK=r0.wK/\p0.wR=r0.wR))) (by kernel_rfl)<|by
 rintro p0 h _ rfl
 refine⟨h.m,h.o,?_⟩
 refine⟨(fun i f=>f=p0.wB/\∃k:Nat,i=(k:Int)/\k<=p0.wB.length),fun i _=>(p0.wB.length-i).toNat,⟨rfl,0,rfl,by omega⟩,?_⟩
 rintro _ _ ⟨rfl,k,rfl,g1⟩
 have ho:=h.o
 refine⟨fun e=> ?_,fun e=> ?_⟩
 ·have e:k<p0.wB.length:=by have:=of_decide_eq_true e;omega
  rw[ix_get _ _ e,inc_i64 _ (by omega)]
  have hs:p0.wB.set k (wg.mk p0.wB[k].wn p0.wB[k].wW p0.wB[k].wS p0.wB[k].wE)=p0.wB:=List.set_getElem_self ..
  have hc:=h.c _ (List.getElem_mem e)
  refine⟨by omega,by omega,hc,by omega,by omega,⟨?_,k+1,rfl,by omega⟩,by(dsimp only;omega)⟩
  exact hs
 ·exact⟨h.p,rfl,rfl,rfl,rfl,rfl,rfl,rfl,rfl,rfl,rfl,rfl⟩
noncomputable def kbv:Con TB.den:= .gp 107 [.st 4] [.bool] [] fun(p0:wa)=>(p0.P=18446744069414584321,true,())
theorem k1b:kbv.Ok Tryz.prog TB:=qrv Bs Tryz.func107 .no c0 (Q:=∀(p0:wa),(p0.P=18446744069414584321)->∀r0:Bool,(true:Bool)=r0-> 
((p0.P==18446744069414584321)=true->
((p0.P==18446744069414584321)=true->
 true=r0)/\
((p0.P==18446744069414584321)=false->
 false=r0))/\
((p0.P==18446744069414584321)=false->
((p0.P==17)=true->
((p0.P==17)=true->
 true=r0)/\
((p0.P==17)=false->
 false=r0))/\
((p0.P==17)=false->
((p0.P==97)=true->
((p0.P==97)=true->
 true=r0)/\
((p0.P==97)=false->
 false=r0))/\
((p0.P==97)=false->
((p0.P==193)=true->
((p0.P==193)=true->
 true=r0)/\
((p0.P==193)=false->
 false=r0))/\
((p0.P==193)=false->
((p0.P==257)=true->
((p0.P==257)=true->
 true=r0)/\
((p0.P==257)=false->
 false=r0))/\
((p0.P==257)=false->
((p0.P==12289)=true->
((p0.P==12289)=true->
 true=r0)/\
((p0.P==12289)=false->
 false=r0))/\
((p0.P==12289)=false->
((p0.P==65537)=true->
 true=r0)/\
((p0.P==65537)=false->
 false=r0)))))))) (by kernel_rfl)<|by
 rintro p0 h _ rfl
 refine ?_
 simp[h]
noncomputable def ke7:Con TB.den:= .gp 124 [.st 4,yqu,yqu] [yqu] [] fun(p0:wa) (p1 p2:Int)=>(p0.P=18446744069414584321/\(0<=p1/\p1<18446744069414584321)/\(0<=p2/\p2<18446744069414584321),((p1+p2)%18446744069414584321:Int),())
theorem kf6:ke7.Ok Tryz.prog TB:=qrx Bs [] Tryz.func124 (.r 1 (.nd [] (.jn ⟨[],[],[22],[.one (.d (.bool))],[]⟩ [] .no [] .no) [] .no)) (x1 x131_ok x0) c0 (Q:=∀(p0:wa) (p1 p2:Int),(p0.P=18446744069414584321/\(0<=p1/\p1<18446744069414584321)/\(0<=p2/\p2<18446744069414584321))->∀r0:Int,((p1+p2)%18446744069414584321)=r0-> 
(0<=p1/\0<=p2/\0<=(0:Int)/\(0:Int)<=1)/\let r1:Int:=(p1+p2+(0:Int))%18446744073709551616
 let r2:Int:=(p1+p2+(0:Int))/18446744073709551616
 ∀J1:Bool->Prop,(∀(b1:Bool),
((b1=true->
 u64.wrap (r1-p0.P)=r0)/\
(b1=false->
 r1=r0))->J1 b1)->
((r2 !=0)=true->
 J1 true)/\
((r2 !=0)=false->
 J1 (decide (p0.P<=r1)))) (by kernel_rfl)<|by
 rintro p0 p1 p2 h _ rfl
 obtain⟨hP,h1,h2⟩:=h
 refine⟨by omega,fun J1 j=>⟨fun h=>j _ ⟨fun _=> ?_,fun h=>by simp at h⟩,fun h=>j _ ⟨fun g=> ?_,fun g=> ?_⟩⟩⟩
 ·have h:(p1+p2+0)/18446744073709551616≠0:=by simpa using h
  rw[hP,u64w];omega
 ·have h:(p1+p2+0)/18446744073709551616=0:=by simpa using h
  have g:=of_decide_eq_true g
  rw[hP]at g ⊢
  rw[u64w];omega
 ·have h:(p1+p2+0)/18446744073709551616=0:=by simpa using h
  have g:=of_decide_eq_false g
  rw[hP]at g
  omega
noncomputable def k9f:Con TB.den:= .gp 125 [.st 4,yqu] [yqu] [] fun(p0:wa) (p1:Int)=>(0<p0.P/\0<=p1,(p1%p0.P:Int),())
theorem k1w:k9f.Ok Tryz.prog TB:=qrv Bs Tryz.func125 .no c0 (Q:=∀(p0:wa) (p1:Int),(0<p0.P/\0<=p1)->∀r0:Int,(p1%p0.P)=r0-> 
(decide (p0.P<=p1)=true->
(p0.P≠0)/\Int.tmod p1 p0.P=r0)/\
(decide (p0.P<=p1)=false->
 p1=r0)) (by kernel_rfl)<|by
 rintro p0 p1 h _ rfl
 refine⟨fun h1=>⟨by omega,tmod_nn _ _ h.2⟩,fun h1=> ?_⟩
 simp at h1
 rw[Int.emod_eq_of_lt (by omega) (by omega)]
noncomputable def ke9:Con TB.den:= .gp 119 [.st 4,yqu,yqu] [yqu] [] fun(p0:wa) (p1 p2:Int)=>(p0.P=18446744069414584321/\U64 p1/\U64 p2,((p1+p2)%18446744069414584321:Int),())
theorem k54:ke9.Ok Tryz.prog TB:=qrv Bs Tryz.func119 .no (k1b.c (k1w.c (kf6.c c0))) (Q:=∀(p0:wa) (p1 p2:Int),(p0.P=18446744069414584321/\U64 p1/\U64 p2)->∀r0:Int,((p1+p2)%18446744069414584321)=r0-> 
(p0.P=18446744069414584321)/\((!true)=true->
 0=r0)/\
((!true)=false->
(0<p0.P/\0<=p1)/\(0<p0.P/\0<=p2)/\(p0.P=18446744069414584321/\(0<=(p1%p0.P)/\(p1%p0.P)<18446744069414584321)/\(0<=(p2%p0.P)/\(p2%p0.P)<18446744069414584321))/\let r1:Int:=(((p1%p0.P)+(p2%p0.P))%18446744069414584321)
 r1=r0)) (by kernel_rfl)<|by
 rintro p0 p1 p2 h _ rfl
 obtain⟨hP,h1,h2⟩:=h
 refine⟨hP,?_⟩
 simp only[hP]
 refine⟨fun h=>by simp at h,fun _=>⟨by omega,by omega,⟨by trivial,by omega,by omega⟩,?_⟩⟩
 omega
noncomputable def kc6:Con TB.den:= .gp 88 [yqu] [yqi] [] fun(p0:Int)=>(U64 p0,(len64 p0:Int),())
theorem k80:kc6.Ok Tryz.prog TB:=qrv Bs Tryz.func88 (.r 0 (.jn ⟨[],[],[0,2],[.one (zqu),.one (zqi)],[]⟩ [] .no [] (.jn ⟨[],[],[0,2],[.one (zqu),.one (zqi)],[]⟩ [] .no [] (.jn ⟨[],[],[0,2],[.one (zqu),.one (zqi)],[]⟩ [] .no [] .no)))) c0 (Q:=∀(p0:Int),(U64 p0)->∀r0:Int,len64 p0=r0-> 
 ∀J1:Int->Int->Prop,(∀(b1 f1:Int),
(∀J2:Int->Int->Prop,(∀(i1 k1:Int),
(∀J3:Int->Int->Prop,(∀(l1 m1:Int),
((0<=IntKind.u8.wrap l1/\IntKind.u8.wrap l1<((⟨#[0,1,2,2,3,3,3,3,4,4,4,4,4,4,4,4,5,5,5,5,5,5,5,5,5,5,5,5,5,5,5,5,6,6,6,6,6,6,6,6,6,6,6,6,6,6,6,6,6,6,6,6,6,6,6,6,6,6,6,6,6,6,6,6,7,7,7,7,7,7,7,7,7,7,7,7,7,7,7,7,7,7,7,7,7,7,7,7,7,7,7,7,7,7,7,7,7,7,7,7,7,7,7,7,7,7,7,7,7,7,7,7,7,7,7,7,7,7,7,7,7,7,7,7,7,7,7,7,8,8,8,8,8,8,8,8,8,8,8,8,8,8,8,8,8,8,8,8,8,8,8,8,8,8,8,8,8,8,8,8,8,8,8,8,8,8,8,8,8,8,8,8,8,8,8,8,8,8,8,8,8,8,8,8,8,8,8,8,8,8,8,8,8,8,8,8,8,8,8,8,8,8,8,8,8,8,8,8,8,8,8,8,8,8,8,8,8,8,8,8,8,8,8,8,8,8,8,8,8,8,8,8,8,8,8,8,8,8,8,8,8,8,8,8,8,8,8,8,8,8,8,8,8,8,8,8]⟩:ByteArray).size:Int))/\let v1:Int:=byteAt (⟨#[0,1,2,2,3,3,3,3,4,4,4,4,4,4,4,4,5,5,5,5,5,5,5,5,5,5,5,5,5,5,5,5,6,6,6,6,6,6,6,6,6,6,6,6,6,6,6,6,6,6,6,6,6,6,6,6,6,6,6,6,6,6,6,6,7,7,7,7,7,7,7,7,7,7,7,7,7,7,7,7,7,7,7,7,7,7,7,7,7,7,7,7,7,7,7,7,7,7,7,7,7,7,7,7,7,7,7,7,7,7,7,7,7,7,7,7,7,7,7,7,7,7,7,7,7,7,7,7,8,8,8,8,8,8,8,8,8,8,8,8,8,8,8,8,8,8,8,8,8,8,8,8,8,8,8,8,8,8,8,8,8,8,8,8,8,8,8,8,8,8,8,8,8,8,8,8,8,8,8,8,8,8,8,8,8,8,8,8,8,8,8,8,8,8,8,8,8,8,8,8,8,8,8,8,8,8,8,8,8,8,8,8,8,8,8,8,8,8,8,8,8,8,8,8,8,8,8,8,8,8,8,8,8,8,8,8,8,8,8,8,8,8,8,8,8,8,8,8,8,8,8,8,8,8,8,8]⟩:ByteArray) (IntKind.u8.wrap l1)
 let v2:Int:=i64.wrap (m1+(i64.wrap v1))
 v2=r0)->J3 l1 m1)->
(decide (256<=i1)=true->
 J3 (ishr .u64 i1 8) (i64.wrap (k1+8)))/\
(decide (256<=i1)=false->
 J3 i1 k1))->J2 i1 k1)->
(decide (65536<=b1)=true->
 J2 (ishr .u64 b1 16) (i64.wrap (f1+16)))/\
(decide (65536<=b1)=false->
 J2 b1 f1))->J1 b1 f1)->
(decide (4294967296<=p0)=true->
 J1 (ishr .u64 p0 32) 32)/\
(decide (4294967296<=p0)=false->
 J1 p0 0)) (by kernel_rfl)<|by
 rintro p0 h _ rfl
 intro J1 j1
 have j1:∀s0 s2:Int,0<=s0->s0<4294967296->0<=s2->s2<=32->len64 p0=s2+len64 s0->J1 s0 s2:=fun s0 s2 h0 h1 h2 h3 h4=>by
  refine j1 _ _ fun J2 j2=> ?_
  have j2:∀s0 s2:Int,0<=s0->s0<65536->0<=s2->s2<=48->len64 p0=s2+len64 s0->J2 s0 s2:=fun s0 s2 h0 h1 h2 h3 h4=>by
   refine j2 _ _ fun J3 j3=> ?_
   have j3:∀s0 s2:Int,0<=s0->s0<256->0<=s2->s2<=56->len64 p0=s2+len64 s0->J3 s0 s2:=fun s0 s2 h0 h1 h2 h3 h4=>by
    refine j3 _ _ ?_
    have e:IntKind.u8.wrap s0=s0:=by rw[u8w];omega
    have l:=kh8 s0 ⟨h0,h1⟩
    show(0<=IntKind.u8.wrap s0/\IntKind.u8.wrap s0<(tab8.size:Int))/\i64.wrap (s2+i64.wrap (byteAt tab8 (IntKind.u8.wrap s0)))=_
    rw[e,kj7,ker s0 ⟨h0,h1⟩,wi (len64 s0) (by omega) (by omega),wi (s2+len64 s0) (by omega) (by omega),h4]
    exact⟨⟨h0,h1⟩,rfl⟩
   refine⟨fun h=> ?_,fun h=>j3 s0 s2 h0 (by simpa using h) h2 (by omega) h4⟩
   have h:=of_decide_eq_true h
   rw[<-k6f s0 8 (by simpa using h),<-Int.add_assoc,Int.add_right_comm]at h4
   rw[ishr8,wi _ (by omega) (by omega)]
   exact j3 _ _ (by omega) (by omega) (by omega) (by omega) (by omega)
  refine⟨fun h=> ?_,fun h=>j2 s0 s2 h0 (by simpa using h) h2 (by omega) h4⟩
  have h:=of_decide_eq_true h
  rw[<-k6f s0 16 (by simpa using h),<-Int.add_assoc,Int.add_right_comm]at h4
  rw[ishr16,wi _ (by omega) (by omega)]
  exact j2 _ _ (by omega) (by omega) (by omega) (by omega) (by omega)
 refine⟨fun h1=> ?_,fun h1=> ?_⟩
 ·have h1:=of_decide_eq_true h1
  rw[ishr32]
  exact j1 _ _ (by omega) (by omega) (by omega) (by omega) (by rw[<-k6f p0 32 (by simpa using h1),Int.add_comm];rfl)
 ·exact j1 p0 0 h.1 (by simpa using h1) (by omega) (by omega) (by omega)
noncomputable def k5i:Con TB.den:= .gp 122 [yqu] [yqi] [] fun(p0:Int)=>(0<p0/\p0<18446744073709551616,(64-len64 p0:Int),())
theorem k68:k5i.Ok Tryz.prog TB:=qrv Bs Tryz.func122 .no (k80.c c0) (Q:=∀(p0:Int),(0<p0/\p0<18446744073709551616)->∀r0:Int,(64-len64 p0)=r0-> 
(U64 p0)/\i64.wrap (64-(len64 p0))=r0) (by kernel_rfl)<|by
 rintro p0 h _ rfl
 obtain⟨s,e,h1,_⟩:=kb1 p0 h
 refine⟨⟨by omega,h.2⟩,?_⟩
 exact wi _ (by omega) (by omega)
noncomputable def kcg:Con TB.den:= .gp 110 [yqu,yqu,yqu] [yqu,yqu] [] fun(p0 p1 p2:Int)=>(U64 p0/\U64 p1/\U64 p2/\p0<p2,((p0*18446744073709551616+p1)/p2:Int),((p0*18446744073709551616+p1)%p2:Int),())
theorem k7z:kcg.Ok Tryz.prog TB:=qrv Bs Tryz.func110 (.r 13 (.jn ⟨[],[],[15,16],[.one (zqu),.one (.any)],[]⟩ [] (.lp [] ⟨[],[],[15,16],[.one (zqu),.one (zqu)],[]⟩ (.jn ⟨[],[],[],[],[]⟩ [] .no [] .no)) [] (.r 2 (.jn ⟨[],[],[16,18],[.one (.any),.one (zqu)],[]⟩ [] (.lp [] ⟨[],[],[16,18],[.one (zqu),.one (zqu)],[]⟩ (.jn ⟨[],[],[],[],[]⟩ [] .no [] .no)) [] .no)))) (k68.c c0) (Q:=∀(p0 p1 p2:Int),(U64 p0/\U64 p1/\U64 p2/\p0<p2)->∀r0:Int,((p0*18446744073709551616+p1)/p2)=r0->∀r1:Int,((p0*18446744073709551616+p1)%p2)=r1-> 
((p2==0)=true->
 False)/\
((p2==0)=false->
(decide (p2<=p0)=true->
 False)/\
(decide (p2<=p0)=false->
((p0==0)=true->
(p2≠0)/\(p2≠0)/\u64.wrap (Int.tdiv p1 p2)=r0/\Int.tmod p1 p2=r1)/\
((p0==0)=false->
(0<p2/\p2<18446744073709551616)/\(0<=u64.wrap (64-len64 p2))/\let v2:Int:=ishl .u64 p2 (u64.wrap (64-len64 p2))
(0<=u64.wrap (64-len64 p2))/\let v3:Int:=ishl .u64 p0 (u64.wrap (64-len64 p2))
 let v4:Int:=u64.wrap (64-(u64.wrap (64-len64 p2)))
(0<=v4)/\(0<=u64.wrap (64-len64 p2))/\let v5:Int:=ishl .u64 p1 (u64.wrap (64-len64 p2))
(ishr .u64 v2 32≠0)/\let v6:Int:=u64.wrap (Int.tdiv (ior .u64 v3 (ishr .u64 p1 v4)) (ishr .u64 v2 32))
 let v7:Int:=u64.wrap (v6*(ishr .u64 v2 32))
 let v8:Int:=u64.wrap ((ior .u64 v3 (ishr .u64 p1 v4))-v7)
 ∀J1:Int->Prop,(∀(b1:Int),
(let v12:Int:=u64.wrap ((ior .u64 v3 (ishr .u64 p1 v4))*4294967296)
 let v13:Int:=u64.wrap (v12+(ishr .u64 v5 32))
 let v14:Int:=u64.wrap (v13-(u64.wrap (b1*v2)))
(ishr .u64 v2 32≠0)/\let v15:Int:=u64.wrap (Int.tdiv v14 (ishr .u64 v2 32))
 let v16:Int:=u64.wrap (v15*(ishr .u64 v2 32))
 ∀J3:Int->Prop,(∀(k1:Int),
(let v20:Int:=u64.wrap ((u64.wrap (b1*4294967296))+k1)
 let v21:Int:=u64.wrap ((u64.wrap (v14*4294967296))+(iand .u64 v5 4294967295))
 let v22:Int:=u64.wrap (v21-(u64.wrap (k1*v2)))
(0<=u64.wrap (64-len64 p2))/\let v23:Int:=ishr .u64 v22 (u64.wrap (64-len64 p2))
 v20=r0/\v23=r1)->J3 k1)->
 ∃(I2:Int->Int->Prop) (M2:Int->Int->Nat),I2 (u64.wrap (v14-v16)) v15/\∀(l1 m1:Int),(I2 l1 m1->
 ∀J4:Prop,((let v19:Int:=u64.wrap (l1+(ishr .u64 v2 32))
(decide (4294967296<=v19)=true->
 J3 (u64.wrap (m1-1)))/\
(decide (4294967296<=v19)=false->
 I2 v19 (u64.wrap (m1-1))/\M2 v19 (u64.wrap (m1-1))<M2 l1 m1))->J4)->
(decide (4294967296<=m1)=true->
 J4)/\
(decide (4294967296<=m1)=false->
 let v17:Int:=u64.wrap (m1*(iand .u64 v2 4294967295))
 let v18:Int:=u64.wrap ((u64.wrap (4294967296*l1))+(iand .u64 v5 4294967295))
(decide (v18<v17)=true->
 J4)/\
(decide (v18<v17)=false->
 J3 m1))))->J1 b1)->
 ∃(I1:Int->Int->Prop) (M1:Int->Int->Nat),I1 v6 v8/\∀(f1 i1:Int),(I1 f1 i1->
 ∀J2:Prop,((let v11:Int:=u64.wrap (i1+(ishr .u64 v2 32))
(decide (4294967296<=v11)=true->
 J1 (u64.wrap (f1-1)))/\
(decide (4294967296<=v11)=false->
 I1 (u64.wrap (f1-1)) v11/\M1 (u64.wrap (f1-1)) v11<M1 f1 i1))->J2)->
(decide (4294967296<=f1)=true->
 J2)/\
(decide (4294967296<=f1)=false->
 let v9:Int:=u64.wrap (f1*(iand .u64 v2 4294967295))
 let v10:Int:=u64.wrap ((u64.wrap (4294967296*i1))+(ishr .u64 v5 32))
(decide (v10<v9)=true->
 J2)/\
(decide (v10<v9)=false->
 J1 f1))))))) (by kernel_rfl)<|by
 rintro p0 p1 p2 h _ rfl _ rfl
 obtain⟨h0,h1,h2,hlt⟩:=h
 refine⟨fun e=> ?_,fun _=>⟨fun e=> ?_,fun _=>⟨fun e=> ?_,fun _=> ?_⟩⟩⟩
 ·simp at e;omega
 ·simp at e;omega
 ·have e:p0=0:=by simpa using e
  subst e
  rw[tdiv_nn _ _ h1.1,tmod_nn _ _ h1.1,Int.zero_mul,Int.zero_add]
  have:=Int.ediv_le_self p2 h1.1
  have:=Int.ediv_nonneg h1.1 h2.1
  exact⟨by omega,by omega,wu _ (by omega) (by have:=Int.ediv_le_self p2 h1.1;omega),rfl⟩
 obtain⟨s,e,hs,n1,n2⟩:=kb1 p2 ⟨by omega,h2.2⟩
 have ew:u64.wrap (64-len64 p2)=(s:Int):=by rw[e,wu _ (by omega) (by omega)]
 have ew3:u64.wrap (64-(s:Int))=((64-s:Nat):Int):=by rw[wu _ (by omega) (by omega)];omega
 have hp:0<2^s:=Nat.two_pow_pos s
 have hp' :0<2^(64-s):=Nat.two_pow_pos _
 have hpp:2^s*2^(64-s)=18446744073709551616:=by rw[<-Nat.pow_add,show s+(64-s)=64 by omega]
 have hP:((2^s:Nat):Int)*((2^(64-s):Nat):Int)=18446744073709551616:=by rw[<-Int.natCast_mul,hpp];rfl
 have il:∀a:Int,ishl .u64 a (s:Int)=a*((2^s:Nat):Int)%18446744073709551616:=fun a=>by rw[kf1,Int.toNat_natCast,Nat.min_eq_left (by omega)]
 have ir:∀a:Int,ishr .u64 a (s:Int)=a/((2^s:Nat):Int):=fun a=>by rw[k3z,Int.toNat_natCast,show min s u64.bits=s from Nat.min_eq_left (by show s<=64;omega)]
 have ir' :∀a:Int,ishr .u64 a ((64-s:Nat):Int)=a/((2^(64-s):Nat):Int):=fun a=>by rw[k3z,Int.toNat_natCast,show min (64-s) u64.bits=64-s from Nat.min_eq_left (by show 64-s<=64;omega)]
 have hor:∀c:Int,0<=c->c<((2^s:Nat):Int)->p0*((2^s:Nat):Int)+c<18446744073709551616->ior .u64 (p0*((2^s:Nat):Int)) c=p0*((2^s:Nat):Int)+c:=by
  intro c hc0 hc1 hc2
  obtain⟨a,rfl⟩:=Int.eq_ofNat_of_zero_le h0.1
  obtain⟨c,rfl⟩:=Int.eq_ofNat_of_zero_le hc0
  have key:=ior_add' c a s (by omega)
  rw[Int.mul_comm,<-Int.natCast_mul]at hc2 ⊢
  rw[key (by omega)]
  omega
 simp only[ew,ew3,il,ir',ishr32]
 have hP'0:(0:Int)<((2^(64-s):Nat):Int):=by omega
 generalize hPd:((2^s:Nat):Int)=P at *
 generalize hPd' :((2^(64-s):Nat):Int)=P' at *
 have hP0:0<P:=by omega
 have hlo:p1/P' <P:=Int.ediv_lt_of_lt_mul hP'0 (by omega)
 have hlo0:0<=p1/P' :=Int.ediv_nonneg h1.1 (by omega)
 have hUv:p0*P+P<=p2*P:=by
  have:(p0+1)*P<=p2*P:=Int.mul_le_mul_of_nonneg_right (by omega) (by omega)
  grind
 have hUp:0<=p0*P:=Int.mul_nonneg h0.1 (by omega)
 rw[Int.emod_eq_of_lt (a:=p2*P) (by omega) n2,Int.emod_eq_of_lt (a:=p0*P) hUp (by omega),hor _ hlo0 hlo (by omega)]
 have hN:(p0*18446744073709551616+p1)*P=(p0*P+p1/P')*18446744073709551616+(p1*P%18446744073709551616/4294967296)*4294967296+p1*P%18446744073709551616%4294967296:=by
  have h5:p1*P/18446744073709551616=p1/P' :=by
   rw[<-hP,Int.mul_comm p1 P,Int.mul_ediv_mul_of_pos _ _ hP0]
  have h6:=Int.emod_add_mul_ediv (p1*P) 18446744073709551616
  rw[h5]at h6
  have:(p0*18446744073709551616+p1)*P=p0*P*18446744073709551616+p1*P:=by grind
  rw[this]
  generalize p1*P=w at *
  generalize p0*P=w' at *
  omega
 have hlb:0<=p1*P%18446744073709551616/\p1*P%18446744073709551616<18446744073709551616:=⟨Int.emod_nonneg _ (by omega),Int.emod_lt_of_pos _ (by omega)⟩
 generalize hUd:p0*P+p1/P' =U at *
 generalize hLd:p1*P%18446744073709551616=L at *
 have hVd:p2*P/4294967296*4294967296+p2*P%4294967296=p2*P:=by omega
 have hw:∀{Q R V' :Int},R-Q=V'->0<=V'->V' <18446744073709551616->∀A,R=A*4294967296+(R-A*4294967296)->u64.wrap (u64.wrap (u64.wrap (A*4294967296)+(R-A*4294967296))-u64.wrap Q)=V' :=by
  intro Q R V' hv h0 h1 A hA
  simp only[u64w]
  omega
 rw[k2v (p2*P) (by omega),k2v L (by omega)]
 generalize ha:p2*P/4294967296=a at *
 generalize hb:p2*P%4294967296=b at *
 have hQ1:Half U (L/4294967296) a b ((U*4294967296+L/4294967296)/(a*4294967296+b)):=⟨by omega,by omega,by omega,by omega,by omega,rfl⟩
 have hr1:=hQ1.rest
 have hq1:=hQ1.q
 generalize (U*4294967296+L/4294967296)/(a*4294967296+b)=Q1 at *
 generalize (U*4294967296+L/4294967296)%(a*4294967296+b)=R1 at *
 have hQ0:Half R1 (L%4294967296) a b ((R1*4294967296+L%4294967296)/(a*4294967296+b)):=⟨by omega,by omega,by omega,by omega,by omega,rfl⟩
 have hr0:=hQ0.rest
 have hq0:=hQ0.q
 generalize (R1*4294967296+L%4294967296)/(a*4294967296+b)=Q0 at *
 generalize (R1*4294967296+L%4294967296)%(a*4294967296+b)=R0 at *
 rw[hVd]at hr1 hr0 hq1 hq0
 have fin:=ki0 hP0 (by omega:0<p2) hN hr1.1 hr0.1 ⟨hr0.2.1,hr0.2.2⟩
 have aux:∀{U x Q q r:Int},Half U x a b Q->U<18446744073709551616->q*a+r=U->Q<=q->0<=r->q<=8589934592:=by
  intro U x Q q r hh hU e hQ hr
  have h1:=hh.ha
  refine Int.le_of_lt_add_one (Int.lt_of_mul_lt_mul_right (a:=a) ?_ (by omega))
  generalize q*a=w at *
  omega
 have init:∀{U x Q:Int},Half U x a b Q->Q<=U/a:=by
  intro U x Q hh
  have h1:=hh.ha
  have h2:=hh.q
  have h3:=hh.hb
  have h4:=hh.hx
  refine(Int.le_ediv_iff_mul_le (by omega)).2 ?_
  have h5:Q*(a*4294967296+b)=Q*a*4294967296+Q*b:=by grind
  have h6:0<=Q*b:=Int.mul_nonneg h2.1 h3.1
  generalize Q*a=w at *
  omega
 have hd:=Int.emod_add_mul_ediv U a
 have hd1:=Int.emod_nonneg U (by omega:a≠0)
 have hd2:=Int.emod_lt_of_pos U (by omega:0<a)
 have hd3:0<=U/a:=Int.ediv_nonneg (by omega) (by omega)
 rw[Int.mul_comm]at hd
 have hd5:0<=U/a*a:=Int.mul_nonneg hd3 (by omega)
 have hd4:=aux hQ1 (by omega) (q:=U/a) (r:=U%a) (by omega) (init hQ1) hd1
 rw[tdiv_nn _ _ (by omega),wu (U/a) (by omega) (by omega),wu (U/a*a) (by omega) (by omega),show U-U/a*a=U%a by omega,wu (U%a) (by omega) (by omega)]
 refine⟨⟨by omega,h2.2⟩,by omega,by omega,by omega,by omega,by omega,fun J1 k1=> ?_⟩
 have j2:J1 Q1:=by
  have e1:=hw (Q:=Q1*(p2*P)) (R:=U*4294967296+L/4294967296) hr1.1 hr1.2.1 (by omega) U (by omega)
  rw[show U*4294967296+L/4294967296-U*4294967296=L/4294967296 by omega]at e1
  refine k1 _ ?_
  simp only[e1]
  have hd:=Int.emod_add_mul_ediv R1 a
  have hd1:=Int.emod_nonneg R1 (by omega:a≠0)
  have hd2:=Int.emod_lt_of_pos R1 (by omega:0<a)
  have hd3:0<=R1/a:=Int.ediv_nonneg hr1.2.1 (by omega)
  rw[Int.mul_comm]at hd
  have hd5:0<=R1/a*a:=Int.mul_nonneg hd3 (by omega)
  have hd4:=aux hQ0 (by omega) (q:=R1/a) (r:=R1%a) (by omega) (init hQ0) hd1
  rw[tdiv_nn _ _ hr1.2.1,wu (R1/a) (by omega) (by omega),wu (R1/a*a) (by omega) (by omega),show R1-R1/a*a=R1%a by omega,wu (R1%a) (by omega) (by omega)]
  refine⟨by omega,fun J3 k3=> ?_⟩
  have j4:J3 Q0:=by
   refine k3 _ ⟨by omega,?_,?_⟩
   ·rw[wu (Q1*4294967296) (by omega) (by omega),wu _ (by omega) (by omega)]
    exact fin.1
   ·have:=hw (Q:=Q0*(p2*P)) (R:=R1*4294967296+L%4294967296) hr0.1 hr0.2.1 (by omega) R1 (by omega)
    rw[show R1*4294967296+L%4294967296-R1*4294967296=L%4294967296 by omega]at this
    rw[this,ir]
    exact fin.2
  refine⟨fun r q=>q*a+r=R1/\Q0<=q/\0<=r/\r<4294967296,fun r q=>q.toNat,⟨by omega,init hQ0,hd1,by omega⟩,?_⟩
  rintro r q ⟨g1,g2,g3,g4⟩ J4 k4
  have g5:=aux hQ0 (by omega) g1 g2 g3
  have nxt:Q0<=q-1->r+a<4294967296->((q-1)*a+(r+a)=R1/\Q0<=q-1/\0<=r+a/\r+a<4294967296)/\(q-1).toNat<q.toNat:=fun h1 h2=>⟨⟨by grind,h1,by omega,h2⟩,by omega⟩
  have j3:Q0<=q-1->J4:=by
   intro hq
   refine k4 ?_
   rw[wu (q-1) (by omega) (by omega),wu (r+a) (by omega) (by omega)]
   refine⟨fun hd=> ?_,fun hd=>nxt hq (by simpa using hd)⟩
   have hd:4294967296<=r+a:=of_decide_eq_true hd
   rw[hQ0.done (q:=q-1) (r:=r+a) (by grind) hq hd]
   exact j4
  refine⟨fun hd=>j3 (hQ0.down g1 (.inl (of_decide_eq_true hd))),fun hd=> ?_⟩
  have hd:q<4294967296:=by simpa using hd
  have hqb:0<=q*b/\q*b<18446744073709551616:=by
   have:=hQ0.hb
   have h1:q*b<=4294967295*4294967295:=Int.mul_le_mul (by omega) (by omega) (by omega) (by omega)
   exact⟨Int.mul_nonneg (by omega) (by omega),by omega⟩
  have:=hQ0.hx
  rw[wu (q*b) (by omega) (by omega),wu (4294967296*r) (by omega) (by omega),wu (4294967296*r+L%4294967296) (by omega) (by omega)]
  refine⟨fun ht=> ?_,fun ht=> ?_⟩
  ·have ht:4294967296*r+L%4294967296<q*b:=of_decide_eq_true ht
   exact j3 (hQ0.down g1 (.inr (by omega)))
  ·have ht:¬(4294967296*r+L%4294967296<q*b):=of_decide_eq_false ht
   rw[hQ0.exit g1 g2 (by omega)]
   exact j4
 refine⟨fun q r=>q*a+r=U/\Q1<=q/\0<=r/\r<4294967296,fun q r=>q.toNat,⟨by omega,init hQ1,hd1,by omega⟩,?_⟩
 rintro q r ⟨g1,g2,g3,g4⟩ J2 k2
 have g5:=aux hQ1 (by omega) g1 g2 g3
 have nxt:Q1<=q-1->r+a<4294967296->((q-1)*a+(r+a)=U/\Q1<=q-1/\0<=r+a/\r+a<4294967296)/\(q-1).toNat<q.toNat:=fun h1 h2=>⟨⟨by grind,h1,by omega,h2⟩,by omega⟩
 have j1:Q1<=q-1->J2:=by
  intro hq
  refine k2 ?_
  rw[wu (q-1) (by omega) (by omega),wu (r+a) (by omega) (by omega)]
  refine⟨fun hd=> ?_,fun hd=>nxt hq (by simpa using hd)⟩
  have hd:4294967296<=r+a:=of_decide_eq_true hd
  rw[hQ1.done (q:=q-1) (r:=r+a) (by grind) hq hd]
  exact j2
 refine⟨fun hd=>j1 (hQ1.down g1 (.inl (of_decide_eq_true hd))),fun hd=> ?_⟩
 have hd:q<4294967296:=by simpa using hd
 have hqb:0<=q*b/\q*b<18446744073709551616:=by
  have:=hQ1.hb
  have h1:q*b<=4294967295*4294967295:=Int.mul_le_mul (by omega) (by omega) (by omega) (by omega)
  exact⟨Int.mul_nonneg (by omega) (by omega),by omega⟩
 have:=hQ1.hx
 rw[wu (q*b) (by omega) (by omega),wu (4294967296*r) (by omega) (by omega),wu (4294967296*r+L/4294967296) (by omega) (by omega)]
 refine⟨fun ht=> ?_,fun ht=> ?_⟩
 ·have ht:4294967296*r+L/4294967296<q*b:=of_decide_eq_true ht
  exact j1 (hQ1.down g1 (.inr (by omega)))
 ·have ht:¬(4294967296*r+L/4294967296<q*b):=of_decide_eq_false ht
  rw[hQ1.exit g1 g2 (by omega)]
  exact j2
noncomputable def kc2:Con TB.den:= .gp 109 [yqu,yqu] [yqu,yqu] [] fun(p0 p1:Int)=>(U64 p0/\U64 p1,(p0*p1/18446744073709551616:Int),(p0*p1%18446744073709551616:Int),())
theorem k7x:kc2.Ok Tryz.prog TB:=qrv Bs Tryz.func109 .no c0 (Q:=∀(p0 p1:Int),(U64 p0/\U64 p1)->∀r0:Int,(p0*p1/18446744073709551616)=r0->∀r1:Int,(p0*p1%18446744073709551616)=r1-> 
 let v2:Int:=u64.wrap ((iand .u64 p0 4294967295)*(iand .u64 p1 4294967295))
 let v3:Int:=u64.wrap ((ishr .u64 p0 32)*(iand .u64 p1 4294967295))
 let v4:Int:=u64.wrap (v3+(ishr .u64 v2 32))
 let v5:Int:=u64.wrap ((iand .u64 p0 4294967295)*(ishr .u64 p1 32))
 let v6:Int:=u64.wrap ((iand .u64 v4 4294967295)+v5)
 let v7:Int:=u64.wrap ((ishr .u64 p0 32)*(ishr .u64 p1 32))
 let v8:Int:=u64.wrap (v7+(ishr .u64 v4 32))
 let v9:Int:=u64.wrap (v8+(ishr .u64 v6 32))
 v9=r0/\u64.wrap (p0*p1)=r1) (by kernel_rfl)<|by
 rintro p0 p1 h _ rfl _ rfl
 obtain⟨h0,h1⟩:=h
 have k:=kkp p0 p1 h0 h1
 refine ?_
 simp only[k2v p0 h0,k2v p1 h1,ishr32]
 obtain⟨e,k1,k2,k3,k4,k5,k6,k7,k8⟩:=k
 rw[<-e]
 rw[wu (p0%4294967296*(p1%4294967296)) (by omega) (by omega),wu (p0/4294967296*(p1%4294967296)) (by omega) (by omega),wu (p0%4294967296*(p1/4294967296)) (by omega) (by omega),wu (p0/4294967296*(p1/4294967296)) (by omega) (by omega)]
 generalize p0%4294967296*(p1%4294967296)=a at *
 generalize p0/4294967296*(p1%4294967296)=b at *
 generalize p0%4294967296*(p1/4294967296)=c at *
 generalize p0/4294967296*(p1/4294967296)=d at *
 rw[wu (b+a/4294967296) (by omega) (by omega),k2v _ (by omega)]
 simp only[u64w]
 refine⟨?_,trivial⟩
 omega
noncomputable def kdz:Con TB.den:= .gp 126 [.st 4,yqu,yqu] [yqu] [] fun(p0:wa) (p1 p2:Int)=>(p0.P=18446744069414584321/\(0<=p1/\p1<18446744069414584321)/\(0<=p2/\p2<18446744069414584321),(p1*p2%18446744069414584321:Int),())
theorem k8d:kdz.Ok Tryz.prog TB:=qrv Bs Tryz.func126 .no (k7x.c (k7z.c c0)) (Q:=∀(p0:wa) (p1 p2:Int),(p0.P=18446744069414584321/\(0<=p1/\p1<18446744069414584321)/\(0<=p2/\p2<18446744069414584321))->∀r0:Int,(p1*p2%18446744069414584321)=r0-> 
(U64 p1/\U64 p2)/\(U64 (p1*p2/18446744073709551616)/\U64 (p1*p2%18446744073709551616)/\U64 p0.P/\(p1*p2/18446744073709551616)<p0.P)/\let r1:Int:=(((p1*p2/18446744073709551616)*18446744073709551616+(p1*p2%18446744073709551616))/p0.P)
 let r2:Int:=(((p1*p2/18446744073709551616)*18446744073709551616+(p1*p2%18446744073709551616))%p0.P)
 r2=r0) (by kernel_rfl)<|by
 rintro p0 p1 p2 h _ rfl
 obtain⟨hP,h1,h2⟩:=h
 have h3:0<=p1*p2:=Int.mul_nonneg h1.1 h2.1
 have h4:p1*p2<=18446744069414584320*18446744069414584320:=Int.mul_le_mul (by omega) (by omega) h2.1 (by omega)
 refine⟨⟨by omega,by omega⟩,?_⟩
 simp only[hP]
 generalize p1*p2=m at *
 refine⟨⟨⟨by omega,by omega⟩,⟨by omega,by omega⟩,by omega,by omega⟩,?_⟩
 rw[show m/18446744073709551616*18446744073709551616+m%18446744073709551616=m by omega]
noncomputable def ke8:Con TB.den:= .gp 120 [.st 4,yqu,yqu] [yqu] [] fun(p0:wa) (p1 p2:Int)=>(p0.P=18446744069414584321/\U64 p1/\U64 p2,(p1*p2%18446744069414584321:Int),())
theorem kft:ke8.Ok Tryz.prog TB:=qrv Bs Tryz.func120 .no (k1b.c (k1w.c (k8d.c c0))) (Q:=∀(p0:wa) (p1 p2:Int),(p0.P=18446744069414584321/\U64 p1/\U64 p2)->∀r0:Int,(p1*p2%18446744069414584321)=r0-> 
(p0.P=18446744069414584321)/\((!true)=true->
 0=r0)/\
((!true)=false->
(0<p0.P/\0<=p1)/\(0<p0.P/\0<=p2)/\(p0.P=18446744069414584321/\(0<=(p1%p0.P)/\(p1%p0.P)<18446744069414584321)/\(0<=(p2%p0.P)/\(p2%p0.P)<18446744069414584321))/\let r1:Int:=((p1%p0.P)*(p2%p0.P)%18446744069414584321)
 r1=r0)) (by kernel_rfl)<|by
 rintro p0 p1 p2 h _ rfl
 obtain⟨hP,h1,h2⟩:=h
 refine⟨hP,?_⟩
 simp only[hP]
 refine⟨fun h=>by simp at h,fun _=>⟨by omega,by omega,⟨by trivial,by omega,by omega⟩,?_⟩⟩
 exact(Int.mul_emod _ _ _).symm
noncomputable def k98:Con TB.den:= .gp 132 [.st 4] [yqu,yqi,yqu] [] fun(p0:wa)=>(p0.P=18446744069414584321,(7:Int),(32:Int),(7:Int),())
theorem kab:k98.Ok Tryz.prog TB:=qrv Bs Tryz.func132 .no c0 (Q:=∀(p0:wa),(p0.P=18446744069414584321)->∀r0:Int,(7:Int)=r0->∀r1:Int,(32:Int)=r1->∀r2:Int,(7:Int)=r2-> 
((p0.P==17)=true->
 3=r0/\4=r1/\3=r2)/\
((p0.P==17)=false->
((p0.P==97)=true->
 5=r0/\5=r1/\5=r2)/\
((p0.P==97)=false->
((p0.P==193)=true->
 5=r0/\6=r1/\5=r2)/\
((p0.P==193)=false->
((p0.P==257)=true->
 3=r0/\8=r1/\3=r2)/\
((p0.P==257)=false->
((p0.P==12289)=true->
 11=r0/\12=r1/\5=r2)/\
((p0.P==12289)=false->
((p0.P==65537)=true->
 3=r0/\16=r1/\3=r2)/\
((p0.P==65537)=false->
((p0.P==18446744069414584321)=true->
 7=r0/\32=r1/\7=r2)/\
((p0.P==18446744069414584321)=false->
 0=r0/\0=r1/\0=r2)))))))) (by kernel_rfl)<|by
 rintro p0 h _ rfl _ rfl _ rfl
 refine ?_
 simp[h]
noncomputable def k8f:Con TB.den:= .gp 127 [.st 4] [yqu] [] fun(p0:wa)=>(p0.P=18446744069414584321,(7:Int),())
theorem k9e:k8f.Ok Tryz.prog TB:=qrv Bs Tryz.func127 .no (kab.c c0) (Q:=∀(p0:wa),(p0.P=18446744069414584321)->∀r0:Int,(7:Int)=r0-> 
(p0.P=18446744069414584321)/\7=r0) (by kernel_rfl)<|by
 rintro p0 h _ rfl
 exact⟨h,rfl⟩
noncomputable def ke1:Con TB.den:= .gp 133 [.st 4,yqu,yqu] [yqu] [] fun(p0:wa) (p1 p2:Int)=>(p0.P=18446744069414584321/\(0<=p1/\p1<18446744069414584321)/\U64 p2,(pw p1 p2:Int),())
theorem kfp:ke1.Ok Tryz.prog TB:=qrv Bs Tryz.func133 (.r 1 (.nd [] (.lp [] ⟨[],[],[1,2,7],[.one (zqu),.one (zqu),.one (zqu)],[]⟩ (.r 0 (.jn ⟨[],[],[7],[.one (zqu)],[]⟩ [] .no [] .no))) [] .no)) (k8d.c c0) (Q:=∀(p0:wa) (p1 p2:Int),(p0.P=18446744069414584321/\(0<=p1/\p1<18446744069414584321)/\U64 p2)->∀r0:Int,pw p1 p2=r0-> 
 ∃(I1:Int->Int->Int->Prop) (M1:Int->Int->Int->Nat),I1 p1 p2 1/\∀(b1 f1 i1:Int),(I1 b1 f1 i1->
(decide (0<f1)=true->
 ∀J1:Int->Prop,(∀(k1:Int),
((decide (0<(ishr .u64 f1 1))=true->
(p0.P=18446744069414584321/\(0<=b1/\b1<18446744069414584321)/\(0<=b1/\b1<18446744069414584321))/\I1 (b1*b1%18446744069414584321) (ishr .u64 f1 1) k1/\M1 (b1*b1%18446744069414584321) (ishr .u64 f1 1) k1<M1 b1 f1 i1)/\
(decide (0<(ishr .u64 f1 1))=false->
 I1 b1 (ishr .u64 f1 1) k1/\M1 b1 (ishr .u64 f1 1) k1<M1 b1 f1 i1))->J1 k1)->
(((iand .u64 f1 1)==1)=true->
(p0.P=18446744069414584321/\(0<=i1/\i1<18446744069414584321)/\(0<=b1/\b1<18446744069414584321))/\J1 (i1*b1%18446744069414584321))/\
(((iand .u64 f1 1)==1)=false->
 J1 i1))/\
(decide (0<f1)=false->
 i1=r0))) (by kernel_rfl)<|by
 rintro p0 p1 p2 h _ rfl
 obtain⟨hP,h1,h2⟩:=h
 rw[hP]
 refine⟨fun a e r=>(0<=a/\a<18446744069414584321)/\U64 e/\(0<=r/\r<18446744069414584321)/\(r*a^e.toNat)%18446744069414584321=pw p1 p2,fun a e r=>e.toNat,⟨h1,h2,by omega,by rw[Int.one_mul];rfl⟩,?_⟩
 rintro a e r ⟨ha,he,hr,hv⟩
 refine⟨fun h J1 j=> ?_,fun h=> ?_⟩
 ·have h:=of_decide_eq_true h
  have jj:∀r',(0<=r'/\r' <18446744069414584321)->(r' *(a*a)^(e/2).toNat)%18446744069414584321=pw p1 p2->J1 r' :=by
   intro r' hr' hv'
   have hn:∀a',(0<=a'/\a' <18446744069414584321)->r' *a' ^(e/2).toNat%18446744069414584321=pw p1 p2->((0<=a'/\a' <18446744069414584321)/\U64 (e/2)/\(0<=r'/\r' <18446744069414584321)/\r' *a' ^(e/2).toNat%18446744069414584321=pw p1 p2)/\(e/2).toNat<e.toNat:=fun a' h1 h3=>⟨⟨h1,⟨by omega,by omega⟩,hr',h3⟩,by omega⟩
   refine j _ ?_
   rw[ishr1]
   refine⟨fun h=>⟨⟨rfl,ha,ha⟩,?_⟩,fun h=> ?_⟩
   ·refine hn _ ⟨Int.emod_nonneg _ (by omega),Int.emod_lt_of_pos _ (by omega)⟩ ?_
    rw[<-hv',Int.mul_emod,Int.mul_emod r' ((a*a)^_),k7d]
   ·have h:¬0<e/2:=of_decide_eq_false h
    refine hn _ ha ?_
    rw[show(e/2).toNat=0 by omega]at hv' ⊢
    simpa using hv'
  rw[kl8 e he]
  have hpow:∀k:Nat,a^(2*k)=(a*a)^k:=fun k=>by rw[Int.pow_mul];congr 1;rw[Int.pow_succ,Int.pow_succ,Int.pow_zero,Int.one_mul]
  refine⟨fun h1=>⟨⟨rfl,hr,ha⟩,?_⟩,fun h1=> ?_⟩
  ·have h1:e%2=1:=by simpa using h1
   refine jj _ ⟨Int.emod_nonneg _ (by omega),Int.emod_lt_of_pos _ (by omega)⟩ ?_
   rw[<-hv,show e.toNat=2*(e/2).toNat+1 by omega,Int.pow_succ,hpow,Int.mul_emod,Int.emod_emod_of_dvd _ (Int.dvd_refl _),<-Int.mul_emod]
   congr 1
   grind
  ·have h1:¬e%2=1:=by simpa using h1
   refine jj _ hr ?_
   rw[<-hv,<-hpow,show e.toNat=2*(e/2).toNat by omega]
 ·have h:¬0<e:=of_decide_eq_false h
  rw[show e.toNat=0 by omega,Int.pow_zero,Int.mul_one,Int.emod_eq_of_lt hr.1 hr.2]at hv
  exact hv
noncomputable def ked:Con TB.den:= .gp 128 [.st 4,yqu,yqu] [yqu] [] fun(p0:wa) (p1 p2:Int)=>(p0.P=18446744069414584321/\U64 p1/\U64 p2,(pw (p1%18446744069414584321) p2:Int),())
theorem kfy:ked.Ok Tryz.prog TB:=qrv Bs Tryz.func128 .no (k1b.c (k1w.c (kfp.c c0))) (Q:=∀(p0:wa) (p1 p2:Int),(p0.P=18446744069414584321/\U64 p1/\U64 p2)->∀r0:Int,(pw (p1%18446744069414584321) p2)=r0-> 
(p0.P=18446744069414584321)/\((!true)=true->
 0=r0)/\
((!true)=false->
(0<p0.P/\0<=p1)/\(p0.P=18446744069414584321/\(0<=(p1%p0.P)/\(p1%p0.P)<18446744069414584321)/\U64 p2)/\(pw (p1%p0.P) p2)=r0)) (by kernel_rfl)<|by
 rintro p0 p1 p2 h _ rfl
 obtain⟨hP,h1,h2⟩:=h
 refine⟨hP,fun h=>by simp at h,fun _=>⟨by omega,?_⟩⟩
 simp only[hP]
 exact⟨⟨by trivial,by omega,h2⟩,trivial⟩
noncomputable def kac:Con TB.den:= .gp 134 [.st 4,yqu] [yqu] [] fun(p0:wa) (p1:Int)=>(p0.P=18446744069414584321/\U64 p1,(p1%18446744069414584321:Int),())
theorem kb8:kac.Ok Tryz.prog TB:=qrv Bs Tryz.func134 .no (k1b.c (k1w.c c0)) (Q:=∀(p0:wa) (p1:Int),(p0.P=18446744069414584321/\U64 p1)->∀r0:Int,(p1%18446744069414584321)=r0-> 
(p0.P=18446744069414584321)/\((!true)=true->
 0=r0)/\
((!true)=false->
(0<p0.P/\0<=p1)/\(p1%p0.P)=r0)) (by kernel_rfl)<|by
 rintro p0 p1 h _ rfl
 obtain⟨hP,h1⟩:=h
 refine⟨hP,fun h=>by simp at h,fun _=>⟨by omega,?_⟩⟩
 simp only[hP]
noncomputable def k56:Con TB.den:= .gp 129 [yqu,yqi,yqi] [yqu] [] fun(p0 p1 p2:Int)=>(p0=18446744069414584321/\(0<=p1/\p1<8)/\0<=p2/\p2<3,(rc p1 p2:Int),())
theorem k5n:k56.Ok Tryz.prog TB:=qrv Bs Tryz.func129 .no (kb8.c c0) (Q:=∀(p0 p1 p2:Int),(p0=18446744069414584321/\(0<=p1/\p1<8)/\0<=p2/\p2<3)->∀r0:Int,rc p1 p2=r0-> 
(decide (p1<0)=true->
 0=r0)/\
(decide (p1<0)=false->
(decide (8<=p1)=true->
 0=r0)/\
(decide (8<=p1)=false->
(decide (p2<0)=true->
 0=r0)/\
(decide (p2<0)=false->
(decide (2<p2)=true->
 0=r0)/\
(decide (2<p2)=false->
 let v1:Int:=i64.wrap ((i64.wrap (3*p1))+p2)
 let v2:Int:=u64.wrap (i64.wrap (v1+1))
 let v3:Int:=u64.wrap (v2*11400714819323198485)
((wa.mk p0).P=18446744069414584321/\U64 v3)/\(v3%18446744069414584321)=r0))))) (by kernel_rfl)<|by
 rintro p0 p1 p2 h _ rfl
 obtain⟨hP,h1,h2⟩:=h
 refine⟨fun h=> ?_,fun _=>⟨fun h=> ?_,fun _=>⟨fun h=> ?_,fun _=>⟨fun h=> ?_,fun _=> ?_⟩⟩⟩⟩
 ·simp at h;omega
 ·simp at h;omega
 ·simp at h;omega
 ·simp at h;omega
 ·simp only[]
  rw[wi (3*p1) (by omega) (by omega),wi (3*p1+p2) (by omega) (by omega),wi (3*p1+p2+1) (by omega) (by omega),wu (3*p1+p2+1) (by omega) (by omega),u64w]
  exact⟨⟨hP,by omega,by omega⟩,rfl⟩
noncomputable def k89:Con TB.den:= .gp 130 [yqu,.st 5] [.st 5] [] fun(p0:Int) (p1:wc)=>(p0=18446744069414584321/\S3 p1,(mixS p1:wc),())
theorem k90:k89.Ok Tryz.prog TB:=qrv Bs Tryz.func130 .no (k54.c c0) (Q:=∀(p0:Int) (p1:wc),(p0=18446744069414584321/\S3 p1)->∀r0:wc,mixS p1=r0-> 
((wa.mk p0).P=18446744069414584321/\U64 p1.a0/\U64 p1.a1)/\((wa.mk p0).P=18446744069414584321/\U64 ((p1.a0+p1.a1)%18446744069414584321)/\U64 p1.a2)/\let r1:Int:=((((p1.a0+p1.a1)%18446744069414584321)+p1.a2)%18446744069414584321)
((wa.mk p0).P=18446744069414584321/\U64 p1.a0/\U64 r1)/\((wa.mk p0).P=18446744069414584321/\U64 p1.a1/\U64 r1)/\((wa.mk p0).P=18446744069414584321/\U64 p1.a2/\U64 r1)/\((p1.a0+r1)%18446744069414584321)=r0.a0/\((p1.a1+r1)%18446744069414584321)=r0.a1/\((p1.a2+r1)%18446744069414584321)=r0.a2) (by kernel_rfl)<|by
 rintro p0 p1 h _ rfl
 obtain⟨hP,h0,h1,h2⟩:=h
 refine ?_
 simp only[hP]
 exact⟨⟨by trivial,h0,h1⟩,⟨by trivial,by omega,h2⟩,⟨by trivial,h0,by omega⟩,⟨by trivial,h1,by omega⟩,⟨by trivial,h2,by omega⟩,rfl,rfl,rfl⟩
noncomputable def k5o:Con TB.den:= .gp 121 [yqu,.st 5] [.st 5] [] fun(p0:Int) (p1:wc)=>(p0=18446744069414584321/\S3 p1,(permS p1:wc),())
theorem k67:k5o.Ok Tryz.prog TB:=qrv Bs Tryz.func121 (.r 3 (.nd [] (.r 0 (.lp [] ⟨[0],[.cells [zqu,zqu,zqu]],[17],[.one (zqi)],[]⟩ (.r 1 (.nd [] (.r 0 (.nd [] (.r 0 (.lp [] ⟨[0],[.cells [zqu,zqu,zqu]],[20],[.one (zqi)],[]⟩ .no)) [] .no)) [] .no)))) [] .no)) (k1b.c (k9e.c (k5n.c (k54.c (kfy.c (k90.c c0)))))) (Q:=∀(p0:Int) (p1:wc),(p0=18446744069414584321/\S3 p1)->∀r0:wc,permS p1=r0-> 
((wa.mk p0).P=18446744069414584321)/\((!true)=true->
 0=r0.a0/\0=r0.a1/\0=r0.a2)/\
((!true)=false->
((wa.mk p0).P=18446744069414584321)/\∃(I1:Int->Int->Int->Int->Prop) (M1:Int->Int->Int->Int->Nat),I1 0 p1.a0 p1.a1 p1.a2/\∀(b1 f1 i1 k1:Int),(I1 b1 f1 i1 k1->
(decide (b1<8)=true->
 ∃(I2:Int->Int->Int->Int->Prop) (M2:Int->Int->Int->Int->Nat),I2 0 f1 i1 k1/\∀(l1 m1 n1 o1:Int),(I2 l1 m1 n1 o1->
(decide (l1<3)=true->
(0<=l1/\l1<(3:Int))/\(0<=l1/\l1<(3:Int))/\(p0=18446744069414584321/\(0<=b1/\b1<8)/\0<=l1/\l1<3)/\((wa.mk p0).P=18446744069414584321/\U64 (ix [m1,n1,o1] l1)/\U64 (rc b1 l1))/\let r1:Int:=(((ix [m1,n1,o1] l1)+(rc b1 l1))%18446744069414584321)
((wa.mk p0).P=18446744069414584321/\U64 r1/\U64 (7:Int))/\let r2:Int:=(pw (r1%18446744069414584321) (7:Int))
(0<=l1/\l1<(3:Int))/\(0<=l1/\l1<(3:Int))/\I2 (i64.wrap (l1+1)) (bif decide (l1=(0:Int))then r2 else m1) (bif decide (l1=(1:Int))then r2 else n1) (bif decide (l1=(2:Int))then r2 else o1)/\M2 (i64.wrap (l1+1)) (bif decide (l1=(0:Int))then r2 else m1) (bif decide (l1=(1:Int))then r2 else n1) (bif decide (l1=(2:Int))then r2 else o1)<M2 l1 m1 n1 o1)/\
(decide (l1<3)=false->
(p0=18446744069414584321/\S3 (wc.mk m1 n1 o1))/\I1 (i64.wrap (b1+1)) ((mixS (wc.mk m1 n1 o1)).a0) ((mixS (wc.mk m1 n1 o1)).a1) ((mixS (wc.mk m1 n1 o1)).a2)/\M1 (i64.wrap (b1+1)) ((mixS (wc.mk m1 n1 o1)).a0) ((mixS (wc.mk m1 n1 o1)).a1) ((mixS (wc.mk m1 n1 o1)).a2)<M1 b1 f1 i1 k1)))/\
(decide (b1<8)=false->
 f1=r0.a0/\i1=r0.a1/\k1=r0.a2)))) (by kernel_rfl)<|by
 rintro p0 p1 h _ rfl
 obtain⟨hP,hs⟩:=h
 subst hP
 refine⟨rfl,fun h=>by simp at h,fun _=>⟨rfl,?_⟩⟩
 refine⟨(fun n a b c=>0<=n/\n<=8/\(⟨a,b,c⟩:wc)=rnds n.toNat p1/\S3 ⟨a,b,c⟩),(fun n _ _ _=>(8-n).toNat),⟨by omega,by omega,rfl,hs⟩,?_⟩
 rintro n a b c ⟨g0,g1,g2,g3⟩
 refine⟨fun h=> ?_,fun h=> ?_⟩
 ·have h:=of_decide_eq_true h
  refine⟨(fun i x y z=>(i=0/\x=a/\y=b/\z=c)∨(i=1/\x=pw ((a+rc n 0)%18446744069414584321) 7/\y=b/\z=c)∨(i=2/\x=pw ((a+rc n 0)%18446744069414584321) 7/\y=pw ((b+rc n 1)%18446744069414584321) 7/\z=c)∨(i=3/\x=pw ((a+rc n 0)%18446744069414584321) 7/\y=pw ((b+rc n 1)%18446744069414584321) 7/\z=pw ((c+rc n 2)%18446744069414584321) 7)),(fun i _ _ _=>(3-i).toNat),(.inl ⟨rfl,rfl,rfl,rfl⟩),?_⟩
  intro i x y z hi
  have hrc:∀k,U64 (rc n k):=fun k=>by unfold rc;omega
  have hpw:∀k e,0<=pw k e/\pw k e<18446744069414584321:=fun k e=>⟨Int.emod_nonneg _ (by omega),Int.emod_lt_of_pos _ (by omega)⟩
  obtain⟨h3a,h3b,h3c⟩:=g3
  refine⟨fun hh=> ?_,fun hh=> ?_⟩
  ·have hh:=of_decide_eq_true hh
   rcases hi with⟨rfl,rfl,rfl,rfl⟩|⟨rfl,rfl,rfl,rfl⟩|⟨rfl,rfl,rfl,rfl⟩|⟨rfl,_⟩
   ·refine⟨by omega,by omega,⟨rfl,by omega,by omega⟩,⟨rfl,h3a,hrc _⟩,⟨rfl,?_,by omega⟩,by omega,by omega,.inr (.inl ⟨rfl,?_,rfl,rfl⟩),by(dsimp only;decide)⟩
    ·exact⟨Int.emod_nonneg _ (by omega),Int.lt_trans (Int.emod_lt_of_pos _ (by omega)) (by omega)⟩
    ·show pw ((x+rc n 0)%18446744069414584321%18446744069414584321) 7=_
     rw[Int.emod_emod_of_dvd _ (Int.dvd_refl _)]
   ·refine⟨by omega,by omega,⟨rfl,by omega,by omega⟩,⟨rfl,h3b,hrc _⟩,⟨rfl,?_,by omega⟩,by omega,by omega,.inr (.inr (.inl ⟨rfl,rfl,?_,rfl⟩)),by(dsimp only;decide)⟩
    ·exact⟨Int.emod_nonneg _ (by omega),Int.lt_trans (Int.emod_lt_of_pos _ (by omega)) (by omega)⟩
    ·show pw ((y+rc n 1)%18446744069414584321%18446744069414584321) 7=_
     rw[Int.emod_emod_of_dvd _ (Int.dvd_refl _)]
   ·refine⟨by omega,by omega,⟨rfl,by omega,by omega⟩,⟨rfl,h3c,hrc _⟩,⟨rfl,?_,by omega⟩,by omega,by omega,.inr (.inr (.inr ⟨rfl,rfl,rfl,?_⟩)),by(dsimp only;decide)⟩
    ·exact⟨Int.emod_nonneg _ (by omega),Int.lt_trans (Int.emod_lt_of_pos _ (by omega)) (by omega)⟩
    ·show pw ((z+rc n 2)%18446744069414584321%18446744069414584321) 7=_
     rw[Int.emod_emod_of_dvd _ (Int.dvd_refl _)]
   ·omega
  ·have hh:=of_decide_eq_false hh
   rcases hi with⟨rfl,_⟩|⟨rfl,_⟩|⟨rfl,_⟩|⟨rfl,rfl,rfl,rfl⟩
   ·omega
   ·omega
   ·omega
   ·have e:rnds (n+1).toNat p1=rnd ⟨a,b,c⟩ n:=by
     rw[show(n+1).toNat=n.toNat+1 by omega]
     show rnd (rnds n.toNat p1) (n.toNat:Int)=_
     rw[<-g2,show(n.toNat:Int)=n by omega]
    have hS:S3 (rnds (n+1).toNat p1):=by
     rw[e]
     unfold rnd mixS S3
     dsimp only
     omega
    have hinc:i64.wrap (n+1)=n+1:=wi _ (by omega) (by omega)
    rw[hinc]
    refine⟨⟨rfl,by unfold S3;have:=hpw ((a+rc n 0)%18446744069414584321) 7;have:=hpw ((b+rc n 1)%18446744069414584321) 7;have:=hpw ((c+rc n 2)%18446744069414584321) 7;dsimp only;omega⟩,(?_:0<=n+1/\n+1<=8/\_/\_),(?_:(8-(n+1)).toNat<(8-n).toNat)⟩
    ·refine⟨by omega,by omega,e.symm,?_⟩
     rw[e]at hS
     exact hS
    ·omega
 ·have h:=of_decide_eq_false h
  rw[show n=8 by omega]at g2
  have g2:(⟨a,b,c⟩:wc)=permS p1:=g2
  rw[<-g2]
  exact⟨rfl,rfl,rfl⟩
noncomputable def k9b:Con TB.den:= .gp 108 [yqu,yqu,.sl yqu] [.st 5] [] fun(p0 p1:Int) (p2:List Int)=>(p0=18446744069414584321/\U64 p1/\Us p2/\p2.length<=1099511627776,(absS p1 p2:wc),())
theorem ka3:k9b.Ok Tryz.prog TB:=qrv Bs Tryz.func108 (.r 3 (.nd [] (.r 0 (.lp [] ⟨[38],[.cells [zqu,zqu,zqu]],[9],[.one (zqi)],[]⟩ (.r 0 (.nd [] (.r 0 (.jn ⟨[38],[.cells [zqu,zqu,zqu]],[],[],[]⟩ [] .no [] .no)) [] .no)))) [] .no)) (kft.c (k54.c (k67.c c0))) (Q:=∀(p0 p1:Int) (p2:List Int),(p0=18446744069414584321/\U64 p1/\Us p2/\p2.length<=1099511627776)->∀r0:wc,absS p1 p2=r0-> 
((wa.mk p0).P=18446744069414584321/\U64 p1/\U64 (65536:Int))/\let r1:Int:=(p1*(65536:Int)%18446744069414584321)
((wa.mk p0).P=18446744069414584321/\U64 r1/\U64 (u64.wrap (p2.length:Int)))/\let r2:Int:=((r1+(u64.wrap (p2.length:Int)))%18446744069414584321)
(((p2.length:Int)==0)=true->
(p0=18446744069414584321/\S3 (wc.mk 0 0 r2))/\(permS (wc.mk 0 0 r2)).a0=r0.a0/\(permS (wc.mk 0 0 r2)).a1=r0.a1/\(permS (wc.mk 0 0 r2)).a2=r0.a2)/\
(((p2.length:Int)==0)=false->
 ∃(I1:Int->Int->Int->Int->Prop) (M1:Int->Int->Int->Int->Nat),I1 0 0 0 r2/\∀(b1 f1 i1 k1:Int),(I1 b1 f1 i1 k1->
(decide (b1<(p2.length:Int))=true->
(0<=b1)/\b1<(p2.length:Int)/\((wa.mk p0).P=18446744069414584321/\U64 f1/\U64 (ix p2 b1))/\let r3:Int:=((f1+(ix p2 b1))%18446744069414584321)
 ∀J1:Int->Int->Int->Prop,(∀(l1 m1 n1:Int),
((p0=18446744069414584321/\S3 (wc.mk l1 m1 n1))/\I1 (i64.wrap (b1+2)) ((permS (wc.mk l1 m1 n1)).a0) ((permS (wc.mk l1 m1 n1)).a1) ((permS (wc.mk l1 m1 n1)).a2)/\M1 (i64.wrap (b1+2)) ((permS (wc.mk l1 m1 n1)).a0) ((permS (wc.mk l1 m1 n1)).a1) ((permS (wc.mk l1 m1 n1)).a2)<M1 b1 f1 i1 k1)->J1 l1 m1 n1)->
 let v4:Bool:=decide ((i64.wrap (b1+1))<(p2.length:Int))
(v4=true->
(0<=i64.wrap (b1+1))/\i64.wrap (b1+1)<(p2.length:Int)/\((wa.mk p0).P=18446744069414584321/\U64 i1/\U64 (ix p2 (i64.wrap (b1+1))))/\let r5:Int:=((i1+(ix p2 (i64.wrap (b1+1))))%18446744069414584321)
 J1 r3 r5 k1)/\
(v4=false->
 J1 r3 i1 k1))/\
(decide (b1<(p2.length:Int))=false->
 f1=r0.a0/\i1=r0.a1/\k1=r0.a2)))) (by kernel_rfl)<|by
 rintro p0 p1 p2 h _ rfl
 obtain⟨hP,h1,h2,h3⟩:=h
 subst hP
 have hp:∀s:wc,S3 (permS s):=fun s=>by
  show S3 (rnd _ _)
  unfold rnd mixS S3
  dsimp only
  omega
 have hi:S3 (absI p1 p2):=by unfold absI S3;dsimp only;omega
 have e:u64.wrap (p2.length:Int)=p2.length:=wu _ (by omega) (by omega)
 have em:(p1*65536%18446744069414584321+(p2.length:Int))%18446744069414584321=(absI p1 p2).a2:=rfl
 rw[e]
 refine⟨⟨rfl,h1,by omega⟩,⟨rfl,by omega,by omega⟩,fun h=> ?_,fun h=> ?_⟩
 ·have h:p2=[]:=by simpa using h
  refine⟨⟨rfl,?_⟩,?_⟩
  ·exact hi
  ·have:permS ⟨0,0,(p1*65536%18446744069414584321+(p2.length:Int))%18446744069414584321⟩=absS p1 p2:=by unfold absS;rw[if_pos h];rfl
   rw[this]
   exact⟨rfl,rfl,rfl⟩
 ·have h:p2≠[]:=by simpa using h
  have hv:absL p2 (absI p1 p2)=absS p1 p2:=by unfold absS;rw[if_neg h]
  rw[em]
  refine⟨fun i a b c=>0<=i/\i<=p2.length+1/\absL (p2.drop i.toNat) ⟨a,b,c⟩=absS p1 p2/\S3 ⟨a,b,c⟩,fun i _ _ _=>(p2.length+2-i).toNat,⟨by omega,by omega,hv,hi⟩,?_⟩
  rintro i a b c ⟨g0,g1,g2,g3⟩
  obtain⟨h3a,h3b,h3c⟩:=g3
  refine⟨fun hh=> ?_,fun hh=> ?_⟩
  ·have hh:=of_decide_eq_true hh
   have hx:=h2 _ (ix_mem p2 i g0 hh)
   refine⟨g0,hh,⟨rfl,h3a,hx⟩,fun J1 j=> ?_⟩
   rw[wi (i+1) (by omega) (by omega)]
   have fin:∀x y z,S3 ⟨x,y,z⟩->absL (p2.drop (i+2).toNat) (permS ⟨x,y,z⟩)=absS p1 p2->J1 x y z:=by
    intro x y z hS hv'
    refine j _ _ _ ?_
    rw[wi (i+2) (by omega) (by omega)]
    exact⟨⟨rfl,hS⟩,⟨by omega,by omega,hv',hp _⟩,by(dsimp only;omega)⟩
   have hdrop:=drop_ix p2 i g0 hh
   rw[hdrop]at g2
   refine⟨fun h5=> ?_,fun h5=> ?_⟩
   ·have h5:=of_decide_eq_true h5
    have hy:=h2 _ (ix_mem p2 (i+1) (by omega) h5)
    rw[drop_ix p2 (i+1) (by omega) h5,show i+1+1=i+2 by omega]at g2
    exact⟨by omega,h5,⟨rfl,h3b,hy⟩,fin _ _ _ (S3m (by omega) (by omega) h3c) g2⟩
   ·have h5:=of_decide_eq_false h5
    have ed:p2.drop (i+1).toNat=[]:=List.drop_eq_nil_of_le (by omega)
    have ed2:p2.drop (i+2).toNat=[]:=List.drop_eq_nil_of_le (by omega)
    rw[ed]at g2
    exact fin _ _ _ (S3m (by omega) h3b h3c) (by rw[ed2];exact g2)
  ·have hh:=of_decide_eq_false hh
   rw[List.drop_eq_nil_of_le (by omega)]at g2
   have g2:(⟨a,b,c⟩:wc)=absS p1 p2:=g2
   rw[<-g2]
   exact⟨rfl,rfl,rfl⟩
noncomputable def kbx:Con TB.den:= .gp 91 [yqu,yqu,.sl yqu] [yqu] [] fun(p0 p1:Int) (p2:List Int)=>(p0=18446744069414584321/\U64 p1/\Us p2/\p2.length<=1099511627776,(hashS p1 p2:Int),())
theorem kcc:kbx.Ok Tryz.prog TB:=qrv Bs Tryz.func91 .no (k1b.c (ka3.c c0)) (Q:=∀(p0 p1:Int) (p2:List Int),(p0=18446744069414584321/\U64 p1/\Us p2/\p2.length<=1099511627776)->∀r0:Int,hashS p1 p2=r0-> 
((wa.mk p0).P=18446744069414584321)/\((!true)=true->
 0=r0)/\
((!true)=false->
(p0=18446744069414584321/\U64 p1/\Us p2/\p2.length<=1099511627776)/\(absS p1 p2).a0=r0)) (by kernel_rfl)<|by
 rintro p0 p1 p2 h _ rfl
 obtain⟨hP,h1,h2,h3⟩:=h
 subst hP
 exact⟨rfl,fun h=>by simp at h,fun _=>⟨⟨rfl,h1,h2,h3⟩,rfl⟩⟩
noncomputable def kay:Con TB.den:= .gp 92 [.sl yqb] [.sl yqu] [] fun(p0:List Int)=>(By p0/\p0.length<=1099511627776,(packS p0:List Int),())
theorem kc5:kay.Ok Tryz.prog TB:=qrv Bs Tryz.func92 (.r 2 (.nd [] (.r 0 (.lp [.frz 0 [3]] ⟨[1],[.tip yqu],[3,4],[.one (.own 0),.one (zqi)],[]⟩ (.r 0 (.nd [] (.r 1 (.nd [] (.r 0 (.lp [] ⟨[],[],[6,37],[.one (zqu),.one (zqi)],[]⟩ .no)) [] .no)) [] .no)))) [] .no)) c0 (Q:=∀(p0:List Int),(By p0/\p0.length<=1099511627776)->∀r0:List Int,packS p0=r0-> 
 let v1:Int:=i64.wrap ((i64.wrap ((p0.length:Int)+7))-1)
 let v2:Int:=i64.wrap (1+(i64.wrap (Int.tdiv v1 7)))
 0<=(1:Int)/\(1:Int)<=v2/\(v2.toNat*8<=140737488355328)/\(v2.toNat<=maxLen)/\(0<=(0:Int)/\0<(1:Int))/\(0<=(0:Int)/\0<((List.replicate 1 (0:Int)).length:Int))/\(1=((List.replicate 1 (0:Int)).set (0:Int).toNat (u64.wrap (p0.length:Int))).length)/\((List.replicate 1 (0:Int)).set (0:Int).toNat (u64.wrap (p0.length:Int))=(List.replicate 1 (0:Int)).set (0:Int).toNat (u64.wrap (p0.length:Int)))/\∃(I1:Int->(List Int)->Prop) (M1:Int->(List Int)->Nat),I1 0 ((List.replicate 1 (0:Int)).set (0:Int).toNat (u64.wrap (p0.length:Int)))/\∀(b1:Int) (f1:List Int),(I1 b1 f1->
(decide (b1<(p0.length:Int))=true->
 let v3:Int:=(if(p0.length:Int)<i64.wrap (b1+7)then(p0.length:Int)else i64.wrap (b1+7))
(0<=b1)/\b1<=v3/\v3<=(p0.length:Int)/\let v4:Int:=(((p0.take v3.toNat).drop b1.toNat).length:Int)
 ∃(I2:Int->Int->Prop) (M2:Int->Int->Nat),I2 0 0/\∀(i1 k1:Int),(I2 i1 k1->
(decide (k1<v4)=true->
(0<=k1)/\k1<(((p0.take v3.toNat).drop b1.toNat).length:Int)/\let v5:Int:=u64.wrap (ix ((p0.take v3.toNat).drop b1.toNat) k1)
(0<=i64.wrap (8*k1))/\let v6:Int:=ior .u64 i1 (ishl .u64 v5 (i64.wrap (8*k1)))
 I2 v6 (i64.wrap (k1+1))/\M2 v6 (i64.wrap (k1+1))<M2 i1 k1)/\
(decide (k1<v4)=false->
 f1.length=f1.length/\(f1.length+[i1].length)*8<=140737488355328/\f1.length+[i1].length<=maxLen/\(f1++[i1]=f1++[i1])/\I1 (i64.wrap (b1+7)) (f1++[i1])/\M1 (i64.wrap (b1+7)) (f1++[i1])<M1 b1 f1)))/\
(decide (b1<(p0.length:Int))=false->
 f1=r0))) (by kernel_rfl)<|by
 rintro p0 h _ rfl
 obtain⟨hb,hl⟩:=h
 refine ?_
 rw[wi ((p0.length:Int)+7) (by omega) (by omega),wi ((p0.length:Int)+7-1) (by omega) (by omega)]
 try simp only[]
 rw[tdiv_nn _ _ (by omega),wi (((p0.length:Int)+7-1)/7) (by omega) (by omega),wi (1+((p0.length:Int)+7-1)/7) (by omega) (by omega),wu (p0.length:Int) (by omega) (by omega)]
 refine⟨by omega,by omega,by omega,by unfold maxLen;omega,by omega,⟨by omega,by decide⟩,by trivial,by trivial,?_⟩
 refine⟨(fun i g=>0<=i/\i<=p0.length+7/\g++packN p0.length (p0.drop i.toNat)=packS p0/\(g.length:Int)<=1+i),(fun i _=>(p0.length+7-i).toNat),⟨by omega,by omega,rfl,by show(1:Int)<=_;omega⟩,?_⟩
 rintro i g ⟨g0,g1,g2,g3⟩
 refine⟨fun h=> ?_,fun h=> ?_⟩
 ·have h:=of_decide_eq_true h
  have h7:i64.wrap (i+7)=i+7:=wi (i+7) (by omega) (by omega)
  rw[h7]
  have ev:((p0.take (if(p0.length:Int)<i+7 then(p0.length:Int)else i+7).toNat).drop i.toNat)=(p0.drop i.toNat).take 7:=by
   split
   ·rw[Int.toNat_natCast,List.take_length,List.take_of_length_le (by simp;omega)]
   ·rw[List.drop_take,show(i+7).toNat-i.toNat=7 by omega]
  simp only[ev]
  refine⟨g0,by split<;>omega,by split<;>omega,?_⟩
  have hpb:By ((p0.drop i.toNat).take 7):=(hb.drop _).take _
  have hpl:((p0.drop i.toNat).take 7).length<=7:=by simp;omega
  have hnext:g++[val ((p0.drop i.toNat).take 7)]++packN p0.length (p0.drop (i+7).toNat)=packS p0:=by
   rw[<-g2,List.append_assoc]
   congr 1
   have h5:(p0.drop i.toNat).length<=p0.length:=by simp
   have h6:=k4t p0.length (p0.drop i.toNat) h5 (by intro h7;have:=congrArg List.length h7;simp at this;omega)
   rw[h6,List.drop_drop,show i.toNat+7=(i+7).toNat by omega]
   rfl
  generalize (p0.drop i.toNat).take 7=part at *
  refine⟨(fun n k=>0<=k/\k<=part.length/\n=val (part.take k.toNat)),(fun _ k=>(part.length-k).toNat),⟨by omega,by omega,rfl⟩,?_⟩
  rintro n k ⟨k0,k1,rfl⟩
  refine⟨fun hk=> ?_,fun hk=> ?_⟩
  ·have hk:=of_decide_eq_true hk
   have hx:=hpb _ (ix_mem part k k0 hk)
   have hlen:((part.take k.toNat).length:Int)=k:=by rw[List.length_take];omega
   rw[wi (8*k) (by omega) (by omega),wu (ix part k) (by omega) (by omega),wi (k+1) (by omega) (by omega)]
   have:=ior_val (part.take k.toNat) (ix part k) (hpb.take _) (by omega) hx
   rw[hlen]at this
   simp only[this]
   refine⟨k0,hk,by omega,⟨by omega,by omega,?_⟩,by omega⟩
   rw[kb part k k0 hk]
  ·have hk:=of_decide_eq_false hk
   have e1:part.take k.toNat=part:=List.take_of_length_le (by omega)
   rw[e1]
   refine⟨by trivial,by simp only[List.length_cons,List.length_nil];omega,by simp only[List.length_cons,List.length_nil];unfold maxLen;omega,by trivial,(?_:0<=i+7/\i+7<=p0.length+7/\_/\_),(?_:(p0.length+7-(i+7)).toNat<(p0.length+7-i).toNat)⟩
   ·exact⟨by omega,by omega,hnext,by simp only[List.length_append,List.length_cons,List.length_nil];omega⟩
   ·omega
 ·have h:=of_decide_eq_false h
  rw[List.drop_eq_nil_of_le (by omega)]at g2
  have:packN p0.length ([]:List Int)=[]:=by cases p0.length<;>rfl
  rw[this,List.append_nil]at g2
  exact g2
noncomputable def k79:Con TB.den:= .gp 74 [yqu,.sl yqb] [yqu] [] fun(p0:Int) (p1:List Int)=>(U64 p0/\By p1/\p1.length<=1099511627775,(hashB p0 p1:Int),())
theorem k84:k79.Ok Tryz.prog TB:=qrv Bs Tryz.func74 .no (kc5.c (kcc.c c0)) (Q:=∀(p0:Int) (p1:List Int),(U64 p0/\By p1/\p1.length<=1099511627775)->∀r0:Int,hashB p0 p1=r0-> 
(By p1/\p1.length<=1099511627776)/\((18446744069414584321:Int)=18446744069414584321/\U64 p0/\Us (packS p1)/\(packS p1).length<=1099511627776)/\(hashS p0 (packS p1))=r0) (by kernel_rfl)<|by
 rintro p0 p1 h _ rfl
 obtain⟨h1,h2,h3⟩:=h
 refine⟨⟨h2,by omega⟩,⟨rfl,h1,?_,?_⟩,rfl⟩
 ·intro x hx
  rcases List.mem_cons.1 hx with rfl|hx
  ·omega
  ·exact kai _ _ h2 x hx
 ·have:=k3h p1.length p1
  simp only[packS,List.length_cons]
  omega
noncomputable def k86:Con TB.den:= .tp 72 [.st 1] [.bool] [] fun(p0:wC)=>((vAmounts p0:Bool),())
theorem k8h:k86.Ok Tryz.prog TB:=qtv Bs Tryz.func72 .no c0 (Q:=∀(p0:wC),∀r0:Bool,vAmounts p0=r0-> 
(decide (4294967295<p0.wF)=true->
 false=r0)/\
(decide (4294967295<p0.wF)=false->
(decide (4294967295<p0.wG)=true->
 false=r0)/\
(decide (4294967295<p0.wG)=false->
(decide (4294967295<p0.Fee)=true->
 false=r0)/\
(decide (4294967295<p0.Fee)=false->
 let v1:Bool:=decide (18446744069414584321<=p0.wH)
(v1=true->
 false=r0)/\
(v1=false->
(decide (18446744069414584321<=p0.wQ)=true->
 false=r0)/\
(decide (18446744069414584321<=p0.wQ)=false->
(decide (0<p0.wF)=true->
(p0.wG==0)=r0)/\
(decide (0<p0.wF)=false->
(((p0.wD.length:Int)==0)=true->
 false=r0)/\
(((p0.wD.length:Int)==0)=false->
((p0.wQ !=0)=true->
 false=r0)/\
((p0.wQ !=0)=false->
(decide (0<p0.wG)=true->
 true=r0)/\
(decide (0<p0.wG)=false->
(p0.wH==0)=r0)))))))))) (by kernel_rfl)<|by
 rintro p0 _ rfl
 refine ?_
 unfold vAmounts
 try simp only[]
 repeat' (apply And.intro<;>intro h)
 all_goals simp only[decide_eq_true_eq,decide_eq_false_iff_not,beq_iff_eq,bne_iff_ne,Bool.not_eq_true,beq_eq_false_iff_ne,bne_eq_false_iff_eq,List.isEmpty_iff,Int.natCast_eq_zero,List.length_eq_zero_iff]at *
 all_goals simp[*]
 all_goals grind
noncomputable def k96:Con TB.den:= .tp 70 [.sl yqu] [.bool] [] fun(p0:List Int)=>((vMarks p0:Bool),())
theorem k9x:k96.Ok Tryz.prog TB:=qtv Bs Tryz.func70 (.r 1 (.nd [] (.r 0 (.lp [] ⟨[],[],[10],[.one (zqi)],[]⟩ .no)) [] .no)) (k4a.c c0) (Q:=∀(p0:List Int),∀r0:Bool,vMarks p0=r0-> 
(decide (4<(p0.length:Int))=true->
 false=r0)/\
(decide (4<(p0.length:Int))=false->
 ∃(I1:Int->Prop) (M1:Int->Nat),I1 0/\∀(b1:Int),(I1 b1->
(decide (b1<(p0.length:Int))=true->
(0<=b1)/\b1<(p0.length:Int)/\let v1:Bool:=decide (18446744069414584321<=(ix p0 b1))
(v1=true->
 false=r0)/\
(v1=false->
(0<=b1)/\b1<=(p0.length:Int)/\((p0.take b1.toNat).length<=9223372036854775807)/\let r2:Bool:=(decide ((ix p0 b1)∈(p0.take b1.toNat)))
(r2=true->
 false=r0)/\
(r2=false->
 I1 (i64.wrap (b1+1))/\M1 (i64.wrap (b1+1))<M1 b1)))/\
(decide (b1<(p0.length:Int))=false->
 true=r0)))) (by kernel_rfl)<|by
 rintro p0 _ rfl
 refine⟨fun h=> ?_,fun h=> ?_⟩
 ·have h:=of_decide_eq_true h
  unfold vMarks
  rw[decide_eq_false (by omega)]
  rfl
 ·have h:=of_decide_eq_false h
  refine⟨(fun i=>0<=i/\i<=p0.length/\(∀x∈p0.take i.toNat,x<18446744069414584321)/\(p0.take i.toNat).Nodup),(fun i=>(p0.length-i).toNat),⟨by omega,by omega,by simp,by simp⟩,?_⟩
  rintro i ⟨g0,g1,g2,g3⟩
  refine⟨fun hh=> ?_,fun hh=> ?_⟩
  ·have hh:=of_decide_eq_true hh
   have hm:=ix_mem p0 i g0 hh
   refine⟨g0,hh,fun e=> ?_,fun e=>⟨g0,by omega,by simp;omega,fun e2=> ?_,fun e2=> ?_⟩⟩
   ·have e:=of_decide_eq_true e
    unfold vMarks
    have:p0.all (fun x=>decide (x<18446744069414584321))=false:=List.all_eq_false.2 ⟨_,hm,by simp;omega⟩
    rw[this]
    simp
   ·have e2:=of_decide_eq_true e2
    unfold vMarks
    have:¬p0.Nodup:=by
     intro hn
     rw[<-List.take_append_drop i.toNat p0,drop_ix p0 i g0 hh]at hn
     have:=(List.nodup_append.1 hn).2.2 _ e2 _ (List.mem_cons_self ..)
     exact this rfl
    rw[decide_eq_false this]
    simp
   ·have e:=of_decide_eq_false e
    have e2:=of_decide_eq_false e2
    rw[inc i p0.length g0 hh (by omega)]
    refine⟨⟨by omega,by omega,?_,?_⟩,by(dsimp only;omega)⟩
    ·rw[kb p0 i g0 hh]
     intro x hx
     rcases List.mem_append.1 hx with hx|hx
     ·exact g2 x hx
     ·have:x=ix p0 i:=by simpa using hx
      omega
    ·rw[kb p0 i g0 hh]
     refine List.nodup_append.2 ⟨g3,by simp,fun a ha b hb=> ?_⟩
     have:b=ix p0 i:=by simpa using hb
     rintro rfl
     exact e2 (this▸ha)
  ·have hh:=of_decide_eq_false hh
   rw[List.take_of_length_le (by omega)]at g2 g3
   unfold vMarks
   have:p0.all (fun x=>decide (x<18446744069414584321))=true:=by simpa using g2
   rw[this,decide_eq_true g3,decide_eq_true (by omega)]
   rfl
noncomputable def kbl:Con TB.den:= .tp 89 [.st 3] [.bool] [] fun(p0:wy)=>((vPoint p0.a0 p0.a1:Bool),())
theorem kc0:kbl.Ok Tryz.prog TB:=qtv Bs Tryz.func89 .no c0 (Q:=∀(p0:wy),∀r0:Bool,vPoint p0.a0 p0.a1=r0-> 
(decide (p0.a0<18446744069414584321)=true->
(decide (p0.a1<18446744069414584321)=true->
((p0.a0 !=0)=true->
 true=r0)/\
((p0.a0 !=0)=false->
(p0.a1 !=0)=r0))/\
(decide (p0.a1<18446744069414584321)=false->
 false=r0))/\
(decide (p0.a0<18446744069414584321)=false->
 false=r0)) (by kernel_rfl)<|by
 rintro p0 _ rfl
 refine ?_
 unfold vPoint
 refine⟨fun h=>⟨fun h1=>⟨fun h2=> ?_,fun h2=> ?_⟩,fun h1=> ?_⟩,fun h=> ?_⟩<;>simp_all<;>omega
noncomputable def kaa:Con TB.den:= .tp 71 [.sl (.st 0)] [.bool] [] fun(p0:List wg)=>((vOuts p0:Bool),())
theorem kbj:kaa.Ok Tryz.prog TB:=qtv Bs Tryz.func71 (.r 1 (.nd [] (.r 0 (.lp [] ⟨[],[],[12],[.one (zqi)],[]⟩ (.r 1 (.nd [] (.r 2 (.lp [] ⟨[],[],[34],[.one (zqi)],[]⟩ .no)) [] .no)))) [] .no)) (kc0.c c0) (Q:=∀(p0:List wg),∀r0:Bool,vOuts p0=r0-> 
(decide (4<(p0.length:Int))=true->
 false=r0)/\
(decide (4<(p0.length:Int))=false->
 ∃(I1:Int->Prop) (M1:Int->Nat),I1 0/\∀(b1:Int),(I1 b1->
(decide (b1<(p0.length:Int))=true->
(0<=b1)/\b1<(p0.length:Int)/\let v1:Bool:=decide (18446744069414584321<=((ix p0 b1).wn))
(v1=true->
 false=r0)/\
(v1=false->
 let r2:Bool:=(vPoint (wy.mk ((ix p0 b1).wW) ((ix p0 b1).wS)).a0 (wy.mk ((ix p0 b1).wW) ((ix p0 b1).wS)).a1)
((!r2)=true->
 false=r0)/\
((!r2)=false->
 let v3:Bool:=((((ix p0 b1).wE).length:Int) !=3)
(v3=true->
 false=r0)/\
(v3=false->
 ∃(I2:Int->Prop) (M2:Int->Nat),I2 0/\∀(f1:Int),(I2 f1->
 let v4:Bool:=decide (f1<(((ix p0 b1).wE).length:Int))
(v4=true->
(0<=f1)/\f1<(((ix p0 b1).wE).length:Int)/\let v5:Bool:=decide (18446744069414584321<=(ix ((ix p0 b1).wE) f1))
(v5=true->
 false=r0)/\
(v5=false->
 I2 (i64.wrap (f1+1))/\M2 (i64.wrap (f1+1))<M2 f1))/\
(v4=false->
 I1 (i64.wrap (b1+1))/\M1 (i64.wrap (b1+1))<M1 b1))))))/\
(decide (b1<(p0.length:Int))=false->
 true=r0)))) (by kernel_rfl)<|by
 rintro p0 _ rfl
 refine⟨fun h=> ?_,fun h=> ?_⟩
 ·have h:=of_decide_eq_true h
  unfold vOuts
  rw[decide_eq_false (by omega)]
  rfl
 ·have h:=of_decide_eq_false h
  have bad:∀i,0<=i->i<(p0.length:Int)->vOut (ix p0 i)=false->false=vOuts p0:=by
   intro i h0 h1 hb
   unfold vOuts
   have:p0.all vOut=false:=List.all_eq_false.2 ⟨_,ix_mem p0 i h0 h1,by simp[hb]⟩
   rw[this]
   simp
  refine⟨(fun i=>0<=i/\i<=p0.length/\∀x∈p0.take i.toNat,vOut x=true),(fun i=>(p0.length-i).toNat),⟨by omega,by omega,by simp⟩,?_⟩
  rintro i ⟨g0,g1,g2⟩
  refine⟨fun hh=> ?_,fun hh=> ?_⟩
  ·have hh:=of_decide_eq_true hh
   have bd:=bad i g0 hh
   unfold vOut at bd
   refine⟨g0,hh,fun e=>bd ?_,fun e=>⟨fun e2=>bd ?_,fun e2=>⟨fun e3=>bd ?_,fun e3=> ?_⟩⟩⟩
   ·have e:=of_decide_eq_true e
    rw[decide_eq_false (by omega)]
    rfl
   ·have e2:vPoint (ix p0 i).wW (ix p0 i).wS=false:=by simpa using e2
    simp[e2]
   ·have e3:¬(ix p0 i).wE.length=3:=by
     have:¬((ix p0 i).wE.length:Int)=3:=by simpa using e3
     omega
    simp[e3]
   ·have e:=of_decide_eq_false e
    have e2:vPoint (ix p0 i).wW (ix p0 i).wS=true:=by simpa using e2
    have e3:(ix p0 i).wE.length=3:=by
     have:((ix p0 i).wE.length:Int)=3:=by simpa using e3
     omega
    refine⟨(fun k=>0<=k/\k<=3/\∀x∈(ix p0 i).wE.take k.toNat,x<18446744069414584321),(fun k=>(3-k).toNat),⟨by omega,by omega,by simp⟩,?_⟩
    rintro k ⟨k0,k1,k2⟩
    refine⟨fun hk=> ?_,fun hk=> ?_⟩
    ·have hk:=of_decide_eq_true hk
     refine⟨k0,hk,fun e4=>bd ?_,fun e4=> ?_⟩
     ·have e4:=of_decide_eq_true e4
      have:(ix p0 i).wE.all (fun n=>decide (n<18446744069414584321))=false:=List.all_eq_false.2 ⟨_,ix_mem _ k k0 hk,by simp;omega⟩
      rw[this]
      simp
     ·have e4:=of_decide_eq_false e4
      rw[inc k 3 k0 (by omega) (by omega)]
      refine⟨⟨by omega,by omega,?_⟩,by(dsimp only;omega)⟩
      rw[kb _ k k0 hk]
      intro x hx
      rcases List.mem_append.1 hx with hx|hx
      ·exact k2 x hx
      ·have:x=ix (ix p0 i).wE k:=by simpa using hx
       omega
    ·have hk:=of_decide_eq_false hk
     rw[List.take_of_length_le (by omega)]at k2
     have hv:vOut (ix p0 i)=true:=(k7l _).2 ⟨by omega,e2,e3,k2⟩
     have hi:=inc i p0.length g0 hh (by omega)
     rw[hi]
     have nxt:(0<=i+1/\i+1<=p0.length/\∀x∈p0.take (i+1).toNat,vOut x=true)/\(p0.length-(i+1)).toNat<(p0.length-i).toNat:=by
      refine⟨⟨by omega,by omega,?_⟩,by omega⟩
      rw[kb p0 i g0 hh]
      intro x hx
      rcases List.mem_append.1 hx with hx|hx
      ·exact g2 x hx
      ·have:x=ix p0 i:=by simpa using hx
       rw[this];exact hv
     exact nxt
  ·have hh:=of_decide_eq_false hh
   rw[List.take_of_length_le (by omega)]at g2
   unfold vOuts
   have:p0.all vOut=true:=by simpa using g2
   rw[this,decide_eq_true (by omega)]
   rfl
noncomputable def kgb:Con TB.den:= .tp 51 [.st 1] [yqi] [] fun(p0:wC)=>((validE p0:Int),())
theorem k9q:kgb.Ok Tryz.prog TB:=qtv Bs Tryz.func51 .no (k9x.c (kbj.c (k8h.c c0))) (Q:=∀(p0:wC),∀r0:Int,validE p0=r0-> 
((!(vMarks p0.wD))=true->
 1=r0)/\
((!(vMarks p0.wD))=false->
((!(vOuts p0.wB))=true->
 1=r0)/\
((!(vOuts p0.wB))=false->
((!(vAmounts p0))=true->
 1=r0)/\
((!(vAmounts p0))=false->
 let v1:Bool:=decide (18446744069414584321<=p0.wY)
(v1=true->
 1=r0)/\
(v1=false->
(decide (p0.wK<0)=true->
 1=r0)/\
(decide (p0.wK<0)=false->
(decide (1048576<p0.wK)=true->
 1=r0)/\
(decide (1048576<p0.wK)=false->
 let v2:Bool:=decide (1048576<(p0.wR.length:Int))
(v2=true->
 3=r0)/\
(v2=false->
 0=r0)))))))) (by kernel_rfl)<|by
 rintro p0 _ rfl
 refine ?_
 unfold validE vRest
 grind
noncomputable def k6k:Con TB.den:= .g ⟨116,[.one (.own 0),.one (zqu),.one (zqi)],[.tip yqb],(.one (.one (.own 0))),[.tip yqb],false⟩ [yqu,yqi,.sl yqb] [.sl yqb] [] fun(p1 p2:Int) (w0:List Int)=>(U64 p1/\(0<=p2/\p2<=8)/\w0.length<=137438953472,(w0++dig p2.toNat p1:List Int),())
theorem k1v:k6k.Ok Tryz.prog TB:=prv Bs Tryz.func116 (.r 0 (.nd [] (.r 0 (.lp [] ⟨[0],[.tip yqb],[0,1,8],[.one (.own 0),.one (zqu),.one (zqi)],[]⟩ .no)) [] .no)) c0 (Q:=∀(p1 p2:Int) (w0:List Int),(U64 p1/\(0<=p2/\p2<=8)/\w0.length<=137438953472)->∀e0:List Int,(w0++dig p2.toNat p1)=e0-> 
(w0=w0)/\∃(I1:Int->Int->(List Int)->Prop) (M1:Int->Int->(List Int)->Nat),I1 p1 0 w0/\∀(b1 f1:Int) (i1:List Int),(I1 b1 f1 i1->
(decide (f1<p2)=true->
 i1.length=i1.length/\(i1.length+[IntKind.u8.wrap b1].length)*1<=140737488355328/\i1.length+[IntKind.u8.wrap b1].length<=maxLen/\(i1++[IntKind.u8.wrap b1]=i1++[IntKind.u8.wrap b1])/\I1 (ishr .u64 b1 8) (i64.wrap (f1+1)) (i1++[IntKind.u8.wrap b1])/\M1 (ishr .u64 b1 8) (i64.wrap (f1+1)) (i1++[IntKind.u8.wrap b1])<M1 b1 f1 i1)/\
(decide (f1<p2)=false->
(i1=i1)/\i1=e0))) (by kernel_rfl)<|by
 rintro p1 p2 w0 h _ rfl
 obtain⟨h1,h2,h3⟩:=h
 refine⟨rfl,⟨(fun n i g=>0<=i/\i<=p2/\U64 n/\n=p1/256^i.toNat/\g=w0++dig i.toNat p1),(fun _ i _=>(p2-i).toNat),⟨by omega,by omega,h1,by simp,by simp[dig]⟩,?_⟩⟩
 rintro n i g ⟨g0,g1,g2,g3,rfl⟩
 refine⟨fun h=> ?_,fun h=> ?_⟩
 ·have h:=of_decide_eq_true h
  rw[inc i p2 g0 h (by omega),ishr8,u8w]
  refine⟨rfl,?_,?_,rfl,⟨by omega,by omega,⟨by omega,by omega⟩,?_,?_⟩,by(dsimp only;omega)⟩
  ·simp;omega
  ·simp;unfold maxLen;omega
  ·rw[g3,show(i+1).toNat=i.toNat+1 by omega,Int.ediv_ediv_of_nonneg (Int.le_of_lt (k2s _)),Int.pow_succ]
  ·rw[show(i+1).toNat=i.toNat+1 by omega,k6y,List.append_assoc,g3]
 ·have h:=of_decide_eq_false h
  exact⟨rfl,by rw[show i=p2 by omega]⟩
noncomputable def k6n:Con TB.den:= .g ⟨118,[.one (.own 0),.one (zqi)],[.tip yqb],(.one (.one (.own 0))),[.tip yqb],false⟩ [yqi,.sl yqb] [.sl yqb] [] fun(p1:Int) (w0:List Int)=>((-9223372036854775808<=p1/\p1<=9223372036854775807)/\w0.length<=137438953472,(w0++dig 4 (len4 p1):List Int),())
theorem k1x:k6n.Ok Tryz.prog TB:=prv Bs Tryz.func118 (.r 0 (.jn ⟨[],[],[1],[.one (zqi)],[]⟩ [] .no [] .no)) (k1v.c c0) (Q:=∀(p1:Int) (w0:List Int),((-9223372036854775808<=p1/\p1<=9223372036854775807)/\w0.length<=137438953472)->∀e0:List Int,(w0++dig 4 (len4 p1))=e0-> 
 ∀J1:Int->Prop,(∀(b1:Int),
((w0=w0)/\(U64 (u64.wrap b1)/\(0<=(4:Int)/\(4:Int)<=8)/\w0.length<=137438953472)/\let r1:List Int:=(w0++dig (4:Int).toNat (u64.wrap b1))
(r1=r1)/\r1=e0)->J1 b1)->
(decide (p1<0)=true->
 J1 0)/\
(decide (p1<0)=false->
(decide (4294967295<p1)=true->
 J1 0)/\
(decide (4294967295<p1)=false->
 J1 p1))) (by kernel_rfl)<|by
 rintro p1 w0 h _ rfl
 obtain⟨h1,h2⟩:=h
 intro J1 j1
 have j:∀n,0<=n->n<=4294967295->len4 p1=n->J1 n:=by
  intro n h0 h1 e
  refine j1 _ ?_
  rw[wu n (by omega) (by omega),e]
  exact⟨rfl,⟨⟨h0,by omega⟩,by omega,h2⟩,by trivial,rfl⟩
 refine⟨fun h=>j 0 (by omega) (by omega) ?_,fun h=>⟨fun h' =>j 0 (by omega) (by omega) ?_,fun h' =>j p1 ?_ ?_ ?_⟩⟩
 ·have h:=of_decide_eq_true h;exact if_pos (.inl h)
 ·have h' :=of_decide_eq_true h';exact if_pos (.inr h')
 ·have h:=of_decide_eq_false h;omega
 ·have h' :=of_decide_eq_false h';omega
 ·have h:=of_decide_eq_false h;have h' :=of_decide_eq_false h';exact len4_in ⟨by omega,by omega⟩
noncomputable def kbp:Con TB.den:= .g ⟨117,[.one (.d (.sl yqb)),.one (zqi)],[],(.one (.one (.own 0))),[.tip yqb],false⟩ [.sl yqb,yqi] [.sl yqb] [] fun(p0:List Int) (p1:Int)=>(0<=p1/\p0.length+p1<=140737488355328,p0,())
theorem k2n:kbp.Ok Tryz.prog TB:=prv Bs Tryz.func117 (.r 3 (.rt [.frz 0 [4]])) c0 (Q:=∀(p0:List Int) (p1:Int),(0<=p1/\p0.length+p1<=140737488355328)->∀e0:List Int,p0=e0-> 
 let v1:Int:=i64.wrap ((p0.length:Int)+p1)
 0<=(p0.length:Int)/\(p0.length:Int)<=v1/\(v1.toNat*1<=140737488355328)/\(v1.toNat<=maxLen)/\(p0.length:Int).toNat=(List.replicate ((p0.length:Int).toNat) (0:Int)).length/\let v2:Int:=((min p0.length (List.replicate ((p0.length:Int).toNat) (0:Int)).length:Nat):Int)
((p0.length:Int).toNat=(rowOver (List.replicate ((p0.length:Int).toNat) (0:Int)) p0 (List.replicate ((p0.length:Int).toNat) (0:Int)).length).length)/\(rowOver (List.replicate ((p0.length:Int).toNat) (0:Int)) p0 (List.replicate ((p0.length:Int).toNat) (0:Int)).length=rowOver (List.replicate ((p0.length:Int).toNat) (0:Int)) p0 (List.replicate ((p0.length:Int).toNat) (0:Int)).length)/\rowOver (List.replicate ((p0.length:Int).toNat) (0:Int)) p0 (List.replicate ((p0.length:Int).toNat) (0:Int)).length=e0) (by kernel_rfl)<|by
 rintro p0 p1 h _ rfl
 obtain⟨h1,h2⟩:=h
 refine ?_
 rw[wi _ (by omega) (by omega)]
 have e:rowOver (List.replicate ((p0.length:Int).toNat) (0:Int)) p0 (List.replicate ((p0.length:Int).toNat) (0:Int)).length=p0:=khg _ _ (by simp)
 simp only[e]
 exact⟨by omega,by omega,by omega,by unfold maxLen;omega,by simp,by omega,by trivial,by trivial⟩
noncomputable def kbz:Con TB.den:= .gp 106 [.sl yqb,.sl yqb] [.sl yqb] [] fun(p0 p1:List Int)=>(p0.length<=68719476736/\p1.length<=4294967295,(p0++encB p1:List Int),())
theorem ke3:kbz.Ok Tryz.prog TB:=qrv Bs Tryz.func106 .no (k2n.c (k1x.c c0)) (Q:=∀(p0 p1:List Int),(p0.length<=68719476736/\p1.length<=4294967295)->∀r0:List Int,(p0++encB p1)=r0-> 
(0<=(i64.wrap (4+(p1.length:Int)))/\p0.length+(i64.wrap (4+(p1.length:Int)))<=140737488355328)/\(p0=p0)/\((-9223372036854775808<=(p1.length:Int)/\(p1.length:Int)<=9223372036854775807)/\p0.length<=137438953472)/\(p0++dig 4 (len4 (p1.length:Int))).length=(p0++dig 4 (len4 (p1.length:Int))).length/\((p0++dig 4 (len4 (p1.length:Int))).length+p1.length)*1<=140737488355328/\(p0++dig 4 (len4 (p1.length:Int))).length+p1.length<=maxLen/\let v1:List Int:=(p0++dig 4 (len4 (p1.length:Int)))++p1
 v1=r0) (by kernel_rfl)<|by
 rintro p0 p1 h _ rfl
 obtain⟨h1,h2⟩:=h
 refine ?_
 rw[wi (4+(p1.length:Int)) (by omega) (by omega)]
 refine⟨⟨by omega,by omega⟩,by trivial,⟨by omega,by omega⟩,by trivial,?_,?_,?_⟩
 ·simp;omega
 ·simp;unfold maxLen;omega
 ·rw[List.append_assoc];rfl
noncomputable def kff:Con TB.den:= .gp 105 [.sl yqb,yqi] [.sl yqb] [] fun(p0:List Int) (p1:Int)=>((-9223372036854775808<=p1/\p1<=9223372036854775807)/\p0.length<=137438953472,(p0++dig 4 (len4 p1):List Int),())
theorem khj:kff.Ok Tryz.prog TB:=qrv Bs Tryz.func105 .no (k2n.c (k1x.c c0)) (Q:=∀(p0:List Int) (p1:Int),((-9223372036854775808<=p1/\p1<=9223372036854775807)/\p0.length<=137438953472)->∀r0:List Int,(p0++dig 4 (len4 p1))=r0-> 
(0<=(4:Int)/\p0.length+(4:Int)<=140737488355328)/\(p0=p0)/\((-9223372036854775808<=p1/\p1<=9223372036854775807)/\p0.length<=137438953472)/\(p0++dig 4 (len4 p1))=r0) (by kernel_rfl)<|by
 rintro p0 p1 h _ rfl
 obtain⟨h1,h2⟩:=h
 exact⟨⟨by omega,by omega⟩,by trivial,⟨h1,h2⟩,rfl⟩
noncomputable def kec:Con TB.den:= .gp 104 [.sl yqb,.sl yqu] [.sl yqb] [] fun(p0 p1:List Int)=>(Us p1/\p0.length<=68719476736/\p1.length<=4294967295,(p0++encL p1:List Int),())
theorem kg9:kec.Ok Tryz.prog TB:=qrv Bs Tryz.func104 (.r 1 (.nd [] (.r 0 (.lp [] ⟨[0],[.tip yqb],[5,19],[.one (.own 0),.one (zqi)],[]⟩ .no)) [] .no)) (k2n.c (k1x.c (k1v.c c0))) (Q:=∀(p0 p1:List Int),(Us p1/\p0.length<=68719476736/\p1.length<=4294967295)->∀r0:List Int,(p0++encL p1)=r0-> 
 let v1:Int:=i64.wrap (4+(i64.wrap (8*(p1.length:Int))))
(0<=v1/\p0.length+v1<=140737488355328)/\(p0=p0)/\((-9223372036854775808<=(p1.length:Int)/\(p1.length:Int)<=9223372036854775807)/\p0.length<=137438953472)/\((p0++dig 4 (len4 (p1.length:Int)))=(p0++dig 4 (len4 (p1.length:Int))))/\∃(I1:Int->(List Int)->Prop) (M1:Int->(List Int)->Nat),I1 0 (p0++dig 4 (len4 (p1.length:Int)))/\∀(b1:Int) (f1:List Int),(I1 b1 f1->
(decide (b1<(p1.length:Int))=true->
(0<=b1)/\b1<(p1.length:Int)/\(f1=f1)/\(U64 (ix p1 b1)/\(0<=(8:Int)/\(8:Int)<=8)/\f1.length<=137438953472)/\((f1++dig (8:Int).toNat (ix p1 b1))=(f1++dig (8:Int).toNat (ix p1 b1)))/\I1 (i64.wrap (b1+1)) (f1++dig (8:Int).toNat (ix p1 b1))/\M1 (i64.wrap (b1+1)) (f1++dig (8:Int).toNat (ix p1 b1))<M1 b1 f1)/\
(decide (b1<(p1.length:Int))=false->
 f1=r0))) (by kernel_rfl)<|by
 rintro p0 p1 h _ rfl
 obtain⟨h1,h2,h3⟩:=h
 refine ?_
 rw[wi (8*(p1.length:Int)) (by omega) (by omega),wi (4+8*(p1.length:Int)) (by omega) (by omega)]
 refine⟨⟨by omega,by omega⟩,by trivial,⟨by omega,by omega⟩,by trivial,?_⟩
 refine⟨(fun i g=>0<=i/\i<=p1.length/\g=p0++dig 4 (len4 p1.length)++(p1.take i.toNat).flatMap (dig 8)),(fun i _=>(p1.length-i).toNat),⟨by omega,by omega,by simp⟩,?_⟩
 rintro i g ⟨g0,g1,rfl⟩
 refine⟨fun h=> ?_,fun h=> ?_⟩
 ·have h:=of_decide_eq_true h
  have hx:=h1 _ (ix_mem p1 i g0 h)
  rw[inc i p1.length g0 h (by omega)]
  refine⟨g0,h,by trivial,⟨hx,by omega,?_⟩,by trivial,⟨by omega,by omega,?_⟩,by(dsimp only;omega)⟩
  ·simp only[List.length_append,ke,k2f,List.length_take];omega
  ·rw[kb p1 i g0 h,List.flatMap_append,List.append_assoc]
   simp
 ·have h:=of_decide_eq_false h
  rw[List.take_of_length_le (by omega),List.append_assoc]
  rfl
noncomputable def kef:Con TB.den:= .gp 103 [.sl yqb,yqu] [.sl yqb] [] fun(p0:List Int) (p1:Int)=>(U64 p1/\p0.length<=137438953472,(p0++dig 8 p1:List Int),())
theorem kgw:kef.Ok Tryz.prog TB:=qrv Bs Tryz.func103 .no (k2n.c (k1v.c c0)) (Q:=∀(p0:List Int) (p1:Int),(U64 p1/\p0.length<=137438953472)->∀r0:List Int,(p0++dig 8 p1)=r0-> 
(0<=(8:Int)/\p0.length+(8:Int)<=140737488355328)/\(p0=p0)/\(U64 p1/\(0<=(8:Int)/\(8:Int)<=8)/\p0.length<=137438953472)/\(p0++dig (8:Int).toNat p1)=r0) (by kernel_rfl)<|by
 rintro p0 p1 h _ rfl
 obtain⟨h1,h2⟩:=h
 refine⟨⟨by omega,by omega⟩,by trivial,⟨h1,by omega,h2⟩,rfl⟩
noncomputable def kdx:Con TB.den:= .gp 90 [.st 1,.sl yqb] [.sl yqb] [] fun(p0:wC) (p1:List Int)=>(TR p0/\TL p0/\p0.wB.length<=1048576/\(∀x∈p0.wB,x.wE.length<=1024)/\p1.length<=4294967295,(encT p0 p1:List Int),())
theorem kgg:kdx.Ok Tryz.prog TB:=qrv Bs Tryz.func90 (.r 3 (.nd [] (.r 0 (.lp [] ⟨[],[],[5,23],[.one (.d (.sl yqb)),.one (zqi)],[]⟩ .no)) [] .no)) (kgw.c (kg9.c (khj.c (ke3.c c0)))) (Q:=∀(p0:wC) (p1:List Int),(TR p0/\TL p0/\p0.wB.length<=1048576/\(∀x∈p0.wB,x.wE.length<=1024)/\p1.length<=4294967295)->∀r0:List Int,encT p0 p1=r0-> 
(U64 p0.wY/\([]:List Int).length<=137438953472)/\(Us p0.wD/\(([]:List Int)++dig 8 p0.wY).length<=68719476736/\p0.wD.length<=4294967295)/\let r1:List Int:=((([]:List Int)++dig 8 p0.wY)++encL p0.wD)
((-9223372036854775808<=(p0.wB.length:Int)/\(p0.wB.length:Int)<=9223372036854775807)/\r1.length<=137438953472)/\let r2:List Int:=(r1++dig 4 (len4 (p0.wB.length:Int)))
 ∃(I1:(List Int)->Int->Prop) (M1:(List Int)->Int->Nat),I1 r2 0/\∀(b1:List Int) (f1:Int),(I1 b1 f1->
(decide (f1<(p0.wB.length:Int))=true->
(0<=f1)/\f1<(p0.wB.length:Int)/\(U64 ((ix p0.wB f1).wn)/\b1.length<=137438953472)/\(U64 ((ix p0.wB f1).wW)/\(b1++dig 8 ((ix p0.wB f1).wn)).length<=137438953472)/\let r3:List Int:=((b1++dig 8 ((ix p0.wB f1).wn))++dig 8 ((ix p0.wB f1).wW))
(U64 ((ix p0.wB f1).wS)/\r3.length<=137438953472)/\(Us ((ix p0.wB f1).wE)/\(r3++dig 8 ((ix p0.wB f1).wS)).length<=68719476736/\((ix p0.wB f1).wE).length<=4294967295)/\let r4:List Int:=((r3++dig 8 ((ix p0.wB f1).wS))++encL ((ix p0.wB f1).wE))
 I1 r4 (i64.wrap (f1+1))/\M1 r4 (i64.wrap (f1+1))<M1 b1 f1)/\
(decide (f1<(p0.wB.length:Int))=false->
(U64 p0.wF/\b1.length<=137438953472)/\(U64 p0.wG/\(b1++dig 8 p0.wF).length<=137438953472)/\let r5:List Int:=((b1++dig 8 p0.wF)++dig 8 p0.wG)
(U64 p0.Fee/\r5.length<=137438953472)/\(U64 p0.wH/\(r5++dig 8 p0.Fee).length<=137438953472)/\let r6:List Int:=((r5++dig 8 p0.Fee)++dig 8 p0.wH)
(U64 p0.wQ/\r6.length<=137438953472)/\((-9223372036854775808<=p0.wK/\p0.wK<=9223372036854775807)/\(r6++dig 8 p0.wQ).length<=137438953472)/\let r7:List Int:=((r6++dig 8 p0.wQ)++dig 4 (len4 p0.wK))
(r7.length<=68719476736/\p1.length<=4294967295)/\(r7++encB p1)=r0))) (by kernel_rfl)<|by
 rintro p0 p1 h _ rfl
 obtain⟨hr,hl,ho,hc,hp⟩:=h
 have hm:=hl.m
 have hol:=k1n
 refine⟨⟨hr.a,by simp⟩,⟨hr.m,by simp,hm⟩,⟨by omega,by simp;omega⟩,?_⟩
 refine⟨(fun b i=>0<=i/\i<=p0.wB.length/\b=dig 8 p0.wY++encL p0.wD++dig 4 (len4 p0.wB.length)++(p0.wB.take i.toNat).flatMap encO),(fun _ i=>(p0.wB.length-i).toNat),⟨by omega,by omega,by simp⟩,?_⟩
 rintro b i ⟨g0,g1,rfl⟩
 have hb:=k1n (p0.wB.take i.toNat) 1024 (fun x hx=>hc x (List.mem_of_mem_take hx))
 rw[List.length_take]at hb
 have hb:((p0.wB.take i.toNat).flatMap encO).length<=8700000000:=by
  refine Nat.le_trans hb ?_
  have:min i.toNat p0.wB.length<=1048576:=by omega
  have:=Nat.mul_le_mul_left (28+8*1024) this
  omega
 refine⟨fun h=> ?_,fun h=> ?_⟩
 ·have h:=of_decide_eq_true h
  have hx:=hr.o _ (ix_mem p0.wB i g0 h)
  have hxc:=hc _ (ix_mem p0.wB i g0 h)
  rw[inc i p0.wB.length g0 h (by omega)]
  refine⟨g0,h,⟨hx.c,?_⟩,⟨hx.p0,?_⟩,⟨hx.p1,?_⟩,⟨hx.ci,?_,by omega⟩,⟨by omega,by omega,?_⟩,by(dsimp only;omega)⟩
  ·simp only[List.length_append,ke,kr];omega
  ·simp only[List.length_append,ke,kr];omega
  ·simp only[List.length_append,ke,kr];omega
  ·simp only[List.length_append,ke,kr];omega
  ·rw[kb p0.wB i g0 h,List.flatMap_append]
   simp[encO,List.append_assoc]
 ·have h:=of_decide_eq_false h
  rw[List.take_of_length_le (by omega)]at hb ⊢
  refine⟨⟨hr.d,?_⟩,⟨hr.w,?_⟩,⟨hr.f,?_⟩,⟨hr.ac,?_⟩,⟨hr.n,?_⟩,⟨hr.e,?_⟩,⟨?_,hp⟩,rfl⟩<;>simp only[List.length_append,ke,kr]<;>omega
noncomputable def kds:Con TB.den:= .gp 73 [.st 1] [.sl yqb,yqi] [] fun(p0:wC)=>(TR p0,((if validE p0=0 then encT p0 p0.wR else []):List Int),(validE p0:Int),())
theorem k8p:kds.Ok Tryz.prog TB:=qrv Bs Tryz.func73 .no (k9q.c (kgg.c c0)) (Q:=∀(p0:wC),(TR p0)->∀r0:List Int,((if validE p0=0 then encT p0 p0.wR else []):List Int)=r0->∀r1:Int,validE p0=r1-> 
(((validE p0) !=0)=true->
([]:List Int)=r0/\(validE p0)=r1)/\
(((validE p0) !=0)=false->
(TR p0/\TL p0/\p0.wB.length<=1048576/\(∀x∈p0.wB,x.wE.length<=1024)/\p0.wR.length<=4294967295)/\(encT p0 p0.wR)=r0/\0=r1)) (by kernel_rfl)<|by
 rintro p0 h _ rfl _ rfl
 refine⟨fun e=> ?_,fun e=> ?_⟩
 ·have e:validE p0≠0:=by simpa using e
  rw[if_neg e]
  exact⟨rfl,rfl⟩
 ·have e:validE p0=0:=by simpa using e
  have v:=(k46 p0).1 e
  rw[if_pos e,e]
  exact⟨⟨h,v.tl,by have:=v.ol;omega,fun x hx=>by have:=(v.o x hx).l;omega,v.tl.p⟩,rfl,rfl⟩
noncomputable def kjf:Con TB.den:= .gp 52 [.st 1] [yqu] [] fun(p0:wC)=>(TR p0,(idS p0:Int),())
theorem kl5:kjf.Ok Tryz.prog TB:=qrv Bs Tryz.func52 .no (k8p.c (k84.c c0)) (Q:=∀(p0:wC),(TR p0)->∀r0:Int,idS p0=r0-> 
(TR p0)/\let r1:List Int:=(if validE p0=0 then encT p0 p0.wR else [])
(((validE p0) !=0)=true->
 0=r0)/\
(((validE p0) !=0)=false->
(U64 (14:Int)/\By r1/\r1.length<=1099511627775)/\(hashB (14:Int) r1)=r0)) (by kernel_rfl)<|by
 rintro p0 h _ rfl
 refine⟨h,?_⟩
 unfold idS
 refine⟨fun e=> ?_,fun e=> ?_⟩
 ·have e:validE p0≠0:=by simpa using e
  rw[if_neg e]
 ·have e:validE p0=0:=by simpa using e
  have v:=(k46 p0).1 e
  rw[if_pos e,if_pos e]
  exact⟨⟨by omega,encT_by h.p,by have:=v.enc_len p0.wR;have:=v.pl;omega⟩,rfl⟩
noncomputable def ke6:Con TB.den:= .gp 53 [.st 1] [yqi] [] fun(p0:wC)=>(TR p0,(weightS p0:Int),())
theorem kfd:ke6.Ok Tryz.prog TB:=qrv Bs Tryz.func53 .no (k8p.c c0) (Q:=∀(p0:wC),(TR p0)->∀r0:Int,weightS p0=r0-> 
(TR p0)/\let r1:List Int:=(if validE p0=0 then encT p0 p0.wR else [])
(((validE p0) !=0)=true->
 0=r0)/\
(((validE p0) !=0)=false->
(r1.length:Int)=r0)) (by kernel_rfl)<|by
 rintro p0 h _ rfl
 refine⟨h,?_⟩
 unfold weightS
 refine⟨fun e=> ?_,fun e=> ?_⟩
 ·have e:validE p0≠0:=by simpa using e
  rw[if_neg e]
 ·have e:validE p0=0:=by simpa using e
  rw[if_pos e,if_pos e]
noncomputable def k8a:Con TB.den:= .gp 35 [.st 1] [.st 2,yqi] [] fun(p0:wC)=>(TR p0,((if validE p0=0 then eOf p0 else default):wA),(validE p0:Int),())
theorem k27:k8a.Ok Tryz.prog TB:=qrv Bs Tryz.func35 .no (k9q.c (kl5.c (kfd.c c0))) (Q:=∀(p0:wC),(TR p0)->∀r0:wA,((if validE p0=0 then eOf p0 else default):wA)=r0->∀r1:Int,validE p0=r1-> 
(((validE p0) !=0)=true->
 0=r0.wv/\([]:List Int)=r0.we/\([]:List wg)=r0.wAA/\0=r0.wl/\0=r0.wt/\0=r0.wX/\0=r0.wm/\0=r0.wq/\0=r0.ww/\([]:List Int)=r0.wx/\0=r0.id/\0=r0.weight/\(validE p0)=r1)/\
(((validE p0) !=0)=false->
(TR p0)/\(TR p0)/\p0.wY=r0.wv/\p0.wD=r0.we/\p0.wB=r0.wAA/\p0.wF=r0.wl/\p0.wG=r0.wt/\p0.Fee=r0.wX/\p0.wH=r0.wm/\p0.wQ=r0.wq/\p0.wK=r0.ww/\p0.wR=r0.wx/\(idS p0)=r0.id/\(weightS p0)=r0.weight/\0=r1)) (by kernel_rfl)<|by
 rintro p0 h _ rfl _ rfl
 refine⟨fun e=> ?_,fun e=> ?_⟩
 ·have e:¬validE p0=0:=by simpa using e
  rw[if_neg e]
  exact(by repeat' first|apply And.intro|exact rfl)
 ·have e:validE p0=0:=by simpa using e
  rw[if_pos e]
  exact⟨h,h,rfl,rfl,rfl,rfl,rfl,rfl,rfl,rfl,rfl,rfl,rfl,rfl,e.symm⟩
noncomputable def k64:Con TB.den:= .g ⟨44,[.one (.row 0)],[.vec (.st 2)],(.one (.one (.row 1))),[.vec (.st 2),.vec (.st 2)],false⟩ [.sl (.st 2)] [.sl (.st 2),.sl (.st 2)] [] fun(w0:List wA)=>(w0.length<=4294967295,w0,w0,())
theorem k6j:k64.Ok Tryz.prog TB:=prx Bs [5,7] Tryz.func44 (.r 0 (.nd [] (.r 0 (.nd [] (.r 0 (.rt [.rnil 2 (.st 2)])) [] .no)) [] .no)) x0 c0 (Q:=∀(w0:List wA),(w0.length<=4294967295)->∀e0:List wA,w0=e0->∀e1:List wA,w0=e1-> 
 ∀z4:Bool,(z4=true->w0.length=0)->(z4=true->
(0=([]:List wA).length)/\w0=e0/\([]:List wA)=e1)/\
(z4=false->
([]:List wA).length=([]:List wA).length/\w0.length=w0.length/\(([]:List wA).length+w0.length)*144<=140737488355328/\([]:List wA).length+w0.length<=maxLen/\((([]:List wA)++w0).length=(([]:List wA)++w0).length)/\w0=e0/\([]:List wA)++w0=e1)) (by kernel_rfl)<|by
 rintro w0 h _ rfl _ rfl
 intro z hz
 refine⟨fun e=> ?_,fun e=> ?_⟩
 ·have:=List.length_eq_zero_iff.1 (hz e)
  subst this
  exact⟨rfl,rfl,rfl⟩
 ·refine⟨rfl,rfl,?_,?_,rfl,rfl,rfl⟩<;>simp only[List.length_nil]<;>(try unfold maxLen)<;>omega
noncomputable def k5h:Con TB.den:= .g ⟨44,[.one (.view 0)],[.vec (.st 2)],(.one (.one (.row 1))),[.vec (.st 2),.vec (.st 2)],false⟩ [yqi,yqi,.sl (.st 2)] [.sl (.st 2),.sl (.st 2)] [] fun(p0o p0n:Int) (w0:List wA)=>(p0o.toNat=0/\p0n.toNat<=w0.length/\w0.length<=4294967295,w0,(w0.take p0n.toNat:List wA),())
theorem k5l:k5h.Ok Tryz.prog TB:=prx Bs [5,7] Tryz.func44 (.r 0 (.nd [] (.r 0 (.nd [] (.r 0 (.rt [.rnil 2 (.st 2)])) [] .no)) [] .no)) x0 c0 (Q:=∀(p0o p0n:Int) (w0:List wA),(p0o.toNat=0/\p0n.toNat<=w0.length/\w0.length<=4294967295)->∀e0:List wA,w0=e0->∀e1:List wA,w0.take p0n.toNat=e1-> 
 ∀z4:Bool,(z4=true->p0n.toNat=0)->(z4=true->
(0=([]:List wA).length)/\w0=e0/\([]:List wA)=e1)/\
(z4=false->
([]:List wA).length=([]:List wA).length/\p0o.toNat+p0n.toNat<=w0.length/\(([]:List wA).length+((w0.drop p0o.toNat).take p0n.toNat).length)*144<=140737488355328/\([]:List wA).length+((w0.drop p0o.toNat).take p0n.toNat).length<=maxLen/\let v5:List wA:=([]:List wA)++((w0.drop p0o.toNat).take p0n.toNat)
(v5.length=v5.length)/\w0=e0/\v5=e1)) (by kernel_rfl)<|by
 rintro p0o p0n w0 h _ rfl _ rfl
 obtain⟨h1,h2,h3⟩:=h
 intro z hz
 rw[h1]
 refine⟨fun e=> ?_,fun e=> ?_⟩
 ·rw[hz e];exact⟨rfl,rfl,rfl⟩
 ·refine⟨rfl,by omega,?_,?_,rfl,rfl,rfl⟩<;>simp only[List.length_nil,List.drop_zero,List.length_take]<;>(try unfold maxLen)<;>omega
noncomputable def keu:Con TB.den:= .gp 66 [yqu] [yqi] [] fun(p0:Int)=>(U64 p0,(len64 p0:Int),())
theorem k9o:keu.Ok Tryz.prog TB:=qrv Bs Tryz.func66 .no (k80.c c0) (Q:=∀(p0:Int),(U64 p0)->∀r0:Int,len64 p0=r0-> 
(U64 p0)/\(len64 p0)=r0) (by kernel_rfl)<|by
 rintro p0 h _ rfl
 exact⟨h,rfl⟩
noncomputable def kdr:Con TB.den:= .tp 75 [yqu] [.bool] [] fun(p0:Int)=>(false,())
theorem kez:kdr.Ok Tryz.prog TB:=qtv Bs Tryz.func75 .no c0 (Q:=∀(p0:Int),∀r0:Bool,(false:Bool)=r0-> 
(p0 !=p0)=r0) (by kernel_rfl)<|by
 rintro p0 _ rfl
 simp
noncomputable def kax:Con TB.den:= .tp 54 [yqu,yqu] [yqi] [] fun(p0 p1:Int)=>((cmp3 p0 p1:Int),())
theorem k6l:kax.Ok Tryz.prog TB:=qtv Bs Tryz.func54 .no (kez.c c0) (Q:=∀(p0 p1:Int),∀r0:Int,cmp3 p0 p1=r0-> 
(false=true->
(false=true->
 0=r0)/\
(false=false->
(-1)=r0))/\
(false=false->
(false=true->
 1=r0)/\
(false=false->
(decide (p0<p1)=true->
(-1)=r0)/\
(decide (p0<p1)=false->
(decide (p1<p0)=true->
 1=r0)/\
(decide (p1<p0)=false->
 0=r0))))) (by kernel_rfl)<|by
 rintro p0 p1 _ rfl
 refine⟨fun e=>(by cases e),fun _=>⟨fun e=>(by cases e),fun _=> ?_⟩⟩
 simp only[decide_eq_true_eq,decide_eq_false_iff_not]
 unfold cmp3
 exact⟨fun h=>by simp[h],fun h=>⟨fun h2=>by simp[h,h2],fun h2=>by simp[h,h2]⟩⟩
noncomputable def ka2:Con TB.den:= .g ⟨36,[.one (.any),.agg [zqu,zql,.d (.sl (.st 0)),zqu,zqu,zqu,zqu,zqu,zqi,.d (.sl yqb),zqu,zqi],.agg [zqu,zql,.d (.sl (.st 0)),zqu,zqu,zqu,zqu,zqu,zqi,.d (.sl yqb),zqu,zqi]],[],(.one (.one (zqi))),[],false⟩ [.st 2,.st 2] [yqi] [] fun(p1 p2:wA)=>(GE p1/\GE p2,(cmpG p1 p2:Int),())
theorem kx:ka2.Ok Tryz.prog TB:=prv Bs Tryz.func36 .no (k6l.c c0) (Q:=∀(p1 p2:wA),(GE p1/\GE p2)->∀r0:Int,cmpG p1 p2=r0-> 
 let v1:Int:=u64.wrap (p2.wX*(u64.wrap p1.weight))
 let v2:Int:=u64.wrap (p1.wX*(u64.wrap p2.weight))
(((cmp3 v1 v2) !=0)=true->
(cmp3 v1 v2)=r0)/\
(((cmp3 v1 v2) !=0)=false->
(cmp3 p1.id p2.id)=r0)) (by kernel_rfl)<|by
 rintro p1 p2 h _ rfl
 obtain⟨h1,h2⟩:=h
 have a:=h1.f0
 have b:=h1.f1
 have c:=h1.w0
 have d:=h1.w1
 have a' :=h2.f0
 have b' :=h2.f1
 have c' :=h2.w0
 have d' :=h2.w1
 have m1:0<=p2.wX*p1.weight/\p2.wX*p1.weight<=4294967295*4294967295:=⟨Int.mul_nonneg (by omega) (by omega),Int.mul_le_mul b' d (by omega) (by omega)⟩
 have m2:0<=p1.wX*p2.weight/\p1.wX*p2.weight<=4294967295*4294967295:=⟨Int.mul_nonneg (by omega) (by omega),Int.mul_le_mul b d' (by omega) (by omega)⟩
 dsimp only
 rw[wu p1.weight (by omega) (by omega),wu p2.weight (by omega) (by omega),wu _ m1.1 (by omega),wu _ m2.1 (by omega),k5v h1 h2]
 unfold cmpE
 refine⟨fun e=> ?_,fun e=> ?_⟩
 ·have e:cmp3 (p2.wX*p1.weight) (p1.wX*p2.weight)≠0:=by simpa using e
  rw[if_neg (mt cmp3_eq.2 e)]
 ·have e:cmp3 (p2.wX*p1.weight) (p1.wX*p2.weight)=0:=by simpa using e
  rw[if_pos (cmp3_eq.1 e)]
noncomputable def k4n:Con TB.den:= .gp 99 [yqi] [yqu] [] fun(p0:Int)=>(0<=p0/\p0<4611686018427387904,(((1<<<Sort.bitsLen p0.toNat:Nat):Int):Int),())
theorem k50:k4n.Ok Tryz.prog TB:=qrv Bs Tryz.func99 .no (k9o.c c0) (Q:=∀(p0:Int),(0<=p0/\p0<4611686018427387904)->∀r0:Int,((1<<<Sort.bitsLen p0.toNat:Nat):Int)=r0-> 
(U64 (u64.wrap p0))/\(0<=(len64 (u64.wrap p0)))/\let v1:Int:=ishl .u64 1 (len64 (u64.wrap p0))
 v1=r0) (by kernel_rfl)<|by
 rintro p0 h _ rfl
 obtain⟨h0,h1⟩:=h
 have e:=npo p0.toNat (by omega)
 rw[show((p0.toNat:Nat):Int)=p0 by omega]at e
 have e2:=kba p0.toNat
 rw[show((p0.toNat:Nat):Int)=p0 by omega]at e2
 refine ?_
 rw[wu p0 h0 (by omega),e]
 exact⟨⟨h0,by omega⟩,by rw[e2];omega,rfl⟩
noncomputable def k9c:Con TB.den:= .t ⟨100,[.one (.ptr 0 0)],[.cells [zqu]],(.one (.one (zqu))),[.cells [zqu]],false⟩ [yqu] [yqu,yqu] [] fun(Aa:Int)=>((xnI Aa:Int),(xnI Aa:Int),())
theorem kar:k9c.Ok Tryz.prog TB:=ptv Bs Tryz.func100 .no c0 (Q:=∀(Aa:Int),∀r0:Int,xnI Aa=r0->∀Ac:Int,xnI Aa=Ac-> 
 let v1:Int:=ishr .u64 (ixor .u64 Aa (ishl .u64 Aa 13)) 7
 let v2:Int:=ixor .u64 (ixor .u64 Aa (ishl .u64 Aa 13)) v1
 ixor .u64 v2 (ishl .u64 v2 17)=r0/\ixor .u64 v2 (ishl .u64 v2 17)=Ac) (by kernel_rfl)<|by
 rintro Aa _ rfl _ rfl
 exact⟨rfl,rfl⟩
noncomputable def k25:Con TB.den:= .g ⟨81,[.one (.row 0),.one (zqi),.one (zqi),.one (.clo 36 [none] [])],[.vec (.st 2)],(.tup []),[.vec (.st 2)],false⟩ [yqi,yqi,.sl (.st 2)] [.sl (.st 2)] [] fun(p1 p2:Int) (w0:List wA)=>((0<=p1/\p1<=p2/\p2<=w0.length)/\w0.length<=1099511627776,(brkS w0 p1 p2:List wA),())
set_option maxHeartbeats 1000000 in
theorem k2k:k25.Ok Tryz.prog TB:=prv Bs Tryz.func81 (.r 1 (.nd [] (.r 2 (.lp [] ⟨[1,0],[.cells [zqu],.vec (.st 2)],[11],[.one (zqi)],[]⟩ (.r 0 (.nd [] (.r 0 (.jn ⟨[],[],[12],[.one (zqi)],[]⟩ [] .no [] .no)) [] .no)))) [] .no)) (k50.c (kar.c c0)) (Q:=∀(p1 p2:Int) (w0:List wA),((0<=p1/\p1<=p2/\p2<=w0.length)/\w0.length<=1099511627776)->∀e0:List wA,brkS w0 p1 p2=e0-> 
 let v1:Bool:=decide (8<=(i64.wrap (p2-p1)))
(v1=true->
 let v2:Int:=u64.wrap (i64.wrap (p2-p1))
(0<=(i64.wrap (p2-p1))/\(i64.wrap (p2-p1))<4611686018427387904)/\let r3:Int:=((1<<<Sort.bitsLen (i64.wrap (p2-p1)).toNat:Nat):Int)
 let v4:Int:=i64.wrap (Int.tdiv (i64.wrap (p2-p1)) 4)
 let v5:Int:=i64.wrap (p1+(i64.wrap (v4*2)))
 ∃(I1:Int->Int->(List wA)->Prop) (M1:Int->Int->(List wA)->Nat),I1 (i64.wrap (v5-1)) v2 w0/\∀(b1 f1:Int) (i1:List wA),(I1 b1 f1 i1->
 let v6:Int:=i64.wrap (Int.tdiv (i64.wrap (p2-p1)) 4)
 let v7:Int:=i64.wrap (p1+(i64.wrap (v6*2)))
 let v8:Bool:=decide (b1<=(i64.wrap (v7+1)))
(v8=true->
 let v9:Int:=iand .u64 (xnI f1) (u64.wrap (r3-1))
 ∀J1:Int->Prop,(∀(k1:Int),
((0<=i64.wrap (p1+k1)/\i64.wrap (p1+k1)<(w0.length:Int))/\(0<=i64.wrap (p1+k1)/\i64.wrap (p1+k1)<(i1.length:Int))/\(0<=b1/\b1<(w0.length:Int))/\(0<=b1/\b1<(i1.length:Int))/\(0<=b1/\b1<(w0.length:Int))/\(0<=b1/\b1<(i1.length:Int))/\(0<=i64.wrap (p1+k1)/\i64.wrap (p1+k1)<(w0.length:Int))/\(0<=i64.wrap (p1+k1)/\i64.wrap (p1+k1)<((i1.set b1.toNat (ix i1 (i64.wrap (p1+k1)))).length:Int))/\I1 (i64.wrap (b1+1)) (xnI f1) ((i1.set b1.toNat (ix i1 (i64.wrap (p1+k1)))).set (i64.wrap (p1+k1)).toNat (ix i1 b1))/\M1 (i64.wrap (b1+1)) (xnI f1) ((i1.set b1.toNat (ix i1 (i64.wrap (p1+k1)))).set (i64.wrap (p1+k1)).toNat (ix i1 b1))<M1 b1 f1 i1)->J1 k1)->
 let v10:Bool:=decide ((i64.wrap (p2-p1))<=(i64.wrap v9))
(v10=true->
 let v11:Int:=i64.wrap ((i64.wrap v9)-(i64.wrap (p2-p1)))
 J1 v11)/\
(v10=false->
 J1 (i64.wrap v9)))/\
(v8=false->
 i1=e0)))/\
(v1=false->
 w0=e0)) (by kernel_rfl)<|by
 rintro p1 p2 w0 h _ rfl
 obtain⟨⟨h1,h2,h3⟩,h4⟩:=h
 have e1:=wi (p2-p1) (by omega) (by omega)
 have e5:=wu (p2-p1) (by omega) (by omega)
 have e3:Int.tdiv (p2-p1) 4=(p2-p1)/4:=Int.tdiv_eq_ediv_of_nonneg (by omega)
 have e4:=wi ((p2-p1)/4) (by omega) (by omega)
 have e6:=wi ((p2-p1)/4*2) (by omega) (by omega)
 have e7:=wi (p1+(p2-p1)/4*2) (by omega) (by omega)
 have e8:=wi (p1+(p2-p1)/4*2-1) (by omega) (by omega)
 have e9:=wi (p1+(p2-p1)/4*2+1) (by omega) (by omega)
 dsimp only
 rw[e1,e5,e3,e4,e6,e7,e8]
 refine⟨fun hh=> ?_,fun hh=> ?_⟩
 ·have hh:=of_decide_eq_true hh
  have hm:=npo_le (p2-p1).toNat (by omega)
  have hb:=brk_eq w0.toArray p1.toNat p2.toNat (by omega)
  rw[show p2.toNat-p1.toNat=(p2-p1).toNat by omega]at hb
  have hR:(brkS w0 p1 p2)=(brkL p1.toNat (p2-p1).toNat (1<<<Sort.bitsLen (p2-p1).toNat) 3 (UInt64.ofNat (p2-p1).toNat,w0.toArray) (p1.toNat+(p2-p1).toNat/4*2-1)).toList:=by unfold brkS;rw[hb]
  refine⟨⟨by omega,by omega⟩,?_⟩
  generalize 1<<<Sort.bitsLen (p2-p1).toNat=md at *
  generalize brkS w0 p1 p2=R at *
  clear hb
  have e0:(UInt64.ofNat (p2-p1).toNat).toNat=(p2-p1).toNat:=by rw[UInt64.toNat_ofNat',Nat.mod_eq_of_lt (by omega)]
  refine⟨fun idx rnd g=>∃(k:Nat) (u:UInt64),(k<=3/\idx+k=p1+(p2-p1)/4*2+2)/\rnd=(u.toNat:Int)/\g.length=w0.length/\R=(brkL p1.toNat (p2-p1).toNat md k (u,g.toArray) idx.toNat).toList,fun idx _ _=>(p1+(p2-p1)/4*2+2-idx).toNat,⟨3,UInt64.ofNat (p2-p1).toNat,⟨by omega,by omega⟩,by omega,rfl,by rw[hR,show(p1+(p2-p1)/4*2-1).toNat=p1.toNat+(p2-p1).toNat/4*2-1 by omega]⟩,?_⟩
  clear hR e0
  have hq:0<=(p2-p1)/4/\4*((p2-p1)/4)<=p2-p1/\p2-p1<4*((p2-p1)/4)+4:=by omega
  generalize (p2-p1)/4=dq at *
  generalize hn:(p2-p1).toNat=n at *
  have hn2:(n:Int)=p2-p1:=by omega
  rintro idx rnd g ⟨k,u,⟨k0,k1⟩,rfl,g2,g3⟩
  rw[e9]
  refine⟨fun q=> ?_,fun q=> ?_⟩
  ·have q:=of_decide_eq_true q
   intro J1 k1
   obtain⟨k,rfl⟩:∃m,k=m+1:=⟨k-1,by omega⟩
   rw[brkL_go]at g3
   have hx:=xnI_eq u
   have hlt:=(Sort.xorNext u).toNat_lt
   generalize xnI (u.toNat:Int)=xu at *
   generalize Sort.xorNext u=u' at *
   subst hx
   have hmd:(u'.toNat&&&(md-1))<=md-1:=Nat.and_le_right
   have e10:iand .u64 (u'.toNat:Int) (u64.wrap ((md:Int)-1))=((u'.toNat&&&(md-1):Nat):Int):=by
    rw[wu _ (by omega) (by omega),show(md:Int)-1=((md-1:Nat):Int)by omega,ka9 _ _ (by omega) (by omega)]
   rw[e10]
   generalize u'.toNat&&&(md-1)=z at *
   rw[wi (z:Int) (by omega) (by omega)]
   generalize ho:(if z≥n then z-n else z)=o at *
   have ho2:o<n:=by rw[<-ho];split<;>omega
   have w1:=wi (p1+(o:Int)) (by omega) (by omega)
   have w2:=wi (idx+1) (by omega) (by omega)
   have hs:=swp_arr (g:=g) (i:=idx) (j:=p1+(o:Int)) (by omega) (by omega) (by omega) (by omega)
   rw[show p1.toNat+o=(p1+(o:Int)).toNat by omega,hs,show idx.toNat+1=(idx+1).toNat by omega]at g3
   have fin:(∃(k:Nat) (u:UInt64),(k<=3/\i64.wrap (idx+1)+k=p1+dq*2+2)/\(u'.toNat:Int)=(u.toNat:Int)/\(swpL g idx (i64.wrap (p1+(o:Int)))).length=w0.length/\R=(brkL p1.toNat n md k (u,(swpL g idx (i64.wrap (p1+(o:Int)))).toArray) (i64.wrap (idx+1)).toNat).toList)/\(p1+dq*2+2-i64.wrap (idx+1)).toNat<(p1+dq*2+2-idx).toNat:=by
    rw[w1,w2]
    exact⟨⟨k,u',⟨by omega,by omega⟩,rfl,by rw[k7j];exact g2,g3⟩,by omega⟩
   have rng:(0<=i64.wrap (p1+(o:Int))/\i64.wrap (p1+(o:Int))<(g.length:Int))/\(0<=idx/\idx<(g.length:Int)):=by rw[w1];exact⟨⟨by omega,by omega⟩,⟨by omega,by omega⟩⟩
   have rng2:0<=i64.wrap (p1+(o:Int))/\i64.wrap (p1+(o:Int))<((g.set idx.toNat (ix g (i64.wrap (p1+(o:Int))))).length:Int):=by rw[List.length_set];exact rng.1
   have rw1:0<=i64.wrap (p1+(o:Int))/\i64.wrap (p1+(o:Int))<(w0.length:Int):=by rw[<-g2];exact rng.1
   have rw2:0<=idx/\idx<(w0.length:Int):=by rw[<-g2];exact rng.2
   refine⟨fun e=> ?_,fun e=> ?_⟩
   ·have e:=of_decide_eq_true e
    rw[if_pos (by omega)]at ho
    rw[show(z:Int)-(p2-p1)=(o:Int)by omega,wi (o:Int) (by omega) (by omega)]
    exact k1 _ ⟨rw1,rng.1,rw2,rng.2,rw2,rng.2,rw1,rng2,fin.1,fin.2⟩
   ·have e:=of_decide_eq_false e
    rw[if_neg (by omega)]at ho
    subst ho
    exact k1 _ ⟨rw1,rng.1,rw2,rng.2,rw2,rng.2,rw1,rng2,fin.1,fin.2⟩
  ·have q:=of_decide_eq_false q
   have:k=0:=by omega
   subst this
   rw[g3]
   rfl
 ·have hh:=of_decide_eq_false hh
  unfold brkS
  rw[brk_no _ _ _ (by omega)]
noncomputable def k3f:Con TB.den:= .g ⟨115,[.one (.row 0),.one (zqi),.one (zqi),.one (.ptr 1 0),.one (.clo 36 [none] [])],[.vec (.st 2),.cells [zqi]],(.tup [.one (zqi),.one (zqi)]),[.vec (.st 2),.cells [zqi]],false⟩ [yqi,yqi,yqi,.sl (.st 2)] [yqi,yqi,yqi,.sl (.st 2)] [] fun(p1 p2 Ab:Int) (w0:List wA)=>(GL w0/\(0<=p1/\p1<w0.length)/\(0<=p2/\p2<w0.length)/\0<=Ab/\Ab<=1000,(((Sort.order2 ltA w0.toArray p1.toNat p2.toNat Ab.toNat).1:Int):Int),(((Sort.order2 ltA w0.toArray p1.toNat p2.toNat Ab.toNat).2.1:Int):Int),(((Sort.order2 ltA w0.toArray p1.toNat p2.toNat Ab.toNat).2.2:Int):Int),w0,())
theorem k3n:k3f.Ok Tryz.prog TB:=prv Bs Tryz.func115 .no (kx.c c0) (Q:=∀(p1 p2 Ab:Int) (w0:List wA),(GL w0/\(0<=p1/\p1<w0.length)/\(0<=p2/\p2<w0.length)/\0<=Ab/\Ab<=1000)->∀r0:Int,((Sort.order2 ltA w0.toArray p1.toNat p2.toNat Ab.toNat).1:Int)=r0->∀r1:Int,((Sort.order2 ltA w0.toArray p1.toNat p2.toNat Ab.toNat).2.1:Int)=r1->∀d1_0:Int,((Sort.order2 ltA w0.toArray p1.toNat p2.toNat Ab.toNat).2.2:Int)=d1_0->∀e0:List wA,w0=e0-> 
(0<=p2/\p2<(w0.length:Int))/\(0<=p2/\p2<(w0.length:Int))/\(0<=p1/\p1<(w0.length:Int))/\(0<=p1/\p1<(w0.length:Int))/\(GE (ix w0 p2)/\GE (ix w0 p1))/\let v2:Bool:=decide ((cmpG (ix w0 p2) (ix w0 p1))<0)
(v2=true->
 p2=r0/\p1=r1/\i64.wrap (Ab+1)=d1_0/\w0=e0)/\
(v2=false->
 p1=r0/\p2=r1/\Ab=d1_0/\w0=e0)) (by kernel_rfl)<|by
 rintro p1 p2 Ab w0 h _ rfl _ rfl _ rfl _ rfl
 obtain⟨gG,⟨h1,h2⟩,⟨h3,h4⟩,h5,h6⟩:=h
 have x1:=arr_ix (g:=w0) h1 h2
 have x2:=arr_ix (g:=w0) h3 h4
 refine⟨⟨h3,h4⟩,⟨h3,h4⟩,⟨h1,h2⟩,⟨h1,h2⟩,⟨gG.ix h3 h4,gG.ix h1 h2⟩,fun e=> ?_,fun e=> ?_⟩
 ·unfold Sort.order2
  have e:decide (ix w0 p2<ix w0 p1)=true:=e
  rw[x1,x2,ltI_iff,e,if_pos rfl,wi (Ab+1) (by omega) (by omega)]
  exact⟨(Int.toNat_of_nonneg h3).symm,(Int.toNat_of_nonneg h1).symm,(by show Ab+1=((Ab.toNat+1:Nat):Int);omega),rfl⟩
 ·unfold Sort.order2
  have e:decide (ix w0 p2<ix w0 p1)=false:=e
  rw[x1,x2,ltI_iff,e,if_neg (by decide)]
  exact⟨(Int.toNat_of_nonneg h1).symm,(Int.toNat_of_nonneg h3).symm,(Int.toNat_of_nonneg h5).symm,rfl⟩
noncomputable def k3m:Con TB.den:= .g ⟨102,[.one (.row 0),.one (zqi),.one (zqi),.one (zqi),.one (.ptr 1 0),.one (.clo 36 [none] [])],[.vec (.st 2),.cells [zqi]],(.one (.one (zqi))),[.vec (.st 2),.cells [zqi]],false⟩ [yqi,yqi,yqi,yqi,.sl (.st 2)] [yqi,yqi,.sl (.st 2)] [] fun(p1 p2 p3 Ab:Int) (w0:List wA)=>(GL w0/\(0<=p1/\p1<w0.length)/\(0<=p2/\p2<w0.length)/\(0<=p3/\p3<w0.length)/\0<=Ab/\Ab<=100,(((Sort.median ltA w0.toArray p1.toNat p2.toNat p3.toNat Ab.toNat).1:Int):Int),(((Sort.median ltA w0.toArray p1.toNat p2.toNat p3.toNat Ab.toNat).2:Int):Int),w0,())
theorem k1k:k3m.Ok Tryz.prog TB:=prv Bs Tryz.func102 .no (k3n.c c0) (Q:=∀(p1 p2 p3 Ab:Int) (w0:List wA),(GL w0/\(0<=p1/\p1<w0.length)/\(0<=p2/\p2<w0.length)/\(0<=p3/\p3<w0.length)/\0<=Ab/\Ab<=100)->∀r0:Int,((Sort.median ltA w0.toArray p1.toNat p2.toNat p3.toNat Ab.toNat).1:Int)=r0->∀d1_0:Int,((Sort.median ltA w0.toArray p1.toNat p2.toNat p3.toNat Ab.toNat).2:Int)=d1_0->∀e0:List wA,w0=e0-> 
(w0.length=w0.length)/\(GL w0/\(0<=p1/\p1<w0.length)/\(0<=p2/\p2<w0.length)/\0<=Ab/\Ab<=1000)/\let r1:Int:=((Sort.order2 ltA w0.toArray p1.toNat p2.toNat Ab.toNat).1:Int)
 let r2:Int:=((Sort.order2 ltA w0.toArray p1.toNat p2.toNat Ab.toNat).2.1:Int)
 let r3:Int:=((Sort.order2 ltA w0.toArray p1.toNat p2.toNat Ab.toNat).2.2:Int)
(w0.length=w0.length)/\(GL w0/\(0<=r2/\r2<w0.length)/\(0<=p3/\p3<w0.length)/\0<=r3/\r3<=1000)/\let r4:Int:=((Sort.order2 ltA w0.toArray r2.toNat p3.toNat r3.toNat).1:Int)
 let r5:Int:=((Sort.order2 ltA w0.toArray r2.toNat p3.toNat r3.toNat).2.1:Int)
 let r6:Int:=((Sort.order2 ltA w0.toArray r2.toNat p3.toNat r3.toNat).2.2:Int)
(w0.length=w0.length)/\(GL w0/\(0<=r1/\r1<w0.length)/\(0<=r4/\r4<w0.length)/\0<=r6/\r6<=1000)/\let r7:Int:=((Sort.order2 ltA w0.toArray r1.toNat r4.toNat r6.toNat).1:Int)
 let r8:Int:=((Sort.order2 ltA w0.toArray r1.toNat r4.toNat r6.toNat).2.1:Int)
 let r9:Int:=((Sort.order2 ltA w0.toArray r1.toNat r4.toNat r6.toNat).2.2:Int)
 r8=r0/\r9=d1_0/\w0=e0) (by kernel_rfl)<|by
 rintro p1 p2 p3 Ab w0 h _ rfl _ rfl _ rfl
 obtain⟨hG,⟨h1,h2⟩,⟨h3,h4⟩,⟨h5,h6⟩,h7,h8⟩:=h
 refine ?_
 unfold Sort.median
 dsimp only
 simp only[Int.toNat_natCast]
 have q1:=k2r (d:=w0.toArray) (a:=p1.toNat) (b:=p2.toNat) (c:=Ab.toNat) (n:=w0.length) (by omega) (by omega)
 generalize Sort.order2 ltA w0.toArray p1.toNat p2.toNat Ab.toNat=r1 at *
 have q2:=k2r (d:=w0.toArray) (a:=r1.2.1) (b:=p3.toNat) (c:=r1.2.2) (n:=w0.length) q1.2.1 (by omega)
 generalize Sort.order2 ltA w0.toArray r1.2.1 p3.toNat r1.2.2=r2 at *
 have q3:=k2r (d:=w0.toArray) (a:=r1.1) (b:=r2.1) (c:=r2.2.2) (n:=w0.length) q1.1 q2.1
 exact⟨by trivial,⟨hG,⟨h1,h2⟩,⟨h3,h4⟩,h7,by omega⟩,by trivial,⟨hG,⟨by omega,by omega⟩,⟨h5,h6⟩,by omega,by omega⟩,by trivial,⟨hG,⟨by omega,by omega⟩,⟨by omega,by omega⟩,by omega,by omega⟩,by trivial,by trivial,by trivial⟩
noncomputable def k1z:Con TB.den:= .g ⟨101,[.one (.row 0),.one (zqi),.one (.ptr 1 0),.one (.clo 36 [none] [])],[.vec (.st 2),.cells [zqi]],(.one (.one (zqi))),[.vec (.st 2),.cells [zqi]],false⟩ [yqi,yqi,.sl (.st 2)] [yqi,yqi,.sl (.st 2)] [] fun(p1 Ab:Int) (w0:List wA)=>(GL w0/\(1<=p1/\p1+1<w0.length)/\w0.length<=1099511627776/\0<=Ab/\Ab<=100,(((Sort.medianAdjacent ltA w0.toArray p1.toNat Ab.toNat).1:Int):Int),(((Sort.medianAdjacent ltA w0.toArray p1.toNat Ab.toNat).2:Int):Int),w0,())
theorem k24:k1z.Ok Tryz.prog TB:=prv Bs Tryz.func101 .no (k1k.c c0) (Q:=∀(p1 Ab:Int) (w0:List wA),(GL w0/\(1<=p1/\p1+1<w0.length)/\w0.length<=1099511627776/\0<=Ab/\Ab<=100)->∀r0:Int,((Sort.medianAdjacent ltA w0.toArray p1.toNat Ab.toNat).1:Int)=r0->∀d1_0:Int,((Sort.medianAdjacent ltA w0.toArray p1.toNat Ab.toNat).2:Int)=d1_0->∀e0:List wA,w0=e0-> 
(w0.length=w0.length)/\(GL w0/\(0<=(i64.wrap (p1-1))/\(i64.wrap (p1-1))<w0.length)/\(0<=p1/\p1<w0.length)/\(0<=(i64.wrap (p1+1))/\(i64.wrap (p1+1))<w0.length)/\0<=Ab/\Ab<=100)/\let r1:Int:=((Sort.median ltA w0.toArray (i64.wrap (p1-1)).toNat p1.toNat (i64.wrap (p1+1)).toNat Ab.toNat).1:Int)
 let r2:Int:=((Sort.median ltA w0.toArray (i64.wrap (p1-1)).toNat p1.toNat (i64.wrap (p1+1)).toNat Ab.toNat).2:Int)
 r1=r0/\r2=d1_0/\w0=e0) (by kernel_rfl)<|by
 rintro p1 Ab w0 h _ rfl _ rfl _ rfl
 obtain⟨hG,⟨h1,h2⟩,h3,h4,h5⟩:=h
 refine ?_
 rw[wi (p1-1) (by omega) (by omega),wi (p1+1) (by omega) (by omega)]
 unfold Sort.medianAdjacent
 rw[show(p1-1).toNat=p1.toNat-1 by omega,show(p1+1).toNat=p1.toNat+1 by omega]
 exact⟨rfl,⟨hG,⟨by omega,by omega⟩,⟨by omega,by omega⟩,⟨by omega,by omega⟩,h4,h5⟩,rfl,rfl,rfl⟩
noncomputable def k2m:Con TB.den:= .g ⟨82,[.one (.row 0),.one (zqi),.one (zqi),.one (.clo 36 [none] [])],[.vec (.st 2)],(.tup [.one (zqi),.one (zqi)]),[.vec (.st 2)],false⟩ [yqi,yqi,.sl (.st 2)] [yqi,yqi,.sl (.st 2)] [] fun(p1 p2:Int) (w0:List wA)=>(GL w0/\(0<=p1/\p1<p2/\p2<=w0.length)/\w0.length<=1099511627776,(((cpS w0 p1 p2).1:Int):Int),(hintN (cpS w0 p1 p2).2:Int),w0,())
set_option maxHeartbeats 1000000 in
theorem k2t:k2m.Ok Tryz.prog TB:=prv Bs Tryz.func82 (.r 5 (.jn ⟨[1,0],[.cells [zqi],.vec (.st 2)],[12,13,14],[.one (.any),.one (zqi),.one (.any)],[]⟩ [] (.r 0 (.nd [] (.jn ⟨[1,0],[.cells [zqi],.vec (.st 2)],[12,13,14],[.one (zqi),.one (zqi),.one (zqi)],[]⟩ [] .no [] .no) [] .no)) [] .no)) (k24.c (k1k.c c0)) (Q:=∀(p1 p2:Int) (w0:List wA),(GL w0/\(0<=p1/\p1<p2/\p2<=w0.length)/\w0.length<=1099511627776)->∀r0:Int,((cpS w0 p1 p2).1:Int)=r0->∀r1:Int,(hintN (cpS w0 p1 p2).2)=r1->∀e0:List wA,w0=e0-> 
 let v2:Int:=i64.wrap (Int.tdiv (i64.wrap (p2-p1)) 4)
 let v3:Int:=i64.wrap (p1+(i64.wrap (v2*1)))
 let v4:Int:=i64.wrap (Int.tdiv (i64.wrap (p2-p1)) 4)
 let v5:Int:=i64.wrap (p1+(i64.wrap (v4*2)))
 let v6:Int:=i64.wrap (Int.tdiv (i64.wrap (p2-p1)) 4)
 let v7:Int:=i64.wrap (p1+(i64.wrap (v6*3)))
 ∀J1:Int->Int->(List wA)->Prop,(∀(b1 f1:Int) (i1:List wA),
(((f1==0)=true->
 b1=r0/\1=r1/\i1=e0)/\
((f1==0)=false->
((f1==12)=true->
 b1=r0/\2=r1/\i1=e0)/\
((f1==12)=false->
 b1=r0/\0=r1/\i1=e0)))->J1 b1 f1 i1)->
 let v8:Bool:=decide (8<=(i64.wrap (p2-p1)))
(v8=true->
 ∀J2:Int->Int->Int->Int->(List wA)->Prop,(∀(k1 l1 m1 n1:Int) (o1:List wA),
((w0.length=o1.length)/\(GL o1/\(0<=k1/\k1<o1.length)/\(0<=l1/\l1<o1.length)/\(0<=m1/\m1<o1.length)/\0<=n1/\n1<=100)/\let r16:Int:=((Sort.median ltA o1.toArray k1.toNat l1.toNat m1.toNat n1.toNat).1:Int)
 let r17:Int:=((Sort.median ltA o1.toArray k1.toNat l1.toNat m1.toNat n1.toNat).2:Int)
 J1 r16 r17 o1)->J2 k1 l1 m1 n1 o1)->
 let v9:Bool:=decide (50<=(i64.wrap (p2-p1)))
(v9=true->
(w0.length=w0.length)/\(GL w0/\(1<=v3/\v3+1<w0.length)/\w0.length<=1099511627776/\0<=(0:Int)/\(0:Int)<=100)/\let r10:Int:=((Sort.medianAdjacent ltA w0.toArray v3.toNat (0:Int).toNat).1:Int)
 let r11:Int:=((Sort.medianAdjacent ltA w0.toArray v3.toNat (0:Int).toNat).2:Int)
(w0.length=w0.length)/\(GL w0/\(1<=v5/\v5+1<w0.length)/\w0.length<=1099511627776/\0<=r11/\r11<=100)/\let r12:Int:=((Sort.medianAdjacent ltA w0.toArray v5.toNat r11.toNat).1:Int)
 let r13:Int:=((Sort.medianAdjacent ltA w0.toArray v5.toNat r11.toNat).2:Int)
(w0.length=w0.length)/\(GL w0/\(1<=v7/\v7+1<w0.length)/\w0.length<=1099511627776/\0<=r13/\r13<=100)/\let r14:Int:=((Sort.medianAdjacent ltA w0.toArray v7.toNat r13.toNat).1:Int)
 let r15:Int:=((Sort.medianAdjacent ltA w0.toArray v7.toNat r13.toNat).2:Int)
 J2 r10 r12 r14 r15 w0)/\
(v9=false->
 J2 v3 v5 v7 0 w0))/\
(v8=false->
 J1 v5 0 w0)) (by kernel_rfl)<|by
 rintro p1 p2 w0 h _ rfl _ rfl _ rfl
 obtain⟨hG,⟨h1,h2,h3⟩,h4⟩:=h
 have e1:=wi (p2-p1) (by omega) (by omega)
 have e3:Int.tdiv (p2-p1) 4=(p2-p1)/4:=Int.tdiv_eq_ediv_of_nonneg (by omega)
 have e4:=wi ((p2-p1)/4) (by omega) (by omega)
 have e5:=wi ((p2-p1)/4*1) (by omega) (by omega)
 have e6:=wi ((p2-p1)/4*2) (by omega) (by omega)
 have e7:=wi ((p2-p1)/4*3) (by omega) (by omega)
 have f5:=wi (p1+(p2-p1)/4*1) (by omega) (by omega)
 have f6:=wi (p1+(p2-p1)/4*2) (by omega) (by omega)
 have f7:=wi (p1+(p2-p1)/4*3) (by omega) (by omega)
 have hcp:cpS w0 p1 p2=Sort.choosePivot ltA w0.toArray p1.toNat p2.toNat:=rfl
 dsimp only
 rw[e1,e3,e4,e5,e6,e7,f5,f6,f7]
 have dq:(p2-p1)/4=(((p2.toNat-p1.toNat)/4:Nat):Int):=by omega
 intro J1 k1
 have j2:∀(r:Nat×Nat),cpS w0 p1 p2=(r.1,if r.2=0 then Sort.Hint.increasing else if r.2=12 then .decreasing else .unknown)->J1 (r.1:Int) (r.2:Int) w0:=by
  intro r hr
  refine k1 _ _ _ ?_
  rw[hr]
  refine⟨fun e=> ?_,fun e=>⟨fun e2=> ?_,fun e2=> ?_⟩⟩
  ·have e:(r.2:Int)=0:=by simpa using e
   rw[if_pos (by omega)]
   exact⟨rfl,rfl,rfl⟩
  ·have e:¬(r.2:Int)=0:=by simpa using e
   have e2:(r.2:Int)=12:=by simpa using e2
   rw[if_neg (by omega),if_pos (by omega)]
   exact⟨rfl,rfl,rfl⟩
  ·have e:¬(r.2:Int)=0:=by simpa using e
   have e2:¬(r.2:Int)=12:=by simpa using e2
   rw[if_neg (by omega),if_neg (by omega)]
   exact⟨rfl,rfl,rfl⟩
 refine⟨fun a J2 k2=> ?_,fun a=> ?_⟩
 ·have j1:∀(i j k s:Nat),(i<w0.length/\j<w0.length/\k<w0.length/\s<=100)->cpS w0 p1 p2=((Sort.median ltA w0.toArray i j k s).1,if(Sort.median ltA w0.toArray i j k s).2=0 then Sort.Hint.increasing else if(Sort.median ltA w0.toArray i j k s).2=12 then .decreasing else .unknown)->J2 (i:Int) (j:Int) (k:Int) (s:Int) w0:=by
   intro i j k s ⟨i1,i2,i3,i4⟩ hr
   refine k2 _ _ _ _ _ ⟨rfl,⟨hG,⟨by omega,by omega⟩,⟨by omega,by omega⟩,⟨by omega,by omega⟩,by omega,by omega⟩,?_⟩
   simp only[Int.toNat_natCast]
   exact j2 _ hr
  refine⟨fun b=> ?_,fun b=> ?_⟩
  ·have a:=of_decide_eq_true a
   have b:=of_decide_eq_true b
   have ei:(p1+(p2-p1)/4*1).toNat=p1.toNat+(p2.toNat-p1.toNat)/4*1:=by omega
   have ej:(p1+(p2-p1)/4*2).toNat=p1.toNat+(p2.toNat-p1.toNat)/4*2:=by omega
   have ek:(p1+(p2-p1)/4*3).toNat=p1.toNat+(p2.toNat-p1.toNat)/4*3:=by omega
   have key:=hcp
   unfold Sort.choosePivot at key
   simp only[if_pos (show p2.toNat-p1.toNat≥8 by omega),if_pos (show p2.toNat-p1.toNat≥50 by omega)]at key
   rw[<-ei,<-ej,<-ek]at key
   have r1:=k7q (d:=w0.toArray) (a:=(p1+(p2-p1)/4*1).toNat-1) (b:=(p1+(p2-p1)/4*1).toNat) (c:=(p1+(p2-p1)/4*1).toNat+1) (s:=0) (n:=w0.length) (by omega) (by omega) (by omega)
   have m1:Sort.medianAdjacent ltA w0.toArray (p1+(p2-p1)/4*1).toNat 0=Sort.median ltA w0.toArray ((p1+(p2-p1)/4*1).toNat-1) (p1+(p2-p1)/4*1).toNat ((p1+(p2-p1)/4*1).toNat+1) 0:=rfl
   rw[<-m1]at r1
   rw[show(0:Int).toNat=0 from rfl]
   generalize Sort.medianAdjacent ltA w0.toArray (p1+(p2-p1)/4*1).toNat 0=A at *
   have r2:=k7q (d:=w0.toArray) (a:=(p1+(p2-p1)/4*2).toNat-1) (b:=(p1+(p2-p1)/4*2).toNat) (c:=(p1+(p2-p1)/4*2).toNat+1) (s:=A.2) (n:=w0.length) (by omega) (by omega) (by omega)
   have m2:Sort.medianAdjacent ltA w0.toArray (p1+(p2-p1)/4*2).toNat A.2=Sort.median ltA w0.toArray ((p1+(p2-p1)/4*2).toNat-1) (p1+(p2-p1)/4*2).toNat ((p1+(p2-p1)/4*2).toNat+1) A.2:=rfl
   rw[<-m2]at r2
   simp only[Int.toNat_natCast]
   generalize Sort.medianAdjacent ltA w0.toArray (p1+(p2-p1)/4*2).toNat A.2=B at *
   have r3:=k7q (d:=w0.toArray) (a:=(p1+(p2-p1)/4*3).toNat-1) (b:=(p1+(p2-p1)/4*3).toNat) (c:=(p1+(p2-p1)/4*3).toNat+1) (s:=B.2) (n:=w0.length) (by omega) (by omega) (by omega)
   have m3:Sort.medianAdjacent ltA w0.toArray (p1+(p2-p1)/4*3).toNat B.2=Sort.median ltA w0.toArray ((p1+(p2-p1)/4*3).toNat-1) (p1+(p2-p1)/4*3).toNat ((p1+(p2-p1)/4*3).toNat+1) B.2:=rfl
   rw[<-m3]at r3
   generalize Sort.medianAdjacent ltA w0.toArray (p1+(p2-p1)/4*3).toNat B.2=C at *
   exact⟨by trivial,⟨hG,⟨by omega,by omega⟩,h4,by omega,by omega⟩,by trivial,⟨hG,⟨by omega,by omega⟩,h4,by omega,by omega⟩,by trivial,⟨hG,⟨by omega,by omega⟩,h4,by omega,by omega⟩,j1 _ _ _ _ ⟨r1.1,r2.1,r3.1,by omega⟩ key⟩
  ·have a:=of_decide_eq_true a
   have b:=of_decide_eq_false b
   have key:=hcp
   unfold Sort.choosePivot at key
   simp only[if_pos (show p2.toNat-p1.toNat≥8 by omega),if_neg (show¬p2.toNat-p1.toNat≥50 by omega)]at key
   have ei:p1+(p2-p1)/4*1=((p1.toNat+(p2.toNat-p1.toNat)/4*1:Nat):Int):=by omega
   have ej:p1+(p2-p1)/4*2=((p1.toNat+(p2.toNat-p1.toNat)/4*2:Nat):Int):=by omega
   have ek:p1+(p2-p1)/4*3=((p1.toNat+(p2.toNat-p1.toNat)/4*3:Nat):Int):=by omega
   rw[ei,ej,ek]
   exact j1 _ _ _ 0 ⟨by omega,by omega,by omega,by omega⟩ key
 ·have a:=of_decide_eq_false a
  have key:=hcp
  unfold Sort.choosePivot at key
  simp only[if_neg (show¬p2.toNat-p1.toNat≥8 by omega)]at key
  have ej:p1+(p2-p1)/4*2=((p1.toNat+(p2.toNat-p1.toNat)/4*2:Nat):Int):=by omega
  rw[ej]
  exact j2 (_,0) key
noncomputable def k34:Con TB.den:= .g ⟨98,[.one (.row 0),.one (zqi),.one (zqi),.one (zqi),.one (.clo 36 [none] [])],[.vec (.st 2)],(.tup []),[.vec (.st 2)],false⟩ [yqi,yqi,yqi,.sl (.st 2)] [.sl (.st 2)] [] fun(p1 p2 p3:Int) (w0:List wA)=>(GL w0/\(0<=p1/\p1<=1099511627776)/\(0<=p2/\0<=p3/\p3+p2<=w0.length)/\w0.length<=1099511627776,(sdS w0 p1 p2 p3:List wA),())
theorem k3a:k34.Ok Tryz.prog TB:=prv Bs Tryz.func98 (.r 0 (.lp [] ⟨[0],[.vec (.st 2)],[10],[.one (zqi)],[]⟩ (.r 1 (.jn ⟨[],[],[11],[.one (zqi)],[]⟩ [] (.jn ⟨[],[],[40],[.one (.d (.bool))],[]⟩ [] .no [] .no) [] .no)))) (kx.c c0) (Q:=∀(p1 p2 p3:Int) (w0:List wA),(GL w0/\(0<=p1/\p1<=1099511627776)/\(0<=p2/\0<=p3/\p3+p2<=w0.length)/\w0.length<=1099511627776)->∀e0:List wA,sdS w0 p1 p2 p3=e0-> 
 ∃(I1:Int->(List wA)->Prop) (M1:Int->(List wA)->Nat),I1 p1 w0/\∀(b1:Int) (f1:List wA),(I1 b1 f1->
 let v1:Int:=i64.wrap ((i64.wrap (2*b1))+1)
(decide (p2<=v1)=true->
 f1=e0)/\
(decide (p2<=v1)=false->
 ∀J1:Int->Prop,(∀(i1:Int),
((0<=i64.wrap (p3+b1)/\i64.wrap (p3+b1)<(w0.length:Int))/\(0<=i64.wrap (p3+b1)/\i64.wrap (p3+b1)<(f1.length:Int))/\(0<=i64.wrap (p3+i1)/\i64.wrap (p3+i1)<(w0.length:Int))/\(0<=i64.wrap (p3+i1)/\i64.wrap (p3+i1)<(f1.length:Int))/\(GE (ix f1 (i64.wrap (p3+b1)))/\GE (ix f1 (i64.wrap (p3+i1))))/\let r5:Int:=(cmpG (ix f1 (i64.wrap (p3+b1))) (ix f1 (i64.wrap (p3+i1))))
((!decide (r5<0))=true->
 f1=e0)/\
((!decide (r5<0))=false->
(0<=i64.wrap (p3+i1)/\i64.wrap (p3+i1)<(w0.length:Int))/\(0<=i64.wrap (p3+i1)/\i64.wrap (p3+i1)<(f1.length:Int))/\(0<=i64.wrap (p3+b1)/\i64.wrap (p3+b1)<(w0.length:Int))/\(0<=i64.wrap (p3+b1)/\i64.wrap (p3+b1)<(f1.length:Int))/\(0<=i64.wrap (p3+b1)/\i64.wrap (p3+b1)<(w0.length:Int))/\(0<=i64.wrap (p3+b1)/\i64.wrap (p3+b1)<(f1.length:Int))/\(0<=i64.wrap (p3+i1)/\i64.wrap (p3+i1)<(w0.length:Int))/\(0<=i64.wrap (p3+i1)/\i64.wrap (p3+i1)<((f1.set (i64.wrap (p3+b1)).toNat (ix f1 (i64.wrap (p3+i1)))).length:Int))/\I1 i1 ((f1.set (i64.wrap (p3+b1)).toNat (ix f1 (i64.wrap (p3+i1)))).set (i64.wrap (p3+i1)).toNat (ix f1 (i64.wrap (p3+b1))))/\M1 i1 ((f1.set (i64.wrap (p3+b1)).toNat (ix f1 (i64.wrap (p3+i1)))).set (i64.wrap (p3+i1)).toNat (ix f1 (i64.wrap (p3+b1))))<M1 b1 f1))->J1 i1)->
 ∀J2:Bool->Prop,(∀(k1:Bool),
((k1=true->
 J1 (i64.wrap (v1+1)))/\
(k1=false->
 J1 v1))->J2 k1)->
 let v2:Bool:=decide ((i64.wrap (v1+1))<p2)
(v2=true->
(0<=i64.wrap (p3+v1)/\i64.wrap (p3+v1)<(w0.length:Int))/\(0<=i64.wrap (p3+v1)/\i64.wrap (p3+v1)<(f1.length:Int))/\let v3:Int:=i64.wrap ((i64.wrap (p3+v1))+1)
(0<=v3/\v3<(w0.length:Int))/\(0<=v3/\v3<(f1.length:Int))/\(GE (ix f1 (i64.wrap (p3+v1)))/\GE (ix f1 v3))/\let r4:Int:=(cmpG (ix f1 (i64.wrap (p3+v1))) (ix f1 v3))
 J2 (decide (r4<0)))/\
(v2=false->
 J2 false)))) (by kernel_rfl)<|by
 rintro p1 p2 p3 w0 h _ rfl
 obtain⟨hG,⟨h0,h1⟩,⟨h2,h3,h4⟩,h5⟩:=h
 refine⟨fun root g=>(0<=root/\root<=1099511627776)/\(g.length=w0.length/\GL g)/\Sort.siftDown ltA p2.toNat p3.toNat root.toNat g.toArray=Sort.siftDown ltA p2.toNat p3.toNat p1.toNat w0.toArray,fun root _=>(p2-root).toNat,⟨⟨h0,h1⟩,⟨rfl,hG⟩,rfl⟩,?_⟩
 rintro root g ⟨⟨g0,g1⟩,⟨g2,gG⟩,g3⟩
 rw[wi (2*root) (by omega) (by omega),wi (2*root+1) (by omega) (by omega)]
 dsimp only
 rw[wi (2*root+1+1) (by omega) (by omega)]
 refine⟨fun hh=> ?_,fun hh=> ?_⟩
 ·have hh:=of_decide_eq_true hh
  rw[kf8 g0 hh]at g3
  unfold sdS
  rw[<-g3]
 have hh:=of_decide_eq_false hh
 have hc:=chS_rng (g:=g) (hi:=p2) (first:=p3) (root:=root) (by omega)
 rw[kh2 g0 h3 (by omega) (by omega)]at g3
 intro J1 k1
 have key:∀c:Int,c=chS g p2 p3 root->J1 c:=by
  rintro c rfl
  rw[<-wi (p3+root) (by omega) (by omega)]at g3
  rw[<-wi (p3+chS g p2 p3 root) (by omega) (by omega)]at g3
  have w1:=wi (p3+root) (by omega) (by omega)
  have w2:=wi (p3+chS g p2 p3 root) (by omega) (by omega)
  generalize hcc:chS g p2 p3 root=c at *
  refine k1 _ ?_
  generalize i64.wrap (p3+root)=u at *
  generalize i64.wrap (p3+c)=v at *
  refine⟨⟨by omega,by omega⟩,⟨by omega,by omega⟩,⟨by omega,by omega⟩,⟨by omega,by omega⟩,⟨gG.ix (by omega) (by omega),gG.ix (by omega) (by omega)⟩,fun e=> ?_,fun e=> ?_⟩
  ·have e:¬ix g u<ix g v:=nlt_of e
   rw[if_neg e]at g3
   unfold sdS
   rw[<-g3]
  ·have e:ix g u<ix g v:=lt_of e
   rw[if_pos e]at g3
   exact⟨⟨by omega,by omega⟩,⟨by omega,by omega⟩,⟨by omega,by omega⟩,⟨by omega,by omega⟩,⟨by omega,by omega⟩,⟨by omega,by omega⟩,⟨by omega,by omega⟩,⟨by omega,by rw[List.length_set];omega⟩,⟨⟨by omega,by omega⟩,⟨by rw[List.length_set,List.length_set];exact g2,gG.swp (by omega) (by omega) (by omega) (by omega)⟩,g3⟩,by omega⟩
 intro J2 k2
 have j1:∀s:Bool,(s=true↔(2*root+2<p2/\ix g (p3+(2*root+1))<ix g (p3+(2*root+1)+1)))->J2 s:=by
  intro s hs
  refine k2 _ ⟨fun e=>key _ ?_,fun e=>key _ (Eq.symm (if_neg fun q=>by rw[hs.2 q]at e;cases e))⟩
  unfold Go.Md.chS
  rw[if_pos (hs.1 e)]
  omega
 refine⟨fun e=> ?_,fun e=> ?_⟩
 ·have e:=of_decide_eq_true e
  have w1:=wi (p3+(2*root+1)) (by omega) (by omega)
  rw[w1,wi (p3+(2*root+1)+1) (by omega) (by omega)]
  refine⟨⟨by omega,by omega⟩,⟨by omega,by omega⟩,⟨by omega,by omega⟩,⟨by omega,by omega⟩,⟨gG.ix (by omega) (by omega),gG.ix (by omega) (by omega)⟩,?_⟩
  exact j1 _ ⟨fun q=>⟨by omega,of_decide_eq_true q⟩,fun q=>decide_eq_true q.2⟩
 ·have e:=of_decide_eq_false e
  exact j1 _ ⟨fun q=>(by cases q),fun q=>absurd q.1 (by omega)⟩
noncomputable def k36:Con TB.den:= .g ⟨80,[.one (.row 0),.one (zqi),.one (zqi),.one (.clo 36 [none] [])],[.vec (.st 2)],(.tup []),[.vec (.st 2)],false⟩ [yqi,yqi,.sl (.st 2)] [.sl (.st 2)] [] fun(p1 p2:Int) (w0:List wA)=>(GL w0/\(0<=p1/\p1<p2/\p2<=w0.length)/\w0.length<=1099511627776,(heapS w0 p1 p2:List wA),())
theorem k3c:k36.Ok Tryz.prog TB:=prv Bs Tryz.func80 (.r 2 (.nd [] (.r 0 (.lp [] ⟨[0],[.vec (.st 2)],[11],[.one (zqi)],[]⟩ .no)) [] (.r 0 (.lp [] ⟨[0],[.vec (.st 2)],[12],[.one (zqi)],[]⟩ .no)))) (k3a.c c0) (Q:=∀(p1 p2:Int) (w0:List wA),(GL w0/\(0<=p1/\p1<p2/\p2<=w0.length)/\w0.length<=1099511627776)->∀e0:List wA,heapS w0 p1 p2=e0-> 
 let v1:Int:=i64.wrap ((i64.wrap (p2-p1))-1)
 ∃(I1:Int->(List wA)->Prop) (M1:Int->(List wA)->Nat),I1 (i64.wrap (Int.tdiv v1 2)) w0/\∀(b1:Int) (f1:List wA),(I1 b1 f1->
(decide (0<=b1)=true->
(w0.length=f1.length)/\(GL f1/\(0<=b1/\b1<=1099511627776)/\(0<=(i64.wrap (p2-p1))/\0<=p1/\p1+(i64.wrap (p2-p1))<=f1.length)/\f1.length<=1099511627776)/\let r2:List wA:=(sdS f1 b1 (i64.wrap (p2-p1)) p1)
 I1 (i64.wrap (b1-1)) r2/\M1 (i64.wrap (b1-1)) r2<M1 b1 f1)/\
(decide (0<=b1)=false->
 let v3:Int:=i64.wrap ((i64.wrap (p2-p1))-1)
 ∃(I2:Int->(List wA)->Prop) (M2:Int->(List wA)->Nat),I2 v3 f1/\∀(i1:Int) (k1:List wA),(I2 i1 k1->
(decide (0<=i1)=true->
(0<=i64.wrap (p1+i1)/\i64.wrap (p1+i1)<(w0.length:Int))/\(0<=i64.wrap (p1+i1)/\i64.wrap (p1+i1)<(k1.length:Int))/\(0<=p1/\p1<(w0.length:Int))/\(0<=p1/\p1<(k1.length:Int))/\(0<=p1/\p1<(w0.length:Int))/\(0<=p1/\p1<(k1.length:Int))/\(0<=i64.wrap (p1+i1)/\i64.wrap (p1+i1)<(w0.length:Int))/\(0<=i64.wrap (p1+i1)/\i64.wrap (p1+i1)<((k1.set p1.toNat (ix k1 (i64.wrap (p1+i1)))).length:Int))/\(w0.length=((k1.set p1.toNat (ix k1 (i64.wrap (p1+i1)))).set (i64.wrap (p1+i1)).toNat (ix k1 p1)).length)/\(GL ((k1.set p1.toNat (ix k1 (i64.wrap (p1+i1)))).set (i64.wrap (p1+i1)).toNat (ix k1 p1))/\(0<=(0:Int)/\(0:Int)<=1099511627776)/\(0<=i1/\0<=p1/\p1+i1<=((k1.set p1.toNat (ix k1 (i64.wrap (p1+i1)))).set (i64.wrap (p1+i1)).toNat (ix k1 p1)).length)/\((k1.set p1.toNat (ix k1 (i64.wrap (p1+i1)))).set (i64.wrap (p1+i1)).toNat (ix k1 p1)).length<=1099511627776)/\let r4:List wA:=(sdS ((k1.set p1.toNat (ix k1 (i64.wrap (p1+i1)))).set (i64.wrap (p1+i1)).toNat (ix k1 p1)) (0:Int) i1 p1)
 I2 (i64.wrap (i1-1)) r4/\M2 (i64.wrap (i1-1)) r4<M2 i1 k1)/\
(decide (0<=i1)=false->
 k1=e0))))) (by kernel_rfl)<|by
 rintro p1 p2 w0 h _ rfl
 obtain⟨hG,⟨h1,h2,h3⟩,h4⟩:=h
 have e1:=wi (p2-p1) (by omega) (by omega)
 have e2:=wi (p2-p1-1) (by omega) (by omega)
 have e3:Int.tdiv (p2-p1-1) 2=(p2-p1-1)/2:=Int.tdiv_eq_ediv_of_nonneg (by omega)
 have e4:=wi ((p2-p1-1)/2) (by omega) (by omega)
 dsimp only
 rw[e1,e2,e3,e4]
 refine⟨(fun i g=>(-1<=i/\i<=1099511627776)/\(g.length=w0.length/\GL g)/\Sort.heapPop ltA p1.toNat (p2-p1).toNat (Sort.heapBuild ltA (p2-p1).toNat p1.toNat (i+1).toNat g.toArray)=Sort.heapSort ltA w0.toArray p1.toNat p2.toNat),(fun i _=>(i+1).toNat),⟨⟨by omega,by omega⟩,⟨rfl,hG⟩,?_⟩,?_⟩
 ·unfold Sort.heapSort
  rw[show(p2-p1).toNat=p2.toNat-p1.toNat by omega,show((p2-p1-1)/2+1).toNat=(p2.toNat-p1.toNat-1)/2+1 by omega]
 rintro i g ⟨⟨g0,g1⟩,⟨g2,gG⟩,g3⟩
 refine⟨fun hh=> ?_,fun hh=> ?_⟩
 ·have hh:=of_decide_eq_true hh
  rw[kei hh]at g3
  have hl:(sdS g i (p2-p1) p1).length=g.length:=sdS_len
  refine⟨g2.symm,⟨gG,⟨by omega,by omega⟩,⟨by omega,by omega,by omega⟩,by omega⟩,?_⟩
  dsimp only
  rw[wi (i-1) (by omega) (by omega)]
  refine⟨⟨⟨by omega,by omega⟩,⟨hl.trans g2,gG.sd (by omega) (by omega) (by omega)⟩,?_⟩,by omega⟩
  rw[show(i-1+1).toNat=i.toNat by omega]
  exact g3
 ·have hh:=of_decide_eq_false hh
  rw[show(i+1).toNat=0 by omega,Sort.heapBuild]at g3
  refine⟨(fun i g=>(-1<=i/\i<p2-p1)/\(g.length=w0.length/\GL g)/\Sort.heapPop ltA p1.toNat (i+1).toNat g.toArray=Sort.heapSort ltA w0.toArray p1.toNat p2.toNat),(fun i _=>(i+1).toNat),⟨⟨by omega,by omega⟩,⟨g2,gG⟩,by rw[show(p2-p1-1+1).toNat=(p2-p1).toNat by omega];exact g3⟩,?_⟩
  rintro i g ⟨⟨g0,g1⟩,⟨g2,gG⟩,g3⟩
  refine⟨fun hh=> ?_,fun hh=> ?_⟩
  ·have hh:=of_decide_eq_true hh
   rw[kit hh]at g3
   have w1:=wi (p1+i) (by omega) (by omega)
   rw[w1]
   have hs:=swp_arr (g:=g) (i:=p1) (j:=p1+i) (by omega) (by omega) (by omega) (by omega)
   rw[show p1.toNat+i.toNat=(p1+i).toNat by omega,hs]at g3
   have gW:GL (swpL g p1 (p1+i)):=gG.swp (by omega) (by omega) (by omega) (by omega)
   have hl0:(swpL g p1 (p1+i)).length=g.length:=k7j
   have hl:(sdS (swpL g p1 (p1+i)) 0 i p1).length=(swpL g p1 (p1+i)).length:=sdS_len
   refine⟨⟨by omega,by omega⟩,⟨by omega,by omega⟩,⟨by omega,by omega⟩,⟨by omega,by omega⟩,⟨by omega,by omega⟩,⟨by omega,by omega⟩,⟨by omega,by omega⟩,⟨by omega,by rw[List.length_set];omega⟩,by rw[List.length_set,List.length_set,g2],⟨gW,⟨by omega,by omega⟩,⟨by omega,by omega,?_⟩,?_⟩,?_⟩
   ·rw[List.length_set,List.length_set];omega
   ·rw[List.length_set,List.length_set];omega
   dsimp only
   rw[wi (i-1) (by omega) (by omega)]
   refine⟨⟨⟨by omega,by omega⟩,⟨(hl.trans hl0).trans g2,gW.sd (by omega) (by omega) (by omega)⟩,?_⟩,by omega⟩
   rw[show(i-1+1).toNat=i.toNat by omega]
   exact g3
  ·have hh:=of_decide_eq_false hh
   rw[show(i+1).toNat=0 by omega,Sort.heapPop]at g3
   unfold heapS
   rw[<-g3]
noncomputable def k22:Con TB.den:= .g ⟨79,[.one (.row 0),.one (zqi),.one (zqi),.one (.clo 36 [none] [])],[.vec (.st 2)],(.tup []),[.vec (.st 2)],false⟩ [yqi,yqi,.sl (.st 2)] [.sl (.st 2)] [] fun(p1 p2:Int) (w0:List wA)=>(GL w0/\(0<=p1/\p1<=p2/\p2<=w0.length)/\w0.length<=1099511627776,(insS w0 p1 p2:List wA),())
theorem k2b:k22.Ok Tryz.prog TB:=prv Bs Tryz.func79 (.r 0 (.lp [] ⟨[0],[.vec (.st 2)],[8],[.one (zqi)],[]⟩ (.r 0 (.nd [] (.r 0 (.lp [] ⟨[0],[.vec (.st 2)],[9],[.one (zqi)],[]⟩ .no)) [] .no)))) (kx.c c0) (Q:=∀(p1 p2:Int) (w0:List wA),(GL w0/\(0<=p1/\p1<=p2/\p2<=w0.length)/\w0.length<=1099511627776)->∀e0:List wA,insS w0 p1 p2=e0-> 
 ∃(I1:Int->(List wA)->Prop) (M1:Int->(List wA)->Nat),I1 (i64.wrap (p1+1)) w0/\∀(b1:Int) (f1:List wA),(I1 b1 f1->
(decide (b1<p2)=true->
 ∃(I2:Int->(List wA)->Prop) (M2:Int->(List wA)->Nat),I2 b1 f1/\∀(i1:Int) (k1:List wA),(I2 i1 k1->
(decide (p1<i1)=true->
(0<=i1/\i1<(w0.length:Int))/\(0<=i1/\i1<(k1.length:Int))/\(0<=i64.wrap (i1-1)/\i64.wrap (i1-1)<(w0.length:Int))/\(0<=i64.wrap (i1-1)/\i64.wrap (i1-1)<(k1.length:Int))/\(GE (ix k1 i1)/\GE (ix k1 (i64.wrap (i1-1))))/\let r1:Int:=(cmpG (ix k1 i1) (ix k1 (i64.wrap (i1-1))))
(decide (r1<0)=true->
(0<=i64.wrap (i1-1)/\i64.wrap (i1-1)<(w0.length:Int))/\(0<=i64.wrap (i1-1)/\i64.wrap (i1-1)<(k1.length:Int))/\(0<=i1/\i1<(w0.length:Int))/\(0<=i1/\i1<(k1.length:Int))/\(0<=i1/\i1<(w0.length:Int))/\(0<=i1/\i1<(k1.length:Int))/\(0<=i64.wrap (i1-1)/\i64.wrap (i1-1)<(w0.length:Int))/\(0<=i64.wrap (i1-1)/\i64.wrap (i1-1)<((k1.set i1.toNat (ix k1 (i64.wrap (i1-1)))).length:Int))/\I2 (i64.wrap (i1-1)) ((k1.set i1.toNat (ix k1 (i64.wrap (i1-1)))).set (i64.wrap (i1-1)).toNat (ix k1 i1))/\M2 (i64.wrap (i1-1)) ((k1.set i1.toNat (ix k1 (i64.wrap (i1-1)))).set (i64.wrap (i1-1)).toNat (ix k1 i1))<M2 i1 k1)/\
(decide (r1<0)=false->
 I1 (i64.wrap (b1+1)) k1/\M1 (i64.wrap (b1+1)) k1<M1 b1 f1))/\
(decide (p1<i1)=false->
 I1 (i64.wrap (b1+1)) k1/\M1 (i64.wrap (b1+1)) k1<M1 b1 f1)))/\
(decide (b1<p2)=false->
 f1=e0))) (by kernel_rfl)<|by
 rintro p1 p2 w0 h _ rfl
 obtain⟨hG,⟨h1,h2,h3⟩,h4⟩:=h
 rw[wi (p1+1) (by omega) (by omega)]
 refine⟨(fun i g=>(p1+1<=i/\i<=1099511627777)/\(g.length=w0.length/\GL g)/\Sort.insOuter ltA p1.toNat p2.toNat i.toNat g.toArray=Sort.insertionSort ltA w0.toArray p1.toNat p2.toNat),(fun i _=>(1099511627778-i).toNat),⟨⟨by omega,by omega⟩,⟨rfl,hG⟩,by unfold Sort.insertionSort;rw[show(p1+1).toNat=p1.toNat+1 by omega]⟩,?_⟩
 rintro i g ⟨⟨g0,g1⟩,⟨g2,gH⟩,g3⟩
 refine⟨fun hh=> ?_,fun hh=> ?_⟩
 ·have hh:=of_decide_eq_true hh
  rw[khr (by omega) hh]at g3
  refine⟨(fun j g' =>(p1<=j/\j<=i)/\(g'.length=w0.length/\GL g')/\Sort.insInner ltA p1.toNat j.toNat g'.toArray=Sort.insInner ltA p1.toNat i.toNat g.toArray),(fun j _=>j.toNat),⟨⟨by omega,by omega⟩,⟨g2,gH⟩,rfl⟩,?_⟩
  rintro j g' ⟨⟨k0,k1⟩,⟨k2,gG⟩,k3⟩
  have nxt:g'.toArray=Sort.insInner ltA p1.toNat i.toNat g.toArray->((p1+1<=i64.wrap (i+1)/\i64.wrap (i+1)<=1099511627777)/\(g'.length=w0.length/\GL g')/\Sort.insOuter ltA p1.toNat p2.toNat (i64.wrap (i+1)).toNat g'.toArray=Sort.insertionSort ltA w0.toArray p1.toNat p2.toNat)/\(1099511627778-i64.wrap (i+1)).toNat<(1099511627778-i).toNat:=by
   intro e
   rw[wi (i+1) (by omega) (by omega),e]
   exact⟨⟨⟨by omega,by omega⟩,⟨k2,gG⟩,g3⟩,by omega⟩
  refine⟨fun h2=> ?_,fun h2=> ?_⟩
  ·have h2:=of_decide_eq_true h2
   rw[wi (j-1) (by omega) (by omega)]
   rw[khs h1 h2 (by omega)]at k3
   refine⟨⟨by omega,by omega⟩,⟨by omega,by omega⟩,⟨by omega,by omega⟩,⟨by omega,by omega⟩,⟨gG.ix (by omega) (by omega),gG.ix (by omega) (by omega)⟩,fun h5=> ?_,fun h5=> ?_⟩
   ·have h5:ix g' j<ix g' (j-1):=of_decide_eq_true h5
    rw[if_pos h5]at k3
    exact⟨⟨by omega,by omega⟩,⟨by omega,by omega⟩,⟨by omega,by omega⟩,⟨by omega,by omega⟩,⟨by omega,by omega⟩,⟨by omega,by omega⟩,⟨by omega,by omega⟩,⟨by omega,by rw[List.length_set];omega⟩,⟨⟨by omega,by omega⟩,⟨by rw[List.length_set,List.length_set];exact k2,gG.swp (by omega) (by omega) (by omega) (by omega)⟩,k3⟩,by(dsimp only;omega)⟩
   ·have h5:¬ix g' j<ix g' (j-1):=of_decide_eq_false h5
    rw[if_neg h5]at k3
    exact nxt k3
  ·have h2:=of_decide_eq_false h2
   rw[kge h2]at k3
   exact nxt k3
 ·have hh:=of_decide_eq_false hh
  rw[kg3 (by omega) hh]at g3
  unfold insS
  rw[<-g3]
noncomputable def k1g:Con TB.den:= .b ⟨84,[.one (.row 0),.one (zqi),.one (zqi),.one (.clo 36 [none] [])],[.vec (.st 2)],(.one (.one (.d (.bool)))),[.vec (.st 2)],false⟩ [yqi,yqi,.sl (.st 2)] [.bool,.sl (.st 2)] fun(p1 p2:Int) (w0:List wA)=>(GL w0/\(0<=p1/\p1<p2/\p2<=w0.length)/\w0.length<=1099511627776,pisS w0 p1 p2,fun R=>(R.2,R.1.toList,()))
set_option maxHeartbeats 1000000 in
theorem k1l:k1g.Ok Tryz.prog TB:=pbv Bs Tryz.func84 (.r 1 (.nd [] (.r 0 (.lp [] ⟨[0],[.vec (.st 2)],[9,10],[.one (zqi),.one (zqi)],[]⟩ (.r 0 (.nd [] (.jn ⟨[],[],[9],[.one (zqi)],[]⟩ [] (.lp [] ⟨[],[],[9],[.one (zqi)],[]⟩ .no) [] (.r 2 (.jn ⟨[0],[.vec (.st 2)],[],[],[]⟩ [] (.r 0 (.nd [] (.r 0 (.lp [] ⟨[0],[.vec (.st 2)],[11],[.one (zqi)],[]⟩ .no)) [] .no)) [] (.r 0 (.nd [] (.r 0 (.lp [] ⟨[0],[.vec (.st 2)],[12],[.one (zqi)],[]⟩ .no)) [] .no))))) [] .no)))) [] .no)) (kx.c c0) (Q:=∀(p1 p2:Int) (w0:List wA),(GL w0/\(0<=p1/\p1<p2/\p2<=w0.length)/\w0.length<=1099511627776)->∀R,pisS w0 p1 p2=R-> 
 ∃(I1:Int->Int->(List wA)->Prop) (M1:Int->Int->(List wA)->Nat),I1 (i64.wrap (p1+1)) 0 w0/\∀(b1 f1:Int) (i1:List wA),(I1 b1 f1 i1->
(decide (f1<5)=true->
 ∀J1:Int->Prop,(∀(k1:Int),
(((k1==p2)=true->
 true=R.2/\i1=R.1.toList)/\
((k1==p2)=false->
 let v2:Bool:=decide ((i64.wrap (p2-p1))<50)
(v2=true->
 false=R.2/\i1=R.1.toList)/\
(v2=false->
(0<=i64.wrap (k1-1)/\i64.wrap (k1-1)<(w0.length:Int))/\(0<=i64.wrap (k1-1)/\i64.wrap (k1-1)<(i1.length:Int))/\(0<=k1/\k1<(w0.length:Int))/\(0<=k1/\k1<(i1.length:Int))/\(0<=k1/\k1<(w0.length:Int))/\(0<=k1/\k1<(i1.length:Int))/\(0<=i64.wrap (k1-1)/\i64.wrap (k1-1)<(w0.length:Int))/\(0<=i64.wrap (k1-1)/\i64.wrap (k1-1)<((i1.set k1.toNat (ix i1 (i64.wrap (k1-1)))).length:Int))/\∀J2:(List wA)->Prop,(∀(m1:List wA),
(let v5:Bool:=decide (2<=(i64.wrap (p2-k1)))
(v5=true->
 ∃(I4:Int->(List wA)->Prop) (M4:Int->(List wA)->Nat),I4 (i64.wrap (k1+1)) m1/\∀(q1:Int) (s1:List wA),(I4 q1 s1->
(decide (q1<p2)=true->
(0<=q1/\q1<(w0.length:Int))/\(0<=q1/\q1<(s1.length:Int))/\(0<=i64.wrap (q1-1)/\i64.wrap (q1-1)<(w0.length:Int))/\(0<=i64.wrap (q1-1)/\i64.wrap (q1-1)<(s1.length:Int))/\(GE (ix s1 q1)/\GE (ix s1 (i64.wrap (q1-1))))/\let r6:Int:=(cmpG (ix s1 q1) (ix s1 (i64.wrap (q1-1))))
((!decide (r6<0))=true->
 I1 k1 (i64.wrap (f1+1)) s1/\M1 k1 (i64.wrap (f1+1)) s1<M1 b1 f1 i1)/\
((!decide (r6<0))=false->
(0<=i64.wrap (q1-1)/\i64.wrap (q1-1)<(w0.length:Int))/\(0<=i64.wrap (q1-1)/\i64.wrap (q1-1)<(s1.length:Int))/\(0<=q1/\q1<(w0.length:Int))/\(0<=q1/\q1<(s1.length:Int))/\(0<=q1/\q1<(w0.length:Int))/\(0<=q1/\q1<(s1.length:Int))/\(0<=i64.wrap (q1-1)/\i64.wrap (q1-1)<(w0.length:Int))/\(0<=i64.wrap (q1-1)/\i64.wrap (q1-1)<((s1.set q1.toNat (ix s1 (i64.wrap (q1-1)))).length:Int))/\I4 (i64.wrap (q1+1)) ((s1.set q1.toNat (ix s1 (i64.wrap (q1-1)))).set (i64.wrap (q1-1)).toNat (ix s1 q1))/\M4 (i64.wrap (q1+1)) ((s1.set q1.toNat (ix s1 (i64.wrap (q1-1)))).set (i64.wrap (q1-1)).toNat (ix s1 q1))<M4 q1 s1))/\
(decide (q1<p2)=false->
 I1 k1 (i64.wrap (f1+1)) s1/\M1 k1 (i64.wrap (f1+1)) s1<M1 b1 f1 i1)))/\
(v5=false->
 I1 k1 (i64.wrap (f1+1)) m1/\M1 k1 (i64.wrap (f1+1)) m1<M1 b1 f1 i1))->J2 m1)->
 let v3:Bool:=decide (2<=(i64.wrap (k1-p1)))
(v3=true->
 ∃(I3:Int->(List wA)->Prop) (M3:Int->(List wA)->Nat),I3 (i64.wrap (k1-1)) ((i1.set k1.toNat (ix i1 (i64.wrap (k1-1)))).set (i64.wrap (k1-1)).toNat (ix i1 k1))/\∀(n1:Int) (o1:List wA),(I3 n1 o1->
(decide (1<=n1)=true->
(0<=n1/\n1<(w0.length:Int))/\(0<=n1/\n1<(o1.length:Int))/\(0<=i64.wrap (n1-1)/\i64.wrap (n1-1)<(w0.length:Int))/\(0<=i64.wrap (n1-1)/\i64.wrap (n1-1)<(o1.length:Int))/\(GE (ix o1 n1)/\GE (ix o1 (i64.wrap (n1-1))))/\let r4:Int:=(cmpG (ix o1 n1) (ix o1 (i64.wrap (n1-1))))
((!decide (r4<0))=true->
 J2 o1)/\
((!decide (r4<0))=false->
(0<=i64.wrap (n1-1)/\i64.wrap (n1-1)<(w0.length:Int))/\(0<=i64.wrap (n1-1)/\i64.wrap (n1-1)<(o1.length:Int))/\(0<=n1/\n1<(w0.length:Int))/\(0<=n1/\n1<(o1.length:Int))/\(0<=n1/\n1<(w0.length:Int))/\(0<=n1/\n1<(o1.length:Int))/\(0<=i64.wrap (n1-1)/\i64.wrap (n1-1)<(w0.length:Int))/\(0<=i64.wrap (n1-1)/\i64.wrap (n1-1)<((o1.set n1.toNat (ix o1 (i64.wrap (n1-1)))).length:Int))/\I3 (i64.wrap (n1-1)) ((o1.set n1.toNat (ix o1 (i64.wrap (n1-1)))).set (i64.wrap (n1-1)).toNat (ix o1 n1))/\M3 (i64.wrap (n1-1)) ((o1.set n1.toNat (ix o1 (i64.wrap (n1-1)))).set (i64.wrap (n1-1)).toNat (ix o1 n1))<M3 n1 o1))/\
(decide (1<=n1)=false->
 J2 o1)))/\
(v3=false->
 J2 ((i1.set k1.toNat (ix i1 (i64.wrap (k1-1)))).set (i64.wrap (k1-1)).toNat (ix i1 k1))))))->J1 k1)->
 ∃(I2:Int->Prop) (M2:Int->Nat),I2 b1/\∀(l1:Int),(I2 l1->
(decide (l1<p2)=true->
(0<=l1/\l1<(w0.length:Int))/\(0<=l1/\l1<(i1.length:Int))/\(0<=i64.wrap (l1-1)/\i64.wrap (l1-1)<(w0.length:Int))/\(0<=i64.wrap (l1-1)/\i64.wrap (l1-1)<(i1.length:Int))/\(GE (ix i1 l1)/\GE (ix i1 (i64.wrap (l1-1))))/\let r1:Int:=(cmpG (ix i1 l1) (ix i1 (i64.wrap (l1-1))))
((!decide (r1<0))=true->
 I2 (i64.wrap (l1+1))/\M2 (i64.wrap (l1+1))<M2 l1)/\
((!decide (r1<0))=false->
 J1 l1))/\
(decide (l1<p2)=false->
 J1 l1)))/\
(decide (f1<5)=false->
 false=R.2/\i1=R.1.toList))) (by kernel_rfl)<|by
 rintro p1 p2 w0 h R hR
 obtain⟨hG,⟨h1,h2,h3⟩,h4⟩:=h
 rw[wi (p1+1) (by omega) (by omega)]
 have hst:R=Sort.partialIns ltA p1.toNat p2.toNat 5 (p1.toNat+1) w0.toArray:=hR.symm
 clear hR
 refine⟨fun i jj g=>(p1<i/\i<=p2)/\(0<=jj/\jj<=5)/\(g.length=w0.length/\GL g)/\R=Sort.partialIns ltA p1.toNat p2.toNat (5-jj).toNat i.toNat g.toArray,fun _ jj _=>(5-jj).toNat,⟨⟨by omega,by omega⟩,⟨by omega,by omega⟩,⟨rfl,hG⟩,by rw[hst,show(p1+1).toNat=p1.toNat+1 by omega];rfl⟩,?_⟩
 clear hst
 rintro i jj g ⟨⟨i0,i1⟩,⟨j0,j1⟩,⟨g2,gG⟩,g3⟩
 refine⟨fun hh J1 kJ1=> ?_,fun hh=> ?_⟩
 ·have hh:=of_decide_eq_true hh
  rw[show(5-jj).toNat=(5-(jj+1)).toNat+1 by omega,Sort.partialIns_succ]at g3
  have wj:=wi (jj+1) (by omega) (by omega)
  have last:∀(i' :Int) (g' :List wA),(p1<i'/\i'<=p2)->(g'.length=w0.length/\GL g')->R=Sort.partialIns ltA p1.toNat p2.toNat (5-(jj+1)).toNat i'.toNat g'.toArray->(((p1<i'/\i'<=p2)/\(0<=i64.wrap (jj+1)/\i64.wrap (jj+1)<=5)/\(g'.length=w0.length/\GL g')/\R=Sort.partialIns ltA p1.toNat p2.toNat (5-i64.wrap (jj+1)).toNat i'.toNat g'.toArray)/\(5-i64.wrap (jj+1)).toNat<(5-jj).toNat):=by
   intro i' g' q1 q2 q3
   rw[wj]
   exact⟨⟨q1,⟨by omega,by omega⟩,q2,q3⟩,by omega⟩
  have jj1:∀i' :Int,(p1<i'/\i'<=p2)->Sort.scanSorted ltA g.toArray p2.toNat i.toNat=i'.toNat->J1 i' :=by
   intro i' ⟨q0,q1⟩ q2
   rw[q2]at g3
   refine kJ1 _ ?_
   rw[wi (p2-p1) (by omega) (by omega),wi (i' -1) (by omega) (by omega),wi (i' -p1) (by omega) (by omega)]
   refine⟨fun e=> ?_,fun e=>⟨fun e2=> ?_,fun e2=> ?_⟩⟩
   ·have e:i' =p2:=by simpa using e
    rw[if_pos (by omega)]at g3
    rw[g3]
    exact⟨rfl,rfl⟩
   ·have e:¬i' =p2:=by simpa using e
    have e2:=of_decide_eq_true e2
    rw[if_neg (by omega),if_pos (by omega)]at g3
    rw[g3]
    exact⟨rfl,rfl⟩
   ·have e:¬i' =p2:=by simpa using e
    have e2:=of_decide_eq_false e2
    rw[if_neg (by omega),if_neg (by omega)]at g3
    have hs:=swp_arr (g:=g) (i:=i') (j:=i' -1) (by omega) (by omega) (by omega) (by omega)
    rw[show i'.toNat-1=(i' -1).toNat by omega,hs]at g3
    have sl:(swpL g i' (i' -1)).length=w0.length/\GL (swpL g i' (i' -1)):=⟨by rw[k7j];exact g2,gG.swp (by omega) (by omega) (by omega) (by omega)⟩
    refine⟨⟨by omega,by omega⟩,⟨by omega,by omega⟩,⟨by omega,by omega⟩,⟨by omega,by omega⟩,⟨by omega,by omega⟩,⟨by omega,by omega⟩,⟨by omega,by omega⟩,⟨by omega,by rw[List.length_set];omega⟩,fun J2 kJ2=> ?_⟩
    have j2:∀g' :List wA,(g'.length=w0.length/\GL g')->R=Sort.partialIns ltA p1.toNat p2.toNat (5-(jj+1)).toNat i'.toNat (Sort.fixUp ltA p2.toNat i'.toNat g'.toArray)->J2 g' :=by
     intro g' q2 q3
     refine kJ2 _ ?_
     rw[wi (p2-i') (by omega) (by omega),wi (i' +1) (by omega) (by omega)]
     refine⟨fun e=> ?_,fun e=>last _ _ ⟨q0,by omega⟩ q2 ?_⟩
     ·have e:=of_decide_eq_true e
      unfold Sort.fixUp at q3
      rw[if_pos (by omega),show i'.toNat+1=(i' +1).toNat by omega]at q3
      refine⟨fun k g2=>(i' +1<=k/\k<=p2)/\(g2.length=w0.length/\GL g2)/\Sort.shiftUp ltA p2.toNat k.toNat g2.toArray=Sort.shiftUp ltA p2.toNat (i' +1).toNat g'.toArray,fun k _=>(p2-k).toNat,⟨⟨by omega,by omega⟩,q2,rfl⟩,?_⟩
      rintro k g2 ⟨⟨k0,k1⟩,⟨k2,gG⟩,k3⟩
      refine⟨fun c=> ?_,fun c=> ?_⟩
      ·have c:=of_decide_eq_true c
       rw[wi (k-1) (by omega) (by omega),wi (k+1) (by omega) (by omega)]
       rw[kid (by omega) c (by omega)]at k3
       refine⟨⟨by omega,by omega⟩,⟨by omega,by omega⟩,⟨by omega,by omega⟩,⟨by omega,by omega⟩,⟨gG.ix (by omega) (by omega),gG.ix (by omega) (by omega)⟩,fun d=> ?_,fun d=> ?_⟩
       ·have d:¬ix g2 k<ix g2 (k-1):=nlt_of d
        rw[if_neg d]at k3
        exact last _ _ ⟨q0,by omega⟩ ⟨k2,gG⟩ (by rw[q3,<-k3])
       ·have d:ix g2 k<ix g2 (k-1):=lt_of d
        rw[if_pos d]at k3
        exact⟨⟨by omega,by omega⟩,⟨by omega,by omega⟩,⟨by omega,by omega⟩,⟨by omega,by omega⟩,⟨by omega,by omega⟩,⟨by omega,by omega⟩,⟨by omega,by omega⟩,⟨by omega,by rw[List.length_set];omega⟩,⟨⟨by omega,by omega⟩,⟨by rw[List.length_set,List.length_set];exact k2,gG.swp (by omega) (by omega) (by omega) (by omega)⟩,k3⟩,by(dsimp only;omega)⟩
      ·have c:=of_decide_eq_false c
       rw[khp (by omega) c]at k3
       exact last _ _ ⟨q0,by omega⟩ ⟨k2,gG⟩ (by rw[q3,<-k3])
     ·have e:=of_decide_eq_false e
      unfold Sort.fixUp at q3
      rw[if_neg (by omega)]at q3
      exact q3
    refine⟨fun e3=> ?_,fun e3=> ?_⟩
    ·have e3:=of_decide_eq_true e3
     unfold Sort.fixDown at g3
     rw[if_pos (by omega),show i'.toNat-1=(i' -1).toNat by omega]at g3
     refine⟨fun k g2=>(0<=k/\k<p2)/\(g2.length=w0.length/\GL g2)/\Sort.shiftDown ltA k.toNat g2.toArray=Sort.shiftDown ltA (i' -1).toNat (swpL g i' (i' -1)).toArray,fun k _=>k.toNat,⟨⟨by omega,by omega⟩,sl,rfl⟩,?_⟩
     rintro k g2 ⟨⟨k0,k1⟩,⟨k2,gG⟩,k3⟩
     refine⟨fun c=> ?_,fun c=> ?_⟩
     ·have c:=of_decide_eq_true c
      rw[wi (k-1) (by omega) (by omega)]
      rw[kgq c (by omega)]at k3
      refine⟨⟨by omega,by omega⟩,⟨by omega,by omega⟩,⟨by omega,by omega⟩,⟨by omega,by omega⟩,⟨gG.ix (by omega) (by omega),gG.ix (by omega) (by omega)⟩,fun d=> ?_,fun d=> ?_⟩
      ·have d:¬ix g2 k<ix g2 (k-1):=nlt_of d
       rw[if_neg d]at k3
       exact j2 _ ⟨k2,gG⟩ (by rw[g3,k3])
      ·have d:ix g2 k<ix g2 (k-1):=lt_of d
       rw[if_pos d]at k3
       exact⟨⟨by omega,by omega⟩,⟨by omega,by omega⟩,⟨by omega,by omega⟩,⟨by omega,by omega⟩,⟨by omega,by omega⟩,⟨by omega,by omega⟩,⟨by omega,by omega⟩,⟨by omega,by rw[List.length_set];omega⟩,⟨⟨by omega,by omega⟩,⟨by rw[List.length_set,List.length_set];exact k2,gG.swp (by omega) (by omega) (by omega) (by omega)⟩,k3⟩,by(dsimp only;omega)⟩
     ·have c:=of_decide_eq_false c
      rw[kdu c]at k3
      exact j2 _ ⟨k2,gG⟩ (by rw[g3,k3])
    ·have e3:=of_decide_eq_false e3
     unfold Sort.fixDown at g3
     rw[if_neg (by omega)]at g3
     exact j2 _ sl g3
  refine⟨fun i' =>(p1<i'/\i'<=p2)/\Sort.scanSorted ltA g.toArray p2.toNat i'.toNat=Sort.scanSorted ltA g.toArray p2.toNat i.toNat,fun i' =>(p2-i').toNat,⟨⟨i0,i1⟩,rfl⟩,?_⟩
  rintro i' ⟨⟨q0,q1⟩,q2⟩
  refine⟨fun c=> ?_,fun c=> ?_⟩
  ·have c:=of_decide_eq_true c
   rw[kdt (by omega) c (by omega)]at q2
   rw[wi (i' -1) (by omega) (by omega),wi (i' +1) (by omega) (by omega)]
   refine⟨⟨by omega,by omega⟩,⟨by omega,by omega⟩,⟨by omega,by omega⟩,⟨by omega,by omega⟩,⟨gG.ix (by omega) (by omega),gG.ix (by omega) (by omega)⟩,fun d=>⟨⟨⟨by omega,by omega⟩,?_⟩,by(dsimp only;omega)⟩,fun d=>jj1 _ ⟨q0,q1⟩ ?_⟩
   ·have d:¬ix g i' <ix g (i' -1):=nlt_of d
    rw[if_neg d]at q2
    exact q2
   ·have d:ix g i' <ix g (i' -1):=lt_of d
    rw[if_pos d]at q2
    exact q2.symm
  ·have c:=of_decide_eq_false c
   rw[kcf (by omega) c]at q2
   exact jj1 _ ⟨q0,q1⟩ q2.symm
 ·have hh:=of_decide_eq_false hh
  rw[show(5-jj).toNat=0 by omega]at g3
  rw[g3]
  exact⟨rfl,rfl⟩
noncomputable def k2w:Con TB.den:= .b ⟨86,[.one (.row 0),.one (zqi),.one (zqi),.one (zqi),.one (.clo 36 [none] [])],[.vec (.st 2)],(.tup [.one (zqi),.one (.d (.bool))]),[.vec (.st 2)],false⟩ [yqi,yqi,yqi,.sl (.st 2)] [yqi,.bool,.sl (.st 2)] fun(p1 p2 p3:Int) (w0:List wA)=>(GL w0/\(0<=p1/\p1<=p3/\p3<p2/\p2<=w0.length)/\w0.length<=1099511627776,partS w0 p1 p2 p3,fun R=>((((partS w0 p1 p2 p3).1:Int):Int),R.2.1,R.2.2.toList,()))
set_option maxHeartbeats 1000000 in
theorem k31:k2w.Ok Tryz.prog TB:=pbv Bs Tryz.func86 (.r 2 (.jn ⟨[],[],[12],[.one (zqi)],[]⟩ [] (.lp [] ⟨[],[],[12],[.one (zqi)],[]⟩ .no) [] (.jn ⟨[],[],[13],[.one (zqi)],[]⟩ [] (.lp [] ⟨[],[],[13],[.one (zqi)],[]⟩ .no) [] (.r 3 (.nd [] (.lp [] ⟨[0],[.vec (.st 2)],[12,13],[.one (zqi),.one (zqi)],[]⟩ (.jn ⟨[],[],[12],[.one (zqi)],[]⟩ [] (.lp [] ⟨[],[],[12],[.one (zqi)],[]⟩ .no) [] (.jn ⟨[],[],[13],[.one (zqi)],[]⟩ [] (.lp [] ⟨[],[],[13],[.one (zqi)],[]⟩ .no) [] .no))) [] .no))))) (kx.c c0) (Q:=∀(p1 p2 p3:Int) (w0:List wA),(GL w0/\(0<=p1/\p1<=p3/\p3<p2/\p2<=w0.length)/\w0.length<=1099511627776)->∀R,partS w0 p1 p2 p3=R-> 
(0<=p3/\p3<(w0.length:Int))/\(0<=p3/\p3<(w0.length:Int))/\(0<=p1/\p1<(w0.length:Int))/\(0<=p1/\p1<(w0.length:Int))/\(0<=p1/\p1<(w0.length:Int))/\(0<=p1/\p1<(w0.length:Int))/\(0<=p3/\p3<(w0.length:Int))/\(0<=p3/\p3<((w0.set p1.toNat (ix w0 p3)).length:Int))/\∀J1:Int->Prop,(∀(b1:Int),
(∀J2:Int->Prop,(∀(i1:Int),
((decide (i1<b1)=true->
(0<=p1/\p1<(w0.length:Int))/\(0<=p1/\p1<(((w0.set p1.toNat (ix w0 p3)).set p3.toNat (ix w0 p1)).length:Int))/\(0<=i1/\i1<(w0.length:Int))/\(0<=i1/\i1<(((w0.set p1.toNat (ix w0 p3)).set p3.toNat (ix w0 p1)).length:Int))/\(0<=i1/\i1<(w0.length:Int))/\(0<=i1/\i1<(((w0.set p1.toNat (ix w0 p3)).set p3.toNat (ix w0 p1)).length:Int))/\(0<=p1/\p1<(w0.length:Int))/\(0<=p1/\p1<((((w0.set p1.toNat (ix w0 p3)).set p3.toNat (ix w0 p1)).set i1.toNat (ix ((w0.set p1.toNat (ix w0 p3)).set p3.toNat (ix w0 p1)) p1)).length:Int))/\i1=((partS w0 p1 p2 p3).1:Int)/\true=R.2.1/\(((w0.set p1.toNat (ix w0 p3)).set p3.toNat (ix w0 p1)).set i1.toNat (ix ((w0.set p1.toNat (ix w0 p3)).set p3.toNat (ix w0 p1)) p1)).set p1.toNat (ix ((w0.set p1.toNat (ix w0 p3)).set p3.toNat (ix w0 p1)) i1)=R.2.2.toList)/\
(decide (i1<b1)=false->
(0<=i1/\i1<(w0.length:Int))/\(0<=i1/\i1<(((w0.set p1.toNat (ix w0 p3)).set p3.toNat (ix w0 p1)).length:Int))/\(0<=b1/\b1<(w0.length:Int))/\(0<=b1/\b1<(((w0.set p1.toNat (ix w0 p3)).set p3.toNat (ix w0 p1)).length:Int))/\(0<=b1/\b1<(w0.length:Int))/\(0<=b1/\b1<(((w0.set p1.toNat (ix w0 p3)).set p3.toNat (ix w0 p1)).length:Int))/\(0<=i1/\i1<(w0.length:Int))/\(0<=i1/\i1<((((w0.set p1.toNat (ix w0 p3)).set p3.toNat (ix w0 p1)).set b1.toNat (ix ((w0.set p1.toNat (ix w0 p3)).set p3.toNat (ix w0 p1)) i1)).length:Int))/\∃(I3:Int->Int->(List wA)->Prop) (M3:Int->Int->(List wA)->Nat),I3 (i64.wrap (b1+1)) (i64.wrap (i1-1)) ((((w0.set p1.toNat (ix w0 p3)).set p3.toNat (ix w0 p1)).set b1.toNat (ix ((w0.set p1.toNat (ix w0 p3)).set p3.toNat (ix w0 p1)) i1)).set i1.toNat (ix ((w0.set p1.toNat (ix w0 p3)).set p3.toNat (ix w0 p1)) b1))/\∀(l1 m1:Int) (n1:List wA),(I3 l1 m1 n1->
 ∀J3:Int->Prop,(∀(o1:Int),
(∀J4:Int->Prop,(∀(s1:Int),
((decide (s1<o1)=true->
(0<=p1/\p1<(w0.length:Int))/\(0<=p1/\p1<(n1.length:Int))/\(0<=s1/\s1<(w0.length:Int))/\(0<=s1/\s1<(n1.length:Int))/\(0<=s1/\s1<(w0.length:Int))/\(0<=s1/\s1<(n1.length:Int))/\(0<=p1/\p1<(w0.length:Int))/\(0<=p1/\p1<((n1.set s1.toNat (ix n1 p1)).length:Int))/\s1=((partS w0 p1 p2 p3).1:Int)/\false=R.2.1/\(n1.set s1.toNat (ix n1 p1)).set p1.toNat (ix n1 s1)=R.2.2.toList)/\
(decide (s1<o1)=false->
(0<=s1/\s1<(w0.length:Int))/\(0<=s1/\s1<(n1.length:Int))/\(0<=o1/\o1<(w0.length:Int))/\(0<=o1/\o1<(n1.length:Int))/\(0<=o1/\o1<(w0.length:Int))/\(0<=o1/\o1<(n1.length:Int))/\(0<=s1/\s1<(w0.length:Int))/\(0<=s1/\s1<((n1.set o1.toNat (ix n1 s1)).length:Int))/\I3 (i64.wrap (o1+1)) (i64.wrap (s1-1)) ((n1.set o1.toNat (ix n1 s1)).set s1.toNat (ix n1 o1))/\M3 (i64.wrap (o1+1)) (i64.wrap (s1-1)) ((n1.set o1.toNat (ix n1 s1)).set s1.toNat (ix n1 o1))<M3 l1 m1 n1))->J4 s1)->
 ∃(I5:Int->Prop) (M5:Int->Nat),I5 m1/\∀(t1:Int),(I5 t1->
(decide (o1<=t1)=true->
(0<=t1/\t1<(w0.length:Int))/\(0<=t1/\t1<(n1.length:Int))/\(0<=p1/\p1<(w0.length:Int))/\(0<=p1/\p1<(n1.length:Int))/\(GE (ix n1 t1)/\GE (ix n1 p1))/\let v6:Bool:=decide ((cmpG (ix n1 t1) (ix n1 p1))<0)
((!v6)=true->
 I5 (i64.wrap (t1-1))/\M5 (i64.wrap (t1-1))<M5 t1)/\
((!v6)=false->
 J4 t1))/\
(decide (o1<=t1)=false->
 J4 t1)))->J3 o1)->
 ∃(I4:Int->Prop) (M4:Int->Nat),I4 l1/\∀(q1:Int),(I4 q1->
(decide (q1<=m1)=true->
(0<=q1/\q1<(w0.length:Int))/\(0<=q1/\q1<(n1.length:Int))/\(0<=p1/\p1<(w0.length:Int))/\(0<=p1/\p1<(n1.length:Int))/\(GE (ix n1 q1)/\GE (ix n1 p1))/\let v5:Bool:=decide ((cmpG (ix n1 q1) (ix n1 p1))<0)
(v5=true->
 I4 (i64.wrap (q1+1))/\M4 (i64.wrap (q1+1))<M4 q1)/\
(v5=false->
 J3 q1))/\
(decide (q1<=m1)=false->
 J3 q1)))))->J2 i1)->
 ∃(I2:Int->Prop) (M2:Int->Nat),I2 (i64.wrap (p2-1))/\∀(k1:Int),(I2 k1->
(decide (b1<=k1)=true->
(0<=k1/\k1<(w0.length:Int))/\(0<=k1/\k1<(((w0.set p1.toNat (ix w0 p3)).set p3.toNat (ix w0 p1)).length:Int))/\(0<=p1/\p1<(w0.length:Int))/\(0<=p1/\p1<(((w0.set p1.toNat (ix w0 p3)).set p3.toNat (ix w0 p1)).length:Int))/\(GE (ix ((w0.set p1.toNat (ix w0 p3)).set p3.toNat (ix w0 p1)) k1)/\GE (ix ((w0.set p1.toNat (ix w0 p3)).set p3.toNat (ix w0 p1)) p1))/\let r4:Int:=(cmpG (ix ((w0.set p1.toNat (ix w0 p3)).set p3.toNat (ix w0 p1)) k1) (ix ((w0.set p1.toNat (ix w0 p3)).set p3.toNat (ix w0 p1)) p1))
((!decide (r4<0))=true->
 I2 (i64.wrap (k1-1))/\M2 (i64.wrap (k1-1))<M2 k1)/\
((!decide (r4<0))=false->
 J2 k1))/\
(decide (b1<=k1)=false->
 J2 k1)))->J1 b1)->
 ∃(I1:Int->Prop) (M1:Int->Nat),I1 (i64.wrap (p1+1))/\∀(f1:Int),(I1 f1->
 let v2:Bool:=decide (f1<=(i64.wrap (p2-1)))
(v2=true->
(0<=f1/\f1<(w0.length:Int))/\(0<=f1/\f1<(((w0.set p1.toNat (ix w0 p3)).set p3.toNat (ix w0 p1)).length:Int))/\(0<=p1/\p1<(w0.length:Int))/\(0<=p1/\p1<(((w0.set p1.toNat (ix w0 p3)).set p3.toNat (ix w0 p1)).length:Int))/\(GE (ix ((w0.set p1.toNat (ix w0 p3)).set p3.toNat (ix w0 p1)) f1)/\GE (ix ((w0.set p1.toNat (ix w0 p3)).set p3.toNat (ix w0 p1)) p1))/\let r3:Int:=(cmpG (ix ((w0.set p1.toNat (ix w0 p3)).set p3.toNat (ix w0 p1)) f1) (ix ((w0.set p1.toNat (ix w0 p3)).set p3.toNat (ix w0 p1)) p1))
(decide (r3<0)=true->
 I1 (i64.wrap (f1+1))/\M1 (i64.wrap (f1+1))<M1 f1)/\
(decide (r3<0)=false->
 J1 f1))/\
(v2=false->
 J1 f1))) (by kernel_rfl)<|by
 rintro p1 p2 p3 w0 h R hR
 subst hR
 obtain⟨hG,⟨h1,h2,h3,h4⟩,h5⟩:=h
 have hs0:=swp_arr (g:=w0) (i:=p1) (j:=p3) (by omega) (by omega) (by omega) (by omega)
 have hst:partS w0 p1 p2 p3=Sort.partition ltA w0.toArray p1.toNat p2.toNat p3.toNat:=rfl
 unfold Sort.partition at hst
 dsimp only at hst
 rw[hs0]at hst
 have gG:GL (swpL w0 p1 p3):=hG.swp (by omega) (by omega) (by omega) (by omega)
 have hl0:(swpL w0 p1 p3).length=w0.length:=k7j
 refine⟨⟨by omega,by omega⟩,⟨by omega,by omega⟩,⟨by omega,by omega⟩,⟨by omega,by omega⟩,⟨by omega,by omega⟩,⟨by omega,by omega⟩,⟨by omega,by omega⟩,⟨by omega,by rw[List.length_set];omega⟩,?_⟩
 rw[wi (p1+1) (by omega) (by omega),wi (p2-1) (by omega) (by omega),show(w0.set p1.toNat (ix w0 p3)).set p3.toNat (ix w0 p1)=swpL w0 p1 p3 from rfl]
 generalize partS w0 p1 p2 p3=R at *
 generalize swpL w0 p1 p3=gs at *
 rw[show p2.toNat-1=(p2-1).toNat by omega,show p1.toNat+1=(p1+1).toNat by omega,arr_ix (g:=gs) (i:=p1) (by omega) (by omega)]at hst
 clear hs0
 intro J1 kJ1
 have jj1:∀i' :Int,(p1+1<=i'/\i'<=p2)->Sort.scanUp (fun x=>ltA x (ix gs p1)) gs.toArray (p2-1).toNat (p1+1).toNat=i'.toNat->(i'<=p2-1->¬ix gs i' <ix gs p1)->J1 i' :=by
  intro i' ⟨q0,q1⟩ e1 e2
  refine kJ1 _ fun J2 kJ2=> ?_
  have jj2:∀j' :Int,(i' -1<=j'/\j'<=p2-1)->Sort.scanDown (fun x=> !ltA x (ix gs p1)) gs.toArray i'.toNat (p2-1).toNat=j'.toNat->(i'<=j'->i' <j')->J2 j' :=by
   intro j' ⟨q2,q3⟩ e4 e3
   rw[e1,e4]at hst
   refine kJ2 _ ⟨fun c=> ?_,fun c=> ?_⟩
   ·have c:=of_decide_eq_true c
    rw[if_pos (by omega)]at hst
    have hs:=swp_arr (g:=gs) (i:=j') (j:=p1) (by omega) (by omega) (by omega) (by omega)
    rw[hs]at hst
    rw[hst]
    exact⟨⟨by omega,by omega⟩,⟨by omega,by omega⟩,⟨by omega,by omega⟩,⟨by omega,by omega⟩,⟨by omega,by omega⟩,⟨by omega,by omega⟩,⟨by omega,by omega⟩,⟨by omega,by rw[List.length_set];omega⟩,(Int.toNat_of_nonneg (by omega)).symm,rfl,rfl⟩
   ·have c:=of_decide_eq_false c
    have hs:=swp_arr (g:=gs) (i:=i') (j:=j') (by omega) (by omega) (by omega) (by omega)
    rw[if_neg (by omega),hs,show i'.toNat+1=(i' +1).toNat by omega,show j'.toNat-1=(j' -1).toNat by omega]at hst
    have e5:=e3 (by omega)
    rw[wi (i' +1) (by omega) (by omega),wi (j' -1) (by omega) (by omega)]
    refine⟨⟨by omega,by omega⟩,⟨by omega,by omega⟩,⟨by omega,by omega⟩,⟨by omega,by omega⟩,⟨by omega,by omega⟩,⟨by omega,by omega⟩,⟨by omega,by omega⟩,⟨by omega,by rw[List.length_set];omega⟩,fun i j g=>(p1<i/\i<=j+1/\j<p2)/\(g.length=w0.length/\GL g)/\R=((Sort.partLoop ltA p1.toNat i.toNat j.toNat g.toArray).1,false,Sort.swp (Sort.partLoop ltA p1.toNat i.toNat j.toNat g.toArray).2 (Sort.partLoop ltA p1.toNat i.toNat j.toNat g.toArray).1 p1.toNat),fun i j _=>(j+1-i).toNat,⟨⟨by omega,by omega,by omega⟩,⟨by rw[List.length_set,List.length_set];exact hl0,gG.swp (by omega) (by omega) (by omega) (by omega)⟩,hst⟩,?_⟩
    clear hst hs e1 e4
    rintro i j g ⟨⟨i0,i1,i2⟩,⟨g2,gG⟩,g3⟩ J3 kJ3
    rw[Sort.partLoop_eq]at g3
    have xa:=arr_ix (g:=g) (i:=p1) (by omega) (by omega)
    rw[xa]at g3
    have jj3:∀i' :Int,(i<=i'/\i'<=j+1)->Sort.scanUp (fun x=>ltA x (ix g p1)) g.toArray j.toNat i.toNat=i'.toNat->(i'<=j->¬ix g i' <ix g p1)->J3 i' :=by
     intro i' ⟨q0,q1⟩ e1 e2
     refine kJ3 _ fun J4 kJ4=> ?_
     have jj4:∀j' :Int,(i' -1<=j'/\j'<=j)->Sort.scanDown (fun x=> !ltA x (ix g p1)) g.toArray i'.toNat j.toNat=j'.toNat->(i'<=j'->i' <j')->J4 j' :=by
      intro j' ⟨q2,q3⟩ e4 e3
      rw[e1,e4]at g3
      refine kJ4 _ ⟨fun c=> ?_,fun c=> ?_⟩
      ·have c:=of_decide_eq_true c
       rw[if_pos (by omega)]at g3
       have hs:=swp_arr (g:=g) (i:=j') (j:=p1) (by omega) (by omega) (by omega) (by omega)
       dsimp only at g3
       rw[hs]at g3
       rw[g3]
       exact⟨⟨by omega,by omega⟩,⟨by omega,by omega⟩,⟨by omega,by omega⟩,⟨by omega,by omega⟩,⟨by omega,by omega⟩,⟨by omega,by omega⟩,⟨by omega,by omega⟩,⟨by omega,by rw[List.length_set];omega⟩,(Int.toNat_of_nonneg (by omega)).symm,rfl,rfl⟩
      ·have c:=of_decide_eq_false c
       have hs:=swp_arr (g:=g) (i:=i') (j:=j') (by omega) (by omega) (by omega) (by omega)
       rw[if_neg (by omega),hs,show i'.toNat+1=(i' +1).toNat by omega,show j'.toNat-1=(j' -1).toNat by omega]at g3
       have w1:=wi (i' +1) (by omega) (by omega)
       have w2:=wi (j' -1) (by omega) (by omega)
       have e4:=e3 (by omega)
       rw[w1,w2]
       exact⟨⟨by omega,by omega⟩,⟨by omega,by omega⟩,⟨by omega,by omega⟩,⟨by omega,by omega⟩,⟨by omega,by omega⟩,⟨by omega,by omega⟩,⟨by omega,by omega⟩,⟨by omega,by rw[List.length_set];omega⟩,⟨⟨by omega,by omega,by omega⟩,⟨by rw[List.length_set,List.length_set];exact g2,gG.swp (by omega) (by omega) (by omega) (by omega)⟩,g3⟩,by(dsimp only;omega)⟩
     refine⟨fun j' =>(i' -1<=j'/\j'<=j)/\Sort.scanDown (fun x=> !ltA x (ix g p1)) g.toArray i'.toNat j'.toNat=Sort.scanDown (fun x=> !ltA x (ix g p1)) g.toArray i'.toNat j.toNat,fun j' =>(j' +1).toNat,⟨⟨by omega,by omega⟩,rfl⟩,?_⟩
     rintro j' ⟨⟨k0,k1⟩,k2⟩
     refine⟨fun c=> ?_,fun c=> ?_⟩
     ·have c:=of_decide_eq_true c
      have xj:=arr_ix (g:=g) (i:=j') (by omega) (by omega)
      rw[k6c (by omega) c,xj,ltI_iff]at k2
      rw[wi (j' -1) (by omega) (by omega)]
      refine⟨⟨by omega,by omega⟩,⟨by omega,by omega⟩,⟨by omega,by omega⟩,⟨by omega,by omega⟩,⟨gG.ix (by omega) (by omega),gG.ix (by omega) (by omega)⟩,fun d=>⟨⟨⟨by omega,by omega⟩,?_⟩,by(dsimp only;omega)⟩,fun d=> ?_⟩
      ·have d:(!decide (ix g j' <ix g p1))=true:=d
       rw[if_pos d]at k2
       exact k2
      ·have d:(!decide (ix g j' <ix g p1))=false:=d
       rw[if_neg (by rw[d];decide)]at k2
       refine jj4 j' ⟨k0,k1⟩ k2.symm fun e=> ?_
       have:=e2 (by omega)
       have d:ix g j' <ix g p1:=by simpa using d
       by_cases hij:i' =j'
       ·subst hij;exact absurd d this
       ·omega
     ·have c:=of_decide_eq_false c
      rw[k5c (by omega) c]at k2
      exact jj4 j' ⟨k0,k1⟩ k2.symm fun e=>absurd e c
    refine⟨fun i' =>(i<=i'/\i'<=j+1)/\Sort.scanUp (fun x=>ltA x (ix g p1)) g.toArray j.toNat i'.toNat=Sort.scanUp (fun x=>ltA x (ix g p1)) g.toArray j.toNat i.toNat,fun i' =>(j+2-i').toNat,⟨⟨by omega,by omega⟩,rfl⟩,?_⟩
    rintro i' ⟨⟨k0,k1⟩,k2⟩
    refine⟨fun c=> ?_,fun c=> ?_⟩
    ·have c:=of_decide_eq_true c
     have xj:=arr_ix (g:=g) (i:=i') (by omega) (by omega)
     rw[k92 (by omega) c,xj,ltI_iff]at k2
     rw[wi (i' +1) (by omega) (by omega)]
     refine⟨⟨by omega,by omega⟩,⟨by omega,by omega⟩,⟨by omega,by omega⟩,⟨by omega,by omega⟩,⟨gG.ix (by omega) (by omega),gG.ix (by omega) (by omega)⟩,fun d=>⟨⟨⟨by omega,by omega⟩,?_⟩,by(dsimp only;omega)⟩,fun d=> ?_⟩
     ·have d:(decide (ix g i' <ix g p1))=true:=d
      rw[if_pos d]at k2
      exact k2
     ·have d:(decide (ix g i' <ix g p1))=false:=d
      rw[if_neg (by rw[d];decide)]at k2
      exact jj3 i' ⟨k0,k1⟩ k2.symm fun _=>of_decide_eq_false d
    ·have c:=of_decide_eq_false c
     rw[k7c (by omega) c]at k2
     exact jj3 i' ⟨k0,k1⟩ k2.symm fun e=>absurd e c
  refine⟨fun j' =>(i' -1<=j'/\j'<=p2-1)/\Sort.scanDown (fun x=> !ltA x (ix gs p1)) gs.toArray i'.toNat j'.toNat=Sort.scanDown (fun x=> !ltA x (ix gs p1)) gs.toArray i'.toNat (p2-1).toNat,fun j' =>(j' +1).toNat,⟨⟨by omega,by omega⟩,rfl⟩,?_⟩
  rintro j' ⟨⟨k0,k1⟩,k2⟩
  refine⟨fun c=> ?_,fun c=> ?_⟩
  ·have c:=of_decide_eq_true c
   have xj:=arr_ix (g:=gs) (i:=j') (by omega) (by omega)
   rw[k6c (by omega) c,xj,ltI_iff]at k2
   rw[wi (j' -1) (by omega) (by omega)]
   refine⟨⟨by omega,by omega⟩,⟨by omega,by omega⟩,⟨by omega,by omega⟩,⟨by omega,by omega⟩,⟨gG.ix (by omega) (by omega),gG.ix (by omega) (by omega)⟩,fun d=>⟨⟨⟨by omega,by omega⟩,?_⟩,by(dsimp only;omega)⟩,fun d=> ?_⟩
   ·have d:(!decide (ix gs j' <ix gs p1))=true:=d
    rw[if_pos d]at k2
    exact k2
   ·have d:(!decide (ix gs j' <ix gs p1))=false:=d
    rw[if_neg (by rw[d];decide)]at k2
    refine jj2 j' ⟨k0,k1⟩ k2.symm fun e=> ?_
    have:=e2 (by omega)
    have d:ix gs j' <ix gs p1:=by simpa using d
    by_cases hij:i' =j'
    ·subst hij;exact absurd d this
    ·omega
  ·have c:=of_decide_eq_false c
   rw[k5c (by omega) c]at k2
   exact jj2 j' ⟨k0,k1⟩ k2.symm fun e=>absurd e c
 refine⟨fun i' =>(p1+1<=i'/\i'<=p2)/\Sort.scanUp (fun x=>ltA x (ix gs p1)) gs.toArray (p2-1).toNat i'.toNat=Sort.scanUp (fun x=>ltA x (ix gs p1)) gs.toArray (p2-1).toNat (p1+1).toNat,fun i' =>(p2+2-i').toNat,⟨⟨by omega,by omega⟩,rfl⟩,?_⟩
 rintro i' ⟨⟨k0,k1⟩,k2⟩
 refine⟨fun c=> ?_,fun c=> ?_⟩
 ·have c:=of_decide_eq_true c
  have xj:=arr_ix (g:=gs) (i:=i') (by omega) (by omega)
  rw[k92 (by omega) c,xj,ltI_iff]at k2
  rw[wi (i' +1) (by omega) (by omega)]
  refine⟨⟨by omega,by omega⟩,⟨by omega,by omega⟩,⟨by omega,by omega⟩,⟨by omega,by omega⟩,⟨gG.ix (by omega) (by omega),gG.ix (by omega) (by omega)⟩,fun d=>⟨⟨⟨by omega,by omega⟩,?_⟩,by(dsimp only;omega)⟩,fun d=> ?_⟩
  ·have d:(decide (ix gs i' <ix gs p1))=true:=d
   rw[if_pos d]at k2
   exact k2
  ·have d:(decide (ix gs i' <ix gs p1))=false:=d
   rw[if_neg (by rw[d];decide)]at k2
   exact jj1 i' ⟨k0,k1⟩ k2.symm fun _=>of_decide_eq_false d
 ·have c:=of_decide_eq_false c
  rw[k7c (by omega) c]at k2
  exact jj1 i' ⟨k0,k1⟩ k2.symm fun e=>absurd e c
noncomputable def k20:Con TB.den:= .g ⟨85,[.one (.row 0),.one (zqi),.one (zqi),.one (zqi),.one (.clo 36 [none] [])],[.vec (.st 2)],(.one (.one (zqi))),[.vec (.st 2)],false⟩ [yqi,yqi,yqi,.sl (.st 2)] [yqi,.sl (.st 2)] [] fun(p1 p2 p3:Int) (w0:List wA)=>(GL w0/\(0<=p1/\p1<=p3/\p3<p2/\p2<=w0.length)/\w0.length<=1099511627776,(((peqS w0 p1 p2 p3).1:Int):Int),((peqS w0 p1 p2 p3).2.toList:List wA),())
set_option maxHeartbeats 1000000 in
theorem k23:k20.Ok Tryz.prog TB:=prv Bs Tryz.func85 (.r 2 (.nd [] (.lp [] ⟨[0],[.vec (.st 2)],[11,12],[.one (zqi),.one (zqi)],[]⟩ (.jn ⟨[],[],[11],[.one (zqi)],[]⟩ [] (.lp [] ⟨[],[],[11],[.one (zqi)],[]⟩ .no) [] (.jn ⟨[],[],[12],[.one (zqi)],[]⟩ [] (.lp [] ⟨[],[],[12],[.one (zqi)],[]⟩ .no) [] .no))) [] .no)) (kx.c c0) (Q:=∀(p1 p2 p3:Int) (w0:List wA),(GL w0/\(0<=p1/\p1<=p3/\p3<p2/\p2<=w0.length)/\w0.length<=1099511627776)->∀r0:Int,((peqS w0 p1 p2 p3).1:Int)=r0->∀e0:List wA,((peqS w0 p1 p2 p3).2.toList)=e0-> 
(0<=p3/\p3<(w0.length:Int))/\(0<=p3/\p3<(w0.length:Int))/\(0<=p1/\p1<(w0.length:Int))/\(0<=p1/\p1<(w0.length:Int))/\(0<=p1/\p1<(w0.length:Int))/\(0<=p1/\p1<(w0.length:Int))/\(0<=p3/\p3<(w0.length:Int))/\(0<=p3/\p3<((w0.set p1.toNat (ix w0 p3)).length:Int))/\∃(I1:Int->Int->(List wA)->Prop) (M1:Int->Int->(List wA)->Nat),I1 (i64.wrap (p1+1)) (i64.wrap (p2-1)) ((w0.set p1.toNat (ix w0 p3)).set p3.toNat (ix w0 p1))/\∀(b1 f1:Int) (i1:List wA),(I1 b1 f1 i1->
 ∀J1:Int->Prop,(∀(k1:Int),
(∀J2:Int->Prop,(∀(m1:Int),
((decide (m1<k1)=true->
 k1=r0/\i1=e0)/\
(decide (m1<k1)=false->
(0<=m1/\m1<(w0.length:Int))/\(0<=m1/\m1<(i1.length:Int))/\(0<=k1/\k1<(w0.length:Int))/\(0<=k1/\k1<(i1.length:Int))/\(0<=k1/\k1<(w0.length:Int))/\(0<=k1/\k1<(i1.length:Int))/\(0<=m1/\m1<(w0.length:Int))/\(0<=m1/\m1<((i1.set k1.toNat (ix i1 m1)).length:Int))/\I1 (i64.wrap (k1+1)) (i64.wrap (m1-1)) ((i1.set k1.toNat (ix i1 m1)).set m1.toNat (ix i1 k1))/\M1 (i64.wrap (k1+1)) (i64.wrap (m1-1)) ((i1.set k1.toNat (ix i1 m1)).set m1.toNat (ix i1 k1))<M1 b1 f1 i1))->J2 m1)->
 ∃(I3:Int->Prop) (M3:Int->Nat),I3 f1/\∀(n1:Int),(I3 n1->
(decide (k1<=n1)=true->
(0<=p1/\p1<(w0.length:Int))/\(0<=p1/\p1<(i1.length:Int))/\(0<=n1/\n1<(w0.length:Int))/\(0<=n1/\n1<(i1.length:Int))/\(GE (ix i1 p1)/\GE (ix i1 n1))/\let v2:Bool:=decide ((cmpG (ix i1 p1) (ix i1 n1))<0)
(v2=true->
 I3 (i64.wrap (n1-1))/\M3 (i64.wrap (n1-1))<M3 n1)/\
(v2=false->
 J2 n1))/\
(decide (k1<=n1)=false->
 J2 n1)))->J1 k1)->
 ∃(I2:Int->Prop) (M2:Int->Nat),I2 b1/\∀(l1:Int),(I2 l1->
(decide (l1<=f1)=true->
(0<=p1/\p1<(w0.length:Int))/\(0<=p1/\p1<(i1.length:Int))/\(0<=l1/\l1<(w0.length:Int))/\(0<=l1/\l1<(i1.length:Int))/\(GE (ix i1 p1)/\GE (ix i1 l1))/\let v1:Bool:=decide ((cmpG (ix i1 p1) (ix i1 l1))<0)
((!v1)=true->
 I2 (i64.wrap (l1+1))/\M2 (i64.wrap (l1+1))<M2 l1)/\
((!v1)=false->
 J1 l1))/\
(decide (l1<=f1)=false->
 J1 l1)))) (by kernel_rfl)<|by
 rintro p1 p2 p3 w0 h _ rfl _ rfl
 obtain⟨hG,⟨h1,h2,h3,h4⟩,h5⟩:=h
 have hs0:=swp_arr (g:=w0) (i:=p1) (j:=p3) (by omega) (by omega) (by omega) (by omega)
 have hst:peqS w0 p1 p2 p3=Sort.partEqLoop ltA p1.toNat (p1.toNat+1) (p2.toNat-1) (Sort.swp w0.toArray p1.toNat p3.toNat):=rfl
 rw[hs0]at hst
 refine⟨⟨by omega,by omega⟩,⟨by omega,by omega⟩,⟨by omega,by omega⟩,⟨by omega,by omega⟩,⟨by omega,by omega⟩,⟨by omega,by omega⟩,⟨by omega,by omega⟩,⟨by omega,by rw[List.length_set];omega⟩,?_⟩
 rw[wi (p1+1) (by omega) (by omega),wi (p2-1) (by omega) (by omega)]
 generalize peqS w0 p1 p2 p3=R at *
 refine⟨fun i j g=>(p1<i/\i<=j+1/\j<p2)/\(g.length=w0.length/\GL g)/\R=Sort.partEqLoop ltA p1.toNat i.toNat j.toNat g.toArray,fun i j _=>(j+1-i).toNat,⟨⟨by omega,by omega,by omega⟩,⟨by rw[List.length_set,List.length_set],hG.swp (by omega) (by omega) (by omega) (by omega)⟩,by rw[hst,show(p1+1).toNat=p1.toNat+1 by omega,show(p2-1).toNat=p2.toNat-1 by omega]⟩,?_⟩
 clear hst hs0
 rintro i j g ⟨⟨i0,i1,i2⟩,⟨g2,gG⟩,g3⟩ J1 kJ1
 rw[Sort.partEqLoop_eq]at g3
 have xa:=arr_ix (g:=g) (i:=p1) (by omega) (by omega)
 rw[xa]at g3
 have jj1:∀i' :Int,(i<=i'/\i'<=j+1)->Sort.scanUp (fun x=> !ltA (ix g p1) x) g.toArray j.toNat i.toNat=i'.toNat->(i'<=j->ix g p1<ix g i')->J1 i' :=by
  intro i' ⟨q0,q1⟩ e1 e2
  refine kJ1 _ fun J2 kJ2=> ?_
  have jj2:∀j' :Int,(i' -1<=j'/\j'<=j)->Sort.scanDown (fun x=>ltA (ix g p1) x) g.toArray i'.toNat j.toNat=j'.toNat->(i'<=j'->i' <j')->J2 j' :=by
   intro j' ⟨q2,q3⟩ e4 e3
   rw[e1,e4]at g3
   refine kJ2 _ ⟨fun c=> ?_,fun c=> ?_⟩
   ·have c:=of_decide_eq_true c
    rw[if_pos (by omega)]at g3
    rw[g3]
    exact⟨(Int.toNat_of_nonneg (by omega)).symm,rfl⟩
   ·have c:=of_decide_eq_false c
    have hs:=swp_arr (g:=g) (i:=i') (j:=j') (by omega) (by omega) (by omega) (by omega)
    rw[if_neg (by omega),hs,show i'.toNat+1=(i' +1).toNat by omega,show j'.toNat-1=(j' -1).toNat by omega]at g3
    have w1:=wi (i' +1) (by omega) (by omega)
    have w2:=wi (j' -1) (by omega) (by omega)
    have e4:=e3 (by omega)
    rw[w1,w2]
    exact⟨⟨by omega,by omega⟩,⟨by omega,by omega⟩,⟨by omega,by omega⟩,⟨by omega,by omega⟩,⟨by omega,by omega⟩,⟨by omega,by omega⟩,⟨by omega,by omega⟩,⟨by omega,by rw[List.length_set];omega⟩,⟨⟨by omega,by omega,by omega⟩,⟨by rw[List.length_set,List.length_set];exact g2,gG.swp (by omega) (by omega) (by omega) (by omega)⟩,g3⟩,by(dsimp only;omega)⟩
  refine⟨fun j' =>(i' -1<=j'/\j'<=j)/\Sort.scanDown (fun x=>ltA (ix g p1) x) g.toArray i'.toNat j'.toNat=Sort.scanDown (fun x=>ltA (ix g p1) x) g.toArray i'.toNat j.toNat,fun j' =>(j' +1).toNat,⟨⟨by omega,by omega⟩,rfl⟩,?_⟩
  rintro j' ⟨⟨k0,k1⟩,k2⟩
  refine⟨fun c=> ?_,fun c=> ?_⟩
  ·have c:=of_decide_eq_true c
   have xj:=arr_ix (g:=g) (i:=j') (by omega) (by omega)
   rw[k6c (by omega) c,xj,ltI_iff]at k2
   rw[wi (j' -1) (by omega) (by omega)]
   refine⟨⟨by omega,by omega⟩,⟨by omega,by omega⟩,⟨by omega,by omega⟩,⟨by omega,by omega⟩,⟨gG.ix (by omega) (by omega),gG.ix (by omega) (by omega)⟩,fun d=>⟨⟨⟨by omega,by omega⟩,?_⟩,by(dsimp only;omega)⟩,fun d=> ?_⟩
   ·have d:(decide (ix g p1<ix g j'))=true:=d
    rw[if_pos d]at k2
    exact k2
   ·have d:(decide (ix g p1<ix g j'))=false:=d
    rw[if_neg (by rw[d];decide)]at k2
    refine jj2 j' ⟨k0,k1⟩ k2.symm fun e=> ?_
    have:=e2 (by omega)
    have d:=of_decide_eq_false d
    by_cases hij:i' =j'
    ·subst hij;exact absurd this d
    ·omega
  ·have c:=of_decide_eq_false c
   rw[k5c (by omega) c]at k2
   exact jj2 j' ⟨k0,k1⟩ k2.symm fun e=>absurd e c
 refine⟨fun i' =>(i<=i'/\i'<=j+1)/\Sort.scanUp (fun x=> !ltA (ix g p1) x) g.toArray j.toNat i'.toNat=Sort.scanUp (fun x=> !ltA (ix g p1) x) g.toArray j.toNat i.toNat,fun i' =>(j+2-i').toNat,⟨⟨by omega,by omega⟩,rfl⟩,?_⟩
 rintro i' ⟨⟨k0,k1⟩,k2⟩
 refine⟨fun c=> ?_,fun c=> ?_⟩
 ·have c:=of_decide_eq_true c
  have xj:=arr_ix (g:=g) (i:=i') (by omega) (by omega)
  rw[k92 (by omega) c,xj,ltI_iff]at k2
  rw[wi (i' +1) (by omega) (by omega)]
  refine⟨⟨by omega,by omega⟩,⟨by omega,by omega⟩,⟨by omega,by omega⟩,⟨by omega,by omega⟩,⟨gG.ix (by omega) (by omega),gG.ix (by omega) (by omega)⟩,fun d=>⟨⟨⟨by omega,by omega⟩,?_⟩,by(dsimp only;omega)⟩,fun d=> ?_⟩
  ·have d:(!decide (ix g p1<ix g i'))=true:=d
   rw[if_pos d]at k2
   exact k2
  ·have d:(!decide (ix g p1<ix g i'))=false:=d
   rw[if_neg (by rw[d];decide)]at k2
   exact jj1 i' ⟨k0,k1⟩ k2.symm fun _=>by simpa using d
 ·have c:=of_decide_eq_false c
  rw[k7c (by omega) c]at k2
  exact jj1 i' ⟨k0,k1⟩ k2.symm fun e=>absurd e c
noncomputable def k28:Con TB.den:= .g ⟨83,[.one (.row 0),.one (zqi),.one (zqi),.one (.clo 36 [none] [])],[.vec (.st 2)],(.tup []),[.vec (.st 2)],false⟩ [yqi,yqi,.sl (.st 2)] [.sl (.st 2)] [] fun(p1 p2:Int) (w0:List wA)=>((0<=p1/\p1<=p2/\p2<=w0.length)/\w0.length<=1099511627776,(revS w0 p1 p2:List wA),())
theorem k2q:k28.Ok Tryz.prog TB:=prv Bs Tryz.func83 (.r 1 (.lp [] ⟨[0],[.vec (.st 2)],[8,9],[.one (zqi),.one (zqi)],[]⟩ .no)) c0 (Q:=∀(p1 p2:Int) (w0:List wA),((0<=p1/\p1<=p2/\p2<=w0.length)/\w0.length<=1099511627776)->∀e0:List wA,revS w0 p1 p2=e0-> 
 ∃(I1:Int->Int->(List wA)->Prop) (M1:Int->Int->(List wA)->Nat),I1 p1 (i64.wrap (p2-1)) w0/\∀(b1 f1:Int) (i1:List wA),(I1 b1 f1 i1->
(decide (b1<f1)=true->
(0<=f1/\f1<(w0.length:Int))/\(0<=f1/\f1<(i1.length:Int))/\(0<=b1/\b1<(w0.length:Int))/\(0<=b1/\b1<(i1.length:Int))/\(0<=b1/\b1<(w0.length:Int))/\(0<=b1/\b1<(i1.length:Int))/\(0<=f1/\f1<(w0.length:Int))/\(0<=f1/\f1<((i1.set b1.toNat (ix i1 f1)).length:Int))/\I1 (i64.wrap (b1+1)) (i64.wrap (f1-1)) ((i1.set b1.toNat (ix i1 f1)).set f1.toNat (ix i1 b1))/\M1 (i64.wrap (b1+1)) (i64.wrap (f1-1)) ((i1.set b1.toNat (ix i1 f1)).set f1.toNat (ix i1 b1))<M1 b1 f1 i1)/\
(decide (b1<f1)=false->
 i1=e0))) (by kernel_rfl)<|by
 rintro p1 p2 w0 h _ rfl
 obtain⟨⟨h1,h2,h3⟩,h4⟩:=h
 rw[wi (p2-1) (by omega) (by omega)]
 refine⟨(fun i j g=>(0<=i/\-1<=j/\i<=2199023255552/\j<w0.length)/\g.length=w0.length/\revS w0 p1 p2=(Sort.reverseLoop i.toNat j.toNat g.toArray).toList),(fun i j _=>(j-i).toNat),⟨⟨by omega,by omega,by omega,by omega⟩,rfl,by unfold revS Sort.reverseRange;rw[show(p2-1).toNat=p2.toNat-1 by omega]⟩,?_⟩
 rintro i j g ⟨⟨g0,g1,g2,g3⟩,g4,g5⟩
 refine⟨fun hh=> ?_,fun hh=> ?_⟩
 ·have hh:=of_decide_eq_true hh
  rw[kcd g0 hh (by omega)]at g5
  rw[wi (i+1) (by omega) (by omega),wi (j-1) (by omega) (by omega)]
  exact⟨⟨by omega,by omega⟩,⟨by omega,by omega⟩,⟨by omega,by omega⟩,⟨by omega,by omega⟩,⟨by omega,by omega⟩,⟨by omega,by omega⟩,⟨by omega,by omega⟩,⟨by omega,by rw[List.length_set];omega⟩,⟨⟨by omega,by omega,by omega,by omega⟩,by rw[List.length_set,List.length_set];exact g4,g5⟩,by(dsimp only;omega)⟩
 ·have hh:=of_decide_eq_false hh
  rw[kb7 g0 hh]at g5
  rw[g5]
noncomputable def k3b:Con TB.den:= .g ⟨65,[.one (.row 0),.one (zqi),.one (zqi),.one (zqi),.one (.clo 36 [none] [])],[.vec (.st 2)],(.tup []),[.vec (.st 2)],false⟩ [yqi,yqi,yqi,.sl (.st 2)] [.sl (.st 2)] [] fun(p1 p2 p3:Int) (w0:List wA)=>(GL w0/\(0<=p1/\p1<=p2/\p2<=w0.length)/\w0.length<=1099511627776/\Sort.Below ltA p1.toNat p2.toNat w0.toArray,(insS w0 p1 p2:List wA),())
set_option maxHeartbeats 1000000 in
theorem k3e:k3b.Ok Tryz.prog TB:=rec_ok (μ:=fun(p1 p2 p3:Int) (w0:List wA)=>(p2-p1).toNat) (cal Tryz.func65 (by kernel_rfl)) fun rn hr=>prv Bs Tryz.func65 (.r 1 (.lp [] ⟨[0],[.vec (.st 2)],[1,2,3,10,11],[.one (zqi),.one (zqi),.one (zqi),.one (.d (.bool)),.one (.d (.bool))],[]⟩ (.r 2 (.jn ⟨[0],[.vec (.st 2)],[3],[.one (zqi)],[]⟩ [] .no [] (.r 0 (.jn ⟨[0],[.vec (.st 2)],[13,14],[.one (zqi),.one (zqi)],[]⟩ [] .no [] (.jn ⟨[0],[.vec (.st 2)],[],[],[]⟩ [] (.jn ⟨[],[],[75],[.one (.d (.bool))],[]⟩ [] .no [] .no) [] (.nd [] (.jn ⟨[],[],[97],[.one (.d (.bool))],[]⟩ [] .no [] .no) [] .no)))))))) (k2b.c (k3c.c (k2k.c (k2t.c (k2q.c (k1l.c (kx.c (k23.c (k31.c (hr.c c0)))))))))) (Q:=∀(p1 p2 p3:Int) (w0:List wA),((GL w0/\(0<=p1/\p1<=p2/\p2<=w0.length)/\w0.length<=1099511627776/\Sort.Below ltA p1.toNat p2.toNat w0.toArray)/\((p2-p1).toNat)<rn+1)->∀e0:List wA,insS w0 p1 p2=e0-> 
 ∃(I1:Int->Int->Int->Bool->Bool->(List wA)->Prop) (M1:Int->Int->Int->Bool->Bool->(List wA)->Nat),I1 p1 p2 p3 true true w0/\∀(b1 f1 i1:Int) (k1 l1:Bool) (m1:List wA),(I1 b1 f1 i1 k1 l1 m1->
 let v1:Bool:=decide ((i64.wrap (f1-b1))<=12)
(v1=true->
(w0.length=m1.length)/\(GL m1/\(0<=b1/\b1<=f1/\f1<=m1.length)/\m1.length<=1099511627776)/\(insS m1 b1 f1)=e0)/\
(v1=false->
((i1==0)=true->
(w0.length=m1.length)/\(GL m1/\(0<=b1/\b1<f1/\f1<=m1.length)/\m1.length<=1099511627776)/\(heapS m1 b1 f1)=e0)/\
((i1==0)=false->
 ∀J1:Int->(List wA)->Prop,(∀(n1:Int) (o1:List wA),
((w0.length=o1.length)/\(GL o1/\(0<=b1/\b1<f1/\f1<=o1.length)/\o1.length<=1099511627776)/\∀J2:Int->Int->(List wA)->Prop,(∀(q1 s1:Int) (t1:List wA),
(∀J3:(List wA)->Prop,(∀(u1:List wA),
(∀J5:Bool->Prop,(∀(y1:Bool),
((y1=true->
(w0.length=u1.length)/\(GL u1/\(0<=b1/\b1<=q1/\q1<f1/\f1<=u1.length)/\u1.length<=1099511627776)/\I1 ((peqS u1 b1 f1 q1).1:Int) f1 n1 k1 l1 ((peqS u1 b1 f1 q1).2.toList)/\M1 ((peqS u1 b1 f1 q1).1:Int) f1 n1 k1 l1 ((peqS u1 b1 f1 q1).2.toList)<M1 b1 f1 i1 k1 l1 m1)/\
(y1=false->
(w0.length=u1.length)/\(GL u1/\(0<=b1/\b1<=q1/\q1<f1/\f1<=u1.length)/\u1.length<=1099511627776)/\let v5:Int:=i64.wrap (((partS u1 b1 f1 q1).1:Int)-b1)
 let v6:Int:=i64.wrap (f1-((partS u1 b1 f1 q1).1:Int))
 let v7:Int:=i64.wrap (Int.tdiv (i64.wrap (f1-b1)) 8)
(decide (v5<v6)=true->
(w0.length=((partS u1 b1 f1 q1).2.2.toList).length)/\((GL ((partS u1 b1 f1 q1).2.2.toList)/\(0<=b1/\b1<=((partS u1 b1 f1 q1).1:Int)/\((partS u1 b1 f1 q1).1:Int)<=((partS u1 b1 f1 q1).2.2.toList).length)/\((partS u1 b1 f1 q1).2.2.toList).length<=1099511627776/\Sort.Below ltA b1.toNat ((partS u1 b1 f1 q1).1:Int).toNat ((partS u1 b1 f1 q1).2.2.toList).toArray)/\(((partS u1 b1 f1 q1).1:Int)-b1).toNat<rn)/\let r8:List wA:=(insS ((partS u1 b1 f1 q1).2.2.toList) b1 ((partS u1 b1 f1 q1).1:Int))
 let v9:Int:=i64.wrap (((partS u1 b1 f1 q1).1:Int)+1)
 I1 v9 f1 n1 (decide (v7<=v5)) ((partS u1 b1 f1 q1).2.1) r8/\M1 v9 f1 n1 (decide (v7<=v5)) ((partS u1 b1 f1 q1).2.1) r8<M1 b1 f1 i1 k1 l1 m1)/\
(decide (v5<v6)=false->
 let v10:Int:=i64.wrap (((partS u1 b1 f1 q1).1:Int)+1)
(w0.length=((partS u1 b1 f1 q1).2.2.toList).length)/\((GL ((partS u1 b1 f1 q1).2.2.toList)/\(0<=v10/\v10<=f1/\f1<=((partS u1 b1 f1 q1).2.2.toList).length)/\((partS u1 b1 f1 q1).2.2.toList).length<=1099511627776/\Sort.Below ltA v10.toNat f1.toNat ((partS u1 b1 f1 q1).2.2.toList).toArray)/\(f1-v10).toNat<rn)/\let r11:List wA:=(insS ((partS u1 b1 f1 q1).2.2.toList) v10 f1)
 I1 b1 ((partS u1 b1 f1 q1).1:Int) n1 (decide (v7<=v6)) ((partS u1 b1 f1 q1).2.1) r11/\M1 b1 ((partS u1 b1 f1 q1).1:Int) n1 (decide (v7<=v6)) ((partS u1 b1 f1 q1).2.1) r11<M1 b1 f1 i1 k1 l1 m1)))->J5 y1)->
(decide (0<b1)=true->
(0<=i64.wrap (b1-1)/\i64.wrap (b1-1)<(w0.length:Int))/\(0<=i64.wrap (b1-1)/\i64.wrap (b1-1)<(u1.length:Int))/\(0<=q1/\q1<(w0.length:Int))/\(0<=q1/\q1<(u1.length:Int))/\(GE (ix u1 (i64.wrap (b1-1)))/\GE (ix u1 q1))/\let r4:Int:=(cmpG (ix u1 (i64.wrap (b1-1))) (ix u1 q1))
 J5 (!decide (r4<0)))/\
(decide (0<b1)=false->
 J5 false))->J3 u1)->
 ∀J4:Bool->Prop,(∀(x1:Bool),
((x1=true->
(w0.length=t1.length)/\(GL t1/\(0<=b1/\b1<f1/\f1<=t1.length)/\t1.length<=1099511627776)/\(((pisS t1 b1 f1).2)=true->
((pisS t1 b1 f1).1.toList)=e0)/\
(((pisS t1 b1 f1).2)=false->
 J3 ((pisS t1 b1 f1).1.toList)))/\
(x1=false->
 J3 t1))->J4 x1)->
(k1=true->
(l1=true->
 J4 (s1==1))/\
(l1=false->
 J4 false))/\
(k1=false->
 J4 false))->J2 q1 s1 t1)->
(((hintN (cpS o1 b1 f1).2)==2)=true->
(w0.length=o1.length)/\((0<=b1/\b1<=f1/\f1<=o1.length)/\o1.length<=1099511627776)/\let v2:Int:=i64.wrap (((cpS o1 b1 f1).1:Int)-b1)
 let v3:Int:=i64.wrap ((i64.wrap (f1-1))-v2)
 J2 v3 1 (revS o1 b1 f1))/\
(((hintN (cpS o1 b1 f1).2)==2)=false->
 J2 ((cpS o1 b1 f1).1:Int) (hintN (cpS o1 b1 f1).2) o1))->J1 n1 o1)->
((!k1)=true->
(w0.length=m1.length)/\((0<=b1/\b1<=f1/\f1<=m1.length)/\m1.length<=1099511627776)/\J1 (i64.wrap (i1-1)) (brkS m1 b1 f1))/\
((!k1)=false->
 J1 i1 m1))))) (by kernel_rfl)<|by
 rintro p1 p2 p3 w0 ⟨h,hm⟩ _ rfl
 replace hm:=Nat.lt_succ_iff.1 hm
 obtain⟨hG,⟨h1,h2,h3⟩,h4,hB⟩:=h
 have h0:=PdqI.start hG h1 h2 h3 hB
 have hR:insS w0 p1 p2=(insS w0 p1 p2).toArray.toList:=rfl
 rw[hR]
 generalize (insS w0 p1 p2).toArray=R at *
 refine⟨fun a b _ _ _ g=>PdqI R w0.length a b g/\(b-a).toNat<=rn,fun a b _ _ _ _=>(b-a).toNat,⟨h0,hm⟩,?_⟩
 clear h0 hm h1 h2 h3 hB hR
 rintro a b l wb wp g ⟨hP,hb⟩
 have a0:=hP.a0
 have ab:=hP.ab
 have bl:=hP.bl
 have gl:=hP.n
 dsimp only
 have w1:=wi (b-a) (by omega) (by omega)
 refine⟨fun e=>⟨by omega,⟨hP.gl,⟨a0,ab,bl⟩,by omega⟩,hP.ins⟩,fun e=> ?_⟩
 have e:¬b-a<=12:=by rw[w1]at e;exact of_decide_eq_false e
 refine⟨fun e2=>⟨by omega,⟨hP.gl,⟨a0,by omega,bl⟩,by omega⟩,hP.heap⟩,fun e2 J1 k1=> ?_⟩
 have j1:∀(l:Int) (g:List wA),PdqI R w0.length a b g->J1 l g:=by
  intro l g hP
  have bl:=hP.bl
  have gl:=hP.n
  have hc:=cpS_rng (g:=g) (a:=a) (b:=b) a0 (by omega)
  have hr:=hP.rev
  have rl:=hr.n
  refine k1 _ _ ⟨by omega,⟨hP.gl,⟨a0,by omega,bl⟩,by omega⟩,fun J2 k2=> ?_⟩
  have j2:∀(p h:Int) (g:List wA),PdqI R w0.length a b g->(a<=p/\p<b)->J2 p h g:=by
   intro p h g hP hp
   have bl:=hP.bl
   have gl:=hP.n
   refine k2 _ _ _ fun J3 k3=> ?_
   have j3:∀g:List wA,PdqI R w0.length a b g->J3 g:=by
    intro g hP
    have bl:=hP.bl
    have gl:=hP.n
    refine k3 _ fun J5 k5=> ?_
    have j5:∀s:Bool,(s=true->0<a/\¬ix g (a-1)<ix g p)->J5 s:=by
     intro s hs
     refine k5 _ ⟨fun e=> ?_,fun e=> ?_⟩
     ·obtain⟨s1,s2⟩:=hs e
      obtain⟨m1,m2,m3⟩:=hP.peq s1 hp.1 hp.2 s2
      have ml:=m3.n
      exact⟨by omega,⟨hP.gl,⟨a0,hp.1,hp.2,bl⟩,by omega⟩,⟨m3,by omega⟩,by omega⟩
     ·obtain⟨m1,m2,m3,m4,m5,m6,m7⟩:=hP.part hp.1 hp.2
      have l6:=m6.n
      have l7:=m7.n
      generalize partS g a b p=P at *
      have gd:GL P.2.2.toList:=m6.gl.unins a0 (by omega) (by simp;omega)
      have dl:P.2.2.toList.length=w0.length:=by simpa using m3
      refine⟨by omega,⟨hP.gl,⟨a0,hp.1,hp.2,bl⟩,by omega⟩,?_⟩
      have w1:=wi ((P.1:Int)-a) (by omega) (by omega)
      have w2:=wi (b-(P.1:Int)) (by omega) (by omega)
      have w3:=wi ((P.1:Int)+1) (by omega) (by omega)
      rw[w1,w2,w3]
      refine⟨fun c=>⟨by omega,⟨⟨gd,⟨a0,m1,by omega⟩,by omega,by simpa using m4⟩,by omega⟩,⟨m6,by omega⟩,by omega⟩,fun c=>⟨by omega,⟨⟨gd,⟨by omega,by omega,by omega⟩,by omega,?_⟩,by omega⟩,⟨m7,by omega⟩,by omega⟩⟩
      rw[show((P.1:Int)+1).toNat=P.1+1 by omega]
      simpa using m5
    refine⟨fun e=> ?_,fun e=>j5 _ (fun h=>by cases h)⟩
    have e:=of_decide_eq_true e
    rw[wi (a-1) (by omega) (by omega)]
    refine⟨⟨by omega,by omega⟩,⟨by omega,by omega⟩,⟨by omega,by omega⟩,⟨by omega,by omega⟩,⟨hP.gl.ix (by omega) (by omega),hP.gl.ix (by omega) (by omega)⟩,j5 _ fun h=>⟨e,?_⟩⟩
    exact nlt_of h
   intro J4 k4
   have j4:∀x,J4 x:=by
    intro x
    refine k4 x ⟨fun e=> ?_,fun e=>j3 _ hP⟩
    obtain⟨m1,m2⟩:=hP.pis (by omega)
    have ml:=m1.n
    exact⟨by omega,⟨hP.gl,⟨a0,by omega,bl⟩,by omega⟩,fun e2=>m2 e2,fun e2=>j3 _ m1⟩
   exact⟨fun e=>⟨fun e2=>j4 _,fun e2=>j4 _⟩,fun e=>j4 _⟩
  refine⟨fun e=>⟨by omega,⟨⟨a0,by omega,bl⟩,by omega⟩,?_⟩,fun e=>j2 _ _ _ hP ⟨hc.1,hc.2⟩⟩
  rw[wi (((cpS g a b).1:Int)-a) (by omega) (by omega),wi (b-1) (by omega) (by omega),wi (b-1-(((cpS g a b).1:Int)-a)) (by omega) (by omega)]
  exact j2 _ _ _ hr ⟨by omega,by omega⟩
 refine⟨fun e3=> ?_,fun e3=>j1 _ _ hP⟩
 have hk:=hP.brk
 have kl:=hk.n
 exact⟨by omega,⟨⟨a0,ab,bl⟩,by omega⟩,j1 _ _ hk⟩
noncomputable def k4p:Con TB.den:= .g ⟨45,[.one (.row 0),.one (.clo 36 [none] [])],[.vec (.st 2)],(.tup []),[.vec (.st 2)],false⟩ [.sl (.st 2)] [.sl (.st 2)] [] fun(w0:List wA)=>(GL w0/\w0.length<=1099511627776,(insS w0 0 w0.length:List wA),())
theorem k5a:k4p.Ok Tryz.prog TB:=prv Bs Tryz.func45 .no (k9o.c (k3e.c c0)) (Q:=∀(w0:List wA),(GL w0/\w0.length<=1099511627776)->∀e0:List wA,insS w0 0 w0.length=e0-> 
(U64 (u64.wrap (w0.length:Int)))/\let r1:Int:=(len64 (u64.wrap (w0.length:Int)))
(w0.length=w0.length)/\(GL w0/\(0<=(0:Int)/\(0:Int)<=(w0.length:Int)/\(w0.length:Int)<=w0.length)/\w0.length<=1099511627776/\Sort.Below ltA (0:Int).toNat (w0.length:Int).toNat w0.toArray)/\(insS w0 (0:Int) (w0.length:Int))=e0) (by kernel_rfl)<|by
 rintro w0 h _ rfl
 obtain⟨hG,h⟩:=h
 refine⟨by rw[wu _ (by omega) (by omega)];omega,?_⟩
 exact⟨rfl,⟨hG,⟨by omega,by omega,by omega⟩,h,Or.inl rfl⟩,rfl⟩
noncomputable def kgs:Con TB.den:= .b ⟨19,[.one (.ptr 0 0),.agg [zqu,zql,.d (.sl (.st 0)),zqu,zqu,zqu,zqu,zqu,zqi,.d (.sl yqb)]],[.cells [zqi,.row 1],.vec (.st 2)],(.tup [.one (zql),.one (zqi)]),[.cells [zqi,.row 2],.dead,.vec (.st 2)],false⟩ [.st 1,yqi,.sl (.st 2)] [.sl yqu,yqi,yqi,.sl (.st 2)] fun(p1:wC) (Aa:Int) (w1:List wA)=>(PW w1/\0<=Aa/\TR p1,addL Aa (tL w1) p1,fun R=>(R.g,R.e,Aa,((eL (addL Aa (tL w1) p1).l):List wA),()))
theorem k2u:kgs.Ok Tryz.prog TB:=pbx Bs [45,46] Tryz.func19 (.r 1 (.nd [] (.r 0 (.nd [] (.r 0 (.rt [.trimc 0 1])) [] .no)) [] (.nd [] (.r 0 (.nd [] (.r 0 (.rt [.trimc 0 1])) [] .no)) [] (.nd [] (.r 0 (.nd [] (.r 0 (.rt [.trimc 0 1])) [] .no)) [] (.nd [] (.r 0 (.nd [] (.r 0 (.rt [.trimc 0 1])) [] .no)) [] (.r 4 (.nd [] (.lp [.tok 10 yqu] ⟨[60,92],[.vec (.st 2),.tip yqu],[8,9,10],[.one (.view 0),.one (zqi),.one (.own 1)],[]⟩ (.r 1 (.nd [] (.r 0 (.nd [] (.r 0 (.rt [.trimc 0 1])) [] .no)) [] .no))) [] .no))))))) x0 (k27.c (k42.c (k4j.c (k4z.c (k6j.c (k5a.c (k1p.c (k5l.c c0)))))))) (Q:=∀(p1:wC) (Aa:Int) (w1:List wA),(PW w1/\0<=Aa/\TR p1)->∀R,addL Aa (tL w1) p1=R-> 
(TR p1)/\let r2:=if validE p1=0 then eOf p1 else default
(((validE p1) !=0)=true->
 w1.length=w1.length/\(w1.length=w1.length)/\([]:List Int)=R.g/\(validE p1)=R.e/\Aa=Aa/\w1=(eL (addL Aa (tL w1) p1).l))/\
(((validE p1) !=0)=false->
(w1.length=w1.length)/\(w1.length<=1000000)/\let r3:Bool:=(decide (0<=idxI (w1.map (·.id)) r2.id))
(r3=true->
 w1.length=w1.length/\(w1.length=w1.length)/\([]:List Int)=R.g/\5=R.e/\Aa=Aa/\w1=(eL (addL Aa (tL w1) p1).l))/\
(r3=false->
(w1.length=w1.length)/\((∃t,r2=eOf t/\VR t)/\EL w1)/\let v4:Bool:=decide (0<((cfl (tL w1) (tOf r2)).length:Int))
(v4=true->
 w1.length=w1.length/\(w1.length=w1.length)/\([]:List Int)=R.g/\12=R.e/\Aa=Aa/\w1=(eL (addL Aa (tL w1) p1).l))/\
(v4=false->
(decide (Aa<r2.weight)=true->
 w1.length=w1.length/\(w1.length=w1.length)/\([]:List Int)=R.g/\3=R.e/\Aa=Aa/\w1=(eL (addL Aa (tL w1) p1).l))/\
(decide (Aa<r2.weight)=false->
(TL p1)/\(w1.length=w1.length)/\(w1.length<=4294967295)/\let v5:List wA:=[wA.mk p1.wY p1.wD p1.wB p1.wF p1.wG p1.Fee p1.wH p1.wQ p1.wK p1.wR r2.id r2.weight]
 w1.length=w1.length/\v5.length=v5.length/\(w1.length+v5.length)*144<=140737488355328/\w1.length+v5.length<=maxLen/\((w1++v5).length=(w1++v5).length)/\(GL (w1++v5)/\(w1++v5).length<=1099511627776)/\(w1.length=w1.length)/\(EL w1)/\let v6:Int:=i64.wrap ((wL (tL w1))+r2.weight)
(([]:List Int)=([]:List Int))/\∃(I1:Int->Int->Int->(List wA)->(List Int)->Prop) (M1:Int->Int->Int->(List wA)->(List Int)->Nat),I1 (0:Int) ((w1++v5).length:Int) v6 (insS (w1++v5) 0 (w1++v5).length) ([]:List Int)/\∀(b1 f1 i1:Int) (k1:List wA) (l1:List Int),(I1 b1 f1 i1 k1 l1->
(decide (Aa<i1)=true->
(0<=i64.wrap ((f1.toNat:Int)-1)/\i64.wrap ((f1.toNat:Int)-1)<(f1.toNat:Int))/\(0<=((b1.toNat:Int)+i64.wrap ((f1.toNat:Int)-1))/\((b1.toNat:Int)+i64.wrap ((f1.toNat:Int)-1))<(k1.length:Int))/\let v7:Int:=(ix k1 ((b1.toNat:Int)+i64.wrap ((f1.toNat:Int)-1))).id
((v7==r2.id)=true->
 w1.length=w1.length/\(w1.length=w1.length)/\([]:List Int)=R.g/\16=R.e/\Aa=Aa/\w1=(eL (addL Aa (tL w1) p1).l))/\
((v7==r2.id)=false->
 let v8:Int:=(ix k1 ((b1.toNat:Int)+i64.wrap ((f1.toNat:Int)-1))).id
 l1.length=l1.length/\(l1.length+[v8].length)*8<=140737488355328/\l1.length+[v8].length<=maxLen/\let v9:Int:=(ix k1 ((b1.toNat:Int)+i64.wrap ((f1.toNat:Int)-1))).weight
(0<=i64.wrap ((f1.toNat:Int)-1))/\i64.wrap ((f1.toNat:Int)-1)<=(f1.toNat:Int)/\(l1++[v8]=l1++[v8])/\I1 (b1.toNat:Int) (((i64.wrap ((f1.toNat:Int)-1)).toNat:Nat):Int) (i64.wrap (i1-v9)) k1 (l1++[v8])/\M1 (b1.toNat:Int) (((i64.wrap ((f1.toNat:Int)-1)).toNat:Nat):Int) (i64.wrap (i1-v9)) k1 (l1++[v8])<M1 b1 f1 i1 k1 l1))/\
(decide (Aa<i1)=false->
((b1.toNat:Int).toNat=0/\(f1.toNat:Int).toNat<=k1.length/\k1.length<=4294967295)/\((k1.take (f1.toNat:Int).toNat).length=(k1.take (f1.toNat:Int).toNat).length)/\l1=R.g/\0=R.e/\Aa=Aa/\(k1.take (f1.toNat:Int).toNat)=(eL (addL Aa (tL w1) p1).l)))))))) (by kernel_rfl)<|by
 rintro p1 Aa w1 h R hR
 obtain⟨hW,hc,hr⟩:=h
 obtain⟨L,rfl,hP,hn⟩:=hW.at
 rw[tL_eL]
 have hfi:idxI ((eL L).map (·.id)) (idS p1)=fndL L (idS p1):=by rw[eL_id];rfl
 rw[tL_eL]at hR
 have hA:=hR
 rw[hR]
 clear hR
 unfold addL at hA
 refine⟨hr,fun e=> ?_,fun e=> ?_⟩
 ·have e:¬validE p1=0:=by simpa using e
  rw[if_pos e]at hA
  subst hA
  exact⟨rfl,rfl,rfl,rfl,rfl,rfl⟩
 have e:validE p1=0:=by simpa using e
 have hv:VR p1:=⟨e,hr⟩
 have hcl:=cfl_len L p1
 rw[if_neg (by simp[e])]at hA
 rw[if_pos e]
 have hid:(eOf p1).id=idS p1:=rfl
 have hwt:(eOf p1).weight=weightS p1:=rfl
 rw[hid,hwt,hfi]
 refine⟨rfl,by rw[eL_len];omega,fun e2=> ?_,fun e2=> ?_⟩
 ·rw[if_pos (of_decide_eq_true e2)]at hA
  subst hA
  exact⟨rfl,rfl,rfl,rfl,rfl,rfl⟩
 have e2:=of_decide_eq_false e2
 rw[if_neg e2]at hA
 refine⟨rfl,⟨⟨p1,rfl,hv⟩,hW.el⟩,fun e3=> ?_,fun e3=> ?_⟩
 ·have e3:=of_decide_eq_true e3
  have e3:cfl L p1≠[]:=by intro q;rw[show tOf (eOf p1)=p1 from rfl,q]at e3;simp at e3
  rw[if_pos e3]at hA
  subst hA
  exact⟨rfl,rfl,rfl,rfl,rfl,rfl⟩
 have e3:=of_decide_eq_false e3
 have e3:¬cfl L p1≠[]:=by
  intro q
  have:=List.length_pos_iff.2 q
  rw[show tOf (eOf p1)=p1 from rfl]at e3
  omega
 rw[if_neg e3]at hA
 refine⟨fun e4=> ?_,fun e4=> ?_⟩
 ·rw[if_pos (of_decide_eq_true e4)]at hA
  subst hA
  exact⟨rfl,rfl,rfl,rfl,rfl,rfl⟩
 rw[if_neg (of_decide_eq_false e4)]at hA
 have hni:idS p1∉L.map idS:=fun q=>e2 ((fnd_has _ _).2 q)
 have hpp:=hP.put hv hni (Decidable.not_not.1 e3)
 have hpl:=put_len L p1
 obtain⟨i1,i2⟩:=ins_put hP.v hP.s hP.i hv hni
 have hw1:=wL_tb hP.v (by omega) L.length
 rw[List.take_length]at hw1
 have hwp:wL (putL L p1)=wL L+weightS p1:=by
  rw[wL_perm (k3q L p1)]
  unfold wL
  rw[List.map_cons,List.sum_cons]
  omega
 have hwb:=k2c hv
 have el1:(eL L++[eOf p1]).length=L.length+1:=by simp
 refine⟨hv.tl,rfl,by rw[eL_len];omega,?_⟩
 dsimp only
 rw[show wA.mk p1.wY p1.wD p1.wB p1.wF p1.wG p1.Fee p1.wH p1.wQ p1.wK p1.wR (idS p1) (weightS p1)=eOf p1 from rfl,i2,eL_len,List.length_singleton,wi (wL L+weightS p1) (by omega) (by omega),<-hwp,el1]
 generalize putL L p1=M at *
 have hMw:=wL_tb hpp.v (by omega)
 refine⟨rfl,rfl,by omega,by unfold maxLen;omega,rfl,⟨i1,by omega⟩,rfl,hW.el,rfl,?_⟩
 refine⟨(fun b f i k l=>b=0/\k=eL M/\∃j:Nat,f=(j:Int)/\j<=M.length/\i=wL (M.take j)/\l.length<=M.length-j/\evL Aa (idS p1) M M.length []=evL Aa (idS p1) M j l),fun _ f _ _ _=>f.toNat,⟨rfl,rfl,M.length,by omega,Nat.le_refl _,by rw[List.take_length],by simp,rfl⟩,?_⟩
 rintro _ _ _ _ f ⟨rfl,rfl,j,rfl,g1,rfl,g2,g3⟩
 have hMj:=hMw j
 refine⟨fun q=> ?_,fun q=> ?_⟩
 ·have q:=of_decide_eq_true q
  have hj0:0<j:=by
   cases j with
   |zero=>simp[wL]at q;omega
   |succ j=>omega
  obtain⟨k,rfl⟩:∃k,j=k+1:=⟨j-1,by omega⟩
  have hk:k<M.length:=by omega
  have ew:wL (M.take (k+1))=wL (M.take k)+weightS M[k]:=wL_take hk
  have hMk:=hMw k
  have hx2:ix M ((k:Nat):Int)=M[k]:=ix_get _ _ hk
  rw[evL,if_pos q,hx2]at g3
  rw[show(0:Int).toNat=0 from rfl,Int.toNat_natCast,wi (((k+1:Nat):Int)-1) (by omega) (by omega),show(((0:Nat):Int)+(((k+1:Nat):Int)-1))=(k:Int)by omega,show(((k+1:Nat):Int)-1)=(k:Int)by omega,eL_ix hk,eL_len]
  have hi2:(eOf M[k]).id=idS M[k]:=rfl
  have hw2:(eOf M[k]).weight=weightS M[k]:=rfl
  dsimp only
  rw[hi2,hw2,ew,show wL (M.take k)+weightS M[k]-weightS M[k]=wL (M.take k)by omega,wi (wL (M.take k)) (by omega) (by omega)]
  refine⟨⟨by omega,by omega⟩,⟨by omega,by omega⟩,fun r=> ?_,fun r=>⟨rfl,?_,?_,by omega,by omega,rfl,⟨rfl,rfl,k,rfl,by omega,rfl,?_,?_⟩,?_⟩⟩
  ·have r:idS M[k]=idS p1:=by simpa using r
   rw[if_pos r]at g3
   rw[g3]at hA
   subst hA
   exact⟨rfl,rfl,rfl,rfl,rfl,rfl⟩
  ·rw[List.length_singleton];omega
  ·rw[List.length_singleton];unfold maxLen;omega
  ·rw[List.length_append,List.length_singleton];omega
  ·have r:¬idS M[k]=idS p1:=by simpa using r
   rw[g3,if_neg r]
  ·omega
 ·have q:=of_decide_eq_false q
  have hE:evL Aa (idS p1) M j f=⟨true,f,j⟩:=by
   cases j with
   |zero=>rfl
   |succ k=>rw[evL,if_neg q]
  rw[g3,hE,if_pos rfl]at hA
  subst hA
  refine⟨⟨rfl,by rw[eL_len];omega,by rw[eL_len];omega⟩,rfl,rfl,rfl,rfl,?_⟩
  rw[Int.toNat_natCast,Int.toNat_natCast]
  simp[eL]
noncomputable def kc1:Con TB.den:= .tp 33 [yqu,yqu] [.st 1] [] fun(p0 p1:Int)=>((wC.mk 0 [] [] 5 0 p1 p0 0 0 []:wC),())
theorem keg:kc1.Ok Tryz.prog TB:=qtv Bs Tryz.func33 .no c0 (Q:=∀(p0 p1:Int),∀r0:wC,(wC.mk 0 [] [] 5 0 p1 p0 0 0 [])=r0-> 
 0=r0.wY/\([]:List Int)=r0.wD/\([]:List wg)=r0.wB/\5=r0.wF/\0=r0.wG/\p1=r0.Fee/\p0=r0.wH/\0=r0.wQ/\0=r0.wK/\([]:List Int)=r0.wR) (by kernel_rfl)<|by
 rintro p0 p1 _ rfl
 exact(by repeat' first|apply And.intro|exact rfl)
noncomputable def k91:Con TB.den:= .g ⟨36,[.one (.ptr 0 0),.agg [zqu,zql,.d (.sl (.st 0)),zqu,zqu,zqu,zqu,zqu,zqi,.d (.sl yqb),zqu,zqi],.agg [zqu,zql,.d (.sl (.st 0)),zqu,zqu,zqu,zqu,zqu,zqi,.d (.sl yqb),zqu,zqi]],[.cells [zqi,.d (.sl (.st 2))]],(.one (.one (zqi))),[.cells [zqi,.d (.sl (.st 2))]],false⟩ [.st 2,.st 2,yqi,.sl (.st 2)] [yqi,yqi,.sl (.st 2)] [] fun(p1 p2:wA) (Aa:Int) (c0_1:List wA)=>(GE p1/\GE p2,(cmpG p1 p2:Int),Aa,c0_1,())
theorem k99:k91.Ok Tryz.prog TB:=prv Bs Tryz.func36 .no (k6l.c c0) (Q:=∀(p1 p2:wA) (Aa:Int) (c0_1:List wA),(GE p1/\GE p2)->∀r0:Int,cmpG p1 p2=r0->∀Ac:Int,Aa=Ac->∀d0_1:List wA,c0_1=d0_1-> 
 let v1:Int:=u64.wrap (p2.wX*(u64.wrap p1.weight))
 let v2:Int:=u64.wrap (p1.wX*(u64.wrap p2.weight))
(((cmp3 v1 v2) !=0)=true->
(cmp3 v1 v2)=r0/\Aa=Ac/\c0_1=d0_1)/\
(((cmp3 v1 v2) !=0)=false->
(cmp3 p1.id p2.id)=r0/\Aa=Ac/\c0_1=d0_1)) (by kernel_rfl)<|by
 rintro p1 p2 Aa c0_1 h _ rfl _ rfl _ rfl
 obtain⟨h1,h2⟩:=h
 have a:=h1.f0
 have b:=h1.f1
 have c:=h1.w0
 have d:=h1.w1
 have a' :=h2.f0
 have b' :=h2.f1
 have c' :=h2.w0
 have d' :=h2.w1
 have m1:0<=p2.wX*p1.weight/\p2.wX*p1.weight<=4294967295*4294967295:=⟨Int.mul_nonneg (by omega) (by omega),Int.mul_le_mul b' d (by omega) (by omega)⟩
 have m2:0<=p1.wX*p2.weight/\p1.wX*p2.weight<=4294967295*4294967295:=⟨Int.mul_nonneg (by omega) (by omega),Int.mul_le_mul b d' (by omega) (by omega)⟩
 dsimp only
 rw[wu p1.weight (by omega) (by omega),wu p2.weight (by omega) (by omega),wu _ m1.1 (by omega),wu _ m2.1 (by omega),k5v h1 h2]
 unfold cmpE
 refine⟨fun e=> ?_,fun e=> ?_⟩
 ·have e:cmp3 (p2.wX*p1.weight) (p1.wX*p2.weight)≠0:=by simpa using e
  rw[if_neg (mt cmp3_eq.2 e)]
  exact⟨rfl,rfl,rfl⟩
 ·have e:cmp3 (p2.wX*p1.weight) (p1.wX*p2.weight)=0:=by simpa using e
  rw[if_pos (cmp3_eq.1 e)]
  exact⟨rfl,rfl,rfl⟩
noncomputable def k8k:Con TB.den:= .gp 12 [.st 1,.st 1] [.bool] [] fun(p0 p1:wC)=>(TR p0/\TR p1,(betB p0 p1:Bool),())
theorem k4i:k8k.Ok Tryz.prog TB:=qrv Bs Tryz.func12 .no (k27.c (k99.c c0)) (Q:=∀(p0 p1:wC),(TR p0/\TR p1)->∀r0:Bool,betB p0 p1=r0-> 
(TR p0)/\let r1:=if validE p0=0 then eOf p0 else default
(((validE p0) !=0)=true->
 false=r0)/\
(((validE p0) !=0)=false->
(TR p1)/\let r2:=if validE p1=0 then eOf p1 else default
(((validE p1) !=0)=true->
 false=r0)/\
(((validE p1) !=0)=false->
(GE r1/\GE r2)/\decide ((cmpG r1 r2)<0)=r0))) (by kernel_rfl)<|by
 rintro p0 p1 h _ rfl
 obtain⟨h0,h1⟩:=h
 unfold betB
 refine⟨h0,fun e=> ?_,fun e=>⟨h1,fun e2=> ?_,fun e2=> ?_⟩⟩
 ·have e:¬validE p0=0:=by simpa using e
  rw[decide_eq_false e]
  rfl
 ·have e2:¬validE p1=0:=by simpa using e2
  rw[decide_eq_false e2]
  simp
 ·have e:validE p0=0:=by simpa using e
  have e2:validE p1=0:=by simpa using e2
  have g0:=ge_of ⟨e,h0⟩
  have g1:=ge_of ⟨e2,h1⟩
  rw[if_pos e,if_pos e2]
  refine⟨⟨g0,g1⟩,?_⟩
  rw[decide_eq_true e,decide_eq_true e2,Bool.true_and,Bool.true_and,k5v g0 g1]
  exact decide_eq_decide.2 cmpE_lt
noncomputable def kb4:Con TB.den:= .t ⟨18,[.one (zqi)],[],(.one (.one (.ptr 0 0))),[.cells [zqi,.row 1],.vec (.st 2)],false⟩ [yqi] [yqi,.sl (.st 2)] [] fun(p0:Int)=>(((if 0<p0 then p0 else 0):Int),(([]:List wA):List wA),())
theorem k2o:kb4.Ok Tryz.prog TB:=ptv Bs Tryz.func18 (.r 1 (.rt [.rnilc 0 1 (.st 2)])) c0 (Q:=∀(p0:Int),∀Ac:Int,((if 0<p0 then p0 else 0):Int)=Ac->∀e1:List wA,(([]:List wA):List wA)=e1-> 
(0=([]:List wA).length)/\(if 0<p0 then p0 else 0)=Ac/\([]:List wA)=e1) (by kernel_rfl)<|by
 rintro p0 _ rfl _ rfl
 exact⟨rfl,rfl,rfl⟩
end Go.Proofs.YtpllcoldaiineaaGreat
end
