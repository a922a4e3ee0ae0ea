/-
  Parts of the proofs that the laws of this seat hold of every input, merged by a program: a machine over pure data that is sound for the model, what each function of the translation does in it, and plain lemmas. No conditions but those in each theorem.
-/
import Derived.Test.YtpffhgljgpjenaaA3
set_option linter.all false
set_option maxRecDepth 100000
noncomputable section
namespace Go.Bv
open Go.RowKit Go.Deep
def limOf (w:World) (b:Nat):Nat:=match w.heap[b]? with
 |some (.cells c _ _)=>c.size
 |_=>0
theorem k1o4 {w:World} {b o:Nat} {v:Value} (h:w.cell? ⟨b,o,none⟩=some v):o<limOf w b:=by
 unfold World.cell? at h
 unfold limOf
 simp only at h
 split at h
 ·rename_i c _ _ hh
  rw[hh]
  simp only[Option.isSome_none,Bool.false_eq_true,if_false]at h
  exact(Array.getElem?_eq_some_iff.1 h).1
 ·cases h
def isAggT (P:Program) (e:TypeId):Bool:=match P.underlying e with
 |some (.struct _)=>true
 |some (.array _ _)=>true
 |_=>false
def mkD (P:Program) (e:TypeId) (cs:List D):D:=if isAggT P e then .agg cs else cs.headD (.bool false)
def tiles (P:Program) (tot:Nat):List (TypeId×Nat)→Nat→Bool
 |[],o=>o==tot
 |p::r,o=>p.2==o&&tiles P tot r (o+P.cellsOf p.1)
def fsOf (fs:Array Field):List (TypeId×Nat):=fs.toList.map fun f=>(f.type,f.offset)
def arOf (P:Program) (n:Nat) (e:TypeId):List (TypeId×Nat):=(List.range n).map fun i=>(e,i*P.cellsOf e)
def dataT (P:Program):Nat→TypeId→Bool
 |0,_=>false
 |k+1,t=>match P.underlying t with
  |some .bool=>true
  |some (.int _)=>true
  |some .string=>true
  |some (.slice e)=>decide (0<P.cellsOf e)&&dataT P k e
  |some (.struct fs)=>tiles P (P.cellsOf t) (fsOf fs) 0&&(fsOf fs).all fun p=>dataT P k p.1
  |some (.array n e)=>tiles P (P.cellsOf t) (arOf P n e) 0&&dataT P k e
  |_=>false
def RelFs {H:Type} (R:TypeId→List D→DataW H→Prop):List (TypeId×Nat)→List D→List (DataW H)→Prop
 |[],ds,ps=>ds=[]∧ps=[]
 |t::ts,ds,ps=>∃d1 d2 p qs,R t.1 d1 p∧RelFs R ts d2 qs∧ds=d1++d2∧ps=p::qs
def Rel {H:Type} (P:Program):Nat→TypeId→List D→DataW H→Prop
 |0,_,_,_=>False
 |k+1,t,ds,d=>match P.underlying t with
  |some .bool=>∃b,ds=[.bool b]∧d= .lit (.bool b)
  |some (.int q)=>∃i,ds=[.int q i]∧d= .lit (.int q i)∧(Lit.int q i).wf=true
  |some .string=>∃s:ByteArray,ds=[.str s]∧d= .lit (.string s.data.toList)
  | some (.slice e)=>∃l:List (List D),ds=[.slice (P.cellsOf e) (l.map (mkD P e))]∧l.length≤maxLen∧
    ((l=[]∧d= .nil)∨∃elems spare,d= .slice elems spare∧l.length=elems.length∧∀(j:Nat) (x:List D) (y:DataW H),l[j]? =some x→elems[j]? =some y→Rel P k e x y)
  |some (.struct fs)=>∃ps,d= .agg ps∧RelFs (Rel P k) (fsOf fs) ds ps
  |some (.array n e)=>∃ps,d= .agg ps∧RelFs (Rel P k) (arOf P n e) ds ps
  |_=>False
def Holds (w:World) (cs:List Value) (ds:List D):Prop:=ds.length=cs.length∧∀(j:Nat) (v:Value) (c:D),cs[j]? =some v→ds[j]? =some c→RepD (limOf w) w v c
theorem Holds.append {w:World} {a b:List Value} {x y:List D} (h1:Holds w a x) (h2:Holds w b y):Holds w (a++b) (x++y):=by
 refine⟨by simp[h1.1,h2.1],fun j v c hv hc=> ?_⟩
 by_cases hj:j<a.length
 ·rw[List.getElem?_append_left hj]at hv
  rw[List.getElem?_append_left (by rw[h1.1];exact hj)]at hc
  exact h1.2 j v c hv hc
 ·rw[List.getElem?_append_right (by omega)]at hv
  rw[List.getElem?_append_right (by rw[h1.1];omega),h1.1]at hc
  exact h2.2 _ v c hv hc
theorem Holds.one {w:World} {v:Value} {d:D} (h:RepD (limOf w) w v d):Holds w [v] [d]:=by
 refine⟨rfl,fun j u c hu hc=> ?_⟩
 cases j with
 |zero=>simp at hu hc;subst hu;subst hc;exact h
 |succ j=>simp at hu
section
variable {H:Type} {P:Program} {w:World} {cs:List Value}
theorem k14i {tot:Nat} (htot:cs.length=tot) (ok:Value→Prop) (hok:∀v∈cs,ok v) (R:TypeId→List D→DataW H→Prop) (g:TypeId→List Value→Option (DataW H×List MemPlace)):
  ∀(L:List (TypeId×Nat)) (o:Nat) (xs:List (DataW H×List MemPlace)),tiles P tot L o=true→xs.length=L.length→
   (∀p∈L,∀cs' y,(∀v∈cs',ok v)→g p.1 cs' =some y→∃ds,Holds w cs' ds∧R p.1 ds y.1)→
   (∀(i:Nat) (p:TypeId×Nat),L[i]? =some p→g p.1 ((cs.drop p.2).take (P.cellsOf p.1))=xs[i]?)→
   ∃ds,Holds w (cs.drop o) ds∧RelFs R L ds (xs.map (·.1))
 |[],o,xs,ht,hl,_,_=>by
  simp[tiles]at ht
  have:xs=[]:=by simpa using hl
  subst this
  refine⟨[],⟨?_,?_⟩,rfl,rfl⟩
  ·simp;omega
  ·intro j v c _ hc;simp at hc
 |p::L,o,xs,ht,hl,hg,hx=>by
  simp[tiles]at ht
  obtain⟨h0,ht⟩:=ht
  cases xs with
  |nil=>simp at hl
  |cons y ys=>
   have h1:=hx 0 p rfl
   simp only[List.getElem?_cons_zero]at h1
   obtain⟨d1,hd1,hr1⟩:=hg p (by simp) _ y (fun v hv=>hok v (List.mem_of_mem_drop (List.mem_of_mem_take hv))) h1
   obtain⟨d2,hd2,hr2⟩:=k14i htot ok hok R g L (o+P.cellsOf p.1) ys ht (by simpa using hl) (fun q hq=>hg q (by simp[hq])) (fun i q hq=>by simpa using hx (i+1) q (by simpa using hq))
   refine⟨d1++d2,?_,d1,d2,y.1,_,hr1,hr2,rfl,rfl⟩
   have:=hd1.append hd2
   rw[h0,←List.drop_drop,List.take_append_drop]at this
   exact this
end
section
variable {H:Type} {enc:TypeId×Value→H} {P:Program} {w:World}
theorem rel_mk {k:Nat} {e:TypeId} {x:List D} {d:DataW H} (hr:Rel P k e x d) (h1:∀c∈x,c.one=true):(mkD P e x).cells=x:=by
 cases k with
 |zero=>exact hr.elim
 |succ k=>
  unfold mkD
  split
  ·rfl
  ·rename_i ha
   unfold Rel at hr
   split at hr
   ·obtain⟨b,rfl,_⟩:=hr;rfl
   ·obtain⟨b,rfl,_⟩:=hr;rfl
   ·obtain⟨b,rfl,_⟩:=hr;rfl
   ·obtain⟨b,rfl,_⟩:=hr;rfl
   ·rename_i h;exact absurd (by simp[isAggT,h]) ha
   ·rename_i h;exact absurd (by simp[isAggT,h]) ha
   ·exact hr.elim
theorem krc:∀(k:Nat) (t:TypeId),dataT P k t=true→∀(n:Nat) (cs:List Value) (y:DataW H×List MemPlace),
  DataW.trod enc P w 0 (fun _=>true) true n t cs=some y→∃ds,Holds w cs ds∧Rel P k t ds y.1
 |0,_,h=>by cases h
 |k+1,t,hT=>by
  intro n cs y h
  unfold dataT at hT
  split at hT
  ·rename_i hu
   obtain⟨b,rfl,rfl⟩:=DataW.trod_bool hu h
   exact⟨[.bool b],Holds.one (.bool b),by simp[Rel,hu]⟩
  ·rename_i q hu
   obtain⟨i,rfl,rfl,hw⟩:=DataW.trod_int hu h
   exact⟨[.int q i],Holds.one (.int q i),by simp[Rel,hu,hw]⟩
  ·rename_i hu
   obtain⟨s,rfl,rfl,hs⟩:=DataW.trod_string hu h
   exact⟨[.str s],Holds.one (.str s),by simp only[Rel,hu];exact⟨s,rfl,rfl⟩⟩
  ·rename_i e hu
   simp only[Bool.and_eq_true,decide_eq_true_eq]at hT
   obtain⟨hpos,hT⟩:=hT
   rcases open_slice hu h with⟨rfl,rfl⟩|⟨a,len,cap,m,n',Dd,Pl,rfl,_,hlc,hcm,hm,rfl,hel⟩
   ·exact⟨[.slice (P.cellsOf e) []],Holds.one (.nil none _),by simp only[Rel,hu];exact⟨[],rfl,Nat.zero_le _,.inl ⟨by trivial,by trivial⟩⟩⟩
   ·simp only[if_true]at hm
    subst hm
    by_cases hm0:m=0
    ·subst hm0
     have hl0:len=0:=by omega
     subst hl0
     refine⟨[.slice (P.cellsOf e) []],Holds.one (.nil (some a) _),?_⟩
     simp only[Rel,hu]
     exact⟨[],rfl,Nat.zero_le _,.inr ⟨_,_,rfl,by simp,by intro j x y hx;simp at hx⟩⟩
    have hel' :∀i,i<len→∃x:List D,∃cs',w.cells? 0 (a.add (i*P.cellsOf e)) (P.cellsOf e)=some cs'∧Holds w cs' x∧Rel P k e x (Dd i):=by
     intro i hi
     obtain⟨cs',h1,h2⟩:=hel i (by omega)
     obtain⟨ds,h3,h4⟩:=krc k e hT n' cs' _ h2
     exact⟨ds,cs',h1,h3,h4⟩
    obtain⟨f,hf⟩:=choose_lt hel'
    have hspot:a.spot=none:=by
     obtain⟨cs',h1,h2⟩:=hel 0 (by omega)
     have h3:=(World.cells?_some h1).2.2 0 (by omega)
     have h4:=(World.cells?_some h1).2.1
     rw[List.getElem?_eq_getElem (by omega)]at h3
     unfold World.cell? at h3
     split at h3
     ·split at h3
      ·cases h3
      ·rename_i hs;simpa[Addr.add]using hs
     ·cases h3
    obtain⟨b,off,sp⟩:=a
    simp only at hspot
    subst hspot
    have hone:∀i,i<len→∀c∈f i,c.one=true:=by
     intro i hi c hc
     obtain⟨cs',h1,h2,h3⟩:=hf i hi
     obtain⟨j,hj⟩:=List.getElem?_of_mem hc
     have hjl:j<cs'.length:=by rw[←h2.1];exact(List.getElem?_eq_some_iff.1 hj).1
     exact(h2.2 j _ c (List.getElem?_eq_getElem hjl) hj).done
    have hmk:∀i,i<len→(mkD P e (f i)).cells=f i:=fun i hi=>by
     obtain⟨cs',h1,h2,h3⟩:=hf i hi
     exact rel_mk h3 (hone i hi)
    have hsz:∀d∈((List.range len).map f).map (mkD P e),d.cells.length=P.cellsOf e∧∀c∈d.cells,c.one=true:=by
     intro d hd
     simp only[List.map_map,List.mem_map,List.mem_range,Function.comp]at hd
     obtain⟨i,hi,rfl⟩:=hd
     obtain⟨cs',h1,h2,h3⟩:=hf i hi
     rw[hmk i hi]
     exact⟨by rw[h2.1];exact(World.cells?_some h1).2.1,hone i hi⟩
    have hget:∀i,i<len→(((List.range len).map f).map (mkD P e))[i]? =some (mkD P e (f i)):=by
     intro i hi
     simp[List.getElem?_map,List.getElem?_range hi]
    have hfl:=k22 hsz
    simp only[List.length_map,List.length_range]at hfl
    have hat:∀(j:Nat) (u:Value),((List.range (len*P.cellsOf e)).map fun j=>(w.cell? ⟨b,off+j,none⟩).getD undef)[j]? =some u→j<len*P.cellsOf e∧w.cell? ⟨b,off+j,none⟩=some u:=by
     intro j u hu
     have hj:j<len*P.cellsOf e:=by simpa using(List.getElem?_eq_some_iff.1 hu).1
     refine⟨hj,?_⟩
     simp only[List.getElem?_map,List.getElem?_range hj,Option.map_some,Option.some.injEq]at hu
     have hi:j/P.cellsOf e<len:=by rw[Nat.div_lt_iff_lt_mul hpos];exact hj
     have hr:j%P.cellsOf e<P.cellsOf e:=Nat.mod_lt _ hpos
     obtain⟨cs',h1,h2,h3⟩:=hf _ hi
     have e1:j/P.cellsOf e*P.cellsOf e+j%P.cellsOf e=j:=by rw[Nat.mul_comm];exact Nat.div_add_mod j _
     have h4:=(World.cells?_some h1).2.2 _ hr
     have h5:=(World.cells?_some h1).2.1
     have e2:(Addr.add ⟨b,off,none⟩ (j/P.cellsOf e*P.cellsOf e)).add (j%P.cellsOf e)=⟨b,off+j,none⟩:=by
      rw[add_add,e1]
      simp[Addr.add]
     rw[e2,List.getElem?_eq_getElem (by omega)]at h4
     rw[h4]at hu ⊢
     simpa using hu
    refine⟨[.slice (P.cellsOf e) (((List.range len).map f).map (mkD P e))],Holds.one ?_,?_⟩
    ·have:=RepD.slice (m:=limOf w) (w:=w) b off m (P.cellsOf e) (((List.range len).map f).map (mkD P e)) ((List.range (len*P.cellsOf e)).map fun j=>(w.cell? ⟨b,off+j,none⟩).getD undef) (by simpa using hlc) hcm hsz (by rw[hfl];simp) ?_ ?_
     ·simpa using this
     ·intro j u hu
      obtain⟨hj,hcell⟩:=hat j u hu
      exact⟨k1o4 hcell,hcell⟩
     ·intro j u c hu hc
      obtain⟨hj,hcell⟩:=hat j u hu
      have hi:j/P.cellsOf e<len:=by rw[Nat.div_lt_iff_lt_mul hpos];exact hj
      have hr:j%P.cellsOf e<P.cellsOf e:=Nat.mod_lt _ hpos
      obtain⟨cs',h1,h2,h3⟩:=hf _ hi
      have e1:j/P.cellsOf e*P.cellsOf e+j%P.cellsOf e=j:=by rw[Nat.mul_comm];exact Nat.div_add_mod j _
      rw[←e1,kxb hsz (hget _ hi) _ hr,hmk _ hi]at hc
      refine h2.2 _ u c ?_ hc
      rw[←(World.cells?_some h1).2.2 _ hr,←hcell]
      congr 1
      rw[add_add,e1]
      simp[Addr.add]
    ·simp only[Rel,hu]
     refine⟨(List.range len).map f,rfl,by simp;omega,.inr ⟨_,_,rfl,by simp,?_⟩⟩
     intro j x y hx hy
     have hj:j<len:=by simpa using(List.getElem?_eq_some_iff.1 hx).1
     simp only[List.getElem?_map,List.getElem?_range hj,Option.map_some,Option.some.injEq]at hx hy
     subst hx;subst hy
     obtain⟨_,_,_,h3⟩:=hf j hj
     exact h3
  ·rename_i fs hu
   simp only[Bool.and_eq_true]at hT
   obtain⟨xs,n',rfl,rfl,hl,hxl,hx⟩:=DataW.trod_struct hu h
   obtain⟨ds,h1,h2⟩:=k14i (P:=P) hl (fun _=>True) (fun _ _=>trivial) (Rel P k) (fun t c=>DataW.trod enc P w 0 (fun _=>true) true n' t c) (fsOf fs) 0 xs hT.1 (by simp[fsOf,hxl])
    (fun p hp cs' y _ hy=>krc k p.1 (List.all_eq_true.1 hT.2 p hp) n' cs' y hy)
    (fun i p hp=>by
     simp only[fsOf,List.getElem?_map,Option.map_eq_some_iff]at hp
     obtain⟨f,hf,rfl⟩:=hp
     exact hx i f (by simpa using hf))
   exact⟨ds,by simpa using h1,by simp only[Rel,hu];exact⟨_,rfl,h2⟩⟩
  ·rename_i m e hu
   simp only[Bool.and_eq_true]at hT
   obtain⟨xs,n',rfl,rfl,hl,hxl,hx⟩:=DataW.trod_array hu h
   obtain⟨ds,h1,h2⟩:=k14i (P:=P) hl (fun _=>True) (fun _ _=>trivial) (Rel P k) (fun t c=>DataW.trod enc P w 0 (fun _=>true) true n' t c) (arOf P m e) 0 xs hT.1 (by simp[arOf,hxl])
    (fun p hp cs' y _ hy=>by
     simp only[arOf,List.mem_map]at hp
     obtain⟨i,_,rfl⟩:=hp
     exact krc k e hT.2 n' cs' y hy)
    (fun i p hp=>by
     simp only[arOf,List.getElem?_map,Option.map_eq_some_iff]at hp
     obtain⟨f,hf,rfl⟩:=hp
     obtain⟨hi,rfl⟩:=List.getElem?_eq_some_iff.1 hf
     have hi' :i<m:=by simpa using hi
     simpa using hx i hi')
   exact⟨ds,by simpa using h1,by simp only[Rel,hu];exact⟨_,rfl,h2⟩⟩
  ·cases hT
end
end Go.Bv
namespace Go.Bv
open Go.RowKit Go.ChangeShapes Go.WideShapes
def G0 (W:World):Gh:=⟨fun _=>none,fun _=>none,limOf W⟩
def vOf (P:Program) (t:TypeId) (ds:List D):V:=if isAggT P t then .agg (ds.map V.d)else .d (ds.headD (.bool false))
section
variable {H:Type} {enc:TypeId×Value→H} {P:Program} {W:World}
theorem arg_rep {k:Nat} {r:Reach} {base:Nat} {t:TypeId} {v:Value} {d:DataW H} {ps:List MemPlace} {h:Hp} {nx:Nat} (hT:dataT P k t=true) (hval:Value.okWide P W r base t v)
  (hd:DataW.Trod enc P W 0 (fun _=>true) true t v d ps):∃ds,Rel P k t ds d∧RepV (G0 W) W h nx v (vOf P t ds):=by
 obtain⟨n,hn⟩:=hd
 by_cases ha:isAggT P t=true
 ·have hval' :∃cs,v= .agg cs∧cs.size=P.cellsOf t∧Row.okWide P W r base t cs:=by
   unfold isAggT at ha
   unfold Value.okWide at hval
   split at ha
   ·rename_i h1;rw[h1]at hval;exact hval
   ·rename_i h1;rw[h1]at hval;exact hval
   ·cases ha
  obtain⟨cs,rfl,_,ts,_,_,hc⟩:=hval'
  obtain⟨ds,h1,h2⟩:=krc k t hT n cs.toList _ hn
  refine⟨ds,h2,?_⟩
  unfold vOf
  rw[if_pos ha]
  have:=RepV.agg (G:=G0 W) (w:=W) (h:=h) (nx:=nx) cs.toList (ds.map V.d) (by simpa using h1.1.symm) ?_ ?_
  ·simpa using this
  ·intro x hx
   obtain⟨c,hcm,rfl⟩:=List.mem_map.1 hx
   obtain⟨j,hj⟩:=List.getElem?_of_mem hcm
   have hjl:j<cs.toList.length:=by have:=h1.1;have:=(List.getElem?_eq_some_iff.1 hj).1;simp[Value.cells]at *;omega
   exact(h1.2 j _ c (List.getElem?_eq_getElem hjl) hj).done
  ·intro j u x hu hx
   rw[List.getElem?_map,Option.map_eq_some_iff]at hx
   obtain⟨c,hcj,rfl⟩:=hx
   exact .d _ _ (h1.2 j u c hu hcj)
 ·have hval' :Cell.okWide P W r base t v:=by
   unfold Value.okWide at hval
   split at hval
   ·rename_i h1;exact absurd (by simp[isAggT,h1]) ha
   ·rename_i h1;exact absurd (by simp[isAggT,h1]) ha
   ·exact hval
  have hcs:v.cells.toList=[v]:=by
   cases v with
   |agg cs=>
    exfalso
    unfold Cell.okWide Cell.ok at hval'
    split at hval'
    all_goals first|(split at hval';all_goals simp_all)|simp_all
   |_=>rfl
  rw[hcs]at hn
  obtain⟨ds,h1,h2⟩:=krc k t hT n _ _ hn
  refine⟨ds,h2,?_⟩
  unfold vOf
  rw[if_neg ha]
  have hl:=h1.1
  match ds,hl with
  |[c],_=>exact .d _ _ (h1.2 0 v c rfl rfl)
theorem law_of {f:FuncId} {xs:List V} {r:V} (hS:SoundH P f xs [] r []) {vs:List Value} (hlen:vs.length=xs.length)
  (hrep:∀(j:Nat) (v:Value) (x:V),vs[j]? =some v→xs[j]? =some x→RepV (G0 W) W [] 0 v x):
  Calls P f vs.toArray W fun e W' =>(∃v G',e= .returned v∧RepV G' W' [] 0 v r)∧Below W.heap.size W W' :=by
 refine(hS (G0 W) W vs hlen hrep ?_).mono fun e W' hh=> ?_
 ·refine⟨?_,?_,?_,?_,?_,?_⟩
  ·intro id l h;simp[hpOf,Hp.get]at h
  ·intro id es h;simp[hpOf,Hp.get]at h
  ·intro id b h;simp at h
  ·intro i j b h;simp at h
  ·intro id ob h;simp[hpOf,Hp.get]at h
  ·intro b hb
   show limOf W b=0
   unfold limOf
   rw[Array.getElem?_eq_none hb]
 ·obtain⟨v,G',rfl,h1,h2,h3,h4⟩:=hh
  refine⟨⟨v,G',rfl,h1⟩,h3.os,h3.tape,h3.output,h3.size,fun b hb=>(h3.same b hb ?_).1⟩
  rintro⟨i,hi,_⟩
  simp at hi
def typesOk (P:Program) (ts:List TypeId):Bool:=ts.all fun t=>P.readableRec t&&decide (t<P.types.size)
theorem kzu (hl:laidOutB P=true) {W' :World} (hb:Below W.heap.size W W'):∀{ts:List TypeId} {vs:List Value} {ds:List (DataW H)} {ps:List MemPlace},typesOk P ts=true→
  DataW.TrodAll enc P W 0 (fun _=>true) true ts vs ds ps→(∀x∈ps,x.block<W.heap.size)→DataW.TrodAll enc P W' 0 (fun b=>decide (b<W.heap.size)) true ts vs ds ps
 |[],[],[],_,_,h,_=>h
 |[],[],_::_,_,_,h,_=>h.elim
 |[],_::_,_,_,_,h,_=>h.elim
 |_::_,[],_,_,_,h,_=>h.elim
 |_::_,_::_,[],_,_,h,_=>h.elim
 |t::ts,v::vs,d::ds,ps,ht,h,hp=>by
  simp only[typesOk,List.all_cons,Bool.and_eq_true,decide_eq_true_eq]at ht
  obtain⟨p,q,h1,h2,rfl⟩:=h
  exact⟨p,q,Below.trod hl ht.1.1 ht.1.2 h1 hb (fun x hx=>hp x (by simp[hx])),kzu hl hb (by simpa[typesOk]using ht.2) h2 (fun x hx=>hp x (by simp[hx])),rfl⟩
theorem k1pg {k:Nat} {t:TypeId} {ds:List D} {d:DataW H} (hu:P.underlying t=some .bool) (h:Rel P (k+1) t ds d):∃b,ds=[.bool b]∧d= .lit (.bool b):=by unfold Rel at h;rw[hu]at h;exact h
theorem rel_int {k:Nat} {t:TypeId} {q:IntKind} {ds:List D} {d:DataW H} (hu:P.underlying t=some (.int q)) (h:Rel P (k+1) t ds d):∃i,ds=[.int q i]∧d= .lit (.int q i)∧(Lit.int q i).wf=true:=by unfold Rel at h;rw[hu]at h;exact h
theorem k1nj {k:Nat} {t:TypeId} {fs:Array Field} {ds:List D} {d:DataW H} (hu:P.underlying t=some (.struct fs)) (h:Rel P (k+1) t ds d):∃ps,d= .agg ps∧RelFs (Rel P k) (fsOf fs) ds ps:=by unfold Rel at h;rw[hu]at h;exact h
theorem k1p7 {k:Nat} {t e:TypeId} {ds:List D} {d:DataW H} {α:Type} [Inhabited α] (f:α→D) (p:α→Prop) (hu:P.underlying t=some (.slice e)) (h:Rel P (k+1) t ds d)
  (tp:∀(x:List D) (y:DataW H),Rel P k e x y→∃a,mkD P e x=f a∧p a):
  ∃l:List α,ds=[.slice (P.cellsOf e) (l.map f)]∧l.length≤maxLen∧(∀a∈l,p a)∧((l=[]∧d= .nil)∨∃elems spare,d= .slice elems spare∧l.length=elems.length):=by
 unfold Rel at h
 rw[hu]at h
 obtain⟨l,rfl,hmx,h⟩:=h
 rcases h with⟨rfl,rfl⟩|⟨elems,spare,rfl,hlen,hh⟩
 ·exact⟨[],rfl,Nat.zero_le _,by simp,.inl ⟨rfl,rfl⟩⟩
 ·have:∀i,i<l.length→∃a,mkD P e (l.getD i [])=f a∧p a:=by
   intro i hi
   refine tp _ _ (hh i _ _ ?_ (List.getElem?_eq_getElem (by omega)))
   simp[List.getElem?_eq_getElem hi]
  obtain⟨g,hg⟩:=Deep.choose_lt this
  refine⟨(List.range l.length).map g,?_,by simpa using hmx,?_,.inr ⟨elems,spare,rfl,by simpa using hlen⟩⟩
  ·have:l.map (mkD P e)=((List.range l.length).map g).map f:=by
    rw[Deep.map_by_index l [] (mkD P e),List.map_map]
    refine List.map_congr_left fun i hi=> ?_
    exact(hg i (by simpa using hi)).1
   rw[this]
  ·intro a ha
   obtain⟨i,hi,rfl⟩:=List.mem_map.1 ha
   exact(hg i (by simpa using hi)).2
theorem k1pr {fn:Func} {s:ChangeSpec} {W' :World} {args:Array Value} {ds:List (DataW H)} {before:List MemPlace} {tb:TypeId} (hv:s.vars=[]) (hW:DataW.Whole enc P fn.params.toList s.vars false W args.toList ds [] before)
  (hl:laidOutB P=true) (hty:typesOk P fn.params.toList=true) (hr:fn.resultTypes= #[tb]) (hub:P.underlying tb=some .bool)
  (h1:(s.fn H (ds++[])).results=[.lit (.bool true)]) (h2:(s.fn H (ds++[])).args=ds) (h3:(s.fn H (ds++[])).vars=[]) (hb:Below W.heap.size W W'):
  s.post enc P fn false true false false W args (.bool true) W' :=by
 have hW' :=hW
 obtain⟨p,q,hA,hV,rfl,_,_⟩:=hW
 have hq:q=[]:=by rw[hv]at hV;exact hV
 subst hq
 refine⟨ds,[],p++[],[],p,[],hW',?_,?_,?_,hb.frame _,fun h=>by cases h⟩
 ·rw[h1,hr]
  exact trodAll_cons_mk (shut_bool hub _) trodAll_mk0
 ·rw[h2]
  exact kzu hl hb hty hA (fun x hx=>by simpa using hW'.lt x (by simpa using hx))
 ·rw[hv,h3]
  rfl
end
structure RelH {H:Type} (P:Program) (k:Nat) (t:TypeId) (ds:List D) (d:DataW H):Prop where
 h:Rel P k t ds d
section
variable {H:Type} {enc:TypeId×Value→H} {P:Program} {W:World} {k:Nat}
theorem relFs_h:∀{L:List (TypeId×Nat)} {ds:List D} {ps:List (DataW H)},RelFs (Rel P k) L ds ps→RelFs (RelH P k) L ds ps
 |[],_,_,h=>h
 |_::_,_,_,⟨d1,d2,p,qs,h1,h2,e1,e2⟩=>⟨d1,d2,p,qs,⟨h1⟩,relFs_h h2,e1,e2⟩
theorem k1p4 {t:TypeId} {ds:List D} {d:DataW H} (hu:P.underlying t=some .bool) (h:RelH P (k+1) t ds d):∃b,ds=[.bool b]∧d= .lit (.bool b):=k1pg hu h.h
theorem k1l5 {t:TypeId} {q:IntKind} {ds:List D} {d:DataW H} (hu:P.underlying t=some (.int q)) (h:RelH P (k+1) t ds d):∃i,ds=[.int q i]∧d= .lit (.int q i)∧(Lit.int q i).wf=true:=rel_int hu h.h
theorem kuu {t:TypeId} {fs:Array Field} {ds:List D} {d:DataW H} {L:List (TypeId×Nat)} (hu:P.underlying t=some (.struct fs)) (hf:fsOf fs=L) (h:RelH P (k+1) t ds d):∃ps,d= .agg ps∧RelFs (RelH P k) L ds ps:=by
 obtain⟨ps,h1,h2⟩:=k1nj hu h.h
 rw[hf]at h2
 exact⟨ps,h1,relFs_h h2⟩
theorem kxj {t e:TypeId} {ds:List D} {d:DataW H} {α:Type} [Inhabited α] (f:α→D) (p:α→Prop) (sz:Nat) (hu:P.underlying t=some (.slice e)) (hs:P.cellsOf e=sz) (h:RelH P (k+1) t ds d)
  (tp:∀(x:List D) (y:DataW H),RelH P k e x y→∃a,mkD P e x=f a∧p a):∃l:List α,ds=[.slice sz (l.map f)]∧l.length≤9223372036854775807∧∀a∈l,p a:=by
 obtain⟨l,h1,h2,h3,_⟩:=k1p7 f p hu h.h (fun x y hh=>tp x y ⟨hh⟩)
 subst hs
 exact⟨l,h1,h2,h3⟩
theorem mk_agg {e:TypeId} {ds cs:List D} (ha:isAggT P e=true) (h:ds=(D.agg cs).cells):mkD P e ds= .agg cs:=by subst h;unfold mkD;rw[ha];rfl
theorem mk_one {e:TypeId} {ds:List D} {x:D} (ha:isAggT P e=false) (h:ds=[x]):mkD P e ds=x:=by subst h;unfold mkD;rw[ha];rfl
theorem k1px {r:Reach} {base:Nat} {t:TypeId} {v:Value} {d:DataW H} {ps:List MemPlace} {h:Hp} {nx:Nat} (hT:dataT P k t=true) (hval:Value.okWide P W r base t v)
  (hd:DataW.Trod enc P W 0 (fun _=>true) true t v d ps):∃ds,RelH P k t ds d∧RepV (G0 W) W h nx v (vOf P t ds):=by
 obtain⟨ds,h1,h2⟩:=arg_rep hT hval hd
 exact⟨ds,⟨h1⟩,h2⟩
end
end Go.Bv
namespace Go.Proofs.Ytpffhgljgpjenaa
open Go Go.Bv Go.Cv Go.Md Go.RowKit Go.ChangeShapes Go.WideShapes
theorem wf_u64 {i:Int} (h:(Lit.int .u64 i).wf=true):0≤i∧i<18446744073709551616:=by
 simp only[Lit.wf,IntKind.min,IntKind.max,IntKind.signed,IntKind.bits,Bool.and_eq_true]at h
 simp at h
 omega
theorem wf_i64 {i:Int} (h:(Lit.int .i64 i).wf=true):(-9223372036854775808)≤i∧i<9223372036854775808:=by
 simp only[Lit.wf,IntKind.min,IntKind.max,IntKind.signed,IntKind.bits,Bool.and_eq_true]at h
 simp at h
 omega
structure klu (x:TSpent):Prop where
 Note_Value:(0≤x.Note_Value∧x.Note_Value<18446744073709551616)
 Note_Owner:(0≤x.Note_Owner∧x.Note_Owner<18446744073709551616)
 Note_Rho:(0≤x.Note_Rho∧x.Note_Rho<18446744073709551616)
 Note_Blind:(0≤x.Note_Blind∧x.Note_Blind<18446744073709551616)
 Key:(0≤x.Key∧x.Key<18446744073709551616)
 Number:((-9223372036854775808)≤x.Number∧x.Number<9223372036854775808)
 Position:((-9223372036854775808)≤x.Position∧x.Position<9223372036854775808)
 Path:(x.Path.length≤9223372036854775807∧∀y∈x.Path,(0≤y∧y<18446744073709551616))
structure kqh (x:TNote):Prop where
 Value:(0≤x.Value∧x.Value<18446744073709551616)
 Owner:(0≤x.Owner∧x.Owner<18446744073709551616)
 Rho:(0≤x.Rho∧x.Rho<18446744073709551616)
 Blind:(0≤x.Blind∧x.Blind<18446744073709551616)
structure kkz (x:TWitness):Prop where
 Ins:(x.Ins.length≤9223372036854775807∧∀y∈x.Ins,klu y)
 Outs:(x.Outs.length≤9223372036854775807∧∀y∈x.Outs,kqh y)
 Secret:(0≤x.Secret∧x.Secret<18446744073709551616)
theorem op24 {H:Type} {k:Nat} {ds:List D} {d:DataW H} (h:RelH Try.prog (k+1) 24 ds d):∃x:Int,ds=[D.int .u64 x]∧(0≤x∧x<18446744073709551616):=by
 obtain⟨i,rfl,_,w⟩:=k1l5 (q:= .u64) (show Try.prog.underlying 24=some (.int .u64)by kernel_rfl) h
 exact⟨i,rfl,wf_u64 w⟩
theorem op48 {H:Type} {k:Nat} {ds:List D} {d:DataW H} (h:RelH Try.prog (k+2) 48 ds d):∃x:TNote,ds=(encTNote x).cells∧kqh x:=by
 obtain⟨ps,rfl,h1⟩:=kuu (L:=[(24,0),(24,1),(24,2),(24,3)]) (Try.underlying48) (by kernel_rfl) h
 obtain⟨_,_,_,_,g0,⟨_,_,_,_,g1,⟨_,_,_,_,g2,⟨_,_,_,_,g3,⟨rfl,rfl⟩,rfl,rfl⟩,rfl,rfl⟩,rfl,rfl⟩,rfl,rfl⟩:=h1
 obtain⟨a0,rfl,r0⟩:=op24 (k:=k+0) g0
 obtain⟨a1,rfl,r1⟩:=op24 (k:=k+0) g1
 obtain⟨a2,rfl,r2⟩:=op24 (k:=k+0) g2
 obtain⟨a3,rfl,r3⟩:=op24 (k:=k+0) g3
 exact⟨⟨a0,a1,a2,a3⟩,rfl,⟨r0,r1,r2,r3⟩⟩
theorem op3 {H:Type} {k:Nat} {ds:List D} {d:DataW H} (h:RelH Try.prog (k+1) 3 ds d):∃x:Int,ds=[D.int .i64 x]∧((-9223372036854775808)≤x∧x<9223372036854775808):=by
 obtain⟨i,rfl,_,w⟩:=k1l5 (q:= .i64) (show Try.prog.underlying 3=some (.int .i64)by kernel_rfl) h
 exact⟨i,rfl,wf_i64 w⟩
theorem op29 {H:Type} {k:Nat} {ds:List D} {d:DataW H} (h:RelH Try.prog (k+2) 29 ds d):∃x:List Int,ds=[D.slice 1 (x.map (D.int .u64))]∧(x.length≤9223372036854775807∧∀y∈x,(0≤y∧y<18446744073709551616)):=by
 obtain⟨l,rfl,hm,hl⟩:=kxj (D.int .u64) (fun y=>(0≤y∧y<18446744073709551616)) 1 (show Try.prog.underlying 29=some (.slice 24)by kernel_rfl) (by kernel_rfl) h (fun x y hh=>by
  obtain⟨a,e,ha⟩:=op24 (k:=k+0) hh
  exact⟨a,mk_one (by kernel_rfl) e,ha⟩)
 exact⟨l,rfl,⟨hm,hl⟩⟩
theorem op4 {H:Type} {k:Nat} {ds:List D} {d:DataW H} (h:RelH Try.prog (k+1) 4 ds d):∃x:Bool,ds=[D.bool x]∧True:=by
 obtain⟨b,rfl,_⟩:=k1p4 (show Try.prog.underlying 4=some (.bool)by kernel_rfl) h
 exact⟨b,rfl,trivial⟩
theorem op50 {H:Type} {k:Nat} {ds:List D} {d:DataW H} (h:RelH Try.prog (k+3) 50 ds d):∃x:TSpent,ds=(encTSpent x).cells∧klu x:=by
 obtain⟨ps,rfl,h1⟩:=kuu (L:=[(48,0),(24,4),(3,5),(3,6),(29,7),(4,8)]) (Try.underlying50) (by kernel_rfl) h
 obtain⟨_,_,_,_,g0,⟨_,_,_,_,g1,⟨_,_,_,_,g2,⟨_,_,_,_,g3,⟨_,_,_,_,g4,⟨_,_,_,_,g5,⟨rfl,rfl⟩,rfl,rfl⟩,rfl,rfl⟩,rfl,rfl⟩,rfl,rfl⟩,rfl,rfl⟩,rfl,rfl⟩:=h1
 obtain⟨a0,rfl,r0⟩:=op48 (k:=k+0) g0
 obtain⟨a1,rfl,r1⟩:=op24 (k:=k+1) g1
 obtain⟨a2,rfl,r2⟩:=op3 (k:=k+1) g2
 obtain⟨a3,rfl,r3⟩:=op3 (k:=k+1) g3
 obtain⟨a4,rfl,r4⟩:=op29 (k:=k+0) g4
 obtain⟨a5,rfl,r5⟩:=op4 (k:=k+1) g5
 exact⟨⟨a0.Value,a0.Owner,a0.Rho,a0.Blind,a1,a2,a3,a4,a5⟩,rfl,⟨r0.Value,r0.Owner,r0.Rho,r0.Blind,r1,r2,r3,r4⟩⟩
theorem op22 {H:Type} {k:Nat} {ds:List D} {d:DataW H} (h:RelH Try.prog (k+4) 22 ds d):∃x:List TSpent,ds=[D.slice 9 (x.map encTSpent)]∧(x.length≤9223372036854775807∧∀y∈x,klu y):=by
 obtain⟨l,rfl,hm,hl⟩:=kxj encTSpent (fun y=>klu y) 9 (show Try.prog.underlying 22=some (.slice 50)by kernel_rfl) (by kernel_rfl) h (fun x y hh=>by
  obtain⟨a,e,ha⟩:=op50 (k:=k+0) hh
  exact⟨a,mk_agg (by kernel_rfl) e,ha⟩)
 exact⟨l,rfl,⟨hm,hl⟩⟩
theorem op23 {H:Type} {k:Nat} {ds:List D} {d:DataW H} (h:RelH Try.prog (k+3) 23 ds d):∃x:List TNote,ds=[D.slice 4 (x.map encTNote)]∧(x.length≤9223372036854775807∧∀y∈x,kqh y):=by
 obtain⟨l,rfl,hm,hl⟩:=kxj encTNote (fun y=>kqh y) 4 (show Try.prog.underlying 23=some (.slice 48)by kernel_rfl) (by kernel_rfl) h (fun x y hh=>by
  obtain⟨a,e,ha⟩:=op48 (k:=k+0) hh
  exact⟨a,mk_agg (by kernel_rfl) e,ha⟩)
 exact⟨l,rfl,⟨hm,hl⟩⟩
theorem op26 {H:Type} {k:Nat} {ds:List D} {d:DataW H} (h:RelH Try.prog (k+5) 26 ds d):∃x:TWitness,ds=(encTWitness x).cells∧kkz x:=by
 obtain⟨ps,rfl,h1⟩:=kuu (L:=[(22,0),(23,1),(24,2)]) (Try.underlying26) (by kernel_rfl) h
 obtain⟨_,_,_,_,g0,⟨_,_,_,_,g1,⟨_,_,_,_,g2,⟨rfl,rfl⟩,rfl,rfl⟩,rfl,rfl⟩,rfl,rfl⟩:=h1
 obtain⟨a0,rfl,r0⟩:=op22 (k:=k+0) g0
 obtain⟨a1,rfl,r1⟩:=op23 (k:=k+1) g1
 obtain⟨a2,rfl,r2⟩:=op24 (k:=k+3) g2
 exact⟨⟨a0,a1,a2⟩,rfl,⟨r0,r1,r2⟩⟩
structure k1qz (x:TStatement):Prop where
 Depth:((-9223372036854775808)≤x.Depth∧x.Depth<9223372036854775808)
 Anchor:(0≤x.Anchor∧x.Anchor<18446744073709551616)
 Marks:(x.Marks.length≤9223372036854775807∧∀y∈x.Marks,(0≤y∧y<18446744073709551616))
 Commits:(x.Commits.length≤9223372036854775807∧∀y∈x.Commits,(0≤y∧y<18446744073709551616))
 Rhos:(x.Rhos.length≤9223372036854775807∧∀y∈x.Rhos,(0≤y∧y<18446744073709551616))
 Deposit:(0≤x.Deposit∧x.Deposit<18446744073709551616)
 Withdraw:(0≤x.Withdraw∧x.Withdraw<18446744073709551616)
 Fee:(0≤x.Fee∧x.Fee<18446744073709551616)
 Account:(0≤x.Account∧x.Account<18446744073709551616)
 Bind:(0≤x.Bind∧x.Bind<18446744073709551616)
theorem dt26:dataT Try.prog 5 26=true:=by kernel_rfl
theorem own:ownKnob Try.prog.godebug=none:=by kernel_rfl
theorem laid:laidOutB Try.prog=true:=by kernel_rfl
end Go.Proofs.Ytpffhgljgpjenaa
namespace Go.Md
open Go Go.Bv
theorem u64w (n:Int):IntKind.u64.wrap n=n%18446744073709551616:=IntKind.wrap_u64 n
theorem u8w (n:Int):IntKind.u8.wrap n=n%256:=IntKind.wrap_u8 n
theorem kj5 (k:IntKind) (a b:Int):ishr k a b=a/((2^min b.toNat k.bits:Nat):Int):=by
 unfold ishr
 rw[show(2:Int)^min b.toNat k.bits=((2^min b.toNat k.bits:Nat):Int)from(Int.natCast_pow 2 _).symm,Int.fdiv_eq_ediv_of_nonneg _ (Int.natCast_nonneg _)]
theorem k1ij (a b:Int):ishl .u64 a b=(a*((2^min b.toNat 64:Nat):Int))%18446744073709551616:=by
 unfold ishl
 rw[u64w,show(2:Int)^min b.toNat IntKind.u64.bits=((2^min b.toNat 64:Nat):Int)by rw[show IntKind.u64.bits=64 from rfl];exact(Int.natCast_pow 2 _).symm]
theorem kjm (n:Nat) (h:n<18446744073709551616):(BitVec.ofInt 64 (n:Int)).toNat=n:=by
 rw[BitVec.toNat_ofInt]
 omega
theorem k1k0 (a b:Nat) (ha:a<18446744073709551616) (hb:b<18446744073709551616):iand .u64 a b=((a&&&b:Nat):Int):=by
 unfold iand
 rw[u64w]
 show(((BitVec.ofInt 64 a&&&BitVec.ofInt 64 b).toNat:Nat):Int)%_=_
 rw[BitVec.toNat_and,kjm a ha,kjm b hb]
 have:=Nat.and_le_left (n:=a) (m:=b)
 omega
theorem ior_nat (a b:Nat) (ha:a<18446744073709551616) (hb:b<18446744073709551616):ior .u64 a b=((a|||b:Nat):Int):=by
 unfold ior
 rw[u64w]
 show(((BitVec.ofInt 64 a|||BitVec.ofInt 64 b).toNat:Nat):Int)%_=_
 rw[BitVec.toNat_or,kjm a ha,kjm b hb]
 have:=Nat.or_lt_two_pow (x:=a) (y:=b) (n:=64) (by omega) (by omega)
 omega
theorem khk (a:Int) (h:0≤a∧a<18446744073709551616):iand .u64 a 4294967295=a%4294967296:=by
 obtain⟨n,rfl⟩:=Int.eq_ofNat_of_zero_le h.1
 have:=k1k0 n 4294967295 (by omega) (by omega)
 rw[show((4294967295:Nat):Int)=4294967295 from rfl]at this
 rw[this,show(4294967295:Nat)=2^32-1 from rfl,Nat.and_two_pow_sub_one_eq_mod]
 exact Int.natCast_emod _ _
theorem k1qm (a:Int) (h:0≤a∧a<18446744073709551616):iand .u64 a 1=a%2:=by
 obtain⟨n,rfl⟩:=Int.eq_ofNat_of_zero_le h.1
 have:=k1k0 n 1 (by omega) (by omega)
 rw[show((1:Nat):Int)=1 from rfl]at this
 rw[this,Nat.and_one_is_mod]
 exact Int.natCast_emod _ _
theorem ior_add (a c:Nat) (k:Nat) (ha:a<2^k) (h:a+2^k*c<18446744073709551616):ior .u64 a ((2^k*c:Nat):Int)=((a+2^k*c:Nat):Int):=by
 rw[ior_nat _ _ (by omega) (by omega),Nat.or_comm,←Nat.two_pow_add_eq_or_of_lt ha,Nat.add_comm]
theorem ior_add' (a c:Nat) (k:Nat) (ha:a<2^k) (h:a+2^k*c<18446744073709551616):ior .u64 ((2^k*c:Nat):Int) a=((a+2^k*c:Nat):Int):=by
 rw[ior_nat _ _ (by omega) (by omega),←Nat.two_pow_add_eq_or_of_lt ha,Nat.add_comm]
theorem ishr32 (a:Int):ishr .u64 a 32=a/4294967296:=kj5 _ _ _
theorem ishr16 (a:Int):ishr .u64 a 16=a/65536:=kj5 _ _ _
theorem ishr8 (a:Int):ishr .u64 a 8=a/256:=kj5 _ _ _
theorem ishr1 (a:Int):ishr .u64 a 1=a/2:=kj5 _ _ _
theorem k1qg (a b:Int) (ha:0≤a∧a<18446744073709551616) (hb:0≤b∧b<18446744073709551616):
  ((a/4294967296*(b/4294967296)+((a/4294967296*(b%4294967296)+a%4294967296*(b%4294967296)/4294967296)/4294967296))+((a/4294967296*(b%4294967296)+a%4294967296*(b%4294967296)/4294967296)%4294967296+a%4294967296*(b/4294967296))/4294967296)=a*b/18446744073709551616∧
  a%4294967296*(b%4294967296)<18446744073709551616∧a/4294967296*(b%4294967296)+a%4294967296*(b%4294967296)/4294967296<18446744073709551616∧
  a%4294967296*(b/4294967296)<18446744073709551616-4294967296∧a/4294967296*(b/4294967296)<18446744065119617026∧0≤a%4294967296*(b%4294967296)∧0≤a/4294967296*(b%4294967296)∧0≤a%4294967296*(b/4294967296)∧0≤a/4294967296*(b/4294967296):=by
 have h1:∀x y:Int,0≤x→x≤4294967295→0≤y→y≤4294967295→0≤x*y∧x*y≤18446744065119617025:=by
  intro x y h0 h1 h2 h3
  exact⟨Int.mul_nonneg h0 h2,by have:=Int.mul_le_mul h1 h3 h2 (by omega);omega⟩
 have a1:=h1 (a%4294967296) (b%4294967296) (by omega) (by omega) (by omega) (by omega)
 have a2:=h1 (a/4294967296) (b%4294967296) (by omega) (by omega) (by omega) (by omega)
 have a3:=h1 (a%4294967296) (b/4294967296) (by omega) (by omega) (by omega) (by omega)
 have a4:=h1 (a/4294967296) (b/4294967296) (by omega) (by omega) (by omega) (by omega)
 have e:a*b=a/4294967296*(b/4294967296)*18446744073709551616+(a/4294967296*(b%4294967296)+a%4294967296*(b/4294967296))*4294967296+a%4294967296*(b%4294967296):=by
  have ea:a=a/4294967296*4294967296+a%4294967296:=by omega
  have eb:b=b/4294967296*4294967296+b%4294967296:=by omega
  conv=>lhs;rw[ea,eb]
  generalize a/4294967296=x
  generalize a%4294967296=y
  generalize b/4294967296=z
  generalize b%4294967296=t
  grind
 generalize a%4294967296*(b%4294967296)=p0 at *
 generalize a/4294967296*(b%4294967296)=p1 at *
 generalize a%4294967296*(b/4294967296)=p2 at *
 generalize a/4294967296*(b/4294967296)=p3 at *
 generalize a*b=ab at *
 refine⟨?_,?_,?_,?_,?_,?_,?_,?_,?_⟩<;>omega
structure Half (U x a b Q:Int):Prop where
 hU:0≤U
 hUv:U<a*4294967296+b
 hx:0≤x∧x<4294967296
 ha:2147483648≤a∧a<4294967296
 hb:0≤b∧b<4294967296
 hQ:Q=(U*4294967296+x)/(a*4294967296+b)
theorem Half.q {U x a b Q:Int} (h:Half U x a b Q):0≤Q∧Q<4294967296∧Q*(a*4294967296+b)≤U*4294967296+x∧U*4294967296+x<(Q+1)*(a*4294967296+b):=by
 obtain⟨h1,h2,h3,h4,h5,h6⟩:=h
 have hv:0<a*4294967296+b:=by omega
 have e:=Int.emod_add_mul_ediv (U*4294967296+x) (a*4294967296+b)
 have l:=Int.emod_nonneg (U*4294967296+x) (by omega:a*4294967296+b≠0)
 have r:=Int.emod_lt_of_pos (U*4294967296+x) hv
 rw[←h6]at e
 generalize hvv:a*4294967296+b=v at *
 have e2:(Q+1)*v=Q*v+v:=by grind
 have e3:v*Q=Q*v:=by grind
 have q0:0≤Q:=by
  rw[h6]
  exact Int.ediv_nonneg (by omega) (by omega)
 have q1:Q<4294967296:=by
  rw[h6]
  exact Int.ediv_lt_of_lt_mul hv (by omega)
 refine⟨q0,q1,by omega,by omega⟩
theorem Half.exit {U x a b Q q r:Int} (h:Half U x a b Q) (e:q*a+r=U) (hq:Q≤q) (h2:q*b≤r*4294967296+x):q=Q:=by
 obtain⟨q0,q1,q2,q3⟩:=h.q
 have h4:=h.ha
 have:q*(a*4294967296+b)≤U*4294967296+x:=by
  have:q*(a*4294967296+b)=q*a*4294967296+q*b:=by grind
  rw[this]
  generalize q*a=qa at *
  omega
 have h5:q<Q+1:=by
  have hv:0<a*4294967296+b:=by have:=h.hb;omega
  exact Int.lt_of_mul_lt_mul_right (by omega) (Int.le_of_lt hv)
 omega
theorem Half.down {U x a b Q q r:Int} (h:Half U x a b Q) (e:q*a+r=U) (h2:4294967296≤q∨r*4294967296+x<q*b):Q≤q-1:=by
 obtain⟨q0,q1,q2,q3⟩:=h.q
 rcases h2 with h2|h2
 ·omega
 ·have:U*4294967296+x<q*(a*4294967296+b):=by
   have:q*(a*4294967296+b)=q*a*4294967296+q*b:=by grind
   rw[this]
   generalize q*a=qa at *
   omega
  have h5:Q<q:=by
   have hv:0<a*4294967296+b:=by have:=h.hb;have:=h.ha;omega
   exact Int.lt_of_mul_lt_mul_right (a:=a*4294967296+b) (by omega) (Int.le_of_lt hv)
  omega
theorem Half.small {U x a b Q q r:Int} (h:Half U x a b Q) (e:q*a+r=U) (hr:4294967296≤r):q<4294967296:=by
 have h2:=h.hUv
 have h4:=h.ha
 have h5:=h.hb
 have:q*a<4294967296*a:=by generalize q*a=qa at *;omega
 exact Int.lt_of_mul_lt_mul_right this (by omega)
theorem Half.done {U x a b Q q r:Int} (h:Half U x a b Q) (e:q*a+r=U) (hq:Q≤q) (hr:4294967296≤r):q=Q:=by
 refine h.exit e hq ?_
 have h1:=h.small e hr
 obtain⟨q0,_⟩:=h.q
 have h5:=h.hb
 have h6:=h.hx
 have:q*b≤4294967296*4294967296:=Int.mul_le_mul (by omega) (by omega) (by omega) (by omega)
 omega
theorem Half.rest {U x a b Q:Int} (h:Half U x a b Q):(U*4294967296+x)-Q*(a*4294967296+b)=(U*4294967296+x)%(a*4294967296+b)∧0≤(U*4294967296+x)%(a*4294967296+b)∧(U*4294967296+x)%(a*4294967296+b)<a*4294967296+b:=by
 have hv:0<a*4294967296+b:=by have:=h.hb;have:=h.ha;omega
 have e:=Int.emod_add_mul_ediv (U*4294967296+x) (a*4294967296+b)
 rw[←h.hQ]at e
 have:=Int.mul_comm (a*4294967296+b) Q
 exact⟨by omega,Int.emod_nonneg _ (by omega),Int.emod_lt_of_pos _ hv⟩
theorem k1od {N y p U un1 un0 Q1 R1 Q0 R0:Int} (hp:0<p) (hy:0<y) (hN:N*p=U*18446744073709551616+un1*4294967296+un0) (h1:U*4294967296+un1-Q1*(y*p)=R1) (h0:R1*4294967296+un0-Q0*(y*p)=R0)
  (hr:0≤R0∧R0<y*p):Q1*4294967296+Q0=N/y∧R0/p=N%y:=by
 have e:N*p=(Q1*4294967296+Q0)*(y*p)+R0:=by
  rw[hN]
  have:(Q1*4294967296+Q0)*(y*p)=Q1*(y*p)*4294967296+Q0*(y*p):=by grind
  rw[this]
  generalize Q1*(y*p)=a at *
  generalize Q0*(y*p)=b at *
  omega
 have e2:R0=(N-(Q1*4294967296+Q0)*y)*p:=by grind
 have h3:0≤N-(Q1*4294967296+Q0)*y:=by
  rcases Int.lt_or_le (N-(Q1*4294967296+Q0)*y) 0 with h|h
  ·exfalso
   have:(N-(Q1*4294967296+Q0)*y)*p<0:=Int.mul_neg_of_neg_of_pos h hp
   omega
  ·exact h
 have h4:N-(Q1*4294967296+Q0)*y<y:=by
  refine Int.lt_of_mul_lt_mul_right (a:=p) ?_ (Int.le_of_lt hp)
  omega
 have e3:N=(N-(Q1*4294967296+Q0)*y)+y*(Q1*4294967296+Q0):=by grind
 constructor
 ·conv=>rhs;rw[e3]
  rw[Int.add_mul_ediv_left _ _ (by omega),Int.ediv_eq_zero_of_lt h3 h4]
  omega
 ·rw[e2,Int.mul_ediv_cancel _ (by omega)]
  conv=>rhs;rw[e3]
  rw[Int.add_mul_emod_self_left,Int.emod_eq_of_lt h3 h4]
end Go.Md
namespace Go.Md
open Go Go.Bv
theorem ix_nat {α:Type} [Inhabited α] (l:List α) (i:Int) (h0:0≤i) (h1:i<(l.length:Int)):ix l i=l[i.toNat]'(by omega):=by
 have:i.toNat<l.length:=by omega
 simp[ix,this]
theorem ix_mem {α:Type} [Inhabited α] (l:List α) (i:Int) (h0:0≤i) (h1:i<(l.length:Int)):ix l i∈l:=by
 rw[ix_nat l i h0 h1];exact List.getElem_mem _
theorem inc (i n:Int) (h0:0≤i) (h:i<n) (hn:n≤9223372036854775807):IntKind.i64.wrap (i+1)=i+1:=k1js _ (by omega) (by omega)
theorem wi (n:Int) (h0: -9223372036854775808≤n) (h:n≤9223372036854775807):IntKind.i64.wrap n=n:=k1js n h0 (by omega)
theorem wu (n:Int) (h0:0≤n) (h:n≤18446744073709551615):IntKind.u64.wrap n=n:=wrap_u64 n h0 (by omega)
theorem tdiv_nn (a b:Int) (h:0≤a):Int.tdiv a b=a/b:=Int.tdiv_eq_ediv_of_nonneg h
theorem tmod_nn (a b:Int) (h:0≤a):Int.tmod a b=a%b:=Int.tmod_eq_emod_of_nonneg h
theorem k16 {α:Type} [Inhabited α] (l:List α) (i:Int) (h0:0≤i) (h1:i<(l.length:Int)):l.take (i+1).toNat=l.take i.toNat++[ix l i]:=by
 rw[ix_nat l i h0 h1,show(i+1).toNat=i.toNat+1 by omega,List.take_succ_eq_append_getElem (by omega)]
theorem drop_ix {α:Type} [Inhabited α] (l:List α) (i:Int) (h0:0≤i) (h1:i<(l.length:Int)):l.drop i.toNat=ix l i::l.drop (i+1).toNat:=by
 rw[ix_nat l i h0 h1,show(i+1).toNat=i.toNat+1 by omega]
 exact List.drop_eq_getElem_cons (by omega)
theorem k171 {α:Type} (l m:List α) (h:l.length=m.length):rowOver l m l.length=m:=by
 simp[rowOver,h]
theorem kxa (a m:Int):∀k:Nat,(a%m)^k%m=a^k%m
 |0=>by simp
 |k+1=>by rw[Int.pow_succ,Int.pow_succ,Int.mul_emod,kxa a m k,Int.emod_emod_of_dvd _ (Int.dvd_refl _),←Int.mul_emod]
abbrev U64 (n:Int):Prop:=0≤n∧n<18446744073709551616
abbrev By (l:List Int):Prop:=∀x∈l,0≤x∧x<256
abbrev Us (l:List Int):Prop:=∀x∈l,0≤x∧x<18446744073709551616
def dig:Nat→Int→List Int
 |0,_=>[]
 |k+1,n=>n%256::dig k (n/256)
def val:List Int→Int
 |[]=>0
 |x::r=>x+256*val r
@[simp] theorem kh:∀(k:Nat) (n:Int),(dig k n).length=k
 |0,_=>rfl
 |k+1,n=>by simp[dig,kh k]
theorem khg (k:Nat):(256:Int)^(k+1)=256*256^k:=by rw[Int.pow_succ,Int.mul_comm]
theorem kan (k:Nat):(0:Int)<256^k:=Int.pow_pos (by omega)
theorem ks8:∀(k:Nat) (n:Int),dig (k+1) n=dig k n++[n/256^k%256]
 |0,n=>by simp[dig]
 |k+1,n=>by
  show n%256::dig (k+1) (n/256)=n%256::dig k (n/256)++_
  rw[ks8 k (n/256),khg,Int.ediv_ediv_of_nonneg (by omega)]
  rfl
theorem dig_by:∀(k:Nat) (n:Int),By (dig k n)
 |0,_=>by intro x hx;cases hx
 |k+1,n=>by
  intro x hx
  rcases List.mem_cons.1 hx with rfl|hx
  ·omega
  ·exact dig_by k _ x hx
theorem val_dig:∀(k:Nat) (n:Int),0≤n→n<256^k→val (dig k n)=n
 |0,n,h0,h=>by simp at h;simp[dig,val];omega
 |k+1,n,h0,h=>by
  rw[khg]at h
  simp only[dig,val]
  rw[val_dig k (n/256) (by omega) (Int.ediv_lt_of_lt_mul (by omega) (by rw[Int.mul_comm];exact h))]
  omega
theorem knl (k:Nat):(256:Int)^k=((2^(8*k):Nat):Int):=by rw[Nat.pow_mul,Int.natCast_pow];rfl
theorem k136 {k m:Nat} (h:k≤m):(256:Int)^k≤256^m:=by
 rw[knl,knl]
 exact Int.ofNat_le.2 (Nat.pow_le_pow_right (by omega) (by omega))
theorem ko5:∀(l:List Int),By l→0≤val l∧val l<256^l.length
 |[],_=>by simp[val]
 |x::r,h=>by
  have h1:=ko5 r (fun y hy=>h y (by simp[hy]))
  have h2:=h x (by simp)
  rw[List.length_cons,khg]
  simp only[val]
  omega
theorem dig_val:∀(l:List Int),By l→dig l.length (val l)=l
 |[],_=>rfl
 |x::r,h=>by
  have h1:=dig_val r (fun y hy=>h y (by simp[hy]))
  have h2:=h x (by simp)
  simp only[List.length_cons,dig,val]
  rw[show(x+256*val r)%256=x by omega,show(x+256*val r)/256=val r by omega,h1]
theorem k1kv:∀(l:List Int) (x:Int),val (l++[x])=val l+256^l.length*x
 |[],x=>by simp[val]
 |y::r,x=>by
  simp only[List.cons_append,val,k1kv r x,List.length_cons,khg]
  grind
theorem val8 (l:List Int) (h:By l) (hl:l.length≤8):U64 (val l):=by
 have h1:=ko5 l h
 have:(256:Int)^l.length≤256^8:=k136 hl
 exact⟨h1.1,by omega⟩
theorem ior_val (l:List Int) (x:Int) (hl:By l) (h8:l.length<8) (hx:0≤x∧x<256):ior .u64 (val l) (ishl .u64 x (8*(l.length:Int)))=val (l++[x]):=by
 have h1:=ko5 l hl
 rw[k1kv,k1ij,show min (8*(l.length:Int)).toNat 64=8*l.length by omega,←knl]
 have h2:x*256^l.length+256^l.length≤256*256^l.length:=by
  have:=kan l.length
  have:(x+1)*256^l.length≤256*256^l.length:=Int.mul_le_mul_of_nonneg_right (by omega) (by omega)
  grind
 have h3:(256:Int)*256^l.length≤256^8:=by rw[←khg];exact k136 (by omega)
 have h4:0≤x*256^l.length:=Int.mul_nonneg hx.1 (Int.le_of_lt (kan _))
 rw[Int.emod_eq_of_lt h4 (by omega)]
 obtain⟨a,ha⟩:=Int.eq_ofNat_of_zero_le h1.1
 obtain⟨c,hc⟩:=Int.eq_ofNat_of_zero_le hx.1
 have key:=ior_add a c (8*l.length)
 rw[knl]at h1 h2 h3 h4 ⊢
 generalize 2^(8*l.length)=P at *
 rw[ha]at h1
 rw[hc]at h2 h4
 have e:(c:Int)*(P:Int)=((P*c:Nat):Int):=by rw[Nat.mul_comm];exact(Int.natCast_mul _ _).symm
 have e' :(P:Int)*(c:Int)=((P*c:Nat):Int):=(Int.natCast_mul _ _).symm
 rw[e]at h2 h4
 rw[ha,hc,e,e']
 generalize P*c=R at *
 rw[key (by omega) (by omega)]
 exact Int.natCast_add _ _
def len4 (n:Int):Int:=if n<0∨4294967295<n then 0 else n
theorem len4_in {n:Int} (h:0≤n∧n≤4294967295):len4 n=n:=if_neg (by omega)
def encL (l:List Int):List Int:=dig 4 (len4 l.length)++l.flatMap (dig 8)
def encB (l:List Int):List Int:=dig 4 (len4 l.length)++l
theorem kjs (l:List Int):(l.flatMap (dig 8)).length=8*l.length:=by
 induction l with
 |nil=>rfl
 |cons x r ih=>rw[List.flatMap_cons,List.length_append,ih,kh,List.length_cons];omega
@[simp] theorem k1r0 (l:List Int):(encL l).length=4+8*l.length:=by rw[encL,List.length_append,kjs,kh]
@[simp] theorem k1r1 (l:List Int):(encB l).length=4+l.length:=by simp[encB]
theorem By.append {a b:List Int} (ha:By a) (hb:By b):By (a++b):=fun x hx=>(List.mem_append.1 hx).elim (ha x) (hb x)
theorem k1qf (l:List Int):By (l.flatMap (dig 8)):=fun x hx=>by
 obtain⟨y,_,hy⟩:=List.mem_flatMap.1 hx
 exact dig_by 8 y x hy
theorem encL_by (l:List Int):By (encL l):=(dig_by _ _).append (k1qf l)
theorem By.take {l:List Int} (h:By l) (n:Nat):By (l.take n):=fun x hx=>h x (List.mem_of_mem_take hx)
theorem By.drop {l:List Int} (h:By l) (n:Nat):By (l.drop n):=fun x hx=>h x (List.mem_of_mem_drop hx)
theorem By.us {l:List Int} (h:By l):Us l:=fun x hx=>by have:=h x hx;omega
end Go.Md
namespace Go.Md
open Go Go.Bv
def len64 (x:Int):Int:=if x=0 then 0 else(Nat.log2 x.toNat+1:Nat)
theorem ku9 (x:Int) (k:Nat) (h:((2^k:Nat):Int)≤x):len64 (x/((2^k:Nat):Int))+k=len64 x:=by
 obtain⟨n,rfl⟩:=Int.eq_ofNat_of_zero_le (by have:=Nat.two_pow_pos k;omega:0≤x)
 have hp:0<2^k:=Nat.two_pow_pos k
 have hn:2^k≤n:=by omega
 have e:((n:Int)/((2^k:Nat):Int))=((n/2^k:Nat):Int):=(Int.natCast_ediv _ _).symm
 have h1:0<n/2^k:=Nat.div_pos hn hp
 unfold len64
 rw[e,if_neg (by omega),if_neg (by omega),Int.toNat_natCast,Int.toNat_natCast]
 have:Nat.log2 n=Nat.log2 (n/2^k)+k:=by
  rw[Nat.log2_eq_iff (by omega)]
  have a:=Nat.log2_self_le (n:=n/2^k) (by omega)
  have b:=Nat.lt_log2_self (n:=n/2^k)
  rw[Nat.le_div_iff_mul_le hp]at a
  rw[Nat.div_lt_iff_lt_mul hp]at b
  constructor
  ·rw[Nat.pow_add];exact a
  ·rw[show Nat.log2 (n/2^k)+k+1=Nat.log2 (n/2^k)+1+k by omega,Nat.pow_add];exact b
 omega
theorem k1a3 (y:Int) (h:0<y∧y<18446744073709551616):∃s:Nat,64-len64 y=(s:Int)∧s≤63∧9223372036854775808≤y*((2^s:Nat):Int)∧y*((2^s:Nat):Int)<18446744073709551616:=by
 obtain⟨n,rfl⟩:=Int.eq_ofNat_of_zero_le (by omega:0≤y)
 have l:Nat.log2 n<64:=(Nat.log2_lt (by omega)).2 (by omega)
 have a:=Nat.log2_self_le (n:=n) (by omega)
 have b:=Nat.lt_log2_self (n:=n)
 refine⟨63-Nat.log2 n,?_,by omega,?_,?_⟩
 ·unfold len64
  rw[if_neg (by omega),Int.toNat_natCast]
  omega
 ·have:2^63≤n*2^(63-Nat.log2 n):=by
   rw[show(63:Nat)=Nat.log2 n+(63-Nat.log2 n)by omega,Nat.pow_add,show Nat.log2 n+(63-Nat.log2 n)-Nat.log2 n=63-Nat.log2 n by omega]
   exact Nat.mul_le_mul_right _ a
  rw[←Int.natCast_mul]
  generalize n*2^(63-Nat.log2 n)=m at *
  omega
 ·have:n*2^(63-Nat.log2 n)<2^64:=by
   rw[show(64:Nat)=Nat.log2 n+1+(63-Nat.log2 n)by omega,Nat.pow_add]
   exact Nat.mul_lt_mul_of_pos_right b (Nat.two_pow_pos _)
  rw[←Int.natCast_mul]
  generalize n*2^(63-Nat.log2 n)=m at *
  omega
def tab8:ByteArray:=⟨#[0,1,2,2,3,3,3,3,4,4,4,4,4,4,4,4,5,5,5,5,5,5,5,5,5,5,5,5,5,5,5,5,6,6,6,6,6,6,6,6,6,6,6,6,6,6,6,6,6,6,6,6,6,6,6,6,6,6,6,6,6,6,6,6,7,7,7,7,7,7,7,7,7,7,7,7,7,7,7,7,7,7,7,7,7,7,7,7,7,7,7,7,7,7,7,7,7,7,7,7,7,7,7,7,7,7,7,7,7,7,7,7,7,7,7,7,7,7,7,7,7,7,7,7,7,7,7,7,8,8,8,8,8,8,8,8,8,8,8,8,8,8,8,8,8,8,8,8,8,8,8,8,8,8,8,8,8,8,8,8,8,8,8,8,8,8,8,8,8,8,8,8,8,8,8,8,8,8,8,8,8,8,8,8,8,8,8,8,8,8,8,8,8,8,8,8,8,8,8,8,8,8,8,8,8,8,8,8,8,8,8,8,8,8,8,8,8,8,8,8,8,8,8,8,8,8,8,8,8,8,8,8,8,8,8,8,8,8,8,8,8,8,8,8,8,8,8,8,8,8,8,8,8,8,8,8]⟩
theorem k1ql:∀b:Nat,b<256→Cv.byteAt tab8 (b:Int)=len64 (b:Int):=by decide +kernel
theorem k1jt (x:Int) (h:0≤x∧x<256):Cv.byteAt tab8 x=len64 x:=by
 obtain⟨n,rfl⟩:=Int.eq_ofNat_of_zero_le h.1
 exact k1ql n (by omega)
theorem k1mz (x:Int) (h:0≤x∧x<256):0≤len64 x∧len64 x≤8:=by
 rw[←k1jt x h]
 obtain⟨n,rfl⟩:=Int.eq_ofNat_of_zero_le h.1
 have:∀b:Nat,b<256→0≤Cv.byteAt tab8 (b:Int)∧Cv.byteAt tab8 (b:Int)≤8:=by decide +kernel
 exact this n (by omega)
theorem k1om:tab8.size=256:=by decide +kernel
end Go.Md
namespace Go.Md
open Go Go.Bv Go.Cv Go.Md Go.RowKit
section
variable {α β:Type}
def AllI (f:α→Bool) (l:List α) (i:Int):Prop:=0≤i∧i≤l.length∧∀x∈l.take i.toNat,f x=true
theorem AllI.start {f:α→Bool} {l:List α}:AllI f l 0:=⟨by omega,by omega,by simp⟩
theorem AllI.next [Inhabited α] {f:α→Bool} {l:List α} {i:Int} (h:AllI f l i) (hh:i<l.length) (hl:(l.length:Int)≤9223372036854775807) (hf:f (ix l i)=true):
  AllI f l (IntKind.i64.wrap (i+1))∧(l.length-IntKind.i64.wrap (i+1)).toNat<(l.length-i).toNat:=by
 obtain⟨g0,g1,g2⟩:=h
 rw[inc i l.length g0 hh hl]
 refine⟨⟨by omega,by omega,?_⟩,by omega⟩
 rw[k16 l i g0 hh]
 intro x hx
 rcases List.mem_append.1 hx with hx|hx
 ·exact g2 x hx
 ·have:x=ix l i:=by simpa using hx
  rw[this];exact hf
theorem AllI.bad [Inhabited α] {f:α→Bool} {l:List α} {i:Int} (h:AllI f l i) (hh:i<l.length) (hf:f (ix l i)=false):l.all f=false:=
 List.all_eq_false.2 ⟨ix l i,Md.ix_mem l i h.1 hh,by simp[hf]⟩
theorem AllI.done {f:α→Bool} {l:List α} {i:Int} (h:AllI f l i) (hh:¬i<l.length):l.all f=true:=by
 obtain⟨g0,g1,g2⟩:=h
 rw[List.take_of_length_le (by omega)]at g2
 exact List.all_eq_true.2 g2
def FoldI (f:β→α→β) (z:β) (l:List α) (i:Int) (s:β):Prop:=0≤i∧i≤l.length∧s=(l.take i.toNat).foldl f z
theorem FoldI.start {f:β→α→β} {z:β} {l:List α}:FoldI f z l 0 z:=⟨by omega,by omega,by simp⟩
theorem FoldI.next [Inhabited α] {f:β→α→β} {z:β} {l:List α} {i:Int} {s s' :β} (h:FoldI f z l i s) (hh:i<l.length) (hl:(l.length:Int)≤9223372036854775807) (hs:s' =f s (ix l i)):
  FoldI f z l (IntKind.i64.wrap (i+1)) s'∧(l.length-IntKind.i64.wrap (i+1)).toNat<(l.length-i).toNat:=by
 obtain⟨g0,g1,g2⟩:=h
 rw[inc i l.length g0 hh hl]
 refine⟨⟨by omega,by omega,?_⟩,by omega⟩
 rw[k16 l i g0 hh,List.foldl_append,←g2,hs]
 rfl
theorem FoldI.done {f:β→α→β} {z:β} {l:List α} {i:Int} {s:β} (h:FoldI f z l i s) (hh:¬i<l.length):s=l.foldl f z:=by
 obtain⟨g0,g1,g2⟩:=h
 rwa [List.take_of_length_le (by omega)]at g2
def FlatI (f:α→List β) (z:List β) (l:List α) (i:Int) (s:List β):Prop:=0≤i∧i≤l.length∧s=z++(l.take i.toNat).flatMap f
theorem FlatI.start {f:α→List β} {z:List β} {l:List α}:FlatI f z l 0 z:=⟨by omega,by omega,by simp⟩
theorem FlatI.next [Inhabited α] {f:α→List β} {z:List β} {l:List α} {i:Int} {s s' :List β} (h:FlatI f z l i s) (hh:i<l.length) (hl:(l.length:Int)≤9223372036854775807) (hs:s' =s++f (ix l i)):
  FlatI f z l (IntKind.i64.wrap (i+1)) s'∧(l.length-IntKind.i64.wrap (i+1)).toNat<(l.length-i).toNat:=by
 obtain⟨g0,g1,g2⟩:=h
 rw[inc i l.length g0 hh hl]
 refine⟨⟨by omega,by omega,?_⟩,by omega⟩
 rw[k16 l i g0 hh,List.flatMap_append,hs,g2]
 simp
theorem FlatI.done {f:α→List β} {z:List β} {l:List α} {i:Int} {s:List β} (h:FlatI f z l i s) (hh:¬i<l.length):s=z++l.flatMap f:=by
 obtain⟨g0,g1,g2⟩:=h
 rwa [List.take_of_length_le (by omega)]at g2
theorem FlatI.len {f:α→List β} {z:List β} {l:List α} {i:Int} {s:List β} (h:FlatI f z l i s) (k:Nat) (hk:∀x∈l,(f x).length≤k):s.length≤z.length+k*l.length:=by
 obtain⟨g0,g1,g2⟩:=h
 have key:∀(m:List α),(∀x∈m,(f x).length≤k)→(m.flatMap f).length≤k*m.length:=by
  intro m
  induction m with
  |nil=>simp
  |cons a m ih=>
   intro hm
   have h1:=ih (fun x hx=>hm x (by simp[hx]))
   have h2:=hm a (by simp)
   rw[List.flatMap_cons,List.length_append,List.length_cons,Nat.mul_add]
   omega
 have h1:=key (l.take i.toNat) (fun x hx=>hk x (List.mem_of_mem_take hx))
 have h2:k*(l.take i.toNat).length≤k*l.length:=Nat.mul_le_mul_left _ (by rw[List.length_take];omega)
 rw[g2,List.length_append]
 omega
def MapI (f:α→β) (l:List α) (i:Int) (s:List β):Prop:=0≤i∧i≤l.length∧s=(l.take i.toNat).map f
theorem MapI.start {f:α→β} {l:List α}:MapI f l 0 []:=⟨by omega,by omega,by simp⟩
theorem MapI.next [Inhabited α] {f:α→β} {l:List α} {i:Int} {s s' :List β} (h:MapI f l i s) (hh:i<l.length) (hl:(l.length:Int)≤9223372036854775807) (hs:s' =s++[f (ix l i)]):
  MapI f l (IntKind.i64.wrap (i+1)) s'∧(l.length-IntKind.i64.wrap (i+1)).toNat<(l.length-i).toNat:=by
 obtain⟨g0,g1,g2⟩:=h
 rw[inc i l.length g0 hh hl]
 refine⟨⟨by omega,by omega,?_⟩,by omega⟩
 rw[k16 l i g0 hh,List.map_append,hs,g2]
 simp
theorem MapI.done {f:α→β} {l:List α} {i:Int} {s:List β} (h:MapI f l i s) (hh:¬i<l.length):s=l.map f:=by
 obtain⟨g0,g1,g2⟩:=h
 rwa [List.take_of_length_le (by omega)]at g2
theorem MapI.len {f:α→β} {l:List α} {i:Int} {s:List β} (h:MapI f l i s):s.length=i.toNat:=by
 obtain⟨g0,g1,g2⟩:=h
 rw[g2,List.length_map,List.length_take];omega
def EqI [Inhabited α] (f:α→α→Bool) (l m:List α) (i:Int):Prop:=0≤i∧i≤l.length∧∀j:Nat,(j:Int)<i→f (ix l j) (ix m j)=true
theorem EqI.start [Inhabited α] {f:α→α→Bool} {l m:List α}:EqI f l m 0:=⟨by omega,by omega,fun j hj=>by omega⟩
theorem EqI.next [Inhabited α] {f:α→α→Bool} {l m:List α} {i:Int} (h:EqI f l m i) (hh:i<l.length) (hl:(l.length:Int)≤9223372036854775807) (hf:f (ix l i) (ix m i)=true):
  EqI f l m (IntKind.i64.wrap (i+1))∧(l.length-IntKind.i64.wrap (i+1)).toNat<(l.length-i).toNat:=by
 obtain⟨g0,g1,g2⟩:=h
 rw[inc i l.length g0 hh hl]
 refine⟨⟨by omega,by omega,fun j hj=> ?_⟩,by omega⟩
 by_cases hji:(j:Int)=i
 ·rw[hji];exact hf
 ·exact g2 j (by omega)
def eqB (f:α→α→Bool):List α→List α→Bool
 |[],[]=>true
 |a::l,b::m=>f a b&&eqB f l m
 |_,_=>false
theorem eqB_iff [Inhabited α] {f:α→α→Bool}:∀{l m:List α},eqB f l m=true↔l.length=m.length∧∀j:Nat,j<l.length→f (ix l (j:Int)) (ix m (j:Int))=true
 |[],[]=>by simp[eqB]
 |[],_::_=>by simp[eqB]
 |_::_,[]=>by simp[eqB]
 |a::l,b::m=>by
  have e:∀(a:α) (l:List α) (j:Nat),j<l.length→ix (a::l) ((j+1:Nat):Int)=ix l (j:Int):=by
   intro a l j hj
   rw[ix_nat _ _ (by omega) (by simp;omega),ix_nat _ _ (by omega) (by omega)]
   rfl
  have e0:∀(a:α) (l:List α),ix (a::l) ((0:Nat):Int)=a:=fun a l=>by rw[ix_nat _ _ (by omega) (by simp)];rfl
  simp only[eqB,Bool.and_eq_true,eqB_iff,List.length_cons]
  constructor
  ·rintro⟨h1,h2,h3⟩
   refine⟨by omega,fun j hj=> ?_⟩
   cases j with
   |zero=>rw[e0,e0];exact h1
   |succ j=>rw[e a l j (by omega),e b m j (by omega)];exact h3 j (by omega)
  ·rintro⟨h1,h2⟩
   have h3:=h2 0 (by omega)
   rw[e0,e0]at h3
   refine⟨h3,by omega,fun j hj=> ?_⟩
   have:=h2 (j+1) (by omega)
   rwa [e a l j (by omega),e b m j (by omega)]at this
theorem EqI.bad [Inhabited α] {f:α→α→Bool} {l m:List α} {i:Int} (h:EqI f l m i) (hh:i<l.length) (hf:f (ix l i) (ix m i)=false):eqB f l m=false:=by
 cases hq:eqB f l m with
 |false=>rfl
 |true=>
  have h0:=h.1
  have:=(eqB_iff.1 hq).2 i.toNat (by omega)
  rw[Int.toNat_of_nonneg h.1,hf]at this
  cases this
theorem EqI.done [Inhabited α] {f:α→α→Bool} {l m:List α} {i:Int} (h:EqI f l m i) (hlm:l.length=m.length) (hh:¬i<l.length):eqB f l m=true:=
 eqB_iff.2 ⟨hlm,fun j hj=>h.2.2 j (by omega)⟩
end
theorem k1fu {α:Type} {p:α→Bool}:∀{l:List α} {j:Nat},mIdx p l=some j→∃x,l[j]? =some x∧p x=true
 |[],_,h=>by cases h
 |x::l,j,h=>by
  cases hp:p x with
  |true=>simp only[mIdx,hp,cond_true,Option.some.injEq]at h;subst h;exact⟨x,rfl,hp⟩
  |false=>
   simp only[mIdx,hp,cond_false,Option.map_eq_some_iff]at h
   obtain⟨i,h1,rfl⟩:=h
   obtain⟨y,h2,h3⟩:=k1fu h1
   exact⟨y,by simpa using h2,h3⟩
@[simp] theorem k1r3 {α:Type} (p:α→Bool):mHas p []=false:=rfl
@[simp] theorem k1r4 {α β:Type} (p:α→Bool) (z:β) (vs:List β):mVal p [] vs z=z:=rfl
theorem k1pj {α β:Type} {p:α→Bool} {ks:List α} {vs:List β} {z:β} (h:mHas p ks=true) (hl:ks.length=vs.length):mVal p ks vs z∈vs:=by
 unfold mHas at h
 unfold mVal
 cases hm:mIdx p ks with
 |none=>rw[hm]at h;cases h
 |some j=>
  obtain⟨x,h1,h2⟩:=k1fu hm
  have hj:j<vs.length:=by have:=(List.getElem?_eq_some_iff.1 h1).1;omega
  simp only[List.getElem?_eq_getElem hj,Option.getD_some]
  exact List.getElem_mem hj
theorem k1jc (a:Int) (h:0≤a∧a<4611686018427387904):iand .i64 a 1=a%2:=by
 obtain⟨n,rfl⟩:=Int.eq_ofNat_of_zero_le h.1
 unfold iand
 have e1:(BitVec.ofInt IntKind.i64.bits (n:Int)).toNat=n:=kjm n (by omega)
 have e2:(BitVec.ofInt IntKind.i64.bits (1:Int)).toNat=1:=kjm 1 (by omega)
 rw[BitVec.toNat_and,e1,e2,Nat.and_one_is_mod]
 rw[wi _ (by omega) (by omega)]
 omega
end Go.Md
namespace Go.Proofs.Ytpffhgljgpjenaa
open Go Go.Bv Go.Cv Go.Md Go.RowKit
def rc (r i:Int):Int:=(3*r+i+1)*11400714819323198485%18446744073709551616%18446744069414584321
def mixS (s:TA3):TA3:=⟨(s.a0+((s.a0+s.a1)%18446744069414584321+s.a2)%18446744069414584321)%18446744069414584321,(s.a1+((s.a0+s.a1)%18446744069414584321+s.a2)%18446744069414584321)%18446744069414584321,(s.a2+((s.a0+s.a1)%18446744069414584321+s.a2)%18446744069414584321)%18446744069414584321⟩
def pw (a e:Int):Int:=a^e.toNat%18446744069414584321
def rnd (s:TA3) (r:Int):TA3:=mixS ⟨pw ((s.a0+rc r 0)%18446744069414584321) 7,pw ((s.a1+rc r 1)%18446744069414584321) 7,pw ((s.a2+rc r 2)%18446744069414584321) 7⟩
def rnds:Nat→TA3→TA3
 |0,s=>s
 |n+1,s=>rnd (rnds n s) n
def permS (s:TA3):TA3:=rnds 8 s
def absL:List Int→TA3→TA3
 |[],s=>s
 |[x],s=>permS ⟨(s.a0+x)%18446744069414584321,s.a1,s.a2⟩
 |x::y::r,s=>absL r (permS ⟨(s.a0+x)%18446744069414584321,(s.a1+y)%18446744069414584321,s.a2⟩)
def absI (label:Int) (l:List Int):TA3:=⟨0,0,(label*65536%18446744069414584321+(l.length:Int))%18446744069414584321⟩
def absS (label:Int) (l:List Int):TA3:=if l=[]then permS (absI label l)else absL l (absI label l)
def hashS (label:Int) (l:List Int):Int:=(absS label l).a0
def S3 (s:TA3):Prop:=U64 s.a0∧U64 s.a1∧U64 s.a2
theorem S3m {a b c:Int} (ha:U64 a) (hb:U64 b) (hc:U64 c):S3 ⟨a,b,c⟩:=⟨ha,hb,hc⟩
theorem kdu (s:TA3):S3 (permS s):=by
 show S3 (rnd _ _)
 unfold rnd mixS S3
 dsimp only
 omega
theorem k1ah:∀(l:List Int) (s:TA3),S3 s→S3 (absL l s)
 |[],_,h=>h
 |[_],_,_=>kdu _
 |_::_::r,_,_=>k1ah r _ (kdu _)
theorem koa (label:Int) (l:List Int):U64 (hashS label l):=by
 unfold hashS absS
 split
 ·exact(kdu _).1
 ·rename_i h
  match l,h with
  |[_],_=>exact(kdu _).1
  |_::_::r,_=>exact(k1ah r _ (kdu _)).1
theorem k198 (s:TA3):(permS s).a0<18446744069414584321:=by
 show(rnd _ _).a0<_
 unfold rnd mixS
 dsimp only
 omega
theorem absL_lt:∀(l:List Int) (s:TA3),l≠[]→(absL l s).a0<18446744069414584321
 |[],_,h=>(h rfl).elim
 |[_],_,_=>k198 _
 |[_,_],_,_=>k198 _
 |_::_::x::r,s,_=>absL_lt (x::r) _ (by simp)
theorem k1ir (label:Int) (l:List Int):hashS label l<18446744069414584321:=by
 unfold hashS absS
 split
 ·exact k198 _
 ·rename_i h;exact absL_lt _ _ h
structure RD where
 n:Int
 ok:Bool
 pos:Int
 fail:Bool
structure RL where
 l:List Int
 pos:Int
 fail:Bool
structure RdOk (b:List Int) (pos:Int):Prop where
 by_:By b
 len:b.length≤137438953472
 pos0:0≤pos
 pos1:pos≤b.length
def rdD (b:List Int) (pos:Int) (f:Bool) (size:Int):RD:=
 if f=true∨(b.length:Int)-pos<size then⟨0,false,pos,true⟩else⟨val ((b.drop pos.toNat).take size.toNat),true,pos+size,false⟩
def rdU (b:List Int) (pos:Int) (f:Bool) (m:Int):RD:=
 if(rdD b pos f 8).ok=false∨m<(rdD b pos f 8).n then⟨0,false,(rdD b pos f 8).pos,true⟩else rdD b pos f 8
def rdI (b:List Int) (pos:Int) (f:Bool) (m:Int):RD:=
 if(rdD b pos f 4).ok=false∨m<(rdD b pos f 4).n then⟨0,false,(rdD b pos f 4).pos,true⟩else rdD b pos f 4
def rdLs (b:List Int) (p:Int):Nat→Int→List Int→RL
 |0,pos,acc=>⟨acc,pos,false⟩
 |k+1,pos,acc=>if p≤val ((b.drop pos.toNat).take 8)then⟨[],pos+8,true⟩else rdLs b p k (pos+8) (acc++[val ((b.drop pos.toNat).take 8)])
def rdL (b:List Int) (pos:Int) (f:Bool) (m p:Int):RL:=
 if(rdI b pos f m).fail=true∨((b.length:Int)-(rdI b pos f m).pos)/8<(rdI b pos f m).n then⟨[],(rdI b pos f m).pos,true⟩else rdLs b p (rdI b pos f m).n.toNat (rdI b pos f m).pos []
def rdB (b:List Int) (pos:Int) (f:Bool) (m:Int):RL:=
 if(rdI b pos f m).fail=true∨(b.length:Int)-(rdI b pos f m).pos<(rdI b pos f m).n then⟨[],(rdI b pos f m).pos,true⟩else⟨(b.take ((rdI b pos f m).pos+(rdI b pos f m).n).toNat).drop (rdI b pos f m).pos.toNat,(rdI b pos f m).pos+(rdI b pos f m).n,false⟩
theorem k11s {b:List Int} {pos p:Int} {f:Bool} (h:RdOk b pos) (h0:1≤p) (h1:p≤8):0≤(rdD b pos f p).n∧(rdD b pos f p).n<256^p.toNat:=by
 unfold rdD
 split
 ·exact⟨Int.le_refl 0,kan _⟩
 ·rename_i hn
  have hb:=ko5 _ ((h.by_.drop pos.toNat).take p.toNat)
  rw[List.length_take,List.length_drop,Nat.min_eq_left (by have:=h.pos0;omega)]at hb
  exact hb
theorem rdD_ok {b:List Int} {pos p:Int} {f:Bool} (h:RdOk b pos) (h0:1≤p):RdOk b (rdD b pos f p).pos:=by
 unfold rdD
 have:=h.pos0
 split
 ·exact h
 ·rename_i hn
  exact⟨h.by_,h.len,by show 0≤pos+p;omega,by show pos+p≤_;omega⟩
theorem rdU_ok {b:List Int} {pos m:Int} {f:Bool} (h:RdOk b pos):RdOk b (rdU b pos f m).pos:=by
 unfold rdU
 split
 ·exact rdD_ok h (by omega)
 ·exact rdD_ok h (by omega)
theorem rdI_ok {b:List Int} {pos m:Int} {f:Bool} (h:RdOk b pos):RdOk b (rdI b pos f m).pos:=by
 unfold rdI
 split
 ·exact rdD_ok h (by omega)
 ·exact rdD_ok h (by omega)
theorem rdI_n {b:List Int} {pos m:Int} {f:Bool} (h:RdOk b pos) (hm:0≤m):0≤(rdI b pos f m).n∧(rdI b pos f m).n≤m:=by
 have:=k11s h (p:=4) (f:=f) (by omega) (by omega)
 unfold rdI
 split
 ·exact⟨Int.le_refl 0,hm⟩
 ·rename_i hn
  exact⟨this.1,by omega⟩
theorem rdU_n {b:List Int} {pos m:Int} {f:Bool} (h:RdOk b pos):U64 (rdU b pos f m).n:=by
 have:=k11s h (p:=8) (f:=f) (by omega) (by omega)
 unfold rdU
 split
 ·exact⟨Int.le_refl 0,(by decide:(0:Int)<18446744073709551616)⟩
 ·exact⟨this.1,this.2⟩
theorem cut_dig {b:List Int} (h:By b) (k:Nat) (hk:k≤b.length):b=dig k (val (b.take k))++b.drop k:=by
 have:=dig_val (b.take k) (h.take k)
 rw[List.length_take,Nat.min_eq_left hk]at this
 rw[this,List.take_append_drop]
theorem put_dig {b r:List Int} {k:Nat} {n:Int} (h:b=dig k n++r) (h0:0≤n) (h1:n<256^k):val (b.take k)=n∧b.drop k=r∧k≤b.length:=by
 subst h
 rw[List.take_left' (kh k n),List.drop_left' (kh k n),List.length_append,kh]
 exact⟨val_dig k n h0 h1,rfl,by omega⟩
def nums:Nat→List Int→List Int
 |0,_=>[]
 |k+1,b=>val (b.take 8)::nums k (b.drop 8)
@[simp] theorem khn:∀(k:Nat) (b:List Int),(nums k b).length=k
 |0,_=>rfl
 |k+1,b=>by simp[nums,khn k]
theorem nums_us:∀(k:Nat) {b:List Int},By b→Us (nums k b)
 |0,_,_=>by intro x hx;cases hx
 |k+1,b,h=>by
  intro x hx
  rcases List.mem_cons.1 hx with rfl|hx
  ·exact val8 _ (h.take 8) (by rw[List.length_take];omega)
  ·exact nums_us k (h.drop 8) x hx
theorem k19f:∀(k:Nat) {b:List Int},By b→8*k≤b.length→b=(nums k b).flatMap (dig 8)++b.drop (8*k)
 |0,_,_,_=>rfl
 |k+1,b,h,hk=>by
  have h1:=cut_dig h 8 (by omega)
  have h2:=k19f k (h.drop 8) (by rw[List.length_drop];omega)
  rw[List.drop_drop,show 8+8*k=8*(k+1)by omega]at h2
  simp only[nums,List.flatMap_cons,List.append_assoc]
  rw[←h2]
  exact h1
theorem k182:∀(l:List Int) {b r:List Int},b=l.flatMap (dig 8)++r→Us l→nums l.length b=l∧b.drop (8*l.length)=r∧8*l.length≤b.length
 |[],b,r,h,_=>⟨rfl,by simpa using h,by simp⟩
 |x::l,b,r,h,hu=>by
  rw[List.flatMap_cons,List.append_assoc]at h
  have hx:=hu x (by simp)
  obtain⟨h1,h2,h3⟩:=put_dig h hx.1 (by omega)
  obtain⟨g1,g2,g3⟩:=k182 l h2 (fun y hy=>hu y (by simp[hy]))
  rw[List.length_drop]at g3
  refine⟨?_,?_,?_⟩
  ·simp only[List.length_cons,nums,h1,g1]
  ·rw[List.drop_drop,show 8+8*l.length=8*(l.length+1)by omega]at g2
   simpa using g2
  ·rw[List.length_cons];omega
section
variable {b:List Int} {pos m p:Int} {f:Bool}
theorem kmr (h0:0≤pos) (k:Nat):b.drop (pos+(k:Int)).toNat=(b.drop pos.toNat).drop k:=by
 rw[List.drop_drop,show(pos+(k:Int)).toNat=pos.toNat+k by omega]
theorem rdD_snd (h:RdOk b pos) (k:Nat) (hf:(rdD b pos f k).ok=true):f=false∧b.drop pos.toNat=dig k (rdD b pos f k).n++b.drop (rdD b pos f k).pos.toNat∧(rdD b pos f k).fail=false:=by
 unfold rdD at *
 split at hf
 ·cases hf
 ·rename_i hn
  rw[if_neg hn]
  have h0:=h.pos0
  refine⟨?_,?_,rfl⟩
  ·cases f
   ·rfl
   ·exact absurd (.inl rfl) hn
  ·show b.drop pos.toNat=dig k (val ((b.drop pos.toNat).take (k:Int).toNat))++b.drop (pos+(k:Int)).toNat
   rw[kmr h0,Int.toNat_natCast]
   refine cut_dig (h.by_.drop _) k ?_
   have:¬(b.length:Int)-pos<k:=fun h=>hn (.inr h)
   rw[List.length_drop]
   omega
theorem rdD_cpl (h:RdOk b pos) (k:Nat) {n:Int} {r:List Int} (hf:f=false) (hr:b.drop pos.toNat=dig k n++r) (h0:0≤n) (h1:n<256^k):rdD b pos f k=⟨n,true,pos+k,false⟩∧b.drop (pos+(k:Int)).toNat=r:=by
 obtain⟨g1,g2,g3⟩:=put_dig hr h0 h1
 rw[List.length_drop]at g3
 have hp:=h.pos1
 have hp0:=h.pos0
 refine⟨?_,by rw[kmr hp0];exact g2⟩
 unfold rdD
 have hk:¬(f=true∨(b.length:Int)-pos<k):=by rw[hf];simp only[Bool.false_eq_true,false_or];rcases Nat.eq_zero_or_pos k with h|h<;>omega
 rw[if_neg hk,Int.toNat_natCast,g1]
theorem rdU_snd (h:RdOk b pos) (hf:(rdU b pos f m).fail=false):f=false∧b.drop pos.toNat=dig 8 (rdU b pos f m).n++b.drop (rdU b pos f m).pos.toNat∧(rdU b pos f m).n≤m:=by
 unfold rdU at *
 split at hf
 ·cases hf
 ·rename_i hn
  rw[if_neg hn]
  have ho:(rdD b pos f 8).ok=true:=by
   cases hc:(rdD b pos f 8).ok
   ·exact absurd (.inl hc) hn
   ·rfl
  obtain⟨g1,g2,g3⟩:=rdD_snd h 8 ho
  exact⟨g1,g2,by have:¬m<(rdD b pos f 8).n:=fun h=>hn (.inr h);omega⟩
theorem rdU_cpl (h:RdOk b pos) {n:Int} {r:List Int} (hf:f=false) (hr:b.drop pos.toNat=dig 8 n++r) (hn:U64 n) (hm:n≤m):(rdU b pos f m).fail=false∧(rdU b pos f m).n=n∧b.drop (rdU b pos f m).pos.toNat=r:=by
 obtain⟨g1,g2⟩:=rdD_cpl h 8 hf hr hn.1 hn.2
 have e:rdU b pos f m=⟨n,true,pos+8,false⟩:=by
  unfold rdU
  have g1:rdD b pos f 8=⟨n,true,pos+8,false⟩:=g1
  rw[g1]
  exact if_neg (by simp;omega)
 rw[e]
 exact⟨rfl,rfl,g2⟩
theorem rdI_snd (h:RdOk b pos) (hf:(rdI b pos f m).fail=false):f=false∧b.drop pos.toNat=dig 4 (rdI b pos f m).n++b.drop (rdI b pos f m).pos.toNat∧(rdI b pos f m).n≤m:=by
 unfold rdI at *
 split at hf
 ·cases hf
 ·rename_i hn
  rw[if_neg hn]
  have ho:(rdD b pos f 4).ok=true:=by
   cases hc:(rdD b pos f 4).ok
   ·exact absurd (.inl hc) hn
   ·rfl
  obtain⟨g1,g2,g3⟩:=rdD_snd h 4 ho
  exact⟨g1,g2,by have:¬m<(rdD b pos f 4).n:=fun h=>hn (.inr h);omega⟩
theorem rdI_cpl (h:RdOk b pos) {n:Int} {r:List Int} (hf:f=false) (hr:b.drop pos.toNat=dig 4 n++r) (h0:0≤n) (h1:n<4294967296) (hm:n≤m):(rdI b pos f m).fail=false∧(rdI b pos f m).n=n∧b.drop (rdI b pos f m).pos.toNat=r:=by
 obtain⟨g1,g2⟩:=rdD_cpl h 4 hf hr h0 h1
 have e:rdI b pos f m=⟨n,true,pos+4,false⟩:=by
  unfold rdI
  have g1:rdD b pos f 4=⟨n,true,pos+4,false⟩:=g1
  rw[g1]
  exact if_neg (by simp;omega)
 rw[e]
 exact⟨rfl,rfl,g2⟩
theorem rdLs_ok:∀(k:Nat) {pos:Int} {acc:List Int},RdOk b pos→pos+8*k≤b.length→RdOk b (rdLs b p k pos acc).pos
 |0,pos,acc,h,_=>h
 |k+1,pos,acc,h,hk=>by
  have h2:RdOk b (pos+8):=⟨h.by_,h.len,by have:=h.pos0;omega,by omega⟩
  unfold rdLs
  split
  ·exact h2
  ·exact rdLs_ok k h2 (by omega)
theorem k19e:∀(k:Nat) {pos:Int} {acc:List Int},RdOk b pos→pos+8*k≤b.length→(rdLs b p k pos acc).fail=false→
  (rdLs b p k pos acc).l=acc++nums k (b.drop pos.toNat)∧(∀x∈nums k (b.drop pos.toNat),x<p)∧(rdLs b p k pos acc).pos=pos+8*k
 |0,pos,acc,h,_,_=>⟨by simp[rdLs,nums],by simp[nums],by simp[rdLs]⟩
 |k+1,pos,acc,h,hk,hf=>by
  have h2:RdOk b (pos+8):=⟨h.by_,h.len,by have:=h.pos0;omega,by omega⟩
  have hd:b.drop (pos+8).toNat=(b.drop pos.toNat).drop 8:=kmr h.pos0 8
  unfold rdLs at *
  split at hf
  ·cases hf
  ·rename_i hn
   rw[if_neg hn]
   obtain⟨g1,g2,g3⟩:=k19e k h2 (by omega) hf
   rw[hd]at g1 g2
   refine⟨?_,?_,?_⟩
   ·rw[g1,List.append_assoc];rfl
   ·intro x hx
    rcases List.mem_cons.1 hx with rfl|hx
    ·omega
    ·exact g2 x hx
   ·rw[g3];omega
theorem k1jf:∀(k:Nat) {pos:Int} {acc:List Int},RdOk b pos→pos+8*k≤b.length→(∀x∈nums k (b.drop pos.toNat),x<p)→(rdLs b p k pos acc).fail=false
 |0,pos,acc,h,_,_=>rfl
 |k+1,pos,acc,h,hk,hf=>by
  have h2:RdOk b (pos+8):=⟨h.by_,h.len,by have:=h.pos0;omega,by omega⟩
  have hd:b.drop (pos+8).toNat=(b.drop pos.toNat).drop 8:=kmr h.pos0 8
  unfold rdLs
  have h3:=hf (val ((b.drop pos.toNat).take 8)) (by simp[nums])
  rw[if_neg (by omega)]
  exact k1jf k h2 (by omega) (by rw[hd];exact fun x hx=>hf x (List.mem_cons_of_mem _ hx))
theorem rdL_ok (h:RdOk b pos) (hm:0≤m):RdOk b (rdL b pos f m p).pos:=by
 unfold rdL
 split
 ·exact rdI_ok h
 ·rename_i hn
  have:=rdI_n h (f:=f) hm
  have:¬((b.length:Int)-(rdI b pos f m).pos)/8<(rdI b pos f m).n:=fun h=>hn (.inr h)
  exact rdLs_ok _ (rdI_ok h) (by omega)
theorem rdL_snd (h:RdOk b pos) (hm:0≤m∧m≤4294967295) (hf:(rdL b pos f m p).fail=false):f=false∧b.drop pos.toNat=encL (rdL b pos f m p).l++b.drop (rdL b pos f m p).pos.toNat∧((rdL b pos f m p).l.length:Int)≤m∧(∀x∈(rdL b pos f m p).l,x<p)∧Us (rdL b pos f m p).l:=by
 unfold rdL at *
 split at hf
 ·cases hf
 ·rename_i hn
  rw[if_neg hn]
  have hI:(rdI b pos f m).fail=false:=by
   cases hc:(rdI b pos f m).fail
   ·rfl
   ·exact absurd (.inl hc) hn
  have hI2:=rdI_n h (f:=f) hm.1
  have hok:=rdI_ok h (f:=f) (m:=m)
  obtain⟨g1,g2,g3⟩:=rdI_snd h hI
  have hle:¬((b.length:Int)-(rdI b pos f m).pos)/8<(rdI b pos f m).n:=fun h=>hn (.inr h)
  obtain⟨k1,k2,k3⟩:=k19e _ hok (by omega) hf
  rw[List.nil_append]at k1
  rw[k1,k3]
  have hp0:=hok.pos0
  have hp1:=hok.pos1
  refine⟨g1,?_,by rw[khn];omega,k2,nums_us _ (h.by_.drop _)⟩
  rw[g2]
  unfold encL
  rw[khn,show(((rdI b pos f m).n.toNat:Nat):Int)=(rdI b pos f m).n by omega,len4_in (by omega),List.append_assoc]
  congr 1
  have:=k19f (rdI b pos f m).n.toNat (h.by_.drop (rdI b pos f m).pos.toNat) (by rw[List.length_drop];omega)
  have e:=kmr (b:=b) hp0 (8*(rdI b pos f m).n.toNat)
  rw[show((rdI b pos f m).pos+((8*(rdI b pos f m).n.toNat:Nat):Int))=(rdI b pos f m).pos+8*((rdI b pos f m).n.toNat:Int)by omega,show(((rdI b pos f m).n.toNat:Nat):Int)=(rdI b pos f m).n by omega]at e
  rw[e]
  exact this
theorem rdL_cpl (h:RdOk b pos) (hm:0≤m∧m≤4294967295) {l r:List Int} (hf:f=false) (hr:b.drop pos.toNat=encL l++r) (hl:(l.length:Int)≤m) (hp:∀x∈l,x<p) (hu:Us l):(rdL b pos f m p).fail=false∧(rdL b pos f m p).l=l∧b.drop (rdL b pos f m p).pos.toNat=r:=by
 unfold encL at hr
 rw[len4_in (by omega),List.append_assoc]at hr
 have hok:=rdI_ok h (f:=f) (m:=m)
 obtain⟨g1,g2,g3⟩:=rdI_cpl h hf hr (by omega) (by omega) hl
 obtain⟨k1,k2,k3⟩:=k182 l g3 hu
 rw[List.length_drop]at k3
 have hp0:=hok.pos0
 have hp1:=hok.pos1
 have hn:¬((rdI b pos f m).fail=true∨((b.length:Int)-(rdI b pos f m).pos)/8<(rdI b pos f m).n):=by
  rw[g1,g2]
  simp only[Bool.false_eq_true,false_or]
  omega
 unfold rdL
 rw[if_neg hn,g2,Int.toNat_natCast]
 have hc:=k1jf (p:=p) (acc:=[]) l.length hok (by omega) (by rw[k1];exact hp)
 obtain⟨q1,q2,q3⟩:=k19e _ hok (by omega) hc
 refine⟨hc,by rw[q1,k1];rfl,?_⟩
 rw[q3,show(rdI b pos f m).pos+8*(l.length:Int)=(rdI b pos f m).pos+((8*l.length:Nat):Int)by omega,kmr hp0]
 exact k2
end
structure RB where
 l:List Int
 b:List Int
 f:Bool
structure RN where
 n:Int
 b:List Int
 f:Bool
def tkB (b:List Int) (f:Bool) (k:Int):RB:=if f=true∨(b.length:Int)<k then⟨[],b,true⟩else⟨b.take k.toNat,b.drop k.toNat,false⟩
def nB (k:Int) (b:List Int) (f:Bool) (m:Int):RN:=if(tkB b f k).f=true∨m<val (tkB b f k).l then⟨0,(tkB b f k).b,true⟩else⟨val (tkB b f k).l,(tkB b f k).b,false⟩
section
variable {b r:List Int} {f:Bool} {k m n:Int}
theorem tkB_l (h:By b):By (tkB b f k).l:=by
 unfold tkB;split
 ·intro x hx;cases hx
 ·exact h.take _
theorem tkB_b (h:By b):By (tkB b f k).b∧(tkB b f k).b.length≤b.length:=by
 unfold tkB;split
 ·exact⟨h,Nat.le_refl _⟩
 ·exact⟨h.drop _,by show(b.drop _).length≤_;rw[List.length_drop];omega⟩
theorem tkB_len:((tkB b f k).l.length:Int)≤max k 0:=by
 unfold tkB;split
 ·simp;omega
 ·show((b.take _).length:Int)≤_;rw[List.length_take];omega
theorem tkB_snd (hk:0≤k) (h:(tkB b f k).f=false):f=false∧b=(tkB b f k).l++(tkB b f k).b∧((tkB b f k).l.length:Int)=k:=by
 unfold tkB at *
 split at h
 ·cases h
 ·rename_i hn
  rw[if_neg hn]
  refine⟨?_,(List.take_append_drop _ _).symm,?_⟩
  ·cases f
   ·rfl
   ·exact absurd (.inl rfl) hn
  ·show((b.take k.toNat).length:Int)=k
   have:¬(b.length:Int)<k:=fun h=>hn (.inr h)
   rw[List.length_take];omega
theorem tkB_cpl {l:List Int} (hf:f=false) (h:b=l++r) (hl:(l.length:Int)=k):tkB b f k=⟨l,r,false⟩:=by
 subst h
 unfold tkB
 rw[if_neg (by rw[hf,List.length_append];simp;omega),show k.toNat=l.length by omega,List.take_left' rfl,List.drop_left' rfl]
theorem nB_b (h:By b):By (nB k b f m).b∧(nB k b f m).b.length≤b.length:=by
 unfold nB;split<;>exact tkB_b h
theorem nB_n (h:By b) (hk:0≤k):0≤(nB k b f m).n∧(nB k b f m).n<256^k.toNat:=by
 unfold nB;split
 ·exact⟨Int.le_refl 0,kan _⟩
 ·have h1:=ko5 _ (tkB_l (f:=f) (k:=k) h)
  have h2:=tkB_len (b:=b) (f:=f) (k:=k)
  have h3:(256:Int)^(tkB b f k).l.length≤256^k.toNat:=k136 (by omega)
  exact⟨h1.1,Int.lt_of_lt_of_le h1.2 h3⟩
theorem nB_snd (h:By b) (hk:0≤k) (hf:(nB k b f m).f=false):f=false∧b=dig k.toNat (nB k b f m).n++(nB k b f m).b∧(nB k b f m).n≤m:=by
 unfold nB at *
 split at hf
 ·cases hf
 ·rename_i hn
  rw[if_neg hn]
  have ht:(tkB b f k).f=false:=by
   cases hc:(tkB b f k).f
   ·rfl
   ·exact absurd (.inl hc) hn
  obtain⟨h1,h2,h3⟩:=tkB_snd hk ht
  refine⟨h1,?_,by show val _≤m;have:¬m<val (tkB b f k).l:=fun h=>hn (.inr h);omega⟩
  show b=dig k.toNat (val (tkB b f k).l)++(tkB b f k).b
  have:=dig_val (tkB b f k).l (tkB_l h)
  rw[show(tkB b f k).l.length=k.toNat by omega]at this
  rw[this]
  exact h2
theorem nB_cpl (hk:0≤k) (hf:f=false) (h:b=dig k.toNat n++r) (h0:0≤n) (h1:n<256^k.toNat) (hm:n≤m):nB k b f m=⟨n,r,false⟩:=by
 unfold nB
 rw[tkB_cpl hf h (by rw[kh];omega)]
 show(if false=true∨m<val (dig k.toNat n)then _ else _)=_
 rw[val_dig k.toNat n h0 h1,if_neg (by simp;omega)]
end
def allB (l:List Int):Bool:=l.all (fun x=>decide (x<18446744069414584321))
theorem kya {l:List Int}:allB l=true↔∀x∈l,x<18446744069414584321:=by unfold allB;simp
def keyB (ns l:List Int):ByteArray:=strOfNums (ns.flatMap (dig 8)++l.flatMap (dig 8))
structure OrOk (ks:List ByteArray) (vs:List Int) (qs:List TQuestion):Prop where
 len:ks.length=vs.length
 rng:∀v∈vs,0≤v∧v<qs.length
def pk (ideal:Bool) (qs:List TQuestion) (ks:List ByteArray) (vs:List Int) (label:Int) (l:List Int):Option Int:=
 if allB l=true then(if mHas (BEq.beq (keyB [label] l)) ks=true then some (ix qs (mVal (BEq.beq (keyB [label] l)) ks vs 0)).Answer else if ideal=true then none else some (hashS label l))else none
def pkR (label:Int) (l:List Int):Option Int:=if allB l=true then some (hashS label l)else none
theorem pk_real (qs:List TQuestion) (label:Int) (l:List Int):pk false qs [] [] label l=pkR label l:=by unfold pk pkR;simp
def noteV (n:TNote):Bool:=decide (n.Value≤4294967295)&&decide (n.Owner<18446744069414584321)&&decide (n.Rho<18446744069414584321)&&decide (n.Blind<18446744069414584321)
def noteL (n:TNote):List Int:=[n.Value,n.Owner,n.Rho,n.Blind]
def noteOf (x:TSpent):TNote:=⟨x.Note_Value,x.Note_Owner,x.Note_Rho,x.Note_Blind⟩
def spendV (x:TSpent):Bool:=noteV (noteOf x)&&decide (x.Key<18446744069414584321)&&decide (0≤x.Number)&&decide (x.Number<4)&&decide (0≤x.Position)&&decide (x.Position≤4095)&&decide (x.Path.length≤12)&&allB x.Path
def inV (depth:Int) (x:TSpent):Bool:=spendV x&&decide ((x.Path.length:Int)=depth)&&decide (x.Position<2^depth.toNat)
def relV (s:TStatement) (w:TWitness):Bool:=
 decide (1≤s.Depth)&&decide (s.Depth≤12)&&allB [s.Anchor,s.Account,s.Bind,w.Secret]&&decide (s.Deposit≤4294967295)&&decide (s.Withdraw≤4294967295)&&decide (s.Fee≤4294967295)&&
 allB s.Marks&&allB s.Commits&&allB s.Rhos&&decide (w.Ins.length=s.Marks.length)&&decide (w.Ins.length≤4)&&decide (w.Outs.length=s.Commits.length)&&decide (w.Outs.length=s.Rhos.length)&&decide (w.Outs.length≤4)&&
 w.Ins.all (inV s.Depth)&&w.Outs.all noteV
def climbL:Int→Int→List Int→Int
 |d,_,[]=>d
 |d,p,n::r=>climbL (if p%2=0 then hashS 6 [d,n]else hashS 6 [n,d]) (p/2) r
def climbS (leaf pos:Int) (path:List Int):Int:=if path.length≤12∧0≤pos∧pos<2^path.length∧leaf<18446744069414584321∧allB path=true then climbL leaf pos path else 0
def ownerS (key number:Int):Int:=if 0≤number∧number<4 then hashS 1 [key,number]else 0
def acctS (secret:Int):Int:=hashS 7 [secret]
abbrev Ask:=Int→List Int→Option Int
def markP (f:Ask) (key rho:Int):Option Int:=if key<18446744069414584321∧rho<18446744069414584321 then f 3 [key,rho]else none
def commP (f:Ask) (n:TNote):Option Int:=if noteV n=true then f 2 (noteL n)else none
def inE (f:Ask) (anchor mark:Int) (x:TSpent):Int:=
 if x.Note_Owner≠ownerS x.Key x.Number then 21 else
 if(markP f x.Key x.Note_Rho).isSome=false∨(markP f x.Key x.Note_Rho).getD 0≠mark then 12 else
 if x.Dummy=true then(if x.Note_Value≠0 then 13 else 0)else
 if(commP f (noteOf x)).isSome=false∨climbS ((commP f (noteOf x)).getD 0) x.Position x.Path≠anchor then 11 else 0
def insE (f:Ask) (anchor:Int):List TSpent→List Int→Int
 |x::r,m::ms=>if inE f anchor m x≠0 then inE f anchor m x else insE f anchor r ms
 |_,_=>0
def outB (f:Ask) (n:TNote) (c r:Int):Bool:=(commP f n).isSome&&(commP f n).getD 0==c&&n.Rho==r
def outsB (f:Ask):List TNote→List Int→List Int→Bool
 |n::l,c::cs,r::rs=>outB f n c r&&outsB f l cs rs
 |_,_,_=>true
def inS (l:List TSpent):Int:=l.foldl (fun s x=>(s+x.Note_Value)%18446744073709551616) 0
def outS (l:List TNote):Int:=l.foldl (fun s x=>(s+x.Value)%18446744073709551616) 0
def checkS (f:Ask) (s:TStatement) (w:TWitness):Int:=
 if relV s w=false then 1 else
 if insE f s.Anchor w.Ins s.Marks≠0 then insE f s.Anchor w.Ins s.Marks else
 if outsB f w.Outs s.Commits s.Rhos=false then 1 else
 if 0<s.Deposit∧s.Account≠acctS w.Secret then 21 else
 if(inS w.Ins+s.Deposit)%18446744073709551616≠((outS w.Outs+s.Withdraw)%18446744073709551616+s.Fee)%18446744073709551616 then 13 else 0
structure NR (n:TNote):Prop where
 v:U64 n.Value
 o:U64 n.Owner
 r:U64 n.Rho
 b:U64 n.Blind
structure PR (x:TSpent):Prop where
 n:NR (noteOf x)
 k:U64 x.Key
 nu: -9223372036854775808≤x.Number∧x.Number≤9223372036854775807
 po: -9223372036854775808≤x.Position∧x.Position≤9223372036854775807
 pa:Us x.Path
 pl:x.Path.length≤1073741824
structure WR (w:TWitness):Prop where
 i:∀x∈w.Ins,PR x
 il:w.Ins.length≤1073741824
 o:∀x∈w.Outs,NR x
 ol:w.Outs.length≤1073741824
 s:U64 w.Secret
structure SR (s:TStatement):Prop where
 d: -9223372036854775808≤s.Depth∧s.Depth≤9223372036854775807
 a:U64 s.Anchor
 m:Us s.Marks
 ml:s.Marks.length≤1073741824
 c:Us s.Commits
 cl:s.Commits.length≤1073741824
 r:Us s.Rhos
 rl:s.Rhos.length≤1073741824
 de:U64 s.Deposit
 wi:U64 s.Withdraw
 f:U64 s.Fee
 ac:U64 s.Account
 b:U64 s.Bind
structure PQ (x:TSpent):Prop where
 n:NR (noteOf x)
 k:U64 x.Key
 nu: -9223372036854775808≤x.Number∧x.Number≤9223372036854775807
 po: -9223372036854775808≤x.Position∧x.Position≤9223372036854775807
 pa:Us x.Path
 pl:x.Path.length≤9223372036854775807
structure WQ (w:TWitness):Prop where
 i:∀x∈w.Ins,PQ x
 il:w.Ins.length≤9223372036854775807
 o:∀x∈w.Outs,NR x
 ol:w.Outs.length≤9223372036854775807
 s:U64 w.Secret
structure SQ (s:TStatement):Prop where
 d: -9223372036854775808≤s.Depth∧s.Depth≤9223372036854775807
 a:U64 s.Anchor
 m:Us s.Marks
 c:Us s.Commits
 r:Us s.Rhos
 de:U64 s.Deposit
 wi:U64 s.Withdraw
 f:U64 s.Fee
 ac:U64 s.Account
 b:U64 s.Bind
def smallW (s:TStatement) (w:TWitness):Bool:=decide (s.Marks.length≤8)&&decide (s.Commits.length≤8)&&decide (s.Rhos.length≤8)&&decide (w.Ins.length≤8)&&decide (w.Outs.length≤8)&&w.Ins.all (fun x=>decide (x.Path.length≤20))
theorem kxh {s:TStatement} {w:TWitness}:smallW s w=true↔s.Marks.length≤8∧s.Commits.length≤8∧s.Rhos.length≤8∧w.Ins.length≤8∧w.Outs.length≤8∧∀x∈w.Ins,x.Path.length≤20:=by
 unfold smallW
 simp only[Bool.and_eq_true,decide_eq_true_eq,List.all_eq_true,and_assoc]
theorem WQ.wr {s:TStatement} {w:TWitness} (h:WQ w) (hs:smallW s w=true):WR w:=by
 obtain⟨_,_,_,h4,h5,h6⟩:=kxh.1 hs
 exact⟨fun x hx=>by have:=h.i x hx;have:=h6 x hx;exact⟨(h.i x hx).n,(h.i x hx).k,(h.i x hx).nu,(h.i x hx).po,(h.i x hx).pa,by omega⟩,by omega,h.o,by omega,h.s⟩
theorem k1qu {s:TStatement} {w:TWitness}:relV s w=true↔(1≤s.Depth∧s.Depth≤12∧allB [s.Anchor,s.Account,s.Bind,w.Secret]=true∧s.Deposit≤4294967295∧s.Withdraw≤4294967295∧s.Fee≤4294967295∧allB s.Marks=true∧allB s.Commits=true∧allB s.Rhos=true∧w.Ins.length=s.Marks.length∧w.Ins.length≤4∧w.Outs.length=s.Commits.length∧w.Outs.length=s.Rhos.length∧w.Outs.length≤4∧w.Ins.all (inV s.Depth)=true∧w.Outs.all noteV=true):=by
 unfold relV
 simp only[Bool.and_eq_true,decide_eq_true_eq,and_assoc]
theorem k1mv {f:Ask} {s:TStatement} {w:TWitness}:checkS f s w=0↔relV s w=true∧insE f s.Anchor w.Ins s.Marks=0∧outsB f w.Outs s.Commits s.Rhos=true∧(0<s.Deposit→s.Account=acctS w.Secret)∧
  (inS w.Ins+s.Deposit)%18446744073709551616=((outS w.Outs+s.Withdraw)%18446744073709551616+s.Fee)%18446744073709551616:=by
 unfold checkS
 constructor
 ·intro h
  split at h
  ·simp at h
  ·rename_i h1
   split at h
   ·rename_i h2;exact(h2 h).elim
   ·rename_i h2
    split at h
    ·simp at h
    ·rename_i h3
     split at h
     ·simp at h
     ·rename_i h4
      split at h
      ·simp at h
      ·rename_i h5
       exact⟨by simpa using h1,by simpa using h2,by simpa using h3,fun h=>by
        by_cases ha:s.Account=acctS w.Secret
        ·exact ha
        ·exact(h4 ⟨h,ha⟩).elim,by simpa using h5⟩
 ·rintro⟨h1,h2,h3,h4,h5⟩
  rw[if_neg (by simp[h1]),if_neg (by simp[h2]),if_neg (by simp[h3]),if_neg (fun h=>h.2 (h4 h.1)),if_neg (fun h=>h h5)]
theorem pkR_u {l:Int} {a:List Int}:pkR l a=none∨∃n,pkR l a=some n∧U64 n:=by
 unfold pkR
 split
 ·exact .inr ⟨_,rfl,koa _ _⟩
 ·exact .inl rfl
theorem k1lh:OrOk [] [] []:=⟨rfl,fun v hv=>by cases hv⟩
theorem pk_nil:pk false [] [] []=pkR:=by funext l a;exact pk_real _ _ _
def exS (fee:Int):TStatement:=⟨1,0,[],[hashS 2 [5,1,2,3]],[2],7,0,fee,hashS 7 [9],0⟩
def exW:TWitness:=⟨[],[⟨5,1,2,3⟩],9⟩
theorem exS_sr (fee:Int) (h:U64 fee):SR (exS fee):=
  ⟨(by decide: -9223372036854775808≤(1:Int)∧(1:Int)≤9223372036854775807),(by decide:U64 0),(by decide:Us []),(by decide:([]:List Int).length≤1073741824),
   fun x hx=>by rw[show x=_ from List.mem_singleton.1 hx];exact koa _ _,by simp[exS],(by decide:Us [2]),(by decide:([2]:List Int).length≤1073741824),(by decide:U64 7),(by decide:U64 0),h,koa _ _,(by decide:U64 0)⟩
theorem exW_wr:WR exW:=⟨by intro x hx;(cases hx),by decide,by intro x hx;rw[show x=_ from List.mem_singleton.1 hx];exact⟨by decide,by decide,by decide,by decide⟩,by decide,by decide⟩
theorem k187 (fee:Int) (h:fee≤4294967295):relV (exS fee) exW=true:=by
 refine k1qu.2 ⟨(by decide:1≤(1:Int)),(by decide:(1:Int)≤12),kya.2 ?_,(by decide:(7:Int)≤4294967295),(by decide:(0:Int)≤4294967295),h,(by decide:allB []=true),kya.2 ?_,(by decide:allB [2]=true),by simp[exS,exW],(by decide:exW.Ins.length≤4),by simp[exS,exW],by simp[exS,exW],(by decide:exW.Outs.length≤4),by simp[exW],(by decide:exW.Outs.all noteV=true)⟩
 ·intro x hx
  simp only[exS,exW,List.mem_cons,List.not_mem_nil,or_false]at hx
  rcases hx with rfl|rfl|rfl|rfl
  ·decide
  ·exact k1ir _ _
  ·decide
  ·decide
 ·intro x hx
  rw[show x=_ from List.mem_singleton.1 hx]
  exact k1ir _ _
theorem exS_ok:checkS pkR (exS 2) exW=0:=by
 refine k1mv.2 ⟨k187 2 (by decide),rfl,?_,fun _=>rfl,by decide⟩
 have e:commP pkR ⟨5,1,2,3⟩=some (hashS 2 [5,1,2,3]):=rfl
 show(outB pkR ⟨5,1,2,3⟩ (hashS 2 [5,1,2,3]) 2&&true)=true
 unfold outB
 rw[e]
 simp
theorem exS_not:checkS pkR (exS 1) exW=13:=by
 unfold checkS
 have e:commP pkR ⟨5,1,2,3⟩=some (hashS 2 [5,1,2,3]):=rfl
 have eo:outsB pkR exW.Outs (exS 1).Commits (exS 1).Rhos=true:=by
  show(outB pkR ⟨5,1,2,3⟩ (hashS 2 [5,1,2,3]) 2&&true)=true
  unfold outB
  rw[e]
  simp
 rw[if_neg (by rw[k187 1 (by decide)];simp),if_neg (by show¬((0:Int)≠0);simp),if_neg (by rw[eo];simp),if_neg (fun h=>h.2 rfl),if_pos (by decide)]
structure Pz {α:Type} (enc:α→List Int) (G:α→Prop) (r:List Int) (f:Bool) (v:α) (r' :List Int) (f' :Bool):Prop where
 snd:f' =false→f=false∧r=enc v++r'∧G v
 cpl:∀v0 s,f=false→r=enc v0++s→G v0→f' =false∧v=v0∧r' =s
theorem Pz.two {α β:Type} {e1:α→List Int} {G1:α→Prop} {e2:β→List Int} {G2:β→Prop} {r r1 r2:List Int} {f f1 f2:Bool} {a:α} {b:β}
  (h1:Pz e1 G1 r f a r1 f1) (h2:Pz e2 G2 r1 f1 b r2 f2):Pz (fun p:α×β=>e1 p.1++e2 p.2) (fun p=>G1 p.1∧G2 p.2) r f (a,b) r2 f2 where
 snd h:=by
  obtain⟨x1,x2,x3⟩:=h2.snd h
  obtain⟨y1,y2,y3⟩:=h1.snd x1
  exact⟨y1,by rw[y2,x2,List.append_assoc],y3,x3⟩
 cpl v0 s hf hr hG:=by
  rw[List.append_assoc]at hr
  obtain⟨y1,y2,y3⟩:=h1.cpl v0.1 _ hf hr hG.1
  obtain⟨x1,x2,x3⟩:=h2.cpl v0.2 _ y1 y3 hG.2
  exact⟨x1,by rw[y2,x2],x3⟩
theorem Pz.to {α β:Type} {e1:α→List Int} {G1:α→Prop} {e2:β→List Int} {G2:β→Prop} {r r1:List Int} {f f1:Bool} {a:α}
  (h1:Pz e1 G1 r f a r1 f1) (φ:α→β) (ψ:β→α) (he:∀x,G1 x→e2 (φ x)=e1 x∧G2 (φ x)) (hi:∀y,G2 y→φ (ψ y)=y∧e1 (ψ y)=e2 y∧G1 (ψ y)):Pz e2 G2 r f (φ a) r1 f1 where
 snd h:=by
  obtain⟨x1,x2,x3⟩:=h1.snd h
  exact⟨x1,by rw[x2,(he a x3).1],(he a x3).2⟩
 cpl v0 s hf hr hG:=by
  obtain⟨i1,i2,i3⟩:=hi v0 hG
  obtain⟨y1,y2,y3⟩:=h1.cpl (ψ v0) s hf (by rw[i2];exact hr) i3
  exact⟨y1,by rw[y2,i1],y3⟩
def Gl {α:Type} (G:α→Prop) (n:Nat) (l:List α):Prop:=l.length=n∧∀x∈l,G x
theorem Pz.nil {α:Type} {e:α→List Int} {G:α→Prop} {r:List Int} {f:Bool}:Pz (fun l:List α=>l.flatMap e) (Gl G 0) r f [] r f where
 snd h:=⟨h,rfl,rfl,by intro x hx;cases hx⟩
 cpl v0 s hf hr hG:=by
  have:v0=[]:=List.length_eq_zero_iff.1 hG.1
  subst this
  exact⟨hf,rfl,hr⟩
theorem Pz.snoc {α:Type} {e:α→List Int} {G:α→Prop} {r r1 r2:List Int} {f f1 f2:Bool} {l:List α} {x:α} {n:Nat}
  (h1:Pz (fun l:List α=>l.flatMap e) (Gl G n) r f l r1 f1) (h2:Pz e G r1 f1 x r2 f2):Pz (fun l:List α=>l.flatMap e) (Gl G (n+1)) r f (l++[x]) r2 f2 where
 snd h:=by
  obtain⟨x1,x2,x3⟩:=h2.snd h
  obtain⟨y1,y2,y3⟩:=h1.snd x1
  refine⟨y1,by rw[y2,x2];simp,by simp[y3.1],?_⟩
  intro y hy
  rcases List.mem_append.1 hy with hy|hy
  ·exact y3.2 y hy
  ·rw[List.mem_singleton.1 hy];exact x3
 cpl v0 s hf hr hG:=by
  have hne:v0≠[]:=by intro h;have:=hG.1;rw[h]at this;simp at this
  have hd:=List.dropLast_concat_getLast hne
  generalize v0.dropLast=i at *
  generalize v0.getLast hne=z at *
  subst hd
  obtain⟨g1,g2⟩:=hG
  have hr:r=i.flatMap e++(e z++s):=by rw[hr];simp
  obtain⟨y1,y2,y3⟩:=h1.cpl i _ hf hr ⟨by simpa using g1,fun y hy=>g2 y (by simp[hy])⟩
  obtain⟨x1,x2,x3⟩:=h2.cpl z _ y1 y3 (g2 z (by simp))
  exact⟨x1,by rw[y2,x2],x3⟩
def encC {α:Type} (e:α→List Int) (l:List α):List Int:=dig 4 (l.length:Int)++l.flatMap e
def Gn (m n:Int):Prop:=0≤n∧n<4294967296∧n≤m
def Gc {α:Type} (G:α→Prop) (m:Int) (l:List α):Prop:=Gn m (l.length:Int)∧∀x∈l,G x
theorem Pz.list {α:Type} {e:α→List Int} {G:α→Prop} {r r1 r2:List Int} {f f1 f2:Bool} {l:List α} {n m:Int}
  (h1:Pz (dig 4) (Gn m) r f n r1 f1) (h2:Pz (fun l:List α=>l.flatMap e) (Gl G n.toNat) r1 f1 l r2 f2):Pz (encC e) (Gc G m) r f l r2 f2 where
 snd h:=by
  obtain⟨x1,x2,x3⟩:=h2.snd h
  obtain⟨y1,y2,y3⟩:=h1.snd x1
  have hn:(l.length:Int)=n:=by rw[x3.1];have:=y3.1;omega
  exact⟨y1,by unfold encC;rw[hn,y2,x2,List.append_assoc],by unfold Gc;rw[hn];exact⟨y3,x3.2⟩⟩
 cpl v0 s hf hr hG:=by
  unfold encC at hr
  rw[List.append_assoc]at hr
  obtain⟨y1,y2,y3⟩:=h1.cpl _ _ hf hr hG.1
  obtain⟨x1,x2,x3⟩:=h2.cpl v0 s y1 y3 ⟨by rw[y2];simp,hG.2⟩
  exact⟨x1,x2,x3⟩
def Gu (m n:Int):Prop:=U64 n∧n≤m
def Gp (m p:Int) (l:List Int):Prop:=(l.length:Int)≤m∧(∀x∈l,x<p)∧Us l
section
variable {b:List Int} {pos m p:Int} {f:Bool}
theorem rdU_pz (h:RdOk b pos):Pz (dig 8) (Gu m) (b.drop pos.toNat) f (rdU b pos f m).n (b.drop (rdU b pos f m).pos.toNat) (rdU b pos f m).fail where
 snd hf:=by
  obtain⟨h1,h2,h3⟩:=rdU_snd h hf
  exact⟨h1,h2,rdU_n h,h3⟩
 cpl v0 s hf hr hG:=rdU_cpl h hf hr hG.1 hG.2
theorem rdI_pz (h:RdOk b pos) (hm:0≤m∧m<4294967296):Pz (dig 4) (Gn m) (b.drop pos.toNat) f (rdI b pos f m).n (b.drop (rdI b pos f m).pos.toNat) (rdI b pos f m).fail where
 snd hf:=by
  obtain⟨h1,h2,h3⟩:=rdI_snd h hf
  have:=rdI_n (f:=f) h hm.1
  exact⟨h1,h2,this.1,by omega,h3⟩
 cpl v0 s hf hr hG:=rdI_cpl h hf hr hG.1 hG.2.1 hG.2.2
theorem rdL_pz (h:RdOk b pos) (hm:0≤m∧m≤4294967295):Pz encL (Gp m p) (b.drop pos.toNat) f (rdL b pos f m p).l (b.drop (rdL b pos f m p).pos.toNat) (rdL b pos f m p).fail where
 snd hf:=by
  obtain⟨h1,h2,h3,h4,h5⟩:=rdL_snd h hm hf
  exact⟨h1,h2,h3,h4,h5⟩
 cpl v0 s hf hr hG:=rdL_cpl h hm hf hr hG.1 hG.2.1 hG.2.2
end
section
variable {b:List Int} {f:Bool} {m p:Int}
theorem nB8_pz (h:By b) (hm:m≤18446744073709551615):Pz (dig 8) (Gu m) b f (nB 8 b f m).n (nB 8 b f m).b (nB 8 b f m).f where
 snd hf:=by
  obtain⟨h1,h2,h3⟩:=nB_snd h (by omega) hf
  have:=nB_n (f:=f) (m:=m) h (k:=8) (by omega)
  exact⟨h1,h2,⟨this.1,by omega⟩,h3⟩
 cpl v0 s hf hr hG:=by
  have p8:(256:Int)^(8:Int).toNat=18446744073709551616:=by decide
  have hu:=hG.1
  rw[nB_cpl (k:=8) (by omega) hf hr hu.1 (by rw[p8];exact hu.2) hG.2]
  exact⟨rfl,rfl,rfl⟩
theorem nB4_pz (h:By b):Pz (dig 4) (Gn m) b f (nB 4 b f m).n (nB 4 b f m).b (nB 4 b f m).f where
 snd hf:=by
  have p4:(256:Int)^(4:Int).toNat=4294967296:=by decide
  obtain⟨h1,h2,h3⟩:=nB_snd h (by omega) hf
  have:=nB_n (f:=f) (m:=m) h (k:=4) (by omega)
  rw[p4]at this
  exact⟨h1,h2,this.1,this.2,h3⟩
 cpl v0 s hf hr hG:=by
  have p4:(256:Int)^(4:Int).toNat=4294967296:=by decide
  rw[nB_cpl (k:=4) (by omega) hf hr hG.1 (by rw[p4];exact hG.2.1) hG.2.2]
  exact⟨rfl,rfl,rfl⟩
def lBs (p:Int):Nat→List Int→List Int→RB
 |0,b,acc=>⟨acc,b,false⟩
 |k+1,b,acc=>if p≤val (b.take 8)then⟨[],b.drop 8,true⟩else lBs p k (b.drop 8) (acc++[val (b.take 8)])
def lB (b:List Int) (f:Bool) (m p:Int):RB:=if(nB 4 b f m).f=true∨((nB 4 b f m).b.length:Int)/8<(nB 4 b f m).n then⟨[],(nB 4 b f m).b,true⟩else lBs p (nB 4 b f m).n.toNat (nB 4 b f m).b []
theorem lBs_b:∀(k:Nat) {b acc:List Int},By b→By (lBs p k b acc).b∧(lBs p k b acc).b.length≤b.length
 |0,_,_,h=>⟨h,Nat.le_refl _⟩
 |k+1,b,acc,h=>by
  unfold lBs
  split
  ·exact⟨h.drop _,by show(b.drop 8).length≤_;rw[List.length_drop];omega⟩
  ·have:=lBs_b k (acc:=acc++[val (b.take 8)]) (h.drop 8)
   rw[List.length_drop]at this
   exact⟨this.1,by omega⟩
theorem lBs_snd:∀(k:Nat) {b acc:List Int},8*k≤b.length→(lBs p k b acc).f=false→
  (lBs p k b acc).l=acc++nums k b∧(∀x∈nums k b,x<p)∧(lBs p k b acc).b=b.drop (8*k)
 |0,b,acc,_,_=>⟨by simp[lBs,nums],by simp[nums],by simp[lBs]⟩
 |k+1,b,acc,hk,hf=>by
  unfold lBs at *
  split at hf
  ·cases hf
  ·rename_i hn
   rw[if_neg hn]
   obtain⟨g1,g2,g3⟩:=lBs_snd k (by rw[List.length_drop];omega) hf
   refine⟨?_,?_,?_⟩
   ·rw[g1,List.append_assoc];rfl
   ·intro x hx
    rcases List.mem_cons.1 hx with rfl|hx
    ·omega
    ·exact g2 x hx
   ·rw[g3,List.drop_drop];congr 1;omega
theorem lBs_cpl:∀(k:Nat) {b acc:List Int},(∀x∈nums k b,x<p)→(lBs p k b acc).f=false
 |0,_,_,_=>rfl
 |k+1,b,acc,hf=>by
  unfold lBs
  have h3:=hf (val (b.take 8)) (by simp[nums])
  rw[if_neg (by omega)]
  exact lBs_cpl k (fun x hx=>hf x (List.mem_cons_of_mem _ hx))
theorem lB_b (h:By b):By (lB b f m p).b∧(lB b f m p).b.length≤b.length:=by
 unfold lB
 have h1:=nB_b (k:=4) (f:=f) (m:=m) h
 split
 ·exact h1
 ·have:=lBs_b (p:=p) (nB 4 b f m).n.toNat (acc:=[]) h1.1
  exact⟨this.1,by omega⟩
theorem lB_pz (h:By b) (hm:m≤4294967295):Pz encL (Gp m p) b f (lB b f m p).l (lB b f m p).b (lB b f m p).f where
 snd hf:=by
  unfold lB at *
  split at hf
  ·cases hf
  ·rename_i hn
   rw[if_neg hn]
   have hN:(nB 4 b f m).f=false:=by
    cases hc:(nB 4 b f m).f
    ·rfl
    ·exact absurd (.inl hc) hn
   obtain⟨y1,y2,y3⟩:=(nB4_pz (f:=f) (m:=m) h).snd hN
   have hb:=(nB_b (k:=4) (f:=f) (m:=m) h).1
   have hle:¬((nB 4 b f m).b.length:Int)/8<(nB 4 b f m).n:=fun h=>hn (.inr h)
   obtain⟨z1,z2,z3⟩:=y3
   generalize nB 4 b f m=N at *
   obtain⟨k1,k2,k3⟩:=lBs_snd N.n.toNat (by omega) hf
   rw[List.nil_append]at k1
   rw[k1,k3]
   refine⟨y1,?_,by rw[khn];omega,k2,nums_us _ hb⟩
   rw[y2]
   unfold encL
   rw[khn,show((N.n.toNat:Nat):Int)=N.n by omega,len4_in (by omega),List.append_assoc]
   congr 1
   exact k19f N.n.toNat hb (by omega)
 cpl v0 s hf hr hG:=by
  obtain⟨hl,hp,hu⟩:=hG
  unfold encL at hr
  rw[len4_in (by omega),List.append_assoc]at hr
  obtain⟨y1,y2,y3⟩:=(nB4_pz (f:=f) (m:=m) h).cpl _ _ hf hr ⟨by omega,by omega,hl⟩
  obtain⟨k1,k2,k3⟩:=k182 v0 y3 hu
  have hn:¬((nB 4 b f m).f=true∨((nB 4 b f m).b.length:Int)/8<(nB 4 b f m).n):=by
   rw[y1,y2]
   simp only[Bool.false_eq_true,false_or]
   omega
  unfold lB
  rw[if_neg hn,y2,Int.toNat_natCast]
  have hc:=lBs_cpl (p:=p) (acc:=[]) v0.length (b:=(nB 4 b f m).b) (by rw[k1];exact hp)
  obtain⟨q1,q2,q3⟩:=lBs_snd _ k3 hc
  exact⟨hc,by rw[q1,k1];rfl,by rw[q3];exact k2⟩
end
def encN (n:TNote):List Int:=dig 8 n.Value++(dig 8 n.Owner++(dig 8 n.Rho++dig 8 n.Blind))
def encSp (x:TSpent):List Int:=encN (noteOf x)++(dig 8 x.Key++(dig 4 (len4 x.Number)++(dig 4 (len4 x.Position)++(encL x.Path++dig 4 (len4 (if x.Dummy=true then 1 else 0))))))
def encW (w:TWitness):List Int:=dig 4 (len4 (w.Ins.length:Int))++(w.Ins.flatMap encSp++(dig 4 (len4 (w.Outs.length:Int))++(w.Outs.flatMap encN++dig 8 w.Secret)))
def rightV (w:TWitness):Bool:=decide (w.Ins.length≤4)&&decide (w.Outs.length≤4)&&decide (w.Secret<18446744069414584321)&&w.Ins.all spendV&&w.Outs.all noteV
structure Lim where
 m:Int
 p:Int
 n:Int
 q:Int
 hm:m≤18446744073709551615
 hp:p≤18446744073709551615
 hn:3≤n
 hq:4095≤q
 hm' :4294967295≤m
 hp' :18446744069414584320≤p
def limW:Lim:=⟨4294967295,18446744069414584320,3,4095,by omega,by omega,by omega,by omega,by omega,by omega⟩
def limR:Lim:=⟨18446744073709551615,18446744073709551615,4294967296,4294967296,by omega,by omega,by omega,by omega,by omega,by omega⟩
def GN (L:Lim) (n:TNote):Prop:=Gu L.m n.Value∧Gu L.p n.Owner∧Gu L.p n.Rho∧Gu L.p n.Blind
def GS (L:Lim) (x:TSpent):Prop:=GN L (noteOf x)∧Gu L.p x.Key∧Gn L.n x.Number∧Gn L.q x.Position∧Gp 12 18446744069414584321 x.Path
theorem GN.nr {L:Lim} {n:TNote} (h:GN L n):NR n:=⟨h.1.1,h.2.1.1,h.2.2.1.1,h.2.2.2.1⟩
theorem GS.pq {L:Lim} {x:TSpent} (h:GS L x):PQ x:=by
 obtain⟨h1,h2,h3,h4,h5⟩:=h
 obtain⟨a1,a2,a3⟩:=h3
 obtain⟨b1,b2,b3⟩:=h4
 obtain⟨c1,c2,c3⟩:=h5
 exact⟨h1.nr,h2.1,by omega,by omega,c3,by omega⟩
theorem k1fw {n:TNote}:noteV n=true↔n.Value≤4294967295∧n.Owner<18446744069414584321∧n.Rho<18446744069414584321∧n.Blind<18446744069414584321:=by
 unfold noteV
 simp only[Bool.and_eq_true,decide_eq_true_eq,and_assoc]
theorem k7i {x:TSpent}:spendV x=true↔noteV (noteOf x)=true∧x.Key<18446744069414584321∧0≤x.Number∧x.Number<4∧0≤x.Position∧x.Position≤4095∧x.Path.length≤12∧allB x.Path=true:=by
 unfold spendV
 simp only[Bool.and_eq_true,decide_eq_true_eq,and_assoc]
theorem k96 {w:TWitness}:rightV w=true↔w.Ins.length≤4∧w.Outs.length≤4∧w.Secret<18446744069414584321∧(∀x∈w.Ins,spendV x=true)∧∀x∈w.Outs,noteV x=true:=by
 unfold rightV
 simp only[Bool.and_eq_true,decide_eq_true_eq,and_assoc,List.all_eq_true]
theorem NR.gn {n:TNote} (h:NR n) (hv:noteV n=true) (L:Lim):GN L n:=by
 obtain⟨h1,h2,h3,h4⟩:=k1fw.1 hv
 have:=L.hm'
 have:=L.hp'
 exact⟨⟨h.v,by omega⟩,⟨h.o,by omega⟩,⟨h.r,by omega⟩,⟨h.b,by omega⟩⟩
theorem PQ.gs {x:TSpent} (h:PQ x) (hv:spendV x=true) (L:Lim):GS L x:=by
 obtain⟨h1,h2,h3,h4,h5,h6,h7,h8⟩:=k7i.1 hv
 have:=L.hp'
 have:=L.hn
 have:=L.hq
 exact⟨h.n.gn h1 L,⟨h.k,by omega⟩,⟨h3,by omega,by omega⟩,⟨h5,by omega,by omega⟩,by omega,kya.1 h8,h.pa⟩
theorem GN.noteV {n:TNote} (h:GN limW n):noteV n=true:=by
 obtain⟨h1,h2,h3,h4⟩:=h
 have e1:n.Value≤4294967295:=h1.2
 have e2:n.Owner≤18446744069414584320:=h2.2
 have e3:n.Rho≤18446744069414584320:=h3.2
 have e4:n.Blind≤18446744069414584320:=h4.2
 exact k1fw.2 ⟨e1,by omega,by omega,by omega⟩
theorem GS.spendV {x:TSpent} (h:GS limW x):spendV x=true:=by
 obtain⟨h1,h2,h3,h4,h5⟩:=h
 have e1:x.Key≤18446744069414584320:=h2.2
 have e2:x.Number≤3:=h3.2.2
 have e3:x.Position≤4095:=h4.2.2
 have e4:=h5.1
 exact k7i.2 ⟨h1.noteV,by omega,h3.1,by omega,h4.1,e3,by omega,kya.2 h5.2.1⟩
theorem pz_note {L:Lim} {r r1 r2 r3 r4:List Int} {f f1 f2 f3 f4:Bool} {a b c d:Int} (h1:Pz (dig 8) (Gu L.m) r f a r1 f1) (h2:Pz (dig 8) (Gu L.p) r1 f1 b r2 f2) (h3:Pz (dig 8) (Gu L.p) r2 f2 c r3 f3) (h4:Pz (dig 8) (Gu L.p) r3 f3 d r4 f4):Pz encN (GN L) r f ⟨a,b,c,d⟩ r4 f4:=
 (((h3.two h4)|>h2.two)|>h1.two).to (fun p:Int×Int×Int×Int=>TNote.mk p.1 p.2.1 p.2.2.1 p.2.2.2) (fun n=>(n.Value,n.Owner,n.Rho,n.Blind)) (fun _ h=>⟨rfl,h⟩) (fun _ h=>⟨rfl,rfl,h⟩)
theorem k1is {L:Lim} {r r1 r2 r3 r4 r5 r6:List Int} {f f1 f2 f3 f4 f5 f6:Bool} {a:TNote} {k n q:Int} {p:List Int} {d:Int} (h1:Pz encN (GN L) r f a r1 f1) (h2:Pz (dig 8) (Gu L.p) r1 f1 k r2 f2) (h3:Pz (dig 4) (Gn L.n) r2 f2 n r3 f3) (h4:Pz (dig 4) (Gn L.q) r3 f3 q r4 f4)
  (h5:Pz encL (Gp 12 18446744069414584321) r4 f4 p r5 f5) (h6:Pz (dig 4) (Gn 1) r5 f5 d r6 f6):Pz encSp (GS L) r f ⟨a.Value,a.Owner,a.Rho,a.Blind,k,n,q,p,d==1⟩ r6 f6:=by
 refine(((((h5.two h6)|>h4.two)|>h3.two)|>h2.two)|>h1.two).to (fun x:TNote×Int×Int×Int×List Int×Int=>TSpent.mk x.1.Value x.1.Owner x.1.Rho x.1.Blind x.2.1 x.2.2.1 x.2.2.2.1 x.2.2.2.2.1 (x.2.2.2.2.2==1)) (fun x=>(noteOf x,x.Key,x.Number,x.Position,x.Path,if x.Dummy=true then 1 else 0)) ?_ ?_
 ·rintro⟨a,k,n,q,p,d⟩ ⟨g1,g2,g3,g4,g5,g6⟩
  refine⟨?_,g1,g2,g3,g4,g5⟩
  obtain⟨d0,d1,d2⟩:=g6
  obtain⟨n0,n1,n2⟩:=g3
  obtain⟨q0,q1,q2⟩:=g4
  have e:(if(d==1)=true then(1:Int)else 0)=d:=by
   have d2:d≤1:=d2
   have d0:0≤d:=d0
   rcases(by omega:d=0∨d=1)with rfl|rfl<;>rfl
  show encN a++(dig 8 k++(dig 4 (len4 n)++(dig 4 (len4 q)++(encL p++dig 4 (len4 (if(d==1)=true then 1 else 0))))))=encN a++(dig 8 k++(dig 4 n++(dig 4 q++(encL p++dig 4 d))))
  rw[e,len4_in (n:=n) ⟨n0,by have:n<4294967296:=n1;omega⟩,len4_in (n:=q) ⟨q0,by have:q<4294967296:=q1;omega⟩,len4_in (n:=d) ⟨d0,by have:d<4294967296:=d1;omega⟩]
 ·rintro⟨v,o,rh,bl,k,n,q,p,d⟩ ⟨g1,g2,g3,g4,g5⟩
  obtain⟨n0,n1,n2⟩:=g3
  obtain⟨q0,q1,q2⟩:=g4
  refine⟨?_,?_,g1,g2,⟨n0,n1,n2⟩,⟨q0,q1,q2⟩,g5,?_⟩
  ·cases d<;>rfl
  ·show encN ⟨v,o,rh,bl⟩++(dig 8 k++(dig 4 n++(dig 4 q++(encL p++dig 4 (if d=true then 1 else 0)))))=encN ⟨v,o,rh,bl⟩++(dig 8 k++(dig 4 (len4 n)++(dig 4 (len4 q)++(encL p++dig 4 (len4 (if d=true then 1 else 0))))))
   rw[len4_in (n:=n) (by exact⟨n0,by have:n<4294967296:=n1;omega⟩),len4_in (n:=q) (by exact⟨q0,by have:q<4294967296:=q1;omega⟩),len4_in (n:=if d=true then 1 else 0) (by split<;>omega)]
  ·cases d
   ·exact(⟨by decide,by decide,by decide⟩:Gn 1 0)
   ·exact(⟨by decide,by decide,by decide⟩:Gn 1 1)
structure EW (w:TWitness) (b:List Int):Prop where
 r:WQ w
 v:rightV w=true
 e:encW w=b
def zeroW:TWitness:=⟨[],[],0⟩
open Classical in
def decW (b:List Int):TWitness×Int:=if h:∃w,EW w b then(Classical.choose h,0)else(zeroW,2)
theorem k1k6 {b:List Int} {t:TWitness} (h:EW t b) (hu:∀u,EW u b→t=u):decW b=(t,0):=by
 unfold decW
 have hex:∃t,EW t b:=⟨t,h⟩
 rw[dif_pos hex,←hu _ (Classical.choose_spec hex)]
theorem decW_no {b:List Int} (h:∀u,¬EW u b):decW b=(zeroW,2):=by
 unfold decW
 rw[dif_neg fun⟨u,hu⟩=>h u hu]
def Gw (L:Lim) (w:TWitness):Prop:=Gc (GS L) 4 w.Ins∧Gc (GN L) 4 w.Outs∧Gu L.p w.Secret
theorem Gw.wq {L:Lim} {w:TWitness} (h:Gw L w):WQ w:=by
 obtain⟨⟨i,hi⟩,⟨o,ho⟩,s⟩:=h
 have:=i.2.2
 have:=o.2.2
 exact⟨fun x hx=>(hi x hx).pq,by omega,fun x hx=>(ho x hx).nr,by omega,s.1⟩
theorem encC_in {α:Type} (e:α→List Int) (l:List α) (h:l.length≤4):encC e l=dig 4 (len4 (l.length:Int))++l.flatMap e:=by
 unfold encC
 rw[len4_in (by omega)]
theorem pz_wit {L:Lim} {b r1 r2 r3:List Int} {f1 f2 f3:Bool} {is:List TSpent} {os:List TNote} {s:Int} (h1:Pz (encC encSp) (Gc (GS L) 4) b false is r1 f1) (h2:Pz (encC encN) (Gc (GN L) 4) r1 f1 os r2 f2) (h3:Pz (dig 8) (Gu L.p) r2 f2 s r3 f3):
  (f3=false→r3=[]→encW ⟨is,os,s⟩=b∧Gw L ⟨is,os,s⟩)∧∀w,EW w b→f3=false∧r3=[]∧(⟨is,os,s⟩:TWitness)=w:=by
 constructor
 ·rintro rfl rfl
  obtain⟨a1,a2,a3⟩:=h3.snd rfl
  obtain⟨b1,b2,b3⟩:=h2.snd a1
  obtain⟨c1,c2,c3⟩:=h1.snd b1
  refine⟨?_,c3,b3,a3⟩
  have l1:=c3.1.2.2
  have l2:=b3.1.2.2
  rw[c2,b2,a2,encC_in _ _ (by omega),encC_in _ _ (by omega)]
  simp[encW,List.append_assoc]
 ·rintro⟨is0,os0,s0⟩ ⟨hr,hv,he⟩
  obtain⟨v1,v2,v3,v4,v5⟩:=k96.1 hv
  have v1:is0.length≤4:=v1
  have v2:os0.length≤4:=v2
  have v3:s0<18446744069414584321:=v3
  have hp:=L.hp'
  have e:b=encC encSp is0++(encC encN os0++(dig 8 s0++[])):=by
   rw[←he,encC_in _ _ v1,encC_in _ _ v2]
   simp[encW,List.append_assoc]
  obtain⟨c1,c2,c3⟩:=h1.cpl is0 _ rfl e ⟨⟨by omega,by omega,by omega⟩,fun x hx=>(hr.i x hx).gs (v4 x hx) L⟩
  obtain⟨b1,b2,b3⟩:=h2.cpl os0 _ c1 c3 ⟨⟨by omega,by omega,by omega⟩,fun x hx=>(hr.o x hx).gn (v5 x hx) L⟩
  obtain⟨a1,a2,a3⟩:=h3.cpl s0 _ b1 b3 ⟨hr.s,by omega⟩
  exact⟨a1,a3,by rw[c2,b2,a2]⟩
structure RNt where
 n:TNote
 pos:Int
 f:Bool
def rdNt (b:List Int) (pos:Int) (f:Bool):RNt:=
 let A:=rdU b pos f 4294967295
 let B:=rdU b A.pos A.fail 18446744069414584320
 let C:=rdU b B.pos B.fail 18446744069414584320
 let D:=rdU b C.pos C.fail 18446744069414584320
 ⟨⟨A.n,B.n,C.n,D.n⟩,D.pos,D.fail⟩
theorem rdNt_ok {b:List Int} {pos:Int} {f:Bool} (h:RdOk b pos):RdOk b (rdNt b pos f).pos:=rdU_ok (rdU_ok (rdU_ok (rdU_ok h)))
theorem rdNt_pz {b:List Int} {pos:Int} {f:Bool} (h:RdOk b pos):Pz encN (GN limW) (b.drop pos.toNat) f (rdNt b pos f).n (b.drop (rdNt b pos f).pos.toNat) (rdNt b pos f).f:=
 pz_note (L:=limW) (rdU_pz h) (rdU_pz (rdU_ok h)) (rdU_pz (rdU_ok (rdU_ok h))) (rdU_pz (rdU_ok (rdU_ok (rdU_ok h))))
structure RNb where
 n:TNote
 b:List Int
 f:Bool
def nNt (b:List Int) (f:Bool):RNb:=
 let A:=nB 8 b f 18446744073709551615
 let B:=nB 8 A.b A.f 18446744073709551615
 let C:=nB 8 B.b B.f 18446744073709551615
 let D:=nB 8 C.b C.f 18446744073709551615
 ⟨⟨A.n,B.n,C.n,D.n⟩,D.b,D.f⟩
theorem nNt_b {b:List Int} {f:Bool} (h:By b):By (nNt b f).b∧(nNt b f).b.length≤b.length:=
 have h1:=nB_b (k:=8) (f:=f) (m:=18446744073709551615) h
 have h2:=nB_b (k:=8) (f:=(nB 8 b f 18446744073709551615).f) (m:=18446744073709551615) h1.1
 have h3:=nB_b (k:=8) (f:=(nB 8 (nB 8 b f 18446744073709551615).b (nB 8 b f 18446744073709551615).f 18446744073709551615).f) (m:=18446744073709551615) h2.1
 have h4:=nB_b (k:=8) (f:=(nB 8 (nB 8 (nB 8 b f 18446744073709551615).b (nB 8 b f 18446744073709551615).f 18446744073709551615).b (nB 8 (nB 8 b f 18446744073709551615).b (nB 8 b f 18446744073709551615).f 18446744073709551615).f 18446744073709551615).f) (m:=18446744073709551615) h3.1
 ⟨h4.1,Nat.le_trans h4.2 (Nat.le_trans h3.2 (Nat.le_trans h2.2 h1.2))⟩
theorem nNt_pz {b:List Int} {f:Bool} (h:By b):Pz encN (GN limR) b f (nNt b f).n (nNt b f).b (nNt b f).f:=
 have h1:=(nB_b (k:=8) (f:=f) (m:=18446744073709551615) h).1
 have h2:=(nB_b (k:=8) (f:=(nB 8 b f 18446744073709551615).f) (m:=18446744073709551615) h1).1
 have h3:=(nB_b (k:=8) (f:=(nB 8 (nB 8 b f 18446744073709551615).b (nB 8 b f 18446744073709551615).f 18446744073709551615).f) (m:=18446744073709551615) h2).1
 pz_note (L:=limR) (nB8_pz h (by decide)) (nB8_pz h1 (by decide)) (nB8_pz h2 (by decide)) (nB8_pz h3 (by decide))
def sameW (a b:TWitness):Bool:=decide (a.Ins.length=b.Ins.length∧a.Outs.length=b.Outs.length∧a.Secret=b.Secret∧a.Ins=b.Ins∧a.Outs=b.Outs)
theorem k6e {α:Type} (e:α→List Int) (k:Nat):∀(l:List α),(∀x∈l,(e x).length≤k)→(l.flatMap e).length≤k*l.length
 |[],_=>by simp
 |x::r,h=>by
  have h1:=k6e e k r fun y hy=>h y (List.mem_cons_of_mem _ hy)
  have h2:=h x (by simp)
  rw[List.flatMap_cons,List.length_append,List.length_cons,Nat.mul_add]
  omega
theorem kf7:∀(l:List Int),(l.flatMap (dig 8)).length=8*l.length
 |[]=>rfl
 |x::r=>by rw[List.flatMap_cons,List.length_append,kh,kf7 r,List.length_cons];omega
theorem kx8 (l:List Int):(encL l).length=4+8*l.length:=by
 unfold encL
 rw[List.length_append,kh,kf7]
theorem k9k (n:TNote):(encN n).length=32:=by simp[encN]
theorem k12s (x:TSpent):(encSp x).length=56+8*x.Path.length:=by
 simp[encSp,k9k,kx8]
 omega
def inpV (x:TSpent) (d:Int):Bool:=noteV (noteOf x)&&decide (x.Key<18446744069414584321)&&decide (0≤x.Number)&&decide (x.Number<4)&&decide ((x.Path.length:Int)=d)&&allB x.Path&&decide (0≤x.Position)&&decide (x.Position<ishl .i64 1 d)
theorem ishl1 {d:Int} (h0:0≤d) (h1:d≤12):ishl .i64 1 d=2^d.toNat:=by
 obtain⟨d,rfl⟩:=Int.eq_ofNat_of_zero_le h0
 have key:∀d:Nat,d≤12→ishl .i64 1 (d:Int)=2^d:=by decide +kernel
 exact key d (by omega)
theorem k1p5 {x:TSpent} (hp:x.Path.length≤12) (h0:0≤x.Position) (h1:x.Position<4096):inpV ⟨x.Note_Value,x.Note_Owner,x.Note_Rho,x.Note_Blind,x.Key,x.Number,0,x.Path,x.Dummy⟩ (x.Path.length:Int)=spendV x:=by
 unfold inpV spendV noteOf
 rw[ishl1 (by omega) (by omega)]
 have e:(0:Int)<2^(x.Path.length:Int).toNat:=Int.pow_pos (by decide)
 simp only[decide_eq_true e,decide_eq_true h0,decide_eq_true (show x.Position≤4095 by omega),decide_eq_true hp,Bool.and_true,decide_true,Int.le_refl]
theorem k1np (w:TWitness):sameW w w=true:=by simp[sameW]
theorem k1fv {a b:TWitness}:sameW a b=true↔a=b:=by
 unfold sameW
 rw[decide_eq_true_eq]
 obtain⟨a1,a2,a3⟩:=a
 obtain⟨b1,b2,b3⟩:=b
 simp
 constructor
 ·rintro⟨_,_,h3,h4,h5⟩;exact⟨h4,h5,h3⟩
 ·rintro⟨rfl,rfl,rfl⟩;simp
theorem pz_exL {α:Type} {e:α→List Int} {G:α→Prop} (hx:∀b f,By b→∃v b' f',Pz e G b f v b' f'∧By b'):∀(n:Nat) (b:List Int) (f:Bool),By b→∃l b' f',Pz (fun l:List α=>l.flatMap e) (Gl G n) b f l b' f'∧By b'
 |0,b,f,hb=>⟨[],b,f,Pz.nil,hb⟩
 |n+1,b,f,hb=>by
  obtain⟨l,b1,f1,h1,hb1⟩:=pz_exL hx n b f hb
  obtain⟨v,b2,f2,h2,hb2⟩:=hx b1 f1 hb1
  exact⟨l++[v],b2,f2,h1.snoc h2,hb2⟩
theorem pz_exC {α:Type} {e:α→List Int} {G:α→Prop} (hx:∀b f,By b→∃v b' f',Pz e G b f v b' f'∧By b') (m:Int) (b:List Int) (f:Bool) (hb:By b):∃l b' f',Pz (encC e) (Gc G m) b f l b' f'∧By b' :=by
 obtain⟨l,b2,f2,h2,hb2⟩:=pz_exL hx (nB 4 b f m).n.toNat _ (nB 4 b f m).f (nB_b (k:=4) (f:=f) (m:=m) hb).1
 exact⟨l,b2,f2,Pz.list (nB4_pz hb) h2,hb2⟩
theorem EW.inj {t u:TWitness} {b:List Int} (hb:By b) (h:EW t b) (h' :EW u b):t=u:=by
 obtain⟨is,b1,f1,z1,hb1⟩:=pz_exC (e:=encSp) (G:=GS limR) (fun b f hb=>by
  have o1:=nNt_b (f:=f) hb
  have o2:=nB_b (k:=8) (f:=(nNt b f).f) (m:=18446744073709551615) o1.1
  have o3:=nB_b (k:=4) (f:=(nB 8 (nNt b f).b (nNt b f).f 18446744073709551615).f) (m:=4294967296) o2.1
  have z1:=nNt_pz (f:=f) hb
  have z2:=nB8_pz (f:=(nNt b f).f) (m:=18446744073709551615) o1.1 (by omega)
  have z3:=nB4_pz (f:=(nB 8 (nNt b f).b (nNt b f).f 18446744073709551615).f) (m:=4294967296) o2.1
  generalize nB 8 (nNt b f).b (nNt b f).f 18446744073709551615=A2 at *
  generalize nB 4 A2.b A2.f 4294967296=A3 at *
  have o4:=nB_b (k:=4) (f:=A3.f) (m:=4294967296) o3.1
  have z4:=nB4_pz (f:=A3.f) (m:=4294967296) o3.1
  generalize nB 4 A3.b A3.f 4294967296=A4 at *
  have o5:=lB_b (m:=12) (p:=18446744069414584321) (f:=A4.f) o4.1
  have z5:=lB_pz (m:=12) (p:=18446744069414584321) (f:=A4.f) o4.1 (by omega)
  generalize lB A4.b A4.f 12 18446744069414584321=A5 at *
  exact⟨_,_,_,k1is (L:=limR) z1 z2 z3 z4 z5 (nB4_pz o5.1),(nB_b o5.1).1⟩) 4 b false hb
 obtain⟨os,b2,f2,z2,hb2⟩:=pz_exC (e:=encN) (G:=GN limR) (fun b f hb=>⟨_,_,_,nNt_pz hb,(nNt_b hb).1⟩) 4 b1 f1 hb1
 obtain⟨_,cpl⟩:=pz_wit (L:=limR) z1 z2 (nB8_pz (m:=18446744073709551615) hb2 (by omega))
 exact((cpl t h).2.2).symm.trans (cpl u h').2.2
theorem encN_by (n:TNote):By (encN n):=(dig_by _ _).append ((dig_by _ _).append ((dig_by _ _).append (dig_by _ _)))
theorem k1q8 (x:TSpent):By (encSp x):=(encN_by _).append ((dig_by _ _).append ((dig_by _ _).append ((dig_by _ _).append ((encL_by _).append (dig_by _ _)))))
theorem encW_by (w:TWitness):By (encW w):=by
 refine(dig_by _ _).append (By.append ?_ ((dig_by _ _).append (By.append ?_ (dig_by _ _))))
 ·intro x hx
  obtain⟨y,_,hy⟩:=List.mem_flatMap.1 hx
  exact k1q8 y x hy
 ·intro x hx
  obtain⟨y,_,hy⟩:=List.mem_flatMap.1 hx
  exact encN_by y x hy
theorem k1pv {w:TWitness} (h:rightV w=true):(encW w).length≤2000:=by
 obtain⟨v1,v2,v3,v4,v5⟩:=k96.1 h
 have h1:=k6e encSp 200 w.Ins fun x hx=>by
  have:=(k7i.1 (v4 x hx)).2.2.2.2.2.2.1
  rw[k12s];omega
 have h2:=k6e encN 32 w.Outs fun x hx=>by rw[k9k];omega
 unfold encW
 simp only[List.length_append,kh]
 omega
theorem k1pm {w:TWitness} (h:WQ w) (hv:rightV w=true):decW (encW w)=(w,0):=
 have hE:EW w (encW w):=⟨h,hv,rfl⟩
 k1k6 hE fun u hu=>hE.inj (encW_by w) hu
theorem k1a6 (n:TNote):(noteL n).flatMap (dig 8)=encN n:=by simp[noteL,encN]
theorem kqh.nr {x:TNote} (h:kqh x):NR x:=⟨h.Value,h.Owner,h.Rho,h.Blind⟩
theorem klu.pq {x:TSpent} (h:klu x):PQ x:=⟨⟨h.Note_Value,h.Note_Owner,h.Note_Rho,h.Note_Blind⟩,h.Key,by have:=h.Number;omega,by have:=h.Position;omega,h.Path.2,h.Path.1⟩
theorem kkz.wq {x:TWitness} (h:kkz x):WQ x:=⟨fun y hy=>(h.Ins.2 y hy).pq,h.Ins.1,fun y hy=>(h.Outs.2 y hy).nr,h.Outs.1,h.Secret⟩
theorem kuh {p0:TWitness} (h0:kkz p0):WQ p0:=h0.wq
def k6y:Con TB.den:=Con.mk0 113 [.one (.d (.int .u64))] [] (.one (.agg [.d (.int .u64),.d (.int .u64),.d (.int .u64)])) []
abbrev k1fk:=HL TB.den (hsT k6y.ins (hsOs k6y.pre))
abbrev kto:=HL TB.den (hsV k6y.res (hsOs k6y.post))
noncomputable def kkf:Cx TB:=⟨inf,[],[],4,[]⟩
noncomputable def kqx:Code:=Try.f113.body.getD .skip
noncomputable def kxw:List ResultVar:=Try.f113.results.toList
noncomputable def k1af (o:kto):An TB:= .no
def kqu (x:k1fk) (o:kto):Prop:=WPh TB kkf 26 0 kqx (k1af o) (k6y.st TB x) (retTQ TB kkf k6y kxw o)
theorem k1n8 (o:kto):OblH TB kkf 26 0 kqx (k1af o) (retTQ TB kkf k6y kxw o):=
 OblH.ofC (X:=True) (by kernel_rfl) trivial
theorem k1n3 {x:k1fk} {o:kto} (h:kqu x o):k6y.Snd Try.prog x o:=
 Con.soundH (c:=k6y) (C:=kkf) TBok ⟨inf_ok,all_nil,all_nil⟩ mix Try.func113 (show Try.f113.body=some kqx by kernel_rfl) (show Try.f113.ntmps=26 by kernel_rfl) (show Try.f113.results.toList=kxw by kernel_rfl) rfl h (k1n8 o)
theorem k1of {p0:Int} {r0:TA3} (h:
(((p0==17)=true→
 3=r0.a0∧4=r0.a1∧3=r0.a2)∧
((p0==17)=false→
((p0==97)=true→
 5=r0.a0∧5=r0.a1∧5=r0.a2)∧
((p0==97)=false→
((p0==193)=true→
 5=r0.a0∧6=r0.a1∧5=r0.a2)∧
((p0==193)=false→
((p0==257)=true→
 3=r0.a0∧8=r0.a1∧3=r0.a2)∧
((p0==257)=false→
((p0==12289)=true→
 11=r0.a0∧12=r0.a1∧5=r0.a2)∧
((p0==12289)=false→
((p0==65537)=true→
 3=r0.a0∧16=r0.a1∧3=r0.a2)∧
((p0==65537)=false→
((p0==18446744069414584321)=true→
 7=r0.a0∧32=r0.a1∧7=r0.a2)∧
((p0==18446744069414584321)=false→
 0=r0.a0∧0=r0.a1∧0=r0.a2))))))))):kqu (p0,()) (r0.a0,r0.a1,r0.a2,()):=WPh.of_eq (by kernel_rfl) h
theorem bd113:Callable Try.prog 113:=⟨by rw[Try.func113];kernel_rfl,by rw[Try.func113];show some _≠some _;decide⟩
theorem k1l8 (p0:Int) (h:p0=18446744069414584321):kqu (p0,()) ((7:Int),(32:Int),(7:Int),()):=by
 refine k1of (r0:=TA3.mk 7 32 7) ?_
 simp[h]
noncomputable def kuf:Con TB.den:=k6y.fnR (fun x=>(fun(p0:Int)=>p0=18446744069414584321) x.1) fun x=>((fun(p0:Int)=>(7:Int)) x.1,(fun(p0:Int)=>(32:Int)) x.1,(fun(p0:Int)=>(7:Int)) x.1,())
theorem k1b3:kuf.Ok Try.prog TB:=Con.ok_fn k6y bd113 fun x h=>k1n3 (k1l8 x.1 h)
def k51:Con TB.den:=Con.mk0 106 [.one (.d (.int .u64))] [] (.one (.one (.d (.bool)))) []
abbrev k17f:=HL TB.den (hsT k51.ins (hsOs k51.pre))
abbrev knj:=HL TB.den (hsV k51.res (hsOs k51.post))
noncomputable def kev:Cx TB:=⟨inf,[kuf],[],4,[]⟩
noncomputable def km9:Code:=Try.f106.body.getD .skip
noncomputable def kqp:List ResultVar:=Try.f106.results.toList
noncomputable def k146 (o:knj):An TB:= .no
def kmg (x:k17f) (o:knj):Prop:=WPh TB kev 7 0 km9 (k146 o) (k51.st TB x) (retTQ TB kev k51 kqp o)
theorem k1hm (o:knj):OblH TB kev 7 0 km9 (k146 o) (retTQ TB kev k51 kqp o):=
 OblH.ofC (X:=True) (by kernel_rfl) trivial
theorem k1hd {x:k17f} {o:knj} (h:kmg x o):k51.Snd Try.prog x o:=
 Con.soundH (c:=k51) (C:=kev) TBok ⟨inf_ok,(all_cons k1b3 all_nil),all_nil⟩ mix Try.func106 (show Try.f106.body=some km9 by kernel_rfl) (show Try.f106.ntmps=7 by kernel_rfl) (show Try.f106.results.toList=kqp by kernel_rfl) rfl h (k1hm o)
theorem k1k8 {p0:Int} {r0:Bool} (h:
((p0=18446744069414584321)∧decide (0<(7:Int))=r0)):kmg (p0,()) (r0,()):=WPh.of_eq (by kernel_rfl) h
theorem bd106:Callable Try.prog 106:=⟨by rw[Try.func106];kernel_rfl,by rw[Try.func106];show some _≠some _;decide⟩
theorem k1ep (p0:Int) (h:p0=18446744069414584321):kmg (p0,()) ((true:Bool),()):=by
 exact k1k8 ⟨h,rfl⟩
noncomputable def k8h:Con TB.den:=k51.fnR (fun x=>(fun(p0:Int)=>p0=18446744069414584321) x.1) fun x=>((fun(p0:Int)=>(true:Bool)) x.1,())
theorem kbs:k8h.Ok Try.prog TB:=Con.ok_fn k51 bd106 fun x h=>k1hd (k1ep x.1 h)
def k6s:Con TB.den:=Con.mk0 114 [.one (.d (.int .u64)),.one (.d (.int .u64)),.one (.d (.int .u64))] [] (.one (.one (.d (.int .u64)))) []
abbrev k1fd:=HL TB.den (hsT k6s.ins (hsOs k6s.pre))
abbrev ksy:=HL TB.den (hsV k6s.res (hsOs k6s.post))
noncomputable def kjt:Cx TB:=⟨inf,[k8h],[],4,[]⟩
noncomputable def krl:Code:=Try.f114.body.getD .skip
noncomputable def kyf:List ResultVar:=Try.f114.results.toList
noncomputable def k19p (o:ksy):An TB:= .no
def kr2 (x:k1fd) (o:ksy):Prop:=WPh TB kjt 29 0 krl (k19p o) (k6s.st TB x) (retTQ TB kjt k6s kyf o)
theorem k1m5 (o:ksy):OblH TB kjt 29 0 krl (k19p o) (retTQ TB kjt k6s kyf o):=
 OblH.ofC (X:=True) (by kernel_rfl) trivial
theorem k1mg {x:k1fd} {o:ksy} (h:kr2 x o):k6s.Snd Try.prog x o:=
 Con.soundH (c:=k6s) (C:=kjt) TBok ⟨inf_ok,(all_cons kbs all_nil),all_nil⟩ mix Try.func114 (show Try.f114.body=some krl by kernel_rfl) (show Try.f114.ntmps=29 by kernel_rfl) (show Try.f114.results.toList=kyf by kernel_rfl) rfl h (k1m5 o)
theorem k1nx {p0:Int} {p1:Int} {p2:Int} {r0:Int} (h:
((p0=18446744069414584321)∧((!true)=true→
 0=r0)∧
((!true)=false→
(p0≠0)∧(p0≠0)∧let v1:Bool:=decide ((IntKind.u64.wrap (p0-(Int.tmod p2 p0)))≤(Int.tmod p1 p0))
(v1=true→
 let v2:Int:=IntKind.u64.wrap ((Int.tmod p1 p0)-(IntKind.u64.wrap (p0-(Int.tmod p2 p0))))
 v2=r0)∧
(v1=false→
 let v3:Int:=IntKind.u64.wrap ((Int.tmod p1 p0)+(Int.tmod p2 p0))
 v3=r0)))):kr2 (p0,p1,p2,()) (r0,()):=WPh.of_eq (by kernel_rfl) h
theorem bd114:Callable Try.prog 114:=⟨by rw[Try.func114];kernel_rfl,by rw[Try.func114];show some _≠some _;decide⟩
theorem k1kk (p0:Int) (p1:Int) (p2:Int) (h:p0=18446744069414584321∧U64 p1∧U64 p2):kr2 (p0,p1,p2,()) ((((p1+p2)%18446744069414584321):Int),()):=by
 obtain⟨rfl,h1,h2⟩:=h
 refine k1nx ⟨rfl,fun h=>by simp at h,fun _=> ?_⟩
 rw[tmod_nn _ _ h1.1,tmod_nn _ _ h2.1]
 simp only[u64w]
 refine⟨by omega,by omega,fun h=> ?_,fun h=> ?_⟩
 ·have h:=of_decide_eq_true h
  omega
 ·have h:=of_decide_eq_false h
  omega
noncomputable def khj:Con TB.den:=k6s.fnR (fun x=>(fun(p0:Int) (p1:Int) (p2:Int)=>p0=18446744069414584321∧U64 p1∧U64 p2) x.1 x.2.1 x.2.2.1) fun x=>((fun(p0:Int) (p1:Int) (p2:Int)=>(((p1+p2)%18446744069414584321):Int)) x.1 x.2.1 x.2.2.1,())
theorem kq9:khj.Ok Try.prog TB:=Con.ok_fn k6s bd114 fun x h=>k1mg (k1kk x.1 x.2.1 x.2.2.1 h)
def k25:Con TB.den:=Con.mk0 136 [.one (.d (.int .u64))] [] (.one (.one (.d (.int .i64)))) []
abbrev k14a:=HL TB.den (hsT k25.ins (hsOs k25.pre))
abbrev k47:=HL TB.den (hsV k25.res (hsOs k25.post))
noncomputable def k49:Cx TB:=⟨inf,[],[],4,[]⟩
noncomputable def k8f:Code:=Try.f136.body.getD .skip
noncomputable def kac:List ResultVar:=Try.f136.results.toList
def kby:Tm:=⟨[],[],[0,2],[.one (.d (.int .u64)),.one (.d (.int .i64))],0⟩
def kw8 (o:k47) (i:HL TB.den kby.hs):Prop:=ghs TB [] (kby.fill TB i) fun s=>WP TB k49 25 0 (cB (cB (cB (cB k8f)))) .no s (retTQ TB k49 k25 kac o)
structure k8l (o:k47) (i:HL TB.den kby.hs):Prop where
 h:kw8 o i
def kgg:Tm:=⟨[],[],[0,2],[.one (.d (.int .u64)),.one (.d (.int .i64))],0⟩
def kv7 (o:k47) (i:HL TB.den kgg.hs):Prop:=ghs TB [] (kgg.fill TB i) fun s=>WP TB k49 25 0 (cB (cB (cB k8f))) (.jn kby (k8l o) [] .no [] .no) s (retTQ TB k49 k25 kac o)
structure kab (o:k47) (i:HL TB.den kgg.hs):Prop where
 h:kv7 o i
noncomputable def kza (o:k47):An TB:= .jn kgg (kab o) [] .no [] (.jn kby (k8l o) [] .no [] .no)
def kgi:Tm:=⟨[],[],[0,2],[.one (.d (.int .u64)),.one (.d (.int .i64))],0⟩
def kwj (o:k47) (i:HL TB.den kgi.hs):Prop:=ghs TB [] (kgi.fill TB i) fun s=>WP TB k49 25 0 (cB (cB k8f)) (kza o) s (retTQ TB k49 k25 kac o)
structure kad (o:k47) (i:HL TB.den kgi.hs):Prop where
 h:kwj o i
noncomputable def k1hw (o:k47):An TB:= .jn kgi (kad o) [] .no [] (kza o)
noncomputable def kz6 (o:k47):An TB:= .nd [] .no [] (k1hw o)
def kl6 (x:k14a) (o:k47):Prop:=WPh TB k49 25 0 k8f (kz6 o) (k25.st TB x) (retTQ TB k49 k25 kac o)
theorem k1ed (o:k47):OblH TB k49 25 0 k8f (kz6 o) (retTQ TB k49 k25 kac o):=
 OblH.ofC (X:=((∀i,(kad o) i=kwj o i)∧(∀i,(kab o) i=kv7 o i)∧(∀i,(k8l o) i=kw8 o i)∧True)) (by kernel_rfl) ⟨fun _=>propext ⟨fun h=>h.1,fun h=>⟨h⟩⟩,fun _=>propext ⟨fun h=>h.1,fun h=>⟨h⟩⟩,fun _=>propext ⟨fun h=>h.1,fun h=>⟨h⟩⟩,trivial⟩
theorem k1cy {x:k14a} {o:k47} (h:kl6 x o):k25.Snd Try.prog x o:=
 Con.soundH (c:=k25) (C:=k49) TBok ⟨inf_ok,all_nil,all_nil⟩ mix Try.func136 (show Try.f136.body=some k8f by kernel_rfl) (show Try.f136.ntmps=25 by kernel_rfl) (show Try.f136.results.toList=kac by kernel_rfl) rfl h (k1ed o)
theorem k1g8 {p0:Int} {r0:Int} (h:
((decide (4294967296≤p0)=true→
 kad (r0,()) ((ishr .u64 p0 32:Int),(32:Int),()))∧
(decide (4294967296≤p0)=false→
 kad (r0,()) (p0,(0:Int),())))):kl6 (p0,()) (r0,()):=WPh.of_eq (by kernel_rfl) h
theorem k18l {r0:Int} {s0:Int} {s2:Int} (h:
((decide (65536≤s0)=true→
 kab (r0,()) ((ishr .u64 s0 16:Int),(IntKind.i64.wrap (s2+16):Int),()))∧
(decide (65536≤s0)=false→
 kab (r0,()) (s0,s2,())))):kad (r0,()) (s0,s2,()):=⟨mpr_of (by kernel_rfl) h⟩
theorem k17x {r0:Int} {s0:Int} {s2:Int} (h:
((decide (256≤s0)=true→
 k8l (r0,()) ((ishr .u64 s0 8:Int),(IntKind.i64.wrap (s2+8):Int),()))∧
(decide (256≤s0)=false→
 k8l (r0,()) (s0,s2,())))):kab (r0,()) (s0,s2,()):=⟨mpr_of (by kernel_rfl) h⟩
theorem k19m {r0:Int} {s0:Int} {s2:Int} (h:
((0≤IntKind.u8.wrap s0∧IntKind.u8.wrap s0<((⟨#[0,1,2,2,3,3,3,3,4,4,4,4,4,4,4,4,5,5,5,5,5,5,5,5,5,5,5,5,5,5,5,5,6,6,6,6,6,6,6,6,6,6,6,6,6,6,6,6,6,6,6,6,6,6,6,6,6,6,6,6,6,6,6,6,7,7,7,7,7,7,7,7,7,7,7,7,7,7,7,7,7,7,7,7,7,7,7,7,7,7,7,7,7,7,7,7,7,7,7,7,7,7,7,7,7,7,7,7,7,7,7,7,7,7,7,7,7,7,7,7,7,7,7,7,7,7,7,7,8,8,8,8,8,8,8,8,8,8,8,8,8,8,8,8,8,8,8,8,8,8,8,8,8,8,8,8,8,8,8,8,8,8,8,8,8,8,8,8,8,8,8,8,8,8,8,8,8,8,8,8,8,8,8,8,8,8,8,8,8,8,8,8,8,8,8,8,8,8,8,8,8,8,8,8,8,8,8,8,8,8,8,8,8,8,8,8,8,8,8,8,8,8,8,8,8,8,8,8,8,8,8,8,8,8,8,8,8,8,8,8,8,8,8,8,8,8,8,8,8,8,8,8,8,8,8,8]⟩:ByteArray).size:Int))∧let v1:Int:=byteAt (⟨#[0,1,2,2,3,3,3,3,4,4,4,4,4,4,4,4,5,5,5,5,5,5,5,5,5,5,5,5,5,5,5,5,6,6,6,6,6,6,6,6,6,6,6,6,6,6,6,6,6,6,6,6,6,6,6,6,6,6,6,6,6,6,6,6,7,7,7,7,7,7,7,7,7,7,7,7,7,7,7,7,7,7,7,7,7,7,7,7,7,7,7,7,7,7,7,7,7,7,7,7,7,7,7,7,7,7,7,7,7,7,7,7,7,7,7,7,7,7,7,7,7,7,7,7,7,7,7,7,8,8,8,8,8,8,8,8,8,8,8,8,8,8,8,8,8,8,8,8,8,8,8,8,8,8,8,8,8,8,8,8,8,8,8,8,8,8,8,8,8,8,8,8,8,8,8,8,8,8,8,8,8,8,8,8,8,8,8,8,8,8,8,8,8,8,8,8,8,8,8,8,8,8,8,8,8,8,8,8,8,8,8,8,8,8,8,8,8,8,8,8,8,8,8,8,8,8,8,8,8,8,8,8,8,8,8,8,8,8,8,8,8,8,8,8,8,8,8,8,8,8,8,8,8,8,8,8]⟩:ByteArray) (IntKind.u8.wrap s0)
 let v2:Int:=IntKind.i64.wrap (s2+(IntKind.i64.wrap v1))
 v2=r0)):k8l (r0,()) (s0,s2,()):=⟨mpr_of (by kernel_rfl) h⟩
theorem bd136:Callable Try.prog 136:=⟨by rw[Try.func136];kernel_rfl,by rw[Try.func136];show some _≠some _;decide⟩
theorem k1b5 (p0:Int) (h:U64 p0):kl6 (p0,()) (((len64 p0):Int),()):=by
 have j3:∀s0 s2:Int,0≤s0→s0<256→0≤s2→s2≤56→k8l (s2+len64 s0,()) (s0,s2,()):=fun s0 s2 h0 h1 h2 h3=>by
  refine k19m ?_
  have e:IntKind.u8.wrap s0=s0:=by rw[u8w];omega
  have l:=k1mz s0 ⟨h0,h1⟩
  show(0≤IntKind.u8.wrap s0∧IntKind.u8.wrap s0<(tab8.size:Int))∧IntKind.i64.wrap (s2+IntKind.i64.wrap (byteAt tab8 (IntKind.u8.wrap s0)))=_
  rw[e,k1om,k1jt s0 ⟨h0,h1⟩,wi (len64 s0) (by omega) (by omega),wi (s2+len64 s0) (by omega) (by omega)]
  exact⟨⟨h0,h1⟩,rfl⟩
 have j2:∀s0 s2:Int,0≤s0→s0<65536→0≤s2→s2≤48→kab (s2+len64 s0,()) (s0,s2,()):=fun s0 s2 h0 h1 h2 h3=>by
  refine k17x ⟨fun h=> ?_,fun h=>j3 s0 s2 h0 (by simpa using h) h2 (by omega)⟩
  have h:=of_decide_eq_true h
  rw[ishr8,wi _ (by omega) (by omega),←ku9 s0 8 (by simpa using h),←Int.add_assoc,Int.add_right_comm]
  exact j3 _ _ (by omega) (by omega) (by omega) (by omega)
 have j1:∀s0 s2:Int,0≤s0→s0<4294967296→0≤s2→s2≤32→kad (s2+len64 s0,()) (s0,s2,()):=fun s0 s2 h0 h1 h2 h3=>by
  refine k18l ⟨fun h=> ?_,fun h=>j2 s0 s2 h0 (by simpa using h) h2 (by omega)⟩
  have h:=of_decide_eq_true h
  rw[ishr16,wi _ (by omega) (by omega),←ku9 s0 16 (by simpa using h),←Int.add_assoc,Int.add_right_comm]
  exact j2 _ _ (by omega) (by omega) (by omega) (by omega)
 refine k1g8 ⟨fun h1=> ?_,fun h1=> ?_⟩
 ·have h1:=of_decide_eq_true h1
  rw[ishr32,←ku9 p0 32 (by simpa using h1),Int.add_comm]
  exact j1 _ _ (by omega) (by omega) (by omega) (by omega)
 ·have:=j1 p0 0 h.1 (by simpa using h1) (by omega) (by omega)
  rwa [Int.zero_add]at this
noncomputable def kv8:Con TB.den:=k25.fnR (fun x=>(fun(p0:Int)=>U64 p0) x.1) fun x=>((fun(p0:Int)=>((len64 p0):Int)) x.1,())
theorem k1g0:kv8.Ok Try.prog TB:=Con.ok_fn k25 bd136 fun x h=>k1cy (k1b5 x.1 h)
def kp:Con TB.den:=Con.mk0 134 [.one (.d (.int .u64))] [] (.one (.one (.d (.int .i64)))) []
abbrev kji:=HL TB.den (hsT kp.ins (hsOs kp.pre))
abbrev k8d:=HL TB.den (hsV kp.res (hsOs kp.post))
noncomputable def k64:Cx TB:=⟨inf,[kv8],[],4,[]⟩
noncomputable def k9w:Code:=Try.f134.body.getD .skip
noncomputable def kb6:List ResultVar:=Try.f134.results.toList
noncomputable def khf (o:k8d):An TB:= .no
def ka0 (x:kji) (o:k8d):Prop:=WPh TB k64 6 0 k9w (khf o) (kp.st TB x) (retTQ TB k64 kp kb6 o)
theorem ksg (o:k8d):OblH TB k64 6 0 k9w (khf o) (retTQ TB k64 kp kb6 o):=
 OblH.ofC (X:=True) (by kernel_rfl) trivial
theorem ksf {x:kji} {o:k8d} (h:ka0 x o):kp.Snd Try.prog x o:=
 Con.soundH (c:=kp) (C:=k64) TBok ⟨inf_ok,(all_cons k1g0 all_nil),all_nil⟩ mix Try.func134 (show Try.f134.body=some k9w by kernel_rfl) (show Try.f134.ntmps=6 by kernel_rfl) (show Try.f134.results.toList=kb6 by kernel_rfl) rfl h (ksg o)
theorem kub {p0:Int} {r0:Int} (h:
((U64 p0)∧IntKind.i64.wrap (64-(len64 p0))=r0)):ka0 (p0,()) (r0,()):=WPh.of_eq (by kernel_rfl) h
theorem bd134:Callable Try.prog 134:=⟨by rw[Try.func134];kernel_rfl,by rw[Try.func134];show some _≠some _;decide⟩
theorem krm (p0:Int) (h:0<p0∧p0<18446744073709551616):ka0 (p0,()) (((64-len64 p0):Int),()):=by
 obtain⟨s,e,h1,_⟩:=k1a3 p0 h
 refine kub ⟨⟨by omega,h.2⟩,?_⟩
 exact wi _ (by omega) (by omega)
noncomputable def kgq:Con TB.den:=kp.fnR (fun x=>(fun(p0:Int)=>0<p0∧p0<18446744073709551616) x.1) fun x=>((fun(p0:Int)=>((64-len64 p0):Int)) x.1,())
theorem kux:kgq.Ok Try.prog TB:=Con.ok_fn kp bd134 fun x h=>ksf (krm x.1 h)
def k1w:Con TB.den:=Con.mk0 125 [.one (.d (.int .u64)),.one (.d (.int .u64)),.one (.d (.int .u64))] [] (.tup [.one (.d (.int .u64)),.one (.d (.int .u64))]) []
abbrev k11l:=HL TB.den (hsT k1w.ins (hsOs k1w.pre))
abbrev kf:=HL TB.den (hsV k1w.res (hsOs k1w.post))
noncomputable def k1u:Cx TB:=⟨inf,[kgq],[],4,[]⟩
noncomputable def k4q:Code:=Try.f125.body.getD .skip
noncomputable def k8n:List ResultVar:=Try.f125.results.toList
def kch:Tm:=⟨[],[],[2,8,14,15,17,18],[.one (.d (.int .u64)),.one (.d (.int .u64)),.one (.d (.int .u64)),.one (.d (.int .u64)),.one (.d (.int .u64)),.one (.d (.int .u64))],0⟩
def kv3 (o:kf) (i:HL TB.den kch.hs):Prop:=ghs TB [] (kch.fill TB i) fun s=>WP TB k1u 135 0 (cB (cB (cB (cB (cB (cB (cB (cB (cB (cB (cB (cB (cB (cB (cB (cB (cB (cB (cB k4q))))))))))))))))))) .no s (retTQ TB k1u k1w k8n o)
structure k8i (o:kf) (i:HL TB.den kch.hs):Prop where
 h:kv3 o i
def kyn (o:kf):=qM TB 0 kch (k8i o) (retTQ TB k1u k1w k8n o)
def k4e:Tm:=⟨[],[],[2,8,9,10,14,15,16,17,18],[.one (.d (.int .u64)),.one (.d (.int .u64)),.one (.d (.int .u64)),.one (.d (.int .u64)),.one (.d (.int .u64)),.one (.d (.int .u64)),.one (.d (.int .u64)),.one (.d (.int .u64)),.one (.d (.int .u64))],0⟩
def kbv:Tm:=⟨[],[],[2,8,9,10,14,15,16,17,18],[.one (.d (.int .u64)),.one (.d (.int .u64)),.one (.d (.int .u64)),.one (.d (.int .u64)),.one (.d (.int .u64)),.one (.d (.int .u64)),.one (.d (.int .u64)),.one (.d (.int .u64)),.one (.d (.int .u64))],0⟩
def kvm (o:kf) (nx2:NX TB k4e) (i:HL TB.den kbv.hs):Prop:=ghs TB [] (kbv.fill TB i) fun s=>WP TB k1u 135 0 (cB (cA (cA (cA (cB (cB (cB (cB (cB (cB (cB (cB (cB (cB (cB (cB (cB (cB (cB (cB (cB (cB k4q)))))))))))))))))))))) .no s (qM TB 0 k4e nx2 (blockT TB 2 (kyn o)))
structure k8p (o:kf) (nx2:NX TB k4e) (i:HL TB.den kbv.hs):Prop where
 h:kvm o nx2 i
def kdf (o:kf) (nx2:NX TB k4e) (i:HL TB.den k4e.hs):Prop:=WP TB k1u 135 0 (cA (cA (cA (cB (cB (cB (cB (cB (cB (cB (cB (cB (cB (cB (cB (cB (cB (cB (cB (cB (cB k4q))))))))))))))))))))) (.jn kbv (k8p o nx2) [] .no [] .no) (k4e.fill TB i) (qM TB 0 k4e nx2 (blockT TB 2 (kyn o)))
noncomputable def k1gp (o:kf):An TB:= .lp [] k4e (kdf o) fun nx2=>(.jn kbv (k8p o nx2) [] .no [] .no)
noncomputable def k1hy (o:kf):An TB:= .jn kch (k8i o) [] (k1gp o) [] .no
noncomputable def kzw (o:kf):An TB:= .nd [] .no [] (.nd [] .no [] (.nd [] .no [] (k1hy o)))
def kbm:Tm:=⟨[],[],[2,8,9,10,11,13,14,15],[.one (.d (.int .u64)),.one (.d (.int .u64)),.one (.d (.int .u64)),.one (.d (.int .u64)),.one (.d (.int .u64)),.one (.d (.int .u64)),.one (.d (.int .u64)),.one (.d (.int .u64))],0⟩
def kvf (o:kf) (i:HL TB.den kbm.hs):Prop:=ghs TB [] (kbm.fill TB i) fun s=>WP TB k1u 135 0 (cB (cB (cB (cB (cB (cB (cB (cB (cB (cB (cB (cB (cB (cB (cB k4q))))))))))))))) (kzw o) s (retTQ TB k1u k1w k8n o)
structure k8o (o:kf) (i:HL TB.den kbm.hs):Prop where
 h:kvf o i
def kyr (o:kf):=qM TB 0 kbm (k8o o) (retTQ TB k1u k1w k8n o)
def k40:Tm:=⟨[],[],[2,8,9,10,11,13,14,15,16],[.one (.d (.int .u64)),.one (.d (.int .u64)),.one (.d (.int .u64)),.one (.d (.int .u64)),.one (.d (.int .u64)),.one (.d (.int .u64)),.one (.d (.int .u64)),.one (.d (.int .u64)),.one (.d (.int .u64))],0⟩
def kcf:Tm:=⟨[],[],[2,8,9,10,11,13,14,15,16],[.one (.d (.int .u64)),.one (.d (.int .u64)),.one (.d (.int .u64)),.one (.d (.int .u64)),.one (.d (.int .u64)),.one (.d (.int .u64)),.one (.d (.int .u64)),.one (.d (.int .u64)),.one (.d (.int .u64))],0⟩
def kw1 (o:kf) (nx1:NX TB k40) (i:HL TB.den kcf.hs):Prop:=ghs TB [] (kcf.fill TB i) fun s=>WP TB k1u 135 0 (cB (cA (cA (cA (cB (cB (cB (cB (cB (cB (cB (cB (cB (cB (cB (cB (cB (cB k4q)))))))))))))))))) .no s (qM TB 0 k40 nx1 (blockT TB 0 (kyr o)))
structure k8m (o:kf) (nx1:NX TB k40) (i:HL TB.den kcf.hs):Prop where
 h:kw1 o nx1 i
def kde (o:kf) (nx1:NX TB k40) (i:HL TB.den k40.hs):Prop:=WP TB k1u 135 0 (cA (cA (cA (cB (cB (cB (cB (cB (cB (cB (cB (cB (cB (cB (cB (cB (cB k4q))))))))))))))))) (.jn kcf (k8m o nx1) [] .no [] .no) (k40.fill TB i) (qM TB 0 k40 nx1 (blockT TB 0 (kyr o)))
noncomputable def k1di (o:kf):An TB:= .lp [] k40 (kde o) fun nx1=>(.jn kcf (k8m o nx1) [] .no [] .no)
noncomputable def k1e5 (o:kf):An TB:= .jn kbm (k8o o) [] (k1di o) [] (kzw o)
noncomputable def k1dx (o:kf):An TB:= .nd [] .no [] (.nd [] .no [] (.nd [] .no [] (k1e5 o)))
noncomputable def k1e6 (o:kf):An TB:= .nd [] .no [] (.nd [] .no [] (.nd [] .no [] (k1dx o)))
noncomputable def k1eh (o:kf):An TB:= .nd [] .no [] (.nd [] .no [] (.nd [] .no [] (k1e6 o)))
noncomputable def k1ds (o:kf):An TB:= .nd [] .no [] (.nd [] .no [] (.nd [] .no [] (k1eh o)))
noncomputable def kz1 (o:kf):An TB:= .nd [] .no [] (.nd [] .no [] (k1ds o))
def kky (x:k11l) (o:kf):Prop:=WPh TB k1u 135 0 k4q (kz1 o) (k1w.st TB x) (retTQ TB k1u k1w k8n o)
theorem k1ci (o:kf):OblH TB k1u 135 0 k4q (kz1 o) (retTQ TB k1u k1w k8n o):=
 OblH.ofC (X:=((∀nx i,(kde o) nx i=(kde o) nx i)∧(∀nx1:NX TB k40,((∀i,(k8m o nx1) i=kw1 o nx1 i)∧True))∧(∀i,(k8o o) i=kvf o i)∧(∀nx i,(kdf o) nx i=(kdf o) nx i)∧(∀nx2:NX TB k4e,((∀i,(k8p o nx2) i=kvm o nx2 i)∧True))∧(∀i,(k8i o) i=kv3 o i)∧True)) (by kernel_rfl) ⟨fun _ _=>rfl,fun _=>⟨fun _=>propext ⟨fun h=>h.1,fun h=>⟨h⟩⟩,trivial⟩,fun _=>propext ⟨fun h=>h.1,fun h=>⟨h⟩⟩,fun _ _=>rfl,fun _=>⟨fun _=>propext ⟨fun h=>h.1,fun h=>⟨h⟩⟩,trivial⟩,fun _=>propext ⟨fun h=>h.1,fun h=>⟨h⟩⟩,trivial⟩
theorem k1dk {x:k11l} {o:kf} (h:kky x o):k1w.Snd Try.prog x o:=
 Con.soundH (c:=k1w) (C:=k1u) TBok ⟨inf_ok,(all_cons kux all_nil),all_nil⟩ mix Try.func125 (show Try.f125.body=some k4q by kernel_rfl) (show Try.f125.ntmps=135 by kernel_rfl) (show Try.f125.results.toList=k8n by kernel_rfl) rfl h (k1ci o)
theorem k1hs {p0:Int} {p1:Int} {p2:Int} {r0:Int} {r1:Int} (h:
(((p2==0)=true→
 False)∧
((p2==0)=false→
(decide (p2≤p0)=true→
 False)∧
(decide (p2≤p0)=false→
((p0==0)=true→
(p2≠0)∧(p2≠0)∧IntKind.u64.wrap (Int.tdiv p1 p2)=r0∧Int.tmod p1 p2=r1)∧
((p0==0)=false→
(0<p2∧p2<18446744073709551616)∧(0≤IntKind.u64.wrap (64-len64 p2))∧let v2:Int:=ishl .u64 p2 (IntKind.u64.wrap (64-len64 p2))
(0≤IntKind.u64.wrap (64-len64 p2))∧let v3:Int:=ishl .u64 p0 (IntKind.u64.wrap (64-len64 p2))
 let v4:Int:=IntKind.u64.wrap (64-(IntKind.u64.wrap (64-len64 p2)))
(0≤v4)∧(0≤IntKind.u64.wrap (64-len64 p2))∧let v5:Int:=ishl .u64 p1 (IntKind.u64.wrap (64-len64 p2))
(ishr .u64 v2 32≠0)∧let v6:Int:=IntKind.u64.wrap (Int.tdiv (ior .u64 v3 (ishr .u64 p1 v4)) (ishr .u64 v2 32))
 let v7:Int:=IntKind.u64.wrap (v6*(ishr .u64 v2 32))
 let v8:Int:=IntKind.u64.wrap ((ior .u64 v3 (ishr .u64 p1 v4))-v7)
 Md.Loop (v2,(IntKind.u64.wrap (64-len64 p2):Int),(ishr .u64 v2 32:Int),(iand .u64 v2 4294967295:Int),(ior .u64 v3 (ishr .u64 p1 v4):Int),(ishr .u64 v5 32:Int),(iand .u64 v5 4294967295:Int),v6,v8,()) (kde (r0,r1,()))))))):kky (p0,p1,p2,()) (r0,r1,()):=WPh.of_eq (by kernel_rfl) h
theorem k19g {r0:Int} {r1:Int} {nx1:NX TB k40} {s2:Int} {s8:Int} {s9:Int} {s10:Int} {s11:Int} {s13:Int} {s14:Int} {s15:Int} {s16:Int} (h:
(let v11:Bool:=decide (4294967296≤(IntKind.u64.wrap (s16+s9)))
(v11=true→
 k8o (r0,r1,()) (s2,s8,s9,s10,s11,s13,s14,(IntKind.u64.wrap (s15-1):Int),()))∧
(v11=false→
 nx1 (s2,s8,s9,s10,s11,s13,s14,(IntKind.u64.wrap (s15-1):Int),(IntKind.u64.wrap (s16+s9):Int),())))):k8m (r0,r1,()) nx1 (s2,s8,s9,s10,s11,s13,s14,s15,s16,()):=⟨mpr_of (by kernel_rfl) h⟩
theorem k196 {r0:Int} {r1:Int} {s2:Int} {s8:Int} {s9:Int} {s10:Int} {s11:Int} {s13:Int} {s14:Int} {s15:Int} (h:
(let v12:Int:=IntKind.u64.wrap ((IntKind.u64.wrap (s11*4294967296))+s13)
 let v13:Int:=IntKind.u64.wrap (v12-(IntKind.u64.wrap (s15*s2)))
(s9≠0)∧let v14:Int:=IntKind.u64.wrap ((IntKind.u64.wrap (Int.tdiv v13 s9))*s9)
 Md.Loop (s2,s8,s9,s10,s14,s15,(IntKind.u64.wrap (v13-v14):Int),v13,(IntKind.u64.wrap (Int.tdiv v13 s9):Int),()) (kdf (r0,r1,())))):k8o (r0,r1,()) (s2,s8,s9,s10,s11,s13,s14,s15,()):=⟨mpr_of (by kernel_rfl) h⟩
theorem k18o {r0:Int} {r1:Int} {nx2:NX TB k4e} {s2:Int} {s8:Int} {s9:Int} {s10:Int} {s14:Int} {s15:Int} {s16:Int} {s17:Int} {s18:Int} (h:
(let v17:Bool:=decide (4294967296≤(IntKind.u64.wrap (s16+s9)))
(v17=true→
 k8i (r0,r1,()) (s2,s8,s14,s15,s17,(IntKind.u64.wrap (s18-1):Int),()))∧
(v17=false→
 nx2 (s2,s8,s9,s10,s14,s15,(IntKind.u64.wrap (s16+s9):Int),s17,(IntKind.u64.wrap (s18-1):Int),())))):k8p (r0,r1,()) nx2 (s2,s8,s9,s10,s14,s15,s16,s17,s18,()):=⟨mpr_of (by kernel_rfl) h⟩
theorem k194 {r0:Int} {r1:Int} {s2:Int} {s8:Int} {s14:Int} {s15:Int} {s17:Int} {s18:Int} (h:
(let v18:Int:=IntKind.u64.wrap ((IntKind.u64.wrap (s15*4294967296))+s18)
 let v19:Int:=IntKind.u64.wrap ((IntKind.u64.wrap (s17*4294967296))+s14)
 let v20:Int:=IntKind.u64.wrap (v19-(IntKind.u64.wrap (s18*s2)))
(0≤s8)∧v18=r0∧ishr .u64 v20 s8=r1)):k8i (r0,r1,()) (s2,s8,s14,s15,s17,s18,()):=⟨mpr_of (by kernel_rfl) h⟩
def kzx (r0:Int) (r1:Int) (nx1:NX TB k40) (k1:Int→Int→Prop) (s2:Int) (s8:Int) (s9:Int) (s10:Int) (s11:Int) (s13:Int) (s14:Int) (s15:Int) (s16:Int):Prop:=
(decide (4294967296≤s15)=true→
 k8m (r0,r1,()) nx1 (s2,s8,s9,s10,s11,s13,s14,s15,s16,()))∧
(decide (4294967296≤s15)=false→
 let v9:Int:=IntKind.u64.wrap ((IntKind.u64.wrap (4294967296*s16))+s13)
 let v10:Bool:=decide (v9<(IntKind.u64.wrap (s15*s10)))
(v10=true→
 k8m (r0,r1,()) nx1 (s2,s8,s9,s10,s11,s13,s14,s15,s16,()))∧
(v10=false→
 k8o (r0,r1,()) (s2,s8,s9,s10,s11,s13,s14,s15,())))
theorem k1df {r0:Int} {r1:Int} {s2:Int} {s8:Int} {s9:Int} {s10:Int} {s11:Int} {s13:Int} {s14:Int} {s15:Int} {s16:Int} (inv:Int→Int→Prop) (μ:Int→Int→Nat) (h0:inv s15 s16) (hs:∀(s15:Int) (s16:Int),inv s15 s16→kzx r0 r1 (fun s:Int×Int×Int×Int×Int×Int×Int×Int×Int×Unit=>((s.1=s2∧s.2.1=s8∧s.2.2.1=s9∧s.2.2.2.1=s10∧s.2.2.2.2.1=s11∧s.2.2.2.2.2.1=s13∧s.2.2.2.2.2.2.1=s14)∧inv s.2.2.2.2.2.2.2.1 s.2.2.2.2.2.2.2.2.1)∧μ s.2.2.2.2.2.2.2.1 s.2.2.2.2.2.2.2.2.1<μ s15 s16) (fun s15q s16q=>inv s15q s16q∧μ s15q s16q<μ s15 s16) s2 s8 s9 s10 s11 s13 s14 s15 s16):Md.Loop (s2,s8,s9,s10,s11,s13,s14,s15,s16,()) (kde (r0,r1,())):=
 ⟨⟨fun s:Int×Int×Int×Int×Int×Int×Int×Int×Int×Unit=>(s.1=s2∧s.2.1=s8∧s.2.2.1=s9∧s.2.2.2.1=s10∧s.2.2.2.2.1=s11∧s.2.2.2.2.2.1=s13∧s.2.2.2.2.2.2.1=s14)∧inv s.2.2.2.2.2.2.2.1 s.2.2.2.2.2.2.2.2.1,fun s:Int×Int×Int×Int×Int×Int×Int×Int×Int×Unit=>μ s.2.2.2.2.2.2.2.1 s.2.2.2.2.2.2.2.2.1,⟨⟨rfl,rfl,rfl,rfl,rfl,rfl,rfl⟩,h0⟩,fun(s2p,s8p,s9p,s10p,s11p,s13p,s14p,s15p,s16p,()) ⟨⟨eq0,eq1,eq2,eq3,eq4,eq5,eq6⟩,hi⟩=>by
  have eq0:s2p=s2:=eq0;subst s2p;have eq1:s8p=s8:=eq1;subst s8p;have eq2:s9p=s9:=eq2;subst s9p;have eq3:s10p=s10:=eq3;subst s10p;have eq4:s11p=s11:=eq4;subst s11p;have eq5:s13p=s13:=eq5;subst s13p;have eq6:s14p=s14:=eq6;subst s14p;exact mpr_of (by kernel_rfl) ((congrArg (fun k=>kzx r0 r1 (fun s:Int×Int×Int×Int×Int×Int×Int×Int×Int×Unit=>((s.1=s2∧s.2.1=s8∧s.2.2.1=s9∧s.2.2.2.1=s10∧s.2.2.2.2.1=s11∧s.2.2.2.2.2.1=s13∧s.2.2.2.2.2.2.1=s14)∧inv s.2.2.2.2.2.2.2.1 s.2.2.2.2.2.2.2.2.1)∧μ s.2.2.2.2.2.2.2.1 s.2.2.2.2.2.2.2.2.1<μ s15p s16p) k s2 s8 s9 s10 s11 s13 s14 s15p s16p) (lpk2 (⟨rfl,rfl,rfl,rfl,rfl,rfl,rfl⟩:s2=s2∧s8=s8∧s9=s9∧s10=s10∧s11=s11∧s13=s13∧s14=s14) inv (fun s15q s16q=>μ s15q s16q<μ s15p s16p))).mpr (hs s15p s16p hi))⟩⟩
def kyy (r0:Int) (r1:Int) (nx2:NX TB k4e) (k2:Int→Int→Prop) (s2:Int) (s8:Int) (s9:Int) (s10:Int) (s14:Int) (s15:Int) (s17:Int) (s16:Int) (s18:Int):Prop:=
(decide (4294967296≤s18)=true→
 k8p (r0,r1,()) nx2 (s2,s8,s9,s10,s14,s15,s16,s17,s18,()))∧
(decide (4294967296≤s18)=false→
 let v15:Int:=IntKind.u64.wrap ((IntKind.u64.wrap (4294967296*s16))+s14)
 let v16:Bool:=decide (v15<(IntKind.u64.wrap (s18*s10)))
(v16=true→
 k8p (r0,r1,()) nx2 (s2,s8,s9,s10,s14,s15,s16,s17,s18,()))∧
(v16=false→
 k8i (r0,r1,()) (s2,s8,s14,s15,s17,s18,())))
theorem k1dp {r0:Int} {r1:Int} {s2:Int} {s8:Int} {s9:Int} {s10:Int} {s14:Int} {s15:Int} {s17:Int} {s16:Int} {s18:Int} (inv:Int→Int→Prop) (μ:Int→Int→Nat) (h0:inv s16 s18) (hs:∀(s16:Int) (s18:Int),inv s16 s18→kyy r0 r1 (fun s:Int×Int×Int×Int×Int×Int×Int×Int×Int×Unit=>((s.1=s2∧s.2.1=s8∧s.2.2.1=s9∧s.2.2.2.1=s10∧s.2.2.2.2.1=s14∧s.2.2.2.2.2.1=s15∧s.2.2.2.2.2.2.2.1=s17)∧inv s.2.2.2.2.2.2.1 s.2.2.2.2.2.2.2.2.1)∧μ s.2.2.2.2.2.2.1 s.2.2.2.2.2.2.2.2.1<μ s16 s18) (fun s16q s18q=>inv s16q s18q∧μ s16q s18q<μ s16 s18) s2 s8 s9 s10 s14 s15 s17 s16 s18):Md.Loop (s2,s8,s9,s10,s14,s15,s16,s17,s18,()) (kdf (r0,r1,())):=
 ⟨⟨fun s:Int×Int×Int×Int×Int×Int×Int×Int×Int×Unit=>(s.1=s2∧s.2.1=s8∧s.2.2.1=s9∧s.2.2.2.1=s10∧s.2.2.2.2.1=s14∧s.2.2.2.2.2.1=s15∧s.2.2.2.2.2.2.2.1=s17)∧inv s.2.2.2.2.2.2.1 s.2.2.2.2.2.2.2.2.1,fun s:Int×Int×Int×Int×Int×Int×Int×Int×Int×Unit=>μ s.2.2.2.2.2.2.1 s.2.2.2.2.2.2.2.2.1,⟨⟨rfl,rfl,rfl,rfl,rfl,rfl,rfl⟩,h0⟩,fun(s2p,s8p,s9p,s10p,s14p,s15p,s16p,s17p,s18p,()) ⟨⟨eq0,eq1,eq2,eq3,eq4,eq5,eq6⟩,hi⟩=>by
  have eq0:s2p=s2:=eq0;subst s2p;have eq1:s8p=s8:=eq1;subst s8p;have eq2:s9p=s9:=eq2;subst s9p;have eq3:s10p=s10:=eq3;subst s10p;have eq4:s14p=s14:=eq4;subst s14p;have eq5:s15p=s15:=eq5;subst s15p;have eq6:s17p=s17:=eq6;subst s17p;exact mpr_of (by kernel_rfl) ((congrArg (fun k=>kyy r0 r1 (fun s:Int×Int×Int×Int×Int×Int×Int×Int×Int×Unit=>((s.1=s2∧s.2.1=s8∧s.2.2.1=s9∧s.2.2.2.1=s10∧s.2.2.2.2.1=s14∧s.2.2.2.2.2.1=s15∧s.2.2.2.2.2.2.2.1=s17)∧inv s.2.2.2.2.2.2.1 s.2.2.2.2.2.2.2.2.1)∧μ s.2.2.2.2.2.2.1 s.2.2.2.2.2.2.2.2.1<μ s16p s18p) k s2 s8 s9 s10 s14 s15 s17 s16p s18p) (lpk2 (⟨rfl,rfl,rfl,rfl,rfl,rfl,rfl⟩:s2=s2∧s8=s8∧s9=s9∧s10=s10∧s14=s14∧s15=s15∧s17=s17) inv (fun s16q s18q=>μ s16q s18q<μ s16p s18p))).mpr (hs s16p s18p hi))⟩⟩
theorem bd125:Callable Try.prog 125:=⟨by rw[Try.func125];kernel_rfl,by rw[Try.func125];show some _≠some _;decide⟩
theorem k1ca (p0:Int) (p1:Int) (p2:Int) (h:U64 p0∧U64 p1∧U64 p2∧p0<p2):kky (p0,p1,p2,()) ((((p0*18446744073709551616+p1)/p2):Int),(((p0*18446744073709551616+p1)%p2):Int),()):=by
 obtain⟨h0,h1,h2,hlt⟩:=h
 refine k1hs ⟨fun e=> ?_,fun _=>⟨fun e=> ?_,fun _=>⟨fun e=> ?_,fun _=> ?_⟩⟩⟩
 ·simp at e;omega
 ·simp at e;omega
 ·have e:p0=0:=by simpa using e
  subst e
  rw[tdiv_nn _ _ h1.1,tmod_nn _ _ h1.1,Int.zero_mul,Int.zero_add]
  have:=Int.ediv_le_self p2 h1.1
  have:=Int.ediv_nonneg h1.1 h2.1
  exact⟨by omega,by omega,wu _ (by omega) (by have:=Int.ediv_le_self p2 h1.1;omega),rfl⟩
 obtain⟨s,e,hs,n1,n2⟩:=k1a3 p2 ⟨by omega,h2.2⟩
 have ew:IntKind.u64.wrap (64-len64 p2)=(s:Int):=by rw[e,wu _ (by omega) (by omega)]
 have ew3:IntKind.u64.wrap (64-(s:Int))=((64-s:Nat):Int):=by rw[wu _ (by omega) (by omega)];omega
 have hp:0<2^s:=Nat.two_pow_pos s
 have hp' :0<2^(64-s):=Nat.two_pow_pos _
 have hpp:2^s*2^(64-s)=18446744073709551616:=by rw[←Nat.pow_add,show s+(64-s)=64 by omega]
 have hP:((2^s:Nat):Int)*((2^(64-s):Nat):Int)=18446744073709551616:=by rw[←Int.natCast_mul,hpp];rfl
 have il:∀a:Int,ishl .u64 a (s:Int)=a*((2^s:Nat):Int)%18446744073709551616:=fun a=>by rw[k1ij,Int.toNat_natCast,Nat.min_eq_left (by omega)]
 have ir:∀a:Int,ishr .u64 a (s:Int)=a/((2^s:Nat):Int):=fun a=>by rw[kj5,Int.toNat_natCast,show min s IntKind.u64.bits=s from Nat.min_eq_left (by show s≤64;omega)]
 have ir' :∀a:Int,ishr .u64 a ((64-s:Nat):Int)=a/((2^(64-s):Nat):Int):=fun a=>by rw[kj5,Int.toNat_natCast,show min (64-s) IntKind.u64.bits=64-s from Nat.min_eq_left (by show 64-s≤64;omega)]
 have hor:∀c:Int,0≤c→c<((2^s:Nat):Int)→p0*((2^s:Nat):Int)+c<18446744073709551616→ior .u64 (p0*((2^s:Nat):Int)) c=p0*((2^s:Nat):Int)+c:=by
  intro c hc0 hc1 hc2
  obtain⟨a,rfl⟩:=Int.eq_ofNat_of_zero_le h0.1
  obtain⟨c,rfl⟩:=Int.eq_ofNat_of_zero_le hc0
  have key:=ior_add' c a s (by omega)
  rw[Int.mul_comm,←Int.natCast_mul]at hc2 ⊢
  rw[key (by omega)]
  omega
 simp only[ew,ew3,il,ir',ishr32]
 have hP'0:(0:Int)<((2^(64-s):Nat):Int):=by omega
 generalize hPd:((2^s:Nat):Int)=P at *
 generalize hPd' :((2^(64-s):Nat):Int)=P' at *
 have hP0:0<P:=by omega
 have hlo:p1/P' <P:=Int.ediv_lt_of_lt_mul hP'0 (by omega)
 have hlo0:0≤p1/P' :=Int.ediv_nonneg h1.1 (by omega)
 have hUv:p0*P+P≤p2*P:=by
  have:(p0+1)*P≤p2*P:=Int.mul_le_mul_of_nonneg_right (by omega) (by omega)
  grind
 have hUp:0≤p0*P:=Int.mul_nonneg h0.1 (by omega)
 rw[Int.emod_eq_of_lt (a:=p2*P) (by omega) n2,Int.emod_eq_of_lt (a:=p0*P) hUp (by omega),hor _ hlo0 hlo (by omega)]
 have hN:(p0*18446744073709551616+p1)*P=(p0*P+p1/P')*18446744073709551616+(p1*P%18446744073709551616/4294967296)*4294967296+p1*P%18446744073709551616%4294967296:=by
  have h5:p1*P/18446744073709551616=p1/P' :=by
   rw[←hP,Int.mul_comm p1 P,Int.mul_ediv_mul_of_pos _ _ hP0]
  have h6:=Int.emod_add_mul_ediv (p1*P) 18446744073709551616
  rw[h5]at h6
  have:(p0*18446744073709551616+p1)*P=p0*P*18446744073709551616+p1*P:=by grind
  rw[this]
  generalize p1*P=w at *
  generalize p0*P=w' at *
  omega
 have hlb:0≤p1*P%18446744073709551616∧p1*P%18446744073709551616<18446744073709551616:=⟨Int.emod_nonneg _ (by omega),Int.emod_lt_of_pos _ (by omega)⟩
 generalize hUd:p0*P+p1/P' =U at *
 generalize hLd:p1*P%18446744073709551616=L at *
 have hVd:p2*P/4294967296*4294967296+p2*P%4294967296=p2*P:=by omega
 have hw:∀{Q R V' :Int},R-Q=V'→0≤V'→V' <18446744073709551616→∀A,R=A*4294967296+(R-A*4294967296)→IntKind.u64.wrap (IntKind.u64.wrap (IntKind.u64.wrap (A*4294967296)+(R-A*4294967296))-IntKind.u64.wrap Q)=V' :=by
  intro Q R V' hv h0 h1 A hA
  simp only[u64w]
  omega
 rw[khk (p2*P) (by omega),khk L (by omega)]
 generalize ha:p2*P/4294967296=a at *
 generalize hb:p2*P%4294967296=b at *
 have hQ1:Half U (L/4294967296) a b ((U*4294967296+L/4294967296)/(a*4294967296+b)):=⟨by omega,by omega,by omega,by omega,by omega,rfl⟩
 have hr1:=hQ1.rest
 have hq1:=hQ1.q
 generalize (U*4294967296+L/4294967296)/(a*4294967296+b)=Q1 at *
 generalize (U*4294967296+L/4294967296)%(a*4294967296+b)=R1 at *
 have hQ0:Half R1 (L%4294967296) a b ((R1*4294967296+L%4294967296)/(a*4294967296+b)):=⟨by omega,by omega,by omega,by omega,by omega,rfl⟩
 have hr0:=hQ0.rest
 have hq0:=hQ0.q
 generalize (R1*4294967296+L%4294967296)/(a*4294967296+b)=Q0 at *
 generalize (R1*4294967296+L%4294967296)%(a*4294967296+b)=R0 at *
 rw[hVd]at hr1 hr0 hq1 hq0
 have fin:=k1od hP0 (by omega:0<p2) hN hr1.1 hr0.1 ⟨hr0.2.1,hr0.2.2⟩
 have j4:k8i (((p0*18446744073709551616+p1)/p2:Int),((p0*18446744073709551616+p1)%p2:Int),()) ((p2*P:Int),(s:Int),(L%4294967296:Int),Q1,R1,Q0,()):=by
  refine k194 ⟨by omega,?_,?_⟩
  ·rw[wu (Q1*4294967296) (by omega) (by omega),wu _ (by omega) (by omega)]
   exact fin.1
  ·have:=hw (Q:=Q0*(p2*P)) (R:=R1*4294967296+L%4294967296) hr0.1 hr0.2.1 (by omega) R1 (by omega)
   rw[show R1*4294967296+L%4294967296-R1*4294967296=L%4294967296 by omega]at this
   rw[this,ir]
   exact fin.2
 have aux:∀{U x Q q r:Int},Half U x a b Q→U<18446744073709551616→q*a+r=U→Q≤q→0≤r→q≤8589934592:=by
  intro U x Q q r hh hU e hQ hr
  have h1:=hh.ha
  refine Int.le_of_lt_add_one (Int.lt_of_mul_lt_mul_right (a:=a) ?_ (by omega))
  generalize q*a=w at *
  omega
 have init:∀{U x Q:Int},Half U x a b Q→Q≤U/a:=by
  intro U x Q hh
  have h1:=hh.ha
  have h2:=hh.q
  have h3:=hh.hb
  have h4:=hh.hx
  refine(Int.le_ediv_iff_mul_le (by omega)).2 ?_
  have h5:Q*(a*4294967296+b)=Q*a*4294967296+Q*b:=by grind
  have h6:0≤Q*b:=Int.mul_nonneg h2.1 h3.1
  generalize Q*a=w at *
  omega
 have j2:k8o (((p0*18446744073709551616+p1)/p2:Int),((p0*18446744073709551616+p1)%p2:Int),()) ((p2*P:Int),(s:Int),a,b,U,(L/4294967296:Int),(L%4294967296:Int),Q1,()):=by
  have e1:=hw (Q:=Q1*(p2*P)) (R:=U*4294967296+L/4294967296) hr1.1 hr1.2.1 (by omega) U (by omega)
  rw[show U*4294967296+L/4294967296-U*4294967296=L/4294967296 by omega]at e1
  refine k196 ?_
  simp only[e1]
  have hd:=Int.emod_add_mul_ediv R1 a
  have hd1:=Int.emod_nonneg R1 (by omega:a≠0)
  have hd2:=Int.emod_lt_of_pos R1 (by omega:0<a)
  have hd3:0≤R1/a:=Int.ediv_nonneg hr1.2.1 (by omega)
  rw[Int.mul_comm]at hd
  have hd5:0≤R1/a*a:=Int.mul_nonneg hd3 (by omega)
  have hd4:=aux hQ0 (by omega) (q:=R1/a) (r:=R1%a) (by omega) (init hQ0) hd1
  rw[tdiv_nn _ _ hr1.2.1,wu (R1/a) (by omega) (by omega),wu (R1/a*a) (by omega) (by omega),show R1-R1/a*a=R1%a by omega,wu (R1%a) (by omega) (by omega)]
  refine⟨by omega,?_⟩
  refine k1dp (fun r q=>q*a+r=R1∧Q0≤q∧0≤r∧r<4294967296) (fun r q=>q.toNat) ⟨by omega,init hQ0,hd1,by omega⟩ ?_
  rintro r q ⟨g1,g2,g3,g4⟩
  have g5:=aux hQ0 (by omega) g1 g2 g3
  have j3:∀nx,(Q0≤q-1)→(r+a<4294967296→nx ((p2*P:Int),(s:Int),a,b,(L%4294967296:Int),Q1,(r+a:Int),R1,(q-1:Int),()))→k8p (((p0*18446744073709551616+p1)/p2:Int),((p0*18446744073709551616+p1)%p2:Int),()) nx ((p2*P:Int),(s:Int),a,b,(L%4294967296:Int),Q1,r,R1,q,()):=by
   intro nx hq hnx
   refine k18o ?_
   rw[wu (q-1) (by omega) (by omega),wu (r+a) (by omega) (by omega)]
   refine⟨fun hd=> ?_,fun hd=>hnx (by simpa using hd)⟩
   have hd:4294967296≤r+a:=of_decide_eq_true hd
   rw[hQ0.done (q:=q-1) (r:=r+a) (by grind) hq hd]
   exact j4
  have nxt:Q0≤q-1→r+a<4294967296→((q-1)*a+(r+a)=R1∧Q0≤q-1∧0≤r+a∧r+a<4294967296)∧(q-1).toNat<q.toNat:=fun h1 h2=>⟨⟨by grind,h1,by omega,h2⟩,by omega⟩
  refine⟨fun hd=>j3 _ (hQ0.down g1 (.inl (of_decide_eq_true hd))) fun h1=> ?_,fun hd=> ?_⟩
  ·obtain⟨n1,n2⟩:=nxt (hQ0.down g1 (.inl (of_decide_eq_true hd))) h1
   exact⟨⟨⟨rfl,rfl,rfl,rfl,rfl,rfl,rfl⟩,n1⟩,n2⟩
  ·have hd:q<4294967296:=by simpa using hd
   have hqb:0≤q*b∧q*b<18446744073709551616:=by
    have:=hQ0.hb
    have h1:q*b≤4294967295*4294967295:=Int.mul_le_mul (by omega) (by omega) (by omega) (by omega)
    exact⟨Int.mul_nonneg (by omega) (by omega),by omega⟩
   have:=hQ0.hx
   rw[wu (q*b) (by omega) (by omega),wu (4294967296*r) (by omega) (by omega),wu (4294967296*r+L%4294967296) (by omega) (by omega)]
   refine⟨fun ht=> ?_,fun ht=> ?_⟩
   ·have ht:4294967296*r+L%4294967296<q*b:=of_decide_eq_true ht
    have hdn:=hQ0.down g1 (.inr (by omega))
    refine j3 _ hdn fun h1=> ?_
    obtain⟨n1,n2⟩:=nxt hdn h1
    exact⟨⟨⟨rfl,rfl,rfl,rfl,rfl,rfl,rfl⟩,n1⟩,n2⟩
   ·have ht:¬(4294967296*r+L%4294967296<q*b):=of_decide_eq_false ht
    rw[hQ0.exit g1 g2 (by omega)]
    exact j4
 have hd:=Int.emod_add_mul_ediv U a
 have hd1:=Int.emod_nonneg U (by omega:a≠0)
 have hd2:=Int.emod_lt_of_pos U (by omega:0<a)
 have hd3:0≤U/a:=Int.ediv_nonneg (by omega) (by omega)
 rw[Int.mul_comm]at hd
 have hd5:0≤U/a*a:=Int.mul_nonneg hd3 (by omega)
 have hd4:=aux hQ1 (by omega) (q:=U/a) (r:=U%a) (by omega) (init hQ1) hd1
 rw[tdiv_nn _ _ (by omega),wu (U/a) (by omega) (by omega),wu (U/a*a) (by omega) (by omega),show U-U/a*a=U%a by omega,wu (U%a) (by omega) (by omega)]
 refine⟨⟨by omega,h2.2⟩,by omega,by omega,by omega,by omega,by omega,?_⟩
 refine k1df (fun q r=>q*a+r=U∧Q1≤q∧0≤r∧r<4294967296) (fun q r=>q.toNat) ⟨by omega,init hQ1,hd1,by omega⟩ ?_
 rintro q r ⟨g1,g2,g3,g4⟩
 have g5:=aux hQ1 (by omega) g1 g2 g3
 have j1:∀nx,(Q1≤q-1)→(r+a<4294967296→nx ((p2*P:Int),(s:Int),a,b,U,(L/4294967296:Int),(L%4294967296:Int),(q-1:Int),(r+a:Int),()))→k8m (((p0*18446744073709551616+p1)/p2:Int),((p0*18446744073709551616+p1)%p2:Int),()) nx ((p2*P:Int),(s:Int),a,b,U,(L/4294967296:Int),(L%4294967296:Int),q,r,()):=by
  intro nx hq hnx
  refine k19g ?_
  rw[wu (q-1) (by omega) (by omega),wu (r+a) (by omega) (by omega)]
  refine⟨fun hd=> ?_,fun hd=>hnx (by simpa using hd)⟩
  have hd:4294967296≤r+a:=of_decide_eq_true hd
  rw[hQ1.done (q:=q-1) (r:=r+a) (by grind) hq hd]
  exact j2
 have nxt:Q1≤q-1→r+a<4294967296→((q-1)*a+(r+a)=U∧Q1≤q-1∧0≤r+a∧r+a<4294967296)∧(q-1).toNat<q.toNat:=fun h1 h2=>⟨⟨by grind,h1,by omega,h2⟩,by omega⟩
 refine⟨fun hd=>j1 _ (hQ1.down g1 (.inl (of_decide_eq_true hd))) fun h1=> ?_,fun hd=> ?_⟩
 ·obtain⟨n1,n2⟩:=nxt (hQ1.down g1 (.inl (of_decide_eq_true hd))) h1
  exact⟨⟨⟨rfl,rfl,rfl,rfl,rfl,rfl,rfl⟩,n1⟩,n2⟩
 ·have hd:q<4294967296:=by simpa using hd
  have hqb:0≤q*b∧q*b<18446744073709551616:=by
   have:=hQ1.hb
   have h1:q*b≤4294967295*4294967295:=Int.mul_le_mul (by omega) (by omega) (by omega) (by omega)
   exact⟨Int.mul_nonneg (by omega) (by omega),by omega⟩
  have:=hQ1.hx
  rw[wu (q*b) (by omega) (by omega),wu (4294967296*r) (by omega) (by omega),wu (4294967296*r+L/4294967296) (by omega) (by omega)]
  refine⟨fun ht=> ?_,fun ht=> ?_⟩
  ·have ht:4294967296*r+L/4294967296<q*b:=of_decide_eq_true ht
   have hdn:=hQ1.down g1 (.inr (by omega))
   refine j1 _ hdn fun h1=> ?_
   obtain⟨n1,n2⟩:=nxt hdn h1
   exact⟨⟨⟨rfl,rfl,rfl,rfl,rfl,rfl,rfl⟩,n1⟩,n2⟩
  ·have ht:¬(4294967296*r+L/4294967296<q*b):=of_decide_eq_false ht
   rw[hQ1.exit g1 g2 (by omega)]
   exact j2
noncomputable def kmj:Con TB.den:=k1w.fnR (fun x=>(fun(p0:Int) (p1:Int) (p2:Int)=>U64 p0∧U64 p1∧U64 p2∧p0<p2) x.1 x.2.1 x.2.2.1) fun x=>((fun(p0:Int) (p1:Int) (p2:Int)=>(((p0*18446744073709551616+p1)/p2):Int)) x.1 x.2.1 x.2.2.1,(fun(p0:Int) (p1:Int) (p2:Int)=>(((p0*18446744073709551616+p1)%p2):Int)) x.1 x.2.1 x.2.2.1,())
theorem k106:kmj.Ok Try.prog TB:=Con.ok_fn k1w bd125 fun x h=>k1dk (k1ca x.1 x.2.1 x.2.2.1 h)
def k46:Con TB.den:=Con.mk0 124 [.one (.d (.int .u64)),.one (.d (.int .u64))] [] (.tup [.one (.d (.int .u64)),.one (.d (.int .u64))]) []
abbrev k13i:=HL TB.den (hsT k46.ins (hsOs k46.pre))
abbrev kjv:=HL TB.den (hsV k46.res (hsOs k46.post))
noncomputable def kdh:Cx TB:=⟨inf,[],[],4,[]⟩
noncomputable def kkj:Code:=Try.f124.body.getD .skip
noncomputable def kp9:List ResultVar:=Try.f124.results.toList
noncomputable def kzy (o:kjv):An TB:= .no
def kk4 (x:k13i) (o:kjv):Prop:=WPh TB kdh 51 0 kkj (kzy o) (k46.st TB x) (retTQ TB kdh k46 kp9 o)
theorem k1e2 (o:kjv):OblH TB kdh 51 0 kkj (kzy o) (retTQ TB kdh k46 kp9 o):=
 OblH.ofC (X:=True) (by kernel_rfl) trivial
theorem k1cz {x:k13i} {o:kjv} (h:kk4 x o):k46.Snd Try.prog x o:=
 Con.soundH (c:=k46) (C:=kdh) TBok ⟨inf_ok,all_nil,all_nil⟩ mix Try.func124 (show Try.f124.body=some kkj by kernel_rfl) (show Try.f124.ntmps=51 by kernel_rfl) (show Try.f124.results.toList=kp9 by kernel_rfl) rfl h (k1e2 o)
theorem k1he {p0:Int} {p1:Int} {r0:Int} {r1:Int} (h:
(let v2:Int:=IntKind.u64.wrap ((iand .u64 p0 4294967295)*(iand .u64 p1 4294967295))
 let v3:Int:=IntKind.u64.wrap ((ishr .u64 p0 32)*(iand .u64 p1 4294967295))
 let v4:Int:=IntKind.u64.wrap (v3+(ishr .u64 v2 32))
 let v5:Int:=IntKind.u64.wrap ((iand .u64 p0 4294967295)*(ishr .u64 p1 32))
 let v6:Int:=IntKind.u64.wrap ((iand .u64 v4 4294967295)+v5)
 let v7:Int:=IntKind.u64.wrap ((ishr .u64 p0 32)*(ishr .u64 p1 32))
 let v8:Int:=IntKind.u64.wrap (v7+(ishr .u64 v4 32))
 let v9:Int:=IntKind.u64.wrap (v8+(ishr .u64 v6 32))
 v9=r0∧IntKind.u64.wrap (p0*p1)=r1)):kk4 (p0,p1,()) (r0,r1,()):=WPh.of_eq (by kernel_rfl) h
theorem bd124:Callable Try.prog 124:=⟨by rw[Try.func124];kernel_rfl,by rw[Try.func124];show some _≠some _;decide⟩
theorem k19u (p0:Int) (p1:Int) (h:U64 p0∧U64 p1):kk4 (p0,p1,()) (((p0*p1/18446744073709551616):Int),((p0*p1%18446744073709551616):Int),()):=by
 obtain⟨h0,h1⟩:=h
 have k:=k1qg p0 p1 h0 h1
 refine k1he ?_
 simp only[khk p0 h0,khk p1 h1,ishr32]
 obtain⟨e,k1,k2,k3,k4,k5,k6,k7,k8⟩:=k
 rw[←e]
 rw[wu (p0%4294967296*(p1%4294967296)) (by omega) (by omega),wu (p0/4294967296*(p1%4294967296)) (by omega) (by omega),wu (p0%4294967296*(p1/4294967296)) (by omega) (by omega),wu (p0/4294967296*(p1/4294967296)) (by omega) (by omega)]
 generalize p0%4294967296*(p1%4294967296)=a at *
 generalize p0/4294967296*(p1%4294967296)=b at *
 generalize p0%4294967296*(p1/4294967296)=c at *
 generalize p0/4294967296*(p1/4294967296)=d at *
 rw[wu (b+a/4294967296) (by omega) (by omega),khk _ (by omega)]
 simp only[u64w]
 refine⟨?_,trivial⟩
 omega
noncomputable def kn7:Con TB.den:=k46.fnR (fun x=>(fun(p0:Int) (p1:Int)=>U64 p0∧U64 p1) x.1 x.2.1) fun x=>((fun(p0:Int) (p1:Int)=>((p0*p1/18446744073709551616):Int)) x.1 x.2.1,(fun(p0:Int) (p1:Int)=>((p0*p1%18446744073709551616):Int)) x.1 x.2.1,())
theorem kz5:kn7.Ok Try.prog TB:=Con.ok_fn k46 bd124 fun x h=>k1cz (k19u x.1 x.2.1 h)
def k6x:Con TB.den:=Con.mk0 115 [.one (.d (.int .u64)),.one (.d (.int .u64)),.one (.d (.int .u64))] [] (.one (.one (.d (.int .u64)))) []
abbrev k1fj:=HL TB.den (hsT k6x.ins (hsOs k6x.pre))
abbrev kt3:=HL TB.den (hsV k6x.res (hsOs k6x.post))
noncomputable def kkn:Cx TB:=⟨inf,[k8h,kn7,kmj],[],4,[]⟩
noncomputable def kr7:Code:=Try.f115.body.getD .skip
noncomputable def kx7:List ResultVar:=Try.f115.results.toList
noncomputable def k1a8 (o:kt3):An TB:= .no
def krp (x:k1fj) (o:kt3):Prop:=WPh TB kkn 32 0 kr7 (k1a8 o) (k6x.st TB x) (retTQ TB kkn k6x kx7 o)
theorem k1mx (o:kt3):OblH TB kkn 32 0 kr7 (k1a8 o) (retTQ TB kkn k6x kx7 o):=
 OblH.ofC (X:=True) (by kernel_rfl) trivial
theorem k1mn {x:k1fj} {o:kt3} (h:krp x o):k6x.Snd Try.prog x o:=
 Con.soundH (c:=k6x) (C:=kkn) TBok ⟨inf_ok,(all_cons kbs (all_cons kz5 (all_cons k106 all_nil))),all_nil⟩ mix Try.func115 (show Try.f115.body=some kr7 by kernel_rfl) (show Try.f115.ntmps=32 by kernel_rfl) (show Try.f115.results.toList=kx7 by kernel_rfl) rfl h (k1mx o)
theorem k1oc {p0:Int} {p1:Int} {p2:Int} {r0:Int} (h:
((p0=18446744069414584321)∧((!true)=true→
 0=r0)∧
((!true)=false→
(p0≠0)∧(p0≠0)∧(U64 (Int.tmod p1 p0)∧U64 (Int.tmod p2 p0))∧let r1:Int:=((Int.tmod p1 p0)*(Int.tmod p2 p0)/18446744073709551616)
 let r2:Int:=((Int.tmod p1 p0)*(Int.tmod p2 p0)%18446744073709551616)
(U64 r1∧U64 r2∧U64 p0∧r1<p0)∧((r1*18446744073709551616+r2)%p0)=r0))):krp (p0,p1,p2,()) (r0,()):=WPh.of_eq (by kernel_rfl) h
theorem bd115:Callable Try.prog 115:=⟨by rw[Try.func115];kernel_rfl,by rw[Try.func115];show some _≠some _;decide⟩
theorem k1lp (p0:Int) (p1:Int) (p2:Int) (h:p0=18446744069414584321∧U64 p1∧U64 p2):krp (p0,p1,p2,()) (((p1*p2%18446744069414584321):Int),()):=by
 obtain⟨rfl,h1,h2⟩:=h
 refine k1oc ⟨rfl,fun h=>by simp at h,fun _=> ?_⟩
 rw[tmod_nn _ _ h1.1,tmod_nn _ _ h2.1,Int.mul_emod p1 p2]
 have a1:0≤p1%18446744069414584321∧p1%18446744069414584321<18446744069414584321:=by omega
 have a2:0≤p2%18446744069414584321∧p2%18446744069414584321<18446744069414584321:=by omega
 generalize p1%18446744069414584321=a at *
 generalize p2%18446744069414584321=b at *
 have h3:0≤a*b:=Int.mul_nonneg a1.1 a2.1
 have h4:a*b≤18446744069414584320*18446744069414584320:=Int.mul_le_mul (by omega) (by omega) a2.1 (by omega)
 generalize a*b=m at *
 refine⟨by omega,by omega,⟨⟨by omega,by omega⟩,⟨by omega,by omega⟩⟩,⟨⟨by omega,by omega⟩,⟨by omega,by omega⟩,⟨by omega,by omega⟩,by omega⟩,?_⟩
 rw[show m/18446744073709551616*18446744073709551616+m%18446744073709551616=m by omega]
noncomputable def kul:Con TB.den:=k6x.fnR (fun x=>(fun(p0:Int) (p1:Int) (p2:Int)=>p0=18446744069414584321∧U64 p1∧U64 p2) x.1 x.2.1 x.2.2.1) fun x=>((fun(p0:Int) (p1:Int) (p2:Int)=>((p1*p2%18446744069414584321):Int)) x.1 x.2.1 x.2.2.1,())
theorem k1c4:kul.Ok Try.prog TB:=Con.ok_fn k6x bd115 fun x h=>k1mn (k1lp x.1 x.2.1 x.2.2.1 h)
def k2v:Con TB.den:=Con.mk0 128 [.one (.d (.int .u64))] [] (.one (.one (.d (.int .u64)))) []
abbrev kw0:=HL TB.den (hsT k2v.ins (hsOs k2v.pre))
abbrev kgb:=HL TB.den (hsV k2v.res (hsOs k2v.post))
noncomputable def kav:Cx TB:=⟨inf,[kuf],[],4,[]⟩
noncomputable def kgy:Code:=Try.f128.body.getD .skip
noncomputable def kko:List ResultVar:=Try.f128.results.toList
noncomputable def ktn (o:kgb):An TB:= .no
def kh0 (x:kw0) (o:kgb):Prop:=WPh TB kav 6 0 kgy (ktn o) (k2v.st TB x) (retTQ TB kav k2v kko o)
theorem k17p (o:kgb):OblH TB kav 6 0 kgy (ktn o) (retTQ TB kav k2v kko o):=
 OblH.ofC (X:=True) (by kernel_rfl) trivial
theorem k184 {x:kw0} {o:kgb} (h:kh0 x o):k2v.Snd Try.prog x o:=
 Con.soundH (c:=k2v) (C:=kav) TBok ⟨inf_ok,(all_cons k1b3 all_nil),all_nil⟩ mix Try.func128 (show Try.f128.body=some kgy by kernel_rfl) (show Try.f128.ntmps=6 by kernel_rfl) (show Try.f128.results.toList=kko by kernel_rfl) rfl h (k17p o)
theorem k1bg {p0:Int} {r0:Int} (h:
((p0=18446744069414584321)∧7=r0)):kh0 (p0,()) (r0,()):=WPh.of_eq (by kernel_rfl) h
theorem bd128:Callable Try.prog 128:=⟨by rw[Try.func128];kernel_rfl,by rw[Try.func128];show some _≠some _;decide⟩
theorem k164 (p0:Int) (h:p0=18446744069414584321):kh0 (p0,()) ((7:Int),()):=by
 exact k1bg ⟨h,rfl⟩
noncomputable def kr5:Con TB.den:=k2v.fnR (fun x=>(fun(p0:Int)=>p0=18446744069414584321) x.1) fun x=>((fun(p0:Int)=>(7:Int)) x.1,())
theorem k1aj:kr5.Ok Try.prog TB:=Con.ok_fn k2v bd128 fun x h=>k184 (k164 x.1 h)
def k6a:Con TB.den:=Con.mk0 126 [.one (.d (.int .u64)),.one (.d (.int .u64)),.one (.d (.int .u64))] [] (.one (.one (.d (.int .u64)))) []
abbrev k1ff:=HL TB.den (hsT k6a.ins (hsOs k6a.pre))
abbrev k75:=HL TB.den (hsV k6a.res (hsOs k6a.post))
noncomputable def k99:Cx TB:=⟨inf,[k8h,kul],[],4,[]⟩
noncomputable def kc4:Code:=Try.f126.body.getD .skip
noncomputable def kq8:List ResultVar:=Try.f126.results.toList
def k1ao (o:k75):=qS TB k99 30 0 (cB (cB (cB (cB (cB kc4))))) .no (retTQ TB k99 k6a kq8 o)
def k5i:Tm:=⟨[],[],[0,1,2,7],[.one (.d (.int .u64)),.one (.d (.int .u64)),.one (.d (.int .u64)),.one (.d (.int .u64))],0⟩
def k1o2 (o:k75) (nx1:NX TB k5i):=blockT TB 1 (qM TB 0 k5i nx1 (blockT TB 0 (k1ao o)))
def kng:Tm:=⟨[],[],[0,1,2,7],[.one (.d (.int .u64)),.one (.d (.int .u64)),.one (.d (.int .u64)),.one (.d (.int .u64))],0⟩
def k17e (o:k75) (nx1:NX TB k5i) (i:HL TB.den kng.hs):Prop:=ghs TB [] (kng.fill TB i) fun s=>WP TB k99 30 0 (cB (cA (cB (cA (cA (cA (cB (cB (cB (cB kc4)))))))))) .no s (k1o2 o nx1)
structure kge (o:k75) (nx1:NX TB k5i) (i:HL TB.den kng.hs):Prop where
 h:k17e o nx1 i
noncomputable def k1b6 (o:k75) (nx1:NX TB k5i):An TB:= .nd [] .no [] (.jn kng (kge o nx1) [] .no [] .no)
def kkh (o:k75) (nx1:NX TB k5i) (i:HL TB.den k5i.hs):Prop:=WP TB k99 30 0 (cA (cA (cA (cB (cB (cB (cB kc4))))))) (k1b6 o nx1) (k5i.fill TB i) (qM TB 0 k5i nx1 (blockT TB 0 (k1ao o)))
noncomputable def k1oa (o:k75):An TB:= .lp [] k5i (kkh o) fun nx1=>(k1b6 o nx1)
noncomputable def k1o5 (o:k75):An TB:= .nd [] .no [] (.nd [] .no [] (.nd [] .no [] (.nd [] (k1oa o) [] .no)))
noncomputable def k1b2 (o:k75):An TB:= .nd [] .no [] (k1o5 o)
def krz (x:k1ff) (o:k75):Prop:=WPh TB k99 30 0 kc4 (k1b2 o) (k6a.st TB x) (retTQ TB k99 k6a kq8 o)
theorem k1n5 (o:k75):OblH TB k99 30 0 kc4 (k1b2 o) (retTQ TB k99 k6a kq8 o):=
 OblH.ofC (X:=((∀nx i,(kkh o) nx i=(kkh o) nx i)∧(∀nx1:NX TB k5i,((∀i,(kge o nx1) i=k17e o nx1 i)∧True))∧True)) (by kernel_rfl) ⟨fun _ _=>rfl,fun _=>⟨fun _=>propext ⟨fun h=>h.1,fun h=>⟨h⟩⟩,trivial⟩,trivial⟩
theorem k1n4 {x:k1ff} {o:k75} (h:krz x o):k6a.Snd Try.prog x o:=
 Con.soundH (c:=k6a) (C:=k99) TBok ⟨inf_ok,(all_cons kbs (all_cons k1c4 all_nil)),all_nil⟩ mix Try.func126 (show Try.f126.body=some kc4 by kernel_rfl) (show Try.f126.ntmps=30 by kernel_rfl) (show Try.f126.results.toList=kq8 by kernel_rfl) rfl h (k1n5 o)
theorem k1o8 {p0:Int} {p1:Int} {p2:Int} {r0:Int} (h:
((p0=18446744069414584321)∧((!true)=true→
 0=r0)∧
((!true)=false→
(p0≠0)∧Md.Loop (p0,(Int.tmod p1 p0:Int),p2,(1:Int),()) (kkh (r0,()))))):krz (p0,p1,p2,()) (r0,()):=WPh.of_eq (by kernel_rfl) h
theorem k1i8 {r0:Int} {nx1:NX TB k5i} {s0:Int} {s1:Int} {s2:Int} {s7:Int} (h:
((s0=18446744069414584321∧U64 s1∧U64 s1)∧nx1 (s0,((s1*s1%18446744069414584321):Int),(IntKind.u64.wrap (Int.tdiv s2 2):Int),s7,()))):kge (r0,()) nx1 (s0,s1,s2,s7,()):=⟨mpr_of (by kernel_rfl) h⟩
def k1ac (r0:Int) (nx1:NX TB k5i) (k1:Int→Int→Int→Prop) (s0:Int) (s1:Int) (s2:Int) (s7:Int):Prop:=
(decide (0<s2)=true→
(((Int.tmod s2 2)==1)=true→
(s0=18446744069414584321∧U64 s7∧U64 s1)∧kge (r0,()) nx1 (s0,s1,s2,((s7*s1%18446744069414584321):Int),()))∧
(((Int.tmod s2 2)==1)=false→
 kge (r0,()) nx1 (s0,s1,s2,s7,())))∧
(decide (0<s2)=false→
 s7=r0)
theorem k1n2 {r0:Int} {s0:Int} {s1:Int} {s2:Int} {s7:Int} (inv:Int→Int→Int→Prop) (μ:Int→Int→Int→Nat) (h0:inv s1 s2 s7) (hs:∀(s1:Int) (s2:Int) (s7:Int),inv s1 s2 s7→k1ac r0 (fun s:Int×Int×Int×Int×Unit=>((s.1=s0)∧inv s.2.1 s.2.2.1 s.2.2.2.1)∧μ s.2.1 s.2.2.1 s.2.2.2.1<μ s1 s2 s7) (fun s1q s2q s7q=>inv s1q s2q s7q∧μ s1q s2q s7q<μ s1 s2 s7) s0 s1 s2 s7):Md.Loop (s0,s1,s2,s7,()) (kkh (r0,())):=
 ⟨⟨fun s:Int×Int×Int×Int×Unit=>(s.1=s0)∧inv s.2.1 s.2.2.1 s.2.2.2.1,fun s:Int×Int×Int×Int×Unit=>μ s.2.1 s.2.2.1 s.2.2.2.1,⟨rfl,h0⟩,fun(s0p,s1p,s2p,s7p,()) ⟨eq0,hi⟩=>by
  have eq0:s0p=s0:=eq0;subst s0p;exact mpr_of (by kernel_rfl) ((congrArg (fun k=>k1ac r0 (fun s:Int×Int×Int×Int×Unit=>((s.1=s0)∧inv s.2.1 s.2.2.1 s.2.2.2.1)∧μ s.2.1 s.2.2.1 s.2.2.2.1<μ s1p s2p s7p) k s0 s1p s2p s7p) (lpk3 (rfl:s0=s0) inv (fun s1q s2q s7q=>μ s1q s2q s7q<μ s1p s2p s7p))).mpr (hs s1p s2p s7p hi))⟩⟩
theorem bd126:Callable Try.prog 126:=⟨by rw[Try.func126];kernel_rfl,by rw[Try.func126];show some _≠some _;decide⟩
theorem k1iq (p0:Int) (p1:Int) (p2:Int) (h:p0=18446744069414584321∧U64 p1∧U64 p2):krz (p0,p1,p2,()) (((pw p1 p2):Int),()):=by
 obtain⟨rfl,h1,h2⟩:=h
 refine k1o8 ⟨rfl,fun h=>by simp at h,fun _=>⟨by omega,?_⟩⟩
 rw[tmod_nn _ _ h1.1]
 refine k1n2 (fun a e r=>(0≤a∧a<18446744069414584321)∧U64 e∧(0≤r∧r<18446744069414584321)∧(r*a^e.toNat)%18446744069414584321=pw p1 p2) (fun a e r=>e.toNat) ⟨by omega,h2,by omega,by rw[Int.one_mul,kxa];rfl⟩ ?_
 rintro a e r ⟨ha,he,hr,hv⟩
 have hpow:∀k:Nat,a^(2*k)=(a*a)^k:=fun k=>by rw[Int.pow_mul];congr 1;rw[Int.pow_succ,Int.pow_succ,Int.pow_zero,Int.one_mul]
 have jj:∀nx r',(0≤r'∧r' <18446744069414584321)→0<e→(r' *(a*a)^(e/2).toNat)%18446744069414584321=pw p1 p2→(∀a',(0≤a'∧a' <18446744069414584321)→r' *a' ^(e/2).toNat%18446744069414584321=pw p1 p2→nx ((18446744069414584321:Int),a',(e/2:Int),r',()))→kge ((pw p1 p2:Int),()) nx ((18446744069414584321:Int),a,e,r',()):=by
  intro nx r' hr' he' hv' hn
  refine k1i8 ⟨⟨rfl,by omega,by omega⟩,?_⟩
  rw[tdiv_nn _ _ he.1,wu (e/2) (by omega) (by omega)]
  refine hn _ ⟨Int.emod_nonneg _ (by omega),Int.emod_lt_of_pos _ (by omega)⟩ ?_
  rw[←hv',Int.mul_emod,Int.mul_emod r' ((a*a)^_),kxa]
 refine⟨fun h=> ?_,fun h=> ?_⟩
 ·have h:=of_decide_eq_true h
  rw[tmod_nn _ _ he.1]
  have nxt:∀a' r',(0≤a'∧a' <18446744069414584321)→(0≤r'∧r' <18446744069414584321)→r' *a' ^(e/2).toNat%18446744069414584321=pw p1 p2→((0≤a'∧a' <18446744069414584321)∧U64 (e/2)∧(0≤r'∧r' <18446744069414584321)∧r' *a' ^(e/2).toNat%18446744069414584321=pw p1 p2)∧(e/2).toNat<e.toNat:=fun a' r' h1 h2 h3=>⟨⟨h1,⟨by omega,by omega⟩,h2,h3⟩,by omega⟩
  refine⟨fun h1=>⟨⟨rfl,by omega,by omega⟩,?_⟩,fun h1=> ?_⟩
  ·have h1:e%2=1:=by simpa using h1
   refine jj _ _ ⟨Int.emod_nonneg _ (by omega),Int.emod_lt_of_pos _ (by omega)⟩ h ?_ fun a' ha' hv' =>⟨⟨rfl,(nxt a' _ ha' ⟨Int.emod_nonneg _ (by omega),Int.emod_lt_of_pos _ (by omega)⟩ hv').1⟩,(nxt a' _ ha' ⟨Int.emod_nonneg _ (by omega),Int.emod_lt_of_pos _ (by omega)⟩ hv').2⟩
   rw[←hv,show e.toNat=2*(e/2).toNat+1 by omega,Int.pow_succ,hpow,Int.mul_emod,Int.emod_emod_of_dvd _ (Int.dvd_refl _),←Int.mul_emod]
   congr 1
   grind
  ·have h1:¬e%2=1:=by simpa using h1
   refine jj _ _ hr h ?_ fun a' ha' hv' =>⟨⟨rfl,(nxt a' _ ha' hr hv').1⟩,(nxt a' _ ha' hr hv').2⟩
   rw[←hv,←hpow,show e.toNat=2*(e/2).toNat by omega]
 ·have h:¬0<e:=of_decide_eq_false h
  rw[show e.toNat=0 by omega,Int.pow_zero,Int.mul_one,Int.emod_eq_of_lt hr.1 hr.2]at hv
  exact hv
noncomputable def k173:Con TB.den:=k6a.fnR (fun x=>(fun(p0:Int) (p1:Int) (p2:Int)=>p0=18446744069414584321∧U64 p1∧U64 p2) x.1 x.2.1 x.2.2.1) fun x=>((fun(p0:Int) (p1:Int) (p2:Int)=>((pw p1 p2):Int)) x.1 x.2.1 x.2.2.1,())
theorem k1ob:k173.Ok Try.prog TB:=Con.ok_fn k6a bd126 fun x h=>k1n4 (k1iq x.1 x.2.1 x.2.2.1 h)
def k2w:Con TB.den:=Con.mk0 127 [.one (.d (.int .u64)),.one (.d (.int .i64)),.one (.d (.int .i64))] [] (.one (.one (.d (.int .u64)))) []
abbrev kws:=HL TB.den (hsT k2w.ins (hsOs k2w.pre))
abbrev kg7:=HL TB.den (hsV k2w.res (hsOs k2w.post))
noncomputable def kay:Cx TB:=⟨inf,[k8h],[],4,[]⟩
noncomputable def kh1:Code:=Try.f127.body.getD .skip
noncomputable def kkm:List ResultVar:=Try.f127.results.toList
noncomputable def ktt (o:kg7):An TB:= .no
def kgw (x:kws) (o:kg7):Prop:=WPh TB kay 35 0 kh1 (ktt o) (k2w.st TB x) (retTQ TB kay k2w kkm o)
theorem k18p (o:kg7):OblH TB kay 35 0 kh1 (ktt o) (retTQ TB kay k2w kkm o):=
 OblH.ofC (X:=True) (by kernel_rfl) trivial
theorem k17o {x:kws} {o:kg7} (h:kgw x o):k2w.Snd Try.prog x o:=
 Con.soundH (c:=k2w) (C:=kay) TBok ⟨inf_ok,(all_cons kbs all_nil),all_nil⟩ mix Try.func127 (show Try.f127.body=some kh1 by kernel_rfl) (show Try.f127.ntmps=35 by kernel_rfl) (show Try.f127.results.toList=kkm by kernel_rfl) rfl h (k18p o)
theorem k1av {p0:Int} {p1:Int} {p2:Int} {r0:Int} (h:
((p0=18446744069414584321)∧((!true)=true→
 0=r0)∧
((!true)=false→
(decide (p1<0)=true→
 0=r0)∧
(decide (p1<0)=false→
(decide (7<p1)=true→
 0=r0)∧
(decide (7<p1)=false→
(decide (p2<0)=true→
 0=r0)∧
(decide (p2<0)=false→
(decide (2<p2)=true→
 0=r0)∧
(decide (2<p2)=false→
 let v1:Int:=IntKind.i64.wrap ((IntKind.i64.wrap (3*p1))+p2)
 let v2:Int:=IntKind.u64.wrap (IntKind.i64.wrap (v1+1))
 let v3:Int:=IntKind.u64.wrap (v2*11400714819323198485)
(p0≠0)∧Int.tmod v3 p0=r0))))))):kgw (p0,p1,p2,()) (r0,()):=WPh.of_eq (by kernel_rfl) h
theorem bd127:Callable Try.prog 127:=⟨by rw[Try.func127];kernel_rfl,by rw[Try.func127];show some _≠some _;decide⟩
theorem k165 (p0:Int) (p1:Int) (p2:Int) (h:p0=18446744069414584321∧(0≤p1∧p1<8)∧0≤p2∧p2<3):kgw (p0,p1,p2,()) (((rc p1 p2):Int),()):=by
 obtain⟨rfl,h1,h2⟩:=h
 refine k1av ⟨rfl,fun h=>by simp at h,fun _=>⟨fun h=> ?_,fun _=>⟨fun h=> ?_,fun _=>⟨fun h=> ?_,fun _=>⟨fun h=> ?_,fun _=> ?_⟩⟩⟩⟩⟩
 ·simp at h;omega
 ·simp at h;omega
 ·simp at h;omega
 ·simp at h;omega
 ·simp only[]
  rw[wi (3*p1) (by omega) (by omega),wi (3*p1+p2) (by omega) (by omega),wi (3*p1+p2+1) (by omega) (by omega),wu (3*p1+p2+1) (by omega) (by omega),u64w]
  exact⟨by omega,by rw[tmod_nn _ _ (by omega)];rfl⟩
noncomputable def kqt:Con TB.den:=k2w.fnR (fun x=>(fun(p0:Int) (p1:Int) (p2:Int)=>p0=18446744069414584321∧(0≤p1∧p1<8)∧0≤p2∧p2<3) x.1 x.2.1 x.2.2.1) fun x=>((fun(p0:Int) (p1:Int) (p2:Int)=>((rc p1 p2):Int)) x.1 x.2.1 x.2.2.1,())
theorem k1a1:kqt.Ok Try.prog TB:=Con.ok_fn k2w bd127 fun x h=>k17o (k165 x.1 x.2.1 x.2.2.1 h)
def k6c:Con TB.den:=Con.mk0 135 [.one (.d (.int .u64)),.one (.d (.sl (.int .u64)))] [] (.one (.one (.d (.int .u64)))) []
abbrev k1f7:=HL TB.den (hsT k6c.ins (hsOs k6c.pre))
abbrev kfv:=HL TB.den (hsV k6c.res (hsOs k6c.post))
noncomputable def kam:Cx TB:=⟨inf,[khj],[],4,[]⟩
noncomputable def kfr:Code:=Try.f135.body.getD .skip
noncomputable def kqb:List ResultVar:=Try.f135.results.toList
def k1o9 (o:kfv):=qS TB kam 21 0 (cB (cB (cB kfr))) .no (retTQ TB kam k6c kqb o)
def kgf:Tm:=⟨[],[],[0,1,5,6],[.one (.d (.int .u64)),.one (.d (.sl (.int .u64))),.one (.d (.int .u64)),.one (.d (.int .i64))],0⟩
def kl5 (o:kfv) (nx1:NX TB kgf) (i:HL TB.den kgf.hs):Prop:=WP TB kam 21 0 (cA (cA (cB (cA (cB (cB kfr)))))) .no (kgf.fill TB i) (qM TB 0 kgf nx1 (blockT TB 0 (k1o9 o)))
noncomputable def k1nz (o:kfv):An TB:= .nd [] .no [] (.lp [] kgf (kl5 o) fun nx1=> .no)
noncomputable def k19v (o:kfv):An TB:= .nd [] .no [] (.nd [] .no [] (.nd [] (k1nz o) [] .no))
def kqq (x:k1f7) (o:kfv):Prop:=WPh TB kam 21 0 kfr (k19v o) (k6c.st TB x) (retTQ TB kam k6c kqb o)
theorem k1mb (o:kfv):OblH TB kam 21 0 kfr (k19v o) (retTQ TB kam k6c kqb o):=
 OblH.ofC (X:=((∀nx i,(kl5 o) nx i=(kl5 o) nx i)∧(∀nx1:NX TB kgf,True)∧True)) (by kernel_rfl) ⟨fun _ _=>rfl,fun _=>trivial,trivial⟩
theorem k1mt {x:k1f7} {o:kfv} (h:kqq x o):k6c.Snd Try.prog x o:=
 Con.soundH (c:=k6c) (C:=kam) TBok ⟨inf_ok,(all_cons kq9 all_nil),all_nil⟩ mix Try.func135 (show Try.f135.body=some kfr by kernel_rfl) (show Try.f135.ntmps=21 by kernel_rfl) (show Try.f135.results.toList=kqb by kernel_rfl) rfl h (k1mb o)
theorem k1ni {p0:Int} {p1:List Int} {r0:Int} (h:
(Md.Loop (p0,p1,(0:Int),(0:Int),()) (kl5 (r0,())))):kqq (p0,p1,()) (r0,()):=WPh.of_eq (by kernel_rfl) h
def k1a0 (r0:Int) (k1:Int→Int→Prop) (s0:Int) (s1:List Int) (s5:Int) (s6:Int):Prop:=
(decide (s6<(s1.length:Int))=true→
(0≤s6)∧s6<(s1.length:Int)∧(s0=18446744069414584321∧U64 s5∧U64 (ix s1 s6))∧let r1:Int:=((s5+(ix s1 s6))%18446744069414584321)
 k1 r1 (IntKind.i64.wrap (s6+1):Int))∧
(decide (s6<(s1.length:Int))=false→
 s5=r0)
theorem k1ml {r0:Int} {s0:Int} {s1:List Int} {s5:Int} {s6:Int} (inv:Int→Int→Prop) (μ:Int→Int→Nat) (h0:inv s5 s6) (hs:∀(s5:Int) (s6:Int),inv s5 s6→k1a0 r0 (fun s5q s6q=>inv s5q s6q∧μ s5q s6q<μ s5 s6) s0 s1 s5 s6):Md.Loop (s0,s1,s5,s6,()) (kl5 (r0,())):=
 ⟨⟨fun s:Int×(List Int)×Int×Int×Unit=>(s.1=s0∧s.2.1=s1)∧inv s.2.2.1 s.2.2.2.1,fun s:Int×(List Int)×Int×Int×Unit=>μ s.2.2.1 s.2.2.2.1,⟨⟨rfl,rfl⟩,h0⟩,fun(s0p,s1p,s5p,s6p,()) ⟨⟨eq0,eq1⟩,hi⟩=>by
  have eq0:s0p=s0:=eq0;subst s0p;have eq1:s1p=s1:=eq1;subst s1p;exact mpr_of (by kernel_rfl) ((congrArg (fun k=>k1a0 r0 k s0 s1 s5p s6p) (lpk2 (⟨rfl,rfl⟩:s0=s0∧s1=s1) inv (fun s5q s6q=>μ s5q s6q<μ s5p s6p))).mpr (hs s5p s6p hi))⟩⟩
theorem bd135:Callable Try.prog 135:=⟨by rw[Try.func135];kernel_rfl,by rw[Try.func135];show some _≠some _;decide⟩
theorem k1j5 (p0:Int) (p1:List Int) (h:p0=18446744069414584321∧Us p1∧p1.length≤9223372036854775807):kqq (p0,p1,()) (((p1.foldl (fun s x=>(s+x)%18446744069414584321) 0):Int),()):=by
 obtain⟨rfl,h1,h2⟩:=h
 refine k1ni (k1ml (fun s i=>FoldI (fun s x=>(s+x)%18446744069414584321) 0 p1 i s∧U64 s) (fun s i=>(p1.length-i).toNat) ⟨FoldI.start,by omega⟩ ?_)
 rintro s i ⟨hi,hs⟩
 refine⟨fun hh=> ?_,fun hh=>hi.done (of_decide_eq_false hh)⟩
 have hh:=of_decide_eq_true hh
 have hx:=h1 _ (ix_mem p1 i hi.1 hh)
 have nx:=hi.next hh (by omega) rfl
 exact⟨hi.1,hh,⟨rfl,hs,hx⟩,⟨nx.1,by omega⟩,nx.2⟩
noncomputable def k16v:Con TB.den:=k6c.fnR (fun x=>(fun(p0:Int) (p1:List Int)=>p0=18446744069414584321∧Us p1∧p1.length≤9223372036854775807) x.1 x.2.1) fun x=>((fun(p0:Int) (p1:List Int)=>((p1.foldl (fun s x=>(s+x)%18446744069414584321) 0):Int)) x.1 x.2.1,())
theorem k1nt:k16v.Ok Try.prog TB:=Con.ok_fn k6c bd135 fun x h=>k1mt (k1j5 x.1 x.2.1 h)
def k6b:Con TB.den:=Con.mk0 129 [.one (.d (.int .u64)),.agg [.d (.int .u64),.d (.int .u64),.d (.int .u64)]] [] (.one (.agg [.d (.int .u64),.d (.int .u64),.d (.int .u64)])) []
abbrev k1fs:=HL TB.den (hsT k6b.ins (hsOs k6b.pre))
abbrev kfx:=HL TB.den (hsV k6b.res (hsOs k6b.post))
noncomputable def kau:Cx TB:=⟨inf,[k16v,khj],[],4,[]⟩
noncomputable def kfa:Code:=Try.f129.body.getD .skip
noncomputable def kqg:List ResultVar:=Try.f129.results.toList
def k1o3 (o:kfx):=qS TB kau 30 0 (cB (cB (cB (cB kfa)))) .no (retTQ TB kau k6b kqg o)
def kgh:Tm:=⟨[0,1,3],[.cells [.d (.int .u64),.d (.int .u64),.d (.int .u64)],.cells [.d (.int .u64),.d (.int .u64),.d (.int .u64)],.cells [.d (.int .u64),.d (.int .u64),.d (.int .u64)]],[0,3,4,5,6,7],[.one (.d (.int .u64)),.one (.ptr 0 0),.one (.ptr 1 0),.one (.d (.int .u64)),.one (.ptr 2 0),.one (.d (.int .i64))],4⟩
def kku (o:kfx) (nx1:NX TB kgh) (i:HL TB.den kgh.hs):Prop:=WP TB kau 30 0 (cA (cA (cB (cA (cB (cB (cB kfa))))))) .no (kgh.fill TB i) (qM TB 0 kgh nx1 (blockT TB 0 (k1o3 o)))
noncomputable def k1nh (o:kfx):An TB:= .nd [] .no [] (.lp [] kgh (kku o) fun nx1=> .no)
noncomputable def k1c8 (o:kfx):An TB:= .nd [] .no [] (.nd [] .no [] (.nd [] .no [] (.nd [] (k1nh o) [] .no)))
def kqz (x:k1fs) (o:kfx):Prop:=WPh TB kau 30 0 kfa (k1c8 o) (k6b.st TB x) (retTQ TB kau k6b kqg o)
theorem k1na (o:kfx):OblH TB kau 30 0 kfa (k1c8 o) (retTQ TB kau k6b kqg o):=
 OblH.ofC (X:=((∀nx i,(kku o) nx i=(kku o) nx i)∧(∀nx1:NX TB kgh,True)∧True)) (by kernel_rfl) ⟨fun _ _=>rfl,fun _=>trivial,trivial⟩
theorem k1nf {x:k1fs} {o:kfx} (h:kqz x o):k6b.Snd Try.prog x o:=
 Con.soundH (c:=k6b) (C:=kau) TBok ⟨inf_ok,(all_cons k1nt (all_cons kq9 all_nil)),all_nil⟩ mix Try.func129 (show Try.f129.body=some kfa by kernel_rfl) (show Try.f129.ntmps=30 by kernel_rfl) (show Try.f129.results.toList=kqg by kernel_rfl) rfl h (k1na o)
theorem k1nm {p0:Int} {p1:TA3} {r0:TA3} (h:
((p0=18446744069414584321∧Us [p1.a0,p1.a1,p1.a2]∧[p1.a0,p1.a1,p1.a2].length≤9223372036854775807)∧let r1:Int:=([p1.a0,p1.a1,p1.a2].foldl (fun s x=>(s+x)%18446744069414584321) 0)
 Md.Loop (p0,r1,(0:Int),p1.a0,p1.a1,p1.a2,(0:Int),(0:Int),(0:Int),(0:Int),(0:Int),(0:Int),()) (kku (r0.a0,r0.a1,r0.a2,())))):kqz (p0,p1.a0,p1.a1,p1.a2,()) (r0.a0,r0.a1,r0.a2,()):=WPh.of_eq (by kernel_rfl) h
def k1cf (r0:TA3) (k1:Int→Int→Int→Int→Prop) (s0:Int) (s5:Int) (h0_0:Int) (h0_1:Int) (h0_2:Int) (h1_0:Int) (h1_1:Int) (h1_2:Int) (s7:Int) (h3_0:Int) (h3_1:Int) (h3_2:Int):Prop:=
(decide (s7<3)=true→
(0≤s7∧s7<(3:Int))∧(0≤s7∧s7<(3:Int))∧(s0=18446744069414584321∧U64 (ix [h0_0,h0_1,h0_2] s7)∧U64 s5)∧let r2:Int:=(((ix [h0_0,h0_1,h0_2] s7)+s5)%18446744069414584321)
(0≤s7∧s7<(3:Int))∧(0≤s7∧s7<(3:Int))∧k1 (IntKind.i64.wrap (s7+1):Int) ((bif decide (s7=(0:Int))then r2 else h3_0):Int) ((bif decide (s7=(1:Int))then r2 else h3_1):Int) ((bif decide (s7=(2:Int))then r2 else h3_2):Int))∧
(decide (s7<3)=false→
 h3_0=r0.a0∧h3_1=r0.a1∧h3_2=r0.a2)
theorem k1nb {r0:TA3} {s0:Int} {s5:Int} {h0_0:Int} {h0_1:Int} {h0_2:Int} {h1_0:Int} {h1_1:Int} {h1_2:Int} {s7:Int} {h3_0:Int} {h3_1:Int} {h3_2:Int} (inv:Int→Int→Int→Int→Prop) (μ:Int→Int→Int→Int→Nat) (h0:inv s7 h3_0 h3_1 h3_2) (hs:∀(s7:Int) (h3_0:Int) (h3_1:Int) (h3_2:Int),inv s7 h3_0 h3_1 h3_2→k1cf r0 (fun s7q h3_0q h3_1q h3_2q=>inv s7q h3_0q h3_1q h3_2q∧μ s7q h3_0q h3_1q h3_2q<μ s7 h3_0 h3_1 h3_2) s0 s5 h0_0 h0_1 h0_2 h1_0 h1_1 h1_2 s7 h3_0 h3_1 h3_2):Md.Loop (s0,s5,s7,h0_0,h0_1,h0_2,h1_0,h1_1,h1_2,h3_0,h3_1,h3_2,()) (kku (r0.a0,r0.a1,r0.a2,())):=
 ⟨⟨fun s:Int×Int×Int×Int×Int×Int×Int×Int×Int×Int×Int×Int×Unit=>(s.1=s0∧s.2.1=s5∧s.2.2.2.1=h0_0∧s.2.2.2.2.1=h0_1∧s.2.2.2.2.2.1=h0_2∧s.2.2.2.2.2.2.1=h1_0∧s.2.2.2.2.2.2.2.1=h1_1∧s.2.2.2.2.2.2.2.2.1=h1_2)∧inv s.2.2.1 s.2.2.2.2.2.2.2.2.2.1 s.2.2.2.2.2.2.2.2.2.2.1 s.2.2.2.2.2.2.2.2.2.2.2.1,fun s:Int×Int×Int×Int×Int×Int×Int×Int×Int×Int×Int×Int×Unit=>μ s.2.2.1 s.2.2.2.2.2.2.2.2.2.1 s.2.2.2.2.2.2.2.2.2.2.1 s.2.2.2.2.2.2.2.2.2.2.2.1,⟨⟨rfl,rfl,rfl,rfl,rfl,rfl,rfl,rfl⟩,h0⟩,fun(s0p,s5p,s7p,h0_0p,h0_1p,h0_2p,h1_0p,h1_1p,h1_2p,h3_0p,h3_1p,h3_2p,()) ⟨⟨eq0,eq1,eq2,eq3,eq4,eq5,eq6,eq7⟩,hi⟩=>by
  have eq0:s0p=s0:=eq0;subst s0p;have eq1:s5p=s5:=eq1;subst s5p;have eq2:h0_0p=h0_0:=eq2;subst h0_0p;have eq3:h0_1p=h0_1:=eq3;subst h0_1p;have eq4:h0_2p=h0_2:=eq4;subst h0_2p;have eq5:h1_0p=h1_0:=eq5;subst h1_0p;have eq6:h1_1p=h1_1:=eq6;subst h1_1p;have eq7:h1_2p=h1_2:=eq7;subst h1_2p;exact mpr_of (by kernel_rfl) ((congrArg (fun k=>k1cf r0 k s0 s5 h0_0 h0_1 h0_2 h1_0 h1_1 h1_2 s7p h3_0p h3_1p h3_2p) (lpk4 (⟨rfl,rfl,rfl,rfl,rfl,rfl,rfl,rfl⟩:s0=s0∧s5=s5∧h0_0=h0_0∧h0_1=h0_1∧h0_2=h0_2∧h1_0=h1_0∧h1_1=h1_1∧h1_2=h1_2) inv (fun s7q h3_0q h3_1q h3_2q=>μ s7q h3_0q h3_1q h3_2q<μ s7p h3_0p h3_1p h3_2p))).mpr (hs s7p h3_0p h3_1p h3_2p hi))⟩⟩
theorem bd129:Callable Try.prog 129:=⟨by rw[Try.func129];kernel_rfl,by rw[Try.func129];show some _≠some _;decide⟩
theorem k1ju (p0:Int) (p1:TA3) (h:p0=18446744069414584321∧S3 p1):kqz (p0,p1.a0,p1.a1,p1.a2,()) (((mixS p1).a0:Int),((mixS p1).a1:Int),((mixS p1).a2:Int),()):=by
 obtain⟨rfl,h0,h1,h2⟩:=h
 have e:[p1.a0,p1.a1,p1.a2].foldl (fun s x=>(s+x)%18446744069414584321) 0=((p1.a0+p1.a1)%18446744069414584321+p1.a2)%18446744069414584321:=by
  show(((0+p1.a0)%18446744069414584321+p1.a1)%18446744069414584321+p1.a2)%18446744069414584321=_
  omega
 refine k1nm (r0:=mixS p1) ⟨⟨rfl,?_,by simp⟩,?_⟩
 ·intro x hx
  simp only[List.mem_cons,List.not_mem_nil,or_false]at hx
  rcases hx with rfl|rfl|rfl
  ·exact h0
  ·exact h1
  ·exact h2
 rw[e]
 have hu:U64 (((p1.a0+p1.a1)%18446744069414584321+p1.a2)%18446744069414584321):=⟨by omega,by omega⟩
 generalize hg:((p1.a0+p1.a1)%18446744069414584321+p1.a2)%18446744069414584321=t at *
 refine k1nb (r0:=mixS p1) (fun i x y z=>(i=0)∨(i=1∧x=(p1.a0+t)%18446744069414584321)∨(i=2∧x=(p1.a0+t)%18446744069414584321∧y=(p1.a1+t)%18446744069414584321)∨(i=3∧x=(p1.a0+t)%18446744069414584321∧y=(p1.a1+t)%18446744069414584321∧z=(p1.a2+t)%18446744069414584321)) (fun i _ _ _=>(3-i).toNat) (.inl rfl) ?_
 intro i x y z hi
 refine⟨fun hh=> ?_,fun hh=> ?_⟩
 ·have hh:=of_decide_eq_true hh
  rcases hi with rfl|⟨rfl,rfl⟩|⟨rfl,rfl,rfl⟩|⟨rfl,_⟩
  ·exact⟨by omega,by omega,⟨rfl,h0,hu⟩,by omega,by omega,.inr (.inl ⟨rfl,rfl⟩),by decide⟩
  ·exact⟨by omega,by omega,⟨rfl,h1,hu⟩,by omega,by omega,.inr (.inr (.inl ⟨rfl,rfl,rfl⟩)),by decide⟩
  ·exact⟨by omega,by omega,⟨rfl,h2,hu⟩,by omega,by omega,.inr (.inr (.inr ⟨rfl,rfl,rfl,rfl⟩)),by decide⟩
  ·omega
 ·have hh:=of_decide_eq_false hh
  rcases hi with rfl|⟨rfl,rfl⟩|⟨rfl,rfl,rfl⟩|⟨rfl,rfl,rfl,rfl⟩
  ·omega
  ·omega
  ·omega
  ·unfold mixS
   rw[hg]
   exact⟨rfl,rfl,rfl⟩
noncomputable def k172:Con TB.den:=k6b.fnR (fun x=>(fun(p0:Int) (p1:TA3)=>p0=18446744069414584321∧S3 p1) x.1 (TA3.mk x.2.1 x.2.2.1 x.2.2.2.1)) fun x=>((fun(p0:Int) (p1:TA3)=>((mixS p1).a0:Int)) x.1 (TA3.mk x.2.1 x.2.2.1 x.2.2.2.1),(fun(p0:Int) (p1:TA3)=>((mixS p1).a1:Int)) x.1 (TA3.mk x.2.1 x.2.2.1 x.2.2.2.1),(fun(p0:Int) (p1:TA3)=>((mixS p1).a2:Int)) x.1 (TA3.mk x.2.1 x.2.2.1 x.2.2.2.1),())
theorem k1ny:k172.Ok Try.prog TB:=Con.ok_fn k6b bd129 fun x h=>k1nf (k1ju x.1 (TA3.mk x.2.1 x.2.2.1 x.2.2.2.1) h)
def k2l:Con TB.den:=Con.mk0 116 [.one (.d (.int .u64)),.agg [.d (.int .u64),.d (.int .u64),.d (.int .u64)]] [] (.one (.agg [.d (.int .u64),.d (.int .u64),.d (.int .u64)])) []
abbrev k107:=HL TB.den (hsT k2l.ins (hsOs k2l.pre))
abbrev k29:=HL TB.den (hsV k2l.res (hsOs k2l.post))
noncomputable def k3b:Cx TB:=⟨inf,[k8h,kqt,khj,kr5,k173,k172],[],4,[]⟩
noncomputable def k4s:Code:=Try.f116.body.getD .skip
noncomputable def kg6:List ResultVar:=Try.f116.results.toList
def kvi (o:k29):=qS TB k3b 38 0 (cB (cB (cB k4s))) .no (retTQ TB k3b k2l kg6 o)
def k1b:Tm:=⟨[0,1],[.cells [.d (.int .u64),.d (.int .u64),.d (.int .u64)],.cells [.d (.int .u64),.d (.int .u64),.d (.int .u64)]],[0,3,4,5],[.one (.d (.int .u64)),.one (.ptr 0 0),.one (.ptr 1 0),.one (.d (.int .i64))],2⟩
def k1cn (o:k29) (nx2:NX TB k1b):=qS TB k3b 38 0 (cB (cB (cA (cA (cB (cA (cB (cB k4s)))))))) .no (qM TB 0 k1b nx2 (blockT TB 0 (kvi o)))
def k1db (o:k29) (nx2:NX TB k1b):=qS TB k3b 38 0 (cB (cA (cA (cB (cA (cA (cB (cA (cB (cB k4s)))))))))) .no (blockT TB 1 (k1cn o nx2))
def k7g:Tm:=⟨[0,1],[.cells [.d (.int .u64),.d (.int .u64),.d (.int .u64)],.cells [.d (.int .u64),.d (.int .u64),.d (.int .u64)]],[0,3,4,5,6],[.one (.d (.int .u64)),.one (.ptr 0 0),.one (.ptr 1 0),.one (.d (.int .i64)),.one (.d (.int .i64))],2⟩
def k1cr (o:k29) (nx2:NX TB k1b) (nx1:NX TB k7g):=qM TB 0 k7g nx1 (blockT TB 2 (k1db o nx2))
def kcj (o:k29) (nx2:NX TB k1b) (nx1:NX TB k7g) (i:HL TB.den k7g.hs):Prop:=WP TB k3b 38 0 (cA (cA (cB (cA (cA (cA (cB (cA (cA (cB (cA (cB (cB k4s))))))))))))) .no (k7g.fill TB i) (k1cr o nx2 nx1)
noncomputable def k1dq (o:k29) (nx2:NX TB k1b):An TB:= .nd [] .no [] (.lp [] k7g (kcj o nx2) fun nx1=> .no)
noncomputable def kww (o:k29) (nx2:NX TB k1b):An TB:= .nd [] .no [] (.nd [] (.nd [] (k1dq o nx2) [] .no) [] .no)
def kbq (o:k29) (nx2:NX TB k1b) (i:HL TB.den k1b.hs):Prop:=WP TB k3b 38 0 (cA (cA (cB (cA (cB (cB k4s)))))) (kww o nx2) (k1b.fill TB i) (qM TB 0 k1b nx2 (blockT TB 0 (kvi o)))
noncomputable def k1c9 (o:k29):An TB:= .lp [] k1b (kbq o) fun nx2=>(kww o nx2)
noncomputable def k1bv (o:k29):An TB:= .nd [] .no [] (.nd [] (.nd [] .no [] (k1c9 o)) [] .no)
noncomputable def kw4 (o:k29):An TB:= .nd [] .no [] (k1bv o)
def kif (x:k107) (o:k29):Prop:=WPh TB k3b 38 0 k4s (kw4 o) (k2l.st TB x) (retTQ TB k3b k2l kg6 o)
theorem k1bw (o:k29):OblH TB k3b 38 0 k4s (kw4 o) (retTQ TB k3b k2l kg6 o):=
 OblH.ofC (X:=((∀nx i,(kbq o) nx i=(kbq o) nx i)∧(∀nx2:NX TB k1b,((∀nx i,(kcj o nx2) nx i=(kcj o nx2) nx i)∧(∀nx1:NX TB k7g,True)∧True))∧True)) (by kernel_rfl) ⟨fun _ _=>rfl,fun _=>⟨fun _ _=>rfl,fun _=>trivial,trivial⟩,trivial⟩
theorem k1c7 {x:k107} {o:k29} (h:kif x o):k2l.Snd Try.prog x o:=
 Con.soundH (c:=k2l) (C:=k3b) TBok ⟨inf_ok,(all_cons kbs (all_cons k1a1 (all_cons kq9 (all_cons k1aj (all_cons k1ob (all_cons k1ny all_nil)))))),all_nil⟩ mix Try.func116 (show Try.f116.body=some k4s by kernel_rfl) (show Try.f116.ntmps=38 by kernel_rfl) (show Try.f116.results.toList=kg6 by kernel_rfl) rfl h (k1bw o)
theorem k1cs {p0:Int} {p1:TA3} {r0:TA3} (h:
((p0=18446744069414584321)∧((!true)=true→
 0=r0.a0∧0=r0.a1∧0=r0.a2)∧
((!true)=false→
 Md.Loop (p0,(0:Int),p1.a0,p1.a1,p1.a2,(0:Int),(0:Int),(0:Int),()) (kbq (r0.a0,r0.a1,r0.a2,()))))):kif (p0,p1.a0,p1.a1,p1.a2,()) (r0.a0,r0.a1,r0.a2,()):=WPh.of_eq (by kernel_rfl) h
def kwk (r0:TA3) (nx2:NX TB k1b) (k2:Int→Int→Int→Int→Prop) (s0:Int) (h1_0:Int) (h1_1:Int) (h1_2:Int) (s5:Int) (h0_0:Int) (h0_1:Int) (h0_2:Int):Prop:=
(decide (s5<8)=true→
 Md.Loop (s0,s5,(0:Int),h0_0,h0_1,h0_2,h1_0,h1_1,h1_2,()) (kcj (r0.a0,r0.a1,r0.a2,()) nx2))∧
(decide (s5<8)=false→
 h0_0=r0.a0∧h0_1=r0.a1∧h0_2=r0.a2)
theorem k1at {r0:TA3} {s0:Int} {h1_0:Int} {h1_1:Int} {h1_2:Int} {s5:Int} {h0_0:Int} {h0_1:Int} {h0_2:Int} (inv:Int→Int→Int→Int→Prop) (μ:Int→Int→Int→Int→Nat) (h0:inv s5 h0_0 h0_1 h0_2) (hs:∀(s5:Int) (h0_0:Int) (h0_1:Int) (h0_2:Int),inv s5 h0_0 h0_1 h0_2→kwk r0 (fun s:Int×Int×Int×Int×Int×Int×Int×Int×Unit=>((s.1=s0∧s.2.2.2.2.2.1=h1_0∧s.2.2.2.2.2.2.1=h1_1∧s.2.2.2.2.2.2.2.1=h1_2)∧inv s.2.1 s.2.2.1 s.2.2.2.1 s.2.2.2.2.1)∧μ s.2.1 s.2.2.1 s.2.2.2.1 s.2.2.2.2.1<μ s5 h0_0 h0_1 h0_2) (fun s5q h0_0q h0_1q h0_2q=>inv s5q h0_0q h0_1q h0_2q∧μ s5q h0_0q h0_1q h0_2q<μ s5 h0_0 h0_1 h0_2) s0 h1_0 h1_1 h1_2 s5 h0_0 h0_1 h0_2):Md.Loop (s0,s5,h0_0,h0_1,h0_2,h1_0,h1_1,h1_2,()) (kbq (r0.a0,r0.a1,r0.a2,())):=
 ⟨⟨fun s:Int×Int×Int×Int×Int×Int×Int×Int×Unit=>(s.1=s0∧s.2.2.2.2.2.1=h1_0∧s.2.2.2.2.2.2.1=h1_1∧s.2.2.2.2.2.2.2.1=h1_2)∧inv s.2.1 s.2.2.1 s.2.2.2.1 s.2.2.2.2.1,fun s:Int×Int×Int×Int×Int×Int×Int×Int×Unit=>μ s.2.1 s.2.2.1 s.2.2.2.1 s.2.2.2.2.1,⟨⟨rfl,rfl,rfl,rfl⟩,h0⟩,fun(s0p,s5p,h0_0p,h0_1p,h0_2p,h1_0p,h1_1p,h1_2p,()) ⟨⟨eq0,eq1,eq2,eq3⟩,hi⟩=>by
  have eq0:s0p=s0:=eq0;subst s0p;have eq1:h1_0p=h1_0:=eq1;subst h1_0p;have eq2:h1_1p=h1_1:=eq2;subst h1_1p;have eq3:h1_2p=h1_2:=eq3;subst h1_2p;exact mpr_of (by kernel_rfl) ((congrArg (fun k=>kwk r0 (fun s:Int×Int×Int×Int×Int×Int×Int×Int×Unit=>((s.1=s0∧s.2.2.2.2.2.1=h1_0∧s.2.2.2.2.2.2.1=h1_1∧s.2.2.2.2.2.2.2.1=h1_2)∧inv s.2.1 s.2.2.1 s.2.2.2.1 s.2.2.2.2.1)∧μ s.2.1 s.2.2.1 s.2.2.2.1 s.2.2.2.2.1<μ s5p h0_0p h0_1p h0_2p) k s0 h1_0 h1_1 h1_2 s5p h0_0p h0_1p h0_2p) (lpk4 (⟨rfl,rfl,rfl,rfl⟩:s0=s0∧h1_0=h1_0∧h1_1=h1_1∧h1_2=h1_2) inv (fun s5q h0_0q h0_1q h0_2q=>μ s5q h0_0q h0_1q h0_2q<μ s5p h0_0p h0_1p h0_2p))).mpr (hs s5p h0_0p h0_1p h0_2p hi))⟩⟩
def kwg (r0:TA3) (nx2:NX TB k1b) (k1:Int→Int→Int→Int→Prop) (s0:Int) (s5:Int) (h1_0:Int) (h1_1:Int) (h1_2:Int) (s6:Int) (h0_0:Int) (h0_1:Int) (h0_2:Int):Prop:=
(decide (s6<3)=true→
(0≤s6∧s6<(3:Int))∧(0≤s6∧s6<(3:Int))∧(s0=18446744069414584321∧(0≤s5∧s5<8)∧0≤s6∧s6<3)∧(s0=18446744069414584321∧U64 (ix [h0_0,h0_1,h0_2] s6)∧U64 (rc s5 s6))∧let r1:Int:=(((ix [h0_0,h0_1,h0_2] s6)+(rc s5 s6))%18446744069414584321)
(s0=18446744069414584321)∧(s0=18446744069414584321∧U64 r1∧U64 (7:Int))∧(0≤s6∧s6<(3:Int))∧(0≤s6∧s6<(3:Int))∧k1 (IntKind.i64.wrap (s6+1):Int) ((bif decide (s6=(0:Int))then(pw r1 (7:Int))else h0_0):Int) ((bif decide (s6=(1:Int))then(pw r1 (7:Int))else h0_1):Int) ((bif decide (s6=(2:Int))then(pw r1 (7:Int))else h0_2):Int))∧
(decide (s6<3)=false→
(s0=18446744069414584321∧S3 (TA3.mk h0_0 h0_1 h0_2))∧nx2 (s0,(IntKind.i64.wrap (s5+1):Int),((mixS (TA3.mk h0_0 h0_1 h0_2)).a0:Int),((mixS (TA3.mk h0_0 h0_1 h0_2)).a1:Int),((mixS (TA3.mk h0_0 h0_1 h0_2)).a2:Int),h1_0,h1_1,h1_2,()))
theorem k19y {r0:TA3} {nx2:NX TB k1b} {s0:Int} {s5:Int} {h1_0:Int} {h1_1:Int} {h1_2:Int} {s6:Int} {h0_0:Int} {h0_1:Int} {h0_2:Int} (inv:Int→Int→Int→Int→Prop) (μ:Int→Int→Int→Int→Nat) (h0:inv s6 h0_0 h0_1 h0_2) (hs:∀(s6:Int) (h0_0:Int) (h0_1:Int) (h0_2:Int),inv s6 h0_0 h0_1 h0_2→kwg r0 nx2 (fun s6q h0_0q h0_1q h0_2q=>inv s6q h0_0q h0_1q h0_2q∧μ s6q h0_0q h0_1q h0_2q<μ s6 h0_0 h0_1 h0_2) s0 s5 h1_0 h1_1 h1_2 s6 h0_0 h0_1 h0_2):Md.Loop (s0,s5,s6,h0_0,h0_1,h0_2,h1_0,h1_1,h1_2,()) (kcj (r0.a0,r0.a1,r0.a2,()) nx2):=
 ⟨⟨fun s:Int×Int×Int×Int×Int×Int×Int×Int×Int×Unit=>(s.1=s0∧s.2.1=s5∧s.2.2.2.2.2.2.1=h1_0∧s.2.2.2.2.2.2.2.1=h1_1∧s.2.2.2.2.2.2.2.2.1=h1_2)∧inv s.2.2.1 s.2.2.2.1 s.2.2.2.2.1 s.2.2.2.2.2.1,fun s:Int×Int×Int×Int×Int×Int×Int×Int×Int×Unit=>μ s.2.2.1 s.2.2.2.1 s.2.2.2.2.1 s.2.2.2.2.2.1,⟨⟨rfl,rfl,rfl,rfl,rfl⟩,h0⟩,fun(s0p,s5p,s6p,h0_0p,h0_1p,h0_2p,h1_0p,h1_1p,h1_2p,()) ⟨⟨eq0,eq1,eq2,eq3,eq4⟩,hi⟩=>by
  have eq0:s0p=s0:=eq0;subst s0p;have eq1:s5p=s5:=eq1;subst s5p;have eq2:h1_0p=h1_0:=eq2;subst h1_0p;have eq3:h1_1p=h1_1:=eq3;subst h1_1p;have eq4:h1_2p=h1_2:=eq4;subst h1_2p;exact mpr_of (by kernel_rfl) ((congrArg (fun k=>kwg r0 nx2 k s0 s5 h1_0 h1_1 h1_2 s6p h0_0p h0_1p h0_2p) (lpk4 (⟨rfl,rfl,rfl,rfl,rfl⟩:s0=s0∧s5=s5∧h1_0=h1_0∧h1_1=h1_1∧h1_2=h1_2) inv (fun s6q h0_0q h0_1q h0_2q=>μ s6q h0_0q h0_1q h0_2q<μ s6p h0_0p h0_1p h0_2p))).mpr (hs s6p h0_0p h0_1p h0_2p hi))⟩⟩
theorem bd116:Callable Try.prog 116:=⟨by rw[Try.func116];kernel_rfl,by rw[Try.func116];show some _≠some _;decide⟩
theorem k19j (p0:Int) (p1:TA3) (h:p0=18446744069414584321∧S3 p1):kif (p0,p1.a0,p1.a1,p1.a2,()) (((permS p1).a0:Int),((permS p1).a1:Int),((permS p1).a2:Int),()):=by
 obtain⟨hP,hs⟩:=h
 subst hP
 refine k1cs ⟨rfl,fun h=>by simp at h,fun _=> ?_⟩
 refine k1at (r0:=permS p1) (fun n a b c=>0≤n∧n≤8∧(⟨a,b,c⟩:TA3)=rnds n.toNat p1∧S3 ⟨a,b,c⟩) (fun n _ _ _=>(8-n).toNat) ⟨by omega,by omega,rfl,hs⟩ ?_
 rintro n a b c ⟨g0,g1,g2,g3⟩
 refine⟨fun h=> ?_,fun h=> ?_⟩
 ·have h:=of_decide_eq_true h
  refine k19y (r0:=permS p1) (fun i x y z=>(i=0∧x=a∧y=b∧z=c)∨(i=1∧x=pw ((a+rc n 0)%18446744069414584321) 7∧y=b∧z=c)∨(i=2∧x=pw ((a+rc n 0)%18446744069414584321) 7∧y=pw ((b+rc n 1)%18446744069414584321) 7∧z=c)∨(i=3∧x=pw ((a+rc n 0)%18446744069414584321) 7∧y=pw ((b+rc n 1)%18446744069414584321) 7∧z=pw ((c+rc n 2)%18446744069414584321) 7)) (fun i _ _ _=>(3-i).toNat) (.inl ⟨rfl,rfl,rfl,rfl⟩) ?_
  intro i x y z hi
  have hrc:∀k,U64 (rc n k):=fun k=>by unfold rc;omega
  have hpw:∀k e,0≤pw k e∧pw k e<18446744069414584321:=fun k e=>⟨Int.emod_nonneg _ (by omega),Int.emod_lt_of_pos _ (by omega)⟩
  obtain⟨h3a,h3b,h3c⟩:=g3
  have u7:U64 7:=by decide
  have hm:∀q:Int,U64 (q%18446744069414584321):=fun q=>⟨Int.emod_nonneg _ (by omega),Int.lt_trans (Int.emod_lt_of_pos _ (by omega)) (by omega)⟩
  refine⟨fun hh=> ?_,fun hh=> ?_⟩
  ·have hh:=of_decide_eq_true hh
   rcases hi with⟨rfl,rfl,rfl,rfl⟩|⟨rfl,rfl,rfl,rfl⟩|⟨rfl,rfl,rfl,rfl⟩|⟨rfl,_⟩
   ·exact⟨by omega,by omega,⟨rfl,by omega,by omega⟩,⟨rfl,h3a,hrc _⟩,rfl,⟨rfl,hm _,u7⟩,by omega,by omega,.inr (.inl ⟨rfl,rfl,rfl,rfl⟩),by decide⟩
   ·exact⟨by omega,by omega,⟨rfl,by omega,by omega⟩,⟨rfl,h3b,hrc _⟩,rfl,⟨rfl,hm _,u7⟩,by omega,by omega,.inr (.inr (.inl ⟨rfl,rfl,rfl,rfl⟩)),by decide⟩
   ·exact⟨by omega,by omega,⟨rfl,by omega,by omega⟩,⟨rfl,h3c,hrc _⟩,rfl,⟨rfl,hm _,u7⟩,by omega,by omega,.inr (.inr (.inr ⟨rfl,rfl,rfl,rfl⟩)),by decide⟩
   ·omega
  ·have hh:=of_decide_eq_false hh
   rcases hi with⟨rfl,_⟩|⟨rfl,_⟩|⟨rfl,_⟩|⟨rfl,rfl,rfl,rfl⟩
   ·omega
   ·omega
   ·omega
   ·have e:rnds (n+1).toNat p1=rnd ⟨a,b,c⟩ n:=by
     rw[show(n+1).toNat=n.toNat+1 by omega]
     show rnd (rnds n.toNat p1) (n.toNat:Int)=_
     rw[←g2,show(n.toNat:Int)=n by omega]
    have hS:S3 (rnds (n+1).toNat p1):=by
     rw[e]
     unfold rnd mixS S3
     dsimp only
     omega
    have hinc:IntKind.i64.wrap (n+1)=n+1:=wi _ (by omega) (by omega)
    rw[hinc]
    refine⟨⟨rfl,by unfold S3;have:=hpw ((a+rc n 0)%18446744069414584321) 7;have:=hpw ((b+rc n 1)%18446744069414584321) 7;have:=hpw ((c+rc n 2)%18446744069414584321) 7;dsimp only;omega⟩,⟨⟨rfl,rfl,rfl,rfl⟩,(?_:0≤n+1∧n+1≤8∧_∧_)⟩,(?_:(8-(n+1)).toNat<(8-n).toNat)⟩
    ·refine⟨by omega,by omega,e.symm,?_⟩
     rw[e]at hS
     exact hS
    ·omega
 ·have h:=of_decide_eq_false h
  rw[show n=8 by omega]at g2
  have g2:(⟨a,b,c⟩:TA3)=permS p1:=g2
  rw[←g2]
  exact⟨rfl,rfl,rfl⟩
noncomputable def ktd:Con TB.den:=k2l.fnR (fun x=>(fun(p0:Int) (p1:TA3)=>p0=18446744069414584321∧S3 p1) x.1 (TA3.mk x.2.1 x.2.2.1 x.2.2.2.1)) fun x=>((fun(p0:Int) (p1:TA3)=>((permS p1).a0:Int)) x.1 (TA3.mk x.2.1 x.2.2.1 x.2.2.2.1),(fun(p0:Int) (p1:TA3)=>((permS p1).a1:Int)) x.1 (TA3.mk x.2.1 x.2.2.1 x.2.2.2.1),(fun(p0:Int) (p1:TA3)=>((permS p1).a2:Int)) x.1 (TA3.mk x.2.1 x.2.2.1 x.2.2.2.1),())
theorem k1eb:ktd.Ok Try.prog TB:=Con.ok_fn k2l bd116 fun x h=>k1c7 (k19j x.1 (TA3.mk x.2.1 x.2.2.1 x.2.2.2.1) h)
def k39:Con TB.den:=Con.mk0 107 [.one (.d (.int .u64)),.one (.d (.int .u64)),.one (.d (.sl (.int .u64)))] [] (.one (.agg [.d (.int .u64),.d (.int .u64),.d (.int .u64)])) []
abbrev k14d:=HL TB.den (hsT k39.ins (hsOs k39.pre))
abbrev k1o:=HL TB.den (hsV k39.res (hsOs k39.post))
noncomputable def k38:Cx TB:=⟨inf,[kul,khj,ktd],[],4,[]⟩
noncomputable def k4p:Code:=Try.f107.body.getD .skip
noncomputable def ki0:List ResultVar:=Try.f107.results.toList
def kp3 (o:k1o):=qS TB k38 60 0 (cB (cB (cB k4p))) .no (retTQ TB k38 k39 ki0 o)
def kj:Tm:=⟨[0,1],[.cells [.d (.int .u64),.d (.int .u64),.d (.int .u64)],.cells [.d (.int .u64),.d (.int .u64),.d (.int .u64)]],[0,2,6,7,8],[.one (.d (.int .u64)),.one (.d (.sl (.int .u64))),.one (.ptr 0 0),.one (.ptr 1 0),.one (.d (.int .i64))],2⟩
def kz2 (o:k1o) (nx1:NX TB kj):=qS TB k38 60 0 (cB (cB (cA (cA (cB (cA (cB (cB k4p)))))))) .no (qM TB 0 kj nx1 (blockT TB 0 (kp3 o)))
def kc7:Tm:=⟨[0,1],[.cells [.d (.int .u64),.d (.int .u64),.d (.int .u64)],.cells [.d (.int .u64),.d (.int .u64),.d (.int .u64)]],[0,2,6,7,8],[.one (.d (.int .u64)),.one (.d (.sl (.int .u64))),.one (.ptr 0 0),.one (.ptr 1 0),.one (.d (.int .i64))],2⟩
def kw5 (o:k1o) (nx1:NX TB kj) (i:HL TB.den kc7.hs):Prop:=ghs TB [] (kc7.fill TB i) fun s=>WP TB k38 60 0 (cB (cB (cA (cA (cB (cA (cA (cB (cA (cB (cB k4p))))))))))) .no s (blockT TB 1 (kz2 o nx1))
structure k8j (o:k1o) (nx1:NX TB kj) (i:HL TB.den kc7.hs):Prop where
 h:kw5 o nx1 i
def kgj:Tm:=⟨[0,1],[.cells [.d (.int .u64),.d (.int .u64),.d (.int .u64)],.cells [.d (.int .u64),.d (.int .u64),.d (.int .u64)]],[0,2,6,7,8],[.one (.d (.int .u64)),.one (.d (.sl (.int .u64))),.one (.ptr 0 0),.one (.ptr 1 0),.one (.d (.int .i64))],2⟩
def kwi (o:k1o) (nx1:NX TB kj) (i:HL TB.den kgj.hs):Prop:=ghs TB [] (kgj.fill TB i) fun s=>WP TB k38 60 0 (cB (cA (cA (cB (cA (cA (cB (cA (cB (cB k4p)))))))))) (.jn kc7 (k8j o nx1) [] .no [] .no) s (blockT TB 1 (kz2 o nx1))
structure kdl (o:k1o) (nx1:NX TB kj) (i:HL TB.den kgj.hs):Prop where
 h:kwi o nx1 i
noncomputable def kze (o:k1o) (nx1:NX TB kj):An TB:= .jn kgj (kdl o nx1) [] .no [] (.jn kc7 (k8j o nx1) [] .no [] .no)
def kg9:Tm:=⟨[0,1],[.cells [.d (.int .u64),.d (.int .u64),.d (.int .u64)],.cells [.d (.int .u64),.d (.int .u64),.d (.int .u64)]],[0,2,6,7,8],[.one (.d (.int .u64)),.one (.d (.sl (.int .u64))),.one (.ptr 0 0),.one (.ptr 1 0),.one (.d (.int .i64))],2⟩
def kva (o:k1o) (nx1:NX TB kj) (i:HL TB.den kg9.hs):Prop:=ghs TB [] (kg9.fill TB i) fun s=>WP TB k38 60 0 (cB (cA (cA (cB (cA (cB (cB k4p))))))) (.nd [] (kze o nx1) [] .no) s (qM TB 0 kj nx1 (blockT TB 0 (kp3 o)))
structure kaf (o:k1o) (nx1:NX TB kj) (i:HL TB.den kg9.hs):Prop where
 h:kva o nx1 i
noncomputable def kyq (o:k1o) (nx1:NX TB kj):An TB:= .jn kg9 (kaf o nx1) [] .no [] (.nd [] (kze o nx1) [] .no)
def kds (o:k1o) (nx1:NX TB kj) (i:HL TB.den kj.hs):Prop:=WP TB k38 60 0 (cA (cA (cB (cA (cB (cB k4p)))))) (kyq o nx1) (kj.fill TB i) (qM TB 0 kj nx1 (blockT TB 0 (kp3 o)))
noncomputable def k1fz (o:k1o):An TB:= .lp [] kj (kds o) fun nx1=>(kyq o nx1)
noncomputable def k1h9 (o:k1o):An TB:= .nd [] .no [] (.nd [] (.nd [] .no [] (k1fz o)) [] .no)
noncomputable def kz7 (o:k1o):An TB:= .nd [] .no [] (k1h9 o)
def kjx (x:k14d) (o:k1o):Prop:=WPh TB k38 60 0 k4p (kz7 o) (k39.st TB x) (retTQ TB k38 k39 ki0 o)
theorem k1dg (o:k1o):OblH TB k38 60 0 k4p (kz7 o) (retTQ TB k38 k39 ki0 o):=
 OblH.ofC (X:=((∀nx i,(kds o) nx i=(kds o) nx i)∧(∀nx1:NX TB kj,((∀i,(kaf o nx1) i=kva o nx1 i)∧(∀i,(kdl o nx1) i=kwi o nx1 i)∧(∀i,(k8j o nx1) i=kw5 o nx1 i)∧True))∧True)) (by kernel_rfl) ⟨fun _ _=>rfl,fun _=>⟨fun _=>propext ⟨fun h=>h.1,fun h=>⟨h⟩⟩,fun _=>propext ⟨fun h=>h.1,fun h=>⟨h⟩⟩,fun _=>propext ⟨fun h=>h.1,fun h=>⟨h⟩⟩,trivial⟩,trivial⟩
theorem k1ei {x:k14d} {o:k1o} (h:kjx x o):k39.Snd Try.prog x o:=
 Con.soundH (c:=k39) (C:=k38) TBok ⟨inf_ok,(all_cons k1c4 (all_cons kq9 (all_cons k1eb all_nil))),all_nil⟩ mix Try.func107 (show Try.f107.body=some k4p by kernel_rfl) (show Try.f107.ntmps=60 by kernel_rfl) (show Try.f107.results.toList=ki0 by kernel_rfl) rfl h (k1dg o)
theorem k1h2 {p0:Int} {p1:Int} {p2:List Int} {r0:TA3} (h:
((p0=18446744069414584321∧U64 p1∧U64 (65536:Int))∧let r1:Int:=(p1*(65536:Int)%18446744069414584321)
(p0=18446744069414584321∧U64 r1∧U64 (IntKind.u64.wrap (p2.length:Int)))∧let r2:Int:=((r1+(IntKind.u64.wrap (p2.length:Int)))%18446744069414584321)
 Md.Loop (p0,p2,(0:Int),(0:Int),(0:Int),(0:Int),(0:Int),(0:Int),r2,()) (kds (r0.a0,r0.a1,r0.a2,())))):kjx (p0,p1,p2,()) (r0.a0,r0.a1,r0.a2,()):=WPh.of_eq (by kernel_rfl) h
theorem k19i {r0:TA3} {nx1:NX TB kj} {s0:Int} {s2:List Int} {s8:Int} {h0_0:Int} {h0_1:Int} {h0_2:Int} {h1_0:Int} {h1_1:Int} {h1_2:Int} (h:
((decide (s8<(s2.length:Int))=true→
(0≤s8)∧s8<(s2.length:Int)∧(s0=18446744069414584321∧U64 h1_0∧U64 (ix s2 s8))∧let r3:Int:=((h1_0+(ix s2 s8))%18446744069414584321)
 kdl (r0.a0,r0.a1,r0.a2,()) nx1 (s0,s2,s8,h0_0,h0_1,h0_2,r3,h1_1,h1_2,()))∧
(decide (s8<(s2.length:Int))=false→
 kdl (r0.a0,r0.a1,r0.a2,()) nx1 (s0,s2,s8,h0_0,h0_1,h0_2,h1_0,h1_1,h1_2,())))):kaf (r0.a0,r0.a1,r0.a2,()) nx1 (s0,s2,s8,h0_0,h0_1,h0_2,h1_0,h1_1,h1_2,()):=⟨mpr_of (by kernel_rfl) h⟩
theorem ks4 {r0:TA3} {nx1:NX TB kj} {s0:Int} {s2:List Int} {s8:Int} {h0_0:Int} {h0_1:Int} {h0_2:Int} {h1_0:Int} {h1_1:Int} {h1_2:Int} (h:
(let v4:Bool:=decide ((IntKind.i64.wrap (s8+1))<(s2.length:Int))
(v4=true→
(0≤IntKind.i64.wrap (s8+1))∧IntKind.i64.wrap (s8+1)<(s2.length:Int)∧(s0=18446744069414584321∧U64 h1_1∧U64 (ix s2 (IntKind.i64.wrap (s8+1))))∧let r5:Int:=((h1_1+(ix s2 (IntKind.i64.wrap (s8+1))))%18446744069414584321)
 k8j (r0.a0,r0.a1,r0.a2,()) nx1 (s0,s2,s8,h0_0,h0_1,h0_2,h1_0,r5,h1_2,()))∧
(v4=false→
 k8j (r0.a0,r0.a1,r0.a2,()) nx1 (s0,s2,s8,h0_0,h0_1,h0_2,h1_0,h1_1,h1_2,())))):kdl (r0.a0,r0.a1,r0.a2,()) nx1 (s0,s2,s8,h0_0,h0_1,h0_2,h1_0,h1_1,h1_2,()):=⟨mpr_of (by kernel_rfl) h⟩
theorem k18e {r0:TA3} {nx1:NX TB kj} {s0:Int} {s2:List Int} {s8:Int} {h0_0:Int} {h0_1:Int} {h0_2:Int} {h1_0:Int} {h1_1:Int} {h1_2:Int} (h:
((s0=18446744069414584321∧S3 (TA3.mk h1_0 h1_1 h1_2))∧nx1 (s0,s2,(IntKind.i64.wrap (s8+2):Int),h0_0,h0_1,h0_2,((permS (TA3.mk h1_0 h1_1 h1_2)).a0:Int),((permS (TA3.mk h1_0 h1_1 h1_2)).a1:Int),((permS (TA3.mk h1_0 h1_1 h1_2)).a2:Int),()))):k8j (r0.a0,r0.a1,r0.a2,()) nx1 (s0,s2,s8,h0_0,h0_1,h0_2,h1_0,h1_1,h1_2,()):=⟨mpr_of (by kernel_rfl) h⟩
def kyt (r0:TA3) (nx1:NX TB kj) (k1:Int→Int→Int→Int→Prop) (s0:Int) (s2:List Int) (h0_0:Int) (h0_1:Int) (h0_2:Int) (s8:Int) (h1_0:Int) (h1_1:Int) (h1_2:Int):Prop:=
((s8==0)=true→
 kaf (r0.a0,r0.a1,r0.a2,()) nx1 (s0,s2,s8,h0_0,h0_1,h0_2,h1_0,h1_1,h1_2,()))∧
((s8==0)=false→
(decide (s8<(s2.length:Int))=true→
 kaf (r0.a0,r0.a1,r0.a2,()) nx1 (s0,s2,s8,h0_0,h0_1,h0_2,h1_0,h1_1,h1_2,()))∧
(decide (s8<(s2.length:Int))=false→
 h1_0=r0.a0∧h1_1=r0.a1∧h1_2=r0.a2))
theorem k1e3 {r0:TA3} {s0:Int} {s2:List Int} {h0_0:Int} {h0_1:Int} {h0_2:Int} {s8:Int} {h1_0:Int} {h1_1:Int} {h1_2:Int} (inv:Int→Int→Int→Int→Prop) (μ:Int→Int→Int→Int→Nat) (h0:inv s8 h1_0 h1_1 h1_2) (hs:∀(s8:Int) (h1_0:Int) (h1_1:Int) (h1_2:Int),inv s8 h1_0 h1_1 h1_2→kyt r0 (fun s:Int×(List Int)×Int×Int×Int×Int×Int×Int×Int×Unit=>((s.1=s0∧s.2.1=s2∧s.2.2.2.1=h0_0∧s.2.2.2.2.1=h0_1∧s.2.2.2.2.2.1=h0_2)∧inv s.2.2.1 s.2.2.2.2.2.2.1 s.2.2.2.2.2.2.2.1 s.2.2.2.2.2.2.2.2.1)∧μ s.2.2.1 s.2.2.2.2.2.2.1 s.2.2.2.2.2.2.2.1 s.2.2.2.2.2.2.2.2.1<μ s8 h1_0 h1_1 h1_2) (fun s8q h1_0q h1_1q h1_2q=>inv s8q h1_0q h1_1q h1_2q∧μ s8q h1_0q h1_1q h1_2q<μ s8 h1_0 h1_1 h1_2) s0 s2 h0_0 h0_1 h0_2 s8 h1_0 h1_1 h1_2):Md.Loop (s0,s2,s8,h0_0,h0_1,h0_2,h1_0,h1_1,h1_2,()) (kds (r0.a0,r0.a1,r0.a2,())):=
 ⟨⟨fun s:Int×(List Int)×Int×Int×Int×Int×Int×Int×Int×Unit=>(s.1=s0∧s.2.1=s2∧s.2.2.2.1=h0_0∧s.2.2.2.2.1=h0_1∧s.2.2.2.2.2.1=h0_2)∧inv s.2.2.1 s.2.2.2.2.2.2.1 s.2.2.2.2.2.2.2.1 s.2.2.2.2.2.2.2.2.1,fun s:Int×(List Int)×Int×Int×Int×Int×Int×Int×Int×Unit=>μ s.2.2.1 s.2.2.2.2.2.2.1 s.2.2.2.2.2.2.2.1 s.2.2.2.2.2.2.2.2.1,⟨⟨rfl,rfl,rfl,rfl,rfl⟩,h0⟩,fun(s0p,s2p,s8p,h0_0p,h0_1p,h0_2p,h1_0p,h1_1p,h1_2p,()) ⟨⟨eq0,eq1,eq2,eq3,eq4⟩,hi⟩=>by
  have eq0:s0p=s0:=eq0;subst s0p;have eq1:s2p=s2:=eq1;subst s2p;have eq2:h0_0p=h0_0:=eq2;subst h0_0p;have eq3:h0_1p=h0_1:=eq3;subst h0_1p;have eq4:h0_2p=h0_2:=eq4;subst h0_2p;exact mpr_of (by kernel_rfl) ((congrArg (fun k=>kyt r0 (fun s:Int×(List Int)×Int×Int×Int×Int×Int×Int×Int×Unit=>((s.1=s0∧s.2.1=s2∧s.2.2.2.1=h0_0∧s.2.2.2.2.1=h0_1∧s.2.2.2.2.2.1=h0_2)∧inv s.2.2.1 s.2.2.2.2.2.2.1 s.2.2.2.2.2.2.2.1 s.2.2.2.2.2.2.2.2.1)∧μ s.2.2.1 s.2.2.2.2.2.2.1 s.2.2.2.2.2.2.2.1 s.2.2.2.2.2.2.2.2.1<μ s8p h1_0p h1_1p h1_2p) k s0 s2 h0_0 h0_1 h0_2 s8p h1_0p h1_1p h1_2p) (lpk4 (⟨rfl,rfl,rfl,rfl,rfl⟩:s0=s0∧s2=s2∧h0_0=h0_0∧h0_1=h0_1∧h0_2=h0_2) inv (fun s8q h1_0q h1_1q h1_2q=>μ s8q h1_0q h1_1q h1_2q<μ s8p h1_0p h1_1p h1_2p))).mpr (hs s8p h1_0p h1_1p h1_2p hi))⟩⟩
theorem bd107:Callable Try.prog 107:=⟨by rw[Try.func107];kernel_rfl,by rw[Try.func107];show some _≠some _;decide⟩
theorem k1bc (p0:Int) (p1:Int) (p2:List Int) (h:p0=18446744069414584321∧U64 p1∧Us p2∧p2.length≤1099511627776):kjx (p0,p1,p2,()) (((absS p1 p2).a0:Int),((absS p1 p2).a1:Int),((absS p1 p2).a2:Int),()):=by
 obtain⟨hP,h1,h2,h3⟩:=h
 subst hP
 have hp:=kdu
 have hi:S3 (absI p1 p2):=by unfold absI S3;dsimp only;omega
 have e:IntKind.u64.wrap (p2.length:Int)=p2.length:=wu _ (by omega) (by omega)
 have em:(p1*65536%18446744069414584321+(p2.length:Int))%18446744069414584321=(absI p1 p2).a2:=rfl
 refine k1h2 ?_
 rw[e]
 refine⟨⟨rfl,h1,by omega⟩,⟨rfl,by omega,by omega⟩,?_⟩
 rw[em]
 have j3:∀nx (i x y z:Int),0≤i→i≤p2.length→S3 ⟨x,y,z⟩→nx ((18446744069414584321:Int),p2,(i+2:Int),(0:Int),(0:Int),(0:Int),(permS ⟨x,y,z⟩).a0,(permS ⟨x,y,z⟩).a1,(permS ⟨x,y,z⟩).a2,())→k8j ((absS p1 p2).a0,(absS p1 p2).a1,(absS p1 p2).a2,()) nx ((18446744069414584321:Int),p2,i,(0:Int),(0:Int),(0:Int),x,y,z,()):=by
  intro nx i x y z g0 g1 hS hn
  refine k18e (r0:=absS p1 p2) ?_
  rw[wi (i+2) (by omega) (by omega)]
  exact⟨⟨rfl,hS⟩,hn⟩
 refine k1e3 (r0:=absS p1 p2) (fun i a b c=>(i=0∧a=0∧b=0∧c=(absI p1 p2).a2)∨(0<i∧i≤p2.length+2∧absL (p2.drop i.toNat) ⟨a,b,c⟩=absS p1 p2∧S3 ⟨a,b,c⟩)) (fun i _ _ _=>(p2.length+4-i).toNat) (.inl ⟨rfl,rfl,rfl,rfl⟩) ?_
 intro i a b c hg
 have body:∀(i:Int) (a b c:Int),0≤i→i≤p2.length→(i<p2.length→absL (p2.drop i.toNat) ⟨a,b,c⟩=absS p1 p2)→(¬i<p2.length→permS ⟨a,b,c⟩=absS p1 p2)→S3 ⟨a,b,c⟩→∀nx,(∀x y z,absL (p2.drop (i+2).toNat) ⟨x,y,z⟩=absS p1 p2→S3 ⟨x,y,z⟩→nx ((18446744069414584321:Int),p2,(i+2:Int),(0:Int),(0:Int),(0:Int),x,y,z,()))→
   kaf ((absS p1 p2).a0,(absS p1 p2).a1,(absS p1 p2).a2,()) nx ((18446744069414584321:Int),p2,i,(0:Int),(0:Int),(0:Int),a,b,c,()):=by
  intro i a b c g0 g1 hne hnil hS nx hn
  obtain⟨h3a,h3b,h3c⟩:=hS
  refine k19i (r0:=absS p1 p2) ⟨fun hh=> ?_,fun hh=> ?_⟩
  ·have hh:=of_decide_eq_true hh
   have hx:=h2 _ (ix_mem p2 i g0 hh)
   have g2:=hne hh
   rw[drop_ix p2 i g0 hh]at g2
   refine⟨g0,hh,⟨rfl,h3a,hx⟩,ks4 (r0:=absS p1 p2) ?_⟩
   rw[wi (i+1) (by omega) (by omega)]
   refine⟨fun h5=> ?_,fun h5=> ?_⟩
   ·have h5:=of_decide_eq_true h5
    have hy:=h2 _ (ix_mem p2 (i+1) (by omega) h5)
    rw[drop_ix p2 (i+1) (by omega) h5,show i+1+1=i+2 by omega]at g2
    exact⟨by omega,h5,⟨rfl,h3b,hy⟩,j3 _ _ _ _ _ g0 g1 (S3m (by omega) (by omega) h3c) (hn _ _ _ g2 (hp _))⟩
   ·have h5:=of_decide_eq_false h5
    have ed:p2.drop (i+1).toNat=[]:=List.drop_eq_nil_of_le (by omega)
    have ed2:p2.drop (i+2).toNat=[]:=List.drop_eq_nil_of_le (by omega)
    rw[ed]at g2
    exact j3 _ _ _ _ _ g0 g1 (S3m (by omega) h3b h3c) (hn _ _ _ (by rw[ed2];exact g2) (hp _))
  ·have hh:=of_decide_eq_false hh
   refine ks4 (r0:=absS p1 p2) ?_
   rw[wi (i+1) (by omega) (by omega)]
   refine⟨fun h5=> ?_,fun h5=> ?_⟩
   ·have h5:=of_decide_eq_true h5
    omega
   ·have ed2:p2.drop (i+2).toNat=[]:=List.drop_eq_nil_of_le (by omega)
    exact j3 _ _ _ _ _ g0 g1 (S3m h3a h3b h3c) (hn _ _ _ (by rw[ed2];exact hnil hh) (hp _))
 refine⟨fun h0=> ?_,fun h0=>⟨fun hh=> ?_,fun hh=> ?_⟩⟩
 ·have h0:i=0:=by simpa using h0
  rcases hg with⟨_,rfl,rfl,rfl⟩|⟨hp0,_⟩
  ·subst h0
   refine body 0 _ _ _ (by omega) (by omega) (fun hl=> ?_) (fun hl=> ?_) hi _ fun x y z k1 k2=>⟨⟨⟨rfl,rfl,rfl,rfl,rfl⟩,.inr ⟨(by omega:(0:Int)<0+2),(by omega:(0:Int)+2≤p2.length+2),k1,k2⟩⟩,(by omega:(p2.length+4-((0:Int)+2)).toNat<(p2.length+4-0:Int).toNat)⟩
   ·have hne:p2≠[]:=by rintro rfl;simp at hl
    unfold absS
    rw[if_neg hne]
    rfl
   ·have hnil:p2=[]:=List.eq_nil_of_length_eq_zero (by omega)
    unfold absS
    rw[if_pos hnil]
    rfl
  ·omega
 ·have h0:¬i=0:=by simpa using h0
  have hh:=of_decide_eq_true hh
  rcases hg with⟨h1,_⟩|⟨g0,g1,g2,g3⟩
  ·omega
  ·exact body i _ _ _ (by omega) (by omega) (fun _=>g2) (fun hl=>absurd hh hl) g3 _ fun x y z k1 k2=>⟨⟨⟨rfl,rfl,rfl,rfl,rfl⟩,.inr ⟨(by omega:0<i+2),(by omega:i+2≤p2.length+2),k1,k2⟩⟩,(by omega:(p2.length+4-(i+2)).toNat<(p2.length+4-i).toNat)⟩
 ·have h0:¬i=0:=by simpa using h0
  have hh:=of_decide_eq_false hh
  rcases hg with⟨h1,_⟩|⟨g0,g1,g2,g3⟩
  ·omega
  ·rw[List.drop_eq_nil_of_le (by omega)]at g2
   have hv:(⟨a,b,c⟩:TA3)=absS p1 p2:=g2
   rw[←hv]
   exact⟨rfl,rfl,rfl⟩
noncomputable def kvu:Con TB.den:=k39.fnR (fun x=>(fun(p0:Int) (p1:Int) (p2:List Int)=>p0=18446744069414584321∧U64 p1∧Us p2∧p2.length≤1099511627776) x.1 x.2.1 x.2.2.1) fun x=>((fun(p0:Int) (p1:Int) (p2:List Int)=>((absS p1 p2).a0:Int)) x.1 x.2.1 x.2.2.1,(fun(p0:Int) (p1:Int) (p2:List Int)=>((absS p1 p2).a1:Int)) x.1 x.2.1 x.2.2.1,(fun(p0:Int) (p1:Int) (p2:List Int)=>((absS p1 p2).a2:Int)) x.1 x.2.1 x.2.2.1,())
theorem k1hr:kvu.Ok Try.prog TB:=Con.ok_fn k39 bd107 fun x h=>k1ei (k1bc x.1 x.2.1 x.2.2.1 h)
def k67:Con TB.den:=Con.mk0 87 [.one (.d (.int .u64)),.one (.d (.int .u64)),.one (.d (.sl (.int .u64)))] [] (.one (.one (.d (.int .u64)))) []
abbrev k1ba:=HL TB.den (hsT k67.ins (hsOs k67.pre))
abbrev kqe:=HL TB.den (hsV k67.res (hsOs k67.post))
noncomputable def kh6:Cx TB:=⟨inf,[k8h,kvu],[],4,[]⟩
noncomputable def kp1:Code:=Try.f87.body.getD .skip
noncomputable def kuy:List ResultVar:=Try.f87.results.toList
noncomputable def k17h (o:kqe):An TB:= .no
def koq (x:k1ba) (o:kqe):Prop:=WPh TB kh6 15 0 kp1 (k17h o) (k67.st TB x) (retTQ TB kh6 k67 kuy o)
theorem k1kn (o:kqe):OblH TB kh6 15 0 kp1 (k17h o) (retTQ TB kh6 k67 kuy o):=
 OblH.ofC (X:=True) (by kernel_rfl) trivial
theorem k1km {x:k1ba} {o:kqe} (h:koq x o):k67.Snd Try.prog x o:=
 Con.soundH (c:=k67) (C:=kh6) TBok ⟨inf_ok,(all_cons kbs (all_cons k1hr all_nil)),all_nil⟩ mix Try.func87 (show Try.f87.body=some kp1 by kernel_rfl) (show Try.f87.ntmps=15 by kernel_rfl) (show Try.f87.results.toList=kuy by kernel_rfl) rfl h (k1kn o)
theorem k1n0 {p0:Int} {p1:Int} {p2:List Int} {r0:Int} (h:
((p0=18446744069414584321)∧((!true)=true→
 0=r0)∧
((!true)=false→
(p0=18446744069414584321∧U64 p1∧Us p2∧p2.length≤1099511627776)∧(absS p1 p2).a0=r0))):koq (p0,p1,p2,()) (r0,()):=WPh.of_eq (by kernel_rfl) h
theorem bd87:Callable Try.prog 87:=⟨by rw[Try.func87];kernel_rfl,by rw[Try.func87];show some _≠some _;decide⟩
theorem k1id (p0:Int) (p1:Int) (p2:List Int) (h:p0=18446744069414584321∧U64 p1∧Us p2∧p2.length≤1099511627776):koq (p0,p1,p2,()) (((hashS p1 p2):Int),()):=by
 obtain⟨hP,h1,h2,h3⟩:=h
 subst hP
 exact k1n0 ⟨rfl,fun h=>by simp at h,fun _=>⟨⟨rfl,h1,h2,h3⟩,rfl⟩⟩
noncomputable def ks9:Con TB.den:=k67.fnR (fun x=>(fun(p0:Int) (p1:Int) (p2:List Int)=>p0=18446744069414584321∧U64 p1∧Us p2∧p2.length≤1099511627776) x.1 x.2.1 x.2.2.1) fun x=>((fun(p0:Int) (p1:Int) (p2:List Int)=>((hashS p1 p2):Int)) x.1 x.2.1 x.2.2.1,())
theorem k16x:ks9.Ok Try.prog TB:=Con.ok_fn k67 bd87 fun x h=>k1km (k1id x.1 x.2.1 x.2.2.1 h)
def k5h:Con TB.den:=Con.mk0 90 [.one (.d (.int .u64)),.one (.d (.sl (.int .u64)))] [] (.one (.one (.d (.int .u64)))) []
abbrev k1ax:=HL TB.den (hsT k5h.ins (hsOs k5h.pre))
abbrev kak:=HL TB.den (hsV k5h.res (hsOs k5h.post))
noncomputable def k9a:Cx TB:=⟨inf,[ks9],[],4,[]⟩
noncomputable def kdo:Code:=Try.f90.body.getD .skip
noncomputable def knh:List ResultVar:=Try.f90.results.toList
def k1n7 (o:kak):=qS TB k9a 25 0 (cB (cB (cB kdo))) .no (retTQ TB k9a k5h knh o)
def kdy:Tm:=⟨[1],[.tip (.int .u64)],[0,1,5,6],[.one (.d (.int .u64)),.one (.d (.sl (.int .u64))),.one (.own 0),.one (.d (.int .i64))],2⟩
def khp (o:kak) (nx1:NX TB kdy) (i:HL TB.den kdy.hs):Prop:=WP TB k9a 25 0 (cA (cA (cB (cA (cB (cB kdo)))))) .no (kdy.fill TB i) (qM TB 0 kdy nx1 (blockT TB 0 (k1n7 o)))
noncomputable def k1me (o:kak):An TB:= .lp [.tok 5 (.int .u64)] kdy (khp o) fun nx1=> .no
noncomputable def k1nc (o:kak):An TB:= .nd [] .no [] (.nd [] (.nd [] .no [] (k1me o)) [] .no)
noncomputable def k16n (o:kak):An TB:= .nd [] .no [] (k1nc o)
def kp8 (x:k1ax) (o:kak):Prop:=WPh TB k9a 25 0 kdo (k16n o) (k5h.st TB x) (retTQ TB k9a k5h knh o)
theorem k1j2 (o:kak):OblH TB k9a 25 0 kdo (k16n o) (retTQ TB k9a k5h knh o):=
 OblH.ofC (X:=((∀nx i,(khp o) nx i=(khp o) nx i)∧(∀nx1:NX TB kdy,True)∧True)) (by kernel_rfl) ⟨fun _ _=>rfl,fun _=>trivial,trivial⟩
theorem k1jw {x:k1ax} {o:kak} (h:kp8 x o):k5h.Snd Try.prog x o:=
 Con.soundH (c:=k5h) (C:=k9a) TBok ⟨inf_ok,(all_cons k16x all_nil),all_nil⟩ mix Try.func90 (show Try.f90.body=some kdo by kernel_rfl) (show Try.f90.ntmps=25 by kernel_rfl) (show Try.f90.results.toList=knh by kernel_rfl) rfl h (k1j2 o)
theorem k1m2 {p0:Int} {p1:List Int} {r0:Int} (h:
((([]:List Int)=([]:List Int))∧Md.Loop (p0,p1,(0:Int),(([]:List Int):List Int),()) (khp (r0,())))):kp8 (p0,p1,()) (r0,()):=WPh.of_eq (by kernel_rfl) h
def k16s (r0:Int) (k1:Int→List Int→Prop) (s0:Int) (s1:List Int) (s6:Int) (g1:List Int):Prop:=
(decide (s6<(s1.length:Int))=true→
(0≤s6)∧s6<(s1.length:Int)∧g1.length=g1.length∧(g1.length+[Int.tmod (ix s1 s6) 18446744069414584321].length)*8≤140737488355328∧g1.length+[Int.tmod (ix s1 s6) 18446744069414584321].length≤maxLen∧let v1:List Int:=g1++[Int.tmod (ix s1 s6) 18446744069414584321]
(v1=v1)∧k1 (IntKind.i64.wrap (s6+1):Int) v1)∧
(decide (s6<(s1.length:Int))=false→
((18446744069414584321:Int)=18446744069414584321∧U64 s0∧Us g1∧g1.length≤1099511627776)∧(hashS s0 g1)=r0)
theorem k1k3 {r0:Int} {s0:Int} {s1:List Int} {s6:Int} {g1:List Int} (inv:Int→List Int→Prop) (μ:Int→List Int→Nat) (h0:inv s6 g1) (hs:∀(s6:Int) (g1:List Int),inv s6 g1→k16s r0 (fun s6q g1q=>inv s6q g1q∧μ s6q g1q<μ s6 g1) s0 s1 s6 g1):Md.Loop (s0,s1,s6,g1,()) (khp (r0,())):=
 ⟨⟨fun s:Int×(List Int)×Int×(List Int)×Unit=>(s.1=s0∧s.2.1=s1)∧inv s.2.2.1 s.2.2.2.1,fun s:Int×(List Int)×Int×(List Int)×Unit=>μ s.2.2.1 s.2.2.2.1,⟨⟨rfl,rfl⟩,h0⟩,fun(s0p,s1p,s6p,g1p,()) ⟨⟨eq0,eq1⟩,hi⟩=>by
  have eq0:s0p=s0:=eq0;subst s0p;have eq1:s1p=s1:=eq1;subst s1p;exact mpr_of (by kernel_rfl) ((congrArg (fun k=>k16s r0 k s0 s1 s6p g1p) (lpk2 (⟨rfl,rfl⟩:s0=s0∧s1=s1) inv (fun s6q g1q=>μ s6q g1q<μ s6p g1p))).mpr (hs s6p g1p hi))⟩⟩
theorem bd90:Callable Try.prog 90:=⟨by rw[Try.func90];kernel_rfl,by rw[Try.func90];show some _≠some _;decide⟩
theorem k1g9 (p0:Int) (p1:List Int) (h:U64 p0∧Us p1∧(∀x∈p1,x<18446744069414584321)∧p1.length≤1073741824):kp8 (p0,p1,()) (((hashS p0 p1):Int),()):=by
 obtain⟨h0,h1,h2,h3⟩:=h
 refine k1m2 ⟨by trivial,k1k3 (fun i g=>MapI (fun x=>x) p1 i g) (fun i _=>(p1.length-i).toNat) MapI.start ?_⟩
 intro i g hg
 have hl:=hg.len
 refine⟨fun hh=> ?_,fun hh=> ?_⟩
 ·have hh:=of_decide_eq_true hh
  have hx:=h1 _ (ix_mem p1 i hg.1 hh)
  have hx2:=h2 _ (ix_mem p1 i hg.1 hh)
  have e:Int.tmod (ix p1 i) 18446744069414584321=ix p1 i:=by rw[tmod_nn _ _ hx.1];omega
  rw[e]
  have:=hg.1
  exact⟨hg.1,hh,rfl,by simp;omega,by simp;unfold maxLen;omega,by trivial,hg.next hh (by omega) rfl⟩
 ·have e:=hg.done (of_decide_eq_false hh)
  rw[List.map_id']at e
  subst e
  exact⟨⟨rfl,h0,h1,by omega⟩,rfl⟩
noncomputable def k14g:Con TB.den:=k5h.fnR (fun x=>(fun(p0:Int) (p1:List Int)=>U64 p0∧Us p1∧(∀x∈p1,x<18446744069414584321)∧p1.length≤1073741824) x.1 x.2.1) fun x=>((fun(p0:Int) (p1:List Int)=>((hashS p0 p1):Int)) x.1 x.2.1,())
theorem k1m6:k14g.Ok Try.prog TB:=Con.ok_fn k5h bd90 fun x h=>k1jw (k1g9 x.1 x.2.1 h)
def k3d:Con TB.den:=Con.mk0 45 [.one (.d (.int .u64))] [] (.one (.one (.d (.int .u64)))) []
abbrev k104:=HL TB.den (hsT k3d.ins (hsOs k3d.pre))
abbrev khv:=HL TB.den (hsV k3d.res (hsOs k3d.post))
noncomputable def kcc:Cx TB:=⟨inf,[k14g],[],4,[]⟩
noncomputable def kij:Code:=Try.f45.body.getD .skip
noncomputable def kn0:List ResultVar:=Try.f45.results.toList
noncomputable def kvv (o:khv):An TB:= .no
def kid (x:k104) (o:khv):Prop:=WPh TB kcc 6 0 kij (kvv o) (k3d.st TB x) (retTQ TB kcc k3d kn0 o)
theorem k1cb (o:khv):OblH TB kcc 6 0 kij (kvv o) (retTQ TB kcc k3d kn0 o):=
 OblH.ofC (X:=True) (by kernel_rfl) trivial
theorem k1a9 {x:k104} {o:khv} (h:kid x o):k3d.Snd Try.prog x o:=
 Con.soundH (c:=k3d) (C:=kcc) TBok ⟨inf_ok,(all_cons k1m6 all_nil),all_nil⟩ mix Try.func45 (show Try.f45.body=some kij by kernel_rfl) (show Try.f45.ntmps=6 by kernel_rfl) (show Try.f45.results.toList=kn0 by kernel_rfl) rfl h (k1cb o)
theorem k1eo {p0:Int} {r0:Int} (h:
((U64 (7:Int)∧Us [p0]∧(∀x∈[p0],x<18446744069414584321)∧[p0].length≤1073741824)∧(hashS (7:Int) [p0])=r0)):kid (p0,()) (r0,()):=WPh.of_eq (by kernel_rfl) h
theorem bd45:Callable Try.prog 45:=⟨by rw[Try.func45];kernel_rfl,by rw[Try.func45];show some _≠some _;decide⟩
theorem k17t (p0:Int) (h:U64 p0∧p0<18446744069414584321):kid (p0,()) (((acctS p0):Int),()):=by
 refine k1eo ⟨⟨by decide,?_,?_,by simp⟩,rfl⟩
 ·intro x hx;rw[List.mem_singleton]at hx;subst hx;exact h.1
 ·intro x hx;rw[List.mem_singleton]at hx;subst hx;exact h.2
noncomputable def ktc:Con TB.den:=k3d.fnR (fun x=>(fun(p0:Int)=>U64 p0∧p0<18446744069414584321) x.1) fun x=>((fun(p0:Int)=>((acctS p0):Int)) x.1,())
theorem k1dy:ktc.Ok Try.prog TB:=Con.ok_fn k3d bd45 fun x h=>k1a9 (k17t x.1 h)
def k60:Con TB.den:=Con.mk0 19 [.agg [.d (.int .u64),.d (.int .u64),.d (.int .u64),.d (.int .u64)]] [] (.one (.one (.d (.sl (.int .u64))))) []
abbrev k1bj:=HL TB.den (hsT k60.ins (hsOs k60.pre))
abbrev kq7:=HL TB.den (hsV k60.res (hsOs k60.post))
noncomputable def kh9:Cx TB:=⟨inf,[],[],4,[]⟩
noncomputable def koz:Code:=Try.f19.body.getD .skip
noncomputable def kty:List ResultVar:=Try.f19.results.toList
noncomputable def k16d (o:kq7):An TB:= .no
def kou (x:k1bj) (o:kq7):Prop:=WPh TB kh9 12 0 koz (k16d o) (k60.st TB x) (retTQ TB kh9 k60 kty o)
theorem k1lr (o:kq7):OblH TB kh9 12 0 koz (k16d o) (retTQ TB kh9 k60 kty o):=
 OblH.ofC (X:=True) (by kernel_rfl) trivial
theorem k1l7 {x:k1bj} {o:kq7} (h:kou x o):k60.Snd Try.prog x o:=
 Con.soundH (c:=k60) (C:=kh9) TBok ⟨inf_ok,all_nil,all_nil⟩ mix Try.func19 (show Try.f19.body=some koz by kernel_rfl) (show Try.f19.ntmps=12 by kernel_rfl) (show Try.f19.results.toList=kty by kernel_rfl) rfl h (k1lr o)
theorem k1mo {p0:TNote} {r0:List Int} (h:
([p0.Value,p0.Owner,p0.Rho,p0.Blind]=r0)):kou (p0.Value,p0.Owner,p0.Rho,p0.Blind,()) (r0,()):=WPh.of_eq (by kernel_rfl) h
theorem bd19:Callable Try.prog 19:=⟨by rw[Try.func19];kernel_rfl,by rw[Try.func19];show some _≠some _;decide⟩
theorem k1if (p0:TNote):kou (p0.Value,p0.Owner,p0.Rho,p0.Blind,()) (((noteL p0):List Int),()):=by
 exact k1mo rfl
noncomputable def k13h:Con TB.den:=k60.totR fun x=>((fun(p0:TNote)=>((noteL p0):List Int)) (TNote.mk x.1 x.2.1 x.2.2.1 x.2.2.2.1),())
theorem k1mf:k13h.Ok Try.prog TB:=Con.ok_tot k60 bd19 fun x=>k1l7 (k1if (TNote.mk x.1 x.2.1 x.2.2.1 x.2.2.2.1))
def k3j:Con TB.den:=Con.mk0 52 [.one (.d (.int .u64))] [] (.one (.one (.d (.bool)))) []
abbrev k103:=HL TB.den (hsT k3j.ins (hsOs k3j.pre))
abbrev khz:=HL TB.den (hsV k3j.res (hsOs k3j.post))
noncomputable def kcp:Cx TB:=⟨inf,[],[],4,[]⟩
noncomputable def kiv:Code:=Try.f52.body.getD .skip
noncomputable def klx:List ResultVar:=Try.f52.results.toList
noncomputable def kv2 (o:khz):An TB:= .no
def kj6 (x:k103) (o:khz):Prop:=WPh TB kcp 5 0 kiv (kv2 o) (k3j.st TB x) (retTQ TB kcp k3j klx o)
theorem k19z (o:khz):OblH TB kcp 5 0 kiv (kv2 o) (retTQ TB kcp k3j klx o):=
 OblH.ofC (X:=True) (by kernel_rfl) trivial
theorem k19t {x:k103} {o:khz} (h:kj6 x o):k3j.Snd Try.prog x o:=
 Con.soundH (c:=k3j) (C:=kcp) TBok ⟨inf_ok,all_nil,all_nil⟩ mix Try.func52 (show Try.f52.body=some kiv by kernel_rfl) (show Try.f52.ntmps=5 by kernel_rfl) (show Try.f52.results.toList=klx by kernel_rfl) rfl h (k19z o)
theorem k1dn {p0:Int} {r0:Bool} (h:
(decide (p0<18446744069414584321)=r0)):kj6 (p0,()) (r0,()):=WPh.of_eq (by kernel_rfl) h
theorem bd52:Callable Try.prog 52:=⟨by rw[Try.func52];kernel_rfl,by rw[Try.func52];show some _≠some _;decide⟩
theorem k18k (p0:Int):kj6 (p0,()) (((decide (p0<18446744069414584321)):Bool),()):=by
 exact k1dn rfl
noncomputable def kec:Con TB.den:=k3j.totR fun x=>((fun(p0:Int)=>((decide (p0<18446744069414584321)):Bool)) x.1,())
theorem km1:kec.Ok Try.prog TB:=Con.ok_tot k3j bd52 fun x=>k19t (k18k x.1)
def k27:Con TB.den:=Con.mk0 36 [.one (.d (.sl (.int .u64)))] [] (.one (.one (.d (.bool)))) []
abbrev kwo:=HL TB.den (hsT k27.ins (hsOs k27.pre))
abbrev k6k:=HL TB.den (hsV k27.res (hsOs k27.post))
noncomputable def k5w:Cx TB:=⟨inf,[kec],[],4,[]⟩
noncomputable def k8q:Code:=Try.f36.body.getD .skip
noncomputable def kei:List ResultVar:=Try.f36.results.toList
def k1ak (o:k6k):=qS TB k5w 16 0 (cB (cB k8q)) .no (retTQ TB k5w k27 kei o)
def k70:Tm:=⟨[],[],[0,3],[.one (.d (.sl (.int .u64))),.one (.d (.int .i64))],0⟩
def k1bl (o:k6k) (nx1:NX TB k70):=qM TB 0 k70 nx1 (blockT TB 0 (k1ak o))
def kar (o:k6k) (nx1:NX TB k70) (i:HL TB.den k70.hs):Prop:=WP TB k5w 16 0 (cA (cA (cB (cA (cB k8q))))) .no (k70.fill TB i) (k1bl o nx1)
noncomputable def k1c5 (o:k6k):An TB:= .nd [] .no [] (.lp [] k70 (kar o) fun nx1=> .no)
noncomputable def kte (o:k6k):An TB:= .nd [] .no [] (.nd [] (k1c5 o) [] .no)
def kgx (x:kwo) (o:k6k):Prop:=WPh TB k5w 16 0 k8q (kte o) (k27.st TB x) (retTQ TB k5w k27 kei o)
theorem k18y (o:k6k):OblH TB k5w 16 0 k8q (kte o) (retTQ TB k5w k27 kei o):=
 OblH.ofC (X:=((∀nx i,(kar o) nx i=(kar o) nx i)∧(∀nx1:NX TB k70,True)∧True)) (by kernel_rfl) ⟨fun _ _=>rfl,fun _=>trivial,trivial⟩
theorem k18m {x:kwo} {o:k6k} (h:kgx x o):k27.Snd Try.prog x o:=
 Con.soundH (c:=k27) (C:=k5w) TBok ⟨inf_ok,(all_cons km1 all_nil),all_nil⟩ mix Try.func36 (show Try.f36.body=some k8q by kernel_rfl) (show Try.f36.ntmps=16 by kernel_rfl) (show Try.f36.results.toList=kei by kernel_rfl) rfl h (k18y o)
theorem k1br {p0:List Int} {r0:Bool} (h:
(Md.Loop (p0,(0:Int),()) (kar (r0,())))):kgx (p0,()) (r0,()):=WPh.of_eq (by kernel_rfl) h
def ktr (r0:Bool) (k1:Int→Prop) (s0:List Int) (s3:Int):Prop:=
(decide (s3<(s0.length:Int))=true→
(0≤s3)∧s3<(s0.length:Int)∧let r1:Bool:=(decide ((ix s0 s3)<18446744069414584321))
((!r1)=true→
 false=r0)∧
((!r1)=false→
 k1 (IntKind.i64.wrap (s3+1):Int)))∧
(decide (s3<(s0.length:Int))=false→
 true=r0)
theorem k18a {r0:Bool} {s0:List Int} {s3:Int} (inv:Int→Prop) (μ:Int→Nat) (h0:inv s3) (hs:∀(s3:Int),inv s3→ktr r0 (fun s3q=>inv s3q∧μ s3q<μ s3) s0 s3):Md.Loop (s0,s3,()) (kar (r0,())):=
 ⟨⟨fun s:(List Int)×Int×Unit=>(s.1=s0)∧inv s.2.1,fun s:(List Int)×Int×Unit=>μ s.2.1,⟨rfl,h0⟩,fun(s0p,s3p,()) ⟨eq0,hi⟩=>by
  have eq0:s0p=s0:=eq0;subst s0p;exact mpr_of (by kernel_rfl) ((congrArg (fun k=>ktr r0 k s0 s3p) (lpk1 (rfl:s0=s0) inv (fun s3q=>μ s3q<μ s3p))).mpr (hs s3p hi))⟩⟩
theorem bd36:Callable Try.prog 36:=⟨by rw[Try.func36];kernel_rfl,by rw[Try.func36];show some _≠some _;decide⟩
theorem k15i (p0:List Int) (h:p0.length≤9223372036854775807):kgx (p0,()) (((p0.all (fun x=>decide (x<18446744069414584321))):Bool),()):=by
 refine k1br (k18a (AllI (fun x=>decide (x<18446744069414584321)) p0) (fun i=>(p0.length-i).toNat) AllI.start ?_)
 intro i hi
 refine⟨fun hh=> ?_,fun hh=>(hi.done (of_decide_eq_false hh)).symm⟩
 have hh:=of_decide_eq_true hh
 exact⟨hi.1,hh,fun e=>(hi.bad hh (by simpa using e)).symm,fun e=>hi.next hh (by omega) (by simpa using e)⟩
noncomputable def kj7:Con TB.den:=k27.fnR (fun x=>(fun(p0:List Int)=>p0.length≤9223372036854775807) x.1) fun x=>((fun(p0:List Int)=>((p0.all (fun x=>decide (x<18446744069414584321))):Bool)) x.1,())
theorem kth:kj7.Ok Try.prog TB:=Con.ok_fn k27 bd36 fun x h=>k18m (k15i x.1 h)
def k4u:Con TB.den:=Con.mk0 78 [.agg [.d (.int .u64),.d (.int .u64),.d (.int .u64),.d (.int .u64)]] [] (.one (.one (.d (.bool)))) []
abbrev k16z:=HL TB.den (hsT k4u.ins (hsOs k4u.pre))
abbrev kni:=HL TB.den (hsV k4u.res (hsOs k4u.post))
noncomputable def ket:Cx TB:=⟨inf,[kj7],[],4,[]⟩
noncomputable def klv:Code:=Try.f78.body.getD .skip
noncomputable def krd:List ResultVar:=Try.f78.results.toList
noncomputable def k12n (o:kni):An TB:= .no
def kn2 (x:k16z) (o:kni):Prop:=WPh TB ket 16 0 klv (k12n o) (k4u.st TB x) (retTQ TB ket k4u krd o)
theorem k1hc (o:kni):OblH TB ket 16 0 klv (k12n o) (retTQ TB ket k4u krd o):=
 OblH.ofC (X:=True) (by kernel_rfl) trivial
theorem k1h4 {x:k16z} {o:kni} (h:kn2 x o):k4u.Snd Try.prog x o:=
 Con.soundH (c:=k4u) (C:=ket) TBok ⟨inf_ok,(all_cons kth all_nil),all_nil⟩ mix Try.func78 (show Try.f78.body=some klv by kernel_rfl) (show Try.f78.ntmps=16 by kernel_rfl) (show Try.f78.results.toList=krd by kernel_rfl) rfl h (k1hc o)
theorem k1jx {p0:TNote} {r0:Bool} (h:
((decide (p0.Value≤4294967295)=true→
([p0.Owner,p0.Rho,p0.Blind].length≤9223372036854775807)∧let r1:Bool:=([p0.Owner,p0.Rho,p0.Blind].all (fun x=>decide (x<18446744069414584321)))
 r1=r0)∧
(decide (p0.Value≤4294967295)=false→
 false=r0))):kn2 (p0.Value,p0.Owner,p0.Rho,p0.Blind,()) (r0,()):=WPh.of_eq (by kernel_rfl) h
theorem bd78:Callable Try.prog 78:=⟨by rw[Try.func78];kernel_rfl,by rw[Try.func78];show some _≠some _;decide⟩
theorem k1cj (p0:TNote):kn2 (p0.Value,p0.Owner,p0.Rho,p0.Blind,()) (((noteV p0):Bool),()):=by
 have e:[p0.Owner,p0.Rho,p0.Blind].all (fun x=>decide (x<18446744069414584321))=(decide (p0.Owner<18446744069414584321)&&(decide (p0.Rho<18446744069414584321)&&decide (p0.Blind<18446744069414584321))):=by simp
 refine k1jx ⟨fun h=>⟨by simp,?_⟩,fun h=> ?_⟩
 ·rw[e];unfold noteV;rw[h];simp[Bool.and_assoc]
 ·unfold noteV;rw[h];rfl
noncomputable def ki8:Con TB.den:=k4u.totR fun x=>((fun(p0:TNote)=>((noteV p0):Bool)) (TNote.mk x.1 x.2.1 x.2.2.1 x.2.2.2.1),())
theorem kri:ki8.Ok Try.prog TB:=Con.ok_tot k4u bd78 fun x=>k1h4 (k1cj (TNote.mk x.1 x.2.1 x.2.2.1 x.2.2.2.1))
def k4d:Con TB.den:=Con.mk0 67 [.agg [.d (.int .u64),.d (.int .u64),.d (.int .u64),.d (.int .u64)]] [] (.one (.one (.d (.int .u64)))) []
abbrev k11f:=HL TB.den (hsT k4d.ins (hsOs k4d.pre))
abbrev kkd:=HL TB.den (hsV k4d.res (hsOs k4d.post))
noncomputable def kdb:Cx TB:=⟨inf,[ki8,k13h,ks9],[],4,[]⟩
noncomputable def kkv:Code:=Try.f67.body.getD .skip
noncomputable def kp6:List ResultVar:=Try.f67.results.toList
noncomputable def kz9 (o:kkd):An TB:= .no
def kl0 (x:k11f) (o:kkd):Prop:=WPh TB kdb 9 0 kkv (kz9 o) (k4d.st TB x) (retTQ TB kdb k4d kp6 o)
theorem k1d0 (o:kkd):OblH TB kdb 9 0 kkv (kz9 o) (retTQ TB kdb k4d kp6 o):=
 OblH.ofC (X:=True) (by kernel_rfl) trivial
theorem k1ec {x:k11f} {o:kkd} (h:kl0 x o):k4d.Snd Try.prog x o:=
 Con.soundH (c:=k4d) (C:=kdb) TBok ⟨inf_ok,(all_cons kri (all_cons k1mf (all_cons k16x all_nil))),all_nil⟩ mix Try.func67 (show Try.f67.body=some kkv by kernel_rfl) (show Try.f67.ntmps=9 by kernel_rfl) (show Try.f67.results.toList=kp6 by kernel_rfl) rfl h (k1d0 o)
theorem k1ge {p0:TNote} {r0:Int} (h:
(((!(noteV p0))=true→
 0=r0)∧
((!(noteV p0))=false→
((18446744069414584321:Int)=18446744069414584321∧U64 (2:Int)∧Us (noteL p0)∧(noteL p0).length≤1099511627776)∧(hashS (2:Int) (noteL p0))=r0))):kl0 (p0.Value,p0.Owner,p0.Rho,p0.Blind,()) (r0,()):=WPh.of_eq (by kernel_rfl) h
theorem bd67:Callable Try.prog 67:=⟨by rw[Try.func67];kernel_rfl,by rw[Try.func67];show some _≠some _;decide⟩
theorem k1c3 (p0:TNote) (h:NR p0):kl0 (p0.Value,p0.Owner,p0.Rho,p0.Blind,()) (((if noteV p0=true then hashS 2 (noteL p0)else 0):Int),()):=by
 have hu:Us (noteL p0):=by
  intro x hx
  simp only[noteL,List.mem_cons,List.not_mem_nil,or_false]at hx
  rcases hx with rfl|rfl|rfl|rfl
  ·exact h.v
  ·exact h.o
  ·exact h.r
  ·exact h.b
 refine k1ge ?_
 simp only[k12u]
 refine⟨fun e=> ?_,fun e=>⟨⟨by trivial,by decide,hu,by simp[noteL]⟩,?_⟩⟩
 ·rw[if_neg (by simpa using e)]
 ·rw[if_pos (by simpa using e)]
noncomputable def kwf:Con TB.den:=k4d.fnR (fun x=>(fun(p0:TNote)=>NR p0) (TNote.mk x.1 x.2.1 x.2.2.1 x.2.2.2.1)) fun x=>((fun(p0:TNote)=>((if noteV p0=true then hashS 2 (noteL p0)else 0):Int)) (TNote.mk x.1 x.2.1 x.2.2.1 x.2.2.2.1),())
theorem k1ia:kwf.Ok Try.prog TB:=Con.ok_fn k4d bd67 fun x h=>k1ec (k1c3 (TNote.mk x.1 x.2.1 x.2.2.1 x.2.2.2.1) h)
end Go.Proofs.Ytpffhgljgpjenaa
end
