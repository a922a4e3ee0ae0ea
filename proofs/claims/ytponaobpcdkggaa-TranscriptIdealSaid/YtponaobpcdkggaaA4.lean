/-
  Parts of the proofs that the laws of this seat hold of every input, merged by a program: a machine over pure data that is sound for the model, what each function of the translation does in it, and plain lemmas. No conditions but those in each theorem.
-/
import Derived.Test.YtponaobpcdkggaaA3
set_option linter.all false
set_option maxRecDepth 100000
noncomputable section
namespace Go.Bv
open Go.RowKit Go.Deep
def limOf (w:World) (b:Nat):Nat:=match w.heap[b]? with
 |some (.cells c _ _)=>c.size
 |_=>0
theorem k1ez {w:World} {b o:Nat} {v:Value} (h:w.cell? ⟨b,o,none⟩=some v):o<limOf w b:=by
 unfold World.cell? at h
 unfold limOf
 simp only at h
 split at h
 ·rename_i c _ _ hh
  rw[hh]
  simp only[Option.isSome_none,Bool.false_eq_true,if_false]at h
  exact(Array.getElem?_eq_some_iff.1 h).1
 ·cases h
def isAggT (P:Program) (e:TypeId):Bool:=match P.underlying e with
 |some (.struct _)=>true
 |some (.array _ _)=>true
 |_=>false
def mkD (P:Program) (e:TypeId) (cs:List D):D:=if isAggT P e then .agg cs else cs.headD (.bool false)
def tiles (P:Program) (tot:Nat):List (TypeId×Nat)→Nat→Bool
 |[],o=>o==tot
 |p::r,o=>p.2==o&&tiles P tot r (o+P.cellsOf p.1)
def fsOf (fs:Array Field):List (TypeId×Nat):=fs.toList.map fun f=>(f.type,f.offset)
def arOf (P:Program) (n:Nat) (e:TypeId):List (TypeId×Nat):=(List.range n).map fun i=>(e,i*P.cellsOf e)
def dataT (P:Program):Nat→TypeId→Bool
 |0,_=>false
 |k+1,t=>match P.underlying t with
  |some .bool=>true
  |some (.int _)=>true
  |some .string=>true
  |some (.slice e)=>decide (0<P.cellsOf e)&&dataT P k e
  |some (.struct fs)=>tiles P (P.cellsOf t) (fsOf fs) 0&&(fsOf fs).all fun p=>dataT P k p.1
  |some (.array n e)=>tiles P (P.cellsOf t) (arOf P n e) 0&&dataT P k e
  |_=>false
def RelFs {H:Type} (R:TypeId→List D→DataW H→Prop):List (TypeId×Nat)→List D→List (DataW H)→Prop
 |[],ds,ps=>ds=[]∧ps=[]
 |t::ts,ds,ps=>∃d1 d2 p qs,R t.1 d1 p∧RelFs R ts d2 qs∧ds=d1++d2∧ps=p::qs
def Rel {H:Type} (P:Program):Nat→TypeId→List D→DataW H→Prop
 |0,_,_,_=>False
 |k+1,t,ds,d=>match P.underlying t with
  |some .bool=>∃b,ds=[.bool b]∧d= .lit (.bool b)
  |some (.int q)=>∃i,ds=[.int q i]∧d= .lit (.int q i)∧(Lit.int q i).wf=true
  |some .string=>∃s:ByteArray,ds=[.str s]∧d= .lit (.string s.data.toList)
  | some (.slice e)=>∃l:List (List D),ds=[.slice (P.cellsOf e) (l.map (mkD P e))]∧l.length≤maxLen∧
    ((l=[]∧d= .nil)∨∃elems spare,d= .slice elems spare∧l.length=elems.length∧∀(j:Nat) (x:List D) (y:DataW H),l[j]? =some x→elems[j]? =some y→Rel P k e x y)
  |some (.struct fs)=>∃ps,d= .agg ps∧RelFs (Rel P k) (fsOf fs) ds ps
  |some (.array n e)=>∃ps,d= .agg ps∧RelFs (Rel P k) (arOf P n e) ds ps
  |_=>False
def Holds (w:World) (cs:List Value) (ds:List D):Prop:=ds.length=cs.length∧∀(j:Nat) (v:Value) (c:D),cs[j]? =some v→ds[j]? =some c→RepD (limOf w) w v c
theorem Holds.append {w:World} {a b:List Value} {x y:List D} (h1:Holds w a x) (h2:Holds w b y):Holds w (a++b) (x++y):=by
 refine⟨by simp[h1.1,h2.1],fun j v c hv hc=> ?_⟩
 by_cases hj:j<a.length
 ·rw[List.getElem?_append_left hj]at hv
  rw[List.getElem?_append_left (by rw[h1.1];exact hj)]at hc
  exact h1.2 j v c hv hc
 ·rw[List.getElem?_append_right (by omega)]at hv
  rw[List.getElem?_append_right (by rw[h1.1];omega),h1.1]at hc
  exact h2.2 _ v c hv hc
theorem Holds.one {w:World} {v:Value} {d:D} (h:RepD (limOf w) w v d):Holds w [v] [d]:=by
 refine⟨rfl,fun j u c hu hc=> ?_⟩
 cases j with
 |zero=>simp at hu hc;subst hu;subst hc;exact h
 |succ j=>simp at hu
section
variable {H:Type} {P:Program} {w:World} {cs:List Value}
theorem k10y {tot:Nat} (htot:cs.length=tot) (ok:Value→Prop) (hok:∀v∈cs,ok v) (R:TypeId→List D→DataW H→Prop) (g:TypeId→List Value→Option (DataW H×List MemPlace)):
  ∀(L:List (TypeId×Nat)) (o:Nat) (xs:List (DataW H×List MemPlace)),tiles P tot L o=true→xs.length=L.length→
   (∀p∈L,∀cs' y,(∀v∈cs',ok v)→g p.1 cs' =some y→∃ds,Holds w cs' ds∧R p.1 ds y.1)→
   (∀(i:Nat) (p:TypeId×Nat),L[i]? =some p→g p.1 ((cs.drop p.2).take (P.cellsOf p.1))=xs[i]?)→
   ∃ds,Holds w (cs.drop o) ds∧RelFs R L ds (xs.map (·.1))
 |[],o,xs,ht,hl,_,_=>by
  simp[tiles]at ht
  have:xs=[]:=by simpa using hl
  subst this
  refine⟨[],⟨?_,?_⟩,rfl,rfl⟩
  ·simp;omega
  ·intro j v c _ hc;simp at hc
 |p::L,o,xs,ht,hl,hg,hx=>by
  simp[tiles]at ht
  obtain⟨h0,ht⟩:=ht
  cases xs with
  |nil=>simp at hl
  |cons y ys=>
   have h1:=hx 0 p rfl
   simp only[List.getElem?_cons_zero]at h1
   obtain⟨d1,hd1,hr1⟩:=hg p (by simp) _ y (fun v hv=>hok v (List.mem_of_mem_drop (List.mem_of_mem_take hv))) h1
   obtain⟨d2,hd2,hr2⟩:=k10y htot ok hok R g L (o+P.cellsOf p.1) ys ht (by simpa using hl) (fun q hq=>hg q (by simp[hq])) (fun i q hq=>by simpa using hx (i+1) q (by simpa using hq))
   refine⟨d1++d2,?_,d1,d2,y.1,_,hr1,hr2,rfl,rfl⟩
   have:=hd1.append hd2
   rw[h0,←List.drop_drop,List.take_append_drop]at this
   exact this
end
section
variable {H:Type} {enc:TypeId×Value→H} {P:Program} {w:World}
theorem rel_mk {k:Nat} {e:TypeId} {x:List D} {d:DataW H} (hr:Rel P k e x d) (h1:∀c∈x,c.one=true):(mkD P e x).cells=x:=by
 cases k with
 |zero=>exact hr.elim
 |succ k=>
  unfold mkD
  split
  ·rfl
  ·rename_i ha
   unfold Rel at hr
   split at hr
   ·obtain⟨b,rfl,_⟩:=hr;rfl
   ·obtain⟨b,rfl,_⟩:=hr;rfl
   ·obtain⟨b,rfl,_⟩:=hr;rfl
   ·obtain⟨b,rfl,_⟩:=hr;rfl
   ·rename_i h;exact absurd (by simp[isAggT,h]) ha
   ·rename_i h;exact absurd (by simp[isAggT,h]) ha
   ·exact hr.elim
theorem kuj:∀(k:Nat) (t:TypeId),dataT P k t=true→∀(n:Nat) (cs:List Value) (y:DataW H×List MemPlace),
  DataW.trod enc P w 0 (fun _=>true) true n t cs=some y→∃ds,Holds w cs ds∧Rel P k t ds y.1
 |0,_,h=>by cases h
 |k+1,t,hT=>by
  intro n cs y h
  unfold dataT at hT
  split at hT
  ·rename_i hu
   obtain⟨b,rfl,rfl⟩:=DataW.trod_bool hu h
   exact⟨[.bool b],Holds.one (.bool b),by simp[Rel,hu]⟩
  ·rename_i q hu
   obtain⟨i,rfl,rfl,hw⟩:=DataW.trod_int hu h
   exact⟨[.int q i],Holds.one (.int q i),by simp[Rel,hu,hw]⟩
  ·rename_i hu
   obtain⟨s,rfl,rfl,hs⟩:=DataW.trod_string hu h
   exact⟨[.str s],Holds.one (.str s),by simp only[Rel,hu];exact⟨s,rfl,rfl⟩⟩
  ·rename_i e hu
   simp only[Bool.and_eq_true,decide_eq_true_eq]at hT
   obtain⟨hpos,hT⟩:=hT
   rcases open_slice hu h with⟨rfl,rfl⟩|⟨a,len,cap,m,n',Dd,Pl,rfl,_,hlc,hcm,hm,rfl,hel⟩
   ·exact⟨[.slice (P.cellsOf e) []],Holds.one (.nil none _),by simp only[Rel,hu];exact⟨[],rfl,Nat.zero_le _,.inl ⟨by trivial,by trivial⟩⟩⟩
   ·simp only[if_true]at hm
    subst hm
    by_cases hm0:m=0
    ·subst hm0
     have hl0:len=0:=by omega
     subst hl0
     refine⟨[.slice (P.cellsOf e) []],Holds.one (.nil (some a) _),?_⟩
     simp only[Rel,hu]
     exact⟨[],rfl,Nat.zero_le _,.inr ⟨_,_,rfl,by simp,by intro j x y hx;simp at hx⟩⟩
    have hel' :∀i,i<len→∃x:List D,∃cs',w.cells? 0 (a.add (i*P.cellsOf e)) (P.cellsOf e)=some cs'∧Holds w cs' x∧Rel P k e x (Dd i):=by
     intro i hi
     obtain⟨cs',h1,h2⟩:=hel i (by omega)
     obtain⟨ds,h3,h4⟩:=kuj k e hT n' cs' _ h2
     exact⟨ds,cs',h1,h3,h4⟩
    obtain⟨f,hf⟩:=choose_lt hel'
    have hspot:a.spot=none:=by
     obtain⟨cs',h1,h2⟩:=hel 0 (by omega)
     have h3:=(World.cells?_some h1).2.2 0 (by omega)
     have h4:=(World.cells?_some h1).2.1
     rw[List.getElem?_eq_getElem (by omega)]at h3
     unfold World.cell? at h3
     split at h3
     ·split at h3
      ·cases h3
      ·rename_i hs;simpa[Addr.add]using hs
     ·cases h3
    obtain⟨b,off,sp⟩:=a
    simp only at hspot
    subst hspot
    have hone:∀i,i<len→∀c∈f i,c.one=true:=by
     intro i hi c hc
     obtain⟨cs',h1,h2,h3⟩:=hf i hi
     obtain⟨j,hj⟩:=List.getElem?_of_mem hc
     have hjl:j<cs'.length:=by rw[←h2.1];exact(List.getElem?_eq_some_iff.1 hj).1
     exact(h2.2 j _ c (List.getElem?_eq_getElem hjl) hj).done
    have hmk:∀i,i<len→(mkD P e (f i)).cells=f i:=fun i hi=>by
     obtain⟨cs',h1,h2,h3⟩:=hf i hi
     exact rel_mk h3 (hone i hi)
    have hsz:∀d∈((List.range len).map f).map (mkD P e),d.cells.length=P.cellsOf e∧∀c∈d.cells,c.one=true:=by
     intro d hd
     simp only[List.map_map,List.mem_map,List.mem_range,Function.comp]at hd
     obtain⟨i,hi,rfl⟩:=hd
     obtain⟨cs',h1,h2,h3⟩:=hf i hi
     rw[hmk i hi]
     exact⟨by rw[h2.1];exact(World.cells?_some h1).2.1,hone i hi⟩
    have hget:∀i,i<len→(((List.range len).map f).map (mkD P e))[i]? =some (mkD P e (f i)):=by
     intro i hi
     simp[List.getElem?_map,List.getElem?_range hi]
    have hfl:=k4e hsz
    simp only[List.length_map,List.length_range]at hfl
    have hat:∀(j:Nat) (u:Value),((List.range (len*P.cellsOf e)).map fun j=>(w.cell? ⟨b,off+j,none⟩).getD undef)[j]? =some u→j<len*P.cellsOf e∧w.cell? ⟨b,off+j,none⟩=some u:=by
     intro j u hu
     have hj:j<len*P.cellsOf e:=by simpa using(List.getElem?_eq_some_iff.1 hu).1
     refine⟨hj,?_⟩
     simp only[List.getElem?_map,List.getElem?_range hj,Option.map_some,Option.some.injEq]at hu
     have hi:j/P.cellsOf e<len:=by rw[Nat.div_lt_iff_lt_mul hpos];exact hj
     have hr:j%P.cellsOf e<P.cellsOf e:=Nat.mod_lt _ hpos
     obtain⟨cs',h1,h2,h3⟩:=hf _ hi
     have e1:j/P.cellsOf e*P.cellsOf e+j%P.cellsOf e=j:=by rw[Nat.mul_comm];exact Nat.div_add_mod j _
     have h4:=(World.cells?_some h1).2.2 _ hr
     have h5:=(World.cells?_some h1).2.1
     have e2:(Addr.add ⟨b,off,none⟩ (j/P.cellsOf e*P.cellsOf e)).add (j%P.cellsOf e)=⟨b,off+j,none⟩:=by
      rw[add_add,e1]
      simp[Addr.add]
     rw[e2,List.getElem?_eq_getElem (by omega)]at h4
     rw[h4]at hu ⊢
     simpa using hu
    refine⟨[.slice (P.cellsOf e) (((List.range len).map f).map (mkD P e))],Holds.one ?_,?_⟩
    ·have:=RepD.slice (m:=limOf w) (w:=w) b off m (P.cellsOf e) (((List.range len).map f).map (mkD P e)) ((List.range (len*P.cellsOf e)).map fun j=>(w.cell? ⟨b,off+j,none⟩).getD undef) (by simpa using hlc) hcm hsz (by rw[hfl];simp) ?_ ?_
     ·simpa using this
     ·intro j u hu
      obtain⟨hj,hcell⟩:=hat j u hu
      exact⟨k1ez hcell,hcell⟩
     ·intro j u c hu hc
      obtain⟨hj,hcell⟩:=hat j u hu
      have hi:j/P.cellsOf e<len:=by rw[Nat.div_lt_iff_lt_mul hpos];exact hj
      have hr:j%P.cellsOf e<P.cellsOf e:=Nat.mod_lt _ hpos
      obtain⟨cs',h1,h2,h3⟩:=hf _ hi
      have e1:j/P.cellsOf e*P.cellsOf e+j%P.cellsOf e=j:=by rw[Nat.mul_comm];exact Nat.div_add_mod j _
      rw[←e1,kyh hsz (hget _ hi) _ hr,hmk _ hi]at hc
      refine h2.2 _ u c ?_ hc
      rw[←(World.cells?_some h1).2.2 _ hr,←hcell]
      congr 1
      rw[add_add,e1]
      simp[Addr.add]
    ·simp only[Rel,hu]
     refine⟨(List.range len).map f,rfl,by simp;omega,.inr ⟨_,_,rfl,by simp,?_⟩⟩
     intro j x y hx hy
     have hj:j<len:=by simpa using(List.getElem?_eq_some_iff.1 hx).1
     simp only[List.getElem?_map,List.getElem?_range hj,Option.map_some,Option.some.injEq]at hx hy
     subst hx;subst hy
     obtain⟨_,_,_,h3⟩:=hf j hj
     exact h3
  ·rename_i fs hu
   simp only[Bool.and_eq_true]at hT
   obtain⟨xs,n',rfl,rfl,hl,hxl,hx⟩:=DataW.trod_struct hu h
   obtain⟨ds,h1,h2⟩:=k10y (P:=P) hl (fun _=>True) (fun _ _=>trivial) (Rel P k) (fun t c=>DataW.trod enc P w 0 (fun _=>true) true n' t c) (fsOf fs) 0 xs hT.1 (by simp[fsOf,hxl])
    (fun p hp cs' y _ hy=>kuj k p.1 (List.all_eq_true.1 hT.2 p hp) n' cs' y hy)
    (fun i p hp=>by
     simp only[fsOf,List.getElem?_map,Option.map_eq_some_iff]at hp
     obtain⟨f,hf,rfl⟩:=hp
     exact hx i f (by simpa using hf))
   exact⟨ds,by simpa using h1,by simp only[Rel,hu];exact⟨_,rfl,h2⟩⟩
  ·rename_i m e hu
   simp only[Bool.and_eq_true]at hT
   obtain⟨xs,n',rfl,rfl,hl,hxl,hx⟩:=DataW.trod_array hu h
   obtain⟨ds,h1,h2⟩:=k10y (P:=P) hl (fun _=>True) (fun _ _=>trivial) (Rel P k) (fun t c=>DataW.trod enc P w 0 (fun _=>true) true n' t c) (arOf P m e) 0 xs hT.1 (by simp[arOf,hxl])
    (fun p hp cs' y _ hy=>by
     simp only[arOf,List.mem_map]at hp
     obtain⟨i,_,rfl⟩:=hp
     exact kuj k e hT.2 n' cs' y hy)
    (fun i p hp=>by
     simp only[arOf,List.getElem?_map,Option.map_eq_some_iff]at hp
     obtain⟨f,hf,rfl⟩:=hp
     obtain⟨hi,rfl⟩:=List.getElem?_eq_some_iff.1 hf
     have hi' :i<m:=by simpa using hi
     simpa using hx i hi')
   exact⟨ds,by simpa using h1,by simp only[Rel,hu];exact⟨_,rfl,h2⟩⟩
  ·cases hT
end
end Go.Bv
namespace Go.Bv
open Go.RowKit Go.ChangeShapes Go.WideShapes
def G0 (W:World):Gh:=⟨fun _=>none,fun _=>none,limOf W⟩
def vOf (P:Program) (t:TypeId) (ds:List D):V:=if isAggT P t then .agg (ds.map V.d)else .d (ds.headD (.bool false))
section
variable {H:Type} {enc:TypeId×Value→H} {P:Program} {W:World}
theorem arg_rep {k:Nat} {r:Reach} {base:Nat} {t:TypeId} {v:Value} {d:DataW H} {ps:List MemPlace} {h:Hp} {nx:Nat} (hT:dataT P k t=true) (hval:Value.okWide P W r base t v)
  (hd:DataW.Trod enc P W 0 (fun _=>true) true t v d ps):∃ds,Rel P k t ds d∧RepV (G0 W) W h nx v (vOf P t ds):=by
 obtain⟨n,hn⟩:=hd
 by_cases ha:isAggT P t=true
 ·have hval' :∃cs,v= .agg cs∧cs.size=P.cellsOf t∧Row.okWide P W r base t cs:=by
   unfold isAggT at ha
   unfold Value.okWide at hval
   split at ha
   ·rename_i h1;rw[h1]at hval;exact hval
   ·rename_i h1;rw[h1]at hval;exact hval
   ·cases ha
  obtain⟨cs,rfl,_,ts,_,_,hc⟩:=hval'
  obtain⟨ds,h1,h2⟩:=kuj k t hT n cs.toList _ hn
  refine⟨ds,h2,?_⟩
  unfold vOf
  rw[if_pos ha]
  have:=RepV.agg (G:=G0 W) (w:=W) (h:=h) (nx:=nx) cs.toList (ds.map V.d) (by simpa using h1.1.symm) ?_ ?_
  ·simpa using this
  ·intro x hx
   obtain⟨c,hcm,rfl⟩:=List.mem_map.1 hx
   obtain⟨j,hj⟩:=List.getElem?_of_mem hcm
   have hjl:j<cs.toList.length:=by have:=h1.1;have:=(List.getElem?_eq_some_iff.1 hj).1;simp[Value.cells]at *;omega
   exact(h1.2 j _ c (List.getElem?_eq_getElem hjl) hj).done
  ·intro j u x hu hx
   rw[List.getElem?_map,Option.map_eq_some_iff]at hx
   obtain⟨c,hcj,rfl⟩:=hx
   exact .d _ _ (h1.2 j u c hu hcj)
 ·have hval' :Cell.okWide P W r base t v:=by
   unfold Value.okWide at hval
   split at hval
   ·rename_i h1;exact absurd (by simp[isAggT,h1]) ha
   ·rename_i h1;exact absurd (by simp[isAggT,h1]) ha
   ·exact hval
  have hcs:v.cells.toList=[v]:=by
   cases v with
   |agg cs=>
    exfalso
    unfold Cell.okWide Cell.ok at hval'
    split at hval'
    all_goals first|(split at hval';all_goals simp_all)|simp_all
   |_=>rfl
  rw[hcs]at hn
  obtain⟨ds,h1,h2⟩:=kuj k t hT n _ _ hn
  refine⟨ds,h2,?_⟩
  unfold vOf
  rw[if_neg ha]
  have hl:=h1.1
  match ds,hl with
  |[c],_=>exact .d _ _ (h1.2 0 v c rfl rfl)
theorem law_of {f:FuncId} {xs:List V} {r:V} (hS:SoundH P f xs [] r []) {vs:List Value} (hlen:vs.length=xs.length)
  (hrep:∀(j:Nat) (v:Value) (x:V),vs[j]? =some v→xs[j]? =some x→RepV (G0 W) W [] 0 v x):
  Calls P f vs.toArray W fun e W' =>(∃v G',e= .returned v∧RepV G' W' [] 0 v r)∧Below W.heap.size W W' :=by
 refine(hS (G0 W) W vs hlen hrep ?_).mono fun e W' hh=> ?_
 ·refine⟨?_,?_,?_,?_,?_,?_⟩
  ·intro id l h;simp[hpOf,Hp.get]at h
  ·intro id es h;simp[hpOf,Hp.get]at h
  ·intro id b h;simp at h
  ·intro i j b h;simp at h
  ·intro id ob h;simp[hpOf,Hp.get]at h
  ·intro b hb
   show limOf W b=0
   unfold limOf
   rw[Array.getElem?_eq_none hb]
 ·obtain⟨v,G',rfl,h1,h2,h3,h4⟩:=hh
  refine⟨⟨v,G',rfl,h1⟩,h3.os,h3.tape,h3.output,h3.size,fun b hb=>(h3.same b hb ?_).1⟩
  rintro ⟨i,hi,_⟩
  simp at hi
def typesOk (P:Program) (ts:List TypeId):Bool:=ts.all fun t=>P.readableRec t&&decide (t<P.types.size)
theorem kzs (hl:laidOutB P=true) {W' :World} (hb:Below W.heap.size W W'):∀{ts:List TypeId} {vs:List Value} {ds:List (DataW H)} {ps:List MemPlace},typesOk P ts=true→
  DataW.TrodAll enc P W 0 (fun _=>true) true ts vs ds ps→(∀x∈ps,x.block<W.heap.size)→DataW.TrodAll enc P W' 0 (fun b=>decide (b<W.heap.size)) true ts vs ds ps
 |[],[],[],_,_,h,_=>h
 |[],[],_::_,_,_,h,_=>h.elim
 |[],_::_,_,_,_,h,_=>h.elim
 |_::_,[],_,_,_,h,_=>h.elim
 |_::_,_::_,[],_,_,h,_=>h.elim
 |t::ts,v::vs,d::ds,ps,ht,h,hp=>by
  simp only[typesOk,List.all_cons,Bool.and_eq_true,decide_eq_true_eq]at ht
  obtain⟨p,q,h1,h2,rfl⟩:=h
  exact⟨p,q,Below.trod hl ht.1.1 ht.1.2 h1 hb (fun x hx=>hp x (by simp[hx])),kzs hl hb (by simpa[typesOk]using ht.2) h2 (fun x hx=>hp x (by simp[hx])),rfl⟩
theorem rel_int {k:Nat} {t:TypeId} {q:IntKind} {ds:List D} {d:DataW H} (hu:P.underlying t=some (.int q)) (h:Rel P (k+1) t ds d):∃i,ds=[.int q i]∧d= .lit (.int q i)∧(Lit.int q i).wf=true:=by unfold Rel at h;rw[hu]at h;exact h
theorem k1es {k:Nat} {t:TypeId} {fs:Array Field} {ds:List D} {d:DataW H} (hu:P.underlying t=some (.struct fs)) (h:Rel P (k+1) t ds d):∃ps,d= .agg ps∧RelFs (Rel P k) (fsOf fs) ds ps:=by unfold Rel at h;rw[hu]at h;exact h
theorem k1fo {k:Nat} {t e:TypeId} {ds:List D} {d:DataW H} {α:Type} [Inhabited α] (f:α→D) (p:α→Prop) (hu:P.underlying t=some (.slice e)) (h:Rel P (k+1) t ds d)
  (tp:∀(x:List D) (y:DataW H),Rel P k e x y→∃a,mkD P e x=f a∧p a):
  ∃l:List α,ds=[.slice (P.cellsOf e) (l.map f)]∧l.length≤maxLen∧(∀a∈l,p a)∧((l=[]∧d= .nil)∨∃elems spare,d= .slice elems spare∧l.length=elems.length):=by
 unfold Rel at h
 rw[hu]at h
 obtain⟨l,rfl,hmx,h⟩:=h
 rcases h with⟨rfl,rfl⟩|⟨elems,spare,rfl,hlen,hh⟩
 ·exact⟨[],rfl,Nat.zero_le _,by simp,.inl ⟨rfl,rfl⟩⟩
 ·have:∀i,i<l.length→∃a,mkD P e (l.getD i [])=f a∧p a:=by
   intro i hi
   refine tp _ _ (hh i _ _ ?_ (List.getElem?_eq_getElem (by omega)))
   simp[List.getElem?_eq_getElem hi]
  obtain⟨g,hg⟩:=Deep.choose_lt this
  refine⟨(List.range l.length).map g,?_,by simpa using hmx,?_,.inr ⟨elems,spare,rfl,by simpa using hlen⟩⟩
  ·have:l.map (mkD P e)=((List.range l.length).map g).map f:=by
    rw[Deep.map_by_index l [] (mkD P e),List.map_map]
    refine List.map_congr_left fun i hi=> ?_
    exact(hg i (by simpa using hi)).1
   rw[this]
  ·intro a ha
   obtain⟨i,hi,rfl⟩:=List.mem_map.1 ha
   exact(hg i (by simpa using hi)).2
theorem k1gu {fn:Func} {s:ChangeSpec} {W' :World} {args:Array Value} {ds:List (DataW H)} {before:List MemPlace} {tb:TypeId} (hv:s.vars=[]) (hW:DataW.Whole enc P fn.params.toList s.vars false W args.toList ds [] before)
  (hl:laidOutB P=true) (hty:typesOk P fn.params.toList=true) (hr:fn.resultTypes= #[tb]) (hub:P.underlying tb=some .bool)
  (h1:(s.fn H (ds++[])).results=[.lit (.bool true)]) (h2:(s.fn H (ds++[])).args=ds) (h3:(s.fn H (ds++[])).vars=[]) (hb:Below W.heap.size W W'):
  s.post enc P fn false true false false W args (.bool true) W' :=by
 have hW' :=hW
 obtain⟨p,q,hA,hV,rfl,_,_⟩:=hW
 have hq:q=[]:=by rw[hv]at hV;exact hV
 subst hq
 refine⟨ds,[],p++[],[],p,[],hW',?_,?_,?_,hb.frame _,fun h=>by cases h⟩
 ·rw[h1,hr]
  exact trodAll_cons_mk (shut_bool hub _) trodAll_mk0
 ·rw[h2]
  exact kzs hl hb hty hA (fun x hx=>by simpa using hW'.lt x (by simpa using hx))
 ·rw[hv,h3]
  rfl
end
structure RelH {H:Type} (P:Program) (k:Nat) (t:TypeId) (ds:List D) (d:DataW H):Prop where
 h:Rel P k t ds d
section
variable {H:Type} {enc:TypeId×Value→H} {P:Program} {W:World} {k:Nat}
theorem relFs_h:∀{L:List (TypeId×Nat)} {ds:List D} {ps:List (DataW H)},RelFs (Rel P k) L ds ps→RelFs (RelH P k) L ds ps
 |[],_,_,h=>h
 |_::_,_,_,⟨d1,d2,p,qs,h1,h2,e1,e2⟩=>⟨d1,d2,p,qs,⟨h1⟩,relFs_h h2,e1,e2⟩
theorem k1bz {t:TypeId} {q:IntKind} {ds:List D} {d:DataW H} (hu:P.underlying t=some (.int q)) (h:RelH P (k+1) t ds d):∃i,ds=[.int q i]∧d= .lit (.int q i)∧(Lit.int q i).wf=true:=rel_int hu h.h
theorem k1ds {t:TypeId} {fs:Array Field} {ds:List D} {d:DataW H} {L:List (TypeId×Nat)} (hu:P.underlying t=some (.struct fs)) (hf:fsOf fs=L) (h:RelH P (k+1) t ds d):∃ps,d= .agg ps∧RelFs (RelH P k) L ds ps:=by
 obtain⟨ps,h1,h2⟩:=k1es hu h.h
 rw[hf]at h2
 exact⟨ps,h1,relFs_h h2⟩
theorem k16z {t e:TypeId} {ds:List D} {d:DataW H} {α:Type} [Inhabited α] (f:α→D) (p:α→Prop) (sz:Nat) (hu:P.underlying t=some (.slice e)) (hs:P.cellsOf e=sz) (h:RelH P (k+1) t ds d)
  (tp:∀(x:List D) (y:DataW H),RelH P k e x y→∃a,mkD P e x=f a∧p a):∃l:List α,ds=[.slice sz (l.map f)]∧l.length≤9223372036854775807∧∀a∈l,p a:=by
 obtain⟨l,h1,h2,h3,_⟩:=k1fo f p hu h.h (fun x y hh=>tp x y ⟨hh⟩)
 subst hs
 exact⟨l,h1,h2,h3⟩
theorem mk_agg {e:TypeId} {ds cs:List D} (ha:isAggT P e=true) (h:ds=(D.agg cs).cells):mkD P e ds= .agg cs:=by subst h;unfold mkD;rw[ha];rfl
theorem mk_one {e:TypeId} {ds:List D} {x:D} (ha:isAggT P e=false) (h:ds=[x]):mkD P e ds=x:=by subst h;unfold mkD;rw[ha];rfl
theorem k14w {r:Reach} {base:Nat} {t:TypeId} {v:Value} {d:DataW H} {ps:List MemPlace} {h:Hp} {nx:Nat} (hT:dataT P k t=true) (hval:Value.okWide P W r base t v)
  (hd:DataW.Trod enc P W 0 (fun _=>true) true t v d ps):∃ds,RelH P k t ds d∧RepV (G0 W) W h nx v (vOf P t ds):=by
 obtain⟨ds,h1,h2⟩:=arg_rep hT hval hd
 exact⟨ds,⟨h1⟩,h2⟩
end
end Go.Bv
namespace Go.Proofs.Ytponaobpcdkggaa
open Go Go.Bv Go.Cv Go.Md Go.RowKit Go.ChangeShapes Go.WideShapes
theorem wf_u8 {i:Int} (h:(Lit.int .u8 i).wf=true):0≤i∧i<256:=by
 simp only[Lit.wf,IntKind.min,IntKind.max,IntKind.signed,IntKind.bits,Bool.and_eq_true]at h
 simp at h
 omega
theorem wf_u64 {i:Int} (h:(Lit.int .u64 i).wf=true):0≤i∧i<18446744073709551616:=by
 simp only[Lit.wf,IntKind.min,IntKind.max,IntKind.signed,IntKind.bits,Bool.and_eq_true]at h
 simp at h
 omega
theorem op22 {H:Type} {k:Nat} {ds:List D} {d:DataW H} (h:RelH Try.prog (k+1) 22 ds d):∃x:Int,ds=[D.int .u64 x]∧(0≤x∧x<18446744073709551616):=by
 obtain⟨i,rfl,_,w⟩:=k1bz (q:= .u64) (show Try.prog.underlying 22=some (.int .u64)by kernel_rfl) h
 exact⟨i,rfl,wf_u64 w⟩
structure kg3 (x:TMessage):Prop where
 Tag:(0≤x.Tag∧x.Tag<18446744073709551616)
 L:(x.L.length≤9223372036854775807∧∀y∈x.L,(0≤y∧y<18446744073709551616))
theorem op23 {H:Type} {k:Nat} {ds:List D} {d:DataW H} (h:RelH Try.prog (k+2) 23 ds d):∃x:List Int,ds=[D.slice 1 (x.map (D.int .u64))]∧(x.length≤9223372036854775807∧∀y∈x,(0≤y∧y<18446744073709551616)):=by
 obtain⟨l,rfl,hm,hl⟩:=k16z (D.int .u64) (fun y=>(0≤y∧y<18446744073709551616)) 1 (show Try.prog.underlying 23=some (.slice 22)by kernel_rfl) (by kernel_rfl) h (fun x y hh=>by
  obtain⟨a,e,ha⟩:=op22 (k:=k+0) hh
  exact⟨a,mk_one (by kernel_rfl) e,ha⟩)
 exact⟨l,rfl,⟨hm,hl⟩⟩
theorem op25 {H:Type} {k:Nat} {ds:List D} {d:DataW H} (h:RelH Try.prog (k+3) 25 ds d):∃x:TMessage,ds=(encTMessage x).cells∧kg3 x:=by
 obtain⟨ps,rfl,h1⟩:=k1ds (L:=[(22,0),(23,1)]) (Try.underlying25) (by kernel_rfl) h
 obtain⟨_,_,_,_,g0,⟨_,_,_,_,g1,⟨rfl,rfl⟩,rfl,rfl⟩,rfl,rfl⟩:=h1
 obtain⟨a0,rfl,r0⟩:=op22 (k:=k+1) g0
 obtain⟨a1,rfl,r1⟩:=op23 (k:=k+0) g1
 exact⟨⟨a0,a1⟩,rfl,⟨r0,r1⟩⟩
theorem op5 {H:Type} {k:Nat} {ds:List D} {d:DataW H} (h:RelH Try.prog (k+1) 5 ds d):∃x:Int,ds=[D.int .u8 x]∧(0≤x∧x<256):=by
 obtain⟨i,rfl,_,w⟩:=k1bz (q:= .u8) (show Try.prog.underlying 5=some (.int .u8)by kernel_rfl) h
 exact⟨i,rfl,wf_u8 w⟩
structure kzb (x:TTranscript):Prop where
 State:(0≤x.State∧x.State<18446744073709551616)
 Count:(0≤x.Count∧x.Count<18446744073709551616)
theorem op40 {H:Type} {k:Nat} {ds:List D} {d:DataW H} (h:RelH Try.prog (k+4) 40 ds d):∃x:List TMessage,ds=[D.slice 2 (x.map encTMessage)]∧(x.length≤9223372036854775807∧∀y∈x,kg3 y):=by
 obtain⟨l,rfl,hm,hl⟩:=k16z encTMessage (fun y=>kg3 y) 2 (show Try.prog.underlying 40=some (.slice 25)by kernel_rfl) (by kernel_rfl) h (fun x y hh=>by
  obtain⟨a,e,ha⟩:=op25 (k:=k+0) hh
  exact⟨a,mk_agg (by kernel_rfl) e,ha⟩)
 exact⟨l,rfl,⟨hm,hl⟩⟩
theorem dt5:dataT Try.prog 1 5=true:=by kernel_rfl
theorem dt22:dataT Try.prog 1 22=true:=by kernel_rfl
theorem dt40:dataT Try.prog 4 40=true:=by kernel_rfl
theorem own:ownKnob Try.prog.godebug=none:=by kernel_rfl
theorem laid:laidOutB Try.prog=true:=by kernel_rfl
end Go.Proofs.Ytponaobpcdkggaa
namespace Go.Md
open Go Go.Bv
theorem u64w (n:Int):IntKind.u64.wrap n=n%18446744073709551616:=IntKind.wrap_u64 n
theorem u8w (n:Int):IntKind.u8.wrap n=n%256:=IntKind.wrap_u8 n
theorem kq1 (k:IntKind) (a b:Int):ishr k a b=a/((2^min b.toNat k.bits:Nat):Int):=by
 unfold ishr
 rw[show(2:Int)^min b.toNat k.bits=((2^min b.toNat k.bits:Nat):Int)from(Int.natCast_pow 2 _).symm,Int.fdiv_eq_ediv_of_nonneg _ (Int.natCast_nonneg _)]
theorem k1ht (a b:Int):ishl .u64 a b=(a*((2^min b.toNat 64:Nat):Int))%18446744073709551616:=by
 unfold ishl
 rw[u64w,show(2:Int)^min b.toNat IntKind.u64.bits=((2^min b.toNat 64:Nat):Int)by rw[show IntKind.u64.bits=64 from rfl];exact(Int.natCast_pow 2 _).symm]
theorem kwc (n:Nat) (h:n<18446744073709551616):(BitVec.ofInt 64 (n:Int)).toNat=n:=by
 rw[BitVec.toNat_ofInt]
 omega
theorem k14m (a b:Nat) (ha:a<18446744073709551616) (hb:b<18446744073709551616):iand .u64 a b=((a&&&b:Nat):Int):=by
 unfold iand
 rw[u64w]
 show(((BitVec.ofInt 64 a&&&BitVec.ofInt 64 b).toNat:Nat):Int)%_=_
 rw[BitVec.toNat_and,kwc a ha,kwc b hb]
 have:=Nat.and_le_left (n:=a) (m:=b)
 omega
theorem ior_nat (a b:Nat) (ha:a<18446744073709551616) (hb:b<18446744073709551616):ior .u64 a b=((a|||b:Nat):Int):=by
 unfold ior
 rw[u64w]
 show(((BitVec.ofInt 64 a|||BitVec.ofInt 64 b).toNat:Nat):Int)%_=_
 rw[BitVec.toNat_or,kwc a ha,kwc b hb]
 have:=Nat.or_lt_two_pow (x:=a) (y:=b) (n:=64) (by omega) (by omega)
 omega
theorem klm (a:Int) (h:0≤a∧a<18446744073709551616):iand .u64 a 4294967295=a%4294967296:=by
 obtain⟨n,rfl⟩:=Int.eq_ofNat_of_zero_le h.1
 have:=k14m n 4294967295 (by omega) (by omega)
 rw[show((4294967295:Nat):Int)=4294967295 from rfl]at this
 rw[this,show(4294967295:Nat)=2^32-1 from rfl,Nat.and_two_pow_sub_one_eq_mod]
 exact Int.natCast_emod _ _
theorem k1h8 (a:Int) (h:0≤a∧a<18446744073709551616):iand .u64 a 1=a%2:=by
 obtain⟨n,rfl⟩:=Int.eq_ofNat_of_zero_le h.1
 have:=k14m n 1 (by omega) (by omega)
 rw[show((1:Nat):Int)=1 from rfl]at this
 rw[this,Nat.and_one_is_mod]
 exact Int.natCast_emod _ _
theorem ior_add' (a c:Nat) (k:Nat) (ha:a<2^k) (h:a+2^k*c<18446744073709551616):ior .u64 ((2^k*c:Nat):Int) a=((a+2^k*c:Nat):Int):=by
 rw[ior_nat _ _ (by omega) (by omega),←Nat.two_pow_add_eq_or_of_lt ha,Nat.add_comm]
theorem ishr32 (a:Int):ishr .u64 a 32=a/4294967296:=kq1 _ _ _
theorem ishr16 (a:Int):ishr .u64 a 16=a/65536:=kq1 _ _ _
theorem ishr8 (a:Int):ishr .u64 a 8=a/256:=kq1 _ _ _
theorem ishr1 (a:Int):ishr .u64 a 1=a/2:=kq1 _ _ _
theorem k1gz (a b:Int) (ha:0≤a∧a<18446744073709551616) (hb:0≤b∧b<18446744073709551616):
  ((a/4294967296*(b/4294967296)+((a/4294967296*(b%4294967296)+a%4294967296*(b%4294967296)/4294967296)/4294967296))+((a/4294967296*(b%4294967296)+a%4294967296*(b%4294967296)/4294967296)%4294967296+a%4294967296*(b/4294967296))/4294967296)=a*b/18446744073709551616∧
  a%4294967296*(b%4294967296)<18446744073709551616∧a/4294967296*(b%4294967296)+a%4294967296*(b%4294967296)/4294967296<18446744073709551616∧
  a%4294967296*(b/4294967296)<18446744073709551616-4294967296∧a/4294967296*(b/4294967296)<18446744065119617026∧0≤a%4294967296*(b%4294967296)∧0≤a/4294967296*(b%4294967296)∧0≤a%4294967296*(b/4294967296)∧0≤a/4294967296*(b/4294967296):=by
 have h1:∀x y:Int,0≤x→x≤4294967295→0≤y→y≤4294967295→0≤x*y∧x*y≤18446744065119617025:=by
  intro x y h0 h1 h2 h3
  exact⟨Int.mul_nonneg h0 h2,by have:=Int.mul_le_mul h1 h3 h2 (by omega);omega⟩
 have a1:=h1 (a%4294967296) (b%4294967296) (by omega) (by omega) (by omega) (by omega)
 have a2:=h1 (a/4294967296) (b%4294967296) (by omega) (by omega) (by omega) (by omega)
 have a3:=h1 (a%4294967296) (b/4294967296) (by omega) (by omega) (by omega) (by omega)
 have a4:=h1 (a/4294967296) (b/4294967296) (by omega) (by omega) (by omega) (by omega)
 have e:a*b=a/4294967296*(b/4294967296)*18446744073709551616+(a/4294967296*(b%4294967296)+a%4294967296*(b/4294967296))*4294967296+a%4294967296*(b%4294967296):=by
  have ea:a=a/4294967296*4294967296+a%4294967296:=by omega
  have eb:b=b/4294967296*4294967296+b%4294967296:=by omega
  conv=>lhs;rw[ea,eb]
  generalize a/4294967296=x
  generalize a%4294967296=y
  generalize b/4294967296=z
  generalize b%4294967296=t
  grind
 generalize a%4294967296*(b%4294967296)=p0 at *
 generalize a/4294967296*(b%4294967296)=p1 at *
 generalize a%4294967296*(b/4294967296)=p2 at *
 generalize a/4294967296*(b/4294967296)=p3 at *
 generalize a*b=ab at *
 refine⟨?_,?_,?_,?_,?_,?_,?_,?_,?_⟩<;>omega
structure Half (U x a b Q:Int):Prop where
 hU:0≤U
 hUv:U<a*4294967296+b
 hx:0≤x∧x<4294967296
 ha:2147483648≤a∧a<4294967296
 hb:0≤b∧b<4294967296
 hQ:Q=(U*4294967296+x)/(a*4294967296+b)
theorem Half.q {U x a b Q:Int} (h:Half U x a b Q):0≤Q∧Q<4294967296∧Q*(a*4294967296+b)≤U*4294967296+x∧U*4294967296+x<(Q+1)*(a*4294967296+b):=by
 obtain⟨h1,h2,h3,h4,h5,h6⟩:=h
 have hv:0<a*4294967296+b:=by omega
 have e:=Int.emod_add_mul_ediv (U*4294967296+x) (a*4294967296+b)
 have l:=Int.emod_nonneg (U*4294967296+x) (by omega:a*4294967296+b≠0)
 have r:=Int.emod_lt_of_pos (U*4294967296+x) hv
 rw[←h6]at e
 generalize hvv:a*4294967296+b=v at *
 have e2:(Q+1)*v=Q*v+v:=by grind
 have e3:v*Q=Q*v:=by grind
 have q0:0≤Q:=by
  rw[h6]
  exact Int.ediv_nonneg (by omega) (by omega)
 have q1:Q<4294967296:=by
  rw[h6]
  exact Int.ediv_lt_of_lt_mul hv (by omega)
 refine⟨q0,q1,by omega,by omega⟩
theorem Half.exit {U x a b Q q r:Int} (h:Half U x a b Q) (e:q*a+r=U) (hq:Q≤q) (h2:q*b≤r*4294967296+x):q=Q:=by
 obtain⟨q0,q1,q2,q3⟩:=h.q
 have h4:=h.ha
 have:q*(a*4294967296+b)≤U*4294967296+x:=by
  have:q*(a*4294967296+b)=q*a*4294967296+q*b:=by grind
  rw[this]
  generalize q*a=qa at *
  omega
 have h5:q<Q+1:=by
  have hv:0<a*4294967296+b:=by have:=h.hb;omega
  exact Int.lt_of_mul_lt_mul_right (by omega) (Int.le_of_lt hv)
 omega
theorem Half.down {U x a b Q q r:Int} (h:Half U x a b Q) (e:q*a+r=U) (h2:4294967296≤q∨r*4294967296+x<q*b):Q≤q-1:=by
 obtain⟨q0,q1,q2,q3⟩:=h.q
 rcases h2 with h2|h2
 ·omega
 ·have:U*4294967296+x<q*(a*4294967296+b):=by
   have:q*(a*4294967296+b)=q*a*4294967296+q*b:=by grind
   rw[this]
   generalize q*a=qa at *
   omega
  have h5:Q<q:=by
   have hv:0<a*4294967296+b:=by have:=h.hb;have:=h.ha;omega
   exact Int.lt_of_mul_lt_mul_right (a:=a*4294967296+b) (by omega) (Int.le_of_lt hv)
  omega
theorem Half.small {U x a b Q q r:Int} (h:Half U x a b Q) (e:q*a+r=U) (hr:4294967296≤r):q<4294967296:=by
 have h2:=h.hUv
 have h4:=h.ha
 have h5:=h.hb
 have:q*a<4294967296*a:=by generalize q*a=qa at *;omega
 exact Int.lt_of_mul_lt_mul_right this (by omega)
theorem Half.done {U x a b Q q r:Int} (h:Half U x a b Q) (e:q*a+r=U) (hq:Q≤q) (hr:4294967296≤r):q=Q:=by
 refine h.exit e hq ?_
 have h1:=h.small e hr
 obtain⟨q0,_⟩:=h.q
 have h5:=h.hb
 have h6:=h.hx
 have:q*b≤4294967296*4294967296:=Int.mul_le_mul (by omega) (by omega) (by omega) (by omega)
 omega
theorem Half.rest {U x a b Q:Int} (h:Half U x a b Q):(U*4294967296+x)-Q*(a*4294967296+b)=(U*4294967296+x)%(a*4294967296+b)∧0≤(U*4294967296+x)%(a*4294967296+b)∧(U*4294967296+x)%(a*4294967296+b)<a*4294967296+b:=by
 have hv:0<a*4294967296+b:=by have:=h.hb;have:=h.ha;omega
 have e:=Int.emod_add_mul_ediv (U*4294967296+x) (a*4294967296+b)
 rw[←h.hQ]at e
 have:=Int.mul_comm (a*4294967296+b) Q
 exact⟨by omega,Int.emod_nonneg _ (by omega),Int.emod_lt_of_pos _ hv⟩
theorem k1eg {N y p U un1 un0 Q1 R1 Q0 R0:Int} (hp:0<p) (hy:0<y) (hN:N*p=U*18446744073709551616+un1*4294967296+un0) (h1:U*4294967296+un1-Q1*(y*p)=R1) (h0:R1*4294967296+un0-Q0*(y*p)=R0)
  (hr:0≤R0∧R0<y*p):Q1*4294967296+Q0=N/y∧R0/p=N%y:=by
 have e:N*p=(Q1*4294967296+Q0)*(y*p)+R0:=by
  rw[hN]
  have:(Q1*4294967296+Q0)*(y*p)=Q1*(y*p)*4294967296+Q0*(y*p):=by grind
  rw[this]
  generalize Q1*(y*p)=a at *
  generalize Q0*(y*p)=b at *
  omega
 have e2:R0=(N-(Q1*4294967296+Q0)*y)*p:=by grind
 have h3:0≤N-(Q1*4294967296+Q0)*y:=by
  rcases Int.lt_or_le (N-(Q1*4294967296+Q0)*y) 0 with h|h
  ·exfalso
   have:(N-(Q1*4294967296+Q0)*y)*p<0:=Int.mul_neg_of_neg_of_pos h hp
   omega
  ·exact h
 have h4:N-(Q1*4294967296+Q0)*y<y:=by
  refine Int.lt_of_mul_lt_mul_right (a:=p) ?_ (Int.le_of_lt hp)
  omega
 have e3:N=(N-(Q1*4294967296+Q0)*y)+y*(Q1*4294967296+Q0):=by grind
 constructor
 ·conv=>rhs;rw[e3]
  rw[Int.add_mul_ediv_left _ _ (by omega),Int.ediv_eq_zero_of_lt h3 h4]
  omega
 ·rw[e2,Int.mul_ediv_cancel _ (by omega)]
  conv=>rhs;rw[e3]
  rw[Int.add_mul_emod_self_left,Int.emod_eq_of_lt h3 h4]
end Go.Md
namespace Go.Md
open Go Go.Bv
theorem ix_nat {α:Type} [Inhabited α] (l:List α) (i:Int) (h0:0≤i) (h1:i<(l.length:Int)):ix l i=l[i.toNat]'(by omega):=by
 have:i.toNat<l.length:=by omega
 simp[ix,this]
theorem ix_mem {α:Type} [Inhabited α] (l:List α) (i:Int) (h0:0≤i) (h1:i<(l.length:Int)):ix l i∈l:=by
 rw[ix_nat l i h0 h1];exact List.getElem_mem _
theorem inc (i n:Int) (h0:0≤i) (h:i<n) (hn:n≤9223372036854775807):IntKind.i64.wrap (i+1)=i+1:=k1cs _ (by omega) (by omega)
theorem wi (n:Int) (h0: -9223372036854775808≤n) (h:n≤9223372036854775807):IntKind.i64.wrap n=n:=k1cs n h0 (by omega)
theorem wu (n:Int) (h0:0≤n) (h:n≤18446744073709551615):IntKind.u64.wrap n=n:=wrap_u64 n h0 (by omega)
theorem tdiv_nn (a b:Int) (h:0≤a):Int.tdiv a b=a/b:=Int.tdiv_eq_ediv_of_nonneg h
theorem tmod_nn (a b:Int) (h:0≤a):Int.tmod a b=a%b:=Int.tmod_eq_emod_of_nonneg h
theorem kei {α:Type} [Inhabited α] (l:List α) (i:Int) (h0:0≤i) (h1:i<(l.length:Int)):l.take (i+1).toNat=l.take i.toNat++[ix l i]:=by
 rw[ix_nat l i h0 h1,show(i+1).toNat=i.toNat+1 by omega,List.take_succ_eq_append_getElem (by omega)]
theorem drop_ix {α:Type} [Inhabited α] (l:List α) (i:Int) (h0:0≤i) (h1:i<(l.length:Int)):l.drop i.toNat=ix l i::l.drop (i+1).toNat:=by
 rw[ix_nat l i h0 h1,show(i+1).toNat=i.toNat+1 by omega]
 exact List.drop_eq_getElem_cons (by omega)
theorem kyi (a m:Int):∀k:Nat,(a%m)^k%m=a^k%m
 |0=>by simp
 |k+1=>by rw[Int.pow_succ,Int.pow_succ,Int.mul_emod,kyi a m k,Int.emod_emod_of_dvd _ (Int.dvd_refl _),←Int.mul_emod]
abbrev U64 (n:Int):Prop:=0≤n∧n<18446744073709551616
abbrev By (l:List Int):Prop:=∀x∈l,0≤x∧x<256
abbrev Us (l:List Int):Prop:=∀x∈l,0≤x∧x<18446744073709551616
def dig:Nat→Int→List Int
 |0,_=>[]
 |k+1,n=>n%256::dig k (n/256)
def val:List Int→Int
 |[]=>0
 |x::r=>x+256*val r
@[simp] theorem ko6:∀(k:Nat) (n:Int),(dig k n).length=k
 |0,_=>rfl
 |k+1,n=>by simp[dig,ko6 k]
theorem k13k (k:Nat):(256:Int)^(k+1)=256*256^k:=by rw[Int.pow_succ,Int.mul_comm]
theorem k1eh (k:Nat):(0:Int)<256^k:=Int.pow_pos (by omega)
theorem k1cj:∀(k:Nat) (n:Int),dig (k+1) n=dig k n++[n/256^k%256]
 |0,n=>by simp[dig]
 |k+1,n=>by
  show n%256::dig (k+1) (n/256)=n%256::dig k (n/256)++_
  rw[k1cj k (n/256),k13k,Int.ediv_ediv_of_nonneg (by omega)]
  rfl
theorem dig_by:∀(k:Nat) (n:Int),By (dig k n)
 |0,_=>by intro x hx;cases hx
 |k+1,n=>by
  intro x hx
  rcases List.mem_cons.1 hx with rfl|hx
  ·omega
  ·exact dig_by k _ x hx
theorem val_dig:∀(k:Nat) (n:Int),0≤n→n<256^k→val (dig k n)=n
 |0,n,h0,h=>by simp at h;simp[dig,val];omega
 |k+1,n,h0,h=>by
  rw[k13k]at h
  simp only[dig,val]
  rw[val_dig k (n/256) (by omega) (Int.ediv_lt_of_lt_mul (by omega) (by rw[Int.mul_comm];exact h))]
  omega
theorem dig_inj {k:Nat} {a b:Int} (ha:0≤a∧a<256^k) (hb:0≤b∧b<256^k) (h:dig k a=dig k b):a=b:=by
 rw[←val_dig k a ha.1 ha.2,h,val_dig k b hb.1 hb.2]
def len4 (n:Int):Int:=if n<0∨4294967295<n then 0 else n
def encL (l:List Int):List Int:=dig 4 (len4 l.length)++l.flatMap (dig 8)
def encB (l:List Int):List Int:=dig 4 (len4 l.length)++l
theorem k119 (l:List Int):(l.flatMap (dig 8)).length=8*l.length:=by
 induction l with
 |nil=>rfl
 |cons x r ih=>rw[List.flatMap_cons,List.length_append,ih,ko6,List.length_cons];omega
@[simp] theorem k1hw (l:List Int):(encL l).length=4+8*l.length:=by rw[encL,List.length_append,k119,ko6]
@[simp] theorem k1hx (l:List Int):(encB l).length=4+l.length:=by simp[encB]
theorem By.append {a b:List Int} (ha:By a) (hb:By b):By (a++b):=fun x hx=>(List.mem_append.1 hx).elim (ha x) (hb x)
theorem kz2 (l:List Int):By (l.flatMap (dig 8)):=fun x hx=>by
 obtain⟨y,_,hy⟩:=List.mem_flatMap.1 hx
 exact dig_by 8 y x hy
theorem By.take {l:List Int} (h:By l) (n:Nat):By (l.take n):=fun x hx=>h x (List.mem_of_mem_take hx)
theorem By.drop {l:List Int} (h:By l) (n:Nat):By (l.drop n):=fun x hx=>h x (List.mem_of_mem_drop hx)
theorem By.us {l:List Int} (h:By l):Us l:=fun x hx=>by have:=h x hx;omega
theorem ba_loop (b:ByteArray):∀(k i:Nat) (r:List UInt8),b.size-i=k→i≤b.size→ByteArray.toList.loop b i r=r.reverse++b.data.toList.drop i
 |0,i,r,h,hi=>by
  unfold ByteArray.toList.loop
  have hs:b.data.toList.length=b.size:=by rw[Array.length_toList];rfl
  rw[if_neg (by omega),List.drop_eq_nil_of_le (by omega),List.append_nil]
 |k+1,i,r,h,hi=>by
  unfold ByteArray.toList.loop
  have hs:b.data.toList.length=b.size:=by rw[Array.length_toList];rfl
  rw[if_pos (by omega),ba_loop b k (i+1) _ (by omega) (by omega),List.reverse_cons,List.append_assoc,List.drop_eq_getElem_cons (l:=b.data.toList) (i:=i) (by omega)]
  have e:b.get! i=b.data.toList[i]'(by omega):=by
   show b.data[i]! =_
   rw[getElem!_pos b.data i (show i<b.size by omega)]
   exact(Array.getElem_toList _).symm
  rw[e];rfl
theorem k18z (b:ByteArray):b.toList=b.data.toList:=by
 have:=ba_loop b _ 0 [] rfl (by omega)
 simpa[ByteArray.toList]using this
theorem k19a:∀{l m:List Int},By l→By m→(l.map fun n=>UInt8.ofNat n.toNat)=(m.map fun n=>UInt8.ofNat n.toNat)→l=m
 |[],[],_,_,_=>rfl
 |[],_::_,_,_,h=>by cases h
 |_::_,[],_,_,h=>by cases h
 |x::l,y::m,hl,hm,h=>by
  rw[List.map_cons,List.map_cons,List.cons.injEq]at h
  have e:=k19a (fun z hz=>hl z (by simp[hz])) (fun z hz=>hm z (by simp[hz])) h.2
  have h1:=hl x (by simp)
  have h2:=hm y (by simp)
  have h3:=congrArg UInt8.toNat h.1
  simp only[UInt8.toNat_ofNat']at h3
  rw[e,show x=y by omega]
theorem strEq {l m:List Int} (hl:By l) (hm:By m):((strOfNums l).toList==(strOfNums m).toList)=decide (l=m):=by
 rw[k18z,k18z,strOfNums_data,strOfNums_data]
 by_cases e:l=m
 ·subst e;simp
 ·rw[decide_eq_false e]
  rw[beq_eq_false_iff_ne]
  exact fun h=>e (k19a hl hm h)
end Go.Md
namespace Go.Md
open Go Go.Bv
def len64 (x:Int):Int:=if x=0 then 0 else(Nat.log2 x.toNat+1:Nat)
theorem kx2 (x:Int) (k:Nat) (h:((2^k:Nat):Int)≤x):len64 (x/((2^k:Nat):Int))+k=len64 x:=by
 obtain⟨n,rfl⟩:=Int.eq_ofNat_of_zero_le (by have:=Nat.two_pow_pos k;omega:0≤x)
 have hp:0<2^k:=Nat.two_pow_pos k
 have hn:2^k≤n:=by omega
 have e:((n:Int)/((2^k:Nat):Int))=((n/2^k:Nat):Int):=(Int.natCast_ediv _ _).symm
 have h1:0<n/2^k:=Nat.div_pos hn hp
 unfold len64
 rw[e,if_neg (by omega),if_neg (by omega),Int.toNat_natCast,Int.toNat_natCast]
 have:Nat.log2 n=Nat.log2 (n/2^k)+k:=by
  rw[Nat.log2_eq_iff (by omega)]
  have a:=Nat.log2_self_le (n:=n/2^k) (by omega)
  have b:=Nat.lt_log2_self (n:=n/2^k)
  rw[Nat.le_div_iff_mul_le hp]at a
  rw[Nat.div_lt_iff_lt_mul hp]at b
  constructor
  ·rw[Nat.pow_add];exact a
  ·rw[show Nat.log2 (n/2^k)+k+1=Nat.log2 (n/2^k)+1+k by omega,Nat.pow_add];exact b
 omega
theorem k176 (y:Int) (h:0<y∧y<18446744073709551616):∃s:Nat,64-len64 y=(s:Int)∧s≤63∧9223372036854775808≤y*((2^s:Nat):Int)∧y*((2^s:Nat):Int)<18446744073709551616:=by
 obtain⟨n,rfl⟩:=Int.eq_ofNat_of_zero_le (by omega:0≤y)
 have l:Nat.log2 n<64:=(Nat.log2_lt (by omega)).2 (by omega)
 have a:=Nat.log2_self_le (n:=n) (by omega)
 have b:=Nat.lt_log2_self (n:=n)
 refine⟨63-Nat.log2 n,?_,by omega,?_,?_⟩
 ·unfold len64
  rw[if_neg (by omega),Int.toNat_natCast]
  omega
 ·have:2^63≤n*2^(63-Nat.log2 n):=by
   rw[show(63:Nat)=Nat.log2 n+(63-Nat.log2 n)by omega,Nat.pow_add,show Nat.log2 n+(63-Nat.log2 n)-Nat.log2 n=63-Nat.log2 n by omega]
   exact Nat.mul_le_mul_right _ a
  rw[←Int.natCast_mul]
  generalize n*2^(63-Nat.log2 n)=m at *
  omega
 ·have:n*2^(63-Nat.log2 n)<2^64:=by
   rw[show(64:Nat)=Nat.log2 n+1+(63-Nat.log2 n)by omega,Nat.pow_add]
   exact Nat.mul_lt_mul_of_pos_right b (Nat.two_pow_pos _)
  rw[←Int.natCast_mul]
  generalize n*2^(63-Nat.log2 n)=m at *
  omega
def tab8:ByteArray:=⟨#[0,1,2,2,3,3,3,3,4,4,4,4,4,4,4,4,5,5,5,5,5,5,5,5,5,5,5,5,5,5,5,5,6,6,6,6,6,6,6,6,6,6,6,6,6,6,6,6,6,6,6,6,6,6,6,6,6,6,6,6,6,6,6,6,7,7,7,7,7,7,7,7,7,7,7,7,7,7,7,7,7,7,7,7,7,7,7,7,7,7,7,7,7,7,7,7,7,7,7,7,7,7,7,7,7,7,7,7,7,7,7,7,7,7,7,7,7,7,7,7,7,7,7,7,7,7,7,7,8,8,8,8,8,8,8,8,8,8,8,8,8,8,8,8,8,8,8,8,8,8,8,8,8,8,8,8,8,8,8,8,8,8,8,8,8,8,8,8,8,8,8,8,8,8,8,8,8,8,8,8,8,8,8,8,8,8,8,8,8,8,8,8,8,8,8,8,8,8,8,8,8,8,8,8,8,8,8,8,8,8,8,8,8,8,8,8,8,8,8,8,8,8,8,8,8,8,8,8,8,8,8,8,8,8,8,8,8,8,8,8,8,8,8,8,8,8,8,8,8,8,8,8,8,8,8,8]⟩
theorem k1hs:∀b:Nat,b<256→Cv.byteAt tab8 (b:Int)=len64 (b:Int):=by decide +kernel
theorem k1co (x:Int) (h:0≤x∧x<256):Cv.byteAt tab8 x=len64 x:=by
 obtain⟨n,rfl⟩:=Int.eq_ofNat_of_zero_le h.1
 exact k1hs n (by omega)
theorem k1e4 (x:Int) (h:0≤x∧x<256):0≤len64 x∧len64 x≤8:=by
 rw[←k1co x h]
 obtain⟨n,rfl⟩:=Int.eq_ofNat_of_zero_le h.1
 have:∀b:Nat,b<256→0≤Cv.byteAt tab8 (b:Int)∧Cv.byteAt tab8 (b:Int)≤8:=by decide +kernel
 exact this n (by omega)
theorem k1g4:tab8.size=256:=by decide +kernel
end Go.Md
namespace Go.Md
open Go Go.Bv Go.Cv Go.Md Go.RowKit
section
variable {α β:Type}
def AllI (f:α→Bool) (l:List α) (i:Int):Prop:=0≤i∧i≤l.length∧∀x∈l.take i.toNat,f x=true
theorem AllI.start {f:α→Bool} {l:List α}:AllI f l 0:=⟨by omega,by omega,by simp⟩
theorem AllI.next [Inhabited α] {f:α→Bool} {l:List α} {i:Int} (h:AllI f l i) (hh:i<l.length) (hl:(l.length:Int)≤9223372036854775807) (hf:f (ix l i)=true):
  AllI f l (IntKind.i64.wrap (i+1))∧(l.length-IntKind.i64.wrap (i+1)).toNat<(l.length-i).toNat:=by
 obtain⟨g0,g1,g2⟩:=h
 rw[inc i l.length g0 hh hl]
 refine⟨⟨by omega,by omega,?_⟩,by omega⟩
 rw[kei l i g0 hh]
 intro x hx
 rcases List.mem_append.1 hx with hx|hx
 ·exact g2 x hx
 ·have:x=ix l i:=by simpa using hx
  rw[this];exact hf
theorem AllI.bad [Inhabited α] {f:α→Bool} {l:List α} {i:Int} (h:AllI f l i) (hh:i<l.length) (hf:f (ix l i)=false):l.all f=false:=
 List.all_eq_false.2 ⟨ix l i,Md.ix_mem l i h.1 hh,by simp[hf]⟩
theorem AllI.done {f:α→Bool} {l:List α} {i:Int} (h:AllI f l i) (hh:¬i<l.length):l.all f=true:=by
 obtain⟨g0,g1,g2⟩:=h
 rw[List.take_of_length_le (by omega)]at g2
 exact List.all_eq_true.2 g2
def FoldI (f:β→α→β) (z:β) (l:List α) (i:Int) (s:β):Prop:=0≤i∧i≤l.length∧s=(l.take i.toNat).foldl f z
theorem FoldI.start {f:β→α→β} {z:β} {l:List α}:FoldI f z l 0 z:=⟨by omega,by omega,by simp⟩
theorem FoldI.next [Inhabited α] {f:β→α→β} {z:β} {l:List α} {i:Int} {s s' :β} (h:FoldI f z l i s) (hh:i<l.length) (hl:(l.length:Int)≤9223372036854775807) (hs:s' =f s (ix l i)):
  FoldI f z l (IntKind.i64.wrap (i+1)) s'∧(l.length-IntKind.i64.wrap (i+1)).toNat<(l.length-i).toNat:=by
 obtain⟨g0,g1,g2⟩:=h
 rw[inc i l.length g0 hh hl]
 refine⟨⟨by omega,by omega,?_⟩,by omega⟩
 rw[kei l i g0 hh,List.foldl_append,←g2,hs]
 rfl
theorem FoldI.done {f:β→α→β} {z:β} {l:List α} {i:Int} {s:β} (h:FoldI f z l i s) (hh:¬i<l.length):s=l.foldl f z:=by
 obtain⟨g0,g1,g2⟩:=h
 rwa [List.take_of_length_le (by omega)]at g2
def FlatI (f:α→List β) (z:List β) (l:List α) (i:Int) (s:List β):Prop:=0≤i∧i≤l.length∧s=z++(l.take i.toNat).flatMap f
theorem FlatI.start {f:α→List β} {z:List β} {l:List α}:FlatI f z l 0 z:=⟨by omega,by omega,by simp⟩
theorem FlatI.next [Inhabited α] {f:α→List β} {z:List β} {l:List α} {i:Int} {s s' :List β} (h:FlatI f z l i s) (hh:i<l.length) (hl:(l.length:Int)≤9223372036854775807) (hs:s' =s++f (ix l i)):
  FlatI f z l (IntKind.i64.wrap (i+1)) s'∧(l.length-IntKind.i64.wrap (i+1)).toNat<(l.length-i).toNat:=by
 obtain⟨g0,g1,g2⟩:=h
 rw[inc i l.length g0 hh hl]
 refine⟨⟨by omega,by omega,?_⟩,by omega⟩
 rw[kei l i g0 hh,List.flatMap_append,hs,g2]
 simp
theorem FlatI.done {f:α→List β} {z:List β} {l:List α} {i:Int} {s:List β} (h:FlatI f z l i s) (hh:¬i<l.length):s=z++l.flatMap f:=by
 obtain⟨g0,g1,g2⟩:=h
 rwa [List.take_of_length_le (by omega)]at g2
theorem FlatI.len {f:α→List β} {z:List β} {l:List α} {i:Int} {s:List β} (h:FlatI f z l i s) (k:Nat) (hk:∀x∈l,(f x).length≤k):s.length≤z.length+k*l.length:=by
 obtain⟨g0,g1,g2⟩:=h
 have key:∀(m:List α),(∀x∈m,(f x).length≤k)→(m.flatMap f).length≤k*m.length:=by
  intro m
  induction m with
  |nil=>simp
  |cons a m ih=>
   intro hm
   have h1:=ih (fun x hx=>hm x (by simp[hx]))
   have h2:=hm a (by simp)
   rw[List.flatMap_cons,List.length_append,List.length_cons,Nat.mul_add]
   omega
 have h1:=key (l.take i.toNat) (fun x hx=>hk x (List.mem_of_mem_take hx))
 have h2:k*(l.take i.toNat).length≤k*l.length:=Nat.mul_le_mul_left _ (by rw[List.length_take];omega)
 rw[g2,List.length_append]
 omega
def MapI (f:α→β) (l:List α) (i:Int) (s:List β):Prop:=0≤i∧i≤l.length∧s=(l.take i.toNat).map f
theorem MapI.start {f:α→β} {l:List α}:MapI f l 0 []:=⟨by omega,by omega,by simp⟩
theorem MapI.next [Inhabited α] {f:α→β} {l:List α} {i:Int} {s s' :List β} (h:MapI f l i s) (hh:i<l.length) (hl:(l.length:Int)≤9223372036854775807) (hs:s' =s++[f (ix l i)]):
  MapI f l (IntKind.i64.wrap (i+1)) s'∧(l.length-IntKind.i64.wrap (i+1)).toNat<(l.length-i).toNat:=by
 obtain⟨g0,g1,g2⟩:=h
 rw[inc i l.length g0 hh hl]
 refine⟨⟨by omega,by omega,?_⟩,by omega⟩
 rw[kei l i g0 hh,List.map_append,hs,g2]
 simp
theorem MapI.done {f:α→β} {l:List α} {i:Int} {s:List β} (h:MapI f l i s) (hh:¬i<l.length):s=l.map f:=by
 obtain⟨g0,g1,g2⟩:=h
 rwa [List.take_of_length_le (by omega)]at g2
theorem MapI.len {f:α→β} {l:List α} {i:Int} {s:List β} (h:MapI f l i s):s.length=i.toNat:=by
 obtain⟨g0,g1,g2⟩:=h
 rw[g2,List.length_map,List.length_take];omega
def EqI [Inhabited α] (f:α→α→Bool) (l m:List α) (i:Int):Prop:=0≤i∧i≤l.length∧∀j:Nat,(j:Int)<i→f (ix l j) (ix m j)=true
theorem EqI.start [Inhabited α] {f:α→α→Bool} {l m:List α}:EqI f l m 0:=⟨by omega,by omega,fun j hj=>by omega⟩
theorem EqI.next [Inhabited α] {f:α→α→Bool} {l m:List α} {i:Int} (h:EqI f l m i) (hh:i<l.length) (hl:(l.length:Int)≤9223372036854775807) (hf:f (ix l i) (ix m i)=true):
  EqI f l m (IntKind.i64.wrap (i+1))∧(l.length-IntKind.i64.wrap (i+1)).toNat<(l.length-i).toNat:=by
 obtain⟨g0,g1,g2⟩:=h
 rw[inc i l.length g0 hh hl]
 refine⟨⟨by omega,by omega,fun j hj=> ?_⟩,by omega⟩
 by_cases hji:(j:Int)=i
 ·rw[hji];exact hf
 ·exact g2 j (by omega)
def eqB (f:α→α→Bool):List α→List α→Bool
 |[],[]=>true
 |a::l,b::m=>f a b&&eqB f l m
 |_,_=>false
theorem eqB_iff [Inhabited α] {f:α→α→Bool}:∀{l m:List α},eqB f l m=true↔l.length=m.length∧∀j:Nat,j<l.length→f (ix l (j:Int)) (ix m (j:Int))=true
 |[],[]=>by simp[eqB]
 |[],_::_=>by simp[eqB]
 |_::_,[]=>by simp[eqB]
 |a::l,b::m=>by
  have e:∀(a:α) (l:List α) (j:Nat),j<l.length→ix (a::l) ((j+1:Nat):Int)=ix l (j:Int):=by
   intro a l j hj
   rw[ix_nat _ _ (by omega) (by simp;omega),ix_nat _ _ (by omega) (by omega)]
   rfl
  have e0:∀(a:α) (l:List α),ix (a::l) ((0:Nat):Int)=a:=fun a l=>by rw[ix_nat _ _ (by omega) (by simp)];rfl
  simp only[eqB,Bool.and_eq_true,eqB_iff,List.length_cons]
  constructor
  ·rintro ⟨h1,h2,h3⟩
   refine⟨by omega,fun j hj=> ?_⟩
   cases j with
   |zero=>rw[e0,e0];exact h1
   |succ j=>rw[e a l j (by omega),e b m j (by omega)];exact h3 j (by omega)
  ·rintro ⟨h1,h2⟩
   have h3:=h2 0 (by omega)
   rw[e0,e0]at h3
   refine⟨h3,by omega,fun j hj=> ?_⟩
   have:=h2 (j+1) (by omega)
   rwa [e a l j (by omega),e b m j (by omega)]at this
theorem EqI.bad [Inhabited α] {f:α→α→Bool} {l m:List α} {i:Int} (h:EqI f l m i) (hh:i<l.length) (hf:f (ix l i) (ix m i)=false):eqB f l m=false:=by
 cases hq:eqB f l m with
 |false=>rfl
 |true=>
  have h0:=h.1
  have:=(eqB_iff.1 hq).2 i.toNat (by omega)
  rw[Int.toNat_of_nonneg h.1,hf]at this
  cases this
theorem EqI.done [Inhabited α] {f:α→α→Bool} {l m:List α} {i:Int} (h:EqI f l m i) (hlm:l.length=m.length) (hh:¬i<l.length):eqB f l m=true:=
 eqB_iff.2 ⟨hlm,fun j hj=>h.2.2 j (by omega)⟩
end
theorem k18t {α:Type} {p:α→Bool}:∀{l:List α},mIdx p l=none↔∀x∈l,p x=false
 |[]=>by simp[mIdx]
 |x::l=>by
  cases hp:p x with
  |true=>simp[mIdx,hp]
  |false=>simp only[mIdx,hp,cond_false,Option.map_eq_none_iff,k18t,List.mem_cons,forall_eq_or_imp,true_and]
theorem k11b {α:Type} {p:α→Bool}:∀{l:List α} {j:Nat},mIdx p l=some j→∃x,l[j]? =some x∧p x=true
 |[],_,h=>by cases h
 |x::l,j,h=>by
  cases hp:p x with
  |true=>simp only[mIdx,hp,cond_true,Option.some.injEq]at h;subst h;exact⟨x,rfl,hp⟩
  |false=>
   simp only[mIdx,hp,cond_false,Option.map_eq_some_iff]at h
   obtain⟨i,h1,rfl⟩:=h
   obtain⟨y,h2,h3⟩:=k11b h1
   exact⟨y,by simpa using h2,h3⟩
@[simp] theorem k1hz {α:Type} (p:α→Bool):mHas p []=false:=rfl
@[simp] theorem k1hy {α β:Type} (p:α→Bool) (z:β) (vs:List β):mVal p [] vs z=z:=rfl
theorem k1hj {α β:Type} {p:α→Bool} {ks:List α} {vs:List β} {z:β} (h:mHas p ks=true) (hl:ks.length=vs.length):mVal p ks vs z∈vs:=by
 unfold mHas at h
 unfold mVal
 cases hm:mIdx p ks with
 |none=>rw[hm]at h;cases h
 |some j=>
  obtain⟨x,h1,h2⟩:=k11b hm
  have hj:j<vs.length:=by have:=(List.getElem?_eq_some_iff.1 h1).1;omega
  simp only[List.getElem?_eq_getElem hj,Option.getD_some]
  exact List.getElem_mem hj
end Go.Md
namespace Go.Proofs.Ytponaobpcdkggaa
open Go Go.Bv Go.Cv Go.Md Go.RowKit
def rc (r i:Int):Int:=(3*r+i+1)*11400714819323198485%18446744073709551616%18446744069414584321
def mixS (s:TA3):TA3:=⟨(s.a0+((s.a0+s.a1)%18446744069414584321+s.a2)%18446744069414584321)%18446744069414584321,(s.a1+((s.a0+s.a1)%18446744069414584321+s.a2)%18446744069414584321)%18446744069414584321,(s.a2+((s.a0+s.a1)%18446744069414584321+s.a2)%18446744069414584321)%18446744069414584321⟩
def pw (a e:Int):Int:=a^e.toNat%18446744069414584321
def rnd (s:TA3) (r:Int):TA3:=mixS ⟨pw ((s.a0+rc r 0)%18446744069414584321) 7,pw ((s.a1+rc r 1)%18446744069414584321) 7,pw ((s.a2+rc r 2)%18446744069414584321) 7⟩
def rnds:Nat→TA3→TA3
 |0,s=>s
 |n+1,s=>rnd (rnds n s) n
def permS (s:TA3):TA3:=rnds 8 s
def absL:List Int→TA3→TA3
 |[],s=>s
 |[x],s=>permS ⟨(s.a0+x)%18446744069414584321,s.a1,s.a2⟩
 |x::y::r,s=>absL r (permS ⟨(s.a0+x)%18446744069414584321,(s.a1+y)%18446744069414584321,s.a2⟩)
def absI (label:Int) (l:List Int):TA3:=⟨0,0,(label*65536%18446744069414584321+(l.length:Int))%18446744069414584321⟩
def absS (label:Int) (l:List Int):TA3:=if l=[]then permS (absI label l)else absL l (absI label l)
def hashS (label:Int) (l:List Int):Int:=(absS label l).a0
def S3 (s:TA3):Prop:=U64 s.a0∧U64 s.a1∧U64 s.a2
theorem S3m {a b c:Int} (ha:U64 a) (hb:U64 b) (hc:U64 c):S3 ⟨a,b,c⟩:=⟨ha,hb,hc⟩
theorem kgw (s:TA3):S3 (permS s):=by
 show S3 (rnd _ _)
 unfold rnd mixS S3
 dsimp only
 omega
theorem k16c:∀(l:List Int) (s:TA3),S3 s→S3 (absL l s)
 |[],_,h=>h
 |[_],_,_=>kgw _
 |_::_::r,_,_=>k16c r _ (kgw _)
theorem k193 (label:Int) (l:List Int):U64 (hashS label l):=by
 unfold hashS absS
 split
 ·exact(kgw _).1
 ·rename_i h
  match l,h with
  |[_],_=>exact(kgw _).1
  |_::_::r,_=>exact(k16c r _ (kgw _)).1
theorem k14o (s:TA3):(permS s).a0<18446744069414584321:=by
 show(rnd _ _).a0<_
 unfold rnd mixS
 dsimp only
 omega
theorem absL_lt:∀(l:List Int) (s:TA3),l≠[]→(absL l s).a0<18446744069414584321
 |[],_,h=>(h rfl).elim
 |[_],_,_=>k14o _
 |[_,_],_,_=>k14o _
 |_::_::x::r,s,_=>absL_lt (x::r) _ (by simp)
theorem k1bu (label:Int) (l:List Int):hashS label l<18446744069414584321:=by
 unfold hashS absS
 split
 ·exact k14o _
 ·rename_i h;exact absL_lt _ _ h
structure RD where
 n:Int
 ok:Bool
 pos:Int
 fail:Bool
structure RL where
 l:List Int
 pos:Int
 fail:Bool
structure RdOk (b:List Int) (pos:Int):Prop where
 by_:By b
 len:b.length≤137438953472
 pos0:0≤pos
 pos1:pos≤b.length
def rdD (b:List Int) (pos:Int) (f:Bool) (size:Int):RD:=
 if f=true∨(b.length:Int)-pos<size then⟨0,false,pos,true⟩else⟨val ((b.drop pos.toNat).take size.toNat),true,pos+size,false⟩
def rdI (b:List Int) (pos:Int) (f:Bool) (m:Int):RD:=
 if(rdD b pos f 4).ok=false∨m<(rdD b pos f 4).n then⟨0,false,(rdD b pos f 4).pos,true⟩else rdD b pos f 4
def rdB (b:List Int) (pos:Int) (f:Bool) (m:Int):RL:=
 if(rdI b pos f m).fail=true∨(b.length:Int)-(rdI b pos f m).pos<(rdI b pos f m).n then⟨[],(rdI b pos f m).pos,true⟩else⟨(b.take ((rdI b pos f m).pos+(rdI b pos f m).n).toNat).drop (rdI b pos f m).pos.toNat,(rdI b pos f m).pos+(rdI b pos f m).n,false⟩
def nums:Nat→List Int→List Int
 |0,_=>[]
 |k+1,b=>val (b.take 8)::nums k (b.drop 8)
@[simp] theorem k1dj:∀(k:Nat) (b:List Int),(nums k b).length=k
 |0,_=>rfl
 |k+1,b=>by simp[nums,k1dj k]
section
variable {b:List Int} {pos m p:Int} {f:Bool}
end
structure RB where
 l:List Int
 b:List Int
 f:Bool
structure RN where
 n:Int
 b:List Int
 f:Bool
def tkB (b:List Int) (f:Bool) (k:Int):RB:=if f=true∨(b.length:Int)<k then⟨[],b,true⟩else⟨b.take k.toNat,b.drop k.toNat,false⟩
section
variable {b r:List Int} {f:Bool} {k m n:Int}
end
def allB (l:List Int):Bool:=l.all (fun x=>decide (x<18446744069414584321))
theorem k1hb {l:List Int}:allB l=true↔∀x∈l,x<18446744069414584321:=by unfold allB;simp
def keyB (ns l:List Int):ByteArray:=strOfNums (ns.flatMap (dig 8)++l.flatMap (dig 8))
structure OrOk (ks:List ByteArray) (vs:List Int) (qs:List TQuestion):Prop where
 len:ks.length=vs.length
 rng:∀v∈vs,0≤v∧v<qs.length
def pk (ideal:Bool) (qs:List TQuestion) (ks:List ByteArray) (vs:List Int) (label:Int) (l:List Int):Option Int:=
 if allB l=true then(if mHas (BEq.beq (keyB [label] l)) ks=true then some (ix qs (mVal (BEq.beq (keyB [label] l)) ks vs 0)).Answer else if ideal=true then none else some (hashS label l))else none
end Go.Proofs.Ytponaobpcdkggaa
namespace Go.Md
open Go Go.Bv Go.Cv Go.Md Go.RowKit
abbrev swpL (g:List Int) (i j:Int):List Int:=(g.set i.toNat (ix g j)).set j.toNat (ix g i)
theorem kms {g:List Int} {i j:Int}:(swpL g i j).length=g.length:=by simp[swpL]
section
variable {g:List Int} {a b i j:Int} {d:Array Int}
theorem arrN {n:Nat} (h:n<g.length):g.toArray[n]! =ix g (n:Int):=by
 rw[ix_nat g _ (by omega) (by omega),getElem!_pos g.toArray n (by simpa using h)]
 simp
theorem arr_ix (h0:0≤i) (h1:i<g.length):g.toArray[i.toNat]! =ix g i:=by
 rw[arrN (by omega),show((i.toNat:Nat):Int)=i by omega]
theorem swpN {i j:Nat} (hi:i<g.length) (hj:j<g.length):Sort.swp g.toArray i j=(swpL g i j).toArray:=by
 unfold Sort.swp
 rw[arrN hi,arrN hj]
 simp[swpL]
theorem swp_arr (hi0:0≤i) (hi:i<g.length) (hj0:0≤j) (hj:j<g.length):Sort.swp g.toArray i.toNat j.toNat=(swpL g i j).toArray:=by
 rw[swpN (by omega) (by omega),show((i.toNat:Nat):Int)=i by omega,show((j.toNat:Nat):Int)=j by omega]
theorem ltI_iff {x y:Int}:Sort.ltInt x y=decide (x<y):=rfl
theorem k1ed (hi:0≤i) (h:i<b):Sort.insOuter Sort.ltInt a.toNat b.toNat i.toNat d=Sort.insOuter Sort.ltInt a.toNat b.toNat (i+1).toNat (Sort.insInner Sort.ltInt a.toNat i.toNat d):=by
 rw[Sort.insOuter,if_pos (by omega),show(i+1).toNat=i.toNat+1 by omega]
theorem k1ca (hi:0≤i) (h:¬i<b):Sort.insOuter Sort.ltInt a.toNat b.toNat i.toNat d=d:=by
 rw[Sort.insOuter,if_neg (by omega)]
theorem k1dd (ha:0≤a) (hj:a<j) (hl:j<g.length):Sort.insInner Sort.ltInt a.toNat j.toNat g.toArray=if ix g j<ix g (j-1)then Sort.insInner Sort.ltInt a.toNat (j-1).toNat (swpL g j (j-1)).toArray else g.toArray:=by
 have e1:j.toNat=(j-1).toNat+1:=by omega
 have hs:=swp_arr (g:=g) (i:=j) (j:=j-1) (by omega) hl (by omega) (by omega)
 have x1:=arr_ix (g:=g) (i:=j) (by omega) hl
 have x2:=arr_ix (g:=g) (i:=j-1) (by omega) (by omega)
 generalize (j-1).toNat=m at *
 rw[e1]at hs x1 ⊢
 rw[Sort.insInner,x1,x2,hs]
 have:m+1>a.toNat:=by omega
 simp only[this,decide_true,Bool.true_and,ltI_iff,decide_eq_true_eq]
theorem k1b2 (h:¬a<j):Sort.insInner Sort.ltInt a.toNat j.toNat d=d:=by
 have h2:¬j.toNat>a.toNat:=by omega
 generalize j.toNat=n at *
 cases n with
 |zero=>rfl
 |succ n=>rw[Sort.insInner,if_neg (by simp;omega)]
def chS (g:List Int) (hi first root:Int):Int:=if 2*root+2<hi∧ix g (first+(2*root+1))<ix g (first+(2*root+1)+1)then 2*root+2 else 2*root+1
theorem chS_rng {hi first root:Int} (hh:2*root+1<hi):2*root+1≤chS g hi first root∧chS g hi first root≤2*root+2∧chS g hi first root<hi:=by
 unfold chS
 split
 ·omega
 ·omega
theorem k1d5 {hi first root:Int} (h0:0≤root) (h:hi≤2*root+1):Sort.siftDown Sort.ltInt hi.toNat first.toNat root.toNat d=d:=by
 rw[Sort.siftDown,dif_pos (by omega)]
theorem k1dm {hi first root:Int} (h0:0≤root) (h1:0≤first) (hh:2*root+1<hi) (hl:first+hi≤g.length):Sort.siftDown Sort.ltInt hi.toNat first.toNat root.toNat g.toArray=
  if ix g (first+root)<ix g (first+chS g hi first root)then Sort.siftDown Sort.ltInt hi.toNat first.toNat (chS g hi first root).toNat (swpL g (first+root) (first+chS g hi first root)).toArray else g.toArray:=by
 obtain⟨r,rfl⟩:=Int.eq_ofNat_of_zero_le h0
 obtain⟨f,rfl⟩:=Int.eq_ofNat_of_zero_le h1
 obtain⟨n,rfl⟩:=Int.eq_ofNat_of_zero_le (show 0≤hi by omega)
 simp only[Int.toNat_natCast]
 have x1:g.toArray[f+(2*r+1)]! =ix g ((f:Int)+(2*r+1)):=by rw[arrN (by omega)];congr 1
 have x0:g.toArray[f+r]! =ix g ((f:Int)+r):=by rw[arrN (by omega)];congr 1
 by_cases hc:2*(r:Int)+2<n∧ix g ((f:Int)+(2*r+1))<ix g ((f:Int)+(2*r+1)+1)
 ·have x2:g.toArray[f+(2*r+1)+1]! =ix g ((f:Int)+(2*r+1)+1):=by rw[arrN (by omega)];congr 1
  have x3:g.toArray[f+(2*r+2)]! =ix g ((f:Int)+(2*r+2)):=by rw[arrN (by omega)];congr 1
  have ec:chS g n f r=2*(r:Int)+2:=by unfold chS;rw[if_pos hc]
  have hs:Sort.swp g.toArray (f+r) (f+(2*r+2))=(swpL g ((f:Int)+r) ((f:Int)+(2*r+2))).toArray:=by rw[swpN (by omega) (by omega)];congr 2
  have et:(2*(r:Int)+2).toNat=2*r+2:=by omega
  rw[Sort.siftDown,dif_neg (by omega),if_pos,ec,x0,x3,hs,dif_pos (by omega),et]
  ·simp only[ltI_iff,Bool.not_eq_true',decide_eq_false_iff_not]
   split<;>first|rfl|(rename_i h;first|rw[if_neg h]|rw[if_pos (Decidable.not_not.1 h)])
  ·rw[x1,x2,ltI_iff,decide_eq_true hc.2,decide_eq_true (show 2*r+1+1<n by omega)];rfl
 ·have ec:chS g n f r=2*(r:Int)+1:=by unfold chS;rw[if_neg hc]
  have hs:Sort.swp g.toArray (f+r) (f+(2*r+1))=(swpL g ((f:Int)+r) ((f:Int)+(2*r+1))).toArray:=by rw[swpN (by omega) (by omega)];congr 2
  have et:(2*(r:Int)+1).toNat=2*r+1:=by omega
  rw[Sort.siftDown,dif_neg (by omega),if_neg,ec,x0,x1,hs,et]
  ·simp only[ltI_iff,Bool.not_eq_true',decide_eq_false_iff_not]
   split<;>first|rfl|(rename_i h;first|rw[if_neg h]|rw[if_pos (Decidable.not_not.1 h)])
  ·intro h
   rw[Bool.and_eq_true,decide_eq_true_eq]at h
   have x2:g.toArray[f+(2*r+1)+1]! =ix g ((f:Int)+(2*r+1)+1):=by rw[arrN (by omega)];congr 1
   rw[x1,x2,ltI_iff,decide_eq_true_eq]at h
   exact hc ⟨by omega,h.2⟩
theorem k1a1 (hi first:Nat):∀(n root:Nat) (d:Array Int),hi-root≤n→(Sort.siftDown Sort.ltInt hi first root d).size=d.size:=by
 intro n
 induction n with
 |zero=>
  intro root d h
  rw[Sort.siftDown,dif_pos (by omega)]
 |succ n ih=>
  intro root d h
  rw[Sort.siftDown]
  split
  ·rfl
  ·split
   ·split
    ·rfl
    ·split
     ·rw[ih _ _ (by omega)];exact Sort.size_swp _ _ _
     ·rfl
   ·split
    ·rfl
    ·rw[ih _ _ (by omega)];exact Sort.size_swp _ _ _
theorem k1bc {hi first:Nat} (h:0≤i):Sort.heapBuild Sort.ltInt hi first (i+1).toNat d=Sort.heapBuild Sort.ltInt hi first i.toNat (Sort.siftDown Sort.ltInt hi first i.toNat d):=by
 rw[show(i+1).toNat=i.toNat+1 by omega,Sort.heapBuild]
theorem k1f2 {first:Nat} (h:0≤i):Sort.heapPop Sort.ltInt first (i+1).toNat d=Sort.heapPop Sort.ltInt first i.toNat (Sort.siftDown Sort.ltInt i.toNat first 0 (Sort.swp d first (first+i.toNat))):=by
 rw[show(i+1).toNat=i.toNat+1 by omega,Sort.heapPop]
theorem k126 {p:Int→Bool} (h0:0≤i) (h:i≤j):Sort.scanUp p d j.toNat i.toNat=if p d[i.toNat]! =true then Sort.scanUp p d j.toNat (i+1).toNat else i.toNat:=by
 rw[Sort.scanUp,show(i+1).toNat=i.toNat+1 by omega]
 simp only[decide_eq_true (show i.toNat≤j.toNat by omega),Bool.true_and]
theorem kyg {p:Int→Bool} (h0:1≤i) (h:¬i≤j):Sort.scanUp p d j.toNat i.toNat=i.toNat:=by
 rw[Sort.scanUp]
 simp only[decide_eq_false (show¬i.toNat≤j.toNat by omega),Bool.false_and]
 rfl
theorem kx0 {p:Int→Bool} (h0:1≤i) (h:i≤j):Sort.scanDown p d i.toNat j.toNat=if p d[j.toNat]! =true then Sort.scanDown p d i.toNat (j-1).toNat else j.toNat:=by
 have e1:j.toNat=(j-1).toNat+1:=by omega
 have e2:i.toNat≤j.toNat:=by omega
 generalize (j-1).toNat=m at *
 rw[e1]at e2 ⊢
 rw[Sort.scanDown]
 simp only[decide_eq_true e2,Bool.true_and]
theorem ktk {p:Int→Bool} (h0:1≤i) (h:¬i≤j):Sort.scanDown p d i.toNat j.toNat=j.toNat:=by
 have e2:¬i.toNat≤j.toNat:=by omega
 generalize j.toNat=m at *
 cases m with
 |zero=>rfl
 |succ m=>
  rw[Sort.scanDown]
  simp only[decide_eq_false e2,Bool.false_and]
  rfl
theorem k1as (h0:1≤i) (h:i<b) (hl:b≤g.length):Sort.scanSorted Sort.ltInt g.toArray b.toNat i.toNat=if ix g i<ix g (i-1)then i.toNat else Sort.scanSorted Sort.ltInt g.toArray b.toNat (i+1).toNat:=by
 have x1:=arr_ix (g:=g) (i:=i) (by omega) (by omega)
 have x2:=arr_ix (g:=g) (i:=i-1) (by omega) (by omega)
 rw[Sort.scanSorted,show(i+1).toNat=i.toNat+1 by omega,x1,show i.toNat-1=(i-1).toNat by omega,x2]
 simp only[decide_eq_true (show i.toNat<b.toNat by omega),Bool.true_and,ltI_iff,Bool.not_eq_true',decide_eq_false_iff_not]
 split<;>first|rfl|(rename_i h;first|rw[if_neg h]|rw[if_pos (Decidable.not_not.1 h)])
theorem k18f (h0:0≤i) (h:¬i<b):Sort.scanSorted Sort.ltInt d b.toNat i.toNat=i.toNat:=by
 rw[Sort.scanSorted]
 simp only[decide_eq_false (show¬i.toNat<b.toNat by omega),Bool.false_and]
 rfl
theorem k1c1 (h:1≤j) (hl:j<g.length):Sort.shiftDown Sort.ltInt j.toNat g.toArray=if ix g j<ix g (j-1)then Sort.shiftDown Sort.ltInt (j-1).toNat (swpL g j (j-1)).toArray else g.toArray:=by
 have e1:j.toNat=(j-1).toNat+1:=by omega
 have hs:=swp_arr (g:=g) (i:=j) (j:=j-1) (by omega) hl (by omega) (by omega)
 have x1:=arr_ix (g:=g) (i:=j) (by omega) hl
 have x2:=arr_ix (g:=g) (i:=j-1) (by omega) (by omega)
 generalize (j-1).toNat=m at *
 rw[e1]at hs x1 ⊢
 rw[Sort.shiftDown,x1,x2,hs]
 simp only[ltI_iff,Bool.not_eq_true',decide_eq_false_iff_not]
 split<;>first|rfl|(rename_i h;first|rw[if_neg h]|rw[if_pos (Decidable.not_not.1 h)])
theorem k1ah (h:¬1≤j):Sort.shiftDown Sort.ltInt j.toNat d=d:=by
 rw[show j.toNat=0 by omega,Sort.shiftDown]
theorem k1ey (h0:1≤j) (h:j<b) (hl:b≤g.length):Sort.shiftUp Sort.ltInt b.toNat j.toNat g.toArray=if ix g j<ix g (j-1)then Sort.shiftUp Sort.ltInt b.toNat (j+1).toNat (swpL g j (j-1)).toArray else g.toArray:=by
 have hs:=swp_arr (g:=g) (i:=j) (j:=j-1) (by omega) (by omega) (by omega) (by omega)
 have x1:=arr_ix (g:=g) (i:=j) (by omega) (by omega)
 have x2:=arr_ix (g:=g) (i:=j-1) (by omega) (by omega)
 rw[Sort.shiftUp,if_pos (by omega),show(j+1).toNat=j.toNat+1 by omega,x1,show j.toNat-1=(j-1).toNat by omega,x2,hs]
 simp only[ltI_iff,Bool.not_eq_true',decide_eq_false_iff_not]
 split<;>first|rfl|(rename_i h;first|rw[if_neg h]|rw[if_pos (Decidable.not_not.1 h)])
theorem k1dt (h0:0≤j) (h:¬j<b):Sort.shiftUp Sort.ltInt b.toNat j.toNat d=d:=by
 rw[Sort.shiftUp,if_neg (by omega)]
theorem k17z (h0:0≤i) (h:i<j) (hl:j<g.length):Sort.reverseLoop i.toNat j.toNat g.toArray=Sort.reverseLoop (i+1).toNat (j-1).toNat (swpL g i j).toArray:=by
 rw[Sort.reverseLoop,if_pos (by omega),swp_arr (g:=g) h0 (by omega) (by omega) hl,show(i+1).toNat=i.toNat+1 by omega,show(j-1).toNat=j.toNat-1 by omega]
theorem k16a (h0:0≤i) (h:¬i<j):Sort.reverseLoop i.toNat j.toNat d=d:=by
 rw[Sort.reverseLoop,if_neg (by omega)]
end
def insS (g:List Int) (a b:Int):List Int:=(Sort.insertionSort Sort.ltInt g.toArray a.toNat b.toNat).toList
def sdS (g:List Int) (lo hi first:Int):List Int:=(Sort.siftDown Sort.ltInt hi.toNat first.toNat lo.toNat g.toArray).toList
def heapS (g:List Int) (a b:Int):List Int:=(Sort.heapSort Sort.ltInt g.toArray a.toNat b.toNat).toList
def revS (g:List Int) (a b:Int):List Int:=(Sort.reverseRange g.toArray a.toNat b.toNat).toList
def brkS (g:List Int) (a b:Int):List Int:=(Sort.breakPatterns g.toArray a.toNat b.toNat).toList
def pisS (g:List Int) (a b:Int):Array Int×Bool:=Sort.partialInsertionSort Sort.ltInt g.toArray a.toNat b.toNat
def partS (g:List Int) (a b p:Int):Nat×Bool×Array Int:=Sort.partition Sort.ltInt g.toArray a.toNat b.toNat p.toNat
def peqS (g:List Int) (a b p:Int):Nat×Array Int:=Sort.partitionEqual Sort.ltInt g.toArray a.toNat b.toNat p.toNat
def cpS (g:List Int) (a b:Int):Nat×Sort.Hint:=Sort.choosePivot Sort.ltInt g.toArray a.toNat b.toNat
def hintN:Sort.Hint→Int
 | .unknown=>0
 | .increasing=>1
 | .decreasing=>2
section
variable {g:List Int} {a b p:Int}
theorem k15m (h0:0≤a) (h1:a≤b) (h2:b≤g.length):(insS g a b).length=g.length:=by
 have:=(Sort.insertionSort_holds (lt:=Sort.ltInt) Sort.swo_ltInt g.toArray a.toNat b.toNat (by omega) (by simp;omega)).1.1
 simpa[insS]using this
theorem cpS_rng (h0:0≤a) (h1:a<b):a≤(cpS g a b).1∧(cpS g a b).1<b:=by
 have:=Sort.choosePivot_holds Sort.ltInt g.toArray a.toNat b.toNat (by omega)
 unfold cpS
 omega
theorem sdS_len {lo hi first:Int}:(sdS g lo hi first).length=g.length:=by
 have:=k1a1 hi.toNat first.toNat _ lo.toNat g.toArray (Nat.le_refl _)
 simpa[sdS]using this
end
theorem k1d1 (a b:Nat) (ha:a<18446744073709551616) (hb:b<18446744073709551616):ixor .u64 a b=((a^^^b:Nat):Int):=by
 unfold ixor
 show IntKind.u64.wrap ((BitVec.ofInt 64 (a:Int)^^^BitVec.ofInt 64 (b:Int)).toNat:Int)=_
 rw[BitVec.ofInt_natCast,BitVec.ofInt_natCast,BitVec.toNat_xor,BitVec.toNat_ofNat,BitVec.toNat_ofNat,Nat.mod_eq_of_lt ha,Nat.mod_eq_of_lt hb]
 have:a^^^b<2^64:=Nat.xor_lt_two_pow ha hb
 exact wu _ (by omega) (by omega)
theorem xor_shl (r:UInt64) (k:Nat) (hk:k<64):ixor .u64 (r.toNat:Int) (ishl .u64 (r.toNat:Int) (k:Int))=((r^^^(r<<<(UInt64.ofNat k))).toNat:Int):=by
 have hr:=r.toNat_lt
 have e:ishl .u64 (r.toNat:Int) (k:Int)=((r.toNat<<<k%18446744073709551616:Nat):Int):=by
  unfold ishl
  rw[IntKind.wrap_u64,Nat.shiftLeft_eq]
  have:min (k:Int).toNat IntKind.u64.bits=k:=by show min (k:Int).toNat 64=k;omega
  rw[this,Int.natCast_emod,Int.natCast_mul,Int.natCast_pow]
  rfl
 rw[e,k1d1 _ _ (by omega) (by omega),UInt64.toNat_xor,UInt64.toNat_shiftLeft]
 have:(UInt64.ofNat k).toNat%64=k:=by rw[UInt64.toNat_ofNat'];omega
 rw[this]
theorem xor_shr (r:UInt64) (k:Nat) (hk:k<64):ixor .u64 (r.toNat:Int) (ishr .u64 (r.toNat:Int) (k:Int))=((r^^^(r>>>(UInt64.ofNat k))).toNat:Int):=by
 have hr:=r.toNat_lt
 have e:ishr .u64 (r.toNat:Int) (k:Int)=((r.toNat>>>k:Nat):Int):=by
  unfold ishr
  have:min (k:Int).toNat IntKind.u64.bits=k:=by show min (k:Int).toNat 64=k;omega
  rw[this,Nat.shiftRight_eq_div_pow,Int.fdiv_eq_ediv_of_nonneg _ (by exact Int.le_of_lt (Int.pow_pos (by decide))),Int.natCast_ediv,Int.natCast_pow]
  rfl
 have hs:r.toNat>>>k≤r.toNat:=by rw[Nat.shiftRight_eq_div_pow];exact Nat.div_le_self _ _
 rw[e,k1d1 _ _ (by omega) (by omega),UInt64.toNat_xor,UInt64.toNat_shiftRight]
 have:(UInt64.ofNat k).toNat%64=k:=by rw[UInt64.toNat_ofNat'];omega
 rw[this]
def xnI (s:Int):Int:=
 let a:=ixor .u64 s (ishl .u64 s 13)
 let b:=ixor .u64 a (ishr .u64 a 7)
 ixor .u64 b (ishl .u64 b 17)
theorem xnI_eq (r:UInt64):xnI (r.toNat:Int)=((Sort.xorNext r).toNat:Int):=by
 unfold xnI Sort.xorNext
 dsimp only
 have h1:=xor_shl r 13 (by decide)
 rw[show((13:Nat):Int)=13 from rfl]at h1
 rw[h1]
 have h2:=xor_shr (r^^^(r<<<(UInt64.ofNat 13))) 7 (by decide)
 rw[show((7:Nat):Int)=7 from rfl]at h2
 rw[h2]
 exact xor_shl _ 17 (by decide)
def brkL (a length modulus:Nat):Nat→UInt64×Array Int→Nat→Array Int
 |0,st,_=>st.2
 |k+1,st,idx=>brkL a length modulus k (Sort.breakStep a length modulus st idx) (idx+1)
theorem brkL_go (a len md k:Nat) (u:UInt64) (d:Array Int) (i:Nat):brkL a len md (k+1) (u,d) i=brkL a len md k (Sort.xorNext u,Sort.swp d i (a+(if(Sort.xorNext u).toNat&&&(md-1)≥len then((Sort.xorNext u).toNat&&&(md-1))-len else(Sort.xorNext u).toNat&&&(md-1)))) (i+1):=rfl
theorem brk_eq (d:Array Int) (a b:Nat) (h:8≤b-a):Sort.breakPatterns d a b=brkL a (b-a) (1<<<Sort.bitsLen (b-a)) 3 (UInt64.ofNat (b-a),d) (a+(b-a)/4*2-1):=by
 unfold Sort.breakPatterns
 rw[if_pos h]
 rfl
theorem brk_no (d:Array Int) (a b:Nat) (h:¬8≤b-a):Sort.breakPatterns d a b=d:=by
 unfold Sort.breakPatterns
 rw[if_neg h]
theorem k16t (n:Nat):len64 (n:Int)=((Sort.bitsLen n:Nat):Int):=by
 unfold len64 Sort.bitsLen
 by_cases h:n=0
 ·subst h;rfl
 ·rw[if_neg h,if_neg (by omega)];simp
theorem npo (n:Nat) (hn:n<4611686018427387904):ishl .u64 1 (len64 (n:Int))=((1<<<Sort.bitsLen n:Nat):Int):=by
 rw[k16t]
 have hk:Sort.bitsLen n≤62:=(Sort.bitsLen_le_iff n 62).2 hn
 unfold ishl
 have:min ((Sort.bitsLen n:Nat):Int).toNat IntKind.u64.bits=Sort.bitsLen n:=by show min ((Sort.bitsLen n:Nat):Int).toNat 64=_;omega
 rw[this,Nat.shiftLeft_eq,Nat.one_mul,Int.one_mul]
 have hp:2^Sort.bitsLen n≤2^62:=Nat.pow_le_pow_right (by decide) hk
 rw[wu]
 ·rw[Int.natCast_pow];rfl
 ·exact Int.le_of_lt (Int.pow_pos (by decide))
 ·have h1:((2^Sort.bitsLen n:Nat):Int)≤((2^62:Nat):Int):=Int.ofNat_le.2 hp
  rw[Int.natCast_pow]at h1
  have h2:((2^62:Nat):Int)=4611686018427387904:=by decide
  have h3:(((2:Nat):Int)^Sort.bitsLen n)=(2:Int)^Sort.bitsLen n:=rfl
  omega
theorem npo_le (n:Nat) (h:0<n):1<<<Sort.bitsLen n≤2*n∧n<1<<<Sort.bitsLen n:=by
 rw[Nat.shiftLeft_eq,Nat.one_mul]
 exact⟨Sort.two_pow_bitsLen_le h,Sort.lt_two_pow_bitsLen n⟩
theorem kk9 {d:Array Int} {a b c n:Nat} (ha:a<n) (hb:b<n):(Sort.order2 Sort.ltInt d a b c).1<n∧(Sort.order2 Sort.ltInt d a b c).2.1<n∧(Sort.order2 Sort.ltInt d a b c).2.2≤c+1:=by
 unfold Sort.order2
 split
 ·exact⟨hb,ha,Nat.le_refl _⟩
 ·exact⟨ha,hb,Nat.le_succ _⟩
theorem kyd {d:Array Int} {a b c s n:Nat} (ha:a<n) (hb:b<n) (hc:c<n):(Sort.median Sort.ltInt d a b c s).1<n∧(Sort.median Sort.ltInt d a b c s).2≤s+3:=by
 unfold Sort.median
 dsimp only
 have h1:=kk9 (d:=d) (c:=s) ha hb
 generalize Sort.order2 Sort.ltInt d a b s=r1 at *
 have h2:=kk9 (d:=d) (c:=r1.2.2) h1.2.1 hc
 generalize Sort.order2 Sort.ltInt d r1.2.1 c r1.2.2=r2 at *
 have h3:=kk9 (d:=d) (c:=r2.2.2) h1.1 h2.1
 exact⟨h3.2.1,by omega⟩
end Go.Md
namespace Go.Proofs.Ytponaobpcdkggaa
open Go Go.Bv Go.Cv Go.Md Go.RowKit
def insI (x:Int):List Int→List Int
 |[]=>[x]
 |y::r=>if x≤y then x::y::r else y::insI x r
def srt:List Int→List Int
 |[]=>[]
 |x::r=>insI x (srt r)
theorem k11w (x:Int):∀l,(insI x l).Perm (x::l)
 |[]=>List.Perm.refl _
 |y::r=>by
  unfold insI
  split
  ·exact List.Perm.refl _
  ·exact((k11w x r).cons y).trans (List.Perm.swap x y r)
theorem k15n:∀l,(srt l).Perm l
 |[]=>List.Perm.refl _
 |x::r=>(k11w x (srt r)).trans ((k15n r).cons x)
theorem k13j (x:Int):∀l:List Int,l.Pairwise (·≤·)→(insI x l).Pairwise (·≤·)
 |[],_=>by simp[insI]
 |y::r,h=>by
  unfold insI
  rw[List.pairwise_cons]at h
  split
  ·rename_i hxy
   rw[List.pairwise_cons,List.pairwise_cons]
   refine⟨fun z hz=> ?_,h⟩
   rcases List.mem_cons.1 hz with rfl|hz
   ·exact hxy
   ·exact Int.le_trans hxy (h.1 z hz)
  ·rename_i hxy
   rw[List.pairwise_cons]
   refine⟨fun z hz=> ?_,k13j x r h.2⟩
   rcases List.mem_cons.1 ((k11w x r).mem_iff.1 hz)with rfl|hz
   ·omega
   ·exact h.1 z hz
theorem k17i:∀l,(srt l).Pairwise (·≤·)
 |[]=>List.Pairwise.nil
 |x::r=>k13j x _ (k17i r)
theorem kse:∀(l m:List Int),l.Perm m→l.Pairwise (·≤·)→m.Pairwise (·≤·)→l=m
 |[],m,h,_,_=>by rw[h.symm.eq_nil]
 |x::l,[],h,_,_=>by cases h.eq_nil
 |x::l,y::m,h,hl,hm=>by
  rw[List.pairwise_cons]at hl hm
  have hx:x∈y::m:=h.mem_iff.1 (by simp)
  have hy:y∈x::l:=h.mem_iff.2 (by simp)
  have e:x=y:=by
   rcases List.mem_cons.1 hx with e|hx
   ·exact e
   ·rcases List.mem_cons.1 hy with e|hy
    ·exact e.symm
    ·have:=hl.1 y hy
     have:=hm.1 x hx
     omega
  subst e
  rw[kse l m ((List.perm_cons x).1 h) hl.2 hm.2]
theorem srt_eq {l m:List Int} (h:m.Perm l) (hs:m.Pairwise (·≤·)):m=srt l:=kse _ _ (h.trans (k15n l).symm) hs (k17i l)
theorem k16v (l:List Int):(srt l).length=l.length:=(k15n l).length_eq
def SortedTo (g:List Int) (i:Nat):Prop:=∀a b:Nat,a<b→b<i→g[a]?.getD 0≤g[b]?.getD 0
def SortedBut (g:List Int) (i j:Nat):Prop:=∀a b:Nat,a<b→b<i→b≠j→g[a]?.getD 0≤g[b]?.getD 0
theorem SortedTo.all {g:List Int} (h:SortedTo g g.length):g.Pairwise (·≤·):=by
 rw[List.pairwise_iff_getElem]
 intro a b ha hb hab
 have:=h a b hab hb
 rwa [List.getElem?_eq_getElem ha,List.getElem?_eq_getElem hb]at this
theorem SortedBut.zero {g:List Int} {i:Nat} (h:SortedBut g i 0):SortedTo g i:=fun a b hab hb=>h a b hab hb (by omega)
theorem k1fj (g:List Int) (i j:Int) (h0:0≤i) (h1:i<g.length) (h2:0≤j) (h3:j<g.length):((g.set i.toNat (ix g j)).set j.toNat (ix g i)).Perm g:=by
 rw[ix_nat g i h0 h1,ix_nat g j h2 h3]
 exact List.set_set_perm (by omega) (by omega)
theorem ky8 (d:Array Int) (a b k:Nat) (hb:b≤d.size) (hk:a+k<b):(d.extract a b).toList[k]? =some d[a+k]! :=by
 rw[Sort.extract_toList d a b hb,List.getElem?_map,List.getElem?_range' (by omega)]
 simp
theorem kxc {d:Array Int} {a b:Nat} (hb:b≤d.size) (h:Sort.SortedIn Sort.ltInt a b d):(d.extract a b).toList.Pairwise (·≤·):=by
 rw[List.pairwise_iff_getElem]
 intro i j hi hj hij
 have hl:(d.extract a b).toList.length=b-a:=by simp;omega
 have e1:=ky8 d a b i hb (by omega)
 have e2:=ky8 d a b j hb (by omega)
 rw[List.getElem?_eq_getElem hi]at e1
 rw[List.getElem?_eq_getElem hj]at e2
 rw[Option.some.inj e1,Option.some.inj e2]
 have:=h (a+i) (a+j) (by omega) (by omega) (by omega)
 rw[ltI_iff]at this
 have:=of_decide_eq_false this
 omega
theorem k1a6 {d R R' :Array Int} {a b:Nat} (hb:b≤d.size) (h1:Sort.PermIn a b d R) (h2:Sort.SortedIn Sort.ltInt a b R) (h3:Sort.PermIn a b d R') (h4:Sort.SortedIn Sort.ltInt a b R'):R=R' :=by
 have e:=kse _ _ (h1.2.2.trans h3.2.2.symm) (kxc (by rw[h1.1];exact hb) h2) (kxc (by rw[h3.1];exact hb) h4)
 refine Array.ext (by rw[h1.1,h3.1]) fun i hi hi' => ?_
 have q1:R[i]! =R[i]:=getElem!_pos R i hi
 have q2:R'[i]! =R'[i]:=getElem!_pos R' i hi'
 rw[←q1,←q2]
 by_cases hc:a≤i∧i<b
 ·have e1:=ky8 R a b (i-a) (by rw[h1.1];exact hb) (by omega)
  have e2:=ky8 R' a b (i-a) (by rw[h3.1];exact hb) (by omega)
  rw[e,e2,show a+(i-a)=i by omega]at e1
  exact(Option.some.inj e1).symm
 ·rw[h1.2.1 i (by omega),h3.2.1 i (by omega)]
theorem kos {g:List Int} {a b:Int} (h0:0≤a) (h1:a≤b) (h2:b≤g.length):Sort.PermIn a.toNat b.toNat g.toArray (insS g a b).toArray∧Sort.SortedIn Sort.ltInt a.toNat b.toNat (insS g a b).toArray:=by
 have:=Sort.insertionSort_holds (lt:=Sort.ltInt) Sort.swo_ltInt g.toArray a.toNat b.toNat (by omega) (by simp;omega)
 unfold insS
 simpa using this
theorem k1e0 {g:List Int} {a b:Int} (h0:0≤a) (h1:a≤b) (h2:b≤g.length):Sort.PermIn a.toNat b.toNat g.toArray (heapS g a b).toArray∧Sort.SortedIn Sort.ltInt a.toNat b.toNat (heapS g a b).toArray:=by
 have:=Sort.heapSort_holds (lt:=Sort.ltInt) Sort.swo_ltInt g.toArray a.toNat b.toNat (by omega) (by simp;omega)
 unfold heapS
 simpa using this
theorem k1ho (g:List Int):insS g 0 g.length=srt g:=by
 obtain⟨h1,h2⟩:=kos (g:=g) (a:=0) (b:=g.length) (by omega) (by omega) (by omega)
 have hl:(insS g 0 g.length).length=g.length:=k15m (by omega) (by omega) (by omega)
 have e:=h1.2.2
 have s:=kxc (d:=(insS g 0 g.length).toArray) (by simp;omega) h2
 have x1:((insS g 0 g.length).toArray.extract (0:Int).toNat (g.length:Int).toNat).toList=insS g 0 g.length:=by
  have key:∀l:List Int,(l.toArray.extract 0 l.length).toList=l:=by intro l;simp
  have:=key (insS g 0 g.length)
  rw[hl]at this
  simp only[Int.toNat_natCast,Int.toNat_zero]
  exact this
 have x2:(g.toArray.extract (0:Int).toNat (g.length:Int).toNat).toList=g:=by simp
 rw[x1]at s e
 rw[x2]at e
 exact srt_eq e s
structure PdqI (R0:Array Int) (n:Nat) (a b:Int) (g:List Int):Prop where
 a0:0≤a
 ab:a≤b
 bl:b≤g.length
 n:g.length=n
 be:Sort.Below Sort.ltInt a.toNat b.toNat g.toArray
 u:∀R,Sort.PermIn a.toNat b.toNat g.toArray R→Sort.SortedIn Sort.ltInt a.toNat b.toNat R→R=R0
theorem PdqI.perm {R0:Array Int} {n:Nat} {a b:Int} {g:List Int} {d:Array Int} (h:PdqI R0 n a b g) (hp:Sort.PermIn a.toNat b.toNat g.toArray d):PdqI R0 n a b d.toList:=by
 have hb:=h.bl
 have ha:=h.a0
 have hs:=hp.1
 simp at hs
 refine⟨ha,h.ab,by simp;omega,by simp;rw[hs];exact h.n,?_,fun R h1 h2=>h.u R (Sort.permIn_trans _ _ _ _ _ hp (by simpa using h1)) h2⟩
 simpa using h.be.perm (by simp;omega) hp
theorem PdqI.ins {R0:Array Int} {n:Nat} {a b:Int} {g:List Int} (h:PdqI R0 n a b g):insS g a b=R0.toList:=by
 obtain⟨h1,h2⟩:=kos h.a0 h.ab h.bl
 rw[←h.u _ h1 h2]
theorem PdqI.heap {R0:Array Int} {n:Nat} {a b:Int} {g:List Int} (h:PdqI R0 n a b g):heapS g a b=R0.toList:=by
 obtain⟨h1,h2⟩:=k1e0 h.a0 h.ab h.bl
 rw[←h.u _ h1 h2]
theorem PdqI.brk {R0:Array Int} {n:Nat} {a b:Int} {g:List Int} (h:PdqI R0 n a b g):PdqI R0 n a b (brkS g a b):=by
 have h1:=h.a0
 have h2:=h.ab
 have h3:=h.bl
 exact h.perm (Sort.breakPatterns_holds g.toArray a.toNat b.toNat (by omega) (by simp;omega))
theorem PdqI.rev {R0:Array Int} {n:Nat} {a b:Int} {g:List Int} (h:PdqI R0 n a b g):PdqI R0 n a b (revS g a b):=by
 have h1:=h.a0
 have h2:=h.ab
 have h3:=h.bl
 exact h.perm (Sort.reverseRange_holds g.toArray a.toNat b.toNat (by omega) (by simp;omega))
theorem PdqI.pis {R0:Array Int} {n:Nat} {a b:Int} {g:List Int} (h:PdqI R0 n a b g) (hab:a<b):PdqI R0 n a b (pisS g a b).1.toList∧((pisS g a b).2=true→(pisS g a b).1.toList=R0.toList):=by
 have h1:=h.a0
 have h2:=h.ab
 have h3:=h.bl
 obtain⟨q1,q2⟩:=Sort.partialInsertionSort_holds (lt:=Sort.ltInt) Sort.swo_ltInt g.toArray a.toNat b.toNat (by omega) (by simp;omega) h.be
 exact⟨h.perm q1,fun e=>by rw[←h.u _ q1 (q2 e)];rfl⟩
theorem PdqI.peq {R0:Array Int} {n:Nat} {a b p:Int} {g:List Int} (h:PdqI R0 n a b g) (ha:0<a) (h1:a≤p) (h2:p<b) (hn:¬ix g (a-1)<ix g p):a<(peqS g a b p).1∧(peqS g a b p).1≤b∧PdqI R0 n (peqS g a b p).1 b (peqS g a b p).2.toList:=by
 have h3:=h.bl
 have e1:g.toArray[a.toNat-1]! =ix g (a-1):=by rw[show a.toNat-1=(a-1).toNat by omega];exact arr_ix (by omega) (by omega)
 have e2:g.toArray[p.toNat]! =ix g p:=arr_ix (by omega) (by omega)
 obtain⟨q1,q2,q3,q4,q5⟩:=Sort.round_eq (lt:=Sort.ltInt) (d3:=g.toArray) (d4:=(peqS g a b p).2) (a:=a.toNat) (b:=b.toNat) (pivot:=p.toNat) (mid:=(peqS g a b p).1) Sort.swo_ltInt (Sort.partitionEqual_holds Sort.ltInt) (by omega) (by omega) (by omega) (by simp;omega) h.be (by rw[e1,e2,ltI_iff];exact decide_eq_false hn) rfl
 simp at q3
 refine⟨by omega,by omega,⟨by omega,by omega,by simp;omega,by simp;rw[q3];exact h.n,by simpa using q4,fun R r1 r2=> ?_⟩⟩
 simp only[Int.toNat_natCast,Array.toArray_toList]at r1 r2
 obtain⟨s1,s2⟩:=q5 R r1 r2
 exact h.u R s1 s2
theorem PdqI.part {R0:Array Int} {n:Nat} {a b p:Int} {g:List Int} (h:PdqI R0 n a b g) (h1:a≤p) (h2:p<b):a≤(partS g a b p).1∧(partS g a b p).1<b∧(partS g a b p).2.2.size=n∧
  Sort.Below Sort.ltInt a.toNat (partS g a b p).1 (partS g a b p).2.2∧Sort.Below Sort.ltInt ((partS g a b p).1+1) b.toNat (partS g a b p).2.2∧
  PdqI R0 n ((partS g a b p).1+1) b (insS (partS g a b p).2.2.toList a (partS g a b p).1)∧PdqI R0 n a (partS g a b p).1 (insS (partS g a b p).2.2.toList ((partS g a b p).1+1) b):=by
 have h3:=h.bl
 have h0:=h.a0
 obtain⟨q1,q2,q3,q4,q5,q6,q7⟩:=Sort.round_part (lt:=Sort.ltInt) (d3:=g.toArray) (d4:=(partS g a b p).2.2) (a:=a.toNat) (b:=b.toNat) (pivot:=p.toNat) (mid:=(partS g a b p).1) (ap:=(partS g a b p).2.1) Sort.swo_ltInt (Sort.partition_holds Sort.ltInt) (by omega) (by omega) (by simp;omega) h.be rfl
 simp at q3
 have hn:=h.n
 generalize partS g a b p=P at *
 obtain⟨m,ap,d⟩:=P
 dsimp only at *
 have l1:=kos (g:=d.toList) (a:=a) (b:=m) h0 (by omega) (by simp;omega)
 have l2:=kos (g:=d.toList) (a:=(m:Int)+1) (b:=b) (by omega) (by omega) (by simp;omega)
 simp only[Array.toArray_toList,Int.toNat_natCast]at l1 l2
 rw[show((m:Int)+1).toNat=m+1 by omega]at l2
 have n1:(insS d.toList a m).length=d.toList.length:=k15m h0 (by omega) (by simp;omega)
 have n2:(insS d.toList ((m:Int)+1) b).length=d.toList.length:=k15m (by omega) (by omega) (by simp;omega)
 simp at n1 n2
 obtain⟨w1,w2⟩:=q6 _ l1.1 l1.2
 obtain⟨w3,w4⟩:=q7 _ l2.1 l2.2
 refine⟨by omega,by omega,by omega,q4,q5,⟨by omega,by omega,by omega,by omega,by rw[show((m:Int)+1).toNat=m+1 by omega];exact w1,fun R r1 r2=> ?_⟩,⟨h0,by omega,by omega,by omega,by simpa using w3,fun R r1 r2=> ?_⟩⟩
 ·rw[show((m:Int)+1).toNat=m+1 by omega]at r1 r2
  obtain⟨s1,s2⟩:=w2 R r1 r2
  exact h.u R s1 s2
 ·simp only[Int.toNat_natCast]at r1 r2
  obtain⟨s1,s2⟩:=w4 R r1 r2
  exact h.u R s1 s2
theorem PdqI.start {g:List Int} {a b:Int} (h0:0≤a) (h1:a≤b) (h2:b≤g.length) (hB:Sort.Below Sort.ltInt a.toNat b.toNat g.toArray):PdqI (insS g a b).toArray g.length a b g:=by
 obtain⟨q1,q2⟩:=kos h0 h1 h2
 exact⟨h0,h1,h2,rfl,hB,fun R r1 r2=>k1a6 (by simp;omega) r1 r2 q1 q2⟩
structure OS where
 a:Bool
 b:Int
 c:Int
 q:List TQuestion
 k:List ByteArray
 v:List Int
 s:List ByteArray
 t:List (List Int)
 x:List ByteArray
 y:List Bool
structure HR where
 n:Int
 o:OS
theorem OS_eta (o:OS):OS.mk o.a o.b o.c o.q o.k o.v o.s o.t o.x o.y=o:=rfl
def mixN (v1:Int):Int:=
 let v2:Int:=IntKind.u64.wrap ((ixor .u64 v1 (ishr .u64 v1 30))*13787848793156543929)
 let v3:Int:=IntKind.u64.wrap ((ixor .u64 v2 (ishr .u64 v2 27))*10723151780598845931)
 Int.tmod (ixor .u64 v3 (ishr .u64 v3 31)) 18446744069414584321
def drO (o:OS):HR:=if o.a=true then⟨mixN (IntKind.u64.wrap (o.b+11400714819323198485)),⟨o.a,IntKind.u64.wrap (o.b+11400714819323198485),IntKind.i64.wrap (o.c+1),o.q,o.k,o.v,o.s,o.t,o.x,o.y⟩⟩else⟨0,o⟩
def recO (o:OS) (key:ByteArray) (label:Int) (l:List Int) (n:Int):OS:=⟨o.a,o.b,o.c,o.q++[⟨label,l,n⟩],mPutK (BEq.beq key) o.k key,mPutV (BEq.beq key) o.k o.v (o.q.length:Int),o.s,o.t,o.x,o.y⟩
def ansO (o:OS) (label:Int) (l:List Int):HR:=if o.a=true then drO o else⟨hashS label l,o⟩
def hO (o:OS) (label:Int) (l:List Int):HR:=
 if allB l=true then(if mHas (BEq.beq (keyB [label] l)) o.k=true then⟨(ix o.q (mVal (BEq.beq (keyB [label] l)) o.k o.v 0)).Answer,o⟩
  else⟨(ansO o label l).n,recO (ansO o label l).o (keyB [label] l) label l (ansO o label l).n⟩)else⟨0,o⟩
structure OOk (o:OS):Prop where
 or:OrOk o.k o.v o.q
 q:o.q.length≤1000000
 n:∀x∈o.q,0≤x.Answer∧x.Answer<18446744069414584321
 e:∀x∈o.q,x.Elems.length≤1000000000
structure CR where
 n:Int
 t:TTranscript
 o:OS
def chO (o:OS) (t:TTranscript) (p:Int):CR:=if p=0 then⟨0,t,o⟩else⟨Int.tmod (hO o 19 [t.State,t.Count]).n p,⟨t.State,IntKind.u64.wrap (t.Count+1)⟩,(hO o 19 [t.State,t.Count]).o⟩
structure AR where
 t:TTranscript
 o:OS
def abO (o:OS) (t:TTranscript) (tag:Int) (l:List Int):AR:=⟨⟨(hO o 18 ([t.State,tag]++l)).n,0⟩,(hO o 18 ([t.State,tag]++l)).o⟩
def zO (ideal:Bool) (seed:Int):OS:=⟨ideal,seed,0,[],[],[],[],[],[],[]⟩
theorem ansO_q (o:OS) (label:Int) (l:List Int):(ansO o label l).o.q=o.q∧(ansO o label l).o.k=o.k∧(ansO o label l).o.v=o.v∧(ansO o label l).o.a=o.a:=by
 unfold ansO drO
 split
 ·exact⟨rfl,rfl,rfl,rfl⟩
 ·exact⟨rfl,rfl,rfl,rfl⟩
theorem k14e {α:Type} {p:α→Bool} {ks:List α} {k:α} (h:mHas p ks=false):mPutK p ks k=ks++[k]:=by
 unfold mPutK
 unfold mHas at h
 cases hi:mIdx p ks with
 |none=>rfl
 |some j=>rw[hi]at h;cases h
theorem k14t {α β:Type} {p:α→Bool} {ks:List α} {vs:List β} {v:β} (h:mHas p ks=false):mPutV p ks vs v=vs++[v]:=by
 unfold mPutV
 unfold mHas at h
 cases hi:mIdx p ks with
 |none=>rfl
 |some j=>rw[hi]at h;cases h
theorem k1gx (a b:Int):U64 (ixor .u64 a b):=by
 unfold ixor
 rw[IntKind.wrap_u64]
 omega
theorem mixN_lt (x:Int):0≤mixN x∧mixN x<18446744069414584321:=by
 unfold mixN
 dsimp only
 generalize hv:ixor .u64 _ _=v
 have:U64 v:=by rw[←hv];exact k1gx _ _
 rw[tmod_nn v _ this.1]
 omega
theorem ansO_n (o:OS) (label:Int) (l:List Int):0≤(ansO o label l).n∧(ansO o label l).n<18446744069414584321:=by
 unfold ansO drO
 split
 ·exact mixN_lt _
 ·exact⟨(k193 _ _).1,k1bu _ _⟩
theorem k14h {o:OS} (h:OOk o) {p:ByteArray→Bool} (hm:mHas p o.k=true):0≤mVal p o.k o.v 0∧mVal p o.k o.v 0<o.q.length:=h.or.rng _ (k1hj hm h.or.len)
theorem OOk.lt {o:OS} (h:OOk o) (label:Int) (l:List Int):0≤(hO o label l).n∧(hO o label l).n<18446744069414584321:=by
 unfold hO
 split
 ·split
  ·rename_i hm
   have:=k14h h hm
   exact h.n _ (ix_mem _ _ this.1 this.2)
  ·exact ansO_n _ _ _
 ·exact⟨Int.le_refl 0,show(0:Int)<18446744069414584321 by decide⟩
theorem OOk.h {o:OS} (h:OOk o) (label:Int) {l:List Int} (hl:l.length≤1000000000) (hq:o.q.length≤999999):OOk (hO o label l).o∧o.q.length≤(hO o label l).o.q.length∧(hO o label l).o.q.length≤o.q.length+1:=by
 obtain⟨e1,e2,e3,_⟩:=ansO_q o label l
 unfold hO
 split
 ·split
  ·exact⟨h,Nat.le_refl _,Nat.le_succ _⟩
  ·rename_i hn
   have hn:mHas (BEq.beq (keyB [label] l)) o.k=false:=by simpa using hn
   simp only[recO,e1,e2,e3,k14e hn,k14t hn]
   refine⟨⟨⟨by simp[h.or.len],fun v hv=> ?_⟩,by simp;omega,fun x hx=> ?_,fun x hx=> ?_⟩,by simp,by simp⟩
   ·rcases List.mem_append.1 hv with hv|hv
    ·have:=h.or.rng v hv
     simp
     omega
    ·rw[List.mem_singleton.1 hv]
     simp
     omega
   ·rcases List.mem_append.1 hx with hx|hx
    ·exact h.n x hx
    ·rw[List.mem_singleton.1 hx]
     exact ansO_n _ _ _
   ·rcases List.mem_append.1 hx with hx|hx
    ·exact h.e x hx
    ·rw[List.mem_singleton.1 hx]
     exact hl
 ·exact⟨h,Nat.le_refl _,Nat.le_succ _⟩
theorem OOk.z (ideal:Bool) (seed:Int):OOk (zO ideal seed):=⟨⟨rfl,fun v hv=>by cases hv⟩,Nat.zero_le _,(fun x hx=>by cases hx),(fun x hx=>by cases hx)⟩
structure MR (m:TMessage):Prop where
 t:U64 m.Tag
 l:Us m.L
 n:m.L.length≤99999990
structure MU (m:TMessage):Prop where
 t:U64 m.Tag
 l:Us m.L
def absO (o:OS) (t:TTranscript):List TMessage→AR
 |[]=>⟨t,o⟩
 |m::r=>absO (abO o t m.Tag m.L).o (abO o t m.Tag m.L).t r
def SetI {α:Type} (f:Nat→α) (n:Nat) (i:Int) (g:List α):Prop:=0≤i∧i≤n∧g.length=n∧∀j:Nat,(j:Int)<i→g[j]? =some (f j)
theorem SetI.start {α:Type} {f:Nat→α} {n:Nat} {g:List α} (h:g.length=n):SetI f n 0 g:=⟨by omega,by omega,h,fun j hj=>by omega⟩
theorem SetI.next {α:Type} {f:Nat→α} {n:Nat} {i:Int} {g:List α} {x:α} (h:SetI f n i g) (hh:i<n) (hn:(n:Int)≤9223372036854775807) (hx:x=f i.toNat):SetI f n (IntKind.i64.wrap (i+1)) (g.set i.toNat x)∧(n-IntKind.i64.wrap (i+1)).toNat<(n-i).toNat:=by
 obtain⟨g0,g1,g2,g3⟩:=h
 rw[inc i n g0 hh hn]
 refine⟨⟨by omega,by omega,by rw[List.length_set];exact g2,fun j hj=> ?_⟩,by omega⟩
 rw[List.getElem?_set]
 by_cases e:i.toNat=j
 ·rw[if_pos e,if_pos (by omega),hx,e]
 ·rw[if_neg e]
  exact g3 j (by omega)
theorem SetI.done {α:Type} {f:Nat→α} {n:Nat} {i:Int} {g:List α} (h:SetI f n i g) (hh:¬i<n):g=(List.range n).map f:=by
 obtain⟨g0,g1,g2,g3⟩:=h
 refine List.ext_getElem? fun j=> ?_
 rw[List.getElem?_map]
 by_cases hj:j<n
 ·rw[g3 j (by omega),List.getElem?_range hj];rfl
 ·rw[List.getElem?_eq_none (by omega),List.getElem?_eq_none (by simp;omega)];rfl
def keyQ (x:TQuestion):ByteArray:=keyB [x.Label] x.Elems
structure QOk (x:TQuestion):Prop where
 l:U64 x.Label
 e:Us x.Elems
 b:allB x.Elems=true
structure RO (o:OS):Prop where
 k:o.k=o.q.map keyQ
 v:o.v=(List.range o.q.length).map fun(j:Nat)=>(j:Int)
 q:∀x∈o.q,QOk x
theorem RO.or {o:OS} (h:RO o):OrOk o.k o.v o.q:=⟨by rw[h.k,h.v];simp,fun v hv=>by
 rw[h.v]at hv
 obtain⟨j,hj,rfl⟩:=List.mem_map.1 hv
 have:=List.mem_range.1 hj
 omega⟩
theorem k1au {l m:List Int} (hl:By l) (hm:By m) (h:strOfNums l=strOfNums m):l=m:=by
 have:=strEq hl hm
 rw[h]at this
 simpa using this
theorem flat8_inj' :∀(l m:List Int),Us l→Us m→l.flatMap (dig 8)=m.flatMap (dig 8)→l=m
 |[],[],_,_,_=>rfl
 |[],y::m,_,_,e=>by have:=congrArg List.length e;rw[List.flatMap_cons,List.length_append,ko6,List.flatMap_nil,List.length_nil]at this;omega
 |x::l,[],_,_,e=>by have:=congrArg List.length e;rw[List.flatMap_cons,List.length_append,ko6,List.flatMap_nil,List.length_nil]at this;omega
 |x::l,y::m,hl,hm,e=>by
  rw[List.flatMap_cons,List.flatMap_cons]at e
  have e1:=List.append_inj e (by simp)
  have d1:=dig_inj (k:=8) (hl x (by simp)) (hm y (by simp)) e1.1
  rw[d1,flat8_inj' l m (fun z hz=>hl z (by simp[hz])) (fun z hz=>hm z (by simp[hz])) e1.2]
theorem ba_beq (a b:ByteArray):(a==b)=true↔a=b:=by
 constructor
 ·intro h
  have h:(a.data==b.data)=true:=h
  have:a.data=b.data:=by simpa using h
  cases a
  cases b
  simp_all
 ·rintro rfl
  show(a.data==a.data)=true
  simp
theorem k1gp {a b:Int} {l m:List Int} (ha:U64 a) (hb:U64 b) (hl:Us l) (hm:Us m) (h:keyB [a] l=keyB [b] m):a=b∧l=m:=by
 unfold keyB at h
 have h:=k1au ((kz2 _).append (kz2 _)) ((kz2 _).append (kz2 _)) h
 rw[←List.flatMap_append,←List.flatMap_append]at h
 have:=flat8_inj' _ _ (fun x hx=>by
  rcases List.mem_append.1 hx with hx|hx
  ·rw[List.mem_singleton.1 hx];exact ha
  ·exact hl x hx) (fun x hx=>by
  rcases List.mem_append.1 hx with hx|hx
  ·rw[List.mem_singleton.1 hx];exact hb
  ·exact hm x hx) h
 simpa using this
theorem k1d4 {α β:Type} (p:β→Bool) (f:α→β):∀l:List α,mIdx p (l.map f)=mIdx (fun x=>p (f x)) l
 |[]=>rfl
 |x::l=>by simp only[List.map_cons,mIdx,k1d4 p f l]
theorem RO.find {o:OS} (h:RO o) {label:Int} {l:List Int} (hu:U64 label) (hl:Us l):
  (mHas (BEq.beq (keyB [label] l)) o.k=false∧∀x∈o.q,¬(x.Label=label∧x.Elems=l))∨
  (mHas (BEq.beq (keyB [label] l)) o.k=true∧∃x∈o.q,ix o.q (mVal (BEq.beq (keyB [label] l)) o.k o.v 0)=x∧x.Label=label∧x.Elems=l):=by
 have hp:∀x∈o.q,(BEq.beq (keyB [label] l) (keyQ x)=true↔(x.Label=label∧x.Elems=l)):=by
  intro x hx
  have hq:=h.q x hx
  constructor
  ·intro e
   have e:keyB [label] l=keyQ x:=(ba_beq _ _).1 e
   obtain⟨h1,h2⟩:=k1gp hu hq.l hl hq.e e
   exact⟨h1.symm,h2.symm⟩
  ·rintro ⟨rfl,rfl⟩
   exact(ba_beq _ _).2 rfl
 have hm:mIdx (BEq.beq (keyB [label] l)) o.k=mIdx (fun x=>BEq.beq (keyB [label] l) (keyQ x)) o.q:=by rw[h.k,k1d4]
 cases hi:mIdx (fun x=>BEq.beq (keyB [label] l) (keyQ x)) o.q with
 |none=>
  refine .inl ⟨by unfold mHas;rw[hm,hi];rfl,fun x hx hxl=> ?_⟩
  have:=k18t.1 hi x hx
  rw[(hp x hx).2 hxl]at this
  cases this
 |some j=>
  obtain⟨x,hx,hpx⟩:=k11b hi
  have hjl:j<o.q.length:=(List.getElem?_eq_some_iff.1 hx).1
  have hmem:=List.mem_of_getElem? hx
  refine .inr ⟨by unfold mHas;rw[hm,hi];rfl,x,hmem,?_,(hp x hmem).1 hpx⟩
  have hv:mVal (BEq.beq (keyB [label] l)) o.k o.v 0=(j:Int):=by
   unfold mVal
   rw[hm,hi,h.v]
   simp[hjl]
  rw[hv,ix_nat _ _ (by omega) (by omega)]
  simp only[Int.toNat_natCast]
  exact(List.getElem?_eq_some_iff.1 hx).2
def knows (qs:List TQuestion) (label:Int) (l:List Int):Bool:=qs.any fun x=>decide (x.Label=label)&&decide (x.Elems=l)
theorem k18q {qs:List TQuestion} {label:Int} {l:List Int}:knows qs label l=true↔∃x∈qs,x.Label=label∧x.Elems=l:=by
 unfold knows
 simp
theorem RO.has {o:OS} (h:RO o) {label:Int} {l:List Int} (hu:U64 label) (hl:Us l):mHas (BEq.beq (keyB [label] l)) o.k=knows o.q label l:=by
 rcases h.find hu hl with⟨h1,h2⟩|⟨h1,x,h2,_,h3⟩
 ·rw[h1]
  cases hk:knows o.q label l with
  |false=>rfl
  |true=>obtain⟨x,hx,hxl⟩:=k18q.1 hk;exact(h2 x hx hxl).elim
 ·rw[h1];exact(k18q.2 ⟨x,h2,h3⟩).symm
theorem RO.h {o:OS} (h:RO o) {label:Int} {l:List Int} (hu:U64 label) (hl:Us l):RO (hO o label l).o:=by
 obtain⟨e1,e2,e3,_⟩:=ansO_q o label l
 unfold hO
 split
 ·rename_i hb
  split
  ·exact h
  ·rename_i hn
   have hn:mHas (BEq.beq (keyB [label] l)) o.k=false:=by simpa using hn
   refine⟨?_,?_,?_⟩
   ·simp only[recO,e1,e2]
    rw[k14e hn,h.k,List.map_append]
    rfl
   ·simp only[recO,e1,e2,e3]
    rw[k14t hn,h.v,List.length_append,List.length_singleton,List.range_succ,List.map_append]
    rfl
   ·simp only[recO,e1]
    intro x hx
    rcases List.mem_append.1 hx with hx|hx
    ·exact h.q x hx
    ·rw[List.mem_singleton.1 hx];exact⟨hu,hl,hb⟩
 ·exact h
structure RR (o:OS):Prop where
 r:RO o
 a:o.a=false
 n:∀x∈o.q,x.Answer=hashS x.Label x.Elems
def valH (label:Int) (l:List Int):Int:=if allB l=true then hashS label l else 0
def askQ (qs:List TQuestion) (label:Int) (l:List Int):List TQuestion:=if allB l=true then(if knows qs label l=true then qs else qs++[⟨label,l,hashS label l⟩])else qs
theorem RR.h {o:OS} (h:RR o) {label:Int} {l:List Int} (hu:U64 label) (hl:Us l):(hO o label l).n=valH label l∧(hO o label l).o.q=askQ o.q label l∧RR (hO o label l).o:=by
 have ha:ansO o label l=⟨hashS label l,o⟩:=by unfold ansO;rw[h.a];rfl
 have hr:=h.r.h hu hl
 have hh:=h.r.has hu hl
 have hf:=h.r.find hu hl
 unfold hO valH askQ at *
 rw[ha]at *
 split
 ·rename_i hb
  rw[if_pos hb]at hr
  rw[hh]at hr ⊢
  split
  ·rename_i hk
   rcases hf with⟨h1,_⟩|⟨_,x,hx,e1,e2,e3⟩
   ·rw[hh,hk]at h1;cases h1
   ·refine⟨?_,rfl,h⟩
    simp only[e1]
    rw[h.n x hx,e2,e3]
  ·rename_i hk
   rw[if_neg hk]at hr
   refine⟨rfl,rfl,hr,h.a,fun x hx=> ?_⟩
   simp only[recO]at hx
   rcases List.mem_append.1 hx with hx|hx
   ·exact h.n x hx
   ·rw[List.mem_singleton.1 hx]
 ·exact⟨rfl,rfl,h⟩
theorem RR.z:RR (zO false 0):=⟨⟨rfl,rfl,fun x hx=>by cases hx⟩,rfl,fun x hx=>by cases hx⟩
structure RA where
 s:Int
 q:List TQuestion
structure QL (qs:List TQuestion) (n:Nat):Prop where
 n:qs.length≤n
 e:∀x∈qs,x.Elems.length≤1000000000
theorem QL.ask {qs:List TQuestion} {n:Nat} (h:QL qs n) {label:Int} {l:List Int} (hl:l.length≤1000000000):QL (askQ qs label l) (n+1):=by
 have hn:=h.n
 unfold askQ
 split
 ·split
  ·exact⟨by omega,h.e⟩
  ·refine⟨by simp;omega,fun x hx=> ?_⟩
   rcases List.mem_append.1 hx with hx|hx
   ·exact h.e x hx
   ·rw[List.mem_singleton.1 hx];exact hl
 ·exact⟨by omega,h.e⟩
theorem us2 {a b:Int} {l:List Int} (ha:U64 a) (hb:U64 b) (hl:Us l):Us ([a,b]++l):=fun x hx=>by
 rcases List.mem_append.1 hx with hx|hx
 ·rcases List.mem_cons.1 hx with rfl|hx
  ·exact ha
  ·rw[List.mem_singleton.1 hx];exact hb
 ·exact hl x hx
theorem absO_ok:∀(ms:List TMessage) (o:OS) (t:TTranscript),OOk o→(∀m∈ms,MR m)→o.q.length+ms.length≤999999→OOk (absO o t ms).o∧(absO o t ms).o.q.length≤o.q.length+ms.length
 |[],o,t,h,_,_=>⟨h,Nat.le_refl _⟩
 |m::ms,o,t,h,hm,hn=>by
  have h1:=hm m (by simp)
  have h2:=h1.n
  simp only[List.length_cons]at hn
  obtain⟨e1,e2,e3⟩:=h.h 18 (l:=[t.State,m.Tag]++m.L) (by simp;omega) (by omega)
  have e3:(abO o t m.Tag m.L).o.q.length≤o.q.length+1:=e3
  obtain⟨q1,q2⟩:=absO_ok ms (abO o t m.Tag m.L).o (abO o t m.Tag m.L).t e1 (fun x hx=>hm x (by simp[hx])) (by omega)
  refine⟨q1,?_⟩
  simp only[List.length_cons]
  show(absO _ _ ms).o.q.length≤_
  omega
structure PS where
 o:OS
 t:TTranscript
 g:List Int
def swp (g:List Int) (i j:Int):List Int:=(g.set i.toNat (ix g j)).set j.toNat (ix g i)
def posN (n i:Int) (s:PS):PS:=⟨(chO s.o s.t 18446744069414584321).o,(chO s.o s.t 18446744069414584321).t,swp s.g i (i+(chO s.o s.t 18446744069414584321).n%(n-i))⟩
def posS (n:Int):Nat→Int→PS→PS
 |0,_,s=>s
 |k+1,i,s=>posS n k (i+1) (posN n i s)
def rng (n:Nat):List Int:=(List.range n).map fun(j:Nat)=>(j:Int)
def posO (o:OS) (t:TTranscript) (n count:Int):PS:=if count<0∨n<count∨1024<n then⟨o,t,[]⟩else
 ⟨(posS n count.toNat 0 ⟨o,t,rng n.toNat⟩).o,(posS n count.toNat 0 ⟨o,t,rng n.toNat⟩).t,srt ((posS n count.toNat 0 ⟨o,t,rng n.toNat⟩).g.take count.toNat)⟩
theorem OOk.ch {o:OS} (h:OOk o) (t:TTranscript) (p:Int) (hq:o.q.length≤999999):OOk (chO o t p).o∧(chO o t p).o.q.length≤o.q.length+1∧(chO o t p).t.State=t.State∧(p=18446744069414584321→0≤(chO o t p).n∧(chO o t p).n<18446744069414584321∧U64 (chO o t p).t.Count):=by
 unfold chO
 split
 ·exact⟨h,Nat.le_succ _,rfl,fun e=>by omega⟩
 ·have h1:=h.h 19 (l:=[t.State,t.Count]) (by simp) hq
  have h2:=h.lt 19 [t.State,t.Count]
  refine⟨h1.1,h1.2.2,rfl,?_⟩
  rintro rfl
  have e:Int.tmod (hO o 19 [t.State,t.Count]).n 18446744069414584321=(hO o 19 [t.State,t.Count]).n:=by rw[tmod_nn _ _ h2.1];omega
  refine⟨by show 0≤Int.tmod _ _;rw[e];exact h2.1,by show Int.tmod _ _<_;rw[e];exact h2.2,?_⟩
  show U64 (IntKind.u64.wrap (t.Count+1))
  rw[u64w]
  omega
theorem k1gq (g:List Int) (i j:Int) (h0:0≤i) (h1:i<g.length) (h2:0≤j) (h3:j<g.length):(swp g i j).Perm g:=k1fj g i j h0 h1 h2 h3
theorem k1fd (g:List Int) (i j:Int):(swp g i j).length=g.length:=by unfold swp;rw[List.length_set,List.length_set]
theorem posS_ok (n:Int):∀(k:Nat) (i:Int) (s:PS),OOk s.o→0≤i→i+k≤n→(s.g.length:Int)=n→s.o.q.length+k≤999999→OOk (posS n k i s).o∧(posS n k i s).g.Perm s.g∧(posS n k i s).t.State=s.t.State∧(posS n k i s).o.q.length≤s.o.q.length+k
 |0,_,s,h,_,_,_,_=>⟨h,List.Perm.refl _,rfl,Nat.le_refl _⟩
 |k+1,i,s,h,h0,h1,h2,h3=>by
  obtain⟨e1,e2,e3,e4⟩:=h.ch s.t 18446744069414584321 (by omega)
  obtain⟨e5,e6,e7⟩:=e4 rfl
  have hj:0≤(chO s.o s.t 18446744069414584321).n%(n-i)∧(chO s.o s.t 18446744069414584321).n%(n-i)<n-i:=⟨Int.emod_nonneg _ (by omega),Int.emod_lt_of_pos _ (by omega)⟩
  have hl:(posN n i s).g.length=s.g.length:=k1fd _ _ _
  have hq:(posN n i s).o.q.length≤s.o.q.length+1:=e2
  obtain⟨q1,q2,q3,q4⟩:=posS_ok n k (i+1) (posN n i s) e1 (by omega) (by omega) (by omega) (by omega)
  exact⟨q1,q2.trans (k1gq s.g i _ h0 (by omega) (by omega) (by omega)),q3.trans e3,by show(posS n k (i+1) (posN n i s)).o.q.length≤_;omega⟩
theorem kyy (n:Nat):(rng n).length=n:=by simp[rng]
theorem RR.ch {o:OS} (h:RR o) {t:TTranscript} {p:Int} (h1:U64 t.State) (h2:U64 t.Count) (hp:p≠0):
  (chO o t p).n=Int.tmod (valH 19 [t.State,t.Count]) p∧(chO o t p).t=⟨t.State,(t.Count+1)%18446744073709551616⟩∧(chO o t p).o.q=askQ o.q 19 [t.State,t.Count]∧RR (chO o t p).o:=by
 obtain⟨e1,e2,e3⟩:=h.h (label:=19) (l:=[t.State,t.Count]) (by decide) (us2 (l:=[]) h1 h2 (fun x hx=>by cases hx))
 unfold chO
 rw[if_neg hp]
 exact⟨by show Int.tmod (hO _ _ _).n p=_;rw[e1],by rw[u64w],e2,e3⟩
theorem k1f8 (n:Nat):(rng n).Pairwise (·≤·):=by
 rw[List.pairwise_iff_getElem]
 intro a b ha hb hab
 simp only[rng,List.getElem_map,List.getElem_range]
 omega
theorem k1gt {o:OS} (h:OOk o) (t:TTranscript) {n:Int} (hn:0≤n∧n≤1024) (hq:o.q.length≤900000):(posO o t n n).g=rng n.toNat:=by
 have hl:=kyy n.toNat
 obtain⟨_,h2,_,_⟩:=posS_ok n n.toNat 0 ⟨o,t,rng n.toNat⟩ h (by omega) (by omega) (by show((rng n.toNat).length:Int)=n;omega) (by show o.q.length+_≤_;omega)
 have h2:(posS n n.toNat 0 ⟨o,t,rng n.toNat⟩).g.Perm (rng n.toNat):=h2
 have h3:=h2.length_eq
 unfold posO
 rw[if_neg (by omega)]
 show srt (List.take n.toNat _)=_
 rw[List.take_of_length_le (by omega)]
 exact(srt_eq h2.symm (k1f8 _)).symm
theorem k18x {α:Type} {p:α→Bool} {k:α} (hk:p k=true):∀l:List α,mHas p l=false→mIdx p (l++[k])=some l.length
 |[],_=>by simp[mIdx,hk]
 |x::l,h=>by
  unfold mHas mIdx at h
  cases hx:p x with
  |true=>rw[hx]at h;cases h
  |false=>
   rw[hx]at h
   have h2:mHas p l=false:=by
    unfold mHas
    cases hi:mIdx p l with
    |none=>rfl
    |some j=>rw[hi]at h;cases h
   simp[mIdx,hx,k18x hk l h2]
theorem OOk.peek {o:OS} (h:OOk o) (label:Int) {l:List Int} (hb:allB l=true):pk (hO o label l).o.a (hO o label l).o.q (hO o label l).o.k (hO o label l).o.v label l=some (hO o label l).n:=by
 unfold hO
 rw[if_pos hb]
 split
 ·rename_i hm
  unfold pk
  rw[if_pos hb,if_pos hm]
 ·rename_i hn
  have hn:mHas (BEq.beq (keyB [label] l)) o.k=false:=by simpa using hn
  obtain⟨e1,e2,e3,_⟩:=ansO_q o label l
  have hs:=k18x (p:=BEq.beq (keyB [label] l)) (k:=keyB [label] l) ((ba_beq _ _).2 rfl) o.k hn
  unfold pk
  simp only[recO,e1,e2,e3,k14e hn,k14t hn]
  have hv:mVal (BEq.beq (keyB [label] l)) (o.k++[keyB [label] l]) (o.v++[(o.q.length:Int)]) 0=(o.q.length:Int):=by
   unfold mVal
   rw[hs,h.or.len]
   simp
  rw[if_pos hb,if_pos (by unfold mHas;rw[hs];rfl),hv,ix_nat _ _ (by omega) (by simp;omega)]
  simp
theorem absO_t:∀(ms:List TMessage) (o:OS) (t:TTranscript),OOk o→(∀m∈ms,MR m)→o.q.length+ms.length≤999999→(0≤t.State∧t.State<18446744069414584321∧t.Count=0)→(0≤(absO o t ms).t.State∧(absO o t ms).t.State<18446744069414584321∧(absO o t ms).t.Count=0)
 |[],_,_,_,_,_,ht=>ht
 |m::ms,o,t,h,hm,hn,ht=>by
  have h2:=(hm m (by simp)).n
  simp only[List.length_cons]at hn
  obtain⟨e1,e2,e3⟩:=h.h 18 (l:=[t.State,m.Tag]++m.L) (by simp;omega) (by omega)
  have e3:(abO o t m.Tag m.L).o.q.length≤o.q.length+1:=e3
  have q:=h.lt 18 ([t.State,m.Tag]++m.L)
  exact absO_t ms (abO o t m.Tag m.L).o (abO o t m.Tag m.L).t e1 (fun x hx=>hm x (by simp[hx])) (by omega) ⟨q.1,q.2,rfl⟩
theorem k1gv {o:OS} (h:OOk o) (t:TTranscript) {n c:Int} (hc:0≤c∧c≤n) (hn:n≤1024) (hq:o.q.length≤900000):((posO o t n c).g.length:Int)=c:=by
 have hl:=kyy n.toNat
 obtain⟨_,h2,_,_⟩:=posS_ok n c.toNat 0 ⟨o,t,rng n.toNat⟩ h (by omega) (by omega) (by show((rng n.toNat).length:Int)=n;omega) (by show o.q.length+_≤_;omega)
 have h3:=h2.length_eq
 have h3:(posS n c.toNat 0 ⟨o,t,rng n.toNat⟩).g.length=(rng n.toNat).length:=h3
 unfold posO
 rw[if_neg (by omega)]
 show((srt (List.take c.toNat _)).length:Int)=c
 rw[k16v,List.length_take]
 omega
structure CO where
 a:TQuestion
 b:TQuestion
 f:Bool
structure MB (m:TMessage):Prop where
 t:m.Tag<18446744069414584321
 l:allB m.L=true
theorem kzb.u {t:TTranscript} (h:kzb t):U64 t.State∧U64 t.Count:=⟨h.State,h.Count⟩
theorem kg3.u {m:TMessage} (h:kg3 m):MU m:=⟨h.Tag,h.L.2⟩
theorem kvi {p0:Int} {p1:List TMessage} {p2:Int} (h0:0≤p0∧p0<18446744073709551616) (h1:p1.length≤9223372036854775807∧∀y∈p1,kg3 y) (h2:0≤p2∧p2<256):U64 p0∧((∀m∈p1,MU m)∧p1.length≤9223372036854775807)∧0≤p2∧p2<256:=⟨h0,⟨fun m hm=>(h1.2 m hm).u,h1.1⟩,h2⟩
def k33:Con TB.den:=Con.mk0 33 [.one (.d (.sl (.int .u64)))] [] (.one (.one (.d (.bool)))) []
abbrev ksf:=HL TB.den (hsT k33.ins (hsOs k33.pre))
abbrev k6j:=HL TB.den (hsV k33.res (hsOs k33.post))
noncomputable def k69:Cx TB:=⟨inf,[],[],4,[]⟩
noncomputable def k8x:Code:=Try.f33.body.getD .skip
noncomputable def kcv:List ResultVar:=Try.f33.results.toList
def k122 (o:k6j):=qS TB k69 14 0 (cB (cB k8x)) .no (retTQ TB k69 k33 kcv o)
def k71:Tm:=⟨[],[],[5,6,7],[.one (.d (.sl (.int .u64))),.one (.d (.int .i64)),.one (.d (.int .i64))],0⟩
def k117 (o:k6j) (nx1:NX TB k71):=qM TB 0 k71 nx1 (blockT TB 0 (k122 o))
def ka3 (o:k6j) (nx1:NX TB k71) (i:HL TB.den k71.hs):Prop:=WP TB k69 14 0 (cA (cA (cB (cA (cB k8x))))) .no (k71.fill TB i) (k117 o nx1)
noncomputable def k10z (o:k6j):An TB:= .lp [] k71 (ka3 o) fun nx1=> .no
noncomputable def krr (o:k6j):An TB:= .nd [] .no [] (.nd [] (.nd [] .no [] (k10z o)) [] .no)
def kg4 (x:ksf) (o:k6j):Prop:=WPh TB k69 14 0 k8x (krr o) (k33.st TB x) (retTQ TB k69 k33 kcv o)
theorem k10k (o:k6j):OblH TB k69 14 0 k8x (krr o) (retTQ TB k69 k33 kcv o):=
 OblH.ofC (X:=((∀nx i,(ka3 o) nx i=(ka3 o) nx i)∧(∀nx1:NX TB k71,True)∧True)) (by kernel_rfl) ⟨fun _ _=>rfl,fun _=>trivial,trivial⟩
theorem k106 {x:ksf} {o:k6j} (h:kg4 x o):k33.Snd Try.prog x o:=
 Con.soundH (c:=k33) (C:=k69) TBok ⟨inf_ok,all_nil,all_nil⟩ mix Try.func33 (show Try.f33.body=some k8x by kernel_rfl) (show Try.f33.ntmps=14 by kernel_rfl) (show Try.f33.results.toList=kcv by kernel_rfl) rfl h (k10k o)
theorem k115 {p0:List Int} {r0:Bool} (h:
(Md.Loop (p0,((p0.length:Int):Int),(0:Int),()) (ka3 (r0,())))):kg4 (p0,()) (r0,()):=WPh.of_eq (by kernel_rfl) h
def kre (r0:Bool) (k1:Int→Prop) (s5:List Int) (s6:Int) (s7:Int):Prop:=
(decide (s7<s6)=true→
(0≤s7)∧s7<(s5.length:Int)∧let v1:Bool:=decide (18446744069414584321≤(ix s5 s7))
(v1=true→
 false=r0)∧
(v1=false→
 k1 (IntKind.i64.wrap (s7+1):Int)))∧
(decide (s7<s6)=false→
 true=r0)
theorem k10c {r0:Bool} {s5:List Int} {s6:Int} {s7:Int} (inv:Int→Prop) (μ:Int→Nat) (h0:inv s7) (hs:∀(s7:Int),inv s7→kre r0 (fun s7q=>inv s7q∧μ s7q<μ s7) s5 s6 s7):Md.Loop (s5,s6,s7,()) (ka3 (r0,())):=
 ⟨⟨fun s:(List Int)×Int×Int×Unit=>(s.1=s5∧s.2.1=s6)∧inv s.2.2.1,fun s:(List Int)×Int×Int×Unit=>μ s.2.2.1,⟨⟨rfl,rfl⟩,h0⟩,fun(s5p,s6p,s7p,()) ⟨⟨eq0,eq1⟩,hi⟩=>by
  have eq0:s5p=s5:=eq0;subst s5p;have eq1:s6p=s6:=eq1;subst s6p;exact mpr_of (by kernel_rfl) ((congrArg (fun k=>kre r0 k s5 s6 s7p) (lpk1 (⟨rfl,rfl⟩:s5=s5∧s6=s6) inv (fun s7q=>μ s7q<μ s7p))).mpr (hs s7p hi))⟩⟩
theorem bd33:Callable Try.prog 33:=⟨by rw[Try.func33];kernel_rfl,by rw[Try.func33];show some _≠some _;decide⟩
theorem ky7 (p0:List Int) (h:p0.length≤9223372036854775807):kg4 (p0,()) (((allB p0):Bool),()):=by
 refine k115 (k10c (AllI (fun x=>decide (x<18446744069414584321)) p0) (fun i=>(p0.length-i).toNat) AllI.start ?_)
 intro i hi
 refine⟨fun hh=> ?_,fun hh=>(hi.done (of_decide_eq_false hh)).symm⟩
 have hh:=of_decide_eq_true hh
 exact⟨hi.1,hh,fun e=>(hi.bad hh (by simpa using e)).symm,fun e=>hi.next hh (by omega) (by simpa using e)⟩
noncomputable def kh0:Con TB.den:=k33.fnR (fun x=>(fun(p0:List Int)=>p0.length≤9223372036854775807) x.1) fun x=>((fun(p0:List Int)=>((allB p0):Bool)) x.1,())
theorem krp:kh0.Ok Try.prog TB:=Con.ok_fn k33 bd33 fun x h=>k106 (ky7 x.1 h)
def k22:Con TB.den:=Con.mk0 43 [.one (.own 0),.one (.d (.int .u64))] [.tip (.int .u8)] (.one (.one (.own 0))) [.tip (.int .u8)]
abbrev kn6:=HL TB.den (hsT k22.ins (hsOs k22.pre))
abbrev k4z:=HL TB.den (hsV k22.res (hsOs k22.post))
noncomputable def k4g:Cx TB:=⟨inf,[],[],4,[]⟩
noncomputable def k79:Code:=Try.f43.body.getD .skip
noncomputable def k9k:List ResultVar:=Try.f43.results.toList
def kwk (o:k4z):=qS TB k4g 16 1 (cB (cB k79)) .no (retTQ TB k4g k22 k9k o)
def k5g:Tm:=⟨[0],[.tip (.int .u8)],[0,1,5],[.one (.own 0),.one (.d (.int .u64)),.one (.d (.int .i64))],1⟩
def kwq (o:k4z) (nx1:NX TB k5g):=qM TB 1 k5g nx1 (blockT TB 0 (kwk o))
def k7s (o:k4z) (nx1:NX TB k5g) (i:HL TB.den k5g.hs):Prop:=WP TB k4g 16 1 (cA (cA (cB (cA (cB k79))))) .no (k5g.fill TB i) (kwq o nx1)
noncomputable def kwi (o:k4z):An TB:= .lp [] k5g (k7s o) fun nx1=> .no
noncomputable def klv (o:k4z):An TB:= .nd [] .no [] (.nd [] (.nd [] .no [] (kwi o)) [] .no)
def kbp (x:kn6) (o:k4z):Prop:=WPh TB k4g 16 1 k79 (klv o) (k22.st TB x) (retTQ TB k4g k22 k9k o)
theorem kv7 (o:k4z):OblH TB k4g 16 1 k79 (klv o) (retTQ TB k4g k22 k9k o):=
 OblH.ofC (X:=((∀nx i,(k7s o) nx i=(k7s o) nx i)∧(∀nx1:NX TB k5g,True)∧True)) (by kernel_rfl) ⟨fun _ _=>rfl,fun _=>trivial,trivial⟩
theorem kvl {x:kn6} {o:k4z} (h:kbp x o):k22.Snd Try.prog x o:=
 Con.soundH (c:=k22) (C:=k4g) TBok ⟨inf_ok,all_nil,all_nil⟩ mix Try.func43 (show Try.f43.body=some k79 by kernel_rfl) (show Try.f43.ntmps=16 by kernel_rfl) (show Try.f43.results.toList=k9k by kernel_rfl) rfl h (kv7 o)
theorem kx9 {p1:Int} {w0:List Int} {e0:List Int} (h:
((w0=w0)∧Md.Loop (p1,(0:Int),w0,()) (k7s (e0,())))):kbp (p1,w0,()) (e0,()):=WPh.of_eq (by kernel_rfl) h
def klg (e0:List Int) (k1:Int→Int→List Int→Prop) (s1:Int) (s5:Int) (g0:List Int):Prop:=
(decide (s5<8)=true→
 g0.length=g0.length∧(g0.length+[IntKind.u8.wrap s1].length)*1≤140737488355328∧g0.length+[IntKind.u8.wrap s1].length≤maxLen∧(g0++[IntKind.u8.wrap s1]=g0++[IntKind.u8.wrap s1])∧k1 (ishr .u64 s1 8:Int) (IntKind.i64.wrap (s5+1):Int) (g0++[IntKind.u8.wrap s1]:List Int))∧
(decide (s5<8)=false→
(g0=g0)∧g0=e0)
theorem kv5 {e0:List Int} {s1:Int} {s5:Int} {g0:List Int} (inv:Int→Int→List Int→Prop) (μ:Int→Int→List Int→Nat) (h0:inv s1 s5 g0) (hs:∀(s1:Int) (s5:Int) (g0:List Int),inv s1 s5 g0→klg e0 (fun s1q s5q g0q=>inv s1q s5q g0q∧μ s1q s5q g0q<μ s1 s5 g0) s1 s5 g0):Md.Loop (s1,s5,g0,()) (k7s (e0,())):=
 ⟨⟨fun s:Int×Int×(List Int)×Unit=>(True)∧inv s.1 s.2.1 s.2.2.1,fun s:Int×Int×(List Int)×Unit=>μ s.1 s.2.1 s.2.2.1,⟨trivial,h0⟩,fun(s1p,s5p,g0p,()) ⟨_,hi⟩=>by
  exact mpr_of (by kernel_rfl) ((congrArg (fun k=>klg e0 k s1p s5p g0p) (lpk3 (trivial:True) inv (fun s1q s5q g0q=>μ s1q s5q g0q<μ s1p s5p g0p))).mpr (hs s1p s5p g0p hi))⟩⟩
theorem bd43:Callable Try.prog 43:=⟨by rw[Try.func43];kernel_rfl,by rw[Try.func43];show some _≠some _;decide⟩
theorem ktv (p1:Int) (w0:List Int) (h:U64 p1∧w0.length≤137438953472):kbp (p1,w0,()) (((w0++dig 8 p1):List Int),()):=by
 obtain⟨h1,h2⟩:=h
 refine kx9 ⟨rfl,kv5 (fun n i g=>0≤i∧i≤8∧U64 n∧n=p1/256^i.toNat∧g=w0++dig i.toNat p1) (fun _ i _=>(8-i).toNat) ⟨by omega,by omega,h1,by simp,by simp[dig]⟩ ?_⟩
 rintro n i g ⟨g0,g1,g2,g3,rfl⟩
 refine⟨fun h=> ?_,fun h=> ?_⟩
 ·have h:=of_decide_eq_true h
  rw[inc i 8 g0 h (by omega),ishr8,u8w]
  refine⟨rfl,?_,?_,rfl,⟨by omega,by omega,⟨by omega,by omega⟩,?_,?_⟩,by omega⟩
  ·simp;omega
  ·simp;unfold maxLen;omega
  ·rw[g3,show(i+1).toNat=i.toNat+1 by omega,Int.ediv_ediv_of_nonneg (Int.le_of_lt (k1eh _)),Int.pow_succ]
  ·rw[show(i+1).toNat=i.toNat+1 by omega,k1cj,List.append_assoc,g3]
 ·have h:=of_decide_eq_false h
  exact⟨rfl,by rw[show i=8 by omega];rfl⟩
noncomputable def kkd:Con TB.den:=k22.fnR (fun x=>(fun(p1:Int) (w0:List Int)=>U64 p1∧w0.length≤137438953472) x.1 x.2.1) fun x=>((fun(p1:Int) (w0:List Int)=>((w0++dig 8 p1):List Int)) x.1 x.2.1,())
theorem kww:kkd.Ok Try.prog TB:=Con.ok_fn k22 bd43 fun x h=>kvl (ktv x.1 x.2.1 h)
def k55:Con TB.den:=Con.mk0 34 [.one (.d (.sl (.int .u64))),.one (.d (.sl (.int .u64)))] [] (.one (.one (.d (.str)))) []
abbrev k110:=HL TB.den (hsT k55.ins (hsOs k55.pre))
abbrev k6z:=HL TB.den (hsV k55.res (hsOs k55.post))
noncomputable def k6c:Cx TB:=⟨inf,[kkd],[],4,[]⟩
noncomputable def k8v:Code:=Try.f34.body.getD .skip
noncomputable def kgp:List ResultVar:=Try.f34.results.toList
def k1az (o:k6z):=qS TB k6c 39 0 (cB (cB (cB (cB k8v)))) .no (retTQ TB k6c k55 kgp o)
def kcp:Tm:=⟨[1],[.tip (.int .u8)],[5,27,28,29],[.one (.own 0),.one (.d (.sl (.int .u64))),.one (.d (.int .i64)),.one (.d (.int .i64))],2⟩
def kgm (o:k6z) (nx2:NX TB kcp) (i:HL TB.den kcp.hs):Prop:=WP TB k6c 39 0 (cA (cA (cB (cA (cB (cB (cB k8v))))))) .no (kcp.fill TB i) (qM TB 0 kcp nx2 (blockT TB 2 (k1az o)))
noncomputable def kzd (o:k6z):An TB:= .nd [] .no [] (.lp [] kcp (kgm o) fun nx2=> .no)
def k19w (o:k6z):=qS TB k6c 39 0 (cB (cB (cB k8v))) (.nd [] (kzd o) [] .no) (retTQ TB k6c k55 kgp o)
def kcm:Tm:=⟨[1],[.tip (.int .u8)],[0,5,17,18,19],[.one (.d (.sl (.int .u64))),.one (.own 0),.one (.d (.sl (.int .u64))),.one (.d (.int .i64)),.one (.d (.int .i64))],2⟩
def kgj (o:k6z) (nx1:NX TB kcm) (i:HL TB.den kcm.hs):Prop:=WP TB k6c 39 0 (cA (cA (cB (cA (cB (cB k8v)))))) .no (kcm.fill TB i) (qM TB 0 kcm nx1 (blockT TB 0 (k19w o)))
noncomputable def k19u (o:k6z):An TB:= .lp [.frz 0 [5]] kcm (kgj o) fun nx1=> .no
noncomputable def k1ag (o:k6z):An TB:= .nd [] (.nd [] .no [] (k19u o)) [] (.nd [] (kzd o) [] .no)
noncomputable def kz7 (o:k6z):An TB:= .nd [] .no [] (.nd [] .no [] (k1ag o))
def koy (x:k110) (o:k6z):Prop:=WPh TB k6c 39 0 k8v (kz7 o) (k55.st TB x) (retTQ TB k6c k55 kgp o)
theorem k184 (o:k6z):OblH TB k6c 39 0 k8v (kz7 o) (retTQ TB k6c k55 kgp o):=
 OblH.ofC (X:=((∀nx i,(kgj o) nx i=(kgj o) nx i)∧(∀nx1:NX TB kcm,True)∧(∀nx i,(kgm o) nx i=(kgm o) nx i)∧(∀nx2:NX TB kcp,True)∧True)) (by kernel_rfl) ⟨fun _ _=>rfl,fun _=>trivial,fun _ _=>rfl,fun _=>trivial,trivial⟩
theorem k17m {x:k110} {o:k6z} (h:koy x o):k55.Snd Try.prog x o:=
 Con.soundH (c:=k55) (C:=k6c) TBok ⟨inf_ok,(all_cons kww all_nil),all_nil⟩ mix Try.func34 (show Try.f34.body=some k8v by kernel_rfl) (show Try.f34.ntmps=39 by kernel_rfl) (show Try.f34.results.toList=kgp by kernel_rfl) rfl h (k184 o)
theorem k1a9 {p0:List Int} {p1:List Int} {r0:ByteArray} (h:
(let v1:Int:=IntKind.i64.wrap ((p1.length:Int)+(p0.length:Int))
 0≤(0:Int)∧(0:Int)≤IntKind.i64.wrap (8*v1)∧((IntKind.i64.wrap (8*v1)).toNat*1≤140737488355328)∧((IntKind.i64.wrap (8*v1)).toNat≤maxLen)∧(0=(List.replicate 0 (0:Int)).length)∧(List.replicate 0 (0:Int)=List.replicate 0 (0:Int))∧Md.Loop (p0,p1,((p1.length:Int):Int),(0:Int),(List.replicate 0 (0:Int):List Int),()) (kgj (r0,())))):koy (p0,p1,()) (r0,()):=WPh.of_eq (by kernel_rfl) h
def kzo (r0:ByteArray) (k1:Int→List Int→Prop) (s0:List Int) (s17:List Int) (s18:Int) (s19:Int) (g1:List Int):Prop:=
(decide (s19<s18)=true→
(0≤s19)∧s19<(s17.length:Int)∧(g1=g1)∧(U64 (ix s17 s19)∧g1.length≤137438953472)∧((g1++dig 8 (ix s17 s19))=(g1++dig 8 (ix s17 s19)))∧k1 (IntKind.i64.wrap (s19+1):Int) ((g1++dig 8 (ix s17 s19)):List Int))∧
(decide (s19<s18)=false→
(g1=g1)∧Md.Loop (s0,((s0.length:Int):Int),(0:Int),g1,()) (kgm (r0,())))
theorem k18b {r0:ByteArray} {s0:List Int} {s17:List Int} {s18:Int} {s19:Int} {g1:List Int} (inv:Int→List Int→Prop) (μ:Int→List Int→Nat) (h0:inv s19 g1) (hs:∀(s19:Int) (g1:List Int),inv s19 g1→kzo r0 (fun s19q g1q=>inv s19q g1q∧μ s19q g1q<μ s19 g1) s0 s17 s18 s19 g1):Md.Loop (s0,s17,s18,s19,g1,()) (kgj (r0,())):=
 ⟨⟨fun s:(List Int)×(List Int)×Int×Int×(List Int)×Unit=>(s.1=s0∧s.2.1=s17∧s.2.2.1=s18)∧inv s.2.2.2.1 s.2.2.2.2.1,fun s:(List Int)×(List Int)×Int×Int×(List Int)×Unit=>μ s.2.2.2.1 s.2.2.2.2.1,⟨⟨rfl,rfl,rfl⟩,h0⟩,fun(s0p,s17p,s18p,s19p,g1p,()) ⟨⟨eq0,eq1,eq2⟩,hi⟩=>by
  have eq0:s0p=s0:=eq0;subst s0p;have eq1:s17p=s17:=eq1;subst s17p;have eq2:s18p=s18:=eq2;subst s18p;exact mpr_of (by kernel_rfl) ((congrArg (fun k=>kzo r0 k s0 s17 s18 s19p g1p) (lpk2 (⟨rfl,rfl,rfl⟩:s0=s0∧s17=s17∧s18=s18) inv (fun s19q g1q=>μ s19q g1q<μ s19p g1p))).mpr (hs s19p g1p hi))⟩⟩
def kza (r0:ByteArray) (k2:Int→List Int→Prop) (s27:List Int) (s28:Int) (s29:Int) (g1:List Int):Prop:=
(decide (s29<s28)=true→
(0≤s29)∧s29<(s27.length:Int)∧(g1=g1)∧(U64 (ix s27 s29)∧g1.length≤137438953472)∧((g1++dig 8 (ix s27 s29))=(g1++dig 8 (ix s27 s29)))∧k2 (IntKind.i64.wrap (s29+1):Int) ((g1++dig 8 (ix s27 s29)):List Int))∧
(decide (s29<s28)=false→
 strOfNums g1=r0)
theorem k18g {r0:ByteArray} {s27:List Int} {s28:Int} {s29:Int} {g1:List Int} (inv:Int→List Int→Prop) (μ:Int→List Int→Nat) (h0:inv s29 g1) (hs:∀(s29:Int) (g1:List Int),inv s29 g1→kza r0 (fun s29q g1q=>inv s29q g1q∧μ s29q g1q<μ s29 g1) s27 s28 s29 g1):Md.Loop (s27,s28,s29,g1,()) (kgm (r0,())):=
 ⟨⟨fun s:(List Int)×Int×Int×(List Int)×Unit=>(s.1=s27∧s.2.1=s28)∧inv s.2.2.1 s.2.2.2.1,fun s:(List Int)×Int×Int×(List Int)×Unit=>μ s.2.2.1 s.2.2.2.1,⟨⟨rfl,rfl⟩,h0⟩,fun(s27p,s28p,s29p,g1p,()) ⟨⟨eq0,eq1⟩,hi⟩=>by
  have eq0:s27p=s27:=eq0;subst s27p;have eq1:s28p=s28:=eq1;subst s28p;exact mpr_of (by kernel_rfl) ((congrArg (fun k=>kza r0 k s27 s28 s29p g1p) (lpk2 (⟨rfl,rfl⟩:s27=s27∧s28=s28) inv (fun s29q g1q=>μ s29q g1q<μ s29p g1p))).mpr (hs s29p g1p hi))⟩⟩
theorem bd34:Callable Try.prog 34:=⟨by rw[Try.func34];kernel_rfl,by rw[Try.func34];show some _≠some _;decide⟩
theorem k17e (p0:List Int) (p1:List Int) (h:Us p0∧Us p1∧p0.length≤1073741824∧p1.length≤1073741824):koy (p0,p1,()) (((keyB p1 p0):ByteArray),()):=by
 obtain⟨h0,h1,h2,h3⟩:=h
 refine k1a9 ?_
 rw[wi ((p1.length:Int)+p0.length) (by omega) (by omega)]
 simp only[]
 rw[wi (8*((p1.length:Int)+p0.length)) (by omega) (by omega)]
 refine⟨by omega,by omega,by omega,by unfold maxLen;omega,by trivial,by trivial,?_⟩
 refine k18b (fun i g=>FlatI (dig 8) [] p1 i g) (fun i _=>(p1.length-i).toNat) FlatI.start ?_
 intro i g hg
 have hl:=hg.len 8 (fun x _=>by simp)
 refine⟨fun hh=> ?_,fun hh=> ?_⟩
 ·have hh:=of_decide_eq_true hh
  exact⟨hg.1,hh,rfl,⟨h1 _ (ix_mem p1 i hg.1 hh),by simp at hl;omega⟩,by trivial,hg.next hh (by omega) rfl⟩
 ·have hh:=of_decide_eq_false hh
  have e:=hg.done hh
  refine⟨rfl,k18g (fun j g=>FlatI (dig 8) (p1.flatMap (dig 8)) p0 j g) (fun j _=>(p0.length-j).toNat) (by rw[e];exact FlatI.start) ?_⟩
  intro j g2 hg2
  have hl2:=hg2.len 8 (fun x _=>by simp)
  have hl3:=k119 p1
  refine⟨fun hh2=> ?_,fun hh2=> ?_⟩
  ·have hh2:=of_decide_eq_true hh2
   exact⟨hg2.1,hh2,rfl,⟨h0 _ (ix_mem p0 j hg2.1 hh2),by omega⟩,by trivial,hg2.next hh2 (by omega) rfl⟩
  ·rw[hg2.done (of_decide_eq_false hh2)];rfl
noncomputable def kqm:Con TB.den:=k55.fnR (fun x=>(fun(p0:List Int) (p1:List Int)=>Us p0∧Us p1∧p0.length≤1073741824∧p1.length≤1073741824) x.1 x.2.1) fun x=>((fun(p0:List Int) (p1:List Int)=>((keyB p1 p0):ByteArray)) x.1 x.2.1,())
theorem kzl:kqm.Ok Try.prog TB:=Con.ok_fn k55 bd34 fun x h=>k17m (k17e x.1 x.2.1 h)
def k61:Con TB.den:=Con.mk0 44 [.agg [.d (.int .u64)]] [] (.one (.one (.d (.bool)))) []
abbrev k103:=HL TB.den (hsT k61.ins (hsOs k61.pre))
abbrev km5:=HL TB.den (hsV k61.res (hsOs k61.post))
noncomputable def kfc:Cx TB:=⟨inf,[],[],4,[]⟩
noncomputable def kmu:Code:=Try.f44.body.getD .skip
noncomputable def kqr:List ResultVar:=Try.f44.results.toList
noncomputable def kxk (o:km5):An TB:= .no
def kmi (x:k103) (o:km5):Prop:=WPh TB kfc 13 0 kmu (kxk o) (k61.st TB x) (retTQ TB kfc k61 kqr o)
theorem k16u (o:km5):OblH TB kfc 13 0 kmu (kxk o) (retTQ TB kfc k61 kqr o):=
 OblH.ofC (X:=True) (by kernel_rfl) trivial
theorem k177 {x:k103} {o:km5} (h:kmi x o):k61.Snd Try.prog x o:=
 Con.soundH (c:=k61) (C:=kfc) TBok ⟨inf_ok,all_nil,all_nil⟩ mix Try.func44 (show Try.f44.body=some kmu by kernel_rfl) (show Try.f44.ntmps=13 by kernel_rfl) (show Try.f44.results.toList=kqr by kernel_rfl) rfl h (k16u o)
theorem k17t {p0:TField} {r0:Bool} (h:
(((p0.P==18446744069414584321)=true→
((p0.P==18446744069414584321)=true→
 true=r0)∧
((p0.P==18446744069414584321)=false→
 false=r0))∧
((p0.P==18446744069414584321)=false→
((p0.P==17)=true→
((p0.P==17)=true→
 true=r0)∧
((p0.P==17)=false→
 false=r0))∧
((p0.P==17)=false→
((p0.P==97)=true→
((p0.P==97)=true→
 true=r0)∧
((p0.P==97)=false→
 false=r0))∧
((p0.P==97)=false→
((p0.P==193)=true→
((p0.P==193)=true→
 true=r0)∧
((p0.P==193)=false→
 false=r0))∧
((p0.P==193)=false→
((p0.P==257)=true→
((p0.P==257)=true→
 true=r0)∧
((p0.P==257)=false→
 false=r0))∧
((p0.P==257)=false→
((p0.P==12289)=true→
((p0.P==12289)=true→
 true=r0)∧
((p0.P==12289)=false→
 false=r0))∧
((p0.P==12289)=false→
((p0.P==65537)=true→
 true=r0)∧
((p0.P==65537)=false→
 false=r0))))))))):kmi (p0.P,()) (r0,()):=WPh.of_eq (by kernel_rfl) h
theorem bd44:Callable Try.prog 44:=⟨by rw[Try.func44];kernel_rfl,by rw[Try.func44];show some _≠some _;decide⟩
theorem k145 (p0:TField) (h:p0.P=18446744069414584321):kmi (p0.P,()) ((true:Bool),()):=by
 refine k17t ?_
 simp[h]
noncomputable def k8s:Con TB.den:=k61.fnR (fun x=>(fun(p0:TField)=>p0.P=18446744069414584321) (TField.mk x.1)) fun x=>((fun(p0:TField)=>(true:Bool)) (TField.mk x.1),())
theorem kbo:k8s.Ok Try.prog TB:=Con.ok_fn k61 bd44 fun x h=>k177 (k145 (TField.mk x.1) h)
def k6i:Con TB.den:=Con.mk0 72 [.agg [.d (.int .u64)],.one (.d (.int .u64)),.one (.d (.int .u64))] [] (.one (.one (.d (.int .u64)))) []
abbrev k136:=HL TB.den (hsT k6i.ins (hsOs k6i.pre))
abbrev kbl:=HL TB.den (hsV k6i.res (hsOs k6i.post))
noncomputable def k9z:Cx TB:=⟨inf,[],[x87],4,[]⟩
noncomputable def kea:Code:=Try.f72.body.getD .skip
noncomputable def kox:List ResultVar:=Try.f72.results.toList
def k1cy (o:kbl):=qS TB k9z 28 0 (cB (cB (cB kea))) .no (retTQ TB k9z k6i kox o)
def km7:Tm:=⟨[0],[.cells [.d (.int .u64)]],[3,7,22],[.one (.ptr 0 0),.one (.d (.int .u64)),.one (.d (.bool))],1⟩
def kz5 (o:kbl) (i:HL TB.den km7.hs):Prop:=ghs TB [] (km7.fill TB i) fun s=>WP TB k9z 28 0 (cB (cA (cB (cB kea)))) .no s (k1cy o)
structure kit (o:kbl) (i:HL TB.den km7.hs):Prop where
 h:kz5 o i
noncomputable def k1bw (o:kbl):An TB:= .nd [] (.jn km7 (kit o) [] .no [] .no) [] .no
noncomputable def k11h (o:kbl):An TB:= .nd [] .no [] (.nd [] .no [] (k1bw o))
def kqw (x:k136) (o:kbl):Prop:=WPh TB k9z 28 0 kea (k11h o) (k6i.st TB x) (retTQ TB k9z k6i kox o)
theorem k1aw (o:kbl):OblH TB k9z 28 0 kea (k11h o) (retTQ TB k9z k6i kox o):=
 OblH.ofC (X:=((∀i,(kit o) i=kz5 o i)∧True)) (by kernel_rfl) ⟨fun _=>propext ⟨fun h=>h.1,fun h=>⟨h⟩⟩,trivial⟩
theorem k1ao {x:k136} {o:kbl} (h:kqw x o):k6i.Snd Try.prog x o:=
 Con.soundH (c:=k6i) (C:=k9z) TBok ⟨inf_ok,all_nil,(all_cons x87_ok all_nil)⟩ mix Try.func72 (show Try.f72.body=some kea by kernel_rfl) (show Try.f72.ntmps=28 by kernel_rfl) (show Try.f72.results.toList=kox by kernel_rfl) rfl h (k1aw o)
theorem k1cd {p0:TField} {p1:Int} {p2:Int} {r0:Int} (h:
((0≤p1∧0≤p2∧0≤(0:Int)∧(0:Int)≤1)∧let r1:Int:=(p1+p2+(0:Int))%18446744073709551616
 let r2:Int:=(p1+p2+(0:Int))/18446744073709551616
((r2 !=0)=true→
 kit (r0,()) (r1,true,p0.P,()))∧
((r2 !=0)=false→
 kit (r0,()) (r1,(decide (p0.P≤r1):Bool),p0.P,())))):kqw (p0.P,p1,p2,()) (r0,()):=WPh.of_eq (by kernel_rfl) h
theorem kwb {r0:Int} {s7:Int} {s22:Bool} {h0_0:Int} (h:
((s22=true→
 IntKind.u64.wrap (s7-h0_0)=r0)∧
(s22=false→
 s7=r0))):kit (r0,()) (s7,s22,h0_0,()):=⟨mpr_of (by kernel_rfl) h⟩
theorem bd72:Callable Try.prog 72:=⟨by rw[Try.func72];kernel_rfl,by rw[Try.func72];show some _≠some _;decide⟩
theorem k17w (p0:TField) (p1:Int) (p2:Int) (h:p0.P=18446744069414584321∧(0≤p1∧p1<18446744069414584321)∧(0≤p2∧p2<18446744069414584321)):kqw (p0.P,p1,p2,()) ((((p1+p2)%18446744069414584321):Int),()):=by
 obtain⟨hP,h1,h2⟩:=h
 refine k1cd ⟨by omega,?_,?_⟩
 ·intro h
  refine kwb ⟨fun _=> ?_,fun h=>by simp at h⟩
  have h:(p1+p2+0)/18446744073709551616≠0:=by simpa using h
  rw[hP,u64w];omega
 ·intro h
  have h:(p1+p2+0)/18446744073709551616=0:=by simpa using h
  refine kwb ⟨fun g=> ?_,fun g=> ?_⟩
  ·have g:=of_decide_eq_true g
   rw[hP]at g ⊢
   rw[u64w];omega
  ·have g:=of_decide_eq_false g
   rw[hP]at g
   omega
noncomputable def kzc:Con TB.den:=k6i.fnR (fun x=>(fun(p0:TField) (p1:Int) (p2:Int)=>p0.P=18446744069414584321∧(0≤p1∧p1<18446744069414584321)∧(0≤p2∧p2<18446744069414584321)) (TField.mk x.1) x.2.1 x.2.2.1) fun x=>((fun(p0:TField) (p1:Int) (p2:Int)=>(((p1+p2)%18446744069414584321):Int)) (TField.mk x.1) x.2.1 x.2.2.1,())
theorem k1cc:kzc.Ok Try.prog TB:=Con.ok_fn k6i bd72 fun x h=>k1ao (k17w (TField.mk x.1) x.2.1 x.2.2.1 h)
def k4t:Con TB.den:=Con.mk0 73 [.agg [.d (.int .u64)],.one (.d (.int .u64))] [] (.one (.one (.d (.int .u64)))) []
abbrev kvq:=HL TB.den (hsT k4t.ins (hsOs k4t.pre))
abbrev khd:=HL TB.den (hsV k4t.res (hsOs k4t.post))
noncomputable def kc1:Cx TB:=⟨inf,[],[],4,[]⟩
noncomputable def khy:Code:=Try.f73.body.getD .skip
noncomputable def kmg:List ResultVar:=Try.f73.results.toList
noncomputable def kug (o:khd):An TB:= .no
def kib (x:kvq) (o:khd):Prop:=WPh TB kc1 14 0 khy (kug o) (k4t.st TB x) (retTQ TB kc1 k4t kmg o)
theorem k12k (o:khd):OblH TB kc1 14 0 khy (kug o) (retTQ TB kc1 k4t kmg o):=
 OblH.ofC (X:=True) (by kernel_rfl) trivial
theorem k12s {x:kvq} {o:khd} (h:kib x o):k4t.Snd Try.prog x o:=
 Con.soundH (c:=k4t) (C:=kc1) TBok ⟨inf_ok,all_nil,all_nil⟩ mix Try.func73 (show Try.f73.body=some khy by kernel_rfl) (show Try.f73.ntmps=14 by kernel_rfl) (show Try.f73.results.toList=kmg by kernel_rfl) rfl h (k12k o)
theorem k15b {p0:TField} {p1:Int} {r0:Int} (h:
((decide (p0.P≤p1)=true→
(p0.P≠0)∧Int.tmod p1 p0.P=r0)∧
(decide (p0.P≤p1)=false→
 p1=r0))):kib (p0.P,p1,()) (r0,()):=WPh.of_eq (by kernel_rfl) h
theorem bd73:Callable Try.prog 73:=⟨by rw[Try.func73];kernel_rfl,by rw[Try.func73];show some _≠some _;decide⟩
theorem k11q (p0:TField) (p1:Int) (h:0<p0.P∧0≤p1):kib (p0.P,p1,()) (((p1%p0.P):Int),()):=by
 refine k15b ⟨fun h1=>⟨by omega,tmod_nn _ _ h.2⟩,fun h1=> ?_⟩
 simp at h1
 rw[Int.emod_eq_of_lt (by omega) (by omega)]
noncomputable def kb6:Con TB.den:=k4t.fnR (fun x=>(fun(p0:TField) (p1:Int)=>0<p0.P∧0≤p1) (TField.mk x.1) x.2.1) fun x=>((fun(p0:TField) (p1:Int)=>((p1%p0.P):Int)) (TField.mk x.1) x.2.1,())
theorem kgh:kb6.Ok Try.prog TB:=Con.ok_fn k4t bd73 fun x h=>k12s (k11q (TField.mk x.1) x.2.1 h)
def k6y:Con TB.den:=Con.mk0 52 [.agg [.d (.int .u64)],.one (.d (.int .u64)),.one (.d (.int .u64))] [] (.one (.one (.d (.int .u64)))) []
abbrev k13d:=HL TB.den (hsT k6y.ins (hsOs k6y.pre))
abbrev kr4:=HL TB.den (hsV k6y.res (hsOs k6y.post))
noncomputable def kii:Cx TB:=⟨inf,[k8s,kb6,kzc],[],4,[]⟩
noncomputable def kr0:Code:=Try.f52.body.getD .skip
noncomputable def kut:List ResultVar:=Try.f52.results.toList
noncomputable def k11s (o:kr4):An TB:= .no
def kq7 (x:k13d) (o:kr4):Prop:=WPh TB kii 18 0 kr0 (k11s o) (k6y.st TB x) (retTQ TB kii k6y kut o)
theorem k1at (o:kr4):OblH TB kii 18 0 kr0 (k11s o) (retTQ TB kii k6y kut o):=
 OblH.ofC (X:=True) (by kernel_rfl) trivial
theorem k1aj {x:k13d} {o:kr4} (h:kq7 x o):k6y.Snd Try.prog x o:=
 Con.soundH (c:=k6y) (C:=kii) TBok ⟨inf_ok,(all_cons kbo (all_cons kgh (all_cons k1cc all_nil))),all_nil⟩ mix Try.func52 (show Try.f52.body=some kr0 by kernel_rfl) (show Try.f52.ntmps=18 by kernel_rfl) (show Try.f52.results.toList=kut by kernel_rfl) rfl h (k1at o)
theorem k1da {p0:TField} {p1:Int} {p2:Int} {r0:Int} (h:
((p0.P=18446744069414584321)∧((!true)=true→
 0=r0)∧
((!true)=false→
(0<p0.P∧0≤p1)∧(0<p0.P∧0≤p2)∧(p0.P=18446744069414584321∧(0≤(p1%p0.P)∧(p1%p0.P)<18446744069414584321)∧(0≤(p2%p0.P)∧(p2%p0.P)<18446744069414584321))∧let r1:Int:=(((p1%p0.P)+(p2%p0.P))%18446744069414584321)
 r1=r0))):kq7 (p0.P,p1,p2,()) (r0,()):=WPh.of_eq (by kernel_rfl) h
theorem bd52:Callable Try.prog 52:=⟨by rw[Try.func52];kernel_rfl,by rw[Try.func52];show some _≠some _;decide⟩
theorem k17y (p0:TField) (p1:Int) (p2:Int) (h:p0.P=18446744069414584321∧U64 p1∧U64 p2):kq7 (p0.P,p1,p2,()) ((((p1+p2)%18446744069414584321):Int),()):=by
 obtain⟨hP,h1,h2⟩:=h
 refine k1da ⟨hP,?_⟩
 simp only[hP]
 refine⟨fun h=>by simp at h,fun _=>⟨by omega,by omega,⟨by trivial,by omega,by omega⟩,?_⟩⟩
 omega
noncomputable def km6:Con TB.den:=k6y.fnR (fun x=>(fun(p0:TField) (p1:Int) (p2:Int)=>p0.P=18446744069414584321∧U64 p1∧U64 p2) (TField.mk x.1) x.2.1 x.2.2.1) fun x=>((fun(p0:TField) (p1:Int) (p2:Int)=>(((p1+p2)%18446744069414584321):Int)) (TField.mk x.1) x.2.1 x.2.2.1,())
theorem kv0:km6.Ok Try.prog TB:=Con.ok_fn k6y bd52 fun x h=>k1aj (k17y (TField.mk x.1) x.2.1 x.2.2.1 h)
def k4m:Con TB.den:=Con.mk0 65 [.one (.d (.int .u64))] [] (.one (.one (.d (.int .i64)))) []
abbrev k113:=HL TB.den (hsT k4m.ins (hsOs k4m.pre))
abbrev k6b:=HL TB.den (hsV k4m.res (hsOs k4m.post))
noncomputable def k6d:Cx TB:=⟨inf,[],[],4,[]⟩
noncomputable def kae:Code:=Try.f65.body.getD .skip
noncomputable def kcq:List ResultVar:=Try.f65.results.toList
def kfp:Tm:=⟨[],[],[0,2],[.one (.d (.int .u64)),.one (.d (.int .i64))],0⟩
def kxl (o:k6b) (i:HL TB.den kfp.hs):Prop:=ghs TB [] (kfp.fill TB i) fun s=>WP TB k6d 25 0 (cB (cB (cB (cB kae)))) .no s (retTQ TB k6d k4m kcq o)
structure kai (o:k6b) (i:HL TB.den kfp.hs):Prop where
 h:kxl o i
def kju:Tm:=⟨[],[],[0,2],[.one (.d (.int .u64)),.one (.d (.int .i64))],0⟩
def kxx (o:k6b) (i:HL TB.den kju.hs):Prop:=ghs TB [] (kju.fill TB i) fun s=>WP TB k6d 25 0 (cB (cB (cB kae))) (.jn kfp (kai o) [] .no [] .no) s (retTQ TB k6d k4m kcq o)
structure kcl (o:k6b) (i:HL TB.den kju.hs):Prop where
 h:kxx o i
noncomputable def k100 (o:k6b):An TB:= .jn kju (kcl o) [] .no [] (.jn kfp (kai o) [] .no [] .no)
def kk7:Tm:=⟨[],[],[0,2],[.one (.d (.int .u64)),.one (.d (.int .i64))],0⟩
def ky4 (o:k6b) (i:HL TB.den kk7.hs):Prop:=ghs TB [] (kk7.fill TB i) fun s=>WP TB k6d 25 0 (cB (cB kae)) (k100 o) s (retTQ TB k6d k4m kcq o)
structure kcn (o:k6b) (i:HL TB.den kk7.hs):Prop where
 h:ky4 o i
noncomputable def k1aq (o:k6b):An TB:= .jn kk7 (kcn o) [] .no [] (k100 o)
noncomputable def k102 (o:k6b):An TB:= .nd [] .no [] (k1aq o)
def kp8 (x:k113) (o:k6b):Prop:=WPh TB k6d 25 0 kae (k102 o) (k4m.st TB x) (retTQ TB k6d k4m kcq o)
theorem k186 (o:k6b):OblH TB k6d 25 0 kae (k102 o) (retTQ TB k6d k4m kcq o):=
 OblH.ofC (X:=((∀i,(kcn o) i=ky4 o i)∧(∀i,(kcl o) i=kxx o i)∧(∀i,(kai o) i=kxl o i)∧True)) (by kernel_rfl) ⟨fun _=>propext ⟨fun h=>h.1,fun h=>⟨h⟩⟩,fun _=>propext ⟨fun h=>h.1,fun h=>⟨h⟩⟩,fun _=>propext ⟨fun h=>h.1,fun h=>⟨h⟩⟩,trivial⟩
theorem k18j {x:k113} {o:k6b} (h:kp8 x o):k4m.Snd Try.prog x o:=
 Con.soundH (c:=k4m) (C:=k6d) TBok ⟨inf_ok,all_nil,all_nil⟩ mix Try.func65 (show Try.f65.body=some kae by kernel_rfl) (show Try.f65.ntmps=25 by kernel_rfl) (show Try.f65.results.toList=kcq by kernel_rfl) rfl h (k186 o)
theorem k1ac {p0:Int} {r0:Int} (h:
((decide (4294967296≤p0)=true→
 kcn (r0,()) ((ishr .u64 p0 32:Int),(32:Int),()))∧
(decide (4294967296≤p0)=false→
 kcn (r0,()) (p0,(0:Int),())))):kp8 (p0,()) (r0,()):=WPh.of_eq (by kernel_rfl) h
theorem k14z {r0:Int} {s0:Int} {s2:Int} (h:
((decide (65536≤s0)=true→
 kcl (r0,()) ((ishr .u64 s0 16:Int),(IntKind.i64.wrap (s2+16):Int),()))∧
(decide (65536≤s0)=false→
 kcl (r0,()) (s0,s2,())))):kcn (r0,()) (s0,s2,()):=⟨mpr_of (by kernel_rfl) h⟩
theorem k15p {r0:Int} {s0:Int} {s2:Int} (h:
((decide (256≤s0)=true→
 kai (r0,()) ((ishr .u64 s0 8:Int),(IntKind.i64.wrap (s2+8):Int),()))∧
(decide (256≤s0)=false→
 kai (r0,()) (s0,s2,())))):kcl (r0,()) (s0,s2,()):=⟨mpr_of (by kernel_rfl) h⟩
theorem k15q {r0:Int} {s0:Int} {s2:Int} (h:
((0≤IntKind.u8.wrap s0∧IntKind.u8.wrap s0<((⟨#[0,1,2,2,3,3,3,3,4,4,4,4,4,4,4,4,5,5,5,5,5,5,5,5,5,5,5,5,5,5,5,5,6,6,6,6,6,6,6,6,6,6,6,6,6,6,6,6,6,6,6,6,6,6,6,6,6,6,6,6,6,6,6,6,7,7,7,7,7,7,7,7,7,7,7,7,7,7,7,7,7,7,7,7,7,7,7,7,7,7,7,7,7,7,7,7,7,7,7,7,7,7,7,7,7,7,7,7,7,7,7,7,7,7,7,7,7,7,7,7,7,7,7,7,7,7,7,7,8,8,8,8,8,8,8,8,8,8,8,8,8,8,8,8,8,8,8,8,8,8,8,8,8,8,8,8,8,8,8,8,8,8,8,8,8,8,8,8,8,8,8,8,8,8,8,8,8,8,8,8,8,8,8,8,8,8,8,8,8,8,8,8,8,8,8,8,8,8,8,8,8,8,8,8,8,8,8,8,8,8,8,8,8,8,8,8,8,8,8,8,8,8,8,8,8,8,8,8,8,8,8,8,8,8,8,8,8,8,8,8,8,8,8,8,8,8,8,8,8,8,8,8,8,8,8,8]⟩:ByteArray).size:Int))∧let v1:Int:=byteAt (⟨#[0,1,2,2,3,3,3,3,4,4,4,4,4,4,4,4,5,5,5,5,5,5,5,5,5,5,5,5,5,5,5,5,6,6,6,6,6,6,6,6,6,6,6,6,6,6,6,6,6,6,6,6,6,6,6,6,6,6,6,6,6,6,6,6,7,7,7,7,7,7,7,7,7,7,7,7,7,7,7,7,7,7,7,7,7,7,7,7,7,7,7,7,7,7,7,7,7,7,7,7,7,7,7,7,7,7,7,7,7,7,7,7,7,7,7,7,7,7,7,7,7,7,7,7,7,7,7,7,8,8,8,8,8,8,8,8,8,8,8,8,8,8,8,8,8,8,8,8,8,8,8,8,8,8,8,8,8,8,8,8,8,8,8,8,8,8,8,8,8,8,8,8,8,8,8,8,8,8,8,8,8,8,8,8,8,8,8,8,8,8,8,8,8,8,8,8,8,8,8,8,8,8,8,8,8,8,8,8,8,8,8,8,8,8,8,8,8,8,8,8,8,8,8,8,8,8,8,8,8,8,8,8,8,8,8,8,8,8,8,8,8,8,8,8,8,8,8,8,8,8,8,8,8,8,8,8]⟩:ByteArray) (IntKind.u8.wrap s0)
 let v2:Int:=IntKind.i64.wrap (s2+(IntKind.i64.wrap v1))
 v2=r0)):kai (r0,()) (s0,s2,()):=⟨mpr_of (by kernel_rfl) h⟩
theorem bd65:Callable Try.prog 65:=⟨by rw[Try.func65];kernel_rfl,by rw[Try.func65];show some _≠some _;decide⟩
theorem k16i (p0:Int) (h:U64 p0):kp8 (p0,()) (((len64 p0):Int),()):=by
 have j3:∀s0 s2:Int,0≤s0→s0<256→0≤s2→s2≤56→kai (s2+len64 s0,()) (s0,s2,()):=fun s0 s2 h0 h1 h2 h3=>by
  refine k15q ?_
  have e:IntKind.u8.wrap s0=s0:=by rw[u8w];omega
  have l:=k1e4 s0 ⟨h0,h1⟩
  show(0≤IntKind.u8.wrap s0∧IntKind.u8.wrap s0<(tab8.size:Int))∧IntKind.i64.wrap (s2+IntKind.i64.wrap (byteAt tab8 (IntKind.u8.wrap s0)))=_
  rw[e,k1g4,k1co s0 ⟨h0,h1⟩,wi (len64 s0) (by omega) (by omega),wi (s2+len64 s0) (by omega) (by omega)]
  exact⟨⟨h0,h1⟩,rfl⟩
 have j2:∀s0 s2:Int,0≤s0→s0<65536→0≤s2→s2≤48→kcl (s2+len64 s0,()) (s0,s2,()):=fun s0 s2 h0 h1 h2 h3=>by
  refine k15p ⟨fun h=> ?_,fun h=>j3 s0 s2 h0 (by simpa using h) h2 (by omega)⟩
  have h:=of_decide_eq_true h
  rw[ishr8,wi _ (by omega) (by omega),←kx2 s0 8 (by simpa using h),←Int.add_assoc,Int.add_right_comm]
  exact j3 _ _ (by omega) (by omega) (by omega) (by omega)
 have j1:∀s0 s2:Int,0≤s0→s0<4294967296→0≤s2→s2≤32→kcn (s2+len64 s0,()) (s0,s2,()):=fun s0 s2 h0 h1 h2 h3=>by
  refine k14z ⟨fun h=> ?_,fun h=>j2 s0 s2 h0 (by simpa using h) h2 (by omega)⟩
  have h:=of_decide_eq_true h
  rw[ishr16,wi _ (by omega) (by omega),←kx2 s0 16 (by simpa using h),←Int.add_assoc,Int.add_right_comm]
  exact j2 _ _ (by omega) (by omega) (by omega) (by omega)
 refine k1ac ⟨fun h1=> ?_,fun h1=> ?_⟩
 ·have h1:=of_decide_eq_true h1
  rw[ishr32,←kx2 p0 32 (by simpa using h1),Int.add_comm]
  exact j1 _ _ (by omega) (by omega) (by omega) (by omega)
 ·have:=j1 p0 0 h.1 (by simpa using h1) (by omega) (by omega)
  rwa [Int.zero_add]at this
noncomputable def kqj:Con TB.den:=k4m.fnR (fun x=>(fun(p0:Int)=>U64 p0) x.1) fun x=>((fun(p0:Int)=>((len64 p0):Int)) x.1,())
theorem k101:kqj.Ok Try.prog TB:=Con.ok_fn k4m bd65 fun x h=>k18j (k16i x.1 h)
def k2f:Con TB.den:=Con.mk0 85 [.one (.d (.int .u64))] [] (.one (.one (.d (.int .i64)))) []
abbrev kn5:=HL TB.den (hsT k2f.ins (hsOs k2f.pre))
abbrev kad:=HL TB.den (hsV k2f.res (hsOs k2f.post))
noncomputable def k7x:Cx TB:=⟨inf,[kqj],[],4,[]⟩
noncomputable def kbv:Code:=Try.f85.body.getD .skip
noncomputable def kdd:List ResultVar:=Try.f85.results.toList
noncomputable def klp (o:kad):An TB:= .no
def kbw (x:kn5) (o:kad):Prop:=WPh TB k7x 6 0 kbv (klp o) (k2f.st TB x) (retTQ TB k7x k2f kdd o)
theorem kva (o:kad):OblH TB k7x 6 0 kbv (klp o) (retTQ TB k7x k2f kdd o):=
 OblH.ofC (X:=True) (by kernel_rfl) trivial
theorem kv6 {x:kn5} {o:kad} (h:kbw x o):k2f.Snd Try.prog x o:=
 Con.soundH (c:=k2f) (C:=k7x) TBok ⟨inf_ok,(all_cons k101 all_nil),all_nil⟩ mix Try.func85 (show Try.f85.body=some kbv by kernel_rfl) (show Try.f85.ntmps=6 by kernel_rfl) (show Try.f85.results.toList=kdd by kernel_rfl) rfl h (kva o)
theorem kwr {p0:Int} {r0:Int} (h:
((U64 p0)∧IntKind.i64.wrap (64-(len64 p0))=r0)):kbw (p0,()) (r0,()):=WPh.of_eq (by kernel_rfl) h
theorem bd85:Callable Try.prog 85:=⟨by rw[Try.func85];kernel_rfl,by rw[Try.func85];show some _≠some _;decide⟩
theorem ktj (p0:Int) (h:0<p0∧p0<18446744073709551616):kbw (p0,()) (((64-len64 p0):Int),()):=by
 obtain⟨s,e,h1,_⟩:=k176 p0 h
 refine kwr ⟨⟨by omega,h.2⟩,?_⟩
 exact wi _ (by omega) (by omega)
noncomputable def kkc:Con TB.den:=k2f.fnR (fun x=>(fun(p0:Int)=>0<p0∧p0<18446744073709551616) x.1) fun x=>((fun(p0:Int)=>((64-len64 p0):Int)) x.1,())
theorem kwo:kkc.Ok Try.prog TB:=Con.ok_fn k2f bd85 fun x h=>kv6 (ktj x.1 h)
def k3x:Con TB.den:=Con.mk0 67 [.one (.d (.int .u64)),.one (.d (.int .u64)),.one (.d (.int .u64))] [] (.tup [.one (.d (.int .u64)),.one (.d (.int .u64))]) []
abbrev k10r:=HL TB.den (hsT k3x.ins (hsOs k3x.pre))
abbrev k1w:=HL TB.den (hsV k3x.res (hsOs k3x.post))
noncomputable def k3w:Cx TB:=⟨inf,[kkc],[],4,[]⟩
noncomputable def k6o:Code:=Try.f67.body.getD .skip
noncomputable def kaj:List ResultVar:=Try.f67.results.toList
def kel:Tm:=⟨[],[],[2,8,14,15,17,18],[.one (.d (.int .u64)),.one (.d (.int .u64)),.one (.d (.int .u64)),.one (.d (.int .u64)),.one (.d (.int .u64)),.one (.d (.int .u64))],0⟩
def kxe (o:k1w) (i:HL TB.den kel.hs):Prop:=ghs TB [] (kel.fill TB i) fun s=>WP TB k3w 135 0 (cB (cB (cB (cB (cB (cB (cB (cB (cB (cB (cB (cB (cB (cB (cB (cB (cB (cB (cB k6o))))))))))))))))))) .no s (retTQ TB k3w k3x kaj o)
structure kah (o:k1w) (i:HL TB.den kel.hs):Prop where
 h:kxe o i
def kzx (o:k1w):=qM TB 0 kel (kah o) (retTQ TB k3w k3x kaj o)
def k6h:Tm:=⟨[],[],[2,8,9,10,14,15,16,17,18],[.one (.d (.int .u64)),.one (.d (.int .u64)),.one (.d (.int .u64)),.one (.d (.int .u64)),.one (.d (.int .u64)),.one (.d (.int .u64)),.one (.d (.int .u64)),.one (.d (.int .u64)),.one (.d (.int .u64))],0⟩
def kev:Tm:=⟨[],[],[2,8,9,10,14,15,16,17,18],[.one (.d (.int .u64)),.one (.d (.int .u64)),.one (.d (.int .u64)),.one (.d (.int .u64)),.one (.d (.int .u64)),.one (.d (.int .u64)),.one (.d (.int .u64)),.one (.d (.int .u64)),.one (.d (.int .u64))],0⟩
def kxz (o:k1w) (nx2:NX TB k6h) (i:HL TB.den kev.hs):Prop:=ghs TB [] (kev.fill TB i) fun s=>WP TB k3w 135 0 (cB (cA (cA (cA (cB (cB (cB (cB (cB (cB (cB (cB (cB (cB (cB (cB (cB (cB (cB (cB (cB (cB k6o)))))))))))))))))))))) .no s (qM TB 0 k6h nx2 (blockT TB 2 (kzx o)))
structure kao (o:k1w) (nx2:NX TB k6h) (i:HL TB.den kev.hs):Prop where
 h:kxz o nx2 i
def kgn (o:k1w) (nx2:NX TB k6h) (i:HL TB.den k6h.hs):Prop:=WP TB k3w 135 0 (cA (cA (cA (cB (cB (cB (cB (cB (cB (cB (cB (cB (cB (cB (cB (cB (cB (cB (cB (cB (cB k6o))))))))))))))))))))) (.jn kev (kao o nx2) [] .no [] .no) (k6h.fill TB i) (qM TB 0 k6h nx2 (blockT TB 2 (kzx o)))
noncomputable def k1b0 (o:k1w):An TB:= .lp [] k6h (kgn o) fun nx2=>(.jn kev (kao o nx2) [] .no [] .no)
noncomputable def k1b1 (o:k1w):An TB:= .jn kel (kah o) [] (k1b0 o) [] .no
noncomputable def kze (o:k1w):An TB:= .nd [] .no [] (.nd [] .no [] (.nd [] .no [] (k1b1 o)))
def ke7:Tm:=⟨[],[],[2,8,9,10,11,13,14,15],[.one (.d (.int .u64)),.one (.d (.int .u64)),.one (.d (.int .u64)),.one (.d (.int .u64)),.one (.d (.int .u64)),.one (.d (.int .u64)),.one (.d (.int .u64)),.one (.d (.int .u64))],0⟩
def kxs (o:k1w) (i:HL TB.den ke7.hs):Prop:=ghs TB [] (ke7.fill TB i) fun s=>WP TB k3w 135 0 (cB (cB (cB (cB (cB (cB (cB (cB (cB (cB (cB (cB (cB (cB (cB k6o))))))))))))))) (kze o) s (retTQ TB k3w k3x kaj o)
structure kak (o:k1w) (i:HL TB.den ke7.hs):Prop where
 h:kxs o i
def kzp (o:k1w):=qM TB 0 ke7 (kak o) (retTQ TB k3w k3x kaj o)
def k6a:Tm:=⟨[],[],[2,8,9,10,11,13,14,15,16],[.one (.d (.int .u64)),.one (.d (.int .u64)),.one (.d (.int .u64)),.one (.d (.int .u64)),.one (.d (.int .u64)),.one (.d (.int .u64)),.one (.d (.int .u64)),.one (.d (.int .u64)),.one (.d (.int .u64))],0⟩
def kfl:Tm:=⟨[],[],[2,8,9,10,11,13,14,15,16],[.one (.d (.int .u64)),.one (.d (.int .u64)),.one (.d (.int .u64)),.one (.d (.int .u64)),.one (.d (.int .u64)),.one (.d (.int .u64)),.one (.d (.int .u64)),.one (.d (.int .u64)),.one (.d (.int .u64))],0⟩
def kxw (o:k1w) (nx1:NX TB k6a) (i:HL TB.den kfl.hs):Prop:=ghs TB [] (kfl.fill TB i) fun s=>WP TB k3w 135 0 (cB (cA (cA (cA (cB (cB (cB (cB (cB (cB (cB (cB (cB (cB (cB (cB (cB (cB k6o)))))))))))))))))) .no s (qM TB 0 k6a nx1 (blockT TB 0 (kzp o)))
structure kag (o:k1w) (nx1:NX TB k6a) (i:HL TB.den kfl.hs):Prop where
 h:kxw o nx1 i
def kgs (o:k1w) (nx1:NX TB k6a) (i:HL TB.den k6a.hs):Prop:=WP TB k3w 135 0 (cA (cA (cA (cB (cB (cB (cB (cB (cB (cB (cB (cB (cB (cB (cB (cB (cB k6o))))))))))))))))) (.jn kfl (kag o nx1) [] .no [] .no) (k6a.fill TB i) (qM TB 0 k6a nx1 (blockT TB 0 (kzp o)))
noncomputable def k18m (o:k1w):An TB:= .lp [] k6a (kgs o) fun nx1=>(.jn kfl (kag o nx1) [] .no [] .no)
noncomputable def k18n (o:k1w):An TB:= .jn ke7 (kak o) [] (k18m o) [] (kze o)
noncomputable def k182 (o:k1w):An TB:= .nd [] .no [] (.nd [] .no [] (.nd [] .no [] (k18n o)))
noncomputable def k183 (o:k1w):An TB:= .nd [] .no [] (.nd [] .no [] (.nd [] .no [] (k182 o)))
noncomputable def k17s (o:k1w):An TB:= .nd [] .no [] (.nd [] .no [] (.nd [] .no [] (k183 o)))
noncomputable def k18c (o:k1w):An TB:= .nd [] .no [] (.nd [] .no [] (.nd [] .no [] (k17s o)))
noncomputable def kzj (o:k1w):An TB:= .nd [] .no [] (.nd [] .no [] (k18c o))
def kow (x:k10r) (o:k1w):Prop:=WPh TB k3w 135 0 k6o (kzj o) (k3x.st TB x) (retTQ TB k3w k3x kaj o)
theorem k18h (o:k1w):OblH TB k3w 135 0 k6o (kzj o) (retTQ TB k3w k3x kaj o):=
 OblH.ofC (X:=((∀nx i,(kgs o) nx i=(kgs o) nx i)∧(∀nx1:NX TB k6a,((∀i,(kag o nx1) i=kxw o nx1 i)∧True))∧(∀i,(kak o) i=kxs o i)∧(∀nx i,(kgn o) nx i=(kgn o) nx i)∧(∀nx2:NX TB k6h,((∀i,(kao o nx2) i=kxz o nx2 i)∧True))∧(∀i,(kah o) i=kxe o i)∧True)) (by kernel_rfl) ⟨fun _ _=>rfl,fun _=>⟨fun _=>propext ⟨fun h=>h.1,fun h=>⟨h⟩⟩,trivial⟩,fun _=>propext ⟨fun h=>h.1,fun h=>⟨h⟩⟩,fun _ _=>rfl,fun _=>⟨fun _=>propext ⟨fun h=>h.1,fun h=>⟨h⟩⟩,trivial⟩,fun _=>propext ⟨fun h=>h.1,fun h=>⟨h⟩⟩,trivial⟩
theorem k18l {x:k10r} {o:k1w} (h:kow x o):k3x.Snd Try.prog x o:=
 Con.soundH (c:=k3x) (C:=k3w) TBok ⟨inf_ok,(all_cons kwo all_nil),all_nil⟩ mix Try.func67 (show Try.f67.body=some k6o by kernel_rfl) (show Try.f67.ntmps=135 by kernel_rfl) (show Try.f67.results.toList=kaj by kernel_rfl) rfl h (k18h o)
theorem k19y {p0:Int} {p1:Int} {p2:Int} {r0:Int} {r1:Int} (h:
(((p2==0)=true→
 False)∧
((p2==0)=false→
(decide (p2≤p0)=true→
 False)∧
(decide (p2≤p0)=false→
((p0==0)=true→
(p2≠0)∧(p2≠0)∧IntKind.u64.wrap (Int.tdiv p1 p2)=r0∧Int.tmod p1 p2=r1)∧
((p0==0)=false→
(0<p2∧p2<18446744073709551616)∧(0≤IntKind.u64.wrap (64-len64 p2))∧let v2:Int:=ishl .u64 p2 (IntKind.u64.wrap (64-len64 p2))
(0≤IntKind.u64.wrap (64-len64 p2))∧let v3:Int:=ishl .u64 p0 (IntKind.u64.wrap (64-len64 p2))
 let v4:Int:=IntKind.u64.wrap (64-(IntKind.u64.wrap (64-len64 p2)))
(0≤v4)∧(0≤IntKind.u64.wrap (64-len64 p2))∧let v5:Int:=ishl .u64 p1 (IntKind.u64.wrap (64-len64 p2))
(ishr .u64 v2 32≠0)∧let v6:Int:=IntKind.u64.wrap (Int.tdiv (ior .u64 v3 (ishr .u64 p1 v4)) (ishr .u64 v2 32))
 let v7:Int:=IntKind.u64.wrap (v6*(ishr .u64 v2 32))
 let v8:Int:=IntKind.u64.wrap ((ior .u64 v3 (ishr .u64 p1 v4))-v7)
 Md.Loop (v2,(IntKind.u64.wrap (64-len64 p2):Int),(ishr .u64 v2 32:Int),(iand .u64 v2 4294967295:Int),(ior .u64 v3 (ishr .u64 p1 v4):Int),(ishr .u64 v5 32:Int),(iand .u64 v5 4294967295:Int),v6,v8,()) (kgs (r0,r1,()))))))):kow (p0,p1,p2,()) (r0,r1,()):=WPh.of_eq (by kernel_rfl) h
theorem k14r {r0:Int} {r1:Int} {nx1:NX TB k6a} {s2:Int} {s8:Int} {s9:Int} {s10:Int} {s11:Int} {s13:Int} {s14:Int} {s15:Int} {s16:Int} (h:
(let v11:Bool:=decide (4294967296≤(IntKind.u64.wrap (s16+s9)))
(v11=true→
 kak (r0,r1,()) (s2,s8,s9,s10,s11,s13,s14,(IntKind.u64.wrap (s15-1):Int),()))∧
(v11=false→
 nx1 (s2,s8,s9,s10,s11,s13,s14,(IntKind.u64.wrap (s15-1):Int),(IntKind.u64.wrap (s16+s9):Int),())))):kag (r0,r1,()) nx1 (s2,s8,s9,s10,s11,s13,s14,s15,s16,()):=⟨mpr_of (by kernel_rfl) h⟩
theorem k15i {r0:Int} {r1:Int} {s2:Int} {s8:Int} {s9:Int} {s10:Int} {s11:Int} {s13:Int} {s14:Int} {s15:Int} (h:
(let v12:Int:=IntKind.u64.wrap ((IntKind.u64.wrap (s11*4294967296))+s13)
 let v13:Int:=IntKind.u64.wrap (v12-(IntKind.u64.wrap (s15*s2)))
(s9≠0)∧let v14:Int:=IntKind.u64.wrap ((IntKind.u64.wrap (Int.tdiv v13 s9))*s9)
 Md.Loop (s2,s8,s9,s10,s14,s15,(IntKind.u64.wrap (v13-v14):Int),v13,(IntKind.u64.wrap (Int.tdiv v13 s9):Int),()) (kgn (r0,r1,())))):kak (r0,r1,()) (s2,s8,s9,s10,s11,s13,s14,s15,()):=⟨mpr_of (by kernel_rfl) h⟩
theorem k13y {r0:Int} {r1:Int} {nx2:NX TB k6h} {s2:Int} {s8:Int} {s9:Int} {s10:Int} {s14:Int} {s15:Int} {s16:Int} {s17:Int} {s18:Int} (h:
(let v17:Bool:=decide (4294967296≤(IntKind.u64.wrap (s16+s9)))
(v17=true→
 kah (r0,r1,()) (s2,s8,s14,s15,s17,(IntKind.u64.wrap (s18-1):Int),()))∧
(v17=false→
 nx2 (s2,s8,s9,s10,s14,s15,(IntKind.u64.wrap (s16+s9):Int),s17,(IntKind.u64.wrap (s18-1):Int),())))):kao (r0,r1,()) nx2 (s2,s8,s9,s10,s14,s15,s16,s17,s18,()):=⟨mpr_of (by kernel_rfl) h⟩
theorem k142 {r0:Int} {r1:Int} {s2:Int} {s8:Int} {s14:Int} {s15:Int} {s17:Int} {s18:Int} (h:
(let v18:Int:=IntKind.u64.wrap ((IntKind.u64.wrap (s15*4294967296))+s18)
 let v19:Int:=IntKind.u64.wrap ((IntKind.u64.wrap (s17*4294967296))+s14)
 let v20:Int:=IntKind.u64.wrap (v19-(IntKind.u64.wrap (s18*s2)))
(0≤s8)∧v18=r0∧ishr .u64 v20 s8=r1)):kah (r0,r1,()) (s2,s8,s14,s15,s17,s18,()):=⟨mpr_of (by kernel_rfl) h⟩
def kzz (r0:Int) (r1:Int) (nx1:NX TB k6a) (k1:Int→Int→Prop) (s2:Int) (s8:Int) (s9:Int) (s10:Int) (s11:Int) (s13:Int) (s14:Int) (s15:Int) (s16:Int):Prop:=
(decide (4294967296≤s15)=true→
 kag (r0,r1,()) nx1 (s2,s8,s9,s10,s11,s13,s14,s15,s16,()))∧
(decide (4294967296≤s15)=false→
 let v9:Int:=IntKind.u64.wrap ((IntKind.u64.wrap (4294967296*s16))+s13)
 let v10:Bool:=decide (v9<(IntKind.u64.wrap (s15*s10)))
(v10=true→
 kag (r0,r1,()) nx1 (s2,s8,s9,s10,s11,s13,s14,s15,s16,()))∧
(v10=false→
 kak (r0,r1,()) (s2,s8,s9,s10,s11,s13,s14,s15,())))
theorem k17l {r0:Int} {r1:Int} {s2:Int} {s8:Int} {s9:Int} {s10:Int} {s11:Int} {s13:Int} {s14:Int} {s15:Int} {s16:Int} (inv:Int→Int→Prop) (μ:Int→Int→Nat) (h0:inv s15 s16) (hs:∀(s15:Int) (s16:Int),inv s15 s16→kzz r0 r1 (fun s:Int×Int×Int×Int×Int×Int×Int×Int×Int×Unit=>((s.1=s2∧s.2.1=s8∧s.2.2.1=s9∧s.2.2.2.1=s10∧s.2.2.2.2.1=s11∧s.2.2.2.2.2.1=s13∧s.2.2.2.2.2.2.1=s14)∧inv s.2.2.2.2.2.2.2.1 s.2.2.2.2.2.2.2.2.1)∧μ s.2.2.2.2.2.2.2.1 s.2.2.2.2.2.2.2.2.1<μ s15 s16) (fun s15q s16q=>inv s15q s16q∧μ s15q s16q<μ s15 s16) s2 s8 s9 s10 s11 s13 s14 s15 s16):Md.Loop (s2,s8,s9,s10,s11,s13,s14,s15,s16,()) (kgs (r0,r1,())):=
 ⟨⟨fun s:Int×Int×Int×Int×Int×Int×Int×Int×Int×Unit=>(s.1=s2∧s.2.1=s8∧s.2.2.1=s9∧s.2.2.2.1=s10∧s.2.2.2.2.1=s11∧s.2.2.2.2.2.1=s13∧s.2.2.2.2.2.2.1=s14)∧inv s.2.2.2.2.2.2.2.1 s.2.2.2.2.2.2.2.2.1,fun s:Int×Int×Int×Int×Int×Int×Int×Int×Int×Unit=>μ s.2.2.2.2.2.2.2.1 s.2.2.2.2.2.2.2.2.1,⟨⟨rfl,rfl,rfl,rfl,rfl,rfl,rfl⟩,h0⟩,fun(s2p,s8p,s9p,s10p,s11p,s13p,s14p,s15p,s16p,()) ⟨⟨eq0,eq1,eq2,eq3,eq4,eq5,eq6⟩,hi⟩=>by
  have eq0:s2p=s2:=eq0;subst s2p;have eq1:s8p=s8:=eq1;subst s8p;have eq2:s9p=s9:=eq2;subst s9p;have eq3:s10p=s10:=eq3;subst s10p;have eq4:s11p=s11:=eq4;subst s11p;have eq5:s13p=s13:=eq5;subst s13p;have eq6:s14p=s14:=eq6;subst s14p;exact mpr_of (by kernel_rfl) ((congrArg (fun k=>kzz r0 r1 (fun s:Int×Int×Int×Int×Int×Int×Int×Int×Int×Unit=>((s.1=s2∧s.2.1=s8∧s.2.2.1=s9∧s.2.2.2.1=s10∧s.2.2.2.2.1=s11∧s.2.2.2.2.2.1=s13∧s.2.2.2.2.2.2.1=s14)∧inv s.2.2.2.2.2.2.2.1 s.2.2.2.2.2.2.2.2.1)∧μ s.2.2.2.2.2.2.2.1 s.2.2.2.2.2.2.2.2.1<μ s15p s16p) k s2 s8 s9 s10 s11 s13 s14 s15p s16p) (lpk2 (⟨rfl,rfl,rfl,rfl,rfl,rfl,rfl⟩:s2=s2∧s8=s8∧s9=s9∧s10=s10∧s11=s11∧s13=s13∧s14=s14) inv (fun s15q s16q=>μ s15q s16q<μ s15p s16p))).mpr (hs s15p s16p hi))⟩⟩
def kzg (r0:Int) (r1:Int) (nx2:NX TB k6h) (k2:Int→Int→Prop) (s2:Int) (s8:Int) (s9:Int) (s10:Int) (s14:Int) (s15:Int) (s17:Int) (s16:Int) (s18:Int):Prop:=
(decide (4294967296≤s18)=true→
 kao (r0,r1,()) nx2 (s2,s8,s9,s10,s14,s15,s16,s17,s18,()))∧
(decide (4294967296≤s18)=false→
 let v15:Int:=IntKind.u64.wrap ((IntKind.u64.wrap (4294967296*s16))+s14)
 let v16:Bool:=decide (v15<(IntKind.u64.wrap (s18*s10)))
(v16=true→
 kao (r0,r1,()) nx2 (s2,s8,s9,s10,s14,s15,s16,s17,s18,()))∧
(v16=false→
 kah (r0,r1,()) (s2,s8,s14,s15,s17,s18,())))
theorem k185 {r0:Int} {r1:Int} {s2:Int} {s8:Int} {s9:Int} {s10:Int} {s14:Int} {s15:Int} {s17:Int} {s16:Int} {s18:Int} (inv:Int→Int→Prop) (μ:Int→Int→Nat) (h0:inv s16 s18) (hs:∀(s16:Int) (s18:Int),inv s16 s18→kzg r0 r1 (fun s:Int×Int×Int×Int×Int×Int×Int×Int×Int×Unit=>((s.1=s2∧s.2.1=s8∧s.2.2.1=s9∧s.2.2.2.1=s10∧s.2.2.2.2.1=s14∧s.2.2.2.2.2.1=s15∧s.2.2.2.2.2.2.2.1=s17)∧inv s.2.2.2.2.2.2.1 s.2.2.2.2.2.2.2.2.1)∧μ s.2.2.2.2.2.2.1 s.2.2.2.2.2.2.2.2.1<μ s16 s18) (fun s16q s18q=>inv s16q s18q∧μ s16q s18q<μ s16 s18) s2 s8 s9 s10 s14 s15 s17 s16 s18):Md.Loop (s2,s8,s9,s10,s14,s15,s16,s17,s18,()) (kgn (r0,r1,())):=
 ⟨⟨fun s:Int×Int×Int×Int×Int×Int×Int×Int×Int×Unit=>(s.1=s2∧s.2.1=s8∧s.2.2.1=s9∧s.2.2.2.1=s10∧s.2.2.2.2.1=s14∧s.2.2.2.2.2.1=s15∧s.2.2.2.2.2.2.2.1=s17)∧inv s.2.2.2.2.2.2.1 s.2.2.2.2.2.2.2.2.1,fun s:Int×Int×Int×Int×Int×Int×Int×Int×Int×Unit=>μ s.2.2.2.2.2.2.1 s.2.2.2.2.2.2.2.2.1,⟨⟨rfl,rfl,rfl,rfl,rfl,rfl,rfl⟩,h0⟩,fun(s2p,s8p,s9p,s10p,s14p,s15p,s16p,s17p,s18p,()) ⟨⟨eq0,eq1,eq2,eq3,eq4,eq5,eq6⟩,hi⟩=>by
  have eq0:s2p=s2:=eq0;subst s2p;have eq1:s8p=s8:=eq1;subst s8p;have eq2:s9p=s9:=eq2;subst s9p;have eq3:s10p=s10:=eq3;subst s10p;have eq4:s14p=s14:=eq4;subst s14p;have eq5:s15p=s15:=eq5;subst s15p;have eq6:s17p=s17:=eq6;subst s17p;exact mpr_of (by kernel_rfl) ((congrArg (fun k=>kzg r0 r1 (fun s:Int×Int×Int×Int×Int×Int×Int×Int×Int×Unit=>((s.1=s2∧s.2.1=s8∧s.2.2.1=s9∧s.2.2.2.1=s10∧s.2.2.2.2.1=s14∧s.2.2.2.2.2.1=s15∧s.2.2.2.2.2.2.2.1=s17)∧inv s.2.2.2.2.2.2.1 s.2.2.2.2.2.2.2.2.1)∧μ s.2.2.2.2.2.2.1 s.2.2.2.2.2.2.2.2.1<μ s16p s18p) k s2 s8 s9 s10 s14 s15 s17 s16p s18p) (lpk2 (⟨rfl,rfl,rfl,rfl,rfl,rfl,rfl⟩:s2=s2∧s8=s8∧s9=s9∧s10=s10∧s14=s14∧s15=s15∧s17=s17) inv (fun s16q s18q=>μ s16q s18q<μ s16p s18p))).mpr (hs s16p s18p hi))⟩⟩
theorem bd67:Callable Try.prog 67:=⟨by rw[Try.func67];kernel_rfl,by rw[Try.func67];show some _≠some _;decide⟩
theorem k173 (p0:Int) (p1:Int) (p2:Int) (h:U64 p0∧U64 p1∧U64 p2∧p0<p2):kow (p0,p1,p2,()) ((((p0*18446744073709551616+p1)/p2):Int),(((p0*18446744073709551616+p1)%p2):Int),()):=by
 obtain⟨h0,h1,h2,hlt⟩:=h
 refine k19y ⟨fun e=> ?_,fun _=>⟨fun e=> ?_,fun _=>⟨fun e=> ?_,fun _=> ?_⟩⟩⟩
 ·simp at e;omega
 ·simp at e;omega
 ·have e:p0=0:=by simpa using e
  subst e
  rw[tdiv_nn _ _ h1.1,tmod_nn _ _ h1.1,Int.zero_mul,Int.zero_add]
  have:=Int.ediv_le_self p2 h1.1
  have:=Int.ediv_nonneg h1.1 h2.1
  exact⟨by omega,by omega,wu _ (by omega) (by have:=Int.ediv_le_self p2 h1.1;omega),rfl⟩
 obtain⟨s,e,hs,n1,n2⟩:=k176 p2 ⟨by omega,h2.2⟩
 have ew:IntKind.u64.wrap (64-len64 p2)=(s:Int):=by rw[e,wu _ (by omega) (by omega)]
 have ew3:IntKind.u64.wrap (64-(s:Int))=((64-s:Nat):Int):=by rw[wu _ (by omega) (by omega)];omega
 have hp:0<2^s:=Nat.two_pow_pos s
 have hp' :0<2^(64-s):=Nat.two_pow_pos _
 have hpp:2^s*2^(64-s)=18446744073709551616:=by rw[←Nat.pow_add,show s+(64-s)=64 by omega]
 have hP:((2^s:Nat):Int)*((2^(64-s):Nat):Int)=18446744073709551616:=by rw[←Int.natCast_mul,hpp];rfl
 have il:∀a:Int,ishl .u64 a (s:Int)=a*((2^s:Nat):Int)%18446744073709551616:=fun a=>by rw[k1ht,Int.toNat_natCast,Nat.min_eq_left (by omega)]
 have ir:∀a:Int,ishr .u64 a (s:Int)=a/((2^s:Nat):Int):=fun a=>by rw[kq1,Int.toNat_natCast,show min s IntKind.u64.bits=s from Nat.min_eq_left (by show s≤64;omega)]
 have ir' :∀a:Int,ishr .u64 a ((64-s:Nat):Int)=a/((2^(64-s):Nat):Int):=fun a=>by rw[kq1,Int.toNat_natCast,show min (64-s) IntKind.u64.bits=64-s from Nat.min_eq_left (by show 64-s≤64;omega)]
 have hor:∀c:Int,0≤c→c<((2^s:Nat):Int)→p0*((2^s:Nat):Int)+c<18446744073709551616→ior .u64 (p0*((2^s:Nat):Int)) c=p0*((2^s:Nat):Int)+c:=by
  intro c hc0 hc1 hc2
  obtain⟨a,rfl⟩:=Int.eq_ofNat_of_zero_le h0.1
  obtain⟨c,rfl⟩:=Int.eq_ofNat_of_zero_le hc0
  have key:=ior_add' c a s (by omega)
  rw[Int.mul_comm,←Int.natCast_mul]at hc2 ⊢
  rw[key (by omega)]
  omega
 simp only[ew,ew3,il,ir',ishr32]
 have hP'0:(0:Int)<((2^(64-s):Nat):Int):=by omega
 generalize hPd:((2^s:Nat):Int)=P at *
 generalize hPd' :((2^(64-s):Nat):Int)=P' at *
 have hP0:0<P:=by omega
 have hlo:p1/P' <P:=Int.ediv_lt_of_lt_mul hP'0 (by omega)
 have hlo0:0≤p1/P' :=Int.ediv_nonneg h1.1 (by omega)
 have hUv:p0*P+P≤p2*P:=by
  have:(p0+1)*P≤p2*P:=Int.mul_le_mul_of_nonneg_right (by omega) (by omega)
  grind
 have hUp:0≤p0*P:=Int.mul_nonneg h0.1 (by omega)
 rw[Int.emod_eq_of_lt (a:=p2*P) (by omega) n2,Int.emod_eq_of_lt (a:=p0*P) hUp (by omega),hor _ hlo0 hlo (by omega)]
 have hN:(p0*18446744073709551616+p1)*P=(p0*P+p1/P')*18446744073709551616+(p1*P%18446744073709551616/4294967296)*4294967296+p1*P%18446744073709551616%4294967296:=by
  have h5:p1*P/18446744073709551616=p1/P' :=by
   rw[←hP,Int.mul_comm p1 P,Int.mul_ediv_mul_of_pos _ _ hP0]
  have h6:=Int.emod_add_mul_ediv (p1*P) 18446744073709551616
  rw[h5]at h6
  have:(p0*18446744073709551616+p1)*P=p0*P*18446744073709551616+p1*P:=by grind
  rw[this]
  generalize p1*P=w at *
  generalize p0*P=w' at *
  omega
 have hlb:0≤p1*P%18446744073709551616∧p1*P%18446744073709551616<18446744073709551616:=⟨Int.emod_nonneg _ (by omega),Int.emod_lt_of_pos _ (by omega)⟩
 generalize hUd:p0*P+p1/P' =U at *
 generalize hLd:p1*P%18446744073709551616=L at *
 have hVd:p2*P/4294967296*4294967296+p2*P%4294967296=p2*P:=by omega
 have hw:∀{Q R V' :Int},R-Q=V'→0≤V'→V' <18446744073709551616→∀A,R=A*4294967296+(R-A*4294967296)→IntKind.u64.wrap (IntKind.u64.wrap (IntKind.u64.wrap (A*4294967296)+(R-A*4294967296))-IntKind.u64.wrap Q)=V' :=by
  intro Q R V' hv h0 h1 A hA
  simp only[u64w]
  omega
 rw[klm (p2*P) (by omega),klm L (by omega)]
 generalize ha:p2*P/4294967296=a at *
 generalize hb:p2*P%4294967296=b at *
 have hQ1:Half U (L/4294967296) a b ((U*4294967296+L/4294967296)/(a*4294967296+b)):=⟨by omega,by omega,by omega,by omega,by omega,rfl⟩
 have hr1:=hQ1.rest
 have hq1:=hQ1.q
 generalize (U*4294967296+L/4294967296)/(a*4294967296+b)=Q1 at *
 generalize (U*4294967296+L/4294967296)%(a*4294967296+b)=R1 at *
 have hQ0:Half R1 (L%4294967296) a b ((R1*4294967296+L%4294967296)/(a*4294967296+b)):=⟨by omega,by omega,by omega,by omega,by omega,rfl⟩
 have hr0:=hQ0.rest
 have hq0:=hQ0.q
 generalize (R1*4294967296+L%4294967296)/(a*4294967296+b)=Q0 at *
 generalize (R1*4294967296+L%4294967296)%(a*4294967296+b)=R0 at *
 rw[hVd]at hr1 hr0 hq1 hq0
 have fin:=k1eg hP0 (by omega:0<p2) hN hr1.1 hr0.1 ⟨hr0.2.1,hr0.2.2⟩
 have j4:kah (((p0*18446744073709551616+p1)/p2:Int),((p0*18446744073709551616+p1)%p2:Int),()) ((p2*P:Int),(s:Int),(L%4294967296:Int),Q1,R1,Q0,()):=by
  refine k142 ⟨by omega,?_,?_⟩
  ·rw[wu (Q1*4294967296) (by omega) (by omega),wu _ (by omega) (by omega)]
   exact fin.1
  ·have:=hw (Q:=Q0*(p2*P)) (R:=R1*4294967296+L%4294967296) hr0.1 hr0.2.1 (by omega) R1 (by omega)
   rw[show R1*4294967296+L%4294967296-R1*4294967296=L%4294967296 by omega]at this
   rw[this,ir]
   exact fin.2
 have aux:∀{U x Q q r:Int},Half U x a b Q→U<18446744073709551616→q*a+r=U→Q≤q→0≤r→q≤8589934592:=by
  intro U x Q q r hh hU e hQ hr
  have h1:=hh.ha
  refine Int.le_of_lt_add_one (Int.lt_of_mul_lt_mul_right (a:=a) ?_ (by omega))
  generalize q*a=w at *
  omega
 have init:∀{U x Q:Int},Half U x a b Q→Q≤U/a:=by
  intro U x Q hh
  have h1:=hh.ha
  have h2:=hh.q
  have h3:=hh.hb
  have h4:=hh.hx
  refine(Int.le_ediv_iff_mul_le (by omega)).2 ?_
  have h5:Q*(a*4294967296+b)=Q*a*4294967296+Q*b:=by grind
  have h6:0≤Q*b:=Int.mul_nonneg h2.1 h3.1
  generalize Q*a=w at *
  omega
 have j2:kak (((p0*18446744073709551616+p1)/p2:Int),((p0*18446744073709551616+p1)%p2:Int),()) ((p2*P:Int),(s:Int),a,b,U,(L/4294967296:Int),(L%4294967296:Int),Q1,()):=by
  have e1:=hw (Q:=Q1*(p2*P)) (R:=U*4294967296+L/4294967296) hr1.1 hr1.2.1 (by omega) U (by omega)
  rw[show U*4294967296+L/4294967296-U*4294967296=L/4294967296 by omega]at e1
  refine k15i ?_
  simp only[e1]
  have hd:=Int.emod_add_mul_ediv R1 a
  have hd1:=Int.emod_nonneg R1 (by omega:a≠0)
  have hd2:=Int.emod_lt_of_pos R1 (by omega:0<a)
  have hd3:0≤R1/a:=Int.ediv_nonneg hr1.2.1 (by omega)
  rw[Int.mul_comm]at hd
  have hd5:0≤R1/a*a:=Int.mul_nonneg hd3 (by omega)
  have hd4:=aux hQ0 (by omega) (q:=R1/a) (r:=R1%a) (by omega) (init hQ0) hd1
  rw[tdiv_nn _ _ hr1.2.1,wu (R1/a) (by omega) (by omega),wu (R1/a*a) (by omega) (by omega),show R1-R1/a*a=R1%a by omega,wu (R1%a) (by omega) (by omega)]
  refine⟨by omega,?_⟩
  refine k185 (fun r q=>q*a+r=R1∧Q0≤q∧0≤r∧r<4294967296) (fun r q=>q.toNat) ⟨by omega,init hQ0,hd1,by omega⟩ ?_
  rintro r q ⟨g1,g2,g3,g4⟩
  have g5:=aux hQ0 (by omega) g1 g2 g3
  have j3:∀nx,(Q0≤q-1)→(r+a<4294967296→nx ((p2*P:Int),(s:Int),a,b,(L%4294967296:Int),Q1,(r+a:Int),R1,(q-1:Int),()))→kao (((p0*18446744073709551616+p1)/p2:Int),((p0*18446744073709551616+p1)%p2:Int),()) nx ((p2*P:Int),(s:Int),a,b,(L%4294967296:Int),Q1,r,R1,q,()):=by
   intro nx hq hnx
   refine k13y ?_
   rw[wu (q-1) (by omega) (by omega),wu (r+a) (by omega) (by omega)]
   refine⟨fun hd=> ?_,fun hd=>hnx (by simpa using hd)⟩
   have hd:4294967296≤r+a:=of_decide_eq_true hd
   rw[hQ0.done (q:=q-1) (r:=r+a) (by grind) hq hd]
   exact j4
  have nxt:Q0≤q-1→r+a<4294967296→((q-1)*a+(r+a)=R1∧Q0≤q-1∧0≤r+a∧r+a<4294967296)∧(q-1).toNat<q.toNat:=fun h1 h2=>⟨⟨by grind,h1,by omega,h2⟩,by omega⟩
  refine⟨fun hd=>j3 _ (hQ0.down g1 (.inl (of_decide_eq_true hd))) fun h1=> ?_,fun hd=> ?_⟩
  ·obtain⟨n1,n2⟩:=nxt (hQ0.down g1 (.inl (of_decide_eq_true hd))) h1
   exact⟨⟨⟨rfl,rfl,rfl,rfl,rfl,rfl,rfl⟩,n1⟩,n2⟩
  ·have hd:q<4294967296:=by simpa using hd
   have hqb:0≤q*b∧q*b<18446744073709551616:=by
    have:=hQ0.hb
    have h1:q*b≤4294967295*4294967295:=Int.mul_le_mul (by omega) (by omega) (by omega) (by omega)
    exact⟨Int.mul_nonneg (by omega) (by omega),by omega⟩
   have:=hQ0.hx
   rw[wu (q*b) (by omega) (by omega),wu (4294967296*r) (by omega) (by omega),wu (4294967296*r+L%4294967296) (by omega) (by omega)]
   refine⟨fun ht=> ?_,fun ht=> ?_⟩
   ·have ht:4294967296*r+L%4294967296<q*b:=of_decide_eq_true ht
    have hdn:=hQ0.down g1 (.inr (by omega))
    refine j3 _ hdn fun h1=> ?_
    obtain⟨n1,n2⟩:=nxt hdn h1
    exact⟨⟨⟨rfl,rfl,rfl,rfl,rfl,rfl,rfl⟩,n1⟩,n2⟩
   ·have ht:¬(4294967296*r+L%4294967296<q*b):=of_decide_eq_false ht
    rw[hQ0.exit g1 g2 (by omega)]
    exact j4
 have hd:=Int.emod_add_mul_ediv U a
 have hd1:=Int.emod_nonneg U (by omega:a≠0)
 have hd2:=Int.emod_lt_of_pos U (by omega:0<a)
 have hd3:0≤U/a:=Int.ediv_nonneg (by omega) (by omega)
 rw[Int.mul_comm]at hd
 have hd5:0≤U/a*a:=Int.mul_nonneg hd3 (by omega)
 have hd4:=aux hQ1 (by omega) (q:=U/a) (r:=U%a) (by omega) (init hQ1) hd1
 rw[tdiv_nn _ _ (by omega),wu (U/a) (by omega) (by omega),wu (U/a*a) (by omega) (by omega),show U-U/a*a=U%a by omega,wu (U%a) (by omega) (by omega)]
 refine⟨⟨by omega,h2.2⟩,by omega,by omega,by omega,by omega,by omega,?_⟩
 refine k17l (fun q r=>q*a+r=U∧Q1≤q∧0≤r∧r<4294967296) (fun q r=>q.toNat) ⟨by omega,init hQ1,hd1,by omega⟩ ?_
 rintro q r ⟨g1,g2,g3,g4⟩
 have g5:=aux hQ1 (by omega) g1 g2 g3
 have j1:∀nx,(Q1≤q-1)→(r+a<4294967296→nx ((p2*P:Int),(s:Int),a,b,U,(L/4294967296:Int),(L%4294967296:Int),(q-1:Int),(r+a:Int),()))→kag (((p0*18446744073709551616+p1)/p2:Int),((p0*18446744073709551616+p1)%p2:Int),()) nx ((p2*P:Int),(s:Int),a,b,U,(L/4294967296:Int),(L%4294967296:Int),q,r,()):=by
  intro nx hq hnx
  refine k14r ?_
  rw[wu (q-1) (by omega) (by omega),wu (r+a) (by omega) (by omega)]
  refine⟨fun hd=> ?_,fun hd=>hnx (by simpa using hd)⟩
  have hd:4294967296≤r+a:=of_decide_eq_true hd
  rw[hQ1.done (q:=q-1) (r:=r+a) (by grind) hq hd]
  exact j2
 have nxt:Q1≤q-1→r+a<4294967296→((q-1)*a+(r+a)=U∧Q1≤q-1∧0≤r+a∧r+a<4294967296)∧(q-1).toNat<q.toNat:=fun h1 h2=>⟨⟨by grind,h1,by omega,h2⟩,by omega⟩
 refine⟨fun hd=>j1 _ (hQ1.down g1 (.inl (of_decide_eq_true hd))) fun h1=> ?_,fun hd=> ?_⟩
 ·obtain⟨n1,n2⟩:=nxt (hQ1.down g1 (.inl (of_decide_eq_true hd))) h1
  exact⟨⟨⟨rfl,rfl,rfl,rfl,rfl,rfl,rfl⟩,n1⟩,n2⟩
 ·have hd:q<4294967296:=by simpa using hd
  have hqb:0≤q*b∧q*b<18446744073709551616:=by
   have:=hQ1.hb
   have h1:q*b≤4294967295*4294967295:=Int.mul_le_mul (by omega) (by omega) (by omega) (by omega)
   exact⟨Int.mul_nonneg (by omega) (by omega),by omega⟩
  have:=hQ1.hx
  rw[wu (q*b) (by omega) (by omega),wu (4294967296*r) (by omega) (by omega),wu (4294967296*r+L/4294967296) (by omega) (by omega)]
  refine⟨fun ht=> ?_,fun ht=> ?_⟩
  ·have ht:4294967296*r+L/4294967296<q*b:=of_decide_eq_true ht
   have hdn:=hQ1.down g1 (.inr (by omega))
   refine j1 _ hdn fun h1=> ?_
   obtain⟨n1,n2⟩:=nxt hdn h1
   exact⟨⟨⟨rfl,rfl,rfl,rfl,rfl,rfl,rfl⟩,n1⟩,n2⟩
  ·have ht:¬(4294967296*r+L/4294967296<q*b):=of_decide_eq_false ht
   rw[hQ1.exit g1 g2 (by omega)]
   exact j2
noncomputable def kq5:Con TB.den:=k3x.fnR (fun x=>(fun(p0:Int) (p1:Int) (p2:Int)=>U64 p0∧U64 p1∧U64 p2∧p0<p2) x.1 x.2.1 x.2.2.1) fun x=>((fun(p0:Int) (p1:Int) (p2:Int)=>(((p0*18446744073709551616+p1)/p2):Int)) x.1 x.2.1 x.2.2.1,(fun(p0:Int) (p1:Int) (p2:Int)=>(((p0*18446744073709551616+p1)%p2):Int)) x.1 x.2.1 x.2.2.1,())
theorem kzk:kq5.Ok Try.prog TB:=Con.ok_fn k3x bd67 fun x h=>k18l (k173 x.1 x.2.1 x.2.2.1 h)
def k6g:Con TB.den:=Con.mk0 66 [.one (.d (.int .u64)),.one (.d (.int .u64))] [] (.tup [.one (.d (.int .u64)),.one (.d (.int .u64))]) []
abbrev k11k:=HL TB.den (hsT k6g.ins (hsOs k6g.pre))
abbrev ko7:=HL TB.den (hsV k6g.res (hsOs k6g.post))
noncomputable def kgv:Cx TB:=⟨inf,[],[],4,[]⟩
noncomputable def koe:Code:=Try.f66.body.getD .skip
noncomputable def kry:List ResultVar:=Try.f66.results.toList
noncomputable def kzi (o:ko7):An TB:= .no
def kok (x:k11k) (o:ko7):Prop:=WPh TB kgv 51 0 koe (kzi o) (k6g.st TB x) (retTQ TB kgv k6g kry o)
theorem k17p (o:ko7):OblH TB kgv 51 0 koe (kzi o) (retTQ TB kgv k6g kry o):=
 OblH.ofC (X:=True) (by kernel_rfl) trivial
theorem k18o {x:k11k} {o:ko7} (h:kok x o):k6g.Snd Try.prog x o:=
 Con.soundH (c:=k6g) (C:=kgv) TBok ⟨inf_ok,all_nil,all_nil⟩ mix Try.func66 (show Try.f66.body=some koe by kernel_rfl) (show Try.f66.ntmps=51 by kernel_rfl) (show Try.f66.results.toList=kry by kernel_rfl) rfl h (k17p o)
theorem k1a3 {p0:Int} {p1:Int} {r0:Int} {r1:Int} (h:
(let v2:Int:=IntKind.u64.wrap ((iand .u64 p0 4294967295)*(iand .u64 p1 4294967295))
 let v3:Int:=IntKind.u64.wrap ((ishr .u64 p0 32)*(iand .u64 p1 4294967295))
 let v4:Int:=IntKind.u64.wrap (v3+(ishr .u64 v2 32))
 let v5:Int:=IntKind.u64.wrap ((iand .u64 p0 4294967295)*(ishr .u64 p1 32))
 let v6:Int:=IntKind.u64.wrap ((iand .u64 v4 4294967295)+v5)
 let v7:Int:=IntKind.u64.wrap ((ishr .u64 p0 32)*(ishr .u64 p1 32))
 let v8:Int:=IntKind.u64.wrap (v7+(ishr .u64 v4 32))
 let v9:Int:=IntKind.u64.wrap (v8+(ishr .u64 v6 32))
 v9=r0∧IntKind.u64.wrap (p0*p1)=r1)):kok (p0,p1,()) (r0,r1,()):=WPh.of_eq (by kernel_rfl) h
theorem bd66:Callable Try.prog 66:=⟨by rw[Try.func66];kernel_rfl,by rw[Try.func66];show some _≠some _;decide⟩
theorem k16h (p0:Int) (p1:Int) (h:U64 p0∧U64 p1):kok (p0,p1,()) (((p0*p1/18446744073709551616):Int),((p0*p1%18446744073709551616):Int),()):=by
 obtain⟨h0,h1⟩:=h
 have k:=k1gz p0 p1 h0 h1
 refine k1a3 ?_
 simp only[klm p0 h0,klm p1 h1,ishr32]
 obtain⟨e,k1,k2,k3,k4,k5,k6,k7,k8⟩:=k
 rw[←e]
 rw[wu (p0%4294967296*(p1%4294967296)) (by omega) (by omega),wu (p0/4294967296*(p1%4294967296)) (by omega) (by omega),wu (p0%4294967296*(p1/4294967296)) (by omega) (by omega),wu (p0/4294967296*(p1/4294967296)) (by omega) (by omega)]
 generalize p0%4294967296*(p1%4294967296)=a at *
 generalize p0/4294967296*(p1%4294967296)=b at *
 generalize p0%4294967296*(p1/4294967296)=c at *
 generalize p0/4294967296*(p1/4294967296)=d at *
 rw[wu (b+a/4294967296) (by omega) (by omega),klm _ (by omega)]
 simp only[u64w]
 refine⟨?_,trivial⟩
 omega
noncomputable def kqy:Con TB.den:=k6g.fnR (fun x=>(fun(p0:Int) (p1:Int)=>U64 p0∧U64 p1) x.1 x.2.1) fun x=>((fun(p0:Int) (p1:Int)=>((p0*p1/18446744073709551616):Int)) x.1 x.2.1,(fun(p0:Int) (p1:Int)=>((p0*p1%18446744073709551616):Int)) x.1 x.2.1,())
theorem kzf:kqy.Ok Try.prog TB:=Con.ok_fn k6g bd66 fun x h=>k18o (k16h x.1 x.2.1 h)
def k74:Con TB.den:=Con.mk0 74 [.agg [.d (.int .u64)],.one (.d (.int .u64)),.one (.d (.int .u64))] [] (.one (.one (.d (.int .u64)))) []
abbrev k13n:=HL TB.den (hsT k74.ins (hsOs k74.pre))
abbrev kr8:=HL TB.den (hsV k74.res (hsOs k74.post))
noncomputable def kix:Cx TB:=⟨inf,[kqy,kq5],[],4,[]⟩
noncomputable def kqf:Code:=Try.f74.body.getD .skip
noncomputable def ktr:List ResultVar:=Try.f74.results.toList
noncomputable def k10w (o:kr8):An TB:= .no
def kpx (x:k13n) (o:kr8):Prop:=WPh TB kix 26 0 kqf (k10w o) (k74.st TB x) (retTQ TB kix k74 ktr o)
theorem k1av (o:kr8):OblH TB kix 26 0 kqf (k10w o) (retTQ TB kix k74 ktr o):=
 OblH.ofC (X:=True) (by kernel_rfl) trivial
theorem k19z {x:k13n} {o:kr8} (h:kpx x o):k74.Snd Try.prog x o:=
 Con.soundH (c:=k74) (C:=kix) TBok ⟨inf_ok,(all_cons kzf (all_cons kzk all_nil)),all_nil⟩ mix Try.func74 (show Try.f74.body=some kqf by kernel_rfl) (show Try.f74.ntmps=26 by kernel_rfl) (show Try.f74.results.toList=ktr by kernel_rfl) rfl h (k1av o)
theorem k1bx {p0:TField} {p1:Int} {p2:Int} {r0:Int} (h:
((U64 p1∧U64 p2)∧(U64 (p1*p2/18446744073709551616)∧U64 (p1*p2%18446744073709551616)∧U64 p0.P∧(p1*p2/18446744073709551616)<p0.P)∧let r1:Int:=(((p1*p2/18446744073709551616)*18446744073709551616+(p1*p2%18446744073709551616))/p0.P)
 let r2:Int:=(((p1*p2/18446744073709551616)*18446744073709551616+(p1*p2%18446744073709551616))%p0.P)
 r2=r0)):kpx (p0.P,p1,p2,()) (r0,()):=WPh.of_eq (by kernel_rfl) h
theorem bd74:Callable Try.prog 74:=⟨by rw[Try.func74];kernel_rfl,by rw[Try.func74];show some _≠some _;decide⟩
theorem k17v (p0:TField) (p1:Int) (p2:Int) (h:p0.P=18446744069414584321∧(0≤p1∧p1<18446744069414584321)∧(0≤p2∧p2<18446744069414584321)):kpx (p0.P,p1,p2,()) (((p1*p2%18446744069414584321):Int),()):=by
 obtain⟨hP,h1,h2⟩:=h
 have h3:0≤p1*p2:=Int.mul_nonneg h1.1 h2.1
 have h4:p1*p2≤18446744069414584320*18446744069414584320:=Int.mul_le_mul (by omega) (by omega) h2.1 (by omega)
 refine k1bx ⟨⟨by omega,by omega⟩,?_⟩
 simp only[hP]
 generalize p1*p2=m at *
 refine⟨⟨⟨by omega,by omega⟩,⟨by omega,by omega⟩,by omega,by omega⟩,?_⟩
 rw[show m/18446744073709551616*18446744073709551616+m%18446744073709551616=m by omega]
noncomputable def krz:Con TB.den:=k74.fnR (fun x=>(fun(p0:TField) (p1:Int) (p2:Int)=>p0.P=18446744069414584321∧(0≤p1∧p1<18446744069414584321)∧(0≤p2∧p2<18446744069414584321)) (TField.mk x.1) x.2.1 x.2.2.1) fun x=>((fun(p0:TField) (p1:Int) (p2:Int)=>((p1*p2%18446744069414584321):Int)) (TField.mk x.1) x.2.1 x.2.2.1,())
theorem k11l:krz.Ok Try.prog TB:=Con.ok_fn k74 bd74 fun x h=>k19z (k17v (TField.mk x.1) x.2.1 x.2.2.1 h)
def k7b:Con TB.den:=Con.mk0 53 [.agg [.d (.int .u64)],.one (.d (.int .u64)),.one (.d (.int .u64))] [] (.one (.one (.d (.int .u64)))) []
abbrev k137:=HL TB.den (hsT k7b.ins (hsOs k7b.pre))
abbrev kr7:=HL TB.den (hsV k7b.res (hsOs k7b.post))
noncomputable def kj5:Cx TB:=⟨inf,[k8s,kb6,krz],[],4,[]⟩
noncomputable def kqp:Code:=Try.f53.body.getD .skip
noncomputable def ktz:List ResultVar:=Try.f53.results.toList
noncomputable def k11x (o:kr7):An TB:= .no
def kq6 (x:k137) (o:kr7):Prop:=WPh TB kj5 18 0 kqp (k11x o) (k7b.st TB x) (retTQ TB kj5 k7b ktz o)
theorem k19v (o:kr7):OblH TB kj5 18 0 kqp (k11x o) (retTQ TB kj5 k7b ktz o):=
 OblH.ofC (X:=True) (by kernel_rfl) trivial
theorem k1ae {x:k137} {o:kr7} (h:kq6 x o):k7b.Snd Try.prog x o:=
 Con.soundH (c:=k7b) (C:=kj5) TBok ⟨inf_ok,(all_cons kbo (all_cons kgh (all_cons k11l all_nil))),all_nil⟩ mix Try.func53 (show Try.f53.body=some kqp by kernel_rfl) (show Try.f53.ntmps=18 by kernel_rfl) (show Try.f53.results.toList=ktz by kernel_rfl) rfl h (k19v o)
theorem k1ch {p0:TField} {p1:Int} {p2:Int} {r0:Int} (h:
((p0.P=18446744069414584321)∧((!true)=true→
 0=r0)∧
((!true)=false→
(0<p0.P∧0≤p1)∧(0<p0.P∧0≤p2)∧(p0.P=18446744069414584321∧(0≤(p1%p0.P)∧(p1%p0.P)<18446744069414584321)∧(0≤(p2%p0.P)∧(p2%p0.P)<18446744069414584321))∧let r1:Int:=((p1%p0.P)*(p2%p0.P)%18446744069414584321)
 r1=r0))):kq6 (p0.P,p1,p2,()) (r0,()):=WPh.of_eq (by kernel_rfl) h
theorem bd53:Callable Try.prog 53:=⟨by rw[Try.func53];kernel_rfl,by rw[Try.func53];show some _≠some _;decide⟩
theorem k187 (p0:TField) (p1:Int) (p2:Int) (h:p0.P=18446744069414584321∧U64 p1∧U64 p2):kq6 (p0.P,p1,p2,()) (((p1*p2%18446744069414584321):Int),()):=by
 obtain⟨hP,h1,h2⟩:=h
 refine k1ch ⟨hP,?_⟩
 simp only[hP]
 refine⟨fun h=>by simp at h,fun _=>⟨by omega,by omega,⟨by trivial,by omega,by omega⟩,?_⟩⟩
 exact(Int.mul_emod _ _ _).symm
noncomputable def kz9:Con TB.den:=k7b.fnR (fun x=>(fun(p0:TField) (p1:Int) (p2:Int)=>p0.P=18446744069414584321∧U64 p1∧U64 p2) (TField.mk x.1) x.2.1 x.2.2.1) fun x=>((fun(p0:TField) (p1:Int) (p2:Int)=>((p1*p2%18446744069414584321):Int)) (TField.mk x.1) x.2.1 x.2.2.1,())
theorem k1cp:kz9.Ok Try.prog TB:=Con.ok_fn k7b bd53 fun x h=>k1ae (k187 (TField.mk x.1) x.2.1 x.2.2.1 h)
def k4w:Con TB.den:=Con.mk0 88 [.agg [.d (.int .u64)]] [] (.tup [.one (.d (.int .u64)),.one (.d (.int .i64)),.one (.d (.int .u64))]) []
abbrev kvs:=HL TB.den (hsT k4w.ins (hsOs k4w.pre))
abbrev khh:=HL TB.den (hsV k4w.res (hsOs k4w.post))
noncomputable def kc7:Cx TB:=⟨inf,[],[],4,[]⟩
noncomputable def kir:Code:=Try.f88.body.getD .skip
noncomputable def kmn:List ResultVar:=Try.f88.results.toList
noncomputable def ku0 (o:khh):An TB:= .no
def kiz (x:kvs) (o:khh):Prop:=WPh TB kc7 21 0 kir (ku0 o) (k4w.st TB x) (retTQ TB kc7 k4w kmn o)
theorem k12u (o:khh):OblH TB kc7 21 0 kir (ku0 o) (retTQ TB kc7 k4w kmn o):=
 OblH.ofC (X:=True) (by kernel_rfl) trivial
theorem k130 {x:kvs} {o:khh} (h:kiz x o):k4w.Snd Try.prog x o:=
 Con.soundH (c:=k4w) (C:=kc7) TBok ⟨inf_ok,all_nil,all_nil⟩ mix Try.func88 (show Try.f88.body=some kir by kernel_rfl) (show Try.f88.ntmps=21 by kernel_rfl) (show Try.f88.results.toList=kmn by kernel_rfl) rfl h (k12u o)
theorem k14u {p0:TField} {r0:Int} {r1:Int} {r2:Int} (h:
(((p0.P==17)=true→
 3=r0∧4=r1∧3=r2)∧
((p0.P==17)=false→
((p0.P==97)=true→
 5=r0∧5=r1∧5=r2)∧
((p0.P==97)=false→
((p0.P==193)=true→
 5=r0∧6=r1∧5=r2)∧
((p0.P==193)=false→
((p0.P==257)=true→
 3=r0∧8=r1∧3=r2)∧
((p0.P==257)=false→
((p0.P==12289)=true→
 11=r0∧12=r1∧5=r2)∧
((p0.P==12289)=false→
((p0.P==65537)=true→
 3=r0∧16=r1∧3=r2)∧
((p0.P==65537)=false→
((p0.P==18446744069414584321)=true→
 7=r0∧32=r1∧7=r2)∧
((p0.P==18446744069414584321)=false→
 0=r0∧0=r1∧0=r2))))))))):kiz (p0.P,()) (r0,r1,r2,()):=WPh.of_eq (by kernel_rfl) h
theorem bd88:Callable Try.prog 88:=⟨by rw[Try.func88];kernel_rfl,by rw[Try.func88];show some _≠some _;decide⟩
theorem k10l (p0:TField) (h:p0.P=18446744069414584321):kiz (p0.P,()) ((7:Int),(32:Int),(7:Int),()):=by
 refine k14u ?_
 simp[h]
noncomputable def ksm:Con TB.den:=k4w.fnR (fun x=>(fun(p0:TField)=>p0.P=18446744069414584321) (TField.mk x.1)) fun x=>((fun(p0:TField)=>(7:Int)) (TField.mk x.1),(fun(p0:TField)=>(32:Int)) (TField.mk x.1),(fun(p0:TField)=>(7:Int)) (TField.mk x.1),())
theorem k146:ksm.Ok Try.prog TB:=Con.ok_fn k4w bd88 fun x h=>k130 (k10l (TField.mk x.1) h)
def k42:Con TB.den:=Con.mk0 75 [.agg [.d (.int .u64)]] [] (.one (.one (.d (.int .u64)))) []
abbrev kv3:=HL TB.den (hsT k42.ins (hsOs k42.pre))
abbrev kga:=HL TB.den (hsV k42.res (hsOs k42.post))
noncomputable def kay:Cx TB:=⟨inf,[ksm],[],4,[]⟩
noncomputable def kh1:Code:=Try.f75.body.getD .skip
noncomputable def kkm:List ResultVar:=Try.f75.results.toList
noncomputable def ksg (o:kga):An TB:= .no
def kh2 (x:kv3) (o:kga):Prop:=WPh TB kay 13 0 kh1 (ksg o) (k42.st TB x) (retTQ TB kay k42 kkm o)
theorem k11e (o:kga):OblH TB kay 13 0 kh1 (ksg o) (retTQ TB kay k42 kkm o):=
 OblH.ofC (X:=True) (by kernel_rfl) trivial
theorem k11n {x:kv3} {o:kga} (h:kh2 x o):k42.Snd Try.prog x o:=
 Con.soundH (c:=k42) (C:=kay) TBok ⟨inf_ok,(all_cons k146 all_nil),all_nil⟩ mix Try.func75 (show Try.f75.body=some kh1 by kernel_rfl) (show Try.f75.ntmps=13 by kernel_rfl) (show Try.f75.results.toList=kkm by kernel_rfl) rfl h (k11e o)
theorem k12n {p0:TField} {r0:Int} (h:
((p0.P=18446744069414584321)∧7=r0)):kh2 (p0.P,()) (r0,()):=WPh.of_eq (by kernel_rfl) h
theorem bd75:Callable Try.prog 75:=⟨by rw[Try.func75];kernel_rfl,by rw[Try.func75];show some _≠some _;decide⟩
theorem k10h (p0:TField) (h:p0.P=18446744069414584321):kh2 (p0.P,()) ((7:Int),()):=by
 exact k12n ⟨h,rfl⟩
noncomputable def krd:Con TB.den:=k42.fnR (fun x=>(fun(p0:TField)=>p0.P=18446744069414584321) (TField.mk x.1)) fun x=>((fun(p0:TField)=>(7:Int)) (TField.mk x.1),())
theorem k132:krd.Ok Try.prog TB:=Con.ok_fn k42 bd75 fun x h=>k11n (k10h (TField.mk x.1) h)
def k6e:Con TB.den:=Con.mk0 89 [.agg [.d (.int .u64)],.one (.d (.int .u64)),.one (.d (.int .u64))] [] (.one (.one (.d (.int .u64)))) []
abbrev k13q:=HL TB.den (hsT k6e.ins (hsOs k6e.pre))
abbrev k7u:=HL TB.den (hsV k6e.res (hsOs k6e.post))
noncomputable def k8t:Cx TB:=⟨inf,[krz],[],4,[]⟩
noncomputable def kbn:Code:=Try.f89.body.getD .skip
noncomputable def kp7:List ResultVar:=Try.f89.results.toList
def k11g (o:k7u):=qS TB k8t 26 0 (cB (cB (cB kbn))) .no (retTQ TB k8t k6e kp7 o)
def k62:Tm:=⟨[0],[.cells [.d (.int .u64)]],[1,2,3,7],[.one (.d (.int .u64)),.one (.d (.int .u64)),.one (.ptr 0 0),.one (.d (.int .u64))],1⟩
def k1db (o:k7u) (nx1:NX TB k62):=blockT TB 1 (qM TB 0 k62 nx1 (blockT TB 0 (k11g o)))
def kma:Tm:=⟨[0],[.cells [.d (.int .u64)]],[1,2,3,7],[.one (.d (.int .u64)),.one (.d (.int .u64)),.one (.ptr 0 0),.one (.d (.int .u64))],1⟩
def kzm (o:k7u) (nx1:NX TB k62) (i:HL TB.den kma.hs):Prop:=ghs TB [] (kma.fill TB i) fun s=>WP TB k8t 26 0 (cB (cA (cB (cA (cA (cA (cB (cB kbn)))))))) .no s (k1db o nx1)
structure kfe (o:k7u) (nx1:NX TB k62) (i:HL TB.den kma.hs):Prop where
 h:kzm o nx1 i
noncomputable def k11t (o:k7u) (nx1:NX TB k62):An TB:= .nd [] .no [] (.jn kma (kfe o nx1) [] .no [] .no)
def kj1 (o:k7u) (nx1:NX TB k62) (i:HL TB.den k62.hs):Prop:=WP TB k8t 26 0 (cA (cA (cA (cB (cB kbn))))) (k11t o nx1) (k62.fill TB i) (qM TB 0 k62 nx1 (blockT TB 0 (k11g o)))
noncomputable def k1b5 (o:k7u):An TB:= .lp [] k62 (kj1 o) fun nx1=>(k11t o nx1)
noncomputable def k11r (o:k7u):An TB:= .nd [] .no [] (.nd [] .no [] (.nd [] (k1b5 o) [] .no))
def kq0 (x:k13q) (o:k7u):Prop:=WPh TB k8t 26 0 kbn (k11r o) (k6e.st TB x) (retTQ TB k8t k6e kp7 o)
theorem k1a2 (o:k7u):OblH TB k8t 26 0 kbn (k11r o) (retTQ TB k8t k6e kp7 o):=
 OblH.ofC (X:=((∀nx i,(kj1 o) nx i=(kj1 o) nx i)∧(∀nx1:NX TB k62,((∀i,(kfe o nx1) i=kzm o nx1 i)∧True))∧True)) (by kernel_rfl) ⟨fun _ _=>rfl,fun _=>⟨fun _=>propext ⟨fun h=>h.1,fun h=>⟨h⟩⟩,trivial⟩,trivial⟩
theorem k1a5 {x:k13q} {o:k7u} (h:kq0 x o):k6e.Snd Try.prog x o:=
 Con.soundH (c:=k6e) (C:=k8t) TBok ⟨inf_ok,(all_cons k11l all_nil),all_nil⟩ mix Try.func89 (show Try.f89.body=some kbn by kernel_rfl) (show Try.f89.ntmps=26 by kernel_rfl) (show Try.f89.results.toList=kp7 by kernel_rfl) rfl h (k1a2 o)
theorem k1cm {p0:TField} {p1:Int} {p2:Int} {r0:Int} (h:
(Md.Loop (p1,p2,(1:Int),p0.P,()) (kj1 (r0,())))):kq0 (p0.P,p1,p2,()) (r0,()):=WPh.of_eq (by kernel_rfl) h
theorem k164 {r0:Int} {nx1:NX TB k62} {s1:Int} {s2:Int} {s7:Int} {h0_0:Int} (h:
((decide (0<(ishr .u64 s2 1))=true→
((TField.mk h0_0).P=18446744069414584321∧(0≤s1∧s1<18446744069414584321)∧(0≤s1∧s1<18446744069414584321))∧nx1 (((s1*s1%18446744069414584321):Int),(ishr .u64 s2 1:Int),s7,h0_0,()))∧
(decide (0<(ishr .u64 s2 1))=false→
 nx1 (s1,(ishr .u64 s2 1:Int),s7,h0_0,())))):kfe (r0,()) nx1 (s1,s2,s7,h0_0,()):=⟨mpr_of (by kernel_rfl) h⟩
def k10m (r0:Int) (nx1:NX TB k62) (k1:Int→Int→Int→Prop) (h0_0:Int) (s1:Int) (s2:Int) (s7:Int):Prop:=
(decide (0<s2)=true→
(((iand .u64 s2 1)==1)=true→
((TField.mk h0_0).P=18446744069414584321∧(0≤s7∧s7<18446744069414584321)∧(0≤s1∧s1<18446744069414584321))∧kfe (r0,()) nx1 (s1,s2,((s7*s1%18446744069414584321):Int),h0_0,()))∧
(((iand .u64 s2 1)==1)=false→
 kfe (r0,()) nx1 (s1,s2,s7,h0_0,())))∧
(decide (0<s2)=false→
 s7=r0)
theorem k1a0 {r0:Int} {h0_0:Int} {s1:Int} {s2:Int} {s7:Int} (inv:Int→Int→Int→Prop) (μ:Int→Int→Int→Nat) (h0:inv s1 s2 s7) (hs:∀(s1:Int) (s2:Int) (s7:Int),inv s1 s2 s7→k10m r0 (fun s:Int×Int×Int×Int×Unit=>((s.2.2.2.1=h0_0)∧inv s.1 s.2.1 s.2.2.1)∧μ s.1 s.2.1 s.2.2.1<μ s1 s2 s7) (fun s1q s2q s7q=>inv s1q s2q s7q∧μ s1q s2q s7q<μ s1 s2 s7) h0_0 s1 s2 s7):Md.Loop (s1,s2,s7,h0_0,()) (kj1 (r0,())):=
 ⟨⟨fun s:Int×Int×Int×Int×Unit=>(s.2.2.2.1=h0_0)∧inv s.1 s.2.1 s.2.2.1,fun s:Int×Int×Int×Int×Unit=>μ s.1 s.2.1 s.2.2.1,⟨rfl,h0⟩,fun(s1p,s2p,s7p,h0_0p,()) ⟨eq0,hi⟩=>by
  have eq0:h0_0p=h0_0:=eq0;subst h0_0p;exact mpr_of (by kernel_rfl) ((congrArg (fun k=>k10m r0 (fun s:Int×Int×Int×Int×Unit=>((s.2.2.2.1=h0_0)∧inv s.1 s.2.1 s.2.2.1)∧μ s.1 s.2.1 s.2.2.1<μ s1p s2p s7p) k h0_0 s1p s2p s7p) (lpk3 (rfl:h0_0=h0_0) inv (fun s1q s2q s7q=>μ s1q s2q s7q<μ s1p s2p s7p))).mpr (hs s1p s2p s7p hi))⟩⟩
theorem bd89:Callable Try.prog 89:=⟨by rw[Try.func89];kernel_rfl,by rw[Try.func89];show some _≠some _;decide⟩
theorem k188 (p0:TField) (p1:Int) (p2:Int) (h:p0.P=18446744069414584321∧(0≤p1∧p1<18446744069414584321)∧U64 p2):kq0 (p0.P,p1,p2,()) (((pw p1 p2):Int),()):=by
 obtain⟨hP,h1,h2⟩:=h
 refine k1cm ?_
 rw[hP]
 refine k1a0 (fun a e r=>(0≤a∧a<18446744069414584321)∧U64 e∧(0≤r∧r<18446744069414584321)∧(r*a^e.toNat)%18446744069414584321=pw p1 p2) (fun a e r=>e.toNat) ⟨h1,h2,by omega,by rw[Int.one_mul];rfl⟩ ?_
 rintro a e r ⟨ha,he,hr,hv⟩
 have jj:∀nx r',(0≤r'∧r' <18446744069414584321)→0<e→(r' *(a*a)^(e/2).toNat)%18446744069414584321=pw p1 p2→(∀a',(0≤a'∧a' <18446744069414584321)→r' *a' ^(e/2).toNat%18446744069414584321=pw p1 p2→nx (a',(e/2:Int),r',(18446744069414584321:Int),()))→kfe ((pw p1 p2:Int),()) nx (a,e,r',(18446744069414584321:Int),()):=by
  intro nx r' hr' he' hv' hn
  refine k164 ?_
  rw[ishr1]
  refine⟨fun h=>⟨⟨rfl,ha,ha⟩,?_⟩,fun h=> ?_⟩
  ·refine hn _ ⟨Int.emod_nonneg _ (by omega),Int.emod_lt_of_pos _ (by omega)⟩ ?_
   rw[←hv',Int.mul_emod,Int.mul_emod r' ((a*a)^_),kyi]
  ·have h:¬0<e/2:=of_decide_eq_false h
   refine hn _ ha ?_
   rw[show(e/2).toNat=0 by omega]at hv' ⊢
   simpa using hv'
 refine⟨fun h=> ?_,fun h=> ?_⟩
 ·have h:=of_decide_eq_true h
  rw[k1h8 e he]
  have nxt:∀a' r',(0≤a'∧a' <18446744069414584321)→(0≤r'∧r' <18446744069414584321)→r' *a' ^(e/2).toNat%18446744069414584321=pw p1 p2→((0≤a'∧a' <18446744069414584321)∧U64 (e/2)∧(0≤r'∧r' <18446744069414584321)∧r' *a' ^(e/2).toNat%18446744069414584321=pw p1 p2)∧(e/2).toNat<e.toNat:=fun a' r' h1 h2 h3=>⟨⟨h1,⟨by omega,by omega⟩,h2,h3⟩,by omega⟩
  have hpow:∀k:Nat,a^(2*k)=(a*a)^k:=fun k=>by rw[Int.pow_mul];congr 1;rw[Int.pow_succ,Int.pow_succ,Int.pow_zero,Int.one_mul]
  refine⟨fun h1=>⟨⟨rfl,hr,ha⟩,?_⟩,fun h1=> ?_⟩
  ·have h1:e%2=1:=by simpa using h1
   refine jj _ _ ⟨Int.emod_nonneg _ (by omega),Int.emod_lt_of_pos _ (by omega)⟩ h ?_ fun a' ha' hv' =>⟨⟨rfl,(nxt a' _ ha' ⟨Int.emod_nonneg _ (by omega),Int.emod_lt_of_pos _ (by omega)⟩ hv').1⟩,(nxt a' _ ha' ⟨Int.emod_nonneg _ (by omega),Int.emod_lt_of_pos _ (by omega)⟩ hv').2⟩
   rw[←hv,show e.toNat=2*(e/2).toNat+1 by omega,Int.pow_succ,hpow,Int.mul_emod,Int.emod_emod_of_dvd _ (Int.dvd_refl _),←Int.mul_emod]
   congr 1
   grind
  ·have h1:¬e%2=1:=by simpa using h1
   refine jj _ _ hr h ?_ fun a' ha' hv' =>⟨⟨rfl,(nxt a' _ ha' hr hv').1⟩,(nxt a' _ ha' hr hv').2⟩
   rw[←hv,←hpow,show e.toNat=2*(e/2).toNat by omega]
 ·have h:¬0<e:=of_decide_eq_false h
  rw[show e.toNat=0 by omega,Int.pow_zero,Int.mul_one,Int.emod_eq_of_lt hr.1 hr.2]at hv
  exact hv
noncomputable def kzu:Con TB.den:=k6e.fnR (fun x=>(fun(p0:TField) (p1:Int) (p2:Int)=>p0.P=18446744069414584321∧(0≤p1∧p1<18446744069414584321)∧U64 p2) (TField.mk x.1) x.2.1 x.2.2.1) fun x=>((fun(p0:TField) (p1:Int) (p2:Int)=>((pw p1 p2):Int)) (TField.mk x.1) x.2.1 x.2.2.1,())
theorem k1d6:kzu.Ok Try.prog TB:=Con.ok_fn k6e bd89 fun x h=>k1a5 (k188 (TField.mk x.1) x.2.1 x.2.2.1 h)
def k75:Con TB.den:=Con.mk0 76 [.agg [.d (.int .u64)],.one (.d (.int .u64)),.one (.d (.int .u64))] [] (.one (.one (.d (.int .u64)))) []
abbrev k13s:=HL TB.den (hsT k75.ins (hsOs k75.pre))
abbrev krc:=HL TB.den (hsV k75.res (hsOs k75.post))
noncomputable def ki4:Cx TB:=⟨inf,[k8s,kb6,kzu],[],4,[]⟩
noncomputable def kqt:Code:=Try.f76.body.getD .skip
noncomputable def ku7:List ResultVar:=Try.f76.results.toList
noncomputable def k11u (o:krc):An TB:= .no
def kqe (x:k13s) (o:krc):Prop:=WPh TB ki4 16 0 kqt (k11u o) (k75.st TB x) (retTQ TB ki4 k75 ku7 o)
theorem k1ab (o:krc):OblH TB ki4 16 0 kqt (k11u o) (retTQ TB ki4 k75 ku7 o):=
 OblH.ofC (X:=True) (by kernel_rfl) trivial
theorem k1af {x:k13s} {o:krc} (h:kqe x o):k75.Snd Try.prog x o:=
 Con.soundH (c:=k75) (C:=ki4) TBok ⟨inf_ok,(all_cons kbo (all_cons kgh (all_cons k1d6 all_nil))),all_nil⟩ mix Try.func76 (show Try.f76.body=some kqt by kernel_rfl) (show Try.f76.ntmps=16 by kernel_rfl) (show Try.f76.results.toList=ku7 by kernel_rfl) rfl h (k1ab o)
theorem k1b8 {p0:TField} {p1:Int} {p2:Int} {r0:Int} (h:
((p0.P=18446744069414584321)∧((!true)=true→
 0=r0)∧
((!true)=false→
(0<p0.P∧0≤p1)∧(p0.P=18446744069414584321∧(0≤(p1%p0.P)∧(p1%p0.P)<18446744069414584321)∧U64 p2)∧(pw (p1%p0.P) p2)=r0))):kqe (p0.P,p1,p2,()) (r0,()):=WPh.of_eq (by kernel_rfl) h
theorem bd76:Callable Try.prog 76:=⟨by rw[Try.func76];kernel_rfl,by rw[Try.func76];show some _≠some _;decide⟩
theorem k17x (p0:TField) (p1:Int) (p2:Int) (h:p0.P=18446744069414584321∧U64 p1∧U64 p2):kqe (p0.P,p1,p2,()) (((pw (p1%18446744069414584321) p2):Int),()):=by
 obtain⟨hP,h1,h2⟩:=h
 refine k1b8 ⟨hP,fun h=>by simp at h,fun _=>⟨by omega,?_⟩⟩
 simp only[hP]
 exact⟨⟨by trivial,by omega,h2⟩,trivial⟩
noncomputable def kzy:Con TB.den:=k75.fnR (fun x=>(fun(p0:TField) (p1:Int) (p2:Int)=>p0.P=18446744069414584321∧U64 p1∧U64 p2) (TField.mk x.1) x.2.1 x.2.2.1) fun x=>((fun(p0:TField) (p1:Int) (p2:Int)=>((pw (p1%18446744069414584321) p2):Int)) (TField.mk x.1) x.2.1 x.2.2.1,())
theorem k1be:kzy.Ok Try.prog TB:=Con.ok_fn k75 bd76 fun x h=>k1af (k17x (TField.mk x.1) x.2.1 x.2.2.1 h)
def k5b:Con TB.den:=Con.mk0 90 [.agg [.d (.int .u64)],.one (.d (.int .u64))] [] (.one (.one (.d (.int .u64)))) []
abbrev kxj:=HL TB.den (hsT k5b.ins (hsOs k5b.pre))
abbrev kjm:=HL TB.den (hsV k5b.res (hsOs k5b.post))
noncomputable def kcx:Cx TB:=⟨inf,[k8s,kb6],[],4,[]⟩
noncomputable def kl6:Code:=Try.f90.body.getD .skip
noncomputable def kom:List ResultVar:=Try.f90.results.toList
noncomputable def kw1 (o:kjm):An TB:= .no
def kkl (x:kxj) (o:kjm):Prop:=WPh TB kcx 11 0 kl6 (kw1 o) (k5b.st TB x) (retTQ TB kcx k5b kom o)
theorem k14f (o:kjm):OblH TB kcx 11 0 kl6 (kw1 o) (retTQ TB kcx k5b kom o):=
 OblH.ofC (X:=True) (by kernel_rfl) trivial
theorem k14n {x:kxj} {o:kjm} (h:kkl x o):k5b.Snd Try.prog x o:=
 Con.soundH (c:=k5b) (C:=kcx) TBok ⟨inf_ok,(all_cons kbo (all_cons kgh all_nil)),all_nil⟩ mix Try.func90 (show Try.f90.body=some kl6 by kernel_rfl) (show Try.f90.ntmps=11 by kernel_rfl) (show Try.f90.results.toList=kom by kernel_rfl) rfl h (k14f o)
theorem k168 {p0:TField} {p1:Int} {r0:Int} (h:
((p0.P=18446744069414584321)∧((!true)=true→
 0=r0)∧
((!true)=false→
(0<p0.P∧0≤p1)∧(p1%p0.P)=r0))):kkl (p0.P,p1,()) (r0,()):=WPh.of_eq (by kernel_rfl) h
theorem bd90:Callable Try.prog 90:=⟨by rw[Try.func90];kernel_rfl,by rw[Try.func90];show some _≠some _;decide⟩
theorem k12e (p0:TField) (p1:Int) (h:p0.P=18446744069414584321∧U64 p1):kkl (p0.P,p1,()) (((p1%18446744069414584321):Int),()):=by
 obtain⟨hP,h1⟩:=h
 refine k168 ⟨hP,fun h=>by simp at h,fun _=>⟨by omega,?_⟩⟩
 simp only[hP]
noncomputable def kur:Con TB.den:=k5b.fnR (fun x=>(fun(p0:TField) (p1:Int)=>p0.P=18446744069414584321∧U64 p1) (TField.mk x.1) x.2.1) fun x=>((fun(p0:TField) (p1:Int)=>((p1%18446744069414584321):Int)) (TField.mk x.1) x.2.1,())
theorem k16j:kur.Ok Try.prog TB:=Con.ok_fn k5b bd90 fun x h=>k14n (k12e (TField.mk x.1) x.2.1 h)
def k29:Con TB.den:=Con.mk0 77 [.one (.d (.int .u64)),.one (.d (.int .i64)),.one (.d (.int .i64))] [] (.one (.one (.d (.int .u64)))) []
abbrev klq:=HL TB.den (hsT k29.ins (hsOs k29.pre))
abbrev k9i:=HL TB.den (hsV k29.res (hsOs k29.post))
noncomputable def k7k:Cx TB:=⟨inf,[kur],[],4,[]⟩
noncomputable def kb9:Code:=Try.f77.body.getD .skip
noncomputable def kci:List ResultVar:=Try.f77.results.toList
noncomputable def kkb (o:k9i):An TB:= .no
def kba (x:klq) (o:k9i):Prop:=WPh TB k7k 31 0 kb9 (kkb o) (k29.st TB x) (retTQ TB k7k k29 kci o)
theorem kul (o:k9i):OblH TB k7k 31 0 kb9 (kkb o) (retTQ TB k7k k29 kci o):=
 OblH.ofC (X:=True) (by kernel_rfl) trivial
theorem ktq {x:klq} {o:k9i} (h:kba x o):k29.Snd Try.prog x o:=
 Con.soundH (c:=k29) (C:=k7k) TBok ⟨inf_ok,(all_cons k16j all_nil),all_nil⟩ mix Try.func77 (show Try.f77.body=some kb9 by kernel_rfl) (show Try.f77.ntmps=31 by kernel_rfl) (show Try.f77.results.toList=kci by kernel_rfl) rfl h (kul o)
theorem kv4 {p0:Int} {p1:Int} {p2:Int} {r0:Int} (h:
((decide (p1<0)=true→
 0=r0)∧
(decide (p1<0)=false→
(decide (8≤p1)=true→
 0=r0)∧
(decide (8≤p1)=false→
(decide (p2<0)=true→
 0=r0)∧
(decide (p2<0)=false→
(decide (2<p2)=true→
 0=r0)∧
(decide (2<p2)=false→
 let v1:Int:=IntKind.i64.wrap ((IntKind.i64.wrap (3*p1))+p2)
 let v2:Int:=IntKind.u64.wrap (IntKind.i64.wrap (v1+1))
 let v3:Int:=IntKind.u64.wrap (v2*11400714819323198485)
((TField.mk p0).P=18446744069414584321∧U64 v3)∧(v3%18446744069414584321)=r0)))))):kba (p0,p1,p2,()) (r0,()):=WPh.of_eq (by kernel_rfl) h
theorem bd77:Callable Try.prog 77:=⟨by rw[Try.func77];kernel_rfl,by rw[Try.func77];show some _≠some _;decide⟩
theorem kt7 (p0:Int) (p1:Int) (p2:Int) (h:p0=18446744069414584321∧(0≤p1∧p1<8)∧0≤p2∧p2<3):kba (p0,p1,p2,()) (((rc p1 p2):Int),()):=by
 obtain⟨hP,h1,h2⟩:=h
 refine kv4 ⟨fun h=> ?_,fun _=>⟨fun h=> ?_,fun _=>⟨fun h=> ?_,fun _=>⟨fun h=> ?_,fun _=> ?_⟩⟩⟩⟩
 ·simp at h;omega
 ·simp at h;omega
 ·simp at h;omega
 ·simp at h;omega
 ·simp only[]
  rw[wi (3*p1) (by omega) (by omega),wi (3*p1+p2) (by omega) (by omega),wi (3*p1+p2+1) (by omega) (by omega),wu (3*p1+p2+1) (by omega) (by omega),u64w]
  exact⟨⟨hP,by omega,by omega⟩,rfl⟩
noncomputable def ki7:Con TB.den:=k29.fnR (fun x=>(fun(p0:Int) (p1:Int) (p2:Int)=>p0=18446744069414584321∧(0≤p1∧p1<8)∧0≤p2∧p2<3) x.1 x.2.1 x.2.2.1) fun x=>((fun(p0:Int) (p1:Int) (p2:Int)=>((rc p1 p2):Int)) x.1 x.2.1 x.2.2.1,())
theorem kvk:ki7.Ok Try.prog TB:=Con.ok_fn k29 bd77 fun x h=>ktq (kt7 x.1 x.2.1 x.2.2.1 h)
def k3k:Con TB.den:=Con.mk0 78 [.one (.d (.int .u64)),.agg [.d (.int .u64),.d (.int .u64),.d (.int .u64)]] [] (.one (.agg [.d (.int .u64),.d (.int .u64),.d (.int .u64)])) []
abbrev ksn:=HL TB.den (hsT k3k.ins (hsOs k3k.pre))
abbrev ke2:=HL TB.den (hsV k3k.res (hsOs k3k.post))
noncomputable def k9u:Cx TB:=⟨inf,[km6],[],4,[]⟩
noncomputable def kg6:Code:=Try.f78.body.getD .skip
noncomputable def kil:List ResultVar:=Try.f78.results.toList
noncomputable def krn (o:ke2):An TB:= .no
def kge (x:ksn) (o:ke2):Prop:=WPh TB k9u 35 0 kg6 (krn o) (k3k.st TB x) (retTQ TB k9u k3k kil o)
theorem k10e (o:ke2):OblH TB k9u 35 0 kg6 (krn o) (retTQ TB k9u k3k kil o):=
 OblH.ofC (X:=True) (by kernel_rfl) trivial
theorem k107 {x:ksn} {o:ke2} (h:kge x o):k3k.Snd Try.prog x o:=
 Con.soundH (c:=k3k) (C:=k9u) TBok ⟨inf_ok,(all_cons kv0 all_nil),all_nil⟩ mix Try.func78 (show Try.f78.body=some kg6 by kernel_rfl) (show Try.f78.ntmps=35 by kernel_rfl) (show Try.f78.results.toList=kil by kernel_rfl) rfl h (k10e o)
theorem k10p {p0:Int} {p1:TA3} {r0:TA3} (h:
(((TField.mk p0).P=18446744069414584321∧U64 p1.a0∧U64 p1.a1)∧((TField.mk p0).P=18446744069414584321∧U64 ((p1.a0+p1.a1)%18446744069414584321)∧U64 p1.a2)∧let r1:Int:=((((p1.a0+p1.a1)%18446744069414584321)+p1.a2)%18446744069414584321)
((TField.mk p0).P=18446744069414584321∧U64 p1.a0∧U64 r1)∧((TField.mk p0).P=18446744069414584321∧U64 p1.a1∧U64 r1)∧((TField.mk p0).P=18446744069414584321∧U64 p1.a2∧U64 r1)∧((p1.a0+r1)%18446744069414584321)=r0.a0∧((p1.a1+r1)%18446744069414584321)=r0.a1∧((p1.a2+r1)%18446744069414584321)=r0.a2)):kge (p0,p1.a0,p1.a1,p1.a2,()) (r0.a0,r0.a1,r0.a2,()):=WPh.of_eq (by kernel_rfl) h
theorem bd78:Callable Try.prog 78:=⟨by rw[Try.func78];kernel_rfl,by rw[Try.func78];show some _≠some _;decide⟩
theorem kyv (p0:Int) (p1:TA3) (h:p0=18446744069414584321∧S3 p1):kge (p0,p1.a0,p1.a1,p1.a2,()) (((mixS p1).a0:Int),((mixS p1).a1:Int),((mixS p1).a2:Int),()):=by
 obtain⟨hP,h0,h1,h2⟩:=h
 refine k10p ?_
 simp only[hP]
 exact⟨⟨by trivial,h0,h1⟩,⟨by trivial,by omega,h2⟩,⟨by trivial,h0,by omega⟩,⟨by trivial,h1,by omega⟩,⟨by trivial,h2,by omega⟩,rfl,rfl,rfl⟩
noncomputable def kpw:Con TB.den:=k3k.fnR (fun x=>(fun(p0:Int) (p1:TA3)=>p0=18446744069414584321∧S3 p1) x.1 (TA3.mk x.2.1 x.2.2.1 x.2.2.2.1)) fun x=>((fun(p0:Int) (p1:TA3)=>((mixS p1).a0:Int)) x.1 (TA3.mk x.2.1 x.2.2.1 x.2.2.2.1),(fun(p0:Int) (p1:TA3)=>((mixS p1).a1:Int)) x.1 (TA3.mk x.2.1 x.2.2.1 x.2.2.2.1),(fun(p0:Int) (p1:TA3)=>((mixS p1).a2:Int)) x.1 (TA3.mk x.2.1 x.2.2.1 x.2.2.2.1),())
theorem k11m:kpw.Ok Try.prog TB:=Con.ok_fn k3k bd78 fun x h=>k107 (kyv x.1 (TA3.mk x.2.1 x.2.2.1 x.2.2.2.1) h)
def k24:Con TB.den:=Con.mk0 54 [.one (.d (.int .u64)),.agg [.d (.int .u64),.d (.int .u64),.d (.int .u64)]] [] (.one (.agg [.d (.int .u64),.d (.int .u64),.d (.int .u64)])) []
abbrev kn3:=HL TB.den (hsT k24.ins (hsOs k24.pre))
abbrev k1k:=HL TB.den (hsV k24.res (hsOs k24.post))
noncomputable def k2g:Cx TB:=⟨inf,[k8s,krd,ki7,km6,kzy,kpw],[],4,[]⟩
noncomputable def k3l:Code:=Try.f54.body.getD .skip
noncomputable def k9j:List ResultVar:=Try.f54.results.toList
def kwm (o:k1k):=qS TB k2g 43 0 (cB (cB (cB (cB (cB k3l))))) .no (retTQ TB k2g k24 k9j o)
def k1d:Tm:=⟨[0,1,2],[.cells [.d (.int .u64),.d (.int .u64),.d (.int .u64)],.cells [.d (.int .u64),.d (.int .u64),.d (.int .u64)],.cells [.d (.int .u64)]],[0,3,4,5,6,17],[.one (.d (.int .u64)),.one (.ptr 0 0),.one (.ptr 1 0),.one (.ptr 2 0),.one (.d (.int .u64)),.one (.d (.int .i64))],3⟩
def klz (o:k1k) (nx2:NX TB k1d):=qM TB 0 k1d nx2 (blockT TB 0 (kwm o))
def kwy (o:k1k) (nx2:NX TB k1d):=qS TB k2g 43 0 (cB (cB (cB (cA (cA (cB (cA (cB (cB (cB (cB k3l))))))))))) .no (klz o nx2)
def kx7 (o:k1k) (nx2:NX TB k1d):=qS TB k2g 43 0 (cB (cB (cA (cA (cB (cB (cA (cA (cB (cA (cB (cB (cB (cB k3l)))))))))))))) .no (blockT TB 1 (kwy o nx2))
def k5j:Tm:=⟨[0,1,2],[.cells [.d (.int .u64),.d (.int .u64),.d (.int .u64)],.cells [.d (.int .u64),.d (.int .u64),.d (.int .u64)],.cells [.d (.int .u64)]],[0,3,4,5,6,7,17,20],[.one (.d (.int .u64)),.one (.ptr 0 0),.one (.ptr 1 0),.one (.ptr 2 0),.one (.d (.int .u64)),.one (.d (.int .i64)),.one (.d (.int .i64)),.one (.d (.int .i64))],3⟩
def kwh (o:k1k) (nx2:NX TB k1d) (nx1:NX TB k5j):=qM TB 0 k5j nx1 (blockT TB 2 (kx7 o nx2))
def k7v (o:k1k) (nx2:NX TB k1d) (nx1:NX TB k5j) (i:HL TB.den k5j.hs):Prop:=WP TB k2g 43 0 (cA (cA (cB (cA (cB (cA (cA (cB (cB (cA (cA (cB (cA (cB (cB (cB (cB k3l))))))))))))))))) .no (k5j.fill TB i) (kwh o nx2 nx1)
noncomputable def kwv (o:k1k) (nx2:NX TB k1d):An TB:= .lp [] k5j (k7v o nx2) fun nx1=> .no
noncomputable def kwn (o:k1k) (nx2:NX TB k1d):An TB:= .nd [] .no [] (.nd [] (.nd [] .no [] (kwv o nx2)) [] .no)
noncomputable def kkh (o:k1k) (nx2:NX TB k1d):An TB:= .nd [] .no [] (.nd [] .no [] (.nd [] (kwn o nx2) [] .no))
def k7w (o:k1k) (nx2:NX TB k1d) (i:HL TB.den k1d.hs):Prop:=WP TB k2g 43 0 (cA (cA (cB (cA (cB (cB (cB (cB k3l)))))))) (kkh o nx2) (k1d.fill TB i) (klz o nx2)
noncomputable def kvd (o:k1k):An TB:= .lp [] k1d (k7w o) fun nx2=>(kkh o nx2)
noncomputable def kvb (o:k1k):An TB:= .nd [] .no [] (.nd [] (.nd [] .no [] (kvd o)) [] .no)
noncomputable def km2 (o:k1k):An TB:= .nd [] .no [] (.nd [] .no [] (.nd [] .no [] (kvb o)))
def kc4 (x:kn3) (o:k1k):Prop:=WPh TB k2g 43 0 k3l (km2 o) (k24.st TB x) (retTQ TB k2g k24 k9j o)
theorem kvg (o:k1k):OblH TB k2g 43 0 k3l (km2 o) (retTQ TB k2g k24 k9j o):=
 OblH.ofC (X:=((∀nx i,(k7w o) nx i=(k7w o) nx i)∧(∀nx2:NX TB k1d,((∀nx i,(k7v o nx2) nx i=(k7v o nx2) nx i)∧(∀nx1:NX TB k5j,True)∧True))∧True)) (by kernel_rfl) ⟨fun _ _=>rfl,fun _=>⟨fun _ _=>rfl,fun _=>trivial,trivial⟩,trivial⟩
theorem kv8 {x:kn3} {o:k1k} (h:kc4 x o):k24.Snd Try.prog x o:=
 Con.soundH (c:=k24) (C:=k2g) TBok ⟨inf_ok,(all_cons kbo (all_cons k132 (all_cons kvk (all_cons kv0 (all_cons k1be (all_cons k11m all_nil)))))),all_nil⟩ mix Try.func54 (show Try.f54.body=some k3l by kernel_rfl) (show Try.f54.ntmps=43 by kernel_rfl) (show Try.f54.results.toList=k9j by kernel_rfl) rfl h (kvg o)
theorem kwu {p0:Int} {p1:TA3} {r0:TA3} (h:
(((TField.mk p0).P=18446744069414584321)∧((!true)=true→
 0=r0.a0∧0=r0.a1∧0=r0.a2)∧
((!true)=false→
((TField.mk p0).P=18446744069414584321)∧Md.Loop (p0,(7:Int),(0:Int),p1.a0,p1.a1,p1.a2,(0:Int),(0:Int),(0:Int),p0,()) (k7w (r0.a0,r0.a1,r0.a2,()))))):kc4 (p0,p1.a0,p1.a1,p1.a2,()) (r0.a0,r0.a1,r0.a2,()):=WPh.of_eq (by kernel_rfl) h
def klx (r0:TA3) (nx2:NX TB k1d) (k2:Int→Int→Int→Int→Prop) (s0:Int) (s6:Int) (h1_0:Int) (h1_1:Int) (h1_2:Int) (h2_0:Int) (s17:Int) (h0_0:Int) (h0_1:Int) (h0_2:Int):Prop:=
(decide (s17<8)=true→
 Md.Loop (s0,s6,s17,s17,(0:Int),h0_0,h0_1,h0_2,h1_0,h1_1,h1_2,h2_0,()) (k7v (r0.a0,r0.a1,r0.a2,()) nx2))∧
(decide (s17<8)=false→
 h0_0=r0.a0∧h0_1=r0.a1∧h0_2=r0.a2)
theorem kv9 {r0:TA3} {s0:Int} {s6:Int} {h1_0:Int} {h1_1:Int} {h1_2:Int} {h2_0:Int} {s17:Int} {h0_0:Int} {h0_1:Int} {h0_2:Int} (inv:Int→Int→Int→Int→Prop) (μ:Int→Int→Int→Int→Nat) (h0:inv s17 h0_0 h0_1 h0_2) (hs:∀(s17:Int) (h0_0:Int) (h0_1:Int) (h0_2:Int),inv s17 h0_0 h0_1 h0_2→klx r0 (fun s:Int×Int×Int×Int×Int×Int×Int×Int×Int×Int×Unit=>((s.1=s0∧s.2.1=s6∧s.2.2.2.2.2.2.1=h1_0∧s.2.2.2.2.2.2.2.1=h1_1∧s.2.2.2.2.2.2.2.2.1=h1_2∧s.2.2.2.2.2.2.2.2.2.1=h2_0)∧inv s.2.2.1 s.2.2.2.1 s.2.2.2.2.1 s.2.2.2.2.2.1)∧μ s.2.2.1 s.2.2.2.1 s.2.2.2.2.1 s.2.2.2.2.2.1<μ s17 h0_0 h0_1 h0_2) (fun s17q h0_0q h0_1q h0_2q=>inv s17q h0_0q h0_1q h0_2q∧μ s17q h0_0q h0_1q h0_2q<μ s17 h0_0 h0_1 h0_2) s0 s6 h1_0 h1_1 h1_2 h2_0 s17 h0_0 h0_1 h0_2):Md.Loop (s0,s6,s17,h0_0,h0_1,h0_2,h1_0,h1_1,h1_2,h2_0,()) (k7w (r0.a0,r0.a1,r0.a2,())):=
 ⟨⟨fun s:Int×Int×Int×Int×Int×Int×Int×Int×Int×Int×Unit=>(s.1=s0∧s.2.1=s6∧s.2.2.2.2.2.2.1=h1_0∧s.2.2.2.2.2.2.2.1=h1_1∧s.2.2.2.2.2.2.2.2.1=h1_2∧s.2.2.2.2.2.2.2.2.2.1=h2_0)∧inv s.2.2.1 s.2.2.2.1 s.2.2.2.2.1 s.2.2.2.2.2.1,fun s:Int×Int×Int×Int×Int×Int×Int×Int×Int×Int×Unit=>μ s.2.2.1 s.2.2.2.1 s.2.2.2.2.1 s.2.2.2.2.2.1,⟨⟨rfl,rfl,rfl,rfl,rfl,rfl⟩,h0⟩,fun(s0p,s6p,s17p,h0_0p,h0_1p,h0_2p,h1_0p,h1_1p,h1_2p,h2_0p,()) ⟨⟨eq0,eq1,eq2,eq3,eq4,eq5⟩,hi⟩=>by
  have eq0:s0p=s0:=eq0;subst s0p;have eq1:s6p=s6:=eq1;subst s6p;have eq2:h1_0p=h1_0:=eq2;subst h1_0p;have eq3:h1_1p=h1_1:=eq3;subst h1_1p;have eq4:h1_2p=h1_2:=eq4;subst h1_2p;have eq5:h2_0p=h2_0:=eq5;subst h2_0p;exact mpr_of (by kernel_rfl) ((congrArg (fun k=>klx r0 (fun s:Int×Int×Int×Int×Int×Int×Int×Int×Int×Int×Unit=>((s.1=s0∧s.2.1=s6∧s.2.2.2.2.2.2.1=h1_0∧s.2.2.2.2.2.2.2.1=h1_1∧s.2.2.2.2.2.2.2.2.1=h1_2∧s.2.2.2.2.2.2.2.2.2.1=h2_0)∧inv s.2.2.1 s.2.2.2.1 s.2.2.2.2.1 s.2.2.2.2.2.1)∧μ s.2.2.1 s.2.2.2.1 s.2.2.2.2.1 s.2.2.2.2.2.1<μ s17p h0_0p h0_1p h0_2p) k s0 s6 h1_0 h1_1 h1_2 h2_0 s17p h0_0p h0_1p h0_2p) (lpk4 (⟨rfl,rfl,rfl,rfl,rfl,rfl⟩:s0=s0∧s6=s6∧h1_0=h1_0∧h1_1=h1_1∧h1_2=h1_2∧h2_0=h2_0) inv (fun s17q h0_0q h0_1q h0_2q=>μ s17q h0_0q h0_1q h0_2q<μ s17p h0_0p h0_1p h0_2p))).mpr (hs s17p h0_0p h0_1p h0_2p hi))⟩⟩
def km1 (r0:TA3) (nx2:NX TB k1d) (k1:Int→Int→Int→Int→Prop) (s0:Int) (s6:Int) (s7:Int) (s17:Int) (h1_0:Int) (h1_1:Int) (h1_2:Int) (h2_0:Int) (s20:Int) (h0_0:Int) (h0_1:Int) (h0_2:Int):Prop:=
(decide (s20<3)=true→
(0≤s20∧s20<(3:Int))∧(0≤s20∧s20<(3:Int))∧(s0=18446744069414584321∧(0≤s7∧s7<8)∧0≤s20∧s20<3)∧((TField.mk h2_0).P=18446744069414584321∧U64 (ix [h0_0,h0_1,h0_2] s20)∧U64 (rc s7 s20))∧let r1:Int:=(((ix [h0_0,h0_1,h0_2] s20)+(rc s7 s20))%18446744069414584321)
((TField.mk h2_0).P=18446744069414584321∧U64 r1∧U64 s6)∧(0≤s20∧s20<(3:Int))∧(0≤s20∧s20<(3:Int))∧k1 (IntKind.i64.wrap (s20+1):Int) ((bif decide (s20=(0:Int))then(pw (r1%18446744069414584321) s6)else h0_0):Int) ((bif decide (s20=(1:Int))then(pw (r1%18446744069414584321) s6)else h0_1):Int) ((bif decide (s20=(2:Int))then(pw (r1%18446744069414584321) s6)else h0_2):Int))∧
(decide (s20<3)=false→
(s0=18446744069414584321∧S3 (TA3.mk h0_0 h0_1 h0_2))∧nx2 (s0,s6,(IntKind.i64.wrap (s17+1):Int),((mixS (TA3.mk h0_0 h0_1 h0_2)).a0:Int),((mixS (TA3.mk h0_0 h0_1 h0_2)).a1:Int),((mixS (TA3.mk h0_0 h0_1 h0_2)).a2:Int),h1_0,h1_1,h1_2,h2_0,()))
theorem kvm {r0:TA3} {nx2:NX TB k1d} {s0:Int} {s6:Int} {s7:Int} {s17:Int} {h1_0:Int} {h1_1:Int} {h1_2:Int} {h2_0:Int} {s20:Int} {h0_0:Int} {h0_1:Int} {h0_2:Int} (inv:Int→Int→Int→Int→Prop) (μ:Int→Int→Int→Int→Nat) (h0:inv s20 h0_0 h0_1 h0_2) (hs:∀(s20:Int) (h0_0:Int) (h0_1:Int) (h0_2:Int),inv s20 h0_0 h0_1 h0_2→km1 r0 nx2 (fun s20q h0_0q h0_1q h0_2q=>inv s20q h0_0q h0_1q h0_2q∧μ s20q h0_0q h0_1q h0_2q<μ s20 h0_0 h0_1 h0_2) s0 s6 s7 s17 h1_0 h1_1 h1_2 h2_0 s20 h0_0 h0_1 h0_2):Md.Loop (s0,s6,s7,s17,s20,h0_0,h0_1,h0_2,h1_0,h1_1,h1_2,h2_0,()) (k7v (r0.a0,r0.a1,r0.a2,()) nx2):=
 ⟨⟨fun s:Int×Int×Int×Int×Int×Int×Int×Int×Int×Int×Int×Int×Unit=>(s.1=s0∧s.2.1=s6∧s.2.2.1=s7∧s.2.2.2.1=s17∧s.2.2.2.2.2.2.2.2.1=h1_0∧s.2.2.2.2.2.2.2.2.2.1=h1_1∧s.2.2.2.2.2.2.2.2.2.2.1=h1_2∧s.2.2.2.2.2.2.2.2.2.2.2.1=h2_0)∧inv s.2.2.2.2.1 s.2.2.2.2.2.1 s.2.2.2.2.2.2.1 s.2.2.2.2.2.2.2.1,fun s:Int×Int×Int×Int×Int×Int×Int×Int×Int×Int×Int×Int×Unit=>μ s.2.2.2.2.1 s.2.2.2.2.2.1 s.2.2.2.2.2.2.1 s.2.2.2.2.2.2.2.1,⟨⟨rfl,rfl,rfl,rfl,rfl,rfl,rfl,rfl⟩,h0⟩,fun(s0p,s6p,s7p,s17p,s20p,h0_0p,h0_1p,h0_2p,h1_0p,h1_1p,h1_2p,h2_0p,()) ⟨⟨eq0,eq1,eq2,eq3,eq4,eq5,eq6,eq7⟩,hi⟩=>by
  have eq0:s0p=s0:=eq0;subst s0p;have eq1:s6p=s6:=eq1;subst s6p;have eq2:s7p=s7:=eq2;subst s7p;have eq3:s17p=s17:=eq3;subst s17p;have eq4:h1_0p=h1_0:=eq4;subst h1_0p;have eq5:h1_1p=h1_1:=eq5;subst h1_1p;have eq6:h1_2p=h1_2:=eq6;subst h1_2p;have eq7:h2_0p=h2_0:=eq7;subst h2_0p;exact mpr_of (by kernel_rfl) ((congrArg (fun k=>km1 r0 nx2 k s0 s6 s7 s17 h1_0 h1_1 h1_2 h2_0 s20p h0_0p h0_1p h0_2p) (lpk4 (⟨rfl,rfl,rfl,rfl,rfl,rfl,rfl,rfl⟩:s0=s0∧s6=s6∧s7=s7∧s17=s17∧h1_0=h1_0∧h1_1=h1_1∧h1_2=h1_2∧h2_0=h2_0) inv (fun s20q h0_0q h0_1q h0_2q=>μ s20q h0_0q h0_1q h0_2q<μ s20p h0_0p h0_1p h0_2p))).mpr (hs s20p h0_0p h0_1p h0_2p hi))⟩⟩
theorem bd54:Callable Try.prog 54:=⟨by rw[Try.func54];kernel_rfl,by rw[Try.func54];show some _≠some _;decide⟩
theorem kux (p0:Int) (p1:TA3) (h:p0=18446744069414584321∧S3 p1):kc4 (p0,p1.a0,p1.a1,p1.a2,()) (((permS p1).a0:Int),((permS p1).a1:Int),((permS p1).a2:Int),()):=by
 obtain⟨hP,hs⟩:=h
 subst hP
 refine kwu ⟨rfl,fun h=>by simp at h,fun _=>⟨rfl,?_⟩⟩
 refine kv9 (r0:=permS p1) (fun n a b c=>0≤n∧n≤8∧(⟨a,b,c⟩:TA3)=rnds n.toNat p1∧S3 ⟨a,b,c⟩) (fun n _ _ _=>(8-n).toNat) ⟨by omega,by omega,rfl,hs⟩ ?_
 rintro n a b c ⟨g0,g1,g2,g3⟩
 refine⟨fun h=> ?_,fun h=> ?_⟩
 ·have h:=of_decide_eq_true h
  refine kvm (r0:=permS p1) (fun i x y z=>(i=0∧x=a∧y=b∧z=c)∨(i=1∧x=pw ((a+rc n 0)%18446744069414584321) 7∧y=b∧z=c)∨(i=2∧x=pw ((a+rc n 0)%18446744069414584321) 7∧y=pw ((b+rc n 1)%18446744069414584321) 7∧z=c)∨(i=3∧x=pw ((a+rc n 0)%18446744069414584321) 7∧y=pw ((b+rc n 1)%18446744069414584321) 7∧z=pw ((c+rc n 2)%18446744069414584321) 7)) (fun i _ _ _=>(3-i).toNat) (.inl ⟨rfl,rfl,rfl,rfl⟩) ?_
  intro i x y z hi
  have hrc:∀k,U64 (rc n k):=fun k=>by unfold rc;omega
  have hpw:∀k e,0≤pw k e∧pw k e<18446744069414584321:=fun k e=>⟨Int.emod_nonneg _ (by omega),Int.emod_lt_of_pos _ (by omega)⟩
  obtain⟨h3a,h3b,h3c⟩:=g3
  refine⟨fun hh=> ?_,fun hh=> ?_⟩
  ·have hh:=of_decide_eq_true hh
   rcases hi with⟨rfl,rfl,rfl,rfl⟩|⟨rfl,rfl,rfl,rfl⟩|⟨rfl,rfl,rfl,rfl⟩|⟨rfl,_⟩
   ·refine⟨by omega,by omega,⟨rfl,by omega,by omega⟩,⟨rfl,h3a,hrc _⟩,⟨rfl,?_,by omega⟩,by omega,by omega,.inr (.inl ⟨rfl,?_,rfl,rfl⟩),by decide⟩
    ·exact⟨Int.emod_nonneg _ (by omega),Int.lt_trans (Int.emod_lt_of_pos _ (by omega)) (by omega)⟩
    ·show pw ((x+rc n 0)%18446744069414584321%18446744069414584321) 7=_
     rw[Int.emod_emod_of_dvd _ (Int.dvd_refl _)]
   ·refine⟨by omega,by omega,⟨rfl,by omega,by omega⟩,⟨rfl,h3b,hrc _⟩,⟨rfl,?_,by omega⟩,by omega,by omega,.inr (.inr (.inl ⟨rfl,rfl,?_,rfl⟩)),by decide⟩
    ·exact⟨Int.emod_nonneg _ (by omega),Int.lt_trans (Int.emod_lt_of_pos _ (by omega)) (by omega)⟩
    ·show pw ((y+rc n 1)%18446744069414584321%18446744069414584321) 7=_
     rw[Int.emod_emod_of_dvd _ (Int.dvd_refl _)]
   ·refine⟨by omega,by omega,⟨rfl,by omega,by omega⟩,⟨rfl,h3c,hrc _⟩,⟨rfl,?_,by omega⟩,by omega,by omega,.inr (.inr (.inr ⟨rfl,rfl,rfl,?_⟩)),by decide⟩
    ·exact⟨Int.emod_nonneg _ (by omega),Int.lt_trans (Int.emod_lt_of_pos _ (by omega)) (by omega)⟩
    ·show pw ((z+rc n 2)%18446744069414584321%18446744069414584321) 7=_
     rw[Int.emod_emod_of_dvd _ (Int.dvd_refl _)]
   ·omega
  ·have hh:=of_decide_eq_false hh
   rcases hi with⟨rfl,_⟩|⟨rfl,_⟩|⟨rfl,_⟩|⟨rfl,rfl,rfl,rfl⟩
   ·omega
   ·omega
   ·omega
   ·have e:rnds (n+1).toNat p1=rnd ⟨a,b,c⟩ n:=by
     rw[show(n+1).toNat=n.toNat+1 by omega]
     show rnd (rnds n.toNat p1) (n.toNat:Int)=_
     rw[←g2,show(n.toNat:Int)=n by omega]
    have hS:S3 (rnds (n+1).toNat p1):=by
     rw[e]
     unfold rnd mixS S3
     dsimp only
     omega
    have hinc:IntKind.i64.wrap (n+1)=n+1:=wi _ (by omega) (by omega)
    rw[hinc]
    refine⟨⟨rfl,by unfold S3;have:=hpw ((a+rc n 0)%18446744069414584321) 7;have:=hpw ((b+rc n 1)%18446744069414584321) 7;have:=hpw ((c+rc n 2)%18446744069414584321) 7;dsimp only;omega⟩,⟨⟨rfl,rfl,rfl,rfl,rfl,rfl⟩,(?_:0≤n+1∧n+1≤8∧_∧_)⟩,(?_:(8-(n+1)).toNat<(8-n).toNat)⟩
    ·refine⟨by omega,by omega,e.symm,?_⟩
     rw[e]at hS
     exact hS
    ·omega
 ·have h:=of_decide_eq_false h
  rw[show n=8 by omega]at g2
  have g2:(⟨a,b,c⟩:TA3)=permS p1:=g2
  rw[←g2]
  exact⟨rfl,rfl,rfl⟩
noncomputable def kke:Con TB.den:=k24.fnR (fun x=>(fun(p0:Int) (p1:TA3)=>p0=18446744069414584321∧S3 p1) x.1 (TA3.mk x.2.1 x.2.2.1 x.2.2.2.1)) fun x=>((fun(p0:Int) (p1:TA3)=>((permS p1).a0:Int)) x.1 (TA3.mk x.2.1 x.2.2.1 x.2.2.2.1),(fun(p0:Int) (p1:TA3)=>((permS p1).a1:Int)) x.1 (TA3.mk x.2.1 x.2.2.1 x.2.2.2.1),(fun(p0:Int) (p1:TA3)=>((permS p1).a2:Int)) x.1 (TA3.mk x.2.1 x.2.2.1 x.2.2.2.1),())
theorem kx1:kke.Ok Try.prog TB:=Con.ok_fn k24 bd54 fun x h=>kv8 (kux x.1 (TA3.mk x.2.1 x.2.2.1 x.2.2.2.1) h)
def k3v:Con TB.den:=Con.mk0 45 [.one (.d (.int .u64)),.one (.d (.int .u64)),.one (.d (.sl (.int .u64)))] [] (.one (.agg [.d (.int .u64),.d (.int .u64),.d (.int .u64)])) []
abbrev kvu:=HL TB.den (hsT k3v.ins (hsOs k3v.pre))
abbrev k3q:=HL TB.den (hsV k3v.res (hsOs k3v.post))
noncomputable def k5h:Cx TB:=⟨inf,[kz9,km6,kke],[],4,[]⟩
noncomputable def k7c:Code:=Try.f45.body.getD .skip
noncomputable def kg5:List ResultVar:=Try.f45.results.toList
def k149 (o:k3q):=qS TB k5h 61 0 (cB (cB (cB (cB (cB k7c))))) .no (retTQ TB k5h k3v kg5 o)
def k3b:Tm:=⟨[0,1,38],[.cells [.d (.int .u64),.d (.int .u64),.d (.int .u64)],.cells [.d (.int .u64)],.cells [.d (.int .u64),.d (.int .u64),.d (.int .u64)]],[0,2,6,7,8,9],[.one (.d (.int .u64)),.one (.d (.sl (.int .u64))),.one (.ptr 0 0),.one (.ptr 1 0),.one (.ptr 2 0),.one (.d (.int .i64))],46⟩
def kup (o:k3q) (nx1:NX TB k3b):=qM TB 0 k3b nx1 (blockT TB 0 (k149 o))
def k156 (o:k3q) (nx1:NX TB k3b):=qS TB k5h 61 0 (cB (cB (cA (cA (cB (cA (cB (cB (cB (cB k7c)))))))))) .no (kup o nx1)
def ke6:Tm:=⟨[0,1,38],[.cells [.d (.int .u64),.d (.int .u64),.d (.int .u64)],.cells [.d (.int .u64)],.cells [.d (.int .u64),.d (.int .u64),.d (.int .u64)]],[0,2,6,7,8,9],[.one (.d (.int .u64)),.one (.d (.sl (.int .u64))),.one (.ptr 0 0),.one (.ptr 1 0),.one (.ptr 2 0),.one (.d (.int .i64))],86⟩
def kss (o:k3q) (nx1:NX TB k3b) (i:HL TB.den ke6.hs):Prop:=ghs TB [] (ke6.fill TB i) fun s=>WP TB k5h 61 0 (cB (cB (cA (cA (cB (cA (cA (cB (cA (cB (cB (cB (cB k7c))))))))))))) .no s (blockT TB 1 (k156 o nx1))
structure k9g (o:k3q) (nx1:NX TB k3b) (i:HL TB.den ke6.hs):Prop where
 h:kss o nx1 i
noncomputable def kuw (o:k3q) (nx1:NX TB k3b):An TB:= .nd [] .no [] (.jn ke6 (k9g o nx1) [] .no [] .no)
def kbz (o:k3q) (nx1:NX TB k3b) (i:HL TB.den k3b.hs):Prop:=WP TB k5h 61 0 (cA (cA (cB (cA (cB (cB (cB (cB k7c)))))))) (.nd [] .no [] (.nd [] (kuw o nx1) [] .no)) (k3b.fill TB i) (kup o nx1)
noncomputable def k150 (o:k3q):An TB:= .lp [] k3b (kbz o) fun nx1=>(.nd [] .no [] (.nd [] (kuw o nx1) [] .no))
noncomputable def k148 (o:k3q):An TB:= .nd [] .no [] (.nd [] (.nd [] .no [] (k150 o)) [] .no)
noncomputable def ktn (o:k3q):An TB:= .nd [] .no [] (.nd [] .no [] (.nd [] .no [] (k148 o)))
def kj2 (x:kvu) (o:k3q):Prop:=WPh TB k5h 61 0 k7c (ktn o) (k3v.st TB x) (retTQ TB k5h k3v kg5 o)
theorem k12g (o:k3q):OblH TB k5h 61 0 k7c (ktn o) (retTQ TB k5h k3v kg5 o):=
 OblH.ofC (X:=((∀nx i,(kbz o) nx i=(kbz o) nx i)∧(∀nx1:NX TB k3b,((∀i,(k9g o nx1) i=kss o nx1 i)∧True))∧True)) (by kernel_rfl) ⟨fun _ _=>rfl,fun _=>⟨fun _=>propext ⟨fun h=>h.1,fun h=>⟨h⟩⟩,trivial⟩,trivial⟩
theorem k133 {x:kvu} {o:k3q} (h:kj2 x o):k3v.Snd Try.prog x o:=
 Con.soundH (c:=k3v) (C:=k5h) TBok ⟨inf_ok,(all_cons k1cp (all_cons kv0 (all_cons kx1 all_nil))),all_nil⟩ mix Try.func45 (show Try.f45.body=some k7c by kernel_rfl) (show Try.f45.ntmps=61 by kernel_rfl) (show Try.f45.results.toList=kg5 by kernel_rfl) rfl h (k12g o)
theorem k14b {p0:Int} {p1:Int} {p2:List Int} {r0:TA3} (h:
(((TField.mk p0).P=18446744069414584321∧U64 p1∧U64 (65536:Int))∧let r1:Int:=(p1*(65536:Int)%18446744069414584321)
((TField.mk p0).P=18446744069414584321∧U64 r1∧U64 (IntKind.u64.wrap (p2.length:Int)))∧let r2:Int:=((r1+(IntKind.u64.wrap (p2.length:Int)))%18446744069414584321)
(((p2.length:Int)==0)=true→
(p0=18446744069414584321∧S3 (TA3.mk 0 0 r2))∧(permS (TA3.mk 0 0 r2)).a0=r0.a0∧(permS (TA3.mk 0 0 r2)).a1=r0.a1∧(permS (TA3.mk 0 0 r2)).a2=r0.a2)∧
(((p2.length:Int)==0)=false→
 Md.Loop (p0,p2,(0:Int),(0:Int),(0:Int),(0:Int),p0,(0:Int),(0:Int),r2,()) (kbz (r0.a0,r0.a1,r0.a2,()))))):kj2 (p0,p1,p2,()) (r0.a0,r0.a1,r0.a2,()):=WPh.of_eq (by kernel_rfl) h
theorem k10j {r0:TA3} {nx1:NX TB k3b} {s0:Int} {s2:List Int} {s9:Int} {h0_0:Int} {h0_1:Int} {h0_2:Int} {h1_0:Int} {h38_0:Int} {h38_1:Int} {h38_2:Int} (h:
((s0=18446744069414584321∧S3 (TA3.mk h38_0 h38_1 h38_2))∧nx1 (s0,s2,(IntKind.i64.wrap (s9+2):Int),h0_0,h0_1,h0_2,h1_0,((permS (TA3.mk h38_0 h38_1 h38_2)).a0:Int),((permS (TA3.mk h38_0 h38_1 h38_2)).a1:Int),((permS (TA3.mk h38_0 h38_1 h38_2)).a2:Int),()))):k9g (r0.a0,r0.a1,r0.a2,()) nx1 (s0,s2,s9,h0_0,h0_1,h0_2,h1_0,h38_0,h38_1,h38_2,()):=⟨mpr_of (by kernel_rfl) h⟩
def ktw (r0:TA3) (nx1:NX TB k3b) (k1:Int→Int→Int→Int→Prop) (s0:Int) (s2:List Int) (h0_0:Int) (h0_1:Int) (h0_2:Int) (h1_0:Int) (s9:Int) (h38_0:Int) (h38_1:Int) (h38_2:Int):Prop:=
(decide (s9<(s2.length:Int))=true→
(0≤s9)∧s9<(s2.length:Int)∧((TField.mk h1_0).P=18446744069414584321∧U64 h38_0∧U64 (ix s2 s9))∧let r3:Int:=((h38_0+(ix s2 s9))%18446744069414584321)
 let v4:Bool:=decide ((IntKind.i64.wrap (s9+1))<(s2.length:Int))
(v4=true→
(0≤IntKind.i64.wrap (s9+1))∧IntKind.i64.wrap (s9+1)<(s2.length:Int)∧((TField.mk h1_0).P=18446744069414584321∧U64 h38_1∧U64 (ix s2 (IntKind.i64.wrap (s9+1))))∧let r5:Int:=((h38_1+(ix s2 (IntKind.i64.wrap (s9+1))))%18446744069414584321)
 k9g (r0.a0,r0.a1,r0.a2,()) nx1 (s0,s2,s9,h0_0,h0_1,h0_2,h1_0,r3,r5,h38_2,()))∧
(v4=false→
 k9g (r0.a0,r0.a1,r0.a2,()) nx1 (s0,s2,s9,h0_0,h0_1,h0_2,h1_0,r3,h38_1,h38_2,())))∧
(decide (s9<(s2.length:Int))=false→
 h38_0=r0.a0∧h38_1=r0.a1∧h38_2=r0.a2)
theorem k12a {r0:TA3} {s0:Int} {s2:List Int} {h0_0:Int} {h0_1:Int} {h0_2:Int} {h1_0:Int} {s9:Int} {h38_0:Int} {h38_1:Int} {h38_2:Int} (inv:Int→Int→Int→Int→Prop) (μ:Int→Int→Int→Int→Nat) (h0:inv s9 h38_0 h38_1 h38_2) (hs:∀(s9:Int) (h38_0:Int) (h38_1:Int) (h38_2:Int),inv s9 h38_0 h38_1 h38_2→ktw r0 (fun s:Int×(List Int)×Int×Int×Int×Int×Int×Int×Int×Int×Unit=>((s.1=s0∧s.2.1=s2∧s.2.2.2.1=h0_0∧s.2.2.2.2.1=h0_1∧s.2.2.2.2.2.1=h0_2∧s.2.2.2.2.2.2.1=h1_0)∧inv s.2.2.1 s.2.2.2.2.2.2.2.1 s.2.2.2.2.2.2.2.2.1 s.2.2.2.2.2.2.2.2.2.1)∧μ s.2.2.1 s.2.2.2.2.2.2.2.1 s.2.2.2.2.2.2.2.2.1 s.2.2.2.2.2.2.2.2.2.1<μ s9 h38_0 h38_1 h38_2) (fun s9q h38_0q h38_1q h38_2q=>inv s9q h38_0q h38_1q h38_2q∧μ s9q h38_0q h38_1q h38_2q<μ s9 h38_0 h38_1 h38_2) s0 s2 h0_0 h0_1 h0_2 h1_0 s9 h38_0 h38_1 h38_2):Md.Loop (s0,s2,s9,h0_0,h0_1,h0_2,h1_0,h38_0,h38_1,h38_2,()) (kbz (r0.a0,r0.a1,r0.a2,())):=
 ⟨⟨fun s:Int×(List Int)×Int×Int×Int×Int×Int×Int×Int×Int×Unit=>(s.1=s0∧s.2.1=s2∧s.2.2.2.1=h0_0∧s.2.2.2.2.1=h0_1∧s.2.2.2.2.2.1=h0_2∧s.2.2.2.2.2.2.1=h1_0)∧inv s.2.2.1 s.2.2.2.2.2.2.2.1 s.2.2.2.2.2.2.2.2.1 s.2.2.2.2.2.2.2.2.2.1,fun s:Int×(List Int)×Int×Int×Int×Int×Int×Int×Int×Int×Unit=>μ s.2.2.1 s.2.2.2.2.2.2.2.1 s.2.2.2.2.2.2.2.2.1 s.2.2.2.2.2.2.2.2.2.1,⟨⟨rfl,rfl,rfl,rfl,rfl,rfl⟩,h0⟩,fun(s0p,s2p,s9p,h0_0p,h0_1p,h0_2p,h1_0p,h38_0p,h38_1p,h38_2p,()) ⟨⟨eq0,eq1,eq2,eq3,eq4,eq5⟩,hi⟩=>by
  have eq0:s0p=s0:=eq0;subst s0p;have eq1:s2p=s2:=eq1;subst s2p;have eq2:h0_0p=h0_0:=eq2;subst h0_0p;have eq3:h0_1p=h0_1:=eq3;subst h0_1p;have eq4:h0_2p=h0_2:=eq4;subst h0_2p;have eq5:h1_0p=h1_0:=eq5;subst h1_0p;exact mpr_of (by kernel_rfl) ((congrArg (fun k=>ktw r0 (fun s:Int×(List Int)×Int×Int×Int×Int×Int×Int×Int×Int×Unit=>((s.1=s0∧s.2.1=s2∧s.2.2.2.1=h0_0∧s.2.2.2.2.1=h0_1∧s.2.2.2.2.2.1=h0_2∧s.2.2.2.2.2.2.1=h1_0)∧inv s.2.2.1 s.2.2.2.2.2.2.2.1 s.2.2.2.2.2.2.2.2.1 s.2.2.2.2.2.2.2.2.2.1)∧μ s.2.2.1 s.2.2.2.2.2.2.2.1 s.2.2.2.2.2.2.2.2.1 s.2.2.2.2.2.2.2.2.2.1<μ s9p h38_0p h38_1p h38_2p) k s0 s2 h0_0 h0_1 h0_2 h1_0 s9p h38_0p h38_1p h38_2p) (lpk4 (⟨rfl,rfl,rfl,rfl,rfl,rfl⟩:s0=s0∧s2=s2∧h0_0=h0_0∧h0_1=h0_1∧h0_2=h0_2∧h1_0=h1_0) inv (fun s9q h38_0q h38_1q h38_2q=>μ s9q h38_0q h38_1q h38_2q<μ s9p h38_0p h38_1p h38_2p))).mpr (hs s9p h38_0p h38_1p h38_2p hi))⟩⟩
theorem bd45:Callable Try.prog 45:=⟨by rw[Try.func45];kernel_rfl,by rw[Try.func45];show some _≠some _;decide⟩
theorem k10v (p0:Int) (p1:Int) (p2:List Int) (h:p0=18446744069414584321∧U64 p1∧Us p2∧p2.length≤1099511627776):kj2 (p0,p1,p2,()) (((absS p1 p2).a0:Int),((absS p1 p2).a1:Int),((absS p1 p2).a2:Int),()):=by
 obtain⟨hP,h1,h2,h3⟩:=h
 subst hP
 have hp:∀s:TA3,S3 (permS s):=fun s=>by
  show S3 (rnd _ _)
  unfold rnd mixS S3
  dsimp only
  omega
 have hi:S3 (absI p1 p2):=by unfold absI S3;dsimp only;omega
 have e:IntKind.u64.wrap (p2.length:Int)=p2.length:=wu _ (by omega) (by omega)
 have em:(p1*65536%18446744069414584321+(p2.length:Int))%18446744069414584321=(absI p1 p2).a2:=rfl
 refine k14b ?_
 rw[e]
 refine⟨⟨rfl,h1,by omega⟩,⟨rfl,by omega,by omega⟩,fun h=> ?_,fun h=> ?_⟩
 ·have h:p2=[]:=by simpa using h
  refine⟨⟨rfl,?_⟩,?_⟩
  ·exact hi
  ·have:permS ⟨0,0,(p1*65536%18446744069414584321+(p2.length:Int))%18446744069414584321⟩=absS p1 p2:=by unfold absS;rw[if_pos h];rfl
   rw[this]
   exact⟨rfl,rfl,rfl⟩
 ·have h:p2≠[]:=by simpa using h
  have hv:absL p2 (absI p1 p2)=absS p1 p2:=by unfold absS;rw[if_neg h]
  rw[em]
  refine k12a (r0:=absS p1 p2) (fun i a b c=>0≤i∧i≤p2.length+1∧absL (p2.drop i.toNat) ⟨a,b,c⟩=absS p1 p2∧S3 ⟨a,b,c⟩) (fun i _ _ _=>(p2.length+2-i).toNat) ⟨by omega,by omega,hv,hi⟩ ?_
  rintro i a b c ⟨g0,g1,g2,g3⟩
  obtain⟨h3a,h3b,h3c⟩:=g3
  refine⟨fun hh=> ?_,fun hh=> ?_⟩
  ·have hh:=of_decide_eq_true hh
   have hx:=h2 _ (ix_mem p2 i g0 hh)
   rw[wi (i+1) (by omega) (by omega)]
   have fin:∀nx x y z,S3 ⟨x,y,z⟩→absL (p2.drop (i+2).toNat) (permS ⟨x,y,z⟩)=absS p1 p2→(0≤i+2∧i+2≤p2.length+1∧absL (p2.drop (i+2).toNat) (permS ⟨x,y,z⟩)=absS p1 p2∧S3 (permS ⟨x,y,z⟩)→(p2.length+2-(i+2)).toNat<(p2.length+2-i).toNat→nx ((18446744069414584321:Int),p2,(i+2:Int),(0:Int),(0:Int),(0:Int),(18446744069414584321:Int),(permS ⟨x,y,z⟩).a0,(permS ⟨x,y,z⟩).a1,(permS ⟨x,y,z⟩).a2,()))→k9g ((absS p1 p2).a0,(absS p1 p2).a1,(absS p1 p2).a2,()) nx ((18446744069414584321:Int),p2,i,(0:Int),(0:Int),(0:Int),(18446744069414584321:Int),x,y,z,()):=by
    intro nx x y z hS hv' hn
    refine k10j (r0:=absS p1 p2) ?_
    rw[wi (i+2) (by omega) (by omega)]
    exact⟨⟨rfl,hS⟩,hn ⟨by omega,by omega,hv',hp _⟩ (by omega)⟩
   have hdrop:=drop_ix p2 i g0 hh
   rw[hdrop]at g2
   refine⟨g0,hh,⟨rfl,h3a,hx⟩,fun h5=> ?_,fun h5=> ?_⟩
   ·have h5:=of_decide_eq_true h5
    have hy:=h2 _ (ix_mem p2 (i+1) (by omega) h5)
    rw[drop_ix p2 (i+1) (by omega) h5,show i+1+1=i+2 by omega]at g2
    refine⟨by omega,h5,⟨rfl,h3b,hy⟩,fin _ _ _ _ (S3m (by omega) (by omega) h3c) g2 fun k1 k2=>⟨⟨⟨rfl,rfl,rfl,rfl,rfl,rfl⟩,k1⟩,k2⟩⟩
   ·have h5:=of_decide_eq_false h5
    have ed:p2.drop (i+1).toNat=[]:=List.drop_eq_nil_of_le (by omega)
    have ed2:p2.drop (i+2).toNat=[]:=List.drop_eq_nil_of_le (by omega)
    rw[ed]at g2
    exact fin _ _ _ _ (S3m (by omega) h3b h3c) (by rw[ed2];exact g2) fun k1 k2=>⟨⟨⟨rfl,rfl,rfl,rfl,rfl,rfl⟩,k1⟩,k2⟩
  ·have hh:=of_decide_eq_false hh
   rw[List.drop_eq_nil_of_le (by omega)]at g2
   have g2:(⟨a,b,c⟩:TA3)=absS p1 p2:=g2
   rw[←g2]
   exact⟨rfl,rfl,rfl⟩
noncomputable def kst:Con TB.den:=k3v.fnR (fun x=>(fun(p0:Int) (p1:Int) (p2:List Int)=>p0=18446744069414584321∧U64 p1∧Us p2∧p2.length≤1099511627776) x.1 x.2.1 x.2.2.1) fun x=>((fun(p0:Int) (p1:Int) (p2:List Int)=>((absS p1 p2).a0:Int)) x.1 x.2.1 x.2.2.1,(fun(p0:Int) (p1:Int) (p2:List Int)=>((absS p1 p2).a1:Int)) x.1 x.2.1 x.2.2.1,(fun(p0:Int) (p1:Int) (p2:List Int)=>((absS p1 p2).a2:Int)) x.1 x.2.1 x.2.2.1,())
theorem k159:kst.Ok Try.prog TB:=Con.ok_fn k3v bd45 fun x h=>k133 (k10v x.1 x.2.1 x.2.2.1 h)
def k5z:Con TB.den:=Con.mk0 35 [.one (.d (.int .u64)),.one (.d (.int .u64)),.one (.d (.sl (.int .u64)))] [] (.one (.one (.d (.int .u64)))) []
abbrev kzh:=HL TB.den (hsT k5z.ins (hsOs k5z.pre))
abbrev km8:=HL TB.den (hsV k5z.res (hsOs k5z.post))
noncomputable def kfd:Cx TB:=⟨inf,[k8s,kst],[],4,[]⟩
noncomputable def kmv:Code:=Try.f35.body.getD .skip
noncomputable def kqa:List ResultVar:=Try.f35.results.toList
noncomputable def ky1 (o:km8):An TB:= .no
def kmo (x:kzh) (o:km8):Prop:=WPh TB kfd 16 0 kmv (ky1 o) (k5z.st TB x) (retTQ TB kfd k5z kqa o)
theorem k16e (o:km8):OblH TB kfd 16 0 kmv (ky1 o) (retTQ TB kfd k5z kqa o):=
 OblH.ofC (X:=True) (by kernel_rfl) trivial
theorem k16x {x:kzh} {o:km8} (h:kmo x o):k5z.Snd Try.prog x o:=
 Con.soundH (c:=k5z) (C:=kfd) TBok ⟨inf_ok,(all_cons kbo (all_cons k159 all_nil)),all_nil⟩ mix Try.func35 (show Try.f35.body=some kmv by kernel_rfl) (show Try.f35.ntmps=16 by kernel_rfl) (show Try.f35.results.toList=kqa by kernel_rfl) rfl h (k16e o)
theorem k17q {p0:Int} {p1:Int} {p2:List Int} {r0:Int} (h:
(((TField.mk p0).P=18446744069414584321)∧((!true)=true→
 0=r0)∧
((!true)=false→
(p0=18446744069414584321∧U64 p1∧Us p2∧p2.length≤1099511627776)∧(absS p1 p2).a0=r0))):kmo (p0,p1,p2,()) (r0,()):=WPh.of_eq (by kernel_rfl) h
theorem bd35:Callable Try.prog 35:=⟨by rw[Try.func35];kernel_rfl,by rw[Try.func35];show some _≠some _;decide⟩
theorem k13w (p0:Int) (p1:Int) (p2:List Int) (h:p0=18446744069414584321∧U64 p1∧Us p2∧p2.length≤1099511627776):kmo (p0,p1,p2,()) (((hashS p1 p2):Int),()):=by
 obtain⟨hP,h1,h2,h3⟩:=h
 subst hP
 exact k17q ⟨rfl,fun h=>by simp at h,fun _=>⟨⟨rfl,h1,h2,h3⟩,rfl⟩⟩
noncomputable def kol:Con TB.den:=k5z.fnR (fun x=>(fun(p0:Int) (p1:Int) (p2:List Int)=>p0=18446744069414584321∧U64 p1∧Us p2∧p2.length≤1099511627776) x.1 x.2.1 x.2.2.1) fun x=>((fun(p0:Int) (p1:Int) (p2:List Int)=>((hashS p1 p2):Int)) x.1 x.2.1 x.2.2.1,())
theorem ky0:kol.Ok Try.prog TB:=Con.ok_fn k5z bd35 fun x h=>k16x (k13w x.1 x.2.1 x.2.2.1 h)
end Go.Proofs.Ytponaobpcdkggaa
end
