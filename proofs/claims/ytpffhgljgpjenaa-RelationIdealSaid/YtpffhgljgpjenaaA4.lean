/-
  Parts of the proofs that the laws of this seat hold of every input, merged by a program: a machine over pure data that is sound for the model, what each function of the translation does in it, and plain lemmas. No conditions but those in each theorem.
-/
import Derived.Test.YtpffhgljgpjenaaA3
set_option linter.all false
set_option maxRecDepth 100000
noncomputable section
namespace Go.Bv
open Go.RowKit Go.Deep
def limOf (w:World) (b:Nat):Nat:=match w.heap[b]? with
 |some (.cells c _ _)=>c.size
 |_=>0
theorem k1lk {w:World} {b o:Nat} {v:Value} (h:w.cell? ⟨b,o,none⟩=some v):o<limOf w b:=by
 unfold World.cell? at h
 unfold limOf
 simp only at h
 split at h
 ·rename_i c _ _ hh
  rw[hh]
  simp only[Option.isSome_none,Bool.false_eq_true,if_false]at h
  exact(Array.getElem?_eq_some_iff.1 h).1
 ·cases h
def isAggT (P:Program) (e:TypeId):Bool:=match P.underlying e with
 |some (.struct _)=>true
 |some (.array _ _)=>true
 |_=>false
def mkD (P:Program) (e:TypeId) (cs:List D):D:=if isAggT P e then .agg cs else cs.headD (.bool false)
def tiles (P:Program) (tot:Nat):List (TypeId×Nat)→Nat→Bool
 |[],o=>o==tot
 |p::r,o=>p.2==o&&tiles P tot r (o+P.cellsOf p.1)
def fsOf (fs:Array Field):List (TypeId×Nat):=fs.toList.map fun f=>(f.type,f.offset)
def arOf (P:Program) (n:Nat) (e:TypeId):List (TypeId×Nat):=(List.range n).map fun i=>(e,i*P.cellsOf e)
def dataT (P:Program):Nat→TypeId→Bool
 |0,_=>false
 |k+1,t=>match P.underlying t with
  |some .bool=>true
  |some (.int _)=>true
  |some .string=>true
  |some (.slice e)=>decide (0<P.cellsOf e)&&dataT P k e
  |some (.struct fs)=>tiles P (P.cellsOf t) (fsOf fs) 0&&(fsOf fs).all fun p=>dataT P k p.1
  |some (.array n e)=>tiles P (P.cellsOf t) (arOf P n e) 0&&dataT P k e
  |_=>false
def RelFs {H:Type} (R:TypeId→List D→DataW H→Prop):List (TypeId×Nat)→List D→List (DataW H)→Prop
 |[],ds,ps=>ds=[]∧ps=[]
 |t::ts,ds,ps=>∃d1 d2 p qs,R t.1 d1 p∧RelFs R ts d2 qs∧ds=d1++d2∧ps=p::qs
def Rel {H:Type} (P:Program):Nat→TypeId→List D→DataW H→Prop
 |0,_,_,_=>False
 |k+1,t,ds,d=>match P.underlying t with
  |some .bool=>∃b,ds=[.bool b]∧d= .lit (.bool b)
  |some (.int q)=>∃i,ds=[.int q i]∧d= .lit (.int q i)∧(Lit.int q i).wf=true
  |some .string=>∃s:ByteArray,ds=[.str s]∧d= .lit (.string s.data.toList)
  | some (.slice e)=>∃l:List (List D),ds=[.slice (P.cellsOf e) (l.map (mkD P e))]∧l.length≤maxLen∧
    ((l=[]∧d= .nil)∨∃elems spare,d= .slice elems spare∧l.length=elems.length∧∀(j:Nat) (x:List D) (y:DataW H),l[j]? =some x→elems[j]? =some y→Rel P k e x y)
  |some (.struct fs)=>∃ps,d= .agg ps∧RelFs (Rel P k) (fsOf fs) ds ps
  |some (.array n e)=>∃ps,d= .agg ps∧RelFs (Rel P k) (arOf P n e) ds ps
  |_=>False
def Holds (w:World) (cs:List Value) (ds:List D):Prop:=ds.length=cs.length∧∀(j:Nat) (v:Value) (c:D),cs[j]? =some v→ds[j]? =some c→RepD (limOf w) w v c
theorem Holds.append {w:World} {a b:List Value} {x y:List D} (h1:Holds w a x) (h2:Holds w b y):Holds w (a++b) (x++y):=by
 refine⟨by simp[h1.1,h2.1],fun j v c hv hc=> ?_⟩
 by_cases hj:j<a.length
 ·rw[List.getElem?_append_left hj]at hv
  rw[List.getElem?_append_left (by rw[h1.1];exact hj)]at hc
  exact h1.2 j v c hv hc
 ·rw[List.getElem?_append_right (by omega)]at hv
  rw[List.getElem?_append_right (by rw[h1.1];omega),h1.1]at hc
  exact h2.2 _ v c hv hc
theorem Holds.one {w:World} {v:Value} {d:D} (h:RepD (limOf w) w v d):Holds w [v] [d]:=by
 refine⟨rfl,fun j u c hu hc=> ?_⟩
 cases j with
 |zero=>simp at hu hc;subst hu;subst hc;exact h
 |succ j=>simp at hu
section
variable {H:Type} {P:Program} {w:World} {cs:List Value}
theorem k11y {tot:Nat} (htot:cs.length=tot) (ok:Value→Prop) (hok:∀v∈cs,ok v) (R:TypeId→List D→DataW H→Prop) (g:TypeId→List Value→Option (DataW H×List MemPlace)):
  ∀(L:List (TypeId×Nat)) (o:Nat) (xs:List (DataW H×List MemPlace)),tiles P tot L o=true→xs.length=L.length→
   (∀p∈L,∀cs' y,(∀v∈cs',ok v)→g p.1 cs' =some y→∃ds,Holds w cs' ds∧R p.1 ds y.1)→
   (∀(i:Nat) (p:TypeId×Nat),L[i]? =some p→g p.1 ((cs.drop p.2).take (P.cellsOf p.1))=xs[i]?)→
   ∃ds,Holds w (cs.drop o) ds∧RelFs R L ds (xs.map (·.1))
 |[],o,xs,ht,hl,_,_=>by
  simp[tiles]at ht
  have:xs=[]:=by simpa using hl
  subst this
  refine⟨[],⟨?_,?_⟩,rfl,rfl⟩
  ·simp;omega
  ·intro j v c _ hc;simp at hc
 |p::L,o,xs,ht,hl,hg,hx=>by
  simp[tiles]at ht
  obtain⟨h0,ht⟩:=ht
  cases xs with
  |nil=>simp at hl
  |cons y ys=>
   have h1:=hx 0 p rfl
   simp only[List.getElem?_cons_zero]at h1
   obtain⟨d1,hd1,hr1⟩:=hg p (by simp) _ y (fun v hv=>hok v (List.mem_of_mem_drop (List.mem_of_mem_take hv))) h1
   obtain⟨d2,hd2,hr2⟩:=k11y htot ok hok R g L (o+P.cellsOf p.1) ys ht (by simpa using hl) (fun q hq=>hg q (by simp[hq])) (fun i q hq=>by simpa using hx (i+1) q (by simpa using hq))
   refine⟨d1++d2,?_,d1,d2,y.1,_,hr1,hr2,rfl,rfl⟩
   have:=hd1.append hd2
   rw[h0,←List.drop_drop,List.take_append_drop]at this
   exact this
end
section
variable {H:Type} {enc:TypeId×Value→H} {P:Program} {w:World}
theorem rel_mk {k:Nat} {e:TypeId} {x:List D} {d:DataW H} (hr:Rel P k e x d) (h1:∀c∈x,c.one=true):(mkD P e x).cells=x:=by
 cases k with
 |zero=>exact hr.elim
 |succ k=>
  unfold mkD
  split
  ·rfl
  ·rename_i ha
   unfold Rel at hr
   split at hr
   ·obtain⟨b,rfl,_⟩:=hr;rfl
   ·obtain⟨b,rfl,_⟩:=hr;rfl
   ·obtain⟨b,rfl,_⟩:=hr;rfl
   ·obtain⟨b,rfl,_⟩:=hr;rfl
   ·rename_i h;exact absurd (by simp[isAggT,h]) ha
   ·rename_i h;exact absurd (by simp[isAggT,h]) ha
   ·exact hr.elim
theorem kr4:∀(k:Nat) (t:TypeId),dataT P k t=true→∀(n:Nat) (cs:List Value) (y:DataW H×List MemPlace),
  DataW.trod enc P w 0 (fun _=>true) true n t cs=some y→∃ds,Holds w cs ds∧Rel P k t ds y.1
 |0,_,h=>by cases h
 |k+1,t,hT=>by
  intro n cs y h
  unfold dataT at hT
  split at hT
  ·rename_i hu
   obtain⟨b,rfl,rfl⟩:=DataW.trod_bool hu h
   exact⟨[.bool b],Holds.one (.bool b),by simp[Rel,hu]⟩
  ·rename_i q hu
   obtain⟨i,rfl,rfl,hw⟩:=DataW.trod_int hu h
   exact⟨[.int q i],Holds.one (.int q i),by simp[Rel,hu,hw]⟩
  ·rename_i hu
   obtain⟨s,rfl,rfl,hs⟩:=DataW.trod_string hu h
   exact⟨[.str s],Holds.one (.str s),by simp only[Rel,hu];exact⟨s,rfl,rfl⟩⟩
  ·rename_i e hu
   simp only[Bool.and_eq_true,decide_eq_true_eq]at hT
   obtain⟨hpos,hT⟩:=hT
   rcases open_slice hu h with⟨rfl,rfl⟩|⟨a,len,cap,m,n',Dd,Pl,rfl,_,hlc,hcm,hm,rfl,hel⟩
   ·exact⟨[.slice (P.cellsOf e) []],Holds.one (.nil none _),by simp only[Rel,hu];exact⟨[],rfl,Nat.zero_le _,.inl ⟨by trivial,by trivial⟩⟩⟩
   ·simp only[if_true]at hm
    subst hm
    by_cases hm0:m=0
    ·subst hm0
     have hl0:len=0:=by omega
     subst hl0
     refine⟨[.slice (P.cellsOf e) []],Holds.one (.nil (some a) _),?_⟩
     simp only[Rel,hu]
     exact⟨[],rfl,Nat.zero_le _,.inr ⟨_,_,rfl,by simp,by intro j x y hx;simp at hx⟩⟩
    have hel' :∀i,i<len→∃x:List D,∃cs',w.cells? 0 (a.add (i*P.cellsOf e)) (P.cellsOf e)=some cs'∧Holds w cs' x∧Rel P k e x (Dd i):=by
     intro i hi
     obtain⟨cs',h1,h2⟩:=hel i (by omega)
     obtain⟨ds,h3,h4⟩:=kr4 k e hT n' cs' _ h2
     exact⟨ds,cs',h1,h3,h4⟩
    obtain⟨f,hf⟩:=choose_lt hel'
    have hspot:a.spot=none:=by
     obtain⟨cs',h1,h2⟩:=hel 0 (by omega)
     have h3:=(World.cells?_some h1).2.2 0 (by omega)
     have h4:=(World.cells?_some h1).2.1
     rw[List.getElem?_eq_getElem (by omega)]at h3
     unfold World.cell? at h3
     split at h3
     ·split at h3
      ·cases h3
      ·rename_i hs;simpa[Addr.add]using hs
     ·cases h3
    obtain⟨b,off,sp⟩:=a
    simp only at hspot
    subst hspot
    have hone:∀i,i<len→∀c∈f i,c.one=true:=by
     intro i hi c hc
     obtain⟨cs',h1,h2,h3⟩:=hf i hi
     obtain⟨j,hj⟩:=List.getElem?_of_mem hc
     have hjl:j<cs'.length:=by rw[←h2.1];exact(List.getElem?_eq_some_iff.1 hj).1
     exact(h2.2 j _ c (List.getElem?_eq_getElem hjl) hj).done
    have hmk:∀i,i<len→(mkD P e (f i)).cells=f i:=fun i hi=>by
     obtain⟨cs',h1,h2,h3⟩:=hf i hi
     exact rel_mk h3 (hone i hi)
    have hsz:∀d∈((List.range len).map f).map (mkD P e),d.cells.length=P.cellsOf e∧∀c∈d.cells,c.one=true:=by
     intro d hd
     simp only[List.map_map,List.mem_map,List.mem_range,Function.comp]at hd
     obtain⟨i,hi,rfl⟩:=hd
     obtain⟨cs',h1,h2,h3⟩:=hf i hi
     rw[hmk i hi]
     exact⟨by rw[h2.1];exact(World.cells?_some h1).2.1,hone i hi⟩
    have hget:∀i,i<len→(((List.range len).map f).map (mkD P e))[i]? =some (mkD P e (f i)):=by
     intro i hi
     simp[List.getElem?_map,List.getElem?_range hi]
    have hfl:=k23 hsz
    simp only[List.length_map,List.length_range]at hfl
    have hat:∀(j:Nat) (u:Value),((List.range (len*P.cellsOf e)).map fun j=>(w.cell? ⟨b,off+j,none⟩).getD undef)[j]? =some u→j<len*P.cellsOf e∧w.cell? ⟨b,off+j,none⟩=some u:=by
     intro j u hu
     have hj:j<len*P.cellsOf e:=by simpa using(List.getElem?_eq_some_iff.1 hu).1
     refine⟨hj,?_⟩
     simp only[List.getElem?_map,List.getElem?_range hj,Option.map_some,Option.some.injEq]at hu
     have hi:j/P.cellsOf e<len:=by rw[Nat.div_lt_iff_lt_mul hpos];exact hj
     have hr:j%P.cellsOf e<P.cellsOf e:=Nat.mod_lt _ hpos
     obtain⟨cs',h1,h2,h3⟩:=hf _ hi
     have e1:j/P.cellsOf e*P.cellsOf e+j%P.cellsOf e=j:=by rw[Nat.mul_comm];exact Nat.div_add_mod j _
     have h4:=(World.cells?_some h1).2.2 _ hr
     have h5:=(World.cells?_some h1).2.1
     have e2:(Addr.add ⟨b,off,none⟩ (j/P.cellsOf e*P.cellsOf e)).add (j%P.cellsOf e)=⟨b,off+j,none⟩:=by
      rw[add_add,e1]
      simp[Addr.add]
     rw[e2,List.getElem?_eq_getElem (by omega)]at h4
     rw[h4]at hu ⊢
     simpa using hu
    refine⟨[.slice (P.cellsOf e) (((List.range len).map f).map (mkD P e))],Holds.one ?_,?_⟩
    ·have:=RepD.slice (m:=limOf w) (w:=w) b off m (P.cellsOf e) (((List.range len).map f).map (mkD P e)) ((List.range (len*P.cellsOf e)).map fun j=>(w.cell? ⟨b,off+j,none⟩).getD undef) (by simpa using hlc) hcm hsz (by rw[hfl];simp) ?_ ?_
     ·simpa using this
     ·intro j u hu
      obtain⟨hj,hcell⟩:=hat j u hu
      exact⟨k1lk hcell,hcell⟩
     ·intro j u c hu hc
      obtain⟨hj,hcell⟩:=hat j u hu
      have hi:j/P.cellsOf e<len:=by rw[Nat.div_lt_iff_lt_mul hpos];exact hj
      have hr:j%P.cellsOf e<P.cellsOf e:=Nat.mod_lt _ hpos
      obtain⟨cs',h1,h2,h3⟩:=hf _ hi
      have e1:j/P.cellsOf e*P.cellsOf e+j%P.cellsOf e=j:=by rw[Nat.mul_comm];exact Nat.div_add_mod j _
      rw[←e1,kxl hsz (hget _ hi) _ hr,hmk _ hi]at hc
      refine h2.2 _ u c ?_ hc
      rw[←(World.cells?_some h1).2.2 _ hr,←hcell]
      congr 1
      rw[add_add,e1]
      simp[Addr.add]
    ·simp only[Rel,hu]
     refine⟨(List.range len).map f,rfl,by simp;omega,.inr ⟨_,_,rfl,by simp,?_⟩⟩
     intro j x y hx hy
     have hj:j<len:=by simpa using(List.getElem?_eq_some_iff.1 hx).1
     simp only[List.getElem?_map,List.getElem?_range hj,Option.map_some,Option.some.injEq]at hx hy
     subst hx;subst hy
     obtain⟨_,_,_,h3⟩:=hf j hj
     exact h3
  ·rename_i fs hu
   simp only[Bool.and_eq_true]at hT
   obtain⟨xs,n',rfl,rfl,hl,hxl,hx⟩:=DataW.trod_struct hu h
   obtain⟨ds,h1,h2⟩:=k11y (P:=P) hl (fun _=>True) (fun _ _=>trivial) (Rel P k) (fun t c=>DataW.trod enc P w 0 (fun _=>true) true n' t c) (fsOf fs) 0 xs hT.1 (by simp[fsOf,hxl])
    (fun p hp cs' y _ hy=>kr4 k p.1 (List.all_eq_true.1 hT.2 p hp) n' cs' y hy)
    (fun i p hp=>by
     simp only[fsOf,List.getElem?_map,Option.map_eq_some_iff]at hp
     obtain⟨f,hf,rfl⟩:=hp
     exact hx i f (by simpa using hf))
   exact⟨ds,by simpa using h1,by simp only[Rel,hu];exact⟨_,rfl,h2⟩⟩
  ·rename_i m e hu
   simp only[Bool.and_eq_true]at hT
   obtain⟨xs,n',rfl,rfl,hl,hxl,hx⟩:=DataW.trod_array hu h
   obtain⟨ds,h1,h2⟩:=k11y (P:=P) hl (fun _=>True) (fun _ _=>trivial) (Rel P k) (fun t c=>DataW.trod enc P w 0 (fun _=>true) true n' t c) (arOf P m e) 0 xs hT.1 (by simp[arOf,hxl])
    (fun p hp cs' y _ hy=>by
     simp only[arOf,List.mem_map]at hp
     obtain⟨i,_,rfl⟩:=hp
     exact kr4 k e hT.2 n' cs' y hy)
    (fun i p hp=>by
     simp only[arOf,List.getElem?_map,Option.map_eq_some_iff]at hp
     obtain⟨f,hf,rfl⟩:=hp
     obtain⟨hi,rfl⟩:=List.getElem?_eq_some_iff.1 hf
     have hi' :i<m:=by simpa using hi
     simpa using hx i hi')
   exact⟨ds,by simpa using h1,by simp only[Rel,hu];exact⟨_,rfl,h2⟩⟩
  ·cases hT
end
end Go.Bv
namespace Go.Bv
open Go.RowKit Go.ChangeShapes Go.WideShapes
def G0 (W:World):Gh:=⟨fun _=>none,fun _=>none,limOf W⟩
def vOf (P:Program) (t:TypeId) (ds:List D):V:=if isAggT P t then .agg (ds.map V.d)else .d (ds.headD (.bool false))
section
variable {H:Type} {enc:TypeId×Value→H} {P:Program} {W:World}
theorem arg_rep {k:Nat} {r:Reach} {base:Nat} {t:TypeId} {v:Value} {d:DataW H} {ps:List MemPlace} {h:Hp} {nx:Nat} (hT:dataT P k t=true) (hval:Value.okWide P W r base t v)
  (hd:DataW.Trod enc P W 0 (fun _=>true) true t v d ps):∃ds,Rel P k t ds d∧RepV (G0 W) W h nx v (vOf P t ds):=by
 obtain⟨n,hn⟩:=hd
 by_cases ha:isAggT P t=true
 ·have hval' :∃cs,v= .agg cs∧cs.size=P.cellsOf t∧Row.okWide P W r base t cs:=by
   unfold isAggT at ha
   unfold Value.okWide at hval
   split at ha
   ·rename_i h1;rw[h1]at hval;exact hval
   ·rename_i h1;rw[h1]at hval;exact hval
   ·cases ha
  obtain⟨cs,rfl,_,ts,_,_,hc⟩:=hval'
  obtain⟨ds,h1,h2⟩:=kr4 k t hT n cs.toList _ hn
  refine⟨ds,h2,?_⟩
  unfold vOf
  rw[if_pos ha]
  have:=RepV.agg (G:=G0 W) (w:=W) (h:=h) (nx:=nx) cs.toList (ds.map V.d) (by simpa using h1.1.symm) ?_ ?_
  ·simpa using this
  ·intro x hx
   obtain⟨c,hcm,rfl⟩:=List.mem_map.1 hx
   obtain⟨j,hj⟩:=List.getElem?_of_mem hcm
   have hjl:j<cs.toList.length:=by have:=h1.1;have:=(List.getElem?_eq_some_iff.1 hj).1;simp[Value.cells]at *;omega
   exact(h1.2 j _ c (List.getElem?_eq_getElem hjl) hj).done
  ·intro j u x hu hx
   rw[List.getElem?_map,Option.map_eq_some_iff]at hx
   obtain⟨c,hcj,rfl⟩:=hx
   exact .d _ _ (h1.2 j u c hu hcj)
 ·have hval' :Cell.okWide P W r base t v:=by
   unfold Value.okWide at hval
   split at hval
   ·rename_i h1;exact absurd (by simp[isAggT,h1]) ha
   ·rename_i h1;exact absurd (by simp[isAggT,h1]) ha
   ·exact hval
  have hcs:v.cells.toList=[v]:=by
   cases v with
   |agg cs=>
    exfalso
    unfold Cell.okWide Cell.ok at hval'
    split at hval'
    all_goals first|(split at hval';all_goals simp_all)|simp_all
   |_=>rfl
  rw[hcs]at hn
  obtain⟨ds,h1,h2⟩:=kr4 k t hT n _ _ hn
  refine⟨ds,h2,?_⟩
  unfold vOf
  rw[if_neg ha]
  have hl:=h1.1
  match ds,hl with
  |[c],_=>exact .d _ _ (h1.2 0 v c rfl rfl)
theorem law_of {f:FuncId} {xs:List V} {r:V} (hS:SoundH P f xs [] r []) {vs:List Value} (hlen:vs.length=xs.length)
  (hrep:∀(j:Nat) (v:Value) (x:V),vs[j]? =some v→xs[j]? =some x→RepV (G0 W) W [] 0 v x):
  Calls P f vs.toArray W fun e W' =>(∃v G',e= .returned v∧RepV G' W' [] 0 v r)∧Below W.heap.size W W' :=by
 refine(hS (G0 W) W vs hlen hrep ?_).mono fun e W' hh=> ?_
 ·refine⟨?_,?_,?_,?_,?_,?_⟩
  ·intro id l h;simp[hpOf,Hp.get]at h
  ·intro id es h;simp[hpOf,Hp.get]at h
  ·intro id b h;simp at h
  ·intro i j b h;simp at h
  ·intro id ob h;simp[hpOf,Hp.get]at h
  ·intro b hb
   show limOf W b=0
   unfold limOf
   rw[Array.getElem?_eq_none hb]
 ·obtain⟨v,G',rfl,h1,h2,h3,h4⟩:=hh
  refine⟨⟨v,G',rfl,h1⟩,h3.os,h3.tape,h3.output,h3.size,fun b hb=>(h3.same b hb ?_).1⟩
  rintro ⟨i,hi,_⟩
  simp at hi
def typesOk (P:Program) (ts:List TypeId):Bool:=ts.all fun t=>P.readableRec t&&decide (t<P.types.size)
theorem kyn (hl:laidOutB P=true) {W' :World} (hb:Below W.heap.size W W'):∀{ts:List TypeId} {vs:List Value} {ds:List (DataW H)} {ps:List MemPlace},typesOk P ts=true→
  DataW.TrodAll enc P W 0 (fun _=>true) true ts vs ds ps→(∀x∈ps,x.block<W.heap.size)→DataW.TrodAll enc P W' 0 (fun b=>decide (b<W.heap.size)) true ts vs ds ps
 |[],[],[],_,_,h,_=>h
 |[],[],_::_,_,_,h,_=>h.elim
 |[],_::_,_,_,_,h,_=>h.elim
 |_::_,[],_,_,_,h,_=>h.elim
 |_::_,_::_,[],_,_,h,_=>h.elim
 |t::ts,v::vs,d::ds,ps,ht,h,hp=>by
  simp only[typesOk,List.all_cons,Bool.and_eq_true,decide_eq_true_eq]at ht
  obtain⟨p,q,h1,h2,rfl⟩:=h
  exact⟨p,q,Below.trod hl ht.1.1 ht.1.2 h1 hb (fun x hx=>hp x (by simp[hx])),kyn hl hb (by simpa[typesOk]using ht.2) h2 (fun x hx=>hp x (by simp[hx])),rfl⟩
theorem k1os {k:Nat} {t:TypeId} {ds:List D} {d:DataW H} (hu:P.underlying t=some .bool) (h:Rel P (k+1) t ds d):∃b,ds=[.bool b]∧d= .lit (.bool b):=by unfold Rel at h;rw[hu]at h;exact h
theorem rel_int {k:Nat} {t:TypeId} {q:IntKind} {ds:List D} {d:DataW H} (hu:P.underlying t=some (.int q)) (h:Rel P (k+1) t ds d):∃i,ds=[.int q i]∧d= .lit (.int q i)∧(Lit.int q i).wf=true:=by unfold Rel at h;rw[hu]at h;exact h
theorem k1lo {k:Nat} {t:TypeId} {fs:Array Field} {ds:List D} {d:DataW H} (hu:P.underlying t=some (.struct fs)) (h:Rel P (k+1) t ds d):∃ps,d= .agg ps∧RelFs (Rel P k) (fsOf fs) ds ps:=by unfold Rel at h;rw[hu]at h;exact h
theorem k1mu {k:Nat} {t e:TypeId} {ds:List D} {d:DataW H} {α:Type} [Inhabited α] (f:α→D) (p:α→Prop) (hu:P.underlying t=some (.slice e)) (h:Rel P (k+1) t ds d)
  (tp:∀(x:List D) (y:DataW H),Rel P k e x y→∃a,mkD P e x=f a∧p a):
  ∃l:List α,ds=[.slice (P.cellsOf e) (l.map f)]∧l.length≤maxLen∧(∀a∈l,p a)∧((l=[]∧d= .nil)∨∃elems spare,d= .slice elems spare∧l.length=elems.length):=by
 unfold Rel at h
 rw[hu]at h
 obtain⟨l,rfl,hmx,h⟩:=h
 rcases h with⟨rfl,rfl⟩|⟨elems,spare,rfl,hlen,hh⟩
 ·exact⟨[],rfl,Nat.zero_le _,by simp,.inl ⟨rfl,rfl⟩⟩
 ·have:∀i,i<l.length→∃a,mkD P e (l.getD i [])=f a∧p a:=by
   intro i hi
   refine tp _ _ (hh i _ _ ?_ (List.getElem?_eq_getElem (by omega)))
   simp[List.getElem?_eq_getElem hi]
  obtain⟨g,hg⟩:=Deep.choose_lt this
  refine⟨(List.range l.length).map g,?_,by simpa using hmx,?_,.inr ⟨elems,spare,rfl,by simpa using hlen⟩⟩
  ·have:l.map (mkD P e)=((List.range l.length).map g).map f:=by
    rw[Deep.map_by_index l [] (mkD P e),List.map_map]
    refine List.map_congr_left fun i hi=> ?_
    exact(hg i (by simpa using hi)).1
   rw[this]
  ·intro a ha
   obtain⟨i,hi,rfl⟩:=List.mem_map.1 ha
   exact(hg i (by simpa using hi)).2
theorem k1or {fn:Func} {s:ChangeSpec} {W' :World} {args:Array Value} {ds:List (DataW H)} {before:List MemPlace} {tb:TypeId} (hv:s.vars=[]) (hW:DataW.Whole enc P fn.params.toList s.vars false W args.toList ds [] before)
  (hl:laidOutB P=true) (hty:typesOk P fn.params.toList=true) (hr:fn.resultTypes= #[tb]) (hub:P.underlying tb=some .bool)
  (h1:(s.fn H (ds++[])).results=[.lit (.bool true)]) (h2:(s.fn H (ds++[])).args=ds) (h3:(s.fn H (ds++[])).vars=[]) (hb:Below W.heap.size W W'):
  s.post enc P fn false true false false W args (.bool true) W' :=by
 have hW' :=hW
 obtain⟨p,q,hA,hV,rfl,_,_⟩:=hW
 have hq:q=[]:=by rw[hv]at hV;exact hV
 subst hq
 refine⟨ds,[],p++[],[],p,[],hW',?_,?_,?_,hb.frame _,fun h=>by cases h⟩
 ·rw[h1,hr]
  exact trodAll_cons_mk (shut_bool hub _) trodAll_mk0
 ·rw[h2]
  exact kyn hl hb hty hA (fun x hx=>by simpa using hW'.lt x (by simpa using hx))
 ·rw[hv,h3]
  rfl
end
structure RelH {H:Type} (P:Program) (k:Nat) (t:TypeId) (ds:List D) (d:DataW H):Prop where
 h:Rel P k t ds d
section
variable {H:Type} {enc:TypeId×Value→H} {P:Program} {W:World} {k:Nat}
theorem relFs_h:∀{L:List (TypeId×Nat)} {ds:List D} {ps:List (DataW H)},RelFs (Rel P k) L ds ps→RelFs (RelH P k) L ds ps
 |[],_,_,h=>h
 |_::_,_,_,⟨d1,d2,p,qs,h1,h2,e1,e2⟩=>⟨d1,d2,p,qs,⟨h1⟩,relFs_h h2,e1,e2⟩
theorem k1n5 {t:TypeId} {ds:List D} {d:DataW H} (hu:P.underlying t=some .bool) (h:RelH P (k+1) t ds d):∃b,ds=[.bool b]∧d= .lit (.bool b):=k1os hu h.h
theorem k17b {t:TypeId} {q:IntKind} {ds:List D} {d:DataW H} (hu:P.underlying t=some (.int q)) (h:RelH P (k+1) t ds d):∃i,ds=[.int q i]∧d= .lit (.int q i)∧(Lit.int q i).wf=true:=rel_int hu h.h
theorem kh2 {t:TypeId} {fs:Array Field} {ds:List D} {d:DataW H} {L:List (TypeId×Nat)} (hu:P.underlying t=some (.struct fs)) (hf:fsOf fs=L) (h:RelH P (k+1) t ds d):∃ps,d= .agg ps∧RelFs (RelH P k) L ds ps:=by
 obtain⟨ps,h1,h2⟩:=k1lo hu h.h
 rw[hf]at h2
 exact⟨ps,h1,relFs_h h2⟩
theorem kwh {t e:TypeId} {ds:List D} {d:DataW H} {α:Type} [Inhabited α] (f:α→D) (p:α→Prop) (sz:Nat) (hu:P.underlying t=some (.slice e)) (hs:P.cellsOf e=sz) (h:RelH P (k+1) t ds d)
  (tp:∀(x:List D) (y:DataW H),RelH P k e x y→∃a,mkD P e x=f a∧p a):∃l:List α,ds=[.slice sz (l.map f)]∧l.length≤9223372036854775807∧∀a∈l,p a:=by
 obtain⟨l,h1,h2,h3,_⟩:=k1mu f p hu h.h (fun x y hh=>tp x y ⟨hh⟩)
 subst hs
 exact⟨l,h1,h2,h3⟩
theorem mk_agg {e:TypeId} {ds cs:List D} (ha:isAggT P e=true) (h:ds=(D.agg cs).cells):mkD P e ds= .agg cs:=by subst h;unfold mkD;rw[ha];rfl
theorem mk_one {e:TypeId} {ds:List D} {x:D} (ha:isAggT P e=false) (h:ds=[x]):mkD P e ds=x:=by subst h;unfold mkD;rw[ha];rfl
theorem k17o {r:Reach} {base:Nat} {t:TypeId} {v:Value} {d:DataW H} {ps:List MemPlace} {h:Hp} {nx:Nat} (hT:dataT P k t=true) (hval:Value.okWide P W r base t v)
  (hd:DataW.Trod enc P W 0 (fun _=>true) true t v d ps):∃ds,RelH P k t ds d∧RepV (G0 W) W h nx v (vOf P t ds):=by
 obtain⟨ds,h1,h2⟩:=arg_rep hT hval hd
 exact⟨ds,⟨h1⟩,h2⟩
end
end Go.Bv
namespace Go.Proofs.Ytpffhgljgpjenaa
open Go Go.Bv Go.Cv Go.Md Go.RowKit Go.ChangeShapes Go.WideShapes
theorem wf_u16 {i:Int} (h:(Lit.int .u16 i).wf=true):0≤i∧i<65536:=by
 simp only[Lit.wf,IntKind.min,IntKind.max,IntKind.signed,IntKind.bits,Bool.and_eq_true]at h
 simp at h
 omega
theorem wf_u64 {i:Int} (h:(Lit.int .u64 i).wf=true):0≤i∧i<18446744073709551616:=by
 simp only[Lit.wf,IntKind.min,IntKind.max,IntKind.signed,IntKind.bits,Bool.and_eq_true]at h
 simp at h
 omega
theorem wf_i64 {i:Int} (h:(Lit.int .i64 i).wf=true):(-9223372036854775808)≤i∧i<9223372036854775808:=by
 simp only[Lit.wf,IntKind.min,IntKind.max,IntKind.signed,IntKind.bits,Bool.and_eq_true]at h
 simp at h
 omega
structure kld (x:TSpent):Prop where
 Note_Value:(0≤x.Note_Value∧x.Note_Value<18446744073709551616)
 Note_Owner:(0≤x.Note_Owner∧x.Note_Owner<18446744073709551616)
 Note_Rho:(0≤x.Note_Rho∧x.Note_Rho<18446744073709551616)
 Note_Blind:(0≤x.Note_Blind∧x.Note_Blind<18446744073709551616)
 Key:(0≤x.Key∧x.Key<18446744073709551616)
 Number:((-9223372036854775808)≤x.Number∧x.Number<9223372036854775808)
 Position:((-9223372036854775808)≤x.Position∧x.Position<9223372036854775808)
 Path:(x.Path.length≤9223372036854775807∧∀y∈x.Path,(0≤y∧y<18446744073709551616))
structure kpk (x:TNote):Prop where
 Value:(0≤x.Value∧x.Value<18446744073709551616)
 Owner:(0≤x.Owner∧x.Owner<18446744073709551616)
 Rho:(0≤x.Rho∧x.Rho<18446744073709551616)
 Blind:(0≤x.Blind∧x.Blind<18446744073709551616)
structure kk0 (x:TWitness):Prop where
 Ins:(x.Ins.length≤9223372036854775807∧∀y∈x.Ins,kld y)
 Outs:(x.Outs.length≤9223372036854775807∧∀y∈x.Outs,kpk y)
 Secret:(0≤x.Secret∧x.Secret<18446744073709551616)
theorem op24 {H:Type} {k:Nat} {ds:List D} {d:DataW H} (h:RelH Try.prog (k+1) 24 ds d):∃x:Int,ds=[D.int .u64 x]∧(0≤x∧x<18446744073709551616):=by
 obtain⟨i,rfl,_,w⟩:=k17b (q:= .u64) (show Try.prog.underlying 24=some (.int .u64)by kernel_rfl) h
 exact⟨i,rfl,wf_u64 w⟩
theorem op48 {H:Type} {k:Nat} {ds:List D} {d:DataW H} (h:RelH Try.prog (k+2) 48 ds d):∃x:TNote,ds=(encTNote x).cells∧kpk x:=by
 obtain⟨ps,rfl,h1⟩:=kh2 (L:=[(24,0),(24,1),(24,2),(24,3)]) (Try.underlying48) (by kernel_rfl) h
 obtain⟨_,_,_,_,g0,⟨_,_,_,_,g1,⟨_,_,_,_,g2,⟨_,_,_,_,g3,⟨rfl,rfl⟩,rfl,rfl⟩,rfl,rfl⟩,rfl,rfl⟩,rfl,rfl⟩:=h1
 obtain⟨a0,rfl,r0⟩:=op24 (k:=k+0) g0
 obtain⟨a1,rfl,r1⟩:=op24 (k:=k+0) g1
 obtain⟨a2,rfl,r2⟩:=op24 (k:=k+0) g2
 obtain⟨a3,rfl,r3⟩:=op24 (k:=k+0) g3
 exact⟨⟨a0,a1,a2,a3⟩,rfl,⟨r0,r1,r2,r3⟩⟩
theorem op3 {H:Type} {k:Nat} {ds:List D} {d:DataW H} (h:RelH Try.prog (k+1) 3 ds d):∃x:Int,ds=[D.int .i64 x]∧((-9223372036854775808)≤x∧x<9223372036854775808):=by
 obtain⟨i,rfl,_,w⟩:=k17b (q:= .i64) (show Try.prog.underlying 3=some (.int .i64)by kernel_rfl) h
 exact⟨i,rfl,wf_i64 w⟩
theorem op29 {H:Type} {k:Nat} {ds:List D} {d:DataW H} (h:RelH Try.prog (k+2) 29 ds d):∃x:List Int,ds=[D.slice 1 (x.map (D.int .u64))]∧(x.length≤9223372036854775807∧∀y∈x,(0≤y∧y<18446744073709551616)):=by
 obtain⟨l,rfl,hm,hl⟩:=kwh (D.int .u64) (fun y=>(0≤y∧y<18446744073709551616)) 1 (show Try.prog.underlying 29=some (.slice 24)by kernel_rfl) (by kernel_rfl) h (fun x y hh=>by
  obtain⟨a,e,ha⟩:=op24 (k:=k+0) hh
  exact⟨a,mk_one (by kernel_rfl) e,ha⟩)
 exact⟨l,rfl,⟨hm,hl⟩⟩
theorem op4 {H:Type} {k:Nat} {ds:List D} {d:DataW H} (h:RelH Try.prog (k+1) 4 ds d):∃x:Bool,ds=[D.bool x]∧True:=by
 obtain⟨b,rfl,_⟩:=k1n5 (show Try.prog.underlying 4=some (.bool)by kernel_rfl) h
 exact⟨b,rfl,trivial⟩
theorem op50 {H:Type} {k:Nat} {ds:List D} {d:DataW H} (h:RelH Try.prog (k+3) 50 ds d):∃x:TSpent,ds=(encTSpent x).cells∧kld x:=by
 obtain⟨ps,rfl,h1⟩:=kh2 (L:=[(48,0),(24,4),(3,5),(3,6),(29,7),(4,8)]) (Try.underlying50) (by kernel_rfl) h
 obtain⟨_,_,_,_,g0,⟨_,_,_,_,g1,⟨_,_,_,_,g2,⟨_,_,_,_,g3,⟨_,_,_,_,g4,⟨_,_,_,_,g5,⟨rfl,rfl⟩,rfl,rfl⟩,rfl,rfl⟩,rfl,rfl⟩,rfl,rfl⟩,rfl,rfl⟩,rfl,rfl⟩:=h1
 obtain⟨a0,rfl,r0⟩:=op48 (k:=k+0) g0
 obtain⟨a1,rfl,r1⟩:=op24 (k:=k+1) g1
 obtain⟨a2,rfl,r2⟩:=op3 (k:=k+1) g2
 obtain⟨a3,rfl,r3⟩:=op3 (k:=k+1) g3
 obtain⟨a4,rfl,r4⟩:=op29 (k:=k+0) g4
 obtain⟨a5,rfl,r5⟩:=op4 (k:=k+1) g5
 exact⟨⟨a0.Value,a0.Owner,a0.Rho,a0.Blind,a1,a2,a3,a4,a5⟩,rfl,⟨r0.Value,r0.Owner,r0.Rho,r0.Blind,r1,r2,r3,r4⟩⟩
theorem op22 {H:Type} {k:Nat} {ds:List D} {d:DataW H} (h:RelH Try.prog (k+4) 22 ds d):∃x:List TSpent,ds=[D.slice 9 (x.map encTSpent)]∧(x.length≤9223372036854775807∧∀y∈x,kld y):=by
 obtain⟨l,rfl,hm,hl⟩:=kwh encTSpent (fun y=>kld y) 9 (show Try.prog.underlying 22=some (.slice 50)by kernel_rfl) (by kernel_rfl) h (fun x y hh=>by
  obtain⟨a,e,ha⟩:=op50 (k:=k+0) hh
  exact⟨a,mk_agg (by kernel_rfl) e,ha⟩)
 exact⟨l,rfl,⟨hm,hl⟩⟩
theorem op23 {H:Type} {k:Nat} {ds:List D} {d:DataW H} (h:RelH Try.prog (k+3) 23 ds d):∃x:List TNote,ds=[D.slice 4 (x.map encTNote)]∧(x.length≤9223372036854775807∧∀y∈x,kpk y):=by
 obtain⟨l,rfl,hm,hl⟩:=kwh encTNote (fun y=>kpk y) 4 (show Try.prog.underlying 23=some (.slice 48)by kernel_rfl) (by kernel_rfl) h (fun x y hh=>by
  obtain⟨a,e,ha⟩:=op48 (k:=k+0) hh
  exact⟨a,mk_agg (by kernel_rfl) e,ha⟩)
 exact⟨l,rfl,⟨hm,hl⟩⟩
theorem op26 {H:Type} {k:Nat} {ds:List D} {d:DataW H} (h:RelH Try.prog (k+5) 26 ds d):∃x:TWitness,ds=(encTWitness x).cells∧kk0 x:=by
 obtain⟨ps,rfl,h1⟩:=kh2 (L:=[(22,0),(23,1),(24,2)]) (Try.underlying26) (by kernel_rfl) h
 obtain⟨_,_,_,_,g0,⟨_,_,_,_,g1,⟨_,_,_,_,g2,⟨rfl,rfl⟩,rfl,rfl⟩,rfl,rfl⟩,rfl,rfl⟩:=h1
 obtain⟨a0,rfl,r0⟩:=op22 (k:=k+0) g0
 obtain⟨a1,rfl,r1⟩:=op23 (k:=k+1) g1
 obtain⟨a2,rfl,r2⟩:=op24 (k:=k+3) g2
 exact⟨⟨a0,a1,a2⟩,rfl,⟨r0,r1,r2⟩⟩
structure ke7 (x:TStatement):Prop where
 Depth:((-9223372036854775808)≤x.Depth∧x.Depth<9223372036854775808)
 Anchor:(0≤x.Anchor∧x.Anchor<18446744073709551616)
 Marks:(x.Marks.length≤9223372036854775807∧∀y∈x.Marks,(0≤y∧y<18446744073709551616))
 Commits:(x.Commits.length≤9223372036854775807∧∀y∈x.Commits,(0≤y∧y<18446744073709551616))
 Rhos:(x.Rhos.length≤9223372036854775807∧∀y∈x.Rhos,(0≤y∧y<18446744073709551616))
 Deposit:(0≤x.Deposit∧x.Deposit<18446744073709551616)
 Withdraw:(0≤x.Withdraw∧x.Withdraw<18446744073709551616)
 Fee:(0≤x.Fee∧x.Fee<18446744073709551616)
 Account:(0≤x.Account∧x.Account<18446744073709551616)
 Bind:(0≤x.Bind∧x.Bind<18446744073709551616)
theorem op31 {H:Type} {k:Nat} {ds:List D} {d:DataW H} (h:RelH Try.prog (k+3) 31 ds d):∃x:TStatement,ds=(encTStatement x).cells∧ke7 x:=by
 obtain⟨ps,rfl,h1⟩:=kh2 (L:=[(3,0),(24,1),(29,2),(29,3),(29,4),(24,5),(24,6),(24,7),(24,8),(24,9)]) (Try.underlying31) (by kernel_rfl) h
 obtain⟨_,_,_,_,g0,⟨_,_,_,_,g1,⟨_,_,_,_,g2,⟨_,_,_,_,g3,⟨_,_,_,_,g4,⟨_,_,_,_,g5,⟨_,_,_,_,g6,⟨_,_,_,_,g7,⟨_,_,_,_,g8,⟨_,_,_,_,g9,⟨rfl,rfl⟩,rfl,rfl⟩,rfl,rfl⟩,rfl,rfl⟩,rfl,rfl⟩,rfl,rfl⟩,rfl,rfl⟩,rfl,rfl⟩,rfl,rfl⟩,rfl,rfl⟩,rfl,rfl⟩:=h1
 obtain⟨a0,rfl,r0⟩:=op3 (k:=k+1) g0
 obtain⟨a1,rfl,r1⟩:=op24 (k:=k+1) g1
 obtain⟨a2,rfl,r2⟩:=op29 (k:=k+0) g2
 obtain⟨a3,rfl,r3⟩:=op29 (k:=k+0) g3
 obtain⟨a4,rfl,r4⟩:=op29 (k:=k+0) g4
 obtain⟨a5,rfl,r5⟩:=op24 (k:=k+1) g5
 obtain⟨a6,rfl,r6⟩:=op24 (k:=k+1) g6
 obtain⟨a7,rfl,r7⟩:=op24 (k:=k+1) g7
 obtain⟨a8,rfl,r8⟩:=op24 (k:=k+1) g8
 obtain⟨a9,rfl,r9⟩:=op24 (k:=k+1) g9
 exact⟨⟨a0,a1,a2,a3,a4,a5,a6,a7,a8,a9⟩,rfl,⟨r0,r1,r2,r3,r4,r5,r6,r7,r8,r9⟩⟩
structure k16e (x:TIdeal):Prop where
 Seed:(0≤x.Seed∧x.Seed<18446744073709551616)
 Bits:(0≤x.Bits∧x.Bits<65536)
theorem op39 {H:Type} {k:Nat} {ds:List D} {d:DataW H} (h:RelH Try.prog (k+1) 39 ds d):∃x:Int,ds=[D.int .u16 x]∧(0≤x∧x<65536):=by
 obtain⟨i,rfl,_,w⟩:=k17b (q:= .u16) (show Try.prog.underlying 39=some (.int .u16)by kernel_rfl) h
 exact⟨i,rfl,wf_u16 w⟩
theorem op41 {H:Type} {k:Nat} {ds:List D} {d:DataW H} (h:RelH Try.prog (k+2) 41 ds d):∃x:TIdeal,ds=(encTIdeal x).cells∧k16e x:=by
 obtain⟨ps,rfl,h1⟩:=kh2 (L:=[(24,0),(39,1)]) (Try.underlying41) (by kernel_rfl) h
 obtain⟨_,_,_,_,g0,⟨_,_,_,_,g1,⟨rfl,rfl⟩,rfl,rfl⟩,rfl,rfl⟩:=h1
 obtain⟨a0,rfl,r0⟩:=op24 (k:=k+0) g0
 obtain⟨a1,rfl,r1⟩:=op39 (k:=k+0) g1
 exact⟨⟨a0,a1⟩,rfl,⟨r0,r1⟩⟩
theorem dt26:dataT Try.prog 5 26=true:=by kernel_rfl
theorem dt31:dataT Try.prog 3 31=true:=by kernel_rfl
theorem dt41:dataT Try.prog 2 41=true:=by kernel_rfl
theorem own:ownKnob Try.prog.godebug=none:=by kernel_rfl
theorem laid:laidOutB Try.prog=true:=by kernel_rfl
end Go.Proofs.Ytpffhgljgpjenaa
namespace Go.Md
open Go Go.Bv
theorem u64w (n:Int):IntKind.u64.wrap n=n%18446744073709551616:=IntKind.wrap_u64 n
theorem u8w (n:Int):IntKind.u8.wrap n=n%256:=IntKind.wrap_u8 n
theorem kew (k:IntKind) (a b:Int):ishr k a b=a/((2^min b.toNat k.bits:Nat):Int):=by
 unfold ishr
 rw[show(2:Int)^min b.toNat k.bits=((2^min b.toNat k.bits:Nat):Int)from(Int.natCast_pow 2 _).symm,Int.fdiv_eq_ediv_of_nonneg _ (Int.natCast_nonneg _)]
theorem k1od (a b:Int):ishl .u64 a b=(a*((2^min b.toNat 64:Nat):Int))%18446744073709551616:=by
 unfold ishl
 rw[u64w,show(2:Int)^min b.toNat IntKind.u64.bits=((2^min b.toNat 64:Nat):Int)by rw[show IntKind.u64.bits=64 from rfl];exact(Int.natCast_pow 2 _).symm]
theorem ki5 (n:Nat) (h:n<18446744073709551616):(BitVec.ofInt 64 (n:Int)).toNat=n:=by
 rw[BitVec.toNat_ofInt]
 omega
theorem k1hx (a b:Nat) (ha:a<18446744073709551616) (hb:b<18446744073709551616):iand .u64 a b=((a&&&b:Nat):Int):=by
 unfold iand
 rw[u64w]
 show(((BitVec.ofInt 64 a&&&BitVec.ofInt 64 b).toNat:Nat):Int)%_=_
 rw[BitVec.toNat_and,ki5 a ha,ki5 b hb]
 have:=Nat.and_le_left (n:=a) (m:=b)
 omega
theorem ior_nat (a b:Nat) (ha:a<18446744073709551616) (hb:b<18446744073709551616):ior .u64 a b=((a|||b:Nat):Int):=by
 unfold ior
 rw[u64w]
 show(((BitVec.ofInt 64 a|||BitVec.ofInt 64 b).toNat:Nat):Int)%_=_
 rw[BitVec.toNat_or,ki5 a ha,ki5 b hb]
 have:=Nat.or_lt_two_pow (x:=a) (y:=b) (n:=64) (by omega) (by omega)
 omega
theorem kgg (a:Int) (h:0≤a∧a<18446744073709551616):iand .u64 a 4294967295=a%4294967296:=by
 obtain⟨n,rfl⟩:=Int.eq_ofNat_of_zero_le h.1
 have:=k1hx n 4294967295 (by omega) (by omega)
 rw[show((4294967295:Nat):Int)=4294967295 from rfl]at this
 rw[this,show(4294967295:Nat)=2^32-1 from rfl,Nat.and_two_pow_sub_one_eq_mod]
 exact Int.natCast_emod _ _
theorem k1ok (a:Int) (h:0≤a∧a<18446744073709551616):iand .u64 a 1=a%2:=by
 obtain⟨n,rfl⟩:=Int.eq_ofNat_of_zero_le h.1
 have:=k1hx n 1 (by omega) (by omega)
 rw[show((1:Nat):Int)=1 from rfl]at this
 rw[this,Nat.and_one_is_mod]
 exact Int.natCast_emod _ _
theorem ior_add' (a c:Nat) (k:Nat) (ha:a<2^k) (h:a+2^k*c<18446744073709551616):ior .u64 ((2^k*c:Nat):Int) a=((a+2^k*c:Nat):Int):=by
 rw[ior_nat _ _ (by omega) (by omega),←Nat.two_pow_add_eq_or_of_lt ha,Nat.add_comm]
theorem ishr32 (a:Int):ishr .u64 a 32=a/4294967296:=kew _ _ _
theorem ishr16 (a:Int):ishr .u64 a 16=a/65536:=kew _ _ _
theorem ishr8 (a:Int):ishr .u64 a 8=a/256:=kew _ _ _
theorem ishr1 (a:Int):ishr .u64 a 1=a/2:=kew _ _ _
theorem k1oq (a b:Int) (ha:0≤a∧a<18446744073709551616) (hb:0≤b∧b<18446744073709551616):
  ((a/4294967296*(b/4294967296)+((a/4294967296*(b%4294967296)+a%4294967296*(b%4294967296)/4294967296)/4294967296))+((a/4294967296*(b%4294967296)+a%4294967296*(b%4294967296)/4294967296)%4294967296+a%4294967296*(b/4294967296))/4294967296)=a*b/18446744073709551616∧
  a%4294967296*(b%4294967296)<18446744073709551616∧a/4294967296*(b%4294967296)+a%4294967296*(b%4294967296)/4294967296<18446744073709551616∧
  a%4294967296*(b/4294967296)<18446744073709551616-4294967296∧a/4294967296*(b/4294967296)<18446744065119617026∧0≤a%4294967296*(b%4294967296)∧0≤a/4294967296*(b%4294967296)∧0≤a%4294967296*(b/4294967296)∧0≤a/4294967296*(b/4294967296):=by
 have h1:∀x y:Int,0≤x→x≤4294967295→0≤y→y≤4294967295→0≤x*y∧x*y≤18446744065119617025:=by
  intro x y h0 h1 h2 h3
  exact⟨Int.mul_nonneg h0 h2,by have:=Int.mul_le_mul h1 h3 h2 (by omega);omega⟩
 have a1:=h1 (a%4294967296) (b%4294967296) (by omega) (by omega) (by omega) (by omega)
 have a2:=h1 (a/4294967296) (b%4294967296) (by omega) (by omega) (by omega) (by omega)
 have a3:=h1 (a%4294967296) (b/4294967296) (by omega) (by omega) (by omega) (by omega)
 have a4:=h1 (a/4294967296) (b/4294967296) (by omega) (by omega) (by omega) (by omega)
 have e:a*b=a/4294967296*(b/4294967296)*18446744073709551616+(a/4294967296*(b%4294967296)+a%4294967296*(b/4294967296))*4294967296+a%4294967296*(b%4294967296):=by
  have ea:a=a/4294967296*4294967296+a%4294967296:=by omega
  have eb:b=b/4294967296*4294967296+b%4294967296:=by omega
  conv=>lhs;rw[ea,eb]
  generalize a/4294967296=x
  generalize a%4294967296=y
  generalize b/4294967296=z
  generalize b%4294967296=t
  grind
 generalize a%4294967296*(b%4294967296)=p0 at *
 generalize a/4294967296*(b%4294967296)=p1 at *
 generalize a%4294967296*(b/4294967296)=p2 at *
 generalize a/4294967296*(b/4294967296)=p3 at *
 generalize a*b=ab at *
 refine⟨?_,?_,?_,?_,?_,?_,?_,?_,?_⟩<;>omega
structure Half (U x a b Q:Int):Prop where
 hU:0≤U
 hUv:U<a*4294967296+b
 hx:0≤x∧x<4294967296
 ha:2147483648≤a∧a<4294967296
 hb:0≤b∧b<4294967296
 hQ:Q=(U*4294967296+x)/(a*4294967296+b)
theorem Half.q {U x a b Q:Int} (h:Half U x a b Q):0≤Q∧Q<4294967296∧Q*(a*4294967296+b)≤U*4294967296+x∧U*4294967296+x<(Q+1)*(a*4294967296+b):=by
 obtain⟨h1,h2,h3,h4,h5,h6⟩:=h
 have hv:0<a*4294967296+b:=by omega
 have e:=Int.emod_add_mul_ediv (U*4294967296+x) (a*4294967296+b)
 have l:=Int.emod_nonneg (U*4294967296+x) (by omega:a*4294967296+b≠0)
 have r:=Int.emod_lt_of_pos (U*4294967296+x) hv
 rw[←h6]at e
 generalize hvv:a*4294967296+b=v at *
 have e2:(Q+1)*v=Q*v+v:=by grind
 have e3:v*Q=Q*v:=by grind
 have q0:0≤Q:=by
  rw[h6]
  exact Int.ediv_nonneg (by omega) (by omega)
 have q1:Q<4294967296:=by
  rw[h6]
  exact Int.ediv_lt_of_lt_mul hv (by omega)
 refine⟨q0,q1,by omega,by omega⟩
theorem Half.exit {U x a b Q q r:Int} (h:Half U x a b Q) (e:q*a+r=U) (hq:Q≤q) (h2:q*b≤r*4294967296+x):q=Q:=by
 obtain⟨q0,q1,q2,q3⟩:=h.q
 have h4:=h.ha
 have:q*(a*4294967296+b)≤U*4294967296+x:=by
  have:q*(a*4294967296+b)=q*a*4294967296+q*b:=by grind
  rw[this]
  generalize q*a=qa at *
  omega
 have h5:q<Q+1:=by
  have hv:0<a*4294967296+b:=by have:=h.hb;omega
  exact Int.lt_of_mul_lt_mul_right (by omega) (Int.le_of_lt hv)
 omega
theorem Half.down {U x a b Q q r:Int} (h:Half U x a b Q) (e:q*a+r=U) (h2:4294967296≤q∨r*4294967296+x<q*b):Q≤q-1:=by
 obtain⟨q0,q1,q2,q3⟩:=h.q
 rcases h2 with h2|h2
 ·omega
 ·have:U*4294967296+x<q*(a*4294967296+b):=by
   have:q*(a*4294967296+b)=q*a*4294967296+q*b:=by grind
   rw[this]
   generalize q*a=qa at *
   omega
  have h5:Q<q:=by
   have hv:0<a*4294967296+b:=by have:=h.hb;have:=h.ha;omega
   exact Int.lt_of_mul_lt_mul_right (a:=a*4294967296+b) (by omega) (Int.le_of_lt hv)
  omega
theorem Half.small {U x a b Q q r:Int} (h:Half U x a b Q) (e:q*a+r=U) (hr:4294967296≤r):q<4294967296:=by
 have h2:=h.hUv
 have h4:=h.ha
 have h5:=h.hb
 have:q*a<4294967296*a:=by generalize q*a=qa at *;omega
 exact Int.lt_of_mul_lt_mul_right this (by omega)
theorem Half.done {U x a b Q q r:Int} (h:Half U x a b Q) (e:q*a+r=U) (hq:Q≤q) (hr:4294967296≤r):q=Q:=by
 refine h.exit e hq ?_
 have h1:=h.small e hr
 obtain⟨q0,_⟩:=h.q
 have h5:=h.hb
 have h6:=h.hx
 have:q*b≤4294967296*4294967296:=Int.mul_le_mul (by omega) (by omega) (by omega) (by omega)
 omega
theorem Half.rest {U x a b Q:Int} (h:Half U x a b Q):(U*4294967296+x)-Q*(a*4294967296+b)=(U*4294967296+x)%(a*4294967296+b)∧0≤(U*4294967296+x)%(a*4294967296+b)∧(U*4294967296+x)%(a*4294967296+b)<a*4294967296+b:=by
 have hv:0<a*4294967296+b:=by have:=h.hb;have:=h.ha;omega
 have e:=Int.emod_add_mul_ediv (U*4294967296+x) (a*4294967296+b)
 rw[←h.hQ]at e
 have:=Int.mul_comm (a*4294967296+b) Q
 exact⟨by omega,Int.emod_nonneg _ (by omega),Int.emod_lt_of_pos _ hv⟩
theorem k1mc {N y p U un1 un0 Q1 R1 Q0 R0:Int} (hp:0<p) (hy:0<y) (hN:N*p=U*18446744073709551616+un1*4294967296+un0) (h1:U*4294967296+un1-Q1*(y*p)=R1) (h0:R1*4294967296+un0-Q0*(y*p)=R0)
  (hr:0≤R0∧R0<y*p):Q1*4294967296+Q0=N/y∧R0/p=N%y:=by
 have e:N*p=(Q1*4294967296+Q0)*(y*p)+R0:=by
  rw[hN]
  have:(Q1*4294967296+Q0)*(y*p)=Q1*(y*p)*4294967296+Q0*(y*p):=by grind
  rw[this]
  generalize Q1*(y*p)=a at *
  generalize Q0*(y*p)=b at *
  omega
 have e2:R0=(N-(Q1*4294967296+Q0)*y)*p:=by grind
 have h3:0≤N-(Q1*4294967296+Q0)*y:=by
  rcases Int.lt_or_le (N-(Q1*4294967296+Q0)*y) 0 with h|h
  ·exfalso
   have:(N-(Q1*4294967296+Q0)*y)*p<0:=Int.mul_neg_of_neg_of_pos h hp
   omega
  ·exact h
 have h4:N-(Q1*4294967296+Q0)*y<y:=by
  refine Int.lt_of_mul_lt_mul_right (a:=p) ?_ (Int.le_of_lt hp)
  omega
 have e3:N=(N-(Q1*4294967296+Q0)*y)+y*(Q1*4294967296+Q0):=by grind
 constructor
 ·conv=>rhs;rw[e3]
  rw[Int.add_mul_ediv_left _ _ (by omega),Int.ediv_eq_zero_of_lt h3 h4]
  omega
 ·rw[e2,Int.mul_ediv_cancel _ (by omega)]
  conv=>rhs;rw[e3]
  rw[Int.add_mul_emod_self_left,Int.emod_eq_of_lt h3 h4]
end Go.Md
namespace Go.Md
open Go Go.Bv
theorem ix_nat {α:Type} [Inhabited α] (l:List α) (i:Int) (h0:0≤i) (h1:i<(l.length:Int)):ix l i=l[i.toNat]'(by omega):=by
 have:i.toNat<l.length:=by omega
 simp[ix,this]
theorem ix_mem {α:Type} [Inhabited α] (l:List α) (i:Int) (h0:0≤i) (h1:i<(l.length:Int)):ix l i∈l:=by
 rw[ix_nat l i h0 h1];exact List.getElem_mem _
theorem inc (i n:Int) (h0:0≤i) (h:i<n) (hn:n≤9223372036854775807):IntKind.i64.wrap (i+1)=i+1:=k1jg _ (by omega) (by omega)
theorem wi (n:Int) (h0: -9223372036854775808≤n) (h:n≤9223372036854775807):IntKind.i64.wrap n=n:=k1jg n h0 (by omega)
theorem wu (n:Int) (h0:0≤n) (h:n≤18446744073709551615):IntKind.u64.wrap n=n:=wrap_u64 n h0 (by omega)
theorem tdiv_nn (a b:Int) (h:0≤a):Int.tdiv a b=a/b:=Int.tdiv_eq_ediv_of_nonneg h
theorem tmod_nn (a b:Int) (h:0≤a):Int.tmod a b=a%b:=Int.tmod_eq_emod_of_nonneg h
theorem k99 {α:Type} [Inhabited α] (l:List α) (i:Int) (h0:0≤i) (h1:i<(l.length:Int)):l.take (i+1).toNat=l.take i.toNat++[ix l i]:=by
 rw[ix_nat l i h0 h1,show(i+1).toNat=i.toNat+1 by omega,List.take_succ_eq_append_getElem (by omega)]
theorem drop_ix {α:Type} [Inhabited α] (l:List α) (i:Int) (h0:0≤i) (h1:i<(l.length:Int)):l.drop i.toNat=ix l i::l.drop (i+1).toNat:=by
 rw[ix_nat l i h0 h1,show(i+1).toNat=i.toNat+1 by omega]
 exact List.drop_eq_getElem_cons (by omega)
theorem kwn (a m:Int):∀k:Nat,(a%m)^k%m=a^k%m
 |0=>by simp
 |k+1=>by rw[Int.pow_succ,Int.pow_succ,Int.mul_emod,kwn a m k,Int.emod_emod_of_dvd _ (Int.dvd_refl _),←Int.mul_emod]
abbrev U64 (n:Int):Prop:=0≤n∧n<18446744073709551616
abbrev By (l:List Int):Prop:=∀x∈l,0≤x∧x<256
abbrev Us (l:List Int):Prop:=∀x∈l,0≤x∧x<18446744073709551616
def dig:Nat→Int→List Int
 |0,_=>[]
 |k+1,n=>n%256::dig k (n/256)
def val:List Int→Int
 |[]=>0
 |x::r=>x+256*val r
@[simp] theorem k8d:∀(k:Nat) (n:Int),(dig k n).length=k
 |0,_=>rfl
 |k+1,n=>by simp[dig,k8d k]
theorem ku1 (k:Nat):(256:Int)^(k+1)=256*256^k:=by rw[Int.pow_succ,Int.mul_comm]
theorem k1a9 (k:Nat):(0:Int)<256^k:=Int.pow_pos (by omega)
theorem k1i5:∀(k:Nat) (n:Int),dig (k+1) n=dig k n++[n/256^k%256]
 |0,n=>by simp[dig]
 |k+1,n=>by
  show n%256::dig (k+1) (n/256)=n%256::dig k (n/256)++_
  rw[k1i5 k (n/256),ku1,Int.ediv_ediv_of_nonneg (by omega)]
  rfl
theorem dig_by:∀(k:Nat) (n:Int),By (dig k n)
 |0,_=>by intro x hx;cases hx
 |k+1,n=>by
  intro x hx
  rcases List.mem_cons.1 hx with rfl|hx
  ·omega
  ·exact dig_by k _ x hx
theorem val_dig:∀(k:Nat) (n:Int),0≤n→n<256^k→val (dig k n)=n
 |0,n,h0,h=>by simp at h;simp[dig,val];omega
 |k+1,n,h0,h=>by
  rw[ku1]at h
  simp only[dig,val]
  rw[val_dig k (n/256) (by omega) (Int.ediv_lt_of_lt_mul (by omega) (by rw[Int.mul_comm];exact h))]
  omega
theorem k15m (k:Nat):(256:Int)^k=((2^(8*k):Nat):Int):=by rw[Nat.pow_mul,Int.natCast_pow];rfl
theorem k1ds {k m:Nat} (h:k≤m):(256:Int)^k≤256^m:=by
 rw[k15m,k15m]
 exact Int.ofNat_le.2 (Nat.pow_le_pow_right (by omega) (by omega))
theorem k138:∀(l:List Int),By l→0≤val l∧val l<256^l.length
 |[],_=>by simp[val]
 |x::r,h=>by
  have h1:=k138 r (fun y hy=>h y (by simp[hy]))
  have h2:=h x (by simp)
  rw[List.length_cons,ku1]
  simp only[val]
  omega
theorem dig_val:∀(l:List Int),By l→dig l.length (val l)=l
 |[],_=>rfl
 |x::r,h=>by
  have h1:=dig_val r (fun y hy=>h y (by simp[hy]))
  have h2:=h x (by simp)
  simp only[List.length_cons,dig,val]
  rw[show(x+256*val r)%256=x by omega,show(x+256*val r)/256=val r by omega,h1]
theorem dig_inj {k:Nat} {a b:Int} (ha:0≤a∧a<256^k) (hb:0≤b∧b<256^k) (h:dig k a=dig k b):a=b:=by
 rw[←val_dig k a ha.1 ha.2,h,val_dig k b hb.1 hb.2]
theorem val8 (l:List Int) (h:By l) (hl:l.length≤8):U64 (val l):=by
 have h1:=k138 l h
 have:(256:Int)^l.length≤256^8:=k1ds hl
 exact⟨h1.1,by omega⟩
def len4 (n:Int):Int:=if n<0∨4294967295<n then 0 else n
theorem len4_in {n:Int} (h:0≤n∧n≤4294967295):len4 n=n:=if_neg (by omega)
def encL (l:List Int):List Int:=dig 4 (len4 l.length)++l.flatMap (dig 8)
def encB (l:List Int):List Int:=dig 4 (len4 l.length)++l
theorem k10j (l:List Int):(l.flatMap (dig 8)).length=8*l.length:=by
 induction l with
 |nil=>rfl
 |cons x r ih=>rw[List.flatMap_cons,List.length_append,ih,k8d,List.length_cons];omega
@[simp] theorem k1ov (l:List Int):(encL l).length=4+8*l.length:=by rw[encL,List.length_append,k10j,k8d]
@[simp] theorem k1ow (l:List Int):(encB l).length=4+l.length:=by simp[encB]
theorem By.append {a b:List Int} (ha:By a) (hb:By b):By (a++b):=fun x hx=>(List.mem_append.1 hx).elim (ha x) (hb x)
theorem kx8 (l:List Int):By (l.flatMap (dig 8)):=fun x hx=>by
 obtain⟨y,_,hy⟩:=List.mem_flatMap.1 hx
 exact dig_by 8 y x hy
theorem By.take {l:List Int} (h:By l) (n:Nat):By (l.take n):=fun x hx=>h x (List.mem_of_mem_take hx)
theorem By.drop {l:List Int} (h:By l) (n:Nat):By (l.drop n):=fun x hx=>h x (List.mem_of_mem_drop hx)
theorem By.us {l:List Int} (h:By l):Us l:=fun x hx=>by have:=h x hx;omega
theorem ba_loop (b:ByteArray):∀(k i:Nat) (r:List UInt8),b.size-i=k→i≤b.size→ByteArray.toList.loop b i r=r.reverse++b.data.toList.drop i
 |0,i,r,h,hi=>by
  unfold ByteArray.toList.loop
  have hs:b.data.toList.length=b.size:=by rw[Array.length_toList];rfl
  rw[if_neg (by omega),List.drop_eq_nil_of_le (by omega),List.append_nil]
 |k+1,i,r,h,hi=>by
  unfold ByteArray.toList.loop
  have hs:b.data.toList.length=b.size:=by rw[Array.length_toList];rfl
  rw[if_pos (by omega),ba_loop b k (i+1) _ (by omega) (by omega),List.reverse_cons,List.append_assoc,List.drop_eq_getElem_cons (l:=b.data.toList) (i:=i) (by omega)]
  have e:b.get! i=b.data.toList[i]'(by omega):=by
   show b.data[i]! =_
   rw[getElem!_pos b.data i (show i<b.size by omega)]
   exact(Array.getElem_toList _).symm
  rw[e];rfl
theorem k1cq (b:ByteArray):b.toList=b.data.toList:=by
 have:=ba_loop b _ 0 [] rfl (by omega)
 simpa[ByteArray.toList]using this
theorem k1d7:∀{l m:List Int},By l→By m→(l.map fun n=>UInt8.ofNat n.toNat)=(m.map fun n=>UInt8.ofNat n.toNat)→l=m
 |[],[],_,_,_=>rfl
 |[],_::_,_,_,h=>by cases h
 |_::_,[],_,_,h=>by cases h
 |x::l,y::m,hl,hm,h=>by
  rw[List.map_cons,List.map_cons,List.cons.injEq]at h
  have e:=k1d7 (fun z hz=>hl z (by simp[hz])) (fun z hz=>hm z (by simp[hz])) h.2
  have h1:=hl x (by simp)
  have h2:=hm y (by simp)
  have h3:=congrArg UInt8.toNat h.1
  simp only[UInt8.toNat_ofNat']at h3
  rw[e,show x=y by omega]
theorem strEq {l m:List Int} (hl:By l) (hm:By m):((strOfNums l).toList==(strOfNums m).toList)=decide (l=m):=by
 rw[k1cq,k1cq,strOfNums_data,strOfNums_data]
 by_cases e:l=m
 ·subst e;simp
 ·rw[decide_eq_false e]
  rw[beq_eq_false_iff_ne]
  exact fun h=>e (k1d7 hl hm h)
end Go.Md
namespace Go.Md
open Go Go.Bv
def len64 (x:Int):Int:=if x=0 then 0 else(Nat.log2 x.toNat+1:Nat)
theorem kti (x:Int) (k:Nat) (h:((2^k:Nat):Int)≤x):len64 (x/((2^k:Nat):Int))+k=len64 x:=by
 obtain⟨n,rfl⟩:=Int.eq_ofNat_of_zero_le (by have:=Nat.two_pow_pos k;omega:0≤x)
 have hp:0<2^k:=Nat.two_pow_pos k
 have hn:2^k≤n:=by omega
 have e:((n:Int)/((2^k:Nat):Int))=((n/2^k:Nat):Int):=(Int.natCast_ediv _ _).symm
 have h1:0<n/2^k:=Nat.div_pos hn hp
 unfold len64
 rw[e,if_neg (by omega),if_neg (by omega),Int.toNat_natCast,Int.toNat_natCast]
 have:Nat.log2 n=Nat.log2 (n/2^k)+k:=by
  rw[Nat.log2_eq_iff (by omega)]
  have a:=Nat.log2_self_le (n:=n/2^k) (by omega)
  have b:=Nat.lt_log2_self (n:=n/2^k)
  rw[Nat.le_div_iff_mul_le hp]at a
  rw[Nat.div_lt_iff_lt_mul hp]at b
  constructor
  ·rw[Nat.pow_add];exact a
  ·rw[show Nat.log2 (n/2^k)+k+1=Nat.log2 (n/2^k)+1+k by omega,Nat.pow_add];exact b
 omega
theorem k18f (y:Int) (h:0<y∧y<18446744073709551616):∃s:Nat,64-len64 y=(s:Int)∧s≤63∧9223372036854775808≤y*((2^s:Nat):Int)∧y*((2^s:Nat):Int)<18446744073709551616:=by
 obtain⟨n,rfl⟩:=Int.eq_ofNat_of_zero_le (by omega:0≤y)
 have l:Nat.log2 n<64:=(Nat.log2_lt (by omega)).2 (by omega)
 have a:=Nat.log2_self_le (n:=n) (by omega)
 have b:=Nat.lt_log2_self (n:=n)
 refine⟨63-Nat.log2 n,?_,by omega,?_,?_⟩
 ·unfold len64
  rw[if_neg (by omega),Int.toNat_natCast]
  omega
 ·have:2^63≤n*2^(63-Nat.log2 n):=by
   rw[show(63:Nat)=Nat.log2 n+(63-Nat.log2 n)by omega,Nat.pow_add,show Nat.log2 n+(63-Nat.log2 n)-Nat.log2 n=63-Nat.log2 n by omega]
   exact Nat.mul_le_mul_right _ a
  rw[←Int.natCast_mul]
  generalize n*2^(63-Nat.log2 n)=m at *
  omega
 ·have:n*2^(63-Nat.log2 n)<2^64:=by
   rw[show(64:Nat)=Nat.log2 n+1+(63-Nat.log2 n)by omega,Nat.pow_add]
   exact Nat.mul_lt_mul_of_pos_right b (Nat.two_pow_pos _)
  rw[←Int.natCast_mul]
  generalize n*2^(63-Nat.log2 n)=m at *
  omega
def tab8:ByteArray:=⟨#[0,1,2,2,3,3,3,3,4,4,4,4,4,4,4,4,5,5,5,5,5,5,5,5,5,5,5,5,5,5,5,5,6,6,6,6,6,6,6,6,6,6,6,6,6,6,6,6,6,6,6,6,6,6,6,6,6,6,6,6,6,6,6,6,7,7,7,7,7,7,7,7,7,7,7,7,7,7,7,7,7,7,7,7,7,7,7,7,7,7,7,7,7,7,7,7,7,7,7,7,7,7,7,7,7,7,7,7,7,7,7,7,7,7,7,7,7,7,7,7,7,7,7,7,7,7,7,7,8,8,8,8,8,8,8,8,8,8,8,8,8,8,8,8,8,8,8,8,8,8,8,8,8,8,8,8,8,8,8,8,8,8,8,8,8,8,8,8,8,8,8,8,8,8,8,8,8,8,8,8,8,8,8,8,8,8,8,8,8,8,8,8,8,8,8,8,8,8,8,8,8,8,8,8,8,8,8,8,8,8,8,8,8,8,8,8,8,8,8,8,8,8,8,8,8,8,8,8,8,8,8,8,8,8,8,8,8,8,8,8,8,8,8,8,8,8,8,8,8,8,8,8,8,8,8,8]⟩
theorem k1of:∀b:Nat,b<256→Cv.byteAt tab8 (b:Int)=len64 (b:Int):=by decide +kernel
theorem k1hb (x:Int) (h:0≤x∧x<256):Cv.byteAt tab8 x=len64 x:=by
 obtain⟨n,rfl⟩:=Int.eq_ofNat_of_zero_le h.1
 exact k1of n (by omega)
theorem k1ky (x:Int) (h:0≤x∧x<256):0≤len64 x∧len64 x≤8:=by
 rw[←k1hb x h]
 obtain⟨n,rfl⟩:=Int.eq_ofNat_of_zero_le h.1
 have:∀b:Nat,b<256→0≤Cv.byteAt tab8 (b:Int)∧Cv.byteAt tab8 (b:Int)≤8:=by decide +kernel
 exact this n (by omega)
theorem k1ml:tab8.size=256:=by decide +kernel
end Go.Md
namespace Go.Md
open Go Go.Bv Go.Cv Go.Md Go.RowKit
section
variable {α β:Type}
def AllI (f:α→Bool) (l:List α) (i:Int):Prop:=0≤i∧i≤l.length∧∀x∈l.take i.toNat,f x=true
theorem AllI.start {f:α→Bool} {l:List α}:AllI f l 0:=⟨by omega,by omega,by simp⟩
theorem AllI.next [Inhabited α] {f:α→Bool} {l:List α} {i:Int} (h:AllI f l i) (hh:i<l.length) (hl:(l.length:Int)≤9223372036854775807) (hf:f (ix l i)=true):
  AllI f l (IntKind.i64.wrap (i+1))∧(l.length-IntKind.i64.wrap (i+1)).toNat<(l.length-i).toNat:=by
 obtain⟨g0,g1,g2⟩:=h
 rw[inc i l.length g0 hh hl]
 refine⟨⟨by omega,by omega,?_⟩,by omega⟩
 rw[k99 l i g0 hh]
 intro x hx
 rcases List.mem_append.1 hx with hx|hx
 ·exact g2 x hx
 ·have:x=ix l i:=by simpa using hx
  rw[this];exact hf
theorem AllI.bad [Inhabited α] {f:α→Bool} {l:List α} {i:Int} (h:AllI f l i) (hh:i<l.length) (hf:f (ix l i)=false):l.all f=false:=
 List.all_eq_false.2 ⟨ix l i,Md.ix_mem l i h.1 hh,by simp[hf]⟩
theorem AllI.done {f:α→Bool} {l:List α} {i:Int} (h:AllI f l i) (hh:¬i<l.length):l.all f=true:=by
 obtain⟨g0,g1,g2⟩:=h
 rw[List.take_of_length_le (by omega)]at g2
 exact List.all_eq_true.2 g2
def FoldI (f:β→α→β) (z:β) (l:List α) (i:Int) (s:β):Prop:=0≤i∧i≤l.length∧s=(l.take i.toNat).foldl f z
theorem FoldI.start {f:β→α→β} {z:β} {l:List α}:FoldI f z l 0 z:=⟨by omega,by omega,by simp⟩
theorem FoldI.next [Inhabited α] {f:β→α→β} {z:β} {l:List α} {i:Int} {s s' :β} (h:FoldI f z l i s) (hh:i<l.length) (hl:(l.length:Int)≤9223372036854775807) (hs:s' =f s (ix l i)):
  FoldI f z l (IntKind.i64.wrap (i+1)) s'∧(l.length-IntKind.i64.wrap (i+1)).toNat<(l.length-i).toNat:=by
 obtain⟨g0,g1,g2⟩:=h
 rw[inc i l.length g0 hh hl]
 refine⟨⟨by omega,by omega,?_⟩,by omega⟩
 rw[k99 l i g0 hh,List.foldl_append,←g2,hs]
 rfl
theorem FoldI.done {f:β→α→β} {z:β} {l:List α} {i:Int} {s:β} (h:FoldI f z l i s) (hh:¬i<l.length):s=l.foldl f z:=by
 obtain⟨g0,g1,g2⟩:=h
 rwa [List.take_of_length_le (by omega)]at g2
def FlatI (f:α→List β) (z:List β) (l:List α) (i:Int) (s:List β):Prop:=0≤i∧i≤l.length∧s=z++(l.take i.toNat).flatMap f
theorem FlatI.start {f:α→List β} {z:List β} {l:List α}:FlatI f z l 0 z:=⟨by omega,by omega,by simp⟩
theorem FlatI.next [Inhabited α] {f:α→List β} {z:List β} {l:List α} {i:Int} {s s' :List β} (h:FlatI f z l i s) (hh:i<l.length) (hl:(l.length:Int)≤9223372036854775807) (hs:s' =s++f (ix l i)):
  FlatI f z l (IntKind.i64.wrap (i+1)) s'∧(l.length-IntKind.i64.wrap (i+1)).toNat<(l.length-i).toNat:=by
 obtain⟨g0,g1,g2⟩:=h
 rw[inc i l.length g0 hh hl]
 refine⟨⟨by omega,by omega,?_⟩,by omega⟩
 rw[k99 l i g0 hh,List.flatMap_append,hs,g2]
 simp
theorem FlatI.done {f:α→List β} {z:List β} {l:List α} {i:Int} {s:List β} (h:FlatI f z l i s) (hh:¬i<l.length):s=z++l.flatMap f:=by
 obtain⟨g0,g1,g2⟩:=h
 rwa [List.take_of_length_le (by omega)]at g2
theorem FlatI.len {f:α→List β} {z:List β} {l:List α} {i:Int} {s:List β} (h:FlatI f z l i s) (k:Nat) (hk:∀x∈l,(f x).length≤k):s.length≤z.length+k*l.length:=by
 obtain⟨g0,g1,g2⟩:=h
 have key:∀(m:List α),(∀x∈m,(f x).length≤k)→(m.flatMap f).length≤k*m.length:=by
  intro m
  induction m with
  |nil=>simp
  |cons a m ih=>
   intro hm
   have h1:=ih (fun x hx=>hm x (by simp[hx]))
   have h2:=hm a (by simp)
   rw[List.flatMap_cons,List.length_append,List.length_cons,Nat.mul_add]
   omega
 have h1:=key (l.take i.toNat) (fun x hx=>hk x (List.mem_of_mem_take hx))
 have h2:k*(l.take i.toNat).length≤k*l.length:=Nat.mul_le_mul_left _ (by rw[List.length_take];omega)
 rw[g2,List.length_append]
 omega
def MapI (f:α→β) (l:List α) (i:Int) (s:List β):Prop:=0≤i∧i≤l.length∧s=(l.take i.toNat).map f
theorem MapI.start {f:α→β} {l:List α}:MapI f l 0 []:=⟨by omega,by omega,by simp⟩
theorem MapI.next [Inhabited α] {f:α→β} {l:List α} {i:Int} {s s' :List β} (h:MapI f l i s) (hh:i<l.length) (hl:(l.length:Int)≤9223372036854775807) (hs:s' =s++[f (ix l i)]):
  MapI f l (IntKind.i64.wrap (i+1)) s'∧(l.length-IntKind.i64.wrap (i+1)).toNat<(l.length-i).toNat:=by
 obtain⟨g0,g1,g2⟩:=h
 rw[inc i l.length g0 hh hl]
 refine⟨⟨by omega,by omega,?_⟩,by omega⟩
 rw[k99 l i g0 hh,List.map_append,hs,g2]
 simp
theorem MapI.done {f:α→β} {l:List α} {i:Int} {s:List β} (h:MapI f l i s) (hh:¬i<l.length):s=l.map f:=by
 obtain⟨g0,g1,g2⟩:=h
 rwa [List.take_of_length_le (by omega)]at g2
theorem MapI.len {f:α→β} {l:List α} {i:Int} {s:List β} (h:MapI f l i s):s.length=i.toNat:=by
 obtain⟨g0,g1,g2⟩:=h
 rw[g2,List.length_map,List.length_take];omega
def EqI [Inhabited α] (f:α→α→Bool) (l m:List α) (i:Int):Prop:=0≤i∧i≤l.length∧∀j:Nat,(j:Int)<i→f (ix l j) (ix m j)=true
theorem EqI.start [Inhabited α] {f:α→α→Bool} {l m:List α}:EqI f l m 0:=⟨by omega,by omega,fun j hj=>by omega⟩
theorem EqI.next [Inhabited α] {f:α→α→Bool} {l m:List α} {i:Int} (h:EqI f l m i) (hh:i<l.length) (hl:(l.length:Int)≤9223372036854775807) (hf:f (ix l i) (ix m i)=true):
  EqI f l m (IntKind.i64.wrap (i+1))∧(l.length-IntKind.i64.wrap (i+1)).toNat<(l.length-i).toNat:=by
 obtain⟨g0,g1,g2⟩:=h
 rw[inc i l.length g0 hh hl]
 refine⟨⟨by omega,by omega,fun j hj=> ?_⟩,by omega⟩
 by_cases hji:(j:Int)=i
 ·rw[hji];exact hf
 ·exact g2 j (by omega)
def eqB (f:α→α→Bool):List α→List α→Bool
 |[],[]=>true
 |a::l,b::m=>f a b&&eqB f l m
 |_,_=>false
theorem eqB_iff [Inhabited α] {f:α→α→Bool}:∀{l m:List α},eqB f l m=true↔l.length=m.length∧∀j:Nat,j<l.length→f (ix l (j:Int)) (ix m (j:Int))=true
 |[],[]=>by simp[eqB]
 |[],_::_=>by simp[eqB]
 |_::_,[]=>by simp[eqB]
 |a::l,b::m=>by
  have e:∀(a:α) (l:List α) (j:Nat),j<l.length→ix (a::l) ((j+1:Nat):Int)=ix l (j:Int):=by
   intro a l j hj
   rw[ix_nat _ _ (by omega) (by simp;omega),ix_nat _ _ (by omega) (by omega)]
   rfl
  have e0:∀(a:α) (l:List α),ix (a::l) ((0:Nat):Int)=a:=fun a l=>by rw[ix_nat _ _ (by omega) (by simp)];rfl
  simp only[eqB,Bool.and_eq_true,eqB_iff,List.length_cons]
  constructor
  ·rintro ⟨h1,h2,h3⟩
   refine⟨by omega,fun j hj=> ?_⟩
   cases j with
   |zero=>rw[e0,e0];exact h1
   |succ j=>rw[e a l j (by omega),e b m j (by omega)];exact h3 j (by omega)
  ·rintro ⟨h1,h2⟩
   have h3:=h2 0 (by omega)
   rw[e0,e0]at h3
   refine⟨h3,by omega,fun j hj=> ?_⟩
   have:=h2 (j+1) (by omega)
   rwa [e a l j (by omega),e b m j (by omega)]at this
theorem EqI.bad [Inhabited α] {f:α→α→Bool} {l m:List α} {i:Int} (h:EqI f l m i) (hh:i<l.length) (hf:f (ix l i) (ix m i)=false):eqB f l m=false:=by
 cases hq:eqB f l m with
 |false=>rfl
 |true=>
  have h0:=h.1
  have:=(eqB_iff.1 hq).2 i.toNat (by omega)
  rw[Int.toNat_of_nonneg h.1,hf]at this
  cases this
theorem EqI.done [Inhabited α] {f:α→α→Bool} {l m:List α} {i:Int} (h:EqI f l m i) (hlm:l.length=m.length) (hh:¬i<l.length):eqB f l m=true:=
 eqB_iff.2 ⟨hlm,fun j hj=>h.2.2 j (by omega)⟩
end
theorem k1d1 {α:Type} {p:α→Bool}:∀{l:List α},mIdx p l=none↔∀x∈l,p x=false
 |[]=>by simp[mIdx]
 |x::l=>by
  cases hp:p x with
  |true=>simp[mIdx,hp]
  |false=>simp only[mIdx,hp,cond_false,Option.map_eq_none_iff,k1d1,List.mem_cons,forall_eq_or_imp,true_and]
theorem kmr {α:Type} {p:α→Bool}:∀{l:List α} {j:Nat},mIdx p l=some j→∃x,l[j]? =some x∧p x=true
 |[],_,h=>by cases h
 |x::l,j,h=>by
  cases hp:p x with
  |true=>simp only[mIdx,hp,cond_true,Option.some.injEq]at h;subst h;exact⟨x,rfl,hp⟩
  |false=>
   simp only[mIdx,hp,cond_false,Option.map_eq_some_iff]at h
   obtain⟨i,h1,rfl⟩:=h
   obtain⟨y,h2,h3⟩:=kmr h1
   exact⟨y,by simpa using h2,h3⟩
@[simp] theorem k1ox {α:Type} (p:α→Bool):mHas p []=false:=rfl
@[simp] theorem k1oy {α β:Type} (p:α→Bool) (z:β) (vs:List β):mVal p [] vs z=z:=rfl
theorem k1op {α β:Type} {p:α→Bool} {ks:List α} {vs:List β} {z:β} (h:mHas p ks=true) (hl:ks.length=vs.length):mVal p ks vs z∈vs:=by
 unfold mHas at h
 unfold mVal
 cases hm:mIdx p ks with
 |none=>rw[hm]at h;cases h
 |some j=>
  obtain⟨x,h1,h2⟩:=kmr hm
  have hj:j<vs.length:=by have:=(List.getElem?_eq_some_iff.1 h1).1;omega
  simp only[List.getElem?_eq_getElem hj,Option.getD_some]
  exact List.getElem_mem hj
theorem k1in (a:Int) (h:0≤a∧a<4611686018427387904):iand .i64 a 1=a%2:=by
 obtain⟨n,rfl⟩:=Int.eq_ofNat_of_zero_le h.1
 unfold iand
 have e1:(BitVec.ofInt IntKind.i64.bits (n:Int)).toNat=n:=ki5 n (by omega)
 have e2:(BitVec.ofInt IntKind.i64.bits (1:Int)).toNat=1:=ki5 1 (by omega)
 rw[BitVec.toNat_and,e1,e2,Nat.and_one_is_mod]
 rw[wi _ (by omega) (by omega)]
 omega
end Go.Md
namespace Go.Proofs.Ytpffhgljgpjenaa
open Go Go.Bv Go.Cv Go.Md Go.RowKit
def rc (r i:Int):Int:=(3*r+i+1)*11400714819323198485%18446744073709551616%18446744069414584321
def mixS (s:TA3):TA3:=⟨(s.a0+((s.a0+s.a1)%18446744069414584321+s.a2)%18446744069414584321)%18446744069414584321,(s.a1+((s.a0+s.a1)%18446744069414584321+s.a2)%18446744069414584321)%18446744069414584321,(s.a2+((s.a0+s.a1)%18446744069414584321+s.a2)%18446744069414584321)%18446744069414584321⟩
def pw (a e:Int):Int:=a^e.toNat%18446744069414584321
def rnd (s:TA3) (r:Int):TA3:=mixS ⟨pw ((s.a0+rc r 0)%18446744069414584321) 7,pw ((s.a1+rc r 1)%18446744069414584321) 7,pw ((s.a2+rc r 2)%18446744069414584321) 7⟩
def rnds:Nat→TA3→TA3
 |0,s=>s
 |n+1,s=>rnd (rnds n s) n
def permS (s:TA3):TA3:=rnds 8 s
def absL:List Int→TA3→TA3
 |[],s=>s
 |[x],s=>permS ⟨(s.a0+x)%18446744069414584321,s.a1,s.a2⟩
 |x::y::r,s=>absL r (permS ⟨(s.a0+x)%18446744069414584321,(s.a1+y)%18446744069414584321,s.a2⟩)
def absI (label:Int) (l:List Int):TA3:=⟨0,0,(label*65536%18446744069414584321+(l.length:Int))%18446744069414584321⟩
def absS (label:Int) (l:List Int):TA3:=if l=[]then permS (absI label l)else absL l (absI label l)
def hashS (label:Int) (l:List Int):Int:=(absS label l).a0
def S3 (s:TA3):Prop:=U64 s.a0∧U64 s.a1∧U64 s.a2
theorem S3m {a b c:Int} (ha:U64 a) (hb:U64 b) (hc:U64 c):S3 ⟨a,b,c⟩:=⟨ha,hb,hc⟩
theorem kct (s:TA3):S3 (permS s):=by
 show S3 (rnd _ _)
 unfold rnd mixS S3
 dsimp only
 omega
theorem k19d:∀(l:List Int) (s:TA3),S3 s→S3 (absL l s)
 |[],_,h=>h
 |[_],_,_=>kct _
 |_::_::r,_,_=>k19d r _ (kct _)
theorem k9w (label:Int) (l:List Int):U64 (hashS label l):=by
 unfold hashS absS
 split
 ·exact(kct _).1
 ·rename_i h
  match l,h with
  |[_],_=>exact(kct _).1
  |_::_::r,_=>exact(k19d r _ (kct _)).1
theorem k16s (s:TA3):(permS s).a0<18446744069414584321:=by
 show(rnd _ _).a0<_
 unfold rnd mixS
 dsimp only
 omega
theorem absL_lt:∀(l:List Int) (s:TA3),l≠[]→(absL l s).a0<18446744069414584321
 |[],_,h=>(h rfl).elim
 |[_],_,_=>k16s _
 |[_,_],_,_=>k16s _
 |_::_::x::r,s,_=>absL_lt (x::r) _ (by simp)
theorem k17f (label:Int) (l:List Int):hashS label l<18446744069414584321:=by
 unfold hashS absS
 split
 ·exact k16s _
 ·rename_i h;exact absL_lt _ _ h
structure RD where
 n:Int
 ok:Bool
 pos:Int
 fail:Bool
structure RL where
 l:List Int
 pos:Int
 fail:Bool
structure RdOk (b:List Int) (pos:Int):Prop where
 by_:By b
 len:b.length≤137438953472
 pos0:0≤pos
 pos1:pos≤b.length
def rdD (b:List Int) (pos:Int) (f:Bool) (size:Int):RD:=
 if f=true∨(b.length:Int)-pos<size then⟨0,false,pos,true⟩else⟨val ((b.drop pos.toNat).take size.toNat),true,pos+size,false⟩
def rdI (b:List Int) (pos:Int) (f:Bool) (m:Int):RD:=
 if(rdD b pos f 4).ok=false∨m<(rdD b pos f 4).n then⟨0,false,(rdD b pos f 4).pos,true⟩else rdD b pos f 4
def rdB (b:List Int) (pos:Int) (f:Bool) (m:Int):RL:=
 if(rdI b pos f m).fail=true∨(b.length:Int)-(rdI b pos f m).pos<(rdI b pos f m).n then⟨[],(rdI b pos f m).pos,true⟩else⟨(b.take ((rdI b pos f m).pos+(rdI b pos f m).n).toNat).drop (rdI b pos f m).pos.toNat,(rdI b pos f m).pos+(rdI b pos f m).n,false⟩
theorem cut_dig {b:List Int} (h:By b) (k:Nat) (hk:k≤b.length):b=dig k (val (b.take k))++b.drop k:=by
 have:=dig_val (b.take k) (h.take k)
 rw[List.length_take,Nat.min_eq_left hk]at this
 rw[this,List.take_append_drop]
theorem put_dig {b r:List Int} {k:Nat} {n:Int} (h:b=dig k n++r) (h0:0≤n) (h1:n<256^k):val (b.take k)=n∧b.drop k=r∧k≤b.length:=by
 subst h
 rw[List.take_left' (k8d k n),List.drop_left' (k8d k n),List.length_append,k8d]
 exact⟨val_dig k n h0 h1,rfl,by omega⟩
def nums:Nat→List Int→List Int
 |0,_=>[]
 |k+1,b=>val (b.take 8)::nums k (b.drop 8)
@[simp] theorem kt3:∀(k:Nat) (b:List Int),(nums k b).length=k
 |0,_=>rfl
 |k+1,b=>by simp[nums,kt3 k]
theorem nums_us:∀(k:Nat) {b:List Int},By b→Us (nums k b)
 |0,_,_=>by intro x hx;cases hx
 |k+1,b,h=>by
  intro x hx
  rcases List.mem_cons.1 hx with rfl|hx
  ·exact val8 _ (h.take 8) (by rw[List.length_take];omega)
  ·exact nums_us k (h.drop 8) x hx
theorem k1hp:∀(k:Nat) {b:List Int},By b→8*k≤b.length→b=(nums k b).flatMap (dig 8)++b.drop (8*k)
 |0,_,_,_=>rfl
 |k+1,b,h,hk=>by
  have h1:=cut_dig h 8 (by omega)
  have h2:=k1hp k (h.drop 8) (by rw[List.length_drop];omega)
  rw[List.drop_drop,show 8+8*k=8*(k+1)by omega]at h2
  simp only[nums,List.flatMap_cons,List.append_assoc]
  rw[←h2]
  exact h1
theorem k1jk:∀(l:List Int) {b r:List Int},b=l.flatMap (dig 8)++r→Us l→nums l.length b=l∧b.drop (8*l.length)=r∧8*l.length≤b.length
 |[],b,r,h,_=>⟨rfl,by simpa using h,by simp⟩
 |x::l,b,r,h,hu=>by
  rw[List.flatMap_cons,List.append_assoc]at h
  have hx:=hu x (by simp)
  obtain⟨h1,h2,h3⟩:=put_dig h hx.1 (by omega)
  obtain⟨g1,g2,g3⟩:=k1jk l h2 (fun y hy=>hu y (by simp[hy]))
  rw[List.length_drop]at g3
  refine⟨?_,?_,?_⟩
  ·simp only[List.length_cons,nums,h1,g1]
  ·rw[List.drop_drop,show 8+8*l.length=8*(l.length+1)by omega]at g2
   simpa using g2
  ·rw[List.length_cons];omega
section
variable {b:List Int} {pos m p:Int} {f:Bool}
end
structure RB where
 l:List Int
 b:List Int
 f:Bool
structure RN where
 n:Int
 b:List Int
 f:Bool
def tkB (b:List Int) (f:Bool) (k:Int):RB:=if f=true∨(b.length:Int)<k then⟨[],b,true⟩else⟨b.take k.toNat,b.drop k.toNat,false⟩
def nB (k:Int) (b:List Int) (f:Bool) (m:Int):RN:=if(tkB b f k).f=true∨m<val (tkB b f k).l then⟨0,(tkB b f k).b,true⟩else⟨val (tkB b f k).l,(tkB b f k).b,false⟩
section
variable {b r:List Int} {f:Bool} {k m n:Int}
theorem tkB_l (h:By b):By (tkB b f k).l:=by
 unfold tkB;split
 ·intro x hx;cases hx
 ·exact h.take _
theorem tkB_b (h:By b):By (tkB b f k).b∧(tkB b f k).b.length≤b.length:=by
 unfold tkB;split
 ·exact⟨h,Nat.le_refl _⟩
 ·exact⟨h.drop _,by show(b.drop _).length≤_;rw[List.length_drop];omega⟩
theorem tkB_len:((tkB b f k).l.length:Int)≤max k 0:=by
 unfold tkB;split
 ·simp;omega
 ·show((b.take _).length:Int)≤_;rw[List.length_take];omega
theorem tkB_snd (hk:0≤k) (h:(tkB b f k).f=false):f=false∧b=(tkB b f k).l++(tkB b f k).b∧((tkB b f k).l.length:Int)=k:=by
 unfold tkB at *
 split at h
 ·cases h
 ·rename_i hn
  rw[if_neg hn]
  refine⟨?_,(List.take_append_drop _ _).symm,?_⟩
  ·cases f
   ·rfl
   ·exact absurd (.inl rfl) hn
  ·show((b.take k.toNat).length:Int)=k
   have:¬(b.length:Int)<k:=fun h=>hn (.inr h)
   rw[List.length_take];omega
theorem tkB_cpl {l:List Int} (hf:f=false) (h:b=l++r) (hl:(l.length:Int)=k):tkB b f k=⟨l,r,false⟩:=by
 subst h
 unfold tkB
 rw[if_neg (by rw[hf,List.length_append];simp;omega),show k.toNat=l.length by omega,List.take_left' rfl,List.drop_left' rfl]
theorem nB_b (h:By b):By (nB k b f m).b∧(nB k b f m).b.length≤b.length:=by
 unfold nB;split<;>exact tkB_b h
theorem nB_n (h:By b) (hk:0≤k):0≤(nB k b f m).n∧(nB k b f m).n<256^k.toNat:=by
 unfold nB;split
 ·exact⟨Int.le_refl 0,k1a9 _⟩
 ·have h1:=k138 _ (tkB_l (f:=f) (k:=k) h)
  have h2:=tkB_len (b:=b) (f:=f) (k:=k)
  have h3:(256:Int)^(tkB b f k).l.length≤256^k.toNat:=k1ds (by omega)
  exact⟨h1.1,Int.lt_of_lt_of_le h1.2 h3⟩
theorem nB_snd (h:By b) (hk:0≤k) (hf:(nB k b f m).f=false):f=false∧b=dig k.toNat (nB k b f m).n++(nB k b f m).b∧(nB k b f m).n≤m:=by
 unfold nB at *
 split at hf
 ·cases hf
 ·rename_i hn
  rw[if_neg hn]
  have ht:(tkB b f k).f=false:=by
   cases hc:(tkB b f k).f
   ·rfl
   ·exact absurd (.inl hc) hn
  obtain⟨h1,h2,h3⟩:=tkB_snd hk ht
  refine⟨h1,?_,by show val _≤m;have:¬m<val (tkB b f k).l:=fun h=>hn (.inr h);omega⟩
  show b=dig k.toNat (val (tkB b f k).l)++(tkB b f k).b
  have:=dig_val (tkB b f k).l (tkB_l h)
  rw[show(tkB b f k).l.length=k.toNat by omega]at this
  rw[this]
  exact h2
theorem nB_cpl (hk:0≤k) (hf:f=false) (h:b=dig k.toNat n++r) (h0:0≤n) (h1:n<256^k.toNat) (hm:n≤m):nB k b f m=⟨n,r,false⟩:=by
 unfold nB
 rw[tkB_cpl hf h (by rw[k8d];omega)]
 show(if false=true∨m<val (dig k.toNat n)then _ else _)=_
 rw[val_dig k.toNat n h0 h1,if_neg (by simp;omega)]
end
def allB (l:List Int):Bool:=l.all (fun x=>decide (x<18446744069414584321))
theorem khp {l:List Int}:allB l=true↔∀x∈l,x<18446744069414584321:=by unfold allB;simp
def keyB (ns l:List Int):ByteArray:=strOfNums (ns.flatMap (dig 8)++l.flatMap (dig 8))
structure OrOk (ks:List ByteArray) (vs:List Int) (qs:List TQuestion):Prop where
 len:ks.length=vs.length
 rng:∀v∈vs,0≤v∧v<qs.length
def pk (ideal:Bool) (qs:List TQuestion) (ks:List ByteArray) (vs:List Int) (label:Int) (l:List Int):Option Int:=
 if allB l=true then(if mHas (BEq.beq (keyB [label] l)) ks=true then some (ix qs (mVal (BEq.beq (keyB [label] l)) ks vs 0)).Answer else if ideal=true then none else some (hashS label l))else none
def pkR (label:Int) (l:List Int):Option Int:=if allB l=true then some (hashS label l)else none
theorem pk_real (qs:List TQuestion) (label:Int) (l:List Int):pk false qs [] [] label l=pkR label l:=by unfold pk pkR;simp
structure OS where
 a:Bool
 b:Int
 c:Int
 q:List TQuestion
 k:List ByteArray
 v:List Int
 s:List ByteArray
 t:List (List Int)
 x:List ByteArray
 y:List Bool
structure HR where
 n:Int
 o:OS
theorem OS_eta (o:OS):OS.mk o.a o.b o.c o.q o.k o.v o.s o.t o.x o.y=o:=rfl
def mixN (v1:Int):Int:=
 let v2:Int:=IntKind.u64.wrap ((ixor .u64 v1 (ishr .u64 v1 30))*13787848793156543929)
 let v3:Int:=IntKind.u64.wrap ((ixor .u64 v2 (ishr .u64 v2 27))*10723151780598845931)
 Int.tmod (ixor .u64 v3 (ishr .u64 v3 31)) 18446744069414584321
def drO (o:OS):HR:=if o.a=true then⟨mixN (IntKind.u64.wrap (o.b+11400714819323198485)),⟨o.a,IntKind.u64.wrap (o.b+11400714819323198485),IntKind.i64.wrap (o.c+1),o.q,o.k,o.v,o.s,o.t,o.x,o.y⟩⟩else⟨0,o⟩
def recO (o:OS) (key:ByteArray) (label:Int) (l:List Int) (n:Int):OS:=⟨o.a,o.b,o.c,o.q++[⟨label,l,n⟩],mPutK (BEq.beq key) o.k key,mPutV (BEq.beq key) o.k o.v (o.q.length:Int),o.s,o.t,o.x,o.y⟩
def ansO (o:OS) (label:Int) (l:List Int):HR:=if o.a=true then drO o else⟨hashS label l,o⟩
def hO (o:OS) (label:Int) (l:List Int):HR:=
 if allB l=true then(if mHas (BEq.beq (keyB [label] l)) o.k=true then⟨(ix o.q (mVal (BEq.beq (keyB [label] l)) o.k o.v 0)).Answer,o⟩
  else⟨(ansO o label l).n,recO (ansO o label l).o (keyB [label] l) label l (ansO o label l).n⟩)else⟨0,o⟩
structure OOk (o:OS):Prop where
 or:OrOk o.k o.v o.q
 q:o.q.length≤1000000
 n:∀x∈o.q,0≤x.Answer∧x.Answer<18446744069414584321
 e:∀x∈o.q,x.Elems.length≤1000000000
def zO (ideal:Bool) (seed:Int):OS:=⟨ideal,seed,0,[],[],[],[],[],[],[]⟩
theorem ansO_q (o:OS) (label:Int) (l:List Int):(ansO o label l).o.q=o.q∧(ansO o label l).o.k=o.k∧(ansO o label l).o.v=o.v∧(ansO o label l).o.a=o.a:=by
 unfold ansO drO
 split
 ·exact⟨rfl,rfl,rfl,rfl⟩
 ·exact⟨rfl,rfl,rfl,rfl⟩
theorem k1hy {α:Type} {p:α→Bool} {ks:List α} {k:α} (h:mHas p ks=false):mPutK p ks k=ks++[k]:=by
 unfold mPutK
 unfold mHas at h
 cases hi:mIdx p ks with
 |none=>rfl
 |some j=>rw[hi]at h;cases h
theorem k1iy {α β:Type} {p:α→Bool} {ks:List α} {vs:List β} {v:β} (h:mHas p ks=false):mPutV p ks vs v=vs++[v]:=by
 unfold mPutV
 unfold mHas at h
 cases hi:mIdx p ks with
 |none=>rfl
 |some j=>rw[hi]at h;cases h
theorem k1ni (a b:Int):U64 (ixor .u64 a b):=by
 unfold ixor
 rw[IntKind.wrap_u64]
 omega
theorem mixN_lt (x:Int):0≤mixN x∧mixN x<18446744069414584321:=by
 unfold mixN
 dsimp only
 generalize hv:ixor .u64 _ _=v
 have:U64 v:=by rw[←hv];exact k1ni _ _
 rw[tmod_nn v _ this.1]
 omega
theorem ansO_n (o:OS) (label:Int) (l:List Int):0≤(ansO o label l).n∧(ansO o label l).n<18446744069414584321:=by
 unfold ansO drO
 split
 ·exact mixN_lt _
 ·exact⟨(k9w _ _).1,k17f _ _⟩
theorem kxp {o:OS} (h:OOk o) {p:ByteArray→Bool} (hm:mHas p o.k=true):0≤mVal p o.k o.v 0∧mVal p o.k o.v 0<o.q.length:=h.or.rng _ (k1op hm h.or.len)
theorem OOk.lt {o:OS} (h:OOk o) (label:Int) (l:List Int):0≤(hO o label l).n∧(hO o label l).n<18446744069414584321:=by
 unfold hO
 split
 ·split
  ·rename_i hm
   have:=kxp h hm
   exact h.n _ (ix_mem _ _ this.1 this.2)
  ·exact ansO_n _ _ _
 ·exact⟨Int.le_refl 0,show(0:Int)<18446744069414584321 by decide⟩
theorem OOk.h {o:OS} (h:OOk o) (label:Int) {l:List Int} (hl:l.length≤1000000000) (hq:o.q.length≤999999):OOk (hO o label l).o∧o.q.length≤(hO o label l).o.q.length∧(hO o label l).o.q.length≤o.q.length+1:=by
 obtain⟨e1,e2,e3,_⟩:=ansO_q o label l
 unfold hO
 split
 ·split
  ·exact⟨h,Nat.le_refl _,Nat.le_succ _⟩
  ·rename_i hn
   have hn:mHas (BEq.beq (keyB [label] l)) o.k=false:=by simpa using hn
   simp only[recO,e1,e2,e3,k1hy hn,k1iy hn]
   refine⟨⟨⟨by simp[h.or.len],fun v hv=> ?_⟩,by simp;omega,fun x hx=> ?_,fun x hx=> ?_⟩,by simp,by simp⟩
   ·rcases List.mem_append.1 hv with hv|hv
    ·have:=h.or.rng v hv
     simp
     omega
    ·rw[List.mem_singleton.1 hv]
     simp
     omega
   ·rcases List.mem_append.1 hx with hx|hx
    ·exact h.n x hx
    ·rw[List.mem_singleton.1 hx]
     exact ansO_n _ _ _
   ·rcases List.mem_append.1 hx with hx|hx
    ·exact h.e x hx
    ·rw[List.mem_singleton.1 hx]
     exact hl
 ·exact⟨h,Nat.le_refl _,Nat.le_succ _⟩
theorem OOk.z (ideal:Bool) (seed:Int):OOk (zO ideal seed):=⟨⟨rfl,fun v hv=>by cases hv⟩,Nat.zero_le _,(fun x hx=>by cases hx),(fun x hx=>by cases hx)⟩
def SetI {α:Type} (f:Nat→α) (n:Nat) (i:Int) (g:List α):Prop:=0≤i∧i≤n∧g.length=n∧∀j:Nat,(j:Int)<i→g[j]? =some (f j)
theorem SetI.start {α:Type} {f:Nat→α} {n:Nat} {g:List α} (h:g.length=n):SetI f n 0 g:=⟨by omega,by omega,h,fun j hj=>by omega⟩
theorem SetI.next {α:Type} {f:Nat→α} {n:Nat} {i:Int} {g:List α} {x:α} (h:SetI f n i g) (hh:i<n) (hn:(n:Int)≤9223372036854775807) (hx:x=f i.toNat):SetI f n (IntKind.i64.wrap (i+1)) (g.set i.toNat x)∧(n-IntKind.i64.wrap (i+1)).toNat<(n-i).toNat:=by
 obtain⟨g0,g1,g2,g3⟩:=h
 rw[inc i n g0 hh hn]
 refine⟨⟨by omega,by omega,by rw[List.length_set];exact g2,fun j hj=> ?_⟩,by omega⟩
 rw[List.getElem?_set]
 by_cases e:i.toNat=j
 ·rw[if_pos e,if_pos (by omega),hx,e]
 ·rw[if_neg e]
  exact g3 j (by omega)
theorem SetI.done {α:Type} {f:Nat→α} {n:Nat} {i:Int} {g:List α} (h:SetI f n i g) (hh:¬i<n):g=(List.range n).map f:=by
 obtain⟨g0,g1,g2,g3⟩:=h
 refine List.ext_getElem? fun j=> ?_
 rw[List.getElem?_map]
 by_cases hj:j<n
 ·rw[g3 j (by omega),List.getElem?_range hj];rfl
 ·rw[List.getElem?_eq_none (by omega),List.getElem?_eq_none (by simp;omega)];rfl
theorem k1nj {α:Type} [Inhabited α] (l:List α):(List.range l.length).map (fun(j:Nat)=>ix l (j:Int))=l:=by
 refine List.ext_getElem? fun j=> ?_
 rw[List.getElem?_map]
 by_cases hj:j<l.length
 ·rw[List.getElem?_range hj,List.getElem?_eq_getElem hj]
  simp only[Option.map_some]
  rw[ix_nat l _ (by omega) (by omega)]
  simp
 ·rw[List.getElem?_eq_none (by simp;omega),List.getElem?_eq_none (by omega)];rfl
def keyQ (x:TQuestion):ByteArray:=keyB [x.Label] x.Elems
structure QOk (x:TQuestion):Prop where
 l:U64 x.Label
 e:Us x.Elems
 b:allB x.Elems=true
structure RO (o:OS):Prop where
 k:o.k=o.q.map keyQ
 v:o.v=(List.range o.q.length).map fun(j:Nat)=>(j:Int)
 q:∀x∈o.q,QOk x
theorem RO.or {o:OS} (h:RO o):OrOk o.k o.v o.q:=⟨by rw[h.k,h.v];simp,fun v hv=>by
 rw[h.v]at hv
 obtain⟨j,hj,rfl⟩:=List.mem_map.1 hv
 have:=List.mem_range.1 hj
 omega⟩
theorem k1e9 {l m:List Int} (hl:By l) (hm:By m) (h:strOfNums l=strOfNums m):l=m:=by
 have:=strEq hl hm
 rw[h]at this
 simpa using this
theorem flat8_inj' :∀(l m:List Int),Us l→Us m→l.flatMap (dig 8)=m.flatMap (dig 8)→l=m
 |[],[],_,_,_=>rfl
 |[],y::m,_,_,e=>by have:=congrArg List.length e;rw[List.flatMap_cons,List.length_append,k8d,List.flatMap_nil,List.length_nil]at this;omega
 |x::l,[],_,_,e=>by have:=congrArg List.length e;rw[List.flatMap_cons,List.length_append,k8d,List.flatMap_nil,List.length_nil]at this;omega
 |x::l,y::m,hl,hm,e=>by
  rw[List.flatMap_cons,List.flatMap_cons]at e
  have e1:=List.append_inj e (by simp)
  have d1:=dig_inj (k:=8) (hl x (by simp)) (hm y (by simp)) e1.1
  rw[d1,flat8_inj' l m (fun z hz=>hl z (by simp[hz])) (fun z hz=>hm z (by simp[hz])) e1.2]
theorem ba_beq (a b:ByteArray):(a==b)=true↔a=b:=by
 constructor
 ·intro h
  have h:(a.data==b.data)=true:=h
  have:a.data=b.data:=by simpa using h
  cases a
  cases b
  simp_all
 ·rintro rfl
  show(a.data==a.data)=true
  simp
theorem k1jf {a b:Int} {l m:List Int} (ha:U64 a) (hb:U64 b) (hl:Us l) (hm:Us m) (h:keyB [a] l=keyB [b] m):a=b∧l=m:=by
 unfold keyB at h
 have h:=k1e9 ((kx8 _).append (kx8 _)) ((kx8 _).append (kx8 _)) h
 rw[←List.flatMap_append,←List.flatMap_append]at h
 have:=flat8_inj' _ _ (fun x hx=>by
  rcases List.mem_append.1 hx with hx|hx
  ·rw[List.mem_singleton.1 hx];exact ha
  ·exact hl x hx) (fun x hx=>by
  rcases List.mem_append.1 hx with hx|hx
  ·rw[List.mem_singleton.1 hx];exact hb
  ·exact hm x hx) h
 simpa using this
theorem k16v {α β:Type} (p:β→Bool) (f:α→β):∀l:List α,mIdx p (l.map f)=mIdx (fun x=>p (f x)) l
 |[]=>rfl
 |x::l=>by simp only[List.map_cons,mIdx,k16v p f l]
theorem RO.find {o:OS} (h:RO o) {label:Int} {l:List Int} (hu:U64 label) (hl:Us l):
  (mHas (BEq.beq (keyB [label] l)) o.k=false∧∀x∈o.q,¬(x.Label=label∧x.Elems=l))∨
  (mHas (BEq.beq (keyB [label] l)) o.k=true∧∃x∈o.q,ix o.q (mVal (BEq.beq (keyB [label] l)) o.k o.v 0)=x∧x.Label=label∧x.Elems=l):=by
 have hp:∀x∈o.q,(BEq.beq (keyB [label] l) (keyQ x)=true↔(x.Label=label∧x.Elems=l)):=by
  intro x hx
  have hq:=h.q x hx
  constructor
  ·intro e
   have e:keyB [label] l=keyQ x:=(ba_beq _ _).1 e
   obtain⟨h1,h2⟩:=k1jf hu hq.l hl hq.e e
   exact⟨h1.symm,h2.symm⟩
  ·rintro ⟨rfl,rfl⟩
   exact(ba_beq _ _).2 rfl
 have hm:mIdx (BEq.beq (keyB [label] l)) o.k=mIdx (fun x=>BEq.beq (keyB [label] l) (keyQ x)) o.q:=by rw[h.k,k16v]
 cases hi:mIdx (fun x=>BEq.beq (keyB [label] l) (keyQ x)) o.q with
 |none=>
  refine .inl ⟨by unfold mHas;rw[hm,hi];rfl,fun x hx hxl=> ?_⟩
  have:=k1d1.1 hi x hx
  rw[(hp x hx).2 hxl]at this
  cases this
 |some j=>
  obtain⟨x,hx,hpx⟩:=kmr hi
  have hjl:j<o.q.length:=(List.getElem?_eq_some_iff.1 hx).1
  have hmem:=List.mem_of_getElem? hx
  refine .inr ⟨by unfold mHas;rw[hm,hi];rfl,x,hmem,?_,(hp x hmem).1 hpx⟩
  have hv:mVal (BEq.beq (keyB [label] l)) o.k o.v 0=(j:Int):=by
   unfold mVal
   rw[hm,hi,h.v]
   simp[hjl]
  rw[hv,ix_nat _ _ (by omega) (by omega)]
  simp only[Int.toNat_natCast]
  exact(List.getElem?_eq_some_iff.1 hx).2
def knows (qs:List TQuestion) (label:Int) (l:List Int):Bool:=qs.any fun x=>decide (x.Label=label)&&decide (x.Elems=l)
theorem k1dt {qs:List TQuestion} {label:Int} {l:List Int}:knows qs label l=true↔∃x∈qs,x.Label=label∧x.Elems=l:=by
 unfold knows
 simp
theorem RO.has {o:OS} (h:RO o) {label:Int} {l:List Int} (hu:U64 label) (hl:Us l):mHas (BEq.beq (keyB [label] l)) o.k=knows o.q label l:=by
 rcases h.find hu hl with⟨h1,h2⟩|⟨h1,x,h2,_,h3⟩
 ·rw[h1]
  cases hk:knows o.q label l with
  |false=>rfl
  |true=>obtain⟨x,hx,hxl⟩:=k1dt.1 hk;exact(h2 x hx hxl).elim
 ·rw[h1];exact(k1dt.2 ⟨x,h2,h3⟩).symm
theorem RO.h {o:OS} (h:RO o) {label:Int} {l:List Int} (hu:U64 label) (hl:Us l):RO (hO o label l).o:=by
 obtain⟨e1,e2,e3,_⟩:=ansO_q o label l
 unfold hO
 split
 ·rename_i hb
  split
  ·exact h
  ·rename_i hn
   have hn:mHas (BEq.beq (keyB [label] l)) o.k=false:=by simpa using hn
   refine⟨?_,?_,?_⟩
   ·simp only[recO,e1,e2]
    rw[k1hy hn,h.k,List.map_append]
    rfl
   ·simp only[recO,e1,e2,e3]
    rw[k1iy hn,h.v,List.length_append,List.length_singleton,List.range_succ,List.map_append]
    rfl
   ·simp only[recO,e1]
    intro x hx
    rcases List.mem_append.1 hx with hx|hx
    ·exact h.q x hx
    ·rw[List.mem_singleton.1 hx];exact⟨hu,hl,hb⟩
 ·exact h
structure RR (o:OS):Prop where
 r:RO o
 a:o.a=false
 n:∀x∈o.q,x.Answer=hashS x.Label x.Elems
def valH (label:Int) (l:List Int):Int:=if allB l=true then hashS label l else 0
def askQ (qs:List TQuestion) (label:Int) (l:List Int):List TQuestion:=if allB l=true then(if knows qs label l=true then qs else qs++[⟨label,l,hashS label l⟩])else qs
theorem RR.h {o:OS} (h:RR o) {label:Int} {l:List Int} (hu:U64 label) (hl:Us l):(hO o label l).n=valH label l∧(hO o label l).o.q=askQ o.q label l∧RR (hO o label l).o:=by
 have ha:ansO o label l=⟨hashS label l,o⟩:=by unfold ansO;rw[h.a];rfl
 have hr:=h.r.h hu hl
 have hh:=h.r.has hu hl
 have hf:=h.r.find hu hl
 unfold hO valH askQ at *
 rw[ha]at *
 split
 ·rename_i hb
  rw[if_pos hb]at hr
  rw[hh]at hr ⊢
  split
  ·rename_i hk
   rcases hf with⟨h1,_⟩|⟨_,x,hx,e1,e2,e3⟩
   ·rw[hh,hk]at h1;cases h1
   ·refine⟨?_,rfl,h⟩
    simp only[e1]
    rw[h.n x hx,e2,e3]
  ·rename_i hk
   rw[if_neg hk]at hr
   refine⟨rfl,rfl,hr,h.a,fun x hx=> ?_⟩
   simp only[recO]at hx
   rcases List.mem_append.1 hx with hx|hx
   ·exact h.n x hx
   ·rw[List.mem_singleton.1 hx]
 ·exact⟨rfl,rfl,h⟩
theorem RR.z:RR (zO false 0):=⟨⟨rfl,rfl,fun x hx=>by cases hx⟩,rfl,fun x hx=>by cases hx⟩
structure QL (qs:List TQuestion) (n:Nat):Prop where
 n:qs.length≤n
 e:∀x∈qs,x.Elems.length≤1000000000
theorem QL.ask {qs:List TQuestion} {n:Nat} (h:QL qs n) {label:Int} {l:List Int} (hl:l.length≤1000000000):QL (askQ qs label l) (n+1):=by
 have hn:=h.n
 unfold askQ
 split
 ·split
  ·exact⟨by omega,h.e⟩
  ·refine⟨by simp;omega,fun x hx=> ?_⟩
   rcases List.mem_append.1 hx with hx|hx
   ·exact h.e x hx
   ·rw[List.mem_singleton.1 hx];exact hl
 ·exact⟨by omega,h.e⟩
def noteV (n:TNote):Bool:=decide (n.Value≤4294967295)&&decide (n.Owner<18446744069414584321)&&decide (n.Rho<18446744069414584321)&&decide (n.Blind<18446744069414584321)
def noteL (n:TNote):List Int:=[n.Value,n.Owner,n.Rho,n.Blind]
def noteOf (x:TSpent):TNote:=⟨x.Note_Value,x.Note_Owner,x.Note_Rho,x.Note_Blind⟩
def spendV (x:TSpent):Bool:=noteV (noteOf x)&&decide (x.Key<18446744069414584321)&&decide (0≤x.Number)&&decide (x.Number<4)&&decide (0≤x.Position)&&decide (x.Position≤4095)&&decide (x.Path.length≤12)&&allB x.Path
def inV (depth:Int) (x:TSpent):Bool:=spendV x&&decide ((x.Path.length:Int)=depth)&&decide (x.Position<2^depth.toNat)
def relV (s:TStatement) (w:TWitness):Bool:=
 decide (1≤s.Depth)&&decide (s.Depth≤12)&&allB [s.Anchor,s.Account,s.Bind,w.Secret]&&decide (s.Deposit≤4294967295)&&decide (s.Withdraw≤4294967295)&&decide (s.Fee≤4294967295)&&
 allB s.Marks&&allB s.Commits&&allB s.Rhos&&decide (w.Ins.length=s.Marks.length)&&decide (w.Ins.length≤4)&&decide (w.Outs.length=s.Commits.length)&&decide (w.Outs.length=s.Rhos.length)&&decide (w.Outs.length≤4)&&
 w.Ins.all (inV s.Depth)&&w.Outs.all noteV
def climbL:Int→Int→List Int→Int
 |d,_,[]=>d
 |d,p,n::r=>climbL (if p%2=0 then hashS 6 [d,n]else hashS 6 [n,d]) (p/2) r
def climbS (leaf pos:Int) (path:List Int):Int:=if path.length≤12∧0≤pos∧pos<2^path.length∧leaf<18446744069414584321∧allB path=true then climbL leaf pos path else 0
def ownerS (key number:Int):Int:=if 0≤number∧number<4 then hashS 1 [key,number]else 0
def acctS (secret:Int):Int:=hashS 7 [secret]
abbrev Ask:=Int→List Int→Option Int
def markP (f:Ask) (key rho:Int):Option Int:=if key<18446744069414584321∧rho<18446744069414584321 then f 3 [key,rho]else none
def commP (f:Ask) (n:TNote):Option Int:=if noteV n=true then f 2 (noteL n)else none
def inE (f:Ask) (anchor mark:Int) (x:TSpent):Int:=
 if x.Note_Owner≠ownerS x.Key x.Number then 21 else
 if(markP f x.Key x.Note_Rho).isSome=false∨(markP f x.Key x.Note_Rho).getD 0≠mark then 12 else
 if x.Dummy=true then(if x.Note_Value≠0 then 13 else 0)else
 if(commP f (noteOf x)).isSome=false∨climbS ((commP f (noteOf x)).getD 0) x.Position x.Path≠anchor then 11 else 0
def insE (f:Ask) (anchor:Int):List TSpent→List Int→Int
 |x::r,m::ms=>if inE f anchor m x≠0 then inE f anchor m x else insE f anchor r ms
 |_,_=>0
def outB (f:Ask) (n:TNote) (c r:Int):Bool:=(commP f n).isSome&&(commP f n).getD 0==c&&n.Rho==r
def outsB (f:Ask):List TNote→List Int→List Int→Bool
 |n::l,c::cs,r::rs=>outB f n c r&&outsB f l cs rs
 |_,_,_=>true
def inS (l:List TSpent):Int:=l.foldl (fun s x=>(s+x.Note_Value)%18446744073709551616) 0
def outS (l:List TNote):Int:=l.foldl (fun s x=>(s+x.Value)%18446744073709551616) 0
def checkS (f:Ask) (s:TStatement) (w:TWitness):Int:=
 if relV s w=false then 1 else
 if insE f s.Anchor w.Ins s.Marks≠0 then insE f s.Anchor w.Ins s.Marks else
 if outsB f w.Outs s.Commits s.Rhos=false then 1 else
 if 0<s.Deposit∧s.Account≠acctS w.Secret then 21 else
 if(inS w.Ins+s.Deposit)%18446744073709551616≠((outS w.Outs+s.Withdraw)%18446744073709551616+s.Fee)%18446744073709551616 then 13 else 0
structure NR (n:TNote):Prop where
 v:U64 n.Value
 o:U64 n.Owner
 r:U64 n.Rho
 b:U64 n.Blind
structure PR (x:TSpent):Prop where
 n:NR (noteOf x)
 k:U64 x.Key
 nu: -9223372036854775808≤x.Number∧x.Number≤9223372036854775807
 po: -9223372036854775808≤x.Position∧x.Position≤9223372036854775807
 pa:Us x.Path
 pl:x.Path.length≤1073741824
structure WR (w:TWitness):Prop where
 i:∀x∈w.Ins,PR x
 il:w.Ins.length≤1073741824
 o:∀x∈w.Outs,NR x
 ol:w.Outs.length≤1073741824
 s:U64 w.Secret
structure SR (s:TStatement):Prop where
 d: -9223372036854775808≤s.Depth∧s.Depth≤9223372036854775807
 a:U64 s.Anchor
 m:Us s.Marks
 ml:s.Marks.length≤1073741824
 c:Us s.Commits
 cl:s.Commits.length≤1073741824
 r:Us s.Rhos
 rl:s.Rhos.length≤1073741824
 de:U64 s.Deposit
 wi:U64 s.Withdraw
 f:U64 s.Fee
 ac:U64 s.Account
 b:U64 s.Bind
structure PQ (x:TSpent):Prop where
 n:NR (noteOf x)
 k:U64 x.Key
 nu: -9223372036854775808≤x.Number∧x.Number≤9223372036854775807
 po: -9223372036854775808≤x.Position∧x.Position≤9223372036854775807
 pa:Us x.Path
 pl:x.Path.length≤9223372036854775807
structure WQ (w:TWitness):Prop where
 i:∀x∈w.Ins,PQ x
 il:w.Ins.length≤9223372036854775807
 o:∀x∈w.Outs,NR x
 ol:w.Outs.length≤9223372036854775807
 s:U64 w.Secret
structure SQ (s:TStatement):Prop where
 d: -9223372036854775808≤s.Depth∧s.Depth≤9223372036854775807
 a:U64 s.Anchor
 m:Us s.Marks
 c:Us s.Commits
 r:Us s.Rhos
 de:U64 s.Deposit
 wi:U64 s.Withdraw
 f:U64 s.Fee
 ac:U64 s.Account
 b:U64 s.Bind
def smallW (s:TStatement) (w:TWitness):Bool:=decide (s.Marks.length≤8)&&decide (s.Commits.length≤8)&&decide (s.Rhos.length≤8)&&decide (w.Ins.length≤8)&&decide (w.Outs.length≤8)&&w.Ins.all (fun x=>decide (x.Path.length≤20))
theorem kpd {s:TStatement} {w:TWitness}:smallW s w=true↔s.Marks.length≤8∧s.Commits.length≤8∧s.Rhos.length≤8∧w.Ins.length≤8∧w.Outs.length≤8∧∀x∈w.Ins,x.Path.length≤20:=by
 unfold smallW
 simp only[Bool.and_eq_true,decide_eq_true_eq,List.all_eq_true,and_assoc]
theorem SQ.sr {s:TStatement} {w:TWitness} (h:SQ s) (hs:smallW s w=true):SR s:=by
 obtain⟨h1,h2,h3,_⟩:=kpd.1 hs
 exact⟨h.d,h.a,h.m,by omega,h.c,by omega,h.r,by omega,h.de,h.wi,h.f,h.ac,h.b⟩
theorem WQ.wr {s:TStatement} {w:TWitness} (h:WQ w) (hs:smallW s w=true):WR w:=by
 obtain⟨_,_,_,h4,h5,h6⟩:=kpd.1 hs
 exact⟨fun x hx=>by have:=h.i x hx;have:=h6 x hx;exact⟨(h.i x hx).n,(h.i x hx).k,(h.i x hx).nu,(h.i x hx).po,(h.i x hx).pa,by omega⟩,by omega,h.o,by omega,h.s⟩
theorem kx6 {s:TStatement} {w:TWitness}:relV s w=true↔(1≤s.Depth∧s.Depth≤12∧allB [s.Anchor,s.Account,s.Bind,w.Secret]=true∧s.Deposit≤4294967295∧s.Withdraw≤4294967295∧s.Fee≤4294967295∧allB s.Marks=true∧allB s.Commits=true∧allB s.Rhos=true∧w.Ins.length=s.Marks.length∧w.Ins.length≤4∧w.Outs.length=s.Commits.length∧w.Outs.length=s.Rhos.length∧w.Outs.length≤4∧w.Ins.all (inV s.Depth)=true∧w.Outs.all noteV=true):=by
 unfold relV
 simp only[Bool.and_eq_true,decide_eq_true_eq,and_assoc]
theorem k1kt {f:Ask} {s:TStatement} {w:TWitness}:checkS f s w=0↔relV s w=true∧insE f s.Anchor w.Ins s.Marks=0∧outsB f w.Outs s.Commits s.Rhos=true∧(0<s.Deposit→s.Account=acctS w.Secret)∧
  (inS w.Ins+s.Deposit)%18446744073709551616=((outS w.Outs+s.Withdraw)%18446744073709551616+s.Fee)%18446744073709551616:=by
 unfold checkS
 constructor
 ·intro h
  split at h
  ·simp at h
  ·rename_i h1
   split at h
   ·rename_i h2;exact(h2 h).elim
   ·rename_i h2
    split at h
    ·simp at h
    ·rename_i h3
     split at h
     ·simp at h
     ·rename_i h4
      split at h
      ·simp at h
      ·rename_i h5
       exact⟨by simpa using h1,by simpa using h2,by simpa using h3,fun h=>by
        by_cases ha:s.Account=acctS w.Secret
        ·exact ha
        ·exact(h4 ⟨h,ha⟩).elim,by simpa using h5⟩
 ·rintro ⟨h1,h2,h3,h4,h5⟩
  rw[if_neg (by simp[h1]),if_neg (by simp[h2]),if_neg (by simp[h3]),if_neg (fun h=>h.2 (h4 h.1)),if_neg (fun h=>h h5)]
theorem pk_nil:pk false [] [] []=pkR:=by funext l a;exact pk_real _ _ _
def exS (fee:Int):TStatement:=⟨1,0,[],[hashS 2 [5,1,2,3]],[2],7,0,fee,hashS 7 [9],0⟩
def exW:TWitness:=⟨[],[⟨5,1,2,3⟩],9⟩
theorem exS_sr (fee:Int) (h:U64 fee):SR (exS fee):=
  ⟨(by decide: -9223372036854775808≤(1:Int)∧(1:Int)≤9223372036854775807),(by decide:U64 0),(by decide:Us []),(by decide:([]:List Int).length≤1073741824),
   fun x hx=>by rw[show x=_ from List.mem_singleton.1 hx];exact k9w _ _,by simp[exS],(by decide:Us [2]),(by decide:([2]:List Int).length≤1073741824),(by decide:U64 7),(by decide:U64 0),h,k9w _ _,(by decide:U64 0)⟩
theorem exW_wr:WR exW:=⟨by intro x hx;(cases hx),by decide,by intro x hx;rw[show x=_ from List.mem_singleton.1 hx];exact⟨by decide,by decide,by decide,by decide⟩,by decide,by decide⟩
theorem k182 (fee:Int) (h:fee≤4294967295):relV (exS fee) exW=true:=by
 refine kx6.2 ⟨(by decide:1≤(1:Int)),(by decide:(1:Int)≤12),khp.2 ?_,(by decide:(7:Int)≤4294967295),(by decide:(0:Int)≤4294967295),h,(by decide:allB []=true),khp.2 ?_,(by decide:allB [2]=true),by simp[exS,exW],(by decide:exW.Ins.length≤4),by simp[exS,exW],by simp[exS,exW],(by decide:exW.Outs.length≤4),by simp[exW],(by decide:exW.Outs.all noteV=true)⟩
 ·intro x hx
  simp only[exS,exW,List.mem_cons,List.not_mem_nil,or_false]at hx
  rcases hx with rfl|rfl|rfl|rfl
  ·decide
  ·exact k17f _ _
  ·decide
  ·decide
 ·intro x hx
  rw[show x=_ from List.mem_singleton.1 hx]
  exact k17f _ _
theorem exS_ok:checkS pkR (exS 2) exW=0:=by
 refine k1kt.2 ⟨k182 2 (by decide),rfl,?_,fun _=>rfl,by decide⟩
 have e:commP pkR ⟨5,1,2,3⟩=some (hashS 2 [5,1,2,3]):=rfl
 show(outB pkR ⟨5,1,2,3⟩ (hashS 2 [5,1,2,3]) 2&&true)=true
 unfold outB
 rw[e]
 simp
theorem exS_not:checkS pkR (exS 1) exW=13:=by
 unfold checkS
 have e:commP pkR ⟨5,1,2,3⟩=some (hashS 2 [5,1,2,3]):=rfl
 have eo:outsB pkR exW.Outs (exS 1).Commits (exS 1).Rhos=true:=by
  show(outB pkR ⟨5,1,2,3⟩ (hashS 2 [5,1,2,3]) 2&&true)=true
  unfold outB
  rw[e]
  simp
 rw[if_neg (by rw[k182 1 (by decide)];simp),if_neg (by show¬((0:Int)≠0);simp),if_neg (by rw[eo];simp),if_neg (fun h=>h.2 rfl),if_pos (by decide)]
structure Pz {α:Type} (enc:α→List Int) (G:α→Prop) (r:List Int) (f:Bool) (v:α) (r' :List Int) (f' :Bool):Prop where
 snd:f' =false→f=false∧r=enc v++r'∧G v
 cpl:∀v0 s,f=false→r=enc v0++s→G v0→f' =false∧v=v0∧r' =s
theorem Pz.two {α β:Type} {e1:α→List Int} {G1:α→Prop} {e2:β→List Int} {G2:β→Prop} {r r1 r2:List Int} {f f1 f2:Bool} {a:α} {b:β}
  (h1:Pz e1 G1 r f a r1 f1) (h2:Pz e2 G2 r1 f1 b r2 f2):Pz (fun p:α×β=>e1 p.1++e2 p.2) (fun p=>G1 p.1∧G2 p.2) r f (a,b) r2 f2 where
 snd h:=by
  obtain⟨x1,x2,x3⟩:=h2.snd h
  obtain⟨y1,y2,y3⟩:=h1.snd x1
  exact⟨y1,by rw[y2,x2,List.append_assoc],y3,x3⟩
 cpl v0 s hf hr hG:=by
  rw[List.append_assoc]at hr
  obtain⟨y1,y2,y3⟩:=h1.cpl v0.1 _ hf hr hG.1
  obtain⟨x1,x2,x3⟩:=h2.cpl v0.2 _ y1 y3 hG.2
  exact⟨x1,by rw[y2,x2],x3⟩
theorem Pz.to {α β:Type} {e1:α→List Int} {G1:α→Prop} {e2:β→List Int} {G2:β→Prop} {r r1:List Int} {f f1:Bool} {a:α}
  (h1:Pz e1 G1 r f a r1 f1) (φ:α→β) (ψ:β→α) (he:∀x,G1 x→e2 (φ x)=e1 x∧G2 (φ x)) (hi:∀y,G2 y→φ (ψ y)=y∧e1 (ψ y)=e2 y∧G1 (ψ y)):Pz e2 G2 r f (φ a) r1 f1 where
 snd h:=by
  obtain⟨x1,x2,x3⟩:=h1.snd h
  exact⟨x1,by rw[x2,(he a x3).1],(he a x3).2⟩
 cpl v0 s hf hr hG:=by
  obtain⟨i1,i2,i3⟩:=hi v0 hG
  obtain⟨y1,y2,y3⟩:=h1.cpl (ψ v0) s hf (by rw[i2];exact hr) i3
  exact⟨y1,by rw[y2,i1],y3⟩
def Gl {α:Type} (G:α→Prop) (n:Nat) (l:List α):Prop:=l.length=n∧∀x∈l,G x
theorem Pz.nil {α:Type} {e:α→List Int} {G:α→Prop} {r:List Int} {f:Bool}:Pz (fun l:List α=>l.flatMap e) (Gl G 0) r f [] r f where
 snd h:=⟨h,rfl,rfl,by intro x hx;cases hx⟩
 cpl v0 s hf hr hG:=by
  have:v0=[]:=List.length_eq_zero_iff.1 hG.1
  subst this
  exact⟨hf,rfl,hr⟩
theorem Pz.snoc {α:Type} {e:α→List Int} {G:α→Prop} {r r1 r2:List Int} {f f1 f2:Bool} {l:List α} {x:α} {n:Nat}
  (h1:Pz (fun l:List α=>l.flatMap e) (Gl G n) r f l r1 f1) (h2:Pz e G r1 f1 x r2 f2):Pz (fun l:List α=>l.flatMap e) (Gl G (n+1)) r f (l++[x]) r2 f2 where
 snd h:=by
  obtain⟨x1,x2,x3⟩:=h2.snd h
  obtain⟨y1,y2,y3⟩:=h1.snd x1
  refine⟨y1,by rw[y2,x2];simp,by simp[y3.1],?_⟩
  intro y hy
  rcases List.mem_append.1 hy with hy|hy
  ·exact y3.2 y hy
  ·rw[List.mem_singleton.1 hy];exact x3
 cpl v0 s hf hr hG:=by
  have hne:v0≠[]:=by intro h;have:=hG.1;rw[h]at this;simp at this
  have hd:=List.dropLast_concat_getLast hne
  generalize v0.dropLast=i at *
  generalize v0.getLast hne=z at *
  subst hd
  obtain⟨g1,g2⟩:=hG
  have hr:r=i.flatMap e++(e z++s):=by rw[hr];simp
  obtain⟨y1,y2,y3⟩:=h1.cpl i _ hf hr ⟨by simpa using g1,fun y hy=>g2 y (by simp[hy])⟩
  obtain⟨x1,x2,x3⟩:=h2.cpl z _ y1 y3 (g2 z (by simp))
  exact⟨x1,by rw[y2,x2],x3⟩
def encC {α:Type} (e:α→List Int) (l:List α):List Int:=dig 4 (l.length:Int)++l.flatMap e
def Gn (m n:Int):Prop:=0≤n∧n<4294967296∧n≤m
def Gc {α:Type} (G:α→Prop) (m:Int) (l:List α):Prop:=Gn m (l.length:Int)∧∀x∈l,G x
theorem Pz.list {α:Type} {e:α→List Int} {G:α→Prop} {r r1 r2:List Int} {f f1 f2:Bool} {l:List α} {n m:Int}
  (h1:Pz (dig 4) (Gn m) r f n r1 f1) (h2:Pz (fun l:List α=>l.flatMap e) (Gl G n.toNat) r1 f1 l r2 f2):Pz (encC e) (Gc G m) r f l r2 f2 where
 snd h:=by
  obtain⟨x1,x2,x3⟩:=h2.snd h
  obtain⟨y1,y2,y3⟩:=h1.snd x1
  have hn:(l.length:Int)=n:=by rw[x3.1];have:=y3.1;omega
  exact⟨y1,by unfold encC;rw[hn,y2,x2,List.append_assoc],by unfold Gc;rw[hn];exact⟨y3,x3.2⟩⟩
 cpl v0 s hf hr hG:=by
  unfold encC at hr
  rw[List.append_assoc]at hr
  obtain⟨y1,y2,y3⟩:=h1.cpl _ _ hf hr hG.1
  obtain⟨x1,x2,x3⟩:=h2.cpl v0 s y1 y3 ⟨by rw[y2];simp,hG.2⟩
  exact⟨x1,x2,x3⟩
def Gu (m n:Int):Prop:=U64 n∧n≤m
def Gp (m p:Int) (l:List Int):Prop:=(l.length:Int)≤m∧(∀x∈l,x<p)∧Us l
section
variable {b:List Int} {pos m p:Int} {f:Bool}
end
section
variable {b:List Int} {f:Bool} {m p:Int}
theorem nB8_pz (h:By b) (hm:m≤18446744073709551615):Pz (dig 8) (Gu m) b f (nB 8 b f m).n (nB 8 b f m).b (nB 8 b f m).f where
 snd hf:=by
  obtain⟨h1,h2,h3⟩:=nB_snd h (by omega) hf
  have:=nB_n (f:=f) (m:=m) h (k:=8) (by omega)
  exact⟨h1,h2,⟨this.1,by omega⟩,h3⟩
 cpl v0 s hf hr hG:=by
  have p8:(256:Int)^(8:Int).toNat=18446744073709551616:=by decide
  have hu:=hG.1
  rw[nB_cpl (k:=8) (by omega) hf hr hu.1 (by rw[p8];exact hu.2) hG.2]
  exact⟨rfl,rfl,rfl⟩
theorem nB4_pz (h:By b):Pz (dig 4) (Gn m) b f (nB 4 b f m).n (nB 4 b f m).b (nB 4 b f m).f where
 snd hf:=by
  have p4:(256:Int)^(4:Int).toNat=4294967296:=by decide
  obtain⟨h1,h2,h3⟩:=nB_snd h (by omega) hf
  have:=nB_n (f:=f) (m:=m) h (k:=4) (by omega)
  rw[p4]at this
  exact⟨h1,h2,this.1,this.2,h3⟩
 cpl v0 s hf hr hG:=by
  have p4:(256:Int)^(4:Int).toNat=4294967296:=by decide
  rw[nB_cpl (k:=4) (by omega) hf hr hG.1 (by rw[p4];exact hG.2.1) hG.2.2]
  exact⟨rfl,rfl,rfl⟩
def lBs (p:Int):Nat→List Int→List Int→RB
 |0,b,acc=>⟨acc,b,false⟩
 |k+1,b,acc=>if p≤val (b.take 8)then⟨[],b.drop 8,true⟩else lBs p k (b.drop 8) (acc++[val (b.take 8)])
def lB (b:List Int) (f:Bool) (m p:Int):RB:=if(nB 4 b f m).f=true∨((nB 4 b f m).b.length:Int)/8<(nB 4 b f m).n then⟨[],(nB 4 b f m).b,true⟩else lBs p (nB 4 b f m).n.toNat (nB 4 b f m).b []
theorem lBs_b:∀(k:Nat) {b acc:List Int},By b→By (lBs p k b acc).b∧(lBs p k b acc).b.length≤b.length
 |0,_,_,h=>⟨h,Nat.le_refl _⟩
 |k+1,b,acc,h=>by
  unfold lBs
  split
  ·exact⟨h.drop _,by show(b.drop 8).length≤_;rw[List.length_drop];omega⟩
  ·have:=lBs_b k (acc:=acc++[val (b.take 8)]) (h.drop 8)
   rw[List.length_drop]at this
   exact⟨this.1,by omega⟩
theorem lBs_snd:∀(k:Nat) {b acc:List Int},8*k≤b.length→(lBs p k b acc).f=false→
  (lBs p k b acc).l=acc++nums k b∧(∀x∈nums k b,x<p)∧(lBs p k b acc).b=b.drop (8*k)
 |0,b,acc,_,_=>⟨by simp[lBs,nums],by simp[nums],by simp[lBs]⟩
 |k+1,b,acc,hk,hf=>by
  unfold lBs at *
  split at hf
  ·cases hf
  ·rename_i hn
   rw[if_neg hn]
   obtain⟨g1,g2,g3⟩:=lBs_snd k (by rw[List.length_drop];omega) hf
   refine⟨?_,?_,?_⟩
   ·rw[g1,List.append_assoc];rfl
   ·intro x hx
    rcases List.mem_cons.1 hx with rfl|hx
    ·omega
    ·exact g2 x hx
   ·rw[g3,List.drop_drop];congr 1;omega
theorem lBs_cpl:∀(k:Nat) {b acc:List Int},(∀x∈nums k b,x<p)→(lBs p k b acc).f=false
 |0,_,_,_=>rfl
 |k+1,b,acc,hf=>by
  unfold lBs
  have h3:=hf (val (b.take 8)) (by simp[nums])
  rw[if_neg (by omega)]
  exact lBs_cpl k (fun x hx=>hf x (List.mem_cons_of_mem _ hx))
theorem lB_b (h:By b):By (lB b f m p).b∧(lB b f m p).b.length≤b.length:=by
 unfold lB
 have h1:=nB_b (k:=4) (f:=f) (m:=m) h
 split
 ·exact h1
 ·have:=lBs_b (p:=p) (nB 4 b f m).n.toNat (acc:=[]) h1.1
  exact⟨this.1,by omega⟩
theorem lB_pz (h:By b) (hm:m≤4294967295):Pz encL (Gp m p) b f (lB b f m p).l (lB b f m p).b (lB b f m p).f where
 snd hf:=by
  unfold lB at *
  split at hf
  ·cases hf
  ·rename_i hn
   rw[if_neg hn]
   have hN:(nB 4 b f m).f=false:=by
    cases hc:(nB 4 b f m).f
    ·rfl
    ·exact absurd (.inl hc) hn
   obtain⟨y1,y2,y3⟩:=(nB4_pz (f:=f) (m:=m) h).snd hN
   have hb:=(nB_b (k:=4) (f:=f) (m:=m) h).1
   have hle:¬((nB 4 b f m).b.length:Int)/8<(nB 4 b f m).n:=fun h=>hn (.inr h)
   obtain⟨z1,z2,z3⟩:=y3
   generalize nB 4 b f m=N at *
   obtain⟨k1,k2,k3⟩:=lBs_snd N.n.toNat (by omega) hf
   rw[List.nil_append]at k1
   rw[k1,k3]
   refine⟨y1,?_,by rw[kt3];omega,k2,nums_us _ hb⟩
   rw[y2]
   unfold encL
   rw[kt3,show((N.n.toNat:Nat):Int)=N.n by omega,len4_in (by omega),List.append_assoc]
   congr 1
   exact k1hp N.n.toNat hb (by omega)
 cpl v0 s hf hr hG:=by
  obtain⟨hl,hp,hu⟩:=hG
  unfold encL at hr
  rw[len4_in (by omega),List.append_assoc]at hr
  obtain⟨y1,y2,y3⟩:=(nB4_pz (f:=f) (m:=m) h).cpl _ _ hf hr ⟨by omega,by omega,hl⟩
  obtain⟨k1,k2,k3⟩:=k1jk v0 y3 hu
  have hn:¬((nB 4 b f m).f=true∨((nB 4 b f m).b.length:Int)/8<(nB 4 b f m).n):=by
   rw[y1,y2]
   simp only[Bool.false_eq_true,false_or]
   omega
  unfold lB
  rw[if_neg hn,y2,Int.toNat_natCast]
  have hc:=lBs_cpl (p:=p) (acc:=[]) v0.length (b:=(nB 4 b f m).b) (by rw[k1];exact hp)
  obtain⟨q1,q2,q3⟩:=lBs_snd _ k3 hc
  exact⟨hc,by rw[q1,k1];rfl,by rw[q3];exact k2⟩
end
def encN (n:TNote):List Int:=dig 8 n.Value++(dig 8 n.Owner++(dig 8 n.Rho++dig 8 n.Blind))
def encSp (x:TSpent):List Int:=encN (noteOf x)++(dig 8 x.Key++(dig 4 (len4 x.Number)++(dig 4 (len4 x.Position)++(encL x.Path++dig 4 (len4 (if x.Dummy=true then 1 else 0))))))
def encW (w:TWitness):List Int:=dig 4 (len4 (w.Ins.length:Int))++(w.Ins.flatMap encSp++(dig 4 (len4 (w.Outs.length:Int))++(w.Outs.flatMap encN++dig 8 w.Secret)))
def rightV (w:TWitness):Bool:=decide (w.Ins.length≤4)&&decide (w.Outs.length≤4)&&decide (w.Secret<18446744069414584321)&&w.Ins.all spendV&&w.Outs.all noteV
structure Lim where
 m:Int
 p:Int
 n:Int
 q:Int
 hm:m≤18446744073709551615
 hp:p≤18446744073709551615
 hn:3≤n
 hq:4095≤q
 hm' :4294967295≤m
 hp' :18446744069414584320≤p
def limW:Lim:=⟨4294967295,18446744069414584320,3,4095,by omega,by omega,by omega,by omega,by omega,by omega⟩
def limR:Lim:=⟨18446744073709551615,18446744073709551615,4294967296,4294967296,by omega,by omega,by omega,by omega,by omega,by omega⟩
def GN (L:Lim) (n:TNote):Prop:=Gu L.m n.Value∧Gu L.p n.Owner∧Gu L.p n.Rho∧Gu L.p n.Blind
def GS (L:Lim) (x:TSpent):Prop:=GN L (noteOf x)∧Gu L.p x.Key∧Gn L.n x.Number∧Gn L.q x.Position∧Gp 12 18446744069414584321 x.Path
theorem GN.nr {L:Lim} {n:TNote} (h:GN L n):NR n:=⟨h.1.1,h.2.1.1,h.2.2.1.1,h.2.2.2.1⟩
theorem GS.pq {L:Lim} {x:TSpent} (h:GS L x):PQ x:=by
 obtain⟨h1,h2,h3,h4,h5⟩:=h
 obtain⟨a1,a2,a3⟩:=h3
 obtain⟨b1,b2,b3⟩:=h4
 obtain⟨c1,c2,c3⟩:=h5
 exact⟨h1.nr,h2.1,by omega,by omega,c3,by omega⟩
theorem k1du {n:TNote}:noteV n=true↔n.Value≤4294967295∧n.Owner<18446744069414584321∧n.Rho<18446744069414584321∧n.Blind<18446744069414584321:=by
 unfold noteV
 simp only[Bool.and_eq_true,decide_eq_true_eq,and_assoc]
theorem kp8 {x:TSpent}:spendV x=true↔noteV (noteOf x)=true∧x.Key<18446744069414584321∧0≤x.Number∧x.Number<4∧0≤x.Position∧x.Position≤4095∧x.Path.length≤12∧allB x.Path=true:=by
 unfold spendV
 simp only[Bool.and_eq_true,decide_eq_true_eq,and_assoc]
theorem k1ld {w:TWitness}:rightV w=true↔w.Ins.length≤4∧w.Outs.length≤4∧w.Secret<18446744069414584321∧(∀x∈w.Ins,spendV x=true)∧∀x∈w.Outs,noteV x=true:=by
 unfold rightV
 simp only[Bool.and_eq_true,decide_eq_true_eq,and_assoc,List.all_eq_true]
theorem NR.gn {n:TNote} (h:NR n) (hv:noteV n=true) (L:Lim):GN L n:=by
 obtain⟨h1,h2,h3,h4⟩:=k1du.1 hv
 have:=L.hm'
 have:=L.hp'
 exact⟨⟨h.v,by omega⟩,⟨h.o,by omega⟩,⟨h.r,by omega⟩,⟨h.b,by omega⟩⟩
theorem PQ.gs {x:TSpent} (h:PQ x) (hv:spendV x=true) (L:Lim):GS L x:=by
 obtain⟨h1,h2,h3,h4,h5,h6,h7,h8⟩:=kp8.1 hv
 have:=L.hp'
 have:=L.hn
 have:=L.hq
 exact⟨h.n.gn h1 L,⟨h.k,by omega⟩,⟨h3,by omega,by omega⟩,⟨h5,by omega,by omega⟩,by omega,khp.1 h8,h.pa⟩
theorem GN.noteV {n:TNote} (h:GN limW n):noteV n=true:=by
 obtain⟨h1,h2,h3,h4⟩:=h
 have e1:n.Value≤4294967295:=h1.2
 have e2:n.Owner≤18446744069414584320:=h2.2
 have e3:n.Rho≤18446744069414584320:=h3.2
 have e4:n.Blind≤18446744069414584320:=h4.2
 exact k1du.2 ⟨e1,by omega,by omega,by omega⟩
theorem GS.spendV {x:TSpent} (h:GS limW x):spendV x=true:=by
 obtain⟨h1,h2,h3,h4,h5⟩:=h
 have e1:x.Key≤18446744069414584320:=h2.2
 have e2:x.Number≤3:=h3.2.2
 have e3:x.Position≤4095:=h4.2.2
 have e4:=h5.1
 exact kp8.2 ⟨h1.noteV,by omega,h3.1,by omega,h4.1,e3,by omega,khp.2 h5.2.1⟩
theorem pz_note {L:Lim} {r r1 r2 r3 r4:List Int} {f f1 f2 f3 f4:Bool} {a b c d:Int} (h1:Pz (dig 8) (Gu L.m) r f a r1 f1) (h2:Pz (dig 8) (Gu L.p) r1 f1 b r2 f2) (h3:Pz (dig 8) (Gu L.p) r2 f2 c r3 f3) (h4:Pz (dig 8) (Gu L.p) r3 f3 d r4 f4):Pz encN (GN L) r f ⟨a,b,c,d⟩ r4 f4:=
 (((h3.two h4)|>h2.two)|>h1.two).to (fun p:Int×Int×Int×Int=>TNote.mk p.1 p.2.1 p.2.2.1 p.2.2.2) (fun n=>(n.Value,n.Owner,n.Rho,n.Blind)) (fun _ h=>⟨rfl,h⟩) (fun _ h=>⟨rfl,rfl,h⟩)
theorem k1oi {L:Lim} {r r1 r2 r3 r4 r5 r6:List Int} {f f1 f2 f3 f4 f5 f6:Bool} {a:TNote} {k n q:Int} {p:List Int} {d:Int} (h1:Pz encN (GN L) r f a r1 f1) (h2:Pz (dig 8) (Gu L.p) r1 f1 k r2 f2) (h3:Pz (dig 4) (Gn L.n) r2 f2 n r3 f3) (h4:Pz (dig 4) (Gn L.q) r3 f3 q r4 f4)
  (h5:Pz encL (Gp 12 18446744069414584321) r4 f4 p r5 f5) (h6:Pz (dig 4) (Gn 1) r5 f5 d r6 f6):Pz encSp (GS L) r f ⟨a.Value,a.Owner,a.Rho,a.Blind,k,n,q,p,d==1⟩ r6 f6:=by
 refine(((((h5.two h6)|>h4.two)|>h3.two)|>h2.two)|>h1.two).to (fun x:TNote×Int×Int×Int×List Int×Int=>TSpent.mk x.1.Value x.1.Owner x.1.Rho x.1.Blind x.2.1 x.2.2.1 x.2.2.2.1 x.2.2.2.2.1 (x.2.2.2.2.2==1)) (fun x=>(noteOf x,x.Key,x.Number,x.Position,x.Path,if x.Dummy=true then 1 else 0)) ?_ ?_
 ·rintro ⟨a,k,n,q,p,d⟩ ⟨g1,g2,g3,g4,g5,g6⟩
  refine⟨?_,g1,g2,g3,g4,g5⟩
  obtain⟨d0,d1,d2⟩:=g6
  obtain⟨n0,n1,n2⟩:=g3
  obtain⟨q0,q1,q2⟩:=g4
  have e:(if(d==1)=true then(1:Int)else 0)=d:=by
   have d2:d≤1:=d2
   have d0:0≤d:=d0
   rcases(by omega:d=0∨d=1)with rfl|rfl<;>rfl
  show encN a++(dig 8 k++(dig 4 (len4 n)++(dig 4 (len4 q)++(encL p++dig 4 (len4 (if(d==1)=true then 1 else 0))))))=encN a++(dig 8 k++(dig 4 n++(dig 4 q++(encL p++dig 4 d))))
  rw[e,len4_in (n:=n) ⟨n0,by have:n<4294967296:=n1;omega⟩,len4_in (n:=q) ⟨q0,by have:q<4294967296:=q1;omega⟩,len4_in (n:=d) ⟨d0,by have:d<4294967296:=d1;omega⟩]
 ·rintro ⟨v,o,rh,bl,k,n,q,p,d⟩ ⟨g1,g2,g3,g4,g5⟩
  obtain⟨n0,n1,n2⟩:=g3
  obtain⟨q0,q1,q2⟩:=g4
  refine⟨?_,?_,g1,g2,⟨n0,n1,n2⟩,⟨q0,q1,q2⟩,g5,?_⟩
  ·cases d<;>rfl
  ·show encN ⟨v,o,rh,bl⟩++(dig 8 k++(dig 4 n++(dig 4 q++(encL p++dig 4 (if d=true then 1 else 0)))))=encN ⟨v,o,rh,bl⟩++(dig 8 k++(dig 4 (len4 n)++(dig 4 (len4 q)++(encL p++dig 4 (len4 (if d=true then 1 else 0))))))
   rw[len4_in (n:=n) (by exact⟨n0,by have:n<4294967296:=n1;omega⟩),len4_in (n:=q) (by exact⟨q0,by have:q<4294967296:=q1;omega⟩),len4_in (n:=if d=true then 1 else 0) (by split<;>omega)]
  ·cases d
   ·exact(⟨by decide,by decide,by decide⟩:Gn 1 0)
   ·exact(⟨by decide,by decide,by decide⟩:Gn 1 1)
structure EW (w:TWitness) (b:List Int):Prop where
 r:WQ w
 v:rightV w=true
 e:encW w=b
open Classical in
def Gw (L:Lim) (w:TWitness):Prop:=Gc (GS L) 4 w.Ins∧Gc (GN L) 4 w.Outs∧Gu L.p w.Secret
theorem Gw.wq {L:Lim} {w:TWitness} (h:Gw L w):WQ w:=by
 obtain⟨⟨i,hi⟩,⟨o,ho⟩,s⟩:=h
 have:=i.2.2
 have:=o.2.2
 exact⟨fun x hx=>(hi x hx).pq,by omega,fun x hx=>(ho x hx).nr,by omega,s.1⟩
theorem encC_in {α:Type} (e:α→List Int) (l:List α) (h:l.length≤4):encC e l=dig 4 (len4 (l.length:Int))++l.flatMap e:=by
 unfold encC
 rw[len4_in (by omega)]
theorem pz_wit {L:Lim} {b r1 r2 r3:List Int} {f1 f2 f3:Bool} {is:List TSpent} {os:List TNote} {s:Int} (h1:Pz (encC encSp) (Gc (GS L) 4) b false is r1 f1) (h2:Pz (encC encN) (Gc (GN L) 4) r1 f1 os r2 f2) (h3:Pz (dig 8) (Gu L.p) r2 f2 s r3 f3):
  (f3=false→r3=[]→encW ⟨is,os,s⟩=b∧Gw L ⟨is,os,s⟩)∧∀w,EW w b→f3=false∧r3=[]∧(⟨is,os,s⟩:TWitness)=w:=by
 constructor
 ·rintro rfl rfl
  obtain⟨a1,a2,a3⟩:=h3.snd rfl
  obtain⟨b1,b2,b3⟩:=h2.snd a1
  obtain⟨c1,c2,c3⟩:=h1.snd b1
  refine⟨?_,c3,b3,a3⟩
  have l1:=c3.1.2.2
  have l2:=b3.1.2.2
  rw[c2,b2,a2,encC_in _ _ (by omega),encC_in _ _ (by omega)]
  simp[encW,List.append_assoc]
 ·rintro ⟨is0,os0,s0⟩ ⟨hr,hv,he⟩
  obtain⟨v1,v2,v3,v4,v5⟩:=k1ld.1 hv
  have v1:is0.length≤4:=v1
  have v2:os0.length≤4:=v2
  have v3:s0<18446744069414584321:=v3
  have hp:=L.hp'
  have e:b=encC encSp is0++(encC encN os0++(dig 8 s0++[])):=by
   rw[←he,encC_in _ _ v1,encC_in _ _ v2]
   simp[encW,List.append_assoc]
  obtain⟨c1,c2,c3⟩:=h1.cpl is0 _ rfl e ⟨⟨by omega,by omega,by omega⟩,fun x hx=>(hr.i x hx).gs (v4 x hx) L⟩
  obtain⟨b1,b2,b3⟩:=h2.cpl os0 _ c1 c3 ⟨⟨by omega,by omega,by omega⟩,fun x hx=>(hr.o x hx).gn (v5 x hx) L⟩
  obtain⟨a1,a2,a3⟩:=h3.cpl s0 _ b1 b3 ⟨hr.s,by omega⟩
  exact⟨a1,a3,by rw[c2,b2,a2]⟩
structure RNt where
 n:TNote
 pos:Int
 f:Bool
structure RNb where
 n:TNote
 b:List Int
 f:Bool
def nNt (b:List Int) (f:Bool):RNb:=
 let A:=nB 8 b f 18446744073709551615
 let B:=nB 8 A.b A.f 18446744073709551615
 let C:=nB 8 B.b B.f 18446744073709551615
 let D:=nB 8 C.b C.f 18446744073709551615
 ⟨⟨A.n,B.n,C.n,D.n⟩,D.b,D.f⟩
theorem nNt_b {b:List Int} {f:Bool} (h:By b):By (nNt b f).b∧(nNt b f).b.length≤b.length:=
 have h1:=nB_b (k:=8) (f:=f) (m:=18446744073709551615) h
 have h2:=nB_b (k:=8) (f:=(nB 8 b f 18446744073709551615).f) (m:=18446744073709551615) h1.1
 have h3:=nB_b (k:=8) (f:=(nB 8 (nB 8 b f 18446744073709551615).b (nB 8 b f 18446744073709551615).f 18446744073709551615).f) (m:=18446744073709551615) h2.1
 have h4:=nB_b (k:=8) (f:=(nB 8 (nB 8 (nB 8 b f 18446744073709551615).b (nB 8 b f 18446744073709551615).f 18446744073709551615).b (nB 8 (nB 8 b f 18446744073709551615).b (nB 8 b f 18446744073709551615).f 18446744073709551615).f 18446744073709551615).f) (m:=18446744073709551615) h3.1
 ⟨h4.1,Nat.le_trans h4.2 (Nat.le_trans h3.2 (Nat.le_trans h2.2 h1.2))⟩
theorem nNt_pz {b:List Int} {f:Bool} (h:By b):Pz encN (GN limR) b f (nNt b f).n (nNt b f).b (nNt b f).f:=
 have h1:=(nB_b (k:=8) (f:=f) (m:=18446744073709551615) h).1
 have h2:=(nB_b (k:=8) (f:=(nB 8 b f 18446744073709551615).f) (m:=18446744073709551615) h1).1
 have h3:=(nB_b (k:=8) (f:=(nB 8 (nB 8 b f 18446744073709551615).b (nB 8 b f 18446744073709551615).f 18446744073709551615).f) (m:=18446744073709551615) h2).1
 pz_note (L:=limR) (nB8_pz h (by decide)) (nB8_pz h1 (by decide)) (nB8_pz h2 (by decide)) (nB8_pz h3 (by decide))
theorem kbs {α:Type} (e:α→List Int) (k:Nat):∀(l:List α),(∀x∈l,(e x).length≤k)→(l.flatMap e).length≤k*l.length
 |[],_=>by simp
 |x::r,h=>by
  have h1:=kbs e k r fun y hy=>h y (List.mem_cons_of_mem _ hy)
  have h2:=h x (by simp)
  rw[List.flatMap_cons,List.length_append,List.length_cons,Nat.mul_add]
  omega
def inpV (x:TSpent) (d:Int):Bool:=noteV (noteOf x)&&decide (x.Key<18446744069414584321)&&decide (0≤x.Number)&&decide (x.Number<4)&&decide ((x.Path.length:Int)=d)&&allB x.Path&&decide (0≤x.Position)&&decide (x.Position<ishl .i64 1 d)
theorem ishl1 {d:Int} (h0:0≤d) (h1:d≤12):ishl .i64 1 d=2^d.toNat:=by
 obtain⟨d,rfl⟩:=Int.eq_ofNat_of_zero_le h0
 have key:∀d:Nat,d≤12→ishl .i64 1 (d:Int)=2^d:=by decide +kernel
 exact key d (by omega)
theorem k1m9 {x:TSpent} {d:Int} (h0:1≤d) (h1:d≤12):inpV x d=inV d x:=by
 rw[Bool.eq_iff_iff]
 unfold inpV inV
 simp only[Bool.and_eq_true,decide_eq_true_eq,kp8]
 rw[ishl1 (by omega) h1]
 have hb:∀n:Nat,n≤12→(2:Int)^n≤4096:=by decide
 have:=hb d.toNat (by omega)
 constructor
 ·rintro ⟨⟨⟨⟨⟨⟨⟨a,b⟩,c⟩,e⟩,f⟩,g⟩,i⟩,j⟩
  exact⟨⟨⟨a,b,c,e,i,by omega,by omega,g⟩,f⟩,j⟩
 ·rintro ⟨⟨⟨a,b,c,e,i,k,l,g⟩,f⟩,j⟩
  exact⟨⟨⟨⟨⟨⟨⟨a,b⟩,c⟩,e⟩,f⟩,g⟩,i⟩,j⟩
theorem pz_exL {α:Type} {e:α→List Int} {G:α→Prop} (hx:∀b f,By b→∃v b' f',Pz e G b f v b' f'∧By b'):∀(n:Nat) (b:List Int) (f:Bool),By b→∃l b' f',Pz (fun l:List α=>l.flatMap e) (Gl G n) b f l b' f'∧By b'
 |0,b,f,hb=>⟨[],b,f,Pz.nil,hb⟩
 |n+1,b,f,hb=>by
  obtain⟨l,b1,f1,h1,hb1⟩:=pz_exL hx n b f hb
  obtain⟨v,b2,f2,h2,hb2⟩:=hx b1 f1 hb1
  exact⟨l++[v],b2,f2,h1.snoc h2,hb2⟩
theorem pz_exC {α:Type} {e:α→List Int} {G:α→Prop} (hx:∀b f,By b→∃v b' f',Pz e G b f v b' f'∧By b') (m:Int) (b:List Int) (f:Bool) (hb:By b):∃l b' f',Pz (encC e) (Gc G m) b f l b' f'∧By b' :=by
 obtain⟨l,b2,f2,h2,hb2⟩:=pz_exL hx (nB 4 b f m).n.toNat _ (nB 4 b f m).f (nB_b (k:=4) (f:=f) (m:=m) hb).1
 exact⟨l,b2,f2,Pz.list (nB4_pz hb) h2,hb2⟩
theorem EW.inj {t u:TWitness} {b:List Int} (hb:By b) (h:EW t b) (h' :EW u b):t=u:=by
 obtain⟨is,b1,f1,z1,hb1⟩:=pz_exC (e:=encSp) (G:=GS limR) (fun b f hb=>by
  have o1:=nNt_b (f:=f) hb
  have o2:=nB_b (k:=8) (f:=(nNt b f).f) (m:=18446744073709551615) o1.1
  have o3:=nB_b (k:=4) (f:=(nB 8 (nNt b f).b (nNt b f).f 18446744073709551615).f) (m:=4294967296) o2.1
  have z1:=nNt_pz (f:=f) hb
  have z2:=nB8_pz (f:=(nNt b f).f) (m:=18446744073709551615) o1.1 (by omega)
  have z3:=nB4_pz (f:=(nB 8 (nNt b f).b (nNt b f).f 18446744073709551615).f) (m:=4294967296) o2.1
  generalize nB 8 (nNt b f).b (nNt b f).f 18446744073709551615=A2 at *
  generalize nB 4 A2.b A2.f 4294967296=A3 at *
  have o4:=nB_b (k:=4) (f:=A3.f) (m:=4294967296) o3.1
  have z4:=nB4_pz (f:=A3.f) (m:=4294967296) o3.1
  generalize nB 4 A3.b A3.f 4294967296=A4 at *
  have o5:=lB_b (m:=12) (p:=18446744069414584321) (f:=A4.f) o4.1
  have z5:=lB_pz (m:=12) (p:=18446744069414584321) (f:=A4.f) o4.1 (by omega)
  generalize lB A4.b A4.f 12 18446744069414584321=A5 at *
  exact⟨_,_,_,k1oi (L:=limR) z1 z2 z3 z4 z5 (nB4_pz o5.1),(nB_b o5.1).1⟩) 4 b false hb
 obtain⟨os,b2,f2,z2,hb2⟩:=pz_exC (e:=encN) (G:=GN limR) (fun b f hb=>⟨_,_,_,nNt_pz hb,(nNt_b hb).1⟩) 4 b1 f1 hb1
 obtain⟨_,cpl⟩:=pz_wit (L:=limR) z1 z2 (nB8_pz (m:=18446744073709551615) hb2 (by omega))
 exact((cpl t h).2.2).symm.trans (cpl u h').2.2
def isQ (label:Int) (l:List Int) (x:TQuestion):Bool:=decide (x.Label=label)&&decide (x.Elems=l)
def fnd (q:List TQuestion) (label:Int) (l:List Int):Int:=match mIdx (isQ label l) q with
 |some j=>(j:Int)
 |none=> -1
def rpk (q:List TQuestion) (label:Int) (l:List Int):Option Int:=match mIdx (isQ label l) q with
 |some j=>some (ix q (j:Int)).Answer
 |none=>none
theorem k1mm (l:List TQuestion) (p:TQuestion→Bool) (i:Int) (h0:0≤i) (h1:i<l.length) (h:mIdx p (l.take i.toNat)=none):
  (p (ix l i)=true→mIdx p l=some i.toNat)∧(p (ix l i)=false→mIdx p (l.take (i+1).toNat)=none):=by
 have app:∀(a b:List TQuestion),mIdx p a=none→mIdx p (a++b)=(mIdx p b).map (·+a.length):=by
  intro a
  induction a with
  |nil=>intro b _;cases hb:mIdx p b<;>simp[hb]
  |cons x a ih=>
   intro b hab
   simp only[mIdx]at hab
   cases hp:p x with
   |true=>rw[hp]at hab;cases hab
   |false=>
    rw[hp]at hab
    have ha:mIdx p a=none:=by
     cases hm:mIdx p a with
     |none=>rfl
     |some j=>rw[hm]at hab;cases hab
    simp only[List.cons_append,mIdx,hp,cond_false,ih b ha,List.length_cons]
    cases mIdx p b<;>simp[Nat.add_assoc]
 constructor
 ·intro e
  have hl:l=l.take i.toNat++(ix l i::l.drop (i+1).toNat):=by rw[←drop_ix l i h0 h1,List.take_append_drop]
  have hlen:(l.take i.toNat).length=i.toNat:=by rw[List.length_take];omega
  have:=app (l.take i.toNat) (ix l i::l.drop (i+1).toNat) h
  rw[←hl,hlen]at this
  rw[this]
  simp[mIdx,e]
 ·intro e
  rw[k99 l i h0 h1,app _ _ h]
  simp[mIdx,e]
structure MM where
 n:Int
 m:TModel
def recM (m:TModel) (label:Int) (l:List Int) (n:Int):TModel:=⟨m.State,m.Draws,m.Known++[⟨label,l,n⟩],m.Seals,m.Proofs⟩
def drM (m:TModel):MM:=⟨mixN (IntKind.u64.wrap (m.State+11400714819323198485)),⟨IntKind.u64.wrap (m.State+11400714819323198485),IntKind.i64.wrap (m.Draws+1),m.Known,m.Seals,m.Proofs⟩⟩
def mH (m:TModel) (label:Int) (l:List Int):MM:=
 if allB l=true then(match rpk m.Known label l with
  |some n=>⟨n,m⟩
  |none=>⟨(drM m).n,recM (drM m).m label l (drM m).n⟩)else⟨0,m⟩
structure KQ (q:List TQuestion):Prop where
 n:q.length≤1000000
 e:∀x∈q,x.Elems.length≤1000000000
theorem OOk.kq {o:OS} (h:OOk o):KQ o.q:=⟨h.q,h.e⟩
theorem k18p {α:Type} {p r:α→Bool}:∀{l:List α},(∀x∈l,p x=r x)→mIdx p l=mIdx r l
 |[],_=>rfl
 |x::l,h=>by simp only[mIdx,h x (by simp),k18p (l:=l) fun y hy=>h y (by simp[hy])]
theorem RO.idx {o:OS} (h:RO o) {label:Int} {l:List Int} (hu:U64 label) (hl:Us l):mIdx (BEq.beq (keyB [label] l)) o.k=mIdx (isQ label l) o.q:=by
 rw[h.k,k16v]
 refine k18p fun x hx=> ?_
 have hq:=h.q x hx
 rw[Bool.eq_iff_iff]
 unfold isQ
 simp only[Bool.and_eq_true,decide_eq_true_eq]
 constructor
 ·intro e
  have e:keyB [label] l=keyQ x:=(ba_beq _ _).1 e
  obtain⟨h1,h2⟩:=k1jf hu hq.l hl hq.e e
  exact⟨h1.symm,h2.symm⟩
 ·rintro ⟨rfl,rfl⟩
  exact(ba_beq _ _).2 rfl
structure OM (o:OS) (m:TModel):Prop where
 r:RO o
 a:o.a=true
 b:o.b=m.State
 c:o.c=m.Draws
 q:o.q=m.Known
theorem OM.look {o:OS} {m:TModel} (h:OM o m) {label:Int} {l:List Int} (hu:U64 label) (hl:Us l):
  (mHas (BEq.beq (keyB [label] l)) o.k=true∧rpk m.Known label l=some (ix o.q (mVal (BEq.beq (keyB [label] l)) o.k o.v 0)).Answer)∨
  (mHas (BEq.beq (keyB [label] l)) o.k=false∧rpk m.Known label l=none):=by
 have hi:=h.r.idx hu hl
 unfold mHas mVal rpk
 rw[hi,←h.q]
 cases hj:mIdx (isQ label l) o.q with
 |none=>exact .inr ⟨rfl,rfl⟩
 |some j=>
  obtain⟨x,hx,_⟩:=kmr hj
  have hjl:j<o.q.length:=(List.getElem?_eq_some_iff.1 hx).1
  refine .inl ⟨rfl,?_⟩
  have e:((o.v[j]?).getD 0:Int)=(j:Int):=by rw[h.r.v];simp[hjl]
  simp only[e]
theorem OM.peek {o:OS} {m:TModel} (h:OM o m) {label:Int} {l:List Int} (hu:U64 label) (hl:Us l) (hb:allB l=true):pk o.a o.q o.k o.v label l=rpk m.Known label l:=by
 unfold pk
 rw[if_pos hb]
 rcases h.look hu hl with⟨h1,h2⟩|⟨h1,h2⟩
 ·rw[if_pos h1,h2]
 ·rw[if_neg (by rw[h1];decide),if_pos h.a,h2]
theorem OM.h {o:OS} {m:TModel} (h:OM o m) {label:Int} {l:List Int} (hu:U64 label) (hl:Us l):(hO o label l).n=(mH m label l).n∧OM (hO o label l).o (mH m label l).m:=by
 have hr:=h.r.h hu hl
 obtain⟨e1,e2,e3,e4⟩:=ansO_q o label l
 have ea:ansO o label l=drO o:=by unfold ansO;rw[if_pos h.a]
 have ed:(drO o).n=(drM m).n∧(drO o).o.b=(drM m).m.State∧(drO o).o.c=(drM m).m.Draws:=by
  unfold drO drM
  rw[if_pos h.a,h.b,h.c]
  exact⟨rfl,rfl,rfl⟩
 rw[ea]at e1 e2 e3 e4
 unfold hO at hr
 unfold hO mH
 rw[ea]at hr ⊢
 by_cases hb:allB l=true
 ·rw[if_pos hb]at hr ⊢
  rw[if_pos hb]
  rcases h.look hu hl with⟨h1,h2⟩|⟨h1,h2⟩
  ·rw[if_pos h1,h2]
   exact⟨rfl,h⟩
  ·rw[if_neg (by rw[h1];decide)]at hr ⊢
   rw[h2]
   refine⟨ed.1,hr,e4.trans h.a,ed.2.1,ed.2.2,?_⟩
   show(drO o).o.q++_=m.Known++_
   rw[e1,h.q,ed.1]
 ·rw[if_neg hb,if_neg hb]
  exact⟨rfl,h⟩
theorem OM.z (seed:Int):OM (zO true seed) ⟨seed,0,[],[],[]⟩:=⟨⟨rfl,rfl,fun x hx=>by cases hx⟩,rfl,rfl,rfl,rfl⟩
def AskEq (f g:Ask):Prop:=∀(label:Int) (l:List Int),U64 label→Us l→allB l=true→f label l=g label l
theorem k1jx {f g:Ask} (h:AskEq f g) {key rho:Int} (h1:U64 key) (h2:U64 rho):markP f key rho=markP g key rho:=by
 unfold markP
 split
 ·rename_i hh
  refine h 3 [key,rho] (by decide) (fun x hx=> ?_) (khp.2 fun x hx=> ?_)
  ·rcases List.mem_cons.1 hx with rfl|hx
   ·exact h1
   ·rw[List.mem_singleton.1 hx];exact h2
  ·rcases List.mem_cons.1 hx with rfl|hx
   ·exact hh.1
   ·rw[List.mem_singleton.1 hx];exact hh.2
 ·rfl
theorem kx0 {n:TNote} (h:NR n):Us (noteL n):=by
 intro x hx
 simp only[noteL,List.mem_cons,List.not_mem_nil,or_false]at hx
 rcases hx with rfl|rfl|rfl|rfl
 ·exact h.v
 ·exact h.o
 ·exact h.r
 ·exact h.b
theorem k1lq {n:TNote} (h:noteV n=true):allB (noteL n)=true:=by
 unfold noteV at h
 simp only[Bool.and_eq_true,decide_eq_true_eq]at h
 refine khp.2 fun x hx=> ?_
 simp only[noteL,List.mem_cons,List.not_mem_nil,or_false]at hx
 rcases hx with rfl|rfl|rfl|rfl<;>omega
theorem k15c {f g:Ask} (h:AskEq f g) {n:TNote} (hn:NR n):commP f n=commP g n:=by
 unfold commP
 split
 ·rename_i hh
  exact h 2 _ (by decide) (kx0 hn) (k1lq hh)
 ·rfl
theorem k1n1 {f g:Ask} (h:AskEq f g) {anchor mark:Int} {x:TSpent} (hx:PR x):inE f anchor mark x=inE g anchor mark x:=by
 unfold inE
 rw[k1jx h hx.k (show U64 x.Note_Rho from hx.n.r),k15c h hx.n]
theorem k19u {f g:Ask} (h:AskEq f g) {anchor:Int}:∀{l:List TSpent} {ms:List Int},(∀x∈l,PR x)→insE f anchor l ms=insE g anchor l ms
 |[],[],_=>rfl
 |[],_::_,_=>rfl
 |_::_,[],_=>rfl
 |x::l,m::ms,hl=>by
  unfold insE
  rw[k1n1 h (hl x (by simp)),k19u h fun y hy=>hl y (by simp[hy])]
theorem k15q {f g:Ask} (h:AskEq f g):∀{l:List TNote} {cs rs:List Int},(∀x∈l,NR x)→outsB f l cs rs=outsB g l cs rs
 |[],[],_,_=>rfl
 |[],_::_,_,_=>rfl
 |_::_,[],_,_=>rfl
 |_::_,_::_,[],_=>rfl
 |x::l,c::cs,r::rs,hl=>by
  unfold outsB outB
  rw[k15c h (hl x (by simp)),k15q h fun y hy=>hl y (by simp[hy])]
theorem k1gn {f g:Ask} (h:AskEq f g) {s:TStatement} {w:TWitness} (hw:WR w):checkS f s w=checkS g s w:=by
 unfold checkS
 rw[k19u h hw.i,k15q h hw.o]
theorem OM.ask {o:OS} {m:TModel} (h:OM o m):AskEq (pk o.a o.q o.k o.v) (rpk m.Known):=fun _ _ h1 h2 h3=>h.peek h1 h2 h3
theorem OOk.u {o:OS} (h:OOk o) (l:Int) (a:List Int):pk o.a o.q o.k o.v l a=none∨∃n,pk o.a o.q o.k o.v l a=some n∧U64 n:=by
 unfold pk
 split
 ·split
  ·rename_i hm
   have hv:=kxp h hm
   have:=h.n _ (ix_mem _ _ hv.1 hv.2)
   exact .inr ⟨_,rfl,this.1,by omega⟩
  ·split
   ·exact .inl rfl
   ·exact .inr ⟨_,rfl,k9w _ _⟩
 ·exact .inl rfl
theorem rpk_u {q:List TQuestion} (h:∀x∈q,U64 x.Answer) (label:Int) (l:List Int):rpk q label l=none∨∃n,rpk q label l=some n∧U64 n:=by
 unfold rpk
 cases hj:mIdx (isQ label l) q with
 |none=>exact .inl rfl
 |some j=>
  obtain⟨x,hx,_⟩:=kmr hj
  have hjl:j<q.length:=(List.getElem?_eq_some_iff.1 hx).1
  exact .inr ⟨_,rfl,h _ (ix_mem q (j:Int) (by omega) (by omega))⟩
structure KU (q:List TQuestion):Prop where
 k:KQ q
 u:∀x∈q,U64 x.Answer
theorem OOk.ku {o:OS} (h:OOk o):KU o.q:=⟨h.kq,fun x hx=>by have:=h.n x hx;exact⟨this.1,by omega⟩⟩
theorem k19e:∀{l:List Int} {d p:Int},U64 d→U64 (climbL d p l)
 |[],_,_,h=>h
 |_::r,_,_,_=>by unfold climbL;exact k19e (by split<;>exact k9w _ _)
theorem k1ll {d p:Int} {l:List Int} (h:U64 d):U64 (climbS d p l):=by
 unfold climbS
 split
 ·exact k19e h
 ·decide
structure IdI (len n:Nat) (o:OS) (m:TModel) (g:List Int):Prop where
 om:OM o m
 ok:OOk o
 n:o.q.length≤n
 l:g.length=len
 u:Us g
theorem IdI.kq {len n:Nat} {o:OS} {m:TModel} {g:List Int} (h:IdI len n o m g):KQ m.Known:=h.om.q▸h.ok.kq
theorem IdI.mono {len n n' :Nat} {o:OS} {m:TModel} {g:List Int} (h:IdI len n o m g) (hn:n≤n'):IdI len n' o m g:=⟨h.om,h.ok,Nat.le_trans h.n hn,h.l,h.u⟩
theorem IdI.ask {len n:Nat} {o:OS} {m:TModel} {g:List Int} (h:IdI len n o m g) {label:Int} {l:List Int} (hu:U64 label) (hl:Us l) (hle:l.length≤1000000000) (hn:n≤1000):
  (hO o label l).n=(mH m label l).n∧U64 (hO o label l).n∧IdI len (n+1) (hO o label l).o (mH m label l).m g:=by
 have hq:=h.n
 obtain⟨h1,h2⟩:=h.om.h hu hl
 obtain⟨h3,_,h4⟩:=h.ok.h label hle (by omega)
 have h5:=h.ok.lt label l
 exact⟨h1,⟨h5.1,by omega⟩,h2,h3,by omega,h.l,h.u⟩
theorem IdI.set {len n:Nat} {o:OS} {m:TModel} {g:List Int} (h:IdI len n o m g) (i:Nat) {x:Int} (hx:U64 x):IdI len n o m (g.set i x):=
 ⟨h.om,h.ok,h.n,by rw[List.length_set];exact h.l,fun y hy=>by
  rcases List.mem_or_eq_of_mem_set hy with hy|rfl
  ·exact h.u y hy
  ·exact hx⟩
end Go.Proofs.Ytpffhgljgpjenaa
namespace Go.Cv
theorem lpk18 {C:Prop} {A0 A1 A2 A3 A4 A5 A6 A7 A8 A9 A10 A11 A12 A13 A14 A15 A16 A17:Type} (h:C) (I M:A0→A1→A2→A3→A4→A5→A6→A7→A8→A9→A10→A11→A12→A13→A14→A15→A16→A17→Prop):(fun a0 a1 a2 a3 a4 a5 a6 a7 a8 a9 a10 a11 a12 a13 a14 a15 a16 a17=>(C∧I a0 a1 a2 a3 a4 a5 a6 a7 a8 a9 a10 a11 a12 a13 a14 a15 a16 a17)∧M a0 a1 a2 a3 a4 a5 a6 a7 a8 a9 a10 a11 a12 a13 a14 a15 a16 a17)=fun a0 a1 a2 a3 a4 a5 a6 a7 a8 a9 a10 a11 a12 a13 a14 a15 a16 a17=>I a0 a1 a2 a3 a4 a5 a6 a7 a8 a9 a10 a11 a12 a13 a14 a15 a16 a17∧M a0 a1 a2 a3 a4 a5 a6 a7 a8 a9 a10 a11 a12 a13 a14 a15 a16 a17:=funext fun a0=>funext fun a1=>funext fun a2=>funext fun a3=>funext fun a4=>funext fun a5=>funext fun a6=>funext fun a7=>funext fun a8=>funext fun a9=>funext fun a10=>funext fun a11=>funext fun a12=>funext fun a13=>funext fun a14=>funext fun a15=>funext fun a16=>funext fun a17=>lpk0 h _ _
theorem lpk19 {C:Prop} {A0 A1 A2 A3 A4 A5 A6 A7 A8 A9 A10 A11 A12 A13 A14 A15 A16 A17 A18:Type} (h:C) (I M:A0→A1→A2→A3→A4→A5→A6→A7→A8→A9→A10→A11→A12→A13→A14→A15→A16→A17→A18→Prop):(fun a0 a1 a2 a3 a4 a5 a6 a7 a8 a9 a10 a11 a12 a13 a14 a15 a16 a17 a18=>(C∧I a0 a1 a2 a3 a4 a5 a6 a7 a8 a9 a10 a11 a12 a13 a14 a15 a16 a17 a18)∧M a0 a1 a2 a3 a4 a5 a6 a7 a8 a9 a10 a11 a12 a13 a14 a15 a16 a17 a18)=fun a0 a1 a2 a3 a4 a5 a6 a7 a8 a9 a10 a11 a12 a13 a14 a15 a16 a17 a18=>I a0 a1 a2 a3 a4 a5 a6 a7 a8 a9 a10 a11 a12 a13 a14 a15 a16 a17 a18∧M a0 a1 a2 a3 a4 a5 a6 a7 a8 a9 a10 a11 a12 a13 a14 a15 a16 a17 a18:=funext fun a0=>funext fun a1=>funext fun a2=>funext fun a3=>funext fun a4=>funext fun a5=>funext fun a6=>funext fun a7=>funext fun a8=>funext fun a9=>funext fun a10=>funext fun a11=>funext fun a12=>funext fun a13=>funext fun a14=>funext fun a15=>funext fun a16=>funext fun a17=>funext fun a18=>lpk0 h _ _
end Go.Cv
namespace Go.Proofs.Ytpffhgljgpjenaa
open Go Go.Bv Go.Cv Go.Md Go.RowKit
theorem kpk.nr {x:TNote} (h:kpk x):NR x:=⟨h.Value,h.Owner,h.Rho,h.Blind⟩
theorem kld.pq {x:TSpent} (h:kld x):PQ x:=⟨⟨h.Note_Value,h.Note_Owner,h.Note_Rho,h.Note_Blind⟩,h.Key,by have:=h.Number;omega,by have:=h.Position;omega,h.Path.2,h.Path.1⟩
theorem kk0.wq {x:TWitness} (h:kk0 x):WQ x:=⟨fun y hy=>(h.Ins.2 y hy).pq,h.Ins.1,fun y hy=>(h.Outs.2 y hy).nr,h.Outs.1,h.Secret⟩
theorem ke7.sq {x:TStatement} (h:ke7 x):SQ x:=⟨by have:=h.Depth;omega,h.Anchor,h.Marks.2,h.Commits.2,h.Rhos.2,h.Deposit,h.Withdraw,h.Fee,h.Account,h.Bind⟩
theorem kv8 {p0:TStatement} {p1:TWitness} {p2:TIdeal} (h0:ke7 p0) (h1:kk0 p1) (h2:k16e p2):SQ p0∧WQ p1∧U64 p2.Seed∧0≤p2.Bits∧p2.Bits<65536:=⟨h0.sq,h1.wq,h2.Seed,h2.Bits⟩
def k1y:Con TB.den:=Con.mk0 23 [.one (.ptr 0 0)] [.cells [.d (.bool),.d (.int .u64),.d (.int .i64),.own 1,.mp 2,.mp 3,.mp 4],.tip (.st 3),.map (.str) (.int .i64),.map (.str) (.sl (.int .u64)),.map (.str) (.bool)] (.one (.one (.d (.int .i64)))) [.cells [.d (.bool),.d (.int .u64),.d (.int .i64),.own 1,.mp 2,.mp 3,.mp 4],.tip (.st 3),.map (.str) (.int .i64),.map (.str) (.sl (.int .u64)),.map (.str) (.bool)]
abbrev kri:=HL TB.den (hsT k1y.ins (hsOs k1y.pre))
abbrev kbq:=HL TB.den (hsV k1y.res (hsOs k1y.post))
noncomputable def k7z:Cx TB:=⟨inf,[],[],4,[]⟩
noncomputable def kd0:Code:=Try.f23.body.getD .skip
noncomputable def kg5:List ResultVar:=Try.f23.results.toList
noncomputable def kop (o:kbq):An TB:= .no
def kd2 (x:kri) (o:kbq):Prop:=WPh TB k7z 7 5 kd0 (kop o) (k1y.st TB x) (retTQ TB k7z k1y kg5 o)
theorem k113 (o:kbq):OblH TB k7z 7 5 kd0 (kop o) (retTQ TB k7z k1y kg5 o):=
 OblH.ofC (X:=True) (by kernel_rfl) trivial
theorem k11m {x:kri} {o:kbq} (h:kd2 x o):k1y.Snd Try.prog x o:=
 Con.soundH (c:=k1y) (C:=k7z) TBok ⟨inf_ok,all_nil,all_nil⟩ mix Try.func23 (show Try.f23.body=some kd0 by kernel_rfl) (show Try.f23.ntmps=7 by kernel_rfl) (show Try.f23.results.toList=kg5 by kernel_rfl) rfl h (k113 o)
theorem k13v {c0_0:Bool} {c0_1:Int} {c0_2:Int} {w1:List TQuestion} {w2k:List ByteArray} {w2v:List Int} {w3k:List ByteArray} {w3v:List (List Int)} {w4k:List ByteArray} {w4v:List Bool} {r0:Int} {d0_0:Bool} {d0_1:Int} {d0_2:Int} {e1:List TQuestion} {e2k:List ByteArray} {e2v:List Int} {e3k:List ByteArray} {e3v:List (List Int)} {e4k:List ByteArray} {e4v:List Bool} (h:
((w1=w1)∧c0_2=r0∧c0_0=d0_0∧c0_1=d0_1∧c0_2=d0_2∧w1=e1∧w2k=e2k∧w2v=e2v∧w3k=e3k∧w3v=e3v∧w4k=e4k∧w4v=e4v)):kd2 (c0_0,c0_1,c0_2,w1,w2k,w2v,w3k,w3v,w4k,w4v,()) (r0,d0_0,d0_1,d0_2,e1,e2k,e2v,e3k,e3v,e4k,e4v,()):=WPh.of_eq (by kernel_rfl) h
theorem bd23:Callable Try.prog 23:=⟨by rw[Try.func23];kernel_rfl,by rw[Try.func23];show some _≠some _;decide⟩
theorem kzg (c0_0:Bool) (c0_1:Int) (c0_2:Int) (w1:List TQuestion) (w2k:List ByteArray) (w2v:List Int) (w3k:List ByteArray) (w3v:List (List Int)) (w4k:List ByteArray) (w4v:List Bool):kd2 (c0_0,c0_1,c0_2,w1,w2k,w2v,w3k,w3v,w4k,w4v,()) ((c0_2:Int),(c0_0:Bool),(c0_1:Int),(c0_2:Int),(w1:List TQuestion),(w2k:List ByteArray),(w2v:List Int),(w3k:List ByteArray),(w3v:List (List Int)),(w4k:List ByteArray),(w4v:List Bool),()):=by
 exact k13v ⟨rfl,rfl,rfl,rfl,rfl,rfl,rfl,rfl,rfl,rfl,rfl,rfl⟩
noncomputable def kn3:Con TB.den:=k1y.totR fun x=>((fun(c0_0:Bool) (c0_1:Int) (c0_2:Int) (w1:List TQuestion) (w2k:List ByteArray) (w2v:List Int) (w3k:List ByteArray) (w3v:List (List Int)) (w4k:List ByteArray) (w4v:List Bool)=>(c0_2:Int)) x.1 x.2.1 x.2.2.1 x.2.2.2.1 x.2.2.2.2.1 x.2.2.2.2.2.1 x.2.2.2.2.2.2.1 x.2.2.2.2.2.2.2.1 x.2.2.2.2.2.2.2.2.1 x.2.2.2.2.2.2.2.2.2.1,(fun(c0_0:Bool) (c0_1:Int) (c0_2:Int) (w1:List TQuestion) (w2k:List ByteArray) (w2v:List Int) (w3k:List ByteArray) (w3v:List (List Int)) (w4k:List ByteArray) (w4v:List Bool)=>(c0_0:Bool)) x.1 x.2.1 x.2.2.1 x.2.2.2.1 x.2.2.2.2.1 x.2.2.2.2.2.1 x.2.2.2.2.2.2.1 x.2.2.2.2.2.2.2.1 x.2.2.2.2.2.2.2.2.1 x.2.2.2.2.2.2.2.2.2.1,(fun(c0_0:Bool) (c0_1:Int) (c0_2:Int) (w1:List TQuestion) (w2k:List ByteArray) (w2v:List Int) (w3k:List ByteArray) (w3v:List (List Int)) (w4k:List ByteArray) (w4v:List Bool)=>(c0_1:Int)) x.1 x.2.1 x.2.2.1 x.2.2.2.1 x.2.2.2.2.1 x.2.2.2.2.2.1 x.2.2.2.2.2.2.1 x.2.2.2.2.2.2.2.1 x.2.2.2.2.2.2.2.2.1 x.2.2.2.2.2.2.2.2.2.1,(fun(c0_0:Bool) (c0_1:Int) (c0_2:Int) (w1:List TQuestion) (w2k:List ByteArray) (w2v:List Int) (w3k:List ByteArray) (w3v:List (List Int)) (w4k:List ByteArray) (w4v:List Bool)=>(c0_2:Int)) x.1 x.2.1 x.2.2.1 x.2.2.2.1 x.2.2.2.2.1 x.2.2.2.2.2.1 x.2.2.2.2.2.2.1 x.2.2.2.2.2.2.2.1 x.2.2.2.2.2.2.2.2.1 x.2.2.2.2.2.2.2.2.2.1,(fun(c0_0:Bool) (c0_1:Int) (c0_2:Int) (w1:List TQuestion) (w2k:List ByteArray) (w2v:List Int) (w3k:List ByteArray) (w3v:List (List Int)) (w4k:List ByteArray) (w4v:List Bool)=>(w1:List TQuestion)) x.1 x.2.1 x.2.2.1 x.2.2.2.1 x.2.2.2.2.1 x.2.2.2.2.2.1 x.2.2.2.2.2.2.1 x.2.2.2.2.2.2.2.1 x.2.2.2.2.2.2.2.2.1 x.2.2.2.2.2.2.2.2.2.1,(fun(c0_0:Bool) (c0_1:Int) (c0_2:Int) (w1:List TQuestion) (w2k:List ByteArray) (w2v:List Int) (w3k:List ByteArray) (w3v:List (List Int)) (w4k:List ByteArray) (w4v:List Bool)=>(w2k:List ByteArray)) x.1 x.2.1 x.2.2.1 x.2.2.2.1 x.2.2.2.2.1 x.2.2.2.2.2.1 x.2.2.2.2.2.2.1 x.2.2.2.2.2.2.2.1 x.2.2.2.2.2.2.2.2.1 x.2.2.2.2.2.2.2.2.2.1,(fun(c0_0:Bool) (c0_1:Int) (c0_2:Int) (w1:List TQuestion) (w2k:List ByteArray) (w2v:List Int) (w3k:List ByteArray) (w3v:List (List Int)) (w4k:List ByteArray) (w4v:List Bool)=>(w2v:List Int)) x.1 x.2.1 x.2.2.1 x.2.2.2.1 x.2.2.2.2.1 x.2.2.2.2.2.1 x.2.2.2.2.2.2.1 x.2.2.2.2.2.2.2.1 x.2.2.2.2.2.2.2.2.1 x.2.2.2.2.2.2.2.2.2.1,(fun(c0_0:Bool) (c0_1:Int) (c0_2:Int) (w1:List TQuestion) (w2k:List ByteArray) (w2v:List Int) (w3k:List ByteArray) (w3v:List (List Int)) (w4k:List ByteArray) (w4v:List Bool)=>(w3k:List ByteArray)) x.1 x.2.1 x.2.2.1 x.2.2.2.1 x.2.2.2.2.1 x.2.2.2.2.2.1 x.2.2.2.2.2.2.1 x.2.2.2.2.2.2.2.1 x.2.2.2.2.2.2.2.2.1 x.2.2.2.2.2.2.2.2.2.1,(fun(c0_0:Bool) (c0_1:Int) (c0_2:Int) (w1:List TQuestion) (w2k:List ByteArray) (w2v:List Int) (w3k:List ByteArray) (w3v:List (List Int)) (w4k:List ByteArray) (w4v:List Bool)=>(w3v:List (List Int))) x.1 x.2.1 x.2.2.1 x.2.2.2.1 x.2.2.2.2.1 x.2.2.2.2.2.1 x.2.2.2.2.2.2.1 x.2.2.2.2.2.2.2.1 x.2.2.2.2.2.2.2.2.1 x.2.2.2.2.2.2.2.2.2.1,(fun(c0_0:Bool) (c0_1:Int) (c0_2:Int) (w1:List TQuestion) (w2k:List ByteArray) (w2v:List Int) (w3k:List ByteArray) (w3v:List (List Int)) (w4k:List ByteArray) (w4v:List Bool)=>(w4k:List ByteArray)) x.1 x.2.1 x.2.2.1 x.2.2.2.1 x.2.2.2.2.1 x.2.2.2.2.2.1 x.2.2.2.2.2.2.1 x.2.2.2.2.2.2.2.1 x.2.2.2.2.2.2.2.2.1 x.2.2.2.2.2.2.2.2.2.1,(fun(c0_0:Bool) (c0_1:Int) (c0_2:Int) (w1:List TQuestion) (w2k:List ByteArray) (w2v:List Int) (w3k:List ByteArray) (w3v:List (List Int)) (w4k:List ByteArray) (w4v:List Bool)=>(w4v:List Bool)) x.1 x.2.1 x.2.2.1 x.2.2.2.1 x.2.2.2.2.1 x.2.2.2.2.2.1 x.2.2.2.2.2.2.1 x.2.2.2.2.2.2.2.1 x.2.2.2.2.2.2.2.2.1 x.2.2.2.2.2.2.2.2.2.1,())
theorem k13b:kn3.Ok Try.prog TB:=Con.ok_tot k1y bd23 fun x=>k11m (kzg x.1 x.2.1 x.2.2.1 x.2.2.2.1 x.2.2.2.2.1 x.2.2.2.2.2.1 x.2.2.2.2.2.2.1 x.2.2.2.2.2.2.2.1 x.2.2.2.2.2.2.2.2.1 x.2.2.2.2.2.2.2.2.2.1)
def k2c:Con TB.den:=Con.mk0 91 [.one (.d (.sl (.int .u64)))] [] (.one (.one (.d (.sl (.int .u64))))) []
abbrev ks9:=HL TB.den (hsT k2c.ins (hsOs k2c.pre))
abbrev kdj:=HL TB.den (hsV k2c.res (hsOs k2c.post))
noncomputable def k96:Cx TB:=⟨inf,[],[],4,[]⟩
noncomputable def kfe:Code:=Try.f91.body.getD .skip
noncomputable def khu:List ResultVar:=Try.f91.results.toList
noncomputable def kq9 (o:kdj):An TB:= .no
def kdo (x:ks9) (o:kdj):Prop:=WPh TB k96 5 0 kfe (kq9 o) (k2c.st TB x) (retTQ TB k96 k2c khu o)
theorem k13f (o:kdj):OblH TB k96 5 0 kfe (kq9 o) (retTQ TB k96 k2c khu o):=
 OblH.ofC (X:=True) (by kernel_rfl) trivial
theorem k14p {x:ks9} {o:kdj} (h:kdo x o):k2c.Snd Try.prog x o:=
 Con.soundH (c:=k2c) (C:=k96) TBok ⟨inf_ok,all_nil,all_nil⟩ mix Try.func91 (show Try.f91.body=some kfe by kernel_rfl) (show Try.f91.ntmps=5 by kernel_rfl) (show Try.f91.results.toList=khu by kernel_rfl) rfl h (k13f o)
theorem k187 {p0:List Int} {r0:List Int} (h:
(p0.length*8≤140737488355328∧p0.length≤maxLen∧p0=r0)):kdo (p0,()) (r0,()):=WPh.of_eq (by kernel_rfl) h
theorem bd91:Callable Try.prog 91:=⟨by rw[Try.func91];kernel_rfl,by rw[Try.func91];show some _≠some _;decide⟩
theorem k10t (p0:List Int) (h:p0.length≤1000000000):kdo (p0,()) ((p0:List Int),()):=by
 exact k187 ⟨by omega,by unfold maxLen;omega,rfl⟩
noncomputable def kg2:Con TB.den:=k2c.fnR (fun x=>(fun(p0:List Int)=>p0.length≤1000000000) x.1) fun x=>((fun(p0:List Int)=>(p0:List Int)) x.1,())
theorem kpv:kg2.Ok Try.prog TB:=Con.ok_fn k2c bd91 fun x h=>k14p (k10t x.1 h)
def kj:Con TB.den:=Con.mk0 46 [.agg [.d (.int .u64),.d (.sl (.int .u64)),.d (.int .u64)]] [] (.one (.agg [.d (.int .u64),.d (.sl (.int .u64)),.d (.int .u64)])) []
abbrev kfv:=HL TB.den (hsT kj.ins (hsOs kj.pre))
abbrev k6q:=HL TB.den (hsV kj.res (hsOs kj.post))
noncomputable def k4r:Cx TB:=⟨inf,[kg2],[],4,[]⟩
noncomputable def k7t:Code:=Try.f46.body.getD .skip
noncomputable def k94:List ResultVar:=Try.f46.results.toList
noncomputable def ken (o:k6q):An TB:= .no
def k7p (x:kfv) (o:k6q):Prop:=WPh TB k4r 11 0 k7t (ken o) (kj.st TB x) (retTQ TB k4r kj k94 o)
theorem kp5 (o:k6q):OblH TB k4r 11 0 k7t (ken o) (retTQ TB k4r kj k94 o):=
 OblH.ofC (X:=True) (by kernel_rfl) trivial
theorem kp6 {x:kfv} {o:k6q} (h:k7p x o):kj.Snd Try.prog x o:=
 Con.soundH (c:=kj) (C:=k4r) TBok ⟨inf_ok,(all_cons kpv all_nil),all_nil⟩ mix Try.func46 (show Try.f46.body=some k7t by kernel_rfl) (show Try.f46.ntmps=11 by kernel_rfl) (show Try.f46.results.toList=k94 by kernel_rfl) rfl h (kp5 o)
theorem kqd {p0:TQuestion} {r0:TQuestion} (h:
((p0.Elems.length≤1000000000)∧p0.Label=r0.Label∧p0.Elems=r0.Elems∧p0.Answer=r0.Answer)):k7p (p0.Label,p0.Elems,p0.Answer,()) (r0.Label,r0.Elems,r0.Answer,()):=WPh.of_eq (by kernel_rfl) h
theorem bd46:Callable Try.prog 46:=⟨by rw[Try.func46];kernel_rfl,by rw[Try.func46];show some _≠some _;decide⟩
theorem knp (p0:TQuestion) (h:p0.Elems.length≤1000000000):k7p (p0.Label,p0.Elems,p0.Answer,()) ((p0.Label:Int),(p0.Elems:List Int),(p0.Answer:Int),()):=by
 exact kqd (r0:=p0) ⟨h,rfl,rfl,rfl⟩
noncomputable def kdl:Con TB.den:=kj.fnR (fun x=>(fun(p0:TQuestion)=>p0.Elems.length≤1000000000) (TQuestion.mk x.1 x.2.1 x.2.2.1)) fun x=>((fun(p0:TQuestion)=>(p0.Label:Int)) (TQuestion.mk x.1 x.2.1 x.2.2.1),(fun(p0:TQuestion)=>(p0.Elems:List Int)) (TQuestion.mk x.1 x.2.1 x.2.2.1),(fun(p0:TQuestion)=>(p0.Answer:Int)) (TQuestion.mk x.1 x.2.1 x.2.2.1),())
theorem kpu:kdl.Ok Try.prog TB:=Con.ok_fn kj bd46 fun x h=>kp6 (knp (TQuestion.mk x.1 x.2.1 x.2.2.1) h)
def kr:Con TB.den:=Con.mk0 22 [.one (.ptr 0 0)] [.cells [.d (.bool),.d (.int .u64),.d (.int .i64),.own 1,.mp 2,.mp 3,.mp 4],.tip (.st 3),.map (.str) (.int .i64),.map (.str) (.sl (.int .u64)),.map (.str) (.bool)] (.one (.one (.d (.sl (.st 3))))) [.cells [.d (.bool),.d (.int .u64),.d (.int .i64),.own 1,.mp 2,.mp 3,.mp 4],.tip (.st 3),.map (.str) (.int .i64),.map (.str) (.sl (.int .u64)),.map (.str) (.bool)]
abbrev kk6:=HL TB.den (hsT kr.ins (hsOs kr.pre))
abbrev k21:=HL TB.den (hsV kr.res (hsOs kr.post))
noncomputable def k2h:Cx TB:=⟨inf,[kdl],[],4,[]⟩
noncomputable def k55:Code:=Try.f22.body.getD .skip
noncomputable def k7i:List ResultVar:=Try.f22.results.toList
def kva (o:k21):=qS TB k2h 29 5 (cB (cB (cB k55))) (.nd [] .no [] (.rt [.frz 5 [2]])) (retTQ TB k2h kr k7i o)
def k39:Tm:=⟨[0,1,2,3,4,5],[.cells [.d (.bool),.d (.int .u64),.d (.int .i64),.own 1,.mp 2,.mp 3,.mp 4],.tip (.st 3),.map (.str) (.int .i64),.map (.str) (.sl (.int .u64)),.map (.str) (.bool),.vec (.st 3)],[3,15,16,17],[.one (.row 5),.one (.own 1),.one (.d (.int .i64)),.one (.d (.int .i64))],6⟩
def kum (o:k21) (nx1:NX TB k39):=qM TB 5 k39 nx1 (blockT TB 0 (kva o))
def k5z (o:k21) (nx1:NX TB k39) (i:HL TB.den k39.hs):Prop:=WP TB k2h 29 5 (cA (cA (cB (cA (cB (cB k55)))))) .no (k39.fill TB i) (kum o nx1)
noncomputable def kvz (o:k21):An TB:= .lp [] k39 (k5z o) fun nx1=> .no
noncomputable def kv6 (o:k21):An TB:= .nd [] (.nd [] .no [] (kvz o)) [] (.nd [] .no [] (.rt [.frz 5 [2]]))
noncomputable def ki3 (o:k21):An TB:= .nd [] .no [] (.nd [] .no [] (kv6 o))
def k9h (x:kk6) (o:k21):Prop:=WPh TB k2h 29 5 k55 (ki3 o) (kr.st TB x) (retTQ TB k2h kr k7i o)
theorem ku9 (o:k21):OblH TB k2h 29 5 k55 (ki3 o) (retTQ TB k2h kr k7i o):=
 OblH.ofC (X:=((∀nx i,(k5z o) nx i=(k5z o) nx i)∧(∀nx1:NX TB k39,True)∧True)) (by kernel_rfl) ⟨fun _ _=>rfl,fun _=>trivial,trivial⟩
theorem ku5 {x:kk6} {o:k21} (h:k9h x o):kr.Snd Try.prog x o:=
 Con.soundH (c:=kr) (C:=k2h) TBok ⟨inf_ok,(all_cons kpu all_nil),all_nil⟩ mix Try.func22 (show Try.f22.body=some k55 by kernel_rfl) (show Try.f22.ntmps=29 by kernel_rfl) (show Try.f22.results.toList=k7i by kernel_rfl) rfl h (ku9 o)
theorem kvn {c0_0:Bool} {c0_1:Int} {c0_2:Int} {w1:List TQuestion} {w2k:List ByteArray} {w2v:List Int} {w3k:List ByteArray} {w3v:List (List Int)} {w4k:List ByteArray} {w4v:List Bool} {r0:List TQuestion} {d0_0:Bool} {d0_1:Int} {d0_2:Int} {e1:List TQuestion} {e2k:List ByteArray} {e2v:List Int} {e3k:List ByteArray} {e3v:List (List Int)} {e4k:List ByteArray} {e4v:List Bool} (h:
(0≤(w1.length:Int)∧(w1.length:Int)≤(w1.length:Int)∧((w1.length:Int).toNat*40≤140737488355328)∧((w1.length:Int).toNat≤maxLen)∧(w1=w1)∧(w1=w1)∧((w1.length:Int).toNat=(List.replicate ((w1.length:Int).toNat) (default:TQuestion)).length)∧Md.Loop (((w1.length:Int):Int),(0:Int),c0_0,c0_1,c0_2,w1,w2k,w2v,w3k,w3v,w4k,w4v,(List.replicate ((w1.length:Int).toNat) (default:TQuestion):List TQuestion),()) (k5z (r0,d0_0,d0_1,d0_2,e1,e2k,e2v,e3k,e3v,e4k,e4v,())))):k9h (c0_0,c0_1,c0_2,w1,w2k,w2v,w3k,w3v,w4k,w4v,()) (r0,d0_0,d0_1,d0_2,e1,e2k,e2v,e3k,e3v,e4k,e4v,()):=WPh.of_eq (by kernel_rfl) h
def ki9 (r0:List TQuestion) (d0_0:Bool) (d0_1:Int) (d0_2:Int) (e1:List TQuestion) (e2k:List ByteArray) (e2v:List Int) (e3k:List ByteArray) (e3v:List (List Int)) (e4k:List ByteArray) (e4v:List Bool) (k1:Int→List TQuestion→Prop) (s16:Int) (h0_0:Bool) (h0_1:Int) (h0_2:Int) (g1:List TQuestion) (g2k:List ByteArray) (g2v:List Int) (g3k:List ByteArray) (g3v:List (List Int)) (g4k:List ByteArray) (g4v:List Bool) (s17:Int) (g5:List TQuestion):Prop:=
(decide (s17<s16)=true→
(0≤s17)∧s17<(g1.length:Int)∧((ix g1 s17).Elems.length≤1000000000)∧(0≤s17∧s17<(g5.length:Int))∧(0≤s17∧s17<(g5.length:Int))∧(g1=g1)∧(g1=g1)∧(g5.length=(g5.set s17.toNat (ix g1 s17)).length)∧k1 (IntKind.i64.wrap (s17+1):Int) (g5.set s17.toNat (ix g1 s17):List TQuestion))∧
(decide (s17<s16)=false→
(g5.length=g5.length)∧(g1=g1)∧g5=r0∧h0_0=d0_0∧h0_1=d0_1∧h0_2=d0_2∧g1=e1∧g2k=e2k∧g2v=e2v∧g3k=e3k∧g3v=e3v∧g4k=e4k∧g4v=e4v)
theorem ktl {r0:List TQuestion} {d0_0:Bool} {d0_1:Int} {d0_2:Int} {e1:List TQuestion} {e2k:List ByteArray} {e2v:List Int} {e3k:List ByteArray} {e3v:List (List Int)} {e4k:List ByteArray} {e4v:List Bool} {s16:Int} {h0_0:Bool} {h0_1:Int} {h0_2:Int} {g1:List TQuestion} {g2k:List ByteArray} {g2v:List Int} {g3k:List ByteArray} {g3v:List (List Int)} {g4k:List ByteArray} {g4v:List Bool} {s17:Int} {g5:List TQuestion} (inv:Int→List TQuestion→Prop) (μ:Int→List TQuestion→Nat) (h0:inv s17 g5) (hs:∀(s17:Int) (g5:List TQuestion),inv s17 g5→ki9 r0 d0_0 d0_1 d0_2 e1 e2k e2v e3k e3v e4k e4v (fun s17q g5q=>inv s17q g5q∧μ s17q g5q<μ s17 g5) s16 h0_0 h0_1 h0_2 g1 g2k g2v g3k g3v g4k g4v s17 g5):Md.Loop (s16,s17,h0_0,h0_1,h0_2,g1,g2k,g2v,g3k,g3v,g4k,g4v,g5,()) (k5z (r0,d0_0,d0_1,d0_2,e1,e2k,e2v,e3k,e3v,e4k,e4v,())):=
 ⟨⟨fun s:Int×Int×Bool×Int×Int×(List TQuestion)×(List ByteArray)×(List Int)×(List ByteArray)×(List (List Int))×(List ByteArray)×(List Bool)×(List TQuestion)×Unit=>(s.1=s16∧s.2.2.1=h0_0∧s.2.2.2.1=h0_1∧s.2.2.2.2.1=h0_2∧s.2.2.2.2.2.1=g1∧s.2.2.2.2.2.2.1=g2k∧s.2.2.2.2.2.2.2.1=g2v∧s.2.2.2.2.2.2.2.2.1=g3k∧s.2.2.2.2.2.2.2.2.2.1=g3v∧s.2.2.2.2.2.2.2.2.2.2.1=g4k∧s.2.2.2.2.2.2.2.2.2.2.2.1=g4v)∧inv s.2.1 s.2.2.2.2.2.2.2.2.2.2.2.2.1,fun s:Int×Int×Bool×Int×Int×(List TQuestion)×(List ByteArray)×(List Int)×(List ByteArray)×(List (List Int))×(List ByteArray)×(List Bool)×(List TQuestion)×Unit=>μ s.2.1 s.2.2.2.2.2.2.2.2.2.2.2.2.1,⟨⟨rfl,rfl,rfl,rfl,rfl,rfl,rfl,rfl,rfl,rfl,rfl⟩,h0⟩,fun(s16p,s17p,h0_0p,h0_1p,h0_2p,g1p,g2kp,g2vp,g3kp,g3vp,g4kp,g4vp,g5p,()) ⟨⟨eq0,eq1,eq2,eq3,eq4,eq5,eq6,eq7,eq8,eq9,eq10⟩,hi⟩=>by
  have eq0:s16p=s16:=eq0;subst s16p;have eq1:h0_0p=h0_0:=eq1;subst h0_0p;have eq2:h0_1p=h0_1:=eq2;subst h0_1p;have eq3:h0_2p=h0_2:=eq3;subst h0_2p;have eq4:g1p=g1:=eq4;subst g1p;have eq5:g2kp=g2k:=eq5;subst g2kp;have eq6:g2vp=g2v:=eq6;subst g2vp;have eq7:g3kp=g3k:=eq7;subst g3kp;have eq8:g3vp=g3v:=eq8;subst g3vp;have eq9:g4kp=g4k:=eq9;subst g4kp;have eq10:g4vp=g4v:=eq10;subst g4vp;exact mpr_of (by kernel_rfl) ((congrArg (fun k=>ki9 r0 d0_0 d0_1 d0_2 e1 e2k e2v e3k e3v e4k e4v k s16 h0_0 h0_1 h0_2 g1 g2k g2v g3k g3v g4k g4v s17p g5p) (lpk2 (⟨rfl,rfl,rfl,rfl,rfl,rfl,rfl,rfl,rfl,rfl,rfl⟩:s16=s16∧h0_0=h0_0∧h0_1=h0_1∧h0_2=h0_2∧g1=g1∧g2k=g2k∧g2v=g2v∧g3k=g3k∧g3v=g3v∧g4k=g4k∧g4v=g4v) inv (fun s17q g5q=>μ s17q g5q<μ s17p g5p))).mpr (hs s17p g5p hi))⟩⟩
theorem bd22:Callable Try.prog 22:=⟨by rw[Try.func22];kernel_rfl,by rw[Try.func22];show some _≠some _;decide⟩
theorem krp (c0_0:Bool) (c0_1:Int) (c0_2:Int) (w1:List TQuestion) (w2k:List ByteArray) (w2v:List Int) (w3k:List ByteArray) (w3v:List (List Int)) (w4k:List ByteArray) (w4v:List Bool) (h:w1.length≤1000000∧∀x∈w1,x.Elems.length≤1000000000):k9h (c0_0,c0_1,c0_2,w1,w2k,w2v,w3k,w3v,w4k,w4v,()) ((w1:List TQuestion),(c0_0:Bool),(c0_1:Int),(c0_2:Int),(w1:List TQuestion),(w2k:List ByteArray),(w2v:List Int),(w3k:List ByteArray),(w3v:List (List Int)),(w4k:List ByteArray),(w4v:List Bool),()):=by
 obtain⟨h1,h2⟩:=h
 refine kvn ⟨by omega,by omega,by omega,by unfold maxLen;omega,rfl,rfl,by simp,?_⟩
 refine ktl (SetI (fun(j:Nat)=>ix w1 (j:Int)) w1.length) (fun i _=>(w1.length-i).toNat) (SetI.start (by simp)) ?_
 intro i g hi
 refine⟨fun hh=> ?_,fun hh=> ?_⟩
 ·have hh:=of_decide_eq_true hh
  have e:(ix w1 i:TQuestion)=ix w1 ((i.toNat:Nat):Int):=by rw[show((i.toNat:Nat):Int)=i by have:=hi.1;omega]
  have hlen:=hi.2.2.1
  exact⟨hi.1,hh,h2 _ (ix_mem w1 i hi.1 hh),⟨hi.1,by omega⟩,⟨hi.1,by omega⟩,rfl,rfl,by rw[List.length_set],hi.next hh (by omega) e⟩
 ·have hh:=of_decide_eq_false hh
  have:=hi.done hh
  rw[k1nj]at this
  exact⟨rfl,rfl,this,rfl,rfl,rfl,rfl,rfl,rfl,rfl,rfl,rfl,rfl⟩
noncomputable def kgy:Con TB.den:=kr.fnR (fun x=>(fun(c0_0:Bool) (c0_1:Int) (c0_2:Int) (w1:List TQuestion) (w2k:List ByteArray) (w2v:List Int) (w3k:List ByteArray) (w3v:List (List Int)) (w4k:List ByteArray) (w4v:List Bool)=>w1.length≤1000000∧∀x∈w1,x.Elems.length≤1000000000) x.1 x.2.1 x.2.2.1 x.2.2.2.1 x.2.2.2.2.1 x.2.2.2.2.2.1 x.2.2.2.2.2.2.1 x.2.2.2.2.2.2.2.1 x.2.2.2.2.2.2.2.2.1 x.2.2.2.2.2.2.2.2.2.1) fun x=>((fun(c0_0:Bool) (c0_1:Int) (c0_2:Int) (w1:List TQuestion) (w2k:List ByteArray) (w2v:List Int) (w3k:List ByteArray) (w3v:List (List Int)) (w4k:List ByteArray) (w4v:List Bool)=>(w1:List TQuestion)) x.1 x.2.1 x.2.2.1 x.2.2.2.1 x.2.2.2.2.1 x.2.2.2.2.2.1 x.2.2.2.2.2.2.1 x.2.2.2.2.2.2.2.1 x.2.2.2.2.2.2.2.2.1 x.2.2.2.2.2.2.2.2.2.1,(fun(c0_0:Bool) (c0_1:Int) (c0_2:Int) (w1:List TQuestion) (w2k:List ByteArray) (w2v:List Int) (w3k:List ByteArray) (w3v:List (List Int)) (w4k:List ByteArray) (w4v:List Bool)=>(c0_0:Bool)) x.1 x.2.1 x.2.2.1 x.2.2.2.1 x.2.2.2.2.1 x.2.2.2.2.2.1 x.2.2.2.2.2.2.1 x.2.2.2.2.2.2.2.1 x.2.2.2.2.2.2.2.2.1 x.2.2.2.2.2.2.2.2.2.1,(fun(c0_0:Bool) (c0_1:Int) (c0_2:Int) (w1:List TQuestion) (w2k:List ByteArray) (w2v:List Int) (w3k:List ByteArray) (w3v:List (List Int)) (w4k:List ByteArray) (w4v:List Bool)=>(c0_1:Int)) x.1 x.2.1 x.2.2.1 x.2.2.2.1 x.2.2.2.2.1 x.2.2.2.2.2.1 x.2.2.2.2.2.2.1 x.2.2.2.2.2.2.2.1 x.2.2.2.2.2.2.2.2.1 x.2.2.2.2.2.2.2.2.2.1,(fun(c0_0:Bool) (c0_1:Int) (c0_2:Int) (w1:List TQuestion) (w2k:List ByteArray) (w2v:List Int) (w3k:List ByteArray) (w3v:List (List Int)) (w4k:List ByteArray) (w4v:List Bool)=>(c0_2:Int)) x.1 x.2.1 x.2.2.1 x.2.2.2.1 x.2.2.2.2.1 x.2.2.2.2.2.1 x.2.2.2.2.2.2.1 x.2.2.2.2.2.2.2.1 x.2.2.2.2.2.2.2.2.1 x.2.2.2.2.2.2.2.2.2.1,(fun(c0_0:Bool) (c0_1:Int) (c0_2:Int) (w1:List TQuestion) (w2k:List ByteArray) (w2v:List Int) (w3k:List ByteArray) (w3v:List (List Int)) (w4k:List ByteArray) (w4v:List Bool)=>(w1:List TQuestion)) x.1 x.2.1 x.2.2.1 x.2.2.2.1 x.2.2.2.2.1 x.2.2.2.2.2.1 x.2.2.2.2.2.2.1 x.2.2.2.2.2.2.2.1 x.2.2.2.2.2.2.2.2.1 x.2.2.2.2.2.2.2.2.2.1,(fun(c0_0:Bool) (c0_1:Int) (c0_2:Int) (w1:List TQuestion) (w2k:List ByteArray) (w2v:List Int) (w3k:List ByteArray) (w3v:List (List Int)) (w4k:List ByteArray) (w4v:List Bool)=>(w2k:List ByteArray)) x.1 x.2.1 x.2.2.1 x.2.2.2.1 x.2.2.2.2.1 x.2.2.2.2.2.1 x.2.2.2.2.2.2.1 x.2.2.2.2.2.2.2.1 x.2.2.2.2.2.2.2.2.1 x.2.2.2.2.2.2.2.2.2.1,(fun(c0_0:Bool) (c0_1:Int) (c0_2:Int) (w1:List TQuestion) (w2k:List ByteArray) (w2v:List Int) (w3k:List ByteArray) (w3v:List (List Int)) (w4k:List ByteArray) (w4v:List Bool)=>(w2v:List Int)) x.1 x.2.1 x.2.2.1 x.2.2.2.1 x.2.2.2.2.1 x.2.2.2.2.2.1 x.2.2.2.2.2.2.1 x.2.2.2.2.2.2.2.1 x.2.2.2.2.2.2.2.2.1 x.2.2.2.2.2.2.2.2.2.1,(fun(c0_0:Bool) (c0_1:Int) (c0_2:Int) (w1:List TQuestion) (w2k:List ByteArray) (w2v:List Int) (w3k:List ByteArray) (w3v:List (List Int)) (w4k:List ByteArray) (w4v:List Bool)=>(w3k:List ByteArray)) x.1 x.2.1 x.2.2.1 x.2.2.2.1 x.2.2.2.2.1 x.2.2.2.2.2.1 x.2.2.2.2.2.2.1 x.2.2.2.2.2.2.2.1 x.2.2.2.2.2.2.2.2.1 x.2.2.2.2.2.2.2.2.2.1,(fun(c0_0:Bool) (c0_1:Int) (c0_2:Int) (w1:List TQuestion) (w2k:List ByteArray) (w2v:List Int) (w3k:List ByteArray) (w3v:List (List Int)) (w4k:List ByteArray) (w4v:List Bool)=>(w3v:List (List Int))) x.1 x.2.1 x.2.2.1 x.2.2.2.1 x.2.2.2.2.1 x.2.2.2.2.2.1 x.2.2.2.2.2.2.1 x.2.2.2.2.2.2.2.1 x.2.2.2.2.2.2.2.2.1 x.2.2.2.2.2.2.2.2.2.1,(fun(c0_0:Bool) (c0_1:Int) (c0_2:Int) (w1:List TQuestion) (w2k:List ByteArray) (w2v:List Int) (w3k:List ByteArray) (w3v:List (List Int)) (w4k:List ByteArray) (w4v:List Bool)=>(w4k:List ByteArray)) x.1 x.2.1 x.2.2.1 x.2.2.2.1 x.2.2.2.2.1 x.2.2.2.2.2.1 x.2.2.2.2.2.2.1 x.2.2.2.2.2.2.2.1 x.2.2.2.2.2.2.2.2.1 x.2.2.2.2.2.2.2.2.2.1,(fun(c0_0:Bool) (c0_1:Int) (c0_2:Int) (w1:List TQuestion) (w2k:List ByteArray) (w2v:List Int) (w3k:List ByteArray) (w3v:List (List Int)) (w4k:List ByteArray) (w4v:List Bool)=>(w4v:List Bool)) x.1 x.2.1 x.2.2.1 x.2.2.2.1 x.2.2.2.2.1 x.2.2.2.2.2.1 x.2.2.2.2.2.2.1 x.2.2.2.2.2.2.2.1 x.2.2.2.2.2.2.2.2.1 x.2.2.2.2.2.2.2.2.2.1,())
theorem kuy:kgy.Ok Try.prog TB:=Con.ok_fn kr bd22 fun x h=>ku5 (krp x.1 x.2.1 x.2.2.1 x.2.2.2.1 x.2.2.2.2.1 x.2.2.2.2.2.1 x.2.2.2.2.2.2.1 x.2.2.2.2.2.2.2.1 x.2.2.2.2.2.2.2.2.1 x.2.2.2.2.2.2.2.2.2.1 h)
theorem bd81:Callable Try.prog 81:=⟨by rw[Try.func81];kernel_rfl,by rw[Try.func81];show some _≠some _;decide⟩
def k27:Con TB.den:=Con.mk0 81 [.one (.ptr 0 0)] [.cells [.d (.bool),.d (.int .u64),.d (.int .i64),.own 1,.mp 2,.mp 3,.mp 4],.tip (.st 3),.map (.str) (.int .i64),.map (.str) (.sl (.int .u64)),.map (.str) (.bool)] (.one (.one (.d (.int .u64)))) [.cells [.d (.bool),.d (.int .u64),.d (.int .i64),.own 1,.mp 2,.mp 3,.mp 4],.tip (.st 3),.map (.str) (.int .i64),.map (.str) (.sl (.int .u64)),.map (.str) (.bool)]
abbrev ksa:=HL TB.den (hsT k27.ins (hsOs k27.pre))
abbrev kdh:=HL TB.den (hsV k27.res (hsOs k27.post))
noncomputable def k8u:Cx TB:=⟨inf,[],[],4,[]⟩
noncomputable def keg:Code:=Try.f81.body.getD .skip
noncomputable def ki1:List ResultVar:=Try.f81.results.toList
noncomputable def kqn (o:kdh):An TB:= .no
def ker (x:ksa) (o:kdh):Prop:=WPh TB k8u 42 5 keg (kqn o) (k27.st TB x) (retTQ TB k8u k27 ki1 o)
theorem k149 (o:kdh):OblH TB k8u 42 5 keg (kqn o) (retTQ TB k8u k27 ki1 o):=
 OblH.ofC (X:=True) (by kernel_rfl) trivial
theorem k13p {x:ksa} {o:kdh} (h:ker x o):k27.Snd Try.prog x o:=
 Con.soundH (c:=k27) (C:=k8u) TBok ⟨inf_ok,all_nil,all_nil⟩ mix Try.func81 (show Try.f81.body=some keg by kernel_rfl) (show Try.f81.ntmps=42 by kernel_rfl) (show Try.f81.results.toList=ki1 by kernel_rfl) rfl h (k149 o)
theorem k179 {c0_0:Bool} {c0_1:Int} {c0_2:Int} {w1:List TQuestion} {w2k:List ByteArray} {w2v:List Int} {w3k:List ByteArray} {w3v:List (List Int)} {w4k:List ByteArray} {w4v:List Bool} {r0:Int} {d0_0:Bool} {d0_1:Int} {d0_2:Int} {e1:List TQuestion} {e2k:List ByteArray} {e2v:List Int} {e3k:List ByteArray} {e3v:List (List Int)} {e4k:List ByteArray} {e4v:List Bool} (h:
(((!c0_0)=true→
(w1=w1)∧0=r0∧c0_0=d0_0∧c0_1=d0_1∧c0_2=d0_2∧w1=e1∧w2k=e2k∧w2v=e2v∧w3k=e3k∧w3v=e3v∧w4k=e4k∧w4v=e4v)∧
((!c0_0)=false→
 let v1:Int:=IntKind.u64.wrap (c0_1+11400714819323198485)
 let v2:Int:=IntKind.u64.wrap ((ixor .u64 v1 (ishr .u64 v1 30))*13787848793156543929)
 let v3:Int:=IntKind.u64.wrap ((ixor .u64 v2 (ishr .u64 v2 27))*10723151780598845931)
 let v4:Int:=Int.tmod (ixor .u64 v3 (ishr .u64 v3 31)) 18446744069414584321
(w1=w1)∧v4=r0∧c0_0=d0_0∧v1=d0_1∧IntKind.i64.wrap (c0_2+1)=d0_2∧w1=e1∧w2k=e2k∧w2v=e2v∧w3k=e3k∧w3v=e3v∧w4k=e4k∧w4v=e4v))):ker (c0_0,c0_1,c0_2,w1,w2k,w2v,w3k,w3v,w4k,w4v,()) (r0,d0_0,d0_1,d0_2,e1,e2k,e2v,e3k,e3v,e4k,e4v,()):=WPh.of_eq (by kernel_rfl) h
theorem k120 (c0_0:Bool) (c0_1:Int) (c0_2:Int) (w1:List TQuestion) (w2k:List ByteArray) (w2v:List Int) (w3k:List ByteArray) (w3v:List (List Int)) (w4k:List ByteArray) (w4v:List Bool):ker (c0_0,c0_1,c0_2,w1,w2k,w2v,w3k,w3v,w4k,w4v,()) ((((drO (OS.mk c0_0 c0_1 c0_2 w1 w2k w2v w3k w3v w4k w4v)).n):Int),(((drO (OS.mk c0_0 c0_1 c0_2 w1 w2k w2v w3k w3v w4k w4v)).o.a):Bool),(((drO (OS.mk c0_0 c0_1 c0_2 w1 w2k w2v w3k w3v w4k w4v)).o.b):Int),(((drO (OS.mk c0_0 c0_1 c0_2 w1 w2k w2v w3k w3v w4k w4v)).o.c):Int),(((drO (OS.mk c0_0 c0_1 c0_2 w1 w2k w2v w3k w3v w4k w4v)).o.q):List TQuestion),(((drO (OS.mk c0_0 c0_1 c0_2 w1 w2k w2v w3k w3v w4k w4v)).o.k):List ByteArray),(((drO (OS.mk c0_0 c0_1 c0_2 w1 w2k w2v w3k w3v w4k w4v)).o.v):List Int),(((drO (OS.mk c0_0 c0_1 c0_2 w1 w2k w2v w3k w3v w4k w4v)).o.s):List ByteArray),(((drO (OS.mk c0_0 c0_1 c0_2 w1 w2k w2v w3k w3v w4k w4v)).o.t):List (List Int)),(((drO (OS.mk c0_0 c0_1 c0_2 w1 w2k w2v w3k w3v w4k w4v)).o.x):List ByteArray),(((drO (OS.mk c0_0 c0_1 c0_2 w1 w2k w2v w3k w3v w4k w4v)).o.y):List Bool),()):=by
 refine k179 ⟨fun e=> ?_,fun e=> ?_⟩
 ·have e:c0_0=false:=by simpa using e
  subst e
  exact⟨rfl,rfl,rfl,rfl,rfl,rfl,rfl,rfl,rfl,rfl,rfl,rfl⟩
 ·have e:c0_0=true:=by simpa using e
  subst e
  exact⟨rfl,rfl,rfl,rfl,rfl,rfl,rfl,rfl,rfl,rfl,rfl,rfl⟩
noncomputable def ko8:Con TB.den:=k27.totR fun x=>((fun(c0_0:Bool) (c0_1:Int) (c0_2:Int) (w1:List TQuestion) (w2k:List ByteArray) (w2v:List Int) (w3k:List ByteArray) (w3v:List (List Int)) (w4k:List ByteArray) (w4v:List Bool)=>(((drO (OS.mk c0_0 c0_1 c0_2 w1 w2k w2v w3k w3v w4k w4v)).n):Int)) x.1 x.2.1 x.2.2.1 x.2.2.2.1 x.2.2.2.2.1 x.2.2.2.2.2.1 x.2.2.2.2.2.2.1 x.2.2.2.2.2.2.2.1 x.2.2.2.2.2.2.2.2.1 x.2.2.2.2.2.2.2.2.2.1,(fun(c0_0:Bool) (c0_1:Int) (c0_2:Int) (w1:List TQuestion) (w2k:List ByteArray) (w2v:List Int) (w3k:List ByteArray) (w3v:List (List Int)) (w4k:List ByteArray) (w4v:List Bool)=>(((drO (OS.mk c0_0 c0_1 c0_2 w1 w2k w2v w3k w3v w4k w4v)).o.a):Bool)) x.1 x.2.1 x.2.2.1 x.2.2.2.1 x.2.2.2.2.1 x.2.2.2.2.2.1 x.2.2.2.2.2.2.1 x.2.2.2.2.2.2.2.1 x.2.2.2.2.2.2.2.2.1 x.2.2.2.2.2.2.2.2.2.1,(fun(c0_0:Bool) (c0_1:Int) (c0_2:Int) (w1:List TQuestion) (w2k:List ByteArray) (w2v:List Int) (w3k:List ByteArray) (w3v:List (List Int)) (w4k:List ByteArray) (w4v:List Bool)=>(((drO (OS.mk c0_0 c0_1 c0_2 w1 w2k w2v w3k w3v w4k w4v)).o.b):Int)) x.1 x.2.1 x.2.2.1 x.2.2.2.1 x.2.2.2.2.1 x.2.2.2.2.2.1 x.2.2.2.2.2.2.1 x.2.2.2.2.2.2.2.1 x.2.2.2.2.2.2.2.2.1 x.2.2.2.2.2.2.2.2.2.1,(fun(c0_0:Bool) (c0_1:Int) (c0_2:Int) (w1:List TQuestion) (w2k:List ByteArray) (w2v:List Int) (w3k:List ByteArray) (w3v:List (List Int)) (w4k:List ByteArray) (w4v:List Bool)=>(((drO (OS.mk c0_0 c0_1 c0_2 w1 w2k w2v w3k w3v w4k w4v)).o.c):Int)) x.1 x.2.1 x.2.2.1 x.2.2.2.1 x.2.2.2.2.1 x.2.2.2.2.2.1 x.2.2.2.2.2.2.1 x.2.2.2.2.2.2.2.1 x.2.2.2.2.2.2.2.2.1 x.2.2.2.2.2.2.2.2.2.1,(fun(c0_0:Bool) (c0_1:Int) (c0_2:Int) (w1:List TQuestion) (w2k:List ByteArray) (w2v:List Int) (w3k:List ByteArray) (w3v:List (List Int)) (w4k:List ByteArray) (w4v:List Bool)=>(((drO (OS.mk c0_0 c0_1 c0_2 w1 w2k w2v w3k w3v w4k w4v)).o.q):List TQuestion)) x.1 x.2.1 x.2.2.1 x.2.2.2.1 x.2.2.2.2.1 x.2.2.2.2.2.1 x.2.2.2.2.2.2.1 x.2.2.2.2.2.2.2.1 x.2.2.2.2.2.2.2.2.1 x.2.2.2.2.2.2.2.2.2.1,(fun(c0_0:Bool) (c0_1:Int) (c0_2:Int) (w1:List TQuestion) (w2k:List ByteArray) (w2v:List Int) (w3k:List ByteArray) (w3v:List (List Int)) (w4k:List ByteArray) (w4v:List Bool)=>(((drO (OS.mk c0_0 c0_1 c0_2 w1 w2k w2v w3k w3v w4k w4v)).o.k):List ByteArray)) x.1 x.2.1 x.2.2.1 x.2.2.2.1 x.2.2.2.2.1 x.2.2.2.2.2.1 x.2.2.2.2.2.2.1 x.2.2.2.2.2.2.2.1 x.2.2.2.2.2.2.2.2.1 x.2.2.2.2.2.2.2.2.2.1,(fun(c0_0:Bool) (c0_1:Int) (c0_2:Int) (w1:List TQuestion) (w2k:List ByteArray) (w2v:List Int) (w3k:List ByteArray) (w3v:List (List Int)) (w4k:List ByteArray) (w4v:List Bool)=>(((drO (OS.mk c0_0 c0_1 c0_2 w1 w2k w2v w3k w3v w4k w4v)).o.v):List Int)) x.1 x.2.1 x.2.2.1 x.2.2.2.1 x.2.2.2.2.1 x.2.2.2.2.2.1 x.2.2.2.2.2.2.1 x.2.2.2.2.2.2.2.1 x.2.2.2.2.2.2.2.2.1 x.2.2.2.2.2.2.2.2.2.1,(fun(c0_0:Bool) (c0_1:Int) (c0_2:Int) (w1:List TQuestion) (w2k:List ByteArray) (w2v:List Int) (w3k:List ByteArray) (w3v:List (List Int)) (w4k:List ByteArray) (w4v:List Bool)=>(((drO (OS.mk c0_0 c0_1 c0_2 w1 w2k w2v w3k w3v w4k w4v)).o.s):List ByteArray)) x.1 x.2.1 x.2.2.1 x.2.2.2.1 x.2.2.2.2.1 x.2.2.2.2.2.1 x.2.2.2.2.2.2.1 x.2.2.2.2.2.2.2.1 x.2.2.2.2.2.2.2.2.1 x.2.2.2.2.2.2.2.2.2.1,(fun(c0_0:Bool) (c0_1:Int) (c0_2:Int) (w1:List TQuestion) (w2k:List ByteArray) (w2v:List Int) (w3k:List ByteArray) (w3v:List (List Int)) (w4k:List ByteArray) (w4v:List Bool)=>(((drO (OS.mk c0_0 c0_1 c0_2 w1 w2k w2v w3k w3v w4k w4v)).o.t):List (List Int))) x.1 x.2.1 x.2.2.1 x.2.2.2.1 x.2.2.2.2.1 x.2.2.2.2.2.1 x.2.2.2.2.2.2.1 x.2.2.2.2.2.2.2.1 x.2.2.2.2.2.2.2.2.1 x.2.2.2.2.2.2.2.2.2.1,(fun(c0_0:Bool) (c0_1:Int) (c0_2:Int) (w1:List TQuestion) (w2k:List ByteArray) (w2v:List Int) (w3k:List ByteArray) (w3v:List (List Int)) (w4k:List ByteArray) (w4v:List Bool)=>(((drO (OS.mk c0_0 c0_1 c0_2 w1 w2k w2v w3k w3v w4k w4v)).o.x):List ByteArray)) x.1 x.2.1 x.2.2.1 x.2.2.2.1 x.2.2.2.2.1 x.2.2.2.2.2.1 x.2.2.2.2.2.2.1 x.2.2.2.2.2.2.2.1 x.2.2.2.2.2.2.2.2.1 x.2.2.2.2.2.2.2.2.2.1,(fun(c0_0:Bool) (c0_1:Int) (c0_2:Int) (w1:List TQuestion) (w2k:List ByteArray) (w2v:List Int) (w3k:List ByteArray) (w3v:List (List Int)) (w4k:List ByteArray) (w4v:List Bool)=>(((drO (OS.mk c0_0 c0_1 c0_2 w1 w2k w2v w3k w3v w4k w4v)).o.y):List Bool)) x.1 x.2.1 x.2.2.1 x.2.2.2.1 x.2.2.2.2.1 x.2.2.2.2.2.1 x.2.2.2.2.2.2.1 x.2.2.2.2.2.2.2.1 x.2.2.2.2.2.2.2.2.1 x.2.2.2.2.2.2.2.2.2.1,())
theorem k175:ko8.Ok Try.prog TB:=Con.ok_tot k27 bd81 fun x=>k13p (k120 x.1 x.2.1 x.2.2.1 x.2.2.2.1 x.2.2.2.2.1 x.2.2.2.2.2.1 x.2.2.2.2.2.2.1 x.2.2.2.2.2.2.2.1 x.2.2.2.2.2.2.2.2.1 x.2.2.2.2.2.2.2.2.2.1)
def k1o:Con TB.den:=Con.mk0 83 [.one (.ptr 0 0),.one (.d (.str)),.one (.d (.int .u64)),.one (.d (.sl (.int .u64))),.one (.d (.int .u64))] [.cells [.d (.bool),.d (.int .u64),.d (.int .i64),.own 1,.mp 2,.mp 3,.mp 4],.tip (.st 3),.map (.str) (.int .i64),.map (.str) (.sl (.int .u64)),.map (.str) (.bool)] (.tup []) [.cells [.d (.bool),.d (.int .u64),.d (.int .i64),.own 1,.mp 2,.mp 3,.mp 4],.tip (.st 3),.map (.str) (.int .i64),.map (.str) (.sl (.int .u64)),.map (.str) (.bool)]
abbrev koe:=HL TB.den (hsT k1o.ins (hsOs k1o.pre))
abbrev kal:=HL TB.den (hsV k1o.res (hsOs k1o.post))
noncomputable def k7d:Cx TB:=⟨inf,[kg2],[],4,[]⟩
noncomputable def kc2:Code:=Try.f83.body.getD .skip
noncomputable def kdv:List ResultVar:=Try.f83.results.toList
noncomputable def kn7 (o:kal):An TB:= .no
def kc6 (x:koe) (o:kal):Prop:=WPh TB k7d 43 5 kc2 (kn7 o) (k1o.st TB x) (retTQ TB k7d k1o kdv o)
theorem kzl (o:kal):OblH TB k7d 43 5 kc2 (kn7 o) (retTQ TB k7d k1o kdv o):=
 OblH.ofC (X:=True) (by kernel_rfl) trivial
theorem kzi {x:koe} {o:kal} (h:kc6 x o):k1o.Snd Try.prog x o:=
 Con.soundH (c:=k1o) (C:=k7d) TBok ⟨inf_ok,(all_cons kpv all_nil),all_nil⟩ mix Try.func83 (show Try.f83.body=some kc2 by kernel_rfl) (show Try.f83.ntmps=43 by kernel_rfl) (show Try.f83.results.toList=kdv by kernel_rfl) rfl h (kzl o)
theorem k10c {p1:ByteArray} {p2:Int} {p3:List Int} {p4:Int} {c0_0:Bool} {c0_1:Int} {c0_2:Int} {w1:List TQuestion} {w2k:List ByteArray} {w2v:List Int} {w3k:List ByteArray} {w3v:List (List Int)} {w4k:List ByteArray} {w4v:List Bool} {d0_0:Bool} {d0_1:Int} {d0_2:Int} {e1:List TQuestion} {e2k:List ByteArray} {e2v:List Int} {e3k:List ByteArray} {e3v:List (List Int)} {e4k:List ByteArray} {e4v:List Bool} (h:
(w2k.length=w2v.length∧let v1:List ByteArray:=mPutK (BEq.beq p1) w2k p1
 let v2:List Int:=mPutV (BEq.beq p1) w2k w2v (w1.length:Int)
(p3.length≤1000000000)∧w1.length=w1.length∧(w1.length+[TQuestion.mk p2 p3 p4].length)*40≤140737488355328∧w1.length+[TQuestion.mk p2 p3 p4].length≤maxLen∧(w1++[TQuestion.mk p2 p3 p4]=w1++[TQuestion.mk p2 p3 p4])∧c0_0=d0_0∧c0_1=d0_1∧c0_2=d0_2∧w1++[TQuestion.mk p2 p3 p4]=e1∧v1=e2k∧v2=e2v∧w3k=e3k∧w3v=e3v∧w4k=e4k∧w4v=e4v)):kc6 (p1,p2,p3,p4,c0_0,c0_1,c0_2,w1,w2k,w2v,w3k,w3v,w4k,w4v,()) (d0_0,d0_1,d0_2,e1,e2k,e2v,e3k,e3v,e4k,e4v,()):=WPh.of_eq (by kernel_rfl) h
theorem bd83:Callable Try.prog 83:=⟨by rw[Try.func83];kernel_rfl,by rw[Try.func83];show some _≠some _;decide⟩
theorem kxb (p1:ByteArray) (p2:Int) (p3:List Int) (p4:Int) (c0_0:Bool) (c0_1:Int) (c0_2:Int) (w1:List TQuestion) (w2k:List ByteArray) (w2v:List Int) (w3k:List ByteArray) (w3v:List (List Int)) (w4k:List ByteArray) (w4v:List Bool) (h:w2k.length=w2v.length∧w1.length≤1000000∧p3.length≤1000000000):kc6 (p1,p2,p3,p4,c0_0,c0_1,c0_2,w1,w2k,w2v,w3k,w3v,w4k,w4v,()) ((((recO (OS.mk c0_0 c0_1 c0_2 w1 w2k w2v w3k w3v w4k w4v) p1 p2 p3 p4).a):Bool),(((recO (OS.mk c0_0 c0_1 c0_2 w1 w2k w2v w3k w3v w4k w4v) p1 p2 p3 p4).b):Int),(((recO (OS.mk c0_0 c0_1 c0_2 w1 w2k w2v w3k w3v w4k w4v) p1 p2 p3 p4).c):Int),(((recO (OS.mk c0_0 c0_1 c0_2 w1 w2k w2v w3k w3v w4k w4v) p1 p2 p3 p4).q):List TQuestion),(((recO (OS.mk c0_0 c0_1 c0_2 w1 w2k w2v w3k w3v w4k w4v) p1 p2 p3 p4).k):List ByteArray),(((recO (OS.mk c0_0 c0_1 c0_2 w1 w2k w2v w3k w3v w4k w4v) p1 p2 p3 p4).v):List Int),(((recO (OS.mk c0_0 c0_1 c0_2 w1 w2k w2v w3k w3v w4k w4v) p1 p2 p3 p4).s):List ByteArray),(((recO (OS.mk c0_0 c0_1 c0_2 w1 w2k w2v w3k w3v w4k w4v) p1 p2 p3 p4).t):List (List Int)),(((recO (OS.mk c0_0 c0_1 c0_2 w1 w2k w2v w3k w3v w4k w4v) p1 p2 p3 p4).x):List ByteArray),(((recO (OS.mk c0_0 c0_1 c0_2 w1 w2k w2v w3k w3v w4k w4v) p1 p2 p3 p4).y):List Bool),()):=by
 obtain⟨h1,h2,h3⟩:=h
 exact k10c ⟨h1,h3,rfl,by simp;omega,by simp;unfold maxLen;omega,rfl,rfl,rfl,rfl,rfl,rfl,rfl,rfl,rfl,rfl,rfl⟩
noncomputable def kkg:Con TB.den:=k1o.fnR (fun x=>(fun(p1:ByteArray) (p2:Int) (p3:List Int) (p4:Int) (c0_0:Bool) (c0_1:Int) (c0_2:Int) (w1:List TQuestion) (w2k:List ByteArray) (w2v:List Int) (w3k:List ByteArray) (w3v:List (List Int)) (w4k:List ByteArray) (w4v:List Bool)=>w2k.length=w2v.length∧w1.length≤1000000∧p3.length≤1000000000) x.1 x.2.1 x.2.2.1 x.2.2.2.1 x.2.2.2.2.1 x.2.2.2.2.2.1 x.2.2.2.2.2.2.1 x.2.2.2.2.2.2.2.1 x.2.2.2.2.2.2.2.2.1 x.2.2.2.2.2.2.2.2.2.1 x.2.2.2.2.2.2.2.2.2.2.1 x.2.2.2.2.2.2.2.2.2.2.2.1 x.2.2.2.2.2.2.2.2.2.2.2.2.1 x.2.2.2.2.2.2.2.2.2.2.2.2.2.1) fun x=>((fun(p1:ByteArray) (p2:Int) (p3:List Int) (p4:Int) (c0_0:Bool) (c0_1:Int) (c0_2:Int) (w1:List TQuestion) (w2k:List ByteArray) (w2v:List Int) (w3k:List ByteArray) (w3v:List (List Int)) (w4k:List ByteArray) (w4v:List Bool)=>(((recO (OS.mk c0_0 c0_1 c0_2 w1 w2k w2v w3k w3v w4k w4v) p1 p2 p3 p4).a):Bool)) x.1 x.2.1 x.2.2.1 x.2.2.2.1 x.2.2.2.2.1 x.2.2.2.2.2.1 x.2.2.2.2.2.2.1 x.2.2.2.2.2.2.2.1 x.2.2.2.2.2.2.2.2.1 x.2.2.2.2.2.2.2.2.2.1 x.2.2.2.2.2.2.2.2.2.2.1 x.2.2.2.2.2.2.2.2.2.2.2.1 x.2.2.2.2.2.2.2.2.2.2.2.2.1 x.2.2.2.2.2.2.2.2.2.2.2.2.2.1,(fun(p1:ByteArray) (p2:Int) (p3:List Int) (p4:Int) (c0_0:Bool) (c0_1:Int) (c0_2:Int) (w1:List TQuestion) (w2k:List ByteArray) (w2v:List Int) (w3k:List ByteArray) (w3v:List (List Int)) (w4k:List ByteArray) (w4v:List Bool)=>(((recO (OS.mk c0_0 c0_1 c0_2 w1 w2k w2v w3k w3v w4k w4v) p1 p2 p3 p4).b):Int)) x.1 x.2.1 x.2.2.1 x.2.2.2.1 x.2.2.2.2.1 x.2.2.2.2.2.1 x.2.2.2.2.2.2.1 x.2.2.2.2.2.2.2.1 x.2.2.2.2.2.2.2.2.1 x.2.2.2.2.2.2.2.2.2.1 x.2.2.2.2.2.2.2.2.2.2.1 x.2.2.2.2.2.2.2.2.2.2.2.1 x.2.2.2.2.2.2.2.2.2.2.2.2.1 x.2.2.2.2.2.2.2.2.2.2.2.2.2.1,(fun(p1:ByteArray) (p2:Int) (p3:List Int) (p4:Int) (c0_0:Bool) (c0_1:Int) (c0_2:Int) (w1:List TQuestion) (w2k:List ByteArray) (w2v:List Int) (w3k:List ByteArray) (w3v:List (List Int)) (w4k:List ByteArray) (w4v:List Bool)=>(((recO (OS.mk c0_0 c0_1 c0_2 w1 w2k w2v w3k w3v w4k w4v) p1 p2 p3 p4).c):Int)) x.1 x.2.1 x.2.2.1 x.2.2.2.1 x.2.2.2.2.1 x.2.2.2.2.2.1 x.2.2.2.2.2.2.1 x.2.2.2.2.2.2.2.1 x.2.2.2.2.2.2.2.2.1 x.2.2.2.2.2.2.2.2.2.1 x.2.2.2.2.2.2.2.2.2.2.1 x.2.2.2.2.2.2.2.2.2.2.2.1 x.2.2.2.2.2.2.2.2.2.2.2.2.1 x.2.2.2.2.2.2.2.2.2.2.2.2.2.1,(fun(p1:ByteArray) (p2:Int) (p3:List Int) (p4:Int) (c0_0:Bool) (c0_1:Int) (c0_2:Int) (w1:List TQuestion) (w2k:List ByteArray) (w2v:List Int) (w3k:List ByteArray) (w3v:List (List Int)) (w4k:List ByteArray) (w4v:List Bool)=>(((recO (OS.mk c0_0 c0_1 c0_2 w1 w2k w2v w3k w3v w4k w4v) p1 p2 p3 p4).q):List TQuestion)) x.1 x.2.1 x.2.2.1 x.2.2.2.1 x.2.2.2.2.1 x.2.2.2.2.2.1 x.2.2.2.2.2.2.1 x.2.2.2.2.2.2.2.1 x.2.2.2.2.2.2.2.2.1 x.2.2.2.2.2.2.2.2.2.1 x.2.2.2.2.2.2.2.2.2.2.1 x.2.2.2.2.2.2.2.2.2.2.2.1 x.2.2.2.2.2.2.2.2.2.2.2.2.1 x.2.2.2.2.2.2.2.2.2.2.2.2.2.1,(fun(p1:ByteArray) (p2:Int) (p3:List Int) (p4:Int) (c0_0:Bool) (c0_1:Int) (c0_2:Int) (w1:List TQuestion) (w2k:List ByteArray) (w2v:List Int) (w3k:List ByteArray) (w3v:List (List Int)) (w4k:List ByteArray) (w4v:List Bool)=>(((recO (OS.mk c0_0 c0_1 c0_2 w1 w2k w2v w3k w3v w4k w4v) p1 p2 p3 p4).k):List ByteArray)) x.1 x.2.1 x.2.2.1 x.2.2.2.1 x.2.2.2.2.1 x.2.2.2.2.2.1 x.2.2.2.2.2.2.1 x.2.2.2.2.2.2.2.1 x.2.2.2.2.2.2.2.2.1 x.2.2.2.2.2.2.2.2.2.1 x.2.2.2.2.2.2.2.2.2.2.1 x.2.2.2.2.2.2.2.2.2.2.2.1 x.2.2.2.2.2.2.2.2.2.2.2.2.1 x.2.2.2.2.2.2.2.2.2.2.2.2.2.1,(fun(p1:ByteArray) (p2:Int) (p3:List Int) (p4:Int) (c0_0:Bool) (c0_1:Int) (c0_2:Int) (w1:List TQuestion) (w2k:List ByteArray) (w2v:List Int) (w3k:List ByteArray) (w3v:List (List Int)) (w4k:List ByteArray) (w4v:List Bool)=>(((recO (OS.mk c0_0 c0_1 c0_2 w1 w2k w2v w3k w3v w4k w4v) p1 p2 p3 p4).v):List Int)) x.1 x.2.1 x.2.2.1 x.2.2.2.1 x.2.2.2.2.1 x.2.2.2.2.2.1 x.2.2.2.2.2.2.1 x.2.2.2.2.2.2.2.1 x.2.2.2.2.2.2.2.2.1 x.2.2.2.2.2.2.2.2.2.1 x.2.2.2.2.2.2.2.2.2.2.1 x.2.2.2.2.2.2.2.2.2.2.2.1 x.2.2.2.2.2.2.2.2.2.2.2.2.1 x.2.2.2.2.2.2.2.2.2.2.2.2.2.1,(fun(p1:ByteArray) (p2:Int) (p3:List Int) (p4:Int) (c0_0:Bool) (c0_1:Int) (c0_2:Int) (w1:List TQuestion) (w2k:List ByteArray) (w2v:List Int) (w3k:List ByteArray) (w3v:List (List Int)) (w4k:List ByteArray) (w4v:List Bool)=>(((recO (OS.mk c0_0 c0_1 c0_2 w1 w2k w2v w3k w3v w4k w4v) p1 p2 p3 p4).s):List ByteArray)) x.1 x.2.1 x.2.2.1 x.2.2.2.1 x.2.2.2.2.1 x.2.2.2.2.2.1 x.2.2.2.2.2.2.1 x.2.2.2.2.2.2.2.1 x.2.2.2.2.2.2.2.2.1 x.2.2.2.2.2.2.2.2.2.1 x.2.2.2.2.2.2.2.2.2.2.1 x.2.2.2.2.2.2.2.2.2.2.2.1 x.2.2.2.2.2.2.2.2.2.2.2.2.1 x.2.2.2.2.2.2.2.2.2.2.2.2.2.1,(fun(p1:ByteArray) (p2:Int) (p3:List Int) (p4:Int) (c0_0:Bool) (c0_1:Int) (c0_2:Int) (w1:List TQuestion) (w2k:List ByteArray) (w2v:List Int) (w3k:List ByteArray) (w3v:List (List Int)) (w4k:List ByteArray) (w4v:List Bool)=>(((recO (OS.mk c0_0 c0_1 c0_2 w1 w2k w2v w3k w3v w4k w4v) p1 p2 p3 p4).t):List (List Int))) x.1 x.2.1 x.2.2.1 x.2.2.2.1 x.2.2.2.2.1 x.2.2.2.2.2.1 x.2.2.2.2.2.2.1 x.2.2.2.2.2.2.2.1 x.2.2.2.2.2.2.2.2.1 x.2.2.2.2.2.2.2.2.2.1 x.2.2.2.2.2.2.2.2.2.2.1 x.2.2.2.2.2.2.2.2.2.2.2.1 x.2.2.2.2.2.2.2.2.2.2.2.2.1 x.2.2.2.2.2.2.2.2.2.2.2.2.2.1,(fun(p1:ByteArray) (p2:Int) (p3:List Int) (p4:Int) (c0_0:Bool) (c0_1:Int) (c0_2:Int) (w1:List TQuestion) (w2k:List ByteArray) (w2v:List Int) (w3k:List ByteArray) (w3v:List (List Int)) (w4k:List ByteArray) (w4v:List Bool)=>(((recO (OS.mk c0_0 c0_1 c0_2 w1 w2k w2v w3k w3v w4k w4v) p1 p2 p3 p4).x):List ByteArray)) x.1 x.2.1 x.2.2.1 x.2.2.2.1 x.2.2.2.2.1 x.2.2.2.2.2.1 x.2.2.2.2.2.2.1 x.2.2.2.2.2.2.2.1 x.2.2.2.2.2.2.2.2.1 x.2.2.2.2.2.2.2.2.2.1 x.2.2.2.2.2.2.2.2.2.2.1 x.2.2.2.2.2.2.2.2.2.2.2.1 x.2.2.2.2.2.2.2.2.2.2.2.2.1 x.2.2.2.2.2.2.2.2.2.2.2.2.2.1,(fun(p1:ByteArray) (p2:Int) (p3:List Int) (p4:Int) (c0_0:Bool) (c0_1:Int) (c0_2:Int) (w1:List TQuestion) (w2k:List ByteArray) (w2v:List Int) (w3k:List ByteArray) (w3v:List (List Int)) (w4k:List ByteArray) (w4v:List Bool)=>(((recO (OS.mk c0_0 c0_1 c0_2 w1 w2k w2v w3k w3v w4k w4v) p1 p2 p3 p4).y):List Bool)) x.1 x.2.1 x.2.2.1 x.2.2.2.1 x.2.2.2.2.1 x.2.2.2.2.2.1 x.2.2.2.2.2.2.1 x.2.2.2.2.2.2.2.1 x.2.2.2.2.2.2.2.2.1 x.2.2.2.2.2.2.2.2.2.1 x.2.2.2.2.2.2.2.2.2.2.1 x.2.2.2.2.2.2.2.2.2.2.2.1 x.2.2.2.2.2.2.2.2.2.2.2.2.1 x.2.2.2.2.2.2.2.2.2.2.2.2.2.1,())
theorem k121:kkg.Ok Try.prog TB:=Con.ok_fn k1o bd83 fun x h=>kzi (kxb x.1 x.2.1 x.2.2.1 x.2.2.2.1 x.2.2.2.2.1 x.2.2.2.2.2.1 x.2.2.2.2.2.2.1 x.2.2.2.2.2.2.2.1 x.2.2.2.2.2.2.2.2.1 x.2.2.2.2.2.2.2.2.2.1 x.2.2.2.2.2.2.2.2.2.2.1 x.2.2.2.2.2.2.2.2.2.2.2.1 x.2.2.2.2.2.2.2.2.2.2.2.2.1 x.2.2.2.2.2.2.2.2.2.2.2.2.2.1 h)
def k1g:Con TB.den:=Con.mk0 79 [.one (.d (.sl (.int .u64)))] [] (.one (.one (.d (.bool)))) []
abbrev koy:=HL TB.den (hsT k1g.ins (hsOs k1g.pre))
abbrev k43:=HL TB.den (hsV k1g.res (hsOs k1g.post))
noncomputable def k3e:Cx TB:=⟨inf,[],[],4,[]⟩
noncomputable def k6i:Code:=Try.f79.body.getD .skip
noncomputable def ka3:List ResultVar:=Try.f79.results.toList
def k10o (o:k43):=qS TB k3e 14 0 (cB (cB k6i)) .no (retTQ TB k3e k1g ka3 o)
def k4f:Tm:=⟨[],[],[5,6,7],[.one (.d (.sl (.int .u64))),.one (.d (.int .i64)),.one (.d (.int .i64))],0⟩
def k11l (o:k43) (nx1:NX TB k4f):=qM TB 0 k4f nx1 (blockT TB 0 (k10o o))
def k7b (o:k43) (nx1:NX TB k4f) (i:HL TB.den k4f.hs):Prop:=WP TB k3e 14 0 (cA (cA (cB (cA (cB k6i))))) .no (k4f.fill TB i) (k11l o nx1)
noncomputable def k12v (o:k43):An TB:= .lp [] k4f (k7b o) fun nx1=> .no
noncomputable def kna (o:k43):An TB:= .nd [] .no [] (.nd [] (.nd [] .no [] (k12v o)) [] .no)
def kbu (x:koy) (o:k43):Prop:=WPh TB k3e 14 0 k6i (kna o) (k1g.st TB x) (retTQ TB k3e k1g ka3 o)
theorem kzz (o:k43):OblH TB k3e 14 0 k6i (kna o) (retTQ TB k3e k1g ka3 o):=
 OblH.ofC (X:=((∀nx i,(k7b o) nx i=(k7b o) nx i)∧(∀nx1:NX TB k4f,True)∧True)) (by kernel_rfl) ⟨fun _ _=>rfl,fun _=>trivial,trivial⟩
theorem kzq {x:koy} {o:k43} (h:kbu x o):k1g.Snd Try.prog x o:=
 Con.soundH (c:=k1g) (C:=k3e) TBok ⟨inf_ok,all_nil,all_nil⟩ mix Try.func79 (show Try.f79.body=some k6i by kernel_rfl) (show Try.f79.ntmps=14 by kernel_rfl) (show Try.f79.results.toList=ka3 by kernel_rfl) rfl h (kzz o)
theorem k12w {p0:List Int} {r0:Bool} (h:
(Md.Loop (p0,((p0.length:Int):Int),(0:Int),()) (k7b (r0,())))):kbu (p0,()) (r0,()):=WPh.of_eq (by kernel_rfl) h
def kn8 (r0:Bool) (k1:Int→Prop) (s5:List Int) (s6:Int) (s7:Int):Prop:=
(decide (s7<s6)=true→
(0≤s7)∧s7<(s5.length:Int)∧let v1:Bool:=decide (18446744069414584321≤(ix s5 s7))
(v1=true→
 false=r0)∧
(v1=false→
 k1 (IntKind.i64.wrap (s7+1):Int)))∧
(decide (s7<s6)=false→
 true=r0)
theorem kzs {r0:Bool} {s5:List Int} {s6:Int} {s7:Int} (inv:Int→Prop) (μ:Int→Nat) (h0:inv s7) (hs:∀(s7:Int),inv s7→kn8 r0 (fun s7q=>inv s7q∧μ s7q<μ s7) s5 s6 s7):Md.Loop (s5,s6,s7,()) (k7b (r0,())):=
 ⟨⟨fun s:(List Int)×Int×Int×Unit=>(s.1=s5∧s.2.1=s6)∧inv s.2.2.1,fun s:(List Int)×Int×Int×Unit=>μ s.2.2.1,⟨⟨rfl,rfl⟩,h0⟩,fun(s5p,s6p,s7p,()) ⟨⟨eq0,eq1⟩,hi⟩=>by
  have eq0:s5p=s5:=eq0;subst s5p;have eq1:s6p=s6:=eq1;subst s6p;exact mpr_of (by kernel_rfl) ((congrArg (fun k=>kn8 r0 k s5 s6 s7p) (lpk1 (⟨rfl,rfl⟩:s5=s5∧s6=s6) inv (fun s7q=>μ s7q<μ s7p))).mpr (hs s7p hi))⟩⟩
theorem bd79:Callable Try.prog 79:=⟨by rw[Try.func79];kernel_rfl,by rw[Try.func79];show some _≠some _;decide⟩
theorem kxe (p0:List Int) (h:p0.length≤9223372036854775807):kbu (p0,()) (((allB p0):Bool),()):=by
 refine k12w (kzs (AllI (fun x=>decide (x<18446744069414584321)) p0) (fun i=>(p0.length-i).toNat) AllI.start ?_)
 intro i hi
 refine⟨fun hh=> ?_,fun hh=>(hi.done (of_decide_eq_false hh)).symm⟩
 have hh:=of_decide_eq_true hh
 exact⟨hi.1,hh,fun e=>(hi.bad hh (by simpa using e)).symm,fun e=>hi.next hh (by omega) (by simpa using e)⟩
noncomputable def kd6:Con TB.den:=k1g.fnR (fun x=>(fun(p0:List Int)=>p0.length≤9223372036854775807) x.1) fun x=>((fun(p0:List Int)=>((allB p0):Bool)) x.1,())
theorem kn4:kd6.Ok Try.prog TB:=Con.ok_fn k1g bd79 fun x h=>kzq (kxe x.1 h)
def kk:Con TB.den:=Con.mk0 102 [.one (.own 0),.one (.d (.int .u64))] [.tip (.int .u8)] (.one (.one (.own 0))) [.tip (.int .u8)]
abbrev ki7:=HL TB.den (hsT kk.ins (hsOs kk.pre))
abbrev k2g:=HL TB.den (hsV kk.res (hsOs kk.post))
noncomputable def k22:Cx TB:=⟨inf,[],[],4,[]⟩
noncomputable def k4n:Code:=Try.f102.body.getD .skip
noncomputable def k74:List ResultVar:=Try.f102.results.toList
def kty (o:k2g):=qS TB k22 16 1 (cB (cB k4n)) .no (retTQ TB k22 kk k74 o)
def k2u:Tm:=⟨[0],[.tip (.int .u8)],[0,1,5],[.one (.own 0),.one (.d (.int .u64)),.one (.d (.int .i64))],1⟩
def kt6 (o:k2g) (nx1:NX TB k2u):=qM TB 1 k2u nx1 (blockT TB 0 (kty o))
def k5m (o:k2g) (nx1:NX TB k2u) (i:HL TB.den k2u.hs):Prop:=WP TB k22 16 1 (cA (cA (cB (cA (cB k4n))))) .no (k2u.fill TB i) (kt6 o nx1)
noncomputable def ktw (o:k2g):An TB:= .lp [] k2u (k5m o) fun nx1=> .no
noncomputable def kgs (o:k2g):An TB:= .nd [] .no [] (.nd [] (.nd [] .no [] (ktw o)) [] .no)
def k8y (x:ki7) (o:k2g):Prop:=WPh TB k22 16 1 k4n (kgs o) (kk.st TB x) (retTQ TB k22 kk k74 o)
theorem krt (o:k2g):OblH TB k22 16 1 k4n (kgs o) (retTQ TB k22 kk k74 o):=
 OblH.ofC (X:=((∀nx i,(k5m o) nx i=(k5m o) nx i)∧(∀nx1:NX TB k2u,True)∧True)) (by kernel_rfl) ⟨fun _ _=>rfl,fun _=>trivial,trivial⟩
theorem krk {x:ki7} {o:k2g} (h:k8y x o):kk.Snd Try.prog x o:=
 Con.soundH (c:=kk) (C:=k22) TBok ⟨inf_ok,all_nil,all_nil⟩ mix Try.func102 (show Try.f102.body=some k4n by kernel_rfl) (show Try.f102.ntmps=16 by kernel_rfl) (show Try.f102.results.toList=k74 by kernel_rfl) rfl h (krt o)
theorem ktz {p1:Int} {w0:List Int} {e0:List Int} (h:
((w0=w0)∧Md.Loop (p1,(0:Int),w0,()) (k5m (e0,())))):k8y (p1,w0,()) (e0,()):=WPh.of_eq (by kernel_rfl) h
def kgp (e0:List Int) (k1:Int→Int→List Int→Prop) (s1:Int) (s5:Int) (g0:List Int):Prop:=
(decide (s5<8)=true→
 g0.length=g0.length∧(g0.length+[IntKind.u8.wrap s1].length)*1≤140737488355328∧g0.length+[IntKind.u8.wrap s1].length≤maxLen∧(g0++[IntKind.u8.wrap s1]=g0++[IntKind.u8.wrap s1])∧k1 (ishr .u64 s1 8:Int) (IntKind.i64.wrap (s5+1):Int) (g0++[IntKind.u8.wrap s1]:List Int))∧
(decide (s5<8)=false→
(g0=g0)∧g0=e0)
theorem krj {e0:List Int} {s1:Int} {s5:Int} {g0:List Int} (inv:Int→Int→List Int→Prop) (μ:Int→Int→List Int→Nat) (h0:inv s1 s5 g0) (hs:∀(s1:Int) (s5:Int) (g0:List Int),inv s1 s5 g0→kgp e0 (fun s1q s5q g0q=>inv s1q s5q g0q∧μ s1q s5q g0q<μ s1 s5 g0) s1 s5 g0):Md.Loop (s1,s5,g0,()) (k5m (e0,())):=
 ⟨⟨fun s:Int×Int×(List Int)×Unit=>(True)∧inv s.1 s.2.1 s.2.2.1,fun s:Int×Int×(List Int)×Unit=>μ s.1 s.2.1 s.2.2.1,⟨trivial,h0⟩,fun(s1p,s5p,g0p,()) ⟨_,hi⟩=>by
  exact mpr_of (by kernel_rfl) ((congrArg (fun k=>kgp e0 k s1p s5p g0p) (lpk3 (trivial:True) inv (fun s1q s5q g0q=>μ s1q s5q g0q<μ s1p s5p g0p))).mpr (hs s1p s5p g0p hi))⟩⟩
theorem bd102:Callable Try.prog 102:=⟨by rw[Try.func102];kernel_rfl,by rw[Try.func102];show some _≠some _;decide⟩
theorem kq6 (p1:Int) (w0:List Int) (h:U64 p1∧w0.length≤137438953472):k8y (p1,w0,()) (((w0++dig 8 p1):List Int),()):=by
 obtain⟨h1,h2⟩:=h
 refine ktz ⟨rfl,krj (fun n i g=>0≤i∧i≤8∧U64 n∧n=p1/256^i.toNat∧g=w0++dig i.toNat p1) (fun _ i _=>(8-i).toNat) ⟨by omega,by omega,h1,by simp,by simp[dig]⟩ ?_⟩
 rintro n i g ⟨g0,g1,g2,g3,rfl⟩
 refine⟨fun h=> ?_,fun h=> ?_⟩
 ·have h:=of_decide_eq_true h
  rw[inc i 8 g0 h (by omega),ishr8,u8w]
  refine⟨rfl,?_,?_,rfl,⟨by omega,by omega,⟨by omega,by omega⟩,?_,?_⟩,by omega⟩
  ·simp;omega
  ·simp;unfold maxLen;omega
  ·rw[g3,show(i+1).toNat=i.toNat+1 by omega,Int.ediv_ediv_of_nonneg (Int.le_of_lt (k1a9 _)),Int.pow_succ]
  ·rw[show(i+1).toNat=i.toNat+1 by omega,k1i5,List.append_assoc,g3]
 ·have h:=of_decide_eq_false h
  exact⟨rfl,by rw[show i=8 by omega];rfl⟩
noncomputable def kfy:Con TB.den:=kk.fnR (fun x=>(fun(p1:Int) (w0:List Int)=>U64 p1∧w0.length≤137438953472) x.1 x.2.1) fun x=>((fun(p1:Int) (w0:List Int)=>((w0++dig 8 p1):List Int)) x.1 x.2.1,())
theorem ktg:kfy.Ok Try.prog TB:=Con.ok_fn kk bd102 fun x h=>krk (kq6 x.1 x.2.1 h)
def k2j:Con TB.den:=Con.mk0 80 [.one (.d (.sl (.int .u64))),.one (.d (.sl (.int .u64)))] [] (.one (.one (.d (.str)))) []
abbrev k107:=HL TB.den (hsT k2j.ins (hsOs k2j.pre))
abbrev k4k:=HL TB.den (hsV k2j.res (hsOs k2j.post))
noncomputable def k3w:Cx TB:=⟨inf,[kfy],[],4,[]⟩
noncomputable def k6k:Code:=Try.f80.body.getD .skip
noncomputable def kcq:List ResultVar:=Try.f80.results.toList
def k1en (o:k4k):=qS TB k3w 39 0 (cB (cB (cB (cB k6k)))) .no (retTQ TB k3w k2j kcq o)
def k9p:Tm:=⟨[1],[.tip (.int .u8)],[5,27,28,29],[.one (.own 0),.one (.d (.sl (.int .u64))),.one (.d (.int .i64)),.one (.d (.int .i64))],2⟩
def kcm (o:k4k) (nx2:NX TB k9p) (i:HL TB.den k9p.hs):Prop:=WP TB k3w 39 0 (cA (cA (cB (cA (cB (cB (cB k6k))))))) .no (k9p.fill TB i) (qM TB 0 k9p nx2 (blockT TB 2 (k1en o)))
noncomputable def kyf (o:k4k):An TB:= .nd [] .no [] (.lp [] k9p (kcm o) fun nx2=> .no)
def k1e0 (o:k4k):=qS TB k3w 39 0 (cB (cB (cB k6k))) (.nd [] (kyf o) [] .no) (retTQ TB k3w k2j kcq o)
def k9q:Tm:=⟨[1],[.tip (.int .u8)],[0,5,17,18,19],[.one (.d (.sl (.int .u64))),.one (.own 0),.one (.d (.sl (.int .u64))),.one (.d (.int .i64)),.one (.d (.int .i64))],2⟩
def kcf (o:k4k) (nx1:NX TB k9q) (i:HL TB.den k9q.hs):Prop:=WP TB k3w 39 0 (cA (cA (cB (cA (cB (cB k6k)))))) .no (k9q.fill TB i) (qM TB 0 k9q nx1 (blockT TB 0 (k1e0 o)))
noncomputable def k1dz (o:k4k):An TB:= .lp [.frz 0 [5]] k9q (kcf o) fun nx1=> .no
noncomputable def k1fp (o:k4k):An TB:= .nd [] (.nd [] .no [] (k1dz o)) [] (.nd [] (kyf o) [] .no)
noncomputable def kxx (o:k4k):An TB:= .nd [] .no [] (.nd [] .no [] (k1fp o))
def kiw (x:k107) (o:k4k):Prop:=WPh TB k3w 39 0 k6k (kxx o) (k2j.st TB x) (retTQ TB k3w k2j kcq o)
theorem k1bs (o:k4k):OblH TB k3w 39 0 k6k (kxx o) (retTQ TB k3w k2j kcq o):=
 OblH.ofC (X:=((∀nx i,(kcf o) nx i=(kcf o) nx i)∧(∀nx1:NX TB k9q,True)∧(∀nx i,(kcm o) nx i=(kcm o) nx i)∧(∀nx2:NX TB k9p,True)∧True)) (by kernel_rfl) ⟨fun _ _=>rfl,fun _=>trivial,fun _ _=>rfl,fun _=>trivial,trivial⟩
theorem k1bw {x:k107} {o:k4k} (h:kiw x o):k2j.Snd Try.prog x o:=
 Con.soundH (c:=k2j) (C:=k3w) TBok ⟨inf_ok,(all_cons ktg all_nil),all_nil⟩ mix Try.func80 (show Try.f80.body=some k6k by kernel_rfl) (show Try.f80.ntmps=39 by kernel_rfl) (show Try.f80.results.toList=kcq by kernel_rfl) rfl h (k1bs o)
theorem k1e6 {p0:List Int} {p1:List Int} {r0:ByteArray} (h:
(let v1:Int:=IntKind.i64.wrap ((p1.length:Int)+(p0.length:Int))
 0≤(0:Int)∧(0:Int)≤IntKind.i64.wrap (8*v1)∧((IntKind.i64.wrap (8*v1)).toNat*1≤140737488355328)∧((IntKind.i64.wrap (8*v1)).toNat≤maxLen)∧(0=(List.replicate 0 (0:Int)).length)∧(List.replicate 0 (0:Int)=List.replicate 0 (0:Int))∧Md.Loop (p0,p1,((p1.length:Int):Int),(0:Int),(List.replicate 0 (0:Int):List Int),()) (kcf (r0,())))):kiw (p0,p1,()) (r0,()):=WPh.of_eq (by kernel_rfl) h
def kyq (r0:ByteArray) (k1:Int→List Int→Prop) (s0:List Int) (s17:List Int) (s18:Int) (s19:Int) (g1:List Int):Prop:=
(decide (s19<s18)=true→
(0≤s19)∧s19<(s17.length:Int)∧(g1=g1)∧(U64 (ix s17 s19)∧g1.length≤137438953472)∧((g1++dig 8 (ix s17 s19))=(g1++dig 8 (ix s17 s19)))∧k1 (IntKind.i64.wrap (s19+1):Int) ((g1++dig 8 (ix s17 s19)):List Int))∧
(decide (s19<s18)=false→
(g1=g1)∧Md.Loop (s0,((s0.length:Int):Int),(0:Int),g1,()) (kcm (r0,())))
theorem k1bg {r0:ByteArray} {s0:List Int} {s17:List Int} {s18:Int} {s19:Int} {g1:List Int} (inv:Int→List Int→Prop) (μ:Int→List Int→Nat) (h0:inv s19 g1) (hs:∀(s19:Int) (g1:List Int),inv s19 g1→kyq r0 (fun s19q g1q=>inv s19q g1q∧μ s19q g1q<μ s19 g1) s0 s17 s18 s19 g1):Md.Loop (s0,s17,s18,s19,g1,()) (kcf (r0,())):=
 ⟨⟨fun s:(List Int)×(List Int)×Int×Int×(List Int)×Unit=>(s.1=s0∧s.2.1=s17∧s.2.2.1=s18)∧inv s.2.2.2.1 s.2.2.2.2.1,fun s:(List Int)×(List Int)×Int×Int×(List Int)×Unit=>μ s.2.2.2.1 s.2.2.2.2.1,⟨⟨rfl,rfl,rfl⟩,h0⟩,fun(s0p,s17p,s18p,s19p,g1p,()) ⟨⟨eq0,eq1,eq2⟩,hi⟩=>by
  have eq0:s0p=s0:=eq0;subst s0p;have eq1:s17p=s17:=eq1;subst s17p;have eq2:s18p=s18:=eq2;subst s18p;exact mpr_of (by kernel_rfl) ((congrArg (fun k=>kyq r0 k s0 s17 s18 s19p g1p) (lpk2 (⟨rfl,rfl,rfl⟩:s0=s0∧s17=s17∧s18=s18) inv (fun s19q g1q=>μ s19q g1q<μ s19p g1p))).mpr (hs s19p g1p hi))⟩⟩
def kz9 (r0:ByteArray) (k2:Int→List Int→Prop) (s27:List Int) (s28:Int) (s29:Int) (g1:List Int):Prop:=
(decide (s29<s28)=true→
(0≤s29)∧s29<(s27.length:Int)∧(g1=g1)∧(U64 (ix s27 s29)∧g1.length≤137438953472)∧((g1++dig 8 (ix s27 s29))=(g1++dig 8 (ix s27 s29)))∧k2 (IntKind.i64.wrap (s29+1):Int) ((g1++dig 8 (ix s27 s29)):List Int))∧
(decide (s29<s28)=false→
 strOfNums g1=r0)
theorem k1c8 {r0:ByteArray} {s27:List Int} {s28:Int} {s29:Int} {g1:List Int} (inv:Int→List Int→Prop) (μ:Int→List Int→Nat) (h0:inv s29 g1) (hs:∀(s29:Int) (g1:List Int),inv s29 g1→kz9 r0 (fun s29q g1q=>inv s29q g1q∧μ s29q g1q<μ s29 g1) s27 s28 s29 g1):Md.Loop (s27,s28,s29,g1,()) (kcm (r0,())):=
 ⟨⟨fun s:(List Int)×Int×Int×(List Int)×Unit=>(s.1=s27∧s.2.1=s28)∧inv s.2.2.1 s.2.2.2.1,fun s:(List Int)×Int×Int×(List Int)×Unit=>μ s.2.2.1 s.2.2.2.1,⟨⟨rfl,rfl⟩,h0⟩,fun(s27p,s28p,s29p,g1p,()) ⟨⟨eq0,eq1⟩,hi⟩=>by
  have eq0:s27p=s27:=eq0;subst s27p;have eq1:s28p=s28:=eq1;subst s28p;exact mpr_of (by kernel_rfl) ((congrArg (fun k=>kz9 r0 k s27 s28 s29p g1p) (lpk2 (⟨rfl,rfl⟩:s27=s27∧s28=s28) inv (fun s29q g1q=>μ s29q g1q<μ s29p g1p))).mpr (hs s29p g1p hi))⟩⟩
theorem bd80:Callable Try.prog 80:=⟨by rw[Try.func80];kernel_rfl,by rw[Try.func80];show some _≠some _;decide⟩
theorem k194 (p0:List Int) (p1:List Int) (h:Us p0∧Us p1∧p0.length≤1073741824∧p1.length≤1073741824):kiw (p0,p1,()) (((keyB p1 p0):ByteArray),()):=by
 obtain⟨h0,h1,h2,h3⟩:=h
 refine k1e6 ?_
 rw[wi ((p1.length:Int)+p0.length) (by omega) (by omega)]
 simp only[]
 rw[wi (8*((p1.length:Int)+p0.length)) (by omega) (by omega)]
 refine⟨by omega,by omega,by omega,by unfold maxLen;omega,by trivial,by trivial,?_⟩
 refine k1bg (fun i g=>FlatI (dig 8) [] p1 i g) (fun i _=>(p1.length-i).toNat) FlatI.start ?_
 intro i g hg
 have hl:=hg.len 8 (fun x _=>by simp)
 refine⟨fun hh=> ?_,fun hh=> ?_⟩
 ·have hh:=of_decide_eq_true hh
  exact⟨hg.1,hh,rfl,⟨h1 _ (ix_mem p1 i hg.1 hh),by simp at hl;omega⟩,by trivial,hg.next hh (by omega) rfl⟩
 ·have hh:=of_decide_eq_false hh
  have e:=hg.done hh
  refine⟨rfl,k1c8 (fun j g=>FlatI (dig 8) (p1.flatMap (dig 8)) p0 j g) (fun j _=>(p0.length-j).toNat) (by rw[e];exact FlatI.start) ?_⟩
  intro j g2 hg2
  have hl2:=hg2.len 8 (fun x _=>by simp)
  have hl3:=k10j p1
  refine⟨fun hh2=> ?_,fun hh2=> ?_⟩
  ·have hh2:=of_decide_eq_true hh2
   exact⟨hg2.1,hh2,rfl,⟨h0 _ (ix_mem p0 j hg2.1 hh2),by omega⟩,by trivial,hg2.next hh2 (by omega) rfl⟩
  ·rw[hg2.done (of_decide_eq_false hh2)];rfl
noncomputable def km4:Con TB.den:=k2j.fnR (fun x=>(fun(p0:List Int) (p1:List Int)=>Us p0∧Us p1∧p0.length≤1073741824∧p1.length≤1073741824) x.1 x.2.1) fun x=>((fun(p0:List Int) (p1:List Int)=>((keyB p1 p0):ByteArray)) x.1 x.2.1,())
theorem kya:km4.Ok Try.prog TB:=Con.ok_fn k2j bd80 fun x h=>k1bw (k194 x.1 x.2.1 h)
def k3a:Con TB.den:=Con.mk0 103 [.agg [.d (.int .u64)]] [] (.one (.one (.d (.bool)))) []
abbrev kyg:=HL TB.den (hsT k3a.ins (hsOs k3a.pre))
abbrev kh7:=HL TB.den (hsV k3a.res (hsOs k3a.post))
noncomputable def kb3:Cx TB:=⟨inf,[],[],4,[]⟩
noncomputable def khm:Code:=Try.f103.body.getD .skip
noncomputable def klx:List ResultVar:=Try.f103.results.toList
noncomputable def kw4 (o:kh7):An TB:= .no
def khl (x:kyg) (o:kh7):Prop:=WPh TB kb3 13 0 khm (kw4 o) (k3a.st TB x) (retTQ TB kb3 k3a klx o)
theorem k19y (o:kh7):OblH TB kb3 13 0 khm (kw4 o) (retTQ TB kb3 k3a klx o):=
 OblH.ofC (X:=True) (by kernel_rfl) trivial
theorem k19l {x:kyg} {o:kh7} (h:khl x o):k3a.Snd Try.prog x o:=
 Con.soundH (c:=k3a) (C:=kb3) TBok ⟨inf_ok,all_nil,all_nil⟩ mix Try.func103 (show Try.f103.body=some khm by kernel_rfl) (show Try.f103.ntmps=13 by kernel_rfl) (show Try.f103.results.toList=klx by kernel_rfl) rfl h (k19y o)
theorem k1bf {p0:TField} {r0:Bool} (h:
(((p0.P==18446744069414584321)=true→
((p0.P==18446744069414584321)=true→
 true=r0)∧
((p0.P==18446744069414584321)=false→
 false=r0))∧
((p0.P==18446744069414584321)=false→
((p0.P==17)=true→
((p0.P==17)=true→
 true=r0)∧
((p0.P==17)=false→
 false=r0))∧
((p0.P==17)=false→
((p0.P==97)=true→
((p0.P==97)=true→
 true=r0)∧
((p0.P==97)=false→
 false=r0))∧
((p0.P==97)=false→
((p0.P==193)=true→
((p0.P==193)=true→
 true=r0)∧
((p0.P==193)=false→
 false=r0))∧
((p0.P==193)=false→
((p0.P==257)=true→
((p0.P==257)=true→
 true=r0)∧
((p0.P==257)=false→
 false=r0))∧
((p0.P==257)=false→
((p0.P==12289)=true→
((p0.P==12289)=true→
 true=r0)∧
((p0.P==12289)=false→
 false=r0))∧
((p0.P==12289)=false→
((p0.P==65537)=true→
 true=r0)∧
((p0.P==65537)=false→
 false=r0))))))))):khl (p0.P,()) (r0,()):=WPh.of_eq (by kernel_rfl) h
theorem bd103:Callable Try.prog 103:=⟨by rw[Try.func103];kernel_rfl,by rw[Try.func103];show some _≠some _;decide⟩
theorem k16g (p0:TField) (h:p0.P=18446744069414584321):khl (p0.P,()) ((true:Bool),()):=by
 refine k1bf ?_
 simp[h]
noncomputable def k6a:Con TB.den:=k3a.fnR (fun x=>(fun(p0:TField)=>p0.P=18446744069414584321) (TField.mk x.1)) fun x=>((fun(p0:TField)=>(true:Bool)) (TField.mk x.1),())
theorem k8o:k6a.Ok Try.prog TB:=Con.ok_fn k3a bd103 fun x h=>k19l (k16g (TField.mk x.1) h)
def k3q:Con TB.den:=Con.mk0 117 [.agg [.d (.int .u64)],.one (.d (.int .u64)),.one (.d (.int .u64))] [] (.one (.one (.d (.int .u64)))) []
abbrev k15a:=HL TB.den (hsT k3q.ins (hsOs k3q.pre))
abbrev k8k:=HL TB.den (hsV k3q.res (hsOs k3q.post))
noncomputable def k78:Cx TB:=⟨inf,[],[x130],4,[]⟩
noncomputable def kbe:Code:=Try.f117.body.getD .skip
noncomputable def kk5:List ResultVar:=Try.f117.results.toList
def k1i2 (o:k8k):=qS TB k78 28 0 (cB (cB (cB kbe))) .no (retTQ TB k78 k3q kk5 o)
def kh8:Tm:=⟨[0],[.cells [.d (.int .u64)]],[3,7,22],[.one (.ptr 0 0),.one (.d (.int .u64)),.one (.d (.bool))],1⟩
def kyr (o:k8k) (i:HL TB.den kh8.hs):Prop:=ghs TB [] (kh8.fill TB i) fun s=>WP TB k78 28 0 (cB (cA (cB (cB kbe)))) .no s (k1i2 o)
structure kf8 (o:k8k) (i:HL TB.den kh8.hs):Prop where
 h:kyr o i
noncomputable def k1hs (o:k8k):An TB:= .nd [] (.jn kh8 (kf8 o) [] .no [] .no) [] .no
noncomputable def k10u (o:k8k):An TB:= .nd [] .no [] (.nd [] .no [] (k1hs o))
def kl6 (x:k15a) (o:k8k):Prop:=WPh TB k78 28 0 kbe (k10u o) (k3q.st TB x) (retTQ TB k78 k3q kk5 o)
theorem k1e8 (o:k8k):OblH TB k78 28 0 kbe (k10u o) (retTQ TB k78 k3q kk5 o):=
 OblH.ofC (X:=((∀i,(kf8 o) i=kyr o i)∧True)) (by kernel_rfl) ⟨fun _=>propext ⟨fun h=>h.1,fun h=>⟨h⟩⟩,trivial⟩
theorem k1fa {x:k15a} {o:k8k} (h:kl6 x o):k3q.Snd Try.prog x o:=
 Con.soundH (c:=k3q) (C:=k78) TBok ⟨inf_ok,all_nil,(all_cons x130_ok all_nil)⟩ mix Try.func117 (show Try.f117.body=some kbe by kernel_rfl) (show Try.f117.ntmps=28 by kernel_rfl) (show Try.f117.results.toList=kk5 by kernel_rfl) rfl h (k1e8 o)
theorem k1ht {p0:TField} {p1:Int} {p2:Int} {r0:Int} (h:
((0≤p1∧0≤p2∧0≤(0:Int)∧(0:Int)≤1)∧let r1:Int:=(p1+p2+(0:Int))%18446744073709551616
 let r2:Int:=(p1+p2+(0:Int))/18446744073709551616
((r2 !=0)=true→
 kf8 (r0,()) (r1,true,p0.P,()))∧
((r2 !=0)=false→
 kf8 (r0,()) (r1,(decide (p0.P≤r1):Bool),p0.P,())))):kl6 (p0.P,p1,p2,()) (r0,()):=WPh.of_eq (by kernel_rfl) h
theorem ksq {r0:Int} {s7:Int} {s22:Bool} {h0_0:Int} (h:
((s22=true→
 IntKind.u64.wrap (s7-h0_0)=r0)∧
(s22=false→
 s7=r0))):kf8 (r0,()) (s7,s22,h0_0,()):=⟨mpr_of (by kernel_rfl) h⟩
theorem bd117:Callable Try.prog 117:=⟨by rw[Try.func117];kernel_rfl,by rw[Try.func117];show some _≠some _;decide⟩
theorem k1bz (p0:TField) (p1:Int) (p2:Int) (h:p0.P=18446744069414584321∧(0≤p1∧p1<18446744069414584321)∧(0≤p2∧p2<18446744069414584321)):kl6 (p0.P,p1,p2,()) ((((p1+p2)%18446744069414584321):Int),()):=by
 obtain⟨hP,h1,h2⟩:=h
 refine k1ht ⟨by omega,?_,?_⟩
 ·intro h
  refine ksq ⟨fun _=> ?_,fun h=>by simp at h⟩
  have h:(p1+p2+0)/18446744073709551616≠0:=by simpa using h
  rw[hP,u64w];omega
 ·intro h
  have h:(p1+p2+0)/18446744073709551616=0:=by simpa using h
  refine ksq ⟨fun g=> ?_,fun g=> ?_⟩
  ·have g:=of_decide_eq_true g
   rw[hP]at g ⊢
   rw[u64w];omega
  ·have g:=of_decide_eq_false g
   rw[hP]at g
   omega
noncomputable def ky7:Con TB.den:=k3q.fnR (fun x=>(fun(p0:TField) (p1:Int) (p2:Int)=>p0.P=18446744069414584321∧(0≤p1∧p1<18446744069414584321)∧(0≤p2∧p2<18446744069414584321)) (TField.mk x.1) x.2.1 x.2.2.1) fun x=>((fun(p0:TField) (p1:Int) (p2:Int)=>(((p1+p2)%18446744069414584321):Int)) (TField.mk x.1) x.2.1 x.2.2.1,())
theorem k1h5:ky7.Ok Try.prog TB:=Con.ok_fn k3q bd117 fun x h=>k1fa (k1bz (TField.mk x.1) x.2.1 x.2.2.1 h)
def k2f:Con TB.den:=Con.mk0 118 [.agg [.d (.int .u64)],.one (.d (.int .u64))] [] (.one (.one (.d (.int .u64)))) []
abbrev ksx:=HL TB.den (hsT k2f.ins (hsOs k2f.pre))
abbrev kdb:=HL TB.den (hsV k2f.res (hsOs k2f.post))
noncomputable def k95:Cx TB:=⟨inf,[],[],4,[]⟩
noncomputable def kex:Code:=Try.f118.body.getD .skip
noncomputable def khi:List ResultVar:=Try.f118.results.toList
noncomputable def kqq (o:kdb):An TB:= .no
def keh (x:ksx) (o:kdb):Prop:=WPh TB k95 14 0 kex (kqq o) (k2f.st TB x) (retTQ TB k95 k2f khi o)
theorem k13c (o:kdb):OblH TB k95 14 0 kex (kqq o) (retTQ TB k95 k2f khi o):=
 OblH.ofC (X:=True) (by kernel_rfl) trivial
theorem k13d {x:ksx} {o:kdb} (h:keh x o):k2f.Snd Try.prog x o:=
 Con.soundH (c:=k2f) (C:=k95) TBok ⟨inf_ok,all_nil,all_nil⟩ mix Try.func118 (show Try.f118.body=some kex by kernel_rfl) (show Try.f118.ntmps=14 by kernel_rfl) (show Try.f118.results.toList=khi by kernel_rfl) rfl h (k13c o)
theorem k17p {p0:TField} {p1:Int} {r0:Int} (h:
((decide (p0.P≤p1)=true→
(p0.P≠0)∧Int.tmod p1 p0.P=r0)∧
(decide (p0.P≤p1)=false→
 p1=r0))):keh (p0.P,p1,()) (r0,()):=WPh.of_eq (by kernel_rfl) h
theorem bd118:Callable Try.prog 118:=⟨by rw[Try.func118];kernel_rfl,by rw[Try.func118];show some _≠some _;decide⟩
theorem k12k (p0:TField) (p1:Int) (h:0<p0.P∧0≤p1):keh (p0.P,p1,()) (((p1%p0.P):Int),()):=by
 refine k17p ⟨fun h1=>⟨by omega,tmod_nn _ _ h.2⟩,fun h1=> ?_⟩
 simp at h1
 rw[Int.emod_eq_of_lt (by omega) (by omega)]
noncomputable def k82:Con TB.den:=k2f.fnR (fun x=>(fun(p0:TField) (p1:Int)=>0<p0.P∧0≤p1) (TField.mk x.1) x.2.1) fun x=>((fun(p0:TField) (p1:Int)=>((p1%p0.P):Int)) (TField.mk x.1) x.2.1,())
theorem kby:k82.Ok Try.prog TB:=Con.ok_fn k2f bd118 fun x h=>k13d (k12k (TField.mk x.1) x.2.1 h)
def k4c:Con TB.den:=Con.mk0 110 [.agg [.d (.int .u64)],.one (.d (.int .u64)),.one (.d (.int .u64))] [] (.one (.one (.d (.int .u64)))) []
abbrev k15x:=HL TB.den (hsT k4c.ins (hsOs k4c.pre))
abbrev km6:=HL TB.den (hsV k4c.res (hsOs k4c.post))
noncomputable def kdr:Cx TB:=⟨inf,[k6a,k82,ky7],[],4,[]⟩
noncomputable def kli:Code:=Try.f110.body.getD .skip
noncomputable def krf:List ResultVar:=Try.f110.results.toList
noncomputable def k10l (o:km6):An TB:= .no
def klc (x:k15x) (o:km6):Prop:=WPh TB kdr 18 0 kli (k10l o) (k4c.st TB x) (retTQ TB kdr k4c krf o)
theorem k1fe (o:km6):OblH TB kdr 18 0 kli (k10l o) (retTQ TB kdr k4c krf o):=
 OblH.ofC (X:=True) (by kernel_rfl) trivial
theorem k1f2 {x:k15x} {o:km6} (h:klc x o):k4c.Snd Try.prog x o:=
 Con.soundH (c:=k4c) (C:=kdr) TBok ⟨inf_ok,(all_cons k8o (all_cons kby (all_cons k1h5 all_nil))),all_nil⟩ mix Try.func110 (show Try.f110.body=some kli by kernel_rfl) (show Try.f110.ntmps=18 by kernel_rfl) (show Try.f110.results.toList=krf by kernel_rfl) rfl h (k1fe o)
theorem k1gr {p0:TField} {p1:Int} {p2:Int} {r0:Int} (h:
((p0.P=18446744069414584321)∧((!true)=true→
 0=r0)∧
((!true)=false→
(0<p0.P∧0≤p1)∧(0<p0.P∧0≤p2)∧(p0.P=18446744069414584321∧(0≤(p1%p0.P)∧(p1%p0.P)<18446744069414584321)∧(0≤(p2%p0.P)∧(p2%p0.P)<18446744069414584321))∧let r1:Int:=(((p1%p0.P)+(p2%p0.P))%18446744069414584321)
 r1=r0))):klc (p0.P,p1,p2,()) (r0,()):=WPh.of_eq (by kernel_rfl) h
theorem bd110:Callable Try.prog 110:=⟨by rw[Try.func110];kernel_rfl,by rw[Try.func110];show some _≠some _;decide⟩
theorem k1c5 (p0:TField) (p1:Int) (p2:Int) (h:p0.P=18446744069414584321∧U64 p1∧U64 p2):klc (p0.P,p1,p2,()) ((((p1+p2)%18446744069414584321):Int),()):=by
 obtain⟨hP,h1,h2⟩:=h
 refine k1gr ⟨hP,?_⟩
 simp only[hP]
 refine⟨fun h=>by simp at h,fun _=>⟨by omega,by omega,⟨by trivial,by omega,by omega⟩,?_⟩⟩
 omega
noncomputable def kha:Con TB.den:=k4c.fnR (fun x=>(fun(p0:TField) (p1:Int) (p2:Int)=>p0.P=18446744069414584321∧U64 p1∧U64 p2) (TField.mk x.1) x.2.1 x.2.2.1) fun x=>((fun(p0:TField) (p1:Int) (p2:Int)=>(((p1+p2)%18446744069414584321):Int)) (TField.mk x.1) x.2.1 x.2.2.1,())
theorem kqo:kha.Ok Try.prog TB:=Con.ok_fn k4c bd110 fun x h=>k1f2 (k1c5 (TField.mk x.1) x.2.1 x.2.2.1 h)
def k24:Con TB.den:=Con.mk0 136 [.one (.d (.int .u64))] [] (.one (.one (.d (.int .i64)))) []
abbrev k11i:=HL TB.den (hsT k24.ins (hsOs k24.pre))
abbrev k3u:=HL TB.den (hsV k24.res (hsOs k24.post))
noncomputable def k40:Cx TB:=⟨inf,[],[],4,[]⟩
noncomputable def k7h:Code:=Try.f136.body.getD .skip
noncomputable def k9r:List ResultVar:=Try.f136.results.toList
def kb1:Tm:=⟨[],[],[0,2],[.one (.d (.int .u64)),.one (.d (.int .i64))],0⟩
def kuz (o:k3u) (i:HL TB.den kb1.hs):Prop:=ghs TB [] (kb1.fill TB i) fun s=>WP TB k40 25 0 (cB (cB (cB (cB k7h)))) .no s (retTQ TB k40 k24 k9r o)
structure k7v (o:k3u) (i:HL TB.den kb1.hs):Prop where
 h:kuz o i
def kfj:Tm:=⟨[],[],[0,2],[.one (.d (.int .u64)),.one (.d (.int .i64))],0⟩
def kub (o:k3u) (i:HL TB.den kfj.hs):Prop:=ghs TB [] (kfj.fill TB i) fun s=>WP TB k40 25 0 (cB (cB (cB k7h))) (.jn kb1 (k7v o) [] .no [] .no) s (retTQ TB k40 k24 k9r o)
structure k9m (o:k3u) (i:HL TB.den kfj.hs):Prop where
 h:kub o i
noncomputable def kys (o:k3u):An TB:= .jn kfj (k9m o) [] .no [] (.jn kb1 (k7v o) [] .no [] .no)
def kff:Tm:=⟨[],[],[0,2],[.one (.d (.int .u64)),.one (.d (.int .i64))],0⟩
def kuk (o:k3u) (i:HL TB.den kff.hs):Prop:=ghs TB [] (kff.fill TB i) fun s=>WP TB k40 25 0 (cB (cB k7h)) (kys o) s (retTQ TB k40 k24 k9r o)
structure k9n (o:k3u) (i:HL TB.den kff.hs):Prop where
 h:kuk o i
noncomputable def k1fd (o:k3u):An TB:= .jn kff (k9n o) [] .no [] (kys o)
noncomputable def ky6 (o:k3u):An TB:= .nd [] .no [] (k1fd o)
def kjt (x:k11i) (o:k3u):Prop:=WPh TB k40 25 0 k7h (ky6 o) (k24.st TB x) (retTQ TB k40 k24 k9r o)
theorem k1br (o:k3u):OblH TB k40 25 0 k7h (ky6 o) (retTQ TB k40 k24 k9r o):=
 OblH.ofC (X:=((∀i,(k9n o) i=kuk o i)∧(∀i,(k9m o) i=kub o i)∧(∀i,(k7v o) i=kuz o i)∧True)) (by kernel_rfl) ⟨fun _=>propext ⟨fun h=>h.1,fun h=>⟨h⟩⟩,fun _=>propext ⟨fun h=>h.1,fun h=>⟨h⟩⟩,fun _=>propext ⟨fun h=>h.1,fun h=>⟨h⟩⟩,trivial⟩
theorem k1b3 {x:k11i} {o:k3u} (h:kjt x o):k24.Snd Try.prog x o:=
 Con.soundH (c:=k24) (C:=k40) TBok ⟨inf_ok,all_nil,all_nil⟩ mix Try.func136 (show Try.f136.body=some k7h by kernel_rfl) (show Try.f136.ntmps=25 by kernel_rfl) (show Try.f136.results.toList=k9r by kernel_rfl) rfl h (k1br o)
theorem k1fw {p0:Int} {r0:Int} (h:
((decide (4294967296≤p0)=true→
 k9n (r0,()) ((ishr .u64 p0 32:Int),(32:Int),()))∧
(decide (4294967296≤p0)=false→
 k9n (r0,()) (p0,(0:Int),())))):kjt (p0,()) (r0,()):=WPh.of_eq (by kernel_rfl) h
theorem k17x {r0:Int} {s0:Int} {s2:Int} (h:
((decide (65536≤s0)=true→
 k9m (r0,()) ((ishr .u64 s0 16:Int),(IntKind.i64.wrap (s2+16):Int),()))∧
(decide (65536≤s0)=false→
 k9m (r0,()) (s0,s2,())))):k9n (r0,()) (s0,s2,()):=⟨mpr_of (by kernel_rfl) h⟩
theorem k16r {r0:Int} {s0:Int} {s2:Int} (h:
((decide (256≤s0)=true→
 k7v (r0,()) ((ishr .u64 s0 8:Int),(IntKind.i64.wrap (s2+8):Int),()))∧
(decide (256≤s0)=false→
 k7v (r0,()) (s0,s2,())))):k9m (r0,()) (s0,s2,()):=⟨mpr_of (by kernel_rfl) h⟩
theorem k16a {r0:Int} {s0:Int} {s2:Int} (h:
((0≤IntKind.u8.wrap s0∧IntKind.u8.wrap s0<((⟨#[0,1,2,2,3,3,3,3,4,4,4,4,4,4,4,4,5,5,5,5,5,5,5,5,5,5,5,5,5,5,5,5,6,6,6,6,6,6,6,6,6,6,6,6,6,6,6,6,6,6,6,6,6,6,6,6,6,6,6,6,6,6,6,6,7,7,7,7,7,7,7,7,7,7,7,7,7,7,7,7,7,7,7,7,7,7,7,7,7,7,7,7,7,7,7,7,7,7,7,7,7,7,7,7,7,7,7,7,7,7,7,7,7,7,7,7,7,7,7,7,7,7,7,7,7,7,7,7,8,8,8,8,8,8,8,8,8,8,8,8,8,8,8,8,8,8,8,8,8,8,8,8,8,8,8,8,8,8,8,8,8,8,8,8,8,8,8,8,8,8,8,8,8,8,8,8,8,8,8,8,8,8,8,8,8,8,8,8,8,8,8,8,8,8,8,8,8,8,8,8,8,8,8,8,8,8,8,8,8,8,8,8,8,8,8,8,8,8,8,8,8,8,8,8,8,8,8,8,8,8,8,8,8,8,8,8,8,8,8,8,8,8,8,8,8,8,8,8,8,8,8,8,8,8,8,8]⟩:ByteArray).size:Int))∧let v1:Int:=byteAt (⟨#[0,1,2,2,3,3,3,3,4,4,4,4,4,4,4,4,5,5,5,5,5,5,5,5,5,5,5,5,5,5,5,5,6,6,6,6,6,6,6,6,6,6,6,6,6,6,6,6,6,6,6,6,6,6,6,6,6,6,6,6,6,6,6,6,7,7,7,7,7,7,7,7,7,7,7,7,7,7,7,7,7,7,7,7,7,7,7,7,7,7,7,7,7,7,7,7,7,7,7,7,7,7,7,7,7,7,7,7,7,7,7,7,7,7,7,7,7,7,7,7,7,7,7,7,7,7,7,7,8,8,8,8,8,8,8,8,8,8,8,8,8,8,8,8,8,8,8,8,8,8,8,8,8,8,8,8,8,8,8,8,8,8,8,8,8,8,8,8,8,8,8,8,8,8,8,8,8,8,8,8,8,8,8,8,8,8,8,8,8,8,8,8,8,8,8,8,8,8,8,8,8,8,8,8,8,8,8,8,8,8,8,8,8,8,8,8,8,8,8,8,8,8,8,8,8,8,8,8,8,8,8,8,8,8,8,8,8,8,8,8,8,8,8,8,8,8,8,8,8,8,8,8,8,8,8,8]⟩:ByteArray) (IntKind.u8.wrap s0)
 let v2:Int:=IntKind.i64.wrap (s2+(IntKind.i64.wrap v1))
 v2=r0)):k7v (r0,()) (s0,s2,()):=⟨mpr_of (by kernel_rfl) h⟩
theorem bd136:Callable Try.prog 136:=⟨by rw[Try.func136];kernel_rfl,by rw[Try.func136];show some _≠some _;decide⟩
theorem k1am (p0:Int) (h:U64 p0):kjt (p0,()) (((len64 p0):Int),()):=by
 have j3:∀s0 s2:Int,0≤s0→s0<256→0≤s2→s2≤56→k7v (s2+len64 s0,()) (s0,s2,()):=fun s0 s2 h0 h1 h2 h3=>by
  refine k16a ?_
  have e:IntKind.u8.wrap s0=s0:=by rw[u8w];omega
  have l:=k1ky s0 ⟨h0,h1⟩
  show(0≤IntKind.u8.wrap s0∧IntKind.u8.wrap s0<(tab8.size:Int))∧IntKind.i64.wrap (s2+IntKind.i64.wrap (byteAt tab8 (IntKind.u8.wrap s0)))=_
  rw[e,k1ml,k1hb s0 ⟨h0,h1⟩,wi (len64 s0) (by omega) (by omega),wi (s2+len64 s0) (by omega) (by omega)]
  exact⟨⟨h0,h1⟩,rfl⟩
 have j2:∀s0 s2:Int,0≤s0→s0<65536→0≤s2→s2≤48→k9m (s2+len64 s0,()) (s0,s2,()):=fun s0 s2 h0 h1 h2 h3=>by
  refine k16r ⟨fun h=> ?_,fun h=>j3 s0 s2 h0 (by simpa using h) h2 (by omega)⟩
  have h:=of_decide_eq_true h
  rw[ishr8,wi _ (by omega) (by omega),←kti s0 8 (by simpa using h),←Int.add_assoc,Int.add_right_comm]
  exact j3 _ _ (by omega) (by omega) (by omega) (by omega)
 have j1:∀s0 s2:Int,0≤s0→s0<4294967296→0≤s2→s2≤32→k9n (s2+len64 s0,()) (s0,s2,()):=fun s0 s2 h0 h1 h2 h3=>by
  refine k17x ⟨fun h=> ?_,fun h=>j2 s0 s2 h0 (by simpa using h) h2 (by omega)⟩
  have h:=of_decide_eq_true h
  rw[ishr16,wi _ (by omega) (by omega),←kti s0 16 (by simpa using h),←Int.add_assoc,Int.add_right_comm]
  exact j2 _ _ (by omega) (by omega) (by omega) (by omega)
 refine k1fw ⟨fun h1=> ?_,fun h1=> ?_⟩
 ·have h1:=of_decide_eq_true h1
  rw[ishr32,←kti p0 32 (by simpa using h1),Int.add_comm]
  exact j1 _ _ (by omega) (by omega) (by omega) (by omega)
 ·have:=j1 p0 0 h.1 (by simpa using h1) (by omega) (by omega)
  rwa [Int.zero_add]at this
noncomputable def kvu:Con TB.den:=k24.fnR (fun x=>(fun(p0:Int)=>U64 p0) x.1) fun x=>((fun(p0:Int)=>((len64 p0):Int)) x.1,())
theorem k1f7:kvu.Ok Try.prog TB:=Con.ok_fn k24 bd136 fun x h=>k1b3 (k1am x.1 h)
def k12:Con TB.den:=Con.mk0 134 [.one (.d (.int .u64))] [] (.one (.one (.d (.int .i64)))) []
abbrev ki6:=HL TB.den (hsT k12.ins (hsOs k12.pre))
abbrev k7f:=HL TB.den (hsV k12.res (hsOs k12.post))
noncomputable def k5l:Cx TB:=⟨inf,[kvu],[],4,[]⟩
noncomputable def k8z:Code:=Try.f134.body.getD .skip
noncomputable def ka8:List ResultVar:=Try.f134.results.toList
noncomputable def kh4 (o:k7f):An TB:= .no
def k92 (x:ki6) (o:k7f):Prop:=WPh TB k5l 6 0 k8z (kh4 o) (k12.st TB x) (retTQ TB k5l k12 ka8 o)
theorem ks2 (o:k7f):OblH TB k5l 6 0 k8z (kh4 o) (retTQ TB k5l k12 ka8 o):=
 OblH.ofC (X:=True) (by kernel_rfl) trivial
theorem krx {x:ki6} {o:k7f} (h:k92 x o):k12.Snd Try.prog x o:=
 Con.soundH (c:=k12) (C:=k5l) TBok ⟨inf_ok,(all_cons k1f7 all_nil),all_nil⟩ mix Try.func134 (show Try.f134.body=some k8z by kernel_rfl) (show Try.f134.ntmps=6 by kernel_rfl) (show Try.f134.results.toList=ka8 by kernel_rfl) rfl h (ks2 o)
theorem ktm {p0:Int} {r0:Int} (h:
((U64 p0)∧IntKind.i64.wrap (64-(len64 p0))=r0)):k92 (p0,()) (r0,()):=WPh.of_eq (by kernel_rfl) h
theorem bd134:Callable Try.prog 134:=⟨by rw[Try.func134];kernel_rfl,by rw[Try.func134];show some _≠some _;decide⟩
theorem kr1 (p0:Int) (h:0<p0∧p0<18446744073709551616):k92 (p0,()) (((64-len64 p0):Int),()):=by
 obtain⟨s,e,h1,_⟩:=k18f p0 h
 refine ktm ⟨⟨by omega,h.2⟩,?_⟩
 exact wi _ (by omega) (by omega)
noncomputable def kfw:Con TB.den:=k12.fnR (fun x=>(fun(p0:Int)=>0<p0∧p0<18446744073709551616) x.1) fun x=>((fun(p0:Int)=>((64-len64 p0):Int)) x.1,())
theorem kth:kfw.Ok Try.prog TB:=Con.ok_fn k12 bd134 fun x h=>krx (kr1 x.1 h)
def k1v:Con TB.den:=Con.mk0 125 [.one (.d (.int .u64)),.one (.d (.int .u64)),.one (.d (.int .u64))] [] (.tup [.one (.d (.int .u64)),.one (.d (.int .u64))]) []
abbrev k117:=HL TB.den (hsT k1v.ins (hsOs k1v.pre))
abbrev ki:=HL TB.den (hsV k1v.res (hsOs k1v.post))
noncomputable def k1r:Cx TB:=⟨inf,[kfw],[],4,[]⟩
noncomputable def k4b:Code:=Try.f125.body.getD .skip
noncomputable def k7q:List ResultVar:=Try.f125.results.toList
def kan:Tm:=⟨[],[],[2,8,14,15,17,18],[.one (.d (.int .u64)),.one (.d (.int .u64)),.one (.d (.int .u64)),.one (.d (.int .u64)),.one (.d (.int .u64)),.one (.d (.int .u64))],0⟩
def kvq (o:ki) (i:HL TB.den kan.hs):Prop:=ghs TB [] (kan.fill TB i) fun s=>WP TB k1r 135 0 (cB (cB (cB (cB (cB (cB (cB (cB (cB (cB (cB (cB (cB (cB (cB (cB (cB (cB (cB k4b))))))))))))))))))) .no s (retTQ TB k1r k1v k7q o)
structure k7o (o:ki) (i:HL TB.den kan.hs):Prop where
 h:kvq o i
def kyp (o:ki):=qM TB 0 kan (k7o o) (retTQ TB k1r k1v k7q o)
def k3x:Tm:=⟨[],[],[2,8,9,10,14,15,16,17,18],[.one (.d (.int .u64)),.one (.d (.int .u64)),.one (.d (.int .u64)),.one (.d (.int .u64)),.one (.d (.int .u64)),.one (.d (.int .u64)),.one (.d (.int .u64)),.one (.d (.int .u64)),.one (.d (.int .u64))],0⟩
def kbb:Tm:=⟨[],[],[2,8,9,10,14,15,16,17,18],[.one (.d (.int .u64)),.one (.d (.int .u64)),.one (.d (.int .u64)),.one (.d (.int .u64)),.one (.d (.int .u64)),.one (.d (.int .u64)),.one (.d (.int .u64)),.one (.d (.int .u64)),.one (.d (.int .u64))],0⟩
def kup (o:ki) (nx2:NX TB k3x) (i:HL TB.den kbb.hs):Prop:=ghs TB [] (kbb.fill TB i) fun s=>WP TB k1r 135 0 (cB (cA (cA (cA (cB (cB (cB (cB (cB (cB (cB (cB (cB (cB (cB (cB (cB (cB (cB (cB (cB (cB k4b)))))))))))))))))))))) .no s (qM TB 0 k3x nx2 (blockT TB 2 (kyp o)))
structure k7s (o:ki) (nx2:NX TB k3x) (i:HL TB.den kbb.hs):Prop where
 h:kup o nx2 i
def kcp (o:ki) (nx2:NX TB k3x) (i:HL TB.den k3x.hs):Prop:=WP TB k1r 135 0 (cA (cA (cA (cB (cB (cB (cB (cB (cB (cB (cB (cB (cB (cB (cB (cB (cB (cB (cB (cB (cB k4b))))))))))))))))))))) (.jn kbb (k7s o nx2) [] .no [] .no) (k3x.fill TB i) (qM TB 0 k3x nx2 (blockT TB 2 (kyp o)))
noncomputable def k1es (o:ki):An TB:= .lp [] k3x (kcp o) fun nx2=>(.jn kbb (k7s o nx2) [] .no [] .no)
noncomputable def k1ev (o:ki):An TB:= .jn kan (k7o o) [] (k1es o) [] .no
noncomputable def kyy (o:ki):An TB:= .nd [] .no [] (.nd [] .no [] (.nd [] .no [] (k1ev o)))
def kb2:Tm:=⟨[],[],[2,8,9,10,11,13,14,15],[.one (.d (.int .u64)),.one (.d (.int .u64)),.one (.d (.int .u64)),.one (.d (.int .u64)),.one (.d (.int .u64)),.one (.d (.int .u64)),.one (.d (.int .u64)),.one (.d (.int .u64))],0⟩
def kve (o:ki) (i:HL TB.den kb2.hs):Prop:=ghs TB [] (kb2.fill TB i) fun s=>WP TB k1r 135 0 (cB (cB (cB (cB (cB (cB (cB (cB (cB (cB (cB (cB (cB (cB (cB k4b))))))))))))))) (kyy o) s (retTQ TB k1r k1v k7q o)
structure k7l (o:ki) (i:HL TB.den kb2.hs):Prop where
 h:kve o i
def kyz (o:ki):=qM TB 0 kb2 (k7l o) (retTQ TB k1r k1v k7q o)
def k3o:Tm:=⟨[],[],[2,8,9,10,11,13,14,15,16],[.one (.d (.int .u64)),.one (.d (.int .u64)),.one (.d (.int .u64)),.one (.d (.int .u64)),.one (.d (.int .u64)),.one (.d (.int .u64)),.one (.d (.int .u64)),.one (.d (.int .u64)),.one (.d (.int .u64))],0⟩
def kaq:Tm:=⟨[],[],[2,8,9,10,11,13,14,15,16],[.one (.d (.int .u64)),.one (.d (.int .u64)),.one (.d (.int .u64)),.one (.d (.int .u64)),.one (.d (.int .u64)),.one (.d (.int .u64)),.one (.d (.int .u64)),.one (.d (.int .u64)),.one (.d (.int .u64))],0⟩
def kvt (o:ki) (nx1:NX TB k3o) (i:HL TB.den kaq.hs):Prop:=ghs TB [] (kaq.fill TB i) fun s=>WP TB k1r 135 0 (cB (cA (cA (cA (cB (cB (cB (cB (cB (cB (cB (cB (cB (cB (cB (cB (cB (cB k4b)))))))))))))))))) .no s (qM TB 0 k3o nx1 (blockT TB 0 (kyz o)))
structure k7r (o:ki) (nx1:NX TB k3o) (i:HL TB.den kaq.hs):Prop where
 h:kvt o nx1 i
def kcd (o:ki) (nx1:NX TB k3o) (i:HL TB.den k3o.hs):Prop:=WP TB k1r 135 0 (cA (cA (cA (cB (cB (cB (cB (cB (cB (cB (cB (cB (cB (cB (cB (cB (cB k4b))))))))))))))))) (.jn kaq (k7r o nx1) [] .no [] .no) (k3o.fill TB i) (qM TB 0 k3o nx1 (blockT TB 0 (kyz o)))
noncomputable def k1b7 (o:ki):An TB:= .lp [] k3o (kcd o) fun nx1=>(.jn kaq (k7r o nx1) [] .no [] .no)
noncomputable def k1bp (o:ki):An TB:= .jn kb2 (k7l o) [] (k1b7 o) [] (kyy o)
noncomputable def k1c4 (o:ki):An TB:= .nd [] .no [] (.nd [] .no [] (.nd [] .no [] (k1bp o)))
noncomputable def k1bu (o:ki):An TB:= .nd [] .no [] (.nd [] .no [] (.nd [] .no [] (k1c4 o)))
noncomputable def k1bk (o:ki):An TB:= .nd [] .no [] (.nd [] .no [] (.nd [] .no [] (k1bu o)))
noncomputable def k1cd (o:ki):An TB:= .nd [] .no [] (.nd [] .no [] (.nd [] .no [] (k1bk o)))
noncomputable def kyc (o:ki):An TB:= .nd [] .no [] (.nd [] .no [] (k1cd o))
def kjm (x:k117) (o:ki):Prop:=WPh TB k1r 135 0 k4b (kyc o) (k1v.st TB x) (retTQ TB k1r k1v k7q o)
theorem k1b0 (o:ki):OblH TB k1r 135 0 k4b (kyc o) (retTQ TB k1r k1v k7q o):=
 OblH.ofC (X:=((∀nx i,(kcd o) nx i=(kcd o) nx i)∧(∀nx1:NX TB k3o,((∀i,(k7r o nx1) i=kvt o nx1 i)∧True))∧(∀i,(k7l o) i=kve o i)∧(∀nx i,(kcp o) nx i=(kcp o) nx i)∧(∀nx2:NX TB k3x,((∀i,(k7s o nx2) i=kup o nx2 i)∧True))∧(∀i,(k7o o) i=kvq o i)∧True)) (by kernel_rfl) ⟨fun _ _=>rfl,fun _=>⟨fun _=>propext ⟨fun h=>h.1,fun h=>⟨h⟩⟩,trivial⟩,fun _=>propext ⟨fun h=>h.1,fun h=>⟨h⟩⟩,fun _ _=>rfl,fun _=>⟨fun _=>propext ⟨fun h=>h.1,fun h=>⟨h⟩⟩,trivial⟩,fun _=>propext ⟨fun h=>h.1,fun h=>⟨h⟩⟩,trivial⟩
theorem k1ba {x:k117} {o:ki} (h:kjm x o):k1v.Snd Try.prog x o:=
 Con.soundH (c:=k1v) (C:=k1r) TBok ⟨inf_ok,(all_cons kth all_nil),all_nil⟩ mix Try.func125 (show Try.f125.body=some k4b by kernel_rfl) (show Try.f125.ntmps=135 by kernel_rfl) (show Try.f125.results.toList=k7q by kernel_rfl) rfl h (k1b0 o)
theorem k1eq {p0:Int} {p1:Int} {p2:Int} {r0:Int} {r1:Int} (h:
(((p2==0)=true→
 False)∧
((p2==0)=false→
(decide (p2≤p0)=true→
 False)∧
(decide (p2≤p0)=false→
((p0==0)=true→
(p2≠0)∧(p2≠0)∧IntKind.u64.wrap (Int.tdiv p1 p2)=r0∧Int.tmod p1 p2=r1)∧
((p0==0)=false→
(0<p2∧p2<18446744073709551616)∧(0≤IntKind.u64.wrap (64-len64 p2))∧let v2:Int:=ishl .u64 p2 (IntKind.u64.wrap (64-len64 p2))
(0≤IntKind.u64.wrap (64-len64 p2))∧let v3:Int:=ishl .u64 p0 (IntKind.u64.wrap (64-len64 p2))
 let v4:Int:=IntKind.u64.wrap (64-(IntKind.u64.wrap (64-len64 p2)))
(0≤v4)∧(0≤IntKind.u64.wrap (64-len64 p2))∧let v5:Int:=ishl .u64 p1 (IntKind.u64.wrap (64-len64 p2))
(ishr .u64 v2 32≠0)∧let v6:Int:=IntKind.u64.wrap (Int.tdiv (ior .u64 v3 (ishr .u64 p1 v4)) (ishr .u64 v2 32))
 let v7:Int:=IntKind.u64.wrap (v6*(ishr .u64 v2 32))
 let v8:Int:=IntKind.u64.wrap ((ior .u64 v3 (ishr .u64 p1 v4))-v7)
 Md.Loop (v2,(IntKind.u64.wrap (64-len64 p2):Int),(ishr .u64 v2 32:Int),(iand .u64 v2 4294967295:Int),(ior .u64 v3 (ishr .u64 p1 v4):Int),(ishr .u64 v5 32:Int),(iand .u64 v5 4294967295:Int),v6,v8,()) (kcd (r0,r1,()))))))):kjm (p0,p1,p2,()) (r0,r1,()):=WPh.of_eq (by kernel_rfl) h
theorem k169 {r0:Int} {r1:Int} {nx1:NX TB k3o} {s2:Int} {s8:Int} {s9:Int} {s10:Int} {s11:Int} {s13:Int} {s14:Int} {s15:Int} {s16:Int} (h:
(let v11:Bool:=decide (4294967296≤(IntKind.u64.wrap (s16+s9)))
(v11=true→
 k7l (r0,r1,()) (s2,s8,s9,s10,s11,s13,s14,(IntKind.u64.wrap (s15-1):Int),()))∧
(v11=false→
 nx1 (s2,s8,s9,s10,s11,s13,s14,(IntKind.u64.wrap (s15-1):Int),(IntKind.u64.wrap (s16+s9):Int),())))):k7r (r0,r1,()) nx1 (s2,s8,s9,s10,s11,s13,s14,s15,s16,()):=⟨mpr_of (by kernel_rfl) h⟩
theorem k16c {r0:Int} {r1:Int} {s2:Int} {s8:Int} {s9:Int} {s10:Int} {s11:Int} {s13:Int} {s14:Int} {s15:Int} (h:
(let v12:Int:=IntKind.u64.wrap ((IntKind.u64.wrap (s11*4294967296))+s13)
 let v13:Int:=IntKind.u64.wrap (v12-(IntKind.u64.wrap (s15*s2)))
(s9≠0)∧let v14:Int:=IntKind.u64.wrap ((IntKind.u64.wrap (Int.tdiv v13 s9))*s9)
 Md.Loop (s2,s8,s9,s10,s14,s15,(IntKind.u64.wrap (v13-v14):Int),v13,(IntKind.u64.wrap (Int.tdiv v13 s9):Int),()) (kcp (r0,r1,())))):k7l (r0,r1,()) (s2,s8,s9,s10,s11,s13,s14,s15,()):=⟨mpr_of (by kernel_rfl) h⟩
theorem k17u {r0:Int} {r1:Int} {nx2:NX TB k3x} {s2:Int} {s8:Int} {s9:Int} {s10:Int} {s14:Int} {s15:Int} {s16:Int} {s17:Int} {s18:Int} (h:
(let v17:Bool:=decide (4294967296≤(IntKind.u64.wrap (s16+s9)))
(v17=true→
 k7o (r0,r1,()) (s2,s8,s14,s15,s17,(IntKind.u64.wrap (s18-1):Int),()))∧
(v17=false→
 nx2 (s2,s8,s9,s10,s14,s15,(IntKind.u64.wrap (s16+s9):Int),s17,(IntKind.u64.wrap (s18-1):Int),())))):k7s (r0,r1,()) nx2 (s2,s8,s9,s10,s14,s15,s16,s17,s18,()):=⟨mpr_of (by kernel_rfl) h⟩
theorem k16m {r0:Int} {r1:Int} {s2:Int} {s8:Int} {s14:Int} {s15:Int} {s17:Int} {s18:Int} (h:
(let v18:Int:=IntKind.u64.wrap ((IntKind.u64.wrap (s15*4294967296))+s18)
 let v19:Int:=IntKind.u64.wrap ((IntKind.u64.wrap (s17*4294967296))+s14)
 let v20:Int:=IntKind.u64.wrap (v19-(IntKind.u64.wrap (s18*s2)))
(0≤s8)∧v18=r0∧ishr .u64 v20 s8=r1)):k7o (r0,r1,()) (s2,s8,s14,s15,s17,s18,()):=⟨mpr_of (by kernel_rfl) h⟩
def kz2 (r0:Int) (r1:Int) (nx1:NX TB k3o) (k1:Int→Int→Prop) (s2:Int) (s8:Int) (s9:Int) (s10:Int) (s11:Int) (s13:Int) (s14:Int) (s15:Int) (s16:Int):Prop:=
(decide (4294967296≤s15)=true→
 k7r (r0,r1,()) nx1 (s2,s8,s9,s10,s11,s13,s14,s15,s16,()))∧
(decide (4294967296≤s15)=false→
 let v9:Int:=IntKind.u64.wrap ((IntKind.u64.wrap (4294967296*s16))+s13)
 let v10:Bool:=decide (v9<(IntKind.u64.wrap (s15*s10)))
(v10=true→
 k7r (r0,r1,()) nx1 (s2,s8,s9,s10,s11,s13,s14,s15,s16,()))∧
(v10=false→
 k7l (r0,r1,()) (s2,s8,s9,s10,s11,s13,s14,s15,())))
theorem k1cf {r0:Int} {r1:Int} {s2:Int} {s8:Int} {s9:Int} {s10:Int} {s11:Int} {s13:Int} {s14:Int} {s15:Int} {s16:Int} (inv:Int→Int→Prop) (μ:Int→Int→Nat) (h0:inv s15 s16) (hs:∀(s15:Int) (s16:Int),inv s15 s16→kz2 r0 r1 (fun s:Int×Int×Int×Int×Int×Int×Int×Int×Int×Unit=>((s.1=s2∧s.2.1=s8∧s.2.2.1=s9∧s.2.2.2.1=s10∧s.2.2.2.2.1=s11∧s.2.2.2.2.2.1=s13∧s.2.2.2.2.2.2.1=s14)∧inv s.2.2.2.2.2.2.2.1 s.2.2.2.2.2.2.2.2.1)∧μ s.2.2.2.2.2.2.2.1 s.2.2.2.2.2.2.2.2.1<μ s15 s16) (fun s15q s16q=>inv s15q s16q∧μ s15q s16q<μ s15 s16) s2 s8 s9 s10 s11 s13 s14 s15 s16):Md.Loop (s2,s8,s9,s10,s11,s13,s14,s15,s16,()) (kcd (r0,r1,())):=
 ⟨⟨fun s:Int×Int×Int×Int×Int×Int×Int×Int×Int×Unit=>(s.1=s2∧s.2.1=s8∧s.2.2.1=s9∧s.2.2.2.1=s10∧s.2.2.2.2.1=s11∧s.2.2.2.2.2.1=s13∧s.2.2.2.2.2.2.1=s14)∧inv s.2.2.2.2.2.2.2.1 s.2.2.2.2.2.2.2.2.1,fun s:Int×Int×Int×Int×Int×Int×Int×Int×Int×Unit=>μ s.2.2.2.2.2.2.2.1 s.2.2.2.2.2.2.2.2.1,⟨⟨rfl,rfl,rfl,rfl,rfl,rfl,rfl⟩,h0⟩,fun(s2p,s8p,s9p,s10p,s11p,s13p,s14p,s15p,s16p,()) ⟨⟨eq0,eq1,eq2,eq3,eq4,eq5,eq6⟩,hi⟩=>by
  have eq0:s2p=s2:=eq0;subst s2p;have eq1:s8p=s8:=eq1;subst s8p;have eq2:s9p=s9:=eq2;subst s9p;have eq3:s10p=s10:=eq3;subst s10p;have eq4:s11p=s11:=eq4;subst s11p;have eq5:s13p=s13:=eq5;subst s13p;have eq6:s14p=s14:=eq6;subst s14p;exact mpr_of (by kernel_rfl) ((congrArg (fun k=>kz2 r0 r1 (fun s:Int×Int×Int×Int×Int×Int×Int×Int×Int×Unit=>((s.1=s2∧s.2.1=s8∧s.2.2.1=s9∧s.2.2.2.1=s10∧s.2.2.2.2.1=s11∧s.2.2.2.2.2.1=s13∧s.2.2.2.2.2.2.1=s14)∧inv s.2.2.2.2.2.2.2.1 s.2.2.2.2.2.2.2.2.1)∧μ s.2.2.2.2.2.2.2.1 s.2.2.2.2.2.2.2.2.1<μ s15p s16p) k s2 s8 s9 s10 s11 s13 s14 s15p s16p) (lpk2 (⟨rfl,rfl,rfl,rfl,rfl,rfl,rfl⟩:s2=s2∧s8=s8∧s9=s9∧s10=s10∧s11=s11∧s13=s13∧s14=s14) inv (fun s15q s16q=>μ s15q s16q<μ s15p s16p))).mpr (hs s15p s16p hi))⟩⟩
def ky3 (r0:Int) (r1:Int) (nx2:NX TB k3x) (k2:Int→Int→Prop) (s2:Int) (s8:Int) (s9:Int) (s10:Int) (s14:Int) (s15:Int) (s17:Int) (s16:Int) (s18:Int):Prop:=
(decide (4294967296≤s18)=true→
 k7s (r0,r1,()) nx2 (s2,s8,s9,s10,s14,s15,s16,s17,s18,()))∧
(decide (4294967296≤s18)=false→
 let v15:Int:=IntKind.u64.wrap ((IntKind.u64.wrap (4294967296*s16))+s14)
 let v16:Bool:=decide (v15<(IntKind.u64.wrap (s18*s10)))
(v16=true→
 k7s (r0,r1,()) nx2 (s2,s8,s9,s10,s14,s15,s16,s17,s18,()))∧
(v16=false→
 k7o (r0,r1,()) (s2,s8,s14,s15,s17,s18,())))
theorem k1cn {r0:Int} {r1:Int} {s2:Int} {s8:Int} {s9:Int} {s10:Int} {s14:Int} {s15:Int} {s17:Int} {s16:Int} {s18:Int} (inv:Int→Int→Prop) (μ:Int→Int→Nat) (h0:inv s16 s18) (hs:∀(s16:Int) (s18:Int),inv s16 s18→ky3 r0 r1 (fun s:Int×Int×Int×Int×Int×Int×Int×Int×Int×Unit=>((s.1=s2∧s.2.1=s8∧s.2.2.1=s9∧s.2.2.2.1=s10∧s.2.2.2.2.1=s14∧s.2.2.2.2.2.1=s15∧s.2.2.2.2.2.2.2.1=s17)∧inv s.2.2.2.2.2.2.1 s.2.2.2.2.2.2.2.2.1)∧μ s.2.2.2.2.2.2.1 s.2.2.2.2.2.2.2.2.1<μ s16 s18) (fun s16q s18q=>inv s16q s18q∧μ s16q s18q<μ s16 s18) s2 s8 s9 s10 s14 s15 s17 s16 s18):Md.Loop (s2,s8,s9,s10,s14,s15,s16,s17,s18,()) (kcp (r0,r1,())):=
 ⟨⟨fun s:Int×Int×Int×Int×Int×Int×Int×Int×Int×Unit=>(s.1=s2∧s.2.1=s8∧s.2.2.1=s9∧s.2.2.2.1=s10∧s.2.2.2.2.1=s14∧s.2.2.2.2.2.1=s15∧s.2.2.2.2.2.2.2.1=s17)∧inv s.2.2.2.2.2.2.1 s.2.2.2.2.2.2.2.2.1,fun s:Int×Int×Int×Int×Int×Int×Int×Int×Int×Unit=>μ s.2.2.2.2.2.2.1 s.2.2.2.2.2.2.2.2.1,⟨⟨rfl,rfl,rfl,rfl,rfl,rfl,rfl⟩,h0⟩,fun(s2p,s8p,s9p,s10p,s14p,s15p,s16p,s17p,s18p,()) ⟨⟨eq0,eq1,eq2,eq3,eq4,eq5,eq6⟩,hi⟩=>by
  have eq0:s2p=s2:=eq0;subst s2p;have eq1:s8p=s8:=eq1;subst s8p;have eq2:s9p=s9:=eq2;subst s9p;have eq3:s10p=s10:=eq3;subst s10p;have eq4:s14p=s14:=eq4;subst s14p;have eq5:s15p=s15:=eq5;subst s15p;have eq6:s17p=s17:=eq6;subst s17p;exact mpr_of (by kernel_rfl) ((congrArg (fun k=>ky3 r0 r1 (fun s:Int×Int×Int×Int×Int×Int×Int×Int×Int×Unit=>((s.1=s2∧s.2.1=s8∧s.2.2.1=s9∧s.2.2.2.1=s10∧s.2.2.2.2.1=s14∧s.2.2.2.2.2.1=s15∧s.2.2.2.2.2.2.2.1=s17)∧inv s.2.2.2.2.2.2.1 s.2.2.2.2.2.2.2.2.1)∧μ s.2.2.2.2.2.2.1 s.2.2.2.2.2.2.2.2.1<μ s16p s18p) k s2 s8 s9 s10 s14 s15 s17 s16p s18p) (lpk2 (⟨rfl,rfl,rfl,rfl,rfl,rfl,rfl⟩:s2=s2∧s8=s8∧s9=s9∧s10=s10∧s14=s14∧s15=s15∧s17=s17) inv (fun s16q s18q=>μ s16q s18q<μ s16p s18p))).mpr (hs s16p s18p hi))⟩⟩
theorem bd125:Callable Try.prog 125:=⟨by rw[Try.func125];kernel_rfl,by rw[Try.func125];show some _≠some _;decide⟩
theorem k196 (p0:Int) (p1:Int) (p2:Int) (h:U64 p0∧U64 p1∧U64 p2∧p0<p2):kjm (p0,p1,p2,()) ((((p0*18446744073709551616+p1)/p2):Int),(((p0*18446744073709551616+p1)%p2):Int),()):=by
 obtain⟨h0,h1,h2,hlt⟩:=h
 refine k1eq ⟨fun e=> ?_,fun _=>⟨fun e=> ?_,fun _=>⟨fun e=> ?_,fun _=> ?_⟩⟩⟩
 ·simp at e;omega
 ·simp at e;omega
 ·have e:p0=0:=by simpa using e
  subst e
  rw[tdiv_nn _ _ h1.1,tmod_nn _ _ h1.1,Int.zero_mul,Int.zero_add]
  have:=Int.ediv_le_self p2 h1.1
  have:=Int.ediv_nonneg h1.1 h2.1
  exact⟨by omega,by omega,wu _ (by omega) (by have:=Int.ediv_le_self p2 h1.1;omega),rfl⟩
 obtain⟨s,e,hs,n1,n2⟩:=k18f p2 ⟨by omega,h2.2⟩
 have ew:IntKind.u64.wrap (64-len64 p2)=(s:Int):=by rw[e,wu _ (by omega) (by omega)]
 have ew3:IntKind.u64.wrap (64-(s:Int))=((64-s:Nat):Int):=by rw[wu _ (by omega) (by omega)];omega
 have hp:0<2^s:=Nat.two_pow_pos s
 have hp' :0<2^(64-s):=Nat.two_pow_pos _
 have hpp:2^s*2^(64-s)=18446744073709551616:=by rw[←Nat.pow_add,show s+(64-s)=64 by omega]
 have hP:((2^s:Nat):Int)*((2^(64-s):Nat):Int)=18446744073709551616:=by rw[←Int.natCast_mul,hpp];rfl
 have il:∀a:Int,ishl .u64 a (s:Int)=a*((2^s:Nat):Int)%18446744073709551616:=fun a=>by rw[k1od,Int.toNat_natCast,Nat.min_eq_left (by omega)]
 have ir:∀a:Int,ishr .u64 a (s:Int)=a/((2^s:Nat):Int):=fun a=>by rw[kew,Int.toNat_natCast,show min s IntKind.u64.bits=s from Nat.min_eq_left (by show s≤64;omega)]
 have ir' :∀a:Int,ishr .u64 a ((64-s:Nat):Int)=a/((2^(64-s):Nat):Int):=fun a=>by rw[kew,Int.toNat_natCast,show min (64-s) IntKind.u64.bits=64-s from Nat.min_eq_left (by show 64-s≤64;omega)]
 have hor:∀c:Int,0≤c→c<((2^s:Nat):Int)→p0*((2^s:Nat):Int)+c<18446744073709551616→ior .u64 (p0*((2^s:Nat):Int)) c=p0*((2^s:Nat):Int)+c:=by
  intro c hc0 hc1 hc2
  obtain⟨a,rfl⟩:=Int.eq_ofNat_of_zero_le h0.1
  obtain⟨c,rfl⟩:=Int.eq_ofNat_of_zero_le hc0
  have key:=ior_add' c a s (by omega)
  rw[Int.mul_comm,←Int.natCast_mul]at hc2 ⊢
  rw[key (by omega)]
  omega
 simp only[ew,ew3,il,ir',ishr32]
 have hP'0:(0:Int)<((2^(64-s):Nat):Int):=by omega
 generalize hPd:((2^s:Nat):Int)=P at *
 generalize hPd' :((2^(64-s):Nat):Int)=P' at *
 have hP0:0<P:=by omega
 have hlo:p1/P' <P:=Int.ediv_lt_of_lt_mul hP'0 (by omega)
 have hlo0:0≤p1/P' :=Int.ediv_nonneg h1.1 (by omega)
 have hUv:p0*P+P≤p2*P:=by
  have:(p0+1)*P≤p2*P:=Int.mul_le_mul_of_nonneg_right (by omega) (by omega)
  grind
 have hUp:0≤p0*P:=Int.mul_nonneg h0.1 (by omega)
 rw[Int.emod_eq_of_lt (a:=p2*P) (by omega) n2,Int.emod_eq_of_lt (a:=p0*P) hUp (by omega),hor _ hlo0 hlo (by omega)]
 have hN:(p0*18446744073709551616+p1)*P=(p0*P+p1/P')*18446744073709551616+(p1*P%18446744073709551616/4294967296)*4294967296+p1*P%18446744073709551616%4294967296:=by
  have h5:p1*P/18446744073709551616=p1/P' :=by
   rw[←hP,Int.mul_comm p1 P,Int.mul_ediv_mul_of_pos _ _ hP0]
  have h6:=Int.emod_add_mul_ediv (p1*P) 18446744073709551616
  rw[h5]at h6
  have:(p0*18446744073709551616+p1)*P=p0*P*18446744073709551616+p1*P:=by grind
  rw[this]
  generalize p1*P=w at *
  generalize p0*P=w' at *
  omega
 have hlb:0≤p1*P%18446744073709551616∧p1*P%18446744073709551616<18446744073709551616:=⟨Int.emod_nonneg _ (by omega),Int.emod_lt_of_pos _ (by omega)⟩
 generalize hUd:p0*P+p1/P' =U at *
 generalize hLd:p1*P%18446744073709551616=L at *
 have hVd:p2*P/4294967296*4294967296+p2*P%4294967296=p2*P:=by omega
 have hw:∀{Q R V' :Int},R-Q=V'→0≤V'→V' <18446744073709551616→∀A,R=A*4294967296+(R-A*4294967296)→IntKind.u64.wrap (IntKind.u64.wrap (IntKind.u64.wrap (A*4294967296)+(R-A*4294967296))-IntKind.u64.wrap Q)=V' :=by
  intro Q R V' hv h0 h1 A hA
  simp only[u64w]
  omega
 rw[kgg (p2*P) (by omega),kgg L (by omega)]
 generalize ha:p2*P/4294967296=a at *
 generalize hb:p2*P%4294967296=b at *
 have hQ1:Half U (L/4294967296) a b ((U*4294967296+L/4294967296)/(a*4294967296+b)):=⟨by omega,by omega,by omega,by omega,by omega,rfl⟩
 have hr1:=hQ1.rest
 have hq1:=hQ1.q
 generalize (U*4294967296+L/4294967296)/(a*4294967296+b)=Q1 at *
 generalize (U*4294967296+L/4294967296)%(a*4294967296+b)=R1 at *
 have hQ0:Half R1 (L%4294967296) a b ((R1*4294967296+L%4294967296)/(a*4294967296+b)):=⟨by omega,by omega,by omega,by omega,by omega,rfl⟩
 have hr0:=hQ0.rest
 have hq0:=hQ0.q
 generalize (R1*4294967296+L%4294967296)/(a*4294967296+b)=Q0 at *
 generalize (R1*4294967296+L%4294967296)%(a*4294967296+b)=R0 at *
 rw[hVd]at hr1 hr0 hq1 hq0
 have fin:=k1mc hP0 (by omega:0<p2) hN hr1.1 hr0.1 ⟨hr0.2.1,hr0.2.2⟩
 have j4:k7o (((p0*18446744073709551616+p1)/p2:Int),((p0*18446744073709551616+p1)%p2:Int),()) ((p2*P:Int),(s:Int),(L%4294967296:Int),Q1,R1,Q0,()):=by
  refine k16m ⟨by omega,?_,?_⟩
  ·rw[wu (Q1*4294967296) (by omega) (by omega),wu _ (by omega) (by omega)]
   exact fin.1
  ·have:=hw (Q:=Q0*(p2*P)) (R:=R1*4294967296+L%4294967296) hr0.1 hr0.2.1 (by omega) R1 (by omega)
   rw[show R1*4294967296+L%4294967296-R1*4294967296=L%4294967296 by omega]at this
   rw[this,ir]
   exact fin.2
 have aux:∀{U x Q q r:Int},Half U x a b Q→U<18446744073709551616→q*a+r=U→Q≤q→0≤r→q≤8589934592:=by
  intro U x Q q r hh hU e hQ hr
  have h1:=hh.ha
  refine Int.le_of_lt_add_one (Int.lt_of_mul_lt_mul_right (a:=a) ?_ (by omega))
  generalize q*a=w at *
  omega
 have init:∀{U x Q:Int},Half U x a b Q→Q≤U/a:=by
  intro U x Q hh
  have h1:=hh.ha
  have h2:=hh.q
  have h3:=hh.hb
  have h4:=hh.hx
  refine(Int.le_ediv_iff_mul_le (by omega)).2 ?_
  have h5:Q*(a*4294967296+b)=Q*a*4294967296+Q*b:=by grind
  have h6:0≤Q*b:=Int.mul_nonneg h2.1 h3.1
  generalize Q*a=w at *
  omega
 have j2:k7l (((p0*18446744073709551616+p1)/p2:Int),((p0*18446744073709551616+p1)%p2:Int),()) ((p2*P:Int),(s:Int),a,b,U,(L/4294967296:Int),(L%4294967296:Int),Q1,()):=by
  have e1:=hw (Q:=Q1*(p2*P)) (R:=U*4294967296+L/4294967296) hr1.1 hr1.2.1 (by omega) U (by omega)
  rw[show U*4294967296+L/4294967296-U*4294967296=L/4294967296 by omega]at e1
  refine k16c ?_
  simp only[e1]
  have hd:=Int.emod_add_mul_ediv R1 a
  have hd1:=Int.emod_nonneg R1 (by omega:a≠0)
  have hd2:=Int.emod_lt_of_pos R1 (by omega:0<a)
  have hd3:0≤R1/a:=Int.ediv_nonneg hr1.2.1 (by omega)
  rw[Int.mul_comm]at hd
  have hd5:0≤R1/a*a:=Int.mul_nonneg hd3 (by omega)
  have hd4:=aux hQ0 (by omega) (q:=R1/a) (r:=R1%a) (by omega) (init hQ0) hd1
  rw[tdiv_nn _ _ hr1.2.1,wu (R1/a) (by omega) (by omega),wu (R1/a*a) (by omega) (by omega),show R1-R1/a*a=R1%a by omega,wu (R1%a) (by omega) (by omega)]
  refine⟨by omega,?_⟩
  refine k1cn (fun r q=>q*a+r=R1∧Q0≤q∧0≤r∧r<4294967296) (fun r q=>q.toNat) ⟨by omega,init hQ0,hd1,by omega⟩ ?_
  rintro r q ⟨g1,g2,g3,g4⟩
  have g5:=aux hQ0 (by omega) g1 g2 g3
  have j3:∀nx,(Q0≤q-1)→(r+a<4294967296→nx ((p2*P:Int),(s:Int),a,b,(L%4294967296:Int),Q1,(r+a:Int),R1,(q-1:Int),()))→k7s (((p0*18446744073709551616+p1)/p2:Int),((p0*18446744073709551616+p1)%p2:Int),()) nx ((p2*P:Int),(s:Int),a,b,(L%4294967296:Int),Q1,r,R1,q,()):=by
   intro nx hq hnx
   refine k17u ?_
   rw[wu (q-1) (by omega) (by omega),wu (r+a) (by omega) (by omega)]
   refine⟨fun hd=> ?_,fun hd=>hnx (by simpa using hd)⟩
   have hd:4294967296≤r+a:=of_decide_eq_true hd
   rw[hQ0.done (q:=q-1) (r:=r+a) (by grind) hq hd]
   exact j4
  have nxt:Q0≤q-1→r+a<4294967296→((q-1)*a+(r+a)=R1∧Q0≤q-1∧0≤r+a∧r+a<4294967296)∧(q-1).toNat<q.toNat:=fun h1 h2=>⟨⟨by grind,h1,by omega,h2⟩,by omega⟩
  refine⟨fun hd=>j3 _ (hQ0.down g1 (.inl (of_decide_eq_true hd))) fun h1=> ?_,fun hd=> ?_⟩
  ·obtain⟨n1,n2⟩:=nxt (hQ0.down g1 (.inl (of_decide_eq_true hd))) h1
   exact⟨⟨⟨rfl,rfl,rfl,rfl,rfl,rfl,rfl⟩,n1⟩,n2⟩
  ·have hd:q<4294967296:=by simpa using hd
   have hqb:0≤q*b∧q*b<18446744073709551616:=by
    have:=hQ0.hb
    have h1:q*b≤4294967295*4294967295:=Int.mul_le_mul (by omega) (by omega) (by omega) (by omega)
    exact⟨Int.mul_nonneg (by omega) (by omega),by omega⟩
   have:=hQ0.hx
   rw[wu (q*b) (by omega) (by omega),wu (4294967296*r) (by omega) (by omega),wu (4294967296*r+L%4294967296) (by omega) (by omega)]
   refine⟨fun ht=> ?_,fun ht=> ?_⟩
   ·have ht:4294967296*r+L%4294967296<q*b:=of_decide_eq_true ht
    have hdn:=hQ0.down g1 (.inr (by omega))
    refine j3 _ hdn fun h1=> ?_
    obtain⟨n1,n2⟩:=nxt hdn h1
    exact⟨⟨⟨rfl,rfl,rfl,rfl,rfl,rfl,rfl⟩,n1⟩,n2⟩
   ·have ht:¬(4294967296*r+L%4294967296<q*b):=of_decide_eq_false ht
    rw[hQ0.exit g1 g2 (by omega)]
    exact j4
 have hd:=Int.emod_add_mul_ediv U a
 have hd1:=Int.emod_nonneg U (by omega:a≠0)
 have hd2:=Int.emod_lt_of_pos U (by omega:0<a)
 have hd3:0≤U/a:=Int.ediv_nonneg (by omega) (by omega)
 rw[Int.mul_comm]at hd
 have hd5:0≤U/a*a:=Int.mul_nonneg hd3 (by omega)
 have hd4:=aux hQ1 (by omega) (q:=U/a) (r:=U%a) (by omega) (init hQ1) hd1
 rw[tdiv_nn _ _ (by omega),wu (U/a) (by omega) (by omega),wu (U/a*a) (by omega) (by omega),show U-U/a*a=U%a by omega,wu (U%a) (by omega) (by omega)]
 refine⟨⟨by omega,h2.2⟩,by omega,by omega,by omega,by omega,by omega,?_⟩
 refine k1cf (fun q r=>q*a+r=U∧Q1≤q∧0≤r∧r<4294967296) (fun q r=>q.toNat) ⟨by omega,init hQ1,hd1,by omega⟩ ?_
 rintro q r ⟨g1,g2,g3,g4⟩
 have g5:=aux hQ1 (by omega) g1 g2 g3
 have j1:∀nx,(Q1≤q-1)→(r+a<4294967296→nx ((p2*P:Int),(s:Int),a,b,U,(L/4294967296:Int),(L%4294967296:Int),(q-1:Int),(r+a:Int),()))→k7r (((p0*18446744073709551616+p1)/p2:Int),((p0*18446744073709551616+p1)%p2:Int),()) nx ((p2*P:Int),(s:Int),a,b,U,(L/4294967296:Int),(L%4294967296:Int),q,r,()):=by
  intro nx hq hnx
  refine k169 ?_
  rw[wu (q-1) (by omega) (by omega),wu (r+a) (by omega) (by omega)]
  refine⟨fun hd=> ?_,fun hd=>hnx (by simpa using hd)⟩
  have hd:4294967296≤r+a:=of_decide_eq_true hd
  rw[hQ1.done (q:=q-1) (r:=r+a) (by grind) hq hd]
  exact j2
 have nxt:Q1≤q-1→r+a<4294967296→((q-1)*a+(r+a)=U∧Q1≤q-1∧0≤r+a∧r+a<4294967296)∧(q-1).toNat<q.toNat:=fun h1 h2=>⟨⟨by grind,h1,by omega,h2⟩,by omega⟩
 refine⟨fun hd=>j1 _ (hQ1.down g1 (.inl (of_decide_eq_true hd))) fun h1=> ?_,fun hd=> ?_⟩
 ·obtain⟨n1,n2⟩:=nxt (hQ1.down g1 (.inl (of_decide_eq_true hd))) h1
  exact⟨⟨⟨rfl,rfl,rfl,rfl,rfl,rfl,rfl⟩,n1⟩,n2⟩
 ·have hd:q<4294967296:=by simpa using hd
  have hqb:0≤q*b∧q*b<18446744073709551616:=by
   have:=hQ1.hb
   have h1:q*b≤4294967295*4294967295:=Int.mul_le_mul (by omega) (by omega) (by omega) (by omega)
   exact⟨Int.mul_nonneg (by omega) (by omega),by omega⟩
  have:=hQ1.hx
  rw[wu (q*b) (by omega) (by omega),wu (4294967296*r) (by omega) (by omega),wu (4294967296*r+L/4294967296) (by omega) (by omega)]
  refine⟨fun ht=> ?_,fun ht=> ?_⟩
  ·have ht:4294967296*r+L/4294967296<q*b:=of_decide_eq_true ht
   have hdn:=hQ1.down g1 (.inr (by omega))
   refine j1 _ hdn fun h1=> ?_
   obtain⟨n1,n2⟩:=nxt hdn h1
   exact⟨⟨⟨rfl,rfl,rfl,rfl,rfl,rfl,rfl⟩,n1⟩,n2⟩
  ·have ht:¬(4294967296*r+L/4294967296<q*b):=of_decide_eq_false ht
   rw[hQ1.exit g1 g2 (by omega)]
   exact j2
noncomputable def klr:Con TB.den:=k1v.fnR (fun x=>(fun(p0:Int) (p1:Int) (p2:Int)=>U64 p0∧U64 p1∧U64 p2∧p0<p2) x.1 x.2.1 x.2.2.1) fun x=>((fun(p0:Int) (p1:Int) (p2:Int)=>(((p0*18446744073709551616+p1)/p2):Int)) x.1 x.2.1 x.2.2.1,(fun(p0:Int) (p1:Int) (p2:Int)=>(((p0*18446744073709551616+p1)%p2):Int)) x.1 x.2.1 x.2.2.1,())
theorem kz1:klr.Ok Try.prog TB:=Con.ok_fn k1v bd125 fun x h=>k1ba (k196 x.1 x.2.1 x.2.2.1 h)
def k3t:Con TB.den:=Con.mk0 124 [.one (.d (.int .u64)),.one (.d (.int .u64))] [] (.tup [.one (.d (.int .u64)),.one (.d (.int .u64))]) []
abbrev k136:=HL TB.den (hsT k3t.ins (hsOs k3t.pre))
abbrev kii:=HL TB.den (hsV k3t.res (hsOs k3t.post))
noncomputable def kcb:Cx TB:=⟨inf,[],[],4,[]⟩
noncomputable def kj6:Code:=Try.f124.body.getD .skip
noncomputable def knk:List ResultVar:=Try.f124.results.toList
noncomputable def kxu (o:kii):An TB:= .no
def kit (x:k136) (o:kii):Prop:=WPh TB kcb 51 0 kj6 (kxu o) (k3t.st TB x) (retTQ TB kcb k3t knk o)
theorem k1az (o:kii):OblH TB kcb 51 0 kj6 (kxu o) (retTQ TB kcb k3t knk o):=
 OblH.ofC (X:=True) (by kernel_rfl) trivial
theorem k1bx {x:k136} {o:kii} (h:kit x o):k3t.Snd Try.prog x o:=
 Con.soundH (c:=k3t) (C:=kcb) TBok ⟨inf_ok,all_nil,all_nil⟩ mix Try.func124 (show Try.f124.body=some kj6 by kernel_rfl) (show Try.f124.ntmps=51 by kernel_rfl) (show Try.f124.results.toList=knk by kernel_rfl) rfl h (k1az o)
theorem k1dy {p0:Int} {p1:Int} {r0:Int} {r1:Int} (h:
(let v2:Int:=IntKind.u64.wrap ((iand .u64 p0 4294967295)*(iand .u64 p1 4294967295))
 let v3:Int:=IntKind.u64.wrap ((ishr .u64 p0 32)*(iand .u64 p1 4294967295))
 let v4:Int:=IntKind.u64.wrap (v3+(ishr .u64 v2 32))
 let v5:Int:=IntKind.u64.wrap ((iand .u64 p0 4294967295)*(ishr .u64 p1 32))
 let v6:Int:=IntKind.u64.wrap ((iand .u64 v4 4294967295)+v5)
 let v7:Int:=IntKind.u64.wrap ((ishr .u64 p0 32)*(ishr .u64 p1 32))
 let v8:Int:=IntKind.u64.wrap (v7+(ishr .u64 v4 32))
 let v9:Int:=IntKind.u64.wrap (v8+(ishr .u64 v6 32))
 v9=r0∧IntKind.u64.wrap (p0*p1)=r1)):kit (p0,p1,()) (r0,r1,()):=WPh.of_eq (by kernel_rfl) h
theorem bd124:Callable Try.prog 124:=⟨by rw[Try.func124];kernel_rfl,by rw[Try.func124];show some _≠some _;decide⟩
theorem k18a (p0:Int) (p1:Int) (h:U64 p0∧U64 p1):kit (p0,p1,()) (((p0*p1/18446744073709551616):Int),((p0*p1%18446744073709551616):Int),()):=by
 obtain⟨h0,h1⟩:=h
 have k:=k1oq p0 p1 h0 h1
 refine k1dy ?_
 simp only[kgg p0 h0,kgg p1 h1,ishr32]
 obtain⟨e,k1,k2,k3,k4,k5,k6,k7,k8⟩:=k
 rw[←e]
 rw[wu (p0%4294967296*(p1%4294967296)) (by omega) (by omega),wu (p0/4294967296*(p1%4294967296)) (by omega) (by omega),wu (p0%4294967296*(p1/4294967296)) (by omega) (by omega),wu (p0/4294967296*(p1/4294967296)) (by omega) (by omega)]
 generalize p0%4294967296*(p1%4294967296)=a at *
 generalize p0/4294967296*(p1%4294967296)=b at *
 generalize p0%4294967296*(p1/4294967296)=c at *
 generalize p0/4294967296*(p1/4294967296)=d at *
 rw[wu (b+a/4294967296) (by omega) (by omega),kgg _ (by omega)]
 simp only[u64w]
 refine⟨?_,trivial⟩
 omega
noncomputable def klv:Con TB.den:=k3t.fnR (fun x=>(fun(p0:Int) (p1:Int)=>U64 p0∧U64 p1) x.1 x.2.1) fun x=>((fun(p0:Int) (p1:Int)=>((p0*p1/18446744073709551616):Int)) x.1 x.2.1,(fun(p0:Int) (p1:Int)=>((p0*p1%18446744073709551616):Int)) x.1 x.2.1,())
theorem kyx:klv.Ok Try.prog TB:=Con.ok_fn k3t bd124 fun x h=>k1bx (k18a x.1 x.2.1 h)
def k4j:Con TB.den:=Con.mk0 119 [.agg [.d (.int .u64)],.one (.d (.int .u64)),.one (.d (.int .u64))] [] (.one (.one (.d (.int .u64)))) []
abbrev k15f:=HL TB.den (hsT k4j.ins (hsOs k4j.pre))
abbrev kml:=HL TB.den (hsV k4j.res (hsOs k4j.post))
noncomputable def ke1:Cx TB:=⟨inf,[klv,klr],[],4,[]⟩
noncomputable def kln:Code:=Try.f119.body.getD .skip
noncomputable def kr5:List ResultVar:=Try.f119.results.toList
noncomputable def k11t (o:kml):An TB:= .no
def kly (x:k15f) (o:kml):Prop:=WPh TB ke1 26 0 kln (k11t o) (k4j.st TB x) (retTQ TB ke1 k4j kr5 o)
theorem k1f8 (o:kml):OblH TB ke1 26 0 kln (k11t o) (retTQ TB ke1 k4j kr5 o):=
 OblH.ofC (X:=True) (by kernel_rfl) trivial
theorem k1eu {x:k15f} {o:kml} (h:kly x o):k4j.Snd Try.prog x o:=
 Con.soundH (c:=k4j) (C:=ke1) TBok ⟨inf_ok,(all_cons kyx (all_cons kz1 all_nil)),all_nil⟩ mix Try.func119 (show Try.f119.body=some kln by kernel_rfl) (show Try.f119.ntmps=26 by kernel_rfl) (show Try.f119.results.toList=kr5 by kernel_rfl) rfl h (k1f8 o)
theorem k1im {p0:TField} {p1:Int} {p2:Int} {r0:Int} (h:
((U64 p1∧U64 p2)∧(U64 (p1*p2/18446744073709551616)∧U64 (p1*p2%18446744073709551616)∧U64 p0.P∧(p1*p2/18446744073709551616)<p0.P)∧let r1:Int:=(((p1*p2/18446744073709551616)*18446744073709551616+(p1*p2%18446744073709551616))/p0.P)
 let r2:Int:=(((p1*p2/18446744073709551616)*18446744073709551616+(p1*p2%18446744073709551616))%p0.P)
 r2=r0)):kly (p0.P,p1,p2,()) (r0,()):=WPh.of_eq (by kernel_rfl) h
theorem bd119:Callable Try.prog 119:=⟨by rw[Try.func119];kernel_rfl,by rw[Try.func119];show some _≠some _;decide⟩
theorem k1bq (p0:TField) (p1:Int) (p2:Int) (h:p0.P=18446744069414584321∧(0≤p1∧p1<18446744069414584321)∧(0≤p2∧p2<18446744069414584321)):kly (p0.P,p1,p2,()) (((p1*p2%18446744069414584321):Int),()):=by
 obtain⟨hP,h1,h2⟩:=h
 have h3:0≤p1*p2:=Int.mul_nonneg h1.1 h2.1
 have h4:p1*p2≤18446744069414584320*18446744069414584320:=Int.mul_le_mul (by omega) (by omega) h2.1 (by omega)
 refine k1im ⟨⟨by omega,by omega⟩,?_⟩
 simp only[hP]
 generalize p1*p2=m at *
 refine⟨⟨⟨by omega,by omega⟩,⟨by omega,by omega⟩,by omega,by omega⟩,?_⟩
 rw[show m/18446744073709551616*18446744073709551616+m%18446744073709551616=m by omega]
noncomputable def ko3:Con TB.den:=k4j.fnR (fun x=>(fun(p0:TField) (p1:Int) (p2:Int)=>p0.P=18446744069414584321∧(0≤p1∧p1<18446744069414584321)∧(0≤p2∧p2<18446744069414584321)) (TField.mk x.1) x.2.1 x.2.2.1) fun x=>((fun(p0:TField) (p1:Int) (p2:Int)=>((p1*p2%18446744069414584321):Int)) (TField.mk x.1) x.2.1 x.2.2.1,())
theorem k12b:ko3.Ok Try.prog TB:=Con.ok_fn k4j bd119 fun x h=>k1eu (k1bq (TField.mk x.1) x.2.1 x.2.2.1 h)
end Go.Proofs.Ytpffhgljgpjenaa
end
