/- Parts of the proofs, merged by a program. -/
import Derived.Test.YtfiecdeonopcmaaGreatDoorA1
set_option maxRecDepth 100000
set_option linter.all false
noncomputable section
namespace Go.Bv
open Go.RowKit
def D.isKey(d:TypeDesc):D->Prop
 |.int k _=>d=.int k|.str _=>d=.string|.bool _=>d=.bool|_=>False
def D.keq:D->D->Bool
 |.int k a,.int B b=>decide (k=B)&&a==b|.str a,.str b=>a==b|.bool a,.bool b=>a==b|_,_=>false
def mpos(k:D):List (D×V)->On
 |[]=>none|e::r=>bif k.keq e.1 then some 0 else(mpos k r).map (·+1)
def mget(es:List (D×V))(k:D):Option V:=match mpos k es with
 |some j=>(es[j]?).map (·.2)|none=>none
def mset(es:List (D×V))(k:D)(v:V):List (D×V):=match mpos k es with
 |some j=>es.set j (k,v)|none=>es++[(k,v)]
def mdel(es:List (D×V))(k:D):List (D×V):=match mpos k es with
 |some j=>es.eraseIdx j|none=>es
def zIs(P:Program)(B:TypeId)(z:V):Prop:=∃i v,P.info? B=some i/\i.zero=some v/\le0 (V.ofK v) z
def zV(P:Program)(B:TypeId):Option V:=(P.info? B).bind λi=>i.zero.map V.ofK
theorem zIs_mk{P:Program}{B:TypeId}{z0 z:V}(h:zV P B=some z0)(F:le0 z0 z):zIs P B z:=by unfold zV at h;cases hi:P.info? B with
 |none=>grind|some i=>rw[hi]at h;simp at h;obtain⟨v,h1,rfl⟩:=h;exact⟨i,v,hi,h1,F⟩
def mapT(P:Program)(t B:TypeId)(d:TypeDesc):Prop:=∃kt,P.underlying t=some (.map kt B)/\P.underlying kt=some d
def mapOf(h:Hp)(x:V)(es:List (D×V)):Prop:=(∃id,x=.mp id/\h.get id=some (.map (.m es)))∨x=.k (.map none)/\es=[]
def notTupV:V->Prop
 |.tup _=>False|_=>True
def lookV(P:Program)(h:Hp)(ev:Operand->V)(t:TypeId)(x i:Operand)(c:Bool)(r:V):Prop:=∃et d k es z,mapT P t et d/\ev i=.d k/\k.isKey d/\mapOf h (ev x) es/\(∀e∈es,e.1.isKey d)/\zIs P et z/\r=bif c then .tup [(mget es k).getD z,.d (.bool (mget es k).isSome)]else(mget es k).getD z
def AOpX(P:Program)(_:Nat)(o:Oper)(K:St->Prop)(s:St):Prop:=match o.op with
 |.makeMap t r=>(match r with
   |none=>True|some x=>(∃kt et,P.underlying t=some (.map kt et))/\∃q n,s.ev x=.d (.int q n))/\K (St.put ⟨s.sl,(s.nx,.map (.m []))::s.h,s.nx+1⟩ o.dst (.mp s.nx))|.lookup t x i c=>∃r,lookV P s.h s.ev t x i c r/\K (s.put o.dst r)|.mapUpdate t m k v=>noIt s.h/\∃et d kd es id,mapT P t et d/\s.ev k=.d kd/\kd.isKey d/\s.ev m=.mp id/\s.h.get id=some (.map (.m es))/\(∀e∈es,e.1.isKey d)/\∃y,le0 (s.ev v) y/\notTupV y/\K (St.put ⟨s.sl,(id,.map (.m (mset es kd y)))::s.h,s.nx⟩ o.dst .any)|.range t x=>∃et d es id,mapT P t et d/\s.ev x=.mp id/\s.h.get id=some (.map (.m es))/\K (St.put ⟨s.sl,(s.nx,.map (.it id es none))::s.h,s.nx+1⟩ o.dst (.ptr s.nx 0))|.next x b=>b=false/\∃id mid es rest last,s.ev x=.ptr id 0/\s.h.get id=some (.map (.it mid rest last))/\s.h.get mid=some (.map (.m es))/\(rest=[]->K (St.put ⟨s.sl,(id,.dead)::s.h,s.nx⟩ o.dst (.tup [.d (.bool false)])))/\∀j e,rest[j]?=some e->K (St.put ⟨s.sl,(id,.map (.it mid (rest.eraseIdx j) (some e)))::s.h,s.nx⟩ o.dst (.tup [.d (.bool true),.d e.1,e.2]))|.entry x=>∃id mid es rest e,s.ev x=.ptr id 0/\s.h.get id=some (.map (.it mid rest (some e)))/\s.h.get mid=some (.map (.m es))/\K (s.put o.dst (.tup [.d e.1,e.2]))|.call c=>match c.callee with
  |.builtin .delete=>(c.args.size=2/\c.argTypes.size=2)/\noIt s.h/\∃et d kd es id,mapT P (c.argTypes.getD 0 0) et d/\s.ev (c.args.getD 1 (.const .nilIface))=.d kd/\kd.isKey d/\s.ev (c.args.getD 0 (.const .nilIface))=.mp id/\s.h.get id=some (.map (.m es))/\(∀e∈es,e.1.isKey d)/\K (St.put ⟨s.sl,(id,.map (.m (mdel es kd)))::s.h,s.nx⟩ o.dst .any)|.builtin .len=>(c.args.size=1/\c.argTypes.size=1)/\∃et d es id,mapT P (c.argTypes.getD 0 0) et d/\s.ev (c.args.getD 0 (.const .nilIface))=.mp id/\s.h.get id=some (.map (.m es))/\K (s.put o.dst (.d (.int .i64 es.length)))|_=>False
 |_=>False
section
variable{P:Program}{T:Tk}{G0 G:Gh}{w0 w:World}{N:Nat}{s:St}{a:Act}{h:Hp}{nx:Nat}
theorem key_rep{m:Nat->Nat}{v:Value}{x:D}{d:TypeDesc}(F:RepD m w v x)(B:x.isKey d):MapKept.IsKey d v:=by cases F with
 |int k n=>subst B;rfl|bool b=>subst B;trivial|str s=>subst B;trivial|nil=>exact B.elim|slice=>exact B.elim
theorem kwk{m:Nat->Nat}{u v:Value}{x y:D}{d:TypeDesc}(hu:RepD m w u x)(hv:RepD m w v y)(hx:x.isKey d)(hy:y.isKey d):Instr.sameNow d u v=some (x.keq y)/\(x.keq y=true->u=v/\x=y):=by cases hu with
  |int k n=>subst hx;cases hv with
    |int k' n'=>injection hy with hy;subst hy;refine⟨by simp[Instr.sameNow,D.keq],fun h=>?_⟩;simp[D.keq]at h;grind|bool=>cases show TypeDesc.int k=.bool from hy|str=>cases show TypeDesc.int k=.string from hy|nil=>exact hy.elim|slice=>exact hy.elim
  |bool b=>subst hx;cases hv with
    |int k' n'=>cases show TypeDesc.bool=.int k' from hy
    | bool b' => exact ⟨rfl, fun h => by have h:b=b':=by simpa[D.keq]using h
                                         grind⟩|str=>cases show TypeDesc.bool=.string from hy|nil=>exact hy.elim|slice=>exact hy.elim
  |str b=>subst hx;cases hv with
    |int k' n'=>cases show TypeDesc.string=.int k' from hy|bool b'=>cases show TypeDesc.string=.bool from hy
    | str b' => exact ⟨rfl, fun h => by have h:=(MapKept.bytes_beq b b').1 h;grind⟩|nil=>exact hy.elim|slice=>exact hy.elim
  |nil=>exact hx.elim|slice=>exact hx.elim
theorem k58{m:Nat->Nat}{M:Value}{k:D}{d:TypeDesc}(Z:RepD m w M k)(hd:k.isKey d):∀B es i,B.length=es.length->(∀(j:Nat)x e,B[j]?=some x->es[j]?=some e->RepD m w x.key e.1)->(∀e∈es,e.1.isKey d)->mpos k es=none/\Instr.findNow d M B i=some none∨∃j x e,mpos k es=some j/\B[j]?=some x/\es[j]?=some e/\Instr.findNow d M B i=some (some (i+j,x.val))/\x.key=M
 |[],[],_,_,_,_=>.inl ⟨rfl,rfl⟩|[],_::_,_,h,_,_=>by simp at h|_::_,[],_,h,_,_=>by simp at h|x::B,e::es,i,hl,Y,hi=>by obtain⟨h1,h2⟩:=kwk Z (Y 0 x e rfl rfl) hd (hi e qqs);cases F:k.keq e.1 with
  |true=>refine .inr ⟨0,x,e,by simp[mpos,F],rfl,rfl,?_,(h2 F).1.symm⟩;simp[Instr.findNow,h1,F]|false=>
   rcases k58 Z hd B es (i+1) (by simpa using hl) (λj x' J hx he=>Y (j+1) x' J hx he) λJ he=>hi J (by simp[he])with⟨U,X⟩|⟨j,x',J,U,X,g3,g4,g5⟩;.exact .inl ⟨by simp[mpos,F,U],by simp[Instr.findNow,h1,F,X]⟩
   .exact .inr ⟨j+1,x',J,by simp[mpos,F,U],X,g3,by simp[Instr.findNow,h1,F,g4];omega,g5⟩
theorem zIs_rep{F:TypeId}{z:V}(B:zIs P F z):∃v,(zeroValue F).run P w=.ok v w/\RepV G w h nx v z:=by obtain⟨i,v,hi,J,B⟩:=B;exact⟨v,by simp[zeroValue,typeInfo,hi,J],(ofK_rep v).le0 B⟩
theorem RepV.d_inv{v:Value}{x:D}(B:RepV G w h nx v (.d x)):RepD G.lim w v x:=by
 cases B<;>skip;grind
theorem RepV.map_inv{v:Value}{id:Nat}(B:RepV G w h nx v (.mp id)):∃b,v=.map (some b)/\id<nx/\G.loc id=some b:=by
 cases B<;>skip;grind
theorem kgq{t Z et:TypeId}{d:TypeDesc}{x i v:Value}{X:List MapEntry}{c b:Bool}(hu:P.underlying t=some (.map Z et))(B:P.underlying Z=some d)(U:MapKept.IsKey d i)(hx:(∃r M,x=.map (some r)/\w.heap[r]?=some (.map (List.toArray X) M))∨x=.map none/\X=[])(J:(∃j,b=true/\Instr.findNow d i X 0=some (some (j,v)))∨b=false/\Instr.findNow d i X 0=some none/\(zeroValue et).run P w=.ok v w):(Instr.lookup t x i c).run P w=.ok (if c then .tuple #[v,.bool b]else v) w:=by
 have F:∀Y,(Instr.checkKey Y 10000 Z i).run P w=.ok () w:=λY=>MapKept.run_checkKey B U Y 9999;rcases hx with⟨r,M,rfl,hr⟩|⟨rfl,rfl⟩<;>rcases J with⟨j,rfl,J⟩|⟨rfl,J,hz⟩;.simp[Instr.lookup,qam hu,MapKept.run_getObj_map hr,F,MapKept.run_findKey B J]
 .simp[Instr.lookup,qam hu,MapKept.run_getObj_map hr,F,MapKept.run_findKey B J,hz]
 .simp[Instr.findNow]at J
 .simp[Instr.lookup,qam hu,F,MapKept.run_findKey B J,hz]
theorem MoR.ext{G':Gh}{w':World}{h':Hp}{nx' id:Nat}{x:MO}(hr:MoR G w h nx id x)(he:Ext G w h nx G' w' h' nx')(Y:id<nx)(hb:∀b,G.loc id=some b->w'.heap[b]?=w.heap[b]?)(hm:∀mid rest B es,x=.it mid rest B->h'.get mid=some (.map (.m es))->h.get mid=some (.map (.m es))/\∀J,G.loc mid=some J->w'.heap[J]?=w.heap[J]?):MoR G' w' h' nx' id x:=by cases x with
 |m es=>obtain⟨b,F,ms,h1,h2,Z,h4⟩:=hr;exact⟨b,F,ms,he.loc id b Y h1,(hb b h1).trans h2,Z.ext he,h4⟩|it mid rest B=>obtain⟨b,J,M,X,c0,h1,h2,Z,h4,h5,h6⟩:=hr;refine⟨b,J,M,X,c0,he.loc id b Y h1,(hb b h1).trans h2,qau Z he.hnx,he.loc mid J Z h4,h5,λes aa=>?_⟩;obtain⟨q1,q2⟩:=hm mid rest B es rfl aa;obtain⟨F,ms,r1,r2,r3,r4⟩:=h6 es q1;refine⟨F,ms,(q2 J h4).trans r1,r2,r3.ext he,λe hl=>?_⟩;obtain⟨n1,m,U,n2,n3,n4,n5⟩:=r4 e hl;exact⟨n1,m,U,n2,n3,n4.mono he.mono,n5.ext he⟩
theorem R.allocMO(Z:R T G0 w0 N s a G w)(o:Obj)(x:MO)(hx:∀G' w' h' nx',Ext G w s.h s.nx G' w' h' nx'->G'.loc s.nx=some w.heap.size->w'.heap[w.heap.size]?=some o->(∀b,b<w.heap.size->w'.heap[b]?=w.heap[b]?)->(∀i,i<s.nx->h'.get i=s.h.get i)->MoR G' w' h' nx' s.nx x):∃G',R T G0 w0 N ⟨s.sl,(s.nx,.map x)::s.h,s.nx+1⟩ a G' (w.alloc o)/\G'.loc s.nx=some w.heap.size:=by
 have J:=Z.wr;let G':Gh:=⟨λi=>if i=s.nx then some w.heap.size else G.loc i,λi=>if i=s.nx then none else G.tloc i,G.lim⟩;have M:∀i,i<s.nx->G'.loc i=G.loc i/\G'.tloc i=G.tloc i:=λi hi=>by simp[G',show i≠s.nx by omega]
 have U:∀i,i<s.nx->Hp.get ((s.nx,.map x)::s.h) i=s.h.get i:=λi hi=>by simp[Hp.get,show i≠s.nx by omega]
 have he:=kkt (w0:=w0) J o G' ((s.nx,.map x)::s.h) (λ_ _=>rfl) M U (nx':=s.nx+1) qqo;have hG:G'.loc s.nx=some w.heap.size:=by simp[G']
 refine⟨G',⟨Z.fr.alloc J.lim _ G' λ_ _=>rfl,⟨?_,?_,?_,?_,?_,?_⟩,Z.df,Z.sz,λt=>(Z.sl t).ext he,Z.ex.ext he⟩,hG⟩
 .intro id l' X;simp only[Hp.get]at X;split at X;.cases X
  .have B:=J.hid id _ X;rcases J.obj id l' X with⟨z1,z2⟩|⟨b,e',cs',h1,h2,h3,h4,h5,h6⟩;.exact .inl ⟨z1,by rw[(M id B).1];exact z2⟩
   have F:=(J.here id b B (.inl h1)).1;exact .inr ⟨b,e',cs',by rw[(M id B).1];exact h1,by rw[Below.heap_alloc w _ b F];exact h2,h3,h4,h5,λj v x hv hx=>(h6 j v x hv hx).ext he⟩
 .intro id es aa;by_cases hi:id=s.nx
  .subst hi;obtain rfl:x=es:=by simpa[Hp.get]using aa
   exact hx _ _ _ _ he hG (qdj w _) (λb F=>Below.heap_alloc w _ b F) U
  .have Y:s.h.get id=some (.map es):=by simpa[Hp.get,hi]using aa
   have B:=J.hid id _ Y;refine(J.mob id es Y).ext he B (λb F=>Below.heap_alloc w _ b (J.here id b B (.inl F)).1) λmid rest ag ah ab hm=>?_;subst ab;obtain⟨_,_,_,_,_,_,_,q,_⟩:=J.mob id _ Y;rw[U mid q]at hm;exact⟨hm,λbm ac=>Below.heap_alloc w _ bm (J.here mid bm q (.inl ac)).1⟩
 .intro id b B F;have B:id<s.nx+1:=B;by_cases hi:id=s.nx;.subst hi;simp[G']at F;subst F;have:=Z.fr.size;exact⟨by simp,.inl this⟩
  .have h1:=M id qqo;rw[h1.1,h1.2]at F;obtain⟨h2,h3⟩:=J.here id b qqo F;exact⟨by simp;omega,h3⟩
 .intro i j b hi hj ad ae li lj;have key:∀i,i<s.nx+1->G'.loc i=some b∨G'.tloc i=some b->i=s.nx/\b=w.heap.size∨i<s.nx/\b<w.heap.size/\(G.loc i=some b∨G.tloc i=some b):=by
   intro i hi F;by_cases h0:i=s.nx;.subst h0;simp[G']at F;exact .inl ⟨rfl,F.symm⟩
   .have h1:=M i qqo;rw[h1.1,h1.2]at F;exact .inr ⟨by omega,(J.here i b qqo F).1,F⟩
  rcases key i hi ad with⟨h1,h2⟩|⟨h1,h2,h3⟩<;>rcases key j hj ae with⟨h4,h5⟩|⟨h4,h5,h6⟩;.omega
  .omega
  .omega
  .exact J.inj i j b h1 h4 h3 h6 (live_eq (U i h1) li) (live_eq (U j h4) lj)
 .intro id ob hg;show id<s.nx+1;simp only[Hp.get]at hg;split at hg;.omega
  .have:=J.hid id ob hg;omega
 .intro b F;exact J.lim b (by simp at F;omega)
theorem EntR.nil:EntR G w h nx [] []:=⟨rfl,(λe he=>by cases he),by grind⟩
theorem Stp.nil(B:Nat):Stp [] B:=⟨(λm F=>by cases F),qex⟩
theorem R.allocMap(F:R T G0 w0 N s a G w):∃G',R T G0 w0 N ⟨s.sl,(s.nx,.map (.m []))::s.h,s.nx+1⟩ a G' (w.alloc (.map #[] 0))/\RepV G' (w.alloc (.map #[] 0)) ((s.nx,.map (.m []))::s.h) (s.nx+1) (.map (some w.heap.size)) (.mp s.nx):=by obtain⟨G',h1,B⟩:=F.allocMO (.map #[] 0) (.m []) λG' w' h' nx' _ h1 B _ _=>⟨_,0,[],h1,B,.nil,.nil 0⟩;exact⟨G',h1,.mp _ _ qqo B⟩
theorem R.moAt(hR:R T G0 w0 N s a G w){id b:Nat}{x x':MO}{o o':Obj}(hg:s.h.get id=some (.map x))(hb:G.loc id=some b)(ho:w.heap[b]?=some o)(ai:∀c e p,o≠.cells c e p)(aw:∀c e p,o'≠.cells c e p)(aq:(∃es,x'=.m es)->noIt s.h)(hx:∀w' h',Ext G w s.h s.nx G w' h' s.nx->w'.heap[b]?=some o'->(∀B,B≠b->w'.heap[B]?=w.heap[B]?)->(∀i,i≠id->h'.get i=s.h.get i)->MoR G w' h' s.nx id x'):R T G0 w0 N ⟨s.sl,(id,.map x')::s.h,s.nx⟩ a G {w with heap:=w.heap.setIfInBounds b o'}/\Ext G w s.h s.nx G {w with heap:=w.heap.setIfInBounds b o'} ((id,.map x')::s.h) s.nx:=by
 have Y:=hR.wr;have aa:=Y.hid _ _ hg;have ab:=MapKept.heap_set (o':=o') ho;have U:=ab.2;have he:Ext G w s.h s.nx G {w with heap:=w.heap.setIfInBounds b o'} ((id,.map x')::s.h) s.nx:=by
  refine⟨?_,qaf _,λ_ _ _ h=>h,?_,?_⟩
  .intro B q v Z g2;by_cases M:B=b;.subst M;exfalso;cases o<;>first|exact ai _ _ _ rfl|simp[World.cell?,ho]at g2
   .exact⟨Z,by rw[World.cell?_of_block (w:=w) (a:=⟨B,q,none⟩) (U B M)];exact g2⟩
  .intro tok t' ht Z;simp only[Hp.get]at Z;split at Z;.cases Z
   .rename_i ak;refine⟨t',Z,qaf _,λ_ B F=>?_⟩;have M:B≠b:=λh=>ak (Y.inj tok id b ht aa (.inr (h▸F)) (.inl hb) (k1i Z) (k1r hg));exact⟨F,U B M,rfl⟩
  .intro B n hn;by_cases M:B=b;.subst M;cases o<;>first|exact absurd rfl (ai _ _ _)|simp[csz,ho]at hn
   .rw[k4b (U B M)];exact hn
 refine⟨⟨⟨hR.fr.os,hR.fr.tape,hR.fr.output,by simpa using hR.fr.size,λB F hT=>?_,hR.fr.mono.trans he.mono⟩,⟨?_,?_,?_,?_,?_,?_⟩,hR.df,hR.sz,λt=>(hR.sl t).ext he,hR.ex.ext he⟩,he⟩
 .have al:B≠b:=by
   rintro rfl;rcases(Y.here id B aa (.inl hb)).2 with h|h;.omega
   .exact hT h
  obtain⟨Z,g2⟩:=hR.fr.same B F hT;exact⟨(U B al).trans Z,g2⟩
 .intro J l hl;simp only[Hp.get]at hl;split at hl;.cases hl
  .rcases Y.obj J l hl with h0|⟨B,e,cs,Z,g2,g3,g4,g5,g6⟩;.exact .inl h0
   have M:B≠b:=by rintro rfl;rw[ho]at g2;injection g2 with g2;exact ai _ _ _ g2
   exact .inr ⟨B,e,cs,Z,(U B M).trans g2,g3,g4,g5,λj v x hv hx=>(g6 j v x hv hx).ext he⟩
 .intro J x2 aj;by_cases ad:J=id
  .subst ad;obtain rfl:x'=x2:=by simpa[Hp.get]using aj
   exact hx _ _ he ab.1 U λi hi=>by simp[Hp.get,hi]
  .have X:s.h.get J=some (.map x2):=by simpa[Hp.get,ad]using aj
   have ac:=Y.hid _ _ X;refine(Y.mob J x2 X).ext he ac (λB F=>U B λh=>ad (Y.inj J id b ac aa (.inl (h▸F)) (.inl hb) (k1r X) (k1r hg))) λmid rest au es am hm=>?_;subst am;by_cases ae:mid=id
   .subst ae;have:x'=.m es:=by simpa[Hp.get]using hm
    exact(aq ⟨es,this⟩ _ _ X).elim
   .have ag:s.h.get mid=some (.map (.m es)):=by simpa[Hp.get,ae]using hm
    exact⟨ag,λbm ao=>U bm λh=>ae (Y.inj mid id b (Y.hid _ _ ag) aa (.inl (h▸ao)) (.inl hb) (k1r ag) (k1r hg))⟩
 .intro J B hi F;have:=Y.here J B hi F;exact⟨by simpa using this.1,this.2⟩
 .intro i j B hi hj Z g2 l1 l2;exact Y.inj i j B hi hj Z g2 (k1n (k1r hg) l1) (k1n (k1r hg) l2)
 .intro J ob ah;simp only[Hp.get]at ah;split at ah;.rename_i h;subst h;exact aa
  .exact Y.hid J ob ah
 .intro B F;exact Y.lim B (by simpa using F)
theorem R.mapAt(Y:R T G0 w0 N s a G w)(J:noIt s.h){id b M clk':Nat}{es es':List (D×V)}{Z ms':List MapEntry}(hg:s.h.get id=some (.map (.m es)))(X:G.loc id=some b)(ho:w.heap[b]?=some (.map (List.toArray Z) M))(B:EntR G w s.h s.nx ms' es')(U:Stp ms' clk'):R T G0 w0 N ⟨s.sl,(id,.map (.m es'))::s.h,s.nx⟩ a G {w with heap:=w.heap.setIfInBounds b (.map (List.toArray ms') clk')}:=(Y.moAt (x':=.m es') hg X ho (λ_ _ _ h=>by cases h) (λ_ _ _ h=>by cases h) (λ_=>J) λw' h' he F _ _=>⟨b,clk',ms',X,F,B.ext he,U⟩).1
theorem knc(hR:R T G0 w0 N s a G w){t:TypeId}{x i:Operand}{c:Bool}{r:V}(ho:lookV P s.h s.ev t x i c r):∃v,(Instr.lookup t (a.eval x) (a.eval i) c).run P w=.ok v w/\RepV G w s.h s.nx v r:=by
 have U:=hR.ev;have hw:=hR.wr;obtain⟨et,d,k,es,z,⟨kt,M,X⟩,hi,hk,hm,ac,hz,rfl⟩:=ho;obtain⟨zv,ad,ae⟩:=zIs_rep (G:=G) (w:=w) (h:=s.h) (nx:=s.nx) hz;have Y:=U i;rw[hi]at Y;have Z:=Y.d_inv;have F:=key_rep Z hk;have B:=U x;have aa:∃J,((∃r ab,a.eval x=.map (some r)/\w.heap[r]?=some (.map (List.toArray J) ab))∨a.eval x=.map none/\J=[])/\J.length=es.length/\(∀(j:Nat)m e,J[j]?=some m->es[j]?=some e->RepD G.lim w m.key e.1/\RepV G w s.h s.nx m.val e.2)/\∀e∈es,∀l,e.2≠V.tup l:=by
  rcases hm with⟨id,hx,hg⟩|⟨hx,rfl⟩;.rw[hx]at B;obtain⟨b,hb,ag,hl⟩:=B.map_inv;obtain⟨b',ab,J,g1,g2,⟨g3,g0,g4⟩,_⟩:=hw.mob id _ hg;grind
  .rw[hx]at B;exact⟨[],.inr ⟨B.k_inv,rfl⟩,rfl,by grind,λe he=>by simp at he⟩
 obtain⟨J,m1,m2,m3,m4⟩:=aa;have put:∀v b y,RepV G w s.h s.nx v y->RepV G w s.h s.nx (if c then .tuple #[v,.bool b]else v) (bif c then .tup [y,.d (.bool b)]else y):=by intro v b y hy;cases c with
  |false=>exact hy|true=>
   refine .tup [v,.bool b] [y,.d (.bool b)] rfl λj u z M hz=>?_;match j with
   |0=>grind|1=>simp at M hz;subst M;subst hz;exact .d _ _ (.bool b)|j+2=>simp at M
 rcases k58 Z hk J es 0 m2 (by grind) ac with⟨p1,p2⟩|⟨j,y,e,p1,p2,p3,p4,p5⟩
 .have e1:mget es k=none:=by unfold mget;rw[p1]
  rw[e1];exact⟨_,kgq M X F m1 (.inr ⟨rfl,p2,ad⟩),put zv false z ae⟩
 .have e1:mget es k=some e.2:=by unfold mget;grind
  rw[e1];exact⟨_,kgq M X F m1 (.inl ⟨_,rfl,p4⟩),by grind⟩
def updV(P:Program)(h:Hp)(ev:Operand->V)(t:TypeId)(m k v:Operand)(id:Nat)(es':List (D×V)):Prop:=∃et d kd es,mapT P t et d/\ev k=.d kd/\kd.isKey d/\ev m=.mp id/\h.get id=some (.map (.m es))/\(∀e∈es,e.1.isKey d)/\∃y,le0 (ev v) y/\notTupV y/\es'=mset es kd y
theorem Stp.snoc{J:List MapEntry}{B:Nat}(h:Stp J B)(k v:Value):Stp (J++[{key:=k,val:=v,born:=B}]) (B+1):=by
 refine⟨λm F=>?_,?_⟩
 .rcases qae.1 F with F|F;.have:=h.1 m F;omega
  grind
 .rw[qbj,qci];refine⟨h.2,by simp,λx M y U=>?_⟩;obtain⟨m,F,rfl⟩:=qap.1 M;have:=h.1 m F;grind
theorem Stp.set{B:List MapEntry}{F:Nat}(h:Stp B F)(j:Nat)(m:MapEntry)(X:∀x,B[j]?=some x->m.born=x.born):Stp (B.set j m) F:=by
 have e:(B.set j m).map (·.born)=B.map (·.born):=by apply qdg;grind
 refine⟨λx U=>?_,by rw[e];exact h.2⟩;have:x.born∈B.map (·.born):=by grind
 obtain⟨y,M,J⟩:=qap.1 this;rw[<-J];exact h.1 y M
theorem Stp.erase{F:List MapEntry}{B:Nat}(h:Stp F B)(j:Nat):Stp (F.eraseIdx j) B:=by refine⟨λm J=>h.1 m (qeu J),?_⟩;have:=List.Sublist.map (·.born) (List.eraseIdx_sublist F j);exact this.nodup h.2
theorem EntR.erase{B:List MapEntry}{es:List (D×V)}(J:EntR G w h nx B es)(j:Nat):EntR G w h nx (B.eraseIdx j) (es.eraseIdx j):=by obtain⟨h1,F,M⟩:=J;refine⟨by grind,λe he=>F e (qeu he),λq m e U he=>?_⟩;grind
theorem upd_run(hR:R T G0 w0 N s a G w)(ae:noIt s.h){t:TypeId}{m k v:Operand}{id:Nat}{es':List (D×V)}(ho:updV P s.h s.ev t m k v id es'):∃w',(Instr.mapUpdate t (a.eval m) (a.eval k) (a.eval v)).run P w=.ok () w'/\R T G0 w0 N ⟨s.sl,(id,.map (.m es'))::s.h,s.nx⟩ a G w':=by
 have M:=hR.ev;have hw:=hR.wr;obtain⟨et,d,Z,es,⟨kt,hu,F⟩,ag,hk,hm,hg,ah,y,ai,aa,rfl⟩:=ho;have ab:=M k;rw[ag]at ab;have ac:=ab.d_inv;have B:=key_rep ac hk;have ad:=M m;rw[hm]at ad;obtain⟨b,J,ak,hl⟩:=ad.map_inv;obtain⟨b',U,X,g1,g2,⟨g3,g0,g4⟩,gs⟩:=hw.mob id _ hg;obtain rfl:b=b':=by grind
 have al:=(M v).le0 ai;have am:∀l,y≠V.tup l:=λl e=>by rw[e]at aa;exact aa
 rcases k58 ac hk X es 0 g3 (by grind) ah with⟨p1,p2⟩|⟨j,x,e,p1,p2,p3,p4,p5⟩
 .have Y:=hR.mapAt ae (clk':=U+1) hg hl g2 (es':=es++[(Z,y)]) (ms':=X++[{key:=a.eval k,val:=a.eval v,born:=U}]) ⟨by simp[g3],by grind,by grind⟩ (gs.snoc _ _);have e1:mset es Z y=es++[(Z,y)]:=by unfold mset;rw[p1]
  rw[e1];refine⟨_,?_,Y⟩;rw[J];simp[Instr.mapUpdate,qam hu,MapKept.run_getObj_map g2,MapKept.run_checkKey F B,MapKept.run_findKey F p2,MapKept.run_setObj_map _ g2,Result.andThen]
 .have Y:=hR.mapAt ae (clk':=U) hg hl g2 (es':=es.set j (Z,y)) (ms':=X.set j {key:=a.eval k,val:=a.eval v,born:=x.born}) ⟨by simp[g3],by grind,by grind⟩ (gs.set _ _ (by grind));have e1:mset es Z y=es.set j (Z,y):=by unfold mset;rw[p1]
  rw[e1];refine⟨_,?_,Y⟩;rw[J];have aj:j<X.length:=(by grind);have ao:X[j]'aj=x:=(by grind);simp[Instr.mapUpdate,qam hu,MapKept.run_getObj_map g2,MapKept.run_checkKey F B,MapKept.run_findKey F p4,p2,p5,MapKept.run_keyThatStays B,MapKept.run_setObj_map _ g2,Result.andThen];have em:(X.modify j λe=>{key:=a.eval k,val:=a.eval v,born:=e.born})=X.set j {key:=a.eval k,val:=a.eval v,born:=x.born}:=by apply qdg;grind
  rw[em]
theorem del_run(hR:R T G0 w0 N s a G w)(ad:noIt s.h){t et ty:TypeId}{ts:Array TypeId}(ae:ts[0]?=some t){m k:Operand}{d:TypeDesc}{kd:D}{id:Nat}{es:List (D×V)}(ag:mapT P t et d)(ah:s.ev k=.d kd)(hk:kd.isKey d)(hm:s.ev m=.mp id)(hg:s.h.get id=some (.map (.m es)))(ai:∀e∈es,e.1.isKey d):∃w',(Builtin.delete_ ts ty #[a.eval m,a.eval k]).run P w=.ok (.tuple #[]) w'/\R T G0 w0 N ⟨s.sl,(id,.map (.m (mdel es kd)))::s.h,s.nx⟩ a G w':=by
 have Y:=hR.ev;have hw:=hR.wr;obtain⟨kt,hu,B⟩:=ag;have Z:=Y k;rw[ah]at Z;have aa:=Z.d_inv;have F:=key_rep aa hk;have ab:=Y m;rw[hm]at ab;obtain⟨b,J,aj,hl⟩:=ab.map_inv;obtain⟨b',ac,U,g1,X,g3,gs⟩:=hw.mob id _ hg;obtain rfl:b=b':=by grind
 rcases k58 aa hk U es 0 g3.1 (λj x e hx he=>(g3.2.2 j x e hx he).1) ai with⟨p1,p2⟩|⟨j,x,e,p1,p2,p3,p4,p5⟩
 .have M:=hR.mapAt ad (clk':=ac) hg hl X (es':=es) (ms':=U) g3 gs;have e1:mdel es kd=es:=by unfold mdel;rw[p1]
  rw[e1];refine⟨_,?_,M⟩;rw[J];simp[Builtin.delete_,ae,qam hu,MapKept.run_getObj_map X,MapKept.run_checkKey B F,MapKept.run_findKey B p2,MapKept.run_setObj_map _ X]
 .have M:=hR.mapAt ad (clk':=ac) hg hl X (es':=es.eraseIdx j) (ms':=U.eraseIdx j) (g3.erase j) (gs.erase j);have e1:mdel es kd=es.eraseIdx j:=by unfold mdel;rw[p1]
  rw[e1];refine⟨_,?_,M⟩;rw[J];simp[Builtin.delete_,ae,qam hu,MapKept.run_getObj_map X,MapKept.run_checkKey B F,MapKept.run_findKey B p4,MapKept.run_setObj_map _ X]
theorem ku7(hR:R T G0 w0 N s a G w){t et:TypeId}{x:Operand}{d:TypeDesc}{id:Nat}{es:List (D×V)}(ab:mapT P t et d)(hm:s.ev x=.mp id)(hg:s.h.get id=some (.map (.m es))):∃v w' G',(Instr.range t (a.eval x)).run P w=.ok v w'/\R T G0 w0 N ⟨s.sl,(s.nx,.map (.it id es none))::s.h,s.nx+1⟩ a G' w'/\RepV G' w' ((s.nx,.map (.it id es none))::s.h) (s.nx+1) v (.ptr s.nx 0):=by
 have hw:=hR.wr;obtain⟨kt,hu,_⟩:=ab;have J:=hR.ev x;rw[hm]at J;obtain⟨b,M,F,hl⟩:=J.map_inv;obtain⟨b',B,U,g1,g2,g3,gs⟩:=hw.mob id _ hg;obtain rfl:b=b':=by grind
 have X:b<w.heap.size:=by grind
 obtain⟨G',h1,Y⟩:=hR.allocMO (.mapIter (some b) B #[] B) (.it id es none) λG' w' h' nx' he h1 Y h3 h4=>⟨_,b,B,#[],B,h1,Y,qau F he.hnx,he.loc id b F hl,qaf _,λZ aa=>by have e0:(U.filter λm=>!(#[]:Array Nat).contains m.born)=U:=qeq.2 (λx _=>by simp);exact⟨B,U,(h3 b X).trans g2,⟨gs.1,rfl⟩,by rw[e0];exact g3.ext he,λe h=>by cases h⟩⟩;refine⟨_,_,G',?_,h1,.ptr _ _ _ qqo Y⟩;rw[M];simp[Instr.range,qam hu,MapKept.run_getObj_map g2]
theorem kak{α:Type}(f:α->Nat):∀(l:List α)j e,(l.map f).Nodup->l[j]?=some e->l.filter (λx=>! f x==f e)=l.eraseIdx j
 |[],j,e,_,h=>by simp at h|x::l,0,e,B,h=>by simp at h;subst h;rw[qaj,qcn]at B;simp only[List.filter_cons,beq_self_eq_true,Bool.not_true,qbo,qee];apply qeq.2;intro y F;have:f y≠f x:=λh=>B.1 (h▸qap.2 ⟨y,F,rfl⟩);simpa using this|x::l,j+1,e,B,h=>by rw[qaj,qcn]at B;rw[qbc]at h;have:f x≠f e:=λJ=>B.1 (J▸qap.2 ⟨e,qbm h,rfl⟩);simp[this,kak f l j e B.2 h]
theorem kvj(hR:R T G0 w0 N s a G w){x:Operand}(ty:TypeId){id mid:Nat}{es rest:List (D×V)}{ac:Option (D×V)}(hx:s.ev x=.ptr id 0)(hg:s.h.get id=some (.map (.it mid rest ac)))(hm:s.h.get mid=some (.map (.m es))):rest=[]/\(Instr.next (a.eval x) false ty).run P w=.ok (.tuple #[.bool false]) w∨∃j e v w',rest[j]?=some e/\(Instr.next (a.eval x) false ty).run P w=.ok v w'/\R T G0 w0 N ⟨s.sl,(id,.map (.it mid (rest.eraseIdx j) (some e)))::s.h,s.nx⟩ a G w'/\RepV G w' ((id,.map (.it mid (rest.eraseIdx j) (some e)))::s.h) s.nx v (.tup [.d (.bool true),.d e.1,e.2]):=by
 have hw:=hR.wr;have Y:=hR.ev x;rw[hx]at Y;obtain⟨b,ad,ae,hl⟩:∃b,a.eval x=.pointer (some ⟨b,0,none⟩)/\id<s.nx/\G.loc id=some b:=by generalize a.eval x=v at Y;cases Y with|ptr _ _ b h1 h2=>exact⟨b,rfl,h1,h2⟩
 obtain⟨b',bm,F,B,c0,g1,g2,g3,g4,g5,g6⟩:=hw.mob id _ hg;obtain rfl:b=b':=by rw[hl]at g1;injection g1
 obtain⟨J,U,k1,k2,k3,_⟩:=g6 es hm;obtain⟨ag,clk',ms',q1,q2,q3,q4⟩:=hw.mob mid _ hm;obtain rfl:bm=ag:=by rw[g4]at q1;injection q1
 obtain⟨rfl,rfl⟩:U=ms'/\J=clk':=by rw[k1]at q2;injection q2 with q2;injection q2 with q2 q2';exact⟨by simpa using congrArg Array.toList q2,q2'⟩
 rw[ad];have aa:(leftOf (List.toArray U) B).toList=U.filter λm=>!B.contains m.born:=by simp[leftOf]
 rcases run_next_at (P:=P) w ty b bm F c0 B (List.toArray U) J g2 k1 (λx hx=>k2.1 x (by simpa using hx)) g5 with⟨r1,r2⟩|⟨X,r1,w1,r2,r3⟩
 .have h0:(U.filter λm=>!B.contains m.born).length=0:=by rw[<-aa];simpa using r1
  exact .inl ⟨qax (by rw[<-k3.1];exact h0),r2⟩
 .rw[aa]at r1;obtain⟨j,hj⟩:=qcl r1;have Z:j<rest.length:=by have:=(qq.1 hj).1;rw[k3.1]at this;exact this
  have ah:R T G0 w0 N s a G w1:=by rcases r2 with rfl|rfl<;>first|exact hR|exact hR.drew
  have hh:w1.heap=w.heap:=by rcases r2 with rfl|rfl<;>rfl
  obtain⟨t1,t2⟩:=k3.2.2 j X _ hj (qf Z);have e1:Ext G w s.h s.nx G w1 s.h s.nx:=by rcases r2 with rfl|rfl<;>first|exact Ext.refl _ _ _ _|exact Ext.drew _ _ _ _
  obtain⟨ai,M⟩:=ah.moAt (x':=.it mid (rest.eraseIdx j) (some rest[j])) (o':=.mapIter (some bm) F (B.push X.born) J) hg hl (by rw[hh];exact g2) (λ_ _ _ h=>by cases h) (λ_ _ _ h=>by cases h) λ⟨_,h⟩=>by cases h
   λw' h' he aj ab am=>by
    have ak:mid≠id:=λh=>by subst h;rw[hg]at hm;cases hm
    have al:bm≠b:=λh=>ak (hw.inj mid id b qqo ae (.inl (h▸g4)) (.inl hl) (k1r hm) (k1r hg));refine⟨b,bm,F,B.push X.born,J,hl,aj,g3,g4,by rw[<-k2.2];exact g5,λao aq=>⟨J,U,(ab bm al).trans (by rw[hh];exact k1),⟨k2.1,rfl⟩,?_,λe M=>?_⟩⟩;have e2:(U.filter λm=>!(B.push X.born).contains m.born)=(U.filter λm=>!B.contains m.born).eraseIdx j:=by rw[<-kak (·.born) (U.filter λm=>!B.contains m.born) j X ((List.Sublist.map _ List.filter_sublist).nodup q4.2) hj,List.filter_filter];congr 1;funext m;simp only[Array.contains_push];cases B.contains m.born<;>cases m.born==X.born<;>rfl
    rotate_left;.injection M with M;subst M;exact⟨k3.2.1 _ (qz Z),X,B,(List.mem_filter.1 r1).1,rfl,(t1.mono e1.mono).mono he.mono,(t2.ext e1).ext he⟩
    rw[e2];exact((k3.erase j).ext e1).ext he
  refine .inr ⟨j,rest[j],_,_,qf Z,r3,ai,?_⟩;have e3:=e1.trans M;refine .tup [.bool true,X.key,X.val] [_,_,_] rfl λq u z hu hz=>?_;match q with
  |0=>simp at hu hz;subst hu;subst hz;exact .d _ _ (.bool true)|1=>simp at hu hz;subst hu;subst hz;exact .d _ _ (t1.mono e3.mono)|2=>simp at hu hz;subst hu;subst hz;exact t2.ext e3|q+3=>simp at hu
theorem ktr(hR:R T G0 w0 N s a G w){x:Operand}{id mid:Nat}{es rest:List (D×V)}{e:D×V}(hx:s.ev x=.ptr id 0)(hg:s.h.get id=some (.map (.it mid rest (some e))))(hm:s.h.get mid=some (.map (.m es))):∃v,(Instr.entry (a.eval x)).run P w=.ok v w/\RepV G w s.h s.nx v (.tup [.d e.1,e.2]):=by
 have Z:=hR.wr;have B:=hR.ev x;rw[hx]at B;obtain⟨b,U,ab,hl⟩:∃b,a.eval x=.pointer (some ⟨b,0,none⟩)/\id<s.nx/\G.loc id=some b:=by generalize a.eval x=v at B;cases B with|ptr _ _ b h1 h2=>grind
 obtain⟨b',bm,F,aa,c0,g1,g2,g3,g4,g5,g6⟩:=Z.mob id _ hg;obtain⟨M,ms,k1,k2,k3,k4⟩:=g6 es hm;obtain⟨X,clk',ms',q1,q2,q3,q4⟩:=Z.mob mid _ hm;obtain⟨rfl,rfl⟩:ms=ms'/\M=clk':=by grind
 obtain⟨n1,m,J,n2,n3,n4,n5⟩:=k4 e rfl;rw[U];refine⟨_,run_entry_at (P:=P) w b bm F J (List.toArray ms) M m (by grind) k1 (by grind) (by simpa using q4.2),?_⟩;refine .tup [m.key,m.val] [_,_] rfl λq u z Y hz=>?_;match q with
 |0=>simp at Y hz;subst Y;subst hz;exact .d _ _ n4|1=>grind|q+2=>simp at Y
theorem k27(hR:R T G0 w0 N s a G w){o:Oper}{K:St->Prop}(ho:AOpX P N o K s)(M:∀t,o.dst=some t->t<N){K':Act->World->Prop}{Q:Exit->Act->World->Prop}(hK:∀s' a' G' w',K s'->R T G0 w0 N s' a' G' w'->K' a' w'):o.wp P a w K' Q:=by
 have ad:=hR.ev;have hw:=hR.wr;obtain⟨J,op,ty,pos,U,X⟩:=o;have F:∀v w',(execOp a.eval ⟨J,op,ty,pos,U,X⟩).run P w=.ok (.value v) w'->K' (a.put J v) w'->Oper.wp P ⟨J,op,ty,pos,U,X⟩ a w K' Q:=by intro v w' h1 Z;unfold Oper.wp;rw[h1];exact Z
 have val:∀sv v w',sv.run P w=.ok v w'->(do pure (.value (<-sv)):Sem Next).run P w=.ok (.value v) w':=by simp_all
 cases op with
 |makeMap t r=>obtain⟨h1,Z⟩:=ho;obtain⟨G',ab,hp⟩:=hR.allocMap;refine F _ _ (val _ _ _ ?_) (hK _ _ _ _ Z (ab.put hp J M));cases r with
  |none=>exact run_makeMap t w|some x=>obtain⟨⟨kt,et,hu⟩,q,n,hx⟩:=h1;have hv:=ad x;rw[hx]at hv;have hv:=hv.int_inv;show(Instr.makeMap t (some (a.eval x))).run P w=_;rw[hv];simp[Instr.makeMap,qam hu,asInt,asIntOf,Result.andThen,newObj,Sem.run]
 |lookup t x i c=>obtain⟨r,h1,Z⟩:=ho;obtain⟨v,g1,g2⟩:=knc hR h1;exact F _ _ (val _ _ _ g1) (hK _ _ _ _ Z (hR.put g2 J M))|mapUpdate t m k v=>
  obtain⟨ac,et,d,kd,es,id,h1,Z,h3,h4,h5,h6,y,h7,h8,Y⟩:=ho;obtain⟨w',ae,ab⟩:=upd_run (id:=id) hR ac ⟨et,d,kd,es,h1,Z,h3,h4,h5,h6,y,h7,h8,rfl⟩;unfold Oper.wp;have:(execOp a.eval ⟨J,.mapUpdate t m k v,ty,pos,U,X⟩).run P w=.ok .skip w':=by simp only[execOp,qw,ae,qj,qag]
  rw[this];exact hK _ _ _ _ Y (ab.put (.any _) J M)|range t x=>obtain⟨et,d,es,id,h1,Z,h3,Y⟩:=ho;obtain⟨v,w',G',g1,g2,g3⟩:=ku7 hR h1 Z h3;exact F _ _ (val _ _ _ g1) (hK _ _ _ _ Y (g2.put g3 J M))|next x b=>
  obtain⟨rfl,id,mid,es,rest,ak,h1,Z,h3,ai,aj⟩:=ho;rcases kvj hR ty h1 Z h3 with⟨r1,r2⟩|⟨j,e,v,w',r1,r2,r3,r4⟩
  .have hk:=hR.kill (id:=id) (hR.wr.hid _ _ Z);refine F _ _ (val _ _ _ r2) (hK _ _ _ _ (ai r1) (hk.put (.tup [.bool false] [_] rfl λq u z hu hz=>?_) J M));match q with
   |0=>simp at hu hz;subst hu;subst hz;exact .d _ _ (.bool false)|q+1=>simp at hu
  .exact F _ _ (val _ _ _ r2) (hK _ _ _ _ (aj j e r1) (r3.put r4 J M))|entry x=>obtain⟨id,mid,es,rest,e,h1,Z,h3,Y⟩:=ho;obtain⟨v,g1,g2⟩:=ktr hR h1 Z h3;exact F _ _ (val _ _ _ g1) (hK _ _ _ _ Y (hR.put g2 J M))|call c=>obtain⟨aa,args,B⟩:=c;cases aa with
  |builtin bi=>cases bi with
   |delete=>
    obtain⟨⟨h1,Z⟩,ac,et,d,kd,es,id,h3,h4,h5,h6,h7,h8,Y⟩:=ho;obtain⟨x,y,rfl⟩:∃x y,args=#[x,y]:=by
     obtain⟨l⟩:=args;match l,h1 with|[x,y],_=>grind
    obtain⟨t,t',rfl⟩:∃x y,B=#[x,y]:=by
     obtain⟨l⟩:=B;match l,Z with|[x,y],_=>grind
    obtain⟨w',g1,g2⟩:=del_run (ty:=ty) (ts:=#[t,t']) (m:=x) (k:=y) hR ac rfl h3 h4 h5 h6 h7 h8;unfold Oper.wp;have:(execOp a.eval ⟨J,.call ⟨.builtin .delete,#[x,y],#[t,t']⟩,ty,pos,U,X⟩).run P w=.ok (.value (.tuple #[])) w':=by simp only[execOp,resolve,invoke,builtin,qw,qag,qj,qct,qaj,qda,g1]
    rw[this];exact hK _ _ _ _ Y (g2.put (.any _) J M)|len=>
    obtain⟨⟨h1,Z⟩,et,d,es,id,⟨kt,hu,_⟩,h4,h5,Y⟩:=ho;obtain⟨x,rfl⟩:∃x,args=#[x]:=by
     obtain⟨l⟩:=args;match l,h1 with|[x],_=>grind
    obtain⟨t,rfl⟩:∃x,B=#[x]:=by
     obtain⟨l⟩:=B;match l,Z with|[x],_=>grind
    have ag:=ad x;have h4:s.ev x=.mp id:=h4;rw[h4]at ag;obtain⟨b,ah,al,hl⟩:=ag.map_inv;obtain⟨b',am,ms,g1,g2,g3,gs⟩:=hw.mob id _ h5;obtain rfl:b=b':=by grind
    have hu:P.underlying t=some (.map kt et):=hu;have g1:(Builtin.len_ #[t] ty #[a.eval x]).run P w=.ok (goInt es.length) w:=by rw[ah];simp[Builtin.len_,qam hu,MapKept.run_getObj_map g2,Result.andThen,g3.1]
    refine F (goInt es.length) w ?_ (hK _ _ _ _ Y (hR.put (.d _ _ (.int _ _)) J M));simp only[execOp,resolve,invoke,builtin,qw,qag,qj,qct,qaj,qda,g1]|_=>exact ho.elim
  |_=>exact ho.elim
 |_=>exact ho.elim
end
def dstOk(N:Nat):On->Prop
 |some t=>t<N|none=>True
def guardV(s:St)(tb:List On)(j:Nat):V:=match tb[j]? with
 |some (some t)=>getS s.sl t|_=>.any
def storeOk(ty:Option (Bool×Nat))(h:Hp)(x:V):V->Prop
 |.ptr id off=>match ty,h.get id with
  |some (_,n),some (.cells l)=>x.flat n/\off+n<=l.length|_,_=>False
 |_=>False
def storeH(h:Hp)(x:V):V->Hp
 |.ptr id off=>match h.get id with
  |some (.cells l)=>(id,.cells (setAt l off x.cells))::h|_=>h
 |_=>h
def fillOk(pl:List (Nat×Nat)):List V->List (Nat×V)->Prop
 |_,[]=>True|l,(i,x)::r=>match pl[i]? with
  |some (off,n)=>x.flat n/\off+n<=l.length/\fillOk pl (setAt l off x.cells) r|none=>False
def fillR(pl:List (Nat×Nat)):List V->List (Nat×V)->List V
 |l,[]=>l|l,(i,x)::r=>match pl[i]? with
  |some (off,_)=>fillR pl (setAt l off x.cells) r|none=>l
theorem kew{pl:List (Nat×Nat)}{K:List V->Prop}:∀ps l,fillOk pl l ps->K (fillR pl l ps)->fillV (pl[·]?) K l ps
 |[],_,_,F=>F|(i,x)::r,l,B,F=>by
  simp only[fillOk,fillR,fillV]at*;cases J:pl[i]? with
  |none=>simp only[J]at B|some q=>simp only[J]at B F⊢;exact⟨B.1,B.2.1,kew r _ B.2.2 F⟩
def zeroD(P:Program)(t:TypeId):List V:=(zeroV P t).getD []
def plD(P:Program)(t:TypeId):List (Nat×Nat):=(plOf P t).getD []
def toDs(l:List V):Option (List D):=l.mapM V.toD
def sizesOk(sz:Nat):List D->Prop
 |[]=>True|d::r=>d.cells.length=sz/\sizesOk sz r
def rowD(P:Program)(t:TypeId):Nat×Nat:=(rowOf P t).getD (0,0)
def growD(s:St)(sz:Nat)(x:V):Nat×Nat×List D:=(growA s sz x).getD (0,0,[])
def appOk(P:Program)(s:St)(t:TypeId)(x y:V):Prop:=(rowOf P t).isSome=true/\(growA s (rowD P t).1 x).isSome=true/\isEls (rowD P t).1 y/\((growD s (rowD P t).1 x).2.2.length+(y.elsD (rowD P t).1).length)*(rowD P t).2<=140737488355328/\(growD s (rowD P t).1 x).2.2.length+(y.elsD (rowD P t).1).length<=maxLen
def appS(P:Program)(s:St)(t:TypeId)(x y:V)(d:On):St:=St.put ⟨s.sl,((growD s (rowD P t).1 x).1,.tip ((growD s (rowD P t).1 x).2.2.length+(y.elsD (rowD P t).1).length))::s.h,(growD s (rowD P t).1 x).2.1⟩ d (.own (growD s (rowD P t).1 x).1 (rowD P t).1 ((growD s (rowD P t).1 x).2.2++y.elsD (rowD P t).1))
def leArgs(σ:Nat->Nat)(m:Nat):List V->List V->Prop
 |[],[]=>True|x::xs,y::B=>(le x (ren σ y)/\ok m y)/\leArgs σ m xs B|_,_=>False
def callS(s:St)(ids:Ln)(pre B:List Ob)(d:On)(r:V):St:=St.put ⟨s.sl,hpNew (sgm ids s.nx) 0 B++s.h,s.nx+(B.length-pre.length)⟩ d (ren (sgm ids s.nx) r)
def cloV(l:List (Option (Nat×Nat))):List V:=l.map λp=>match p with
 |some q=>.ptr q.1 q.2|none=>.any
def fnG:V->On
 |.k (.func (.func g) a b)=>bif Nat.beq a.size 0&&Nat.beq b.size 0 then some g else none|.clo g _ _=>some g|_=>none
def fnA:V->List V->List V
 |.clo _ B cs,xs=>cloV B++(xs++cloV cs)|_,xs=>xs
def RepL(G:Gh)(w:World)(h:Hp)(nx:Nat)(l:List Value)(m:List V):Prop:=l.length=m.length/\∀(j:Nat)v x,l[j]?=some v->m[j]?=some x->RepV G w h nx v x
theorem RepL.app{G:Gh}{w:World}{h:Hp}{nx:Nat}{l M:List Value}{m m':List V}(a:RepL G w h nx l m)(b:RepL G w h nx M m'):RepL G w h nx (l++M) (m++m'):=by
 refine⟨by rw[qi,qi,a.1,b.1],λj v x B F=>?_⟩;by_cases J:j<l.length;.rw[qay J]at B;rw[qay (by rw[<-a.1];exact J)]at F;exact a.2 j v x B F
 .rw[qbw qqo]at B;rw[qbw (by rw[<-a.1];omega),<-a.1]at F;exact b.2 _ v x B F
theorem RepL.clo{G:Gh}{w:World}{h:Hp}{nx:Nat}:∀{ps:List (Option (Nat×Nat))}{vs:List Value},PtrsR G nx ps vs->RepL G w h nx vs (cloV ps)
 |[],[],_=>⟨rfl,by grind⟩|[],_::_,B=>B.elim|_::_,[],B=>B.elim|p::ps,v::vs,B=>by have M:=RepL.clo (w:=w) (h:=h) B.2;refine⟨by simpa[cloV]using M.1,λj u x J F=>?_⟩;cases j with
  |zero=>simp at J;subst J;cases p with
   |none=>simp[cloV]at F;subst F;exact .any _|some q=>simp[cloV]at F;subst F;obtain⟨h1,b,U,rfl⟩:=B.1;exact .ptr _ _ b h1 U
  |succ j=>exact M.2 j u x J (by simpa[cloV]using F)
theorem fn_rep{G:Gh}{w:World}{h:Hp}{nx:Nat}{v:Value}{f:V}{g:Nat}(U:RepV G w h nx v f)(B:fnG f=some g):∃vs us,v=.func (.func g) vs.toArray us.toArray/\∀J xs,RepL G w h nx J xs->RepL G w h nx (vs++(J++us)) (fnA f xs):=by
 unfold fnG at B;split at B;.rename_i Z a b;rw[U.k_inv];cases F:Nat.beq a.size 0&&Nat.beq b.size 0 with
  |false=>grind|true=>rw[F]at B;injection B with B;subst B;rw[qh]at F;have X:=qco (qdz F.1);have Y:=qco (qdz F.2);subst X;subst Y;exact⟨[],[],rfl,λJ xs M=>by simpa[fnA]using M⟩
 .injection B with B;subst B;cases U with|clo _ _ _ vs us hf F=>exact⟨vs,us,rfl,λJ xs M=>(RepL.clo hf).app (M.app (RepL.clo F))⟩
 .cases B
def callA(P:Program)(s:St)(f:V)(args:List V)(K:Ln->List Ob->List Ob->V->Prop):Prop:=∃g xs pre r post ids,fnG f=some g/\(P.funcs[g]?.bind (·.body)).isSome=true/\P.funcs[g]?.map (·.name)≠some "runtime.NumGoroutine"/\SoundH P g xs pre r post/\noIt s.h/\preOk s.h (sgm ids s.nx) pre.length s.nx s.nx ids pre/\ids.Nodup/\ppOk pre post/\leArgs (sgm ids s.nx) pre.length (fnA f args) xs/\noTup r/\K ids pre post r
def SoundX(P:Program)(g:FuncId)(xs:List V)(r:V):Prop:=∀G w h nx(vs:List Value),vs.length=xs.length->(∀(j:Nat)(v:Value)(x:V),vs[j]?=some v->xs[j]?=some x->RepV G w h nx v x)->∃v,(callFunc g vs.toArray).run P w=.ok (.value v) w/\RepV G w h nx v r
def callX(P:Program)(f:V)(args:List V)(K:V->Prop):Prop:=∃g r,f=.k (.func (.func g) #[] #[])/\SoundX P g args r/\K r
def isNilV:V->Bool
 |.k (.slice none 0 0)=>true|_=>false
def isSl:Option TypeDesc->Prop
 |some (.slice _)=>True|_=>False
def nilOk:V->Prop
 |.d (.slice _ _)=>True|.own _ _ _=>True|.full _ _=>True|.row _ _ _ _=>True|_=>False
def nilMay:V->Prop
 |.d (.slice _ l)=>l=[]|.own _ _ l=>l=[]|.full _ l=>l=[]|.row _ _ len _=>len=0|_=>False
def natOf:V->Nat
 |.d (.int _ n)=>n.toNat|_=>0
def mkOk(P:Program)(t:TypeId):V->V->Prop
 |.d (.int _ n),.d (.int _ c)=>((rowOf P t).isSome=true/\(elZ P t).isSome=true)/\0<=n/\n<=c/\c.toNat*(rowD P t).2<=140737488355328/\c.toNat<=maxLen|_,_=>False
def elZD(P:Program)(t:TypeId):List V:=(elZ P t).getD []
def fitsO(off n:Nat):Option Ob->Prop
 |some (.cells l)=>off+n<=l.length|_=>False
def copyOk(P:Program)(t:TypeId)(h:Hp):V->V->Prop
 |.row id off len sz,y=>((rowOf P t).isSome=true/\sz=(rowD P t).1)/\isEls sz y/\fitsO off (len*sz) (h.get id)|_,_=>False
def copyO(h:Hp)(id off len:Nat)(B:List D):Option Ob->Hp
 |some (.cells l)=>(id,.cells (setAt l off (((B.take (min B.length len)).flatMap D.cells).map .d)))::h|_=>h
def copyH(h:Hp):V->V->Hp
 |.row id off len sz,y=>copyO h id off len (y.elsD sz) (h.get id)|_,_=>h
def copyN:V->V->V
 |.row _ _ len sz,y=>.d (.int .i64 (min (y.elsD sz).length len:Nat))|_,_=>.any
def AOp(P:Program)(N:Nat)(o:Oper)(K:St->Prop)(s:St):Prop:=dstOk N o.dst/\match o.op with
 |.alloc t=>(zeroV P t).isSome=true/\K (St.put ⟨s.sl,(s.nx,.cells (zeroD P t))::s.h,s.nx+1⟩ o.dst (.ptr s.nx 0))|.box _ x=>(∃n,(s.ev x).flat n)/\K (St.put ⟨s.sl,(s.nx,.cells (s.ev x).cells)::s.h,s.nx+1⟩ o.dst (.ptr s.nx 0))|.store t a x=>storeOk (tyOf P t) s.h (s.ev x) (s.ev a)/\K (St.put ⟨s.sl,storeH s.h (s.ev x) (s.ev a),s.nx⟩ o.dst .any)|.build t B=>(plOf P t).isSome=true/\(zeroV P t).isSome=true/\fillOk (plD P t) (zeroD P t) (B.toList.map λp=>(p.1,s.ev p.2))/\K (s.put o.dst (.agg (fillR (plD P t) (zeroD P t) (B.toList.map λp=>(p.1,s.ev p.2)))))|.buildSlice t n B=>(rowOf P t).isSome=true/\B.toList.map (·.1)=List.range n/\(toDs (B.toList.map λp=>s.ev p.2)).isSome=true/\sizesOk (rowD P t).1 ((toDs (B.toList.map λp=>s.ev p.2)).getD [])/\n*(rowD P t).1<=16777216/\(K (St.put ⟨s.sl,s.h,s.nx+1⟩ o.dst (.full (rowD P t).1 ((toDs (B.toList.map λp=>s.ev p.2)).getD [])))∨K (St.put ⟨s.sl,(s.nx,.cells ((((toDs (B.toList.map λp=>s.ev p.2)).getD []).flatMap D.cells).map .d))::s.h,s.nx+1⟩ o.dst (.row s.nx 0 n (rowD P t).1)))|.call c=>match c.callee with
  |.builtin .append=>(c.args.size=2/\c.argTypes.size=2/\c.argTypes.getD 0 0=c.argTypes.getD 1 0)/\(appOk P s (c.argTypes.getD 0 0) (s.ev (c.args.getD 0 (.const .nilIface))) (s.ev (c.args.getD 1 (.const .nilIface)))/\K (appS P s (c.argTypes.getD 0 0) (s.ev (c.args.getD 0 (.const .nilIface))) (s.ev (c.args.getD 1 (.const .nilIface))) o.dst)∨appRowA P s (c.argTypes.getD 0 0) (s.ev (c.args.getD 0 (.const .nilIface))) (s.ev (c.args.getD 1 (.const .nilIface))) o.dst K)|.builtin .copy=>(c.args.size=2/\c.argTypes.size=2)/\copyOk P (c.argTypes.getD 0 0) s.h (s.ev (c.args.getD 0 (.const .nilIface))) (s.ev (c.args.getD 1 (.const .nilIface)))/\K (St.put ⟨s.sl,copyH s.h (s.ev (c.args.getD 0 (.const .nilIface))) (s.ev (c.args.getD 1 (.const .nilIface))),s.nx⟩ o.dst (copyN (s.ev (c.args.getD 0 (.const .nilIface))) (s.ev (c.args.getD 1 (.const .nilIface)))))|.builtin .delete=>AOpX P N o K s|.builtin .len=>avOk P s.h s.ev (.call c)/\K (s.put o.dst (av P s.h s.ev (.call c)))∨AOpX P N o K s|.value f=>callX P (s.ev f) (c.args.toList.map s.ev) (λr=>K (s.put o.dst r))∨callA P s (s.ev f) (c.args.toList.map s.ev) λids pre F r=>K (callS s ids pre F o.dst r)|_=>avOk P s.h s.ev (.call c)/\K (s.put o.dst (av P s.h s.ev (.call c)))
 |.binOp op t x y t'=>match isNilV (s.ev y)with
  |true=>isEq op/\isSl (P.underlying t)/\nilOk (s.ev x)/\∀b,(b=true->nilMay (s.ev x))->K (s.put o.dst (aggV op b))|false=>avOk P s.h s.ev (.binOp op t x y t')/\K (s.put o.dst (av P s.h s.ev (.binOp op t x y t')))
 |.makeSlice t l c=>mkOk P t (s.ev l) (s.ev c)/\K (St.put ⟨s.sl,(s.nx,.cells (zrow (natOf (s.ev l)) (elZD P t)))::s.h,s.nx+1⟩ o.dst (.row s.nx 0 (natOf (s.ev l)) (rowD P t).1))|.makeMap _ _=>AOpX P N o K s|.lookup _ _ _ _=>AOpX P N o K s|.mapUpdate _ _ _ _=>AOpX P N o K s|.range _ _=>AOpX P N o K s|.next _ _=>AOpX P N o K s|.entry _=>AOpX P N o K s|op=>avOk P s.h s.ev op/\K (s.put o.dst (av P s.h s.ev op))
section
variable{P:Program}{T:Tk}{G0 G:Gh}{w0 w:World}{N:Nat}{s:St}{a:Act}
theorem toDs_eq(s:St)(B:List (Nat×Operand)):toDs (B.map λp=>s.ev p.2)=B.mapM λp=>(s.ev p.2).toD:=by unfold toDs;induction B with
 |nil=>rfl|cons p ps F=>grind
theorem k2o{sz:Nat}:∀{l:List D},sizesOk sz l->∀d∈l,d.cells.length=sz
 |[],_,d,B=>by cases B|x::r,F,d,B=>by
  rcases qak.1 B with rfl|B;.exact F.1
  .exact k2o F.2 d B
theorem k7c{σ:Nat->Nat}{m:Nat}:∀{l M:List V},leArgs σ m l M->l.length=M.length/\∀(j:Nat)x y,l[j]?=some x->M[j]?=some y->Bv.le x (ren σ y)/\ok m y
 |[],[],_=>⟨rfl,by simp⟩|x::xs,y::Z,B=>by obtain⟨h1,U⟩:=B;obtain⟨X,Y⟩:=k7c U;refine⟨by simp[X],λj a b F J=>?_⟩;cases j with
  |zero=>simp at F J;subst F;subst J;exact h1|succ j=>exact Y j a b F J
 |[],_::_,B=>B.elim|_::_,[],B=>B.elim
theorem kvr(hR:R T G0 w0 N s a G w){o:Oper}{K:St->Prop}(ho:AOp P N o K s){K':Act->World->Prop}{Q:Exit->Act->World->Prop}(hK:∀s' a' G' w',K s'->R T G0 w0 N s' a' G' w'->K' a' w'):o.wp P a w K' Q:=by
 obtain⟨hd,ho⟩:=ho;have F:∀t,o.dst=some t->t<N:=λt ht=>by rw[ht]at hd;exact hd
 have U:=hR.ev;obtain⟨B,op,ty,pos,X,Y⟩:=o;have value:∀(v:Value)(w':World),(execOp a.eval ⟨B,op,ty,pos,X,Y⟩).run P w=.ok (.value v) w'->K' (a.put B v) w'->Oper.wp P ⟨B,op,ty,pos,X,Y⟩ a w K' Q:=by intro v w' h1 M;unfold Oper.wp;rw[h1];exact M
 have val:∀(sv:Sem Value)(v:Value)(w':World),sv.run P w=.ok v w'->(do pure (.value (<-sv)):Sem Next).run P w=.ok (.value v) w':=by simp_all
 have ad:avOk P s.h s.ev op->K (s.put B (av P s.h s.ev op))->Oper.wp P ⟨B,op,ty,pos,X,Y⟩ a w K' Q:=by intro h1 M;obtain⟨v,g1,Z⟩:=kex (o:=⟨B,op,ty,pos,X,Y⟩) U hR.wr.obj h1;exact value v w g1 (hK _ _ _ _ M (hR.put Z B F))
 cases op with
 |alloc t=>
  obtain⟨h1,M⟩:=ho;obtain⟨l,hl⟩:=qai.1 h1;obtain⟨i,z,hi,hz,ae⟩:=k6s (G:=G) (w:=w) (h:=s.h) (nx:=s.nx) hl;obtain⟨G',ac,hp⟩:=hR.alloc t z.cells.toList l ae.1 ae.2.1 ae.2.2;have e1:zeroD P t=l:=by simp[zeroD,hl]
  rw[e1]at M;refine value _ _ (val _ _ _ ?_) (hK _ _ _ _ M (ac.put hp B F));have az:(zeroValue t).run P w=.ok z w:=by simp[zeroValue,typeInfo,hi,hz]
  simp only[Instr.alloc,qw,az,qj,newVar,newRow,newObj,Sem.run,qag,qdn];rfl|box t x=>obtain⟨⟨n,h1⟩,M⟩:=ho;obtain⟨g1,Z⟩:=kbu (U x) h1;obtain⟨G',ac,hp⟩:=hR.alloc t (a.eval x).cells.toList (s.ev x).cells Z.1 Z.2.1 Z.2.2;refine value _ _ (val _ _ _ ?_) (hK _ _ _ _ M (ac.put hp B F));simp only[Instr.box,newVar,newRow,newObj,qw,Sem.run,qj,qag,qdn];rfl|store t p x=>obtain⟨h1,M⟩:=ho;simp only at h1 M;have hp:=U p;generalize bo:s.ev p=vp at hp h1 M;cases vp with
  |ptr id off=>simp only[storeOk,storeH]at h1 M;cases al:tyOf P t with
   |none=>grind|some q=>obtain⟨g,n⟩:=q;cases hg:s.h.get id with
    |none=>grind|some ob=>cases ob with
     |cells l=>
      simp only[al,hg]at h1 M;obtain⟨w',ab,ac⟩:=hR.store (P:=P) hg (U x) hp h1.1.2 al h1.1.1 h1.2;unfold Oper.wp;have:(execOp a.eval ⟨B,.store t p x,ty,pos,X,Y⟩).run P w=.ok .skip w':=by simp only[execOp,qw,ab,qj,qag]
      rw[this];exact hK _ _ _ _ M (ac.put (.any _) B F)|_=>grind
  |_=>exact h1.elim
 |build t aa=>
  obtain⟨h1,M,h3,h4⟩:=ho;obtain⟨pl,am⟩:=qai.1 h1;obtain⟨l0,ao⟩:=qai.1 M;have e1:plD P t=pl:=by simp[plD,am]
  have e2:zeroD P t=l0:=by simp[zeroD,ao]
  rw[e1,e2]at h3 h4;obtain⟨v,z,g1,Z,g3⟩:=kds (P:=P) (G:=G) (w:=w) (K:=λz=>K (s.put B z)) U aa.toList am ao (kew _ _ h3 h4);refine value v w (val _ _ _ ?_) (hK _ _ _ _ g3 (hR.put Z B F));rw[<-g1];congr 2;grind|buildSlice t n aa=>
  obtain⟨h1,M,h3,h4,h5,h6⟩:=ho;obtain⟨q,hq⟩:=qai.1 h1;obtain⟨sz,bt⟩:=q;obtain⟨l,hl⟩:=qai.1 h3;have e1:rowD P t=(sz,bt):=by simp[rowD,hq]
  simp only[e1,hl,qbt]at h4 h5 h6;rw[toDs_eq]at hl;obtain⟨v,w',G',g1,Z,g3,_⟩:=hR.buildSlice hq aa.toList n M hl (k2o h4) h5 s.nx (s.nx+1) (.inl ⟨rfl,rfl⟩) (by cases ba:s.h.get s.nx with
   |none=>rfl|some ob=>exact absurd (hR.wr.hid _ _ ba) qqo);rcases h6 with h6|h6;case inr=>obtain⟨v,w',G',g1,Z,g3⟩:=hR.buildRow hq aa.toList n M hl (k2o h4) h5;refine value v w' (val _ _ _ ?_) (hK _ _ _ _ h6 (Z.put g3 B F));rw[<-g1];congr 2;grind
  refine value v w' (val _ _ _ ?_) (hK _ _ _ _ h6 (Z.put g3 B F));rw[<-g1];congr 2;grind|call c=>obtain⟨ai,args,J⟩:=c;cases ai with
  |builtin b=>cases b with
   |append=>
    obtain⟨⟨h1,M,h3⟩,ag⟩:=ho;obtain⟨x,y,rfl⟩:∃x y,args=#[x,y]:=by
     obtain⟨l⟩:=args;match l,h1 with|[x,y],_=>grind
    obtain⟨t,t',rfl⟩:∃x y,J=#[x,y]:=by
     obtain⟨l⟩:=J;match l,M with|[x,y],_=>grind
    have e0:(#[t,t']:Array TypeId).getD 0 0=t:=rfl;have bb:(#[t,t']:Array TypeId).getD 1 0=t':=rfl;simp only at h3 ag;rw[e0,bb]at h3;subst h3;have ex:(#[x,y]:Array Operand).getD 0 (.const .nilIface)=x:=rfl;have ey:(#[x,y]:Array Operand).getD 1 (.const .nilIface)=y:=rfl;have e0:(#[t,t]:Array TypeId).getD 0 0=t:=rfl;simp only[ex,ey,e0]at ag;rcases ag with⟨h4,h5⟩|ag;case inr=>obtain⟨v',w',G',s',q1,q2,q3⟩:=hR.appRow (ty:=ty) (x:=x) (y:=y) F ag;refine value v' w' ?_ (hK _ _ _ _ q2 q3);simp only[execOp,resolve,invoke,builtin,qw,qag,qj,qct,qaj,qda,q1]
    obtain⟨k1,k2,k3,k4,k5⟩:=h4;obtain⟨q,hq⟩:=qai.1 k1;obtain⟨sz,bt⟩:=q;have e1:rowD P t=(sz,bt):=by simp[rowD,hq]
    unfold appS at h5;simp only[e1]at k2 k3 k4 k5 h5;obtain⟨g,hg⟩:=qai.1 k2;obtain⟨k,nx',l⟩:=g;obtain⟨l2,ah⟩:=qai.1 (show((s.ev y).els sz).isSome=true from k3);have e2:growD s sz (s.ev x)=(k,nx',l):=by simp[growD,hg]
    have e3:(s.ev y).elsD sz=l2:=by simp[V.elsD,ah]
    simp only[e2,e3]at k4 k5 h5;obtain⟨v,w',G',g1,Z,g3,_⟩:=hR.append hq (U x) (U y) hg ah k4 ty k5;refine value v w' ?_ (hK _ _ _ _ h5 (Z.put g3 B F));simp only[execOp,resolve,invoke,builtin,qw,qag,qj,qct,qaj,qda,g1]|copy=>
    obtain⟨⟨h1,M⟩,h4,h5⟩:=ho;obtain⟨x,y,rfl⟩:∃x y,args=#[x,y]:=by
     obtain⟨l⟩:=args;match l,h1 with|[x,y],_=>grind
    obtain⟨t,t',rfl⟩:∃x y,J=#[x,y]:=by
     obtain⟨l⟩:=J;match l,M with|[x,y],_=>grind
    have e0:(#[t,t']:Array TypeId).getD 0 0=t:=rfl;have ex:(#[x,y]:Array Operand).getD 0 (.const .nilIface)=x:=rfl;have ey:(#[x,y]:Array Operand).getD 1 (.const .nilIface)=y:=rfl;simp only[ex,ey,e0]at h4 h5;have hx:=U x;have hy:=U y;generalize s.ev x=xv at hx h4 h5;cases xv with
    |row id off len sz=>
     simp only[copyOk,copyH,copyN]at h4 h5;obtain⟨⟨k1,k2⟩,k3,k4⟩:=h4;obtain⟨q,hq⟩:=qai.1 k1;obtain⟨bc,bt⟩:=q;have e1:rowD P t=(bc,bt):=by simp[rowD,hq]
     rw[e1]at k2;simp only at k2;subst k2;obtain⟨l2,ah⟩:=qai.1 (show((s.ev y).els sz).isSome=true from k3);have e3:(s.ev y).elsD sz=l2:=by simp[V.elsD,ah]
     rw[e3]at h5;cases hg:s.h.get id with
     |none=>rw[hg]at k4;exact k4.elim|some ob=>cases ob with
      |cells l=>rw[hg]at k4 h5;simp only[copyO]at h5;obtain⟨w',g1,Z⟩:=hR.copy (t':=t') (ty:=ty) hq hx hy ah hg k4;refine value _ w' ?_ (hK _ _ _ _ h5 (Z.put (.d _ _ (.int _ _)) B F));simp only[execOp,resolve,invoke,builtin,qw,qag,qj,qct,qaj,qda,g1];rfl|_=>rw[hg]at k4;exact k4.elim
    |_=>exact h4.elim
   |delete=>grind[k27]|len=>grind[k27]|_=>exact ad ho.1 ho.2
  |value f=>
   rcases ho with⟨g,r,h1,M,h3⟩|ho;.have hf:=U f;rw[h1]at hf;have aj:=hf.k_inv;obtain⟨v,g1,Z⟩:=M G w s.h s.nx (args.toList.map a.eval) qqs (by grind);refine value v w ?_ (hK _ _ _ _ h3 (hR.put Z B F));simp only[execOp,resolve,Deferred.ofValue,aj,qw,qag,qj,invoke];rw[<-g1];congr 2;grind
   obtain⟨g,xs,pre,r,bk,ids,h1,M,h3,h4,bd,p1,p2,p3,h5,h6,h7⟩:=ho;obtain⟨vs,us,aj,aq⟩:=fn_rep (U f) h1;obtain⟨g1,Z⟩:=k7c h5;have au:=aq (args.toList.map a.eval) (args.toList.map s.ev) ⟨by simp,by grind⟩;have aw:(vs++(args.toList.map a.eval++us)).length=xs.length:=au.1.trans g1;have ak:=hR.call h4 bd p1 p2 p3 (.inl ⟨rfl,rfl⟩) aw (λj v x hv hx=>by
    have hj:j<(fnA (s.ev f) (args.toList.map s.ev)).length:=by grind
    obtain⟨q1,q2⟩:=Z j _ x (qf hj) hx;exact⟨(au.2 j v _ hv (by grind)).le q1,q2⟩) h6;unfold Oper.wp;have ab:(execOp a.eval ⟨B,.call ⟨.value f,args,J⟩,ty,pos,X,Y⟩).run P w=.ok (.enter g (vs++(args.toList.map a.eval++us)).toArray) w:=by simp only[execOp,resolve,Deferred.ofValue,aj,qw,qag,qj,invoke,callFunc,run_program];cases bf:P.funcs[g]? with
    |none=>grind|some fn=>
     simp only[bf,qel,qbn,ne_eq,qaq]at M h3;have bg:(fn.name== "runtime.NumGoroutine")=false:=by grind
     have bh:fn.body.isNone=false:=by simp_all
     simp only[bg,bh,qbo,qee,qag];simp_all
   rw[ab];refine ak.mono λe w'⟨v,G',he,ac,hv,_⟩=>?_;subst he;exact hK _ _ _ _ h7 (ac.put hv B F)|invoke r m=>grind
 |binOp op t x y t'=>simp only at ho;cases hn:isNilV (s.ev y)with
  |false=>grind|true=>
   rw[hn]at ho;obtain⟨h1,M,h3,h4⟩:=ho;have hy:=U y;have bi:s.ev y=.k (.slice none 0 0):=by unfold isNilV at hn;grind
   rw[bi]at hy;have bj:=hy.k_inv;obtain⟨e,hu⟩:∃e,P.underlying t=some (.slice e):=by unfold isSl at M;grind
   obtain⟨A,n,c,ax,hm⟩:∃A n c,a.eval x=.slice A n c/\(A=none->nilMay (s.ev x)):=by
    have hx:=U x;have hd:∀(v:Value)(sz:Nat)(l:List D),RepD G.lim w v (.slice sz l)->∃A n c,v=.slice A n c/\(A=none->l=[]):=by intro v sz l hd;cases hd with
     |nil A=>grind|slice b off cap _ _ vs bm bn=>grind
    generalize a.eval x=v at hx;generalize s.ev x=z at hx h3;unfold nilOk at h3;split at h3;.cases hx with|d _ _ h=>exact hd _ _ _ h
    .cases hx with|own _ _ _ _ h=>exact hd _ _ _ h
    .obtain⟨A,rfl,h⟩:=hx.full_inv;obtain⟨A',n',c',e1,e2⟩:=hd _ _ _ h;injection e1 with e1;subst e1;exact⟨_,_,_,rfl,e2⟩
    .cases hx with
     |row=>grind|rown A _ _ _ _=>exact⟨A,0,0,rfl,λ_=>rfl⟩
    grind
   have ab:(Op.equal t (.slice A n c) (.slice none 0 0)).run P w=.ok A.isNone w:=by
    have key:∀d,(Op.equalIn (d+1) t (.slice A n c) (.slice none 0 0)).run P w=.ok A.isNone w:=by intro d;cases A<;>simp[Op.equalIn,qam hu]
    exact key 9999
   have hg:(eqGuard op t x y (.slice A n c) (.slice none 0 0)).run P w=.ok () w:=by unfold eqGuard;simp_all
   have hb:a.eval x=.slice A n c:=ax;refine value (.bool (if op=.eql then A.isNone else !A.isNone)) w ?_ ?_;.simp only[execOp,ax,bj];refine val _ _ _ ?_;simp only[qw,hg,qj];cases op<;>simp only[isEq]at h1<;>simp[binOp,ab]
   .refine hK _ _ _ _ (h4 A.isNone λhA=>hm (by simp_all)) (hR.put ?_ B F);cases op<;>simp only[isEq]at h1<;>exact .d _ _ (.bool _)
 |makeSlice t l c=>
  obtain⟨h1,M⟩:=ho;simp only at h1 M;have hx:=U l;have hy:=U c;generalize s.ev l=lv at hx h1 M;generalize s.ev c=cv at hy h1;unfold mkOk at h1;split at h1
  .rename_i q n q' m;obtain⟨⟨k1,k2⟩,k3,k4,k5,k6⟩:=h1;obtain⟨r,hr⟩:=qai.1 k1;obtain⟨sz,bt⟩:=r;obtain⟨zs,ay⟩:=qai.1 k2;have e1:rowD P t=(sz,bt):=by simp[rowD,hr]
   have e2:elZD P t=zs:=by simp[elZD,ay]
   simp only[e1,e2,natOf]at M k5;obtain⟨n',rfl⟩:=qm k3;obtain⟨c',rfl⟩:=qm (qes k3 k4);obtain⟨v,w',G',g1,Z,g3,_⟩:=hR.make hr ay (n:=n') (c:=c') (q:=q) (q':=q') qqo (by grind) (by grind) s.nx (s.nx+1) (.inl ⟨rfl,rfl⟩);refine value v w' (val _ _ _ ?_) (hK _ _ _ _ (by grind) (Z.put g3 B F));simp only[hx.int_inv,hy.int_inv];exact g1
  grind|makeMap t r=>grind[k27]|lookup t x i c=>grind[k27]|mapUpdate t m k v=>grind[k27]|range t x=>grind[k27]|next x b=>grind[k27]|entry x=>grind[k27]|_=>exact ad ho.1 ho.2
theorem k7f(Y:R T G0 w0 N s a G w){ops:List Oper}{j:Nat}{t:Bool}(B:guardV s (ops.map (·.dst)) j=.d (.bool t)):yielded ops.toArray a.tmps j=some t:=by
 unfold guardV at B;split at B
 .rename_i u F;have J:=Y.sl u;rw[B]at J;have M:=J.bool_inv;unfold yielded;have X:(ops.toArray[j]?).bind (·.dst)=some u:=by grind
  rw[X];simp;have:a.tmps[u]?=some (.bool t):=by
   rcases qaw u a.tmps.size with h|h;.simp_all
   .simp[Nat.not_lt.2 h]at M;cases M
  rw[this]
 .cases B
theorem kgl(X:R T G0 w0 N s a G w){ops:List Oper}{j:Nat}(B:guardV s (ops.map (·.dst)) j=.k undef):yielded ops.toArray a.tmps j=none:=by
 unfold guardV at B;split at B
 .rename_i u F;have J:=X.sl u;rw[B]at J;have Z:=J.k_inv;unfold yielded;have U:(ops.toArray[j]?).bind (·.dst)=some u:=by grind
  rw[U];simp;cases hc:a.tmps[u]? with
  |none=>rfl|some v=>
   have:v=undef:=by simp_all
   subst this;rfl
 .cases B
def Sat(P:Program)(T:Tk)(G0:Gh)(w0:World)(N:Nat)(c:Code)(s:St)(Q:Exit->St->Prop):Prop:=∀G a w,R T G0 w0 N s a G w->c.wp P (λe B w'=>∃s' G',Q e s'/\R T G0 w0 N s' B G' w') a w
def thenA(K:St->Prop)(Q:Exit->St->Prop):Exit->St->Prop
 |.normal,s=>K s|e,s=>Q e s
def blockA(id:Nat)(Q:Exit->St->Prop):Exit->St->Prop
 |.exit B,s=>if B=id then Q .normal s else Q (.exit B) s|e,s=>Q e s
variable{Q:Exit->St->Prop}
theorem sat_seq{x y:Code}(h:Sat P T G0 w0 N x s (thenA (λs'=>Sat P T G0 w0 N y s' Q) Q)):Sat P T G0 w0 N (.seq x y) s Q:=by intro G a w J;refine wp_seq (wp_mono (h G a w J) ?_);rintro e M w'⟨s',G',F,B⟩;cases e with
 |normal=>exact F G' M w' B|_=>exact⟨s',G',F,B⟩
theorem kpt(h:Q .normal s):Sat P T G0 w0 N .skip s Q:=λG _ _ B=>wp_skip ⟨s,G,h,B⟩
theorem kpv{id:Nat}(h:Q (.exit id) s):Sat P T G0 w0 N (.exit id) s Q:=λG _ _ B=>wp_exit ⟨s,G,h,B⟩
theorem sat_ret(h:Q .ret s):Sat P T G0 w0 N .ret s Q:=λG _ _ B=>wp_ret ⟨s,G,h,B⟩
theorem kkr{l:Nat}(h:Q .normal s):Sat P T G0 w0 N (.label l) s Q:=λG _ _ B=>wp_label ⟨s,G,h,B⟩
theorem k8w{c:Operand}{x y:Code}{t:Bool}(J:s.ev c=.d (.bool t))(M:t=true->Sat P T G0 w0 N x s Q)(U:t=false->Sat P T G0 w0 N y s Q):Sat P T G0 w0 N (.cond c x y) s Q:=by intro G a w B;have F:=B.ev c;rw[J]at F;exact wp_cond_split F.bool_inv (λh=>M h G a w B) λh=>U h G a w B
theorem kkn{id:Nat}{c:Code}(h:Sat P T G0 w0 N c s (blockA id Q)):Sat P T G0 w0 N (.block id c) s Q:=by intro G a w J;refine wp_block (wp_mono (h G a w J) ?_);rintro e U w'⟨s',G',F,B⟩;cases e with
 |exit M=>simp only[blockA]at F;simp only[Exit.inBlock];grind|_=>exact⟨s',G',F,B⟩
theorem k18{c:Code}{B:Exit->St->Prop}(h:Sat P T G0 w0 N c s Q)(J:∀e s,Q e s->B e s):Sat P T G0 w0 N c s B:=λG a w F=>wp_mono (h G a w F) (by grind)
def initSl:Nat->List V->List (Nat×V)
 |_,[]=>[]|k,x::r=>(k,x)::initSl (k+1) r
theorem khf:∀xs k t,getS (initSl k xs) t=if k<=t then(xs[t-k]?).getD .any else .any
 |[],k,t=>by simp[initSl,getS]|x::r,k,t=>by
  simp only[initSl,getS];by_cases B:t=k;.grind
  .rw[qe B,khf r (k+1) t];grind
def resV(P:Program)(s:St):ResultVar->V
 |.tmp t=>getS s.sl t|.cell t ty=>loadV (tyOf P ty) s.h (getS s.sl t)
def resOk(P:Program)(s:St):ResultVar->Prop
 |.tmp _=>True|.cell t ty=>loadOk (tyOf P ty) s.h (getS s.sl t)
def retV:List V->V
 |[x]=>x|l=>.tup l
def allOk(P:Program)(s:St):List ResultVar->Prop
 |[]=>True|r::B=>resOk P s r/\allOk P s B
def rh(ρ:Ln)(i:Nat):Nat:=ρ.getD i 0
def postOk(h:Hp)(σ:Nat->Nat)(m nx:Nat):Ln->List Ob->Prop
 |[],[]=>True|k::B,o::os=>(k<nx/\obLe (h.get k) (renO σ o)/\okO m o)/\postOk h σ m nx B os|_,_=>False
theorem kdi{h:Hp}{nx:Nat}{σ:Nat->Nat}{m:Nat}:∀{F:Ln}{os:List Ob},postOk h σ m nx F os->F.length=os.length/\∀(i k:Nat)o,F[i]?=some k->os[i]?=some o->k<nx/\obLe (h.get k) (renO σ o)/\okO m o
 |[],[],_=>⟨rfl,by simp⟩|k::F,o::os,B=>by obtain⟨h1,U⟩:=kdi B.2;refine⟨by simp[h1],λi X o' J M=>?_⟩;cases i with
  |zero=>simp at J M;subst J;subst M;exact B.1|succ i=>exact U i X o' J M
 |[],_::_,B=>B.elim|_::_,[],B=>B.elim
def RetA(P:Program)(F:List ResultVar)(r:V)(J:Nat)(B:List Ob)(s:St):Prop:=allOk P s F/\∃ρ,le (retV (F.map (resV P s))) (ren (rh ρ) r)/\ok B.length r/\noTup r/\postOk s.h (rh ρ) B.length s.nx ρ B/\ρ.Nodup/\J<=B.length/\∀i,i<J->ρ[i]?=some i
def retQ(P:Program)(F:List ResultVar)(r:V)(J:Nat)(B:List Ob):Exit->St->Prop
 |.normal,s=>RetA P F r J B s|.ret,s=>RetA P F r J B s|_,_=>False
def resSem(B:Array Value):ResultVar->Sem Value
 |.tmp t=>pure (B.getD t undef)|.cell q t=>do loadVar t (<-asAddr (B.getD q undef))
theorem ksn(fn:Func)(B:Array Value):results fn B=(do let vs<-fn.results.mapM (resSem B);pure (if h:vs.size=1 then vs[0]else .tuple vs)):=by congr 1
theorem kdf(M:R T G0 w0 N s a G w):∀F,allOk P s F->∃vs,(F.mapM (resSem a.tmps)).run P w=.ok vs w/\vs.length=F.length/\∀(j:Nat)v x,vs[j]?=some v->(F.map (resV P s))[j]?=some x->RepV G w s.h s.nx v x
 |[],_=>⟨[],by simp,rfl,by simp⟩|r::F,X=>by
  obtain⟨vs,h1,Y,h3⟩:=kdf M F X.2;have J:∃v,(resSem a.tmps r).run P w=.ok v w/\RepV G w s.h s.nx v (resV P s r):=by cases r with
   |tmp t=>exact⟨_,rfl,M.sl t⟩|cell q t=>obtain⟨v,B,U⟩:=kex (P:=P) (ρ:=a.eval) (ev:=s.ev) M.ev M.wr.obj (o:=⟨none,.load t (.tmp q),0, "",#[],none⟩) X.1;refine⟨v,?_,U⟩;simp only[execOp,Instr.loadAt,qw]at B;simp only[resSem,qw];have ev:a.eval (.tmp q)=a.tmps.getD q undef:=rfl;rw[ev]at B;generalize a.tmps.getD q undef=Z at B⊢;cases Z with
    |pointer p=>cases p with
     |none=>simp[Instr.sureAddr,stuck]at B|some ad=>simp only[Instr.sureAddr,asAddr,qag,qj]at B⊢;cases hl:(loadVar t ad).run P w with
      |ok v' w'=>simp_all|halt h w'=>simp_all
    |_=>simp[Instr.sureAddr,stuck]at B
  obtain⟨v,B,U⟩:=J;refine⟨v::vs,?_,by simp[Y],λj u x hu hx=>?_⟩;.simp_all
  grind
theorem kor{f:FuncId}{fn:Func}{c:Code}{xs:List V}{pre:List Ob}{r:V}{B:List Ob}(hf:P.funcs[f]?=some fn)(hb:fn.body=some c)(hN:fn.ntmps=N)(bh:xs.length<=N)(aj:∀G0 w0,Sat P (tkOf G0 pre) G0 w0 N c ⟨initSl 0 xs,hpOf 0 pre,pre.length⟩ (retQ P fn.results.toList r pre.length B)):SoundH P f xs pre r B:=by
 intro G w vs bc ag hW;refine calls_of_wp hf hb ?_;have hR:R (tkOf G pre) G w N ⟨initSl 0 xs,hpOf 0 pre,pre.length⟩ ⟨vs.toArray++Array.replicate (fn.ntmps-vs.toArray.size) undef,[]⟩ G w:=by
  refine⟨⟨rfl,rfl,rfl,qaf _,λ_ _ _=>⟨rfl,rfl⟩,Mono.refl _ _⟩,hW,rfl,by simp;omega,λt=>?_,⟨qaf _,λ_ _ _ h=>h,λtok t' _ h=>⟨t',h,qaf _,λ_ _ hb=>⟨hb,rfl,rfl⟩⟩,λ_ _ h=>h⟩⟩;rw[khf,qg (qbf _),Nat.sub_zero];rcases qaw t xs.length with ht|ht
  .rw[qf ht,qbt];have hv:vs[t]?=some (vs[t]' qqo):=qf qqo;have e:(vs.toArray++Array.replicate (fn.ntmps-vs.toArray.size) undef).getD t undef=vs[t]' qqo:=by rw[qfn,Array.getElem?_append_left qqm];simp[hv]
   rw[e];exact ag t _ _ hv (qf ht)
  .rw[qfe ht];exact .any _
 refine wp_mono (aj G w G _ w hR) ?_;rintro e a' w'⟨s',G',hq,F⟩;have aa:RetA P fn.results.toList r pre.length B s'->∃v,(results fn a'.tmps).run P w'=.ok v w'/\∃v' J,(.returned v:Ending)=.returned v'/\RepV J w' (hpOf 0 B) B.length v' r/\WR (tkOf G pre) w.heap.size J w' (hpOf 0 B) B.length/\Fr (tkOf G pre) G w J w'/\Ex (tkOf G pre) G w J w' (hpOf 0 B) B.length:=by
  rintro⟨ak,ρ,h1,h2,h3,h4,h5,h6,h7⟩;obtain⟨us,k1,k2,k3⟩:=kdf F fn.results.toList ak;obtain⟨v,al,am⟩:∃v,(results fn a'.tmps).run P w'=.ok v w'/\RepV G' w' s'.h s'.nx v (retV (fn.results.toList.map (resV P s'))):=by
   have hm:(fn.results.mapM (resSem a'.tmps)).run P w'=.ok us.toArray w':=by rw[Array.mapM_eq_mapM_toList];simp only[Sem.run_map,k1,qj]
   refine⟨if h:us.toArray.size=1 then us.toArray[0]else .tuple us.toArray,?_,?_⟩;.rw[ksn,qw,hm];rfl
   .match us,hrs:fn.results.toList.map (resV P s'),show us.length=(fn.results.toList.map (resV P s')).length by simpa using k2 with
    |[u],[x],_=>simp only[qdp,qx,qan,qav,dite_true,retV];exact k3 0 u x rfl (by rw[hrs];rfl)|[],[],_=>simp only[retV];exact .tup [] [] rfl qqs|u::u2::bb,x::x2::bg,hl=>
     have:¬(u::u2::bb).toArray.size=1:=by simp
     rw[dif_neg this];simp only[retV];exact .tup _ _ hl λj v x hv hx=>k3 j v x hv (by rw[hrs];exact hx)
  obtain⟨bf,ao⟩:=kdi h4;have hρ:∀i,i<B.length->ρ[i]?=some (rh ρ i):=λi hi=>by
   have:i<ρ.length:=by omega
   simp[rh,this]
  have X:=λi o ho=>ao i _ o (hρ i (qq.1 ho).1) ho;have ab:=λi hi=>(X i _ (qf hi)).1;have U:∀i,i<pre.length->rh ρ i=i:=λi hi=>by simp[rh,h7 i hi]
  have ah:∀i j,i<B.length->j<B.length->rh ρ i=rh ρ j->i=j:=by intro i j hi hj aq;exact(List.getElem?_inj qqo h5).1 (by rw[hρ i hi,hρ j hj,aq])
  let J:Gh:=⟨λi=>G'.loc (rh ρ i),λi=>G'.tloc (rh ρ i),G'.lim⟩;have hw:=F.wr;have M:∀i t,i<B.length->(hpOf 0 B).get i=some (.tip t)->s'.h.get (rh ρ i)=some (.tip t):=by intro i t hi Y;rw[ky]at Y;exact k48 (X i _ Y).2.1
  have Z:∀i,live (hpOf 0 B) i->live s'.h (rh ρ i):=by intro i l;obtain⟨o,ho,hd⟩:=live_of l;rw[ky]at ho;obtain⟨_,q,_⟩:=X i o ho;cases o with
   |cells l=>obtain⟨l0,q1,_⟩:=k2u q;exact ki q1|tip t=>exact k1i (k48 q)|map es=>exact k9o q|dead=>exact(hd rfl).elim
  refine⟨v,al,v,J,rfl,?_,⟨?_,?_,?_,?_,?_,hw.lim⟩,⟨F.fr.os,F.fr.tape,F.fr.output,F.fr.size,F.fr.same,F.fr.mono⟩,⟨h6,?_,?_,F.ex.csz⟩⟩;.exact kej (σ:=rh ρ) (G:=G') (G':=J) (h:=s'.h) (nx:=s'.nx) rfl (λ_ _=>rfl) (λ_ _=>rfl) M (am.le h1) h2
  .intro id l Y;rw[ky]at Y;obtain⟨_,q1,q2⟩:=X id _ Y;obtain⟨l0,au,aw⟩:=k2u q1;obtain⟨n1,n2,n3⟩:=k37 aw;rw[qp]at n1;rcases hw.obj (rh ρ id) l0 au with⟨z1,z2⟩|⟨b,e',cs,m1,m2,m3,m4,m5,m6⟩;.exact .inl ⟨qax (by rw[z1]at n1;simpa using n1.symm),z2⟩
   refine .inr ⟨b,e',cs,m1,m2,m3,by omega,λx hx=>?_,λj u x hu hx=>?_⟩;.rw[<-k42 (rh ρ) x];exact n2 _ (qap.2 ⟨x,hx,rfl⟩)
   .have hj:j<l0.length:=by have:=(qq.1 hx).1;omega
    have:=(m6 j u _ hu (qf hj)).le1 (n3 j _ (ren1 (rh ρ) x) (qf hj) (by rw[qr,hx];rfl));exact k4p (G:=G') (G':=J) rfl (λ_ _=>rfl) (λ_ _=>rfl) M this (k5l q2 j x hx)
  .intro id es Y;rw[ky]at Y;obtain⟨_,q1,q2⟩:=X id _ Y;have hr:=hw.mobLe q1;have tr:∀{ms:List MapEntry}{l:List (D×V)},okM B.length l->EntR G' w' s'.h s'.nx ms (l.map λe=>(e.1,ren0 (rh ρ) e.2))->EntR J w' (hpOf 0 B) B.length ms l:=λho hl=>hl.tr qqs λj e e' n1 n2=>by
    rw[qr,n2]at n1;obtain rfl:(e'.1,ren0 (rh ρ) e'.2)=e:=by simpa using n1
    exact⟨renE_tup',λ_ k v r1 r2=>⟨r1,k2n (G:=G') (G':=J) rfl (λ_ _=>rfl) (λ_ _=>rfl) M r2 (k64 ho j e' n2)⟩⟩
   cases es with
   |m es=>obtain⟨b,ac,ms,m1,m2,m3,m4⟩:=hr;exact⟨b,ac,ms,m1,m2,tr q2 m3,m4⟩|it mid rest bd=>obtain⟨b,bm,ad,ai,c0,m1,m2,m3,m4,m5,m6⟩:=hr;refine⟨b,bm,ad,ai,c0,m1,m2,q2.1,m4,m5,λes hm=>?_⟩;rw[ky]at hm;obtain⟨ac,ms,n1,n2,n3,n4⟩:=m6 _ (obLe_m (X mid _ hm).2.1);refine⟨ac,ms,n1,n2,tr q2.2.1 n3,λe hl=>?_⟩;obtain⟨p1,m,ae,p2,p3,p4,p5⟩:=n4 (e.1,ren0 (rh ρ) e.2) (by rw[hl];rfl);exact⟨λl hl=>by obtain⟨l',ax⟩:=renE_tup' (σ:=rh ρ) l hl;exact p1 l' ax,m,ae,p2,p3,p4,k2n (G:=G') (G':=J) rfl (λ_ _=>rfl) (λ_ _=>rfl) M p5 (q2.2.2 e hl)⟩
  .intro id b hi hb;exact hw.here (rh ρ id) b (ab id hi) hb
  .intro i j b hi hj ay az li lj;exact ah i j hi hj (hw.inj (rh ρ i) (rh ρ j) b (ab i hi) (ab j hj) ay az (Z i li) (Z j lj))
  .intro id ob Y;rw[ky]at Y;exact(qq.1 Y).1
  .intro id b hi hb;have hi:=hi;show G'.loc (rh ρ id)=some b;rw[U id hi];exact F.ex.loc id b hi hb
  .intro tok t' ht Y;have ht:tok<pre.length:=ht;have:=M tok t' qqo Y;rw[U tok ht]at this;obtain⟨t0,q1,q2,q3⟩:=F.ex.tok tok t' ht this;refine⟨t0,q1,q2,λba b hb=>?_⟩;obtain⟨r1,r2,r3⟩:=q3 ba b hb;exact⟨by show G'.tloc (rh ρ tok)=some b;rw[U tok ht];exact r1,r2,r3⟩
 cases e with
 |normal=>obtain⟨v,h1,h2⟩:=aa hq;exact⟨F.df,v,h1,h2⟩|ret=>obtain⟨v,h1,h2⟩:=aa hq;exact⟨F.df,v,h1,h2⟩|_=>exact hq.elim
end
structure Eff where
 d:On
 x:V
 hu:Hp
 rd:Ln
def Eff.app(e:Eff)(s:St):St:=St.put ⟨s.sl,e.hu++s.h,s.nx⟩ e.d e.x
def stE(E:Nat->Bool):List Eff->Nat->St->St
 |[],_,s=>s|e::es,k,s=>stE E es (k+1) (if E k then e.app s else s)
def slotE(E:Nat->Bool)(t:Nat):List Eff->Nat->V->V
 |[],_,v=>v|e::es,k,v=>slotE E t es (k+1) (if E k=true/\e.d=some t then e.x else v)
def heapE(E:Nat->Bool)(i:Nat):List Eff->Nat->Option Ob->Option Ob
 |[],_,o=>o|e::es,k,o=>heapE E i es (k+1) (if E k=true/\(Hp.get e.hu i).isSome=true then Hp.get e.hu i else o)
theorem app_nx(e:Eff)(s:St):(e.app s).nx=s.nx:=by unfold Eff.app St.put;grind
theorem app_h(e:Eff)(s:St):(e.app s).h=e.hu++s.h:=by unfold Eff.app St.put;grind
theorem app_get(e:Eff)(s:St)(t:Nat):getS (e.app s).sl t=if e.d=some t then e.x else getS s.sl t:=by unfold Eff.app;cases B:e.d with
 |none=>simp[St.put]|some u=>simp only[St.put,getS];grind
theorem knf(e:Eff)(s:St)(i:Nat):(e.app s).h.get i=if(Hp.get e.hu i).isSome=true then Hp.get e.hu i else s.h.get i:=by grind[app_h,k2t]
theorem stE_nx(E:Nat->Bool):∀es k s,(stE E es k s).nx=s.nx
 |[],_,_=>rfl|e::es,k,s=>by
  rw[stE,stE_nx E es];split;.exact app_nx e s
  .rfl
theorem stE_get(E:Nat->Bool)(t:Nat):∀es k s,getS (stE E es k s).sl t=slotE E t es k (getS s.sl t)
 |[],_,_=>rfl|e::es,k,s=>by
  rw[stE,stE_get E t es,slotE];by_cases B:E k=true;.rw[qg B,app_get];grind
  grind
theorem k1z(E:Nat->Bool)(i:Nat):∀es k s,(stE E es k s).h.get i=heapE E i es k (s.h.get i)
 |[],_,_=>rfl|e::es,k,s=>by
  rw[stE,k1z E i es,heapE];by_cases B:E k=true;.rw[qg B,knf];grind
  grind
theorem k4i{E F:Nat->Bool}{t:Nat}:∀es k v,(∀j(e:Eff),es[j]?=some e->e.d=some t->E (k+j)=F (k+j))->slotE E t es k v=slotE F t es k v
 |[],_,_,_=>rfl|e::es,k,v,h=>by
  have J:=h 0 e rfl;have M:(if E k=true/\e.d=some t then e.x else v)=if F k=true/\e.d=some t then e.x else v:=by grind
  rw[slotE,slotE,M];exact k4i es (k+1) _ λj U B X=>by rw[show k+1+j=k+(j+1)by omega];exact h (j+1) U (by simpa using B) X
theorem k4g{E F:Nat->Bool}{i:Nat}:∀es k o,(∀j e,es[j]?=some e->(Hp.get e.hu i).isSome=true->E (k+j)=F (k+j))->heapE E i es k o=heapE F i es k o
 |[],_,_,_=>rfl|e::es,k,o,h=>by
  have J:=h 0 e rfl;have M:(if E k=true/\(Hp.get e.hu i).isSome=true then Hp.get e.hu i else o)=if F k=true/\(Hp.get e.hu i).isSome=true then Hp.get e.hu i else o:=by grind
  rw[heapE,heapE,M];exact k4g es (k+1) _ λj U B X=>by rw[show k+1+j=k+(j+1)by omega];exact h (j+1) U (by simpa using B) X
theorem kl0{E:Nat->Bool}{t i:Nat}:∀es k v(e:Eff),es[i]?=some e->E (k+i)=false->(∀j(F:Eff),i<j->es[j]?=some F->E (k+j)=true->e.d=some t->F.d≠some t)->slotE (λn=>if n=k+i then true else E n) t es k v=if e.d=some t then e.x else slotE E t es k v
 |[],_,_,_,he,_,_=>by simp at he|e0::es,k,v,e,he,hE,hl=>by cases i with
  |zero=>
   simp at he;subst he;simp only[qcz]at hE⊢;rw[slotE,slotE];simp only[qcj,true_and,hE,qbo,false_and,qee];have M:∀J,slotE (λn=>if n=k then true else E n) t es (k+1) J=slotE E t es (k+1) J:=λJ=>k4i es (k+1) J (by grind);rw[M];by_cases Z:e0.d=some t
   .rw[qg Z,qg Z];have B:∀es' Y J,(∀j F,es'[j]?=some F->E (Y+j)=true->F.d≠some t)->slotE E t es' Y J=J:=by intro es';induction es' with
     |nil=>intro _ _ _;rfl|cons e1 es' ih=>intro Y J h';rw[slotE,ih (Y+1) _ λj F U X=>h' (j+1) F (by grind) (by grind)];rw[qe];rintro⟨h1,h2⟩;exact h' 0 e1 rfl (by grind) h2
    exact B es (k+1) e0.x λj F U X=>hl (j+1) F qqo (by grind) (by grind) Z
   grind|succ i=>
   rw[slotE,slotE];have hk:k≠k+(i+1):=by omega
   simp only[qe hk];have:=kl0 (E:=E) (t:=t) (i:=i) es (k+1) (if E k=true/\e0.d=some t then e0.x else v) e (by grind) (by grind) λj F aa U X=>hl (j+1) F qqo (by grind) (by grind);grind
theorem kkx{E:Nat->Bool}{t i:Nat}:∀es k v e,es[i]?=some e->E (k+i)=false->(∀j F,i<j->es[j]?=some F->E (k+j)=true->(Hp.get e.hu t).isSome=true->(Hp.get F.hu t).isSome≠true)->heapE (λn=>if n=k+i then true else E n) t es k v=if(Hp.get e.hu t).isSome=true then Hp.get e.hu t else heapE E t es k v
 |[],_,_,_,he,_,_=>by simp at he|e0::es,k,v,e,he,hE,hl=>by cases i with
  |zero=>
   simp at he;subst he;simp only[qcz]at hE⊢;rw[heapE,heapE];simp only[qcj,true_and,hE,qbo,false_and,qee];have M:∀J,heapE (λn=>if n=k then true else E n) t es (k+1) J=heapE E t es (k+1) J:=λJ=>k4g es (k+1) J (by grind);rw[M];by_cases Z:(Hp.get e0.hu t).isSome=true
   .rw[qg Z,qg Z];have B:∀es' Y J,(∀j F,es'[j]?=some F->E (Y+j)=true->(Hp.get F.hu t).isSome≠true)->heapE E t es' Y J=J:=by intro es';induction es' with
     |nil=>intro _ _ _;rfl|cons e1 es' ih=>intro Y J h';rw[heapE,ih (Y+1) _ λj F U X=>h' (j+1) F (by grind) (by grind)];rw[qe];rintro⟨h1,h2⟩;exact h' 0 e1 rfl (by grind) h2
    exact B es (k+1) _ λj F U X=>hl (j+1) F qqo (by grind) (by grind) Z
   grind|succ i=>
   rw[heapE,heapE];have hk:k≠k+(i+1):=by omega
   have:=kkx (E:=E) (t:=t) (i:=i) es (k+1) (if E k=true/\(Hp.get e0.hu t).isSome=true then Hp.get e0.hu t else v) e (by grind) (by grind) λj F aa U X=>hl (j+1) F qqo (by grind) (by grind);grind
end Go.Bv
namespace Go.Bv
open Go.RowKit
def edgeB(af:Array Edge)(k:Nat):Bool:=af.any λe=>Region.binds .any e&&e.on==k
def frs(nb S k:Nat):Nat:=nb+k*S
def opD(P:Program)(nb S k:Nat)(op:Op)(e:Eff)(s:St):Prop:=match op with
 |.alloc t=>(zeroV P t).isSome=true/\0<S/\e.x=.ptr (frs nb S k) 0/\e.hu=[(frs nb S k,.cells (zeroD P t))]|.box _ x=>(∃n,(s.ev x).flat n)/\0<S/\e.x=.ptr (frs nb S k) 0/\e.hu=[(frs nb S k,.cells (s.ev x).cells)]|.store t a x=>∃id off l g n,s.ev a=.ptr id off/\s.h.get id=some (.cells l)/\tyOf P t=some (g,n)/\(s.ev x).flat n/\off+n<=l.length/\e.x=.any/\e.hu=[(id,.cells (setAt l off (s.ev x).cells))]|.build t B=>(plOf P t).isSome=true/\(zeroV P t).isSome=true/\fillOk (plD P t) (zeroD P t) (B.toList.map λp=>(p.1,s.ev p.2))/\e.x=.agg (fillR (plD P t) (zeroD P t) (B.toList.map λp=>(p.1,s.ev p.2)))/\e.hu=[]|.buildSlice t n B=>((rowOf P t).isSome=true/\B.toList.map (·.1)=List.range n/\(toDs (B.toList.map λp=>s.ev p.2)).isSome=true/\sizesOk (rowD P t).1 ((toDs (B.toList.map λp=>s.ev p.2)).getD [])/\n*(rowD P t).1<=16777216)/\0<S/\(e.x=.full (rowD P t).1 ((toDs (B.toList.map λp=>s.ev p.2)).getD [])/\e.hu=[]∨e.x=.row (frs nb S k) 0 n (rowD P t).1/\e.hu=[(frs nb S k,.cells ((((toDs (B.toList.map λp=>s.ev p.2)).getD []).flatMap D.cells).map .d))])|.load t a=>loadOk (tyOf P t) s.h (s.ev a)/\(∀id off,s.ev a=.ptr id off->id∈e.rd)/\e.x=loadV (tyOf P t) s.h (s.ev a)/\e.hu=[]|.makeSlice t l c=>mkOk P t (s.ev l) (s.ev c)/\0<S/\e.x=.row (frs nb S k) 0 (natOf (s.ev l)) (rowD P t).1/\e.hu=[(frs nb S k,.cells (zrow (natOf (s.ev l)) (elZD P t)))]|.call c=>match c.callee with
  |.value f=>(∃g r,s.ev f=.k (.func (.func g) #[] #[])/\SoundX P g (c.args.toList.map s.ev) r/\e.x=r/\e.hu=[])∨∃g xs pre r post ids,fnG (s.ev f)=some g/\((P.funcs[g]?.bind (·.body)).isSome=true/\P.funcs[g]?.map (·.name)≠some "runtime.NumGoroutine"/\SoundH P g xs pre r post)/\preOk s.h (sgm ids (frs nb S k)) pre.length (frs nb S k) (frs nb S k) ids pre/\ids.Nodup/\ppOk pre post/\leArgs (sgm ids (frs nb S k)) pre.length (fnA (s.ev f) (c.args.toList.map s.ev)) xs/\noTup r/\(post.length-pre.length<=S/\∀j o,post[pre.length+j]?=some o->notTip o)/\e.x=ren (sgm ids (frs nb S k)) r/\e.hu=hpNew (sgm ids (frs nb S k)) 0 post|.builtin .append=>(c.args.size=2/\c.argTypes.size=2/\c.argTypes.getD 0 0=c.argTypes.getD 1 0)/\((∃tok sz bt l,rowOf P (c.argTypes.getD 0 0)=some (sz,bt)/\s.ev (c.args.getD 0 (.const .nilIface))=.own tok sz l/\s.h.get tok=some (.tip l.length)/\isEls sz (s.ev (c.args.getD 1 (.const .nilIface)))/\(l.length+((s.ev (c.args.getD 1 (.const .nilIface))).elsD sz).length)*bt<=140737488355328/\l.length+((s.ev (c.args.getD 1 (.const .nilIface))).elsD sz).length<=maxLen/\e.x=.own tok sz (l++(s.ev (c.args.getD 1 (.const .nilIface))).elsD sz)/\e.hu=[(tok,.tip (l.length+((s.ev (c.args.getD 1 (.const .nilIface))).elsD sz).length))])∨0<S/\appRowE P s.h (frs nb S k) (c.argTypes.getD 0 0) (s.ev (c.args.getD 0 (.const .nilIface))) (s.ev (c.args.getD 1 (.const .nilIface))) e.x e.hu/\∀id off n z,s.ev (c.args.getD 1 (.const .nilIface))=.row id off n z->id∈e.rd)|.builtin .copy=>False|.builtin .delete=>False|_=>avOk P [] s.ev (.call c)/\e.x=av P [] s.ev (.call c)/\e.hu=[]
 |.makeMap _ _=>False|.lookup t x i c=>lookV P s.h s.ev t x i c e.x/\(∀id,s.ev x=.mp id->id∈e.rd)/\e.hu=[]|.mapUpdate t m k v=>∃id es',updV P s.h s.ev t m k v id es'/\e.x=.any/\e.hu=[(id,.map (.m es'))]|op=>avOk P [] s.ev op/\e.x=av P [] s.ev op/\e.hu=[]
def stepD(P:Program)(N:Nat)(tb:List On)(nb S k:Nat)(o:Oper)(e:Eff)(s:St):Prop:=dstOk N o.dst/\e.d=o.dst/\match o.guard with
 |none=>opD P nb S k o.op e s|some (j,b)=>guardV s tb j=.k undef/\e.x=.k undef/\e.hu=[]∨∃t,guardV s tb j=.d (.bool t)/\(t=b->opD P nb S k o.op e s)/\(t≠b->e.x=.k undef/\e.hu=[])
theorem av_h{P:Program}{ev:Operand->V}{op:Op}(h:Hp)(B:∀t a,op≠.load t a):av P h ev op=av P [] ev op/\avOk P h ev op=avOk P [] ev op:=by
 cases op<;>first|exact⟨rfl,rfl⟩|skip
 grind
section
variable{P:Program}{T:Tk}{G0 G:Gh}{w0 w:World}{N:Nat}{s s':St}{a:Act}
theorem khq{h:Hp}{σ:Nat->Nat}{m J nx nx':Nat}(M:nx<=nx'):∀{F:Ln}{os:List Ob},preOk h σ m J nx F os->preOk h σ m J nx' F os
 |[],[],_=>trivial|_::_,_::_,B=>⟨⟨B.1.1,by have:=B.1.2.1;omega,B.1.2.2⟩,khq M B.2⟩|[],_::_,B=>B.elim|_::_,[],B=>B.elim
theorem kdw{h h':Hp}{σ:Nat->Nat}{m J nx:Nat}:∀{F:Ln}{os:List Ob},(∀k∈F,h.get k=h'.get k)->preOk h σ m J nx F os->preOk h' σ m J nx F os
 |[],[],_,_=>trivial|k::_,_::_,he,B=>⟨⟨B.1.1,B.1.2.1,by rw[<-he k qqs];exact B.1.2.2.1,B.1.2.2.2⟩,kdw (by grind) B.2⟩|[],_::_,_,B=>B.elim|_::_,[],_,B=>B.elim
theorem k8f{σ:Nat->Nat}:∀os k i,k<=i->i<k+os.length->(Hp.get (hpNew σ k os) (σ i)).isSome=true
 |[],k,i,h1,F=>by simp at F;omega|o::r,k,i,h1,F=>by
  simp only[hpNew,Hp.get];split;.rfl
  .rename_i B;have:i≠k:=λh=>B (by rw[h]);exact k8f r (k+1) i qqo (by simp at F;omega)
theorem ksq{h h':Hp}{sz:Nat}{y:V}{B:List D}(U:∀id off n z,y=.row id off n z->h.get id≠none->h.get id=h'.get id)(hs:srcV h sz y B):srcV h' sz y B:=by
 rcases hs with hs|⟨id,k,n,F,rfl,J,M⟩;.exact .inl hs
 .exact .inr (by grind)
theorem klo{P:Program}{h h':Hp}{k:Nat}{t:TypeId}{x y r:V}{J:Hp}(hh:∀id,(Hp.get J id).isSome=true->h.get id≠none->h.get id=h'.get id)(hy:∀id off n z,y=.row id off n z->h.get id≠none->h.get id=h'.get id)(F:appRowE P h k t x y r J):appRowE P h' k t x y r J:=by
 obtain⟨sz,M,U,B,hs,F⟩:=F;refine⟨sz,M,U,B,ksq hy hs,?_⟩;rcases F with⟨id,n,l,rfl,X,Y,Z,hm,rfl,rfl⟩|F;.refine .inl ⟨id,n,l,rfl,?_,Y,Z,hm,rfl,rfl⟩;rw[<-hh id (by simp only[Hp.get];grind) (by grind)];exact X
 simp_all
theorem k1j:noIt []:=λi o h=>by cases h
theorem k1h{i:Nat}{o:Ob}{h:Hp}(J:notIt o)(F:noIt h):noIt ((i,o)::h):=by
 intro j o' B;simp only[Hp.get]at B;split at B;.grind
 .exact F j o' B
theorem kpe{σ:Nat->Nat}:∀os k,(∀o∈os,notIt o)->noIt (hpNew σ k os)
 |[],_,_=>k1j|o::r,k,h=>k1h (ksr (h o qqs)) (kpe r (k+1) (by grind))
theorem kun{nb S k:Nat}{op:Op}{e:Eff}(B:opD P nb S k op e s):noIt e.hu:=by
 have nil:e.hu=[]->noIt e.hu:=λh=>by rw[h];exact k1j
 cases op with
 |alloc t=>rw[B.2.2.2];exact k1h trivial k1j|box t x=>rw[B.2.2.2];exact k1h trivial k1j|store t p x=>obtain⟨id,off,l,g,n,_,_,_,_,_,_,h⟩:=B;rw[h];exact k1h trivial k1j|build t ps=>exact nil B.2.2.2.2|buildSlice t n ps=>
  rcases B.2.2 with h|h;.grind
  .rw[h.2];exact k1h trivial k1j|load t x=>exact nil B.2.2.2|makeSlice t l c=>rw[B.2.2.2];exact k1h trivial k1j|makeMap t r=>exact B.elim|lookup t x i c=>exact nil B.2.2|mapUpdate t m k v=>obtain⟨id,es',_,_,h⟩:=B;rw[h];exact k1h trivial k1j|call c=>obtain⟨F,args,J⟩:=c;cases F with
  |invoke r m=>exact nil B.2.2|builtin b=>cases b with
   |copy=>exact B.elim|delete=>exact B.elim|append=>
    obtain⟨_,B⟩:=B;rcases B with⟨tok,sz,U,l,_,_,_,_,_,_,_,h⟩|⟨_,⟨sz,U,Y,_,_,B⟩,_⟩;.rw[h];exact k1h trivial k1j
    .rcases B with⟨id,n,l,_,_,_,_,_,h,_⟩|⟨_,_,_,h,_⟩|⟨l,_,_,_,h,_⟩;.rw[h];exact k1h trivial (k1h trivial k1j)
     .rw[h];exact k1h trivial k1j
     grind|_=>exact nil B.2.2
  |value f=>
   rcases B with⟨g,r,_,_,_,h⟩|⟨g,xs,pre,r,M,ids,_,_,_,_,X,_,_,_,_,h⟩;.exact nil h
   .rw[h];exact kpe M 0 X.n
 |_=>exact nil B.2.2
theorem ktw(hR:R T G0 w0 N s a G w){nb S k:Nat}{o:Oper}{e:Eff}(hd:dstOk N o.dst)(bj:e.d=o.dst)(bk:noIt s.h)(Y:opD P nb S k o.op e s)(hk:frs nb S k+S<=s.nx)(Z:∀j,j<S->G.loc (frs nb S k+j)=none/\G.tloc (frs nb S k+j)=none/\s.h.get (frs nb S k+j)=none){K':Act->World->Prop}{Q:Exit->Act->World->Prop}(hK:∀a' G' w',R T G0 w0 N (e.app s) a' G' w'->(∀i,i<s.nx->i<frs nb S k∨frs nb S k+S<=i->(Hp.get e.hu i).isSome=false->G'.loc i=G.loc i/\G'.tloc i=G.tloc i)->K' a' w'):o.wp P a w K' Q:=by
 have B:∀t,o.dst=some t->t<N:=λt ht=>by rw[ht]at hd;exact hd
 have X:=hR.ev;obtain⟨cb,op,ty,pos,J,M⟩:=o;obtain⟨ed,ex,ax,cc⟩:=e;simp only at bj;subst bj;generalize ag:frs nb S k=fb at*;have value:∀v w',(execOp a.eval ⟨ed,op,ty,pos,J,M⟩).run P w=.ok (.value v) w'->K' (a.put ed v) w'->Oper.wp P ⟨ed,op,ty,pos,J,M⟩ a w K' Q:=by intro v w' h1 U;unfold Oper.wp;rw[h1];exact U
 have val:∀(sv:Sem Value)(v:Value)(w':World),sv.run P w=.ok v w'->(do pure (.value (<-sv)):Sem Next).run P w=.ok (.value v) w':=by intro sv v w' hv;simp only[qw,hv,qj,qag]
 have ah:avOk P s.h s.ev op->ex=av P s.h s.ev op->ax=[]->Oper.wp P ⟨ed,op,ty,pos,J,M⟩ a w K' Q:=by intro h1 U F;subst U;subst F;obtain⟨v,g1,g2⟩:=kex (o:=⟨ed,op,ty,pos,J,M⟩) X hR.wr.obj h1;exact value v w g1 (hK _ _ _ (hR.put g2 ed B) λi _ _ _=>⟨rfl,rfl⟩)
 have ae:(∀t x,op≠.load t x)->avOk P [] s.ev op->ex=av P [] s.ev op->ax=[]->Oper.wp P ⟨ed,op,ty,pos,J,M⟩ a w K' Q:=by intro h0 h1 U F;obtain⟨q1,q2⟩:=av_h (P:=P) (ev:=s.ev) s.h h0;exact ah (by rw[q2];exact h1) (by rw[q1];exact U) F
 cases op with
 |alloc t=>
  obtain⟨h1,hS,U,F⟩:=Y;simp only[ag]at U F;subst U;subst F;obtain⟨l,hl⟩:=qai.1 h1;obtain⟨f1,f2,f3⟩:=Z 0 hS;obtain⟨i,z,hi,hz,ai⟩:=k6s (G:=G) (w:=w) (h:=s.h) (nx:=s.nx) hl;obtain⟨G',ab,hp,hG⟩:=hR.allocAt fb qqo f1 f2 f3 t z.cells.toList l ai.1 ai.2.1 ai.2.2;have e1:zeroD P t=l:=by simp[zeroD,hl]
  refine value _ _ (val _ _ _ ?_) (hK _ _ _ (by rw[e1];exact ab.put hp ed B) λi _ hi _=>hG i qqo);have bm:(zeroValue t).run P w=.ok z w:=by simp[zeroValue,typeInfo,hi,hz]
  simp only[Instr.alloc,qw,bm,qj,newVar,newRow,newObj,Sem.run,qag,qdn];rfl|box t x=>obtain⟨⟨n,h1⟩,hS,U,F⟩:=Y;simp only[ag]at U F;subst U;subst F;obtain⟨f1,f2,f3⟩:=Z 0 hS;obtain⟨g1,g2⟩:=kbu (X x) h1;obtain⟨G',ab,hp,hG⟩:=hR.allocAt fb qqo f1 f2 f3 t (a.eval x).cells.toList (s.ev x).cells g2.1 g2.2.1 g2.2.2;refine value _ _ (val _ _ _ ?_) (hK _ _ _ (ab.put hp ed B) λi _ hi _=>hG i qqo);simp only[Instr.box,newVar,newRow,newObj,qw,Sem.run,qj,qag,qdn];rfl|store t p x=>
  obtain⟨id,off,l,g,n,h1,F,h4,h5,h6,h7,h8⟩:=Y;simp only at h7 h8;subst h7;subst h8;have hp:=X p;rw[h1]at hp;obtain⟨w',ac,ab⟩:=hR.store (P:=P) F (X x) hp h5.2 h4 h5.1 h6;unfold Oper.wp;have:(execOp a.eval ⟨ed,.store t p x,ty,pos,J,M⟩).run P w=.ok .skip w':=by simp only[execOp,qw,ac,qj,qag]
  rw[this];exact hK _ _ _ (ab.put (.any _) ed B) λi _ _ _=>⟨rfl,rfl⟩|build t ad=>
  obtain⟨h1,U,F,h4,h5⟩:=Y;simp only at h4 h5;subst h4;subst h5;obtain⟨pl,ay⟩:=qai.1 h1;obtain⟨l0,az⟩:=qai.1 U;have e1:plD P t=pl:=by simp[plD,ay]
  have e2:zeroD P t=l0:=by simp[zeroD,az]
  rw[e1,e2]at F hK;obtain⟨v,z,g1,g2,g3⟩:=kds (P:=P) (G:=G) (w:=w) (K:=λz=>z=.agg (fillR pl l0 (ad.toList.map λp=>(p.1,s.ev p.2)))) X ad.toList ay az (kew _ _ F rfl);subst g3;refine value v w (val _ _ _ ?_) (hK _ _ _ (hR.put g2 ed B) λi _ _ _=>⟨rfl,rfl⟩);rw[<-g1];congr 2;apply qdy;simp|buildSlice t n ad=>
  obtain⟨⟨h1,U,F,h4,h5⟩,hS,ba⟩:=Y;obtain⟨q,hq⟩:=qai.1 h1;obtain⟨sz,bt⟩:=q;obtain⟨l,hl⟩:=qai.1 F;have e1:rowD P t=(sz,bt):=by simp[rowD,hq]
  simp only[e1,hl,qbt]at h4 h5 ba;rw[toDs_eq]at hl;obtain⟨f1,f2,f3⟩:=Z 0 hS;rcases ba with⟨h6,h7⟩|⟨h6,h7⟩;case inr=>
   simp only[ag]at h6 h7;subst h6;subst h7;obtain⟨e,vs,ac,bb,am,aj,bn,bc⟩:=hR.buildRaw hq ad.toList n U hl (k2o h4) h5;obtain⟨G',ab,hp,hG⟩:=hR.allocAt fb qqo f1 f2 f3 e vs ((l.flatMap D.cells).map .d) (by rw[bb,qp,kp am,bn]) (λc hc=>by obtain⟨d,hd,rfl⟩:=qap.1 hc;obtain⟨x,hx,bo⟩:=qdv.1 hd;exact(am x hx).2 d bo) λj u c hu hc=>by rw[qr,qac]at hc;obtain⟨d,hd,rfl⟩:=hc;exact .d _ _ (aj j u d hu hd)
   have bq:n<=maxLen:=by have:n<=n*sz:=qey _ bc;simp only[maxLen];omega
   have hv:RepV G' (w.alloc (.cells vs.toArray e)) ((fb,.cells ((l.flatMap D.cells).map .d))::s.h) s.nx (.slice (some ⟨w.heap.size,0,none⟩) n n) (.row fb 0 n sz):=by cases hp with|ptr _ _ b ca hl=>refine .row fb 0 n sz w.heap.size 0 n _ ca hl (λ_=>rfl) (qaf _) bq (csz_of (qdj w _)) ?_;simp[bb]
   refine value _ _ (val _ _ _ ?_) (hK _ _ _ (ab.put hv ed B) λi _ hi _=>hG i qqo);rw[<-ac];congr 2;apply qdy;simp
  subst h6;subst h7;obtain⟨v,w',G',g1,g2,g3,hG⟩:=hR.buildSlice hq ad.toList n U hl (k2o h4) h5 fb s.nx (.inr ⟨by omega,rfl⟩) f3;refine value v w' (val _ _ _ ?_) (hK _ _ _ (g2.put g3 ed B) λi hi ak _=>hG i qqo hi);rw[<-g1];congr 2;apply qdy;simp|load t x=>obtain⟨h1,_,F,h4⟩:=Y;exact ah h1 F h4|lookup t x i c=>obtain⟨h1,U,F⟩:=Y;simp only at h1 F;subst F;obtain⟨v,g1,g2⟩:=knc hR h1;exact value v w (val _ _ _ g1) (hK _ _ _ (hR.put g2 ed B) λi _ _ _=>⟨rfl,rfl⟩)|makeSlice t l c=>
  obtain⟨h1,hS,U,F⟩:=Y;simp only[ag]at U F;have hx:=X l;have hy:=X c;generalize s.ev l=lv at hx h1 U F;generalize s.ev c=cv at hy h1;unfold mkOk at h1;split at h1
  .rename_i q n q' m;obtain⟨⟨k1,k2⟩,k3,k4,k5,k6⟩:=h1;obtain⟨r,hr⟩:=qai.1 k1;obtain⟨sz,bt⟩:=r;obtain⟨zs,bd⟩:=qai.1 k2;have e1:rowD P t=(sz,bt):=by simp[rowD,hr]
   have e2:elZD P t=zs:=by simp[elZD,bd]
   simp only[e1,e2,natOf]at U F k5;obtain⟨n',rfl⟩:=qm k3;obtain⟨c',rfl⟩:=qm (qes k3 k4);simp only[qv]at U F k5 k6;subst U;subst F;obtain⟨f1,f2,f3⟩:=Z 0 hS;obtain⟨v,w',G',g1,g2,g3,hG⟩:=hR.make hr bd (n:=n') (c:=c') (q:=q) (q':=q') qqo k5 k6 fb s.nx (.inr ⟨by omega,rfl,f1,f2,f3⟩);refine value v w' (val _ _ _ ?_) (hK _ _ _ (g2.put g3 ed B) λi hi ak _=>hG i qqo hi);simp only[hx.int_inv,hy.int_inv];exact g1
  .exact h1.elim|makeMap t r=>exact Y.elim|mapUpdate t m k v=>
  obtain⟨id,es',h1,U,F⟩:=Y;simp only at U F;subst U;subst F;obtain⟨w',ac,ab⟩:=upd_run (P:=P) hR bk h1;unfold Oper.wp;have:(execOp a.eval ⟨ed,.mapUpdate t m k v,ty,pos,J,M⟩).run P w=.ok .skip w':=by simp only[execOp,qw,ac,qj,qag]
  rw[this];exact hK _ _ _ (ab.put (.any _) ed B) λi _ _ _=>⟨rfl,rfl⟩|call c=>obtain⟨al,args,aa⟩:=c;cases al with
  |invoke r m=>exact ae (λ_ _ h=>by cases h) Y.1 Y.2.1 Y.2.2|builtin b=>cases b with
   |copy=>exact Y.elim|delete=>exact Y.elim|append=>
    obtain⟨⟨h1,U,F⟩,Y⟩:=Y;obtain⟨x,y,rfl⟩:∃x y,args=#[x,y]:=by
     obtain⟨l⟩:=args;match l,h1 with|[x,y],_=>exact⟨x,y,rfl⟩
    obtain⟨t,t',rfl⟩:∃x y,aa=#[x,y]:=by
     obtain⟨l⟩:=aa;match l,U with|[x,y],_=>exact⟨x,y,rfl⟩
    have e0:(#[t,t']:Array TypeId).getD 0 0=t:=rfl;have bs:(#[t,t']:Array TypeId).getD 1 0=t':=rfl;rw[e0,bs]at F;subst F;have bu:(#[x,y]:Array Operand).getD 0 (.const .nilIface)=x:=rfl;have bv:(#[x,y]:Array Operand).getD 1 (.const .nilIface)=y:=rfl;have e0:(#[t,t]:Array TypeId).getD 0 0=t:=rfl;simp only[bu,bv,e0]at Y;rcases Y with⟨tok,sz,bt,l,k1,k2,k3,k4,k5,k6,k7,k8⟩|⟨hS,Y,_⟩
    .subst k7;subst k8;obtain⟨l2,bf⟩:=qai.1 (show((s.ev y).els sz).isSome=true from k4);have e3:(s.ev y).elsD sz=l2:=by simp[V.elsD,bf]
     simp only[e3]at k5 k6 hK;have hg:growA s sz (.own tok sz l)=some (tok,s.nx,l):=by simp[growA,k3]
     have hx:=X x;rw[k2]at hx;obtain⟨v,w',G',g1,g2,g3,hG⟩:=hR.append k1 hx (X y) hg bf k5 ty k6;refine value v w' ?_ (hK _ _ _ (g2.put g3 ed B) λi hi ak hn=>hG i ?_ hi);.simp only[execOp,resolve,invoke,builtin,qw,qag,qj,qct,qaj,qda,g1]
     .rintro rfl;simp[Hp.get]at hn
    .simp only[ag]at Y;obtain⟨f1,f2,f3⟩:=Z 0 hS;obtain⟨v,w',G',g1,g2,g3,hG⟩:=hR.appRowAt (ty:=ty) (X x) (X y) (k:=fb) qqo f1 f2 f3 Y;refine value v w' ?_ (hK _ _ _ (g2.put g3 ed B) λi hi ak _=>hG i qqo hi);simp only[execOp,resolve,invoke,builtin,qw,qag,qj,qct,qaj,qda,g1]|_=>exact ae (λ_ _ h=>by cases h) Y.1 Y.2.1 Y.2.2
  |value f=>
   rcases Y with⟨g,r,h1,U,F,h4⟩|⟨g,xs,pre,r,bg,ids,h1,⟨U,F,h4⟩,p1,p2,p3,h5,h6,⟨p4,p5⟩,h7,h8⟩
   .simp only at F h4;subst F;subst h4;have hf:=X f;rw[h1]at hf;have ao:=hf.k_inv;obtain⟨v,g1,g2⟩:=U G w s.h s.nx (args.toList.map a.eval) qqs λj v x hv hx=>by rw[qr,qac]at hv;obtain⟨o',aq,rfl⟩:=hv;simp only[qr,aq,qbn,qaq]at hx;rw[<-hx];exact X o'
    refine value v w ?_ (hK _ _ _ (hR.put g2 ed B) λi _ _ _=>⟨rfl,rfl⟩);simp only[execOp,resolve,Deferred.ofValue,ao,qw,qag,qj,invoke];rw[<-g1];congr 2;apply qdy;simp
   simp only[ag]at p1 h5 h7 h8;subst h7;subst h8;obtain⟨vs,us,ao,aj⟩:=fn_rep (X f) h1;obtain⟨g1,g2⟩:=k7c h5;have au:=aj (args.toList.map a.eval) (args.toList.map s.ev) ⟨by simp,λj v x hv hx=>by rw[qr,qac]at hv;obtain⟨o',aq,rfl⟩:=hv;rw[qr,aq]at hx;injection hx with hx;subst hx;exact X o'⟩;have bh:(vs++(args.toList.map a.eval++us)).length=xs.length:=au.1.trans g1;have aw:=hR.call (nx':=s.nx) h4 bk (khq qqo p1) p2 p3 (.inr ⟨rfl,λj hj=>⟨by omega,(Z j qqo).1,(Z j qqo).2.1,λo Y=>p5 j o Y⟩⟩) bh (λj v x hv hx=>by
    have hj:j<(fnA (s.ev f) (args.toList.map s.ev)).length:=by have:=(qq.1 hv).1;have:=au.1;omega
    obtain⟨q1,q2⟩:=g2 j _ x (qf hj) hx;exact⟨(au.2 j v _ hv (qf hj)).le q1,q2⟩) h6;unfold Oper.wp;have ac:(execOp a.eval ⟨ed,.call ⟨.value f,args,aa⟩,ty,pos,J,M⟩).run P w=.ok (.enter g (vs++(args.toList.map a.eval++us)).toArray) w:=by simp only[execOp,resolve,Deferred.ofValue,ao,qw,qag,qj,invoke,callFunc,run_program];cases bi:P.funcs[g]? with
    |none=>simp[bi]at U|some fn=>
     simp only[bi,qel,qbn,ne_eq,qaq]at U F;have bw:(fn.name== "runtime.NumGoroutine")=false:=by simpa using F
     have bx:fn.body.isNone=false:=by cases hb:fn.body with|none=>simp[hb]at U|some _=>rfl
     simp only[bw,bx,qbo,qee,qag];congr 2;apply qdy;simp
   rw[ac];refine aw.mono λe w'⟨v,G',he,ab,hv,hG⟩=>?_;subst he;refine hK _ _ _ (ab.put hv ed B) λi hi ak hn=>hG i hi λq hq bz=>?_;subst bz;rw[k8f bg 0 q (qbf _) qqo]at hn;cases hn
 |_=>exact ae (λ_ _ h=>by cases h) Y.1 Y.2.1 Y.2.2
theorem kud{nb S k:Nat}{op:Op}{e:Eff}(B:∀x∈op.operands,s.ev x=s'.ev x)(hh:∀id,(Hp.get e.hu id).isSome=true∨id∈e.rd->id<frs nb S k∨frs nb S k+S<=id->s.h.get id=s'.h.get id)(ac:∀id,(Hp.get e.hu id).isSome=true->(∃t,op=.store t (op.operands.getD 0 (.const .nilIface)) (op.operands.getD 1 (.const .nilIface)))∨(∃c,op=.call c)∨(∃t m k v,op=.mapUpdate t m k v)->s.h.get id≠none->s.h.get id=s'.h.get id)(ae:∀id,id∈e.rd->s.h.get id≠none->s.h.get id=s'.h.get id)(F:opD P nb S k op e s):opD P nb S k op e s':=by
 have Y:∀(op:Op),(∀x∈op.operands,s.ev x=s'.ev x)->(∀t a,op≠.load t a)->avOk P [] s.ev op->avOk P [] s'.ev op/\av P [] s.ev op=av P [] s'.ev op:=by
  intro op B hl;cases op<;>simp only[avOk,av]<;>simp only[Op.operands,Call.operands]at B<;>first|(intro h;exact h.elim)|skip
  case move x=>rw[B x qqs];exactλ_=>⟨trivial,rfl⟩
  case assign x=>rw[B x qqs];exactλ_=>⟨trivial,rfl⟩
  case pick c x y=>rw[B c qqs,B x qqs,B y qqs];exactλh=>⟨h,rfl⟩
  case load t x=>exact(hl t x rfl).elim
  case fieldAddr t x f=>rw[B x qqs];exactλh=>⟨h,rfl⟩
  case field t x f=>rw[B x qqs];exactλh=>⟨h,rfl⟩
  case indexAddr t x i=>rw[B x qqs,B i qqs];exactλh=>⟨h,rfl⟩
  case index t x i=>rw[B x qqs,B i qqs];exactλh=>⟨h,rfl⟩
  case extract x i=>rw[B x qqs];exactλh=>⟨h,rfl⟩
  case binOp op t x y t'=>rw[B x qqs,B y qqs];exactλh=>⟨h,rfl⟩
  case unOp op t x=>rw[B x qqs];exactλh=>⟨h,rfl⟩
  case convert t t' x=>rw[B x qqs];exactλh=>⟨h,rfl⟩
  case slice t x lo hi mx=>
   rw[B x qqs];have U:lo.map s.ev=lo.map s'.ev:=by cases lo with|none=>rfl|some y=>simp[B y qqs]
   have e2:hi.map s.ev=hi.map s'.ev:=by cases hi with|none=>rfl|some y=>simp[B y qqs]
   rw[U,e2];exactλh=>⟨h,rfl⟩
  case nilCheck x=>rw[B x qqs];exactλh=>⟨h,rfl⟩
  case makeFunc fn fs cs=>have U:cs.toList.map s.ev=cs.toList.map s'.ev:=qar λy hy=>B y (by simp;exact .inr (by simpa using hy));rw[U];exactλ_=>⟨trivial,rfl⟩
  case call c=>
   have two:c.args.size=2->s.ev (c.args.getD 0 (.const .nilIface))=s'.ev (c.args.getD 0 (.const .nilIface))/\s.ev (c.args.getD 1 (.const .nilIface))=s'.ev (c.args.getD 1 (.const .nilIface)):=by
    intro J;have e0:c.args.getD 0 (.const .nilIface)=c.args[0]:=by simp[J]
    have U:c.args.getD 1 (.const .nilIface)=c.args[1]:=by simp[J]
    rw[e0,U];exact⟨B _ qqs,B _ qqs⟩
   unfold callVOk callV;split;.rintro⟨h1,J⟩;obtain⟨e0,U⟩:=two h1;rw[e0,U]at J⊢;exact⟨⟨h1,J⟩,rfl⟩
   .rintro⟨h1,J⟩;obtain⟨e0,U⟩:=two h1;rw[e0,U]at J⊢;exact⟨⟨h1,J⟩,rfl⟩
   rintro⟨h1,J⟩;have U:s.ev (c.args.getD 0 (.const .nilIface))=s'.ev (c.args.getD 0 (.const .nilIface)):=by
    have hs:0<c.args.size:=by rw[h1.2.1];omega
    have:c.args.getD 0 (.const .nilIface)=c.args[0]:=by simp[hs]
    rw[this];refine B _ ?_;rw[h1.1];simp
   rw[U]at J⊢;exact⟨⟨h1,J⟩,rfl⟩
 cases op with
 |alloc t=>exact F|box t x=>simp only[Op.operands]at B;simp only[opD,B x qqs]at F⊢;exact F|store t p x=>obtain⟨id,off,l,g,n,h1,X,Z,h5,h6,h7,h8⟩:=F;simp only[Op.operands]at B;have ep:=B p qqs;have ex:=B x qqs;have hg:=ac id (by rw[h8];simp[Hp.get]) (.inl ⟨t,rfl⟩) (by rw[X];simp);exact⟨id,off,l,g,n,by rw[<-ep];exact h1,by rw[<-hg];exact X,Z,by rw[<-ex];exact h5,h6,h7,by rw[<-ex];exact h8⟩|build t M=>
  obtain⟨h1,J,X,Z,h5⟩:=F;have U:(M.toList.map λp=>(p.1,s.ev p.2))=M.toList.map λp=>(p.1,s'.ev p.2):=by apply qar;intro p hp;rw[B p.2 (by simp only[Op.operands];simp;exact⟨p.1,by simpa using hp⟩)]
  rw[U]at X Z;exact⟨h1,J,X,Z,h5⟩|buildSlice t n M=>
  have U:(M.toList.map λp=>s.ev p.2)=M.toList.map λp=>s'.ev p.2:=by apply qar;intro p hp;rw[B p.2 (by simp only[Op.operands];simp;exact⟨p.1,by simpa using hp⟩)]
  simp only[opD,U]at F⊢;exact F|makeSlice t l c=>simp only[Op.operands]at B;simp only[opD,B l qqs,B c qqs]at F⊢;exact F|makeMap t r=>exact F.elim|lookup t x i c=>
  obtain⟨⟨et,d,k,es,z,h1,J,X,Z,h5,h6,h7⟩,h8,h9⟩:=F;simp only[Op.operands]at B;have ex:=B x qqs;have ei:=B i qqs;refine⟨⟨et,d,k,es,z,h1,by rw[<-ei];exact J,X,?_,h5,h6,h7⟩,by rw[<-ex];exact h8,h9⟩;rcases Z with⟨id,q1,q2⟩|⟨q1,q2⟩;.exact .inl ⟨id,by rw[<-ex];exact q1,by rw[<-ae id (h8 id q1) (by rw[q2];simp)];exact q2⟩
  .exact .inr ⟨by rw[<-ex];exact q1,q2⟩|mapUpdate t m k v=>obtain⟨id,es',⟨et,d,kd,es,h1,J,X,Z,h5,h6,y,h7,h8,h9⟩,hx,hu⟩:=F;simp only[Op.operands]at B;have hg:=ac id (by rw[hu];simp[Hp.get]) (.inr (.inr ⟨t,m,k,v,rfl⟩)) (by rw[h5];simp);exact⟨id,es',⟨et,d,kd,es,h1,by rw[<-B k qqs];exact J,X,by rw[<-B m qqs];exact Z,by rw[<-hg];exact h5,h6,y,by rw[<-B v qqs];exact h7,h8,h9⟩,hx,hu⟩|load t x=>
  obtain⟨h1,J,X,Z⟩:=F;simp only[Op.operands]at B;have ex:=B x qqs;rw[ex]at h1 J X;have key:loadOk (tyOf P t) s'.h (s'.ev x)=loadOk (tyOf P t) s.h (s'.ev x)/\loadV (tyOf P t) s'.h (s'.ev x)=loadV (tyOf P t) s.h (s'.ev x):=by
   generalize s'.ev x=v at*;cases v<;>first|exact⟨rfl,rfl⟩|skip
   rename_i id off;have aa:s.h.get id≠none:=by intro hn;simp only[loadOk,hn]at h1;split at h1<;>simp_all
   have:=ae id (J id off rfl) aa;simp only[loadOk,loadV,this];exact⟨trivial,trivial⟩
  exact⟨by rw[key.1];exact h1,J,by rw[key.2];exact X,Z⟩|call c=>obtain⟨ab,args,ag⟩:=c;cases ab with
  |invoke r m=>obtain⟨q1,q2⟩:=Y _ B (λ_ _ h=>by cases h) F.1;exact⟨q1,by rw[<-q2];exact F.2.1,F.2.2⟩|builtin b=>cases b with
   |copy=>exact F.elim|delete=>exact F.elim|append=>
    obtain⟨⟨h1,J,X⟩,F⟩:=F;simp only at h1;have a0:s.ev (args.getD 0 (.const .nilIface))=s'.ev (args.getD 0 (.const .nilIface)):=by
     have:args.getD 0 (.const .nilIface)=args[0]:=by simp[h1]
     rw[this];exact B _ (by simp only[Op.operands,Call.operands];simp)
    have a1:s.ev (args.getD 1 (.const .nilIface))=s'.ev (args.getD 1 (.const .nilIface)):=by
     have:args.getD 1 (.const .nilIface)=args[1]:=by simp[h1]
     rw[this];exact B _ (by simp only[Op.operands,Call.operands];simp)
    rcases F with⟨tok,sz,bt,l,k1,k2,k3,k4,k5,k6,k7,k8⟩|⟨hS,F,hr⟩;.have hg:=ac tok (by rw[k8];simp[Hp.get]) (.inr (.inl ⟨_,rfl⟩)) (by rw[k3];simp);simp only[a0,a1]at k2 k4 k5 k6 k7 k8;exact⟨⟨h1,J,X⟩,.inl ⟨tok,sz,bt,l,k1,k2,by rw[<-hg];exact k3,k4,k5,k6,k7,k8⟩⟩
    .simp only[a0,a1]at F hr;refine⟨⟨h1,J,X⟩,.inr ⟨hS,?_,hr⟩⟩;simp only;refine klo (λid hi=>?_) (λid off n z hi aa=>ae id (hr id off n z hi) aa) F;exactλaa=>ac id hi (.inr (.inl ⟨_,rfl⟩)) aa|_=>obtain⟨q1,q2⟩:=Y _ B (λ_ _ h=>by cases h) F.1;exact⟨q1,by rw[<-q2];exact F.2.1,F.2.2⟩
  |value f=>
   simp only[Op.operands,Call.operands]at B;have ef:=B f qqs;have ea:args.toList.map s.ev=args.toList.map s'.ev:=qar λy hy=>B y (by simp;exact .inr (by simpa using hy));rcases F with⟨g,r,h1,J,X,Z⟩|⟨g,xs,pre,r,ad,ids,h1,Z,p1,p2,p3,h5,h6,p4,h7,h8⟩;.exact .inl ⟨g,r,by rw[<-ef];exact h1,by rw[<-ea];exact J,X,Z⟩
   .refine .inr ⟨g,xs,pre,r,ad,ids,by rw[<-ef];exact h1,Z,kdw (λk hk=>?_) p1,p2,p3,by rw[<-ea,<-ef];exact h5,h6,p4,h7,h8⟩;obtain⟨ai,ah⟩:=k9h p1;obtain⟨i,hi,rfl⟩:=qby hk;obtain⟨q1,_⟩:=ah i _ _ (qf hi) (qf qqo);refine hh _ (.inl ?_) (.inl q1);have U:sgm ids (frs nb S k) i=ids[i]:=by simp[sgm,hi]
    rw[h8,<-U];exact k8f ad 0 i (qbf _) (by have:=p3.l;omega)
 |_=>obtain⟨q1,q2⟩:=Y _ B (λ_ _ h=>by cases h) F.1;exact⟨q1,by rw[<-q2];exact F.2.1,F.2.2⟩
end
theorem krw(es:List Eff):∀i k s,stE (λn=>decide (n<k+i)) es k s=(es.take i).foldl (λs e=>e.app s) s:=by induction es with
 |nil=>simp[stE]|cons e es F=>intro i k s;rw[stE];cases i with
  |zero=>
   have:∀es B,k<=B->∀s,stE (λn=>decide (n<k)) es B s=s:=by intro es;induction es with
    |nil=>intro _ _ _;rfl|cons e es F=>intro B J s;rw[stE,F (B+1) qqo,qe qqm]
   grind|succ i=>grind
theorem cnt_le(p B:Nat->Bool)(h:∀i,B i=true->p i=true):∀l:Ln,(l.filter B).length<=(l.filter p).length
 |[]=>by simp|x::l=>by have F:=cnt_le p B h l;grind
theorem cnt_lt(p F:Nat->Bool)(h:∀i,F i=true->p i=true)(i:Nat)(h1:p i=true)(J:F i=false):∀l:Ln,i∈l->(l.filter F).length<(l.filter p).length
 |[],B=>by cases B|x::l,B=>by
  simp only[List.filter_cons];rcases qak.1 B with rfl|B;.rw[qe (by grind),qg h1];have:=cnt_le p F h l;simp;omega
  .have M:=cnt_lt p F h i h1 J l B;grind
theorem knq{ops:Array Oper}:∀fuel k B,B.size=ops.size->k+fuel=ops.size->(∀i,i<ops.size->B.getD i true=decide (i<k)/\B.getD i false=decide (i<k))->Region.lexFrom .any ops fuel k B=true->∀i,k<=i->i<ops.size->∀U,ops[i]?=some U->(∀e∈U.after,Region.binds .any e=true->e.on<i)/\∀j X,i<j->ops[j]?=some X->U.apart ops X=true∨∃e∈X.after,Region.binds .any e=true/\e.on=i
 |0,k,B,_,hk,_,_,i,h1,h2,_,_=>by omega|fuel+1,k,B,hs,hk,hl,hB,i,h1,h2,U,aa=>by
  simp only[Region.lexFrom,qh]at hB;obtain⟨⟨hr,hf⟩,Y⟩:=hB;rcases qaw k i with F|F
  .refine knq fuel (k+1) (B.setIfInBounds k true) (by grind) qqo (λn hn=>?_) Y i F h2 U aa;by_cases J:n=k;.simp_all
   .rw[getD_set_ne true (Ne.symm J),getD_set_ne false (Ne.symm J),(hl n hn).1,(hl n hn).2];grind
  .have Z:i=k:=by omega
   refine⟨λe he hb=>?_,λj X ac ad=>?_⟩
   .have M:i∈Region.ready .any ops B:=by grind
    obtain⟨_,o',ae,ab⟩:=mem_ready.1 M;grind
   grind[Region.free_spec]
section
variable{P:Program}{T:Tk}{G0:Gh}{w0:World}{N:Nat}
theorem khu{E:Nat->Bool}{id:Nat}:∀es k,heapE E id es k none≠none->∃j e,es[j]?=some e/\E (k+j)=true/\(Hp.get e.hu id).isSome=true:=by
 have B:∀es k o,heapE E id es k o≠none->o≠none∨∃j e,es[j]?=some e/\E (k+j)=true/\(Hp.get e.hu id).isSome=true:=by intro es;induction es with
  |nil=>intro k o h;exact .inl h|cons e es U=>
   intro k o h;rcases U (k+1) _ h with h1|⟨j,F,h1,X,J⟩
   .split at h1;.rename_i M;exact .inr ⟨0,e,rfl,by grind,M.2⟩
    grind
   .exact .inr ⟨j+1,F,by grind,by grind,J⟩
 grind
theorem kk1{E:Nat->Bool}{id:Nat}{B:Ob}:∀es k o,heapE E id es k o=some B->o=some B∨∃e∈es,Hp.get e.hu id=some B
 |[],_,_,h=>.inl h|e::es,k,o,h=>by
  rcases kk1 es (k+1) _ h with h1|⟨F,h1,J⟩
  .split at h1;.exact .inr ⟨e,by simp,h1⟩
   .exact .inl h1
  .exact .inr ⟨F,by simp[h1],J⟩
theorem krz{P:Program}{N:Nat}{tb:List On}{nb S k:Nat}{o:Oper}{e:Eff}{s:St}(h:stepD P N tb nb S k o e s):noIt e.hu:=by obtain⟨_,_,h⟩:=h;grind[kun,k1j]
theorem k5o(nb S k:Nat):frs nb S (k+1)=frs nb S k+S:=by unfold frs;grind
theorem k4f(nb S:Nat){k j:Nat}(h:k<=j):frs nb S k<=frs nb S j:=by unfold frs;have:=qbh S h;omega
inductive Anc(l:List Oper):Nat->Nat->Prop|edge{j:Nat}{o:Oper}{e:Edge}(h:l[j]?=some o)(he:e∈o.after)(hb:Region.binds .any e=true):Anc l j e.on|trans{j i:Nat}{o:Oper}{e:Edge}(h:l[j]?=some o)(he:e∈o.after)(hb:Region.binds .any e=true)(ht:Anc l e.on i):Anc l j i
theorem Anc.closed{l:List Oper}{p:Nat->Prop}(J:∀j B,l[j]?=some B->p j->∀e∈B.after,Region.binds .any e=true->p e.on){j i:Nat}(h:Anc l j i)(X:p j):p i:=by induction h with
 |edge h he F=>grind|trans h he F M U=>grind
theorem Anc.ready{l:List Oper}{p:Nat->Prop}(F:∀j J,l[j]?=some J->p j->∀e∈J.after,Region.binds .any e=true->p e.on){j i:Nat}{o:Oper}(X:l[j]?=some o)(B:∀e∈o.after,Region.binds .any e=true->p e.on)(h:Anc l j i):p i:=by cases h with
 |edge h he M=>grind|trans h he M U=>rw[X]at h;injection h with h;subst h;exact U.closed F (B _ he M)
theorem drawn{l:List Oper}{es:List Eff}{s0:St}{nb S:Nat}{Q:Exit->Act->World->Prop}(cu:es.length=l.length)(ct:s0.nx=frs nb S l.length)(bk:∀id,nb<=id->s0.h.get id=none)(H0:noIt s0.h)(H1:∀i o e,l[i]?=some o->es[i]?=some e->stepD P N (l.map (·.dst)) nb S i o e (stE (λk=>decide (k<i)) es 0 s0))(H2:Region.lexB .any l.toArray=true)(H3:∀i j ei ej U id,i<j->es[i]?=some ei->es[j]?=some ej->l[j]?=some U->(Hp.get ei.hu id).isSome=true/\((Hp.get ej.hu id).isSome=true∨id∈ej.rd)∨id∈ei.rd/\(Hp.get ej.hu id).isSome=true->Anc l j i)(H4:∀j e id,es[j]?=some e->(Hp.get e.hu id).isSome=true->id<frs nb S (j+1))(H5:∀j e id,es[j]?=some e->(Hp.get e.hu id).isSome=true->frs nb S j<=id∨(stE (λk=>decide (k<j)) es 0 s0).h.get id≠none)(hQ:∀a' G' w',R T G0 w0 N (stE (λ_=>true) es 0 s0) a' G' w'->Q .normal a' w'):∀X B a G w,B.size=l.length->(∀j U,l[j]?=some U->B.getD j false=true->∀e∈U.after,Region.binds .any e=true->B.getD e.on false=true)->R T G0 w0 N (stE (λk=>B.getD k false) es 0 s0) a G w->(∀k,k<l.length->B.getD k false=false->∀id,frs nb S k<=id->id<frs nb S k+S->G.loc id=none/\G.tloc id=none)->((List.range l.length).filter λi=>!B.getD i false).length<=X->wpAny P .any l.toArray Q X B a w:=by
 
 have al:∀j k ej ek id,es[j]?=some ej->es[k]?=some ek->(Hp.get ej.hu id).isSome=true->frs nb S k<=id->id<frs nb S k+S->k<=j/\(Hp.get ek.hu id).isSome=true:=by intro j;induction j using Nat.strongRecOn with|_ j ih=>
   intro k ej ek id hj hk hw h1 h2;have h4:=H4 j ej id hj hw;have cj:k<=j:=by
    rcases qaw j k with h|h;.have:=k4f nb S (show j+1<=k by omega);omega
    .exact h
   refine⟨cj,?_⟩;by_cases bx:k=j;.subst bx;rw[hj]at hk;injection hk with hk;subst hk;exact hw
   .rcases H5 j ej id hj hw with h5|h5;.have:=k4f nb S (show k+1<=j by omega);rw[k5o]at this;omega
    .rw[k1z,bk id (by unfold frs at h1;omega)]at h5;obtain⟨j',e',g1,g2,g3⟩:=khu es 0 h5;simp at g2;exact(ih j' qqo k e' ek id g1 hk g3 h1 h2).2
 simp only[Region.lexB,qh]at H2;have bz:=knq (ops:=l.toArray) l.toArray.size 0 (Array.replicate l.toArray.size false) qqs qqs λi hi=>by simp at hi;simp[hi] (by simpa using H2.2);have az:∀i oi,l[i]?=some oi->(∀e∈oi.after,Region.binds .any e=true->e.on<i)/\∀j U,i<j->l[j]?=some U->oi.apart l.toArray U=true∨∃e∈U.after,Region.binds .any e=true/\e.on=i:=by intro i oi ca;have hi:=(qq.1 ca).1;obtain⟨h1,h2⟩:=bz i (qbf _) (by simpa using hi) oi (by simpa using ca);exact⟨h1,λj U am F=>h2 j U am (by simpa using F)⟩
 
 have ao:∀(B:Array Bool)(a:Act)(G:Gh)(w:World),(∀k,k<l.length->B.getD k false=true)->R T G0 w0 N (stE (λk=>B.getD k false) es 0 s0) a G w->Q .normal a w:=by
  intro B a G w M hR;refine hQ a G w (hR.same (λt=>?_) (λi=>?_) (by rw[stE_nx,stE_nx]));.rw[stE_get,stE_get];exact k4i es 0 _ λj e he _=>by have:j<es.length:=(qq.1 he).1;rw[qav,M j qqo]
  .rw[k1z,k1z];exact k4g es 0 _ λj e he _=>by have:j<es.length:=(qq.1 he).1;rw[qav,M j qqo]
 
 have ah:∀(B:Array Bool),B.size=l.length->Region.ready .any l.toArray B=[]->∀k,k<l.length->B.getD k false=true:=by intro B hsz bm k;induction k using Nat.strongRecOn with|_ k ih=>intro hk;cases ab:B.getD k false with
   |true=>rfl|false=>
    exfalso;have hm:k∈Region.ready .any l.toArray B:=by
     refine mem_ready.2 ⟨?_,l[k],by simp[hk],λe he hb=>?_⟩
     .have:k<B.size:=by omega
      simp[this]at ab⊢;exact ab
     .have:=(az k l[k] (qf hk)).1 e he hb;exact ih e.on this qqo
    rw[bm]at hm;cases hm
 intro X;induction X with
 |zero=>
  intro B a G w hsz _ hR _ hc;have M:∀k,k<l.length->B.getD k false=true:=by intro k hk;cases ab:B.getD k false with
   |true=>rfl|false=>
    have hm:k∈(List.range l.length).filter λi=>!B.getD i false:=by simp only[List.mem_filter,List.mem_range,ab];exact⟨hk,rfl⟩
    have:(List.range l.length).filter (λi=>!B.getD i false)=[]:=qax qqo;rw[this]at hm;cases hm
  refine⟨?_,ao B a G w M hR⟩;apply List.eq_nil_iff_forall_not_mem.2;intro i hi;obtain⟨h1,o,ho,_⟩:=mem_ready.1 hi;have ba:i<l.length:=by have:=(Array.getElem?_eq_some_iff.1 ho).1;simpa using this
  have h2:=M i ba;have:i<B.size:=by omega
  simp[this]at h1 h2;rw[h1]at h2;cases h2|succ X ih=>
  intro B a G w hsz ad hR aq hc;refine⟨λbm=>ao B a G w (ah B hsz bm) hR,λi hi=>?_⟩;obtain⟨cb,o,ho,M⟩:=mem_ready.1 hi;have aa:l[i]?=some o:=by simpa using ho
  have ba:i<l.length:=(qq.1 aa).1;have bd:i<B.size:=by omega
  have J:B.getD i false=false:=by simp[bd]at cb⊢;exact cb
  have Y:es[i]?=some es[i]:=qf qqo;generalize es[i]=e at Y;have bb:∀(j:Nat)(U:Oper),j≠i->l[j]?=some U->(U.apart l.toArray o=true->False)->(o.apart l.toArray U=true->False)->B.getD j false=decide (j<i):=by
   intro j U ae F bn bo;rcases qaw j i with h|h
   .rcases(az j U F).2 i o h aa with h3|⟨ed,au,aw,ax⟩;.exact(bn h3).elim
    .rw[<-ax,M ed au aw];simp;omega
   .have h:i<j:=by omega
    rcases(az i o aa).2 j U h F with h3|⟨ed,au,aw,ax⟩;.exact(bo h3).elim
    .cases hj:B.getD j false with
     |false=>simp;omega|true=>have:=ad j U F hj ed au aw;rw[ax,J]at this;cases this
  have bq:e.d=o.dst:=(H1 i o e aa Y).2.1;have bf:∀(j:Nat)(ej:Eff)(U:Oper),es[j]?=some ej->l[j]?=some U->ej.d=U.dst:=λj ej U h1 h2=>(H1 j U ej h2 h1).2.1;have bg:∀t,t∈o.looksAt l.toArray->getS (stE (λk=>B.getD k false) es 0 s0).sl t=getS (stE (λk=>decide (k<i)) es 0 s0).sl t:=by
   intro t ht;rw[stE_get,stE_get];refine k4i es 0 _ λj ej Z hd=>?_;rw[qav];have ac:j<l.length:=by have:=(qq.1 Z).1;omega
   have F:l[j]?=some l[j]:=qf ac;have ag:l[j].dst=some t:=by rw[<-bf j ej _ Z F];exact hd
   by_cases ae:j=i;.subst ae;rw[J];simp
   .exact bb j _ ae F (λh=>(Oper.apart_spec h).1 t ag ht) λh=>(Oper.apart_spec h).2.2 t ag ht
  have ck:∀x∈o.op.operands,(stE (λk=>decide (k<i)) es 0 s0).ev x=(stE (λk=>B.getD k false) es 0 s0).ev x:=by intro x hx;cases x with
   |tmp t=>refine(bg t ?_).symm;unfold Oper.looksAt;refine List.mem_append_left _ (List.mem_filterMap.2 ⟨.tmp t,by simpa using hx,rfl⟩)|_=>rfl
  have heap:∀id,(Hp.get e.hu id).isSome=true∨id∈e.rd->(stE (λk=>decide (k<i)) es 0 s0).h.get id=(stE (λk=>B.getD k false) es 0 s0).h.get id:=by
   intro id aj;rw[k1z,k1z];refine k4g es 0 _ λj ej Z hd=>?_;rw[qav];have ac:j<l.length:=by have:=(qq.1 Z).1;omega
   have F:l[j]?=some l[j]:=qf ac;by_cases ae:j=i;.subst ae;rw[J];simp
   .rcases qaw j i with h|h;.rw[(H3 j i ej e o id h Z Y aa (.inl ⟨hd,aj⟩)).ready (p:=λk=>B.getD k false=true) ad aa M];simp;omega
    .have cc:=H3 i j e ej _ id qqo Y Z F (by
      rcases aj with aj|aj;.exact .inl ⟨aj,.inl hd⟩
      .exact .inr ⟨aj,hd⟩);cases hj:B.getD j false with
     |false=>simp;omega|true=>have:=cc.closed (p:=λk=>B.getD k false=true) ad hj;rw[J]at this;cases this
  have bs:=H1 i o e aa Y;obtain⟨hd,_,ak⟩:=bs;have next:∀(a':Act)(G':Gh)(w':World),R T G0 w0 N (e.app (stE (λk=>B.getD k false) es 0 s0)) a' G' w'->(∀n,n<s0.nx->n<frs nb S i∨frs nb S i+S<=n->(Hp.get e.hu n).isSome=false->G'.loc n=G.loc n/\G'.tloc n=G.tloc n)->wpAny P .any l.toArray Q X (B.setIfInBounds i true) a' w':=by
   intro a' G' w' bt bu;have hE:∀k,(B.setIfInBounds i true).getD k false=if k=0+i then true else B.getD k false:=by
    intro k;rw[qav];by_cases hk:k=i;.subst hk;simp[bd]
    .rw[getD_set_ne false (Ne.symm hk),qe hk]
   refine ih _ a' G' w' (by simpa using hsz) ?_ ?_ ?_ ?_
   .intro j U F hj ed he hb;rw[hE]at hj⊢;split;.rfl
    .by_cases ae:j=i;.subst ae;rw[aa]at F;injection F with F;subst F;exact M ed he hb
     .rw[qe qqo]at hj;exact ad j U F hj ed he hb
   .refine bt.same (λt=>?_) (λn=>?_) (by rw[stE_nx,app_nx,stE_nx])
    .have e1:(λk=>(B.setIfInBounds i true).getD k false)=λk=>if k=0+i then true else B.getD k false:=funext hE;rw[e1,stE_get,kl0 es 0 _ e Y (by rw[qav];exact J) λj ej am Z ay bv ag=>?_,app_get,stE_get];rw[qav]at ay;have ac:j<l.length:=by have:=(qq.1 Z).1;omega
     have F:l[j]?=some l[j]:=qf ac;rcases(az i o aa).2 j _ am F with h3|⟨ed,au,aw,ax⟩;.exact(Oper.apart_spec h3).2.1 t (by rw[<-bq];exact bv) (by rw[<-bf j ej _ Z F];exact ag)
     .have:=ad j _ F ay ed au aw;rw[ax,J]at this;cases this
    .have e1:(λk=>(B.setIfInBounds i true).getD k false)=λk=>if k=0+i then true else B.getD k false:=funext hE;rw[e1,k1z,kkx es 0 _ e Y (by rw[qav];exact J) λj ej am Z ay bv ag=>?_,knf,k1z];rw[qav]at ay;have ac:j<l.length:=by have:=(qq.1 Z).1;omega
     have F:l[j]?=some l[j]:=qf ac;have:=(H3 i j e ej _ n am Y Z F (.inl ⟨bv,.inl ag⟩)).closed (p:=λk=>B.getD k false=true) ad ay;rw[J]at this;cases this
   .intro k hk ab;rw[hE]at ab;split at ab;.cases ab
    .rename_i cl;intro id bh bi;obtain⟨q1,q2⟩:=aq k hk ab id bh bi;have cl:k≠i:=by omega
     have cd:id<frs nb S i∨frs nb S i+S<=id:=by
      rcases qaw k i with h|h;.have:=k4f nb S (show k+1<=i by omega);rw[k5o]at this;omega
      .have:=k4f nb S (show i+1<=k by omega);rw[k5o]at this;omega
     have cm:id<s0.nx:=by have:=k4f nb S (show k+1<=l.length by omega);rw[k5o]at this;omega
     have cn:(Hp.get e.hu id).isSome=false:=by cases hw:(Hp.get e.hu id).isSome with
      |false=>rfl|true=>exfalso;obtain⟨g1,g2⟩:=al i k e es[k] id Y (qf qqo) hw bh bi;have:=(H3 k i _ e o id qqo (qf qqo) Y aa (.inl ⟨g2,.inl hw⟩)).ready (p:=λk=>B.getD k false=true) ad aa M;rw[ab]at this;cases this
     obtain⟨q3,q4⟩:=bu id cm cd cn;exact⟨q3.trans q1,q4.trans q2⟩
   .have:=cnt_lt (λn=>!B.getD n false) (λn=>!(B.setIfInBounds i true).getD n false) (λn hn=>by
     simp only[qbl]at hn⊢;rw[hE]at hn;split at hn;.cases hn
     .exact hn) i (by simp only[J];rfl) (by simp only[hE];rw[qg qqo];rfl) (List.range l.length) (by simpa using ba);omega
  have bw:noIt (stE (λk=>B.getD k false) es 0 s0).h:=by
   intro id ob ce;rw[k1z]at ce;rcases kk1 es 0 _ ce with h|⟨e',co,h⟩;.exact H0 id ob h
   .obtain⟨q,hq⟩:=qcl co;have cp:q<l.length:=by have:=(qq.1 hq).1;omega
    exact krz (H1 q _ e' (qf cp) hq) id ob h
  have cf:opD P nb S i o.op e (stE (λk=>decide (k<i)) es 0 s0)->o.wp P a w (wpAny P .any l.toArray Q X (B.setIfInBounds i true)) Q:=by intro cq;have cg:opD P nb S i o.op e (stE (λk=>B.getD k false) es 0 s0):=kud ck (λid h _=>heap id h) (λid h _ _=>heap id (.inl h)) (λid h _=>heap id (.inr h)) cq;refine ktw hR hd bq bw cg (by rw[stE_nx,ct,<-k5o];exact k4f nb S qqo) (λj hj=>?_) λa' G' w' bt bu=>next a' G' w' bt λn bn bo cr=>bu n (by rw[stE_nx];exact bn) bo cr;obtain⟨q1,q2⟩:=aq i ba J (frs nb S i+j) qqo qqo;refine⟨q1,q2,?_⟩;cases hg:(stE (λk=>B.getD k false) es 0 s0).h.get (frs nb S i+j)with
   |none=>rfl|some ob=>
    exfalso;have ch:(stE (λk=>B.getD k false) es 0 s0).h.get (frs nb S i+j)≠none:=by rw[hg];simp
    rw[k1z,bk _ (by unfold frs;omega)]at ch;obtain⟨j',e',g1,g2,g3⟩:=khu es 0 ch;rw[qav]at g2;obtain⟨m1,m2⟩:=al j' i e' e _ g1 Y g3 qqo qqo;have ac:j'<l.length:=by have:=(qq.1 g1).1;omega
    have ae:i≠j':=by rintro rfl;rw[J]at g2;cases g2
    have:=(H3 i j' e e' _ _ qqo Y g1 (qf ac) (.inl ⟨m2,.inl g3⟩)).closed (p:=λk=>B.getD k false=true) ad g2;rw[J]at this;cases this
  unfold wpOp;rw[ho];simp only;cases ai:o.guard with
  |none=>rw[ai]at ak;rw[qg (by simp[Region.wanted,ai])];exact .inl (cf ak)|some g=>
   obtain⟨j,b⟩:=g;rw[ai]at ak;have ci:guardV (stE (λk=>B.getD k false) es 0 s0) (l.map (·.dst)) j=guardV (stE (λk=>decide (k<i)) es 0 s0) (l.map (·.dst)) j:=by unfold guardV;cases hj:(l.map (·.dst))[j]? with
    |none=>rfl|some od=>cases od with
     |none=>rfl|some u=>refine bg u ?_;unfold Oper.looksAt;refine qfg _ ?_;rw[ai];rw[qr,qac]at hj;obtain⟨U,F,ag⟩:=hj;simp[F,ag]
   have bj:e.x=.k undef->e.hu=[]->wpAny P .any l.toArray Q X (B.setIfInBounds i true) (a.put o.dst undef) w:=by
    intro h4 h5;refine next _ G w ?_ λ_ _ _ _=>⟨rfl,rfl⟩;have:e.app (stE (λk=>B.getD k false) es 0 s0)=(stE (λk=>B.getD k false) es 0 s0).put o.dst (.k undef):=by unfold Eff.app;rw[h4,h5,bq];rfl
    rw[this];exact hR.put (.k _) o.dst λu hu=>by rw[hu]at hd;exact hd
   rcases ak with⟨h1,h2,h3⟩|ak;.have hy:=kgl hR (ci.trans h1);rw[qe (by simp[Region.wanted,ai,hy])];exact bj h2 h3
   obtain⟨t,h1,h2,h3⟩:=ak;have hy:=k7f hR (ci.trans h1);by_cases bc:t=b;.rw[qg (by simp[Region.wanted,ai,hy,bc])];exact .inl (cf (h2 bc))
   .rw[qe (by simp[Region.wanted,ai,hy,bc])];obtain⟨h4,h5⟩:=h3 bc;exact bj h4 h5
end
section
variable(P:Program)(N:Nat)(tb:List On)(d:On)(ty:TypeId)(p:String)(af:Array Edge)(r:List Oper)(K:St->Prop)(s:St)
def Callable(P:Program)(g:FuncId):Prop:=(P.funcs[g]?.bind (·.body)).isSome=true/\P.funcs[g]?.map (·.name)≠some "runtime.NumGoroutine"
end
def wsL(B:List (Nat×Nat))(af:Array Edge)(id:Nat):Prop:=∀p∈B,p.1=id->edgeB af p.2=true
def wrOk(nb S k:Nat)(B F:List (Nat×Nat))(af:Array Edge)(h:Hp)(ids:Ln):Prop:=∀id∈ids,wsL B af id/\wsL F af id/\id<frs nb S (k+1)/\(frs nb S k<=id∨(h.get id).isSome=true)
def rdOk(B:List (Nat×Nat))(af:Array Edge)(ids:Ln):Prop:=∀id∈ids,wsL B af id
def keys(h:Hp):Ln:=h.map (·.1)
theorem k66(h:Hp)(id:Nat):(h.get id).isSome=true↔id∈keys h:=by unfold keys;induction h with
 |nil=>simp[Hp.get]|cons p r B=>simp only[Hp.get];grind
def DOps(P:Program)(N:Nat)(tb:List On)(nb S:Nat):List (Nat×Nat)->List (Nat×Nat)->Nat->List Oper->(St->Prop)->St->Prop
 |_,_,_,[],K,s=>K s|ws,B,k,o::r,K,s=>∃e,stepD P N tb nb S k o e s/\(wrOk nb S k ws B o.after s.h (keys e.hu)/\rdOk ws o.after e.rd)/\DOps P N tb nb S ((keys e.hu).map (·,k)++ws) (e.rd.map (·,k)++B) (k+1) r K (e.app s)
theorem k9n{af:Array Edge}{k:Nat}(h:edgeB af k=true):∃e∈af,Region.binds .any e=true/\e.on=k:=by unfold edgeB at h;grind
def ancM(B:Ln)(af:Array Edge):Nat:=af.toList.foldl (λm e=>bif Region.binds .any e then Nat.lor m (Nat.lor (2^e.on) (B.getD e.on 0))else m) 0
def mEdges(m:Nat):Nat->List Edge
 |0=>[]|k+1=>bif Nat.testBit m k then⟨k,.data⟩::mEdges m k else mEdges m k
def closeGo:Ln->Nat->List Oper->List Oper
 |_,_,[]=>[]|aq,k,o::r=>{o with after:=(mEdges (ancM aq o.after) k).toArray}::closeGo (aq++[ancM aq o.after]) (k+1) r
def closeOps(l:List Oper):List Oper:=closeGo [] 0 l
theorem k7h:∀l B(k i:Nat),∃f:Oper->Array Edge,(closeGo B k l)[i]?=(l[i]?).map λo=>{o with after:=f o}
 |[],_,_,_=>⟨λo=>o.after,by simp[closeGo]⟩|o::l,B,k,0=>⟨λo=>(mEdges (ancM B o.after) k).toArray,by simp[closeGo]⟩|o::l,B,k,i+1=>by obtain⟨f,F⟩:=k7h l (B++[ancM B o.after]) (k+1) i;exact⟨f,by exact F⟩
theorem k7o:∀l B k,(closeGo B k l).length=l.length
 |[],_,_=>rfl|o::l,B,k=>by simp[closeGo,k7o l]
theorem k8v{m:Nat}:∀{k:Nat}{e:Edge},e∈mEdges m k->Nat.testBit m e.on=true
 |0,_,h=>by cases h|k+1,e,h=>by simp only[mEdges]at h;cases B:Nat.testBit m k with
  |false=>rw[B]at h;exact k8v h|true=>
   rw[B]at h;rcases qak.1 h with rfl|h;.exact B
   .exact k8v h
theorem ktq{B:Ln}{af:Array Edge}{i:Nat}(h:Nat.testBit (ancM B af) i=true):∃e∈af,Region.binds .any e=true/\(e.on=i∨Nat.testBit (B.getD e.on 0) i=true):=by
 have key:∀(l:List Edge)m,Nat.testBit (l.foldl (λm e=>bif Region.binds .any e then Nat.lor m (Nat.lor (2^e.on) (B.getD e.on 0))else m) m) i=true->Nat.testBit m i=true∨∃e∈l,Region.binds .any e=true/\(e.on=i∨Nat.testBit (B.getD e.on 0) i=true):=by intro l;induction l with
  |nil=>grind|cons e l M=>
   intro m h;rw[qfl]at h;rcases M _ h with h1|⟨U,X,Y⟩;.cases F:Region.binds .any e with
    |false=>grind|true=>rw[F]at h1;have h1:Nat.testBit (m|||(2^e.on|||B.getD e.on 0)) i=true:=h1;grind
   grind
 rcases key af.toList 0 h with J|⟨e,h1,Z⟩;.simp at J
 grind
theorem kdr(L:List Oper):∀l B k,B.length=k->(∀i,l[i]?=L[k+i]?)->(∀t i,Nat.testBit (B.getD t 0) i=true->Anc L t i)->∀j o e,(closeGo B k l)[j]?=some o->e∈o.after->Anc L (k+j) e.on
 |[],_,_,_,_,_,j,o,e,h,_=>by simp[closeGo]at h|a::l,B,k,X,U,Y,j,o,e,h,he=>by
  have F:L[k]?=some a:=by have:=U 0;grind
  have Z:∀i,Nat.testBit (ancM B a.after) i=true->Anc L k i:=by
   intro i hi;obtain⟨e,h1,M,J⟩:=ktq hi;rcases J with J|J;.rw[<-J];exact .edge F h1 M
   .exact .trans F h1 M (Y _ _ J)
  cases j with
  |zero=>simp only[closeGo,qds,qaq]at h;grind[k8v]|succ j=>rw[show k+(j+1)=k+1+j by omega];refine kdr L l _ (k+1) (by simp[X]) λi=>by have:=U (i+1);grind (λt i hi=>?_) j o e h he;grind
theorem dops_es{P:Program}{N:Nat}{tb:List On}{nb S:Nat}:∀l ws rs k(K:St->Prop)(s:St),DOps P N tb nb S ws rs k l K s->∃es:List Eff,es.length=l.length/\K (es.foldl (λs e=>e.app s) s)/\(∀(i:Nat)(o:Oper)(e:Eff),l[i]?=some o->es[i]?=some e->stepD P N tb nb S (k+i) o e ((es.take i).foldl (λs e=>e.app s) s))/\(∀(i j:Nat)(Z J:Eff)(U:Oper)(id:Nat),i<j->es[i]?=some Z->es[j]?=some J->l[j]?=some U->(Hp.get Z.hu id).isSome=true/\((Hp.get J.hu id).isSome=true∨id∈J.rd)∨id∈Z.rd/\(Hp.get J.hu id).isSome=true->∃e∈U.after,Region.binds .any e=true/\e.on=k+i)/\(∀(j:Nat)(J:Eff)(U:Oper)(id:Nat),es[j]?=some J->l[j]?=some U->(Hp.get J.hu id).isSome=true∨id∈J.rd->∀p∈ws,p.1=id->∃e∈U.after,Region.binds .any e=true/\e.on=p.2)/\(∀(j:Nat)(J:Eff)(U:Oper)(id:Nat),es[j]?=some J->l[j]?=some U->(Hp.get J.hu id).isSome=true->∀p∈rs,p.1=id->∃e∈U.after,Region.binds .any e=true/\e.on=p.2)/\(∀(j:Nat)(e:Eff)(id:Nat),es[j]?=some e->(Hp.get e.hu id).isSome=true->id<frs nb S (k+j+1))/\∀(j:Nat)(e:Eff)(id:Nat),es[j]?=some e->(Hp.get e.hu id).isSome=true->frs nb S (k+j)<=id∨((es.take j).foldl (λs e=>e.app s) s).h.get id≠none
 |[],ws,rs,k,K,s,h=>⟨[],rfl,h,by simp,by simp,by simp,by simp,by simp,by simp⟩|o::l,ws,rs,k,K,s,h=>by
  obtain⟨e,h1,⟨h2,aa⟩,h3⟩:=h;obtain⟨es,g1,g2,g3,g4,g5,g6,g7,g8⟩:=dops_es l _ _ (k+1) K _ h3;refine⟨e::es,by simp[g1],g2,?_,?_,?_,?_,?_,?_⟩;.intro i o' e' ho he;cases i with
   |zero=>simp at ho he;subst ho;subst he;simpa using h1|succ i=>simp at ho he;have:=g3 i o' e' ho he;rw[show k+(i+1)=k+1+i by omega];simpa using this
  .intro i j Z J U id ab hi F B M;cases j with
   |zero=>omega|succ j=>simp at F B;cases i with
    |zero=>
     simp at hi;subst hi;rcases M with⟨c1,c2⟩|⟨c1,c2⟩;.have:=g5 j J U id F B c2 (id,k) (List.mem_append_left _ (qap.2 ⟨id,(k66 _ _).1 c1,rfl⟩)) rfl;simpa using this
     .have:=g6 j J U id F B c2 (id,k) (List.mem_append_left _ (qap.2 ⟨id,c1,rfl⟩)) rfl;simpa using this|succ i=>simp at hi;have:=g4 i j Z J U id qqo hi F B M;rw[show k+(i+1)=k+1+i by omega];exact this
  .intro j J U id F B M p Y X;cases j with
   |zero=>
    simp at F B;subst F;subst B;rcases M with M|M;.exact k9n ((h2 id ((k66 _ _).1 M)).1 p Y X)
    .exact k9n (aa id M p Y X)|succ j=>simp at F B;exact g5 j J U id F B M p (qfg _ Y) X
  .intro j J U id F B M p Y X;cases j with
   |zero=>simp at F B;subst F;subst B;exact k9n ((h2 id ((k66 _ _).1 M)).2.1 p Y X)|succ j=>simp at F B;exact g6 j J U id F B M p (qfg _ Y) X
  .intro j e' id F M;cases j with
   |zero=>simp at F;subst F;exact(h2 id ((k66 _ _).1 M)).2.2.1|succ j=>simp at F;have:=g7 j e' id F M;rw[show k+(j+1)+1=k+1+j+1 by omega];exact this
  .intro j e' id F M;cases j with
   |zero=>
    simp at F;subst F;rcases(h2 id ((k66 _ _).1 M)).2.2.2 with h|h;.exact .inl h
    .exact .inr (by simpa using Option.isSome_iff_ne_none.1 h)|succ j=>simp at F;have:=g8 j e' id F M;rw[show k+(j+1)=k+1+j by omega];simpa using this
section
variable{P:Program}{T:Tk}{G0:Gh}{w0:World}{N:Nat}{s:St}{Q:Exit->St->Prop}
theorem stE_all(es:List Eff):∀k s,stE (λ_=>true) es k s=es.foldl (λs e=>e.app s) s:=by induction es with
 |nil=>intro _ _;rfl|cons e es B=>intro k s;rw[stE,B];rfl
theorem kw9(E:Nat->Bool)(es:List Eff):∀k s,(∀n,k<=n->n<k+es.length->E n=false)->stE E es k s=s:=by induction es with
 |nil=>intro _ _ _;rfl|cons e es B=>intro k s h;rw[stE,B (k+1) _ (by grind),h k (qaf _) qqs];rfl
theorem kke(S:Nat){id:Nat}{l:List Oper}(hm:P.follows .mixedOrders=true)(ae:noIt s.h)(hB:Region.lexB .any l.toArray=true)(h:∀K,(∀s',Q .normal s'->K s')->DOps P N (l.map (·.dst)) s.nx S [] [] 0 (closeOps l) K ⟨s.sl,s.h,s.nx+l.length*S⟩):Sat P T G0 w0 N (.region id l.toArray true) s Q:=by
 intro G a w hR;obtain⟨es,g1,g2,U,X,_,_,g7,g8⟩:=dops_es (closeOps l) [] [] 0 (Q .normal) _ (h _ λ_ h=>h);rw[show(closeOps l).length=l.length from k7o l [] 0]at g1;have g3:∀i o e,l[i]?=some o->es[i]?=some e->stepD P N (l.map (·.dst)) s.nx S (0+i) o e ((es.take i).foldl (λs e=>e.app s) ⟨s.sl,s.h,s.nx+l.length*S⟩):=by intro i o e ho he;obtain⟨f,hf⟩:=k7h l [] 0 i;exact U i {o with after:=f o} e (by unfold closeOps;grind) he
 have g4:∀i j F B M id,i<j->es[i]?=some F->es[j]?=some B->l[j]?=some M->(Hp.get F.hu id).isSome=true/\((Hp.get B.hu id).isSome=true∨id∈B.rd)∨id∈F.rd/\(Hp.get B.hu id).isSome=true->Anc l j i:=by
  intro i j F B M id Y hi hj ai hc;obtain⟨f,hf⟩:=k7h l [] 0 j;have J:(closeGo [] 0 l)[j]?=some {M with after:=f M}:=by grind
  obtain⟨e,q1,_,q3⟩:=X i j F B _ id Y hi hj J hc;have:=kdr l l [] 0 rfl λi=>by simp (λt i ht=>by simp at ht) j _ e J q1;grind
 have Z:R T G0 w0 N s a G {w with drawn:=w.drawn+1}:=hR.drew;obtain⟨G',aj,aa⟩:=Z.raise (l.length*S);refine wp_region_any hm ?_;have ag:∀n,(Array.replicate l.length false).getD n false=false:=λn=>by rw[qfn,Array.getElem?_replicate];grind
 have ah:∀i,stE (λk=>decide (k<i)) es 0 ⟨s.sl,s.h,s.nx+l.length*S⟩=(es.take i).foldl (λs e=>e.app s) ⟨s.sl,s.h,s.nx+l.length*S⟩:=λi=>by have hp:=krw es i 0 ⟨s.sl,s.h,s.nx+l.length*S⟩;grind
 have ab:=drawn (P:=P) (T:=T) (G0:=G0) (w0:=w0) (N:=N) (l:=l) (es:=es) (s0:=⟨s.sl,s.h,s.nx+l.length*S⟩) (nb:=s.nx) (S:=S) (Q:=λe a' w'=>∃s' G',Q e s'/\R T G0 w0 N s' a' G' w') g1 rfl λk hk=>by cases hg:s.h.get k with
   |none=>rfl|some ob=>have:=hR.wr.hid _ _ hg;omega ae (by grind) hB (by grind) (by grind) (by grind) (λa' ac w' ak=>⟨_,ac,g2,by grind[stE_all]⟩) l.length (Array.replicate l.length false) a G' {w with drawn:=w.drawn+1} qqs (by grind) (by grind[kw9]) (λk _ _ id ad _=>aa _ (by unfold frs at ad;omega)) (by grind);grind
end
def storeO(x:V)(n off:Nat):Option Ob->Prop
 |some (.cells l)=>x.flat n/\off+n<=l.length|_=>False
theorem kua(a:Bool)(n:Nat)(h:Hp)(x:V)(id off:Nat):storeOk (some (a,n)) h x (.ptr id off)=storeO x n off (h.get id):=by cases B:h.get id with
 |none=>simp[storeOk,storeO,B]|some o=>cases o<;>simp[storeOk,storeO,B]
def storeHO(h:Hp)(x:V)(id off:Nat):Option Ob->Hp
 |some (.cells l)=>(id,.cells (setAt l off x.cells))::h|_=>h
theorem kvt(h:Hp)(x:V)(id off:Nat):storeH h x (.ptr id off)=storeHO h x id off (h.get id):=by cases B:h.get id with
 |none=>simp[storeH,storeHO,B]|some o=>cases o<;>simp[storeH,storeHO,B]
theorem r_toDs1(x:V)(l:List V):toDs (x::l)=(x.toD).bind λd=>(toDs l).bind λB=>some (d::B):=by simp only[toDs,qfm];rfl
theorem k69(l:List V)(h:∀x∈l,x.one=true):leL l l:=by induction l with
 |nil=>trivial|cons x l B=>exact⟨⟨kc x,h x qqs⟩,by grind⟩
theorem le_any(x:V):le x .any=True:=by cases x<;>simp[le,le0,le1]
end Go.Bv
namespace Go.Bv
open Go.RowKit
section
variable{P:Program}{T:Tk}{G0 G:Gh}{w0 w:World}{N:Nat}{s:St}{a:Act}
theorem R.reslot(B:R T G0 w0 N s a G w)(t:Nat){y:V}(F:RepV G w s.h s.nx (a.tmps.getD t undef) y):R T G0 w0 N ⟨(t,y)::s.sl,s.h,s.nx⟩ a G w:=⟨B.fr,B.wr,B.df,B.sz,λu=>by
  simp only[getS];split;.grind
  .exact B.sl u,B.ex⟩
theorem R.recell(U:R T G0 w0 N s a G w){id j:Nat}{l:List V}{x y:V}(hg:s.h.get id=some (.cells l))(hx:l[j]?=some x)(hy:y.one=true)(hv:∀v,RepV G w s.h s.nx v x->RepV G w s.h s.nx v y):R T G0 w0 N ⟨s.sl,(id,.cells (l.set j y))::s.h,s.nx⟩ a G w:=by
 have J:=U.wr;have he:Ext G w s.h s.nx G w ((id,.cells (l.set j y))::s.h) s.nx:=by refine⟨Mono.refl _ _,qaf _,λ_ _ _ h=>h,λtok t' _ h1=>?_,λ_ _ h=>h⟩;simp only[Hp.get]at h1;grind
 refine⟨U.fr,⟨?_,J.mob.ext he (λi es F=>?_) J.hid λ_ _ _ _ _=>rfl,J.here,λi k b hi hk h1 X l1 l2=>J.inj i k b hi hk h1 X (k1n (ki hg) l1) (k1n (ki hg) l2),?_,J.lim⟩,U.df,U.sz,λt=>(U.sl t).ext he,U.ex.ext he⟩
 .intro i l' B;simp only[Hp.get]at B;split at B
  .rename_i hi;subst hi;injection B with B;injection B with B;subst B;rcases J.obj i l hg with⟨z1,z2⟩|⟨b,e,cs,h1,X,h3,h4,h5,Z⟩;.grind
   refine .inr ⟨b,e,cs,h1,X,h3,by grind,λz M=>?_,λk v z Y M=>?_⟩;.grind
   .rw[qef]at M;split at M
    .rename_i hk;subst hk;split at M;.injection M with M;subst M;exact(hv v (Z j v x Y hx)).ext he
     .cases M
    .exact(Z k v z Y M).ext he
  .rcases J.obj i l' B with h0|⟨b,e,cs,h1,X,h3,h4,h5,Z⟩;.grind
   exact .inr ⟨b,e,cs,h1,X,h3,h4,h5,λk v x hv hx=>(Z k v x hv hx).ext he⟩
 .simp only[Hp.get]at F;grind
 .intro i ob F;simp only[Hp.get]at F;split at F;.rename_i h;subst h;exact J.hid _ _ hg
  .exact J.hid _ _ F
def growsFrom(sz:Nat)(l:List D):V->Prop
 |.full z m=>z=sz/\m=l|.k (.slice none 0 0)=>l=[]|_=>False
theorem R.tok(J:R T G0 w0 N s a G w)(sz:Nat)(l:List D):∃G',R T G0 w0 N ⟨s.sl,(s.nx,.tip l.length)::s.h,s.nx+1⟩ a G' w/\∀x v,growsFrom sz l x->RepV G' w ((s.nx,.tip l.length)::s.h) (s.nx+1) v x->RepV G' w ((s.nx,.tip l.length)::s.h) (s.nx+1) v (.own s.nx sz l):=by
 have U:=J.wr;let G':Gh:=⟨λi=>if i=s.nx then none else G.loc i,λi=>if i=s.nx then none else G.tloc i,G.lim⟩;have ae:∀i,i<s.nx->G'.loc i=G.loc i/\G'.tloc i=G.tloc i:=(by grind);have hh:∀i,i≠s.nx->Hp.get ((s.nx,.tip l.length)::s.h) i=s.h.get i:=λi hi=>by simp[Hp.get,hi]
 have he:Ext G w s.h s.nx G' w ((s.nx,.tip l.length)::s.h) (s.nx+1):=⟨Mono.refl _ _,by omega,by grind,by grind,λ_ _ h=>h⟩;have B:∀i b,i<s.nx+1->G'.loc i=some b∨G'.tloc i=some b->i<s.nx/\(G.loc i=some b∨G.tloc i=some b):=by grind
 refine⟨G',⟨⟨J.fr.os,J.fr.tape,J.fr.output,J.fr.size,J.fr.same,J.fr.mono⟩,⟨?_,U.mob.ext he (λi es aa=>?_) U.hid λ_ _ _ _ _=>rfl,?_,?_,?_,U.lim⟩,J.df,J.sz,λt=>(J.sl t).ext he,J.ex.ext he⟩,λx v M hv=>?_⟩
 .intro id l' F;simp only[Hp.get]at F;split at F;.cases F
  .have X:=U.hid id _ F;rcases U.obj id l' F with⟨z1,z2⟩|⟨b,e',cs',h1,Y,h3,h4,h5,h6⟩;.grind
   exact .inr ⟨b,e',cs',by grind,Y,h3,h4,h5,λj v x hv hx=>(h6 j v x hv hx).ext he⟩
 .simp only[Hp.get]at aa;grind
 .intro id b X hb;obtain⟨h1,Y⟩:=B id b X hb;exact U.here id b h1 Y
 .intro i j b hi hj ab ac li lj;obtain⟨h1,Y⟩:=B i b hi ab;obtain⟨h3,h4⟩:=B j b hj ac;exact U.inj i j b h1 h3 Y h4 (live_eq (hh i qqo) li) (live_eq (hh j qqo) lj)
 .intro id ob M;show id<s.nx+1;simp only[Hp.get]at M;split at M;.omega
  .have:=U.hid id ob M;omega
 .have Z:∃A,v=.slice A l.length l.length/\RepD G'.lim w v (.slice sz l):=by cases x with
   |full z m=>obtain⟨rfl,rfl⟩:=M;exact hv.full_inv|k u=>
    unfold growsFrom at M;split at M;.grind
    .subst M;rw[hv.k_inv];exact⟨none,by simp_all,by simp_all;exact .nil none sz⟩
    grind|_=>exact M.elim
  obtain⟨A,hA,hd⟩:=Z;refine .own _ _ _ _ hd qqo λt' ad=>?_;simp only[Hp.get,qcj,qaq,Ob.tip.injEq]at ad;rw[hA];exact⟨by omega,λ_=>.inl rfl⟩
end
section
variable{P:Program}{T:Tk}{G0:Gh}{w0:World}{N:Nat}{tb:List On}{d:On}{ty:TypeId}{p:String}{af:Array Edge}{r:List Oper}{K:St->Prop}{s:St}{Q:Exit->St->Prop}
theorem kkd{c:Operand}{x y:Code}(B:s.ev c=.d (.bool true))(F:Sat P T G0 w0 N x s Q):Sat P T G0 w0 N (.cond c x y) s Q:=k8w B (λ_=>F) λh=>by cases h
theorem kkz{c:Operand}{x y:Code}(B:s.ev c=.d (.bool false))(F:Sat P T G0 w0 N y s Q):Sat P T G0 w0 N (.cond c x y) s Q:=k8w B (λh=>by cases h) λ_=>F
def selfP:Nat->Nat->Ln->Prop
 |_,0,_=>True|i,n+1,a::r=>a=i/\selfP (i+1) n r|_,_+1,[]=>False
theorem kha:∀n k r,selfP k n r->∀i,i<n->r[i]?=some (k+i)
 |0,_,_,_,i,hi=>by omega|n+1,k,[],h,_,_=>h.elim|n+1,k,a::r,h,i,hi=>by cases i with
  |zero=>simp[h.1]|succ i=>rw[qbc,kha n (k+1) r h.2 i qqo];grind
theorem retN(ρ:Ln){F:Nat}{B:List Ob}{M:List ResultVar}{J:V}(h:allOk P s M/\le (retV (M.map (resV P s))) (ren (rh ρ) J)/\ok B.length J/\noTup J/\postOk s.h (rh ρ) B.length s.nx ρ B/\ρ.Nodup/\F<=B.length/\selfP 0 F ρ):RetA P M J F B s:=⟨h.1,ρ,h.2.1,h.2.2.1,h.2.2.2.1,h.2.2.2.2.1,h.2.2.2.2.2.1,h.2.2.2.2.2.2.1,λi hi=>by have:=kha F 0 ρ h.2.2.2.2.2.2.2 i hi;grind⟩
end
end Go.Bv
namespace Go.Md
open Go Go.Bv
def ix{α:Type}[Inhabited α](l:List α)(i:Int):α:=(l[i.toNat]?).getD default
structure Loop{σ:Type}(s0:σ)(body:(σ->Prop)->σ->Prop):Prop where ex:∃(inv:σ->Prop)(μ:σ->Nat),inv s0/\∀s,inv s->body (λs'=>inv s'/\μ s'<μ s) s
theorem ix_get{α:Type}[Inhabited α](l:List α)(k:Nat)(h:k<l.length):ix l k=l[k]:=by simp[ix,h]
theorem wrap_u64(n:Int)(B:0<=n)(h:n<18446744073709551616):IntKind.u64.wrap n=n:=IntWalk.u64_in n (by omega)
theorem ko(n:Int)(B:-9223372036854775808<=n)(h:n<9223372036854775808):IntKind.i64.wrap n=n:=IntWalk.i64_in n (by omega)
def rowOver{α:Type}(l m:List α)(n:Nat):List α:=m.take (min m.length n)++l.drop (min m.length n)
end Go.Md
namespace Go.Bv
open Go.RowKit Go.Md
theorem elt_ix{α:Type}[Inhabited α](f:α->D)(l:List α)(i:Int)(B:0<=i)(h1:i<l.length):elt (l.map f) i.toNat=f (ix l i):=by
 have:i.toNat<l.length:=by omega
 simp[elt,ix,this]
theorem kf1{G:Gh}{w:World}{h:Hp}{nx:Nat}{v:Value}{k:IntKind}{n:Int}(B:RepV G w h nx v (.d (.int k n))):v=.int k n:=by cases B with|d _ _ hd=>cases hd;rfl
theorem kuq{G:Gh}{w:World}{h:Hp}{nx:Nat}(k J:IntKind)(a b:Int):RepV G w h nx (.tuple #[.int k a,.int J b]) (.tup [.d (.int k a),.d (.int J b)]):=by
 refine .tup [.int k a,.int J b] _ rfl λj v x B F=>?_;match j with
 |0=>simp at B F;subst B;subst F;exact .d _ _ (.int _ _)|1=>simp at B F;subst B;subst F;exact .d _ _ (.int _ _)|j+2=>simp at B
theorem kox{P:Program}{f:FuncId}{fn:Func}(hf:P.funcs[f]?=some fn)(B:(fn.name== "runtime.NumGoroutine")=false)(hb:fn.body.isNone=true)(hn:Extern.findNext fn=none)(he:Extern.find fn=some add64Entry)(x y c:Int)(hx:0<=x)(hy:0<=y)(J:0<=c)(hc:c<=1):SoundX P f [.d (.int .u64 x),.d (.int .u64 y),.d (.int .u64 c)] (.tup [.d (.int .u64 ((x+y+c)%18446744073709551616)),.d (.int .u64 ((x+y+c)/18446744073709551616))]):=by
 intro G w h nx vs M F;match vs,M with|[Z,v1,v2],_=>have U:=kf1 (F 0 Z _ rfl rfl);have X:=kf1 (F 1 v1 _ rfl rfl);have Y:=kf1 (F 2 v2 _ rfl rfl);subst U;subst X;subst Y;refine⟨_,?_,kuq _ _ _ _⟩;rw[run_callFunc_extern hf B hb hn he];rw[run_add64 x y c hx hy J hc w];rfl
end Go.Bv
namespace Go.Cv
open Go Go.Bv Go.RowKit Go.Md
inductive Ty where|int(k:IntKind)|bool|str|sl(e:Ty)|st(n:Nat)
def Ty.beq:Ty->Ty->Bool
 |.int k,.int B=>decide (k=B)|.bool,.bool=>true|.str,.str=>true|.sl a,.sl b=>a.beq b|.st n,.st m=>Nat.beq n m|_,_=>false
theorem Ty.eq_of_beq:∀{a b:Ty},a.beq b=true->a=b
 |.int k,.int B,h=>by simp[Ty.beq]at h;rw[h]|.bool,.bool,_=>rfl|.str,.str,_=>rfl|.sl a,.sl b,h=>by rw[Ty.eq_of_beq (a:=a) (b:=b) h]|.st n,.st m,h=>by rw[qdz (n:=n) (m:=m) h]|.int _,.bool,h=>by cases h|.int _,.str,h=>by cases h|.int _,.sl _,h=>by cases h|.int _,.st _,h=>by cases h|.bool,.int _,h=>by cases h|.bool,.str,h=>by cases h|.bool,.sl _,h=>by cases h|.bool,.st _,h=>by cases h|.str,.int _,h=>by cases h|.str,.bool,h=>by cases h|.str,.sl _,h=>by cases h|.str,.st _,h=>by cases h|.sl _,.int _,h=>by cases h|.sl _,.bool,h=>by cases h|.sl _,.str,h=>by cases h|.sl _,.st _,h=>by cases h|.st _,.int _,h=>by cases h|.st _,.bool,h=>by cases h|.st _,.str,h=>by cases h|.st _,.sl _,h=>by cases h
def Ty.agg:Ty->Bool
 |.st _=>true|_=>false
def Ty.prim:Ty->Bool
 |.st _=>false|.sl _=>false|_=>true
def Ty.den(S:Nat->Type):Ty->Type
 |.int _=>Int|.bool=>Bool|.str=>ByteArray|.sl e=>List (e.den S)|.st n=>S n
def HL(S:Nat->Type):List Ty->Type
 |[]=>Unit|t::r=>t.den S×HL S r
def Ty.cast(F:Ty->Type)(a b:Ty)(x:F a):Option (F b):=if h:a.beq b=true then some (Ty.eq_of_beq h▸x)else none
theorem Ty.cast_some{F:Ty->Type}{a b:Ty}{x:F a}{y:F b}(h:Ty.cast F a b x=some y):∃e:a=b,e▸x=y:=by
 unfold Ty.cast at h;split at h;.rename_i B;injection h with h;exact⟨Ty.eq_of_beq B,h⟩
 .cases h
structure Tab where
 den:Nat->Type
 inh:∀n,den n
 tys:Nat->List Ty
 cells:∀n,den n->HL den (tys n)pack:∀n,HL den (tys n)->den n
 enc:∀n,den n->D
def Tab.sz(T:Tab):Ty->Nat
 |.st n=>(T.tys n).length|_=>1
def Tab.e(T:Tab):(t:Ty)->t.den T.den->D
 |.int k,n=>.int k n|.bool,b=>.bool b|.str,s=>.str s|.sl e,l=>.slice (T.sz e) (List.map (T.e e) l)|.st n,x=>T.enc n x
def Tab.eL(T:Tab):(ts:List Ty)->HL T.den ts->List D
 |[],_=>[]|t::r,x=>T.e t x.1::T.eL r x.2
def Tab.dflt(T:Tab):(t:Ty)->t.den T.den
 |.int _=>(0:Int)|.bool=>false|.str=>ByteArray.empty|.sl _=>[]|.st n=>T.inh n
structure Tab.Ok(T:Tab):Prop where
 one:∀n,(T.tys n).all (λt=>!t.agg)=true
 pc:∀n x,T.cells n (T.pack n x)=x
 en:∀n x,T.enc n x=.agg (T.eL (T.tys n) (T.cells n x))
structure TD(S:Nat->Type)where
 t:Ty
 x:t.den S
inductive TV(S:Nat->Type)where|any|k(v:Value)|lit(b:Bool)|d(t:Ty)(x:t.den S)|full(e:Ty)(l:List (e.den S))|own(tok:Nat)(e:Ty)(l:List (e.den S))|ptr(id off:Nat)|aptr(id off n:Nat)(i:Int)|ro(l:List (TD S))|row(id:Nat)(e:Ty)(len:Nat)|view(id:Nat)(e:Ty)(off len:Nat)|eptr(id:Nat)(e:Ty)(i:Int)(off:Nat)|mp(id:Nat)|clo(g:Nat)(fs cs:List (Option (Nat×Nat)))|agg(l:List (TV S))|tup(l:List (TV S))
inductive TOb(S:Nat->Type)where|cells(l:List (TV S))|tip(e:Ty)(l:List (e.den S))|vec(e:Ty)(l:List (e.den S))|map(k v:Ty)(ks:List (k.den S))(vs:List (v.den S))|it(mid:Nat)(k v:Ty)(ks:List (k.den S))(vs:List (v.den S))(last:Option (k.den S×v.den S))|foc(e:Ty)(l:List (e.den S))(i:Int)(off rid:Nat)(re:Ty)(n:Nat)|dead
abbrev THp(S:Nat->Type):=List (Nat×TOb S)
structure TSt(S:Nat->Type)where
 sl:List (Nat×TV S)h:THp S
 nx:Nat
section
variable{S:Nat->Type}
def TD.v(d:TD S):TV S:=.d d.t d.x
def getT:List (Nat×TV S)->Nat->TV S
 |[],_=>.any|p::r,j=>bif Nat.beq j p.1 then p.2 else getT r j
def getH:THp S->Nat->Option (TOb S)
 |[],_=>none|p::r,j=>bif Nat.beq j p.1 then some p.2 else getH r j
def TSt.put(s:TSt S):On->TV S->TSt S
 |some t,x=>⟨(t,x)::s.sl,s.h,s.nx⟩|none,_=>s
def tofK1:Value->TV S
 |.int q n=>.d (.int q) n|.bool b=>.lit b|.string s=>.d .str s|v=>bif v.oneCell' then .k v else .any
def tofK:Value->TV S
 |.agg cs=>bif cs.all (·.oneCell')then .agg (cs.toList.map tofK1)else .any|v=>tofK1 v
def TSt.ev(s:TSt S):Operand->TV S
 |.tmp t=>getT s.sl t|.const v=>tofK v|.global _=>.any|.func f=>.k (.func (.func f) #[] #[])
def castL(a b:Ty)(l:List (a.den S)):Option (List (b.den S)):=Ty.cast (λt=>List (t.den S)) a b l
def TV.one:TV S->Bool
 |.any=>false|.k v=>v.oneCell'|.d t _=>!t.agg|.agg _=>false|.tup _=>false|_=>true
def TV.asI:TV S->Option (IntKind×Int)
 |.d (.int q) n=>some (q,n)|_=>none
def TV.cells:TV S->List (TV S)
 |.agg l=>l|v=>[v]
end
section
variable(T:Tab)
def TD.e(d:TD T.den):D:=T.e d.t d.x
def er1:TV T.den->V
 |.any=>.any|.k v=>.k v|.lit b=>.d (.bool b)|.d t x=>.d (T.e t x)|.full e l=>.full (T.sz e) (l.map (T.e e))|.own tok e l=>.own tok (T.sz e) (l.map (T.e e))|.ptr id off=>.ptr id off|.aptr id off _ i=>.ptr id (off+i.toNat)|.ro l=>.ro (l.map (TD.e T))|.row id e len=>.row id 0 len (T.sz e)|.view id e off len=>.row id (off*T.sz e) len (T.sz e)|.eptr id e i off=>.ptr id (i.toNat*T.sz e+off)|.mp id=>.mp id|.clo g B cs=>.clo g B cs|.agg _=>.any|.tup _=>.any
def er0:TV T.den->V
 |.agg l=>.agg (l.map (er1 T))|v=>er1 T v
def er:TV T.den->V
 |.tup l=>.tup (l.map (er0 T))|v=>er0 T v
def erO:TOb T.den->Ob
 |.cells l=>.cells (l.map (er1 T))|.tip _ l=>.tip l.length|.vec e l=>.cells (((l.map (T.e e)).flatMap D.cells).map .d)|.map k v F vs=>.map (.m ((F.zip vs).map λp=>(T.e k p.1,V.ofD (T.e v p.2))))|.it mid k v F vs B=>.map (.it mid ((F.zip vs).map λp=>(T.e k p.1,V.ofD (T.e v p.2))) (B.map λp=>(T.e k p.1,V.ofD (T.e v p.2))))|.foc e l i off J M n=>.cells ((((l.map (T.e e)).flatMap D.cells).map .d).set (i.toNat*T.sz e+off) (.row J 0 n (T.sz M)))|.dead=>.dead
def erH(h:THp T.den):Hp:=h.map λp=>(p.1,erO T p.2)
end
def erS(T:Tab)(s:TSt T.den):St:=⟨s.sl.map λp=>(p.1,er T p.2),erH T s.h,s.nx⟩
theorem nb_ne{a b:Nat}(h:a≠b):Nat.beq a b=false:=Bool.eq_false_iff.2 λe=>h (qdz e)
theorem nb_self(a:Nat):Nat.beq a a=true:=Nat.beq_refl a
theorem nb_eq{a b:Nat}(h:Nat.beq a b=true):a=b:=qdz h
section
variable{T:Tab}
theorem getS_er:∀sl t,getS (sl.map λp=>(p.1,er T p.2)) t=er T (getT sl t)
 |[],_=>rfl|p::r,t=>by
  simp only[qaj,getS,getT];by_cases e:t=p.1;.subst e;simp
  .rw[qe e,nb_ne e,qcc];exact getS_er r t
theorem getH_er:∀l i,(erH T l).get i=(getH l i).map (erO T)
 |[],_=>rfl|p::r,t=>by
  show Hp.get ((p.1,erO T p.2)::erH T r) t=_;simp only[Hp.get,getH];by_cases e:t=p.1;.subst e;simp
  .rw[qe e,nb_ne e,qcc];exact getH_er r t
theorem getE{l:THp T.den}{i:Nat}{o:TOb T.den}(h:getH l i=some o):(erH T l).get i=some (erO T o):=by rw[getH_er,h];rfl
theorem k17(v:Value):er1 T (tofK1 v)=V.ofK1 v:=by cases v<;>simp only[er1]<;>rfl
theorem er0_of1{v:TV T.den}(B:v.one=true):er0 T v=er1 T v:=by cases v<;>first|rfl|cases B
theorem er_of1{v:TV T.den}(B:v.one=true):er T v=er1 T v:=by cases v<;>first|rfl|cases B
end
inductive BT(α:Type)where|lf|nd(l:BT α)(k:Nat)(v:α)(r:BT α)
def BT.find{α:Type}:BT α->Nat->Option α
 |.lf,_=>none|.nd l k v r,j=>bif Nat.beq j k then some v else bif Nat.ble j k then l.find j else r.find j
structure TI(S:Nat->Type)where
 ty:Option (Bool×Nat):=none
 fl:List (Nat×Bool×Nat):=[]el:Option (Ty×Nat):=none
 ez:Bool:=false
 ar:Option (Nat×Bool×Nat):=none
 ze:Option (List (TV S)):=none
 pl:List (Nat×Nat):=[]un:Option TypeDesc:=none
 eq:Option (List TypeDesc):=none
 mp:Option (Ty×Ty):=none
def TI.of{S:Nat->Type}(I:BT (TI S))(t:TypeId):TI S:=(I.find t).getD {}
section
variable{S:Nat->Type}
def isNilK:Value->Bool
 |.slice none 0 0=>true|_=>false
def els(e:Ty):TV S->Option (List (e.den S))
 |.d (.sl B) l=>castL B e l|.full B l=>castL B e l|.own _ B l=>castL B e l|.k v=>bif isNilK v then some []else none|_=>none
def TV.isB:TV S->Option Bool
 |.lit b=>some b|.d .bool b=>some b|_=>none
def toEl2(t:Ty):TV S->Option (t.den S)
 |.d t' x=>Ty.cast (Ty.den S) t' t x|_=>none
def toEl1:(t:Ty)->TV S->Option (t.den S)
 |.sl e,v=>els e v|.bool,v=>v.isB|.int k,v=>toEl2 (.int k) v|.str,v=>toEl2 .str v|.st _,_=>none
def tds:(ts:List Ty)->HL S ts->List (TD S)
 |[],_=>[]|t::r,x=>⟨t,x.1⟩::tds r x.2
def packL:(ts:List Ty)->List (TV S)->Option (HL S ts)
 |[],[]=>some ()|t::r,v::vs=>match toEl1 t v with
  |some x=>match packL r vs with
   |some y=>some (x,y)|none=>none
  |none=>none
 |_,_=>none
def colT(t:Ty):List (TV S)->Option (List (t.den S))
 |[]=>some []|.d t' x::r=>match Ty.cast (Ty.den S) t' t x with
  |some x=>match colT t r with
   |some y=>some (x::y)|none=>none
  |none=>none
 |_=>none
def selI(K:TV S->Prop)(i:Int)(B:(t:Ty)->t.den S):List (TV S)->Prop
 |.d t x::r=>bif t.agg then False else match colT t r with
  |some xs=>K (.d t (@ix _ ⟨B t⟩ (x::xs) i))|none=>False
 |_=>False
def tPart(a:Bool)(n:Nat)(l:List (TV S))(off:Nat)(K:TV S->Prop):Prop:=match a with
 |true=>bif Nat.ble (off+n) l.length then K (.agg ((l.drop off).take n))else False|false=>match l[off]? with
  |some x=>bif x.one then K x else False|none=>False
def TV.tupB:TV S->Bool
 |.tup _=>true|_=>false
def TV.setL(l:List (TV S))(off:Nat)(cs:List (TV S)):List (TV S):=l.take off++cs++l.drop (off+cs.length)
def allOne:List (TV S)->Bool
 |[]=>true|v::r=>v.one&&allOne r
def litI:Operand->Bool
 |.const _=>true|_=>false
def ask(o:Operand)(C:Prop)[Decidable C](K:Prop):Prop:=match litI o with
 |true=>bif decide C then K else False|false=>C/\K
def TV.toB:TV S->TV S
 |.lit b=>.d .bool b|v=>v
def tPick(c a b:TV S)(K:TV S->Prop):Prop:=match c with
 |.lit true=>K a|.lit false=>K b|.d .bool t=>match a.toB,b.toB with
  |.d B x,.d tb y=>match Ty.cast (Ty.den S) tb B y with
   |some y=>K (.d B (bif t then x else y))|none=>False
  |_,_=>False
 |_=>False
def tInt(B:Operand)(op:BinOp)(k F:IntKind)(a b:Int)(K:TV S->Prop):Prop:=match op with
 |.shl=>ask B (0<=b) (K (.d (.int k) (ishl k a b)))|.shr=>ask B (0<=b) (K (.d (.int k) (ishr k a b)))|op=>bif decide (k=F)then match op with
  |.add=>K (.d (.int k) (k.wrap (a+b)))|.sub=>K (.d (.int k) (k.wrap (a-b)))|.mul=>K (.d (.int k) (k.wrap (a*b)))|.quo=>ask B (b≠0) (K (.d (.int k) (k.wrap (a.tdiv b))))|.rem=>ask B (b≠0) (K (.d (.int k) (a.tmod b)))|.and=>K (.d (.int k) (iand k a b))|.or=>K (.d (.int k) (ior k a b))|.xor=>K (.d (.int k) (ixor k a b))|.andNot=>K (.d (.int k) (ianot k a b))|.eql=>K (.d .bool (a==b))|.neq=>K (.d .bool (a !=b))|.lss=>K (.d .bool (decide (a<b)))|.leq=>K (.d .bool (decide (a<=b)))|.gtr=>K (.d .bool (decide (b<a)))|.geq=>K (.d .bool (decide (b<=a)))|_=>False else False
def tEqB(op:BinOp)(e:Bool)(K:TV S->Prop):Prop:=match op with
 |.eql=>K (.d .bool e)|.neq=>K (.d .bool !e)|_=>False
def tEqK(op:BinOp)(e:Bool)(K:TV S->Prop):Prop:=match op with
 |.eql=>K (.lit e)|.neq=>K (.lit !e)|_=>False
def tEqL:List TypeDesc->List (TV S)->List (TV S)->Option Bool
 |[],[],[]=>some true|.int k::ts,.d (.int k1) a::l,.d (.int k2) b::m=>bif decide (k1=k2)&&decide (k1=k)then match tEqL ts l m with
  |some e=>some (@BEq.beq Int _ a b&&e)|none=>none else none|.bool::ts,x::l,y::m=>match x.isB,y.isB,tEqL ts l m with
  |some a,some b,some e=>some (a==b&&e)|_,_,_=>none
 |_,_,_=>none
def TV.isNil:TV S->Bool
 |.k v=>isNilK v|_=>false
def isMapK:Value->Bool
 |.map none=>true|_=>false
def isPtrK:Value->Bool
 |.pointer none=>true|_=>false
def tBin(B:TI S)(J:Operand)(op:BinOp)(x y:TV S)(K:TV S->Prop):Prop:=match x,y with
 |.d (.int k) a,.d (.int F) b=>tInt J op k F a b K|.agg l,.agg m=>match B.eq with
  |some ts=>match tEqL ts l m with
   |some e=>tEqB op e K|none=>False
  |none=>False
 |.ptr _ _,.k v=>bif isPtrK v then match B.un with
  |some (.pointer _)=>tEqK op false K|_=>False else False|.ro _,.k v=>bif isPtrK v then match B.un with
  |some (.pointer _)=>tEqK op false K|_=>False else False|.mp _,.k v=>bif isMapK v then match B.un with
  |some (.map _ _)=>tEqK op false K|_=>False else False|.k u,.k v=>bif isPtrK u&&isPtrK v then match B.un with
  |some (.pointer _)=>tEqK op true K|_=>False else bif isMapK u&&isMapK v then match B.un with
  |some (.map _ _)=>tEqK op true K|_=>False else False|.d .str a,.d .str b=>tEqB op (a.toList==b.toList) K|x,y=>match x.isB,y.isB,B.un with
  |some a,some b,some .bool=>tEqB op (a==b) K|_,_,_=>False
end
def mIdx{α:Type}(p:α->Bool):List α->On
 |[]=>none|x::r=>bif p x then some 0 else(mIdx p r).map (·+1)
def mHas{α:Type}(p:α->Bool)(B:List α):Bool:=(mIdx p B).isSome
def mVal{α β:Type}(p:α->Bool)(B:List α)(vs:List β)(z:β):β:=match mIdx p B with
 |some j=>(vs[j]?).getD z|none=>z
def mPutK{α:Type}(p:α->Bool)(B:List α)(k:α):List α:=match mIdx p B with
 |some j=>B.set j k|none=>B++[k]
def mPutV{α β:Type}(p:α->Bool)(B:List α)(vs:List β)(v:β):List β:=match mIdx p B with
 |some j=>vs.set j v|none=>vs++[v]
def mDelK{α:Type}(p:α->Bool)(B:List α):List α:=match mIdx p B with
 |some j=>B.eraseIdx j|none=>B
def mDelV{α β:Type}(p:α->Bool)(B:List α)(vs:List β):List β:=match mIdx p B with
 |some j=>vs.eraseIdx j|none=>vs
def Ty.keq{S:Nat->Type}:(k:Ty)->k.den S->k.den S->Bool
 |.int _,a,b=>@BEq.beq Int _ a b|.bool,a,b=>@BEq.beq Bool _ a b|.str,a,b=>@BEq.beq ByteArray _ a b|_,_,_=>false
def byteAt(s:ByteArray)(i:Int):Int:=((s[i.toNat]?).getD 0).toNat
section
variable(T:Tab)
def tcells:(e:Ty)->e.den T.den->List (TD T.den)
 |.st n,x=>tds (T.tys n) (T.cells n x)|t,x=>[⟨t,x⟩]
def tdv(t:Ty)(x:t.den T.den):TV T.den:=bif t.agg then .agg ((tcells T t x).map TD.v)else .d t x
def toElS(n:Nat):TV T.den->Option (T.den n)
 |.agg l=>(packL (T.tys n) l).map (T.pack n)|_=>none
def toEl:(e:Ty)->TV T.den->Option (e.den T.den)
 |.st n,v=>toElS T n v|.sl e,v=>toEl1 (.sl e) v|.bool,v=>toEl1 .bool v|.int k,v=>toEl1 (.int k) v|.str,v=>toEl1 .str v
def tLoad(X:TI T.den)(h:THp T.den)(v:TV T.den)(K:TV T.den->Prop):Prop:=match X.ty with
 |none=>False|some (a,n)=>match v with
  |.ptr id off=>match getH h id with
   |some (.cells l)=>tPart a n l off K|_=>False
  |.ro l=>tPart a n (l.map TD.v) 0 K|.aptr id off m i=>match a,getH h id with
   |false,some (.cells l)=>bif Nat.ble (off+m) l.length then(0<=i/\i<m)/\selI K i T.dflt ((l.drop off).take m)else False|_,_=>False
  |.eptr id e i off=>match getH h id with
   |some (.vec B l)=>bif e.beq B then(0<=i/\i<l.length)/\tPart a n ((tcells T B (@ix _ ⟨T.dflt B⟩ l i)).map TD.v) off K else False|some (.foc B l M F J U m)=>bif e.beq B&&!a&&Nat.blt off (T.sz B)&&Nat.blt F (T.sz B)then(0<=i/\i<l.length)/\match Nat.beq off F with
    |true=>i=M/\K (.row J U m)|false=>tPart false n ((tcells T B (@ix _ ⟨T.dflt B⟩ l i)).map TD.v) off K else False|_=>False
  |_=>False
def tFaddr(B:TI T.den)(f:Nat)(v:TV T.den)(K:TV T.den->Prop):Prop:=match B.fl[f]? with
 |none=>False|some (o,_,_)=>match v with
  |.ptr id off=>K (.ptr id (off+o))|.ro l=>K (.ro (l.drop o))|.eptr id e i off=>K (.eptr id e i (off+o))|_=>False
def tIaddr(F:TI T.den)(J:Operand)(x i:TV T.den)(K:TV T.den->Prop):Prop:=match i.asI with
 |some (_,i)=>match F.el with
  |some (e,_)=>match x with
   |.row id B len=>bif B.beq e then(0<=i/\i<len)/\K (.eptr id B i 0)else False|.view id B off len=>bif B.beq e then(0<=i/\i<len)/\K (.eptr id B (off+i) 0)else False|x=>match els e x with
    |some l=>ask J (0<=i) (i<l.length/\K (.ro (tcells T e (@ix _ ⟨T.dflt e⟩ l i))))|none=>False
  |none=>match F.ar with
   |some (n,_,sz)=>match litI J with
    |true=>bif decide (0<=i)&&decide (i<n)then match x with
     |.ptr id off=>K (.ptr id (off+i.toNat*sz))|.ro l=>K (.ro (l.drop (i.toNat*sz)))|.eptr id e j off=>K (.eptr id e j (off+i.toNat*sz))|_=>False else False|false=>match x with
     |.ptr id off=>bif Nat.beq sz 1 then(0<=i/\i<n)/\K (.aptr id off n i)else False|_=>False
   |none=>False
 |none=>False
def tIndex(B:TI T.den)(F:Operand)(x i:TV T.den)(K:TV T.den->Prop):Prop:=match x,i.asI with
 |.agg l,some (_,i)=>match B.ar with
  |some (n,a,sz)=>match litI F with
   |true=>bif decide (0<=i)&&decide (i<n)then tPart a sz l (i.toNat*sz) K else False|false=>bif !a&&Nat.beq sz 1&&Nat.beq l.length n then(0<=i/\i<n)/\selI K i T.dflt l else False
  |none=>False
 |.d .str s,some (_,i)=>match B.un with
  |some .string=>(0<=i/\i<s.size)/\K (.d (.int .u8) (byteAt s i))|_=>False
 |_,_=>False
def tLen(B:TI T.den)(x:TV T.den)(K:TV T.den->Prop):Prop:=match B.el with
 |some (e,_)=>match x with
  |.k v=>bif isNilK v then K (.d (.int .i64) (0:Int))else False|.row _ _ len=>K (.d (.int .i64) (len:Int))|.view _ _ _ len=>K (.d (.int .i64) (len:Int))|x=>match els e x with
   |some l=>K (.d (.int .i64) (l.length:Int))|none=>False
 |none=>match x,B.un with
  |.d .str s,some .string=>K (.d (.int .i64) (s.size:Int))|_,_=>False
def bndI(s:TSt T.den):Option Operand->Option (Option Int)
 |none=>some none|some o=>match(s.ev o).asI with
  |some (_,n)=>some (some n)|none=>none
def askO(o:Option Operand)(C:Prop)[Decidable C](K:Prop):Prop:=match o with
 |none=>K|some o=>ask o C K
def tSlice(U:TI T.den)(s:TSt T.den)(x:TV T.den)(M hi:Option Operand)(K:TV T.den->Prop):Prop:=match U.el with
 |some (e,_)=>match bndI T s M,bndI T s hi with
  |some F,some J=>match x with
   |.row id B len=>bif B.beq e then match F,J with
    |none,none=>K (.row id B len)|some a,none=>askO M (0<=a) (a<=len/\K (.view id B a.toNat (len-a.toNat)))|none,some b=>askO hi (0<=b) (b<=len/\K (.view id B 0 b.toNat))|some a,some b=>askO M (0<=a) (a<=b/\b<=len/\K (.view id B a.toNat (b.toNat-a.toNat)))else False|.view id B off len=>bif B.beq e then match F,J with
    |none,none=>K (.view id B off len)|some a,none=>askO M (0<=a) (a<=len/\K (.view id B (off+a.toNat) (len-a.toNat)))|none,some b=>askO hi (0<=b) (b<=len/\K (.view id B off b.toNat))|some a,some b=>askO M (0<=a) (a<=b/\b<=len/\K (.view id B (off+a.toNat) (b.toNat-a.toNat)))else False|x=>match els e x with
    |some l=>match F,J with
     |none,none=>match x with
      |.k v=>K (.k v)|.full _ _=>K (.full e l)|_=>K (.d (.sl e) l)
     |some a,none=>askO M (0<=a) (a<=l.length/\match x with
      |.k v=>K (.k v)|.full _ _=>K (.full e (l.drop a.toNat))|_=>K (.d (.sl e) (l.drop a.toNat)))|none,some b=>askO hi (0<=b) (b<=l.length/\match x with
      |.k v=>K (.k v)|_=>K (.d (.sl e) (l.take b.toNat)))|some a,some b=>askO M (0<=a) (a<=b/\b<=l.length/\match x with
      |.k v=>K (.k v)|_=>K (.d (.sl e) ((l.take b.toNat).drop a.toNat)))
    |none=>False
  |_,_=>False
 |none=>False
def tNil(op:BinOp)(B:TI T.den)(x:TV T.den)(K:TV T.den->Prop):Prop:=match B.el with
 |some (e,_)=>match x with
  |.k _=>False|.row _ _ n=>∀z,(z=true->n=0)->tEqB op z K|.view _ _ _ n=>∀z,(z=true->n=0)->tEqB op z K|x=>match els e x with
   |some l=>∀z,(z=true->l=[])->tEqB op z K|none=>False
 |none=>False
def elUn{S:Nat->Type}(I:BT (TI S))(a:TypeId):Option TypeDesc:=match(TI.of I a).un with
 |some (.slice e)=>(TI.of I e).un|_=>none
def tConv(B:TI T.den)(F:Bool)(J:Option TypeDesc)(x:TV T.den)(K:TV T.den->Prop):Prop:=match x.asI,B.un with
 |some (_,n),some (.int k)=>bif F then K (.d (.int k) (k.wrap n))else False|none,some .string=>match J,els (.int .u8) x with
  |some (.int .u8),some l=>K (.d .str (strOfNums l))|_,_=>False
 |_,_=>False
def tMin(x y:TV T.den)(K:TV T.den->Prop):Prop:=match x.asI,y.asI with
 |some (k,a),some (_,b)=>K (.d (.int k) (if b<a then b else a))|_,_=>False
def tMax(x y:TV T.den)(K:TV T.den->Prop):Prop:=match x.asI,y.asI with
 |some (k,a),some (_,b)=>K (.d (.int k) (if a<b then b else a))|_,_=>False
def tUn(op:UnOp)(x:TV T.den)(K:TV T.den->Prop):Prop:=match op,x with
 |.not,.lit b=>K (.lit !b)|.not,.d .bool b=>K (.d .bool !b)|.neg,x=>match x.asI with
  |some (k,n)=>K (.d (.int k) (k.wrap (0-n)))|none=>False
 |_,_=>False
def tNilCk(x:TV T.den)(K:TV T.den->Prop):Prop:=match x with
 |.ptr id off=>K (.ptr id off)|.ro l=>K (.ro l)|.eptr id e i off=>K (.eptr id e i off)|.aptr id off n i=>K (.aptr id off n i)|_=>False
def a2(c:Call)(j:Nat):Operand:=c.args.getD j (.const .nilIface)
def tcaps:List (TV T.den)->Option (List (Option (Nat×Nat)))
 |[]=>some []|.ptr id off::r=>(tcaps r).map λl=>some (id,off)::l|_::_=>none
def tq(I:BT (TI T.den))(s:TSt T.den)(K:TV T.den->Prop):Op->Prop
 |.move x=>K (s.ev x)|.assign x=>K (s.ev x)|.pick c a b=>tPick (s.ev c) (s.ev a) (s.ev b) K|.load t a=>tLoad T (TI.of I t) s.h (s.ev a) K|.fieldAddr t x f=>tFaddr T (TI.of I t) f (s.ev x) K|.field t x f=>match(TI.of I t).fl[f]?,s.ev x with
  |some (o,a,n),.agg l=>tPart a n l o K|_,_=>False
 |.indexAddr t x i=>tIaddr T (TI.of I t) i (s.ev x) (s.ev i) K|.index t x i=>tIndex T (TI.of I t) i (s.ev x) (s.ev i) K|.extract x i=>match s.ev x with
  |.tup l=>match l[i]? with
   |some v=>bif v.tupB then False else K v|none=>False
  |_=>False
 |.binOp op t x y _=>tBin (TI.of I t) y op (s.ev x) (s.ev y) K|.unOp op _ x=>tUn T op (s.ev x) K|.convert a b x=>tConv T (TI.of I b) (TI.of I a).un.isSome (elUn I a) (s.ev x) K|.slice t x B hi F=>match F with
  |none=>tSlice T (TI.of I t) s (s.ev x) B hi K|some _=>False
 |.nilCheck x=>tNilCk T (s.ev x) K|.makeFunc fn J cs=>match fn,tcaps T (cs.toList.map s.ev)with
  |.func g,some l=>K (.clo g (List.replicate J.size none) l)|_,_=>False
 |.call c=>match c.callee with
  |.builtin .len=>bif Nat.beq c.args.size 1&&Nat.beq c.argTypes.size 1 then tLen T (TI.of I (c.argTypes.getD 0 0)) (s.ev (a2 c 0)) K else False|.builtin .min=>bif Nat.beq c.args.size 2 then tMin T (s.ev (a2 c 0)) (s.ev (a2 c 1)) K else False|.builtin .max=>bif Nat.beq c.args.size 2 then tMax T (s.ev (a2 c 0)) (s.ev (a2 c 1)) K else False|_=>False
 |_=>False
end
theorem cnd{b:Bool}{X:Prop}(h:bif b then X else False):b=true/\X:=by grind
theorem ask_and{o:Operand}{C K:Prop}[Decidable C](h:ask o C K):C/\K:=by unfold ask at h;grind
theorem k4c{o:Option Operand}{C K:Prop}[Decidable C](B:o=none->C)(h:askO o C K):C/\K:=by unfold askO at h;grind[ask_and]
theorem ble_le{a b:Nat}(h:Nat.ble a b=true):a<=b:=qea h
section
variable{T:Tab}
theorem e_one{t:Ty}(B:t.agg=false)(x:t.den T.den):(T.e t x).one=true:=by cases t<;>first|rfl|cases B
theorem e_cells{t:Ty}(B:t.agg=false)(x:t.den T.den):(T.e t x).cells=[T.e t x]:=by cases t<;>first|rfl|cases B
theorem sz_one{t:Ty}(B:t.agg=false):T.sz t=1:=by cases t<;>first|rfl|cases B
theorem eL_len:∀ts x,(T.eL ts x).length=ts.length
 |[],_=>rfl|_::r,x=>by simp only[Tab.eL,qx,eL_len r x.2]
theorem eL_one:∀ts x,ts.all (λt=>!t.agg)=true->∀c∈T.eL ts x,c.one=true
 |[],_,_,c,B=>by cases B|t::r,x,h,c,B=>by
  simp only[qen,qh,qbl]at h;rcases qak.1 B with rfl|B;.exact e_one h.1 _
  .exact eL_one r x.2 h.2 c B
theorem e_sz(F:T.Ok)(t:Ty)(x:t.den T.den):(T.e t x).cells.length=T.sz t/\∀c∈(T.e t x).cells,c.one=true:=by cases t with
 |st n=>show(T.enc n x).cells.length=_/\∀c∈(T.enc n x).cells,c.one=true;rw[F.en n x];exact⟨eL_len _ _,eL_one _ _ (F.one n)⟩|_=>exact⟨rfl,λc B=>by rw[e_cells rfl]at B;simp at B;subst B;exact e_one rfl _⟩
theorem map_sz(B:T.Ok){t:Ty}(l:List (t.den T.den)):∀d∈l.map (T.e t),d.cells.length=T.sz t/\∀c∈d.cells,c.one=true:=by grind[e_sz]
theorem tds_e:∀ts x,(tds ts x).map (TD.e T)=T.eL ts x
 |[],_=>rfl|_::r,x=>by simp only[tds,qaj,tds_e r x.2];rfl
theorem kp5(B:T.Ok)(e:Ty)(x:e.den T.den):(tcells T e x).map (TD.e T)=(T.e e x).cells:=by cases e with
 |st n=>show(tds (T.tys n) (T.cells n x)).map _=(T.enc n x).cells;rw[B.en n x,tds_e];rfl|_=>rfl
theorem map_v(l:List (TD T.den)):(l.map TD.v).map (er1 T)=(l.map (TD.e T)).map V.d:=by rw[qbr,qbr];rfl
theorem k97(B:T.Ok)(e:Ty)(x:e.den T.den):((tcells T e x).map TD.v).map (er1 T)=(T.e e x).cells.map V.d:=by rw[map_v,kp5 B]
theorem er1_one{v:TV T.den}(B:v.one=true):(er1 T v).one=true:=by
 cases v<;>first|rfl|exact B|cases B|skip
 simp only[TV.one,qbl]at B;exact e_one B _
theorem ofK_er(v:Value):er T (tofK v)=V.ofK v:=by cases v with
 |agg cs=>
  simp only[tofK,V.ofK];cases B:cs.all (·.oneCell');.rfl
  .simp only[er,er0];grind[List.map_congr_left,k17]|bool b=>exact k17 (T:=T) (.bool b)|int q n=>exact k17 (T:=T) (.int q n)|float q n=>exact k17 (T:=T) (.float q n)|complex q n m=>exact k17 (T:=T) (.complex q n m)|string b=>exact k17 (T:=T) (.string b)|pointer b=>exact k17 (T:=T) (.pointer b)|slice b n m=>exact k17 (T:=T) (.slice b n m)|map b=>exact k17 (T:=T) (.map b)|chan b=>exact k17 (T:=T) (.chan b)|func a b c=>exact k17 (T:=T) (.func a b c)|nilFunc=>exact k17 (T:=T) .nilFunc|iface a b=>exact k17 (T:=T) (.iface a b)|nilIface=>exact k17 (T:=T) .nilIface|tuple a=>exact k17 (T:=T) (.tuple a)
theorem ev_er(s:TSt T.den)(x:Operand):(erS T s).ev x=er T (s.ev x):=by cases x with
 |tmp t=>exact getS_er s.sl t|const v=>exact(ofK_er v).symm|global _=>rfl|func f=>rfl
structure TI.Ok(P:Program)(T:Tab)(t:TypeId)(x:TI T.den):Prop where
 ty:∀q,x.ty=some q->tyOf P t=some q:=by(first|(intro _ h;cases h;done)|(intro _ h;exact .trans qqk h))fl:∀f q,x.fl[f]?=some q->fldOf P t f=some q:=by(intro _ _ h;cases h)el:∀e b,x.el=some (e,b)->Bv.elemOf P t=some (e.agg,T.sz e)/\rowOf P t=some (T.sz e,b):=by(first|(intro _ _ h;cases h;done)|(intro _ _ h;cases h;exact⟨by kernel_rfl,by kernel_rfl⟩))ez:x.ez=true->∀e b,x.el=some (e,b)->∃zs,elZ P t=some zs/\leL zs ((T.e e (T.dflt e)).cells.map .d):=by(intro h;cases h)ar:∀q,x.ar=some q->Bv.elemOf P t=none/\arrOf P t=some q:=by(first|(intro _ h;cases h;done)|(intro _ h;cases h;exact⟨by kernel_rfl,by kernel_rfl⟩))ze:∀z,x.ze=some z->zeroV P t=some (z.map (er1 T))/\∀v∈z,v.one=true:=by(first|(intro _ h;cases h;done)|(intro _ h;cases h;exact⟨by kernel_rfl,k54 qqk⟩))pl:x.pl≠[]->plOf P t=some x.pl:=by(first|(intro h;exact(h rfl).elim)|(intro _;kernel_rfl))un:∀u,x.un=some u->P.underlying t=some u:=by(first|(intro _ h;cases h;done)|(intro _ h;exact .trans qqk h))eq:∀u,x.eq=some u->eqT P t=some u:=by(first|(intro _ h;cases h;done)|(intro _ h;exact .trans qqk h))mp:∀k v,x.mp=some (k,v)->∃et d,mapT P t et d/\(∀y:k.den T.den,(T.e k y).isKey d)/\zIs P et (V.ofD (T.e v (T.dflt v))):=by(intro _ _ h;cases h)
theorem TI.ok_empty(P:Program)(T:Tab)(t:TypeId):TI.Ok P T t {}:=by constructor<;>simp
def InfoOk(P:Program)(T:Tab)(I:BT (TI T.den)):Prop:=∀t x,I.find t=some x->TI.Ok P T t x
theorem InfoOk.of{P:Program}{I:BT (TI T.den)}(B:InfoOk P T I)(t:TypeId):TI.Ok P T t (TI.of I t):=by unfold TI.of;cases h:I.find t with
 |none=>exact TI.ok_empty P T t|some x=>exact B t x h
theorem kr{a b:Ty}{l:List (a.den T.den)}{m:List (b.den T.den)}(h:castL a b l=some m):T.sz a=T.sz b/\l.map (T.e a)=m.map (T.e b)/\l.length=m.length:=by obtain⟨rfl,rfl⟩:=Ty.cast_some h;grind
theorem k28{v:Value}(h:isNilK v=true):v=.slice none 0 0:=by unfold isNilK at h;grind
theorem els_er{e:Ty}{v:TV T.den}{l:List (e.den T.den)}(he:els e v=some l):(er1 T v).els (T.sz e)=some (l.map (T.e e))/\v.one=true:=by
 unfold els at he;split at he;.obtain⟨h1,B,_⟩:=kr he;refine⟨?_,rfl⟩;show V.els _ (.d (.slice (T.sz _) (List.map (T.e _) _)))=_;rw[h1,B];simp[V.els]
 .obtain⟨h1,B,_⟩:=kr he;exact⟨by simp only[er1,h1,B,V.els,qcj],rfl⟩
 .obtain⟨h1,B,_⟩:=kr he;exact⟨by simp only[er1,h1,B,V.els,qcj],rfl⟩
 .rename_i v;cases F:isNilK v with
  |false=>grind|true=>rw[F]at he;injection he with he;subst he;rw[k28 F];exact⟨rfl,rfl⟩
 .cases he
theorem els_erS{e:Ty}{v:TV T.den}{l:List (e.den T.den)}(he:els e v=some l):(er T v).els (T.sz e)=some (l.map (T.e e)):=by rw[er_of1 (els_er he).2];exact(els_er he).1
theorem k60{e:Ty}{v:TV T.den}{l:List (e.den T.den)}(he:els e v=some l):(er T v).elsD (T.sz e)=l.map (T.e e)/\isEls (T.sz e) (er T v):=by unfold V.elsD isEls;grind[els_erS]
theorem elt_ix{α:Type}(B:α)(f:α->D)(l:List α)(i:Int)(F:0<=i)(h:i<l.length):elt (l.map f) i.toNat=f (@ix _ ⟨B⟩ l i):=by
 have hi:i.toNat<l.length:=by omega
 simp only[elt,ix,qr,qf hi,qbn,qbt]
theorem ix_mem{α:Type}(B:α)(l:List α)(i:Int)(F:0<=i)(h:i<l.length):l[i.toNat]?=some (@ix _ ⟨B⟩ l i):=by
 have hi:i.toNat<l.length:=by omega
 simp only[ix,qf hi,qbt]
theorem k3e{a:Bool}{n off:Nat}{l:List (TV T.den)}{K:TV T.den->Prop}(h:tPart a n l off K):∃v,K v/\partOk a n (l.map (er1 T)) off/\partOf a n (l.map (er1 T)) off=er T v:=by unfold tPart at h;cases a with
 |true=>
  obtain⟨h1,B⟩:=cnd h;refine⟨_,B,?_,?_⟩;.simpa[partOk]using ble_le h1
  .simp only[partOf,er,er0,qdc,qdd]|false=>cases J:l[off]? with
  |none=>grind|some x=>
   rw[J]at h;obtain⟨h1,B⟩:=cnd h;have F:off<l.length:=(by grind);refine⟨_,B,?_,?_⟩;.simpa[partOk]using F
   .simp only[partOf,qr,J,qbn,qbt,er_of1 h1]
theorem colT_eq{t:Ty}:∀{r:List (TV T.den)}{xs:List (t.den T.den)},colT t r=some xs->r=xs.map (TV.d t)
 |[],xs,h=>by simp only[colT,qaq]at h;subst h;rfl|v::r,xs,h=>by
  unfold colT at h;split at h;.rename_i h';cases h'
  .rename_i t' x r' J;injection J with h1 h2;subst h1;subst h2;cases B:Ty.cast (Ty.den T.den) t' t x with
   |none=>rw[B]at h;cases h|some y=>rw[B]at h;obtain⟨rfl,rfl⟩:=Ty.cast_some B;cases F:colT t' r with
    |none=>rw[F]at h;cases h|some M=>rw[F]at h;injection h with h;subst h;rw[colT_eq F];rfl
  .cases h
theorem kq7{K:TV T.den->Prop}{i:Int}{l:List (TV T.den)}(h:selI K i T.dflt l)(M:0<=i)(h1:i<l.length):∃v,K v/\(l.map (er1 T))[i.toNat]?=some (er T v):=by
 unfold selI at h;split at h;.rename_i t x r;cases F:t.agg with
  |true=>grind|false=>rw[F]at h;cases B:colT t r with
   |none=>grind|some xs=>rw[B]at h;have he:=colT_eq B;subst he;have J:TV.d t x::xs.map (TV.d t)=(x::xs).map (TV.d t):=rfl;rw[J]at h1⊢;rw[qp]at h1;refine⟨_,h,?_⟩;rw[qr,qr,ix_mem (T.dflt t) (x::xs) i M h1];rfl
 grind
theorem ku6(B:T.Ok){e:Ty}(l:List (e.den T.den))(i:Int)(F:0<=i)(h1:i<l.length)(off n:Nat)(h:off+n<=T.sz e):((((l.map (T.e e)).flatMap D.cells).map V.d).drop (i.toNat*T.sz e+off)).take n=((((T.e e (@ix _ ⟨T.dflt e⟩ l i)).cells).map V.d).drop off).take n:=by
 refine qdg λj=>?_;rw[qbk,qbk];split;.rw[qbg,qbg,qr,qr,qed];rw[k89 (map_sz B l) (d:=T.e e (@ix _ ⟨T.dflt e⟩ l i)) (by rw[qr,ix_mem (T.dflt e) l i F h1];rfl) (off+j) qqo]
 .rfl
theorem k1d(B:T.Ok){e:Ty}(l:List (e.den T.den)):((l.map (T.e e)).flatMap D.cells).length=l.length*T.sz e:=by rw[kp (map_sz B l),qp]
theorem kku(B:T.Ok){a:Bool}{n off:Nat}{e:Ty}{l:List (e.den T.den)}{i:Int}(M:0<=i)(h1:i<l.length)(F:partOk a n ((T.e e (@ix _ ⟨T.dflt e⟩ l i)).cells.map V.d) off):partOk a n (((l.map (T.e e)).flatMap D.cells).map V.d) (i.toNat*T.sz e+off)/\partOf a n (((l.map (T.e e)).flatMap D.cells).map V.d) (i.toNat*T.sz e+off)=partOf a n ((T.e e (@ix _ ⟨T.dflt e⟩ l i)).cells.map V.d) off:=by have hs:=(e_sz B e (@ix _ ⟨T.dflt e⟩ l i)).1;have J:(i.toNat+1)*T.sz e<=l.length*T.sz e:=qbh _ qqo;rw[qca,qcw]at J;cases a with
 |true=>
  simp only[partOk,qp]at F;refine⟨?_,?_⟩;.simp only[partOk,qp,k1d B];omega
  .simp only[partOf];grind[ku6]|false=>
  simp only[partOk,qp,hs]at F;refine⟨?_,?_⟩;.simp only[partOk,qp,k1d B];omega
  .simp only[partOf,qr];rw[k89 (map_sz B l) (d:=T.e e (@ix _ ⟨T.dflt e⟩ l i)) (by rw[qr,ix_mem (T.dflt e) l i M h1];rfl) off F]
variable{P:Program}{I:BT (TI T.den)}
theorem kjv(hT:T.Ok){t:TypeId}{x:TI T.den}(hx:TI.Ok P T t x){h:THp T.den}{v:TV T.den}{K:TV T.den->Prop}(F:tLoad T x h v K):∃u,K u/\loadOk (tyOf P t) (erH T h) (er T v)/\loadV (tyOf P t) (erH T h) (er T v)=er T u:=by
 unfold tLoad at F;split at F;.grind
 .rename_i a n ac;rw[hx.ty _ ac];split at F;.rename_i id off;simp only[er,er0,er1,loadOk,loadV,getH_er];cases Y:getH h id with
   |none=>grind|some o=>rw[Y]at F;cases o with
    |cells l=>exact k3e F|_=>exact F.elim
  .rename_i l;simp only[er,er0,er1,loadOk,loadV];obtain⟨u,h1,J,Z⟩:=k3e F;rw[map_v]at J Z;exact⟨u,h1,J,Z⟩
  .rename_i id off m i;split at F
   .rename_i l Y;obtain⟨h1,⟨J,Z⟩,M⟩:=cnd F;have ae:=ble_le h1;have U:((l.drop off).take m).length=m:=by simp;omega
    obtain⟨u,g1,X⟩:=kq7 M J (by grind);rw[qdc,qdd,qbk,qg qqo,qbg]at X;simp only[er,er0,er1,loadOk,loadV,getH_er,Y,qbn,erO];refine⟨u,g1,?_,?_⟩;.simp only[partOk,qp];omega
    .simp only[partOf,X,qbt];rfl
   grind
  .rename_i id e i off;split at F;.rename_i e' l Y;obtain⟨h1,⟨J,Z⟩,M⟩:=cnd F;have he:=Ty.eq_of_beq h1;subst he;simp only[er,er0,er1,loadOk,loadV,getH_er,Y,qbn,erO];obtain⟨u,g1,X,g3⟩:=k3e M;rw[k97 hT]at X g3;obtain⟨q1,q2⟩:=kku hT J Z X;exact⟨u,g1,q1,q2.trans g3⟩
   .rename_i e' l i' B ad re m Y;obtain⟨h1,⟨J,Z⟩,M⟩:=cnd F;simp only[qh,qbl]at h1;obtain⟨⟨⟨he,ha⟩,aa⟩,ab⟩:=h1;have he:=Ty.eq_of_beq he;subst he;subst ha;have aa:=qea aa;have ab:=qea ab;simp only[er,er0,er1,loadOk,loadV,getH_er,Y,qbn,erO];have U:(((l.map (T.e e)).flatMap D.cells).map V.d).length=l.length*T.sz e:=by rw[qp,k1d hT]
    have hm:(i.toNat+1)*T.sz e<=l.length*T.sz e:=qbh _ qqo;rw[qca,qcw]at hm;cases hb:Nat.beq off B with
    |true=>
     rw[hb]at M;obtain⟨rfl,h5⟩:=M;obtain rfl:=nb_eq hb;refine⟨_,h5,?_,?_⟩;.simp only[partOk,qab,U];omega
     .simp only[partOf];grind|false=>
     rw[hb]at M;obtain⟨u,g1,X,g3⟩:=k3e M;rw[k97 hT]at X g3;obtain⟨q1,q2⟩:=kku hT J Z X;have ag:i'.toNat*T.sz e+B≠i.toNat*T.sz e+off:=by intro h;have h:=congrArg (·%T.sz e) h;grind[Nat.mul_comm,Nat.mul_add_mod,Nat.mod_eq_of_lt,nb_self]
     refine⟨u,g1,?_,?_⟩;.simp only[partOk,qab]at q1⊢;exact q1
     .have q:partOf false n ((((l.map (T.e e)).flatMap D.cells).map V.d).set (i'.toNat*T.sz e+B) (.row ad 0 m (T.sz re))) (i.toNat*T.sz e+off)=partOf false n (((l.map (T.e e)).flatMap D.cells).map V.d) (i.toNat*T.sz e+off):=by simp only[partOf];grind
      exact q.trans (q2.trans g3)
   grind
  grind
theorem kry{t:TypeId}{x:TI T.den}(J:TI.Ok P T t x){f:Nat}{v:TV T.den}{K:TV T.den->Prop}(B:tFaddr T x f v K):∃u,K u/\faddrOk (fldOf P t f) (er T v)/\faddrV (fldOf P t f) (er T v)=er T u:=by
 unfold tFaddr at B;split at B;.grind
 .rename_i o a n F;rw[J.fl _ _ F];split at B;.exact⟨_,B,trivial,rfl⟩
  .exact⟨_,B,trivial,by simp only[er,er0,er1,faddrV,qdd]⟩
  .exact⟨_,B,trivial,by simp only[er,er0,er1,faddrV,qed]⟩
  grind
theorem asI_eq{v:TV T.den}{q:IntKind}{n:Int}(h:v.asI=some (q,n)):v=.d (.int q) n:=by unfold TV.asI at h;grind
theorem ksh(hT:T.Ok){t:TypeId}{x:TI T.den}(Z:TI.Ok P T t x){io:Operand}{v iv:TV T.den}{K:TV T.den->Prop}(B:tIaddr T x io v iv K):∃u,K u/\iaddrOk (Bv.elemOf P t) (arrOf P t) (er T v) (er T iv)/\iaddrV (Bv.elemOf P t) (arrOf P t) (er T v) (er T iv)=er T u:=by
 unfold tIaddr at B;split at B
 .rename_i q i hi;have hi:=asI_eq hi;subst hi;have ei:er T (TV.d (.int q) i)=V.d (D.int q i):=rfl;rw[ei];split at B
  .rename_i e b U;rw[(Z.el _ _ U).1];split at B;.rename_i id e' len;obtain⟨h1,⟨F,J⟩,X⟩:=cnd B;have he:=Ty.eq_of_beq h1;subst he;exact⟨_,X,⟨rfl,F,J⟩,by simp only[er,er0,er1,iaddrV,rowIx,qav,qcz]⟩
   .rename_i id e' off len;obtain⟨h1,⟨F,J⟩,X⟩:=cnd B;have he:=Ty.eq_of_beq h1;subst he;refine⟨_,X,⟨rfl,F,J⟩,?_⟩;simp only[er,er0,er1,iaddrV,rowIx,qcz];rw[show(off+i).toNat=off+i.toNat by omega,qca]
   .cases Y:els e v with
    |none=>grind|some l=>
     rw[Y]at B;obtain⟨h1,F,J⟩:=ask_and B;obtain⟨g1,g2⟩:=k60 Y;have key:iaddrOk (some (e.agg,T.sz e)) (arrOf P t) (er T v) (.d (.int q i))=iaddrDOk (some (e.agg,T.sz e)) (arrOf P t) (er T v) (.d (.int q i))/\iaddrV (some (e.agg,T.sz e)) (arrOf P t) (er T v) (.d (.int q i))=iaddrDV (some (e.agg,T.sz e)) (arrOf P t) (er T v) (.d (.int q i)):=by have:=els_erS Y;generalize er T v=y at this;cases y<;>first|exact⟨rfl,rfl⟩|cases this
     rw[key.1,key.2];refine⟨_,J,⟨g2,h1,by grind⟩,?_⟩;simp only[iaddrDV,g1];rw[elt_ix (T.dflt e) (T.e e) l i h1 F,<-kp5 hT];rfl
  .split at B
   .rename_i n a sz M;rw[(Z.ar _ M).1,(Z.ar _ M).2];split at B
    .obtain⟨h1,F⟩:=cnd B;simp only[qh,qy]at h1;split at F;.exact⟨_,F,h1,rfl⟩
     .exact⟨_,F,h1,by simp only[er,er0,er1,iaddrV,iaddrDV,qdd]⟩
     .exact⟨_,F,h1,by simp only[er,er0,er1,iaddrV,iaddrDV,qed]⟩
     grind
    .split at B;.obtain⟨h1,F,J⟩:=cnd B;refine⟨_,J,F,?_⟩;simp only[er,er0,er1,iaddrV,iaddrDV,nb_eq h1,Nat.mul_one]
     grind
   grind
 grind
theorem ksw{t:TypeId}{x:TI T.den}(hx:TI.Ok P T t x){io:Operand}{v iv:TV T.den}{K:TV T.den->Prop}(B:tIndex T x io v iv K):∃u,K u/\indexOk P t (arrOf P t) (er T v) (er T iv)/\indexV (arrOf P t) (er T v) (er T iv)=er T u:=by
 unfold tIndex at B;split at B
 .rename_i l q i hi;have hi:=asI_eq hi;subst hi;split at B
  .rename_i n a sz M;rw[(hx.ar _ M).2];split at B;.obtain⟨h1,F⟩:=cnd B;simp at h1;obtain⟨u,U,X,g3⟩:=k3e F;exact⟨u,U,⟨h1.1,h1.2,X⟩,g3⟩
   .obtain⟨h1,⟨F,Y⟩,h4⟩:=cnd B;simp only[qh,qbl]at h1;obtain⟨⟨Z,hs⟩,hn⟩:=h1;have hs:=nb_eq hs;have hn:=nb_eq hn;subst Z;subst hs;obtain⟨u,U,X⟩:=kq7 h4 F (by grind);refine⟨u,U,⟨F,Y,?_⟩,?_⟩;.simp only[partOk,qp];omega
    .show partOf false 1 (l.map (er1 T)) (i.toNat*1)=_;simp only[partOf,Nat.mul_one,X,qbt]
  grind
 .rename_i s q i hi;have hi:=asI_eq hi;subst hi;split at B
  .rename_i J;obtain⟨⟨h1,F⟩,Y⟩:=B;have J:=hx.un _ J;have Z:arrOf P t=none:=by unfold arrOf;rw[J]
   exact⟨_,Y,⟨Z,J,h1,F⟩,rfl⟩
  grind
 grind
end
section
variable{T:Tab}{P:Program}{I:BT (TI T.den)}
theorem el_sl{t:TypeId}{a:Bool}{n:Nat}(h:Bv.elemOf P t=some (a,n)):isSliceT (P.underlying t):=by
 unfold Bv.elemOf at h;split at h;.rename_i e B;rw[B];trivial
 .cases h
theorem kva{t:TypeId}{x:TI T.den}(U:TI.Ok P T t x){v:TV T.den}{K:TV T.den->Prop}(F:tLen T x v K):∃u,K u/\lenOk (P.underlying t) (er T v)/\lenV (er T v)=er T u:=by
 unfold tLen at F;split at F
 .rename_i e b J;have hs:=el_sl (U.el _ _ J).1;split at F;.obtain⟨h1,X⟩:=cnd F;rw[k28 h1];exact⟨_,X,hs,rfl⟩
  .exact⟨_,F,hs,rfl⟩
  .exact⟨_,F,hs,rfl⟩
  .cases M:els e v with
   |none=>grind|some l=>
    rw[M]at F;refine⟨_,F,?_⟩;have h1:=els_erS M;have B:(l.map (T.e e)).length=l.length:=qp ..;generalize er T v=y at h1;unfold V.els at h1;split at h1
    .split at h1;.injection h1 with h1;subst h1;exact⟨hs,by simp only[lenV,B];rfl⟩
     .cases h1
    .split at h1;.injection h1 with h1;subst h1;exact⟨hs,by simp only[lenV,B];rfl⟩
     .cases h1
    .split at h1;.injection h1 with h1;subst h1;exact⟨hs,by simp only[lenV,B];rfl⟩
     .cases h1
    .injection h1 with h1;refine⟨hs,?_⟩;rw[<-B,<-h1];rfl
    .cases h1
 .split at F;.rename_i s Y;exact⟨_,F,by rw[U.un _ Y];trivial,rfl⟩
  grind
theorem k8g{s:TSt T.den}{o:Option Operand}{r:Option Int}(h:bndI T s o=some r)(d:Nat):isBnd (o.map (erS T s).ev)/\boundA d (o.map (erS T s).ev)=some (r.getD d)/\(o=none↔r=none):=by
 unfold bndI at h;split at h;.injection h with h;subst h;exact⟨trivial,rfl,by simp⟩
 .split at h;.rename_i q n B;injection h with h;subst h;simp only[qbn,ev_er,asI_eq B];exact⟨trivial,rfl,by simp⟩
  .cases h
theorem rowS{id off len sz:Nat}{b:Bool}{J hi:Option V}{B F:Option Int}(h1:isBnd J)(M:isBnd hi)(U:boundA 0 J=some (B.getD 0))(X:boundA len hi=some (F.getD len))(Y:0<=B.getD 0)(Z:B.getD 0<=F.getD len)(q3:F.getD len<=len):sliceOk (some (b,sz)) (.row id (off*sz) len sz) J hi/\sliceV (some (b,sz)) (.row id (off*sz) len sz) J hi=.row id ((off+(B.getD 0).toNat)*sz) ((F.getD len).toNat-(B.getD 0).toNat) sz:=by
 refine⟨⟨rfl,h1,M,?_,?_,?_⟩,?_⟩;.grind
 .grind
 .grind
 .simp only[sliceV,U,X,qbt,qca]
theorem rowS4{K:TV T.den->Prop}{b:Bool}{id:Nat}{e:Ty}{off len:Nat}{J hi:Option Operand}{F B:Option Int}{k0:TV T.den}{k1 k2:Int->TV T.den}{k3:Int->Int->TV T.den}(M:match F,B with
    |none,none=>K k0|some a,none=>askO J (0<=a) (a<=len/\K (k1 a))|none,some b=>askO hi (0<=b) (b<=len/\K (k2 b))|some a,some b=>askO J (0<=a) (a<=b/\b<=len/\K (k3 a b))){s:TSt T.den}(Z:bndI T s J=some F)(aa:bndI T s hi=some B)(ab:er T k0=.row id (off*T.sz e) len (T.sz e))(ac:∀a,er T (k1 a)=.row id ((off+a.toNat)*T.sz e) (len-a.toNat) (T.sz e))(ad:∀b,er T (k2 b)=.row id (off*T.sz e) b.toNat (T.sz e))(ae:∀a b,er T (k3 a b)=.row id ((off+a.toNat)*T.sz e) (b.toNat-a.toNat) (T.sz e)):∃u,K u/\sliceOk (some (b,T.sz e)) (.row id (off*T.sz e) len (T.sz e)) (J.map (erS T s).ev) (hi.map (erS T s).ev)/\sliceV (some (b,T.sz e)) (.row id (off*T.sz e) len (T.sz e)) (J.map (erS T s).ev) (hi.map (erS T s).ev)=er T u:=by obtain⟨U,a2,a3⟩:=k8g Z 0;obtain⟨X,Y,b3⟩:=k8g aa len;cases F with
 |none=>cases B with
  |none=>obtain⟨g1,g2⟩:=rowS (sz:=T.sz e) (b:=b) (id:=id) (off:=off) U X a2 Y qqs qqs qqs;grind|some c=>obtain⟨h1,h2,h3⟩:=k4c (λh=>by cases b3.1 h) M;obtain⟨g1,g2⟩:=rowS (sz:=T.sz e) (b:=b) (id:=id) (off:=off) U X a2 Y qqs (by grind) (by grind);grind
 |some a=>cases B with
  |none=>obtain⟨h1,h2,h3⟩:=k4c (λh=>by cases a3.1 h) M;obtain⟨g1,g2⟩:=rowS (sz:=T.sz e) (b:=b) (id:=id) (off:=off) U X a2 Y (by grind) (by grind) qqs;grind|some c=>grind[k4c,rowS]
theorem ksu{t:TypeId}{x:TI T.den}(hx:TI.Ok P T t x){s:TSt T.den}{v:TV T.den}{X hi:Option Operand}{K:TV T.den->Prop}(F:tSlice T x s v X hi K):∃u,K u/\sliceOk (Bv.elemOf P t) (er T v) (X.map (erS T s).ev) (hi.map (erS T s).ev)/\sliceV (Bv.elemOf P t) (er T v) (X.map (erS T s).ev) (hi.map (erS T s).ev)=er T u:=by
 unfold tSlice at F;split at F
 .rename_i e b ag;rw[(hx.el _ _ ag).1];split at F
  .rename_i aa M ac ad;split at F
   .rename_i id B len;obtain⟨h1,Y⟩:=cnd F;obtain rfl:=Ty.eq_of_beq h1;have:=rowS4 (b:=B.agg) (id:=id) (e:=B) (off:=0) (len:=len) (k0:=.row id B len) (k1:=λa=>.view id B a.toNat (len-a.toNat)) (k2:=λb=>.view id B 0 b.toNat) (k3:=λa b=>.view id B a.toNat (b.toNat-a.toNat)) Y ac ad (by simp[er,er0,er1]) (by intro a;simp[er,er0,er1]) (by intro a;simp[er,er0,er1]) (by intro a b;simp[er,er0,er1]);simpa[er,er0,er1]using this
   .rename_i id B off len;obtain⟨h1,Y⟩:=cnd F;obtain rfl:=Ty.eq_of_beq h1;exact rowS4 (b:=B.agg) (id:=id) (e:=B) (off:=off) (len:=len) (k0:=.view id B off len) (k1:=λa=>.view id B (off+a.toNat) (len-a.toNat)) (k2:=λb=>.view id B off b.toNat) (k3:=λa b=>.view id B (off+a.toNat) (b.toNat-a.toNat)) Y ac ad rfl (λ_=>rfl) (λ_=>rfl) λ_ _=>rfl
   rename_i ah ai;clear ah ai;cases hl:els e v with
   |none=>rw[hl]at F;exact F.elim|some l=>
    rw[hl]at F;simp only at F;obtain⟨g1,g2⟩:=k60 hl;have J:(l.map (T.e e)).length=l.length:=qp ..;have hE:=els_erS hl;have ae:List.take l.length (List.map (T.e e) l)=List.map (T.e e) l:=by rw[<-J];exact qcb
    obtain⟨a1,a2,a3⟩:=k8g ac 0;obtain⟨b1,b2,b3⟩:=k8g ad l.length;have key:sliceOk (some (e.agg,T.sz e)) (er T v) (X.map (erS T s).ev) (hi.map (erS T s).ev)=sliceDOk (some (e.agg,T.sz e)) (er T v) (X.map (erS T s).ev) (hi.map (erS T s).ev)/\sliceV (some (e.agg,T.sz e)) (er T v) (X.map (erS T s).ev) (hi.map (erS T s).ev)=sliceDV (some (e.agg,T.sz e)) (er T v) (X.map (erS T s).ev) (hi.map (erS T s).ev):=by generalize er T v=y at hE;cases y<;>first|exact⟨rfl,rfl⟩|cases hE
    rw[key.1,key.2];have ok:0<=aa.getD 0->aa.getD 0<=M.getD l.length->M.getD l.length<=l.length->sliceDOk (some (e.agg,T.sz e)) (er T v) (X.map (erS T s).ev) (hi.map (erS T s).ev):=by
     intro q1 q2 q3;refine⟨g2,a1,b1,?_,?_,?_⟩;.rw[a2];simpa using q1
     .rw[a2,g1,J,b2];simpa using q2
     .rw[g1,J,b2];simpa using q3
    have ab:∀m,m.map (T.e e)=((l.map (T.e e)).take (M.getD l.length).toNat).drop (aa.getD 0).toNat->(∀v',v≠.k v')->(∀B Z,v=.full B Z->M≠none)->sliceDV (some (e.agg,T.sz e)) (er T v) (X.map (erS T s).ev) (hi.map (erS T s).ev)=er T (.d (.sl e) m):=by
     intro m hm hk hf;have e1:er T (.d (.sl e) m)=.d (.slice (T.sz e) ((((er T v).elsD (T.sz e)).take ((boundA ((er T v).elsD (T.sz e)).length (hi.map (erS T s).ev)).getD 0).toNat).drop ((boundA 0 (X.map (erS T s).ev)).getD 0).toNat)):=by rw[a2,g1,J,b2];show V.d (.slice (T.sz e) (m.map (T.e e)))=_;rw[hm];simp
     rw[e1];unfold els at hl;split at hl;.rfl
     .rename_i B Z;have:=hf B Z rfl;have hn:=λh=>this (b3.1 h);obtain⟨o,ho⟩:=Option.ne_none_iff_exists'.1 hn;subst ho;rfl
     .rfl
     .exact(hk _ rfl).elim
     .cases hl
    cases aa with
    |none=>cases M with
     |none=>
      simp only at F;have U:=ok qqs qqs qqs;split at F;.exact⟨_,F,U,rfl⟩
      .refine⟨_,F,U,?_⟩;rename_i B Z;obtain⟨h1,Y,_⟩:=kr hl;have hn:=b3.2 rfl;subst hn;have aj:=a3.2 rfl;subst aj;show V.full (T.sz e) (List.drop 0 (List.map (T.e B) Z))=V.full (T.sz e) (l.map (T.e e));rw[Y];rfl
      .rename_i hk hf;exact⟨_,F,U,ab l (by simp[ae]) (λv' h=>hk v' h) λB Z h=>(hf B Z h).elim⟩|some b=>
      simp only at F;obtain⟨h1,Y,h3⟩:=k4c (λh=>by cases b3.1 h) F;have U:=ok qqs (by simpa using h1) (by simpa using Y);split at h3;.exact⟨_,h3,U,rfl⟩
      .rename_i hk;exact⟨_,h3,U,ab _ (by simp[qdc]) (λv' h=>hk v' h) λ_ _ _=>by simp⟩
    |some a=>cases M with
     |none=>
      simp only at F;obtain⟨h1,Y,h3⟩:=k4c (λh=>by cases a3.1 h) F;have U:=ok (by simpa using h1) (by simpa using Y) qqs;split at h3;.exact⟨_,h3,U,rfl⟩
      .refine⟨_,h3,U,?_⟩;rename_i B Z;obtain⟨h4,h5,_⟩:=kr hl;have hn:=b3.2 rfl;subst hn;show V.full (T.sz e) (List.drop ((boundA 0 (X.map (erS T s).ev)).getD 0).toNat (List.map (T.e B) Z))=V.full (T.sz e) ((l.drop a.toNat).map (T.e e));rw[h5,a2,qdd];rfl
      .rename_i hk hf;exact⟨_,h3,U,ab _ (by simp[ae,qdd]) (λv' h=>hk v' h) λB Z h=>(hf B Z h).elim⟩|some b=>
      simp only at F;obtain⟨h1,Y,h3,h4⟩:=k4c (λh=>by cases a3.1 h) F;have U:=ok (by simpa using h1) (by simpa using Y) (by simpa using h3);split at h4;.exact⟨_,h4,U,rfl⟩
      .rename_i hk;exact⟨_,h4,U,ab _ (by simp[qdc,qdd]) (λv' h=>hk v' h) λ_ _ _=>by simp⟩
  .exact F.elim
 .exact F.elim
theorem k44{op:BinOp}{e:Bool}{K:TV T.den->Prop}(h:tEqB op e K):∃u,K u/\isEq op/\aggV op e=er T u:=by
 unfold tEqB at h;split at h;.exact⟨_,h,trivial,rfl⟩
 .exact⟨_,h,trivial,rfl⟩
 grind
theorem kn7{op:BinOp}{e:Bool}{K:TV T.den->Prop}(h:tEqK op e K):∃u,K u/\isEq op/\aggV op e=er T u:=by
 unfold tEqK at h;split at h;.exact⟨_,h,trivial,rfl⟩
 .exact⟨_,h,trivial,rfl⟩
 grind
theorem isB_er{v:TV T.den}{b:Bool}(h:v.isB=some b):er1 T v=.d (.bool b)/\er T v=.d (.bool b):=by
 unfold TV.isB at h;split at h;.injection h with h;subst h;exact⟨rfl,rfl⟩
 .injection h with h;subst h;exact⟨rfl,rfl⟩
 .cases h
theorem kur:∀{ts:List TypeDesc}{l m:List (TV T.den)}{e:Bool},tEqL ts l m=some e->eqLOk ts (l.map (er1 T)) (m.map (er1 T))/\eqL (l.map (er1 T)) (m.map (er1 T))=e:=by intro ts;induction ts with
 |nil=>
  intro l m e h;cases l<;>cases m<;>simp only[tEqL]at h;.injection h with h;subst h;exact⟨trivial,rfl⟩
  all_goals cases h|cons t ts X=>
  intro l m e h;unfold tEqL at h;split at h;.grind
  .rename_i k F k1 a Y k2 b m' B;injection B with h1 h2;subst h1;subst h2;cases J:decide (k1=k2)&&decide (k1=k)with
   |false=>grind|true=>
    rw[J]at h;simp at J;obtain⟨rfl,rfl⟩:=J;split at h;.rename_i Z he;injection h with h;subst h;obtain⟨M,U⟩:=X he;exact⟨⟨rfl,M⟩,by show(@BEq.beq Int _ a b&&eqL _ _)=_;rw[U]⟩
    .cases h
  .rename_i F x Y y m' B;injection B with h1 h2;subst h1;subst h2;split at h;.rename_i a b Z ha hb he;injection h with h;subst h;obtain⟨M,U⟩:=X he;simp only[qaj,(isB_er ha).1,(isB_er hb).1];exact⟨⟨trivial,M⟩,by show(_&&eqL _ _)=_;rw[U];rfl⟩
   .cases h
  .cases h
theorem k6w{v:Value}(h:isPtrK v=true):v=.pointer none:=by unfold isPtrK at h;grind
theorem kwj{M:Operand}{op:BinOp}{k J:IntKind}{a b:Int}{K:TV T.den->Prop}(h:tInt M op k J a b K):∃u,K u/\(sameK op k J/\intOk op b)/\intV op k a b=er T u:=by
 unfold tInt at h;split at h;.obtain⟨h1,B⟩:=ask_and h;exact⟨_,B,⟨trivial,h1⟩,rfl⟩
 .obtain⟨h1,B⟩:=ask_and h;exact⟨_,B,⟨trivial,h1⟩,rfl⟩
 .obtain⟨h1,B⟩:=cnd h;have F:=qc h1;split at B;.exact⟨_,B,⟨F,trivial⟩,rfl⟩
  .exact⟨_,B,⟨F,trivial⟩,rfl⟩
  .exact⟨_,B,⟨F,trivial⟩,rfl⟩
  .obtain⟨h1,B⟩:=ask_and B;exact⟨_,B,⟨F,h1⟩,rfl⟩
  .obtain⟨h1,B⟩:=ask_and B;exact⟨_,B,⟨F,h1⟩,rfl⟩
  .exact⟨_,B,⟨F,trivial⟩,rfl⟩
  .exact⟨_,B,⟨F,trivial⟩,rfl⟩
  .exact⟨_,B,⟨F,trivial⟩,rfl⟩
  .exact⟨_,B,⟨F,trivial⟩,rfl⟩
  .exact⟨_,B,⟨F,trivial⟩,rfl⟩
  .exact⟨_,B,⟨F,trivial⟩,rfl⟩
  .exact⟨_,B,⟨F,trivial⟩,rfl⟩
  .exact⟨_,B,⟨F,trivial⟩,rfl⟩
  .exact⟨_,B,⟨F,trivial⟩,rfl⟩
  .exact⟨_,B,⟨F,trivial⟩,rfl⟩
  grind
theorem ktu(l:Li):byStr (l.map (D.int .u8))=strOfNums l:=by unfold byStr;rw[qbr];exact congrArg strOfNums ((qar (g:=id) λ_ _=>rfl).trans (List.map_id l))
theorem kav{v:Value}(h:isMapK v=true):v=.map none:=by unfold isMapK at h;grind
theorem kuu{t:TypeId}{ti:TI T.den}(hx:TI.Ok P T t ti){yo:Operand}{op:BinOp}{x y:TV T.den}{K:TV T.den->Prop}(h:tBin ti yo op x y K):∃u,K u/\binOk (eqT P t) (P.underlying t) op (er T x) (er T y)/\binV op (er T x) (er T y)=er T u:=by
 have B:∀{e:Bool},(match ti.un with|some (.pointer _)=>tEqK op e K|_=>False)->∃u,K u/\(isEq op/\isPtrT (P.underlying t))/\aggV op e=er T u:=by
  intro e h;split at h;.rename_i J;obtain⟨u,M,U,g3⟩:=kn7 h;exact⟨u,M,⟨U,by rw[hx.un _ J];trivial⟩,g3⟩
  grind
 have X:∀{e:Bool},(match ti.un with|some (.map _ _)=>tEqK op e K|_=>False)->∃u,K u/\(isEq op/\isMapT (P.underlying t))/\aggV op e=er T u:=by
  intro e h;split at h;.rename_i J;obtain⟨u,M,U,g3⟩:=kn7 h;exact⟨u,M,⟨U,by rw[hx.un _ J];trivial⟩,g3⟩
  grind
 unfold tBin at h;split at h;.exact kwj h
 .split at h
  .rename_i ts aa;split at h;.rename_i e he;obtain⟨M,U⟩:=kur he;obtain⟨u,Y,Z,q3⟩:=k44 h;refine⟨u,Y,⟨Z,by rw[hx.eq _ aa];exact M⟩,?_⟩;rw[<-q3,<-U];rfl
   grind
  grind
 .obtain⟨h1,F⟩:=cnd h;rw[k6w h1];exact B F
 .obtain⟨h1,F⟩:=cnd h;rw[k6w h1];exact B F
 .obtain⟨h1,F⟩:=cnd h;rw[kav h1];exact X F
 .rename_i u v;cases h1:isPtrK u&&isPtrK v with
  |true=>rw[h1]at h;simp only[qh]at h1;rw[k6w h1.1,k6w h1.2];exact B h|false=>rw[h1]at h;obtain⟨h1,F⟩:=cnd h;simp only[qh]at h1;rw[kav h1.1,kav h1.2];exact X F
 .obtain⟨u,Y,Z,q3⟩:=k44 h;exact⟨u,Y,Z,q3⟩
 .split at h;.rename_i a b ha hb J;obtain⟨u,Y,Z,q3⟩:=k44 h;rw[(isB_er ha).2,(isB_er hb).2];exact⟨u,Y,⟨Z,by rw[hx.un _ J];trivial⟩,q3⟩
  grind
theorem toB_er(v:TV T.den):er T v.toB=er T v:=by cases v<;>rfl
theorem ktv{c a b:TV T.den}{K:TV T.den->Prop}(h:tPick c a b K):∃u,K u/\pickOk (er T c)/\pickV (er T c) (er T a) (er T b)=er T u:=by
 unfold tPick at h;split at h;.exact⟨_,h,rfl,k9c _ _⟩
 .exact⟨_,h,rfl,k78 _ _⟩
 .rename_i t;split at h
  .rename_i M x tb y B F;split at h
   .rename_i U J;obtain⟨rfl,rfl⟩:=Ty.cast_some J;refine⟨_,h,rfl,?_⟩;rw[<-toB_er a,<-toB_er b,B,F];cases t;.exact k78 _ _
    .exact k9c _ _
   grind
  grind
 grind
theorem kk0:∀{l:List (TV T.den)}{m:List (Option (Nat×Nat))},tcaps T l=some m->(l.map (er T)).map capV=m
 |[],m,h=>by injection h|.ptr id off::r,m,h=>by simp only[tcaps]at h;cases B:tcaps T r with
  |none=>rw[B]at h;cases h|some n=>rw[B]at h;injection h with h;rw[<-h,<-kk0 B];rfl
 |.any::_,_,h=>by cases h|.k _::_,_,h=>by cases h|.lit _::_,_,h=>by cases h|.d _ _::_,_,h=>by cases h|.full _ _::_,_,h=>by cases h|.own _ _ _::_,_,h=>by cases h|.aptr _ _ _ _::_,_,h=>by cases h|.ro _::_,_,h=>by cases h|.row _ _ _::_,_,h=>by cases h|.view _ _ _ _::_,_,h=>by cases h|.eptr _ _ _ _::_,_,h=>by cases h|.mp _::_,_,h=>by cases h|.clo _ _ _::_,_,h=>by cases h|.agg _::_,_,h=>by cases h|.tup _::_,_,h=>by cases h
theorem tq_snd(hT:T.Ok)(F:InfoOk P T I){s:TSt T.den}{K:TV T.den->Prop}{op:Op}(h:tq T I s K op):∃u,K u/\avOk P (erS T s).h (erS T s).ev op/\av P (erS T s).h (erS T s).ev op=er T u:=by cases op with
 |move x=>exact⟨_,h,trivial,ev_er s x⟩|assign x=>exact⟨_,h,trivial,ev_er s x⟩|makeFunc fn fs cs=>
  simp only[tq]at h;split at h
  .rename_i g l hc;refine⟨_,h,trivial,?_⟩;have e:=kk0 hc;have ea:cs.toList.map (erS T s).ev=(cs.toList.map s.ev).map (er T):=by grind[List.map_map,List.map_congr_left,ev_er]
   show mkFn (.func g) fs.size (cs.toList.map (erS T s).ev)=_;rw[ea,mkFn,e];rfl
  grind|pick c a b=>simp only[avOk,av,ev_er];exact ktv h|load t a=>simp only[avOk,av,ev_er];exact kjv hT (F.of t) h|fieldAddr t x f=>simp only[avOk,av,ev_er];exact kry (F.of t) h|field t x f=>
  simp only[avOk,av,ev_er];simp only[tq]at h;split at h;.rename_i o a n l hf B;rw[(F.of t).fl _ _ hf,B];exact k3e h
  grind|indexAddr t x i=>simp only[avOk,av,ev_er];exact ksh hT (F.of t) h|index t x i=>simp only[avOk,av,ev_er];exact ksw (F.of t) h|extract x i=>
  simp only[avOk,av,ev_er];simp only[tq]at h;split at h
  .rename_i l B;rw[B];split at h;.rename_i v hi;cases hb:v.tupB with
    |true=>grind|false=>rw[hb]at h;have ab:i<l.length:=(by grind);refine⟨_,h,by simpa[er,extOk]using ab,?_⟩;simp only[er,extV,qr,hi,qbn,qbt];cases v<;>first|rfl|cases hb
   grind
  grind|binOp op t x y t'=>simp only[avOk,av,ev_er];exact kuu (F.of t) h|unOp op t x=>
  simp only[avOk,av,ev_er];simp only[tq,tUn]at h;split at h;.rename_i B;rw[B];exact⟨_,h,rfl,rfl⟩
  .rename_i B;rw[B];exact⟨_,h,rfl,rfl⟩
  .split at h;.rename_i k n X;rw[asI_eq X];exact⟨_,h,rfl,rfl⟩
   grind
  grind|convert a b x=>
  simp only[avOk,av,ev_er];simp only[tq,tConv]at h;split at h;.rename_i q n k X hu;obtain⟨h1,J⟩:=cnd h;rw[asI_eq X];obtain⟨u,ac⟩:=qai.1 h1;exact⟨_,J,⟨by rw[(F.of a).un _ ac];rfl,by rw[(F.of b).un _ hu];trivial⟩,by rw[(F.of b).un _ hu];rfl⟩
  .rename_i X hu;split at h
   .rename_i l M hl;have ad:=hl;have h1:=els_erS ad;have h8:isB8 P a:=by
     unfold elUn at M;split at M;.rename_i e he;unfold isB8;rw[(F.of a).un _ he];exact(F.of e).un _ M
     .cases M
    have U:(er T (s.ev x)).els 1=some (l.map (D.int .u8)):=h1;have ni:∀q n,er T (s.ev x)≠.d (.int q n):=λq n e=>by rw[e]at U;cases U
    have hb:(l.map (D.int .u8)).all D.isB=true:=qbq.2 λd hd=>by obtain⟨n,_,rfl⟩:=qap.1 hd;rfl
    have X:byStr (l.map (D.int .u8))=strOfNums l:=ktu l;refine⟨_,h,?_,?_⟩
    .unfold convOk;split;.grind
     .exact⟨h8,(F.of b).un _ hu,_,U,hb⟩
    .unfold convV;split;.grind
     .rw[U];show V.d (.str (byStr _))=_;rw[X];rfl
   grind
  grind|slice t x lo hi mx=>simp only[tq]at h;cases mx with
  |some m=>exact h.elim|none=>simp only[avOk,av];rw[ev_er];obtain⟨u,g1,g2,g3⟩:=ksu (F.of t) h;grind
 |nilCheck x=>
  simp only[avOk,av,ev_er];simp only[tq,tNilCk]at h;split at h;.rename_i B;rw[B];exact⟨_,h,trivial,rfl⟩
  .rename_i B;rw[B];exact⟨_,h,trivial,rfl⟩
  .rename_i B;rw[B];exact⟨_,h,trivial,rfl⟩
  .rename_i B;rw[B];exact⟨_,h,trivial,rfl⟩
  grind|call c=>
  obtain⟨aa,args,Y⟩:=c;simp only[tq]at h;split at h;.obtain⟨h1,J⟩:=cnd h;simp only[qh]at h1;obtain⟨u,g1,g2,g3⟩:=kva (F.of _) J;rw[<-ev_er]at g2 g3;exact⟨u,g1,⟨⟨by grind,nb_eq h1.1,nb_eq h1.2⟩,g2⟩,g3⟩
  .obtain⟨h1,J⟩:=cnd h;unfold tMin at J;split at J
   .rename_i k a q b hx hy;have Z:(erS T s).ev (args.getD 0 (.const .nilIface))=.d (.int k a):=by rw[ev_er];exact congrArg (er T) (asI_eq hx)
    have e2:(erS T s).ev (args.getD 1 (.const .nilIface))=.d (.int q b):=by rw[ev_er];exact congrArg (er T) (asI_eq hy)
    refine⟨_,J,⟨nb_eq h1,?_⟩,?_⟩;.show twoInts _ _;rw[Z,e2];trivial
    .show minV _ _=_;rw[Z,e2];rfl
   grind
  .obtain⟨h1,J⟩:=cnd h;unfold tMax at J;split at J
   .rename_i k a q b hx hy;have Z:(erS T s).ev (args.getD 0 (.const .nilIface))=.d (.int k a):=by rw[ev_er];exact congrArg (er T) (asI_eq hx)
    have e2:(erS T s).ev (args.getD 1 (.const .nilIface))=.d (.int q b):=by rw[ev_er];exact congrArg (er T) (asI_eq hy)
    refine⟨_,J,⟨nb_eq h1,?_⟩,?_⟩;.show twoInts _ _;rw[Z,e2];trivial
    .show maxV _ _=_;rw[Z,e2];rfl
   grind
  grind|_=>exact h.elim
end
inductive KC where|nilPtr|nilMap|nilSlice|nilFunc|undef|fn(f:Nat)
def KC.v:KC->Value
 |.nilPtr=>.pointer none|.nilMap=>.map none|.nilSlice=>.slice none 0 0|.nilFunc=>.nilFunc|.undef=>Go.undef|.fn f=>.func (.func f) #[] #[]
def KC.is:KC->Value->Bool
 |.nilPtr,.pointer none=>true|.nilMap,.map none=>true|.nilSlice,v=>isNilK v|.nilFunc,.nilFunc=>true|.undef,.tuple a=>Nat.beq a.size 0|.fn f,.func (.func g) a b=>Nat.beq f g&&Nat.beq a.size 0&&Nat.beq b.size 0|_,_=>false
inductive Sh1 where|any|k(c:KC)|d(t:Ty)|full(e:Ty)|own(tok:Nat)|ptr(id off:Nat)|row(id:Nat)|view(id:Nat)|mp(id:Nat)|clo(g:Nat)(fs cs:List (Option (Nat×Nat)))
inductive Sh0 where|one(s:Sh1)|agg(l:List Sh1)
inductive Sh where|one(s:Sh0)|tup(l:List Sh0)
inductive OSh where|cells(l:List Sh1)|tip(e:Ty)|vec(e:Ty)|map(k v:Ty)|it(j:Nat)(k v:Ty)|dead
def hs1(s:Sh1)(r:List Ty):List Ty:=match s with
 |.d t=>t::r|.full e=>.sl e::r|.view _=>.int .i64::.int .i64::r|_=>r
def hsL:List Sh1->List Ty->List Ty
 |[],r=>r|s::l,r=>hs1 s (hsL l r)
def hs0(s:Sh0)(r:List Ty):List Ty:=match s with
 |.one s=>hs1 s r|.agg l=>hsL l r
def hsT:List Sh0->List Ty->List Ty
 |[],r=>r|s::l,r=>hs0 s (hsT l r)
def hsV(s:Sh)(r:List Ty):List Ty:=match s with
 |.one s=>hs0 s r|.tup l=>hsT l r
def hsO1(o:OSh)(r:List Ty):List Ty:=match o with
 |.cells l=>hsL l r|_=>r
def hsC:List OSh->List Ty->List Ty
 |[],r=>r|o::l,r=>hsO1 o (hsC l r)
def hsB:List OSh->List Ty
 |[]=>[]|.tip e::l=>.sl e::hsB l|.vec e::l=>.sl e::hsB l|.map k v::l=>.sl k::.sl v::hsB l|.it _ k v::l=>.sl k::.sl v::hsB l|.cells _::l=>hsB l|.dead::l=>hsB l
abbrev hsOs(l:List OSh):List Ty:=hsC l (hsB l)
section
variable{S:Nat->Type}
def tkB:(l:List OSh)->HL S (hsB l)->List (Option (TOb S))
 |[],_=>[]|.tip e::l,x=>some (.tip e x.1)::tkB l x.2|.vec e::l,x=>some (.vec e x.1)::tkB l x.2|.map k v::l,x=>some (.map k v x.1 x.2.1)::tkB l x.2.2|.it j k v::l,x=>some (.it j k v x.1 x.2.1 none)::tkB l x.2.2|.cells _::l,x=>none::tkB l x|.dead::l,x=>none::tkB l x
def fget(f:List (Option (TOb S)))(j:Nat):Option (TOb S):=match f[j]? with
 |some (some o)=>some o|_=>none
def ownT(k:Nat):Option (TOb S)->TV S
 |some (.tip e l)=>.own k e l|_=>.any
def rowT(k:Nat):Option (TOb S)->TV S
 |some (.vec e l)=>.row k e l.length|_=>.any
def viewT(k:Nat)(o n:Int):Option (TOb S)->TV S
 |some (.vec e _)=>.view k e o.toNat n.toNat|_=>.any
def flatG:Option (TOb S)->TOb S
 |some (.it _ _ _ _ _ _)=>.dead|some (.foc _ _ _ _ _ _ _)=>.dead|some o=>o|none=>.dead
def itG(m:Nat):Option (TOb S)->TOb S
 |some (.it _ a b x y l)=>.it m a b x y l|_=>.dead
section
variable(σ:Nat->Nat)(f:List (Option (TOb S)))
def tk1:(s:Sh1)->(r:List Ty)->HL S (hs1 s r)->TV S×HL S r
 |.any,_,x=>(.any,x)|.k c,_,x=>(.k c.v,x)|.d t,_,x=>(.d t x.1,x.2)|.full e,_,x=>(.full e x.1,x.2)|.own j,_,x=>(ownT (σ j) (fget f j),x)|.ptr j off,_,x=>(.ptr (σ j) off,x)|.row j,_,x=>(rowT (σ j) (fget f j),x)|.view j,_,x=>(viewT (σ j) x.1 x.2.1 (fget f j),x.2.2)|.mp j,_,x=>(.mp (σ j),x)|.clo g B cs,_,x=>(.clo g (renP σ B) (renP σ cs),x)
def tkL:(l:List Sh1)->(r:List Ty)->HL S (hsL l r)->List (TV S)×HL S r
 |[],_,x=>([],x)|s::l,r,x=>((tk1 σ f s (hsL l r) x).1::(tkL l r (tk1 σ f s (hsL l r) x).2).1,(tkL l r (tk1 σ f s (hsL l r) x).2).2)
def tk0:(s:Sh0)->(r:List Ty)->HL S (hs0 s r)->TV S×HL S r
 |.one s,r,x=>tk1 σ f s r x|.agg l,r,x=>(.agg (tkL σ f l r x).1,(tkL σ f l r x).2)
def tkT:(l:List Sh0)->(r:List Ty)->HL S (hsT l r)->List (TV S)×HL S r
 |[],_,x=>([],x)|s::l,r,x=>((tk0 σ f s (hsT l r) x).1::(tkT l r (tk0 σ f s (hsT l r) x).2).1,(tkT l r (tk0 σ f s (hsT l r) x).2).2)
def tkV:(s:Sh)->(r:List Ty)->HL S (hsV s r)->TV S×HL S r
 |.one s,r,x=>tk0 σ f s r x|.tup l,r,x=>(.tup (tkT σ f l r x).1,(tkT σ f l r x).2)
def tkO1(g:Option (TOb S)):(o:OSh)->(r:List Ty)->HL S (hsO1 o r)->TOb S×HL S r
 |.cells l,r,x=>(.cells (tkL σ f l r x).1,(tkL σ f l r x).2)|.tip _,_,x=>(flatG g,x)|.vec _,_,x=>(flatG g,x)|.map _ _,_,x=>(flatG g,x)|.it j _ _,_,x=>(itG (σ j) g,x)|.dead,_,x=>(.dead,x)
def tkC:(k:Nat)->(l:List OSh)->(r:List Ty)->HL S (hsC l r)->List (TOb S)×HL S r
 |_,[],_,x=>([],x)|k,o::l,r,x=>((tkO1 σ f (fget f k) o (hsC l r) x).1::(tkC (k+1) l r (tkO1 σ f (fget f k) o (hsC l r) x).2).1,(tkC (k+1) l r (tkO1 σ f (fget f k) o (hsC l r) x).2).2)
end
def dr1:(s:Sh1)->(r:List Ty)->HL S (hs1 s r)->HL S r
 |.any,_,x=>x|.k _,_,x=>x|.d _,_,x=>x.2|.full _,_,x=>x.2|.own _,_,x=>x|.ptr _ _,_,x=>x|.row _,_,x=>x|.view _,_,x=>x.2.2|.mp _,_,x=>x|.clo _ _ _,_,x=>x
def drL:(l:List Sh1)->(r:List Ty)->HL S (hsL l r)->HL S r
 |[],_,x=>x|s::l,r,x=>drL l r (dr1 s (hsL l r) x)
def dr0:(s:Sh0)->(r:List Ty)->HL S (hs0 s r)->HL S r
 |.one s,r,x=>dr1 s r x|.agg l,r,x=>drL l r x
def drT:(l:List Sh0)->(r:List Ty)->HL S (hsT l r)->HL S r
 |[],_,x=>x|s::l,r,x=>drT l r (dr0 s (hsT l r) x)
def drV:(s:Sh)->(r:List Ty)->HL S (hsV s r)->HL S r
 |.one s,r,x=>dr0 s r x|.tup l,r,x=>drT l r x
def drO1:(o:OSh)->(r:List Ty)->HL S (hsO1 o r)->HL S r
 |.cells l,r,x=>drL l r x|.tip _,_,x=>x|.vec _,_,x=>x|.map _ _,_,x=>x|.it _ _ _,_,x=>x|.dead,_,x=>x
def drC:(l:List OSh)->(r:List Ty)->HL S (hsC l r)->HL S r
 |[],_,x=>x|o::l,r,x=>drC l r (drO1 o (hsC l r) x)
def mtB(h:THp S)(σ:Nat->Nat):(k:Nat)->(l:List OSh)->Option (HL S (hsB l))
 |_,[]=>some ()|k,.tip e::l=>match getH h (σ k)with
  |some (.tip B x)=>match castL B e x with
   |some x=>match mtB h σ (k+1) l with
    |some y=>some (x,y)|none=>none
   |none=>none
  |_=>none
 |k,.vec e::l=>match getH h (σ k)with
  |some (.vec B x)=>match castL B e x with
   |some x=>match mtB h σ (k+1) l with
    |some y=>some (x,y)|none=>none
   |none=>none
  |_=>none
 |k,.map a b::l=>match getH h (σ k)with
  |some (.map F J x y)=>match castL F a x,castL J b y with
   |some x,some y=>match mtB h σ (k+1) l with
    |some z=>some (x,y,z)|none=>none
   |_,_=>none
  |_=>none
 |k,.it j a b::l=>match getH h (σ k)with
  |some (.it m F J x y _)=>match castL F a x,castL J b y,Nat.beq m (σ j)with
   |some x,some y,true=>match mtB h σ (k+1) l with
    |some z=>some (x,y,z)|none=>none
   |_,_,_=>none
  |_=>none
 |k,.cells _::l=>mtB h σ (k+1) l|k,.dead::l=>mtB h σ (k+1) l
section
variable(σ:Nat->Nat)(f:List (Option (TOb S)))
def mtOwn{β:Type}(k tok:Nat)(e:Ty)(l:List (e.den S))(g:Option (TOb S))(a:β)(K:β->Prop):Prop:=match g with
 |some (.tip B F)=>bif Nat.beq tok k then match castL e B l with
  |some l=>l=F/\K a|none=>False else False|_=>False
def mtRow{β:Type}(k id:Nat)(e:Ty)(n:Nat)(g:Option (TOb S))(a:β)(K:β->Prop):Prop:=match g with
 |some (.vec B F)=>bif Nat.beq id k&&e.beq B then n=F.length/\K a else False|_=>False
def mtView{β:Type}(k id:Nat)(e:Ty)(g:Option (TOb S))(a:β)(K:β->Prop):Prop:=match g with
 |some (.vec B _)=>bif Nat.beq id k&&e.beq B then K a else False|_=>False
def eqP:List (Option (Nat×Nat))->List (Option (Nat×Nat))->Bool
 |[],[]=>true|_::l,none::m=>eqP l m|some p::l,some q::m=>Nat.beq p.1 q.1&&Nat.beq p.2 q.2&&eqP l m|_,_=>false
def mt1:(s:Sh1)->(r:List Ty)->TV S->HL S r->(HL S (hs1 s r)->Prop)->Prop
 |.any,_,_,a,K=>K a|.k c,_,v,a,K=>match v with
  |.k v=>bif c.is v then K a else False|_=>False
 |.d t,_,v,a,K=>match toEl1 t v with
  |some x=>K (x,a)|none=>False
 |.full e,_,v,a,K=>match v with
  |.full J l=>match castL J e l with
   |some x=>K (x,a)|none=>False
  |.k v=>bif isNilK v then K ([],a)else False|_=>False
 |.own j,_,v,a,K=>match v with
  |.own tok e l=>mtOwn (σ j) tok e l (fget f j) a K|_=>False
 |.ptr j off,_,v,a,K=>match v with
  |.ptr id B=>bif Nat.beq id (σ j)&&Nat.beq B off then K a else False|_=>False
 |.row j,_,v,a,K=>match v with
  |.row id e n=>mtRow (σ j) id e n (fget f j) a K|_=>False
 |.view j,_,v,a,K=>match v with
  |.row id e n=>mtView (σ j) id e (fget f j) ((0:Int),(n:Int),a) K|.view id e off n=>mtView (σ j) id e (fget f j) ((off:Int),(n:Int),a) K|_=>False
 |.mp j,_,v,a,K=>match v with
  |.mp id=>bif Nat.beq id (σ j)then K a else False|_=>False
 |.clo g M cs,_,v,a,K=>match v with
  |.clo U F cs'=>bif Nat.beq U g&&eqP F (renP σ M)&&eqP cs' (renP σ cs)then K a else False|_=>False
def mtL:(l:List Sh1)->(r:List Ty)->List (TV S)->HL S r->(HL S (hsL l r)->Prop)->Prop
 |[],_,[],a,K=>K a|s::l,r,v::vs,a,K=>mtL l r vs a λb=>mt1 σ f s (hsL l r) v b K|_,_,_,_,_=>False
def mt0:(s:Sh0)->(r:List Ty)->TV S->HL S r->(HL S (hs0 s r)->Prop)->Prop
 |.one s,r,v,a,K=>mt1 σ f s r v a K|.agg l,r,v,a,K=>match v with
  |.agg vs=>mtL σ f l r vs a K|_=>False
def mtT:(l:List Sh0)->(r:List Ty)->List (TV S)->HL S r->(HL S (hsT l r)->Prop)->Prop
 |[],_,[],a,K=>K a|s::l,r,v::vs,a,K=>mtT l r vs a λb=>mt0 σ f s (hsT l r) v b K|_,_,_,_,_=>False
def mtV:(s:Sh)->(r:List Ty)->TV S->HL S r->(HL S (hsV s r)->Prop)->Prop
 |.one s,r,v,a,K=>mt0 σ f s r v a K|.tup l,r,v,a,K=>match v with
  |.tup vs=>mtT σ f l r vs a K|_=>False
def mtO1(h:THp S)(k:Nat):(o:OSh)->(r:List Ty)->HL S r->(HL S (hsO1 o r)->Prop)->Prop
 |.cells l,r,a,K=>match getH h (σ k)with
  |some (.cells vs)=>mtL σ f l r vs a K|_=>False
 |.tip _,_,a,K=>K a|.vec _,_,a,K=>K a|.map _ _,_,a,K=>K a|.it _ _ _,_,a,K=>K a|.dead,_,a,K=>K a
def mtC(h:THp S):(k:Nat)->(l:List OSh)->(r:List Ty)->HL S r->(HL S (hsC l r)->Prop)->Prop
 |_,[],_,a,K=>K a|k,o::l,r,a,K=>mtC h (k+1) l r a λb=>mtO1 σ f h k o (hsC l r) b K
end
def eqH:(ts:List Ty)->HL S ts->HL S ts->Prop
 |[],_,_=>True|[_],x,y=>x.1=y.1|_::t::r,x,y=>x.1=y.1/\eqH (t::r) x.2 y.2
end
structure Con(S:Nat->Type)where
 f:Nat
 ins:List Sh0
 pre:List OSh
 res:Sh
 post:List OSh
 R:HL S (hsT ins (hsOs pre))->(HL S (hsV res (hsOs post))->Prop)->Prop
 
 alt:Bool
structure XCon(S:Nat->Type)where
 f:Nat
 ins:List Ty
 out:List Ty
 ok:HL S ins->Prop
 val:HL S ins->HL S out
section
variable{S:Nat->Type}
def idf(j:Nat):Nat:=j
def Con.fi(c:Con S)(x:HL S (hsT c.ins (hsOs c.pre))):List (Option (TOb S)):=tkB c.pre (drC c.pre _ (drT c.ins _ x))
def Con.fo(c:Con S)(x:HL S (hsV c.res (hsOs c.post))):List (Option (TOb S)):=tkB c.post (drC c.post _ (drV c.res _ x))
def Con.args(c:Con S)(σ:Nat->Nat)(x:HL S (hsT c.ins (hsOs c.pre))):List (TV S):=(tkT σ (c.fi x) c.ins _ x).1
def Con.obs(c:Con S)(σ:Nat->Nat)(x:HL S (hsT c.ins (hsOs c.pre))):List (TOb S):=(tkC σ (c.fi x) 0 c.pre _ (drT c.ins _ x)).1
def Con.val(c:Con S)(σ:Nat->Nat)(x:HL S (hsV c.res (hsOs c.post))):TV S:=(tkV σ (c.fo x) c.res _ x).1
def Con.ops(c:Con S)(σ:Nat->Nat)(x:HL S (hsV c.res (hsOs c.post))):List (TOb S):=(tkC σ (c.fo x) 0 c.post _ (drV c.res _ x)).1
def bdP(B:List (Nat×Nat)):List (Option (Nat×Nat))->List (Option (Nat×Nat))->List (Nat×Nat)
 |some p::l,some q::m=>bdP ((p.1,q.1)::B) l m|_::l,_::m=>bdP B l m|_,_=>B
def bd1(B:List (Nat×Nat)):Sh1->TV S->List (Nat×Nat)
 |.own j,.own tok _ _=>(j,tok)::B|.ptr j _,.ptr id _=>(j,id)::B|.row j,.row id _ _=>(j,id)::B|.view j,.row id _ _=>(j,id)::B|.view j,.view id _ _ _=>(j,id)::B|.mp j,.mp id=>(j,id)::B|.clo _ J cs,.clo _ F cs'=>bdP (bdP B J F) cs cs'|_,_=>B
def bdL(B:List (Nat×Nat)):List Sh1->List (TV S)->List (Nat×Nat)
 |s::l,v::vs=>bdL (bd1 B s v) l vs|_,_=>B
def bd0(B:List (Nat×Nat)):Sh0->TV S->List (Nat×Nat)
 |.one s,v=>bd1 B s v|.agg l,.agg vs=>bdL B l vs|_,_=>B
def bdT(B:List (Nat×Nat)):List Sh0->List (TV S)->List (Nat×Nat)
 |s::l,v::vs=>bdT (bd0 B s v) l vs|_,_=>B
def envGet:List (Nat×Nat)->Nat->On
 |[],_=>none|p::r,j=>bif Nat.beq j p.1 then some p.2 else envGet r j
def bdO(h:THp S)(B:List (Nat×Nat)):OSh->On->List (Nat×Nat)
 |.cells l,some id=>match getH h id with
  |some (.cells vs)=>bdL B l vs|_=>B
 |_,_=>B
def bdOs(h:THp S):Nat->List OSh->List (Nat×Nat)->Ln->Option Ln
 |_,[],_,acc=>some acc.reverse|k,o::os,B,acc=>match envGet B k with
  |some id=>bdOs h (k+1) os (bdO h B o (some id)) (id::acc)|none=>none
def memB:Nat->Ln->Bool
 |_,[]=>false|x,y::r=>Nat.beq x y||memB x r
def nodupB:Ln->Bool
 |[]=>true|x::r=>!memB x r&&nodupB r
def allLt(n:Nat):Ln->Bool
 |[]=>true|x::r=>Nat.blt x n&&allLt n r
def okPB(m:Nat):List (Option (Nat×Nat))->Bool
 |[]=>true|some p::r=>Nat.blt p.1 m&&okPB m r|none::r=>okPB m r
def ok1B(m:Nat):Sh1->Bool
 |.own j=>Nat.blt j m|.ptr j _=>Nat.blt j m|.row j=>Nat.blt j m|.view j=>Nat.blt j m|.mp j=>Nat.blt j m|.clo _ B cs=>okPB m B&&okPB m cs|_=>true
def okLB(m:Nat):List Sh1->Bool
 |[]=>true|s::l=>ok1B m s&&okLB m l
def ok0B(m:Nat):Sh0->Bool
 |.one s=>ok1B m s|.agg l=>okLB m l
def okTB(m:Nat):List Sh0->Bool
 |[]=>true|s::l=>ok0B m s&&okTB m l
def okVB(m:Nat):Sh->Bool
 |.one s=>ok0B m s|.tup l=>okTB m l
def okOB(m:Nat):OSh->Bool
 |.cells l=>okLB m l|.it j _ _=>Nat.blt j m|_=>true
def okOsB(m:Nat):List OSh->Bool
 |[]=>true|s::l=>okOB m s&&okOsB m l
def preNoDead:List OSh->Bool
 |[]=>true|.dead::_=>false|_::r=>preNoDead r
def noItS:List OSh->Bool
 |[]=>true|.it _ _ _::_=>false|_::r=>noItS r
def noItG(h:THp S):THp S->Bool
 |[]=>true|(i,.it _ _ _ _ _ _)::r=>(match getH h i with
  |some (.it _ _ _ _ _ _)=>false|_=>true)&&noItG h r|_::r=>noItG h r
def noItT(h:THp S):Bool:=noItG h h
def freshNoTip(F:Bool)(n:Nat)(B:List OSh):Bool:=match F with
 |true=>(B.drop n).all λo=>match o with
  |.tip _=>false|_=>true
 |false=>true
def kind1B(l:List OSh):Sh1->Bool
 |.own j=>match l[j]? with
  |some (.tip _)=>true|_=>false
 |.row j=>match l[j]? with
  |some (.vec _)=>true|_=>false
 |.view j=>match l[j]? with
  |some (.vec _)=>true|_=>false
 |.mp j=>match l[j]? with
  |some (.map _ _)=>true|_=>false
 |.d t=>!t.agg|_=>true
def one1B:Sh1->Bool
 |.any=>false|.k .undef=>false|.d t=>!t.agg|_=>true
def kindLB(l:List OSh):List Sh1->Bool
 |[]=>true|s::r=>kind1B l s&&one1B s&&kindLB l r
def kind0B(l:List OSh):Sh0->Bool
 |.one s=>kind1B l s|.agg c=>kindLB l c
def kindTB(l:List OSh):List Sh0->Bool
 |[]=>true|s::r=>kind0B l s&&kindTB l r
def kindVB(l:List OSh):Sh->Bool
 |.one s=>kind0B l s|.tup r=>kindTB l r
def kindOB(l:List OSh):List OSh->Bool
 |[]=>true|.cells c::r=>kindLB l c&&kindOB l r|_::r=>kindOB l r
def Con.okB(c:Con S):Bool:=okTB c.pre.length c.ins&&okOsB c.pre.length c.pre&&okVB c.post.length c.res&&okOsB c.post.length c.post&&Nat.ble c.pre.length c.post.length&&preNoDead c.pre&&kindTB c.pre c.ins&&kindOB c.pre c.pre&&kindVB c.post c.res&&kindOB c.post c.post&&noItS c.post
def hpN(σ:Nat->Nat):Nat->List (TOb S)->THp S
 |_,[]=>[]|k,o::r=>(σ k,o)::hpN σ (k+1) r
def tCall(c:Con S)(F:Bool)(B:Nat)(h:THp S)(vs:List (TV S))(K:TV S->THp S->Nat->Prop):Prop:=match bdOs h 0 c.pre (bdT [] c.ins vs) []with
 |none=>False|some ids=>match mtB h (sgm ids B) 0 c.pre with
  |none=>False|some b=>bif c.okB&&nodupB ids&&allLt B ids&&Nat.beq ids.length c.pre.length&&freshNoTip F c.pre.length c.post&&(F||noItT h)then mtC (sgm ids B) (tkB c.pre b) h 0 c.pre (hsB c.pre) b λJ=>mtT (sgm ids B) (tkB c.pre b) c.ins (hsOs c.pre) vs J λx=>c.R x λo=>K (c.val (sgm ids B) o) (hpN (sgm ids B) 0 (c.ops (sgm ids B) o)) (c.post.length-c.pre.length)else False
def fit1:Sh1->TV S->Bool
 |.any,_=>true|.k c,.k v=>c.is v|.d t,v=>match v with
  |.d _ _=>true|.lit _=>true|.full _ _=>true|.own _ _ _=>true|.k v=>isNilK v|_=>false
 |.full _,.full _ _=>true|.full _,.k v=>isNilK v|.own _,.own _ _ _=>true|.ptr _ o,.ptr _ o'=>Nat.beq o o'|.row _,.row _ _ _=>true|.view _,.row _ _ _=>true|.view _,.view _ _ _ _=>true|.mp _,.mp _=>true|.clo g _ _,.clo B _ _=>Nat.beq g B|_,_=>false
def fitL:List Sh1->List (TV S)->Bool
 |[],[]=>true|s::l,v::vs=>fit1 s v&&fitL l vs|_,_=>false
def fit0:Sh0->TV S->Bool
 |.one s,v=>fit1 s v|.agg l,.agg vs=>fitL l vs|_,_=>false
def fitT:List Sh0->List (TV S)->Bool
 |[],[]=>true|s::l,v::vs=>fit0 s v&&fitT l vs|_,_=>false
def findC(f:Nat)(vs:List (TV S))(K:Con S->Prop):List (Con S)->Prop
 |[]=>False|c::r=>bif Nat.beq c.f f&&fitT c.ins vs then bif c.alt then K c∨findC f vs K r else K c else findC f vs K r
def findX(f:Nat):List (XCon S)->Option (XCon S)
 |[]=>none|c::r=>bif Nat.beq c.f f then some c else findX f r
def tvs(ts:List Ty)(x:HL S ts):List (TV S):=(tds ts x).map TD.v
def outV:(ts:List Ty)->HL S ts->TV S
 |[t],x=>.d t x.1|ts,x=>.tup (tvs ts x)
end
section
variable(T:Tab)
structure Cx where
 ti:BT (TI T.den)cs:List (Con T.den)xs:List (XCon T.den)S:Nat
 rw:Ln
def tFill(pl:List (Nat×Nat))(K:List (TV T.den)->Prop):List (TV T.den)->List (Nat×TV T.den)->Prop
 |l,[]=>K l|l,p::r=>match pl[p.1]? with
  |some (off,n)=>bif Nat.beq p.2.cells.length n&&allOne p.2.cells&&Nat.ble (off+n) l.length then tFill pl K (TV.setL l off p.2.cells) r else False|none=>False
def toEls(e:Ty):List (TV T.den)->Option (List (e.den T.den))
 |[]=>some []|v::r=>match toEl T e v with
  |some x=>match toEls e r with
   |some y=>some (x::y)|none=>none
  |none=>none
def noK:TV T.den->Bool
 |.k _=>false|.agg l=>l.all λv=>match v with
  |.k _=>false|_=>true
 |_=>true
def rangeB:Nat->Ln->Bool
 |_,[]=>true|k,i::r=>Nat.beq i k&&rangeB (k+1) r
def setI(t:Ty)(v:t.den T.den)(i:Int):Nat->List (t.den T.den)->List (TV T.den)
 |_,[]=>[]|j,x::r=>.d t (bif decide (i=j)then v else x)::setI t v i (j+1) r
def stA(K:List (TV T.den)->Prop)(i:Int)(x:TV T.den):List (TV T.den)->Prop
 |.d t y::r=>bif t.agg then False else match colT t r,x.toB with
  |some B,.d t' v=>match Ty.cast (Ty.den T.den) t' t v with
   |some v=>K (setI T t v i 0 (y::B))|none=>False
  |_,_=>False
 |_=>False
def allD:List (TV T.den)->Bool
 |[]=>true|.d _ _::r=>allD r|.lit _::r=>allD r|_=>false
def tStore(M:TI T.den)(U:Bool)(h:THp T.den)(a x:TV T.den)(K:TV T.den->THp T.den->Nat->Prop):Prop:=match M.ty with
 |none=>False|some (_,n)=>bif Nat.beq x.cells.length n&&allOne x.cells then match a with
  |.ptr id off=>match getH h id with
   |some (.cells l)=>bif Nat.ble (off+n) l.length then K .any [(id,.cells (TV.setL l off x.cells))] 0 else False|_=>False
  |.aptr id off m i=>match getH h id with
   |some (.cells l)=>bif Nat.beq n 1&&Nat.ble (off+m) l.length then(0<=i/\i<m)/\stA T (λcs=>K .any [(id,.cells (TV.setL l off cs))] 0) i x ((l.drop off).take m)else False|_=>False
  |.eptr id e i off=>match getH h id with
   |some (.vec B l)=>bif e.beq B&&Nat.ble (off+n) (T.sz B)&&(!U||allD T x.cells)then match toEl T B (bif B.agg then .agg (TV.setL ((tcells T B (@ix _ ⟨T.dflt B⟩ l i)).map TD.v) off x.cells)else x)with
    |some y=>(0<=i/\i<l.length)/\K .any [(id,.vec B (l.set i.toNat y))] 0|none=>match x with
     |.row F J m=>(0<=i/\i<l.length)/\K .any [(id,.foc B l i off F J m)] 0|_=>False else False|_=>False
  |_=>False else False
def srcE(h:THp T.den)(e:Ty)(y:TV T.den)(K:List (e.den T.den)->Prop):Prop:=match y with
 |.row id B n=>match getH h id with
  |some (.vec F l)=>bif B.beq e then match castL F e l with
   |some l=>n=l.length/\K l|none=>False else False|_=>False
 |.view id B off n=>match getH h id with
  |some (.vec F l)=>bif B.beq e then match castL F e l with
   |some l=>off+n<=l.length/\K ((l.drop off).take n)|none=>False else False|_=>False
 |y=>match els e y with
  |some m=>K m|none=>False
def tAppRow(e:Ty)(F B id:Nat)(l m:List (e.den T.den))(K:TV T.den->THp T.den->Nat->Prop):Prop:=(l.length+m.length)*F<=140737488355328/\l.length+m.length<=maxLen/\K (.row B e (l++m).length) [(B,.vec e (l++m)),(id,.dead)] 1
def tAppNew(e:Ty)(F B:Nat)(m:List (e.den T.den))(K:TV T.den->THp T.den->Nat->Prop):Prop:=m.length*F<=140737488355328/\m.length<=maxLen/\K (.row B e m.length) [(B,.vec e m)] 1
def isE{S:Nat->Type}(e:Ty):TV S->Bool
 |.full B []=>B.beq e|.k v=>isNilK v|_=>false
def isF{S:Nat->Type}:TV S->Bool
 |.full _ _=>true|.k v=>isNilK v|_=>false
def tAppData(e:Ty)(B:Nat)(x:TV T.den)(m:List (e.den T.den))(K:TV T.den->THp T.den->Nat->Prop):Prop:=match x with
 |.full F l=>match castL F e l with
  |some l=>(l.length+m.length)*B<=140737488355328/\l.length+m.length<=maxLen/\K (.d (.sl e) (l++m)) [] 1|none=>False
 |.k v=>bif isNilK v then m.length*B<=140737488355328/\m.length<=maxLen/\K (.d (.sl e) m) [] 1 else False|_=>False
def tAppOwn(e:Ty)(F:Nat)(J:Bool)(B:Nat)(h:THp T.den)(x:TV T.den)(m:List (e.den T.den))(K:TV T.den->THp T.den->Nat->Prop):Prop:=match x with
 |.own tok M l=>match getH h tok with
  |some (.tip _ U)=>match castL M e l with
   |some l=>U.length=l.length/\(l.length+m.length)*F<=140737488355328/\l.length+m.length<=maxLen/\K (.own tok e (l++m)) [(tok,.tip e (l++m))] 0|none=>False
  |_=>False
 |.full X l=>match J,castL X e l with
  |false,some l=>(l.length+m.length)*F<=140737488355328/\l.length+m.length<=maxLen/\K (.own B e (l++m)) [(B,.tip e (l++m))] 1|_,_=>False
 |.k v=>match J with
  |false=>bif isNilK v then m.length*F<=140737488355328/\m.length<=maxLen/\K (.own B e m) [(B,.tip e m)] 1 else False|true=>False
 |_=>False
def tAppend(X:TI T.den)(U rw:Bool)(F:Nat)(h:THp T.den)(x y:TV T.den)(K:TV T.den->THp T.den->Nat->Prop):Prop:=match X.el with
 |none=>False|some (e,B)=>bif rw&&isE e x then srcE T h e y λm=>tAppNew T e B F m K else bif U&&isF x then srcE T h e y λm=>tAppData T e B x m K else match x with
  |.row id J n=>match getH h id with
   |some (.vec M l)=>bif J.beq e then match castL M e l with
    |some l=>n=l.length/\srcE T h e y λm=>tAppRow T e B F id l m K|none=>False else False|_=>False
  |.view id J off n=>match getH h id with
   |some (.vec M l)=>bif J.beq e then match castL M e l with
    |some l=>off=0/\n<=l.length/\srcE T h e y λm=>tAppRow T e B F id (l.take n) m K|none=>False else False|_=>False
  |x=>match els e y with
   |none=>False|some m=>tAppOwn T e B U F h x m K
def tCopy(J:TI T.den)(h:THp T.den)(x y:TV T.den)(K:TV T.den->THp T.den->Nat->Prop):Prop:=match J.el with
 |none=>False|some (e,_)=>match x with
  |.row id F n=>match getH h id with
   |some (.vec B l)=>match els B y with
    |some m=>bif e.beq B&&F.beq B then n=l.length/\K (.d (.int .i64) ((min m.length l.length:Nat):Int)) [(id,.vec B (rowOver l m l.length))] 0 else False|none=>False
   |_=>False
  |_=>False
def tMake(B:TI T.den)(F:Nat)(J:Operand)(x y:TV T.den)(K:TV T.den->THp T.den->Nat->Prop):Prop:=match B.el,B.ez,x.asI,y.asI with
 |some (e,M),true,some (_,n),some (_,c)=>0<=n/\n<=c/\ask J (c.toNat*M<=140737488355328) (ask J (c.toNat<=maxLen) (K (.row F e n.toNat) [(F,.vec e (List.replicate n.toNat (T.dflt e)))] 1))|_,_,_,_=>False
def isI{S:Nat->Type}(s:TSt S):Option Operand->Bool
 |none=>true|some o=>(s.ev o).asI.isSome
def tMakeMap(F:TI T.den)(s:TSt T.den)(r:Option Operand)(B:Nat)(K:TV T.den->THp T.den->Nat->Prop):Prop:=match F.mp with
 |some (k,v)=>bif isI s r then K (.mp B) [(B,.map k v [] [])] 1 else False|_=>False
def tLookup(M:TI T.den)(h:THp T.den)(c:Bool)(x i:TV T.den)(K:TV T.den->THp T.den->Nat->Prop):Prop:=match M.mp,x with
 |some (k,v),.mp id=>match getH h id with
  |some (.map F J B vs)=>match castL F k B,castL J v vs,toEl1 k i with
   |some B,some vs,some key=>B.length=vs.length/\K (bif c then .tup [tdv T v (mVal (Ty.keq k key) B vs (T.dflt v)),.d .bool (mHas (Ty.keq k key) B)]else tdv T v (mVal (Ty.keq k key) B vs (T.dflt v))) [] 0|_,_,_=>False
  |_=>False
 |_,_=>False
def tMapUpd(M:TI T.den)(h:THp T.den)(m i y:TV T.den)(K:TV T.den->THp T.den->Nat->Prop):Prop:=match M.mp,m with
 |some (k,v),.mp id=>match getH h id with
  |some (.map F J B vs)=>match castL F k B,castL J v vs,toEl1 k i,toEl T v y with
   |some B,some vs,some key,some val=>B.length=vs.length/\K .any [(id,.map k v (mPutK (Ty.keq k key) B key) (mPutV (Ty.keq k key) B vs val))] 0|_,_,_,_=>False
  |_=>False
 |_,_=>False
def tDelete(M:TI T.den)(h:THp T.den)(m i:TV T.den)(K:TV T.den->THp T.den->Nat->Prop):Prop:=match M.mp,m with
 |some (k,v),.mp id=>match getH h id with
  |some (.map F J B vs)=>match castL F k B,castL J v vs,toEl1 k i with
   |some B,some vs,some key=>B.length=vs.length/\K .any [(id,.map k v (mDelK (Ty.keq k key) B) (mDelV (Ty.keq k key) B vs))] 0|_,_,_=>False
  |_=>False
 |_,_=>False
def tLenM(F:TI T.den)(h:THp T.den)(x:TV T.den)(K:TV T.den->THp T.den->Nat->Prop):Prop:=match F.mp,x with
 |some (_,_),.mp id=>match getH h id with
  |some (.map _ _ B vs)=>B.length=vs.length/\K (.d (.int .i64) (B.length:Int)) [] 0|_=>False
 |_,_=>False
def tRange(J:TI T.den)(h:THp T.den)(B:Nat)(x:TV T.den)(K:TV T.den->THp T.den->Nat->Prop):Prop:=match J.mp,x with
 |some (_,_),.mp id=>match getH h id with
  |some (.map k v F vs)=>K (.ptr B 0) [(B,.it id k v F vs none)] 1|_=>False
 |_,_=>False
def tNext(h:THp T.den)(x:TV T.den)(K:TV T.den->THp T.den->Nat->Prop):Prop:=match x with
 |.ptr id 0=>match getH h id with
  |some (.it mid k v B vs _)=>match getH h mid with
   |some (.map _ _ _ _)=>B.length=vs.length/\(B=[]->K (.tup [.lit false]) [(id,.dead)] 0)/\∀j,j<B.length->K (.tup [.lit true,.d k (@ix _ ⟨T.dflt k⟩ B j),tdv T v (@ix _ ⟨T.dflt v⟩ vs j)]) [(id,.it mid k v (B.eraseIdx j) (vs.eraseIdx j) (some (@ix _ ⟨T.dflt k⟩ B j,@ix _ ⟨T.dflt v⟩ vs j)))] 0|_=>False
  |_=>False
 |_=>False
def tEntry(h:THp T.den)(x:TV T.den)(K:TV T.den->THp T.den->Nat->Prop):Prop:=match x with
 |.ptr id 0=>match getH h id with
  |some (.it mid k v _ _ (some p))=>match getH h mid with
   |some (.map _ _ _ _)=>K (.tup [.d k p.1,tdv T v p.2]) [] 0|_=>False
  |_=>False
 |_=>False
def noPrim:Option (Ty×Nat)->Bool
 |some (e,_)=>!e.prim|none=>true
def cloT(l:List (Option (Nat×Nat))):List (TV T.den):=l.map λp=>match p with
 |some q=>.ptr q.1 q.2|none=>.any
def fnTG:TV T.den->On
 |.clo g _ _=>some g|_=>none
def fnTA:TV T.den->List (TV T.den)->List (TV T.den)
 |.clo _ B cs,xs=>cloT T B++(xs++cloT T cs)|_,xs=>xs
def fnOf:TV T.den->On
 |.k (.func (.func g) a b)=>bif Nat.beq a.size 0&&Nat.beq b.size 0 then some g else none|_=>none
def tOp(C:Cx T)(F rw:Bool)(J:Nat)(s:TSt T.den)(K:TV T.den->THp T.den->Nat->Prop):Op->Prop
 |.alloc t=>match(TI.of C.ti t).ze with
  |some z=>K (.ptr J 0) [(J,.cells z)] 1|none=>False
 |.box _ x=>bif allOne (s.ev x).cells then K (.ptr J 0) [(J,.cells (s.ev x).cells)] 1 else False|.store t a x=>tStore T (TI.of C.ti t) F s.h (s.ev a) (s.ev x) K|.build t B=>match(TI.of C.ti t).ze with
  |some z=>bif(TI.of C.ti t).pl.isEmpty then False else tFill T (TI.of C.ti t).pl (λl=>K (.agg l) [] 0) z (B.toList.map λp=>(p.1,s.ev p.2))|none=>False
 |.buildSlice t n B=>match(TI.of C.ti t).el with
  |some (e,_)=>match toEls T e (B.toList.map λp=>s.ev p.2)with
   |some l=>bif(B.toList.map λp=>s.ev p.2).all (noK T)&&rangeB 0 (B.toList.map (·.1))&&Nat.beq n B.toList.length&&Nat.ble (n*T.sz e) 16777216 then bif rw then K (.row J e l.length) [(J,.vec e l)] 1 else K (.full e l) [] 1 else False|none=>False
  |none=>False
 |.makeMap t r=>bif F then False else tMakeMap T (TI.of C.ti t) s r J K|.lookup t x i c=>tLookup T (TI.of C.ti t) s.h c (s.ev x) (s.ev i) K|.mapUpdate t m k v=>bif F||noItT s.h then tMapUpd T (TI.of C.ti t) s.h (s.ev m) (s.ev k) (s.ev v) K else False|.range t x=>bif F then False else tRange T (TI.of C.ti t) s.h J (s.ev x) K|.next x b=>bif F||b then False else tNext T s.h (s.ev x) K|.entry x=>bif F then False else tEntry T s.h (s.ev x) K|.makeSlice t n c=>bif F&&noPrim (TI.of C.ti t).el then False else tMake T (TI.of C.ti t) J c (s.ev n) (s.ev c) K|.call c=>match c.callee with
  |.builtin .append=>bif Nat.beq c.args.size 2&&Nat.beq c.argTypes.size 2&&Nat.beq (c.argTypes.getD 0 0) (c.argTypes.getD 1 0)then tAppend T (TI.of C.ti (c.argTypes.getD 0 0)) F rw J s.h (s.ev (a2 c 0)) (s.ev (a2 c 1)) K else False|.builtin .copy=>match F with
   |false=>bif Nat.beq c.args.size 2&&Nat.beq c.argTypes.size 2 then tCopy T (TI.of C.ti (c.argTypes.getD 0 0)) s.h (s.ev (a2 c 0)) (s.ev (a2 c 1)) K else False|true=>False
  |.builtin .delete=>bif !F&&noItT s.h&&Nat.beq c.args.size 2&&Nat.beq c.argTypes.size 2 then tDelete T (TI.of C.ti (c.argTypes.getD 0 0)) s.h (s.ev (a2 c 0)) (s.ev (a2 c 1)) K else False|.builtin .len=>match F,s.ev (a2 c 0)with
   |false,.mp id=>bif Nat.beq c.args.size 1&&Nat.beq c.argTypes.size 1 then tLenM T (TI.of C.ti (c.argTypes.getD 0 0)) s.h (.mp id) K else False|_,_=>tq T C.ti s (λv=>K v [] 0) (.call c)
  |.value f=>match fnOf T (s.ev f)with
   |some g=>match findX g C.xs with
    |some x=>match packL x.ins (c.args.toList.map s.ev)with
     |some i=>x.ok i/\K (outV x.out (x.val i)) [] 0|none=>False
    |none=>findC g (c.args.toList.map s.ev) (λk=>tCall k F J s.h (c.args.toList.map s.ev) K) C.cs
   |none=>match fnTG T (s.ev f)with
    |some g=>findC g (fnTA T (s.ev f) (c.args.toList.map s.ev)) (λk=>tCall k F J s.h (fnTA T (s.ev f) (c.args.toList.map s.ev)) K) C.cs|none=>False
  |_=>tq T C.ti s (λv=>K v [] 0) (.call c)
 |op=>tq T C.ti s (λv=>K v [] 0) op
def rdT(s:TSt T.den):Op->Ln
 |.load _ a=>match s.ev a with
  |.ptr id _=>[id]|.aptr id _ _ _=>[id]|.eptr id _ _ _=>[id]|_=>[]
 |.lookup _ x _ _=>match s.ev x with
  |.mp id=>[id]|_=>[]
 |.call c=>match c.callee with
  |.builtin .append=>match s.ev (a2 c 1)with
   |.row id _ _=>[id]|.view id _ _ _=>[id]|_=>[]
  |_=>[]
 |_=>[]
def rwB(l:Ln):On->Bool
 |some t=>memB t l|none=>false
def dstB(N:Nat):On->Bool
 |some t=>Nat.blt t N|none=>true
def isUndef:Value->Bool
 |.tuple a=>Nat.beq a.size 0|_=>false
def slotOf(tb:List On)(j:Nat):On:=match tb[j]? with
 |some (some t)=>some t|_=>none
def tGuard(s:TSt T.den)(tb:List On)(g:Option (Nat×Bool))(B no:TSt T.den->Prop):Prop:=match g with
 |none=>B s|some (j,b)=>match slotOf tb j with
  |none=>False|some u=>match getT s.sl u with
   |.k v=>bif isUndef v then no s else False|.lit t=>bif t==b then B s else no s|.d .bool t=>(t=true->(bif b then B else no) ⟨(u,.lit true)::s.sl,s.h,s.nx⟩)/\(t=false->(bif b then no else B) ⟨(u,.lit false)::s.sl,s.h,s.nx⟩)|_=>False
def tStep(C:Cx T)(rw:Bool)(s:TSt T.den)(K:TV T.den->THp T.den->Nat->Prop):Op->Prop
 |.binOp op t x y t'=>match(s.ev y).isNil with
  |true=>tNil T op (TI.of C.ti t) (s.ev x) λv=>K v [] 0|false=>tOp T C false rw s.nx s K (.binOp op t x y t')
 |op=>tOp T C false rw s.nx s K op
def tOps(C:Cx T)(N:Nat)(tb:List On):List Oper->TSt T.den->(TSt T.den->Prop)->Prop
 |[],s,K=>K s|o::r,s,K=>bif dstB N o.dst then tGuard T s tb o.guard (λs=>tStep T C (rwB C.rw o.dst) s (λv B nf=>tOps C N tb r (TSt.put ⟨s.sl,B++s.h,s.nx+nf⟩ o.dst v) K) o.op) λs=>tOps C N tb r (s.put o.dst (.k undef)) K else False
def wsB(af:Array Edge)(id:Nat):List (Nat×Nat)->Bool
 |[]=>true|p::r=>(!Nat.beq p.1 id||edgeB af p.2)&&wsB af id r
def wrB(nb S k:Nat)(B F:List (Nat×Nat))(af:Array Edge)(h:THp T.den):Ln->Bool
 |[]=>true|id::r=>wsB af id B&&wsB af id F&&Nat.blt id (frs nb S (k+1))&&(Nat.ble (frs nb S k) id||(getH h id).isSome)&&wrB nb S k B F af h r
def rdB(B:List (Nat×Nat))(af:Array Edge):Ln->Bool
 |[]=>true|id::r=>wsB af id B&&rdB B af r
def keysT(h:THp T.den):Ln:=h.map (·.1)
def tDs(C:Cx T)(N:Nat)(tb:List On)(nb S:Nat):List Oper->List (Nat×Nat)->List (Nat×Nat)->Nat->TSt T.den->(TSt T.den->Prop)->Prop
 |[],_,_,_,s,K=>K s|o::r,B,J,k,s,K=>bif dstB N o.dst then tGuard T s tb o.guard (λs=>bif rdB B o.after (rdT T s o.op)then tOp T C true (rwB C.rw o.dst) (frs nb S k) s (λv F nf=>bif Nat.ble nf S&&wrB T nb S k B J o.after s.h (keysT T F)then tDs C N tb nb S r ((keysT T F).map (·,k)++B) ((rdT T s o.op).map (·,k)++J) (k+1) (TSt.put ⟨s.sl,F++s.h,s.nx⟩ o.dst v) K else False) o.op else False) λs=>tDs C N tb nb S r B J (k+1) (s.put o.dst (.k undef)) K else False
def sgs(is:Ln)(j:Nat):Nat:=is.getD j 0
structure Tm where
 ids:Ln
 os:List OSh
 ts:Ln
 ss:List Sh0
 nx:Nat
def Tm.hs(m:Tm):List Ty:=hsT m.ss (hsOs m.os)
def Tm.f(m:Tm)(x:HL T.den m.hs):List (Option (TOb T.den)):=tkB m.os (drC m.os _ (drT m.ss _ x))
def zipS:Ln->List (TV T.den)->List (Nat×TV T.den)
 |t::ts,v::vs=>(t,v)::zipS ts vs|_,_=>[]
def Tm.fill(m:Tm)(x:HL T.den m.hs):TSt T.den:=⟨zipS T m.ts (tkT (sgs m.ids) (m.f T x) m.ss _ x).1,hpN (sgs m.ids) 0 (tkC (sgs m.ids) (m.f T x) 0 m.os _ (drT m.ss _ x)).1,m.nx⟩
def Tm.okB(m:Tm):Bool:=okTB m.os.length m.ss&&okOsB m.os.length m.os&&allLt m.nx m.ids&&Nat.beq m.ids.length m.os.length&&Nat.beq m.ts.length m.ss.length&&kindTB m.os m.ss&&kindOB m.os m.os
def idsE(B:Nat):Nat->Ln->List (Nat×Nat)
 |_,[]=>[]|k,i::r=>bif Nat.blt i B then(k,i)::idsE B (k+1) r else idsE B (k+1) r
def bdMs(h:THp T.den):Nat->List OSh->Ln->List (Nat×Nat)->Ln
 |k,o::os,i::is,B=>match envGet B k with
  |some j=>j::bdMs h (k+1) os is (bdO h B o (some j))|none=>i::bdMs h (k+1) os is (bdO h B o (some i))
 |_,_,_,_=>[]
def fixB(B:Nat):Ln->Ln->Bool
 |i::is,j::F=>(!Nat.blt i B||Nat.beq i j)&&fixB B is F|[],[]=>true|_,_=>false
def fcL:Ln->(Ln->Prop)->Prop
 |[],K=>K []|x::r,K=>fcL r λr=>K (x::r)
def Tm.at(m:Tm)(B:Nat)(s:TSt T.den):Ln:=bdMs T s.h 0 m.os m.ids (idsE B 0 m.ids++bdT [] m.ss (m.ts.map (getT s.sl)))
def Tm.mat(B:Nat)(m:Tm)(s:TSt T.den)(K:HL T.den m.hs->Prop):Prop:=bif Nat.ble B m.nx&&Nat.ble m.nx s.nx&&m.okB then fcL (m.at T B s) λids=>bif nodupB m.ids&&nodupB ids&&allLt s.nx ids&&fixB B m.ids ids then match mtB s.h (sgs ids) 0 m.os with
  |some b=>mtC (sgs ids) (tkB m.os b) s.h 0 m.os (hsB m.os) b λF=>mtT (sgs ids) (tkB m.os b) m.ss (hsOs m.os) (m.ts.map (getT s.sl)) F K|none=>False else False else False
inductive Gs where|frz(id:Nat)(ts:Ln)|frzc(id i j:Nat)|tok(t:Nat)(e:Ty)|tokc(id j:Nat)(e:Ty)|trim(t:Nat)|trimc(id j:Nat)|rnil(t:Nat)(e:Ty)|rnilc(id j:Nat)(e:Ty)|frzf(id i:Nat)|frzi(i j:Nat)
def growE(e:Ty):TV T.den->Option (List (e.den T.den))
 |.full B l=>castL B e l|.k v=>bif isNilK v then some []else none|_=>none
def trimV(h:THp T.den)(v:TV T.den)(K:Nat->(e:Ty)->List (e.den T.den)->Prop):Prop:=match v with
 |.row id e n=>match getH h id with
  |some (.vec B l)=>bif e.beq B then n=l.length/\K id B l else False|_=>False
 |.view id e off n=>match getH h id with
  |some (.vec B l)=>bif e.beq B then off=0/\n<=l.length/\K id B (l.take n)else False|_=>False
 |_=>False
def rowsTo(id:Nat)(v:TV T.den)(n z:Nat):Ln->List (Nat×TV T.den)->(List (Nat×TV T.den)->Prop)->Prop
 |[],sl,K=>K sl|t::ts,sl,K=>match getT sl t with
  |.row i B m=>bif Nat.beq i id&&Nat.beq (T.sz B) z then m=n/\rowsTo id v n z ts ((t,v)::sl) K else False|_=>False
def frzC(s:TSt T.den)(K:TSt T.den->Prop)(id i j:Nat):Prop:=match getH s.h id,getH s.h i with
 |some (.vec e l),some (.cells cs)=>match cs[j]? with
  |some (.row B F m)=>bif Nat.beq B id&&F.beq e&&!Nat.beq i id then m=l.length/\K ⟨s.sl,(i,.cells (cs.set j (.own s.nx e l)))::(s.nx,.tip e l)::(id,.dead)::s.h,s.nx+1⟩else False|_=>False
 |_,_=>False
def gh1(s:TSt T.den)(K:TSt T.den->Prop):Gs->Prop
 |.frz id ts=>match getH s.h id with
  |some (.vec e l)=>rowsTo T id (.own s.nx e l) l.length (T.sz e) ts s.sl λsl=>K ⟨sl,(s.nx,.tip e l)::(id,.dead)::s.h,s.nx+1⟩|_=>False
 |.frzc id i j=>frzC T s K id i j|.frzi i j=>match getH s.h i with
  |some (.cells cs)=>match cs[j]? with
   |some (.row id _ _)=>frzC T s K id i j|_=>K s
  |_=>False
 |.tok t e=>match growE T e (getT s.sl t)with
  |some l=>K ⟨(t,.own s.nx e l)::s.sl,(s.nx,.tip e l)::s.h,s.nx+1⟩|none=>False
 |.tokc id j e=>match getH s.h id with
  |some (.cells cs)=>match cs[j]? with
   |some v=>match growE T e v with
    |some l=>K ⟨s.sl,(id,.cells (cs.set j (.own s.nx e l)))::(s.nx,.tip e l)::s.h,s.nx+1⟩|none=>False
   |none=>False
  |_=>False
 |.trim t=>trimV T s.h (getT s.sl t) λid e l=>K ⟨(t,.row s.nx e l.length)::s.sl,(s.nx,.vec e l)::(id,.dead)::s.h,s.nx+1⟩|.trimc id j=>match getH s.h id with
  |some (.cells cs)=>match cs[j]? with
   |some v=>trimV T s.h v λB e l=>bif Nat.beq B id then False else K ⟨s.sl,(id,.cells (cs.set j (.row s.nx e l.length)))::(s.nx,.vec e l)::(B,.dead)::s.h,s.nx+1⟩|none=>False
  |_=>False
 |.rnil t e=>bif isE e (getT s.sl t)then K ⟨(t,.row s.nx e 0)::s.sl,(s.nx,.vec e [])::s.h,s.nx+1⟩else False|.rnilc id j e=>match getH s.h id with
  |some (.cells cs)=>match cs[j]? with
   |some v=>bif isE e v then K ⟨s.sl,(id,.cells (cs.set j (.row s.nx e 0)))::(s.nx,.vec e [])::s.h,s.nx+1⟩else False|none=>False
  |_=>False
 |.frzf id i=>match getH s.h id,getH s.h i with
  |some (.vec e l),some (.foc (.st z) x k off F J m)=>bif Nat.beq F id&&J.beq e&&!Nat.beq i id&&Nat.blt off (T.tys z).length then match packL (T.tys z) (((tds (T.tys z) (T.cells z (@ix _ ⟨T.inh z⟩ x k))).map TD.v).set off (.d (.sl e) l))with
   |some y=>(m=l.length/\0<=k/\k<x.length)/\K ⟨s.sl,(i,.vec (.st z) (x.set k.toNat (T.pack z y)))::(s.nx,.tip e l)::(id,.dead)::s.h,s.nx+1⟩|none=>False else False|_,_=>False
def ghs:List Gs->TSt T.den->(TSt T.den->Prop)->Prop
 |[],s,K=>K s|g::r,s,K=>gh1 T s (λs'=>ghs r s' K) g
inductive An where|no|nd(ga:List Gs)(a:An)(gb:List Gs)(b:An)|jn(tm:Tm)(J:HL T.den tm.hs->Prop)(ga:List Gs)(a:An)(gb:List Gs)(b:An)|lp(g:List Gs)(tm:Tm)(L:(HL T.den tm.hs->Prop)->HL T.den tm.hs->Prop)(a:(HL T.den tm.hs->Prop)->An)|rt(g:List Gs)
def An.ga:An T->List Gs
 |.nd g _ _ _=>g|.jn _ _ g _ _ _=>g|.rt g=>g|_=>[]
def An.gb:An T->List Gs
 |.nd _ _ g _=>g|.jn _ _ _ _ g _=>g|_=>[]
def An.a:An T->An T
 |.nd _ a _ _=>a|.jn _ _ _ a _ _=>a|_=>.no
def An.b:An T->An T
 |.nd _ _ _ b=>b|.jn _ _ _ _ _ b=>b|_=>.no
def thenT(K:TSt T.den->Prop)(Q:Exit->TSt T.den->Prop):Exit->TSt T.den->Prop
 |.normal=>K|e=>Q e
def blockT(id:Nat)(Q:Exit->TSt T.den->Prop):Exit->TSt T.den->Prop
 |.exit B=>bif Nat.beq B id then Q .normal else Q (.exit B)|e=>Q e
def regW(C:Cx T)(N:Nat)(ops:Array Oper)(B:Bool)(s:TSt T.den)(K:TSt T.den->Prop):Prop:=match B with
 |false=>tOps T C N (ops.toList.map (·.dst)) ops.toList s K|true=>bif Region.lexB .any ops&&noItT s.h then tDs T C N (ops.toList.map (·.dst)) s.nx C.S (closeOps ops.toList) [] [] 0 ⟨s.sl,s.h,s.nx+ops.toList.length*C.S⟩ K else False
def WP(C:Cx T)(N B:Nat):Code->An T->TSt T.den->(Exit->TSt T.den->Prop)->Prop
 |.skip,_,s,Q=>Q .normal s|.region _ ops M,_,s,Q=>regW T C N ops M s (Q .normal)|.seq x _,.jn F J ga a _ _,s,Q=>ghs T ga s λs=>WP C N B x a s (thenT T (λs'=>F.mat T B s' J) Q)|.seq x y,an,s,Q=>ghs T an.ga s λs=>WP C N B x an.a s (thenT T (λs'=>ghs T an.gb s' λs'=>WP C N B y an.b s' Q) Q)|.cond c x y,an,s,Q=>match s.ev c with
  |.lit true=>ghs T an.ga s λs=>WP C N B x an.a s Q|.lit false=>ghs T an.gb s λs=>WP C N B y an.b s Q|.d .bool t=>(t=true->ghs T an.ga s λs=>WP C N B x an.a s Q)/\(t=false->ghs T an.gb s λs=>WP C N B y an.b s Q)|_=>False
 |.block id x,an,s,Q=>WP C N B x an s (blockT T id Q)|.loop _,.lp g F L _,s,_=>ghs T g s λs=>F.mat T B s λi=>Md.Loop i L|.exit id,_,s,Q=>Q (.exit id) s|.ret,an,s,Q=>ghs T an.ga s (Q .ret)|.label _,_,s,Q=>Q .normal s|_,_,_,_=>False
def Obl(C:Cx T)(N B:Nat):Code->An T->(Exit->TSt T.den->Prop)->Prop
 |.seq x y,.jn F J _ a gb b,Q=>Obl C N B x a (thenT T (λs'=>F.mat T B s' J) Q)/\(∀i,J i=ghs T gb (F.fill T i) λs'=>WP T C N B y b s' Q)/\Obl C N B y b Q|.seq x y,an,Q=>Obl C N B x an.a (thenT T (λs'=>ghs T an.gb s' λs'=>WP T C N B y an.b s' Q) Q)/\Obl C N B y an.b Q|.cond _ x y,an,Q=>Obl C N B x an.a Q/\Obl C N B y an.b Q|.block id x,an,Q=>Obl C N B x an (blockT T id Q)|.loop x,.lp _ F L a,Q=>(∀nx i,L nx i=WP T C N B x (a nx) (F.fill T i) (thenT T (λs'=>F.mat T B s' nx) Q))/\∀nx,Obl C N B x (a nx) (thenT T (λs'=>F.mat T B s' nx) Q)|_,_,_=>True
def resT(I:BT (TI T.den))(s:TSt T.den):List ResultVar->(List (TV T.den)->Prop)->Prop
 |[],K=>K []|.tmp t::r,K=>resT I s r λl=>K (getT s.sl t::l)|.cell t ty::r,K=>tLoad T (TI.of I ty) s.h (getT s.sl t) λv=>resT I s r λl=>K (v::l)
def retTV:List (TV T.den)->TV T.den
 |[x]=>x|l=>.tup l
def idEnv:Nat->List (Nat×Nat)
 |0=>[]|n+1=>(n,n)::idEnv n
def bdV(B:List (Nat×Nat)):Sh->TV T.den->List (Nat×Nat)
 |.one s,v=>bd0 B s v|.tup l,.tup vs=>bdT B l vs|_,_=>B
def selfB:Nat->Nat->Ln->Bool
 |0,_,_=>true|n+1,k,i::r=>Nat.beq i k&&selfB n (k+1) r|_+1,_,[]=>false
def noTupB:List (TV T.den)->Bool
 |[]=>true|.tup _::_=>false|_::r=>noTupB r
def retT(C:Cx T)(c:Con T.den)(F:List ResultVar)(o:HL T.den (hsV c.res (hsOs c.post)))(s:TSt T.den):Prop:=resT T C.ti s F λl=>match bdOs s.h 0 c.post (idEnv c.pre.length++bdV T [] c.res (retTV T l)) []with
  |none=>False|some ids=>match mtB s.h (rh ids) 0 c.post with
   |none=>False|some b=>bif c.okB&&nodupB ids&&allLt s.nx ids&&Nat.beq ids.length c.post.length&&selfB c.pre.length 0 ids&&noTupB T l then mtC (rh ids) (tkB c.post b) s.h 0 c.post (hsB c.post) b λB=>mtV (rh ids) (tkB c.post b) c.res (hsOs c.post) (retTV T l) B λx=>eqH (hsV c.res (hsOs c.post)) x o else False
def retTQ(C:Cx T)(c:Con T.den)(B:List ResultVar)(o:HL T.den (hsV c.res (hsOs c.post))):Exit->TSt T.den->Prop
 |.normal,s=>retT T C c B o s|.ret,s=>retT T C c B o s|_,_=>False
def initT:Nat->List (TV T.den)->List (Nat×TV T.den)
 |_,[]=>[]|k,x::r=>(k,x)::initT (k+1) r
def Con.st(c:Con T.den)(x:HL T.den (hsT c.ins (hsOs c.pre))):TSt T.den:=⟨initT T 0 (c.args idf x),hpN idf 0 (c.obs idf x),c.pre.length⟩
end
end Go.Cv
namespace Go.Bv
open Go.RowKit
def Wk(s s':St):Prop:=∀T G0 w0 N a G w,R T G0 w0 N s a G w->R T G0 w0 N s' a G w
theorem Wk.refl(s:St):Wk s s:=λ_ _ _ _ _ _ _ h=>h
theorem R.recells{T:Tk}{G0:Gh}{w0:World}{N:Nat}{a:Act}{G:Gh}{w:World}{sl:List (Nat×V)}{h:Hp}{nx id:Nat}{A B:List V}(Y:R T G0 w0 N ⟨sl,(id,.cells A)::h,nx⟩ a G w)(hl:leL A B):R T G0 w0 N ⟨sl,(id,.cells B)::h,nx⟩ a G w:=by
 have M:=Y.wr;have hg:Hp.get ((id,Ob.cells A)::h) id=some (.cells A):=by simp[Hp.get]
 have F:∀i,i≠id->Hp.get ((id,Ob.cells B)::h) i=Hp.get ((id,Ob.cells A)::h) i:=λi hi=>by simp[Hp.get,hi]
 have he:Ext G w ((id,.cells A)::h) nx G w ((id,.cells B)::h) nx:=by
  refine⟨Mono.refl _ _,qaf _,λ_ _ _ h=>h,λtok t' _ h1=>?_,λ_ _ h=>h⟩;by_cases hi:tok=id;.subst hi;simp[Hp.get]at h1
  grind
 have J:∀i,live ((id,Ob.cells B)::h) i->live ((id,Ob.cells A)::h) i:=by grind[ki,live_eq]
 refine⟨Y.fr,⟨?_,M.mob.ext he (λi es U=>?_) M.hid λ_ _ _ _ _=>rfl,M.here,λi k b hi hk h1 Z l1 l2=>M.inj i k b hi hk h1 Z (J i l1) (J k l2),?_,M.lim⟩,Y.df,Y.sz,λt=>(Y.sl t).ext he,Y.ex.ext he⟩
 .intro i l' X;by_cases hi:i=id
  .subst hi;simp[Hp.get]at X;subst X;obtain⟨q1,q2,q3⟩:=k37 hl;rcases M.obj i A hg with⟨z1,z2⟩|⟨b,e,cs,h1,Z,h3,h4,h5,h6⟩;.grind
   refine .inr ⟨b,e,cs,h1,Z,h3,by omega,q2,λk v z aa hz=>?_⟩;have hk:k<A.length:=by grind
   exact((h6 k v _ aa (qf hk)).le1 (by grind)).ext he
  .rw[F i hi]at X;rcases M.obj i l' X with h0|⟨b,e,cs,h1,Z,h3,h4,h5,h6⟩;.grind
   exact .inr ⟨b,e,cs,h1,Z,h3,h4,h5,λk v x hv hx=>(h6 k v x hv hx).ext he⟩
 .by_cases hi:i=id;.subst hi;simp[Hp.get]at U
  grind
 .intro i ob U;by_cases hi:i=id;.subst hi;exact M.hid _ _ hg
  .rw[F i hi]at U;exact M.hid _ _ U
theorem kvy{sl:List (Nat×V)}{h:Hp}{nx id:Nat}{A B:List V}(J:leL A B)(d:On)(x:V):Wk (St.put ⟨sl,(id,.cells A)::h,nx⟩ d x) (St.put ⟨sl,(id,.cells B)::h,nx⟩ d x):=by intro T G0 w0 N a G w F;cases d with
 |none=>exact F.recells J|some t=>exact R.recells (sl:=(t,x)::sl) F J
end Go.Bv
namespace Go.Cv
open Go Go.Bv Go.RowKit Go.Md
section
variable{T:Tab}{P:Program}
theorem k54:∀{l:List (TV T.den)},allOne l=true->∀v∈l,v.one=true
 |[],_,v,B=>by cases B|x::r,h,v,B=>by
  simp only[allOne,qh]at h;rcases qak.1 B with rfl|B;.exact h.1
  .exact k54 h.2 v B
theorem ktg{v:TV T.den}(B:v.one=true):(er1 T v).cells=[er1 T v]:=by have:=er1_one B;cases h:er1 T v<;>first|rfl|(rw[h]at this;cases this)
theorem k5s{x:TV T.den}(h:allOne x.cells=true):(er T x).cells=x.cells.map (er1 T)/\(er T x).flat x.cells.length:=by
 have e:(er T x).cells=x.cells.map (er1 T):=by cases x with
  |agg l=>rfl|tup l=>simp[TV.cells,allOne,TV.one]at h|_=>rfl
 refine⟨e,by grind,λc B=>?_⟩;grind[er1_one,k54]
theorem setL_er(l:List (TV T.den))(off:Nat)(cs:List (TV T.den)):(TV.setL l off cs).map (er1 T)=setAt (l.map (er1 T)) off (cs.map (er1 T)):=by simp only[TV.setL,setAt,qbj,qdc,qdd,qp]
theorem k2p{t:Ty}{v:TV T.den}{x:t.den T.den}(B:toEl2 t v=some x):er1 T v=.d (T.e t x)/\v.cells=[v]:=by
 unfold toEl2 at B;split at B;.obtain⟨rfl,rfl⟩:=Ty.cast_some B;exact⟨rfl,rfl⟩
 .cases B
theorem els_le{e:Ty}{v:TV T.den}{x:List (e.den T.den)}(B:els e v=some x):le1 (er1 T v) (.d (.slice (T.sz e) (List.map (T.e e) x)))/\v.cells=[v]:=by
 have h1:=(els_er B).1;have F:=(els_er B).2;refine⟨?_,by cases v<;>first|rfl|cases F⟩;generalize er1 T v=y at h1;unfold V.els at h1;split at h1;.grind[kc]
 .split at h1;.rename_i hs;injection h1 with h1;exact⟨hs,h1⟩
  .cases h1
 .split at h1;.rename_i hs;injection h1 with h1;exact⟨hs,h1⟩
  .cases h1
 .injection h1 with h1;exact h1.symm
 .cases h1
theorem kto{v:TV T.den}{b:Bool}(h:v.isB=some b):v.cells=[v]:=by cases v<;>first|rfl|cases h
theorem k46{t:Ty}{v:TV T.den}{x:t.den T.den}(B:toEl1 t v=some x):le1 (er1 T v) (.d (T.e t x))/\v.cells=[v]/\t.agg=false:=by cases t with
 |sl e=>exact⟨(els_le B).1,(els_le B).2,rfl⟩|bool=>exact⟨by rw[(isB_er B).1];exact kc _,kto B,rfl⟩|int k=>exact⟨by rw[(k2p B).1];exact kc _,(k2p B).2,rfl⟩|str=>exact⟨by rw[(k2p B).1];exact kc _,(k2p B).2,rfl⟩|st n=>cases B
theorem kpa{t:Ty}{v:TV T.den}{x:t.den T.den}(B:toEl1 t v=some x)(F:allD T [v]=true):er1 T v=.d (T.e t x):=by cases t with
 |sl e=>
  simp only[toEl1]at B;unfold els at B;split at B;.obtain⟨h1,J,_⟩:=kr B;show V.d (.slice _ _)=V.d (.slice _ _);rw[h1,J]
  .cases F
  .cases F
  .cases F
  .cases B|bool=>exact(isB_er B).1|int k=>exact(k2p B).1|str=>exact(k2p B).1|st n=>cases B
theorem k8h:∀{ts:List Ty}{vs:List (TV T.den)}{z:HL T.den ts},ts.all (λt=>!t.agg)=true->packL ts vs=some z->leL (vs.map (er1 T)) ((T.eL ts z).map .d)
 |[],[],_,_,_=>trivial|[],_::_,_,_,h=>by simp[packL]at h|_::_,[],_,_,h=>by simp[packL]at h|t::ts,v::vs,z,B,h=>by
  simp only[qen,qh,qbl]at B;simp only[packL]at h;split at h
  .rename_i x F;split at h;.rename_i y J;injection h with h;subst h;exact⟨⟨(k46 F).1,e_one B.1 _⟩,k8h B.2 J⟩
   .cases h
  .cases h
theorem kes:∀{ts:List Ty}{vs:List (TV T.den)}{z:HL T.den ts},packL ts vs=some z->allD T vs=true->vs.map (er1 T)=(T.eL ts z).map .d
 |[],[],_,_,_=>rfl|[],_::_,_,h,_=>by simp[packL]at h|_::_,[],_,h,_=>by simp[packL]at h|t::ts,v::vs,z,h,B=>by
  simp only[packL]at h;split at h
  .rename_i x F;split at h
   .rename_i y J;injection h with h;subst h;have h1:allD T [v]=true/\allD T vs=true:=by cases v<;>first|exact⟨rfl,B⟩|cases B
    simp only[qaj,Tab.eL,kpa F h1.1,kes J h1.2]
   .cases h
  .cases h
theorem k55{n:Nat}{v:TV T.den}{x:T.den n}(B:toElS T n v=some x):∃l z,v=.agg l/\packL (T.tys n) l=some z/\x=T.pack n z:=by
 unfold toElS at B;split at B;.rename_i l;cases F:packL (T.tys n) l with
  |none=>grind|some z=>grind
 .cases B
theorem toEl_le(J:T.Ok){e:Ty}{v:TV T.den}{x:e.den T.den}(F:toEl T e v=some x):leL (v.cells.map (er1 T)) ((T.e e x).cells.map .d):=by
 have B:∀{t:Ty}{x:t.den T.den},toEl1 t v=some x->leL (v.cells.map (er1 T)) ((T.e t x).cells.map .d):=by intro t x h;obtain⟨h1,U,M⟩:=k46 h;rw[U,e_cells M];exact⟨⟨h1,e_one M _⟩,trivial⟩
 cases e with
 |st n=>obtain⟨l,z,rfl,X,rfl⟩:=k55 F;show leL (l.map (er1 T)) ((T.enc n (T.pack n z)).cells.map .d);rw[J.en,J.pc];exact k8h (J.one n) X|sl e=>exact B (t:=.sl e) F|bool=>exact B (t:=.bool) F|int k=>exact B (t:=.int k) F|str=>exact B (t:=.str) F
theorem toEl_ex(J:T.Ok){e:Ty}{v:TV T.den}{x:e.den T.den}(F:toEl T e v=some x)(U:allD T v.cells=true):v.cells.map (er1 T)=(T.e e x).cells.map .d:=by
 have B:∀{t:Ty}{x:t.den T.den},toEl1 t v=some x->v.cells.map (er1 T)=(T.e t x).cells.map .d:=by intro t x h;obtain⟨_,X,Y⟩:=k46 h;grind[e_cells,kpa]
 cases e with
 |st n=>obtain⟨l,z,rfl,M,rfl⟩:=k55 F;show l.map (er1 T)=(T.enc n (T.pack n z)).cells.map .d;rw[J.en,J.pc];exact kes M U|sl e=>exact B (t:=.sl e) F|bool=>exact B (t:=.bool) F|int k=>exact B (t:=.int k) F|str=>exact B (t:=.str) F
theorem kk3(B:T.Ok){e:Ty}:∀(l:List (e.den T.den))k,k<=l.length->((l.map (T.e e)).flatMap D.cells).drop (k*T.sz e)=((l.drop k).map (T.e e)).flatMap D.cells
 |l,0,_=>by simp|[],k+1,h=>by simp at h|x::l,k+1,h=>by have hs:=(e_sz B e x).1;simp only[qaj,qbe];rw[List.drop_append,hs,qca,qcw];have F:List.drop (k*T.sz e+T.sz e) (T.e e x).cells=[]:=qas (by grind);rw[F,qcd,show k*T.sz e+T.sz e-T.sz e=k*T.sz e by omega];exact kk3 B l k qqh
theorem kbl(B:T.Ok){e:Ty}:∀(l:List (e.den T.den))k,k<=l.length->((l.map (T.e e)).flatMap D.cells).take (k*T.sz e)=((l.take k).map (T.e e)).flatMap D.cells
 |l,0,_=>by simp|[],k+1,h=>by simp at h|x::l,k+1,h=>by have hs:=(e_sz B e x).1;simp only[qaj,qbe,List.take_succ_cons];rw[qfb,hs,qca,qcw];have F:List.take (k*T.sz e+T.sz e) (T.e e x).cells=(T.e e x).cells:=ql (by omega);rw[F,show k*T.sz e+T.sz e-T.sz e=k*T.sz e by omega,kbl B l k qqh]
theorem kn8(hT:T.Ok){e:Ty}(l:List (e.den T.den))(i:Int)(h0:0<=i)(h1:i<l.length)(off:Nat)(cs:List V)(hc:off+cs.length<=T.sz e):setAt (((l.map (T.e e)).flatMap D.cells).map V.d) (i.toNat*T.sz e+off) cs=(((l.take i.toNat).map (T.e e)).flatMap D.cells).map V.d++setAt ((T.e e (@ix _ ⟨T.dflt e⟩ l i)).cells.map V.d) off cs++(((l.drop (i.toNat+1)).map (T.e e)).flatMap D.cells).map V.d:=by
 have hi:i.toNat<l.length:=by omega
 have hx:l=l.take i.toNat++@ix _ ⟨T.dflt e⟩ l i::l.drop (i.toNat+1):=by
  have:@ix _ ⟨T.dflt e⟩ l i=l[i.toNat]:=by simp[ix,hi]
  simp_all
 have hs:=(e_sz hT e (@ix _ ⟨T.dflt e⟩ l i)).1;have F:((((l.take i.toNat).map (T.e e)).flatMap D.cells).map V.d).length=i.toNat*T.sz e:=by grind[k1d,Nat.min_eq_left]
 have hB:(((T.e e (@ix _ ⟨T.dflt e⟩ l i)).cells).map V.d).length=T.sz e:=by grind
 generalize J:@ix _ ⟨T.dflt e⟩ l i=y at*;have M:((l.map (T.e e)).flatMap D.cells).map V.d=(((l.take i.toNat).map (T.e e)).flatMap D.cells).map V.d++((T.e e y).cells.map V.d++(((l.drop (i.toNat+1)).map (T.e e)).flatMap D.cells).map V.d):=by grind
 rw[M];generalize(((l.take i.toNat).map (T.e e)).flatMap D.cells).map V.d=A at*;generalize(T.e e y).cells.map V.d=B at*;simp only[setAt];rw[<-F];simp only[qfb,List.drop_append,ql (qdw A.length off),qn];have U:A.length+off-A.length=off:=by omega
 have X:off-B.length=0:=by omega
 have Y:List.drop (A.length+off+cs.length) A=[]:=qas qqo;have Z:A.length+off+cs.length-A.length=off+cs.length:=by omega
 have e5:off+cs.length-B.length=0:=by omega
 rw[U,X,Y,Z,e5];simp
theorem erH_app(a b:THp T.den):erH T (a++b)=erH T a++erH T b:=qbj
theorem erS_put(s:TSt T.den)(d:On)(v:TV T.den):erS T (s.put d v)=(erS T s).put d (er T v):=by cases d<;>rfl
def Goes(T:Tab)(s:TSt T.den)(d:On)(K:TV T.den->THp T.den->Nat->Prop)(B:St):Prop:=∃v hu nf,K v hu nf/\Wk B (erS T (TSt.put ⟨s.sl,hu++s.h,s.nx+nf⟩ d v))
theorem Goes.of{s:TSt T.den}{d:On}{K:TV T.den->THp T.den->Nat->Prop}{F:St}{v:TV T.den}{B:THp T.den}{nf:Nat}(J:K v B nf)(e:F=St.put ⟨(erS T s).sl,erH T B++erH T s.h,s.nx+nf⟩ d (er T v)):Goes T s d K F:=by
 refine⟨v,B,nf,J,?_⟩;rw[erS_put,e];have:erS T ⟨s.sl,B++s.h,s.nx+nf⟩=⟨(erS T s).sl,erH T B++erH T s.h,s.nx+nf⟩:=by simp only[erS,erH_app]
 grind[Wk.refl]
theorem Goes.weak{s:TSt T.den}{d:On}{K:TV T.den->THp T.den->Nat->Prop}{F:St}{v:TV T.den}{id:Nat}{o:TOb T.den}{nf:Nat}{A B:List V}(J:K v [(id,o)] nf)(e:F=St.put ⟨(erS T s).sl,(id,.cells A)::erH T s.h,s.nx+nf⟩ d (er T v))(M:erO T o=.cells B)(U:leL A B):Goes T s d K F:=by
 refine⟨v,_,nf,J,?_⟩;rw[erS_put,e];have:erS T ⟨s.sl,[(id,o)]++s.h,s.nx+nf⟩=⟨(erS T s).sl,(id,.cells B)::erH T s.h,s.nx+nf⟩:=by simp only[erS];show St.mk _ ((id,erO T o)::erH T s.h) _=_;rw[M]
 grind[kvy]
theorem kpy(t:Ty)(v:t.den T.den)(i:Int):∀l k j,(setI T t v i k l)[j]?=l[j]?.map λx=>TV.d t (bif decide (i=(k+j:Nat))then v else x)
 |[],_,_=>by simp[setI]|x::l,k,0=>by simp[setI]|x::l,k,j+1=>by simp only[setI,qbc];rw[kpy t v i l (k+1) j,show k+1+j=k+(j+1)by omega]
theorem kps(t:Ty)(v:t.den T.den)(i:Int):∀l k,(setI T t v i k l).length=l.length
 |[],_=>rfl|x::l,k=>by simp only[setI,qx,kps t v i l (k+1)]
theorem stA_snd{K:List (TV T.den)->Prop}{i:Int}{x:TV T.den}{l:List (TV T.den)}(h:stA T K i x l)(h0:0<=i)(h1:i<l.length):∃cs,K cs/\cs.length=l.length/\cs.map (er1 T)=(l.map (er1 T)).set i.toNat (er1 T x):=by
 unfold stA at h;split at h;.rename_i t y r;cases M:t.agg with
  |true=>grind|false=>
   rw[M]at h;split at h
   .rename_i B t' v F U;split at h
    .rename_i v' X;obtain⟨rfl,rfl⟩:=Ty.cast_some X;have Y:=colT_eq F;subst Y;have Z:TV.d t' y::B.map (TV.d t')=(y::B).map (TV.d t'):=rfl;rw[Z]at h1⊢;rw[qp]at h1;refine⟨_,h,by rw[kps,qp],?_⟩;have ex:er1 T x=.d (T.e t' v):=by
      have e1:er1 T x.toB=er1 T x:=by cases x<;>rfl
      rw[<-e1,U];rfl
     refine qdg λj=>?_;rw[qr,kpy,qef,qr,qr,ex];by_cases hj:i.toNat=j
     .subst hj;have J:i.toNat<(y::B).length:=by omega
      rw[qg rfl,qg (by grind),qf J];simp only[qav];rw[show decide (i=i.toNat)=true by simp;omega];rfl
     grind
    grind
   grind
 grind
theorem kt1(l:List V)(off m i:Nat)(x:V)(h:off+m<=l.length)(hi:i<m):setAt l off (((l.drop off).take m).set i x)=setAt l (off+i) [x]:=by
 refine qdg λj=>?_;have B:(((l.drop off).take m).set i x).length=m:=by simp;omega
 unfold setAt;rw[getElem?_splice _ _ _ _ (by grind),getElem?_splice _ _ _ _ qqm,B];grind
theorem ktx{x:TV T.den}(h:allOne x.cells=true):(er T x).cells.length=x.cells.length:=by rw[(k5s h).1,qp]
theorem leL_mid{a b:List V}(h:∀x∈a,x.one=true)(J:∀x∈b,x.one=true){c d:List V}(M:leL c d):leL (a++c++b) (a++d++b):=by
 have ap:∀{a b c d:List V},leL a b->leL c d->leL (a++c) (b++d):=by intro a;induction a with
  |nil=>intro b c d h1 B;cases b with
   |nil=>exact B|cons _ _=>exact h1.elim
  |cons x a F=>intro b c d h1 B;cases b with
   |nil=>exact h1.elim|cons y b=>exact⟨h1.1,F h1.2 B⟩
 exact ap (ap (k69 a h) M) (k69 b J)
theorem khx(M:T.Ok){e:Ty}(l:List (e.den T.den)):∀x∈((l.map (T.e e)).flatMap D.cells).map V.d,x.one=true:=by intro x F;obtain⟨d,B,rfl⟩:=qap.1 F;obtain⟨y,J,B⟩:=qdv.1 B;exact(map_sz M l y J).2 d B
theorem kb4{l:List V}{p:Nat}(v:V)(h:p<l.length):setAt l p [v]=l.set p v:=by unfold setAt;rw[qeg,qg h];simp
theorem khv(hT:T.Ok){t:TypeId}{ti:TI T.den}(hx:TI.Ok P T t ti){dr:Bool}{h:THp T.den}{a x:TV T.den}{K:TV T.den->THp T.den->Nat->Prop}(hh:tStore T ti dr h a x K):∃id off l g n o,K .any [(id,o)] 0/\er T a=.ptr id off/\(erH T h).get id=some (.cells l)/\tyOf P t=some (g,n)/\(er T x).flat n/\off+n<=l.length/\(erO T o=.cells (setAt l off (er T x).cells)∨dr=false/\∃B,erO T o=.cells B/\leL (setAt l off (er T x).cells) B):=by
 unfold tStore at hh;split at hh;.grind
 .rename_i g n M;obtain⟨h1,U⟩:=cnd hh;simp only[qh]at h1;obtain⟨hn,X⟩:=h1;have hn:=nb_eq hn;subst hn;obtain⟨c1,c2⟩:=k5s X;split at U
  .rename_i id off;split at U;.rename_i l hg;obtain⟨Z,Y⟩:=cnd U;refine⟨id,off,l.map (er1 T),g,_,_,Y,rfl,getE hg,hx.ty _ M,c2,by simp_all,.inl ?_⟩;show Ob.cells ((TV.setL l off x.cells).map (er1 T))=_;rw[setL_er,c1]
   grind
  .rename_i id off m i;split at U
   .rename_i l hg;obtain⟨Z,⟨Y,h5⟩,F⟩:=cnd U;simp only[qh]at Z;have ah:=nb_eq Z.1;have J:=ble_le Z.2;have ag:((l.drop off).take m).length=m:=by simp;omega
    obtain⟨cs,k1,k2,k3⟩:=stA_snd F Y (by grind);have ai:x.cells=[x]:=by cases x with
     |agg l=>
      exfalso;unfold stA at F;split at F;.rename_i t y r _;cases ab:t.agg with
       |true=>grind|false=>
        rw[ab]at F;simp only[qcc]at F;split at F;.rename_i hv;cases hv
        .exact F
      .exact F|_=>rfl
    refine⟨id,off+i.toNat,l.map (er1 T),g,_,_,k1,rfl,getE hg,hx.ty _ M,c2,by grind,.inl ?_⟩;show Ob.cells ((TV.setL l off cs).map (er1 T))=_;grind[setL_er,List.map_take,List.map_drop,kt1,List.length_map]
   grind
  .rename_i id e i off;split at U
   .rename_i e' l hg;obtain⟨Z,Y⟩:=cnd U;simp only[qh]at Z;obtain⟨⟨he,J⟩,aj⟩:=Z;have he:=Ty.eq_of_beq he;subst he;have J:=ble_le J;split at Y
    .rename_i y hy;obtain⟨⟨h5,F⟩,h7⟩:=Y;have aa:=getE hg;have hm:(i.toNat+1)*T.sz e<=l.length*T.sz e:=qbh _ qqo;rw[qca,qcw]at hm;refine⟨id,i.toNat*T.sz e+off,_,g,_,_,h7,rfl,aa,hx.ty _ M,c2,by rw[qp,k1d hT];omega,?_⟩;have hi:i.toNat<l.length:=by omega
     have e1:erO T (.vec e (l.set i.toNat y))=.cells ((((l.take i.toNat).map (T.e e)).flatMap D.cells).map V.d++(T.e e y).cells.map V.d++(((l.drop (i.toNat+1)).map (T.e e)).flatMap D.cells).map V.d):=by show Ob.cells ((((l.set i.toNat y).map (T.e e)).flatMap D.cells).map V.d)=_;rw[qeg,qg hi];grind
     rw[kn8 hT l i h5 F off _ (by grind),e1];have ac:leL (setAt ((T.e e (@ix _ ⟨T.dflt e⟩ l i)).cells.map V.d) off (er T x).cells) ((T.e e y).cells.map V.d)/\(allD T x.cells=true->setAt ((T.e e (@ix _ ⟨T.dflt e⟩ l i)).cells.map V.d) off (er T x).cells=(T.e e y).cells.map V.d):=by cases ha:e.agg with
      |true=>
       rw[ha]at hy;simp only[qdr]at hy;have q:(TV.agg (TV.setL ((tcells T e (@ix _ ⟨T.dflt e⟩ l i)).map TD.v) off x.cells)).cells.map (er1 T)=setAt ((T.e e (@ix _ ⟨T.dflt e⟩ l i)).cells.map V.d) off (er T x).cells:=by show(TV.setL ((tcells T e (@ix _ ⟨T.dflt e⟩ l i)).map TD.v) off x.cells).map (er1 T)=_;rw[setL_er,k97 hT,c1]
       refine⟨by grind[toEl_le],λhd=>by
        rw[<-q];refine toEl_ex hT hy ?_;have ak:∀(a b:List (TV T.den)),allD T a=true->allD T b=true->allD T (a++b)=true:=by intro a;induction a with
         |nil=>grind|cons v a ih=>intro b h1 U;cases v<;>first|exact ih b h1 U|cases h1
        have al:∀(l:List (TD T.den)),allD T (l.map TD.v)=true:=by intro l;induction l with
         |nil=>rfl|cons d l ih=>exact ih
        show allD T (TV.setL ((tcells T e (@ix _ ⟨T.dflt e⟩ l i)).map TD.v) off x.cells)=true;unfold TV.setL;rw[<-qdc,<-qdd];grind⟩|false=>
       rw[ha]at hy;simp only[qcc]at hy;have hs1:=sz_one (T:=T) ha;have am:(er T x).cells.length=x.cells.length:=ktx X;have q:setAt ((T.e e (@ix _ ⟨T.dflt e⟩ l i)).cells.map V.d) off (er T x).cells=x.cells.map (er1 T):=by
        have ao:0<x.cells.length:=by have:=toEl_le hT hy;rw[e_cells ha]at this;cases hq:x.cells with
         |nil=>rw[hq]at this;exact this.elim|cons _ _=>simp
        have ho:off=0:=by omega
        have ad:x.cells.length=1:=by omega
        subst ho;rw[e_cells ha,c1];simp[setAt,ad]
       grind[toEl_le,toEl_ex]
     cases dr with
     |false=>grind[leL_mid,khx]|true=>grind
    .split at Y;.rename_i ae re m _ _;obtain⟨⟨h5,F⟩,h7⟩:=Y;have aa:(erH T h).get id=some (.cells (((l.map (T.e e)).flatMap D.cells).map V.d)):=getE hg;have hm:(i.toNat+1)*T.sz e<=l.length*T.sz e:=qbh _ qqo;rw[qca,qcw]at hm;have J:off+1<=T.sz e:=J;refine⟨id,i.toNat*T.sz e+off,_,g,_,_,h7,rfl,aa,hx.ty _ M,c2,by grind[List.length_map,k1d],.inl ?_⟩;show _=Ob.cells (setAt _ _ [V.row ae 0 m (T.sz re)]);rw[kb4 _ (by rw[qp,k1d hT];omega)];rfl
     grind
   grind
  grind
theorem kc2{pl:List (Nat×Nat)}{K:List (TV T.den)->Prop}:∀ps l,tFill T pl K l ps->∃F,K F/\fillOk pl (l.map (er1 T)) (ps.map λp=>(p.1,er T p.2))/\fillR pl (l.map (er1 T)) (ps.map λp=>(p.1,er T p.2))=F.map (er1 T)
 |[],l,h=>⟨l,h,trivial,rfl⟩|p::r,l,h=>by
  simp only[tFill]at h;split at h
  .rename_i off n M;obtain⟨h1,X⟩:=cnd h;simp at h1;obtain⟨⟨J,B⟩,Y⟩:=h1;obtain⟨Z,c2⟩:=k5s B;obtain⟨F,g1,g2,U⟩:=kc2 r _ X;rw[setL_er,<-Z]at g2 U;refine⟨F,g1,?_,?_⟩;.simp only[qaj,fillOk];simp_all
   .simp only[qaj,fillR,M];exact U
  grind
def notK:TV T.den->Bool
 |.k _=>false|_=>true
theorem toEl1_D{t:Ty}{v:TV T.den}{x:t.den T.den}(B:toEl1 t v=some x)(J:notK v=true):(er1 T v).toD1=some (T.e t x):=by cases t with
 |sl e=>
  simp only[toEl1]at B;unfold els at B;split at B;.obtain⟨h1,F,_⟩:=kr B;show some (D.slice _ _)=some (D.slice _ _);rw[h1,F]
  .obtain⟨h1,F,_⟩:=kr B;show some (D.slice _ _)=some (D.slice _ _);rw[h1,F]
  .obtain⟨h1,F,_⟩:=kr B;show some (D.slice _ _)=some (D.slice _ _);rw[h1,F]
  .cases J
  .cases B|bool=>rw[(isB_er B).1];rfl|int k=>rw[(k2p B).1];rfl|str=>rw[(k2p B).1];rfl|st n=>cases B
theorem packL_D:∀{ts:List Ty}{vs:List (TV T.den)}{z:HL T.den ts},packL ts vs=some z->(∀v∈vs,notK v=true)->(vs.map (er1 T)).mapM V.toD1=some (T.eL ts z)
 |[],[],_,_,_=>rfl|[],_::_,_,h,_=>by simp[packL]at h|_::_,[],_,h,_=>by simp[packL]at h|t::ts,v::vs,z,h,B=>by
  simp only[packL]at h;split at h
  .rename_i x F;split at h;.rename_i y J;injection h with h;subst h;have h1:=toEl1_D F (B v qqs);have M:=packL_D J λu U=>B u (by simp[U]);rw[qaj,qfm,h1,M];rfl
   .cases h
  .cases h
theorem toEl_D(Y:T.Ok){e:Ty}{v:TV T.den}{x:e.den T.den}(J:toEl T e v=some x)(Z:noK T v=true):(er T v).toD=some (T.e e x):=by
 have B:∀{t:Ty}{x:t.den T.den},toEl1 t v=some x->(er T v).toD=some (T.e t x):=by
  intro t x h;have M:notK v=true:=by cases v<;>first|rfl|cases Z
  have F:=toEl1_D h M;have U:∀l,v≠.agg l:=by intro l X;subst X;cases F
  have aa:∀l,v≠.tup l:=by intro l X;subst X;cases F
  have e1:er T v=er1 T v:=by cases v<;>first|rfl|exact(U _ rfl).elim|grind
  rw[e1];cases hy:er1 T v<;>rw[hy]at F<;>first|exact F|cases F
 cases e with
 |st n=>
  obtain⟨l,z,rfl,hp,rfl⟩:=k55 J;show((l.map (er1 T)).mapM V.toD1).map D.agg=some (T.enc n (T.pack n z));rw[packL_D hp (λv hv=>by have:=qbq.1 Z v hv;cases v<;>first|rfl|cases this),Y.en,Y.pc];rfl|sl e=>exact B (t:=.sl e) J|bool=>exact B (t:=.bool) J|int k=>exact B (t:=.int k) J|str=>exact B (t:=.str) J
theorem toEls_D(F:T.Ok){e:Ty}:∀{vs:List (TV T.den)}{l:List (e.den T.den)},toEls T e vs=some l->vs.all (noK T)=true->toDs (vs.map (er T))=some (l.map (T.e e))/\l.length=vs.length
 |[],l,h,_=>by simp only[toEls,qaq]at h;subst h;exact⟨rfl,rfl⟩|v::vs,l,h,B=>by
  simp only[qen,qh]at B;simp only[toEls]at h;split at h
  .rename_i x J;split at h;.rename_i y M;injection h with h;subst h;obtain⟨U,X⟩:=toEls_D F M B.2;refine⟨?_,by simp[X]⟩;rw[qaj,r_toDs1,toEl_D F J B.1,U];rfl
   .cases h
  .cases h
theorem kk8(B:T.Ok){e:Ty}:∀(l:List (e.den T.den)),sizesOk (T.sz e) (l.map (T.e e))
 |[]=>trivial|x::l=>⟨(e_sz B e x).1,kk8 B l⟩
theorem kks:∀{l:Ln}{k n:Nat},rangeB k l=true->l.length=n->l=(List.range n).map (k+·)
 |[],k,n,_,B=>by grind|i::r,k,n,h,B=>by simp only[rangeB,qh]at h;cases n with
  |zero=>simp at B|succ n=>rw[kks (n:=n) h.2 (by grind),nb_eq h.1,List.range_succ_eq_map];congr 1;grind[List.map_congr_left]
theorem kof{a b:List V}(h:leL a b):∀n,leL (List.replicate n a).flatten (List.replicate n b).flatten
 |0=>trivial|n+1=>by
  have ap:∀{a b c d:List V},leL a b->leL c d->leL (a++c) (b++d):=by intro a;induction a with
   |nil=>intro b c d h1 B;cases b with
    |nil=>exact B|cons _ _=>exact h1.elim
   |cons x a F=>intro b c d h1 B;cases b with
    |nil=>exact h1.elim|cons y b=>exact⟨h1.1,F h1.2 B⟩
  exact ap h (kof h n)
theorem zrow_eq(n:Nat)(B:List V):zrow n B=(List.replicate n B).flatten:=by
 unfold zrow;split;.simp_all
 .rfl
theorem kb1{e:Ty}(x:e.den T.den):∀n,(((List.replicate n x).map (T.e e)).flatMap D.cells).map V.d=(List.replicate n ((T.e e x).cells.map V.d)).flatten
 |0=>rfl|n+1=>by simp only[qep,qaj,qbe,qbj,qfp,kb1 x n]
theorem k8b(U:T.Ok){h:THp T.den}{e:Ty}{y:TV T.den}{K:List (e.den T.den)->Prop}(B:srcE T h e y K):∃m,K m/\srcV (erH T h) (T.sz e) (er T y) (m.map (T.e e)):=by
 unfold srcE at B;split at B
 .rename_i id X n;split at B
  .rename_i Y l F;obtain⟨h1,B⟩:=cnd B;obtain rfl:=Ty.eq_of_beq h1;split at B;.rename_i Z J;obtain⟨rfl,rfl⟩:=Ty.cast_some J;obtain⟨rfl,M⟩:=B;refine⟨_,M,.inr ⟨id,0,l.length,l.map (T.e _),?_,getE F,map_sz U l,by simp,by simp[ql]⟩⟩;simp only[er,er0,er1,Nat.zero_mul]
   grind
  grind
 .rename_i id X off n;split at B
  .rename_i Y l F;obtain⟨h1,B⟩:=cnd B;obtain rfl:=Ty.eq_of_beq h1;split at B;.rename_i Z J;obtain⟨rfl,rfl⟩:=Ty.cast_some J;obtain⟨h2,M⟩:=B;exact⟨_,M,.inr ⟨id,off,n,l.map (T.e _),rfl,getE F,map_sz U l,by grind,by simp_all⟩⟩
   grind
  grind
 .split at B;.rename_i m hm;exact⟨m,B,.inl (els_erS hm)⟩
  grind
theorem isE_er{e:Ty}{v:TV T.den}(h:isE e v=true):emptyV (T.sz e) (er T v)/\v.one=true:=by
 unfold isE at h;split at h;.rw[Ty.eq_of_beq h];exact⟨.inr rfl,rfl⟩
 .rw[k28 h];exact⟨.inl rfl,rfl⟩
 .cases h
theorem kdg(X:T.Ok){t:TypeId}{e:Ty}{U M id:Nat}{h:THp T.den}{x y:TV T.den}{l F m:List (e.den T.den)}{K:TV T.den->THp T.den->Nat->Prop}(J:rowOf P t=some (T.sz e,U))(hs:srcV (erH T h) (T.sz e) (er T y) (m.map (T.e e)))(Z:er T x=.row id 0 l.length (T.sz e))(hg:getH h id=some (.vec e F))(hl:l=F.take l.length)(hh:tAppRow T e U M id l m K):∃v hu,K v hu 1/\appRowE P (erH T h) M t (er T x) (er T y) (er T v) (erH T hu):=by
 obtain⟨h1,h2,Y⟩:=hh;have B:l.length<=F.length:=by grind
 refine⟨_,_,Y,T.sz e,U,m.map (T.e e),J,hs,.inl ⟨id,l.length,((F.map (T.e e)).flatMap D.cells).map V.d,Z,getE hg,?_,by grind,by grind,?_,?_⟩⟩;.rw[qp,k1d X];exact qbh _ B
 .show[(M,Ob.cells _),(id,Ob.dead)]=[(M,Ob.cells _),(id,Ob.dead)];rw[<-qdc,kbl X F _ B,<-hl,<-qbj,<-qbp,<-qbj]
 .simp[er,er0,er1]
theorem k9q(Y:T.Ok){t:TypeId}{ti:TI T.den}(hx:TI.Ok P T t ti){dr rw:Bool}{fr:Nat}{h:THp T.den}{x y:TV T.den}{K:TV T.den->THp T.den->Nat->Prop}(F:tAppend T ti dr rw fr h x y K):(∃v hu,K v hu 1/\appRowE P (erH T h) fr t (er T x) (er T y) (er T v) (erH T hu))∨∃e X m,ti.el=some (e,X)/\els e y=some m/\tAppOwn T e X dr fr h x m K:=by
 unfold tAppend at F;split at F;.grind
 .rename_i e X aa;have B:=(hx.el _ _ aa).2;cases hc:rw&&isE e x with
  |true=>rw[hc]at F;simp only[qh]at hc;obtain⟨m,⟨h1,h2,h3⟩,hs⟩:=k8b Y F;refine .inl ⟨_,_,h3,T.sz e,X,m.map (T.e e),B,hs,.inr (.inl ⟨(isE_er hc.2).1,by grind,by grind,rfl,by simp[er,er0,er1]⟩)⟩|false=>rw[hc]at F;simp only[qcc]at F;cases Z:dr&&isF x with
   |true=>
    rw[Z]at F;obtain⟨m,M,hs⟩:=k8b Y F;unfold tAppData at M;split at M
    .rename_i e' l;split at M;.rename_i l' hl;obtain⟨rfl,rfl⟩:=Ty.cast_some hl;obtain⟨h1,h2,h3⟩:=M;exact .inl ⟨_,_,h3,T.sz e',X,m.map (T.e e'),B,hs,.inr (.inr ⟨l.map (T.e e'),.inr rfl,by grind,by grind,rfl,by simp[er,er0,er1,Tab.e]⟩)⟩
     grind
    .rename_i v;obtain⟨h1,h2,h3,h4⟩:=cnd M;rw[k28 h1];exact .inl ⟨_,_,h4,T.sz e,X,m.map (T.e e),B,hs,.inr (.inr ⟨[],.inl ⟨rfl,rfl⟩,by grind,by grind,rfl,by simp[er,er0,er1,Tab.e]⟩)⟩
    grind|false=>
   rw[Z]at F;simp only[qcc]at F;split at F
   .rename_i id e0 n;split at F
    .rename_i e' l hg;obtain⟨h1,J⟩:=cnd F;clear F;obtain rfl:=Ty.eq_of_beq h1;split at J;.rename_i l' hl;obtain⟨rfl,rfl⟩:=Ty.cast_some hl;obtain⟨rfl,U⟩:=J;obtain⟨m,M,hs⟩:=k8b Y U;exact .inl (kdg Y B hs rfl hg (qcb).symm M)
     grind
    grind
   .rename_i id e0 off n;split at F
    .rename_i e' l hg;obtain⟨h1,J⟩:=cnd F;clear F;obtain rfl:=Ty.eq_of_beq h1;split at J
     .rename_i l' hl;obtain⟨rfl,rfl⟩:=Ty.cast_some hl;obtain⟨rfl,hn,U⟩:=J;replace hn:=hn;obtain⟨m,M,hs⟩:=k8b Y U;have e1:(l.take n).length=n:=by grind
      refine .inl (kdg (l:=l.take n) Y B hs ?_ hg ?_ M);.rw[e1];simp[er,er0,er1]
      .rw[e1]
     grind
    grind
   grind
theorem kqz(hT:T.Ok){t:TypeId}{ti:TI T.den}(hx:TI.Ok P T t ti){s:TSt T.den}{rw:Bool}{x y:TV T.den}{d:On}{K:TV T.den->THp T.den->Nat->Prop}(h:tAppend T ti false rw s.nx s.h x y K):appOk P (erS T s) t (er T x) (er T y)/\Goes T s d K (appS P (erS T s) t (er T x) (er T y) d)∨appRowA P (erS T s) t (er T x) (er T y) d (Goes T s d K):=by
 rcases k9q (P:=P) hT hx h with⟨v,hu,X,ha⟩|⟨e,bt,m,Y,hm,B⟩;.exact .inr ⟨er T v,erH T hu,ha,Goes.of X rfl⟩
 refine .inl ?_;have ac:=(hx.el _ _ Y).2;have Z:rowD P t=(T.sz e,bt):=by unfold rowD;grind
 obtain⟨y1,y2⟩:=k60 hm;have F:∀{l:List (e.den T.den)}{k nf:Nat},growA (erS T s) (T.sz e) (er T x)=some (k,s.nx+nf,l.map (T.e e))->(l.length+m.length)*bt<=140737488355328->l.length+m.length<=maxLen->K (.own k e (l++m)) [(k,.tip e (l++m))] nf->appOk P (erS T s) t (er T x) (er T y)/\Goes T s d K (appS P (erS T s) t (er T x) (er T y) d):=by
  intro l k nf hg h1 J X;have aa:growD (erS T s) (T.sz e) (er T x)=(k,s.nx+nf,l.map (T.e e)):=by unfold growD;rw[hg];rfl
  refine⟨⟨by grind,by grind,by grind,?_,?_⟩,?_⟩;.grind
  .grind
  .refine Goes.of X ?_;unfold appS;rw[Z];simp only[aa,y1,qp];show St.put ⟨_,(k,.tip (l.length+m.length))::_,_⟩ d _=St.put ⟨_,(k,.tip (l++m).length)::_,_⟩ d _;rw[qi];congr 1;show V.own k (T.sz e) _=V.own k (T.sz e) _;grind
 clear h;unfold tAppOwn at B;split at B
 .rename_i tok e0 l0;split at B
  .rename_i e1 l' hg;split at B;.rename_i l hl;obtain⟨h1,J,U,M⟩:=B;obtain⟨c1,c2,c3⟩:=kr hl;refine F (l:=l) (k:=tok) (nf:=0) ?_ J U M;show growA (erS T s) (T.sz e) (.own tok (T.sz e0) (l0.map (T.e e0)))=_;rw[c1,c2];have ab:(erS T s).h.get tok=some (.tip l'.length):=getE hg;simp only[growA,qcj,ab,qp];rw[qg h1];rfl
   grind
  grind
 .rename_i e' l0;split at B;.rename_i l _ hl;obtain⟨J,U,M⟩:=B;obtain⟨c1,c2,c3⟩:=kr hl;refine F (l:=l) (k:=s.nx) (nf:=1) ?_ J U M;show growA (erS T s) (T.sz e) (.full (T.sz e') (l0.map (T.e e')))=_;rw[c1,c2];simp only[growA,qcj];rfl
  grind
 .rename_i v;obtain⟨h1,J,U,M⟩:=cnd B;have hv:=k28 h1;subst hv;exact F (l:=[]) (k:=s.nx) (nf:=1) rfl (by grind) (by grind) M
 grind
theorem kt3(Y:T.Ok){t:TypeId}{ti:TI T.den}(hx:TI.Ok P T t ti){s:TSt T.den}{x y:TV T.den}{d:On}{K:TV T.den->THp T.den->Nat->Prop}(h:tCopy T ti s.h x y K):copyOk P t (erS T s).h (er T x) (er T y)/\Goes T s d K (St.put ⟨(erS T s).sl,copyH (erS T s).h (er T x) (er T y),(erS T s).nx⟩ d (copyN (er T x) (er T y))):=by
 unfold tCopy at h;split at h;.exact h.elim
 .rename_i e bt J;have Z:=(hx.el _ _ J).2;have aa:rowD P t=(T.sz e,bt):=by unfold rowD;grind
  split at h
  .rename_i id B n;split at h
   .rename_i e' l hg;split at h
    .rename_i m hm;obtain⟨h1,rfl,h3⟩:=cnd h;simp only[qh]at h1;have M:=Ty.eq_of_beq h1.1;have U:=Ty.eq_of_beq h1.2;subst M;subst U;obtain⟨y1,y2⟩:=k60 hm;have F:(erS T s).h.get id=some (.cells (((l.map (T.e B)).flatMap D.cells).map V.d)):=getE hg;refine⟨⟨by grind,y2,?_⟩,Goes.of h3 ?_⟩;.rw[F];show 0+l.length*T.sz B<=_;rw[qp,k1d Y];omega
     .show St.put ⟨_,copyO (erS T s).h id 0 l.length ((er T y).elsD (T.sz B)) ((erS T s).h.get id),_⟩ d (.d (.int .i64 (min ((er T y).elsD (T.sz B)).length l.length:Nat)))=_;rw[F,y1];simp only[copyO,qp];congr 1;show St.mk _ ((id,_)::_) _=St.mk _ ((id,Ob.cells _)::_) _;congr 3;unfold rowOver setAt;have hk:min m.length l.length<=l.length:=Nat.min_le_right ..;have X:min m.length l.length<=m.length:=Nat.min_le_left ..;have hd:=kk3 Y l (min m.length l.length) hk;have M:(List.take (min m.length l.length) (List.map (T.e B) m)).flatMap D.cells=((m.take (min m.length l.length)).map (T.e B)).flatMap D.cells:=by simp_all
      have U:(((m.take (min m.length l.length)).map (T.e B)).flatMap D.cells).length=min m.length l.length*T.sz B:=by rw[k1d Y,qu,qcf X]
      rw[qp,M,U,List.take_zero,qcd,qav,<-qdd,hd,<-qbj,<-qbp,<-qbj]
    grind
   grind
  grind
theorem kti{t:TypeId}{ti:TI T.den}(hx:TI.Ok P T t ti){s:TSt T.den}{co:Operand}{x y:TV T.den}{d:On}{K:TV T.den->THp T.den->Nat->Prop}(h:tMake T ti s.nx co x y K):mkOk P t (er T x) (er T y)/\Goes T s d K (St.put ⟨(erS T s).sl,((erS T s).nx,.cells (zrow (natOf (er T x)) (elZD P t)))::(erS T s).h,(erS T s).nx+1⟩ d (.row (erS T s).nx 0 (natOf (er T x)) (rowD P t).1)):=by
 unfold tMake at h;split at h
 .rename_i e Y k n k' c B F J M;obtain⟨h1,h2,Z⟩:=h;obtain⟨Z,U⟩:=ask_and Z;obtain⟨U,h5⟩:=ask_and U;have aa:=(hx.el _ _ B).2;have X:rowD P t=(T.sz e,Y):=by unfold rowD;grind
  obtain⟨zs,z1,z2⟩:=hx.ez F e Y B;rw[asI_eq J,asI_eq M];refine⟨⟨by grind,h1,h2,by grind,U⟩,?_⟩;refine Goes.weak (A:=zrow n.toNat zs) h5 ?_ (by show Ob.cells _=_;rw[kb1]) ?_;.rw[X];unfold elZD;rw[z1];rfl
  grind[zrow_eq,kof]
 grind
theorem kvp{t:TypeId}{ti:TI T.den}(hx:TI.Ok P T t ti){op:BinOp}{x:TV T.den}{K:TV T.den->Prop}(h:tNil T op ti x K):(∃b,nilMay (er T x)∨b=false)/\isSl (P.underlying t)/\nilOk (er T x)/\∀b,(b=true->nilMay (er T x))->∃u,K u/\isEq op/\aggV op b=er T u:=by
 unfold tNil at h;split at h
 .rename_i e bt Y;have hs:=el_sl (hx.el _ _ Y).1;have F:isSl (P.underlying t):=by cases hu:P.underlying t with
   |none=>rw[hu]at hs;exact hs|some u=>rw[hu]at hs;cases u<;>trivial
  split at h;.exact h.elim
  .exact⟨⟨false,.inr rfl⟩,F,trivial,λb X=>k44 (h b λJ=>X J)⟩
  .exact⟨⟨false,.inr rfl⟩,F,trivial,λb X=>k44 (h b λJ=>X J)⟩
  .rename_i hk Z aa;cases B:els e x with
   |none=>grind|some l=>
    have M:nilOk (er T x)/\(nilMay (er T x)->l=[]):=by
     unfold els at B;split at B;.obtain⟨_,c2,c3⟩:=kr B;refine⟨trivial,λU=>?_⟩;have:List.map (T.e _) _=[]:=U;simp_all
     .obtain⟨_,c2,c3⟩:=kr B;refine⟨trivial,λU=>?_⟩;have:List.map (T.e _) _=[]:=U;simp_all
     .obtain⟨_,c2,c3⟩:=kr B;refine⟨trivial,λU=>?_⟩;have:List.map (T.e _) _=[]:=U;simp_all
     .grind
     .cases B
    exact⟨⟨false,.inr rfl⟩,F,M.1,λb X=>k44 (by grind)⟩
 grind
end
theorem kp9(σ:Nat->Nat)(d:D):ren0 σ (V.ofD d)=V.ofD d:=by cases d with
 |agg l=>show V.agg ((l.map V.d).map (ren1 σ))=V.agg (l.map V.d);rw[qbr];rfl|_=>rfl
theorem ok0_ofD{nx:Nat}(d:D):ok0 nx (V.ofD d):=by cases d with
 |agg l=>induction l with
  |nil=>trivial|cons x l B=>exact⟨trivial,B⟩
 |_=>trivial
section
variable{T:Tab}
section
variable(σ:Nat->Nat)(f:List (Option (TOb T.den)))
theorem tk1_dr:∀s r x,(tk1 σ f s r x).2=dr1 s r x
 |.any,_,_=>rfl|.k _,_,_=>rfl|.d _,_,_=>rfl|.full _,_,_=>rfl|.own _,_,_=>rfl|.ptr _ _,_,_=>rfl|.row _,_,_=>rfl|.view _,_,_=>rfl|.mp _,_,_=>rfl|.clo _ _ _,_,_=>rfl
theorem tkL_dr:∀l r x,(tkL σ f l r x).2=drL l r x
 |[],_,_=>rfl|s::l,r,x=>by
  have B:∀x:HL T.den (hs1 s (hsL l r)),(tkL σ f l r (tk1 σ f s (hsL l r) x).2).2=drL l r (dr1 s (hsL l r) x):=λx=>by rw[tkL_dr l r,tk1_dr]
  exact B x
theorem tk0_dr:∀s r x,(tk0 σ f s r x).2=dr0 s r x
 |.one s,r,x=>tk1_dr σ f s r x|.agg l,r,x=>tkL_dr σ f l r x
theorem tkO1_dr(g:Option (TOb T.den)):∀o r x,(tkO1 σ f g o r x).2=drO1 o r x
 |.cells l,r,x=>tkL_dr σ f l r x|.tip _,_,_=>rfl|.vec _,_,_=>rfl|.map _ _,_,_=>rfl|.it _ _ _,_,_=>rfl|.dead,_,_=>rfl
theorem kvf(j:Nat)(g:Option (TOb T.den)):er1 T (ownT (σ j) g)=ren1 σ (er1 T (ownT j g)):=by unfold ownT;split<;>rfl
theorem kx1(j:Nat)(g:Option (TOb T.den)):er1 T (rowT (σ j) g)=ren1 σ (er1 T (rowT j g)):=by unfold rowT;split<;>rfl
theorem ku3(j:Nat)(o n:Int)(g:Option (TOb T.den)):er1 T (viewT (σ j) o n g)=ren1 σ (er1 T (viewT j o n g)):=by unfold viewT;split<;>rfl
def TV.sim:TV T.den->Bool
 |.agg _=>false|.tup _=>false|_=>true
theorem er0_sim{v:TV T.den}(h:v.sim=true):er0 T v=er1 T v:=by cases v<;>first|rfl|cases h
theorem er_sim{v:TV T.den}(h:v.sim=true):er T v=er1 T v:=by cases v<;>first|rfl|cases h
theorem er1_na{v:TV T.den}:(∀l,er1 T v≠.agg l)/\∀l,er1 T v≠.tup l:=by cases v<;>exact⟨λl h=>(by cases h),λl h=>by cases h⟩
theorem ren0_1{x:V}(h:∀l,x≠.agg l):ren0 σ x=ren1 σ x:=by cases x<;>first|rfl|grind
theorem ren_0{x:V}(h:∀l,x≠.tup l):ren σ x=ren0 σ x:=by cases x<;>first|rfl|grind
theorem kv0(k:Nat)(g:Option (TOb T.den)):(ownT k g).sim=true:=by unfold ownT;split<;>rfl
theorem kwq(k:Nat)(g:Option (TOb T.den)):(rowT k g).sim=true:=by unfold rowT;split<;>rfl
theorem kuc(k:Nat)(o n:Int)(g:Option (TOb T.den)):(viewT k o n g).sim=true:=by unfold viewT;split<;>rfl
theorem tk1_sim:∀s r x,(tk1 σ f s r x).1.sim=true
 |.any,_,_=>rfl|.k _,_,_=>rfl|.d _,_,_=>rfl|.full _,_,_=>rfl|.own _,_,_=>kv0 _ _|.ptr _ _,_,_=>rfl|.row _,_,_=>kwq _ _|.view _,_,_=>kuc _ _ _ _|.mp _,_,_=>rfl|.clo _ _ _,_,_=>rfl
theorem renP_id:∀l,renP idf l=l
 |[]=>rfl|none::r=>congrArg (List.cons none) (renP_id r)|some (_,_)::r=>congrArg (List.cons _) (renP_id r)
theorem tk1_ren:∀s r x,er1 T (tk1 σ f s r x).1=ren1 σ (er1 T (tk1 idf f s r x).1)
 |.any,_,_=>rfl|.k _,_,_=>rfl|.d _,_,_=>rfl|.full _,_,_=>rfl|.own j,_,_=>kvf σ j _|.ptr _ _,_,_=>rfl|.row j,_,_=>kx1 σ j _|.view j,_,x=>ku3 σ j x.1 x.2.1 _|.mp _,_,_=>rfl|.clo g B cs,_,_=>by show V.clo g (renP σ B) (renP σ cs)=.clo g (renP σ (renP idf B)) (renP σ (renP idf cs));rw[renP_id,renP_id]
theorem tkL_ren:∀l r x,(tkL σ f l r x).1.map (er1 T)=((tkL idf f l r x).1.map (er1 T)).map (ren1 σ)
 |[],_,_=>rfl|s::l,r,x=>by
  have B:∀x:HL T.den (hs1 s (hsL l r)),er1 T (tk1 σ f s _ x).1::(tkL σ f l r (tk1 σ f s (hsL l r) x).2).1.map (er1 T)=ren1 σ (er1 T (tk1 idf f s _ x).1)::((tkL idf f l r (tk1 idf f s (hsL l r) x).2).1.map (er1 T)).map (ren1 σ):=λx=>by rw[tk1_ren,tk1_dr,tk1_dr,tkL_ren l r]
  exact B x
theorem tk0_ren:∀s r x,er0 T (tk0 σ f s r x).1=ren0 σ (er0 T (tk0 idf f s r x).1)/\(tk0 σ f s r x).1.tupB=false
 |.one s,r,x=>by
  have B:∀x:HL T.den (hs1 s r),er0 T (tk1 σ f s r x).1=ren0 σ (er0 T (tk1 idf f s r x).1)/\(tk1 σ f s r x).1.tupB=false:=λx=>by have h1:=tk1_sim σ f s r x;have F:=tk1_sim idf f s r x;rw[er0_sim h1,er0_sim F,tk1_ren,ren0_1 σ er1_na.1];refine⟨rfl,?_⟩;generalize(tk1 σ f s r x).1=v at h1;cases v<;>first|rfl|cases h1
  exact B x|.agg l,r,x=>by
  have B:∀x:HL T.den (hsL l r),V.agg ((tkL σ f l r x).1.map (er1 T))=V.agg (((tkL idf f l r x).1.map (er1 T)).map (ren1 σ)):=λx=>by rw[tkL_ren]
  exact⟨B x,rfl⟩
theorem er_ntup{v:TV T.den}(h:v.tupB=false):er T v=er0 T v:=by cases v<;>first|rfl|cases h
theorem k1y{v:TV T.den}:∀l,er0 T v≠.tup l:=by intro l h;cases v<;>cases h
theorem k34:∀l r x,(tkT σ f l r x).1.map (er0 T)=((tkT idf f l r x).1.map (er0 T)).map (ren0 σ)
 |[],_,_=>rfl|s::l,r,x=>by
  have B:∀x:HL T.den (hs0 s (hsT l r)),er0 T (tk0 σ f s _ x).1::(tkT σ f l r (tk0 σ f s (hsT l r) x).2).1.map (er0 T)=ren0 σ (er0 T (tk0 idf f s _ x).1)::((tkT idf f l r (tk0 idf f s (hsT l r) x).2).1.map (er0 T)).map (ren0 σ):=λx=>by rw[(tk0_ren σ f s _ x).1,tk0_dr,tk0_dr,k34 l r]
  exact B x
theorem tkT_er:∀l r x,(tkT σ f l r x).1.map (er T)=(tkT σ f l r x).1.map (er0 T)
 |[],_,_=>rfl|s::l,r,x=>by
  have B:∀x:HL T.den (hs0 s (hsT l r)),er T (tk0 σ f s _ x).1::(tkT σ f l r (tk0 σ f s (hsT l r) x).2).1.map (er T)=er0 T (tk0 σ f s _ x).1::(tkT σ f l r (tk0 σ f s (hsT l r) x).2).1.map (er0 T):=λx=>by rw[er_ntup (tk0_ren σ f s _ x).2,tkT_er l r]
  exact B x
theorem tkT_len:∀l r x,(tkT σ f l r x).1.length=l.length
 |[],_,_=>rfl|s::l,r,x=>by exact congrArg (·+1) (tkT_len l r _)
theorem tkV_ren:∀s r x,er T (tkV σ f s r x).1=ren σ (er T (tkV idf f s r x).1)
 |.one s,r,x=>by
  have B:∀x:HL T.den (hs0 s r),er T (tk0 σ f s r x).1=ren σ (er T (tk0 idf f s r x).1):=λx=>by grind[er_ntup,tk0_ren,ren_0,k1y]
  exact B x|.tup l,r,x=>by exact congrArg V.tup (k34 σ f l r x)
theorem kc9(g:Option (TOb T.den))(h:∀l,g≠some (.cells l)):erO T (flatG g)=renO σ (erO T (flatG g)):=by cases g with
 |none=>rfl|some o=>cases o with
  |cells l=>grind|vec e l=>show Ob.cells _=Ob.cells _;rw[qbr];rfl|map a b B vs=>show Ob.map (.m _)=Ob.map (.m _);rw[qbr];exact congrArg (λz=>Ob.map (.m z)) (qar λp _=>by grind[kp9])|_=>rfl
theorem kx2(g:Option (TOb T.den)):∀o r x,(∀l,g≠some (.cells l))->erO T (tkO1 σ f g o r x).1=renO σ (erO T (tkO1 idf f g o r x).1)
 |.cells l,r,x,_=>by exact congrArg Ob.cells (tkL_ren σ f l r x)|.tip _,_,_,h=>kc9 σ g h|.vec _,_,_,h=>kc9 σ g h|.map _ _,_,_,h=>kc9 σ g h|.it j _ _,_,_,h=>by show erO T (itG (σ j) g)=renO σ (erO T (itG j g));cases g with
  |none=>rfl|some o=>cases o with
   |it m a b F vs l=>
    show Ob.map (.it _ _ _)=Ob.map (.it _ _ _);rw[qbr,Option.map_map];have B:((λe:D×V=>(e.1,ren0 σ e.2))∘λp:a.den T.den×b.den T.den=>(T.e a p.1,V.ofD (T.e b p.2)))=λp=>(T.e a p.1,V.ofD (T.e b p.2)):=funext λp=>by grind[kp9]
    rw[B]|_=>rfl
 |.dead,_,_,_=>rfl
def Flat(f:List (Option (TOb T.den))):Prop:=∀k l,fget f k≠some (.cells l)
theorem tkC_ren(F:Flat f):∀k l r x,(tkC σ f k l r x).1.map (erO T)=((tkC idf f k l r x).1.map (erO T)).map (renO σ)
 |_,[],_,_=>rfl|k,o::l,r,x=>by
  have B:∀x:HL T.den (hsO1 o (hsC l r)),erO T (tkO1 σ f (fget f k) o _ x).1::(tkC σ f (k+1) l r (tkO1 σ f (fget f k) o _ x).2).1.map (erO T)=renO σ (erO T (tkO1 idf f (fget f k) o _ x).1)::((tkC idf f (k+1) l r (tkO1 idf f (fget f k) o _ x).2).1.map (erO T)).map (renO σ):=λx=>by rw[kx2 _ _ _ _ _ _ (F k),tkO1_dr,tkO1_dr,tkC_ren F (k+1) l r]
  exact B x
theorem tkC_len:∀k l r x,(tkC σ f k l r x).1.length=l.length
 |_,[],_,_=>rfl|k,o::l,r,x=>by exact congrArg (·+1) (tkC_len (k+1) l r _)
end
theorem k33:∀l x(k:Nat)(c:List (TV T.den)),(tkB l x)[k]?≠some (some (.cells c))
 |[],_,_,_=>by simp[tkB]|.tip e::l,x,0,c=>by simp[tkB]|.tip e::l,x,k+1,c=>by exact k33 l x.2 k c|.vec e::l,x,0,c=>by simp[tkB]|.vec e::l,x,k+1,c=>by exact k33 l x.2 k c|.map _ _::l,x,0,c=>by simp[tkB]|.map _ _::l,x,k+1,c=>by exact k33 l x.2.2 k c|.it _ _ _::l,x,0,c=>by simp[tkB]|.it _ _ _::l,x,k+1,c=>by exact k33 l x.2.2 k c|.cells _::l,x,0,c=>by simp[tkB]|.cells _::l,x,k+1,c=>by exact k33 l x k c|.dead::l,x,0,c=>by simp[tkB]|.dead::l,x,k+1,c=>by exact k33 l x k c
theorem k1k(l:List OSh)(x:HL T.den (hsB l)):Flat (tkB l x):=by intro k c h;unfold fget at h;grind[k33]
section
variable{σ:Nat->Nat}{f:List (Option (TOb T.den))}{m nx:Nat}
theorem blt_lt{a b:Nat}(h:Nat.blt a b=true):a<b:=qea h
theorem ownT_ok{k nx:Nat}(h:k<nx)(g:Option (TOb T.den)):ok1 nx (er1 T (ownT k g)):=by unfold ownT;split<;>trivial
theorem rowT_ok{k nx:Nat}(h:k<nx)(g:Option (TOb T.den)):ok1 nx (er1 T (rowT k g)):=by unfold rowT;split<;>trivial
theorem kum{k nx:Nat}(h:k<nx)(o n:Int)(g:Option (TOb T.den)):ok1 nx (er1 T (viewT k o n g)):=by unfold viewT;split<;>trivial
theorem renP_ok(B:∀j,j<m->σ j<nx):∀l,okPB m l=true->okP nx (renP σ l)
 |[],_=>trivial|none::r,h=>renP_ok B r h|some (_,_)::r,h=>by simp only[okPB,qh]at h;exact⟨B _ (blt_lt h.1),renP_ok B r h.2⟩
theorem tk1_ok(B:∀j,j<m->σ j<nx):∀s r x,ok1B m s=true->ok1 nx (er1 T (tk1 σ f s r x).1)
 |.any,_,_,_=>trivial|.k _,_,_,_=>trivial|.d t,_,_,_=>by trivial|.full _,_,_,_=>trivial|.own j,_,_,h=>ownT_ok (B j (blt_lt h)) _|.ptr j _,_,_,h=>B j (blt_lt h)|.row j,_,_,h=>rowT_ok (B j (blt_lt h)) _|.view j,_,x,h=>kum (B j (blt_lt h)) x.1 x.2.1 _|.mp j,_,_,h=>B j (blt_lt h)|.clo _ F cs,_,_,h=>by simp only[ok1B,qh]at h;exact⟨renP_ok B F h.1,renP_ok B cs h.2⟩
theorem tkL_ok(B:∀j,j<m->σ j<nx):∀l r x,okLB m l=true->okL nx ((tkL σ f l r x).1.map (er1 T))
 |[],_,_,_=>trivial|s::l,r,x,h=>by simp only[okLB,qh]at h;exact⟨tk1_ok B s _ x h.1,tkL_ok B l r _ h.2⟩
theorem tk0_ok(F:∀j,j<m->σ j<nx):∀s r x,ok0B m s=true->ok0 nx (er0 T (tk0 σ f s r x).1)
 |.one s,r,x,h=>by
  have B:∀x:HL T.den (hs1 s r),ok0 nx (er0 T (tk1 σ f s r x).1):=λx=>by have h1:=tk1_ok (f:=f) F s r x h;rw[er0_sim (tk1_sim σ f s r x)];generalize J:er1 T (tk1 σ f s r x).1=v at h1⊢;cases v<;>first|exact h1|exact h1.elim
  exact B x|.agg l,r,x,h=>tkL_ok F l r x h
theorem tkT_ok(B:∀j,j<m->σ j<nx):∀l r x,okTB m l=true->okT nx ((tkT σ f l r x).1.map (er0 T))
 |[],_,_,_=>trivial|s::l,r,x,h=>by simp only[okTB,qh]at h;exact⟨tk0_ok B s _ x h.1,tkT_ok B l r _ h.2⟩
theorem ok_of0{x:V}(h:ok0 nx x)(B:∀l,x≠.tup l):ok nx x:=by cases x<;>first|exact h|grind
theorem tkV_ok(F:∀j,j<m->σ j<nx):∀s r x,okVB m s=true->ok nx (er T (tkV σ f s r x).1)
 |.one s,r,x,h=>by
  have B:∀x:HL T.den (hs0 s r),ok nx (er T (tk0 σ f s r x).1):=λx=>by rw[er_ntup (tk0_ren σ f s r x).2];exact ok_of0 (tk0_ok F s r x h) k1y
  exact B x|.tup l,r,x,h=>tkT_ok F l r x h
theorem kkk:∀s r x,noTup (er T (tkV σ f s r x).1)
 |.one s,r,x=>by
  have B:∀x:HL T.den (hs0 s r),noTup (er T (tk0 σ f s r x).1):=λx=>by rw[er_ntup (tk0_ren σ f s r x).2];have:=k1y (v:=(tk0 σ f s r x).1);generalize er0 T (tk0 σ f s r x).1=y at this;cases y<;>first|trivial|grind
  exact B x|.tup l,r,x=>by intro y F J e;grind[k1y]
theorem okM_er{a b:Ty}(k:List (a.den T.den×b.den T.den)):okM nx (k.map λp=>(T.e a p.1,V.ofD (T.e b p.2))):=by induction k with
 |nil=>trivial|cons d k B=>exact⟨ok0_ofD _,B⟩
theorem kfa{g:Option (TOb T.den)}(h:∀l,g≠some (.cells l)):okO nx (erO T (flatG g)):=by cases g with
 |none=>trivial|some o=>cases o with
  |cells l=>grind|vec e l=>show okL nx (List.map V.d _);generalize(List.map (T.e e) l).flatMap D.cells=k;induction k with
   |nil=>trivial|cons d k B=>exact⟨trivial,B⟩
  |map a b F vs=>exact okM_er _|_=>trivial
theorem okO_it{g:Option (TOb T.den)}{m:Nat}(h:m<nx):okO nx (erO T (itG m g)):=by cases g with
 |none=>trivial|some o=>cases o with
  |it m' a b B vs l=>refine⟨h,okM_er _,λe he=>?_⟩;obtain⟨p,_,rfl⟩:=qac.1 he;exact ok0_ofD _|_=>trivial
theorem tkC_ok(F:Flat f)(J:∀j,j<m->σ j<nx):∀k l r x,okOsB m l=true->∀(i:Nat)o,(tkC σ f k l r x).1[i]?=some o->okO nx (erO T o)
 |_,[],_,_,_,i,o,h=>by simp[tkC]at h|k,p::l,r,x,B,i,o,h=>by simp only[okOsB,qh]at B;cases i with
  |zero=>injection h with h;subst h;cases p with
   |cells M=>exact tkL_ok J M _ x B.1|tip e=>exact kfa (F k)|vec e=>exact kfa (F k)|map a b=>exact kfa (F k)|it j a b=>exact okO_it (J j (blt_lt B.1))|dead=>trivial
  |succ i=>exact tkC_ok F J (k+1) l r _ B.2 i o h
end
theorem KC.is_eq{c:KC}{v:Value}(h:c.is v=true):v=c.v:=by cases c with
 |nilPtr=>cases v<;>first|(rename_i p;cases p<;>first|rfl|cases h)|cases h
 |nilMap=>cases v<;>first|(rename_i p;cases p<;>first|rfl|cases h)|cases h
 |nilSlice=>exact k28 h|nilFunc=>cases v<;>first|rfl|cases h
 |undef=>cases v with
  |tuple a=>have B:=qco (nb_eq h);subst B;rfl|_=>cases h
 |fn f=>cases v with
  |func g a b=>cases g with
   |func g=>simp only[KC.is,qh]at h;rw[nb_eq h.1.1];have B:=qco (nb_eq h.1.2);have F:=qco (nb_eq h.2);rw[B,F];rfl|_=>cases h
  |_=>cases h
theorem kk2{t:Ty}(B:t.agg=false){v:TV T.den}{x:t.den T.den}(h:toEl2 t v=some x):v.one=true:=by
 unfold toEl2 at h;split at h;.obtain⟨rfl,_⟩:=Ty.cast_some h;show(!_)=true;rw[B];rfl
 .cases h
theorem kjw{t:Ty}{v:TV T.den}{x:t.den T.den}(h:toEl1 t v=some x):v.one=true:=by cases t with
 |int k=>exact kk2 rfl h|bool=>cases v with
  |lit b=>rfl|d t y=>cases t<;>first|rfl|cases h
  |_=>cases h
 |str=>exact kk2 rfl h|sl e=>exact(els_er h).2|st n=>cases h
section
variable{σ:Nat->Nat}{f:List (Option (TOb T.den))}
theorem le_of1{x y:V}(B:(∀l,x≠.agg l)/\∀l,x≠.tup l)(h:le1 x y):le x y:=by cases x<;>first|exact h|exact(B.1 _ rfl).elim|grind
theorem le0_of1'{x y:V}(B:∀l,x≠.agg l)(h:le1 x y):le0 x y:=by cases x<;>first|exact h|grind
theorem eqP_le:∀{l m:List (Option (Nat×Nat))},eqP l m=true->leP l m
 |[],[],_=>trivial|[],_::_,h=>by cases h|none::_,[],h=>by cases h|some _::_,[],h=>by cases h|none::_,some _::_,h=>by cases h|none::l,none::m,h=>eqP_le (l:=l) (m:=m) h|some _::l,none::m,h=>eqP_le (l:=l) (m:=m) h|some p::l,some q::m,h=>by simp only[eqP,qh]at h;exact⟨Prod.ext (nb_eq h.1.1) (nb_eq h.1.2),eqP_le (l:=l) (m:=m) h.2⟩
theorem le0_any(x:V):le0 x .any:=by cases x<;>trivial
theorem mt1_snd:∀s r v a K,mt1 σ f s r v a K->∃y,K y/\dr1 s r y=a/\le1 (er1 T v) (er1 T (tk1 σ f s r y).1)/\le0 (er0 T v) (er1 T (tk1 σ f s r y).1)/\le (er T v) (er1 T (tk1 σ f s r y).1)/\(one1B s=true->(er1 T (tk1 σ f s r y).1).one=true)
 |.any,r,v,a,K,h=>⟨a,h,rfl,by show le1 _ .any;unfold le1;trivial,le0_any _,by show le _ .any;rw[le_any];trivial,λh=>by cases h⟩|.k c,r,v,a,K,h=>by
  simp only[mt1]at h;split at h;.rename_i u;obtain⟨h1,B⟩:=cnd h;have e:=KC.is_eq h1;subst e;have q:le1 (.k c.v) (.k c.v):=kc _;refine⟨a,B,rfl,q,le0_of1' (λl h=>by cases h) q,le_of1 ⟨λl h=>(by cases h),λl h=>by cases h⟩ q,λh1=>?_⟩;cases c<;>first|rfl|cases h1
  grind|.d t,r,v,a,K,h=>by
  simp only[mt1]at h;split at h
  .rename_i x hx;have ho:=kjw hx;obtain⟨h1,B,M⟩:=k46 hx;refine⟨(x,a),h,rfl,h1,?_,?_,λ_=>e_one M x⟩;.rw[er0_of1 ho];exact le0_of1' er1_na.1 h1
   .rw[er_of1 ho];exact le_of1 er1_na h1
  grind|.full e,r,v,a,K,h=>by
  simp only[mt1]at h;split at h
  .rename_i X l;split at h
   .rename_i x hx;obtain⟨c1,c2,_⟩:=kr hx;have q:le1 (.full (T.sz X) (l.map (T.e X))) (.full (T.sz e) (x.map (T.e e))):=by grind[kc]
    exact⟨(x,a),h,rfl,q,q,q,λ_=>rfl⟩
   grind
  .obtain⟨h1,B⟩:=cnd h;rw[k28 h1];have q:le1 (.k (.slice none 0 0)) (.full (T.sz e) []):=rfl;exact⟨([],a),B,rfl,q,q,q,λ_=>rfl⟩
  grind|.own j,r,v,a,K,h=>by
  simp only[mt1]at h;split at h
  .rename_i tok e l;unfold mtOwn at h;split at h
   .rename_i X l' U;obtain⟨h1,B⟩:=cnd h;split at B
    .rename_i l2 hl;obtain⟨rfl,M⟩:=B;obtain⟨c1,c2,_⟩:=kr hl;have ht:=nb_eq h1;have q:le1 (.own tok (T.sz e) (l.map (T.e e))) (er1 T (tk1 σ f (.own j) r a).1):=by show le1 _ (er1 T (ownT (σ j) (fget f j)));rw[U,ht,c1,c2];exact kc _
     refine⟨a,M,rfl,q,le0_of1' (λl h=>by cases h) q,le_of1 ⟨λl h=>(by cases h),λl h=>by cases h⟩ q,λ_=>?_⟩;show(er1 T (ownT (σ j) (fget f j))).one=true;rw[U];rfl
    grind
   grind
  grind|.ptr j off,r,v,a,K,h=>by
  simp only[mt1]at h;split at h;.rename_i id J;obtain⟨h1,B⟩:=cnd h;simp only[qh]at h1;have F:=nb_eq h1.1;have Y:=nb_eq h1.2;subst F;subst Y;have q:le1 (.ptr (σ j) J) (.ptr (σ j) J):=kc _;exact⟨a,B,rfl,q,le0_of1' (λl h=>by cases h) q,le_of1 ⟨λl h=>(by cases h),λl h=>by cases h⟩ q,λ_=>rfl⟩
  grind|.row j,r,v,a,K,h=>by
  simp only[mt1]at h;split at h
  .rename_i id e n;unfold mtRow at h;split at h
   .rename_i X l' U;obtain⟨h1,B,M⟩:=cnd h;simp only[qh]at h1;have F:=nb_eq h1.1;have Y:=Ty.eq_of_beq h1.2;subst Y;have q:le1 (.row id 0 n (T.sz e)) (er1 T (tk1 σ f (.row j) r a).1):=by show le1 _ (er1 T (rowT (σ j) (fget f j)));rw[U,F,B];exact kc _
    refine⟨a,M,rfl,q,le0_of1' (λl h=>by cases h) q,le_of1 ⟨λl h=>(by cases h),λl h=>by cases h⟩ q,λ_=>?_⟩;show(er1 T (rowT (σ j) (fget f j))).one=true;rw[U];rfl
   grind
  grind|.view j,r,v,a,K,h=>by
  have Z:∀{id:Nat}{e:Ty}{off n:Nat}{w:TV T.den},er1 T w=.row id (off*T.sz e) n (T.sz e)->er0 T w=er1 T w->er T w=er1 T w->mtView (σ j) id e (fget f j) ((off:Int),(n:Int),a) K->∃y,K y/\dr1 (.view j) r y=a/\le1 (er1 T w) (er1 T (tk1 σ f (.view j) r y).1)/\le0 (er0 T w) (er1 T (tk1 σ f (.view j) r y).1)/\le (er T w) (er1 T (tk1 σ f (.view j) r y).1)/\(one1B (.view j)=true->(er1 T (tk1 σ f (.view j) r y).1).one=true):=by
   intro id e off n w hw ab ac h;unfold mtView at h;split at h
   .rename_i X l' U;obtain⟨h1,M⟩:=cnd h;simp only[qh]at h1;have F:=nb_eq h1.1;have Y:=Ty.eq_of_beq h1.2;subst Y;have hv:er1 T (tk1 σ f (.view j) r ((off:Int),(n:Int),a)).1=.row id (off*T.sz e) n (T.sz e):=by show er1 T (viewT (σ j) _ _ (fget f j))=_;rw[U,F];simp[viewT,er1]
    have aa:∀z,z=V.row id (off*T.sz e) n (T.sz e)->le1 (er1 T w) z/\le0 (er0 T w) z/\le (er T w) z/\z.one=true:=by rintro z rfl;rw[ab,ac,hw];exact⟨kc _,le0_of1' (λl h=>by cases h) (kc _),le_of1 (by grind) (kc _),rfl⟩
    obtain⟨q1,q2,q3,q4⟩:=aa _ hv;exact⟨_,M,rfl,q1,q2,q3,λ_=>q4⟩
   grind
  simp only[mt1]at h;split at h;.rename_i id e n;exact Z (by simp[er1]) rfl rfl h
  .exact Z rfl rfl rfl h
  grind|.mp j,r,v,a,K,h=>by
  simp only[mt1]at h;split at h;.rename_i id;obtain⟨h1,B⟩:=cnd h;have F:=nb_eq h1;subst F;have q:le1 (.mp (σ j)) (.mp (σ j)):=kc _;exact⟨a,B,rfl,q,le0_of1' (λl h=>by cases h) q,le_of1 ⟨λl h=>(by cases h),λl h=>by cases h⟩ q,λ_=>rfl⟩
  grind|.clo g fs cs,r,v,a,K,h=>by
  simp only[mt1]at h;split at h;.rename_i g' ad cs';obtain⟨h1,B⟩:=cnd h;simp only[qh]at h1;have F:=nb_eq h1.1.1;subst F;have q:le1 (.clo g' ad cs') (.clo g' (renP σ fs) (renP σ cs)):=⟨rfl,eqP_le h1.1.2,eqP_le h1.2⟩;exact⟨a,B,rfl,q,le0_of1' (λl h=>by cases h) q,le_of1 ⟨λl h=>(by cases h),λl h=>by cases h⟩ q,λ_=>rfl⟩
  grind
theorem mtL_snd{os:List OSh}:∀l r vs a K,kindLB os l=true->mtL σ f l r vs a K->∃y,K y/\drL l r y=a/\leL (vs.map (er1 T)) ((tkL σ f l r y).1.map (er1 T))
 |[],r,[],a,K,_,h=>⟨a,h,rfl,trivial⟩|[],r,_::_,a,K,_,h=>h.elim|_::_,r,[],a,K,_,h=>h.elim|s::l,r,v::vs,a,K,B,h=>by
  simp only[kindLB,qh]at B;obtain⟨b,h1,J,Y⟩:=mtL_snd l r vs a _ B.2 h;obtain⟨y,M,F,U,_,_,X⟩:=mt1_snd s (hsL l r) v b K h1;have Z:(tk1 σ f s (hsL l r) y).2=b:=by rw[tk1_dr,F]
  exact⟨y,M,(congrArg (drL l r) F).trans J,⟨U,X B.1.2⟩,by grind⟩
theorem mt0_snd{os:List OSh}:∀s r v a K,kind0B os s=true->mt0 σ f s r v a K->∃y,K y/\dr0 s r y=a/\le0 (er0 T v) (er0 T (tk0 σ f s r y).1)/\le (er T v) (er T (tk0 σ f s r y).1)
 |.one s,r,v,a,K,_,h=>by obtain⟨y,B,F,_,J,M,_⟩:=mt1_snd s r v a K h;have X:=er0_sim (tk1_sim σ f s r y);have Y:=er_sim (tk1_sim σ f s r y);rw[<-X]at J;rw[<-Y]at M;exact⟨y,B,F,J,M⟩|.agg l,r,v,a,K,Z,h=>by
  simp only[mt0]at h;split at h;.rename_i vs;obtain⟨y,B,F,U⟩:=mtL_snd l r vs a K Z h;exact⟨y,B,F,U,U⟩
  grind
def leAll:List V->List V->Prop
 |[],[]=>True|x::xs,y::B=>le x y/\leAll xs B|_,_=>False
theorem mtT_snd{os:List OSh}:∀l r vs a K,kindTB os l=true->mtT σ f l r vs a K->∃y,K y/\drT l r y=a/\leT (vs.map (er0 T)) ((tkT σ f l r y).1.map (er0 T))/\leAll (vs.map (er T)) ((tkT σ f l r y).1.map (er T))
 |[],r,[],a,K,_,h=>⟨a,h,rfl,trivial,trivial⟩|[],r,_::_,a,K,_,h=>h.elim|_::_,r,[],a,K,_,h=>h.elim|s::l,r,v::vs,a,K,B,h=>by
  simp only[kindTB,qh]at B;obtain⟨b,h1,J,Y,Z⟩:=mtT_snd l r vs a _ B.2 h;obtain⟨y,M,F,U,X⟩:=mt0_snd s (hsT l r) v b K B.1 h1;have e2:(tk0 σ f s (hsT l r) y).2=b:=by rw[tk0_dr,F]
  exact⟨y,M,(congrArg (drT l r) F).trans J,⟨U,by grind⟩,⟨X,by grind⟩⟩
theorem mtV_snd{os:List OSh}:∀s r v a K,kindVB os s=true->mtV σ f s r v a K->∃y,K y/\drV s r y=a/\le (er T v) (er T (tkV σ f s r y).1)
 |.one s,r,v,a,K,J,h=>by obtain⟨y,B,F,_,M⟩:=mt0_snd s r v a K J h;exact⟨y,B,F,M⟩|.tup l,r,v,a,K,J,h=>by
  simp only[mtV]at h;split at h;.rename_i vs;obtain⟨y,B,F,U,_⟩:=mtT_snd l r vs a K J h;exact⟨y,B,F,U⟩
  grind
def obIn(h:THp T.den)(σ:Nat->Nat)(f:List (Option (TOb T.den)))(k:Nat):OSh->Prop
 |.tip e=>∃x e' x',fget f k=some (.tip e x)/\getH h (σ k)=some (.tip e' x')/\castL e' e x'=some x|.vec e=>∃x e' x',fget f k=some (.vec e x)/\getH h (σ k)=some (.vec e' x')/\castL e' e x'=some x|.map a b=>∃x y a' b' x' y',fget f k=some (.map a b x y)/\getH h (σ k)=some (.map a' b' x' y')/\castL a' a x'=some x/\castL b' b y'=some y|.it j a b=>∃x y a' b' x' y' l',fget f k=some (.it j a b x y none)/\getH h (σ k)=some (.it (σ j) a' b' x' y' l')/\castL a' a x'=some x/\castL b' b y'=some y|_=>True
theorem kq(o:Option (TOb T.den))(f:List (Option (TOb T.den)))(k:Nat):fget (o::f) (k+1)=fget f k:=by simp[fget]
theorem mtB_snd{h:THp T.den}:∀l k b,mtB h σ k l=some b->∀i(o:OSh),l[i]?=some o->match o with
  |.tip e=>∃x J x',fget (tkB l b) i=some (.tip e x)/\getH h (σ (k+i))=some (.tip J x')/\castL J e x'=some x|.vec e=>∃x J x',fget (tkB l b) i=some (.vec e x)/\getH h (σ (k+i))=some (.vec J x')/\castL J e x'=some x|.map c d=>∃x y M U x' y',fget (tkB l b) i=some (.map c d x y)/\getH h (σ (k+i))=some (.map M U x' y')/\castL M c x'=some x/\castL U d y'=some y|.it j c d=>∃x y M U x' y' l',fget (tkB l b) i=some (.it j c d x y none)/\getH h (σ (k+i))=some (.it (σ j) M U x' y' l')/\castL M c x'=some x/\castL U d y'=some y|_=>True
 |[],_,_,_,i,o,F=>by simp at F|.tip e::l,k,b,B,i,o,F=>by
  simp only[mtB]at B;split at B
  .rename_i J x X;split at B
   .rename_i Y Z;split at B;.rename_i y hy;injection B with B;subst B;cases i with
     |zero=>simp at F;subst F;exact⟨Y,J,x,rfl,X,Z⟩|succ i=>have:=mtB_snd l (k+1) y hy i o (by grind);rw[show k+(i+1)=k+1+i by omega];cases o<;>first|trivial|(simp only[tkB,kq];exact this)
    .cases B
   .cases B
  .cases B|.vec e::l,k,b,B,i,o,F=>by
  simp only[mtB]at B;split at B
  .rename_i J x X;split at B
   .rename_i Y Z;split at B;.rename_i y hy;injection B with B;subst B;cases i with
     |zero=>simp at F;subst F;exact⟨Y,J,x,rfl,X,Z⟩|succ i=>have:=mtB_snd l (k+1) y hy i o (by grind);rw[show k+(i+1)=k+1+i by omega];cases o<;>first|trivial|(simp only[tkB,kq];exact this)
    .cases B
   .cases B
  .cases B|.map c d::l,k,b,B,i,o,F=>by
  simp only[mtB]at B;split at B
  .rename_i M U x y X;split at B
   .rename_i Y y2 Z aa;split at B;.rename_i z hz;injection B with B;subst B;cases i with
     |zero=>simp at F;subst F;exact⟨Y,y2,M,U,x,y,rfl,X,Z,aa⟩|succ i=>have:=mtB_snd l (k+1) z hz i o (by grind);rw[show k+(i+1)=k+1+i by omega];cases o<;>first|trivial|(simp only[tkB,kq];exact this)
    .cases B
   .cases B
  .cases B|.it j c d::l,k,b,B,i,o,F=>by
  simp only[mtB]at B;split at B
  .rename_i m M U x y l' X;split at B
   .rename_i Y y2 Z aa hm;obtain rfl:=nb_eq hm;split at B;.rename_i z hz;injection B with B;subst B;cases i with
     |zero=>simp at F;subst F;exact⟨Y,y2,M,U,x,y,l',rfl,X,Z,aa⟩|succ i=>have:=mtB_snd l (k+1) z hz i o (by grind);rw[show k+(i+1)=k+1+i by omega];cases o<;>first|trivial|(simp only[tkB,kq];exact this)
    .cases B
   .cases B
  .cases B|.cells c::l,k,b,B,i,o,F=>by have B:=B;cases i with
  |zero=>grind|succ i=>have:=mtB_snd l (k+1) b B i o (by grind);rw[show k+(i+1)=k+1+i by omega];cases o<;>first|trivial|(simp only[tkB,kq];exact this)
 |.dead::l,k,b,B,i,o,F=>by have B:=B;cases i with
  |zero=>grind|succ i=>have:=mtB_snd l (k+1) b B i o (by grind);rw[show k+(i+1)=k+1+i by omega];cases o<;>first|trivial|(simp only[tkB,kq];exact this)
theorem kw2(hT:T.Ok){os:List OSh}{h:THp T.den}{k:Nat}:∀o r a K,kindOB os [o]=true->obIn h σ f k o->mtO1 σ f h k o r a K->∃y,K y/\drO1 o r y=a/\obLe ((erH T h).get (σ k)) (erO T (tkO1 σ f (fget f k) o r y).1)
 |.cells l,r,a,K,X,_,B=>by
  simp only[mtO1]at B;split at B;.rename_i vs Y;simp only[kindOB,Bool.and_true]at X;obtain⟨y,Z,g2,g3⟩:=mtL_snd l r vs a K X B;refine⟨y,Z,g2,?_⟩;rw[getH_er,Y];exact g3
  grind|.tip e,r,a,K,_,hi,B=>by obtain⟨x,U,x',h1,J,F⟩:=hi;refine⟨a,B,rfl,?_⟩;rw[getH_er,J];rw[h1];exact(kr F).2.2|.vec e,r,a,K,_,hi,B=>by obtain⟨x,U,x',h1,J,F⟩:=hi;refine⟨a,B,rfl,?_⟩;rw[getH_er,J];rw[h1];obtain⟨c1,c2,_⟩:=kr F;show leL (((x'.map (T.e U)).flatMap D.cells).map V.d) (((x.map (T.e e)).flatMap D.cells).map V.d);grind[k69,khx]|.map c d,r,a,K,_,hi,B=>by obtain⟨x,y,c',d',x',y',h1,J,F,M⟩:=hi;refine⟨a,B,rfl,?_⟩;rw[getH_er,J];rw[h1];obtain⟨rfl,F⟩:=Ty.cast_some F;obtain⟨rfl,M⟩:=Ty.cast_some M;subst F;subst M;exact rfl|.it j c d,r,a,K,_,hi,B=>by obtain⟨x,y,c',d',x',y',l',h1,J,F,M⟩:=hi;refine⟨a,B,rfl,?_⟩;rw[getH_er,J];rw[h1];obtain⟨rfl,F⟩:=Ty.cast_some F;obtain⟨rfl,M⟩:=Ty.cast_some M;subst F;subst M;exact⟨rfl,rfl⟩|.dead,r,a,K,_,_,B=>⟨a,B,rfl,by generalize(erH T h).get (σ k)=o;cases o with
   |none=>trivial|some o=>cases o<;>trivial⟩
theorem ksv{os:List OSh}{o:OSh}{l:List OSh}(h:kindOB os (o::l)=true):kindOB os [o]=true/\kindOB os l=true:=by cases o with
 |cells c=>simp only[kindOB,qh,Bool.and_true]at h⊢;exact h|_=>exact⟨rfl,h⟩
theorem mtC_snd(M:T.Ok){os:List OSh}{h:THp T.den}:∀k l r a K,kindOB os l=true->(∀i o,l[i]?=some o->obIn h σ f (k+i) o)->mtC σ f h k l r a K->∃y,K y/\drC l r y=a/\∀i o,(tkC σ f k l r y).1[i]?=some o->obLe ((erH T h).get (σ (k+i))) (erO T o)
 |_,[],r,a,K,_,_,F=>⟨a,F,rfl,λi o h=>by simp[tkC]at h⟩|k,p::l,r,a,K,Y,hi,F=>by
  obtain⟨k1,k2⟩:=ksv Y;obtain⟨b,h1,U,Z⟩:=mtC_snd M (k+1) l r a _ k2 λi o B=>by rw[show k+1+i=k+(i+1)by omega];simp_all F;obtain⟨y,X,J,g3⟩:=kw2 M p (hsC l r) b K k1 (hi 0 p qqs) h1;refine⟨y,X,?_,λi o B=>?_⟩;.exact(congrArg (drC l r) J).trans U
  .cases i with
   |zero=>have B:some (tkO1 σ f (fget f k) p _ y).1=some o:=B;grind|succ i=>
    have e2:(tkO1 σ f (fget f k) p (hsC l r) y).2=b:=by rw[tkO1_dr,J]
    have B:(tkC σ f (k+1) l r (tkO1 σ f (fget f k) p (hsC l r) y).2).1[i]?=some o:=B;grind
theorem k8j(F:T.Ok){h:THp T.den}{os:List OSh}{b:HL T.den (hsB os)}{K:HL T.den (hsOs os)->Prop}(J:kindOB os os=true)(M:mtB h σ 0 os=some b)(U:mtC σ (tkB os b) h 0 os (hsB os) b K):∃y,K y/\drC os (hsB os) y=b/\∀i o,(tkC σ (tkB os b) 0 os (hsB os) y).1[i]?=some o->obLe ((erH T h).get (σ i)) (erO T o):=by
 obtain⟨y,X,Y,Z⟩:=mtC_snd F 0 os (hsB os) b K J (λi o B=>by have:=mtB_snd os 0 b M i o B;simp only[qav]at this⊢;cases o<;>exact this) U;grind
end
end
end Go.Cv
end
