/- Parts of the proofs, merged by a program. -/
import Derived.Test.YtfiecdeonopcmaaGreatDoorA2
set_option maxRecDepth 100000
set_option linter.all false
noncomputable section
namespace Go.Cv
open Go Go.Bv Go.RowKit Go.Md
section
variable{T:Tab}{P:Program}
structure Con.Ok(P:Program)(T:Tab)(c:Con T.den):Prop where
 cl:Callable P c.f
 snd:∀x K,c.R x K->∃o,K o/\SoundH P c.f ((c.args idf x).map (er T)) ((c.obs idf x).map (erO T)) (er T (c.val idf o)) ((c.ops idf o).map (erO T))
def XCon.Ok(P:Program)(T:Tab)(c:XCon T.den):Prop:=c.ins.all (λt=>!t.agg)=true/\∀x,c.ok x->SoundX P c.f ((tvs c.ins x).map (er T)) (er T (outV c.out (c.val x)))
structure Cx.Ok(P:Program)(T:Tab)(C:Cx T):Prop where
 ti:InfoOk P T C.ti
 cs:∀c∈C.cs,c.Ok P T
 xs:∀c∈C.xs,c.Ok P T
theorem ko7{h:Hp}{σ:Nat->Nat}{m J nx:Nat}:∀{B:Ln}{os:List Ob},B.length=os.length->(∀(i k:Nat)o,B[i]?=some k->os[i]?=some o->k<J/\k<nx/\obLe (h.get k) (renO σ o)/\okO m o/\notDead o)->preOk h σ m J nx B os
 |[],[],_,_=>trivial|[],_::_,h,_=>by cases h|_::_,[],h,_=>by cases h|k::B,o::os,h,F=>⟨F 0 k o rfl rfl,ko7 (by grind) λi M o' h1 U=>F (i+1) M o' (by grind) (by grind)⟩
theorem kbw:∀{x:Nat}{l:Ln},memB x l=false->x∉l
 |_,[],_=>by simp|x,y::r,h=>by
  simp only[memB,qde]at h;intro B;rcases qak.1 B with e|B;.subst e;rw[nb_self]at h;cases h.1
  .exact kbw h.2 B
theorem k1x:∀{l:Ln},nodupB l=true->l.Nodup
 |[],_=>qex|x::r,h=>by simp only[nodupB,qh,qbl]at h;exact qcn.2 ⟨kbw h.1,k1x h.2⟩
theorem k1u{n:Nat}:∀{l:Ln},allLt n l=true->∀x∈l,x<n
 |[],_,x,h=>by cases h|y::r,B,x,h=>by
  simp only[allLt,qh]at B;rcases qak.1 h with rfl|h;.simp_all
  .exact k1u B.2 x h
theorem sgm_at{ids:Ln}{B i k:Nat}(h:ids[i]?=some k):sgm ids B i=k:=by unfold sgm;rw[h]
def isOb(f:List (Option (TOb T.den)))(k:Nat)(o:TOb T.den):OSh->Prop
 |.cells _=>∃c,o=.cells c|.tip _=>o=flatG (fget f k)|.vec _=>o=flatG (fget f k)|.map _ _=>o=flatG (fget f k)|.it _ _ _=>∃m,o=itG m (fget f k)|.dead=>o=.dead
theorem tkC_at{σ:Nat->Nat}{f:List (Option (TOb T.den))}:∀k l r x i o,(tkC σ f k l r x).1[i]?=some o->∃p,l[i]?=some p/\isOb f (k+i) o p
 |_,[],_,_,i,o,h=>by simp[tkC]at h|k,p::l,r,x,i,o,h=>by cases i with
  |zero=>injection h with h;subst h;refine⟨p,rfl,?_⟩;cases p with
   |cells F=>exact⟨_,rfl⟩|it j a b=>exact⟨_,rfl⟩|_=>rfl
  |succ i=>obtain⟨q,h1,B⟩:=tkC_at (k+1) l r _ i o h;exact⟨q,by simpa using h1,by rw[show k+(i+1)=k+1+i by omega];exact B⟩
theorem tkB_vec:∀{l:List OSh}{x:HL T.den (hsB l)}{k:Nat}{e:Ty},l[k]?=some (.vec e)->∃y,fget (tkB l x) k=some (.vec e y)
 |[],_,_,_,h=>by simp at h|.tip _::l,x,0,e,h=>by simp at h|.tip _::l,x,k+1,e,h=>by obtain⟨y,B⟩:=tkB_vec (x:=x.2) qqh;exact⟨y,by exact B⟩|.vec _::l,x,0,e,h=>by injection h with h;injection h with h;subst h;exact⟨x.1,rfl⟩|.vec _::l,x,k+1,e,h=>by obtain⟨y,B⟩:=tkB_vec (x:=x.2) qqh;exact⟨y,by exact B⟩|.map _ _::l,x,0,e,h=>by simp at h|.map _ _::l,x,k+1,e,h=>by obtain⟨y,B⟩:=tkB_vec (x:=x.2.2) qqh;exact⟨y,by exact B⟩|.it _ _ _::l,x,0,e,h=>by simp at h|.it _ _ _::l,x,k+1,e,h=>by obtain⟨y,B⟩:=tkB_vec (x:=x.2.2) qqh;exact⟨y,by exact B⟩|.cells _::l,x,0,e,h=>by simp at h|.cells _::l,x,k+1,e,h=>by obtain⟨y,B⟩:=tkB_vec (l:=l) (x:=x) qqh;exact⟨y,by exact B⟩|.dead::l,x,0,e,h=>by simp at h|.dead::l,x,k+1,e,h=>by obtain⟨y,B⟩:=tkB_vec (l:=l) (x:=x) qqh;exact⟨y,by exact B⟩
theorem tkB_map:∀{l:List OSh}{x:HL T.den (hsB l)}{k:Nat}{c d:Ty},l[k]?=some (.map c d)->∃y z,fget (tkB l x) k=some (.map c d y z)
 |[],_,_,_,_,h=>by simp at h|.tip _::l,x,0,c,d,h=>by simp at h|.tip _::l,x,k+1,c,d,h=>by obtain⟨y,z,B⟩:=tkB_map (x:=x.2) qqh;exact⟨y,z,by exact B⟩|.vec _::l,x,0,c,d,h=>by simp at h|.vec _::l,x,k+1,c,d,h=>by obtain⟨y,z,B⟩:=tkB_map (x:=x.2) qqh;exact⟨y,z,by exact B⟩|.map _ _::l,x,0,c,d,h=>by injection h with h;injection h with h1 h2;subst h1;subst h2;exact⟨x.1,x.2.1,rfl⟩|.map _ _::l,x,k+1,c,d,h=>by obtain⟨y,z,B⟩:=tkB_map (x:=x.2.2) qqh;exact⟨y,z,by exact B⟩|.it _ _ _::l,x,0,c,d,h=>by simp at h|.it _ _ _::l,x,k+1,c,d,h=>by obtain⟨y,z,B⟩:=tkB_map (x:=x.2.2) qqh;exact⟨y,z,by exact B⟩|.cells _::l,x,0,c,d,h=>by simp at h|.cells _::l,x,k+1,c,d,h=>by obtain⟨y,z,B⟩:=tkB_map (l:=l) (x:=x) qqh;exact⟨y,z,by exact B⟩|.dead::l,x,0,c,d,h=>by simp at h|.dead::l,x,k+1,c,d,h=>by obtain⟨y,z,B⟩:=tkB_map (l:=l) (x:=x) qqh;exact⟨y,z,by exact B⟩
theorem k82:∀{l:List OSh},preNoDead l=true->∀i:Nat,l[i]?≠some OSh.dead
 |[],_,i=>by simp|p::r,h,i=>by cases p with
  |dead=>cases h|_=>cases i with
   |zero=>simp|succ i=>simpa using k82 (l:=r) h i
theorem k99:∀{l:List OSh},noItS l=true->∀(i j:Nat)a b,l[i]?≠some (OSh.it j a b)
 |[],_,i,_,_,_=>by simp|p::r,h,i,j,a,b=>by cases p with
  |it=>cases h|_=>cases i with
   |zero=>simp|succ i=>simpa using k99 (l:=r) h i j a b
theorem kgx{h:THp T.den}:∀{r:THp T.den},noItG h r=true->∀i m a b x y l,getH r i=some (.it m a b x y l)->∀m a b x y l,getH h i≠some (.it m a b x y l)
 |[],_,i,m,a,b,x,y,l,B=>by cases B|(k,o)::r,F,i,m,a,b,x,y,l,B=>by simp only[getH]at B;cases J:Nat.beq i k with
  |false=>rw[J,qcc]at B;refine kgx (r:=r) ?_ i m a b x y l B;cases o<;>first|exact F|(simp only[noItG,qh]at F;exact F.2)
  |true=>rw[J,qdr]at B;injection B with B;subst B;obtain rfl:=nb_eq J;simp only[noItG]at F;grind
theorem noIt_er{h:THp T.den}(J:noItT h=true):noIt (erH T h):=by intro i o B;rw[getH_er,qac]at B;obtain⟨F,h1,rfl⟩:=B;cases F with
 |it m a b x y l=>exact(kgx J i m a b x y l h1 m a b x y l h1).elim|_=>trivial
theorem k7j(g:Option (TOb T.den)):notIt (erO T (flatG g)):=by cases g with
 |none=>trivial|some o=>cases o<;>trivial
theorem hpN_new{σ:Nat->Nat}:∀k(os B:List (TOb T.den)),B.map (erO T)=(os.map (erO T)).map (renO σ)->hpNew σ k (os.map (erO T))=erH T (hpN σ k B)
 |_,[],[],_=>rfl|_,[],_::_,h=>by cases h|_,_::_,[],h=>by cases h|k,o::os,o'::B,h=>by simp only[qaj,List.cons.injEq]at h;show(σ k,renO σ (erO T o))::hpNew σ (k+1) (os.map (erO T))=(σ k,erO T o')::erH T (hpN σ (k+1) B);rw[hpN_new (k+1) os B h.2,h.1]
theorem kjm{σ:Nat->Nat}{m:Nat}:∀{a b c:List V},leAll a b->b=c.map (ren σ)->(∀y∈c,ok m y)->leArgs σ m a c
 |[],[],[],_,_,_=>trivial|x::a,y::b,z::c,h1,B,F=>by simp at B;exact⟨⟨B.1▸h1.1,F z qqs⟩,kjm h1.2 B.2 λy J=>F y (by simp[J])⟩|[],_::_,_,h,_,_=>h.elim|_::_,[],_,h,_,_=>h.elim|[],[],_::_,_,h,_=>by cases h|_::_,_::_,[],_,h,_=>by cases h
theorem okT_mem{nx:Nat}:∀{l:List V},okT nx l->∀y∈l,ok0 nx y
 |[],_,y,h=>by cases h|x::r,B,y,h=>by
  rcases qak.1 h with rfl|h;.exact B.1
  .exact okT_mem B.2 y h
theorem k6r(hT:T.Ok){c:Con T.den}(hc:c.Ok P T){dr:Bool}{M:Nat}{h:THp T.den}{vs:List (TV T.den)}{K:TV T.den->THp T.den->Nat->Prop}(hh:tCall c dr M h vs K):∃xs pre r post ids v hu nf,K v hu nf/\SoundH P c.f xs pre r post/\preOk (erH T h) (sgm ids M) pre.length M M ids pre/\ids.Nodup/\ppOk pre post/\leArgs (sgm ids M) pre.length (vs.map (er T)) xs/\noTup r/\er T v=ren (sgm ids M) r/\erH T hu=hpNew (sgm ids M) 0 post/\nf=post.length-pre.length/\(dr=true->∀j o,post[pre.length+j]?=some o->notTip o)/\(dr=false->noIt (erH T h)):=by
 unfold tCall at hh;split at hh;.grind
 .rename_i ids al;split at hh;.grind
  .rename_i b hb;obtain⟨h1,h2⟩:=cnd hh;simp only[qh,Con.okB]at h1;obtain⟨⟨⟨⟨⟨ag,ah⟩,ai⟩,X⟩,aj⟩,am⟩:=h1;obtain⟨⟨⟨⟨⟨⟨⟨⟨⟨⟨o1,o2⟩,o3⟩,o4⟩,o5⟩,o6⟩,o7⟩,o8⟩,o9⟩,ao⟩,aq⟩:=ag;have X:=nb_eq X;have o5:=ble_le o5;obtain⟨y,g1,g2,g3⟩:=k8j hT o8 hb h2;obtain⟨x,k1,k2,_,k4⟩:=mtT_snd c.ins _ vs y _ o7 g1;obtain⟨o,m1,m2⟩:=hc.snd x _ k1;have ab:c.fi x=tkB c.pre b:=by unfold Con.fi;rw[k2,g2]
   have ac:Flat (tkB c.pre b):=k1k _ _;have Y:c.obs idf x=(tkC idf (tkB c.pre b) 0 c.pre _ y).1:=by unfold Con.obs;rw[ab,k2]
   have Z:((c.obs idf x).map (erO T)).length=c.pre.length:=by rw[qp,Y,tkC_len]
   have au:((c.ops idf o).map (erO T)).length=c.post.length:=by rw[qp];unfold Con.ops;rw[tkC_len]
   refine⟨_,_,_,_,ids,_,_,_,m1,m2,?_,k1x ah,⟨by grind,?_⟩,?_,?_,?_,?_,by grind,?_,λhd=>noIt_er (by grind)⟩
   .refine ko7 (by grind) λi k ob hk J=>?_;have ad:=k1u ai k (qbm hk);rw[Z];rw[qr,qac]at J;obtain⟨F,J,rfl⟩:=J;rw[Y]at J;refine⟨ad,ad,?_,tkC_ok ac (λj hj=>hj) 0 c.pre _ y o2 i F J,?_⟩
    .have hr:=tkC_ren (sgm ids M) (tkB c.pre b) ac 0 c.pre _ y;have hi:i<(tkC idf (tkB c.pre b) 0 c.pre (hsB c.pre) y).1.length:=(by grind);have aw:i<(tkC (sgm ids M) (tkB c.pre b) 0 c.pre (hsB c.pre) y).1.length:=by grind[tkC_len]
     have e:=congrArg (λl=>l[i]?) hr;grind[List.getElem?_eq_getElem,Option.some.injEq,sgm_at]
    .obtain⟨p,hp,B⟩:=tkC_at 0 c.pre _ y i F J;simp only[qav]at B;have U:=mtB_snd c.pre 0 b hb i p hp;cases p with
     |cells l=>obtain⟨c',rfl⟩:=B;trivial|tip e=>obtain⟨x1,e',x',q1,_,_⟩:=U;have B:F=flatG (fget (tkB c.pre b) i):=B;rw[q1]at B;subst B;trivial|vec e=>obtain⟨x1,e',x',q1,_,_⟩:=U;have B:F=flatG (fget (tkB c.pre b) i):=B;rw[q1]at B;subst B;trivial|map c1 d1=>obtain⟨x1,y1,c',d',x',y',q1,_,_⟩:=U;have B:F=flatG (fget (tkB c.pre b) i):=B;rw[q1]at B;subst B;trivial|it j c1 d1=>obtain⟨x1,y1,c',d',x',y',l',q1,_,_⟩:=U;obtain⟨m0,B⟩:=B;rw[q1]at B;subst B;trivial|dead=>grind[k82]
   .intro ob J;obtain⟨F,ae,rfl⟩:=qap.1 J;unfold Con.ops at ae;obtain⟨i,hi⟩:=qcl ae;obtain⟨p,hp,B⟩:=tkC_at 0 c.post _ _ i F hi;cases p with
    |cells l=>obtain⟨c',rfl⟩:=B;trivial|tip e=>have B:F=flatG (fget _ _):=B;rw[B];exact k7j _|vec e=>have B:F=flatG (fget _ _):=B;rw[B];exact k7j _|map c1 d1=>have B:F=flatG (fget _ _):=B;rw[B];exact k7j _|it j c1 d1=>grind[k99]|dead=>have B:F=.dead:=B;subst B;trivial
   .rw[Z];refine kjm k4 ?_ λz hz=>?_;.unfold Con.args;rw[tkT_er,tkT_er,ab,k34 (sgm ids M)];grind[List.map_congr_left,ren_0,k1y]
    .unfold Con.args at hz;rw[tkT_er]at hz;obtain⟨u,_,rfl⟩:=qap.1 hz;exact ok_of0 (okT_mem (tkT_ok (λj hj=>hj) c.ins _ x o1) _ hz) k1y
   .exact kkk _ _ _
   .exact tkV_ren _ _ _ _ _
   .exact(hpN_new 0 _ _ (tkC_ren _ _ (k1k _ _) 0 c.post _ _)).symm
   .intro ak j ob J;subst ak;rw[Z,qr,qac]at J;obtain⟨F,J,rfl⟩:=J;unfold Con.ops at J;obtain⟨p,hp,B⟩:=tkC_at 0 c.post _ _ _ F J;simp only[qav]at B;have hf:(c.post.drop c.pre.length).all (λo=>match o with|.tip _=>false|_=>true)=true:=aj;rw[qbq]at hf;have ax:p∈c.post.drop c.pre.length:=qbm (i:=j) (by grind);cases p with
    |cells l=>obtain⟨c',rfl⟩:=B;trivial|tip e=>grind|vec e=>have B:F=flatG (fget _ _):=B;obtain⟨y1,aa⟩:=tkB_vec (x:=drC c.post _ (drV c.res _ o)) hp;unfold Con.fo at B;rw[aa]at B;subst B;trivial|map c1 d1=>have B:F=flatG (fget _ _):=B;obtain⟨y1,z1,aa⟩:=tkB_map (x:=drC c.post _ (drV c.res _ o)) hp;unfold Con.fo at B;rw[aa]at B;subst B;trivial|it j c1 d1=>grind[k99]|dead=>have B:F=.dead:=B;subst B;trivial
theorem ktt{g:FuncId}{xs B:List V}{r:V}(Z:xs.length=B.length)(h:∀(j:Nat)x y,xs[j]?=some x->B[j]?=some y->le x y)(hs:SoundX P g B r):SoundX P g xs r:=by
 intro G w J nx vs F M;refine hs G w J nx vs qqo λj v y U Y=>?_;have X:j<xs.length:=by grind
 exact(M j v _ U (qf X)).le (by grind)
theorem kk9:∀{ts:List Ty}{vs:List (TV T.den)}{z:HL T.den ts},packL ts vs=some z->∀v∈vs,v.one=true
 |[],[],_,_,v,B=>by cases B|[],_::_,_,h,_,_=>by cases h|_::_,[],_,h,_,_=>by cases h|t::r,u::vs,z,h,v,B=>by
  simp only[packL]at h;split at h
  .rename_i x F;split at h
   .rename_i y J;rcases qak.1 B with rfl|B;.exact kjw F
    .exact kk9 J v B
   .cases h
  .cases h
theorem tvs_er:∀ts x,ts.all (λt=>!t.agg)=true->(tvs ts x).map (er T)=(T.eL ts x).map .d
 |[],_,_=>rfl|t::r,x,h=>by simp only[qen,qh]at h;show er T (.d t x.1)::(tvs r x.2).map (er T)=.d (T.e t x.1)::(T.eL r x.2).map .d;rw[tvs_er r x.2 h.2];rfl
theorem tX_snd{c:XCon T.den}(F:c.Ok P T){vs:List (TV T.den)}{i:HL T.den c.ins}(U:packL c.ins vs=some i)(Z:c.ok i):SoundX P c.f (vs.map (er T)) (er T (outV c.out (c.val i))):=by have X:=k8h F.1 U;obtain⟨Y,q2,q3⟩:=k37 X;have hs:=F.2 i Z;rw[tvs_er _ _ F.1]at hs;have B:=kk9 U;have e:=qar λv J=>er_of1 (B v J);rw[e];refine ktt Y (λj x y M hy=>?_) hs;rw[qr,qac]at M;obtain⟨v,J,rfl⟩:=M;exact le_of1 er1_na (by grind)
theorem kc5{g:Nat}{x:XCon T.den}:∀{l:List (XCon T.den)},findX g l=some x->x∈l/\x.f=g
 |[],h=>by cases h|c::r,h=>by simp only[findX]at h;cases B:Nat.beq c.f g with
  |true=>rw[B]at h;injection h with h;subst h;exact⟨by simp,nb_eq B⟩|false=>rw[B]at h;obtain⟨h1,F⟩:=kc5 (l:=r) h;exact⟨by simp[h1],F⟩
theorem k3d{g:Nat}{vs:List (TV T.den)}{K:Con T.den->Prop}:∀{l:List (Con T.den)},findC g vs K l->∃c∈l,c.f=g/\K c
 |[],h=>h.elim|c::r,h=>by simp only[findC]at h;cases B:Nat.beq c.f g&&fitT c.ins vs with
  |true=>rw[B]at h;simp only[qh]at B;cases M:c.alt with
   |false=>rw[M]at h;exact⟨c,by simp,nb_eq B.1,h⟩|true=>
    rw[M]at h;rcases h with h|h;.exact⟨c,by simp,nb_eq B.1,h⟩
    .obtain⟨F,h1,J⟩:=k3d (l:=r) h;exact⟨F,by simp[h1],J⟩
  |false=>rw[B]at h;obtain⟨F,h1,J⟩:=k3d (l:=r) h;exact⟨F,by simp[h1],J⟩
theorem tdv_er(B:T.Ok)(t:Ty)(x:t.den T.den):er T (tdv T t x)=V.ofD (T.e t x):=by cases t with
 |st n=>show V.agg (((tds (T.tys n) (T.cells n x)).map TD.v).map (er1 T))=V.ofD (T.enc n x);rw[B.en n x,map_v,tds_e];rfl|_=>rfl
theorem tdv_er0(B:T.Ok)(t:Ty)(x:t.den T.den):er0 T (tdv T t x)=V.ofD (T.e t x):=by have h:=tdv_er B t x;cases t<;>exact h
theorem ko0(d:D):notTupV (V.ofD d):=by cases d<;>trivial
theorem kpr(J:T.Ok){e:Ty}{v:TV T.den}{x:e.den T.den}(F:toEl T e v=some x):le0 (er T v) (V.ofD (T.e e x)):=by
 have B:∀{t:Ty}{x:t.den T.den},toEl1 t v=some x->le0 (er T v) (V.ofD (T.e t x)):=by
  intro t x h;obtain⟨h1,M,U⟩:=k46 h;have X:V.ofD (T.e t x)=.d (T.e t x):=by cases t<;>first|rfl|cases U
  have Y:er T v=er1 T v:=by cases v with
   |agg l=>cases t<;>cases h|tup l=>cases t<;>cases h|_=>rfl
  unfold le0;grind
 cases e with
 |st n=>obtain⟨l,z,rfl,Z,rfl⟩:=k55 F;show le0 (.agg (l.map (er1 T))) (V.ofD (T.enc n (T.pack n z)));rw[J.en,J.pc];exact k8h (J.one n) Z|sl e=>exact B (t:=.sl e) F|bool=>exact B (t:=.bool) F|int k=>exact B (t:=.int k) F|str=>exact B (t:=.str) F
theorem key_er{k:Ty}{v:TV T.den}{x:k.den T.den}{d:TypeDesc}(B:toEl1 k v=some x)(F:(T.e k x).isKey d):er T v=.d (T.e k x):=by cases k with
 |sl e=>exact F.elim|st n=>cases B|bool=>rw[(isB_er B).2];rfl|int q=>
  have h1:toEl2 (.int q) v=some x:=B;unfold toEl2 at h1;split at h1;.obtain⟨rfl,rfl⟩:=Ty.cast_some h1;rfl
  .cases h1|str=>
  have h1:toEl2 .str v=some x:=B;unfold toEl2 at h1;split at h1;.obtain⟨rfl,rfl⟩:=Ty.cast_some h1;rfl
  .cases h1
theorem keq_er(F:T.Ok){k:Ty}{d:TypeDesc}(B:∀y,(T.e k y).isKey d)(a b:k.den T.den):(T.e k a).keq (T.e k b)=Ty.keq k a b:=by cases k with
 |sl e=>exact(B a).elim|st n=>have h:(T.enc n a).isKey d:=B a;have e:=F.en n a;exact(show False from show D.isKey d (.agg (T.eL (T.tys n) (T.cells n a)))from by grind).elim|bool=>rfl|str=>rfl|int q=>show(decide (q=q)&&@BEq.beq Int _ a b)=@BEq.beq Int _ a b;simp
def mEs(T:Tab)(k v:Ty)(B:List (k.den T.den))(vs:List (v.den T.den)):List (D×V):=(B.zip vs).map λp=>(T.e k p.1,V.ofD (T.e v p.2))
theorem kea{k v:Ty}(a:k.den T.den)(B:List (k.den T.den))(b:v.den T.den)(vs:List (v.den T.den)):mEs T k v (a::B) (b::vs)=(T.e k a,V.ofD (T.e v b))::mEs T k v B vs:=rfl
theorem mEs_get{k v:Ty}:∀B vs(j:Nat),B.length=vs.length->(mEs T k v B vs)[j]?=match B[j]?,vs[j]? with|some a,some b=>some (T.e k a,V.ofD (T.e v b))|_,_=>none
 |[],[],_,_=>by simp[mEs]|[],_::_,_,h=>by simp at h|_::_,[],_,h=>by simp at h|a::B,b::vs,0,_=>by simp[mEs]|a::B,b::vs,j+1,h=>by rw[kea,qbc,mEs_get B vs j qqh];simp
theorem mEs_key{k v:Ty}{d:TypeDesc}(B:∀y,(T.e k y).isKey d)(F:List (k.den T.den))(vs:List (v.den T.den)):∀e∈mEs T k v F vs,e.1.isKey d:=by intro e he;obtain⟨p,_,rfl⟩:=qap.1 he;exact B _
theorem mpos_er(F:T.Ok){k v:Ty}{d:TypeDesc}(J:∀y,(T.e k y).isKey d)(key:k.den T.den):∀B vs,B.length=vs.length->mpos (T.e k key) (mEs T k v B vs)=mIdx (Ty.keq k key) B
 |[],[],_=>rfl|[],_::_,h=>by simp at h|_::_,[],h=>by simp at h|a::B,b::vs,h=>by rw[kea];simp only[mpos,mIdx,keq_er F J,mpos_er F J key B vs (by grind)]
theorem mIdx_lt{α:Type}{p:α->Bool}:∀{l:List α}{j:Nat},mIdx p l=some j->j<l.length
 |[],_,h=>by cases h|x::r,j,h=>by simp only[mIdx]at h;cases B:p x with
  |true=>grind|false=>rw[B]at h;simp at h;obtain⟨i,h1,rfl⟩:=h;have:=mIdx_lt h1;simp;omega
theorem mget_er(F:T.Ok){k v:Ty}{d:TypeDesc}(J:∀y,(T.e k y).isKey d)(key:k.den T.den)(B:List (k.den T.den))(vs:List (v.den T.den))(h:B.length=vs.length)(z:v.den T.den):(mget (mEs T k v B vs) (T.e k key)).getD (V.ofD (T.e v z))=V.ofD (T.e v (mVal (Ty.keq k key) B vs z))/\(mget (mEs T k v B vs) (T.e k key)).isSome=mHas (Ty.keq k key) B:=by unfold mget mVal mHas;rw[mpos_er F J key B vs h];grind[mIdx_lt,mEs_get]
theorem mset_er(M:T.Ok){k v:Ty}{d:TypeDesc}(U:∀y,(T.e k y).isKey d)(key:k.den T.den)(x:v.den T.den)(B:List (k.den T.den))(vs:List (v.den T.den))(h:B.length=vs.length):mset (mEs T k v B vs) (T.e k key) (V.ofD (T.e v x))=mEs T k v (mPutK (Ty.keq k key) B key) (mPutV (Ty.keq k key) B vs x):=by unfold mset mPutK mPutV;rw[mpos_er M U key B vs h];cases F:mIdx (Ty.keq k key) B with
 |none=>unfold mEs;rw[List.zip_append h,qbj];rfl|some j=>
  apply qdg;intro q;rw[qef,mEs_get B vs q h,mEs_get _ _ q (by grind),qef,qef];have X:=mIdx_lt F;have Y:j<(mEs T k v B vs).length:=by simp only[mEs,qp,List.length_zip];omega
  grind
theorem kaq{k v:Ty}:∀B vs j,B.length=vs.length->(mEs T k v B vs).eraseIdx j=mEs T k v (B.eraseIdx j) (vs.eraseIdx j)
 |[],[],_,_=>rfl|[],_::_,_,h=>by simp at h|_::_,[],_,h=>by simp at h|a::B,b::vs,0,_=>rfl|a::B,b::vs,j+1,h=>by have:=kaq B vs j qqh;rw[kea,List.eraseIdx_cons_succ,this];rfl
theorem ix_at{α:Type}{d:α}{l:List α}{j:Nat}{a:α}(h:l[j]?=some a):@ix α ⟨d⟩ l j=a:=by obtain⟨B,rfl⟩:=qq.1 h;unfold ix;simp[B]
theorem koc{t:TypeId}{F:TI T.den}{r:Option Operand}{o:Oper}{N:Nat}{s:TSt T.den}{K:TV T.den->THp T.den->Nat->Prop}(Z:o.op=.makeMap t r)(hx:TI.Ok P T t F)(h:tMakeMap T F s r s.nx K):AOpX P N o (Goes T s o.dst K) (erS T s):=by
 unfold tMakeMap at h;split at h;.rename_i k v B;obtain⟨h1,J⟩:=cnd h;unfold AOpX;rw[Z];refine⟨?_,Goes.of J rfl⟩;cases r with
  |none=>trivial|some x=>obtain⟨M,d,⟨U,X,_⟩,_⟩:=hx.mp k v B;refine⟨⟨U,M,X⟩,?_⟩;obtain⟨⟨q,n⟩,Y⟩:=qai.1 h1;exact⟨q,n,by rw[ev_er,asI_eq Y];rfl⟩
 grind
theorem kk7(Y:T.Ok){t:TypeId}{Z:TI T.den}(hx:TI.Ok P T t Z){c:Bool}{x i:Operand}{s:TSt T.den}{K:TV T.den->THp T.den->Nat->Prop}(h:tLookup T Z s.h c (s.ev x) (s.ev i) K):∃v,K v [] 0/\lookV P (erS T s).h (erS T s).ev t x i c (er T v):=by
 unfold tLookup at h;split at h
 .rename_i k v id B F;obtain⟨et,d,g1,J,g3⟩:=hx.mp k v B;split at h
  .rename_i X M U vs hg;split at h
   .rename_i aa ab key c1 c2 c3;obtain⟨rfl,rfl⟩:=Ty.cast_some c1;obtain⟨rfl,rfl⟩:=Ty.cast_some c2;obtain⟨hl,h⟩:=h;obtain⟨q1,q2⟩:=mget_er Y J key U vs hl (T.dflt M);refine⟨_,h,et,d,T.e X key,mEs T X M U vs,_,g1,by grind[ev_er,key_er],J _,.inl ⟨id,by rw[ev_er,F];rfl,?_⟩,mEs_key J U vs,g3,?_⟩;.exact getE hg
    .rw[q1,q2];cases c with
     |false=>grind[tdv_er]|true=>show V.tup [er0 T (tdv T M _),_]=_;rw[tdv_er0 Y];rfl
   grind
  grind
 grind
theorem kqp(J:T.Ok){t:TypeId}{B:TI T.den}(M:TI.Ok P T t B){c:Bool}{x i:Operand}{o:Oper}{N:Nat}{s:TSt T.den}{K:TV T.den->THp T.den->Nat->Prop}(U:o.op=.lookup t x i c)(h:tLookup T B s.h c (s.ev x) (s.ev i) K):AOpX P N o (Goes T s o.dst K) (erS T s):=by obtain⟨v,h1,F⟩:=kk7 J M h;unfold AOpX;rw[U];exact⟨_,F,Goes.of h1 rfl⟩
theorem kub(Y:T.Ok){t:TypeId}{Z:TI T.den}(hx:TI.Ok P T t Z){m i y:Operand}{s:TSt T.den}{K:TV T.den->THp T.den->Nat->Prop}(h:tMapUpd T Z s.h (s.ev m) (s.ev i) (s.ev y) K):∃id o es',K .any [(id,o)] 0/\erO T o=.map (.m es')/\updV P (erS T s).h (erS T s).ev t m i y id es':=by
 unfold tMapUpd at h;split at h
 .rename_i k v id B F;obtain⟨et,d,g1,J,g3⟩:=hx.mp k v B;split at h
  .rename_i U X M vs hg;split at h
   .rename_i aa ab key val c1 c2 c3 c4;obtain⟨rfl,rfl⟩:=Ty.cast_some c1;obtain⟨rfl,rfl⟩:=Ty.cast_some c2;obtain⟨hl,h⟩:=h;refine⟨id,_,_,h,rfl,et,d,T.e U key,mEs T U X M vs,g1,by grind[ev_er,key_er],J _,by rw[ev_er,F];rfl,?_,mEs_key J M vs,V.ofD (T.e X val),by rw[ev_er];exact kpr Y c4,ko0 _,?_⟩;.exact getE hg
    .exact(mset_er Y J key val M vs hl).symm
   grind
  grind
 grind
theorem kqj(Z:T.Ok){t:TypeId}{ti:TI T.den}(hx:TI.Ok P T t ti){m i y:Operand}{o:Oper}{N:Nat}{s:TSt T.den}{K:TV T.den->THp T.den->Nat->Prop}(ho:o.op=.mapUpdate t m i y)(U:noItT s.h=true)(h:tMapUpd T ti s.h (s.ev m) (s.ev i) (s.ev y) K):AOpX P N o (Goes T s o.dst K) (erS T s):=by
 unfold tMapUpd at h;split at h
 .rename_i k v id B F;obtain⟨et,d,g1,J,g3⟩:=hx.mp k v B;split at h
  .rename_i X Y M vs hg;split at h
   .rename_i aa ab key val c1 c2 c3 c4;obtain⟨rfl,rfl⟩:=Ty.cast_some c1;obtain⟨rfl,rfl⟩:=Ty.cast_some c2;obtain⟨hl,h⟩:=h;unfold AOpX;rw[ho];refine⟨noIt_er U,et,d,T.e X key,mEs T X Y M vs,id,g1,by grind[ev_er,key_er],J _,by rw[ev_er,F];rfl,?_,mEs_key J M vs,V.ofD (T.e Y val),by rw[ev_er];exact kpr Z c4,ko0 _,?_⟩;.exact getE hg
    .rw[mset_er Z J key val M vs hl];exact Goes.of h rfl
   grind
  grind
 grind
theorem mdel_er(F:T.Ok){k v:Ty}{d:TypeDesc}(J:∀y,(T.e k y).isKey d)(key:k.den T.den)(B:List (k.den T.den))(vs:List (v.den T.den))(h:B.length=vs.length):mdel (mEs T k v B vs) (T.e k key)=mEs T k v (mDelK (Ty.keq k key) B) (mDelV (Ty.keq k key) B vs):=by unfold mdel mDelK mDelV;rw[mpos_er F J key B vs h];grind[kaq]
theorem kqe(hT:T.Ok){ti:TI T.den}{ts:Array TypeId}{M:Array Operand}(hx:TI.Ok P T (ts.getD 0 0) ti){ty:TypeId}{pos:String}{B:Array Edge}{F:Option (Nat×Bool)}{J:On}{N:Nat}{s:TSt T.den}{K:TV T.den->THp T.den->Nat->Prop}(aa:noItT s.h=true)(ha:M.size=2)(ht:ts.size=2)(h:tDelete T ti s.h (s.ev (M.getD 0 (.const .nilIface))) (s.ev (M.getD 1 (.const .nilIface))) K):AOpX P N ⟨J,.call ⟨.builtin .delete,M,ts⟩,ty,pos,B,F⟩ (Goes T s J K) (erS T s):=by
 unfold tDelete at h;split at h
 .rename_i k v id U X;obtain⟨et,d,g1,Y,g3⟩:=hx.mp k v U;split at h
  .rename_i k' v' Z vs hg;split at h
   .rename_i ab ac key c1 c2 c3;obtain⟨rfl,rfl⟩:=Ty.cast_some c1;obtain⟨rfl,rfl⟩:=Ty.cast_some c2;obtain⟨hl,h⟩:=h;refine⟨⟨ha,ht⟩,noIt_er aa,et,d,T.e k' key,mEs T k' v' Z vs,id,g1,?_,Y _,?_,?_,mEs_key Y Z vs,?_⟩;.grind[ev_er,key_er]
    .rw[ev_er,X];rfl
    .exact getE hg
    .rw[mdel_er hT Y key Z vs hl];exact Goes.of h rfl
   grind
  grind
 grind
theorem ku5{ti:TI T.den}{ts:Array TypeId}{Y:Array Operand}(hx:TI.Ok P T (ts.getD 0 0) ti){ty:TypeId}{pos:String}{F:Array Edge}{J:Option (Nat×Bool)}{M:On}{N:Nat}{s:TSt T.den}{K:TV T.den->THp T.den->Nat->Prop}{id:Nat}(ha:Y.size=1)(ht:ts.size=1)(Z:s.ev (Y.getD 0 (.const .nilIface))=.mp id)(h:tLenM T ti s.h (.mp id) K):AOpX P N ⟨M,.call ⟨.builtin .len,Y,ts⟩,ty,pos,F,J⟩ (Goes T s M K) (erS T s):=by
 unfold tLenM at h;split at h
 .rename_i k v aa U B;injection B with B;subst B;obtain⟨et,d,g1,g2,g3⟩:=hx.mp k v U;split at h
  .rename_i k' v' X vs hg;obtain⟨hl,h⟩:=h;refine⟨⟨ha,ht⟩,et,d,mEs T k' v' X vs,id,g1,?_,?_,?_⟩;.rw[ev_er,Z];rfl
   .exact getE hg
   .have e:(mEs T k' v' X vs).length=X.length:=by simp only[mEs,qp,List.length_zip];omega
    rw[e];exact Goes.of h rfl
  grind
 grind
theorem ks8{t:TypeId}{J:TI T.den}(hx:TI.Ok P T t J){x:Operand}{o:Oper}{N:Nat}{s:TSt T.den}{K:TV T.den->THp T.den->Nat->Prop}(ho:o.op=.range t x)(h:tRange T J s.h s.nx (s.ev x) K):AOpX P N o (Goes T s o.dst K) (erS T s):=by
 unfold tRange at h;split at h
 .rename_i k v id B F;obtain⟨M,d,U,g2,g3⟩:=hx.mp k v B;split at h;.rename_i X Y Z vs hg;unfold AOpX;rw[ho];refine⟨M,d,mEs T X Y Z vs,id,U,by rw[ev_er,F];rfl,?_,Goes.of h rfl⟩;exact getE hg
  grind
 grind
theorem ktj(hT:T.Ok){x:Operand}{o:Oper}{N:Nat}{s:TSt T.den}{K:TV T.den->THp T.den->Nat->Prop}(ho:o.op=.next x false)(h:tNext T s.h (s.ev x) K):AOpX P N o (Goes T s o.dst K) (erS T s):=by
 unfold tNext at h;split at h
 .rename_i id J;split at h
  .rename_i mid k v B vs F hg;split at h
   .rename_i k2 v2 M U hm;obtain⟨X,h0,h1⟩:=h;unfold AOpX;rw[ho];refine⟨rfl,id,mid,mEs T k2 v2 M U,mEs T k v B vs,F.map λp=>(T.e k p.1,V.ofD (T.e v p.2)),by rw[ev_er,J];rfl,?_,?_,λhr=>?_,λj e he=>?_⟩;.exact getE hg
    .exact getE hm
    .have:B=[]:=by cases B with
      |nil=>rfl|cons a B=>cases vs with
       |nil=>cases X|cons b vs=>cases hr
     exact Goes.of (h0 this) rfl
    .rw[mEs_get B vs j X]at he;split at he;.rename_i a b Y Z;have hj:=(qq.1 Y).1;injection he with he;have ea:@ix _ ⟨T.dflt k⟩ B (j:Int)=a:=ix_at Y;have eb:@ix _ ⟨T.dflt v⟩ vs (j:Int)=b:=ix_at Z;have:=h1 j hj;rw[ea,eb]at this;refine Goes.of this ?_;show St.put ⟨_,(id,Ob.map (.it mid ((mEs T k v B vs).eraseIdx j) (some e)))::_,_⟩ _ (V.tup [V.d (.bool true),V.d e.1,e.2])=St.put ⟨_,(id,Ob.map (.it mid (mEs T k v (B.eraseIdx j) (vs.eraseIdx j)) (some (T.e k a,V.ofD (T.e v b)))))::_,_⟩ _ (V.tup [V.d (.bool true),V.d (T.e k a),er0 T (tdv T v b)]);rw[tdv_er0 hT,kaq B vs j X,<-he];rfl
     .cases he
   grind
  grind
 grind
theorem ks6(Z:T.Ok){x:Operand}{o:Oper}{N:Nat}{s:TSt T.den}{K:TV T.den->THp T.den->Nat->Prop}(ho:o.op=.entry x)(h:tEntry T s.h (s.ev x) K):AOpX P N o (Goes T s o.dst K) (erS T s):=by
 unfold tEntry at h;split at h
 .rename_i id B;split at h
  .rename_i mid k v M vs p U;split at h
   .rename_i k2 X F J Y;unfold AOpX;rw[ho];refine⟨id,mid,mEs T k2 X F J,mEs T k v M vs,(T.e k p.1,V.ofD (T.e v p.2)),by rw[ev_er,B];rfl,?_,?_,Goes.of h ?_⟩;.exact getE U
    .exact getE Y
    .show St.put _ _ (V.tup [V.d (T.e k p.1),V.ofD (T.e v p.2)])=St.put _ _ (V.tup [V.d (T.e k p.1),er0 T (tdv T v p.2)]);rw[tdv_er0 Z];rfl
   grind
  grind
 grind
end
section
variable{T:Tab}{P:Program}{C:Cx T}{N:Nat}
theorem dstB_ok{d:On}(h:dstB N d=true):dstOk N d:=by cases d with
 |none=>trivial|some t=>exact blt_lt h
theorem fnOf_eq{v:TV T.den}{g:Nat}(h:fnOf T v=some g):v=.k (.func (.func g) #[] #[]):=by
 unfold fnOf at h;split at h;.rename_i B a b;cases F:Nat.beq a.size 0&&Nat.beq b.size 0 with
  |false=>grind|true=>simp_all
 .cases h
theorem cloT_er:∀l,(cloT T l).map (er T)=cloV l
 |[]=>rfl|none::r=>congrArg (List.cons _) (cloT_er r)|some _::r=>congrArg (List.cons _) (cloT_er r)
theorem fnTG_eq{v:TV T.den}{g:Nat}(h:fnTG T v=some g):fnG (er T v)=some g/\∀xs,(fnTA T v xs).map (er T)=fnA (er T v) (xs.map (er T)):=by
 unfold fnTG at h;split at h;.rename_i F B cs;refine⟨h,λxs=>?_⟩;show(cloT T B++(xs++cloT T cs)).map (er T)=cloV B++(xs.map (er T)++cloV cs);grind[cloT_er]
 .cases h
theorem kuf(v:TV T.den):isNilV (er T v)=v.isNil:=by cases v with
 |k u=>show isNilV (.k u)=isNilK u;unfold isNilV isNilK;grind|d t x=>rfl|agg l=>rfl|tup l=>rfl|_=>rfl
theorem k6q(M:T.Ok){t:TypeId}{U:TI T.den}(hx:TI.Ok P T t U){e:Ty}{X n:Nat}(F:U.el=some (e,X)){is:Ln}{vs:List (TV T.den)}{l:List (e.den T.den)}(h1:toEls T e vs=some l)(Y:(vs.all (noK T)&&rangeB 0 is&&Nat.beq n is.length&&Nat.ble (n*T.sz e) 16777216)=true)(hl:is.length=vs.length):((rowOf P t).isSome=true/\is=List.range n/\(toDs (vs.map (er T))).isSome=true/\sizesOk (rowD P t).1 ((toDs (vs.map (er T))).getD [])/\n*(rowD P t).1<=16777216)/\V.full (rowD P t).1 ((toDs (vs.map (er T))).getD [])=er T (.full e l):=by
 simp only[qh]at Y;obtain⟨⟨⟨k1,k2⟩,k3⟩,Z⟩:=Y;have J:=(hx.el _ _ F).2;have B:rowD P t=(T.sz e,X):=by unfold rowD;grind
 obtain⟨g1,g2⟩:=toEls_D M h1 k1;have hr:=kks k2 (nb_eq k3).symm;rw[B,g1];refine⟨⟨by grind,?_,rfl,kk8 M l,ble_le Z⟩,rfl⟩;rw[hr];simp
theorem kr6(hT:T.Ok)(Z:C.Ok P T){o:Oper}{rw:Bool}{s:TSt T.den}{K:TV T.den->THp T.den->Nat->Prop}(ag:dstB N o.dst=true)(h:tStep T C rw s K o.op):AOp P N o (Goes T s o.dst K) (erS T s):=by
 have U:=dstB_ok ag;clear ag;obtain⟨J,op,ty,pos,ah,ai⟩:=o;have F:∀op,tq T C.ti s (λv=>K v [] 0) op->avOk P (erS T s).h (erS T s).ev op/\Goes T s J K ((erS T s).put J (av P (erS T s).h (erS T s).ev op)):=by intro op h;obtain⟨u,h1,X,h3⟩:=tq_snd hT Z.ti h;exact⟨X,by rw[h3];exact Goes.of h1 rfl⟩
 simp only at h U;cases op with
 |alloc t=>
  simp only[tStep,tOp]at h;split at h
  .rename_i z hz;obtain⟨q1,q2⟩:=(Z.ti.of t).ze z hz;refine⟨U,by rw[q1];rfl,Goes.of h ?_⟩;have:zeroD P t=z.map (er1 T):=by unfold zeroD;rw[q1];rfl
   rw[this];rfl
  grind|box t x=>simp only[tStep,tOp]at h;obtain⟨h1,X⟩:=cnd h;obtain⟨c1,c2⟩:=k5s h1;refine⟨U,⟨_,by rw[ev_er];exact c2⟩,Goes.of X ?_⟩;show St.put ⟨_,(s.nx,.cells ((erS T s).ev x).cells)::_,_⟩ J _=_;rw[ev_er,c1];rfl|store t a x=>
  simp only[tStep,tOp]at h;obtain⟨id,off,l,g,n,o,h1,X,h3,h4,h5,h6,h7⟩:=khv hT (Z.ti.of t) h;refine⟨U,?_,?_⟩;.show storeOk _ _ ((erS T s).ev x) ((erS T s).ev a);rw[ev_er,ev_er,X,h4,kua];show storeO _ _ _ ((erH T s.h).get id);rw[h3];exact⟨h5,h6⟩
  .show Goes T s J K (St.put ⟨(erS T s).sl,storeH (erH T s.h) ((erS T s).ev x) ((erS T s).ev a),s.nx⟩ J .any);rw[ev_er,ev_er,X,kvt,h3];show Goes T s J K (St.put ⟨(erS T s).sl,(id,.cells (setAt l off (er T (s.ev x)).cells))::erH T s.h,s.nx⟩ J .any);rcases h7 with h7|⟨_,B,h7,h8⟩;.refine Goes.of h1 ?_;show _=St.put ⟨_,(id,erO T o)::_,_⟩ J _;rw[h7];rfl
   .exact Goes.weak h1 rfl h7 h8|build t M=>
  simp only[tStep,tOp]at h;split at h;.rename_i z hz;obtain⟨q1,q2⟩:=(Z.ti.of t).ze z hz;cases hp:(TI.of C.ti t).pl.isEmpty with
   |true=>grind|false=>
    rw[hp]at h;have al:=(Z.ti.of t).pl (by grind);obtain⟨l',g1,g2,g3⟩:=kc2 _ _ h;have e1:zeroD P t=z.map (er1 T):=by unfold zeroD;rw[q1];rfl
    have e2:plD P t=(TI.of C.ti t).pl:=by unfold plD;grind
    have e3:(M.toList.map λp=>(p.1,(erS T s).ev p.2))=(M.toList.map λp=>(p.1,s.ev p.2)).map λp=>(p.1,er T p.2):=by grind[List.map_map,List.map_congr_left,ev_er]
    refine⟨U,by grind,by rw[q1];rfl,?_,?_⟩;.grind
    .show Goes T s J K ((erS T s).put J (.agg (fillR (plD P t) (zeroD P t) (M.toList.map λp=>(p.1,(erS T s).ev p.2)))));rw[e1,e2,e3,g3];exact Goes.of g1 rfl
  grind|buildSlice t n M=>
  simp only[tStep,tOp]at h;split at h
  .rename_i e bt aj;split at h
   .rename_i l hl;obtain⟨h1,X⟩:=cnd h;have e3:(M.toList.map λp=>(erS T s).ev p.2)=(M.toList.map λp=>s.ev p.2).map (er T):=by grind[List.map_map,List.map_congr_left,ev_er]
    obtain⟨⟨k1,k2,k3,k4,k5⟩,k6⟩:=k6q hT (Z.ti.of t) aj (is:=M.toList.map (·.1)) hl (by rw[qp];exact h1) qqs;rw[<-e3]at k3 k4 k6;cases rw with
    |false=>simp only[qcc]at X;refine⟨U,k1,k2,k3,k4,k5,.inl ?_⟩;show Goes T s J K (St.put ⟨_,_,_⟩ J (V.full (rowD P t).1 _));rw[k6];exact Goes.of X rfl|true=>
     simp only[qdr]at X;refine⟨U,k1,k2,k3,k4,k5,.inr ?_⟩;have k7:=k6;injection k7 with k8 k9;simp only[qh]at h1;have hn:n=l.length:=by grind[nb_eq,toEls_D,List.length_map]
     show Goes T s J K (St.put ⟨_,(s.nx,.cells _)::_,_⟩ J (V.row s.nx 0 n (rowD P t).1));rw[k8,k9,hn];exact Goes.of X rfl
   grind
  grind|makeSlice t l c=>have h:=h;obtain⟨h1,X⟩:=kti (d:=J) (Z.ti.of t) h;rw[<-ev_er,<-ev_er]at h1;rw[<-ev_er]at X;exact⟨U,h1,X⟩|binOp op t x y t'=>simp only[tStep]at h;show _/\match isNilV ((erS T s).ev y)with|true=>_|false=>_;rw[ev_er,kuf];refine⟨U,?_⟩;cases hn:(s.ev y).isNil with
  |true=>rw[hn]at h;obtain⟨_,X,h3,h4⟩:=kvp (Z.ti.of t) h;obtain⟨_,_,h5,_⟩:=h4 false (λh=>by cases h);refine⟨h5,X,by rw[ev_er];exact h3,λb hb=>?_⟩;obtain⟨u,g1,_,g3⟩:=h4 b (by grind[ev_er]);rw[g3];exact Goes.of g1 rfl|false=>rw[hn]at h;exact F _ h
 |call c=>obtain⟨ac,args,ae⟩:=c;refine⟨U,?_⟩;cases ac with
  |builtin b=>cases b with
   |append=>
    simp only[tStep,tOp]at h;obtain⟨h1,X⟩:=cnd h;simp only[qh]at h1;refine⟨⟨nb_eq h1.1.1,nb_eq h1.1.2,nb_eq h1.2⟩,?_⟩;rcases kqz (d:=J) hT (Z.ti.of _) X with⟨g1,g2⟩|g;rotate_left;.refine .inr ?_;show appRowA P (erS T s) _ ((erS T s).ev _) ((erS T s).ev _) J _;rw[ev_er,ev_er];exact g
    refine .inl ⟨?_,?_⟩;.show appOk P (erS T s) _ ((erS T s).ev _) ((erS T s).ev _);rw[ev_er,ev_er];exact g1
    .show Goes T s J K (appS P (erS T s) _ ((erS T s).ev _) ((erS T s).ev _) J);rw[ev_er,ev_er];exact g2|copy=>
    simp only[tStep,tOp]at h;obtain⟨h1,X⟩:=cnd h;simp only[qh]at h1;obtain⟨g1,g2⟩:=kt3 (d:=J) hT (Z.ti.of _) X;refine⟨⟨nb_eq h1.1,nb_eq h1.2⟩,?_,?_⟩;.show copyOk P _ _ ((erS T s).ev _) ((erS T s).ev _);rw[ev_er,ev_er];exact g1
    .show Goes T s J K (St.put ⟨_,copyH _ ((erS T s).ev _) ((erS T s).ev _),_⟩ J (copyN ((erS T s).ev _) ((erS T s).ev _)));rw[ev_er,ev_er];exact g2|len=>
    simp only[tStep,tOp]at h;split at h;.rename_i id ab;obtain⟨h1,X⟩:=cnd h;simp only[qh]at h1;exact .inr (ku5 (Z.ti.of _) (nb_eq h1.1) (nb_eq h1.2) ab X)
    grind|delete=>simp only[tStep,tOp]at h;obtain⟨h1,X⟩:=cnd h;simp only[qh]at h1;exact kqe hT (Z.ti.of _) h1.1.1.2 (nb_eq h1.1.2) (nb_eq h1.2) X|min=>exact F _ h|max=>exact F _ h|_=>exact(show False from h).elim
  |value f=>
   simp only[tStep,tOp]at h;split at h
   .rename_i g hf;have ab:(erS T s).ev f=.k (.func (.func g) #[] #[]):=by rw[ev_er,fnOf_eq hf];rfl
    have ea:args.toList.map (erS T s).ev=(args.toList.map s.ev).map (er T):=by grind[List.map_map,List.map_congr_left,ev_er]
    split at h
    .rename_i x hx;obtain⟨m1,m2⟩:=kc5 hx;split at h;.rename_i i hi;obtain⟨h1,X⟩:=h;refine .inl ⟨g,_,ab,?_,Goes.of X rfl⟩;have:=tX_snd (Z.xs x m1) hi h1;grind
     grind
    .obtain⟨c,m1,m2,m3⟩:=k3d h;obtain⟨xs,pre,r,Y,ids,v,hu,nf,k1,k2,k3,k4,k5,k6,k7,k8,k9,ak,_,ad⟩:=k6r hT (Z.cs c m1) m3;have aa:=(Z.cs c m1).cl;rw[m2]at aa k2;refine .inr ⟨g,xs,pre,r,Y,ids,by rw[ab];rfl,aa.1,aa.2,k2,ad rfl,k3,k4,k5,by rw[ab,ea];exact k6,k7,Goes.of k1 ?_⟩;show St.put ⟨_,hpNew (sgm ids s.nx) 0 Y++erH T s.h,s.nx+(Y.length-pre.length)⟩ J (ren (sgm ids s.nx) r)=_;grind
   .split at h
    .rename_i g hg;obtain⟨q1,q2⟩:=fnTG_eq hg;have ea:args.toList.map (erS T s).ev=(args.toList.map s.ev).map (er T):=by grind[List.map_map,List.map_congr_left,ev_er]
     obtain⟨c,m1,m2,m3⟩:=k3d h;obtain⟨xs,pre,r,Y,ids,v,hu,nf,k1,k2,k3,k4,k5,k6,k7,k8,k9,ak,_,ad⟩:=k6r hT (Z.cs c m1) m3;have aa:=(Z.cs c m1).cl;rw[m2]at aa k2;refine .inr ⟨g,xs,pre,r,Y,ids,by rw[ev_er];exact q1,aa.1,aa.2,k2,ad rfl,k3,k4,k5,by rw[ev_er,ea,<-q2];exact k6,k7,Goes.of k1 ?_⟩;show St.put ⟨_,hpNew (sgm ids s.nx) 0 Y++erH T s.h,s.nx+(Y.length-pre.length)⟩ J (ren (sgm ids s.nx) r)=_;grind
    grind|_=>exact(show False from h).elim
 |makeMap t r=>simp only[tStep,tOp,qcc]at h;exact⟨U,koc rfl (Z.ti.of t) h⟩|lookup t x i c=>simp only[tStep,tOp]at h;exact⟨U,kqp hT (Z.ti.of t) rfl h⟩|mapUpdate t m k v=>simp only[tStep,tOp,qfa]at h;obtain⟨h1,X⟩:=cnd h;exact⟨U,kqj hT (Z.ti.of t) rfl h1 X⟩|range t x=>simp only[tStep,tOp,qcc]at h;exact⟨U,ks8 (Z.ti.of t) rfl h⟩|next x b=>simp only[tStep,tOp,qfa]at h;cases b with
  |true=>grind|false=>exact⟨U,ktj hT rfl h⟩
 |entry x=>simp only[tStep,tOp,qcc]at h;exact⟨U,ks6 hT rfl h⟩|makeFunc a b c=>exact⟨U,F _ h⟩|move x=>exact⟨U,F _ h⟩|assign x=>exact⟨U,F _ h⟩|pick c a b=>exact⟨U,F _ h⟩|load t a=>exact⟨U,F _ h⟩|fieldAddr t x f=>exact⟨U,F _ h⟩|field t x f=>exact⟨U,F _ h⟩|indexAddr t x i=>exact⟨U,F _ h⟩|index t x i=>exact⟨U,F _ h⟩|extract x i=>exact⟨U,F _ h⟩|unOp op t x=>exact⟨U,F _ h⟩|convert a b x=>exact⟨U,F _ h⟩|slice t x lo hi mx=>exact⟨U,F _ h⟩|nilCheck x=>exact⟨U,F _ h⟩|_=>exact(show False from h).elim
end
end Go.Cv
namespace Go.Bv
open Go.RowKit
def Eqv(s s':St):Prop:=s.h=s'.h/\s.nx=s'.nx/\∀t,getS s.sl t=getS s'.sl t
theorem Eqv.refl(s:St):Eqv s s:=⟨rfl,rfl,λ_=>rfl⟩
theorem Eqv.ev{s s':St}(h:Eqv s s'):s.ev=s'.ev:=by funext x;cases x with
 |tmp t=>exact h.2.2 t|_=>rfl
theorem Eqv.put{s s':St}(h:Eqv s s')(u:Hp)(nf:Nat)(d:On)(x:V):Eqv (St.put ⟨s.sl,u++s.h,s.nx+nf⟩ d x) (St.put ⟨s'.sl,u++s'.h,s'.nx+nf⟩ d x):=by obtain⟨h1,B,F⟩:=h;cases d with
 |none=>exact⟨by show u++s.h=u++s'.h;rw[h1],by show s.nx+nf=s'.nx+nf;rw[B],F⟩|some t=>exact⟨by show u++s.h=u++s'.h;rw[h1],by show s.nx+nf=s'.nx+nf;rw[B],λj=>by show(if j=t then x else getS s.sl j)=if j=t then x else getS s'.sl j;rw[F j]⟩
theorem Eqv.wk{s s':St}(h:Eqv s s'):Wk s s':=by obtain⟨h1,F,J⟩:=h;obtain⟨sl,X,nx⟩:=s;subst h1;subst F;intro T G0 w0 N a G w B;exact⟨B.fr,B.wr,B.df,B.sz,λt=>by have:=B.sl t;grind,B.ex⟩
theorem Wk.trans{a b c:St}(h:Wk a b)(h':Wk b c):Wk a c:=λT G0 w0 N x G w B=>h' T G0 w0 N x G w (h T G0 w0 N x G w B)
theorem kkj{s:St}{u:Nat}{v:V}(h:getS s.sl u=v):Eqv s ⟨(u,v)::s.sl,s.h,s.nx⟩:=⟨rfl,rfl,λt=>by show getS s.sl t=if t=u then v else getS s.sl t;grind⟩
theorem opD_eqv{P:Program}{nb S k:Nat}{op:Op}{e:Eff}{s s':St}(h:Eqv s s')(B:opD P nb S k op e s'):opD P nb S k op e s:=by have F:=h.ev;have J:=h.1;unfold opD at B⊢;rw[F,J];exact B
theorem k5x{P:Program}{N:Nat}{tb:List On}{nb S:Nat}{K U:St->Prop}(X:∀a b,Eqv a b->K b->U a):∀l F J k s s',Eqv s s'->DOps P N tb nb S F J k l K s'->DOps P N tb nb S F J k l U s
 |[],_,_,_,s,s',he,h=>X s s' he h|o::l,F,J,k,s,s',he,h=>by
  obtain⟨e,h1,⟨Y,Z⟩,h4⟩:=h;have hg:∀j,guardV s tb j=guardV s' tb j:=λj=>by
   unfold guardV;split;.exact he.2.2 _
   .rfl
  refine⟨e,⟨h1.1,h1.2.1,?_⟩,⟨by rw[he.1];exact Y,Z⟩,k5x X l _ _ (k+1) _ _ ?_ h4⟩
  .have B:=h1.2.2;split;.rename_i M;rw[M]at B;exact opD_eqv he B
   .rename_i j b M;rw[M]at B;rw[hg j];rcases B with B|⟨t,q1,q2,q3⟩;.exact .inl B
    .exact .inr ⟨t,q1,λht=>opD_eqv he (q2 ht),q3⟩
  .have:=he.put e.hu 0 e.d e.x;exact this
end Go.Bv
namespace Go.Cv
open Go Go.Bv Go.RowKit Go.Md
section
variable{T:Tab}{P:Program}{C:Cx T}{N:Nat}
def Xt(s t:TSt T.den):Prop:=(∃a,t.sl=a++s.sl)/\(∃b,t.h=b++s.h)/\s.nx<=t.nx
theorem Xt.refl(s:TSt T.den):Xt s s:=⟨⟨[],rfl⟩,⟨[],rfl⟩,qaf _⟩
theorem Xt.trans{a b c:TSt T.den}(h:Xt a b)(h':Xt b c):Xt a c:=by obtain⟨⟨x,U⟩,⟨y,X⟩,F⟩:=h;obtain⟨⟨x',J⟩,⟨Y,M⟩,B⟩:=h';exact⟨by grind,by grind,qbd F B⟩
theorem Xt.put{s0 s:TSt T.den}(h:Xt s0 s)(B:THp T.den)(nf:Nat)(d:On)(v:TV T.den):Xt s0 (TSt.put ⟨s.sl,B++s.h,s.nx+nf⟩ d v):=by refine h.trans ?_;cases d with
 |none=>exact⟨⟨[],rfl⟩,⟨B,rfl⟩,qdw _ _⟩|some t=>exact⟨⟨[(t,v)],rfl⟩,⟨B,rfl⟩,qdw _ _⟩
theorem ksg{v:Value}(h:isUndef v=true):v=undef:=by cases v with
 |tuple a=>have B:=qco (nb_eq h);subst B;rfl|_=>cases h
theorem kt7{s:TSt T.den}{tb:List On}{j u:Nat}(h:slotOf tb j=some u):guardV (erS T s) tb j=er T (getT s.sl u):=by
 unfold slotOf at h;split at h;.rename_i t B;injection h with h;subst h;unfold guardV;rw[B];exact getS_er s.sl t
 .cases h
theorem kg8{s:TSt T.den}{tb:List On}{g:Option (Nat×Bool)}{F no:TSt T.den->Prop}(h:tGuard T s tb g F no):g=none/\F s∨∃j b,g=some (j,b)/\(guardV (erS T s) tb j=.k undef/\no s∨∃t s',guardV (erS T s) tb j=.d (.bool t)/\(Eqv (erS T s) (erS T s')/\Xt s s')/\(t=b/\F s'∨t≠b/\no s')):=by
 unfold tGuard at h;split at h;.grind
 .rename_i j b;refine .inr ⟨j,b,rfl,?_⟩;split at h;.exact h.elim
  .rename_i u M;have hs:=kt7 (s:=s) M;split at h;.rename_i v B;obtain⟨h1,J⟩:=cnd h;rw[B,ksg h1]at hs;exact .inl ⟨hs,J⟩
   .rename_i t B;rw[B]at hs;refine .inr ⟨t,s,hs,⟨Eqv.refl _,Xt.refl _⟩,?_⟩;grind
   .rename_i t B;rw[B]at hs;cases t with
    |true=>refine .inr ⟨true,⟨(u,.lit true)::s.sl,s.h,s.nx⟩,hs,⟨kkj (s:=erS T s) (u:=u) (v:=er T (.lit true)) (by rw[show getS (erS T s).sl u=er T (getT s.sl u)from getS_er s.sl u,B];rfl),⟨[_],rfl⟩,⟨[],rfl⟩,qaf _⟩,?_⟩;grind|false=>refine .inr ⟨false,⟨(u,.lit false)::s.sl,s.h,s.nx⟩,hs,⟨kkj (s:=erS T s) (u:=u) (v:=er T (.lit false)) (by rw[show getS (erS T s).sl u=er T (getT s.sl u)from getS_er s.sl u,B];rfl),⟨[_],rfl⟩,⟨[],rfl⟩,qaf _⟩,?_⟩;grind
   grind
theorem k7a(hT:T.Ok)(hC:C.Ok P T){Tk:Tk}{G0:Gh}{w0:World}{ops:List Oper}{Q:Exit->Act->World->Prop}:∀l K s0 s a G w,Xt s0 s->R Tk G0 w0 N (erS T s) a G w->tOps T C N (ops.map (·.dst)) l s K->(∀s' B G' w',K s'->Xt s0 s'->R Tk G0 w0 N (erS T s') B G' w'->Q .normal B w')->wpList P ops.toArray Q l a w
 |[],K,s0,s,a,G,w,Z,X,Y,hQ=>hQ _ _ _ _ Y Z X|o::r,K,s0,s,a,G,w,Z,X,Y,hQ=>by
  refine wpList_step λK1 ab=>?_;obtain⟨hd,Y⟩:=cnd Y;have aa:=dstB_ok hd;have rest:=λs' B G' w' h1 Z F=>ab _ _ (k7a hT hC r K s0 s' B G' w' Z F h1 hQ);have ac:∀s',Xt s0 s'->R Tk G0 w0 N (erS T s') a G w->tStep T C (rwB C.rw o.dst) s' (λv hu nf=>tOps T C N (ops.map (·.dst)) r (TSt.put ⟨s'.sl,hu++s'.h,s'.nx+nf⟩ o.dst v) K) o.op->o.wp P a w K1 λe a w=>Q e a w:=by intro s' J M hs;refine kvr M (kr6 hT hC hd hs) ?_;rintro s1 B G' w'⟨v,hu,nf,h1,F⟩ad;exact rest _ B G' w' h1 (J.put _ _ _ _) (F _ _ _ _ _ _ _ ad)
  have no:∀s',Xt s0 s'->R Tk G0 w0 N (erS T s') a G w->tOps T C N (ops.map (·.dst)) r (s'.put o.dst (.k undef)) K->K1 (a.put o.dst undef) w:=by intro s' J M hs;refine rest _ _ G w hs (J.put [] 0 _ _) ?_;rw[erS_put];exact M.put (.k _) o.dst λu hu=>by rw[hu]at aa;exact aa
  rcases kg8 Y with⟨hg,h1⟩|⟨j,b,hg,⟨h1,F⟩|⟨t,s',h1,he,⟨U,F⟩|⟨U,F⟩⟩⟩;.rw[qg (by simp[Region.wanted,hg])];grind
  .have hy:=kgl X h1;rw[qe (by simp[Region.wanted,hg,hy])];grind
  .have hy:=k7f X h1;rw[qg (by simp[Region.wanted,hg,hy,U])];exact ac s' (Z.trans he.2) (he.1.wk _ _ _ _ _ _ _ X) F
  .have hy:=k7f X h1;rw[qe (by simp[Region.wanted,hg,hy,U])];exact no s' (Z.trans he.2) (he.1.wk _ _ _ _ _ _ _ X) F
theorem ksk(B:T.Ok)(F:C.Ok P T){Tk:Tk}{G0:Gh}{w0:World}{ops:List Oper}{Q:Exit->Act->World->Prop}(l:List Oper)(K:TSt T.den->Prop)(s:TSt T.den)(a:Act)(G:Gh)(w:World)(J:R Tk G0 w0 N (erS T s) a G w)(h:tOps T C N (ops.map (·.dst)) l s K)(M:∀s' a' G' w',K s'->R Tk G0 w0 N (erS T s') a' G' w'->Q .normal a' w'):wpList P ops.toArray Q l a w:=k7a B F l K s s a G w (Xt.refl s) J h (by grind)
theorem kta{k:IntKind}{F:List V}{e:Ty}(he:e.prim=true)(h:leL F ((T.e e (T.dflt e)).cells.map .d)):F=(T.e e (T.dflt e)).cells.map .d:=by
 have key:∀d,(∀s l,d≠.slice s l)->leL F [.d d]->F=[.d d]:=by
  intro d J B;match F,B with
  |[z],B=>
   have h1:=B.1.1;have:z=.d d:=by unfold le1 at h1;grind
   rw[this]|[],B=>exact B.elim|_::_::_,B=>exact B.2.elim
 cases e with
 |int k=>exact key _ (λ_ _ h=>by cases h) h|bool=>exact key _ (λ_ _ h=>by cases h) h|str=>exact key _ (λ_ _ h=>by cases h) h|_=>cases he
theorem kwr(hT:T.Ok)(hC:C.Ok P T){nb S k:Nat}{s:TSt T.den}{K:TV T.den->THp T.den->Nat->Prop}{op:Op}{rw:Bool}(d:On)(h:tOp T C true rw (frs nb S k) s K op):∃v J nf,K v J nf/\(nf<=S->opD P nb S k op ⟨d,er T v,erH T J,rdT T s op⟩ (erS T s)):=by
 have F:∀op,(∀t a,op≠.load t a)->tq T C.ti s (λv=>K v [] 0) op->∃v J nf,K v J nf/\avOk P [] (erS T s).ev op/\er T v=av P [] (erS T s).ev op/\erH T J=[]:=by intro op hl h;obtain⟨u,h1,h2,h3⟩:=tq_snd hT hC.ti h;obtain⟨q1,q2⟩:=av_h (P:=P) (ev:=(erS T s).ev) (op:=op) (erS T s).h hl;exact⟨u,[],0,h1,by grind,by grind,rfl⟩
 cases op with
 |alloc t=>
  simp only[tOp]at h;split at h
  .rename_i z hz;obtain⟨q1,q2⟩:=(hC.ti.of t).ze z hz;refine⟨_,_,_,h,λhs=>⟨by rw[q1];rfl,by omega,rfl,?_⟩⟩;have:zeroD P t=z.map (er1 T):=by unfold zeroD;rw[q1];rfl
   rw[this];rfl
  grind|box t x=>simp only[tOp]at h;obtain⟨h1,h2⟩:=cnd h;obtain⟨c1,c2⟩:=k5s h1;refine⟨_,_,_,h2,λhs=>⟨⟨_,by rw[ev_er];exact c2⟩,by omega,rfl,?_⟩⟩;rw[ev_er,c1];rfl|store t a x=>
  simp only[tOp]at h;obtain⟨id,off,l,g,n,o,h1,h2,h3,h4,h5,h6,h7⟩:=khv hT (hC.ti.of t) h;rcases h7 with h7|⟨h7,_⟩;.refine⟨_,_,_,h1,λ_=>⟨id,off,l,g,n,by rw[ev_er];exact h2,h3,h4,by rw[ev_er];exact h5,h6,rfl,?_⟩⟩;rw[ev_er];show[(id,erO T o)]=_;rw[h7]
  .cases h7|build t Z=>
  simp only[tOp]at h;split at h;.rename_i z hz;obtain⟨q1,q2⟩:=(hC.ti.of t).ze z hz;cases hp:(TI.of C.ti t).pl.isEmpty with
   |true=>grind|false=>
    rw[hp]at h;have ax:=(hC.ti.of t).pl (by grind);obtain⟨l',M,X,U⟩:=kc2 _ _ h;have e1:zeroD P t=z.map (er1 T):=by unfold zeroD;rw[q1];rfl
    have e2:plD P t=(TI.of C.ti t).pl:=by unfold plD;grind
    have e3:(Z.toList.map λp=>(p.1,(erS T s).ev p.2))=(Z.toList.map λp=>(p.1,s.ev p.2)).map λp=>(p.1,er T p.2):=by grind[List.map_map,List.map_congr_left,ev_er]
    refine⟨_,_,_,M,λ_=>⟨by grind,by rw[q1];rfl,?_,?_,rfl⟩⟩;.grind
    .rw[e1,e2,e3,U];rfl
  grind|buildSlice t n Z=>
  simp only[tOp]at h;split at h
  .rename_i e bt ab;split at h
   .rename_i l hl;obtain⟨h1,h2⟩:=cnd h;have e3:(Z.toList.map λp=>(erS T s).ev p.2)=(Z.toList.map λp=>s.ev p.2).map (er T):=by grind[List.map_map,List.map_congr_left,ev_er]
    obtain⟨⟨k1,k2,k3,k4,k5⟩,k6⟩:=k6q hT (hC.ti.of t) ab (is:=Z.toList.map (·.1)) hl (by rw[qp];exact h1) qqs;rw[<-e3]at k3 k4 k6;cases rw with
    |false=>simp only[qcc]at h2;exact⟨_,_,_,h2,λ_=>⟨⟨k1,k2,k3,k4,k5⟩,by omega,.inl ⟨k6.symm,rfl⟩⟩⟩|true=>
     simp only[qdr]at h2;refine⟨_,_,_,h2,λ_=>⟨⟨k1,k2,k3,k4,k5⟩,by omega,.inr ?_⟩⟩;have k7:=k6;injection k7 with k8 k9;simp only[qh]at h1;have hn:n=l.length:=by grind[nb_eq,toEls_D,List.length_map]
     rw[k8,k9,hn];exact⟨rfl,rfl⟩
   grind
  grind|mapUpdate t m i y=>simp only[tOp]at h;obtain⟨id,o,es',h1,h2,h3⟩:=kub hT (hC.ti.of t) h;refine⟨_,_,_,h1,λ_=>⟨id,es',h3,rfl,?_⟩⟩;show[(id,erO T o)]=_;rw[h2]|lookup t x i c=>simp only[tOp]at h;obtain⟨v,h1,h2⟩:=kk7 hT (hC.ti.of t) h;refine⟨v,[],0,h1,λ_=>⟨h2,λid B=>?_,rfl⟩⟩;rw[ev_er]at B;show id∈rdT T s (.lookup t x i c);unfold rdT;cases hv:s.ev x with
  |mp aw=>
   rw[hv]at B;have:aw=id:=by injection B
   grind|any=>rw[hv]at B;cases B|k v=>rw[hv]at B;cases B|lit b=>rw[hv]at B;cases B|d t y=>rw[hv]at B;cases B|full e l=>rw[hv]at B;cases B|own a e l=>rw[hv]at B;cases B|ptr a b=>rw[hv]at B;cases B|aptr a b c d=>rw[hv]at B;cases B|ro l=>rw[hv]at B;cases B|row a b c=>rw[hv]at B;cases B|view a b c d=>rw[hv]at B;cases B|eptr a b c d=>rw[hv]at B;cases B|clo a b c=>rw[hv]at B;cases B|agg l=>rw[hv]at B;cases B|tup l=>rw[hv]at B;cases B
 |makeSlice t l c=>simp only[tOp,Bool.true_and]at h;cases hb:noPrim (TI.of C.ti t).el with
  |true=>grind|false=>
   rw[hb]at h;simp only[qcc,tMake]at h;split at h
   .rename_i e bt q n q' m ab aj ak al;rw[ab]at hb;have am:e.prim=true:=by simpa[noPrim]using hb
    obtain⟨h1,h2,h3⟩:=h;obtain⟨h3,h4⟩:=ask_and h3;obtain⟨h4,h5⟩:=ask_and h4;have ag:=((hC.ti.of t).el _ _ ab).2;have ao:rowD P t=(T.sz e,bt):=by unfold rowD;grind
    obtain⟨zs,z1,z2⟩:=(hC.ti.of t).ez aj e bt ab;have aq:=kta (k:=.i64) am z2;have ex:(erS T s).ev l=.d (.int q n):=by rw[ev_er,asI_eq ak];rfl
    have ey:(erS T s).ev c=.d (.int q' m):=by rw[ev_er,asI_eq al];rfl
    refine⟨_,_,_,h5,λhs=>⟨?_,by omega,?_,?_⟩⟩;.rw[ex,ey];exact⟨by grind,h1,h2,by grind,h4⟩
    .rw[ex,ao];rfl
    .rw[ex];show[(_,Ob.cells _)]=[(_,Ob.cells _)];have:elZD P t=zs:=by unfold elZD;rw[z1];rfl
     rw[this,zrow_eq,kb1,aq];rfl
   grind
 |call c=>obtain⟨ae,args,aa⟩:=c;cases ae with
  |builtin b=>cases b with
   |append=>
    simp only[tOp]at h;obtain⟨h1,h2⟩:=cnd h;simp only[qh]at h1;rcases k9q (P:=P) hT (hC.ti.of _) h2 with⟨v,J,hk,ha⟩|⟨e,bt,m,ab,hm,h2⟩
    .refine⟨v,J,1,hk,λhs=>⟨⟨nb_eq h1.1.1,nb_eq h1.1.2,nb_eq h1.2⟩,.inr ⟨by omega,?_,λid off n z B=>?_⟩⟩⟩;.show appRowE P _ _ _ ((erS T s).ev _) ((erS T s).ev _) _ _;rw[ev_er,ev_er];exact ha
     .have B:(erS T s).ev (args.getD 1 (.const .nilIface))=.row id off n z:=B;rw[ev_er]at B;show id∈match s.ev (args.getD 1 (.const .nilIface))with|.row id _ _=>[id]|.view id _ _ _=>[id]|_=>[];generalize s.ev (args.getD 1 (.const .nilIface))=y at B;cases y<;>first|cases B|skip
      .simp
      .simp
    have ag:=((hC.ti.of _).el _ _ ab).2;obtain⟨y1,y2⟩:=k60 hm;unfold tAppOwn at h2;split at h2
    .rename_i tok e0 l0 hx;split at h2
     .rename_i e1 l' hg;split at h2
      .rename_i l hl;obtain⟨k1,k2,k3,k4⟩:=h2;obtain⟨c1,c2,c3⟩:=kr hl;have ex:(erS T s).ev (args.getD 0 (.const .nilIface))=.own tok (T.sz e) (l.map (T.e e)):=by rw[ev_er];have:s.ev (args.getD 0 (.const .nilIface))=.own tok e0 l0:=hx;rw[this];show V.own tok (T.sz e0) (l0.map (T.e e0))=_;rw[c1,c2]
       have ey:((erS T s).ev (args.getD 1 (.const .nilIface))).elsD (T.sz e)=m.map (T.e e):=by rw[ev_er];exact y1
       refine⟨_,_,_,k4,λ_=>⟨⟨nb_eq h1.1.1,nb_eq h1.1.2,nb_eq h1.2⟩,.inl ⟨tok,T.sz e,bt,l.map (T.e e),ag,ex,?_,by rw[ev_er];exact y2,?_,?_,?_,?_⟩⟩⟩;.show(erH T s.h).get tok=_;rw[getH_er,hg,qp,<-k1];rfl
       .grind
       .grind
       .rw[ey,<-qbj];rfl
       .rw[ey];show[(tok,Ob.tip (l++m).length)]=_;grind
      grind
     grind
    .grind
    .grind
    grind|len=>obtain⟨v,J,nf,M,X,U,Y⟩:=F (.call ⟨.builtin .len,args,aa⟩) (λ_ _ h=>by cases h) h;exact⟨v,J,nf,M,λ_=>⟨X,U,Y⟩⟩|min=>obtain⟨v,J,nf,M,X,U,Y⟩:=F (.call ⟨.builtin .min,args,aa⟩) (λ_ _ h=>by cases h) h;exact⟨v,J,nf,M,λ_=>⟨X,U,Y⟩⟩|max=>obtain⟨v,J,nf,M,X,U,Y⟩:=F (.call ⟨.builtin .max,args,aa⟩) (λ_ _ h=>by cases h) h;exact⟨v,J,nf,M,λ_=>⟨X,U,Y⟩⟩|_=>exact(show False from h).elim
  |value f=>
   simp only[tOp]at h;split at h
   .rename_i g hf;have ah:(erS T s).ev f=.k (.func (.func g) #[] #[]):=by rw[ev_er,fnOf_eq hf];rfl
    have ea:args.toList.map (erS T s).ev=(args.toList.map s.ev).map (er T):=by grind[List.map_map,List.map_congr_left,ev_er]
    split at h
    .rename_i x hx;obtain⟨m1,m2⟩:=kc5 hx;split at h;.rename_i i hi;obtain⟨h1,h2⟩:=h;have:=tX_snd (hC.xs x m1) hi h1;rw[m2,<-ea]at this;exact⟨_,_,_,h2,λ_=>.inl ⟨g,_,ah,this,rfl,rfl⟩⟩
     grind
    .obtain⟨c,m1,m2,m3⟩:=k3d h;obtain⟨xs,pre,r,ad,ids,v,J,nf,k1,k2,k3,k4,k5,k6,k7,k8,k9,au,ai,_⟩:=k6r hT (hC.cs c m1) m3;have ac:=(hC.cs c m1).cl;rw[m2]at ac k2;rw[<-ea]at k6;exact⟨v,J,nf,k1,λhs=>.inr ⟨g,xs,pre,r,ad,ids,by rw[ah];rfl,⟨ac.1,ac.2,k2⟩,k3,k4,k5,by rw[ah];exact k6,k7,⟨by omega,ai rfl⟩,k8,k9⟩⟩
   .split at h
    .rename_i g hg;obtain⟨q1,q2⟩:=fnTG_eq hg;have ea:args.toList.map (erS T s).ev=(args.toList.map s.ev).map (er T):=by grind[List.map_map,List.map_congr_left,ev_er]
     obtain⟨c,m1,m2,m3⟩:=k3d h;obtain⟨xs,pre,r,ad,ids,v,J,nf,k1,k2,k3,k4,k5,k6,k7,k8,k9,au,ai,_⟩:=k6r hT (hC.cs c m1) m3;have ac:=(hC.cs c m1).cl;rw[m2]at ac k2;rw[q2,<-ea,<-ev_er]at k6;exact⟨v,J,nf,k1,λhs=>.inr ⟨g,xs,pre,r,ad,ids,by rw[ev_er];exact q1,⟨ac.1,ac.2,k2⟩,k3,k4,k5,k6,k7,⟨by omega,ai rfl⟩,k8,k9⟩⟩
    grind|_=>exact(show False from h).elim
 |load t a=>obtain⟨u,h1,h2,h3⟩:=tq_snd hT hC.ti (op:=.load t a) h;refine⟨u,[],0,h1,λ_=>⟨h2,λid off he=>?_,h3.symm,rfl⟩⟩;rw[ev_er]at he;show id∈match s.ev a with|.ptr id _=>[id]|.aptr id _ _ _=>[id]|.eptr id _ _ _=>[id]|_=>[];generalize s.ev a=v at he;cases v with
  |ptr i o=>injection he with he;grind|aptr i o n j=>injection he with he;grind|eptr i o n j=>injection he with he;grind|_=>cases he
 |makeFunc a b c=>obtain⟨v,J,nf,M,X,U,Y⟩:=F (.makeFunc a b c) (λ_ _ h=>by cases h) h;exact⟨v,J,nf,M,λ_=>⟨X,U,Y⟩⟩|move x=>obtain⟨v,J,nf,M,X,U,Y⟩:=F (.move x) (λ_ _ h=>by cases h) h;exact⟨v,J,nf,M,λ_=>⟨X,U,Y⟩⟩|assign x=>obtain⟨v,J,nf,M,X,U,Y⟩:=F (.assign x) (λ_ _ h=>by cases h) h;exact⟨v,J,nf,M,λ_=>⟨X,U,Y⟩⟩|pick c a b=>obtain⟨v,J,nf,M,X,U,Y⟩:=F (.pick c a b) (λ_ _ h=>by cases h) h;exact⟨v,J,nf,M,λ_=>⟨X,U,Y⟩⟩|fieldAddr t x f=>obtain⟨v,J,nf,M,X,U,Y⟩:=F (.fieldAddr t x f) (λ_ _ h=>by cases h) h;exact⟨v,J,nf,M,λ_=>⟨X,U,Y⟩⟩|field t x f=>obtain⟨v,J,nf,M,X,U,Y⟩:=F (.field t x f) (λ_ _ h=>by cases h) h;exact⟨v,J,nf,M,λ_=>⟨X,U,Y⟩⟩|indexAddr t x i=>obtain⟨v,J,nf,M,X,U,Y⟩:=F (.indexAddr t x i) (λ_ _ h=>by cases h) h;exact⟨v,J,nf,M,λ_=>⟨X,U,Y⟩⟩|index t x i=>obtain⟨v,J,nf,M,X,U,Y⟩:=F (.index t x i) (λ_ _ h=>by cases h) h;exact⟨v,J,nf,M,λ_=>⟨X,U,Y⟩⟩|extract x i=>obtain⟨v,J,nf,M,X,U,Y⟩:=F (.extract x i) (λ_ _ h=>by cases h) h;exact⟨v,J,nf,M,λ_=>⟨X,U,Y⟩⟩|binOp op t x y t'=>obtain⟨v,J,nf,M,X,U,Y⟩:=F (.binOp op t x y t') (λ_ _ h=>by cases h) h;exact⟨v,J,nf,M,λ_=>⟨X,U,Y⟩⟩|unOp op t x=>obtain⟨v,J,nf,M,X,U,Y⟩:=F (.unOp op t x) (λ_ _ h=>by cases h) h;exact⟨v,J,nf,M,λ_=>⟨X,U,Y⟩⟩|convert a b x=>obtain⟨v,J,nf,M,X,U,Y⟩:=F (.convert a b x) (λ_ _ h=>by cases h) h;exact⟨v,J,nf,M,λ_=>⟨X,U,Y⟩⟩|slice t x lo hi mx=>obtain⟨v,J,nf,M,X,U,Y⟩:=F (.slice t x lo hi mx) (λ_ _ h=>by cases h) h;exact⟨v,J,nf,M,λ_=>⟨X,U,Y⟩⟩|nilCheck x=>obtain⟨v,J,nf,M,X,U,Y⟩:=F (.nilCheck x) (λ_ _ h=>by cases h) h;exact⟨v,J,nf,M,λ_=>⟨X,U,Y⟩⟩|_=>exact(show False from h).elim
theorem k8q{af:Array Edge}{id:Nat}:∀{F:List (Nat×Nat)},wsB af id F=true->wsL F af id
 |[],_,p,B,_=>by cases B|q::r,h,p,B,he=>by
  simp only[wsB,qh]at h;rcases qak.1 B with rfl|B;.simp_all
  .exact k8q h.2 p B he
theorem kp6{B:List (Nat×Nat)}{af:Array Edge}:∀{ids:Ln},rdB B af ids=true->rdOk B af ids
 |[],_,id,h=>by cases h|i::r,h,id,hi=>by
  simp only[rdB,qh]at h;rcases qak.1 hi with rfl|hi;.exact k8q h.1
  .exact kp6 h.2 id hi
theorem knr{nb S k:Nat}{J M:List (Nat×Nat)}{af:Array Edge}{h:THp T.den}:∀{ids:Ln},wrB T nb S k J M af h ids=true->wrOk nb S k J M af (erH T h) ids
 |[],_,id,h=>by cases h|i::r,F,id,hi=>by
  simp only[wrB,qh,qcr]at F;obtain⟨⟨⟨⟨h1,U⟩,X⟩,B⟩,Y⟩:=F;rcases qak.1 hi with rfl|hi
  .refine⟨k8q h1,k8q U,blt_lt X,?_⟩;rcases B with B|B;.simp_all
   grind[getH_er]
  .exact knr Y id hi
theorem keys_er(h:THp T.den):keys (erH T h)=keysT T h:=by unfold keys erH keysT;simp_all
def KE(K:TSt T.den->Prop)(s:St):Prop:=∃t,K t/\Wk s (erS T t)
theorem k59(hT:T.Ok)(hC:C.Ok P T){tb:List On}{nb S:Nat}{K:TSt T.den->Prop}{s0:TSt T.den}:∀l B F k s,Xt s0 s->tDs T C N tb nb S l B F k s K->DOps P N tb nb S B F k l (KE λt=>K t/\Xt s0 t) (erS T s)
 |[],B,F,k,s,hx,h=>⟨s,⟨h,hx⟩,Wk.refl _⟩|o::r,B,F,k,s,hx,h=>by
  have ab:∀a b:St,Eqv a b->KE (λt=>K t/\Xt s0 t) b->KE (λt=>K t/\Xt s0 t) a:=λa b he⟨t,h1,J⟩=>⟨t,h1,he.wk.trans J⟩;simp only[tDs]at h;obtain⟨hd,h⟩:=cnd h;have M:=dstB_ok hd;have aa:∀s',Xt s0 s'->(bif rdB B o.after (rdT T s' o.op)then tOp T C true (rwB C.rw o.dst) (frs nb S k) s' (λv U nf=>bif Nat.ble nf S&&wrB T nb S k B F o.after s'.h (keysT T U)then tDs T C N tb nb S r ((keysT T U).map (·,k)++B) ((rdT T s' o.op).map (·,k)++F) (k+1) (TSt.put ⟨s'.sl,U++s'.h,s'.nx⟩ o.dst v) K else False) o.op else False)->∃e,(e.d=o.dst/\opD P nb S k o.op e (erS T s'))/\(wrOk nb S k B F o.after (erS T s').h (keys e.hu)/\rdOk B o.after e.rd)/\DOps P N tb nb S ((keys e.hu).map (·,k)++B) (e.rd.map (·,k)++F) (k+1) r (KE λt=>K t/\Xt s0 t) (e.app (erS T s')):=by
   intro s' X hr;obtain⟨ac,ad⟩:=cnd hr;obtain⟨v,U,nf,k1,k2⟩:=kwr hT hC o.dst ad;obtain⟨k3,k4⟩:=cnd k1;simp only[qh]at k3;refine⟨_,⟨rfl,k2 (ble_le k3.1)⟩,⟨?_,kp6 ac⟩,?_⟩;.rw[keys_er];exact knr k3.2
   .have:=k59 hT hC r _ _ (k+1) _ (X.put (nf:=0) _ _ _) k4;rw[keys_er];have e:Eff.app ⟨o.dst,er T v,erH T U,rdT T s' o.op⟩ (erS T s')=erS T (TSt.put ⟨s'.sl,U++s'.h,s'.nx⟩ o.dst v):=by rw[erS_put];show St.put ⟨_,erH T U++erH T s'.h,_⟩ o.dst _=St.put ⟨_,erH T (U++s'.h),_⟩ o.dst _;rw[erH_app];rfl
    grind
  have no:∀s',Xt s0 s'->tDs T C N tb nb S r B F (k+1) (s'.put o.dst (.k undef)) K->∃e:Eff,(e.d=o.dst/\e.x=.k undef/\e.hu=[])/\(wrOk nb S k B F o.after (erS T s').h (keys e.hu)/\rdOk B o.after e.rd)/\DOps P N tb nb S ((keys e.hu).map (·,k)++B) (e.rd.map (·,k)++F) (k+1) r (KE λt=>K t/\Xt s0 t) (e.app (erS T s')):=by intro s' X hr;have:=k59 hT hC r _ _ (k+1) _ (X.put [] 0 _ _) hr;rw[erS_put]at this;exact⟨⟨o.dst,.k undef,[],[]⟩,⟨rfl,rfl,rfl⟩,⟨λ_ h=>(by cases h),λ_ h=>by cases h⟩,this⟩
  have back:∀s':TSt T.den,Eqv (erS T s) (erS T s')->∀e:Eff,(wrOk nb S k B F o.after (erS T s').h (keys e.hu)/\rdOk B o.after e.rd)/\DOps P N tb nb S ((keys e.hu).map (·,k)++B) (e.rd.map (·,k)++F) (k+1) r (KE λt=>K t/\Xt s0 t) (e.app (erS T s'))->(wrOk nb S k B F o.after (erS T s).h (keys e.hu)/\rdOk B o.after e.rd)/\DOps P N tb nb S ((keys e.hu).map (·,k)++B) (e.rd.map (·,k)++F) (k+1) r (KE λt=>K t/\Xt s0 t) (e.app (erS T s)):=by rintro s' he e⟨⟨h1,J⟩,h3⟩;exact⟨⟨by rw[he.1];exact h1,J⟩,k5x ab r _ _ _ _ _ (he.put e.hu 0 e.d e.x) h3⟩
  rcases kg8 h with⟨hg,h1⟩|⟨j,b,hg,⟨h1,J⟩|⟨t,s',h1,he,⟨ae,J⟩|⟨ae,J⟩⟩⟩;.obtain⟨e,⟨Y,q2⟩,Z,q4⟩:=aa s hx h1;exact⟨e,⟨M,Y,by grind⟩,Z,q4⟩
  .obtain⟨e,⟨Y,q2⟩,Z,q4⟩:=no s hx J;exact⟨e,⟨M,Y,by grind⟩,Z,q4⟩
  .obtain⟨e,⟨Y,q2⟩,Z⟩:=aa s' (hx.trans he.2) J;obtain⟨q4,q5⟩:=back s' he.1 e Z;exact⟨e,⟨M,Y,by grind[opD_eqv]⟩,q4,q5⟩
  .obtain⟨e,⟨Y,q2⟩,Z⟩:=no s' (hx.trans he.2) J;obtain⟨q4,q5⟩:=back s' he.1 e Z;exact⟨e,⟨M,Y,by grind⟩,q4,q5⟩
theorem ku4(M:T.Ok)(U:C.Ok P T){tb:List On}{nb S:Nat}{K:TSt T.den->Prop}(l:List Oper)(B F:List (Nat×Nat))(k:Nat)(s:TSt T.den)(h:tDs T C N tb nb S l B F k s K):DOps P N tb nb S B F k l (KE K) (erS T s):=k5x (K:=KE λt=>K t/\Xt s t) (λa b he⟨t,h1,J⟩=>⟨t,h1.1,he.wk.trans J⟩) l B F k _ _ (Eqv.refl _) (k59 M U l B F k s (Xt.refl s) h)
end
end Go.Cv
namespace Go.Bv
open Go.RowKit
section
variable{T:Tk}{G0 G:Gh}{w0 w:World}{N:Nat}{s:St}{a:Act}
theorem R.leRen{s':St}{σ:Nat->Nat}(F:R T G0 w0 N s a G w)(h0:T.nx<=s'.nx)(ad:∀i,i<T.nx->σ i=i)(hσ:∀i,i<s'.nx->σ i<s.nx)(ag:∀i j,live s'.h i->live s'.h j->σ i=σ j->i=j)(J:∀id ob,s'.h.get id=some ob->id<s'.nx/\obLe (s.h.get (σ id)) (renO σ ob)/\okO s'.nx ob)(aj:∀t,getS s'.sl t=.any∨Bv.le (getS s.sl t) (ren σ (getS s'.sl t))/\ok s'.nx (getS s'.sl t)):∃G',R T G0 w0 N s' a G' w:=by
 have hw:=F.wr;let G':Gh:=⟨λi=>G.loc (σ i),λi=>G.tloc (σ i),G.lim⟩;have B:∀i t,i<s'.nx->s'.h.get i=some (.tip t)->s.h.get (σ i)=some (.tip t):=λi t _ X=>k48 (J i _ X).2.1;have M:∀i,live s'.h i->live s.h (σ i):=by intro i l;obtain⟨o,ho,hd⟩:=live_of l;have:=(J i o ho).2.1;cases o with
  |cells l=>obtain⟨l0,h1,_⟩:=k2u this;exact ki h1|tip t=>exact k1i (k48 this)|map es=>exact k9o this|dead=>exact(hd rfl).elim
 refine⟨G',⟨⟨F.fr.os,F.fr.tape,F.fr.output,F.fr.size,F.fr.same,F.fr.mono⟩,⟨?_,?_,λid b hi hb=>hw.here (σ id) b (hσ id hi) hb,λi j b hi hj h1 h2 l1 l2=>ag i j l1 l2 (hw.inj (σ i) (σ j) b (hσ i hi) (hσ j hj) h1 h2 (M i l1) (M j l2)),λid ob X=>(J id ob X).1,hw.lim⟩,F.df,F.sz,λt=>?_,⟨h0,λid b hi Y=>?_,λtok t' ht X=>?_,F.ex.csz⟩⟩⟩
 .intro id l X;obtain⟨g1,g2,g3⟩:=J id _ X;obtain⟨l0,ah,g2⟩:=k2u g2;obtain⟨U,Z,q3⟩:=k37 g2;rw[qp]at U;rcases hw.obj (σ id) l0 ah with⟨z1,z2⟩|⟨b,e,cs,k1,k2,k3,k4,k5,k6⟩;.exact .inl ⟨qax (by rw[z1]at U;simpa using U.symm),z2⟩
  exact .inr ⟨b,e,cs,k1,k2,k3,by omega,λx hx=>by rw[<-k42 σ x];exact Z _ (qap.2 ⟨x,hx,rfl⟩),λj v x hv hx=>by
   have hj:j<l0.length:=by have:=(qq.1 hx).1;omega
   exact k4p (σ:=σ) (G:=G) (G':=G') rfl (λ_ _=>rfl) (λ_ _=>rfl) B ((k6 j v _ hv (qf hj)).le1 (q3 j _ (ren1 σ x) (qf hj) (by rw[qr,hx];rfl))) (k5l g3 j x hx)⟩
 .intro id es X;obtain⟨g1,g2,g3⟩:=J id _ X;have hr:=hw.mobLe g2;have tr:∀{ms:List MapEntry}{l:List (D×V)},okM s'.nx l->EntR G w s.h s.nx ms (l.map λe=>(e.1,ren0 σ e.2))->EntR G' w s'.h s'.nx ms l:=λho Y=>Y.tr qqs λj e e' U Z=>by
   rw[qr,Z]at U;obtain rfl:(e'.1,ren0 σ e'.2)=e:=by simpa using U
   exact⟨renE_tup',λ_ k v r1 r2=>⟨r1,k2n (σ:=σ) (G:=G) (G':=G') rfl (λ_ _=>rfl) (λ_ _=>rfl) B r2 (k64 ho j e' Z)⟩⟩
  cases es with
  |m es=>obtain⟨b,aa,ms,k1,k2,k3,k4⟩:=hr;exact⟨b,aa,ms,k1,k2,tr g3 k3,k4⟩|it mid rest ak=>obtain⟨b,bm,ab,ae,c0,k1,k2,k3,k4,k5,k6⟩:=hr;refine⟨b,bm,ab,ae,c0,k1,k2,g3.1,k4,k5,λes hm=>?_⟩;obtain⟨aa,ms,U,Z,q3,q4⟩:=k6 _ (obLe_m (J mid _ hm).2.1);refine⟨aa,ms,U,Z,tr g3.2.1 q3,λe Y=>?_⟩;obtain⟨n1,m,ac,n2,n3,n4,n5⟩:=q4 (e.1,ren0 σ e.2) (by rw[Y];rfl);exact⟨λl Y=>by obtain⟨l',ai⟩:=renE_tup' (σ:=σ) l Y;exact n1 l' ai,m,ac,n2,n3,n4,k2n (σ:=σ) (G:=G) (G':=G') rfl (λ_ _=>rfl) (λ_ _=>rfl) B n5 (g3.2.2 e Y)⟩
 .rcases aj t with g|⟨g1,g2⟩;.rw[g];exact .any _
  .exact kej (σ:=σ) (G:=G) (G':=G') rfl (λ_ _=>rfl) (λ_ _=>rfl) B ((F.sl t).le g1) g2
 .show G.loc (σ id)=some b;rw[ad id hi];exact F.ex.loc id b hi Y
 .obtain⟨t,U,Z,q3⟩:=F.ex.tok tok t' ht (by have:=B tok t' qqo X;rw[ad tok ht]at this;exact this);refine⟨t,U,Z,λe b hb=>?_⟩;obtain⟨r1,r2,r3⟩:=q3 e b hb;exact⟨by show G.tloc (σ tok)=some b;rw[ad tok ht];exact r1,r2,r3⟩
theorem R.trim(M:R T G0 w0 N s a G w){id:Nat}{l:List V}(U:s.h.get id=some (.cells l))(m:Nat):∃G',R T G0 w0 N ⟨s.sl,(s.nx,.cells (l.take m))::(id,.dead)::s.h,s.nx+1⟩ a G' w/\∀v n sz,RepV G' w ((s.nx,.cells (l.take m))::(id,.dead)::s.h) (s.nx+1) v (.row id 0 n sz)->RepV G' w ((s.nx,.cells (l.take m))::(id,.dead)::s.h) (s.nx+1) v (.row s.nx 0 n sz):=by
 obtain⟨G1,F,B⟩:=M.raise 1;have X:=M.wr.hid _ _ U;have Y:s.h.get s.nx=none:=by cases J:s.h.get s.nx with
  |none=>rfl|some ob=>exact absurd (M.wr.hid _ _ J) qqo
 obtain⟨G',h1,_,Z,_,h5⟩:=F.relabel (id:=id) (l:=l) U m (k:=s.nx) (by show s.nx<s.nx+1;omega) (B _ (qaf _)).1 (B _ (qaf _)).2 Y;refine⟨G',h1,λv n sz hv=>?_⟩;have hl:G'.loc s.nx=G'.loc id:=by rw[Z,(h5 id qqo).1]
 cases hv with
 |row _ _ _ _ b o cap n0 q1 q2 q3 q4 q5 q6 q7=>exact .row _ _ _ _ b o cap n0 qqo (by rw[hl];exact q2) q3 q4 q5 q6 q7|rown A _ _ _ q1=>exact .rown A _ _ _ qqo
theorem R.rnil(U:R T G0 w0 N s a G w):∃G',R T G0 w0 N ⟨s.sl,(s.nx,.cells [])::s.h,s.nx+1⟩ a G' w/\∀v x sz,emptyV sz x->RepV G' w ((s.nx,.cells [])::s.h) (s.nx+1) v x->RepV G' w ((s.nx,.cells [])::s.h) (s.nx+1) v (.row s.nx 0 0 sz):=by
 obtain⟨X,F,B⟩:=U.raise 1;have Y:s.h.get s.nx=none:=by cases J:s.h.get s.nx with
  |none=>rfl|some Z=>exact absurd (U.wr.hid _ _ J) qqo
 refine⟨X,F.rowNil (k:=s.nx) (by show s.nx<s.nx+1;omega) (B _ (qaf _)).1 (B _ (qaf _)).2 Y,λv x sz he M=>?_⟩;rcases he with rfl|rfl;.rw[M.k_inv];exact .rown none _ _ _ qqo
 .cases M with|full A _ _ _=>exact .rown A _ _ _ qqo
end
end Go.Bv
namespace Go.Cv
open Go Go.Bv Go.RowKit Go.Md
def ups:Nat->Nat->Ln
 |_,0=>[]|k,n+1=>k::ups (k+1) n
structure Dl where
 old:Ln
 os:List OSh
 ts:Ln
 ss:List Sh0
 dd:Ln
abbrev Dl.hs(d:Dl):List Ty:=hsT d.ss (hsOs d.os)
def Dl.n(d:Dl):Nat:=d.os.length-d.old.length
def Dl.ids(d:Dl)(nx:Nat):Ln:=d.old++ups nx d.n
inductive Nt where|no|r(n:Nat)(b:Nt)|nd(ga:List Gs)(a:Nt)(gb:List Gs)(b:Nt)|jn(d:Dl)(ga:List Gs)(a:Nt)(gb:List Gs)(b:Nt)|lp(g:List Gs)(d:Dl)(a:Nt)|rt(g:List Gs)
def Nt.ga:Nt->List Gs
 |.nd g _ _ _=>g|.jn _ g _ _ _=>g|.rt g=>g|_=>[]
def Nt.gb:Nt->List Gs
 |.nd _ _ g _=>g|.jn _ _ _ g _=>g|_=>[]
def Nt.a:Nt->Nt
 |.nd _ a _ _=>a|.jn _ _ a _ _=>a|_=>.no
def Nt.b:Nt->Nt
 |.nd _ _ _ b=>b|.jn _ _ _ _ b=>b|.r 0 b=>b|.r (n+1) b=>.r n b|_=>.no
def Ar(S:Nat->Type):List Ty->Type->Type
 |[],α=>α|t::r,α=>t.den S->Ar S r α
section
variable{S:Nat->Type}
def apA{α:Type}:(ts:List Ty)->Ar S ts α->HL S ts->α
 |[],f,_=>f|_::r,f,x=>apA r (f x.1) x.2
def cuA{α:Type}:(ts:List Ty)->(HL S ts->α)->Ar S ts α
 |[],f=>f ()|_::r,f=>λx=>cuA r λy=>f (x,y)
def alH:(ts:List Ty)->(HL S ts->Prop)->Prop
 |[],K=>K ()|t::r,K=>∀x,alH r λy=>K (x,y)
theorem ap_cu{α:Type}:∀ts(f:HL S ts->α)x,apA ts (cuA ts f) x=f x
 |[],_,_=>rfl|_::r,f,x=>ap_cu r (λy=>f (x.1,y)) x.2
theorem alH_iff:∀{ts:List Ty}{K:HL S ts->Prop},alH ts K↔∀x,K x
 |[],_=>⟨λh _=>h,λh=>h ()⟩|_::r,_=>⟨λh x=>alH_iff.1 (h x.1) x.2,λh x=>alH_iff.2 λy=>h (x,y)⟩
end
section
variable(T:Tab)
def Dl.f(d:Dl)(x:HL T.den d.hs):List (Option (TOb T.den)):=tkB d.os (drC d.os _ (drT d.ss _ x))
def Dl.fill(d:Dl)(s:TSt T.den)(x:HL T.den d.hs):TSt T.den:=⟨zipS T d.ts (tkT (sgs (d.ids s.nx)) (d.f T x) d.ss _ x).1++s.sl,hpN (sgs (d.ids s.nx)) 0 (tkC (sgs (d.ids s.nx)) (d.f T x) 0 d.os _ (drT d.ss _ x)).1++(d.dd.map λi=>(i,TOb.dead))++s.h,s.nx+d.n⟩
def disB:Ln->Ln->Bool
 |[],_=>true|x::r,l=>!memB x l&&disB r l
def Dl.okB(d:Dl)(nx:Nat):Bool:=okTB d.os.length d.ss&&okOsB d.os.length d.os&&Nat.ble d.old.length d.os.length&&Nat.beq d.ts.length d.ss.length&&kindTB d.os d.ss&&kindOB d.os d.os&&nodupB (d.ids nx)&&allLt nx d.old&&allLt nx d.dd&&disB d.old d.dd
def pre{α:Type}(a b:List α):List α:=a.take (a.length-b.length)
def hasK:List (Nat×TV T.den)->Nat->Bool
 |[],_=>false|p::r,j=>Nat.beq j p.1||hasK r j
def chS(ts:Ln)(sl:List (Nat×TV T.den)):List (Nat×TV T.den)->Bool
 |[]=>true|p::r=>(memB p.1 ts||!hasK T sl p.1)&&chS ts sl r
def chH(d:Dl)(nx:Nat):THp T.den->Bool
 |[]=>true|p::r=>(memB p.1 d.old||memB p.1 d.dd||Nat.ble nx p.1)&&chH d nx r
def fixD(nx:Nat)(B:Ln):Ln->Ln->Bool
 |i::is,j::F=>(bif Nat.blt i nx then Nat.beq i j else Nat.ble nx j||memB j B)&&fixD nx B is F|[],[]=>true|_,_=>false
def idsO:Nat->Ln->List (Nat×Nat)
 |_,[]=>[]|k,i::r=>(k,i)::idsO (k+1) r
def Dl.at(d:Dl)(nx:Nat)(s:TSt T.den):Ln:=bdMs T s.h 0 d.os (d.ids nx) (idsO 0 d.old++bdT [] d.ss (d.ts.map (getT s.sl)))
def Dl.mat(d:Dl)(s0 s:TSt T.den)(K:HL T.den d.hs->Prop):Prop:=bif d.okB s0.nx&&chS T d.ts s0.sl (pre s.sl s0.sl)&&chH T d s0.nx (pre s.h s0.h)then fcL (d.at T s0.nx s) λids=>bif nodupB ids&&allLt s.nx ids&&fixD s0.nx d.dd (d.ids s0.nx) ids then match mtB s.h (sgs ids) 0 d.os with
   |some b=>mtC (sgs ids) (tkB d.os b) s.h 0 d.os (hsB d.os) b λB=>mtT (sgs ids) (tkB d.os b) d.ss (hsOs d.os) (d.ts.map (getT s.sl)) B K|none=>False else False else False
def WQ(C:Cx T)(N:Nat):Code->Nt->TSt T.den->(Exit->TSt T.den->Prop)->Prop
 |.skip,_,s,Q=>Q .normal s|.region _ ops U,_,s,Q=>regW T C N ops U s (Q .normal)|.seq x y,.jn d ga a gb b,s,Q=>ghs T ga s λs=>∀J,alH d.hs (λi=>(ghs T gb (d.fill T s i) λs'=>WQ C N y b s' Q)->apA d.hs J i)->WQ C N x a s (thenT T (λF=>d.mat T s F (apA d.hs J)) Q)|.seq x y,an,s,Q=>ghs T an.ga s λs=>WQ C N x an.a s (thenT T (λs'=>ghs T an.gb s' λs'=>WQ C N y an.b s' Q) Q)|.cond c x y,an,s,Q=>match s.ev c with
  |.lit true=>ghs T an.ga s λs=>WQ C N x an.a s Q|.lit false=>ghs T an.gb s λs=>WQ C N y an.b s Q|.d .bool t=>(t=true->ghs T an.ga s λs=>WQ C N x an.a s Q)/\(t=false->ghs T an.gb s λs=>WQ C N y an.b s Q)|_=>False
 |.block id x,an,s,Q=>WQ C N x an s (blockT T id Q)|.loop x,.lp g d a,s,Q=>ghs T g s λs=>d.mat T s s λM=>∃(B:Ar T.den d.hs Prop)(μ:Ar T.den d.hs Nat),apA d.hs B M/\alH d.hs λi=>apA d.hs B i->WQ C N x a (d.fill T s i) (thenT T (λF=>d.mat T s F λj=>apA d.hs B j/\apA d.hs μ j<apA d.hs μ i) Q)|.exit id,_,s,Q=>Q (.exit id) s|.ret,an,s,Q=>ghs T an.ga s (Q .ret)|.label _,_,s,Q=>Q .normal s|_,_,_,_=>False
end
end Go.Cv
namespace Go.Bv
open Go.RowKit
def Lk(T:Tk)(s s':St):Prop:=∀G0 w0 N a G w,R T G0 w0 N s a G w->∃G',R T G0 w0 N s' a G' w
theorem Wk.lk{T:Tk}{s s':St}(h:Wk s s'):Lk T s s':=λG0 w0 N a G w B=>⟨G,h T G0 w0 N a G w B⟩
theorem Lk.trans{T:Tk}{a b c:St}(h:Lk T a b)(h':Lk T b c):Lk T a c:=λG0 w0 N x G w B=>let⟨F,h1⟩:=h G0 w0 N x G w B;h' G0 w0 N x F w h1
section
variable{P:Program}{T:Tk}{G0:Gh}{w0:World}{N:Nat}{s:St}{Q:Exit->St->Prop}
theorem sat_lk{c:Code}{s':St}(J:Lk T s s')(h:Sat P T G0 w0 N c s' Q):Sat P T G0 w0 N c s Q:=λG a w B=>let⟨F,h1⟩:=J _ _ _ _ _ _ B;h F a w h1
theorem kq3{c:Code}{B:Exit->St->Prop}(h:Sat P T G0 w0 N c s Q)(Y:∀e s,Q e s->∃s',B e s'/\Lk T s s'):Sat P T G0 w0 N c s B:=λG a w F=>wp_mono (h G a w F) λ_ _ _⟨s',G',h1,J⟩=>let⟨M,k1,k2⟩:=Y _ s' h1;let⟨U,X⟩:=k2 _ _ _ _ _ _ J;⟨M,U,k1,X⟩
theorem kkq{ι:Type}(st:ι->St)(p:ι->Prop)(μ:ι->Nat){c:Code}(i0:ι)(h0:p i0)(hl:Lk T s (st i0))(X:∀i,p i->Sat P T G0 w0 N c (st i) (thenA (λs'=>∃i',p i'/\μ i'<μ i/\Lk T s' (st i')) Q)):Sat P T G0 w0 N (.loop c) s Q:=by
 intro G a w hR;have key:∀n i,μ i=n->p i->∀G a w,R T G0 w0 N (st i) a G w->∀b k cs,∃e a' w',(∃s' G',Q e s'/\R T G0 w0 N s' a' G' w')/\Arrives P (lone (b.at a (.code c::.inLoop c::k)) cs w) b k cs e a' w':=by intro n;induction n using Nat.strongRecOn with|_ n ih=>intro i hn hp G a w hR b k cs;obtain⟨e,Y,Z,⟨s1,M,J,F⟩,B⟩:=X i hp G a w hR b (.inLoop c::k) cs;cases e with
   |normal=>obtain⟨i',h1,h2,h3⟩:=J;obtain⟨G2,aa⟩:=h3 _ _ _ _ _ _ F;obtain⟨e2,a2,w2,ab,U⟩:=ih (μ i') (hn▸h2) i' rfl h1 G2 Y Z aa b k cs;exact⟨e2,a2,w2,ab,.of_steps (Steps.trans B (.one step_inLoop)) U⟩|exit id=>exact⟨_,Y,Z,⟨s1,M,J,F⟩,.pass (x:=.inLoop c) rfl (λ_ _=>.inl qqs) B⟩|goto l=>exact⟨_,Y,Z,⟨s1,M,J,F⟩,.pass (x:=.inLoop c) rfl (λ_ _=>.inl qqs) B⟩|ret=>exact⟨_,Y,Z,⟨s1,M,J,F⟩,.pass (x:=.inLoop c) rfl (λ_ _=>.inl qqs) B⟩|panic ch=>exact⟨_,Y,Z,⟨s1,M,J,F⟩,.pass (x:=.inLoop c) rfl (λ_ _=>.inl qqs) B⟩|outgrown=>exact⟨_,Y,Z,⟨s1,M,J,F⟩,.pass (x:=.inLoop c) rfl (λ_ _=>.inl qqs) B⟩
 intro b k cs;obtain⟨M,F⟩:=hl _ _ _ _ _ _ hR;obtain⟨e,a',w',J,B⟩:=key _ i0 rfl h0 M a w F b k cs;exact⟨e,a',w',J,.of_steps (.one step_loop) B⟩
end
end Go.Bv
namespace Go.Cv
open Go Go.Bv Go.RowKit Go.Md
section
variable{T:Tab}{P:Program}{C:Cx T}{N:Nat}
theorem args_ok{σ:Nat->Nat}{f:List (Option (TOb T.den))}{m nx:Nat}(F:∀j,j<m->σ j<nx)(l:List Sh0)(r:List Ty)(x:HL T.den (hsT l r))(h:okTB m l=true):∀z∈(tkT σ f l r x).1.map (er T),ok nx z:=by intro z B;rw[tkT_er]at B;obtain⟨u,_,rfl⟩:=qap.1 B;exact ok_of0 (okT_mem (tkT_ok F l r x h) _ B) k1y
theorem sgs_lt{ids:Ln}{n nx:Nat}(h:allLt nx ids=true)(F:ids.length=n):∀j,j<n->sgs ids j<nx:=by
 intro j B;have B:j<ids.length:=by omega
 have e:sgs ids j=ids[j]:=by simp[sgs,B]
 rw[e];exact k1u h _ (qz B)
def rho:Ln->Ln->Nat->Nat
 |x::a,y::b,i=>if i=x then y else rho a b i|_,_,i=>i
theorem ker{x:Nat}:∀{l:Ln}{p q:Nat},l.Nodup->l[p]?=some x->l[q]?=some x->p=q
 |[],p,q,_,h,_=>by simp at h|y::l,0,0,_,_,_=>rfl|y::l,0,q+1,F,h1,B=>by simp at h1 B;exact absurd (qbm B) (by rw[<-h1];exact(qcn.1 F).1)|y::l,p+1,0,F,h1,B=>by simp at h1 B;exact absurd (qbm h1) (by rw[<-B];exact(qcn.1 F).1)|y::l,p+1,q+1,F,h1,B=>by rw[ker (qcn.1 F).2 h1 B]
theorem rho_at:∀{a b:Ln}{j:Nat},a.Nodup->j<a.length->j<b.length->rho a b (sgs a j)=sgs b j
 |[],_,j,_,h,_=>by simp at h|_::_,[],j,_,_,h=>by simp at h|x::a,y::b,0,_,_,_=>by simp[rho,sgs]|x::a,y::b,j+1,J,h1,B=>by
  have h1:j<a.length:=by simpa using h1
  have B:j<b.length:=by simpa using B
  have M:sgs (x::a) (j+1)=sgs a j:=by simp[sgs]
  have U:sgs (y::b) (j+1)=sgs b j:=by simp[sgs]
  have F:sgs a j≠x:=by
   intro e;rw[qcn]at J;apply J.1;have:sgs a j=a[j]:=by simp[sgs,h1]
   rw[<-e,this];exact qz h1
  rw[M,U];simp only[rho];rw[qe F];exact rho_at (qcn.1 J).2 h1 B
theorem rho_fix{B:Nat}:∀{a b:Ln},fixB B a b=true->a.length=b.length/\∀i,i<B->rho a b i=i
 |[],[],_=>⟨rfl,λ_ _=>rfl⟩|[],_::_,h=>by cases h|_::_,[],h=>by cases h|x::a,y::b,h=>by simp only[fixB,qh]at h;obtain⟨F,J⟩:=rho_fix h.2;simp only[rho];grind[Nat.blt_eq,nb_eq]
theorem rho_lt{n:Nat}:∀{a b:Ln}{i:Nat},(∀x∈b,x<n)->i<n->rho a b i<n
 |[],[],_,_,h=>h|[],_::_,_,_,h=>h|_::_,[],_,_,h=>h|x::a,y::b,i,B,h=>by
  simp only[rho];split;.simp_all
  .exact rho_lt (by grind) h
theorem k4a{ρ σ τ:Nat->Nat}{m:Nat}(h:∀j,j<m->ρ (σ j)=τ j):∀{l:List (Option (Nat×Nat))},okP m l->renP ρ (renP σ l)=renP τ l
 |[],_=>rfl|none::_,B=>congrArg (List.cons none) (k4a h (l:=_) B)|some (i,_)::_,B=>by simp only[renP];rw[h i B.1,k4a h B.2]
theorem kv6{ρ σ τ:Nat->Nat}{m:Nat}(h:∀j,j<m->ρ (σ j)=τ j){x:V}(B:ok1 m x):ren1 ρ (ren1 σ x)=ren1 τ x:=by cases x<;>first|rfl|(simp only[ren1];rw[h _ B])|(simp only[ren1];rw[k4a h B.1,k4a h B.2])|exact False.elim B
theorem kf5{ρ σ τ:Nat->Nat}{m:Nat}(h:∀j,j<m->ρ (σ j)=τ j):∀{l:List V},okL m l->(l.map (ren1 σ)).map (ren1 ρ)=l.map (ren1 τ)
 |[],_=>rfl|x::l,B=>by simp only[qaj];rw[kv6 h B.1,kf5 h B.2]
theorem kfe{ρ σ τ:Nat->Nat}{m:Nat}(h:∀j,j<m->ρ (σ j)=τ j){x:V}(B:ok0 m x):ren0 ρ (ren0 σ x)=ren0 τ x:=by cases x with
 |agg l=>exact congrArg V.agg (kf5 h B)|_=>first|rfl|exact False.elim B|(simp only[ren0,ren1];rw[h _ B])|(simp only[ren0,ren1];rw[k4a h B.1,k4a h B.2])
theorem kfx{ρ σ τ:Nat->Nat}{m:Nat}(h:∀j,j<m->ρ (σ j)=τ j):∀{l:List V},okT m l->(l.map (ren0 σ)).map (ren0 ρ)=l.map (ren0 τ)
 |[],_=>rfl|x::l,B=>by simp only[qaj];rw[kfe h B.1,kfx h B.2]
theorem kf0{ρ σ τ:Nat->Nat}{m:Nat}(h:∀j,j<m->ρ (σ j)=τ j):∀{l:List (D×V)},okM m l->(l.map λe=>(e.1,ren0 σ e.2)).map (λe=>(e.1,ren0 ρ e.2))=l.map λe=>(e.1,ren0 τ e.2)
 |[],_=>rfl|x::l,B=>by simp only[qaj];rw[kfe h B.1,kf0 h B.2]
theorem knz{ρ σ τ:Nat->Nat}{m:Nat}(h:∀j,j<m->ρ (σ j)=τ j){o:Ob}(F:okO m o):renO ρ (renO σ o)=renO τ o:=by cases o with
 |cells l=>exact congrArg Ob.cells (kf5 h F)|map x=>cases x with
  |m l=>exact congrArg (λz=>Ob.map (.m z)) (kf0 h F)|it mid l B=>show Ob.map (.it (ρ (σ mid)) _ _)=Ob.map (.it (τ mid) _ _);rw[h mid F.1,kf0 h F.2.1];cases B with
   |none=>rfl|some e=>show Ob.map (.it _ _ (some (e.1,ren0 ρ (ren0 σ e.2))))=Ob.map (.it _ _ (some (e.1,ren0 τ e.2)));rw[kfe h (F.2.2 e rfl)]
 |_=>rfl
theorem hpN_get{σ:Nat->Nat}:∀os k i B,Hp.get (erH T (hpN σ k os)) i=some B->∃p o,os[p]?=some o/\i=σ (k+p)/\B=erO T o
 |[],k,i,B,h=>by cases h|o::os,k,i,B,h=>by
  have h:Hp.get ((σ k,erO T o)::erH T (hpN σ (k+1) os)) i=some B:=h;simp only[Hp.get]at h;split at h;.rename_i e;injection h with h;exact⟨0,o,rfl,e,h.symm⟩
  .obtain⟨p,o',h1,J,F⟩:=hpN_get os (k+1) i B h;exact⟨p+1,o',by grind,by grind,F⟩
theorem slotsR{sl:List (Nat×TV T.den)}{nx:Nat}{ρ:Nat->Nat}:∀ts vs,leAll ((ts.map (getT sl)).map (er T)) ((vs.map (er T)).map (ren ρ))->(∀z∈vs.map (er T),ok nx z)->∀t,getS ((zipS T ts vs).map λp=>(p.1,er T p.2)) t=.any∨le (getS (sl.map λp=>(p.1,er T p.2)) t) (ren ρ (getS ((zipS T ts vs).map λp=>(p.1,er T p.2)) t))/\ok nx (getS ((zipS T ts vs).map λp=>(p.1,er T p.2)) t)
 |[],[],_,_,_=>.inl rfl|[],_::_,h,_,_=>h.elim|_::_,[],h,_,_=>h.elim|u::ts,v::vs,h,B,t=>by
  simp only[zipS,qaj,getS];split;.rename_i e;subst e;refine .inr ⟨?_,B _ qqs⟩;rw[getS_er];exact h.1
  .exact slotsR ts vs h.2 (λz F=>B z (by simp only[qaj,qak];exact .inr F)) t
theorem fcL_eq:∀{l:Ln}{K:Ln->Prop},fcL l K->K l
 |[],_,h=>h|x::r,K,h=>fcL_eq (l:=r) (K:=λr=>K (x::r)) h
theorem mat_snd(hT:T.Ok){Tk:Tk}{m:Tm}{s:TSt T.den}{J:HL T.den m.hs->Prop}(h:m.mat T Tk.nx s J):∃i,J i/\Lk Tk (erS T s) (erS T (m.fill T i)):=by
 unfold Tm.mat at h;obtain⟨h1,h2⟩:=cnd h;simp only[qh,Tm.okB]at h1;obtain⟨⟨a1,a2⟩,⟨⟨⟨⟨⟨⟨b1,b2⟩,b3⟩,b4⟩,b5⟩,b6⟩,b7⟩⟩:=h1;replace h2:=fcL_eq h2;generalize m.at T Tk.nx s=ids at h2;obtain⟨h3,h4⟩:=cnd h2;simp only[qh]at h3;obtain⟨⟨⟨c1,c2⟩,c3⟩,c4⟩:=h3;have c1:=k1x c1;have c2:=k1x c2;obtain⟨c5,c6⟩:=rho_fix c4;split at h4
 .rename_i b hb;obtain⟨y,g1,g2,g3⟩:=k8j hT b7 hb h4;obtain⟨x,k1,k2,_,k4⟩:=mtT_snd m.ss _ _ y _ b6 g1;have hf:m.f T x=tkB m.os b:=by unfold Tm.f;rw[k2,g2]
  have X:=sgs_lt b3 (nb_eq b4);have ae:=(nb_eq b4).symm;have B:∀j,j<m.os.length->rho m.ids ids (sgs m.ids j)=sgs ids j:=λj hj=>rho_at c1 qqo qqo;have U:∀j,j<m.os.length->idf j<m.os.length:=λj h=>h;refine⟨x,k1,λG0 w0 N a G w hR=>?_⟩;have F:∀id ob,(erS T (m.fill T x)).h.get id=some ob->∃p o,(tkC (sgs m.ids) (tkB m.os b) 0 m.os (hsB m.os) y).1[p]?=some o/\p<m.os.length/\id=sgs m.ids p/\ob=erO T o:=by intro id ob hg;have hg:Hp.get (erH T (hpN (sgs m.ids) 0 (tkC (sgs m.ids) (m.f T x) 0 m.os _ (drT m.ss _ x)).1)) id=some ob:=hg;rw[hf,k2]at hg;obtain⟨p,o,Y,M,q3⟩:=hpN_get _ _ _ _ hg;rw[qav]at M;exact⟨p,o,Y,by have:=(qq.1 Y).1;rw[tkC_len]at this;exact this,M,q3⟩
  refine hR.leRen (σ:=rho m.ids ids) (ble_le a1) c6 (λi hi=>rho_lt (k1u c3) (qau hi (ble_le a2))) (λi j li lj Z=>?_) (λid ob hg=>?_) ?_
  .obtain⟨oi,ac,_⟩:=live_of li;obtain⟨oj,ad,_⟩:=live_of lj;obtain⟨p,_,_,Y,M,_⟩:=F i oi ac;obtain⟨q,_,_,r1,r2,_⟩:=F j oj ad;rw[M,r2,B p Y,B q r1]at Z;have e1:sgs ids p=ids[p]' qqo:=by simp[sgs,show p<ids.length by omega]
   have e2:sgs ids q=ids[q]' qqo:=by simp[sgs,show q<ids.length by omega]
   rw[e1,e2]at Z;have:=ker c2 (qf (show p<ids.length by omega)) (by rw[Z];exact qf (show q<ids.length by omega));rw[M,r2,this]
  .obtain⟨p,o,Y,M,rfl,rfl⟩:=F id ob hg;refine⟨X p M,?_,tkC_ok (k1k _ _) X 0 m.os _ y b2 p o Y⟩;have aa:p<(tkC (sgs ids) (tkB m.os b) 0 m.os (hsB m.os) y).1.length:=by rw[tkC_len];exact M
   have ab:p<(tkC idf (tkB m.os b) 0 m.os (hsB m.os) y).1.length:=by rw[tkC_len];exact M
   have w1:=congrArg (λl=>l[p]?) (tkC_ren (sgs m.ids) (tkB m.os b) (k1k m.os b) 0 m.os (hsB m.os) y);have w2:=congrArg (λl=>l[p]?) (tkC_ren (sgs ids) (tkB m.os b) (k1k m.os b) 0 m.os (hsB m.os) y);simp only[qr,Y,qbn,qf ab,qf aa,qaq]at w1 w2;have w3:=tkC_ok (k1k m.os b) U 0 m.os (hsB m.os) y b2 p _ (qf ab);rw[B p M,w1,knz B w3,<-w2];exact g3 p _ (qf aa)
  .intro t;have key:leAll ((m.ts.map (getT s.sl)).map (er T)) (((tkT (sgs m.ids) (m.f T x) m.ss (hsOs m.os) x).1.map (er T)).map (ren (rho m.ids ids))):=by
    have e1:((tkT (sgs m.ids) (m.f T x) m.ss (hsOs m.os) x).1.map (er T)).map (ren (rho m.ids ids))=(tkT (sgs ids) (tkB m.os b) m.ss (hsOs m.os) x).1.map (er T):=by
     rw[hf,tkT_er,tkT_er];have:((tkT (sgs m.ids) (tkB m.os b) m.ss (hsOs m.os) x).1.map (er0 T)).map (ren (rho m.ids ids))=((tkT (sgs m.ids) (tkB m.os b) m.ss (hsOs m.os) x).1.map (er0 T)).map (ren0 (rho m.ids ids)):=by rw[qbr,qbr];exact qar λv _=>ren_0 _ k1y
     rw[this,k34 (sgs m.ids),k34 (sgs ids)];exact kfx B (tkT_ok U m.ss _ x b1)
    rw[e1];exact k4
   exact slotsR m.ts _ key (args_ok X m.ss _ x b1) t
 .exact h4.elim
section
variable{Tk:Tk}{G0:Gh}{w0:World}{a:Act}{G:Gh}{w:World}
theorem kg3{id n z:Nat}{v:TV T.den}{h:THp T.den}{nx:Nat}(J:∀u,RepV G w (erH T h) nx u (.row id 0 n z)->RepV G w (erH T h) nx u (er T v)):∀ts sl K,rowsTo T id v n z ts sl K->R Tk G0 w0 N (erS T ⟨sl,h,nx⟩) a G w->∃sl',K sl'/\R Tk G0 w0 N (erS T ⟨sl',h,nx⟩) a G w
 |[],sl,K,B,F=>⟨sl,B,F⟩|t::ts,sl,K,B,F=>by
  simp only[rowsTo]at B;split at B;.rename_i i M m U;obtain⟨h1,X,Y⟩:=cnd B;simp only[qh]at h1;refine kg3 J ts _ K Y ?_;have hs:=F.sl t;rw[show getS (erS T ⟨sl,h,nx⟩).sl t=er T (getT sl t)from getS_er sl t,U]at hs;have hs:RepV G w (erH T h) nx (a.tmps.getD t undef) (.row i 0 m (T.sz M)):=hs;rw[nb_eq h1.1,X,nb_eq h1.2]at hs;exact F.reslot t (J _ hs)
  grind
theorem kka{e:Ty}{v:TV T.den}{l:List (e.den T.den)}(h:growE T e v=some l):growsFrom (T.sz e) (l.map (T.e e)) (er1 T v)/\v.sim=true:=by
 unfold growE at h;split at h;.obtain⟨F,J,_⟩:=kr h;exact⟨⟨F,J⟩,rfl⟩
 .rename_i u;cases B:isNilK u with
  |false=>grind|true=>rw[B]at h;injection h with h;subst h;rw[k28 B];exact⟨rfl,rfl⟩
 .cases h
theorem kkl{h:THp T.den}{v:TV T.den}{K:Nat->(e:Ty)->List (e.den T.den)->Prop}(B:trimV T h v K):∃id e l l0,K id e l/\getH h id=some (.vec e l0)/\l=l0.take l.length/\l.length<=l0.length/\er1 T v=.row id 0 l.length (T.sz e)/\v.sim=true:=by
 unfold trimV at B;split at B
 .rename_i id e n;split at B;.rename_i X l F;obtain⟨h1,J,M⟩:=cnd B;obtain rfl:=Ty.eq_of_beq h1;exact⟨id,e,l,l,M,F,by simp,qaf _,by rw[J];rfl,rfl⟩
  grind
 .rename_i id e off n;split at B
  .rename_i X l F;obtain⟨h1,J,M,Y⟩:=cnd B;obtain rfl:=Ty.eq_of_beq h1;have U:(l.take n).length=n:=by grind
   exact⟨id,e,l.take n,l,Y,F,by rw[U],by grind,by rw[U,J];simp[er1],rfl⟩
  grind
 grind
theorem trim_ob(F:T.Ok){e:Ty}{l B:List (e.den T.den)}(h1:l=B.take l.length)(J:l.length<=B.length):(((B.map (T.e e)).flatMap D.cells).map V.d).take (l.length*T.sz e)=((l.map (T.e e)).flatMap D.cells).map V.d:=by rw[<-qdc,kbl F B _ J,<-h1]
theorem vec_set{e:Ty}(l:List (e.den T.den))(i:Nat)(y:e.den T.den)(hi:i<l.length):erO T (.vec e (l.set i y))=.cells ((((l.take i).map (T.e e)).flatMap D.cells).map V.d++(T.e e y).cells.map V.d++(((l.drop (i+1)).map (T.e e)).flatMap D.cells).map V.d):=by show Ob.cells ((((l.set i y).map (T.e e)).flatMap D.cells).map V.d)=_;rw[qeg,qg hi];grind
theorem recT{s:TSt T.den}{G:Gh}{i j:Nat}{cs:List (TV T.den)}{x y:TV T.den}(B:R Tk G0 w0 N (erS T s) a G w)(hi:getH s.h i=some (.cells cs))(F:cs[j]?=some x)(J:(er1 T y).one=true)(M:∀v,RepV G w (erS T s).h s.nx v (er1 T x)->RepV G w (erS T s).h s.nx v (er1 T y)):R Tk G0 w0 N (erS T ⟨s.sl,(i,.cells (cs.set j y))::s.h,s.nx⟩) a G w:=by have:=B.recell (getE hi) (show(cs.map (er1 T))[j]?=some (er1 T x)by rw[qr,F];rfl) J M;rw[<-List.map_set]at this;exact this
theorem getS1{h:THp T.den}{n i:Nat}{o q:TOb T.den}(h1:getH h i=some o)(B:i<n):getH ((n,q)::h) i=some o:=by simp only[getH];rw[nb_ne qqo,qcc];exact h1
theorem getS2{h:THp T.den}{n i k:Nat}{o q r:TOb T.den}(h1:getH h i=some o)(B:i<n)(F:i≠k):getH ((n,q)::(k,r)::h) i=some o:=getS1 (by simp only[getH];rw[nb_ne F,qcc];exact h1) B
theorem kpo(hT:T.Ok){s:TSt T.den}{K:TSt T.den->Prop}{id i j:Nat}(h:frzC T s K id i j)(J:R Tk G0 w0 N (erS T s) a G w):∃s' G',K s'/\R Tk G0 w0 N (erS T s') a G' w:=by
 unfold frzC at h;split at h
 .rename_i e l cs M hi;split at h;.rename_i B F m U;obtain⟨h1,X,Y⟩:=cnd h;simp only[qh]at h1;have Z:i≠id:=(by grind);obtain rfl:=nb_eq h1.1.1;obtain rfl:=Ty.eq_of_beq h1.1.2;subst X;obtain⟨G',f1,_,f2⟩:=J.freeze (getE M) (map_sz hT l) (by grind:(l.map (T.e F)).length=l.length);exact⟨_,G',Y,recT (s:=⟨s.sl,(s.nx,.tip F l)::(B,.dead)::s.h,s.nx+1⟩) f1 (getS2 hi (J.wr.hid _ _ (getE hi)) Z) U rfl f2⟩
  grind
 grind
theorem gh1_snd(Y:T.Ok){s:TSt T.den}{K:TSt T.den->Prop}:∀g,gh1 T s K g->R Tk G0 w0 N (erS T s) a G w->∃s' G',K s'/\R Tk G0 w0 N (erS T s') a G' w
 |.frz id ts,h,B=>by
  simp only[gh1]at h;split at h;.rename_i e l hg;obtain⟨G',h1,_,M⟩:=B.freeze (getE hg) (map_sz Y l) (by grind:(l.map (T.e e)).length=l.length);obtain⟨ah,k1,k2⟩:=kg3 (T:=T) (h:=(s.nx,.tip e l)::(id,.dead)::s.h) (nx:=s.nx+1) (v:=.own s.nx e l) (z:=T.sz e) (n:=l.length) (id:=id) (G:=G') (w:=w) (λu hu=>M u hu) ts s.sl _ h h1;grind
  grind|.frzc id i j,h,B=>kpo Y h B|.frzi i j,h,B=>by
  simp only[gh1]at h;split at h
  .split at h;.exact kpo Y h B
   .exact⟨_,_,h,B⟩
  grind|.tok t e,h,B=>by
  simp only[gh1]at h;split at h;.rename_i l hl;obtain⟨g1,g2⟩:=kka hl;obtain⟨G',h1,M⟩:=B.tok (T.sz e) (l.map (T.e e));rw[qp]at h1 M;have hs:=h1.sl t;have hs:=hs;rw[show getS (erS T s).sl t=er T (getT s.sl t)from getS_er s.sl t,er_sim g2]at hs;exact⟨_,G',h,h1.reslot t (M _ _ g1 hs)⟩
  grind|.tokc id j e,h,B=>by
  simp only[gh1]at h;split at h
  .rename_i cs hi;split at h
   .rename_i v hj;split at h;.rename_i l hl;obtain⟨g1,g2⟩:=kka hl;obtain⟨G',h1,M⟩:=B.tok (T.sz e) (l.map (T.e e));rw[qp]at h1 M;exact⟨_,G',h,recT (s:=⟨s.sl,(s.nx,.tip e l)::s.h,s.nx+1⟩) h1 (getS1 hi (B.wr.hid _ _ (getE hi))) hj rfl λu=>M _ u g1⟩
    grind
   grind
  grind|.trim t,h,B=>by simp only[gh1]at h;obtain⟨id,e,l,l0,h1,M,h3,h4,h5,h6⟩:=kkl h;obtain⟨G',U,X⟩:=B.trim (getE M) (l.length*T.sz e);rw[trim_ob Y h3 h4]at U X;have hs:=U.sl t;have hs:=hs;rw[show getS (erS T s).sl t=er T (getT s.sl t)from getS_er s.sl t,er_sim h6,h5]at hs;exact⟨_,G',h1,U.reslot t (X _ _ _ hs)⟩|.trimc id j,h,B=>by
  simp only[gh1]at h;split at h
  .rename_i cs hi;split at h
   .rename_i v hj;obtain⟨ab,e,l,l0,h1,M,h3,h4,h5,h6⟩:=kkl h;have ac:ab≠id:=by grind
    rw[nb_ne ac,qcc]at h1;obtain⟨G',U,X⟩:=B.trim (getE M) (l.length*T.sz e);rw[trim_ob Y h3 h4]at U X;exact⟨_,G',h1,recT (s:=⟨s.sl,(s.nx,.vec e l)::(ab,.dead)::s.h,s.nx+1⟩) U (getS2 hi (B.wr.hid _ _ (getE hi)) (Ne.symm ac)) hj rfl λu hu=>X u _ _ (h5▸hu)⟩
   grind
  grind|.rnil t e,h,B=>by simp only[gh1]at h;obtain⟨h1,M⟩:=cnd h;obtain⟨q1,q2⟩:=isE_er (T:=T) h1;obtain⟨G',U,X⟩:=B.rnil;have hs:=U.sl t;have hs:RepV G' w ((s.nx,.cells [])::erH T s.h) (s.nx+1) (a.tmps.getD t undef) (getS (erS T s).sl t):=hs;rw[show getS (erS T s).sl t=er T (getT s.sl t)from getS_er s.sl t]at hs;exact⟨_,G',M,U.reslot t (X _ _ _ q1 hs)⟩|.rnilc id j e,h,B=>by
  simp only[gh1]at h;split at h
  .rename_i cs hi;split at h;.rename_i v hj;obtain⟨h1,M⟩:=cnd h;obtain⟨q1,q2⟩:=isE_er (T:=T) h1;rw[er_of1 q2]at q1;obtain⟨G',U,X⟩:=B.rnil;exact⟨_,G',M,recT (s:=⟨s.sl,(s.nx,.vec e [])::s.h,s.nx+1⟩) U (getS1 hi (B.wr.hid _ _ (getE hi))) hj rfl λu=>X u _ _ q1⟩
   grind
  grind|.frzf id i,h,B=>by
  simp only[gh1]at h;split at h
  .rename_i e l z x k off F J m hg hi;obtain⟨h1,h⟩:=cnd h;simp only[qh,qbl]at h1;obtain⟨⟨⟨p1,p2⟩,p3⟩,p4⟩:=h1;obtain rfl:=nb_eq p1;obtain rfl:=Ty.eq_of_beq p2;have q3:i≠F:=(by grind);have q4:off<(T.tys z).length:=qea p4;split at h
   .rename_i y hy;obtain⟨⟨rfl,h3,h4⟩,h5⟩:=h;have ad:(erS T s).h.get i=some (.cells ((((x.map (T.e (.st z))).flatMap D.cells).map V.d).set (k.toNat*T.sz (.st z)+off) (.row F 0 l.length (T.sz J)))):=getE hi;have hm:(k.toNat+1)*T.sz (.st z)<=x.length*T.sz (.st z):=qbh _ qqo;rw[qca,qcw]at hm;have q4:off<T.sz (.st z):=q4;have Z:k.toNat*T.sz (.st z)+off<(((x.map (T.e (.st z))).flatMap D.cells).map V.d).length:=by rw[qp,k1d Y];omega
    obtain⟨G',U,_,X⟩:=B.freeze (getE hg) (map_sz Y l) (by grind:(l.map (T.e J)).length=l.length);have ai:i<s.nx:=B.wr.hid _ _ ad;have ae:Hp.get ((s.nx,Ob.tip l.length)::(F,.dead)::erH T s.h) i=some (.cells ((((x.map (T.e (.st z))).flatMap D.cells).map V.d).set (k.toNat*T.sz (.st z)+off) (.row F 0 l.length (T.sz J)))):=by simp only[Hp.get];rw[qe qqo,qe q3];exact ad
    have hx:((((x.map (T.e (.st z))).flatMap D.cells).map V.d).set (k.toNat*T.sz (.st z)+off) (.row F 0 l.length (T.sz J)))[k.toNat*T.sz (.st z)+off]?=some (.row F 0 l.length (T.sz J)):=List.getElem?_set_self Z;have ag:le1 (.own s.nx (T.sz J) (l.map (T.e J))) (.d (.slice (T.sz J) (l.map (T.e J)))):=⟨rfl,rfl⟩;have:=U.recell (s:=⟨(erS T s).sl,(s.nx,.tip l.length)::(F,.dead)::erH T s.h,s.nx+1⟩) (y:=.d (.slice (T.sz J) (l.map (T.e J)))) ae hx rfl λv hv=>(X v hv).le1 ag;refine⟨_,G',h5,?_⟩;have aa:∀(t:List (TD T.den))(j:Nat),allD T ((t.map TD.v).set j (.d (.sl J) l))=true:=by intro t;induction t with
     |nil=>intro j;rfl|cons d t ih=>intro j;cases j with
      |zero=>show allD T (t.map TD.v)=true;clear ih;induction t with
       |nil=>rfl|cons d t ih=>exact ih
      |succ j=>exact ih j
    have hk:=kes hy (aa _ off);rw[List.map_set]at hk;have hk:((T.e (.st z) (@ix _ ⟨T.dflt (.st z)⟩ x k)).cells.map V.d).set off (.d (.slice (T.sz J) (l.map (T.e J))))=(T.eL (T.tys z) y).map V.d:=by rw[<-hk,<-k97 Y (.st z)];rfl
    have hc:(T.e (.st z) (T.pack z y)).cells=T.eL (T.tys z) y:=by show(T.enc z (T.pack z y)).cells=_;rw[Y.en,Y.pc];rfl
    have aj:k.toNat<x.length:=by omega
    have e1:erO T (.vec (.st z) (x.set k.toNat (T.pack z y)))=.cells (((((x.map (T.e (.st z))).flatMap D.cells).map V.d).set (k.toNat*T.sz (.st z)+off) (.row F 0 l.length (T.sz J))).set (k.toNat*T.sz (.st z)+off) (.d (.slice (T.sz J) (l.map (T.e J))))):=by rw[List.set_set,<-kb4 _ Z,kn8 Y x k h3 h4 off _ (by grind),kb4 _ (by grind[List.length_map,e_sz]),hk,<-hc];grind[vec_set]
    have e2:erS T ⟨s.sl,(i,.vec (.st z) (x.set k.toNat (T.pack z y)))::(s.nx,.tip J l)::(F,.dead)::s.h,s.nx+1⟩=⟨(erS T s).sl,(i,.cells (((((x.map (T.e (.st z))).flatMap D.cells).map V.d).set (k.toNat*T.sz (.st z)+off) (.row F 0 l.length (T.sz J))).set (k.toNat*T.sz (.st z)+off) (.d (.slice (T.sz J) (l.map (T.e J))))))::(s.nx,.tip l.length)::(F,.dead)::erH T s.h,s.nx+1⟩:=by rw[<-e1];rfl
    grind
   grind
  grind
end
theorem ghs_snd(F:T.Ok){Tk:Tk}{G0:Gh}{w0:World}{a:Act}{w:World}:∀gs s K G,ghs T gs s K->R Tk G0 w0 N (erS T s) a G w->∃s' G',K s'/\R Tk G0 w0 N (erS T s') a G' w
 |[],s,K,G,h,B=>⟨s,G,h,B⟩|g::gs,s,K,G,h,B=>by obtain⟨J,M,h1,U⟩:=gh1_snd F g h B;exact ghs_snd F gs J K M h1 U
theorem sat_ghs(J:T.Ok){Tk:Tk}{G0:Gh}{w0:World}{gs:List Gs}{s:TSt T.den}{K:TSt T.den->Prop}{c:Code}{Q:Exit->St->Prop}(h:ghs T gs s K)(M:∀s',K s'->Sat P Tk G0 w0 N c (erS T s') Q):Sat P Tk G0 w0 N c (erS T s) Q:=by intro G a w B;obtain⟨s',G',h1,F⟩:=ghs_snd J gs s K G h B;exact M s' h1 G' a w F
def QE(Q:Exit->TSt T.den->Prop)(e:Exit)(s:St):Prop:=KE (Q e) s
theorem KE.lk{K:TSt T.den->Prop}{s:TSt T.den}(h:K s):KE K (erS T s):=⟨s,h,Wk.refl _⟩
theorem kvb(Y:T.Ok)(hC:C.Ok P T)(hm:P.follows .mixedOrders=true){Tk:Tk}{G0:Gh}{w0:World}:∀c an s Q,WP T C N Tk.nx c an s Q->Obl T C N Tk.nx c an Q->Sat P Tk G0 w0 N c (erS T s) (QE Q):=by intro c;induction c with
 |skip=>intro an s Q h _;exact kpt (KE.lk (by simpa[WP]using h))|region id ops dr=>
  intro an s Q h _;obtain⟨l⟩:=ops;have h:regW T C N ⟨l⟩ dr s (Q .normal):=by simpa[WP]using h
  cases dr with
  |false=>intro G a w hR;exact wp_region_lit (ksk Y hC l (Q .normal) s a G w hR h λs' a' G' w' hk ab=>⟨erS T s',G',KE.lk hk,ab⟩)|true=>unfold regW at h;obtain⟨h1,h2⟩:=cnd h;rw[qh]at h1;refine kke C.S hm (noIt_er h1.2) h1.1 λK hK=>?_;exact k5x (K:=KE (Q .normal)) (λa b he⟨t,M,X⟩=>hK a ⟨t,M,he.wk.trans X⟩) (closeOps l) _ _ _ _ _ (Eqv.refl _) (ku4 Y hC (closeOps l) _ _ _ _ h2)
 |seq x y aa ad=>
  intro an s Q h B;have F:∀ga gb a b,(ghs T ga s λs=>WP T C N Tk.nx x a s (thenT T (λs'=>ghs T gb s' λs'=>WP T C N Tk.nx y b s' Q) Q))->Obl T C N Tk.nx x a (thenT T (λs'=>ghs T gb s' λs'=>WP T C N Tk.nx y b s' Q) Q)->Obl T C N Tk.nx y b Q->Sat P Tk G0 w0 N (.seq x y) (erS T s) (QE Q):=by intro ga gb a b h1 h2 h3;refine sat_ghs Y h1 λs' U=>sat_seq (k18 (aa a s' _ U h2) λe s1 Z=>?_);obtain⟨t,M,X⟩:=Z;cases e with
   |normal=>exact sat_lk X.lk (sat_ghs Y M (by grind))|_=>exact⟨t,M,X⟩
  cases an with
  |jn tm J ga a gb b=>simp only[Obl]at B;obtain⟨o1,o2,o3⟩:=B;refine sat_ghs Y h λs' U=>sat_seq (k18 (aa a s' _ U o1) λe s1 Z=>?_);obtain⟨t,M,X⟩:=Z;cases e with
   |normal=>obtain⟨i,k1,k2⟩:=mat_snd Y M;refine sat_lk (X.lk.trans k2) ?_;grind[sat_ghs]|_=>exact⟨t,M,X⟩
  |no=>simp only[WP]at h;simp only[Obl]at B;exact F _ _ _ _ h B.1 B.2|nd ga a gb b=>simp only[WP]at h;simp only[Obl]at B;exact F _ _ _ _ h B.1 B.2|lp g tm L a=>simp only[WP]at h;simp only[Obl]at B;exact F _ _ _ _ h B.1 B.2|rt g=>simp only[WP]at h;simp only[Obl]at B;exact F _ _ _ _ h B.1 B.2
 |cond c x y aa ad=>
  intro an s Q h B;simp only[WP]at h;simp only[Obl]at B;split at h;.rename_i hv;exact kkd (by rw[ev_er,hv];rfl) (sat_ghs Y h (by grind))
  .rename_i hv;exact kkz (by rw[ev_er,hv];rfl) (sat_ghs Y h (by grind))
  .rename_i t hv;exact k8w (t:=t) (by rw[ev_er,hv];rfl) (λht=>sat_ghs Y (h.1 ht) (by grind)) λht=>sat_ghs Y (h.2 ht) (by grind)
  grind|block id x ih=>intro an s Q h B;simp only[WP]at h;simp only[Obl]at B;refine kkn (k18 (ih an s _ h B) λe s1 Z=>?_);obtain⟨t,M,X⟩:=Z;cases e with
  |exit ae=>
   simp only[blockT]at M;simp only[blockA];by_cases hi:ae=id;.rw[qg hi];rw[hi,nb_self]at M;exact⟨t,M,X⟩
   .rw[qe hi];rw[nb_ne hi]at M;exact⟨t,M,X⟩|_=>exact⟨t,M,X⟩
 |loop x ih=>intro an s Q h B;cases an with
  |lp g tm L a=>simp only[WP]at h;simp only[Obl]at B;obtain⟨o1,o2⟩:=B;refine sat_ghs Y h λs' U=>?_;obtain⟨i,⟨⟨ac,μ,k0,k1⟩⟩,k2⟩:=mat_snd Y U;refine kkq (λi=>erS T (tm.fill T i)) ac μ i k0 k2 λi hi=>?_;have hr:=k1 i hi;rw[o1]at hr;refine k18 (ih _ _ _ hr (o2 _)) λe s1 Z=>?_;obtain⟨t,M,X⟩:=Z;cases e with
   |normal=>obtain⟨i',⟨m1,m2⟩,m3⟩:=mat_snd Y M;exact⟨i',m1,m2,X.lk.trans m3⟩|_=>exact⟨t,M,X⟩
  |_=>simp only[WP]at h
 |exit id=>intro an s Q h _;simp only[WP]at h;exact kpv (KE.lk h)|ret=>intro an s Q h _;simp only[WP]at h;exact sat_ghs Y h λs' U=>sat_ret (KE.lk U)|label l=>intro an s Q h _;simp only[WP]at h;exact kkr (KE.lk h)|_=>intro an s Q h _;simp only[WP]at h
theorem eqH_eq:∀{ts:List Ty}{x y:HL T.den ts},eqH ts x y->x=y
 |[],_,_,_=>rfl|[_],x,y,h=>by obtain⟨c,d⟩:=y;subst h;rfl|_::t::r,x,y,h=>by obtain⟨a,b⟩:=x;obtain⟨c,d⟩:=y;obtain⟨h1,B⟩:=h;have F:a=c:=h1;have J:b=d:=eqH_eq (ts:=t::r) B;rw[F,J]
theorem kfs(M:T.Ok)(U:InfoOk P T C.ti){s:TSt T.den}:∀B K,resT T C.ti s B K->∃l,K l/\allOk P (erS T s) B/\B.map (resV P (erS T s))=l.map (er T)
 |[],K,h=>⟨[],h,trivial,rfl⟩|.tmp t::r,K,h=>by obtain⟨l,h1,F,J⟩:=kfs M U r _ h;refine⟨_,h1,⟨trivial,F⟩,?_⟩;simp only[qaj];congr 1;exact getS_er s.sl t|.cell t ty::r,K,h=>by obtain⟨u,X,Y,Z⟩:=kjv M (U.of ty) h;obtain⟨l,h1,F,J⟩:=kfs M U r _ X;have e:getS (erS T s).sl t=er T (getT s.sl t):=getS_er s.sl t;refine⟨_,h1,⟨by show loadOk _ _ (getS (erS T s).sl t);rw[e];exact Y,F⟩,?_⟩;simp only[qaj];congr 1;show loadV _ _ (getS (erS T s).sl t)=_;rw[e];exact Z
theorem kp8:∀{l:List (TV T.den)},noTupB T l=true->l.map (er T)=l.map (er0 T)
 |[],_=>rfl|v::r,h=>by cases v<;>first|(cases h)|(simp only[qaj];rw[kp8 (l:=r) h];rfl)
theorem ret_er{l:List (TV T.den)}(h:noTupB T l=true):retV (l.map (er T))=er T (retTV T l):=by match l,h with
 |[],_=>rfl|[x],_=>rfl|x::y::r,h=>exact congrArg V.tup (kp8 h)
theorem kkh{h:Hp}{σ:Nat->Nat}{m nx:Nat}:∀{B:Ln}{os:List Ob},B.length=os.length->(∀(i k:Nat)o,B[i]?=some k->os[i]?=some o->k<nx/\obLe (h.get k) (renO σ o)/\okO m o)->postOk h σ m nx B os
 |[],[],_,_=>trivial|[],_::_,h,_=>by cases h|_::_,[],h,_=>by cases h|k::B,o::os,h,F=>⟨F 0 k o rfl rfl,kkh (by grind) λi J o' h1 M=>F (i+1) J o' (by grind) (by grind)⟩
theorem kgb:∀{n k:Nat}{l:Ln},selfB n k l=true->selfP k n l
 |0,_,l,_=>by cases l<;>trivial|n+1,k,[],h=>by cases h|n+1,k,i::r,h=>by simp only[selfB,qh]at h;exact⟨nb_eq h.1,kgb h.2⟩
theorem k8a(hT:T.Ok)(hC:C.Ok P T){c:Con T.den}{rs:List ResultVar}{o:HL T.den (hsV c.res (hsOs c.post))}{s:TSt T.den}(h:retT T C c rs o s):RetA P rs (er T (c.val idf o)) c.pre.length ((c.ops idf o).map (erO T)) (erS T s):=by
 obtain⟨l,h1,h2,h3⟩:=kfs hT hC.ti rs _ h;split at h1;.exact h1.elim
 .rename_i ids ai;split at h1;.exact h1.elim
  .rename_i b hb;obtain⟨a1,a2⟩:=cnd h1;simp only[qh,Con.okB]at a1;obtain⟨⟨⟨⟨⟨aa,ab⟩,ac⟩,B⟩,U⟩,ad⟩:=a1;obtain⟨⟨⟨⟨⟨⟨⟨⟨⟨⟨o1,o2⟩,o3⟩,o4⟩,o5⟩,o6⟩,o7⟩,o8⟩,o9⟩,ae⟩,aj⟩:=aa;have B:=nb_eq B;obtain⟨y,g1,g2,g3⟩:=k8j hT ae hb a2;obtain⟨x,k1,k2,k3⟩:=mtV_snd c.res _ _ y _ o9 g1;have hx:=eqH_eq k1;subst hx;have Y:c.fo x=tkB c.post b:=by unfold Con.fo;rw[k2,g2]
   have M:c.ops idf x=(tkC idf (tkB c.post b) 0 c.post _ y).1:=by unfold Con.ops;rw[Y,k2]
   have J:((c.ops idf x).map (erO T)).length=c.post.length:=by rw[qp,M,tkC_len]
   have F:c.val idf x=(tkV idf (tkB c.post b) c.res _ x).1:=by unfold Con.val;rw[Y]
   refine retN ids ⟨h2,?_,?_,?_,?_,k1x ab,by rw[J];exact ble_le o5,kgb U⟩;.rw[h3,ret_er ad,F,<-tkV_ren];exact k3
   .rw[J,F];exact tkV_ok (λj hj=>hj) c.res _ x o3
   .rw[F];exact kkk _ _ _
   .refine kkh (by rw[J];exact B) λi k ob hk X=>?_;have ag:=k1u ac k (qbm hk);rw[J];rw[qr,qac]at X;obtain⟨ot,X,rfl⟩:=X;rw[M]at X;refine⟨ag,?_,tkC_ok (k1k _ _) (λj hj=>hj) 0 c.post _ y o4 i ot X⟩;have hr:=tkC_ren (rh ids) (tkB c.post b) (k1k _ _) 0 c.post _ y;have hi:=(qq.1 X).1;have Z:i<(tkC (rh ids) (tkB c.post b) 0 c.post (hsB c.post) y).1.length:=by rw[tkC_len]at hi⊢;exact hi
    have e:=congrArg (λl=>l[i]?) hr;simp only[qr,X,qbn,qf Z,qaq]at e;have:=g3 i _ (qf Z);have ah:rh ids i=k:=by simp[rh,hk]
    rw[e,ah]at this;exact this
theorem kf4:∀k l,(initT T k l).map (λp=>(p.1,er T p.2))=initSl k (l.map (er T))
 |_,[]=>rfl|k,x::r=>by show(k,er T x)::(initT T (k+1) r).map (λp=>(p.1,er T p.2))=(k,er T x)::initSl (k+1) (r.map (er T));rw[kf4 (k+1) r]
theorem hpN_idf:∀k l,erH T (hpN idf k l)=hpOf k (l.map (erO T))
 |_,[]=>rfl|k,x::r=>by show(k,erO T x)::erH T (hpN idf (k+1) r)=(k,erO T x)::hpOf (k+1) (r.map (erO T));rw[hpN_idf (k+1) r]
theorem Con.sound(U:T.Ok)(X:C.Ok P T)(hm:P.follows .mixedOrders=true){c:Con T.den}{fn:Func}{B:Code}{Y:List ResultVar}(hf:P.funcs[c.f]?=some fn)(hb:fn.body=some B)(hN:fn.ntmps=N)(Z:fn.results.toList=Y)(hl:Nat.ble c.ins.length N=true){x:HL T.den (hsT c.ins (hsOs c.pre))}{o:HL T.den (hsV c.res (hsOs c.post))}{an:An T}(hW:WP T C N c.pre.length B an (c.st T x) (retTQ T C c Y o))(hO:Obl T C N c.pre.length B an (retTQ T C c Y o)):SoundH P c.f ((c.args idf x).map (er T)) ((c.obs idf x).map (erO T)) (er T (c.val idf o)) ((c.ops idf o).map (erO T)):=by
 have F:((c.obs idf x).map (erO T)).length=c.pre.length:=by rw[qp];unfold Con.obs;rw[tkC_len]
 have aa:((c.args idf x).map (er T)).length=c.ins.length:=by rw[qp];unfold Con.args;rw[tkT_len]
 refine kor hf hb hN (by simp_all) λG0 w0=>?_;have e:erS T (c.st T x)=⟨initSl 0 ((c.args idf x).map (er T)),hpOf 0 ((c.obs idf x).map (erO T)),((c.obs idf x).map (erO T)).length⟩:=by rw[F];show St.mk _ _ _=_;unfold Con.st;rw[kf4,hpN_idf]
 rw[<-e,Z];have J:=F;rw[<-J]at hW hO;refine kq3 (kvb U X hm B an _ _ hW hO) λex s1 hq=>?_;obtain⟨t,M,q2⟩:=hq;refine⟨erS T t,?_,q2.lk⟩;cases ex with
 |normal=>have:=k8a U X (s:=t) M;rw[<-F]at this;exact this|ret=>have:=k8a U X (s:=t) M;rw[<-F]at this;exact this|_=>exact M
end
end Go.Cv
namespace Go.Bv
open Go.RowKit
section
variable{G:Gh}{w:World}{h:Hp}{nx:Nat}
theorem PtrsR.ok:∀{ps:List (Option (Nat×Nat))}{vs:List Value},PtrsR G nx ps vs->okP nx ps
 |[],[],_=>trivial|[],_::_,h=>h.elim|_::_,[],h=>h.elim|none::r,_::_,h=>PtrsR.ok (ps:=r) h.2|some _::r,_::_,h=>⟨h.1.1,PtrsR.ok (ps:=r) h.2⟩
theorem RepV.ok1{v:Value}{x:V}(U:RepV G w h nx v x)(h1:∀l,x≠.agg l)(Y:∀l,x≠.tup l):Bv.ok1 nx x:=by cases U with
 |agg _ l=>grind|tup _ l=>grind|ptr id _ b B=>exact B|own _ tok _ _ _ F=>exact F|row id _ _ _ _ _ _ _ B=>exact B|rown _ id _ _ B=>exact B|mp id _ B=>exact B|clo g X cs vs us J M=>exact⟨J.ok,M.ok⟩|_=>trivial
theorem okL_of:∀{l:List V},(∀(j:Nat)x,l[j]?=some x->Bv.ok1 nx x)->okL nx l
 |[],_=>trivial|x::r,h=>⟨h 0 x rfl,okL_of λj y B=>h (j+1) y (by grind)⟩
theorem one_na{x:V}(h:x.one=true):(∀l,x≠.agg l)/\∀l,x≠.tup l:=by constructor<;>(intro l e;rw[e]at h;cases h)
theorem RepV.ok0{v:Value}{x:V}(F:RepV G w h nx v x)(X:∀l,x≠.tup l):Bv.ok0 nx x/\Bv.le0 x x:=by
 by_cases J:∃l,x=.agg l;.obtain⟨l,rfl⟩:=J;cases F with|agg vs _ U B F=>
   refine⟨okL_of λj x M=>?_,k69 l B⟩;have Y:j<vs.length:=by have:=(qq.1 M).1;omega
   have h1:=one_na (B x (qbm M));exact(F j _ x (qf Y) M).ok1 h1.1 h1.2
 .have h1:=F.ok1 (λl e=>J ⟨l,e⟩) X;cases x with
  |agg l=>exact(J ⟨l,rfl⟩).elim|tup l=>exact(X l rfl).elim|_=>exact⟨h1,by unfold Bv.le0;exact kc _⟩
theorem okT_of:∀{l:List V},(∀(j:Nat)x,l[j]?=some x->Bv.ok0 nx x/\Bv.le0 x x)->okT nx l/\leT l l
 |[],_=>⟨trivial,trivial⟩|x::r,h=>by obtain⟨B,F⟩:=okT_of (l:=r) λj y J=>h (j+1) y (by simpa using J);obtain⟨k1,k2⟩:=h 0 x rfl;exact⟨⟨k1,B⟩,⟨k2,F⟩⟩
theorem RepV.ok{v:Value}{x:V}(B:RepV G w h nx v x)(X:∀l,x=.tup l->∀y∈l,∀l',y≠.tup l'):Bv.ok nx x/\Bv.le x x:=by
 by_cases F:∃l,x=.tup l;.obtain⟨l,rfl⟩:=F;cases B with|tup vs _ M B=>
   exact okT_of λj y J=>by
    have U:j<vs.length:=by have:=(qq.1 J).1;omega
    exact(B j _ y (qf U) J).ok0 (X l rfl y (qbm J))
 .have h1:=B.ok0 λl e=>F ⟨l,e⟩;cases x with
  |tup l=>exact(F ⟨l,rfl⟩).elim|_=>exact h1
theorem k2l{m:Nat}(h:nx<=m):∀{l:List (Option (Nat×Nat))},okP nx l->okP m l
 |[],_=>trivial|none::r,B=>k2l h (l:=r) B|some _::r,B=>⟨qau B.1 h,k2l h (l:=r) B.2⟩
theorem kwx{m:Nat}(h:nx<=m){x:V}(B:Bv.ok1 nx x):Bv.ok1 m x:=by cases x<;>first|exact qau B h|exact B|exact⟨k2l h B.1,k2l h B.2⟩
theorem k8p{m:Nat}(h:nx<=m):∀{l:List V},okL nx l->okL m l
 |[],_=>trivial|_::_,B=>⟨kwx h B.1,k8p h B.2⟩
theorem kft{m:Nat}(h:nx<=m){x:V}(B:Bv.ok0 nx x):Bv.ok0 m x:=by cases x with
 |agg l=>exact k8p h (l:=l) B|ptr=>exact qau B h|own=>exact qau B h|row=>exact qau B h|mp=>exact qau B h|clo=>exact⟨k2l h B.1,k2l h B.2⟩|_=>exact B
theorem knh{m:Nat}(h:nx<=m):∀{l:List V},okT nx l->okT m l
 |[],_=>trivial|_::_,B=>⟨kft h B.1,knh h B.2⟩
theorem ok_mono{m:Nat}(h:nx<=m){x:V}(B:Bv.ok nx x):Bv.ok m x:=by cases x with
 |tup l=>exact knh h (l:=l) B|agg l=>exact k8p h (l:=l) B|ptr=>exact qau B h|own=>exact qau B h|row=>exact qau B h|mp=>exact qau B h|clo=>exact⟨k2l h B.1,k2l h B.2⟩|_=>exact B
theorem ke4{m:Nat}(h:nx<=m):∀{l:List (D×V)},okM nx l->okM m l
 |[],_=>trivial|_::_,B=>⟨kft h B.1,ke4 h B.2⟩
theorem kul{m:Nat}(h:nx<=m){o:Ob}(B:okO nx o):okO m o:=by cases o with
 |cells l=>exact k8p h (l:=l) B|map x=>cases x with
  |m l=>exact ke4 h (l:=l) B|it mid l F=>exact⟨qau B.1 h,ke4 h B.2.1,λe he=>kft h (B.2.2 e he)⟩
 |_=>trivial
theorem k72{σ:Nat->Nat}(B:∀i,i<nx->σ i=i):∀{l:List (Option (Nat×Nat))},okP nx l->renP σ l=l
 |[],_=>rfl|none::r,h=>congrArg (List.cons none) (k72 (l:=r) B h)|some (i,_)::_,h=>by unfold renP;rw[B i h.1,k72 B h.2]
theorem ren1_id{σ:Nat->Nat}(B:∀i,i<nx->σ i=i){x:V}(h:Bv.ok1 nx x):Bv.ren1 σ x=x:=by cases x<;>first|rfl|(simp only[Bv.ren1];rw[B _ h])|(simp only[Bv.ren1];rw[k72 B h.1,k72 B h.2])
theorem renL_id{σ:Nat->Nat}(B:∀i,i<nx->σ i=i):∀{l:List V},okL nx l->l.map (Bv.ren1 σ)=l
 |[],_=>rfl|x::r,h=>by rw[qaj,ren1_id B h.1,renL_id B h.2]
theorem ren0_id{σ:Nat->Nat}(B:∀i,i<nx->σ i=i){x:V}(h:Bv.ok0 nx x):Bv.ren0 σ x=x:=by cases x with
 |agg l=>exact congrArg V.agg (renL_id B h)|ptr i o=>exact ren1_id (x:=.ptr i o) B h|own a b c=>exact ren1_id (x:=.own a b c) B h|row a b c d=>exact ren1_id (x:=.row a b c d) B h|mp a=>exact ren1_id (x:=.mp a) B h|clo a b c=>exact ren1_id (x:=.clo a b c) B h|_=>rfl
theorem renT_id{σ:Nat->Nat}(B:∀i,i<nx->σ i=i):∀{l:List V},okT nx l->l.map (Bv.ren0 σ)=l
 |[],_=>rfl|x::r,h=>by rw[qaj,ren0_id B h.1,renT_id B h.2]
theorem ren_id{σ:Nat->Nat}(B:∀i,i<nx->σ i=i){x:V}(h:Bv.ok nx x):Bv.ren σ x=x:=by cases x with
 |tup l=>exact congrArg V.tup (renT_id B h)|agg l=>exact congrArg V.agg (renL_id B h)|ptr i o=>exact ren1_id (x:=.ptr i o) B h|own a b c=>exact ren1_id (x:=.own a b c) B h|row a b c d=>exact ren1_id (x:=.row a b c d) B h|mp a=>exact ren1_id (x:=.mp a) B h|clo a b c=>exact ren1_id (x:=.clo a b c) B h|_=>rfl
theorem renM_id{σ:Nat->Nat}(B:∀i,i<nx->σ i=i):∀{l:List (D×V)},okM nx l->(l.map λe=>(e.1,Bv.ren0 σ e.2))=l
 |[],_=>rfl|x::r,h=>by rw[qaj,ren0_id B h.1,renM_id B h.2]
theorem renO_id{σ:Nat->Nat}(F:∀i,i<nx->σ i=i){o:Ob}(h:okO nx o):renO σ o=o:=by cases o with
 |cells l=>exact congrArg Ob.cells (renL_id F h)|map x=>cases x with
  |m l=>exact congrArg (λz=>Ob.map (.m z)) (renM_id F h)|it mid l B=>obtain⟨h1,J,M⟩:=h;show Ob.map (.it (σ mid) _ (B.map _))=_;rw[F mid h1,renM_id F J];cases B with
   |none=>rfl|some e=>grind[ren0_id]
 |_=>rfl
end
end Go.Bv
namespace Go.Cv
open Go Go.Bv Go.RowKit Go.Md
section
variable{T:Tab}{P:Program}{C:Cx T}{N:Nat}
structure Gd(s:TSt T.den):Prop where
 sl:∀t,ok s.nx (er T (getT s.sl t))/\le (er T (getT s.sl t)) (er T (getT s.sl t))h:∀id ob,(erS T s).h.get id=some ob->id<s.nx/\okO s.nx ob/\obLe (some ob) ob
theorem er_tup{v:TV T.den}:∀l,er T v=.tup l->∀y∈l,∀l',y≠.tup l':=by intro l h y B;cases v with
 |tup F=>injection h with h;grind[k1y]|_=>cases h
theorem okM_D{nx:Nat}{k v:Ty}:∀(l:List (k.den T.den×v.den T.den)),okM nx (l.map λp=>(T.e k p.1,V.ofD (T.e v p.2)))
 |[]=>trivial|p::r=>⟨by show ok0 nx (V.ofD (T.e v p.2));generalize T.e v p.2=d;cases d with
   |agg l=>exact okL_of λj x B=>by rw[qr,qac]at B;obtain⟨_,_,rfl⟩:=B;trivial|_=>trivial,okM_D r⟩
theorem kkw:∀x,moLe x x
 |.m _=>rfl|.it _ _ none=>⟨rfl,rfl⟩|.it _ _ (some _)=>rfl
theorem gd_of{Tk:Tk}{G0:Gh}{w0:World}{s:TSt T.den}{a:Act}{G:Gh}{w:World}(U:R Tk G0 w0 N (erS T s) a G w):Gd s:=by
 refine⟨λt=>?_,λid Z J=>?_⟩;.have:=U.sl t;rw[show getS (erS T s).sl t=er T (getT s.sl t)from getS_er s.sl t]at this;exact this.ok er_tup
 .refine⟨U.wr.hid id Z J,?_⟩;have F:=J;have J:(erH T s.h).get id=some Z:=J;rw[getH_er,qac]at J;obtain⟨o,ho,rfl⟩:=J;have B:∀l,erO T o=.cells l->okO s.nx (.cells l)/\obLe (some (.cells l)) (.cells l):=by
   intro l hl;rw[hl]at F;rcases U.wr.obj id l F with⟨z1,z2⟩|⟨b,e,cs,k1,k2,k3,k4,k5,k6⟩;.subst z1;exact⟨trivial,trivial⟩
   .refine⟨okL_of λj x X=>?_,k69 l k5⟩;have hj:j<cs.length:=by have:=(qq.1 X).1;omega
    have h1:=one_na (k5 x (qbm X));exact(k6 j _ x (qf hj) X).ok1 h1.1 h1.2
  cases o with
  |cells l=>exact B _ rfl|vec e l=>exact B _ rfl|foc e l i off ab re n=>exact B _ rfl|tip e l=>exact⟨trivial,rfl⟩|dead=>exact⟨trivial,trivial⟩|map k v ks vs=>exact⟨okM_D _,by show moLe (MO.m _) (MO.m _);exact kkw _⟩|it mid k v ks vs M=>
   refine⟨⟨?_,okM_D _,λe he=>?_⟩,kkw _⟩;.obtain⟨b,bm,Y,aa,c0,h1,h2,h3,_⟩:=U.wr.mob id _ F;exact h3
   .cases M with
    |none=>cases he|some p=>exact k64 (okM_D [p]) 0 e (by simpa using he)
theorem kfm{B:List (Nat×TV T.den)}{t:Nat}:∀{sl:List (Nat×TV T.den)},hasK T sl t=false->getT (sl++B) t=getT B t
 |[],_=>rfl|p::r,h=>by simp only[hasK,qde]at h;show(bif Nat.beq t p.1 then p.2 else getT (r++B) t)=_;rw[h.1];exact kfm h.2
theorem knk{B:List (Nat×TV T.den)}{t:Nat}:∀{sl:List (Nat×TV T.den)},hasK T sl t=true->getT (sl++B) t=getT sl t
 |[],h=>by cases h|p::r,h=>by show(bif Nat.beq t p.1 then p.2 else getT (r++B) t)=bif Nat.beq t p.1 then p.2 else getT r t;cases e:Nat.beq t p.1 with
  |true=>rfl|false=>simp only[hasK,e]at h;exact knk h
theorem kjq{t:Nat}:∀{sl:List (Nat×TV T.den)},hasK T sl t=false->getT sl t=.any
 |[],_=>rfl|p::r,h=>by simp only[hasK,qde]at h;show(bif Nat.beq t p.1 then p.2 else getT r t)=_;rw[h.1];exact kjq h.2
theorem memB_in:∀{x:Nat}{l:Ln},memB x l=true->x∈l
 |_,[],h=>by cases h|x,y::r,h=>by
  simp only[memB,qcr]at h;rcases h with h|h;.rw[nb_eq h];simp
  .exact qem _ (memB_in h)
theorem kon{ts:Ln}{sl:List (Nat×TV T.den)}:∀{l:List (Nat×TV T.den)}{t:Nat},chS T ts sl l=true->hasK T l t=true->t∈ts∨hasK T sl t=false
 |[],t,_,h=>by cases h|p::r,t,h,B=>by
  simp only[chS,qh,qcr,qbl]at h;simp only[hasK,qcr]at B;rcases B with B|B
  .rw[nb_eq B];rcases h.1 with h1|h1;.exact .inl (memB_in h1)
   .exact .inr h1
  .exact kon h.2 B
theorem kog{d:Dl}{nx:Nat}:∀{l:THp T.den}{i:Nat}{o:Ob},chH T d nx l=true->(erH T l).get i=some o->i∈d.old∨i∈d.dd∨nx<=i
 |[],i,o,_,h=>by cases h|p::r,i,o,h,B=>by
  simp only[chH,qh,qcr]at h;have B:Hp.get ((p.1,erO T p.2)::erH T r) i=some o:=B;simp only[Hp.get]at B;split at B
  .rename_i e;rw[e];rcases h.1 with(h1|h1)|h1;.exact .inl (memB_in h1)
   .grind[memB_in]
   simp_all
  .exact kog h.2 B
theorem pre_app{α:Type}{a b:List α}:pre (a++b) b=a:=by unfold pre;simp_all
theorem kl1{nx:Nat}{F:Ln}:∀{a b:Ln},fixD nx F a b=true->a.length=b.length/\∀(p i j:Nat),a[p]?=some i->b[p]?=some j->(i<nx->i=j)/\(nx<=i->nx<=j∨j∈F)
 |[],[],_=>by grind|[],_::_,h=>by cases h|_::_,[],h=>by cases h|x::a,y::b,h=>by simp only[fixD,qh]at h;obtain⟨J,U⟩:=kl1 h.2;refine⟨by simp[J],λp i j hi B=>?_⟩;cases p with
  |zero=>
   simp at hi B;have h1:=h.1;by_cases e:x<nx;.simp_all
   .rw[show Nat.blt x nx=false by cases M:Nat.blt x nx with|false=>rfl|true=>exact absurd (blt_lt M) e]at h1;grind[ble_le,memB_in]|succ p=>grind
theorem rho_no:∀{a b:Ln}{i:Nat},i∉a->rho a b i=i
 |[],_,_,_=>rfl|_::_,[],_,_=>rfl|x::a,y::b,i,h=>by simp only[rho];rw[qe λe=>h (by simp[e]),rho_no λe=>h (by simp[e])]
theorem sgs_get{l:Ln}{p:Nat}(h:p<l.length):l[p]?=some (sgs l p):=by simp[sgs,h]
theorem ups_mem:∀{k n i:Nat},i∈ups k n↔k<=i/\i<k+n
 |k,0,i=>by simp[ups]|k,n+1,i=>by simp only[ups,qak,ups_mem];omega
theorem zip_has{t:Nat}:∀{ts:Ln}{vs:List (TV T.den)},ts.length=vs.length->t∈ts->hasK T (zipS T ts vs) t=true
 |[],_,_,h=>by cases h|u::ts,[],h,_=>by cases h|u::ts,v::vs,h,B=>by
  simp only[zipS,hasK,qcr];rcases qak.1 B with rfl|B;.exact .inl (nb_self _)
  .exact .inr (zip_has qqh B)
theorem zip_no{t:Nat}:∀{ts:Ln}{vs:List (TV T.den)},t∉ts->hasK T (zipS T ts vs) t=false
 |[],[],_=>rfl|[],_::_,_=>rfl|_::_,[],_=>rfl|u::ts,v::vs,B=>by simp only[zipS,hasK,qde];exact⟨nb_ne λe=>B (by simp[e]),zip_no λe=>B (by simp[e])⟩
theorem kk4:∀{a l:Ln},disB a l=true->∀x∈a,x∉l
 |[],_,_,x,h=>by cases h|y::a,l,h,x,B=>by
  simp only[disB,qh,qbl]at h;rcases qak.1 B with rfl|B;.exact kbw h.1
  .exact kk4 h.2 x B
theorem hpN_hit{σ:Nat->Nat}:∀{os:List (TOb T.den)}{k p:Nat},p<os.length->Hp.get (erH T (hpN σ k os)) (σ (k+p))≠none
 |[],_,_,h=>by cases h|o::os,k,p,h=>by
  show Hp.get ((σ k,erO T o)::erH T (hpN σ (k+1) os)) _≠none;simp only[Hp.get];split;.simp
  .rename_i B;cases p with
   |zero=>exact(B rfl).elim|succ p=>have:=hpN_hit (σ:=σ) (os:=os) (k:=k+1) (p:=p) qqh;rw[show k+1+p=k+(p+1)by omega]at this;exact this
theorem kqa{h:THp T.den}:∀{F:Ln}{i:Nat}{o:Ob},(erH T ((F.map λi=>(i,TOb.dead))++h)).get i=some o->i∈F/\o=.dead∨i∉F/\(erH T h).get i=some o
 |[],i,o,B=>.inr ⟨by simp,B⟩|x::F,i,o,B=>by
  have B:Hp.get ((x,Ob.dead)::erH T ((F.map λi=>(i,TOb.dead))++h)) i=some o:=B;simp only[Hp.get]at B;split at B;.rename_i e;injection B with B;exact .inl ⟨by simp[e],B.symm⟩
  .rename_i e;rcases kqa B with⟨h1,J⟩|⟨h1,J⟩;.exact .inl ⟨by simp[h1],J⟩
   .exact .inr ⟨by simp[e,h1],J⟩
theorem kfo(hT:T.Ok){Tk:Tk}{d:Dl}{s0 s:TSt T.den}{J:HL T.den d.hs->Prop}(hx:Xt s0 s)(hg:Gd s0)(hn:Tk.nx<=s0.nx)(h:d.mat T s0 s J):∃i,J i/\Lk Tk (erS T s) (erS T (d.fill T s0 i)):=by
 unfold Dl.mat at h;obtain⟨h1,h2⟩:=cnd h;simp only[qh,Dl.okB]at h1;obtain⟨⟨⟨⟨⟨⟨⟨⟨⟨⟨⟨b1,b2⟩,b3⟩,b4⟩,b6⟩,b7⟩,a1⟩,a2⟩,a3⟩,a4⟩,a5⟩,a6⟩:=h1;replace h2:=fcL_eq h2;generalize d.at T s0.nx s=ids at h2;obtain⟨h3,h4⟩:=cnd h2;simp only[qh]at h3;obtain⟨⟨c2,c3⟩,c4⟩:=h3;have c1:=k1x a1;have c2:=k1x c2;have c3:=k1u c3;obtain⟨c5,c6⟩:=kl1 c4;have a2:=k1u a2;have a3:=k1u a3;have a4:=kk4 a4;obtain⟨⟨ay,ag⟩,⟨ph,al⟩,bh⟩:=hx;rw[ag,pre_app]at a5;rw[al,pre_app]at a6;have bg:(d.ids s0.nx).length=d.os.length:=by
  have ul:∀k n,(ups k n).length=n:=λk n=>by induction n generalizing k with|zero=>rfl|succ n ih=>simp[ups,ih]
  have:=ble_le b3;simp only[Dl.ids,Dl.n,qi,ul];omega
 have ac:∀i,i∈d.ids s0.nx↔i∈d.old∨s0.nx<=i/\i<s0.nx+d.n:=λi=>by simp only[Dl.ids,qae,ups_mem]
 have ai:∀j,j<d.os.length->sgs (d.ids s0.nx) j<s0.nx+d.n:=λj hj=>by
  have:=qbm (sgs_get (l:=d.ids s0.nx) (p:=j) qqo);rcases(ac _).1 this with h|h;.have:=a2 _ h;omega
  .exact h.2
 generalize hI:d.ids s0.nx=I at*;split at h4
 .rename_i b hb;obtain⟨y,g1,g2,g3⟩:=k8j hT b7 hb h4;obtain⟨x,k1,k2,_,k4⟩:=mtT_snd d.ss _ _ y _ b6 g1;have hf:d.f T x=tkB d.os b:=by unfold Dl.f;rw[k2,g2]
  have B:∀j,j<d.os.length->rho I ids (sgs I j)=sgs ids j:=λj hj=>rho_at c1 qqo qqo;have ah:∀j,j<d.os.length->idf j<d.os.length:=λj h=>h;have U:∀i,i<s0.nx->rho I ids i=i:=λi hi=>by
   by_cases hm:i∈I
   .obtain⟨p,hp⟩:=qcl hm;have ad:=(qq.1 hp).1;have e1:sgs I p=i:=by have:=sgs_get ad;rw[hp]at this;injection this with this;exact this.symm
    have:=B p qqo;rw[e1]at this;rw[this];exact((c6 p i _ hp (sgs_get qqo)).1 hi).symm
   .exact rho_no hm
  refine⟨x,k1,λG0 w0 N a G w hR=>?_⟩;have ae:erS T (d.fill T s0 x)=⟨(zipS T d.ts (tkT (sgs I) (tkB d.os b) d.ss _ x).1++s0.sl).map λp=>(p.1,er T p.2),erH T (hpN (sgs I) 0 (tkC (sgs I) (tkB d.os b) 0 d.os _ y).1++(d.dd.map λi=>(i,TOb.dead))++s0.h),s0.nx+d.n⟩:=by unfold Dl.fill;rw[hI,hf,k2];rfl
  have aa:∀id ob,(erS T (d.fill T s0 x)).h.get id=some ob->(∃p o,(tkC (sgs I) (tkB d.os b) 0 d.os (hsB d.os) y).1[p]?=some o/\p<d.os.length/\id=sgs I p/\ob=erO T o)∨id∈d.dd/\id∉I/\ob=.dead∨id∉I/\id∉d.dd/\(erS T s0).h.get id=some ob:=by
   intro id ob F;rw[ae]at F;have F:=F;rw[qn,erH_app,k2t]at F;split at F;.rename_i o1 az;injection F with F;subst F;obtain⟨p,o,X,M,q3⟩:=hpN_get _ _ _ _ az;rw[qav]at M;exact .inl ⟨p,o,X,by have:=(qq.1 X).1;rw[tkC_len]at this;exact this,M,q3⟩
   .rename_i aj;have am:id∉I:=by
     intro hm;obtain⟨p,hp⟩:=qcl hm;have ad:=(qq.1 hp).1;have:=hpN_hit (T:=T) (σ:=sgs I) (os:=(tkC (sgs I) (tkB d.os b) 0 d.os (hsB d.os) y).1) (k:=0) (p:=p) (by rw[tkC_len];omega);have e1:sgs I p=id:=by have:=sgs_get ad;rw[hp]at this;injection this with this;exact this.symm
     rw[qav,e1]at this;exact this aj
    rcases kqa F with⟨X,M⟩|⟨X,M⟩;.exact .inr (.inl ⟨X,am,M⟩)
    .exact .inr (.inr ⟨am,X,M⟩)
  have ak:∀id,id<s0.nx->id∉I->id∉d.dd->(erS T s).h.get id=(erS T s0).h.get id:=by
   intro id h1 h2 h3;show(erH T s.h).get id=(erH T s0.h).get id;rw[al,erH_app,k2t];split
   .rename_i o ho;rcases kog a6 ho with q|q|q;.exact(h2 ((ac id).2 (.inl q))).elim
    .exact(h3 q).elim
    .omega
   .rfl
  have ao:∀p,p<d.os.length->s0.nx<=sgs I p->∀j,j<s0.nx->j∉d.dd->sgs ids p≠j:=by
   intro p hp h1 j hj ba e;rcases(c6 p _ _ (sgs_get qqo) (sgs_get qqo)).2 h1 with q|q;.omega
   .rw[e]at q;exact ba q
  have ab:∀p j,p<d.os.length->j∉I->j∉d.dd->j<s0.nx->sgs ids p≠j:=by
   intro p j hp bb bc bd e;by_cases hs:sgs I p<s0.nx;.have:=(c6 p _ _ (sgs_get qqo) (sgs_get qqo)).1 hs;rw[e]at this;exact bb (this▸qbm (sgs_get qqo))
   .exact ao p hp qqo j bd bc e
  have Y:(erS T (d.fill T s0 x)).nx=s0.nx+d.n:=rfl;have aq:(erS T s).nx=s.nx:=rfl;refine hR.leRen (σ:=rho I ids) (by rw[Y];omega) (λi hi=>U i qqo) (λi hi=>?_) (λi j li lj Z=>?_) (λid ob F=>?_) ?_
  .rw[Y]at hi;rw[aq];by_cases hs:i<s0.nx;.rw[U i hs];omega
   .have hm:=(ac i).2 (.inr ⟨by omega,hi⟩);obtain⟨p,hp⟩:=qcl hm;have ad:=(qq.1 hp).1;have e1:sgs I p=i:=by have:=sgs_get ad;rw[hp]at this;injection this with this;exact this.symm
    rw[<-e1,B p qqo];exact c3 _ (qbm (sgs_get qqo))
  .obtain⟨oi,bf,ni⟩:=live_of li;obtain⟨oj,au,nj⟩:=live_of lj;rcases aa i oi bf with⟨p,_,_,X,M,_⟩|⟨_,_,q3⟩|⟨X,M,q3⟩
   .rcases aa j oj au with⟨q,_,_,r1,r2,_⟩|⟨_,_,r3⟩|⟨r1,r2,r3⟩;.rw[M,r2,B p X,B q r1]at Z;have:=ker c2 (sgs_get (show p<ids.length by omega)) (by rw[Z];exact sgs_get (show q<ids.length by omega));rw[M,r2,this]
    .exact(nj r3).elim
    .have hj:=(hg.h j oj r3).1;rw[M,B p X,U j hj]at Z;exact(ab p j X r1 r2 hj Z).elim
   .exact(ni q3).elim
   .have hi:=(hg.h i oi q3).1;rcases aa j oj au with⟨q,_,_,r1,r2,_⟩|⟨_,_,r3⟩|⟨r1,r2,r3⟩;.rw[r2,B q r1,U i hi]at Z;exact(ab q i r1 X M hi Z.symm).elim
    .exact(nj r3).elim
    .have hj:=(hg.h j oj r3).1;rw[U i hi,U j hj]at Z;exact Z
  .rcases aa id ob F with⟨p,o,X,M,rfl,rfl⟩|⟨X,M,rfl⟩|⟨X,M,q3⟩
   .refine⟨ai p M,?_,tkC_ok (k1k _ _) ai 0 d.os _ y b2 p o X⟩;have aw:p<(tkC (sgs ids) (tkB d.os b) 0 d.os (hsB d.os) y).1.length:=by rw[tkC_len];exact M
    have ax:p<(tkC idf (tkB d.os b) 0 d.os (hsB d.os) y).1.length:=by rw[tkC_len];exact M
    have w1:=congrArg (λl=>l[p]?) (tkC_ren (sgs I) (tkB d.os b) (k1k d.os b) 0 d.os (hsB d.os) y);have w2:=congrArg (λl=>l[p]?) (tkC_ren (sgs ids) (tkB d.os b) (k1k d.os b) 0 d.os (hsB d.os) y);simp only[qr,X,qbn,qf ax,qf aw,qaq]at w1 w2;have w3:=tkC_ok (k1k d.os b) ah 0 d.os (hsB d.os) y b2 p _ (qf ax);rw[B p M,w1,knz B w3,<-w2];exact g3 p _ (qf aw)
   .refine⟨by rw[Y];have:=a3 _ X;omega,?_,trivial⟩;show obLe _ Ob.dead;cases(erS T s).h.get (rho I ids id)with
    |none=>trivial|some o=>cases o<;>trivial
   .obtain⟨r1,r2,r3⟩:=hg.h id ob q3;have mono:∀{m:Nat},s0.nx<=m->okO s0.nx ob->okO m ob:=λhm ho=>kul hm ho;refine⟨by rw[Y];omega,?_,mono (by rw[Y];omega) r2⟩;rw[U id r1,renO_id U r2,ak id r1 X M,q3];exact r3
  .intro t;have key:leAll ((d.ts.map (getT s.sl)).map (er T)) (((tkT (sgs I) (tkB d.os b) d.ss (hsOs d.os) x).1.map (er T)).map (ren (rho I ids))):=by
    have e1:((tkT (sgs I) (tkB d.os b) d.ss (hsOs d.os) x).1.map (er T)).map (ren (rho I ids))=(tkT (sgs ids) (tkB d.os b) d.ss (hsOs d.os) x).1.map (er T):=by
     rw[tkT_er,tkT_er];have:((tkT (sgs I) (tkB d.os b) d.ss (hsOs d.os) x).1.map (er0 T)).map (ren (rho I ids))=((tkT (sgs I) (tkB d.os b) d.ss (hsOs d.os) x).1.map (er0 T)).map (ren0 (rho I ids)):=by rw[qbr,qbr];exact qar λv _=>ren_0 _ k1y
     rw[this,k34 (sgs I),k34 (sgs ids)];exact kfx B (tkT_ok ah d.ss _ x b1)
    rw[e1];exact k4
   rw[ae];show getS ((zipS T d.ts (tkT (sgs I) (tkB d.os b) d.ss _ x).1++s0.sl).map λp=>(p.1,er T p.2)) t=.any∨_;rw[getS_er];by_cases ht:t∈d.ts;.rw[knk (zip_has (by rw[tkT_len];exact nb_eq b4) ht)];have:=slotsR (sl:=s.sl) (nx:=s0.nx+d.n) d.ts _ key (args_ok ai d.ss _ x b1) t;rw[getS_er]at this;exact this
   .rw[kfm (zip_no ht)];by_cases hk:hasK T s0.sl t=true
    .right;have e:getT s.sl t=getT s0.sl t:=by rw[ag];refine kfm ?_;cases hp:hasK T ay t with
      |false=>rfl|true=>
       rcases kon a5 hp with q|q;.exact(ht q).elim
       .rw[q]at hk;cases hk
     obtain⟨r1,r2⟩:=hg.sl t;refine⟨?_,ok_mono (qdw _ _) r1⟩;rw[ren_id U r1,show getS (erS T s).sl t=er T (getT s.sl t)from getS_er s.sl t,e];exact r2
    .left;rw[kjq (by simpa using hk)];rfl
 .exact h4.elim
theorem Xt.h1{s:TSt T.den}(b:THp T.den)(n:Nat):Xt s ⟨s.sl,b++s.h,s.nx+n⟩:=⟨⟨[],rfl⟩,⟨b,rfl⟩,qdw _ _⟩
theorem kpz{id n z:Nat}{v:TV T.den}:∀ts sl{K B:List (Nat×TV T.den)->Prop},(∀a,K (a++sl)->B (a++sl))->rowsTo T id v n z ts sl K->rowsTo T id v n z ts sl B
 |[],sl,K,B,F,h=>F [] h|t::ts,sl,K,B,F,h=>by
  simp only[rowsTo]at h⊢;split at h;.obtain⟨h1,J,M⟩:=cnd h;rw[h1,qdr];exact⟨J,kpz ts _ λa U=>by have:=F (a++[(t,v)]);grind M⟩
  grind
theorem trimV_X{h:THp T.den}{v:TV T.den}{K F:Nat->(e:Ty)->List (e.den T.den)->Prop}(J:∀id e l,K id e l->F id e l)(B:trimV T h v K):trimV T h v F:=by
 unfold trimV at B⊢;split at B<;>try exact B.elim
 all_goals grind
theorem frzC_X{s:TSt T.den}{K B:TSt T.den->Prop}(M:∀s',Xt s s'->K s'->B s'){id i j:Nat}(h:frzC T s K id i j):frzC T s B id i j:=by
 unfold frzC at h⊢;split at h
 .split at h;.obtain⟨h1,F,J⟩:=cnd h;rw[h1,qdr];exact⟨F,M _ ⟨⟨[],rfl⟩,⟨[_,_,_],rfl⟩,qdk _⟩ J⟩
  grind
 grind
theorem gh1_X{s:TSt T.den}{K M:TSt T.den->Prop}(B:∀s',Xt s s'->K s'->M s'):∀g,gh1 T s K g->gh1 T s M g
 |.frz id ts,h=>by
  simp only[gh1]at h⊢;split at h;.exact kpz ts _ (λa=>B _ ⟨⟨a,rfl⟩,⟨[_,_],rfl⟩,qdk _⟩) h
  grind|.frzc id i j,h=>frzC_X B h|.frzi i j,h=>by
  simp only[gh1]at h⊢;split at h
  .split at h;.exact frzC_X B h
   .exact B _ ⟨⟨[],rfl⟩,⟨[],rfl⟩,qaf _⟩ h
  grind|.tok t e,h=>by
  simp only[gh1]at h⊢;split at h;.exact B _ ⟨⟨[_],rfl⟩,⟨[_],rfl⟩,qdk _⟩ h
  grind|.tokc id j e,h=>by
  simp only[gh1]at h⊢;split at h
  .split at h
   .split at h;.exact B _ ⟨⟨[],rfl⟩,⟨[_,_],rfl⟩,qdk _⟩ h
    grind
   grind
  grind|.trim t,h=>by exact trimV_X (λ_ _ _=>B _ ⟨⟨[_],rfl⟩,⟨[_,_],rfl⟩,qdk _⟩) h|.trimc id j,h=>by
  simp only[gh1]at h⊢;split at h
  .split at h;.refine trimV_X (λF e l U=>?_) h;revert U;cases Nat.beq F id with
    |true=>grind|false=>exact B _ ⟨⟨[],rfl⟩,⟨[_,_,_],rfl⟩,qdk _⟩
   grind
  grind|.rnil t e,h=>by simp only[gh1]at h⊢;obtain⟨h1,J⟩:=cnd h;rw[h1,qdr];exact B _ ⟨⟨[_],rfl⟩,⟨[_],rfl⟩,qdk _⟩ J|.rnilc id j e,h=>by
  simp only[gh1]at h⊢;split at h
  .split at h;.obtain⟨h1,J⟩:=cnd h;rw[h1,qdr];exact B _ ⟨⟨[],rfl⟩,⟨[_,_],rfl⟩,qdk _⟩ J
   grind
  grind|.frzf id i,h=>by
  simp only[gh1]at h⊢;split at h
  .obtain⟨h1,h⟩:=cnd h;rw[h1,qdr];split at h;.exact⟨h.1,B _ ⟨⟨[],rfl⟩,⟨[_,_,_],rfl⟩,qdk _⟩ h.2⟩
   grind
  grind
theorem ghs_X:∀gs{s:TSt T.den}{K F:TSt T.den->Prop},(∀s',Xt s s'->K s'->F s')->ghs T gs s K->ghs T gs s F
 |[],s,_,_,B,h=>B s (Xt.refl s) h|g::gs,s,_,_,B,h=>gh1_X (λU h1 J=>ghs_X gs (λs' M=>B s' (h1.trans M)) J) g h
theorem fill_X{d:Dl}{s:TSt T.den}{i:HL T.den d.hs}:Xt s (d.fill T s i):=⟨⟨_,rfl⟩,⟨_,rfl⟩,qdw _ _⟩
theorem sat_ghX(B:T.Ok){Tk:Tk}{G0:Gh}{w0:World}{gs:List Gs}{s:TSt T.den}{K:TSt T.den->Prop}{c:Code}{Q:Exit->St->Prop}(h:ghs T gs s K)(F:∀s',K s'->Xt s s'->Sat P Tk G0 w0 N c (erS T s') Q):Sat P Tk G0 w0 N c (erS T s) Q:=sat_ghs B (K:=λs'=>K s'/\Xt s s') (ghs_X gs (by grind) h) λs' hs=>F s' hs.1 hs.2
def QX(s:TSt T.den)(Q:Exit->TSt T.den->Prop)(e:Exit)(t:St):Prop:=KE (λt=>Q e t/\Xt s t) t
theorem QX.of{s s':TSt T.den}{Q:Exit->TSt T.den->Prop}{e:Exit}{t:St}(F:Xt s s')(h:QX s' Q e t):QX s Q e t:=let⟨u,h1,B⟩:=h;⟨u,⟨h1.1,F.trans h1.2⟩,B⟩
theorem QX.mk{s t:TSt T.den}{Q:Exit->TSt T.den->Prop}{e:Exit}(B:Xt s t)(h:Q e t):QX s Q e (erS T t):=⟨t,⟨h,B⟩,Wk.refl _⟩
theorem kwh(Z:T.Ok)(hC:C.Ok P T)(hm:P.follows .mixedOrders=true){Tk:Tk}{G0:Gh}{w0:World}:∀c an s Q,Tk.nx<=s.nx->WQ T C N c an s Q->Sat P Tk G0 w0 N c (erS T s) (QX s Q):=by intro c;induction c with
 |skip=>intro an s Q _ h;exact kpt (QX.mk (Xt.refl s) (by simpa[WQ]using h))|region id ops dr=>
  intro an s Q _ h;obtain⟨l⟩:=ops;have h:regW T C N ⟨l⟩ dr s (Q .normal):=by simpa[WQ]using h
  cases dr with
  |false=>intro G a w hR;exact wp_region_lit (k7a Z hC l (Q .normal) s s a G w (Xt.refl s) hR h λs' a' G' w' hk F ag=>⟨erS T s',G',QX.mk F hk,ag⟩)|true=>unfold regW at h;obtain⟨h1,h2⟩:=cnd h;rw[qh]at h1;refine kke C.S hm (noIt_er h1.2) h1.1 λK hK=>?_;have F:Xt s ⟨s.sl,s.h,s.nx+l.length*C.S⟩:=⟨⟨[],rfl⟩,⟨[],rfl⟩,qdw _ _⟩;exact k5x (K:=KE λt=>Q .normal t/\Xt s t) (λa b he⟨t,U,X⟩=>hK a ⟨t,U,he.wk.trans X⟩) (closeOps l) _ _ _ _ _ (Eqv.refl _) (k59 Z hC (s0:=s) (closeOps l) _ _ _ _ F h2)
 |seq x y ab ad=>
  intro an s Q hn h;have M:∀ga gb a b,(ghs T ga s λs=>WQ T C N x a s (thenT T (λs'=>ghs T gb s' λs'=>WQ T C N y b s' Q) Q))->Sat P Tk G0 w0 N (.seq x y) (erS T s) (QX s Q):=by intro ga gb a b h1;refine sat_ghX Z h1 λs' B F=>sat_seq (k18 (ab a s' _ (qbd hn F.2.2) B) λe s1 hq=>?_);obtain⟨t,⟨U,X⟩,q3⟩:=hq;cases e with
   |normal=>exact sat_lk q3.lk (sat_ghX Z U λs2 ae aa=>k18 (ad b s2 Q (qbd hn ((F.trans X).trans aa).2.2) ae) λ_ _=>QX.of ((F.trans X).trans aa))|_=>exact⟨t,⟨U,F.trans X⟩,q3⟩
  cases an with
  |jn d ga a gb b=>
   refine sat_ghX Z h λs' B F=>?_;have Y:=qbd hn F.2.2;intro G ac w hR;have hg:=gd_of hR;have h1:=B (cuA d.hs λi=>Sat P Tk G0 w0 N y (erS T (d.fill T s' i)) (QX s Q)) (alH_iff.2 λi hi=>by rw[ap_cu];exact sat_ghX Z hi λs2 ae aa=>k18 (ad b s2 Q (qbd Y (fill_X.trans aa).2.2) ae) λ_ _=>QX.of (F.trans (fill_X.trans aa)));refine sat_seq (k18 (ab a s' _ Y h1) λe s1 hq=>?_) G ac w hR;obtain⟨t,⟨U,X⟩,q3⟩:=hq;cases e with
   |normal=>obtain⟨i,k1,k2⟩:=kfo Z X hg Y U;rw[ap_cu]at k1;exact sat_lk (q3.lk.trans k2) k1|_=>exact⟨t,⟨U,F.trans X⟩,q3⟩
  |no=>simp only[WQ]at h;exact M _ _ _ _ h|r n b=>simp only[WQ]at h;exact M _ _ _ _ h|nd ga a gb b=>simp only[WQ]at h;exact M _ _ _ _ h|lp g d a=>simp only[WQ]at h;exact M _ _ _ _ h|rt g=>simp only[WQ]at h;exact M _ _ _ _ h
 |cond c x y ab ad=>
  intro an s Q hn h;simp only[WQ]at h;split at h;.rename_i hv;exact kkd (by rw[ev_er,hv];rfl) (sat_ghX Z h λs' B F=>k18 (ab _ s' Q (qbd hn F.2.2) B) λ_ _=>QX.of F)
  .rename_i hv;exact kkz (by rw[ev_er,hv];rfl) (sat_ghX Z h λs' B F=>k18 (ad _ s' Q (qbd hn F.2.2) B) λ_ _=>QX.of F)
  .rename_i t hv;exact k8w (t:=t) (by rw[ev_er,hv];rfl) (λht=>sat_ghX Z (h.1 ht) λs' B F=>k18 (ab _ s' Q (qbd hn F.2.2) B) λ_ _=>QX.of F) λht=>sat_ghX Z (h.2 ht) λs' B F=>k18 (ad _ s' Q (qbd hn F.2.2) B) λ_ _=>QX.of F
  .exact h.elim|block id x ih=>intro an s Q hn h;simp only[WQ]at h;refine kkn (k18 (ih an s _ hn h) λe s1 hq=>?_);obtain⟨t,⟨U,X⟩,q3⟩:=hq;cases e with
  |exit ai=>
   simp only[blockT]at U;simp only[blockA];by_cases hi:ai=id;.rw[qg hi];rw[hi,nb_self]at U;exact⟨t,⟨U,X⟩,q3⟩
   .rw[qe hi];rw[nb_ne hi]at U;exact⟨t,⟨U,X⟩,q3⟩|_=>exact⟨t,⟨U,X⟩,q3⟩
 |loop x ih=>intro an s Q hn h;cases an with
  |lp g d a=>simp only[WQ]at h;refine sat_ghX Z h λs' B F=>?_;have Y:=qbd hn F.2.2;intro G ac w hR;have hg:=gd_of hR;obtain⟨i,⟨ah,μ,k0,k1⟩,k2⟩:=kfo Z (Xt.refl s') hg Y B;refine kkq (λi=>erS T (d.fill T s' i)) (apA d.hs ah) (apA d.hs μ) i k0 k2 (λi hi=>?_) G ac w hR;refine k18 (ih _ _ _ (qbd Y fill_X.2.2) (alH_iff.1 k1 i hi)) λe s1 hq=>?_;obtain⟨t,⟨U,X⟩,q3⟩:=hq;cases e with
   |normal=>obtain⟨i',⟨m1,m2⟩,m3⟩:=kfo Z (fill_X.trans X) hg Y U;exact⟨i',m1,m2,q3.lk.trans m3⟩|_=>exact⟨t,⟨U,F.trans (fill_X.trans X)⟩,q3⟩
  |_=>simp only[WQ]at h
 |exit id=>intro an s Q _ h;simp only[WQ]at h;exact kpv (QX.mk (Xt.refl s) h)|ret=>intro an s Q _ h;simp only[WQ]at h;exact sat_ghX Z h λs' B F=>sat_ret (QX.mk F B)|label l=>intro an s Q _ h;simp only[WQ]at h;exact kkr (QX.mk (Xt.refl s) h)|_=>intro an s Q _ h;simp only[WQ]at h
theorem Con.soundQ(M:T.Ok)(U:C.Ok P T)(hm:P.follows .mixedOrders=true){c:Con T.den}{fn:Func}{B:Code}(hf:P.funcs[c.f]?=some fn)(hb:fn.body=some B)(hl:Nat.ble c.ins.length fn.ntmps=true){x:HL T.den (hsT c.ins (hsOs c.pre))}{o:HL T.den (hsV c.res (hsOs c.post))}{an:Nt}(hW:WQ T C fn.ntmps B an (c.st T x) (retTQ T C c fn.results.toList o)):SoundH P c.f ((c.args idf x).map (er T)) ((c.obs idf x).map (erO T)) (er T (c.val idf o)) ((c.ops idf o).map (erO T)):=by
 have F:((c.obs idf x).map (erO T)).length=c.pre.length:=by rw[qp];unfold Con.obs;rw[tkC_len]
 have X:((c.args idf x).map (er T)).length=c.ins.length:=by rw[qp];unfold Con.args;rw[tkT_len]
 refine kor hf hb rfl (by simp_all) λG0 w0=>?_;have e:erS T (c.st T x)=⟨initSl 0 ((c.args idf x).map (er T)),hpOf 0 ((c.obs idf x).map (erO T)),((c.obs idf x).map (erO T)).length⟩:=by rw[F];show St.mk _ _ _=_;unfold Con.st;rw[kf4,hpN_idf]
 rw[<-e];refine kq3 (kwh M U hm B an _ _ (qfj F) hW) λY s1 Z=>?_;obtain⟨t,⟨J,_⟩,q2⟩:=Z;refine⟨erS T t,?_,q2.lk⟩;cases Y with
 |normal=>have:=k8a M U (s:=t) J;rw[<-F]at this;exact this|ret=>have:=k8a M U (s:=t) J;rw[<-F]at this;exact this|_=>exact J
end
theorem mpr_of{A B:Prop}(e:A=B)(h:B):A:=e.mpr h
def flAll(F:Nat->Option (Nat×Bool×Nat)):Nat->List (Nat×Bool×Nat)->Prop
 |_,[]=>True|k,q::r=>F k=some q/\flAll F (k+1) r
theorem kju{F:Nat->Option (Nat×Bool×Nat)}:∀{l:List (Nat×Bool×Nat)}{k:Nat},flAll F k l->∀i q,l[i]?=some q->F (k+i)=some q
 |[],_,_,i,q,h=>by simp at h|p::r,k,B,i,q,h=>by cases i with
  |zero=>simp at h;subst h;exact B.1|succ i=>rw[show k+(i+1)=k+1+i by omega];exact kju B.2 i q qqh
theorem kh{P:Program}{t:TypeId}{l:List (Nat×Bool×Nat)}(h:flAll (fldOf P t) 0 l)(f:Nat)(q:Nat×Bool×Nat)(B:l[f]?=some q):fldOf P t f=some q:=by grind[kju]
section
variable{T:Tab}{P:Program}
theorem all_cons{α:Type}{p:α->Prop}{a:α}{l:List α}(h:p a)(h':∀c∈l,p c):∀c∈a::l,p c:=by grind
theorem kf{P:Program}{T:Tab}:InfoOk P T .lf:=λ_ _ h=>by cases h
theorem find_nd{P:Program}{T:Tab}{l r:BT (TI T.den)}{k:Nat}{v:TI T.den}(M:TI.Ok P T k v)(F:InfoOk P T l)(J:InfoOk P T r):InfoOk P T (.nd l k v r):=λt x h=>by unfold BT.find at h;cases h1:Nat.beq t k with
 |true=>simp_all|false=>rw[h1]at h;cases B:Nat.ble t k with
  |true=>rw[B]at h;exact F t x h|false=>rw[B]at h;exact J t x h
end
section
variable{S:Nat->Type}
def apH:(a:List Ty)->{b:List Ty}->HL S a->HL S b->HL S (a++b)
 |[],_,_,y=>y|_::r,_,x,y=>(x.1,apH r x.2 y)
def spA:(a:List Ty)->{b:List Ty}->HL S (a++b)->HL S a
 |[],_,_=>()|_::r,_,x=>(x.1,spA r x.2)
def spB:(a:List Ty)->{b:List Ty}->HL S (a++b)->HL S b
 |[],_,x=>x|_::r,_,x=>spB r x.2
theorem ap_sp:∀a{b:List Ty}(x:HL S (a++b)),apH a (spA a x) (spB a x)=x
 |[],_,_=>rfl|_::r,_,x=>congrArg (λz=>(x.1,z)) (ap_sp r x.2)
def cst{a b:List Ty}(h:a=b)(x:HL S b):HL S a:=h▸x
theorem cst_cst{a b:List Ty}(h:a=b)(x:HL S b):cst h.symm (cst h x)=x:=by subst h;rfl
def cnj:List Prop->Prop
 |[]=>True|[a]=>a|a::b::r=>a/\cnj (b::r)
def eqs:List Prop->Prop->Prop
 |[],K=>K|a::l,K=>cnj (a::l)->K
def alM:Lo->(ts:List Ty)->HL S ts->(HL S ts->List Prop->Prop)->Prop
 |true::m,t::r,x,K=>∀v,alM m r x.2 λy l=>K (v,y) ((v=x.1)::l)|false::m,t::r,x,K=>alM m r x.2 λy l=>K (x.1,y) l|_,_,x,K=>K x []
def alE:(ts:List Ty)->HL S ts->(HL S ts->Prop)->Prop
 |t::r,x,K=>∀v,x.1=v->alE r x.2 λy=>K (v,y)|[],x,K=>K x
theorem cnj_of:∀{l:List Prop},(∀p∈l,p)->cnj l
 |[],_=>trivial|[_],h=>h _ (List.mem_singleton_self _)|_::b::r,h=>⟨h _ (qev ..),cnj_of (l:=b::r) (by grind)⟩
theorem alM_at:∀{m:Lo}{ts:List Ty}{x:HL S ts}{K:HL S ts->List Prop->Prop},alM m ts x K->∃l,K x l/\∀p∈l,p
 |[],[],_,_,h=>⟨_,h,λ_ B=>by cases B⟩|[],_::_,_,_,h=>⟨_,h,λ_ B=>by cases B⟩|true::_,[],_,_,h=>⟨_,h,λ_ B=>by cases B⟩|false::_,[],_,_,h=>⟨_,h,λ_ B=>by cases B⟩|true::m,_::r,x,_,h=>by
  obtain⟨l,h1,F⟩:=alM_at (m:=m) (ts:=r) (h x.1);refine⟨_,h1,λp B=>?_⟩;rcases qak.1 B with rfl|B;.rfl
  .exact F p B|false::m,_::r,_,_,h=>alM_at (m:=m) (ts:=r) h
theorem eqs_at{l:List Prop}{K:Prop}(h:eqs l K)(B:∀p∈l,p):K:=by cases l with
 |nil=>exact h|cons a l=>exact h (cnj_of B)
theorem alE_at:∀{ts:List Ty}{x:HL S ts}{K:HL S ts->Prop},alE ts x K->K x
 |[],_,_,h=>h|_::r,x,_,h=>alE_at (ts:=r) (h x.1 rfl)
end
section
variable(T:Tab)
def flT:List Ty->List Ty
 |[]=>[]|.st n::r=>T.tys n++flT r|.int k::r=>.int k::flT r|.bool::r=>.bool::flT r|.str::r=>.str::flT r|.sl e::r=>.sl e::flT r
def flH:(ts:List Ty)->HL T.den ts->HL T.den (flT T ts)
 |[],_=>()|.st n::r,x=>apH (T.tys n) (T.cells n x.1) (flH r x.2)|.int _::r,x=>(x.1,flH r x.2)|.bool::r,x=>(x.1,flH r x.2)|.str::r,x=>(x.1,flH r x.2)|.sl _::r,x=>(x.1,flH r x.2)
def unH:(ts:List Ty)->HL T.den (flT T ts)->HL T.den ts
 |[],_=>()|.st n::r,x=>(T.pack n (spA (T.tys n) x),unH r (spB (T.tys n) x))|.int _::r,x=>(x.1,unH r x.2)|.bool::r,x=>(x.1,unH r x.2)|.str::r,x=>(x.1,unH r x.2)|.sl _::r,x=>(x.1,unH r x.2)
theorem fl_un(B:T.Ok):∀ts x,flH T ts (unH T ts x)=x
 |[],_=>rfl|.st n::r,x=>by show apH (T.tys n) (T.cells n (T.pack n (spA (T.tys n) x))) (flH T r (unH T r (spB (T.tys n) x)))=x;rw[B.pc,fl_un B r];exact ap_sp _ _|.int _::r,x=>congrArg (λz=>(x.1,z)) (fl_un B r x.2)|.bool::r,x=>congrArg (λz=>(x.1,z)) (fl_un B r x.2)|.str::r,x=>congrArg (λz=>(x.1,z)) (fl_un B r x.2)|.sl _::r,x=>congrArg (λz=>(x.1,z)) (fl_un B r x.2)
end
structure Shp where
 f:Nat
 ins:List Sh0
 pre:List OSh
 res:Sh
 post:List OSh
 alt:Bool:=false
abbrev gk(f:Nat)(i:List Sh0)(h:List OSh)(r:Sh):Shp:=⟨f,i,h,r,h,false⟩
abbrev Shp.I(c:Shp):List Ty:=hsT c.ins (hsOs c.pre)
abbrev Shp.O(c:Shp):List Ty:=hsV c.res (hsOs c.post)
def Shp.c{S:Nat->Type}(c:Shp)(R:HL S c.I->(HL S c.O->Prop)->Prop):Con S:=⟨c.f,c.ins,c.pre,c.res,c.post,R,c.alt⟩
def Con.g{T:Tab}(c:Shp)(pk qk:List Ty)(m:Lo)(sp:Ar T.den pk (Prop×HL T.den qk))(h:flT T pk=c.I:=by kernel_rfl)(h':flT T qk=c.O:=by kernel_rfl):Con T.den:=c.c λx K=>(apA pk sp (unH T pk (cst h x))).1/\alM m qk (apA pk sp (unH T pk (cst h x))).2 λo l=>eqs l (K (cst h'.symm (flH T qk o)))
def Con.t{T:Tab}(c:Shp)(pk qk:List Ty)(m:Lo)(sp:Ar T.den pk (HL T.den qk))(h:flT T pk=c.I:=by kernel_rfl)(h':flT T qk=c.O:=by kernel_rfl):Con T.den:=c.c λx K=>alM m qk (apA pk sp (unH T pk (cst h x))) λo l=>eqs l (K (cst h'.symm (flH T qk o)))
def dS(T:Tab):Ty->Sh0
 |.st n=>.agg ((T.tys n).map .d)|t=>.one (.d t)
def dV(T:Tab):List Ty->Sh
 |[t]=>.one (dS T t)|l=>.tup (l.map (dS T))
def Shp.p(T:Tab)(f:Nat)(pk qk:List Ty):Shp:=⟨f,pk.map (dS T),[],dV T qk,[],false⟩
def NoGo(fn:Func):Bool:=decide (fn.name≠ "runtime.NumGoroutine")
structure Base(P:Program)(T:Tab)(I:BT (TI T.den)):Prop where
 tb:T.Ok
 ti:InfoOk P T I
 mix:P.follows .mixedOrders=true
def AllC(P:Program)(T:Tab)(l:List (Con T.den)):Prop:=∀c∈l,c.Ok P T
def AllX(P:Program)(T:Tab)(l:List (XCon T.den)):Prop:=∀c∈l,c.Ok P T
section
variable{P:Program}{T:Tab}
theorem c0:AllC P T []:=λ_ h=>by cases h
theorem x0:AllX P T []:=λ_ h=>by cases h
theorem Con.Ok.c{c:Con T.den}{l:List (Con T.den)}(h:c.Ok P T)(h':AllC P T l):AllC P T (c::l):=all_cons h h'
theorem x1{c:XCon T.den}{l:List (XCon T.den)}(h:c.Ok P T)(h':AllX P T l):AllX P T (c::l):=all_cons h h'
theorem callable{f:Nat}{fn:Func}{B:Code}(F:P.funcs[f]?=some fn)(M:fn.body=some B)(J:NoGo fn=true):Callable P f:=by refine⟨by grind,?_⟩;rw[F];intro h;simp at h;exact qc J h
def obF(C:Cx T)(fn:Func)(an:Nt)(k:Con T.den)(pk qk:List Ty)(h:flT T pk=hsT k.ins (hsOs k.pre))(h':flT T qk=hsV k.res (hsOs k.post))(sp:HL T.den pk->(HL T.den qk->Prop)->Prop):Prop:=match fn.body with
 |some B=>bif NoGo fn&&Nat.ble k.ins.length fn.ntmps then alH pk λy=>sp y λo=>WQ T C fn.ntmps B an (k.st T (cst h.symm (flH T pk y))) (retTQ T C k fn.results.toList (cst h'.symm (flH T qk o)))else False|none=>False
theorem obF_ok{I:BT (TI T.den)}(B:Base P T I){cs:List (Con T.den)}{xs:List (XCon T.den)}{z:Nat}{rw:Ln}{fn:Func}{an:Nt}{k:Con T.den}{pk qk:List Ty}{h:flT T pk=hsT k.ins (hsOs k.pre)}{h':flT T qk=hsV k.res (hsOs k.post)}{sp:HL T.den pk->(HL T.den qk->Prop)->Prop}(Z:P.funcs[k.f]?=some fn)(J:AllC P T cs)(M:AllX P T xs)(q:obF ⟨I,cs,xs,z,rw⟩ fn an k pk qk h h' sp)(hR:∀x K,k.R x K->∀L,sp (unH T pk (cst h x)) L->∃o,K (cst h'.symm (flH T qk o))/\L o):k.Ok P T:=by
 unfold obF at q;split at q
 .rename_i U X;obtain⟨F,q2⟩:=cnd q;rw[qh]at F;refine⟨callable Z X F.1,λx K hx=>?_⟩;obtain⟨o,h1,Y⟩:=hR x K hx _ (alH_iff.1 q2 (unH T pk (cst h x)));have e:cst h.symm (flH T pk (unH T pk (cst h x)))=x:=by rw[fl_un T B.tb];exact cst_cst h x
  rw[e]at Y;exact⟨_,h1,Con.soundQ (C:=⟨I,cs,xs,z,rw⟩) B.tb ⟨B.ti,J,M⟩ B.mix Z X F.2 Y⟩
 grind
variable{I:BT (TI T.den)}{cs:List (Con T.den)}{xs:List (XCon T.den)}{rw:Ln}{fn:Func}{an:Nt}{c:Shp}{pk qk:List Ty}{m:Lo}{h:flT T pk=c.I}{h':flT T qk=c.O}{Q:Prop}
theorem prx(B:Base P T I)(rw:Ln){sp:Ar T.den pk (Prop×HL T.den qk)}(Y:P.funcs[c.f]?=some fn)(an:Nt)(F:AllX P T xs)(J:AllC P T cs)(q:Q)(e:obF ⟨I,cs,xs,16,rw⟩ fn an (Con.g c pk qk m sp h h') pk qk h h' (λy L=>(apA pk sp y).1->alE qk (apA pk sp y).2 L)=Q:=by kernel_rfl):(Con.g c pk qk m sp h h').Ok P T:=obF_ok B Y J F (e.mpr q) λ_ _ M _ U=>let⟨_,h1,X⟩:=alM_at M.2;⟨_,eqs_at h1 X,alE_at (U M.1)⟩
theorem ptx(B:Base P T I)(rw:Ln){sp:Ar T.den pk (HL T.den qk)}(Y:P.funcs[c.f]?=some fn)(an:Nt)(F:AllX P T xs)(J:AllC P T cs)(q:Q)(e:obF ⟨I,cs,xs,16,rw⟩ fn an (Con.t c pk qk m sp h h') pk qk h h' (λy L=>alE qk (apA pk sp y) L)=Q:=by kernel_rfl):(Con.t c pk qk m sp h h').Ok P T:=obF_ok B Y J F (e.mpr q) λ_ _ M _ U=>let⟨_,h1,X⟩:=alM_at M;⟨_,eqs_at h1 X,alE_at U⟩
theorem prv(B:Base P T I){sp:Ar T.den pk (Prop×HL T.den qk)}(J:P.funcs[c.f]?=some fn)(an:Nt)(F:AllC P T cs)(q:Q)(e:obF ⟨I,cs,[],16,[]⟩ fn an (Con.g c pk qk m sp h h') pk qk h h' (λy L=>(apA pk sp y).1->alE qk (apA pk sp y).2 L)=Q:=by kernel_rfl):(Con.g c pk qk m sp h h').Ok P T:=prx B [] J an x0 F q e
theorem ptv(B:Base P T I){sp:Ar T.den pk (HL T.den qk)}(J:P.funcs[c.f]?=some fn)(an:Nt)(F:AllC P T cs)(q:Q)(e:obF ⟨I,cs,[],16,[]⟩ fn an (Con.t c pk qk m sp h h') pk qk h h' (λy L=>alE qk (apA pk sp y) L)=Q:=by kernel_rfl):(Con.t c pk qk m sp h h').Ok P T:=ptx B [] J an x0 F q e
theorem cal{f:Nat}(B:P.funcs[f]?=some fn)(h:(fn.body.isSome&&NoGo fn)=true):Callable P f:=by rw[qh,qai]at h;grind[callable]
theorem Con.Ok.at{k:Con T.den}(B:k.Ok P T)(x:HL T.den (hsT k.ins (hsOs k.pre)))(o:HL T.den (hsV k.res (hsOs k.post)))(F:k.R x λo'=>o'=o):SoundH P k.f ((k.args idf x).map (er T)) ((k.obs idf x).map (erO T)) (er T (k.val idf o)) ((k.ops idf o).map (erO T)):=by obtain⟨o',rfl,h⟩:=B.snd x _ F;exact h
def reS(pk qk:List Ty)(sp:Ar T.den pk (Prop×HL T.den qk))(μ:Ar T.den pk Nat)(B:Nat):Ar T.den pk (Prop×HL T.den qk):=cuA pk λy=>((apA pk sp y).1/\apA pk μ y<B,(apA pk sp y).2)
theorem rec_ok{sp:Ar T.den pk (Prop×HL T.den qk)}{μ:Ar T.den pk Nat}(M:Callable P c.f)(st:∀B,(Con.g c pk qk m (reS pk qk sp μ B) h h').Ok P T->(Con.g c pk qk m (reS pk qk sp μ (B+1)) h h').Ok P T):(Con.g c pk qk m sp h h').Ok P T:=by
 have J:∀B,(Con.g c pk qk m (reS pk qk sp μ B) h h').Ok P T:=by intro B;induction B with
  |zero=>refine⟨M,λx K F=>?_⟩;have F:_/\_:=F;rw[reS,ap_cu]at F;grind|succ B U=>grind
 refine⟨M,λx K F=>(J (apA pk μ (unH T pk (cst h x))+1)).snd x K ?_⟩;show _/\_;rw[reS,ap_cu];exact⟨⟨F.1,Nat.lt_succ_self _⟩,F.2⟩
theorem hsL_d:∀l r,hsL (l.map .d) r=l++r
 |[],_=>rfl|t::l,r=>congrArg (t::·) (hsL_d l r)
theorem hs0_d(t:Ty)(r:List Ty):hs0 (dS T t) r=flT T [t]++r:=by cases t with
 |st n=>show hsL ((T.tys n).map .d) r=T.tys n++[]++r;rw[hsL_d,qcm]|_=>rfl
theorem kuz(t:Ty)(r:List Ty):flT T (t::r)=flT T [t]++flT T r:=by cases t with
 |st n=>show T.tys n++flT T r=T.tys n++[]++flT T r;grind|_=>rfl
theorem hsT_d:∀l,flT T l=hsT (l.map (dS T)) []
 |[]=>rfl|t::l=>by rw[kuz,hsT_d l];exact(hs0_d t _).symm
theorem hsV_d:∀l,flT T l=hsV (dV T l) []
 |[]=>rfl|[t]=>by show _=hs0 (dS T t) [];rw[hs0_d,qcm]|t::u::l=>hsT_d (t::u::l)
def Con.gp{T:Tab}(f:Nat)(pk qk:List Ty)(m:Lo)(sp:Ar T.den pk (Prop×HL T.den qk)):Con T.den:=Con.g (.p T f pk qk) pk qk m sp (hsT_d pk) (hsV_d qk)
def Con.tp{T:Tab}(f:Nat)(pk qk:List Ty)(m:Lo)(sp:Ar T.den pk (HL T.den qk)):Con T.den:=Con.t (.p T f pk qk) pk qk m sp (hsT_d pk) (hsV_d qk)
section
variable{f:Nat}
theorem qrx(B:Base P T I)(rw:Ln){sp:Ar T.den pk (Prop×HL T.den qk)}(M:P.funcs[f]?=some fn)(an:Nt)(F:AllX P T xs)(J:AllC P T cs)(q:Q)(e:obF ⟨I,cs,xs,16,rw⟩ fn an (Con.gp f pk qk m sp) pk qk (hsT_d pk) (hsV_d qk) (λy L=>(apA pk sp y).1->alE qk (apA pk sp y).2 L)=Q:=by kernel_rfl):(Con.gp f pk qk m sp).Ok P T:=prx (c:=.p T f pk qk) (h:=hsT_d pk) (h':=hsV_d qk) B rw M an F J q e
theorem qtx(B:Base P T I)(rw:Ln){sp:Ar T.den pk (HL T.den qk)}(M:P.funcs[f]?=some fn)(an:Nt)(F:AllX P T xs)(J:AllC P T cs)(q:Q)(e:obF ⟨I,cs,xs,16,rw⟩ fn an (Con.tp f pk qk m sp) pk qk (hsT_d pk) (hsV_d qk) (λy L=>alE qk (apA pk sp y) L)=Q:=by kernel_rfl):(Con.tp f pk qk m sp).Ok P T:=ptx (c:=.p T f pk qk) (h:=hsT_d pk) (h':=hsV_d qk) B rw M an F J q e
theorem qrv(B:Base P T I){sp:Ar T.den pk (Prop×HL T.den qk)}(J:P.funcs[f]?=some fn)(an:Nt)(F:AllC P T cs)(q:Q)(e:obF ⟨I,cs,[],16,[]⟩ fn an (Con.gp f pk qk m sp) pk qk (hsT_d pk) (hsV_d qk) (λy L=>(apA pk sp y).1->alE qk (apA pk sp y).2 L)=Q:=by kernel_rfl):(Con.gp f pk qk m sp).Ok P T:=qrx B [] J an x0 F q e
theorem qtv(B:Base P T I){sp:Ar T.den pk (HL T.den qk)}(J:P.funcs[f]?=some fn)(an:Nt)(F:AllC P T cs)(q:Q)(e:obF ⟨I,cs,[],16,[]⟩ fn an (Con.tp f pk qk m sp) pk qk (hsT_d pk) (hsV_d qk) (λy L=>alE qk (apA pk sp y) L)=Q:=by kernel_rfl):(Con.tp f pk qk m sp).Ok P T:=qtx B [] J an x0 F q e
end
def Con.b{T:Tab}(c:Shp)(pk qk:List Ty){B:Type}(sp:Ar T.den pk (Prop×B×(B->HL T.den qk)))(h:flT T pk=c.I:=by kernel_rfl)(h':flT T qk=c.O:=by kernel_rfl):Con T.den:=c.c λx K=>(apA pk sp (unH T pk (cst h x))).1/\K (cst h'.symm (flH T qk ((apA pk sp (unH T pk (cst h x))).2.2 (apA pk sp (unH T pk (cst h x))).2.1)))
def Con.bp{T:Tab}(f:Nat)(pk qk:List Ty){B:Type}(sp:Ar T.den pk (Prop×B×(B->HL T.den qk))):Con T.den:=Con.b (.p T f pk qk) pk qk sp (hsT_d pk) (hsV_d qk)
section
variable{f:Nat}{B':Type}{sp:Ar T.den pk (Prop×B'×(B'->HL T.den qk))}
theorem pbx(B:Base P T I)(rw:Ln)(X:P.funcs[c.f]?=some fn)(an:Nt)(F:AllX P T xs)(J:AllC P T cs)(q:Q)(e:obF ⟨I,cs,xs,16,rw⟩ fn an (Con.b c pk qk sp h h') pk qk h h' (λy L=>(apA pk sp y).1->∀R,(apA pk sp y).2.1=R->L ((apA pk sp y).2.2 R))=Q:=by kernel_rfl):(Con.b c pk qk sp h h').Ok P T:=obF_ok B X J F (e.mpr q) λ_ _ M _ U=>⟨_,M.2,U M.1 _ rfl⟩
theorem pbv(B:Base P T I)(J:P.funcs[c.f]?=some fn)(an:Nt)(F:AllC P T cs)(q:Q)(e:obF ⟨I,cs,[],16,[]⟩ fn an (Con.b c pk qk sp h h') pk qk h h' (λy L=>(apA pk sp y).1->∀R,(apA pk sp y).2.1=R->L ((apA pk sp y).2.2 R))=Q:=by kernel_rfl):(Con.b c pk qk sp h h').Ok P T:=pbx B [] J an x0 F q e
theorem qbx(B:Base P T I)(rw:Ln)(M:P.funcs[f]?=some fn)(an:Nt)(F:AllX P T xs)(J:AllC P T cs)(q:Q)(e:obF ⟨I,cs,xs,16,rw⟩ fn an (Con.bp f pk qk sp) pk qk (hsT_d pk) (hsV_d qk) (λy L=>(apA pk sp y).1->∀R,(apA pk sp y).2.1=R->L ((apA pk sp y).2.2 R))=Q:=by kernel_rfl):(Con.bp f pk qk sp).Ok P T:=pbx (c:=.p T f pk qk) (h:=hsT_d pk) (h':=hsV_d qk) B rw M an F J q e
theorem qbv(B:Base P T I)(J:P.funcs[f]?=some fn)(an:Nt)(F:AllC P T cs)(q:Q)(e:obF ⟨I,cs,[],16,[]⟩ fn an (Con.bp f pk qk sp) pk qk (hsT_d pk) (hsV_d qk) (λy L=>(apA pk sp y).1->∀R,(apA pk sp y).2.1=R->L ((apA pk sp y).2.2 R))=Q:=by kernel_rfl):(Con.bp f pk qk sp).Ok P T:=qbx B [] J an x0 F q e
end
end
end Go.Cv
namespace Go.Proofs.YtfiecdeonopcmaaGreatDoor
open Go Go.Bv Go.Cv Go.Md Go.RowKit
open Go.IntKind(i64 u64)
structure wN where
 wBe:Int
 wBd:Li
 wBb:Int deriving Inhabited,DecidableEq
structure wAi where
 Key:Int
 wK:Int
 wBf:Li
 wBc:Li deriving Inhabited,DecidableEq
structure wAt where
 wl:Int
 wAY:Int
 wAV:Int
 wm:Li deriving Inhabited,DecidableEq
structure wh where
 wX:Int
 wC:Li
 wB:List wAt
 wJ:Int
 wL:Int
 Fee:Int
 wQ:Int
 wK:Int
 wAG:Int
 wAH:Li deriving Inhabited,DecidableEq
structure we where
 wBQ:Int
 wBE:Int
 wBT:Int
 wBZ:Int
 wBS:Int
 wBa:List wh
 ID:Int
 wP:Int
 wBP:Int deriving Inhabited,DecidableEq
structure ww where
 wAu:Bool
 wAk:Int
 wAj:Int
 wAm:List wN
 wAl:List wAi
 wAf:List wAi
 wAs:Int
 wAn:Int
 wAI:Int
 wAE:Int
 wAA:Int
 wAT:Int
 wAe:Int
 wz:Int
 wAo:Int
 L:List we
 Tip:Int
 wAv:Int deriving Inhabited,DecidableEq
structure wF where
 wd:Int
 wH:Int
 wS:Int
 wO:Int
 wM:Int
 wZ:Int
 wt:Int
 wW:Int
 wU:Int deriving Inhabited,DecidableEq
structure wD where
 wP:Int
 wG:Int
 wAM:Int
 wU:Int
 wK:Int
 Txs:List wh deriving Inhabited,DecidableEq
structure wAq where
 wBH:Int
 wAw:Int
 wBD:Int deriving Inhabited,DecidableEq
structure wI where
 wH:Int
 wAF:Int
 wAJ:Li deriving Inhabited,DecidableEq
structure wAX where P:Int deriving Inhabited,DecidableEq
structure wAW where
 a0:Int
 a1:Int
 a2:Int deriving Inhabited,DecidableEq
structure wA where
 ID:Int
 wn:Int
 wK:Int deriving Inhabited,DecidableEq
structure wT where
 wBK:Int
 wBL:Int
 wBM:Li
 leaves:Int
 marks:Li
 wBC:List wA
 hidden:Int deriving Inhabited,DecidableEq
structure wR where
 wBB:Int
 wAy:Int
 wBF:Int
 wBI:Int
 wBG:Int
 wBJ:List wh
 work:Int deriving Inhabited,DecidableEq
structure wBU where
 a0:Int
 a1:Int deriving Inhabited,DecidableEq
structure wAQ where
 wH:Int
 wX:Int
 wC:Li
 wy:Li
 wAc:Li
 wJ:Int
 wL:Int
 Fee:Int
 wQ:Int
 wBN:Int deriving Inhabited,DecidableEq
structure wAC where
 wAS:Int
 wAh:Int
 wAb:Int
 wAp:Int
 Key:Int
 wAg:Int
 wAK:Int
 wAa:Li
 wBO:Bool deriving Inhabited,DecidableEq
structure wo where
 Value:Int
 wAz:Int
 Rho:Int
 wBA:Int deriving Inhabited,DecidableEq
structure wAD where
 Ins:List wAC
 wB:List wo
 wAd:Int deriving Inhabited,DecidableEq
structure wAR where wE:List wA deriving Inhabited,DecidableEq
structure wAx where
 wAr:Bool
 wBW:Int
 wBY:Int
 wBV:List wN
 wBX:List wAi
 wBR:List wAi deriving Inhabited,DecidableEq
structure wAZ where
 wAP:Int
 wv:Int
 wg:Int
 wc:Int
 wY:Int
 wx:Int
 wV:Int
 wAB:Int
 wAN:Int
 wG:Int
 wAO:Li
 wC:Li
 wE:List wA
 wAU:Int
 wAL:Li deriving Inhabited,DecidableEq
def denT:Nat->Type
 |0=>wN|1=>wAi|2=>wAt|3=>wh|4=>we|5=>ww|6=>wF|7=>wD|8=>wAq|9=>wI|10=>wAX|11=>wAW|12=>wA|13=>wT|14=>wR|15=>wBU|16=>wAQ|17=>wAC|18=>wo|19=>wAD|20=>wAR|21=>wAx|22=>wAZ|_=>Unit
def tysT:Nat->List Ty
 |0=>[.int .u64,.sl (.int .u64),.int .u64]|1=>[.int .u64,.int .u64,.sl (.int .u64),.sl (.int .u64)]|2=>[.int .u64,.int .u64,.int .u64,.sl (.int .u64)]|3=>[.int .u64,.sl (.int .u64),.sl (.st 2),.int .u64,.int .u64,.int .u64,.int .u64,.int .u64,.int .i64,.sl (.int .u8)]|4=>[.int .u64,.int .i64,.int .u64,.int .u64,.int .u64,.sl (.st 3),.int .u64,.int .i64,.int .u64]|5=>[.bool,.int .u64,.int .i64,.sl (.st 0),.sl (.st 1),.sl (.st 1),.int .i64,.int .i64,.int .i64,.int .i64,.int .i64,.int .u64,.int .i64,.int .i64,.int .u64,.sl (.st 4),.int .i64,.int .i64]|6=>[.int .i64,.int .i64,.int .i64,.int .i64,.int .i64,.int .u64,.int .i64,.int .i64,.int .u64]|7=>[.int .u64,.int .i64,.int .u64,.int .u64,.int .u64,.sl (.st 3)]|8=>[.int .i64,.int .i64,.int .i64]|9=>[.int .i64,.int .i64,.sl (.int .u64)]|10=>[.int .u64]|11=>[.int .u64,.int .u64,.int .u64]|12=>[.int .u64,.int .u64,.int .u64]|13=>[.int .i64,.int .i64,.sl (.int .u64),.int .i64,.sl (.int .u64),.sl (.st 12),.int .u64]|14=>[.int .u64,.int .i64,.int .u64,.int .u64,.int .u64,.sl (.st 3),.int .u64]|15=>[.int .u64,.int .u64]|16=>[.int .i64,.int .u64,.sl (.int .u64),.sl (.int .u64),.sl (.int .u64),.int .u64,.int .u64,.int .u64,.int .u64,.int .u64]|17=>[.int .u64,.int .u64,.int .u64,.int .u64,.int .u64,.int .i64,.int .i64,.sl (.int .u64),.bool]|18=>[.int .u64,.int .u64,.int .u64,.int .u64]|19=>[.sl (.st 17),.sl (.st 18),.int .u64]|20=>[.sl (.st 12)]|21=>[.bool,.int .u64,.int .i64,.sl (.st 0),.sl (.st 1),.sl (.st 1)]|22=>[.int .i64,.int .i64,.int .i64,.int .i64,.int .i64,.int .u64,.int .i64,.int .i64,.int .u64,.int .i64,.sl (.int .u64),.sl (.int .u64),.sl (.st 12),.int .u64,.sl (.int .u64)]|_=>[]
theorem TTx_eta(x:wh):wh.mk x.wX x.wC x.wB x.wJ x.wL x.Fee x.wQ x.wK x.wAG x.wAH=x:=rfl
theorem ks9(x:wAC):wAC.mk x.wAS x.wAh x.wAb x.wAp x.Key x.wAg x.wAK x.wAa x.wBO=x:=rfl
theorem k6t(x:wo):wo.mk x.Value x.wAz x.Rho x.wBA=x:=rfl
def encTQuestion(x:wN):D:=.agg [.int .u64 x.wBe,.slice 1 (x.wBd.map (D.int .u64)),.int .u64 x.wBb]
def encTStored(x:wAi):D:=.agg [.int .u64 x.Key,.int .u64 x.wK,.slice 1 (x.wBf.map (D.int .u64)),.slice 1 (x.wBc.map (D.int .u64))]
def encTOut(x:wAt):D:=.agg [.int .u64 x.wl,.int .u64 x.wAY,.int .u64 x.wAV,.slice 1 (x.wm.map (D.int .u64))]
def encTTx(x:wh):D:=.agg [.int .u64 x.wX,.slice 1 (x.wC.map (D.int .u64)),.slice 4 (x.wB.map encTOut),.int .u64 x.wJ,.int .u64 x.wL,.int .u64 x.Fee,.int .u64 x.wQ,.int .u64 x.wK,.int .i64 x.wAG,.slice 1 (x.wAH.map (D.int .u8))]
def encTStoredx(x:we):D:=.agg [.int .u64 x.wBQ,.int .i64 x.wBE,.int .u64 x.wBT,.int .u64 x.wBZ,.int .u64 x.wBS,.slice 10 (x.wBa.map encTTx),.int .u64 x.ID,.int .i64 x.wP,.int .u64 x.wBP]
def encTChain(x:ww):D:=.agg [.bool x.wAu,.int .u64 x.wAk,.int .i64 x.wAj,.slice 3 (x.wAm.map encTQuestion),.slice 4 (x.wAl.map encTStored),.slice 4 (x.wAf.map encTStored),.int .i64 x.wAs,.int .i64 x.wAn,.int .i64 x.wAI,.int .i64 x.wAE,.int .i64 x.wAA,.int .u64 x.wAT,.int .i64 x.wAe,.int .i64 x.wz,.int .u64 x.wAo,.slice 9 (x.L.map encTStoredx),.int .i64 x.Tip,.int .i64 x.wAv]
def encTRules(x:wF):D:=.agg [.int .i64 x.wd,.int .i64 x.wH,.int .i64 x.wS,.int .i64 x.wO,.int .i64 x.wM,.int .u64 x.wZ,.int .i64 x.wt,.int .i64 x.wW,.int .u64 x.wU]
def encTBlock(x:wD):D:=.agg [.int .u64 x.wP,.int .i64 x.wG,.int .u64 x.wAM,.int .u64 x.wU,.int .u64 x.wK,.slice 10 (x.Txs.map encTTx)]
def encTProofParams(x:wAq):D:=.agg [.int .i64 x.wBH,.int .i64 x.wAw,.int .i64 x.wBD]
def encTFrontier(x:wI):D:=.agg [.int .i64 x.wH,.int .i64 x.wAF,.slice 1 (x.wAJ.map (D.int .u64))]
def encTField(x:wAX):D:=.agg [.int .u64 x.P]
def encTA3(x:wAW):D:=.agg [.int .u64 x.a0,.int .u64 x.a1,.int .u64 x.a2]
def encTAccount(x:wA):D:=.agg [.int .u64 x.ID,.int .u64 x.wn,.int .u64 x.wK]
def encTbefore(x:wT):D:=.agg [.int .i64 x.wBK,.int .i64 x.wBL,.slice 1 (x.wBM.map (D.int .u64)),.int .i64 x.leaves,.slice 1 (x.marks.map (D.int .u64)),.slice 3 (x.wBC.map encTAccount),.int .u64 x.hidden]
def encTstored(x:wR):D:=.agg [.int .u64 x.wBB,.int .i64 x.wAy,.int .u64 x.wBF,.int .u64 x.wBI,.int .u64 x.wBG,.slice 10 (x.wBJ.map encTTx),.int .u64 x.work]
def encTA2(x:wBU):D:=.agg [.int .u64 x.a0,.int .u64 x.a1]
def encTStatement(x:wAQ):D:=.agg [.int .i64 x.wH,.int .u64 x.wX,.slice 1 (x.wC.map (D.int .u64)),.slice 1 (x.wy.map (D.int .u64)),.slice 1 (x.wAc.map (D.int .u64)),.int .u64 x.wJ,.int .u64 x.wL,.int .u64 x.Fee,.int .u64 x.wQ,.int .u64 x.wBN]
def encTSpent(x:wAC):D:=.agg [.int .u64 x.wAS,.int .u64 x.wAh,.int .u64 x.wAb,.int .u64 x.wAp,.int .u64 x.Key,.int .i64 x.wAg,.int .i64 x.wAK,.slice 1 (x.wAa.map (D.int .u64)),.bool x.wBO]
def encTNote(x:wo):D:=.agg [.int .u64 x.Value,.int .u64 x.wAz,.int .u64 x.Rho,.int .u64 x.wBA]
def encTWitness(x:wAD):D:=.agg [.slice 9 (x.Ins.map encTSpent),.slice 4 (x.wB.map encTNote),.int .u64 x.wAd]
def encTLedger(x:wAR):D:=.agg [.slice 3 (x.wE.map encTAccount)]
def encTPlace(x:wAx):D:=.agg [.bool x.wAr,.int .u64 x.wBW,.int .i64 x.wBY,.slice 3 (x.wBV.map encTQuestion),.slice 4 (x.wBX.map encTStored),.slice 4 (x.wBR.map encTStored)]
def encTState(x:wAZ):D:=.agg [.int .i64 x.wAP,.int .i64 x.wv,.int .i64 x.wg,.int .i64 x.wc,.int .i64 x.wY,.int .u64 x.wx,.int .i64 x.wV,.int .i64 x.wAB,.int .u64 x.wAN,.int .i64 x.wG,.slice 1 (x.wAO.map (D.int .u64)),.slice 1 (x.wC.map (D.int .u64)),.slice 3 (x.wE.map encTAccount),.int .u64 x.wAU,.slice 1 (x.wAL.map (D.int .u64))]
def TB:Tab where
 den:=denT;tys:=tysT;inh:=λn=>match n with
  |0=>(default:wN)|1=>(default:wAi)|2=>(default:wAt)|3=>(default:wh)|4=>(default:we)|5=>(default:ww)|6=>(default:wF)|7=>(default:wD)|8=>(default:wAq)|9=>(default:wI)|10=>(default:wAX)|11=>(default:wAW)|12=>(default:wA)|13=>(default:wT)|14=>(default:wR)|15=>(default:wBU)|16=>(default:wAQ)|17=>(default:wAC)|18=>(default:wo)|19=>(default:wAD)|20=>(default:wAR)|21=>(default:wAx)|22=>(default:wAZ)|_+23=>();cells:=λn=>match n with
  |0=>λ(x:wN)=>(x.wBe,x.wBd,x.wBb,())|1=>λ(x:wAi)=>(x.Key,x.wK,x.wBf,x.wBc,())|2=>λ(x:wAt)=>(x.wl,x.wAY,x.wAV,x.wm,())|3=>λ(x:wh)=>(x.wX,x.wC,x.wB,x.wJ,x.wL,x.Fee,x.wQ,x.wK,x.wAG,x.wAH,())|4=>λ(x:we)=>(x.wBQ,x.wBE,x.wBT,x.wBZ,x.wBS,x.wBa,x.ID,x.wP,x.wBP,())|5=>λ(x:ww)=>(x.wAu,x.wAk,x.wAj,x.wAm,x.wAl,x.wAf,x.wAs,x.wAn,x.wAI,x.wAE,x.wAA,x.wAT,x.wAe,x.wz,x.wAo,x.L,x.Tip,x.wAv,())|6=>λ(x:wF)=>(x.wd,x.wH,x.wS,x.wO,x.wM,x.wZ,x.wt,x.wW,x.wU,())|7=>λ(x:wD)=>(x.wP,x.wG,x.wAM,x.wU,x.wK,x.Txs,())|8=>λ(x:wAq)=>(x.wBH,x.wAw,x.wBD,())|9=>λ(x:wI)=>(x.wH,x.wAF,x.wAJ,())|10=>λ(x:wAX)=>(x.P,())|11=>λ(x:wAW)=>(x.a0,x.a1,x.a2,())|12=>λ(x:wA)=>(x.ID,x.wn,x.wK,())|13=>λ(x:wT)=>(x.wBK,x.wBL,x.wBM,x.leaves,x.marks,x.wBC,x.hidden,())|14=>λ(x:wR)=>(x.wBB,x.wAy,x.wBF,x.wBI,x.wBG,x.wBJ,x.work,())|15=>λ(x:wBU)=>(x.a0,x.a1,())|16=>λ(x:wAQ)=>(x.wH,x.wX,x.wC,x.wy,x.wAc,x.wJ,x.wL,x.Fee,x.wQ,x.wBN,())|17=>λ(x:wAC)=>(x.wAS,x.wAh,x.wAb,x.wAp,x.Key,x.wAg,x.wAK,x.wAa,x.wBO,())|18=>λ(x:wo)=>(x.Value,x.wAz,x.Rho,x.wBA,())|19=>λ(x:wAD)=>(x.Ins,x.wB,x.wAd,())|20=>λ(x:wAR)=>(x.wE,())|21=>λ(x:wAx)=>(x.wAr,x.wBW,x.wBY,x.wBV,x.wBX,x.wBR,())|22=>λ(x:wAZ)=>(x.wAP,x.wv,x.wg,x.wc,x.wY,x.wx,x.wV,x.wAB,x.wAN,x.wG,x.wAO,x.wC,x.wE,x.wAU,x.wAL,())|_+23=>λ_=>();pack:=λn=>match n with
  |0=>λ(B,F,J,())=>wN.mk B F J|1=>λ(B,F,J,M,())=>wAi.mk B F J M|2=>λ(B,F,J,M,())=>wAt.mk B F J M|3=>λ(B,F,J,M,U,X,Y,Z,q8,q9,())=>wh.mk B F J M U X Y Z q8 q9|4=>λ(B,F,J,M,U,X,Y,Z,q8,())=>we.mk B F J M U X Y Z q8|5=>λ(B,F,J,M,U,X,Y,Z,q8,q9,aa,ab,ac,ad,ae,ag,ah,ai,())=>ww.mk B F J M U X Y Z q8 q9 aa ab ac ad ae ag ah ai|6=>λ(B,F,J,M,U,X,Y,Z,q8,())=>wF.mk B F J M U X Y Z q8|7=>λ(B,F,J,M,U,X,())=>wD.mk B F J M U X|8=>λ(B,F,J,())=>wAq.mk B F J|9=>λ(B,F,J,())=>wI.mk B F J|10=>λ(B,())=>wAX.mk B|11=>λ(B,F,J,())=>wAW.mk B F J|12=>λ(B,F,J,())=>wA.mk B F J|13=>λ(B,F,J,M,U,X,Y,())=>wT.mk B F J M U X Y|14=>λ(B,F,J,M,U,X,Y,())=>wR.mk B F J M U X Y|15=>λ(B,F,())=>wBU.mk B F|16=>λ(B,F,J,M,U,X,Y,Z,q8,q9,())=>wAQ.mk B F J M U X Y Z q8 q9|17=>λ(B,F,J,M,U,X,Y,Z,q8,())=>wAC.mk B F J M U X Y Z q8|18=>λ(B,F,J,M,())=>wo.mk B F J M|19=>λ(B,F,J,())=>wAD.mk B F J|20=>λ(B,())=>wAR.mk B|21=>λ(B,F,J,M,U,X,())=>wAx.mk B F J M U X|22=>λ(B,F,J,M,U,X,Y,Z,q8,q9,aa,ab,ac,ad,ae,())=>wAZ.mk B F J M U X Y Z q8 q9 aa ab ac ad ae|_+23=>λ_=>();enc:=λn=>match n with
  |0=>encTQuestion|1=>encTStored|2=>encTOut|3=>encTTx|4=>encTStoredx|5=>encTChain|6=>encTRules|7=>encTBlock|8=>encTProofParams|9=>encTFrontier|10=>encTField|11=>encTA3|12=>encTAccount|13=>encTbefore|14=>encTstored|15=>encTA2|16=>encTStatement|17=>encTSpent|18=>encTNote|19=>encTWitness|20=>encTLedger|21=>encTPlace|22=>encTState|_+23=>λ_=>.agg []
abbrev ss1{A:Type}(I:A->Prop)(M:A->Nat)(a B:A):Prop:=I B/\M B<M a
abbrev ss2{A B:Type}(I:A->B->Prop)(M:A->B->Nat)(a F:A)(b J:B):Prop:=I F J/\M F J<M a b
abbrev ss3{A B C:Type}(I:A->B->C->Prop)(M:A->B->C->Nat)(a F:A)(b J:B)(c U:C):Prop:=I F J U/\M F J U<M a b c
abbrev ss4{A B C E:Type}(I:A->B->C->E->Prop)(M:A->B->C->E->Nat)(a F:A)(b J:B)(c U:C)(d X:E):Prop:=I F J U X/\M F J U X<M a b c d
abbrev ss6{A B C E G H:Type}(I:A->B->C->E->G->H->Prop)(M:A->B->C->E->G->H->Nat)(a F:A)(b J:B)(c U:C)(d X:E)(e Y:G)(f Z:H):Prop:=I F J U X Y Z/\M F J U X Y Z<M a b c d e f
abbrev Ct:=Con TB.den
abbrev _root_.Go.Cv.Con.O(k:Ct):Prop:=k.Ok Tryz.prog TB
theorem TBok:TB.Ok where
 one:=λn=>match n with
  |0=>rfl|1=>rfl|2=>rfl|3=>rfl|4=>rfl|5=>rfl|6=>rfl|7=>rfl|8=>rfl|9=>rfl|10=>rfl|11=>rfl|12=>rfl|13=>rfl|14=>rfl|15=>rfl|16=>rfl|17=>rfl|18=>rfl|19=>rfl|20=>rfl|21=>rfl|22=>rfl|_+23=>rfl;pc:=λn x=>match n with
  |0=>rfl|1=>rfl|2=>rfl|3=>rfl|4=>rfl|5=>rfl|6=>rfl|7=>rfl|8=>rfl|9=>rfl|10=>rfl|11=>rfl|12=>rfl|13=>rfl|14=>rfl|15=>rfl|16=>rfl|17=>rfl|18=>rfl|19=>rfl|20=>rfl|21=>rfl|22=>rfl|_+23=>rfl;en:=λn x=>match n with
  |0=>rfl|1=>rfl|2=>rfl|3=>rfl|4=>rfl|5=>rfl|6=>rfl|7=>rfl|8=>rfl|9=>rfl|10=>rfl|11=>rfl|12=>rfl|13=>rfl|14=>rfl|15=>rfl|16=>rfl|17=>rfl|18=>rfl|19=>rfl|20=>rfl|21=>rfl|22=>rfl|_+23=>rfl
def ti3:TI TB.den:={ty:=some (false,1),ze:=some [.d (.int .i64) (0:Int)],un:=some (.int .i64)}
theorem ti3_ok:TI.Ok Tryz.prog TB 3 ti3:={}
def ti4:TI TB.den:={ty:=some (false,1),ze:=some [.d .bool false],un:=some .bool}
theorem ti4_ok:TI.Ok Tryz.prog TB 4 ti4:={}
def ti5:TI TB.den:={ty:=some (false,1),ze:=some [.d (.int .u8) (0:Int)],un:=some (.int .u8)}
theorem ti5_ok:TI.Ok Tryz.prog TB 5 ti5:={}
def ti9:TI TB.den:={ty:=some (false,1),ze:=some [.d .str ByteArray.empty],un:=some .string}
theorem ti9_ok:TI.Ok Tryz.prog TB 9 ti9:={}
def ti23:TI TB.den:={ty:=some (true,3),fl:=[(0,false,1),(1,false,1),(2,false,1)],ze:=some [.d (.int .i64) (0:Int),.d (.int .i64) (0:Int),.d (.int .i64) (0:Int)],pl:=[(0,1),(1,1),(2,1)],eq:=some [.int .i64,.int .i64,.int .i64]}
theorem ti23_ok:TI.Ok Tryz.prog TB 23 ti23:={fl:=kh ⟨by kernel_rfl,by kernel_rfl,by kernel_rfl,trivial⟩}
def ti24:TI TB.den:={ty:=some (false,1),ze:=some [.d (.int .u64) (0:Int)],un:=some (.int .u64)}
theorem ti24_ok:TI.Ok Tryz.prog TB 24 ti24:={}
def ti26:TI TB.den:={ty:=some (true,9),fl:=[(0,false,1),(1,false,1),(2,true,3),(5,false,1),(6,false,1),(7,false,1),(8,false,1)],ze:=some [.d (.int .i64) (0:Int),.d (.int .i64) (0:Int),.d (.int .i64) (0:Int),.d (.int .i64) (0:Int),.d (.int .i64) (0:Int),.d (.int .u64) (0:Int),.d (.int .i64) (0:Int),.d (.int .i64) (0:Int),.d (.int .u64) (0:Int)],pl:=[(0,1),(1,1),(2,3),(5,1),(6,1),(7,1),(8,1)],eq:=some [.int .i64,.int .i64,.int .i64,.int .i64,.int .i64,.int .u64,.int .i64,.int .i64,.int .u64]}
theorem ti26_ok:TI.Ok Tryz.prog TB 26 ti26:={fl:=kh ⟨by kernel_rfl,by kernel_rfl,by kernel_rfl,by kernel_rfl,by kernel_rfl,by kernel_rfl,by kernel_rfl,trivial⟩}
def ti27:TI TB.den:={ty:=some (false,1),el:=some (.st 7,64),ez:=true,ze:=some [.full (.st 7) []],un:=some (.slice 41)}
theorem ti27_ok:TI.Ok Tryz.prog TB 27 ti27:={ez:=λ_ _ _ h=>by cases h;exact⟨[.d (.int .u64 0),.d (.int .i64 0),.d (.int .u64 0),.d (.int .u64 0),.d (.int .u64 0),.full 10 []],by kernel_rfl,⟨⟨kc _,rfl⟩,⟨kc _,rfl⟩,⟨kc _,rfl⟩,⟨kc _,rfl⟩,⟨kc _,rfl⟩,⟨⟨rfl,rfl⟩,rfl⟩,trivial⟩⟩}
def ti28:TI TB.den:={ty:=some (false,1),el:=some (.int .u8,1),ez:=true,ze:=some [.full (.int .u8) []],un:=some (.slice 5)}
theorem ti28_ok:TI.Ok Tryz.prog TB 28 ti28:={ez:=λ_ _ _ h=>by cases h;exact⟨[.d (.int .u8 0)],by kernel_rfl,⟨⟨kc _,rfl⟩,trivial⟩⟩}
def ti34:TI TB.den:={ty:=some (false,1),ze:=some [.k KC.nilPtr.v],un:=some (.pointer 86)}
theorem ti34_ok:TI.Ok Tryz.prog TB 34 ti34:={}
def ti37:TI TB.den:={ty:=some (false,1),ze:=some [.k KC.nilPtr.v],un:=some (.pointer 138)}
theorem ti37_ok:TI.Ok Tryz.prog TB 37 ti37:={}
def ti39:TI TB.den:={ty:=some (false,1),el:=some (.st 3,128),ez:=true,ze:=some [.full (.st 3) []],un:=some (.slice 94)}
theorem ti39_ok:TI.Ok Tryz.prog TB 39 ti39:={ez:=λ_ _ _ h=>by cases h;exact⟨[.d (.int .u64 0),.full 1 [],.full 4 [],.d (.int .u64 0),.d (.int .u64 0),.d (.int .u64 0),.d (.int .u64 0),.d (.int .u64 0),.d (.int .i64 0),.full 1 []],by kernel_rfl,⟨⟨kc _,rfl⟩,⟨⟨rfl,rfl⟩,rfl⟩,⟨⟨rfl,rfl⟩,rfl⟩,⟨kc _,rfl⟩,⟨kc _,rfl⟩,⟨kc _,rfl⟩,⟨kc _,rfl⟩,⟨kc _,rfl⟩,⟨kc _,rfl⟩,⟨⟨rfl,rfl⟩,rfl⟩,trivial⟩⟩}
def ti41:TI TB.den:={ty:=some (true,6),fl:=[(0,false,1),(1,false,1),(2,false,1),(3,false,1),(4,false,1),(5,false,1)],ze:=some [.d (.int .u64) (0:Int),.d (.int .i64) (0:Int),.d (.int .u64) (0:Int),.d (.int .u64) (0:Int),.d (.int .u64) (0:Int),.full (.st 3) []],pl:=[(0,1),(1,1),(2,1),(3,1),(4,1),(5,1)]}
theorem ti41_ok:TI.Ok Tryz.prog TB 41 ti41:={fl:=kh ⟨by kernel_rfl,by kernel_rfl,by kernel_rfl,by kernel_rfl,by kernel_rfl,by kernel_rfl,trivial⟩}
def ti44:TI TB.den:={ty:=some (false,1),el:=some (.st 0,40),ez:=true,ze:=some [.full (.st 0) []],un:=some (.slice 463)}
theorem ti44_ok:TI.Ok Tryz.prog TB 44 ti44:={ez:=λ_ _ _ h=>by cases h;exact⟨[.d (.int .u64 0),.full 1 [],.d (.int .u64 0)],by kernel_rfl,⟨⟨kc _,rfl⟩,⟨⟨rfl,rfl⟩,rfl⟩,⟨kc _,rfl⟩,trivial⟩⟩}
def ti47:TI TB.den:={ty:=some (true,5),fl:=[(0,false,1),(1,false,1),(2,false,1),(3,false,1),(4,false,1)],ze:=some [.d (.int .u64) (0:Int),.d (.int .i64) (0:Int),.full (.st 0) [],.full (.st 1) [],.full (.st 1) []],pl:=[(0,1),(1,1),(2,1),(3,1),(4,1)]}
theorem ti47_ok:TI.Ok Tryz.prog TB 47 ti47:={fl:=kh ⟨by kernel_rfl,by kernel_rfl,by kernel_rfl,by kernel_rfl,by kernel_rfl,trivial⟩}
def ti49:TI TB.den:={ty:=some (true,6),fl:=[(0,false,1),(1,true,5)],ze:=some [.d .bool false,.d (.int .u64) (0:Int),.d (.int .i64) (0:Int),.full (.st 0) [],.full (.st 1) [],.full (.st 1) []],pl:=[(0,1),(1,5)]}
theorem ti49_ok:TI.Ok Tryz.prog TB 49 ti49:={fl:=kh ⟨by kernel_rfl,by kernel_rfl,trivial⟩}
def ti50:TI TB.den:={ty:=some (false,1),el:=some (.st 4,88),ez:=true,ze:=some [.full (.st 4) []],un:=some (.slice 101)}
theorem ti50_ok:TI.Ok Tryz.prog TB 50 ti50:={ez:=λ_ _ _ h=>by cases h;exact⟨[.d (.int .u64 0),.d (.int .i64 0),.d (.int .u64 0),.d (.int .u64 0),.d (.int .u64 0),.full 10 [],.d (.int .u64 0),.d (.int .i64 0),.d (.int .u64 0)],by kernel_rfl,⟨⟨kc _,rfl⟩,⟨kc _,rfl⟩,⟨kc _,rfl⟩,⟨kc _,rfl⟩,⟨kc _,rfl⟩,⟨⟨rfl,rfl⟩,rfl⟩,⟨kc _,rfl⟩,⟨kc _,rfl⟩,⟨kc _,rfl⟩,trivial⟩⟩}
def ti52:TI TB.den:={ty:=some (true,18),fl:=[(0,true,6),(6,true,9),(15,false,1),(16,false,1),(17,false,1)],ze:=some [.d .bool false,.d (.int .u64) (0:Int),.d (.int .i64) (0:Int),.full (.st 0) [],.full (.st 1) [],.full (.st 1) [],.d (.int .i64) (0:Int),.d (.int .i64) (0:Int),.d (.int .i64) (0:Int),.d (.int .i64) (0:Int),.d (.int .i64) (0:Int),.d (.int .u64) (0:Int),.d (.int .i64) (0:Int),.d (.int .i64) (0:Int),.d (.int .u64) (0:Int),.full (.st 4) [],.d (.int .i64) (0:Int),.d (.int .i64) (0:Int)],pl:=[(0,6),(6,9),(15,1),(16,1),(17,1)]}
theorem ti52_ok:TI.Ok Tryz.prog TB 52 ti52:={fl:=kh ⟨by kernel_rfl,by kernel_rfl,by kernel_rfl,by kernel_rfl,by kernel_rfl,trivial⟩}
def ti57:TI TB.den:={ty:=some (false,1),ze:=some [.k KC.nilPtr.v],un:=some (.pointer 121)}
theorem ti57_ok:TI.Ok Tryz.prog TB 57 ti57:={}
def ti60:TI TB.den:={ty:=some (false,1),el:=some (.int .u64,8),ez:=true,ze:=some [.full (.int .u64) []],un:=some (.slice 24)}
theorem ti60_ok:TI.Ok Tryz.prog TB 60 ti60:={ez:=λ_ _ _ h=>by cases h;exact⟨[.d (.int .u64 0)],by kernel_rfl,⟨⟨kc _,rfl⟩,trivial⟩⟩}
def ti61:TI TB.den:={ty:=some (false,1),el:=some (.st 12,24),ez:=true,ze:=some [.full (.st 12) []],un:=some (.slice 111)}
theorem ti61_ok:TI.Ok Tryz.prog TB 61 ti61:={ez:=λ_ _ _ h=>by cases h;exact⟨[.d (.int .u64 0),.d (.int .u64 0),.d (.int .u64 0)],by kernel_rfl,⟨⟨kc _,rfl⟩,⟨kc _,rfl⟩,⟨kc _,rfl⟩,trivial⟩⟩}
def ti63:TI TB.den:={ty:=some (true,15),fl:=[(0,true,9),(9,false,1),(10,false,1),(11,false,1),(12,false,1),(13,false,1),(14,false,1)],ze:=some [.d (.int .i64) (0:Int),.d (.int .i64) (0:Int),.d (.int .i64) (0:Int),.d (.int .i64) (0:Int),.d (.int .i64) (0:Int),.d (.int .u64) (0:Int),.d (.int .i64) (0:Int),.d (.int .i64) (0:Int),.d (.int .u64) (0:Int),.d (.int .i64) (0:Int),.full (.int .u64) [],.full (.int .u64) [],.full (.st 12) [],.d (.int .u64) (0:Int),.full (.int .u64) []],pl:=[(0,9),(9,1),(10,1),(11,1),(12,1),(13,1),(14,1)]}
theorem ti63_ok:TI.Ok Tryz.prog TB 63 ti63:={fl:=kh ⟨by kernel_rfl,by kernel_rfl,by kernel_rfl,by kernel_rfl,by kernel_rfl,by kernel_rfl,by kernel_rfl,trivial⟩}
def ti71:TI TB.den:={ty:=some (false,1),el:=some (.st 12,24),ez:=true,ze:=some [.full (.st 12) []],un:=some (.slice 76)}
theorem ti71_ok:TI.Ok Tryz.prog TB 71 ti71:={ez:=λ_ _ _ h=>by cases h;exact⟨[.d (.int .u64 0),.d (.int .u64 0),.d (.int .u64 0)],by kernel_rfl,⟨⟨kc _,rfl⟩,⟨kc _,rfl⟩,⟨kc _,rfl⟩,trivial⟩⟩}
def ti73:TI TB.den:={ty:=some (true,1),fl:=[(0,false,1)],ze:=some [.full (.st 12) []],pl:=[(0,1)]}
theorem ti73_ok:TI.Ok Tryz.prog TB 73 ti73:={fl:=kh ⟨by kernel_rfl,trivial⟩}
def ti76:TI TB.den:={ty:=some (true,3),fl:=[(0,false,1),(1,false,1),(2,false,1)],ze:=some [.d (.int .u64) (0:Int),.d (.int .u64) (0:Int),.d (.int .u64) (0:Int)],pl:=[(0,1),(1,1),(2,1)],eq:=some [.int .u64,.int .u64,.int .u64]}
theorem ti76_ok:TI.Ok Tryz.prog TB 76 ti76:={fl:=kh ⟨by kernel_rfl,by kernel_rfl,by kernel_rfl,trivial⟩}
def ti84:TI TB.den:={ty:=some (false,1),ze:=some [.k KC.nilMap.v],mp:=some (.int .u64,.st 14),un:=some (.map 24 89)}
theorem ti84_ok:TI.Ok Tryz.prog TB 84 ti84:={mp:=λ_ _ h=>by cases h;exact⟨89,.int .u64,⟨24,by kernel_rfl,by kernel_rfl⟩,λ_=>rfl,zIs_mk (z0:=.agg [.d (.int .u64 0),.d (.int .i64 0),.d (.int .u64 0),.d (.int .u64 0),.d (.int .u64 0),.k (.slice none 0 0),.d (.int .u64 0)]) qqk ⟨⟨kc (V.d (.int .u64 0)),rfl⟩,⟨kc (V.d (.int .i64 0)),rfl⟩,⟨kc (V.d (.int .u64 0)),rfl⟩,⟨kc (V.d (.int .u64 0)),rfl⟩,⟨kc (V.d (.int .u64 0)),rfl⟩,⟨rfl,rfl⟩,⟨kc (V.d (.int .u64 0)),rfl⟩,trivial⟩⟩}
def ti86:TI TB.den:={ty:=some (true,15),fl:=[(0,false,1),(1,true,9),(10,false,1),(11,false,1),(12,false,1),(13,false,1),(14,false,1)],ze:=some [.k KC.nilPtr.v,.d (.int .i64) (0:Int),.d (.int .i64) (0:Int),.d (.int .i64) (0:Int),.d (.int .i64) (0:Int),.d (.int .i64) (0:Int),.d (.int .u64) (0:Int),.d (.int .i64) (0:Int),.d (.int .i64) (0:Int),.d (.int .u64) (0:Int),.k KC.nilMap.v,.full (.int .u64) [],.k KC.nilPtr.v,.d (.int .u64) (0:Int),.d (.int .i64) (0:Int)],pl:=[(0,1),(1,9),(10,1),(11,1),(12,1),(13,1),(14,1)]}
theorem ti86_ok:TI.Ok Tryz.prog TB 86 ti86:={fl:=kh ⟨by kernel_rfl,by kernel_rfl,by kernel_rfl,by kernel_rfl,by kernel_rfl,by kernel_rfl,by kernel_rfl,trivial⟩}
def ti89:TI TB.den:={ty:=some (true,7),fl:=[(0,true,6),(6,false,1)],ze:=some [.d (.int .u64) (0:Int),.d (.int .i64) (0:Int),.d (.int .u64) (0:Int),.d (.int .u64) (0:Int),.d (.int .u64) (0:Int),.full (.st 3) [],.d (.int .u64) (0:Int)],pl:=[(0,6),(6,1)]}
theorem ti89_ok:TI.Ok Tryz.prog TB 89 ti89:={fl:=kh ⟨by kernel_rfl,by kernel_rfl,trivial⟩}
def ti92:TI TB.den:={ty:=some (false,1),el:=some (.st 2,48),ez:=true,ze:=some [.full (.st 2) []],un:=some (.slice 128)}
theorem ti92_ok:TI.Ok Tryz.prog TB 92 ti92:={ez:=λ_ _ _ h=>by cases h;exact⟨[.d (.int .u64 0),.d (.int .u64 0),.d (.int .u64 0),.full 1 []],by kernel_rfl,⟨⟨kc _,rfl⟩,⟨kc _,rfl⟩,⟨kc _,rfl⟩,⟨⟨rfl,rfl⟩,rfl⟩,trivial⟩⟩}
def ti94:TI TB.den:={ty:=some (true,10),fl:=[(0,false,1),(1,false,1),(2,false,1),(3,false,1),(4,false,1),(5,false,1),(6,false,1),(7,false,1),(8,false,1),(9,false,1)],ze:=some [.d (.int .u64) (0:Int),.full (.int .u64) [],.full (.st 2) [],.d (.int .u64) (0:Int),.d (.int .u64) (0:Int),.d (.int .u64) (0:Int),.d (.int .u64) (0:Int),.d (.int .u64) (0:Int),.d (.int .i64) (0:Int),.full (.int .u8) []],pl:=[(0,1),(1,1),(2,1),(3,1),(4,1),(5,1),(6,1),(7,1),(8,1),(9,1)]}
theorem ti94_ok:TI.Ok Tryz.prog TB 94 ti94:={fl:=kh ⟨by kernel_rfl,by kernel_rfl,by kernel_rfl,by kernel_rfl,by kernel_rfl,by kernel_rfl,by kernel_rfl,by kernel_rfl,by kernel_rfl,by kernel_rfl,trivial⟩}
def ti101:TI TB.den:={ty:=some (true,9),fl:=[(0,true,6),(6,false,1),(7,false,1),(8,false,1)],ze:=some [.d (.int .u64) (0:Int),.d (.int .i64) (0:Int),.d (.int .u64) (0:Int),.d (.int .u64) (0:Int),.d (.int .u64) (0:Int),.full (.st 3) [],.d (.int .u64) (0:Int),.d (.int .i64) (0:Int),.d (.int .u64) (0:Int)],pl:=[(0,6),(6,1),(7,1),(8,1)]}
theorem kui:TI.Ok Tryz.prog TB 101 ti101:={fl:=kh ⟨by kernel_rfl,by kernel_rfl,by kernel_rfl,by kernel_rfl,trivial⟩}
def ti103:TI TB.den:={ty:=some (false,1),el:=some (.int .i64,8),ez:=true,ze:=some [.full (.int .i64) []],un:=some (.slice 3)}
theorem kwv:TI.Ok Tryz.prog TB 103 ti103:={ez:=λ_ _ _ h=>by cases h;exact⟨[.d (.int .i64 0)],by kernel_rfl,⟨⟨kc _,rfl⟩,trivial⟩⟩}
def ti111:TI TB.den:={ty:=some (true,3),fl:=[(0,false,1),(1,false,1),(2,false,1)],ze:=some [.d (.int .u64) (0:Int),.d (.int .u64) (0:Int),.d (.int .u64) (0:Int)],pl:=[(0,1),(1,1),(2,1)],eq:=some [.int .u64,.int .u64,.int .u64]}
theorem kwz:TI.Ok Tryz.prog TB 111 ti111:={fl:=kh ⟨by kernel_rfl,by kernel_rfl,by kernel_rfl,trivial⟩}
def ti117:TI TB.den:={ty:=some (true,3),fl:=[(0,false,1),(1,false,1),(2,false,1)],ze:=some [.d (.int .i64) (0:Int),.d (.int .i64) (0:Int),.full (.int .u64) []],pl:=[(0,1),(1,1),(2,1)]}
theorem kwc:TI.Ok Tryz.prog TB 117 ti117:={fl:=kh ⟨by kernel_rfl,by kernel_rfl,by kernel_rfl,trivial⟩}
def ti118:TI TB.den:={ty:=some (false,1),ze:=some [.k KC.nilPtr.v],un:=some (.pointer 171)}
theorem kvc:TI.Ok Tryz.prog TB 118 ti118:={}
def ti119:TI TB.den:={ty:=some (false,1),el:=some (.st 13,104),ez:=true,ze:=some [.full (.st 13) []],un:=some (.slice 148)}
theorem kw3:TI.Ok Tryz.prog TB 119 ti119:={ez:=λ_ _ _ h=>by cases h;exact⟨[.d (.int .i64 0),.d (.int .i64 0),.full 1 [],.d (.int .i64 0),.full 1 [],.full 3 [],.d (.int .u64 0)],by kernel_rfl,⟨⟨kc _,rfl⟩,⟨kc _,rfl⟩,⟨⟨rfl,rfl⟩,rfl⟩,⟨kc _,rfl⟩,⟨⟨rfl,rfl⟩,rfl⟩,⟨⟨rfl,rfl⟩,rfl⟩,⟨kc _,rfl⟩,trivial⟩⟩}
def ti121:TI TB.den:={ty:=some (true,18),fl:=[(0,true,9),(9,true,3),(12,false,1),(13,false,1),(14,true,1),(15,false,1),(16,false,1),(17,false,1)],ze:=some [.d (.int .i64) (0:Int),.d (.int .i64) (0:Int),.d (.int .i64) (0:Int),.d (.int .i64) (0:Int),.d (.int .i64) (0:Int),.d (.int .u64) (0:Int),.d (.int .i64) (0:Int),.d (.int .i64) (0:Int),.d (.int .u64) (0:Int),.d (.int .i64) (0:Int),.d (.int .i64) (0:Int),.full (.int .u64) [],.full (.int .u64) [],.k KC.nilPtr.v,.full (.st 12) [],.d (.int .u64) (0:Int),.full (.int .u64) [],.full (.st 13) []],pl:=[(0,9),(9,3),(12,1),(13,1),(14,1),(15,1),(16,1),(17,1)]}
theorem kv2:TI.Ok Tryz.prog TB 121 ti121:={fl:=kh ⟨by kernel_rfl,by kernel_rfl,by kernel_rfl,by kernel_rfl,by kernel_rfl,by kernel_rfl,by kernel_rfl,by kernel_rfl,trivial⟩}
def ti126:TI TB.den:={ty:=some (true,2),ar:=some (2,false,1),ze:=some [.d (.int .u64) (0:Int),.d (.int .u64) (0:Int)],pl:=[(0,1),(1,1)],un:=some (.array 2 24),eq:=some [.int .u64,.int .u64]}
theorem kv9:TI.Ok Tryz.prog TB 126 ti126:={}
def ti128:TI TB.den:={ty:=some (true,4),fl:=[(0,false,1),(1,true,2),(3,false,1)],ze:=some [.d (.int .u64) (0:Int),.d (.int .u64) (0:Int),.d (.int .u64) (0:Int),.full (.int .u64) []],pl:=[(0,1),(1,2),(3,1)]}
theorem kv4:TI.Ok Tryz.prog TB 128 ti128:={fl:=kh ⟨by kernel_rfl,by kernel_rfl,by kernel_rfl,trivial⟩}
def ti134:TI TB.den:={ty:=some (false,1),ze:=some [.k KC.nilMap.v],mp:=some (.str,.int .i64),un:=some (.map 9 3)}
theorem kw0:TI.Ok Tryz.prog TB 134 ti134:={mp:=λ_ _ h=>by cases h;exact⟨3,.string,⟨9,by kernel_rfl,by kernel_rfl⟩,λ_=>rfl,zIs_mk (z0:=.d (.int .i64 0)) qqk (kc (V.d (.int .i64 0)))⟩}
def ti135:TI TB.den:={ty:=some (false,1),ze:=some [.k KC.nilMap.v],mp:=some (.str,.sl (.int .u64)),un:=some (.map 9 60)}
theorem kwm:TI.Ok Tryz.prog TB 135 ti135:={mp:=λ_ _ h=>by cases h;exact⟨60,.string,⟨9,by kernel_rfl,by kernel_rfl⟩,λ_=>rfl,zIs_mk (z0:=.k (.slice none 0 0)) qqk rfl⟩}
def ti136:TI TB.den:={ty:=some (false,1),ze:=some [.k KC.nilMap.v],mp:=some (.str,.bool),un:=some (.map 9 4)}
theorem kvw:TI.Ok Tryz.prog TB 136 ti136:={mp:=λ_ _ h=>by cases h;exact⟨4,.string,⟨9,by kernel_rfl,by kernel_rfl⟩,λ_=>rfl,zIs_mk (z0:=.d (.bool false)) qqk (kc (V.d (.bool false)))⟩}
def ti138:TI TB.den:={ty:=some (true,7),fl:=[(0,false,1),(1,false,1),(2,false,1),(3,false,1),(4,false,1),(5,false,1),(6,false,1)],ze:=some [.d .bool false,.d (.int .u64) (0:Int),.d (.int .i64) (0:Int),.full (.st 0) [],.k KC.nilMap.v,.k KC.nilMap.v,.k KC.nilMap.v],pl:=[(0,1),(1,1),(2,1),(3,1),(4,1),(5,1),(6,1)]}
theorem kvh:TI.Ok Tryz.prog TB 138 ti138:={fl:=kh ⟨by kernel_rfl,by kernel_rfl,by kernel_rfl,by kernel_rfl,by kernel_rfl,by kernel_rfl,by kernel_rfl,trivial⟩}
def ti145:TI TB.den:={ty:=some (true,10),fl:=[(0,false,1),(1,false,1),(2,false,1),(3,false,1),(4,false,1),(5,false,1),(6,false,1),(7,false,1),(8,false,1),(9,false,1)],ze:=some [.d (.int .i64) (0:Int),.d (.int .u64) (0:Int),.full (.int .u64) [],.full (.int .u64) [],.full (.int .u64) [],.d (.int .u64) (0:Int),.d (.int .u64) (0:Int),.d (.int .u64) (0:Int),.d (.int .u64) (0:Int),.d (.int .u64) (0:Int)],pl:=[(0,1),(1,1),(2,1),(3,1),(4,1),(5,1),(6,1),(7,1),(8,1),(9,1)]}
theorem kwl:TI.Ok Tryz.prog TB 145 ti145:={fl:=kh ⟨by kernel_rfl,by kernel_rfl,by kernel_rfl,by kernel_rfl,by kernel_rfl,by kernel_rfl,by kernel_rfl,by kernel_rfl,by kernel_rfl,by kernel_rfl,trivial⟩}
def ti148:TI TB.den:={ty:=some (true,7),fl:=[(0,true,3),(3,false,1),(4,false,1),(5,true,1),(6,false,1)],ze:=some [.d (.int .i64) (0:Int),.d (.int .i64) (0:Int),.full (.int .u64) [],.d (.int .i64) (0:Int),.full (.int .u64) [],.full (.st 12) [],.d (.int .u64) (0:Int)],pl:=[(0,3),(3,1),(4,1),(5,1),(6,1)]}
theorem kv1:TI.Ok Tryz.prog TB 148 ti148:={fl:=kh ⟨by kernel_rfl,by kernel_rfl,by kernel_rfl,by kernel_rfl,by kernel_rfl,trivial⟩}
def ti169:TI TB.den:={ty:=some (false,1),ze:=some [.k KC.nilMap.v],mp:=some (.int .u64,.bool),un:=some (.map 24 4)}
theorem kut:TI.Ok Tryz.prog TB 169 ti169:={mp:=λ_ _ h=>by cases h;exact⟨4,.int .u64,⟨24,by kernel_rfl,by kernel_rfl⟩,λ_=>rfl,zIs_mk (z0:=.d (.bool false)) qqk (kc (V.d (.bool false)))⟩}
def ti171:TI TB.den:={ty:=some (true,1),fl:=[(0,false,1)],ze:=some [.k KC.nilMap.v],pl:=[(0,1)]}
theorem kvx:TI.Ok Tryz.prog TB 171 ti171:={fl:=kh ⟨by kernel_rfl,trivial⟩}
def ti191:TI TB.den:={ty:=some (false,1),el:=some (.st 17,88),ez:=true,ze:=some [.full (.st 17) []],un:=some (.slice 254)}
theorem kuk:TI.Ok Tryz.prog TB 191 ti191:={ez:=λ_ _ _ h=>by cases h;exact⟨[.d (.int .u64 0),.d (.int .u64 0),.d (.int .u64 0),.d (.int .u64 0),.d (.int .u64 0),.d (.int .i64 0),.d (.int .i64 0),.full 1 [],.d (.bool false)],by kernel_rfl,⟨⟨kc _,rfl⟩,⟨kc _,rfl⟩,⟨kc _,rfl⟩,⟨kc _,rfl⟩,⟨kc _,rfl⟩,⟨kc _,rfl⟩,⟨kc _,rfl⟩,⟨⟨rfl,rfl⟩,rfl⟩,⟨kc _,rfl⟩,trivial⟩⟩}
def ti192:TI TB.den:={ty:=some (false,1),el:=some (.st 18,32),ez:=true,ze:=some [.full (.st 18) []],un:=some (.slice 249)}
theorem kwn:TI.Ok Tryz.prog TB 192 ti192:={ez:=λ_ _ _ h=>by cases h;exact⟨[.d (.int .u64 0),.d (.int .u64 0),.d (.int .u64 0),.d (.int .u64 0)],by kernel_rfl,⟨⟨kc _,rfl⟩,⟨kc _,rfl⟩,⟨kc _,rfl⟩,⟨kc _,rfl⟩,trivial⟩⟩}
def ti194:TI TB.den:={ty:=some (true,3),fl:=[(0,false,1),(1,false,1),(2,false,1)],ze:=some [.full (.st 17) [],.full (.st 18) [],.d (.int .u64) (0:Int)],pl:=[(0,1),(1,1),(2,1)]}
theorem kux:TI.Ok Tryz.prog TB 194 ti194:={fl:=kh ⟨by kernel_rfl,by kernel_rfl,by kernel_rfl,trivial⟩}
def ti216:TI TB.den:={ty:=some (false,1),ze:=some [.d (.int .u64) (0:Int)],un:=some (.int .u64)}
theorem kvs:TI.Ok Tryz.prog TB 216 ti216:={}
def ti219:TI TB.den:={ty:=some (true,3),ar:=some (3,false,1),ze:=some [.d (.int .u64) (0:Int),.d (.int .u64) (0:Int),.d (.int .u64) (0:Int)],pl:=[(0,1),(1,1),(2,1)],un:=some (.array 3 24),eq:=some [.int .u64,.int .u64,.int .u64]}
theorem kvq:TI.Ok Tryz.prog TB 219 ti219:={}
def ti249:TI TB.den:={ty:=some (true,4),fl:=[(0,false,1),(1,false,1),(2,false,1),(3,false,1)],ze:=some [.d (.int .u64) (0:Int),.d (.int .u64) (0:Int),.d (.int .u64) (0:Int),.d (.int .u64) (0:Int)],pl:=[(0,1),(1,1),(2,1),(3,1)],eq:=some [.int .u64,.int .u64,.int .u64,.int .u64]}
theorem kvi:TI.Ok Tryz.prog TB 249 ti249:={fl:=kh ⟨by kernel_rfl,by kernel_rfl,by kernel_rfl,by kernel_rfl,trivial⟩}
def ti254:TI TB.den:={ty:=some (true,9),fl:=[(0,true,4),(4,false,1),(5,false,1),(6,false,1),(7,false,1),(8,false,1)],ze:=some [.d (.int .u64) (0:Int),.d (.int .u64) (0:Int),.d (.int .u64) (0:Int),.d (.int .u64) (0:Int),.d (.int .u64) (0:Int),.d (.int .i64) (0:Int),.d (.int .i64) (0:Int),.full (.int .u64) [],.d .bool false],pl:=[(0,4),(4,1),(5,1),(6,1),(7,1),(8,1)]}
theorem kuo:TI.Ok Tryz.prog TB 254 ti254:={fl:=kh ⟨by kernel_rfl,by kernel_rfl,by kernel_rfl,by kernel_rfl,by kernel_rfl,by kernel_rfl,trivial⟩}
def ti272:TI TB.den:={ty:=some (true,2),fl:=[(0,false,1),(1,false,1)],ze:=some [.full (.int .u8) [],.d .bool false],pl:=[(0,1),(1,1)]}
theorem kvm:TI.Ok Tryz.prog TB 272 ti272:={fl:=kh ⟨by kernel_rfl,by kernel_rfl,trivial⟩}
def ti287:TI TB.den:={ty:=some (true,1),fl:=[(0,false,1)],ze:=some [.d (.int .u64) (0:Int)],pl:=[(0,1)],eq:=some [.int .u64]}
theorem kvg:TI.Ok Tryz.prog TB 287 ti287:={fl:=kh ⟨by kernel_rfl,trivial⟩}
def ti353:TI TB.den:={ty:=some (true,3),fl:=[(0,false,1),(1,false,1),(2,false,1)],ze:=some [.full (.int .u8) [],.d (.int .i64) (0:Int),.d .bool false],pl:=[(0,1),(1,1),(2,1)]}
theorem kwa:TI.Ok Tryz.prog TB 353 ti353:={fl:=kh ⟨by kernel_rfl,by kernel_rfl,by kernel_rfl,trivial⟩}
def ti463:TI TB.den:={ty:=some (true,3),fl:=[(0,false,1),(1,false,1),(2,false,1)],ze:=some [.d (.int .u64) (0:Int),.full (.int .u64) [],.d (.int .u64) (0:Int)],pl:=[(0,1),(1,1),(2,1)]}
theorem kwt:TI.Ok Tryz.prog TB 463 ti463:={fl:=kh ⟨by kernel_rfl,by kernel_rfl,by kernel_rfl,trivial⟩}
def ti468:TI TB.den:={ty:=some (false,1),ze:=some [.d (.int .u64) (0:Int)],un:=some (.int .u64)}
theorem kwp:TI.Ok Tryz.prog TB 468 ti468:={}
def inf:BT (TI TB.den):=.nd (.nd (.nd (.nd (.nd (.nd .lf 3 ti3 .lf) 4 ti4 (.nd .lf 5 ti5 .lf)) 9 ti9 (.nd (.nd .lf 23 ti23 .lf) 24 ti24 (.nd .lf 26 ti26 .lf))) 27 ti27 (.nd (.nd (.nd .lf 28 ti28 .lf) 34 ti34 (.nd .lf 37 ti37 .lf)) 39 ti39 (.nd (.nd .lf 41 ti41 .lf) 44 ti44 .lf))) 47 ti47 (.nd (.nd (.nd (.nd .lf 49 ti49 .lf) 50 ti50 (.nd .lf 52 ti52 .lf)) 57 ti57 (.nd (.nd .lf 60 ti60 .lf) 61 ti61 (.nd .lf 63 ti63 .lf))) 71 ti71 (.nd (.nd (.nd .lf 73 ti73 .lf) 76 ti76 (.nd .lf 84 ti84 .lf)) 86 ti86 (.nd (.nd .lf 89 ti89 .lf) 92 ti92 .lf)))) 94 ti94 (.nd (.nd (.nd (.nd (.nd .lf 101 ti101 .lf) 103 ti103 (.nd .lf 111 ti111 .lf)) 117 ti117 (.nd (.nd .lf 118 ti118 .lf) 119 ti119 (.nd .lf 121 ti121 .lf))) 126 ti126 (.nd (.nd (.nd .lf 128 ti128 .lf) 134 ti134 (.nd .lf 135 ti135 .lf)) 136 ti136 (.nd (.nd .lf 138 ti138 .lf) 145 ti145 .lf))) 148 ti148 (.nd (.nd (.nd (.nd .lf 169 ti169 .lf) 171 ti171 (.nd .lf 191 ti191 .lf)) 192 ti192 (.nd (.nd .lf 194 ti194 .lf) 216 ti216 (.nd .lf 219 ti219 .lf))) 249 ti249 (.nd (.nd (.nd .lf 254 ti254 .lf) 272 ti272 (.nd .lf 287 ti287 .lf)) 353 ti353 (.nd (.nd .lf 463 ti463 .lf) 468 ti468 .lf))))
theorem inf_ok:InfoOk Tryz.prog TB inf:=find_nd ti94_ok (find_nd ti47_ok (find_nd ti27_ok (find_nd ti9_ok (find_nd ti4_ok (find_nd ti3_ok kf kf) (find_nd ti5_ok kf kf)) (find_nd ti24_ok (find_nd ti23_ok kf kf) (find_nd ti26_ok kf kf))) (find_nd ti39_ok (find_nd ti34_ok (find_nd ti28_ok kf kf) (find_nd ti37_ok kf kf)) (find_nd ti44_ok (find_nd ti41_ok kf kf) kf))) (find_nd ti71_ok (find_nd ti57_ok (find_nd ti50_ok (find_nd ti49_ok kf kf) (find_nd ti52_ok kf kf)) (find_nd ti61_ok (find_nd ti60_ok kf kf) (find_nd ti63_ok kf kf))) (find_nd ti86_ok (find_nd ti76_ok (find_nd ti73_ok kf kf) (find_nd ti84_ok kf kf)) (find_nd ti92_ok (find_nd ti89_ok kf kf) kf)))) (find_nd kv1 (find_nd kv9 (find_nd kwc (find_nd kwv (find_nd kui kf kf) (find_nd kwz kf kf)) (find_nd kw3 (find_nd kvc kf kf) (find_nd kv2 kf kf))) (find_nd kvw (find_nd kw0 (find_nd kv4 kf kf) (find_nd kwm kf kf)) (find_nd kwl (find_nd kvh kf kf) kf))) (find_nd kvi (find_nd kwn (find_nd kvx (find_nd kut kf kf) (find_nd kuk kf kf)) (find_nd kvs (find_nd kux kf kf) (find_nd kvq kf kf))) (find_nd kwa (find_nd kvm (find_nd kuo kf kf) (find_nd kvg kf kf)) (find_nd kwp (find_nd kwt kf kf) kf))))
theorem mix:Tryz.prog.follows .mixedOrders=true:=by kernel_rfl
theorem Bs:Base Tryz.prog TB inf:=⟨TBok,inf_ok,mix⟩
def x419:XCon TB.den:=⟨419,[.int .u64,.int .u64,.int .u64],[.int .u64,.int .u64],λx=>(λ(B F a2:Int)=>0<=B/\0<=F/\0<=a2/\a2<=1) x.1 x.2.1 x.2.2.1,λx=>((λ(B F a2:Int)=>(B+F+a2)%18446744073709551616) x.1 x.2.1 x.2.2.1,(λ(B F a2:Int)=>(B+F+a2)/18446744073709551616) x.1 x.2.1 x.2.2.1,())⟩
theorem x419_ok:x419.Ok Tryz.prog TB:=⟨rfl,λx h=>kox Tryz.func419 qqk qqk qqk qqk x.1 x.2.1 x.2.2.1 h.1 h.2.1 h.2.2.1 h.2.2.2⟩
abbrev yqi:Ty:=.int .i64
abbrev yqu:Ty:=.int .u64
abbrev yqb:Ty:=.int .u8
abbrev zqi:Sh1:=.d yqi
abbrev zqu:Sh1:=.d yqu
abbrev zqb:Sh1:=.d yqb
abbrev zql:Sh1:=.d (.sl yqu)
abbrev oa:Sh0:=.one zqi
abbrev ou:Sh0:=.one zqu
abbrev oc:Sh0:=.one (.d .bool)
abbrev oe:Sh0:=.one zql
abbrev og:Sh0:=.one (.own 0)
abbrev oh:Sh0:=.one (.row 0)
abbrev om:Sh0:=.one (.view 0)
abbrev oo:Sh0:=.one (.ptr 0 0)
abbrev oq:Ty:=.sl yqu
abbrev ow:Ty:=.sl .bool
abbrev oz:Ty:=.sl .str
abbrev oA:Ty:=.sl yqb
abbrev oB (a:Ln) (b:List Sh0):Dl:=⟨[],[],a,b,[]⟩
abbrev oC (n:Nat):Nt:=.jn ⟨[],[],[n],[oc],[]⟩ [] .no [] .no
abbrev nA (x:Nt):Nt:=.nd [] x [] .no
abbrev rA (k:Nat) (x:Nt):Nt:=.r k (.nd [] x [] .no)
abbrev lA (d:Dl) (x:Nt):Nt:=.r 0 (.lp [] d x)
abbrev oD:=Int->Prop
abbrev oE:=Bool->Prop
abbrev oF:=Int->Int->Prop
abbrev oG:=Int->Nat
abbrev oH:=Int->Li->Prop
abbrev oI:=Int->Int->Nat
abbrev oJ:=Int->Li->Nat
abbrev oK:=Int->Int->Li->Prop
abbrev oL:=Int->Int->Int->Prop
abbrev oM:=Int->Int->Int->Int->Prop
abbrev oN:=Int->Int->Int->Int->Nat
abbrev oO:=Int->Int->Li->Nat
abbrev oP:=Int->Int->Int->Nat
abbrev oQ:=Bool->Li->Int->Bool->Prop
abbrev oR:=Li->Prop
abbrev yT1:List Ty:=[.st 10,yqu,yqu]
abbrev yS1:List Ty:=[yqi,yqi,.sl yqu]
abbrev yR1:List Ty:=[.sl yqb,.sl yqu]
abbrev yQ1:List Ty:=[yqu,yqu,.sl yqu]
abbrev yP1:List OSh:=[.map yqu .bool]
abbrev yO1:List Ty:=[yqi,.sl yqb,.bool]
abbrev yN1:List Ty:=[.sl yqb,yqi,.bool]
abbrev yM1:List Ty:=[yqi,yqi,yqi,.sl yqu]
abbrev yL1:List OSh:=[.cells [zqu,zqu,zqu]]
abbrev yK1:List OSh:=[.vec yqu,.cells [zqi]]
abbrev yJ1:List Ty:=[yqi,.sl yqb,yqi,.bool]
abbrev yI1:List OSh:=[.cells [.mp 1],.map yqu .bool]
abbrev yH1:List OSh:=[.cells [.d (.sl yqb),.d .bool]]
abbrev yG1:List Sh1:=[zqi,zqi,zqi,zqi,zqi,zqu,zqi,zqi,zqu]
abbrev yF1:List OSh:=[.cells [.d (.sl yqb),zqi,.d .bool]]
abbrev yE1:List Sh1:=[zqu,zqi,zqu,zqu,zqu,.d (.sl (.st 3))]
abbrev yD1:List Sh1:=[zqi,zqu,zql,zql,zql,zqu,zqu,zqu,zqu,zqu]
abbrev yC1:List Sh1:=[zqu,zql,.d (.sl (.st 2)),zqu,zqu,zqu,zqu,zqu,zqi,.d (.sl yqb)]
abbrev yB1:List OSh:=[.cells [.own 2,.full (.st 18),zqu],.cells [.d (.sl yqb),.d .bool],.tip (.st 17)]
abbrev yA1:List OSh:=[.cells [zqi,zqi,zqi,zqi,zqi,zqu,zqi,zqi,zqu,zqi,zql,zql,.d (.sl (.st 12)),zqu,zql]]
abbrev yZ:List OSh:=[.cells [.own 2,.own 3,zqu],.cells [.d (.sl yqb),.d .bool],.tip (.st 17),.tip (.st 18)]
abbrev yY:List OSh:=[.cells [.own 2,.own 3,zqu],.cells [.d (.sl yqb),zqi,.d .bool],.tip (.st 17),.tip (.st 18)]
abbrev yX:List Ty:=[.bool,yqu,yqi,.sl (.st 0),.sl .str,.sl yqi,.sl .str,.sl (.sl yqu),.sl .str,.sl .bool]
abbrev yW:List OSh:=[.cells [zqi,zqi,zqi,zqi,zqi,zqu,zqi,zqi,zqu,zqi,.own 1,zql,.d (.sl (.st 12)),zqu,zql],.tip yqu]
abbrev yV:List Ty:=[yqi,.bool,yqu,yqi,.sl (.st 0),.sl .str,.sl yqi,.sl .str,.sl (.sl yqu),.sl .str,.sl .bool]
abbrev yU:List Ty:=[.st 6,.bool,yqu,yqi,.sl (.st 0),.sl .str,.sl yqi,.sl .str,.sl (.sl yqu),.sl .str,.sl .bool]
abbrev yT:List Ty:=[.bool,.bool,yqu,yqi,.sl (.st 0),.sl .str,.sl yqi,.sl .str,.sl (.sl yqu),.sl .str,.sl .bool]
abbrev yS:List Sh1:=[zqi,zqi,zqi,zqi,zqi,zqu,zqi,zqi,zqu,zqi,zqi,zql,.row 7,.ptr 8 0,.d (.sl (.st 12)),zqu,.row 9,.row 10]
abbrev yR:List Ty:=[yqu,.bool,.bool,yqu,yqi,.sl (.st 0),.sl .str,.sl yqi,.sl .str,.sl (.sl yqu),.sl .str,.sl .bool]
abbrev yQ:List Ty:=[yqi,yqi,yqi,yqi,yqi,yqu,yqi,yqi,yqu,yqi,yqi,.sl yqu,.sl (.st 12),yqu,.sl yqu,.sl yqu,.sl (.st 13),.sl yqu,.sl .bool]
abbrev yP:List OSh:=[.map .str .bool,.map .str (.sl yqu),.map .str yqi,.cells [.d .bool,zqu,zqi,.d (.sl (.st 0)),.mp 2,.mp 1,.mp 0]]
abbrev yO:List OSh:=[.cells [.d .bool,zqu,zqi,.d (.sl (.st 0)),.mp 1,.mp 2,.mp 3],.map .str yqi,.map .str (.sl yqu),.map .str .bool]
abbrev yN:List Ty:=[yqi,yqi,yqi,yqi,yqi,yqi,yqu,yqi,yqi,yqu,yqi,yqi,.sl yqu,.sl (.st 12),yqu,.sl yqu,.sl yqu,.sl (.st 13),.sl yqu,.sl .bool]
abbrev yM:List OSh:=[.cells [.d .bool,zqu,zqi,.d (.sl (.st 0)),.d (.sl (.st 1)),.d (.sl (.st 1)),zqi,zqi,zqi,zqi,zqi,zqu,zqi,zqi,zqu,.d (.sl (.st 4)),zqi,zqi]]
abbrev yL:List Ty:=[yqi,yqi,yqi,yqi,yqi,yqi,yqu,yqi,yqi,yqu,yqi,yqi,.sl yqu,.sl (.st 12),yqu,yqi,yqi,.sl yqu,yqi,.sl (.st 12),yqu,.sl yqu,.sl (.st 13),.sl yqu,.sl yqu,.sl .bool,.sl yqu]
abbrev yK:List OSh:=[.map yqu .bool,.cells [.mp 0],.cells [zqi,zqi,zqi,zqi,zqi,zqu,zqi,zqi,zqu,zqi,zqi,zql,.row 3,.ptr 1 0,.d (.sl (.st 12)),zqu,.row 4,.row 5],.vec yqu,.vec yqu,.vec (.st 13)]
abbrev yJ:List OSh:=[.cells [zqi,zqi,zqi,zqi,zqi,zqu,zqi,zqi,zqu,zqi,zqi,zql,.row 1,.ptr 2 0,.d (.sl (.st 12)),zqu,.row 3,.row 4],.vec yqu,.cells [.mp 5],.vec yqu,.vec (.st 13),.map yqu .bool]
abbrev yI:List OSh:=[.cells [zqi,zqi,zqi,zqi,zqi,zqu,zqi,zqi,zqu,zqi,zqi,zql,.row 6,.ptr 2 0,.d (.sl (.st 12)),zqu,.row 7,.row 8],.dead,.cells [.mp 5],.dead,.dead,.map yqu .bool,.vec yqu,.vec yqu,.vec (.st 13)]
abbrev yH:List Ty:=[yqu,yqi,.sl (.st 0),yqi,yqi,yqi,yqi,yqi,yqu,yqi,yqi,yqu,yqi,yqi,.sl yqu,.sl (.st 12),yqu,.sl yqu,.sl (.st 14),.sl .str,.sl yqi,.sl .str,.sl (.sl yqu),.sl .str,.sl .bool,.sl yqu,.sl .bool,.sl yqu,.sl yqu,.sl (.st 13)]
abbrev yG:List Ty:=[yqu,yqi,.sl (.st 0),yqi,yqi,yqi,yqi,yqi,yqu,yqi,yqi,yqu,yqi,yqi,.sl yqu,.sl (.st 12),yqu,.sl yqu,.sl (.st 14),.sl .str,.sl yqi,.sl .str,.sl (.sl yqu),.sl .str,.sl .bool,.sl yqu,.sl yqu,.sl (.st 13),.sl yqu,.sl .bool]
abbrev yF:List Ty:=[yqi,.sl (.st 0),yqi,yqi,yqi,yqi,yqi,yqu,yqi,yqi,yqu,yqi,yqi,.sl yqu,.sl (.st 12),yqu,.sl yqu,.sl (.st 14),.sl yqu,.sl .str,.sl yqi,.sl .str,.sl (.sl yqu),.sl .str,.sl .bool,.sl yqu,.sl yqu,.sl (.st 13),.sl yqu,.sl .bool]
abbrev yE:List OSh:=[.cells [zqi,zqi,zqi,zqi,zqi,zqu,zqi,zqi,zqu,zqi,zqi,zql,.row 2,.ptr 3 0,.d (.sl (.st 12)),zqu,.row 4,.row 5],.cells [zqi,zqi,zql,zqi,.own 6,.d (.sl (.st 12)),zqu],.vec yqu,.cells [.mp 7],.vec yqu,.vec (.st 13),.tip yqu,.map yqu .bool]
abbrev yD:List OSh:=[.cells [zqi,zqi,zqi,zqi,zqi,zqu,zqi,zqi,zqu,zqi,zqi,zql,.row 8,.ptr 3 0,.d (.sl (.st 12)),zqu,.row 4,.row 5],.cells [zqi,zqi,zql,zqi,.own 6,.d (.sl (.st 12)),zqu],.dead,.cells [.mp 7],.vec yqu,.vec (.st 13),.tip yqu,.map yqu .bool,.vec yqu]
abbrev yC:List OSh:=[.cells [.ptr 1 0,zqi,zqi,zqi,zqi,zqi,zqu,zqi,zqi,zqu,.mp 2,zql,.ptr 3 0,zqu,zqi],.cells [.d .bool,zqu,zqi,.d (.sl (.st 0)),.mp 4,.mp 5,.mp 6],.map yqu (.st 14),.cells yS,.map .str yqi,.map .str (.sl yqu),.map .str .bool,.vec yqu,.cells [.mp 11],.vec yqu,.vec (.st 13),.map yqu .bool]
abbrev yB:List OSh:=[.cells [.ptr 1 0,zqi,zqi,zqi,zqi,zqi,zqu,zqi,zqi,zqu,.mp 2,zql,.ptr 3 0,zqu,zqi],.cells [.d .bool,zqu,zqi,.d (.sl (.st 0)),.mp 4,.mp 5,.mp 6],.map yqu (.st 14),.cells [zqi,zqi,zqi,zqi,zqi,zqu,zqi,zqi,zqu,zqi,zqi,zql,.row 12,.ptr 8 0,.d (.sl (.st 12)),zqu,.row 13,.row 14],.map .str yqi,.map .str (.sl yqu),.map .str .bool,.dead,.cells [.mp 11],.dead,.dead,.map yqu .bool,.vec yqu,.vec yqu,.vec (.st 13)]
abbrev yA:List OSh:=[.cells [.ptr 2 0,zqi,zqi,zqi,zqi,zqi,zqu,zqi,zqi,zqu,.mp 3,zql,.ptr 4 0,zqu,zqi],.cells [.ptr 5 0,zqi,zqi,zqi,zqi,zqi,zqu,zqi,zqi,zqu,.mp 6,zql,.ptr 7 0,zqu,zqi],.cells [.d .bool,zqu,zqi,.d (.sl (.st 0)),.mp 8,.mp 9,.mp 10],.map yqu (.st 14),.cells [zqi,zqi,zqi,zqi,zqi,zqu,zqi,zqi,zqu,zqi,zqi,zql,.row 18,.ptr 11 0,.d (.sl (.st 12)),zqu,.row 19,.row 20],.cells [.d .bool,zqu,zqi,.d (.sl (.st 0)),.mp 12,.mp 13,.mp 14],.map yqu (.st 14),.cells [zqi,zqi,zqi,zqi,zqi,zqu,zqi,zqi,zqu,zqi,zqi,zql,.row 21,.ptr 15 0,.d (.sl (.st 12)),zqu,.row 22,.row 23],.map .str yqi,.map .str (.sl yqu),.map .str .bool,.cells [.mp 16],.map .str yqi,.map .str (.sl yqu),.map .str .bool,.cells [.mp 17],.map yqu .bool,.map yqu .bool,.vec yqu,.vec yqu,.vec (.st 13),.vec yqu,.vec yqu,.vec (.st 13)]
end Go.Proofs.YtfiecdeonopcmaaGreatDoor
namespace Go.Bv
open Go.RowKit Go.Deep
def limOf(w:World)(b:Nat):Nat:=match w.heap[b]? with
 |some (.cells c _ _)=>c.size|_=>0
theorem ksa{w:World}{b o:Nat}{v:Value}(h:w.cell? ⟨b,o,none⟩=some v):o<limOf w b:=by unfold World.cell? at h;unfold limOf;grind
def isAggT(P:Program)(e:TypeId):Bool:=match P.underlying e with
 |some (.struct _)=>true|some (.array _ _)=>true|_=>false
def mkD(P:Program)(e:TypeId)(cs:List D):D:=if isAggT P e then .agg cs else cs.headD (.bool false)
def tiles(P:Program)(tot:Nat):List (TypeId×Nat)->Nat->Bool
 |[],o=>o==tot|p::r,o=>p.2==o&&tiles P tot r (o+P.cellsOf p.1)
def fsOf(B:Array Field):List (TypeId×Nat):=B.toList.map λf=>(f.type,f.offset)
def arOf(P:Program)(n:Nat)(e:TypeId):List (TypeId×Nat):=(List.range n).map λi=>(e,i*P.cellsOf e)
def dataT(P:Program):Nat->TypeId->Bool
 |0,_=>false|k+1,t=>match P.underlying t with
  |some .bool=>true|some (.int _)=>true|some .string=>true|some (.slice e)=>decide (0<P.cellsOf e)&&dataT P k e|some (.struct B)=>tiles P (P.cellsOf t) (fsOf B) 0&&(fsOf B).all λp=>dataT P k p.1|some (.array n e)=>tiles P (P.cellsOf t) (arOf P n e) 0&&dataT P k e|_=>false
def RelFs{H:Type}(R:TypeId->List D->DataW H->Prop):List (TypeId×Nat)->List D->List (DataW H)->Prop
 |[],B,ps=>B=[]/\ps=[]|t::ts,B,ps=>∃d1 d2 p qs,R t.1 d1 p/\RelFs R ts d2 qs/\B=d1++d2/\ps=p::qs
def Rel{H:Type}(P:Program):Nat->TypeId->List D->DataW H->Prop
 |0,_,_,_=>False|k+1,t,B,d=>match P.underlying t with
  |some .bool=>∃b,B=[.bool b]/\d=.lit (.bool b)|some (.int q)=>∃i,B=[.int q i]/\d=.lit (.int q i)/\(Lit.int q i).wf=true|some .string=>∃s,B=[.str s]/\d=.lit (.string s.data.toList)|some (.slice e)=>∃l,B=[.slice (P.cellsOf e) (l.map (mkD P e))]/\l.length<=maxLen/\(l=[]/\d=.nil∨∃elems spare,d=.slice elems spare/\l.length=elems.length/\∀(j:Nat)x y,l[j]?=some x->elems[j]?=some y->Rel P k e x y)|some (.struct F)=>∃ps,d=.agg ps/\RelFs (Rel P k) (fsOf F) B ps|some (.array n e)=>∃ps,d=.agg ps/\RelFs (Rel P k) (arOf P n e) B ps|_=>False
def Holds(w:World)(cs:List Value)(B:List D):Prop:=B.length=cs.length/\∀(j:Nat)v c,cs[j]?=some v->B[j]?=some c->RepD (limOf w) w v c
theorem Holds.append{w:World}{a b:List Value}{x y:List D}(h1:Holds w a x)(M:Holds w b y):Holds w (a++b) (x++y):=by
 refine⟨by simp[h1.1,M.1],λj v c B F=>?_⟩;by_cases J:j<a.length;.rw[qay J]at B;rw[qay (by rw[h1.1];exact J)]at F;exact h1.2 j v c B F
 .rw[qbw qqo]at B;rw[qbw (by rw[h1.1];omega),h1.1]at F;exact M.2 _ v c B F
theorem Holds.one{w:World}{v:Value}{d:D}(h:RepD (limOf w) w v d):Holds w [v] [d]:=by refine⟨rfl,λj u c B F=>?_⟩;grind
section
variable{H:Type}{P:Program}{w:World}{cs:List Value}
theorem kbj{tot:Nat}(F:cs.length=tot)(ok:Value->Prop)(Y:∀v∈cs,ok v)(R:TypeId->List D->DataW H->Prop)(g:TypeId->List Value->Option (DataW H×List MemPlace)):∀L o(xs:List (DataW H×List MemPlace)),tiles P tot L o=true->xs.length=L.length->(∀p∈L,∀cs' y,(∀v∈cs',ok v)->g p.1 cs'=some y->∃ds,Holds w cs' ds/\R p.1 ds y.1)->(∀(i:Nat)p,L[i]?=some p->g p.1 ((cs.drop p.2).take (P.cellsOf p.1))=xs[i]?)->∃ds,Holds w (cs.drop o) ds/\RelFs R L ds (xs.map (·.1))
 |[],o,xs,B,hl,_,_=>by
  simp[tiles]at B;have:xs=[]:=by grind
  subst this;refine⟨[],⟨?_,?_⟩,rfl,rfl⟩;.simp;omega
  grind|p::L,o,xs,B,hl,hg,hx=>by simp[tiles]at B;obtain⟨h0,B⟩:=B;cases xs with
  |nil=>simp at hl|cons y ys=>have h1:=hx 0 p rfl;simp only[qds]at h1;obtain⟨Z,J,M⟩:=hg p qqs _ y (by grind) h1;obtain⟨d2,U,X⟩:=kbj F ok Y R g L (o+P.cellsOf p.1) ys B (by grind) (λq hq=>hg q (by simp[hq])) (λi q hq=>by simpa using hx (i+1) q (by grind));refine⟨Z++d2,?_,Z,d2,y.1,_,M,X,rfl,rfl⟩;have:=J.append U;grind[List.drop_drop,List.take_append_drop]
end
section
variable{H:Type}{enc:TypeId×Value->H}{P:Program}{w:World}
theorem rel_mk{k:Nat}{e:TypeId}{x:List D}{d:DataW H}(B:Rel P k e x d)(h1:∀c∈x,c.one=true):(mkD P e x).cells=x:=by cases k with
 |zero=>exact B.elim|succ k=>
  unfold mkD;split;.rfl
  .rename_i F;unfold Rel at B;split at B;.obtain⟨b,rfl,_⟩:=B;rfl
   .obtain⟨b,rfl,_⟩:=B;rfl
   .obtain⟨b,rfl,_⟩:=B;rfl
   .obtain⟨b,rfl,_⟩:=B;rfl
   .rename_i h;exact absurd (by simp[isAggT,h]) F
   .rename_i h;exact absurd (by simp[isAggT,h]) F
   grind
theorem k5n:∀k t,dataT P k t=true->∀n cs y,DataW.trod enc P w 0 (λ_=>true) true n t cs=some y->∃Z,Holds w cs Z/\Rel P k t Z y.1
 |0,_,h=>by cases h|k+1,t,M=>by
  intro n cs y h;unfold dataT at M;split at M;.rename_i B;obtain⟨b,rfl,rfl⟩:=DataW.trod_bool B h;exact⟨[.bool b],Holds.one (.bool b),by simp[Rel,B]⟩
  .rename_i q B;obtain⟨i,rfl,rfl,hw⟩:=DataW.trod_int B h;exact⟨[.int q i],Holds.one (.int q i),by simp[Rel,B,hw]⟩
  .rename_i B;obtain⟨s,rfl,rfl,hs⟩:=DataW.trod_string B h;exact⟨[.str s],Holds.one (.str s),by simp only[Rel,B];grind⟩
  .rename_i e B;simp only[qh,qy]at M;obtain⟨J,M⟩:=M;rcases open_slice B h with⟨rfl,rfl⟩|⟨a,len,cap,m,n',Dd,Pl,rfl,_,ao,ai,hm,rfl,ab⟩;.exact⟨[.slice (P.cellsOf e) []],Holds.one (.nil none _),by simp only[Rel,B];grind⟩
   .simp only[qcj]at hm;subst hm;by_cases aj:m=0
    .subst aj;have ak:len=0:=by omega
     subst ak;refine⟨[.slice (P.cellsOf e) []],Holds.one (.nil (some a) _),?_⟩;simp only[Rel,B];simp_all
    have ac:∀i,i<len->∃x,∃cs',w.cells? 0 (a.add (i*P.cellsOf e)) (P.cellsOf e)=some cs'/\Holds w cs' x/\Rel P k e x (Dd i):=by intro i hi;obtain⟨cs',h1,U⟩:=ab i qqo;obtain⟨Z,X,h4⟩:=k5n k e M n' cs' _ U;exact⟨Z,cs',h1,X,h4⟩
    obtain⟨f,hf⟩:=choose_lt ac;have Y:a.spot=none:=by
     obtain⟨cs',h1,U⟩:=ab 0 qqo;have X:=(World.cells?_some h1).2.2 0 qqo;have h4:=(World.cells?_some h1).2.1;rw[qf qqo]at X;unfold World.cell? at X;split at X
     .split at X;.cases X
      .rename_i hs;simpa[Addr.add]using hs
     .cases X
    obtain⟨b,off,sp⟩:=a;simp only at Y;subst Y;have ad:∀i,i<len->∀c∈f i,c.one=true:=by
     intro i hi c hc;obtain⟨cs',h1,U,X⟩:=hf i hi;obtain⟨j,hj⟩:=qcl hc;have al:j<cs'.length:=by rw[<-U.1];grind
     exact(U.2 j _ c (qf al) hj).done
    have ae:∀i,i<len->(mkD P e (f i)).cells=f i:=λi hi=>by grind[rel_mk]
    have hsz:∀d∈((List.range len).map f).map (mkD P e),d.cells.length=P.cellsOf e/\∀c∈d.cells,c.one=true:=by intro d hd;simp only[qbr,qap,List.mem_range,Function.comp]at hd;obtain⟨i,hi,rfl⟩:=hd;obtain⟨cs',h1,U,X⟩:=hf i hi;rw[ae i hi];exact⟨by rw[U.1];exact(World.cells?_some h1).2.1,ad i hi⟩
    have ag:∀i,i<len->(((List.range len).map f).map (mkD P e))[i]?=some (mkD P e (f i)):=by grind
    have am:=kp hsz;simp only[qp,List.length_range]at am;have ah:∀(j:Nat)(u:Value),((List.range (len*P.cellsOf e)).map λj=>(w.cell? ⟨b,off+j,none⟩).getD undef)[j]?=some u->j<len*P.cellsOf e/\w.cell? ⟨b,off+j,none⟩=some u:=by
     intro j u B;have hj:j<len*P.cellsOf e:=by grind
     refine⟨hj,?_⟩;simp only[qr,List.getElem?_range hj,qbn,qaq]at B;have hi:j/P.cellsOf e<len:=by rw[qff J];exact hj
     have hr:j%P.cellsOf e<P.cellsOf e:=Nat.mod_lt _ J;obtain⟨cs',h1,U,X⟩:=hf _ hi;have e1:j/P.cellsOf e*P.cellsOf e+j%P.cellsOf e=j:=by rw[qeh];exact Nat.div_add_mod j _
     have h4:=(World.cells?_some h1).2.2 _ hr;have h5:=(World.cells?_some h1).2.1;have e2:(Addr.add ⟨b,off,none⟩ (j/P.cellsOf e*P.cellsOf e)).add (j%P.cellsOf e)=⟨b,off+j,none⟩:=by rw[add_add,e1];simp[Addr.add]
     grind
    refine⟨[.slice (P.cellsOf e) (((List.range len).map f).map (mkD P e))],Holds.one ?_,?_⟩
    .have:=RepD.slice (m:=limOf w) (w:=w) b off m (P.cellsOf e) (((List.range len).map f).map (mkD P e)) ((List.range (len*P.cellsOf e)).map λj=>(w.cell? ⟨b,off+j,none⟩).getD undef) (by grind) ai hsz (by grind) ?_ ?_;.grind
     .intro j u B;obtain⟨hj,F⟩:=ah j u B;exact⟨ksa F,F⟩
     .intro j u c B hc;obtain⟨hj,F⟩:=ah j u B;have hi:j/P.cellsOf e<len:=by rw[qff J];exact hj
      have hr:j%P.cellsOf e<P.cellsOf e:=Nat.mod_lt _ J;obtain⟨cs',h1,U,X⟩:=hf _ hi;have e1:j/P.cellsOf e*P.cellsOf e+j%P.cellsOf e=j:=by rw[qeh];exact Nat.div_add_mod j _
      rw[<-e1,k89 hsz (ag _ hi) _ hr,ae _ hi]at hc;refine U.2 _ u c ?_ hc;rw[<-(World.cells?_some h1).2.2 _ hr,<-F];congr 1;rw[add_add,e1];simp[Addr.add]
    .simp only[Rel,B];grind
  .rename_i fs B;simp only[qh]at M;obtain⟨xs,n',rfl,rfl,hl,aa,hx⟩:=DataW.trod_struct B h;obtain⟨Z,h1,U⟩:=kbj (P:=P) hl (λ_=>True) (λ_ _=>trivial) (Rel P k) (λt c=>DataW.trod enc P w 0 (λ_=>true) true n' t c) (fsOf fs) 0 xs M.1 (by simp[fsOf,aa]) (λp hp cs' y _ hy=>k5n k p.1 (by grind) n' cs' y hy) λi p hp=>by simp only[fsOf,qr,qac]at hp;grind
   exact⟨Z,by grind,by simp only[Rel,B];grind⟩
  .rename_i m e B;simp only[qh]at M;obtain⟨xs,n',rfl,rfl,hl,aa,hx⟩:=DataW.trod_array B h;obtain⟨Z,h1,U⟩:=kbj (P:=P) hl (λ_=>True) (λ_ _=>trivial) (Rel P k) (λt c=>DataW.trod enc P w 0 (λ_=>true) true n' t c) (arOf P m e) 0 xs M.1 (by simp[arOf,aa]) λp hp cs' y _ hy=>by simp only[arOf,qap]at hp;obtain⟨i,_,rfl⟩:=hp;exact k5n k e M.2 n' cs' y hy
    λi p hp=>by simp only[arOf,qr,qac]at hp;grind
   exact⟨Z,by grind,by simp only[Rel,B];grind⟩
  .cases M
end
end Go.Bv
namespace Go.Bv
open Go.RowKit Go.ChangeShapes Go.WideShapes
def G0(W:World):Gh:=⟨λ_=>none,λ_=>none,limOf W⟩
def vOf(P:Program)(t:TypeId)(B:List D):V:=if isAggT P t then .agg (B.map V.d)else .d (B.headD (.bool false))
section
variable{H:Type}{enc:TypeId×Value->H}{P:Program}{W:World}
theorem arg_rep{k:Nat}{r:Reach}{base:Nat}{t:TypeId}{v:Value}{d:DataW H}{ps:List MemPlace}{h:Hp}{nx:Nat}(hT:dataT P k t=true)(F:Value.okWide P W r base t v)(hd:DataW.Trod enc P W 0 (λ_=>true) true t v d ps):∃J,Rel P k t J d/\RepV (G0 W) W h nx v (vOf P t J):=by
 obtain⟨n,X⟩:=hd;by_cases M:isAggT P t=true
 .have B:∃cs,v=.agg cs/\cs.size=P.cellsOf t/\Row.okWide P W r base t cs:=by unfold isAggT at M;unfold Value.okWide at F;grind
  obtain⟨cs,rfl,_,ts,_,_,hc⟩:=B;obtain⟨J,h1,Y⟩:=k5n k t hT n cs.toList _ X;refine⟨J,Y,?_⟩;unfold vOf;rw[qg M];have:=RepV.agg (G:=G0 W) (w:=W) (h:=h) (nx:=nx) cs.toList (J.map V.d) (by simpa using h1.1.symm) ?_ ?_;.omega
  .intro x U;obtain⟨c,Z,rfl⟩:=qap.1 U;obtain⟨j,hj⟩:=qcl Z;have aa:j<cs.toList.length:=by have:=h1.1;grind
   exact(h1.2 j _ c (qf aa) hj).done
  .intro j u x hu U;rw[qr,qac]at U;obtain⟨c,ab,rfl⟩:=U;exact .d _ _ (h1.2 j u c hu ab)
 .have B:Cell.okWide P W r base t v:=by
   unfold Value.okWide at F;split at F;.rename_i h1;exact absurd (by simp[isAggT,h1]) M
   .rename_i h1;exact absurd (by simp[isAggT,h1]) M
   grind
  have ac:v.cells.toList=[v]:=by cases v with
   |agg cs=>exfalso;unfold Cell.okWide Cell.ok at B;grind|_=>rfl
  rw[ac]at X;obtain⟨J,h1,Y⟩:=k5n k t hT n _ _ X;refine⟨J,Y,?_⟩;unfold vOf;rw[qe M];have hl:=h1.1;match J,hl with|[c],_=>exact .d _ _ (h1.2 0 v c rfl rfl)
theorem law_of{f:FuncId}{xs:List V}{r:V}(Y:SoundH P f xs [] r []){vs:List Value}(F:vs.length=xs.length)(J:∀(j:Nat)v x,vs[j]?=some v->xs[j]?=some x->RepV (G0 W) W [] 0 v x):Calls P f vs.toArray W λe M=>(∃v G',e=.returned v/\RepV G' M [] 0 v r)/\Below W.heap.size W M:=by
 refine(Y (G0 W) W vs F J ?_).mono λe M X=>?_
 .refine⟨?_,?_,?_,?_,?_,?_⟩;.intro id l h;simp[hpOf,Hp.get]at h
  .intro id es h;simp[hpOf,Hp.get]at h
  .grind
  .grind
  .intro id Z h;simp[hpOf,Hp.get]at h
  .intro b U;show limOf W b=0;unfold limOf;grind
 .obtain⟨v,G',rfl,h1,h2,B,h4⟩:=X;refine⟨⟨v,G',rfl,h1⟩,B.os,B.tape,B.output,B.size,λb U=>(B.same b U ?_).1⟩;rintro⟨i,hi,_⟩;simp at hi
def typesOk(P:Program)(ts:List TypeId):Bool:=ts.all λt=>P.readableRec t&&decide (t<P.types.size)
theorem k9v(J:laidOutB P=true){M:World}(U:Below W.heap.size W M):∀{ts:List TypeId}{vs:List Value}{F:List (DataW H)}{ps:List MemPlace},typesOk P ts=true->DataW.TrodAll enc P W 0 (λ_=>true) true ts vs F ps->(∀x∈ps,x.block<W.heap.size)->DataW.TrodAll enc P M 0 (λb=>decide (b<W.heap.size)) true ts vs F ps
 |[],[],[],_,_,h,_=>h|[],[],_::_,_,_,h,_=>h.elim|[],_::_,_,_,_,h,_=>h.elim|_::_,[],_,_,_,h,_=>h.elim|_::_,_::_,[],_,_,h,_=>h.elim|t::ts,v::vs,d::F,ps,B,h,Y=>by simp only[typesOk,qen,qh,qy]at B;obtain⟨p,q,h1,X,rfl⟩:=h;exact⟨p,q,Below.trod J B.1.1 B.1.2 h1 U (by grind),k9v J U (by simpa[typesOk]using B.2) X (by grind),rfl⟩
theorem rel_int{k:Nat}{t:TypeId}{q:IntKind}{B:List D}{d:DataW H}(F:P.underlying t=some (.int q))(h:Rel P (k+1) t B d):∃i,B=[.int q i]/\d=.lit (.int q i)/\(Lit.int q i).wf=true:=by unfold Rel at h;grind
theorem ksf{k:Nat}{t:TypeId}{B:Array Field}{F:List D}{d:DataW H}(J:P.underlying t=some (.struct B))(h:Rel P (k+1) t F d):∃ps,d=.agg ps/\RelFs (Rel P k) (fsOf B) F ps:=by unfold Rel at h;grind
theorem ktn{k:Nat}{t e:TypeId}{n:Nat}{B:List D}{d:DataW H}(F:P.underlying t=some (.array n e))(h:Rel P (k+1) t B d):∃ps,d=.agg ps/\RelFs (Rel P k) (arOf P n e) B ps:=by unfold Rel at h;grind
theorem ktm{k:Nat}{t e:TypeId}{M:List D}{d:DataW H}{α:Type}[Inhabited α](f:α->D)(p:α->Prop)(Y:P.underlying t=some (.slice e))(h:Rel P (k+1) t M d)(tp:∀x(y:DataW H),Rel P k e x y->∃a,mkD P e x=f a/\p a):∃l,M=[.slice (P.cellsOf e) (l.map f)]/\l.length<=maxLen/\(∀a∈l,p a)/\(l=[]/\d=.nil∨∃B F,d=.slice B F/\l.length=B.length):=by
 unfold Rel at h;rw[Y]at h;obtain⟨l,rfl,U,h⟩:=h;rcases h with⟨rfl,rfl⟩|⟨B,F,rfl,J,X⟩;.simp_all
 .have:∀i,i<l.length->∃a,mkD P e (l.getD i [])=f a/\p a:=by intro i hi;refine tp _ _ (X i _ _ ?_ (qf qqo));grind
  obtain⟨g,Z⟩:=Deep.choose_lt this;refine⟨(List.range l.length).map g,?_,by grind,?_,by grind⟩
  .have:l.map (mkD P e)=((List.range l.length).map g).map f:=by rw[Deep.map_by_index l [] (mkD P e),qbr];simp_all
   rw[this]
  grind
theorem kwf{fn:Func}{s:ChangeSpec}{Y:World}{args:Array Value}{F:List (DataW H)}{B:List MemPlace}{tb:TypeId}(Z:s.vars=[])(hW:DataW.Whole enc P fn.params.toList s.vars false W args.toList F [] B)(hl:laidOutB P=true)(M:typesOk P fn.params.toList=true)(hr:fn.resultTypes=#[tb])(U:P.underlying tb=some .bool)(h1:(s.fn H (F++[])).results=[.lit (.bool true)])(h2:(s.fn H (F++[])).args=F)(h3:(s.fn H (F++[])).vars=[])(hb:Below W.heap.size W Y):s.post enc P fn false true false false W args (.bool true) Y:=by
 have J:=hW;obtain⟨p,q,hA,X,rfl,_,_⟩:=hW;have hq:q=[]:=by rw[Z]at X;exact X
 subst hq;refine⟨F,[],p++[],[],p,[],J,?_,?_,?_,hb.frame _,λh=>by cases h⟩;.rw[h1,hr];exact trodAll_cons_mk (shut_bool U _) trodAll_mk0
 .rw[h2];exact k9v hl hb M hA λx hx=>by simpa using J.lt x (by grind)
 .rw[Z,h3];rfl
end
structure RelH{H:Type}(P:Program)(k:Nat)(t:TypeId)(ds:List D)(d:DataW H):Prop where h:Rel P k t ds d
section
variable{H:Type}{enc:TypeId×Value->H}{P:Program}{W:World}{k:Nat}
theorem relFs_h:∀{L:List (TypeId×Nat)}{B:List D}{ps:List (DataW H)},RelFs (Rel P k) L B ps->RelFs (RelH P k) L B ps
 |[],_,_,h=>h|_::_,_,_,⟨F,J,p,qs,h1,M,U,X⟩=>⟨F,J,p,qs,⟨h1⟩,relFs_h M,U,X⟩
theorem kfh{t:TypeId}{q:IntKind}{B:List D}{d:DataW H}(F:P.underlying t=some (.int q))(h:RelH P (k+1) t B d):∃i,B=[.int q i]/\d=.lit (.int q i)/\(Lit.int q i).wf=true:=rel_int F h.h
theorem k2z{t:TypeId}{B:Array Field}{F:List D}{d:DataW H}{L:List (TypeId×Nat)}(J:P.underlying t=some (.struct B))(U:fsOf B=L)(h:RelH P (k+1) t F d):∃ps,d=.agg ps/\RelFs (RelH P k) L F ps:=by obtain⟨ps,h1,M⟩:=ksf J h.h;grind[relFs_h]
theorem ksj{t e:TypeId}{n:Nat}{B:List D}{d:DataW H}{L:List (TypeId×Nat)}(F:P.underlying t=some (.array n e))(M:arOf P n e=L)(h:RelH P (k+1) t B d):∃ps,d=.agg ps/\RelFs (RelH P k) L B ps:=by obtain⟨ps,h1,J⟩:=ktn F h.h;grind[relFs_h]
theorem k3m{t e:TypeId}{B:List D}{d:DataW H}{α:Type}[Inhabited α](f:α->D)(p:α->Prop)(sz:Nat)(U:P.underlying t=some (.slice e))(hs:P.cellsOf e=sz)(h:RelH P (k+1) t B d)(tp:∀x(y:DataW H),RelH P k e x y->∃a,mkD P e x=f a/\p a):∃l:List α,B=[.slice sz (l.map f)]/\l.length<=9223372036854775807/\∀a∈l,p a:=by obtain⟨l,h1,F,J,_⟩:=ktm f p U h.h λx y M=>tp x y ⟨M⟩;subst hs;exact⟨l,h1,F,J⟩
theorem mk_agg{e:TypeId}{B cs:List D}(F:isAggT P e=true)(h:B=(D.agg cs).cells):mkD P e B=.agg cs:=by subst h;unfold mkD;rw[F];rfl
theorem mk_one{e:TypeId}{B:List D}{x:D}(F:isAggT P e=false)(h:B=[x]):mkD P e B=x:=by subst h;unfold mkD;rw[F];rfl
theorem kf2{r:Reach}{base:Nat}{t:TypeId}{v:Value}{d:DataW H}{ps:List MemPlace}{h:Hp}{nx:Nat}(M:dataT P k t=true)(B:Value.okWide P W r base t v)(U:DataW.Trod enc P W 0 (λ_=>true) true t v d ps):∃F,RelH P k t F d/\RepV (G0 W) W h nx v (vOf P t F):=by obtain⟨F,h1,J⟩:=arg_rep M B U;exact⟨F,⟨h1⟩,J⟩
end
end Go.Bv
namespace Go.Proofs.YtfiecdeonopcmaaGreatDoor
open Go Go.Bv Go.Cv Go.Md Go.RowKit Go.ChangeShapes Go.WideShapes
theorem wf_u8{i:Int}(h:(Lit.int .u8 i).wf=true):0<=i/\i<256:=by simp only[Lit.wf,IntKind.min,IntKind.max,IntKind.signed,IntKind.bits]at h;simp at h;omega
theorem wf_u64{i:Int}(h:(Lit.int .u64 i).wf=true):0<=i/\i<18446744073709551616:=by simp only[Lit.wf,IntKind.min,IntKind.max,IntKind.signed,IntKind.bits]at h;simp at h;omega
theorem wf_i64{i:Int}(h:(Lit.int .i64 i).wf=true):-9223372036854775808<=i/\i<9223372036854775808:=by simp only[Lit.wf,IntKind.min,IntKind.bits]at h;simp at h;omega
structure kez(x:wF):Prop where
 wd:-9223372036854775808<=x.wd/\x.wd<9223372036854775808
 wH:-9223372036854775808<=x.wH/\x.wH<9223372036854775808
 wS:-9223372036854775808<=x.wS/\x.wS<9223372036854775808
 wO:-9223372036854775808<=x.wO/\x.wO<9223372036854775808
 wM:-9223372036854775808<=x.wM/\x.wM<9223372036854775808
 wZ:0<=x.wZ/\x.wZ<18446744073709551616
 wt:-9223372036854775808<=x.wt/\x.wt<9223372036854775808
 wW:-9223372036854775808<=x.wW/\x.wW<9223372036854775808
 wU:0<=x.wU/\x.wU<18446744073709551616
theorem op3{H:Type}{k:Nat}{B:List D}{d:DataW H}(h:RelH Tryz.prog (k+1) 3 B d):∃x,B=[D.int .i64 x]/\-9223372036854775808<=x/\x<9223372036854775808:=by obtain⟨i,rfl,_,w⟩:=kfh (q:=.i64) (show Tryz.prog.underlying 3=some (.int .i64)by kernel_rfl) h;exact⟨i,rfl,wf_i64 w⟩
structure kin(x:wAq):Prop where
 wBH:-9223372036854775808<=x.wBH/\x.wBH<9223372036854775808
 wAw:-9223372036854775808<=x.wAw/\x.wAw<9223372036854775808
 wBD:-9223372036854775808<=x.wBD/\x.wBD<9223372036854775808
theorem op23{H:Type}{k:Nat}{B:List D}{d:DataW H}(h:RelH Tryz.prog (k+2) 23 B d):∃x,B=(encTProofParams x).cells/\kin x:=by obtain⟨ps,rfl,h1⟩:=k2z (L:=[(3,0),(3,1),(3,2)]) Tryz.underlying23 qqk h;obtain⟨_,_,_,_,F,⟨_,_,_,_,J,⟨_,_,_,_,M,⟨rfl,rfl⟩,rfl,rfl⟩,rfl,rfl⟩,rfl,rfl⟩:=h1;obtain⟨U,rfl,X⟩:=op3 (k:=k+0) F;obtain⟨Y,rfl,Z⟩:=op3 (k:=k+0) J;obtain⟨a2,rfl,r2⟩:=op3 (k:=k+0) M;exact⟨⟨U,Y,a2⟩,rfl,⟨X,Z,r2⟩⟩
theorem op24{H:Type}{k:Nat}{B:List D}{d:DataW H}(h:RelH Tryz.prog (k+1) 24 B d):∃x,B=[D.int .u64 x]/\0<=x/\x<18446744073709551616:=by obtain⟨i,rfl,_,w⟩:=kfh (q:=.u64) (show Tryz.prog.underlying 24=some (.int .u64)by kernel_rfl) h;exact⟨i,rfl,wf_u64 w⟩
theorem op26{H:Type}{k:Nat}{F:List D}{d:DataW H}(h:RelH Tryz.prog (k+3) 26 F d):∃x,F=(encTRules x).cells/\kez x:=by obtain⟨ps,rfl,h1⟩:=k2z (L:=[(3,0),(3,1),(23,2),(24,5),(3,6),(3,7),(24,8)]) Tryz.underlying26 qqk h;obtain⟨_,_,_,_,J,⟨_,_,_,_,M,⟨_,_,_,_,U,⟨_,_,_,_,X,⟨_,_,_,_,Y,⟨_,_,_,_,Z,⟨_,_,_,_,g6,⟨rfl,rfl⟩,rfl,rfl⟩,rfl,rfl⟩,rfl,rfl⟩,rfl,rfl⟩,rfl,rfl⟩,rfl,rfl⟩,rfl,rfl⟩:=h1;obtain⟨a0,rfl,r0⟩:=op3 (k:=k+1) J;obtain⟨a1,rfl,r1⟩:=op3 (k:=k+1) M;obtain⟨a2,rfl,B⟩:=op23 (k:=k+0) U;obtain⟨a3,rfl,r3⟩:=op24 (k:=k+1) X;obtain⟨a4,rfl,r4⟩:=op3 (k:=k+1) Y;obtain⟨a5,rfl,r5⟩:=op3 (k:=k+1) Z;obtain⟨a6,rfl,r6⟩:=op24 (k:=k+1) g6;exact⟨⟨a0,a1,a2.wBH,a2.wAw,a2.wBD,a3,a4,a5,a6⟩,rfl,⟨r0,r1,B.wBH,B.wAw,B.wBD,r3,r4,r5,r6⟩⟩
structure kh1(x:wAt):Prop where
 wl:0<=x.wl/\x.wl<18446744073709551616
 wAY:0<=x.wAY/\x.wAY<18446744073709551616
 wAV:0<=x.wAV/\x.wAV<18446744073709551616
 wm:x.wm.length<=9223372036854775807/\∀y∈x.wm,0<=y/\y<18446744073709551616
structure kcc(x:wh):Prop where
 wX:0<=x.wX/\x.wX<18446744073709551616
 wC:x.wC.length<=9223372036854775807/\∀y∈x.wC,0<=y/\y<18446744073709551616
 wB:x.wB.length<=9223372036854775807/\∀y∈x.wB,kh1 y
 wJ:0<=x.wJ/\x.wJ<18446744073709551616
 wL:0<=x.wL/\x.wL<18446744073709551616
 Fee:0<=x.Fee/\x.Fee<18446744073709551616
 wQ:0<=x.wQ/\x.wQ<18446744073709551616
 wK:0<=x.wK/\x.wK<18446744073709551616
 wAG:-9223372036854775808<=x.wAG/\x.wAG<9223372036854775808
 wAH:x.wAH.length<=9223372036854775807/\∀y∈x.wAH,0<=y/\y<256
structure k5r(x:wD):Prop where
 wP:0<=x.wP/\x.wP<18446744073709551616
 wG:-9223372036854775808<=x.wG/\x.wG<9223372036854775808
 wAM:0<=x.wAM/\x.wAM<18446744073709551616
 wU:0<=x.wU/\x.wU<18446744073709551616
 wK:0<=x.wK/\x.wK<18446744073709551616
 Txs:x.Txs.length<=9223372036854775807/\∀y∈x.Txs,kcc y
theorem op60{H:Type}{k:Nat}{B:List D}{d:DataW H}(h:RelH Tryz.prog (k+2) 60 B d):∃x:Li,B=[D.slice 1 (x.map (D.int .u64))]/\x.length<=9223372036854775807/\∀y∈x,0<=y/\y<18446744073709551616:=by
 obtain⟨l,rfl,F,J⟩:=k3m (D.int .u64) (λy=>0<=y/\y<18446744073709551616) 1 (show Tryz.prog.underlying 60=some (.slice 24)by kernel_rfl) qqk h λx y M=>by obtain⟨a,e,U⟩:=op24 (k:=k+0) M;exact⟨a,mk_one qqk e,U⟩
 exact⟨l,rfl,⟨F,J⟩⟩
structure kx3(x:wBU):Prop where
 a0:0<=x.a0/\x.a0<18446744073709551616
 a1:0<=x.a1/\x.a1<18446744073709551616
theorem op126{H:Type}{k:Nat}{B:List D}{d:DataW H}(h:RelH Tryz.prog (k+2) 126 B d):∃x,B=(encTA2 x).cells/\kx3 x:=by obtain⟨ps,rfl,h1⟩:=ksj (n:=2) (e:=24) (L:=[(24,0),(24,1)]) (show Tryz.prog.underlying 126=some (.array 2 24)by kernel_rfl) qqk h;obtain⟨_,_,_,_,F,⟨_,_,_,_,J,⟨rfl,rfl⟩,rfl,rfl⟩,rfl,rfl⟩:=h1;obtain⟨M,rfl,U⟩:=op24 (k:=k+0) F;obtain⟨X,rfl,Y⟩:=op24 (k:=k+0) J;exact⟨⟨M,X⟩,rfl,⟨U,Y⟩⟩
theorem op128{H:Type}{k:Nat}{J:List D}{d:DataW H}(h:RelH Tryz.prog (k+3) 128 J d):∃x,J=(encTOut x).cells/\kh1 x:=by obtain⟨ps,rfl,h1⟩:=k2z (L:=[(24,0),(126,1),(60,3)]) Tryz.underlying128 qqk h;obtain⟨_,_,_,_,M,⟨_,_,_,_,U,⟨_,_,_,_,X,⟨rfl,rfl⟩,rfl,rfl⟩,rfl,rfl⟩,rfl,rfl⟩:=h1;obtain⟨Y,rfl,Z⟩:=op24 (k:=k+1) M;obtain⟨B,rfl,F⟩:=op126 (k:=k+0) U;obtain⟨a2,rfl,r2⟩:=op60 (k:=k+0) X;exact⟨⟨Y,B.a0,B.a1,a2⟩,rfl,⟨Z,F.a0,F.a1,r2⟩⟩
theorem op92{H:Type}{k:Nat}{B:List D}{d:DataW H}(h:RelH Tryz.prog (k+4) 92 B d):∃x:List wAt,B=[D.slice 4 (x.map encTOut)]/\x.length<=9223372036854775807/\∀y∈x,kh1 y:=by
 obtain⟨l,rfl,F,J⟩:=k3m encTOut (λy=>kh1 y) 4 (show Tryz.prog.underlying 92=some (.slice 128)by kernel_rfl) qqk h λx y M=>by obtain⟨a,e,U⟩:=op128 (k:=k+0) M;exact⟨a,mk_agg qqk e,U⟩
 exact⟨l,rfl,⟨F,J⟩⟩
theorem op5{H:Type}{k:Nat}{B:List D}{d:DataW H}(h:RelH Tryz.prog (k+1) 5 B d):∃x,B=[D.int .u8 x]/\0<=x/\x<256:=by obtain⟨i,rfl,_,w⟩:=kfh (q:=.u8) (show Tryz.prog.underlying 5=some (.int .u8)by kernel_rfl) h;exact⟨i,rfl,wf_u8 w⟩
theorem op28{H:Type}{k:Nat}{B:List D}{d:DataW H}(h:RelH Tryz.prog (k+2) 28 B d):∃x:Li,B=[D.slice 1 (x.map (D.int .u8))]/\x.length<=9223372036854775807/\∀y∈x,0<=y/\y<256:=by
 obtain⟨l,rfl,F,J⟩:=k3m (D.int .u8) (λy=>0<=y/\y<256) 1 (show Tryz.prog.underlying 28=some (.slice 5)by kernel_rfl) qqk h λx y M=>by obtain⟨a,e,U⟩:=op5 (k:=k+0) M;exact⟨a,mk_one qqk e,U⟩
 exact⟨l,rfl,⟨F,J⟩⟩
theorem op94{H:Type}{k:Nat}{B:List D}{d:DataW H}(h:RelH Tryz.prog (k+5) 94 B d):∃x,B=(encTTx x).cells/\kcc x:=by obtain⟨ps,rfl,h1⟩:=k2z (L:=[(24,0),(60,1),(92,2),(24,3),(24,4),(24,5),(24,6),(24,7),(3,8),(28,9)]) Tryz.underlying94 qqk h;obtain⟨_,_,_,_,F,⟨_,_,_,_,J,⟨_,_,_,_,M,⟨_,_,_,_,U,⟨_,_,_,_,X,⟨_,_,_,_,Y,⟨_,_,_,_,Z,⟨_,_,_,_,g7,⟨_,_,_,_,g8,⟨_,_,_,_,g9,⟨rfl,rfl⟩,rfl,rfl⟩,rfl,rfl⟩,rfl,rfl⟩,rfl,rfl⟩,rfl,rfl⟩,rfl,rfl⟩,rfl,rfl⟩,rfl,rfl⟩,rfl,rfl⟩,rfl,rfl⟩:=h1;obtain⟨a0,rfl,r0⟩:=op24 (k:=k+3) F;obtain⟨a1,rfl,r1⟩:=op60 (k:=k+2) J;obtain⟨a2,rfl,r2⟩:=op92 (k:=k+0) M;obtain⟨a3,rfl,r3⟩:=op24 (k:=k+3) U;obtain⟨a4,rfl,r4⟩:=op24 (k:=k+3) X;obtain⟨a5,rfl,r5⟩:=op24 (k:=k+3) Y;obtain⟨a6,rfl,r6⟩:=op24 (k:=k+3) Z;obtain⟨a7,rfl,r7⟩:=op24 (k:=k+3) g7;obtain⟨a8,rfl,r8⟩:=op3 (k:=k+3) g8;obtain⟨a9,rfl,r9⟩:=op28 (k:=k+2) g9;exact⟨⟨a0,a1,a2,a3,a4,a5,a6,a7,a8,a9⟩,rfl,⟨r0,r1,r2,r3,r4,r5,r6,r7,r8,r9⟩⟩
theorem op39{H:Type}{k:Nat}{B:List D}{d:DataW H}(h:RelH Tryz.prog (k+6) 39 B d):∃x:List wh,B=[D.slice 10 (x.map encTTx)]/\x.length<=9223372036854775807/\∀y∈x,kcc y:=by
 obtain⟨l,rfl,F,J⟩:=k3m encTTx (λy=>kcc y) 10 (show Tryz.prog.underlying 39=some (.slice 94)by kernel_rfl) qqk h λx y M=>by obtain⟨a,e,U⟩:=op94 (k:=k+0) M;exact⟨a,mk_agg qqk e,U⟩
 exact⟨l,rfl,⟨F,J⟩⟩
theorem op41{H:Type}{k:Nat}{B:List D}{d:DataW H}(h:RelH Tryz.prog (k+7) 41 B d):∃x,B=(encTBlock x).cells/\k5r x:=by obtain⟨ps,rfl,h1⟩:=k2z (L:=[(24,0),(3,1),(24,2),(24,3),(24,4),(39,5)]) Tryz.underlying41 qqk h;obtain⟨_,_,_,_,F,⟨_,_,_,_,J,⟨_,_,_,_,M,⟨_,_,_,_,U,⟨_,_,_,_,X,⟨_,_,_,_,Y,⟨rfl,rfl⟩,rfl,rfl⟩,rfl,rfl⟩,rfl,rfl⟩,rfl,rfl⟩,rfl,rfl⟩,rfl,rfl⟩:=h1;obtain⟨Z,rfl,r0⟩:=op24 (k:=k+5) F;obtain⟨a1,rfl,r1⟩:=op3 (k:=k+5) J;obtain⟨a2,rfl,r2⟩:=op24 (k:=k+5) M;obtain⟨a3,rfl,r3⟩:=op24 (k:=k+5) U;obtain⟨a4,rfl,r4⟩:=op24 (k:=k+5) X;obtain⟨a5,rfl,r5⟩:=op39 (k:=k+0) Y;exact⟨⟨Z,a1,a2,a3,a4,a5⟩,rfl,⟨r0,r1,r2,r3,r4,r5⟩⟩
theorem op27{H:Type}{k:Nat}{B:List D}{d:DataW H}(h:RelH Tryz.prog (k+8) 27 B d):∃x:List wD,B=[D.slice 6 (x.map encTBlock)]/\x.length<=9223372036854775807/\∀y∈x,k5r y:=by
 obtain⟨l,rfl,F,J⟩:=k3m encTBlock (λy=>k5r y) 6 (show Tryz.prog.underlying 27=some (.slice 41)by kernel_rfl) qqk h λx y M=>by obtain⟨a,e,U⟩:=op41 (k:=k+0) M;exact⟨a,mk_agg qqk e,U⟩
 exact⟨l,rfl,⟨F,J⟩⟩
theorem dt26:dataT Tryz.prog 3 26=true:=by kernel_rfl
theorem dt27:dataT Tryz.prog 8 27=true:=by kernel_rfl
theorem dt28:dataT Tryz.prog 2 28=true:=by kernel_rfl
theorem own:ownKnob Tryz.prog.godebug=none:=by kernel_rfl
end Go.Proofs.YtfiecdeonopcmaaGreatDoor
namespace Go.Md
open Go Go.Bv
theorem u64w (n:Int):IntKind.u64.wrap n=n%18446744073709551616:=IntKind.wrap_u64 n
theorem u8w (n:Int):IntKind.u8.wrap n=n%256:=IntKind.wrap_u8 n
theorem k2c (k:IntKind) (a b:Int):ishr k a b=a/((2^min b.toNat k.bits:Nat):Int):=by unfold ishr;rw[show(2:Int)^min b.toNat k.bits=((2^min b.toNat k.bits:Nat):Int)from(Int.natCast_pow 2 _).symm,Int.fdiv_eq_ediv_of_nonneg _ (Int.natCast_nonneg _)]
theorem knv (a b:Int):ishl .u64 a b=(a*((2^min b.toNat 64:Nat):Int))%18446744073709551616:=by unfold ishl;rw[u64w,show(2:Int)^min b.toNat IntKind.u64.bits=((2^min b.toNat 64:Nat):Int)by rw[show IntKind.u64.bits=64 from rfl];exact(Int.natCast_pow 2 _).symm]
theorem k3c (n:Nat) (h:n<18446744073709551616):(BitVec.ofInt 64 (n:Int)).toNat=n:=by rw[BitVec.toNat_ofInt];omega
theorem ke0 (a b:Nat) (B:a<18446744073709551616) (F:b<18446744073709551616):iand .u64 a b=((a&&&b:Nat):Int):=by unfold iand;rw[u64w];show(((BitVec.ofInt 64 a&&&BitVec.ofInt 64 b).toNat:Nat):Int)%_=_;rw[BitVec.toNat_and,k3c a B,k3c b F];have:=Nat.and_le_left (n:=a) (m:=b);omega
theorem ior_nat (a b:Nat) (B:a<18446744073709551616) (F:b<18446744073709551616):ior .u64 a b=((a|||b:Nat):Int):=by unfold ior;rw[u64w];show(((BitVec.ofInt 64 a|||BitVec.ofInt 64 b).toNat:Nat):Int)%_=_;rw[BitVec.toNat_or,k3c a B,k3c b F];have:=Nat.or_lt_two_pow (x:=a) (y:=b) (n:=64) qqo qqo;omega
theorem k2y (a:Int) (h:0<=a/\a<18446744073709551616):iand .u64 a 4294967295=a%4294967296:=by obtain⟨n,rfl⟩:=qm h.1;have:=ke0 n 4294967295 qqo qqo;rw[show((4294967295:Nat):Int)=4294967295 from rfl]at this;rw[this,show(4294967295:Nat)=2^32-1 from rfl,Nat.and_two_pow_sub_one_eq_mod];exact Int.natCast_emod _ _
theorem kvz (a:Int) (h:0<=a/\a<18446744073709551616):iand .u64 a 1=a%2:=by obtain⟨n,rfl⟩:=qm h.1;have:=ke0 n 1 qqo qqo;rw[show((1:Nat):Int)=1 from rfl]at this;rw[this,Nat.and_one_is_mod];exact Int.natCast_emod _ _
theorem ior_add (a c k:Nat) (B:a<2^k) (h:a+2^k*c<18446744073709551616):ior .u64 a ((2^k*c:Nat):Int)=((a+2^k*c:Nat):Int):=by rw[ior_nat _ _ qqo qqo,Nat.or_comm,<-Nat.two_pow_add_eq_or_of_lt B,Nat.add_comm]
theorem ior_add' (a c k:Nat) (B:a<2^k) (h:a+2^k*c<18446744073709551616):ior .u64 ((2^k*c:Nat):Int) a=((a+2^k*c:Nat):Int):=by rw[ior_nat _ _ qqo qqo,<-Nat.two_pow_add_eq_or_of_lt B,Nat.add_comm]
theorem ishr32 (a:Int):ishr .u64 a 32=a/4294967296:=k2c _ _ _
theorem ishr16 (a:Int):ishr .u64 a 16=a/65536:=k2c _ _ _
theorem ishr8 (a:Int):ishr .u64 a 8=a/256:=k2c _ _ _
theorem ishr1 (a:Int):ishr .u64 a 1=a/2:=k2c _ _ _
theorem kv8 (a b:Int) (ha:0<=a/\a<18446744073709551616) (hb:0<=b/\b<18446744073709551616):
  ((a/4294967296*(b/4294967296)+((a/4294967296*(b%4294967296)+a%4294967296*(b%4294967296)/4294967296)/4294967296))+((a/4294967296*(b%4294967296)+a%4294967296*(b%4294967296)/4294967296)%4294967296+a%4294967296*(b/4294967296))/4294967296)=a*b/18446744073709551616/\
  a%4294967296*(b%4294967296)<18446744073709551616/\a/4294967296*(b%4294967296)+a%4294967296*(b%4294967296)/4294967296<18446744073709551616/\
  a%4294967296*(b/4294967296)<18446744073709551616-4294967296/\a/4294967296*(b/4294967296)<18446744065119617026/\0<=a%4294967296*(b%4294967296)/\0<=a/4294967296*(b%4294967296)/\0<=a%4294967296*(b/4294967296)/\0<=a/4294967296*(b/4294967296):=by
 have h1:∀x y:Int,0<=x->x<=4294967295->0<=y->y<=4294967295->0<=x*y/\x*y<=18446744065119617025:=by intro x y F h1 B J;exact⟨qcx F B,by have:=qdx h1 J B qqo;omega⟩
 have X:=h1 (a%4294967296) (b%4294967296) qqo qqo qqo qqo;have a2:=h1 (a/4294967296) (b%4294967296) qqo qqo qqo qqo;have Y:=h1 (a%4294967296) (b/4294967296) qqo qqo qqo qqo;have Z:=h1 (a/4294967296) (b/4294967296) qqo qqo qqo qqo
 have e:a*b=a/4294967296*(b/4294967296)*18446744073709551616+(a/4294967296*(b%4294967296)+a%4294967296*(b/4294967296))*4294967296+a%4294967296*(b%4294967296):=by
  have M:a=a/4294967296*4294967296+a%4294967296:=by omega
  have U:b=b/4294967296*4294967296+b%4294967296:=by omega
  conv=>lhs;rw[M,U]
  generalize a/4294967296=x;generalize a%4294967296=y;generalize b/4294967296=z;generalize b%4294967296=t;grind
 generalize a%4294967296*(b%4294967296)=p0 at *
 generalize a/4294967296*(b%4294967296)=p1 at *
 generalize a%4294967296*(b/4294967296)=p2 at *
 generalize a/4294967296*(b/4294967296)=p3 at *
 generalize a*b=ab at *
 refine⟨?_,?_,?_,?_,?_,?_,?_,?_,?_⟩<;>omega
structure Half (U x a b Q:Int):Prop where
 hU:0<=U
 hUv:U<a*4294967296+b
 hx:0<=x/\x<4294967296
 ha:2147483648<=a/\a<4294967296
 hb:0<=b/\b<4294967296
 hQ:Q=(U*4294967296+x)/(a*4294967296+b)
theorem Half.q {U x a b Q:Int} (h:Half U x a b Q):0<=Q/\Q<4294967296/\Q*(a*4294967296+b)<=U*4294967296+x/\U*4294967296+x<(Q+1)*(a*4294967296+b):=by
 obtain⟨h1,Y,Z,h4,h5,B⟩:=h;have F:0<a*4294967296+b:=by omega
 have e:=qeb (U*4294967296+x) (a*4294967296+b);have l:=qce (U*4294967296+x) (by omega:a*4294967296+b≠0);have r:=qbu (U*4294967296+x) F;rw[<-B]at e;generalize J:a*4294967296+b=v at *
 have e2:(Q+1)*v=Q*v+v:=by grind
 have e3:v*Q=Q*v:=by grind
 have M:0<=Q:=by rw[B];exact qec qqo qqo
 have X:Q<4294967296:=by rw[B];exact qfh F qqo
 refine⟨M,X,by omega,by omega⟩
theorem Half.exit {U x a b Q q r:Int} (h:Half U x a b Q) (e:q*a+r=U) (hq:Q<=q) (h2:q*b<=r*4294967296+x):q=Q:=by
 obtain⟨F,J,M,X⟩:=h.q;have Y:=h.ha
 have:q*(a*4294967296+b)<=U*4294967296+x:=by
  have:q*(a*4294967296+b)=q*a*4294967296+q*b:=by grind
  rw[this];generalize q*a=Z at *
  omega
 have h5:q<Q+1:=by
  have B:0<a*4294967296+b:=by have:=h.hb;omega
  exact qdi qqo (qcq B)
 omega
theorem Half.down {U x a b Q q r:Int} (h:Half U x a b Q) (e:q*a+r=U) (B:4294967296<=q∨r*4294967296+x<q*b):Q<=q-1:=by
 obtain⟨J,M,X,Y⟩:=h.q;rcases B with B|B
 ·omega
 ·have:U*4294967296+x<q*(a*4294967296+b):=by
   have:q*(a*4294967296+b)=q*a*4294967296+q*b:=by grind
   rw[this];generalize q*a=Z at *
   omega
  have h5:Q<q:=by
   have F:0<a*4294967296+b:=by have:=h.hb;have:=h.ha;omega
   exact qdi (a:=a*4294967296+b) qqo (qcq F)
  omega
theorem Half.small {U x a b Q q r:Int} (h:Half U x a b Q) (e:q*a+r=U) (X:4294967296<=r):q<4294967296:=by
 have B:=h.hUv;have F:=h.ha;have J:=h.hb;have:q*a<4294967296*a:=by generalize q*a=M at *;omega
 exact qdi this qqo
theorem Half.done {U x a b Q q r:Int} (h:Half U x a b Q) (e:q*a+r=U) (B:Q<=q) (F:4294967296<=r):q=Q:=by refine h.exit e B ?_;have h1:=h.small e F;obtain⟨J,_⟩:=h.q;have M:=h.hb;have X:=h.hx;have:q*b<=4294967296*4294967296:=qdx qqo qqo qqo qqo;omega
theorem Half.rest {U x a b Q:Int} (h:Half U x a b Q):(U*4294967296+x)-Q*(a*4294967296+b)=(U*4294967296+x)%(a*4294967296+b)/\0<=(U*4294967296+x)%(a*4294967296+b)/\(U*4294967296+x)%(a*4294967296+b)<a*4294967296+b:=by
 have B:0<a*4294967296+b:=by have:=h.hb;have:=h.ha;omega
 have e:=qeb (U*4294967296+x) (a*4294967296+b);rw[<-h.hQ]at e;have:=qei (a*4294967296+b) Q;exact⟨by omega,qce _ qqo,qbu _ B⟩
theorem kru {N y p U M X B R1 F J:Int} (hp:0<p) (hy:0<y) (hN:N*p=U*18446744073709551616+M*4294967296+X) (h1:U*4294967296+M-B*(y*p)=R1) (h0:R1*4294967296+X-F*(y*p)=J)
  (hr:0<=J/\J<y*p):B*4294967296+F=N/y/\J/p=N%y:=by
 have e:N*p=(B*4294967296+F)*(y*p)+J:=by
  rw[hN];have:(B*4294967296+F)*(y*p)=B*(y*p)*4294967296+F*(y*p):=by grind
  rw[this];generalize B*(y*p)=a at *
  generalize F*(y*p)=b at *
  omega
 have e2:J=(N-(B*4294967296+F)*y)*p:=by grind
 have Y:0<=N-(B*4294967296+F)*y:=by
  rcases Int.lt_or_le (N-(B*4294967296+F)*y) 0 with h|h
  ·exfalso;have:(N-(B*4294967296+F)*y)*p<0:=Int.mul_neg_of_neg_of_pos h hp;omega
  ·exact h
 have Z:N-(B*4294967296+F)*y<y:=by refine qdi (a:=p) ?_ (qcq hp);omega
 have e3:N=(N-(B*4294967296+F)*y)+y*(B*4294967296+F):=by grind
 constructor
 ·conv=>rhs;rw[e3]
  rw[Int.add_mul_ediv_left _ _ qqo,Int.ediv_eq_zero_of_lt Y Z];omega
 ·rw[e2,Int.mul_ediv_cancel _ qqo];conv=>rhs;rw[e3]
  rw[Int.add_mul_emod_self_left,qdq Y Z]
end Go.Md
end
