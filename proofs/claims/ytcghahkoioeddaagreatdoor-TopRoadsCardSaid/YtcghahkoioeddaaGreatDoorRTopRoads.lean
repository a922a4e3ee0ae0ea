/-
  The law 'TopRoads': it returns true for every input, and what it was given reads as it did. No conditions.
-/
import Derived.Test.YtcghahkoioeddaaGreatDoorA7
import Derived.Test.YtcghahkoioeddaaGreatDoorRows
import Derived.Test.YtcghahkoioeddaaGreatDoorWTopRoads1
import Derived.Test.YtcghahkoioeddaaGreatDoorWTopRoads2
import Derived.Test.YtcghahkoioeddaaGreatDoorWTopRoads3
import Derived.Test.YtcghahkoioeddaaGreatDoorWTopRoads4
import Derived.Test.YtcghahkoioeddaaGreatDoorWTopRoads5
import Derived.Test.YtcghahkoioeddaaGreatDoorWTopRoads6
set_option linter.all false
set_option maxRecDepth 100000
noncomputable section
namespace Go.Cv
open Go Go.Bv Go.RowKit Go.Md
theorem Con.Ok.at {T:Tab} {P:Program} {k:Con T.den} (hk:k.Ok P T) (x:HL T.den (hsT k.ins (hsOs k.pre))) (o:HL T.den (hsV k.res (hsOs k.post))) (hx:k.R x fun o'=>o'=o):SoundH P k.f ((k.args idf x).map (er T)) ((k.obs idf x).map (erO T)) (er T (k.val idf o)) ((k.ops idf o).map (erO T)):=by
 obtain ⟨o',rfl,h⟩:=hk.snd x _ hx
 exact h
end Go.Cv
namespace Go.Proofs.YtcghahkoioeddaaGreatDoor.topRoads
open Go Go.Bv Go.Cv Go.Md Go.RowKit Go.ChangeShapes Go.WideShapes Go.ChangeAt
theorem ty:typesOk Tryz.prog Tryz.f4.params.toList=true:=by kernel_rfl
theorem rt:Tryz.f4.resultTypes= #[4]:=by kernel_rfl
theorem sound (p0:wB) (p1:List wI) (h0:kbo p0) (h1:(p1.length<=9223372036854775807/\∀y∈p1,k3f y)):SoundH Tryz.prog 4 [vOf Tryz.prog 26 ((encTRules p0).cells),vOf Tryz.prog 27 [D.slice 6 (p1.map encTBlock)]] [] (.d (.bool true)) []:=mpr_of qqk (kdp.at (show HL TB.den (hsT k1f.ins (hsOs k1f.pre))from(p0.wX,p0.wC,p0.wN,p0.wM,p0.wJ,p0.wS,p0.wV,p0.wO,p0.wR,p1,())) (show HL TB.den (hsV k1f.res (hsOs k1f.post))from(true,())) (qaa (kch h0 h1) rfl))
set_option maxRecDepth 1000000 in
theorem contract (H:Type) (enc:TypeId×Value->H) (W:World) (base:Nat) (args:Array Value) (ds gs:List (DataW H)) (before:List MemPlace)
  (hval:∀(j:Nat) t v,Tryz.f4.params[j]? =some t->args[j]? =some v->Value.okWide Tryz.prog W .any base t v)
  (hW:DataW.Whole enc Tryz.prog Tryz.f4.params.toList Rows.topRoadsSpec.vars false W args.toList ds gs before):
  Calls Tryz.prog 4 args W fun e W' =>∃v,e= .returned v/\Rows.topRoadsSpec.post enc Tryz.prog Tryz.f4 false true false false W args v W' :=by
 have hW' :=hW;obtain⟨p,q,hA0,hV,rfl,hfz,hnd⟩:=hW;have hA:DataW.TrodAll enc Tryz.prog W 0 (fun _=>true) true Tryz.f4.params.toList args.toList ds p:=hA0;rw[Tryz.params4]at hA hval;obtain⟨v0,vs0,d0,ds0,pl0,q0,hargs0,rfl,rfl,t0,r0⟩:=trodAll_cons hA;obtain⟨v1,vs1,d1,ds1,pl1,q1,hargs1,rfl,rfl,t1,r1⟩:=trodAll_cons r0;obtain⟨rfl,rfl,rfl⟩:=trodAll_nil r1;obtain rfl:args= #[v0,v1]:=qct (by rw[hargs0,hargs1]);obtain⟨rfl,rfl⟩:=trodVars_none hV;obtain⟨xs0,hR0,hV0⟩:=kjg (h:=[]) (nx:=0) dt26 (hval 0 26 v0 rfl rfl) t0;obtain⟨p0,rfl,h0⟩:=op26 (k:=0) hR0;obtain⟨xs1,hR1,hV1⟩:=kjg (h:=[]) (nx:=0) dt27 (hval 1 27 v1 rfl rfl) t1;obtain⟨p1,rfl,h1⟩:=op27 (k:=0) hR1;refine(law_of (sound p0 p1 h0 h1) (vs:=[v0,v1]) rfl ?_).mono fun e W' hh=> ?_
 ·intro j v x hv hx
  match j with
  |0=>simp at hv hx;subst hv;subst hx;exact hV0
  |1=>simp at hv hx;subst hv;subst hx;exact hV1
  |j+2=>simp at hv
 ·obtain⟨⟨v,G',rfl,hv⟩,hb⟩:=hh;refine⟨_,rfl,?_⟩;cases hv with|d _ _ hd=>cases hd;exact kqe rfl hW' laid ty rt Tryz.underlying4 rfl rfl rfl hb
theorem lifted (os:Os) (started:os.Started) (H:Type) (enc:TypeId×Value->H):
  ReturnsInHanded {} Tryz.checked os 4 .any (fun w args=>(Rows.topRoadsSpec.pre enc Tryz.prog Tryz.f4 [] false w args/\laidMetH Tryz.prog Rows.topRoadsRow.laid w)/\sizedMet enc Tryz.prog Tryz.f4 (OpenSpec.ofChange Rows.topRoadsSpec) false w args) (Rows.topRoadsSpec.post enc Tryz.prog Tryz.f4 false true false false):=by
 refine returnsInHanded_of_change_and (C:=Tryz.checked) (X:=fun w _=>laidMetH Tryz.prog Rows.topRoadsRow.laid w) (fun _ _ _ hh h=>h.of_heap hh) own started qqk Tryz.func4
  (ChangeSpec.witness_shaped (enc:=enc) (C:=Tryz.checked) (os:=os) (X:=fun w _=>laidMetH Tryz.prog Rows.topRoadsRow.laid w) false (World.doorLaid Tryz.prog 400 os) #[.agg #[.int .i64 0,.int .i64 0,.int .i64 0,.int .i64 0,.int .i64 0,.int .u64 0,.int .i64 0,.int .i64 0,.int .u64 0],.slice none 0 0] 8 rfl (w1 os) (w2 os) (w3 os H enc) (w4 os H enc) (w5 os)) ?_
 intro W base args ds gs before hval hW _ _ _ _;exact contract H enc W base args ds gs before hval hW
theorem proved:Rows.TopRoadsSaid:=
 OpenClaim.holds_of_wide 4 Tryz.f4 rfl rfl rfl rfl rfl rfl rfl ⟨rfl,rfl,rfl,rfl,rfl⟩ rfl rfl rfl rfl rfl qqk Tryz.func4 w6
  (qb qqk) (by unfold Func.isWrapper;first|(rw[qh (by decide +kernel)];kernel_rfl)|(rw[qe (by decide +kernel)];exact⟨rfl,rfl⟩))
  (fun os started H enc _=>lifted os started H enc)
end Go.Proofs.YtcghahkoioeddaaGreatDoor.topRoads
end
