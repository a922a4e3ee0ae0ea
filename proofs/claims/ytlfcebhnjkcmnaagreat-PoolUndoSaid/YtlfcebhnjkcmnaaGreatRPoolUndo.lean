/-
  The law 'PoolUndo': it returns true for every input, and what it was given reads as it did. No conditions.
-/
import Derived.Test.YtlfcebhnjkcmnaaGreatA7
set_option linter.all false
set_option maxRecDepth 100000
noncomputable section
namespace Go.Proofs.YtlfcebhnjkcmnaaGreat.poolUndo
open Go Go.Bv Go.Cv Go.Md Go.RowKit Go.ChangeShapes Go.WideShapes Go.ChangeAt
theorem ty:typesOk Tryz.prog Tryz.f10.params.toList=true:=by kernel_rfl
theorem rt:Tryz.f10.resultTypes= #[4]:=by kernel_rfl
theorem sound (p0:wF) (p1:List wAD) (p2:wV) (h0:k19 p0) (h1:(p1.length<=9223372036854775807/\∀y∈p1,k21 y)) (h2:k56 p2) (z1:p1.length*72<=140737488351232):SoundH Tryz.prog 10 [vOf Tryz.prog 26 ((encTRules p0).cells),vOf Tryz.prog 27 [D.slice 7 (p1.map encTOp)],vOf Tryz.prog 66 ((encTBlock p2).cells)] [] (.d (.bool true)) []:=
 mpr_of (by kernel_rfl) (kcm.at (show HL TB.den (hsT k1f.ins (hsOs k1f.pre))from(p0.wm,p0.wD,p0.wJ,p0.wI,p0.wG,p0.wP,p0.wU,p0.wO,p0.wh,p1,p2.wAW,p2.wS,p2.wAM,p2.wh,p2.wL,p2.Txs,())) (show HL TB.den (hsV k1f.res (hsOs k1f.post))from(true,())) (And.intro (kbe h0 h1 h2 z1) rfl))
set_option maxRecDepth 1000000 in
theorem contract (H:Type) (enc:TypeId×Value->H) (W:World) (base:Nat) (args:Array Value) (ds gs:List (DataW H)) (before:List MemPlace)
  (hval:∀(j:Nat) t v,Tryz.f10.params[j]? =some t->args[j]? =some v->Value.okWide Tryz.prog W .any base t v)
  (hW:DataW.Whole enc Tryz.prog Tryz.f10.params.toList Rows.poolUndoSpec.vars false W args.toList ds gs before)
  (hz:(DataW.weightsEach Tryz.prog (Tryz.f10.params.toList++Rows.poolUndoSpec.plain.varTypes Tryz.prog) (ds++gs)).all (·<=reachBytes)=true):
  Calls Tryz.prog 10 args W fun e W' =>∃v,e= .returned v/\Rows.poolUndoSpec.post enc Tryz.prog Tryz.f10 false true false false W args v W' :=by
 have hW' :=hW
 obtain⟨p,q,hA0,hV,rfl,hfz,hnd⟩:=hW
 have hA:DataW.TrodAll enc Tryz.prog W 0 (fun _=>true) true Tryz.f10.params.toList args.toList ds p:=hA0
 rw[Tryz.params10]at hA hval
 obtain⟨v0,vs0,d0,ds0,pl0,q0,hargs0,rfl,rfl,t0,r0⟩:=trodAll_cons hA
 obtain⟨v1,vs1,d1,ds1,pl1,q1,hargs1,rfl,rfl,t1,r1⟩:=trodAll_cons r0
 obtain⟨v2,vs2,d2,ds2,pl2,q2,hargs2,rfl,rfl,t2,r2⟩:=trodAll_cons r1
 obtain⟨rfl,rfl,rfl⟩:=trodAll_nil r2
 obtain rfl:args= #[v0,v1,v2]:=Array.ext' (by rw[hargs0,hargs1,hargs2])
 obtain⟨rfl,rfl⟩:=trodVars_none hV
 obtain⟨xs0,hR0,hV0⟩:=k13 (h:=[]) (nx:=0) dt26 (hval 0 26 v0 rfl rfl) t0
 obtain⟨p0,rfl,h0⟩:=op26 (k:=0) hR0
 obtain⟨xs1,hR1,hV1⟩:=k13 (h:=[]) (nx:=0) dt27 (hval 1 27 v1 rfl rfl) t1
 obtain⟨p1,rfl,h1⟩:=op27 (k:=0) hR1
 obtain⟨xs2,hR2,hV2⟩:=k13 (h:=[]) (nx:=0) dt66 (hval 2 66 v2 rfl rfl) t2
 obtain⟨p2,rfl,h2⟩:=op66 (k:=0) hR2
 have z1:p1.length*72<=140737488351232:=by
  have q:=kkm (j:=1) hz (by kernel_rfl) rfl (show Tryz.prog.underlying 27=some (.slice 68)by kernel_rfl) hR1
  rw[List.length_map,show Tryz.prog.bytesOf 68=72 by kernel_rfl]at q
  exact q
 refine(law_of (sound p0 p1 p2 h0 h1 h2 z1) (vs:=[v0,v1,v2]) rfl ?_).mono fun e W' hh=> ?_
 ·intro j v x hv hx
  match j with
  |0=>simp at hv hx;subst hv;subst hx;exact hV0
  |1=>simp at hv hx;subst hv;subst hx;exact hV1
  |2=>simp at hv hx;subst hv;subst hx;exact hV2
  |j+3=>simp at hv
 ·obtain⟨⟨v,G',rfl,hv⟩,hb⟩:=hh
  refine⟨_,rfl,?_⟩
  cases hv with|d _ _ hd=>
  cases hd
  exact k4p rfl hW' laid ty rt Tryz.underlying4 rfl rfl rfl hb
theorem lifted (os:Os) (started:os.Started) (H:Type) (enc:TypeId×Value->H):
  ReturnsInHanded {} Tryz.checked os 10 .any (Rows.poolUndoSpec.pre6 enc Tryz.prog Tryz.f10 Rows.poolUndoRow.domain false) (Rows.poolUndoSpec.post enc Tryz.prog Tryz.f10 false true false false):=by
 refine returnsInHanded_of_change_sized (C:=Tryz.checked) own started (by kernel_rfl) Tryz.func10
  (ChangeSpec.witness6 (enc:=enc) (C:=Tryz.checked) false ⟨#[],#[.agg #[.int .i64 0,.int .i64 0,.int .i64 0,.int .i64 0,.int .i64 0,.int .u64 0,.int .i64 0,.int .i64 0,.int .u64 0],.slice none 0 0,.agg #[.int .u64 0,.int .i64 0,.int .u64 0,.int .u64 0,.int .u64 0,.slice none 0 0]],[]⟩ 8 (by kernel_rfl) (by kernel_rfl) (by kernel_rfl) (by kernel_rfl)) ?_
 intro W base args ds gs before hval hW _ hz _
 exact contract H enc W base args ds gs before hval hW hz
theorem proved:Rows.PoolUndoSaid:=
 OpenClaim.holds_of_wide 10 Tryz.f10 rfl rfl rfl rfl rfl rfl rfl ⟨rfl,rfl,rfl,rfl,rfl⟩ rfl rfl rfl rfl rfl (by kernel_rfl) Tryz.func10 (by kernel_rfl)
  (of_decide_eq_true (by kernel_rfl)) (by unfold Func.isWrapper;first|(rw[if_pos (by decide +kernel)];kernel_rfl)|(rw[if_neg (by decide +kernel)];exact⟨rfl,rfl⟩))
  (fun os started H enc _=>lifted os started H enc)
end Go.Proofs.YtlfcebhnjkcmnaaGreat.poolUndo
end
