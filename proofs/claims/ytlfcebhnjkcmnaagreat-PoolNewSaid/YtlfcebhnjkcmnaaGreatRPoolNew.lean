/-
  The law 'PoolNew': it returns true for every input, and what it was given reads as it did. No conditions.
-/
import Derived.Test.YtlfcebhnjkcmnaaGreatA7
set_option linter.all false
set_option maxRecDepth 100000
noncomputable section
namespace Go.Proofs.YtlfcebhnjkcmnaaGreat.poolNew
open Go Go.Bv Go.Cv Go.Md Go.RowKit Go.ChangeShapes Go.WideShapes Go.ChangeAt
theorem ty:typesOk Tryz.prog Tryz.f7.params.toList=true:=by kernel_rfl
theorem rt:Tryz.f7.resultTypes= #[4]:=by kernel_rfl
theorem sound (p0:wF) (h0:kw p0):SoundH Tryz.prog 7 [vOf Tryz.prog 26 ((encTRules p0).cells)] [] (.d (.bool true)) []:=
 mpr_of (by kernel_rfl) (kdq.at (show HL TB.den (hsT k1k.ins (hsOs k1k.pre))from(p0.wl,p0.wD,p0.wJ,p0.wH,p0.wG,p0.wO,p0.wU,p0.wP,p0.wh,())) (show HL TB.den (hsV k1k.res (hsOs k1k.post))from(true,())) (And.intro (kby h0) rfl))
set_option maxRecDepth 1000000 in
theorem contract (H:Type) (enc:TypeId×Value->H) (W:World) (base:Nat) (args:Array Value) (ds gs:List (DataW H)) (before:List MemPlace)
  (hval:∀(j:Nat) t v,Tryz.f7.params[j]? =some t->args[j]? =some v->Value.okWide Tryz.prog W .any base t v)
  (hW:DataW.Whole enc Tryz.prog Tryz.f7.params.toList Rows.poolNewSpec.vars false W args.toList ds gs before):
  Calls Tryz.prog 7 args W fun e W' =>∃v,e= .returned v/\Rows.poolNewSpec.post enc Tryz.prog Tryz.f7 false true false false W args v W' :=by
 have hW' :=hW
 obtain⟨p,q,hA0,hV,rfl,hfz,hnd⟩:=hW
 have hA:DataW.TrodAll enc Tryz.prog W 0 (fun _=>true) true Tryz.f7.params.toList args.toList ds p:=hA0
 rw[Tryz.params7]at hA hval
 obtain⟨v0,vs0,d0,ds0,pl0,q0,hargs0,rfl,rfl,t0,r0⟩:=trodAll_cons hA
 obtain⟨rfl,rfl,rfl⟩:=trodAll_nil r0
 obtain rfl:args= #[v0]:=Array.ext' (by rw[hargs0])
 obtain⟨rfl,rfl⟩:=trodVars_none hV
 obtain⟨xs0,hR0,hV0⟩:=ku (h:=[]) (nx:=0) dt26 (hval 0 26 v0 rfl rfl) t0
 obtain⟨p0,rfl,h0⟩:=op26 (k:=0) hR0
 refine(law_of (sound p0 h0) (vs:=[v0]) rfl ?_).mono fun e W' hh=> ?_
 ·intro j v x hv hx
  match j with
  |0=>simp at hv hx;subst hv;subst hx;exact hV0
  |j+1=>simp at hv
 ·obtain⟨⟨v,G',rfl,hv⟩,hb⟩:=hh
  refine⟨_,rfl,?_⟩
  cases hv with|d _ _ hd=>
  cases hd
  exact k2p rfl hW' laid ty rt Tryz.underlying4 rfl rfl rfl hb
theorem lifted (os:Os) (started:os.Started) (H:Type) (enc:TypeId×Value->H):
  ReturnsInHanded {} Tryz.checked os 7 .any (Rows.poolNewSpec.pre6 enc Tryz.prog Tryz.f7 Rows.poolNewRow.domain false) (Rows.poolNewSpec.post enc Tryz.prog Tryz.f7 false true false false):=by
 refine returnsInHanded_of_change (C:=Tryz.checked) own started (by kernel_rfl) Tryz.func7
  (ChangeSpec.witness6 (enc:=enc) (C:=Tryz.checked) false ⟨#[],#[.agg #[.int .i64 0,.int .i64 0,.int .i64 0,.int .i64 0,.int .i64 0,.int .u64 0,.int .i64 0,.int .i64 0,.int .u64 0]],[]⟩ 8 (by kernel_rfl) (by kernel_rfl) (by kernel_rfl) (by kernel_rfl)) ?_
 intro W base args ds gs before hval hW _ _
 exact contract H enc W base args ds gs before hval hW
theorem proved:Rows.PoolNewSaid:=
 OpenClaim.holds_of_wide 7 Tryz.f7 rfl rfl rfl rfl rfl rfl rfl ⟨rfl,rfl,rfl,rfl,rfl⟩ rfl rfl rfl rfl rfl (by kernel_rfl) Tryz.func7 (by kernel_rfl)
  (of_decide_eq_true (by kernel_rfl)) (by unfold Func.isWrapper;first|(rw[if_pos (by decide +kernel)];kernel_rfl)|(rw[if_neg (by decide +kernel)];exact⟨rfl,rfl⟩))
  (fun os started H enc _=>lifted os started H enc)
end Go.Proofs.YtlfcebhnjkcmnaaGreat.poolNew
end
