/-
  The law 'PoolSupply': it returns true for every input, and what it was given reads as it did. No conditions.
-/
import Derived.Test.YtlfcebhnjkcmnaaGreatA7
set_option linter.all false
set_option maxRecDepth 100000
noncomputable section
namespace Go.Proofs.YtlfcebhnjkcmnaaGreat.poolSupply
open Go Go.Bv Go.Cv Go.Md Go.RowKit Go.ChangeShapes Go.WideShapes Go.ChangeAt
theorem ty:typesOk Tryz.prog Tryz.f3.params.toList=true:=by kernel_rfl
theorem rt:Tryz.f3.resultTypes= #[4]:=by kernel_rfl
theorem sound (p0:wF) (p1:List wAO) (h0:kxx p0) (h1:(p1.length<=9223372036854775807/\∀y∈p1,k14x y)):SoundH Tryz.prog 3 [vOf Tryz.prog 26 ((encTRules p0).cells),vOf Tryz.prog 27 [D.slice 7 (p1.map encTOp)]] [] (.d (.bool true)) []:=
 mpr_of (by kernel_rfl) (k13z (k113 p0 p1 (k147 h0 h1)))
set_option maxRecDepth 1000000 in
theorem contract (H:Type) (enc:TypeId×Value->H) (W:World) (base:Nat) (args:Array Value) (ds gs:List (DataW H)) (before:List MemPlace)
  (hval:∀(j:Nat) t v,Tryz.f3.params[j]? =some t->args[j]? =some v->Value.okWide Tryz.prog W .any base t v)
  (hW:DataW.Whole enc Tryz.prog Tryz.f3.params.toList Rows.poolSupplySpec.vars false W args.toList ds gs before):
  Calls Tryz.prog 3 args W fun e W' =>∃v,e= .returned v/\Rows.poolSupplySpec.post enc Tryz.prog Tryz.f3 false true false false W args v W' :=by
 have hW' :=hW
 obtain⟨p,q,hA0,hV,rfl,hfz,hnd⟩:=hW
 have hA:DataW.TrodAll enc Tryz.prog W 0 (fun _=>true) true Tryz.f3.params.toList args.toList ds p:=hA0
 rw[Tryz.params3]at hA hval
 obtain⟨v0,vs0,d0,ds0,pl0,q0,hargs0,rfl,rfl,t0,r0⟩:=trodAll_cons hA
 obtain⟨v1,vs1,d1,ds1,pl1,q1,hargs1,rfl,rfl,t1,r1⟩:=trodAll_cons r0
 obtain⟨rfl,rfl,rfl⟩:=trodAll_nil r1
 obtain rfl:args= #[v0,v1]:=Array.ext' (by rw[hargs0,hargs1])
 obtain⟨rfl,rfl⟩:=trodVars_none hV
 obtain⟨xs0,hR0,hV0⟩:=k1rs (h:=[]) (nx:=0) dt26 (hval 0 26 v0 rfl rfl) t0
 obtain⟨p0,rfl,h0⟩:=op26 (k:=0) hR0
 obtain⟨xs1,hR1,hV1⟩:=k1rs (h:=[]) (nx:=0) dt27 (hval 1 27 v1 rfl rfl) t1
 obtain⟨p1,rfl,h1⟩:=op27 (k:=0) hR1
 refine(law_of (sound p0 p1 h0 h1) (vs:=[v0,v1]) rfl ?_).mono fun e W' hh=> ?_
 ·intro j v x hv hx
  match j with
  |0=>simp at hv hx;subst hv;subst hx;exact hV0
  |1=>simp at hv hx;subst hv;subst hx;exact hV1
  |j+2=>simp at hv
 ·obtain⟨⟨v,G',rfl,hv⟩,hb⟩:=hh
  refine⟨_,rfl,?_⟩
  cases hv with|d _ _ hd=>
  cases hd
  exact k1zo rfl hW' laid ty rt Tryz.underlying4 rfl rfl rfl hb
theorem lifted (os:Os) (started:os.Started) (H:Type) (enc:TypeId×Value->H):
  ReturnsInHanded {} Tryz.checked os 3 .any (Rows.poolSupplySpec.pre6 enc Tryz.prog Tryz.f3 Rows.poolSupplyRow.domain false) (Rows.poolSupplySpec.post enc Tryz.prog Tryz.f3 false true false false):=by
 refine returnsInHanded_of_change (C:=Tryz.checked) own started (by kernel_rfl) Tryz.func3
  (ChangeSpec.witness6 (enc:=enc) (C:=Tryz.checked) false ⟨#[],#[.agg #[.int .i64 0,.int .i64 0,.int .i64 0,.int .i64 0,.int .i64 0,.int .u64 0,.int .i64 0,.int .i64 0,.int .u64 0],.slice none 0 0],[]⟩ 8 (by kernel_rfl) (by kernel_rfl) (by kernel_rfl) (by kernel_rfl)) ?_
 intro W base args ds gs before hval hW _ _
 exact contract H enc W base args ds gs before hval hW
theorem proved:Rows.PoolSupplySaid:=
 OpenClaim.holds_of_wide 3 Tryz.f3 rfl rfl rfl rfl rfl rfl rfl ⟨rfl,rfl,rfl,rfl,rfl⟩ rfl rfl rfl rfl rfl (by kernel_rfl) Tryz.func3 (by kernel_rfl)
  (of_decide_eq_true (by kernel_rfl)) (by unfold Func.isWrapper;first|(rw[if_pos (by decide +kernel)];kernel_rfl)|(rw[if_neg (by decide +kernel)];exact⟨rfl,rfl⟩))
  (fun os started H enc _=>lifted os started H enc)
end Go.Proofs.YtlfcebhnjkcmnaaGreat.poolSupply
end
