/-
  The law 'RelationIdeal': it returns true for every input, and what it was given reads as it did. No conditions.
-/
import Derived.Test.YtpffhgljgpjenaaA7
set_option linter.all false
set_option maxRecDepth 100000
noncomputable section
namespace Go.Proofs.Ytpffhgljgpjenaa.relationIdeal
open Go Go.Bv Go.Cv Go.Md Go.RowKit Go.ChangeShapes Go.WideShapes Go.ChangeAt
theorem ty:typesOk Try.prog Try.f5.params.toList=true:=by kernel_rfl
theorem rt:Try.f5.resultTypes= #[4]:=by kernel_rfl
theorem sound (p0:TStatement) (p1:TWitness) (p2:TIdeal) (h0:ke7 p0) (h1:kk0 p1) (h2:k16e p2):SoundH Try.prog 5 [vOf Try.prog 31 ((encTStatement p0).cells),vOf Try.prog 26 ((encTWitness p1).cells),vOf Try.prog 41 ((encTIdeal p2).cells)] [] (.d (.bool true)) []:=
 mpr_of (by kernel_rfl) (kur (ksz p0 p1 p2 (kv8 h0 h1 h2)))
set_option maxRecDepth 1000000 in
theorem contract (H:Type) (enc:TypeId×Value→H) (W:World) (base:Nat) (args:Array Value) (ds gs:List (DataW H)) (before:List MemPlace)
  (hval:∀(j:Nat) t v,Try.f5.params[j]? =some t→args[j]? =some v→Value.okWide Try.prog W .any base t v)
  (hW:DataW.Whole enc Try.prog Try.f5.params.toList Rows.relationIdealSpec.vars false W args.toList ds gs before):
  Calls Try.prog 5 args W fun e W' =>∃v,e= .returned v∧Rows.relationIdealSpec.post enc Try.prog Try.f5 false true false false W args v W' :=by
 have hW' :=hW
 obtain⟨p,q,hA0,hV,rfl,hfz,hnd⟩:=hW
 have hA:DataW.TrodAll enc Try.prog W 0 (fun _=>true) true Try.f5.params.toList args.toList ds p:=hA0
 rw[Try.params5]at hA hval
 obtain⟨v0,vs0,d0,ds0,pl0,q0,hargs0,rfl,rfl,t0,r0⟩:=trodAll_cons hA
 obtain⟨v1,vs1,d1,ds1,pl1,q1,hargs1,rfl,rfl,t1,r1⟩:=trodAll_cons r0
 obtain⟨v2,vs2,d2,ds2,pl2,q2,hargs2,rfl,rfl,t2,r2⟩:=trodAll_cons r1
 obtain⟨rfl,rfl,rfl⟩:=trodAll_nil r2
 obtain rfl:args= #[v0,v1,v2]:=Array.ext' (by rw[hargs0,hargs1,hargs2])
 obtain⟨rfl,rfl⟩:=trodVars_none hV
 obtain⟨xs0,hR0,hV0⟩:=k17o (h:=[]) (nx:=0) dt31 (hval 0 31 v0 rfl rfl) t0
 obtain⟨p0,rfl,h0⟩:=op31 (k:=0) hR0
 obtain⟨xs1,hR1,hV1⟩:=k17o (h:=[]) (nx:=0) dt26 (hval 1 26 v1 rfl rfl) t1
 obtain⟨p1,rfl,h1⟩:=op26 (k:=0) hR1
 obtain⟨xs2,hR2,hV2⟩:=k17o (h:=[]) (nx:=0) dt41 (hval 2 41 v2 rfl rfl) t2
 obtain⟨p2,rfl,h2⟩:=op41 (k:=0) hR2
 refine(law_of (sound p0 p1 p2 h0 h1 h2) (vs:=[v0,v1,v2]) rfl ?_).mono fun e W' hh=> ?_
 ·intro j v x hv hx
  match j with
  |0=>simp at hv hx;subst hv;subst hx;exact hV0
  |1=>simp at hv hx;subst hv;subst hx;exact hV1
  |2=>simp at hv hx;subst hv;subst hx;exact hV2
  |j+3=>simp at hv
 ·obtain⟨⟨v,G',rfl,hv⟩,hb⟩:=hh
  refine⟨_,rfl,?_⟩
  cases hv with|d _ _ hd=>
  cases hd
  exact k1or rfl hW' laid ty rt Try.underlying4 rfl rfl rfl hb
theorem lifted (os:Os) (started:os.Started) (H:Type) (enc:TypeId×Value→H):
  ReturnsInHanded {} Try.checked os 5 .any (Rows.relationIdealSpec.pre6 enc Try.prog Try.f5 Rows.relationIdealRow.domain false) (Rows.relationIdealSpec.post enc Try.prog Try.f5 false true false false):=by
 refine returnsInHanded_of_change (C:=Try.checked) own started (by kernel_rfl) Try.func5
  (ChangeSpec.witness6 (enc:=enc) (C:=Try.checked) false ⟨#[],#[.agg #[.int .i64 0,.int .u64 0,.slice none 0 0,.slice none 0 0,.slice none 0 0,.int .u64 0,.int .u64 0,.int .u64 0,.int .u64 0,.int .u64 0],.agg #[.slice none 0 0,.slice none 0 0,.int .u64 0],.agg #[.int .u64 0,.int .u16 0]],[]⟩ 8 (by kernel_rfl) (by kernel_rfl) (by kernel_rfl) (by kernel_rfl)) ?_
 intro W base args ds gs before hval hW _ _
 exact contract H enc W base args ds gs before hval hW
theorem proved:Rows.RelationIdealSaid:=
 OpenClaim.holds_of_wide 5 Try.f5 rfl rfl rfl rfl rfl rfl rfl ⟨rfl,rfl,rfl,rfl,rfl⟩ rfl rfl rfl rfl rfl (by kernel_rfl) Try.func5 (by kernel_rfl)
  (of_decide_eq_true (by kernel_rfl)) (by unfold Func.isWrapper;first|(rw[if_pos (by decide +kernel)];kernel_rfl)|(rw[if_neg (by decide +kernel)];exact⟨rfl,rfl⟩))
  (fun os started H enc _=>lifted os started H enc)
end Go.Proofs.Ytpffhgljgpjenaa.relationIdeal
end
