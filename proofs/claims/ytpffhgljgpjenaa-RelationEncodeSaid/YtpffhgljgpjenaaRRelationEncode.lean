/-
  The law 'RelationEncode': it returns true for every input, and what it was given reads as it did. No conditions.
-/
import Derived.Test.YtpffhgljgpjenaaA7
set_option linter.all false
set_option maxRecDepth 100000
noncomputable section
namespace Go.Proofs.Ytpffhgljgpjenaa.relationEncode
open Go Go.Bv Go.Cv Go.Md Go.RowKit Go.ChangeShapes Go.WideShapes Go.ChangeAt
theorem ty:typesOk Try.prog Try.f6.params.toList=true:=by kernel_rfl
theorem rt:Try.f6.resultTypes= #[4]:=by kernel_rfl
theorem sound (p0:TWitness) (h0:kkz p0):SoundH Try.prog 6 [vOf Try.prog 26 ((encTWitness p0).cells)] [] (.d (.bool true)) []:=
 mpr_of (by kernel_rfl) (kur (ksk p0 (kuh h0)))
set_option maxRecDepth 1000000 in
theorem contract (H:Type) (enc:TypeId×Value→H) (W:World) (base:Nat) (args:Array Value) (ds gs:List (DataW H)) (before:List MemPlace)
  (hval:∀(j:Nat) t v,Try.f6.params[j]? =some t→args[j]? =some v→Value.okWide Try.prog W .any base t v)
  (hW:DataW.Whole enc Try.prog Try.f6.params.toList Rows.relationEncodeSpec.vars false W args.toList ds gs before):
  Calls Try.prog 6 args W fun e W' =>∃v,e= .returned v∧Rows.relationEncodeSpec.post enc Try.prog Try.f6 false true false false W args v W' :=by
 have hW' :=hW
 obtain⟨p,q,hA0,hV,rfl,hfz,hnd⟩:=hW
 have hA:DataW.TrodAll enc Try.prog W 0 (fun _=>true) true Try.f6.params.toList args.toList ds p:=hA0
 rw[Try.params6]at hA hval
 obtain⟨v0,vs0,d0,ds0,pl0,q0,hargs0,rfl,rfl,t0,r0⟩:=trodAll_cons hA
 obtain⟨rfl,rfl,rfl⟩:=trodAll_nil r0
 obtain rfl:args= #[v0]:=Array.ext' (by rw[hargs0])
 obtain⟨rfl,rfl⟩:=trodVars_none hV
 obtain⟨xs0,hR0,hV0⟩:=k1px (h:=[]) (nx:=0) dt26 (hval 0 26 v0 rfl rfl) t0
 obtain⟨p0,rfl,h0⟩:=op26 (k:=0) hR0
 refine(law_of (sound p0 h0) (vs:=[v0]) rfl ?_).mono fun e W' hh=> ?_
 ·intro j v x hv hx
  match j with
  |0=>simp at hv hx;subst hv;subst hx;exact hV0
  |j+1=>simp at hv
 ·obtain⟨⟨v,G',rfl,hv⟩,hb⟩:=hh
  refine⟨_,rfl,?_⟩
  cases hv with|d _ _ hd=>
  cases hd
  exact k1pr rfl hW' laid ty rt Try.underlying4 rfl rfl rfl hb
theorem lifted (os:Os) (started:os.Started) (H:Type) (enc:TypeId×Value→H):
  ReturnsInHanded {} Try.checked os 6 .any (Rows.relationEncodeSpec.pre6 enc Try.prog Try.f6 Rows.relationEncodeRow.domain false) (Rows.relationEncodeSpec.post enc Try.prog Try.f6 false true false false):=by
 refine returnsInHanded_of_change (C:=Try.checked) own started (by kernel_rfl) Try.func6
  (ChangeSpec.witness6 (enc:=enc) (C:=Try.checked) false ⟨#[],#[.agg #[.slice none 0 0,.slice none 0 0,.int .u64 0]],[]⟩ 8 (by kernel_rfl) (by kernel_rfl) (by kernel_rfl) (by kernel_rfl)) ?_
 intro W base args ds gs before hval hW _ _
 exact contract H enc W base args ds gs before hval hW
theorem proved:Rows.RelationEncodeSaid:=
 OpenClaim.holds_of_wide 6 Try.f6 rfl rfl rfl rfl rfl rfl rfl ⟨rfl,rfl,rfl,rfl,rfl⟩ rfl rfl rfl rfl rfl (by kernel_rfl) Try.func6 (by kernel_rfl)
  (of_decide_eq_true (by kernel_rfl)) (by unfold Func.isWrapper;first|(rw[if_pos (by decide +kernel)];kernel_rfl)|(rw[if_neg (by decide +kernel)];exact⟨rfl,rfl⟩))
  (fun os started H enc _=>lifted os started H enc)
end Go.Proofs.Ytpffhgljgpjenaa.relationEncode
end
