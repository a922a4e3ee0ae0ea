/-
  The law 'TranscriptIdeal': it returns true for every input, and what it was given reads as it did. No conditions.
-/
import Derived.Test.YtponaobpcdkggaaA7
set_option linter.all false
set_option maxRecDepth 100000
noncomputable section
namespace Go.Proofs.Ytponaobpcdkggaa.transcriptIdeal
open Go Go.Bv Go.Cv Go.Md Go.RowKit Go.ChangeShapes Go.WideShapes Go.ChangeAt
theorem ty:typesOk Try.prog Try.f8.params.toList=true:=by kernel_rfl
theorem rt:Try.f8.resultTypes= #[4]:=by kernel_rfl
theorem sound (p0:Int) (p1:List TMessage) (p2:Int) (h0:(0≤p0∧p0<18446744073709551616)) (h1:(p1.length≤9223372036854775807∧∀y∈p1,kg3 y)) (h2:(0≤p2∧p2<256)):SoundH Try.prog 8 [vOf Try.prog 22 [D.int .u64 p0],vOf Try.prog 40 [D.slice 2 (p1.map encTMessage)],vOf Try.prog 5 [D.int .u8 p2]] [] (.d (.bool true)) []:=
 mpr_of (by kernel_rfl) (kvh (kuk p0 p1 p2 (kvi h0 h1 h2)))
set_option maxRecDepth 1000000 in
theorem contract (H:Type) (enc:TypeId×Value→H) (W:World) (base:Nat) (args:Array Value) (ds gs:List (DataW H)) (before:List MemPlace)
  (hval:∀(j:Nat) t v,Try.f8.params[j]? =some t→args[j]? =some v→Value.okWide Try.prog W .any base t v)
  (hW:DataW.Whole enc Try.prog Try.f8.params.toList Rows.transcriptIdealSpec.vars false W args.toList ds gs before):
  Calls Try.prog 8 args W fun e W' =>∃v,e= .returned v∧Rows.transcriptIdealSpec.post enc Try.prog Try.f8 false true false false W args v W' :=by
 have hW' :=hW
 obtain⟨p,q,hA0,hV,rfl,hfz,hnd⟩:=hW
 have hA:DataW.TrodAll enc Try.prog W 0 (fun _=>true) true Try.f8.params.toList args.toList ds p:=hA0
 rw[Try.params8]at hA hval
 obtain⟨v0,vs0,d0,ds0,pl0,q0,hargs0,rfl,rfl,t0,r0⟩:=trodAll_cons hA
 obtain⟨v1,vs1,d1,ds1,pl1,q1,hargs1,rfl,rfl,t1,r1⟩:=trodAll_cons r0
 obtain⟨v2,vs2,d2,ds2,pl2,q2,hargs2,rfl,rfl,t2,r2⟩:=trodAll_cons r1
 obtain⟨rfl,rfl,rfl⟩:=trodAll_nil r2
 obtain rfl:args= #[v0,v1,v2]:=Array.ext' (by rw[hargs0,hargs1,hargs2])
 obtain⟨rfl,rfl⟩:=trodVars_none hV
 obtain⟨xs0,hR0,hV0⟩:=k14w (h:=[]) (nx:=0) dt22 (hval 0 22 v0 rfl rfl) t0
 obtain⟨p0,rfl,h0⟩:=op22 (k:=0) hR0
 obtain⟨xs1,hR1,hV1⟩:=k14w (h:=[]) (nx:=0) dt40 (hval 1 40 v1 rfl rfl) t1
 obtain⟨p1,rfl,h1⟩:=op40 (k:=0) hR1
 obtain⟨xs2,hR2,hV2⟩:=k14w (h:=[]) (nx:=0) dt5 (hval 2 5 v2 rfl rfl) t2
 obtain⟨p2,rfl,h2⟩:=op5 (k:=0) hR2
 refine(law_of (sound p0 p1 p2 h0 h1 h2) (vs:=[v0,v1,v2]) rfl ?_).mono fun e W' hh=> ?_
 ·intro j v x hv hx
  match j with
  |0=>simp at hv hx;subst hv;subst hx;exact hV0
  |1=>simp at hv hx;subst hv;subst hx;exact hV1
  |2=>simp at hv hx;subst hv;subst hx;exact hV2
  |j+3=>simp at hv
 ·obtain⟨⟨v,G',rfl,hv⟩,hb⟩:=hh
  refine⟨_,rfl,?_⟩
  cases hv with|d _ _ hd=>
  cases hd
  exact k1gu rfl hW' laid ty rt Try.underlying4 rfl rfl rfl hb
theorem lifted (os:Os) (started:os.Started) (H:Type) (enc:TypeId×Value→H):
  ReturnsInHanded {} Try.checked os 8 .any (Rows.transcriptIdealSpec.pre6 enc Try.prog Try.f8 Rows.transcriptIdealRow.domain false) (Rows.transcriptIdealSpec.post enc Try.prog Try.f8 false true false false):=by
 refine returnsInHanded_of_change (C:=Try.checked) own started (by kernel_rfl) Try.func8
  (ChangeSpec.witness6 (enc:=enc) (C:=Try.checked) false ⟨#[],#[.int .u64 0,.slice none 0 0,.int .u8 0],[]⟩ 8 (by kernel_rfl) (by kernel_rfl) (by kernel_rfl) (by kernel_rfl)) ?_
 intro W base args ds gs before hval hW _ _
 exact contract H enc W base args ds gs before hval hW
theorem proved:Rows.TranscriptIdealSaid:=
 OpenClaim.holds_of_wide 8 Try.f8 rfl rfl rfl rfl rfl rfl rfl ⟨rfl,rfl,rfl,rfl,rfl⟩ rfl rfl rfl rfl rfl (by kernel_rfl) Try.func8 (by kernel_rfl)
  (of_decide_eq_true (by kernel_rfl)) (by unfold Func.isWrapper;first|(rw[if_pos (by decide +kernel)];kernel_rfl)|(rw[if_neg (by decide +kernel)];exact⟨rfl,rfl⟩))
  (fun os started H enc _=>lifted os started H enc)
end Go.Proofs.Ytponaobpcdkggaa.transcriptIdeal
end
