/-
  The law 'MempoolSound': it returns true for every input, and what it was given reads as it did. No conditions.
-/
import Derived.Test.YtpllcoldaiineaaGreatA6
set_option linter.all false
set_option maxRecDepth 100000
noncomputable section
namespace Go.Proofs.YtpllcoldaiineaaGreat.mempoolSound
open Go Go.Bv Go.Cv Go.Md Go.RowKit Go.ChangeShapes Go.WideShapes Go.ChangeAt
theorem ty:typesOk Tryz.prog Tryz.f7.params.toList=true:=by kernel_rfl
theorem rt:Tryz.f7.resultTypes= #[4]:=by kernel_rfl
theorem sound (p0:Int) (p1:List wo) (h0:((-9223372036854775808)<=p0/\p0<9223372036854775808)) (h1:(p1.length<=9223372036854775807/\∀y∈p1,k21 y)):SoundH Tryz.prog 7 [vOf Tryz.prog 3 [D.int .i64 p0],vOf Tryz.prog 46 [D.slice 11 (p1.map encTOp)]] [] (.d (.bool true)) []:=
 mpr_of (by kernel_rfl) (k83.at (show HL TB.den (hsT kw.ins (hsOs kw.pre))from(p0,p1,())) (show HL TB.den (hsV kw.res (hsOs kw.post))from(true,())) (And.intro (k73 h0 h1) rfl))
set_option maxRecDepth 1000000 in
theorem contract (H:Type) (enc:TypeId×Value->H) (W:World) (base:Nat) (args:Array Value) (ds gs:List (DataW H)) (before:List MemPlace)
  (hval:∀(j:Nat) t v,Tryz.f7.params[j]? =some t->args[j]? =some v->Value.okWide Tryz.prog W .any base t v)
  (hW:DataW.Whole enc Tryz.prog Tryz.f7.params.toList Rows.mempoolSoundSpec.vars false W args.toList ds gs before):
  Calls Tryz.prog 7 args W fun e W' =>∃v,e= .returned v/\Rows.mempoolSoundSpec.post enc Tryz.prog Tryz.f7 false true false false W args v W' :=by
 have hW' :=hW
 obtain⟨p,q,hA0,hV,rfl,hfz,hnd⟩:=hW
 have hA:DataW.TrodAll enc Tryz.prog W 0 (fun _=>true) true Tryz.f7.params.toList args.toList ds p:=hA0
 rw[Tryz.params7]at hA hval
 obtain⟨v0,vs0,d0,ds0,pl0,q0,hargs0,rfl,rfl,t0,r0⟩:=trodAll_cons hA
 obtain⟨v1,vs1,d1,ds1,pl1,q1,hargs1,rfl,rfl,t1,r1⟩:=trodAll_cons r0
 obtain⟨rfl,rfl,rfl⟩:=trodAll_nil r1
 obtain rfl:args= #[v0,v1]:=Array.ext' (by rw[hargs0,hargs1])
 obtain⟨rfl,rfl⟩:=trodVars_none hV
 obtain⟨xs0,hR0,hV0⟩:=k17 (h:=[]) (nx:=0) dt3 (hval 0 3 v0 rfl rfl) t0
 obtain⟨p0,rfl,h0⟩:=op3 (k:=0) hR0
 obtain⟨xs1,hR1,hV1⟩:=k17 (h:=[]) (nx:=0) dt46 (hval 1 46 v1 rfl rfl) t1
 obtain⟨p1,rfl,h1⟩:=op46 (k:=0) hR1
 refine(law_of (sound p0 p1 h0 h1) (vs:=[v0,v1]) rfl ?_).mono fun e W' hh=> ?_
 ·intro j v x hv hx
  match j with
  |0=>simp at hv hx;subst hv;subst hx;exact hV0
  |1=>simp at hv hx;subst hv;subst hx;exact hV1
  |j+2=>simp at hv
 ·obtain⟨⟨v,G',rfl,hv⟩,hb⟩:=hh
  refine⟨_,rfl,?_⟩
  cases hv with|d _ _ hd=>
  cases hd
  exact k53 rfl hW' laid ty rt Tryz.underlying4 rfl rfl rfl hb
theorem lifted (os:Os) (started:os.Started) (H:Type) (enc:TypeId×Value->H):
  ReturnsInHanded {} Tryz.checked os 7 .any (Rows.mempoolSoundSpec.pre6 enc Tryz.prog Tryz.f7 Rows.mempoolSoundRow.domain false) (Rows.mempoolSoundSpec.post enc Tryz.prog Tryz.f7 false true false false):=by
 refine returnsInHanded_of_change (C:=Tryz.checked) own started (by kernel_rfl) Tryz.func7
  (ChangeSpec.witness6 (enc:=enc) (C:=Tryz.checked) false ⟨#[],#[.int .i64 0,.slice none 0 0],[]⟩ 8 (by kernel_rfl) (by kernel_rfl) (by kernel_rfl) (by kernel_rfl)) ?_
 intro W base args ds gs before hval hW _ _
 exact contract H enc W base args ds gs before hval hW
theorem proved:Rows.MempoolSoundSaid:=
 OpenClaim.holds_of_wide 7 Tryz.f7 rfl rfl rfl rfl rfl rfl rfl ⟨rfl,rfl,rfl,rfl,rfl⟩ rfl rfl rfl rfl rfl (by kernel_rfl) Tryz.func7 (by kernel_rfl)
  (of_decide_eq_true (by kernel_rfl)) (by unfold Func.isWrapper;first|(rw[if_pos (by decide +kernel)];kernel_rfl)|(rw[if_neg (by decide +kernel)];exact⟨rfl,rfl⟩))
  (fun os started H enc _=>lifted os started H enc)
end Go.Proofs.YtpllcoldaiineaaGreat.mempoolSound
end
