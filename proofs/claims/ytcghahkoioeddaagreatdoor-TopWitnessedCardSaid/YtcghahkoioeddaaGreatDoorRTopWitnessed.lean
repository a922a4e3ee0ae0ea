/-
  The law 'TopWitnessed': it returns true for every input, and what it was given reads as it did. No conditions.
-/
import Derived.Test.YtcghahkoioeddaaGreatDoorA7
import Derived.Test.YtcghahkoioeddaaGreatDoorRows
import Derived.Test.YtcghahkoioeddaaGreatDoorTi5
import Derived.Test.YtcghahkoioeddaaGreatDoorWTopWitnessed1
import Derived.Test.YtcghahkoioeddaaGreatDoorWTopWitnessed2
import Derived.Test.YtcghahkoioeddaaGreatDoorWTopWitnessed3
import Derived.Test.YtcghahkoioeddaaGreatDoorWTopWitnessed4
import Derived.Test.YtcghahkoioeddaaGreatDoorWTopWitnessed5
import Derived.Test.YtcghahkoioeddaaGreatDoorWTopWitnessed6
set_option linter.all false
set_option maxRecDepth 100000
noncomputable section
namespace Go.Proofs.YtcghahkoioeddaaGreatDoor.topWitnessed
open Go Go.Bv Go.Cv Go.Md Go.RowKit Go.ChangeShapes Go.WideShapes Go.ChangeAt
theorem ty:typesOk Tryz.prog Tryz.f5.params.toList=true:=by kernel_rfl
theorem rt:Tryz.f5.resultTypes= #[4]:=by kernel_rfl
theorem sound (p0:wAf) (h0:k6y p0):SoundH Tryz.prog 5 [vOf Tryz.prog 83 ((encTChain55 p0).cells)] [] (.d (.bool true)) []:=mpr_of qqk (k81.at (show HL TB.den (hsT k14.ins (hsOs k14.pre))from(p0.wAg,p0.wAe,p0.wz,p0.wt,p0.wn,p0.wAG,p0.wAR,p0.wAD,p0.wAm,p0.L,())) (show HL TB.den (hsV k14.res (hsOs k14.post))from(true,())) (qq (k72 h0) rfl))
set_option maxRecDepth 1000000 in
theorem contract (H:Type) (enc:TypeId×Value->H) (W:World) (base:Nat) (args:Array Value) (ds gs:List (DataW H)) (before:List MemPlace)
  (hval:∀(j:Nat) t v,Tryz.f5.params[j]? =some t->args[j]? =some v->Value.okWide Tryz.prog W .any base t v)
  (hW:DataW.Whole enc Tryz.prog Tryz.f5.params.toList Rows.topWitnessedSpec.vars false W args.toList ds gs before):
  Calls Tryz.prog 5 args W fun e W' =>∃v,e= .returned v/\Rows.topWitnessedSpec.post enc Tryz.prog Tryz.f5 false true false false W args v W' :=by
 have hW' :=hW;obtain⟨p,q,hA0,hV,rfl,hfz,hnd⟩:=hW;have hA:DataW.TrodAll enc Tryz.prog W 0 (fun _=>true) true Tryz.f5.params.toList args.toList ds p:=hA0;rw[Tryz.params5]at hA hval;obtain⟨v0,vs0,d0,ds0,pl0,q0,hargs0,rfl,rfl,t0,r0⟩:=trodAll_cons hA;obtain⟨rfl,rfl,rfl⟩:=trodAll_nil r0;obtain rfl:args= #[v0]:=qcm (by rw[hargs0]);obtain⟨rfl,rfl⟩:=trodVars_none hV;obtain⟨xs0,hR0,hV0⟩:=kom (h:=[]) (nx:=0) dt83 (hval 0 83 v0 rfl rfl) t0;obtain⟨p0,rfl,h0⟩:=op83 (k:=0) hR0;refine(law_of (sound p0 h0) (vs:=[v0]) rfl ?_).mono fun e W' hh=> ?_
 ·intro j v x hv hx
  match j with
  |0=>simp at hv hx;subst hv;subst hx;exact hV0
  |j+1=>simp at hv
 ·obtain⟨⟨v,G',rfl,hv⟩,hb⟩:=hh;refine⟨_,rfl,?_⟩;cases hv with|d _ _ hd=>cases hd;exact kox rfl hW' laid ty rt Tryz.underlying4 rfl rfl rfl hb
theorem lifted (os:Os) (started:os.Started) (H:Type) (enc:TypeId×Value->H):
  ReturnsInHanded {} Tryz.checked os 5 .any (fun w args=>(Rows.topWitnessedSpec.pre enc Tryz.prog Tryz.f5 [] false w args/\laidMetH Tryz.prog Rows.topWitnessedRow.laid w)/\sizedMet enc Tryz.prog Tryz.f5 (OpenSpec.ofChange Rows.topWitnessedSpec) false w args) (Rows.topWitnessedSpec.post enc Tryz.prog Tryz.f5 false true false false):=by
 refine returnsInHanded_of_change_and (C:=Tryz.checked) (X:=fun w _=>laidMetH Tryz.prog Rows.topWitnessedRow.laid w) (fun _ _ _ hh h=>h.of_heap hh) own started qqk Tryz.func5
  (ChangeSpec.witness_shaped (enc:=enc) (C:=Tryz.checked) (os:=os) (X:=fun w _=>laidMetH Tryz.prog Rows.topWitnessedRow.laid w) false (World.doorLaid Tryz.prog 400 os) #[.agg #[.int .i64 0,.int .i64 0,.int .i64 0,.int .i64 0,.int .i64 0,.int .u64 0,.int .i64 0,.int .i64 0,.int .u64 0,.slice none 0 0]] 8 rfl (w1 os) (w2 os) (w3 os H enc) (w4 os H enc) (w5 os)) ?_
 intro W base args ds gs before hval hW _ _ _ _;exact contract H enc W base args ds gs before hval hW
theorem proved:Rows.TopWitnessedSaid:=
 OpenClaim.holds_of_wide 5 Tryz.f5 rfl rfl rfl rfl rfl rfl rfl ⟨rfl,rfl,rfl,rfl,rfl⟩ rfl rfl rfl rfl rfl qqk Tryz.func5 w6
  (qb qqk) (by unfold Func.isWrapper;first|(rw[qi (by decide +kernel)];kernel_rfl)|(rw[qf (by decide +kernel)];exact⟨rfl,rfl⟩))
  (fun os started H enc _=>lifted os started H enc)
end Go.Proofs.YtcghahkoioeddaaGreatDoor.topWitnessed
end
