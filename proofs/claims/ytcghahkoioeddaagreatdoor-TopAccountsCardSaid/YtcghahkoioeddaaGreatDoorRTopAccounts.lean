/-
  The law 'TopAccounts' returns true for every input, and what it was given reads as it did. No conditions.
-/
import Derived.Test.YtcghahkoioeddaaGreatDoorA8
import Derived.Test.YtcghahkoioeddaaGreatDoorRows
import Derived.Test.YtcghahkoioeddaaGreatDoorTi5
import Derived.Test.YtcghahkoioeddaaGreatDoorWTopAccounts1
import Derived.Test.YtcghahkoioeddaaGreatDoorWTopAccounts2
import Derived.Test.YtcghahkoioeddaaGreatDoorWTopAccounts3
import Derived.Test.YtcghahkoioeddaaGreatDoorWTopAccounts4
import Derived.Test.YtcghahkoioeddaaGreatDoorWTopAccounts5
import Derived.Test.YtcghahkoioeddaaGreatDoorWTopAccounts6
set_option maxRecDepth 100000
set_option linter.all false
noncomputable section
namespace Go.Proofs.YtcghahkoioeddaaGreatDoor.topAccounts
open Go Go.Bv Go.Cv Go.Md Go.RowKit Go.ChangeShapes Go.WideShapes Go.ChangeAt
theorem ty:typesOk Tryz.prog Tryz.f6.params.toList=true:=by kernel_rfl
theorem rt:Tryz.f6.resultTypes= #[4]:=by kernel_rfl
theorem sound (p0:wAr) (h0:k7b p0):SoundH Tryz.prog 6 [vOf Tryz.prog 83 ((encTChain55 p0).cells)] [] (.d (.bool true)) []:=mpr_of qqk (k92.at (show HL TB.den (hsT k14.ins (hsOs k14.pre))from(p0.wAo,p0.wAk,p0.wy,p0.ww,p0.wn,p0.wAP,p0.wAZ,p0.wAM,p0.wAv,p0.L,())) (show HL TB.den (hsV k14.res (hsOs k14.post))from(true,())) (qt (k8c h0) rfl))
set_option maxRecDepth 1000000 in
theorem contract (H:Type) (enc:TypeId×Value->H) (W:World) (base:Nat) (args:Array Value) (ds gs:List (DataW H)) (before:List MemPlace)
  (hval:∀(j:Nat) t v,Tryz.f6.params[j]? =some t->args[j]? =some v->Value.okWide Tryz.prog W .any base t v)
  (hW:DataW.Whole enc Tryz.prog Tryz.f6.params.toList Rows.topAccountsSpec.vars false W args.toList ds gs before):
  Calls Tryz.prog 6 args W fun e W' =>∃v,e= .returned v/\Rows.topAccountsSpec.post enc Tryz.prog Tryz.f6 false true false false W args v W' :=by
 have hW' :=hW;obtain⟨p,q,hA0,hV,rfl,hfz,hnd⟩:=hW;have hA:DataW.TrodAll enc Tryz.prog W 0 (fun _=>true) true Tryz.f6.params.toList args.toList ds p:=hA0;rw[Tryz.params6]at hA hval;obtain⟨v0,vs0,d0,ds0,pl0,q0,hargs0,rfl,rfl,t0,r0⟩:=trodAll_cons hA;obtain⟨rfl,rfl,rfl⟩:=trodAll_nil r0;obtain rfl:args= #[v0]:=qcm (by rw[hargs0]);obtain⟨rfl,rfl⟩:=trodVars_none hV;obtain⟨xs0,hR0,hV0⟩:=kqd (h:=[]) (nx:=0) dt83 (hval 0 83 v0 rfl rfl) t0;obtain⟨p0,rfl,h0⟩:=op83 (k:=0) hR0;refine(law_of (sound p0 h0) (vs:=[v0]) rfl ?_).mono fun e W' hh=> ?_
 ·intro j v x hv hx
  match j with
  |0=>simp at hv hx;subst hv;subst hx;exact hV0
  |j+1=>simp at hv
 ·obtain⟨⟨v,G',rfl,hv⟩,hb⟩:=hh;refine⟨_,rfl,?_⟩;cases hv with|d _ _ hd=>cases hd;exact kqq rfl hW' laid ty rt Tryz.underlying4 rfl rfl rfl hb
theorem lifted (os:Os) (started:os.Started) (H:Type) (enc:TypeId×Value->H):
  ReturnsInHanded {} Tryz.checked os 6 .any (fun w args=>(Rows.topAccountsSpec.pre enc Tryz.prog Tryz.f6 [] false w args/\laidMetH Tryz.prog Rows.topAccountsRow.laid w)/\sizedMet enc Tryz.prog Tryz.f6 (OpenSpec.ofChange Rows.topAccountsSpec) false w args) (Rows.topAccountsSpec.post enc Tryz.prog Tryz.f6 false true false false):=by
 refine returnsInHanded_of_change_and (C:=Tryz.checked) (X:=fun w _=>laidMetH Tryz.prog Rows.topAccountsRow.laid w) (fun _ _ _ hh h=>h.of_heap hh) own started qqk Tryz.func6
  (ChangeSpec.witness_shaped (enc:=enc) (C:=Tryz.checked) (os:=os) (X:=fun w _=>laidMetH Tryz.prog Rows.topAccountsRow.laid w) false (World.doorLaid Tryz.prog 400 os) #[.agg #[.int .i64 0,.int .i64 0,.int .i64 0,.int .i64 0,.int .i64 0,.int .u64 0,.int .i64 0,.int .i64 0,.int .u64 0,.slice none 0 0]] 8 rfl (w1 os) (w2 os) (w3 os H enc) (w4 os H enc) (w5 os)) ?_
 intro W base args ds gs before hval hW _ _ _ _;exact contract H enc W base args ds gs before hval hW
theorem proved:Rows.TopAccountsSaid:=
 OpenClaim.holds_of_wide 6 Tryz.f6 rfl rfl rfl rfl rfl rfl rfl ⟨rfl,rfl,rfl,rfl,rfl⟩ rfl rfl rfl rfl rfl qqk Tryz.func6 w6
  (qb qqk) (by unfold Func.isWrapper;first|(rw[qh (by decide +kernel)];kernel_rfl)|(rw[qf (by decide +kernel)];exact⟨rfl,rfl⟩))
  (fun os started H enc _=>lifted os started H enc)
end Go.Proofs.YtcghahkoioeddaaGreatDoor.topAccounts
end
