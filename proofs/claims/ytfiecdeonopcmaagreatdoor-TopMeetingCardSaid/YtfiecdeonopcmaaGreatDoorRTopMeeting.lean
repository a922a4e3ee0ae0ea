/-
  The law 'TopMeeting': it returns true for every input, and what it was given reads as it did. No conditions.
-/
import Derived.Test.YtfiecdeonopcmaaGreatDoorA6
import Derived.Test.YtfiecdeonopcmaaGreatDoorRows
import Derived.Test.YtfiecdeonopcmaaGreatDoorTi5
import Derived.Test.YtfiecdeonopcmaaGreatDoorWTopMeeting1
import Derived.Test.YtfiecdeonopcmaaGreatDoorWTopMeeting2
import Derived.Test.YtfiecdeonopcmaaGreatDoorWTopMeeting3
import Derived.Test.YtfiecdeonopcmaaGreatDoorWTopMeeting4
import Derived.Test.YtfiecdeonopcmaaGreatDoorWTopMeeting5
import Derived.Test.YtfiecdeonopcmaaGreatDoorWTopMeeting6
set_option maxRecDepth 100000
set_option linter.all false
noncomputable section
namespace Go.Proofs.YtfiecdeonopcmaaGreatDoor.topMeeting
open Go Go.Bv Go.Cv Go.Md Go.RowKit Go.ChangeShapes Go.WideShapes Go.ChangeAt
theorem ty:typesOk Tryz.prog Tryz.f3.params.toList=true:=by kernel_rfl
theorem rt:Tryz.f3.resultTypes= #[4]:=by kernel_rfl
theorem sound (p0:wF) (p1:List wD) (p2:List Int) (h0:kez p0) (h1:(p1.length<=9223372036854775807/\∀y∈p1,k5r y)) (h2:(p2.length<=9223372036854775807/\∀y∈p2,(0<=y/\y<256))):SoundH Tryz.prog 3 [vOf Tryz.prog 26 ((encTRules p0).cells),vOf Tryz.prog 27 [D.slice 6 (p1.map encTBlock)],vOf Tryz.prog 28 [D.slice 1 (p2.map (D.int .u8))]] [] (.d (.bool true)) []:=mpr_of qqk (kcw.at (show HL TB.den (hsT k1g.ins (hsOs k1g.pre))from(p0.wd,p0.wH,p0.wS,p0.wO,p0.wM,p0.wZ,p0.wt,p0.wW,p0.wU,p1,p2,())) (show HL TB.den (hsV k1g.res (hsOs k1g.post))from(true,())) (qaa (kam h0 h1 h2) rfl))
set_option maxRecDepth 1000000 in
theorem contract (H:Type) (enc:TypeId×Value->H) (W:World) (base:Nat) (args:Array Value) (ds gs:List (DataW H)) (before:List MemPlace)
  (hval:∀(j:Nat) t v,Tryz.f3.params[j]? =some t->args[j]? =some v->Value.okWide Tryz.prog W .any base t v)
  (hW:DataW.Whole enc Tryz.prog Tryz.f3.params.toList Rows.topMeetingSpec.vars false W args.toList ds gs before):
  Calls Tryz.prog 3 args W fun e W' =>∃v,e= .returned v/\Rows.topMeetingSpec.post enc Tryz.prog Tryz.f3 false true false false W args v W' :=by
 have hW' :=hW;obtain⟨p,q,hA0,hV,rfl,hfz,hnd⟩:=hW;have hA:DataW.TrodAll enc Tryz.prog W 0 (fun _=>true) true Tryz.f3.params.toList args.toList ds p:=hA0;rw[Tryz.params3]at hA hval;obtain⟨v0,vs0,d0,ds0,pl0,q0,hargs0,rfl,rfl,t0,r0⟩:=trodAll_cons hA;obtain⟨v1,vs1,d1,ds1,pl1,q1,hargs1,rfl,rfl,t1,r1⟩:=trodAll_cons r0;obtain⟨v2,vs2,d2,ds2,pl2,q2,hargs2,rfl,rfl,t2,r2⟩:=trodAll_cons r1;obtain⟨rfl,rfl,rfl⟩:=trodAll_nil r2;obtain rfl:args= #[v0,v1,v2]:=qdy (by rw[hargs0,hargs1,hargs2]);obtain⟨rfl,rfl⟩:=trodVars_none hV;obtain⟨xs0,hR0,hV0⟩:=kf2 (h:=[]) (nx:=0) dt26 (hval 0 26 v0 rfl rfl) t0;obtain⟨p0,rfl,h0⟩:=op26 (k:=0) hR0;obtain⟨xs1,hR1,hV1⟩:=kf2 (h:=[]) (nx:=0) dt27 (hval 1 27 v1 rfl rfl) t1;obtain⟨p1,rfl,h1⟩:=op27 (k:=0) hR1;obtain⟨xs2,hR2,hV2⟩:=kf2 (h:=[]) (nx:=0) dt28 (hval 2 28 v2 rfl rfl) t2;obtain⟨p2,rfl,h2⟩:=op28 (k:=0) hR2;refine(law_of (sound p0 p1 p2 h0 h1 h2) (vs:=[v0,v1,v2]) rfl ?_).mono fun e W' hh=> ?_
 ·intro j v x hv hx
  match j with
  |0=>simp at hv hx;subst hv;subst hx;exact hV0
  |1=>simp at hv hx;subst hv;subst hx;exact hV1
  |2=>simp at hv hx;subst hv;subst hx;exact hV2
  |j+3=>simp at hv
 ·obtain⟨⟨v,G',rfl,hv⟩,hb⟩:=hh;refine⟨_,rfl,?_⟩;cases hv with|d _ _ hd=>cases hd;exact kwf rfl hW' laid ty rt Tryz.underlying4 rfl rfl rfl hb
theorem lifted (os:Os) (started:os.Started) (H:Type) (enc:TypeId×Value->H):
  ReturnsInHanded {} Tryz.checked os 3 .any (fun w args=>(Rows.topMeetingSpec.pre enc Tryz.prog Tryz.f3 [] false w args/\laidMetH Tryz.prog Rows.topMeetingRow.laid w)/\sizedMet enc Tryz.prog Tryz.f3 (OpenSpec.ofChange Rows.topMeetingSpec) false w args) (Rows.topMeetingSpec.post enc Tryz.prog Tryz.f3 false true false false):=by
 refine returnsInHanded_of_change_and (C:=Tryz.checked) (X:=fun w _=>laidMetH Tryz.prog Rows.topMeetingRow.laid w) (fun _ _ _ hh h=>h.of_heap hh) own started qqk Tryz.func3
  (ChangeSpec.witness_shaped (enc:=enc) (C:=Tryz.checked) (os:=os) (X:=fun w _=>laidMetH Tryz.prog Rows.topMeetingRow.laid w) false (World.doorLaid Tryz.prog 400 os) gA 8 rfl (w1 os) (w2 os) (w3 os H enc) (w4 os H enc) (w5 os)) ?_
 intro W base args ds gs before hval hW _ _ _ _;exact contract H enc W base args ds gs before hval hW
theorem proved:Rows.TopMeetingSaid:=
 OpenClaim.holds_of_wide 3 Tryz.f3 rfl rfl rfl rfl rfl rfl rfl ⟨rfl,rfl,rfl,rfl,rfl⟩ rfl rfl rfl rfl rfl qqk Tryz.func3 w6
  (qc qqk) (by unfold Func.isWrapper;first|(rw[qg (by decide +kernel)];kernel_rfl)|(rw[qe (by decide +kernel)];exact⟨rfl,rfl⟩))
  (fun os started H enc _=>lifted os started H enc)
end Go.Proofs.YtfiecdeonopcmaaGreatDoor.topMeeting
end
