/- The statement LawProblemBack: the frame of the row round the walk of the law, and the tied card. No condition. -/
import Derived.Test.YtidojbkhlenahaaGreatDoorPkProblemBack23
set_option maxRecDepth 100000
set_option maxHeartbeats 16000000
namespace Go.Proofs.YtidojbkhlenahaaGreatDoor.problemBack
open Go.ChangeShapes Go.WideShapes Go.ChangeAt Go.RowKit
open Go.ChangeMaps (open_string shut_string)
set_option linter.unusedVariables false
theorem met (os:Os):laidMetH Tryz.prog Rows.problemBackRow.laid ((World.laidAll Tryz.prog os Rows.problemBackRow.laid).forCall (fun _ _=>0) ⟨#[],#[.slice none 0 0],[]⟩).memory:=by
 rw[MakeChecks.laidMetH_plain _ _ _ (by kernel_rfl)];exact laidMet_laidAll _ (by kernel_rfl) (by kernel_rfl)
theorem lifted (os:Os) (started:os.Started) (H:Type) (enc:TypeId × Value->H) (F:Stop.Interp):
 ReturnsInHanded {} Tryz.checked os 5 .any ((OpenSpec.ofChange Rows.problemBackSpec).preRow enc Tryz.prog Tryz.f5 Rows.problemBackRow.domain false Rows.problemBackRow.laid) (((OpenSpec.ofChange Rows.problemBackSpec).at F).post enc Tryz.prog Tryz.f5 false true false false):=by
 refine returnsInHanded_of_row (C:=Tryz.checked) (s:=OpenSpec.ofChange Rows.problemBackSpec) own started (by kernel_rfl) Tryz.func5
  (Qac (enc:=enc) (C:=Tryz.checked) false (World.laidAll Tryz.prog os Rows.problemBackRow.laid) #[.slice none 0 0] (World.laidAll_os _ _ _) (World.shaped_of_ZipB (by kernel_rfl) (by kernel_rfl)) (by kernel_rfl)
    (OpenSpec.preRow_of_B rfl 8 (by kernel_rfl) (by kernel_rfl) (met os))) ?_
 intro W base args ds gs before YI hW hcnd _ _ hL hS _;have hl:Qxa W:=Qzs hL hS;have M0:∀(j:Nat) t v,Tryz.f5.params[j]?=some t->args[j]?=some v->Value.okWide Tryz.prog W .any base t v:=YI;have hW':=hW;obtain ⟨p,q,C9,hV,rfl,ZW,YT⟩:=hW;have hA:DataW.TrodAll enc Tryz.prog W 0 (fun _=>true) true Tryz.f5.params.toList args.toList ds p:=C9;rw[Tryz.params5] at hA M0;obtain ⟨v0,vs0,d0,ds0,p0,q0,hargs,rfl,rfl,h0,r0⟩:=trodAll_cons hA;obtain ⟨rfl,rfl,rfl⟩:=trodAll_nil r0;obtain rfl:args= #[v0]:=by cases args;simp_all
 obtain ⟨rfl,rfl⟩:=trodVars_none hV;obtain ⟨a0,len0,cap0,rfl⟩:=okWide_slice Tryz.underlying24 (M0 0 24 v0 rfl rfl);have k0:=h0;have lt0:∀x∈p0,x.block<W.heap.size:=by obtain ⟨m,hm⟩:=k0;exact DataW.trod_lt m _ _ _ hm
 obtain ⟨b0,e0,m0,y0,z0⟩:=Qv2 h0;clear C9 YI;refine (Qel a0 len0 cap0 b0 W e0 m0 y0 z0 hl).mono fun e W' ⟨he,bel⟩=>?_;subst he;exact ⟨_,rfl,_,_,_,[],_,[],hW',trodAll_mk1 (shut_bool Tryz.underlying4 _),(trodAll_cons_mk (Below.trod Qtc (by kernel_rfl) (Xa0 (by kernel_rfl)) k0 bel lt0) trodAll_mk0),rfl,bel.frame _,fun h=>by cases h⟩
theorem said:Rows.ProblemBackSaid:=
 OpenClaim.holds_of_cond 5 Tryz.f5 rfl rfl rfl rfl rfl rfl rfl ⟨rfl,rfl,rfl,rfl,rfl⟩ rfl rfl rfl rfl rfl (by kernel_rfl) Tryz.func5 closed
  (Xa0 (by kernel_rfl)) (by unfold Func.isWrapper;first|(rw[Us (by decide+kernel)];kernel_rfl)|(rw[Up (by decide+kernel)];exact ⟨rfl,rfl⟩))
  (fun os started H enc _ F=>by rw[OpenClaim.pre_eq_preRow];exact lifted os started H enc F)
theorem plain (f:FuncId) (fn:Func) (hf:Tryz.pinned.checked.prog.funcNamed "fathomline/fathomlinelaw13.ProblemBack" =some f) (hfn:Tryz.pinned.checked.prog.funcs[f]?=some fn):
 true=Tryz.pinned.checked.prog.looks []/\∀(j:Nat) t,fn.params[j]?=some t->Tryz.pinned.checked.prog.wantsStandIn t=false:=by
 obtain rfl:f=5:=Option.some.inj ((show Tryz.prog.funcNamed "fathomline/fathomlinelaw13.ProblemBack" =some 5 by kernel_rfl).symm.trans hf) |>.symm;obtain rfl:fn=Tryz.f5:=(Option.some.inj (Tryz.func5.symm.trans hfn)).symm;refine ⟨by kernel_rfl,fun j t ht=>?_⟩;rw[Tryz.params5] at ht;have hm:t∈[24]:=by simpa using Array.mem_of_getElem? ht
 have Y0:([24].all fun u=> !Tryz.prog.wantsStandIn u)=true:=by kernel_rfl
 exact (show Tryz.prog.wantsStandIn t=false by simpa using Tu.1 Y0 t hm)
theorem proved:Rows.ProblemBackCardSaid:=
 Claim7.holds_tied_plain_at .later [] _ _ _ _ said (fun _ h=>by cases h) (by kernel_rfl) (fun _ h=>by cases h) problemBack_row_tie rfl ⟨rfl,rfl⟩ (by kernel_rfl) rfl plain (by kernel_rfl)
#print axioms proved
end Go.Proofs.YtidojbkhlenahaaGreatDoor.problemBack
