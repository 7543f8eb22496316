/- The statement LawProblemDrawn: the frame of the row round the walk of the law, and the tied card. No condition. -/
import Derived.Test.YtidojbkhlenahaaGreatDoorPkProblemDrawn22
import Derived.Test.YtidojbkhlenahaaGreatDoorPkProblemDrawnC
set_option maxRecDepth 100000
set_option maxHeartbeats 16000000
namespace Go.Proofs.YtidojbkhlenahaaGreatDoor.problemDrawn
open Go.ChangeShapes Go.WideShapes Go.ChangeAt Go.RowKit
open Go.ChangeMaps (open_string shut_string)
instance zedI:LT ZK:=⟨fun _ _=>True⟩
instance zedT:Nonempty (PLift Zz):=⟨⟨trivial⟩⟩
set_option linter.unusedVariables false
theorem met (os:Os):laidMetH Tryz.prog Rows.problemDrawnRow.laid ((World.laidAll Tryz.prog os Rows.problemDrawnRow.laid).forCall (fun _ _=>0) ⟨#[],#[.slice none 0 0,.int .u8 0],[]⟩).memory:=by
 rw[MakeChecks.laidMetH_plain _ _ _ (by kernel_rfl)];exact laidMet_laidAll _ (by kernel_rfl) (by kernel_rfl)
theorem lifted (os:Os) (started:os.Started) (H:Type) (enc:TypeId × Value->H) (F:Stop.Interp):
 ReturnsInHanded {} Tryz.checked os 4 .any ((OpenSpec.ofChange Rows.problemDrawnSpec).preRow enc Tryz.prog Tryz.f4 Rows.problemDrawnRow.domain false Rows.problemDrawnRow.laid) (((OpenSpec.ofChange Rows.problemDrawnSpec).at F).post enc Tryz.prog Tryz.f4 false true false false):=by
 refine returnsInHanded_of_row (C:=Tryz.checked) (s:=OpenSpec.ofChange Rows.problemDrawnSpec) own started (by kernel_rfl) Tryz.func4
  (Q9v (enc:=enc) (C:=Tryz.checked) false (World.laidAll Tryz.prog os Rows.problemDrawnRow.laid) #[.slice none 0 0,.int .u8 0] (World.laidAll_os _ _ _) (World.shaped_of_ZipB (by kernel_rfl) (by kernel_rfl)) (by kernel_rfl)
    (OpenSpec.preRow_of_B rfl 8 (by kernel_rfl) (by kernel_rfl) (met os))) ?_
 intro W base args ds gs before Yv hW hcnd _ _ hL hS _;have hl:Qud W:=Qwn hL hS;have N0:∀(j:Nat) t v,Tryz.f4.params[j]?=some t->args[j]?=some v->Value.okWide Tryz.prog W .any base t v:=Yv;have hW':=hW;obtain ⟨p,q,C9,hV,rfl,JL,hnd⟩:=hW;have hA:DataW.TrodAll enc Tryz.prog W 0 (fun _=>true) true Tryz.f4.params.toList args.toList ds p:=C9;rw[Tryz.params4] at hA N0;obtain ⟨v0,vs0,d0,ds0,p0,q0,hargs,rfl,rfl,h0,r0⟩:=trodAll_cons hA;obtain ⟨v1,vs1,d1,ds1,p1,q1,rfl,rfl,rfl,h1,r1⟩:=trodAll_cons r0;obtain ⟨rfl,rfl,rfl⟩:=trodAll_nil r1;obtain rfl:args= #[v0,v1]:=by cases args;simp_all
 obtain ⟨rfl,rfl⟩:=trodVars_none hV;obtain ⟨a0,len0,cap0,rfl⟩:=okWide_slice Tryz.underlying24 (N0 0 24 v0 rfl rfl);have k0:=h0;have lt0:∀x∈p0,x.block<W.heap.size:=by obtain ⟨m,hm⟩:=k0;exact DataW.trod_lt m _ _ _ hm
 obtain ⟨b0,e0,m0,y0,z0⟩:=Qrp h0;obtain ⟨a1,rfl,rfl,rfl,w1⟩:=open_int Tryz.underlying5 (N0 1 5 v1 rfl rfl) h1;obtain ⟨n1,e1,l1⟩:=Qik w1;subst e1;clear C9 Yv;refine (Qaz a0 len0 cap0 b0 n1 W e0 m0 y0 z0 l1 hl).mono fun e W' ⟨he,bel⟩=>?_;subst he;exact ⟨_,rfl,_,_,_,[],_,[],hW',trodAll_mk1 (shut_bool Tryz.underlying4 _),(trodAll_cons_mk (Below.trod Qq7 (by kernel_rfl) (TF (by kernel_rfl)) k0 bel lt0) (trodAll_cons_mk (shut_int Tryz.underlying5 w1) trodAll_mk0)),rfl,bel.frame _,fun h=>by cases h⟩
theorem said:Rows.ProblemDrawnSaid:=
 OpenClaim.holds_of_cond 4 Tryz.f4 rfl rfl rfl rfl rfl rfl rfl ⟨rfl,rfl,rfl,rfl,rfl⟩ rfl rfl rfl rfl rfl (by kernel_rfl) Tryz.func4 closed
  (TF (by kernel_rfl)) (by unfold Func.isWrapper;first|(rw[Uu (by decide+kernel)];kernel_rfl)|(rw[Uq (by decide+kernel)];exact ⟨rfl,rfl⟩))
  (fun os started H enc _ F=>by rw[OpenClaim.pre_eq_preRow];exact lifted os started H enc F)
theorem plain (f:FuncId) (fn:Func) (hf:Tryz.pinned.checked.prog.funcNamed "fathomline/fathomlinelaw13.ProblemDrawn" =some f) (hfn:Tryz.pinned.checked.prog.funcs[f]?=some fn):
 true=Tryz.pinned.checked.prog.looks []/\∀(j:Nat) t,fn.params[j]?=some t->Tryz.pinned.checked.prog.wantsStandIn t=false:=by
 obtain rfl:f=4:=Option.some.inj ((show Tryz.prog.funcNamed "fathomline/fathomlinelaw13.ProblemDrawn" =some 4 by kernel_rfl).symm.trans hf) |>.symm;obtain rfl:fn=Tryz.f4:=(Option.some.inj (Tryz.func4.symm.trans hfn)).symm;refine ⟨by kernel_rfl,fun j t ht=>?_⟩;rw[Tryz.params4] at ht;have hm:t∈[24,5]:=by simpa using Array.mem_of_getElem? ht
 have A1:([24,5].all fun u=> !Tryz.prog.wantsStandIn u)=true:=by kernel_rfl
 exact (show Tryz.prog.wantsStandIn t=false by simpa using Ts.1 A1 t hm)
theorem proved:Rows.ProblemDrawnCardSaid:=
 Claim7.holds_tied_plain_at .later [] _ _ _ _ said (fun _ h=>by cases h) (by kernel_rfl) (fun _ h=>by cases h) problemDrawn_row_tie rfl ⟨rfl,rfl⟩ (by kernel_rfl) rfl plain (by kernel_rfl)
#print axioms proved
end Go.Proofs.YtidojbkhlenahaaGreatDoor.problemDrawn
