/- The statement LawProblemRights: the frame of the row round the walk of the law, and the tied card. No condition. -/
import Derived.Test.YtidojbkhlenahaaGreatDoorPkProblemRights22
import Derived.Test.YtidojbkhlenahaaGreatDoorPkProblemRightsC
set_option maxRecDepth 100000
set_option maxHeartbeats 16000000
namespace Go.Proofs.YtidojbkhlenahaaGreatDoor.problemRights
open Go.ChangeShapes Go.WideShapes Go.ChangeAt Go.RowKit
open Go.ChangeMaps (open_string shut_string)
instance zedI:LT ZK:=⟨fun _ _=>False⟩
instance zedF:Nonempty (PLift (¬Zz)):=⟨⟨fun h=>h⟩⟩
set_option linter.unusedVariables false
theorem met (os:Os):laidMetH Tryz.prog Rows.problemRightsRow.laid ((World.laidAll Tryz.prog os Rows.problemRightsRow.laid).forCall (fun _ _=>0) ⟨#[],#[.agg #[.slice none 0 0,.slice none 0 0,.bool false,.int .i64 0,.slice none 0 0,.bool false,.int .i64 0,.slice none 0 0,.bool false,.int .i64 0,.slice none 0 0,.int .i64 0,.int .i64 0,.int .i64 0],.agg #[.slice none 0 0,.slice none 0 0,.bool false,.int .i64 0,.slice none 0 0,.bool false,.int .i64 0,.slice none 0 0,.bool false,.int .i64 0,.slice none 0 0,.int .i64 0,.int .i64 0,.int .i64 0]],[]⟩).memory:=by
 rw[MakeChecks.laidMetH_plain _ _ _ (by kernel_rfl)];exact laidMet_laidAll _ (by kernel_rfl) (by kernel_rfl)
theorem lifted (os:Os) (started:os.Started) (H:Type) (enc:TypeId × Value->H) (F:Stop.Interp):
 ReturnsInHanded {} Tryz.checked os 3 .any ((OpenSpec.ofChange Rows.problemRightsSpec).preRow enc Tryz.prog Tryz.f3 Rows.problemRightsRow.domain false Rows.problemRightsRow.laid) (((OpenSpec.ofChange Rows.problemRightsSpec).at F).post enc Tryz.prog Tryz.f3 false true false false):=by
 refine returnsInHanded_of_row (C:=Tryz.checked) (s:=OpenSpec.ofChange Rows.problemRightsSpec) own started (by kernel_rfl) Tryz.func3
  (Q9x (enc:=enc) (C:=Tryz.checked) false (World.laidAll Tryz.prog os Rows.problemRightsRow.laid) #[.agg #[.slice none 0 0,.slice none 0 0,.bool false,.int .i64 0,.slice none 0 0,.bool false,.int .i64 0,.slice none 0 0,.bool false,.int .i64 0,.slice none 0 0,.int .i64 0,.int .i64 0,.int .i64 0],.agg #[.slice none 0 0,.slice none 0 0,.bool false,.int .i64 0,.slice none 0 0,.bool false,.int .i64 0,.slice none 0 0,.bool false,.int .i64 0,.slice none 0 0,.int .i64 0,.int .i64 0,.int .i64 0]] (World.laidAll_os _ _ _) (World.shaped_of_ZipB (by kernel_rfl) (by kernel_rfl)) (by kernel_rfl)
    (OpenSpec.preRow_of_B rfl 8 (by kernel_rfl) (by kernel_rfl) (met os))) ?_
 intro W base args ds gs before WO hW hcnd _ _ hL hS _;have hl:Qu5 W:=Qyc hL hS;have J0:∀(j:Nat) t v,Tryz.f3.params[j]?=some t->args[j]?=some v->Value.okWide Tryz.prog W .any base t v:=WO;have hW':=hW;obtain ⟨p,q,j8,hV,rfl,hfz,hnd⟩:=hW;have hA:DataW.TrodAll enc Tryz.prog W 0 (fun _=>true) true Tryz.f3.params.toList args.toList ds p:=j8;rw[Tryz.params3] at hA J0;obtain ⟨v0,vs0,d0,ds0,p0,q0,hargs,rfl,rfl,h0,r0⟩:=trodAll_cons hA;obtain ⟨v1,vs1,d1,ds1,p1,q1,rfl,rfl,rfl,h1,r1⟩:=trodAll_cons r0;obtain ⟨rfl,rfl,rfl⟩:=trodAll_nil r1;obtain rfl:args= #[v0,v1]:=by cases args;simp_all
 obtain ⟨rfl,rfl⟩:=trodVars_none hV;obtain ⟨c0,rfl,_⟩:=okWide_struct Tryz.underlying28 (J0 0 28 v0 rfl rfl);obtain ⟨c1,rfl,_⟩:=okWide_struct Tryz.underlying28 (J0 1 28 v1 rfl rfl);have k0:=h0;have lt0:∀x∈p0,x.block<W.heap.size:=by obtain ⟨m,hm⟩:=k0;exact DataW.trod_lt m _ _ _ hm
 have k1:=h1;have lt1:∀x∈p1,x.block<W.heap.size:=by obtain ⟨m,hm⟩:=k1;exact DataW.trod_lt m _ _ _ hm
 obtain ⟨f0,g0⟩:=h0;obtain ⟨f1,g1⟩:=h1;obtain ⟨pp,x,e0,i0⟩:=Qk0 g0;obtain ⟨qq,y,e1,i1⟩:=Qk0 g1;have e0':c0=(Q46 pp x).toArray:=by rw[<-e0];rfl
 have e1':c1=(Q46 qq y).toArray:=by rw[<-e1];rfl
 subst e0' e1';clear j8 WO;refine (Qat pp qq x y W i0 i1 hl).mono fun e W' ⟨he,bel⟩=>?_;subst he;exact ⟨_,rfl,_,_,_,[],_,[],hW',trodAll_mk1 (shut_bool Tryz.underlying4 _),(trodAll_cons_mk (Below.trod Qlb (by kernel_rfl) (Tt (by kernel_rfl)) k0 bel lt0) (trodAll_cons_mk (Below.trod Qlb (by kernel_rfl) (Tt (by kernel_rfl)) k1 bel lt1) trodAll_mk0)),rfl,bel.frame _,fun h=>by cases h⟩
theorem said:Rows.ProblemRightsSaid:=
 OpenClaim.holds_of_cond 3 Tryz.f3 rfl rfl rfl rfl rfl rfl rfl ⟨rfl,rfl,rfl,rfl,rfl⟩ rfl rfl rfl rfl rfl (by kernel_rfl) Tryz.func3 closed
  (Tt (by kernel_rfl)) (by unfold Func.isWrapper;first|(rw[Uu (by decide+kernel)];kernel_rfl)|(rw[Us (by decide+kernel)];exact ⟨rfl,rfl⟩))
  (fun os started H enc _ F=>by rw[OpenClaim.pre_eq_preRow];exact lifted os started H enc F)
theorem plain (f:FuncId) (fn:Func) (hf:Tryz.pinned.checked.prog.funcNamed "fathomline/fathomlinelaw13.ProblemRights" =some f) (hfn:Tryz.pinned.checked.prog.funcs[f]?=some fn):
 true=Tryz.pinned.checked.prog.looks []/\∀(j:Nat) t,fn.params[j]?=some t->Tryz.pinned.checked.prog.wantsStandIn t=false:=by
 obtain rfl:f=3:=Option.some.inj ((show Tryz.prog.funcNamed "fathomline/fathomlinelaw13.ProblemRights" =some 3 by kernel_rfl).symm.trans hf) |>.symm;obtain rfl:fn=Tryz.f3:=(Option.some.inj (Tryz.func3.symm.trans hfn)).symm;refine ⟨by kernel_rfl,fun j t ht=>?_⟩;rw[Tryz.params3] at ht;have hm:t∈[28,28]:=by simpa using Array.mem_of_getElem? ht
 have R0:([28,28].all fun u=> !Tryz.prog.wantsStandIn u)=true:=by kernel_rfl
 exact (show Tryz.prog.wantsStandIn t=false by simpa using TH.1 R0 t hm)
theorem proved:Rows.ProblemRightsCardSaid:=
 Claim7.holds_tied_plain_at .later [] _ _ _ _ said (fun _ h=>by cases h) (by kernel_rfl) (fun _ h=>by cases h) problemRights_row_tie rfl ⟨rfl,rfl⟩ (by kernel_rfl) rfl plain (by kernel_rfl)
#print axioms proved
end Go.Proofs.YtidojbkhlenahaaGreatDoor.problemRights
