/- EngineClean: whatever a definition does, when it is at its end all frames that it pushed are gone. Conditions: none beyond the given statement. -/
import Derived.Test.YtdokeddjcpnmiaaGreatDoorQCleanW
import Derived.Test.YtdokeddjcpnmiaaGreatDoorQDefOpen
set_option maxRecDepth 100000
set_option maxHeartbeats 200000
namespace Go.Proofs.YtdokeddjcpnmiaaGreatDoor
open Go.Proofs.Tryz
section
open Go.ChangeShapes Go.WideShapes Go.ChangeAt Go.RowKit
open Go.ChangeMaps (open_string shut_string)
theorem sw(H:Type)(enc:TypeId×Value→H)(W:World)(base:Nat)(args:Array Value)(ds gs:List (DataW H))(before:List MemPlace)
 (hval:∀(j:Nat) t v,Tryz.f3.params[j]? =some t→args[j]? =some v→Value.okWide prog W .any base t v)
 (hW:DataW.Whole enc prog Tryz.f3.params.toList Rows.engineCleanSpec.vars false W args.toList ds gs before) (hL:laidMetH prog Rows.engineCleanRow.laid W) (hS:W.ShapedOpen prog):
 Calls prog 3 args W fun e W'=>∃v,e=.returned v∧Rows.engineCleanSpec.post enc prog Tryz.f3 false true false false W args v W':=by
 have CL:=hW;obtain⟨mx,hmx⟩:=V3 hS;obtain⟨p,q,hA0,hV,rfl,_,_⟩:=hW;have hA:DataW.TrodAll enc prog W 0 (fun _=>true) true Tryz.f3.params.toList args.toList ds p:=hA0;rw[Tryz.params3]at hA hval;obtain⟨v0,v1,d0,d1,p0,p1,rfl,rfl,rfl,h0,h1⟩:=QV hA;obtain⟨lv0,rfl,rI⟩:=En.V5 underlying24 rfl rfl (by kernel_rfl) (by kernel_rfl) underlying22 underlying56 (by kernel_rfl) rfl rfl rfl (by kernel_rfl) (by kernel_rfl) (by kernel_rfl) (by kernel_rfl) (by kernel_rfl) (by kernel_rfl) (hval 0 24 v0 rfl rfl) h0;obtain⟨l1,hL1,Zk⟩:=QW underlying25 underlying33 (by kernel_rfl) (hval 1 25 v1 rfl rfl) h1;refine(En.yC lv0 v1 l1 W rI hL1 (fun x hx=>wf_i64 (Zk x hx)) (tabs hL) mx hmx).mono fun e W' ⟨he,hb⟩=> ?_;subst he;exact⟨_,rfl,VZ laidOut (by rw[Tryz.params3];exact of_decide_eq_true (by kernel_rfl)) rfl rfl underlying4 CL (fun l hl=>by subst hl;rfl) (hb.below (Nat.le_refl _) (by simp))⟩
theorem sD(os:Os):laidMet prog Rows.engineCleanRow.laid ((yD os).forCall (fun _ _=>0) ⟨#[],#[.agg #[.slice none 0 0],.slice none 0 0],[]⟩).memory:=
 laidMet_of_run' 8 (by kernel_rfl) (by kernel_rfl)
theorem wR(os:Os){H:Type}(enc:TypeId×Value→H):∃places,DataW.whole enc prog ((yD os).forCall (fun _ _=>0) ⟨#[],#[.agg #[.slice none 0 0],.slice none 0 0],[]⟩).memory Tryz.f3.params.toList Rows.engineCleanSpec.vars false (#[.agg #[.slice none 0 0],.slice none 0 0]:Array Value).toList 8=some ([.agg [.nil],.nil],[],places):=
 ⟨[],by kernel_rfl⟩
theorem vv(os:Os)(started:os.Started)(H:Type)(enc:TypeId×Value→H)(F:Stop.Interp):
 ReturnsInHanded {} Tryz.checked os 3 .any ((OpenSpec.ofChange Rows.engineCleanSpec).preRow enc prog Tryz.f3 Rows.engineCleanRow.domain false Rows.engineCleanRow.laid) (((OpenSpec.ofChange Rows.engineCleanSpec).at F).post enc prog Tryz.f3 false true false false):=by
 obtain⟨places,hx⟩:=wR os enc;refine returnsInHanded_of_row (C:=Tryz.checked) (s:=OpenSpec.ofChange Rows.engineCleanSpec) pJ started (by kernel_rfl) func3
  (witness_row_at (enc:=enc) (C:=Tryz.checked) false (yD os) #[.agg #[.slice none 0 0],.slice none 0 0] rfl (by kernel_rfl) (by kernel_rfl) (by kernel_rfl)
    (OpenSpec.preRow_of_cond 8 hx (by kernel_rfl) (fun k hk=>by cases hk) (by kernel_rfl) (sD os))) ?_
 intro W base args ds gs before hval hW _ _ _ hL hS _;exact sw H enc W base args ds gs before hval hW hL hS
theorem Ck:(Rows.engineCleanRow.inPlace==Tryz.pinned.checked.prog.inPlace 3)=true:=by kernel_rfl
theorem Cm:(Rows.engineCleanRow.unfollowed==Tryz.pinned.checked.prog.unfollowed 3)=true:=by kernel_rfl
theorem Cn:(Rows.engineCleanRow.recurses==Tryz.pinned.checked.prog.recurses 3)=true:=by kernel_rfl
theorem Co:(Rows.engineCleanRow.named==Tryz.pinned.checked.prog.varsNamed 3)=true:=by kernel_rfl
theorem vw:joinedFacts Tryz.pinned.checked.prog 3 Tryz.f3 (OpenSpec.ofChange Rows.engineCleanSpec).bare Rows.engineCleanRow=true:=by
 unfold joinedFacts;rw[Ck,Cm,Cn,Co];kernel_rfl
theorem yE:Rows.EngineCleanSaid:=
 OpenClaim.holds_of_cond 3 Tryz.f3 rfl rfl rfl rfl rfl rfl rfl ⟨rfl,rfl,rfl,rfl,rfl⟩ rfl rfl rfl rfl rfl (by kernel_rfl) func3 vw
  (of_decide_eq_true (by kernel_rfl)) (by unfold Func.isWrapper;first|(rw[if_pos (by decide+kernel)];kernel_rfl)|(rw[if_neg (by decide+kernel)];exact⟨rfl,rfl⟩))
  (fun os started H enc _ F=>by rw[OpenClaim.pre_eq_preRow];exact vv os started H enc F)
theorem wS(f:FuncId)(fn:Func)(hf:Tryz.pinned.checked.prog.funcNamed "rhyton/rhytonlaw15.EngineClean" =some f)(hfn:Tryz.pinned.checked.prog.funcs[f]? =some fn):
 false=Tryz.pinned.checked.prog.looks []∧∀(j:Nat) t,fn.params[j]? =some t→Tryz.pinned.checked.prog.wantsStandIn t=false:=by
 obtain rfl:f=3:=Option.some.inj ((show prog.funcNamed "rhyton/rhytonlaw15.EngineClean" =some 3 by kernel_rfl).symm.trans hf) |>.symm;obtain rfl:fn=Tryz.f3:=(Option.some.inj (func3.symm.trans hfn)).symm;refine⟨by kernel_rfl,fun j t ht=> ?_⟩;rw[Tryz.params3]at ht;have hm:=Array.mem_of_getElem? ht;simp only[List.mem_toArray,List.mem_cons,List.not_mem_nil,or_false]at hm;rcases hm with rfl|rfl
 ·exact(show prog.wantsStandIn 24=false by kernel_rfl)
 ·exact(show prog.wantsStandIn 25=false by kernel_rfl)
theorem EngineClean_card:Rows.EngineCleanCardSaid:=
 Claim7.holds_tied_plain_at .later [] _ _ _ _ yE (fun _ h=>by cases h) (by kernel_rfl) (fun _ h=>by cases h) engineClean_row_tie rfl ⟨rfl,rfl⟩ (by kernel_rfl) rfl wS (by kernel_rfl)
#print axioms EngineClean_card
end
end Go.Proofs.YtdokeddjcpnmiaaGreatDoor
