/-
  VerifyBuilt: whatever is built of any text is safe: the law answers true, and its input reads as it did.
  Conditions: none beside those that the given row itself states.
-/
import Derived.Test.YtmlgbkomdhcaoaaGreatDoorCards
import Derived.Test.YtmlgbkomdhcaoaaGreatDoorTie
import Derived.Test.YtmlgbkomdhcaoaaGreatDoorPv48
import Derived.WalkKit
import Derived.ProofKit
import Derived.OpenShut
import Derived.ShutString
import Derived.ChangeOld
import Derived.Lib.SmallJoins
import Derived.Deep.DeepHandedRow
set_option maxRecDepth 100000
set_option maxHeartbeats 16000000
namespace Go.Proofs.YtmlgbkomdhcaoaaGreatDoor
namespace verifyBuilt
open Go.ChangeShapes Go.WideShapes Go.ChangeAt Go.RowKit Go.Joins Go.Proofs.YtmlgbkomdhcaoaaGreatDoor
set_option linter.unusedVariables false
theorem own:ownKnob Tryz.prog.godebug=none:=by kernel_rfl
theorem laidOut:laidOutB Tryz.prog=true:=by kernel_rfl
theorem contract (H:Type) (enc:TypeId×Value→H) (W:World) (base:Nat) (args:Array Value) (ds gs:List (DataW H)) (A:List MemPlace)
    (B:∀(j:Nat) t v,Tryz.f3.params[j]?=some t→args[j]?=some v→Value.okWide Tryz.prog W .any base t v)
    (hW:DataW.Whole enc Tryz.prog Tryz.f3.params.toList Rows.verifyBuiltSpec.vars false W args.toList ds gs A) (hL:laidMetH Tryz.prog Rows.verifyBuiltRow.laid W)
    (ts:List TypeId) (G:(DataW.weightsEach Tryz.prog (Tryz.f3.params.toList++ts) (ds++gs)).all (·≤reachBytes)=true) :
    Calls Tryz.prog 3 args W fun e W'=>∃v,e=.returned v∧Rows.verifyBuiltSpec.post enc Tryz.prog Tryz.f3 false true false false W args v W':=by
 have K:=hW;obtain ⟨p,q,I,hV,rfl,M,L⟩:=hW;have hA:DataW.TrodAll enc Tryz.prog W 0 (fun _=>true) true Tryz.f3.params.toList args.toList ds p:=I;have hS:=G;rw [Tryz.params3] at hA B hS;clear G;obtain ⟨v0,vs0,d0,ds0,p0,q0,F,rfl,rfl,h0,r0⟩:=trodAll_cons hA;obtain ⟨rfl,rfl,rfl⟩:=trodAll_nil r0;obtain rfl:args=#[v0]:=by cases args;simp_all
 obtain ⟨rfl,rfl⟩:=trodVars_none hV;have k0:=h0;have lt0:∀x∈p0,x.block<W.heap.size:=by obtain ⟨m,hm⟩:=k0;exact DataW.trod_lt m _ _ _ hm
 obtain ⟨z0,J⟩:=TZ.of h0 hS (j:=0) rfl rfl;obtain ⟨a0,len0,cap0,rfl⟩:=okWide_slice Tryz.underlying22 (B 0 22 v0 rfl rfl);obtain ⟨x0,c0,s0,ec0,E,D,C⟩:=sH J;obtain ⟨rfl,rfl,rfl⟩:a0=x0∧len0=s0.length∧cap0=c0:=by simpa [Value.cells] using ec0
 clear I;refine (vC a0 cap0 s0 W C D E (ws hL)).mono fun e W' ⟨he,bel⟩=>?_;subst he;exact ⟨_,rfl,_,_,_,[],_,[],K,trodAll_mk1 (shut_bool Tryz.underlying4 _),(trodAll_cons_mk (Below.trod laidOut (by kernel_rfl) (of_decide_eq_true (by kernel_rfl)) k0 bel lt0) trodAll_mk0),rfl,bel.frame _,fun h=>by cases h⟩
noncomputable def laidWorld (os:Os):World:=
 { World.holding Tryz.prog os ⟨#[],#[],[]⟩ with heap:=(World.holding Tryz.prog os ⟨#[],#[],[]⟩).heap.modify 0 fun
     | .cells _ t frozen=>.cells (signRow.map Value.string).toArray t frozen
     | o=>o }
theorem laid_met (os:Os):laidMet Tryz.prog Rows.verifyBuiltRow.laid ((laidWorld os).forCall (fun _ _=>0) ⟨#[],#[.slice none 0 0],[]⟩).memory:=
 laidMet_of_run' 40 (by kernel_rfl) (by kernel_rfl)
theorem reads (os:Os) {H:Type} (enc:TypeId×Value→H):∃places,DataW.whole enc Tryz.prog ((laidWorld os).forCall (fun _ _=>0) ⟨#[],#[.slice none 0 0],[]⟩).memory Tryz.f3.params.toList Rows.verifyBuiltSpec.vars false #[Value.slice none 0 0].toList 8=some ([.nil],[],places):=
 ⟨[],by kernel_rfl⟩
theorem lifted (os:Os) (A:os.Started) (H:Type) (enc:TypeId×Value→H) (F:Stop.Interp) :
    ReturnsInHanded {} Tryz.checked os 3 .any ((OpenSpec.ofChange Rows.verifyBuiltSpec).preRow enc Tryz.prog Tryz.f3 Rows.verifyBuiltRow.domain false Rows.verifyBuiltRow.laid) (((OpenSpec.ofChange Rows.verifyBuiltSpec).at F).post enc Tryz.prog Tryz.f3 false true false false):=by
 obtain ⟨places,hx⟩:=reads os enc
 refine returnsInHanded_of_row (C:=Tryz.checked) (s:=OpenSpec.ofChange Rows.verifyBuiltSpec) own A (by kernel_rfl) Tryz.func3
  (witness_row_at (enc:=enc) (C:=Tryz.checked) false (laidWorld os) #[.slice none 0 0] rfl (by kernel_rfl) (by kernel_rfl) (by kernel_rfl)
    (OpenSpec.preRow_of_cond 8 hx (by kernel_rfl) (fun k hk=>by cases hk) (by kernel_rfl) (laid_met os))) ?_
 intro W base args ds gs before B hW _ _ hS hL _ _;exact contract H enc W base args ds gs before B hW hL _ hS
theorem said:Rows.VerifyBuiltSaid:=
 OpenClaim.holds_of_cond 3 Tryz.f3 rfl rfl rfl rfl rfl rfl rfl ⟨rfl,rfl,rfl,rfl,rfl⟩ rfl rfl rfl rfl rfl (by kernel_rfl) Tryz.func3 (by kernel_rfl)
  (of_decide_eq_true (by kernel_rfl)) (by unfold Func.isWrapper;first | (rw [if_pos (by decide +kernel)];kernel_rfl) | (rw [if_neg (by decide +kernel)];exact ⟨rfl,rfl⟩))
  (fun os started H enc _ F=>by rw [OpenClaim.pre_eq_preRow];exact lifted os started H enc F)
theorem plain (f:FuncId) (fn:Func) (hf:Tryz.pinned.checked.prog.funcNamed "covenant/covenantlaw13.VerifyBuilt" = some f) (A:Tryz.pinned.checked.prog.funcs[f]?=some fn) :
    true=Tryz.pinned.checked.prog.looks []∧∀(j:Nat) t,fn.params[j]?=some t→Tryz.pinned.checked.prog.wantsStandIn t=false:=by
 obtain rfl:f=3:=Option.some.inj ((show Tryz.prog.funcNamed "covenant/covenantlaw13.VerifyBuilt" = some 3 by kernel_rfl).symm.trans hf) |>.symm
 obtain rfl:fn=Tryz.f3:=(Option.some.inj (Tryz.func3.symm.trans A)).symm;refine ⟨by kernel_rfl,fun j t ht=>?_⟩;rw [Tryz.params3] at ht;have ht:=Array.mem_of_getElem? ht;simp at ht
 subst ht;exact (show Tryz.prog.wantsStandIn 22=false by kernel_rfl)
theorem proved:Rows.VerifyBuiltCardSaid:=
 Claim7.holds_tied_plain_at .later [] _ _ _ _ said (fun _ h=>by cases h) (by kernel_rfl) (fun _ h=>by cases h) verifyBuilt_row_tie rfl ⟨rfl,rfl⟩ (by kernel_rfl) rfl plain (by kernel_rfl)
end verifyBuilt
end Go.Proofs.YtmlgbkomdhcaoaaGreatDoor
