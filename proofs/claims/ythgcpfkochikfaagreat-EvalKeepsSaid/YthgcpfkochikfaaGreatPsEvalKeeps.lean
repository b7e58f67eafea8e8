/-
  EvalKeeps returns true for every two texts, and changes nothing that was there.
  Conditions: none beside those that the given row itself states.
-/
import Derived.Test.YthgcpfkochikfaaGreatPs47
import Derived.ProofKit
import Derived.OpenShut
import Derived.ShutString
import Derived.ChangeOld
import Derived.JoinedCond
import Derived.Lib.SmallJoins
set_option maxRecDepth 100000
set_option maxHeartbeats 16000000
namespace Go.Proofs.YthgcpfkochikfaaGreat
namespace evalKeeps
open Go.ChangeShapes Go.WideShapes Go.ChangeAt Go.RowKit Go.Joins
open Go.ChangeMaps (open_string shut_string)
set_option linter.unusedVariables false
theorem own:ownKnob Tryz.prog.godebug=none:=by kernel_rfl
theorem laidOut:laidOutB Tryz.prog=true:=by kernel_rfl
theorem lifted (os:Os) (A:os.Started) (H:Type) (enc:TypeId×Value→H) :
    ReturnsInHanded {} Tryz.checked os 9 .any (Rows.evalKeepsSpec.pre6 enc Tryz.prog Tryz.f9 Rows.evalKeepsRow.domain false) (Rows.evalKeepsSpec.post enc Tryz.prog Tryz.f9 false true false false):=by
 refine o7 (C:=Tryz.checked) own A (by kernel_rfl) Tryz.func9
  (ChangeSpec.witness6 (enc:=enc) (C:=Tryz.checked) false ⟨#[],#[.slice none 0 0,.slice none 0 0],[]⟩ 8 (by kernel_rfl) (by kernel_rfl) (by kernel_rfl) (by kernel_rfl)) ?_
 intro W base args ds gs before B hW M;have D:∀(j:Nat) t v,Tryz.f9.params[j]?=some t→args[j]?=some v→Value.okWide Tryz.prog W .any base t v:=B;have L:=hW;obtain ⟨p,q,F,hV,rfl,O,N⟩:=hW;have hA:DataW.TrodAll enc Tryz.prog W 0 (fun _=>true) true Tryz.f9.params.toList args.toList ds p:=F;have hS:=M;rw [Tryz.params9] at hA D hS;obtain ⟨v0,vs0,d0,ds0,p0,q0,E,rfl,rfl,h0,r0⟩:=trodAll_cons hA;obtain ⟨v1,vs1,d1,ds1,p1,q1,rfl,rfl,rfl,h1,r1⟩:=trodAll_cons r0;obtain ⟨rfl,rfl,rfl⟩:=trodAll_nil r1;obtain rfl:args=#[v0,v1]:=by cases args;simp_all
 obtain ⟨rfl,rfl⟩:=trodVars_none hV;have k0:=h0;have lt0:∀x∈p0,x.block<W.heap.size:=by obtain ⟨m,hm⟩:=k0;exact DataW.trod_lt m _ _ _ hm
 have k1:=h1;have lt1:∀x∈p1,x.block<W.heap.size:=by obtain ⟨m,hm⟩:=k1;exact DataW.trod_lt m _ _ _ hm
 obtain ⟨z0,I⟩:=TZ.of h0 hS (j:=0) rfl rfl;obtain ⟨a0,len0,cap0,rfl⟩:=okWide_slice Tryz.underlying30 (D 0 30 v0 rfl rfl);obtain ⟨x0,c0,s0,ec0,K⟩:=i7 I;obtain ⟨rfl,rfl,rfl⟩:a0=x0∧len0=s0.length∧cap0=c0:=by simpa [Value.cells] using ec0
 obtain ⟨z1,G⟩:=TZ.of h1 hS (j:=1) rfl rfl;obtain ⟨a1,len1,cap1,rfl⟩:=okWide_slice Tryz.underlying30 (D 1 30 v1 rfl rfl);obtain ⟨x1,c1,s1,ec1,J⟩:=i7 G;obtain ⟨rfl,rfl,rfl⟩:a1=x1∧len1=s1.length∧cap1=c1:=by simpa [Value.cells] using ec1
 clear F B;refine (sX _ _ s0 s1 W K J).mono fun e W' ⟨he,bel⟩=>?_;subst he;exact ⟨_,rfl,_,_,_,[],_,[],L,trodAll_mk1 (shut_bool Tryz.underlying4 _),(trodAll_cons_mk (Below.trod laidOut (by kernel_rfl) (of_decide_eq_true (by kernel_rfl)) k0 bel lt0) (trodAll_cons_mk (Below.trod laidOut (by kernel_rfl) (of_decide_eq_true (by kernel_rfl)) k1 bel lt1) trodAll_mk0)),rfl,bel.frame _,fun h=>by cases h⟩
theorem over:Rows.evalKeepsRow.holds Tryz.pinned (OpenSpec.ofChange Rows.evalKeepsSpec):=
 OpenClaim.holds_of_wide 9 Tryz.f9 rfl rfl rfl rfl rfl rfl rfl ⟨rfl,rfl,rfl,rfl,rfl⟩ rfl rfl rfl rfl rfl (by kernel_rfl) Tryz.func9 (by kernel_rfl)
  (of_decide_eq_true (by kernel_rfl)) (by unfold Func.isWrapper;first | (rw [if_pos (by decide +kernel)];kernel_rfl) | (rw [if_neg (by decide +kernel)];exact ⟨rfl,rfl⟩))
  (fun os started H enc _=>lifted os started H enc)
theorem proved:Rows.EvalKeepsSaid:=over
end evalKeeps
end Go.Proofs.YthgcpfkochikfaaGreat
