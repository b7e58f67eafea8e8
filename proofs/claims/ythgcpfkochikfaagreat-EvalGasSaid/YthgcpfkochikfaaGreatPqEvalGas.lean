/-
  EvalGas returns true for every text, name, arguments, store, limit and more, and changes nothing that was there.
  Conditions: none beside those that the given row itself states.
-/
import Derived.Test.YthgcpfkochikfaaGreatPq38
import Derived.Test.YthgcpfkochikfaaGreatPq39
import Derived.ProofKit
import Derived.OpenShut
import Derived.ShutString
import Derived.ChangeOld
import Derived.JoinedCond
import Derived.Lib.SmallJoins
set_option maxRecDepth 100000
set_option maxHeartbeats 16000000
namespace Go.Proofs.YthgcpfkochikfaaGreat
namespace evalGas
open Go.ChangeShapes Go.WideShapes Go.ChangeAt Go.RowKit Go.Joins
open Go.ChangeMaps (open_string shut_string)
set_option linter.unusedVariables false
theorem own:ownKnob Tryz.prog.godebug=none:=by kernel_rfl
theorem laidOut:laidOutB Tryz.prog=true:=by kernel_rfl
theorem lifted (os:Os) (B:os.Started) (H:Type) (enc:TypeId×Value→H) :
    ReturnsInHanded {} Tryz.checked os 8 .any (Rows.evalGasSpec.pre6 enc Tryz.prog Tryz.f8 Rows.evalGasRow.domain false) (Rows.evalGasSpec.post enc Tryz.prog Tryz.f8 false true false false):=by
 refine kJ (C:=Tryz.checked) own B (by kernel_rfl) Tryz.func8
  (ChangeSpec.witness6 (enc:=enc) (C:=Tryz.checked) false ⟨#[],#[.slice none 0 0,.string ByteArray.empty,.slice none 0 0,.slice none 0 0,.int .i64 0,.int .u16 0],[]⟩ 8 (by kernel_rfl) (by kernel_rfl) (by kernel_rfl) (by kernel_rfl)) ?_
 intro W base args ds gs before D hW R;have A:∀(j:Nat) t v,Tryz.f8.params[j]?=some t→args[j]?=some v→Value.okWide Tryz.prog W .any base t v:=D;have Q:=hW;obtain ⟨p,q,M,hV,rfl,T,S⟩:=hW;have hA:DataW.TrodAll enc Tryz.prog W 0 (fun _=>true) true Tryz.f8.params.toList args.toList ds p:=M;have hS:=R;rw [Tryz.params8] at hA A hS;obtain ⟨v0,vs0,d0,ds0,p0,q0,L,rfl,rfl,h0,r0⟩:=trodAll_cons hA;obtain ⟨v1,vs1,d1,ds1,p1,q1,rfl,rfl,rfl,h1,r1⟩:=trodAll_cons r0;obtain ⟨v2,vs2,d2,ds2,p2,q2,rfl,rfl,rfl,h2,r2⟩:=trodAll_cons r1;obtain ⟨v3,vs3,d3,ds3,p3,q3,rfl,rfl,rfl,h3,r3⟩:=trodAll_cons r2;obtain ⟨v4,vs4,d4,ds4,p4,q4,rfl,rfl,rfl,h4,r4⟩:=trodAll_cons r3;obtain ⟨v5,vs5,d5,ds5,p5,q5,rfl,rfl,rfl,h5,r5⟩:=trodAll_cons r4;obtain ⟨rfl,rfl,rfl⟩:=trodAll_nil r5;obtain rfl:args=#[v0,v1,v2,v3,v4,v5]:=by cases args;simp_all
 obtain ⟨rfl,rfl⟩:=trodVars_none hV;have k0:=h0;have lt0:∀x∈p0,x.block<W.heap.size:=by obtain ⟨m,hm⟩:=k0;exact DataW.trod_lt m _ _ _ hm
 have k1:=h1;have lt1:∀x∈p1,x.block<W.heap.size:=by obtain ⟨m,hm⟩:=k1;exact DataW.trod_lt m _ _ _ hm
 have k2:=h2;have lt2:∀x∈p2,x.block<W.heap.size:=by obtain ⟨m,hm⟩:=k2;exact DataW.trod_lt m _ _ _ hm
 have k3:=h3;have lt3:∀x∈p3,x.block<W.heap.size:=by obtain ⟨m,hm⟩:=k3;exact DataW.trod_lt m _ _ _ hm
 have k4:=h4;have lt4:∀x∈p4,x.block<W.heap.size:=by obtain ⟨m,hm⟩:=k4;exact DataW.trod_lt m _ _ _ hm
 have k5:=h5;have lt5:∀x∈p5,x.block<W.heap.size:=by obtain ⟨m,hm⟩:=k5;exact DataW.trod_lt m _ _ _ hm
 obtain ⟨z0,P⟩:=TZ.of h0 hS (j:=0) rfl rfl;obtain ⟨a0,len0,cap0,rfl⟩:=okWide_slice Tryz.underlying30 (A 0 30 v0 rfl rfl);obtain ⟨x0,c0,s0,ec0,G,F,E⟩:=mq P;obtain ⟨rfl,rfl,rfl⟩:a0=x0∧len0=s0.length∧cap0=c0:=by simpa [Value.cells] using ec0
 obtain ⟨a1,rfl,rfl,rfl,w1⟩:=open_string Tryz.underlying9 (A 1 9 v1 rfl rfl) h1;obtain ⟨z2,O⟩:=TZ.of h2 hS (j:=2) rfl rfl;obtain ⟨a2,len2,cap2,rfl⟩:=okWide_slice Tryz.underlying41 (A 2 41 v2 rfl rfl);obtain ⟨x2,l2,ec2,K⟩:=oR O;obtain rfl:x2=.slice a2 len2 cap2:=by simpa [Value.cells,eq_comm] using ec2
 obtain ⟨z3,N⟩:=TZ.of h3 hS (j:=3) rfl rfl;obtain ⟨a3,len3,cap3,rfl⟩:=okWide_slice Tryz.underlying48 (A 3 48 v3 rfl rfl);obtain ⟨x3,l3,ec3,J,I⟩:=rU N;obtain rfl:x3=.slice a3 len3 cap3:=by simpa [Value.cells,eq_comm] using ec3
 obtain ⟨a4,rfl,rfl,rfl,wf4⟩:=open_int Tryz.underlying2 (A 4 2 v4 rfl rfl) h4;have w4:-9223372036854775808≤a4∧a4≤9223372036854775807:=by simpa [Lit.wf,IntKind.min,IntKind.max,IntKind.signed,IntKind.bits] using wf4
 obtain ⟨a5,rfl,rfl,rfl,wf5⟩:=open_int Tryz.underlying60 (A 5 60 v5 rfl rfl) h5;have w5:0≤a5∧a5≤65535:=by simpa [Lit.wf,IntKind.min,IntKind.max,IntKind.signed,IntKind.bits] using wf5
 obtain ⟨n5,rfl⟩:=Int.eq_ofNat_of_zero_le w5.1;clear M D;refine (yj a0 cap0 s0 a1 _ l2 _ l3 a4 n5 W E F G K J I w4 (by omega)).mono fun e W' ⟨he,bel⟩=>?_;subst he;exact ⟨_,rfl,_,_,_,[],_,[],Q,trodAll_mk1 (shut_bool Tryz.underlying4 _),(trodAll_cons_mk (Below.trod laidOut (by kernel_rfl) (of_decide_eq_true (by kernel_rfl)) k0 bel lt0) (trodAll_cons_mk (Below.trod laidOut (by kernel_rfl) (of_decide_eq_true (by kernel_rfl)) k1 bel lt1) (trodAll_cons_mk (Below.trod laidOut (by kernel_rfl) (of_decide_eq_true (by kernel_rfl)) k2 bel lt2) (trodAll_cons_mk (Below.trod laidOut (by kernel_rfl) (of_decide_eq_true (by kernel_rfl)) k3 bel lt3) (trodAll_cons_mk (Below.trod laidOut (by kernel_rfl) (of_decide_eq_true (by kernel_rfl)) k4 bel lt4) (trodAll_cons_mk (Below.trod laidOut (by kernel_rfl) (of_decide_eq_true (by kernel_rfl)) k5 bel lt5) trodAll_mk0)))))),rfl,bel.frame _,fun h=>by cases h⟩
theorem over:Rows.evalGasRow.holds Tryz.pinned (OpenSpec.ofChange Rows.evalGasSpec):=
 OpenClaim.holds_of_wide 8 Tryz.f8 rfl rfl rfl rfl rfl rfl rfl ⟨rfl,rfl,rfl,rfl,rfl⟩ rfl rfl rfl rfl rfl (by kernel_rfl) Tryz.func8 (by kernel_rfl)
  (of_decide_eq_true (by kernel_rfl)) (by unfold Func.isWrapper;first | (rw [if_pos (by decide +kernel)];kernel_rfl) | (rw [if_neg (by decide +kernel)];exact ⟨rfl,rfl⟩))
  (fun os started H enc _=>lifted os started H enc)
theorem proved:Rows.EvalGasSaid:=over
end evalGas
end Go.Proofs.YthgcpfkochikfaaGreat
