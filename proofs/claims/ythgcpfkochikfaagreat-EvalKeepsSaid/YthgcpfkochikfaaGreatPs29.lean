/-
  EvalSigns: part 29 of its proof: see the last text.
-/
import Derived.Test.YthgcpfkochikfaaGreatPs25
import Derived.Test.YthgcpfkochikfaaGreatPs28
import Derived.Test.YthgcpfkochikfaaGreatPs27
import Derived.Test.YthgcpfkochikfaaGreatPs09
set_option maxRecDepth 100000
set_option maxHeartbeats 16000000
namespace Go.Proofs.YthgcpfkochikfaaGreat
section
open Go.RowKit
theorem ez {a b:Flt} (h:(orF a b).1=0):a.1=0∧b.1=0:=by
 unfold orF at h;split at h
 ·rename_i g;exact absurd h g
 ·rename_i g;exact ⟨by simpa using g,h⟩
theorem o8 {r:Int×Flt} {t pos:Int} (h:(lk r t pos).1=0):r.2.1=0:=by
 unfold lk at h;split at h
 ·rename_i g;exact absurd h g
 ·rename_i g;simpa using g
def oL (F:List Fn) (G:aU):Prop:=∀k fn,aL G k=some fn→cD F k=some fn
mutual
theorem pV {F:List Fn} {G:aU} (hf:oL F G) (V:bw):∀x:Ex,(aM G V x).2.1=0→okE x→WfE F x
 | .mk op num text ks pos=>by
  intro e ho;rw [okE] at ho;rw [WfE];rw [aM] at e;by_cases c1:cg op=-2∨(0≤cg op∧cg op≠ks.length)
  ·rw [if_pos c1] at e
   exact absurd e (show ¬(51:Int)=0 by decide)
  rw [if_neg c1] at e
  have D:1≤op∧op≤10:=by
   by_cases q:1≤op∧op≤10
   ·exact q
   ·refine absurd (.inl ?_) c1
    unfold cg;rw [if_neg (by omega),if_neg (by omega),if_neg (by omega),if_neg (by omega)]
  have B:0≤cg op→cg op=ks.length:=fun h=>by
   by_cases q:cg op=ks.length
   ·exact q
   ·exact absurd (Or.inr ⟨h,q⟩) c1
  have C:op≤4→ks=[]:=fun h=>by
   have h0:cg op=0:=by unfold cg;rw [if_pos (by omega)]
   exact List.eq_nil_of_length_eq_zero (by have:=B (by omega);omega)
  have h1:op=7∨op=8∨op=9∨op=10→ks.length=1:=fun h=>by
   have h0:cg op=1:=by unfold cg;rw [if_neg (by omega),if_pos h]
   have:=B (by omega);omega
  have h2:op=6→ks.length=2:=fun h=>by
   have h0:cg op=2:=by unfold cg;rw [if_neg (by omega),if_neg (by omega),if_pos h]
   have:=B (by omega);omega
  have A:=fun ts=>mQ hf V ks ts;refine ⟨⟨ho.1.1,fun q=>Nat.le_trans (ho.1.2 (.inl q)) (by decide),fun q=>?_,fun q=>⟨h2 q,?_⟩,fun q=>⟨h1 (.inl q),?_⟩,fun q=>h1 (.inr q),D⟩,?_⟩
  ·subst q
   rw [if_neg (by decide),if_neg (by decide),if_neg (by decide),if_neg (by decide),if_pos rfl] at e
   cases hl:aL G text with
   | none=>rw [hl] at e;exact absurd e (by simp)
   | some fn =>
    rw [hl] at e;dsimp only at e;by_cases c7:fn.params.length≠ks.length
    ·rw [if_pos c7] at e
     exact absurd e (show ¬(51:Int)=0 by decide)
    ·exact ⟨fn,hf _ _ hl,by simpa using c7⟩
  ·subst q
   rw [if_neg (by decide),if_neg (by decide),if_neg (by decide),if_neg (by decide),if_neg (by decide),if_pos rfl] at e;unfold AX;by_cases c8:(cq text.toList).1≠0
   ·unfold cq at c8
    split at c8
    ·rename_i q;rcases q with q | q | q | q<;>simp [q]
    split at c8
    ·rename_i q;rcases q with q | q | q | q<;>simp [q]
    split at c8
    ·rename_i q;rcases q with q | q<;>simp [q]
    ·exact absurd rfl c8
   rw [if_neg c8] at e;by_cases c9:text.toList≠[43]∧text.toList≠[61,61]∧text.toList≠[33,61]
   ·rw [if_pos c9] at e
    exact absurd e (show ¬(51:Int)=0 by decide)
   ·simp only [ne_eq,not_and,Decidable.not_not] at c9
    by_cases d1:text.toList=[43]
    ·exact .inl d1
    ·by_cases d2:text.toList=[61,61]
     ·simp [d2]
     ·simp [c9 d1 d2]
  ·subst q
   rw [if_neg (by decide),if_neg (by decide),if_neg (by decide),if_neg (by decide),if_neg (by decide),if_neg (by decide),if_pos rfl] at e;by_cases d1:text.toList=[45]
   ·exact .inl d1
   ·rw [if_neg d1] at e
    by_cases d2:text.toList=[33]
    ·exact .inr d2
    ·rw [if_neg d2] at e
     exact absurd e (show ¬(51:Int)=0 by decide)
  ·by_cases c4:op≤4
   ·rw [C c4,WfEs]
    trivial
   rw [if_neg (by omega),if_neg (by omega),if_neg (by omega),if_neg (by omega)] at e;by_cases c5:op=5
   ·rw [if_pos c5] at e
    cases hl:aL G text with
    | none=>rw [hl] at e;exact absurd e (by simp)
    | some fn =>
     rw [hl] at e;dsimp only at e;by_cases c7:fn.params.length≠ks.length
     ·rw [if_pos c7] at e
      exact absurd e (show ¬(51:Int)=0 by decide)
     ·rw [if_neg c7] at e
      exact A _ e ho.2
   rw [if_neg c5] at e;by_cases c6:op=6
   ·rw [if_pos c6] at e
    by_cases c8:(cq text.toList).1≠0
    ·rw [if_pos c8] at e
     exact A _ e ho.2
    rw [if_neg c8] at e;by_cases c9:text.toList≠[43]∧text.toList≠[61,61]∧text.toList≠[33,61]
    ·rw [if_pos c9] at e
     exact absurd e (show ¬(51:Int)=0 by decide)
    rw [if_neg c9] at e;dsimp only at e;by_cases c10:(dn G V (text.toList==[43]) ks).1.1≠0
    ·rw [if_pos c10] at e
     exact absurd e c10
    exact rP hf V _ ks (by simpa using c10) ho.2
   rw [if_neg c6] at e;by_cases c7:op=7
   ·rw [if_pos c7] at e
    by_cases d1:text.toList=[45]
    ·rw [if_pos d1] at e
     exact A _ e ho.2
    rw [if_neg d1] at e;by_cases d2:text.toList=[33]
    ·rw [if_pos d2] at e
     exact A _ e ho.2
    rw [if_neg d2] at e;exact absurd e (show ¬(51:Int)=0 by decide)
   rw [if_neg c7] at e;by_cases c9:op=9
   ·rw [if_pos c9] at e
    exact A _ e ho.2
   rw [if_neg c9] at e;by_cases c10:op=10
   ·rw [if_pos c10] at e
    exact A _ e ho.2
   rw [if_neg c10] at e;exact A _ e ho.2
theorem mQ {F:List Fn} {G:aU} (hf:oL F G) (V:bw):∀(l:List Ex) (ts:List Int),(cL G V l ts).1=0→dF l→WfEs F l
 | [],ts=>fun _ _=>by rw [WfEs];trivial
 | x :: l,ts=>fun e ho=>by
  rw [cL] at e;obtain ⟨e1,e2⟩:=ez e;rw [dF] at ho;rw [WfEs];exact ⟨pV hf V x (o8 e1) ho.1,mQ hf V l _ e2 ho.2⟩
theorem rP {F:List Fn} {G:aU} (hf:oL F G) (V:bw) (plus:Bool):∀l:List Ex,(dn G V plus l).1.1=0→dF l→WfEs F l
 | []=>fun _ _=>by rw [WfEs];trivial
 | k :: l=>fun e ho=>by
  rw [dn] at e;rw [dF] at ho;rw [WfEs];by_cases c0:(aM G V k).2.1=0
  ·rw [if_pos c0] at e
   by_cases c:(noC ((aM G V k).1 !=0&&!(plus&&(aM G V k).1==2)) 51 k.pos).1≠0
   ·rw [if_pos c] at e
    exact absurd e c
   rw [if_neg c] at e;exact ⟨pV hf V k c0 ho.1,rP hf V plus l e ho.2⟩
  ·rw [if_neg c0,if_pos c0] at e
   exact absurd e c0
end
mutual
theorem At {F:List Fn} {G:aU} (hf:oL F G) (res:Int):∀(s:St) (V:bw),(cS G res s V).2.1=0→okS s→WfS F s
 | .mk op text es body els pos,V=>by
  intro e ho;rw [okS] at ho;rw [WfS];rw [cS] at e;by_cases c0:dD (.mk op text es body els pos)=false
  ·rw [if_pos c0] at e
   exact absurd e (by simp)
  rw [if_neg c0] at e
  have h:(if op=1∨op=2∨op=7∨op=8 then es.length==1&&body.length==0&&els.length==0
    else if op=6 then es.length==2&&body.length==0&&els.length==0
    else if op=5 then decide (es.length≤1)&&body.length==0&&els.length==0
    else if op=3 then es.length==1
    else if op=4 then es.length==2&&els.length==0 else false)=true:=by
   have h:dD (.mk op text es body els pos)=true:=by simpa using c0
   exact h
  have wnil:kF F []:=by rw [kF];trivial
  have one:∀{r:Int},es.length=1→(aM G V (es.headD default)).2.1=0→WfEs F es:=fun {r} q g=>by
   obtain ⟨x,rfl⟩:∃x,es=[x]:=by
    match es,q with
    | [x],_=>exact ⟨x,rfl⟩
   have A:=ho.2.1;rw [dF] at A;rw [WfEs,WfEs];exact ⟨pV hf V x g A.1,trivial⟩
  by_cases c1:op=1
  ·rw [if_pos (.inl c1)] at h
   rw [if_pos c1] at e;simp only [Bool.and_eq_true,beq_iff_eq] at h
   rw [List.eq_nil_of_length_eq_zero h.1.2,List.eq_nil_of_length_eq_zero h.2];exact ⟨by omega,one (r:=0) h.1.1 (ez e).1,wnil,wnil⟩
  rw [if_neg c1] at e;by_cases c2:op=2
  ·rw [if_pos (by omega)] at h
   rw [if_pos c2] at e;simp only [Bool.and_eq_true,beq_iff_eq] at h
   rw [List.eq_nil_of_length_eq_zero h.1.2,List.eq_nil_of_length_eq_zero h.2];exact ⟨by omega,one (r:=0) h.1.1 (o8 (ez (ez e).2).2),wnil,wnil⟩
  rw [if_neg c2] at e;by_cases c3:op=3
  ·rw [if_neg (by omega),if_neg (by omega),if_neg (by omega),if_pos c3,beq_iff_eq] at h
   rw [if_pos c3] at e;obtain ⟨e1,e2⟩:=ez e;obtain ⟨e2,e3⟩:=ez e2;exact ⟨by omega,one (r:=0) h (o8 e1),iV hf res body V e2 ho.2.2.1,iV hf res els V e3 ho.2.2.2⟩
  rw [if_neg c3] at e;by_cases c4:op=4
  ·rw [if_neg (by omega),if_neg (by omega),if_neg (by omega),if_neg c3,if_pos c4] at h
   rw [if_pos c4] at e;simp only [Bool.and_eq_true,beq_iff_eq] at h
   obtain ⟨e1,e2⟩:=ez e;obtain ⟨e2,e3⟩:=ez e2;rw [List.eq_nil_of_length_eq_zero h.2];exact ⟨by omega,mQ hf V es _ e1 ho.2.1,iV hf res body _ e3 ho.2.2.1,wnil⟩
  rw [if_neg c4] at e;by_cases c5:op=5
  ·rw [if_neg (by omega),if_neg (by omega),if_pos c5] at h
   rw [if_pos c5] at e;simp only [Bool.and_eq_true,beq_iff_eq,decide_eq_true_eq] at h
   rw [List.eq_nil_of_length_eq_zero h.1.2,List.eq_nil_of_length_eq_zero h.2];refine ⟨by omega,?_,wnil,wnil⟩;by_cases c6:es.length=0
   ·rw [List.eq_nil_of_length_eq_zero c6,WfEs]
    trivial
   ·rw [if_neg c6] at e
    exact one (r:=0) (by omega) (ez e).1
  rw [if_neg c5] at e;by_cases c8:op=8
  ·rw [if_pos (by omega)] at h
   rw [if_pos c8] at e;simp only [Bool.and_eq_true,beq_iff_eq] at h
   rw [List.eq_nil_of_length_eq_zero h.1.2,List.eq_nil_of_length_eq_zero h.2];exact ⟨by omega,one (r:=0) h.1.1 (ez e).1,wnil,wnil⟩
  rw [if_neg c8] at e;by_cases c6:op=6
  ·rw [if_neg (by omega),if_pos c6] at h
   simp only [Bool.and_eq_true,beq_iff_eq] at h
   rw [List.eq_nil_of_length_eq_zero h.1.2,List.eq_nil_of_length_eq_zero h.2];exact ⟨by omega,mQ hf V es _ e ho.2.1,wnil,wnil⟩
  ·by_cases c7:op=7
   ·rw [if_pos (by omega)] at h
    simp only [Bool.and_eq_true,beq_iff_eq] at h
    rw [List.eq_nil_of_length_eq_zero h.1.2,List.eq_nil_of_length_eq_zero h.2];exact ⟨by omega,mQ hf V es _ e ho.2.1,wnil,wnil⟩
   ·rw [if_neg (by omega),if_neg c6,if_neg c5,if_neg c3,if_neg c4] at h
    cases h
theorem iV {F:List Fn} {G:aU} (hf:oL F G) (res:Int):∀(l:List St) (V:bw),(bF G res l V).1=0→fi l→kF F l
 | [],_=>fun _ _=>by rw [kF];trivial
 | s :: l,V=>fun e ho=>by
  rw [bF] at e;rw [fi] at ho;rw [kF];by_cases c:(cS G res s V).2.1≠0
  ·rw [if_pos c] at e
   exact absurd e c
  rw [if_neg c] at e;exact ⟨At hf res s V (by simpa using c) ho.1,iV hf res l _ e ho.2⟩
end
theorem oh:∀(a b:List Fn) (k:ByteArray),cD (a++b) k=(cD a k).or (cD b k)
 | [],b,k=>rfl
 | f :: a,b,k=>by
  rw [List.cons_append,cD,cD];by_cases c:f.name=k
  ·rw [if_pos c,if_pos c];rfl
  ·rw [if_neg c,if_neg c,oh a b k]
theorem oe:∀(l a:List Fn) (G:aU),(dq l G).1.1=0→(∀k,aL G k=cD a k)→∀k,aL (dq l G).2 k=cD (a++l) k
 | [],a,G,_,h,k=>by rw [dq,List.append_nil];exact h k
 | f :: l,a,G,e,h,k=>by
  rw [dq] at e ⊢;by_cases c:(aL G f.name).isSome
  ·rw [if_pos c] at e
   exact absurd e (by simp)
  rw [if_neg c] at e ⊢;have q:=oe l (a++[f]) (bZ G f.name f) e (fun k=>?_) k
  ·rw [List.append_assoc] at q
   exact q
  ·rw [vd,oh,cD,cD,h k]
   by_cases d:f.name=k
   ·subst d
    rw [if_pos rfl,if_pos rfl];rw [h f.name] at c
    cases hc:cD a f.name with
    | none=>rfl
    | some g=>rw [hc] at c;exact absurd rfl c
   ·rw [if_neg d,if_neg d]
    cases cD a k<;>rfl
theorem uz {G:aU}:∀{l:List Fn},(gx G l).1=0→∀f,f∈l→(fN G f).1=0
 | g :: l,e,f,hf=>by
  rw [gx] at e;obtain ⟨e1,e2⟩:=ez e;rcases List.mem_cons.1 hf with rfl | hf
  ·exact e1
  ·exact uz e2 f hf
theorem qU:∀{l:List Fn} {f:Fn},gC l→f∈l→fi f.body
 | g :: l,f,h,hf=>by
  rw [gC] at h;rcases List.mem_cons.1 hf with rfl | hf
  ·exact h.1.2.1
  ·exact qU h.2 hf
theorem rH {l:List Fn} (h:(bL l).1=0) (ho:gC l):l.length≤64∧∀f,f∈l→kF l f.body∧f.params.length≤16:=by
 unfold bL at h;by_cases c:64<l.length
 ·rw [if_pos c] at h
  exact absurd h (by simp)
 rw [if_neg c] at h;by_cases d:(dq l []).1.1≠0
 ·rw [if_pos d] at h
  exact absurd h d
 rw [if_neg d] at h
 have hk:oL l (dq l []).2:=fun k fn q=>by
  rw [oe l [] [] (by simpa using d) (fun _=>rfl) k] at q;exact q
 refine ⟨by omega,fun f hf=>?_⟩;have e:=uz h f hf;unfold fN at e;dsimp only at e;by_cases c1:(dT f.pos f.params []).1.1≠0
 ·rw [if_pos c1] at e
  exact absurd e c1
 rw [if_neg c1] at e;by_cases c2:f.result<0∨3<f.result
 ·rw [if_pos c2] at e
  exact absurd e (by simp)
 rw [if_neg c2] at e;by_cases c3:16<f.params.length∨64<wrap64 (f.params.length+dr 0 f.body)
 ·rw [if_pos c3] at e
  exact absurd e (by simp)
 rw [if_neg c3] at e;exact ⟨iV hk _ _ _ (ez e).1 (qU ho hf),by omega⟩
end
section
open Go.RowKit
theorem rB:∀l:List Ex,l.length≤dJ l
 | []=>Nat.zero_le _
 | .mk op num text ks pos :: l=>by
  rw [dJ,szE,List.length_cons];have:=rB l;omega
section
variable {y:Ly} {m:Nat}
mutual
theorem DK (A:∀k,m=k+1→jw y k) (hm:m≤16):∀x:Ex,WfE y.F x→szE x≤100000→pB y m x
 | .mk op num text ks pos=>fun hw hs=>by
  have B:=hw;rw [WfE] at B;rw [szE] at hs;have hk:=tt A hm ks B.2 (by omega);exact sm op num pos text ks hw hk (fun q=>wO text ks (B.1.2.2.2.1 q).1 (B.1.2.2.2.1 q).2 hk) A hm (Nat.le_trans (rB ks) (by omega))
theorem tt (A:∀k,m=k+1→jw y k) (hm:m≤16):∀l:List Ex,WfEs y.F l→dJ l≤100000→∀i,i<l.length→pB y m (l.getD i default)
 | []=>fun _ _ i hi=>absurd hi (Nat.not_lt_zero _)
 | x :: l=>fun hw hs i hi=>by
  rw [WfEs] at hw;rw [dJ] at hs
  cases i with
  | zero=>exact DK A hm x hw.1 (by omega)
  | succ i=>exact tt A hm l hw.2 (by omega) i (by simpa using hi)
end
mutual
theorem Ds (A:∀k,m=k+1→jw y k) (hm:m≤16):∀s:St,WfS y.F s→szS s≤100000→Bh y m s
 | .mk op text es body els pos=>fun hw hs=>by
  have B:=hw;rw [WfS] at B;rw [szS] at hs;exact td op pos text es body els hw (tt A hm es B.2.1 (by omega)) (jz body (pT A hm body B.2.2.1 (by omega))) (jz els (pT A hm els B.2.2.2 (by omega)))
theorem pT (A:∀k,m=k+1→jw y k) (hm:m≤16):∀l:List St,kF y.F l→eT l≤100000→∀i,i<l.length→Bh y m (l.getD i default)
 | []=>fun _ _ i hi=>absurd hi (Nat.not_lt_zero _)
 | s :: l=>fun hw hs i hi=>by
  rw [kF] at hw;rw [eT] at hs
  cases i with
  | zero=>exact Ds A hm s hw.1 (by omega)
  | succ i=>exact pT A hm l hw.2 (by omega) i (by simpa using hi)
end
theorem Bz (A:∀k,m=k+1→jw y k) (hm:m≤16) (l:List St) (hw:kF y.F l) (hs:eT l≤100000):xy y m l:=jz l (pT A hm l hw hs)
end
theorem nx {y:Ly} (hw:∀f,f∈y.F→kF y.F f.body∧eT f.body≤100000):∀m,m≤15→jw y m
 | 0,_=>jp (by decide) fun f hf=>Bz (fun k e=>by omega) (by decide) f.body (hw f hf).1 (hw f hf).2
 | m+1,h=>jp h fun f hf=>Bz (fun k e=>by obtain rfl:m=k:=(by omega);exact nx hw m (by omega)) (by omega) f.body (hw f hf).1 (hw f hf).2
end
section
open Go.RowKit
def atL (r:Rst) (L:Int):Rst:={ r with lim:=L }
theorem oJ (r:Rst) (L:Int):(atL r L).pairs=r.pairs:=rfl
def BA {α:Type} (x:Rn α) (L:Int):Prop:=∃p,x=.trap 1 p∧p.used=L
def BF {α:Type} (m:RM α) (r:Rst) (x:Rst→Rn α) (q:Rst):Prop:=∀L,r.used≤L→(q.used≤L→m (atL r L)=x (atL q L))∧(L<q.used→BA (m (atL r L)) L)
def GasOk {α:Type} (m:RM α):Prop:=∀r,r.used≤r.lim→match m r with
 | .ok a q=>q.lim=r.lim∧r.used≤q.used∧q.used≤r.lim∧BF m r (.ok a) q
 | .trap t q=>q.lim=r.lim∧r.used≤q.used∧q.used≤r.lim∧(t=1→q.used=r.lim)∧(t≠1→BF m r (.trap t) q)
theorem GasOk.ok {α:Type} (a:α):GasOk (okM a):=fun r h=>⟨rfl,Int.le_refl _,h,fun L hl=>⟨fun _=>rfl,fun h2=>absurd hl (by omega)⟩⟩
theorem GasOk.bind {α β:Type} {m:RM α} {f:α→RM β} (hm:GasOk m) (hf:∀a,GasOk (f a)):GasOk (m.then f):=by
 intro r hr;have h1:=hm r hr;unfold RM.then
 cases hq:m r with
 | trap t q =>
  rw [hq] at h1;refine ⟨h1.1,h1.2.1,h1.2.2.1,h1.2.2.2.1,fun ht L hl=>⟨fun h2=>?_,fun h2=>?_⟩⟩
  ·have:=(h1.2.2.2.2 ht L hl).1 h2
   dsimp only;rw [this]
  ·obtain ⟨p,e1,e2⟩:=(h1.2.2.2.2 ht L hl).2 h2
   dsimp only;rw [e1];exact ⟨p,rfl,e2⟩
 | ok a q =>
  rw [hq] at h1;obtain ⟨a1,a2,a3,a4⟩:=h1;have h2:=hf a q (by omega);dsimp only
  have low:∀L,r.used≤L→L<q.used→BA (match m (atL r L) with | .ok a r=>f a r | .trap t r=>.trap t r) L:=fun L hl h3=>by
   obtain ⟨p,e1,e2⟩:=(a4 L hl).2 h3;rw [e1];exact ⟨p,rfl,e2⟩
  cases hq2:f a q with
  | ok b s =>
   rw [hq2] at h2;obtain ⟨b1,b2,b3,b4⟩:=h2;refine ⟨by omega,by omega,by omega,fun L hl=>⟨fun h3=>?_,fun h3=>?_⟩⟩
   ·dsimp only
    rw [(a4 L hl).1 (by omega)];exact (b4 L (by omega)).1 h3
   ·by_cases c:L<q.used
    ·exact low L hl c
    ·dsimp only
     rw [(a4 L hl).1 (by omega)];exact (b4 L (by omega)).2 h3
  | trap t s =>
   rw [hq2] at h2;obtain ⟨b1,b2,b3,b4,b5⟩:=h2;refine ⟨by omega,by omega,by omega,fun ht=>by have:=b4 ht;omega,fun ht L hl=>⟨fun h3=>?_,fun h3=>?_⟩⟩
   ·dsimp only
    rw [(a4 L hl).1 (by omega)];exact (b5 ht L (by omega)).1 h3
   ·by_cases c:L<q.used
    ·exact low L hl c
    ·dsimp only
     rw [(a4 L hl).1 (by omega)];exact (b5 ht L (by omega)).2 h3
theorem GasOk.use {n:Int} (hn:0≤n):GasOk (dy n):=by
 intro r hr;by_cases c:n≤r.lim-r.used
 ·have e:dy n r=.ok () { r with used:=r.used+n }:=by unfold dy;rw [if_pos c]
  rw [e];refine ⟨rfl,by simp;omega,by simp;omega,fun L hl=>⟨fun h=>?_,fun h=>?_⟩⟩
  ·have h':r.used+n≤L:=h
   exact if_pos (show n≤L-r.used by omega)
  ·have h':L<r.used+n:=h
   exact ⟨_,if_neg (show ¬n≤L-r.used by omega),rfl⟩
 ·have e:dy n r=.trap 1 { r with used:=r.lim }:=by unfold dy;rw [if_neg c]
  rw [e];exact ⟨rfl,hr,by simp,fun _=>rfl,fun h=>absurd rfl h⟩
theorem GasOk.same {α:Type} {m:RM α} (h:∀r,(∃a q,m r=.ok a q∧q.lim=r.lim∧q.used=r.used∧∀L,m (atL r L)=.ok a (atL q L))∨∃t q,t≠1∧m r=.trap t q∧q.lim=r.lim∧q.used=r.used∧∀L,m (atL r L)=.trap t (atL q L)):GasOk m:=by
 intro r hr;rcases h r with ⟨a,q,e,h1,h2,h3⟩ | ⟨t,q,ht,e,h1,h2,h3⟩
 ·rw [e]
  exact ⟨h1,by omega,by omega,fun L hl=>⟨fun _=>h3 L,fun h=>absurd hl (by omega)⟩⟩
 ·rw [e]
  exact ⟨h1,by omega,by omega,fun h=>absurd h ht,fun _ L hl=>⟨fun _=>h3 L,fun h=>absurd hl (by omega)⟩⟩
theorem GasOk.right {p:Vv×Int} (h:p.2≠1):GasOk (bX p):=GasOk.same fun _=>by
 unfold bX;by_cases c:p.2=0
 ·simp only [if_pos c]
  exact .inl ⟨_,_,rfl,rfl,rfl,fun _=>rfl⟩
 ·simp only [if_neg c]
  exact .inr ⟨_,_,h,rfl,rfl,rfl,fun _=>rfl⟩
theorem GasOk.get (k:List UInt8):GasOk (Ag k):=GasOk.same fun _=>.inl ⟨_,_,rfl,rfl,rfl,fun _=>rfl⟩
theorem GasOk.put (k v:List UInt8):GasOk (iO k v):=GasOk.same fun r=>by
 unfold iO AR
 cases h:fw r.pairs k v with
 | ok l =>
  refine .inl ⟨_,_,rfl,rfl,rfl,fun L=>?_⟩;rw [oJ,h];rfl
 | error e =>
  refine .inr ⟨_,_,?_,rfl,rfl,rfl,fun L=>?_⟩
  ·split<;>decide
  ·rw [oJ,h]
theorem GasOk.del (k:List UInt8):GasOk (uN k):=GasOk.same fun _=>.inl ⟨_,_,rfl,rfl,rfl,fun _=>rfl⟩
theorem GasOk.ite {α:Type} {c:Prop} [Decidable c] {a b:RM α} (ha:GasOk a) (hb:GasOk b):GasOk (if c then a else b):=by split<;>assumption
theorem oI (n:Int):0≤fZ n:=by unfold fZ;omega
theorem pO (a b:Int):0≤eF a b:=by have:=oI (max 0 (min a 2147483648)+max 0 (min b 2147483648));unfold eF;omega
end
section
open Go.RowKit
theorem j7:∀{a b c:List UInt8},bS a b=true→bS b c=true→bS a c=true
 | [],[],_,h,_=>by simp [bS] at h
 | [],_ :: _,[],_,h=>by simp [bS] at h
 | [],_ :: _,_ :: _,_,_=>by simp [bS]
 | _ :: _,[],_,h,_=>by simp [bS] at h
 | _ :: _,_ :: _,[],_,h=>by simp [bS] at h
 | x :: l,y :: r,z :: s,h,g=>by
  unfold bS at h g ⊢;by_cases c1:x<y
  ·by_cases c2:y<z
   ·rw [if_pos (UInt8.lt_trans c1 c2)]
   ·rw [if_neg c2] at g
    by_cases c3:z<y
    ·rw [if_pos c3] at g;cases g
    ·have:y=z:=UInt8.le_antisymm (UInt8.not_lt.1 c3) (UInt8.not_lt.1 c2)
     subst this;rw [if_pos c1]
  ·rw [if_neg c1] at h
   by_cases c2:y<x
   ·rw [if_pos c2] at h;cases h
   ·rw [if_neg c2] at h
    have:x=y:=UInt8.le_antisymm (UInt8.not_lt.1 c2) (UInt8.not_lt.1 c1);subst this;by_cases c3:x<z
    ·rw [if_pos c3]
    ·rw [if_neg c3] at g ⊢
     by_cases c4:z<x
     ·rw [if_pos c4] at g;cases g
     ·rw [if_neg c4] at g ⊢
      exact j7 h g
theorem rg:∀(a b:List UInt8),bS a b=true∨a=b∨bS b a=true
 | [],[]=>.inr (.inl rfl)
 | [],_ :: _=>.inl rfl
 | _ :: _,[]=>.inr (.inr rfl)
 | x :: l,y :: r=>by
  unfold bS;by_cases c1:x<y
  ·rw [if_pos c1];exact .inl rfl
  ·by_cases c2:y<x
   ·refine .inr (.inr ?_);rw [if_pos c2]
   ·rw [if_neg c1,if_neg c2,if_neg c2,if_neg c1]
    have:x=y:=UInt8.le_antisymm (UInt8.not_lt.1 c2) (UInt8.not_lt.1 c1);subst this;rcases rg l r with h | h | h
    ·exact .inl h
    ·exact .inr (.inl (by rw [h]))
    ·exact .inr (.inr h)
def nw (k:List UInt8) (l:List Pr):Prop:=∀p,p∈l→bS k p.1=true
theorem gN (p:Pr) (l:List Pr):dt (p :: l)=true ↔ nw p.1 l∧dt l=true:=by
 induction l generalizing p with
 | nil=>exact ⟨fun _=>⟨fun q h=>(by cases h),rfl⟩,fun _=>rfl⟩
 | cons q l ih =>
  rw [dt];refine ⟨fun h=>?_,fun h=>?_⟩
  ·obtain ⟨h1,h2⟩:=Bool.and_eq_true_iff.1 h
   refine ⟨fun r hr=>?_,h2⟩;rcases List.mem_cons.1 hr with rfl | hr
   ·exact h1
   ·exact j7 h1 (((ih q).1 h2).1 r hr)
  ·exact Bool.and_eq_true_iff.2 ⟨h.1 q (List.mem_cons_self ..),h.2⟩
theorem rx {k j v:List UInt8}:∀{l:List Pr},nw j l→bS j k=true→nw j (fc l k v)
 | [],_,hj=>fun p hp=>by rw [fc] at hp;obtain rfl:=List.mem_singleton.1 hp;exact hj
 | q :: l,h,hj=>fun p hp=>by
  rw [fc] at hp;have hq:=h q (List.mem_cons_self ..);have hl:nw j l:=fun r hr=>h r (List.mem_cons_of_mem _ hr);split at hp
  ·rcases List.mem_cons.1 hp with rfl | hp
   ·exact hj
   ·exact hl p hp
  split at hp
  ·rcases List.mem_cons.1 hp with rfl | hp
   ·exact hj
   ·exact h p hp
  ·rcases List.mem_cons.1 hp with rfl | hp
   ·exact hq
   ·exact rx hl hj p hp
theorem qQ (k v:List UInt8):∀{l:List Pr},dt l=true→dt (fc l k v)=true
 | [],_=>rfl
 | p :: l,h=>by
  obtain ⟨h1,h2⟩:=(gN p l).1 h;rw [fc];split
  ·rename_i e
   exact (gN _ _).2 ⟨fun q hq=>by rw [←e];exact h1 q hq,h2⟩
  split
  ·rename_i e1 e2
   refine (gN _ _).2 ⟨fun q hq=>?_,h⟩;rcases List.mem_cons.1 hq with rfl | hq
   ·exact e2
   ·exact j7 e2 (h1 q hq)
  ·rename_i e1 e2
   refine (gN _ _).2 ⟨rx h1 ?_,qQ k v h2⟩;rcases rg p.1 k with q | q | q
   ·exact q
   ·exact absurd q e1
   ·exact absurd q e2
theorem qu {k j:List UInt8}:∀{l:List Pr},nw j l→nw j (eo l k)
 | [],_=>fun p hp=>by rw [eo] at hp;cases hp
 | q :: l,h=>fun p hp=>by
  rw [eo] at hp;have hl:nw j l:=fun r hr=>h r (List.mem_cons_of_mem _ hr);split at hp
  ·exact hl p hp
  ·rcases List.mem_cons.1 hp with rfl | hp
   ·exact h _ (List.mem_cons_self ..)
   ·exact qu hl p hp
theorem qw (k:List UInt8):∀{l:List Pr},dt l=true→dt (eo l k)=true
 | [],_=>rfl
 | p :: l,h=>by
  obtain ⟨h1,h2⟩:=(gN p l).1 h;rw [eo];split
  ·exact h2
  ·exact (gN _ _).2 ⟨qu h1,qw k h2⟩
theorem rC (k:List UInt8):∀l:List Pr,cn (eo l k)≤cn l
 | []=>Nat.le_refl _
 | p :: l=>by
  rw [eo];have h:=rC k l;unfold cn at h ⊢;split
  ·simp only [List.map_cons,List.sum_cons];omega
  ·simp only [List.map_cons,List.sum_cons];omega
def iY (p:Pr):Bool:=decide (p.1.length≤64)&&decide (p.2.length≤256)
theorem oV {k v:List UInt8} (hk:k.length≤64) (hv:v.length≤256):∀{l:List Pr},(l.all iY)=true→((fc l k v).all iY)=true
 | [],_=>by simp [fc,iY,hk,hv]
 | p :: l,h=>by
  have A:iY (k,v)=true:=by simp [iY,hk,hv]
  have h':=h;rw [List.all_cons] at h;obtain ⟨h1,h2⟩:=Bool.and_eq_true_iff.1 h;rw [fc];split
  ·rw [List.all_cons,A,h2];rfl
  split
  ·rw [List.all_cons,A,h'];rfl
  ·rw [List.all_cons,h1,oV hk hv h2];rfl
theorem oH (k:List UInt8):∀{l:List Pr},(l.all iY)=true→((eo l k).all iY)=true
 | [],_=>rfl
 | p :: l,h=>by
  rw [List.all_cons] at h;obtain ⟨h1,h2⟩:=Bool.and_eq_true_iff.1 h;rw [eo];split
  ·exact h2
  ·rw [List.all_cons,h1,oH k h2];rfl
theorem jE (l:List Pr):a8 l=true ↔ (l.all iY)=true∧dt l=true∧cn l≤2048:=by
 unfold a8;rw [Bool.and_eq_true,Bool.and_eq_true,decide_eq_true_eq,and_assoc];rfl
theorem vh {l l':List Pr} {k v:List UInt8} (h:a8 l=true) (e:fw l k v=.ok l'):a8 l'=true:=by
 obtain ⟨h1,h2,_⟩:=(jE l).1 h;unfold fw at e;split at e
 ·cases e
 split at e
 ·cases e
 ·rename_i c1 c2
  injection e with e
  subst e;exact (jE _).2 ⟨oV (by omega) (by omega) h1,qQ k v h2,by omega⟩
theorem uR {l:List Pr} (k:List UInt8) (h:a8 l=true):a8 (eo l k)=true:=by
 obtain ⟨h1,h2,h3⟩:=(jE l).1 h;exact (jE _).2 ⟨oH k h1,qw k h2,Nat.le_trans (rC k l) h3⟩
structure Inv (I:Rst→Prop):Prop where
 use:∀r n,I r→I { r with used:=n }
 put:∀r k v l,I r→fw r.pairs k v=.ok l→I { r with pairs:=l,undo:=r.undo++[r.pairs] }
 del:∀r k,I r→I { r with pairs:=eo r.pairs k,undo:=r.undo++[r.pairs] }
section
variable {I:Rst→Prop}
def KeepR (I:Rst→Prop) {α:Type} (m:RM α):Prop:=∀r,I r→match m r with
 | .ok _ q=>I q
 | .trap _ q=>I q
theorem KeepR.ok {α:Type} (a:α):KeepR I (okM a):=fun _ h=>h
theorem KeepR.bind {α β:Type} {m:RM α} {f:α→RM β} (hm:KeepR I m) (hf:∀a,KeepR I (f a)):KeepR I (m.then f):=by
 intro r hr;have h1:=hm r hr;unfold RM.then
 cases hq:m r with
 | trap t q=>rw [hq] at h1;exact h1
 | ok a q =>
  rw [hq] at h1;exact hf a q h1
theorem KeepR.use (hI:Inv I) (n:Int):KeepR I (dy n):=by
 intro r hr;unfold dy;by_cases h:n≤r.lim-r.used
 ·rw [if_pos h];exact hI.use r _ hr
 ·rw [if_neg h];exact hI.use r _ hr
theorem KeepR.right (p:Vv×Int):KeepR I (bX p):=by
 intro r hr;unfold bX;by_cases h:p.2=0
 ·rw [if_pos h];exact hr
 ·rw [if_neg h];exact hr
theorem KeepR.get (k:List UInt8):KeepR I (Ag k):=fun _ h=>h
theorem KeepR.put (hI:Inv I) (k v:List UInt8):KeepR I (iO k v):=by
 intro r hr;unfold iO AR
 cases h:fw r.pairs k v with
 | ok l=>exact hI.put r k v l hr h
 | error e=>exact hr
theorem KeepR.del (hI:Inv I) (k:List UInt8):KeepR I (uN k):=fun r h=>hI.del r k h
theorem KeepR.ite {α:Type} {c:Prop} [Decidable c] {a b:RM α} (ha:KeepR I a) (hb:KeepR I b):KeepR I (if c then a else b):=by split<;>assumption
theorem Ah (hI:Inv I) (s:List UInt8) (a b:Vv):KeepR I (gT s a b):=by
 unfold gT;exact KeepR.ite (KeepR.ok _) (KeepR.bind (KeepR.ite (KeepR.use hI _) (KeepR.ok _)) fun _=>KeepR.right _)
theorem Bj (hI:Inv I) {call:bT} (h:∀x vs,KeepR I (call x vs)) (op:Int) (text:ByteArray) (vs:List Vv):KeepR I (jr call op text vs):=by
 unfold jr;exact KeepR.ite (h _ _) (KeepR.ite (KeepR.right _) (KeepR.ite (KeepR.ok _) (KeepR.bind (KeepR.use hI _) fun _=>KeepR.bind (KeepR.get _) fun _=>KeepR.ok _)))
mutual
theorem pH (hI:Inv I) {call:bT} (h:∀x vs,KeepR I (call x vs)) (σ:List Sc):∀x:Ex,KeepR I (bR call σ x)
 | .mk op num text ks _=>by
  rw [bR];exact KeepR.bind (KeepR.use hI _) fun _=>KeepR.ite (KeepR.ok _) (KeepR.ite (KeepR.ok _) (KeepR.ite (KeepR.ok _) (KeepR.ite (KeepR.ok _) (KeepR.ite (Cc hI h σ text ks) (KeepR.bind (mx hI h σ ks) fun _=>Bj hI h _ _ _)))))
theorem Cc (hI:Inv I) {call:bT} (h:∀x vs,KeepR I (call x vs)) (σ:List Sc) (text:ByteArray):∀l:List Ex,KeepR I (iA call σ text l)
 | []=>by rw [iA];exact KeepR.ok _
 | [_]=>by rw [iA];exact KeepR.ok _
 | x :: y :: _=>by
  rw [iA];exact KeepR.bind (pH hI h σ x) fun _=>KeepR.ite (KeepR.ok _) (KeepR.bind (pH hI h σ y) fun _=>Ah hI _ _ _)
theorem mx (hI:Inv I) {call:bT} (h:∀x vs,KeepR I (call x vs)) (σ:List Sc):∀l:List Ex,KeepR I (bA call σ l)
 | []=>by rw [bA];exact KeepR.ok _
 | x :: l=>by
  rw [bA];exact KeepR.bind (pH hI h σ x) fun _=>KeepR.bind (mx hI h σ l) fun _=>KeepR.ok _
end
theorem xk (m:Sc) {b:StM} (h:∀σ,KeepR I (b σ)) (σ:List Sc):KeepR I (inM m b σ):=KeepR.bind (h _) fun _=>KeepR.ok _
theorem tX (hI:Inv I) {round:Int→StM} (h:∀i σ,KeepR I (round i σ)):∀n i σ,KeepR I (fE round n i σ)
 | 0,_,_=>KeepR.ok _
 | n+1,i,σ=>KeepR.bind (KeepR.use hI _) fun _=>KeepR.bind (h i σ) fun _=>KeepR.ite (KeepR.ok _) (tX hI h n _ _)
theorem yW (hI:Inv I) (op:Int) (text:ByteArray) (vs:List Vv) (σ:List Sc):KeepR I (fD op text vs σ):=by
 unfold fD;exact KeepR.ite (KeepR.ok _) (KeepR.ite (KeepR.ok _) (KeepR.ite (KeepR.ok _) (KeepR.ite (KeepR.bind (KeepR.use hI _) fun _=>KeepR.bind (KeepR.put hI _ _) fun _=>KeepR.ok _) (KeepR.ite (KeepR.bind (KeepR.use hI _) fun _=>KeepR.bind (KeepR.del hI _) fun _=>KeepR.ok _) (KeepR.ok _)))))
mutual
theorem Bl (hI:Inv I) {call:bT} (h:∀x vs,KeepR I (call x vs)):∀(s:St) (σ:List Sc),KeepR I (bU call s σ)
 | .mk op text es body els _,σ=>by
  rw [bU];exact KeepR.bind (KeepR.use hI _) fun _=>KeepR.bind (mx hI h σ es) fun vs=>KeepR.ite (KeepR.ite (xk _ (jl hI h body) σ) (xk _ (jl hI h els) σ)) (KeepR.ite (tX hI (fun i=>xk _ (jl hI h body)) _ _ _) (yW hI _ _ _ _))
theorem jl (hI:Inv I) {call:bT} (h:∀x vs,KeepR I (call x vs)):∀(l:List St) (σ:List Sc),KeepR I (aG call l σ)
 | [],σ=>by rw [aG];exact KeepR.ok _
 | s :: l,σ=>by
  rw [aG];exact KeepR.bind (Bl hI h s σ) fun p=>KeepR.ite (KeepR.ok _) (jl hI h l p.2)
end
theorem pm (hI:Inv I) (F:List Fn):∀k x vs,KeepR I (aF F k x vs)
 | 0,_,_=>fun _ h=>h
 | k+1,x,vs=>by
  rw [aF];unfold tw;split
  ·exact KeepR.ok _
  ·exact KeepR.bind (jl hI (pm hI F k) _ _) fun _=>KeepR.ok _
end
theorem Inv.right:Inv fun r=>a8 r.pairs=true:=⟨fun _ _ h=>h,fun _ _ _ _ h e=>vh h e,fun _ _ h=>uR _ h⟩
end
end Go.Proofs.YthgcpfkochikfaaGreat
