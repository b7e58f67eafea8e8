/-
  EvalLoops: part 22 of its proof: see the last text.
-/
import Derived.Test.YthgcpfkochikfaaGreatPq08
set_option maxRecDepth 100000
set_option maxHeartbeats 16000000
namespace Go.Proofs.YthgcpfkochikfaaGreat
section
open Go.RowKit
def atL (r:Rst) (L:Int):Rst:={ r with lim:=L }
theorem oA (r:Rst) (L:Int):(atL r L).pairs=r.pairs:=rfl
def Bo {α:Type} (x:Rn α) (L:Int):Prop:=∃p,x=.trap 1 p∧p.used=L
def Bs {α:Type} (m:RM α) (r:Rst) (x:Rst→Rn α) (q:Rst):Prop:=∀L,r.used≤L→(q.used≤L→m (atL r L)=x (atL q L))∧(L<q.used→Bo (m (atL r L)) L)
def GasOk {α:Type} (m:RM α):Prop:=∀r,r.used≤r.lim→match m r with
 | .ok a q=>q.lim=r.lim∧r.used≤q.used∧q.used≤r.lim∧Bs m r (.ok a) q
 | .trap t q=>q.lim=r.lim∧r.used≤q.used∧q.used≤r.lim∧(t=1→q.used=r.lim)∧(t≠1→Bs m r (.trap t) q)
theorem GasOk.ok {α:Type} (a:α):GasOk (okM a):=fun r h=>⟨rfl,Int.le_refl _,h,fun L hl=>⟨fun _=>rfl,fun h2=>absurd hl (by omega)⟩⟩
theorem GasOk.bind {α β:Type} {m:RM α} {f:α→RM β} (hm:GasOk m) (hf:∀a,GasOk (f a)):GasOk (m.then f):=by
 intro r hr;have h1:=hm r hr;unfold RM.then
 cases hq:m r with
 | trap t q =>
  rw [hq] at h1;refine ⟨h1.1,h1.2.1,h1.2.2.1,h1.2.2.2.1,fun ht L hl=>⟨fun h2=>?_,fun h2=>?_⟩⟩
  ·have:=(h1.2.2.2.2 ht L hl).1 h2
   dsimp only;rw [this]
  ·obtain ⟨p,e1,e2⟩:=(h1.2.2.2.2 ht L hl).2 h2
   dsimp only;rw [e1];exact ⟨p,rfl,e2⟩
 | ok a q =>
  rw [hq] at h1;obtain ⟨a1,a2,a3,a4⟩:=h1;have h2:=hf a q (by omega);dsimp only
  have low:∀L,r.used≤L→L<q.used→Bo (match m (atL r L) with | .ok a r=>f a r | .trap t r=>.trap t r) L:=fun L hl h3=>by
   obtain ⟨p,e1,e2⟩:=(a4 L hl).2 h3;rw [e1];exact ⟨p,rfl,e2⟩
  cases hq2:f a q with
  | ok b s =>
   rw [hq2] at h2;obtain ⟨b1,b2,b3,b4⟩:=h2;refine ⟨by omega,by omega,by omega,fun L hl=>⟨fun h3=>?_,fun h3=>?_⟩⟩
   ·dsimp only
    rw [(a4 L hl).1 (by omega)];exact (b4 L (by omega)).1 h3
   ·by_cases c:L<q.used
    ·exact low L hl c
    ·dsimp only
     rw [(a4 L hl).1 (by omega)];exact (b4 L (by omega)).2 h3
  | trap t s =>
   rw [hq2] at h2;obtain ⟨b1,b2,b3,b4,b5⟩:=h2;refine ⟨by omega,by omega,by omega,fun ht=>by have:=b4 ht;omega,fun ht L hl=>⟨fun h3=>?_,fun h3=>?_⟩⟩
   ·dsimp only
    rw [(a4 L hl).1 (by omega)];exact (b5 ht L (by omega)).1 h3
   ·by_cases c:L<q.used
    ·exact low L hl c
    ·dsimp only
     rw [(a4 L hl).1 (by omega)];exact (b5 ht L (by omega)).2 h3
theorem GasOk.use {n:Int} (hn:0≤n):GasOk (dv n):=by
 intro r hr;by_cases c:n≤r.lim-r.used
 ·have e:dv n r=.ok () { r with used:=r.used+n }:=by unfold dv;rw [if_pos c]
  rw [e];refine ⟨rfl,by simp;omega,by simp;omega,fun L hl=>⟨fun h=>?_,fun h=>?_⟩⟩
  ·have h':r.used+n≤L:=h
   exact if_pos (show n≤L-r.used by omega)
  ·have h':L<r.used+n:=h
   exact ⟨_,if_neg (show ¬n≤L-r.used by omega),rfl⟩
 ·have e:dv n r=.trap 1 { r with used:=r.lim }:=by unfold dv;rw [if_neg c]
  rw [e];exact ⟨rfl,hr,by simp,fun _=>rfl,fun h=>absurd rfl h⟩
theorem GasOk.same {α:Type} {m:RM α} (h:∀r,(∃a q,m r=.ok a q∧q.lim=r.lim∧q.used=r.used∧∀L,m (atL r L)=.ok a (atL q L))∨∃t q,t≠1∧m r=.trap t q∧q.lim=r.lim∧q.used=r.used∧∀L,m (atL r L)=.trap t (atL q L)):GasOk m:=by
 intro r hr;rcases h r with ⟨a,q,e,h1,h2,h3⟩ | ⟨t,q,ht,e,h1,h2,h3⟩
 ·rw [e]
  exact ⟨h1,by omega,by omega,fun L hl=>⟨fun _=>h3 L,fun h=>absurd hl (by omega)⟩⟩
 ·rw [e]
  exact ⟨h1,by omega,by omega,fun h=>absurd h ht,fun _ L hl=>⟨fun _=>h3 L,fun h=>absurd hl (by omega)⟩⟩
theorem GasOk.right {p:Vv×Int} (h:p.2≠1):GasOk (bX p):=GasOk.same fun _=>by
 unfold bX;by_cases c:p.2=0
 ·simp only [if_pos c]
  exact .inl ⟨_,_,rfl,rfl,rfl,fun _=>rfl⟩
 ·simp only [if_neg c]
  exact .inr ⟨_,_,h,rfl,rfl,rfl,fun _=>rfl⟩
theorem GasOk.get (k:List UInt8):GasOk (Bi k):=GasOk.same fun _=>.inl ⟨_,_,rfl,rfl,rfl,fun _=>rfl⟩
theorem GasOk.put (k v:List UInt8):GasOk (iO k v):=GasOk.same fun r=>by
 unfold iO zP
 cases h:fE r.pairs k v with
 | ok l =>
  refine .inl ⟨_,_,rfl,rfl,rfl,fun L=>?_⟩;rw [oA,h];rfl
 | error e =>
  refine .inr ⟨_,_,?_,rfl,rfl,rfl,fun L=>?_⟩
  ·split<;>decide
  ·rw [oA,h]
theorem GasOk.del (k:List UInt8):GasOk (wv k):=GasOk.same fun _=>.inl ⟨_,_,rfl,rfl,rfl,fun _=>rfl⟩
theorem GasOk.ite {α:Type} {c:Prop} [Decidable c] {a b:RM α} (ha:GasOk a) (hb:GasOk b):GasOk (if c then a else b):=by split<;>assumption
theorem iE {a:Vv} {n:Int} (h:n≠1):(a,n).2≠1:=h
theorem CE (n:Int):(inV n).2≠1:=by unfold inV;split<;>exact iE (by decide)
theorem Aw (f:Int→Int→Int) (a b:Int):(ju f a b).2≠1:=by
 unfold ju;split
 ·exact iE (by decide)
 split<;>exact iE (by decide)
theorem wX (s:List UInt8) (a b:Int):(eH s a b).2≠1:=by
 unfold eH;repeat' split
 all_goals first | exact CE _ | exact Aw _ _ _ | exact iE (by decide)
theorem Aq (s:List UInt8) (a b:Vv):(cQ s a b).2≠1:=by
 unfold cQ;split
 ·exact iE (by decide)
 split
 ·exact wX _ _ _
 split
 ·unfold dT;repeat' split
  all_goals exact iE (by decide)
 split
 ·unfold dV;repeat' split
  all_goals exact iE (by decide)
 ·exact iE (by decide)
theorem Ac (s:List UInt8) (a:Vv):(eF s a).2≠1:=by
 unfold eF;repeat' split
 all_goals exact iE (by decide)
theorem oS (n:Int):0≤fO n:=by unfold fO;omega
theorem pq (a b:Int):0≤eE a b:=by have:=oS (max 0 (min a 2147483648)+max 0 (min b 2147483648));unfold eE;omega
theorem yK (s:List UInt8) (a b:Vv):GasOk (gN s a b):=by
 unfold gN;refine GasOk.ite (GasOk.ok _) (GasOk.bind (GasOk.ite (GasOk.use (oS _)) (GasOk.ok _)) fun _=>GasOk.right (Aq _ _ _))
theorem yl {call:bU} (h:∀x vs,GasOk (call x vs)) (op:Int) (text:ByteArray) (vs:List Vv):GasOk (jx call op text vs):=by
 unfold jx;exact GasOk.ite (h _ _) (GasOk.ite (GasOk.right (Ac _ _)) (GasOk.ite (GasOk.ok _) (GasOk.bind (GasOk.use (by decide)) fun _=>GasOk.bind (GasOk.get _) fun _=>GasOk.ok _)))
mutual
theorem ms {call:bU} (h:∀x vs,GasOk (call x vs)) (σ:List Sc):∀x:Ex,GasOk (bS call σ x)
 | .mk op num text ks _=>by
  rw [bS];exact GasOk.bind (GasOk.use (by decide)) fun _=>GasOk.ite (GasOk.ok _) (GasOk.ite (GasOk.ok _) (GasOk.ite (GasOk.ok _) (GasOk.ite (GasOk.ok _) (GasOk.ite (Be h σ text ks) (GasOk.bind (lf h σ ks) fun _=>yl h _ _ _)))))
theorem Be {call:bU} (h:∀x vs,GasOk (call x vs)) (σ:List Sc) (text:ByteArray):∀l:List Ex,GasOk (iA call σ text l)
 | []=>by rw [iA];exact GasOk.ok _
 | [_]=>by rw [iA];exact GasOk.ok _
 | x :: y :: _=>by
  rw [iA];exact GasOk.bind (ms h σ x) fun _=>GasOk.ite (GasOk.ok _) (GasOk.bind (ms h σ y) fun _=>yK _ _ _)
theorem lf {call:bU} (h:∀x vs,GasOk (call x vs)) (σ:List Sc):∀l:List Ex,GasOk (bw call σ l)
 | []=>by rw [bw];exact GasOk.ok _
 | x :: l=>by
  rw [bw];exact GasOk.bind (ms h σ x) fun _=>GasOk.bind (lf h σ l) fun _=>GasOk.ok _
end
theorem tN (m:Sc) {b:StM} (h:∀σ,GasOk (b σ)) (σ:List Sc):GasOk (inM m b σ):=GasOk.bind (h _) fun _=>GasOk.ok _
theorem rD {round:Int→StM} (h:∀i σ,GasOk (round i σ)):∀n i σ,GasOk (fF round n i σ)
 | 0,_,_=>GasOk.ok _
 | n+1,i,σ=>GasOk.bind (GasOk.use (by decide)) fun _=>GasOk.bind (h i σ) fun _=>GasOk.ite (GasOk.ok _) (rD h n _ _)
theorem wM (op:Int) (text:ByteArray) (vs:List Vv) (σ:List Sc):GasOk (fy op text vs σ):=by
 unfold fy;exact GasOk.ite (GasOk.ok _) (GasOk.ite (GasOk.ok _) (GasOk.ite (GasOk.ok _) (GasOk.ite (GasOk.bind (GasOk.use (pq _ _)) fun _=>GasOk.bind (GasOk.put _ _) fun _=>GasOk.ok _) (GasOk.ite (GasOk.bind (GasOk.use (by decide)) fun _=>GasOk.bind (GasOk.del _) fun _=>GasOk.ok _) (GasOk.ok _)))))
mutual
theorem zo {call:bU} (h:∀x vs,GasOk (call x vs)):∀(s:St) (σ:List Sc),GasOk (bV call s σ)
 | .mk op text es body els _,σ=>by
  rw [bV];exact GasOk.bind (GasOk.use (by decide)) fun _=>GasOk.bind (lf h σ es) fun vs=>GasOk.ite (GasOk.ite (tN _ (gV h body) σ) (tN _ (gV h els) σ)) (GasOk.ite (rD (fun i=>tN _ (gV h body)) _ _ _) (wM _ _ _ _))
theorem gV {call:bU} (h:∀x vs,GasOk (call x vs)):∀(l:List St) (σ:List Sc),GasOk (aF call l σ)
 | [],σ=>by rw [aF];exact GasOk.ok _
 | s :: l,σ=>by
  rw [aF];exact GasOk.bind (zo h s σ) fun p=>GasOk.ite (GasOk.ok _) (gV h l p.2)
end
theorem mA (F:List Fn):∀k x vs,GasOk (aE F k x vs)
 | 0,_,_=>fun r hr=>⟨rfl,Int.le_refl _,hr,fun h=>absurd h (by decide),fun _ L hl=>⟨fun _=>rfl,fun h=>absurd hl (by omega)⟩⟩
 | k+1,x,vs=>by
  rw [aE];unfold tO;split
  ·exact GasOk.ok _
  ·exact GasOk.bind (gV (mA F k) _ _) fun _=>GasOk.ok _
end
section
open Go.RowKit
theorem kg:∀{a b c:List UInt8},bM a b=true→bM b c=true→bM a c=true
 | [],[],_,h,_=>by simp [bM] at h
 | [],_ :: _,[],_,h=>by simp [bM] at h
 | [],_ :: _,_ :: _,_,_=>by simp [bM]
 | _ :: _,[],_,h,_=>by simp [bM] at h
 | _ :: _,_ :: _,[],_,h=>by simp [bM] at h
 | x :: l,y :: r,z :: s,h,g=>by
  unfold bM at h g ⊢;by_cases c1:x<y
  ·by_cases c2:y<z
   ·rw [if_pos (UInt8.lt_trans c1 c2)]
   ·rw [if_neg c2] at g
    by_cases c3:z<y
    ·rw [if_pos c3] at g;cases g
    ·have:y=z:=UInt8.le_antisymm (UInt8.not_lt.1 c3) (UInt8.not_lt.1 c2)
     subst this;rw [if_pos c1]
  ·rw [if_neg c1] at h
   by_cases c2:y<x
   ·rw [if_pos c2] at h;cases h
   ·rw [if_neg c2] at h
    have:x=y:=UInt8.le_antisymm (UInt8.not_lt.1 c2) (UInt8.not_lt.1 c1);subst this;by_cases c3:x<z
    ·rw [if_pos c3]
    ·rw [if_neg c3] at g ⊢
     by_cases c4:z<x
     ·rw [if_pos c4] at g;cases g
     ·rw [if_neg c4] at g ⊢
      exact kg h g
theorem qW:∀(a b:List UInt8),bM a b=true∨a=b∨bM b a=true
 | [],[]=>.inr (.inl rfl)
 | [],_ :: _=>.inl rfl
 | _ :: _,[]=>.inr (.inr rfl)
 | x :: l,y :: r=>by
  unfold bM;by_cases c1:x<y
  ·rw [if_pos c1];exact .inl rfl
  ·by_cases c2:y<x
   ·refine .inr (.inr ?_);rw [if_pos c2]
   ·rw [if_neg c1,if_neg c2,if_neg c2,if_neg c1]
    have:x=y:=UInt8.le_antisymm (UInt8.not_lt.1 c2) (UInt8.not_lt.1 c1);subst this;rcases qW l r with h | h | h
    ·exact .inl h
    ·exact .inr (.inl (by rw [h]))
    ·exact .inr (.inr h)
def mZ (k:List UInt8) (l:List Pr):Prop:=∀p,p∈l→bM k p.1=true
theorem gP (p:Pr) (l:List Pr):dr (p :: l)=true ↔ mZ p.1 l∧dr l=true:=by
 induction l generalizing p with
 | nil=>exact ⟨fun _=>⟨fun q h=>(by cases h),rfl⟩,fun _=>rfl⟩
 | cons q l ih =>
  rw [dr];refine ⟨fun h=>?_,fun h=>?_⟩
  ·obtain ⟨h1,h2⟩:=Bool.and_eq_true_iff.1 h
   refine ⟨fun r hr=>?_,h2⟩;rcases List.mem_cons.1 hr with rfl | hr
   ·exact h1
   ·exact kg h1 (((ih q).1 h2).1 r hr)
  ·exact Bool.and_eq_true_iff.2 ⟨h.1 q (List.mem_cons_self ..),h.2⟩
theorem qY {k j v:List UInt8}:∀{l:List Pr},mZ j l→bM j k=true→mZ j (eY l k v)
 | [],_,hj=>fun p hp=>by rw [eY] at hp;obtain rfl:=List.mem_singleton.1 hp;exact hj
 | q :: l,h,hj=>fun p hp=>by
  rw [eY] at hp;have hq:=h q (List.mem_cons_self ..);have hl:mZ j l:=fun r hr=>h r (List.mem_cons_of_mem _ hr);split at hp
  ·rcases List.mem_cons.1 hp with rfl | hp
   ·exact hj
   ·exact hl p hp
  split at hp
  ·rcases List.mem_cons.1 hp with rfl | hp
   ·exact hj
   ·exact h p hp
  ·rcases List.mem_cons.1 hp with rfl | hp
   ·exact hq
   ·exact qY hl hj p hp
theorem sd (k v:List UInt8):∀{l:List Pr},dr l=true→dr (eY l k v)=true
 | [],_=>rfl
 | p :: l,h=>by
  obtain ⟨h1,h2⟩:=(gP p l).1 h;rw [eY];split
  ·rename_i e
   exact (gP _ _).2 ⟨fun q hq=>by rw [←e];exact h1 q hq,h2⟩
  split
  ·rename_i e1 e2
   refine (gP _ _).2 ⟨fun q hq=>?_,h⟩;rcases List.mem_cons.1 hq with rfl | hq
   ·exact e2
   ·exact kg e2 (h1 q hq)
  ·rename_i e1 e2
   refine (gP _ _).2 ⟨qY h1 ?_,sd k v h2⟩;rcases qW p.1 k with q | q | q
   ·exact q
   ·exact absurd q e1
   ·exact absurd q e2
theorem rA {k j:List UInt8}:∀{l:List Pr},mZ j l→mZ j (eu l k)
 | [],_=>fun p hp=>by rw [eu] at hp;cases hp
 | q :: l,h=>fun p hp=>by
  rw [eu] at hp;have hl:mZ j l:=fun r hr=>h r (List.mem_cons_of_mem _ hr);split at hp
  ·exact hl p hp
  ·rcases List.mem_cons.1 hp with rfl | hp
   ·exact h _ (List.mem_cons_self ..)
   ·exact rA hl p hp
theorem qI (k:List UInt8):∀{l:List Pr},dr l=true→dr (eu l k)=true
 | [],_=>rfl
 | p :: l,h=>by
  obtain ⟨h1,h2⟩:=(gP p l).1 h;rw [eu];split
  ·exact h2
  ·exact (gP _ _).2 ⟨rA h1,qI k h2⟩
theorem rF (k:List UInt8):∀l:List Pr,bT (eu l k)≤bT l
 | []=>Nat.le_refl _
 | p :: l=>by
  rw [eu];have h:=rF k l;unfold bT at h ⊢;split
  ·simp only [List.map_cons,List.sum_cons];omega
  ·simp only [List.map_cons,List.sum_cons];omega
def jl (p:Pr):Bool:=decide (p.1.length≤64)&&decide (p.2.length≤256)
theorem ph {k v:List UInt8} (hk:k.length≤64) (hv:v.length≤256):∀{l:List Pr},(l.all jl)=true→((eY l k v).all jl)=true
 | [],_=>by simp [eY,jl,hk,hv]
 | p :: l,h=>by
  have A:jl (k,v)=true:=by simp [jl,hk,hv]
  have h':=h;rw [List.all_cons] at h;obtain ⟨h1,h2⟩:=Bool.and_eq_true_iff.1 h;rw [eY];split
  ·rw [List.all_cons,A,h2];rfl
  split
  ·rw [List.all_cons,A,h'];rfl
  ·rw [List.all_cons,h1,ph hk hv h2];rfl
theorem oK (k:List UInt8):∀{l:List Pr},(l.all jl)=true→((eu l k).all jl)=true
 | [],_=>rfl
 | p :: l,h=>by
  rw [List.all_cons] at h;obtain ⟨h1,h2⟩:=Bool.and_eq_true_iff.1 h;rw [eu];split
  ·exact h2
  ·rw [List.all_cons,h1,oK k h2];rfl
theorem jL (l:List Pr):aV l=true ↔ (l.all jl)=true∧dr l=true∧bT l≤2048:=by
 unfold aV;rw [Bool.and_eq_true,Bool.and_eq_true,decide_eq_true_eq,and_assoc];rfl
theorem uI {l l':List Pr} {k v:List UInt8} (h:aV l=true) (e:fE l k v=.ok l'):aV l'=true:=by
 obtain ⟨h1,h2,_⟩:=(jL l).1 h;unfold fE at e;split at e
 ·cases e
 split at e
 ·cases e
 ·rename_i c1 c2
  injection e with e
  subst e;exact (jL _).2 ⟨ph (by omega) (by omega) h1,sd k v h2,by omega⟩
theorem wl {l:List Pr} (k:List UInt8) (h:aV l=true):aV (eu l k)=true:=by
 obtain ⟨h1,h2,h3⟩:=(jL l).1 h;exact (jL _).2 ⟨oK k h1,qI k h2,Nat.le_trans (rF k l) h3⟩
structure Inv (I:Rst→Prop):Prop where
 use:∀r n,I r→I { r with used:=n }
 put:∀r k v l,I r→fE r.pairs k v=.ok l→I { r with pairs:=l,undo:=r.undo++[r.pairs] }
 del:∀r k,I r→I { r with pairs:=eu r.pairs k,undo:=r.undo++[r.pairs] }
section
variable {I:Rst→Prop}
def KeepR (I:Rst→Prop) {α:Type} (m:RM α):Prop:=∀r,I r→match m r with
 | .ok _ q=>I q
 | .trap _ q=>I q
theorem KeepR.ok {α:Type} (a:α):KeepR I (okM a):=fun _ h=>h
theorem KeepR.bind {α β:Type} {m:RM α} {f:α→RM β} (hm:KeepR I m) (hf:∀a,KeepR I (f a)):KeepR I (m.then f):=by
 intro r hr;have h1:=hm r hr;unfold RM.then
 cases hq:m r with
 | trap t q=>rw [hq] at h1;exact h1
 | ok a q =>
  rw [hq] at h1;exact hf a q h1
theorem KeepR.use (hI:Inv I) (n:Int):KeepR I (dv n):=by
 intro r hr;unfold dv;by_cases h:n≤r.lim-r.used
 ·rw [if_pos h];exact hI.use r _ hr
 ·rw [if_neg h];exact hI.use r _ hr
theorem KeepR.right (p:Vv×Int):KeepR I (bX p):=by
 intro r hr;unfold bX;by_cases h:p.2=0
 ·rw [if_pos h];exact hr
 ·rw [if_neg h];exact hr
theorem KeepR.get (k:List UInt8):KeepR I (Bi k):=fun _ h=>h
theorem KeepR.put (hI:Inv I) (k v:List UInt8):KeepR I (iO k v):=by
 intro r hr;unfold iO zP
 cases h:fE r.pairs k v with
 | ok l=>exact hI.put r k v l hr h
 | error e=>exact hr
theorem KeepR.del (hI:Inv I) (k:List UInt8):KeepR I (wv k):=fun r h=>hI.del r k h
theorem KeepR.ite {α:Type} {c:Prop} [Decidable c] {a b:RM α} (ha:KeepR I a) (hb:KeepR I b):KeepR I (if c then a else b):=by split<;>assumption
theorem As (hI:Inv I) (s:List UInt8) (a b:Vv):KeepR I (gN s a b):=by
 unfold gN;exact KeepR.ite (KeepR.ok _) (KeepR.bind (KeepR.ite (KeepR.use hI _) (KeepR.ok _)) fun _=>KeepR.right _)
theorem zA (hI:Inv I) {call:bU} (h:∀x vs,KeepR I (call x vs)) (op:Int) (text:ByteArray) (vs:List Vv):KeepR I (jx call op text vs):=by
 unfold jx;exact KeepR.ite (h _ _) (KeepR.ite (KeepR.right _) (KeepR.ite (KeepR.ok _) (KeepR.bind (KeepR.use hI _) fun _=>KeepR.bind (KeepR.get _) fun _=>KeepR.ok _)))
mutual
theorem pQ (hI:Inv I) {call:bU} (h:∀x vs,KeepR I (call x vs)) (σ:List Sc):∀x:Ex,KeepR I (bS call σ x)
 | .mk op num text ks _=>by
  rw [bS];exact KeepR.bind (KeepR.use hI _) fun _=>KeepR.ite (KeepR.ok _) (KeepR.ite (KeepR.ok _) (KeepR.ite (KeepR.ok _) (KeepR.ite (KeepR.ok _) (KeepR.ite (CO hI h σ text ks) (KeepR.bind (mT hI h σ ks) fun _=>zA hI h _ _ _)))))
theorem CO (hI:Inv I) {call:bU} (h:∀x vs,KeepR I (call x vs)) (σ:List Sc) (text:ByteArray):∀l:List Ex,KeepR I (iA call σ text l)
 | []=>by rw [iA];exact KeepR.ok _
 | [_]=>by rw [iA];exact KeepR.ok _
 | x :: y :: _=>by
  rw [iA];exact KeepR.bind (pQ hI h σ x) fun _=>KeepR.ite (KeepR.ok _) (KeepR.bind (pQ hI h σ y) fun _=>As hI _ _ _)
theorem mT (hI:Inv I) {call:bU} (h:∀x vs,KeepR I (call x vs)) (σ:List Sc):∀l:List Ex,KeepR I (bw call σ l)
 | []=>by rw [bw];exact KeepR.ok _
 | x :: l=>by
  rw [bw];exact KeepR.bind (pQ hI h σ x) fun _=>KeepR.bind (mT hI h σ l) fun _=>KeepR.ok _
end
theorem yT (m:Sc) {b:StM} (h:∀σ,KeepR I (b σ)) (σ:List Sc):KeepR I (inM m b σ):=KeepR.bind (h _) fun _=>KeepR.ok _
theorem ut (hI:Inv I) {round:Int→StM} (h:∀i σ,KeepR I (round i σ)):∀n i σ,KeepR I (fF round n i σ)
 | 0,_,_=>KeepR.ok _
 | n+1,i,σ=>KeepR.bind (KeepR.use hI _) fun _=>KeepR.bind (h i σ) fun _=>KeepR.ite (KeepR.ok _) (ut hI h n _ _)
theorem zr (hI:Inv I) (op:Int) (text:ByteArray) (vs:List Vv) (σ:List Sc):KeepR I (fy op text vs σ):=by
 unfold fy;exact KeepR.ite (KeepR.ok _) (KeepR.ite (KeepR.ok _) (KeepR.ite (KeepR.ok _) (KeepR.ite (KeepR.bind (KeepR.use hI _) fun _=>KeepR.bind (KeepR.put hI _ _) fun _=>KeepR.ok _) (KeepR.ite (KeepR.bind (KeepR.use hI _) fun _=>KeepR.bind (KeepR.del hI _) fun _=>KeepR.ok _) (KeepR.ok _)))))
mutual
theorem AV (hI:Inv I) {call:bU} (h:∀x vs,KeepR I (call x vs)):∀(s:St) (σ:List Sc),KeepR I (bV call s σ)
 | .mk op text es body els _,σ=>by
  rw [bV];exact KeepR.bind (KeepR.use hI _) fun _=>KeepR.bind (mT hI h σ es) fun vs=>KeepR.ite (KeepR.ite (yT _ (jd hI h body) σ) (yT _ (jd hI h els) σ)) (KeepR.ite (ut hI (fun i=>yT _ (jd hI h body)) _ _ _) (zr hI _ _ _ _))
theorem jd (hI:Inv I) {call:bU} (h:∀x vs,KeepR I (call x vs)):∀(l:List St) (σ:List Sc),KeepR I (aF call l σ)
 | [],σ=>by rw [aF];exact KeepR.ok _
 | s :: l,σ=>by
  rw [aF];exact KeepR.bind (AV hI h s σ) fun p=>KeepR.ite (KeepR.ok _) (jd hI h l p.2)
end
theorem pL (hI:Inv I) (F:List Fn):∀k x vs,KeepR I (aE F k x vs)
 | 0,_,_=>fun _ h=>h
 | k+1,x,vs=>by
  rw [aE];unfold tO;split
  ·exact KeepR.ok _
  ·exact KeepR.bind (jd hI (pL hI F k) _ _) fun _=>KeepR.ok _
end
theorem Inv.right:Inv fun r=>aV r.pairs=true:=⟨fun _ _ h=>h,fun _ _ _ _ h e=>uI h e,fun _ _ h=>wl _ h⟩
theorem oB {F:List Fn} {x:ByteArray} {vs:List Vv} {limit:Int} {j:Jn} (h:aV j.pairs=true) :
    let e:=bA F x vs limit j
    0≤e.1.used∧e.1.used≤max limit 0∧aV e.2.pairs=true∧(e.1.trap=0∨(e.2=j∧e.1.val=noV)):=by
 dsimp only;unfold bA;split
 ·exact ⟨Int.le_refl _,by simp;omega,h,.inr ⟨rfl,rfl⟩⟩
 split
 ·exact ⟨Int.le_refl _,by simp;omega,h,.inr ⟨rfl,rfl⟩⟩
 split
 ·have h1:=mA F 16 x vs ⟨max 0 (min limit 100000),0,j.pairs,j.undo⟩ (by simp;omega)
  have h2:=pL Inv.right F 16 x vs ⟨max 0 (min limit 100000),0,j.pairs,j.undo⟩ h
  cases hq:aE F 16 x vs ⟨max 0 (min limit 100000),0,j.pairs,j.undo⟩ with
  | ok v r =>
   rw [hq] at h1 h2;dsimp only at h1 h2 ⊢;exact ⟨by omega,by omega,h2,.inl rfl⟩
  | trap t r =>
   rw [hq] at h1;dsimp only at h1 ⊢;exact ⟨by omega,by omega,h,.inr ⟨rfl,rfl⟩⟩
 ·exact ⟨Int.le_refl _,by simp;omega,h,.inr ⟨rfl,rfl⟩⟩
theorem xI {F:List Fn} {x:ByteArray} {vs:List Vv} {limit more:Int} {j:Jn} (h0:0≤limit) (h1:limit+more≤100000) (h2:0≤more) :
    ((bA F x vs limit j).1.trap=1∧(bA F x vs limit j).1.used=limit) ∨
    ((bA F x vs limit j).1.trap≠1∧bA F x vs (limit+more) j=bA F x vs limit j∧((bA F x vs limit j).1.used=0 ∨
      ((bA F x vs ((bA F x vs limit j).1.used-1) j).1.trap=1∧(bA F x vs ((bA F x vs limit j).1.used-1) j).1.used=(bA F x vs limit j).1.used-1))):=by
 by_cases c1:(bL F).1≠0
 ·have e:∀n,bA F x vs n j=(⟨noV,7,0⟩,j):=fun n=>by unfold bA;rw [if_pos c1]
  rw [e,e];exact .inr ⟨(by decide:(7:Int)≠1),rfl,.inl rfl⟩
 cases c2:cE F x with
 | none =>
  have e:∀n,bA F x vs n j=(⟨noV,7,0⟩,j):=fun n=>by unfold bA;rw [if_neg c1,c2]
  rw [e,e];exact .inr ⟨(by decide:(7:Int)≠1),rfl,.inl rfl⟩
 | some f =>
  unfold bA;rw [c2];simp only [if_neg c1]
  by_cases c3:eO vs f.params=true
  ·simp only [if_pos c3]
   have e1:∀{n:Int},0≤n→n≤100000→max 0 (min n 100000)=n:=fun a b=>by omega
   rw [e1 h0 (by omega),e1 (n:=limit+more) (by omega) h1];have g:=mA F 16 x vs ⟨limit,0,j.pairs,j.undo⟩ h0
   cases hq:aE F 16 x vs ⟨limit,0,j.pairs,j.undo⟩ with
   | ok v r =>
    rw [hq] at g;obtain ⟨g1,g2,g3,g4⟩:=g;dsimp only at g1 g2 g3 ⊢;right
    refine ⟨(by decide),?_,?_⟩
    ·have:=(g4 (limit+more) (by simp;omega)).1 (by omega)
     simp only [atL] at this
     rw [this]
    ·by_cases c4:r.used=0
     ·exact .inl c4
     ·right
      obtain ⟨p,p1,p2⟩:=(g4 (r.used-1) (by simp;omega)).2 (by omega);simp only [atL] at p1
      rw [e1 (by omega) (by omega),p1];exact ⟨rfl,p2⟩
   | trap t r =>
    rw [hq] at g;obtain ⟨g1,g2,g3,g4,g5⟩:=g;dsimp only at g1 g2 g3 g4 ⊢;by_cases ct:t=1
    ·exact .inl ⟨ct,g4 ct⟩
    right
    refine ⟨ct,?_,?_⟩
    ·have:=(g5 ct (limit+more) (by simp;omega)).1 (by omega)
     simp only [atL] at this
     rw [this]
    ·by_cases c4:r.used=0
     ·exact .inl c4
     ·right
      obtain ⟨p,p1,p2⟩:=(g5 ct (r.used-1) (by simp;omega)).2 (by omega);simp only [atL] at p1
      rw [e1 (by omega) (by omega),p1];exact ⟨rfl,p2⟩
  ·simp only [if_neg c3]
   exact .inr ⟨(by decide:(7:Int)≠1),by trivial,.inl (by trivial)⟩
end
end Go.Proofs.YthgcpfkochikfaaGreat
