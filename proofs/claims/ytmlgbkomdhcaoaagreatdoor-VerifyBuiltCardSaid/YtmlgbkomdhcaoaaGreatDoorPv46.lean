/-
  VerifyBuilt: part 46 of its proof: see the last text.
-/
import Derived.Test.YtmlgbkomdhcaoaaGreatDoorPv18
set_option maxRecDepth 100000
set_option maxHeartbeats 16000000
namespace Go.Proofs.YtmlgbkomdhcaoaaGreatDoor
section
open Go.RowKit
def Bd (s:CS):Prop:=s.ins.length≤1000000∧s.texts.length≤1000000∧s.slots≤1000000
def GdS (s:CS):Prop:=0≤s.slots∧(∀t,t∈s.texts→t.size≤64)∧(Bd s→∀x,x∈s.ins→i64 x.op∧i64 x.a)
def VB (v:bf) (n:Int):Prop:=∀k,0≤(aI v k).getD 0∧(aI v k).getD 0≤n
theorem VB.mono {v:bf} {n m:Int} (h:VB v n) (hm:n≤m):VB v m:=fun k=>⟨(h k).1,by have:=(h k).2;omega⟩
theorem VB.put {v:bf} {n m:Int} (h:VB v n) (k:ByteArray) (h0:0≤m) (h1:m≤n):VB (bQ v k m) n:=fun j=>by
 rw [fQ];split
 ·exact ⟨h0,h1⟩
 ·exact h j
theorem cE {n:Int} (h0:0≤n) (h1:n≤1000000):i64 n:=by unfold i64;omega
section
variable {s:CS} {F:List Fn}
theorem fy {o n:Int} (h:GdS s) (ho:i64 o) (hn:Bd s→i64 n):GdS (au o n s):=⟨h.1,h.2.1,fun hb x hx=>by
  have A:Bd s:=⟨by have:=hb.1;simp only [au,List.length_append,List.length_cons,List.length_nil] at this;omega,hb.2⟩
  simp only [au,List.mem_append,List.mem_singleton] at hx
  rcases hx with hx | rfl
  · exact h.2.2 A x hx
  · exact ⟨ho,hn A⟩⟩
theorem cO {o n:Int} (h:GdS s) (ho:i64 o) (hn:i64 n):GdS (au o n s):=fy h ho (fun _=>hn)
theorem iS (k:Nat) (h:GdS s):GdS (bW k s):=⟨h.1,h.2.1,fun hb x hx=>by
  have A:Bd s:=⟨by have:=hb.1;simpa [bW] using this,hb.2⟩
  rcases List.mem_or_eq_of_mem_set (show x∈s.ins.set k ⟨(s.ins.getD k default).op,s.ins.length⟩ from hx) with q | rfl
  · exact h.2.2 A x q
  · refine ⟨?_,cE (by show (0:Int)≤(s.ins.length:Int);omega) (by show (s.ins.length:Int)≤1000000;have:=A.1;omega)⟩
    by_cases hk:k<s.ins.length
    · exact (h.2.2 A (s.ins.getD k default) (by rw [List.getD_eq_getElem?_getD,List.getElem?_eq_getElem hk];exact List.getElem_mem hk)).1
    · show i64 (s.ins.getD k default).op
      rw [List.getD_eq_getElem?_getD,List.getElem?_eq_none (by omega)];constructor<;>decide⟩
theorem pG (h:GdS s):GdS (bw s):=⟨by have:=h.1;show 0≤s.slots+1;omega,h.2.1,fun hb x hx=>h.2.2 ⟨hb.1,hb.2.1,by have:=hb.2.2;simp only [bw] at this;omega⟩ x hx⟩
theorem zx {t:ByteArray} (ht:t.size≤64) (h:GdS s):GdS (cR t s):=by
 unfold cR;split
 ·exact h
 ·refine ⟨h.1,fun x hx=>?_,fun hb x hx=>h.2.2 ⟨hb.1,by have:=hb.2.1;simp only [List.length_append] at this;omega,hb.2.2⟩ x hx⟩
  rcases List.mem_append.1 hx with hx | hx
  ·exact h.2.1 x hx
  ·rw [List.mem_singleton] at hx;rw [hx];exact ht
theorem pQ:∀(l:List ByteArray) (t:ByteArray),dR l t≤l.length
 | [],_=>Nat.le_refl _
 | x :: l,t=>by
  rw [dR];split
  ·exact Nat.zero_le _
  ·have:=pQ l t;rw [List.length_cons];omega
theorem mj:∀(l:List Fn) (nm:ByteArray),ba l nm≤l.length
 | [],_=>Nat.le_refl _
 | f :: l,nm=>by
  rw [ba];split
  ·exact Nat.zero_le _
  ·have:=mj l nm;rw [List.length_cons];omega
theorem lr (t:List UInt8):i64 (cP t):=by
 unfold cP;refine cE (by omega) ?_
 cases h:signNames.findIdx? (·==t) with
 | none=>simp
 | some i =>
  have:=(List.findIdx?_eq_some_iff_getElem.1 h).choose;have e:signNames.length=13:=by decide
  simp
  omega
theorem um (n:Int):i64 (lZ n):=by unfold lZ;split<;>(constructor<;>decide)
end
theorem cf {n:Int} (h:i64 n:=by constructor<;>decide):i64 n:=h
mutual
theorem lO {F:List Fn} (hF:F.length≤1000):∀(x:Ex) (v:bf) (s:CS),okE x→VB v s.slots→GdS s→GdS (bB F v x s)
 | .mk op num text ks pos,v,s=>by
  intro ho hv h;rw [okE] at ho;obtain ⟨⟨D,h3⟩,hk⟩:=ho;rw [bB];dsimp only;have h1:GdS (au 1 1 s):=cO h cf cf;split
  ·exact ur hF (ms text.toList) ks v _ hk hv h1
  ·have h2:=lV hF ks v (au 1 1 s) hk hv h1
   have C:=(cL F v ks (au 1 1 s)).2.2.2.2;have A:VB v (aA F v ks (au 1 1 s)).slots:=by rw [C];exact hv
   generalize aA F v ks (au 1 1 s)=t at *;by_cases c1:op=1
   ·rw [if_pos c1];exact cO h2 cf D
   rw [if_neg c1];by_cases c2:op=2
   ·rw [if_pos c2];exact cO h2 cf (um _)
   rw [if_neg c2];by_cases c3:op=3
   ·rw [if_pos c3]
    exact fy (zx (h3 (.inl c3)) h2) cf (fun hb=>cE (by omega) (by have:=pQ (cR text t).texts text;have:=hb.2.1;omega))
   rw [if_neg c3];by_cases c4:op=4
   ·rw [if_pos c4];exact fy h2 cf (fun hb=>cE (A text).1 (by have:=(A text).2;have:=hb.2.2;omega))
   rw [if_neg c4];by_cases c5:op=5
   ·rw [if_pos c5];exact cO h2 cf (cE (by omega) (by have:=mj F text;omega))
   rw [if_neg c5];by_cases c6:op=6
   ·rw [if_pos c6];exact cO h2 cf (lr _)
   rw [if_neg c6];by_cases c7:op=7
   ·rw [if_pos c7];exact cO h2 cf (lr _)
   rw [if_neg c7];by_cases c8:op=8
   ·rw [if_pos c8];exact cO h2 cf cf
   rw [if_neg c8];by_cases c9:op=9
   ·rw [if_pos c9];exact cO h2 cf cf
   rw [if_neg c9];by_cases c10:op=10
   ·rw [if_pos c10];exact cO h2 cf cf
   rw [if_neg c10];exact h2
theorem lV {F:List Fn} (hF:F.length≤1000):∀(l:List Ex) (v:bf) (s:CS),dU l→VB v s.slots→GdS s→GdS (aA F v l s)
 | [],v,s=>by intro _ _ h;rw [aA];exact h
 | x :: l,v,s=>by
  intro ho hv h;rw [dU] at ho;rw [aA];refine lV hF l v _ ho.2 ?_ (lO hF x v s ho.1 hv h);rw [(dO F v x s).2.2.2.2];exact hv
theorem ur {F:List Fn} (hF:F.length≤1000) (isAnd:Bool):∀(l:List Ex) (v:bf) (s:CS),dU l→VB v s.slots→GdS s→GdS (cq F v isAnd l s)
 | [],v,s=>by intro _ _ h;rw [cq];exact h
 | [_],v,s=>by intro _ _ h;rw [cq];exact h
 | x :: y :: l,v,s=>by
  intro ho hv h;rw [dU,dU] at ho;rw [cq];have h1:=cO (n:=0) (o:=16) (lO hF x v s ho.1 hv h) cf cf;have B:VB v (au 16 0 (bB F v x s)).slots:=by show VB v (bB F v x s).slots;rw [(dO F v x s).2.2.2.2];exact hv
  generalize au 16 0 (bB F v x s)=s1 at *;generalize (bB F v x s).ins.length=n1
  cases isAnd
  ·rw [if_neg (by decide),if_neg (by decide)]
   exact iS _ (lO hF y v _ ho.2.1 B (iS _ (cO (cO h1 cf cf) cf cf)))
  ·rw [if_pos rfl,if_pos rfl]
   exact iS _ (cO (iS _ (cO (lO hF y v _ ho.2.1 B h1) cf cf)) cf cf)
end
mutual
theorem yx {F:List Fn} (hF:F.length≤1000):∀(x:St) (v:bf) (s:CS),okS x→VB v s.slots→GdS s→GdS (bL F x (v,s)).2∧VB (bL F x (v,s)).1 (bL F x (v,s)).2.slots
 | .mk op text es body els pos,v,s=>by
  intro ho hv h;rw [okS] at ho;obtain ⟨_,he,hb,hl⟩:=ho;rw [bL];dsimp only;have h1:GdS (au 1 1 s):=cO h cf cf;have h2:=lV hF es v (au 1 1 s) he hv h1;have H:=(cL F v es (au 1 1 s)).2.2.2.2;have A:VB v (aA F v es (au 1 1 s)).slots:=by rw [H];exact hv
  generalize aA F v es (au 1 1 s)=t at *;have B:=h2.1;have D:∀{u:CS},GdS u→u.slots=t.slots→GdS (au 6 t.slots u)∧GdS (au 5 t.slots u):=fun {u} hu e=>⟨fy hu cf (fun q=>cE B (by have:=q.2.2;omega)),fy hu cf (fun q=>cE B (by have:=q.2.2;omega))⟩
  by_cases c1:op=1
  ·rw [if_pos c1]
   exact ⟨fy (pG h2) cf (fun q=>cE B (by have:=q.2.2;simp only [bw] at this;omega)),(A.mono (show t.slots≤(bw t).slots by show t.slots≤t.slots+1;omega)).put text B (by show t.slots≤t.slots+1;omega)⟩
  rw [if_neg c1];by_cases c2:op=2
  ·rw [if_pos c2]
   exact ⟨fy h2 cf (fun q=>cE (A text).1 (by have:=(A text).2;have:=q.2.2;omega)),A⟩
  rw [if_neg c2];by_cases c3:op=3
  ·rw [if_pos c3]
   have g1:GdS (au 16 0 t):=cO h2 cf cf;have g2:=gX hF body v (au 16 0 t) hb A g1;have a2:=aY F body v (au 16 0 t);have C:VB v (aJ F body (v,au 16 0 t)).2.slots:=A.mono a2.2.2.2.2.1;generalize (aJ F body (v,au 16 0 t)).2=t2 at *;split
   ·have g3:=iS t.ins.length g2
    have g4:=gX hF els v (bW t.ins.length t2) hl C g3;have a4:=aY F els v (bW t.ins.length t2);exact ⟨g4,C.mono a4.2.2.2.2.1⟩
   ·have g3:=iS t.ins.length (cO (o:=15) (n:=0) g2 cf cf)
    have g4:=gX hF els v (bW t.ins.length (au 15 0 t2)) hl C g3;have a4:=aY F els v (bW t.ins.length (au 15 0 t2));exact ⟨iS _ g4,C.mono a4.2.2.2.2.1⟩
  rw [if_neg c3];by_cases c4:op=4
  ·rw [if_pos c4]
   have big1:∀{u:CS},GdS u→u.slots=t.slots+1+1→∀o,i64 o→GdS (au o t.slots u)∧GdS (au o (t.slots+1) u):=fun {u} hu e o E=>⟨fy hu E (fun q=>cE B (by have:=q.2.2;omega)),fy hu E (fun q=>cE (by omega) (by have:=q.2.2;omega))⟩
   have g0:GdS (bw (bw t)):=pG (pG h2);have g1:=(big1 g0 rfl 6 cf).2;have g2:=(big1 g1 rfl 6 cf).1;have J:Bd (au 6 t.slots (au 6 (t.slots+1) (bw (bw t))))→((au 6 t.slots (au 6 (t.slots+1) (bw (bw t)))).ins.length:Int)≤1000000:=fun q=>by have:=q.1;omega
   generalize I:(au 6 t.slots (au 6 (t.slots+1) (bw (bw t)))).ins.length=nb at *;have g3:=(big1 g2 rfl 5 cf).1;have g4:=(big1 g3 rfl 5 cf).2;have g5:GdS (au 1 1 (au 16 0 (au 7 6 (au 5 (t.slots+1) (au 5 t.slots (au 6 t.slots (au 6 (t.slots+1) (bw (bw t))))))))):=cO (cO (cO g4 cf cf) cf cf) cf cf;have L:nb≤(au 1 1 (au 16 0 (au 7 6 (au 5 (t.slots+1) (au 5 t.slots (au 6 t.slots (au 6 (t.slots+1) (bw (bw t))))))))).ins.length:=by rw [←I];simp [au]
   have K:(au 1 1 (au 16 0 (au 7 6 (au 5 (t.slots+1) (au 5 t.slots (au 6 t.slots (au 6 (t.slots+1) (bw (bw t))))))))).slots=t.slots+1+1:=rfl;generalize au 1 1 (au 16 0 (au 7 6 (au 5 (t.slots+1) (au 5 t.slots (au 6 t.slots (au 6 (t.slots+1) (bw (bw t))))))))=t5 at *;have G:VB (bQ v text t.slots) t5.slots:=(A.mono (by omega)).put text B (by omega);have g6:=gX hF body _ t5 hb G g5;have a6:=aY F body (bQ v text t.slots) t5;generalize (aJ F body (bQ v text t.slots,t5)).2=t6 at *;obtain ⟨a61,_,_,_,a65,_⟩:=a6;have g7:GdS (au 5 t.slots t6):=fy g6 cf (fun q=>cE B (by have:=q.2.2;omega));have g8:GdS (au 7 1 (au 2 1 (au 5 t.slots t6))):=cO (cO g7 cf cf) cf cf;have g9:GdS (au 6 t.slots (au 7 1 (au 2 1 (au 5 t.slots t6)))):=fy g8 cf (fun q=>cE B (by have:t6.slots≤1000000:=q.2.2;omega));have g10:GdS (au 15 (nb:Int) (au 6 t.slots (au 7 1 (au 2 1 (au 5 t.slots t6))))):=fy g9 cf (fun q=>cE (by omega) (by have:=q.1;simp only [au,List.length_append,List.length_cons,List.length_nil] at this;omega));exact ⟨iS _ g10,A.mono (show t.slots≤t6.slots by omega)⟩
  rw [if_neg c4];by_cases c5:op=5
  ·rw [if_pos c5];exact ⟨cO h2 cf cf,A⟩
  rw [if_neg c5];by_cases c6:op=6
  ·rw [if_pos c6];exact ⟨cO h2 cf cf,A⟩
  rw [if_neg c6];by_cases c7:op=7
  ·rw [if_pos c7];exact ⟨cO h2 cf cf,A⟩
  rw [if_neg c7];by_cases c8:op=8
  ·rw [if_pos c8]
   dsimp only;split
   ·exact ⟨h2,A⟩
   ·exact ⟨cO h2 cf cf,A⟩
  rw [if_neg c8];exact ⟨h2,A⟩
theorem gX {F:List Fn} (hF:F.length≤1000):∀(l:List St) (v:bf) (s:CS),eZ l→VB v s.slots→GdS s→GdS (aJ F l (v,s)).2
 | [],v,s=>by intro _ _ h;rw [aJ];exact h
 | x :: l,v,s=>by
  intro ho hv h;rw [eZ] at ho;rw [aJ];obtain ⟨g1,g2⟩:=yx hF x v s ho.1 hv h;exact gX hF l _ _ ho.2 g2 g1
end
theorem oF:∀(l:List (ByteArray×Int)) (v:bf) (n:Int),0≤n→VB v n→VB (aF l (v,n)).1 (aF l (v,n)).2∧0≤(aF l (v,n)).2
 | [],v,n,h0,h=>by rw [aF];exact ⟨h,h0⟩
 | p :: l,v,n,h0,h=>by
  rw [aF];exact oF l _ _ (by omega) ((h.mono (by omega)).put p.1 h0 (by omega))
theorem zB {F:List Fn} (hF:F.length≤1000) (f:Fn) (T:List ByteArray) (hb:eZ f.body) (hT:∀t,t∈T→t.size≤64) (hn:szF f≤2048) (B:T.length≤2048):(∀t,t∈(dg F f T).2→t.size≤64)∧(dg F f T).1.ins.length≤40000∧i64 (dg F f T).1.slots∧∀x,x∈(dg F f T).1.ins→i64 x.op∧i64 x.a:=by
 have hp:=oF f.params [] 0 (Int.le_refl _) (fun k=>⟨Int.le_refl _,Int.le_refl _⟩)
 have A:(aF f.params ([],0)).2≤2048:=by
  have:∀(l:List (ByteArray×Int)) (p:bf×Int),(aF l p).2=p.2+l.length:=fun l=>by
   induction l with
   | nil=>intro p;rw [aF];simp
   | cons x l ih=>intro p;rw [aF,ih];simp;omega
  rw [this];unfold szF at hn;show (0:Int)+_≤_
  omega
 have g:=gX hF f.body _ ⟨[],(aF f.params ([],0)).2,T⟩ hb hp.1 ⟨hp.2,hT,fun _ x hx=>(by cases hx)⟩;have a:=aY F f.body (aF f.params ([],0)).1 ⟨[],(aF f.params ([],0)).2,T⟩;unfold szF at hn
 have key:GdS (if f.result=0 then au 18 0 (aJ F f.body ((aF f.params ([],0)).1,⟨[],(aF f.params ([],0)).2,T⟩)).2 else (aJ F f.body ((aF f.params ([],0)).1,⟨[],(aF f.params ([],0)).2,T⟩)).2)∧(if f.result=0 then au 18 0 (aJ F f.body ((aF f.params ([],0)).1,⟨[],(aF f.params ([],0)).2,T⟩)).2 else (aJ F f.body ((aF f.params ([],0)).1,⟨[],(aF f.params ([],0)).2,T⟩)).2).ins.length≤40000∧Bd (if f.result=0 then au 18 0 (aJ F f.body ((aF f.params ([],0)).1,⟨[],(aF f.params ([],0)).2,T⟩)).2 else (aJ F f.body ((aF f.params ([],0)).1,⟨[],(aF f.params ([],0)).2,T⟩)).2):=by
  generalize (aJ F f.body ((aF f.params ([],0)).1,⟨[],(aF f.params ([],0)).2,T⟩)).2=u at *;obtain ⟨_,a2,_,a4,_,a6⟩:=a;dsimp only [List.length_nil] at a2 a4 a6;split
  ·refine ⟨cO g cf cf,by simp [au];omega,by simp [au];omega,by show u.texts.length≤_;omega,by show u.slots≤_;omega⟩
  ·exact ⟨g,by omega,by omega,by omega,by omega⟩
 obtain ⟨k1,k2,k3⟩:=key;exact ⟨k1.2.1,k2,cE k1.1 k3.2.2,k1.2.2 k3⟩
end
end Go.Proofs.YtmlgbkomdhcaoaaGreatDoor
