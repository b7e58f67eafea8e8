/-
  VerifyBuilt: part 20 of its proof: see the last text.
-/
import Derived.Test.YtmlgbkomdhcaoaaGreatDoorPv19
set_option maxRecDepth 100000
set_option maxHeartbeats 16000000
namespace Go.Proofs.YtmlgbkomdhcaoaaGreatDoor
section
open Go.RowKit
mutual
theorem rA (F:List Fn):∀(x:St) (v:bf) (s:CS),ExtI s (bL F x (v,s)).2
 | .mk op text es body els _,v,s=>by
  rw [bL];dsimp only;have h1:=(ExtI.add 1 1 s).trans (fc F v es (au 1 1 s));have hb:=fun v s=>eL F body v s;have he:=fun v s=>eL F els v s;split
  ·exact (h1.trans (ExtI.slot _)).trans (ExtI.add _ _ _)
  split
  ·exact h1.trans (ExtI.add _ _ _)
  split
  ·have h2:=(h1.trans (ExtI.add 16 0 _)).trans (hb v _)
   split
   ·exact (h2.led h1.len).trans (he v _)
   ·have h3:=((h2.trans (ExtI.add 15 0 _)).led (k:=(aA F v es (au 1 1 s)).ins.length) h1.len).trans (he v _)
    exact h3.led h2.len
  split
  ·have h2:=(((h1.trans (ExtI.slot _)).trans (ExtI.slot _)).trans (ExtI.add 6 ((aA F v es (au 1 1 s)).slots+1) _)).trans (ExtI.add 6 (aA F v es (au 1 1 s)).slots _)
   have h3:=((h2.trans (ExtI.add 5 (aA F v es (au 1 1 s)).slots _)).trans (ExtI.add 5 ((aA F v es (au 1 1 s)).slots+1) _)).trans (ExtI.add 7 6 _);have h4:=((h3.trans (ExtI.add 16 0 _)).trans (ExtI.add 1 1 _)).trans (hb (bQ v text (aA F v es (au 1 1 s)).slots) _);exact ((((((h4.trans (ExtI.add 5 (aA F v es (au 1 1 s)).slots _)).trans (ExtI.add 2 1 _)).trans (ExtI.add 7 1 _)).trans (ExtI.add 6 (aA F v es (au 1 1 s)).slots _)).trans (ExtI.add 15 _ _)).led h3.len)
  split
  ·exact h1.trans (ExtI.add _ _ _)
  split
  ·exact h1.trans (ExtI.add _ _ _)
  split
  ·exact h1.trans (ExtI.add _ _ _)
  split
  ·dsimp only
   split
   ·exact h1
   ·exact h1.trans (ExtI.add _ _ _)
  ·exact h1
theorem eL (F:List Fn):∀(l:List St) (v:bf) (s:CS),ExtI s (aJ F l (v,s)).2
 | [],v,s=>by rw [aJ];exact ExtI.refl s
 | x :: l,v,s=>by
  rw [aJ];exact (rA F x v s).trans (eL F l _ _)
end
theorem Fin'.led {c:Cd} {s t s1:CS} {k:Nat} (h:Fin' c s (bW k t)) (h1:s.ins.length≤s1.ins.length) (h2:k<s1.ins.length):Fin' c s1 t:=fun i q1 q2=>by
 rw [h i (by omega) (by rw [fK];exact q2),df (by omega)]
theorem KnS.mono {V:aR} {v:bf} {n n':Int} {sl:Nat→Int} (h:KnS V v n sl) (hn:n≤n'):KnS V v n' sl:=fun x p hx=>by
 obtain ⟨h1,j,h2,h3,h4⟩:=h x p hx;exact ⟨h1,j,h2,by omega,h4⟩
theorem KnS.put {V:aR} {v:bf} {n n':Int} {sl A:Nat→Int} {k:Nat} {text:ByteArray} {p:Int×Bool} (h:KnS V v n sl) (hn:n≤n') (hk:(k:Int)<n') (hp:1≤p.1∧p.1≤3) (h1:A k=p.1) (h2:∀j:Nat,(j:Int)<n→A j=sl j):KnS (bQ V text p) (bQ v text (k:Int)) n' A:=fun x q hx=>by
 rw [fQ] at hx ⊢;by_cases e:text=x
 ·rw [if_pos e] at hx ⊢
  injection hx with hx
  subst hx;exact ⟨hp,k,rfl,hk,h1⟩
 ·rw [if_neg e] at hx ⊢
  obtain ⟨g1,j,g2,g3,g4⟩:=h x q hx;exact ⟨g1,j,g2,by omega,by rw [h2 j g3];exact g4⟩
theorem KnS.rng {V:aR} {v:bf} {n:Int} {sl:Nat→Int} (h:KnS V v n sl):∀x p,aI V x=some p→1≤p.1∧p.1≤3:=fun x p hx=>(h x p hx).1
section
variable {c:Cd} {m:Mdl} {F:List Fn} {G:aO}
theorem dP {V:aR} {v:bf} {n:Int} {sl:Nat→Int} (hE:EnvM m F G) (hV:KnS V v n sl) (hn:n≤c.slots) {es:List Ex} {ts:List Int} {s u:CS} (hk:TyEs G V es ts) (h0:∀t,t∈ts→t≠0) (A:Fin' c s u) (hx:ExtI (aA F v es (au 1 1 s)) u) (B:(aA F v es (au 1 1 s)).texts.length≤m.texts.length) (C:bP es≤2100) :
    Flow c m s.ins.length (aA F v es (au 1 1 s)).ins.length ⟨[],sl⟩ (some ⟨ts,sl⟩):=by
 have e1:=fc F v es (au 1 1 s);have f0:=bS (c:=c) (m:=m) (s:=s) A (Nat.le_refl _) (e1.trans hx) (gJ (c:=c) (m:=m) (st:=[]) (sl:=sl)) (by simp) (by decide);have f1:=jF hE hV hn es ts (au 1 1 s) [] hk h0 ((A.left hx).right (ExtI.add 1 1 s).len) B (by simp;exact C);exact f0.seq f1 (ExtI.add 1 1 s).len e1.len
def BX (c:Cd) (m:Mdl) (a b:Nat) (sl B:Nat→Int) (A:Bool):Prop:=Flow c m a b ⟨[],sl⟩ (if A then none else some ⟨[],B⟩)
theorem zI {n:Int} {sl A:Nat→Int} (h0:∀j:Nat,n≤(j:Int)→sl j=0) (h:∀j:Nat,(j:Int)<n→A j=sl j):LeS ⟨[],A⟩ ⟨[],sl⟩:=⟨rfl,fun j hj=>h j (by
  by_cases q:(j:Int)<n
  · exact q
  · exact absurd (h0 j (by omega)) hj)⟩
mutual
theorem vq (hE:EnvM m F G):∀(x:St) (V:aR) (v:bf) (s:CS) (sl:Nat→Int),TyS G c.result x V→KnS V v s.slots sl→(∀j:Nat,s.slots≤(j:Int)→sl j=0)→0≤s.slots→Fin' c s (bL F x (v,s)).2 →
    (bL F x (v,s)).2.texts.length≤m.texts.length→(bL F x (v,s)).2.slots≤c.slots→szS x≤2100 →
    ∃sl',KnS (uR G c.result x V) (bL F x (v,s)).1 (bL F x (v,s)).2.slots sl'∧(∀j:Nat,(bL F x (v,s)).2.slots≤(j:Int)→sl' j=0)∧(∀j:Nat,(j:Int)<s.slots→sl' j=sl j) ∧
     BX c m s.ins.length (bL F x (v,s)).2.ins.length sl sl' (endsS x)
 | .mk op text es body els pos,V,v,s,sl=>by
  intro ht hV C h9 A D E p;rw [szS] at p;have h7:=cL F v es (au 1 1 s);have B:(aA F v es (au 1 1 s)).slots=s.slots:=h7.2.2.2.2;have I:=fun (h:op≠1)=>xL (G:=G) (res:=c.result) h text es body els pos V;have x0:=ExtI.add 1 1 s;have x1:=fc F v es (au 1 1 s);have h5:=hV.rng;rw [TyS] at ht;rcases ht with ⟨rfl,rfl,rfl,hh,x,rfl,hx,hd⟩ | ⟨rfl,rfl,rfl,x,t,rfl,hl,hx⟩ | ⟨rfl,⟨x,rfl,hx⟩,hb,he⟩ | ⟨rfl,rfl,hh,N,hb⟩ | ⟨rfl,rfl,rfl,hr⟩ | ⟨rfl,rfl,rfl,N⟩ | ⟨rfl,rfl,rfl,N⟩ | ⟨rfl,rfl,rfl,x,t,rfl,hx,hc⟩
  ·
   have e:bL F (.mk 1 text [x] [] [] pos) (v,s)=(bQ v text (aA F v [x] (au 1 1 s)).slots,au 6 (aA F v [x] (au 1 1 s)).slots (bw (aA F v [x] (au 1 1 s)))):=by rw [bL];rfl
   rw [e] at A D E ⊢;dsimp only at A D E ⊢;have hT:TyEs G V [x] [(aK G V x).1]:=by rw [TyEs];exact ⟨_,[],rfl,hx,by rw [TyEs]⟩
   have hg:=pY hE h5 x _ hx;obtain ⟨k,hk⟩:∃k:Nat,s.slots=(k:Int):=⟨s.slots.toNat,by omega⟩
   have x2:ExtI (aA F v [x] (au 1 1 s)) (au 6 (aA F v [x] (au 1 1 s)).slots (bw (aA F v [x] (au 1 1 s)))):=(ExtI.slot _).trans (ExtI.add _ _ _)
   have H:(k:Int)+1≤c.slots:=by
    have:(aA F v [x] (au 1 1 s)).slots+1≤c.slots:=E;omega
   have f1:=dP hE hV (by omega) hT (fun t ht=>by rw [List.mem_singleton.1 ht];exact hd) A x2 D (by omega)
   have f2:Flow c m (bw (aA F v [x] (au 1 1 s))).ins.length (au 6 (aA F v [x] (au 1 1 s)).slots (bw (aA F v [x] (au 1 1 s)))).ins.length ⟨[(aK G V x).1],sl⟩ (some ⟨[],dS sl k (aK G V x).1⟩):=by
    refine bS A ((x0.trans x1).trans (ExtI.slot _)).len (ExtI.refl _) ?_ (by simp) (by decide);rw [B,hk];exact fV (st:=[]) (by omega)
   refine ⟨dS sl k (aK G V x).1,?_,fun j hj=>?_,fun j hj=>?_,?_⟩
   ·rw [yM,B,hk]
    refine KnS.put (n:=s.slots) hV (by show s.slots≤(aA F v [x] (au 1 1 s)).slots+1;omega) (by show (k:Int)<(aA F v [x] (au 1 1 s)).slots+1;omega) (by dsimp only;omega) (by unfold dS;rw [if_pos rfl]) (fun j hj=>by unfold dS;rw [if_neg (by omega)])
   ·have ho:(aA F v [x] (au 1 1 s)).slots+1≤(j:Int):=hj
    unfold dS;rw [if_neg (by omega)];exact C j (by omega)
   ·unfold dS
    rw [if_neg (by omega)]
   ·exact f1.seq f2 (x0.trans x1).len (ExtI.add _ _ _).len
  ·
   have e:bL F (.mk 2 text [x] [] [] pos) (v,s)=(v,au 6 ((aI v text).getD 0) (aA F v [x] (au 1 1 s))):=by rw [bL];rfl
   rw [e] at A D E ⊢;dsimp only at A D E ⊢;obtain ⟨⟨r1,r2⟩,k,r3,r4,r5⟩:=hV _ _ hl;dsimp only at r1 r2 r5;have hT:TyEs G V [x] [t]:=by rw [TyEs];exact ⟨_,[],rfl,hx,by rw [TyEs]⟩
   have H:s.slots≤c.slots:=by rw [←B];exact E
   have f1:=dP hE hV H hT (fun t ht=>by rw [List.mem_singleton.1 ht];omega) A (ExtI.add _ _ _) D (by omega)
   have f2:Flow c m (aA F v [x] (au 1 1 s)).ins.length (au 6 ((aI v text).getD 0) (aA F v [x] (au 1 1 s))).ins.length ⟨[t],sl⟩ (some ⟨[],sl⟩):=by
    have f:=bS (m:=m) (P:=⟨[t],sl⟩) (q:=⟨[],dS sl k t⟩) A (x0.trans x1).len (ExtI.refl _) (by rw [r3];exact fV (st:=[]) (by omega)) (by simp) (by decide);refine f.weak ⟨rfl,fun j hj=>?_⟩;unfold dS;dsimp only;split
    ·rename_i q;rw [q,r5]
    ·rfl
   refine ⟨sl,?_,fun j hj=>C j (by have:(aA F v [x] (au 1 1 s)).slots≤(j:Int):=hj;omega),fun _ _=>rfl,f1.seq f2 (x0.trans x1).len (ExtI.add _ _ _).len⟩;rw [I (by decide)];exact hV.mono (by show s.slots≤(aA F v [x] (au 1 1 s)).slots;omega)
  ·
   have hT:TyEs G V [x] [2]:=by rw [TyEs];exact ⟨_,[],rfl,hx,by rw [TyEs]⟩
   have x2:=ExtI.add 16 0 (aA F v [x] (au 1 1 s));have x3:=eL F body v (au 16 0 (aA F v [x] (au 1 1 s)));have a3:=aY F body v (au 16 0 (aA F v [x] (au 1 1 s)));have L:endsS (.mk 3 text [x] body els pos)=(bE body&&bE els):=by rw [endsS];rfl
   by_cases ce:bE body=true
   ·have e:bL F (.mk 3 text [x] body els pos) (v,s)=(v,(aJ F els (v,bW (aA F v [x] (au 1 1 s)).ins.length (aJ F body (v,au 16 0 (aA F v [x] (au 1 1 s)))).2)).2):=by
      rw [bL];dsimp only;rw [if_neg (by decide),if_neg (by decide),if_pos rfl,if_pos ce]
    rw [e] at A D E ⊢;dsimp only at A D E ⊢;generalize M:aA F v [x] (au 1 1 s)=s1 at *;generalize K:(aJ F body (v,au 16 0 s1)).2=s3 at *;have x4:=eL F els v (bW s1.ins.length s3);have a4:=aY F els v (bW s1.ins.length s3);generalize J:(aJ F els (v,bW s1.ins.length s3)).2=s4 at *;have l2:=bV 16 0 s1;have l3:=x3.len;have l3':=fK s1.ins.length s3;have l4:=x4.len;have l1:=(x0.trans x1).len;have q3:s1.slots≤s3.slots:=a3.2.2.2.2.1;have q4:s3.slots≤s4.slots:=a4.2.2.2.2.1;have t3:s1.texts.length≤s3.texts.length:=a3.2.2.1;have t4:s3.texts.length≤s4.texts.length:=a4.2.2.1;have c1:Fin' c s s1:=fun i h1 h2=>by rw [A i h1 (by omega),x4.same i (by omega),df (by omega),x3.same i (by omega),dJ h2]
    have c3:Fin' c (au 16 0 s1) s3:=fun i h1 h2=>by rw [A i (by omega) (by omega),x4.same i (by omega),df (by omega)]
    have c4:Fin' c (bW s1.ins.length s3) s4:=A.right (by omega);have ip:c.ins.getD s1.ins.length default=⟨16,(s3.ins.length:Int)⟩:=by rw [A _ l1 (by omega),x4.same _ (by omega),iO (by omega),x3.same _ (by omega),fX]
    have f1:=dP (u:=s1) hE hV (by omega) hT (fun t ht=>by rw [List.mem_singleton.1 ht];decide) c1 (by rw [M];exact ExtI.refl _) (by rw [M];omega) (by omega);rw [M] at f1;obtain ⟨slb,_,k2⟩:=eG hE body V v (au 16 0 s1) sl hb (hV.mono (by show s.slots≤s1.slots;omega)) (fun j hj=>C j (by have:s1.slots≤(j:Int):=hj;omega)) (by show 0≤s1.slots;omega) (by rw [K];exact c3) (by rw [K];omega) (by rw [K];omega) (by omega);obtain ⟨sle,g1,g2⟩:=eG hE els V v (bW s1.ins.length s3) sl he (hV.mono (by show s.slots≤s3.slots;omega)) (fun j hj=>C j (by have:s3.slots≤(j:Int):=hj;omega)) (by show 0≤s3.slots;omega) (by rw [J];exact c4) (by rw [J];omega) (by rw [J];omega) (by omega);unfold BX at k2 g2;rw [K,if_pos ce,l2] at k2;rw [J,l3'] at g2;refine ⟨sl,?_,fun j hj=>C j (by omega),fun _ _=>rfl,?_⟩
    ·rw [I (by decide)]
     exact hV.mono (by omega)
    ·unfold BX
     rw [L,ce,Bool.true_and];refine f1.seq (Flow.fork (b:=s3.ins.length) ip rfl rfl (ei (st:=[]) (sl:=sl)) (by simp) (by omega) (by omega) (by omega) k2 (g2.outq fun y hy=>?_) fun r hr=>by cases hr) l1 (by omega);by_cases c5:bE els=true
     ·rw [if_pos c5] at hy
      cases hy
     ·rw [if_neg c5] at hy ⊢
      injection hy with hy
      subst hy;exact ⟨_,rfl,g1⟩
   ·have e:bL F (.mk 3 text [x] body els pos) (v,s)=(v,bW (aJ F body (v,au 16 0 (aA F v [x] (au 1 1 s)))).2.ins.length (aJ F els (v,bW (aA F v [x] (au 1 1 s)).ins.length (au 15 0 (aJ F body (v,au 16 0 (aA F v [x] (au 1 1 s)))).2))).2):=by
      rw [bL];dsimp only;rw [if_neg (by decide),if_neg (by decide),if_pos rfl,if_neg ce]
    rw [e] at A D E ⊢;dsimp only at A D E ⊢;generalize M:aA F v [x] (au 1 1 s)=s1 at *;generalize K:(aJ F body (v,au 16 0 s1)).2=s3 at *;have x4:=eL F els v (bW s1.ins.length (au 15 0 s3));have a4:=aY F els v (bW s1.ins.length (au 15 0 s3));generalize J:(aJ F els (v,bW s1.ins.length (au 15 0 s3))).2=s4 at *;have l2:=bV 16 0 s1;have l3:=x3.len;have l5:=bV 15 0 s3;have l3':=fK s1.ins.length (au 15 0 s3);have l4:=x4.len;have l6:=fK s3.ins.length s4;have l1:=(x0.trans x1).len;have q3:s1.slots≤s3.slots:=a3.2.2.2.2.1;have q4:s3.slots≤s4.slots:=a4.2.2.2.2.1;have t3:s1.texts.length≤s3.texts.length:=a3.2.2.1;have t4:s3.texts.length≤s4.texts.length:=a4.2.2.1;have H:s4.slots≤c.slots:=E;have O:s4.texts.length≤m.texts.length:=D;have c1:Fin' c s s1:=fun i h1 h2=>by rw [A i h1 (by omega),df (by omega),x4.same i (by omega),df (by omega),dJ (by omega),x3.same i (by omega),dJ h2]
    have c3:Fin' c (au 16 0 s1) s3:=fun i h1 h2=>by rw [A i (by omega) (by omega),df (by omega),x4.same i (by omega),df (by omega),dJ h2]
    have c4:Fin' c (bW s1.ins.length (au 15 0 s3)) s4:=fun i h1 h2=>by rw [A i (by omega) (by omega),df (by omega)]
    have ip:c.ins.getD s1.ins.length default=⟨16,((s3.ins.length+1:Nat):Int)⟩:=by rw [A _ l1 (by omega),df (by omega),x4.same _ (by omega),iO (by omega),dJ (by omega),x3.same _ (by omega),fX,l5]
    have ib:c.ins.getD s3.ins.length default=⟨15,(s4.ins.length:Int)⟩:=by rw [A _ (by omega) (by omega),iO (by omega),x4.same _ (by omega),df (by omega),fX]
    have f1:=dP (u:=s1) hE hV (by omega) hT (fun t ht=>by rw [List.mem_singleton.1 ht];decide) c1 (by rw [M];exact ExtI.refl _) (by rw [M];omega) (by omega);rw [M] at f1;obtain ⟨slb,k1,k2⟩:=eG hE body V v (au 16 0 s1) sl hb (hV.mono (by show s.slots≤s1.slots;omega)) (fun j hj=>C j (by have:s1.slots≤(j:Int):=hj;omega)) (by show 0≤s1.slots;omega) (by rw [K];exact c3) (by rw [K];omega) (by rw [K];omega) (by omega);obtain ⟨sle,g1,g2⟩:=eG hE els V v (bW s1.ins.length (au 15 0 s3)) sl he (hV.mono (by show s.slots≤s3.slots;omega)) (fun j hj=>C j (by have:s3.slots≤(j:Int):=hj;omega)) (by show 0≤s3.slots;omega) (by rw [J];exact c4) (by rw [J];omega) (by rw [J];omega) (by omega);unfold BX at k2 g2;rw [K,if_neg ce,l2] at k2;rw [J,l3',l5] at g2;refine ⟨sl,?_,fun j hj=>C j (by have:s4.slots≤(j:Int):=hj;omega),fun _ _=>rfl,?_⟩
    ·rw [I (by decide)]
     exact hV.mono (by show s.slots≤s4.slots;omega)
    ·have hf:bE body=false:=by simpa using ce
     unfold BX;rw [L,hf,Bool.false_and,if_neg (by decide),l6]
     have g3:Flow c m (s3.ins.length+1) s4.ins.length ⟨[],sl⟩ (some ⟨[],sl⟩):=g2.outq fun y hy=>by
      by_cases c5:bE els=true
      ·rw [if_pos c5] at hy
       cases hy
      ·rw [if_neg c5] at hy
       injection hy with hy
       subst hy;exact ⟨_,rfl,g1⟩
     refine f1.seq (Flow.fork (b:=s3.ins.length) ip rfl rfl (ei (st:=[]) (sl:=sl)) (by simp) (by omega) (by omega) (by omega) k2 g3 fun r hr=>?_) l1 (by omega);injection hr with hr
     subst hr;exact ⟨by omega,by rw [ib],by rw [ib],by simp,_,rfl,k1⟩
  ·
   have x2:=(ExtI.slot (aA F v es (au 1 1 s))).trans (ExtI.slot _);obtain ⟨k,hk⟩:∃k:Nat,s.slots=(k:Int):=⟨s.slots.toNat,by omega⟩
   have e:bL F (.mk 4 text es body [] pos) (v,s) =
       (let s1:=aA F v es (au 1 1 s)
        let s4:=au 6 s1.slots (au 6 (s1.slots+1) (bw (bw s1)))
        let s7:=au 7 6 (au 5 (s1.slots+1) (au 5 s1.slots s4))
        let s9:=au 1 1 (au 16 0 s7)
        let sb:=(aJ F body (bQ v text s1.slots,s9)).2
        let t4:=au 6 s1.slots (au 7 1 (au 2 1 (au 5 s1.slots sb)))
        (v,bW s7.ins.length (au 15 s4.ins.length t4))):=by rw [bL];rfl
   rw [e] at A D E ⊢;dsimp only at A D E ⊢;rw [B,hk] at A D E ⊢;generalize M:aA F v es (au 1 1 s)=s1 at *;have x4:ExtI s1 (au 6 (k:Int) (au 6 ((k:Int)+1) (bw (bw s1)))):=(x2.trans (ExtI.add _ _ _)).trans (ExtI.add _ _ _);generalize K:au 6 ((k:Int)+1) (bw (bw s1))=s3 at *;generalize J:au 6 (k:Int) s3=s4 at *;generalize Z:au 5 (k:Int) s4=s5 at *;generalize Y:au 5 ((k:Int)+1) s5=s6 at *;generalize X:au 7 6 s6=s7 at *;generalize W:au 16 0 s7=s8 at *;generalize U:au 1 1 s8=s9 at *;have xb:=eL F body (bQ v text (k:Int)) s9;have ab:=aY F body (bQ v text (k:Int)) s9;generalize w:(aJ F body (bQ v text (k:Int),s9)).2=sb at *;generalize T:au 5 (k:Int) sb=t1 at *;generalize S:au 2 1 t1=t2 at *;generalize R:au 7 1 t2=t3 at *;generalize Q:au 6 (k:Int) t3=t4 at *;have e3:ExtI (au 6 ((k:Int)+1) (bw (bw s1))) s3:=by rw [K];exact ExtI.refl _
   have e4:ExtI (au 6 (k:Int) s3) s4:=by rw [J];exact ExtI.refl _
   have e5:ExtI (au 5 (k:Int) s4) s5:=by rw [Z];exact ExtI.refl _
   have e6:ExtI (au 5 ((k:Int)+1) s5) s6:=by rw [Y];exact ExtI.refl _
   have e7:ExtI (au 7 6 s6) s7:=by rw [X];exact ExtI.refl _
   have e8:ExtI (au 16 0 s7) s8:=by rw [W];exact ExtI.refl _
   have e9:ExtI (au 1 1 s8) s9:=by rw [U];exact ExtI.refl _
   have g1:ExtI (au 5 (k:Int) sb) t1:=by rw [T];exact ExtI.refl _
   have g2:ExtI (au 2 1 t1) t2:=by rw [S];exact ExtI.refl _
   have g3:ExtI (au 7 1 t2) t3:=by rw [R];exact ExtI.refl _
   have g4:ExtI (au 6 (k:Int) t3) t4:=by rw [Q];exact ExtI.refl _
   have g5:=ExtI.add 15 (s4.ins.length:Int) t4;have n3:s3.ins.length=s1.ins.length+1:=by rw [←K,bV];rfl
   have n4:s4.ins.length=s3.ins.length+1:=by rw [←J,bV]
   have n5:s5.ins.length=s4.ins.length+1:=by rw [←Z,bV]
   have n6:s6.ins.length=s5.ins.length+1:=by rw [←Y,bV]
   have n7:s7.ins.length=s6.ins.length+1:=by rw [←X,bV]
   have n8:s8.ins.length=s7.ins.length+1:=by rw [←W,bV]
   have n9:s9.ins.length=s8.ins.length+1:=by rw [←U,bV]
   have nb:=xb.len;have m1:t1.ins.length=sb.ins.length+1:=by rw [←T,bV]
   have m2:t2.ins.length=t1.ins.length+1:=by rw [←S,bV]
   have m3:t3.ins.length=t2.ins.length+1:=by rw [←R,bV]
   have m4:t4.ins.length=t3.ins.length+1:=by rw [←Q,bV]
   have m5:=bV 15 (s4.ins.length:Int) t4;have m6:=fK s7.ins.length (au 15 (s4.ins.length:Int) t4);have w9:s9.slots=s1.slots+1+1:=by rw [←U,←W,←X,←Y,←Z,←J,←K];rfl
   have wb:t4.slots=sb.slots:=by rw [←Q,←R,←S,←T];rfl
   have vb:t4.texts=sb.texts:=by rw [←Q,←R,←S,←T];rfl
   have v9:s9.texts=s1.texts:=by rw [←U,←W,←X,←Y,←Z,←J,←K];rfl
   have qb:s9.slots≤sb.slots:=ab.2.2.2.2.1;have tb:s9.texts.length≤sb.texts.length:=ab.2.2.1;have H:sb.slots≤c.slots:=by rw [←wb];exact E
   have O:sb.texts.length≤m.texts.length:=by rw [←vb];exact D
   have hn:s9.slots=(k:Int)+2:=by omega
   have l1:=(x0.trans x1).len
   have z7:ExtI s7 (au 15 (s4.ins.length:Int) t4):=by
    have a:=((ExtI.add 16 0 s7).trans e8).trans (((ExtI.add 1 1 s8).trans e9).trans xb);exact (((((a.trans ((ExtI.add _ _ _).trans g1)).trans ((ExtI.add _ _ _).trans g2)).trans ((ExtI.add _ _ _).trans g3)).trans ((ExtI.add _ _ _).trans g4))).trans g5
   have y7:ExtI s7 (bW s7.ins.length (au 15 (s4.ins.length:Int) t4)):=z7.led (Nat.le_refl _);have c7:Fin' c s s7:=A.left y7;have c8:Fin' c s8 (au 15 (s4.ins.length:Int) t4):=A.led (by omega) (by omega);have y4:ExtI s4 s7:=(((ExtI.add _ _ _).trans e5).trans ((ExtI.add _ _ _).trans e6)).trans ((ExtI.add _ _ _).trans e7);have y5:ExtI s5 s7:=((ExtI.add _ _ _).trans e6).trans ((ExtI.add _ _ _).trans e7);have ysl:ExtI (bw (bw s1)) s3:=(ExtI.add _ _ _).trans e3;let slB:Nat→Int:=dS (dS sl (k+1) 1) k 1
   have b0:slB k=1:=if_pos rfl
   have b1:slB (k+1)=1:=by
    show (if k+1=k then (1:Int) else if k+1=k+1 then 1 else sl (k+1))=1
    rw [if_neg (by omega),if_pos rfl]
   have b2:∀j,j≠k→j≠k+1→slB j=sl j:=fun j h1 h2=>by
    show (if j=k then (1:Int) else if j=k+1 then 1 else sl j)=sl j
    rw [if_neg h1,if_neg h2]
   have kk:((k:Int)+1)=((k+1:Nat):Int):=by omega
   have f1:=dP (u:=s7) hE hV (by omega) N (fun t ht=>by simp at ht;rw [ht];decide) c7 (by rw [M];exact (x4.trans y4)) (by rw [M,←v9];omega) (by omega);rw [M] at f1;have f2:=bS (m:=m) (s:=bw (bw s1)) (o:=6) (a:=(k:Int)+1) (P:=⟨[1,1],sl⟩) (q:=⟨[1],dS sl (k+1) 1⟩) c7 (by show s.ins.length≤s1.ins.length;exact l1) (e3.trans (((ExtI.add _ _ _).trans e4).trans y4)) (by rw [kk];exact fV (st:=[1]) (by omega)) (by simp) (by decide);rw [K] at f2;have f3:=bS (m:=m) (s:=s3) (o:=6) (a:=(k:Int)) (P:=⟨[1],dS sl (k+1) 1⟩) (q:=⟨[],slB⟩) c7 (by omega) (e4.trans y4) (fV (st:=[]) (by omega)) (by simp) (by decide);rw [J] at f3;have fA:Flow c m s.ins.length s4.ins.length ⟨[],sl⟩ (some ⟨[],slB⟩):=(f1.seq f2 l1 (by show s1.ins.length≤s3.ins.length;omega)).seq f3 (by omega) (by omega);have f5:=bS (m:=m) (s:=s4) (o:=5) (a:=(k:Int)) (P:=⟨[],slB⟩) (q:=⟨[1],slB⟩) c7 (by omega) (e5.trans y5) (jw (st:=[]) (by omega) b0 (by decide)) (by simp) (by decide);rw [Z] at f5;have f6:=bS (m:=m) (s:=s5) (o:=5) (a:=(k:Int)+1) (P:=⟨[1],slB⟩) (q:=⟨[1,1],slB⟩) c7 (by omega) (e6.trans ((ExtI.add _ _ _).trans e7)) (by rw [kk];exact jw (st:=[1]) (by omega) b1 (by decide)) (by simp) (by decide);rw [Y] at f6;have f7:=bS (m:=m) (s:=s6) (o:=7) (a:=6) (P:=⟨[1,1],slB⟩) (q:=⟨[2],slB⟩) c7 (by omega) e7 (jm (st:=[]) (t:=1) (by kernel_rfl) (by decide)) (by simp) (by decide);rw [X] at f7;have fC:Flow c m s4.ins.length s7.ins.length ⟨[],slB⟩ (some ⟨[2],slB⟩):=(f5.seq f6 (by omega) (by omega)).seq f7 (by omega) (by omega);have hm:LeS ⟨[],slB⟩ ⟨[],sl⟩:=zI C fun j hj=>b2 j (by omega) (by omega)
   have ip:c.ins.getD s7.ins.length default=⟨16,((t4.ins.length+1:Nat):Int)⟩:=by
    have z8:ExtI s8 (au 15 (s4.ins.length:Int) t4):=by
     have a:=((ExtI.add 1 1 s8).trans e9).trans xb;exact (((((a.trans ((ExtI.add _ _ _).trans g1)).trans ((ExtI.add _ _ _).trans g2)).trans ((ExtI.add _ _ _).trans g3)).trans ((ExtI.add _ _ _).trans g4))).trans g5
    rw [A _ (by omega) (by omega),iO (by omega),z8.same _ (by omega),←W,fX,m5]
   have ib:c.ins.getD t4.ins.length default=⟨15,(s4.ins.length:Int)⟩:=c8.at (t:=t4) (by omega) (ExtI.refl _);have c9:Fin' c s9 sb:=(c8.left (((((ExtI.add _ _ _).trans g1).trans ((ExtI.add _ _ _).trans g2)).trans ((ExtI.add _ _ _).trans g3)).trans ((ExtI.add _ _ _).trans g4) |>.trans g5)).right (by omega);have hi:KnS (bQ V text (1,true)) (bQ v text (k:Int)) s9.slots slB:=KnS.put (n:=s.slots) hV (by omega) (by omega) (by decide) b0 (fun j hj=>b2 j (by omega) (by omega));obtain ⟨slb,r1,r2⟩:=eG hE body _ (bQ v text (k:Int)) s9 slB hb hi (fun j hj=>by rw [b2 j (by omega) (by omega)];exact C j (by omega)) (by omega) (by rw [w];exact c9) (by rw [w];exact O) (by rw [w];exact H) (by omega);rw [w] at r2;have f8:=bS (m:=m) (s:=s8) (o:=1) (a:=1) (P:=⟨[],slB⟩) (q:=⟨[],slB⟩) c8 (Nat.le_refl _) (e9.trans (xb.trans (((((ExtI.add _ _ _).trans g1).trans ((ExtI.add _ _ _).trans g2)).trans ((ExtI.add _ _ _).trans g3)).trans ((ExtI.add _ _ _).trans g4) |>.trans g5))) gJ (by simp) (by decide);rw [U,n8] at f8;unfold BX at r2;have fB:=f8.seq r2 (by omega) (by omega)
   have fR:∃Q1,Flow c m (s7.ins.length+1) t4.ins.length ⟨[],slB⟩ Q1∧∀r,Q1=some r→r.st.length≤2100∧LeS r ⟨[],slB⟩:=by
    by_cases ce:bE body=true
    ·rw [if_pos ce] at fB
     exact ⟨none,fB.dead (by omega),fun r hr=>by cases hr⟩
    ·rw [if_neg ce] at fB
     have bk:slb k=1:=(r1.2 k (by show slB k≠0;rw [b0];decide)).trans b0;have h1:=bS (m:=m) (s:=sb) (o:=5) (a:=(k:Int)) (P:=⟨[],slb⟩) (q:=⟨[1],slb⟩) c8 (by omega) (g1.trans (((((ExtI.add _ _ _).trans g2)).trans ((ExtI.add _ _ _).trans g3)).trans ((ExtI.add _ _ _).trans g4) |>.trans g5)) (jw (st:=[]) (by omega) bk (by decide)) (by simp) (by decide);rw [T] at h1;have h2:=bS (m:=m) (s:=t1) (o:=2) (a:=1) (P:=⟨[1],slb⟩) (q:=⟨[1,1],slb⟩) c8 (by omega) (g2.trans ((((ExtI.add _ _ _).trans g3)).trans ((ExtI.add _ _ _).trans g4) |>.trans g5)) (qK 1) (by simp) (by decide);rw [S] at h2;have h3:=bS (m:=m) (s:=t2) (o:=7) (a:=1) (P:=⟨[1,1],slb⟩) (q:=⟨[1],slb⟩) c8 (by omega) (g3.trans (((ExtI.add _ _ _).trans g4).trans g5)) (jm (st:=[]) (t:=1) (by kernel_rfl) (by decide)) (by simp) (by decide);rw [R] at h3;have h4:=bS (m:=m) (s:=t3) (o:=6) (a:=(k:Int)) (P:=⟨[1],slb⟩) (q:=⟨[],dS slb k 1⟩) c8 (by omega) (g4.trans g5) (fV (st:=[]) (by omega)) (by simp) (by decide);rw [Q] at h4;refine ⟨_,(((fB.seq h1 (by omega) (by omega)).seq h2 (by omega) (by omega)).seq h3 (by omega) (by omega)).seq h4 (by omega) (by omega),fun r hr=>?_⟩;injection hr with hr
     subst hr;refine ⟨by simp,rfl,fun j hj=>?_⟩;unfold dS;dsimp only at hj ⊢;split
     ·rename_i q;rw [q,b0]
     ·exact r1.2 j hj
   obtain ⟨Q1,fR1,fR2⟩:=fR;refine ⟨sl,?_,fun j hj=>C j ?_,fun _ _=>rfl,?_⟩
   ·rw [I (by decide)]
    exact hV.mono (by show s.slots≤t4.slots;omega)
   ·have:t4.slots≤(j:Int):=hj
    omega
   ·have L:endsS (.mk 4 text es body [] pos)=false:=by rw [endsS];rfl
    unfold BX;rw [L,if_neg (by decide),m6,m5];refine fA.seq (Flow.round ip rfl rfl (ei (st:=[]) (sl:=slB)) (by simp) (by omega) (by omega) rfl fC fR1 hm fun r hr=>?_) (by omega) (by omega);obtain ⟨p1,p2⟩:=fR2 r hr;exact ⟨by rw [ib],by rw [ib],p1,p2⟩
  ·
   have e:bL F (.mk 5 text es [] [] pos) (v,s)=(v,au 18 0 (aA F v es (au 1 1 s))):=by rw [bL];rfl
   rw [e] at A D E ⊢;dsimp only at A D E ⊢;have H:s.slots≤c.slots:=by rw [←B];exact E
   refine ⟨sl,?_,fun j hj=>C j (by have:(aA F v es (au 1 1 s)).slots≤(j:Int):=hj;omega),fun _ _=>rfl,?_⟩
   ·rw [I (by decide)]
    exact hV.mono (by show s.slots≤(aA F v es (au 1 1 s)).slots;omega)
   ·have L:endsS (.mk 5 text es [] [] pos)=true:=by rw [endsS];rfl
    have ha:=A.at (t:=aA F v es (au 1 1 s)) (x0.trans x1).len (ExtI.refl _);unfold BX;rw [L,if_pos rfl,bV];rcases hr with ⟨rfl,h0⟩ | ⟨x,rfl,hx,h0⟩
    ·have f1:=dP hE hV H (es:=[]) (ts:=[]) (by rw [TyEs]) (fun t ht=>by cases ht) A (ExtI.add _ _ _) D (by omega)
     exact f1.seq (Flow.stop ha (oJ h0) (by simp) rfl) (x0.trans x1).len (by omega)
    ·have hT:TyEs G V [x] [c.result]:=by rw [TyEs];exact ⟨_,[],rfl,hx,by rw [TyEs]⟩
     have f1:=dP hE hV H hT (fun t ht=>by rw [List.mem_singleton.1 ht];exact h0) A (ExtI.add _ _ _) D (by omega);exact f1.seq (Flow.stop ha (mV rfl h0) (by simp) rfl) (x0.trans x1).len (by omega)
  ·
   have e:bL F (.mk 6 text es [] [] pos) (v,s)=(v,au 12 0 (aA F v es (au 1 1 s))):=by rw [bL];rfl
   rw [e] at A D E ⊢;dsimp only at A D E ⊢;have H:s.slots≤c.slots:=by rw [←B];exact E
   have f1:=dP hE hV H N (fun t ht=>by simp at ht;rw [ht];decide) A (ExtI.add _ _ _) D (by omega);have f2:=bS (m:=m) (P:=⟨[3,3],sl⟩) (q:=⟨[],sl⟩) A (x0.trans x1).len (ExtI.refl _) (mC (st:=[])) (by simp) (by decide);refine ⟨sl,?_,fun j hj=>C j (by have:(aA F v es (au 1 1 s)).slots≤(j:Int):=hj;omega),fun _ _=>rfl,f1.seq f2 (x0.trans x1).len (ExtI.add _ _ _).len⟩;rw [I (by decide)];exact hV.mono (by show s.slots≤(aA F v es (au 1 1 s)).slots;omega)
  ·
   have e:bL F (.mk 7 text es [] [] pos) (v,s)=(v,au 13 0 (aA F v es (au 1 1 s))):=by rw [bL];rfl
   rw [e] at A D E ⊢;dsimp only at A D E ⊢;have H:s.slots≤c.slots:=by rw [←B];exact E
   have f1:=dP hE hV H N (fun t ht=>by simp at ht;rw [ht];decide) A (ExtI.add _ _ _) D (by omega);have f2:=bS (m:=m) (P:=⟨[3],sl⟩) (q:=⟨[],sl⟩) A (x0.trans x1).len (ExtI.refl _) (mT (st:=[])) (by simp) (by decide);refine ⟨sl,?_,fun j hj=>C j (by have:(aA F v es (au 1 1 s)).slots≤(j:Int):=hj;omega),fun _ _=>rfl,f1.seq f2 (x0.trans x1).len (ExtI.add _ _ _).len⟩;rw [I (by decide)];exact hV.mono (by show s.slots≤(aA F v es (au 1 1 s)).slots;omega)
  ·
   obtain ⟨xop,xnum,xtext,xks,xpos⟩:=x;obtain rfl:xop=5:=hc;have h8:=hx;rw [TyE] at h8;obtain ⟨ts,hr,_⟩:=h8
   have z:fH F xtext=t∧0≤t∧t≤3:=by
    rcases hr with ⟨h,_⟩ | ⟨h,_⟩ | ⟨h,_⟩ | ⟨h,_⟩ | ⟨_,fn,hf,_,rfl⟩ | ⟨h,_⟩ | ⟨h,_⟩ | ⟨h,_⟩ | ⟨h,_⟩ | ⟨h,_⟩
    ·cases h
    ·cases h
    ·cases h
    ·cases h
    ·obtain ⟨q1,q2⟩:=hE.placed _ _ hf
     refine ⟨?_,(hE.fn hf).2.2.2.2⟩;unfold fH;rw [q2]
    ·cases h
    ·cases h
    ·cases h
    ·cases h
    ·cases h
   have e:bL F (.mk 8 text [.mk 5 xnum xtext xks xpos] [] [] pos) (v,s)=(v,if fH F xtext=0 then aA F v [.mk 5 xnum xtext xks xpos] (au 1 1 s) else au 17 0 (aA F v [.mk 5 xnum xtext xks xpos] (au 1 1 s))):=by rw [bL];rfl
   rw [e] at A D E ⊢;rw [z.1] at A D E ⊢;dsimp only at A D E ⊢;have N:aA F v [.mk 5 xnum xtext xks xpos] (au 1 1 s)=bB F v (.mk 5 xnum xtext xks xpos) (au 1 1 s):=by rw [aA,aA]
   rw [bP,bP] at p;by_cases g:t=0
   ·simp only [if_pos g] at A D E ⊢
    have H:s.slots≤c.slots:=by rw [←B];exact E
    have f0:=bS (c:=c) (m:=m) (s:=s) A (Nat.le_refl _) x1 (gJ (c:=c) (m:=m) (st:=[]) (sl:=sl)) (by simp) (by decide);have f1:=fN hE hV H _ t (au 1 1 s) [] hx (by rw [←N];exact A.right x0.len) (by rw [←N];exact D) (by simp;omega);rw [←N] at f1;have hp:ja [] t=[]:=if_pos g;rw [hp] at f1;refine ⟨sl,?_,fun j hj=>C j (by omega),fun _ _=>rfl,f0.seq f1 x0.len x1.len⟩;rw [I (by decide)];exact hV.mono (by omega)
   ·simp only [if_neg g] at A D E ⊢
    have H:s.slots≤c.slots:=by rw [←B];exact E
    have hT:TyEs G V [.mk 5 xnum xtext xks xpos] [t]:=by rw [TyEs];exact ⟨_,[],rfl,hx,by rw [TyEs]⟩
    have f1:=dP hE hV H hT (fun q hq=>by rw [List.mem_singleton.1 hq];exact g) A (ExtI.add _ _ _) D (by rw [bP,bP];omega);have f2:=bS (m:=m) (P:=⟨[t],sl⟩) (q:=⟨[],sl⟩) A (x0.trans x1).len (ExtI.refl _) (uT (st:=[])) (by simp) (by decide);refine ⟨sl,?_,fun j hj=>C j (by have:(aA F v [.mk 5 xnum xtext xks xpos] (au 1 1 s)).slots≤(j:Int):=hj;omega),fun _ _=>rfl,f1.seq f2 (x0.trans x1).len (ExtI.add _ _ _).len⟩;rw [I (by decide)];exact hV.mono (by show s.slots≤(aA F v [.mk 5 xnum xtext xks xpos] (au 1 1 s)).slots;omega)
theorem eG (hE:EnvM m F G):∀(l:List St) (V:aR) (v:bf) (s:CS) (sl:Nat→Int),mE G c.result l V→KnS V v s.slots sl→(∀j:Nat,s.slots≤(j:Int)→sl j=0)→0≤s.slots→Fin' c s (aJ F l (v,s)).2 →
    (aJ F l (v,s)).2.texts.length≤m.texts.length→(aJ F l (v,s)).2.slots≤c.slots→bY l≤2100 →
    ∃sl',LeS ⟨[],sl'⟩ ⟨[],sl⟩∧BX c m s.ins.length (aJ F l (v,s)).2.ins.length sl sl' (bE l)
 | [],V,v,s,sl=>by
  intro _ _ _ _ _ _ _ _;rw [aJ];exact ⟨sl,LeS.refl _,Flow.nil (LeS.refl _)⟩
 | x :: l,V,v,s,sl=>by
  intro ht hV C h9 A D E p;rw [mE] at ht;rw [bY] at p;rw [aJ] at A D E ⊢;have x1:=rA F x v s;have x2:=eL F l (bL F x (v,s)).1 (bL F x (v,s)).2;have a1:=oe F x v s;have a2:Adds2 _ _ _ (bL F x (v,s)).2 (aJ F l (bL F x (v,s))).2:=aY F l (bL F x (v,s)).1 (bL F x (v,s)).2;obtain ⟨sl1,g1,g2,g3,g4⟩:=vq hE x V v s sl ht.1 hV C h9 (A.left x2) (Nat.le_trans a2.2.2.1 D) (by have:=a2.2.2.2.2.1;omega) (by omega);obtain ⟨sl2,k1,k2⟩:=eG hE l _ _ _ sl1 ht.2 g1 g2 (by have:=a1.2.2.2.2.1;omega) (A.right x1.len) D E (by omega);refine ⟨sl2,k1.trans (zI C g3),?_⟩
  have d:l≠[]→bE (x :: l)=bE l:=fun h=>by
   cases l with
   | nil=>exact absurd rfl h
   | cons y r=>rw [bE]
  have h6:l=[]→bE (x :: l)=endsS x:=fun h=>by rw [h,bE]
  unfold BX at g4 k2 ⊢;by_cases c1:endsS x=true
  ·rw [if_pos c1] at g4
   exact g4.dead x2.len
  ·rw [if_neg c1] at g4
   have hs:=g4.seq k2 x1.len x2.len;by_cases c2:l=[]
   ·rw [h6 c2,if_neg c1]
    subst c2;exact hs
   ·rw [d c2]
    exact hs
end
end
end
end Go.Proofs.YtmlgbkomdhcaoaaGreatDoor
