/-
  VerifyBuilt: part 2 of its proof: see the last text.
-/
import Derived.Test.YtmlgbkomdhcaoaaGreatDoorPv01
import Derived.Test.YtmlgbkomdhcaoaaGreatDoorPv00
import Derived.Deep.AppendLies
set_option maxRecDepth 100000
set_option maxHeartbeats 16000000
namespace Go.Proofs.YtmlgbkomdhcaoaaGreatDoor
section
open Go.RowKit
def LeS (s u:Sta):Prop:=s.st=u.st∧∀j,u.sl j≠0→s.sl j=u.sl j
theorem LeS.refl (s:Sta):LeS s s:=⟨rfl,fun _ _=>rfl⟩
theorem LeS.trans {a b c:Sta} (h:LeS a b) (g:LeS b c):LeS a c:=⟨h.1.trans g.1,fun j hj=>(h.2 j (by rw [g.2 j hj];exact hj)).trans (g.2 j hj)⟩
theorem LeS.merge {A s u:Sta} (h:LeS A u) (g:LeS s u):LeS ⟨A.st,de A.sl s.sl⟩ u:=⟨h.1,fun j hj=>by
  unfold de;dsimp only;rw [h.2 j hj,g.2 j hj,if_pos rfl]⟩
theorem mQ (c:Cd) (m:Mdl) (i:Ins) (st:List Int) (sl A:Nat→Int) (h5:i.op≠5) (h6:i.op≠6):aG c m i ⟨st,A⟩=(aG c m i ⟨st,sl⟩).map fun s=>⟨s.st,A⟩:=by
 have hp:∀want,dL want ⟨st,A⟩=(dL want ⟨st,sl⟩).map fun s=>⟨s.st,A⟩:=fun want=>by
  unfold dL;dsimp only;split<;>rfl
 have B:∀want t,(dL want ⟨st,A⟩).map (eO t)=((dL want ⟨st,sl⟩).map (eO t)).map fun s=>⟨s.st,A⟩:=fun want t=>by
  rw [hp]
  cases dL want ⟨st,sl⟩<;>rfl
 unfold aG;by_cases c0:i.op=1
 ·rw [if_pos c0,if_pos c0]
  split<;>rfl
 rw [if_neg c0,if_neg c0];by_cases c1:i.op=2∨i.op=3∨i.op=4∨i.op=5∨i.op=6∨i.op=17
 ·rw [if_pos c1,if_pos c1]
  unfold dH;dsimp only;rw [if_neg h5,if_neg h5,if_neg h6,if_neg h6];by_cases d1:i.op=2
  ·rw [if_pos d1,if_pos d1];rfl
  rw [if_neg d1,if_neg d1];by_cases d2:i.op=3
  ·rw [if_pos d2,if_pos d2];split<;>rfl
  rw [if_neg d2,if_neg d2];by_cases d3:i.op=4
  ·rw [if_pos d3,if_pos d3];split<;>rfl
  rw [if_neg d3,if_neg d3];split<;>rfl
 rw [if_neg c1,if_neg c1];by_cases c2:i.op=7
 ·rw [if_pos c2,if_pos c2]
  unfold sy;dsimp only;split
  ·split<;>rfl
  ·rfl
 rw [if_neg c2,if_neg c2];by_cases c3:i.op=8
 ·rw [if_pos c3,if_pos c3]
  unfold lM;split
  ·exact B _ _
  split
  ·exact B _ _
  ·rfl
 rw [if_neg c3,if_neg c3];by_cases c4:i.op=9
 ·rw [if_pos c4,if_pos c4]
  exact B _ _
 rw [if_neg c4,if_neg c4];by_cases c5:i.op=10
 ·rw [if_pos c5,if_pos c5]
  exact B _ _
 rw [if_neg c5,if_neg c5];by_cases c6:i.op=11
 ·rw [if_pos c6,if_pos c6]
  exact B _ _
 rw [if_neg c6,if_neg c6];by_cases c7:i.op=12
 ·rw [if_pos c7,if_pos c7]
  exact hp _
 rw [if_neg c7,if_neg c7];by_cases c8:i.op=13
 ·rw [if_pos c8,if_pos c8]
  exact hp _
 rw [if_neg c8,if_neg c8];by_cases c9:i.op=14
 ·rw [if_pos c9,if_pos c9]
  unfold nJ;split
  ·rw [hp]
   cases dL (m.codes.getD i.a.toNat default).params ⟨st,sl⟩ with
   | none=>rfl
   | some s =>
    dsimp only [Option.map];split<;>rfl
  ·rfl
 rw [if_neg c9,if_neg c9];by_cases c10:i.op=16
 ·rw [if_pos c10,if_pos c10]
  exact hp _
 rw [if_neg c10,if_neg c10];by_cases c11:i.op=18
 ·rw [if_pos c11,if_pos c11]
  unfold qD;split
  ·dsimp only [Option.bind]
   split<;>rfl
  ·rw [hp]
   cases dL [c.result] ⟨st,sl⟩ with
   | none=>rfl
   | some s =>
    dsimp only [Option.map,Option.bind];split<;>rfl
 rw [if_neg c11,if_neg c11];rfl
theorem vF {c:Cd} {m:Mdl} {i:Ins} {s u u':Sta} (h:LeS s u) (e:aG c m i u=some u'):∃s',aG c m i s=some s'∧LeS s' u':=by
 obtain ⟨st,sl⟩:=s;obtain ⟨st',sl'⟩:=u;obtain ⟨rfl,h2⟩:=h;dsimp only at h2;by_cases h5:i.op=5
 ·have e1:∀f,aG c m i ⟨st,f⟩=if inB i.a c.slots&&f i.a.toNat !=0 then some ⟨st++[f i.a.toNat],f⟩ else none:=fun f=>by
    unfold aG dH;simp [h5]
  rw [e1] at e ⊢;split at e
  ·rename_i q
   injection e with e
   subst e;have hq:sl' i.a.toNat≠0:=by simpa using (Bool.and_eq_true_iff.1 q).2
   rw [h2 _ hq,if_pos q];exact ⟨_,rfl,rfl,h2⟩
  ·cases e
 by_cases h6:i.op=6
 ·have e1:∀f,aG c m i ⟨st,f⟩=if decide (1≤st.length)&&inB i.a c.slots then some ⟨st.take (st.length-1),dS f i.a.toNat (st.getD (st.length-1) 0)⟩ else none:=fun f=>by
    unfold aG dH;simp [h6]
  rw [e1] at e ⊢;split at e
  ·rename_i q
   injection e with e
   subst e;rw [if_pos q];refine ⟨_,rfl,rfl,fun j hj=>?_⟩;unfold dS at hj ⊢;dsimp only at hj ⊢;split
   ·rfl
   ·rename_i q
    rw [if_neg q] at hj;exact h2 j hj
  ·cases e
 rw [mQ c m i st sl' sl h5 h6,e];refine ⟨_,rfl,rfl,fun j hj=>?_⟩;have e2:=mQ c m i st sl sl' h5 h6
 have e3:u'.sl=sl':=by
  have e4:=mQ c m i st sl' sl' h5 h6;rw [e] at e4;have:=Option.some.inj e4;rw [this]
 rw [e3] at hj ⊢;exact h2 j hj
theorem ox {c:Cd} {m:Mdl} {x:Ins} {u:Sta} (h:x.op=15):aG c m x u=some u:=by
 obtain ⟨o,a⟩:=x;have h:o=15:=h;subst h;rfl
def To (T:Tab) (lo hi:Nat) (Q:Option Sta) (tg:Int) (s:Sta):Prop:=(∃k w,tg=((k:Nat):Int)∧lo≤k∧k<hi∧T k=some w∧LeS s w)∨(tg=(hi:Int)∧∃q,Q=some q∧LeS s q)
def Fit (c:Cd) (m:Mdl) (T:Tab) (lo hi:Nat) (Q:Option Sta) (i:Nat) (u:Sta):Prop:=
 ∃s',aG c m (c.ins.getD i default) u=some s'∧s'.st.length≤2100∧∀tg,tg∈cT i (c.ins.getD i default)→To T lo hi Q tg s'
def Flow (c:Cd) (m:Mdl) (a b:Nat) (P:Sta) (Q:Option Sta):Prop:=∃T:Tab,(∀i u,a≤i→i<b→T i=some u→Fit c m T a b Q i u)∧To T a b Q a P
section
variable {c:Cd} {m:Mdl} {a b d:Nat} {P P' q q':Sta} {Q Q':Option Sta}
theorem To.le {T:Tab} {lo hi:Nat} {tg:Int} {s s':Sta} (h:To T lo hi Q tg s) (g:LeS s' s):To T lo hi Q tg s':=by
 rcases h with ⟨k,w,h1,h2,h3,h4,h5⟩ | ⟨h1,q,h2,h3⟩
 ·exact .inl ⟨k,w,h1,h2,h3,h4,g.trans h5⟩
 ·exact .inr ⟨h1,q,h2,g.trans h3⟩
theorem To.outq {T:Tab} {lo hi:Nat} {tg:Int} {s:Sta} (h:To T lo hi Q tg s) (hq:∀x,Q=some x→∃y,Q'=some y∧LeS x y):To T lo hi Q' tg s:=by
 rcases h with h | ⟨h1,q,h2,h3⟩
 ·exact .inl h
 ·obtain ⟨y,h4,h5⟩:=hq q h2
  exact .inr ⟨h1,y,h4,h3.trans h5⟩
theorem Flow.le (h:Flow c m a b P Q) (g:LeS P' P):Flow c m a b P' Q:=by
 obtain ⟨T,h1,h2⟩:=h;exact ⟨T,h1,h2.le g⟩
theorem Flow.outq (h:Flow c m a b P Q) (hq:∀x,Q=some x→∃y,Q'=some y∧LeS x y):Flow c m a b P Q':=by
 obtain ⟨T,h1,h2⟩:=h;refine ⟨T,fun i u x y z=>?_,h2.outq hq⟩;obtain ⟨s',e1,e2,e3⟩:=h1 i u x y z;exact ⟨s',e1,e2,fun tg ht=>(e3 tg ht).outq hq⟩
theorem Flow.weak (h:Flow c m a b P (some q)) (g:LeS q q'):Flow c m a b P (some q'):=h.outq fun x hx=>⟨q',rfl,by injection hx with hx;rw [←hx];exact g⟩
theorem Flow.any (h:Flow c m a b P none):Flow c m a b P Q:=h.outq fun x hx=>by cases hx
theorem Flow.nil (h:LeS P q):Flow c m a a P (some q):=⟨fun _=>none,fun _ _ _ _ h=>(by cases h),.inr ⟨rfl,q,rfl,h⟩⟩
theorem Flow.one {x:Ins} (hx:c.ins.getD a default=x) (hd:aG c m x P=some q) (hl:q.st.length≤2100) (ho:x.op≠18∧x.op≠15∧x.op≠16):Flow c m a (a+1) P (some q):=by
 refine ⟨upd (fun _=>none) a P,fun i u h1 h2 h3=>?_,.inl ⟨a,P,rfl,Nat.le_refl _,by omega,by unfold upd;rw [if_pos rfl],LeS.refl _⟩⟩;obtain rfl:i=a:=by omega
 unfold upd at h3;rw [if_pos rfl] at h3;injection h3 with h3
 subst h3;refine ⟨q,by rw [hx];exact hd,hl,fun tg ht=>.inr ⟨?_,q,rfl,LeS.refl _⟩⟩;rw [hx] at ht;unfold cT at ht;rw [if_neg ho.1,if_neg ho.2.1,if_neg ho.2.2] at ht;rw [List.mem_singleton.1 ht];omega
theorem Flow.stop {x:Ins} (hx:c.ins.getD a default=x) (hd:aG c m x P=some q) (hl:q.st.length≤2100) (ho:x.op=18):Flow c m a (a+1) P none:=by
 refine ⟨upd (fun _=>none) a P,fun i u h1 h2 h3=>?_,.inl ⟨a,P,rfl,Nat.le_refl _,by omega,by unfold upd;rw [if_pos rfl],LeS.refl _⟩⟩;obtain rfl:i=a:=by omega
 unfold upd at h3;rw [if_pos rfl] at h3;injection h3 with h3
 subst h3;refine ⟨q,by rw [hx];exact hd,hl,fun tg ht=>?_⟩;rw [hx] at ht;unfold cT at ht;rw [if_pos ho] at ht
 cases ht
theorem Flow.seq (h:Flow c m a b P (some q)) (g:Flow c m b d q Q) (B:a≤b) (A:b≤d):Flow c m a d P Q:=by
 obtain ⟨T1,h1,h2⟩:=h;obtain ⟨T2,g1,g2⟩:=g
 have up2:∀{tg:Int} {s:Sta},To T2 b d Q tg s→To (fun i=>if i<b then T1 i else T2 i) a d Q tg s:=fun h=>by
  rcases h with ⟨k,w,e1,e2,e3,e4,e5⟩ | h
  ·exact .inl ⟨k,w,e1,by omega,e3,by dsimp only;rw [if_neg (by omega)];exact e4,e5⟩
  ·exact .inr h
 have up1:∀{tg:Int} {s:Sta},To T1 a b (some q) tg s→To (fun i=>if i<b then T1 i else T2 i) a d Q tg s:=fun {tg s} h=>by
  rcases h with ⟨k,w,e1,e2,e3,e4,e5⟩ | ⟨e1,x,e2,e3⟩
  ·exact .inl ⟨k,w,e1,e2,by omega,by dsimp only;rw [if_pos e3];exact e4,e5⟩
  ·injection e2 with e2
   subst e2;rw [e1];exact up2 (g2.le e3)
 refine ⟨fun i=>if i<b then T1 i else T2 i,fun i u x y z=>?_,up1 h2⟩;dsimp only at z;by_cases e:i<b
 ·rw [if_pos e] at z
  obtain ⟨s',e1,e2,e3⟩:=h1 i u x e z;exact ⟨s',e1,e2,fun tg ht=>up1 (e3 tg ht)⟩
 ·rw [if_neg e] at z
  obtain ⟨s',e1,e2,e3⟩:=g1 i u (by omega) y z;exact ⟨s',e1,e2,fun tg ht=>up2 (e3 tg ht)⟩
theorem Flow.dead (h:Flow c m a b P none) (A:b≤d):Flow c m a d P Q:=by
 obtain ⟨T1,h1,h2⟩:=h
 have up1:∀{tg:Int} {s:Sta},To T1 a b none tg s→To (fun i=>if i<b then T1 i else none) a d Q tg s:=fun {tg s} h=>by
  rcases h with ⟨k,w,e1,e2,e3,e4,e5⟩ | ⟨_,x,e2,_⟩
  ·exact .inl ⟨k,w,e1,e2,by omega,by dsimp only;rw [if_pos e3];exact e4,e5⟩
  ·cases e2
 refine ⟨fun i=>if i<b then T1 i else none,fun i u x y z=>?_,up1 h2⟩;dsimp only at z;by_cases e:i<b
 ·rw [if_pos e] at z
  obtain ⟨s',e1,e2,e3⟩:=h1 i u x e z;exact ⟨s',e1,e2,fun tg ht=>up1 (e3 tg ht)⟩
 ·rw [if_neg e] at z
  cases z
theorem Flow.fork {p e:Nat} {R:Sta} {Q1:Option Sta} {x:Ins} (hx:c.ins.getD p default=x) (ho:x.op=16) (ha:x.a=(e:Int)) (hd:aG c m x P=some R) (hl:R.st.length≤2100) (A:p+1≤b) (C:b≤e) (B:e≤d)
    (h1:Flow c m (p+1) b R Q1) (h2:Flow c m e d R Q)
    (hj:∀r,Q1=some r→b<e∧(c.ins.getD b default).op=15∧(c.ins.getD b default).a=(d:Int)∧r.st.length≤2100∧∃y,Q=some y∧LeS r y):Flow c m p d P Q:=by
 obtain ⟨T1,f1,f2⟩:=h1;obtain ⟨T2,g1,g2⟩:=h2;let T:Tab:=fun i=>if i=p then some P else if i<b then T1 i else if e≤i then T2 i else if i=b then Q1 else none
 have tp:T p=some P:=if_pos rfl
 have t1:∀k,p+1≤k→k<b→T k=T1 k:=fun k h1 h2=>by
  show (if k=p then some P else if k<b then T1 k else if e≤k then T2 k else if k=b then Q1 else none)=_
  rw [if_neg (by omega),if_pos h2]
 have t2:∀k,e≤k→T k=T2 k:=fun k h1=>by
  show (if k=p then some P else if k<b then T1 k else if e≤k then T2 k else if k=b then Q1 else none)=_
  rw [if_neg (by omega),if_neg (by omega),if_pos h1]
 have tb:b<e→T b=Q1:=fun h1=>by
  show (if b=p then some P else if b<b then T1 b else if e≤b then T2 b else if b=b then Q1 else none)=_
  rw [if_neg (by omega),if_neg (by omega),if_neg (by omega),if_pos rfl]
 have up2:∀{tg:Int} {s:Sta},To T2 e d Q tg s→To T p d Q tg s:=fun h=>by
  rcases h with ⟨k,w,e1,e2,e3,e4,e5⟩ | h
  ·exact .inl ⟨k,w,e1,by omega,e3,(t2 k e2).trans e4,e5⟩
  ·exact .inr h
 have up1:∀{tg:Int} {s:Sta},To T1 (p+1) b Q1 tg s→To T p d Q tg s:=fun {tg s} h=>by
  rcases h with ⟨k,w,e1,e2,e3,e4,e5⟩ | ⟨e1,r,e2,e3⟩
  ·exact .inl ⟨k,w,e1,by omega,by omega,(t1 k e2 e3).trans e4,e5⟩
  ·obtain ⟨k1,_,_,_,_⟩:=hj r e2
   exact .inl ⟨b,r,e1,by omega,by omega,(tb k1).trans e2,e3⟩
 refine ⟨T,fun i u x1 y1 z=>?_,.inl ⟨p,P,rfl,Nat.le_refl _,by omega,tp,LeS.refl _⟩⟩;by_cases c1:i=p
 ·subst c1
  rw [tp] at z;injection z with z
  subst z;refine ⟨R,by rw [hx];exact hd,hl,fun tg ht=>?_⟩;rw [hx] at ht;unfold cT at ht;rw [if_neg (by omega),if_neg (by omega),if_pos ho,ha] at ht;rcases List.mem_cons.1 ht with rfl | ht
  ·exact up2 g2
  ·rw [List.mem_singleton.1 ht]
   exact up1 (by simpa using f2)
 by_cases c2:i<b
 ·rw [t1 i (by omega) c2] at z
  obtain ⟨s',e1,e2,e3⟩:=f1 i u (by omega) c2 z;exact ⟨s',e1,e2,fun tg ht=>up1 (e3 tg ht)⟩
 by_cases c3:e≤i
 ·rw [t2 i c3] at z
  obtain ⟨s',e1,e2,e3⟩:=g1 i u c3 y1 z;exact ⟨s',e1,e2,fun tg ht=>up2 (e3 tg ht)⟩
 by_cases c4:i=b
 ·subst c4
  rw [tb (by omega)] at z;obtain ⟨_,k2,k3,k4,y,k5,k6⟩:=hj u z;refine ⟨u,ox k2,k4,fun tg ht=>?_⟩
  ·unfold cT at ht
   rw [if_neg (by omega),if_pos k2,k3] at ht;rw [List.mem_singleton.1 ht];exact .inr ⟨rfl,y,k5,k6⟩
 ·have:T i=none:=by
    show (if i=p then some P else if i<b then T1 i else if e≤i then T2 i else if i=b then Q1 else none)=_
    rw [if_neg c1,if_neg c2,if_neg c3,if_neg c4]
  rw [this] at z
  cases z
theorem Flow.round {p:Nat} {R S:Sta} {Q1:Option Sta} {x:Ins} (hx:c.ins.getD p default=x) (ho:x.op=16) (ha:x.a=(d:Int)) (hd:aG c m x S=some R) (hl:R.st.length≤2100) (D:a≤p) (B:p+1≤b) (C:b+1=d)
    (h1:Flow c m a p P (some S)) (h2:Flow c m (p+1) b R Q1) (hR:LeS R q)
    (hj:∀r,Q1=some r→(c.ins.getD b default).op=15∧(c.ins.getD b default).a=(a:Int)∧r.st.length≤2100∧LeS r P):Flow c m a d P (some q):=by
 obtain ⟨T1,f1,f2⟩:=h1;obtain ⟨T2,g1,g2⟩:=h2;let T:Tab:=fun i=>if i<p then T1 i else if i=p then some S else if i<b then T2 i else if i=b then Q1 else none
 have t1:∀k,k<p→T k=T1 k:=fun k h=>if_pos h
 have tp:T p=some S:=by
  show (if p<p then T1 p else if p=p then some S else if p<b then T2 p else if p=b then Q1 else none)=_
  rw [if_neg (by omega),if_pos rfl]
 have t2:∀k,p+1≤k→k<b→T k=T2 k:=fun k h1 h2=>by
  show (if k<p then T1 k else if k=p then some S else if k<b then T2 k else if k=b then Q1 else none)=_
  rw [if_neg (by omega),if_neg (by omega),if_pos h2]
 have tb:T b=Q1:=by
  show (if b<p then T1 b else if b=p then some S else if b<b then T2 b else if b=b then Q1 else none)=_
  rw [if_neg (by omega),if_neg (by omega),if_neg (by omega),if_pos rfl]
 have up1:∀{tg:Int} {s:Sta},To T1 a p (some S) tg s→To T a d (some q) tg s:=fun {tg s} h=>by
  rcases h with ⟨k,w,e1,e2,e3,e4,e5⟩ | ⟨e1,r,e2,e3⟩
  ·exact .inl ⟨k,w,e1,e2,by omega,(t1 k e3).trans e4,e5⟩
  ·injection e2 with e2
   subst e2;exact .inl ⟨p,S,e1,by omega,by omega,tp,e3⟩
 have up2:∀{tg:Int} {s:Sta},To T2 (p+1) b Q1 tg s→To T a d (some q) tg s:=fun {tg s} h=>by
  rcases h with ⟨k,w,e1,e2,e3,e4,e5⟩ | ⟨e1,r,e2,e3⟩
  ·exact .inl ⟨k,w,e1,by omega,by omega,(t2 k e2 e3).trans e4,e5⟩
  ·exact .inl ⟨b,r,e1,by omega,by omega,tb.trans e2,e3⟩
 have A:To T a d (some q) a P:=up1 f2;refine ⟨T,fun i u x1 y1 z=>?_,A⟩;by_cases c1:i<p
 ·rw [t1 i c1] at z
  obtain ⟨s',e1,e2,e3⟩:=f1 i u x1 c1 z;exact ⟨s',e1,e2,fun tg ht=>up1 (e3 tg ht)⟩
 by_cases c2:i=p
 ·subst c2
  rw [tp] at z;injection z with z
  subst z;refine ⟨R,by rw [hx];exact hd,hl,fun tg ht=>?_⟩;rw [hx] at ht;unfold cT at ht;rw [if_neg (by omega),if_neg (by omega),if_pos ho,ha] at ht;rcases List.mem_cons.1 ht with rfl | ht
  ·exact .inr ⟨rfl,q,rfl,hR⟩
  ·rw [List.mem_singleton.1 ht]
   exact up2 (by simpa using g2)
 by_cases c3:i<b
 ·rw [t2 i (by omega) c3] at z
  obtain ⟨s',e1,e2,e3⟩:=g1 i u (by omega) c3 z;exact ⟨s',e1,e2,fun tg ht=>up2 (e3 tg ht)⟩
 ·obtain rfl:i=b:=by omega
  rw [tb] at z;obtain ⟨k2,k3,k4,k5⟩:=hj u z;refine ⟨u,ox k2,k4,fun tg ht=>?_⟩
  ·unfold cT at ht
   rw [if_neg (by omega),if_pos k2,k3] at ht;rw [List.mem_singleton.1 ht];exact A.le k5
end
def uX (t:Tab) (T:Tab) (n:Nat):Prop:=∀i s,t i=some s→i<n∧∃u,T i=some u∧LeS s u
theorem qG {n:Nat} {T:Tab} {s:Sta} {tg:Int} {x:Tab×List Nat} (ho:uX x.1 T n) (hp:∀k,k∈x.2→(x.1 k).isSome) (ht:∃k u,tg=((k:Nat):Int)∧k<n∧T k=some u∧LeS s u) :
    ∃y,ej n s tg x=some y∧uX y.1 T n∧∀k,k∈y.2→(y.1 k).isSome:=by
 obtain ⟨k,u,rfl,hk,hu,hs⟩:=ht;unfold ej;have hb:inB (k:Int) n=true:=by simp [inB];omega
 rw [if_pos hb];have e:((k:Int)).toNat=k:=by omega
 rw [e]
 have B:∀(v:Sta),LeS v u→uX (upd x.1 k v) T n:=fun v hv i w hw=>by
  unfold upd at hw;by_cases q:i=k
  ·rw [if_pos q] at hw
   injection hw with hw
   subst hw;rw [q];exact ⟨hk,u,hu,hv⟩
  ·rw [if_neg q] at hw
   exact ho i w hw
 have D:∀(v:Sta) (j:Nat),j∈x.2++[k]→(upd x.1 k v j).isSome:=fun v j hj=>by
  unfold upd;by_cases q:j=k
  ·rw [if_pos q];rfl
  ·rw [if_neg q]
   rcases List.mem_append.1 hj with h | h
   ·exact hp j h
   ·exact absurd (List.mem_singleton.1 h) q
 cases hx:x.1 k with
 | none=>exact ⟨_,rfl,B s hs,D s⟩
 | some old =>
  obtain ⟨_,u2,C,A⟩:=ho k old hx;obtain rfl:u=u2:=by rw [hu] at C;injection C
  dsimp only;rw [if_pos (A.1.trans hs.1.symm)];refine ⟨_,rfl,B _ (A.merge hs),fun j hj=>?_⟩;refine D _ j ?_;dsimp only at hj;split at hj
  ·exact hj
  ·exact List.mem_append_left _ hj
theorem lB {n:Nat} {T:Tab} {s:Sta}:∀(l:List Int) {x:Tab×List Nat},uX x.1 T n→(∀k,k∈x.2→(x.1 k).isSome)→(∀tg,tg∈l→∃k u,tg=((k:Nat):Int)∧k<n∧T k=some u∧LeS s u) →
    ∃y,eJ n s l x=some y∧uX y.1 T n∧∀k,k∈y.2→(y.1 k).isSome
 | [],x,h1,h2,_=>⟨x,rfl,h1,h2⟩
 | t :: l,x,h1,h2,h3=>by
  obtain ⟨y,e1,e2,e3⟩:=qG h1 h2 (h3 t (List.mem_cons_self ..));obtain ⟨z,g1,g2,g3⟩:=lB l e2 e3 fun tg ht=>h3 tg (List.mem_cons_of_mem _ ht);refine ⟨z,?_,g2,g3⟩;unfold eJ;rw [e1];exact g1
theorem un {c:Cd} {m:Mdl} {T:Tab} (hT:∀i u,i<c.ins.length→T i=some u→Fit c m T 0 c.ins.length none i u):∀(N:Nat) (x:Tab×List Nat),mu c.ins.length x≤N→x.2≠[]→uX x.1 T c.ins.length→(∀k,k∈x.2→(x.1 k).isSome)→Done (fo c m) x true:=by
 intro N;induction N with
 | zero =>
  intro x hN B _ _;unfold mu at hN;have:0<x.2.length:=List.length_pos_iff.2 B;omega
 | succ N ih =>
  intro x hN B ho hp;have hl:x.2.getLast?=some (x.2.getLast B):=List.getLast?_eq_some_getLast B;generalize F:x.2.getLast B=p at hl;have C:p∈x.2:=by rw [←F];exact List.getLast_mem B
  obtain ⟨s,hs⟩:=Option.isSome_iff_exists.1 (hp p C);obtain ⟨G,u,hu,E⟩:=ho p s hs;obtain ⟨u',d1,d2,d3⟩:=hT p u G hu;obtain ⟨s',e1,e2⟩:=vF E d1;have D:¬2100<s'.st.length:=by rw [e2.1];omega
  have H:∀k,k∈x.2.dropLast→(x.1 k).isSome:=fun k hk=>hp k ((List.dropLast_sublist _).subset hk)
  obtain ⟨y,g1,g2,g3⟩:=lB (n:=c.ins.length) (T:=T) (s:=s') (cT p (c.ins.getD p default)) (x:=(x.1,x.2.dropLast)) ho H fun tg ht=>by
   rcases d3 tg ht with ⟨k,w,q1,_,q3,q4,q5⟩ | ⟨_,z,q2,_⟩
   ·exact ⟨k,w,q1,q3,q4,e2.trans q5⟩
   ·cases q2
  have A:fo c m x=if y.2=[] then .inr true else .inl y:=by
   unfold fo;rw [hl];dsimp only;rw [hs];dsimp only;rw [e1];dsimp only;rw [if_neg D,g1]
  by_cases hy:y.2=[]
  ·rw [if_pos hy] at A
   exact .stop A
  ·rw [if_neg hy] at A
   refine .step A (ih y ?_ hy g2 g3);have h1:=oM _ g1
   have h2:mu c.ins.length (x.1,x.2.dropLast)+1≤mu c.ins.length x:=by
    unfold mu;have:0<x.2.length:=List.length_pos_iff.2 B;simp only [List.length_dropLast]
    omega
   omega
theorem ul {c:Cd} {m:Mdl} (h:Flow c m 0 c.ins.length ⟨[],fun j=>c.params.getD j 0⟩ none):SafeIs c m true:=by
 obtain ⟨T,h1,h2⟩:=h;unfold SafeIs;rcases h2 with ⟨k,w,e1,_,e3,e4,e5⟩ | ⟨_,x,e2,_⟩
 ·obtain rfl:k=0:=by omega
  rw [if_neg (by omega)];refine un (T:=T) (fun i u hi hu=>h1 i u (Nat.zero_le _) hi hu) _ _ (Nat.le_refl _) (by simp) (fun i s hs=>?_) fun k hk=>?_
  ·unfold jM upd at hs
   dsimp only at hs;by_cases q:i=0
   ·rw [if_pos q] at hs
    injection hs with hs
    subst hs;rw [q];exact ⟨e3,w,e4,e5⟩
   ·rw [if_neg q] at hs
    cases hs
  ·obtain rfl:=List.mem_singleton.1 hk
   unfold jM upd;rfl
 ·cases e2
end
section
open Go.RowKit
theorem ae {w:World} {b:Nat} {o:Obj} (h:w.heap[b]?=some o):b<w.heap.size:=(Array.getElem?_eq_some_iff.1 h).1
theorem ah (W:World) (o:Obj):(W.alloc o).heap.size=W.heap.size+1:=by
 show (W.heap.push o).size=_
 simp
theorem am (W:World) (o:Obj) (h:Nat) (hh:W.heap.size=h):(W.alloc o).heap[h]?=some o:=by
 subst hh;show (W.heap.push _)[W.heap.size]?=_
 simp
theorem az (W:World) (o o':Obj) (h:Nat) (hh:W.heap[h]?=some o):(W.alloc o').heap[h]?=some o:=by
 rw [Below.heap_alloc _ _ _ (ae hh)];exact hh
theorem aw (W:World) (A:Array Value) (t:TypeId) (n i:Nat) (u:Value) (hn:W.heap.size=n) (hu:A[i]?=some u):(W.alloc (.cells A t)).cell? ⟨n,i,none⟩=some u:=by
 have h:=am W (.cells A t) n hn;unfold World.cell?;simp only [h]
 exact hu
theorem ak {w:World} {c o:Nat} {u:Value} (b:Obj) (h:w.cell? ⟨c,o,none⟩=some u):(w.alloc b).cell? ⟨c,o,none⟩=some u:=by
 rw [World.cell?_alloc_old _ _ _ (fun e=>World.new_ne w _ h e.symm)];exact h
theorem af {w:World} {k:Nat} {A:Array Value} {t:TypeId} (h:w.heap[k]?=some (.cells A t (0,0))) (j:Nat):w.frozen? ⟨k,j,none⟩=false:=by simp [World.frozen?,h]
theorem aa {w:World} {k:Nat} {A:Array Value} {t:TypeId} {fz:Nat×Nat} (h:w.heap[k]?=some (.cells A t fz)) {j:Nat} {u:Value} (hu:A[j]?=some u):w.cell? ⟨k,j,none⟩=some u:=by
 unfold World.cell?;simp only [h]
 exact hu
def Cs (w:World) (b:Nat):List Value→Prop
 | [x0]=>w.cell? ⟨b,0,none⟩=some x0∧True
 | [x0,x1]=>w.cell? ⟨b,0,none⟩=some x0∧w.cell? ⟨b,1,none⟩=some x1∧True
 | [x0,x1,x2]=>w.cell? ⟨b,0,none⟩=some x0∧w.cell? ⟨b,1,none⟩=some x1∧w.cell? ⟨b,2,none⟩=some x2∧True
 | [x0,x1,x2,x3]=>w.cell? ⟨b,0,none⟩=some x0∧w.cell? ⟨b,1,none⟩=some x1∧w.cell? ⟨b,2,none⟩=some x2∧w.cell? ⟨b,3,none⟩=some x3∧True
 | [x0,x1,x2,x3,x4]=>w.cell? ⟨b,0,none⟩=some x0∧w.cell? ⟨b,1,none⟩=some x1∧w.cell? ⟨b,2,none⟩=some x2∧w.cell? ⟨b,3,none⟩=some x3∧w.cell? ⟨b,4,none⟩=some x4∧True
 | [x0,x1,x2,x3,x4,x5]=>w.cell? ⟨b,0,none⟩=some x0∧w.cell? ⟨b,1,none⟩=some x1∧w.cell? ⟨b,2,none⟩=some x2∧w.cell? ⟨b,3,none⟩=some x3∧w.cell? ⟨b,4,none⟩=some x4∧w.cell? ⟨b,5,none⟩=some x5∧True
 | [x0,x1,x2,x3,x4,x5,x6]=>w.cell? ⟨b,0,none⟩=some x0∧w.cell? ⟨b,1,none⟩=some x1∧w.cell? ⟨b,2,none⟩=some x2∧w.cell? ⟨b,3,none⟩=some x3∧w.cell? ⟨b,4,none⟩=some x4∧w.cell? ⟨b,5,none⟩=some x5∧w.cell? ⟨b,6,none⟩=some x6∧True
 | [x0,x1,x2,x3,x4,x5,x6,x7]=>w.cell? ⟨b,0,none⟩=some x0∧w.cell? ⟨b,1,none⟩=some x1∧w.cell? ⟨b,2,none⟩=some x2∧w.cell? ⟨b,3,none⟩=some x3∧w.cell? ⟨b,4,none⟩=some x4∧w.cell? ⟨b,5,none⟩=some x5∧w.cell? ⟨b,6,none⟩=some x6∧w.cell? ⟨b,7,none⟩=some x7∧True
 | [x0,x1,x2,x3,x4,x5,x6,x7,x8]=>w.cell? ⟨b,0,none⟩=some x0∧w.cell? ⟨b,1,none⟩=some x1∧w.cell? ⟨b,2,none⟩=some x2∧w.cell? ⟨b,3,none⟩=some x3∧w.cell? ⟨b,4,none⟩=some x4∧w.cell? ⟨b,5,none⟩=some x5∧w.cell? ⟨b,6,none⟩=some x6∧w.cell? ⟨b,7,none⟩=some x7∧w.cell? ⟨b,8,none⟩=some x8∧True
 | [x0,x1,x2,x3,x4,x5,x6,x7,x8,x9]=>w.cell? ⟨b,0,none⟩=some x0∧w.cell? ⟨b,1,none⟩=some x1∧w.cell? ⟨b,2,none⟩=some x2∧w.cell? ⟨b,3,none⟩=some x3∧w.cell? ⟨b,4,none⟩=some x4∧w.cell? ⟨b,5,none⟩=some x5∧w.cell? ⟨b,6,none⟩=some x6∧w.cell? ⟨b,7,none⟩=some x7∧w.cell? ⟨b,8,none⟩=some x8∧w.cell? ⟨b,9,none⟩=some x9∧True
 | [x0,x1,x2,x3,x4,x5,x6,x7,x8,x9,x10]=>w.cell? ⟨b,0,none⟩=some x0∧w.cell? ⟨b,1,none⟩=some x1∧w.cell? ⟨b,2,none⟩=some x2∧w.cell? ⟨b,3,none⟩=some x3∧w.cell? ⟨b,4,none⟩=some x4∧w.cell? ⟨b,5,none⟩=some x5∧w.cell? ⟨b,6,none⟩=some x6∧w.cell? ⟨b,7,none⟩=some x7∧w.cell? ⟨b,8,none⟩=some x8∧w.cell? ⟨b,9,none⟩=some x9∧w.cell? ⟨b,10,none⟩=some x10∧True
 | [x0,x1,x2,x3,x4,x5,x6,x7,x8,x9,x10,x11]=>w.cell? ⟨b,0,none⟩=some x0∧w.cell? ⟨b,1,none⟩=some x1∧w.cell? ⟨b,2,none⟩=some x2∧w.cell? ⟨b,3,none⟩=some x3∧w.cell? ⟨b,4,none⟩=some x4∧w.cell? ⟨b,5,none⟩=some x5∧w.cell? ⟨b,6,none⟩=some x6∧w.cell? ⟨b,7,none⟩=some x7∧w.cell? ⟨b,8,none⟩=some x8∧w.cell? ⟨b,9,none⟩=some x9∧w.cell? ⟨b,10,none⟩=some x10∧w.cell? ⟨b,11,none⟩=some x11∧True
 | _=>True
theorem css {w:World} {b:Nat} {A:Array Value} {t:TypeId} {fz:Nat×Nat} (h:w.heap[b]?=some (.cells A t fz)):Cs w b A.toList:=by
 obtain ⟨l⟩:=A;match l,h with
 | [_],h=>exact ⟨aa h rfl,trivial⟩
 | [_,_],h=>exact ⟨aa h rfl,aa h rfl,trivial⟩
 | [_,_,_],h=>exact ⟨aa h rfl,aa h rfl,aa h rfl,trivial⟩
 | [_,_,_,_],h=>exact ⟨aa h rfl,aa h rfl,aa h rfl,aa h rfl,trivial⟩
 | [_,_,_,_,_],h=>exact ⟨aa h rfl,aa h rfl,aa h rfl,aa h rfl,aa h rfl,trivial⟩
 | [_,_,_,_,_,_],h=>exact ⟨aa h rfl,aa h rfl,aa h rfl,aa h rfl,aa h rfl,aa h rfl,trivial⟩
 | [_,_,_,_,_,_,_],h=>exact ⟨aa h rfl,aa h rfl,aa h rfl,aa h rfl,aa h rfl,aa h rfl,aa h rfl,trivial⟩
 | [_,_,_,_,_,_,_,_],h=>exact ⟨aa h rfl,aa h rfl,aa h rfl,aa h rfl,aa h rfl,aa h rfl,aa h rfl,aa h rfl,trivial⟩
 | [_,_,_,_,_,_,_,_,_],h=>exact ⟨aa h rfl,aa h rfl,aa h rfl,aa h rfl,aa h rfl,aa h rfl,aa h rfl,aa h rfl,aa h rfl,trivial⟩
 | [_,_,_,_,_,_,_,_,_,_],h=>exact ⟨aa h rfl,aa h rfl,aa h rfl,aa h rfl,aa h rfl,aa h rfl,aa h rfl,aa h rfl,aa h rfl,aa h rfl,trivial⟩
 | [_,_,_,_,_,_,_,_,_,_,_],h=>exact ⟨aa h rfl,aa h rfl,aa h rfl,aa h rfl,aa h rfl,aa h rfl,aa h rfl,aa h rfl,aa h rfl,aa h rfl,aa h rfl,trivial⟩
 | [_,_,_,_,_,_,_,_,_,_,_,_],h=>exact ⟨aa h rfl,aa h rfl,aa h rfl,aa h rfl,aa h rfl,aa h rfl,aa h rfl,aa h rfl,aa h rfl,aa h rfl,aa h rfl,aa h rfl,trivial⟩
 | [],_=>exact trivial
 | _ :: _ :: _ :: _ :: _ :: _ :: _ :: _ :: _ :: _ :: _ :: _ :: _ :: _,_=>exact trivial
theorem fzs {w:World} {b:Nat} {A:Array Value} {t:TypeId} (h:w.heap[b]?=some (.cells A t (0,0))):w.frozen? ⟨b,0,none⟩=false∧w.frozen? ⟨b,1,none⟩=false∧w.frozen? ⟨b,2,none⟩=false∧w.frozen? ⟨b,3,none⟩=false∧w.frozen? ⟨b,4,none⟩=false∧w.frozen? ⟨b,5,none⟩=false∧w.frozen? ⟨b,6,none⟩=false∧w.frozen? ⟨b,7,none⟩=false∧w.frozen? ⟨b,8,none⟩=false∧w.frozen? ⟨b,9,none⟩=false∧w.frozen? ⟨b,10,none⟩=false∧w.frozen? ⟨b,11,none⟩=false∧True:=⟨af h 0,af h 1,af h 2,af h 3,af h 4,af h 5,af h 6,af h 7,af h 8,af h 9,af h 10,af h 11,trivial⟩
theorem aj (w:World) (p:Addr) (u:Value) (b:Nat) (h:b≠p.block):(w.setCell p u).heap[b]?=w.heap[b]?:=Below.heap_setCell w p u b h
theorem aC (w:World) (p:Addr) (u:Value):(w.setCell p u).heap.size=w.heap.size:=by simp [World.setCell]
theorem qL {W:World} {b j:Nat} {t:TypeId} {v:Value} (h:∃arr,W.heap[b]?=some (.cells arr t (0,0))):∃arr,(W.setCell ⟨b,j,none⟩ v).heap[b]?=some (.cells arr t (0,0)):=by
 obtain ⟨a,h⟩:=h;refine ⟨a.setIfInBounds j v,?_⟩;show (W.heap.modify b _)[b]?=_
 rw [Array.getElem?_modify,if_pos rfl,h];rfl
def On (k:Nat) (w w':World):Prop:=w.grownBy w' (some k)
theorem On.refl (k:Nat) (w:World):On k w w:=⟨rfl,rfl,rfl,Nat.le_refl _,fun _ _ _=>rfl⟩
theorem On.trans {k:Nat} {a b c:World} (h:On k a b) (g:On k b c):On k a c:=
 ⟨g.os.trans h.os,g.tape.trans h.tape,g.output.trans h.output,Nat.le_trans h.size g.size,fun i hi A=>(g.block i (Nat.lt_of_lt_of_le hi h.size) A).trans (h.block i hi A)⟩
theorem On.of_below {k:Nat} {a b:World} (h:Below a.heap.size a b):On k a b:=⟨h.os,h.tape,h.output,h.size,fun i hi _=>h.block i hi⟩
theorem On.drewN {k:Nat} {a b:World} (h:On k a b) (n:Nat):On k a (b.drewN n):=⟨h.os,h.tape,h.output,h.size,h.block⟩
theorem On.drew {k:Nat} {a b:World} (h:On k a b):On k a b.drew:=⟨h.os,h.tape,h.output,h.size,h.block⟩
theorem On.set {k:Nat} {a b:World} (h:On k a b) (j:Nat) (u:Value):On k a (b.setCell ⟨k,j,none⟩ u):=
 ⟨h.os,h.tape,h.output,by simpa [World.setCell] using h.size,fun i hi A=>(Below.heap_setCell b ⟨k,j,none⟩ u i (fun e=>A (by rw [e]))).trans (h.block i hi A)⟩
theorem On.alloc {k:Nat} {a b:World} (h:On k a b) (o:Obj):On k a (b.alloc o):=h.trans (On.of_below (ag (Below.refl _ _) o))
theorem On.cell {k:Nat} {a b:World} (h:On k a b) {c o:Nat} {u:Value} (A:c≠k) (hc:a.cell? ⟨c,o,none⟩=some u):b.cell? ⟨c,o,none⟩=some u:=
 (World.cell?_of_block (w:=a) (h.block c (ax hc) (fun e=>A (by injection e)))).trans hc
theorem On.obj {k k':Nat} {w w':World} {o:Obj} (h:On k w w') (A:k'≠k) (ho:w.heap[k']?=some o):w'.heap[k']?=some o:=
 (h.block k' (ae ho) (fun e=>A (by injection e))).trans ho
theorem On.base {k:Nat} {B w w':World} (h:On k w w') (hB:Below B.heap.size B w) (hk:B.heap.size≤k):Below B.heap.size B w':=
 ⟨h.os.trans hB.os,h.tape.trans hB.tape,h.output.trans hB.output,Nat.le_trans hB.size h.size,fun i hi=>(h.block i (Nat.lt_of_lt_of_le hi hB.size) (fun e=>by injection e with e;omega)).trans (hB.block i hi)⟩
theorem kw {w:World} {b o:Nat} {u:Value} (ob:Obj) (hc:w.cell? ⟨b,o,none⟩=some u):(w.alloc ob).drew.cell? ⟨b,o,none⟩=some u:=ak ob hc
theorem kD {w:World} {b:Nat} {q:Obj} (o:Obj) (hc:w.heap[b]?=some q):(w.alloc o).drew.heap[b]?=some q:=az _ _ _ _ hc
theorem iB {W:World} {e s base:Nat}:W.ownsRow base e s (.slice none 0 0) 0 []:=⟨by simp,.inl ⟨rfl,rfl⟩⟩
theorem bh {W:World} {base e s:Nat} {v:Value} {n:Nat} {xs:List Value} (h:W.ownsRow base e s v n xs):∃s0 cap,v=.slice s0 n cap∧n≤cap∧cap≤maxLen∧(s0=none→cap=0)∧(0<n→∃g,s0=some ⟨g,0,none⟩∧base≤g∧g<W.heap.size∧∀j u,xs[j]?=some u→W.cell? ⟨g,j,none⟩=some u):=by
 rcases h.2 with ⟨q,q2⟩ | ⟨g,cap,cur,rfl,hg,hh,A,hm,_⟩
 ·subst q2
  exact ⟨none,0,q,Nat.le_refl _,Nat.zero_le _,fun _=>rfl,fun h0=>absurd h0 (by omega)⟩
 ·refine ⟨_,cap,rfl,A,hm,fun e=>(by cases e),fun _=>⟨g,rfl,hg,ae hh,fun j u hj=>?_⟩⟩
  have:=World.ownsRow.cells h (g:=g) rfl j u hj;rwa [Go.WideShapes.add_plain,Nat.zero_add] at this
end
end Go.Proofs.YtmlgbkomdhcaoaaGreatDoor
