/-
  VerifyBuilt: part 18 of its proof: see the last text.
-/
import Derived.Test.YtmlgbkomdhcaoaaGreatDoorPv03
import Derived.Test.YtmlgbkomdhcaoaaGreatDoorPv01
import Derived.Test.YtmlgbkomdhcaoaaGreatDoorPv17
set_option maxRecDepth 100000
set_option maxHeartbeats 16000000
namespace Go.Proofs.YtmlgbkomdhcaoaaGreatDoor
section
open Go.RowKit
structure CS where
 ins:List Ins
 slots:Int
 texts:List ByteArray
abbrev bf:=List (ByteArray×Int)
def au (o a:Int) (s:CS):CS:=⟨s.ins++[⟨o,a⟩],s.slots,s.texts⟩
def bW (A:Nat) (s:CS):CS:=⟨s.ins.set A ⟨(s.ins.getD A default).op,s.ins.length⟩,s.slots,s.texts⟩
def bw (s:CS):CS:=⟨s.ins,s.slots+1,s.texts⟩
def dR:List ByteArray→ByteArray→Nat
 | [],_=>0
 | t :: l,s=>if t=s then 0 else dR l s+1
def lL:List ByteArray→ByteArray→Bool
 | [],_=>false
 | x :: l,s=>if x=s then true else lL l s
def cR (t:ByteArray) (s:CS):CS:=if lL s.texts t then s else ⟨s.ins,s.slots,s.texts++[t]⟩
def ba:List Fn→ByteArray→Nat
 | [],_=>0
 | f :: l,s=>if f.name=s then 0 else ba l s+1
def fH (F:List Fn) (s:ByteArray):Int:=(F.getD (ba F s) default).result
def signNames:List (List UInt8):=[[],[43],[45],[42],[47],[37],[60],[60,61],[62],[62,61],[61,61],[33,61],[33]]
def cP (s:List UInt8):Int:=((signNames.findIdx? (·==s)).getD 0:Nat)
def lZ (n:Int):Int:=if n=1 then 1 else 0
def ms (t:List UInt8):Bool:=t==[38,38]
def orB (t:List UInt8):Bool:=t==[124,124]
mutual
def bB (F:List Fn) (v:bf):Ex→CS→CS
 | .mk op num text ks _,s =>
  let s:=au 1 1 s
  if (ms text.toList || orB text.toList)&&op==6 then cq F v (ms text.toList) ks s
  else
   let s:=aA F v ks s
   if op=1 then au 2 num s
   else if op=2 then au 3 (lZ num) s
   else if op=3 then let s:=cR text s;au 4 (dR s.texts text) s
   else if op=4 then au 5 ((aI v text).getD 0) s
   else if op=5 then au 14 (ba F text) s
   else if op=6 then au 7 (cP text.toList) s
   else if op=7 then au 8 (cP text.toList) s
   else if op=8 then au 9 0 s
   else if op=9 then au 10 0 s
   else if op=10 then au 11 0 s
   else s
def aA (F:List Fn) (v:bf):List Ex→CS→CS
 | [],s=>s
 | x :: l,s=>aA F v l (bB F v x s)
def cq (F:List Fn) (v:bf) (isAnd:Bool):List Ex→CS→CS
 | [],s=>s
 | [_],s=>s
 | x :: y :: _,s =>
  let s:=bB F v x s
  let other:=s.ins.length
  let s:=au 16 0 s
  let s:=if isAnd then bB F v y s else au 3 1 s
  let end':=s.ins.length
  let s:=au 15 0 s
  let s:=bW other s
  let s:=if isAnd then au 3 0 s else bB F v y s
  bW end' s
end
mutual
def bL (F:List Fn):St→bf×CS→bf×CS
 | .mk op text es body els _,(v,s) =>
  let s:=au 1 1 s
  let s:=aA F v es s
  if op=1 then (bQ v text s.slots,au 6 s.slots (bw s))
  else if op=2 then (v,au 6 ((aI v text).getD 0) s)
  else if op=3 then
   let other:=s.ins.length
   let s:=au 16 0 s
   let s:=(aJ F body (v,s)).2
   if bE body then
    let s:=bW other s
    (v,(aJ F els (v,s)).2)
   else
    let end':=s.ins.length
    let s:=au 15 0 s
    let s:=bW other s
    let s:=(aJ F els (v,s)).2
    (v,bW end' s)
  else if op=4 then
   let name:=s.slots
   let s:=bw (bw s)
   let s:=au 6 (name+1) s
   let s:=au 6 name s
   let begin':=s.ins.length
   let s:=au 5 name s
   let s:=au 5 (name+1) s
   let s:=au 7 6 s
   let end':=s.ins.length
   let s:=au 16 0 s
   let s:=au 1 1 s
   let s:=(aJ F body (bQ v text name,s)).2
   let s:=au 5 name s
   let s:=au 2 1 s
   let s:=au 7 1 s
   let s:=au 6 name s
   let s:=au 15 begin' s
   (v,bW end' s)
  else if op=5 then (v,au 18 0 s)
  else if op=6 then (v,au 12 0 s)
  else if op=7 then (v,au 13 0 s)
  else if op=8 then (v,if fH F (es.headD default).text=0 then s else au 17 0 s)
  else (v,s)
def aJ (F:List Fn):List St→bf×CS→bf×CS
 | [],s=>s
 | x :: l,s=>aJ F l (bL F x s)
end
def aF:List (ByteArray×Int)→bf×Int→bf×Int
 | [],s=>s
 | p :: l,s=>aF l (bQ s.1 p.1 s.2,s.2+1)
def dg (F:List Fn) (f:Fn) (texts:List ByteArray):Cd×List ByteArray:=
 let p:=aF f.params ([],0)
 let s:=(aJ F f.body (p.1,⟨[],p.2,texts⟩)).2
 let s:=if f.result=0 then au 18 0 s else s
 (⟨f.name,f.params.map (·.2),f.result,s.slots,s.ins⟩,s.texts)
def bA (F:List Fn):List Fn→List Cd×List ByteArray→List Cd×List ByteArray
 | [],s=>s
 | f :: l,s=>bA F l (s.1++[(dg F f s.2).1],(dg F f s.2).2)
def dB (t:ByteArray):List Int:=t.toList.map fun b=>(b.toNat:Int)
def da (F:List Fn):Mdl:=⟨(bA F F ([],[])).1,(bA F F ([],[])).2.map dB⟩
def eW (F:List Fn):Except Int Mdl:=
 if (bT F).1≠0 then .error (bT F).1
 else if eu (da F) then .ok (da F) else .error 2
end
section
open Go.RowKit
def Adds (a b:Nat) (s s':CS):Prop:=s.ins.length≤s'.ins.length∧s'.ins.length≤s.ins.length+a∧s.texts.length≤s'.texts.length∧s'.texts.length≤s.texts.length+b∧s'.slots=s.slots
theorem Adds.refl (s:CS):Adds 0 0 s s:=⟨Nat.le_refl _,Nat.le_refl _,Nat.le_refl _,Nat.le_refl _,rfl⟩
theorem Adds.trans {a b a' b':Nat} {s t u:CS} (h:Adds a b s t) (g:Adds a' b' t u):Adds (a+a') (b+b') s u:=by
 obtain ⟨h1,h2,h3,h4,h5⟩:=h;obtain ⟨g1,g2,g3,g4,g5⟩:=g;exact ⟨by omega,by omega,by omega,by omega,g5.trans h5⟩
theorem Adds.le {a b a' b':Nat} {s t:CS} (h:Adds a b s t) (ha:a≤a') (hb:b≤b'):Adds a' b' s t:=by
 obtain ⟨h1,h2,h3,h4,h5⟩:=h;exact ⟨h1,by omega,h3,by omega,h5⟩
theorem aZ (o n:Int) (s:CS):Adds 1 0 s (au o n s):=⟨by simp [au],by simp [au],Nat.le_refl _,Nat.le_refl _,rfl⟩
theorem dM (k:Nat) (s:CS):Adds 0 0 s (bW k s):=⟨by simp [bW],by simp [bW],Nat.le_refl _,Nat.le_refl _,rfl⟩
theorem oP (t:ByteArray) (s:CS):Adds 0 1 s (cR t s):=by
 unfold cR;split
 ·exact (Adds.refl s).le (Nat.le_refl _) (by omega)
 ·exact ⟨Nat.le_refl _,Nat.le_refl _,by simp,by simp,rfl⟩
theorem pz (x:Ex):0<szE x:=by cases x;rw [szE];omega
mutual
theorem dO (F:List Fn) (v:bf):∀(x:Ex) (s:CS),Adds (8*szE x) (szE x) s (bB F v x s)
 | .mk op num text ks pos,s=>by
  rw [bB,szE];dsimp only;have h1:=aZ 1 1 s;have h2:=cL F v ks (au 1 1 s);split
  ·exact (h1.trans (rL F v (ms text.toList) ks (au 1 1 s))).le (by omega) (by omega)
  ·have h3:Adds (1+8*bP ks) (bP ks) s (aA F v ks (au 1 1 s)):=(h1.trans h2).le (by omega) (by omega)
   have h4:∀o n,Adds (8*(1+bP ks)) (1+bP ks) s (au o n (aA F v ks (au 1 1 s))):=fun o n=>(h3.trans (aZ o n _)).le (by omega) (by omega);by_cases c1:op=1
   ·rw [if_pos c1];exact h4 _ _
   rw [if_neg c1];by_cases c2:op=2
   ·rw [if_pos c2];exact h4 _ _
   rw [if_neg c2];by_cases c3:op=3
   ·rw [if_pos c3];exact ((h3.trans (oP text _)).trans (aZ _ _ _)).le (by omega) (by omega)
   rw [if_neg c3];by_cases c4:op=4
   ·rw [if_pos c4];exact h4 _ _
   rw [if_neg c4];by_cases c5:op=5
   ·rw [if_pos c5];exact h4 _ _
   rw [if_neg c5];by_cases c6:op=6
   ·rw [if_pos c6];exact h4 _ _
   rw [if_neg c6];by_cases c7:op=7
   ·rw [if_pos c7];exact h4 _ _
   rw [if_neg c7];by_cases c8:op=8
   ·rw [if_pos c8];exact h4 _ _
   rw [if_neg c8];by_cases c9:op=9
   ·rw [if_pos c9];exact h4 _ _
   rw [if_neg c9];by_cases c10:op=10
   ·rw [if_pos c10];exact h4 _ _
   rw [if_neg c10];exact h3.le (by omega) (by omega)
theorem cL (F:List Fn) (v:bf):∀(l:List Ex) (s:CS),Adds (8*bP l) (bP l) s (aA F v l s)
 | [],s=>by rw [aA,bP];exact (Adds.refl s).le (Nat.zero_le _) (Nat.zero_le _)
 | x :: l,s=>by
  rw [aA,bP];exact ((dO F v x s).trans (cL F v l _)).le (by omega) (by omega)
theorem rL (F:List Fn) (v:bf) (isAnd:Bool):∀(l:List Ex) (s:CS),Adds (8*bP l+5) (bP l) s (cq F v isAnd l s)
 | [],s=>by rw [cq];exact (Adds.refl s).le (by omega) (by omega)
 | [_],s=>by rw [cq];exact (Adds.refl s).le (by omega) (by omega)
 | x :: y :: l,s=>by
  rw [cq,bP,bP];have h1:=(dO F v x s).trans (aZ 16 0 _);generalize au 16 0 (bB F v x s)=s1 at *;generalize (bB F v x s).ins.length=n1
  cases isAnd
  ·rw [if_neg (by decide),if_neg (by decide)]
   have h2:=((h1.trans (aZ 3 1 _)).trans (aZ 15 0 _)).trans (dM n1 _);exact ((h2.trans (dO F v y _)).trans (dM _ _)).le (by omega) (by omega)
  ·rw [if_pos rfl,if_pos rfl]
   have h2:=((h1.trans (dO F v y _)).trans (aZ 15 0 _)).trans (dM n1 _);exact ((h2.trans (aZ 3 0 _)).trans (dM _ _)).le (by omega) (by omega)
end
def Adds2 (a b c:Nat) (s s':CS):Prop:=s.ins.length≤s'.ins.length∧s'.ins.length≤s.ins.length+a∧s.texts.length≤s'.texts.length∧s'.texts.length≤s.texts.length+b∧s.slots≤s'.slots∧s'.slots≤s.slots+c
theorem Adds.two {a b:Nat} {s t:CS} (h:Adds a b s t):Adds2 a b 0 s t:=by
 obtain ⟨h1,h2,h3,h4,h5⟩:=h;exact ⟨h1,h2,h3,h4,by omega,by omega⟩
theorem Adds2.trans {a b c a' b' c':Nat} {s t u:CS} (h:Adds2 a b c s t) (g:Adds2 a' b' c' t u):Adds2 (a+a') (b+b') (c+c') s u:=by
 obtain ⟨h1,h2,h3,h4,h5,h6⟩:=h;obtain ⟨g1,g2,g3,g4,g5,g6⟩:=g;exact ⟨by omega,by omega,by omega,by omega,by omega,by omega⟩
theorem Adds2.le {a b c a' b' c':Nat} {s t:CS} (h:Adds2 a b c s t) (ha:a≤a') (hb:b≤b') (hc:c≤c'):Adds2 a' b' c' s t:=by
 obtain ⟨h1,h2,h3,h4,h5,h6⟩:=h;exact ⟨h1,by omega,h3,by omega,h5,by omega⟩
theorem jE (s:CS):Adds2 0 0 1 s (bw s):=⟨Nat.le_refl _,Nat.le_refl _,Nat.le_refl _,Nat.le_refl _,by show s.slots≤s.slots+1;omega,by show s.slots+1≤s.slots+(1:Nat);omega⟩
mutual
theorem oe (F:List Fn):∀(x:St) (v:bf) (s:CS),Adds2 (16*szS x) (szS x) (2*szS x) s (bL F x (v,s)).2
 | .mk op text es body els pos,v,s=>by
  rw [bL,szS];dsimp only;have h1:Adds2 (1+8*bP es) (bP es) 0 s (aA F v es (au 1 1 s)):=((aZ 1 1 s).trans (cL F v es (au 1 1 s))).two.le (by omega) (by omega) (by omega);generalize aA F v es (au 1 1 s)=t at *;have one:∀o n,Adds2 (16*(1+bP es+bY body+bY els)) (1+bP es+bY body+bY els) (2*(1+bP es+bY body+bY els)) s (au o n t):=fun o n=>(h1.trans (aZ o n t).two).le (by omega) (by omega) (by omega);by_cases c1:op=1
  ·rw [if_pos c1];exact ((h1.trans (jE t)).trans (aZ _ _ _).two).le (by omega) (by omega) (by omega)
  rw [if_neg c1];by_cases c2:op=2
  ·rw [if_pos c2];exact one _ _
  rw [if_neg c2];by_cases c3:op=3
  ·rw [if_pos c3]
   have h2:=(h1.trans (aZ 16 0 t).two).trans (aY F body v (au 16 0 t));generalize (aJ F body (v,au 16 0 t)).2=t2 at *;split
   ·have h3:=h2.trans (dM t.ins.length t2).two
    exact (h3.trans (aY F els v _)).le (by omega) (by omega) (by omega)
   ·have h3:=(h2.trans (aZ 15 0 t2).two).trans (dM t.ins.length _).two
    have h4:=h3.trans (aY F els v (bW t.ins.length (au 15 0 t2)));exact (h4.trans (dM _ _).two).le (by omega) (by omega) (by omega)
  rw [if_neg c3];by_cases c4:op=4
  ·rw [if_pos c4]
   have h2:=(((((((h1.trans (jE t)).trans (jE _)).trans (aZ 6 (t.slots+1) _).two).trans (aZ 6 t.slots _).two).trans (aZ 5 t.slots _).two).trans (aZ 5 (t.slots+1) _).two).trans (aZ 7 6 _).two).trans (aZ 16 0 _).two;have h3:=(h2.trans (aZ 1 1 _).two).trans (aY F body (bQ v text t.slots) _);have h4:=((((h3.trans (aZ 5 t.slots _).two).trans (aZ 2 1 _).two).trans (aZ 7 1 _).two).trans (aZ 6 t.slots _).two).trans (aZ 15 (au 6 t.slots (au 6 (t.slots+1) (bw (bw t)))).ins.length _).two;exact (h4.trans (dM _ _).two).le (by omega) (by omega) (by omega)
  rw [if_neg c4];by_cases c5:op=5
  ·rw [if_pos c5];exact one _ _
  rw [if_neg c5];by_cases c6:op=6
  ·rw [if_pos c6];exact one _ _
  rw [if_neg c6];by_cases c7:op=7
  ·rw [if_pos c7];exact one _ _
  rw [if_neg c7];by_cases c8:op=8
  ·rw [if_pos c8]
   dsimp only;split
   ·exact h1.le (by omega) (by omega) (by omega)
   ·exact one _ _
  rw [if_neg c8];exact h1.le (by omega) (by omega) (by omega)
theorem aY (F:List Fn):∀(l:List St) (v:bf) (s:CS),Adds2 (16*bY l) (bY l) (2*bY l) s (aJ F l (v,s)).2
 | [],v,s=>by rw [aJ,bY];exact (Adds.refl s).two
 | x :: l,v,s=>by
  rw [aJ,bY];have h1:=oe F x v s;have h2:=aY F l (bL F x (v,s)).1 (bL F x (v,s)).2;exact (h1.trans h2).le (by omega) (by omega) (by omega)
end
mutual
def nQ (F:List Fn):Ex→Prop
 | .mk op _ text ks _=>(op=5→ba F text<F.length)∧(op=6→ks.length=2)∧fY F ks
def fY (F:List Fn):List Ex→Prop
 | []=>True
 | x :: l=>nQ F x∧fY F l
end
mutual
def sT (F:List Fn):St→Prop
 | .mk op _ es body els _=>(op=8→0<es.length∧ba F (es.headD default).text<F.length∧(es.headD default).op=5)∧fY F es∧gi F body∧gi F els
def gi (F:List Fn):List St→Prop
 | []=>True
 | x :: l=>sT F x∧gi F l
end
end
section
open Go.RowKit
def od (F:List Fn) (G:aO):Prop:=∀k,(aI G k).isSome→ba F k<F.length
theorem bF {a b:Flt} (h:(orF a b).1=0):a.1=0∧b.1=0:=by
 unfold orF at h;split at h
 ·rename_i g;exact absurd h g
 ·rename_i g;exact ⟨by simpa using g,h⟩
theorem eE {r:Int×Flt} {t pos:Int} (h:(iK r t pos).1=0):r.2.1=0:=by
 unfold iK at h;split at h
 ·rename_i g;exact absurd h g
 ·rename_i g;simpa using g
theorem eM (F:List Fn):fY F []:=by rw [fY];trivial
mutual
theorem gd {F:List Fn} {G:aO} (hk:od F G):∀(x:Ex) (v:aR),(aK G v x).2.1=0→nQ F x
 | .mk op num text ks pos,v=>by
  intro e;rw [aK] at e;rw [nQ];by_cases c1:cw op=-2∨(0≤cw op∧cw op≠ks.length)
  ·simp only [if_pos c1] at e
   exact absurd e (by decide)
  simp only [if_neg c1] at e
  have B:0≤cw op→cw op=ks.length:=fun h=>by
   by_cases q:cw op=ks.length
   ·exact q
   ·exact absurd (Or.inr ⟨h,q⟩) c1
  have h6:op=6→ks.length=2:=fun h=>by
   subst h;have:=B (by decide);have e2:cw 6=2:=by decide
   omega
  have A:cw op=0→ks=[]:=fun h=>List.eq_nil_of_length_eq_zero (by have:=B (by omega);omega);by_cases c2:op=1
  ·subst c2
   rw [A (by decide)];exact ⟨fun h=>absurd h (by decide),fun h=>absurd h (by decide),eM F⟩
  simp only [if_neg c2] at e
  by_cases c3:op=2
  ·subst c3
   rw [A (by decide)];exact ⟨fun h=>absurd h (by decide),fun h=>absurd h (by decide),eM F⟩
  simp only [if_neg c3] at e
  by_cases c4:op=3
  ·subst c4
   rw [A (by decide)];exact ⟨fun h=>absurd h (by decide),fun h=>absurd h (by decide),eM F⟩
  simp only [if_neg c4] at e
  by_cases c5:op=4
  ·subst c5
   rw [A (by decide)];exact ⟨fun h=>absurd h (by decide),fun h=>absurd h (by decide),eM F⟩
  simp only [if_neg c5] at e
  by_cases c6:op=5
  ·simp only [if_pos c6] at e
   cases hl:aI G text with
   | none =>
    rw [hl] at e;exact absurd e (by simp)
   | some fn =>
    rw [hl] at e;dsimp only at e;have hp:=hk text (by rw [hl];rfl);by_cases c7:fn.params.length≠ks.length
    ·simp only [if_pos c7] at e
     exact absurd e (by decide)
    simp only [if_neg c7] at e
    exact ⟨fun _=>hp,h6,fj hk ks v _ e⟩
  simp only [if_neg c6] at e
  refine ⟨fun h=>absurd h c6,h6,?_⟩;by_cases c7:op=6
  ·simp only [if_pos c7] at e
   by_cases c8:(cX text.toList).1≠0
   ·simp only [if_pos c8] at e
    exact fj hk ks v _ e
   simp only [if_neg c8] at e
   by_cases c9:text.toList≠[43]∧text.toList≠[61,61]∧text.toList≠[33,61]
   ·simp only [if_pos c9] at e
    exact absurd e (by decide)
   simp only [if_neg c9] at e
   by_cases c10:(cJ G v (text.toList==[43]) ks).1.1≠0
   ·simp only [if_pos c10] at e
    exact absurd e c10
   exact oC hk ks v _ (by simpa using c10)
  simp only [if_neg c7] at e
  by_cases c8:op=7
  ·simp only [if_pos c8] at e
   by_cases c9:text.toList=[45]
   ·simp only [if_pos c9] at e
    exact fj hk ks v _ e
   simp only [if_neg c9] at e
   by_cases c10:text.toList=[33]
   ·simp only [if_pos c10] at e
    exact fj hk ks v _ e
   simp only [if_neg c10] at e
   exact absurd e (by decide)
  simp only [if_neg c8] at e
  by_cases c9:op=9
  ·simp only [if_pos c9] at e
   exact fj hk ks v _ e
  simp only [if_neg c9] at e
  by_cases c10:op=10
  ·simp only [if_pos c10] at e
   exact fj hk ks v _ e
  simp only [if_neg c10] at e
  exact fj hk ks v _ e
theorem fj {F:List Fn} {G:aO} (hk:od F G):∀(l:List Ex) (v:aR) (ts:List Int),(cY G v l ts).1=0→fY F l
 | [],_,_=>fun _=>eM F
 | x :: l,v,ts=>by
  intro e;rw [cY] at e;obtain ⟨e1,e2⟩:=bF e;rw [fY];exact ⟨gd hk x v (eE e1),fj hk l v _ e2⟩
theorem oC {F:List Fn} {G:aO} (hk:od F G):∀(l:List Ex) (v:aR) (plus:Bool),(cJ G v plus l).1.1=0→fY F l
 | [],_,_=>fun _=>eM F
 | k :: l,v,plus=>by
  intro e;rw [cJ] at e;rw [fY];by_cases c:(if (aK G v k).2.1=0 then noC ((aK G v k).1 !=0&&!(plus&&(aK G v k).1==2)) 51 k.pos else (aK G v k).2).1≠0
  ·rw [if_pos c] at e
   exact absurd e c
  rw [if_neg c] at e
  have c':(aK G v k).2.1=0:=by
   by_cases c0:(aK G v k).2.1=0
   ·exact c0
   ·rw [if_neg c0] at c
    exact absurd c0 c
  exact ⟨gd hk k v c',oC hk l v plus e⟩
end
theorem cV (F:List Fn):gi F []:=by rw [gi];trivial
theorem gV {F:List Fn} {es:List Ex} (h1:es.length≤1) (h:nQ F (es.headD default)):fY F es:=by
 match es,h1 with
 | [],_=>exact eM F
 | [x],_=>rw [fY,fY];exact ⟨h,trivial⟩
theorem dT {b:Bool} {e p:Int} (he:e≠0) (h:(noC b e p).1=0):b=true:=by
 cases b
 ·exact absurd h he
 ·rfl
theorem qp {op:Int} {text:ByteArray} {es:List Ex} {body els:List St} {pos:Int} (h:¬dd (.mk op text es body els pos)=false) :
    (op=1∨op=2∨op=7∨op=8→es.length=1∧body=[]∧els=[])∧(op=6→body=[]∧els=[])∧(op=5→es.length≤1∧body=[]∧els=[])∧(op=3→es.length=1)∧(op=4→els=[])∧(op=1∨op=2∨op=3∨op=4∨op=5∨op=6∨op=7∨op=8):=by
 have h:dd (.mk op text es body els pos)=true:=by simpa using h
 unfold dd at h
 change (if op=1∨op=2∨op=7∨op=8 then es.length==1&&body.length==0&&els.length==0
   else if op=6 then es.length==2&&body.length==0&&els.length==0
   else if op=5 then decide (es.length≤1)&&body.length==0&&els.length==0
   else if op=3 then es.length==1
   else if op=4 then es.length==2&&els.length==0 else false)=true at h
 by_cases c1:op=1∨op=2∨op=7∨op=8
 ·rw [if_pos c1] at h
  simp at h
  refine ⟨fun _=>⟨h.1.1,h.1.2,h.2⟩,fun e=>⟨h.1.2,h.2⟩,fun e=>⟨by omega,h.1.2,h.2⟩,fun e=>h.1.1,fun e=>h.2,by omega⟩
 rw [if_neg c1] at h;by_cases c6:op=6
 ·rw [if_pos c6] at h
  simp at h
  exact ⟨fun e=>absurd e c1,fun _=>⟨h.1.2,h.2⟩,fun e=>by omega,fun e=>by omega,fun e=>by omega,by omega⟩
 rw [if_neg c6] at h;by_cases c5:op=5
 ·rw [if_pos c5] at h
  simp at h
  exact ⟨fun e=>absurd e c1,fun e=>absurd e c6,fun _=>⟨h.1.1,h.1.2,h.2⟩,fun e=>by omega,fun e=>by omega,by omega⟩
 rw [if_neg c5] at h;by_cases c3:op=3
 ·rw [if_pos c3] at h
  simp at h
  exact ⟨fun e=>absurd e c1,fun e=>absurd e c6,fun e=>absurd e c5,fun _=>h,fun e=>by omega,by omega⟩
 rw [if_neg c3] at h;by_cases c4:op=4
 ·rw [if_pos c4] at h
  simp at h
  exact ⟨fun e=>absurd e c1,fun e=>absurd e c6,fun e=>absurd e c5,fun e=>absurd e c3,fun _=>h.2,by omega⟩
 rw [if_neg c4] at h
 cases h
mutual
theorem xF {F:List Fn} {G:aO} (hk:od F G) (res:Int):∀(x:St) (v:aR),(cC G res x v).2.1=0→sT F x
 | .mk op text es body els pos,v=>by
  intro e;rw [cC] at e;dsimp only at e;rw [sT];by_cases c0:dd (.mk op text es body els pos)=false
  ·rw [if_pos c0] at e
   exact absurd e (by simp)
  rw [if_neg c0] at e;obtain ⟨s1,s6,s5,s3,s4,sall⟩:=qp c0;by_cases c1:op=1
  ·rw [if_pos c1] at e
   obtain ⟨q1,q2,q3⟩:=s1 (.inl c1);rw [q2,q3];exact ⟨fun h=>by omega,gV (by omega) (gd hk _ v (bF e).1),cV F,cV F⟩
  rw [if_neg c1] at e;by_cases c2:op=2
  ·rw [if_pos c2] at e
   obtain ⟨q1,q2,q3⟩:=s1 (.inr (.inl c2));rw [q2,q3];exact ⟨fun h=>by omega,gV (by omega) (gd hk _ v (eE (bF (bF e).2).2)),cV F,cV F⟩
  rw [if_neg c2] at e;by_cases c3:op=3
  ·rw [if_pos c3] at e
   have q1:=s3 c3;obtain ⟨e1,e2⟩:=bF e;obtain ⟨e2,e3⟩:=bF e2;exact ⟨fun h=>by omega,gV (by omega) (gd hk _ v (eE e1)),gW hk res body v e2,gW hk res els v e3⟩
  rw [if_neg c3] at e;by_cases c4:op=4
  ·rw [if_pos c4] at e
   rw [s4 c4];obtain ⟨e1,e2⟩:=bF e;exact ⟨fun h=>by omega,fj hk es v _ e1,gW hk res body _ (bF e2).2,cV F⟩
  rw [if_neg c4] at e;by_cases c5:op=5
  ·rw [if_pos c5] at e
   obtain ⟨q1,q2,q3⟩:=s5 c5;rw [q2,q3];refine ⟨fun h=>by omega,?_,cV F,cV F⟩;by_cases c6:es.length=0
   ·rw [List.eq_nil_of_length_eq_zero c6]
    exact eM F
   ·simp only [if_neg c6] at e
    exact gV q1 (gd hk _ v (bF e).1)
  rw [if_neg c5] at e;by_cases c8:op=8
  ·rw [if_pos c8] at e
   obtain ⟨q1,q2,q3⟩:=s1 (by omega);rw [q2,q3];obtain ⟨e1,e2⟩:=bF e;have h5:(es.headD default).op=5:=eq_of_beq (dT (by decide) e2);have hf:=gd hk _ v e1;refine ⟨fun _=>⟨by omega,?_⟩,gV (by omega) hf,cV F,cV F⟩;generalize es.headD default=x at *;obtain ⟨o,n,t,k,p⟩:=x;rw [nQ] at hf;exact ⟨hf.1 h5,h5⟩
  rw [if_neg c8] at e;refine ⟨fun h=>absurd h c8,fj hk es v _ e,?_,?_⟩
  ·by_cases c6:op=6
   ·rw [(s6 c6).1];exact cV F
   ·rw [(s1 (by omega)).2.1];exact cV F
  ·by_cases c6:op=6
   ·rw [(s6 c6).2];exact cV F
   ·rw [(s1 (by omega)).2.2];exact cV F
theorem gW {F:List Fn} {G:aO} (hk:od F G) (res:Int):∀(l:List St) (v:aR),(bH G res l v).1=0→gi F l
 | [],_=>fun _=>cV F
 | x :: l,v=>by
  intro e;rw [bH] at e;rw [gi];by_cases c:(cC G res x v).2.1≠0
  ·rw [if_pos c] at e
   exact absurd e c
  rw [if_neg c] at e;exact ⟨xF hk res x v (by simpa using c),gW hk res l _ e⟩
end
theorem oc:∀(l:List Fn) (G:aO) (k:ByteArray),(aI (dl l G).2 k).isSome→(aI G k).isSome∨ba l k<l.length
 | [],G,k,h=>.inl h
 | f :: l,G,k,h=>by
  rw [dl] at h;rw [ba];by_cases c:(aI G f.name).isSome
  ·rw [if_pos c] at h
   exact .inl h
  rw [if_neg c] at h;by_cases e:f.name=k
  ·rw [if_pos e];exact .inr (by simp)
  ·rw [if_neg e]
   rcases oc l _ k h with q | q
   ·rw [fQ,if_neg e] at q;exact .inl q
   ·exact .inr (by simpa using q)
theorem jx {G:aO}:∀{l:List Fn},(gj G l).1=0→∀f,f∈l→(eV G f).1=0
 | g :: l,e,f,hf=>by
  rw [gj] at e;obtain ⟨e1,e2⟩:=bF e;rcases List.mem_cons.1 hf with rfl | hf
  ·exact e1
  ·exact jx e2 f hf
theorem jr {l:List Fn} (h:(bT l).1=0):l.length≤64∧∀f,f∈l→gi l f.body∧f.params.length≤16:=by
 unfold bT at h;by_cases c:64<l.length
 ·rw [if_pos c] at h
  exact absurd h (by simp)
 rw [if_neg c] at h;by_cases d:(dl l []).1.1≠0
 ·rw [if_pos d] at h
  exact absurd h d
 rw [if_neg d] at h;have hk:od l (dl l []).2:=fun k q=>(oc l [] k q).elim (fun q=>by cases q) id;refine ⟨by omega,fun f hf=>?_⟩;have e:=jx h f hf;unfold eV at e;dsimp only at e;by_cases c1:(bU f.pos f.params []).1.1≠0
 ·rw [if_pos c1] at e
  exact absurd e c1
 rw [if_neg c1] at e;by_cases c2:f.result<0∨3<f.result
 ·rw [if_pos c2] at e
  exact absurd e (by simp)
 rw [if_neg c2] at e;by_cases c3:16<f.params.length∨64<wrap64 (f.params.length+dC 0 f.body)
 ·rw [if_pos c3] at e
  exact absurd e (by simp)
 rw [if_neg c3] at e;exact ⟨gW hk _ _ _ (bF e).1,by omega⟩
end
section
open Go.RowKit
def zK (s:List UInt8) (a t:Int):Prop:=
 ((s=[45]∨s=[42]∨s=[47]∨s=[37])∧a=1∧t=1)∨((s=[60]∨s=[60,61]∨s=[62]∨s=[62,61])∧a=1∧t=2)∨((s=[38,38]∨s=[124,124])∧a=2∧t=2) ∨
  (s=[43]∧a≠0∧a≠2∧t=a)∨((s=[61,61]∨s=[33,61])∧a≠0∧t=2)
def Bl (G:aO) (V:aR) (op:Int) (text:ByteArray) (ts:List Int) (t:Int):Prop:=
 (op=1∧ts=[]∧t=1)∨(op=2∧ts=[]∧t=2)∨(op=3∧ts=[]∧t=3)∨(op=4∧ts=[]∧∃x,aI V text=some (t,x)) ∨
  (op=5∧∃fn,aI G text=some fn∧ts=fn.params.map (·.2)∧t=fn.result)∨(op=6∧∃a,ts=[a,a]∧zK text.toList a t) ∨
  (op=7∧((text.toList=[45]∧ts=[1]∧t=1)∨(text.toList=[33]∧ts=[2]∧t=2)))∨(op=8∧ts=[3]∧t=3)∨(op=9∧ts=[3]∧t=2)∨(op=10∧ts=[3]∧t=1)
mutual
def TyE (G:aO) (V:aR):Ex→Int→Prop
 | .mk op _ text ks _,t=>∃ts,Bl G V op text ts t∧TyEs G V ks ts
def TyEs (G:aO) (V:aR):List Ex→List Int→Prop
 | [],ts=>ts=[]
 | x :: l,ts=>∃t r,ts=t :: r∧TyE G V x t∧TyEs G V l r
end
theorem TyEs.len {G:aO} {V:aR}:∀{l:List Ex} {ts:List Int},TyEs G V l ts→l.length=ts.length
 | [],ts,h=>by rw [TyEs] at h;rw [h];rfl
 | x :: l,ts,h=>by
  rw [TyEs] at h;obtain ⟨t,r,rfl,_,h⟩:=h;simpa using TyEs.len h
theorem jq {r:Int×Flt} {t pos:Int} (h:(iK r t pos).1=0):r.1=t:=by
 unfold iK at h;split at h
 ·rename_i g;exact absurd h g
 ·exact eq_of_beq (dT (by decide) h)
theorem jv {α:Type} {l:List α} (h:l.length=1):∃x,l=[x]:=by
 match l,h with
 | [x],_=>exact ⟨x,rfl⟩
mutual
theorem gx {G:aO} {V:aR}:∀x:Ex,(aK G V x).2.1=0→TyE G V x (aK G V x).1
 | .mk op num text ks pos=>by
  intro e;rw [TyE];rw [aK] at e ⊢;by_cases c1:cw op=-2∨(0≤cw op∧cw op≠ks.length)
  ·simp only [if_pos c1] at e
   exact absurd e (by decide)
  simp only [if_neg c1] at e ⊢
  have D:0≤cw op→cw op=ks.length:=fun h=>by
   by_cases q:cw op=ks.length
   ·exact q
   ·exact absurd (Or.inr ⟨h,q⟩) c1
  have A:=fun ts e h=>pJ (G:=G) (V:=V) ks ts e h
  have C:cw op=0→TyEs G V ks []:=fun h=>by
   have hk:ks=[]:=List.eq_nil_of_length_eq_zero (by have:=D (by omega);omega);rw [hk,TyEs]
  have B:cw op=1→ks.length=1:=fun h=>by have:=D (by omega);omega
  by_cases c2:op=1
  ·subst c2
   simp only [if_true]
   exact ⟨[],.inl ⟨rfl,rfl,rfl⟩,C (by decide)⟩
  simp only [if_neg c2] at e ⊢
  by_cases c3:op=2
  ·subst c3
   simp only [if_true]
   exact ⟨[],.inr (.inl ⟨rfl,rfl,rfl⟩),C (by decide)⟩
  simp only [if_neg c3] at e ⊢
  by_cases c4:op=3
  ·subst c4
   simp only [if_true]
   exact ⟨[],.inr (.inr (.inl ⟨rfl,rfl,rfl⟩)),C (by decide)⟩
  simp only [if_neg c4] at e ⊢
  by_cases c5:op=4
  ·subst c5
   simp only [if_true] at e ⊢
   refine ⟨[],.inr (.inr (.inr (.inl ⟨rfl,rfl,?_⟩))),C (by decide)⟩;have hs:=dT (by decide) e
   cases hl:aI V text with
   | none=>rw [hl] at hs;cases hs
   | some p=>exact ⟨p.2,rfl⟩
  simp only [if_neg c5] at e ⊢
  by_cases c6:op=5
  ·simp only [if_pos c6] at e ⊢
   cases hl:aI G text with
   | none =>
    rw [hl] at e;exact absurd e (by simp)
   | some fn =>
    rw [hl] at e;dsimp only at e ⊢;by_cases c7:fn.params.length≠ks.length
    ·simp only [if_pos c7] at e
     exact absurd e (by decide)
    simp only [if_neg c7] at e ⊢
    exact ⟨_,.inr (.inr (.inr (.inr (.inl ⟨c6,fn,hl,rfl,rfl⟩)))),A _ e (by simp;omega)⟩
  simp only [if_neg c6] at e ⊢
  by_cases c7:op=6
  ·simp only [if_pos c7] at e ⊢
   have h2:ks.length=2:=by
    subst c7;have:=D (by decide);have e2:cw 6=2:=by decide
    omega
   by_cases c8:(cX text.toList).1≠0
   ·simp only [if_pos c8] at e ⊢
    refine ⟨_,.inr (.inr (.inr (.inr (.inr (.inl ⟨c7,_,rfl,?_⟩))))),A _ e (by simp [h2])⟩;unfold cX at c8 ⊢;split
    ·rename_i q;exact .inl ⟨q,rfl,rfl⟩
    split
    ·rename_i q;exact .inr (.inl ⟨q,rfl,rfl⟩)
    split
    ·rename_i q;exact .inr (.inr (.inl ⟨q,rfl,rfl⟩))
    ·rename_i q1 q2 q3
     rw [if_neg q1,if_neg q2,if_neg q3] at c8;exact absurd rfl c8
   simp only [if_neg c8] at e ⊢
   by_cases c9:text.toList≠[43]∧text.toList≠[61,61]∧text.toList≠[33,61]
   ·simp only [if_pos c9] at e
    exact absurd e (by decide)
   simp only [if_neg c9] at e ⊢
   by_cases c10:(cJ G V (text.toList==[43]) ks).1.1≠0
   ·simp only [if_pos c10] at e
    exact absurd e c10
   simp only [if_neg c10] at e ⊢
   obtain ⟨h3,h4⟩:=rP (G:=G) (V:=V) (text.toList==[43]) ks (by simpa using c10);have hl:=h3.len;have E:=eq_of_beq (dT (by decide) e);generalize (cJ G V (text.toList==[43]) ks).2=ts at *;match ts,hl with
   | [],hl=>rw [h2] at hl;cases hl
   | [_],hl=>rw [h2] at hl;cases hl
   | _ :: _ :: _ :: _,hl=>rw [h2] at hl;simp at hl
   | [a,b],_ =>
    have F:a=b:=E;subst F;refine ⟨[a,a],.inr (.inr (.inr (.inr (.inr (.inl ⟨c7,a,rfl,?_⟩))))),h3⟩;obtain ⟨q1,q2⟩:=h4 a (by simp);by_cases c11:text.toList=[43]
    ·rw [if_pos c11]
     exact .inr (.inr (.inr (.inl ⟨c11,q1,q2 (by rw [c11];rfl),rfl⟩)))
    ·rw [if_neg c11]
     refine .inr (.inr (.inr (.inr ⟨?_,q1,rfl⟩)));by_cases c12:text.toList=[61,61]
     ·exact .inl c12
     ·by_cases c13:text.toList=[33,61]
      ·exact .inr c13
      ·exact absurd ⟨c11,c12,c13⟩ c9
  simp only [if_neg c7] at e ⊢
  by_cases c8:op=7
  ·simp only [if_pos c8] at e ⊢
   have h1:ks.length=1:=B (by subst c8;decide);by_cases c9:text.toList=[45]
   ·simp only [if_pos c9] at e ⊢
    exact ⟨[1],.inr (.inr (.inr (.inr (.inr (.inr (.inl ⟨c8,.inl ⟨c9,rfl,rfl⟩⟩)))))),A _ e (by simp [h1])⟩
   simp only [if_neg c9] at e ⊢
   by_cases c10:text.toList=[33]
   ·simp only [if_pos c10] at e ⊢
    exact ⟨[2],.inr (.inr (.inr (.inr (.inr (.inr (.inl ⟨c8,.inr ⟨c10,rfl,rfl⟩⟩)))))),A _ e (by simp [h1])⟩
   simp only [if_neg c10] at e
   exact absurd e (by decide)
  simp only [if_neg c8] at e ⊢
  by_cases c9:op=9
  ·simp only [if_pos c9] at e ⊢
   have h1:ks.length=1:=B (by subst c9;decide);exact ⟨[3],.inr (.inr (.inr (.inr (.inr (.inr (.inr (.inr (.inl ⟨c9,rfl,rfl⟩)))))))),A _ e (by simp [h1])⟩
  simp only [if_neg c9] at e ⊢
  by_cases c10:op=10
  ·simp only [if_pos c10] at e ⊢
   have h1:ks.length=1:=B (by subst c10;decide);exact ⟨[3],.inr (.inr (.inr (.inr (.inr (.inr (.inr (.inr (.inr ⟨c10,rfl,rfl⟩)))))))),A _ e (by simp [h1])⟩
  simp only [if_neg c10] at e ⊢
  have c11:op=8:=by
   by_cases q:op=8
   ·exact q
   ·exfalso
    refine c1 (.inl ?_);unfold cw;rw [if_neg (by omega),if_neg (by omega),if_neg c7,if_neg c6]
  have h1:ks.length=1:=B (by subst c11;decide);exact ⟨[3],.inr (.inr (.inr (.inr (.inr (.inr (.inr (.inl ⟨c11,rfl,rfl⟩))))))),A _ e (by simp [h1])⟩
theorem pJ {G:aO} {V:aR}:∀(l:List Ex) (ts:List Int),(cY G V l ts).1=0→l.length=ts.length→TyEs G V l ts
 | [],ts=>fun _ h=>by rw [TyEs];exact List.eq_nil_of_length_eq_zero h.symm
 | x :: l,[]=>fun _ h=>by cases h
 | x :: l,t :: ts=>fun e h=>by
  rw [cY] at e;obtain ⟨e1,e2⟩:=bF e;rw [TyEs];have h1:=gx (G:=G) (V:=V) x (eE e1);rw [jq e1] at h1;exact ⟨t,ts,rfl,h1,pJ l ts e2 (by simpa using h)⟩
theorem rP {G:aO} {V:aR} (plus:Bool):∀l:List Ex,(cJ G V plus l).1.1=0→TyEs G V l (cJ G V plus l).2∧∀t,t∈(cJ G V plus l).2→t≠0∧(plus=true→t≠2)
 | []=>fun _=>by rw [cJ,TyEs];exact ⟨rfl,fun t h=>by cases h⟩
 | k :: l=>fun e=>by
  rw [cJ] at e ⊢;by_cases c0:(aK G V k).2.1=0
  ·simp only [if_pos c0] at e ⊢
   by_cases c:(noC ((aK G V k).1 !=0&&!(plus&&(aK G V k).1==2)) 51 k.pos).1≠0
   ·rw [if_pos c] at e
    exact absurd e c
   rw [if_neg c] at e ⊢;have hq:=dT (by decide) (show (noC ((aK G V k).1 !=0&&!(plus&&(aK G V k).1==2)) 51 k.pos).1=0 by simpa using c);obtain ⟨h1,h2⟩:=rP (G:=G) (V:=V) plus l e;rw [TyEs];refine ⟨⟨_,_,rfl,gx k c0,h1⟩,fun t ht=>?_⟩;rcases List.mem_cons.1 ht with rfl | ht
   ·simp only [Bool.and_eq_true,bne_iff_ne,ne_eq,Bool.not_eq_true',Bool.and_eq_false_iff,beq_eq_false_iff_ne] at hq
    exact ⟨hq.1,fun hp=>hq.2.resolve_left (by rw [hp];decide)⟩
   ·exact h2 t ht
  ·simp only [if_neg c0] at e
   rw [if_pos c0] at e;exact absurd e c0
end
def uR (G:aO) (res:Int) (s:St) (V:aR):aR:=(cC G res s V).1
mutual
def TyS (G:aO) (res:Int):St→aR→Prop
 | .mk op text es body els _,V =>
  (op=1∧body=[]∧els=[]∧aI V text=none∧∃x,es=[x]∧TyE G V x (aK G V x).1∧(aK G V x).1≠0) ∨
  (op=2∧body=[]∧els=[]∧∃x t,es=[x]∧aI V text=some (t,false)∧TyE G V x t) ∨
  (op=3∧(∃x,es=[x]∧TyE G V x 2)∧mE G res body V∧mE G res els V) ∨
  (op=4∧els=[]∧aI V text=none∧TyEs G V es [1,1]∧mE G res body (bQ V text (1,true))) ∨
  (op=5∧body=[]∧els=[]∧((es=[]∧res=0)∨∃x,es=[x]∧TyE G V x res∧res≠0)) ∨
  (op=6∧body=[]∧els=[]∧TyEs G V es [3,3]) ∨
  (op=7∧body=[]∧els=[]∧TyEs G V es [3]) ∨
  (op=8∧body=[]∧els=[]∧∃x t,es=[x]∧TyE G V x t∧x.op=5)
def mE (G:aO) (res:Int):List St→aR→Prop
 | [],_=>True
 | s :: l,V=>TyS G res s V∧mE G res l (uR G res s V)
end
theorem xW {G:aO} {res:Int} {V:aR}:mE G res [] V:=by rw [mE];trivial
theorem yM {G:aO} {res:Int} (text:ByteArray) (x:Ex) (p:Int) (V:aR):uR G res (.mk 1 text [x] [] [] p) V=bQ V text ((aK G V x).1,false):=by
 unfold uR;rw [cC];rfl
theorem xL {G:aO} {res:Int} {op:Int} (h:op≠1) (text:ByteArray) (es:List Ex) (body els:List St) (p:Int) (V:aR):uR G res (.mk op text es body els p) V=V:=by
 unfold uR;rw [cC];dsimp only;rw [if_neg h];split
 ·rfl
 split
 ·rfl
 split
 ·rfl
 split
 ·rfl
 split
 ·rfl
 split
 ·rfl
 rfl
mutual
theorem zv {G:aO} (res:Int):∀(s:St) (V:aR),(cC G res s V).2.1=0→TyS G res s V
 | .mk op text es body els pos,V=>by
  intro e;rw [cC] at e;dsimp only at e;rw [TyS];by_cases c0:dd (.mk op text es body els pos)=false
  ·rw [if_pos c0] at e
   exact absurd e (by simp)
  have h6:op=6→es.length=2:=fun q=>by
   have h:dd (.mk op text es body els pos)=true:=by simpa using c0
   subst q;change (es.length==2&&body.length==0&&els.length==0)=true at h
   simp at h
   exact h.1.1
  have h4:op=4→es.length=2:=fun q=>by
   have h:dd (.mk op text es body els pos)=true:=by simpa using c0
   subst q;change (es.length==2&&els.length==0)=true at h
   simp at h
   exact h.1
  rw [if_neg c0] at e;obtain ⟨s1,s6,s5,s3,s4,sall⟩:=qp c0;by_cases c1:op=1
  ·rw [if_pos c1] at e
   obtain ⟨q1,q2,q3⟩:=s1 (.inl c1);obtain ⟨x,rfl⟩:=jv q1;obtain ⟨e1,e2⟩:=bF e;obtain ⟨e2,e3⟩:=bF e2;refine .inl ⟨c1,q2,q3,?_,x,rfl,gx x e1,?_⟩
   ·have:=dT (by decide) e3
    cases hl:aI V text with
    | none=>rfl
    | some p=>rw [hl] at this;cases this
   ·have:=dT (by decide) e2
    exact bne_iff_ne.1 this
  rw [if_neg c1] at e;by_cases c2:op=2
  ·rw [if_pos c2] at e
   obtain ⟨q1,q2,q3⟩:=s1 (.inr (.inl c2));obtain ⟨x,rfl⟩:=jv q1;obtain ⟨e1,e2⟩:=bF e;obtain ⟨e2,e3⟩:=bF e2;have h1:=dT (by decide) e1;have h2:=dT (by decide) e2
   cases hl:aI V text with
   | none=>rw [hl] at h1;cases h1
   | some p =>
    obtain ⟨t,b⟩:=p;rw [hl] at h2 e3;have hb:b=false:=by simpa using h2
    subst hb;have h3:=gx (G:=G) (V:=V) x (eE e3);rw [show (aK G V x).1=t from jq e3] at h3;exact .inr (.inl ⟨c2,q2,q3,x,t,rfl,rfl,h3⟩)
  rw [if_neg c2] at e;by_cases c3:op=3
  ·rw [if_pos c3] at e
   obtain ⟨x,rfl⟩:=jv (s3 c3);obtain ⟨e1,e2⟩:=bF e;obtain ⟨e2,e3⟩:=bF e2;have h3:=gx (G:=G) (V:=V) x (eE e1);rw [show (aK G V x).1=2 from jq e1] at h3;exact .inr (.inr (.inl ⟨c3,⟨x,rfl,h3⟩,jl res body V e2,jl res els V e3⟩))
  rw [if_neg c3] at e;by_cases c4:op=4
  ·rw [if_pos c4] at e
   obtain ⟨e1,e2⟩:=bF e;obtain ⟨e2,e3⟩:=bF e2;refine .inr (.inr (.inr (.inl ⟨c4,s4 c4,?_,pJ es _ e1 (h4 c4),jl res body _ e3⟩)));have:=dT (by decide) e2
   cases hl:aI V text with
   | none=>rfl
   | some p=>rw [hl] at this;cases this
  rw [if_neg c4] at e;by_cases c5:op=5
  ·rw [if_pos c5] at e
   obtain ⟨q1,q2,q3⟩:=s5 c5;refine .inr (.inr (.inr (.inr (.inl ⟨c5,q2,q3,?_⟩))));by_cases c6:es.length=0
   ·simp only [if_pos c6] at e
    exact .inl ⟨List.eq_nil_of_length_eq_zero c6,eq_of_beq (dT (by decide) e)⟩
   ·simp only [if_neg c6] at e
    obtain ⟨x,rfl⟩:=jv (show es.length=1 by omega);obtain ⟨e1,e2⟩:=bF e;have h1:=dT (by decide) e2;simp only [Bool.and_eq_true,bne_iff_ne,ne_eq] at h1
    have h3:=gx (G:=G) (V:=V) x e1;have h2:(aK G V x).1=res:=eq_of_beq h1.1;rw [h2] at h3;exact .inr ⟨x,rfl,h3,by rw [←h2];exact h1.2⟩
  rw [if_neg c5] at e;by_cases c8:op=8
  ·rw [if_pos c8] at e
   obtain ⟨q1,q2,q3⟩:=s1 (by omega);obtain ⟨x,rfl⟩:=jv q1;obtain ⟨e1,e2⟩:=bF e;exact .inr (.inr (.inr (.inr (.inr (.inr (.inr ⟨c8,q2,q3,x,_,rfl,gx x e1,eq_of_beq (dT (by decide) e2)⟩))))))
  rw [if_neg c8] at e;by_cases c6:op=6
  ·refine .inr (.inr (.inr (.inr (.inr (.inl ⟨c6,(s6 c6).1,(s6 c6).2,pJ es _ e (h6 c6)⟩)))))
  ·have c7:op=7:=by omega
   obtain ⟨q1,q2,q3⟩:=s1 (by omega);obtain ⟨x,rfl⟩:=jv q1;refine .inr (.inr (.inr (.inr (.inr (.inr (.inl ⟨c7,q2,q3,?_⟩))))));rw [cY] at e;have h1:=gx (G:=G) (V:=V) x (eE (bF e).1);rw [show (aK G V x).1=3 from jq (bF e).1] at h1;rw [TyEs];exact ⟨3,[],rfl,h1,by rw [TyEs]⟩
theorem jl {G:aO} (res:Int):∀(l:List St) (V:aR),(bH G res l V).1=0→mE G res l V
 | [],_=>fun _=>xW
 | s :: l,V=>by
  intro e;rw [bH] at e;rw [mE];by_cases c:(cC G res s V).2.1≠0
  ·rw [if_pos c] at e
   exact absurd e c
  rw [if_neg c] at e;exact ⟨zv res s V (by simpa using c),jl res l _ e⟩
end
structure TyF (G:aO) (f:Fn):Prop where
 pars:(bU f.pos f.params []).1.1=0
 res:0≤f.result∧f.result≤3
 body:mE G f.result f.body (bU f.pos f.params []).2
 ends:f.result=0∨bE f.body=true
 few:f.params.length≤16
theorem yI {G:aO} {f:Fn} (e:(eV G f).1=0):TyF G f:=by
 unfold eV at e;dsimp only at e;by_cases c1:(bU f.pos f.params []).1.1≠0
 ·rw [if_pos c1] at e
  exact absurd e c1
 rw [if_neg c1] at e;by_cases c2:f.result<0∨3<f.result
 ·rw [if_pos c2] at e
  exact absurd e (by simp)
 rw [if_neg c2] at e;by_cases c3:16<f.params.length∨64<wrap64 (f.params.length+dC 0 f.body)
 ·rw [if_pos c3] at e
  exact absurd e (by simp)
 rw [if_neg c3] at e;obtain ⟨e1,e2⟩:=bF e;refine ⟨by simpa using c1,by omega,jl _ _ _ e1,?_,by omega⟩;have:=dT (by decide) e2;simpa using this
theorem oL (pos:Int):∀(l:List (ByteArray×Int)) (V:aR),(bU pos l V).1.1=0→∀p,p∈l→1≤p.2∧p.2≤3
 | [],_=>fun _ p h=>by cases h
 | q :: l,V=>fun e p h=>by
  rw [bU] at e;split at e
  ·exact absurd e (by simp)
  split at e
  ·exact absurd e (by simp)
  ·rename_i c
   rcases List.mem_cons.1 h with rfl | h
   ·omega
   ·exact oL pos l _ e p h
def o9 (F:List Fn) (G:aO):Prop:=∀k fn,aI G k=some fn→ba F k<F.length∧F.getD (ba F k) default=fn
theorem oH:∀(a b:List Fn) (k:ByteArray),(∀f,f∈a→f.name≠k)→ba (a++b) k=a.length+ba b k
 | [],b,k,_=>by rw [List.nil_append,List.length_nil,Nat.zero_add]
 | f :: a,b,k,h=>by
  rw [List.cons_append,ba,if_neg (h f (List.mem_cons_self ..)),oH a b k (fun g hg=>h g (List.mem_cons_of_mem _ hg)),List.length_cons];omega
theorem qw:∀(a b:List Fn) (k:ByteArray),ba a k<a.length→ba (a++b) k=ba a k
 | f :: a,b,k,h=>by
  rw [List.cons_append,ba];rw [ba] at h ⊢;by_cases c:f.name=k
  ·rw [if_pos c,if_pos c]
  ·rw [if_neg c] at h
   rw [if_neg c,if_neg c,qw a b k (by simpa using h)]
theorem lE:∀(l a:List Fn) (G:aO),(dl l G).1.1=0→o9 a G→(∀f,f∈a→(aI G f.name).isSome)→(a.map (·.name)).Nodup→o9 (a++l) (dl l G).2∧((a++l).map (·.name)).Nodup
 | [],a,G,_,h,_,hn=>by rw [dl,List.append_nil];exact ⟨h,hn⟩
 | f :: l,a,G,e,h,hs,hn=>by
  rw [dl] at e ⊢;by_cases c:(aI G f.name).isSome
  ·rw [if_pos c] at e
   exact absurd e (by simp)
  rw [if_neg c] at e ⊢;have A:∀g,g∈a→g.name≠f.name:=fun g hg q=>c (q▸hs g hg);have q:=lE l (a++[f]) (bQ G f.name f) e ?_ ?_ ?_
  ·rw [List.append_assoc] at q
   exact q
  ·intro k fn hk
   rw [fQ] at hk;by_cases d:f.name=k
   ·rw [if_pos d] at hk
    subst d
    have hp:ba (a++[f]) f.name=a.length:=by
     rw [oH a [f] f.name A,ba,if_pos rfl];rfl
    rw [hp];refine ⟨by simp,?_⟩;rw [List.getD_eq_getElem?_getD,List.getElem?_append_right (Nat.le_refl _),Nat.sub_self];exact Option.some.inj hk
   ·rw [if_neg d] at hk
    obtain ⟨h1,h2⟩:=h k fn hk;rw [qw a [f] k h1];refine ⟨by rw [List.length_append];omega,?_⟩;rw [List.getD_eq_getElem?_getD,List.getElem?_append_left h1,←List.getD_eq_getElem?_getD];exact h2
  ·intro g hg
   rw [fQ];rcases List.mem_append.1 hg with hg | hg
   ·rw [if_neg (fun q=>A g hg q.symm)]
    exact hs g hg
   ·rw [List.mem_singleton.1 hg,if_pos rfl]
    rfl
  ·rw [List.map_append,List.nodup_append]
   refine ⟨hn,by simp,fun x hx y hy q=>?_⟩;obtain ⟨g,hg,rfl⟩:=List.mem_map.1 hx;have:y=f.name:=by simpa using hy
   exact A g hg (q.trans this)
theorem wY {l:List Fn} (h:(bT l).1=0):∃G,o9 l G∧(l.map (·.name)).Nodup∧∀f,f∈l→TyF G f:=by
 unfold bT at h;by_cases c:64<l.length
 ·rw [if_pos c] at h
  exact absurd h (by simp)
 rw [if_neg c] at h;by_cases d:(dl l []).1.1≠0
 ·rw [if_pos d] at h
  exact absurd h d
 rw [if_neg d] at h;obtain ⟨h1,h2⟩:=lE l [] [] (by simpa using d) (fun k fn hk=>by cases hk) (fun f hf=>by cases hf) (by simp);exact ⟨_,h1,h2,fun f hf=>yI (jx h f hf)⟩
end
end Go.Proofs.YtmlgbkomdhcaoaaGreatDoor
