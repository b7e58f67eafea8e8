/-
  EvalLoops: part 21 of its proof: see the last text.
-/
import Derived.Test.YthgcpfkochikfaaGreatPq15
import Derived.Test.YthgcpfkochikfaaGreatPq19
import Derived.Test.YthgcpfkochikfaaGreatPq20
set_option maxRecDepth 100000
set_option maxHeartbeats 16000000
namespace Go.Proofs.YthgcpfkochikfaaGreat
section
open Go.RowKit
mutual
def szE:Ex→Nat
 | .mk _ _ _ ks _=>1+dK ks
def dK:List Ex→Nat
 | []=>0
 | x :: l=>szE x+dK l
end
mutual
def szS:St→Nat
 | .mk _ _ es body els _=>1+dK es+eS body+eS els
def eS:List St→Nat
 | []=>0
 | s :: l=>szS s+eS l
end
def szF (f:Fn):Nat:=1+f.params.length+eS f.body
def gK:List Fn→Nat
 | []=>0
 | f :: l=>szF f+gK l
mutual
def okE:Ex→Prop
 | .mk op n t ks _=>(aY n∧(op=3∨op=4→t.size≤64))∧dD ks
def dD:List Ex→Prop
 | []=>True
 | x :: l=>okE x∧dD l
end
mutual
def okS:St→Prop
 | .mk op t es body els _=>(t.size≤64∧(op=1∨op=2∨op=4→t.size≠0))∧dD es∧fi body∧fi els
def fi:List St→Prop
 | []=>True
 | s :: l=>okS s∧fi l
end
def gF:List Fn→Prop
 | []=>True
 | f :: l=>(f.name.size≤64∧fi f.body∧∀p,p∈f.params→p.1.size≤64)∧gF l
theorem qm:∀(l r:List Ex),dK (l++r)=dK l+dK r
 | [],r=>by rw [dK];simp
 | x :: l,r=>by rw [List.cons_append,dK,dK,qm l r];omega
theorem qC:∀(l r:List St),eS (l++r)=eS l+eS r
 | [],r=>by rw [eS];simp
 | x :: l,r=>by rw [List.cons_append,eS,eS,qC l r];omega
theorem rS:∀(l r:List Fn),gK (l++r)=gK l+gK r
 | [],r=>by simp [gK]
 | x :: l,r=>by rw [List.cons_append,gK,gK,rS l r];omega
theorem rh:∀(l r:List Ex),dD (l++r) ↔ dD l∧dD r
 | [],r=>by rw [dD];simp
 | x :: l,r=>by rw [List.cons_append,dD,dD,rh l r,and_assoc]
theorem qL:∀(l r:List St),fi (l++r) ↔ fi l∧fi r
 | [],r=>by rw [fi];simp
 | x :: l,r=>by rw [List.cons_append,fi,fi,qL l r,and_assoc]
theorem qT:∀(l r:List Fn),gF (l++r) ↔ gF l∧gF r
 | [],r=>by rw [gF];simp
 | x :: l,r=>by rw [List.cons_append,gF,gF,qT l r];simp only [and_assoc]
def Nums (l:List Tk):Prop:=∀t,t∈l→aY t.num∧t.text.size≤64∧(t.kind=1→t.text.size≠0)
theorem Nums.tail {l:List Tk} (h:Nums l):Nums l.tail:=fun t ht=>h t (List.mem_of_mem_tail ht)
def Gd {α:Type} (sz:α→Nat) (ok:α→Prop) (a:Nat) (p:Par α):Prop:=∀l x r,Nums l→p l=.ok (x,r)→sz x+r.length≤l.length+a∧ok x∧Nums r
section
variable {α β:Type} {sz:α→Nat} {ok:α→Prop} {sz2:β→Nat} {ok2:β→Prop}
theorem Gd.ret {a:Nat} {x:α} (h:sz x≤a) (h2:ok x):Gd sz ok a (okP x):=fun l y r hn e=>by
 cases e
 exact ⟨by omega,h2,hn⟩
theorem Gd.eats {a:Nat} {p:Par β} {f:β→Par α} (h:∀l x r,Nums l→p l=.ok (x,r)→r.length+1≤l.length∧Nums r) (hf:∀x,Gd sz ok (a+1) (f x)):Gd sz ok a (p.bind f):=fun l y r hn e=>by
 obtain ⟨x,q,h1,h2⟩:=aK e;obtain ⟨g1,g2⟩:=h l x q hn h1;obtain ⟨k1,k2,k3⟩:=hf x q y r g2 h2;exact ⟨by omega,k2,k3⟩
theorem Gd.with {a:Nat} {p:Par β} {f:β→Par α} (h:Gd sz2 ok2 0 p) (hf:∀x,ok2 x→Gd sz ok (a+sz2 x) (f x)):Gd sz ok a (p.bind f):=fun l y r hn e=>by
 obtain ⟨x,q,h1,h2⟩:=aK e;obtain ⟨g1,g2,g3⟩:=h l x q hn h1;obtain ⟨k1,k2,k3⟩:=hf x g2 q y r g3 h2;exact ⟨by omega,k2,k3⟩
theorem Gd.tail {a:Nat} {p:Par α} {l:List Tk} {s:ByteArray} (ha:atS l 0 s=true) (h:Gd sz ok (a+1) p) {x:α} {r:List Tk} (hn:Nums l) (e:p l.tail=.ok (x,r)):sz x+r.length≤l.length+a∧ok x∧Nums r:=by
 have q:=bE ha;obtain ⟨k1,k2,k3⟩:=h l.tail x r hn.tail e;exact ⟨by omega,k2,k3⟩
end
def BM {α:Type} (p:Par α):Prop:=∀l x r,Nums l→p l=.ok (x,r)→r.length+1≤l.length∧Nums r
theorem bJ (en:Int) (s:ByteArray):BM (bh en s):=fun l x r hn e=>by
 have h:=aS en s _ _ _ e;unfold bh at e;split at e
 ·cases e;exact ⟨h,hn.tail⟩
 ·cases e
theorem oV (en:Int):BM (ft en):=fun l x r hn e=>by
 have h:=dM en _ _ _ e;obtain ⟨t,q,h1,h2⟩:=aK e
 cases h2
 unfold eB at h1
 cases l with
 | nil=>cases h1
 | cons a l =>
  dsimp only at h1;split at h1
  ·cases h1;exact ⟨h,hn.tail⟩
  ·cases h1
theorem pU {α:Type} {sz:α→Nat} {ok:α→Prop} {szs:List α→Nat} {oks:List α→Prop} (hs:∀l x,szs (l++[x])=szs l+sz x) (ho:∀l x,oks l→ok x→oks (l++[x])) (en:Int) (one:Par α) (h:Gd sz ok 0 one) :
    ∀(f:Nat) (first:Bool) (acc:List α),oks acc→Gd szs oks (szs acc) (eN en one f first acc)
 | 0,_,_,_=>fun l x r hn e=>by cases e
 | f+1,first,acc,ha=>fun l x r hn e=>by
  rw [iG] at e;split at e
  ·rename_i hq
   have:=bE hq
   cases e
   exact ⟨by omega,ha,hn.tail⟩
  ·obtain ⟨_,q,h1,h2⟩:=aK e
   obtain ⟨y,q2,h3,h4⟩:=aK h2
   have g:q.length≤l.length∧Nums q:=by
    cases first
    ·have:=bJ en gD l _ q hn h1;exact ⟨by omega,this.2⟩
    ·cases h1;exact ⟨Nat.le_refl _,hn⟩
   obtain ⟨k1,k2,k3⟩:=h q y q2 g.2 h3;obtain ⟨j1,j2,j3⟩:=pU hs ho en one h f false (acc++[y]) (ho _ _ ha k2) q2 x r k3 h4;rw [hs] at j1;exact ⟨by omega,j2,j3⟩
theorem uh (en:Int) (n:Nat) (N:Par Ex) (h:Gd szE okE 0 N):∀(f:Nat) (x:Ex),okE x→Gd szE okE (szE x) (eo en n N f x)
 | 0,x,hx=>Gd.ret (Nat.le_refl _) hx
 | f+1,x,hx=>fun l y r hn e=>by
  rw [kf] at e;split at e
  ·cases e;exact ⟨by omega,hx,hn⟩
  ·rename_i s hs
   have C:=List.find?_some hs;have D:=bE C;obtain ⟨z,q,h1,h2⟩:=aK e;obtain ⟨k1,k2,k3⟩:=h _ _ _ hn.tail h1
   have A:∀p,okE (.mk 6 0 s [x,z] p):=fun p=>by
    rw [okE,dD,dD,dD];exact ⟨⟨by constructor<;>decide,fun h=>absurd h (by decide)⟩,hx,k2,trivial⟩
   have B:∀p,szE (.mk 6 0 s [x,z] p)=1+(szE x+szE z):=fun p=>by rw [szE,dK,dK,dK];omega
   split at h2
   ·cases h2
    exact ⟨by rw [B];omega,A _,k3⟩
   ·obtain ⟨j1,j2,j3⟩:=uh en n N h f _ (A (aQ en l)) q y r k3 h2
    rw [B] at j1;exact ⟨by omega,j2,j3⟩
theorem mQ (en:Int) (one:Par Ex) (h:Gd szE okE 0 one):∀j,Gd szE okE 0 (dn en one j)
 | 0=>h
 | j+1=>fun l y r hn e=>by
  have hj:=mQ en one h j;obtain ⟨x,q,h1,h2⟩:=aK (show ((dn en one j).bind fun x r=>eo en (4-j) (dn en one j) (r.length+1) x r) l=_ from e);obtain ⟨k1,k2,k3⟩:=hj _ _ _ hn h1;obtain ⟨j1,j2,j3⟩:=uh en (4-j) _ hj _ _ k2 _ _ _ k3 h2;exact ⟨by omega,j2,j3⟩
theorem sm (en:Int) (E:Par Ex) (h:Gd szE okE 0 E):Gd szE okE 0 (dI en E):=
 Gd.eats (bJ en cV) fun _=>(h.with fun x hx=>(Gd.eats (bJ en cZ) fun _=>Gd.ret (by omega) hx:Gd szE okE (1+szE x) _):Gd szE okE 1 _)
theorem kW:aY 0:=by constructor<;>decide
theorem Dc:aY 1:=by constructor<;>decide
theorem ug (op n:Int) (t:ByteArray) (x:Ex) (p:Int):szE (.mk op n t [x] p)=1+szE x:=by rw [szE,dK,dK];omega
theorem uB (op:Int) (t:ByteArray) {x:Ex} (p:Int) (h:okE x) (h3:¬(op=3∨op=4)):okE (.mk op 0 t [x] p):=by rw [okE,dD,dD];exact ⟨⟨kW,fun q=>absurd q h3⟩,h,trivial⟩
theorem ky (op n:Int) (t:ByteArray) (p:Int):szE (.mk op n t [] p)=1:=by rw [szE,dK]
theorem kG (op:Int) {n:Int} (t:ByteArray) (p:Int) (h:aY n) (h3:op=3∨op=4→t.size≤64):okE (.mk op n t [] p):=by rw [okE,dD];exact ⟨⟨h,h3⟩,trivial⟩
theorem rf (en:Int) (E:Par Ex) (h:Gd szE okE 0 E):Gd szE okE 0 (iy en E):=fun l x r hn e=>by
 have hk:∀op p,¬(op=3∨op=4)→Gd szE okE 1 ((dI en E).bind (fun x=>okP (.mk op 0 ByteArray.empty [x] p))):=fun op p h3=>(sm en E h).with fun x hx=>Gd.ret (by rw [ug];omega) (uB _ _ _ hx h3)
 unfold iy at e;split at e
 ·rename_i hq;have:=bE hq;cases e;exact ⟨by rw [ky];omega,kG _ _ _ Dc (fun h=>absurd h (by decide)),hn.tail⟩
 ·split at e
  ·rename_i hq;have:=bE hq;cases e;exact ⟨by rw [ky];omega,kG _ _ _ kW (fun h=>absurd h (by decide)),hn.tail⟩
  ·split at e
   ·exact sm en E h l x r hn e
   ·split at e
    ·rename_i hq;exact Gd.tail hq (hk _ _ (by decide)) hn e
    ·split at e
     ·rename_i hq;exact Gd.tail hq (hk _ _ (by decide)) hn e
     ·exact (Gd.eats (bJ en zT) fun _=>hk _ _ (by decide)) l x r hn e
theorem vu (l:List Ex) (x:Ex):dK (l++[x])=dK l+szE x:=by rw [qm,dK,dK];omega
theorem vZ (l:List Ex) (x:Ex) (h:dD l) (hx:okE x):dD (l++[x]):=by rw [rh,dD,dD];exact ⟨h,hx,trivial⟩
theorem tV (en:Int) (E:Par Ex) (h:Gd szE okE 0 E):Gd szE okE 0 (dL en E):=fun l x r hn e=>by
 unfold dL at e
 cases l with
 | nil=>exact rf en E h _ _ _ hn e
 | cons a q =>
  have hq:Nums q:=fun t ht=>hn t (List.mem_cons_of_mem _ ht);dsimp only at e;split at e
  ·cases e;exact ⟨by rw [ky];simp;omega,kG _ _ _ (hn a (List.mem_cons_self ..)).1 (fun h=>absurd h (by decide)),hq⟩
  ·split at e
   ·cases e;exact ⟨by rw [ky];simp;omega,kG _ _ _ kW (fun _=>(hn a (List.mem_cons_self ..)).2.1),hq⟩
   ·split at e
    ·split at e
     ·rename_i hs
      have:=bE hs;obtain ⟨k,q2,h1,h2⟩:=aK e
      cases h2
      obtain ⟨k1,k2,k3⟩:=pU (szs:=dK) (oks:=dD) vu vZ en E h (q.length+1) true [] (by rw [dD];trivial) _ _ _ hq.tail h1;refine ⟨?_,?_,k3⟩
      ·rw [szE]
       rw [dK] at k1;simp only [List.length_cons]
       omega
      ·rw [okE];exact ⟨⟨kW,fun h=>absurd h (by decide)⟩,k2⟩
     ·cases e;exact ⟨by rw [ky];simp;omega,kG _ _ _ kW (fun _=>(hn a (List.mem_cons_self ..)).2.1),hq⟩
    ·exact rf en E h _ _ _ hn e
theorem yO (en:Int):∀k,Gd szE okE 0 (fQ en k)
 | 0=>fun l x r hn e=>by cases e
 | k+1=>fun l x r hn e=>by
  have ih:=yO en k;have hk:∀s p,Gd szE okE 1 ((fQ en k).bind (fun x=>okP (.mk 7 0 s [x] p))):=fun s p=>ih.with fun x hx=>Gd.ret (by rw [ug];omega) (uB _ _ _ hx (by decide))
  unfold fQ at e;split at e
  ·rename_i hq;exact Gd.tail hq (hk _ _) hn e
  ·split at e
   ·rename_i hq;exact Gd.tail hq (hk _ _) hn e
   ·exact tV en _ (mQ en _ ih 5) l x r hn e
theorem zV (en:Int) (k:Nat):Gd szE okE 0 (jj en k):=mQ en _ (yO en k) 5
theorem vy (l:List St) (x:St):eS (l++[x])=eS l+szS x:=by rw [qC,eS,eS];omega
theorem uQ (l:List St) (x:St) (h:fi l) (hx:okS x):fi (l++[x]):=by rw [qL,fi,fi];exact ⟨h,hx,trivial⟩
theorem iz (en:Int) (s:St) {a:Nat} (h:szS s≤a+1) (hs:okS s):Gd szS okS a (iL en s):=Gd.eats (bJ en fq) fun _=>Gd.ret h hs
theorem gH (op:Int) (t:ByteArray) (es:List Ex) (b e:List St) (p:Int):szS (.mk op t es b e p)=1+dK es+eS b+eS e:=by rw [szS]
theorem j7 (x:Ex):dK [x]=szE x:=by rw [dK,dK];omega
theorem xQ (x y:Ex):dK [x,y]=szE x+szE y:=by rw [dK,dK,dK];omega
theorem gI:eS []=0:=by rw [eS]
theorem BG:dK []=0:=by rw [dK]
theorem jW {x:Ex} (h:okE x):dD [x]:=by rw [dD,dD];exact ⟨h,trivial⟩
theorem yC {x y:Ex} (h:okE x) (g:okE y):dD [x,y]:=by rw [dD,dD,dD];exact ⟨h,g,trivial⟩
theorem dO:fi []:=by rw [fi];trivial
theorem BO:dD []:=by rw [dD];trivial
theorem gE {op:Int} {t:ByteArray} {es:List Ex} {b e:List St} {p:Int} (h1:dD es) (h2:fi b) (h3:fi e) (h0:t.size≤64∧(op=1∨op=2∨op=4→t.size≠0):=by decide):okS (.mk op t es b e p):=by rw [okS];exact ⟨h0,h1,h2,h3⟩
theorem vf {en:Int} {l r:List Tk} {x:ByteArray} (hn:Nums l) (e:ft en l=.ok (x,r)):x.size≤64∧x.size≠0:=by
 obtain ⟨t,q,h1,h2⟩:=aK e
 cases h2
 unfold eB at h1
 cases l with
 | nil=>cases h1
 | cons a l =>
  dsimp only at h1;split at h1
  ·rename_i hk
   cases h1;exact ⟨(hn _ (List.mem_cons_self ..)).2.1,(hn _ (List.mem_cons_self ..)).2.2 (eq_of_beq hk)⟩
  ·cases h1
theorem Gd.named {α:Type} {sz:α→Nat} {ok:α→Prop} {a:Nat} {en:Int} {f:ByteArray→Par α} (hf:∀x:ByteArray,x.size≤64∧x.size≠0→Gd sz ok (a+1) (f x)):Gd sz ok a ((ft en).bind f):=fun l y r hn e=>by
 obtain ⟨x,q,h1,h2⟩:=aK e;obtain ⟨h3,h4⟩:=oV en _ _ _ hn h1;obtain ⟨k1,k2,k3⟩:=hf x (vf hn h1) _ _ _ h4 h2;exact ⟨by omega,k2,k3⟩
theorem zW (en:Int) (E:Par Ex) (B:Par (List St)) (hE:Gd szE okE 0 E) (hB:Gd eS fi 0 B):Gd szS okS 0 (jz en E B):=fun l x r hn e=>by
 unfold jz at e;dsimp only at e;split at e
 ·rename_i hq
  refine Gd.tail hq (Gd.named fun n A=>Gd.eats (bJ en sEq) fun _=>hE.with fun x hx=>iz en _ ?_ ?_) hn e
  ·rw [gH,j7,gI];omega
  ·exact gE (jW hx) dO dO ⟨A.1,fun _=>A.2⟩
 split at e
 ·rename_i hq
  refine Gd.tail hq (hE.with fun x hx=>hB.with fun b hb=>(fun l y r hn e=>?_:Gd szS okS _ _)) hn e;split at e
  ·rename_i C
   refine Gd.tail C (hB.with fun e he=>Gd.ret ?_ (gE (jW hx) hb he)) hn e;rw [gH,j7];omega
  ·cases e
   exact ⟨by rw [gH,j7,gI];omega,gE (jW hx) hb dO,hn⟩
 split at e
 ·rename_i hq
  refine Gd.tail hq (Gd.named fun n A=>Gd.eats (bJ en sEq) fun _=>hE.with fun x hx=>Gd.eats (bJ en sTo) fun _=>hE.with fun y hy=>hB.with fun b hb=>Gd.ret ?_ (gE (yC hx hy) hb dO ⟨A.1,fun _=>A.2⟩)) hn e;rw [gH,xQ,gI];omega
 split at e
 ·rename_i hq
  split at e
  ·exact Gd.tail hq (iz en _ (by rw [gH,BG,gI];omega) (gE BO dO dO)) hn e
  ·refine Gd.tail hq (hE.with fun x hx=>iz en _ ?_ (gE (jW hx) dO dO)) hn e
   rw [gH,j7,gI];omega
 split at e
 ·rename_i hq
  refine Gd.tail hq (Gd.eats (bJ en cV) fun _=>hE.with fun x hx=>Gd.eats (bJ en gD) fun _=>hE.with fun y hy=>Gd.eats (bJ en cZ) fun _=>iz en _ ?_ (gE (yC hx hy) dO dO)) hn e;rw [gH,xQ,gI];omega
 split at e
 ·rename_i hq
  refine Gd.tail hq (Gd.eats (bJ en cV) fun _=>hE.with fun x hx=>Gd.eats (bJ en cZ) fun _=>iz en _ ?_ (gE (jW hx) dO dO)) hn e;rw [gH,j7,gI];omega
 have h1:Gd szS okS 0 ((ft en).bind fun n=>(bh en sEq).bind fun _=>E.bind fun x=>iL en (.mk 2 n [x] [] [] (aQ en l))):=
  Gd.named fun n A=>Gd.eats (bJ en sEq) fun _=>hE.with fun x hx=>iz en _ (by rw [gH,j7,gI];omega) (gE (jW hx) dO dO ⟨A.1,fun _=>A.2⟩)
 have h2:Gd szS okS 0 (E.bind fun x=>iL en (.mk 8 ByteArray.empty [x] [] [] (aQ en l))):=
  hE.with fun x hx=>iz en _ (by rw [gH,j7,gI];omega) (gE (jW hx) dO dO)
 split at e<;>split at e<;>first
  | exact h1 _ _ _ hn e
  | exact h2 _ _ _ hn e
theorem rP (en:Int) (P:Par St) (h:Gd szS okS 0 P):∀(f:Nat) (A:List St),fi A→Gd eS fi (eS A) (fw en P f A)
 | 0,A,_=>fun l x r hn e=>by cases e
 | f+1,A,ha=>fun l x r hn e=>by
  rw [gl] at e;split at e
  ·rename_i hq;have:=bE hq;cases e;exact ⟨by omega,ha,hn.tail⟩
  ·obtain ⟨y,q,h1,h2⟩:=aK e
   obtain ⟨k1,k2,k3⟩:=h _ _ _ hn h1;obtain ⟨j1,j2,j3⟩:=rP en P h f (A++[y]) (uQ _ _ ha k2) _ _ _ k3 h2;rw [vy] at j1;exact ⟨by omega,j2,j3⟩
theorem mB (en:Int):∀k,Gd eS fi 0 (dG en k)
 | 0=>fun l x r hn e=>by
  unfold dG at e;split at e<;>cases e
 | k+1=>fun l x r hn e=>by
  unfold dG at e;obtain ⟨y,q,h1,h2⟩:=aK e;obtain ⟨g1,g2⟩:=bJ en dE _ _ _ hn h1;obtain ⟨k1,k2,k3⟩:=rP en _ (zW en _ _ (zV en k) (mB en k)) _ [] dO _ _ _ g2 h2;rw [gI] at k1;exact ⟨by omega,k2,k3⟩
theorem qO (en:Int):BM (lD en):=fun l x r hn e=>by
 unfold lD at e;split at e
 ·rename_i hq;have:=bE hq;cases e;exact ⟨this,hn.tail⟩
 ·split at e
  ·rename_i hq;have:=bE hq;cases e;exact ⟨this,hn.tail⟩
  ·obtain ⟨y,q,h1,h2⟩:=aK e
   cases h2
   exact bJ en iw _ _ _ hn h1
theorem yA (en:Int):Gd (fun _:ByteArray×Int=>1) (fun p=>p.1.size≤64) 0 (lj en):=
 Gd.named fun _ hn=>Gd.eats (bJ en kj) fun _=>Gd.eats (qO en) fun _=>Gd.ret (by omega) hn.1
theorem uS {en:Int} {l r:List Tk} {x:ByteArray} (hn:Nums l) (e:ft en l=.ok (x,r)):x.size≤64:=by
 obtain ⟨t,q,h1,h2⟩:=aK e
 cases h2
 unfold eB at h1
 cases l with
 | nil=>cases h1
 | cons a l =>
  dsimp only at h1;split at h1
  ·cases h1;exact (hn _ (List.mem_cons_self ..)).2.1
  ·cases h1
theorem Ai (en:Int):Gd szF (fun f=>f.name.size≤64∧fi f.body∧∀p,p∈f.params→p.1.size≤64) 0 (gu en):=fun l x r hn e=>by
 unfold gu at e;obtain ⟨_,q1,h1,e⟩:=aK e;obtain ⟨n,q2,h2,e⟩:=aK e;obtain ⟨_,q3,h3,e⟩:=aK e;obtain ⟨ps,q4,h4,e⟩:=aK e;obtain ⟨a1,n1⟩:=bJ en sFn _ _ _ hn h1;obtain ⟨a2,n2⟩:=oV en _ _ _ n1 h2;have A:=uS n1 h2;obtain ⟨a3,n3⟩:=bJ en cV _ _ _ n2 h3;obtain ⟨a4,o4,n4⟩:=pU (szs:=List.length) (oks:=fun l=>∀p,p∈l→p.1.size≤64) (fun l x=>by simp) (fun l x h hx p hp=>(List.mem_append.1 hp).elim (h p) (fun q=>List.mem_singleton.1 q▸hx)) en _ (yA en) _ _ [] (fun p h=>by cases h) _ _ _ n3 h4;simp only [List.length_nil] at a4
 split at e
 ·rename_i hq
  have:=bE hq;obtain ⟨t,q5,h5,e⟩:=aK e;obtain ⟨b,q6,h6,e⟩:=aK e;obtain ⟨a5,n5⟩:=qO en _ _ _ n4.tail h5;obtain ⟨a6,o6,n6⟩:=mB en 32 _ _ _ n5 h6
  cases e
  exact ⟨by unfold szF;dsimp only;omega,⟨A,o6,o4⟩,n6⟩
 ·obtain ⟨b,q6,h6,e⟩:=aK e
  obtain ⟨a6,o6,n6⟩:=mB en 32 _ _ _ n4 h6
  cases e
  exact ⟨by unfold szF;dsimp only;omega,⟨A,o6,o4⟩,n6⟩
theorem uq (en:Int):∀(f:Nat) (A:List Fn),gF A→Gd gK gF (gK A) (gz en f A)
 | 0,A,ha=>fun l x r hn e=>by cases e;exact ⟨by omega,ha,hn⟩
 | f+1,A,ha=>fun l x r hn e=>by
  unfold gz at e;split at e
  ·cases e;exact ⟨by omega,ha,hn⟩
  ·obtain ⟨y,q,h1,e⟩:=aK e
   obtain ⟨k1,k2,k3⟩:=Ai en _ _ _ hn h1;obtain ⟨j1,j2,j3⟩:=uq en f (A++[y]) (by rw [qT,gF,gF];exact ⟨ha,k2,trivial⟩) _ _ _ k3 e;rw [rS,gK,gK] at j1;exact ⟨by omega,j2,j3⟩
theorem xP:∀(l:List UInt8) (n m:Nat),n≤9223372036854775807→hZ l n=some m→m≤9223372036854775807
 | [],n,m,hn,e=>by rw [hZ] at e;cases e;exact hn
 | c :: r,n,m,hn,e=>by
  rw [hZ] at e;split at e
  ·cases e
  ·rename_i h
   refine xP r _ m ?_ e;have h2:n≤(9223372036854775807-(c.toNat-48)) / 10:=by omega
   have:=c.toNat_lt;omega
theorem sr (l:List UInt8) (hl:l.length≤2):(bQ l).length≤64:=by
 unfold bQ;repeat' split
 all_goals simp
 all_goals omega
theorem oU (s:List UInt8) (a q:Nat):(cR s a q).length≤q-a:=by
 unfold cR;simp
 omega
theorem tP {l:List UInt8} (h:gU l=true):l.length≤64:=by
 have key:∀l,l∈wordTab→l.length≤64:=by decide
 unfold gU at h;exact key l (by simpa using h)
theorem xA {s:List UInt8} {a:Nat} {t:Tk} {q:Nat} (h:cY s a=.ok (t,q)):aY t.num∧t.text.size≤64∧(t.kind=1→t.text.size≠0):=by
 have h0:∀k l p,l.length≤64→(k=1→l.length≠0)→aY (gf k l 0 p).num∧(gf k l 0 p).text.size≤64∧((gf k l 0 p).kind=1→(gf k l 0 p).text.size≠0):=fun _ _ _ hl h1=>⟨kW,hl,h1⟩
 unfold cY at h;dsimp only at h;split at h
 ·rename_i A
  have B:(cR s a (bf cS s a)).length≠0:=by
   have ha:a<s.length:=by
    refine Nat.lt_of_not_le fun C=>?_;rw [List.getD_eq_getElem?_getD,List.getElem?_eq_none C] at A;exact absurd A (by decide)
   rw [List.getD_eq_getElem?_getD,List.getElem?_eq_getElem ha] at A;have h1:=fd (p:=cS) ha (by unfold cS;rw [show gm s[a]=true from A];rfl);have h2:=eK cS s (a+1);have h3:=fj (p:=cS) (s:=s) (a:=a) (by omega);unfold cR;rw [List.length_take,List.length_drop];omega
  split at h
  ·rename_i hw;cases h;exact h0 _ _ _ (tP hw) (fun h=>absurd h (by decide))
  ·split at h
   ·cases h
   ·rename_i E;cases h;exact h0 _ _ _ (by omega) (fun _=>B)
 ·split at h
  ·split at h
   ·cases h
   ·rename_i n hn
    cases h
    have:=xP _ _ _ (by omega) hn;refine ⟨?_,by show 0≤64;omega,fun h=>absurd (show (2:Int)=1 from h) (by decide)⟩;show aY (n:Int)
    constructor<;>omega
  ·split at h
   ·split at h
    ·cases h
    ·split at h
     ·cases h
     ·rename_i D
      cases h
      refine h0 _ _ _ ?_ (fun h=>absurd h (by decide));have:=oU s (a+1) (bf dF s (a+1));omega
   ·split at h
    ·cases h
    ·cases h
     refine h0 _ _ _ (sr _ ?_) (fun h=>absurd h (by decide));have:=oU s a (min (a+2) s.length);omega
theorem qr (s:List UInt8):∀(f a:Nat) (A l:List Tk),Nums A→A.length≤2048→lq s f a A=.ok l→Nums l∧l.length≤2048
 | 0,a,A,l,ho,hl,e=>by cases e;exact ⟨ho,hl⟩
 | f+1,a,A,l,ho,hl,e=>by
  unfold lq at e;split at e
  ·split at e
   ·cases e
   ·rename_i t q hn
    split at e
    ·cases e
    ·rename_i B
     refine qr s f _ _ l (fun x hx=>?_) (by simp;omega) e;rcases List.mem_append.1 hx with hx | hx
     ·exact ho x hx
     ·rw [List.mem_singleton] at hx
      subst hx;exact xA hn
  ·cases e;exact ⟨ho,hl⟩
theorem fc {s:List UInt8} {l:List Fn} (h:cU s=.ok l):gK l≤2048∧gF l∧(bL l).1=0:=by
 unfold cU at h;split at h
 ·cases h
 ·rename_i p hp
  split at h
  ·cases h
  ·rename_i hc
   cases h
   refine ⟨?_,?_,by simpa using hc⟩
   all_goals
    unfold dX at hp;split at hp
    ·cases hp
    ·rename_i tk ht
     split at hp
     ·cases hp
     ·rename_i x r hq
      cases hp
      unfold iP at ht;split at ht
      ·cases ht
      ·obtain ⟨hn,hl⟩:=qr s _ _ _ _ (fun t h=>by cases h) (by simp) ht
       obtain ⟨k1,k2,_⟩:=uq _ _ [] (by rw [gF];trivial) _ _ _ hn hq;rw [gK] at k1
       first
        | exact k2
        | omega
end
section
open Go.RowKit
theorem ew {a b:Flt} (h:(orF a b).1=0):a.1=0∧b.1=0:=by
 unfold orF at h;split at h
 ·rename_i g;exact absurd h g
 ·rename_i g;exact ⟨by simpa using g,h⟩
theorem pX {r:Int×Flt} {t pos:Int} (h:(lA r t pos).1=0):r.2.1=0:=by
 unfold lA at h;split at h
 ·rename_i g;exact absurd h g
 ·rename_i g;simpa using g
def o9 (F:List Fn) (G:aU):Prop:=∀k fn,aL G k=some fn→cE F k=some fn
mutual
theorem py {F:List Fn} {G:aU} (hf:o9 F G) (V:bq):∀x:Ex,(aM G V x).2.1=0→okE x→WfE F x
 | .mk op num text ks pos=>by
  intro e ho;rw [okE] at ho;rw [WfE];rw [aM] at e;by_cases c1:cn op=-2∨(0≤cn op∧cn op≠ks.length)
  ·rw [if_pos c1] at e
   exact absurd e (show ¬(51:Int)=0 by decide)
  rw [if_neg c1] at e
  have D:1≤op∧op≤10:=by
   by_cases q:1≤op∧op≤10
   ·exact q
   ·refine absurd (.inl ?_) c1
    unfold cn;rw [if_neg (by omega),if_neg (by omega),if_neg (by omega),if_neg (by omega)]
  have B:0≤cn op→cn op=ks.length:=fun h=>by
   by_cases q:cn op=ks.length
   ·exact q
   ·exact absurd (Or.inr ⟨h,q⟩) c1
  have C:op≤4→ks=[]:=fun h=>by
   have h0:cn op=0:=by unfold cn;rw [if_pos (by omega)]
   exact List.eq_nil_of_length_eq_zero (by have:=B (by omega);omega)
  have h1:op=7∨op=8∨op=9∨op=10→ks.length=1:=fun h=>by
   have h0:cn op=1:=by unfold cn;rw [if_neg (by omega),if_pos h]
   have:=B (by omega);omega
  have h2:op=6→ks.length=2:=fun h=>by
   have h0:cn op=2:=by unfold cn;rw [if_neg (by omega),if_neg (by omega),if_pos h]
   have:=B (by omega);omega
  have A:=fun ts=>mI hf V ks ts;refine ⟨⟨ho.1.1,fun q=>Nat.le_trans (ho.1.2 (.inl q)) (by decide),fun q=>?_,fun q=>⟨h2 q,?_⟩,fun q=>⟨h1 (.inl q),?_⟩,fun q=>h1 (.inr q),D⟩,?_⟩
  ·subst q
   rw [if_neg (by decide),if_neg (by decide),if_neg (by decide),if_neg (by decide),if_pos rfl] at e
   cases hl:aL G text with
   | none=>rw [hl] at e;exact absurd e (by simp)
   | some fn =>
    rw [hl] at e;dsimp only at e;by_cases c7:fn.params.length≠ks.length
    ·rw [if_pos c7] at e
     exact absurd e (show ¬(51:Int)=0 by decide)
    ·exact ⟨fn,hf _ _ hl,by simpa using c7⟩
  ·subst q
   rw [if_neg (by decide),if_neg (by decide),if_neg (by decide),if_neg (by decide),if_neg (by decide),if_pos rfl] at e;unfold zY;by_cases c8:(cC text.toList).1≠0
   ·unfold cC at c8
    split at c8
    ·rename_i q;rcases q with q | q | q | q<;>simp [q]
    split at c8
    ·rename_i q;rcases q with q | q | q | q<;>simp [q]
    split at c8
    ·rename_i q;rcases q with q | q<;>simp [q]
    ·exact absurd rfl c8
   rw [if_neg c8] at e;by_cases c9:text.toList≠[43]∧text.toList≠[61,61]∧text.toList≠[33,61]
   ·rw [if_pos c9] at e
    exact absurd e (show ¬(51:Int)=0 by decide)
   ·simp only [ne_eq,not_and,Decidable.not_not] at c9
    by_cases d1:text.toList=[43]
    ·exact .inl d1
    ·by_cases d2:text.toList=[61,61]
     ·simp [d2]
     ·simp [c9 d1 d2]
  ·subst q
   rw [if_neg (by decide),if_neg (by decide),if_neg (by decide),if_neg (by decide),if_neg (by decide),if_neg (by decide),if_pos rfl] at e;by_cases d1:text.toList=[45]
   ·exact .inl d1
   ·rw [if_neg d1] at e
    by_cases d2:text.toList=[33]
    ·exact .inr d2
    ·rw [if_neg d2] at e
     exact absurd e (show ¬(51:Int)=0 by decide)
  ·by_cases c4:op≤4
   ·rw [C c4,WfEs]
    trivial
   rw [if_neg (by omega),if_neg (by omega),if_neg (by omega),if_neg (by omega)] at e;by_cases c5:op=5
   ·rw [if_pos c5] at e
    cases hl:aL G text with
    | none=>rw [hl] at e;exact absurd e (by simp)
    | some fn =>
     rw [hl] at e;dsimp only at e;by_cases c7:fn.params.length≠ks.length
     ·rw [if_pos c7] at e
      exact absurd e (show ¬(51:Int)=0 by decide)
     ·rw [if_neg c7] at e
      exact A _ e ho.2
   rw [if_neg c5] at e;by_cases c6:op=6
   ·rw [if_pos c6] at e
    by_cases c8:(cC text.toList).1≠0
    ·rw [if_pos c8] at e
     exact A _ e ho.2
    rw [if_neg c8] at e;by_cases c9:text.toList≠[43]∧text.toList≠[61,61]∧text.toList≠[33,61]
    ·rw [if_pos c9] at e
     exact absurd e (show ¬(51:Int)=0 by decide)
    rw [if_neg c9] at e;dsimp only at e;by_cases c10:(dl G V (text.toList==[43]) ks).1.1≠0
    ·rw [if_pos c10] at e
     exact absurd e c10
    exact qP hf V _ ks (by simpa using c10) ho.2
   rw [if_neg c6] at e;by_cases c7:op=7
   ·rw [if_pos c7] at e
    by_cases d1:text.toList=[45]
    ·rw [if_pos d1] at e
     exact A _ e ho.2
    rw [if_neg d1] at e;by_cases d2:text.toList=[33]
    ·rw [if_pos d2] at e
     exact A _ e ho.2
    rw [if_neg d2] at e;exact absurd e (show ¬(51:Int)=0 by decide)
   rw [if_neg c7] at e;by_cases c9:op=9
   ·rw [if_pos c9] at e
    exact A _ e ho.2
   rw [if_neg c9] at e;by_cases c10:op=10
   ·rw [if_pos c10] at e
    exact A _ e ho.2
   rw [if_neg c10] at e;exact A _ e ho.2
theorem mI {F:List Fn} {G:aU} (hf:o9 F G) (V:bq):∀(l:List Ex) (ts:List Int),(cL G V l ts).1=0→dD l→WfEs F l
 | [],ts=>fun _ _=>by rw [WfEs];trivial
 | x :: l,ts=>fun e ho=>by
  rw [cL] at e;obtain ⟨e1,e2⟩:=ew e;rw [dD] at ho;rw [WfEs];exact ⟨py hf V x (pX e1) ho.1,mI hf V l _ e2 ho.2⟩
theorem qP {F:List Fn} {G:aU} (hf:o9 F G) (V:bq) (plus:Bool):∀l:List Ex,(dl G V plus l).1.1=0→dD l→WfEs F l
 | []=>fun _ _=>by rw [WfEs];trivial
 | k :: l=>fun e ho=>by
  rw [dl] at e;rw [dD] at ho;rw [WfEs];by_cases c0:(aM G V k).2.1=0
  ·rw [if_pos c0] at e
   by_cases c:(noC ((aM G V k).1 !=0&&!(plus&&(aM G V k).1==2)) 51 k.pos).1≠0
   ·rw [if_pos c] at e
    exact absurd e c
   rw [if_neg c] at e;exact ⟨py hf V k c0 ho.1,qP hf V plus l e ho.2⟩
  ·rw [if_neg c0,if_pos c0] at e
   exact absurd e c0
end
mutual
theorem A9 {F:List Fn} {G:aU} (hf:o9 F G) (res:Int):∀(s:St) (V:bq),(cP G res s V).2.1=0→okS s→WfS F s
 | .mk op text es body els pos,V=>by
  intro e ho;rw [okS] at ho;rw [WfS];rw [cP] at e;by_cases c0:dA (.mk op text es body els pos)=false
  ·rw [if_pos c0] at e
   exact absurd e (by simp)
  rw [if_neg c0] at e
  have h:(if op=1∨op=2∨op=7∨op=8 then es.length==1&&body.length==0&&els.length==0
    else if op=6 then es.length==2&&body.length==0&&els.length==0
    else if op=5 then decide (es.length≤1)&&body.length==0&&els.length==0
    else if op=3 then es.length==1
    else if op=4 then es.length==2&&els.length==0 else false)=true:=by
   have h:dA (.mk op text es body els pos)=true:=by simpa using c0
   exact h
  have wnil:kH F []:=by rw [kH];trivial
  have one:∀{r:Int},es.length=1→(aM G V (es.headD default)).2.1=0→WfEs F es:=fun {r} q g=>by
   obtain ⟨x,rfl⟩:∃x,es=[x]:=by
    match es,q with
    | [x],_=>exact ⟨x,rfl⟩
   have A:=ho.2.1;rw [dD] at A;rw [WfEs,WfEs];exact ⟨py hf V x g A.1,trivial⟩
  by_cases c1:op=1
  ·rw [if_pos (.inl c1)] at h
   rw [if_pos c1] at e;simp only [Bool.and_eq_true,beq_iff_eq] at h
   rw [List.eq_nil_of_length_eq_zero h.1.2,List.eq_nil_of_length_eq_zero h.2];exact ⟨by omega,one (r:=0) h.1.1 (ew e).1,wnil,wnil⟩
  rw [if_neg c1] at e;by_cases c2:op=2
  ·rw [if_pos (by omega)] at h
   rw [if_pos c2] at e;simp only [Bool.and_eq_true,beq_iff_eq] at h
   rw [List.eq_nil_of_length_eq_zero h.1.2,List.eq_nil_of_length_eq_zero h.2];exact ⟨by omega,one (r:=0) h.1.1 (pX (ew (ew e).2).2),wnil,wnil⟩
  rw [if_neg c2] at e;by_cases c3:op=3
  ·rw [if_neg (by omega),if_neg (by omega),if_neg (by omega),if_pos c3,beq_iff_eq] at h
   rw [if_pos c3] at e;obtain ⟨e1,e2⟩:=ew e;obtain ⟨e2,e3⟩:=ew e2;exact ⟨by omega,one (r:=0) h (pX e1),iW hf res body V e2 ho.2.2.1,iW hf res els V e3 ho.2.2.2⟩
  rw [if_neg c3] at e;by_cases c4:op=4
  ·rw [if_neg (by omega),if_neg (by omega),if_neg (by omega),if_neg c3,if_pos c4] at h
   rw [if_pos c4] at e;simp only [Bool.and_eq_true,beq_iff_eq] at h
   obtain ⟨e1,e2⟩:=ew e;obtain ⟨e2,e3⟩:=ew e2;rw [List.eq_nil_of_length_eq_zero h.2];exact ⟨by omega,mI hf V es _ e1 ho.2.1,iW hf res body _ e3 ho.2.2.1,wnil⟩
  rw [if_neg c4] at e;by_cases c5:op=5
  ·rw [if_neg (by omega),if_neg (by omega),if_pos c5] at h
   rw [if_pos c5] at e;simp only [Bool.and_eq_true,beq_iff_eq,decide_eq_true_eq] at h
   rw [List.eq_nil_of_length_eq_zero h.1.2,List.eq_nil_of_length_eq_zero h.2];refine ⟨by omega,?_,wnil,wnil⟩;by_cases c6:es.length=0
   ·rw [List.eq_nil_of_length_eq_zero c6,WfEs]
    trivial
   ·rw [if_neg c6] at e
    exact one (r:=0) (by omega) (ew e).1
  rw [if_neg c5] at e;by_cases c8:op=8
  ·rw [if_pos (by omega)] at h
   rw [if_pos c8] at e;simp only [Bool.and_eq_true,beq_iff_eq] at h
   rw [List.eq_nil_of_length_eq_zero h.1.2,List.eq_nil_of_length_eq_zero h.2];exact ⟨by omega,one (r:=0) h.1.1 (ew e).1,wnil,wnil⟩
  rw [if_neg c8] at e;by_cases c6:op=6
  ·rw [if_neg (by omega),if_pos c6] at h
   simp only [Bool.and_eq_true,beq_iff_eq] at h
   rw [List.eq_nil_of_length_eq_zero h.1.2,List.eq_nil_of_length_eq_zero h.2];exact ⟨by omega,mI hf V es _ e ho.2.1,wnil,wnil⟩
  ·by_cases c7:op=7
   ·rw [if_pos (by omega)] at h
    simp only [Bool.and_eq_true,beq_iff_eq] at h
    rw [List.eq_nil_of_length_eq_zero h.1.2,List.eq_nil_of_length_eq_zero h.2];exact ⟨by omega,mI hf V es _ e ho.2.1,wnil,wnil⟩
   ·rw [if_neg (by omega),if_neg c6,if_neg c5,if_neg c3,if_neg c4] at h
    cases h
theorem iW {F:List Fn} {G:aU} (hf:o9 F G) (res:Int):∀(l:List St) (V:bq),(bG G res l V).1=0→fi l→kH F l
 | [],_=>fun _ _=>by rw [kH];trivial
 | s :: l,V=>fun e ho=>by
  rw [bG] at e;rw [fi] at ho;rw [kH];by_cases c:(cP G res s V).2.1≠0
  ·rw [if_pos c] at e
   exact absurd e c
  rw [if_neg c] at e;exact ⟨A9 hf res s V (by simpa using c) ho.1,iW hf res l _ e ho.2⟩
end
theorem oG:∀(a b:List Fn) (k:ByteArray),cE (a++b) k=(cE a k).or (cE b k)
 | [],b,k=>rfl
 | f :: a,b,k=>by
  rw [List.cons_append,cE,cE];by_cases c:f.name=k
  ·rw [if_pos c,if_pos c];rfl
  ·rw [if_neg c,if_neg c,oG a b k]
theorem pj:∀(l a:List Fn) (G:aU),(dm l G).1.1=0→(∀k,aL G k=cE a k)→∀k,aL (dm l G).2 k=cE (a++l) k
 | [],a,G,_,h,k=>by rw [dm,List.append_nil];exact h k
 | f :: l,a,G,e,h,k=>by
  rw [dm] at e ⊢;by_cases c:(aL G f.name).isSome
  ·rw [if_pos c] at e
   exact absurd e (by simp)
  rw [if_neg c] at e ⊢;have q:=pj l (a++[f]) (bY G f.name f) e (fun k=>?_) k
  ·rw [List.append_assoc] at q
   exact q
  ·rw [uO,oG,cE,cE,h k]
   by_cases d:f.name=k
   ·subst d
    rw [if_pos rfl,if_pos rfl];rw [h f.name] at c
    cases hc:cE a f.name with
    | none=>rfl
    | some g=>rw [hc] at c;exact absurd rfl c
   ·rw [if_neg d,if_neg d]
    cases cE a k<;>rfl
theorem uk {G:aU}:∀{l:List Fn},(gy G l).1=0→∀f,f∈l→(gi G f).1=0
 | g :: l,e,f,hf=>by
  rw [gy] at e;obtain ⟨e1,e2⟩:=ew e;rcases List.mem_cons.1 hf with rfl | hf
  ·exact e1
  ·exact uk e2 f hf
theorem rX:∀{l:List Fn} {f:Fn},gF l→f∈l→fi f.body
 | g :: l,f,h,hf=>by
  rw [gF] at h;rcases List.mem_cons.1 hf with rfl | hf
  ·exact h.1.2.1
  ·exact rX h.2 hf
theorem r8 {l:List Fn} (h:(bL l).1=0) (ho:gF l):l.length≤64∧∀f,f∈l→kH l f.body∧f.params.length≤16:=by
 unfold bL at h;by_cases c:64<l.length
 ·rw [if_pos c] at h
  exact absurd h (by simp)
 rw [if_neg c] at h;by_cases d:(dm l []).1.1≠0
 ·rw [if_pos d] at h
  exact absurd h d
 rw [if_neg d] at h
 have hk:o9 l (dm l []).2:=fun k fn q=>by
  rw [pj l [] [] (by simpa using d) (fun _=>rfl) k] at q;exact q
 refine ⟨by omega,fun f hf=>?_⟩;have e:=uk h f hf;unfold gi at e;dsimp only at e;by_cases c1:(dR f.pos f.params []).1.1≠0
 ·rw [if_pos c1] at e
  exact absurd e c1
 rw [if_neg c1] at e;by_cases c2:f.result<0∨3<f.result
 ·rw [if_pos c2] at e
  exact absurd e (by simp)
 rw [if_neg c2] at e;by_cases c3:16<f.params.length∨64<wrap64 (f.params.length+dq 0 f.body)
 ·rw [if_pos c3] at e
  exact absurd e (by simp)
 rw [if_neg c3] at e;exact ⟨iW hk _ _ _ (ew e).1 (rX ho hf),by omega⟩
end
section
open Go.RowKit
theorem qu:∀l:List Ex,l.length≤dK l
 | []=>Nat.zero_le _
 | .mk op num text ks pos :: l=>by
  rw [dK,szE,List.length_cons];have:=qu l;omega
section
variable {y:Ly} {m:Nat}
mutual
theorem Dl (A:∀k,m=k+1→iU y k) (hm:m≤16):∀x:Ex,WfE y.F x→szE x≤100000→pw y m x
 | .mk op num text ks pos=>fun hw hs=>by
  have B:=hw;rw [WfE] at B;rw [szE] at hs;have hk:=tF A hm ks B.2 (by omega);exact tX op num pos text ks hw hk (fun q=>vY text ks (B.1.2.2.2.1 q).1 (B.1.2.2.2.1 q).2 hk) A hm (Nat.le_trans (qu ks) (by omega))
theorem tF (A:∀k,m=k+1→iU y k) (hm:m≤16):∀l:List Ex,WfEs y.F l→dK l≤100000→∀i,i<l.length→pw y m (l.getD i default)
 | []=>fun _ _ i hi=>absurd hi (Nat.not_lt_zero _)
 | x :: l=>fun hw hs i hi=>by
  rw [WfEs] at hw;rw [dK] at hs
  cases i with
  | zero=>exact Dl A hm x hw.1 (by omega)
  | succ i=>exact tF A hm l hw.2 (by omega) i (by simpa using hi)
end
mutual
theorem C7 (A:∀k,m=k+1→iU y k) (hm:m≤16):∀s:St,WfS y.F s→szS s≤100000→Aa y m s
 | .mk op text es body els pos=>fun hw hs=>by
  have B:=hw;rw [WfS] at B;rw [szS] at hs;exact sQ op pos text es body els hw (tF A hm es B.2.1 (by omega)) (iT body (pO A hm body B.2.2.1 (by omega))) (iT els (pO A hm els B.2.2.2 (by omega)))
theorem pO (A:∀k,m=k+1→iU y k) (hm:m≤16):∀l:List St,kH y.F l→eS l≤100000→∀i,i<l.length→Aa y m (l.getD i default)
 | []=>fun _ _ i hi=>absurd hi (Nat.not_lt_zero _)
 | s :: l=>fun hw hs i hi=>by
  rw [kH] at hw;rw [eS] at hs
  cases i with
  | zero=>exact C7 A hm s hw.1 (by omega)
  | succ i=>exact pO A hm l hw.2 (by omega) i (by simpa using hi)
end
theorem BC (A:∀k,m=k+1→iU y k) (hm:m≤16) (l:List St) (hw:kH y.F l) (hs:eS l≤100000):yH y m l:=iT l (pO A hm l hw hs)
end
theorem mx {y:Ly} (hw:∀f,f∈y.F→kH y.F f.body∧eS f.body≤100000):∀m,m≤15→iU y m
 | 0,_=>jw (by decide) fun f hf=>BC (fun k e=>by omega) (by decide) f.body (hw f hf).1 (hw f hf).2
 | m+1,h=>jw h fun f hf=>BC (fun k e=>by obtain rfl:m=k:=(by omega);exact mx hw m (by omega)) (by omega) f.body (hw f hf).1 (hw f hf).2
end
end Go.Proofs.YthgcpfkochikfaaGreat
