/-
  EvalSigns: part 28 of its proof: see the last text.
-/
import Derived.Test.YthgcpfkochikfaaGreatPs19
set_option maxRecDepth 100000
set_option maxHeartbeats 16000000
namespace Go.Proofs.YthgcpfkochikfaaGreat
section
open Go.RowKit
mutual
def szE:Ex→Nat
 | .mk _ _ _ ks _=>1+dJ ks
def dJ:List Ex→Nat
 | []=>0
 | x :: l=>szE x+dJ l
end
mutual
def szS:St→Nat
 | .mk _ _ es body els _=>1+dJ es+eT body+eT els
def eT:List St→Nat
 | []=>0
 | s :: l=>szS s+eT l
end
def szF (f:Fn):Nat:=1+f.params.length+eT f.body
def gS:List Fn→Nat
 | []=>0
 | f :: l=>szF f+gS l
mutual
def okE:Ex→Prop
 | .mk op n t ks _=>(bf n∧(op=3∨op=4→t.size≤64))∧dF ks
def dF:List Ex→Prop
 | []=>True
 | x :: l=>okE x∧dF l
end
mutual
def okS:St→Prop
 | .mk op t es body els _=>(t.size≤64∧(op=1∨op=2∨op=4→t.size≠0))∧dF es∧fi body∧fi els
def fi:List St→Prop
 | []=>True
 | s :: l=>okS s∧fi l
end
def gC:List Fn→Prop
 | []=>True
 | f :: l=>(f.name.size≤64∧fi f.body∧∀p,p∈f.params→p.1.size≤64)∧gC l
theorem rQ:∀(l r:List Ex),dJ (l++r)=dJ l+dJ r
 | [],r=>by rw [dJ];simp
 | x :: l,r=>by rw [List.cons_append,dJ,dJ,rQ l r];omega
theorem rz:∀(l r:List St),eT (l++r)=eT l+eT r
 | [],r=>by rw [eT];simp
 | x :: l,r=>by rw [List.cons_append,eT,eT,rz l r];omega
theorem qk:∀(l r:List Fn),gS (l++r)=gS l+gS r
 | [],r=>by simp [gS]
 | x :: l,r=>by rw [List.cons_append,gS,gS,qk l r];omega
theorem qF:∀(l r:List Ex),dF (l++r) ↔ dF l∧dF r
 | [],r=>by rw [dF];simp
 | x :: l,r=>by rw [List.cons_append,dF,dF,qF l r,and_assoc]
theorem qX:∀(l r:List St),fi (l++r) ↔ fi l∧fi r
 | [],r=>by rw [fi];simp
 | x :: l,r=>by rw [List.cons_append,fi,fi,qX l r,and_assoc]
theorem rf:∀(l r:List Fn),gC (l++r) ↔ gC l∧gC r
 | [],r=>by rw [gC];simp
 | x :: l,r=>by rw [List.cons_append,gC,gC,rf l r];simp only [and_assoc]
def Nums (l:List Tk):Prop:=∀t,t∈l→bf t.num∧t.text.size≤64∧(t.kind=1→t.text.size≠0)
theorem Nums.tail {l:List Tk} (h:Nums l):Nums l.tail:=fun t ht=>h t (List.mem_of_mem_tail ht)
def Gd {α:Type} (sz:α→Nat) (ok:α→Prop) (a:Nat) (p:Par α):Prop:=∀l x r,Nums l→p l=.ok (x,r)→sz x+r.length≤l.length+a∧ok x∧Nums r
section
variable {α β:Type} {sz:α→Nat} {ok:α→Prop} {sz2:β→Nat} {ok2:β→Prop}
theorem Gd.ret {a:Nat} {x:α} (h:sz x≤a) (h2:ok x):Gd sz ok a (okP x):=fun l y r hn e=>by
 cases e
 exact ⟨by omega,h2,hn⟩
theorem Gd.eats {a:Nat} {p:Par β} {f:β→Par α} (h:∀l x r,Nums l→p l=.ok (x,r)→r.length+1≤l.length∧Nums r) (hf:∀x,Gd sz ok (a+1) (f x)):Gd sz ok a (p.bind f):=fun l y r hn e=>by
 obtain ⟨x,q,h1,h2⟩:=aK e;obtain ⟨g1,g2⟩:=h l x q hn h1;obtain ⟨k1,k2,k3⟩:=hf x q y r g2 h2;exact ⟨by omega,k2,k3⟩
theorem Gd.with {a:Nat} {p:Par β} {f:β→Par α} (h:Gd sz2 ok2 0 p) (hf:∀x,ok2 x→Gd sz ok (a+sz2 x) (f x)):Gd sz ok a (p.bind f):=fun l y r hn e=>by
 obtain ⟨x,q,h1,h2⟩:=aK e;obtain ⟨g1,g2,g3⟩:=h l x q hn h1;obtain ⟨k1,k2,k3⟩:=hf x g2 q y r g3 h2;exact ⟨by omega,k2,k3⟩
theorem Gd.tail {a:Nat} {p:Par α} {l:List Tk} {s:ByteArray} (ha:atS l 0 s=true) (h:Gd sz ok (a+1) p) {x:α} {r:List Tk} (hn:Nums l) (e:p l.tail=.ok (x,r)):sz x+r.length≤l.length+a∧ok x∧Nums r:=by
 have q:=bE ha;obtain ⟨k1,k2,k3⟩:=h l.tail x r hn.tail e;exact ⟨by omega,k2,k3⟩
end
def Cj {α:Type} (p:Par α):Prop:=∀l x r,Nums l→p l=.ok (x,r)→r.length+1≤l.length∧Nums r
theorem bJ (en:Int) (s:ByteArray):Cj (bq en s):=fun l x r hn e=>by
 have h:=aT en s _ _ _ e;unfold bq at e;split at e
 ·cases e;exact ⟨h,hn.tail⟩
 ·cases e
theorem oK (en:Int):Cj (ff en):=fun l x r hn e=>by
 have h:=dG en _ _ _ e;obtain ⟨t,q,h1,h2⟩:=aK e
 cases h2
 unfold eD at h1
 cases l with
 | nil=>cases h1
 | cons a l =>
  dsimp only at h1;split at h1
  ·cases h1;exact ⟨h,hn.tail⟩
  ·cases h1
theorem pu {α:Type} {sz:α→Nat} {ok:α→Prop} {szs:List α→Nat} {oks:List α→Prop} (hs:∀l x,szs (l++[x])=szs l+sz x) (ho:∀l x,oks l→ok x→oks (l++[x])) (en:Int) (one:Par α) (h:Gd sz ok 0 one) :
    ∀(f:Nat) (first:Bool) (acc:List α),oks acc→Gd szs oks (szs acc) (eL en one f first acc)
 | 0,_,_,_=>fun l x r hn e=>by cases e
 | f+1,first,acc,ha=>fun l x r hn e=>by
  rw [iD] at e;split at e
  ·rename_i hq
   have:=bE hq
   cases e
   exact ⟨by omega,ha,hn.tail⟩
  ·obtain ⟨_,q,h1,h2⟩:=aK e
   obtain ⟨y,q2,h3,h4⟩:=aK h2
   have g:q.length≤l.length∧Nums q:=by
    cases first
    ·have:=bJ en gI l _ q hn h1;exact ⟨by omega,this.2⟩
    ·cases h1;exact ⟨Nat.le_refl _,hn⟩
   obtain ⟨k1,k2,k3⟩:=h q y q2 g.2 h3;obtain ⟨j1,j2,j3⟩:=pu hs ho en one h f false (acc++[y]) (ho _ _ ha k2) q2 x r k3 h4;rw [hs] at j1;exact ⟨by omega,j2,j3⟩
theorem uq (en:Int) (n:Nat) (N:Par Ex) (h:Gd szE okE 0 N):∀(f:Nat) (x:Ex),okE x→Gd szE okE (szE x) (ej en n N f x)
 | 0,x,hx=>Gd.ret (Nat.le_refl _) hx
 | f+1,x,hx=>fun l y r hn e=>by
  rw [jY] at e;split at e
  ·cases e;exact ⟨by omega,hx,hn⟩
  ·rename_i s hs
   have C:=List.find?_some hs;have D:=bE C;obtain ⟨z,q,h1,h2⟩:=aK e;obtain ⟨k1,k2,k3⟩:=h _ _ _ hn.tail h1
   have A:∀p,okE (.mk 6 0 s [x,z] p):=fun p=>by
    rw [okE,dF,dF,dF];exact ⟨⟨by constructor<;>decide,fun h=>absurd h (by decide)⟩,hx,k2,trivial⟩
   have B:∀p,szE (.mk 6 0 s [x,z] p)=1+(szE x+szE z):=fun p=>by rw [szE,dJ,dJ,dJ];omega
   split at h2
   ·cases h2
    exact ⟨by rw [B];omega,A _,k3⟩
   ·obtain ⟨j1,j2,j3⟩:=uq en n N h f _ (A (aQ en l)) q y r k3 h2
    rw [B] at j1;exact ⟨by omega,j2,j3⟩
theorem my (en:Int) (one:Par Ex) (h:Gd szE okE 0 one):∀j,Gd szE okE 0 (dl en one j)
 | 0=>h
 | j+1=>fun l y r hn e=>by
  have hj:=my en one h j;obtain ⟨x,q,h1,h2⟩:=aK (show ((dl en one j).bind fun x r=>ej en (4-j) (dl en one j) (r.length+1) x r) l=_ from e);obtain ⟨k1,k2,k3⟩:=hj _ _ _ hn h1;obtain ⟨j1,j2,j3⟩:=uq en (4-j) _ hj _ _ k2 _ _ _ k3 h2;exact ⟨by omega,j2,j3⟩
theorem re (en:Int) (E:Par Ex) (h:Gd szE okE 0 E):Gd szE okE 0 (dR en E):=
 Gd.eats (bJ en cU) fun _=>(h.with fun x hx=>(Gd.eats (bJ en cX) fun _=>Gd.ret (by omega) hx:Gd szE okE (1+szE x) _):Gd szE okE 1 _)
theorem lq:bf 0:=by constructor<;>decide
theorem Dv:bf 1:=by constructor<;>decide
theorem uw (op n:Int) (t:ByteArray) (x:Ex) (p:Int):szE (.mk op n t [x] p)=1+szE x:=by rw [szE,dJ,dJ];omega
theorem ut (op:Int) (t:ByteArray) {x:Ex} (p:Int) (h:okE x) (h3:¬(op=3∨op=4)):okE (.mk op 0 t [x] p):=by rw [okE,dF,dF];exact ⟨⟨lq,fun q=>absurd q h3⟩,h,trivial⟩
theorem kh (op n:Int) (t:ByteArray) (p:Int):szE (.mk op n t [] p)=1:=by rw [szE,dJ]
theorem kA (op:Int) {n:Int} (t:ByteArray) (p:Int) (h:bf n) (h3:op=3∨op=4→t.size≤64):okE (.mk op n t [] p):=by rw [okE,dF];exact ⟨⟨h,h3⟩,trivial⟩
theorem qE (en:Int) (E:Par Ex) (h:Gd szE okE 0 E):Gd szE okE 0 (iC en E):=fun l x r hn e=>by
 have hk:∀op p,¬(op=3∨op=4)→Gd szE okE 1 ((dR en E).bind (fun x=>okP (.mk op 0 ByteArray.empty [x] p))):=fun op p h3=>(re en E h).with fun x hx=>Gd.ret (by rw [uw];omega) (ut _ _ _ hx h3)
 unfold iC at e;split at e
 ·rename_i hq;have:=bE hq;cases e;exact ⟨by rw [kh];omega,kA _ _ _ Dv (fun h=>absurd h (by decide)),hn.tail⟩
 ·split at e
  ·rename_i hq;have:=bE hq;cases e;exact ⟨by rw [kh];omega,kA _ _ _ lq (fun h=>absurd h (by decide)),hn.tail⟩
  ·split at e
   ·exact re en E h l x r hn e
   ·split at e
    ·rename_i hq;exact Gd.tail hq (hk _ _ (by decide)) hn e
    ·split at e
     ·rename_i hq;exact Gd.tail hq (hk _ _ (by decide)) hn e
     ·exact (Gd.eats (bJ en Ak) fun _=>hk _ _ (by decide)) l x r hn e
theorem vj (l:List Ex) (x:Ex):dJ (l++[x])=dJ l+szE x:=by rw [rQ,dJ,dJ];omega
theorem uS (l:List Ex) (x:Ex) (h:dF l) (hx:okE x):dF (l++[x]):=by rw [qF,dF,dF];exact ⟨h,hx,trivial⟩
theorem tB (en:Int) (E:Par Ex) (h:Gd szE okE 0 E):Gd szE okE 0 (dQ en E):=fun l x r hn e=>by
 unfold dQ at e
 cases l with
 | nil=>exact qE en E h _ _ _ hn e
 | cons a q =>
  have hq:Nums q:=fun t ht=>hn t (List.mem_cons_of_mem _ ht);dsimp only at e;split at e
  ·cases e;exact ⟨by rw [kh];simp;omega,kA _ _ _ (hn a (List.mem_cons_self ..)).1 (fun h=>absurd h (by decide)),hq⟩
  ·split at e
   ·cases e;exact ⟨by rw [kh];simp;omega,kA _ _ _ lq (fun _=>(hn a (List.mem_cons_self ..)).2.1),hq⟩
   ·split at e
    ·split at e
     ·rename_i hs
      have:=bE hs;obtain ⟨k,q2,h1,h2⟩:=aK e
      cases h2
      obtain ⟨k1,k2,k3⟩:=pu (szs:=dJ) (oks:=dF) vj uS en E h (q.length+1) true [] (by rw [dF];trivial) _ _ _ hq.tail h1;refine ⟨?_,?_,k3⟩
      ·rw [szE]
       rw [dJ] at k1;simp only [List.length_cons]
       omega
      ·rw [okE];exact ⟨⟨lq,fun h=>absurd h (by decide)⟩,k2⟩
     ·cases e;exact ⟨by rw [kh];simp;omega,kA _ _ _ lq (fun _=>(hn a (List.mem_cons_self ..)).2.1),hq⟩
    ·exact qE en E h _ _ _ hn e
theorem zu (en:Int):∀k,Gd szE okE 0 (fX en k)
 | 0=>fun l x r hn e=>by cases e
 | k+1=>fun l x r hn e=>by
  have ih:=zu en k;have hk:∀s p,Gd szE okE 1 ((fX en k).bind (fun x=>okP (.mk 7 0 s [x] p))):=fun s p=>ih.with fun x hx=>Gd.ret (by rw [uw];omega) (ut _ _ _ hx (by decide))
  unfold fX at e;split at e
  ·rename_i hq;exact Gd.tail hq (hk _ _) hn e
  ·split at e
   ·rename_i hq;exact Gd.tail hq (hk _ _) hn e
   ·exact tB en _ (my en _ ih 5) l x r hn e
theorem zS (en:Int) (k:Nat):Gd szE okE 0 (jg en k):=my en _ (zu en k) 5
theorem vI (l:List St) (x:St):eT (l++[x])=eT l+szS x:=by rw [rz,eT,eT];omega
theorem ww (l:List St) (x:St) (h:fi l) (hx:okS x):fi (l++[x]):=by rw [qX,fi,fi];exact ⟨h,hx,trivial⟩
theorem iy (en:Int) (s:St) {a:Nat} (h:szS s≤a+1) (hs:okS s):Gd szS okS a (iK en s):=Gd.eats (bJ en fm) fun _=>Gd.ret h hs
theorem gD (op:Int) (t:ByteArray) (es:List Ex) (b e:List St) (p:Int):szS (.mk op t es b e p)=1+dJ es+eT b+eT e:=by rw [szS]
theorem jR (x:Ex):dJ [x]=szE x:=by rw [dJ,dJ];omega
theorem xi (x y:Ex):dJ [x,y]=szE x+szE y:=by rw [dJ,dJ,dJ];omega
theorem gz:eT []=0:=by rw [eT]
theorem CL:dJ []=0:=by rw [dJ]
theorem j9 {x:Ex} (h:okE x):dF [x]:=by rw [dF,dF];exact ⟨h,trivial⟩
theorem zq {x y:Ex} (h:okE x) (g:okE y):dF [x,y]:=by rw [dF,dF,dF];exact ⟨h,g,trivial⟩
theorem dP:fi []:=by rw [fi];trivial
theorem BX:dF []:=by rw [dF];trivial
theorem gB {op:Int} {t:ByteArray} {es:List Ex} {b e:List St} {p:Int} (h1:dF es) (h2:fi b) (h3:fi e) (h0:t.size≤64∧(op=1∨op=2∨op=4→t.size≠0):=by decide):okS (.mk op t es b e p):=by rw [okS];exact ⟨h0,h1,h2,h3⟩
theorem wv {en:Int} {l r:List Tk} {x:ByteArray} (hn:Nums l) (e:ff en l=.ok (x,r)):x.size≤64∧x.size≠0:=by
 obtain ⟨t,q,h1,h2⟩:=aK e
 cases h2
 unfold eD at h1
 cases l with
 | nil=>cases h1
 | cons a l =>
  dsimp only at h1;split at h1
  ·rename_i hk
   cases h1;exact ⟨(hn _ (List.mem_cons_self ..)).2.1,(hn _ (List.mem_cons_self ..)).2.2 (eq_of_beq hk)⟩
  ·cases h1
theorem Gd.named {α:Type} {sz:α→Nat} {ok:α→Prop} {a:Nat} {en:Int} {f:ByteArray→Par α} (hf:∀x:ByteArray,x.size≤64∧x.size≠0→Gd sz ok (a+1) (f x)):Gd sz ok a ((ff en).bind f):=fun l y r hn e=>by
 obtain ⟨x,q,h1,h2⟩:=aK e;obtain ⟨h3,h4⟩:=oK en _ _ _ hn h1;obtain ⟨k1,k2,k3⟩:=hf x (wv hn h1) _ _ _ h4 h2;exact ⟨by omega,k2,k3⟩
theorem Am (en:Int) (E:Par Ex) (B:Par (List St)) (hE:Gd szE okE 0 E) (hB:Gd eT fi 0 B):Gd szS okS 0 (jn en E B):=fun l x r hn e=>by
 unfold jn at e;dsimp only at e;split at e
 ·rename_i hq
  refine Gd.tail hq (Gd.named fun n A=>Gd.eats (bJ en sEq) fun _=>hE.with fun x hx=>iy en _ ?_ ?_) hn e
  ·rw [gD,jR,gz];omega
  ·exact gB (j9 hx) dP dP ⟨A.1,fun _=>A.2⟩
 split at e
 ·rename_i hq
  refine Gd.tail hq (hE.with fun x hx=>hB.with fun b hb=>(fun l y r hn e=>?_:Gd szS okS _ _)) hn e;split at e
  ·rename_i C
   refine Gd.tail C (hB.with fun e he=>Gd.ret ?_ (gB (j9 hx) hb he)) hn e;rw [gD,jR];omega
  ·cases e
   exact ⟨by rw [gD,jR,gz];omega,gB (j9 hx) hb dP,hn⟩
 split at e
 ·rename_i hq
  refine Gd.tail hq (Gd.named fun n A=>Gd.eats (bJ en sEq) fun _=>hE.with fun x hx=>Gd.eats (bJ en sTo) fun _=>hE.with fun y hy=>hB.with fun b hb=>Gd.ret ?_ (gB (zq hx hy) hb dP ⟨A.1,fun _=>A.2⟩)) hn e;rw [gD,xi,gz];omega
 split at e
 ·rename_i hq
  split at e
  ·exact Gd.tail hq (iy en _ (by rw [gD,CL,gz];omega) (gB BX dP dP)) hn e
  ·refine Gd.tail hq (hE.with fun x hx=>iy en _ ?_ (gB (j9 hx) dP dP)) hn e
   rw [gD,jR,gz];omega
 split at e
 ·rename_i hq
  refine Gd.tail hq (Gd.eats (bJ en cU) fun _=>hE.with fun x hx=>Gd.eats (bJ en gI) fun _=>hE.with fun y hy=>Gd.eats (bJ en cX) fun _=>iy en _ ?_ (gB (zq hx hy) dP dP)) hn e;rw [gD,xi,gz];omega
 split at e
 ·rename_i hq
  refine Gd.tail hq (Gd.eats (bJ en cU) fun _=>hE.with fun x hx=>Gd.eats (bJ en cX) fun _=>iy en _ ?_ (gB (j9 hx) dP dP)) hn e;rw [gD,jR,gz];omega
 have h1:Gd szS okS 0 ((ff en).bind fun n=>(bq en sEq).bind fun _=>E.bind fun x=>iK en (.mk 2 n [x] [] [] (aQ en l))):=
  Gd.named fun n A=>Gd.eats (bJ en sEq) fun _=>hE.with fun x hx=>iy en _ (by rw [gD,jR,gz];omega) (gB (j9 hx) dP dP ⟨A.1,fun _=>A.2⟩)
 have h2:Gd szS okS 0 (E.bind fun x=>iK en (.mk 8 ByteArray.empty [x] [] [] (aQ en l))):=
  hE.with fun x hx=>iy en _ (by rw [gD,jR,gz];omega) (gB (j9 hx) dP dP)
 split at e<;>split at e<;>first
  | exact h1 _ _ _ hn e
  | exact h2 _ _ _ hn e
theorem qG (en:Int) (P:Par St) (h:Gd szS okS 0 P):∀(f:Nat) (A:List St),fi A→Gd eT fi (eT A) (ft en P f A)
 | 0,A,_=>fun l x r hn e=>by cases e
 | f+1,A,ha=>fun l x r hn e=>by
  rw [gu] at e;split at e
  ·rename_i hq;have:=bE hq;cases e;exact ⟨by omega,ha,hn.tail⟩
  ·obtain ⟨y,q,h1,h2⟩:=aK e
   obtain ⟨k1,k2,k3⟩:=h _ _ _ hn h1;obtain ⟨j1,j2,j3⟩:=qG en P h f (A++[y]) (ww _ _ ha k2) _ _ _ k3 h2;rw [vI] at j1;exact ⟨by omega,j2,j3⟩
theorem lZ (en:Int):∀k,Gd eT fi 0 (dL en k)
 | 0=>fun l x r hn e=>by
  unfold dL at e;split at e<;>cases e
 | k+1=>fun l x r hn e=>by
  unfold dL at e;obtain ⟨y,q,h1,h2⟩:=aK e;obtain ⟨g1,g2⟩:=bJ en dN _ _ _ hn h1;obtain ⟨k1,k2,k3⟩:=qG en _ (Am en _ _ (zS en k) (lZ en k)) _ [] dP _ _ _ g2 h2;rw [gz] at k1;exact ⟨by omega,k2,k3⟩
theorem qT (en:Int):Cj (lr en):=fun l x r hn e=>by
 unfold lr at e;split at e
 ·rename_i hq;have:=bE hq;cases e;exact ⟨this,hn.tail⟩
 ·split at e
  ·rename_i hq;have:=bE hq;cases e;exact ⟨this,hn.tail⟩
  ·obtain ⟨y,q,h1,h2⟩:=aK e
   cases h2
   exact bJ en gZ _ _ _ hn h1
theorem zi (en:Int):Gd (fun _:ByteArray×Int=>1) (fun p=>p.1.size≤64) 0 (lm en):=
 Gd.named fun _ hn=>Gd.eats (bJ en jV) fun _=>Gd.eats (qT en) fun _=>Gd.ret (by omega) hn.1
theorem wu {en:Int} {l r:List Tk} {x:ByteArray} (hn:Nums l) (e:ff en l=.ok (x,r)):x.size≤64:=by
 obtain ⟨t,q,h1,h2⟩:=aK e
 cases h2
 unfold eD at h1
 cases l with
 | nil=>cases h1
 | cons a l =>
  dsimp only at h1;split at h1
  ·cases h1;exact (hn _ (List.mem_cons_self ..)).2.1
  ·cases h1
theorem AH (en:Int):Gd szF (fun f=>f.name.size≤64∧fi f.body∧∀p,p∈f.params→p.1.size≤64) 0 (gw en):=fun l x r hn e=>by
 unfold gw at e;obtain ⟨_,q1,h1,e⟩:=aK e;obtain ⟨n,q2,h2,e⟩:=aK e;obtain ⟨_,q3,h3,e⟩:=aK e;obtain ⟨ps,q4,h4,e⟩:=aK e;obtain ⟨a1,n1⟩:=bJ en sFn _ _ _ hn h1;obtain ⟨a2,n2⟩:=oK en _ _ _ n1 h2;have A:=wu n1 h2;obtain ⟨a3,n3⟩:=bJ en cU _ _ _ n2 h3;obtain ⟨a4,o4,n4⟩:=pu (szs:=List.length) (oks:=fun l=>∀p,p∈l→p.1.size≤64) (fun l x=>by simp) (fun l x h hx p hp=>(List.mem_append.1 hp).elim (h p) (fun q=>List.mem_singleton.1 q▸hx)) en _ (zi en) _ _ [] (fun p h=>by cases h) _ _ _ n3 h4;simp only [List.length_nil] at a4
 split at e
 ·rename_i hq
  have:=bE hq;obtain ⟨t,q5,h5,e⟩:=aK e;obtain ⟨b,q6,h6,e⟩:=aK e;obtain ⟨a5,n5⟩:=qT en _ _ _ n4.tail h5;obtain ⟨a6,o6,n6⟩:=lZ en 32 _ _ _ n5 h6
  cases e
  exact ⟨by unfold szF;dsimp only;omega,⟨A,o6,o4⟩,n6⟩
 ·obtain ⟨b,q6,h6,e⟩:=aK e
  obtain ⟨a6,o6,n6⟩:=lZ en 32 _ _ _ n4 h6
  cases e
  exact ⟨by unfold szF;dsimp only;omega,⟨A,o6,o4⟩,n6⟩
theorem uf (en:Int):∀(f:Nat) (A:List Fn),gC A→Gd gS gC (gS A) (gi en f A)
 | 0,A,ha=>fun l x r hn e=>by cases e;exact ⟨by omega,ha,hn⟩
 | f+1,A,ha=>fun l x r hn e=>by
  unfold gi at e;split at e
  ·cases e;exact ⟨by omega,ha,hn⟩
  ·obtain ⟨y,q,h1,e⟩:=aK e
   obtain ⟨k1,k2,k3⟩:=AH en _ _ _ hn h1;obtain ⟨j1,j2,j3⟩:=uf en f (A++[y]) (by rw [rf,gC,gC];exact ⟨ha,k2,trivial⟩) _ _ _ k3 e;rw [qk,gS,gS] at j1;exact ⟨by omega,j2,j3⟩
theorem xE:∀(l:List UInt8) (n m:Nat),n≤9223372036854775807→ir l n=some m→m≤9223372036854775807
 | [],n,m,hn,e=>by rw [ir] at e;cases e;exact hn
 | c :: r,n,m,hn,e=>by
  rw [ir] at e;split at e
  ·cases e
  ·rename_i h
   refine xE r _ m ?_ e;have h2:n≤(9223372036854775807-(c.toNat-48)) / 10:=by omega
   have:=c.toNat_lt;omega
theorem r8 (l:List UInt8) (hl:l.length≤2):(bP l).length≤64:=by
 unfold bP;repeat' split
 all_goals simp
 all_goals omega
theorem ow (s:List UInt8) (a q:Nat):(cR s a q).length≤q-a:=by
 unfold cR;simp
 omega
theorem tq {l:List UInt8} (h:gQ l=true):l.length≤64:=by
 have key:∀l,l∈wordTab→l.length≤64:=by decide
 unfold gQ at h;exact key l (by simpa using h)
theorem zg {s:List UInt8} {a:Nat} {t:Tk} {q:Nat} (h:cW s a=.ok (t,q)):bf t.num∧t.text.size≤64∧(t.kind=1→t.text.size≠0):=by
 have h0:∀k l p,l.length≤64→(k=1→l.length≠0)→bf (fS k l 0 p).num∧(fS k l 0 p).text.size≤64∧((fS k l 0 p).kind=1→(fS k l 0 p).text.size≠0):=fun _ _ _ hl h1=>⟨lq,hl,h1⟩
 unfold cW at h;dsimp only at h;split at h
 ·rename_i A
  have B:(cR s a (bg cQ s a)).length≠0:=by
   have ha:a<s.length:=by
    refine Nat.lt_of_not_le fun C=>?_;rw [List.getD_eq_getElem?_getD,List.getElem?_eq_none C] at A;exact absurd A (by decide)
   rw [List.getD_eq_getElem?_getD,List.getElem?_eq_getElem ha] at A;have h1:=eW (p:=cQ) ha (by unfold cQ;rw [show gh s[a]=true from A];rfl);have h2:=eR cQ s (a+1);have h3:=fj (p:=cQ) (s:=s) (a:=a) (by omega);unfold cR;rw [List.length_take,List.length_drop];omega
  split at h
  ·rename_i hw;cases h;exact h0 _ _ _ (tq hw) (fun h=>absurd h (by decide))
  ·split at h
   ·cases h
   ·rename_i E;cases h;exact h0 _ _ _ (by omega) (fun _=>B)
 ·split at h
  ·split at h
   ·cases h
   ·rename_i n hn
    cases h
    have:=xE _ _ _ (by omega) hn;refine ⟨?_,by show 0≤64;omega,fun h=>absurd (show (2:Int)=1 from h) (by decide)⟩;show bf (n:Int)
    constructor<;>omega
  ·split at h
   ·split at h
    ·cases h
    ·split at h
     ·cases h
     ·rename_i D
      cases h
      refine h0 _ _ _ ?_ (fun h=>absurd h (by decide));have:=ow s (a+1) (bg dI s (a+1));omega
   ·split at h
    ·cases h
    ·cases h
     refine h0 _ _ _ (r8 _ ?_) (fun h=>absurd h (by decide));have:=ow s a (min (a+2) s.length);omega
theorem rT (s:List UInt8):∀(f a:Nat) (A l:List Tk),Nums A→A.length≤2048→kY s f a A=.ok l→Nums l∧l.length≤2048
 | 0,a,A,l,ho,hl,e=>by cases e;exact ⟨ho,hl⟩
 | f+1,a,A,l,ho,hl,e=>by
  unfold kY at e;split at e
  ·split at e
   ·cases e
   ·rename_i t q hn
    split at e
    ·cases e
    ·rename_i B
     refine rT s f _ _ l (fun x hx=>?_) (by simp;omega) e;rcases List.mem_append.1 hx with hx | hx
     ·exact ho x hx
     ·rw [List.mem_singleton] at hx
      subst hx;exact zg hn
  ·cases e;exact ⟨ho,hl⟩
theorem jT {s:List UInt8} {l:List Fn} (h:cY s=.ok l):gS l≤2048∧gC l∧(bL l).1=0:=by
 unfold cY at h;split at h
 ·cases h
 ·rename_i p hp
  split at h
  ·cases h
  ·rename_i hc
   cases h
   refine ⟨?_,?_,by simpa using hc⟩
   all_goals
    unfold dX at hp;split at hp
    ·cases hp
    ·rename_i tk ht
     split at hp
     ·cases hp
     ·rename_i x r hq
      cases hp
      unfold iP at ht;split at ht
      ·cases ht
      ·obtain ⟨hn,hl⟩:=rT s _ _ _ _ (fun t h=>by cases h) (by simp) ht
       obtain ⟨k1,k2,_⟩:=uf _ _ [] (by rw [gC];trivial) _ _ _ hn hq;rw [gS] at k1
       first
        | exact k2
        | omega
end
end Go.Proofs.YthgcpfkochikfaaGreat
