/-
  VerifyBuilt: part 17 of its proof: see the last text.
-/
import Derived.Test.YtmlgbkomdhcaoaaGreatDoorPv16
import Derived.Defers
import Derived.Recover
import Derived.Deep.LoopGhost
set_option maxRecDepth 100000
set_option maxHeartbeats 16000000
namespace Go.Proofs.YtmlgbkomdhcaoaaGreatDoor
section
section
open Go.RowKit
structure ResAt (w:World) (P E A:Nat) (v:Value) (e a:Int):Prop where
 p:w.heap[P]?=some (.cells #[v] 43 (0,0))
 e:w.heap[E]?=some (.cells #[.int .i64 e] 28 (0,0))
 a:w.heap[A]?=some (.cells #[.int .i64 a] 3 (0,0))
 ne:P≠E∧P≠A∧E≠A
def BO (w:World) (P E A:Nat) (v:Value) (e a:Int):World:=((w.setCell ⟨P,0,none⟩ v).setCell ⟨E,0,none⟩ (.int .i64 e)).setCell ⟨A,0,none⟩ (.int .i64 a)
theorem qd (P E A:Nat) (v:Value) (e0 a0 er pos:Int) (B:List PanicEntry) (w:World) (h:ResAt w P E A v e0 a0) :
    CallsD Tryz.prog 29 #[.pointer (some ⟨P,0,none⟩),.pointer (some ⟨E,0,none⟩),.pointer (some ⟨A,0,none⟩)] (.panicking ({ v:=.iface 92 (.agg #[.int .i64 er,.int .i64 pos]),recovered:=false } :: B)) w fun e u' w' =>
     e=.returned (.tuple #[])∧u'=.panicking ({ v:=.iface 92 (.agg #[.int .i64 er,.int .i64 pos]),recovered:=true } :: B)∧w'=((BO w P E A (.slice none 0 0) er pos).alloc (.cells #[.int .i64 er,.int .i64 pos] 92)).drew:=by
 refine callsD_of_wpS Tryz.func29 rfl fun c₀ cs hu=>?_;apply wpS_seq;apply wpS_region;simp [wpOpsS,go_sem,recoverD,hu,Tryz.ntmps29,Exit.thenS]
 refine wpS_of_wp ?_;simp only [Array.replicate_succ,Array.replicate_zero,List.push_toArray,List.setIfInBounds_toArray,List.set_cons_succ,List.set_cons_zero,List.append_toArray,List.cons_append,List.nil_append]
 have p0:w.cell? ⟨P,0,none⟩=some v:=aa h.p (j:=0) rfl;have p1:w.cell? ⟨E,0,none⟩=some (.int .i64 e0):=aa h.e (j:=0) rfl;have p2:w.cell? ⟨A,0,none⟩=some (.int .i64 a0):=aa h.a (j:=0) rfl;have f0:w.frozen? ⟨P,0,none⟩=false:=af h.p 0;have f1:w.frozen? ⟨E,0,none⟩=false:=af h.e 0;have f2:w.frozen? ⟨A,0,none⟩=false:=af h.a 0;obtain ⟨n0,n1,n2⟩:=h.ne;have l0:=ae h.p;have l1:=ae h.e;have l2:=ae h.a;have HU:=zh hu;have C:∀W:World,(Instr.typeAssert (.iface 92 (.agg #[.int .i64 er,.int .i64 pos])) 20 92 true).run Tryz.prog W=.ok (.tuple #[.agg #[.int .i64 er,.int .i64 pos],.bool true]) W:=fun _=>by kernel_rfl
 clear h hu;go_wp2_with fail
 go_region
 go_wp2_with fail
 refine ⟨rfl,_,rfl,.tuple #[],by simp [results,Tryz.results29,go_sem],rfl,rfl,?_⟩;rfl
theorem mg (P E A:Nat) (w:World) :
    CallsD Tryz.prog 29 #[.pointer (some ⟨P,0,none⟩),.pointer (some ⟨E,0,none⟩),.pointer (some ⟨A,0,none⟩)] .returning w fun e u' w'=>e=.returned (.tuple #[])∧u'=.returning∧w'=w.alloc (.cells #[.int .i64 0,.int .i64 0] 92):=by
 refine callsD_of_wpS Tryz.func29 rfl fun c₀ cs hu=>?_;apply wpS_seq;apply wpS_region;simp [wpOpsS,go_sem,recoverD,hu,Tryz.ntmps29,Exit.thenS]
 refine wpS_of_wp ?_;simp only [Array.replicate_succ,Array.replicate_zero,List.push_toArray,List.setIfInBounds_toArray,List.set_cons_succ,List.set_cons_zero,List.append_toArray,List.cons_append,List.nil_append]
 have HU:=zh hu;have B:∀W:World,(Instr.typeAssert .nilIface 20 92 true).run Tryz.prog W=.ok (.tuple #[.agg #[.int .i64 0,.int .i64 0],.bool false]) W:=fun _=>by kernel_rfl
 have C:∀W:World,(binOp .neq 20 .nilIface .nilIface).run Tryz.prog W=.ok (.bool false) W:=fun _=>by kernel_rfl
 clear hu;go_wp2_with fail
 have hu:=HU.o
 cases c₀
 simp_all [bodyPostS,results,Tryz.results29]
theorem rO (s:List UInt8):∀(f a:Nat) (A l:List Tk),A.length≤2048→kY s f a A=.ok l→l.length≤2048
 | 0,a,A,l,h,e=>by
  have e':A=l:=by injection e
  rw [←e'];exact h
 | f+1,a,A,l,h,e=>by
  unfold kY at e;split at e
  ·split at e
   ·cases e
   ·split at e
    ·cases e
    ·exact rO s f _ _ l (by rw [List.length_append,List.length_singleton];omega) e
  ·have e':A=l:=by injection e
   rw [←e'];exact h
theorem ql {s:List UInt8} {l:List Tk} (h:iJ s=.ok l):l.length≤2048:=by
 unfold iJ at h;split at h
 ·cases h
 ·exact rO s _ _ _ l (by simp) h
def RepFns (S:Nat→Prop) (w:World) (v:Value) (l:List Fn):Prop:=∃cs,RowOf S w v 5 l.length cs∧∀i,i<l.length→RepFn S w (cs i) (l.getD i default)
theorem RepFns.nil (S:Nat→Prop) (w:World):RepFns S w (.slice none 0 0) []:=⟨fun _=>[],RowOf.nil _ _ _ _,fun i hi=>absurd hi (by simp)⟩
theorem RepFns.keep {S:Nat→Prop} {w w':World} {v:Value} {l:List Fn} (h:RepFns S w v l) (hk:Stays S w w'):RepFns S w' v l:=by
 obtain ⟨cs,h1,h2⟩:=h;exact ⟨cs,h1.keep hk,fun i hi=>(h2 i hi).keep hk⟩
theorem RepFns.mono {S S':Nat→Prop} {w:World} {v:Value} {l:List Fn} (h:RepFns S w v l) (hb:∀b,S b→S' b):RepFns S' w v l:=by
 obtain ⟨cs,h1,h2⟩:=h;exact ⟨cs,h1.mono hb,fun i hi=>(h2 i hi).mono hb⟩
def ol (w:World) (r:Except (Int×Int) (List Fn)) (e:Ending) (w':World):Prop:=
 (match r with
  | .error (er,p)=>er≠0∧e=.returned (.tuple #[.agg #[.slice none 0 0],.int .i64 er,.int .i64 p])
  | .ok l=>∃v,e=.returned (.tuple #[.agg #[v],.int .i64 0,.int .i64 0])∧RepFns (bO w.heap.size) w' v l)∧Below w.heap.size w w'
end
section
open Go.RowKit
def NoNil {α:Type} (p:Par α):Prop:=∀l er pos,p l=.error (er,pos)→er≠0
theorem NoNil.bind {α β:Type} {p:Par α} {f:α→Par β} (h:NoNil p) (hf:∀x,NoNil (f x)):NoNil (p.bind f):=fun l er pos e=>by
 unfold Par.bind at e;split at e
 ·rename_i e1 h1
  injection e with e
  subst e;exact h _ _ _ h1
 ·exact hf _ _ _ _ e
theorem eR {α:Type} (x:α):NoNil (okP x):=fun l er pos e=>by cases e
theorem dc (en:Int) (s:ByteArray):NoNil (bq en s):=fun l er pos e=>by
 unfold bq at e;split at e
 ·cases e
 ·cases e;decide
theorem zg (en k:Int):NoNil (eK en k):=fun l er pos e=>by
 unfold eK at e;split at e
 ·cases e;decide
 ·split at e
  ·cases e
  ·cases e;decide
theorem jS (en:Int):NoNil (ft en):=(zg en 1).bind fun _=>eR _
theorem xx (en:Int):NoNil (ld en):=fun l er pos e=>by
 unfold ld at e;split at e
 ·cases e
 ·split at e
  ·cases e
  ·exact ((dc en iu).bind fun _=>eR _) _ _ _ e
theorem pj {α:Type} (en:Int) (one:Par α) (h:NoNil one):∀(f:Nat) (A:Bool) (B:List α),NoNil (eU en one f A B)
 | 0,_,_=>fun l er pos e=>by cases e;decide
 | f+1,A,B=>fun l er pos e=>by
  rw [iq] at e;split at e
  ·cases e
  ·refine (NoNil.bind (p:=if A then okP () else bq en gE) ?_ fun _=>h.bind fun x=>pj en one h f false _) _ _ _ e
   split
   ·exact eR _
   ·exact dc _ _
theorem tJ (en:Int) (n:Nat) (N:Par Ex) (h:NoNil N):∀(f:Nat) (x:Ex),NoNil (eB en n N f x)
 | 0,x=>eR _
 | f+1,x=>fun l er pos e=>by
  unfold eB at e;split at e
  ·cases e
  ·refine (h.bind fun y=>?_) _ _ _ e
   split
   ·exact eR _
   ·exact tJ en n N h f _
theorem jV (en:Int) (one:Par Ex) (h:NoNil one):∀j,NoNil (dG en one j)
 | 0=>h
 | j+1=>fun l er pos e=>by
  unfold dG at e;exact ((jV en one h j).bind fun x=>(fun r er pos e=>tJ en _ _ (jV en one h j) _ _ _ _ _ e:NoNil _)) _ _ _ e
theorem kg (en:Int) (E:Par Ex) (h:NoNil E):NoNil (dV en E):=(dc en dm).bind fun _=>h.bind fun _=>(dc en dw).bind fun _=>eR _
theorem q8 (en:Int) (E:Par Ex) (h:NoNil E):NoNil (iz en E):=fun l er pos e=>by
 unfold iz at e;split at e
 ·cases e
 split at e
 ·cases e
 split at e
 ·exact kg en E h _ _ _ e
 split at e
 ·exact ((kg en E h).bind fun _=>eR _) _ _ _ e
 split at e
 ·exact ((kg en E h).bind fun _=>eR _) _ _ _ e
 ·exact ((dc en yy).bind fun _=>(kg en E h).bind fun _=>eR _) _ _ _ e
theorem sX (en:Int) (E:Par Ex) (h:NoNil E):NoNil (d8 en E):=fun l er pos e=>by
 unfold d8 at e;split at e
 ·exact q8 en E h _ _ _ e
 split at e
 ·cases e
 split at e
 ·cases e
 split at e
 ·split at e
  ·exact ((pj en E h _ _ _).bind fun _=>eR _) _ _ _ e
  ·cases e
 ·exact q8 en E h _ _ _ e
theorem ph (en:Int):∀k,NoNil (fT en k)
 | 0=>fun l er pos e=>by cases e;decide
 | k+1=>fun l er pos e=>by
  unfold fT at e;split at e
  ·exact ((ph en k).bind fun _=>eR _) _ _ _ e
  split at e
  ·exact ((ph en k).bind fun _=>eR _) _ _ _ e
  ·exact sX en _ (jV en _ (ph en k) 5) _ _ _ e
theorem yr (en:Int) (k:Nat):NoNil (je en k):=jV en _ (ph en k) 5
theorem iw (en:Int) (s:St):NoNil (iD en s):=(dc en fu).bind fun _=>eR _
theorem zt (en:Int) (E:Par Ex) (B:Par (List St)) (hE:NoNil E) (hB:NoNil B):NoNil (jg en E B):=fun l er pos e=>by
 unfold jg at e;dsimp only at e;split at e
 ·exact ((jS en).bind fun n=>(dc en sEq).bind fun _=>hE.bind fun x=>iw en _) _ _ _ e
 split at e
 ·refine (hE.bind fun x=>hB.bind fun b=>(fun l er pos e=>?_:NoNil _)) _ _ _ e
  split at e
  ·exact (hB.bind fun e=>eR _) _ _ _ e
  ·cases e
 split at e
 ·exact ((jS en).bind fun n=>(dc en sEq).bind fun _=>hE.bind fun x=>(dc en sTo).bind fun _=>hE.bind fun y=>hB.bind fun b=>eR _) _ _ _ e
 split at e
 ·split at e
  ·exact iw en _ _ _ _ e
  ·exact (hE.bind fun x=>iw en _) _ _ _ e
 split at e
 ·exact ((dc en dm).bind fun _=>hE.bind fun x=>(dc en gE).bind fun _=>hE.bind fun y=>(dc en dw).bind fun _=>iw en _) _ _ _ e
 split at e
 ·exact ((dc en dm).bind fun _=>hE.bind fun x=>(dc en dw).bind fun _=>iw en _) _ _ _ e
 split at e<;>split at e<;>first
  | exact ((jS en).bind fun n=>(dc en sEq).bind fun _=>hE.bind fun x=>iw en _) _ _ _ e
  | exact (hE.bind fun x=>iw en _) _ _ _ e
theorem rQ (en:Int) (P:Par St) (hP:NoNil P):∀(f:Nat) (A:List St),NoNil (fD en P f A)
 | 0,A=>fun l er pos e=>by cases e;decide
 | f+1,A=>fun l er pos e=>by
  rw [gw] at e;split at e
  ·cases e
  ·exact (hP.bind fun s=>rQ en P hP f _) _ _ _ e
theorem nM (en:Int):∀k,NoNil (ed en k)
 | 0=>fun l er pos e=>by
  unfold ed at e;split at e<;>(cases e;decide)
 | k+1=>fun l er pos e=>by
  unfold ed at e;exact ((dc en dW).bind fun _=>(fun r er pos e=>rQ en _ (zt en _ _ (yr en k) (nM en k)) _ _ _ _ _ e:NoNil _)) _ _ _ e
theorem ua (en:Int):NoNil (gy en):=fun l er pos e=>by
 unfold gy at e;refine ((dc en sFn).bind fun _=>(jS en).bind fun n=>(dc en dm).bind fun _=>(fun r er pos e=>?_:NoNil _)) _ _ _ e;refine ((pj en _ ((jS en).bind fun n=>(dc en jI).bind fun _=>(xx en).bind fun t=>eR _) _ _ _).bind fun ps=>(fun r er pos e=>?_:NoNil _)) _ _ _ e;split at e
 ·exact ((xx en).bind fun t=>(nM en 32).bind fun b=>eR _) _ _ _ e
 ·exact ((nM en 32).bind fun b=>eR _) _ _ _ e
theorem vc (en:Int) (f:Nat) (A:List Fn):fF en f A []=.ok (A,[]):=by
 cases f<;>rfl
theorem lA (en:Int):Strict (gy en):=fun l x r e=>by
 unfold gy at e;refine ((aW en sFn).bind fun _=>((dX en).bind fun n=>((aW en dm).bind fun _=>(fun l x r e=>?_:Weak _)).weak).weak) _ _ _ e;refine ((iM en _ (kf en) _ _ _).bind fun ps=>(fun l x r e=>?_:Weak _)).weak _ _ _ e;split at e
 ·rename_i h
  have:=bJ h;have:=((mP en).bind fun t=>(iy en 32).bind fun b=>dF _) _ _ _ e;omega
 ·exact ((iy en 32).bind fun b=>dF _) _ _ _ e
theorem rf (s:List UInt8):∀(f a:Nat) (A:List Tk) (er:Int) (p:Nat),kY s f a A=.error (er,p)→er≠0
 | 0,a,A,er,p,e=>by cases e
 | f+1,a,A,er,p,e=>by
  unfold kY at e;split at e
  ·split at e
   ·rename_i h
    injection e with e
    injection e with e1 e2
    subst e1;rcases oQ h with q | q<;>omega
   ·split at e
    ·cases e;decide
    ·exact rf s f _ _ er p e
  ·cases e
theorem ry {s:List UInt8} {er:Int} {p:Nat} (h:iJ s=.error (er,p)):er≠0:=by
 unfold iJ at h;split at h
 ·cases h;decide
 ·exact rf s _ _ _ er p h
end
end
section
open Go.RowKit
mutual
def szE:Ex→Nat
 | .mk _ _ _ ks _=>1+bP ks
def bP:List Ex→Nat
 | []=>0
 | x :: l=>szE x+bP l
end
mutual
def szS:St→Nat
 | .mk _ _ es body els _=>1+bP es+bY body+bY els
def bY:List St→Nat
 | []=>0
 | s :: l=>szS s+bY l
end
def szF (f:Fn):Nat:=1+f.params.length+bY f.body
def eH:List Fn→Nat
 | []=>0
 | f :: l=>szF f+eH l
mutual
def okE:Ex→Prop
 | .mk op n t ks _=>(qV n∧(op=3∨op=4→t.size≤64))∧dU ks
def dU:List Ex→Prop
 | []=>True
 | x :: l=>okE x∧dU l
end
mutual
def okS:St→Prop
 | .mk op t es body els _=>(t.size≤64∧(op=1∨op=2∨op=4→t.size≠0))∧dU es∧eZ body∧eZ els
def eZ:List St→Prop
 | []=>True
 | s :: l=>okS s∧eZ l
end
def jj:List Fn→Prop
 | []=>True
 | f :: l=>(f.name.size≤64∧eZ f.body∧∀p,p∈f.params→p.1.size≤64)∧jj l
theorem qM:∀(l r:List Ex),bP (l++r)=bP l+bP r
 | [],r=>by rw [bP];simp
 | x :: l,r=>by rw [List.cons_append,bP,bP,qM l r];omega
theorem qZ:∀(l r:List St),bY (l++r)=bY l+bY r
 | [],r=>by rw [bY];simp
 | x :: l,r=>by rw [List.cons_append,bY,bY,qZ l r];omega
theorem qQ:∀(l r:List Fn),eH (l++r)=eH l+eH r
 | [],r=>by simp [eH]
 | x :: l,r=>by rw [List.cons_append,eH,eH,qQ l r];omega
theorem rF:∀(l r:List Ex),dU (l++r) ↔ dU l∧dU r
 | [],r=>by rw [dU];simp
 | x :: l,r=>by rw [List.cons_append,dU,dU,rF l r,and_assoc]
theorem ru:∀(l r:List St),eZ (l++r) ↔ eZ l∧eZ r
 | [],r=>by rw [eZ];simp
 | x :: l,r=>by rw [List.cons_append,eZ,eZ,ru l r,and_assoc]
theorem qO:∀(l r:List Fn),jj (l++r) ↔ jj l∧jj r
 | [],r=>by rw [jj];simp
 | x :: l,r=>by rw [List.cons_append,jj,jj,qO l r];simp only [and_assoc]
def Nums (l:List Tk):Prop:=∀t,t∈l→qV t.num∧t.text.size≤64∧(t.kind=1→t.text.size≠0)
theorem Nums.tail {l:List Tk} (h:Nums l):Nums l.tail:=fun t ht=>h t (List.mem_of_mem_tail ht)
def Gd {α:Type} (sz:α→Nat) (ok:α→Prop) (a:Nat) (p:Par α):Prop:=∀l x r,Nums l→p l=.ok (x,r)→sz x+r.length≤l.length+a∧ok x∧Nums r
section
variable {α β:Type} {sz:α→Nat} {ok:α→Prop} {sz2:β→Nat} {ok2:β→Prop}
theorem Gd.ret {a:Nat} {x:α} (h:sz x≤a) (h2:ok x):Gd sz ok a (okP x):=fun l y r hn e=>by
 cases e
 exact ⟨by omega,h2,hn⟩
theorem Gd.eats {a:Nat} {p:Par β} {f:β→Par α} (h:∀l x r,Nums l→p l=.ok (x,r)→r.length+1≤l.length∧Nums r) (hf:∀x,Gd sz ok (a+1) (f x)):Gd sz ok a (p.bind f):=fun l y r hn e=>by
 obtain ⟨x,q,h1,h2⟩:=aN e;obtain ⟨g1,g2⟩:=h l x q hn h1;obtain ⟨k1,k2,k3⟩:=hf x q y r g2 h2;exact ⟨by omega,k2,k3⟩
theorem Gd.with {a:Nat} {p:Par β} {f:β→Par α} (h:Gd sz2 ok2 0 p) (hf:∀x,ok2 x→Gd sz ok (a+sz2 x) (f x)):Gd sz ok a (p.bind f):=fun l y r hn e=>by
 obtain ⟨x,q,h1,h2⟩:=aN e;obtain ⟨g1,g2,g3⟩:=h l x q hn h1;obtain ⟨k1,k2,k3⟩:=hf x g2 q y r g3 h2;exact ⟨by omega,k2,k3⟩
theorem Gd.tail {a:Nat} {p:Par α} {l:List Tk} {s:ByteArray} (ha:atS l 0 s=true) (h:Gd sz ok (a+1) p) {x:α} {r:List Tk} (hn:Nums l) (e:p l.tail=.ok (x,r)):sz x+r.length≤l.length+a∧ok x∧Nums r:=by
 have q:=bJ ha;obtain ⟨k1,k2,k3⟩:=h l.tail x r hn.tail e;exact ⟨by omega,k2,k3⟩
end
def Aq {α:Type} (p:Par α):Prop:=∀l x r,Nums l→p l=.ok (x,r)→r.length+1≤l.length∧Nums r
theorem bR (en:Int) (s:ByteArray):Aq (bq en s):=fun l x r hn e=>by
 have h:=aW en s _ _ _ e;unfold bq at e;split at e
 ·cases e;exact ⟨h,hn.tail⟩
 ·cases e
theorem nZ (en:Int):Aq (ft en):=fun l x r hn e=>by
 have h:=dX en _ _ _ e;obtain ⟨t,q,h1,h2⟩:=aN e
 cases h2
 unfold eK at h1
 cases l with
 | nil=>cases h1
 | cons a l =>
  dsimp only at h1;split at h1
  ·cases h1;exact ⟨h,hn.tail⟩
  ·cases h1
theorem pC {α:Type} {sz:α→Nat} {ok:α→Prop} {szs:List α→Nat} {oks:List α→Prop} (hs:∀l x,szs (l++[x])=szs l+sz x) (ho:∀l x,oks l→ok x→oks (l++[x])) (en:Int) (one:Par α) (h:Gd sz ok 0 one) :
    ∀(f:Nat) (first:Bool) (acc:List α),oks acc→Gd szs oks (szs acc) (eU en one f first acc)
 | 0,_,_,_=>fun l x r hn e=>by cases e
 | f+1,first,acc,ha=>fun l x r hn e=>by
  rw [iq] at e;split at e
  ·rename_i hq
   have:=bJ hq
   cases e
   exact ⟨by omega,ha,hn.tail⟩
  ·obtain ⟨_,q,h1,h2⟩:=aN e
   obtain ⟨y,q2,h3,h4⟩:=aN h2
   have g:q.length≤l.length∧Nums q:=by
    cases first
    ·have:=bR en gE l _ q hn h1;exact ⟨by omega,this.2⟩
    ·cases h1;exact ⟨Nat.le_refl _,hn⟩
   obtain ⟨k1,k2,k3⟩:=h q y q2 g.2 h3;obtain ⟨j1,j2,j3⟩:=pC hs ho en one h f false (acc++[y]) (ho _ _ ha k2) q2 x r k3 h4;rw [hs] at j1;exact ⟨by omega,j2,j3⟩
theorem tI (en:Int) (n:Nat) (N:Par Ex) (h:Gd szE okE 0 N):∀(f:Nat) (x:Ex),okE x→Gd szE okE (szE x) (eB en n N f x)
 | 0,x,hx=>Gd.ret (Nat.le_refl _) hx
 | f+1,x,hx=>fun l y r hn e=>by
  rw [jP] at e;split at e
  ·cases e;exact ⟨by omega,hx,hn⟩
  ·rename_i s hs
   have C:=List.find?_some hs;have D:=bJ C;obtain ⟨z,q,h1,h2⟩:=aN e;obtain ⟨k1,k2,k3⟩:=h _ _ _ hn.tail h1
   have A:∀p,okE (.mk 6 0 s [x,z] p):=fun p=>by
    rw [okE,dU,dU,dU];exact ⟨⟨by constructor<;>decide,fun h=>absurd h (by decide)⟩,hx,k2,trivial⟩
   have B:∀p,szE (.mk 6 0 s [x,z] p)=1+(szE x+szE z):=fun p=>by rw [szE,bP,bP,bP];omega
   split at h2
   ·cases h2
    exact ⟨by rw [B];omega,A _,k3⟩
   ·obtain ⟨j1,j2,j3⟩:=tI en n N h f _ (A (aT en l)) q y r k3 h2
    rw [B] at j1;exact ⟨by omega,j2,j3⟩
theorem my (en:Int) (one:Par Ex) (h:Gd szE okE 0 one):∀j,Gd szE okE 0 (dG en one j)
 | 0=>h
 | j+1=>fun l y r hn e=>by
  have hj:=my en one h j;obtain ⟨x,q,h1,h2⟩:=aN (show ((dG en one j).bind fun x r=>eB en (4-j) (dG en one j) (r.length+1) x r) l=_ from e);obtain ⟨k1,k2,k3⟩:=hj _ _ _ hn h1;obtain ⟨j1,j2,j3⟩:=tI en (4-j) _ hj _ _ k2 _ _ _ k3 h2;exact ⟨by omega,j2,j3⟩
theorem Gd.le {α:Type} {sz:α→Nat} {ok:α→Prop} {a b:Nat} {p:Par α} (h:Gd sz ok a p) (A:a≤b):Gd sz ok b p:=fun l x r hn e=>by
 obtain ⟨k1,k2,k3⟩:=h l x r hn e;exact ⟨by omega,k2,k3⟩
theorem qi (en:Int) (E:Par Ex) (h:Gd szE okE 0 E):Gd szE okE 0 (dV en E):=
 Gd.eats (bR en dm) fun _=>(h.with fun x hx=>(Gd.eats (bR en dw) fun _=>Gd.ret (by omega) hx:Gd szE okE (1+szE x) _):Gd szE okE 1 _)
theorem lf:qV 0:=by constructor<;>decide
theorem Bp:qV 1:=by constructor<;>decide
theorem tW (op n:Int) (t:ByteArray) (x:Ex) (p:Int):szE (.mk op n t [x] p)=1+szE x:=by rw [szE,bP,bP];omega
theorem tL (op:Int) (t:ByteArray) {x:Ex} (p:Int) (h:okE x) (h3:¬(op=3∨op=4)):okE (.mk op 0 t [x] p):=by rw [okE,dU,dU];exact ⟨⟨lf,fun q=>absurd q h3⟩,h,trivial⟩
theorem ky (op n:Int) (t:ByteArray) (p:Int):szE (.mk op n t [] p)=1:=by rw [szE,bP]
theorem j9 (op:Int) {n:Int} (t:ByteArray) (p:Int) (h:qV n) (h3:op=3∨op=4→t.size≤64):okE (.mk op n t [] p):=by rw [okE,dU];exact ⟨⟨h,h3⟩,trivial⟩
theorem qW (en:Int) (E:Par Ex) (h:Gd szE okE 0 E):Gd szE okE 0 (iz en E):=fun l x r hn e=>by
 have hk:∀op p,¬(op=3∨op=4)→Gd szE okE 1 ((dV en E).bind (fun x=>okP (.mk op 0 ByteArray.empty [x] p))):=fun op p h3=>(qi en E h).with fun x hx=>Gd.ret (by rw [tW];omega) (tL _ _ _ hx h3)
 unfold iz at e;split at e
 ·rename_i hq;have:=bJ hq;cases e;exact ⟨by rw [ky];omega,j9 _ _ _ Bp (fun h=>absurd h (by decide)),hn.tail⟩
 ·split at e
  ·rename_i hq;have:=bJ hq;cases e;exact ⟨by rw [ky];omega,j9 _ _ _ lf (fun h=>absurd h (by decide)),hn.tail⟩
  ·split at e
   ·exact qi en E h l x r hn e
   ·split at e
    ·rename_i hq;exact Gd.tail hq (hk _ _ (by decide)) hn e
    ·split at e
     ·rename_i hq;exact Gd.tail hq (hk _ _ (by decide)) hn e
     ·exact (Gd.eats (bR en yy) fun _=>hk _ _ (by decide)) l x r hn e
theorem vR (l:List Ex) (x:Ex):bP (l++[x])=bP l+szE x:=by rw [qM,bP,bP];omega
theorem vO (l:List Ex) (x:Ex) (h:dU l) (hx:okE x):dU (l++[x]):=by rw [rF,dU,dU];exact ⟨h,hx,trivial⟩
theorem tt (en:Int) (E:Par Ex) (h:Gd szE okE 0 E):Gd szE okE 0 (d8 en E):=fun l x r hn e=>by
 unfold d8 at e
 cases l with
 | nil=>exact qW en E h _ _ _ hn e
 | cons a q =>
  have hq:Nums q:=fun t ht=>hn t (List.mem_cons_of_mem _ ht);dsimp only at e;split at e
  ·cases e;exact ⟨by rw [ky];simp;omega,j9 _ _ _ (hn a (List.mem_cons_self ..)).1 (fun h=>absurd h (by decide)),hq⟩
  ·split at e
   ·cases e;exact ⟨by rw [ky];simp;omega,j9 _ _ _ lf (fun _=>(hn a (List.mem_cons_self ..)).2.1),hq⟩
   ·split at e
    ·split at e
     ·rename_i hs
      have:=bJ hs;obtain ⟨k,q2,h1,h2⟩:=aN e
      cases h2
      obtain ⟨k1,k2,k3⟩:=pC (szs:=bP) (oks:=dU) vR vO en E h (q.length+1) true [] (by rw [dU];trivial) _ _ _ hq.tail h1;refine ⟨?_,?_,k3⟩
      ·rw [szE]
       rw [bP] at k1;simp only [List.length_cons]
       omega
      ·rw [okE];exact ⟨⟨lf,fun h=>absurd h (by decide)⟩,k2⟩
     ·cases e;exact ⟨by rw [ky];simp;omega,j9 _ _ _ lf (fun _=>(hn a (List.mem_cons_self ..)).2.1),hq⟩
    ·exact qW en E h _ _ _ hn e
theorem xD (en:Int):∀k,Gd szE okE 0 (fT en k)
 | 0=>fun l x r hn e=>by cases e
 | k+1=>fun l x r hn e=>by
  have ih:=xD en k;have hk:∀s p,Gd szE okE 1 ((fT en k).bind (fun x=>okP (.mk 7 0 s [x] p))):=fun s p=>ih.with fun x hx=>Gd.ret (by rw [tW];omega) (tL _ _ _ hx (by decide))
  unfold fT at e;split at e
  ·rename_i hq;exact Gd.tail hq (hk _ _) hn e
  ·split at e
   ·rename_i hq;exact Gd.tail hq (hk _ _) hn e
   ·exact tt en _ (my en _ ih 5) l x r hn e
theorem zi (en:Int) (k:Nat):Gd szE okE 0 (je en k):=my en _ (xD en k) 5
theorem uG (l:List St) (x:St):bY (l++[x])=bY l+szS x:=by rw [qZ,bY,bY];omega
theorem ui (l:List St) (x:St) (h:eZ l) (hx:okS x):eZ (l++[x]):=by rw [ru,eZ,eZ];exact ⟨h,hx,trivial⟩
theorem ij (en:Int) (s:St) {a:Nat} (h:szS s≤a+1) (hs:okS s):Gd szS okS a (iD en s):=Gd.eats (bR en fu) fun _=>Gd.ret h hs
theorem gH (op:Int) (t:ByteArray) (es:List Ex) (b e:List St) (p:Int):szS (.mk op t es b e p)=1+bP es+bY b+bY e:=by rw [szS]
theorem jJ (x:Ex):bP [x]=szE x:=by rw [bP,bP];omega
theorem xI (x y:Ex):bP [x,y]=szE x+szE y:=by rw [bP,bP,bP];omega
theorem gD:bY []=0:=by rw [bY]
theorem Ax:bP []=0:=by rw [bP]
theorem jH {x:Ex} (h:okE x):dU [x]:=by rw [dU,dU];exact ⟨h,trivial⟩
theorem xJ {x y:Ex} (h:okE x) (g:okE y):dU [x,y]:=by rw [dU,dU,dU];exact ⟨h,g,trivial⟩
theorem d9:eZ []:=by rw [eZ];trivial
theorem zP:dU []:=by rw [dU];trivial
theorem gG {op:Int} {t:ByteArray} {es:List Ex} {b e:List St} {p:Int} (h1:dU es) (h2:eZ b) (h3:eZ e) (h0:t.size≤64∧(op=1∨op=2∨op=4→t.size≠0):=by decide):okS (.mk op t es b e p):=by rw [okS];exact ⟨h0,h1,h2,h3⟩
theorem vQ {en:Int} {l r:List Tk} {x:ByteArray} (hn:Nums l) (e:ft en l=.ok (x,r)):x.size≤64∧x.size≠0:=by
 obtain ⟨t,q,h1,h2⟩:=aN e
 cases h2
 unfold eK at h1
 cases l with
 | nil=>cases h1
 | cons a l =>
  dsimp only at h1;split at h1
  ·rename_i hk
   cases h1;exact ⟨(hn _ (List.mem_cons_self ..)).2.1,(hn _ (List.mem_cons_self ..)).2.2 (eq_of_beq hk)⟩
  ·cases h1
theorem Gd.named {α:Type} {sz:α→Nat} {ok:α→Prop} {a:Nat} {en:Int} {f:ByteArray→Par α} (hf:∀x:ByteArray,x.size≤64∧x.size≠0→Gd sz ok (a+1) (f x)):Gd sz ok a ((ft en).bind f):=fun l y r hn e=>by
 obtain ⟨x,q,h1,h2⟩:=aN e;obtain ⟨h3,h4⟩:=nZ en _ _ _ hn h1;obtain ⟨k1,k2,k3⟩:=hf x (vQ hn h1) _ _ _ h4 h2;exact ⟨by omega,k2,k3⟩
theorem yv (en:Int) (E:Par Ex) (B:Par (List St)) (hE:Gd szE okE 0 E) (hB:Gd bY eZ 0 B):Gd szS okS 0 (jg en E B):=fun l x r hn e=>by
 unfold jg at e;dsimp only at e;split at e
 ·rename_i hq
  refine Gd.tail hq (Gd.named fun n A=>Gd.eats (bR en sEq) fun _=>hE.with fun x hx=>ij en _ ?_ ?_) hn e
  ·rw [gH,jJ,gD];omega
  ·exact gG (jH hx) d9 d9 ⟨A.1,fun _=>A.2⟩
 split at e
 ·rename_i hq
  refine Gd.tail hq (hE.with fun x hx=>hB.with fun b hb=>(fun l y r hn e=>?_:Gd szS okS _ _)) hn e;split at e
  ·rename_i C
   refine Gd.tail C (hB.with fun e he=>Gd.ret ?_ (gG (jH hx) hb he)) hn e;rw [gH,jJ];omega
  ·cases e
   exact ⟨by rw [gH,jJ,gD];omega,gG (jH hx) hb d9,hn⟩
 split at e
 ·rename_i hq
  refine Gd.tail hq (Gd.named fun n A=>Gd.eats (bR en sEq) fun _=>hE.with fun x hx=>Gd.eats (bR en sTo) fun _=>hE.with fun y hy=>hB.with fun b hb=>Gd.ret ?_ (gG (xJ hx hy) hb d9 ⟨A.1,fun _=>A.2⟩)) hn e;rw [gH,xI,gD];omega
 split at e
 ·rename_i hq
  split at e
  ·exact Gd.tail hq (ij en _ (by rw [gH,Ax,gD];omega) (gG zP d9 d9)) hn e
  ·refine Gd.tail hq (hE.with fun x hx=>ij en _ ?_ (gG (jH hx) d9 d9)) hn e
   rw [gH,jJ,gD];omega
 split at e
 ·rename_i hq
  refine Gd.tail hq (Gd.eats (bR en dm) fun _=>hE.with fun x hx=>Gd.eats (bR en gE) fun _=>hE.with fun y hy=>Gd.eats (bR en dw) fun _=>ij en _ ?_ (gG (xJ hx hy) d9 d9)) hn e;rw [gH,xI,gD];omega
 split at e
 ·rename_i hq
  refine Gd.tail hq (Gd.eats (bR en dm) fun _=>hE.with fun x hx=>Gd.eats (bR en dw) fun _=>ij en _ ?_ (gG (jH hx) d9 d9)) hn e;rw [gH,jJ,gD];omega
 have h1:Gd szS okS 0 ((ft en).bind fun n=>(bq en sEq).bind fun _=>E.bind fun x=>iD en (.mk 2 n [x] [] [] (aT en l))):=
  Gd.named fun n A=>Gd.eats (bR en sEq) fun _=>hE.with fun x hx=>ij en _ (by rw [gH,jJ,gD];omega) (gG (jH hx) d9 d9 ⟨A.1,fun _=>A.2⟩)
 have h2:Gd szS okS 0 (E.bind fun x=>iD en (.mk 8 ByteArray.empty [x] [] [] (aT en l))):=
  hE.with fun x hx=>ij en _ (by rw [gH,jJ,gD];omega) (gG (jH hx) d9 d9)
 split at e<;>split at e<;>first
  | exact h1 _ _ _ hn e
  | exact h2 _ _ _ hn e
theorem qq (en:Int) (P:Par St) (h:Gd szS okS 0 P):∀(f:Nat) (A:List St),eZ A→Gd bY eZ (bY A) (fD en P f A)
 | 0,A,_=>fun l x r hn e=>by cases e
 | f+1,A,ha=>fun l x r hn e=>by
  rw [gw] at e;split at e
  ·rename_i hq;have:=bJ hq;cases e;exact ⟨by omega,ha,hn.tail⟩
  ·obtain ⟨y,q,h1,h2⟩:=aN e
   obtain ⟨k1,k2,k3⟩:=h _ _ _ hn h1;obtain ⟨j1,j2,j3⟩:=qq en P h f (A++[y]) (ui _ _ ha k2) _ _ _ k3 h2;rw [uG] at j1;exact ⟨by omega,j2,j3⟩
theorem mx (en:Int):∀k,Gd bY eZ 0 (ed en k)
 | 0=>fun l x r hn e=>by
  unfold ed at e;split at e<;>cases e
 | k+1=>fun l x r hn e=>by
  unfold ed at e;obtain ⟨y,q,h1,h2⟩:=aN e;obtain ⟨g1,g2⟩:=bR en dW _ _ _ hn h1;obtain ⟨k1,k2,k3⟩:=qq en _ (yv en _ _ (zi en k) (mx en k)) _ [] d9 _ _ _ g2 h2;rw [gD] at k1;exact ⟨by omega,k2,k3⟩
theorem pT (en:Int):Aq (ld en):=fun l x r hn e=>by
 unfold ld at e;split at e
 ·rename_i hq;have:=bJ hq;cases e;exact ⟨this,hn.tail⟩
 ·split at e
  ·rename_i hq;have:=bJ hq;cases e;exact ⟨this,hn.tail⟩
  ·obtain ⟨y,q,h1,h2⟩:=aN e
   cases h2
   exact bR en iu _ _ _ hn h1
theorem wZ (en:Int):Gd (fun _:ByteArray×Int=>1) (fun p=>p.1.size≤64) 0 (kI en):=
 Gd.named fun _ hn=>Gd.eats (bR en jI) fun _=>Gd.eats (pT en) fun _=>Gd.ret (by omega) hn.1
theorem vL {en:Int} {l r:List Tk} {x:ByteArray} (hn:Nums l) (e:ft en l=.ok (x,r)):x.size≤64:=by
 obtain ⟨t,q,h1,h2⟩:=aN e
 cases h2
 unfold eK at h1
 cases l with
 | nil=>cases h1
 | cons a l =>
  dsimp only at h1;split at h1
  ·cases h1;exact (hn _ (List.mem_cons_self ..)).2.1
  ·cases h1
theorem yZ (en:Int):Gd szF (fun f=>f.name.size≤64∧eZ f.body∧∀p,p∈f.params→p.1.size≤64) 0 (gy en):=fun l x r hn e=>by
 unfold gy at e;obtain ⟨_,q1,h1,e⟩:=aN e;obtain ⟨n,q2,h2,e⟩:=aN e;obtain ⟨_,q3,h3,e⟩:=aN e;obtain ⟨ps,q4,h4,e⟩:=aN e;obtain ⟨a1,n1⟩:=bR en sFn _ _ _ hn h1;obtain ⟨a2,n2⟩:=nZ en _ _ _ n1 h2;have A:=vL n1 h2;obtain ⟨a3,n3⟩:=bR en dm _ _ _ n2 h3;obtain ⟨a4,o4,n4⟩:=pC (szs:=List.length) (oks:=fun l=>∀p,p∈l→p.1.size≤64) (fun l x=>by simp) (fun l x h hx p hp=>(List.mem_append.1 hp).elim (h p) (fun q=>List.mem_singleton.1 q▸hx)) en _ (wZ en) _ _ [] (fun p h=>by cases h) _ _ _ n3 h4;simp only [List.length_nil] at a4
 split at e
 ·rename_i hq
  have:=bJ hq;obtain ⟨t,q5,h5,e⟩:=aN e;obtain ⟨b,q6,h6,e⟩:=aN e;obtain ⟨a5,n5⟩:=pT en _ _ _ n4.tail h5;obtain ⟨a6,o6,n6⟩:=mx en 32 _ _ _ n5 h6
  cases e
  exact ⟨by unfold szF;dsimp only;omega,⟨A,o6,o4⟩,n6⟩
 ·obtain ⟨b,q6,h6,e⟩:=aN e
  obtain ⟨a6,o6,n6⟩:=mx en 32 _ _ _ n4 h6
  cases e
  exact ⟨by unfold szF;dsimp only;omega,⟨A,o6,o4⟩,n6⟩
theorem tV (en:Int):∀(f:Nat) (A:List Fn),jj A→Gd eH jj (eH A) (fF en f A)
 | 0,A,ha=>fun l x r hn e=>by cases e;exact ⟨by omega,ha,hn⟩
 | f+1,A,ha=>fun l x r hn e=>by
  unfold fF at e;split at e
  ·cases e;exact ⟨by omega,ha,hn⟩
  ·obtain ⟨y,q,h1,e⟩:=aN e
   obtain ⟨k1,k2,k3⟩:=yZ en _ _ _ hn h1;obtain ⟨j1,j2,j3⟩:=tV en f (A++[y]) (by rw [qO,jj,jj];exact ⟨ha,k2,trivial⟩) _ _ _ k3 e;rw [qQ,eH,eH] at j1;exact ⟨by omega,j2,j3⟩
theorem xw:∀(l:List UInt8) (n m:Nat),n≤9223372036854775807→io l n=some m→m≤9223372036854775807
 | [],n,m,hn,e=>by rw [io] at e;cases e;exact hn
 | c :: r,n,m,hn,e=>by
  rw [io] at e;split at e
  ·cases e
  ·rename_i h
   refine xw r _ m ?_ e;have h2:n≤(9223372036854775807-(c.toNat-48)) / 10:=by omega
   have:=c.toNat_lt;omega
theorem sM (l:List UInt8) (hl:l.length≤2):(bX l).length≤64:=by
 unfold bX;repeat' split
 all_goals simp
 all_goals omega
theorem oB (s:List UInt8) (a q:Nat):(dj s a q).length≤q-a:=by
 unfold dj;simp
 omega
theorem ti {l:List UInt8} (h:gT l=true):l.length≤64:=by
 have key:∀l,l∈wordTab→l.length≤64:=by decide
 unfold gT at h;exact key l (by simpa using h)
theorem wE {s:List UInt8} {a:Nat} {t:Tk} {q:Nat} (h:dt s a=.ok (t,q)):qV t.num∧t.text.size≤64∧(t.kind=1→t.text.size≠0):=by
 have h0:∀k l p,l.length≤64→(k=1→l.length≠0)→qV (fZ k l 0 p).num∧(fZ k l 0 p).text.size≤64∧((fZ k l 0 p).kind=1→(fZ k l 0 p).text.size≠0):=fun _ _ _ hl h1=>⟨lf,hl,h1⟩
 unfold dt at h;dsimp only at h;split at h
 ·rename_i A
  have B:(dj s a (bg dn s a)).length≠0:=by
   have ha:a<s.length:=by
    refine Nat.lt_of_not_le fun C=>?_;rw [List.getD_eq_getElem?_getD,List.getElem?_eq_none C] at A;exact absurd A (by decide)
   rw [List.getD_eq_getElem?_getD,List.getElem?_eq_getElem ha] at A;have h1:=eX (p:=dn) ha (by unfold dn;rw [show gA s[a]=true from A];rfl);have h2:=eS dn s (a+1);have h3:=fm (p:=dn) (s:=s) (a:=a) (by omega);unfold dj;rw [List.length_take,List.length_drop];omega
  split at h
  ·rename_i hw;cases h;exact h0 _ _ _ (ti hw) (fun h=>absurd h (by decide))
  ·split at h
   ·cases h
   ·rename_i E;cases h;exact h0 _ _ _ (by omega) (fun _=>B)
 ·split at h
  ·split at h
   ·cases h
   ·rename_i n hn
    cases h
    have:=xw _ _ _ (by omega) hn;refine ⟨?_,by show 0≤64;omega,fun h=>absurd (show (2:Int)=1 from h) (by decide)⟩;show qV (n:Int)
    constructor<;>omega
  ·split at h
   ·split at h
    ·cases h
    ·split at h
     ·cases h
     ·rename_i D
      cases h
      refine h0 _ _ _ ?_ (fun h=>absurd h (by decide));have:=oB s (a+1) (bg eh s (a+1));omega
   ·split at h
    ·cases h
    ·cases h
     refine h0 _ _ _ (sM _ ?_) (fun h=>absurd h (by decide));have:=oB s a (min (a+2) s.length);omega
theorem rN (s:List UInt8):∀(f a:Nat) (A l:List Tk),Nums A→A.length≤2048→kY s f a A=.ok l→Nums l∧l.length≤2048
 | 0,a,A,l,ho,hl,e=>by cases e;exact ⟨ho,hl⟩
 | f+1,a,A,l,ho,hl,e=>by
  unfold kY at e;split at e
  ·split at e
   ·cases e
   ·rename_i t q hn
    split at e
    ·cases e
    ·rename_i B
     refine rN s f _ _ l (fun x hx=>?_) (by simp;omega) e;rcases List.mem_append.1 hx with hx | hx
     ·exact ho x hx
     ·rw [List.mem_singleton] at hx
      subst hx;exact wE hn
  ·cases e;exact ⟨ho,hl⟩
theorem mD {s:List UInt8} {l:List Fn} (h:ee s=.ok l):eH l≤2048∧jj l∧(bT l).1=0:=by
 unfold ee at h;split at h
 ·cases h
 ·rename_i p hp
  split at h
  ·cases h
  ·rename_i hc
   cases h
   refine ⟨?_,?_,by simpa using hc⟩
   all_goals
    unfold dQ at hp;split at hp
    ·cases hp
    ·rename_i tk ht
     split at hp
     ·cases hp
     ·rename_i x r hq
      cases hp
      unfold iJ at ht;split at ht
      ·cases ht
      ·obtain ⟨hn,hl⟩:=rN s _ _ _ _ (fun t h=>by cases h) (by simp) ht
       obtain ⟨k1,k2,_⟩:=tV _ _ [] (by rw [jj];trivial) _ _ _ hn hq;rw [eH] at k1
       first
        | exact k2
        | omega
end
end Go.Proofs.YtmlgbkomdhcaoaaGreatDoor
