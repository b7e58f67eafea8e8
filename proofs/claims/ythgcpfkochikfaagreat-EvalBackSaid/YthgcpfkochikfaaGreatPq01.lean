/-
  EvalLoops: part 1 of its proof: see the last text.
-/
import Derived.Test.YthgcpfkochikfaaGreatPq00
set_option maxRecDepth 100000
set_option maxHeartbeats 16000000
namespace Go.Proofs.YthgcpfkochikfaaGreat
section
open Go.RowKit
abbrev bN (b:Nat):Nat→Prop:=fun k=>b≤k
structure Stays (S:Nat→Prop) (w w':World):Prop where
 size:w.heap.size≤w'.heap.size
 block:∀b,S b→b<w.heap.size→w'.heap[b]?=w.heap[b]?
theorem Stays.refl (S:Nat→Prop) (w:World):Stays S w w:=⟨Nat.le_refl _,fun _ _ _=>rfl⟩
theorem Stays.trans {S:Nat→Prop} {a b c:World} (h:Stays S a b) (g:Stays S b c):Stays S a c:=
 ⟨Nat.le_trans h.size g.size,fun k hk hl=>(g.block k hk (Nat.lt_of_lt_of_le hl h.size)).trans (h.block k hk hl)⟩
theorem Stays.of_below {S:Nat→Prop} {a b:World} (h:Below a.heap.size a b):Stays S a b:=⟨h.size,fun k _ hl=>h.block k hl⟩
theorem Stays.of_ne {S:Nat→Prop} {k:Nat} {a b:World} (h:On k a b) (hk:¬S k):Stays S a b:=⟨h.size,fun i hi hl=>h.block i hl (fun e=>by injection e with e;subst e;exact hk hi)⟩
theorem Stays.of_on {base k:Nat} {a b:World} (h:On k a b) (hk:k<base):Stays (bN base) a b:=Stays.of_ne h (fun h=>Nat.not_le_of_lt hk h)
theorem Stays.cell {S:Nat→Prop} {a b:World} (h:Stays S a b) {k:Nat} (hk:S k) (hl:k<a.heap.size) (o:Nat):b.cell? ⟨k,o,none⟩=a.cell? ⟨k,o,none⟩:=World.cell?_of_block (w:=a) (h.block k hk hl)
def RowOf (S:Nat→Prop) (w:World) (v:Value) (sz n:Nat) (cs:Nat→List Value):Prop:=
 ∃s0 cap,v=.slice s0 n cap∧n≤cap∧cap≤maxLen∧(s0=none→cap=0)∧(0<n→∃b off,s0=some ⟨b,off,none⟩∧S b∧b<w.heap.size∧∀i,i<n→∀j,j<sz→w.cell? ⟨b,off+i * sz+j,none⟩=(cs i)[j]?)∧∀i,i<n→(cs i).length=sz
theorem RowOf.keep {S:Nat→Prop} {w w':World} {v:Value} {sz n:Nat} {cs:Nat→List Value} (h:RowOf S w v sz n cs) (hk:Stays S w w'):RowOf S w' v sz n cs:=by
 obtain ⟨s0,cap,h1,h2,h3,h4,h5,h6⟩:=h;refine ⟨s0,cap,h1,h2,h3,h4,fun h0=>?_,h6⟩;obtain ⟨b,off,e,hb,hl,hc⟩:=h5 h0;exact ⟨b,off,e,hb,Nat.lt_of_lt_of_le hl hk.size,fun i hi j hj=>(hk.cell hb hl _).trans (hc i hi j hj)⟩
theorem RowOf.mono {S S':Nat→Prop} {w:World} {v:Value} {sz n:Nat} {cs:Nat→List Value} (h:RowOf S w v sz n cs) (hb:∀b,S b→S' b):RowOf S' w v sz n cs:=by
 obtain ⟨s0,cap,h1,h2,h3,h4,h5,h6⟩:=h;refine ⟨s0,cap,h1,h2,h3,h4,fun h0=>?_,h6⟩;obtain ⟨b,off,e,A,hl,hc⟩:=h5 h0;exact ⟨b,off,e,hb _ A,hl,hc⟩
theorem RowOf.nil (S:Nat→Prop) (w:World) (sz:Nat) (cs:Nat→List Value):RowOf S w (.slice none 0 0) sz 0 cs:=
 ⟨none,0,rfl,Nat.le_refl _,Nat.zero_le _,fun _=>rfl,fun h=>absurd h (by omega),fun i hi=>absurd hi (by omega)⟩
inductive RepEx (S:Nat→Prop) (w:World):List Value→Ex→Prop
 | mk {op num pos:Int} {text:ByteArray} {kids:List Ex} {v:Value} (cs:Nat→List Value) (hr:RowOf S w v 5 kids.length cs) (hk:∀i,i<kids.length→RepEx S w (cs i) (kids.getD i default)) :
  RepEx S w [.int .i64 op,.int .i64 num,.string text,v,.int .i64 pos] (.mk op num text kids pos)
theorem RepEx.keep {S:Nat→Prop} {w w':World} {cs:List Value} {x:Ex} (h:RepEx S w cs x) (hk:Stays S w w'):RepEx S w' cs x:=by
 induction h with
 | mk cs hr _ ih=>exact .mk cs (hr.keep hk) ih
theorem RepEx.mono {S S':Nat→Prop} {w:World} {cs:List Value} {x:Ex} (h:RepEx S w cs x) (hb:∀b,S b→S' b):RepEx S' w cs x:=by
 induction h with
 | mk cs hr _ ih=>exact .mk cs (hr.mono hb) ih
theorem RepEx.down {base base':Nat} {w:World} {cs:List Value} {x:Ex} (h:RepEx (bN base) w cs x) (hb:base'≤base):RepEx (bN base') w cs x:=h.mono fun _ hk=>Nat.le_trans hb hk
theorem RepEx.form {S:Nat→Prop} {w:World} {cs:List Value} {x:Ex} (h:RepEx S w cs x):∃op num text v pos,cs=[.int .i64 op,.int .i64 num,.string text,v,.int .i64 pos]∧∃s0 n cap,v=.slice s0 n cap:=by
 obtain ⟨cs,hr,_⟩:=h;obtain ⟨s0,cap,h1,_⟩:=hr;exact ⟨_,_,_,_,_,rfl,_,_,_,h1⟩
def RepExs (S:Nat→Prop) (w:World) (v:Value) (l:List Ex):Prop:=∃cs,RowOf S w v 5 l.length cs∧∀i,i<l.length→RepEx S w (cs i) (l.getD i default)
theorem RepExs.keep {S:Nat→Prop} {w w':World} {v:Value} {l:List Ex} (h:RepExs S w v l) (hk:Stays S w w'):RepExs S w' v l:=by
 obtain ⟨cs,h1,h2⟩:=h;exact ⟨cs,h1.keep hk,fun i hi=>(h2 i hi).keep hk⟩
theorem RepExs.mono {S S':Nat→Prop} {w:World} {v:Value} {l:List Ex} (h:RepExs S w v l) (hb:∀b,S b→S' b):RepExs S' w v l:=by
 obtain ⟨cs,h1,h2⟩:=h;exact ⟨cs,h1.mono hb,fun i hi=>(h2 i hi).mono hb⟩
theorem RepExs.nil (S:Nat→Prop) (w:World):RepExs S w (.slice none 0 0) []:=⟨fun _=>[],RowOf.nil _ _ _ _,fun i hi=>absurd hi (by simp)⟩
theorem RepEx.of {S:Nat→Prop} {w:World} {v:Value} {op num pos:Int} {text:ByteArray} {kids:List Ex} (h:RepExs S w v kids):RepEx S w [.int .i64 op,.int .i64 num,.string text,v,.int .i64 pos] (.mk op num text kids pos):=by
 obtain ⟨cs,h1,h2⟩:=h;exact .mk cs h1 h2
theorem RepEx.kids {S:Nat→Prop} {w:World} {cs:List Value} {op num pos:Int} {text:ByteArray} {kids:List Ex} (h:RepEx S w cs (.mk op num text kids pos)):∃v,cs=[.int .i64 op,.int .i64 num,.string text,v,.int .i64 pos]∧RepExs S w v kids:=by
 cases h with
 | mk cs hr hk=>exact ⟨_,rfl,cs,hr,hk⟩
inductive RepSt (S:Nat→Prop) (w:World):List Value→St→Prop
 | mk {op pos:Int} {text:ByteArray} {exprs:List Ex} {body els:List St} {ve vb vl:Value} (cb cl:Nat→List Value) (he:RepExs S w ve exprs) (hb:RowOf S w vb 6 body.length cb) (hb2:∀i,i<body.length→RepSt S w (cb i) (body.getD i default))
     (hl:RowOf S w vl 6 els.length cl) (hl2:∀i,i<els.length→RepSt S w (cl i) (els.getD i default)) :
  RepSt S w [.int .i64 op,.string text,ve,vb,vl,.int .i64 pos] (.mk op text exprs body els pos)
theorem RepSt.keep {S:Nat→Prop} {w w':World} {cs:List Value} {x:St} (h:RepSt S w cs x) (hk:Stays S w w'):RepSt S w' cs x:=by
 induction h with
 | mk cb cl he hb _ hl _ ih1 ih2=>exact .mk cb cl (he.keep hk) (hb.keep hk) ih1 (hl.keep hk) ih2
theorem RepSt.mono {S S':Nat→Prop} {w:World} {cs:List Value} {x:St} (h:RepSt S w cs x) (A:∀b,S b→S' b):RepSt S' w cs x:=by
 induction h with
 | mk cb cl he hb _ hl _ ih1 ih2=>exact .mk cb cl (he.mono A) (hb.mono A) ih1 (hl.mono A) ih2
def RepSts (S:Nat→Prop) (w:World) (v:Value) (l:List St):Prop:=∃cs,RowOf S w v 6 l.length cs∧∀i,i<l.length→RepSt S w (cs i) (l.getD i default)
theorem RepSts.keep {S:Nat→Prop} {w w':World} {v:Value} {l:List St} (h:RepSts S w v l) (hk:Stays S w w'):RepSts S w' v l:=by
 obtain ⟨cs,h1,h2⟩:=h;exact ⟨cs,h1.keep hk,fun i hi=>(h2 i hi).keep hk⟩
theorem RepSts.nil (S:Nat→Prop) (w:World):RepSts S w (.slice none 0 0) []:=⟨fun _=>[],RowOf.nil _ _ _ _,fun i hi=>absurd hi (by simp)⟩
theorem RepSt.of {S:Nat→Prop} {w:World} {op pos:Int} {text:ByteArray} {exprs:List Ex} {body els:List St} {ve vb vl:Value} (he:RepExs S w ve exprs) (hb:RepSts S w vb body) (hl:RepSts S w vl els) :
    RepSt S w [.int .i64 op,.string text,ve,vb,vl,.int .i64 pos] (.mk op text exprs body els pos):=by
 obtain ⟨cb,D,C⟩:=hb;obtain ⟨cl,B,A⟩:=hl;exact .mk cb cl he D C B A
theorem RepSt.parts {S:Nat→Prop} {w:World} {cs:List Value} {op pos:Int} {text:ByteArray} {exprs:List Ex} {body els:List St} (h:RepSt S w cs (.mk op text exprs body els pos)) :
    ∃ve vb vl,cs=[.int .i64 op,.string text,ve,vb,vl,.int .i64 pos]∧RepExs S w ve exprs∧RepSts S w vb body∧RepSts S w vl els:=by
 cases h with
 | mk cb cl he hb B hl A=>exact ⟨_,_,_,rfl,he,⟨cb,hb,B⟩,⟨cl,hl,A⟩⟩
end
section
open Go.RowKit
theorem au {w:World} {k:Nat} {A:Array Value} {t:TypeId} {fz:Nat×Nat} (h:w.heap[k]?=some (.cells A t fz)) (j:Nat) (v:Value):(w.setCell ⟨k,j,none⟩ v).heap[k]?=some (.cells (A.setIfInBounds j v) t fz):=by
 show (w.heap.modify k _)[k]?=_
 rw [Array.getElem?_modify,if_pos rfl,h];rfl
structure OnS (T:Nat→Prop) (w w':World):Prop where
 os:w'.os=w.os
 tape:w'.tape=w.tape
 output:w'.output=w.output
 size:w.heap.size≤w'.heap.size
 block:∀i,i<w.heap.size→¬T i→w'.heap[i]?=w.heap[i]?
theorem OnS.refl (T:Nat→Prop) (w:World):OnS T w w:=⟨rfl,rfl,rfl,Nat.le_refl _,fun _ _ _=>rfl⟩
theorem OnS.of_on {T:Nat→Prop} {k:Nat} {w w':World} (h:On k w w') (hk:T k):OnS T w w':=⟨h.os,h.tape,h.output,h.size,fun i hi ht=>h.block i hi (fun e=>by injection e with e;subst e;exact ht hk)⟩
theorem OnS.of_below {T:Nat→Prop} {w w':World} (h:Below w.heap.size w w'):OnS T w w':=⟨h.os,h.tape,h.output,h.size,fun i hi _=>h.block i hi⟩
theorem OnS.of_grown {T:Nat→Prop} {w w':World} {r:Option Nat} (h:w.grownBy w' r) (hr:∀k,r=some k→T k):OnS T w w':=⟨h.os,h.tape,h.output,h.size,fun i hi ht=>h.block i hi (fun e=>ht (hr _ e.symm))⟩
theorem OnS.mono {T T':Nat→Prop} {w w':World} (h:OnS T w w') (ht:∀i,T i→T' i):OnS T' w w':=⟨h.os,h.tape,h.output,h.size,fun i hi hn=>h.block i hi (fun e=>hn (ht i e))⟩
theorem OnS.trans {T:Nat→Prop} {a b c:World} (h:OnS T a b) (g:OnS T b c):OnS T a c:=
 ⟨g.os.trans h.os,g.tape.trans h.tape,g.output.trans h.output,Nat.le_trans h.size g.size,fun i hi ht=>(g.block i (Nat.lt_of_lt_of_le hi h.size) ht).trans (h.block i hi ht)⟩
theorem OnS.new {T T':Nat→Prop} {a b c:World} (h:OnS T a b) (g:OnS T' b c) (ht:∀i,T' i→T i∨a.heap.size≤i):OnS T a c:=
 ⟨g.os.trans h.os,g.tape.trans h.tape,g.output.trans h.output,Nat.le_trans h.size g.size,fun i hi hn=>(g.block i (Nat.lt_of_lt_of_le hi h.size) (fun e=>(ht i e).elim hn (fun q=>by omega))).trans (h.block i hi hn)⟩
theorem OnS.obj {T:Nat→Prop} {k:Nat} {w w':World} {o:Obj} (h:OnS T w w') (hn:¬T k) (ho:w.heap[k]?=some o):w'.heap[k]?=some o:=(h.block k (af ho) hn).trans ho
theorem OnS.cell {T:Nat→Prop} {w w':World} {c o:Nat} {u:Value} (h:OnS T w w') (hn:¬T c) (hc:w.cell? ⟨c,o,none⟩=some u):w'.cell? ⟨c,o,none⟩=some u:=
 (World.cell?_of_block (w:=w) (h.block c (az hc) hn)).trans hc
theorem OnS.stays {T S:Nat→Prop} {w w':World} (h:OnS T w w') (hs:∀b,S b→¬T b):Stays S w w':=⟨h.size,fun b hb hl=>h.block b hl (hs b hb)⟩
theorem OnS.set {T:Nat→Prop} {a b:World} (h:OnS T a b) {k:Nat} (hk:T k) (j:Nat) (u:Value):OnS T a (b.setCell ⟨k,j,none⟩ u):=h.trans (OnS.of_on ((On.refl k b).set j u) hk)
theorem On.of_onS {T:Nat→Prop} {rb:Nat} {a b c:World} (h:On rb a b) (g:OnS T b c) (ht:∀i,T i→i=rb∨a.heap.size≤i):On rb a c:=
 ⟨g.os.trans h.os,g.tape.trans h.tape,g.output.trans h.output,Nat.le_trans h.size g.size,fun i hi A=>(g.block i (Nat.lt_of_lt_of_le hi h.size) (fun e=>(ht i e).elim (fun q=>A (by rw [q])) (fun q=>by omega))).trans (h.block i hi A)⟩
def bH (cs:Nat→List Value) (n:Nat):List Value:=(List.range n).flatMap cs
theorem cO (cs:Nat→List Value) (n:Nat):bH cs (n+1)=bH cs n++cs n:=by
 unfold bH;rw [List.range_succ,List.flatMap_append];simp
theorem nx {cs cs':Nat→List Value} {n:Nat} (h:∀i,i<n→cs i=cs' i):bH cs n=bH cs' n:=by
 induction n with
 | zero=>rfl
 | succ n ih=>rw [cO,cO,ih (fun i hi=>h i (by omega)),h n (Nat.lt_succ_self n)]
theorem gS {cs:Nat→List Value} {n sz:Nat} (h:∀i,i<n→(cs i).length=sz):(bH cs n).length=n * sz:=by
 induction n with
 | zero=>simp [bH]
 | succ n ih=>rw [cO,List.length_append,ih (fun i hi=>h i (by omega)),h n (Nat.lt_succ_self n),Nat.succ_mul]
theorem kT {cs:Nat→List Value} {n sz:Nat} (h:∀i,i<n→(cs i).length=sz) {i j:Nat} (hi:i<n) (hj:j<sz):(bH cs n)[i * sz+j]?=(cs i)[j]?:=by
 induction n with
 | zero=>omega
 | succ n ih =>
  have hl:=gS (n:=n) (fun i hi=>h i (by omega));rw [cO];by_cases e:i=n
  ·subst e
   rw [List.getElem?_append_right (by omega),hl];congr 1
   omega
  ·have A:i<n:=by omega
   have:i * sz+j<n * sz:=Nat.lt_of_lt_of_le (by rw [Nat.succ_mul];omega:i * sz+j<(i+1)*sz) (Nat.mul_le_mul_right sz (by omega));rw [List.getElem?_append_left (by omega)];exact ih (fun i hi=>h i (by omega)) A
theorem gY {α:Type} (l:List α) (y d:α) {i:Nat} (h:i<l.length):(l++[y]).getD i d=l.getD i d:=by
 rw [List.getD_eq_getElem?_getD,List.getD_eq_getElem?_getD,List.getElem?_append_left h]
theorem iq {α:Type} (l:List α) (y d:α):(l++[y]).getD l.length d=y:=by
 rw [List.getD_eq_getElem?_getD,List.getElem?_append_right (Nat.le_refl _),Nat.sub_self];rfl
structure Kind (α:Type) where
 rel:(Nat→Prop)→World→List Value→α→Prop
 keep:∀{S:Nat→Prop} {w w':World} {cs:List Value} {x:α},rel S w cs x→Stays S w w'→rel S w' cs x
 mono:∀{S S':Nat→Prop} {w:World} {cs:List Value} {x:α},rel S w cs x→(∀b,S b→S' b)→rel S' w cs x
 lies:∀{S:Nat→Prop} {w:World} {cs:List Value} {x:α},rel S w cs x→rel (fun b=>S b∧b<w.heap.size) w cs x
def Items {α:Type} [Inhabited α] (K:Kind α) (base sz:Nat) (w:World) (v:Value) (xs:List α) (cs:Nat→List Value):Prop:=
 ∀i,i<xs.length→(cs i).length=sz∧K.rel (fun b=>base≤b∧v.ownBlock≠some b) w (cs i) (xs.getD i default)
def GrowOf {α:Type} [Inhabited α] (K:Kind α) (base e sz:Nat) (w:World) (v:Value) (xs:List α):Prop:=
 ∃cs,w.ownsRow base e sz v xs.length (bH cs xs.length)∧Items K base sz w v xs cs
section
variable {α:Type} [Inhabited α] {K:Kind α} {base e sz:Nat} {w w':World} {v:Value} {xs:List α}
theorem GrowOf.nil:GrowOf K base e sz w (.slice none 0 0) []:=⟨fun _=>[],gq,fun i hi=>absurd hi (by simp)⟩
theorem fW {n:Nat} {l:List Value} (h:w.ownsRow base e sz v n l) (hs:Stays (bN base) w w'):w'.ownsRow base e sz v n l:=by
 refine ⟨h.1,?_⟩;rcases h.2 with q | ⟨g,cap,cur,q1,q2,q3,q4⟩
 ·exact .inl q
 ·exact .inr ⟨g,cap,cur,q1,q2,(hs.block g q2 (af q3)).trans q3,q4⟩
theorem aI {n:Nat} {l:List Value} (h:w.ownsRow base e sz v n l) {b:Nat} (hb:v.ownBlock=some b):base≤b∧b<w.heap.size:=by
 rcases h.2 with ⟨rfl,_⟩ | ⟨g,cap,cur,rfl,q2,q3,q4⟩
 ·cases hb
 ·injection hb with hb
  subst hb;exact ⟨q2,af q3⟩
theorem Items.keep {cs:Nat→List Value} (h:Items K base sz w v xs cs) (hs:Stays (bN base) w w'):Items K base sz w' v xs cs:=fun i hi =>
 ⟨(h i hi).1,K.keep (h i hi).2 ⟨hs.size,fun b hb hl=>hs.block b hb.1 hl⟩⟩
theorem GrowOf.keep (h:GrowOf K base e sz w v xs) (hs:Stays (bN base) w w'):GrowOf K base e sz w' v xs:=by
 obtain ⟨cs,h1,h2⟩:=h;exact ⟨cs,fW h1 hs,h2.keep hs⟩
theorem GrowOf.row (h:GrowOf K base e sz w v xs):∃cs,RowOf (bN base) w v sz xs.length cs∧∀i,i<xs.length→K.rel (bN base) w (cs i) (xs.getD i default):=by
 obtain ⟨cs,h1,h2⟩:=h;obtain ⟨s0,cap,rfl,D,hm,hn,hc⟩:=bC h1;refine ⟨cs,⟨s0,cap,rfl,D,hm,hn,fun h0=>?_,fun i hi=>(h2 i hi).1⟩,fun i hi=>K.mono (h2 i hi).2 (fun b hb=>hb.1)⟩;obtain ⟨g,e,hg,hl,A⟩:=hc h0;refine ⟨g,0,e,hg,hl,fun i hi j hj=>?_⟩;have B:=kT (fun i hi=>(h2 i hi).1) hi hj;have C:=(h2 i hi).1;rw [Nat.zero_add,A (i * sz+j) ((cs i)[j]'(by omega)) (by rw [B];exact List.getElem?_eq_getElem _),List.getElem?_eq_getElem (by omega)]
theorem Items.push {cs:Nat→List Value} {new:List Value} {y:α} {g cap:Nat} (h:Items K base sz w v xs cs) (hn:new.length=sz) (hy:K.rel (fun b=>base≤b∧v.ownBlock≠some b) w new y) (hg:w.grownBy w' v.ownBlock) (A:v.ownBlock=some g∨g=w.heap.size) :
    Items K base sz w' (.slice (some ⟨g,0,none⟩) (xs.length+1) cap) (xs++[y]) (fun i=>if i<xs.length then cs i else new):=by
 have hk:∀(c:List Value) (x:α),K.rel (fun b=>base≤b∧v.ownBlock≠some b) w c x→K.rel (fun b=>base≤b∧(Value.slice (some ⟨g,0,none⟩) (xs.length+1) cap).ownBlock≠some b) w' c x:=fun c x hx =>
  K.mono (K.keep (K.lies hx) ⟨hg.size,fun b hb hl=>hg.block b hl (fun e=>hb.1.2 e.symm)⟩) (fun b hb=>⟨hb.1.1,fun e=>by
    injection e with e
    have e':g=b:=e;subst e';rcases A with q | q
    · exact hb.1.2 q
    · have:=hb.2;omega⟩)
 intro i hi;by_cases e:i<xs.length
 ·dsimp only
  rw [if_pos e];refine ⟨(h i e).1,?_⟩;rw [gY _ _ _ e];exact hk _ _ (h i e).2
 ·have B:i<xs.length+1:=by simpa using hi
  obtain rfl:i=xs.length:=by omega
  dsimp only;rw [if_neg e];refine ⟨hn,?_⟩;rw [iq];exact hk _ _ hy
theorem lw {cs:Nat→List Value} {new:List Value} (n:Nat):bH (fun i=>if i<n then cs i else new) (n+1)=bH cs n++new:=by
 rw [cO,if_neg (Nat.lt_irrefl _),nx (cs':=cs) (fun i hi=>if_pos hi)]
theorem GrowOf.push {cs:Nat→List Value} {new:List Value} {y:α} {g cap:Nat} (h:Items K base sz w v xs cs) (hn:new.length=sz) (hy:K.rel (fun b=>base≤b∧v.ownBlock≠some b) w new y) (hg:w.grownBy w' v.ownBlock) (B:v.ownBlock=some g∨g=w.heap.size)
    (A:w'.ownsRow base e sz (.slice (some ⟨g,0,none⟩) (xs.length+1) cap) (xs.length+1) (bH cs xs.length++new)):GrowOf K base e sz w' (.slice (some ⟨g,0,none⟩) (xs.length+1) cap) (xs++[y]):=by
 refine ⟨_,?_,h.push hn hy hg B⟩;rw [List.length_append,show [y].length=1 from rfl,lw];exact A
theorem kI {g n cap:Nat} {l:List Value} (h:w.ownsRow base e sz (.slice (some ⟨g,0,none⟩) n cap) n l) (j:Nat) (u:Value):(w.setCell ⟨g,j,none⟩ u).ownsRow base e sz (.slice (some ⟨g,0,none⟩) n cap) n (l.set j u):=by
 refine ⟨by rw [List.length_set];exact h.1,?_⟩;rcases h.2 with ⟨q,_⟩ | ⟨g',cap',cur,q1,q2,q3,q4,q5,q6,q7⟩
 ·cases q
 ·injection q1 with a1 a2 a3
  injection a1 with a1
  injection a1 with a1
  subst a1 a3;refine .inr ⟨g,cap,cur.setIfInBounds j u,rfl,q2,au q3 j u,q4,q5,by simpa using q6,?_⟩;rw [←q7];simp [List.take_set]
theorem jH {g n cap:Nat} {l:List Value} (h:w.ownsRow base e sz (.slice (some ⟨g,0,none⟩) n cap) n l):(∀j u,l[j]?=some u→w.cell? ⟨g,j,none⟩=some u)∧(∀j,w.frozen? ⟨g,j,none⟩=false):=by
 rcases h.2 with ⟨q,_⟩ | ⟨g',cap',cur,q1,q2,q3,q4,q5,q6,q7⟩
 ·cases q
 ·injection q1 with a1 a2 a3
  injection a1 with a1
  injection a1 with a1
  subst a1;refine ⟨fun j u hj=>?_,fun j=>ae q3 j⟩;rw [←q7,List.getElem?_take] at hj;split at hj
  ·exact aa q3 (by simpa using hj)
  ·cases hj
end
def OfTy (w:World) (b:Nat) (t:TypeId):Prop:=∃a fz,w.heap[b]?=some (.cells a t fz)
theorem OfTy.ne {w:World} {a b:Nat} {s t:TypeId} (h:OfTy w a s) (g:OfTy w b t) (A:s≠t):a≠b:=fun e=>by
 subst e;obtain ⟨x,y,h⟩:=h;obtain ⟨z,u,g⟩:=g;rw [h] at g;injection g with g
 injection g with _ g
 exact A g
theorem OfTy.lt {w:World} {b:Nat} {t:TypeId} (h:OfTy w b t):b<w.heap.size:=by
 obtain ⟨_,_,h⟩:=h;exact af h
theorem OfTy.keep {w w':World} {b:Nat} {t:TypeId} (h:OfTy w b t) (hb:w'.heap[b]?=w.heap[b]?):OfTy w' b t:=by
 obtain ⟨x,y,h⟩:=h;exact ⟨x,y,hb.trans h⟩
theorem dy {w:World} {base e size n:Nat} {v:Value} {xs:List Value} (h:w.ownsRow base e size v n xs) {k:Nat} (hk:v.ownBlock=some k):OfTy w k e:=by
 rcases h.2 with ⟨rfl,_⟩ | ⟨g,cap,cur,rfl,_,hg,_⟩
 ·cases hk
 ·injection hk with hk
  subst hk;exact ⟨_,_,hg⟩
theorem gc {w w':World} {base e size n:Nat} {v:Value} {xs:List Value} (h:w.ownsRow base e size v n xs) (hk:∀k,v.ownBlock=some k→w'.heap[k]?=w.heap[k]?):w'.ownsRow base e size v n xs:=by
 refine ⟨h.1,?_⟩;rcases h.2 with hn | ⟨g,cap,cur,rfl,hb,A,rest⟩
 ·exact .inl hn
 ·exact .inr ⟨g,cap,cur,rfl,hb,(hk g rfl).trans A,rest⟩
theorem i9 {w:World} {base base' e sz n:Nat} {v:Value} {xs:List Value} (h:w.ownsRow base e sz v n xs) (hb:base'≤base):w.ownsRow base' e sz v n xs:=by
 refine ⟨h.1,?_⟩;rcases h.2 with q | ⟨g,cap,cur,q1,q2,q3⟩
 ·exact .inl q
 ·exact .inr ⟨g,cap,cur,q1,Nat.le_trans hb q2,q3⟩
end
end Go.Proofs.YthgcpfkochikfaaGreat
