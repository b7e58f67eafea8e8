/-
  EvalSigns: part 1 of its proof: see the last text.
-/
import Derived.Test.YthgcpfkochikfaaGreatPs00
import Derived.Test.YthgcpfkochikfaaGreatRows
import Derived.Shelf.Bytes.SlSmallAll
import Derived.Lib.BytesEntry
set_option maxRecDepth 100000
set_option maxHeartbeats 16000000
namespace Go.Proofs.YthgcpfkochikfaaGreat
section
open Go.RowKit
abbrev bM (b:Nat):Nat→Prop:=fun k=>b≤k
structure Stays (S:Nat→Prop) (w w':World):Prop where
 size:w.heap.size≤w'.heap.size
 block:∀b,S b→b<w.heap.size→w'.heap[b]?=w.heap[b]?
theorem Stays.refl (S:Nat→Prop) (w:World):Stays S w w:=⟨Nat.le_refl _,fun _ _ _=>rfl⟩
theorem Stays.trans {S:Nat→Prop} {a b c:World} (h:Stays S a b) (g:Stays S b c):Stays S a c:=
 ⟨Nat.le_trans h.size g.size,fun k hk hl=>(g.block k hk (Nat.lt_of_lt_of_le hl h.size)).trans (h.block k hk hl)⟩
theorem Stays.of_below {S:Nat→Prop} {a b:World} (h:Below a.heap.size a b):Stays S a b:=⟨h.size,fun k _ hl=>h.block k hl⟩
theorem Stays.of_ne {S:Nat→Prop} {k:Nat} {a b:World} (h:On k a b) (hk:¬S k):Stays S a b:=⟨h.size,fun i hi hl=>h.block i hl (fun e=>by injection e with e;subst e;exact hk hi)⟩
theorem Stays.of_on {base k:Nat} {a b:World} (h:On k a b) (hk:k<base):Stays (bM base) a b:=Stays.of_ne h (fun h=>Nat.not_le_of_lt hk h)
theorem Stays.cell {S:Nat→Prop} {a b:World} (h:Stays S a b) {k:Nat} (hk:S k) (hl:k<a.heap.size) (o:Nat):b.cell? ⟨k,o,none⟩=a.cell? ⟨k,o,none⟩:=World.cell?_of_block (w:=a) (h.block k hk hl)
def RowOf (S:Nat→Prop) (w:World) (v:Value) (sz n:Nat) (cs:Nat→List Value):Prop:=
 ∃s0 cap,v=.slice s0 n cap∧n≤cap∧cap≤maxLen∧(s0=none→cap=0)∧(0<n→∃b off,s0=some ⟨b,off,none⟩∧S b∧b<w.heap.size∧∀i,i<n→∀j,j<sz→w.cell? ⟨b,off+i * sz+j,none⟩=(cs i)[j]?)∧∀i,i<n→(cs i).length=sz
theorem RowOf.keep {S:Nat→Prop} {w w':World} {v:Value} {sz n:Nat} {cs:Nat→List Value} (h:RowOf S w v sz n cs) (hk:Stays S w w'):RowOf S w' v sz n cs:=by
 obtain ⟨s0,cap,h1,h2,h3,h4,h5,h6⟩:=h;refine ⟨s0,cap,h1,h2,h3,h4,fun h0=>?_,h6⟩;obtain ⟨b,off,e,hb,hl,hc⟩:=h5 h0;exact ⟨b,off,e,hb,Nat.lt_of_lt_of_le hl hk.size,fun i hi j hj=>(hk.cell hb hl _).trans (hc i hi j hj)⟩
theorem RowOf.mono {S S':Nat→Prop} {w:World} {v:Value} {sz n:Nat} {cs:Nat→List Value} (h:RowOf S w v sz n cs) (hb:∀b,S b→S' b):RowOf S' w v sz n cs:=by
 obtain ⟨s0,cap,h1,h2,h3,h4,h5,h6⟩:=h;refine ⟨s0,cap,h1,h2,h3,h4,fun h0=>?_,h6⟩;obtain ⟨b,off,e,A,hl,hc⟩:=h5 h0;exact ⟨b,off,e,hb _ A,hl,hc⟩
theorem RowOf.nil (S:Nat→Prop) (w:World) (sz:Nat) (cs:Nat→List Value):RowOf S w (.slice none 0 0) sz 0 cs:=
 ⟨none,0,rfl,Nat.le_refl _,Nat.zero_le _,fun _=>rfl,fun h=>absurd h (by omega),fun i hi=>absurd hi (by omega)⟩
inductive RepEx (S:Nat→Prop) (w:World):List Value→Ex→Prop
 | mk {op num pos:Int} {text:ByteArray} {kids:List Ex} {v:Value} (cs:Nat→List Value) (hr:RowOf S w v 5 kids.length cs) (hk:∀i,i<kids.length→RepEx S w (cs i) (kids.getD i default)) :
  RepEx S w [.int .i64 op,.int .i64 num,.string text,v,.int .i64 pos] (.mk op num text kids pos)
theorem RepEx.keep {S:Nat→Prop} {w w':World} {cs:List Value} {x:Ex} (h:RepEx S w cs x) (hk:Stays S w w'):RepEx S w' cs x:=by
 induction h with
 | mk cs hr _ ih=>exact .mk cs (hr.keep hk) ih
theorem RepEx.mono {S S':Nat→Prop} {w:World} {cs:List Value} {x:Ex} (h:RepEx S w cs x) (hb:∀b,S b→S' b):RepEx S' w cs x:=by
 induction h with
 | mk cs hr _ ih=>exact .mk cs (hr.mono hb) ih
theorem RepEx.down {base base':Nat} {w:World} {cs:List Value} {x:Ex} (h:RepEx (bM base) w cs x) (hb:base'≤base):RepEx (bM base') w cs x:=h.mono fun _ hk=>Nat.le_trans hb hk
theorem RepEx.form {S:Nat→Prop} {w:World} {cs:List Value} {x:Ex} (h:RepEx S w cs x):∃op num text v pos,cs=[.int .i64 op,.int .i64 num,.string text,v,.int .i64 pos]∧∃s0 n cap,v=.slice s0 n cap:=by
 obtain ⟨cs,hr,_⟩:=h;obtain ⟨s0,cap,h1,_⟩:=hr;exact ⟨_,_,_,_,_,rfl,_,_,_,h1⟩
def RepExs (S:Nat→Prop) (w:World) (v:Value) (l:List Ex):Prop:=∃cs,RowOf S w v 5 l.length cs∧∀i,i<l.length→RepEx S w (cs i) (l.getD i default)
theorem RepExs.keep {S:Nat→Prop} {w w':World} {v:Value} {l:List Ex} (h:RepExs S w v l) (hk:Stays S w w'):RepExs S w' v l:=by
 obtain ⟨cs,h1,h2⟩:=h;exact ⟨cs,h1.keep hk,fun i hi=>(h2 i hi).keep hk⟩
theorem RepExs.mono {S S':Nat→Prop} {w:World} {v:Value} {l:List Ex} (h:RepExs S w v l) (hb:∀b,S b→S' b):RepExs S' w v l:=by
 obtain ⟨cs,h1,h2⟩:=h;exact ⟨cs,h1.mono hb,fun i hi=>(h2 i hi).mono hb⟩
theorem RepExs.nil (S:Nat→Prop) (w:World):RepExs S w (.slice none 0 0) []:=⟨fun _=>[],RowOf.nil _ _ _ _,fun i hi=>absurd hi (by simp)⟩
theorem RepEx.of {S:Nat→Prop} {w:World} {v:Value} {op num pos:Int} {text:ByteArray} {kids:List Ex} (h:RepExs S w v kids):RepEx S w [.int .i64 op,.int .i64 num,.string text,v,.int .i64 pos] (.mk op num text kids pos):=by
 obtain ⟨cs,h1,h2⟩:=h;exact .mk cs h1 h2
theorem RepEx.kids {S:Nat→Prop} {w:World} {cs:List Value} {op num pos:Int} {text:ByteArray} {kids:List Ex} (h:RepEx S w cs (.mk op num text kids pos)):∃v,cs=[.int .i64 op,.int .i64 num,.string text,v,.int .i64 pos]∧RepExs S w v kids:=by
 cases h with
 | mk cs hr hk=>exact ⟨_,rfl,cs,hr,hk⟩
inductive RepSt (S:Nat→Prop) (w:World):List Value→St→Prop
 | mk {op pos:Int} {text:ByteArray} {exprs:List Ex} {body els:List St} {ve vb vl:Value} (cb cl:Nat→List Value) (he:RepExs S w ve exprs) (hb:RowOf S w vb 6 body.length cb) (hb2:∀i,i<body.length→RepSt S w (cb i) (body.getD i default))
     (hl:RowOf S w vl 6 els.length cl) (hl2:∀i,i<els.length→RepSt S w (cl i) (els.getD i default)) :
  RepSt S w [.int .i64 op,.string text,ve,vb,vl,.int .i64 pos] (.mk op text exprs body els pos)
theorem RepSt.keep {S:Nat→Prop} {w w':World} {cs:List Value} {x:St} (h:RepSt S w cs x) (hk:Stays S w w'):RepSt S w' cs x:=by
 induction h with
 | mk cb cl he hb _ hl _ ih1 ih2=>exact .mk cb cl (he.keep hk) (hb.keep hk) ih1 (hl.keep hk) ih2
theorem RepSt.mono {S S':Nat→Prop} {w:World} {cs:List Value} {x:St} (h:RepSt S w cs x) (A:∀b,S b→S' b):RepSt S' w cs x:=by
 induction h with
 | mk cb cl he hb _ hl _ ih1 ih2=>exact .mk cb cl (he.mono A) (hb.mono A) ih1 (hl.mono A) ih2
def RepSts (S:Nat→Prop) (w:World) (v:Value) (l:List St):Prop:=∃cs,RowOf S w v 6 l.length cs∧∀i,i<l.length→RepSt S w (cs i) (l.getD i default)
theorem RepSts.keep {S:Nat→Prop} {w w':World} {v:Value} {l:List St} (h:RepSts S w v l) (hk:Stays S w w'):RepSts S w' v l:=by
 obtain ⟨cs,h1,h2⟩:=h;exact ⟨cs,h1.keep hk,fun i hi=>(h2 i hi).keep hk⟩
theorem RepSts.nil (S:Nat→Prop) (w:World):RepSts S w (.slice none 0 0) []:=⟨fun _=>[],RowOf.nil _ _ _ _,fun i hi=>absurd hi (by simp)⟩
theorem RepSt.of {S:Nat→Prop} {w:World} {op pos:Int} {text:ByteArray} {exprs:List Ex} {body els:List St} {ve vb vl:Value} (he:RepExs S w ve exprs) (hb:RepSts S w vb body) (hl:RepSts S w vl els) :
    RepSt S w [.int .i64 op,.string text,ve,vb,vl,.int .i64 pos] (.mk op text exprs body els pos):=by
 obtain ⟨cb,D,C⟩:=hb;obtain ⟨cl,B,A⟩:=hl;exact .mk cb cl he D C B A
theorem RepSt.parts {S:Nat→Prop} {w:World} {cs:List Value} {op pos:Int} {text:ByteArray} {exprs:List Ex} {body els:List St} (h:RepSt S w cs (.mk op text exprs body els pos)) :
    ∃ve vb vl,cs=[.int .i64 op,.string text,ve,vb,vl,.int .i64 pos]∧RepExs S w ve exprs∧RepSts S w vb body∧RepSts S w vl els:=by
 cases h with
 | mk cb cl he hb B hl A=>exact ⟨_,_,_,rfl,he,⟨cb,hb,B⟩,⟨cl,hl,A⟩⟩
end
section
open Go.RowKit
theorem au {w:World} {k:Nat} {A:Array Value} {t:TypeId} {fz:Nat×Nat} (h:w.heap[k]?=some (.cells A t fz)) (j:Nat) (v:Value):(w.setCell ⟨k,j,none⟩ v).heap[k]?=some (.cells (A.setIfInBounds j v) t fz):=by
 show (w.heap.modify k _)[k]?=_
 rw [Array.getElem?_modify,if_pos rfl,h];rfl
structure OnS (T:Nat→Prop) (w w':World):Prop where
 os:w'.os=w.os
 tape:w'.tape=w.tape
 output:w'.output=w.output
 size:w.heap.size≤w'.heap.size
 block:∀i,i<w.heap.size→¬T i→w'.heap[i]?=w.heap[i]?
theorem OnS.refl (T:Nat→Prop) (w:World):OnS T w w:=⟨rfl,rfl,rfl,Nat.le_refl _,fun _ _ _=>rfl⟩
theorem OnS.of_on {T:Nat→Prop} {k:Nat} {w w':World} (h:On k w w') (hk:T k):OnS T w w':=⟨h.os,h.tape,h.output,h.size,fun i hi ht=>h.block i hi (fun e=>by injection e with e;subst e;exact ht hk)⟩
theorem OnS.of_below {T:Nat→Prop} {w w':World} (h:Below w.heap.size w w'):OnS T w w':=⟨h.os,h.tape,h.output,h.size,fun i hi _=>h.block i hi⟩
theorem OnS.of_grown {T:Nat→Prop} {w w':World} {r:Option Nat} (h:w.grownBy w' r) (hr:∀k,r=some k→T k):OnS T w w':=⟨h.os,h.tape,h.output,h.size,fun i hi ht=>h.block i hi (fun e=>ht (hr _ e.symm))⟩
theorem OnS.mono {T T':Nat→Prop} {w w':World} (h:OnS T w w') (ht:∀i,T i→T' i):OnS T' w w':=⟨h.os,h.tape,h.output,h.size,fun i hi hn=>h.block i hi (fun e=>hn (ht i e))⟩
theorem OnS.trans {T:Nat→Prop} {a b c:World} (h:OnS T a b) (g:OnS T b c):OnS T a c:=
 ⟨g.os.trans h.os,g.tape.trans h.tape,g.output.trans h.output,Nat.le_trans h.size g.size,fun i hi ht=>(g.block i (Nat.lt_of_lt_of_le hi h.size) ht).trans (h.block i hi ht)⟩
theorem OnS.new {T T':Nat→Prop} {a b c:World} (h:OnS T a b) (g:OnS T' b c) (ht:∀i,T' i→T i∨a.heap.size≤i):OnS T a c:=
 ⟨g.os.trans h.os,g.tape.trans h.tape,g.output.trans h.output,Nat.le_trans h.size g.size,fun i hi hn=>(g.block i (Nat.lt_of_lt_of_le hi h.size) (fun e=>(ht i e).elim hn (fun q=>by omega))).trans (h.block i hi hn)⟩
theorem OnS.obj {T:Nat→Prop} {k:Nat} {w w':World} {o:Obj} (h:OnS T w w') (hn:¬T k) (ho:w.heap[k]?=some o):w'.heap[k]?=some o:=(h.block k (af ho) hn).trans ho
theorem OnS.cell {T:Nat→Prop} {w w':World} {c o:Nat} {u:Value} (h:OnS T w w') (hn:¬T c) (hc:w.cell? ⟨c,o,none⟩=some u):w'.cell? ⟨c,o,none⟩=some u:=
 (World.cell?_of_block (w:=w) (h.block c (az hc) hn)).trans hc
theorem OnS.stays {T S:Nat→Prop} {w w':World} (h:OnS T w w') (hs:∀b,S b→¬T b):Stays S w w':=⟨h.size,fun b hb hl=>h.block b hl (hs b hb)⟩
theorem OnS.set {T:Nat→Prop} {a b:World} (h:OnS T a b) {k:Nat} (hk:T k) (j:Nat) (u:Value):OnS T a (b.setCell ⟨k,j,none⟩ u):=h.trans (OnS.of_on ((On.refl k b).set j u) hk)
theorem On.of_onS {T:Nat→Prop} {rb:Nat} {a b c:World} (h:On rb a b) (g:OnS T b c) (ht:∀i,T i→i=rb∨a.heap.size≤i):On rb a c:=
 ⟨g.os.trans h.os,g.tape.trans h.tape,g.output.trans h.output,Nat.le_trans h.size g.size,fun i hi A=>(g.block i (Nat.lt_of_lt_of_le hi h.size) (fun e=>(ht i e).elim (fun q=>A (by rw [q])) (fun q=>by omega))).trans (h.block i hi A)⟩
def bG (cs:Nat→List Value) (n:Nat):List Value:=(List.range n).flatMap cs
theorem cO (cs:Nat→List Value) (n:Nat):bG cs (n+1)=bG cs n++cs n:=by
 unfold bG;rw [List.range_succ,List.flatMap_append];simp
theorem ng {cs cs':Nat→List Value} {n:Nat} (h:∀i,i<n→cs i=cs' i):bG cs n=bG cs' n:=by
 induction n with
 | zero=>rfl
 | succ n ih=>rw [cO,cO,ih (fun i hi=>h i (by omega)),h n (Nat.lt_succ_self n)]
theorem gW {cs:Nat→List Value} {n sz:Nat} (h:∀i,i<n→(cs i).length=sz):(bG cs n).length=n * sz:=by
 induction n with
 | zero=>simp [bG]
 | succ n ih=>rw [cO,List.length_append,ih (fun i hi=>h i (by omega)),h n (Nat.lt_succ_self n),Nat.succ_mul]
theorem kO {cs:Nat→List Value} {n sz:Nat} (h:∀i,i<n→(cs i).length=sz) {i j:Nat} (hi:i<n) (hj:j<sz):(bG cs n)[i * sz+j]?=(cs i)[j]?:=by
 induction n with
 | zero=>omega
 | succ n ih =>
  have hl:=gW (n:=n) (fun i hi=>h i (by omega));rw [cO];by_cases e:i=n
  ·subst e
   rw [List.getElem?_append_right (by omega),hl];congr 1
   omega
  ·have A:i<n:=by omega
   have:i * sz+j<n * sz:=Nat.lt_of_lt_of_le (by rw [Nat.succ_mul];omega:i * sz+j<(i+1)*sz) (Nat.mul_le_mul_right sz (by omega));rw [List.getElem?_append_left (by omega)];exact ih (fun i hi=>h i (by omega)) A
theorem iw {α:Type} (l:List α) (y d:α) {i:Nat} (h:i<l.length):(l++[y]).getD i d=l.getD i d:=by
 rw [List.getD_eq_getElem?_getD,List.getD_eq_getElem?_getD,List.getElem?_append_left h]
theorem hY {α:Type} (l:List α) (y d:α):(l++[y]).getD l.length d=y:=by
 rw [List.getD_eq_getElem?_getD,List.getElem?_append_right (Nat.le_refl _),Nat.sub_self];rfl
structure Kind (α:Type) where
 rel:(Nat→Prop)→World→List Value→α→Prop
 keep:∀{S:Nat→Prop} {w w':World} {cs:List Value} {x:α},rel S w cs x→Stays S w w'→rel S w' cs x
 mono:∀{S S':Nat→Prop} {w:World} {cs:List Value} {x:α},rel S w cs x→(∀b,S b→S' b)→rel S' w cs x
 lies:∀{S:Nat→Prop} {w:World} {cs:List Value} {x:α},rel S w cs x→rel (fun b=>S b∧b<w.heap.size) w cs x
def Items {α:Type} [Inhabited α] (K:Kind α) (base sz:Nat) (w:World) (v:Value) (xs:List α) (cs:Nat→List Value):Prop:=
 ∀i,i<xs.length→(cs i).length=sz∧K.rel (fun b=>base≤b∧v.ownBlock≠some b) w (cs i) (xs.getD i default)
def GrowOf {α:Type} [Inhabited α] (K:Kind α) (base e sz:Nat) (w:World) (v:Value) (xs:List α):Prop:=
 ∃cs,w.ownsRow base e sz v xs.length (bG cs xs.length)∧Items K base sz w v xs cs
section
variable {α:Type} [Inhabited α] {K:Kind α} {base e sz:Nat} {w w':World} {v:Value} {xs:List α}
theorem GrowOf.nil:GrowOf K base e sz w (.slice none 0 0) []:=⟨fun _=>[],gy,fun i hi=>absurd hi (by simp)⟩
theorem fY {n:Nat} {l:List Value} (h:w.ownsRow base e sz v n l) (hs:Stays (bM base) w w'):w'.ownsRow base e sz v n l:=by
 refine ⟨h.1,?_⟩;rcases h.2 with q | ⟨g,cap,cur,q1,q2,q3,q4⟩
 ·exact .inl q
 ·exact .inr ⟨g,cap,cur,q1,q2,(hs.block g q2 (af q3)).trans q3,q4⟩
theorem aI {n:Nat} {l:List Value} (h:w.ownsRow base e sz v n l) {b:Nat} (hb:v.ownBlock=some b):base≤b∧b<w.heap.size:=by
 rcases h.2 with ⟨rfl,_⟩ | ⟨g,cap,cur,rfl,q2,q3,q4⟩
 ·cases hb
 ·injection hb with hb
  subst hb;exact ⟨q2,af q3⟩
theorem Items.keep {cs:Nat→List Value} (h:Items K base sz w v xs cs) (hs:Stays (bM base) w w'):Items K base sz w' v xs cs:=fun i hi =>
 ⟨(h i hi).1,K.keep (h i hi).2 ⟨hs.size,fun b hb hl=>hs.block b hb.1 hl⟩⟩
theorem GrowOf.keep (h:GrowOf K base e sz w v xs) (hs:Stays (bM base) w w'):GrowOf K base e sz w' v xs:=by
 obtain ⟨cs,h1,h2⟩:=h;exact ⟨cs,fY h1 hs,h2.keep hs⟩
theorem GrowOf.row (h:GrowOf K base e sz w v xs):∃cs,RowOf (bM base) w v sz xs.length cs∧∀i,i<xs.length→K.rel (bM base) w (cs i) (xs.getD i default):=by
 obtain ⟨cs,h1,h2⟩:=h;obtain ⟨s0,cap,rfl,D,hm,hn,hc⟩:=ba h1;refine ⟨cs,⟨s0,cap,rfl,D,hm,hn,fun h0=>?_,fun i hi=>(h2 i hi).1⟩,fun i hi=>K.mono (h2 i hi).2 (fun b hb=>hb.1)⟩;obtain ⟨g,e,hg,hl,A⟩:=hc h0;refine ⟨g,0,e,hg,hl,fun i hi j hj=>?_⟩;have B:=kO (fun i hi=>(h2 i hi).1) hi hj;have C:=(h2 i hi).1;rw [Nat.zero_add,A (i * sz+j) ((cs i)[j]'(by omega)) (by rw [B];exact List.getElem?_eq_getElem _),List.getElem?_eq_getElem (by omega)]
theorem Items.push {cs:Nat→List Value} {new:List Value} {y:α} {g cap:Nat} (h:Items K base sz w v xs cs) (hn:new.length=sz) (hy:K.rel (fun b=>base≤b∧v.ownBlock≠some b) w new y) (hg:w.grownBy w' v.ownBlock) (A:v.ownBlock=some g∨g=w.heap.size) :
    Items K base sz w' (.slice (some ⟨g,0,none⟩) (xs.length+1) cap) (xs++[y]) (fun i=>if i<xs.length then cs i else new):=by
 have hk:∀(c:List Value) (x:α),K.rel (fun b=>base≤b∧v.ownBlock≠some b) w c x→K.rel (fun b=>base≤b∧(Value.slice (some ⟨g,0,none⟩) (xs.length+1) cap).ownBlock≠some b) w' c x:=fun c x hx =>
  K.mono (K.keep (K.lies hx) ⟨hg.size,fun b hb hl=>hg.block b hl (fun e=>hb.1.2 e.symm)⟩) (fun b hb=>⟨hb.1.1,fun e=>by
    injection e with e
    have e':g=b:=e;subst e';rcases A with q | q
    · exact hb.1.2 q
    · have:=hb.2;omega⟩)
 intro i hi;by_cases e:i<xs.length
 ·dsimp only
  rw [if_pos e];refine ⟨(h i e).1,?_⟩;rw [iw _ _ _ e];exact hk _ _ (h i e).2
 ·have B:i<xs.length+1:=by simpa using hi
  obtain rfl:i=xs.length:=by omega
  dsimp only;rw [if_neg e];refine ⟨hn,?_⟩;rw [hY];exact hk _ _ hy
theorem lz {cs:Nat→List Value} {new:List Value} (n:Nat):bG (fun i=>if i<n then cs i else new) (n+1)=bG cs n++new:=by
 rw [cO,if_neg (Nat.lt_irrefl _),ng (cs':=cs) (fun i hi=>if_pos hi)]
theorem GrowOf.push {cs:Nat→List Value} {new:List Value} {y:α} {g cap:Nat} (h:Items K base sz w v xs cs) (hn:new.length=sz) (hy:K.rel (fun b=>base≤b∧v.ownBlock≠some b) w new y) (hg:w.grownBy w' v.ownBlock) (B:v.ownBlock=some g∨g=w.heap.size)
    (A:w'.ownsRow base e sz (.slice (some ⟨g,0,none⟩) (xs.length+1) cap) (xs.length+1) (bG cs xs.length++new)):GrowOf K base e sz w' (.slice (some ⟨g,0,none⟩) (xs.length+1) cap) (xs++[y]):=by
 refine ⟨_,?_,h.push hn hy hg B⟩;rw [List.length_append,show [y].length=1 from rfl,lz];exact A
theorem kq {g n cap:Nat} {l:List Value} (h:w.ownsRow base e sz (.slice (some ⟨g,0,none⟩) n cap) n l) (j:Nat) (u:Value):(w.setCell ⟨g,j,none⟩ u).ownsRow base e sz (.slice (some ⟨g,0,none⟩) n cap) n (l.set j u):=by
 refine ⟨by rw [List.length_set];exact h.1,?_⟩;rcases h.2 with ⟨q,_⟩ | ⟨g',cap',cur,q1,q2,q3,q4,q5,q6,q7⟩
 ·cases q
 ·injection q1 with a1 a2 a3
  injection a1 with a1
  injection a1 with a1
  subst a1 a3;refine .inr ⟨g,cap,cur.setIfInBounds j u,rfl,q2,au q3 j u,q4,q5,by simpa using q6,?_⟩;rw [←q7];simp [List.take_set]
theorem jC {g n cap:Nat} {l:List Value} (h:w.ownsRow base e sz (.slice (some ⟨g,0,none⟩) n cap) n l):(∀j u,l[j]?=some u→w.cell? ⟨g,j,none⟩=some u)∧(∀j,w.frozen? ⟨g,j,none⟩=false):=by
 rcases h.2 with ⟨q,_⟩ | ⟨g',cap',cur,q1,q2,q3,q4,q5,q6,q7⟩
 ·cases q
 ·injection q1 with a1 a2 a3
  injection a1 with a1
  injection a1 with a1
  subst a1;refine ⟨fun j u hj=>?_,fun j=>ae q3 j⟩;rw [←q7,List.getElem?_take] at hj;split at hj
  ·exact aa q3 (by simpa using hj)
  ·cases hj
end
def OfTy (w:World) (b:Nat) (t:TypeId):Prop:=∃a fz,w.heap[b]?=some (.cells a t fz)
theorem OfTy.ne {w:World} {a b:Nat} {s t:TypeId} (h:OfTy w a s) (g:OfTy w b t) (A:s≠t):a≠b:=fun e=>by
 subst e;obtain ⟨x,y,h⟩:=h;obtain ⟨z,u,g⟩:=g;rw [h] at g;injection g with g
 injection g with _ g
 exact A g
theorem OfTy.lt {w:World} {b:Nat} {t:TypeId} (h:OfTy w b t):b<w.heap.size:=by
 obtain ⟨_,_,h⟩:=h;exact af h
theorem OfTy.keep {w w':World} {b:Nat} {t:TypeId} (h:OfTy w b t) (hb:w'.heap[b]?=w.heap[b]?):OfTy w' b t:=by
 obtain ⟨x,y,h⟩:=h;exact ⟨x,y,hb.trans h⟩
theorem dA {w:World} {base e size n:Nat} {v:Value} {xs:List Value} (h:w.ownsRow base e size v n xs) {k:Nat} (hk:v.ownBlock=some k):OfTy w k e:=by
 rcases h.2 with ⟨rfl,_⟩ | ⟨g,cap,cur,rfl,_,hg,_⟩
 ·cases hk
 ·injection hk with hk
  subst hk;exact ⟨_,_,hg⟩
theorem fU {w w':World} {base e size n:Nat} {v:Value} {xs:List Value} (h:w.ownsRow base e size v n xs) (hk:∀k,v.ownBlock=some k→w'.heap[k]?=w.heap[k]?):w'.ownsRow base e size v n xs:=by
 refine ⟨h.1,?_⟩;rcases h.2 with hn | ⟨g,cap,cur,rfl,hb,A,rest⟩
 ·exact .inl hn
 ·exact .inr ⟨g,cap,cur,rfl,hb,(hk g rfl).trans A,rest⟩
theorem iT {w:World} {base base' e sz n:Nat} {v:Value} {xs:List Value} (h:w.ownsRow base e sz v n xs) (hb:base'≤base):w.ownsRow base' e sz v n xs:=by
 refine ⟨h.1,?_⟩;rcases h.2 with q | ⟨g,cap,cur,q1,q2,q3⟩
 ·exact .inl q
 ·exact .inr ⟨g,cap,cur,q1,Nat.le_trans hb q2,q3⟩
end
section
open Go.RowKit
structure Vv where
 ty:Int
 num:Int
 text:List UInt8
instance:Inhabited Vv:=⟨⟨0,0,[]⟩⟩
def noV:Vv:=⟨0,0,[]⟩
def aB (n:Int):Vv:=⟨1,n,[]⟩
def aW (b:Bool):Vv:=⟨2,if b then 1 else 0,[]⟩
def aE (s:List UInt8):Vv:=⟨3,0,s⟩
def inV (n:Int):Vv×Int:=if -9223372036854775808≤n∧n≤9223372036854775807 then (aB n,0) else (noV,3)
def iz (f:Int→Int→Int) (a b:Int):Vv×Int:=if b=0 then (noV,2) else if a=-9223372036854775808∧b=-1 then (noV,3) else (aB (f a b),0)
def eK (s:List UInt8) (a b:Int):Vv×Int:=
 if s=[43] then inV (a+b) else if s=[45] then inV (a-b) else if s=[42] then inV (a * b)
 else if s=[47] then iz Int.tdiv a b else if s=[37] then iz Int.tmod a b
 else if s=[60] then (aW (decide (a<b)),0) else if s=[60,61] then (aW (decide (a≤b)),0)
 else if s=[62] then (aW (decide (b<a)),0) else if s=[62,61] then (aW (decide (b≤a)),0)
 else if s=[61,61] then (aW (decide (a=b)),0) else if s=[33,61] then (aW (!decide (a=b)),0) else (noV,7)
def dW (s:List UInt8) (a b:Bool):Vv×Int:=
 if s=[61,61] then (aW (a==b),0) else if s=[33,61] then (aW (a !=b),0)
 else if s=[38,38] then (aW (a&&b),0) else if s=[124,124] then (aW (a || b),0) else (noV,7)
def dV (s a b:List UInt8):Vv×Int:=
 if s=[61,61] then (aW (a==b),0) else if s=[33,61] then (aW (a !=b),0)
 else if s=[43] then (if 256<a.length+b.length then (noV,6) else (aE (a++b),0)) else (noV,7)
def cJ (s:List UInt8) (a b:Vv):Vv×Int:=
 if a.ty≠b.ty then (noV,7) else if a.ty=1 then eK s a.num b.num else if a.ty=2 then dW s (a.num==1) (b.num==1)
 else if a.ty=3 then dV s a.text b.text else (noV,7)
def eG (s:List UInt8) (a:Vv):Vv×Int:=
 if s=[45]∧a.ty=1 then (if a.num=-9223372036854775808 then (noV,3) else (aB (-a.num),0))
 else if s=[33]∧a.ty=2 then (aW (!(a.num==1)),0) else (noV,7)
abbrev Pr:=List UInt8×List UInt8
def bS:List UInt8→List UInt8→Bool
 | [],[]=>false
 | [],_ :: _=>true
 | _ :: _,[]=>false
 | a :: l,b :: r=>if a<b then true else if b<a then false else bS l r
def cn (l:List Pr):Nat:=(l.map fun p=>8+p.1.length+p.2.length).sum
def dt:List Pr→Bool
 | []=>true
 | [_]=>true
 | p :: q :: l=>bS p.1 q.1&&dt (q :: l)
def a8 (l:List Pr):Bool:=(l.all fun p=>decide (p.1.length≤64)&&decide (p.2.length≤256))&&dt l&&decide (cn l≤2048)
def fQ (l:List Pr) (k:List UInt8):Option (List UInt8):=(l.find? fun p=>p.1==k).map (·.2)
def fc:List Pr→List UInt8→List UInt8→List Pr
 | [],k,v=>[(k,v)]
 | p :: l,k,v=>if p.1=k then (k,v) :: l else if bS k p.1 then (k,v) :: p :: l else p :: fc l k v
def eo:List Pr→List UInt8→List Pr
 | [],_=>[]
 | p :: l,k=>if p.1=k then l else p :: eo l k
def fw (l:List Pr) (k v:List UInt8):Except Int (List Pr):=
 if 64<k.length∨256<v.length then .error 1 else if 2048<cn (fc l k v) then .error 71 else .ok (fc l k v)
def fZ (n:Int):Int:=max 0 n / 16
def eF (k v:Int):Int:=4+fZ (max 0 (min k 2147483648)+max 0 (min v 2147483648))
end
section
open Go.RowKit
def byC (l:List UInt8) (i:Nat):List Value:=[.int .u8 (l.getD i 0).toNat]
def byV (l:List UInt8):List Value:=l.map fun b=>.int .u8 b.toNat
def TxtAt (S:Nat→Prop) (w:World) (v:Value) (l:List UInt8):Prop:=RowOf S w v 1 l.length (byC l)
def U8 (B:Nat) (w:World) (b:Nat):Prop:=B≤b∧OfTy w b 5
section
variable {S S':Nat→Prop} {w w':World} {v:Value} {l:List UInt8}
theorem TxtAt.keep (h:TxtAt S w v l) (hk:Stays S w w'):TxtAt S w' v l:=RowOf.keep h hk
theorem TxtAt.mono (h:TxtAt S w v l) (hb:∀b,S b→S' b):TxtAt S' w v l:=RowOf.mono h hb
theorem TxtAt.below (h:TxtAt S w v l) (hb:Below w.heap.size w w'):TxtAt S w' v l:=h.keep (Stays.of_below hb)
theorem TxtAt.nil (S:Nat→Prop) (w:World):TxtAt S w (.slice none 0 0) []:=RowOf.nil _ _ _ _
theorem TxtAt.form (h:TxtAt S w v l):∃p c,v=.slice p l.length c∧l.length≤c∧c≤maxLen∧(p=none→c=0)∧(0<l.length→∃b off,p=some ⟨b,off,none⟩∧S b∧b<w.heap.size∧∀i,i<l.length→w.cell? ⟨b,off+i,none⟩=some (.int .u8 (l.getD i 0).toNat)):=by
 obtain ⟨p,c,h1,h2,h3,h4,h5,_⟩:=h;refine ⟨p,c,h1,h2,h3,h4,fun h0=>?_⟩;obtain ⟨b,off,e,hb,hl,hc⟩:=h5 h0;refine ⟨b,off,e,hb,hl,fun i hi=>?_⟩;have:=hc i hi 0 (by decide);rwa [Nat.mul_one,Nat.add_zero] at this
theorem TxtAt.of_cells {p:Option Addr} {c:Nat} (h1:l.length≤c) (h2:c≤maxLen) (h3:p=none→c=0) (h:0<l.length→∃b off,p=some ⟨b,off,none⟩∧S b∧∀i,i<l.length→w.cell? ⟨b,off+i,none⟩=some (.int .u8 (l.getD i 0).toNat)):TxtAt S w (.slice p l.length c) l:=by
 refine ⟨p,c,rfl,h1,h2,h3,fun h0=>?_,fun i _=>rfl⟩;obtain ⟨b,off,e,hb,hc⟩:=h h0;refine ⟨b,off,e,hb,az (hc 0 h0),fun i hi j hj=>?_⟩;obtain rfl:j=0:=by omega
 rw [Nat.mul_one,Nat.add_zero];exact hc i hi
theorem Bp {i:Nat} {u:Value} (h:(byV l)[i]?=some u):i<l.length∧u=.int .u8 (l.getD i 0).toNat:=by
 unfold byV at h
 have hi:i<l.length:=by
  have:=(List.getElem?_eq_some_iff.1 h).1;simpa using this
 refine ⟨hi,?_⟩;rw [List.getElem?_map,List.getElem?_eq_getElem hi] at h;rw [List.getD_eq_getElem?_getD,List.getElem?_eq_getElem hi];exact (Option.some.inj h).symm
theorem Cx {i:Nat} (h:i<l.length):(byV l)[i]?=some (.int .u8 (l.getD i 0).toNat):=by
 unfold byV;rw [List.getElem?_map,List.getD_eq_getElem?_getD,List.getElem?_eq_getElem h];rfl
theorem lR:(byV l).length=l.length:=by simp [byV]
theorem pj:∀u∈byV l,u.oneCell'=true:=fun u hu=>by
 obtain ⟨b,_,rfl⟩:=List.mem_map.1 hu;rfl
theorem dE {B n:Nat} (h:w.ownsRow B 5 1 v n (byV l)):TxtAt (U8 B w) w v l:=by
 have hn:n=l.length:=by have:=h.1;rw [lR] at this;omega
 subst hn;obtain ⟨s0,cap,rfl,h1,h2,h3,h4⟩:=ba h;refine TxtAt.of_cells h1 h2 h3 fun h0=>?_;obtain ⟨g,rfl,hg,hl,hc⟩:=h4 h0;refine ⟨g,0,rfl,⟨hg,dA h rfl⟩,fun i hi=>?_⟩;rw [Nat.zero_add];exact hc i _ (Cx hi)
theorem U8.keep {B B' b:Nat} (h:U8 B w b) (hs:Stays (U8 B w) w w') (hB:B'≤B):U8 B' w' b:=⟨Nat.le_trans hB h.1,h.2.keep (hs.block b h h.2.lt)⟩
theorem TxtAt.u8 {B B':Nat} (h:TxtAt (U8 B w) w v l) (hs:Stays (U8 B w) w w') (hB:B'≤B):TxtAt (U8 B' w') w' v l:=(h.keep hs).mono fun _ q=>q.keep hs hB
theorem TxtAt.adds {p:Option Addr} {n c:Nat} (h:TxtAt S w (.slice p n c) l):n=l.length∧∀ad,p=some ad→∀j u,(byV l)[j]?=some u→w.cell? (ad.add j)=some u:=by
 obtain ⟨p',c',e,_,_,_,h5⟩:=h.form;injection e with e1 e2 e3
 subst e1 e2;refine ⟨rfl,fun ad hp j u hj=>?_⟩;obtain ⟨A,rfl⟩:=Bp hj;obtain ⟨b,off,e,_,_,hc⟩:=h5 (by omega);rw [hp] at e;injection e with e
 subst e;rw [Go.WideShapes.add_plain];exact hc j A
theorem dM (h:TxtAt S w v l):(convert 30 9 v).run Tryz.prog w=.ok (.string ⟨l.toArray⟩) w:=by
 obtain ⟨p,c,rfl,_,_,_,h5⟩:=h.form;by_cases h0:l.length=0
 ·obtain rfl:l=[]:=List.eq_nil_of_length_eq_zero h0
  exact run_convert_bytes_zero w _ _ Tryz.underlying30 Tryz.underlying5 p c _ Tryz.underlying9
 ·obtain ⟨b,off,rfl,_,_,hc⟩:=h5 (by omega)
  rw [run_convert_bytes_arg w _ _ Tryz.underlying30 Tryz.underlying5 b off l.length c (l.map fun b=>(b.toNat:Int)) (by simp) (fun i hi=>by
    rw [hc i hi,List.getD_eq_getElem?_getD,List.getD_eq_getElem?_getD,List.getElem?_map,List.getElem?_eq_getElem hi];rfl) _ Tryz.underlying9]
  congr 2
  unfold strOfNums;congr 1
  rw [List.map_map];congr 1
  exact (List.map_congr_left fun b _=>by simp).trans (List.map_id' l)
theorem qm (h:TxtAt S w v l):(Extern.Bytes.bytesOf v).run Tryz.prog w=.ok ⟨l.toArray⟩ w:=by
 obtain ⟨p,c,rfl,_,_,_,h5⟩:=h.form
 cases p with
 | none =>
  have h0:¬0<l.length:=fun h0=>by
   obtain ⟨_,_,e,_⟩:=h5 h0
   cases e
  obtain rfl:l=[]:=List.eq_nil_of_length_eq_zero (by omega);rfl
 | some a =>
  have:=Lib.run_loadBytesX (P:=Tryz.prog) w (l.map fun b=>(b.toNat:Int)) a .empty (fun j x hj=>by
    have A:j<l.length:=by
      have:=(List.getElem?_eq_some_iff.1 hj).1;simpa using this
    obtain ⟨b,off,e,_,_,hc⟩:=h5 (by omega);injection e with e
    subst e;rw [Go.WideShapes.add_plain,hc j A];rw [List.getElem?_map,List.getElem?_eq_getElem A] at hj;rw [List.getD_eq_getElem?_getD,List.getElem?_eq_getElem A];exact congrArg (fun z=>some (Value.int .u8 z)) (Option.some.inj hj))
  rw [List.length_map] at this;show (Extern.Bytes.loadBytes a l.length .empty).run Tryz.prog w=_
  rw [this];congr 1
  apply ByteArray.ext;show (#[]:Array UInt8)++(Lib.bytesOf (l.map fun b=>(b.toNat:Int))).toArray=l.toArray
  rw [Array.empty_append];congr 1
  unfold Lib.bytesOf;rw [List.map_map];exact (List.map_congr_left fun b _=>by simp).trans (List.map_id' l)
end
theorem wF {S1 S2:Nat→Prop} {a b:Value} {la lb:List UInt8} (w:World) (ha:TxtAt S1 w a la) (hb:TxtAt S2 w b lb):Calls Tryz.prog 202 #[a,b] w fun e w'=>e=.returned (.bool (la==lb))∧w=w':=by
 obtain ⟨pa,ca,e1,_⟩:=ha.form;obtain ⟨pb,cb,e2,_⟩:=hb.form;subst e1 e2;have h1:=dM ha;have h2:=dM hb;have e:((⟨la.toArray⟩:ByteArray).toList==(⟨lb.toArray⟩:ByteArray).toList)=(la==lb):=by rw [ByteArray.toList_eq,ByteArray.toList_eq]
 have HE:=zh e;clear ha hb e;go_enter Tryz.func202,Tryz.ntmps202
 go_wp2_with fail
 exact bodyPost_ret (v:=.bool (la==lb)) (by simp [results,Tryz.results202,go_sem]) rfl ⟨rfl,rfl⟩
theorem fJ:∀a b:List UInt8,bS a b=decide (Lib.compareBytes a b<0)
 | [],[]=>rfl
 | [],_ :: _=>rfl
 | _ :: _,[]=>rfl
 | x :: a,y :: b=>by
  rw [bS,Lib.compareBytes];by_cases h:x<y
  ·rw [if_pos h,if_pos h];rfl
  ·rw [if_neg h,if_neg h]
   by_cases g:y<x
   ·rw [if_pos g,if_pos g];rfl
   ·rw [if_neg g,if_neg g,fJ a b]
theorem km:∀a b:List UInt8,Lib.compareBytes a b=- Lib.compareBytes b a
 | [],[]=>rfl
 | [],_ :: _=>rfl
 | _ :: _,[]=>rfl
 | x :: a,y :: b=>by
  rw [Lib.compareBytes,Lib.compareBytes];by_cases h:x<y
  ·rw [if_pos h,if_neg (UInt8.lt_asymm h),if_pos h]
  ·rw [if_neg h]
   by_cases g:y<x
   ·rw [if_pos g,if_pos g];rfl
   ·rw [if_neg g,if_neg g,if_neg h,km a b]
theorem je:∀a b:List UInt8,Lib.compareBytes a b=0 ↔ a=b
 | [],[]=>by simp [Lib.compareBytes]
 | [],_ :: _=>by simp [Lib.compareBytes]
 | _ :: _,[]=>by simp [Lib.compareBytes]
 | x :: a,y :: b=>by
  rw [Lib.compareBytes];by_cases h:x<y
  ·rw [if_pos h]
   exact ⟨fun q=>absurd q (by decide),fun q=>by injection q with q;subst q;exact absurd h (UInt8.lt_irrefl _)⟩
  ·rw [if_neg h]
   by_cases g:y<x
   ·rw [if_pos g]
    exact ⟨fun q=>absurd q (by decide),fun q=>by injection q with q;subst q;exact absurd g (UInt8.lt_irrefl _)⟩
   ·rw [if_neg g,je a b]
    have e:x=y:=UInt8.le_antisymm (UInt8.not_lt.1 g) (UInt8.not_lt.1 h);subst e;simp
theorem iS {S1 S2:Nat→Prop} {a b:Value} {la lb:List UInt8} (w:World) (ha:TxtAt S1 w a la) (hb:TxtAt S2 w b lb):Calls Tryz.prog 53 #[a,b] w fun e w'=>e=.returned (.int .i64 (Lib.compareBytes la lb))∧w=w':=by
 have hx:∀args W,Sem.run Tryz.prog (callFunc 85 args) W=_:=fun args W=>run_callFunc_extern Tryz.func85 (by kernel_rfl) (by kernel_rfl) (by kernel_rfl) (e:=Extern.BytealgCompare.compare) (by kernel_rfl) args W
 have HR:Hd ((Extern.BytealgCompare.compare #[a,b]).run Tryz.prog w=.ok (.int .i64 (Lib.compareBytes la lb)) w):=zh (by
   show Sem.run Tryz.prog (do pure (goInt (Extern.BytealgCompare.cmp (←Extern.Bytes.bytesOf a) (←Extern.Bytes.bytesOf b)))) w=_
   rw [Sem.run_bind,qm ha];simp only [Sem.run_bind,Result.andThen,qm hb,Sem.run_pure]
   rw [Lib.cmp_eq];rfl)
 obtain ⟨pa,ca,e1,_⟩:=ha.form;obtain ⟨pb,cb,e2,_⟩:=hb.form;subst e1 e2;clear ha hb;go_enter Tryz.func53,Tryz.ntmps53
 go_wp2_with fail
 rw [HR.o];simp only [Result.andThen]
 rw [Oper.upon_value];go_wp2_with fail
 exact bodyPost_ret (v:=.int .i64 (Lib.compareBytes la lb)) (by simp [results,Tryz.results53,go_sem]) rfl ⟨rfl,rfl⟩
theorem tC:∃i,Tryz.prog.info? 5=some i∧i.zero=some (.int .u8 0)∧i.size=1∧i.bytes=1:=by
 have h:(Tryz.prog.info? 5).map (fun i=>(i.zero,i.size,i.bytes))=some (some (.int .u8 0),1,1):=by kernel_rfl
 obtain ⟨i,hi,he⟩:=Option.map_eq_some_iff.1 h;exact ⟨i,hi,congrArg (·.1) he,congrArg (·.2.1) he,congrArg (·.2.2) he⟩
theorem wn {w:World} {a:Addr} {u:Value} (o:Obj) (h:w.cell? a=some u):(w.alloc o).cell? a=some u:=by
 rw [World.cell?_alloc_old _ _ _ (fun e=>World.new_ne w _ h e.symm)];exact h
theorem bY {S:Nat→Prop} {v:Value} {l:List UInt8} (w:World) (h:TxtAt S w v l) (hl:l.length≤100000):Calls Tryz.prog 30 #[v] w fun e w'=>∃p c,e=.returned (.slice p l.length c)∧w'.ownsRow w.heap.size 5 1 (.slice p l.length c) l.length (byV l)∧Below w.heap.size w w':=by
 obtain ⟨p,c,rfl,D,hm,hn,h5⟩:=h.form;have q22:∀(w:World) (a:Option Addr) (n c n' c':Nat),(binOp .eql 30 (.slice a n c) (.slice none n' c')).run Tryz.prog w=.ok (.bool a.isNone) w:=fun w a n c n' c'=>Lib.run_eql_slice_nil w _ _ a n c n' c' Tryz.underlying30;have HA:=zh (h.adds.2)
 cases p with
 | none =>
  have h0:¬0<l.length:=fun h0=>by
   obtain ⟨_,_,e,_⟩:=h5 h0
   cases e
  obtain rfl:l=[]:=List.eq_nil_of_length_eq_zero (by omega);clear h h5 hn D hl h0 hm;go_enter Tryz.func30,Tryz.ntmps30
  go_wp2_with fail
  exact bodyPost_ret (v:=.slice none 0 0) (by simp [results,Tryz.results30,go_sem]) rfl ⟨none,0,rfl,gy,Below.refl _ _⟩
 | some a =>
  obtain ⟨i0,hi,G,F,E⟩:=tC;clear h h5 hn D hm;go_enter Tryz.func30,Tryz.ntmps30
  go_wp2_with (at_builtin;refine wpList_append_own _ rfl _ _ 30 rfl w.heap.size 5 i0 (.int .u8 0) 1 1 Tryz.underlying30 hi G F E rfl (by decide) _ _ _ rfl (World.ownsRow_made w #[] 0 (Nat.le_refl _) (Nat.zero_le _) rfl) a l.length c (byV l) rfl ?q1 ?q2 pj ?q4 ?q5 ?q6 ?_)
  case q1=>simp [lR]
  case q2=>exact fun j u hj=>wn _ (HA.o a rfl j u hj)
  case q4=>unfold maxLen;omega
  case q5=>omega
  case q6=>simp
  intro v' w1 B A C;obtain ⟨s0,cap,rfl,_⟩:=ba B;have HO:=zh B;have HG:=zh A;clear B A C;go_wp2_with fail
  refine bodyPost_ret (v:=.slice s0 (0+l.length) cap) (by simp [results,Tryz.results30,go_sem]) rfl ⟨s0,cap,by rw [Nat.zero_add],by simpa using HO.o,?_⟩;exact ((Below.refl _ w).alloc (Nat.le_refl _) _).grown HG.o (by rw [ah];omega) (by intro k hk;simp [Value.ownBlock] at hk;omega)
end
end Go.Proofs.YthgcpfkochikfaaGreat
