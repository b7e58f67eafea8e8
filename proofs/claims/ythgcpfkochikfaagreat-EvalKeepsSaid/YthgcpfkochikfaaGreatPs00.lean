/-
  EvalSigns: part 0 of its proof: see the last text.
-/
import Derived.WalkKit
import Derived.WalkSpells
import Derived.WalkLawsBesides
import Derived.BigQuiet
import Derived.Lib.Hide
import Derived.OpenShut
import Derived.Outline
import Derived.Deep.RegionWith
import Derived.Deep.DeepCutAuto
import Derived.Deep.RegionHeld3
import Derived.Deep.QuietTactic
import Derived.Deep.DrawnRows
import Derived.BigRegion
import Derived.Deep.AppendLies
set_option maxRecDepth 100000
set_option maxHeartbeats 16000000
namespace Go.Proofs.YthgcpfkochikfaaGreat
section
open Go.RowKit
structure Hd (p:Prop):Prop where
  o:p
theorem zh {p:Prop} (h:p):Hd p:=⟨h⟩
theorem am {a b c:World} (h:Below a.heap.size a b) (k:Below b.heap.size b c):Below a.heap.size a c:=h.trans (k.mono h.size)
theorem ag {a b:World} (h:Below a.heap.size a b) (o:Obj):Below a.heap.size a (b.alloc o):=h.alloc h.size o
theorem aw {a b:World} (h:Below a.heap.size a b):Below a.heap.size a b.drew:=h.drew
theorem dm {a b:World} (h:Below a.heap.size a b) (n:Nat):Below a.heap.size a (b.drewN n):=⟨h.os,h.tape,h.output,h.size,h.block⟩
theorem dp {a b:World} (h:Below a.heap.size a b) {p:Addr} (hp:a.heap.size≤p.block) (u:Value):Below a.heap.size a (b.setCell p u):=h.setCell hp u
theorem bh {a b:World} (h:Below a.heap.size a b) (k o:Nat) (hk:k<a.heap.size):b.cell? ⟨k,o,none⟩=a.cell? ⟨k,o,none⟩:=h.cell (p:=⟨k,o,none⟩) hk
theorem eQ {k:IntKind} {a b:Int} (h:a=b):Ending.returned (.int k a)=.returned (.int k b):=by rw [h]
theorem ew {a b:Bool} (h:a=b):Ending.returned (.bool a)=.returned (.bool b):=by rw [h]
theorem aS (w:World) {b c i j:Nat} (v:Value) (h:b≠c∨i≠j):(w.setCell ⟨b,i,none⟩ v).cell? ⟨c,j,none⟩=w.cell? ⟨c,j,none⟩:=
 World.cell?_setCell_other _ _ _ _ (fun e=>by injection e with e1 e2;rcases h with h | h<;>contradiction)
theorem dH {w:World} {b i:Nat} {u:Value} (v:Value) (h:w.cell? ⟨b,i,none⟩=some u):(w.setCell ⟨b,i,none⟩ v).cell? ⟨b,i,none⟩=some v:=
 World.cell?_setCell_same _ _ _ h
theorem az {w:World} {b o:Nat} {v:Value} (h:w.cell? ⟨b,o,none⟩=some v):b<w.heap.size:=by
 by_cases hb:b<w.heap.size
 ·exact hb
 ·have e:w.heap[b]?=none:=by simp;omega
  simp [World.cell?,e] at h
def IsRow (k:IntKind) (w:World) (a:Option Addr) (len cap:Nat) (zs:List Int):Prop:=
 (a=none∧len=0∧cap=0∧zs=[]) ∨
 ∃x,a=some x∧len≤cap∧cap≤maxLen∧zs.length=cap∧(∀i,i<zs.length→w.cell? (x.add i)=some (.int k (zs.getD i 0)))∧∀n∈zs,(Lit.int k n).wf=true
theorem IsRow.parts {k:IntKind} {w:World} {a:Option Addr} {len cap:Nat} {zs:List Int} (h:IsRow k w a len cap zs) :
    len=0∨∃b off,a=some ⟨b,off,none⟩∧b<w.heap.size∧len≤cap∧cap≤maxLen∧(∀i,i<len→w.cell? ⟨b,off+i,none⟩=some (.int k (zs.getD i 0)))∧∀i,i<len→(Lit.int k (zs.getD i 0)).wf=true:=by
 by_cases hl:len=0
 ·exact .inl hl
 rcases h with ⟨_,h,_⟩ | ⟨x,rfl,C,hc,hz,A,B⟩
 ·exact absurd h hl
 ·obtain ⟨b,off,rfl,hj⟩:=ints_at A (by omega)
  refine .inr ⟨b,off,rfl,az (hj 0 (by omega)),C,hc,fun i hi=>hj i (by omega),fun i hi=>?_⟩;rw [List.getD_eq_getElem?_getD,List.getElem?_eq_getElem (by omega)];exact B _ (List.getElem_mem _)
theorem IsRow.len {k:IntKind} {w:World} {a:Option Addr} {len cap:Nat} {zs:List Int} (h:IsRow k w a len cap zs):len≤maxLen:=by
 rcases h with ⟨_,rfl,_⟩ | ⟨x,_,h1,h2,_⟩
 ·exact Nat.zero_le _
 ·omega
def bf (n:Int):Prop:=-9223372036854775808≤n∧n≤9223372036854775807
end
section
open Go.RowKit
theorem af {w:World} {b:Nat} {o:Obj} (h:w.heap[b]?=some o):b<w.heap.size:=(Array.getElem?_eq_some_iff.1 h).1
theorem ah (W:World) (o:Obj):(W.alloc o).heap.size=W.heap.size+1:=by
 show (W.heap.push o).size=_
 simp
theorem aj (W:World) (o:Obj) (h:Nat) (hh:W.heap.size=h):(W.alloc o).heap[h]?=some o:=by
 subst hh;show (W.heap.push _)[W.heap.size]?=_
 simp
theorem ax (W:World) (o o':Obj) (h:Nat) (hh:W.heap[h]?=some o):(W.alloc o').heap[h]?=some o:=by
 rw [Below.heap_alloc _ _ _ (af hh)];exact hh
theorem aA (W:World) (A:Array Value) (t:TypeId) (n i:Nat) (u:Value) (hn:W.heap.size=n) (hu:A[i]?=some u):(W.alloc (.cells A t)).cell? ⟨n,i,none⟩=some u:=by
 have h:=aj W (.cells A t) n hn;unfold World.cell?;simp only [h]
 exact hu
theorem aq {w:World} {c o:Nat} {u:Value} (b:Obj) (h:w.cell? ⟨c,o,none⟩=some u):(w.alloc b).cell? ⟨c,o,none⟩=some u:=by
 rw [World.cell?_alloc_old _ _ _ (fun e=>World.new_ne w _ h e.symm)];exact h
theorem ae {w:World} {k:Nat} {A:Array Value} {t:TypeId} (h:w.heap[k]?=some (.cells A t (0,0))) (j:Nat):w.frozen? ⟨k,j,none⟩=false:=by simp [World.frozen?,h]
theorem aa {w:World} {k:Nat} {A:Array Value} {t:TypeId} {fz:Nat×Nat} (h:w.heap[k]?=some (.cells A t fz)) {j:Nat} {u:Value} (hu:A[j]?=some u):w.cell? ⟨k,j,none⟩=some u:=by
 unfold World.cell?;simp only [h]
 exact hu
def Cs (w:World) (b:Nat):List Value→Prop
 | [x0]=>w.cell? ⟨b,0,none⟩=some x0∧True
 | [x0,x1]=>w.cell? ⟨b,0,none⟩=some x0∧w.cell? ⟨b,1,none⟩=some x1∧True
 | [x0,x1,x2]=>w.cell? ⟨b,0,none⟩=some x0∧w.cell? ⟨b,1,none⟩=some x1∧w.cell? ⟨b,2,none⟩=some x2∧True
 | [x0,x1,x2,x3]=>w.cell? ⟨b,0,none⟩=some x0∧w.cell? ⟨b,1,none⟩=some x1∧w.cell? ⟨b,2,none⟩=some x2∧w.cell? ⟨b,3,none⟩=some x3∧True
 | [x0,x1,x2,x3,x4]=>w.cell? ⟨b,0,none⟩=some x0∧w.cell? ⟨b,1,none⟩=some x1∧w.cell? ⟨b,2,none⟩=some x2∧w.cell? ⟨b,3,none⟩=some x3∧w.cell? ⟨b,4,none⟩=some x4∧True
 | [x0,x1,x2,x3,x4,x5]=>w.cell? ⟨b,0,none⟩=some x0∧w.cell? ⟨b,1,none⟩=some x1∧w.cell? ⟨b,2,none⟩=some x2∧w.cell? ⟨b,3,none⟩=some x3∧w.cell? ⟨b,4,none⟩=some x4∧w.cell? ⟨b,5,none⟩=some x5∧True
 | [x0,x1,x2,x3,x4,x5,x6]=>w.cell? ⟨b,0,none⟩=some x0∧w.cell? ⟨b,1,none⟩=some x1∧w.cell? ⟨b,2,none⟩=some x2∧w.cell? ⟨b,3,none⟩=some x3∧w.cell? ⟨b,4,none⟩=some x4∧w.cell? ⟨b,5,none⟩=some x5∧w.cell? ⟨b,6,none⟩=some x6∧True
 | [x0,x1,x2,x3,x4,x5,x6,x7]=>w.cell? ⟨b,0,none⟩=some x0∧w.cell? ⟨b,1,none⟩=some x1∧w.cell? ⟨b,2,none⟩=some x2∧w.cell? ⟨b,3,none⟩=some x3∧w.cell? ⟨b,4,none⟩=some x4∧w.cell? ⟨b,5,none⟩=some x5∧w.cell? ⟨b,6,none⟩=some x6∧w.cell? ⟨b,7,none⟩=some x7∧True
 | [x0,x1,x2,x3,x4,x5,x6,x7,x8]=>w.cell? ⟨b,0,none⟩=some x0∧w.cell? ⟨b,1,none⟩=some x1∧w.cell? ⟨b,2,none⟩=some x2∧w.cell? ⟨b,3,none⟩=some x3∧w.cell? ⟨b,4,none⟩=some x4∧w.cell? ⟨b,5,none⟩=some x5∧w.cell? ⟨b,6,none⟩=some x6∧w.cell? ⟨b,7,none⟩=some x7∧w.cell? ⟨b,8,none⟩=some x8∧True
 | [x0,x1,x2,x3,x4,x5,x6,x7,x8,x9]=>w.cell? ⟨b,0,none⟩=some x0∧w.cell? ⟨b,1,none⟩=some x1∧w.cell? ⟨b,2,none⟩=some x2∧w.cell? ⟨b,3,none⟩=some x3∧w.cell? ⟨b,4,none⟩=some x4∧w.cell? ⟨b,5,none⟩=some x5∧w.cell? ⟨b,6,none⟩=some x6∧w.cell? ⟨b,7,none⟩=some x7∧w.cell? ⟨b,8,none⟩=some x8∧w.cell? ⟨b,9,none⟩=some x9∧True
 | [x0,x1,x2,x3,x4,x5,x6,x7,x8,x9,x10]=>w.cell? ⟨b,0,none⟩=some x0∧w.cell? ⟨b,1,none⟩=some x1∧w.cell? ⟨b,2,none⟩=some x2∧w.cell? ⟨b,3,none⟩=some x3∧w.cell? ⟨b,4,none⟩=some x4∧w.cell? ⟨b,5,none⟩=some x5∧w.cell? ⟨b,6,none⟩=some x6∧w.cell? ⟨b,7,none⟩=some x7∧w.cell? ⟨b,8,none⟩=some x8∧w.cell? ⟨b,9,none⟩=some x9∧w.cell? ⟨b,10,none⟩=some x10∧True
 | [x0,x1,x2,x3,x4,x5,x6,x7,x8,x9,x10,x11]=>w.cell? ⟨b,0,none⟩=some x0∧w.cell? ⟨b,1,none⟩=some x1∧w.cell? ⟨b,2,none⟩=some x2∧w.cell? ⟨b,3,none⟩=some x3∧w.cell? ⟨b,4,none⟩=some x4∧w.cell? ⟨b,5,none⟩=some x5∧w.cell? ⟨b,6,none⟩=some x6∧w.cell? ⟨b,7,none⟩=some x7∧w.cell? ⟨b,8,none⟩=some x8∧w.cell? ⟨b,9,none⟩=some x9∧w.cell? ⟨b,10,none⟩=some x10∧w.cell? ⟨b,11,none⟩=some x11∧True
 | _=>True
theorem css {w:World} {b:Nat} {A:Array Value} {t:TypeId} {fz:Nat×Nat} (h:w.heap[b]?=some (.cells A t fz)):Cs w b A.toList:=by
 obtain ⟨l⟩:=A;match l,h with
 | [_],h=>exact ⟨aa h rfl,trivial⟩
 | [_,_],h=>exact ⟨aa h rfl,aa h rfl,trivial⟩
 | [_,_,_],h=>exact ⟨aa h rfl,aa h rfl,aa h rfl,trivial⟩
 | [_,_,_,_],h=>exact ⟨aa h rfl,aa h rfl,aa h rfl,aa h rfl,trivial⟩
 | [_,_,_,_,_],h=>exact ⟨aa h rfl,aa h rfl,aa h rfl,aa h rfl,aa h rfl,trivial⟩
 | [_,_,_,_,_,_],h=>exact ⟨aa h rfl,aa h rfl,aa h rfl,aa h rfl,aa h rfl,aa h rfl,trivial⟩
 | [_,_,_,_,_,_,_],h=>exact ⟨aa h rfl,aa h rfl,aa h rfl,aa h rfl,aa h rfl,aa h rfl,aa h rfl,trivial⟩
 | [_,_,_,_,_,_,_,_],h=>exact ⟨aa h rfl,aa h rfl,aa h rfl,aa h rfl,aa h rfl,aa h rfl,aa h rfl,aa h rfl,trivial⟩
 | [_,_,_,_,_,_,_,_,_],h=>exact ⟨aa h rfl,aa h rfl,aa h rfl,aa h rfl,aa h rfl,aa h rfl,aa h rfl,aa h rfl,aa h rfl,trivial⟩
 | [_,_,_,_,_,_,_,_,_,_],h=>exact ⟨aa h rfl,aa h rfl,aa h rfl,aa h rfl,aa h rfl,aa h rfl,aa h rfl,aa h rfl,aa h rfl,aa h rfl,trivial⟩
 | [_,_,_,_,_,_,_,_,_,_,_],h=>exact ⟨aa h rfl,aa h rfl,aa h rfl,aa h rfl,aa h rfl,aa h rfl,aa h rfl,aa h rfl,aa h rfl,aa h rfl,aa h rfl,trivial⟩
 | [_,_,_,_,_,_,_,_,_,_,_,_],h=>exact ⟨aa h rfl,aa h rfl,aa h rfl,aa h rfl,aa h rfl,aa h rfl,aa h rfl,aa h rfl,aa h rfl,aa h rfl,aa h rfl,aa h rfl,trivial⟩
 | [],_=>exact trivial
 | _ :: _ :: _ :: _ :: _ :: _ :: _ :: _ :: _ :: _ :: _ :: _ :: _ :: _,_=>exact trivial
theorem fzs {w:World} {b:Nat} {A:Array Value} {t:TypeId} (h:w.heap[b]?=some (.cells A t (0,0))):w.frozen? ⟨b,0,none⟩=false∧w.frozen? ⟨b,1,none⟩=false∧w.frozen? ⟨b,2,none⟩=false∧w.frozen? ⟨b,3,none⟩=false∧w.frozen? ⟨b,4,none⟩=false∧w.frozen? ⟨b,5,none⟩=false∧w.frozen? ⟨b,6,none⟩=false∧w.frozen? ⟨b,7,none⟩=false∧w.frozen? ⟨b,8,none⟩=false∧w.frozen? ⟨b,9,none⟩=false∧w.frozen? ⟨b,10,none⟩=false∧w.frozen? ⟨b,11,none⟩=false∧True:=⟨ae h 0,ae h 1,ae h 2,ae h 3,ae h 4,ae h 5,ae h 6,ae h 7,ae h 8,ae h 9,ae h 10,ae h 11,trivial⟩
theorem ak (w:World) (p:Addr) (u:Value) (b:Nat) (h:b≠p.block):(w.setCell p u).heap[b]?=w.heap[b]?:=Below.heap_setCell w p u b h
theorem aC (w:World) (p:Addr) (u:Value):(w.setCell p u).heap.size=w.heap.size:=by simp [World.setCell]
theorem qM {W:World} {b j:Nat} {t:TypeId} {v:Value} (h:∃arr,W.heap[b]?=some (.cells arr t (0,0))):∃arr,(W.setCell ⟨b,j,none⟩ v).heap[b]?=some (.cells arr t (0,0)):=by
 obtain ⟨a,h⟩:=h;refine ⟨a.setIfInBounds j v,?_⟩;show (W.heap.modify b _)[b]?=_
 rw [Array.getElem?_modify,if_pos rfl,h];rfl
def On (k:Nat) (w w':World):Prop:=w.grownBy w' (some k)
theorem On.refl (k:Nat) (w:World):On k w w:=⟨rfl,rfl,rfl,Nat.le_refl _,fun _ _ _=>rfl⟩
theorem On.trans {k:Nat} {a b c:World} (h:On k a b) (g:On k b c):On k a c:=
 ⟨g.os.trans h.os,g.tape.trans h.tape,g.output.trans h.output,Nat.le_trans h.size g.size,fun i hi A=>(g.block i (Nat.lt_of_lt_of_le hi h.size) A).trans (h.block i hi A)⟩
theorem On.of_below {k:Nat} {a b:World} (h:Below a.heap.size a b):On k a b:=⟨h.os,h.tape,h.output,h.size,fun i hi _=>h.block i hi⟩
theorem On.drewN {k:Nat} {a b:World} (h:On k a b) (n:Nat):On k a (b.drewN n):=⟨h.os,h.tape,h.output,h.size,h.block⟩
theorem On.drew {k:Nat} {a b:World} (h:On k a b):On k a b.drew:=⟨h.os,h.tape,h.output,h.size,h.block⟩
theorem On.set {k:Nat} {a b:World} (h:On k a b) (j:Nat) (u:Value):On k a (b.setCell ⟨k,j,none⟩ u):=
 ⟨h.os,h.tape,h.output,by simpa [World.setCell] using h.size,fun i hi A=>(Below.heap_setCell b ⟨k,j,none⟩ u i (fun e=>A (by rw [e]))).trans (h.block i hi A)⟩
theorem On.alloc {k:Nat} {a b:World} (h:On k a b) (o:Obj):On k a (b.alloc o):=h.trans (On.of_below (ag (Below.refl _ _) o))
theorem On.cell {k:Nat} {a b:World} (h:On k a b) {c o:Nat} {u:Value} (A:c≠k) (hc:a.cell? ⟨c,o,none⟩=some u):b.cell? ⟨c,o,none⟩=some u:=
 (World.cell?_of_block (w:=a) (h.block c (az hc) (fun e=>A (by injection e)))).trans hc
theorem On.obj {k k':Nat} {w w':World} {o:Obj} (h:On k w w') (A:k'≠k) (ho:w.heap[k']?=some o):w'.heap[k']?=some o:=
 (h.block k' (af ho) (fun e=>A (by injection e))).trans ho
theorem On.base {k:Nat} {B w w':World} (h:On k w w') (hB:Below B.heap.size B w) (hk:B.heap.size≤k):Below B.heap.size B w':=
 ⟨h.os.trans hB.os,h.tape.trans hB.tape,h.output.trans hB.output,Nat.le_trans hB.size h.size,fun i hi=>(h.block i (Nat.lt_of_lt_of_le hi hB.size) (fun e=>by injection e with e;omega)).trans (hB.block i hi)⟩
theorem gy {W:World} {e s base:Nat}:W.ownsRow base e s (.slice none 0 0) 0 []:=⟨by simp,.inl ⟨rfl,rfl⟩⟩
theorem ba {W:World} {base e s:Nat} {v:Value} {n:Nat} {xs:List Value} (h:W.ownsRow base e s v n xs):∃s0 cap,v=.slice s0 n cap∧n≤cap∧cap≤maxLen∧(s0=none→cap=0)∧(0<n→∃g,s0=some ⟨g,0,none⟩∧base≤g∧g<W.heap.size∧∀j u,xs[j]?=some u→W.cell? ⟨g,j,none⟩=some u):=by
 rcases h.2 with ⟨q,q2⟩ | ⟨g,cap,cur,rfl,hg,hh,A,hm,_⟩
 ·subst q2
  exact ⟨none,0,q,Nat.le_refl _,Nat.zero_le _,fun _=>rfl,fun h0=>absurd h0 (by omega)⟩
 ·refine ⟨_,cap,rfl,A,hm,fun e=>(by cases e),fun _=>⟨g,rfl,hg,af hh,fun j u hj=>?_⟩⟩
  have:=World.ownsRow.cells h (g:=g) rfl j u hj;rwa [Go.WideShapes.add_plain,Nat.zero_add] at this
end
section
section
open Go.RowKit
structure Tk where
 kind:Int
 text:ByteArray
 num:Int
 pos:Int
instance:Inhabited Tk:=⟨⟨0,ByteArray.empty,0,0⟩⟩
def bg (p:UInt8→Bool) (s:List UInt8) (a:Nat):Nat:=a+((s.drop a).takeWhile p).length
theorem jj {s:List UInt8} {a:Nat} (h:a<s.length):s.drop a=s[a] :: s.drop (a+1):=List.drop_eq_getElem_cons h
theorem eW {p:UInt8→Bool} {s:List UInt8} {a:Nat} (h:a<s.length) (hp:p s[a]=true):bg p s a=bg p s (a+1):=by
 unfold bg;rw [jj h,List.takeWhile_cons,if_pos hp,List.length_cons];omega
theorem mz {p:UInt8→Bool} {s:List UInt8} {a:Nat} (h:a<s.length) (hp:p s[a]=false):bg p s a=a:=by
 unfold bg;rw [jj h,List.takeWhile_cons,if_neg (by rw [hp];decide)];rfl
theorem vA {p:UInt8→Bool} {s:List UInt8} {a:Nat} (h:s.length≤a):bg p s a=a:=by
 unfold bg;rw [List.drop_eq_nil_of_le h];rfl
theorem eR (p:UInt8→Bool) (s:List UInt8) (a:Nat):a≤bg p s a:=by unfold bg;omega
theorem fj {p:UInt8→Bool} {s:List UInt8} {a:Nat} (h:a≤s.length):bg p s a≤s.length:=by
 unfold bg;have:=(List.takeWhile_sublist p (l:=s.drop a)).length_le;rw [List.length_drop] at this;omega
theorem mH {p:UInt8→Bool} {s:List UInt8} {a:Nat} (h:bg p s a<s.length):p (s[bg p s a])=false:=by
 by_cases ha:a<s.length
 ·by_cases hp:p s[a]=true
  ·have e:=eW ha hp
   have h2:bg p s (a+1)<s.length:=e▸h;have:=mH h2;simp only [e]
   exact this
  ·have hp:p s[a]=false:=by simpa using hp
   have e:=mz ha hp;simp only [e]
   exact hp
 ·have:=eR p s a
  omega
termination_by s.length-a
theorem oR {p:UInt8→Bool} {s:List UInt8} {a i:Nat} (h1:a≤i) (h2:i<bg p s a) (hi:i<s.length):p s[i]=true:=by
 have ha:a<s.length:=by omega
 by_cases hp:p s[a]=true
 ·by_cases e:i=a
  ·subst e;exact hp
  ·rw [eW ha hp] at h2
   exact oR (by omega) h2 hi
 ·have hp:p s[a]=false:=by simpa using hp
  rw [mz ha hp] at h2;omega
termination_by s.length-a
def d9 (c:UInt8):Bool:=c==9 || c==10 || c==13 || c==32
def dY (c:UInt8):Bool:=c !=10
def ei:Bool→List UInt8→Nat
 | _,[]=>0
 | false,c :: r=>if d9 c then 1+ei false r else if c==35 then 1+ei true r else 0
 | true,c :: r=>if dY c then 1+ei true r else 1+ei false r
def bD (s:List UInt8) (a:Nat):Nat:=a+ei false (s.drop a)
theorem jf:∀(b:Bool) (l:List UInt8),ei b l≤l.length
 | _,[]=>Nat.le_refl _
 | false,c :: r=>by
  have h1:=jf false r;have h2:=jf true r;unfold ei;simp only [List.length_cons]
  split
  ·omega
  ·split<;>omega
 | true,c :: r=>by
  have h1:=jf false r;have h2:=jf true r;unfold ei;simp only [List.length_cons]
  split<;>omega
theorem tE (s:List UInt8) (a:Nat):a≤bD s a:=by unfold bD;omega
theorem mr {s:List UInt8} {a:Nat} (h:a≤s.length):bD s a≤s.length:=by
 unfold bD;have:=jf false (s.drop a);rw [List.length_drop] at this;omega
theorem lH:∀(l:List UInt8),ei false l=(l.takeWhile d9).length+ei false (l.drop (l.takeWhile d9).length)
 | []=>rfl
 | c :: r=>by
  by_cases h:d9 c=true
  ·rw [List.takeWhile_cons,if_pos h,List.length_cons,List.drop_succ_cons]
   have:=lH r;show ei false (c :: r)=_
   rw [ei,if_pos h];omega
  ·rw [List.takeWhile_cons,if_neg h]
   simp
theorem oy:∀(l:List UInt8),ei true l=(l.takeWhile dY).length+ei false (l.drop (l.takeWhile dY).length)
 | []=>rfl
 | c :: r=>by
  by_cases h:dY c=true
  ·rw [List.takeWhile_cons,if_pos h,List.length_cons,List.drop_succ_cons]
   have:=oy r;show ei true (c :: r)=_
   rw [ei,if_pos h];omega
  ·rw [List.takeWhile_cons,if_neg h]
   have hc:c=10:=by simpa [dY] using h
   subst hc;simp [ei,dY,d9]
theorem qK (s:List UInt8) (a k:Nat):(s.drop a).drop k=s.drop (a+k):=List.drop_drop ..
theorem pP (s:List UInt8) (a:Nat):bD s a=bD s (bg d9 s a):=by
 unfold bD bg;rw [lH (s.drop a),qK];omega
theorem qA {s:List UInt8} {a:Nat} (h:s.length≤a):bD s a=a:=by
 unfold bD;rw [List.drop_eq_nil_of_le h];rfl
theorem te {s:List UInt8} {a:Nat} (h:a<s.length) (h1:d9 s[a]=false) (h2:(s[a]==35)=false):bD s a=a:=by
 unfold bD;rw [jj h,ei,if_neg (by rw [h1];decide),if_neg (by rw [h2];decide)];rfl
theorem ph {s:List UInt8} {a:Nat} (h:a<s.length) (h2:(s[a]==35)=true):bD s a=bD s (bg dY s a):=by
 unfold bD bg;have hc:s[a]=35:=by simpa using h2
 have e:ei false (s.drop a)=ei true (s.drop a):=by
  rw [jj h,hc];simp [ei,d9,dY]
 rw [e,oy (s.drop a),qK];omega
theorem vH {s:List UInt8} {a:Nat} (h:a<s.length) (h2:(s[a]==35)=true):a<bg dY s a:=by
 have hc:s[a]=35:=by simpa using h2
 rw [eW h (by rw [hc];rfl)];have:=eR dY s (a+1);omega
def ir:List UInt8→Nat→Option Nat
 | [],n=>some n
 | c :: r,n=>if (9223372036854775807-(c.toNat-48)) / 10<n then none else ir r (10*n+(c.toNat-48))
def signTab:List (List UInt8):=[[61,61],[33,61],[60,61],[62,61],[38,38],[124,124],[40],[41],[123],[125],[44],[59],[58],[61],[60],[62],[43],[45],[42],[47],[37],[33]]
def iE (l:List UInt8):Bool:=signTab.contains l
def bP:List UInt8→List UInt8
 | []=>[]
 | [a]=>if iE [a] then [a] else []
 | a :: b :: _=>if iE [a,b] then [a,b] else if iE [a] then [a] else []
def wordTab:List (List UInt8):=[[102,110],[108,101,116],[105,102],[101,108,115,101],[102,111,114],[116,111],[114,101,116,117,114,110],[112,117,116],[100,101,108],[103,101,116],[104,97,115],[108,101,110],[116,114,117,101],[102,97,108,115,101],[105,110,116],[98,111,111,108],[98,121,116,101,115]]
def gQ (l:List UInt8):Bool:=wordTab.contains l
def gh (c:UInt8):Bool:=decide (97≤c.toNat)&&decide (c.toNat≤122)
def cP (c:UInt8):Bool:=decide (48≤c.toNat)&&decide (c.toNat≤57)
def mP (c:UInt8):Bool:=decide (95≤c.toNat)&&decide (c.toNat≤95)
def cQ (c:UInt8):Bool:=gh c || cP c || mP c
def dI (c:UInt8):Bool:=decide (32≤c.toNat)&&decide (c.toNat≤126)&&c !=34&&c !=92
def cR (s:List UInt8) (a b:Nat):List UInt8:=(s.drop a).take (b-a)
def fS (k:Int) (l:List UInt8) (n:Nat) (a:Nat):Tk:=⟨k,⟨l.toArray⟩,n,a⟩
def cW (s:List UInt8) (a:Nat):Except Int (Tk×Nat):=
 let c:=s.getD a 0
 if gh c then
  let q:=bg cQ s a
  let l:=cR s a q
  if gQ l then .ok (fS 4 l 0 a,q) else if 16<l.length then .error 32 else .ok (fS 1 l 0 a,q)
 else if cP c then
  let q:=bg cP s a
  match ir (cR s a q) 0 with
  | none=>.error 32
  | some n=>.ok (fS 2 [] n a,q)
 else if c==34 then
  let q:=bg dI s (a+1)
  if q==s.length || s.getD q 0 !=34 then .error 31
  else if 64<q-a-1 then .error 32
  else .ok (fS 3 (cR s (a+1) q) 0 a,q+1)
 else
  let l:=bP (cR s a (min (a+2) s.length))
  if l=[] then .error 31 else .ok (fS 4 l 0 a,a+l.length)
def kY (s:List UInt8):Nat→Nat→List Tk→Except (Int×Nat) (List Tk)
 | 0,_,out=>.ok out
 | f+1,a,out =>
  if a<s.length then
   match cW s a with
   | .error e=>.error (e,a)
   | .ok (t,q)=>if out.length=2048 then .error (2,a) else kY s f (bD s q) (out++[t])
  else .ok out
def iP (s:List UInt8):Except (Int×Nat) (List Tk):=if 4096<s.length then .error (2,0) else kY s (s.length+1) (bD s 0) []
end
section
open Go.RowKit
inductive Ex
 | mk (op num:Int) (text:ByteArray) (kids:List Ex) (pos:Int)
inductive St
 | mk (op:Int) (text:ByteArray) (exprs:List Ex) (body els:List St) (pos:Int)
structure Fn where
 name:ByteArray
 params:List (ByteArray×Int)
 result:Int
 body:List St
 pos:Int
instance:Inhabited Ex:=⟨.mk 0 0 ByteArray.empty [] 0⟩
instance:Inhabited St:=⟨.mk 0 ByteArray.empty [] [] [] 0⟩
instance:Inhabited Fn:=⟨⟨ByteArray.empty,[],0,[],0⟩⟩
abbrev Par (α:Type):=List Tk→Except (Int×Int) (α×List Tk)
def Par.bind {α β:Type} (p:Par α) (f:α→Par β):Par β:=fun l=>match p l with
 | .error e=>.error e
 | .ok (x,r)=>f x r
def okP {α:Type} (x:α):Par α:=fun l=>.ok (x,l)
def aQ (en:Int):List Tk→Int
 | []=>en
 | t :: _=>t.pos
def Dy {α:Type} (en er:Int):Par α:=fun l=>.error (er,aQ en l)
def str (l:List UInt8):ByteArray:=⟨l.toArray⟩
def atS (l:List Tk) (i:Nat) (s:ByteArray):Bool:=match l[i]? with
 | some t=>t.kind==4&&t.text.toList==s.toList
 | none=>false
def bq (en:Int) (s:ByteArray):Par Unit:=fun l=>if atS l 0 s then .ok ((),l.tail) else .error (41,aQ en l)
def eD (en k:Int):Par Tk:=fun l=>match l with
 | []=>.error (41,en)
 | t :: r=>if t.kind==k then .ok (t,r) else .error (41,t.pos)
def ff (en:Int):Par ByteArray:=(eD en 1).bind fun t=>okP t.text
def qH:=str [105,110,116]
def nL:=str [98,111,111,108]
def gZ:=str [98,121,116,101,115]
def lr (en:Int):Par Int:=fun l =>
 if atS l 0 qH then .ok (1,l.tail)
 else if atS l 0 nL then .ok (2,l.tail)
 else (bq en gZ).bind (fun _=>okP 3) l
def cU:=str [40]
def cX:=str [41]
def gI:=str [44]
def bO:Nat→List ByteArray
 | 0=>[str [124,124]]
 | 1=>[str [38,38]]
 | 2=>[str [61,61],str [33,61],str [60],str [60,61],str [62],str [62,61]]
 | 3=>[str [43],str [45]]
 | _=>[str [42],str [47],str [37]]
def eL {α:Type} (en:Int) (one:Par α):Nat→Bool→List α→Par (List α)
 | 0,_,_=>fun l=>.error (41,aQ en l)
 | f+1,first,acc=>fun l =>
  if atS l 0 cX then .ok (acc,l.tail)
  else ((if first then okP () else bq en gI).bind fun _=>one.bind fun x=>eL en one f false (acc++[x])) l
def ej (en:Int) (n:Nat) (A:Par Ex):Nat→Ex→Par Ex
 | 0,x=>okP x
 | f+1,x=>fun l=>match (bO n).find? (fun s=>atS l 0 s) with
  | none=>.ok (x,l)
  | some s=>(A.bind fun y=>if n=2 then okP (.mk 6 0 s [x,y] (aQ en l)) else ej en n A f (.mk 6 0 s [x,y] (aQ en l))) l.tail
def dl (en:Int) (one:Par Ex):Nat→Par Ex
 | 0=>one
 | j+1=>fun l=>(dl en one j).bind (fun x r=>ej en (4-j) (dl en one j) (r.length+1) x r) l
def dR (en:Int) (A:Par Ex):Par Ex:=(bq en cU).bind fun _=>A.bind fun x=>(bq en cX).bind fun _=>okP x
def BJ:=str [116,114,117,101]
def xm:=str [102,97,108,115,101]
def Dt:=str [103,101,116]
def DE:=str [104,97,115]
def Ak:=str [108,101,110]
def fT:=str [45]
def nh:=str [33]
def iC (en:Int) (A:Par Ex):Par Ex:=fun l =>
 if atS l 0 BJ then .ok (.mk 2 1 ByteArray.empty [] (aQ en l),l.tail)
 else if atS l 0 xm then .ok (.mk 2 0 ByteArray.empty [] (aQ en l),l.tail)
 else if atS l 0 cU then dR en A l
 else if atS l 0 Dt then (dR en A).bind (fun x=>okP (.mk 8 0 ByteArray.empty [x] (aQ en l))) l.tail
 else if atS l 0 DE then (dR en A).bind (fun x=>okP (.mk 9 0 ByteArray.empty [x] (aQ en l))) l.tail
 else (bq en Ak).bind (fun _=>(dR en A).bind (fun x=>okP (.mk 10 0 ByteArray.empty [x] (aQ en l)))) l
def dQ (en:Int) (A:Par Ex):Par Ex:=fun l=>match l with
 | []=>iC en A []
 | t :: r =>
  if t.kind=2 then .ok (.mk 1 t.num ByteArray.empty [] t.pos,r)
  else if t.kind=3 then .ok (.mk 3 0 t.text [] t.pos,r)
  else if t.kind=1 then
   if atS r 0 cU then ((eL en A (r.length+1) true []).bind fun k=>okP (.mk 5 0 t.text k t.pos)) r.tail
   else .ok (.mk 4 0 t.text [] t.pos,r)
  else iC en A (t :: r)
def fX (en:Int):Nat→Par Ex
 | 0=>Dy en 42
 | k+1=>fun l =>
  if atS l 0 fT then (fX en k).bind (fun x=>okP (.mk 7 0 fT [x] (aQ en l))) l.tail
  else if atS l 0 nh then (fX en k).bind (fun x=>okP (.mk 7 0 nh [x] (aQ en l))) l.tail
  else dQ en (dl en (fX en k) 5) l
def jg (en:Int) (k:Nat):Par Ex:=dl en (fX en k) 5
def DF:=str [108,101,116]
def sIf:=str [105,102]
def BI:=str [101,108,115,101]
def Dk:=str [102,111,114]
def sTo:=str [116,111]
def ur:=str [114,101,116,117,114,110]
def Du:=str [112,117,116]
def Dl:=str [100,101,108]
def sEq:=str [61]
def fm:=str [59]
def jV:=str [58]
def dN:=str [123]
def CU:=str [125]
def sFn:=str [102,110]
def iK (en:Int) (s:St):Par St:=(bq en fm).bind fun _=>okP s
def jn (en:Int) (A:Par Ex) (B:Par (List St)):Par St:=fun l =>
 let p:=aQ en l
 if atS l 0 DF then ((ff en).bind fun n=>(bq en sEq).bind fun _=>A.bind fun x=>iK en (.mk 1 n [x] [] [] p)) l.tail
 else if atS l 0 sIf then (A.bind fun x=>B.bind fun b=>fun r =>
   if atS r 0 BI then (B.bind fun e=>okP (.mk 3 ByteArray.empty [x] b e p)) r.tail else .ok (.mk 3 ByteArray.empty [x] b [] p,r)) l.tail
 else if atS l 0 Dk then ((ff en).bind fun n=>(bq en sEq).bind fun _=>A.bind fun x=>(bq en sTo).bind fun _=>A.bind fun y=>B.bind fun b=>okP (.mk 4 n [x,y] b [] p)) l.tail
 else if atS l 0 ur then (if atS l.tail 0 fm then iK en (.mk 5 ByteArray.empty [] [] [] p) l.tail else (A.bind fun x=>iK en (.mk 5 ByteArray.empty [x] [] [] p)) l.tail)
 else if atS l 0 Du then ((bq en cU).bind fun _=>A.bind fun x=>(bq en gI).bind fun _=>A.bind fun y=>(bq en cX).bind fun _=>iK en (.mk 6 ByteArray.empty [x,y] [] [] p)) l.tail
 else if atS l 0 Dl then ((bq en cU).bind fun _=>A.bind fun x=>(bq en cX).bind fun _=>iK en (.mk 7 ByteArray.empty [x] [] [] p)) l.tail
 else if (match l with | t :: _=>t.kind==1 | []=>false)&&atS l 1 sEq then ((ff en).bind fun n=>(bq en sEq).bind fun _=>A.bind fun x=>iK en (.mk 2 n [x] [] [] p)) l
 else (A.bind fun x=>iK en (.mk 8 ByteArray.empty [x] [] [] p)) l
def ft (en:Int) (one:Par St):Nat→List St→Par (List St)
 | 0,_=>fun l=>.error (41,aQ en l)
 | f+1,acc=>fun l=>if atS l 0 CU then .ok (acc,l.tail) else (one.bind fun s=>ft en one f (acc++[s])) l
def dL (en:Int):Nat→Par (List St)
 | 0=>fun l=>if atS l 0 dN then .error (42,aQ en l) else .error (41,aQ en l)
 | k+1=>fun l=>(bq en dN).bind (fun _ r=>ft en (jn en (jg en k) (dL en k)) (r.length+1) [] r) l
def lm (en:Int):Par (ByteArray×Int):=(ff en).bind fun n=>(bq en jV).bind fun _=>(lr en).bind fun t=>okP (n,t)
def gw (en:Int):Par Fn:=fun l =>
 ((bq en sFn).bind fun _=>(ff en).bind fun n=>(bq en cU).bind fun _=>fun r=>(eL en (lm en) (r.length+1) true []).bind (fun ps=>fun r =>
   (if atS r 0 jV then (lr en).bind (fun t=>(dL en 32).bind fun b=>okP (⟨n,ps,t,b,aQ en l⟩:Fn)) r.tail
    else (dL en 32).bind (fun b=>okP (⟨n,ps,0,b,aQ en l⟩:Fn)) r)) r) l
def gi (en:Int):Nat→List Fn→Par (List Fn)
 | 0,acc=>okP acc
 | f+1,acc=>fun l=>match l with
  | []=>.ok (acc,[])
  | _=>((gw en).bind fun x=>gi en f (acc++[x])) l
def dX (s:List UInt8):Except (Int×Int) (List Fn):=match iP s with
 | .error (e,p)=>.error (e,p)
 | .ok l=>match gi s.length (l.length+1) [] l with
  | .error e=>.error e
  | .ok (x,_)=>.ok x
end
section
open Go.RowKit
abbrev Flt:=Int×Int
def okF:Flt:=(0,0)
def noC (b:Bool) (e A:Int):Flt:=if b then okF else (e,A)
def orF (a b:Flt):Flt:=if a.1≠0 then a else b
abbrev bw:=List (ByteArray×(Int×Bool))
def aL {α:Type} (m:List (ByteArray×α)) (k:ByteArray):Option α:=match m with
 | []=>none
 | p :: m=>if p.1=k then some p.2 else aL m k
def bZ {α:Type} (m:List (ByteArray×α)) (k:ByteArray) (x:α):List (ByteArray×α):=match m with
 | []=>[(k,x)]
 | p :: m=>if p.1=k then (p.1,x) :: m else p :: bZ m k x
def Ex.op:Ex→Int | .mk op _ _ _ _=>op
def Ex.text:Ex→ByteArray | .mk _ _ t _ _=>t
def Ex.kids:Ex→List Ex | .mk _ _ _ k _=>k
def Ex.pos:Ex→Int | .mk _ _ _ _ p=>p
def St.op:St→Int | .mk op _ _ _ _ _=>op
def St.text:St→ByteArray | .mk _ t _ _ _ _=>t
def St.exprs:St→List Ex | .mk _ _ e _ _ _=>e
def St.body:St→List St | .mk _ _ _ b _ _=>b
def St.els:St→List St | .mk _ _ _ _ e _=>e
def St.pos:St→Int | .mk _ _ _ _ _ p=>p
def cg (op:Int):Int:=if op=1∨op=2∨op=3∨op=4 then 0 else if op=7∨op=8∨op=9∨op=10 then 1 else if op=6 then 2 else if op=5 then -1 else -2
def cq (s:List UInt8):Int×Int:=
 if s=[45]∨s=[42]∨s=[47]∨s=[37] then (1,1)
 else if s=[60]∨s=[60,61]∨s=[62]∨s=[62,61] then (1,2)
 else if s=[38,38]∨s=[124,124] then (2,2)
 else (0,0)
def lk (r:Int×Flt) (t pos:Int):Flt:=if r.2.1≠0 then r.2 else noC (r.1==t) 51 pos
abbrev aU:=List (ByteArray×Fn)
mutual
def aM (F:aU) (v:bw):Ex→Int×Flt
 | .mk op _ text ks pos =>
  if cg op=-2∨(0≤cg op∧cg op≠ks.length) then (0,(51,pos))
  else if op=1 then (1,okF)
  else if op=2 then (2,okF)
  else if op=3 then (3,okF)
  else if op=4 then (((aL v text).getD (0,false)).1,noC (aL v text).isSome 52 pos)
  else if op=5 then
   match aL F text with
   | none=>(0,(52,pos))
   | some fn=>if fn.params.length≠ks.length then (0,(51,pos)) else (fn.result,cL F v ks (fn.params.map (·.2)))
  else if op=6 then
   if (cq text.toList).1≠0 then ((cq text.toList).2,cL F v ks [(cq text.toList).1,(cq text.toList).1])
   else if text.toList≠[43]∧text.toList≠[61,61]∧text.toList≠[33,61] then (0,(51,pos))
   else
    let r:=dn F v (text.toList==[43]) ks
    if r.1.1≠0 then (0,r.1)
    else (if text.toList=[43] then r.2.getD 0 0 else 2,noC (r.2.getD 0 0==r.2.getD 1 0) 51 pos)
  else if op=7 then
   if text.toList=[45] then (1,cL F v ks [1]) else if text.toList=[33] then (2,cL F v ks [2]) else (0,(51,pos))
  else if op=9 then (2,cL F v ks [3])
  else if op=10 then (1,cL F v ks [3])
  else (3,cL F v ks [3])
def cL (F:aU) (v:bw):List Ex→List Int→Flt
 | [],_=>okF
 | x :: l,ts=>orF (lk (aM F v x) (ts.headD 0) x.pos) (cL F v l ts.tail)
def dn (F:aU) (v:bw) (plus:Bool):List Ex→Flt×List Int
 | []=>(okF,[])
 | k :: l =>
  let r:=aM F v k
  let f:=if r.2.1=0 then noC (r.1 !=0&&!(plus&&r.1==2)) 51 k.pos else r.2
  if f.1≠0 then (f,[]) else ((dn F v plus l).1,r.1 :: (dn F v plus l).2)
end
def eh (F:aU) (v:bw) (x:Ex) (t:Int):Flt:=lk (aM F v x) t x.pos
def dD (s:St):Bool:=
 let n:=s.exprs.length;let b:=s.body.length==0;let o:=s.els.length==0
 if s.op=1∨s.op=2∨s.op=7∨s.op=8 then n==1&&b&&o
 else if s.op=6 then n==2&&b&&o
 else if s.op=5 then decide (n≤1)&&b&&o
 else if s.op=3 then n==1
 else if s.op=4 then n==2&&o
 else false
mutual
def cS (F:aU) (res:Int):St→bw→bw×Flt
 | .mk op text es body els pos,v =>
  if dD (.mk op text es body els pos)=false then (v,(51,pos))
  else
   let x:=es.headD default
   let r:=aM F v x
   if op=1 then (bZ v text (r.1,false),orF r.2 (orF (noC (r.1 !=0) 51 x.pos) (noC (!(aL v text).isSome) 53 pos)))
   else if op=2 then (v,orF (noC (aL v text).isSome 52 pos) (orF (noC (!((aL v text).getD (0,false)).2) 51 pos) (eh F v x ((aL v text).getD (0,false)).1)))
   else if op=3 then (v,orF (eh F v x 2) (orF (bF F res body v) (bF F res els v)))
   else if op=4 then (v,orF (cL F v es [1,1]) (orF (noC (!(aL v text).isSome) 53 pos) (bF F res body (bZ v text (1,true)))))
   else if op=5 then (v,if es.length=0 then noC (res==0) 51 pos else orF r.2 (noC (r.1==res&&r.1 !=0) 51 x.pos))
   else if op=8 then (v,orF r.2 (noC (x.op==5) 51 x.pos))
   else (v,cL F v es [3,3])
def bF (F:aU) (res:Int):List St→bw→Flt
 | [],_=>okF
 | s :: l,v=>if (cS F res s v).2.1≠0 then (cS F res s v).2 else bF F res l (cS F res s v).1
end
mutual
def endsS:St→Bool
 | .mk op _ _ body els _=>op==5 || (op==3&&ee body&&ee els)
def ee:List St→Bool
 | []=>false
 | [s]=>endsS s
 | _ :: t :: l=>ee (t :: l)
end
mutual
def tL (n:Int):St→Int
 | .mk op _ _ body els _=>wrap64 ((if op=1∨op=4 then wrap64 (n+1) else n)+wrap64 (dr 0 body+dr 0 els))
def dr (n:Int):List St→Int
 | []=>n
 | s :: l=>dr (tL n s) l
end
def dT (pos:Int):List (ByteArray×Int)→bw→Flt×bw
 | [],v=>(okF,v)
 | p :: l,v=>if (aL v p.1).isSome then ((53,pos),v) else if p.2<1∨3<p.2 then ((51,pos),v) else dT pos l (bZ v p.1 (p.2,false))
def fN (F:aU) (f:Fn):Flt:=
 let r:=dT f.pos f.params []
 if r.1.1≠0 then r.1
 else if f.result<0∨3<f.result then (51,f.pos)
 else if 16<f.params.length∨64<wrap64 (f.params.length+dr 0 f.body) then (2,f.pos)
 else orF (bF F f.result f.body r.2) (noC (f.result==0 || ee f.body) 54 f.pos)
def dq:List Fn→aU→Flt×aU
 | [],F=>(okF,F)
 | f :: l,F=>if (aL F f.name).isSome then ((53,f.pos),F) else dq l (bZ F f.name f)
def gx (F:aU):List Fn→Flt
 | []=>okF
 | f :: l=>orF (fN F f) (gx F l)
def bL (l:List Fn):Flt:=
 if 64<l.length then (2,0)
 else if (dq l []).1.1≠0 then (dq l []).1
 else gx (dq l []).2 l
def cY (s:List UInt8):Except (Int×Int) (List Fn):=match dX s with
 | .error e=>.error e
 | .ok l=>if (bL l).1≠0 then .error (bL l) else .ok l
theorem vd {α:Type} (m:List (ByteArray×α)) (k j:ByteArray) (x:α):aL (bZ m k x) j=if k=j then some x else aL m j:=by
 induction m with
 | nil=>simp [aL,bZ]
 | cons p m ih =>
  unfold bZ;by_cases h:p.1=k
  ·rw [if_pos h]
   subst h;by_cases e:p.1=j
   ·simp [aL,e]
   ·simp [aL,e]
  ·rw [if_neg h]
   unfold aL;rw [ih];by_cases e:p.1=j
   ·rw [if_pos e,if_pos e,if_neg (fun q=>h (e.trans q.symm))]
   ·rw [if_neg e,if_neg e]
end
end
end Go.Proofs.YthgcpfkochikfaaGreat
