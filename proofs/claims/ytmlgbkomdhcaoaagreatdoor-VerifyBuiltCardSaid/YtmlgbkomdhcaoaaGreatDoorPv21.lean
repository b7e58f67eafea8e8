/-
  VerifyBuilt: part 21 of its proof: see the last text.
-/
import Derived.Test.YtmlgbkomdhcaoaaGreatDoorPv20
import Derived.Test.YtmlgbkomdhcaoaaGreatDoorPv01
import Derived.Test.YtmlgbkomdhcaoaaGreatDoorPv08
import Derived.Deep.RegionLawGrows
set_option maxRecDepth 100000
set_option maxHeartbeats 16000000
namespace Go.Proofs.YtmlgbkomdhcaoaaGreatDoor
section
open Go.RowKit
theorem kq:∀(l:List (ByteArray×Int)) (p:bf×Int),(aF l p).2=p.2+l.length
 | [],p=>by rw [aF];simp
 | x :: l,p=>by rw [aF,kq l];simp;omega
theorem oG (pos:Int) {sl:Nat→Int}:∀(l:List (ByteArray×Int)) (V:aR) (v:bf) (k:Nat),(bU pos l V).1.1=0→KnS V v k sl→(∀i,i<l.length→sl (k+i)=(l.getD i default).2)→KnS (bU pos l V).2 (aF l (v,(k:Int))).1 (aF l (v,(k:Int))).2 sl
 | [],V,v,k,_,h,_=>by rw [bU,aF];exact h
 | p :: l,V,v,k,e,h,hs=>by
  rw [bU] at e ⊢;rw [aF];dsimp only;split at e
  ·exact absurd e (by simp)
  rename_i c1;rw [if_neg c1];split at e
  ·exact absurd e (by simp)
  rename_i c2;rw [if_neg c2];have h0:=hs 0 (by simp);have e1:((k:Int)+1)=((k+1:Nat):Int):=by omega
  rw [e1];refine oG pos l _ _ (k+1) e (KnS.put (n:=(k:Int)) h (by omega) (by omega) (by dsimp only;omega) (by simpa using h0) (fun _ _=>rfl)) fun i hi=>?_;have:=hs (i+1) (by simp;omega);rw [show k+1+i=k+(i+1) by omega,this];rfl
theorem vH {m:Mdl} {F:List Fn} {G:aO} (hE:EnvM m F G) {f:Fn} (T:List ByteArray) (ht:TyF G f) (H:bY f.body≤2100) (hT:(dg F f T).2.length≤m.texts.length):SafeIs (dg F f T).1 m true:=by
 have J:=kq f.params ([],0)
 have hk:=oG f.pos (sl:=fun j=>(f.params.map (·.2)).getD j 0) f.params [] [] 0 ht.pars (fun x p hx=>by cases hx) (fun i hi=>by
   rw [Nat.zero_add];simp only [List.getD_eq_getElem?_getD,List.getElem?_map,List.getElem?_eq_getElem hi,Option.map_some,Option.getD_some])
 have K:(aF f.params ([],((0:Nat):Int)))=aF f.params ([],0):=rfl;rw [K] at hk;generalize hp:aF f.params ([],0)=p at *;generalize hs:(aJ F f.body (p.1,⟨[],p.2,T⟩)).2=s at *
 have hc:dg F f T=(⟨f.name,f.params.map (·.2),f.result,(if f.result=0 then au 18 0 s else s).slots,(if f.result=0 then au 18 0 s else s).ins⟩,(if f.result=0 then au 18 0 s else s).texts):=by
  unfold dg;rw [hp];dsimp only;rw [hs]
 rw [hc] at hT ⊢;dsimp only at hT ⊢
 have hx:ExtI s (if f.result=0 then au 18 0 s else s):=by
  split
  ·exact ExtI.add _ _ _
  ·exact ExtI.refl _
 have I:(if f.result=0 then au 18 0 s else s).slots=s.slots:=by split<;>rfl
 have E:(if f.result=0 then au 18 0 s else s).texts=s.texts:=by split<;>rfl
 rw [I];rw [E] at hT;generalize C:(⟨f.name,f.params.map (·.2),f.result,s.slots,(if f.result=0 then au 18 0 s else s).ins⟩:Cd)=c;have D:c.result=f.result:=by rw [←C]
 have O:c.slots=s.slots:=by rw [←C]
 have B:c.ins=(if f.result=0 then au 18 0 s else s).ins:=by rw [←C]
 have L:c.params=f.params.map (·.2):=by rw [←C]
 have A:Fin' c ⟨[],p.2,T⟩ (if f.result=0 then au 18 0 s else s):=fun i _ _=>by rw [B]
 obtain ⟨sl',_,g2⟩:=eG hE f.body (bU f.pos f.params []).2 p.1 ⟨[],p.2,T⟩ (fun j=>(f.params.map (·.2)).getD j 0) (by rw [D];exact ht.body) hk (fun j hj=>by
   have N:p.2≤(j:Int):=hj;simp only [List.getD_eq_getElem?_getD]
   rw [List.getElem?_eq_none (by simp;omega)];rfl) (by show 0≤p.2;omega) (by rw [hs];exact A.left hx) (by rw [hs];exact hT) (by rw [hs];omega) H
 rw [hs] at g2;refine ul ?_;rw [L];have g3:Flow c m 0 s.ins.length ⟨[],fun j=>(f.params.map (·.2)).getD j 0⟩ (if bE f.body then none else some ⟨[],sl'⟩):=g2;by_cases hr:f.result=0
 ·rw [if_pos hr] at B A
  rw [B,bV];by_cases he:bE f.body=true
  ·rw [if_pos he] at g3
   exact g3.dead (by omega)
  ·rw [if_neg he] at g3
   have M:=A.at (t:=s) (Nat.zero_le _) (ExtI.refl _);exact g3.seq (Flow.stop M (oJ (by rw [D];exact hr)) (by simp) rfl) (Nat.zero_le _) (by omega)
 ·have he:bE f.body=true:=ht.ends.resolve_left hr
  rw [if_neg hr] at B;rw [if_pos he] at g3;rw [B];exact g3
theorem rV (F:List Fn) (f:Fn) (T:List ByteArray):T.length≤(dg F f T).2.length:=by
 unfold dg;dsimp only;have h:=(aY F f.body (aF f.params ([],0)).1 ⟨[],(aF f.params ([],0)).2,T⟩).2.2.1;split<;>exact h
theorem pZ (F:List Fn):∀(l:List Fn) (p:List Cd×List ByteArray),(bA F l p).1.length=p.1.length+l.length∧p.2.length≤(bA F l p).2.length∧(∀i,i<p.1.length→(bA F l p).1.getD i default=p.1.getD i default) ∧
    ∀j,j<l.length→∃T,(bA F l p).1.getD (p.1.length+j) default=(dg F (l.getD j default) T).1∧(dg F (l.getD j default) T).2.length≤(bA F l p).2.length
 | [],p=>by
  rw [bA];exact ⟨rfl,Nat.le_refl _,fun _ _=>rfl,fun j hj=>absurd hj (by simp)⟩
 | f :: l,p=>by
  obtain ⟨h1,h2,h3,h4⟩:=pZ F l (p.1++[(dg F f p.2).1],(dg F f p.2).2);rw [bA];have hl:(p.1++[(dg F f p.2).1]).length=p.1.length+1:=by simp
  refine ⟨by rw [h1,hl];simp;omega,Nat.le_trans (rV F f p.2) h2,fun i hi=>?_,fun j hj=>?_⟩
  ·rw [h3 i (by rw [hl];omega)]
   simp only [List.getD_eq_getElem?_getD]
   rw [List.getElem?_append_left hi]
  ·cases j with
   | zero =>
    refine ⟨p.2,?_,h2⟩;rw [Nat.add_zero,h3 _ (by rw [hl];omega)];simp [List.getD_eq_getElem?_getD]
   | succ j =>
    obtain ⟨T,e1,e2⟩:=h4 j (by simp at hj;omega);rw [hl] at e1;refine ⟨T,?_,e2⟩;rw [show p.1.length+(j+1)=p.1.length+1+j by omega,e1];rfl
theorem rX {F:List Fn} (h:(bT F).1=0) (E:∀f,f∈F→bY f.body≤2100):rg (da F):=by
 obtain ⟨G,hp,hn,hf⟩:=wY h;obtain ⟨h1,_,_,h4⟩:=pZ F F ([],[])
 have B:(da F).codes.length=F.length:=by
  show (bA F F ([],[])).1.length=_
  rw [h1];simp
 have C:∀j,j<F.length→∃T,(da F).codes.getD j default=(dg F (F.getD j default) T).1∧(dg F (F.getD j default) T).2.length≤(da F).texts.length:=fun j hj=>by
  obtain ⟨T,e1,e2⟩:=h4 j hj;refine ⟨T,?_,?_⟩
  ·rw [←e1]
   show (bA F F ([],[])).1.getD j default=_
   simp
  ·show _≤((bA F F ([],[])).2.map dB).length
   rw [List.length_map];exact e2
 have A:∀j,j<F.length→F.getD j default∈F:=fun j hj=>by
  rw [List.getD_eq_getElem?_getD,List.getElem?_eq_getElem hj];exact List.getElem_mem hj
 have hE:EnvM (da F) F G:=by
  refine ⟨B,fun j hj=>?_,fun j hj=>?_,fun j hj p hp=>?_,fun j hj=>(hf _ (A j hj)).res,hp⟩
  ·obtain ⟨T,e,_⟩:=C j hj
   rw [e];rfl
  ·obtain ⟨T,e,_⟩:=C j hj
   rw [e];rfl
  ·exact oL _ _ _ (hf _ (A j hj)).pars p hp
 refine ⟨fun j hj=>?_,?_⟩
 ·rw [B] at hj
  obtain ⟨T,e,e2⟩:=C j hj;rw [e];exact vH hE T (hf _ (A j hj)) (E _ (A j hj)) e2
 ·have e:(da F).codes.map (·.name)=F.map (·.name):=by
    refine List.ext_getElem? fun i=>?_;by_cases hi:i<F.length
    ·obtain ⟨T,e,_⟩:=C i hi
     have D:i<(da F).codes.length:=by rw [B];exact hi
     rw [List.getD_eq_getElem?_getD,List.getElem?_eq_getElem D,Option.getD_some] at e;rw [List.getElem?_map,List.getElem?_map,List.getElem?_eq_getElem D,List.getElem?_eq_getElem hi,Option.map_some,Option.map_some,e];congr 1
     show (F.getD i default).name=_
     rw [List.getD_eq_getElem?_getD,List.getElem?_eq_getElem hi];rfl
    ·rw [List.getElem?_eq_none (by simp [B];omega),List.getElem?_eq_none (by simp;omega)]
  rw [e];exact hn
end
namespace Vf
open Go.RowKit
attribute [local go_sem ↓] Go.wp_at_zero Go.wp_at_succ
def StkAt (w:World) (v:Value) (l:List Int):Prop:=
 ∃s0 cap,v=.slice s0 l.length cap∧l.length≤cap∧cap≤maxLen∧(s0=none→cap=0) ∧
  (0<l.length→∃b off arr fz,s0=some ⟨b,off,none⟩∧w.heap[b]?=some (.cells arr 38 fz)∧∀i,i<l.length→w.cell? ⟨b,off+i,none⟩=some (.int .i64 (l.getD i 0)))∧∀i,i64 (l.getD i 0)
structure StAt (w:World) (k:Nat) (st:List Int) (sl:Nat→Int):Prop where
 obj:∃arr,w.heap[k]?=some (.cells arr 81 (0,0))
 top:∃sv,w.cell? ⟨k,0,none⟩=some sv∧StkAt w sv st
 slot:∀j,j<256→w.cell? ⟨k,1+j,none⟩=some (.int .i64 (sl j))∧i64 (sl j)
theorem af {w:World} {k:Nat} {A:Array Value} {t:TypeId} (h:w.heap[k]?=some (.cells A t (0,0))) (j:Nat):w.frozen? ⟨k,j,none⟩=false:=by simp [World.frozen?,h]
def On (k:Nat) (w w':World):Prop:=w.grownBy w' (some k)
theorem On.refl (k:Nat) (w:World):On k w w:=⟨rfl,rfl,rfl,Nat.le_refl _,fun _ _ _=>rfl⟩
theorem On.trans {k:Nat} {a b c:World} (h:On k a b) (g:On k b c):On k a c:=
 ⟨g.os.trans h.os,g.tape.trans h.tape,g.output.trans h.output,Nat.le_trans h.size g.size,fun i hi A=>(g.block i (Nat.lt_of_lt_of_le hi h.size) A).trans (h.block i hi A)⟩
theorem On.of_below {k:Nat} {a b:World} (h:Below a.heap.size a b):On k a b:=⟨h.os,h.tape,h.output,h.size,fun i hi _=>h.block i hi⟩
theorem On.drewN {k:Nat} {a b:World} (h:On k a b) (n:Nat):On k a (b.drewN n):=⟨h.os,h.tape,h.output,h.size,h.block⟩
theorem On.set {k:Nat} {a b:World} (h:On k a b) (j:Nat) (u:Value):On k a (b.setCell ⟨k,j,none⟩ u):=
 ⟨h.os,h.tape,h.output,by simpa [World.setCell] using h.size,fun i hi A=>(Below.heap_setCell b ⟨k,j,none⟩ u i (fun e=>A (by rw [e]))).trans (h.block i hi A)⟩
theorem StkAt.keep {w w':World} {v:Value} {l:List Int} (h:StkAt w v l) (hh:∀(b:Nat) (A:Array Value) (fz:Nat×Nat),w.heap[b]?=some (Obj.cells A 38 fz)→w'.heap[b]?=w.heap[b]?):StkAt w' v l:=by
 obtain ⟨s0,cap,h1,h2,h3,h4,h5,h6⟩:=h;refine ⟨s0,cap,h1,h2,h3,h4,fun h0=>?_,h6⟩;obtain ⟨b,off,A,fz,q1,q2,q3⟩:=h5 h0;have hb:=hh b A fz q2;exact ⟨b,off,A,fz,q1,hb.trans q2,fun i hi=>(World.cell?_of_block (w:=w) hb).trans (q3 i hi)⟩
theorem On.stk {k:Nat} {w w':World} {v:Value} {l:List Int} (h:On k w w') (hk:∃arr,w.heap[k]?=some (.cells arr 81 (0,0))) (s:StkAt w v l):StkAt w' v l:=
 s.keep fun b arr fz hb=>h.block b (lt_of_block hb) (fun e=>by
   obtain ⟨arr',hk⟩:=hk;injection e with e
   subst e;rw [hk] at hb;injection hb with hb
   injection hb with _ hb
   exact absurd hb (by decide))
theorem On.obj {k k':Nat} {w w':World} {o:Obj} (h:On k w w') (A:k'≠k) (ho:w.heap[k']?=some o):w'.heap[k']?=some o:=
 (h.block k' (lt_of_block ho) (fun e=>A (by injection e))).trans ho
theorem StAt.setTop {w:World} {k:Nat} {st l:List Int} {sl:Nat→Int} {v:Value} (h:StAt w k st sl) (hv:StkAt w v l):StAt (w.setCell ⟨k,0,none⟩ v) k l sl:=by
 obtain ⟨⟨arr,ho⟩,⟨sv,hc,hs⟩,A⟩:=h;have C:=lt_of_block ho;have B:On k w (w.setCell ⟨k,0,none⟩ v):=(On.refl k w).set 0 v;refine ⟨?_,⟨v,dh _ hc,B.stk ⟨arr,ho⟩ hv⟩,fun j hj=>?_⟩
 ·have h':w.heap[k]=.cells arr 81 (0,0):=by simpa [Array.getElem?_eq_getElem C] using ho
  refine ⟨arr.setIfInBounds 0 v,?_⟩;show (w.heap.modify k _)[k]?=_
  rw [Array.getElem?_modify,if_pos rfl,ho];rfl
 ·rw [aQ _ _ (.inr (by omega))]
  exact A j hj
theorem StAt.later {w w':World} {k:Nat} {st:List Int} {sl:Nat→Int} (h:StAt w k st sl) (hk:∀b,b<w.heap.size→w'.heap[b]?=w.heap[b]?):StAt w' k st sl:=by
 obtain ⟨⟨arr,ho⟩,⟨sv,hc,hs⟩,A⟩:=h;have B:=lt_of_block ho;have hb:=hk k B;exact ⟨⟨arr,hb.trans ho⟩,⟨sv,(World.cell?_of_block (w:=w) hb).trans hc,hs.keep fun b _ _ q=>hk b (lt_of_block q)⟩,fun j hj=>⟨(World.cell?_of_block (w:=w) hb).trans (A j hj).1,(A j hj).2⟩⟩
theorem StAt.below {w w':World} {k:Nat} {st:List Int} {sl:Nat→Int} (h:StAt w k st sl) (hb:Below w.heap.size w w'):StAt w' k st sl:=h.later hb.block
theorem StAt.drewN {w:World} {k:Nat} {st:List Int} {sl:Nat→Int} (h:StAt w k st sl) (n:Nat):StAt (w.drewN n) k st sl:=h.later fun _ _=>rfl
theorem za {w:World} {s0:Option Addr} {st:List Int} (h:0<st.length→∃b off arr fz,s0=some ⟨b,off,none⟩∧w.heap[b]?=some (.cells arr 38 fz)∧∀i,i<st.length→w.cell? ⟨b,off+i,none⟩=some (.int .i64 (st.getD i 0)))
    (o:Obj):∀a,s0=some a→∀j u,(st.map (Value.int .i64))[j]?=some u→(w.alloc o).drew.cell? (a.add j)=some u:=by
 intro a ha j u hj;rw [List.getElem?_map,Option.map_eq_some_iff] at hj;obtain ⟨x,hx,rfl⟩:=hj;have A:j<st.length:=(List.getElem?_eq_some_iff.1 hx).1;obtain ⟨b,off,arr,fz,q1,q2,q3⟩:=h (by omega);rw [ha] at q1;injection q1 with q1
 subst q1;rw [Go.WideShapes.add_plain];have q4:=q3 j A;rw [List.getD_eq_getElem?_getD,hx] at q4;have hb:=lt_of_block q2;show (w.alloc o).cell? _=_
 rw [World.cell?_alloc_old _ _ _ (by simp;omega)];exact q4
theorem yE {w':World} {base:Nat} {v':Value} {st:List Int} {t:Int} (h:w'.ownsRow base 38 1 v' (st.length+1) (st.map (Value.int .i64)++[.int .i64 t])) (A:st.length≤900000) (h6:∀i,i64 (st.getD i 0)) (ht:i64 t) :
    ∃g cp,v'=.slice (some ⟨g,0,none⟩) (st.length+1) cp∧StkAt w' v' (st++[t]):=by
 have h':=h;rcases h.2 with ⟨_,h0⟩ | ⟨g,cap,cur,rfl,hg,hh,D,B,_⟩
 ·exact absurd h0 (by omega)
 ·refine ⟨g,cap,rfl,⟨_,cap,by simp,by simp;omega,B,(fun e=>by cases e),fun _=>⟨g,0,cur,(0,0),rfl,hh,fun i hi=>?_⟩,fun i=>?_⟩⟩
  ·have C:i<st.length+1:=by simpa using hi
   rw [Nat.zero_add,World.ownsRow.cellAt h' i (by omega),List.getD_eq_getElem?_getD];by_cases e:i<st.length
   ·rw [List.getElem?_append_left (by simpa using e),List.getElem?_append_left e,List.getElem?_map,List.getElem?_eq_getElem e]
    rfl
   ·obtain rfl:i=st.length:=by omega
    simp
  ·rw [List.getD_eq_getElem?_getD]
   by_cases e:i<st.length
   ·rw [List.getElem?_append_left e,←List.getD_eq_getElem?_getD];exact h6 i
   ·by_cases e2:i=st.length
    ·subst e2;simpa using ht
    ·rw [List.getElem?_append_right (by omega)]
     have:([t]:List Int)[i-st.length]?=none:=by simp;omega
     rw [this];exact h6 st.length |> fun _=>by constructor<;>decide
theorem zr {w w':World} (h:w.grownBy w' none) {a:Addr} {u:Value} (hc:w.cell? a=some u):w'.cell? a=some u:=by
 obtain ⟨b,o,s⟩:=a;have hs:s=none:=World.cell?_spot hc;subst hs;exact (World.cell?_of_block (w:=w) (h.block b (ax hc) (by simp))).trans hc
theorem zl {w w':World} (h:w.grownBy w' none) {b:Nat} {o:Obj} (hc:w.heap[b]?=some o):w'.heap[b]?=some o:=(h.block b (lt_of_block hc) (by simp)).trans hc
theorem kw {w:World} {a:Addr} {u:Value} (o:Obj) (hc:w.cell? a=some u):(w.alloc o).drew.cell? a=some u:=by
 show (w.alloc o).cell? a=_
 rw [World.cell?_alloc_old _ _ _ (fun e=>World.new_ne w _ hc e.symm)];exact hc
theorem kD {w:World} {b:Nat} {q:Obj} (o:Obj) (hc:w.heap[b]?=some q):(w.alloc o).drew.heap[b]?=some q:=by
 show (w.alloc o).heap[b]?=_
 rw [Below.heap_alloc _ _ _ (lt_of_block hc)];exact hc
theorem uo {w w1:World} {o:Obj} (h:(w.alloc o).drew.grownBy w1 none):Below w.heap.size w w1:=
 have b:=((Below.refl w.heap.size w).alloc (Nat.le_refl _) o).drew;b.grown h b.size (fun _ e=>by cases e)
theorem kS:(Tryz.prog.info? 38).map (fun i=>(i.zero,i.size,i.bytes))=some (some (.int .i64 0),1,8):=by kernel_rfl
theorem fk (k:Nat) (st:List Int) (sl:Nat→Int) (t:Int) (w:World) (h:StAt w k st sl) (J:st.length≤900000) (ht:i64 t) :
    Calls Tryz.prog 47 #[.pointer (some ⟨k,0,none⟩),.int .i64 t] w fun e w'=>e=.returned (.bool true)∧StAt w' k (st++[t]) sl∧On k w w':=by
 have HW:=zh h;obtain ⟨⟨arr,C⟩,⟨sv,E,s0,cap,rfl,X,T,I,G,Q⟩,D⟩:=h;have L:w.frozen? ⟨k,0,none⟩=false:=af C 0;have U:=World.new_ne w _ E;have Y:=lt_of_block C;obtain ⟨i0,hi,P,O,N⟩:=info_parts kS;have HI:=zh hi;have HZ:=zh (And.intro P (And.intro O N));have HR:=zh G;have HS:=zh D;have HO:=zh C;have H6:=zh Q;have HN:=zh I;clear hi P O N G D C Q I;have W:(0:Int)≤(st.length:Int):=by omega
 have V:(st.length:Int)≤(cap:Int):=by omega
 go_enter Tryz.func47,Tryz.ntmps47
 go_wp2_with fail
 refine aD (S:=(fun w'=>w'.cell? ⟨k,0,none⟩=some (.slice s0 st.length cap)∧w'.frozen? ⟨k,0,none⟩=false)) 19 (by kernel_rfl) (by kernel_rfl) (by (first | exact ⟨E,L⟩ | exact ⟨kw _ E,af (kD _ HO.o) 0⟩ | exact ⟨e1,e2⟩)) (fun hH=>?_);simp only [List.take_succ_cons,List.take_zero,List.drop_succ_cons,List.drop_zero]
 refine wpAnyH_take (i:=0) (v:=?_) rfl (by kernel_rfl) (by kernel_rfl) (by kernel_rfl) (fun _ _ _ h=>h) (Or.inl ⟨by rfl,?_⟩) (by assumption) ?_;rotate_left 1
 ·(intro w A;(try dsimp only at A);go_simp;try with_reducible rfl)
 try simp only [Act.put,List.setIfInBounds_toArray,List.set_cons_zero,List.set_cons_succ,List.getElem_toArray,List.getElem_cons_zero]
 refine wpAnyH_take (i:=1) (v:=?_) rfl (by kernel_rfl) (by kernel_rfl) (by kernel_rfl) (fun _ _ _ h=>h) (Or.inl ⟨by rfl,?_⟩) (by assumption) ?_;rotate_left 1
 ·(intro w A;(try dsimp only at A);go_simp;try with_reducible rfl)
 try simp only [Act.put,List.setIfInBounds_toArray,List.set_cons_zero,List.set_cons_succ,List.getElem_toArray,List.getElem_cons_zero,List.getElem_cons_succ]
 refine wpAnyH_take (i:=2) (v:=?_) rfl (by kernel_rfl) (by kernel_rfl) (by kernel_rfl) (fun _ _ _ h=>h) (Or.inl ⟨by rfl,?_⟩) (by assumption) ?_;rotate_left 1
 ·(intro w A;(try dsimp only at A);go_simp;try with_reducible rfl)
 try simp only [Act.put,List.setIfInBounds_toArray,List.set_cons_zero,List.set_cons_succ,List.getElem_toArray,List.getElem_cons_zero,List.getElem_cons_succ]
 refine wpAnyH_take (i:=3) (v:=?_) rfl (by kernel_rfl) (by kernel_rfl) (by kernel_rfl) (fun _ _ _ h=>h) (Or.inl ⟨by rfl,?_⟩) (by assumption) ?_;rotate_left 1
 ·(intro w A;(try dsimp only at A);go_simp;try with_reducible rfl)
 try simp only [Act.put,List.setIfInBounds_toArray,List.set_cons_zero,List.set_cons_succ,List.getElem_toArray,List.getElem_cons_zero,List.getElem_cons_succ]
 refine wpAnyH_take (i:=4) (v:=?_) rfl (by kernel_rfl) (by kernel_rfl) (by kernel_rfl) (fun _ _ _ h=>h) (Or.inl ⟨by rfl,?_⟩) (by assumption) ?_;rotate_left 1
 ·(intro w A;(try dsimp only at A);go_simp;try with_reducible rfl)
 try simp only [Act.put,List.setIfInBounds_toArray,List.set_cons_zero,List.set_cons_succ,List.getElem_toArray,List.getElem_cons_zero,List.getElem_cons_succ]
 refine wpAnyH_take (i:=5) (v:=?_) rfl (by kernel_rfl) (by kernel_rfl) (by kernel_rfl) (fun _ _ _ h=>h) (Or.inl ⟨by rfl,?_⟩) (by assumption) ?_;rotate_left 1
 ·(intro w A;(try dsimp only at A);go_simp;try with_reducible rfl)
 try simp only [Act.put,List.setIfInBounds_toArray,List.set_cons_zero,List.set_cons_succ,List.getElem_toArray,List.getElem_cons_zero,List.getElem_cons_succ]
 refine wpAnyH_take (i:=6) (v:=?_) rfl (by kernel_rfl) (by kernel_rfl) (by kernel_rfl) (fun _ _ _ h=>h) (Or.inl ⟨by rfl,?_⟩) (by assumption) ?_;rotate_left 1
 ·(intro w A;(try dsimp only at A);go_simp;try with_reducible rfl)
 try simp only [Act.put,List.setIfInBounds_toArray,List.set_cons_zero,List.set_cons_succ,List.getElem_toArray,List.getElem_cons_zero,List.getElem_cons_succ]
 refine wpAnyH_take (i:=7) (v:=?_) rfl (by kernel_rfl) (by kernel_rfl) (by kernel_rfl) (fun _ _ _ h=>h) (Or.inl ⟨by rfl,?_⟩) (by assumption) ?_;rotate_left 1
 ·(intro w A;(try dsimp only at A);go_simp;try with_reducible rfl)
 try simp only [Act.put,List.setIfInBounds_toArray,List.set_cons_zero,List.set_cons_succ,List.getElem_toArray,List.getElem_cons_zero,List.getElem_cons_succ]
 refine wpAnyH_take (i:=8) (v:=?_) rfl (by kernel_rfl) (by kernel_rfl) (by kernel_rfl) (fun _ _ _ h=>h) (Or.inl ⟨by rfl,?_⟩) (by assumption) ?_;rotate_left 1
 ·(intro w A;(try dsimp only at A);go_simp;try with_reducible rfl)
 try simp only [Act.put,List.setIfInBounds_toArray,List.set_cons_zero,List.set_cons_succ,List.getElem_toArray,List.getElem_cons_zero,List.getElem_cons_succ]
 refine wpAnyH_take (i:=9) (v:=?_) rfl (by kernel_rfl) (by kernel_rfl) (by kernel_rfl) (fun _ _ _ h=>h) (Or.inl ⟨by rfl,?_⟩) (by assumption) ?_;rotate_left 1
 ·(intro w A;(try dsimp only at A);go_simp;try with_reducible rfl)
 try simp only [Act.put,List.setIfInBounds_toArray,List.set_cons_zero,List.set_cons_succ,List.getElem_toArray,List.getElem_cons_zero,List.getElem_cons_succ]
 refine wpAnyH_take (i:=10) (v:=?_) rfl (by kernel_rfl) (by kernel_rfl) (by kernel_rfl) (fun _ _ _ h=>h) (Or.inl ⟨by rfl,?_⟩) (by assumption) ?_;rotate_left 1
 ·(intro w A;(try dsimp only at A);go_simp;try with_reducible rfl)
 try simp only [Act.put,List.setIfInBounds_toArray,List.set_cons_zero,List.set_cons_succ,List.getElem_toArray,List.getElem_cons_zero,List.getElem_cons_succ]
 refine wpAnyH_take (i:=11) (v:=?_) rfl (by kernel_rfl) (by kernel_rfl) (by kernel_rfl) (fun _ _ _ h=>h) (Or.inl ⟨by rfl,?_⟩) (by assumption) ?_;rotate_left 1
 ·(intro w A;(try dsimp only at A);go_simp;try with_reducible rfl)
 try simp only [Act.put,List.setIfInBounds_toArray,List.set_cons_zero,List.set_cons_succ,List.getElem_toArray,List.getElem_cons_zero,List.getElem_cons_succ]
 refine wpAnyH_take (i:=12) (v:=?_) rfl (by kernel_rfl) (by kernel_rfl) (by kernel_rfl) (fun _ _ _ h=>h) (Or.inl ⟨by rfl,?_⟩) (by assumption) ?_;rotate_left 1
 ·(intro w A;(try dsimp only at A);go_simp;try with_reducible rfl)
 try simp only [Act.put,List.setIfInBounds_toArray,List.set_cons_zero,List.set_cons_succ,List.getElem_toArray,List.getElem_cons_zero,List.getElem_cons_succ]
 refine wpAnyH_take (i:=13) (v:=?_) rfl (by kernel_rfl) (by kernel_rfl) (by kernel_rfl) (fun _ _ _ h=>h) (Or.inl ⟨by rfl,?_⟩) (by assumption) ?_;rotate_left 1
 ·(intro w A;(try dsimp only at A);go_simp;try with_reducible rfl)
 try simp only [Act.put,List.setIfInBounds_toArray,List.set_cons_zero,List.set_cons_succ,List.getElem_toArray,List.getElem_cons_zero,List.getElem_cons_succ]
 refine wpAnyH_take (i:=14) (v:=?_) rfl (by kernel_rfl) (by kernel_rfl) (by kernel_rfl) (fun _ _ _ h=>h) (Or.inl ⟨by rfl,?_⟩) (by assumption) ?_;rotate_left 1
 ·(intro w A;(try dsimp only at A);go_simp;try with_reducible rfl)
 try simp only [Act.put,List.setIfInBounds_toArray,List.set_cons_zero,List.set_cons_succ,List.getElem_toArray,List.getElem_cons_zero,List.getElem_cons_succ]
 refine wpAnyH_take (i:=15) (v:=?_) rfl (by kernel_rfl) (by kernel_rfl) (by kernel_rfl) (fun _ _ _ h=>h) (Or.inl ⟨by rfl,?_⟩) (by assumption) ?_;rotate_left 1
 ·(intro w A;(try dsimp only at A);go_simp;try with_reducible rfl)
 try simp only [Act.put,List.setIfInBounds_toArray,List.set_cons_zero,List.set_cons_succ,List.getElem_toArray,List.getElem_cons_zero,List.getElem_cons_succ]
 refine wpAnyH_take (i:=16) (v:=?_) rfl (by kernel_rfl) (by kernel_rfl) (by kernel_rfl) (fun _ _ _ h=>h) (Or.inl ⟨by rfl,?_⟩) (by assumption) ?_;rotate_left 1
 ·(intro w A;(try dsimp only at A);go_simp;try with_reducible rfl)
 try simp only [Act.put,List.setIfInBounds_toArray,List.set_cons_zero,List.set_cons_succ,List.getElem_toArray,List.getElem_cons_zero,List.getElem_cons_succ]
 refine wpAnyH_ready (rs:=[17]) (by kernel_rfl) (by simp) ?_;refine AllReadyH.cons rfl (fun K hK=>?_) AllReadyH.nil;go_simp;refine hK.out _ _ ?_ (fun hH=>?_)
 ·(try dsimp only);(first | exact ⟨E,L⟩ | exact ⟨kw _ E,af (kD _ HO.o) 0⟩ | exact ⟨e1,e2⟩)
 clear hK K;try simp only [Act.put,List.setIfInBounds_toArray,List.set_cons_zero,List.set_cons_succ,List.getElem_toArray,List.getElem_cons_zero,List.getElem_cons_succ]
 refine wpAnyH_ready (rs:=[18]) (by kernel_rfl) (by simp) ?_;refine AllReadyH.cons rfl (fun K hK=>?_) AllReadyH.nil
 (refine step_append_grows ?_ (.tmp 20) (.tmp 22) 37 ?_ 38 i0 (.int .i64 0) 1 8 Tryz.underlying37 HI.o HZ.o.1 HZ.o.2.1 HZ.o.2.2 rfl (Nat.zero_lt_succ 0) s0 st.length st.length (st.map (Value.int .i64)) ?_ ?_ ?_ ?_ ⟨w.heap.size,0,none⟩ 1 1 [.int .i64 t] ?_ rfl ?_ ?_ ?_ ?_ ?_ ?_);(· rfl);(· rfl);(· first | rfl | simp [Act.eval]);(· intro e;have:=HN.o e;omega);(· simp);(· exact za HR.o _);(· first | rfl | simp [Act.eval]);(· exact cell_one_new _ _ _);(· intro u hu;simp at hu;subst hu;rfl);(· omega);(· unfold maxLen;omega);(· omega);(intro v' w1 H B;obtain ⟨g,cp,R,F⟩:=yE H J H6.o ht;subst R;have M:=zh F;have e1:=zr B (kw _ E);have e2:=af (zl B (kD _ HO.o)) 0;have HG:=zh B;clear F H B)
 refine hK.out _ _ ?_ (fun hH=>?_)
 ·(try dsimp only);(first | exact ⟨E,L⟩ | exact ⟨kw _ E,af (kD _ HO.o) 0⟩ | exact ⟨e1,e2⟩)
 clear hK K;try simp only [Act.put,List.setIfInBounds_toArray,List.set_cons_zero,List.set_cons_succ,List.getElem_toArray,List.getElem_cons_zero,List.getElem_cons_succ]
 refine wpAnyH_done (by kernel_rfl) ?_ _;change wpList _ _ _ _ _ _
 go_wp2_with fail
 go_ret
 have hb:=uo HG.o;exact ⟨rfl,(HW.o.below hb).setTop M.o,(On.of_below hb).set 0 _⟩
end Vf
end Go.Proofs.YtmlgbkomdhcaoaaGreatDoor
