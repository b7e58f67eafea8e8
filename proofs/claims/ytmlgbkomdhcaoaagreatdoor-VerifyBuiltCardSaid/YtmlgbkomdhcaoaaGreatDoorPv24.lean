/-
  VerifyBuilt: part 24 of its proof: see the last text.
-/
import Derived.Test.YtmlgbkomdhcaoaaGreatDoorPv23
import Derived.Deep.MidRow
import Derived.Deep.AppendLies
import Derived.Deep.WholeRow
import Derived.Deep.LoopGhost
import Derived.Deep.OwnRows
import Derived.Laws.CopyOwn
import Derived.Laws.StructEq
set_option maxRecDepth 100000
set_option maxHeartbeats 16000000
namespace Go.Proofs.YtmlgbkomdhcaoaaGreatDoor
namespace Vf
open Go.RowKit
def ou (o:Option Sta) (k:Nat):Value:=match o with
 | none=>.pointer none
 | some _=>.pointer (some ⟨k,0,none⟩)
theorem mO (k:Nat):ou none k=.pointer none:=rfl
theorem mf (s:Sta) (k:Nat):ou (some s) k=.pointer (some ⟨k,0,none⟩):=rfl
def OfTy (w:World) (b:Nat) (t:TypeId):Prop:=∃a fz,w.heap[b]?=some (.cells a t fz)
theorem OfTy.ne {w:World} {a b:Nat} {s t:TypeId} (h:OfTy w a s) (g:OfTy w b t) (A:s≠t):a≠b:=fun e=>by
 subst e;obtain ⟨_,_,h⟩:=h;obtain ⟨_,_,g⟩:=g;rw [h] at g;injection g with g
 injection g with _ g _
 exact A g
structure TabAt (base:Nat) (w:World) (ab n:Nat) (tab:Tab) (ks:Nat→Nat):Prop where
 arr:∃a,w.heap[ab]?=some (.cells a 77 (0,0))
 low:base≤ab
 cell:∀i,i<n→w.cell? ⟨ab,i,none⟩=some (ou (tab i) (ks i))
 st:∀i s,i<n→tab i=some s→base≤ks i∧s.st.length≤2100∧StAt w (ks i) s.st s.sl
 inj:∀i j,i<n→j<n→(tab i).isSome=true→(tab j).isSome=true→ks i=ks j→i=j
theorem StAt.ofTy {w:World} {k:Nat} {st:List Int} {sl:Nat→Int} (h:StAt w k st sl):OfTy w k 81:=by
 obtain ⟨arr,ho⟩:=h.obj;exact ⟨arr,_,ho⟩
theorem StAt.keep {w w':World} {k:Nat} {st:List Int} {sl:Nat→Int} (h:StAt w k st sl) (hk:w'.heap[k]?=w.heap[k]?) (ht:∀b,OfTy w b 38→w'.heap[b]?=w.heap[b]?):StAt w' k st sl:=by
 obtain ⟨⟨arr,ho⟩,⟨sv,hc,hs⟩,A⟩:=h;exact ⟨⟨arr,hk.trans ho⟩,⟨sv,(World.cell?_of_block (w:=w) hk).trans hc,hs.keep fun b a fz q=>ht b ⟨a,fz,q⟩⟩,fun j hj=>⟨(World.cell?_of_block (w:=w) hk).trans (A j hj).1,(A j hj).2⟩⟩
theorem TabAt.arrTy {base:Nat} {w:World} {ab n:Nat} {A:Tab} {ks:Nat→Nat} (h:TabAt base w ab n A ks):OfTy w ab 77:=by
 obtain ⟨a,ha⟩:=h.arr;exact ⟨a,_,ha⟩
theorem TabAt.keep {base:Nat} {w w':World} {ab n:Nat} {A:Tab} {ks:Nat→Nat} (h:TabAt base w ab n A ks)
    (ha:w'.heap[ab]?=w.heap[ab]?) (hk:∀i,i<n→(A i).isSome=true→w'.heap[ks i]?=w.heap[ks i]?) (ht:∀b,OfTy w b 38→w'.heap[b]?=w.heap[b]?):TabAt base w' ab n A ks:=by
 obtain ⟨a,h1⟩:=h.arr;refine ⟨⟨a,ha.trans h1⟩,h.low,fun i hi=>(World.cell?_of_block (w:=w) ha).trans (h.cell i hi),fun i s hi hs=>?_,h.inj⟩;obtain ⟨q1,q2,q3⟩:=h.st i s hi hs;exact ⟨q1,q2,q3.keep (hk i hi (by rw [hs];rfl)) ht⟩
theorem TabAt.later {base:Nat} {w w':World} {ab n:Nat} {A:Tab} {ks:Nat→Nat} (h:TabAt base w ab n A ks) (hb:∀b,b<w.heap.size→w'.heap[b]?=w.heap[b]?):TabAt base w' ab n A ks:=by
 have hT:=h.arrTy;refine h.keep ?_ (fun i hi hs=>?_) (fun b ⟨_,_,B⟩=>hb b (lt_of_block B))
 ·obtain ⟨_,_,hT⟩:=hT
  exact hb _ (lt_of_block hT)
 ·obtain ⟨s,hs⟩:=Option.isSome_iff_exists.1 hs
  obtain ⟨_,_,q⟩:=(h.st i s hi hs).2.2.ofTy;exact hb _ (lt_of_block q)
theorem TabAt.on {base x:Nat} {w w':World} {ab n:Nat} {B:Tab} {ks:Nat→Nat} {t:TypeId} (h:TabAt base w ab n B ks) (F:On x w w') (hx:OfTy w x t) (E:t≠77) (D:t≠38)
    (C:∀i,i<n→(B i).isSome=true→ks i≠x):TabAt base w' ab n B ks:=by
 have hb:∀b,b<w.heap.size→b≠x→w'.heap[b]?=w.heap[b]?:=fun b hb C=>F.block b hb (fun e=>C (by injection e));refine h.keep ?_ (fun i hi hs=>?_) (fun b hT=>?_)
 ·obtain ⟨_,_,hT⟩:=h.arrTy
  exact hb _ (lt_of_block hT) (h.arrTy.ne hx E.symm)
 ·have A:=C i hi hs
  obtain ⟨s,hs⟩:=Option.isSome_iff_exists.1 hs;obtain ⟨_,_,q⟩:=(h.st i s hi hs).2.2.ofTy;exact hb _ (lt_of_block q) A
 ·have A:=hT.ne hx D.symm
  obtain ⟨_,_,q⟩:=hT;exact hb _ (lt_of_block q) A
theorem aj (w:World) (p:Addr) (u:Value) (b:Nat) (h:b≠p.block):(w.setCell p u).heap[b]?=w.heap[b]?:=Below.heap_setCell w p u b h
theorem aC (w:World) (p:Addr) (u:Value):(w.setCell p u).heap.size=w.heap.size:=by simp [World.setCell]
theorem OfTy.setCell {w:World} {b:Nat} {t:TypeId} (h:OfTy w b t) (p:Addr) (u:Value):OfTy (w.setCell p u) b t:=by
 obtain ⟨a,fz,h⟩:=h;by_cases e:b=p.block
 ·subst e
  obtain ⟨bb,o,sp⟩:=p;refine ⟨if sp.isSome=true then a else a.setIfInBounds o u,fz,?_⟩;show (w.heap.modify bb _)[bb]?=_
  rw [Array.getElem?_modify,if_pos rfl,h];rfl
 ·exact ⟨a,fz,(aj w p u b e).trans h⟩
theorem TabAt.put {base k i:Nat} {w:World} {ab n:Nat} {E:Tab} {ks:Nat→Nat} {s:Sta} (h:TabAt base w ab n E ks) (hi:i<n) (hk:base≤k) (hl:s.st.length≤2100) (hs:StAt w k s.st s.sl)
    (D:∀j,j<n→(E j).isSome=true→ks j≠k):TabAt base (w.setCell ⟨ab,i,none⟩ (.pointer (some ⟨k,0,none⟩))) ab n (upd E i s) (fun j=>if j=i then k else ks j):=by
 have hT:=h.arrTy;have hb:∀b,b≠ab→(w.setCell ⟨ab,i,none⟩ (.pointer (some ⟨k,0,none⟩))).heap[b]?=w.heap[b]?:=fun b D=>aj w _ _ b D
 have F:∀k' st sl,StAt w k' st sl→StAt (w.setCell ⟨ab,i,none⟩ (.pointer (some ⟨k,0,none⟩))) k' st sl:=fun k' st sl q =>
  q.keep (hb _ (q.ofTy.ne hT (by decide))) (fun b q2=>hb b (q2.ne hT (by decide)))
 refine ⟨?_,h.low,fun j hj=>?_,fun j s' hj A=>?_,fun a b ha G C B e=>?_⟩
 ·obtain ⟨a,ha⟩:=h.arr
  refine ⟨a.setIfInBounds i (.pointer (some ⟨k,0,none⟩)),?_⟩;show (w.heap.modify ab _)[ab]?=_
  rw [Array.getElem?_modify,if_pos rfl,ha];rfl
 ·by_cases e:j=i
  ·subst e
   rw [dh _ (h.cell j hj)];simp [upd,ou]
  ·rw [aQ _ _ (.inr (by omega)),h.cell j hj]
   simp [upd,e]
 ·by_cases e:j=i
  ·subst e
   simp only [upd,if_true] at A
   injection A with A
   subst A;simp only [if_true]
   exact ⟨hk,hl,F _ _ _ hs⟩
  ·simp only [upd,if_neg e] at A ⊢
   obtain ⟨q1,q2,q3⟩:=h.st j s' hj A;exact ⟨q1,q2,F _ _ _ q3⟩
 ·by_cases ea:a=i<;>by_cases eb:b=i
  ·rw [ea,eb]
  ·simp only [upd,if_neg eb] at B
   simp only [if_pos ea,if_neg eb] at e
   exact absurd e.symm (D b G B)
  ·simp only [upd,if_neg ea] at C
   simp only [if_neg ea,if_pos eb] at e
   exact absurd e (D a ha C)
  ·simp only [upd,if_neg ea] at C
   simp only [upd,if_neg eb] at B
   simp only [if_neg ea,if_neg eb] at e
   exact h.inj a b ha G C B e
theorem TabAt.turn {base i:Nat} {w w':World} {ab n:Nat} {C:Tab} {ks:Nat→Nat} {F s:Sta} (h:TabAt base w ab n C ks) (hi:i<n) (ho:C i=some F) (J:On (ks i) w w') (hl:s.st.length≤2100) (hs:StAt w' (ks i) s.st s.sl) :
    TabAt base w' ab n (upd C i s) ks:=by
 obtain ⟨q1,_,q3⟩:=h.st i F hi ho;have hT:=q3.ofTy;have hb:∀b,b<w.heap.size→b≠ks i→w'.heap[b]?=w.heap[b]?:=fun b hb D=>J.block b hb (fun e=>D (by injection e))
 have ha:w'.heap[ab]?=w.heap[ab]?:=by
  have D:=h.arrTy.ne hT (by decide);obtain ⟨_,_,hq⟩:=h.arrTy;exact hb _ (lt_of_block hq) D
 refine ⟨?_,h.low,fun j hj=>?_,fun j s' hj B=>?_,fun a b ha K I H e=>?_⟩
 ·obtain ⟨a,h1⟩:=h.arr
  exact ⟨a,ha.trans h1⟩
 ·rw [World.cell?_of_block (w:=w) ha,h.cell j hj]
  by_cases e:j=i
  ·subst e;rw [ho];simp [upd,ou]
  ·simp [upd,e]
 ·by_cases e:j=i
  ·subst e
   simp only [upd,if_true] at B
   injection B with B
   subst B;exact ⟨q1,hl,hs⟩
  ·simp only [upd,if_neg e] at B
   obtain ⟨r1,r2,r3⟩:=h.st j s' hj B;have D:ks j≠ks i:=fun e2=>e (h.inj j i hj hi (by rw [B];rfl) (by rw [ho];rfl) e2);refine ⟨r1,r2,r3.keep ?_ (fun b G=>?_)⟩
   ·obtain ⟨_,_,q⟩:=r3.ofTy
    exact hb _ (lt_of_block q) D
   ·have E:=G.ne hT (by decide)
    obtain ⟨_,_,q⟩:=G;exact hb _ (lt_of_block q) E
 ·have A:∀j,(upd C i s j).isSome=true→(C j).isSome=true:=fun j hj=>by
    by_cases e:j=i
    ·subst e;rw [ho];rfl
    ·simpa [upd,e] using hj
  exact h.inj a b ha K (A a I) (A b H) e
def bC (sl:Nat→Int):List Value:=(List.range 256).map fun j=>.int .i64 (sl j)
theorem cn (sl:Nat→Int):(bC sl).length=256:=by simp [bC]
theorem eN (sl:Nat→Int) (j:Nat) (hj:j<256):(bC sl)[j]?=some (.int .i64 (sl j)):=by simp [bC,hj]
theorem lF (sl:Nat→Int):∀v∈bC sl,v.oneCell'=true:=by
 intro v hv;simp [bC] at hv
 obtain ⟨j,_,rfl⟩:=hv;rfl
theorem StAt.slots {w:World} {k:Nat} {st:List Int} {sl:Nat→Int} (h:StAt w k st sl):w.rangeAt k 1 (bC sl):=fun j v hv=>by
 have hj:j<256:=by have:=(List.getElem?_eq_some_iff.1 hv).1;rwa [cn] at this
 rw [eN sl j hj] at hv;injection hv with hv
 subst hv;exact (h.slot j hj).1
theorem StAt.whole {w:World} {k:Nat} {st:List Int} {sl:Nat→Int} (h:StAt w k st sl):∃sv,StkAt w sv st∧w.rangeAt k 0 (sv :: bC sl):=by
 obtain ⟨sv,hc,hs⟩:=h.top;refine ⟨sv,hs,fun j v hv=>?_⟩
 cases j with
 | zero=>injection hv with hv;subst hv;exact hc
 | succ j =>
  have:=h.slots j v (by simpa using hv);rw [Nat.zero_add,Nat.add_comm];exact this
theorem pI {w:World} {k:Nat} {st:List Int} {sl:Nat→Int} {sv:Value} (ho:∃arr,w.heap[k]?=some (.cells arr 81 (0,0))) (hs:StkAt w sv st) (hr:w.rangeAt k 0 (sv :: bC sl)) (A:∀j,j<256→i64 (sl j)):StAt w k st sl:=by
 refine ⟨ho,⟨sv,hr 0 sv rfl,hs⟩,fun j hj=>⟨?_,A j hj⟩⟩;have:=hr (1+j) (.int .i64 (sl j)) (by rw [Nat.add_comm,List.getElem?_cons_succ];exact eN sl j hj);rwa [Nat.zero_add] at this
theorem StAt.i64s {w:World} {k:Nat} {st:List Int} {sl:Nat→Int} (h:StAt w k st sl):∀j,j<256→i64 (sl j):=fun j hj=>(h.slot j hj).2
def km (l:List Nat):List Value:=l.map fun (i:Nat)=>Value.int .i64 (i:Int)
def PileAt (base:Nat) (w:World) (v:Value) (l:List Nat):Prop:=w.ownsRow base 3 1 v l.length (km l)∧∃g cap,v=.slice (some ⟨g,0,none⟩) l.length cap
theorem PileAt.form {base:Nat} {w:World} {v:Value} {l:List Nat} (h:PileAt base w v l):∃g cap,v=.slice (some ⟨g,0,none⟩) l.length cap∧l.length≤cap∧base≤g∧(∃a,w.heap[g]?=some (.cells a 3 (0,0)))∧∀i,i<l.length→w.cell? ⟨g,i,none⟩=some (.int .i64 ((l.getD i 0:Nat):Int)):=by
 obtain ⟨h,g,cap,rfl⟩:=h;have h':=h;obtain ⟨_,⟨hq,_⟩ | ⟨g',cap',cur,hv,hg,hh,A,_⟩⟩:=h
 ·cases hq
 ·injection hv with hv1 hv2 hv3
  injection hv1 with hv1
  injection hv1 with hv1
  subst hv1;subst hv3;refine ⟨g,cap,rfl,A,hg,⟨cur,hh⟩,fun i hi=>?_⟩
  have:=World.ownsRow.cells h' (g:=g) rfl i (.int .i64 ((l.getD i 0:Nat):Int)) (by
    rw [km,List.getElem?_map,List.getD_eq_getElem?_getD,List.getElem?_eq_getElem hi];rfl)
  simpa [Go.WideShapes.add_plain] using this
theorem PileAt.keep {base:Nat} {w w':World} {v:Value} {l:List Nat} (h:PileAt base w v l) (hb:∀b,OfTy w b 3→w'.heap[b]?=w.heap[b]?):PileAt base w' v l:=by
 obtain ⟨h,g,cap,rfl⟩:=h;refine ⟨⟨h.1,?_⟩,g,cap,rfl⟩;rcases h.2 with hq | ⟨g',cap',cur,hv,hg,hh,r⟩
 ·exact .inl hq
 ·exact .inr ⟨g',cap',cur,hv,hg,(hb g' ⟨cur,_,hh⟩).trans hh,r⟩
theorem PileAt.later {base:Nat} {w w':World} {v:Value} {l:List Nat} (h:PileAt base w v l) (hb:∀b,b<w.heap.size→w'.heap[b]?=w.heap[b]?):PileAt base w' v l:=
 h.keep fun b ⟨_,_,q⟩=>hb b (lt_of_block q)
theorem PileAt.on {base x:Nat} {w w':World} {v:Value} {l:List Nat} {t:TypeId} (h:PileAt base w v l) (A:On x w w') (hx:OfTy w x t) (ht:t≠3):PileAt base w' v l:=
 h.keep fun b q=>by
  have B:=q.ne hx ht.symm;obtain ⟨_,_,q⟩:=q;exact A.block b (lt_of_block q) (fun e=>B (by injection e))
theorem PileAt.drop {base:Nat} {w:World} {g cap:Nat} {l:List Nat} {p:Nat} (h:PileAt base w (.slice (some ⟨g,0,none⟩) (l.length+1) cap) (l++[p])):PileAt base w (.slice (some ⟨g,0,none⟩) l.length cap) l:=by
 obtain ⟨⟨h1,h2⟩,_⟩:=h;refine ⟨⟨by simp [km],.inr ?_⟩,g,cap,rfl⟩;rcases h2 with ⟨hq,_⟩ | ⟨g',cap',cur,hv,hg,hh,A,hm,hs,ht⟩
 ·cases hq
 ·injection hv with hv1 hv2 hv3
  injection hv1 with hv1
  injection hv1 with hv1
  subst hv1;subst hv3;refine ⟨g,cap,cur,rfl,hg,hh,by simp at A;omega,hm,hs,?_⟩;have h3:(cur.toList.take ((l++[p]).length * 1)).take l.length=(km (l++[p])).take l.length:=by rw [ht]
  rw [List.take_take] at h3;simp only [List.length_append,List.length_cons,List.length_nil,Nat.mul_one] at h3
  rw [Nat.min_eq_left (by omega)] at h3;rw [Nat.mul_one,h3];simp [km]
end Vf
namespace Vf
open Go.RowKit
attribute [local go_sem ↓] Go.wp_at_zero Go.wp_at_succ
def z58:Array Value:=(Value.slice none 0 0 :: bC (fun _=>0)).toArray
def z56:Array Value:=(bC (fun _=>0)).toArray
theorem sO (w:World):(zeroValue 81).run Tryz.prog w=.ok (.agg z58) w:=
 (zero_of_info (n:=257) (by kernel_rfl)).1 w
theorem Al (w:World):(zeroValue 79).run Tryz.prog w=.ok (.agg z56) w:=
 (zero_of_info (n:=256) (by kernel_rfl)).1 w
theorem Av (sv:Value) (sl:Nat→Int):(Tryz.prog.info? 81).map (·.size)=some (sv :: bC sl).length:=by
 rw [List.length_cons,cn];kernel_rfl
theorem oX (sl:Nat→Int):(Tryz.prog.info? 79).map (·.size)=some (bC sl).length:=by
 rw [cn];kernel_rfl
theorem zT {w:World} {sv:Value} {st:List Int} (h:StkAt w sv st) (sl:Nat→Int):∀v∈sv :: bC sl,v.oneCell'=true:=by
 intro v hv;rcases List.mem_cons.1 hv with rfl | hv
 ·obtain ⟨_,_,rfl,_⟩:=h;rfl
 ·exact lF _ v hv
theorem uE (W:World) (n i h:Nat) (hi:i<n) (hh:W.heap.size=h):(W.alloc (.cells (madeCells #[Value.pointer none] n) 77)).cell? ⟨h,i,none⟩=some (.pointer none):=by
 refine aw _ _ _ _ _ _ hh ?_;simp [madeCells,hi,Nat.mod_one]
theorem am (W:World) (o:Obj) (h:Nat) (hh:W.heap.size=h):(W.alloc o).heap[h]?=some o:=by
 subst hh;show (W.heap.push _)[W.heap.size]?=_
 simp
theorem az (W:World) (o o':Obj) (h:Nat) (hh:W.heap[h]?=some o):(W.alloc o').heap[h]?=some o:=by
 rw [Below.heap_alloc _ _ _ (lt_of_block hh)];exact hh
theorem xS (d:Nat) (f g:Nat→Int) (w:World) :
    (Op.equalIn (d+2) 79 (.agg (bC f).toArray) (.agg (bC g).toArray)).run Tryz.prog w=.ok ((List.range 256).all fun i=>f i==g i) w:=by
 obtain ⟨i0,C,_,A,_⟩:=info_parts kS;have B:∀w,(Go.sizeOf 38).run Tryz.prog w=.ok 1 w:=fun w=>by simp [Go.sizeOf,typeInfo,C,A]
 rw [List.range_eq_range',Op.equalIn];simp only [Sem.run_bind,run_underlying Tryz.underlying79,Result.andThen_ok,B,Std.Legacy.Range.forIn_eq_forIn_range',Std.Legacy.Range.size,Nat.sub_zero,Nat.add_sub_cancel,Nat.div_one]
 have hl:∀i∈List.range' 0 256 1,i<256:=fun i hi=>by simpa using (List.mem_range'_1.1 hi).2
 generalize List.range' 0 256 1=l at hl ⊢;induction l with
 | nil=>simp
 | cons i l ih =>
  have hi:i<256:=hl i (by simp)
  have px:∀(f:Nat→Int),(Go.part 38 (bC f).toArray (i * 1)).run Tryz.prog w=.ok (.int .i64 (f i)) w:=fun f=>by
   simp [Go.part,isAgg,run_underlying Tryz.underlying38,eN f i hi]
  have pe:(Op.equalIn (d+1) 38 (.int .i64 (f i)) (.int .i64 (g i))).run Tryz.prog w=.ok (f i==g i) w:=run_equalIn_int w d 38 .i64 .i64 _ _ Tryz.underlying38;simp only [List.forIn_cons,Sem.run_bind,px,pe,Result.andThen_ok,List.all_cons]
  cases hb:(f i==g i)
  ·simp
  ·simp only [Bool.not_true,Bool.false_eq_true,if_false,Sem.run_pure,Result.andThen_ok,Bool.true_and]
   exact ih fun j hj=>hl j (by simp [hj])
theorem uz (f g:Nat→Int) (w:World):(binOp .neq 79 (.agg (bC f).toArray) (.agg (bC (de f g)).toArray)).run Tryz.prog w=.ok (.bool (gl f g)) w:=by
 rw [run_neq_struct,xS 9998 f (de f g) w];show Result.ok _ w=_
 congr 2
 rw [List.not_all_eq_any_not];unfold gl;congr 1
 funext j
 unfold de;by_cases h:f j=g j
 ·simp [h]
 ·have h2:(f j==g j)=false:=by simp [h]
  simp [bne,h2,h]
theorem qS (off:Nat):∀(l:List Value) (k:Nat) (z:Array Value) (i:Nat),(((l.zipIdx k).foldl (fun (a:Array Value) (p:Value×Nat)=>a.setIfInBounds (off+p.2) p.1) z)[i]?=if off+k≤i∧i<off+k+l.length∧i<z.size then l[i-off-k]? else z[i]?)∧((l.zipIdx k).foldl (fun (a:Array Value) (p:Value×Nat)=>a.setIfInBounds (off+p.2) p.1) z).size=z.size
 | [],k,z,i=>by
  refine ⟨?_,rfl⟩;rw [if_neg (by simp;omega)];rfl
 | x :: l,k,z,i=>by
  have ih:=qS off l (k+1) (z.setIfInBounds (off+k) x) i;rw [List.zipIdx_cons,List.foldl_cons];refine ⟨?_,by rw [ih.2];simp⟩;rw [ih.1];simp only [Array.size_setIfInBounds,List.length_cons]
  by_cases e:i=off+k
  ·subst e
   rw [if_neg (by omega),Array.getElem?_setIfInBounds];by_cases h:off+k<z.size
   ·have h':off+k≤off+k∧off+k<off+k+(l.length+1)∧off+k<z.size:=⟨Nat.le_refl _,by omega,h⟩
    simp [h]
   ·have h':¬(off+k≤off+k∧off+k<off+k+(l.length+1)∧off+k<z.size):=fun q=>h q.2.2
    simp [h]
  ·rw [Array.getElem?_setIfInBounds,if_neg (Ne.symm e)]
   by_cases h:off+(k+1)≤i∧i<off+(k+1)+l.length∧i<z.size
   ·rw [if_pos h,if_pos ⟨by omega,by omega,h.2.2⟩,show i-off-k=(i-off-(k+1))+1 by omega,List.getElem?_cons_succ]
   ·rw [if_neg h,if_neg (by omega)]
theorem xA (sv:Value) (cs:List Value) (C:sv.cells=#[sv]) (B:cs.length=256) (A:Nat→Option (Nat×Nat)) (h0:A 0=some (0,1)) (h1:A 1=some (1,256)) (z:Array Value) (hz:z.size=257) :
    Instr.fill A z [(0,sv),(1,.agg cs.toArray)]=some (sv :: cs).toArray:=by
 unfold Instr.fill;rw [h0];simp only [C]
 rw [if_neg (by simp [hz])];unfold Instr.fill;rw [h1];have hc:(Value.agg cs.toArray).cells=cs.toArray:=rfl;simp only [hc]
 have e1:(Array.foldl (fun (a:Array Value) (x:Value×Nat)=>match x with | (c,j)=>a.setIfInBounds (0+j) c) z (#[sv]:Array Value).zipIdx)=z.setIfInBounds 0 sv:=by simp
 rw [e1,if_neg (by simp [hz,B])];unfold Instr.fill;congr 1
 have e2:(Array.foldl (fun (a:Array Value) (x:Value×Nat)=>match x with | (c,j)=>a.setIfInBounds (1+j) c) (z.setIfInBounds 0 sv) cs.toArray.zipIdx)=(cs.zipIdx 0).foldl (fun (a:Array Value) (p:Value×Nat)=>a.setIfInBounds (1+p.2) p.1) (z.setIfInBounds 0 sv):=by
  simp
 rw [e2];refine Array.ext_getElem? fun i=>?_;rw [(qS 1 cs 0 _ i).1];simp only [Array.size_setIfInBounds,hz,B]
 cases i with
 | zero=>simp [hz]
 | succ i =>
  by_cases h:i<256
  ·rw [if_pos ⟨by omega,by omega,by omega⟩];simp
  ·rw [if_neg (by omega),Array.getElem?_eq_none (by simp [hz];omega),Array.getElem?_eq_none (by simp [B];omega)]
theorem rG (sv:Value) (cs:List Value) (B:sv.cells=#[sv]) (C:cs.length=256) (w:World) :
    (Instr.build 81 #[(0,sv),(1,.agg cs.toArray)]).run Tryz.prog w=.ok (.agg (sv :: cs).toArray) w:=by
 have _hz:(Value.agg z58).cells=z58:=rfl;have hf:=xA sv cs B C (fun i=>([(0,Tryz.t37.size),(1,Tryz.t79.size)]:List (Nat×Nat))[i]?) (by kernel_rfl) (by kernel_rfl) z58 (by simp [z58,cn])
 first
  | (have A:(Value.agg Tryz.zeroCells81).cells=z58:=by kernel_rfl
     simp [Instr.build,Sem.run_bind,run_underlying Tryz.underlying81,Go.sizeOf,A,hf];done)
  | (simp [Instr.build,Sem.run_bind,sO,run_underlying Tryz.underlying81,Go.sizeOf,_hz,hf];done)
theorem jD {ops:Array Oper} {A:List Oper} {op:Oper} {a:Act} {w:World} {Q:Exit→Act→World→Prop} (C:op.guard=none) (x y:Operand) (ho:op.op=.build 81 #[(0,x),(1,y)]) (sv:Value) (cs:List Value) (hx:a.eval x=sv) (hy:a.eval y=.agg cs.toArray)
    (B:sv.cells=#[sv]) (D:cs.length=256) (h:wpList Tryz.prog ops Q A (a.put op.dst (.agg (sv :: cs).toArray)) w):wpList Tryz.prog ops Q (op :: A) a w:=
 wpList_plain C fun _ hK=>by
  have hb:=rG sv cs B D w;unfold Oper.wp execOp;simp only [ho,List.map_toArray,List.map_cons,List.map_nil,hx,hy,hb,Sem.run_bind,Result.andThen_ok]
  exact hK _ _ h
def eY:Code→List Bool→Code
 | c,[]=>c
 | .seq a _,false :: r=>eY a r
 | .seq _ b,true :: r=>eY b r
 | .cond _ a _,false :: r=>eY a r
 | .cond _ _ b,true :: r=>eY b r
 | .block _ b,_ :: r=>eY b r
 | .loop b,_ :: r=>eY b r
 | .scope b,_ :: r=>eY b r
 | c,_=>c
theorem StAt.congr {w:World} {k:Nat} {st:List Int} {sl A:Nat→Int} (h:StAt w k st sl) (he:∀j,j<256→A j=sl j):StAt w k st A:=
 ⟨h.obj,h.top,fun j hj=>by rw [he j hj];exact h.slot j hj⟩
def lK (a b:Nat→Int) (i:Nat):Nat→Int:=fun j=>if j<i then de a b j else a j
theorem rK (cs:List Value) (i:Nat) (v:Value) (h:cs[i]?=some v) (hi:i<256) (w:World):(Instr.index 79 (.agg cs.toArray) (.int .i64 (i:Int))).run Tryz.prog w=.ok v w:=by
 obtain ⟨i0,B,_,A,_⟩:=info_parts kS;have hh:0≤(i:Int)∧(i:Int)<((256:Nat):Int):=by omega
 simp [Instr.index,run_underlying Tryz.underlying79,run_underlying Tryz.underlying38,asIntOf,Go.part,isAgg,sizeOf,typeInfo,B,A,h,hh,hi]
theorem vx (a b:Nat→Int):lK a b 0=a:=by funext j;simp [lK]
theorem zE (a b:Nat→Int) (i:Nat):lK a b i i=a i:=by simp [lK]
theorem uL (a b:Nat→Int) (i:Nat) (h:a i=b i):lK a b (i+1)=lK a b i:=by
 funext j
 unfold lK;by_cases e:j<i
 ·rw [if_pos e,if_pos (by omega)]
 ·by_cases e2:j=i
  ·subst e2;rw [if_pos (by omega),if_neg e];simp [de,h]
  ·rw [if_neg e,if_neg (by omega)]
theorem sR (a b:Nat→Int) (i:Nat) (h:a i≠b i):lK a b (i+1)=dS (lK a b i) i 0:=by
 funext j
 unfold lK dS;by_cases e2:j=i
 ·subst e2;rw [if_pos (by omega),if_pos rfl];simp [de,h]
 ·rw [if_neg e2]
  show _=(if j<i then de a b j else a j)
  by_cases e:j<i
  ·rw [if_pos e,if_pos (by omega)]
  ·rw [if_neg e,if_neg (by omega)]
theorem wF {C:Code} (hC:C=eY ((Tryz.f10.body).getD .skip) [true,false,true,true,true,true,true,true,false,false,false,true,false,true,true,true,true,false,true,false,false,true,true,false,false,true,true,true,true,true,true,false,true]) {Q:Exit→Act→World→Prop} {u0 u1 u2 u3 u4 u5 u6 u7 u8 u9 k2 k1 hk hh k0 HZ HW HV HU HT HR HP HN HM HL HK HJ HI HF HE HD HC HB HA Hz Hy Hx Hw Hv Hu Ht Hs Hr Hq Hp Ho Hn Hm Hl Hk Hj Hi Hh Hg Hf He Hc Hb Ha H9 H8 H7 H6 H5 H4 H3 H2 H1 H0 hX hW hV hU hT hS hR hP hO hN hM hL hK hI hH hG hF hE hD hB hA hz hw hv hu ht hs hr hq hp hc hb ha h9 h8 h7 h6 h5 h4 h3 h2 h1 h0 z v u t r q p n S R P O N M L K J I H G F E D B A m l k f e d c b a Z Y X V U:Value} (ko:Nat) (hl:List Int) (oa sb:Nat→Int) {w:World} (h:StAt w ko hl oa)
    (hQ:∀(hk hh u122 S R P O N M L K J I H G F E D B A:Value) (w':World),On ko w w'→StAt w' ko hl (de oa sb)→Q .normal ⟨#[u0,u1,u2,u3,u4,u5,u6,u7,u8,u9,k2,.pointer (some ⟨ko,0,none⟩),k1,hk,hh,k0,HZ,HW,HV,HU,HT,HR,HP,HN,HM,HL,HK,HJ,HI,HF,HE,HD,HC,HB,HA,Hz,Hy,Hx,Hw,Hv,Hu,Ht,Hs,Hr,Hq,Hp,Ho,Hn,Hm,Hl,Hk,Hj,Hi,Hh,Hg,Hf,He,Hc,Hb,Ha,H9,H8,H7,H6,H5,H4,H3,H2,H1,H0,hX,hW,hV,hU,hT,hS,hR,hP,hO,hN,hM,hL,hK,hI,hH,hG,hF,hE,hD,hB,hA,hz,hw,hv,hu,ht,hs,hr,hq,hp,hc,hb,ha,h9,h8,h7,h6,h5,h4,h3,h2,h1,h0,z,v,u,t,r,q,p,n,.agg (bC sb).toArray,u122,S,R,P,O,N,M,L,K,J,I,H,G,F,E,D,B,A,m,l,k,f,e,d,c,b,a,Z,Y,X,V,U],[]⟩ w') :
    Code.wp Tryz.prog C Q ⟨#[u0,u1,u2,u3,u4,u5,u6,u7,u8,u9,k2,.pointer (some ⟨ko,0,none⟩),k1,hk,hh,k0,HZ,HW,HV,HU,HT,HR,HP,HN,HM,HL,HK,HJ,HI,HF,HE,HD,HC,HB,HA,Hz,Hy,Hx,Hw,Hv,Hu,Ht,Hs,Hr,Hq,Hp,Ho,Hn,Hm,Hl,Hk,Hj,Hi,Hh,Hg,Hf,He,Hc,Hb,Ha,H9,H8,H7,H6,H5,H4,H3,H2,H1,H0,hX,hW,hV,hU,hT,hS,hR,hP,hO,hN,hM,hL,hK,hI,hH,hG,hF,hE,hD,hB,hA,hz,hw,hv,hu,ht,hs,hr,hq,hp,hc,hb,ha,h9,h8,h7,h6,h5,h4,h3,h2,h1,h0,z,v,u,t,r,q,p,n,.agg (bC sb).toArray,.int .i64 0,S,R,P,O,N,M,L,K,J,I,H,G,F,E,D,B,A,m,l,k,f,e,d,c,b,a,Z,Y,X,V,U],[]⟩ w:=by
 simp only [Tryz.f10,eY,Option.getD] at hC
 subst hC;have HH:=zh h;clear h;obtain ⟨cs,hg⟩:∃cs,cs=bC sb:=⟨_,rfl⟩
 have k5:cs.length=256:=by rw [hg,cn]
 have HG:Hd (∀j,j<256→cs[j]?=some (.int .i64 (sb j))):=zh (fun j hj=>by rw [hg];exact eN _ _ hj);rw [←hg] at hQ ⊢;have HQ:=zh hQ;clear hg hQ;go_wp2_with fail
 go_loopg [122] 256 (fun g s W=>∃i:Nat,i+g=256∧s=.int .i64 i∧On ko w W∧StAt W ko hl (lK oa sb i))
 case atStart=>exact ⟨0,by omega,rfl,On.refl _ _,by rw [vx];exact HH.o⟩
 case round =>
  obtain ⟨i,hi,rfl,hm,he⟩:=hrel;have HO:=zh hm;have HS:=zh he
  cases gk with
  | zero =>
   obtain rfl:i=256:=by omega
   clear hm he hi;go_wp2_with fail
   exact HQ.o _ _ _ _ _ _ _ _ _ _ _ _ _ _ _ _ _ _ _ _ wr HO.o (HS.o.congr (fun j hj=>by simp [lK,hj]))
  | succ gk =>
   have hf:i<256:=by omega
   have k3:(i:Int)<256:=by omega
   have k4:(0:Int)≤(i:Int):=by omega
   have q1:=(he.slot i hf).1;rw [zE] at q1;have q2:=HG.o i hf;have q2:=rK cs i _ q2 hf;have q3:wr.frozen? ⟨ko,1+i,none⟩=false:=by obtain ⟨arr,ho⟩:=he.obj;exact af ho _
   generalize hx:oa i=x at q1;generalize hy:sb i=y at q2;have HX:=zh hx;have HY:=zh hy;clear hx hy hm he;have g1:IntKind.i64.wrap ((i:Int)+1)=(i:Int)+1:=IntWalk.i64_in _ (by omega);by_cases T:x=y
   ·have hd:(x !=y)=false:=by simp [T]
    have hn:=zh T;clear T;go_wp2_with fail
    go_roundg gk
    case measure=>omega
    case rel=>exact ⟨i+1,by omega,by go_num,HO.o,by rw [uL _ _ _ (by rw [HX.o,HY.o];exact hn.o)];exact HS.o⟩
   ·have hd:(x !=y)=true:=by simp [T]
    have hn:=zh T;clear T;go_wp2_with fail
    go_roundg gk
    case measure=>omega
    case rel=>exact ⟨i+1,by omega,by go_num,HO.o.set _ _,by rw [sR _ _ _ (by rw [HX.o,HY.o];exact hn.o)];exact HS.o.setSlot hf (by constructor<;>decide)⟩
end Vf
end Go.Proofs.YtmlgbkomdhcaoaaGreatDoor
