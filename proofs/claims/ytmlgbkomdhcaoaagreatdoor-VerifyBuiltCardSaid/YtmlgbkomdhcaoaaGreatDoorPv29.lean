/-
  VerifyBuilt: part 29 of its proof: see the last text.
-/
import Derived.Test.YtmlgbkomdhcaoaaGreatDoorPv28
import Derived.StillTailTactics
import Derived.Deep.RegionLawGrows
import Derived.Shelf.SlMaps.Clone
import Derived.Deep.LoopGhost
set_option maxRecDepth 100000
set_option maxHeartbeats 16000000
namespace Go.Proofs.YtmlgbkomdhcaoaaGreatDoor
section
open Go.RowKit
theorem zZ:∃i,Tryz.prog.info? 35=some i∧i.zero=some (.agg #[.int .i64 0,.int .i64 0])∧i.size=2∧i.bytes=16:=by
 have h:(Tryz.prog.info? 35).map (fun i=>(i.zero,i.size,i.bytes))=some (some (.agg #[.int .i64 0,.int .i64 0]),2,16):=by kernel_rfl
 obtain ⟨i,h1,h2⟩:=Option.map_eq_some_iff.1 h;simp only [Prod.mk.injEq] at h2
 exact ⟨i,h1,h2.1,h2.2.1,h2.2.2⟩
theorem Bm {W:World} {g:Nat} {a b:Value} {t:TypeId} {fz:Nat×Nat} (h:W.heap[g]?=some (.cells #[a,b] t fz)):∀j u,[a,b][j]?=some u→W.cell? ((⟨g,0,none⟩:Addr).add j)=some u:=fun j u hj=>by
 rw [Go.WideShapes.add_plain,Nat.zero_add];exact aa h (by simpa using hj)
def Led (w:World) (cl:Value) (MB:Nat) (A:Nat):Prop:=
 ∃b1 b2,cl=.func (.func 34) #[] #[.pointer (some ⟨b1,0,none⟩),.pointer (some ⟨b2,0,none⟩)]∧w.heap[b1]?=some (.cells #[.pointer (some ⟨MB,0,none⟩)] 61 (0,0))∧w.heap[b2]?=some (.cells #[.int .i64 (A:Int)] 3 (0,0))
theorem Led.fx {B M NB MB A:Nat} {w w':World} {cl:Value} (h:Led w cl MB A) (hf:Fx B M NB w w') (hn:∀t,¬OfTy w NB t):Led w' cl MB A:=by
 obtain ⟨b1,b2,h1,h2,h3⟩:=h;exact ⟨b1,b2,h1,hf.obj h2 (fun e=>hn _ ⟨_,_,e▸h2⟩) (by decide) (by decide) (by decide) (by decide),hf.obj h3 (fun e=>hn _ ⟨_,_,e▸h3⟩) (by decide) (by decide) (by decide) (by decide)⟩
def tX (B M MB TB NB:Nat) (fv:Value) (s:CS) (op a:Int) (w:World) (e:Ending) (w':World):Prop:=
 ∃cl,e=.returned cl∧Led w' cl MB s.ins.length∧MkAt B M w' MB TB NB fv (au op a s)∧Fx B M NB w w'
theorem MkAt.ins {B M MB TB NB:Nat} {w w9:World} {fv iv C:Value} {s:CS} (h:MkAt B M w MB TB NB fv s) (hm:w.heap[MB]?=some (.cells #[.pointer (some ⟨TB,0,none⟩),fv,iv,.int .i64 s.slots] 63 (0,0))) (hf:OnS (fun k=>iv.ownBlock=some k∧OfTy w k 35∧M≤k) w w9) (l:List Ins) (ho:w9.ownsRow M 35 2 C l.length (fI l)) :
    MkAt B M (w9.setCell ⟨MB,2,none⟩ C) MB TB NB fv ⟨l,s.slots,s.texts⟩∧Fx B M NB w (w9.setCell ⟨MB,2,none⟩ C):=by
 have G:Fx B M NB w w9:=hf.mono fun k hk=>⟨Nat.le_trans h.mm hk.2.2,.inr (.inr (.inr (.inl ⟨hk.2.1,hk.2.2⟩)))⟩
 have E:OfTy w MB 63:=⟨_,_,hm⟩
 have D:w9.heap[MB]?=some (.cells #[.pointer (some ⟨TB,0,none⟩),fv,iv,.int .i64 s.slots] 63 (0,0)):=hf.obj (fun q=>E.ne q.2.1 (by decide) rfl) hm;obtain ⟨tv,vs,h3,h4,h5⟩:=h.t;have F:OfTy w TB 56:=⟨_,_,h3⟩
 have I:=hf.obj (fun q=>F.ne q.2.1 (by decide) rfl) h3;have K:TB≠MB:=F.ne E (by decide);have L:NB≠MB:=fun e=>h.n.noTy _ (e▸E);have J:MapAt w9 NB (iC 0 s.texts):=h.n.keep (hf.block _ h.n.lt (fun q=>h.n.noTy _ q.2.1));have H:w9.ownsRow B 22 1 tv s.texts.length vs:=bG h4 fun k hk=>hf.block k (bD h4 hk).lt (fun q=>(bD h4 hk).ne q.2.1 (by decide) rfl);have A:Turns B M NB w9 MB:=⟨h.bm,.inr (.inl ⟨_,_,D⟩)⟩
 refine ⟨⟨h.bm,h.mm,h.ml,h.bt,h.bn,⟨C,aq D 2 _,bG ho fun k hk=>aj _ _ _ _ ((bD ho hk).ne ⟨_,_,D⟩ (by decide))⟩,⟨tv,vs,(aj _ _ _ _ K).trans I,bG H fun k hk=>aj _ _ _ _ ((bD H hk).ne ⟨_,_,D⟩ (by decide)),fun i hi=>?_⟩,J.keep (aj _ _ _ _ L)⟩,G.set A 2 _⟩;obtain ⟨v,q1,q2⟩:=h5 i hi;exact ⟨v,q1,q2.fx (G.set A 2 _) h.n.noTy⟩
theorem zA {B M MB TB NB g cp cv:Nat} {sv:Option Addr} {fv:Value} {s:CS} {op a:Int} {w w1 w9:World} (h:MkAt B M w MB TB NB fv s) (hb:Below w.heap.size w w1)
    (c1:w1.heap[w.heap.size]?=some (.cells #[.pointer (some ⟨MB,0,none⟩)] 61 (0,0))) (c2:w1.heap[w.heap.size+1]?=some (.cells #[.int .i64 (s.ins.length:Int)] 3 (0,0)))
    (hm:w1.heap[MB]?=some (.cells #[.pointer (some ⟨TB,0,none⟩),fv,.slice sv s.ins.length cv,.int .i64 s.slots] 63 (0,0))) (A:w1.ownsRow M 35 2 (.slice sv s.ins.length cv) s.ins.length (fI s.ins))
    (ho:w9.ownsRow M 35 2 (.slice (some ⟨g,0,none⟩) (s.ins.length+1) cp) (s.ins.length+1) (fI s.ins++[.int .i64 op,.int .i64 a])) (hg:World.grownBy (w1.alloc (.cells #[.int .i64 op,.int .i64 a] 35)) w9 (Value.slice sv s.ins.length cv).ownBlock) :
    tX B M MB TB NB fv s op a w (.returned (.func (.func 34) #[] #[.pointer (some ⟨w.heap.size,0,none⟩),.pointer (some ⟨w.heap.size+1,0,none⟩)])) (w9.setCell ⟨MB,2,none⟩ (.slice (some ⟨g,0,none⟩) (s.ins.length+1) cp)):=by
 have C:OnS (fun k=>(Value.slice sv s.ins.length cv).ownBlock=some k∧OfTy w1 k 35∧M≤k) w1 w9:=(OnS.of_below (ag (Below.refl _ _) _)).trans (OnS.of_grown hg fun k hk=>⟨hk,bD A hk,(aP A hk).1⟩);have h1:=h.below hb;obtain ⟨q1,q2⟩:=MkAt.ins h1 hm C (s.ins++[⟨op,a⟩]) (by rw [uj,List.length_append];exact ho);exact ⟨_,rfl,Led.fx ⟨_,_,rfl,c1,c2⟩ q2 h1.n.noTy,q1,(Fx.of_below hb).trans q2⟩
theorem aU (B M MB TB NB:Nat) (fv:Value) (s:CS) (op a:Int) (w:World) (h:MkAt B M w MB TB NB fv s) (hn:s.ins.length≤1000000) :
    Calls Tryz.prog 15 #[.pointer (some ⟨MB,0,none⟩),.int .i64 op,.int .i64 a] w (tX B M MB TB NB fv s op a w):=by
 obtain ⟨iv,hm,ho⟩:=h.m;obtain ⟨i0,N,Q,P,O⟩:=zZ;obtain ⟨sv,cv,T,_,c,_,_⟩:=bh ho;subst T;have HI:=zh N;have HM:=zh hm;have HO:=zh ho;have HW:=zh h;have HN:=zh hn;have m2:w.cell? ⟨MB,2,none⟩=some (.slice sv s.ins.length cv):=aa hm (j:=2) rfl;have f2:w.frozen? ⟨MB,2,none⟩=false:=af hm 2;have S:=ae hm;have W:Hd (some MB≠(Value.slice sv s.ins.length cv).ownBlock):=zh fun e=>(bD ho e.symm).ne (⟨_,_,hm⟩:OfTy w MB 63) (by decide) rfl;clear h ho hm N hn;go_enter Tryz.func15,Tryz.ntmps15
 go_wp2_with fail
 have I:Hd (Below w.heap.size w ((w.alloc (.cells #[.pointer (some ⟨MB,0,none⟩)] 61)).alloc (.cells #[.int .i64 (s.ins.length:Int)] 3))):=zh (ag (ag (Below.refl _ _) _) _);have H:Hd (((w.alloc (.cells #[.pointer (some ⟨MB,0,none⟩)] 61)).alloc (.cells #[.int .i64 (s.ins.length:Int)] 3)).heap[w.heap.size]?=some (.cells #[.pointer (some ⟨MB,0,none⟩)] 61 (0,0))):=zh (az _ _ _ _ (am _ _ _ rfl));have b:Hd (((w.alloc (.cells #[.pointer (some ⟨MB,0,none⟩)] 61)).alloc (.cells #[.int .i64 (s.ins.length:Int)] 3)).heap[w.heap.size+1]?=some (.cells #[.int .i64 (s.ins.length:Int)] 3 (0,0))):=zh (am _ _ _ (ah _ _));generalize ((w.alloc (.cells #[.pointer (some ⟨MB,0,none⟩)] 61)).alloc (.cells #[.int .i64 (s.ins.length:Int)] 3))=w1 at *;clear m2 f2;have f:=zh (HW.o.below I.o);have G:Hd (w1.heap[MB]?=some (.cells #[.pointer (some ⟨TB,0,none⟩),fv,.slice sv s.ins.length cv,.int .i64 s.slots] 63 (0,0))):=zh ((I.o.block _ S).trans HM.o);have K:=zh (cS HO.o (Stays.of_below I.o));have m2:w1.cell? ⟨MB,2,none⟩=some (.slice sv s.ins.length cv):=aa G.o (j:=2) rfl;have f2:w1.frozen? ⟨MB,2,none⟩=false:=af G.o 2;have c0:w1.cell? ⟨w.heap.size,0,none⟩=some (.pointer (some ⟨MB,0,none⟩)):=aa H.o (j:=0) rfl;have E:=ae G.o;have X:=zh (am w1 (.cells #[.int .i64 op,.int .i64 a] 35) w1.heap.size rfl);have U:w.heap.size<w1.heap.size:=ae H.o;have L:Hd (some w.heap.size≠(Value.slice sv s.ins.length cv).ownBlock):=zh fun e=>(bD K.o e.symm).ne (⟨_,_,H.o⟩:OfTy w1 w.heap.size 61) (by decide) rfl;have J:M≤w1.heap.size:=Nat.le_trans HW.o.ml (Nat.le_of_lt E);go_region_law (refine step_append_lies _ rfl _ _ _ rfl M 35 i0 _ 2 16 Tryz.underlying36 HI.o Q P O rfl (by decide) (.slice sv s.ins.length cv) s.ins.length (fI s.ins) rfl (K.o.alloc _) ⟨w1.heap.size,0,none⟩ 1 1 [.int .i64 op,.int .i64 a] rfl rfl (Bm X.o) (by intro u hu;simp at hu;rcases hu with rfl | rfl<;>rfl) (by decide) (by have:=HN.o;unfold maxLen;omega) (by have:=HN.o;omega) (Nat.le_trans J (by show _≤(w1.alloc _).heap.size;simp only [ah];omega)) _ rfl ?_;intro g cp w9 D A F R;have C:World.grownBy (w1.alloc (.cells #[.int .i64 op,.int .i64 a] 35)) w9 (Value.slice sv s.ins.length cv).ownBlock:=⟨A.os,A.tape,A.output,A.size,A.block⟩;have z2:w9.heap[MB]?=some (.cells #[.pointer (some ⟨TB,0,none⟩),fv,.slice sv s.ins.length cv,.int .i64 s.slots] 63 (0,0)):=(C.block MB (Nat.lt_of_lt_of_le E (by simp only [ah];omega)) W.o).trans (az _ _ _ _ G.o);have x2:=aa z2 (j:=2) rfl;have x0:w9.cell? ⟨w.heap.size,0,none⟩=some (.pointer (some ⟨MB,0,none⟩)):=aa ((C.block w.heap.size (Nat.lt_of_lt_of_le U (by simp only [ah];omega)) L.o).trans (az _ _ _ _ H.o)) (j:=0) rfl;have y2:=af z2 2;have Z:=zh C;have V:=zh D;have Y:=zh F;have d:=zh z2;clear A C D F z2)
 all_goals
  go_wp2_with fail
  go_ret
  exact zA HW.o I.o H.o b.o G.o K.o V.o Z.o
theorem mo (B M MB TB NB:Nat) (fv:Value) (s:CS) (w:World) (h:MkAt B M w MB TB NB fv s) (hn:s.ins.length≤1000000) :
    Calls Tryz.prog 67 #[.pointer (some ⟨MB,0,none⟩)] w fun e w'=>e=.returned (.tuple #[])∧MkAt B M w' MB TB NB fv (au 1 1 s)∧Fx B M NB w w':=by
 have HA:=zh (aU B M MB TB NB fv s 1 1 w h hn);clear h hn;go_enter Tryz.func67,Tryz.ntmps67
 go_wp2_with fail
 refine HA.o.mono ?_;rintro e w2 ⟨cl,rfl,_,hm,hf⟩;have HH:=zh (And.intro hm hf);clear hm hf;go_wp2_with fail
 go_end0
 exact ⟨rfl,HH.o⟩
theorem MkAt.setSlots {B M MB TB NB:Nat} {w:World} {fv:Value} {s:CS} (h:MkAt B M w MB TB NB fv s) (n:Int):MkAt B M (w.setCell ⟨MB,3,none⟩ (.int .i64 n)) MB TB NB fv ⟨s.ins,n,s.texts⟩∧Fx B M NB w (w.setCell ⟨MB,3,none⟩ (.int .i64 n)):=by
 obtain ⟨iv,hm,ho⟩:=h.m;obtain ⟨tv,vs,h3,h4,h5⟩:=h.t;have A:OfTy w MB 63:=⟨_,_,hm⟩
 have D:OfTy w TB 56:=⟨_,_,h3⟩
 have C:Fx B M NB w (w.setCell ⟨MB,3,none⟩ (.int .i64 n)):=(Fx.refl B M NB w).set h.mTurns 3 _;refine ⟨⟨h.bm,h.mm,h.ml,h.bt,h.bn,⟨iv,aq hm 3 _,bG ho fun k hk=>aj _ _ _ _ ((bD ho hk).ne A (by decide))⟩,⟨tv,vs,(aj _ _ _ _ (D.ne A (by decide))).trans h3,bG h4 fun k hk=>aj _ _ _ _ ((bD h4 hk).ne A (by decide)),fun i hi=>?_⟩,h.n.keep (aj _ _ _ _ (fun e=>by have e':NB=MB:=e;exact h.n.noTy _ (e'▸A)))⟩,C⟩;obtain ⟨v,q1,q2⟩:=h5 i hi;exact ⟨v,q1,q2.fx C h.n.noTy⟩
theorem ku (B M MB TB NB:Nat) (fv:Value) (s:CS) (w:World) (h:MkAt B M w MB TB NB fv s) (h0:0≤s.slots) (hn:s.slots≤1000000) :
    Calls Tryz.prog 13 #[.pointer (some ⟨MB,0,none⟩)] w fun e w'=>e=.returned (.int .i64 s.slots)∧MkAt B M w' MB TB NB fv (bw s)∧Fx B M NB w w':=by
 have HS:=zh (h.setSlots (s.slots+1));obtain ⟨iv,hm,ho⟩:=h.m;have m3:w.cell? ⟨MB,3,none⟩=some (.int .i64 s.slots):=aa hm (j:=3) rfl;have f3:w.frozen? ⟨MB,3,none⟩=false:=af hm 3;clear h hm ho;go_enter Tryz.func13,Tryz.ntmps13
 go_wp2_with fail
 go_ret
 exact ⟨by go_num,HS.o⟩
theorem MkAt.led {B M MB TB NB g cp:Nat} {w:World} {fv:Value} {s:CS} {A:Nat} (h:MkAt B M w MB TB NB fv s) (hm:w.heap[MB]?=some (.cells #[.pointer (some ⟨TB,0,none⟩),fv,.slice (some ⟨g,0,none⟩) s.ins.length cp,.int .i64 s.slots] 63 (0,0))) (ho:w.ownsRow M 35 2 (.slice (some ⟨g,0,none⟩) s.ins.length cp) s.ins.length (fI s.ins)) (ha:A<s.ins.length) :
    MkAt B M (w.setCell ⟨g,A*2+1,none⟩ (.int .i64 (s.ins.length:Int))) MB TB NB fv (bW A s)∧Fx B M NB w (w.setCell ⟨g,A*2+1,none⟩ (.int .i64 (s.ins.length:Int))):=by
 obtain ⟨tv,vs,h3,h4,h5⟩:=h.t;have C:OfTy w g 35:=bD ho rfl;have D:=(aP ho rfl).1;have G:OfTy w MB 63:=⟨_,_,hm⟩
 have F:OfTy w TB 56:=⟨_,_,h3⟩
 have E:Fx B M NB w (w.setCell ⟨g,A*2+1,none⟩ (.int .i64 (s.ins.length:Int))):=(Fx.refl B M NB w).set ⟨Nat.le_trans h.mm D,.inr (.inr (.inr (.inl ⟨C,D⟩)))⟩ _ _;have hp:=ju ho (A*2+1) (.int .i64 (s.ins.length:Int));rw [qY _ _ _ ha] at hp;refine ⟨⟨h.bm,h.mm,h.ml,h.bt,h.bn,⟨.slice (some ⟨g,0,none⟩) s.ins.length cp,(aj _ _ _ _ (G.ne C (by decide))).trans ?_,?_⟩,⟨tv,vs,(aj _ _ _ _ (F.ne C (by decide))).trans h3,bG h4 fun k hk=>aj _ _ _ _ ((bD h4 hk).ne C (by decide)),fun i hi=>?_⟩,h.n.keep (aj _ _ _ _ (fun e=>by have e':NB=g:=e;exact h.n.noTy _ (e'▸C)))⟩,E⟩
 ·exact hm
 ·show World.ownsRow _ _ _ _ _ (s.ins.set A _).length _
  rw [List.length_set];exact hp
 ·obtain ⟨v,q1,q2⟩:=h5 i hi
  exact ⟨v,q1,q2.fx E h.n.noTy⟩
theorem gm (B M MB TB NB b1 b2:Nat) (fv:Value) (s:CS) (A:Nat) (w:World) (h:MkAt B M w MB TB NB fv s) (ha:A<s.ins.length) (hn:s.ins.length≤1000000)
    (h1:w.heap[b1]?=some (.cells #[.pointer (some ⟨MB,0,none⟩)] 61 (0,0))) (h2:w.heap[b2]?=some (.cells #[.int .i64 (A:Int)] 3 (0,0))) :
    Calls Tryz.prog 34 #[.pointer (some ⟨b1,0,none⟩),.pointer (some ⟨b2,0,none⟩)] w fun e w'=>e=.returned (.tuple #[])∧MkAt B M w' MB TB NB fv (bW A s)∧Fx B M NB w w':=by
 obtain ⟨iv,hm,ho⟩:=h.m;obtain ⟨sv,cv,F,_,G,_,C⟩:=bh ho;subst F;obtain ⟨g,rfl,_,_,_⟩:=C (by omega);have HS:=zh (h.led hm ho ha);have D:=gM ho;have c0:w.cell? ⟨b1,0,none⟩=some (.pointer (some ⟨MB,0,none⟩)):=aa h1 (j:=0) rfl;have c1:w.cell? ⟨b2,0,none⟩=some (.int .i64 (A:Int)):=aa h2 (j:=0) rfl;have m2:w.cell? ⟨MB,2,none⟩=some (.slice (some ⟨g,0,none⟩) s.ins.length cv):=aa hm (j:=2) rfl;have e1:w.cell? ⟨g,A*2+1,none⟩=some (.int .i64 (s.ins.getD A default).a):=D.1 _ _ (lQ s.ins A ha).2;have f1:w.frozen? ⟨g,A*2+1,none⟩=false:=D.2 _;have g1:(A:Int)<(s.ins.length:Int):=by omega
 have g0:(0:Int)≤(A:Int):=by omega
 have E:s.ins.length≤9223372036854775807:=by omega
 clear h hm ho D h1 h2 C;go_enter Tryz.func34,Tryz.ntmps34
 go_still_tail 12,(by kernel_rfl)
 go_wp2_with fail
 go_end0
 exact ⟨rfl,HS.o.1.below (aB (Below.refl _ _)),HS.o.2.drew⟩
end
section
open Go.RowKit Go.MapKept
theorem gS:Tryz.prog.underlying 54=some (.map 9 2):=by kernel_rfl
theorem iZ:Tryz.prog.underlying 9=some .string:=by kernel_rfl
theorem qj (w:World):(zeroValue 2).run Tryz.prog w=.ok (.int .i64 0) w:=by kernel_rfl
theorem As:∃i,Tryz.prog.info? 22=some i∧i.zero=some (.slice none 0 0)∧i.size=1∧i.bytes=24:=by
 have h:(Tryz.prog.info? 22).map (fun i=>(i.zero,i.size,i.bytes))=some (some (.slice none 0 0),1,24):=by kernel_rfl
 obtain ⟨i,h1,h2⟩:=Option.map_eq_some_iff.1 h;simp only [Prod.mk.injEq] at h2
 exact ⟨i,h1,h2.1,h2.2.1,h2.2.2⟩
theorem qE (w:World) (e:TypeId) (t:ByteArray):Below w.heap.size w (Lib.bytesWorld w e t):=
 ⟨by simp [Lib.bytesWorld,World.freeze];rfl,by simp [Lib.bytesWorld,World.freeze],by simp [Lib.bytesWorld,World.freeze];rfl,by rw [Lib.bytesWorld_size];omega,fun i hi=>Lib.bytesWorld_at_old w e t i hi⟩
theorem xZ (B:Nat) (w:World) (t:ByteArray) (hB:B≤w.heap.size):ByAt B (Lib.bytesWorld w 5 t) (.slice (some ⟨w.heap.size,0,none⟩) t.size (grownCap w t.size 0 5)) t:=
 ⟨w.heap.size,_,rfl,⟨grownCap_ge _ _ _ _,grownCap_le_maxLen _ _ _ _⟩,hB,⟨_,_,Lib.bytesWorld_at_new w _ t⟩,fun i hi=>Lib.bytesWorld_cell w _ t i hi⟩
theorem MkAt.text {B M MB TB NB g cp:Nat} {w w9:World} {fv tv tx:Value} {vs:List Value} {s:CS} {t:ByteArray} (h:MkAt B M w MB TB NB fv s) (h3:w.heap[TB]?=some (.cells #[tv,.map (some NB)] 56 (0,0))) (h4:w.ownsRow B 22 1 tv s.texts.length vs)
    (h5:∀i,i<s.texts.length→∃v,vs[i]?=some v∧ByAt B w v (s.texts.getD i default)) (hm:lL s.texts t=false)
    (hf:OnS (fun k=>k=NB∨(tv.ownBlock=some k∧OfTy w k 22∧B≤k)) w w9) (hn:MapAt w9 NB (iC 0 (s.texts++[t]))) (hx:ByAt B w9 tx t)
    (ho:w9.ownsRow B 22 1 (.slice (some ⟨g,0,none⟩) (s.texts.length+1) cp) (s.texts.length+1) (vs++[tx])) :
    MkAt B M (w9.setCell ⟨TB,0,none⟩ (.slice (some ⟨g,0,none⟩) (s.texts.length+1) cp)) MB TB NB fv (cR t s)∧Fx B M NB w (w9.setCell ⟨TB,0,none⟩ (.slice (some ⟨g,0,none⟩) (s.texts.length+1) cp)):=by
 obtain ⟨iv,h1,h2⟩:=h.m;have R:Fx B M NB w w9:=hf.mono fun k hk=>hk.elim (fun e=>⟨by rw [e];exact h.bn,.inl e⟩) (fun e=>⟨e.2.2,.inr (.inr (.inr (.inr e.2.1)))⟩);have Q:OfTy w MB 63:=⟨_,_,h1⟩
 have N:OfTy w TB 56:=⟨_,_,h3⟩
 have E:∀{k:Nat} {ty:TypeId},OfTy w k ty→ty≠22→¬(k=NB∨(tv.ownBlock=some k∧OfTy w k 22∧B≤k)):=fun {k ty} ht P q=>q.elim (fun e=>h.n.noTy _ (e▸ht)) (fun e=>ht.ne e.2.1 P rfl);have I:=hf.obj (E Q (by decide)) h1;have G:=hf.obj (E N (by decide)) h3;have F:OfTy w9 MB 63:=⟨_,_,I⟩
 have A:OfTy w9 TB 56:=⟨_,_,G⟩
 have C:Turns B M NB w9 TB:=⟨h.bt,.inr (.inr (.inl A))⟩
 have H:∀ty,¬OfTy w9 NB ty:=hn.noTy;have D:=R.set C 0 (.slice (some ⟨g,0,none⟩) (s.texts.length+1) cp);have O:Fx B M NB w9 (w9.setCell ⟨TB,0,none⟩ (.slice (some ⟨g,0,none⟩) (s.texts.length+1) cp)):=(Fx.refl B M NB w9).set C 0 _;have e:cR t s=⟨s.ins,s.slots,s.texts++[t]⟩:=by unfold cR;rw [hm];rfl
 have K:w9.ownsRow M 35 2 iv s.ins.length (fI s.ins):=bG h2 fun k hk=>hf.block k (bD h2 hk).lt (E (bD h2 hk) (by decide));rw [e];refine ⟨⟨h.bm,h.mm,h.ml,h.bt,h.bn,⟨iv,(aj _ _ _ _ (F.ne A (by decide))).trans I,bG K fun k hk=>aj _ _ _ _ ((bD K hk).ne A (by decide))⟩,⟨_,vs++[tx],aq G 0 _,?_,fun i hi=>?_⟩,hn.keep (aj _ _ _ _ (fun e=>by have e':NB=TB:=e;exact H _ (e'▸A)))⟩,D⟩
 ·show World.ownsRow _ _ _ _ _ (s.texts++[t]).length _
  rw [List.length_append];exact bG ho fun k hk=>aj _ _ _ _ ((bD ho hk).ne A (by decide))
 ·have L:vs.length=s.texts.length:=by have:=h4.1;omega
  by_cases J:i<s.texts.length
  ·obtain ⟨v,q1,q2⟩:=h5 i J
   refine ⟨v,by rw [List.getElem?_append_left (by omega)];exact q1,?_⟩;have eg:(s.texts++[t]).getD i default=s.texts.getD i default:=jN _ _ _ J;show ByAt B _ v ((s.texts++[t]).getD i default)
   rw [eg];exact q2.fx D h.n.noTy
  ·have S:i<s.texts.length+1:=by simpa using hi
   obtain rfl:i=s.texts.length:=by omega
   refine ⟨tx,by rw [List.getElem?_append_right (by omega),L,Nat.sub_self];rfl,?_⟩;show ByAt B _ tx ((s.texts++[t]).getD s.texts.length default)
   rw [jQ];exact hx.fx O H
theorem vY {B e sz n:Nat} {w w9:World} {v:Value} {xs:List Value} (hg:w.grownBy w9 v.ownBlock) (ho:w.ownsRow B e sz v n xs) {b:Nat} {t:TypeId} (ht:OfTy w b t) (A:t≠e):w9.heap[b]?=w.heap[b]?:=
 hg.block b ht.lt (fun q=>ht.ne (bD ho q.symm) A rfl)
theorem xT (B M MB TB NB:Nat) (fv:Value) (s:CS) (t:ByteArray) (w:World) (h:MkAt B M w MB TB NB fv s) (hl:s.texts.length≤1000000) :
    Calls Tryz.prog 94 #[.pointer (some ⟨TB,0,none⟩),.string t] w fun e w'=>e=.returned (.int .i64 (dR (cR t s).texts t:Nat))∧MkAt B M w' MB TB NB fv (cR t s)∧Fx B M NB w w':=by
 obtain ⟨tv,vs,h3,h4,h5⟩:=h.t;obtain ⟨sv,cv,V,_,x,_,_⟩:=bh h4;subst V;obtain ⟨i0,K,U,T,S⟩:=As;have q:=fO h.n gS iZ (qj w) t;rw [mh] at q;obtain ⟨t0,t1,-⟩:=css h3;have HW:=zh h
 cases hm:lL s.texts t
 ·rw [hm] at q
  have HM:=zh hm;have hp:=i9 h.n gS iZ t (.int .i64 (s.texts.length:Int));have O:=zh (jZ w NB t (.int .i64 (s.texts.length:Int)))
  have Q:Hd (MapAt (gI w NB t (.int .i64 (s.texts.length:Int))) NB (iC 0 (s.texts++[t]))):=zh (by
    have q2:=lP h.n t (.int .i64 (s.texts.length:Int));have q3:=oI s.texts 0 t hm;rw [Nat.zero_add] at q3;rw [q3] at q2;exact q2)
  generalize gI w NB t (.int .i64 (s.texts.length:Int))=w1 at *;have X:OfTy w TB 56:=⟨_,_,h3⟩
  have a:TB≠NB:=fun e=>h.n.noTy _ (e▸X);have G:=zh (O.o.obj a h3);have t0':w1.cell? ⟨TB,0,none⟩=some (.slice sv s.texts.length cv):=aa G.o (j:=0) rfl;have c:=fun W=>Lib.run_convert_string_bytes (P:=Tryz.prog) W 9 22 t iZ (e:=5) (by kernel_rfl) (by kernel_rfl);have r:=zh h3;have D:=zh h4;have p:=zh h5;have HI:=zh K;have HL:=zh hl;have E1:dR (cR t s).texts t=s.texts.length:=by unfold cR;rw [hm];exact oK _ _ hm
  have v:=zh E1;clear h h3 h4 h5 K hl E1 hm;go_enter Tryz.func94,Tryz.ntmps94
  go_upto_region 5 with fail
  have E:Hd (Below w1.heap.size w1 ((Lib.bytesWorld w1 5 t).alloc (.cells #[.slice (some ⟨w1.heap.size,0,none⟩) t.size (grownCap w1 t.size 0 5)] 22))):=zh (ag (qE w1 _ t) _);have H:Hd (World.ownsRow ((Lib.bytesWorld w1 5 t).alloc (.cells #[.slice (some ⟨w1.heap.size,0,none⟩) t.size (grownCap w1 t.size 0 5)] 22)) B 22 1 (.slice sv s.texts.length cv) s.texts.length vs):=zh (cS (bG D.o fun k hk=>O.o.block k (bD D.o hk).lt (fun e=>by injection e with e;exact HW.o.n.noTy _ (e▸bD D.o hk))) (Stays.of_below E.o));have m:Hd (((Lib.bytesWorld w1 5 t).alloc (.cells #[.slice (some ⟨w1.heap.size,0,none⟩) t.size (grownCap w1 t.size 0 5)] 22)).heap[(Lib.bytesWorld w1 5 t).heap.size]?=some (.cells #[.slice (some ⟨w1.heap.size,0,none⟩) t.size (grownCap w1 t.size 0 5)] 22 (0,0))):=zh (am _ _ _ rfl);have F:Hd (((Lib.bytesWorld w1 5 t).alloc (.cells #[.slice (some ⟨w1.heap.size,0,none⟩) t.size (grownCap w1 t.size 0 5)] 22)).heap[TB]?=_):=zh ((E.o.block _ (ae G.o)).trans G.o);have l:Hd (some TB≠(Value.slice sv s.texts.length cv).ownBlock):=zh fun e=>(bD H.o e.symm).ne (⟨_,_,F.o⟩:OfTy _ TB 56) (by decide) rfl;have N:B≤((Lib.bytesWorld w1 5 t).alloc (.cells #[.slice (some ⟨w1.heap.size,0,none⟩) t.size (grownCap w1 t.size 0 5)] 22)).heap.size:=Nat.le_trans HW.o.bt (Nat.le_of_lt (ae F.o));have hl:=HL.o;go_wp2_with (refine wpList_append_lies _ rfl _ _ _ rfl B 22 i0 _ 1 24 Tryz.underlying25 HI.o U T S rfl (by decide) _ s.texts.length vs rfl H.o ⟨(Lib.bytesWorld w1 5 t).heap.size,0,none⟩ 1 1 [.slice (some ⟨w1.heap.size,0,none⟩) t.size (grownCap w1 t.size 0 5)] rfl rfl (by intro j u hj;rw [Go.WideShapes.add_plain,Nat.zero_add];exact aa m.o (by simpa using hj)) (by intro u hu;simp at hu;subst hu;rfl) (by decide) (by unfold maxLen;omega) (by omega) N _ rfl ?_;intro g9 cp9 w9 C A L I;have z9:=(A.block TB (ae F.o) l.o).trans F.o;have x9:=aa z9 (j:=0) rfl;have y9:=af z9 0;have g:=zh C;have R:=zh A;clear C A L I z9)
  go_ret
  have Y:OnS (fun k=>k=NB∨((Value.slice sv s.texts.length cv).ownBlock=some k∧OfTy w k 22∧B≤k)) w w9:=
   ((OnS.of_on O.o (.inl rfl)).trans (OnS.of_below E.o)).trans (OnS.of_grown R.o fun k hk=>.inr ⟨hk,bD D.o hk,(aP D.o hk).1⟩)
  have d:=xZ B w1 t (Nat.le_trans HW.o.bt (Nat.le_of_lt (ae G.o)))
  have f:ByAt B w9 (.slice (some ⟨w1.heap.size,0,none⟩) t.size (grownCap w1 t.size 0 5)) t:=by
   obtain ⟨b,cap,e1,e2,e3,e4,e5⟩:=d;injection e1 with e1 _ e6
   injection e1 with e1
   injection e1 with e1
   subst e1 e6;have e7:=(Below.heap_alloc (Lib.bytesWorld w1 5 t) (.cells #[.slice (some ⟨w1.heap.size,0,none⟩) t.size (grownCap w1 t.size 0 5)] 22) _ e4.lt)
   have e8:=vY R.o H.o (e4.keep e7) (by decide);exact ⟨_,_,rfl,e2,e3,(e4.keep e7).keep e8,fun i hi=>(World.cell?_of_block (w:=Lib.bytesWorld w1 5 t) (e8.trans e7)).trans (e5 i hi)⟩
  refine ⟨by rw [v.o];rfl,HW.o.text r.o D.o p.o HM.o Y ?_ f g.o⟩;have J:=Q.o.lt;have Z:∀ty,¬OfTy w1 NB ty:=Q.o.noTy;refine Q.o.keep ((R.o.block NB (Nat.lt_of_lt_of_le J E.o.size) (fun e=>?_)).trans (E.o.block _ J));exact Z _ ((bD H.o e.symm).keep (E.o.block _ J).symm)
 ·rw [hm] at q
  have E1:cR t s=s:=by unfold cR;rw [hm];rfl
  rw [E1];rw [Nat.zero_add] at q;clear h h3 h4 h5 K hl E1 hm;go_enter Tryz.func94,Tryz.ntmps94
  go_wp2_with fail
  go_ret
  exact ⟨rfl,HW.o,Fx.refl _ _ _ _⟩
end
end Go.Proofs.YtmlgbkomdhcaoaaGreatDoor
