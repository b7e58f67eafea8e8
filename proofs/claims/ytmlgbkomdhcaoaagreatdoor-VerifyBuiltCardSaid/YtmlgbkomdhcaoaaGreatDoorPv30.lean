/-
  VerifyBuilt: part 30 of its proof: see the last text.
-/
import Derived.Test.YtmlgbkomdhcaoaaGreatDoorPv28
import Derived.Test.YtmlgbkomdhcaoaaGreatDoorPv12
import Derived.Deep.LoopGhost
import Derived.Shelf.SlMaps.Clone
import Derived.Test.YtmlgbkomdhcaoaaGreatDoorPv17
import Derived.Test.YtmlgbkomdhcaoaaGreatDoorPv29
import Derived.Test.YtmlgbkomdhcaoaaGreatDoorPv01
set_option maxRecDepth 100000
set_option maxHeartbeats 16000000
namespace Go.Proofs.YtmlgbkomdhcaoaaGreatDoor
section
section
open Go.RowKit
def bM (f:Flt):Value:=.agg #[.int .i64 f.1,.int .i64 f.2]
theorem dx (b:Bool) (e0 A:Int) (w:World):Calls Tryz.prog 64 #[.bool b,.int .i64 e0,.int .i64 A] w fun e w'=>e=.returned (bM (noC b e0 A))∧Below w.heap.size w w':=by
 cases b
 ·go_enter Tryz.func64,Tryz.ntmps64
  go_wp2_with fail
  refine bodyPost_ret (v:=.agg #[.int .i64 e0,.int .i64 A]) (by simp [results,Tryz.results64,go_sem]) rfl ⟨rfl,?_⟩;repeat (first | exact Below.refl _ _ | refine Below.setCell ?_ (Nat.le_refl _) _ | refine Below.alloc ?_ (Nat.le_refl _) _)
 ·go_enter Tryz.func64,Tryz.ntmps64
  go_wp2_with fail
  refine bodyPost_ret (v:=.agg #[.int .i64 0,.int .i64 0]) (by simp [results,Tryz.results64,go_sem]) rfl ⟨rfl,?_⟩;repeat (first | exact Below.refl _ _ | refine Below.setCell ?_ (Nat.le_refl _) _ | refine Below.alloc ?_ (Nat.le_refl _) _)
theorem xP (op num pos:Int) (text:ByteArray) (s:Option Addr) (n c:Nat) (w:World):Calls Tryz.prog 130 #[.agg #[.int .i64 op,.int .i64 num,.string text,.slice s n c,.int .i64 pos]] w fun e w'=>e=.returned (.int .i64 (cw op))∧Below w.heap.size w w':=by
 go_enter Tryz.func130,Tryz.ntmps130
 go_wp2
 all_goals
  go_ret
  refine ⟨dq ?_,ag (Below.refl _ _) _⟩;unfold cw;simp_all
theorem sW (s:ByteArray) (w:World):Calls Tryz.prog 138 #[.string s] w fun e w'=>e=.returned (.tuple #[.int .i64 (cX s.toList).1,.int .i64 (cX s.toList).2])∧w=w':=by
 generalize hl:s.toList=l;have HS:=zh hl
 have h:(l=[45]∨l=[42]∨l=[47]∨l=[37])∨(l=[60]∨l=[60,61]∨l=[62]∨l=[62,61])∨(l=[38,38]∨l=[124,124])∨(cX l=(0,0)∧(l==[45])=false∧(l==[42])=false∧(l==[47])=false∧(l==[37])=false∧(l==[60])=false∧(l==[60,61])=false∧(l==[62])=false∧(l==[62,61])=false∧(l==[38,38])=false∧(l==[124,124])=false):=by
  by_cases h1:l=[45]∨l=[42]∨l=[47]∨l=[37]
  ·exact .inl h1
  by_cases h2:l=[60]∨l=[60,61]∨l=[62]∨l=[62,61]
  ·exact .inr (.inl h2)
  by_cases h3:l=[38,38]∨l=[124,124]
  ·exact .inr (.inr (.inl h3))
  refine .inr (.inr (.inr ⟨by unfold cX;rw [if_neg h1,if_neg h2,if_neg h3],?_⟩));simp only [not_or] at h1 h2 h3
  simp [h1,h2,h3]
 rcases h with (h | h | h | h) | (h | h | h | h) | (h | h) | ⟨h0,h1,h2,h3,h4,h5,h6,h7,h8,h9,A⟩
 all_goals
  try subst h
  go_enter Tryz.func138,Tryz.ntmps138
  go_wp2_with fail
  first
   | refine bodyPost_ret (v:=.tuple #[.int .i64 1,.int .i64 1]) (by simp [results,Tryz.results138,go_sem]) rfl ⟨rfl,rfl⟩
   | refine bodyPost_ret (v:=.tuple #[.int .i64 1,.int .i64 2]) (by simp [results,Tryz.results138,go_sem]) rfl ⟨rfl,rfl⟩
   | refine bodyPost_ret (v:=.tuple #[.int .i64 2,.int .i64 2]) (by simp [results,Tryz.results138,go_sem]) rfl ⟨rfl,rfl⟩
   | refine bodyPost_ret (v:=.tuple #[.int .i64 0,.int .i64 0]) (by simp [results,Tryz.results138,go_sem]) rfl ⟨by rw [h0],rfl⟩
def jK (op:Int) (n b o:Nat):Bool:=
 if op=1∨op=2∨op=7∨op=8 then n==1&&b==0&&o==0
 else if op=6 then n==2&&b==0&&o==0
 else if op=5 then decide (n≤1)&&b==0&&o==0
 else if op=3 then n==1
 else if op=4 then n==2&&o==0
 else false
theorem uu (s:St):dd s=jK s.op s.exprs.length s.body.length s.els.length:=rfl
theorem tz (op pos:Int) (text:ByteArray) (s1 s2 s3:Option Addr) (n b o c1 c2 c3:Nat) (w:World) :
    Calls Tryz.prog 105 #[.agg #[.int .i64 op,.string text,.slice s1 n c1,.slice s2 b c2,.slice s3 o c3,.int .i64 pos]] w fun e w'=>e=.returned (.bool (jK op n b o))∧Below w.heap.size w w':=by
 go_enter Tryz.func105,Tryz.ntmps105
 go_upto_region 1 with fail
 go_quiet (fail)
 have HB:Hd (Below w.heap.size w ((w.alloc (.cells #[.int .i64 op,.string text,.slice s1 n c1,.slice s2 b c2,.slice s3 o c3,.int .i64 pos] 110)).drewN nq)):=zh (cQ (ag (Below.refl _ _) _) nq);have q0:((w.alloc (.cells #[.int .i64 op,.string text,.slice s1 n c1,.slice s2 b c2,.slice s3 o c3,.int .i64 pos] 110)).drewN nq).cell? ⟨w.heap.size,0,none⟩=some (.int .i64 op):=aw _ _ _ _ _ _ rfl rfl;generalize (w.alloc (.cells #[.int .i64 op,.string text,.slice s1 n c1,.slice s2 b c2,.slice s3 o c3,.int .i64 pos] 110)).drewN nq=w1 at *;have A:op=1∨op=2∨op=7∨op=8∨op=6∨op=5∨op=3∨op=4∨(¬op=1∧¬op=2∧¬op=7∧¬op=8∧¬op=6∧¬op=5∧¬op=3∧¬op=4):=by omega
 rcases A with rfl | rfl | rfl | rfl | rfl | rfl | rfl | rfl | ⟨h1,h2,h3,h4,h5,h6,h7,h8⟩
 all_goals
  go_wp2
  all_goals
   go_ret
   refine ⟨cg ?_,HB.o⟩;unfold jK;rw [Bool.eq_iff_iff];simp_all
   try omega
end
section
open Go.RowKit Go.MapKept
theorem gR:Tryz.prog.underlying 131=some (.map 9 133):=by kernel_rfl
theorem gz:Tryz.prog.underlying 9=some .string:=by kernel_rfl
theorem vP (w:World):(zeroValue 133).run Tryz.prog w=.ok (.agg #[.int .i64 0,.bool false]) w:=by kernel_rfl
theorem uA (b:Nat) (m:List (ByteArray×Value)) (w:World) (h:MapAt w b m) :
    Calls Tryz.prog 133 #[.map (some b)] w fun e w'=>e=.returned (.map (some w.heap.size))∧MapAt w' w.heap.size m∧Below w.heap.size w w':=by
 obtain ⟨es,clock,hb,hm⟩:=h;have hq:=fun w=>run_eql_map_nil_sl (P:=Tryz.prog) w 131 _ _ (some b) gR;go_enter Tryz.func133,Tryz.ntmps133
 go_wp2
 rw [run_callFunc_extern Tryz.func66 (by kernel_rfl) (by kernel_rfl) (by kernel_rfl) (e:=Extern.MapsClone.clone) (by kernel_rfl),run_maps_clone_sl w 131 hb];simp only [Result.andThen]
 rw [Oper.upon_value];go_wp2
 rw [run_typeAssert_map_sl _ 131 20 _ _ _ gR];simp only [Result.andThen]
 rw [Oper.upon_value];go_wp2
 go_ret
 exact ⟨rfl,⟨es,clock,am _ _ _ rfl,hm⟩,ag (Below.refl _ _) _⟩
def nmV (p:Int×Bool):Value:=.agg #[.int .i64 p.1,.bool p.2]
def ViewAt (w:World) (r:Nat) (v:aR):Prop:=MapAt w r (v.map fun p=>(p.1,nmV p.2))
theorem rl {α β:Type} (m:List (ByteArray×α)) (f:α→β) (k:ByteArray):aI (m.map fun p=>(p.1,f p.2)) k=(aI m k).map f:=by
 induction m with
 | nil=>rfl
 | cons p m ih =>
  simp only [List.map_cons,aI]
  split
  ·rfl
  ·exact ih
theorem tM {α β:Type} (m:List (ByteArray×α)) (f:α→β) (k:ByteArray) (x:α):bQ (m.map fun p=>(p.1,f p.2)) k (f x)=(bQ m k x).map fun p=>(p.1,f p.2):=by
 induction m with
 | nil=>rfl
 | cons p m ih =>
  simp only [List.map_cons,bQ]
  split
  ·rfl
  ·rw [ih];rfl
theorem ViewAt.below {w w':World} {r:Nat} {v:aR} (h:ViewAt w r v) (hb:Below w.heap.size w w'):ViewAt w' r v:=MapAt.below h hb
theorem jy {w:World} {r:Nat} {v:aR} (h:ViewAt w r v) (k:ByteArray):(Instr.lookup 131 (.map (some r)) (.string k) true).run Tryz.prog w=.ok (.tuple #[nmV ((aI v k).getD (0,false)),.bool (aI v k).isSome]) w:=by
 have q:=fO h gR gz (vP w) k;rw [rl] at q;rw [q]
 cases aI v k<;>rfl
theorem qX {w:World} {r:Nat} {v:aR} (h:ViewAt w r v) (k:ByteArray) (x:Int×Bool):ViewAt (gI w r k (nmV x)) r (bQ v k x):=by
 have q:=lP h k (nmV x);rw [tM] at q;exact q
theorem qh (r:Nat) (v:aR) (k:ByteArray) (t:Int) (fx:Bool) (w:World) (h:ViewAt w r v) :
    Calls Tryz.prog 110 #[.map (some r),.string k,.agg #[.int .i64 t,.bool fx]] w fun e w'=>∃r',e=.returned (.map (some r'))∧ViewAt w' r' (bQ v k (t,fx))∧Below w.heap.size w w':=by
 have HC:=zh (fun W (hW:Below w.heap.size w W)=>uA r _ W (MapAt.below h hW));clear h;go_enter Tryz.func110,Tryz.ntmps110
 go_wp2_with fail
 refine (HC.o _ (ag (Below.refl _ _) _)).mono ?_;rintro e w1 ⟨rfl,hm,hb⟩;have hq:=run_eql_map_nil_sl (P:=Tryz.prog) w1 131 _ _ (some (w.alloc (.cells #[.int .i64 t,.bool fx] 133)).heap.size) gR;have hp:=i9 hm gR gz k (nmV (t,fx));have HV:=zh (qX (v:=v) hm k (t,fx));have b0:=(hb.cell (p:=⟨w.heap.size,0,none⟩) (by rw [ah];exact Nat.lt_succ_self _)).trans (aw _ _ _ _ _ _ rfl rfl);have b1:=(hb.cell (p:=⟨w.heap.size,1,none⟩) (by rw [ah];exact Nat.lt_succ_self _)).trans (aw _ _ _ _ _ _ rfl rfl);have HO:=zh (jZ w1 (w.alloc (.cells #[.int .i64 t,.bool fx] 133)).heap.size k (nmV (t,fx)));have HB:=zh (ay (ag (Below.refl w.heap.size w) (.cells #[.int .i64 t,.bool fx] 133)) hb);have B:=zh (show w.heap.size≤(w.alloc (.cells #[.int .i64 t,.bool fx] 133)).heap.size by rw [ah];omega);unfold nmV at hp HV HO;generalize (w.alloc (.cells #[.int .i64 t,.bool fx] 133)).heap.size=r' at *;clear hm hb;go_wp2_with fail
 go_ret
 refine ⟨r',rfl,HV.o,?_⟩;have ho:=HO.o;have A:=HB.o;exact A.trans ⟨ho.os,ho.tape,ho.output,ho.size,fun i hi=>ho.block i (Nat.lt_of_lt_of_le hi A.size) (fun e=>by injection e with e;have:=B.o;omega)⟩
end
section
open Go.RowKit
abbrev Any:Nat→Prop:=fun _=>True
def FnV (w:World) (u:Value) (f:Fn):Prop:=∃nm s1 n1 c1 rs s2 n2 c2 pos,u=.agg #[.string nm,.slice s1 n1 c1,.int .i64 rs,.slice s2 n2 c2,.int .i64 pos]∧RepFn Any w [.string nm,.slice s1 n1 c1,.int .i64 rs,.slice s2 n2 c2,.int .i64 pos] f
def FunR (w:World):List (ByteArray×Value)→aO→Prop
 | [],[]=>True
 | p :: m,q :: F=>p.1=q.1∧FnV w p.2 q.2∧FunR w m F
 | _,_=>False
theorem FnV.below {w w':World} {u:Value} {f:Fn} (h:FnV w u f) (hb:Below w.heap.size w w'):FnV w' u f:=by
 obtain ⟨nm,s1,n1,c1,rs,s2,n2,c2,pos,e,hr⟩:=h;exact ⟨nm,s1,n1,c1,rs,s2,n2,c2,pos,e,hr.keep (Stays.of_below hb)⟩
theorem FunR.below {w w':World} (hb:Below w.heap.size w w'):∀{m:List (ByteArray×Value)} {F:aO},FunR w m F→FunR w' m F
 | [],[],_=>trivial
 | _ :: _,_ :: _,⟨h1,h2,h3⟩=>⟨h1,h2.below hb,h3.below hb⟩
theorem FunR.look {w:World} (k:ByteArray):∀{m:List (ByteArray×Value)} {F:aO},FunR w m F→(aI m k=none∧aI F k=none)∨∃u f,aI m k=some u∧aI F k=some f∧FnV w u f
 | [],[],_=>.inl ⟨rfl,rfl⟩
 | p :: m,q :: F,⟨h1,h2,h3⟩=>by
  simp only [aI]
  rw [h1];split
  ·exact .inr ⟨_,_,rfl,rfl,h2⟩
  ·exact h3.look k
def Az (w:World) (r:Nat) (F:aO):Prop:=∃m,MapAt w r m∧FunR w m F
structure CtxAt (w:World) (cb:Nat) (F:aO) (res:Int) (vr:Nat) (v:aR):Prop where
 obj:∃fr,w.heap[cb]?=some (.cells #[.map (some fr),.int .i64 res] 101 (0,0))∧Az w fr F
 view:ViewAt w vr v
theorem CtxAt.below {w w':World} {cb:Nat} {F:aO} {res:Int} {vr:Nat} {v:aR} (h:CtxAt w cb F res vr v) (hb:Below w.heap.size w w'):CtxAt w' cb F res vr v:=by
 obtain ⟨fr,h1,m,h2,h3⟩:=h.obj;exact ⟨⟨fr,(hb.block _ (ae h1)).trans h1,m,h2.below hb,h3.below hb⟩,h.view.below hb⟩
def jO (cb:Nat) (F:aO) (res:Int) (x:Ex):Prop:=∀(v:aR) (vr:Nat) (w:World) (op num pos:Int) (text:ByteArray) (s:Option Addr) (n c:Nat),CtxAt w cb F res vr v→RepEx Any w [.int .i64 op,.int .i64 num,.string text,.slice s n c,.int .i64 pos] x →
 Calls Tryz.prog 106 #[.pointer (some ⟨cb,0,none⟩),.agg #[.int .i64 op,.int .i64 num,.string text,.slice s n c,.int .i64 pos],.map (some vr)] w fun e w'=>e=.returned (.tuple #[.int .i64 (aK F v x).1,bM (aK F v x).2])∧Below w.heap.size w w'
theorem cD {S:Nat→Prop} {w:World} {op num pos:Int} {text:ByteArray} {s:Option Addr} {n c:Nat} {x:Ex} (h:RepEx S w [.int .i64 op,.int .i64 num,.string text,.slice s n c,.int .i64 pos] x):∃ks,x=.mk op num text ks pos∧n=ks.length∧RepExs S w (.slice s n c) ks:=by
 obtain ⟨op',num',text',ks,pos'⟩:=x;obtain ⟨u,e,hk⟩:=h.kids;simp only [List.cons.injEq,Value.int.injEq,Value.string.injEq,true_and,and_true] at e
 obtain ⟨rfl,rfl,rfl,rfl,rfl⟩:=e;refine ⟨ks,rfl,?_,hk⟩;obtain ⟨cs,⟨s0,cap,e,_⟩,_⟩:=hk;injection e
theorem lS (cb:Nat) (F:aO) (res:Int) (x:Ex) (hx:jO cb F res x) (v:aR) (vr:Nat) (t:Int) (w:World) (op num pos:Int) (text:ByteArray) (s:Option Addr) (n c:Nat) (h:CtxAt w cb F res vr v) (hr:RepEx Any w [.int .i64 op,.int .i64 num,.string text,.slice s n c,.int .i64 pos] x) :
    Calls Tryz.prog 114 #[.pointer (some ⟨cb,0,none⟩),.agg #[.int .i64 op,.int .i64 num,.string text,.slice s n c,.int .i64 pos],.map (some vr),.int .i64 t] w fun e w'=>e=.returned (bM (ez F v x t))∧Below w.heap.size w w':=by
 have hp:x.pos=pos:=by obtain ⟨ks,rfl,_⟩:=cD hr;rfl
 have HX:=zh (fun W (hW:Below w.heap.size w W)=>hx v vr W op num pos text s n c (h.below hW) (hr.keep (Stays.of_below hW)));have HM:Hd (ez F v x t=if (aK F v x).2.1≠0 then (aK F v x).2 else noC ((aK F v x).1==t) 51 pos):=zh (by unfold ez iK;rw [hp]);clear hx h hr hp;generalize ez F v x t=R at *;generalize aK F v x=q at *;obtain ⟨t',f⟩:=q;obtain ⟨fe,fa⟩:=f;dsimp only at HM;unfold bM at *;have HB:Hd (Below w.heap.size w ((w.alloc (.cells #[.int .i64 op,.int .i64 num,.string text,.slice s n c,.int .i64 pos] 144)).alloc (.cells #[.int .i64 0,.int .i64 0] 104))):=zh (ag (ag (Below.refl _ _) _) _);have hz:((w.alloc (.cells #[.int .i64 op,.int .i64 num,.string text,.slice s n c,.int .i64 pos] 144)).alloc (.cells #[.int .i64 0,.int .i64 0] 104)).heap[w.heap.size+1]?=_:=am _ _ _ (ah _ _);have hx:((w.alloc (.cells #[.int .i64 op,.int .i64 num,.string text,.slice s n c,.int .i64 pos] 144)).alloc (.cells #[.int .i64 0,.int .i64 0] 104)).heap[w.heap.size]?=_:=az _ _ _ _ (am _ _ _ rfl);have HZ:=zh hz;have E:=zh hx;clear hz hx;go_enter Tryz.func114,Tryz.ntmps114
 go_wp2_with fail
 refine (HX.o _ HB.o).mono ?_;rintro e w1 ⟨rfl,A⟩;have z1:=(A.block _ (ae HZ.o)).trans HZ.o;have x1:=(A.block _ (ae E.o)).trans E.o;have C:=zh (ay HB.o A);have J:=zh (show w.heap.size+1<w1.heap.size from ae z1);have b4:w1.cell? ⟨w.heap.size,4,none⟩=some (.int .i64 pos):=aa x1 (j:=4) rfl;obtain ⟨r0,r1,-⟩:=css z1;obtain ⟨g0,g1,-⟩:=fzs z1;have D:=ae z1;have G:=ae x1;have H:=zh z1;clear A z1 x1;by_cases he:fe=0
 ·subst he
  have HN:=zh (dx (t'==t) 51 pos);go_wp2_with fail
  refine (HN.o _).mono ?_;rintro e w2 ⟨rfl,B⟩;replace HM:=zh (HM.o.trans (if_neg (by simp)));generalize noC (t'==t) 51 pos=q at *;obtain ⟨qe,qa⟩:=q;unfold bM;dsimp only;have z2:=(B.block _ (by rw [ah];exact Nat.lt_succ_of_lt D)).trans (az _ _ (.cells #[.int .i64 0,.int .i64 fa] 104) _ H.o);obtain ⟨r0',r1',-⟩:=css z2;obtain ⟨g0',g1',-⟩:=fzs z2;have I:=zh (ay (ag C.o (.cells #[.int .i64 0,.int .i64 fa] 104)) B);clear B z2 r0 r1 g0 g1 b4 D G;go_wp2_with fail
  refine bodyPost_ret (v:=.agg #[.int .i64 qe,.int .i64 qa]) (by simp [results,Tryz.results114,go_sem,r0',r1']) rfl ⟨by rw [HM.o],?_⟩;exact (I.o.setCell (p:=⟨w.heap.size+1,0,none⟩) (Nat.le_succ _) _).setCell (p:=⟨w.heap.size+1,1,none⟩) (Nat.le_succ _) _
 ·replace HM:=zh (HM.o.trans (if_pos he))
  have y0:(((w1.setCell ⟨w.heap.size+1,0,none⟩ (.int .i64 fe)).setCell ⟨w.heap.size+1,1,none⟩ (.int .i64 fa)).alloc (.cells #[.int .i64 fe,.int .i64 fa] 104)).cell? ⟨w.heap.size+1,0,none⟩=some (.int .i64 fe):=ak _ ((aQ _ _ (.inr (by omega))).trans (dh _ r0));have y1:(((w1.setCell ⟨w.heap.size+1,0,none⟩ (.int .i64 fe)).setCell ⟨w.heap.size+1,1,none⟩ (.int .i64 fa)).alloc (.cells #[.int .i64 fe,.int .i64 fa] 104)).cell? ⟨w.heap.size+1,1,none⟩=some (.int .i64 fa):=ak _ (dh _ ((aQ _ _ (.inr (by omega))).trans r1));have YB:=zh (And.intro y0 y1);clear y0 y1;go_wp2_with fail
  obtain ⟨y0,y1⟩:=YB.o;refine bodyPost_ret (v:=.agg #[.int .i64 fe,.int .i64 fa]) (by simp [results,Tryz.results114,go_sem,y0,y1]) rfl ⟨by rw [HM.o],?_⟩;repeat (first | exact C.o | refine Below.setCell ?_ (Nat.le_succ _) _ | refine Below.alloc ?_ (by simp;exact C.o.size) _)
end
end
section
open Go.RowKit Go.MapKept
def Signs (w:World):Prop:=∀i,i<13→w.cell? ⟨0,i,none⟩=some (.string (signRow.getD i ⟨#[]⟩))
theorem Signs.of {w w':World} (h:Signs w) (hk:w'.heap[0]?=w.heap[0]?):Signs w':=fun i hi=>(World.cell?_of_block (w:=w) hk).trans (h i hi)
theorem Signs.below {B:Nat} {w w':World} (h:Signs w) (hb:Below B w w') (hB:0<B):Signs w':=h.of (hb.block 0 hB)
theorem Signs.lt {w:World} (h:Signs w):0<w.heap.size:=ax (h 0 (by decide))
def eC (s:List UInt8):List ByteArray→Nat→Option Nat
 | [],_=>none
 | t :: l,i=>if s==t.toList then some i else eC s l (i+1)
def ixI:Option Nat→Int
 | some i=>i
 | none=>-1
theorem ye (s:List UInt8) (i:Nat) (hi:i<13):eC s (signRow.drop i) i=if s==(signRow.getD i ⟨#[]⟩).toList then some i else eC s (signRow.drop (i+1)) (i+1):=by
 rw [List.drop_eq_getElem_cons (show i<signRow.length from hi),eC,List.getD_eq_getElem?_getD,List.getElem?_eq_getElem (show i<signRow.length from hi)];rfl
theorem vE (s:List UInt8):cP s=((eC s signRow 0).getD 0:Nat):=by
 have key:∀(l:List ByteArray) (k:Nat),eC s l k=((l.map ByteArray.toList).findIdx? (·==s)).map (·+k):=by
  intro l;induction l with
  | nil=>intro k;rfl
  | cons t l ih =>
   intro k;rw [eC,List.map_cons,List.findIdx?_cons,ih];by_cases h:s=t.toList
   ·rw [if_pos (by simpa using h),if_pos (by simpa using h.symm)]
    simp
   ·rw [if_neg (by simpa using h),if_neg (by simpa using fun e=>h e.symm),Option.map_map]
    congr 1
    funext x
    simp only [Function.comp]
    omega
 unfold cP;rw [key signRow 0,show signRow.map ByteArray.toList=signNames by kernel_rfl];simp
theorem tA (s:ByteArray) (w:World) (hs:Signs w) :
    Calls Tryz.prog 126 #[.slice (some ⟨0,0,none⟩) 13 13,.string s] w fun e w'=>e=.returned (.int .i64 (ixI (eC s.toList signRow 0)))∧w=w':=by
 have HS:=zh hs;have HF:=zh (ye s.toList);generalize hR:ixI (eC s.toList signRow 0)=R;have HR:=zh (show R=ixI (eC s.toList (signRow.drop 0) 0) from hR.symm);clear hR hs;go_enter Tryz.func126,Tryz.ntmps126
 go_wp2_with fail
 go_loop [8] (fun t8=>∃i:Nat,i≤13∧t8=.int .i64 (i:Int)∧R=ixI (eC s.toList (signRow.drop i) i)) (fun t8=>13-(intOf t8).toNat)
 case atStart=>exact ⟨0,Nat.zero_le _,rfl,HR.o⟩
 case round =>
  obtain ⟨i,hi,rfl,hR⟩:=hrel;have D:=zh hR;clear hR;by_cases B:i<13
  ·have x0:w.cell? ⟨0,i,none⟩=some (.string (signRow.getD i ⟨#[]⟩)):=HS.o i B
   have C:=HF.o i B;have A:=zh (D.o.trans (congrArg ixI C));clear C;generalize signRow.getD i ⟨#[]⟩=t at *
   cases hc:(s.toList==t.toList)
   ·rw [hc] at A
    go_wp2_with fail
    go_round
    case rel=>exact ⟨i+1,by omega,by go_num,A.o⟩
    case measure=>simp [intOf];omega
   ·rw [hc] at A
    go_wp2_with fail
    go_ret
    exact ⟨by rw [A.o];rfl,rfl⟩
  ·obtain rfl:i=13:=by omega
   have A:Hd (R=-1):=zh (D.o.trans rfl);go_wp2_with fail
   go_ret
   exact ⟨by rw [A.o];rfl,rfl⟩
theorem gB (s:ByteArray) (w:World) (hs:Signs w) :
    Calls Tryz.prog 95 #[.string s] w fun e w'=>e=.returned (.int .i64 (cP s.toList))∧w=w':=by
 have HI:=zh (tA s w hs);have HN:=zh (vE s.toList);clear hs;generalize eC s.toList signRow 0=q at *;go_enter Tryz.func95,Tryz.ntmps95
 go_wp2_with fail
 refine HI.o.mono ?_;rintro e w' ⟨rfl,rfl⟩
 cases q with
 | none =>
  have e1:ixI none=-1:=rfl;rw [e1];go_wp2_with fail
  go_ret
  exact ⟨by rw [HN.o];rfl,rfl⟩
 | some i =>
  have e1:ixI (some i)=(i:Int):=rfl;rw [e1];go_wp2_with fail
  go_ret
  exact ⟨by rw [HN.o];rfl,rfl⟩
theorem xe (nm:ByteArray) (v1 v2 v3 v4:Value) (A:ByteArray) (nb:Nat) (w:World) (h:w.cell? ⟨nb,0,none⟩=some (.string A)):Calls Tryz.prog 97 #[.agg #[.string nm,v1,v2,v3,v4],.pointer (some ⟨nb,0,none⟩)] w fun e w'=>e=.returned (.bool (nm.toList==A.toList))∧Below w.heap.size w w':=by
 have B:=ax h;go_enter Tryz.func97,Tryz.ntmps97
 go_wp2_with fail
 go_ret
 exact ⟨rfl,ag (Below.refl _ _) _⟩
theorem oN:∀(l:List Fn) (nm:ByteArray) (i:Nat),i<ba l nm→(l.getD i default).name≠nm
 | [],_,i,h=>by rw [ba] at h;omega
 | f :: l,nm,i,h=>by
  rw [ba] at h;by_cases e:f.name=nm
  ·rw [if_pos e] at h;omega
  ·rw [if_neg e] at h
   cases i with
   | zero=>exact e
   | succ i=>exact oN l nm i (by omega)
theorem nx:∀(l:List Fn) (nm:ByteArray),ba l nm<l.length→(l.getD (ba l nm) default).name=nm
 | [],_,h=>by rw [ba] at h;simp at h
 | f :: l,nm,h=>by
  rw [ba] at h ⊢;by_cases e:f.name=nm
  ·rw [if_pos e];exact e
  ·rw [if_neg e] at h ⊢
   exact nx l nm (by simpa using h)
theorem xM {a b:ByteArray} (h:a≠b):(a.toList==b.toList)=false:=by
 rw [beq_eq_false_iff_ne,ByteArray.toList_eq,ByteArray.toList_eq];exact fun e=>h (ByteArray.ext (Array.toList_inj.1 e))
theorem me {S:Nat→Prop} {w:World} {cs:List Value} {f:Fn} (h:RepFn S w cs f):∃s1 c1 s2 c2,cs=[.string f.name,.slice s1 f.params.length c1,.int .i64 f.result,.slice s2 f.body.length c2,.int .i64 f.pos]:=by
 obtain ⟨vp,vb,rfl,⟨c,⟨a1,a2,rfl,_⟩,_⟩,⟨c',⟨b1,b2,rfl,_⟩,_⟩⟩:=h;exact ⟨_,_,_,_,rfl⟩
theorem r9 (l:List Fn) (nm:ByteArray) (nb:Nat) (u:Value) (w:World) (hr:RepFns Any w u l) (hp:ba l nm<l.length) (h:w.cell? ⟨nb,0,none⟩=some (.string nm)) :
    Calls Tryz.prog 96 #[u,.func (.func 97) #[] #[.pointer (some ⟨nb,0,none⟩)]] w fun e w'=>e=.returned (.int .i64 (ba l nm:Nat))∧Below w.heap.size w w':=by
 obtain ⟨cs,⟨s0,cap,rfl,U,G,_,E,Q⟩,L⟩:=hr;unfold maxLen at G;have T:l.length≤9223372036854775807:=by omega
 have Z:=zh (oN l nm);have H:=zh (nx l nm hp);have HB:=zh (fun (W:World) (hW:Below w.heap.size w W) (k:ByteArray) (v1 v2 v3 v4:Value)=>xe k v1 v2 v3 v4 nm nb W ((hW.cell (p:=⟨nb,0,none⟩) (ax h)).trans h));have I:=zh E;have a:=zh L;have d:∀args W,Sem.run Tryz.prog (callFunc 97 args) W=.ok (.enter 97 args) W:=fun _ _=>Tryz.call97 _ _;generalize hP:ba l nm=P at *;have HP:=zh (And.intro hp G);clear E L Q U G h hP hp;go_enter Tryz.func96,Tryz.ntmps96
 go_wp2_with fail
 go_loopg [8] (P+1) (fun g t8 wr=>∃i:Nat,i+g=P+1∧0<g∧t8=.int .i64 (i:Int)∧Below w.heap.size w wr)
 case atStart=>exact ⟨0,Nat.zero_add _,Nat.succ_pos _,rfl,Below.refl _ _⟩
 case round =>
  obtain ⟨i,X,hg,rfl,hb⟩:=hrel;have C:=zh hb;have M:i<l.length:=by have:=HP.o.1;omega
  have V:(i:Int)<(l.length:Int):=by omega
  have c:(0:Int)≤(i:Int):=by omega
  obtain ⟨b,off,R,_,Y,A⟩:=I.o (by omega);subst R;obtain ⟨s1,c1,s2,c2,O⟩:=me (a.o i M);have B:∀j,j<5→wr.cell? ⟨b,off+i * 5+j,none⟩=(cs i)[j]?:=fun j hj=>(C.o.cell (p:=⟨b,_,none⟩) Y).trans (A i M j hj);rw [O] at B;have x0:wr.cell? ⟨b,off+i * 5,none⟩=some (.string (l.getD i default).name):=B 0 (by decide);have x1:wr.cell? ⟨b,off+i * 5+1,none⟩=some (.slice s1 (l.getD i default).params.length c1):=B 1 (by decide);have x2:wr.cell? ⟨b,off+i * 5+2,none⟩=some (.int .i64 (l.getD i default).result):=B 2 (by decide);have x3:wr.cell? ⟨b,off+i * 5+3,none⟩=some (.slice s2 (l.getD i default).body.length c2):=B 3 (by decide);have x4:wr.cell? ⟨b,off+i * 5+4,none⟩=some (.int .i64 (l.getD i default).pos):=B 4 (by decide);have HG:=zh X;clear hb B O A;by_cases S:i<P
  ·have K:=xM (Z.o i S)
   generalize l.getD i default=f at *;have D:=HB.o wr C.o f.name (.slice s1 f.params.length c1) (.int .i64 f.result) (.slice s2 f.body.length c2) (.int .i64 f.pos);rw [K] at D;have HC:=zh D;clear D K;go_wp2_with fail
   refine HC.o.mono ?_;rintro e w2 ⟨rfl,F⟩;have J:=zh (C.o.trans (F.mono C.o.size));clear F;go_wp2_with fail
   go_roundg (gk-1)
   case measure=>omega
   case rel=>exact ⟨i+1,by have:=HG.o;omega,by have:=HG.o;omega,by go_num,J.o⟩
  ·obtain rfl:i=P:=by omega
   have N:((l.getD i default).name.toList==nm.toList)=true:=by rw [H.o];simp
   generalize l.getD i default=f at *;have D:=HB.o wr C.o f.name (.slice s1 f.params.length c1) (.int .i64 f.result) (.slice s2 f.body.length c2) (.int .i64 f.pos);rw [N] at D;have HC:=zh D;clear D N;go_wp2_with fail
   refine HC.o.mono ?_;rintro e w2 ⟨rfl,F⟩;have J:=zh (C.o.trans (F.mono C.o.size));clear F;go_wp2_with fail
   go_ret
   exact ⟨rfl,J.o⟩
theorem kF (B M MB TB NB:Nat) (fv:Value) (s:CS) (F:List Fn) (nm:ByteArray) (w:World) (h:MkAt B M w MB TB NB fv s) (hf:RepFns Any w fv F) (hp:ba F nm<F.length) :
    Calls Tryz.prog 72 #[.pointer (some ⟨MB,0,none⟩),.string nm] w fun e w'=>e=.returned (.tuple #[.int .i64 (ba F nm:Nat),.int .i64 (fH F nm)])∧Below w.heap.size w w':=by
 obtain ⟨iv,hm,_⟩:=h.m;have D:Below w.heap.size w (w.alloc (.cells #[.string nm] 9)):=ag (Below.refl _ _) _;have S:=zh (r9 F nm w.heap.size fv (w.alloc (.cells #[.string nm] 9)) (hf.keep (Stays.of_below D)) hp (aw _ _ _ _ _ _ rfl rfl));have m1:w.cell? ⟨MB,1,none⟩=some fv:=aa hm (j:=1) rfl;obtain ⟨cs,⟨s0,cap,rfl,O,I,_,C,L⟩,G⟩:=hf;unfold maxLen at I;have N:F.length≤9223372036854775807:=by omega
 obtain ⟨b,off,rfl,_,Q,A⟩:=C (by omega);obtain ⟨s1,c1,s2,c2,H⟩:=me (G _ hp);have E:=A _ hp 2 (by decide);rw [H] at E;have U:Hd (w.cell? ⟨b,off+ba F nm * 5+2,none⟩=some (.int .i64 (fH F nm))):=zh E;have T:=zh m1;have K:=zh (ae hm);have V:=K.o;clear h hm O I C L G A H E;generalize fH F nm=R at *;generalize ba F nm=P at *;have g1:(P:Int)<(F.length:Int):=by omega
 have g0:(0:Int)≤(P:Int):=by omega
 go_enter Tryz.func72,Tryz.ntmps72
 go_wp2_with fail
 refine S.o.mono ?_;rintro e w2 ⟨rfl,J⟩;have HB:=zh (D.trans (J.mono D.size));have n1:w2.cell? ⟨MB,1,none⟩=some (.slice (some ⟨b,off,none⟩) F.length cap):=(HB.o.cell (p:=⟨MB,1,none⟩) K.o).trans T.o;have n2:w2.cell? ⟨b,off+P * 5+2,none⟩=some (.int .i64 R):=(HB.o.cell (p:=⟨b,_,none⟩) Q).trans U.o;clear D J m1;go_wp2_with fail
 go_quiet (fail)
 go_wp2_with fail
 go_ret2
 exact ⟨rfl,cQ HB.o _⟩
def sr (v:bf):List (ByteArray×Value):=v.map fun p=>(p.1,.int .i64 p.2)
def SlAt (w:World) (r:Nat) (v:bf):Prop:=MapAt w r (sr v)
theorem SlAt.below {w w':World} {r:Nat} {v:bf} (h:SlAt w r v) (hb:Below w.heap.size w w'):SlAt w' r v:=MapAt.below h hb
theorem SlAt.fx {B M NB:Nat} {w w':World} (hf:Fx B M NB w w') {r:Nat} {v:bf} (h:SlAt w r v) (hn:r≠NB):SlAt w' r v:=MapAt.fx hf h hn
section
variable {P:Program} {w:World} {r:Nat} {m:List (ByteArray×Value)} {mt kt et:TypeId}
theorem ux (h:MapAt w r m) (hm:P.underlying mt=some (.map kt et)) (hk:P.underlying kt=some .string) {z:Value} (hz:(zeroValue et).run P w=.ok z w) (k:ByteArray) :
    (Instr.lookup mt (.map (some r)) (.string k) false).run P w=.ok ((aI m k).getD z) w:=by
 obtain ⟨es,c,h1,h2⟩:=h;rcases gO k .nilIface es.toList m 0 h2 with ⟨a1,a2,_⟩ | ⟨j,v,e,a1,a2,_⟩
 ·simp [Instr.lookup,run_underlying hm,Go.MapKept.run_getObj_map h1,run_checkKey hk (k:=.string k) (by simp [IsKey]),run_findKey hk a2,hz,Result.andThen,a1]
 ·simp [Instr.lookup,run_underlying hm,Go.MapKept.run_getObj_map h1,run_checkKey hk (k:=.string k) (by simp [IsKey]),run_findKey hk a2,Result.andThen,a1]
end
theorem lm {w:World} {r:Nat} {v:bf} (h:SlAt w r v) (k:ByteArray):(Instr.lookup 54 (.map (some r)) (.string k) false).run Tryz.prog w=.ok (.int .i64 ((aI v k).getD 0)) w:=by
 rw [ux h gS iZ (qj w) k,sr,rl v (fun n=>Value.int .i64 n)]
 cases aI v k<;>rfl
theorem iP {w:World} {r:Nat} {v:bf} (h:SlAt w r v) (k:ByteArray) (n:Int):(Instr.mapUpdate 54 (.map (some r)) (.string k) (.int .i64 n)).run Tryz.prog w=.ok () (gI w r k (.int .i64 n))∧SlAt (gI w r k (.int .i64 n)) r (bQ v k n)∧On r w (gI w r k (.int .i64 n)):=by
 refine ⟨i9 h gS iZ k _,?_,jZ w r k _⟩;have q:=lP h k (.int .i64 n);rw [sr,tM v (fun n=>Value.int .i64 n)] at q;exact q
end
end Go.Proofs.YtmlgbkomdhcaoaaGreatDoor
