/-
  EvalSigns: part 30 of its proof: see the last text.
-/
import Derived.Test.YthgcpfkochikfaaGreatPs09
import Derived.Test.YthgcpfkochikfaaGreatPs15
import Derived.Deep.LoopGhost
import Derived.Shelf.SlMaps.Clone
import Derived.Test.YthgcpfkochikfaaGreatPs19
import Derived.Test.YthgcpfkochikfaaGreatPs03
set_option maxRecDepth 100000
set_option maxHeartbeats 16000000
namespace Go.Proofs.YthgcpfkochikfaaGreat
section
section
open Go.RowKit
def bH (f:Flt):Value:=.agg #[.int .i64 f.1,.int .i64 f.2]
theorem cZ (b:Bool) (e0 A:Int) (w:World):Calls Tryz.prog 83 #[.bool b,.int .i64 e0,.int .i64 A] w fun e w'=>e=.returned (bH (noC b e0 A))∧Below w.heap.size w w':=by
 cases b
 ·go_enter Tryz.func83,Tryz.ntmps83
  go_wp2_with fail
  refine bodyPost_ret (v:=.agg #[.int .i64 e0,.int .i64 A]) (by simp [results,Tryz.results83,go_sem]) rfl ⟨rfl,?_⟩;repeat (first | exact Below.refl _ _ | refine Below.setCell ?_ (Nat.le_refl _) _ | refine Below.alloc ?_ (Nat.le_refl _) _)
 ·go_enter Tryz.func83,Tryz.ntmps83
  go_wp2_with fail
  refine bodyPost_ret (v:=.agg #[.int .i64 0,.int .i64 0]) (by simp [results,Tryz.results83,go_sem]) rfl ⟨rfl,?_⟩;repeat (first | exact Below.refl _ _ | refine Below.setCell ?_ (Nat.le_refl _) _ | refine Below.alloc ?_ (Nat.le_refl _) _)
theorem yL (op num pos:Int) (text:ByteArray) (s:Option Addr) (n c:Nat) (w:World):Calls Tryz.prog 173 #[.agg #[.int .i64 op,.int .i64 num,.string text,.slice s n c,.int .i64 pos]] w fun e w'=>e=.returned (.int .i64 (cg op))∧Below w.heap.size w w':=by
 go_enter Tryz.func173,Tryz.ntmps173
 go_wp2
 all_goals
  go_ret
  refine ⟨eQ ?_,ag (Below.refl _ _) _⟩;unfold cg;simp_all
theorem tM (s:ByteArray) (w:World):Calls Tryz.prog 197 #[.string s] w fun e w'=>e=.returned (.tuple #[.int .i64 (cq s.toList).1,.int .i64 (cq s.toList).2])∧w=w':=by
 generalize hl:s.toList=l;have HS:=zh hl
 have h:(l=[45]∨l=[42]∨l=[47]∨l=[37])∨(l=[60]∨l=[60,61]∨l=[62]∨l=[62,61])∨(l=[38,38]∨l=[124,124])∨(cq l=(0,0)∧(l==[45])=false∧(l==[42])=false∧(l==[47])=false∧(l==[37])=false∧(l==[60])=false∧(l==[60,61])=false∧(l==[62])=false∧(l==[62,61])=false∧(l==[38,38])=false∧(l==[124,124])=false):=by
  by_cases h1:l=[45]∨l=[42]∨l=[47]∨l=[37]
  ·exact .inl h1
  by_cases h2:l=[60]∨l=[60,61]∨l=[62]∨l=[62,61]
  ·exact .inr (.inl h2)
  by_cases h3:l=[38,38]∨l=[124,124]
  ·exact .inr (.inr (.inl h3))
  refine .inr (.inr (.inr ⟨by unfold cq;rw [if_neg h1,if_neg h2,if_neg h3],?_⟩));simp only [not_or] at h1 h2 h3
  simp [h1,h2,h3]
 rcases h with (h | h | h | h) | (h | h | h | h) | (h | h) | ⟨h0,h1,h2,h3,h4,h5,h6,h7,h8,h9,A⟩
 all_goals
  try subst h
  go_enter Tryz.func197,Tryz.ntmps197
  go_wp2_with fail
  first
   | refine bodyPost_ret (v:=.tuple #[.int .i64 1,.int .i64 1]) (by simp [results,Tryz.results197,go_sem]) rfl ⟨rfl,rfl⟩
   | refine bodyPost_ret (v:=.tuple #[.int .i64 1,.int .i64 2]) (by simp [results,Tryz.results197,go_sem]) rfl ⟨rfl,rfl⟩
   | refine bodyPost_ret (v:=.tuple #[.int .i64 2,.int .i64 2]) (by simp [results,Tryz.results197,go_sem]) rfl ⟨rfl,rfl⟩
   | refine bodyPost_ret (v:=.tuple #[.int .i64 0,.int .i64 0]) (by simp [results,Tryz.results197,go_sem]) rfl ⟨by rw [h0],rfl⟩
def jX (op:Int) (n b o:Nat):Bool:=
 if op=1∨op=2∨op=7∨op=8 then n==1&&b==0&&o==0
 else if op=6 then n==2&&b==0&&o==0
 else if op=5 then decide (n≤1)&&b==0&&o==0
 else if op=3 then n==1
 else if op=4 then n==2&&o==0
 else false
theorem vS (s:St):dD s=jX s.op s.exprs.length s.body.length s.els.length:=rfl
theorem rZ (op pos:Int) (text:ByteArray) (s1 s2 s3:Option Addr) (n b o c1 c2 c3:Nat) (w:World) :
    Calls Tryz.prog 130 #[.agg #[.int .i64 op,.string text,.slice s1 n c1,.slice s2 b c2,.slice s3 o c3,.int .i64 pos]] w fun e w'=>e=.returned (.bool (jX op n b o))∧Below w.heap.size w w':=by
 go_enter Tryz.func130,Tryz.ntmps130
 go_upto_region 1 with fail
 go_quiet (fail)
 have HB:Hd (Below w.heap.size w ((w.alloc (.cells #[.int .i64 op,.string text,.slice s1 n c1,.slice s2 b c2,.slice s3 o c3,.int .i64 pos] 134)).drewN nq)):=zh (dm (ag (Below.refl _ _) _) nq);have q0:((w.alloc (.cells #[.int .i64 op,.string text,.slice s1 n c1,.slice s2 b c2,.slice s3 o c3,.int .i64 pos] 134)).drewN nq).cell? ⟨w.heap.size,0,none⟩=some (.int .i64 op):=aA _ _ _ _ _ _ rfl rfl;generalize (w.alloc (.cells #[.int .i64 op,.string text,.slice s1 n c1,.slice s2 b c2,.slice s3 o c3,.int .i64 pos] 134)).drewN nq=w1 at *;have A:op=1∨op=2∨op=7∨op=8∨op=6∨op=5∨op=3∨op=4∨(¬op=1∧¬op=2∧¬op=7∧¬op=8∧¬op=6∧¬op=5∧¬op=3∧¬op=4):=by omega
 rcases A with rfl | rfl | rfl | rfl | rfl | rfl | rfl | rfl | ⟨h1,h2,h3,h4,h5,h6,h7,h8⟩
 all_goals
  go_wp2
  all_goals
   go_ret
   refine ⟨ew ?_,HB.o⟩;unfold jX;rw [Bool.eq_iff_iff];simp_all
   try omega
end
section
open Go.RowKit Go.MapKept
theorem gX:Tryz.prog.underlying 167=some (.map 9 169):=by kernel_rfl
theorem gl:Tryz.prog.underlying 9=some .string:=by kernel_rfl
theorem vx (w:World):(zeroValue 169).run Tryz.prog w=.ok (.agg #[.int .i64 0,.bool false]) w:=by kernel_rfl
theorem wi (b:Nat) (m:List (ByteArray×Value)) (w:World) (h:MapAt w b m) :
    Calls Tryz.prog 176 #[.map (some b)] w fun e w'=>e=.returned (.map (some w.heap.size))∧MapAt w' w.heap.size m∧Below w.heap.size w w':=by
 obtain ⟨es,clock,hb,hm⟩:=h;have hq:=fun w=>run_eql_map_nil_sl (P:=Tryz.prog) w 167 _ _ (some b) gX;go_enter Tryz.func176,Tryz.ntmps176
 go_wp2
 rw [run_callFunc_extern Tryz.func198 (by kernel_rfl) (by kernel_rfl) (by kernel_rfl) (e:=Extern.MapsClone.clone) (by kernel_rfl),run_maps_clone_sl w 167 hb];simp only [Result.andThen]
 rw [Oper.upon_value];go_wp2
 rw [run_typeAssert_map_sl _ 167 20 _ _ _ gX];simp only [Result.andThen]
 rw [Oper.upon_value];go_wp2
 go_ret
 exact ⟨rfl,⟨es,clock,aj _ _ _ rfl,hm⟩,ag (Below.refl _ _) _⟩
def nmV (p:Int×Bool):Value:=.agg #[.int .i64 p.1,.bool p.2]
def ViewAt (w:World) (r:Nat) (v:bw):Prop:=MapAt w r (v.map fun p=>(p.1,nmV p.2))
theorem wV {α β:Type} (m:List (ByteArray×α)) (f:α→β) (k:ByteArray):aL (m.map fun p=>(p.1,f p.2)) k=(aL m k).map f:=by
 induction m with
 | nil=>rfl
 | cons p m ih =>
  simp only [List.map_cons,aL]
  split
  ·rfl
  ·exact ih
theorem zG {α β:Type} (m:List (ByteArray×α)) (f:α→β) (k:ByteArray) (x:α):bZ (m.map fun p=>(p.1,f p.2)) k (f x)=(bZ m k x).map fun p=>(p.1,f p.2):=by
 induction m with
 | nil=>rfl
 | cons p m ih =>
  simp only [List.map_cons,bZ]
  split
  ·rfl
  ·rw [ih];rfl
theorem ViewAt.below {w w':World} {r:Nat} {v:bw} (h:ViewAt w r v) (hb:Below w.heap.size w w'):ViewAt w' r v:=MapAt.below h hb
theorem jL {w:World} {r:Nat} {v:bw} (h:ViewAt w r v) (k:ByteArray):(Instr.lookup 167 (.map (some r)) (.string k) true).run Tryz.prog w=.ok (.tuple #[nmV ((aL v k).getD (0,false)),.bool (aL v k).isSome]) w:=by
 have q:=fK h gX gl (vx w) k;rw [wV] at q;rw [q]
 cases aL v k<;>rfl
theorem rS {w:World} {r:Nat} {v:bw} (h:ViewAt w r v) (k:ByteArray) (x:Int×Bool):ViewAt (iB w r k (nmV x)) r (bZ v k x):=by
 have q:=jJ h k (nmV x);rw [zG] at q;exact q
theorem q8 (r:Nat) (v:bw) (k:ByteArray) (t:Int) (fx:Bool) (w:World) (h:ViewAt w r v) :
    Calls Tryz.prog 135 #[.map (some r),.string k,.agg #[.int .i64 t,.bool fx]] w fun e w'=>∃r',e=.returned (.map (some r'))∧ViewAt w' r' (bZ v k (t,fx))∧Below w.heap.size w w':=by
 have HC:=zh (fun W (hW:Below w.heap.size w W)=>wi r _ W (MapAt.below h hW));clear h;go_enter Tryz.func135,Tryz.ntmps135
 go_wp2_with fail
 refine (HC.o _ (ag (Below.refl _ _) _)).mono ?_;rintro e w1 ⟨rfl,hm,hb⟩;have hq:=run_eql_map_nil_sl (P:=Tryz.prog) w1 167 _ _ (some (w.alloc (.cells #[.int .i64 t,.bool fx] 169)).heap.size) gX;have hp:=fM hm gX gl k (nmV (t,fx));have HV:=zh (rS (v:=v) hm k (t,fx));have b0:=(hb.cell (p:=⟨w.heap.size,0,none⟩) (by rw [ah];exact Nat.lt_succ_self _)).trans (aA _ _ _ _ _ _ rfl rfl);have b1:=(hb.cell (p:=⟨w.heap.size,1,none⟩) (by rw [ah];exact Nat.lt_succ_self _)).trans (aA _ _ _ _ _ _ rfl rfl);have HO:=zh (gj w1 (w.alloc (.cells #[.int .i64 t,.bool fx] 169)).heap.size k (nmV (t,fx)));have HB:=zh (am (ag (Below.refl w.heap.size w) (.cells #[.int .i64 t,.bool fx] 169)) hb);have B:=zh (show w.heap.size≤(w.alloc (.cells #[.int .i64 t,.bool fx] 169)).heap.size by rw [ah];omega);unfold nmV at hp HV HO;generalize (w.alloc (.cells #[.int .i64 t,.bool fx] 169)).heap.size=r' at *;clear hm hb;go_wp2_with fail
 go_ret
 refine ⟨r',rfl,HV.o,?_⟩;have ho:=HO.o;have A:=HB.o;exact A.trans ⟨ho.os,ho.tape,ho.output,ho.size,fun i hi=>ho.block i (Nat.lt_of_lt_of_le hi A.size) (fun e=>by injection e with e;have:=B.o;omega)⟩
end
section
open Go.RowKit
abbrev Any:Nat→Prop:=fun _=>True
def FnV (w:World) (u:Value) (f:Fn):Prop:=∃nm s1 n1 c1 rs s2 n2 c2 pos,u=.agg #[.string nm,.slice s1 n1 c1,.int .i64 rs,.slice s2 n2 c2,.int .i64 pos]∧RepFn Any w [.string nm,.slice s1 n1 c1,.int .i64 rs,.slice s2 n2 c2,.int .i64 pos] f
def FunR (w:World):List (ByteArray×Value)→aU→Prop
 | [],[]=>True
 | p :: m,q :: F=>p.1=q.1∧FnV w p.2 q.2∧FunR w m F
 | _,_=>False
theorem FnV.below {w w':World} {u:Value} {f:Fn} (h:FnV w u f) (hb:Below w.heap.size w w'):FnV w' u f:=by
 obtain ⟨nm,s1,n1,c1,rs,s2,n2,c2,pos,e,hr⟩:=h;exact ⟨nm,s1,n1,c1,rs,s2,n2,c2,pos,e,hr.keep (Stays.of_below hb)⟩
theorem FunR.below {w w':World} (hb:Below w.heap.size w w'):∀{m:List (ByteArray×Value)} {F:aU},FunR w m F→FunR w' m F
 | [],[],_=>trivial
 | _ :: _,_ :: _,⟨h1,h2,h3⟩=>⟨h1,h2.below hb,h3.below hb⟩
theorem FunR.look {w:World} (k:ByteArray):∀{m:List (ByteArray×Value)} {F:aU},FunR w m F→(aL m k=none∧aL F k=none)∨∃u f,aL m k=some u∧aL F k=some f∧FnV w u f
 | [],[],_=>.inl ⟨rfl,rfl⟩
 | p :: m,q :: F,⟨h1,h2,h3⟩=>by
  simp only [aL]
  rw [h1];split
  ·exact .inr ⟨_,_,rfl,rfl,h2⟩
  ·exact h3.look k
def CA (w:World) (r:Nat) (F:aU):Prop:=∃m,MapAt w r m∧FunR w m F
structure CtxAt (w:World) (cb:Nat) (F:aU) (res:Int) (vr:Nat) (v:bw):Prop where
 obj:∃fr,w.heap[cb]?=some (.cells #[.map (some fr),.int .i64 res] 115 (0,0))∧CA w fr F
 view:ViewAt w vr v
theorem CtxAt.below {w w':World} {cb:Nat} {F:aU} {A:Int} {vr:Nat} {v:bw} (h:CtxAt w cb F A vr v) (hb:Below w.heap.size w w'):CtxAt w' cb F A vr v:=by
 obtain ⟨fr,h1,m,h2,h3⟩:=h.obj;exact ⟨⟨fr,(hb.block _ (af h1)).trans h1,m,h2.below hb,h3.below hb⟩,h.view.below hb⟩
def kg (cb:Nat) (F:aU) (A:Int) (x:Ex):Prop:=∀(v:bw) (vr:Nat) (w:World) (op num pos:Int) (text:ByteArray) (s:Option Addr) (n c:Nat),CtxAt w cb F A vr v→RepEx Any w [.int .i64 op,.int .i64 num,.string text,.slice s n c,.int .i64 pos] x →
 Calls Tryz.prog 131 #[.pointer (some ⟨cb,0,none⟩),.agg #[.int .i64 op,.int .i64 num,.string text,.slice s n c,.int .i64 pos],.map (some vr)] w fun e w'=>e=.returned (.tuple #[.int .i64 (aM F v x).1,bH (aM F v x).2])∧Below w.heap.size w w'
theorem cf {S:Nat→Prop} {w:World} {op num pos:Int} {text:ByteArray} {s:Option Addr} {n c:Nat} {x:Ex} (h:RepEx S w [.int .i64 op,.int .i64 num,.string text,.slice s n c,.int .i64 pos] x):∃ks,x=.mk op num text ks pos∧n=ks.length∧RepExs S w (.slice s n c) ks:=by
 obtain ⟨op',num',text',ks,pos'⟩:=x;obtain ⟨u,e,hk⟩:=h.kids;simp only [List.cons.injEq,Value.int.injEq,Value.string.injEq,true_and,and_true] at e
 obtain ⟨rfl,rfl,rfl,rfl,rfl⟩:=e;refine ⟨ks,rfl,?_,hk⟩;obtain ⟨cs,⟨s0,cap,e,_⟩,_⟩:=hk;injection e
theorem lV (cb:Nat) (F:aU) (D:Int) (x:Ex) (hx:kg cb F D x) (v:bw) (vr:Nat) (t:Int) (w:World) (op num pos:Int) (text:ByteArray) (s:Option Addr) (n c:Nat) (h:CtxAt w cb F D vr v) (hr:RepEx Any w [.int .i64 op,.int .i64 num,.string text,.slice s n c,.int .i64 pos] x) :
    Calls Tryz.prog 139 #[.pointer (some ⟨cb,0,none⟩),.agg #[.int .i64 op,.int .i64 num,.string text,.slice s n c,.int .i64 pos],.map (some vr),.int .i64 t] w fun e w'=>e=.returned (bH (eh F v x t))∧Below w.heap.size w w':=by
 have hp:x.pos=pos:=by obtain ⟨ks,rfl,_⟩:=cf hr;rfl
 have HX:=zh (fun W (hW:Below w.heap.size w W)=>hx v vr W op num pos text s n c (h.below hW) (hr.keep (Stays.of_below hW)));have HM:Hd (eh F v x t=if (aM F v x).2.1≠0 then (aM F v x).2 else noC ((aM F v x).1==t) 51 pos):=zh (by unfold eh lk;rw [hp]);clear hx h hr hp;generalize eh F v x t=R at *;generalize aM F v x=q at *;obtain ⟨t',f⟩:=q;obtain ⟨fe,fa⟩:=f;dsimp only at HM;unfold bH at *;have HB:Hd (Below w.heap.size w ((w.alloc (.cells #[.int .i64 op,.int .i64 num,.string text,.slice s n c,.int .i64 pos] 178)).alloc (.cells #[.int .i64 0,.int .i64 0] 118))):=zh (ag (ag (Below.refl _ _) _) _);have hz:((w.alloc (.cells #[.int .i64 op,.int .i64 num,.string text,.slice s n c,.int .i64 pos] 178)).alloc (.cells #[.int .i64 0,.int .i64 0] 118)).heap[w.heap.size+1]?=_:=aj _ _ _ (ah _ _);have hx:((w.alloc (.cells #[.int .i64 op,.int .i64 num,.string text,.slice s n c,.int .i64 pos] 178)).alloc (.cells #[.int .i64 0,.int .i64 0] 118)).heap[w.heap.size]?=_:=ax _ _ _ _ (aj _ _ _ rfl);have HZ:=zh hz;have G:=zh hx;clear hz hx;go_enter Tryz.func139,Tryz.ntmps139
 go_wp2_with fail
 refine (HX.o _ HB.o).mono ?_;rintro e w1 ⟨rfl,A⟩;have z1:=(A.block _ (af HZ.o)).trans HZ.o;have x1:=(A.block _ (af G.o)).trans G.o;have C:=zh (am HB.o A);have K:=zh (show w.heap.size+1<w1.heap.size from af z1);have b4:w1.cell? ⟨w.heap.size,4,none⟩=some (.int .i64 pos):=aa x1 (j:=4) rfl;obtain ⟨r0,r1,-⟩:=css z1;obtain ⟨g0,g1,-⟩:=fzs z1;have E:=af z1;have H:=af x1;have I:=zh z1;clear A z1 x1;by_cases he:fe=0
 ·subst he
  have HN:=zh (cZ (t'==t) 51 pos);go_wp2_with fail
  refine (HN.o _).mono ?_;rintro e w2 ⟨rfl,B⟩;replace HM:=zh (HM.o.trans (if_neg (by simp)));generalize noC (t'==t) 51 pos=q at *;obtain ⟨qe,qa⟩:=q;unfold bH;dsimp only;have z2:=(B.block _ (by rw [ah];exact Nat.lt_succ_of_lt E)).trans (ax _ _ (.cells #[.int .i64 0,.int .i64 fa] 118) _ I.o);obtain ⟨r0',r1',-⟩:=css z2;obtain ⟨g0',g1',-⟩:=fzs z2;have J:=zh (am (ag C.o (.cells #[.int .i64 0,.int .i64 fa] 118)) B);clear B z2 r0 r1 g0 g1 b4 E H;go_wp2_with fail
  refine bodyPost_ret (v:=.agg #[.int .i64 qe,.int .i64 qa]) (by simp [results,Tryz.results139,go_sem,r0',r1']) rfl ⟨by rw [HM.o],?_⟩;exact (J.o.setCell (p:=⟨w.heap.size+1,0,none⟩) (Nat.le_succ _) _).setCell (p:=⟨w.heap.size+1,1,none⟩) (Nat.le_succ _) _
 ·replace HM:=zh (HM.o.trans (if_pos he))
  have y0:(((w1.setCell ⟨w.heap.size+1,0,none⟩ (.int .i64 fe)).setCell ⟨w.heap.size+1,1,none⟩ (.int .i64 fa)).alloc (.cells #[.int .i64 fe,.int .i64 fa] 118)).cell? ⟨w.heap.size+1,0,none⟩=some (.int .i64 fe):=aq _ ((aS _ _ (.inr (by omega))).trans (dH _ r0));have y1:(((w1.setCell ⟨w.heap.size+1,0,none⟩ (.int .i64 fe)).setCell ⟨w.heap.size+1,1,none⟩ (.int .i64 fa)).alloc (.cells #[.int .i64 fe,.int .i64 fa] 118)).cell? ⟨w.heap.size+1,1,none⟩=some (.int .i64 fa):=aq _ (dH _ ((aS _ _ (.inr (by omega))).trans r1));have YB:=zh (And.intro y0 y1);clear y0 y1;go_wp2_with fail
  obtain ⟨y0,y1⟩:=YB.o;refine bodyPost_ret (v:=.agg #[.int .i64 fe,.int .i64 fa]) (by simp [results,Tryz.results139,go_sem,y0,y1]) rfl ⟨by rw [HM.o],?_⟩;repeat (first | exact C.o | refine Below.setCell ?_ (Nat.le_succ _) _ | refine Below.alloc ?_ (by simp;exact C.o.size) _)
end
end
section
open Go.RowKit
def TysAt (w:World) (u:Value) (ts:List Int):Prop:=∃s0 cap,u=.slice s0 ts.length cap∧ts.length≤1000000∧(0<ts.length→∃b off,s0=some ⟨b,off,none⟩∧b<w.heap.size∧∀i,i<ts.length→w.cell? ⟨b,off+i,none⟩=some (.int .i64 (ts.getD i 0)))
theorem TysAt.below {w w':World} {u:Value} {ts:List Int} (h:TysAt w u ts) (hb:Below w.heap.size w w'):TysAt w' u ts:=by
 obtain ⟨s0,cap,h1,h3,h4⟩:=h;refine ⟨s0,cap,h1,h3,fun h0=>?_⟩;obtain ⟨b,off,e,h2,h5⟩:=h4 h0;exact ⟨b,off,e,Nat.lt_of_lt_of_le h2 hb.size,fun i hi=>(hb.cell (p:=⟨b,_,none⟩) h2).trans (h5 i hi)⟩
theorem xO (F:aU) (v:bw) (l:List Ex) (ts:List Int) (i:Nat) (hi:i<l.length):cL F v (l.drop i) (ts.drop i)=orF (eh F v (l.getD i default) (ts.getD i 0)) (cL F v (l.drop (i+1)) (ts.drop (i+1))):=by
 rw [List.drop_eq_getElem_cons hi,cL,eh];have e1:l.getD i default=l[i]:=by rw [List.getD_eq_getElem?_getD,List.getElem?_eq_getElem hi];rfl
 have e2:(ts.drop i).headD 0=ts.getD i 0:=by
  rw [List.headD_eq_head?_getD,List.head?_drop,List.getD_eq_getElem?_getD]
 rw [e1,e2,List.tail_drop]
theorem A4 (F:aU) (v:bw) (l:List Ex) (ts:List Int):cL F v (l.drop l.length) (ts.drop l.length)=okF:=by
 rw [List.drop_length,cL]
theorem ii (cb:Nat) (F:aU) (W:Int) (l:List Ex) (hl:∀x,x∈l→kg cb F W x) (v:bw) (vr:Nat) (w:World) (u tv:Value) (ts:List Int) (h:CtxAt w cb F W vr v) (hr:RepExs Any w u l) (ht:TysAt w tv ts) (hn:l.length≤ts.length) :
    Calls Tryz.prog 144 #[.pointer (some ⟨cb,0,none⟩),u,.map (some vr),tv] w fun e w'=>e=.returned (bH (cL F v l ts))∧Below w.heap.size w w':=by
 obtain ⟨st,tcap,rfl,hB,L⟩:=ht;obtain ⟨cs,⟨s0,cap,rfl,h6,h8,_,M,h5⟩,h7⟩:=hr;have hh:=zh h;have hg:=zh hl;have f:=zh L;have r:=zh M;have hz:=zh h7;have hD:=zh h5;have hE:=zh (And.intro h6 h8);generalize hR:cL F v l ts=R;have HR:=zh (show R=cL F v (l.drop 0) (ts.drop 0) from hR.symm);clear h hl L M h7 h5 h6 h8 hR;have hw:=zh (xO F v l ts);have hA:=zh (A4 F v l ts);have y:=zh (aj w (.cells #[.int .i64 0,.int .i64 0] 118) w.heap.size rfl);go_enter Tryz.func144,Tryz.ntmps144
 go_wp2_with fail
 go_loopg [14] l.length (fun g s14 wr=>∃i:Nat,i+g=l.length∧s14=.int .i64 (i:Int)∧R=cL F v (l.drop i) (ts.drop i)∧Below w.heap.size w wr∧wr.heap[w.heap.size]?=some (.cells #[.int .i64 0,.int .i64 0] 118 (0,0)))
 case atStart=>exact ⟨0,Nat.zero_add _,rfl,HR.o,ag (Below.refl _ _) _,y.o⟩
 case round =>
  obtain ⟨i,hC,rfl,hR,hb,N⟩:=hrel;have H:=zh hR;have HB:=zh hb;have m:=zh N;clear hR hb N;by_cases O:i<l.length
  ·have g1:(i:Int)<(l.length:Int):=by omega
   have g2:(i:Int)<(ts.length:Int):=by omega
   have g3:(0:Int)≤(i:Int):=by omega
   obtain ⟨b,off,Y,_,hs,E⟩:=r.o (by omega);subst Y;have C:=hz.o i O;obtain ⟨op,num,text,ev,pos,d,s,n,c,ho⟩:=C.form;subst ho;rw [d] at C;have G:∀j,j<5→wr.cell? ⟨b,off+i * 5+j,none⟩=(cs i)[j]?:=fun j hj=>(HB.o.cell (p:=⟨b,_,none⟩) hs).trans (E i O j hj);rw [d] at G;have x0:wr.cell? ⟨b,off+i * 5,none⟩=some (.int .i64 op):=G 0 (by decide);have x1:wr.cell? ⟨b,off+i * 5+1,none⟩=some (.int .i64 num):=G 1 (by decide);have x2:wr.cell? ⟨b,off+i * 5+2,none⟩=some (.string text):=G 2 (by decide);have x3:wr.cell? ⟨b,off+i * 5+3,none⟩=some (.slice s n c):=G 3 (by decide);have x4:wr.cell? ⟨b,off+i * 5+4,none⟩=some (.int .i64 pos):=G 4 (by decide);have Q:=zh C;obtain ⟨tb,toff,hm,h4,L⟩:=f.o (by omega);subst hm;have hc:=zh h4;have hv:=zh L;clear h4 L;have hu:Hd (wr.cell? ⟨tb,toff+i,none⟩=some (.int .i64 (ts.getD i 0))):=zh ((HB.o.cell (p:=⟨tb,_,none⟩) hc.o).trans (hv.o i (by omega)));have U:Hd (l.getD i default∈l):=zh (by rw [List.getD_eq_getElem?_getD,List.getElem?_eq_getElem O];exact List.getElem_mem O);replace H:=zh (H.o.trans (hw.o i O));generalize ts.getD i 0=t at *;clear C G d E;go_upto_region 4 with fail
   have I:Hd ((wr.alloc (.cells #[.int .i64 op,.int .i64 num,.string text,.slice s n c,.int .i64 pos] 178)).cell? ⟨wr.heap.size,0,none⟩=some (.int .i64 op)∧(wr.alloc (.cells #[.int .i64 op,.int .i64 num,.string text,.slice s n c,.int .i64 pos] 178)).cell? ⟨wr.heap.size,1,none⟩=some (.int .i64 num)∧(wr.alloc (.cells #[.int .i64 op,.int .i64 num,.string text,.slice s n c,.int .i64 pos] 178)).cell? ⟨wr.heap.size,2,none⟩=some (.string text)∧(wr.alloc (.cells #[.int .i64 op,.int .i64 num,.string text,.slice s n c,.int .i64 pos] 178)).cell? ⟨wr.heap.size,3,none⟩=some (.slice s n c)∧(wr.alloc (.cells #[.int .i64 op,.int .i64 num,.string text,.slice s n c,.int .i64 pos] 178)).cell? ⟨wr.heap.size,4,none⟩=some (.int .i64 pos)∧(wr.alloc (.cells #[.int .i64 op,.int .i64 num,.string text,.slice s n c,.int .i64 pos] 178)).cell? ⟨tb,toff+i,none⟩=some (.int .i64 t)):=zh ⟨aA _ _ _ _ _ _ rfl rfl,aA _ _ _ _ _ _ rfl rfl,aA _ _ _ _ _ _ rfl rfl,aA _ _ _ _ _ _ rfl rfl,aA _ _ _ _ _ _ rfl rfl,aq _ hu.o⟩;have J:=zh (ag HB.o (.cells #[.int .i64 op,.int .i64 num,.string text,.slice s n c,.int .i64 pos] 178));have T:Hd ((wr.alloc (.cells #[.int .i64 op,.int .i64 num,.string text,.slice s n c,.int .i64 pos] 178)).heap[w.heap.size]?=some (.cells #[.int .i64 0,.int .i64 0] 118 (0,0))):=zh (ax _ _ _ _ m.o);have h9:Hd (wr.heap.size<(wr.alloc (.cells #[.int .i64 op,.int .i64 num,.string text,.slice s n c,.int .i64 pos] 178)).heap.size):=zh (by rw [ah];exact Nat.lt_succ_self _);have ha:Hd (tb<(wr.alloc (.cells #[.int .i64 op,.int .i64 num,.string text,.slice s n c,.int .i64 pos] 178)).heap.size):=zh (by rw [ah];have h1:=hc.o;have h2:=HB.o.size;omega);generalize (wr.alloc (.cells #[.int .i64 op,.int .i64 num,.string text,.slice s n c,.int .i64 pos] 178))=w0 at *;generalize wr.heap.size=X at *;clear x0 x1 x2 x3 x4;have Y:=I.o;refine ay (S:=(fun w'=>w'.cell? ⟨X,0,none⟩=some (.int .i64 op)∧w'.cell? ⟨X,1,none⟩=some (.int .i64 num)∧w'.cell? ⟨X,2,none⟩=some (.string text)∧w'.cell? ⟨X,3,none⟩=some (.slice s n c)∧w'.cell? ⟨X,4,none⟩=some (.int .i64 pos)∧w'.cell? ⟨tb,toff+i,none⟩=some (.int .i64 t))) 9 (by kernel_rfl) (by kernel_rfl) (by (try dsimp only);(first | exact k.o | exact a.o | exact P.o | exact I.o)) (fun hH=>?_);simp only [List.take_succ_cons,List.take_zero,List.drop_succ_cons,List.drop_zero]
   refine tkA 0 ?_;refine tkA 1 ?_;refine tkA 2 ?_;refine tkA 3 ?_;refine tkA 4 ?_;refine tkA 5 ?_;refine tkA 6 ?_;refine wpAnyH_ready (rs:=[7,8]) (by kernel_rfl) (by simp) ?_;refine (AllReadyH.cons rfl (fun K hK=>?_) (AllReadyH.cons rfl (fun K hK=>?_) AllReadyH.nil))
   ·go_simp
    go_at_call 139
    refine ((lV cb F W _ (hg.o _ U.o) v vr t _ op num pos text s n c (hh.o.below (am J.o (aw (Below.refl _ _)))) (Q.o.keep (Stays.of_below (am J.o (aw (Below.refl _ _))))))).mono ?_;rintro e w1 ⟨rfl,A⟩;have B:Below w0.heap.size w0 w1:=am (aw (Below.refl _ _)) A;have P:Hd (w1.cell? ⟨X,0,none⟩=some (.int .i64 op)∧w1.cell? ⟨X,1,none⟩=some (.int .i64 num)∧w1.cell? ⟨X,2,none⟩=some (.string text)∧w1.cell? ⟨X,3,none⟩=some (.slice s n c)∧w1.cell? ⟨X,4,none⟩=some (.int .i64 pos)∧w1.cell? ⟨tb,toff+i,none⟩=some (.int .i64 t)):=zh (by have h:=I.o;have hb:=B;have hx:=h9.o;have ht:=ha.o;exact ⟨(hb.cell (p:=⟨X,0,none⟩) hx).trans h.1,(hb.cell (p:=⟨X,1,none⟩) hx).trans h.2.1,(hb.cell (p:=⟨X,2,none⟩) hx).trans h.2.2.1,(hb.cell (p:=⟨X,3,none⟩) hx).trans h.2.2.2.1,(hb.cell (p:=⟨X,4,none⟩) hx).trans h.2.2.2.2.1,(hb.cell (p:=⟨tb,_,none⟩) ht).trans h.2.2.2.2.2⟩);have h3:=zh (am J.o B);have z:=zh ((B.block _ (af T.o)).trans T.o);have hy:=zh B.size;clear A B Y;generalize eh F v (l.getD i default) t=q at *;obtain ⟨fe,fa⟩:=q;unfold bH;dsimp only;go_simp;refine hK.out _ _ ?_ (fun hH=>?_)
    ·(try dsimp only)
     exact P.o
    clear hK K;try go_simp
    refine rd1 8 fun K hK=>?_;go_simp;refine hK.out _ _ ?_ (fun hH=>?_)
    ·(try dsimp only)
     (first | exact P.o | (have h:=P.o;exact ⟨aq _ h.1,aq _ h.2.1,aq _ h.2.2.1,aq _ h.2.2.2.1,aq _ h.2.2.2.2.1,aq _ h.2.2.2.2.2⟩))
    clear hK K;try go_simp
    refine wpAnyH_done (by kernel_rfl) ?_ _;dsimp only [aP];clear I P;go_upto_region 5 with fail
    have hq:(w1.alloc (.cells #[.int .i64 fe,.int .i64 fa] 118)).cell? ⟨w1.heap.size,0,none⟩=some (.int .i64 fe):=aA _ _ _ _ _ _ rfl rfl;have hp:(w1.alloc (.cells #[.int .i64 fe,.int .i64 fa] 118)).cell? ⟨w1.heap.size,1,none⟩=some (.int .i64 fa):=aA _ _ _ _ _ _ rfl rfl;have V:=zh (ag h3.o (.cells #[.int .i64 fe,.int .i64 fa] 118));have D:Hd ((w1.alloc (.cells #[.int .i64 fe,.int .i64 fa] 118)).heap[w.heap.size]?=_):=zh (ax _ _ _ _ z.o);generalize (w1.alloc (.cells #[.int .i64 fe,.int .i64 fa] 118))=w5 at *;by_cases he:fe=0
    ·subst he
     go_wp2_with fail
     go_roundg (l.length-i-1)
     case measure=>omega
     case rel=>exact ⟨i+1,by omega,rfl,H.o.trans (if_neg (by simp)),V.o,D.o⟩
    ·have r0:w5.cell? ⟨w.heap.size,0,none⟩=some (.int .i64 0):=aa D.o (j:=0) rfl
     have r1:w5.cell? ⟨w.heap.size,1,none⟩=some (.int .i64 0):=aa D.o (j:=1) rfl;obtain ⟨k0,k1,-⟩:=fzs D.o;have HE:=zh (H.o.trans (if_pos he));go_wp2_with fail
     refine bodyPost_ret (v:=.agg #[.int .i64 fe,.int .i64 fa]) (by simp [results,Tryz.results144,go_sem,r0,r1]) rfl ⟨by rw [HE.o];rfl,?_⟩;exact (V.o.setCell (p:=⟨w.heap.size,0,none⟩) (Nat.le_refl _) _).setCell (p:=⟨w.heap.size,1,none⟩) (Nat.le_refl _) _
   ·go_simp
    have Z:Below w0.heap.size w0 (w0.drew.alloc (.cells #[.int .i64 0,.int .i64 0] 118)):=ag (aw (Below.refl _ _)) _;have a:Hd ((w0.drew.alloc (.cells #[.int .i64 0,.int .i64 0] 118)).cell? ⟨X,0,none⟩=some (.int .i64 op)∧(w0.drew.alloc (.cells #[.int .i64 0,.int .i64 0] 118)).cell? ⟨X,1,none⟩=some (.int .i64 num)∧(w0.drew.alloc (.cells #[.int .i64 0,.int .i64 0] 118)).cell? ⟨X,2,none⟩=some (.string text)∧(w0.drew.alloc (.cells #[.int .i64 0,.int .i64 0] 118)).cell? ⟨X,3,none⟩=some (.slice s n c)∧(w0.drew.alloc (.cells #[.int .i64 0,.int .i64 0] 118)).cell? ⟨X,4,none⟩=some (.int .i64 pos)∧(w0.drew.alloc (.cells #[.int .i64 0,.int .i64 0] 118)).cell? ⟨tb,toff+i,none⟩=some (.int .i64 t)):=zh (by have h:=I.o;have hb:=Z;have hx:=h9.o;have ht:=ha.o;exact ⟨(hb.cell (p:=⟨X,0,none⟩) hx).trans h.1,(hb.cell (p:=⟨X,1,none⟩) hx).trans h.2.1,(hb.cell (p:=⟨X,2,none⟩) hx).trans h.2.2.1,(hb.cell (p:=⟨X,3,none⟩) hx).trans h.2.2.2.1,(hb.cell (p:=⟨X,4,none⟩) hx).trans h.2.2.2.2.1,(hb.cell (p:=⟨tb,_,none⟩) ht).trans h.2.2.2.2.2⟩);have h0:=zh (am J.o Z);have hd:=zh ((Z.block _ (af T.o)).trans T.o);have hi:Hd ((w0.drew.alloc (.cells #[.int .i64 0,.int .i64 0] 118)).heap[w0.heap.size]?=some (.cells #[.int .i64 0,.int .i64 0] 118 (0,0))):=zh (aj _ _ _ rfl);clear Z;refine hK.out _ _ ?_ (fun hH=>?_)
    ·(try dsimp only)
     exact a.o
    clear hK K;try go_simp
    refine rd1 7 fun K hK=>?_;go_simp;go_at_call 139
    refine ((lV cb F W _ (hg.o _ U.o) v vr t _ op num pos text s n c (hh.o.below h0.o) (Q.o.keep (Stays.of_below h0.o)))).mono ?_;rintro e w1 ⟨rfl,A⟩;have h3:=zh (am h0.o A);have z:=zh ((A.block _ (af hd.o)).trans hd.o);have hk:=zh ((A.block _ (af hi.o)).trans hi.o);have k:Hd (w1.cell? ⟨X,0,none⟩=some (.int .i64 op)∧w1.cell? ⟨X,1,none⟩=some (.int .i64 num)∧w1.cell? ⟨X,2,none⟩=some (.string text)∧w1.cell? ⟨X,3,none⟩=some (.slice s n c)∧w1.cell? ⟨X,4,none⟩=some (.int .i64 pos)∧w1.cell? ⟨tb,toff+i,none⟩=some (.int .i64 t)):=zh (by have h:=a.o;exact ⟨(A.cell (p:=⟨X,0,none⟩) (az h.1)).trans h.1,(A.cell (p:=⟨X,1,none⟩) (az h.1)).trans h.2.1,(A.cell (p:=⟨X,2,none⟩) (az h.1)).trans h.2.2.1,(A.cell (p:=⟨X,3,none⟩) (az h.1)).trans h.2.2.2.1,(A.cell (p:=⟨X,4,none⟩) (az h.1)).trans h.2.2.2.2.1,(A.cell (p:=⟨tb,_,none⟩) (az h.2.2.2.2.2)).trans h.2.2.2.2.2⟩);clear A Y;generalize eh F v (l.getD i default) t=q at *;obtain ⟨fe,fa⟩:=q;unfold bH;dsimp only;go_simp;refine hK.out _ _ ?_ (fun hH=>?_)
    ·(try dsimp only)
     exact k.o
    clear hK K;try go_simp
    refine wpAnyH_done (by kernel_rfl) ?_ _;dsimp only [aP];clear I a k;obtain ⟨z0,z1,-⟩:=css hk.o;obtain ⟨y0,y1,-⟩:=fzs hk.o;go_upto_region 5 with fail
    have hq:((w1.setCell ⟨w0.heap.size,0,none⟩ (.int .i64 fe)).setCell ⟨w0.heap.size,1,none⟩ (.int .i64 fa)).cell? ⟨w0.heap.size,0,none⟩=some (.int .i64 fe):=(aS _ _ (.inr (by omega))).trans (dH _ z0);have hp:((w1.setCell ⟨w0.heap.size,0,none⟩ (.int .i64 fe)).setCell ⟨w0.heap.size,1,none⟩ (.int .i64 fa)).cell? ⟨w0.heap.size,1,none⟩=some (.int .i64 fa):=dH _ ((aS _ _ (.inr (by omega))).trans z1);have V:Hd (Below w.heap.size w ((w1.setCell ⟨w0.heap.size,0,none⟩ (.int .i64 fe)).setCell ⟨w0.heap.size,1,none⟩ (.int .i64 fa))):=zh ((h3.o.setCell (p:=⟨w0.heap.size,0,none⟩) J.o.size _).setCell (p:=⟨w0.heap.size,1,none⟩) J.o.size _);have hf:Hd (w.heap.size≠w0.heap.size):=zh (Nat.ne_of_lt (af T.o));have D:Hd (((w1.setCell ⟨w0.heap.size,0,none⟩ (.int .i64 fe)).setCell ⟨w0.heap.size,1,none⟩ (.int .i64 fa)).heap[w.heap.size]?=_):=zh ((ak _ _ _ _ hf.o).trans ((ak _ _ _ _ hf.o).trans z.o));clear z0 z1 y0 y1;generalize ((w1.setCell ⟨w0.heap.size,0,none⟩ (.int .i64 fe)).setCell ⟨w0.heap.size,1,none⟩ (.int .i64 fa))=w5 at *;by_cases he:fe=0
    ·subst he
     go_wp2_with fail
     go_roundg (l.length-i-1)
     case measure=>omega
     case rel=>exact ⟨i+1,by omega,rfl,H.o.trans (if_neg (by simp)),V.o,D.o⟩
    ·have r0:w5.cell? ⟨w.heap.size,0,none⟩=some (.int .i64 0):=aa D.o (j:=0) rfl
     have r1:w5.cell? ⟨w.heap.size,1,none⟩=some (.int .i64 0):=aa D.o (j:=1) rfl;obtain ⟨k0,k1,-⟩:=fzs D.o;have HE:=zh (H.o.trans (if_pos he));go_wp2_with fail
     refine bodyPost_ret (v:=.agg #[.int .i64 fe,.int .i64 fa]) (by simp [results,Tryz.results144,go_sem,r0,r1]) rfl ⟨by rw [HE.o];rfl,?_⟩;exact (V.o.setCell (p:=⟨w.heap.size,0,none⟩) (Nat.le_refl _) _).setCell (p:=⟨w.heap.size,1,none⟩) (Nat.le_refl _) _
  ·obtain rfl:i=l.length:=by omega
   have g1:¬(l.length:Int)<(l.length:Int):=by omega
   have HE:=zh (H.o.trans hA.o);obtain ⟨r0,r1,-⟩:=css m.o;obtain ⟨k0,k1,-⟩:=fzs m.o;go_wp2_with fail
   refine bodyPost_ret (v:=.agg #[.int .i64 0,.int .i64 0]) (by simp [results,Tryz.results144,go_sem,r0,r1]) rfl ⟨by rw [HE.o];rfl,?_⟩;exact (HB.o.setCell (p:=⟨w.heap.size,0,none⟩) (Nat.le_refl _) _).setCell (p:=⟨w.heap.size,1,none⟩) (Nat.le_refl _) _
end
end Go.Proofs.YthgcpfkochikfaaGreat
