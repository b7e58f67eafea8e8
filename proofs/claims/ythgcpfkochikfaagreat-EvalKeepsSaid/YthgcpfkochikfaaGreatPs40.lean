/-
  EvalSigns: part 40 of its proof: see the last text.
-/
import Derived.Test.YthgcpfkochikfaaGreatPs39
set_option maxRecDepth 100000
set_option maxHeartbeats 16000000
namespace Go.Proofs.YthgcpfkochikfaaGreat
section
open Go.RowKit
attribute [local go_sem ↓] Go.wp_at_zero Go.wp_at_succ
def ArAt (D:Nat) (w:World) (v:Value) (vs:List Vv):Prop:=∃cs,RowOf (VB D w) w v 3 vs.length cs∧∀i,i<vs.length→VvAt (KS D w) w (.agg (cs i).toArray) (vs.getD i noV)∧bf (vs.getD i noV).num
theorem ArAt.low {D:Nat} {w w':World} {v:Value} {vs:List Vv} (h:ArAt D w v vs) (hb:Below w.heap.size w w'):ArAt D w' v vs:=by
 obtain ⟨cs,h1,h2⟩:=h;exact ⟨cs,h1.vb (Stays.of_below hb),fun i hi=>⟨(h2 i hi).1.low hb,(h2 i hi).2⟩⟩
theorem kB:∀(vs:List Vv) (ps:List (ByteArray×Int)),eP vs ps=true ↔ vs.length=ps.length∧∀i,i<vs.length→ms (vs.getD i noV) (ps.getD i default).2=true
 | [],[]=>⟨fun _=>⟨rfl,fun i hi=>absurd hi (by simp)⟩,fun _=>rfl⟩
 | [],_ :: _=>⟨fun h=>(by cases h),fun h=>(by cases h.1)⟩
 | _ :: _,[]=>⟨fun h=>(by cases h),fun h=>(by cases h.1)⟩
 | v :: vs,p :: ps=>by
  rw [eP,Bool.and_eq_true,kB vs ps];constructor
  ·rintro ⟨h1,h2,h3⟩
   refine ⟨by simp [h2],fun i hi=>?_⟩
   cases i with
   | zero=>exact h1
   | succ i=>exact h3 i (by simpa using hi)
  ·rintro ⟨h1,h2⟩
   exact ⟨h2 0 (by simp),by simpa using h1,fun i hi=>h2 (i+1) (by simpa using hi)⟩
theorem uW {v:Vv} {t:Int} (h:ms v t=true):v.text.length≤256:=by
 unfold ms at h;split at h
 ·simp only [Bool.and_eq_true,decide_eq_true_eq] at h
  exact h.2
 ·simp only [Bool.and_eq_true,decide_eq_true_eq] at h
  omega
theorem ArAt.vs {y:Ly} {w:World} {v:Value} {vs:List Vv} {ps:List (ByteArray×Int)} (h:ArAt y.D w v vs) (hf:eP vs ps=true):VsAt y w v vs:=by
 obtain ⟨cs,h1,h2⟩:=h;exact ⟨cs,h1,fun i hi=>⟨(h2 i hi).1,(h2 i hi).2,uW (((kB vs ps).1 hf).2 i hi)⟩⟩
theorem yb:∀{l:List Fn} {f:Fn},f∈l→eT f.body≤gS l
 | g :: l,f,h=>by
  rw [gS,szF];rcases List.mem_cons.1 h with rfl | h
  ·omega
  ·have:=yb h
   omega
theorem zI {F:List Fn} {x:ByteArray} {vs:List Vv} {limit:Int} {j:Jn} (h:(bL F).1≠0∨cD F x=none∨∃f,cD F x=some f∧eP vs f.params=false):bK F x vs limit j=(⟨noV,7,0⟩,j):=by
 unfold bK;by_cases c:(bL F).1≠0
 ·rw [if_pos c]
 ·rw [if_neg c]
  rcases h with h | h | ⟨f,h,g⟩
  ·exact absurd h c
  ·rw [h]
  ·rw [h]
   dsimp only;rw [g];rfl
theorem zo {F:List Fn} {x:ByteArray} {vs:List Vv} {limit:Int} {j:Jn} {f:Fn} (h:(bL F).1=0) (h1:cD F x=some f) (h2:eP vs f.params=true):bK F x vs limit j=match aF F 16 x vs ⟨max 0 (min limit 100000),0,j.pairs,j.undo⟩ with
      | .ok v r=>(⟨v,0,r.used⟩,⟨r.pairs,r.undo⟩)
      | .trap t r=>(⟨noV,t,r.used⟩,j):=by
 unfold bK;rw [if_neg (fun q=>q h),h1];dsimp only;rw [if_pos h2];generalize aF F 16 x vs _=q
 cases q<;>rfl
def BG (j:Jo):Rn Vv→Prop
 | .ok _ q=>kf j q
 | .trap _ q=>kf j q
theorem wI (F:List Fn) (nm:ByteArray) (vs:List Vv) (L:Int) (j:Jo):BG j (aF F 16 nm vs ⟨L,0,j.pairs,j.undo⟩):=by
 have h:=pm (Inv.back j) F 16 nm vs ⟨L,0,j.pairs,j.undo⟩ ⟨Nat.le_refl _,Jo.back_all j⟩;revert h
 cases aF F 16 nm vs ⟨L,0,j.pairs,j.undo⟩<;>exact id
structure RnB (w:World) (PB NB JX OX NO JB:Nat) (pv:Value) (nm:ByteArray):Prop where
 p:w.heap[PB]?=some (.cells #[pv] 26 (0,0))
 n:w.heap[NB]?=some (.cells #[.string nm] 9 (0,0))
 j:w.heap[JX]?=some (.cells #[.pointer (some ⟨JB,0,none⟩)] 31 (0,0))
 o:w.heap[OX]?=some (.cells #[.int .i64 0,.int .i64 0,.slice none 0 0,.int .i64 0,.int .i64 0] 38 (0,0))
 z:w.heap[NO]?=some (.cells #[.int .i64 0,.int .i64 0,.slice none 0 0,.int .i64 7,.int .i64 0] 38 (0,0))
theorem RnB.below {w w':World} {PB NB JX OX NO JB:Nat} {pv:Value} {nm:ByteArray} (h:RnB w PB NB JX OX NO JB pv nm) (hb:Below w.heap.size w w'):RnB w' PB NB JX OX NO JB pv nm:=
 ⟨(hb.block _ (af h.p)).trans h.p,(hb.block _ (af h.n)).trans h.n,(hb.block _ (af h.j)).trans h.j,(hb.block _ (af h.o)).trans h.o,(hb.block _ (af h.z)).trans h.z⟩
theorem RnB.made (w:World) (JB:Nat) (pv:Value) (nm:ByteArray):RnB (((((w.alloc (.cells #[pv] 26)).alloc (.cells #[.string nm] 9)).alloc (.cells #[.pointer (some ⟨JB,0,none⟩)] 31)).alloc (.cells #[.int .i64 0,.int .i64 0,.slice none 0 0,.int .i64 0,.int .i64 0] 38)).alloc (.cells #[.int .i64 0,.int .i64 0,.slice none 0 0,.int .i64 7,.int .i64 0] 38)) w.heap.size (w.heap.size+1) (w.heap.size+1+1) (w.heap.size+1+1+1) (w.heap.size+1+1+1+1) JB pv nm:=
 ⟨ax _ _ _ _ (ax _ _ _ _ (ax _ _ _ _ (ax _ _ _ _ (aj _ _ _ rfl)))),ax _ _ _ _ (ax _ _ _ _ (ax _ _ _ _ (aj _ _ _ (ah _ _)))),ax _ _ _ _ (ax _ _ _ _ (aj _ _ _ (by simp only [ah]))),ax _ _ _ _ (aj _ _ _ (by simp only [ah])),aj _ _ _ (by simp only [ah])⟩
def jB (U JB N D:Nat) (w:World) (o:Oc×Jn) (e:Ending) (w':World):Prop:=∃p c,e=.returned (.agg #[.int .i64 o.1.val.ty,.int .i64 o.1.val.num,.slice p o.1.val.text.length c,.int .i64 o.1.trap,.int .i64 o.1.used]) ∧
 VvAt (KS D w') w' (.agg #[.int .i64 o.1.val.ty,.int .i64 o.1.val.num,.slice p o.1.val.text.length c]) o.1.val∧OkV o.1.val∧JAt U w' JB ⟨o.2.pairs,o.2.undo⟩ (N+100000)∧OnS (JT JB U w) w w'
theorem gd {B OX:Nat} {w W:World} (h:Below B w W) (hb:B≤OX) (a b:Int) (p:Option Addr) (n c:Nat) (t u:Int):Below B w (lE W OX a b p n c t u):=
 ((((h.setCell (p:=⟨OX,0,none⟩) hb _).setCell (p:=⟨OX,1,none⟩) hb _).setCell (p:=⟨OX,2,none⟩) hb _).setCell (p:=⟨OX,3,none⟩) hb _).setCell (p:=⟨OX,4,none⟩) hb _
theorem lU {U JB N D:Nat} {w W:World} {j:Jo} (h:JAt U w JB j N) (hb:Below w.heap.size w W):jB U JB N D w (⟨noV,7,0⟩,⟨j.pairs,j.undo⟩) (.returned (.agg #[.int .i64 0,.int .i64 0,.slice none 0 0,.int .i64 7,.int .i64 0])) W:=
 ⟨none,0,rfl,VvAt.no,OkV.no,(h.below hb).mono (by omega),OnS.of_below hb⟩
theorem Aq {U JB N D OX n cv:Nat} {RB:Nat} {F:List Fn} {w wd w9:World} {r:Rst} {v:Vv} {k:Int} {pv:Option Addr} {B:Array Value} (hn:v.text.length=n) (hv:VvR (⟨D,U,RB,JB,N,F⟩:Ly) wd v (.agg #[.int .i64 v.ty,.int .i64 v.num,.slice pv n cv])) (hr:RunAt (⟨D,U,RB,JB,N,F⟩:Ly) wd r k)
    (hO:wd.heap[OX]?=some (.cells B 38 (0,0))) (hs:On OX wd w9) (ho:OnS (JT JB U w) w wd) (hx:w.heap.size≤OX) (hd:D≤w.heap.size) (hu:0≤r.used∧r.used≤100000) :
    jB U JB N D w (⟨v,0,r.used⟩,⟨r.pairs,r.undo⟩) (.returned (.agg #[.int .i64 v.ty,.int .i64 v.num,.slice pv n cv,.int .i64 0,.int .i64 r.used])) w9:=by
 subst hn;have A:OfTy wd OX 38:=⟨_,_,hO⟩
 have hD:D≤OX:=Nat.le_trans hd hx;refine ⟨pv,cv,rfl,hv.1.stays (Stays.of_ne hs fun q=>?_),hv.2,(hr.jo.keep (Stays.of_ne hs fun q=>?_) (hs.block _ hr.jo.ty.lt (fun e=>hr.jo.ty.ne A (by decide) (by injection e))) (fun b _ hb=>hs.block b hb.lt (fun e=>hb.ne A (by decide) (by injection e)))).mono (by show N+r.used.toNat≤_;omega),OnS.new ho (OnS.of_on hs (T:=fun k=>k=OX) rfl) fun _ hk=>.inr (hk▸hx)⟩
 ·rcases q with q | q
  ·exact absurd hD (Nat.not_le_of_lt q)
  ·exact A.ne q (by decide) rfl
 ·rcases q with q | q | q | q
  ·exact A.ne q (by decide) rfl
  ·exact A.ne q (by decide) rfl
  ·exact A.ne q (by decide) rfl
  ·exact A.ne q (by decide) rfl
theorem uP {U JB N D OX:Nat} {w wb w1 w9:World} {j:Jo} {t:Int} {u:Int} {B:Array Value} (hj:JAt U w1 JB j (N+u.toNat)) (hO:w1.heap[OX]?=some (.cells B 38 (0,0))) (hs:On OX w1 w9) (h1:OnS (fun k=>k=JB) wb w1) (ho:OnS (JT JB U w) w wb) (hx:w.heap.size≤OX) (hu:0≤u∧u≤100000) :
    jB U JB N D w (⟨noV,t,u⟩,⟨j.pairs,j.undo⟩) (.returned (.agg #[.int .i64 0,.int .i64 0,.slice none 0 0,.int .i64 t,.int .i64 u])) w9:=by
 have A:OfTy w1 OX 38:=⟨_,_,hO⟩
 refine ⟨none,0,rfl,VvAt.no,OkV.no,(hj.keep (Stays.of_ne hs fun q=>?_) (hs.block _ hj.ty.lt (fun e=>hj.ty.ne A (by decide) (by injection e))) (fun b _ hb=>hs.block b hb.lt (fun e=>hb.ne A (by decide) (by injection e)))).mono (by omega),OnS.new (OnS.new ho h1 fun k hk=>.inl (.inl hk)) (OnS.of_on hs (T:=fun k=>k=OX) rfl) fun _ hk=>.inr (hk▸hx)⟩;rcases q with q | q | q | q
 ·exact A.ne q (by decide) rfl
 ·exact A.ne q (by decide) rfl
 ·exact A.ne q (by decide) rfl
 ·exact A.ne q (by decide) rfl
theorem bB (a:Act) (i:Nat) (v:Value) (h2:i≠10) (R:Ending→World→Prop) (ds:List Deferred) (u:FrameMode) (w:World) (h:Leaves Tryz.prog Tryz.f13 (a.put (some i) v).tmps R ds u w):Leaves Tryz.prog Tryz.f13 a.tmps R ds u w:=by
 refine gq ?_ ds u w h;have e:∀j,i≠j→(a.tmps.setIfInBounds i v)[j]?=a.tmps[j]?:=fun j hj=>Array.getElem?_setIfInBounds_ne hj;simp only [results,Tryz.results13,Act.put]
 simp [e 10 h2]
theorem Bk {D U JB N:Nat} {j:Jo} {F:List Fn} {pv av:Value} {vs:List Vv} (nm:ByteArray) (limit:Int) (w:World) (hl:bf limit) (hF:RepFns (fun b=>b<D) w pv F) (HS:(bL F).1=0→gC F∧gS F≤100000) (hp:∀f∈F,f.params.length≤100000)
    (ha:ArAt D w av vs) (hj:JAt U w JB j N) (hd:D≤JB∧D≤U∧U≤w.heap.size∧N≤1000000):Calls Tryz.prog 13 #[.agg #[pv],.string nm,av,.pointer (some ⟨JB,0,none⟩),.int .i64 limit] w (jB U JB N D w (bK F nm vs limit ⟨j.pairs,j.undo⟩)):=by
 have HF:=zh hF;have hP:=zh HS;have HA:=zh ha;have HJ:=zh hj;have HD:=zh hd;have kc:=zh hl;have HC:=zh (fun (W:World) (hW:Below w.heap.size w W)=>qW 32 (w.heap.size+1) (fun i=>((F.getD i default).name.toList==nm.toList)) (ixF F nm) W (fun _ _=>Tryz.call32 _ _) (hF.keep (Stays.of_below hW)) (sY _ _) (fun i hi=>sM _ _ i hi) (fun q=>ui q));have HE:=zh (fun (W:World) (hW:Below w.heap.size w W)=>rM F hp W pv ((hF.keep (Stays.of_below hW)).mono fun _ _=>trivial));have HM:=zh (RnB.made w JB pv nm);have H7:Hd (Below w.heap.size w (((((w.alloc (.cells #[pv] 26)).alloc (.cells #[.string nm] 9)).alloc (.cells #[.pointer (some ⟨JB,0,none⟩)] 31)).alloc (.cells #[.int .i64 0,.int .i64 0,.slice none 0 0,.int .i64 0,.int .i64 0] 38)).alloc (.cells #[.int .i64 0,.int .i64 0,.slice none 0 0,.int .i64 7,.int .i64 0] 38))):=zh (ag (ag (ag (ag (ag (Below.refl _ _) _) _) _) _) _);have H4:=zh (fun h=>zI (F:=F) (x:=nm) (vs:=vs) (limit:=limit) (j:=⟨j.pairs,j.undo⟩) h);have Ho:=zh (fun f h h1 h2=>zo (F:=F) (x:=nm) (vs:=vs) (limit:=limit) (j:=⟨j.pairs,j.undo⟩) (f:=f) h h1 h2);generalize bK F nm vs limit ⟨j.pairs,j.undo⟩=o at *;obtain ⟨fcs,⟨s0,cap,rfl,kE,K2,_,hg,_⟩,HX⟩:=hF;obtain ⟨acs,⟨sa,capa,rfl,Hm,Hn,_,V,_⟩,hD⟩:=ha;have Hu:=zh hg;have Kn:=zh HX;have H0:=zh V;have HI:=zh hD;have Kt:(vs.length:Int)≤9223372036854775807:=by unfold maxLen at Hn;omega
 clear HS hp hj hd hl hg HX V hD kE K2 Hm;have Kv:∀(fn:Go.Fn) (first cap:Array Value) (w:World),(Instr.makeFunc fn first cap).run Tryz.prog w=.ok (.func fn first cap) w:=fun _ _ _ _=>rfl;have K7:Hd ((bL F).1=0→∀f,f∈F→kF F f.body∧eT f.body≤100000):=zh (fun h f hf=>⟨((rH h (hP.o h).1).2 f hf).1,Nat.le_trans (yb hf) (hP.o h).2⟩);go_enter_defers Tryz.func13,Tryz.ntmps13
 go_upto_region 2 with fail
 have B:Hd (w.heap.size=w.heap.size∧w.heap.size<w.heap.size+1∧w.heap.size+1<w.heap.size+1+1∧w.heap.size+1+1<w.heap.size+1+1+1∧w.heap.size+1+1+1<w.heap.size+1+1+1+1):=zh (by omega);generalize (((((w.alloc (.cells #[.slice s0 F.length cap] 26)).alloc (.cells #[.string nm] 9)).alloc (.cells #[.pointer (some ⟨JB,0,none⟩)] 31)).alloc (.cells #[.int .i64 0,.int .i64 0,.slice none 0 0,.int .i64 0,.int .i64 0] 38)).alloc (.cells #[.int .i64 0,.int .i64 0,.slice none 0 0,.int .i64 7,.int .i64 0] 38))=w1 at *;generalize w.heap.size+1+1+1+1=NO at *;generalize w.heap.size+1+1+1=OX at *;generalize w.heap.size+1+1=JX at *;generalize w.heap.size+1=NB at *;generalize hE:w.heap.size=PB at *;replace B:Hd (w.heap.size=PB∧PB<NB∧NB<JX∧JX<OX∧OX<NO):=zh ⟨hE,B.o.2⟩;replace H7:Hd (Below w.heap.size w w1):=zh (by rw [hE];exact H7.o);replace HE:Hd (∀W,Below w.heap.size w W→_):=zh (fun W hW=>HE.o W (by rw [←hE];exact hW));replace HC:Hd (∀W,Below w.heap.size w W→_):=zh (fun W hW=>HC.o W (by rw [←hE];exact hW));clear hE;have p0:=aa HM.o.p (j:=0) (u:=.slice s0 F.length cap) rfl;have kd:=zh (HC.o w1 H7.o (fun i hi v1 v2 v3 v4 W2 K6=>wN _ v1 v2 v3 v4 nm NB W2 (aa ((HM.o.below K6).n) (j:=0) rfl)));generalize HW:ixF F nm=ix at *;have X:Hd (cD F nm=if ix<F.length then some (F.getD ix default) else none):=zh (by rw [←HW];exact kG F nm);obtain ⟨iv,He⟩:∃v,v=(if ix<F.length then (ix:Int) else -1):=⟨_,rfl⟩
 rw [←He] at kd;have ke:=zh He;clear HW He;go_wp2_with fail
 refine kd.o.mono ?_;rintro e w2 ⟨rfl,Hl⟩;have kb:=zh (HM.o.below Hl);have kp:Hd (Below w.heap.size w w2):=zh (am H7.o Hl);clear Hl p0;have p0:=aa kb.o.p (j:=0) (u:=.slice s0 F.length cap) rfl;go_wp2_with fail
 refine (HE.o w2 kp.o).mono ?_;rintro e w3 ⟨rfl,Hk⟩;have P:=zh (kb.o.below Hk);have hX:Hd (Below w.heap.size w w3):=zh (am kp.o Hk);clear Hk p0;have p0:=aa P.o.p (j:=0) (u:=.slice s0 F.length cap) rfl;have j0:=aa P.o.j (j:=0) (u:=.pointer (some ⟨JB,0,none⟩)) rfl;generalize K3:(bL F).1=ce at *;generalize (bL F).2=ca at *;clear K3;by_cases k1:ce=0
 case neg =>
  have s:=zh (H4.o (.inl k1));have zz:=P.o.z;have oo:=P.o.o;have z0:=aa zz (j:=0) (u:=.int .i64 0) rfl;have z1:=aa zz (j:=1) (u:=.int .i64 0) rfl;have z2:=aa zz (j:=2) (u:=.slice none 0 0) rfl;have z3:=aa zz (j:=3) (u:=.int .i64 7) rfl;have z4:=aa zz (j:=4) (u:=.int .i64 0) rfl;have o0:=aa oo (j:=0) (u:=.int .i64 0) rfl;have o1:=aa oo (j:=1) (u:=.int .i64 0) rfl;have o2:=aa oo (j:=2) (u:=.slice none 0 0) rfl;have o3:=aa oo (j:=3) (u:=.int .i64 0) rfl;have o4:=aa oo (j:=4) (u:=.int .i64 0) rfl;have f0:=ae oo 0;have f1:=ae oo 1;have f2:=ae oo 2;have f3:=ae oo 3;have f4:=ae oo 4;have A:=zh (fk oo 0 0 none 0 0 7 0);clear zz oo;go_wp2_with fail
  have A:=A.o;unfold lE at A;have r0:=aa A (j:=0) (u:=.int .i64 0) rfl;have r1:=aa A (j:=1) (u:=.int .i64 0) rfl;have r2:=aa A (j:=2) (u:=.slice none 0 0) rfl;have r3:=aa A (j:=3) (u:=.int .i64 7) rfl;have r4:=aa A (j:=4) (u:=.int .i64 0) rfl;clear z0 z1 z2 z3 z4 o0 o1 o2 o3 o4 f0 f1 f2 f3 f4;refine ⟨.agg #[.int .i64 0,.int .i64 0,.slice none 0 0,.int .i64 7,.int .i64 0],by simp [results,Tryz.results13,go_sem,r0,r1,r2,r3,r4],?_⟩;rw [s.o];exact lU HJ.o (gd hX.o (by have:=B.o;omega) 0 0 none 0 0 7 0)
 subst k1;by_cases R:ix<F.length
 case neg =>
  rw [if_neg R] at X;obtain rfl:iv=-1:=by rw [ke.o,if_neg R]
  clear R;have s:=zh (H4.o (.inr (.inl X.o)));have zz:=P.o.z;have oo:=P.o.o;have z0:=aa zz (j:=0) (u:=.int .i64 0) rfl;have z1:=aa zz (j:=1) (u:=.int .i64 0) rfl;have z2:=aa zz (j:=2) (u:=.slice none 0 0) rfl;have z3:=aa zz (j:=3) (u:=.int .i64 7) rfl;have z4:=aa zz (j:=4) (u:=.int .i64 0) rfl;have o0:=aa oo (j:=0) (u:=.int .i64 0) rfl;have o1:=aa oo (j:=1) (u:=.int .i64 0) rfl;have o2:=aa oo (j:=2) (u:=.slice none 0 0) rfl;have o3:=aa oo (j:=3) (u:=.int .i64 0) rfl;have o4:=aa oo (j:=4) (u:=.int .i64 0) rfl;have f0:=ae oo 0;have f1:=ae oo 1;have f2:=ae oo 2;have f3:=ae oo 3;have f4:=ae oo 4;have A:=zh (fk oo 0 0 none 0 0 7 0);clear zz oo;go_wp2_with fail
  have A:=A.o;unfold lE at A;have r0:=aa A (j:=0) (u:=.int .i64 0) rfl;have r1:=aa A (j:=1) (u:=.int .i64 0) rfl;have r2:=aa A (j:=2) (u:=.slice none 0 0) rfl;have r3:=aa A (j:=3) (u:=.int .i64 7) rfl;have r4:=aa A (j:=4) (u:=.int .i64 0) rfl;clear z0 z1 z2 z3 z4 o0 o1 o2 o3 o4 f0 f1 f2 f3 f4;refine ⟨.agg #[.int .i64 0,.int .i64 0,.slice none 0 0,.int .i64 7,.int .i64 0],by simp [results,Tryz.results13,go_sem,r0,r1,r2,r3,r4],?_⟩;rw [s.o];exact lU HJ.o (gd hX.o (by have:=B.o;omega) 0 0 none 0 0 7 0)
 rw [if_pos R] at X;obtain rfl:iv=(ix:Int):=by rw [ke.o,if_pos R]
 obtain ⟨f,hf⟩:∃f,f=F.getD ix default:=⟨_,rfl⟩
 have Ky:=zh hf;rw [←hf] at X;obtain ⟨fb,foff,kv,K1,H1,HY⟩:=Hu.o (by omega);subst kv;obtain ⟨vp,vb,Hh,⟨pcs,T,Z⟩,_⟩:=Kn.o ix R;rw [←hf] at Hh T Z;obtain ⟨s1,c1,rfl,ht,hw,_,HO,_⟩:=T;have Kd:=zh HO;have Hv:=zh Z;have Kf:Hd (f.params.length≤maxLen):=zh (Nat.le_trans ht hw);have d:=HY ix R;rw [Hh] at d;have kl:Hd (w.cell? ⟨fb,foff+ix * 5+1,none⟩=some (.slice s1 f.params.length c1)):=zh (d 1 (by decide));replace H1:fb<w.heap.size:=by have:=B.o;omega
 have Kp:Hd (fb<w.heap.size):=zh H1;have q1:w3.cell? ⟨fb,foff+ix * 5+1,none⟩=some (.slice s1 f.params.length c1):=(hX.o.cell (p:=⟨fb,_,none⟩) H1).trans kl.o;have K0:(0:Int)≤(ix:Int):=by omega
 have kP:(ix:Int)<(F.length:Int):=by omega
 clear hf HY Hh HO Z d ht hw K1 H1 R;by_cases hu:(vs.length:Int)=(f.params.length:Int)
 case neg =>
  have Ke:=zh hu;have H9:((vs.length:Int) !=(f.params.length:Int))=true:=bne_iff_ne.2 hu;clear hu;have s:=zh (H4.o (.inr (.inr ⟨f,X.o,by cases hq:eP vs f.params with | false=>rfl | true=>exact absurd (by rw [((kB _ _).1 hq).1]) Ke.o⟩)));have zz:=P.o.z;have oo:=P.o.o;have z0:=aa zz (j:=0) (u:=.int .i64 0) rfl;have z1:=aa zz (j:=1) (u:=.int .i64 0) rfl;have z2:=aa zz (j:=2) (u:=.slice none 0 0) rfl;have z3:=aa zz (j:=3) (u:=.int .i64 7) rfl;have z4:=aa zz (j:=4) (u:=.int .i64 0) rfl;have o0:=aa oo (j:=0) (u:=.int .i64 0) rfl;have o1:=aa oo (j:=1) (u:=.int .i64 0) rfl;have o2:=aa oo (j:=2) (u:=.slice none 0 0) rfl;have o3:=aa oo (j:=3) (u:=.int .i64 0) rfl;have o4:=aa oo (j:=4) (u:=.int .i64 0) rfl;have f0:=ae oo 0;have f1:=ae oo 1;have f2:=ae oo 2;have f3:=ae oo 3;have f4:=ae oo 4;have A:=zh (fk oo 0 0 none 0 0 7 0);clear zz oo;go_wp2_with fail
  have A:=A.o;unfold lE at A;have r0:=aa A (j:=0) (u:=.int .i64 0) rfl;have r1:=aa A (j:=1) (u:=.int .i64 0) rfl;have r2:=aa A (j:=2) (u:=.slice none 0 0) rfl;have r3:=aa A (j:=3) (u:=.int .i64 7) rfl;have r4:=aa A (j:=4) (u:=.int .i64 0) rfl;clear z0 z1 z2 z3 z4 o0 o1 o2 o3 o4 f0 f1 f2 f3 f4;refine ⟨.agg #[.int .i64 0,.int .i64 0,.slice none 0 0,.int .i64 7,.int .i64 0],by simp [results,Tryz.results13,go_sem,r0,r1,r2,r3,r4],?_⟩;rw [s.o];exact lU HJ.o (gd hX.o (by have:=B.o;omega) 0 0 none 0 0 7 0)
 have h8:Hd (vs.length=f.params.length):=zh (by omega);have H9:((vs.length:Int) !=(f.params.length:Int))=false:=by rw [hu];exact bne_self_eq_false _
 clear hu;go_wp2_with fail
 go_loopg [55] vs.length (fun gg t55 wr=>∃i:Nat,i+gg=vs.length∧t55=.int .i64 (i:Int)∧Hd (∀k,k<i→ms (vs.getD k noV) (f.params.getD k default).2=true)∧Below w.heap.size w wr∧Hd (RnB wr PB NB JX OX NO JB (.slice (some ⟨fb,foff,none⟩) F.length cap) nm))
 case atStart=>exact ⟨0,Nat.zero_add _,rfl,zh (fun k hk=>absurd hk (Nat.not_lt_zero _)),hX.o,P⟩
 case round =>
  obtain ⟨i,Hg,rfl,kk,hb,hc⟩:=hrel;have HB:=zh hb;have HG:=zh Hg;clear p0 j0 q1 hb;by_cases hy:i<vs.length
  ·have Hf:(i:Int)<(vs.length:Int):=by omega
   have Kx:(0:Int)≤(i:Int):=by omega
   have Ko:=zh hy;obtain ⟨ab,aoff,ks,K5,K4,k3⟩:=H0.o (by omega);subst ks;obtain ⟨HK,_⟩:=HI.o i hy;obtain ⟨pb,poff,kt,kx,H8,HP⟩:=Kd.o (by have:=h8.o;omega);subst kt;have J:=k3 i hy;have c:=HP i (by have:=h8.o;omega);rw [Hv.o i (by have:=h8.o;omega)] at c;obtain ⟨pa,ca,H2,k2⟩:=id HK
   have Ki:Hd ((vs.getD i noV).text.length≤maxLen):=zh (by
     obtain ⟨_,_,_,h1,h2,_⟩:=k2.form;exact Nat.le_trans h1 h2)
   have hA:acs i=[.int .i64 (vs.getD i noV).ty,.int .i64 (vs.getD i noV).num,.slice pa (vs.getD i noV).text.length ca]:=by
    injection H2 with H2
    have:=congrArg Array.toList H2;simpa using this
   rw [hA] at J;have ki:Hd (∀k,k=i→ms (vs.getD k noV) (f.params.getD k default).2=xS (vs.getD i noV).ty (vs.getD i noV).num (vs.getD i noV).text.length (f.params.getD i default).2):=zh (fun k e=>by subst e;rfl);have L:ab<PB:=by have:=B.o;omega
   have hx:pb<PB:=by have:=B.o;omega
   have h0:∀{b o u},b<PB→w.cell? ⟨b,o,none⟩=some u→wr.cell? ⟨b,o,none⟩=some u:=fun {b o u} hb q=>(HB.o.cell (p:=⟨b,o,none⟩) (by have:=B.o;show b<w.heap.size;omega)).trans q;have g0:wr.cell? ⟨ab,aoff+i * 3,none⟩=some (.int .i64 (vs.getD i noV).ty):=h0 L (J 0 (by decide));have g1:wr.cell? ⟨ab,aoff+i * 3+1,none⟩=some (.int .i64 (vs.getD i noV).num):=h0 L (J 1 (by decide));have g2:wr.cell? ⟨ab,aoff+i * 3+2,none⟩=some (.slice pa (vs.getD i noV).text.length ca):=h0 L (J 2 (by decide));have HQ:wr.cell? ⟨pb,poff+i * 2+1,none⟩=some (.int .i64 (f.params.getD i default).2):=h0 hx (c 1 (by decide));have k0:wr.cell? ⟨fb,foff+ix * 5+1,none⟩=some (.slice (some ⟨pb,poff,none⟩) f.params.length c1):=h0 (by have:=B.o;have:=Kp.o;omega) kl.o;have Kw:(i:Int)<(f.params.length:Int):=by have:=h8.o;omega
   generalize (f.params.getD i default).2=pt at *;generalize vs.getD i noV=a at *;generalize kr:a.ty=ty at *;generalize Hb:a.num=num at *;generalize hn:a.text.length=n at *;have Hc:=az g0;have HR:=aa hc.o.p (j:=0) (u:=.slice (some ⟨fb,foff,none⟩) F.length cap) rfl
   have k6:Hd (∀W,Below (wr.alloc (.cells #[.int .i64 ty,.int .i64 num,.slice pa n ca] 35)).heap.size (wr.alloc (.cells #[.int .i64 ty,.int .i64 num,.slice pa n ca] 35)) W→W.cell? ⟨wr.heap.size,0,none⟩=some (.int .i64 ty)∧W.cell? ⟨wr.heap.size,1,none⟩=some (.int .i64 num)∧W.cell? ⟨wr.heap.size,2,none⟩=some (.slice pa n ca)∧W.cell? ⟨PB,0,none⟩=some (.slice (some ⟨fb,foff,none⟩) F.length cap)∧W.cell? ⟨fb,foff+ix * 5+1,none⟩=some (.slice (some ⟨pb,poff,none⟩) f.params.length c1)∧W.cell? ⟨pb,poff+i * 2+1,none⟩=some (.int .i64 pt)):=zh (fun W hW=>by
     have hh:∀{b o u},(wr.alloc (.cells #[.int .i64 ty,.int .i64 num,.slice pa n ca] 35)).cell? ⟨b,o,none⟩=some u→W.cell? ⟨b,o,none⟩=some u:=fun {b o u} q=>(hW.cell (p:=⟨b,o,none⟩) (az q)).trans q;exact ⟨hh (aA _ _ _ _ _ _ rfl rfl),hh (aA _ _ _ _ _ _ rfl rfl),hh (aA _ _ _ _ _ _ rfl rfl),hh (aq _ HR),hh (aq _ k0),hh (aq _ HQ)⟩)
   have ko:Hd (Below w.heap.size w (wr.alloc (.cells #[.int .i64 ty,.int .i64 num,.slice pa n ca] 35))):=zh (ag HB.o _);have Kl:=zh (hc.o.below (ag (Below.refl wr.heap.size wr) (.cells #[.int .i64 ty,.int .i64 num,.slice pa n ca] 35)));clear Hg k3 J HP c h0 L hx H2 k2 HK hA K5 K4 kx H8 kr Hb hn hy HR k0 HQ;go_upto_region 9 with fail
   generalize wr.alloc (.cells #[.int .i64 ty,.int .i64 num,.slice pa n ca] 35)=w4 at *;generalize wr.heap.size=VB at *;clear g0 g1 g2 Hc;refine wp_region_held_drew (S:=(fun W=>W.cell? ⟨VB,0,none⟩=some (.int .i64 ty)∧W.cell? ⟨VB,1,none⟩=some (.int .i64 num)∧W.cell? ⟨VB,2,none⟩=some (.slice pa n ca)∧W.cell? ⟨PB,0,none⟩=some (.slice (some ⟨fb,foff,none⟩) F.length cap)∧W.cell? ⟨fb,foff+ix * 5+1,none⟩=some (.slice (some ⟨pb,poff,none⟩) f.params.length c1)∧W.cell? ⟨pb,poff+i * 2+1,none⟩=some (.int .i64 pt))) (by kernel_rfl) (by (try dsimp only);exact k6.o _ (aw (Below.refl _ _))) (fun hH=>?_);refine tkA 0 ?_ (hQ:=by exact fun _ _ _ h=>bB _ _ _ (by decide) _ _ _ _ h);refine tkA 1 ?_ (hQ:=by exact fun _ _ _ h=>bB _ _ _ (by decide) _ _ _ _ h);refine tkA 2 ?_ (hQ:=by exact fun _ _ _ h=>bB _ _ _ (by decide) _ _ _ _ h);refine tkA 3 ?_ (hQ:=by exact fun _ _ _ h=>bB _ _ _ (by decide) _ _ _ _ h);try go_simp
   refine tkA 4 ?_ (hQ:=by exact fun _ _ _ h=>bB _ _ _ (by decide) _ _ _ _ h);refine tkA 5 ?_ (hQ:=by exact fun _ _ _ h=>bB _ _ _ (by decide) _ _ _ _ h);refine tkA 6 ?_ (hQ:=by exact fun _ _ _ h=>bB _ _ _ (by decide) _ _ _ _ h);refine tkA 7 ?_ (hQ:=by exact fun _ _ _ h=>bB _ _ _ (by decide) _ _ _ _ h);try go_simp
   refine tkA 8 ?_ (hQ:=by exact fun _ _ _ h=>bB _ _ _ (by decide) _ _ _ _ h);refine tkA 9 ?_ (hQ:=by exact fun _ _ _ h=>bB _ _ _ (by decide) _ _ _ _ h);refine tkA 10 ?_ (hQ:=by exact fun _ _ _ h=>bB _ _ _ (by decide) _ _ _ _ h);try go_simp
   refine rd1 11 fun K hK=>?_;go_simp;go_at_call 33
   refine (xT ty num pt pa n ca _ Ki.o).mono ?_;rintro e w5 ⟨rfl,hC⟩;have E:Hd (Below w4.heap.size w4 w5):=zh (am (aw (Below.refl _ _)) hC);clear hC;try go_simp
   refine hK.out _ _ ?_ (fun hH=>?_)
   ·(try dsimp only);exact k6.o _ E.o
   clear hK K;try go_simp
   refine tkA 12 ?_ (hQ:=by exact fun _ _ _ h=>bB _ _ _ (by decide) _ _ _ _ h);try go_simp
   refine wpAnyH_done (by kernel_rfl) ?_ _;have Hz:=zh (Kl.o.below E.o);have Q:Hd (Below w.heap.size w w5):=zh (ko.o.trans (E.o.mono ko.o.size));clear hH;generalize hq:xS ty num n pt=q at *;clear hq
   cases q with
   | false =>
    have s:=zh (H4.o (.inr (.inr ⟨f,X.o,by cases hq:eP vs f.params with | false=>rfl | true=>exact absurd (((kB _ _).1 hq).2 i Ko.o) (by rw [ki.o i rfl];decide)⟩)));have zz:=Hz.o.z;have oo:=Hz.o.o;have z0:=aa zz (j:=0) (u:=.int .i64 0) rfl;have z1:=aa zz (j:=1) (u:=.int .i64 0) rfl;have z2:=aa zz (j:=2) (u:=.slice none 0 0) rfl;have z3:=aa zz (j:=3) (u:=.int .i64 7) rfl;have z4:=aa zz (j:=4) (u:=.int .i64 0) rfl;have o0:=aa oo (j:=0) (u:=.int .i64 0) rfl;have o1:=aa oo (j:=1) (u:=.int .i64 0) rfl;have o2:=aa oo (j:=2) (u:=.slice none 0 0) rfl;have o3:=aa oo (j:=3) (u:=.int .i64 0) rfl;have o4:=aa oo (j:=4) (u:=.int .i64 0) rfl;have f0:=ae oo 0;have f1:=ae oo 1;have f2:=ae oo 2;have f3:=ae oo 3;have f4:=ae oo 4;have A:=zh (fk oo 0 0 none 0 0 7 0);clear zz oo;go_wp2_with fail
    have A:=A.o;unfold lE at A;have r0:=aa A (j:=0) (u:=.int .i64 0) rfl;have r1:=aa A (j:=1) (u:=.int .i64 0) rfl;have r2:=aa A (j:=2) (u:=.slice none 0 0) rfl;have r3:=aa A (j:=3) (u:=.int .i64 7) rfl;have r4:=aa A (j:=4) (u:=.int .i64 0) rfl;clear z0 z1 z2 z3 z4 o0 o1 o2 o3 o4 f0 f1 f2 f3 f4;refine ⟨.agg #[.int .i64 0,.int .i64 0,.slice none 0 0,.int .i64 7,.int .i64 0],by simp [results,Tryz.results13,go_sem,r0,r1,r2,r3,r4],?_⟩;rw [s.o];exact lU HJ.o (gd Q.o (by have:=B.o;omega) 0 0 none 0 0 7 0)
   | true =>
    go_wp2_with fail
    go_roundg (vs.length-i-1)
    case measure=>have:=HG.o;omega
    case rel=>exact ⟨i+1,by have:=HG.o;omega,by go_num,zh (fun k hk=>by
      by_cases e:k<i
      · exact kk.o k e
      · obtain rfl:k=i:=by omega
        exact ki.o k rfl),Q.o,Hz⟩
  ·obtain rfl:i=vs.length:=by have:=HG.o;omega
   have Hf:¬(vs.length:Int)<(vs.length:Int):=by omega
   have hV:Hd (eP vs f.params=true):=zh ((kB _ _).2 ⟨h8.o,kk.o⟩);have k8:=zh (Ho.o f (by trivial) X.o hV.o);have C:Hd (∀W,Below wr.heap.size wr W→W.cell? ⟨PB,0,none⟩=some (.slice (some ⟨fb,foff,none⟩) F.length cap)∧W.cell? ⟨JX,0,none⟩=some (.pointer (some ⟨JB,0,none⟩))):=zh (fun W hW=>⟨aa (hc.o.below hW).p (j:=0) rfl,aa (hc.o.below hW).j (j:=0) rfl⟩);clear Hg hy;go_upto_region 12 with fail
   apply shared (fun RB RX w8=>Below wr.heap.size wr w8∧w8.heap[RB]?=some (.cells #[.slice (some ⟨fb,foff,none⟩) F.length cap,.pointer (some ⟨JB,0,none⟩),.int .i64 (eE limit),.int .i64 0,.int .i64 0] 86 (0,0))∧w8.heap[RX]?=some (.cells #[.pointer none] 81 (0,0))∧(wr.heap.size≤RB∧wr.heap.size≤RX∧¬RB=RX))
   ·intro HL
    refine ay (S:=(fun W=>W.cell? ⟨PB,0,none⟩=some (.slice (some ⟨fb,foff,none⟩) F.length cap)∧W.cell? ⟨JX,0,none⟩=some (.pointer (some ⟨JB,0,none⟩)))) 8 (by kernel_rfl) (by kernel_rfl) (by (try dsimp only);exact C.o _ (aw (Below.refl _ _))) (fun hH=>?_);simp only [List.take_succ_cons,List.take_zero,List.drop_succ_cons,List.drop_zero]
    refine tkA 0 ?_ (hQ:=by exact fun _ _ _ h=>bB _ _ _ (by decide) _ _ _ _ h);refine tkA 1 ?_ (hQ:=by exact fun _ _ _ h=>bB _ _ _ (by decide) _ _ _ _ h);refine tkA 2 ?_ (hQ:=by exact fun _ _ _ h=>bB _ _ _ (by decide) _ _ _ _ h);refine tkA 3 ?_ (hQ:=by exact fun _ _ _ h=>bB _ _ _ (by decide) _ _ _ _ h);try go_simp
    refine wpAnyH_ready (rs:=[4,7]) (by kernel_rfl) (by simp) ?_;refine (AllReadyH.cons rfl (fun K hK=>?_) (AllReadyH.cons rfl (fun K hK=>?_) AllReadyH.nil))
    ·go_simp
     go_at_call 34
     refine (uy limit _ kc.o).mono ?_;rintro e w5 ⟨rfl,hC⟩;have E:Hd (Below wr.heap.size wr w5):=zh (am (aw (Below.refl _ _)) hC);clear hC;try go_simp
     refine hK.out _ _ ?_ (fun hH=>?_)
     ·exact C.o _ E.o
     clear hK K;try go_simp
     refine tkA 5 ?_ (hQ:=by exact fun _ _ _ h=>bB _ _ _ (by decide) _ _ _ _ h);try go_simp
     refine wpAnyH_ready (rs:=[6,7]) (by kernel_rfl) (by simp) ?_;refine (AllReadyH.cons rfl (fun K hK=>?_) (AllReadyH.cons rfl (fun K hK=>?_) AllReadyH.nil))
     ·go_simp
      refine hK.out _ _ ?_ (fun hH=>?_)
      ·exact C.o _ (ag E.o _)
      clear hK K;try go_simp
      refine rd1 7 fun K hK=>?_;go_simp;refine hK.out _ _ ?_ (fun hH=>?_)
      ·exact C.o _ (ag (ag E.o _) _)
      clear hK K;try go_simp
      have f1:Below wr.heap.size wr ((w5.alloc (.cells #[.slice (some ⟨fb,foff,none⟩) F.length cap,.pointer (some ⟨JB,0,none⟩),.int .i64 (eE limit),.int .i64 0,.int .i64 0] 86)).alloc (.cells #[.pointer none] 81)):=ag (ag E.o _) _;have f2:(((w5.alloc (.cells #[.slice (some ⟨fb,foff,none⟩) F.length cap,.pointer (some ⟨JB,0,none⟩),.int .i64 (eE limit),.int .i64 0,.int .i64 0] 86)).alloc (.cells #[.pointer none] 81))).heap[w5.heap.size]?=some (.cells #[.slice (some ⟨fb,foff,none⟩) F.length cap,.pointer (some ⟨JB,0,none⟩),.int .i64 (eE limit),.int .i64 0,.int .i64 0] 86 (0,0)):=ax _ _ _ _ (aj _ _ _ rfl);have f3:(((w5.alloc (.cells #[.slice (some ⟨fb,foff,none⟩) F.length cap,.pointer (some ⟨JB,0,none⟩),.int .i64 (eE limit),.int .i64 0,.int .i64 0] 86)).alloc (.cells #[.pointer none] 81))).heap[(w5.heap.size+1)]?=some (.cells #[.pointer none] 81 (0,0)):=aj _ _ _ (ah _ _);have f4:wr.heap.size≤w5.heap.size∧wr.heap.size≤(w5.heap.size+1)∧¬w5.heap.size=(w5.heap.size+1):=by have h5:=E.o.size;(try simp only [ah] at h5 ⊢);(try have h6:=Q.o.size);(try simp only [ah] at h6);omega
      refine wpAnyH_done (by kernel_rfl) ?_ _;dsimp only [aP];revert f1 f2 f3 f4;generalize ((w5.alloc (.cells #[.slice (some ⟨fb,foff,none⟩) F.length cap,.pointer (some ⟨JB,0,none⟩),.int .i64 (eE limit),.int .i64 0,.int .i64 0] 86)).alloc (.cells #[.pointer none] 81))=w8;generalize w5.heap.size+1=RX;generalize w5.heap.size=RB;intro f1 f2 f3 f4;exact HL RB RX w8 ⟨f1,f2,f3,f4⟩
     ·go_simp
      refine hK.out _ _ ?_ (fun hH=>?_)
      ·exact C.o _ (ag E.o _)
      clear hK K;try go_simp
      refine rd1 6 fun K hK=>?_;go_simp;refine hK.out _ _ ?_ (fun hH=>?_)
      ·exact C.o _ (ag (ag E.o _) _)
      clear hK K;try go_simp
      have f1:Below wr.heap.size wr ((w5.alloc (.cells #[.pointer none] 81)).alloc (.cells #[.slice (some ⟨fb,foff,none⟩) F.length cap,.pointer (some ⟨JB,0,none⟩),.int .i64 (eE limit),.int .i64 0,.int .i64 0] 86)):=ag (ag E.o _) _;have f2:(((w5.alloc (.cells #[.pointer none] 81)).alloc (.cells #[.slice (some ⟨fb,foff,none⟩) F.length cap,.pointer (some ⟨JB,0,none⟩),.int .i64 (eE limit),.int .i64 0,.int .i64 0] 86))).heap[(w5.heap.size+1)]?=some (.cells #[.slice (some ⟨fb,foff,none⟩) F.length cap,.pointer (some ⟨JB,0,none⟩),.int .i64 (eE limit),.int .i64 0,.int .i64 0] 86 (0,0)):=aj _ _ _ (ah _ _);have f3:(((w5.alloc (.cells #[.pointer none] 81)).alloc (.cells #[.slice (some ⟨fb,foff,none⟩) F.length cap,.pointer (some ⟨JB,0,none⟩),.int .i64 (eE limit),.int .i64 0,.int .i64 0] 86))).heap[w5.heap.size]?=some (.cells #[.pointer none] 81 (0,0)):=ax _ _ _ _ (aj _ _ _ rfl);have f4:wr.heap.size≤(w5.heap.size+1)∧wr.heap.size≤w5.heap.size∧¬(w5.heap.size+1)=w5.heap.size:=by have h5:=E.o.size;(try simp only [ah] at h5 ⊢);(try have h6:=Q.o.size);(try simp only [ah] at h6);omega
      refine wpAnyH_done (by kernel_rfl) ?_ _;dsimp only [aP];revert f1 f2 f3 f4;generalize ((w5.alloc (.cells #[.pointer none] 81)).alloc (.cells #[.slice (some ⟨fb,foff,none⟩) F.length cap,.pointer (some ⟨JB,0,none⟩),.int .i64 (eE limit),.int .i64 0,.int .i64 0] 86))=w8;generalize w5.heap.size+1=RB;generalize w5.heap.size=RX;intro f1 f2 f3 f4;exact HL RB RX w8 ⟨f1,f2,f3,f4⟩
    ·go_simp
     have E:Hd (Below wr.heap.size wr (wr.drew.alloc (.cells #[.pointer none] 81))):=zh (ag (aw (Below.refl _ _)) _);have k5:Hd ((wr.drew.alloc (.cells #[.pointer none] 81)).heap[wr.heap.size]?=some (.cells #[.pointer none] 81 (0,0))):=zh (aj _ _ _ rfl);refine hK.out _ _ ?_ (fun hH=>?_)
     ·exact C.o _ E.o
     clear hK K;try go_simp
     refine rd1 4 fun K hK=>?_;go_simp;go_at_call 34
     refine (uy limit _ kc.o).mono ?_;rintro e w6 ⟨rfl,Hj⟩;have Q:Hd (Below (wr.drew.alloc (.cells #[.pointer none] 81)).heap.size (wr.drew.alloc (.cells #[.pointer none] 81)) w6):=zh Hj;have hG:=zh ((Hj.block _ (af k5.o)).trans k5.o);clear Hj;try go_simp
     refine hK.out _ _ ?_ (fun hH=>?_)
     ·exact C.o _ (am E.o Q.o)
     clear hK K;try go_simp
     refine tkA 5 ?_ (hQ:=by exact fun _ _ _ h=>bB _ _ _ (by decide) _ _ _ _ h);try go_simp
     refine rd1 6 fun K hK=>?_;go_simp;refine hK.out _ _ ?_ (fun hH=>?_)
     ·exact C.o _ (ag (am E.o Q.o) _)
     clear hK K;try go_simp
     have f1:Below wr.heap.size wr (w6.alloc (.cells #[.slice (some ⟨fb,foff,none⟩) F.length cap,.pointer (some ⟨JB,0,none⟩),.int .i64 (eE limit),.int .i64 0,.int .i64 0] 86)):=ag (am E.o Q.o) _;have f2:((w6.alloc (.cells #[.slice (some ⟨fb,foff,none⟩) F.length cap,.pointer (some ⟨JB,0,none⟩),.int .i64 (eE limit),.int .i64 0,.int .i64 0] 86))).heap[w6.heap.size]?=some (.cells #[.slice (some ⟨fb,foff,none⟩) F.length cap,.pointer (some ⟨JB,0,none⟩),.int .i64 (eE limit),.int .i64 0,.int .i64 0] 86 (0,0)):=aj _ _ _ rfl;have f3:((w6.alloc (.cells #[.slice (some ⟨fb,foff,none⟩) F.length cap,.pointer (some ⟨JB,0,none⟩),.int .i64 (eE limit),.int .i64 0,.int .i64 0] 86))).heap[wr.heap.size]?=some (.cells #[.pointer none] 81 (0,0)):=ax _ _ _ _ hG.o;have Ku:wr.heap.size<w6.heap.size:=af hG.o;have f4:wr.heap.size≤w6.heap.size∧wr.heap.size≤wr.heap.size∧¬w6.heap.size=wr.heap.size:=by have h5:=E.o.size;(try simp only [ah] at h5 ⊢);(try have h6:=Q.o.size);(try simp only [ah] at h6);omega
     refine wpAnyH_done (by kernel_rfl) ?_ _;dsimp only [aP];revert f1 f2 f3 f4;generalize (w6.alloc (.cells #[.slice (some ⟨fb,foff,none⟩) F.length cap,.pointer (some ⟨JB,0,none⟩),.int .i64 (eE limit),.int .i64 0,.int .i64 0] 86))=w8;generalize w6.heap.size=RB;obtain ⟨RX,k4⟩:∃RX,RX=wr.heap.size:=⟨_,rfl⟩
     intro f1 f2 f3 f4;rw [←k4] at f3 f4 ⊢;rw [k4] at f4;exact HL RB RX w8 ⟨f1,f2,f3,by omega⟩
   ·intro RB RX w8 hl
    obtain ⟨Hi,hm,he,HT⟩:=hl;have Ks:Hd (Below w.heap.size w w8):=zh (HB.o.trans (Hi.mono HB.o.size));have hT:=zh (hc.o.below Hi)
    have H5:Hd (w.heap.size≤RB∧w.heap.size≤RX∧¬RB=RX∧OX<RB∧OX<RX):=zh (by
      have h1:=HB.o.size;have h2:=af hc.o.o;omega)
    have x0:=aa he (j:=0) (u:=.pointer none) rfl;have y0:=ae he 0;have hL:Hd ((w8.setCell ⟨RX,0,none⟩ (.pointer (some ⟨RB,0,none⟩))).heap[RX]?=some (.cells #[.pointer (some ⟨RB,0,none⟩)] 81 (0,0))):=zh (au he 0 _);have hM:Hd ((w8.setCell ⟨RX,0,none⟩ (.pointer (some ⟨RB,0,none⟩))).heap[RB]?=some (.cells #[.slice (some ⟨fb,foff,none⟩) F.length cap,.pointer (some ⟨JB,0,none⟩),.int .i64 (eE limit),.int .i64 0,.int .i64 0] 86 (0,0))):=zh ((ak _ ⟨RX,0,none⟩ _ _ HT.2.2).trans hm);have HH:Hd (Below w.heap.size w (w8.setCell ⟨RX,0,none⟩ (.pointer (some ⟨RB,0,none⟩)))):=zh (Ks.o.setCell (p:=⟨RX,0,none⟩) H5.o.2.1 _)
    have ka:Hd (RnB (w8.setCell ⟨RX,0,none⟩ (.pointer (some ⟨RB,0,none⟩))) PB NB JX OX NO JB (.slice (some ⟨fb,foff,none⟩) F.length cap) nm):=zh (by
      have hn:∀{b:Nat} {arr:Array Value} {t:TypeId},w8.heap[b]?=some (.cells arr t (0,0))→t≠81→(w8.setCell ⟨RX,0,none⟩ (.pointer (some ⟨RB,0,none⟩))).heap[b]?=some (.cells arr t (0,0)):=fun h kz=>(ak _ ⟨RX,0,none⟩ _ _ (OfTy.ne ⟨_,_,h⟩ ⟨_,_,he⟩ kz)).trans h;exact ⟨hn hT.o.p (by decide),hn hT.o.n (by decide),hn hT.o.j (by decide),hn hT.o.o (by decide),hn hT.o.z (by decide)⟩)
    clear Hi hm he HT;go_upto_region 13 with fail
    clear x0 y0;generalize w8.setCell ⟨RX,0,none⟩ (.pointer (some ⟨RB,0,none⟩))=w9 at *;have j0:=aa ka.o.j (j:=0) (u:=.pointer (some ⟨JB,0,none⟩)) rfl;have Kk:=zh (vQ w9 (HJ.o.below HH.o));go_wp2_with fail
    refine Kk.o.mono ?_;rintro e w9' ⟨rfl,rfl⟩;have I:Below w9.heap.size w9 (w9.alloc (.cells #[.int .i64 (j.undo.length:Int)] 3)):=ag (Below.refl _ _) _;have k9:Hd ((w9.alloc (.cells #[.int .i64 (j.undo.length:Int)] 3)).heap[w9.heap.size]?=some (.cells #[.int .i64 (j.undo.length:Int)] 3 (0,0))):=zh (aj _ _ _ rfl);have Ht:=zh ((I.block _ (af hL.o)).trans hL.o);have Kc:=zh ((I.block _ (af hM.o)).trans hM.o);have hS:=zh (ka.o.below I);have Y:Hd (Below w.heap.size w (w9.alloc (.cells #[.int .i64 (j.undo.length:Int)] 3))):=zh (HH.o.trans (I.mono HH.o.size));clear I j0;go_upto_region 14 with fail
    generalize w9.alloc (.cells #[.int .i64 (j.undo.length:Int)] 3)=wa at *;generalize w9.heap.size=MX at *
    have g:Hd (RunAt (⟨D,U,RB,JB,N,F⟩:Ly) wa (⟨eE limit,0,j.pairs,j.undo⟩:Rst) (kC (15+1))):=zh ⟨⟨_,_,_,Kc.o,HF.o.keep (Stays.of_below Y.o)⟩,(HJ.o.below Y.o).mono (by show N≤N+_;omega),by
      show (0:Int)≤0∧0≤eE limit∧eE limit≤100000
      unfold eE;omega,by
      have h1:=HD.o;have h2:=H5.o;have h3:=Y.o.size;have h4:=B.o;show D≤RB∧D≤JB∧D≤U∧U≤wa.heap.size∧N≤1000000
      omega⟩
    have Ka:Hd (VsAt (⟨D,U,RB,JB,N,F⟩:Ly) wa (.slice sa vs.length capa) vs):=zh ((HA.o.low Y.o).vs (y:=(⟨D,U,RB,JB,N,F⟩:Ly)) hV.o);have kn:=zh (nx (y:=(⟨D,U,RB,JB,N,F⟩:Ly)) (fun f hf=>K7.o trivial f hf) 15 (Nat.le_refl _) nm vs (.slice sa vs.length capa) (⟨eE limit,0,j.pairs,j.undo⟩:Rst) wa f X.o h8.o.symm g.o Ka.o);have H6:Hd (BG j (aF F 16 nm vs (⟨eE limit,0,j.pairs,j.undo⟩:Rst))):=zh (wI F nm vs (eE limit) j)
    have O:Hd (o=match aF F 16 nm vs (⟨eE limit,0,j.pairs,j.undo⟩:Rst) with
      | .ok v r=>(⟨v,0,r.used⟩,⟨r.pairs,r.undo⟩)
      | .trap t r=>(⟨noV,t,r.used⟩,⟨j.pairs,j.undo⟩)):=k8
    have Kr:Hd (Calls Tryz.prog 37 #[.pointer (some ⟨RB,0,none⟩),.string nm,.slice sa vs.length capa] wa (Says (⟨D,U,RB,JB,N,F⟩:Ly) (ET (⟨D,U,RB,JB,N,F⟩:Ly)) wa (VvR (⟨D,U,RB,JB,N,F⟩:Ly)) (kC (15+1)) (aF F 16 nm vs (⟨eE limit,0,j.pairs,j.undo⟩:Rst)))):=kn;clear k8 kn;generalize aF F 16 nm vs (⟨eE limit,0,j.pairs,j.undo⟩:Rst)=out at *;have r0:=aa Ht.o (j:=0) (u:=.pointer (some ⟨RB,0,none⟩)) rfl;have n0:=aa hS.o.n (j:=0) (u:=.string nm) rfl;go_wp2_with fail
    refine Kr.o.mono ?_;intro e wb hs;clear r0 n0;rcases hs.cases with ⟨v,r,va,hz,rfl,hv,hr,ho⟩ | ⟨t,r,k',hz,rfl,hr,ho⟩
    ·have H3:=zh hr
     have Kg:Hd (OnS (ET (⟨D,U,RB,JB,N,F⟩:Ly) wa) wa wb):=zh ho;have H:∀{b:Nat} {arr:Array Value} {t:TypeId},wa.heap[b]?=some (.cells arr t (0,0))→t≠86→t≠68→t≠1→wb.heap[b]?=some (.cells arr t (0,0)):=fun h h1 h2 h3=>ho.obj (gG ⟨_,_,h⟩ g.o h1 h2 h3) h;have M:=zh (H Ht.o (by decide) (by decide) (by decide));have hR:=zh (H k9.o (by decide) (by decide) (by decide));have hU:=zh (H hS.o.j (by decide) (by decide) (by decide));have G:=zh (H hS.o.o (by decide) (by decide) (by decide))
     have Hy:Hd (OnS (JT JB U w) w wb):=zh (OnS.new (OnS.of_below Y.o) ho fun k hk=>by
       rcases hk with hk | hk
       · exact .inr (hk▸H5.o.1)
       · exact JT.back hk Y.o)
     have Hq:Hd (0≤r.used∧r.used≤100000):=zh (by have:=hr.gas;omega);rw [hz] at O H6;clear H hr ho hs hz;have HV:=zh hv;obtain ⟨pv,cv,rfl,_⟩:=id hv.1;clear hv;generalize hn:v.text.length=n at *;have HN:=zh hn;clear hn;have h7:Below wb.heap.size wb (wb.alloc (.cells #[.int .i64 v.ty,.int .i64 v.num,.slice pv n cv] 35)):=ag (Below.refl _ _) _;have Hp:Hd ((wb.alloc (.cells #[.int .i64 v.ty,.int .i64 v.num,.slice pv n cv] 35)).heap[wb.heap.size]?=some (.cells #[.int .i64 v.ty,.int .i64 v.num,.slice pv n cv] 35 (0,0))):=zh (aj _ _ _ rfl);have Hs:=zh ((h7.block _ (af M.o)).trans M.o);have hN:=zh ((h7.block _ (af G.o)).trans G.o);have k7:=zh (H3.o.below h7);have K9:=zh (HV.o.low h7);have Hx:Hd (OnS (JT JB U w) w (wb.alloc (.cells #[.int .i64 v.ty,.int .i64 v.num,.slice pv n cv] 35))):=zh (Hy.o.trans (OnS.of_below h7));have m:Hd (w.heap.size≤OX):=zh (by have:=B.o;omega);have Kq:Hd (D≤w.heap.size):=zh (by have:=HD.o;have:=B.o;omega);clear h7;go_upto_region 16 with fail
     generalize wb.alloc (.cells #[.int .i64 v.ty,.int .i64 v.num,.slice pv n cv] 35)=wc at *;generalize wb.heap.size=VX at *;obtain ⟨rs,rn,rc,hm,_⟩:=k7.o.box
     have hI:Hd (∀W,Below wc.heap.size wc W→W.cell? ⟨VX,0,none⟩=some (.int .i64 v.ty)∧W.cell? ⟨VX,1,none⟩=some (.int .i64 v.num)∧W.cell? ⟨VX,2,none⟩=some (.slice pv n cv)∧W.cell? ⟨RX,0,none⟩=some (.pointer (some ⟨RB,0,none⟩))∧W.cell? ⟨RB,3,none⟩=some (.int .i64 r.used)):=zh (fun W hW=>by
       have hh:∀{b o u},wc.cell? ⟨b,o,none⟩=some u→W.cell? ⟨b,o,none⟩=some u:=fun {b o u} q=>(hW.cell (p:=⟨b,o,none⟩) (az q)).trans q;exact ⟨hh (aa Hp.o (j:=0) rfl),hh (aa Hp.o (j:=1) rfl),hh (aa Hp.o (j:=2) rfl),hh (aa Hs.o (j:=0) rfl),hh (aa hm (j:=3) rfl)⟩)
     clear hm;refine ay (S:=(fun W=>W.cell? ⟨VX,0,none⟩=some (.int .i64 v.ty)∧W.cell? ⟨VX,1,none⟩=some (.int .i64 v.num)∧W.cell? ⟨VX,2,none⟩=some (.slice pv n cv)∧W.cell? ⟨RX,0,none⟩=some (.pointer (some ⟨RB,0,none⟩))∧W.cell? ⟨RB,3,none⟩=some (.int .i64 r.used))) 7 (by kernel_rfl) (by kernel_rfl) (by (try dsimp only);exact hI.o _ (aw (Below.refl _ _))) (fun hH=>?_);simp only [List.take_succ_cons,List.take_zero,List.drop_succ_cons,List.drop_zero]
     refine tkA 0 ?_ (hQ:=by exact fun _ _ _ h=>bB _ _ _ (by decide) _ _ _ _ h);refine tkA 1 ?_ (hQ:=by exact fun _ _ _ h=>bB _ _ _ (by decide) _ _ _ _ h);refine tkA 2 ?_ (hQ:=by exact fun _ _ _ h=>bB _ _ _ (by decide) _ _ _ _ h);refine tkA 3 ?_ (hQ:=by exact fun _ _ _ h=>bB _ _ _ (by decide) _ _ _ _ h);try go_simp
     refine tkA 4 ?_ (hQ:=by exact fun _ _ _ h=>bB _ _ _ (by decide) _ _ _ _ h);refine tkA 5 ?_ (hQ:=by exact fun _ _ _ h=>bB _ _ _ (by decide) _ _ _ _ h);refine tkA 6 ?_ (hQ:=by exact fun _ _ _ h=>bB _ _ _ (by decide) _ _ _ _ h);try go_simp
     refine wpAnyH_done (by kernel_rfl) ?_ _;dsimp only [aP];have hB:Below wc.heap.size wc wc.drew:=aw (Below.refl _ _);have l:=zh ((hB.block _ (af hN.o)).trans hN.o);have Kb:=zh (k7.o.below hB);have K8:=zh (K9.o.low hB);have Hw:Hd (OnS (JT JB U w) w wc.drew):=zh (Hx.o.trans (OnS.of_below hB));clear hB hH hI;generalize wc.drew=wd at *;have oo:=l.o;have o0:=aa oo (j:=0) (u:=.int .i64 0) rfl;have o1:=aa oo (j:=1) (u:=.int .i64 0) rfl;have o2:=aa oo (j:=2) (u:=.slice none 0 0) rfl;have o3:=aa oo (j:=3) (u:=.int .i64 0) rfl;have o4:=aa oo (j:=4) (u:=.int .i64 0) rfl;have f0:=ae oo 0;have f1:=ae oo 1;have f2:=ae oo 2;have f3:=ae oo 3;have f4:=ae oo 4;clear oo;go_wp2_with fail
     clear o0 o1 o2 o3 o4 f0 f1 f2 f3 f4;refine leaves_cons (f:=35) (args:=#[.pointer (some ⟨JX,0,none⟩),.pointer (some ⟨MX,0,none⟩),.pointer (some ⟨RX,0,none⟩),.pointer (some ⟨OX,0,none⟩)]) (by simp) (by simp [go_sem]) ?_;refine (xg JX MX RX OX _).mono ?_;rintro e u' w9 ⟨rfl,rfl,h9⟩;have HZ:Hd (w9.heap[OX]?=some (.cells #[.int .i64 v.ty,.int .i64 v.num,.slice pv n cv,.int .i64 0,.int .i64 r.used] 38 (0,0))):=zh (by rw [h9];exact fk l.o v.ty v.num pv n cv 0 r.used);have Hr:Hd (On OX wd w9):=zh (by rw [h9];exact mS wd OX v.ty v.num pv n cv 0 r.used);clear h9;have r0:=aa HZ.o (j:=0) (u:=.int .i64 (v.ty)) rfl;have r1:=aa HZ.o (j:=1) (u:=.int .i64 (v.num)) rfl;have r2:=aa HZ.o (j:=2) (u:=.slice pv (n) (cv)) rfl;have r3:=aa HZ.o (j:=3) (u:=.int .i64 (0)) rfl;have r4:=aa HZ.o (j:=4) (u:=.int .i64 (r.used)) rfl;refine ⟨.agg #[.int .i64 v.ty,.int .i64 v.num,.slice pv n cv,.int .i64 0,.int .i64 r.used],by simp [results,Tryz.results13,go_sem,r0,r1,r2,r3,r4],?_⟩;rw [O.o];exact Aq HN.o K8.o Kb.o l.o Hr.o Hw.o m.o Kq.o Hq.o
    ·have H3:=zh hr
     have Kg:Hd (OnS (ET (⟨D,U,RB,JB,N,F⟩:Ly) wa) wa wb):=zh ho;have H:∀{b:Nat} {arr:Array Value} {t:TypeId},wa.heap[b]?=some (.cells arr t (0,0))→t≠86→t≠68→t≠1→wb.heap[b]?=some (.cells arr t (0,0)):=fun h h1 h2 h3=>ho.obj (gG ⟨_,_,h⟩ g.o h1 h2 h3) h;have M:=zh (H Ht.o (by decide) (by decide) (by decide));have hR:=zh (H k9.o (by decide) (by decide) (by decide));have hU:=zh (H hS.o.j (by decide) (by decide) (by decide));have G:=zh (H hS.o.o (by decide) (by decide) (by decide))
     have Hy:Hd (OnS (JT JB U w) w wb):=zh (OnS.new (OnS.of_below Y.o) ho fun k hk=>by
       rcases hk with hk | hk
       · exact .inr (hk▸H5.o.1)
       · exact JT.back hk Y.o)
     have Hq:Hd (0≤r.used∧r.used≤100000):=zh (by have:=hr.gas;omega);rw [hz] at O H6;clear H hr ho hs hz;have Kj:Hd (j.undo.length≤r.undo.length):=zh (show kf j r from H6.o).1;have m:Hd (w.heap.size≤OX):=zh (by have:=B.o;omega);unfold Trp
     (try go_wp2_with fail)
     refine leaves_cons (f:=35) (args:=#[.pointer (some ⟨JX,0,none⟩),.pointer (some ⟨MX,0,none⟩),.pointer (some ⟨RX,0,none⟩),.pointer (some ⟨OX,0,none⟩)]) (by simp) (by simp [go_sem]) ?_;refine (ya (y:=(⟨D,U,RB,JB,N,F⟩:Ly)) JX MX RX OX j.undo.length 0 0 0 0 none 0 0 t [] wb H3.o ⟨hU.o,hR.o,M.o,G.o⟩ Kj.o).mono ?_;rintro e u' w9 ⟨rfl,rfl,w1',HU,Ha,h9⟩;have hO:=zh (Ha.obj (fun e=>OfTy.ne ⟨_,_,G.o⟩ H3.o.jo.ty (by decide) e) G.o);have HZ:Hd (w9.heap[OX]?=some (.cells #[.int .i64 0,.int .i64 0,.slice none 0 0,.int .i64 t,.int .i64 r.used] 38 (0,0))):=zh (by rw [h9];exact fk hO.o 0 0 none 0 0 t r.used);have Hr:Hd (On OX w1' w9):=zh (by rw [h9];exact mS w1' OX 0 0 none 0 0 t r.used);have Km:Hd (JAt U w1' JB j (N+r.used.toNat)):=zh ((show kf j r from H6.o).2▸HU);have Kh:Hd (OnS (fun k=>k=JB) wb w1'):=zh Ha;clear h9 HU Ha;have r0:=aa HZ.o (j:=0) (u:=.int .i64 (0)) rfl;have r1:=aa HZ.o (j:=1) (u:=.int .i64 (0)) rfl;have r2:=aa HZ.o (j:=2) (u:=.slice none (0) (0)) rfl;have r3:=aa HZ.o (j:=3) (u:=.int .i64 (t)) rfl;have r4:=aa HZ.o (j:=4) (u:=.int .i64 (r.used)) rfl;refine ⟨.agg #[.int .i64 0,.int .i64 0,.slice none 0 0,.int .i64 t,.int .i64 r.used],by simp [results,Tryz.results13,go_sem,r0,r1,r2,r3,r4],?_⟩;rw [O.o];exact uP Km.o hO.o Hr.o Kh.o Hy.o m.o Hq.o
end
end Go.Proofs.YthgcpfkochikfaaGreat
