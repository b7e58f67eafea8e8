/-
  EvalSigns: part 20 of its proof: see the last text.
-/
import Derived.Test.YthgcpfkochikfaaGreatPs19
set_option maxRecDepth 100000
set_option maxHeartbeats 16000000
namespace Go.Proofs.YthgcpfkochikfaaGreat
section
open Go.RowKit
theorem CH:∃i,Tryz.prog.info? 76=some i∧i.zero=some (.agg #[.string ⟨#[]⟩,.slice none 0 0,.int .i64 0,.slice none 0 0,.int .i64 0])∧i.size=5∧i.bytes=80:=by
 have h:(Tryz.prog.info? 76).map (fun i=>(i.zero,i.size,i.bytes))=some (some (.agg #[.string ⟨#[]⟩,.slice none 0 0,.int .i64 0,.slice none 0 0,.int .i64 0]),5,80):=by kernel_rfl
 obtain ⟨i,h1,h2⟩:=Option.map_eq_some_iff.1 h;simp only [Prod.mk.injEq] at h2
 exact ⟨i,h1,h2.1,h2.2.1,h2.2.2⟩
theorem ResAt.of {w w':World} {P E A:Nat} {v:Value} {e a:Int} (h:ResAt w P E A v e a) (hb:∀b,b=P∨b=E∨b=A→w'.heap[b]?=w.heap[b]?):ResAt w' P E A v e a:=
 ⟨(hb _ (.inl rfl)).trans h.p,(hb _ (.inr (.inl rfl))).trans h.e,(hb _ (.inr (.inr rfl))).trans h.a,h.ne⟩
theorem ResAt.below {w w':World} {P E A:Nat} {v:Value} {e a:Int} (h:ResAt w P E A v e a) (hb:Below w.heap.size w w'):ResAt w' P E A v e a:=
 h.of fun b hx=>hb.block b (by rcases hx with rfl | rfl | rfl;exact af h.p;exact af h.e;exact af h.a)
theorem ResAt.setP {w:World} {P E A:Nat} {v:Value} {e a:Int} (h:ResAt w P E A v e a) (u:Value):ResAt (w.setCell ⟨P,0,none⟩ u) P E A u e a:=
 ⟨au h.p 0 u,(ak w _ u _ (Ne.symm h.ne.1)).trans h.e,(ak w _ u _ (Ne.symm h.ne.2.1)).trans h.a,h.ne⟩
theorem ResAt.setE {w:World} {P E A:Nat} {v:Value} {e a:Int} (h:ResAt w P E A v e a) (n:Int):ResAt (w.setCell ⟨E,0,none⟩ (.int .i64 n)) P E A v n a:=
 ⟨(ak w _ _ _ h.ne.1).trans h.p,au h.e 0 _,(ak w _ _ _ (Ne.symm h.ne.2.2)).trans h.a,h.ne⟩
theorem ResAt.setA {w:World} {P E A:Nat} {v:Value} {e a:Int} (h:ResAt w P E A v e a) (n:Int):ResAt (w.setCell ⟨A,0,none⟩ (.int .i64 n)) P E A v e n:=
 ⟨(ak w _ _ _ h.ne.2.1).trans h.p,(ak w _ _ _ h.ne.2.2).trans h.e,au h.a 0 _,h.ne⟩
structure PrW (w:World) (P E A rb:Nat) (en:Int) (W:World) (L:List Tk) (v:Value) (acc:List Fn):Prop where
 rd:RdAt W rb L en
 res:ResAt W P E A v 0 0
 gr:GrowOf fnK (rb+1) 76 5 W v acc
 on:Below w.heap.size w W
 low:w.heap.size≤P∧P<rb∧w.heap.size≤E∧E<rb∧w.heap.size≤A∧A<rb
section
variable {w W W':World} {P E A rb:Nat} {en:Int} {L L':List Tk} {v:Value} {acc:List Fn}
theorem PrW.call (h:PrW w P E A rb en W L v acc) (ho:On rb W W') (hr:RdAt W' rb L' en):PrW w P E A rb en W' L' v acc:=by
 have hl:=h.low;refine ⟨hr,h.res.of fun b hx=>ho.block b (by rcases hx with rfl | rfl | rfl;exact af h.res.p;exact af h.res.e;exact af h.res.a) (fun e=>?_),h.gr.keep (Stays.of_on ho (Nat.lt_succ_self _)),h.on.trans ⟨ho.os,ho.tape,ho.output,ho.size,fun i hi=>ho.block i (Nat.lt_of_lt_of_le hi h.on.size) (fun e=>?_)⟩,h.low⟩
 ·injection e with e
  rcases hx with rfl | rfl | rfl<;>omega
 ·injection e with e
  omega
theorem PrW.stay (h:PrW w P E A rb en W L v acc) (ho:On rb W W'):ResAt W' P E A v 0 0∧Below w.heap.size w W':=by
 have hl:=h.low;refine ⟨h.res.of fun b hx=>ho.block b (by rcases hx with rfl | rfl | rfl;exact af h.res.p;exact af h.res.e;exact af h.res.a) (fun e=>?_),h.on.trans ⟨ho.os,ho.tape,ho.output,ho.size,fun i hi=>ho.block i (Nat.lt_of_lt_of_le hi h.on.size) (fun e=>?_)⟩⟩
 ·injection e with e
  rcases hx with rfl | rfl | rfl<;>omega
 ·injection e with e
  omega
theorem PrW.below (h:PrW w P E A rb en W L v acc) (hb:Below W.heap.size W W'):PrW w P E A rb en W' L v acc:=
 ⟨h.rd.on hb,h.res.below hb,h.gr.keep (Stays.of_below hb),h.on.trans (hb.mono h.on.size),h.low⟩
theorem PrW.form (h:PrW w P E A rb en W L v acc):∃s c,v=.slice s acc.length c∧acc.length≤c∧c≤maxLen:=by
 obtain ⟨cs,ho,_⟩:=h.gr;obtain ⟨s0,cap,h1,h2,h3,_⟩:=ba ho;exact ⟨s0,cap,h1,h2,h3⟩
theorem PrW.push {W9:World} {g cap:Nat} {new:List Value} {q:Fn} {cs:Nat→List Value} (h:PrW w P E A rb en W L v acc) (J:Items fnK (rb+1) 5 W v acc cs) (hn:new.length=5) (hy:RepFn (fun b=>rb+1≤b∧v.ownBlock≠some b) W new q)
    (hg:W.grownBy W9 v.ownBlock) (M:v.ownBlock=some g∨g=W.heap.size) (F:W9.ownsRow (rb+1) 76 5 (.slice (some ⟨g,0,none⟩) (acc.length+1) cap) (acc.length+1) (bG cs acc.length++new)) :
    PrW w P E A rb en (W9.setCell ⟨P,0,none⟩ (.slice (some ⟨g,0,none⟩) (acc.length+1) cap)) L (.slice (some ⟨g,0,none⟩) (acc.length+1) cap) (acc++[q]):=by
 have hl:=h.low
 have C:∀b,v.ownBlock=some b→rb+1≤b:=fun b hb=>by
  obtain ⟨cs',ho,_⟩:=h.gr;exact (aI ho hb).1
 have hT:OnS (fun b=>v.ownBlock=some b) W W9:=OnS.of_grown hg fun k hk=>hk;have ho:On P W9 (W9.setCell ⟨P,0,none⟩ (.slice (some ⟨g,0,none⟩) (acc.length+1) cap)):=(On.refl _ _).set 0 _;have H:Stays (bM (rb+1)) W9 (W9.setCell ⟨P,0,none⟩ (.slice (some ⟨g,0,none⟩) (acc.length+1) cap)):=Stays.of_on ho (by omega);have hq:∀{b o},b≤rb→W.heap[b]?=some o→W9.heap[b]?=some o:=fun hb hx=>hT.obj (fun e=>by have:=C _ e;omega) hx;have B:RdAt W9 rb L en:=h.rd.offS hT fun b hb=>by have:=C b hb;omega
 refine ⟨?_,⟨au (hq (by omega) h.res.p) 0 _,ho.obj (Ne.symm h.res.ne.1) (hq (by omega) h.res.e),ho.obj (Ne.symm h.res.ne.2.1) (hq (by omega) h.res.a),h.res.ne⟩,(GrowOf.push (K:=fnK) J hn hy hg M F).keep H,?_,h.low⟩
 ·obtain ⟨arr,I⟩:=B.obj
  obtain ⟨s0,c0,h1,h2,h3,h4,h5⟩:=B.rest;have G:rb≠P:=by omega
  refine ⟨⟨arr,ho.obj G I⟩,⟨s0,c0,ho.cell G h1,h2,h3,fun h0=>?_,h5⟩,ho.cell G B.fin,B.few⟩;obtain ⟨b,off,e,N,hc⟩:=h4 h0;have O:=hq (by omega) h.res.p
  have D:b≠P:=by
   rintro rfl;obtain ⟨_,_,_,x3⟩:=hc 0 h0;unfold World.cell? at x3;simp only [O] at x3
   simp at x3
  refine ⟨b,off,e,Nat.lt_of_lt_of_le N ho.size,fun i hi=>?_⟩;obtain ⟨x0,x1,x2,x3⟩:=hc i hi;exact ⟨ho.cell D x0,ho.cell D x1,ho.cell D x2,ho.cell D x3⟩
 ·have q1:Below w.heap.size w W9:=h.on.trans ⟨hg.os,hg.tape,hg.output,hg.size,fun i hi=>hg.block i (Nat.lt_of_lt_of_le hi h.on.size) (fun e=>by have:=C i e.symm;omega)⟩
  exact q1.setCell (p:=⟨P,0,none⟩) hl.1 _
end
theorem gq {fn:Func} {t t':Array Value} {R:Ending→World→Prop} (h:results fn t=results fn t'):∀(ds:List Deferred) (u:FrameMode) (w:World),Leaves Tryz.prog fn t R ds u w→Leaves Tryz.prog fn t' R ds u w
 | [],.returning,w,⟨v,h1,h2⟩=>⟨v,by rw [←h];exact h1,h2⟩
 | [],.panicking c,w,q=>q
 | [],.run,_,q=>q.elim
 | d :: ds,u,w,⟨h1,fv,cap,f,args,h2,h3,h4⟩=>⟨h1,fv,cap,f,args,h2,h3,h4.mono fun e u' w' q=>by
   cases e with
   | returned v=>exact gq h ds _ _ q
   | panicked c=>exact gq h ds _ _ q
   | outgrown=>exact q⟩
theorem kZ (a:Act) (i:Nat) (v:Value) (h2:i≠2) (h3:i≠3) (h4:i≠4) (R:Ending→World→Prop) (ds:List Deferred) (u:FrameMode) (w:World) (h:Leaves Tryz.prog Tryz.f27 (a.put (some i) v).tmps R ds u w):Leaves Tryz.prog Tryz.f27 a.tmps R ds u w:=by
 refine gq ?_ ds u w h;have e:∀j,i≠j→(a.tmps.setIfInBounds i v)[j]?=a.tmps[j]?:=fun j hj=>Array.getElem?_setIfInBounds_ne hj;simp only [results,Tryz.results27,Act.put]
 simp [e 2 h2,e 3 h3,e 4 h4]
theorem wK (s0:Option Addr) (cap:Nat) (s:List UInt8) (w:World) (hs:SrcAt w s0 s) (hl:s.length≤1152921504606846976) (hc:s.length≤cap) :
    Calls Tryz.prog 27 #[.slice s0 s.length cap] w (lD w (dX s)):=by
 have H6:=zh (fun W (hW:Below w.heap.size w W)=>A5 s0 cap s W (hs.later hW) hl hc);have Hb:∀(fn:Go.Fn) (first cap:Array Value) (w:World),(Instr.makeFunc fn first cap).run Tryz.prog w=.ok (.func fn first cap) w:=fun _ _ _ _=>rfl;have HI:=zh CH;have hV:(s.length:Int)≤1152921504606846976:=by omega
 clear hs hc hl;go_enter_defers Tryz.func27,Tryz.ntmps27
 go_wp2_with fail
 have hQ:Hd (Below w.heap.size w (((w.alloc (.cells #[.slice none 0 0] 26)).alloc (.cells #[.int .i64 0] 27)).alloc (.cells #[.int .i64 0] 3))):=zh (ag (ag (ag (Below.refl _ _) _) _) _);have H2:Hd (ResAt (((w.alloc (.cells #[.slice none 0 0] 26)).alloc (.cells #[.int .i64 0] 27)).alloc (.cells #[.int .i64 0] 3)) w.heap.size (w.heap.size+1) (w.heap.size+1+1) (.slice none 0 0) 0 0):=zh ⟨ax _ _ _ _ (ax _ _ _ _ (aj _ _ _ rfl)),ax _ _ _ _ (aj _ _ _ (ah _ _)),aj _ _ _ (by simp only [ah]),by omega,by omega,by omega⟩;have hy:=zh (show (((w.alloc (.cells #[.slice none 0 0] 26)).alloc (.cells #[.int .i64 0] 27)).alloc (.cells #[.int .i64 0] 3)).heap.size=w.heap.size+1+1+1 by simp only [ah]);generalize (((w.alloc (.cells #[.slice none 0 0] 26)).alloc (.cells #[.int .i64 0] 27)).alloc (.cells #[.int .i64 0] 3))=w1 at *;have B:Hd (w.heap.size≤w.heap.size∧w.heap.size<w.heap.size+1∧w.heap.size+1<w.heap.size+1+1∧w.heap.size+1+1<w1.heap.size):=zh (by have:=hy.o;omega);generalize hA:w.heap.size+1+1=A at *;generalize hE:w.heap.size+1=E at *;generalize hP:w.heap.size=P at *;replace B:Hd (w.heap.size=P∧P<E∧E<A∧A<w1.heap.size):=zh ⟨hP,B.o.2⟩;clear hA hE hP hy;have n0:¬P=E:=by have:=B.o;omega
 have n1:¬P=A:=by have:=B.o;omega
 have n2:¬E=A:=by have:=B.o;omega
 have n3:¬E=P:=by have:=B.o;omega
 have n4:¬A=P:=by have:=B.o;omega
 have n5:¬A=E:=by have:=B.o;omega
 refine (H6.o _ hQ.o).mono ?_;rintro e w2 ⟨Z,d⟩;have G:=zh (H2.o.below d);have hO:=zh (hQ.o.trans (d.mono (by have:=B.o;omega)));have H8:=zh (show w1.heap.size≤w2.heap.size from d.size);clear d;have p0:w2.cell? ⟨P,0,none⟩=some (.slice none 0 0):=aa G.o.p (j:=0) rfl;have p1:w2.cell? ⟨E,0,none⟩=some (.int .i64 0):=aa G.o.e (j:=0) rfl;have p2:w2.cell? ⟨A,0,none⟩=some (.int .i64 0):=aa G.o.a (j:=0) rfl;have f0:w2.frozen? ⟨P,0,none⟩=false:=ae G.o.p 0;have f1:w2.frozen? ⟨E,0,none⟩=false:=ae G.o.e 0;have f2:w2.frozen? ⟨A,0,none⟩=false:=ae G.o.a 0
 cases hq:iP s with
 | error q =>
  obtain ⟨er,p⟩:=q;rw [hq] at Z;obtain rfl:e=_:=Z;have t:¬er=0:=xV hq;have HE:=zh (show dX s=.error (er,(p:Int)) from by unfold dX;rw [hq]);clear hq;go_upto_region 3 with fail
  go_region
  go_wp2_with fail
  have F:Hd (ResAt ((((((w2.setCell ⟨E,0,none⟩ (.int .i64 er)).setCell ⟨A,0,none⟩ (.int .i64 (p:Int))).setCell ⟨P,0,none⟩ (.slice none 0 0)).setCell ⟨E,0,none⟩ (.int .i64 er)).setCell ⟨A,0,none⟩ (.int .i64 (p:Int))).drew) P E A (.slice none 0 0) er p):=zh (((((G.o.setE er).setA p).setP (.slice none 0 0)).setE er).setA p |>.below (aw (Below.refl _ _)));have L:Hd (Below w.heap.size w ((((((w2.setCell ⟨E,0,none⟩ (.int .i64 er)).setCell ⟨A,0,none⟩ (.int .i64 (p:Int))).setCell ⟨P,0,none⟩ (.slice none 0 0)).setCell ⟨E,0,none⟩ (.int .i64 er)).setCell ⟨A,0,none⟩ (.int .i64 (p:Int))).drew)):=zh (by have h1:=B.o;rw [h1.1];exact (((((hO.o.setCell (p:=⟨E,0,none⟩) (by show P≤E;omega) _).setCell (p:=⟨A,0,none⟩) (by show P≤A;omega) _).setCell (p:=⟨P,0,none⟩) (Nat.le_refl _) _).setCell (p:=⟨E,0,none⟩) (by show P≤E;omega) _).setCell (p:=⟨A,0,none⟩) (by show P≤A;omega) _).drew);have r0:((((((w2.setCell ⟨E,0,none⟩ (.int .i64 er)).setCell ⟨A,0,none⟩ (.int .i64 (p:Int))).setCell ⟨P,0,none⟩ (.slice none 0 0)).setCell ⟨E,0,none⟩ (.int .i64 er)).setCell ⟨A,0,none⟩ (.int .i64 (p:Int))).drew).cell? ⟨P,0,none⟩=some (.slice none 0 0):=aa F.o.p (j:=0) rfl;have r1:((((((w2.setCell ⟨E,0,none⟩ (.int .i64 er)).setCell ⟨A,0,none⟩ (.int .i64 (p:Int))).setCell ⟨P,0,none⟩ (.slice none 0 0)).setCell ⟨E,0,none⟩ (.int .i64 er)).setCell ⟨A,0,none⟩ (.int .i64 (p:Int))).drew).cell? ⟨E,0,none⟩=some (.int .i64 (er)):=aa F.o.e (j:=0) rfl;have r2:((((((w2.setCell ⟨E,0,none⟩ (.int .i64 er)).setCell ⟨A,0,none⟩ (.int .i64 (p:Int))).setCell ⟨P,0,none⟩ (.slice none 0 0)).setCell ⟨E,0,none⟩ (.int .i64 er)).setCell ⟨A,0,none⟩ (.int .i64 (p:Int))).drew).cell? ⟨A,0,none⟩=some (.int .i64 (p)):=aa F.o.a (j:=0) rfl;clear p0 p1 p2 f0 f1 f2;generalize (((((w2.setCell ⟨E,0,none⟩ (.int .i64 er)).setCell ⟨A,0,none⟩ (.int .i64 (p:Int))).setCell ⟨P,0,none⟩ (.slice none 0 0)).setCell ⟨E,0,none⟩ (.int .i64 er)).setCell ⟨A,0,none⟩ (.int .i64 (p:Int))).drew=w3 at *;refine ⟨.tuple #[.agg #[.slice none 0 0],.int .i64 er,.int .i64 p],by simp [results,Tryz.results27,go_sem,r0,r1,r2],?_⟩;rw [HE.o];exact ⟨⟨t,rfl⟩,L.o⟩
 | ok l =>
  rw [hq] at Z;obtain ⟨v,he,hv⟩:=Z;subst he;obtain ⟨s1,c1,rfl,h1,h2,h3,h4⟩:=hv;have hx:=zh h4;have hI:=zh (qR hq);have hL:=zh (And.intro h1 (And.intro h2 h3));have k:=zh (show dX s=(match gi s.length (l.length+1) [] l with | .error e=>.error e | .ok (x,_)=>.ok x) from by unfold dX;rw [hq];rfl);clear hq h1 h2 h3 h4;go_upto_region 5 with fail
  have hz:Hd (ResAt ((w2.setCell ⟨E,0,none⟩ (.int .i64 0)).setCell ⟨A,0,none⟩ (.int .i64 0)) P E A (.slice none 0 0) 0 0):=zh ((G.o.setE 0).setA 0);have N:Hd (OnS (fun b=>b=E∨b=A) w2 ((w2.setCell ⟨E,0,none⟩ (.int .i64 0)).setCell ⟨A,0,none⟩ (.int .i64 0))):=zh (((OnS.refl _ w2).set (.inl rfl) 0 _).set (.inr rfl) 0 _);have hd:Hd (Below w.heap.size w ((w2.setCell ⟨E,0,none⟩ (.int .i64 0)).setCell ⟨A,0,none⟩ (.int .i64 0))):=zh (by have h1:=B.o;rw [h1.1];exact (hO.o.setCell (p:=⟨E,0,none⟩) (by show P≤E;omega) _).setCell (p:=⟨A,0,none⟩) (by show P≤A;omega) _);have V:=zh (show ((w2.setCell ⟨E,0,none⟩ (.int .i64 0)).setCell ⟨A,0,none⟩ (.int .i64 0)).heap.size=w2.heap.size by rw [aC,aC])
  have J:Hd (RowTk ((w2.setCell ⟨E,0,none⟩ (.int .i64 0)).setCell ⟨A,0,none⟩ (.int .i64 0)) s1 l):=zh (fun h0=>by
    obtain ⟨b,off,e,c,I⟩:=hx.o h0
    have He:b≠E:=by
      rintro rfl;obtain ⟨_,_,_,x3⟩:=I 0 h0;have hE:=G.o.e;unfold World.cell? at x3;simp only [hE] at x3
      simp at x3
    have Hf:b≠A:=by
      rintro rfl;obtain ⟨_,_,_,x3⟩:=I 0 h0;have hA:=G.o.a;unfold World.cell? at x3;simp only [hA] at x3
      simp at x3
    have Y:¬(b=E∨b=A):=by rintro (q | q)<;>contradiction
    refine ⟨b,off,e,Nat.lt_of_lt_of_le c N.o.size,fun i hi=>?_⟩;obtain ⟨x0,x1,x2,x3⟩:=I i hi;exact ⟨N.o.cell Y x0,N.o.cell Y x1,N.o.cell Y x2,N.o.cell Y x3⟩)
  generalize ((w2.setCell ⟨E,0,none⟩ (.int .i64 0)).setCell ⟨A,0,none⟩ (.int .i64 0))=w3 at *;clear p0 p1 p2 f0 f1 f2;have hB:=zh (Nat.le_trans H8.o (Nat.le_of_eq V.o.symm));have z:Hd (ResAt (w3.alloc (.cells #[.slice s1 l.length c1,.int .i64 s.length] 110)) P E A (.slice none 0 0) 0 0):=zh (hz.o.below (ag (Below.refl _ _) _));have ha:Hd (Below w.heap.size w (w3.alloc (.cells #[.slice s1 l.length c1,.int .i64 s.length] 110))):=zh (hd.o.alloc hd.o.size _);have hG:Hd (P≤w3.heap.size∧E<w3.heap.size∧A<w3.heap.size):=zh (by have h1:=B.o;have h3:=hB.o;omega)
  cases l with
  | nil =>
   rw [show ([]:List Tk).length=0 from rfl] at *;have q0:(w3.alloc (.cells #[.slice s1 0 c1,.int .i64 s.length] 110)).cell? ⟨w3.heap.size,0,none⟩=some (.slice s1 0 c1):=aA _ _ _ _ _ _ rfl rfl;have HE:=zh (show dX s=.ok [] from k.o);have C:=z;have h8:=ha;go_wp2_with fail
   generalize w3.alloc (.cells #[.slice s1 0 c1,.int .i64 s.length] 110)=w4 at *;have p0:(w4).cell? ⟨P,0,none⟩=some (.slice none 0 0):=aa C.o.p (j:=0) rfl;have p1:(w4).cell? ⟨E,0,none⟩=some (.int .i64 0):=aa C.o.e (j:=0) rfl;have p2:(w4).cell? ⟨A,0,none⟩=some (.int .i64 0):=aa C.o.a (j:=0) rfl;have f0:(w4).frozen? ⟨P,0,none⟩=false:=ae C.o.p 0;have f1:(w4).frozen? ⟨E,0,none⟩=false:=ae C.o.e 0;have f2:(w4).frozen? ⟨A,0,none⟩=false:=ae C.o.a 0;go_loopw [] (fun wr=>wr=w4) (fun _=>0)
   case atStart=>exact rfl
   case round =>
    subst hrel;go_wp2_with fail
    clear p0 p1 p2 f0 f1 f2 q0;have F:Hd (ResAt ((((wr.setCell ⟨P,0,none⟩ (.slice none 0 0)).setCell ⟨E,0,none⟩ (.int .i64 0)).setCell ⟨A,0,none⟩ (.int .i64 0)).alloc (.cells #[.int .i64 0,.int .i64 0] 106)) P E A (.slice none 0 0) 0 0):=zh ((((C.o.setP (.slice none 0 0)).setE 0).setA 0).below (ag (Below.refl _ _) _));have L:Hd (Below w.heap.size w ((((wr.setCell ⟨P,0,none⟩ (.slice none 0 0)).setCell ⟨E,0,none⟩ (.int .i64 0)).setCell ⟨A,0,none⟩ (.int .i64 0)).alloc (.cells #[.int .i64 0,.int .i64 0] 106))):=zh (by have h1:=B.o;have h2:=h8.o;rw [h1.1] at h2 ⊢;exact (((h2.setCell (p:=⟨P,0,none⟩) (Nat.le_refl _) _).setCell (p:=⟨E,0,none⟩) (by show P≤E;omega) _).setCell (p:=⟨A,0,none⟩) (by show P≤A;omega) _).alloc (by rw [aC,aC,aC];have:=h2.size;omega) _);refine leaves_cons (f:=50) (args:=#[.pointer (some ⟨P,0,none⟩),.pointer (some ⟨E,0,none⟩),.pointer (some ⟨A,0,none⟩)]) (by simp) (by simp [go_sem]) ?_;refine (mY P E A _).mono ?_;rintro e u' w9 ⟨rfl,rfl,h9⟩;have r0:(w9).cell? ⟨P,0,none⟩=some (.slice none 0 0):=by rw [h9];exact aa F.o.p (j:=0) rfl
    have r1:(w9).cell? ⟨E,0,none⟩=some (.int .i64 (0)):=by rw [h9];exact aa F.o.e (j:=0) rfl
    have r2:(w9).cell? ⟨A,0,none⟩=some (.int .i64 (0)):=by rw [h9];exact aa F.o.a (j:=0) rfl
    refine ⟨.tuple #[.agg #[.slice none 0 0],.int .i64 0,.int .i64 0],by simp [results,Tryz.results27,go_sem,r0,r1,r2],?_⟩;rw [HE.o,h9];exact ⟨⟨_,rfl,RepFns.nil _ _⟩,L.o⟩
  | cons tk tr =>
   have hD:Hd (0<(tk :: tr).length):=zh (by simp)
   have C:Hd (PrW w P E A w3.heap.size s.length (w3.alloc (.cells #[.slice s1 (tk :: tr).length c1,.int .i64 s.length] 110)) (tk :: tr) (.slice none 0 0) []):=zh (by
      have h1:=B.o;have h3:=hG.o;have hn:=hL.o;refine ⟨⟨⟨_,aj _ _ _ rfl⟩,⟨s1,c1,aA _ _ _ _ _ _ rfl rfl,hn.1,hn.2.1,fun h0=>?_,fun b off e=>?_⟩,aA _ _ _ _ _ _ rfl rfl,by have:=hI.o;omega⟩,z.o,GrowOf.nil,ha.o,by omega⟩
      · obtain ⟨b,off,e,c,I⟩:=J.o h0
        exact ⟨b,off,e,by rw [ah];omega,fun i hi=>⟨aq _ (I i hi).1,aq _ (I i hi).2.1,aq _ (I i hi).2.2.1,aq _ (I i hi).2.2.2⟩⟩
      · obtain ⟨b2,off2,e2,c,_⟩:=J.o hD.o
        rw [e] at e2;injection e2 with e2
        injection e2 with q1 q2
        rw [q1];exact c)
   have H0:=zh (show (tk :: tr).length≤2048 from hI.o);have H4:=k;generalize Hc:tk :: tr=lt at *;go_wp2_with fail
   generalize w3.alloc (.cells #[.slice s1 lt.length c1,.int .i64 s.length] 110)=w4 at *;generalize w3.heap.size=rb at *;clear z ha J hx hL hD N hz hd V hB hG;go_loopg [] (lt.length+1) (fun g wr=>∃(acc:List Fn) (lc:List Tk) (v:Value),gi s.length (lt.length+1) [] lt=gi s.length g acc lc∧lc.length<g∧acc.length+g≤3000∧PrW w P E A rb s.length wr lc v acc)
   case atStart=>exact ⟨[],lt,_,rfl,Nat.lt_succ_self _,by have:=H0.o;simp;omega,C.o⟩
   case round =>
    clear C;obtain ⟨acc,lc,v,hF,hk,hw,n⟩:=hrel;obtain ⟨g,rfl⟩:∃g,gk=g+1:=⟨gk-1,by omega⟩
    have H7:=zh hk;have hf:=zh hw;have HW:=zh n;obtain ⟨sv,cv,rfl,_,hX⟩:=n.form;unfold maxLen at hX;have h7:=zh hF;clear hF hk hw n;obtain ⟨s5,c5,q5,hg,m,_,_⟩:=HW.o.rd.rest;unfold maxLen at m;have p0:wr.cell? ⟨P,0,none⟩=some (.slice sv acc.length cv):=aa HW.o.res.p (j:=0) rfl
    cases lc with
    | nil =>
     have q0:wr.cell? ⟨rb,0,none⟩=some (.slice s5 0 c5):=q5;have HE:=zh (show dX s=.ok acc from k.o.trans (by rw [h7.o,vt]));clear q5 hg m p0;have C:Hd (ResAt wr P E A (.slice sv acc.length cv) 0 0):=zh HW.o.res;have h8:Hd (Below w.heap.size w wr):=zh HW.o.on;have Ha:Hd (RepFns (bM (rb+1)) wr (.slice sv acc.length cv) acc):=zh HW.o.gr.row;have p0:(wr).cell? ⟨P,0,none⟩=some (.slice sv acc.length cv):=aa C.o.p (j:=0) rfl;have p1:(wr).cell? ⟨E,0,none⟩=some (.int .i64 0):=aa C.o.e (j:=0) rfl;have p2:(wr).cell? ⟨A,0,none⟩=some (.int .i64 0):=aa C.o.a (j:=0) rfl;have f0:(wr).frozen? ⟨P,0,none⟩=false:=ae C.o.p 0;have f1:(wr).frozen? ⟨E,0,none⟩=false:=ae C.o.e 0;have f2:(wr).frozen? ⟨A,0,none⟩=false:=ae C.o.a 0;go_wp2_with fail
     clear p0 p1 p2 f0 f1 f2 q0;have F:Hd (ResAt ((((wr.setCell ⟨P,0,none⟩ (.slice sv acc.length cv)).setCell ⟨E,0,none⟩ (.int .i64 0)).setCell ⟨A,0,none⟩ (.int .i64 0)).alloc (.cells #[.int .i64 0,.int .i64 0] 106)) P E A (.slice sv acc.length cv) 0 0):=zh ((((C.o.setP (.slice sv acc.length cv)).setE 0).setA 0).below (ag (Below.refl _ _) _));have L:Hd (Below w.heap.size w ((((wr.setCell ⟨P,0,none⟩ (.slice sv acc.length cv)).setCell ⟨E,0,none⟩ (.int .i64 0)).setCell ⟨A,0,none⟩ (.int .i64 0)).alloc (.cells #[.int .i64 0,.int .i64 0] 106))):=zh (by have h1:=B.o;have h2:=h8.o;rw [h1.1] at h2 ⊢;exact (((h2.setCell (p:=⟨P,0,none⟩) (Nat.le_refl _) _).setCell (p:=⟨E,0,none⟩) (by show P≤E;omega) _).setCell (p:=⟨A,0,none⟩) (by show P≤A;omega) _).alloc (by rw [aC,aC,aC];have:=h2.size;omega) _);refine leaves_cons (f:=50) (args:=#[.pointer (some ⟨P,0,none⟩),.pointer (some ⟨E,0,none⟩),.pointer (some ⟨A,0,none⟩)]) (by simp) (by simp [go_sem]) ?_;refine (mY P E A _).mono ?_;rintro e u' w9 ⟨rfl,rfl,h9⟩;have r0:(w9).cell? ⟨P,0,none⟩=some (.slice sv acc.length cv):=by rw [h9];exact aa F.o.p (j:=0) rfl
     have r1:(w9).cell? ⟨E,0,none⟩=some (.int .i64 (0)):=by rw [h9];exact aa F.o.e (j:=0) rfl
     have r2:(w9).cell? ⟨A,0,none⟩=some (.int .i64 (0)):=by rw [h9];exact aa F.o.a (j:=0) rfl
     refine ⟨.tuple #[.agg #[.slice sv acc.length cv],.int .i64 0,.int .i64 0],by simp [results,Tryz.results27,go_sem,r0,r1,r2],?_⟩;rw [HE.o];refine ⟨⟨_,rfl,(Ha.o.keep ?_).mono fun b (hb:rb+1≤b)=>?_⟩,by rw [h9];exact L.o⟩
     ·rw [h9]
      have hT:OnS (fun b=>b=P∨b=E∨b=A) wr (((wr.setCell ⟨P,0,none⟩ (.slice sv acc.length cv)).setCell ⟨E,0,none⟩ (.int .i64 0)).setCell ⟨A,0,none⟩ (.int .i64 0)):=(((OnS.refl _ wr).set (.inl rfl) 0 _).set (.inr (.inl rfl)) 0 _).set (.inr (.inr rfl)) 0 _;refine (hT.stays fun b (hb:rb+1≤b) hh=>?_).trans (Stays.of_below (ag (Below.refl _ _) _));have:=HW.o.low;omega
     ·have h1:=B.o
      have h2:=HW.o.low;show w.heap.size≤b
      omega
    | cons tk2 tr2 =>
     have HF:=zh (show gi s.length (lt.length+1) [] lt=((gw s.length).bind fun x=>gi s.length g (acc++[x])) (tk2 :: tr2) from h7.o);have hU:(0:Int)<((tk2 :: tr2).length:Int):=by simp
     have hS:(0:Int)<((tr2.length+1:Nat):Int):=by omega
     go_upto_region 7 with fail
     clear q5 hg m hU hS h7;refine ay (S:=(fun w'=>w'.cell? ⟨P,0,none⟩=some (.slice sv acc.length cv))) 5 (by kernel_rfl) (by kernel_rfl) (by (first | exact p0 | exact aq _ p0)) (fun hH=>?_);simp only [List.take_succ_cons,List.take_zero,List.drop_succ_cons,List.drop_zero]
     refine wpAnyH_take (i:=0) (v:=?_) rfl (by kernel_rfl) (by kernel_rfl) (by kernel_rfl) (fun _ _ _ h=>kZ _ _ _ (by decide) (by decide) (by decide) _ _ _ _ h) (Or.inl ⟨by rfl,?_⟩) (by assumption) ?_;rotate_left 1
     ·(intro w U;(try dsimp only at U);go_simp;try with_reducible rfl)
     try go_simp
     refine wpAnyH_take (i:=1) (v:=?_) rfl (by kernel_rfl) (by kernel_rfl) (by kernel_rfl) (fun _ _ _ h=>kZ _ _ _ (by decide) (by decide) (by decide) _ _ _ _ h) (Or.inl ⟨by rfl,?_⟩) (by assumption) ?_;rotate_left 1
     ·(intro w U;(try dsimp only at U);go_simp;try with_reducible rfl)
     try go_simp
     refine wpAnyH_take (i:=2) (v:=?_) rfl (by kernel_rfl) (by kernel_rfl) (by kernel_rfl) (fun _ _ _ h=>kZ _ _ _ (by decide) (by decide) (by decide) _ _ _ _ h) (Or.inl ⟨by rfl,?_⟩) (by assumption) ?_;rotate_left 1
     ·(intro w U;(try dsimp only at U);go_simp;try with_reducible rfl)
     try go_simp
     refine rd1 3 fun K hK=>?_;go_simp;go_at_call 51
     refine (zt rb (s.length:Int) (tk2 :: tr2) _ (HW.o.rd.on (aw (Below.refl _ _)))).mono ?_;rintro e w4 hp;rcases hp.cases with ⟨er,p,hm,rfl,ho⟩ | ⟨x4,L4,v,hm,rfl,hv,hr,ho⟩
     ·have HE:=zh (HF.o.trans (aD hm))
      have t:er≠0:=AK _ _ _ _ hm;have R:=(On.of_below (aw (Below.refl _ _)):On rb wr _).trans ho;have h5:=zh (HW.o.stay R);clear hp hm ho R;unfold Pan
      (try go_wp2_with fail)
      refine leaves_cons (f:=50) (args:=#[.pointer (some ⟨P,0,none⟩),.pointer (some ⟨E,0,none⟩),.pointer (some ⟨A,0,none⟩)]) (by simp) (by simp [go_sem]) ?_;refine (rO P E A _ 0 0 er p [] _ h5.o.1).mono ?_;rintro e u' w9 ⟨rfl,rfl,h9⟩;have F:Hd (ResAt w9 P E A (.slice none 0 0) er p):=zh (by rw [h9];exact ((((h5.o.1.setP (.slice none 0 0)).setE er).setA p).below (aw (ag (Below.refl _ _) _))));have L:Hd (Below w.heap.size w w9):=zh (by have h1:=B.o;have h2:=h5.o.2;rw [h9];rw [h1.1] at h2 ⊢;exact ((((h2.setCell (p:=⟨P,0,none⟩) (Nat.le_refl _) _).setCell (p:=⟨E,0,none⟩) (by show P≤E;omega) _).setCell (p:=⟨A,0,none⟩) (by show P≤A;omega) _).alloc (by rw [aC,aC,aC];have:=h2.size;omega) _).drew);have r0:(w9).cell? ⟨P,0,none⟩=some (.slice none 0 0):=aa F.o.p (j:=0) rfl;have r1:(w9).cell? ⟨E,0,none⟩=some (.int .i64 (er)):=aa F.o.e (j:=0) rfl;have r2:(w9).cell? ⟨A,0,none⟩=some (.int .i64 (p)):=aa F.o.a (j:=0) rfl;refine ⟨.tuple #[.agg #[.slice none 0 0],.int .i64 er,.int .i64 p],by simp [results,Tryz.results27,go_sem,r0,r1,r2],?_⟩;have H5:=zh (show dX s=.error (er,p) from k.o.trans (by rw [HE.o]));rw [H5.o];exact ⟨⟨t,rfl⟩,L.o⟩
     replace HF:=zh (HF.o.trans (aH hm));have H1:=zh (lN _ _ _ _ hm);have R:=(On.of_below (aw (Below.refl _ _)):On rb wr _).trans ho;have hC:=zh HW.o;replace HW:=zh (HW.o.call R hr);obtain ⟨nm,sA,nA,cA,rs,sB,nB,cB,pos,rfl,O⟩:=hv;have y:=zh O;replace p0:w4.cell? ⟨P,0,none⟩=some (.slice sv acc.length cv):=aa HW.o.res.p (j:=0) rfl;clear hp hm hr ho R O;go_simp;refine hK.out _ _ ?_ (fun hH=>?_)
     ·(try dsimp only)
      (first | exact p0 | exact aq _ p0)
     clear hK K;try go_simp
     refine rd1 4 fun K hK=>?_;go_simp;refine hK.out _ _ ?_ (fun hH=>?_)
     ·(try dsimp only)
      (first | exact p0 | exact aq _ p0)
     clear hK K;try go_simp
     refine wpAnyH_done (by kernel_rfl) ?_ _;dsimp only [aP];have hN:=zh (ag (Below.refl w4.heap.size w4) (.cells #[.string nm,.slice sA nA cA,.int .i64 rs,.slice sB nB cB,.int .i64 pos] 76));have M:=zh (HW.o.below hN.o);obtain ⟨cs,Q,ht⟩:=M.o.gr;have X:=zh Q;have H9:=zh ht;have fz:(w4.alloc (.cells #[.string nm,.slice sA nA cA,.int .i64 rs,.slice sB nB cB,.int .i64 pos] 76)).frozen? ⟨P,0,none⟩=false:=ae M.o.res.p 0;have hM:=zh M.o.res.p
     have h6:Hd (∀b,(Value.slice sv acc.length cv).ownBlock=some b→b<wr.heap.size):=zh (fun b hb=>by
      obtain ⟨cs',hR,_⟩:=hC.o.gr;exact (aI hR hb).2)
     have HY:=zh ((y.o.keep (Stays.of_below hN.o)).mono (S':=fun b=>rb+1≤b∧(Value.slice sv acc.length cv).ownBlock≠some b) fun b (hb:wr.drew.heap.size≤b)=>⟨Nat.le_trans (Nat.succ_le_of_lt hC.o.rd.lt) hb,fun e=>absurd (h6.o b e) (Nat.not_lt_of_le hb)⟩);clear Q ht p0;refine wpList_append_lies _ rfl _ _ _ rfl (rb+1) 76 HI.o.choose (.agg #[.string ⟨#[]⟩,.slice none 0 0,.int .i64 0,.slice none 0 0,.int .i64 0]) 5 80 Tryz.underlying24 HI.o.choose_spec.1 HI.o.choose_spec.2.1 HI.o.choose_spec.2.2.1 HI.o.choose_spec.2.2.2 rfl (by decide) _ acc.length (bG cs acc.length) rfl X.o ⟨w4.heap.size,0,none⟩ 1 1 [.string nm,.slice sA nA cA,.int .i64 rs,.slice sB nB cB,.int .i64 pos] rfl rfl (by intro j u hj;rw [Go.WideShapes.add_plain,Nat.zero_add];exact aA _ _ _ _ _ _ rfl (by simpa using hj)) (by intro u hu;simp at hu;rcases hu with rfl | rfl | rfl | rfl | rfl<;>rfl) (by decide) (by have:=hf.o;unfold maxLen;omega) (by have:=hf.o;omega) (Nat.succ_le_of_lt M.o.rd.lt) _ rfl ?_;intro g9 cp9 w9 H D T r;have H3:=zh (M.o.push (q:=x4) H9.o rfl HY.o D T H);have z9:=(D.block P (af hM.o) (fun e=>by have h1:rb+1≤P:=(aI X.o e.symm).1;have:=M.o.low;omega)).trans hM.o;have x9:w9.cell? ⟨P,0,none⟩=some (.slice sv acc.length cv):=aa z9 (j:=0) rfl;have y9:=ae z9 0;clear H D T r z9 fz;go_wp2_with fail
     go_roundg g
     case measure=>exact Nat.lt_succ_self _
     case rel=>exact ⟨_,L4,_,HF.o,by have h1:=H1.o;have h2:=H7.o;omega,by have:=hf.o;simp;omega,H3.o⟩
end
end Go.Proofs.YthgcpfkochikfaaGreat
