/-
  VerifyBuilt: part 37 of its proof: see the last text.
-/
import Derived.Test.YtmlgbkomdhcaoaaGreatDoorPv32
import Derived.Test.YtmlgbkomdhcaoaaGreatDoorPv36
set_option maxRecDepth 100000
set_option maxHeartbeats 16000000
namespace Go.Proofs.YtmlgbkomdhcaoaaGreatDoor
section
open Go.RowKit Go.MapKept
theorem sZ (l:List St) (ih:∀s,s∈l→∀(w:World) (u:Value),(RepSts Any w u s.body→Calls Tryz.prog 70 #[u] w fun e w'=>e=.returned (.bool (bE s.body))∧Below w.heap.size w w')∧(RepSts Any w u s.els→Calls Tryz.prog 70 #[u] w fun e w'=>e=.returned (.bool (bE s.els))∧Below w.heap.size w w')) (w:World) (u:Value) (hr:RepSts Any w u l) :
    Calls Tryz.prog 70 #[u] w fun e w'=>e=.returned (.bool (bE l))∧Below w.heap.size w w':=by
 obtain ⟨cs,⟨s0,cap,rfl,c,U,_,F,T⟩,N⟩:=hr;by_cases hl:l.length=0
 ·have HE:Hd (bE l=false):=zh (by rw [List.eq_nil_of_length_eq_zero hl];rw [bE])
  rw [hl];clear F T N ih;go_enter Tryz.func70,Tryz.ntmps70
  go_wp2_with fail
  exact bodyPost_ret (v:=.bool false) (by simp [results,Tryz.results70,go_sem]) rfl ⟨by rw [HE.o],Below.refl _ _⟩
 ·have A:=zh (kV l (by omega))
  obtain ⟨b,off,Z,_,d,C⟩:=F (by omega);subst Z;obtain ⟨i,hi⟩:∃i,i=l.length-1:=⟨_,rfl⟩
  rw [←hi] at A;have I:i<l.length:=by omega
  have B:=N i I;obtain ⟨op,text,s1,n1,c1,s2,n2,c2,s3,n3,c3,pos,O⟩:=kB B;rw [O] at B;have D:∀j,j<6→w.cell? ⟨b,off+i * 6+j,none⟩=(cs i)[j]?:=fun j hj=>C i I j hj;rw [O] at D;have x0:w.cell? ⟨b,off+i * 6,none⟩=some (.int .i64 op):=D 0 (by decide);have x1:w.cell? ⟨b,off+i * 6+1,none⟩=some (.string text):=D 1 (by decide);have x2:w.cell? ⟨b,off+i * 6+2,none⟩=some (.slice s1 n1 c1):=D 2 (by decide);have x3:w.cell? ⟨b,off+i * 6+3,none⟩=some (.slice s2 n2 c2):=D 3 (by decide);have x4:w.cell? ⟨b,off+i * 6+4,none⟩=some (.slice s3 n3 c3):=D 4 (by decide);have x5:w.cell? ⟨b,off+i * 6+5,none⟩=some (.int .i64 pos):=D 5 (by decide);obtain ⟨es,body,els,hs,_,hb,H⟩:=ww B;have M:l.getD i default∈l:=by rw [List.getD_eq_getElem?_getD,List.getElem?_eq_getElem I];exact List.getElem_mem I
  have J:=ih _ M;rw [hs] at J A;have HB:=zh (fun W (hW:Below w.heap.size w W)=>(J W (.slice s2 n2 c2)).1 (hb.keep (Stays.of_below hW)));have HL:=zh (fun W (hW:Below w.heap.size w W)=>(J W (.slice s3 n3 c3)).2 (H.keep (Stays.of_below hW)));replace A:=zh (A.o.trans (endsS.eq_1 op text es body els pos));have eI:(l.length:Int)-1=(i:Int):=by omega
  have g0:(0:Int)≤(i:Int):=by omega
  have g1:(i:Int)<(l.length:Int):=by omega
  have g2:¬(l.length:Int)=0:=by omega
  have P:=U;unfold maxLen at P;clear F T N ih D O B C J hb H hs U hl hi;simp only [St.body,St.els] at HB HL
  generalize bE l=E at *;go_enter Tryz.func70,Tryz.ntmps70
  go_upto_region 4 with fail
  have X:Below w.heap.size w (w.alloc (.cells #[.int .i64 op,.string text,.slice s1 n1 c1,.slice s2 n2 c2,.slice s3 n3 c3,.int .i64 pos] 110)):=ag (Below.refl _ _) _;have G:Hd ((w.alloc (.cells #[.int .i64 op,.string text,.slice s1 n1 c1,.slice s2 n2 c2,.slice s3 n3 c3,.int .i64 pos] 110)).heap[w.heap.size]?=some (.cells #[.int .i64 op,.string text,.slice s1 n1 c1,.slice s2 n2 c2,.slice s3 n3 c3,.int .i64 pos] 110 (0,0))):=zh (am _ _ _ rfl);have L:=zh X;clear X x0 x1 x2 x3 x4 x5;generalize (w.alloc (.cells #[.int .i64 op,.string text,.slice s1 n1 c1,.slice s2 n2 c2,.slice s3 n3 c3,.int .i64 pos] 110))=w1 at *;generalize K:w.heap.size=SP at *;obtain ⟨-,-,-,e3,e4,-⟩:=css G.o;by_cases h5:op=5
  ·subst h5
   have e0:w1.cell? ⟨SP,0,none⟩=some (.int .i64 5):=aa G.o (j:=0) rfl;go_wp2_with fail
   exact bodyPost_ret (v:=.bool true) (by simp [results,Tryz.results70,go_sem]) rfl ⟨by rw [A.o];rfl,by rw [K];exact L.o⟩
  by_cases h3:op=3
  ·subst h3
   have e0:w1.cell? ⟨SP,0,none⟩=some (.int .i64 3):=aa G.o (j:=0) rfl;go_wp2_with fail
   refine (HB.o _ L.o).mono ?_;rintro e w2 ⟨rfl,Q⟩;have S:=zh (L.o.trans (Q.mono (Nat.le_of_lt (ae G.o))));have Y:=zh ((Q.block _ (ae G.o)).trans G.o);clear Q e0 e3 e4;generalize bE body=q at *;have f4:w2.cell? ⟨SP,4,none⟩=some (.slice s3 n3 c3):=aa Y.o (j:=4) rfl
   cases q
   ·go_wp2_with fail
    exact bodyPost_ret (v:=.bool false) (by simp [results,Tryz.results70,go_sem]) rfl ⟨by rw [A.o];rfl,by rw [K];exact S.o⟩
   ·go_wp2_with fail
    refine (HL.o _ S.o).mono ?_;rintro e w3 ⟨rfl,V⟩;have a:=zh (S.o.trans (V.mono (Nat.le_of_lt (ae Y.o))));clear V f4;generalize bE els=q at *;go_wp2_with fail
    exact bodyPost_ret (v:=.bool q) (by simp [results,Tryz.results70,go_sem]) rfl ⟨by rw [A.o];rfl,by rw [K];exact a.o⟩
  ·have R:=zh (And.intro h5 h3)
   have e0:w1.cell? ⟨SP,0,none⟩=some (.int .i64 op):=aa G.o (j:=0) rfl;go_wp2_with fail
   exact bodyPost_ret (v:=.bool false) (by simp [results,Tryz.results70,go_sem,R.o.1]) rfl ⟨by rw [A.o,beq_false_of_ne R.o.1,beq_false_of_ne R.o.2];rfl,by rw [K];exact L.o⟩
theorem jn (l:List St) (w:World) (u:Value) (hr:RepSts Any w u l) :
    Calls Tryz.prog 70 #[u] w fun e w'=>e=.returned (.bool (bE l))∧Below w.heap.size w w':=
 sZ l (fun s _ w u=>⟨jn s.body w u,jn s.els w u⟩) w u hr
termination_by SizeOf.sizeOf l
decreasing_by
 ·exact (St.body_lt (by assumption)).1
 ·exact (St.body_lt (by assumption)).2
theorem nz (b:Nat) (m:List (ByteArray×Value)) (w:World) (h:MapAt w b m) :
    Calls Tryz.prog 32 #[.map (some b)] w fun e w'=>e=.returned (.map (some w.heap.size))∧MapAt w' w.heap.size m∧Below w.heap.size w w':=by
 obtain ⟨es,clock,hb,hm⟩:=h;have hq:=fun w=>run_eql_map_nil_sl (P:=Tryz.prog) w 54 _ _ (some b) gS;go_enter Tryz.func32,Tryz.ntmps32
 go_wp2
 rw [run_callFunc_extern Tryz.func66 (by kernel_rfl) (by kernel_rfl) (by kernel_rfl) (e:=Extern.MapsClone.clone) (by kernel_rfl),run_maps_clone_sl w 54 hb];simp only [Result.andThen]
 rw [Oper.upon_value];go_wp2
 rw [run_typeAssert_map_sl _ 54 20 _ _ _ gS];simp only [Result.andThen]
 rw [Oper.upon_value];go_wp2
 go_ret
 exact ⟨rfl,⟨es,clock,am _ _ _ rfl,hm⟩,ag (Below.refl _ _) _⟩
def FxR (B M NB r:Nat) (w w':World):Prop:=OnS (fun k=>k=r∨Turns B M NB w k) w w'
theorem Fx.toR {B M NB r:Nat} {w w':World} (h:Fx B M NB w w'):FxR B M NB r w w':=h.mono fun _ hk=>.inr hk
theorem Turns.backR {B M NB r:Nat} {a b:World} (h:FxR B M NB r a b) {k:Nat} (hk:Turns B M NB b k):(k=r∨Turns B M NB a k)∨a.heap.size≤k:=by
 by_cases hl:a.heap.size≤k
 ·exact .inr hl
 ·by_cases ht:k=r∨Turns B M NB a k
  ·exact .inl ht
  ·have e:=h.block k (by omega) ht
   exact .inl (.inr ⟨hk.1,hk.2.imp id (fun q=>q.imp (fun q=>q.keep e.symm) (fun q=>q.imp (fun q=>q.keep e.symm) (fun q=>q.imp (fun q=>⟨q.1.keep e.symm,q.2⟩) (fun q=>q.keep e.symm))))⟩)
theorem FxR.trans {B M NB r:Nat} {a b c:World} (h:FxR B M NB r a b) (g:FxR B M NB r b c):FxR B M NB r a c:=
 OnS.new h g fun _ hk=>hk.elim (fun e=>.inl (.inl e)) (fun q=>Turns.backR h q)
theorem Fx.newR {B M NB r:Nat} {a b c:World} (h:Fx B M NB a b) (g:FxR B M NB r b c) (hr:a.heap.size≤r):Fx B M NB a c:=
 OnS.new h g fun k hk=>hk.elim (fun e=>.inr (by omega)) (fun q=>Turns.back h q)
theorem FxR.below {B M NB r:Nat} {w w':World} (h:FxR B M NB r w w') (hB:B≤w.heap.size) (hr:B≤r):Below B w w':=⟨h.os,h.tape,h.output,h.size,fun i hi=>h.block i (by omega) (fun q=>q.elim (fun e=>by omega) (fun q=>by have:=q.1;omega))⟩
theorem FxR.obj {B M NB r:Nat} {w w':World} (h:FxR B M NB r w w') {k:Nat} {A:Array Value} {t:TypeId} {fz:Nat×Nat} (ho:w.heap[k]?=some (.cells A t fz)) (hn:k≠NB) (hr:k≠r) (h1:t≠63) (h2:t≠56) (h3:t≠35) (h4:t≠22):w'.heap[k]?=some (.cells A t fz):=
 OnS.obj h (fun q=>by
   have ht:OfTy w k t:=⟨_,_,ho⟩
   rcases q with q | q
   · exact hr q
   rcases q.2 with q | q | q | q | q
   · exact hn q
   · exact ht.ne q h1 rfl
   · exact ht.ne q h2 rfl
   · exact ht.ne q.1 h3 rfl
   · exact ht.ne q h4 rfl) ho
theorem CoW.stepR {B M MB TB NB r:Nat} {fv:Value} {F:List Fn} {w0 w w':World} {s s':CS} (h:CoW B M MB TB NB fv F w0 w s) (hm:MkAt B M w' MB TB NB fv s') (hf:FxR B M NB r w w') (hr:B≤r):CoW B M MB TB NB fv F w0 w' s':=
 ⟨h.old.trans (hf.below h.le hr),hm,h.sg.below (hf.below h.le hr) h.sb,h.sb,h.fn.keep (Stays.of_lt (hf.below h.le hr)),Nat.le_trans h.le hf.size⟩
theorem MkAt.onMap {B M MB TB NB r:Nat} {fv:Value} {w w':World} {s:CS} (h:MkAt B M w MB TB NB fv s) (ho:On r w w') (A:∀t,¬OfTy w r t) (hr:r≠NB):MkAt B M w' MB TB NB fv s:=by
 obtain ⟨iv,h1,h2⟩:=h.m;obtain ⟨tv,vs,h3,h4,h5⟩:=h.t;have hk:∀{k:Nat} {t:TypeId},OfTy w k t→w'.heap[k]?=w.heap[k]?:=fun {k t} ht=>ho.block k ht.lt (fun e=>by injection e with e;exact A t (e▸ht));refine ⟨h.bm,h.mm,h.ml,h.bt,h.bn,⟨iv,(hk ⟨_,_,h1⟩).trans h1,bG h2 fun k q=>hk (bD h2 q)⟩,⟨tv,vs,(hk ⟨_,_,h3⟩).trans h3,bG h4 fun k q=>hk (bD h4 q),fun i hi=>?_⟩,h.n.keep (ho.block _ h.n.lt (fun e=>hr (by injection e with e;exact e.symm)))⟩;obtain ⟨v,q1,b,cap,q2,q3,q4,q5,q6⟩:=h5 i hi;exact ⟨v,q1,b,cap,q2,q3,q4,q5.keep (hk q5),fun j hj=>(World.cell?_of_block (w:=w) (hk q5)).trans (q6 j hj)⟩
def nU (n:Nat) (s:CS):Prop:=s.ins.length+16*n≤900000∧s.texts.length+n≤900000∧0≤s.slots∧s.slots+2*n≤900000
def wt (B M MB TB NB:Nat) (fv:Value) (F:List Fn) (w0:World) (cs:List Value) (x:St):Prop:=∀(w:World) (s:CS) (r:Nat) (v:bf),CoW B M MB TB NB fv F w0 w s→SlAt w r v→r≠NB→B≤r→nU (szS x) s →
 Calls Tryz.prog 33 #[.pointer (some ⟨MB,0,none⟩),.agg cs.toArray,.map (some r)] w fun e w'=>e=.returned (.tuple #[])∧MkAt B M w' MB TB NB fv (bL F x (v,s)).2∧SlAt w' r (bL F x (v,s)).1∧FxR B M NB r w w'
def jW (B M MB TB NB:Nat) (fv:Value) (F:List Fn) (w0:World) (u:Value) (l:List St):Prop:=∀(w:World) (s:CS) (r:Nat) (v:bf),CoW B M MB TB NB fv F w0 w s→SlAt w r v→r≠NB→B≤r→nU (bY l) s →
 Calls Tryz.prog 14 #[.pointer (some ⟨MB,0,none⟩),u,.map (some r)] w (zj B M MB TB NB fv (aJ F l (v,s)).2 w)
theorem lz (F:List Fn):∀(l:List St) (x:St) (p:bf×CS),aJ F (l++[x]) p=bL F x (aJ F l p)
 | [],x,p=>by rw [List.nil_append,aJ,aJ,aJ]
 | y :: l,x,p=>by rw [List.cons_append,aJ,aJ,lz F l x]
theorem oq:∀(l:List St) (i:Nat),i<l.length→bY (l.take i)+szS (l.getD i default)≤bY l
 | x :: l,0,_=>by rw [List.take_zero,bY,bY];show 0+szS x≤_;omega
 | x :: l,i+1,h=>by
  have:=oq l i (by simpa using h);rw [List.take_succ_cons,bY,bY];show szS x+bY (l.take i)+szS (l.getD i default)≤_
  omega
theorem yb {S:Nat→Prop} {w:World} {cs:List Value} {s:St} (h:RepSt S w cs s):∃op text s1 n1 c1 s2 n2 c2 s3 n3 c3 pos,cs=[.int .i64 op,.string text,.slice s1 n1 c1,.slice s2 n2 c2,.slice s3 n3 c3,.int .i64 pos]:=kB h
structure BlkW (B M MB TB NB:Nat) (fv:Value) (F:List Fn) (w0 w W:World) (r':Nat) (p:bf×CS):Prop where
 c:CoW B M MB TB NB fv F w0 W p.2
 v:SlAt W r' p.1
 f:Fx B M NB w W
theorem qT (B M MB TB NB:Nat) (fv:Value) (F:List Fn) (w0:World) (l:List St) (u:Value) (hr:RepSts (fun b=>b<B) w0 u l) (ih:∀x,x∈l→∀cs,RepSt (fun b=>b<B) w0 cs x→wt B M MB TB NB fv F w0 cs x):jW B M MB TB NB fv F w0 u l:=by
 intro w s r v hc O Y Z C;obtain ⟨cs,⟨s0,kc,rfl,d,R,_,H,W⟩,P⟩:=hr;have L:=zh H;have h1:=zh P;have h2:=zh ih;have q:=zh C;unfold maxLen at R;have a:l.length≤9223372036854775807:=by omega
 have h4:=zh (nz r _ w O);have h3:=zh hc;have h6:Hd (∀t,¬OfTy w NB t):=zh hc.ma.n.noTy;have z:Hd (NB<w.heap.size):=zh hc.ma.n.lt;have V:Hd (B≤w.heap.size):=zh hc.le;generalize hE:(aJ F l (v,s)).2=E;have HE:=zh hE.symm;clear H P W d R hc O Y ih C hE Z;go_enter Tryz.func14,Tryz.ntmps14
 go_wp2_with fail
 refine h4.o.mono ?_;rintro e w1 ⟨rfl,hm,hb⟩;have T:Hd (BlkW B M MB TB NB fv F w0 w w1 w.heap.size (v,s)):=zh ⟨h3.o.below hb,hm,Fx.of_below hb⟩;clear hm hb;generalize S:w.heap.size=RP at *;have m:=zh S;clear S;go_wp2_with fail
 go_loopg [13] l.length (fun g t13 wr=>∃i:Nat,i+g=l.length∧t13=.int .i64 (i:Int)∧BlkW B M MB TB NB fv F w0 w wr RP (aJ F (l.take i) (v,s)))
 case atStart=>exact ⟨0,Nat.zero_add _,rfl,by rw [List.take_zero,aJ];exact T.o⟩
 case round =>
  clear T;obtain ⟨i,h5,rfl,Q⟩:=hrel;have HW:=zh Q;clear Q;by_cases I:i<l.length
  ·obtain ⟨kb,koff,X,h,_,D⟩:=L.o (by omega)
   subst X;have A:=h1.o i I;obtain ⟨ko,kt,k1,m1,d1,k2,m2,d2,k3,m3,d3,kp,K⟩:=yb A;rw [K] at A;have G:∀j,j<6→wr.cell? ⟨kb,koff+i * 6+j,none⟩=(cs i)[j]?:=fun j hj=>(HW.o.c.old.cell (p:=⟨kb,_,none⟩) h).trans (D i I j hj);rw [K] at G;have x0:wr.cell? ⟨kb,koff+i * 6,none⟩=some (.int .i64 ko):=G 0 (by decide);have x1:wr.cell? ⟨kb,koff+i * 6+1,none⟩=some (.string kt):=G 1 (by decide);have x2:wr.cell? ⟨kb,koff+i * 6+2,none⟩=some (.slice k1 m1 d1):=G 2 (by decide);have x3:wr.cell? ⟨kb,koff+i * 6+3,none⟩=some (.slice k2 m2 d2):=G 3 (by decide);have x4:wr.cell? ⟨kb,koff+i * 6+4,none⟩=some (.slice k3 m3 d3):=G 4 (by decide);have x5:wr.cell? ⟨kb,koff+i * 6+5,none⟩=some (.int .i64 kp):=G 5 (by decide);have h0:=zh (h2.o _ (fU default I) _ A);have y:Hd (nU (szS (l.getD i default)) (aJ F (l.take i) (v,s)).2):=zh (by obtain ⟨q1,q2,q3,q4⟩:=q.o;have q5:=aY F (l.take i) v s;have q6:=oq l i I;obtain ⟨b1,b2,b3,b4,b5,b6⟩:=q5;exact ⟨by omega,by omega,by omega,by omega⟩);have U:=zh (lz F (l.take i) (l.getD i default) (v,s));rw [←gP default l i I] at U;have N:Hd (Below wr.heap.size wr (wr.alloc (.cells #[.int .i64 ko,.string kt,.slice k1 m1 d1,.slice k2 m2 d2,.slice k3 m3 d3,.int .i64 kp] 110))):=zh (ag (Below.refl _ _) _);have J:Hd (BlkW B M MB TB NB fv F w0 w (wr.alloc (.cells #[.int .i64 ko,.string kt,.slice k1 m1 d1,.slice k2 m2 d2,.slice k3 m3 d3,.int .i64 kp] 110)) RP (aJ F (l.take i) (v,s))):=zh ⟨HW.o.c.below N.o,SlAt.below HW.o.v N.o,HW.o.f.trans (Fx.of_below N.o)⟩;clear A G K D;generalize l.getD i default=kx at *;generalize aJ F (l.take i) (v,s)=sk at *;obtain ⟨vk,sk⟩:=sk;go_wp2_with fail
   refine (h0.o _ sk RP vk J.o.c J.o.v (by have:=z.o;omega) V.o y.o).mono ?_;rintro e w9 ⟨rfl,hm,hv,hf⟩;rw [←U.o] at hm hv;have k:Hd (BlkW B M MB TB NB fv F w0 w w9 RP (aJ F (l.take (i+1)) (v,s))):=zh ⟨J.o.c.stepR hm hf V.o,hv,J.o.f.newR hf (by rw [m.o];exact Nat.le_refl _)⟩;clear hm hv hf;go_wp2_with fail
   go_roundg (l.length-i-1)
   case measure=>omega
   case rel=>exact ⟨i+1,by omega,by go_num,k.o⟩
  ·obtain rfl:i=l.length:=by omega
   rw [List.take_of_length_le (Nat.le_refl _)] at HW;go_wp2_with fail
   go_end0
   exact ⟨rfl,by rw [HE.o];exact HW.o.c.ma,HW.o.f⟩
def qA (F:List Fn) (v:bf) (text:ByteArray) (body:List St) (s:CS):CS:=
 let name:=s.slots
 let s:=bw (bw s)
 let s:=au 6 (name+1) s
 let s:=au 6 name s
 let begin':=s.ins.length
 let s:=au 5 name s
 let s:=au 5 (name+1) s
 let s:=au 7 6 s
 let end':=s.ins.length
 let s:=au 16 0 s
 let s:=au 1 1 s
 let s:=(aJ F body (bQ v text name,s)).2
 let s:=au 5 name s
 let s:=au 2 1 s
 let s:=au 7 1 s
 let s:=au 6 name s
 let s:=au 15 begin' s
 bW end' s
theorem vG (B M MB TB NB:Nat) (fv:Value) (F:List Fn) (w0:World) (op pos:Int) (text:ByteArray) (pa pb:Option Addr) (na ca nb cb:Nat) (bu:Value) (body:List St) (T:jW B M MB TB NB fv F w0 bu body) (w:World) (s:CS) (r:Nat) (v:bf) (hc:CoW B M MB TB NB fv F w0 w s) (hs:SlAt w r v) (ht:r≠NB) (hu:B≤r) (a:s.ins.length+16*bY body+15≤900000∧s.texts.length+bY body≤900000∧0≤s.slots∧s.slots+2*bY body+2≤900000) :
    Calls Tryz.prog 71 #[.pointer (some ⟨MB,0,none⟩),.agg #[.int .i64 op,.string text,.slice pa na ca,bu,.slice pb nb cb,.int .i64 pos],.map (some r)] w (zj B M MB TB NB fv (qA F v text body s) w):=by
 obtain ⟨hN,hM,hL,hK⟩:=a;obtain ⟨s1,h1⟩:∃x,x=bw s:=⟨_,rfl⟩
 have e1:s1.ins.length=s.ins.length∧s1.texts.length=s.texts.length∧s1.slots=s.slots+1:=by rw [h1];simp [bw]
 obtain ⟨s2,h0⟩:∃x,x=bw s1:=⟨_,rfl⟩
 have e2:s2.ins.length=s1.ins.length∧s2.texts.length=s1.texts.length∧s2.slots=s1.slots+1:=by rw [h0];simp [bw]
 obtain ⟨s3,z⟩:∃x,x=au 6 (s.slots+1) s2:=⟨_,rfl⟩
 have e3:s3.ins.length=s2.ins.length+1∧s3.texts.length=s2.texts.length∧s3.slots=s2.slots:=by rw [z];simp [au]
 obtain ⟨s4,y⟩:∃x,x=au 6 s.slots s3:=⟨_,rfl⟩
 have e4:s4.ins.length=s3.ins.length+1∧s4.texts.length=s3.texts.length∧s4.slots=s3.slots:=by rw [y];simp [au]
 obtain ⟨s5,u⟩:∃x,x=au 5 s.slots s4:=⟨_,rfl⟩
 have e5:s5.ins.length=s4.ins.length+1∧s5.texts.length=s4.texts.length∧s5.slots=s4.slots:=by rw [u];simp [au]
 obtain ⟨s6,q⟩:∃x,x=au 5 (s.slots+1) s5:=⟨_,rfl⟩
 have e6:s6.ins.length=s5.ins.length+1∧s6.texts.length=s5.texts.length∧s6.slots=s5.slots:=by rw [q];simp [au]
 obtain ⟨s7,p⟩:∃x,x=au 7 6 s6:=⟨_,rfl⟩
 have e7:s7.ins.length=s6.ins.length+1∧s7.texts.length=s6.texts.length∧s7.slots=s6.slots:=by rw [p];simp [au]
 obtain ⟨s8,l⟩:∃x,x=au 16 0 s7:=⟨_,rfl⟩
 have e8:s8.ins.length=s7.ins.length+1∧s8.texts.length=s7.texts.length∧s8.slots=s7.slots:=by rw [l];simp [au]
 obtain ⟨s9,k⟩:∃x,x=au 1 1 s8:=⟨_,rfl⟩
 have e9:s9.ins.length=s8.ins.length+1∧s9.texts.length=s8.texts.length∧s9.slots=s8.slots:=by rw [k];simp [au]
 obtain ⟨s10,S⟩:∃x,x=(aJ F body (bQ v text s.slots,s9)).2:=⟨_,rfl⟩
 have e10:=aY F body (bQ v text s.slots) s9;rw [←S] at e10;obtain ⟨f101,f102,f103,f104,f105,f106⟩:=e10;obtain ⟨s11,R⟩:∃x,x=au 5 s.slots s10:=⟨_,rfl⟩
 have e11:s11.ins.length=s10.ins.length+1∧s11.texts.length=s10.texts.length∧s11.slots=s10.slots:=by rw [R];simp [au]
 obtain ⟨s12,Q⟩:∃x,x=au 2 1 s11:=⟨_,rfl⟩
 have e12:s12.ins.length=s11.ins.length+1∧s12.texts.length=s11.texts.length∧s12.slots=s11.slots:=by rw [Q];simp [au]
 obtain ⟨s13,P⟩:∃x,x=au 7 1 s12:=⟨_,rfl⟩
 have e13:s13.ins.length=s12.ins.length+1∧s13.texts.length=s12.texts.length∧s13.slots=s12.slots:=by rw [P];simp [au]
 obtain ⟨s14,O⟩:∃x,x=au 6 s.slots s13:=⟨_,rfl⟩
 have e14:s14.ins.length=s13.ins.length+1∧s14.texts.length=s13.texts.length∧s14.slots=s13.slots:=by rw [O];simp [au]
 obtain ⟨s15,N⟩:∃x,x=au 15 (s4.ins.length:Nat) s14:=⟨_,rfl⟩
 have e15:s15.ins.length=s14.ins.length+1∧s15.texts.length=s14.texts.length∧s15.slots=s14.slots:=by rw [N];simp [au]
 obtain ⟨s16,L⟩:∃x,x=bW s7.ins.length s15:=⟨_,rfl⟩
 have e16:s16.ins.length=s15.ins.length∧s16.texts.length=s15.texts.length∧s16.slots=s15.slots:=by rw [L];simp [bW]
 have hq:Hd (s1.ins.length≤1000000):=zh (by omega);have h4:Hd (s2.ins.length≤1000000):=zh (by omega);have H6:Hd (s3.ins.length≤1000000):=zh (by omega);have H5:Hd (s4.ins.length≤1000000):=zh (by omega);have H4:Hd (s5.ins.length≤1000000):=zh (by omega);have H3:Hd (s6.ins.length≤1000000):=zh (by omega);have H2:Hd (s7.ins.length≤1000000):=zh (by omega);have H1:Hd (s8.ins.length≤1000000):=zh (by omega);have Hb:Hd (s9.ins.length≤1000000):=zh (by omega);have hp:Hd (s10.ins.length≤1000000):=zh (by omega);have ho:Hd (s11.ins.length≤1000000):=zh (by omega);have hn:Hd (s12.ins.length≤1000000):=zh (by omega);have hl:Hd (s13.ins.length≤1000000):=zh (by omega);have hk:Hd (s14.ins.length≤1000000):=zh (by omega);have hj:Hd (s15.ins.length≤1000000):=zh (by omega);have H7:Hd (s16.ins.length≤1000000):=zh (by omega);have Hc:Hd (s.ins.length≤1000000):=zh (by omega);have J:Hd (0≤s.slots∧s.slots≤1000000∧0≤s1.slots∧s1.slots≤1000000∧s1.slots=s.slots+1):=zh (by omega);have hW:Hd (nU (bY body) s9):=zh ⟨by omega,by omega,by omega,by omega⟩;have H0:Hd (s7.ins.length<s15.ins.length):=zh (by omega);have hU:=zh h1;have hT:=zh h0;have hD:=zh z;have hC:=zh y;have hB:=zh u;have hA:=zh q;have hS:=zh p;have hR:=zh l;have hQ:=zh k;have f:=zh S;have d:=zh R;have hg:=zh Q;have he:=zh P;have c:=zh O;have hd:=zh N;have ha:=zh L;generalize hE:qA F v text body s=E;have HE:Hd (E=s16):=zh (by rw [←hE];unfold qA;rw [L,N,O,P,Q,R,S,k,l,p,q,u,y,z,h0,h1]);have hP:Hd (s1.slots=s.slots+1):=zh J.o.2.2.2.2;obtain ⟨SL,h8⟩:∃x,x=s.slots:=⟨_,rfl⟩
 have H:=zh h8;have hG:=zh hc;have b:=zh hs;have HR:=zh ht;have H9:=zh T;have Ha:=zh hu;have Z:0≤SL∧SL≤1000000:=by rw [h8];exact ⟨J.o.1,J.o.2.1⟩
 obtain ⟨Z,hI⟩:=Z;clear hc hs ht T hu hE h8 h1 h0 z y u q p l k S R Q P O N L e1 e2 e3 e4 e5 e6 e7 e8 e9 e11 e12 e13 e14 e15 e16 f101 f102 f103 f104 f105 f106 hN hM hL hK;go_enter Tryz.func71,Tryz.ntmps71
 go_upto_region 1 with fail
 have h5:Hd (Below w.heap.size w (w.alloc (.cells #[.int .i64 op,.string text,.slice pa na ca,bu,.slice pb nb cb,.int .i64 pos] 110))):=zh (ag (Below.refl _ _) _);have A:Hd ((w.alloc (.cells #[.int .i64 op,.string text,.slice pa na ca,bu,.slice pb nb cb,.int .i64 pos] 110)).heap[w.heap.size]?=some (.cells #[.int .i64 op,.string text,.slice pa na ca,bu,.slice pb nb cb,.int .i64 pos] 110 (0,0))):=zh (am _ _ _ rfl);generalize (w.alloc (.cells #[.int .i64 op,.string text,.slice pa na ca,bu,.slice pb nb cb,.int .i64 pos] 110))=w1 at *;generalize hy:w.heap.size=XB at *;have h9:=zh hy;clear hy;have HC:=zh (hG.o.below (by rw [h9.o];exact h5.o));have HV:=zh (SlAt.below b.o (by rw [h9.o];exact h5.o));have HF:Hd (Fx B M NB w w1):=zh (Fx.of_below (by rw [h9.o];exact h5.o));clear h5 b hG;go_wp2_with fail
 refine (ku B M MB TB NB fv _ _ HC.o.ma J.o.1 J.o.2.1).mono ?_;rintro e v1 ⟨rfl,hm,hf⟩;have C:=HC.o.ma.n.noTy;rw [←hU.o] at hm;replace HV:=zh (SlAt.fx hf HV.o HR.o);replace A:=zh (hf.obj A.o (aH C A.o) (by decide) (by decide) (by decide) (by decide));replace HF:=zh (HF.o.trans hf);replace HC:=zh (HC.o.step hm hf);clear hm hf C;rw [←H.o];go_wp2_with fail
 refine (ku B M MB TB NB fv _ _ HC.o.ma J.o.2.2.1 J.o.2.2.2.1).mono ?_;rintro e v2 ⟨rfl,hm,hf⟩;have C:=HC.o.ma.n.noTy;rw [←hT.o] at hm;replace HV:=zh (SlAt.fx hf HV.o HR.o);replace A:=zh (hf.obj A.o (aH C A.o) (by decide) (by decide) (by decide) (by decide));replace HF:=zh (HF.o.trans hf);replace HC:=zh (HC.o.step hm hf);clear hm hf C;rw [hP.o,←H.o];rw [←H.o] at hD;rw [←H.o] at hC;rw [←H.o] at hB;rw [←H.o] at hA;rw [←H.o] at f;rw [←H.o] at d;rw [←H.o] at c;go_wp2_with fail
 refine (aU B M MB TB NB fv _ 6 (SL+1) _ HC.o.ma h4.o).mono ?_;rintro e v3 ⟨cl3,rfl,D,hm,hf⟩;clear D;have C:=HC.o.ma.n.noTy;rw [←hD.o] at hm;replace HV:=zh (SlAt.fx hf HV.o HR.o);replace A:=zh (hf.obj A.o (aH C A.o) (by decide) (by decide) (by decide) (by decide));replace HF:=zh (HF.o.trans hf);replace HC:=zh (HC.o.step hm hf);clear hm hf C;go_wp2_with fail
 refine (aU B M MB TB NB fv _ 6 SL _ HC.o.ma H6.o).mono ?_;rintro e v4 ⟨cl4,rfl,D,hm,hf⟩;clear D;have C:=HC.o.ma.n.noTy;rw [←hC.o] at hm;replace HV:=zh (SlAt.fx hf HV.o HR.o);replace A:=zh (hf.obj A.o (aH C A.o) (by decide) (by decide) (by decide) (by decide));replace HF:=zh (HF.o.trans hf);replace HC:=zh (HC.o.step hm hf);clear hm hf C;obtain ⟨iv,hx,hv⟩:=HC.o.ma.m;obtain ⟨sv4,cv4,rfl,_,_,_,_⟩:=bh hv;have hX:=zh (aa hx (j:=2) rfl:v4.cell? ⟨MB,2,none⟩=some (.slice sv4 s4.ins.length cv4));clear hx hv;have hO:=hX.o;go_upto_region 5 with fail
 clear hO;go_wp2_with fail
 refine (aU B M MB TB NB fv _ 5 SL _ HC.o.ma H5.o).mono ?_;rintro e v5 ⟨cl5,rfl,D,hm,hf⟩;clear D;have C:=HC.o.ma.n.noTy;rw [←hB.o] at hm;replace HV:=zh (SlAt.fx hf HV.o HR.o);replace A:=zh (hf.obj A.o (aH C A.o) (by decide) (by decide) (by decide) (by decide));replace HF:=zh (HF.o.trans hf);replace HC:=zh (HC.o.step hm hf);clear hm hf C;go_wp2_with fail
 refine (aU B M MB TB NB fv _ 5 (SL+1) _ HC.o.ma H4.o).mono ?_;rintro e v6 ⟨cl6,rfl,D,hm,hf⟩;clear D;have C:=HC.o.ma.n.noTy;rw [←hA.o] at hm;replace HV:=zh (SlAt.fx hf HV.o HR.o);replace A:=zh (hf.obj A.o (aH C A.o) (by decide) (by decide) (by decide) (by decide));replace HF:=zh (HF.o.trans hf);replace HC:=zh (HC.o.step hm hf);clear hm hf C;have X:=zh (gB ⟨#[60]⟩ v6 HC.o.sg);rw [show cP (⟨#[60]⟩:ByteArray).toList=6 by kernel_rfl] at X;go_wp2_with fail
 refine X.o.mono ?_;rintro e we ⟨rfl,rfl⟩;clear X;go_wp2_with fail
 refine (aU B M MB TB NB fv _ 7 6 _ HC.o.ma H3.o).mono ?_;rintro e v7 ⟨cl7,rfl,D,hm,hf⟩;clear D;have C:=HC.o.ma.n.noTy;rw [←hS.o] at hm;replace HV:=zh (SlAt.fx hf HV.o HR.o);replace A:=zh (hf.obj A.o (aH C A.o) (by decide) (by decide) (by decide) (by decide));replace HF:=zh (HF.o.trans hf);replace HC:=zh (HC.o.step hm hf);clear hm hf C;go_wp2_with fail
 refine (aU B M MB TB NB fv _ 16 0 _ HC.o.ma H2.o).mono ?_;rintro e v8 ⟨cl8,rfl,D,hm,hf⟩;have h:=zh D;clear D;have C:=HC.o.ma.n.noTy;rw [←hR.o] at hm;replace HV:=zh (SlAt.fx hf HV.o HR.o);replace A:=zh (hf.obj A.o (aH C A.o) (by decide) (by decide) (by decide) (by decide));replace HF:=zh (HF.o.trans hf);replace HC:=zh (HC.o.step hm hf);clear hm hf C;have G:=zh h.o;clear h;go_wp2_with fail
 refine (mo B M MB TB NB fv _ _ HC.o.ma H1.o).mono ?_;rintro e v9 ⟨rfl,hm,hf⟩;have C:=HC.o.ma.n.noTy;rw [←hQ.o] at hm;replace HV:=zh (SlAt.fx hf HV.o HR.o);replace A:=zh (hf.obj A.o (aH C A.o) (by decide) (by decide) (by decide) (by decide));replace G:=zh (G.o.fx hf C);replace HF:=zh (HF.o.trans hf);replace HC:=zh (HC.o.step hm hf);clear hm hf C;have hH:=zh (nz r _ v9 HV.o);have H8:=zh HF.o.size;go_wp2_with fail
 refine hH.o.mono ?_;rintro e w2 ⟨rfl,h2,hb⟩;have i:=zh hb;obtain ⟨RP,h3⟩:∃x,x=v9.heap.size:=⟨_,rfl⟩
 rw [←h3] at h2 ⊢;have hV:=zh h3;have K:Hd (B≤RP∧RP≠NB∧w.heap.size≤RP∧XB≠RP):=zh (by rw [h3];exact ⟨HC.o.le,by have:=HC.o.ma.n.lt;omega,H8.o,by have:=ae A.o;omega⟩);replace G:=zh (G.o.fx (Fx.of_below i.o:Fx B M NB _ _) HC.o.ma.n.noTy);replace HC:=zh (HC.o.below i.o);replace HV:=zh (SlAt.below HV.o i.o);replace A:=zh ((i.o.block _ (ae A.o)).trans A.o);replace HF:=zh (HF.o.trans (Fx.of_below i.o));have hi:Hd (∀t,¬OfTy w2 RP t):=zh (MapAt.noTy h2);obtain ⟨h6,hr,hw⟩:=iP (r:=RP) (v:=v) h2 text SL;have hh:=zh hw;have hz:=zh hr;generalize gI w2 RP text (.int .i64 SL)=w3 at *;clear hw hr h2 hb hH h3;have c1:w2.cell? ⟨XB,1,none⟩=some (.string text):=aa A.o (j:=1) rfl;go_upto_region 12 with fail
 clear c1 h6;have Y:FxR B M NB RP w2 w3:=OnS.of_on hh.o (.inl rfl);have hF:=zh (HC.o.ma.onMap hh.o hi.o K.o.2.1);replace A:=zh (Y.obj A.o (aH HC.o.ma.n.noTy A.o) K.o.2.2.2 (by decide) (by decide) (by decide) (by decide));obtain ⟨b1,b2,h7,V,U⟩:=G.o;have g:Hd (Led w3 cl8 MB s7.ins.length):=zh ⟨b1,b2,h7,Y.obj V (aH HC.o.ma.n.noTy V) (fun e=>hi.o _ ⟨_,_,by rw [←e];exact V⟩) (by decide) (by decide) (by decide) (by decide),Y.obj U (aH HC.o.ma.n.noTy U) (fun e=>hi.o _ ⟨_,_,by rw [←e];exact U⟩) (by decide) (by decide) (by decide) (by decide)⟩;clear G V U;have G:=zh g.o;clear g;replace HF:=zh (HF.o.newR Y K.o.2.2.1);replace HC:=zh (HC.o.stepR hF.o Y K.o.1);clear hF Y HV hh;have I:=zh hz.o;clear hz;have W:=zh K.o.2.1;have c3:w3.cell? ⟨XB,3,none⟩=some (bu):=aa A.o (j:=3) rfl;go_wp2_with fail
 refine (H9.o _ _ RP (bQ v text SL) HC.o I.o K.o.2.1 K.o.1 hW.o).mono ?_;rintro e v10 ⟨rfl,hm,hf⟩;have C:=HC.o.ma.n.noTy;rw [←f.o] at hm;replace I:=zh (SlAt.fx hf I.o W.o);replace A:=zh (hf.obj A.o (aH C A.o) (by decide) (by decide) (by decide) (by decide));replace G:=zh (G.o.fx hf C);replace HF:=zh (HF.o.trans hf);replace HC:=zh (HC.o.step hm hf);clear hm hf C;clear c3;go_wp2_with fail
 refine (aU B M MB TB NB fv _ 5 SL _ HC.o.ma hp.o).mono ?_;rintro e v11 ⟨cl11,rfl,D,hm,hf⟩;clear D;have C:=HC.o.ma.n.noTy;rw [←d.o] at hm;replace I:=zh (SlAt.fx hf I.o W.o);replace A:=zh (hf.obj A.o (aH C A.o) (by decide) (by decide) (by decide) (by decide));replace G:=zh (G.o.fx hf C);replace HF:=zh (HF.o.trans hf);replace HC:=zh (HC.o.step hm hf);clear hm hf C;go_wp2_with fail
 refine (aU B M MB TB NB fv _ 2 1 _ HC.o.ma ho.o).mono ?_;rintro e v12 ⟨cl12,rfl,D,hm,hf⟩;clear D;have C:=HC.o.ma.n.noTy;rw [←hg.o] at hm;replace I:=zh (SlAt.fx hf I.o W.o);replace A:=zh (hf.obj A.o (aH C A.o) (by decide) (by decide) (by decide) (by decide));replace G:=zh (G.o.fx hf C);replace HF:=zh (HF.o.trans hf);replace HC:=zh (HC.o.step hm hf);clear hm hf C;have X:=zh (gB ⟨#[43]⟩ v12 HC.o.sg);rw [show cP (⟨#[43]⟩:ByteArray).toList=1 by kernel_rfl] at X;go_wp2_with fail
 refine X.o.mono ?_;rintro e we ⟨rfl,rfl⟩;clear X;go_wp2_with fail
 refine (aU B M MB TB NB fv _ 7 1 _ HC.o.ma hn.o).mono ?_;rintro e v13 ⟨cl13,rfl,D,hm,hf⟩;clear D;have C:=HC.o.ma.n.noTy;rw [←he.o] at hm;replace I:=zh (SlAt.fx hf I.o W.o);replace A:=zh (hf.obj A.o (aH C A.o) (by decide) (by decide) (by decide) (by decide));replace G:=zh (G.o.fx hf C);replace HF:=zh (HF.o.trans hf);replace HC:=zh (HC.o.step hm hf);clear hm hf C;go_wp2_with fail
 refine (aU B M MB TB NB fv _ 6 SL _ HC.o.ma hl.o).mono ?_;rintro e v14 ⟨cl14,rfl,D,hm,hf⟩;clear D;have C:=HC.o.ma.n.noTy;rw [←c.o] at hm;replace I:=zh (SlAt.fx hf I.o W.o);replace A:=zh (hf.obj A.o (aH C A.o) (by decide) (by decide) (by decide) (by decide));replace G:=zh (G.o.fx hf C);replace HF:=zh (HF.o.trans hf);replace HC:=zh (HC.o.step hm hf);clear hm hf C;go_wp2_with fail
 refine (aU B M MB TB NB fv _ 15 (s4.ins.length:Nat) _ HC.o.ma hk.o).mono ?_;rintro e v15 ⟨cl15,rfl,D,hm,hf⟩;clear D;have C:=HC.o.ma.n.noTy;rw [←hd.o] at hm;replace I:=zh (SlAt.fx hf I.o W.o);replace A:=zh (hf.obj A.o (aH C A.o) (by decide) (by decide) (by decide) (by decide));replace G:=zh (G.o.fx hf C);replace HF:=zh (HF.o.trans hf);replace HC:=zh (HC.o.step hm hf);clear hm hf C;obtain ⟨b1,b2,h7,V,U⟩:=G.o;subst h7;clear G;have hq:=zh V;have h4:=zh U;clear V U;go_wp2_with fail
 refine (gm B M MB TB NB b1 b2 fv _ _ _ HC.o.ma H0.o hj.o hq.o h4.o).mono ?_;rintro e v16 ⟨rfl,hm,hf⟩;have C:=HC.o.ma.n.noTy;rw [←ha.o] at hm;replace I:=zh (SlAt.fx hf I.o W.o);replace A:=zh (hf.obj A.o (aH C A.o) (by decide) (by decide) (by decide) (by decide));replace HF:=zh (HF.o.trans hf);replace HC:=zh (HC.o.step hm hf);clear hm hf C;clear hq h4;go_wp2_with fail
 go_end0
 exact ⟨rfl,by rw [HE.o];exact HC.o.ma,HF.o⟩
end
end Go.Proofs.YtmlgbkomdhcaoaaGreatDoor
