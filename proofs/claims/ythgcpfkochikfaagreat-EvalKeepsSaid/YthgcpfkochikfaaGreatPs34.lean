/-
  EvalSigns: part 34 of its proof: see the last text.
-/
import Derived.Test.YthgcpfkochikfaaGreatPs33
set_option maxRecDepth 100000
set_option maxHeartbeats 16000000
namespace Go.Proofs.YthgcpfkochikfaaGreat
section
open Go.RowKit
def FnTells (w:World) (u:Value) (f:Flt):Prop:=∃k caps,u=.func (.func k) #[] caps∧(∀args w,(callFunc k args).run Tryz.prog w=.ok (.enter k args) w)∧∀W,Below w.heap.size w W→Calls Tryz.prog k caps W fun e w'=>e=.returned (bH f)∧Below W.heap.size W w'
theorem FnTells.below {w w':World} {u:Value} {f:Flt} (h:FnTells w u f) (hb:Below w.heap.size w w'):FnTells w' u f:=by
 obtain ⟨k,caps,e,he,hc⟩:=h;exact ⟨k,caps,e,he,fun W hW=>hc W (hb.trans (hW.mono hb.size))⟩
def aR:List Flt→Flt
 | []=>okF
 | f :: l=>orF f (aR l)
def yQ (w:World) (u:Value) (fs:List Flt):Prop:=∃b off cap,u=.slice (some ⟨b,off,none⟩) fs.length cap∧b<w.heap.size∧fs.length≤1000∧∀i,i<fs.length→∃x,w.cell? ⟨b,off+i,none⟩=some x∧FnTells w x (fs.getD i okF)
theorem tG (fs:List Flt) (i:Nat) (hi:i<fs.length):aR (fs.drop i)=orF (fs.getD i okF) (aR (fs.drop (i+1))):=by
 rw [List.drop_eq_getElem_cons hi,aR,List.getD_eq_getElem?_getD,List.getElem?_eq_getElem hi];rfl
theorem fh (fs:List Flt) (u:Value) (w:World) (h:yQ w u fs):Calls Tryz.prog 79 #[u] w fun e w'=>e=.returned (bH (aR fs))∧Below w.heap.size w w':=by
 obtain ⟨b,off,cap,rfl,hb,P,C⟩:=h;have I:=zh C;have S:=zh hb;generalize hR:aR fs=R;have HR:=zh (show R=aR (fs.drop 0) from hR.symm);have Q:=zh (tG fs);clear C hb hR;have J:=zh (aj w (.cells #[.int .i64 0,.int .i64 0] 118) w.heap.size rfl);go_enter Tryz.func79,Tryz.ntmps79
 go_wp2_with fail
 go_loopg [8] fs.length (fun g s8 wr=>∃i:Nat,i+g=fs.length∧s8=.int .i64 (i:Int)∧R=aR (fs.drop i)∧Below w.heap.size w wr∧wr.heap[w.heap.size]?=some (.cells #[.int .i64 0,.int .i64 0] 118 (0,0)))
 case atStart=>exact ⟨0,Nat.zero_add _,rfl,HR.o,ag (Below.refl _ _) _,J.o⟩
 case round =>
  obtain ⟨i,T,rfl,hR,hb,D⟩:=hrel;have E:=zh hR;have HB:=zh hb;have G:=zh D;clear hR hb D;by_cases K:i<fs.length
  ·have g1:(i:Int)<(fs.length:Int):=by omega
   have g3:(0:Int)≤(i:Int):=by omega
   obtain ⟨x,hx,k,caps,M,ek,A⟩:=I.o i K;subst M;have x0:wr.cell? ⟨b,off+i,none⟩=some (.func (.func k) #[] caps):=(HB.o.cell (p:=⟨b,_,none⟩) S.o).trans hx;have F:=zh (A wr HB.o);clear hx A;replace E:=zh (E.o.trans (Q.o i K));generalize fs.getD i okF=q at *;obtain ⟨fe,fa⟩:=q;go_wp2_with (go_at_fn k;refine F.o.mono ?_;rintro e w1 ⟨rfl,H⟩;unfold bH;dsimp only;have L:=zh (HB.o.trans (H.mono HB.o.size));have B:=zh ((H.block _ (af G.o)).trans G.o);clear H x0;have O:w.heap.size<w1.heap.size:=af B.o;have N:¬w1.heap.size=w.heap.size:=Nat.ne_of_gt (af B.o);have r0:w1.cell? ⟨w.heap.size,0,none⟩=some (.int .i64 0):=aa B.o (j:=0) rfl;have r1:w1.cell? ⟨w.heap.size,1,none⟩=some (.int .i64 0):=aa B.o (j:=1) rfl;have k0:w1.frozen? ⟨w.heap.size,0,none⟩=false:=ae B.o 0;have k1:w1.frozen? ⟨w.heap.size,1,none⟩=false:=ae B.o 1;by_cases he:fe=0)
   ·go_roundg (fs.length-i-1)
    case measure=>omega
    case rel=>exact ⟨i+1,by omega,rfl,E.o.trans (if_neg (by simp [he])),ag L.o _,ax _ _ _ _ B.o⟩
   ·have HE:=zh (E.o.trans (if_pos he))
    have y0:(((w1.setCell ⟨w.heap.size,0,none⟩ (.int .i64 fe)).setCell ⟨w.heap.size,1,none⟩ (.int .i64 fa)).alloc (.cells #[.int .i64 fe,.int .i64 fa] 118)).cell? ⟨w.heap.size,0,none⟩=some (.int .i64 fe):=aq _ ((aS _ _ (.inr (by omega))).trans (dH _ r0));have y1:(((w1.setCell ⟨w.heap.size,0,none⟩ (.int .i64 fe)).setCell ⟨w.heap.size,1,none⟩ (.int .i64 fa)).alloc (.cells #[.int .i64 fe,.int .i64 fa] 118)).cell? ⟨w.heap.size,1,none⟩=some (.int .i64 fa):=aq _ (dH _ ((aS _ _ (.inr (by omega))).trans r1));refine bodyPost_ret (v:=.agg #[.int .i64 fe,.int .i64 fa]) (by simp [results,Tryz.results79,go_sem,y0,y1]) rfl ⟨by rw [HE.o];rfl,?_⟩;exact ag ((L.o.setCell (p:=⟨w.heap.size,0,none⟩) (Nat.le_refl _) _).setCell (p:=⟨w.heap.size,1,none⟩) (Nat.le_refl _) _) _
  ·obtain rfl:i=fs.length:=by omega
   have g1:¬(fs.length:Int)<(fs.length:Int):=by omega
   have HE:=zh (E.o.trans (by rw [List.drop_length];rfl:aR (fs.drop fs.length)=okF));obtain ⟨r0,r1,-⟩:=css G.o;obtain ⟨k0,k1,-⟩:=fzs G.o;go_wp2_with fail
   refine bodyPost_ret (v:=.agg #[.int .i64 0,.int .i64 0]) (by simp [results,Tryz.results79,go_sem,r0,r1]) rfl ⟨by rw [HE.o];rfl,?_⟩;exact (HB.o.setCell (p:=⟨w.heap.size,0,none⟩) (Nat.le_refl _) _).setCell (p:=⟨w.heap.size,1,none⟩) (Nat.le_refl _) _
end
section
open Go.RowKit
theorem pR {S:Nat→Prop} {w:World} {cs:List Value} {s:St} (h:RepSt S w cs s):∃op text s1 n1 c1 s2 n2 c2 s3 n3 c3 pos,cs=[.int .i64 op,.string text,.slice s1 n1 c1,.slice s2 n2 c2,.slice s3 n3 c3,.int .i64 pos]:=by
 obtain ⟨op,text,es,body,els,pos⟩:=s;obtain ⟨ve,vb,vl,rfl,⟨_,⟨s1,c1,rfl,_⟩,_⟩,⟨_,⟨s2,c2,rfl,_⟩,_⟩,⟨_,⟨s3,c3,rfl,_⟩,_⟩⟩:=h.parts;exact ⟨_,_,_,_,_,_,_,_,_,_,_,_,rfl⟩
def pZ (cb:Nat) (F:aU) (A:Int) (s:St):Prop:=∀(v:bw) (vr:Nat) (w:World) (op:Int) (text:ByteArray) (s1:Option Addr) (n1 c1:Nat) (s2:Option Addr) (n2 c2:Nat) (s3:Option Addr) (n3 c3:Nat) (pos:Int),CtxAt w cb F A vr v→RepSt Any w [.int .i64 op,.string text,.slice s1 n1 c1,.slice s2 n2 c2,.slice s3 n3 c3,.int .i64 pos] s →
 Calls Tryz.prog 104 #[.pointer (some ⟨cb,0,none⟩),.agg #[.int .i64 op,.string text,.slice s1 n1 c1,.slice s2 n2 c2,.slice s3 n3 c3,.int .i64 pos],.map (some vr)] w fun e w'=>∃vr',e=.returned (.tuple #[.map (some vr'),bH (cS F A s v).2])∧ViewAt w' vr' (cS F A s v).1∧Below w.heap.size w w'
theorem jm {w:World} {r k:Nat} {v:bw} {A:Array Value} {t:TypeId} {fz:Nat×Nat} (h:ViewAt w r v) (hk:w.heap[k]?=some (.cells A t fz)) (j:Nat) (u:Value):ViewAt (w.setCell ⟨k,j,none⟩ u) r v:=by
 refine MapAt.keep h (ak _ _ _ _ (fun e=>?_));obtain ⟨es,c,h1,_⟩:=h;rw [show r=k from e,hk] at h1;injection h1 with h1
 cases h1
theorem pK (F:aU) (A:Int) (l:List St) (i:Nat) (hi:i<l.length) (v:bw):bF F A (l.drop i) v=if (cS F A (l.getD i default) v).2.1≠0 then (cS F A (l.getD i default) v).2 else bF F A (l.drop (i+1)) (cS F A (l.getD i default) v).1:=by
 have e1:l.getD i default=l[i]:=by rw [List.getD_eq_getElem?_getD,List.getElem?_eq_getElem hi];rfl
 rw [List.drop_eq_getElem_cons hi,bF,e1]
theorem ry (F:aU) (A:Int) (l:List St) (v:bw):bF F A (l.drop l.length) v=okF:=by
 rw [List.drop_length,bF]
theorem kI (cb:Nat) (F:aU) (A:Int) (l:List St) (hl:∀x,x∈l→pZ cb F A x) (v:bw) (vr:Nat) (w:World) (u:Value) (h:CtxAt w cb F A vr v) (hr:RepSts Any w u l) :
    Calls Tryz.prog 81 #[.pointer (some ⟨cb,0,none⟩),u,.map (some vr)] w fun e w'=>e=.returned (bH (bF F A l v))∧Below w.heap.size w w':=by
 obtain ⟨cs,⟨s0,cap,rfl,c,f,_,G,y⟩,d⟩:=hr;have r:=zh h;have h5:=zh hl;have T:=zh G;have h6:=zh d;have h8:=zh (And.intro c f);generalize hR:bF F A l v=R;have HR:=zh (show R=bF F A (l.drop 0) v from hR.symm);clear h hl G d y c f hR;have S:=zh (pK F A l);have h7:=zh (ry F A l);have U:=zh (aj w (.cells #[.int .i64 0,.int .i64 0] 118) w.heap.size rfl);go_enter Tryz.func81,Tryz.ntmps81
 go_wp2_with fail
 go_loopg [2,12] l.length (fun g t2 t12 wr=>∃(i:Nat) (v':bw) (vr':Nat),i+g=l.length∧t2=.map (some vr')∧t12=.int .i64 (i:Int)∧R=bF F A (l.drop i) v'∧ViewAt wr vr' v'∧Below w.heap.size w wr∧wr.heap[w.heap.size]?=some (.cells #[.int .i64 0,.int .i64 0] 118 (0,0)))
 case atStart=>exact ⟨0,v,vr,Nat.zero_add _,rfl,rfl,HR.o,r.o.view.below (ag (Below.refl _ _) _),ag (Below.refl _ _) _,U.o⟩
 case round =>
  obtain ⟨i,v',vr',hc,rfl,rfl,hR,hv,hb,H⟩:=hrel;have E:=zh hR;have HV:=zh hv;have HB:=zh hb;have J:=zh H;clear hR hv hb H;by_cases I:i<l.length
  ·obtain ⟨h0,Q⟩:=h8.o
   unfold maxLen at Q;have g1:(i:Int)<(l.length:Int):=by omega
   have g3:(0:Int)≤(i:Int):=by omega
   obtain ⟨b,off,z,_,h1,C⟩:=T.o (by omega);subst z;have B:=h6.o i I;obtain ⟨op,text,s1,n1,c1,s2,n2,c2,s3,n3,c3,pos,P⟩:=pR B;rw [P] at B;have D:∀j,j<6→wr.cell? ⟨b,off+i * 6+j,none⟩=(cs i)[j]?:=fun j hj=>(HB.o.cell (p:=⟨b,_,none⟩) h1).trans (C i I j hj);rw [P] at D;have x0:wr.cell? ⟨b,off+i * 6,none⟩=some (.int .i64 op):=D 0 (by decide);have x1:wr.cell? ⟨b,off+i * 6+1,none⟩=some (.string text):=D 1 (by decide);have x2:wr.cell? ⟨b,off+i * 6+2,none⟩=some (.slice s1 n1 c1):=D 2 (by decide);have x3:wr.cell? ⟨b,off+i * 6+3,none⟩=some (.slice s2 n2 c2):=D 3 (by decide);have x4:wr.cell? ⟨b,off+i * 6+4,none⟩=some (.slice s3 n3 c3):=D 4 (by decide);have x5:wr.cell? ⟨b,off+i * 6+5,none⟩=some (.int .i64 pos):=D 5 (by decide);have Y:Hd (l.getD i default∈l):=zh (by rw [List.getD_eq_getElem?_getD,List.getElem?_eq_getElem I];exact List.getElem_mem I);have V:=zh B;replace E:=zh (E.o.trans (S.o i I v'));have O:=zh (fun W (hW:Below wr.heap.size wr W)=>h5.o _ Y.o v' vr' W op text s1 n1 c1 s2 n2 c2 s3 n3 c3 pos ⟨(r.o.below (HB.o.trans (hW.mono HB.o.size))).obj,HV.o.below hW⟩ (V.o.keep (Stays.of_below (HB.o.trans (hW.mono HB.o.size)))));clear B D P C;generalize cS F A (l.getD i default) v'=q at *;obtain ⟨v2,fe,fa⟩:=q;unfold bH at O;dsimp only at O E;go_upto_region 5 with fail
   have L:Below wr.heap.size wr ((wr.alloc (.cells #[.int .i64 op,.string text,.slice s1 n1 c1,.slice s2 n2 c2,.slice s3 n3 c3,.int .i64 pos] 134)).alloc (.cells #[.int .i64 0,.int .i64 0] 118)):=ag (ag (Below.refl _ _) _) _;have h9:Hd (((wr.alloc (.cells #[.int .i64 op,.string text,.slice s1 n1 c1,.slice s2 n2 c2,.slice s3 n3 c3,.int .i64 pos] 134)).alloc (.cells #[.int .i64 0,.int .i64 0] 118)).heap[wr.heap.size]?=some (.cells #[.int .i64 op,.string text,.slice s1 n1 c1,.slice s2 n2 c2,.slice s3 n3 c3,.int .i64 pos] 134 (0,0))):=zh (ax _ _ _ _ (aj _ _ _ rfl));have m:Hd (((wr.alloc (.cells #[.int .i64 op,.string text,.slice s1 n1 c1,.slice s2 n2 c2,.slice s3 n3 c3,.int .i64 pos] 134)).alloc (.cells #[.int .i64 0,.int .i64 0] 118)).heap[wr.heap.size+1]?=some (.cells #[.int .i64 0,.int .i64 0] 118 (0,0))):=zh (aj _ _ _ (ah _ _));have k:=zh ((L.block _ (af J.o)).trans J.o);have s:=zh (HB.o.trans (L.mono HB.o.size));have Z:=zh (O.o _ L);have N:Hd (w.heap.size<wr.heap.size+1∧¬w.heap.size=wr.heap.size+1∧¬wr.heap.size+1=w.heap.size∧w.heap.size≤wr.heap.size+1):=zh (by have:=af J.o;exact ⟨by omega,by omega,by omega,by omega⟩);clear L O x0 x1 x2 x3 x4 x5;generalize ((wr.alloc (.cells #[.int .i64 op,.string text,.slice s1 n1 c1,.slice s2 n2 c2,.slice s3 n3 c3,.int .i64 pos] 134)).alloc (.cells #[.int .i64 0,.int .i64 0] 118))=w4 at *;generalize wr.heap.size+1=FB at *;generalize wr.heap.size=SB at *;obtain ⟨e0,e1,e2,e3,e4,e5,-⟩:=css h9.o;go_wp2_with fail
   refine Z.o.mono ?_;rintro e w5 ⟨vr2,rfl,a,M⟩;clear e0 e1 e2 e3 e4 e5;have K:=zh ((M.block _ (af m.o)).trans m.o);have h4:=zh ((M.block _ (af k.o)).trans k.o);have ha:=zh (s.o.trans (M.mono s.o.size));have h3:=zh a;clear M a;obtain ⟨f0,f1,-⟩:=css K.o;obtain ⟨k0,k1,-⟩:=fzs K.o;go_upto_region 6 with fail
   clear f0 f1 k0 k1;have n:Hd (((w5.setCell ⟨FB,0,none⟩ (.int .i64 fe)).setCell ⟨FB,1,none⟩ (.int .i64 fa)).heap[FB]?=some (.cells #[.int .i64 fe,.int .i64 fa] 118 (0,0))):=zh (au (au K.o 0 _) 1 _);have X:Hd (((w5.setCell ⟨FB,0,none⟩ (.int .i64 fe)).setCell ⟨FB,1,none⟩ (.int .i64 fa)).heap[w.heap.size]?=_):=zh ((ak _ _ _ _ N.o.2.1).trans ((ak _ _ _ _ N.o.2.1).trans h4.o));have t:Hd (Below w.heap.size w ((w5.setCell ⟨FB,0,none⟩ (.int .i64 fe)).setCell ⟨FB,1,none⟩ (.int .i64 fa))):=zh ((ha.o.setCell (p:=⟨FB,0,none⟩) N.o.2.2.2 _).setCell (p:=⟨FB,1,none⟩) N.o.2.2.2 _);have h2:Hd (ViewAt ((w5.setCell ⟨FB,0,none⟩ (.int .i64 fe)).setCell ⟨FB,1,none⟩ (.int .i64 fa)) vr2 v2):=zh (jm (jm h3.o K.o 0 _) (au K.o 0 _) 1 _);generalize ((w5.setCell ⟨FB,0,none⟩ (.int .i64 fe)).setCell ⟨FB,1,none⟩ (.int .i64 fa))=w6 at *;have f0:w6.cell? ⟨FB,0,none⟩=some (.int .i64 fe):=aa n.o (j:=0) rfl;by_cases he:fe=0
   ·subst he
    go_wp2_with fail
    go_roundg (l.length-i-1)
    case measure=>omega
    case rel=>exact ⟨i+1,v2,vr2,by omega,rfl,rfl,E.o.trans (if_neg (by simp)),h2.o,t.o,X.o⟩
   ·have HE:=zh (E.o.trans (if_pos he))
    have f1:w6.cell? ⟨FB,1,none⟩=some (.int .i64 fa):=aa n.o (j:=1) rfl;obtain ⟨r0,r1,-⟩:=css X.o;obtain ⟨k0,k1,-⟩:=fzs X.o;go_wp2_with fail
    refine bodyPost_ret (v:=.agg #[.int .i64 fe,.int .i64 fa]) (by simp [results,Tryz.results81,go_sem,r0,r1]) rfl ⟨by rw [HE.o];rfl,?_⟩;exact (t.o.setCell (p:=⟨w.heap.size,0,none⟩) (Nat.le_refl _) _).setCell (p:=⟨w.heap.size,1,none⟩) (Nat.le_refl _) _
  ·obtain rfl:i=l.length:=by omega
   have g1:¬(l.length:Int)<(l.length:Int):=by omega
   have HE:=zh (E.o.trans (h7.o v'));obtain ⟨r0,r1,-⟩:=css J.o;obtain ⟨k0,k1,-⟩:=fzs J.o;go_wp2_with fail
   refine bodyPost_ret (v:=.agg #[.int .i64 0,.int .i64 0]) (by simp [results,Tryz.results81,go_sem,r0,r1]) rfl ⟨by rw [HE.o];rfl,?_⟩;exact (HB.o.setCell (p:=⟨w.heap.size,0,none⟩) (Nat.le_refl _) _).setCell (p:=⟨w.heap.size,1,none⟩) (Nat.le_refl _) _
end
section
open Go.RowKit
theorem Bx {S:Nat→Prop} {w:World} {op pos:Int} {text:ByteArray} {u1 u2 u3:Value} {s:St} (h:RepSt S w [.int .i64 op,.string text,u1,u2,u3,.int .i64 pos] s):∃es body els,s=.mk op text es body els pos∧RepExs S w u1 es∧RepSts S w u2 body∧RepSts S w u3 els:=by
 obtain ⟨op',text',es,body,els,pos'⟩:=s;obtain ⟨ve,vb,vl,e,he,hb,A⟩:=h.parts;simp only [List.cons.injEq,Value.int.injEq,Value.string.injEq,true_and,and_true] at e
 obtain ⟨rfl,rfl,rfl,rfl,rfl,rfl⟩:=e;exact ⟨es,body,els,rfl,he,hb,A⟩
theorem oN:∀(l:List St),0<l.length→ee l=endsS (l.getD (l.length-1) default)
 | [],h=>absurd h (by simp)
 | [s],_=>by rw [ee];rfl
 | _ :: t :: l,_=>by
  rw [ee,oN (t :: l) (by simp)];rfl
theorem uK (l:List St) (ih:∀s,s∈l→∀(w:World) (u:Value),(RepSts Any w u s.body→Calls Tryz.prog 84 #[u] w fun e w'=>e=.returned (.bool (ee s.body))∧Below w.heap.size w w')∧(RepSts Any w u s.els→Calls Tryz.prog 84 #[u] w fun e w'=>e=.returned (.bool (ee s.els))∧Below w.heap.size w w')) (w:World) (u:Value) (hr:RepSts Any w u l) :
    Calls Tryz.prog 84 #[u] w fun e w'=>e=.returned (.bool (ee l))∧Below w.heap.size w w':=by
 obtain ⟨cs,⟨s0,cap,rfl,c,U,_,F,T⟩,N⟩:=hr;by_cases hl:l.length=0
 ·have HE:Hd (ee l=false):=zh (by rw [List.eq_nil_of_length_eq_zero hl];rw [ee])
  rw [hl];clear F T N ih;go_enter Tryz.func84,Tryz.ntmps84
  go_wp2_with fail
  exact bodyPost_ret (v:=.bool false) (by simp [results,Tryz.results84,go_sem]) rfl ⟨by rw [HE.o],Below.refl _ _⟩
 ·have A:=zh (oN l (by omega))
  obtain ⟨b,off,Z,_,d,C⟩:=F (by omega);subst Z;obtain ⟨i,hi⟩:∃i,i=l.length-1:=⟨_,rfl⟩
  rw [←hi] at A;have I:i<l.length:=by omega
  have B:=N i I;obtain ⟨op,text,s1,n1,c1,s2,n2,c2,s3,n3,c3,pos,O⟩:=pR B;rw [O] at B;have D:∀j,j<6→w.cell? ⟨b,off+i * 6+j,none⟩=(cs i)[j]?:=fun j hj=>C i I j hj;rw [O] at D;have x0:w.cell? ⟨b,off+i * 6,none⟩=some (.int .i64 op):=D 0 (by decide);have x1:w.cell? ⟨b,off+i * 6+1,none⟩=some (.string text):=D 1 (by decide);have x2:w.cell? ⟨b,off+i * 6+2,none⟩=some (.slice s1 n1 c1):=D 2 (by decide);have x3:w.cell? ⟨b,off+i * 6+3,none⟩=some (.slice s2 n2 c2):=D 3 (by decide);have x4:w.cell? ⟨b,off+i * 6+4,none⟩=some (.slice s3 n3 c3):=D 4 (by decide);have x5:w.cell? ⟨b,off+i * 6+5,none⟩=some (.int .i64 pos):=D 5 (by decide);obtain ⟨es,body,els,hs,_,hb,H⟩:=Bx B;have M:l.getD i default∈l:=by rw [List.getD_eq_getElem?_getD,List.getElem?_eq_getElem I];exact List.getElem_mem I
  have J:=ih _ M;rw [hs] at J A;have HB:=zh (fun W (hW:Below w.heap.size w W)=>(J W (.slice s2 n2 c2)).1 (hb.keep (Stays.of_below hW)));have HL:=zh (fun W (hW:Below w.heap.size w W)=>(J W (.slice s3 n3 c3)).2 (H.keep (Stays.of_below hW)));replace A:=zh (A.o.trans (endsS.eq_1 op text es body els pos));have eI:(l.length:Int)-1=(i:Int):=by omega
  have g0:(0:Int)≤(i:Int):=by omega
  have g1:(i:Int)<(l.length:Int):=by omega
  have g2:¬(l.length:Int)=0:=by omega
  have P:=U;unfold maxLen at P;clear F T N ih D O B C J hb H hs U hl hi;simp only [St.body,St.els] at HB HL
  generalize ee l=E at *;go_enter Tryz.func84,Tryz.ntmps84
  go_upto_region 4 with fail
  have X:Below w.heap.size w (w.alloc (.cells #[.int .i64 op,.string text,.slice s1 n1 c1,.slice s2 n2 c2,.slice s3 n3 c3,.int .i64 pos] 134)):=ag (Below.refl _ _) _;have G:Hd ((w.alloc (.cells #[.int .i64 op,.string text,.slice s1 n1 c1,.slice s2 n2 c2,.slice s3 n3 c3,.int .i64 pos] 134)).heap[w.heap.size]?=some (.cells #[.int .i64 op,.string text,.slice s1 n1 c1,.slice s2 n2 c2,.slice s3 n3 c3,.int .i64 pos] 134 (0,0))):=zh (aj _ _ _ rfl);have L:=zh X;clear X x0 x1 x2 x3 x4 x5;generalize (w.alloc (.cells #[.int .i64 op,.string text,.slice s1 n1 c1,.slice s2 n2 c2,.slice s3 n3 c3,.int .i64 pos] 134))=w1 at *;generalize K:w.heap.size=SP at *;obtain ⟨-,-,-,e3,e4,-⟩:=css G.o;by_cases h5:op=5
  ·subst h5
   have e0:w1.cell? ⟨SP,0,none⟩=some (.int .i64 5):=aa G.o (j:=0) rfl;go_wp2_with fail
   exact bodyPost_ret (v:=.bool true) (by simp [results,Tryz.results84,go_sem]) rfl ⟨by rw [A.o];rfl,by rw [K];exact L.o⟩
  by_cases h3:op=3
  ·subst h3
   have e0:w1.cell? ⟨SP,0,none⟩=some (.int .i64 3):=aa G.o (j:=0) rfl;go_wp2_with fail
   refine (HB.o _ L.o).mono ?_;rintro e w2 ⟨rfl,Q⟩;have S:=zh (L.o.trans (Q.mono (Nat.le_of_lt (af G.o))));have Y:=zh ((Q.block _ (af G.o)).trans G.o);clear Q e0 e3 e4;generalize ee body=q at *;have f4:w2.cell? ⟨SP,4,none⟩=some (.slice s3 n3 c3):=aa Y.o (j:=4) rfl
   cases q
   ·go_wp2_with fail
    exact bodyPost_ret (v:=.bool false) (by simp [results,Tryz.results84,go_sem]) rfl ⟨by rw [A.o];rfl,by rw [K];exact S.o⟩
   ·go_wp2_with fail
    refine (HL.o _ S.o).mono ?_;rintro e w3 ⟨rfl,V⟩;have a:=zh (S.o.trans (V.mono (Nat.le_of_lt (af Y.o))));clear V f4;generalize ee els=q at *;go_wp2_with fail
    exact bodyPost_ret (v:=.bool q) (by simp [results,Tryz.results84,go_sem]) rfl ⟨by rw [A.o];rfl,by rw [K];exact a.o⟩
  ·have R:=zh (And.intro h5 h3)
   have e0:w1.cell? ⟨SP,0,none⟩=some (.int .i64 op):=aa G.o (j:=0) rfl;go_wp2_with fail
   exact bodyPost_ret (v:=.bool false) (by simp [results,Tryz.results84,go_sem,R.o.1]) rfl ⟨by rw [A.o,beq_false_of_ne R.o.1,beq_false_of_ne R.o.2];rfl,by rw [K];exact L.o⟩
theorem St.body_lt {s:St} {l:List St} (h:s∈l):SizeOf.sizeOf s.body<SizeOf.sizeOf l∧SizeOf.sizeOf s.els<SizeOf.sizeOf l:=by
 have:=List.sizeOf_lt_of_mem h;obtain ⟨op,text,es,body,els,pos⟩:=s;simp only [St.body,St.els]
 simp at this
 omega
theorem mZ (l:List St) (w:World) (u:Value) (hr:RepSts Any w u l) :
    Calls Tryz.prog 84 #[u] w fun e w'=>e=.returned (.bool (ee l))∧Below w.heap.size w w':=
 uK l (fun s _ w u=>⟨mZ s.body w u,mZ s.els w u⟩) w u hr
termination_by SizeOf.sizeOf l
decreasing_by
 ·exact (St.body_lt (by assumption)).1
 ·exact (St.body_lt (by assumption)).2
theorem xP (l:List St) (i:Nat) (hi:i<l.length) (n:Int):dr n (l.drop i)=dr (tL n (l.getD i default)) (l.drop (i+1)):=by
 rw [List.drop_eq_getElem_cons hi,dr,List.getD_eq_getElem?_getD,List.getElem?_eq_getElem hi];rfl
theorem sW (l:List St) (ih:∀s,s∈l→∀(w:World) (u:Value),(RepSts Any w u s.body→Calls Tryz.prog 78 #[u] w fun e w'=>e=.returned (.int .i64 (dr 0 s.body))∧Below w.heap.size w w')∧(RepSts Any w u s.els→Calls Tryz.prog 78 #[u] w fun e w'=>e=.returned (.int .i64 (dr 0 s.els))∧Below w.heap.size w w')) (w:World) (u:Value) (hr:RepSts Any w u l) :
    Calls Tryz.prog 78 #[u] w fun e w'=>e=.returned (.int .i64 (dr 0 l))∧Below w.heap.size w w':=by
 obtain ⟨cs,⟨s0,cap,rfl,d,h,_,M,q⟩,f⟩:=hr;have y:=zh ih;have a:=zh M;have x:=zh f;have z:=zh (And.intro d h);generalize hR:dr 0 l=R;have HR:=zh (show R=dr 0 (l.drop 0) from hR.symm);clear ih M f q d h hR;have h0:=zh (xP l);go_enter Tryz.func78,Tryz.ntmps78
 go_wp2_with fail
 go_loopg [3,8] l.length (fun g t3 t8 wr=>∃(i:Nat) (n:Int),i+g=l.length∧t3=.int .i64 n∧t8=.int .i64 (i:Int)∧R=dr n (l.drop i)∧Below w.heap.size w wr)
 case atStart=>exact ⟨0,0,Nat.zero_add _,rfl,rfl,HR.o,Below.refl _ _⟩
 case round =>
  obtain ⟨i,n,h5,rfl,rfl,hR,hb⟩:=hrel;have L:=zh hR;have HB:=zh hb;clear hR hb;by_cases O:i<l.length
  ·obtain ⟨r,Z⟩:=z.o
   unfold maxLen at Z;have g1:(i:Int)<(l.length:Int):=by omega
   have g3:(0:Int)≤(i:Int):=by omega
   obtain ⟨b,off,J,_,t,G⟩:=a.o (by omega);subst J;have F:=x.o i O;obtain ⟨op,text,s1,n1,c1,s2,n2,c2,s3,n3,c3,pos,Y⟩:=pR F;rw [Y] at F;have H:∀j,j<6→wr.cell? ⟨b,off+i * 6+j,none⟩=(cs i)[j]?:=fun j hj=>(HB.o.cell (p:=⟨b,_,none⟩) t).trans (G i O j hj);rw [Y] at H;have x0:wr.cell? ⟨b,off+i * 6,none⟩=some (.int .i64 op):=H 0 (by decide);have x1:wr.cell? ⟨b,off+i * 6+1,none⟩=some (.string text):=H 1 (by decide);have x2:wr.cell? ⟨b,off+i * 6+2,none⟩=some (.slice s1 n1 c1):=H 2 (by decide);have x3:wr.cell? ⟨b,off+i * 6+3,none⟩=some (.slice s2 n2 c2):=H 3 (by decide);have x4:wr.cell? ⟨b,off+i * 6+4,none⟩=some (.slice s3 n3 c3):=H 4 (by decide);have x5:wr.cell? ⟨b,off+i * 6+5,none⟩=some (.int .i64 pos):=H 5 (by decide);obtain ⟨es,body,els,hs,_,k,P⟩:=Bx F;have N:l.getD i default∈l:=by rw [List.getD_eq_getElem?_getD,List.getElem?_eq_getElem O];exact List.getElem_mem O
   have T:=y.o _ N;have U:=h0.o i O n;rw [hs] at T U;rw [tL] at U;replace L:=zh (L.o.trans U);have X:=zh (fun W (hW:Below w.heap.size w W)=>(T W (.slice s2 n2 c2)).1 (k.keep (Stays.of_below hW)));have V:=zh (fun W (hW:Below w.heap.size w W)=>(T W (.slice s3 n3 c3)).2 (P.keep (Stays.of_below hW)));simp only [St.body,St.els] at X V
   clear F H Y G T k P hs U N;go_upto_region 5 with fail
   have C:Hd ((wr.alloc (.cells #[.int .i64 op,.string text,.slice s1 n1 c1,.slice s2 n2 c2,.slice s3 n3 c3,.int .i64 pos] 134)).heap[wr.heap.size]?=some (.cells #[.int .i64 op,.string text,.slice s1 n1 c1,.slice s2 n2 c2,.slice s3 n3 c3,.int .i64 pos] 134 (0,0))):=zh (aj _ _ _ rfl);have c:Hd (Below w.heap.size w (wr.alloc (.cells #[.int .i64 op,.string text,.slice s1 n1 c1,.slice s2 n2 c2,.slice s3 n3 c3,.int .i64 pos] 134))):=zh (HB.o.trans ((ag (Below.refl _ _) _).mono HB.o.size));clear x0 x1 x2 x3 x4 x5;generalize (wr.alloc (.cells #[.int .i64 op,.string text,.slice s1 n1 c1,.slice s2 n2 c2,.slice s3 n3 c3,.int .i64 pos] 134))=w1 at *;generalize wr.heap.size=SP at *;obtain ⟨-,-,-,e3,e4,-⟩:=css C.o;have e0:w1.cell? ⟨SP,0,none⟩=some (.int .i64 op):=aa C.o (j:=0) rfl;by_cases h1:op=1
   ·subst h1
    go_upto_region 7 with fail
    clear e0 e3 e4;have E:=zh (show Below w.heap.size w w1.drew from c.o.drew);have J:w1.drew.cell? ⟨SP,3,none⟩=some (.slice s2 n2 c2)∧w1.drew.cell? ⟨SP,4,none⟩=some (.slice s3 n3 c3):=⟨aa C.o (j:=3) rfl,aa C.o (j:=4) rfl⟩
    refine wp_region_held (S:=(fun w':World=>w'.cell? ⟨SP,3,none⟩=some (.slice s2 n2 c2)∧w'.cell? ⟨SP,4,none⟩=some (.slice s3 n3 c3))) (by kernel_rfl) ?_;refine tkA 0 ?_;refine tkA 1 ?_;refine tkA 2 ?_;refine tkA 4 ?_;refine tkA 5 ?_;have I:Hd (w1.drew.heap[SP]?=_):=zh C.o;clear J;refine rd1 3 fun K hK=>?_;go_simp;go_at_call 78
    refine (X.o _ E.o).mono ?_;rintro e w2 ⟨rfl,hb⟩;have D:=zh (E.o.trans (hb.mono E.o.size));have B:=zh ((hb.block _ (af I.o)).trans I.o);clear hb;go_simp;refine hK.out _ _ ?_ (fun hH=>?_)
    ·exact ⟨aa B.o (j:=3) rfl,aa B.o (j:=4) rfl⟩
    clear hK K;try go_simp
    refine rd1 6 fun K hK=>?_;go_simp;go_at_call 78
    refine (V.o _ D.o).mono ?_;rintro e w3 ⟨rfl,hb⟩;have Q:=zh (D.o.trans (hb.mono D.o.size));have A:=zh ((hb.block _ (af B.o)).trans B.o);clear hb;go_simp;refine hK.out _ _ ?_ (fun hH=>?_)
    ·exact ⟨aa A.o (j:=3) rfl,aa A.o (j:=4) rfl⟩
    clear hK K;try go_simp
    refine tkA 7 ?_;refine tkA 8 ?_;refine rd1 9 fun K hK=>?_;go_simp;refine hK.out _ _ ?_ (fun hH=>?_)
    ·exact ⟨aa A.o (j:=3) rfl,aa A.o (j:=4) rfl⟩
    clear hK K;try go_simp
    refine wpAnyH_done (by kernel_rfl) ?_ _;go_wp2_with fail
    go_roundg (l.length-i-1)
    case measure=>omega
    case rel=>exact ⟨i+1,_,by omega,rfl,rfl,L.o.trans (by rw [IntKind.wrap_i64,IntKind.wrap_i64];simp [wrap64]),Q.o⟩
   by_cases h4:op=4
   ·subst h4
    go_upto_region 7 with fail
    clear e0 e3 e4;have E:=zh (show Below w.heap.size w w1.drew from c.o.drew);have J:w1.drew.cell? ⟨SP,3,none⟩=some (.slice s2 n2 c2)∧w1.drew.cell? ⟨SP,4,none⟩=some (.slice s3 n3 c3):=⟨aa C.o (j:=3) rfl,aa C.o (j:=4) rfl⟩
    refine wp_region_held (S:=(fun w':World=>w'.cell? ⟨SP,3,none⟩=some (.slice s2 n2 c2)∧w'.cell? ⟨SP,4,none⟩=some (.slice s3 n3 c3))) (by kernel_rfl) ?_;refine tkA 0 ?_;refine tkA 1 ?_;refine tkA 2 ?_;refine tkA 4 ?_;refine tkA 5 ?_;have I:Hd (w1.drew.heap[SP]?=_):=zh C.o;clear J;refine rd1 3 fun K hK=>?_;go_simp;go_at_call 78
    refine (X.o _ E.o).mono ?_;rintro e w2 ⟨rfl,hb⟩;have D:=zh (E.o.trans (hb.mono E.o.size));have B:=zh ((hb.block _ (af I.o)).trans I.o);clear hb;go_simp;refine hK.out _ _ ?_ (fun hH=>?_)
    ·exact ⟨aa B.o (j:=3) rfl,aa B.o (j:=4) rfl⟩
    clear hK K;try go_simp
    refine rd1 6 fun K hK=>?_;go_simp;go_at_call 78
    refine (V.o _ D.o).mono ?_;rintro e w3 ⟨rfl,hb⟩;have Q:=zh (D.o.trans (hb.mono D.o.size));have A:=zh ((hb.block _ (af B.o)).trans B.o);clear hb;go_simp;refine hK.out _ _ ?_ (fun hH=>?_)
    ·exact ⟨aa A.o (j:=3) rfl,aa A.o (j:=4) rfl⟩
    clear hK K;try go_simp
    refine tkA 7 ?_;refine tkA 8 ?_;refine rd1 9 fun K hK=>?_;go_simp;refine hK.out _ _ ?_ (fun hH=>?_)
    ·exact ⟨aa A.o (j:=3) rfl,aa A.o (j:=4) rfl⟩
    clear hK K;try go_simp
    refine wpAnyH_done (by kernel_rfl) ?_ _;go_wp2_with fail
    go_roundg (l.length-i-1)
    case measure=>omega
    case rel=>exact ⟨i+1,_,by omega,rfl,rfl,L.o.trans (by rw [IntKind.wrap_i64,IntKind.wrap_i64];simp [wrap64]),Q.o⟩
   have m:=zh (And.intro h1 h4);have h3:(op==1)=false:=beq_false_of_ne h1;have h2:(op==4)=false:=beq_false_of_ne h4;go_upto_region 7 with fail
   clear e0 e3 e4;have E:=zh (show Below w.heap.size w w1.drew from c.o.drew);have J:w1.drew.cell? ⟨SP,3,none⟩=some (.slice s2 n2 c2)∧w1.drew.cell? ⟨SP,4,none⟩=some (.slice s3 n3 c3):=⟨aa C.o (j:=3) rfl,aa C.o (j:=4) rfl⟩
   refine wp_region_held (S:=(fun w':World=>w'.cell? ⟨SP,3,none⟩=some (.slice s2 n2 c2)∧w'.cell? ⟨SP,4,none⟩=some (.slice s3 n3 c3))) (by kernel_rfl) ?_;refine tkA 0 ?_;refine tkA 1 ?_;refine tkA 2 ?_;refine tkA 4 ?_;refine tkA 5 ?_;have I:Hd (w1.drew.heap[SP]?=_):=zh C.o;clear J;refine rd1 3 fun K hK=>?_;go_simp;go_at_call 78
   refine (X.o _ E.o).mono ?_;rintro e w2 ⟨rfl,hb⟩;have D:=zh (E.o.trans (hb.mono E.o.size));have B:=zh ((hb.block _ (af I.o)).trans I.o);clear hb;go_simp;refine hK.out _ _ ?_ (fun hH=>?_)
   ·exact ⟨aa B.o (j:=3) rfl,aa B.o (j:=4) rfl⟩
   clear hK K;try go_simp
   refine rd1 6 fun K hK=>?_;go_simp;go_at_call 78
   refine (V.o _ D.o).mono ?_;rintro e w3 ⟨rfl,hb⟩;have Q:=zh (D.o.trans (hb.mono D.o.size));have A:=zh ((hb.block _ (af B.o)).trans B.o);clear hb;go_simp;refine hK.out _ _ ?_ (fun hH=>?_)
   ·exact ⟨aa A.o (j:=3) rfl,aa A.o (j:=4) rfl⟩
   clear hK K;try go_simp
   refine tkA 7 ?_;refine tkA 8 ?_;refine rd1 9 fun K hK=>?_;go_simp;refine hK.out _ _ ?_ (fun hH=>?_)
   ·exact ⟨aa A.o (j:=3) rfl,aa A.o (j:=4) rfl⟩
   clear hK K;try go_simp
   refine wpAnyH_done (by kernel_rfl) ?_ _;go_wp2_with fail
   go_roundg (l.length-i-1)
   case measure=>omega
   case rel=>exact ⟨i+1,_,by omega,rfl,rfl,L.o.trans (by rw [IntKind.wrap_i64,IntKind.wrap_i64];simp [m.o.1,m.o.2,wrap64]),Q.o⟩
  ·obtain rfl:i=l.length:=by omega
   have g1:¬(l.length:Int)<(l.length:Int):=by omega
   have HE:=zh (L.o.trans (by rw [List.drop_eq_nil_of_le (Nat.le_refl _),dr]:dr n (l.drop l.length)=n));go_wp2_with fail
   exact bodyPost_ret (v:=.int .i64 n) (by simp [results,Tryz.results78,go_sem]) rfl ⟨by rw [HE.o],HB.o⟩
theorem kS (l:List St) (w:World) (u:Value) (hr:RepSts Any w u l) :
    Calls Tryz.prog 78 #[u] w fun e w'=>e=.returned (.int .i64 (dr 0 l))∧Below w.heap.size w w':=
 sW l (fun s _ w u=>⟨kS s.body w u,kS s.els w u⟩) w u hr
termination_by SizeOf.sizeOf l
decreasing_by
 ·exact (St.body_lt (by assumption)).1
 ·exact (St.body_lt (by assumption)).2
end
end Go.Proofs.YthgcpfkochikfaaGreat
