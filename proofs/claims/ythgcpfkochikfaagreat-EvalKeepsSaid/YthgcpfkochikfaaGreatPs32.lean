/-
  EvalSigns: part 32 of its proof: see the last text.
-/
import Derived.Test.YthgcpfkochikfaaGreatPs31
import Derived.Test.YthgcpfkochikfaaGreatPs12
set_option maxRecDepth 100000
set_option maxHeartbeats 16000000
namespace Go.Proofs.YthgcpfkochikfaaGreat
section
open Go.RowKit
def ij (F:aU) (v:bw) (text:ByteArray) (ks:List Ex) (pos:Int):Int×Flt:=
 if (cq text.toList).1≠0 then ((cq text.toList).2,cL F v ks [(cq text.toList).1,(cq text.toList).1])
 else if text.toList≠[43]∧text.toList≠[61,61]∧text.toList≠[33,61] then (0,(51,pos))
 else
  let r:=dn F v (text.toList==[43]) ks
  if r.1.1≠0 then (0,r.1)
  else (if text.toList=[43] then r.2.getD 0 0 else 2,noC (r.2.getD 0 0==r.2.getD 1 0) 51 pos)
def dU (F:aU) (v:bw) (A:Bool) (ks:List Ex) (pos:Int):Int×Flt:=
 if (dn F v A ks).1.1≠0 then (0,(dn F v A ks).1)
 else (if A then (dn F v A ks).2.getD 0 0 else 2,noC ((dn F v A ks).2.getD 0 0==(dn F v A ks).2.getD 1 0) 51 pos)
theorem yX (F:aU) (v:bw) (text:ByteArray) (ks:List Ex) (pos made:Int) (hs:cq text.toList=(0,made)) (hp:text.toList=[43]):ij F v text ks pos=dU F v true ks pos:=by
 unfold ij dU;rw [hs,hp];rfl
theorem Ck (F:aU) (v:bw) (text:ByteArray) (ks:List Ex) (pos made:Int) (hs:cq text.toList=(0,made)) (hp:text.toList=[61,61]):ij F v text ks pos=dU F v false ks pos:=by
 unfold ij dU;rw [hs,hp];rfl
theorem Cp (F:aU) (v:bw) (text:ByteArray) (ks:List Ex) (pos made:Int) (hs:cq text.toList=(0,made)) (hp:text.toList=[33,61]):ij F v text ks pos=dU F v false ks pos:=by
 unfold ij dU;rw [hs,hp];rfl
theorem xq (F:aU) (v:bw) (text:ByteArray) (ks:List Ex) (pos made:Int) (hs:cq text.toList=(0,made)) (h1:¬text.toList=[43]) (h2:¬text.toList=[61,61]) (h3:¬text.toList=[33,61]):ij F v text ks pos=(0,(51,pos)):=by
 unfold ij;rw [hs];exact (if_neg (by simp)).trans (if_pos ⟨h1,h2,h3⟩)
def cC (A:Bool) (q:Int×Flt) (B:Int):Flt:=if q.2.1=0 then noC (q.1 !=0&&!(A&&q.1==2)) 51 B else q.2
def dg (F:aU) (v:bw) (A:Bool) (ks:List Ex) (i:Nat) (B:List Int):Prop:=B.length=i∧dn F v A ks=((dn F v A (ks.drop i)).1,B++(dn F v A (ks.drop i)).2)
theorem jq (F:aU) (v:bw) (A:Bool) (ks:List Ex):dg F v A ks 0 []:=⟨rfl,rfl⟩
theorem nM (F:aU) (v:bw) (A:Bool) (ks:List Ex) (i:Nat) (hi:i<ks.length):dn F v A (ks.drop i)=if (cC A (aM F v (ks.getD i default)) (ks.getD i default).pos).1≠0 then (cC A (aM F v (ks.getD i default)) (ks.getD i default).pos,[]) else ((dn F v A (ks.drop (i+1))).1,(aM F v (ks.getD i default)).1 :: (dn F v A (ks.drop (i+1))).2):=by
 have e1:ks.getD i default=ks[i]:=by rw [List.getD_eq_getElem?_getD,List.getElem?_eq_getElem hi];rfl
 rw [List.drop_eq_getElem_cons hi,dn,e1];rfl
theorem lA (F:aU) (v:bw) (A:Bool) (ks:List Ex) (pos:Int) (i:Nat) (B:List Int) (fe fa:Int) (h:dg F v A ks i B) (hi:i<ks.length) (hf:cC A (aM F v (ks.getD i default)) (ks.getD i default).pos=(fe,fa)) (hb:¬fe=0):dU F v A ks pos=(0,(fe,fa)):=by
 unfold dU;rw [h.2,nM F v A ks i hi,hf,if_pos hb];exact if_pos hb
theorem nX (F:aU) (v:bw) (A:Bool) (ks:List Ex) (i:Nat) (B:List Int) (fa:Int) (h:dg F v A ks i B) (hi:i<ks.length) (hf:cC A (aM F v (ks.getD i default)) (ks.getD i default).pos=(0,fa)):dg F v A ks (i+1) (B++[(aM F v (ks.getD i default)).1]):=by
 refine ⟨by rw [List.length_append,h.1];rfl,?_⟩;rw [h.2,nM F v A ks i hi,hf,if_neg (by simp),List.append_assoc];rfl
theorem kV (F:aU) (v:bw) (A:Bool) (ks:List Ex) (pos:Int) (B:List Int) (h:dg F v A ks ks.length B):dU F v A ks pos=(if A then B.getD 0 0 else 2,noC (B.getD 0 0==B.getD 1 0) 51 pos):=by
 unfold dU;rw [h.2,List.drop_length,dn];simp [okF]
theorem iL {A:List Int} {x y:Int} (hl:A.length=0) (_:x=A.getD 0 0) (hy:y=A.getD 1 0) (t:Int):t=(A++[t]).getD 0 0∧y=(A++[t]).getD 1 0:=by
 obtain rfl:A=[]:=List.eq_nil_of_length_eq_zero hl;exact ⟨by simp,by rw [hy];simp⟩
theorem iI {A:List Int} {x y:Int} (hl:A.length=1) (hx:x=A.getD 0 0) (_:y=A.getD 1 0) (t:Int):x=(A++[t]).getD 0 0∧t=(A++[t]).getD 1 0:=by
 match A,hl with
 | [p0],_=>exact ⟨by rw [hx];simp,by simp⟩
theorem xle {a b X:Nat} (h:a=X) (hb:a≤b):X≤b:=by rw [←h];exact hb
theorem Ce (cb:Nat) (F:aU) (hA:Int) (a b:Ex) (ha:kg cb F hA a) (hb:kg cb F hA b) (v:bw) (vr:Nat) (w:World) (op num pos:Int) (text:ByteArray) (s:Option Addr) (n c:Nat) (h:CtxAt w cb F hA vr v) (hr:RepEx Any w [.int .i64 op,.int .i64 num,.string text,.slice s n c,.int .i64 pos] (.mk op num text [a,b] pos)) :
    Calls Tryz.prog 175 #[.pointer (some ⟨cb,0,none⟩),.agg #[.int .i64 op,.int .i64 num,.string text,.slice s n c,.int .i64 pos],.map (some vr)] w fun e w'=>e=.returned (.tuple #[.int .i64 (ij F v text [a,b] pos).1,bH (ij F v text [a,b] pos).2])∧Below w.heap.size w w':=by
 obtain ⟨ks',e,hn,H0⟩:=cf hr;injection e with _ _ _ e _
 subst e;obtain rfl:n=2:=hn;have hT:=zh h;have hD:=zh ha;have hB:=zh hb;have hS:=zh H0;have hM:=zh (show cb<w.heap.size from by obtain ⟨_,q,_⟩:=h.obj;exact af q);generalize hC:ij F v text [a,b] pos=C;have HC:=zh hC.symm;have HB:Hd (Below w.heap.size w ((w.alloc (.cells #[.int .i64 op,.int .i64 num,.string text,.slice s 2 c,.int .i64 pos] 178)).alloc (.cells #[.int .i64 0,.int .i64 0] 118))):=zh (ag (ag (Below.refl _ _) _) _);have HX:Hd (((w.alloc (.cells #[.int .i64 op,.int .i64 num,.string text,.slice s 2 c,.int .i64 pos] 178)).alloc (.cells #[.int .i64 0,.int .i64 0] 118)).heap[w.heap.size]?=some (.cells #[.int .i64 op,.int .i64 num,.string text,.slice s 2 c,.int .i64 pos] 178 (0,0))):=zh (ax _ _ _ _ (aj _ _ _ rfl));have HR:Hd (((w.alloc (.cells #[.int .i64 op,.int .i64 num,.string text,.slice s 2 c,.int .i64 pos] 178)).alloc (.cells #[.int .i64 0,.int .i64 0] 118)).heap[w.heap.size+1]?=some (.cells #[.int .i64 0,.int .i64 0] 118 (0,0))):=zh (aj _ _ _ (ah _ _));clear h hr ha hb H0 hC;go_enter Tryz.func175,Tryz.ntmps175
 go_upto_region 1 with fail
 generalize ((w.alloc (.cells #[.int .i64 op,.int .i64 num,.string text,.slice s 2 c,.int .i64 pos] 178)).alloc (.cells #[.int .i64 0,.int .i64 0] 118))=w1 at *;have J:Hd (w.heap.size<w.heap.size+1∧w.heap.size+1<w1.heap.size∧cb<w.heap.size):=zh ⟨Nat.lt_succ_self _,af HR.o,hM.o⟩;generalize H4:w.heap.size+1=RB at *;generalize hX:w.heap.size=X at *;replace J:Hd (w.heap.size=X∧X<RB∧RB<w1.heap.size∧cb<X):=zh ⟨hX,J.o.1,J.o.2.1,J.o.2.2⟩;clear H4 hX hM;have H6:¬RB=X:=by have:=J.o;omega
 have H3:¬X=RB:=by have:=J.o;omega
 have x2:w1.cell? ⟨X,2,none⟩=some (.string text):=aa HX.o (j:=2) rfl;go_wp2_with fail
 refine (tM text _).mono ?_;rintro e w2 ⟨rfl,rfl⟩;clear x2;generalize hF:cq text.toList=sg at *;obtain ⟨side,made⟩:=sg;dsimp only;by_cases hm:side=0
 ·subst hm
  by_cases hp:text.toList=[43]
  ·have hv:ij F v text [a,b] pos=_:=yX F v text [a,b] pos made hF hp
   have Q:(text.toList==[43])=true:=by simp [hp]
   have h7:Hd (C=dU F v true [a,b] pos):=zh (HC.o.trans hv);clear hv HC;obtain ⟨-,-,x2,x3,-⟩:=css HX.o;go_upto_region 8 with fail
   have g:=ag (Below.refl w1.heap.size w1) (.cells #[.int .i64 0,.int .i64 0] 249);have hc:Hd ((w1.alloc (.cells #[.int .i64 0,.int .i64 0] 249)).heap[w1.heap.size]?=some (.cells #[.int .i64 0,.int .i64 0] 249 (0,0))):=zh (aj _ _ _ rfl);have hw:Hd (RB<w1.heap.size):=zh J.o.2.2.1;clear x3 x2;replace HX:=zh ((g.block _ (af HX.o)).trans HX.o);replace HR:=zh ((g.block _ (af HR.o)).trans HR.o);replace HB:=zh (HB.o.trans (g.mono (xle J.o.1 HB.o.size)));clear g;generalize w1.alloc (.cells #[.int .i64 0,.int .i64 0] 249)=w3 at *;generalize w1.heap.size=SB at *;have x3:w3.cell? ⟨X,3,none⟩=some (.slice s 2 c):=aa HX.o (j:=3) rfl;obtain ⟨cs,⟨s0,cap,e,hI,hL,_,k,h0⟩,hs⟩:=hS.o;injection e with e1 e2 e3
   subst e1 e3;have hd:=zh k;have hO:=zh hs;clear k hs h0 hI hL e2;go_wp2_with fail
   have hN:Hd (∀x,x∈[a,b]→kg cb F hA x):=zh (fun x hx=>by simp at hx;rcases hx with rfl | rfl;exact hD.o;exact hB.o);clear hD hB;have H:Hd (X<w3.heap.size∧RB<w3.heap.size∧SB<w3.heap.size∧¬SB=X∧¬SB=RB∧X<SB):=zh (by have h1:=af HX.o;have h2:=af HR.o;have h3:=af hc.o;have h4:=hw.o;have h5:=J.o;exact ⟨h1,h2,h3,by omega,by omega,by omega⟩);clear hw x3;go_loopg [55] 2 (fun q s55 wr=>∃(i:Nat) (pre:List Int) (x y:Int),i+q=2∧s55=.int .i64 (i:Int)∧dg F v true [a,b] i pre∧x=pre.getD 0 0∧y=pre.getD 1 0∧Below X w wr∧w3.heap.size≤wr.heap.size∧wr.heap[X]?=some (.cells #[.int .i64 op,.int .i64 num,.string text,.slice s 2 c,.int .i64 pos] 178 (0,0))∧wr.heap[RB]?=some (.cells #[.int .i64 0,.int .i64 0] 118 (0,0))∧wr.heap[SB]?=some (.cells #[.int .i64 x,.int .i64 y] 249 (0,0)))
   case atStart=>exact ⟨0,[],0,0,Nat.zero_add _,rfl,jq _ _ _ _,rfl,rfl,HB.o,Nat.le_refl _,HX.o,HR.o,hc.o⟩
   case round =>
    obtain ⟨i,pre,x,y,H1,rfl,ho,hx,hy,hb,h0,hk,hq,hl⟩:=hrel;have u:=zh ho;have r:=zh (And.intro hx hy);have I:=zh hb;have K:=zh h0;have D:=zh hk;have A:=zh hq;have G:=zh hl;clear ho hx hy hb h0 hk hq hl HB HX HR hc;by_cases h6:i<2
    ·have g1:(i:Int)<2:=by omega
     have g3:(0:Int)≤(i:Int):=by omega
     obtain ⟨eb,off,hG,_,hu,V⟩:=hd.o (by simp);subst hG;have R:=hO.o i h6;obtain ⟨eop,enum,etext,ev,epos,h9,es,en,ec,hK⟩:=R.form;subst hK;rw [h9] at R;have m:eb<X:=by rw [←J.o.1];exact hu
     have Y:∀j,j<5→wr.cell? ⟨eb,off+i * 5+j,none⟩=(cs i)[j]?:=fun j hj=>(I.o.cell (p:=⟨eb,_,none⟩) m).trans (V i h6 j hj);rw [h9] at Y;have x0:wr.cell? ⟨eb,off+i * 5,none⟩=some (.int .i64 eop):=Y 0 (by decide);have x1:wr.cell? ⟨eb,off+i * 5+1,none⟩=some (.int .i64 enum):=Y 1 (by decide);have x2:wr.cell? ⟨eb,off+i * 5+2,none⟩=some (.string etext):=Y 2 (by decide);have x3:wr.cell? ⟨eb,off+i * 5+3,none⟩=some (.slice es en ec):=Y 3 (by decide);have x4:wr.cell? ⟨eb,off+i * 5+4,none⟩=some (.int .i64 epos):=Y 4 (by decide);have hz:Hd (([a,b].getD i default).pos=epos):=zh (by obtain ⟨_,e,_⟩:=cf R;rw [e];rfl);have hf:=zh R;have hg:Hd ([a,b].getD i default∈[a,b]):=zh (by rcases (show i=0∨i=1 by omega) with rfl | rfl;exact List.mem_cons_self;exact List.mem_cons_of_mem _ List.mem_cons_self);have hh:=zh (fun W (hW:Below X w W)=>hN.o _ hg.o v vr W eop enum epos etext es en ec (hT.o.below (by rw [J.o.1];exact hW)) (hf.o.keep (Stays.of_below (by rw [J.o.1];exact hW))));have M:=zh (nX F v true [a,b] i pre);have E:=zh (fun fe fa=>lA F v true [a,b] pos i pre fe fa u.o h6);have U:Hd (cC true (aM F v ([a,b].getD i default)) ([a,b].getD i default).pos=cC true (aM F v ([a,b].getD i default)) epos):=zh (by rw [hz.o]);replace M:Hd (∀fa,cC true (aM F v ([a,b].getD i default)) epos=(0,fa)→dg F v true [a,b] (i+1) (pre++[(aM F v ([a,b].getD i default)).1])):=zh (fun fa h=>M.o fa u.o h6 (U.o.trans h));replace E:Hd (∀fe fa,cC true (aM F v ([a,b].getD i default)) epos=(fe,fa)→¬fe=0→dU F v true [a,b] pos=(0,(fe,fa))):=zh (fun fe fa h=>E.o fe fa (U.o.trans h));clear R Y h9 V hu m U hz;generalize aM F v ([a,b].getD i default)=q at *;obtain ⟨t,fe,fa⟩:=q;unfold bH at hh;dsimp only at hh M E;go_upto_region 11 with fail
     have f:=ag (Below.refl wr.heap.size wr) (.cells #[.int .i64 eop,.int .i64 enum,.string etext,.slice es en ec,.int .i64 epos] 178);have T:Hd ((wr.alloc (.cells #[.int .i64 eop,.int .i64 enum,.string etext,.slice es en ec,.int .i64 epos] 178)).heap[wr.heap.size]?=some (.cells #[.int .i64 eop,.int .i64 enum,.string etext,.slice es en ec,.int .i64 epos] 178 (0,0))):=zh (aj _ _ _ rfl);have H2:Hd (w3.heap.size≤wr.heap.size):=K;clear x0 x1 x2 x3 x4;have B:=D;replace D:=zh ((f.block _ (af D.o)).trans D.o);replace A:=zh ((f.block _ (af A.o)).trans A.o);replace G:=zh ((f.block _ (af G.o)).trans G.o);replace I:=zh (I.o.trans (f.mono (Nat.le_of_lt (af B.o))));replace K:=zh (Nat.le_trans K.o f.size);clear B;clear f;generalize (wr.alloc (.cells #[.int .i64 eop,.int .i64 enum,.string etext,.slice es en ec,.int .i64 epos] 178))=w4 at *;generalize wr.heap.size=EB at *;obtain ⟨e0,e1,e2,e3,e4,-⟩:=css T.o;go_wp2_with fail
     refine (hh.o _ I.o).mono ?_;rintro e w5 ⟨rfl,P⟩;clear e0 e1 e2 e3 e4;replace T:=zh ((P.block _ (af T.o)).trans T.o);have B:=D;replace D:=zh ((P.block _ (af D.o)).trans D.o);replace A:=zh ((P.block _ (af A.o)).trans A.o);replace G:=zh ((P.block _ (af G.o)).trans G.o);replace I:=zh (I.o.trans (P.mono (Nat.le_of_lt (af B.o))));replace K:=zh (Nat.le_trans K.o P.size);clear B;clear P;go_upto_region 12 with fail
     have d:=ag (Below.refl w5.heap.size w5) (.cells #[.int .i64 fe,.int .i64 fa] 118);have L:Hd ((w5.alloc (.cells #[.int .i64 fe,.int .i64 fa] 118)).heap[w5.heap.size]?=some (.cells #[.int .i64 fe,.int .i64 fa] 118 (0,0))):=zh (aj _ _ _ rfl);replace T:=zh ((d.block _ (af T.o)).trans T.o);have hP:Hd (w3.heap.size≤w5.heap.size):=K;have B:=D;replace D:=zh ((d.block _ (af D.o)).trans D.o);replace A:=zh ((d.block _ (af A.o)).trans A.o);replace G:=zh ((d.block _ (af G.o)).trans G.o);replace I:=zh (I.o.trans (d.mono (Nat.le_of_lt (af B.o))));replace K:=zh (Nat.le_trans K.o d.size);clear B;clear d;generalize (w5.alloc (.cells #[.int .i64 fe,.int .i64 fa] 118))=w6 at *;generalize w5.heap.size=FB at *;have N:Hd (¬X=FB∧¬RB=FB∧¬SB=FB∧¬FB=X∧¬FB=RB∧¬FB=SB∧X≤FB):=zh (by have:=H.o;have:=hP.o;exact ⟨by omega,by omega,by omega,by omega,by omega,by omega,by omega⟩);have f0:w6.cell? ⟨FB,0,none⟩=some (.int .i64 fe):=aa L.o (j:=0) rfl;by_cases he:fe=0
     ·subst he
      by_cases ht:t=0
      ·subst ht
       have Z:((0:Int) !=0&&!(true&&(0:Int)==2))=false:=by simp
       replace M:Hd (∀fa,noC false 51 epos=(0,fa)→dg F v true [a,b] (i+1) (pre++[(0:Int)])):=zh (fun fa h=>M.o fa (by unfold cC;dsimp only;rw [if_pos rfl,Z];exact h));replace E:Hd (∀fe fa,noC false 51 epos=(fe,fa)→¬fe=0→dU F v true [a,b] pos=(0,(fe,fa))):=zh (fun fe fa h=>E.o fe fa (by unfold cC;dsimp only;rw [if_pos rfl,Z];exact h));clear Z;have e4:w6.cell? ⟨EB,4,none⟩=some (.int .i64 epos):=aa T.o (j:=4) rfl;have HN:=zh (cZ false 51 epos);generalize h8:noC false 51 epos=q at *;obtain ⟨ge,ga⟩:=q;unfold bH at HN;dsimp only at HN;clear h8;go_wp2_with fail
       refine (HN.o _).mono ?_;rintro e w7 ⟨rfl,O⟩;clear f0 e4;replace L:=zh ((O.block _ (af L.o)).trans L.o);have B:=D;replace D:=zh ((O.block _ (af D.o)).trans D.o);replace A:=zh ((O.block _ (af A.o)).trans A.o);replace G:=zh ((O.block _ (af G.o)).trans G.o);replace I:=zh (I.o.trans (O.mono (Nat.le_of_lt (af B.o))));replace K:=zh (Nat.le_trans K.o O.size);clear B;clear O;obtain ⟨f0,f1,-⟩:=css L.o;obtain ⟨k0,k1,-⟩:=fzs L.o;go_upto_region 14 with fail
       clear f0 f1 k0 k1;replace L:Hd (((w7.setCell ⟨FB,0,none⟩ (.int .i64 ge)).setCell ⟨FB,1,none⟩ (.int .i64 ga)).heap[FB]?=some (.cells #[.int .i64 ge,.int .i64 ga] 118 (0,0))):=zh (au (au L.o 0 _) 1 _);replace D:Hd (((w7.setCell ⟨FB,0,none⟩ (.int .i64 ge)).setCell ⟨FB,1,none⟩ (.int .i64 ga)).heap[X]?=_):=zh ((ak _ _ _ _ N.o.1).trans ((ak _ _ _ _ N.o.1).trans D.o));replace A:Hd (((w7.setCell ⟨FB,0,none⟩ (.int .i64 ge)).setCell ⟨FB,1,none⟩ (.int .i64 ga)).heap[RB]?=_):=zh ((ak _ _ _ _ N.o.2.1).trans ((ak _ _ _ _ N.o.2.1).trans A.o));replace G:Hd (((w7.setCell ⟨FB,0,none⟩ (.int .i64 ge)).setCell ⟨FB,1,none⟩ (.int .i64 ga)).heap[SB]?=_):=zh ((ak _ _ _ _ N.o.2.2.1).trans ((ak _ _ _ _ N.o.2.2.1).trans G.o));replace I:Hd (Below X w ((w7.setCell ⟨FB,0,none⟩ (.int .i64 ge)).setCell ⟨FB,1,none⟩ (.int .i64 ga))):=zh ((I.o.setCell (p:=⟨FB,0,none⟩) N.o.2.2.2.2.2.2 _).setCell (p:=⟨FB,1,none⟩) N.o.2.2.2.2.2.2 _);replace K:Hd (w3.heap.size≤((w7.setCell ⟨FB,0,none⟩ (.int .i64 ge)).setCell ⟨FB,1,none⟩ (.int .i64 ga)).heap.size):=zh (by rw [aC,aC];exact K.o);generalize ((w7.setCell ⟨FB,0,none⟩ (.int .i64 ge)).setCell ⟨FB,1,none⟩ (.int .i64 ga))=w8 at *;have f0:w8.cell? ⟨FB,0,none⟩=some (.int .i64 ge):=aa L.o (j:=0) rfl;by_cases l:ge=0
       ·subst l
        obtain ⟨c0,c1,-⟩:=css G.o;obtain ⟨k0,k1,-⟩:=fzs G.o;have S:=zh (M.o ga rfl);have z:=zh u.o.1;rcases (show i=0∨i=1 by omega) with rfl | rfl
        ·go_wp2_with fail
         go_roundg 1
         case measure=>omega
         case rel =>
          obtain ⟨hx,hy⟩:=r.o;have Q:=z.o;refine ⟨1,_,_,_,rfl,rfl,S.o,?_,?_,I.o.setCell (p:=⟨SB,0,none⟩) (Nat.le_of_lt H.o.2.2.2.2.2) _,(by rw [aC];exact K.o),(ak _ _ _ _ (Ne.symm H.o.2.2.2.1)).trans D.o,(ak _ _ _ _ (Ne.symm H.o.2.2.2.2.1)).trans A.o,au G.o 0 _⟩
          ·exact (iL Q hx hy _).1
          ·exact (iL Q hx hy _).2
        ·go_wp2_with fail
         go_roundg 0
         case measure=>omega
         case rel =>
          obtain ⟨hx,hy⟩:=r.o;have Q:=z.o;refine ⟨2,_,_,_,rfl,rfl,S.o,?_,?_,I.o.setCell (p:=⟨SB,1,none⟩) (Nat.le_of_lt H.o.2.2.2.2.2) _,(by rw [aC];exact K.o),(ak _ _ _ _ (Ne.symm H.o.2.2.2.1)).trans D.o,(ak _ _ _ _ (Ne.symm H.o.2.2.2.2.1)).trans A.o,au G.o 1 _⟩
          ·exact (iI Q hx hy _).1
          ·exact (iI Q hx hy _).2
       ·have U:Hd ((ge,ga)=(ge,ga)):=zh rfl
        have HE:=zh (h7.o.trans (E.o ge ga U.o l));obtain ⟨r0,r1,-⟩:=css A.o;obtain ⟨k0,k1,-⟩:=fzs A.o;have f1:w8.cell? ⟨FB,1,none⟩=some (.int .i64 ga):=aa L.o (j:=1) rfl;go_upto_region 15 with fail
        go_region
        go_wp2_with fail
        refine bodyPost_ret (v:=.tuple #[.int .i64 0,.agg #[.int .i64 ge,.int .i64 ga]]) (by simp [results,Tryz.results175,go_sem,r0,r1]) rfl ⟨by rw [HE.o];rfl,?_⟩;rw [J.o.1];exact (((I.o).setCell (p:=⟨RB,0,none⟩) (Nat.le_of_lt J.o.2.1) _).setCell (p:=⟨RB,1,none⟩) (Nat.le_of_lt J.o.2.1) _).drew
      ·have Z:(t !=0&&!(true&&t==2))=(t !=0&&!(t==2)):=by simp
       replace M:Hd (∀fa,noC (t !=0&&!(t==2)) 51 epos=(0,fa)→dg F v true [a,b] (i+1) (pre++[t])):=zh (fun fa h=>M.o fa (by unfold cC;dsimp only;rw [if_pos rfl,Z];exact h));replace E:Hd (∀fe fa,noC (t !=0&&!(t==2)) 51 epos=(fe,fa)→¬fe=0→dU F v true [a,b] pos=(0,(fe,fa))):=zh (fun fe fa h=>E.o fe fa (by unfold cC;dsimp only;rw [if_pos rfl,Z];exact h));clear Z;have e4:w6.cell? ⟨EB,4,none⟩=some (.int .i64 epos):=aa T.o (j:=4) rfl;have HN:=zh (cZ (t !=0&&!(t==2)) 51 epos);generalize h8:noC (t !=0&&!(t==2)) 51 epos=q at *;obtain ⟨ge,ga⟩:=q;unfold bH at HN;dsimp only at HN;clear h8;go_wp2_with fail
       refine (HN.o _).mono ?_;rintro e w7 ⟨rfl,O⟩;clear f0 e4;replace L:=zh ((O.block _ (af L.o)).trans L.o);have B:=D;replace D:=zh ((O.block _ (af D.o)).trans D.o);replace A:=zh ((O.block _ (af A.o)).trans A.o);replace G:=zh ((O.block _ (af G.o)).trans G.o);replace I:=zh (I.o.trans (O.mono (Nat.le_of_lt (af B.o))));replace K:=zh (Nat.le_trans K.o O.size);clear B;clear O;obtain ⟨f0,f1,-⟩:=css L.o;obtain ⟨k0,k1,-⟩:=fzs L.o;go_upto_region 14 with fail
       clear f0 f1 k0 k1;replace L:Hd (((w7.setCell ⟨FB,0,none⟩ (.int .i64 ge)).setCell ⟨FB,1,none⟩ (.int .i64 ga)).heap[FB]?=some (.cells #[.int .i64 ge,.int .i64 ga] 118 (0,0))):=zh (au (au L.o 0 _) 1 _);replace D:Hd (((w7.setCell ⟨FB,0,none⟩ (.int .i64 ge)).setCell ⟨FB,1,none⟩ (.int .i64 ga)).heap[X]?=_):=zh ((ak _ _ _ _ N.o.1).trans ((ak _ _ _ _ N.o.1).trans D.o));replace A:Hd (((w7.setCell ⟨FB,0,none⟩ (.int .i64 ge)).setCell ⟨FB,1,none⟩ (.int .i64 ga)).heap[RB]?=_):=zh ((ak _ _ _ _ N.o.2.1).trans ((ak _ _ _ _ N.o.2.1).trans A.o));replace G:Hd (((w7.setCell ⟨FB,0,none⟩ (.int .i64 ge)).setCell ⟨FB,1,none⟩ (.int .i64 ga)).heap[SB]?=_):=zh ((ak _ _ _ _ N.o.2.2.1).trans ((ak _ _ _ _ N.o.2.2.1).trans G.o));replace I:Hd (Below X w ((w7.setCell ⟨FB,0,none⟩ (.int .i64 ge)).setCell ⟨FB,1,none⟩ (.int .i64 ga))):=zh ((I.o.setCell (p:=⟨FB,0,none⟩) N.o.2.2.2.2.2.2 _).setCell (p:=⟨FB,1,none⟩) N.o.2.2.2.2.2.2 _);replace K:Hd (w3.heap.size≤((w7.setCell ⟨FB,0,none⟩ (.int .i64 ge)).setCell ⟨FB,1,none⟩ (.int .i64 ga)).heap.size):=zh (by rw [aC,aC];exact K.o);generalize ((w7.setCell ⟨FB,0,none⟩ (.int .i64 ge)).setCell ⟨FB,1,none⟩ (.int .i64 ga))=w8 at *;have f0:w8.cell? ⟨FB,0,none⟩=some (.int .i64 ge):=aa L.o (j:=0) rfl;by_cases l:ge=0
       ·subst l
        obtain ⟨c0,c1,-⟩:=css G.o;obtain ⟨k0,k1,-⟩:=fzs G.o;have S:=zh (M.o ga rfl);have z:=zh u.o.1;rcases (show i=0∨i=1 by omega) with rfl | rfl
        ·go_wp2_with fail
         go_roundg 1
         case measure=>omega
         case rel =>
          obtain ⟨hx,hy⟩:=r.o;have Q:=z.o;refine ⟨1,_,_,_,rfl,rfl,S.o,?_,?_,I.o.setCell (p:=⟨SB,0,none⟩) (Nat.le_of_lt H.o.2.2.2.2.2) _,(by rw [aC];exact K.o),(ak _ _ _ _ (Ne.symm H.o.2.2.2.1)).trans D.o,(ak _ _ _ _ (Ne.symm H.o.2.2.2.2.1)).trans A.o,au G.o 0 _⟩
          ·exact (iL Q hx hy _).1
          ·exact (iL Q hx hy _).2
        ·go_wp2_with fail
         go_roundg 0
         case measure=>omega
         case rel =>
          obtain ⟨hx,hy⟩:=r.o;have Q:=z.o;refine ⟨2,_,_,_,rfl,rfl,S.o,?_,?_,I.o.setCell (p:=⟨SB,1,none⟩) (Nat.le_of_lt H.o.2.2.2.2.2) _,(by rw [aC];exact K.o),(ak _ _ _ _ (Ne.symm H.o.2.2.2.1)).trans D.o,(ak _ _ _ _ (Ne.symm H.o.2.2.2.2.1)).trans A.o,au G.o 1 _⟩
          ·exact (iI Q hx hy _).1
          ·exact (iI Q hx hy _).2
       ·have U:Hd ((ge,ga)=(ge,ga)):=zh rfl
        have HE:=zh (h7.o.trans (E.o ge ga U.o l));obtain ⟨r0,r1,-⟩:=css A.o;obtain ⟨k0,k1,-⟩:=fzs A.o;have f1:w8.cell? ⟨FB,1,none⟩=some (.int .i64 ga):=aa L.o (j:=1) rfl;go_upto_region 15 with fail
        go_region
        go_wp2_with fail
        refine bodyPost_ret (v:=.tuple #[.int .i64 0,.agg #[.int .i64 ge,.int .i64 ga]]) (by simp [results,Tryz.results175,go_sem,r0,r1]) rfl ⟨by rw [HE.o];rfl,?_⟩;rw [J.o.1];exact (((I.o).setCell (p:=⟨RB,0,none⟩) (Nat.le_of_lt J.o.2.1) _).setCell (p:=⟨RB,1,none⟩) (Nat.le_of_lt J.o.2.1) _).drew
     ·have U:Hd (cC true (t,(fe,fa)) epos=(fe,fa)):=zh (by unfold cC;exact if_neg he)
      have HE:=zh (h7.o.trans (E.o fe fa U.o he));obtain ⟨r0,r1,-⟩:=css A.o;obtain ⟨k0,k1,-⟩:=fzs A.o;have f1:w6.cell? ⟨FB,1,none⟩=some (.int .i64 fa):=aa L.o (j:=1) rfl;go_upto_region 15 with fail
      go_region
      go_wp2_with fail
      refine bodyPost_ret (v:=.tuple #[.int .i64 0,.agg #[.int .i64 fe,.int .i64 fa]]) (by simp [results,Tryz.results175,go_sem,r0,r1]) rfl ⟨by rw [HE.o];rfl,?_⟩;rw [J.o.1];exact (((I.o).setCell (p:=⟨RB,0,none⟩) (Nat.le_of_lt J.o.2.1) _).setCell (p:=⟨RB,1,none⟩) (Nat.le_of_lt J.o.2.1) _).drew
    ·obtain rfl:i=2:=by omega
     have g1:¬(2:Int)<2:=by decide
     obtain ⟨hx,hy⟩:=r.o;have HE:=zh (h7.o.trans (kV F v true [a,b] pos pre u.o));rw [←hx,←hy] at HE;have x4:wr.cell? ⟨X,4,none⟩=some (.int .i64 pos):=aa D.o (j:=4) rfl;obtain ⟨c0,c1,-⟩:=css G.o;clear hx hy;have HN:=zh (cZ (x==y) 51 pos);generalize noC (x==y) 51 pos=q at *;obtain ⟨qe,qa⟩:=q;unfold bH at HN;dsimp only at HN;go_wp2_with fail
     refine (HN.o _).mono ?_;rintro e w5 ⟨rfl,P⟩;clear x4 c0 c1;have B:=D;replace D:=zh ((P.block _ (af D.o)).trans D.o);replace A:=zh ((P.block _ (af A.o)).trans A.o);replace G:=zh ((P.block _ (af G.o)).trans G.o);replace I:=zh (I.o.trans (P.mono (Nat.le_of_lt (af B.o))));replace K:=zh (Nat.le_trans K.o P.size);clear P;obtain ⟨r0,r1,-⟩:=css A.o;obtain ⟨k0,k1,-⟩:=fzs A.o;go_wp2_with fail
     refine bodyPost_ret (v:=.tuple #[.int .i64 x,.agg #[.int .i64 qe,.int .i64 qa]]) (by simp [results,Tryz.results175,go_sem,r0,r1]) rfl ⟨by rw [HE.o];rfl,?_⟩;rw [J.o.1];exact (((I.o).setCell (p:=⟨RB,0,none⟩) (Nat.le_of_lt J.o.2.1) _).setCell (p:=⟨RB,1,none⟩) (Nat.le_of_lt J.o.2.1) _)
  ·by_cases hH:text.toList=[61,61]
   ·have hv:ij F v text [a,b] pos=_:=Ck F v text [a,b] pos made hF hH
    have Q:(text.toList==[43])=false:=by simp [hH]
    have hV:(text.toList==[61,61])=true:=by simp [hH]
    have h7:Hd (C=dU F v false [a,b] pos):=zh (HC.o.trans hv);clear hv HC;obtain ⟨-,-,x2,x3,-⟩:=css HX.o;go_upto_region 8 with fail
    have g:=ag (Below.refl w1.heap.size w1) (.cells #[.int .i64 0,.int .i64 0] 249);have hc:Hd ((w1.alloc (.cells #[.int .i64 0,.int .i64 0] 249)).heap[w1.heap.size]?=some (.cells #[.int .i64 0,.int .i64 0] 249 (0,0))):=zh (aj _ _ _ rfl);have hw:Hd (RB<w1.heap.size):=zh J.o.2.2.1;clear x3 x2;replace HX:=zh ((g.block _ (af HX.o)).trans HX.o);replace HR:=zh ((g.block _ (af HR.o)).trans HR.o);replace HB:=zh (HB.o.trans (g.mono (xle J.o.1 HB.o.size)));clear g;generalize w1.alloc (.cells #[.int .i64 0,.int .i64 0] 249)=w3 at *;generalize w1.heap.size=SB at *;have x3:w3.cell? ⟨X,3,none⟩=some (.slice s 2 c):=aa HX.o (j:=3) rfl;obtain ⟨cs,⟨s0,cap,e,hI,hL,_,k,h0⟩,hs⟩:=hS.o;injection e with e1 e2 e3
    subst e1 e3;have hd:=zh k;have hO:=zh hs;clear k hs h0 hI hL e2;go_wp2_with fail
    have hN:Hd (∀x,x∈[a,b]→kg cb F hA x):=zh (fun x hx=>by simp at hx;rcases hx with rfl | rfl;exact hD.o;exact hB.o);clear hD hB;have H:Hd (X<w3.heap.size∧RB<w3.heap.size∧SB<w3.heap.size∧¬SB=X∧¬SB=RB∧X<SB):=zh (by have h1:=af HX.o;have h2:=af HR.o;have h3:=af hc.o;have h4:=hw.o;have h5:=J.o;exact ⟨h1,h2,h3,by omega,by omega,by omega⟩);clear hw x3;go_loopg [55] 2 (fun q s55 wr=>∃(i:Nat) (pre:List Int) (x y:Int),i+q=2∧s55=.int .i64 (i:Int)∧dg F v false [a,b] i pre∧x=pre.getD 0 0∧y=pre.getD 1 0∧Below X w wr∧w3.heap.size≤wr.heap.size∧wr.heap[X]?=some (.cells #[.int .i64 op,.int .i64 num,.string text,.slice s 2 c,.int .i64 pos] 178 (0,0))∧wr.heap[RB]?=some (.cells #[.int .i64 0,.int .i64 0] 118 (0,0))∧wr.heap[SB]?=some (.cells #[.int .i64 x,.int .i64 y] 249 (0,0)))
    case atStart=>exact ⟨0,[],0,0,Nat.zero_add _,rfl,jq _ _ _ _,rfl,rfl,HB.o,Nat.le_refl _,HX.o,HR.o,hc.o⟩
    case round =>
     obtain ⟨i,pre,x,y,H1,rfl,ho,hx,hy,hb,h0,hk,hq,hl⟩:=hrel;have u:=zh ho;have r:=zh (And.intro hx hy);have I:=zh hb;have K:=zh h0;have D:=zh hk;have A:=zh hq;have G:=zh hl;clear ho hx hy hb h0 hk hq hl HB HX HR hc;by_cases h6:i<2
     ·have g1:(i:Int)<2:=by omega
      have g3:(0:Int)≤(i:Int):=by omega
      obtain ⟨eb,off,hG,_,hu,V⟩:=hd.o (by simp);subst hG;have R:=hO.o i h6;obtain ⟨eop,enum,etext,ev,epos,h9,es,en,ec,hK⟩:=R.form;subst hK;rw [h9] at R;have m:eb<X:=by rw [←J.o.1];exact hu
      have Y:∀j,j<5→wr.cell? ⟨eb,off+i * 5+j,none⟩=(cs i)[j]?:=fun j hj=>(I.o.cell (p:=⟨eb,_,none⟩) m).trans (V i h6 j hj);rw [h9] at Y;have x0:wr.cell? ⟨eb,off+i * 5,none⟩=some (.int .i64 eop):=Y 0 (by decide);have x1:wr.cell? ⟨eb,off+i * 5+1,none⟩=some (.int .i64 enum):=Y 1 (by decide);have x2:wr.cell? ⟨eb,off+i * 5+2,none⟩=some (.string etext):=Y 2 (by decide);have x3:wr.cell? ⟨eb,off+i * 5+3,none⟩=some (.slice es en ec):=Y 3 (by decide);have x4:wr.cell? ⟨eb,off+i * 5+4,none⟩=some (.int .i64 epos):=Y 4 (by decide);have hz:Hd (([a,b].getD i default).pos=epos):=zh (by obtain ⟨_,e,_⟩:=cf R;rw [e];rfl);have hf:=zh R;have hg:Hd ([a,b].getD i default∈[a,b]):=zh (by rcases (show i=0∨i=1 by omega) with rfl | rfl;exact List.mem_cons_self;exact List.mem_cons_of_mem _ List.mem_cons_self);have hh:=zh (fun W (hW:Below X w W)=>hN.o _ hg.o v vr W eop enum epos etext es en ec (hT.o.below (by rw [J.o.1];exact hW)) (hf.o.keep (Stays.of_below (by rw [J.o.1];exact hW))));have M:=zh (nX F v false [a,b] i pre);have E:=zh (fun fe fa=>lA F v false [a,b] pos i pre fe fa u.o h6);have U:Hd (cC false (aM F v ([a,b].getD i default)) ([a,b].getD i default).pos=cC false (aM F v ([a,b].getD i default)) epos):=zh (by rw [hz.o]);replace M:Hd (∀fa,cC false (aM F v ([a,b].getD i default)) epos=(0,fa)→dg F v false [a,b] (i+1) (pre++[(aM F v ([a,b].getD i default)).1])):=zh (fun fa h=>M.o fa u.o h6 (U.o.trans h));replace E:Hd (∀fe fa,cC false (aM F v ([a,b].getD i default)) epos=(fe,fa)→¬fe=0→dU F v false [a,b] pos=(0,(fe,fa))):=zh (fun fe fa h=>E.o fe fa (U.o.trans h));clear R Y h9 V hu m U hz;generalize aM F v ([a,b].getD i default)=q at *;obtain ⟨t,fe,fa⟩:=q;unfold bH at hh;dsimp only at hh M E;go_upto_region 11 with fail
      have f:=ag (Below.refl wr.heap.size wr) (.cells #[.int .i64 eop,.int .i64 enum,.string etext,.slice es en ec,.int .i64 epos] 178);have T:Hd ((wr.alloc (.cells #[.int .i64 eop,.int .i64 enum,.string etext,.slice es en ec,.int .i64 epos] 178)).heap[wr.heap.size]?=some (.cells #[.int .i64 eop,.int .i64 enum,.string etext,.slice es en ec,.int .i64 epos] 178 (0,0))):=zh (aj _ _ _ rfl);have H2:Hd (w3.heap.size≤wr.heap.size):=K;clear x0 x1 x2 x3 x4;have B:=D;replace D:=zh ((f.block _ (af D.o)).trans D.o);replace A:=zh ((f.block _ (af A.o)).trans A.o);replace G:=zh ((f.block _ (af G.o)).trans G.o);replace I:=zh (I.o.trans (f.mono (Nat.le_of_lt (af B.o))));replace K:=zh (Nat.le_trans K.o f.size);clear B;clear f;generalize (wr.alloc (.cells #[.int .i64 eop,.int .i64 enum,.string etext,.slice es en ec,.int .i64 epos] 178))=w4 at *;generalize wr.heap.size=EB at *;obtain ⟨e0,e1,e2,e3,e4,-⟩:=css T.o;go_wp2_with fail
      refine (hh.o _ I.o).mono ?_;rintro e w5 ⟨rfl,P⟩;clear e0 e1 e2 e3 e4;replace T:=zh ((P.block _ (af T.o)).trans T.o);have B:=D;replace D:=zh ((P.block _ (af D.o)).trans D.o);replace A:=zh ((P.block _ (af A.o)).trans A.o);replace G:=zh ((P.block _ (af G.o)).trans G.o);replace I:=zh (I.o.trans (P.mono (Nat.le_of_lt (af B.o))));replace K:=zh (Nat.le_trans K.o P.size);clear B;clear P;go_upto_region 12 with fail
      have d:=ag (Below.refl w5.heap.size w5) (.cells #[.int .i64 fe,.int .i64 fa] 118);have L:Hd ((w5.alloc (.cells #[.int .i64 fe,.int .i64 fa] 118)).heap[w5.heap.size]?=some (.cells #[.int .i64 fe,.int .i64 fa] 118 (0,0))):=zh (aj _ _ _ rfl);replace T:=zh ((d.block _ (af T.o)).trans T.o);have hP:Hd (w3.heap.size≤w5.heap.size):=K;have B:=D;replace D:=zh ((d.block _ (af D.o)).trans D.o);replace A:=zh ((d.block _ (af A.o)).trans A.o);replace G:=zh ((d.block _ (af G.o)).trans G.o);replace I:=zh (I.o.trans (d.mono (Nat.le_of_lt (af B.o))));replace K:=zh (Nat.le_trans K.o d.size);clear B;clear d;generalize (w5.alloc (.cells #[.int .i64 fe,.int .i64 fa] 118))=w6 at *;generalize w5.heap.size=FB at *;have N:Hd (¬X=FB∧¬RB=FB∧¬SB=FB∧¬FB=X∧¬FB=RB∧¬FB=SB∧X≤FB):=zh (by have:=H.o;have:=hP.o;exact ⟨by omega,by omega,by omega,by omega,by omega,by omega,by omega⟩);have f0:w6.cell? ⟨FB,0,none⟩=some (.int .i64 fe):=aa L.o (j:=0) rfl;by_cases he:fe=0
      ·subst he
       by_cases ht:t=0
       ·subst ht
        have Z:((0:Int) !=0&&!(false&&(0:Int)==2))=false:=by simp
        replace M:Hd (∀fa,noC false 51 epos=(0,fa)→dg F v false [a,b] (i+1) (pre++[(0:Int)])):=zh (fun fa h=>M.o fa (by unfold cC;dsimp only;rw [if_pos rfl,Z];exact h));replace E:Hd (∀fe fa,noC false 51 epos=(fe,fa)→¬fe=0→dU F v false [a,b] pos=(0,(fe,fa))):=zh (fun fe fa h=>E.o fe fa (by unfold cC;dsimp only;rw [if_pos rfl,Z];exact h));clear Z;have e4:w6.cell? ⟨EB,4,none⟩=some (.int .i64 epos):=aa T.o (j:=4) rfl;have HN:=zh (cZ false 51 epos);generalize h8:noC false 51 epos=q at *;obtain ⟨ge,ga⟩:=q;unfold bH at HN;dsimp only at HN;clear h8;go_wp2_with fail
        refine (HN.o _).mono ?_;rintro e w7 ⟨rfl,O⟩;clear f0 e4;replace L:=zh ((O.block _ (af L.o)).trans L.o);have B:=D;replace D:=zh ((O.block _ (af D.o)).trans D.o);replace A:=zh ((O.block _ (af A.o)).trans A.o);replace G:=zh ((O.block _ (af G.o)).trans G.o);replace I:=zh (I.o.trans (O.mono (Nat.le_of_lt (af B.o))));replace K:=zh (Nat.le_trans K.o O.size);clear B;clear O;obtain ⟨f0,f1,-⟩:=css L.o;obtain ⟨k0,k1,-⟩:=fzs L.o;go_upto_region 14 with fail
        clear f0 f1 k0 k1;replace L:Hd (((w7.setCell ⟨FB,0,none⟩ (.int .i64 ge)).setCell ⟨FB,1,none⟩ (.int .i64 ga)).heap[FB]?=some (.cells #[.int .i64 ge,.int .i64 ga] 118 (0,0))):=zh (au (au L.o 0 _) 1 _);replace D:Hd (((w7.setCell ⟨FB,0,none⟩ (.int .i64 ge)).setCell ⟨FB,1,none⟩ (.int .i64 ga)).heap[X]?=_):=zh ((ak _ _ _ _ N.o.1).trans ((ak _ _ _ _ N.o.1).trans D.o));replace A:Hd (((w7.setCell ⟨FB,0,none⟩ (.int .i64 ge)).setCell ⟨FB,1,none⟩ (.int .i64 ga)).heap[RB]?=_):=zh ((ak _ _ _ _ N.o.2.1).trans ((ak _ _ _ _ N.o.2.1).trans A.o));replace G:Hd (((w7.setCell ⟨FB,0,none⟩ (.int .i64 ge)).setCell ⟨FB,1,none⟩ (.int .i64 ga)).heap[SB]?=_):=zh ((ak _ _ _ _ N.o.2.2.1).trans ((ak _ _ _ _ N.o.2.2.1).trans G.o));replace I:Hd (Below X w ((w7.setCell ⟨FB,0,none⟩ (.int .i64 ge)).setCell ⟨FB,1,none⟩ (.int .i64 ga))):=zh ((I.o.setCell (p:=⟨FB,0,none⟩) N.o.2.2.2.2.2.2 _).setCell (p:=⟨FB,1,none⟩) N.o.2.2.2.2.2.2 _);replace K:Hd (w3.heap.size≤((w7.setCell ⟨FB,0,none⟩ (.int .i64 ge)).setCell ⟨FB,1,none⟩ (.int .i64 ga)).heap.size):=zh (by rw [aC,aC];exact K.o);generalize ((w7.setCell ⟨FB,0,none⟩ (.int .i64 ge)).setCell ⟨FB,1,none⟩ (.int .i64 ga))=w8 at *;have f0:w8.cell? ⟨FB,0,none⟩=some (.int .i64 ge):=aa L.o (j:=0) rfl;by_cases l:ge=0
        ·subst l
         obtain ⟨c0,c1,-⟩:=css G.o;obtain ⟨k0,k1,-⟩:=fzs G.o;have S:=zh (M.o ga rfl);have z:=zh u.o.1;rcases (show i=0∨i=1 by omega) with rfl | rfl
         ·go_wp2_with fail
          go_roundg 1
          case measure=>omega
          case rel =>
           obtain ⟨hx,hy⟩:=r.o;have Q:=z.o;refine ⟨1,_,_,_,rfl,rfl,S.o,?_,?_,I.o.setCell (p:=⟨SB,0,none⟩) (Nat.le_of_lt H.o.2.2.2.2.2) _,(by rw [aC];exact K.o),(ak _ _ _ _ (Ne.symm H.o.2.2.2.1)).trans D.o,(ak _ _ _ _ (Ne.symm H.o.2.2.2.2.1)).trans A.o,au G.o 0 _⟩
           ·exact (iL Q hx hy _).1
           ·exact (iL Q hx hy _).2
         ·go_wp2_with fail
          go_roundg 0
          case measure=>omega
          case rel =>
           obtain ⟨hx,hy⟩:=r.o;have Q:=z.o;refine ⟨2,_,_,_,rfl,rfl,S.o,?_,?_,I.o.setCell (p:=⟨SB,1,none⟩) (Nat.le_of_lt H.o.2.2.2.2.2) _,(by rw [aC];exact K.o),(ak _ _ _ _ (Ne.symm H.o.2.2.2.1)).trans D.o,(ak _ _ _ _ (Ne.symm H.o.2.2.2.2.1)).trans A.o,au G.o 1 _⟩
           ·exact (iI Q hx hy _).1
           ·exact (iI Q hx hy _).2
        ·have U:Hd ((ge,ga)=(ge,ga)):=zh rfl
         have HE:=zh (h7.o.trans (E.o ge ga U.o l));obtain ⟨r0,r1,-⟩:=css A.o;obtain ⟨k0,k1,-⟩:=fzs A.o;have f1:w8.cell? ⟨FB,1,none⟩=some (.int .i64 ga):=aa L.o (j:=1) rfl;go_upto_region 15 with fail
         go_region
         go_wp2_with fail
         refine bodyPost_ret (v:=.tuple #[.int .i64 0,.agg #[.int .i64 ge,.int .i64 ga]]) (by simp [results,Tryz.results175,go_sem,r0,r1]) rfl ⟨by rw [HE.o];rfl,?_⟩;rw [J.o.1];exact (((I.o).setCell (p:=⟨RB,0,none⟩) (Nat.le_of_lt J.o.2.1) _).setCell (p:=⟨RB,1,none⟩) (Nat.le_of_lt J.o.2.1) _).drew
       ·have Z:(t !=0&&!(false&&t==2))=(t !=0):=by simp
        replace M:Hd (∀fa,noC (t !=0) 51 epos=(0,fa)→dg F v false [a,b] (i+1) (pre++[t])):=zh (fun fa h=>M.o fa (by unfold cC;dsimp only;rw [if_pos rfl,Z];exact h));replace E:Hd (∀fe fa,noC (t !=0) 51 epos=(fe,fa)→¬fe=0→dU F v false [a,b] pos=(0,(fe,fa))):=zh (fun fe fa h=>E.o fe fa (by unfold cC;dsimp only;rw [if_pos rfl,Z];exact h));clear Z;have e4:w6.cell? ⟨EB,4,none⟩=some (.int .i64 epos):=aa T.o (j:=4) rfl;have HN:=zh (cZ (t !=0) 51 epos);generalize h8:noC (t !=0) 51 epos=q at *;obtain ⟨ge,ga⟩:=q;unfold bH at HN;dsimp only at HN;clear h8;go_wp2_with fail
        refine (HN.o _).mono ?_;rintro e w7 ⟨rfl,O⟩;clear f0 e4;replace L:=zh ((O.block _ (af L.o)).trans L.o);have B:=D;replace D:=zh ((O.block _ (af D.o)).trans D.o);replace A:=zh ((O.block _ (af A.o)).trans A.o);replace G:=zh ((O.block _ (af G.o)).trans G.o);replace I:=zh (I.o.trans (O.mono (Nat.le_of_lt (af B.o))));replace K:=zh (Nat.le_trans K.o O.size);clear B;clear O;obtain ⟨f0,f1,-⟩:=css L.o;obtain ⟨k0,k1,-⟩:=fzs L.o;go_upto_region 14 with fail
        clear f0 f1 k0 k1;replace L:Hd (((w7.setCell ⟨FB,0,none⟩ (.int .i64 ge)).setCell ⟨FB,1,none⟩ (.int .i64 ga)).heap[FB]?=some (.cells #[.int .i64 ge,.int .i64 ga] 118 (0,0))):=zh (au (au L.o 0 _) 1 _);replace D:Hd (((w7.setCell ⟨FB,0,none⟩ (.int .i64 ge)).setCell ⟨FB,1,none⟩ (.int .i64 ga)).heap[X]?=_):=zh ((ak _ _ _ _ N.o.1).trans ((ak _ _ _ _ N.o.1).trans D.o));replace A:Hd (((w7.setCell ⟨FB,0,none⟩ (.int .i64 ge)).setCell ⟨FB,1,none⟩ (.int .i64 ga)).heap[RB]?=_):=zh ((ak _ _ _ _ N.o.2.1).trans ((ak _ _ _ _ N.o.2.1).trans A.o));replace G:Hd (((w7.setCell ⟨FB,0,none⟩ (.int .i64 ge)).setCell ⟨FB,1,none⟩ (.int .i64 ga)).heap[SB]?=_):=zh ((ak _ _ _ _ N.o.2.2.1).trans ((ak _ _ _ _ N.o.2.2.1).trans G.o));replace I:Hd (Below X w ((w7.setCell ⟨FB,0,none⟩ (.int .i64 ge)).setCell ⟨FB,1,none⟩ (.int .i64 ga))):=zh ((I.o.setCell (p:=⟨FB,0,none⟩) N.o.2.2.2.2.2.2 _).setCell (p:=⟨FB,1,none⟩) N.o.2.2.2.2.2.2 _);replace K:Hd (w3.heap.size≤((w7.setCell ⟨FB,0,none⟩ (.int .i64 ge)).setCell ⟨FB,1,none⟩ (.int .i64 ga)).heap.size):=zh (by rw [aC,aC];exact K.o);generalize ((w7.setCell ⟨FB,0,none⟩ (.int .i64 ge)).setCell ⟨FB,1,none⟩ (.int .i64 ga))=w8 at *;have f0:w8.cell? ⟨FB,0,none⟩=some (.int .i64 ge):=aa L.o (j:=0) rfl;by_cases l:ge=0
        ·subst l
         obtain ⟨c0,c1,-⟩:=css G.o;obtain ⟨k0,k1,-⟩:=fzs G.o;have S:=zh (M.o ga rfl);have z:=zh u.o.1;rcases (show i=0∨i=1 by omega) with rfl | rfl
         ·go_wp2_with fail
          go_roundg 1
          case measure=>omega
          case rel =>
           obtain ⟨hx,hy⟩:=r.o;have Q:=z.o;refine ⟨1,_,_,_,rfl,rfl,S.o,?_,?_,I.o.setCell (p:=⟨SB,0,none⟩) (Nat.le_of_lt H.o.2.2.2.2.2) _,(by rw [aC];exact K.o),(ak _ _ _ _ (Ne.symm H.o.2.2.2.1)).trans D.o,(ak _ _ _ _ (Ne.symm H.o.2.2.2.2.1)).trans A.o,au G.o 0 _⟩
           ·exact (iL Q hx hy _).1
           ·exact (iL Q hx hy _).2
         ·go_wp2_with fail
          go_roundg 0
          case measure=>omega
          case rel =>
           obtain ⟨hx,hy⟩:=r.o;have Q:=z.o;refine ⟨2,_,_,_,rfl,rfl,S.o,?_,?_,I.o.setCell (p:=⟨SB,1,none⟩) (Nat.le_of_lt H.o.2.2.2.2.2) _,(by rw [aC];exact K.o),(ak _ _ _ _ (Ne.symm H.o.2.2.2.1)).trans D.o,(ak _ _ _ _ (Ne.symm H.o.2.2.2.2.1)).trans A.o,au G.o 1 _⟩
           ·exact (iI Q hx hy _).1
           ·exact (iI Q hx hy _).2
        ·have U:Hd ((ge,ga)=(ge,ga)):=zh rfl
         have HE:=zh (h7.o.trans (E.o ge ga U.o l));obtain ⟨r0,r1,-⟩:=css A.o;obtain ⟨k0,k1,-⟩:=fzs A.o;have f1:w8.cell? ⟨FB,1,none⟩=some (.int .i64 ga):=aa L.o (j:=1) rfl;go_upto_region 15 with fail
         go_region
         go_wp2_with fail
         refine bodyPost_ret (v:=.tuple #[.int .i64 0,.agg #[.int .i64 ge,.int .i64 ga]]) (by simp [results,Tryz.results175,go_sem,r0,r1]) rfl ⟨by rw [HE.o];rfl,?_⟩;rw [J.o.1];exact (((I.o).setCell (p:=⟨RB,0,none⟩) (Nat.le_of_lt J.o.2.1) _).setCell (p:=⟨RB,1,none⟩) (Nat.le_of_lt J.o.2.1) _).drew
      ·have U:Hd (cC false (t,(fe,fa)) epos=(fe,fa)):=zh (by unfold cC;exact if_neg he)
       have HE:=zh (h7.o.trans (E.o fe fa U.o he));obtain ⟨r0,r1,-⟩:=css A.o;obtain ⟨k0,k1,-⟩:=fzs A.o;have f1:w6.cell? ⟨FB,1,none⟩=some (.int .i64 fa):=aa L.o (j:=1) rfl;go_upto_region 15 with fail
       go_region
       go_wp2_with fail
       refine bodyPost_ret (v:=.tuple #[.int .i64 0,.agg #[.int .i64 fe,.int .i64 fa]]) (by simp [results,Tryz.results175,go_sem,r0,r1]) rfl ⟨by rw [HE.o];rfl,?_⟩;rw [J.o.1];exact (((I.o).setCell (p:=⟨RB,0,none⟩) (Nat.le_of_lt J.o.2.1) _).setCell (p:=⟨RB,1,none⟩) (Nat.le_of_lt J.o.2.1) _).drew
     ·obtain rfl:i=2:=by omega
      have g1:¬(2:Int)<2:=by decide
      obtain ⟨hx,hy⟩:=r.o;have HE:=zh (h7.o.trans (kV F v false [a,b] pos pre u.o));rw [←hx,←hy] at HE;have x4:wr.cell? ⟨X,4,none⟩=some (.int .i64 pos):=aa D.o (j:=4) rfl;obtain ⟨c0,c1,-⟩:=css G.o;clear hx hy;have HN:=zh (cZ (x==y) 51 pos);generalize noC (x==y) 51 pos=q at *;obtain ⟨qe,qa⟩:=q;unfold bH at HN;dsimp only at HN;go_wp2_with fail
      refine (HN.o _).mono ?_;rintro e w5 ⟨rfl,P⟩;clear x4 c0 c1;have B:=D;replace D:=zh ((P.block _ (af D.o)).trans D.o);replace A:=zh ((P.block _ (af A.o)).trans A.o);replace G:=zh ((P.block _ (af G.o)).trans G.o);replace I:=zh (I.o.trans (P.mono (Nat.le_of_lt (af B.o))));replace K:=zh (Nat.le_trans K.o P.size);clear P;obtain ⟨r0,r1,-⟩:=css A.o;obtain ⟨k0,k1,-⟩:=fzs A.o;go_wp2_with fail
      refine bodyPost_ret (v:=.tuple #[.int .i64 2,.agg #[.int .i64 qe,.int .i64 qa]]) (by simp [results,Tryz.results175,go_sem,r0,r1]) rfl ⟨by rw [HE.o];rfl,?_⟩;rw [J.o.1];exact (((I.o).setCell (p:=⟨RB,0,none⟩) (Nat.le_of_lt J.o.2.1) _).setCell (p:=⟨RB,1,none⟩) (Nat.le_of_lt J.o.2.1) _)
   ·have Q:(text.toList==[43])=false:=by simp [hp]
    have hV:(text.toList==[61,61])=false:=by simp [hH]
    by_cases hQ:text.toList=[33,61]
    ·have hv:ij F v text [a,b] pos=_:=Cp F v text [a,b] pos made hF hQ
     have hU:(text.toList==[33,61])=true:=by simp [hQ]
     have h7:Hd (C=dU F v false [a,b] pos):=zh (HC.o.trans hv);clear hv HC;obtain ⟨-,-,x2,x3,-⟩:=css HX.o;go_upto_region 8 with fail
     have g:=ag (Below.refl w1.heap.size w1) (.cells #[.int .i64 0,.int .i64 0] 249);have hc:Hd ((w1.alloc (.cells #[.int .i64 0,.int .i64 0] 249)).heap[w1.heap.size]?=some (.cells #[.int .i64 0,.int .i64 0] 249 (0,0))):=zh (aj _ _ _ rfl);have hw:Hd (RB<w1.heap.size):=zh J.o.2.2.1;clear x3 x2;replace HX:=zh ((g.block _ (af HX.o)).trans HX.o);replace HR:=zh ((g.block _ (af HR.o)).trans HR.o);replace HB:=zh (HB.o.trans (g.mono (xle J.o.1 HB.o.size)));clear g;generalize w1.alloc (.cells #[.int .i64 0,.int .i64 0] 249)=w3 at *;generalize w1.heap.size=SB at *;have x3:w3.cell? ⟨X,3,none⟩=some (.slice s 2 c):=aa HX.o (j:=3) rfl;obtain ⟨cs,⟨s0,cap,e,hI,hL,_,k,h0⟩,hs⟩:=hS.o;injection e with e1 e2 e3
     subst e1 e3;have hd:=zh k;have hO:=zh hs;clear k hs h0 hI hL e2;go_wp2_with fail
     have hN:Hd (∀x,x∈[a,b]→kg cb F hA x):=zh (fun x hx=>by simp at hx;rcases hx with rfl | rfl;exact hD.o;exact hB.o);clear hD hB;have H:Hd (X<w3.heap.size∧RB<w3.heap.size∧SB<w3.heap.size∧¬SB=X∧¬SB=RB∧X<SB):=zh (by have h1:=af HX.o;have h2:=af HR.o;have h3:=af hc.o;have h4:=hw.o;have h5:=J.o;exact ⟨h1,h2,h3,by omega,by omega,by omega⟩);clear hw x3;go_loopg [55] 2 (fun q s55 wr=>∃(i:Nat) (pre:List Int) (x y:Int),i+q=2∧s55=.int .i64 (i:Int)∧dg F v false [a,b] i pre∧x=pre.getD 0 0∧y=pre.getD 1 0∧Below X w wr∧w3.heap.size≤wr.heap.size∧wr.heap[X]?=some (.cells #[.int .i64 op,.int .i64 num,.string text,.slice s 2 c,.int .i64 pos] 178 (0,0))∧wr.heap[RB]?=some (.cells #[.int .i64 0,.int .i64 0] 118 (0,0))∧wr.heap[SB]?=some (.cells #[.int .i64 x,.int .i64 y] 249 (0,0)))
     case atStart=>exact ⟨0,[],0,0,Nat.zero_add _,rfl,jq _ _ _ _,rfl,rfl,HB.o,Nat.le_refl _,HX.o,HR.o,hc.o⟩
     case round =>
      obtain ⟨i,pre,x,y,H1,rfl,ho,hx,hy,hb,h0,hk,hq,hl⟩:=hrel;have u:=zh ho;have r:=zh (And.intro hx hy);have I:=zh hb;have K:=zh h0;have D:=zh hk;have A:=zh hq;have G:=zh hl;clear ho hx hy hb h0 hk hq hl HB HX HR hc;by_cases h6:i<2
      ·have g1:(i:Int)<2:=by omega
       have g3:(0:Int)≤(i:Int):=by omega
       obtain ⟨eb,off,hG,_,hu,V⟩:=hd.o (by simp);subst hG;have R:=hO.o i h6;obtain ⟨eop,enum,etext,ev,epos,h9,es,en,ec,hK⟩:=R.form;subst hK;rw [h9] at R;have m:eb<X:=by rw [←J.o.1];exact hu
       have Y:∀j,j<5→wr.cell? ⟨eb,off+i * 5+j,none⟩=(cs i)[j]?:=fun j hj=>(I.o.cell (p:=⟨eb,_,none⟩) m).trans (V i h6 j hj);rw [h9] at Y;have x0:wr.cell? ⟨eb,off+i * 5,none⟩=some (.int .i64 eop):=Y 0 (by decide);have x1:wr.cell? ⟨eb,off+i * 5+1,none⟩=some (.int .i64 enum):=Y 1 (by decide);have x2:wr.cell? ⟨eb,off+i * 5+2,none⟩=some (.string etext):=Y 2 (by decide);have x3:wr.cell? ⟨eb,off+i * 5+3,none⟩=some (.slice es en ec):=Y 3 (by decide);have x4:wr.cell? ⟨eb,off+i * 5+4,none⟩=some (.int .i64 epos):=Y 4 (by decide);have hz:Hd (([a,b].getD i default).pos=epos):=zh (by obtain ⟨_,e,_⟩:=cf R;rw [e];rfl);have hf:=zh R;have hg:Hd ([a,b].getD i default∈[a,b]):=zh (by rcases (show i=0∨i=1 by omega) with rfl | rfl;exact List.mem_cons_self;exact List.mem_cons_of_mem _ List.mem_cons_self);have hh:=zh (fun W (hW:Below X w W)=>hN.o _ hg.o v vr W eop enum epos etext es en ec (hT.o.below (by rw [J.o.1];exact hW)) (hf.o.keep (Stays.of_below (by rw [J.o.1];exact hW))));have M:=zh (nX F v false [a,b] i pre);have E:=zh (fun fe fa=>lA F v false [a,b] pos i pre fe fa u.o h6);have U:Hd (cC false (aM F v ([a,b].getD i default)) ([a,b].getD i default).pos=cC false (aM F v ([a,b].getD i default)) epos):=zh (by rw [hz.o]);replace M:Hd (∀fa,cC false (aM F v ([a,b].getD i default)) epos=(0,fa)→dg F v false [a,b] (i+1) (pre++[(aM F v ([a,b].getD i default)).1])):=zh (fun fa h=>M.o fa u.o h6 (U.o.trans h));replace E:Hd (∀fe fa,cC false (aM F v ([a,b].getD i default)) epos=(fe,fa)→¬fe=0→dU F v false [a,b] pos=(0,(fe,fa))):=zh (fun fe fa h=>E.o fe fa (U.o.trans h));clear R Y h9 V hu m U hz;generalize aM F v ([a,b].getD i default)=q at *;obtain ⟨t,fe,fa⟩:=q;unfold bH at hh;dsimp only at hh M E;go_upto_region 11 with fail
       have f:=ag (Below.refl wr.heap.size wr) (.cells #[.int .i64 eop,.int .i64 enum,.string etext,.slice es en ec,.int .i64 epos] 178);have T:Hd ((wr.alloc (.cells #[.int .i64 eop,.int .i64 enum,.string etext,.slice es en ec,.int .i64 epos] 178)).heap[wr.heap.size]?=some (.cells #[.int .i64 eop,.int .i64 enum,.string etext,.slice es en ec,.int .i64 epos] 178 (0,0))):=zh (aj _ _ _ rfl);have H2:Hd (w3.heap.size≤wr.heap.size):=K;clear x0 x1 x2 x3 x4;have B:=D;replace D:=zh ((f.block _ (af D.o)).trans D.o);replace A:=zh ((f.block _ (af A.o)).trans A.o);replace G:=zh ((f.block _ (af G.o)).trans G.o);replace I:=zh (I.o.trans (f.mono (Nat.le_of_lt (af B.o))));replace K:=zh (Nat.le_trans K.o f.size);clear B;clear f;generalize (wr.alloc (.cells #[.int .i64 eop,.int .i64 enum,.string etext,.slice es en ec,.int .i64 epos] 178))=w4 at *;generalize wr.heap.size=EB at *;obtain ⟨e0,e1,e2,e3,e4,-⟩:=css T.o;go_wp2_with fail
       refine (hh.o _ I.o).mono ?_;rintro e w5 ⟨rfl,P⟩;clear e0 e1 e2 e3 e4;replace T:=zh ((P.block _ (af T.o)).trans T.o);have B:=D;replace D:=zh ((P.block _ (af D.o)).trans D.o);replace A:=zh ((P.block _ (af A.o)).trans A.o);replace G:=zh ((P.block _ (af G.o)).trans G.o);replace I:=zh (I.o.trans (P.mono (Nat.le_of_lt (af B.o))));replace K:=zh (Nat.le_trans K.o P.size);clear B;clear P;go_upto_region 12 with fail
       have d:=ag (Below.refl w5.heap.size w5) (.cells #[.int .i64 fe,.int .i64 fa] 118);have L:Hd ((w5.alloc (.cells #[.int .i64 fe,.int .i64 fa] 118)).heap[w5.heap.size]?=some (.cells #[.int .i64 fe,.int .i64 fa] 118 (0,0))):=zh (aj _ _ _ rfl);replace T:=zh ((d.block _ (af T.o)).trans T.o);have hP:Hd (w3.heap.size≤w5.heap.size):=K;have B:=D;replace D:=zh ((d.block _ (af D.o)).trans D.o);replace A:=zh ((d.block _ (af A.o)).trans A.o);replace G:=zh ((d.block _ (af G.o)).trans G.o);replace I:=zh (I.o.trans (d.mono (Nat.le_of_lt (af B.o))));replace K:=zh (Nat.le_trans K.o d.size);clear B;clear d;generalize (w5.alloc (.cells #[.int .i64 fe,.int .i64 fa] 118))=w6 at *;generalize w5.heap.size=FB at *;have N:Hd (¬X=FB∧¬RB=FB∧¬SB=FB∧¬FB=X∧¬FB=RB∧¬FB=SB∧X≤FB):=zh (by have:=H.o;have:=hP.o;exact ⟨by omega,by omega,by omega,by omega,by omega,by omega,by omega⟩);have f0:w6.cell? ⟨FB,0,none⟩=some (.int .i64 fe):=aa L.o (j:=0) rfl;by_cases he:fe=0
       ·subst he
        by_cases ht:t=0
        ·subst ht
         have Z:((0:Int) !=0&&!(false&&(0:Int)==2))=false:=by simp
         replace M:Hd (∀fa,noC false 51 epos=(0,fa)→dg F v false [a,b] (i+1) (pre++[(0:Int)])):=zh (fun fa h=>M.o fa (by unfold cC;dsimp only;rw [if_pos rfl,Z];exact h));replace E:Hd (∀fe fa,noC false 51 epos=(fe,fa)→¬fe=0→dU F v false [a,b] pos=(0,(fe,fa))):=zh (fun fe fa h=>E.o fe fa (by unfold cC;dsimp only;rw [if_pos rfl,Z];exact h));clear Z;have e4:w6.cell? ⟨EB,4,none⟩=some (.int .i64 epos):=aa T.o (j:=4) rfl;have HN:=zh (cZ false 51 epos);generalize h8:noC false 51 epos=q at *;obtain ⟨ge,ga⟩:=q;unfold bH at HN;dsimp only at HN;clear h8;go_wp2_with fail
         refine (HN.o _).mono ?_;rintro e w7 ⟨rfl,O⟩;clear f0 e4;replace L:=zh ((O.block _ (af L.o)).trans L.o);have B:=D;replace D:=zh ((O.block _ (af D.o)).trans D.o);replace A:=zh ((O.block _ (af A.o)).trans A.o);replace G:=zh ((O.block _ (af G.o)).trans G.o);replace I:=zh (I.o.trans (O.mono (Nat.le_of_lt (af B.o))));replace K:=zh (Nat.le_trans K.o O.size);clear B;clear O;obtain ⟨f0,f1,-⟩:=css L.o;obtain ⟨k0,k1,-⟩:=fzs L.o;go_upto_region 14 with fail
         clear f0 f1 k0 k1;replace L:Hd (((w7.setCell ⟨FB,0,none⟩ (.int .i64 ge)).setCell ⟨FB,1,none⟩ (.int .i64 ga)).heap[FB]?=some (.cells #[.int .i64 ge,.int .i64 ga] 118 (0,0))):=zh (au (au L.o 0 _) 1 _);replace D:Hd (((w7.setCell ⟨FB,0,none⟩ (.int .i64 ge)).setCell ⟨FB,1,none⟩ (.int .i64 ga)).heap[X]?=_):=zh ((ak _ _ _ _ N.o.1).trans ((ak _ _ _ _ N.o.1).trans D.o));replace A:Hd (((w7.setCell ⟨FB,0,none⟩ (.int .i64 ge)).setCell ⟨FB,1,none⟩ (.int .i64 ga)).heap[RB]?=_):=zh ((ak _ _ _ _ N.o.2.1).trans ((ak _ _ _ _ N.o.2.1).trans A.o));replace G:Hd (((w7.setCell ⟨FB,0,none⟩ (.int .i64 ge)).setCell ⟨FB,1,none⟩ (.int .i64 ga)).heap[SB]?=_):=zh ((ak _ _ _ _ N.o.2.2.1).trans ((ak _ _ _ _ N.o.2.2.1).trans G.o));replace I:Hd (Below X w ((w7.setCell ⟨FB,0,none⟩ (.int .i64 ge)).setCell ⟨FB,1,none⟩ (.int .i64 ga))):=zh ((I.o.setCell (p:=⟨FB,0,none⟩) N.o.2.2.2.2.2.2 _).setCell (p:=⟨FB,1,none⟩) N.o.2.2.2.2.2.2 _);replace K:Hd (w3.heap.size≤((w7.setCell ⟨FB,0,none⟩ (.int .i64 ge)).setCell ⟨FB,1,none⟩ (.int .i64 ga)).heap.size):=zh (by rw [aC,aC];exact K.o);generalize ((w7.setCell ⟨FB,0,none⟩ (.int .i64 ge)).setCell ⟨FB,1,none⟩ (.int .i64 ga))=w8 at *;have f0:w8.cell? ⟨FB,0,none⟩=some (.int .i64 ge):=aa L.o (j:=0) rfl;by_cases l:ge=0
         ·subst l
          obtain ⟨c0,c1,-⟩:=css G.o;obtain ⟨k0,k1,-⟩:=fzs G.o;have S:=zh (M.o ga rfl);have z:=zh u.o.1;rcases (show i=0∨i=1 by omega) with rfl | rfl
          ·go_wp2_with fail
           go_roundg 1
           case measure=>omega
           case rel =>
            obtain ⟨hx,hy⟩:=r.o;have Q:=z.o;refine ⟨1,_,_,_,rfl,rfl,S.o,?_,?_,I.o.setCell (p:=⟨SB,0,none⟩) (Nat.le_of_lt H.o.2.2.2.2.2) _,(by rw [aC];exact K.o),(ak _ _ _ _ (Ne.symm H.o.2.2.2.1)).trans D.o,(ak _ _ _ _ (Ne.symm H.o.2.2.2.2.1)).trans A.o,au G.o 0 _⟩
            ·exact (iL Q hx hy _).1
            ·exact (iL Q hx hy _).2
          ·go_wp2_with fail
           go_roundg 0
           case measure=>omega
           case rel =>
            obtain ⟨hx,hy⟩:=r.o;have Q:=z.o;refine ⟨2,_,_,_,rfl,rfl,S.o,?_,?_,I.o.setCell (p:=⟨SB,1,none⟩) (Nat.le_of_lt H.o.2.2.2.2.2) _,(by rw [aC];exact K.o),(ak _ _ _ _ (Ne.symm H.o.2.2.2.1)).trans D.o,(ak _ _ _ _ (Ne.symm H.o.2.2.2.2.1)).trans A.o,au G.o 1 _⟩
            ·exact (iI Q hx hy _).1
            ·exact (iI Q hx hy _).2
         ·have U:Hd ((ge,ga)=(ge,ga)):=zh rfl
          have HE:=zh (h7.o.trans (E.o ge ga U.o l));obtain ⟨r0,r1,-⟩:=css A.o;obtain ⟨k0,k1,-⟩:=fzs A.o;have f1:w8.cell? ⟨FB,1,none⟩=some (.int .i64 ga):=aa L.o (j:=1) rfl;go_upto_region 15 with fail
          go_region
          go_wp2_with fail
          refine bodyPost_ret (v:=.tuple #[.int .i64 0,.agg #[.int .i64 ge,.int .i64 ga]]) (by simp [results,Tryz.results175,go_sem,r0,r1]) rfl ⟨by rw [HE.o];rfl,?_⟩;rw [J.o.1];exact (((I.o).setCell (p:=⟨RB,0,none⟩) (Nat.le_of_lt J.o.2.1) _).setCell (p:=⟨RB,1,none⟩) (Nat.le_of_lt J.o.2.1) _).drew
        ·have Z:(t !=0&&!(false&&t==2))=(t !=0):=by simp
         replace M:Hd (∀fa,noC (t !=0) 51 epos=(0,fa)→dg F v false [a,b] (i+1) (pre++[t])):=zh (fun fa h=>M.o fa (by unfold cC;dsimp only;rw [if_pos rfl,Z];exact h));replace E:Hd (∀fe fa,noC (t !=0) 51 epos=(fe,fa)→¬fe=0→dU F v false [a,b] pos=(0,(fe,fa))):=zh (fun fe fa h=>E.o fe fa (by unfold cC;dsimp only;rw [if_pos rfl,Z];exact h));clear Z;have e4:w6.cell? ⟨EB,4,none⟩=some (.int .i64 epos):=aa T.o (j:=4) rfl;have HN:=zh (cZ (t !=0) 51 epos);generalize h8:noC (t !=0) 51 epos=q at *;obtain ⟨ge,ga⟩:=q;unfold bH at HN;dsimp only at HN;clear h8;go_wp2_with fail
         refine (HN.o _).mono ?_;rintro e w7 ⟨rfl,O⟩;clear f0 e4;replace L:=zh ((O.block _ (af L.o)).trans L.o);have B:=D;replace D:=zh ((O.block _ (af D.o)).trans D.o);replace A:=zh ((O.block _ (af A.o)).trans A.o);replace G:=zh ((O.block _ (af G.o)).trans G.o);replace I:=zh (I.o.trans (O.mono (Nat.le_of_lt (af B.o))));replace K:=zh (Nat.le_trans K.o O.size);clear B;clear O;obtain ⟨f0,f1,-⟩:=css L.o;obtain ⟨k0,k1,-⟩:=fzs L.o;go_upto_region 14 with fail
         clear f0 f1 k0 k1;replace L:Hd (((w7.setCell ⟨FB,0,none⟩ (.int .i64 ge)).setCell ⟨FB,1,none⟩ (.int .i64 ga)).heap[FB]?=some (.cells #[.int .i64 ge,.int .i64 ga] 118 (0,0))):=zh (au (au L.o 0 _) 1 _);replace D:Hd (((w7.setCell ⟨FB,0,none⟩ (.int .i64 ge)).setCell ⟨FB,1,none⟩ (.int .i64 ga)).heap[X]?=_):=zh ((ak _ _ _ _ N.o.1).trans ((ak _ _ _ _ N.o.1).trans D.o));replace A:Hd (((w7.setCell ⟨FB,0,none⟩ (.int .i64 ge)).setCell ⟨FB,1,none⟩ (.int .i64 ga)).heap[RB]?=_):=zh ((ak _ _ _ _ N.o.2.1).trans ((ak _ _ _ _ N.o.2.1).trans A.o));replace G:Hd (((w7.setCell ⟨FB,0,none⟩ (.int .i64 ge)).setCell ⟨FB,1,none⟩ (.int .i64 ga)).heap[SB]?=_):=zh ((ak _ _ _ _ N.o.2.2.1).trans ((ak _ _ _ _ N.o.2.2.1).trans G.o));replace I:Hd (Below X w ((w7.setCell ⟨FB,0,none⟩ (.int .i64 ge)).setCell ⟨FB,1,none⟩ (.int .i64 ga))):=zh ((I.o.setCell (p:=⟨FB,0,none⟩) N.o.2.2.2.2.2.2 _).setCell (p:=⟨FB,1,none⟩) N.o.2.2.2.2.2.2 _);replace K:Hd (w3.heap.size≤((w7.setCell ⟨FB,0,none⟩ (.int .i64 ge)).setCell ⟨FB,1,none⟩ (.int .i64 ga)).heap.size):=zh (by rw [aC,aC];exact K.o);generalize ((w7.setCell ⟨FB,0,none⟩ (.int .i64 ge)).setCell ⟨FB,1,none⟩ (.int .i64 ga))=w8 at *;have f0:w8.cell? ⟨FB,0,none⟩=some (.int .i64 ge):=aa L.o (j:=0) rfl;by_cases l:ge=0
         ·subst l
          obtain ⟨c0,c1,-⟩:=css G.o;obtain ⟨k0,k1,-⟩:=fzs G.o;have S:=zh (M.o ga rfl);have z:=zh u.o.1;rcases (show i=0∨i=1 by omega) with rfl | rfl
          ·go_wp2_with fail
           go_roundg 1
           case measure=>omega
           case rel =>
            obtain ⟨hx,hy⟩:=r.o;have Q:=z.o;refine ⟨1,_,_,_,rfl,rfl,S.o,?_,?_,I.o.setCell (p:=⟨SB,0,none⟩) (Nat.le_of_lt H.o.2.2.2.2.2) _,(by rw [aC];exact K.o),(ak _ _ _ _ (Ne.symm H.o.2.2.2.1)).trans D.o,(ak _ _ _ _ (Ne.symm H.o.2.2.2.2.1)).trans A.o,au G.o 0 _⟩
            ·exact (iL Q hx hy _).1
            ·exact (iL Q hx hy _).2
          ·go_wp2_with fail
           go_roundg 0
           case measure=>omega
           case rel =>
            obtain ⟨hx,hy⟩:=r.o;have Q:=z.o;refine ⟨2,_,_,_,rfl,rfl,S.o,?_,?_,I.o.setCell (p:=⟨SB,1,none⟩) (Nat.le_of_lt H.o.2.2.2.2.2) _,(by rw [aC];exact K.o),(ak _ _ _ _ (Ne.symm H.o.2.2.2.1)).trans D.o,(ak _ _ _ _ (Ne.symm H.o.2.2.2.2.1)).trans A.o,au G.o 1 _⟩
            ·exact (iI Q hx hy _).1
            ·exact (iI Q hx hy _).2
         ·have U:Hd ((ge,ga)=(ge,ga)):=zh rfl
          have HE:=zh (h7.o.trans (E.o ge ga U.o l));obtain ⟨r0,r1,-⟩:=css A.o;obtain ⟨k0,k1,-⟩:=fzs A.o;have f1:w8.cell? ⟨FB,1,none⟩=some (.int .i64 ga):=aa L.o (j:=1) rfl;go_upto_region 15 with fail
          go_region
          go_wp2_with fail
          refine bodyPost_ret (v:=.tuple #[.int .i64 0,.agg #[.int .i64 ge,.int .i64 ga]]) (by simp [results,Tryz.results175,go_sem,r0,r1]) rfl ⟨by rw [HE.o];rfl,?_⟩;rw [J.o.1];exact (((I.o).setCell (p:=⟨RB,0,none⟩) (Nat.le_of_lt J.o.2.1) _).setCell (p:=⟨RB,1,none⟩) (Nat.le_of_lt J.o.2.1) _).drew
       ·have U:Hd (cC false (t,(fe,fa)) epos=(fe,fa)):=zh (by unfold cC;exact if_neg he)
        have HE:=zh (h7.o.trans (E.o fe fa U.o he));obtain ⟨r0,r1,-⟩:=css A.o;obtain ⟨k0,k1,-⟩:=fzs A.o;have f1:w6.cell? ⟨FB,1,none⟩=some (.int .i64 fa):=aa L.o (j:=1) rfl;go_upto_region 15 with fail
        go_region
        go_wp2_with fail
        refine bodyPost_ret (v:=.tuple #[.int .i64 0,.agg #[.int .i64 fe,.int .i64 fa]]) (by simp [results,Tryz.results175,go_sem,r0,r1]) rfl ⟨by rw [HE.o];rfl,?_⟩;rw [J.o.1];exact (((I.o).setCell (p:=⟨RB,0,none⟩) (Nat.le_of_lt J.o.2.1) _).setCell (p:=⟨RB,1,none⟩) (Nat.le_of_lt J.o.2.1) _).drew
      ·obtain rfl:i=2:=by omega
       have g1:¬(2:Int)<2:=by decide
       obtain ⟨hx,hy⟩:=r.o;have HE:=zh (h7.o.trans (kV F v false [a,b] pos pre u.o));rw [←hx,←hy] at HE;have x4:wr.cell? ⟨X,4,none⟩=some (.int .i64 pos):=aa D.o (j:=4) rfl;obtain ⟨c0,c1,-⟩:=css G.o;clear hx hy;have HN:=zh (cZ (x==y) 51 pos);generalize noC (x==y) 51 pos=q at *;obtain ⟨qe,qa⟩:=q;unfold bH at HN;dsimp only at HN;go_wp2_with fail
       refine (HN.o _).mono ?_;rintro e w5 ⟨rfl,P⟩;clear x4 c0 c1;have B:=D;replace D:=zh ((P.block _ (af D.o)).trans D.o);replace A:=zh ((P.block _ (af A.o)).trans A.o);replace G:=zh ((P.block _ (af G.o)).trans G.o);replace I:=zh (I.o.trans (P.mono (Nat.le_of_lt (af B.o))));replace K:=zh (Nat.le_trans K.o P.size);clear P;obtain ⟨r0,r1,-⟩:=css A.o;obtain ⟨k0,k1,-⟩:=fzs A.o;go_wp2_with fail
       refine bodyPost_ret (v:=.tuple #[.int .i64 2,.agg #[.int .i64 qe,.int .i64 qa]]) (by simp [results,Tryz.results175,go_sem,r0,r1]) rfl ⟨by rw [HE.o];rfl,?_⟩;rw [J.o.1];exact (((I.o).setCell (p:=⟨RB,0,none⟩) (Nat.le_of_lt J.o.2.1) _).setCell (p:=⟨RB,1,none⟩) (Nat.le_of_lt J.o.2.1) _)
    ·have hU:(text.toList==[33,61])=false:=by simp [hQ]
     have HE:=zh (HC.o.trans (xq F v text [a,b] pos made hF hp hH hQ));obtain ⟨-,-,x2,-,x4,-⟩:=css HX.o;obtain ⟨r0,r1,-⟩:=css HR.o;obtain ⟨k0,k1,-⟩:=fzs HR.o;go_upto_region 6 with fail
     go_region
     go_wp2_with fail
     refine bodyPost_ret (v:=.tuple #[.int .i64 0,.agg #[.int .i64 51,.int .i64 pos]]) (by simp [results,Tryz.results175,go_sem,r0,r1]) rfl ⟨by rw [HE.o];rfl,?_⟩;rw [J.o.1];exact (((HB.o).setCell (p:=⟨RB,0,none⟩) (Nat.le_of_lt J.o.2.1) _).setCell (p:=⟨RB,1,none⟩) (Nat.le_of_lt J.o.2.1) _).drew
 ·have HE:Hd (C=(made,cL F v [a,b] [side,side])):=zh (HC.o.trans (by unfold ij;rw [hF];exact if_pos hm))
  have H5:Hd (TysAt (w1.alloc (.cells #[.int .i64 side,.int .i64 side] 33)) (.slice (some ⟨w1.heap.size,0,none⟩) 2 2) [side,side]):=zh ⟨_,2,rfl,by show (2:Nat)≤1000000;decide,fun _=>⟨_,0,rfl,by rw [ah];exact Nat.lt_succ_self _,fun i hi=>by
    rw [Nat.zero_add];have H7:i<2:=hi;rcases (show i=0∨i=1 by omega) with rfl | rfl
    · exact aA _ _ _ _ _ _ rfl rfl
    · exact aA _ _ _ _ _ _ rfl rfl⟩⟩
  have g:=ag (Below.refl w1.heap.size w1) (.cells #[.int .i64 side,.int .i64 side] 33);have x3:w1.cell? ⟨X,3,none⟩=some (.slice s 2 c):=aa HX.o (j:=3) rfl;replace HX:=zh ((g.block _ (af HX.o)).trans HX.o);replace HR:=zh ((g.block _ (af HR.o)).trans HR.o);replace HB:=zh (HB.o.trans (g.mono (xle J.o.1 HB.o.size)));clear g;have hE:=zh (ii cb F hA [a,b] (fun x hx=>by simp at hx;rcases hx with rfl | rfl;exact hD.o;exact hB.o) v vr _ (.slice s 2 c) _ [side,side] (hT.o.below (by rw [J.o.1];exact HB.o)) (hS.o.keep (Stays.of_below (by rw [J.o.1];exact HB.o))) H5.o (Nat.le_refl _));generalize cL F v [a,b] [side,side]=q at *;obtain ⟨qe,qa⟩:=q;unfold bH at hE;dsimp only at hE;go_wp2_with fail
  clear x3;refine hE.o.mono ?_;rintro e w3 ⟨rfl,hR⟩;replace HX:=zh ((hR.block _ (af HX.o)).trans HX.o);replace HR:=zh ((hR.block _ (af HR.o)).trans HR.o);replace HB:=zh (HB.o.trans (hR.mono (xle J.o.1 HB.o.size)));clear hR;obtain ⟨r0,r1,-⟩:=css HR.o;obtain ⟨k0,k1,-⟩:=fzs HR.o;go_wp2_with fail
  refine bodyPost_ret (v:=.tuple #[.int .i64 made,.agg #[.int .i64 qe,.int .i64 qa]]) (by simp [results,Tryz.results175,go_sem,r0,r1]) rfl ⟨by rw [HE.o];rfl,?_⟩;rw [J.o.1];exact (HB.o.setCell (p:=⟨RB,0,none⟩) (Nat.le_of_lt J.o.2.1) _).setCell (p:=⟨RB,1,none⟩) (Nat.le_of_lt J.o.2.1) _
end
end Go.Proofs.YthgcpfkochikfaaGreat
