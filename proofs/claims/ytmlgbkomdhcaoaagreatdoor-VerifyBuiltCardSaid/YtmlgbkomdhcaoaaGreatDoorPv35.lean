/-
  VerifyBuilt: part 35 of its proof: see the last text.
-/
import Derived.Test.YtmlgbkomdhcaoaaGreatDoorPv34
set_option maxRecDepth 100000
set_option maxHeartbeats 16000000
namespace Go.Proofs.YtmlgbkomdhcaoaaGreatDoor
section
open Go.RowKit
theorem gF (F:aO) (v:aR) (op num:Int) (text:ByteArray) (ks:List Ex) (pos:Int) (h:cw op=-2∨(0≤cw op∧cw op≠ks.length)):aK F v (.mk op num text ks pos)=(0,(51,pos)):=by
 rw [aK,if_pos h]
theorem BT (F:aO) (v:aR) (num:Int) (text:ByteArray) (ks:List Ex) (pos:Int) (h:ks.length=0):aK F v (.mk 1 num text ks pos)=(1,okF):=by rw [aK];simp [cw,h]
theorem BV (F:aO) (v:aR) (num:Int) (text:ByteArray) (ks:List Ex) (pos:Int) (h:ks.length=0):aK F v (.mk 2 num text ks pos)=(2,okF):=by rw [aK];simp [cw,h]
theorem BW (F:aO) (v:aR) (num:Int) (text:ByteArray) (ks:List Ex) (pos:Int) (h:ks.length=0):aK F v (.mk 3 num text ks pos)=(3,okF):=by rw [aK];simp [cw,h]
theorem BS (F:aO) (v:aR) (num:Int) (text:ByteArray) (ks:List Ex) (pos:Int) (h:ks.length=0):aK F v (.mk 4 num text ks pos)=(((aI v text).getD (0,false)).1,noC (aI v text).isSome 52 pos):=by rw [aK];simp [cw,h]
theorem BG (F:aO) (v:aR) (num:Int) (text:ByteArray) (ks:List Ex) (pos:Int):aK F v (.mk 5 num text ks pos)=jB F v text ks pos:=by rw [aK];unfold jB;simp [cw];cases aI F text<;>rfl
theorem BN (F:aO) (v:aR) (num:Int) (text:ByteArray) (ks:List Ex) (pos:Int) (h:ks.length=2):aK F v (.mk 6 num text ks pos)=ir F v text ks pos:=by rw [aK];unfold ir;simp [cw,h]
theorem Bj (F:aO) (v:aR) (num:Int) (text:ByteArray) (ks:List Ex) (pos:Int) (h:ks.length=1) (h1:text.toList=[45]):aK F v (.mk 7 num text ks pos)=(1,cY F v ks [1]):=by rw [aK];simp [cw,h,h1]
theorem Bo (F:aO) (v:aR) (num:Int) (text:ByteArray) (ks:List Ex) (pos:Int) (h:ks.length=1) (h1:text.toList=[33]):aK F v (.mk 7 num text ks pos)=(2,cY F v ks [2]):=by rw [aK];simp [cw,h,h1]
theorem AU (F:aO) (v:aR) (num:Int) (text:ByteArray) (ks:List Ex) (pos:Int) (h:ks.length=1) (h1:¬text.toList=[45]) (h2:¬text.toList=[33]):aK F v (.mk 7 num text ks pos)=(0,(51,pos)):=by rw [aK];simp [cw,h,h1,h2]
theorem BK (F:aO) (v:aR) (num:Int) (text:ByteArray) (ks:List Ex) (pos:Int) (h:ks.length=1):aK F v (.mk 8 num text ks pos)=(3,cY F v ks [3]):=by rw [aK];simp [cw,h]
theorem BM (F:aO) (v:aR) (num:Int) (text:ByteArray) (ks:List Ex) (pos:Int) (h:ks.length=1):aK F v (.mk 9 num text ks pos)=(2,cY F v ks [3]):=by rw [aK];simp [cw,h]
theorem A6 (F:aO) (v:aR) (num:Int) (text:ByteArray) (ks:List Ex) (pos:Int) (h:ks.length=1):aK F v (.mk 10 num text ks pos)=(1,cY F v ks [3]):=by rw [aK];simp [cw,h]
theorem uk (cb:Nat) (F:aO) (res:Int) (hF:∀p,p∈F→p.2.params.length≤100000) (op num:Int) (text:ByteArray) (ks:List Ex) (pos:Int) (hl:∀x,x∈ks→jO cb F res x):jO cb F res (.mk op num text ks pos):=by
 intro v vr w op num' pos' text' s n c h hr;obtain ⟨ks2,e,hn,Z⟩:=cD hr;injection e with e0 e1 e2 e3 e4
 subst e0 e1 e2 e3 e4;have HN:=zh hn;have M:=zh h;have HL:=zh hl;have HF:=zh hF;have Q:=zh Z;have P:=zh hr;generalize hC:aK F v (.mk op num text ks pos)=C;have HC:=zh hC.symm;have HB:Hd (Below w.heap.size w ((w.alloc (.cells #[.int .i64 op,.int .i64 num,.string text,.slice s n c,.int .i64 pos] 144)).alloc (.cells #[.int .i64 0,.int .i64 0] 104))):=zh (ag (ag (Below.refl _ _) _) _);have HX:Hd (((w.alloc (.cells #[.int .i64 op,.int .i64 num,.string text,.slice s n c,.int .i64 pos] 144)).alloc (.cells #[.int .i64 0,.int .i64 0] 104)).heap[w.heap.size]?=some (.cells #[.int .i64 op,.int .i64 num,.string text,.slice s n c,.int .i64 pos] 144 (0,0))):=zh (az _ _ _ _ (am _ _ _ rfl));have HR:Hd (((w.alloc (.cells #[.int .i64 op,.int .i64 num,.string text,.slice s n c,.int .i64 pos] 144)).alloc (.cells #[.int .i64 0,.int .i64 0] 104)).heap[w.heap.size+1]?=some (.cells #[.int .i64 0,.int .i64 0] 104 (0,0))):=zh (am _ _ _ (ah _ _));clear h hr hl hF Z hn hC;go_enter Tryz.func106,Tryz.ntmps106
 go_upto_region 1 with fail
 generalize ((w.alloc (.cells #[.int .i64 op,.int .i64 num,.string text,.slice s n c,.int .i64 pos] 144)).alloc (.cells #[.int .i64 0,.int .i64 0] 104))=w1 at *;have A:Hd (w.heap.size<w.heap.size+1∧w.heap.size+1<w1.heap.size):=zh ⟨Nat.lt_succ_self _,ae HR.o⟩;generalize h4:w.heap.size+1=RB at *;generalize hX:w.heap.size=X at *;replace A:Hd (w.heap.size=X∧X<RB∧RB<w1.heap.size):=zh ⟨hX,A.o.1,A.o.2⟩;clear h4 hX;have h7:¬RB=X:=by have:=A.o;omega
 have h0:¬X=RB:=by have:=A.o;omega
 have x4:w1.cell? ⟨X,4,none⟩=some (.int .i64 pos):=aa HX.o (j:=4) rfl;go_upto_region 2 with fail
 have T:=ag (Below.refl w1.heap.size w1) (.cells #[.int .i64 51,.int .i64 pos] 104);have HW:Hd ((w1.alloc (.cells #[.int .i64 51,.int .i64 pos] 104)).heap[w1.heap.size]?=some (.cells #[.int .i64 51,.int .i64 pos] 104 (0,0))):=zh (am _ _ _ rfl);have h8:Hd (RB<w1.heap.size):=zh A.o.2.2;have D:=HX;replace HX:=zh ((T.block _ (ae HX.o)).trans HX.o);replace HR:=zh ((T.block _ (ae HR.o)).trans HR.o);replace HB:=zh (HB.o.trans (T.mono (Nat.le_of_lt (ae D.o))));clear D;clear T x4;generalize (w1.alloc (.cells #[.int .i64 51,.int .i64 pos] 104))=w2 at *;generalize w1.heap.size=WB at *;obtain ⟨x0,x1,x2,x3,x4,-⟩:=css HX.o;go_upto_region 3 with (refine (xP op num pos text s n c _).mono ?_;rintro e w3 ⟨rfl,N⟩)
 replace HW:=zh ((N.block _ (ae HW.o)).trans HW.o);have D:=HX;replace HX:=zh ((N.block _ (ae HX.o)).trans HX.o);replace HR:=zh ((N.block _ (ae HR.o)).trans HR.o);replace HB:=zh (HB.o.trans (N.mono (Nat.le_of_lt (ae D.o))));clear D;clear N x0 x1 x2 x3 x4;generalize hk:cw op=kn at *;by_cases I:op=1
 ·subst I
  obtain rfl:kn=0:=by rw [←hk];decide
  clear hk;by_cases E:n=0
  ·subst E
   have HE:Hd (C=(1,okF)):=zh (HC.o.trans (BT F v num text ks pos HN.o.symm));obtain ⟨x0,-,-,x3,-⟩:=css HX.o;obtain ⟨r0,r1,-⟩:=css HR.o;obtain ⟨k0,k1,-⟩:=fzs HR.o;go_wp2_with fail
   refine bodyPost_ret (v:=.tuple #[.int .i64 1,.agg #[.int .i64 0,.int .i64 0]]) (by simp [results,Tryz.results106,go_sem,r0,r1]) rfl ⟨by rw [HE.o];rfl,?_⟩;rw [A.o.1];exact ((HB.o.setCell (p:=⟨RB,0,none⟩) (Nat.le_of_lt A.o.2.1) _).setCell (p:=⟨RB,1,none⟩) (Nat.le_of_lt A.o.2.1) _)
  ·have g1:¬((0:Int)=(n:Int)):=by omega
   have HE:Hd (C=(0,(51,pos))):=zh (HC.o.trans (gF F v _ num text ks pos (.inr ⟨by decide,by rw [←HN.o];show ¬((0:Int)=(n:Int));omega⟩)));obtain ⟨x0,-,-,x3,-⟩:=css HX.o;obtain ⟨r0,r1,-⟩:=css HR.o;obtain ⟨k0,k1,-⟩:=fzs HR.o;obtain ⟨f0,f1,-⟩:=css HW.o;go_upto_region 4 with fail
   go_region
   go_wp2_with fail
   refine bodyPost_ret (v:=.tuple #[.int .i64 0,.agg #[.int .i64 51,.int .i64 pos]]) (by simp [results,Tryz.results106,go_sem,r0,r1]) rfl ⟨by rw [HE.o];rfl,?_⟩;rw [A.o.1];exact ((HB.o.setCell (p:=⟨RB,0,none⟩) (Nat.le_of_lt A.o.2.1) _).setCell (p:=⟨RB,1,none⟩) (Nat.le_of_lt A.o.2.1) _).drew
 by_cases u:op=2
 ·have I:=u
  clear u;subst I;obtain rfl:kn=0:=by rw [←hk];decide
  clear hk;by_cases E:n=0
  ·subst E
   have HE:Hd (C=(2,okF)):=zh (HC.o.trans (BV F v num text ks pos HN.o.symm));obtain ⟨x0,-,-,x3,-⟩:=css HX.o;obtain ⟨r0,r1,-⟩:=css HR.o;obtain ⟨k0,k1,-⟩:=fzs HR.o;go_wp2_with fail
   refine bodyPost_ret (v:=.tuple #[.int .i64 2,.agg #[.int .i64 0,.int .i64 0]]) (by simp [results,Tryz.results106,go_sem,r0,r1]) rfl ⟨by rw [HE.o];rfl,?_⟩;rw [A.o.1];exact ((HB.o.setCell (p:=⟨RB,0,none⟩) (Nat.le_of_lt A.o.2.1) _).setCell (p:=⟨RB,1,none⟩) (Nat.le_of_lt A.o.2.1) _)
  ·have g1:¬((0:Int)=(n:Int)):=by omega
   have HE:Hd (C=(0,(51,pos))):=zh (HC.o.trans (gF F v _ num text ks pos (.inr ⟨by decide,by rw [←HN.o];show ¬((0:Int)=(n:Int));omega⟩)));obtain ⟨x0,-,-,x3,-⟩:=css HX.o;obtain ⟨r0,r1,-⟩:=css HR.o;obtain ⟨k0,k1,-⟩:=fzs HR.o;obtain ⟨f0,f1,-⟩:=css HW.o;go_upto_region 4 with fail
   go_region
   go_wp2_with fail
   refine bodyPost_ret (v:=.tuple #[.int .i64 0,.agg #[.int .i64 51,.int .i64 pos]]) (by simp [results,Tryz.results106,go_sem,r0,r1]) rfl ⟨by rw [HE.o];rfl,?_⟩;rw [A.o.1];exact ((HB.o.setCell (p:=⟨RB,0,none⟩) (Nat.le_of_lt A.o.2.1) _).setCell (p:=⟨RB,1,none⟩) (Nat.le_of_lt A.o.2.1) _).drew
 by_cases t:op=3
 ·have I:=t
  clear t;subst I;obtain rfl:kn=0:=by rw [←hk];decide
  clear hk;by_cases E:n=0
  ·subst E
   have HE:Hd (C=(3,okF)):=zh (HC.o.trans (BW F v num text ks pos HN.o.symm));obtain ⟨x0,-,-,x3,-⟩:=css HX.o;obtain ⟨r0,r1,-⟩:=css HR.o;obtain ⟨k0,k1,-⟩:=fzs HR.o;go_wp2_with fail
   refine bodyPost_ret (v:=.tuple #[.int .i64 3,.agg #[.int .i64 0,.int .i64 0]]) (by simp [results,Tryz.results106,go_sem,r0,r1]) rfl ⟨by rw [HE.o];rfl,?_⟩;rw [A.o.1];exact ((HB.o.setCell (p:=⟨RB,0,none⟩) (Nat.le_of_lt A.o.2.1) _).setCell (p:=⟨RB,1,none⟩) (Nat.le_of_lt A.o.2.1) _)
  ·have g1:¬((0:Int)=(n:Int)):=by omega
   have HE:Hd (C=(0,(51,pos))):=zh (HC.o.trans (gF F v _ num text ks pos (.inr ⟨by decide,by rw [←HN.o];show ¬((0:Int)=(n:Int));omega⟩)));obtain ⟨x0,-,-,x3,-⟩:=css HX.o;obtain ⟨r0,r1,-⟩:=css HR.o;obtain ⟨k0,k1,-⟩:=fzs HR.o;obtain ⟨f0,f1,-⟩:=css HW.o;go_upto_region 4 with fail
   go_region
   go_wp2_with fail
   refine bodyPost_ret (v:=.tuple #[.int .i64 0,.agg #[.int .i64 51,.int .i64 pos]]) (by simp [results,Tryz.results106,go_sem,r0,r1]) rfl ⟨by rw [HE.o];rfl,?_⟩;rw [A.o.1];exact ((HB.o.setCell (p:=⟨RB,0,none⟩) (Nat.le_of_lt A.o.2.1) _).setCell (p:=⟨RB,1,none⟩) (Nat.le_of_lt A.o.2.1) _).drew
 by_cases r:op=4
 ·have I:=r
  clear r;subst I;obtain rfl:kn=0:=by rw [←hk];decide
  clear hk;by_cases E:n=0
  ·subst E
   have z:=zh (HC.o.trans (BS F v num text ks pos HN.o.symm));obtain ⟨x0,-,x2,x3,-⟩:=css HX.o;have V:=jy (M.o.below (by rw [A.o.1];exact HB.o)).view text;have W:=zh (dx (aI v text).isSome 52 pos);generalize (aI v text).getD (0,false)=nm at *;generalize (aI v text).isSome=is at *;obtain ⟨nt,nf⟩:=nm;unfold nmV at V;dsimp only at V z;generalize noC is 52 pos=q at *;obtain ⟨qe,qa⟩:=q;unfold bM at W;dsimp only at W;go_upto_region 14 with fail
   have y:Hd ((w3.alloc (.cells #[.int .i64 nt,.bool nf] 133)).heap[w3.heap.size]?=some (.cells #[.int .i64 nt,.bool nf] 133 (0,0))):=zh (am _ _ _ rfl);have H:=ag (Below.refl w3.heap.size w3) (.cells #[.int .i64 nt,.bool nf] 133);have D:=HX;replace HX:=zh ((H.block _ (ae HX.o)).trans HX.o);replace HR:=zh ((H.block _ (ae HR.o)).trans HR.o);replace HB:=zh (HB.o.trans (H.mono (Nat.le_of_lt (ae D.o))));clear D;clear H x0 x2 x3 V;generalize (w3.alloc (.cells #[.int .i64 nt,.bool nf] 133))=w4 at *;generalize w3.heap.size=NB at *;have U:Hd (w4.drew.cell? ⟨NB,0,none⟩=some (.int .i64 nt)∧w4.drew.cell? ⟨X,4,none⟩=some (.int .i64 pos)):=zh ⟨aa y.o (j:=0) rfl,aa HX.o (j:=4) rfl⟩;have h6:=U.o;refine aD (S:=(fun w':World=>w'.cell? ⟨NB,0,none⟩=some (.int .i64 nt)∧w'.cell? ⟨X,4,none⟩=some (.int .i64 pos))) 6 (by kernel_rfl) (by kernel_rfl) (by exact U.o) (fun hH=>?_);simp only [List.take_succ_cons,List.take_zero,List.drop_succ_cons,List.drop_zero]
   refine tkA 0 ?_;refine tkA 1 ?_;refine tkA 2 ?_;refine tkA 3 ?_;refine tkA 4 ?_;refine rd1 5 fun K hK=>?_;go_simp;go_at_call 64
   refine (W.o _).mono ?_;rintro e w5 ⟨rfl,d⟩;have J:Below w4.heap.size w4 w5:=ay (aB (Below.refl _ _)) d;have h5:Hd (w5.cell? ⟨NB,0,none⟩=some (.int .i64 nt)∧w5.cell? ⟨X,4,none⟩=some (.int .i64 pos)):=zh ⟨(J.cell (p:=⟨NB,0,none⟩) (ae y.o)).trans U.o.1,(J.cell (p:=⟨X,4,none⟩) (ae HX.o)).trans U.o.2⟩;have D:=HX;replace HX:=zh ((J.block _ (ae HX.o)).trans HX.o);replace HR:=zh ((J.block _ (ae HR.o)).trans HR.o);replace HB:=zh (HB.o.trans (J.mono (Nat.le_of_lt (ae D.o))));clear D;clear d J;go_simp;refine hK.out _ _ ?_ (fun hH=>?_)
   ·(try dsimp only)
    exact h5.o
   clear hK K;try go_simp
   refine wpAnyH_done (by kernel_rfl) ?_ _;dsimp only [cZ];obtain ⟨r0,r1,-⟩:=css HR.o;obtain ⟨k0,k1,-⟩:=fzs HR.o;have HE:=zh z.o;go_wp2_with fail
   refine bodyPost_ret (v:=.tuple #[.int .i64 nt,.agg #[.int .i64 qe,.int .i64 qa]]) (by simp [results,Tryz.results106,go_sem,r0,r1]) rfl ⟨by rw [HE.o];rfl,?_⟩;rw [A.o.1];exact ((HB.o.setCell (p:=⟨RB,0,none⟩) (Nat.le_of_lt A.o.2.1) _).setCell (p:=⟨RB,1,none⟩) (Nat.le_of_lt A.o.2.1) _)
  ·have g1:¬((0:Int)=(n:Int)):=by omega
   have HE:Hd (C=(0,(51,pos))):=zh (HC.o.trans (gF F v _ num text ks pos (.inr ⟨by decide,by rw [←HN.o];show ¬((0:Int)=(n:Int));omega⟩)));obtain ⟨x0,-,-,x3,-⟩:=css HX.o;obtain ⟨r0,r1,-⟩:=css HR.o;obtain ⟨k0,k1,-⟩:=fzs HR.o;obtain ⟨f0,f1,-⟩:=css HW.o;go_upto_region 4 with fail
   go_region
   go_wp2_with fail
   refine bodyPost_ret (v:=.tuple #[.int .i64 0,.agg #[.int .i64 51,.int .i64 pos]]) (by simp [results,Tryz.results106,go_sem,r0,r1]) rfl ⟨by rw [HE.o];rfl,?_⟩;rw [A.o.1];exact ((HB.o.setCell (p:=⟨RB,0,none⟩) (Nat.le_of_lt A.o.2.1) _).setCell (p:=⟨RB,1,none⟩) (Nat.le_of_lt A.o.2.1) _).drew
 by_cases m:op=5
 ·have I:=m
  clear m;subst I;obtain rfl:kn=-1:=by rw [←hk];decide
  clear hk;have HE:Hd (C=jB F v text ks pos):=zh (HC.o.trans (BG F v num text ks pos));obtain ⟨x0,x1,x2,x3,x4,-⟩:=css HX.o;have B:=zh (yT cb F res ks HL.o HF.o v vr w3 5 num pos text s n c (M.o.below (by rw [A.o.1];exact HB.o)) (P.o.keep (Stays.of_below (by rw [A.o.1];exact HB.o))));generalize jB F v text ks pos=q at *;obtain ⟨qt,qe,qa⟩:=q;unfold bM at B;dsimp only at B;go_wp2_with fail
  refine B.o.mono ?_;rintro e w4 ⟨rfl,G⟩;clear x0 x1 x2 x3 x4;have D:=HX;replace HX:=zh ((G.block _ (ae HX.o)).trans HX.o);replace HR:=zh ((G.block _ (ae HR.o)).trans HR.o);replace HB:=zh (HB.o.trans (G.mono (Nat.le_of_lt (ae D.o))));clear D;clear G;obtain ⟨r0,r1,-⟩:=css HR.o;obtain ⟨k0,k1,-⟩:=fzs HR.o;go_wp2_with fail
  refine bodyPost_ret (v:=.tuple #[.int .i64 qt,.agg #[.int .i64 qe,.int .i64 qa]]) (by simp [results,Tryz.results106,go_sem,r0,r1]) rfl ⟨by rw [HE.o];rfl,?_⟩;rw [A.o.1];exact ((HB.o.setCell (p:=⟨RB,0,none⟩) (Nat.le_of_lt A.o.2.1) _).setCell (p:=⟨RB,1,none⟩) (Nat.le_of_lt A.o.2.1) _)
 by_cases l:op=6
 ·have I:=l
  clear l;subst I;obtain rfl:kn=2:=by rw [←hk];decide
  clear hk;by_cases E:n=2
  ·subst E
   obtain ⟨a,b,rfl⟩:∃a b,ks=[a,b]:=by
    have h:=HN.o;match ks,h with
    | [a,b],_=>exact ⟨a,b,rfl⟩
   have HE:Hd (C=ir F v text [a,b] pos):=zh (HC.o.trans (BN F v num text [a,b] pos HN.o.symm));obtain ⟨x0,x1,x2,x3,x4,-⟩:=css HX.o;have B:=zh (zR cb F res a b (HL.o a (by simp)) (HL.o b (by simp)) v vr w3 6 num pos text s 2 c (M.o.below (by rw [A.o.1];exact HB.o)) (P.o.keep (Stays.of_below (by rw [A.o.1];exact HB.o))));generalize ir F v text [a,b] pos=q at *;obtain ⟨qt,qe,qa⟩:=q;unfold bM at B;dsimp only at B;go_wp2_with fail
   refine B.o.mono ?_;rintro e w4 ⟨rfl,G⟩;clear x0 x1 x2 x3 x4;have D:=HX;replace HX:=zh ((G.block _ (ae HX.o)).trans HX.o);replace HR:=zh ((G.block _ (ae HR.o)).trans HR.o);replace HB:=zh (HB.o.trans (G.mono (Nat.le_of_lt (ae D.o))));clear D;clear G;obtain ⟨r0,r1,-⟩:=css HR.o;obtain ⟨k0,k1,-⟩:=fzs HR.o;go_wp2_with fail
   refine bodyPost_ret (v:=.tuple #[.int .i64 qt,.agg #[.int .i64 qe,.int .i64 qa]]) (by simp [results,Tryz.results106,go_sem,r0,r1]) rfl ⟨by rw [HE.o];rfl,?_⟩;rw [A.o.1];exact ((HB.o.setCell (p:=⟨RB,0,none⟩) (Nat.le_of_lt A.o.2.1) _).setCell (p:=⟨RB,1,none⟩) (Nat.le_of_lt A.o.2.1) _)
  ·have g1:¬((2:Int)=(n:Int)):=by omega
   have HE:Hd (C=(0,(51,pos))):=zh (HC.o.trans (gF F v _ num text ks pos (.inr ⟨by decide,by rw [←HN.o];show ¬((2:Int)=(n:Int));omega⟩)));obtain ⟨x0,-,-,x3,-⟩:=css HX.o;obtain ⟨r0,r1,-⟩:=css HR.o;obtain ⟨k0,k1,-⟩:=fzs HR.o;obtain ⟨f0,f1,-⟩:=css HW.o;go_upto_region 4 with fail
   go_region
   go_wp2_with fail
   refine bodyPost_ret (v:=.tuple #[.int .i64 0,.agg #[.int .i64 51,.int .i64 pos]]) (by simp [results,Tryz.results106,go_sem,r0,r1]) rfl ⟨by rw [HE.o];rfl,?_⟩;rw [A.o.1];exact ((HB.o.setCell (p:=⟨RB,0,none⟩) (Nat.le_of_lt A.o.2.1) _).setCell (p:=⟨RB,1,none⟩) (Nat.le_of_lt A.o.2.1) _).drew
 by_cases k:op=7
 ·have I:=k
  clear k;subst I;obtain rfl:kn=1:=by rw [←hk];decide
  clear hk;by_cases E:n=1
  ·subst E
   by_cases h1:text.toList=[45]
   ·have HE:Hd (C=(1,cY F v ks [1])):=zh (HC.o.trans (Bj F v num text ks pos HN.o.symm h1))
    have Y:(text.toList==[45])=true:=by simp [h1]
    obtain ⟨x0,-,x2,x3,-⟩:=css HX.o
    have L:Hd (TysAt (w3.alloc (.cells #[.int .i64 1] 38)) (.slice (some ⟨w3.heap.size,0,none⟩) 1 1) [1]):=zh ⟨_,1,rfl,by show (1:Nat)≤1000000;decide,fun _=>⟨_,0,rfl,by rw [ah];exact Nat.lt_succ_self _,fun i hi=>by
      have R:i<1:=hi;obtain rfl:i=0:=by omega
      exact aw _ _ _ _ _ _ rfl rfl⟩⟩
    have H:=ag (Below.refl w3.heap.size w3) (.cells #[.int .i64 1] 38);have D:=HX;replace HX:=zh ((H.block _ (ae HX.o)).trans HX.o);replace HR:=zh ((H.block _ (ae HR.o)).trans HR.o);replace HB:=zh (HB.o.trans (H.mono (Nat.le_of_lt (ae D.o))));clear D;clear H;have B:=zh (ie cb F res ks HL.o v vr _ (.slice s 1 c) _ [1] (M.o.below (by rw [A.o.1];exact HB.o)) (Q.o.keep (Stays.of_below (by rw [A.o.1];exact HB.o))) L.o (Nat.le_of_eq HN.o.symm));generalize cY F v ks [1]=q at *;obtain ⟨qe,qa⟩:=q;unfold bM at B;dsimp only at B;go_wp2_with fail
    refine B.o.mono ?_;rintro e w4 ⟨rfl,G⟩;clear x0 x2 x3;have D:=HX;replace HX:=zh ((G.block _ (ae HX.o)).trans HX.o);replace HR:=zh ((G.block _ (ae HR.o)).trans HR.o);replace HB:=zh (HB.o.trans (G.mono (Nat.le_of_lt (ae D.o))));clear D;clear G;obtain ⟨r0,r1,-⟩:=css HR.o;obtain ⟨k0,k1,-⟩:=fzs HR.o;go_wp2_with fail
    refine bodyPost_ret (v:=.tuple #[.int .i64 1,.agg #[.int .i64 qe,.int .i64 qa]]) (by simp [results,Tryz.results106,go_sem,r0,r1]) rfl ⟨by rw [HE.o];rfl,?_⟩;rw [A.o.1];exact ((HB.o.setCell (p:=⟨RB,0,none⟩) (Nat.le_of_lt A.o.2.1) _).setCell (p:=⟨RB,1,none⟩) (Nat.le_of_lt A.o.2.1) _)
   ·by_cases h2:text.toList=[33]
    ·have HE:Hd (C=(2,cY F v ks [2])):=zh (HC.o.trans (Bo F v num text ks pos HN.o.symm h2))
     have Y:(text.toList==[45])=false:=by simp [h2]
     have h3:(text.toList==[33])=true:=by simp [h2]
     obtain ⟨x0,-,x2,x3,-⟩:=css HX.o
     have L:Hd (TysAt (w3.alloc (.cells #[.int .i64 2] 38)) (.slice (some ⟨w3.heap.size,0,none⟩) 1 1) [2]):=zh ⟨_,1,rfl,by show (1:Nat)≤1000000;decide,fun _=>⟨_,0,rfl,by rw [ah];exact Nat.lt_succ_self _,fun i hi=>by
      have R:i<1:=hi;obtain rfl:i=0:=by omega
      exact aw _ _ _ _ _ _ rfl rfl⟩⟩
     have H:=ag (Below.refl w3.heap.size w3) (.cells #[.int .i64 2] 38);have D:=HX;replace HX:=zh ((H.block _ (ae HX.o)).trans HX.o);replace HR:=zh ((H.block _ (ae HR.o)).trans HR.o);replace HB:=zh (HB.o.trans (H.mono (Nat.le_of_lt (ae D.o))));clear D;clear H;have B:=zh (ie cb F res ks HL.o v vr _ (.slice s 1 c) _ [2] (M.o.below (by rw [A.o.1];exact HB.o)) (Q.o.keep (Stays.of_below (by rw [A.o.1];exact HB.o))) L.o (Nat.le_of_eq HN.o.symm));generalize cY F v ks [2]=q at *;obtain ⟨qe,qa⟩:=q;unfold bM at B;dsimp only at B;go_wp2_with fail
     refine B.o.mono ?_;rintro e w4 ⟨rfl,G⟩;clear x0 x2 x3;have D:=HX;replace HX:=zh ((G.block _ (ae HX.o)).trans HX.o);replace HR:=zh ((G.block _ (ae HR.o)).trans HR.o);replace HB:=zh (HB.o.trans (G.mono (Nat.le_of_lt (ae D.o))));clear D;clear G;obtain ⟨r0,r1,-⟩:=css HR.o;obtain ⟨k0,k1,-⟩:=fzs HR.o;go_wp2_with fail
     refine bodyPost_ret (v:=.tuple #[.int .i64 2,.agg #[.int .i64 qe,.int .i64 qa]]) (by simp [results,Tryz.results106,go_sem,r0,r1]) rfl ⟨by rw [HE.o];rfl,?_⟩;rw [A.o.1];exact ((HB.o.setCell (p:=⟨RB,0,none⟩) (Nat.le_of_lt A.o.2.1) _).setCell (p:=⟨RB,1,none⟩) (Nat.le_of_lt A.o.2.1) _)
    ·have Y:(text.toList==[45])=false:=by simp [h1]
     have h3:(text.toList==[33])=false:=by simp [h2]
     have HE:Hd (C=(0,(51,pos))):=zh (HC.o.trans (AU F v num text ks pos HN.o.symm h1 h2));obtain ⟨x0,-,x2,x3,-⟩:=css HX.o;obtain ⟨r0,r1,-⟩:=css HR.o;obtain ⟨k0,k1,-⟩:=fzs HR.o;obtain ⟨f0,f1,-⟩:=css HW.o;go_upto_region 25 with fail
     go_region
     go_wp2_with fail
     refine bodyPost_ret (v:=.tuple #[.int .i64 0,.agg #[.int .i64 51,.int .i64 pos]]) (by simp [results,Tryz.results106,go_sem,r0,r1]) rfl ⟨by rw [HE.o];rfl,?_⟩;rw [A.o.1];exact ((HB.o.setCell (p:=⟨RB,0,none⟩) (Nat.le_of_lt A.o.2.1) _).setCell (p:=⟨RB,1,none⟩) (Nat.le_of_lt A.o.2.1) _).drew
  ·have g1:¬((1:Int)=(n:Int)):=by omega
   have HE:Hd (C=(0,(51,pos))):=zh (HC.o.trans (gF F v _ num text ks pos (.inr ⟨by decide,by rw [←HN.o];show ¬((1:Int)=(n:Int));omega⟩)));obtain ⟨x0,-,-,x3,-⟩:=css HX.o;obtain ⟨r0,r1,-⟩:=css HR.o;obtain ⟨k0,k1,-⟩:=fzs HR.o;obtain ⟨f0,f1,-⟩:=css HW.o;go_upto_region 4 with fail
   go_region
   go_wp2_with fail
   refine bodyPost_ret (v:=.tuple #[.int .i64 0,.agg #[.int .i64 51,.int .i64 pos]]) (by simp [results,Tryz.results106,go_sem,r0,r1]) rfl ⟨by rw [HE.o];rfl,?_⟩;rw [A.o.1];exact ((HB.o.setCell (p:=⟨RB,0,none⟩) (Nat.le_of_lt A.o.2.1) _).setCell (p:=⟨RB,1,none⟩) (Nat.le_of_lt A.o.2.1) _).drew
 by_cases g:op=8
 ·have I:=g
  clear g;subst I;obtain rfl:kn=1:=by rw [←hk];decide
  clear hk;by_cases E:n=1
  ·subst E
   have HE:Hd (C=(3,cY F v ks [3])):=zh (HC.o.trans (BK F v num text ks pos HN.o.symm));obtain ⟨x0,-,-,x3,-⟩:=css HX.o
   have L:Hd (TysAt (w3.alloc (.cells #[.int .i64 3] 38)) (.slice (some ⟨w3.heap.size,0,none⟩) 1 1) [3]):=zh ⟨_,1,rfl,by show (1:Nat)≤1000000;decide,fun _=>⟨_,0,rfl,by rw [ah];exact Nat.lt_succ_self _,fun i hi=>by
      have R:i<1:=hi;obtain rfl:i=0:=by omega
      exact aw _ _ _ _ _ _ rfl rfl⟩⟩
   have H:=ag (Below.refl w3.heap.size w3) (.cells #[.int .i64 3] 38);have D:=HX;replace HX:=zh ((H.block _ (ae HX.o)).trans HX.o);replace HR:=zh ((H.block _ (ae HR.o)).trans HR.o);replace HB:=zh (HB.o.trans (H.mono (Nat.le_of_lt (ae D.o))));clear D;clear H;have B:=zh (ie cb F res ks HL.o v vr _ (.slice s 1 c) _ [3] (M.o.below (by rw [A.o.1];exact HB.o)) (Q.o.keep (Stays.of_below (by rw [A.o.1];exact HB.o))) L.o (Nat.le_of_eq HN.o.symm));generalize cY F v ks [3]=q at *;obtain ⟨qe,qa⟩:=q;unfold bM at B;dsimp only at B;go_wp2_with fail
   refine B.o.mono ?_;rintro e w4 ⟨rfl,G⟩;clear x0 x3;have D:=HX;replace HX:=zh ((G.block _ (ae HX.o)).trans HX.o);replace HR:=zh ((G.block _ (ae HR.o)).trans HR.o);replace HB:=zh (HB.o.trans (G.mono (Nat.le_of_lt (ae D.o))));clear D;clear G;obtain ⟨r0,r1,-⟩:=css HR.o;obtain ⟨k0,k1,-⟩:=fzs HR.o;go_wp2_with fail
   refine bodyPost_ret (v:=.tuple #[.int .i64 3,.agg #[.int .i64 qe,.int .i64 qa]]) (by simp [results,Tryz.results106,go_sem,r0,r1]) rfl ⟨by rw [HE.o];rfl,?_⟩;rw [A.o.1];exact ((HB.o.setCell (p:=⟨RB,0,none⟩) (Nat.le_of_lt A.o.2.1) _).setCell (p:=⟨RB,1,none⟩) (Nat.le_of_lt A.o.2.1) _)
  ·have g1:¬((1:Int)=(n:Int)):=by omega
   have HE:Hd (C=(0,(51,pos))):=zh (HC.o.trans (gF F v _ num text ks pos (.inr ⟨by decide,by rw [←HN.o];show ¬((1:Int)=(n:Int));omega⟩)));obtain ⟨x0,-,-,x3,-⟩:=css HX.o;obtain ⟨r0,r1,-⟩:=css HR.o;obtain ⟨k0,k1,-⟩:=fzs HR.o;obtain ⟨f0,f1,-⟩:=css HW.o;go_upto_region 4 with fail
   go_region
   go_wp2_with fail
   refine bodyPost_ret (v:=.tuple #[.int .i64 0,.agg #[.int .i64 51,.int .i64 pos]]) (by simp [results,Tryz.results106,go_sem,r0,r1]) rfl ⟨by rw [HE.o];rfl,?_⟩;rw [A.o.1];exact ((HB.o.setCell (p:=⟨RB,0,none⟩) (Nat.le_of_lt A.o.2.1) _).setCell (p:=⟨RB,1,none⟩) (Nat.le_of_lt A.o.2.1) _).drew
 by_cases f:op=9
 ·have I:=f
  clear f;subst I;obtain rfl:kn=1:=by rw [←hk];decide
  clear hk;by_cases E:n=1
  ·subst E
   have HE:Hd (C=(2,cY F v ks [3])):=zh (HC.o.trans (BM F v num text ks pos HN.o.symm));obtain ⟨x0,-,-,x3,-⟩:=css HX.o
   have L:Hd (TysAt (w3.alloc (.cells #[.int .i64 3] 38)) (.slice (some ⟨w3.heap.size,0,none⟩) 1 1) [3]):=zh ⟨_,1,rfl,by show (1:Nat)≤1000000;decide,fun _=>⟨_,0,rfl,by rw [ah];exact Nat.lt_succ_self _,fun i hi=>by
      have R:i<1:=hi;obtain rfl:i=0:=by omega
      exact aw _ _ _ _ _ _ rfl rfl⟩⟩
   have H:=ag (Below.refl w3.heap.size w3) (.cells #[.int .i64 3] 38);have D:=HX;replace HX:=zh ((H.block _ (ae HX.o)).trans HX.o);replace HR:=zh ((H.block _ (ae HR.o)).trans HR.o);replace HB:=zh (HB.o.trans (H.mono (Nat.le_of_lt (ae D.o))));clear D;clear H;have B:=zh (ie cb F res ks HL.o v vr _ (.slice s 1 c) _ [3] (M.o.below (by rw [A.o.1];exact HB.o)) (Q.o.keep (Stays.of_below (by rw [A.o.1];exact HB.o))) L.o (Nat.le_of_eq HN.o.symm));generalize cY F v ks [3]=q at *;obtain ⟨qe,qa⟩:=q;unfold bM at B;dsimp only at B;go_wp2_with fail
   refine B.o.mono ?_;rintro e w4 ⟨rfl,G⟩;clear x0 x3;have D:=HX;replace HX:=zh ((G.block _ (ae HX.o)).trans HX.o);replace HR:=zh ((G.block _ (ae HR.o)).trans HR.o);replace HB:=zh (HB.o.trans (G.mono (Nat.le_of_lt (ae D.o))));clear D;clear G;obtain ⟨r0,r1,-⟩:=css HR.o;obtain ⟨k0,k1,-⟩:=fzs HR.o;go_wp2_with fail
   refine bodyPost_ret (v:=.tuple #[.int .i64 2,.agg #[.int .i64 qe,.int .i64 qa]]) (by simp [results,Tryz.results106,go_sem,r0,r1]) rfl ⟨by rw [HE.o];rfl,?_⟩;rw [A.o.1];exact ((HB.o.setCell (p:=⟨RB,0,none⟩) (Nat.le_of_lt A.o.2.1) _).setCell (p:=⟨RB,1,none⟩) (Nat.le_of_lt A.o.2.1) _)
  ·have g1:¬((1:Int)=(n:Int)):=by omega
   have HE:Hd (C=(0,(51,pos))):=zh (HC.o.trans (gF F v _ num text ks pos (.inr ⟨by decide,by rw [←HN.o];show ¬((1:Int)=(n:Int));omega⟩)));obtain ⟨x0,-,-,x3,-⟩:=css HX.o;obtain ⟨r0,r1,-⟩:=css HR.o;obtain ⟨k0,k1,-⟩:=fzs HR.o;obtain ⟨f0,f1,-⟩:=css HW.o;go_upto_region 4 with fail
   go_region
   go_wp2_with fail
   refine bodyPost_ret (v:=.tuple #[.int .i64 0,.agg #[.int .i64 51,.int .i64 pos]]) (by simp [results,Tryz.results106,go_sem,r0,r1]) rfl ⟨by rw [HE.o];rfl,?_⟩;rw [A.o.1];exact ((HB.o.setCell (p:=⟨RB,0,none⟩) (Nat.le_of_lt A.o.2.1) _).setCell (p:=⟨RB,1,none⟩) (Nat.le_of_lt A.o.2.1) _).drew
 by_cases O:op=10
 ·have I:=O
  clear O;subst I;obtain rfl:kn=1:=by rw [←hk];decide
  clear hk;by_cases E:n=1
  ·subst E
   have HE:Hd (C=(1,cY F v ks [3])):=zh (HC.o.trans (A6 F v num text ks pos HN.o.symm));obtain ⟨x0,-,-,x3,-⟩:=css HX.o
   have L:Hd (TysAt (w3.alloc (.cells #[.int .i64 3] 38)) (.slice (some ⟨w3.heap.size,0,none⟩) 1 1) [3]):=zh ⟨_,1,rfl,by show (1:Nat)≤1000000;decide,fun _=>⟨_,0,rfl,by rw [ah];exact Nat.lt_succ_self _,fun i hi=>by
      have R:i<1:=hi;obtain rfl:i=0:=by omega
      exact aw _ _ _ _ _ _ rfl rfl⟩⟩
   have H:=ag (Below.refl w3.heap.size w3) (.cells #[.int .i64 3] 38);have D:=HX;replace HX:=zh ((H.block _ (ae HX.o)).trans HX.o);replace HR:=zh ((H.block _ (ae HR.o)).trans HR.o);replace HB:=zh (HB.o.trans (H.mono (Nat.le_of_lt (ae D.o))));clear D;clear H;have B:=zh (ie cb F res ks HL.o v vr _ (.slice s 1 c) _ [3] (M.o.below (by rw [A.o.1];exact HB.o)) (Q.o.keep (Stays.of_below (by rw [A.o.1];exact HB.o))) L.o (Nat.le_of_eq HN.o.symm));generalize cY F v ks [3]=q at *;obtain ⟨qe,qa⟩:=q;unfold bM at B;dsimp only at B;go_wp2_with fail
   refine B.o.mono ?_;rintro e w4 ⟨rfl,G⟩;clear x0 x3;have D:=HX;replace HX:=zh ((G.block _ (ae HX.o)).trans HX.o);replace HR:=zh ((G.block _ (ae HR.o)).trans HR.o);replace HB:=zh (HB.o.trans (G.mono (Nat.le_of_lt (ae D.o))));clear D;clear G;obtain ⟨r0,r1,-⟩:=css HR.o;obtain ⟨k0,k1,-⟩:=fzs HR.o;go_wp2_with fail
   refine bodyPost_ret (v:=.tuple #[.int .i64 1,.agg #[.int .i64 qe,.int .i64 qa]]) (by simp [results,Tryz.results106,go_sem,r0,r1]) rfl ⟨by rw [HE.o];rfl,?_⟩;rw [A.o.1];exact ((HB.o.setCell (p:=⟨RB,0,none⟩) (Nat.le_of_lt A.o.2.1) _).setCell (p:=⟨RB,1,none⟩) (Nat.le_of_lt A.o.2.1) _)
  ·have g1:¬((1:Int)=(n:Int)):=by omega
   have HE:Hd (C=(0,(51,pos))):=zh (HC.o.trans (gF F v _ num text ks pos (.inr ⟨by decide,by rw [←HN.o];show ¬((1:Int)=(n:Int));omega⟩)));obtain ⟨x0,-,-,x3,-⟩:=css HX.o;obtain ⟨r0,r1,-⟩:=css HR.o;obtain ⟨k0,k1,-⟩:=fzs HR.o;obtain ⟨f0,f1,-⟩:=css HW.o;go_upto_region 4 with fail
   go_region
   go_wp2_with fail
   refine bodyPost_ret (v:=.tuple #[.int .i64 0,.agg #[.int .i64 51,.int .i64 pos]]) (by simp [results,Tryz.results106,go_sem,r0,r1]) rfl ⟨by rw [HE.o];rfl,?_⟩;rw [A.o.1];exact ((HB.o.setCell (p:=⟨RB,0,none⟩) (Nat.le_of_lt A.o.2.1) _).setCell (p:=⟨RB,1,none⟩) (Nat.le_of_lt A.o.2.1) _).drew
 obtain rfl:kn=-2:=by rw [←hk];unfold cw;simp_all
 have HE:Hd (C=(0,(51,pos))):=zh (HC.o.trans (gF F v _ num text ks pos (.inl hk)));obtain ⟨x0,-,-,x3,-⟩:=css HX.o;obtain ⟨r0,r1,-⟩:=css HR.o;obtain ⟨k0,k1,-⟩:=fzs HR.o;obtain ⟨f0,f1,-⟩:=css HW.o;go_upto_region 4 with fail
 go_region
 go_wp2_with fail
 refine bodyPost_ret (v:=.tuple #[.int .i64 0,.agg #[.int .i64 51,.int .i64 pos]]) (by simp [results,Tryz.results106,go_sem,r0,r1]) rfl ⟨by rw [HE.o];rfl,?_⟩;rw [A.o.1];exact ((HB.o.setCell (p:=⟨RB,0,none⟩) (Nat.le_of_lt A.o.2.1) _).setCell (p:=⟨RB,1,none⟩) (Nat.le_of_lt A.o.2.1) _).drew
theorem tR (cb:Nat) (F:aO) (res:Int) (hF:∀p,p∈F→p.2.params.length≤100000):∀x,jO cb F res x
 | .mk op num text ks pos=>uk cb F res hF op num text ks pos (fun x hx=>by
     have:=List.sizeOf_lt_of_mem hx;exact tR cb F res hF x)
termination_by x=>SizeOf.sizeOf x
decreasing_by simp_wf;omega
end
end Go.Proofs.YtmlgbkomdhcaoaaGreatDoor
