/-
  EvalSigns: part 33 of its proof: see the last text.
-/
import Derived.Test.YthgcpfkochikfaaGreatPs32
set_option maxRecDepth 100000
set_option maxHeartbeats 16000000
namespace Go.Proofs.YthgcpfkochikfaaGreat
section
open Go.RowKit
theorem gH (F:aU) (v:bw) (op num:Int) (text:ByteArray) (ks:List Ex) (pos:Int) (h:cg op=-2∨(0≤cg op∧cg op≠ks.length)):aM F v (.mk op num text ks pos)=(0,(51,pos)):=by
 rw [aM,if_pos h]
theorem D6 (F:aU) (v:bw) (num:Int) (text:ByteArray) (ks:List Ex) (pos:Int) (h:ks.length=0):aM F v (.mk 1 num text ks pos)=(1,okF):=by rw [aM];simp [cg,h]
theorem DT (F:aU) (v:bw) (num:Int) (text:ByteArray) (ks:List Ex) (pos:Int) (h:ks.length=0):aM F v (.mk 2 num text ks pos)=(2,okF):=by rw [aM];simp [cg,h]
theorem D5 (F:aU) (v:bw) (num:Int) (text:ByteArray) (ks:List Ex) (pos:Int) (h:ks.length=0):aM F v (.mk 3 num text ks pos)=(3,okF):=by rw [aM];simp [cg,h]
theorem D4 (F:aU) (v:bw) (num:Int) (text:ByteArray) (ks:List Ex) (pos:Int) (h:ks.length=0):aM F v (.mk 4 num text ks pos)=(((aL v text).getD (0,false)).1,noC (aL v text).isSome 52 pos):=by rw [aM];simp [cg,h]
theorem DY (F:aU) (v:bw) (num:Int) (text:ByteArray) (ks:List Ex) (pos:Int):aM F v (.mk 5 num text ks pos)=jP F v text ks pos:=by rw [aM];unfold jP;simp [cg];cases aL F text<;>rfl
theorem DX (F:aU) (v:bw) (num:Int) (text:ByteArray) (ks:List Ex) (pos:Int) (h:ks.length=2):aM F v (.mk 6 num text ks pos)=ij F v text ks pos:=by rw [aM];unfold ij;simp [cg,h]
theorem Dw (F:aU) (v:bw) (num:Int) (text:ByteArray) (ks:List Ex) (pos:Int) (h:ks.length=1) (h1:text.toList=[45]):aM F v (.mk 7 num text ks pos)=(1,cL F v ks [1]):=by rw [aM];simp [cg,h,h1]
theorem DB (F:aU) (v:bw) (num:Int) (text:ByteArray) (ks:List Ex) (pos:Int) (h:ks.length=1) (h1:text.toList=[33]):aM F v (.mk 7 num text ks pos)=(2,cL F v ks [2]):=by rw [aM];simp [cg,h,h1]
theorem Dh (F:aU) (v:bw) (num:Int) (text:ByteArray) (ks:List Ex) (pos:Int) (h:ks.length=1) (h1:¬text.toList=[45]) (h2:¬text.toList=[33]):aM F v (.mk 7 num text ks pos)=(0,(51,pos)):=by rw [aM];simp [cg,h,h1,h2]
theorem DU (F:aU) (v:bw) (num:Int) (text:ByteArray) (ks:List Ex) (pos:Int) (h:ks.length=1):aM F v (.mk 8 num text ks pos)=(3,cL F v ks [3]):=by rw [aM];simp [cg,h]
theorem D1 (F:aU) (v:bw) (num:Int) (text:ByteArray) (ks:List Ex) (pos:Int) (h:ks.length=1):aM F v (.mk 9 num text ks pos)=(2,cL F v ks [3]):=by rw [aM];simp [cg,h]
theorem DC (F:aU) (v:bw) (num:Int) (text:ByteArray) (ks:List Ex) (pos:Int) (h:ks.length=1):aM F v (.mk 10 num text ks pos)=(1,cL F v ks [3]):=by rw [aM];simp [cg,h]
theorem wH (cb:Nat) (F:aU) (L:Int) (hF:∀p,p∈F→p.2.params.length≤100000) (op num:Int) (text:ByteArray) (ks:List Ex) (pos:Int) (hl:∀x,x∈ks→kg cb F L x):kg cb F L (.mk op num text ks pos):=by
 intro v vr w op num' pos' text' s n c h hr;obtain ⟨ks2,e,hn,d⟩:=cf hr;injection e with e0 e1 e2 e3 e4
 subst e0 e1 e2 e3 e4;have HN:=zh hn;have N:=zh h;have HL:=zh hl;have HF:=zh hF;have R:=zh d;have Q:=zh hr;generalize hC:aM F v (.mk op num text ks pos)=C;have HC:=zh hC.symm;have HB:Hd (Below w.heap.size w ((w.alloc (.cells #[.int .i64 op,.int .i64 num,.string text,.slice s n c,.int .i64 pos] 178)).alloc (.cells #[.int .i64 0,.int .i64 0] 118))):=zh (ag (ag (Below.refl _ _) _) _);have HX:Hd (((w.alloc (.cells #[.int .i64 op,.int .i64 num,.string text,.slice s n c,.int .i64 pos] 178)).alloc (.cells #[.int .i64 0,.int .i64 0] 118)).heap[w.heap.size]?=some (.cells #[.int .i64 op,.int .i64 num,.string text,.slice s n c,.int .i64 pos] 178 (0,0))):=zh (ax _ _ _ _ (aj _ _ _ rfl));have HR:Hd (((w.alloc (.cells #[.int .i64 op,.int .i64 num,.string text,.slice s n c,.int .i64 pos] 178)).alloc (.cells #[.int .i64 0,.int .i64 0] 118)).heap[w.heap.size+1]?=some (.cells #[.int .i64 0,.int .i64 0] 118 (0,0))):=zh (aj _ _ _ (ah _ _));clear h hr hl hF d hn hC;go_enter Tryz.func131,Tryz.ntmps131
 go_upto_region 1 with fail
 generalize ((w.alloc (.cells #[.int .i64 op,.int .i64 num,.string text,.slice s n c,.int .i64 pos] 178)).alloc (.cells #[.int .i64 0,.int .i64 0] 118))=w1 at *;have A:Hd (w.heap.size<w.heap.size+1∧w.heap.size+1<w1.heap.size):=zh ⟨Nat.lt_succ_self _,af HR.o⟩;generalize h5:w.heap.size+1=RB at *;generalize hX:w.heap.size=X at *;replace A:Hd (w.heap.size=X∧X<RB∧RB<w1.heap.size):=zh ⟨hX,A.o.1,A.o.2⟩;clear h5 hX;have h8:¬RB=X:=by have:=A.o;omega
 have h3:¬X=RB:=by have:=A.o;omega
 have x4:w1.cell? ⟨X,4,none⟩=some (.int .i64 pos):=aa HX.o (j:=4) rfl;go_upto_region 2 with fail
 have U:=ag (Below.refl w1.heap.size w1) (.cells #[.int .i64 51,.int .i64 pos] 118);have HW:Hd ((w1.alloc (.cells #[.int .i64 51,.int .i64 pos] 118)).heap[w1.heap.size]?=some (.cells #[.int .i64 51,.int .i64 pos] 118 (0,0))):=zh (aj _ _ _ rfl);have h9:Hd (RB<w1.heap.size):=zh A.o.2.2;have D:=HX;replace HX:=zh ((U.block _ (af HX.o)).trans HX.o);replace HR:=zh ((U.block _ (af HR.o)).trans HR.o);replace HB:=zh (HB.o.trans (U.mono (Nat.le_of_lt (af D.o))));clear D;clear U x4;generalize (w1.alloc (.cells #[.int .i64 51,.int .i64 pos] 118))=w2 at *;generalize w1.heap.size=WB at *;obtain ⟨x0,x1,x2,x3,x4,-⟩:=css HX.o;go_upto_region 3 with (refine (yL op num pos text s n c _).mono ?_;rintro e w3 ⟨rfl,O⟩)
 replace HW:=zh ((O.block _ (af HW.o)).trans HW.o);have D:=HX;replace HX:=zh ((O.block _ (af HX.o)).trans HX.o);replace HR:=zh ((O.block _ (af HR.o)).trans HR.o);replace HB:=zh (HB.o.trans (O.mono (Nat.le_of_lt (af D.o))));clear D;clear O x0 x1 x2 x3 x4;generalize hk:cg op=kn at *;by_cases I:op=1
 ·subst I
  obtain rfl:kn=0:=by rw [←hk];decide
  clear hk;by_cases E:n=0
  ·subst E
   have HE:Hd (C=(1,okF)):=zh (HC.o.trans (D6 F v num text ks pos HN.o.symm));obtain ⟨x0,-,-,x3,-⟩:=css HX.o;obtain ⟨r0,r1,-⟩:=css HR.o;obtain ⟨k0,k1,-⟩:=fzs HR.o;go_wp2_with fail
   refine bodyPost_ret (v:=.tuple #[.int .i64 1,.agg #[.int .i64 0,.int .i64 0]]) (by simp [results,Tryz.results131,go_sem,r0,r1]) rfl ⟨by rw [HE.o];rfl,?_⟩;rw [A.o.1];exact ((HB.o.setCell (p:=⟨RB,0,none⟩) (Nat.le_of_lt A.o.2.1) _).setCell (p:=⟨RB,1,none⟩) (Nat.le_of_lt A.o.2.1) _)
  ·have g1:¬((0:Int)=(n:Int)):=by omega
   have HE:Hd (C=(0,(51,pos))):=zh (HC.o.trans (gH F v _ num text ks pos (.inr ⟨by decide,by rw [←HN.o];show ¬((0:Int)=(n:Int));omega⟩)));obtain ⟨x0,-,-,x3,-⟩:=css HX.o;obtain ⟨r0,r1,-⟩:=css HR.o;obtain ⟨k0,k1,-⟩:=fzs HR.o;obtain ⟨f0,f1,-⟩:=css HW.o;go_upto_region 4 with fail
   go_region
   go_wp2_with fail
   refine bodyPost_ret (v:=.tuple #[.int .i64 0,.agg #[.int .i64 51,.int .i64 pos]]) (by simp [results,Tryz.results131,go_sem,r0,r1]) rfl ⟨by rw [HE.o];rfl,?_⟩;rw [A.o.1];exact ((HB.o.setCell (p:=⟨RB,0,none⟩) (Nat.le_of_lt A.o.2.1) _).setCell (p:=⟨RB,1,none⟩) (Nat.le_of_lt A.o.2.1) _).drew
 by_cases y:op=2
 ·have I:=y
  clear y;subst I;obtain rfl:kn=0:=by rw [←hk];decide
  clear hk;by_cases E:n=0
  ·subst E
   have HE:Hd (C=(2,okF)):=zh (HC.o.trans (DT F v num text ks pos HN.o.symm));obtain ⟨x0,-,-,x3,-⟩:=css HX.o;obtain ⟨r0,r1,-⟩:=css HR.o;obtain ⟨k0,k1,-⟩:=fzs HR.o;go_wp2_with fail
   refine bodyPost_ret (v:=.tuple #[.int .i64 2,.agg #[.int .i64 0,.int .i64 0]]) (by simp [results,Tryz.results131,go_sem,r0,r1]) rfl ⟨by rw [HE.o];rfl,?_⟩;rw [A.o.1];exact ((HB.o.setCell (p:=⟨RB,0,none⟩) (Nat.le_of_lt A.o.2.1) _).setCell (p:=⟨RB,1,none⟩) (Nat.le_of_lt A.o.2.1) _)
  ·have g1:¬((0:Int)=(n:Int)):=by omega
   have HE:Hd (C=(0,(51,pos))):=zh (HC.o.trans (gH F v _ num text ks pos (.inr ⟨by decide,by rw [←HN.o];show ¬((0:Int)=(n:Int));omega⟩)));obtain ⟨x0,-,-,x3,-⟩:=css HX.o;obtain ⟨r0,r1,-⟩:=css HR.o;obtain ⟨k0,k1,-⟩:=fzs HR.o;obtain ⟨f0,f1,-⟩:=css HW.o;go_upto_region 4 with fail
   go_region
   go_wp2_with fail
   refine bodyPost_ret (v:=.tuple #[.int .i64 0,.agg #[.int .i64 51,.int .i64 pos]]) (by simp [results,Tryz.results131,go_sem,r0,r1]) rfl ⟨by rw [HE.o];rfl,?_⟩;rw [A.o.1];exact ((HB.o.setCell (p:=⟨RB,0,none⟩) (Nat.le_of_lt A.o.2.1) _).setCell (p:=⟨RB,1,none⟩) (Nat.le_of_lt A.o.2.1) _).drew
 by_cases u:op=3
 ·have I:=u
  clear u;subst I;obtain rfl:kn=0:=by rw [←hk];decide
  clear hk;by_cases E:n=0
  ·subst E
   have HE:Hd (C=(3,okF)):=zh (HC.o.trans (D5 F v num text ks pos HN.o.symm));obtain ⟨x0,-,-,x3,-⟩:=css HX.o;obtain ⟨r0,r1,-⟩:=css HR.o;obtain ⟨k0,k1,-⟩:=fzs HR.o;go_wp2_with fail
   refine bodyPost_ret (v:=.tuple #[.int .i64 3,.agg #[.int .i64 0,.int .i64 0]]) (by simp [results,Tryz.results131,go_sem,r0,r1]) rfl ⟨by rw [HE.o];rfl,?_⟩;rw [A.o.1];exact ((HB.o.setCell (p:=⟨RB,0,none⟩) (Nat.le_of_lt A.o.2.1) _).setCell (p:=⟨RB,1,none⟩) (Nat.le_of_lt A.o.2.1) _)
  ·have g1:¬((0:Int)=(n:Int)):=by omega
   have HE:Hd (C=(0,(51,pos))):=zh (HC.o.trans (gH F v _ num text ks pos (.inr ⟨by decide,by rw [←HN.o];show ¬((0:Int)=(n:Int));omega⟩)));obtain ⟨x0,-,-,x3,-⟩:=css HX.o;obtain ⟨r0,r1,-⟩:=css HR.o;obtain ⟨k0,k1,-⟩:=fzs HR.o;obtain ⟨f0,f1,-⟩:=css HW.o;go_upto_region 4 with fail
   go_region
   go_wp2_with fail
   refine bodyPost_ret (v:=.tuple #[.int .i64 0,.agg #[.int .i64 51,.int .i64 pos]]) (by simp [results,Tryz.results131,go_sem,r0,r1]) rfl ⟨by rw [HE.o];rfl,?_⟩;rw [A.o.1];exact ((HB.o.setCell (p:=⟨RB,0,none⟩) (Nat.le_of_lt A.o.2.1) _).setCell (p:=⟨RB,1,none⟩) (Nat.le_of_lt A.o.2.1) _).drew
 by_cases t:op=4
 ·have I:=t
  clear t;subst I;obtain rfl:kn=0:=by rw [←hk];decide
  clear hk;by_cases E:n=0
  ·subst E
   have h0:=zh (HC.o.trans (D4 F v num text ks pos HN.o.symm));obtain ⟨x0,-,x2,x3,-⟩:=css HX.o;have W:=jL (N.o.below (by rw [A.o.1];exact HB.o)).view text;have Y:=zh (cZ (aL v text).isSome 52 pos);generalize (aL v text).getD (0,false)=nm at *;generalize (aL v text).isSome=is at *;obtain ⟨nt,nf⟩:=nm;unfold nmV at W;dsimp only at W h0;generalize noC is 52 pos=q at *;obtain ⟨qe,qa⟩:=q;unfold bH at Y;dsimp only at Y;go_upto_region 14 with fail
   have z:Hd ((w3.alloc (.cells #[.int .i64 nt,.bool nf] 169)).heap[w3.heap.size]?=some (.cells #[.int .i64 nt,.bool nf] 169 (0,0))):=zh (aj _ _ _ rfl);have H:=ag (Below.refl w3.heap.size w3) (.cells #[.int .i64 nt,.bool nf] 169);have D:=HX;replace HX:=zh ((H.block _ (af HX.o)).trans HX.o);replace HR:=zh ((H.block _ (af HR.o)).trans HR.o);replace HB:=zh (HB.o.trans (H.mono (Nat.le_of_lt (af D.o))));clear D;clear H x0 x2 x3 W;generalize (w3.alloc (.cells #[.int .i64 nt,.bool nf] 169))=w4 at *;generalize w3.heap.size=NB at *;have V:Hd (w4.drew.cell? ⟨NB,0,none⟩=some (.int .i64 nt)∧w4.drew.cell? ⟨X,4,none⟩=some (.int .i64 pos)):=zh ⟨aa z.o (j:=0) rfl,aa HX.o (j:=4) rfl⟩;have h7:=V.o;refine ay (S:=(fun w':World=>w'.cell? ⟨NB,0,none⟩=some (.int .i64 nt)∧w'.cell? ⟨X,4,none⟩=some (.int .i64 pos))) 6 (by kernel_rfl) (by kernel_rfl) (by exact V.o) (fun hH=>?_);simp only [List.take_succ_cons,List.take_zero,List.drop_succ_cons,List.drop_zero]
   refine tkA 0 ?_;refine tkA 1 ?_;refine tkA 2 ?_;refine tkA 3 ?_;refine tkA 4 ?_;refine rd1 5 fun K hK=>?_;go_simp;go_at_call 83
   refine (Y.o _).mono ?_;rintro e w5 ⟨rfl,f⟩;have J:Below w4.heap.size w4 w5:=am (aw (Below.refl _ _)) f;have h6:Hd (w5.cell? ⟨NB,0,none⟩=some (.int .i64 nt)∧w5.cell? ⟨X,4,none⟩=some (.int .i64 pos)):=zh ⟨(J.cell (p:=⟨NB,0,none⟩) (af z.o)).trans V.o.1,(J.cell (p:=⟨X,4,none⟩) (af HX.o)).trans V.o.2⟩;have D:=HX;replace HX:=zh ((J.block _ (af HX.o)).trans HX.o);replace HR:=zh ((J.block _ (af HR.o)).trans HR.o);replace HB:=zh (HB.o.trans (J.mono (Nat.le_of_lt (af D.o))));clear D;clear f J;go_simp;refine hK.out _ _ ?_ (fun hH=>?_)
   ·(try dsimp only)
    exact h6.o
   clear hK K;try go_simp
   refine wpAnyH_done (by kernel_rfl) ?_ _;dsimp only [aP];obtain ⟨r0,r1,-⟩:=css HR.o;obtain ⟨k0,k1,-⟩:=fzs HR.o;have HE:=zh h0.o;go_wp2_with fail
   refine bodyPost_ret (v:=.tuple #[.int .i64 nt,.agg #[.int .i64 qe,.int .i64 qa]]) (by simp [results,Tryz.results131,go_sem,r0,r1]) rfl ⟨by rw [HE.o];rfl,?_⟩;rw [A.o.1];exact ((HB.o.setCell (p:=⟨RB,0,none⟩) (Nat.le_of_lt A.o.2.1) _).setCell (p:=⟨RB,1,none⟩) (Nat.le_of_lt A.o.2.1) _)
  ·have g1:¬((0:Int)=(n:Int)):=by omega
   have HE:Hd (C=(0,(51,pos))):=zh (HC.o.trans (gH F v _ num text ks pos (.inr ⟨by decide,by rw [←HN.o];show ¬((0:Int)=(n:Int));omega⟩)));obtain ⟨x0,-,-,x3,-⟩:=css HX.o;obtain ⟨r0,r1,-⟩:=css HR.o;obtain ⟨k0,k1,-⟩:=fzs HR.o;obtain ⟨f0,f1,-⟩:=css HW.o;go_upto_region 4 with fail
   go_region
   go_wp2_with fail
   refine bodyPost_ret (v:=.tuple #[.int .i64 0,.agg #[.int .i64 51,.int .i64 pos]]) (by simp [results,Tryz.results131,go_sem,r0,r1]) rfl ⟨by rw [HE.o];rfl,?_⟩;rw [A.o.1];exact ((HB.o.setCell (p:=⟨RB,0,none⟩) (Nat.le_of_lt A.o.2.1) _).setCell (p:=⟨RB,1,none⟩) (Nat.le_of_lt A.o.2.1) _).drew
 by_cases r:op=5
 ·have I:=r
  clear r;subst I;obtain rfl:kn=-1:=by rw [←hk];decide
  clear hk;have HE:Hd (C=jP F v text ks pos):=zh (HC.o.trans (DY F v num text ks pos));obtain ⟨x0,x1,x2,x3,x4,-⟩:=css HX.o;have B:=zh (Aw cb F L ks HL.o HF.o v vr w3 5 num pos text s n c (N.o.below (by rw [A.o.1];exact HB.o)) (Q.o.keep (Stays.of_below (by rw [A.o.1];exact HB.o))));generalize jP F v text ks pos=q at *;obtain ⟨qt,qe,qa⟩:=q;unfold bH at B;dsimp only at B;go_wp2_with fail
  refine B.o.mono ?_;rintro e w4 ⟨rfl,G⟩;clear x0 x1 x2 x3 x4;have D:=HX;replace HX:=zh ((G.block _ (af HX.o)).trans HX.o);replace HR:=zh ((G.block _ (af HR.o)).trans HR.o);replace HB:=zh (HB.o.trans (G.mono (Nat.le_of_lt (af D.o))));clear D;clear G;obtain ⟨r0,r1,-⟩:=css HR.o;obtain ⟨k0,k1,-⟩:=fzs HR.o;go_wp2_with fail
  refine bodyPost_ret (v:=.tuple #[.int .i64 qt,.agg #[.int .i64 qe,.int .i64 qa]]) (by simp [results,Tryz.results131,go_sem,r0,r1]) rfl ⟨by rw [HE.o];rfl,?_⟩;rw [A.o.1];exact ((HB.o.setCell (p:=⟨RB,0,none⟩) (Nat.le_of_lt A.o.2.1) _).setCell (p:=⟨RB,1,none⟩) (Nat.le_of_lt A.o.2.1) _)
 by_cases m:op=6
 ·have I:=m
  clear m;subst I;obtain rfl:kn=2:=by rw [←hk];decide
  clear hk;by_cases E:n=2
  ·subst E
   obtain ⟨a,b,rfl⟩:∃a b,ks=[a,b]:=by
    have h:=HN.o;match ks,h with
    | [a,b],_=>exact ⟨a,b,rfl⟩
   have HE:Hd (C=ij F v text [a,b] pos):=zh (HC.o.trans (DX F v num text [a,b] pos HN.o.symm));obtain ⟨x0,x1,x2,x3,x4,-⟩:=css HX.o;have B:=zh (Ce cb F L a b (HL.o a (by simp)) (HL.o b (by simp)) v vr w3 6 num pos text s 2 c (N.o.below (by rw [A.o.1];exact HB.o)) (Q.o.keep (Stays.of_below (by rw [A.o.1];exact HB.o))));generalize ij F v text [a,b] pos=q at *;obtain ⟨qt,qe,qa⟩:=q;unfold bH at B;dsimp only at B;go_wp2_with fail
   refine B.o.mono ?_;rintro e w4 ⟨rfl,G⟩;clear x0 x1 x2 x3 x4;have D:=HX;replace HX:=zh ((G.block _ (af HX.o)).trans HX.o);replace HR:=zh ((G.block _ (af HR.o)).trans HR.o);replace HB:=zh (HB.o.trans (G.mono (Nat.le_of_lt (af D.o))));clear D;clear G;obtain ⟨r0,r1,-⟩:=css HR.o;obtain ⟨k0,k1,-⟩:=fzs HR.o;go_wp2_with fail
   refine bodyPost_ret (v:=.tuple #[.int .i64 qt,.agg #[.int .i64 qe,.int .i64 qa]]) (by simp [results,Tryz.results131,go_sem,r0,r1]) rfl ⟨by rw [HE.o];rfl,?_⟩;rw [A.o.1];exact ((HB.o.setCell (p:=⟨RB,0,none⟩) (Nat.le_of_lt A.o.2.1) _).setCell (p:=⟨RB,1,none⟩) (Nat.le_of_lt A.o.2.1) _)
  ·have g1:¬((2:Int)=(n:Int)):=by omega
   have HE:Hd (C=(0,(51,pos))):=zh (HC.o.trans (gH F v _ num text ks pos (.inr ⟨by decide,by rw [←HN.o];show ¬((2:Int)=(n:Int));omega⟩)));obtain ⟨x0,-,-,x3,-⟩:=css HX.o;obtain ⟨r0,r1,-⟩:=css HR.o;obtain ⟨k0,k1,-⟩:=fzs HR.o;obtain ⟨f0,f1,-⟩:=css HW.o;go_upto_region 4 with fail
   go_region
   go_wp2_with fail
   refine bodyPost_ret (v:=.tuple #[.int .i64 0,.agg #[.int .i64 51,.int .i64 pos]]) (by simp [results,Tryz.results131,go_sem,r0,r1]) rfl ⟨by rw [HE.o];rfl,?_⟩;rw [A.o.1];exact ((HB.o.setCell (p:=⟨RB,0,none⟩) (Nat.le_of_lt A.o.2.1) _).setCell (p:=⟨RB,1,none⟩) (Nat.le_of_lt A.o.2.1) _).drew
 by_cases l:op=7
 ·have I:=l
  clear l;subst I;obtain rfl:kn=1:=by rw [←hk];decide
  clear hk;by_cases E:n=1
  ·subst E
   by_cases h1:text.toList=[45]
   ·have HE:Hd (C=(1,cL F v ks [1])):=zh (HC.o.trans (Dw F v num text ks pos HN.o.symm h1))
    have Z:(text.toList==[45])=true:=by simp [h1]
    obtain ⟨x0,-,x2,x3,-⟩:=css HX.o
    have M:Hd (TysAt (w3.alloc (.cells #[.int .i64 1] 33)) (.slice (some ⟨w3.heap.size,0,none⟩) 1 1) [1]):=zh ⟨_,1,rfl,by show (1:Nat)≤1000000;decide,fun _=>⟨_,0,rfl,by rw [ah];exact Nat.lt_succ_self _,fun i hi=>by
      have T:i<1:=hi;obtain rfl:i=0:=by omega
      exact aA _ _ _ _ _ _ rfl rfl⟩⟩
    have H:=ag (Below.refl w3.heap.size w3) (.cells #[.int .i64 1] 33);have D:=HX;replace HX:=zh ((H.block _ (af HX.o)).trans HX.o);replace HR:=zh ((H.block _ (af HR.o)).trans HR.o);replace HB:=zh (HB.o.trans (H.mono (Nat.le_of_lt (af D.o))));clear D;clear H;have B:=zh (ii cb F L ks HL.o v vr _ (.slice s 1 c) _ [1] (N.o.below (by rw [A.o.1];exact HB.o)) (R.o.keep (Stays.of_below (by rw [A.o.1];exact HB.o))) M.o (Nat.le_of_eq HN.o.symm));generalize cL F v ks [1]=q at *;obtain ⟨qe,qa⟩:=q;unfold bH at B;dsimp only at B;go_wp2_with fail
    refine B.o.mono ?_;rintro e w4 ⟨rfl,G⟩;clear x0 x2 x3;have D:=HX;replace HX:=zh ((G.block _ (af HX.o)).trans HX.o);replace HR:=zh ((G.block _ (af HR.o)).trans HR.o);replace HB:=zh (HB.o.trans (G.mono (Nat.le_of_lt (af D.o))));clear D;clear G;obtain ⟨r0,r1,-⟩:=css HR.o;obtain ⟨k0,k1,-⟩:=fzs HR.o;go_wp2_with fail
    refine bodyPost_ret (v:=.tuple #[.int .i64 1,.agg #[.int .i64 qe,.int .i64 qa]]) (by simp [results,Tryz.results131,go_sem,r0,r1]) rfl ⟨by rw [HE.o];rfl,?_⟩;rw [A.o.1];exact ((HB.o.setCell (p:=⟨RB,0,none⟩) (Nat.le_of_lt A.o.2.1) _).setCell (p:=⟨RB,1,none⟩) (Nat.le_of_lt A.o.2.1) _)
   ·by_cases h2:text.toList=[33]
    ·have HE:Hd (C=(2,cL F v ks [2])):=zh (HC.o.trans (DB F v num text ks pos HN.o.symm h2))
     have Z:(text.toList==[45])=false:=by simp [h2]
     have h4:(text.toList==[33])=true:=by simp [h2]
     obtain ⟨x0,-,x2,x3,-⟩:=css HX.o
     have M:Hd (TysAt (w3.alloc (.cells #[.int .i64 2] 33)) (.slice (some ⟨w3.heap.size,0,none⟩) 1 1) [2]):=zh ⟨_,1,rfl,by show (1:Nat)≤1000000;decide,fun _=>⟨_,0,rfl,by rw [ah];exact Nat.lt_succ_self _,fun i hi=>by
      have T:i<1:=hi;obtain rfl:i=0:=by omega
      exact aA _ _ _ _ _ _ rfl rfl⟩⟩
     have H:=ag (Below.refl w3.heap.size w3) (.cells #[.int .i64 2] 33);have D:=HX;replace HX:=zh ((H.block _ (af HX.o)).trans HX.o);replace HR:=zh ((H.block _ (af HR.o)).trans HR.o);replace HB:=zh (HB.o.trans (H.mono (Nat.le_of_lt (af D.o))));clear D;clear H;have B:=zh (ii cb F L ks HL.o v vr _ (.slice s 1 c) _ [2] (N.o.below (by rw [A.o.1];exact HB.o)) (R.o.keep (Stays.of_below (by rw [A.o.1];exact HB.o))) M.o (Nat.le_of_eq HN.o.symm));generalize cL F v ks [2]=q at *;obtain ⟨qe,qa⟩:=q;unfold bH at B;dsimp only at B;go_wp2_with fail
     refine B.o.mono ?_;rintro e w4 ⟨rfl,G⟩;clear x0 x2 x3;have D:=HX;replace HX:=zh ((G.block _ (af HX.o)).trans HX.o);replace HR:=zh ((G.block _ (af HR.o)).trans HR.o);replace HB:=zh (HB.o.trans (G.mono (Nat.le_of_lt (af D.o))));clear D;clear G;obtain ⟨r0,r1,-⟩:=css HR.o;obtain ⟨k0,k1,-⟩:=fzs HR.o;go_wp2_with fail
     refine bodyPost_ret (v:=.tuple #[.int .i64 2,.agg #[.int .i64 qe,.int .i64 qa]]) (by simp [results,Tryz.results131,go_sem,r0,r1]) rfl ⟨by rw [HE.o];rfl,?_⟩;rw [A.o.1];exact ((HB.o.setCell (p:=⟨RB,0,none⟩) (Nat.le_of_lt A.o.2.1) _).setCell (p:=⟨RB,1,none⟩) (Nat.le_of_lt A.o.2.1) _)
    ·have Z:(text.toList==[45])=false:=by simp [h1]
     have h4:(text.toList==[33])=false:=by simp [h2]
     have HE:Hd (C=(0,(51,pos))):=zh (HC.o.trans (Dh F v num text ks pos HN.o.symm h1 h2));obtain ⟨x0,-,x2,x3,-⟩:=css HX.o;obtain ⟨r0,r1,-⟩:=css HR.o;obtain ⟨k0,k1,-⟩:=fzs HR.o;obtain ⟨f0,f1,-⟩:=css HW.o;go_upto_region 25 with fail
     go_region
     go_wp2_with fail
     refine bodyPost_ret (v:=.tuple #[.int .i64 0,.agg #[.int .i64 51,.int .i64 pos]]) (by simp [results,Tryz.results131,go_sem,r0,r1]) rfl ⟨by rw [HE.o];rfl,?_⟩;rw [A.o.1];exact ((HB.o.setCell (p:=⟨RB,0,none⟩) (Nat.le_of_lt A.o.2.1) _).setCell (p:=⟨RB,1,none⟩) (Nat.le_of_lt A.o.2.1) _).drew
  ·have g1:¬((1:Int)=(n:Int)):=by omega
   have HE:Hd (C=(0,(51,pos))):=zh (HC.o.trans (gH F v _ num text ks pos (.inr ⟨by decide,by rw [←HN.o];show ¬((1:Int)=(n:Int));omega⟩)));obtain ⟨x0,-,-,x3,-⟩:=css HX.o;obtain ⟨r0,r1,-⟩:=css HR.o;obtain ⟨k0,k1,-⟩:=fzs HR.o;obtain ⟨f0,f1,-⟩:=css HW.o;go_upto_region 4 with fail
   go_region
   go_wp2_with fail
   refine bodyPost_ret (v:=.tuple #[.int .i64 0,.agg #[.int .i64 51,.int .i64 pos]]) (by simp [results,Tryz.results131,go_sem,r0,r1]) rfl ⟨by rw [HE.o];rfl,?_⟩;rw [A.o.1];exact ((HB.o.setCell (p:=⟨RB,0,none⟩) (Nat.le_of_lt A.o.2.1) _).setCell (p:=⟨RB,1,none⟩) (Nat.le_of_lt A.o.2.1) _).drew
 by_cases k:op=8
 ·have I:=k
  clear k;subst I;obtain rfl:kn=1:=by rw [←hk];decide
  clear hk;by_cases E:n=1
  ·subst E
   have HE:Hd (C=(3,cL F v ks [3])):=zh (HC.o.trans (DU F v num text ks pos HN.o.symm));obtain ⟨x0,-,-,x3,-⟩:=css HX.o
   have M:Hd (TysAt (w3.alloc (.cells #[.int .i64 3] 33)) (.slice (some ⟨w3.heap.size,0,none⟩) 1 1) [3]):=zh ⟨_,1,rfl,by show (1:Nat)≤1000000;decide,fun _=>⟨_,0,rfl,by rw [ah];exact Nat.lt_succ_self _,fun i hi=>by
      have T:i<1:=hi;obtain rfl:i=0:=by omega
      exact aA _ _ _ _ _ _ rfl rfl⟩⟩
   have H:=ag (Below.refl w3.heap.size w3) (.cells #[.int .i64 3] 33);have D:=HX;replace HX:=zh ((H.block _ (af HX.o)).trans HX.o);replace HR:=zh ((H.block _ (af HR.o)).trans HR.o);replace HB:=zh (HB.o.trans (H.mono (Nat.le_of_lt (af D.o))));clear D;clear H;have B:=zh (ii cb F L ks HL.o v vr _ (.slice s 1 c) _ [3] (N.o.below (by rw [A.o.1];exact HB.o)) (R.o.keep (Stays.of_below (by rw [A.o.1];exact HB.o))) M.o (Nat.le_of_eq HN.o.symm));generalize cL F v ks [3]=q at *;obtain ⟨qe,qa⟩:=q;unfold bH at B;dsimp only at B;go_wp2_with fail
   refine B.o.mono ?_;rintro e w4 ⟨rfl,G⟩;clear x0 x3;have D:=HX;replace HX:=zh ((G.block _ (af HX.o)).trans HX.o);replace HR:=zh ((G.block _ (af HR.o)).trans HR.o);replace HB:=zh (HB.o.trans (G.mono (Nat.le_of_lt (af D.o))));clear D;clear G;obtain ⟨r0,r1,-⟩:=css HR.o;obtain ⟨k0,k1,-⟩:=fzs HR.o;go_wp2_with fail
   refine bodyPost_ret (v:=.tuple #[.int .i64 3,.agg #[.int .i64 qe,.int .i64 qa]]) (by simp [results,Tryz.results131,go_sem,r0,r1]) rfl ⟨by rw [HE.o];rfl,?_⟩;rw [A.o.1];exact ((HB.o.setCell (p:=⟨RB,0,none⟩) (Nat.le_of_lt A.o.2.1) _).setCell (p:=⟨RB,1,none⟩) (Nat.le_of_lt A.o.2.1) _)
  ·have g1:¬((1:Int)=(n:Int)):=by omega
   have HE:Hd (C=(0,(51,pos))):=zh (HC.o.trans (gH F v _ num text ks pos (.inr ⟨by decide,by rw [←HN.o];show ¬((1:Int)=(n:Int));omega⟩)));obtain ⟨x0,-,-,x3,-⟩:=css HX.o;obtain ⟨r0,r1,-⟩:=css HR.o;obtain ⟨k0,k1,-⟩:=fzs HR.o;obtain ⟨f0,f1,-⟩:=css HW.o;go_upto_region 4 with fail
   go_region
   go_wp2_with fail
   refine bodyPost_ret (v:=.tuple #[.int .i64 0,.agg #[.int .i64 51,.int .i64 pos]]) (by simp [results,Tryz.results131,go_sem,r0,r1]) rfl ⟨by rw [HE.o];rfl,?_⟩;rw [A.o.1];exact ((HB.o.setCell (p:=⟨RB,0,none⟩) (Nat.le_of_lt A.o.2.1) _).setCell (p:=⟨RB,1,none⟩) (Nat.le_of_lt A.o.2.1) _).drew
 by_cases g:op=9
 ·have I:=g
  clear g;subst I;obtain rfl:kn=1:=by rw [←hk];decide
  clear hk;by_cases E:n=1
  ·subst E
   have HE:Hd (C=(2,cL F v ks [3])):=zh (HC.o.trans (D1 F v num text ks pos HN.o.symm));obtain ⟨x0,-,-,x3,-⟩:=css HX.o
   have M:Hd (TysAt (w3.alloc (.cells #[.int .i64 3] 33)) (.slice (some ⟨w3.heap.size,0,none⟩) 1 1) [3]):=zh ⟨_,1,rfl,by show (1:Nat)≤1000000;decide,fun _=>⟨_,0,rfl,by rw [ah];exact Nat.lt_succ_self _,fun i hi=>by
      have T:i<1:=hi;obtain rfl:i=0:=by omega
      exact aA _ _ _ _ _ _ rfl rfl⟩⟩
   have H:=ag (Below.refl w3.heap.size w3) (.cells #[.int .i64 3] 33);have D:=HX;replace HX:=zh ((H.block _ (af HX.o)).trans HX.o);replace HR:=zh ((H.block _ (af HR.o)).trans HR.o);replace HB:=zh (HB.o.trans (H.mono (Nat.le_of_lt (af D.o))));clear D;clear H;have B:=zh (ii cb F L ks HL.o v vr _ (.slice s 1 c) _ [3] (N.o.below (by rw [A.o.1];exact HB.o)) (R.o.keep (Stays.of_below (by rw [A.o.1];exact HB.o))) M.o (Nat.le_of_eq HN.o.symm));generalize cL F v ks [3]=q at *;obtain ⟨qe,qa⟩:=q;unfold bH at B;dsimp only at B;go_wp2_with fail
   refine B.o.mono ?_;rintro e w4 ⟨rfl,G⟩;clear x0 x3;have D:=HX;replace HX:=zh ((G.block _ (af HX.o)).trans HX.o);replace HR:=zh ((G.block _ (af HR.o)).trans HR.o);replace HB:=zh (HB.o.trans (G.mono (Nat.le_of_lt (af D.o))));clear D;clear G;obtain ⟨r0,r1,-⟩:=css HR.o;obtain ⟨k0,k1,-⟩:=fzs HR.o;go_wp2_with fail
   refine bodyPost_ret (v:=.tuple #[.int .i64 2,.agg #[.int .i64 qe,.int .i64 qa]]) (by simp [results,Tryz.results131,go_sem,r0,r1]) rfl ⟨by rw [HE.o];rfl,?_⟩;rw [A.o.1];exact ((HB.o.setCell (p:=⟨RB,0,none⟩) (Nat.le_of_lt A.o.2.1) _).setCell (p:=⟨RB,1,none⟩) (Nat.le_of_lt A.o.2.1) _)
  ·have g1:¬((1:Int)=(n:Int)):=by omega
   have HE:Hd (C=(0,(51,pos))):=zh (HC.o.trans (gH F v _ num text ks pos (.inr ⟨by decide,by rw [←HN.o];show ¬((1:Int)=(n:Int));omega⟩)));obtain ⟨x0,-,-,x3,-⟩:=css HX.o;obtain ⟨r0,r1,-⟩:=css HR.o;obtain ⟨k0,k1,-⟩:=fzs HR.o;obtain ⟨f0,f1,-⟩:=css HW.o;go_upto_region 4 with fail
   go_region
   go_wp2_with fail
   refine bodyPost_ret (v:=.tuple #[.int .i64 0,.agg #[.int .i64 51,.int .i64 pos]]) (by simp [results,Tryz.results131,go_sem,r0,r1]) rfl ⟨by rw [HE.o];rfl,?_⟩;rw [A.o.1];exact ((HB.o.setCell (p:=⟨RB,0,none⟩) (Nat.le_of_lt A.o.2.1) _).setCell (p:=⟨RB,1,none⟩) (Nat.le_of_lt A.o.2.1) _).drew
 by_cases P:op=10
 ·have I:=P
  clear P;subst I;obtain rfl:kn=1:=by rw [←hk];decide
  clear hk;by_cases E:n=1
  ·subst E
   have HE:Hd (C=(1,cL F v ks [3])):=zh (HC.o.trans (DC F v num text ks pos HN.o.symm));obtain ⟨x0,-,-,x3,-⟩:=css HX.o
   have M:Hd (TysAt (w3.alloc (.cells #[.int .i64 3] 33)) (.slice (some ⟨w3.heap.size,0,none⟩) 1 1) [3]):=zh ⟨_,1,rfl,by show (1:Nat)≤1000000;decide,fun _=>⟨_,0,rfl,by rw [ah];exact Nat.lt_succ_self _,fun i hi=>by
      have T:i<1:=hi;obtain rfl:i=0:=by omega
      exact aA _ _ _ _ _ _ rfl rfl⟩⟩
   have H:=ag (Below.refl w3.heap.size w3) (.cells #[.int .i64 3] 33);have D:=HX;replace HX:=zh ((H.block _ (af HX.o)).trans HX.o);replace HR:=zh ((H.block _ (af HR.o)).trans HR.o);replace HB:=zh (HB.o.trans (H.mono (Nat.le_of_lt (af D.o))));clear D;clear H;have B:=zh (ii cb F L ks HL.o v vr _ (.slice s 1 c) _ [3] (N.o.below (by rw [A.o.1];exact HB.o)) (R.o.keep (Stays.of_below (by rw [A.o.1];exact HB.o))) M.o (Nat.le_of_eq HN.o.symm));generalize cL F v ks [3]=q at *;obtain ⟨qe,qa⟩:=q;unfold bH at B;dsimp only at B;go_wp2_with fail
   refine B.o.mono ?_;rintro e w4 ⟨rfl,G⟩;clear x0 x3;have D:=HX;replace HX:=zh ((G.block _ (af HX.o)).trans HX.o);replace HR:=zh ((G.block _ (af HR.o)).trans HR.o);replace HB:=zh (HB.o.trans (G.mono (Nat.le_of_lt (af D.o))));clear D;clear G;obtain ⟨r0,r1,-⟩:=css HR.o;obtain ⟨k0,k1,-⟩:=fzs HR.o;go_wp2_with fail
   refine bodyPost_ret (v:=.tuple #[.int .i64 1,.agg #[.int .i64 qe,.int .i64 qa]]) (by simp [results,Tryz.results131,go_sem,r0,r1]) rfl ⟨by rw [HE.o];rfl,?_⟩;rw [A.o.1];exact ((HB.o.setCell (p:=⟨RB,0,none⟩) (Nat.le_of_lt A.o.2.1) _).setCell (p:=⟨RB,1,none⟩) (Nat.le_of_lt A.o.2.1) _)
  ·have g1:¬((1:Int)=(n:Int)):=by omega
   have HE:Hd (C=(0,(51,pos))):=zh (HC.o.trans (gH F v _ num text ks pos (.inr ⟨by decide,by rw [←HN.o];show ¬((1:Int)=(n:Int));omega⟩)));obtain ⟨x0,-,-,x3,-⟩:=css HX.o;obtain ⟨r0,r1,-⟩:=css HR.o;obtain ⟨k0,k1,-⟩:=fzs HR.o;obtain ⟨f0,f1,-⟩:=css HW.o;go_upto_region 4 with fail
   go_region
   go_wp2_with fail
   refine bodyPost_ret (v:=.tuple #[.int .i64 0,.agg #[.int .i64 51,.int .i64 pos]]) (by simp [results,Tryz.results131,go_sem,r0,r1]) rfl ⟨by rw [HE.o];rfl,?_⟩;rw [A.o.1];exact ((HB.o.setCell (p:=⟨RB,0,none⟩) (Nat.le_of_lt A.o.2.1) _).setCell (p:=⟨RB,1,none⟩) (Nat.le_of_lt A.o.2.1) _).drew
 obtain rfl:kn=-2:=by rw [←hk];unfold cg;simp_all
 have HE:Hd (C=(0,(51,pos))):=zh (HC.o.trans (gH F v _ num text ks pos (.inl hk)));obtain ⟨x0,-,-,x3,-⟩:=css HX.o;obtain ⟨r0,r1,-⟩:=css HR.o;obtain ⟨k0,k1,-⟩:=fzs HR.o;obtain ⟨f0,f1,-⟩:=css HW.o;go_upto_region 4 with fail
 go_region
 go_wp2_with fail
 refine bodyPost_ret (v:=.tuple #[.int .i64 0,.agg #[.int .i64 51,.int .i64 pos]]) (by simp [results,Tryz.results131,go_sem,r0,r1]) rfl ⟨by rw [HE.o];rfl,?_⟩;rw [A.o.1];exact ((HB.o.setCell (p:=⟨RB,0,none⟩) (Nat.le_of_lt A.o.2.1) _).setCell (p:=⟨RB,1,none⟩) (Nat.le_of_lt A.o.2.1) _).drew
theorem ub (cb:Nat) (F:aU) (A:Int) (hF:∀p,p∈F→p.2.params.length≤100000):∀x,kg cb F A x
 | .mk op num text ks pos=>wH cb F A hF op num text ks pos (fun x hx=>by
     have:=List.sizeOf_lt_of_mem hx;exact ub cb F A hF x)
termination_by x=>SizeOf.sizeOf x
decreasing_by simp_wf;omega
end
end Go.Proofs.YthgcpfkochikfaaGreat
