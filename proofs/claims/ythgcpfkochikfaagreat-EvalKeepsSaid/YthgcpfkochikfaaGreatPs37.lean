/-
  EvalSigns: part 37 of its proof: see the last text.
-/
import Derived.Test.YthgcpfkochikfaaGreatPs36
set_option maxRecDepth 100000
set_option maxHeartbeats 16000000
namespace Go.Proofs.YthgcpfkochikfaaGreat
section
open Go.RowKit
structure BoxA (W:World) (cb vr CP SP VP RB:Nat) (cells:Array Value):Prop where
 c:W.heap[CP]?=some (.cells #[.pointer (some ⟨cb,0,none⟩)] 112 (0,0))
 s:W.heap[SP]?=some (.cells cells 134 (0,0))
 v:W.heap[VP]?=some (.cells #[.map (some vr)] 167 (0,0))
 r:W.heap[RB]?=some (.cells #[.int .i64 0,.int .i64 0] 118 (0,0))
theorem BoxA.below {W W':World} {cb vr CP SP VP RB:Nat} {A:Array Value} (h:BoxA W cb vr CP SP VP RB A) (hb:Below W.heap.size W W'):BoxA W' cb vr CP SP VP RB A:=
 ⟨(hb.block _ (af h.c)).trans h.c,(hb.block _ (af h.s)).trans h.s,(hb.block _ (af h.v)).trans h.v,(hb.block _ (af h.r)).trans h.r⟩
theorem BoxA.set {W:World} {cb vr CP SP VP RB:Nat} {A:Array Value} (h:BoxA W cb vr CP SP VP RB A) (FP j:Nat) (u:Value) (hn:CP≠FP∧SP≠FP∧VP≠FP∧RB≠FP):BoxA (W.setCell ⟨FP,j,none⟩ u) cb vr CP SP VP RB A:=
 ⟨(ak _ _ _ _ hn.1).trans h.c,(ak _ _ _ _ hn.2.1).trans h.s,(ak _ _ _ _ hn.2.2.1).trans h.v,(ak _ _ _ _ hn.2.2.2).trans h.r⟩
def S8 (VP vr CP cb SP xb A n1 c1:Nat) (D C:Int) (xt:ByteArray) (xs:Option Addr) (xn xc:Nat) (B:Int) (W:World):Prop:=
 W.cell? ⟨VP,0,none⟩=some (.map (some vr))∧W.cell? ⟨CP,0,none⟩=some (.pointer (some ⟨cb,0,none⟩))∧W.cell? ⟨SP,2,none⟩=some (.slice (some ⟨xb,A,none⟩) n1 c1)∧W.cell? ⟨xb,A,none⟩=some (.int .i64 D)∧W.cell? ⟨xb,A+1,none⟩=some (.int .i64 C)∧W.cell? ⟨xb,A+2,none⟩=some (.string xt)∧W.cell? ⟨xb,A+3,none⟩=some (.slice xs xn xc)∧W.cell? ⟨xb,A+4,none⟩=some (.int .i64 B)
theorem S8.below {VP vr CP cb SP xb B n1 c1:Nat} {D C:Int} {xt:ByteArray} {xs:Option Addr} {xn xc:Nat} {A:Int} {W W':World} (h:S8 VP vr CP cb SP xb B n1 c1 D C xt xs xn xc A W) (hb:Below W.heap.size W W'):S8 VP vr CP cb SP xb B n1 c1 D C xt xs xn xc A W':=by
 obtain ⟨a,b,c,d,e,f,g,h⟩:=h;exact ⟨(hb.cell (az a)).trans a,(hb.cell (az b)).trans b,(hb.cell (az c)).trans c,(hb.cell (az d)).trans d,(hb.cell (az e)).trans e,(hb.cell (az f)).trans f,(hb.cell (az g)).trans g,(hb.cell (az h)).trans h⟩
theorem shared {P:Prop} {G:Nat→Nat→World→Prop} (T:Nat→Nat→World→Prop) (h1:(∀a b w,T a b w→G a b w)→P) (h2:∀a b w,T a b w→G a b w):P:=h1 h2
theorem A3 {w:World} {x y z:Value} {f g h:Flt} (hx:FnTells w x f) (hy:FnTells w y g) (hz:FnTells w z h) (W:World) (hb:Below w.heap.size w W) (t:TypeId):yQ (W.alloc (.cells #[x,y,z] t)) (.slice (some ⟨W.heap.size,0,none⟩) 3 3) [f,g,h]:=by
 have A:Below w.heap.size w (W.alloc (.cells #[x,y,z] t)):=hb.trans ((ag (Below.refl W.heap.size W) _).mono hb.size);refine ⟨W.heap.size,0,3,rfl,by rw [ah];exact Nat.lt_succ_self _,by show (3:Nat)≤1000;decide,fun i hi=>?_⟩;have B:i<3:=hi;rw [Nat.zero_add];rcases (show i=0∨i=1∨i=2 by omega) with rfl | rfl | rfl
 ·exact ⟨x,aA _ _ _ _ _ _ rfl rfl,hx.below A⟩
 ·exact ⟨y,aA _ _ _ _ _ _ rfl rfl,hy.below A⟩
 ·exact ⟨z,aA _ _ _ _ _ _ rfl rfl,hz.below A⟩
theorem zM {w:World} {x y:Value} {f g:Flt} (hx:FnTells w x f) (hy:FnTells w y g) (W:World) (hb:Below w.heap.size w W) (t:TypeId):yQ (W.alloc (.cells #[x,y] t)) (.slice (some ⟨W.heap.size,0,none⟩) 2 2) [f,g]:=by
 have A:Below w.heap.size w (W.alloc (.cells #[x,y] t)):=hb.trans ((ag (Below.refl W.heap.size W) _).mono hb.size);refine ⟨W.heap.size,0,2,rfl,by rw [ah];exact Nat.lt_succ_self _,by show (2:Nat)≤1000;decide,fun i hi=>?_⟩;have B:i<2:=hi;rw [Nat.zero_add];rcases (show i=0∨i=1 by omega) with rfl | rfl
 ·exact ⟨x,aA _ _ _ _ _ _ rfl rfl,hx.below A⟩
 ·exact ⟨y,aA _ _ _ _ _ _ rfl rfl,hy.below A⟩
theorem nQ {h:Flt} (hc:h.1=0→h=okF):orF h okF=h:=by
 unfold orF;split
 ·rfl
 ·rename_i g
  exact (hc (by simpa using g)).symm
theorem lG (F:aU) (A:Int) (l:List St) (v:bw):(bF F A l v).1=0→bF F A l v=okF:=by
 induction l generalizing v with
 | nil=>intro _;rw [bF]
 | cons s l ih =>
  rw [bF];split
  ·rename_i g;intro h;exact absurd h g
  ·exact ih _
theorem BQ (F:aU) (A op:Int) (text:ByteArray) (es:List Ex) (body els:List St) (pos:Int) (v:bw) (h:dD (.mk op text es body els pos)=false):cS F A (.mk op text es body els pos) v=(v,(51,pos)):=by
 rw [cS,if_pos h]
theorem DV (F:aU) (A:Int) (text:ByteArray) (es:List Ex) (body els:List St) (pos:Int) (v:bw) (h:dD (.mk 3 text es body els pos)=true):cS F A (.mk 3 text es body els pos) v=(v,aR [eh F v (es.headD default) 2,bF F A body v,bF F A els v]):=by
 rw [cS,if_neg (by rw [h];simp)];unfold aR aR aR aR;rw [nQ (lG F A els v)];rfl
theorem ti (F:aU) (v:bw) (x:Ex) (t:Int):(eh F v x t).1=0→eh F v x t=okF:=by
 unfold eh lk;split
 ·rename_i g;intro h;exact absurd h g
 ·unfold noC
  split
  ·intro _;rfl
  ·intro h;exact absurd h (by simp)
theorem D3 (F:aU) (A:Int) (text:ByteArray) (es:List Ex) (body els:List St) (pos:Int) (v:bw) (is:Bool) (hi:(aL v text).isSome=is) (h:dD (.mk 4 text es body els pos)=true):cS F A (.mk 4 text es body els pos) v=(v,aR [cL F v es [1,1],noC (!is) 53 pos,bF F A body (bZ v text (1,true))]):=by
 rw [cS,if_neg (by rw [h];simp),hi];unfold aR aR aR aR;rw [nQ (lG F A body _)];rfl
theorem D0 (F:aU) (A:Int) (text:ByteArray) (es:List Ex) (body els:List St) (pos:Int) (v:bw) (is:Bool) (nt:Int) (nf:Bool) (hi:(aL v text).isSome=is) (hn:(aL v text).getD (0,false)=(nt,nf)) (h:dD (.mk 2 text es body els pos)=true):cS F A (.mk 2 text es body els pos) v=(v,aR [noC is 52 pos,noC (!nf) 51 pos,eh F v (es.headD default) nt]):=by
 rw [cS,if_neg (by rw [h];simp),hi,hn];unfold aR aR aR aR;rw [nQ (ti F v _ nt)];rfl
theorem jD (b:Bool) (e p:Int) (he:¬e=0):(noC b e p).1=0→noC b e p=okF:=by
 unfold noC;split
 ·intro _;rfl
 ·intro h;exact absurd h he
theorem DS (F:aU) (A:Int) (text:ByteArray) (es:List Ex) (body els:List St) (pos:Int) (v:bw) (h:dD (.mk 8 text es body els pos)=true):cS F A (.mk 8 text es body els pos) v=(v,aR [(aM F v (es.headD default)).2,noC ((es.headD default).op==5) 51 (es.headD default).pos]):=by
 rw [cS,if_neg (by rw [h];simp)];unfold aR aR aR;rw [nQ (jD _ _ _ (by decide))];rfl
theorem yC {op:Int} {n b o:Nat} (h:jX op n b o=true):n≤2:=by
 unfold jX at h;repeat' split at h
 all_goals (simp at h;try omega)
theorem zN (F:aU) (A op:Int) (text:ByteArray) (es:List Ex) (body els:List St) (pos:Int) (v:bw) (h1:¬op=1) (h2:¬op=2) (h3:¬op=3) (h4:¬op=4) (h5:¬op=5) (h8:¬op=8) (h:dD (.mk op text es body els pos)=true):cS F A (.mk op text es body els pos) v=(v,cL F v es [3,3]):=by
 rw [cS,if_neg (by rw [h];simp)];simp only [h1,h2,h3,h4,h5,h8,if_false]
theorem DL (F:aU) (A:Int) (text:ByteArray) (es:List Ex) (body els:List St) (pos:Int) (v:bw) (hl:es.length=0) (h:dD (.mk 5 text es body els pos)=true):cS F A (.mk 5 text es body els pos) v=(v,noC (A==0) 51 pos):=by
 rw [cS,if_neg (by rw [h];simp)];simp [hl]
theorem Dr (F:aU) (A:Int) (text:ByteArray) (es:List Ex) (body els:List St) (pos:Int) (v:bw) (hl:¬es.length=0) (h:dD (.mk 5 text es body els pos)=true):cS F A (.mk 5 text es body els pos) v=(v,aR [(aM F v (es.headD default)).2,noC ((aM F v (es.headD default)).1==A&&(aM F v (es.headD default)).1 !=0) 51 (es.headD default).pos]):=by
 rw [cS,if_neg (by rw [h];simp)];unfold aR aR aR;rw [nQ (jD _ _ _ (by decide))];simp [hl]
theorem DW (F:aU) (A:Int) (text:ByteArray) (es:List Ex) (body els:List St) (pos:Int) (v:bw) (is:Bool) (hi:(aL v text).isSome=is) (h:dD (.mk 1 text es body els pos)=true):cS F A (.mk 1 text es body els pos) v=(bZ v text ((aM F v (es.headD default)).1,false),aR [(aM F v (es.headD default)).2,noC ((aM F v (es.headD default)).1 !=0) 51 (es.headD default).pos,noC (!is) 53 pos]):=by
 rw [cS,if_neg (by rw [h];simp),hi];unfold aR aR aR aR;rw [nQ (jD _ _ _ (by decide))];rfl
theorem vV (cb:Nat) (F:aU) (m:Int) (hx:∀x,kg cb F m x) (Hh:Int) (hA:ByteArray) (es:List Ex) (body els:List St) (hQ:Int) (H4:∀x,x∈body→pZ cb F m x) (H3:∀x,x∈els→pZ cb F m x):pZ cb F m (.mk Hh hA es body els hQ):=by
 intro v vr w op text s1 n1 c1 s2 n2 c2 s3 n3 c3 pos h hr;obtain ⟨ve,vb,vl,e,he,hb,hT⟩:=hr.parts;simp only [List.cons.injEq,Value.int.injEq,Value.string.injEq,true_and,and_true] at e
 obtain ⟨rfl,rfl,rfl,rfl,rfl,rfl⟩:=e;have hv:n1=es.length:=by obtain ⟨_,⟨_,_,e,_⟩,_⟩:=he;injection e
 have hu:n2=body.length:=by obtain ⟨_,⟨_,_,e,_⟩,_⟩:=hb;injection e
 have hR:n3=els.length:=by obtain ⟨_,⟨_,_,e,_⟩,_⟩:=hT;injection e
 have h7:=zh h;have ho:=zh hx;have Ha:=zh H4;have Hr:=zh H3;have hg:=zh he;have Hg:=zh hb;have Hu:=zh hT;generalize hC:cS F m (.mk op text es body els pos) v=C;have hk:Hd (dD (.mk op text es body els pos)=jX op n1 n2 n3):=zh (by rw [vS,hv,hu,hR];rfl);have HC:=zh hC.symm;have HN:=zh (And.intro hv (And.intro hu hR));clear h hr hx H4 H3 he hb hT hC hv hu hR;have HB:Hd (Below w.heap.size w ((((w.alloc (.cells #[.pointer (some ⟨cb,0,none⟩)] 112)).alloc (.cells #[.int .i64 op,.string text,.slice s1 n1 c1,.slice s2 n2 c2,.slice s3 n3 c3,.int .i64 pos] 134)).alloc (.cells #[.map (some vr)] 167)).alloc (.cells #[.int .i64 0,.int .i64 0] 118))):=zh (ag (ag (ag (ag (Below.refl _ _) _) _) _) _);have A:Hd (BoxA ((((w.alloc (.cells #[.pointer (some ⟨cb,0,none⟩)] 112)).alloc (.cells #[.int .i64 op,.string text,.slice s1 n1 c1,.slice s2 n2 c2,.slice s3 n3 c3,.int .i64 pos] 134)).alloc (.cells #[.map (some vr)] 167)).alloc (.cells #[.int .i64 0,.int .i64 0] 118)) cb vr w.heap.size (w.heap.size+1) (w.heap.size+2) (w.heap.size+3) #[.int .i64 op,.string text,.slice s1 n1 c1,.slice s2 n2 c2,.slice s3 n3 c3,.int .i64 pos]):=zh ⟨ax _ _ _ _ (ax _ _ _ _ (ax _ _ _ _ (aj _ _ _ rfl))),ax _ _ _ _ (ax _ _ _ _ (aj _ _ _ (ah _ _))),ax _ _ _ _ (aj _ _ _ (by rw [ah,ah])),aj _ _ _ (by rw [ah,ah,ah])⟩;go_enter Tryz.func104,Tryz.ntmps104
 go_upto_region 1 with fail
 generalize ((((w.alloc (.cells #[.pointer (some ⟨cb,0,none⟩)] 112)).alloc (.cells #[.int .i64 op,.string text,.slice s1 n1 c1,.slice s2 n2 c2,.slice s3 n3 c3,.int .i64 pos] 134)).alloc (.cells #[.map (some vr)] 167)).alloc (.cells #[.int .i64 0,.int .i64 0] 118))=w1 at *;generalize Hm:w.heap.size+3=RB at *;generalize Hk:w.heap.size+2=VP at *;generalize Hl:w.heap.size+1=SP at *;generalize H8:w.heap.size=CP at *;have V:Hd (w.heap.size=CP∧CP<RB∧CP≤RB):=zh ⟨H8,by omega,by omega⟩;have hM:Hd (¬RB=CP∧¬RB=SP∧¬RB=VP):=zh ⟨by omega,by omega,by omega⟩;clear Hm Hk Hl H8;obtain ⟨s0,q1,q2,q3,s4,s5,-⟩:=css A.o.s;go_wp2_with fail
 refine (rZ op pos text s1 s2 s3 n1 n2 n3 c1 c2 c3 _).mono ?_;rintro e w2 ⟨rfl,H0⟩;clear s0 q1 q2 q3 s4 s5;have U:=A;replace A:=zh (A.o.below H0);replace HB:=zh (HB.o.trans (H0.mono (Nat.le_of_lt (af U.o.c))));clear U;clear H0;generalize ht:jX op n1 n2 n3=sh at *
 cases sh
 ·have HE:=zh (HC.o.trans (BQ F m op text es body els pos v hk.o))
  have s5:w2.cell? ⟨SP,5,none⟩=some (.int .i64 pos):=aa A.o.s (j:=5) rfl;have v0:w2.cell? ⟨VP,0,none⟩=some (.map (some vr)):=aa A.o.v (j:=0) rfl;obtain ⟨r0,r1,-⟩:=css A.o.r;obtain ⟨k0,k1,-⟩:=fzs A.o.r;go_upto_region 2 with fail
  go_region
  go_wp2_with fail
  have J:=(HB.o.setCell (p:=⟨RB,0,none⟩) V.o.2.2 (.int .i64 51)).setCell (p:=⟨RB,1,none⟩) V.o.2.2 (.int .i64 pos);rw [←V.o.1] at J;replace J:=J.drew;refine bodyPost_ret (v:=.tuple #[.map (some vr),.agg #[.int .i64 51,.int .i64 pos]]) (by simp [results,Tryz.results104,go_sem,r0,r1]) rfl ⟨vr,by rw [HE.o];rfl,?_,J⟩;rw [HE.o];exact h7.o.view.below J
 have q1:w2.cell? ⟨SP,1,none⟩=some (.string text):=aa A.o.s (j:=1) rfl;have v0:w2.cell? ⟨VP,0,none⟩=some (.map (some vr)):=aa A.o.v (j:=0) rfl;have hl:=jL (h7.o.view.below (by rw [V.o.1];exact HB.o)) text;generalize H5:(aL v text).getD (0,false)=nm at *;generalize hI:(aL v text).isSome=is at *;obtain ⟨nt,nf⟩:=nm;unfold nmV at hl;dsimp only at hl;go_upto_region 4 with fail
 have hX:Below w2.heap.size w2 ((w2.alloc (.cells #[.int .i64 nt,.bool nf] 169)).alloc (.cells #[.bool is] 4)):=ag (ag (Below.refl _ _) _) _;have hG:Hd (((w2.alloc (.cells #[.int .i64 nt,.bool nf] 169)).alloc (.cells #[.bool is] 4)).heap[w2.heap.size]?=some (.cells #[.int .i64 nt,.bool nf] 169 (0,0))):=zh (ax _ _ _ _ (aj _ _ _ rfl));have hh:Hd (((w2.alloc (.cells #[.int .i64 nt,.bool nf] 169)).alloc (.cells #[.bool is] 4)).heap[w2.heap.size+1]?=some (.cells #[.bool is] 4 (0,0))):=zh (aj _ _ _ (ah _ _));have U:=A;replace A:=zh (A.o.below hX);replace HB:=zh (HB.o.trans (hX.mono (Nat.le_of_lt (af U.o.c))));clear U;clear hX hl q1 v0;generalize ((w2.alloc (.cells #[.int .i64 nt,.bool nf] 169)).alloc (.cells #[.bool is] 4))=w3 at *;generalize w2.heap.size+1=TB at *;generalize w2.heap.size=NB at *;have l:=zh (h7.o.below (by rw [V.o.1];exact HB.o));have n:Hd (Stays Any w w3):=zh (Stays.of_below (by rw [V.o.1];exact HB.o));by_cases h3:op=3
 ·subst h3
  have s0:w3.cell? ⟨SP,0,none⟩=some (.int .i64 3):=aa A.o.s (j:=0) rfl;have ha:0<n1:=by have q:(n1==1)=true:=ht;have:=eq_of_beq q;omega
  go_upto_region 13 with fail
  clear s0;have HE:=zh (HC.o.trans (DV F m text es body els pos v hk.o));have h6:=zh (A3 (Dx l.o A.o.c A.o.v (by rw [←HN.o.1];exact ha) (hg.o.keep n.o) (ho.o _) A.o.s) (Df Ha.o l.o (Hg.o.keep n.o) A.o.c A.o.s A.o.v) (Dn Hr.o l.o (Hu.o.keep n.o) A.o.c A.o.s A.o.v) w3.drew (Below.refl _ _).drew 173);generalize hq:aR [eh F v (es.headD default) 2,bF F m body v,bF F m els v]=q at *;obtain ⟨fe,fa⟩:=q;have X:=zh (fh _ _ _ h6.o);rw [hq] at X;clear hq h6;unfold bH at X;dsimp only at X;have g:Hd (w3.drew.cell? ⟨VP,0,none⟩=some (.map (some vr))):=zh (aa A.o.v (j:=0) rfl);have k:=g.o;refine ay (S:=(fun w':World=>w'.cell? ⟨VP,0,none⟩=some (.map (some vr)))) 6 (by kernel_rfl) (by kernel_rfl) (by exact g.o) (fun hH=>?_);simp only [List.take_succ_cons,List.take_zero,List.drop_succ_cons,List.drop_zero]
  refine tkA 0 ?_;refine tkA 1 ?_;refine tkA 2 ?_;refine tkA 3 ?_;refine rd1 4 fun K hK=>?_;go_simp;refine hK.out _ _ ?_ (fun hH=>?_)
  ·(try dsimp only)
   exact aq _ g.o
  clear hK K;try go_simp
  refine rd1 5 fun K hK=>?_;go_simp;go_at_call 79
  refine X.o.mono ?_;rintro e w5 ⟨rfl,I⟩;have M:Below w3.heap.size w3 w5:=am (ag (aw (Below.refl _ _)) _) I;have U:=A;replace A:=zh (A.o.below M);replace HB:=zh (HB.o.trans (M.mono (Nat.le_of_lt (af U.o.c))));clear U;have h9:Hd (w5.cell? ⟨VP,0,none⟩=some (.map (some vr))):=zh (aa A.o.v (j:=0) rfl);clear I M k;go_simp;refine hK.out _ _ ?_ (fun hH=>?_)
  ·(try dsimp only)
   exact h9.o
  clear hK K;try go_simp
  refine wpAnyH_done (by kernel_rfl) ?_ _;dsimp only [aP];obtain ⟨r0,r1,-⟩:=css A.o.r;obtain ⟨k0,k1,-⟩:=fzs A.o.r;go_wp2_with fail
  have J:=(HB.o.setCell (p:=⟨RB,0,none⟩) V.o.2.2 (.int .i64 fe)).setCell (p:=⟨RB,1,none⟩) V.o.2.2 (.int .i64 fa);rw [←V.o.1] at J;refine bodyPost_ret (v:=.tuple #[.map (some vr),.agg #[.int .i64 fe,.int .i64 fa]]) (by simp [results,Tryz.results104,go_sem,r0,r1]) rfl ⟨vr,by rw [HE.o];rfl,?_,J⟩;rw [HE.o];exact h7.o.view.below J
 by_cases h4:op=4
 ·subst h4
  have s0:w3.cell? ⟨SP,0,none⟩=some (.int .i64 4):=aa A.o.s (j:=0) rfl;have hu:n1=2:=by have q:(n1==2&&n3==0)=true:=ht;rw [Bool.and_eq_true] at q;exact eq_of_beq q.1
  go_upto_region 15 with fail
  clear s0;have HE:=zh (HC.o.trans (D3 F m text es body els pos v is hI hk.o));have h6:=zh (A3 (CC (fun x _=>ho.o x) (by rw [←HN.o.1];omega) l.o (hg.o.keep n.o) A.o.c A.o.s A.o.v) (CW hh.o A.o.s) (CD l.o A.o.c A.o.v Ha.o (Hg.o.keep n.o) A.o.s) w3.drew (Below.refl _ _).drew 173);generalize hq:aR [cL F v es [1,1],noC (!is) 53 pos,bF F m body (bZ v text (1,true))]=q at *;obtain ⟨fe,fa⟩:=q;have X:=zh (fh _ _ _ h6.o);rw [hq] at X;clear hq h6;unfold bH at X;dsimp only at X;have g:Hd (w3.drew.cell? ⟨VP,0,none⟩=some (.map (some vr))):=zh (aa A.o.v (j:=0) rfl);have k:=g.o;refine ay (S:=(fun w':World=>w'.cell? ⟨VP,0,none⟩=some (.map (some vr)))) 6 (by kernel_rfl) (by kernel_rfl) (by exact g.o) (fun hH=>?_);simp only [List.take_succ_cons,List.take_zero,List.drop_succ_cons,List.drop_zero]
  refine tkA 0 ?_;refine tkA 1 ?_;refine tkA 2 ?_;refine tkA 3 ?_;refine rd1 4 fun K hK=>?_;go_simp;refine hK.out _ _ ?_ (fun hH=>?_)
  ·(try dsimp only)
   exact aq _ g.o
  clear hK K;try go_simp
  refine rd1 5 fun K hK=>?_;go_simp;go_at_call 79
  refine X.o.mono ?_;rintro e w5 ⟨rfl,I⟩;have M:Below w3.heap.size w3 w5:=am (ag (aw (Below.refl _ _)) _) I;have U:=A;replace A:=zh (A.o.below M);replace HB:=zh (HB.o.trans (M.mono (Nat.le_of_lt (af U.o.c))));clear U;have h9:Hd (w5.cell? ⟨VP,0,none⟩=some (.map (some vr))):=zh (aa A.o.v (j:=0) rfl);clear I M k;go_simp;refine hK.out _ _ ?_ (fun hH=>?_)
  ·(try dsimp only)
   exact h9.o
  clear hK K;try go_simp
  refine wpAnyH_done (by kernel_rfl) ?_ _;dsimp only [aP];obtain ⟨r0,r1,-⟩:=css A.o.r;obtain ⟨k0,k1,-⟩:=fzs A.o.r;go_wp2_with fail
  have J:=(HB.o.setCell (p:=⟨RB,0,none⟩) V.o.2.2 (.int .i64 fe)).setCell (p:=⟨RB,1,none⟩) V.o.2.2 (.int .i64 fa);rw [←V.o.1] at J;refine bodyPost_ret (v:=.tuple #[.map (some vr),.agg #[.int .i64 fe,.int .i64 fa]]) (by simp [results,Tryz.results104,go_sem,r0,r1]) rfl ⟨vr,by rw [HE.o];rfl,?_,J⟩;rw [HE.o];exact h7.o.view.below J
 by_cases h2:op=2
 ·subst h2
  obtain ⟨s0,q1,-⟩:=css A.o.s;have v0:w3.cell? ⟨VP,0,none⟩=some (.map (some vr)):=aa A.o.v (j:=0) rfl;have ha:0<n1:=by have q:(n1==1&&n2==0&&n3==0)=true:=ht;rw [Bool.and_eq_true,Bool.and_eq_true] at q;have:=eq_of_beq q.1.1;omega
  have hl:=jL l.o.view text;rw [H5,hI] at hl;unfold nmV at hl;dsimp only at hl;go_upto_region 11 with fail
  have hV:Below w3.heap.size w3 ((w3.alloc (.cells #[.int .i64 nt,.bool nf] 169)).alloc (.cells #[.bool is] 4)):=ag (ag (Below.refl _ _) _) _;have Hb:Hd (((w3.alloc (.cells #[.int .i64 nt,.bool nf] 169)).alloc (.cells #[.bool is] 4)).heap[w3.heap.size]?=some (.cells #[.int .i64 nt,.bool nf] 169 (0,0))):=zh (ax _ _ _ _ (aj _ _ _ rfl));have Hq:Hd (((w3.alloc (.cells #[.int .i64 nt,.bool nf] 169)).alloc (.cells #[.bool is] 4)).heap[w3.heap.size+1]?=some (.cells #[.bool is] 4 (0,0))):=zh (aj _ _ _ (ah _ _));have U:=A;replace A:=zh (A.o.below hV);replace HB:=zh (HB.o.trans (hV.mono (Nat.le_of_lt (af U.o.c))));clear U;clear hV hl q1 v0 s0 hG hh l n;generalize ((w3.alloc (.cells #[.int .i64 nt,.bool nf] 169)).alloc (.cells #[.bool is] 4))=w4 at *;generalize w3.heap.size+1=TM at *;generalize w3.heap.size=NM at *;have l:=zh (h7.o.below (by rw [V.o.1];exact HB.o));have n:Hd (Stays Any w w4):=zh (Stays.of_below (by rw [V.o.1];exact HB.o));have HE:=zh (HC.o.trans (D0 F m text es body els pos v is nt nf hI H5 hk.o));have h6:=zh (A3 (DJ Hq.o A.o.s) (DH Hb.o A.o.s) (DA l.o A.o.c A.o.v (by rw [←HN.o.1];exact ha) (hg.o.keep n.o) (ho.o _) A.o.s Hb.o) w4.drew (Below.refl _ _).drew 173);generalize hq:aR [noC is 52 pos,noC (!nf) 51 pos,eh F v (es.headD default) nt]=q at *;obtain ⟨fe,fa⟩:=q;have X:=zh (fh _ _ _ h6.o);rw [hq] at X;clear hq h6;unfold bH at X;dsimp only at X;have g:Hd (w4.drew.cell? ⟨VP,0,none⟩=some (.map (some vr))):=zh (aa A.o.v (j:=0) rfl);have k:=g.o;refine ay (S:=(fun w':World=>w'.cell? ⟨VP,0,none⟩=some (.map (some vr)))) 6 (by kernel_rfl) (by kernel_rfl) (by exact g.o) (fun hH=>?_);simp only [List.take_succ_cons,List.take_zero,List.drop_succ_cons,List.drop_zero]
  refine tkA 0 ?_;refine tkA 1 ?_;refine tkA 2 ?_;refine tkA 3 ?_;refine rd1 4 fun K hK=>?_;go_simp;refine hK.out _ _ ?_ (fun hH=>?_)
  ·(try dsimp only)
   exact aq _ g.o
  clear hK K;try go_simp
  refine rd1 5 fun K hK=>?_;go_simp;go_at_call 79
  refine X.o.mono ?_;rintro e w5 ⟨rfl,I⟩;have M:Below w4.heap.size w4 w5:=am (ag (aw (Below.refl _ _)) _) I;have U:=A;replace A:=zh (A.o.below M);replace HB:=zh (HB.o.trans (M.mono (Nat.le_of_lt (af U.o.c))));clear U;have h9:Hd (w5.cell? ⟨VP,0,none⟩=some (.map (some vr))):=zh (aa A.o.v (j:=0) rfl);clear I M k;go_simp;refine hK.out _ _ ?_ (fun hH=>?_)
  ·(try dsimp only)
   exact h9.o
  clear hK K;try go_simp
  refine wpAnyH_done (by kernel_rfl) ?_ _;dsimp only [aP];obtain ⟨r0,r1,-⟩:=css A.o.r;obtain ⟨k0,k1,-⟩:=fzs A.o.r;go_wp2_with fail
  have J:=(HB.o.setCell (p:=⟨RB,0,none⟩) V.o.2.2 (.int .i64 fe)).setCell (p:=⟨RB,1,none⟩) V.o.2.2 (.int .i64 fa);rw [←V.o.1] at J;refine bodyPost_ret (v:=.tuple #[.map (some vr),.agg #[.int .i64 fe,.int .i64 fa]]) (by simp [results,Tryz.results104,go_sem,r0,r1]) rfl ⟨vr,by rw [HE.o];rfl,?_,J⟩;rw [HE.o];exact h7.o.view.below J
 by_cases h1:op=1
 ·subst h1
  replace HC:=zh (HC.o.trans (DW F m text es body els pos v is hI hk.o));have ha:0<n1:=by have q:(n1==1&&n2==0&&n3==0)=true:=ht;rw [Bool.and_eq_true,Bool.and_eq_true] at q;have:=eq_of_beq q.1.1;omega
  have s0:w3.cell? ⟨SP,0,none⟩=some (.int .i64 1):=aa A.o.s (j:=0) rfl;go_upto_region 6 with fail
  clear s0;have hp:Hd (CP<w3.heap.size∧SP<w3.heap.size∧VP<w3.heap.size∧RB<w3.heap.size):=zh ⟨af A.o.c,af A.o.s,af A.o.v,af A.o.r⟩;obtain ⟨xb,xoff,xop,xnum,xt,xs,xn,xc,xpos,rfl,hv,H6,y0,y1,y2,y3,y4,z⟩:=du (hg.o.keep n.o) (by rw [←HN.o.1];exact ha);have H9:Hd ((es.headD default).pos=xpos∧(es.headD default).op=xop):=zh (by obtain ⟨_,e,_⟩:=cf z;rw [e];exact ⟨rfl,rfl⟩);have gn0:(0:Int)<(n1:Int):=by omega
  have u:=zh (fun W1 (h1:Below w3.heap.size w3 W1)=>ho.o (es.headD default) v vr W1 xop xnum xpos xt xs xn xc (l.o.below h1) (z.keep (Stays.of_below h1)));have H:Hd (S8 VP vr CP cb SP xb xoff n1 c1 xop xnum xt xs xn xc xpos w3):=zh ⟨aa A.o.v (j:=0) rfl,aa A.o.c (j:=0) rfl,aa A.o.s (j:=2) rfl,y0,y1,y2,y3,y4⟩;clear z y0 y1 y2 y3 y4;generalize aM F v (es.headD default)=xr at *;obtain ⟨t,fe,fa⟩:=xr;unfold bH at u;dsimp only at u HC;apply shared (fun TP FP w8=>Below w3.heap.size w3 w8∧w8.heap[TP]?=some (.cells #[.int .i64 t] 33 (0,0))∧w8.heap[FP]?=some (.cells #[.int .i64 fe,.int .i64 fa] 118 (0,0))∧w3.heap.size≤TP∧w3.heap.size≤FP∧¬TP=FP);intro HL;have k:S8 VP vr CP cb SP xb xoff n1 c1 xop xnum xt xs xn xc xpos w3.drew:=H.o.below (aw (Below.refl _ _));refine wp_region_held (S:=S8 VP vr CP cb SP xb xoff n1 c1 xop xnum xt xs xn xc xpos) (by kernel_rfl) ?_;refine tk (v:=?_) 0 (fun w B=>?_) ?_;rotate_left
  ·unfold S8 at B;go_simp;try with_reducible rfl
  refine tk (v:=?_) 1 (fun w B=>?_) ?_;rotate_left
  ·unfold S8 at B;go_simp;try with_reducible rfl
  refine tk (v:=?_) 2 (fun w B=>?_) ?_;rotate_left
  ·unfold S8 at B;go_simp;try with_reducible rfl
  refine tk (v:=?_) 3 (fun w B=>?_) ?_;rotate_left
  ·unfold S8 at B;go_simp;try with_reducible rfl
  refine tk (v:=?_) 4 (fun w B=>?_) ?_;rotate_left
  ·unfold S8 at B;go_simp;try with_reducible rfl
  refine tk (v:=?_) 5 (fun w B=>?_) ?_;rotate_left
  ·unfold S8 at B;go_simp;try with_reducible rfl
  have f:Hd (Below w3.heap.size w3 w3.drew):=zh (aw (Below.refl _ _));refine wpAnyH_ready (rs:=[6,10,11]) (by kernel_rfl) (by simp) ?_;refine (AllReadyH.cons rfl (fun K hK=>?_) (AllReadyH.cons rfl (fun K hK=>?_) (AllReadyH.cons rfl (fun K hK=>?_) AllReadyH.nil)))
  ·go_simp
   go_at_call 131
   refine (u.o _ f.o).mono ?_;rintro e w5 ⟨rfl,I⟩;have G:=zh (f.o.trans (I.mono f.o.size));have hc:=zh I.size;clear I k;go_simp;refine hK.out _ _ ?_ (fun hH=>?_)
   ·exact H.o.below G.o
   clear hK K;try go_simp
   refine tk (v:=?_) 7 (fun w B=>?_) ?_;rotate_left
   ·unfold S8 at B;go_simp;try with_reducible rfl
   refine tk (v:=?_) 8 (fun w B=>?_) ?_;rotate_left
   ·unfold S8 at B;go_simp;try with_reducible rfl
   refine tk (v:=?_) 9 (fun w B=>?_) ?_;rotate_left
   ·unfold S8 at B;go_simp;try with_reducible rfl
   refine wpAnyH_ready (rs:=[10,11]) (by kernel_rfl) (by simp) ?_;refine (AllReadyH.cons rfl (fun K hK=>?_) (AllReadyH.cons rfl (fun K hK=>?_) AllReadyH.nil))
   ·go_simp
    have D:Hd (Below w3.heap.size w3 (w5.alloc (.cells #[.int .i64 0] 33))):=zh (ag G.o _);have P:Hd ((w5.alloc (.cells #[.int .i64 0] 33)).heap[w5.heap.size]?=some (.cells #[.int .i64 0] 33 (0,0))):=zh (aj _ _ _ rfl);refine hK.out _ _ ?_ (fun hH=>?_)
    ·exact H.o.below D.o
    clear hK K;try go_simp
    refine rd1 11 fun K hK=>?_;go_simp;have L:Hd (Below w3.heap.size w3 ((w5.alloc (.cells #[.int .i64 0] 33)).alloc (.cells #[.int .i64 0,.int .i64 0] 118))):=zh (ag D.o _);have O:Hd (((w5.alloc (.cells #[.int .i64 0] 33)).alloc (.cells #[.int .i64 0,.int .i64 0] 118)).heap[(w5.alloc (.cells #[.int .i64 0] 33)).heap.size]?=some (.cells #[.int .i64 0,.int .i64 0] 118 (0,0))):=zh (aj _ _ _ rfl);replace P:Hd (((w5.alloc (.cells #[.int .i64 0] 33)).alloc (.cells #[.int .i64 0,.int .i64 0] 118)).heap[_]?=_):=zh (ax _ _ _ _ P.o);refine hK.out _ _ ?_ (fun hH=>?_)
    ·exact H.o.below L.o
    clear hK K;try go_simp
    obtain ⟨N3,R⟩:∃N,N=w3.heap.size:=⟨_,rfl⟩
    have y:w3.heap.size≤w5.heap.size:=G.o.size;have f1:Below N3 w3 ((w5.alloc (.cells #[.int .i64 0] 33)).alloc (.cells #[.int .i64 0,.int .i64 0] 118)):=by rw [R];exact L.o
    have f2:((w5.alloc (.cells #[.int .i64 0] 33)).alloc (.cells #[.int .i64 0,.int .i64 0] 118)).heap[w5.heap.size]?=some (.cells #[.int .i64 0] 33 (0,0)):=by
     have q:=P.o;exact q
    have f3:((w5.alloc (.cells #[.int .i64 0] 33)).alloc (.cells #[.int .i64 0,.int .i64 0] 118)).heap[w5.heap.size+1]?=some (.cells #[.int .i64 0,.int .i64 0] 118 (0,0)):=by
     have q:=O.o;rw [ah] at q;exact q
    have f4:N3≤w5.heap.size∧N3≤w5.heap.size+1∧¬w5.heap.size=w5.heap.size+1:=by omega
    revert f1 f2 f3 f4;generalize ((w5.alloc (.cells #[.int .i64 0] 33)).alloc (.cells #[.int .i64 0,.int .i64 0] 118))=w6;generalize w5.heap.size+1=FP;generalize w5.heap.size=TP;intro f1 f2 f3 f4;rw [R] at f1 f4;have b:=zh f1;have Q:=zh f2;have a:=zh f3;have E:=zh f4;clear f1 f2 f3 f4 R y P O;have z0:w6.cell? ⟨TP,0,none⟩=some (.int .i64 0):=aa Q.o (j:=0) rfl;have y0:w6.frozen? ⟨TP,0,none⟩=false:=ae Q.o 0;refine rd1 12 fun K hK=>?_;go_simp;have Z:Hd (Below w3.heap.size w3 (w6.setCell ⟨TP,0,none⟩ (.int .i64 t))):=zh (b.o.setCell (p:=⟨TP,0,none⟩) E.o.1 _);have h0:Hd ((w6.setCell ⟨TP,0,none⟩ (.int .i64 t)).heap[TP]?=some (.cells #[.int .i64 t] 33 (0,0))):=zh (au Q.o 0 _);have T:Hd ((w6.setCell ⟨TP,0,none⟩ (.int .i64 t)).heap[FP]?=some (.cells #[.int .i64 0,.int .i64 0] 118 (0,0))):=zh ((ak _ _ _ _ (fun e=>E.o.2.2 e.symm)).trans a.o);refine hK.out _ _ ?_ (fun hH=>?_)
    ·exact H.o.below Z.o
    clear hK K;try go_simp
    clear z0 y0 b Q a;generalize (w6.setCell ⟨TP,0,none⟩ (.int .i64 t))=w7 at *;obtain ⟨z0,z1,-⟩:=css T.o;obtain ⟨y0,y1,-⟩:=fzs T.o;refine rd1 13 fun K hK=>?_;go_simp;have Y:=((Z.o.setCell (p:=⟨FP,0,none⟩) E.o.2.1 (.int .i64 fe)).setCell (p:=⟨FP,1,none⟩) E.o.2.1 (.int .i64 fa))
    refine hK.out _ _ ?_ (fun hH=>?_)
    ·exact H.o.below Y
    clear hK K;try go_simp
    refine wpAnyH_done (by kernel_rfl) ?_ _;exact HL TP FP _ ⟨Y,(ak _ _ _ _ E.o.2.2).trans ((ak _ _ _ _ E.o.2.2).trans h0.o),au (au T.o 0 _) 1 _,E.o⟩
   go_simp;have D:Hd (Below w3.heap.size w3 (w5.alloc (.cells #[.int .i64 0,.int .i64 0] 118))):=zh (ag G.o _);have O:Hd ((w5.alloc (.cells #[.int .i64 0,.int .i64 0] 118)).heap[w5.heap.size]?=some (.cells #[.int .i64 0,.int .i64 0] 118 (0,0))):=zh (aj _ _ _ rfl);refine hK.out _ _ ?_ (fun hH=>?_)
   ·exact H.o.below D.o
   clear hK K;try go_simp
   refine rd1 10 fun K hK=>?_;go_simp;have L:Hd (Below w3.heap.size w3 ((w5.alloc (.cells #[.int .i64 0,.int .i64 0] 118)).alloc (.cells #[.int .i64 0] 33))):=zh (ag D.o _);have P:Hd (((w5.alloc (.cells #[.int .i64 0,.int .i64 0] 118)).alloc (.cells #[.int .i64 0] 33)).heap[(w5.alloc (.cells #[.int .i64 0,.int .i64 0] 118)).heap.size]?=some (.cells #[.int .i64 0] 33 (0,0))):=zh (aj _ _ _ rfl);replace O:Hd (((w5.alloc (.cells #[.int .i64 0,.int .i64 0] 118)).alloc (.cells #[.int .i64 0] 33)).heap[_]?=_):=zh (ax _ _ _ _ O.o);refine hK.out _ _ ?_ (fun hH=>?_)
   ·exact H.o.below L.o
   clear hK K;try go_simp
   obtain ⟨N3,R⟩:∃N,N=w3.heap.size:=⟨_,rfl⟩
   have y:w3.heap.size≤w5.heap.size:=G.o.size;have f1:Below N3 w3 ((w5.alloc (.cells #[.int .i64 0,.int .i64 0] 118)).alloc (.cells #[.int .i64 0] 33)):=by rw [R];exact L.o
   have f2:((w5.alloc (.cells #[.int .i64 0,.int .i64 0] 118)).alloc (.cells #[.int .i64 0] 33)).heap[w5.heap.size+1]?=some (.cells #[.int .i64 0] 33 (0,0)):=by
    have q:=P.o;rw [ah] at q;exact q
   have f3:((w5.alloc (.cells #[.int .i64 0,.int .i64 0] 118)).alloc (.cells #[.int .i64 0] 33)).heap[w5.heap.size]?=some (.cells #[.int .i64 0,.int .i64 0] 118 (0,0)):=by
    have q:=O.o;exact q
   have f4:N3≤w5.heap.size+1∧N3≤w5.heap.size∧¬w5.heap.size+1=w5.heap.size:=by omega
   revert f1 f2 f3 f4;generalize ((w5.alloc (.cells #[.int .i64 0,.int .i64 0] 118)).alloc (.cells #[.int .i64 0] 33))=w6;generalize w5.heap.size+1=TP;generalize w5.heap.size=FP;intro f1 f2 f3 f4;rw [R] at f1 f4;have b:=zh f1;have Q:=zh f2;have a:=zh f3;have E:=zh f4;clear f1 f2 f3 f4 R y P O;have z0:w6.cell? ⟨TP,0,none⟩=some (.int .i64 0):=aa Q.o (j:=0) rfl;have y0:w6.frozen? ⟨TP,0,none⟩=false:=ae Q.o 0;refine rd1 12 fun K hK=>?_;go_simp;have Z:Hd (Below w3.heap.size w3 (w6.setCell ⟨TP,0,none⟩ (.int .i64 t))):=zh (b.o.setCell (p:=⟨TP,0,none⟩) E.o.1 _);have h0:Hd ((w6.setCell ⟨TP,0,none⟩ (.int .i64 t)).heap[TP]?=some (.cells #[.int .i64 t] 33 (0,0))):=zh (au Q.o 0 _);have T:Hd ((w6.setCell ⟨TP,0,none⟩ (.int .i64 t)).heap[FP]?=some (.cells #[.int .i64 0,.int .i64 0] 118 (0,0))):=zh ((ak _ _ _ _ (fun e=>E.o.2.2 e.symm)).trans a.o);refine hK.out _ _ ?_ (fun hH=>?_)
   ·exact H.o.below Z.o
   clear hK K;try go_simp
   clear z0 y0 b Q a;generalize (w6.setCell ⟨TP,0,none⟩ (.int .i64 t))=w7 at *;obtain ⟨z0,z1,-⟩:=css T.o;obtain ⟨y0,y1,-⟩:=fzs T.o;refine rd1 13 fun K hK=>?_;go_simp;have Y:=((Z.o.setCell (p:=⟨FP,0,none⟩) E.o.2.1 (.int .i64 fe)).setCell (p:=⟨FP,1,none⟩) E.o.2.1 (.int .i64 fa))
   refine hK.out _ _ ?_ (fun hH=>?_)
   ·exact H.o.below Y
   clear hK K;try go_simp
   refine wpAnyH_done (by kernel_rfl) ?_ _;exact HL TP FP _ ⟨Y,(ak _ _ _ _ E.o.2.2).trans ((ak _ _ _ _ E.o.2.2).trans h0.o),au (au T.o 0 _) 1 _,E.o⟩
  ·go_simp
   have G:Hd (Below w3.heap.size w3 (w3.drew.alloc (.cells #[.int .i64 0] 33))):=zh (ag f.o _);have P:Hd ((w3.drew.alloc (.cells #[.int .i64 0] 33)).heap[w3.drew.heap.size]?=some (.cells #[.int .i64 0] 33 (0,0))):=zh (aj _ _ _ rfl);clear k;refine hK.out _ _ ?_ (fun hH=>?_)
   ·exact H.o.below G.o
   clear hK K;try go_simp
   refine wpAnyH_ready (rs:=[6,11]) (by kernel_rfl) (by simp) ?_;refine (AllReadyH.cons rfl (fun K hK=>?_) (AllReadyH.cons rfl (fun K hK=>?_) AllReadyH.nil))
   ·go_simp
    go_at_call 131
    refine (u.o _ G.o).mono ?_;rintro e w5 ⟨rfl,I⟩;have D:=zh (G.o.trans (I.mono G.o.size));replace P:=zh ((I.block _ (af P.o)).trans P.o);have hc:=zh I.size;clear I;go_simp;refine hK.out _ _ ?_ (fun hH=>?_)
    ·exact H.o.below D.o
    clear hK K;try go_simp
    refine tk (v:=?_) 7 (fun w B=>?_) ?_;rotate_left
    ·unfold S8 at B;go_simp;try with_reducible rfl
    refine tk (v:=?_) 8 (fun w B=>?_) ?_;rotate_left
    ·unfold S8 at B;go_simp;try with_reducible rfl
    refine tk (v:=?_) 9 (fun w B=>?_) ?_;rotate_left
    ·unfold S8 at B;go_simp;try with_reducible rfl
    refine rd1 11 fun K hK=>?_;go_simp;have L:Hd (Below w3.heap.size w3 (w5.alloc (.cells #[.int .i64 0,.int .i64 0] 118))):=zh (ag D.o _);have O:Hd ((w5.alloc (.cells #[.int .i64 0,.int .i64 0] 118)).heap[w5.heap.size]?=some (.cells #[.int .i64 0,.int .i64 0] 118 (0,0))):=zh (aj _ _ _ rfl);replace P:Hd ((w5.alloc (.cells #[.int .i64 0,.int .i64 0] 118)).heap[_]?=_):=zh (ax _ _ _ _ P.o);refine hK.out _ _ ?_ (fun hH=>?_)
    ·exact H.o.below L.o
    clear hK K;try go_simp
    obtain ⟨N3,R⟩:∃N,N=w3.heap.size:=⟨_,rfl⟩
    have y:w3.heap.size≤w5.heap.size:=D.o.size;have hm:w3.heap.size+1≤w5.heap.size:=by have q:=hc.o;rw [ah] at q;exact q
    have f1:Below N3 w3 (w5.alloc (.cells #[.int .i64 0,.int .i64 0] 118)):=by rw [R];exact L.o
    have f2:(w5.alloc (.cells #[.int .i64 0,.int .i64 0] 118)).heap[w3.heap.size]?=some (.cells #[.int .i64 0] 33 (0,0)):=by
     have q:=P.o;exact q
    have f3:(w5.alloc (.cells #[.int .i64 0,.int .i64 0] 118)).heap[w5.heap.size]?=some (.cells #[.int .i64 0,.int .i64 0] 118 (0,0)):=by
     have q:=O.o;exact q
    have f4:N3≤w3.heap.size∧N3≤w5.heap.size∧¬w3.heap.size=w5.heap.size:=by omega
    revert f1 f2 f3 f4;generalize (w5.alloc (.cells #[.int .i64 0,.int .i64 0] 118))=w6;generalize w3.heap.size=TP;generalize w5.heap.size=FP;intro f1 f2 f3 f4;rw [R] at f1 f4;have b:=zh f1;have Q:=zh f2;have a:=zh f3;have E:=zh f4;clear f1 f2 f3 f4 R y hm P O;have z0:w6.cell? ⟨TP,0,none⟩=some (.int .i64 0):=aa Q.o (j:=0) rfl;have y0:w6.frozen? ⟨TP,0,none⟩=false:=ae Q.o 0;refine rd1 12 fun K hK=>?_;go_simp;have Z:Hd (Below w3.heap.size w3 (w6.setCell ⟨TP,0,none⟩ (.int .i64 t))):=zh (b.o.setCell (p:=⟨TP,0,none⟩) E.o.1 _);have h0:Hd ((w6.setCell ⟨TP,0,none⟩ (.int .i64 t)).heap[TP]?=some (.cells #[.int .i64 t] 33 (0,0))):=zh (au Q.o 0 _);have T:Hd ((w6.setCell ⟨TP,0,none⟩ (.int .i64 t)).heap[FP]?=some (.cells #[.int .i64 0,.int .i64 0] 118 (0,0))):=zh ((ak _ _ _ _ (fun e=>E.o.2.2 e.symm)).trans a.o);refine hK.out _ _ ?_ (fun hH=>?_)
    ·exact H.o.below Z.o
    clear hK K;try go_simp
    clear z0 y0 b Q a;generalize (w6.setCell ⟨TP,0,none⟩ (.int .i64 t))=w7 at *;obtain ⟨z0,z1,-⟩:=css T.o;obtain ⟨y0,y1,-⟩:=fzs T.o;refine rd1 13 fun K hK=>?_;go_simp;have Y:=((Z.o.setCell (p:=⟨FP,0,none⟩) E.o.2.1 (.int .i64 fe)).setCell (p:=⟨FP,1,none⟩) E.o.2.1 (.int .i64 fa))
    refine hK.out _ _ ?_ (fun hH=>?_)
    ·exact H.o.below Y
    clear hK K;try go_simp
    refine wpAnyH_done (by kernel_rfl) ?_ _;exact HL TP FP _ ⟨Y,(ak _ _ _ _ E.o.2.2).trans ((ak _ _ _ _ E.o.2.2).trans h0.o),au (au T.o 0 _) 1 _,E.o⟩
   go_simp;have D:Hd (Below w3.heap.size w3 ((w3.drew.alloc (.cells #[.int .i64 0] 33)).alloc (.cells #[.int .i64 0,.int .i64 0] 118))):=zh (ag G.o _);have O:Hd (((w3.drew.alloc (.cells #[.int .i64 0] 33)).alloc (.cells #[.int .i64 0,.int .i64 0] 118)).heap[(w3.drew.alloc (.cells #[.int .i64 0] 33)).heap.size]?=some (.cells #[.int .i64 0,.int .i64 0] 118 (0,0))):=zh (aj _ _ _ rfl);replace P:Hd (((w3.drew.alloc (.cells #[.int .i64 0] 33)).alloc (.cells #[.int .i64 0,.int .i64 0] 118)).heap[_]?=_):=zh (ax _ _ _ _ P.o);refine hK.out _ _ ?_ (fun hH=>?_)
   ·exact H.o.below D.o
   clear hK K;try go_simp
   refine rd1 6 fun K hK=>?_;go_simp;go_at_call 131
   refine (u.o _ D.o).mono ?_;rintro e w5 ⟨rfl,I⟩;have L:=zh (D.o.trans (I.mono D.o.size));replace P:=zh ((I.block _ (af P.o)).trans P.o);replace O:=zh ((I.block _ (af O.o)).trans O.o);have hc:=zh I.size;clear I;go_simp;refine hK.out _ _ ?_ (fun hH=>?_)
   ·exact H.o.below L.o
   clear hK K;try go_simp
   refine tk (v:=?_) 7 (fun w B=>?_) ?_;rotate_left
   ·unfold S8 at B;go_simp;try with_reducible rfl
   refine tk (v:=?_) 8 (fun w B=>?_) ?_;rotate_left
   ·unfold S8 at B;go_simp;try with_reducible rfl
   refine tk (v:=?_) 9 (fun w B=>?_) ?_;rotate_left
   ·unfold S8 at B;go_simp;try with_reducible rfl
   obtain ⟨N3,R⟩:∃N,N=w3.heap.size:=⟨_,rfl⟩
   have y:w3.heap.size≤w5.heap.size:=L.o.size;have f1:Below N3 w3 w5:=by rw [R];exact L.o
   have f2:w5.heap[w3.heap.size]?=some (.cells #[.int .i64 0] 33 (0,0)):=by
    have q:=P.o;exact q
   have f3:w5.heap[w3.heap.size+1]?=some (.cells #[.int .i64 0,.int .i64 0] 118 (0,0)):=by
    have q:=O.o;rw [ah] at q;exact q
   have f4:N3≤w3.heap.size∧N3≤w3.heap.size+1∧¬w3.heap.size=w3.heap.size+1:=by omega
   revert f1 f2 f3 f4;generalize w5=w6;generalize w3.heap.size+1=FP;generalize w3.heap.size=TP;intro f1 f2 f3 f4;rw [R] at f1 f4;have b:=zh f1;have Q:=zh f2;have a:=zh f3;have E:=zh f4;clear f1 f2 f3 f4 R y P O;have z0:w6.cell? ⟨TP,0,none⟩=some (.int .i64 0):=aa Q.o (j:=0) rfl;have y0:w6.frozen? ⟨TP,0,none⟩=false:=ae Q.o 0;refine rd1 12 fun K hK=>?_;go_simp;have Z:Hd (Below w3.heap.size w3 (w6.setCell ⟨TP,0,none⟩ (.int .i64 t))):=zh (b.o.setCell (p:=⟨TP,0,none⟩) E.o.1 _);have h0:Hd ((w6.setCell ⟨TP,0,none⟩ (.int .i64 t)).heap[TP]?=some (.cells #[.int .i64 t] 33 (0,0))):=zh (au Q.o 0 _);have T:Hd ((w6.setCell ⟨TP,0,none⟩ (.int .i64 t)).heap[FP]?=some (.cells #[.int .i64 0,.int .i64 0] 118 (0,0))):=zh ((ak _ _ _ _ (fun e=>E.o.2.2 e.symm)).trans a.o);refine hK.out _ _ ?_ (fun hH=>?_)
   ·exact H.o.below Z.o
   clear hK K;try go_simp
   clear z0 y0 b Q a;generalize (w6.setCell ⟨TP,0,none⟩ (.int .i64 t))=w7 at *;obtain ⟨z0,z1,-⟩:=css T.o;obtain ⟨y0,y1,-⟩:=fzs T.o;refine rd1 13 fun K hK=>?_;go_simp;have Y:=((Z.o.setCell (p:=⟨FP,0,none⟩) E.o.2.1 (.int .i64 fe)).setCell (p:=⟨FP,1,none⟩) E.o.2.1 (.int .i64 fa))
   refine hK.out _ _ ?_ (fun hH=>?_)
   ·exact H.o.below Y
   clear hK K;try go_simp
   refine wpAnyH_done (by kernel_rfl) ?_ _;exact HL TP FP _ ⟨Y,(ak _ _ _ _ E.o.2.2).trans ((ak _ _ _ _ E.o.2.2).trans h0.o),au (au T.o 0 _) 1 _,E.o⟩
  go_simp;have G:Hd (Below w3.heap.size w3 (w3.drew.alloc (.cells #[.int .i64 0,.int .i64 0] 118))):=zh (ag f.o _);have O:Hd ((w3.drew.alloc (.cells #[.int .i64 0,.int .i64 0] 118)).heap[w3.drew.heap.size]?=some (.cells #[.int .i64 0,.int .i64 0] 118 (0,0))):=zh (aj _ _ _ rfl);clear k;refine hK.out _ _ ?_ (fun hH=>?_)
  ·exact H.o.below G.o
  clear hK K;try go_simp
  refine wpAnyH_ready (rs:=[6,10]) (by kernel_rfl) (by simp) ?_;refine (AllReadyH.cons rfl (fun K hK=>?_) (AllReadyH.cons rfl (fun K hK=>?_) AllReadyH.nil))
  ·go_simp
   go_at_call 131
   refine (u.o _ G.o).mono ?_;rintro e w5 ⟨rfl,I⟩;have D:=zh (G.o.trans (I.mono G.o.size));replace O:=zh ((I.block _ (af O.o)).trans O.o);have hc:=zh I.size;clear I;go_simp;refine hK.out _ _ ?_ (fun hH=>?_)
   ·exact H.o.below D.o
   clear hK K;try go_simp
   refine tk (v:=?_) 7 (fun w B=>?_) ?_;rotate_left
   ·unfold S8 at B;go_simp;try with_reducible rfl
   refine tk (v:=?_) 8 (fun w B=>?_) ?_;rotate_left
   ·unfold S8 at B;go_simp;try with_reducible rfl
   refine tk (v:=?_) 9 (fun w B=>?_) ?_;rotate_left
   ·unfold S8 at B;go_simp;try with_reducible rfl
   refine rd1 10 fun K hK=>?_;go_simp;have L:Hd (Below w3.heap.size w3 (w5.alloc (.cells #[.int .i64 0] 33))):=zh (ag D.o _);have P:Hd ((w5.alloc (.cells #[.int .i64 0] 33)).heap[w5.heap.size]?=some (.cells #[.int .i64 0] 33 (0,0))):=zh (aj _ _ _ rfl);replace O:Hd ((w5.alloc (.cells #[.int .i64 0] 33)).heap[_]?=_):=zh (ax _ _ _ _ O.o);refine hK.out _ _ ?_ (fun hH=>?_)
   ·exact H.o.below L.o
   clear hK K;try go_simp
   obtain ⟨N3,R⟩:∃N,N=w3.heap.size:=⟨_,rfl⟩
   have y:w3.heap.size≤w5.heap.size:=D.o.size;have hm:w3.heap.size+1≤w5.heap.size:=by have q:=hc.o;rw [ah] at q;exact q
   have f1:Below N3 w3 (w5.alloc (.cells #[.int .i64 0] 33)):=by rw [R];exact L.o
   have f2:(w5.alloc (.cells #[.int .i64 0] 33)).heap[w5.heap.size]?=some (.cells #[.int .i64 0] 33 (0,0)):=by
    have q:=P.o;exact q
   have f3:(w5.alloc (.cells #[.int .i64 0] 33)).heap[w3.heap.size]?=some (.cells #[.int .i64 0,.int .i64 0] 118 (0,0)):=by
    have q:=O.o;exact q
   have f4:N3≤w5.heap.size∧N3≤w3.heap.size∧¬w5.heap.size=w3.heap.size:=by omega
   revert f1 f2 f3 f4;generalize (w5.alloc (.cells #[.int .i64 0] 33))=w6;generalize w5.heap.size=TP;generalize w3.heap.size=FP;intro f1 f2 f3 f4;rw [R] at f1 f4;have b:=zh f1;have Q:=zh f2;have a:=zh f3;have E:=zh f4;clear f1 f2 f3 f4 R y hm P O;have z0:w6.cell? ⟨TP,0,none⟩=some (.int .i64 0):=aa Q.o (j:=0) rfl;have y0:w6.frozen? ⟨TP,0,none⟩=false:=ae Q.o 0;refine rd1 12 fun K hK=>?_;go_simp;have Z:Hd (Below w3.heap.size w3 (w6.setCell ⟨TP,0,none⟩ (.int .i64 t))):=zh (b.o.setCell (p:=⟨TP,0,none⟩) E.o.1 _);have h0:Hd ((w6.setCell ⟨TP,0,none⟩ (.int .i64 t)).heap[TP]?=some (.cells #[.int .i64 t] 33 (0,0))):=zh (au Q.o 0 _);have T:Hd ((w6.setCell ⟨TP,0,none⟩ (.int .i64 t)).heap[FP]?=some (.cells #[.int .i64 0,.int .i64 0] 118 (0,0))):=zh ((ak _ _ _ _ (fun e=>E.o.2.2 e.symm)).trans a.o);refine hK.out _ _ ?_ (fun hH=>?_)
   ·exact H.o.below Z.o
   clear hK K;try go_simp
   clear z0 y0 b Q a;generalize (w6.setCell ⟨TP,0,none⟩ (.int .i64 t))=w7 at *;obtain ⟨z0,z1,-⟩:=css T.o;obtain ⟨y0,y1,-⟩:=fzs T.o;refine rd1 13 fun K hK=>?_;go_simp;have Y:=((Z.o.setCell (p:=⟨FP,0,none⟩) E.o.2.1 (.int .i64 fe)).setCell (p:=⟨FP,1,none⟩) E.o.2.1 (.int .i64 fa))
   refine hK.out _ _ ?_ (fun hH=>?_)
   ·exact H.o.below Y
   clear hK K;try go_simp
   refine wpAnyH_done (by kernel_rfl) ?_ _;exact HL TP FP _ ⟨Y,(ak _ _ _ _ E.o.2.2).trans ((ak _ _ _ _ E.o.2.2).trans h0.o),au (au T.o 0 _) 1 _,E.o⟩
  go_simp;have D:Hd (Below w3.heap.size w3 ((w3.drew.alloc (.cells #[.int .i64 0,.int .i64 0] 118)).alloc (.cells #[.int .i64 0] 33))):=zh (ag G.o _);have P:Hd (((w3.drew.alloc (.cells #[.int .i64 0,.int .i64 0] 118)).alloc (.cells #[.int .i64 0] 33)).heap[(w3.drew.alloc (.cells #[.int .i64 0,.int .i64 0] 118)).heap.size]?=some (.cells #[.int .i64 0] 33 (0,0))):=zh (aj _ _ _ rfl);replace O:Hd (((w3.drew.alloc (.cells #[.int .i64 0,.int .i64 0] 118)).alloc (.cells #[.int .i64 0] 33)).heap[_]?=_):=zh (ax _ _ _ _ O.o);refine hK.out _ _ ?_ (fun hH=>?_)
  ·exact H.o.below D.o
  clear hK K;try go_simp
  refine rd1 6 fun K hK=>?_;go_simp;go_at_call 131
  refine (u.o _ D.o).mono ?_;rintro e w5 ⟨rfl,I⟩;have L:=zh (D.o.trans (I.mono D.o.size));replace O:=zh ((I.block _ (af O.o)).trans O.o);replace P:=zh ((I.block _ (af P.o)).trans P.o);have hc:=zh I.size;clear I;go_simp;refine hK.out _ _ ?_ (fun hH=>?_)
  ·exact H.o.below L.o
  clear hK K;try go_simp
  refine tk (v:=?_) 7 (fun w B=>?_) ?_;rotate_left
  ·unfold S8 at B;go_simp;try with_reducible rfl
  refine tk (v:=?_) 8 (fun w B=>?_) ?_;rotate_left
  ·unfold S8 at B;go_simp;try with_reducible rfl
  refine tk (v:=?_) 9 (fun w B=>?_) ?_;rotate_left
  ·unfold S8 at B;go_simp;try with_reducible rfl
  obtain ⟨N3,R⟩:∃N,N=w3.heap.size:=⟨_,rfl⟩
  have y:w3.heap.size≤w5.heap.size:=L.o.size;have f1:Below N3 w3 w5:=by rw [R];exact L.o
  have f2:w5.heap[w3.heap.size+1]?=some (.cells #[.int .i64 0] 33 (0,0)):=by
   have q:=P.o;rw [ah] at q;exact q
  have f3:w5.heap[w3.heap.size]?=some (.cells #[.int .i64 0,.int .i64 0] 118 (0,0)):=by
   have q:=O.o;exact q
  have f4:N3≤w3.heap.size+1∧N3≤w3.heap.size∧¬w3.heap.size+1=w3.heap.size:=by omega
  revert f1 f2 f3 f4;generalize w5=w6;generalize w3.heap.size+1=TP;generalize w3.heap.size=FP;intro f1 f2 f3 f4;rw [R] at f1 f4;have b:=zh f1;have Q:=zh f2;have a:=zh f3;have E:=zh f4;clear f1 f2 f3 f4 R y P O;have z0:w6.cell? ⟨TP,0,none⟩=some (.int .i64 0):=aa Q.o (j:=0) rfl;have y0:w6.frozen? ⟨TP,0,none⟩=false:=ae Q.o 0;refine rd1 12 fun K hK=>?_;go_simp;have Z:Hd (Below w3.heap.size w3 (w6.setCell ⟨TP,0,none⟩ (.int .i64 t))):=zh (b.o.setCell (p:=⟨TP,0,none⟩) E.o.1 _);have h0:Hd ((w6.setCell ⟨TP,0,none⟩ (.int .i64 t)).heap[TP]?=some (.cells #[.int .i64 t] 33 (0,0))):=zh (au Q.o 0 _);have T:Hd ((w6.setCell ⟨TP,0,none⟩ (.int .i64 t)).heap[FP]?=some (.cells #[.int .i64 0,.int .i64 0] 118 (0,0))):=zh ((ak _ _ _ _ (fun e=>E.o.2.2 e.symm)).trans a.o);refine hK.out _ _ ?_ (fun hH=>?_)
  ·exact H.o.below Z.o
  clear hK K;try go_simp
  clear z0 y0 b Q a;generalize (w6.setCell ⟨TP,0,none⟩ (.int .i64 t))=w7 at *;obtain ⟨z0,z1,-⟩:=css T.o;obtain ⟨y0,y1,-⟩:=fzs T.o;refine rd1 13 fun K hK=>?_;go_simp;have Y:=((Z.o.setCell (p:=⟨FP,0,none⟩) E.o.2.1 (.int .i64 fe)).setCell (p:=⟨FP,1,none⟩) E.o.2.1 (.int .i64 fa))
  refine hK.out _ _ ?_ (fun hH=>?_)
  ·exact H.o.below Y
  clear hK K;try go_simp
  refine wpAnyH_done (by kernel_rfl) ?_ _;exact HL TP FP _ ⟨Y,(ak _ _ _ _ E.o.2.2).trans ((ak _ _ _ _ E.o.2.2).trans h0.o),au (au T.o 0 _) 1 _,E.o⟩;rintro TP FP w8 ⟨hj,hE,hD,hB⟩;have hy:=zh hE;have hw:=zh hD;have E:=zh hB;have hn:=zh ((hj.block _ (af hh.o)).trans hh.o);have U:=A;replace A:=zh (A.o.below hj);replace HB:=zh (HB.o.trans (hj.mono (Nat.le_of_lt (af U.o.c))));clear U;have hd:Hd ((CP≤TP∧CP≤FP)∧(CP≠FP∧SP≠FP∧VP≠FP∧RB≠FP)∧RB≠TP∧¬TP=FP):=zh (by have q:=hp.o;omega);clear H hG hh l n u hj hE hD hB;have l:=zh (h7.o.below (by rw [V.o.1];exact HB.o));have n:Hd (Stays Any w w8):=zh (Stays.of_below (by rw [V.o.1];exact HB.o));go_upto_region 7 with fail
  have h6:=zh (A3 (Dp hw.o) (Dj (by rw [←HN.o.1];exact ha) (hg.o.keep n.o) hy.o A.o.s) (DD hn.o A.o.s) w8 (Below.refl _ _) 173);generalize hq:aR [(fe,fa),noC (t !=0) 51 (es.headD default).pos,noC (!is) 53 pos]=q at *;obtain ⟨ge,ga⟩:=q;have X:=zh (fh _ _ _ h6.o);rw [hq] at X;clear hq h6;unfold bH at X;dsimp only at X;go_wp2_with fail
  refine X.o.mono ?_;rintro e w9 ⟨rfl,H7⟩;have hf:Below w8.heap.size w8 w9:=am (ag (Below.refl _ _) _) H7;have U:=A;replace A:=zh (A.o.below hf);replace HB:=zh (HB.o.trans (hf.mono (Nat.le_of_lt (af U.o.c))));clear U;have He:=zh ((hf.block _ (af hy.o)).trans hy.o);have hN:=zh ((hf.block _ (af hw.o)).trans hw.o);clear H7 hf hy hw;obtain ⟨z0,z1,-⟩:=css hN.o;obtain ⟨y0,y1,-⟩:=fzs hN.o;go_upto_region 8 with fail
  have Ht:Hd (((w9.setCell ⟨FP,0,none⟩ (.int .i64 ge)).setCell ⟨FP,1,none⟩ (.int .i64 ga)).heap[TP]?=some (.cells #[.int .i64 t] 33 (0,0))):=zh ((ak _ _ _ _ hd.o.2.2.2).trans ((ak _ _ _ _ hd.o.2.2.2).trans He.o));have Hc:Hd (((w9.setCell ⟨FP,0,none⟩ (.int .i64 ge)).setCell ⟨FP,1,none⟩ (.int .i64 ga)).heap[FP]?=some (.cells #[.int .i64 ge,.int .i64 ga] 118 (0,0))):=zh (au (au hN.o 0 _) 1 _);have hO:Hd (BoxA ((w9.setCell ⟨FP,0,none⟩ (.int .i64 ge)).setCell ⟨FP,1,none⟩ (.int .i64 ga)) cb vr CP SP VP RB _):=zh ((A.o.set FP 0 _ hd.o.2.1).set FP 1 _ hd.o.2.1);have Hf:Hd (Below CP w ((w9.setCell ⟨FP,0,none⟩ (.int .i64 ge)).setCell ⟨FP,1,none⟩ (.int .i64 ga))):=zh ((HB.o.setCell (p:=⟨FP,0,none⟩) hd.o.1.2 _).setCell (p:=⟨FP,1,none⟩) hd.o.1.2 _);clear z0 z1 y0 y1 A HB He hN l n hn;generalize ((w9.setCell ⟨FP,0,none⟩ (.int .i64 ge)).setCell ⟨FP,1,none⟩ (.int .i64 ga))=w10 at *;have l:=zh (h7.o.below (by rw [V.o.1];exact Hf.o));have Hn:=zh (fun W (hW:Below w10.heap.size w10 W)=>q8 vr v text t false W (l.o.view.below hW));have hL:Hd (w10.cell? ⟨VP,0,none⟩=some (.map (some vr))∧w10.cell? ⟨SP,1,none⟩=some (.string text)∧w10.cell? ⟨TP,0,none⟩=some (.int .i64 t)∧w10.cell? ⟨FP,0,none⟩=some (.int .i64 ge)∧w10.cell? ⟨FP,1,none⟩=some (.int .i64 ga)):=zh ⟨aa hO.o.v (j:=0) rfl,aa hO.o.s (j:=1) rfl,aa Ht.o (j:=0) rfl,aa Hc.o (j:=0) rfl,aa Hc.o (j:=1) rfl⟩;have Hs:Hd (w10.drew.cell? ⟨VP,0,none⟩=some (.map (some vr))∧w10.drew.cell? ⟨SP,1,none⟩=some (.string text)∧w10.drew.cell? ⟨TP,0,none⟩=some (.int .i64 t)∧w10.drew.cell? ⟨FP,0,none⟩=some (.int .i64 ge)∧w10.drew.cell? ⟨FP,1,none⟩=some (.int .i64 ga)):=zh hL.o;have Hi:=Hs.o;refine wp_region_held (S:=(fun w':World=>w'.cell? ⟨VP,0,none⟩=some (.map (some vr))∧w'.cell? ⟨SP,1,none⟩=some (.string text)∧w'.cell? ⟨TP,0,none⟩=some (.int .i64 t)∧w'.cell? ⟨FP,0,none⟩=some (.int .i64 ge)∧w'.cell? ⟨FP,1,none⟩=some (.int .i64 ga))) (by kernel_rfl) ?_;refine tkA 0 ?_;refine tkA 1 ?_;refine tkA 2 ?_;refine tkA 3 ?_;refine tkA 4 ?_;refine tkA 6 ?_;clear Hi;refine rd1 5 fun K hK=>?_;go_simp;go_at_call 135
  refine (Hn.o _ (aw (Below.refl _ _))).mono ?_;rintro e w11 ⟨r2,rfl,H2,hF⟩;have d:Hd (Below w10.heap.size w10 w11):=zh (am (aw (Below.refl _ _)) hF);have Ho:=zh H2;have hP:=zh (hO.o.below d.o);clear hF H2;go_simp;refine hK.out _ _ ?_ (fun hH=>?_)
  ·(try dsimp only)
   have q:=hL.o;exact ⟨(d.o.cell (az q.1)).trans q.1,(d.o.cell (az q.2.1)).trans q.2.1,(d.o.cell (az q.2.2.1)).trans q.2.2.1,(d.o.cell (az q.2.2.2.1)).trans q.2.2.2.1,(d.o.cell (az q.2.2.2.2)).trans q.2.2.2.2⟩
  clear hK K;try go_simp
  refine rd1 7 fun K hK=>?_;go_simp;refine hK.out _ _ ?_ (fun hH=>?_)
  ·(try dsimp only)
   have q:=hL.o;exact ⟨(d.o.cell (az q.1)).trans q.1,(d.o.cell (az q.2.1)).trans q.2.1,(d.o.cell (az q.2.2.1)).trans q.2.2.1,(d.o.cell (az q.2.2.2.1)).trans q.2.2.2.1,(d.o.cell (az q.2.2.2.2)).trans q.2.2.2.2⟩
  clear hK K;try go_simp
  obtain ⟨r0,r1,-⟩:=css hP.o.r;obtain ⟨k0,k1,-⟩:=fzs hP.o.r;refine rd1 8 fun K hK=>?_;go_simp;refine hK.out _ _ ?_ (fun hH=>?_)
  ·(try dsimp only)
   have q:=hL.o;exact ⟨(aS _ _ (Or.inl hM.o.2.2)).trans ((aS _ _ (Or.inl hM.o.2.2)).trans ((d.o.cell (az q.1)).trans q.1)),(aS _ _ (Or.inl hM.o.2.1)).trans ((aS _ _ (Or.inl hM.o.2.1)).trans ((d.o.cell (az q.2.1)).trans q.2.1)),(aS _ _ (Or.inl hd.o.2.2.1)).trans ((aS _ _ (Or.inl hd.o.2.2.1)).trans ((d.o.cell (az q.2.2.1)).trans q.2.2.1)),(aS _ _ (Or.inl hd.o.2.1.2.2.2)).trans ((aS _ _ (Or.inl hd.o.2.1.2.2.2)).trans ((d.o.cell (az q.2.2.2.1)).trans q.2.2.2.1)),(aS _ _ (Or.inl hd.o.2.1.2.2.2)).trans ((aS _ _ (Or.inl hd.o.2.1.2.2.2)).trans ((d.o.cell (az q.2.2.2.2)).trans q.2.2.2.2))⟩
  clear hK K;try go_simp
  refine wpAnyH_done (by kernel_rfl) ?_ _;go_wp2_with fail
  have J:=((Hf.o.trans (d.o.mono (Nat.le_of_lt (af hO.o.c)))).setCell (p:=⟨RB,0,none⟩) V.o.2.2 (.int .i64 ge)).setCell (p:=⟨RB,1,none⟩) V.o.2.2 (.int .i64 ga);rw [←V.o.1] at J;refine bodyPost_ret (v:=.tuple #[.map (some r2),.agg #[.int .i64 ge,.int .i64 ga]]) (by simp [results,Tryz.results104,go_sem,r0,r1]) rfl ⟨r2,by rw [HC.o];rfl,?_,J⟩;rw [HC.o];exact jm (jm Ho.o hP.o.r 0 _) (au hP.o.r 0 _) 1 _
 by_cases h8:op=8
 ·subst h8
  replace HC:=zh (HC.o.trans (DS F m text es body els pos v hk.o));have ha:0<n1:=by have q:(n1==1&&n2==0&&n3==0)=true:=ht;rw [Bool.and_eq_true,Bool.and_eq_true] at q;have:=eq_of_beq q.1.1;omega
  have s0:w3.cell? ⟨SP,0,none⟩=some (.int .i64 8):=aa A.o.s (j:=0) rfl;go_upto_region 22 with fail
  clear s0;obtain ⟨xb,xoff,xop,xnum,xt,xs,xn,xc,xpos,rfl,hv,H6,y0,y1,y2,y3,y4,z⟩:=du (hg.o.keep n.o) (by rw [←HN.o.1];exact ha);have H9:Hd ((es.headD default).pos=xpos∧(es.headD default).op=xop):=zh (by obtain ⟨_,e,_⟩:=cf z;rw [e];exact ⟨rfl,rfl⟩);have gn0:(0:Int)<(n1:Int):=by omega
  have u:=zh (fun W1 (h1:Below w3.heap.size w3 W1)=>ho.o (es.headD default) v vr W1 xop xnum xpos xt xs xn xc (l.o.below h1) (z.keep (Stays.of_below h1)));have H:Hd (S8 VP vr CP cb SP xb xoff n1 c1 xop xnum xt xs xn xc xpos w3):=zh ⟨aa A.o.v (j:=0) rfl,aa A.o.c (j:=0) rfl,aa A.o.s (j:=2) rfl,y0,y1,y2,y3,y4⟩;clear z y0 y1 y2 y3 y4;generalize aM F v (es.headD default)=xr at *;obtain ⟨t,fe,fa⟩:=xr;unfold bH at u;dsimp only at u HC;have k:S8 VP vr CP cb SP xb xoff n1 c1 xop xnum xt xs xn xc xpos w3.drew:=H.o.below (aw (Below.refl _ _));refine wp_region_held (S:=S8 VP vr CP cb SP xb xoff n1 c1 xop xnum xt xs xn xc xpos) (by kernel_rfl) ?_;refine tk (v:=?_) 0 (fun w B=>?_) ?_;rotate_left
  ·unfold S8 at B;go_simp;try with_reducible rfl
  refine tk (v:=?_) 1 (fun w B=>?_) ?_;rotate_left
  ·unfold S8 at B;go_simp;try with_reducible rfl
  refine tk (v:=?_) 2 (fun w B=>?_) ?_;rotate_left
  ·unfold S8 at B;go_simp;try with_reducible rfl
  refine tk (v:=?_) 3 (fun w B=>?_) ?_;rotate_left
  ·unfold S8 at B;go_simp;try with_reducible rfl
  refine tk (v:=?_) 4 (fun w B=>?_) ?_;rotate_left
  ·unfold S8 at B;go_simp;try with_reducible rfl
  refine tk (v:=?_) 5 (fun w B=>?_) ?_;rotate_left
  ·unfold S8 at B;go_simp;try with_reducible rfl
  have f:Hd (Below w3.heap.size w3 w3.drew):=zh (aw (Below.refl _ _));refine wpAnyH_ready (rs:=[6,10]) (by kernel_rfl) (by simp) ?_;refine (AllReadyH.cons rfl (fun K hK=>?_) (AllReadyH.cons rfl (fun K hK=>?_) AllReadyH.nil))
  ·go_simp
   go_at_call 131
   refine (u.o _ f.o).mono ?_;rintro e w5 ⟨rfl,I⟩;have G:=zh (f.o.trans (I.mono f.o.size));clear I k;go_simp;refine hK.out _ _ ?_ (fun hH=>?_)
   ·exact H.o.below G.o
   clear hK K;try go_simp
   refine tk (v:=?_) 7 (fun w B=>?_) ?_;rotate_left
   ·unfold S8 at B;go_simp;try with_reducible rfl
   refine tk (v:=?_) 8 (fun w B=>?_) ?_;rotate_left
   ·unfold S8 at B;go_simp;try with_reducible rfl
   refine tk (v:=?_) 9 (fun w B=>?_) ?_;rotate_left
   ·unfold S8 at B;go_simp;try with_reducible rfl
   refine rd1 10 fun K hK=>?_;go_simp;have D:Hd (Below w3.heap.size w3 (w5.alloc (.cells #[.int .i64 0,.int .i64 0] 118))):=zh (ag G.o _);have O:Hd ((w5.alloc (.cells #[.int .i64 0,.int .i64 0] 118)).heap[w5.heap.size]?=some (.cells #[.int .i64 0,.int .i64 0] 118 (0,0))):=zh (aj _ _ _ rfl);refine hK.out _ _ ?_ (fun hH=>?_)
   ·exact H.o.below D.o
   clear hK K;try go_simp
   refine tk (v:=?_) 11 (fun w B=>?_) ?_;rotate_left
   ·unfold S8 at B;go_simp;try with_reducible rfl
   have hs:Hd (Below w3.heap.size w3 (w5.alloc (.cells #[.int .i64 fe,.int .i64 fa] 118))):=zh (ag G.o _);have H1:Hd ((w5.alloc (.cells #[.int .i64 fe,.int .i64 fa] 118)).heap[(w5.heap.size)]?=some (.cells #[.int .i64 fe,.int .i64 fa] 118 (0,0))):=zh (aj _ _ _ rfl);refine rd1 12 fun K hK=>?_;go_simp;refine hK.out _ _ ?_ (fun hH=>?_)
   ·exact H.o.below hs.o
   clear hK K;try go_simp
   refine wpAnyH_done (by kernel_rfl) ?_ _;have U:=A;replace A:=zh (A.o.below hs.o);replace HB:=zh (HB.o.trans (hs.o.mono (Nat.le_of_lt (af U.o.c))));clear U;clear H hG hh l n u;generalize (w5.alloc (.cells #[.int .i64 fe,.int .i64 fa] 118))=w6 at *;have l:=zh (h7.o.below (by rw [V.o.1];exact HB.o));have n:Hd (Stays Any w w6):=zh (Stays.of_below (by rw [V.o.1];exact HB.o));go_upto_region 23 with fail
   have HE:=zh (HC.o.trans (rfl));have h6:=zh (zM (yB H1.o) (yY (by rw [←HN.o.1];exact ha) (hg.o.keep n.o) A.o.s) w6.drew (Below.refl _ _).drew 173);generalize hq:aR [(fe,fa),noC ((es.headD default).op==5) 51 (es.headD default).pos]=q at *;obtain ⟨fe,fa⟩:=q;have X:=zh (fh _ _ _ h6.o);rw [hq] at X;clear hq h6;unfold bH at X;dsimp only at X;have g:Hd (w6.drew.cell? ⟨VP,0,none⟩=some (.map (some vr))):=zh (aa A.o.v (j:=0) rfl);have k:=g.o;refine ay (S:=(fun w':World=>w'.cell? ⟨VP,0,none⟩=some (.map (some vr)))) 5 (by kernel_rfl) (by kernel_rfl) (by exact g.o) (fun hH=>?_);simp only [List.take_succ_cons,List.take_zero,List.drop_succ_cons,List.drop_zero]
   refine tkA 0 ?_;refine tkA 1 ?_;refine tkA 2 ?_;refine rd1 3 fun K hK=>?_;go_simp;refine hK.out _ _ ?_ (fun hH=>?_)
   ·(try dsimp only)
    exact aq _ g.o
   clear hK K;try go_simp
   refine rd1 4 fun K hK=>?_;go_simp;go_at_call 79
   refine X.o.mono ?_;rintro e w5 ⟨rfl,I⟩;have M:Below w6.heap.size w6 w5:=am (ag (aw (Below.refl _ _)) _) I;have U:=A;replace A:=zh (A.o.below M);replace HB:=zh (HB.o.trans (M.mono (Nat.le_of_lt (af U.o.c))));clear U;have h9:Hd (w5.cell? ⟨VP,0,none⟩=some (.map (some vr))):=zh (aa A.o.v (j:=0) rfl);clear I M k;go_simp;refine hK.out _ _ ?_ (fun hH=>?_)
   ·(try dsimp only)
    exact h9.o
   clear hK K;try go_simp
   refine wpAnyH_done (by kernel_rfl) ?_ _;dsimp only [aP];obtain ⟨r0,r1,-⟩:=css A.o.r;obtain ⟨k0,k1,-⟩:=fzs A.o.r;go_wp2_with fail
   have J:=(HB.o.setCell (p:=⟨RB,0,none⟩) V.o.2.2 (.int .i64 fe)).setCell (p:=⟨RB,1,none⟩) V.o.2.2 (.int .i64 fa);rw [←V.o.1] at J;refine bodyPost_ret (v:=.tuple #[.map (some vr),.agg #[.int .i64 fe,.int .i64 fa]]) (by simp [results,Tryz.results104,go_sem,r0,r1]) rfl ⟨vr,by rw [HE.o];rfl,?_,J⟩;rw [HE.o];exact h7.o.view.below J
  go_simp;have G:Hd (Below w3.heap.size w3 (w3.drew.alloc (.cells #[.int .i64 0,.int .i64 0] 118))):=zh (ag f.o _);have O:Hd ((w3.drew.alloc (.cells #[.int .i64 0,.int .i64 0] 118)).heap[w3.drew.heap.size]?=some (.cells #[.int .i64 0,.int .i64 0] 118 (0,0))):=zh (aj _ _ _ rfl);clear k;refine hK.out _ _ ?_ (fun hH=>?_)
  ·exact H.o.below G.o
  clear hK K;try go_simp
  refine rd1 6 fun K hK=>?_;go_simp;go_at_call 131
  refine (u.o _ G.o).mono ?_;rintro e w5 ⟨rfl,I⟩;have D:=zh (G.o.trans (I.mono G.o.size));replace O:=zh ((I.block _ (af O.o)).trans O.o);clear I;go_simp;refine hK.out _ _ ?_ (fun hH=>?_)
  ·exact H.o.below D.o
  clear hK K;try go_simp
  refine tk (v:=?_) 7 (fun w B=>?_) ?_;rotate_left
  ·unfold S8 at B;go_simp;try with_reducible rfl
  refine tk (v:=?_) 8 (fun w B=>?_) ?_;rotate_left
  ·unfold S8 at B;go_simp;try with_reducible rfl
  refine tk (v:=?_) 9 (fun w B=>?_) ?_;rotate_left
  ·unfold S8 at B;go_simp;try with_reducible rfl
  refine tk (v:=?_) 11 (fun w B=>?_) ?_;rotate_left
  ·unfold S8 at B;go_simp;try with_reducible rfl
  have hS:w3.heap.size≤(w3.heap.size):=Nat.le_refl _;have z0:w5.cell? ⟨(w3.heap.size),0,none⟩=some (.int .i64 0):=aa O.o (j:=0) rfl;have z1:w5.cell? ⟨(w3.heap.size),1,none⟩=some (.int .i64 0):=aa O.o (j:=1) rfl;have y0:w5.frozen? ⟨(w3.heap.size),0,none⟩=false:=ae O.o 0;have y1:w5.frozen? ⟨(w3.heap.size),1,none⟩=false:=ae O.o 1;have hs:Hd (Below w3.heap.size w3 ((w5.setCell ⟨(w3.heap.size),0,none⟩ (.int .i64 fe)).setCell ⟨(w3.heap.size),1,none⟩ (.int .i64 fa))):=zh ((D.o.setCell (p:=⟨(w3.heap.size),0,none⟩) hS _).setCell (p:=⟨(w3.heap.size),1,none⟩) hS _);have H1:Hd (((w5.setCell ⟨(w3.heap.size),0,none⟩ (.int .i64 fe)).setCell ⟨(w3.heap.size),1,none⟩ (.int .i64 fa)).heap[(w3.heap.size)]?=some (.cells #[.int .i64 fe,.int .i64 fa] 118 (0,0))):=zh (au (au O.o 0 _) 1 _);refine rd1 12 fun K hK=>?_;go_simp;refine hK.out _ _ ?_ (fun hH=>?_)
  ·exact H.o.below hs.o
  clear hK K;try go_simp
  refine wpAnyH_done (by kernel_rfl) ?_ _;clear z0 z1 y0 y1 hS;have U:=A;replace A:=zh (A.o.below hs.o);replace HB:=zh (HB.o.trans (hs.o.mono (Nat.le_of_lt (af U.o.c))));clear U;clear H hG hh l n u;generalize ((w5.setCell ⟨(w3.heap.size),0,none⟩ (.int .i64 fe)).setCell ⟨(w3.heap.size),1,none⟩ (.int .i64 fa))=w6 at *;have l:=zh (h7.o.below (by rw [V.o.1];exact HB.o));have n:Hd (Stays Any w w6):=zh (Stays.of_below (by rw [V.o.1];exact HB.o));go_upto_region 23 with fail
  have HE:=zh (HC.o.trans (rfl));have h6:=zh (zM (yB H1.o) (yY (by rw [←HN.o.1];exact ha) (hg.o.keep n.o) A.o.s) w6.drew (Below.refl _ _).drew 173);generalize hq:aR [(fe,fa),noC ((es.headD default).op==5) 51 (es.headD default).pos]=q at *;obtain ⟨fe,fa⟩:=q;have X:=zh (fh _ _ _ h6.o);rw [hq] at X;clear hq h6;unfold bH at X;dsimp only at X;have g:Hd (w6.drew.cell? ⟨VP,0,none⟩=some (.map (some vr))):=zh (aa A.o.v (j:=0) rfl);have k:=g.o;refine ay (S:=(fun w':World=>w'.cell? ⟨VP,0,none⟩=some (.map (some vr)))) 5 (by kernel_rfl) (by kernel_rfl) (by exact g.o) (fun hH=>?_);simp only [List.take_succ_cons,List.take_zero,List.drop_succ_cons,List.drop_zero]
  refine tkA 0 ?_;refine tkA 1 ?_;refine tkA 2 ?_;refine rd1 3 fun K hK=>?_;go_simp;refine hK.out _ _ ?_ (fun hH=>?_)
  ·(try dsimp only)
   exact aq _ g.o
  clear hK K;try go_simp
  refine rd1 4 fun K hK=>?_;go_simp;go_at_call 79
  refine X.o.mono ?_;rintro e w5 ⟨rfl,I⟩;have M:Below w6.heap.size w6 w5:=am (ag (aw (Below.refl _ _)) _) I;have U:=A;replace A:=zh (A.o.below M);replace HB:=zh (HB.o.trans (M.mono (Nat.le_of_lt (af U.o.c))));clear U;have h9:Hd (w5.cell? ⟨VP,0,none⟩=some (.map (some vr))):=zh (aa A.o.v (j:=0) rfl);clear I M k;go_simp;refine hK.out _ _ ?_ (fun hH=>?_)
  ·(try dsimp only)
   exact h9.o
  clear hK K;try go_simp
  refine wpAnyH_done (by kernel_rfl) ?_ _;dsimp only [aP];obtain ⟨r0,r1,-⟩:=css A.o.r;obtain ⟨k0,k1,-⟩:=fzs A.o.r;go_wp2_with fail
  have J:=(HB.o.setCell (p:=⟨RB,0,none⟩) V.o.2.2 (.int .i64 fe)).setCell (p:=⟨RB,1,none⟩) V.o.2.2 (.int .i64 fa);rw [←V.o.1] at J;refine bodyPost_ret (v:=.tuple #[.map (some vr),.agg #[.int .i64 fe,.int .i64 fa]]) (by simp [results,Tryz.results104,go_sem,r0,r1]) rfl ⟨vr,by rw [HE.o];rfl,?_,J⟩;rw [HE.o];exact h7.o.view.below J
 by_cases h5:op=5
 ·subst h5
  by_cases hz:n1=0
  ·subst hz
   have HE:=zh (HC.o.trans (DL F m text es body els pos v HN.o.1.symm hk.o));obtain ⟨frr,Hj,_⟩:=l.o.obj;obtain ⟨s0,-,q2,-⟩:=css A.o.s;have X:=zh (cZ (m==0) 51 pos w3.drew);generalize noC (m==0) 51 pos=q at *;obtain ⟨fe,fa⟩:=q;unfold bH at X;dsimp only at X;go_upto_region 18 with fail
   clear s0 q2;have H:Hd (w3.cell? ⟨VP,0,none⟩=some (.map (some vr))∧w3.cell? ⟨CP,0,none⟩=some (.pointer (some ⟨cb,0,none⟩))∧w3.cell? ⟨cb,1,none⟩=some (.int .i64 m)∧w3.cell? ⟨SP,5,none⟩=some (.int .i64 pos)):=zh ⟨aa A.o.v (j:=0) rfl,aa A.o.c (j:=0) rfl,aa Hj (j:=1) rfl,aa A.o.s (j:=5) rfl⟩;have g:Hd (w3.drew.cell? ⟨VP,0,none⟩=some (.map (some vr))∧w3.drew.cell? ⟨CP,0,none⟩=some (.pointer (some ⟨cb,0,none⟩))∧w3.drew.cell? ⟨cb,1,none⟩=some (.int .i64 m)∧w3.drew.cell? ⟨SP,5,none⟩=some (.int .i64 pos)):=zh H.o;have k:=g.o;refine ay (S:=(fun w':World=>w'.cell? ⟨VP,0,none⟩=some (.map (some vr))∧w'.cell? ⟨CP,0,none⟩=some (.pointer (some ⟨cb,0,none⟩))∧w'.cell? ⟨cb,1,none⟩=some (.int .i64 m)∧w'.cell? ⟨SP,5,none⟩=some (.int .i64 pos))) 9 (by kernel_rfl) (by kernel_rfl) (by exact g.o) (fun hH=>?_);simp only [List.take_succ_cons,List.take_zero,List.drop_succ_cons,List.drop_zero]
   refine tkA 0 ?_;refine tkA 1 ?_;refine tkA 2 ?_;refine tkA 3 ?_;refine tkA 4 ?_;refine tkA 5 ?_;refine tkA 6 ?_;refine tkA 7 ?_;refine rd1 8 fun K hK=>?_;go_simp;go_at_call 83
   refine X.o.mono ?_;rintro e w5 ⟨rfl,I⟩;have M:Below w3.heap.size w3 w5:=am (aw (Below.refl _ _)) I;have h9:Hd (w5.cell? ⟨VP,0,none⟩=some (.map (some vr))∧w5.cell? ⟨CP,0,none⟩=some (.pointer (some ⟨cb,0,none⟩))∧w5.cell? ⟨cb,1,none⟩=some (.int .i64 m)∧w5.cell? ⟨SP,5,none⟩=some (.int .i64 pos)):=zh ⟨(M.cell (p:=⟨VP,0,none⟩) (az H.o.1)).trans H.o.1,(M.cell (p:=⟨CP,0,none⟩) (az H.o.2.1)).trans H.o.2.1,(M.cell (p:=⟨cb,1,none⟩) (az H.o.2.2.1)).trans H.o.2.2.1,(M.cell (p:=⟨SP,5,none⟩) (az H.o.2.2.2)).trans H.o.2.2.2⟩;have U:=A;replace A:=zh (A.o.below M);replace HB:=zh (HB.o.trans (M.mono (Nat.le_of_lt (af U.o.c))));clear U;clear I M k;go_simp;refine hK.out _ _ ?_ (fun hH=>?_)
   ·(try dsimp only)
    exact h9.o
   clear hK K;try go_simp
   refine wpAnyH_done (by kernel_rfl) ?_ _;dsimp only [aP];obtain ⟨r0,r1,-⟩:=css A.o.r;obtain ⟨k0,k1,-⟩:=fzs A.o.r;go_wp2_with fail
   have J:=(HB.o.setCell (p:=⟨RB,0,none⟩) V.o.2.2 (.int .i64 fe)).setCell (p:=⟨RB,1,none⟩) V.o.2.2 (.int .i64 fa);rw [←V.o.1] at J;refine bodyPost_ret (v:=.tuple #[.map (some vr),.agg #[.int .i64 fe,.int .i64 fa]]) (by simp [results,Tryz.results104,go_sem,r0,r1]) rfl ⟨vr,by rw [HE.o];rfl,?_,J⟩;rw [HE.o];exact h7.o.view.below J
  replace HC:=zh (HC.o.trans (Dr F m text es body els pos v (by rw [←HN.o.1];exact hz) hk.o));have ha:0<n1:=by omega
  obtain ⟨s0,-,q2,-⟩:=css A.o.s;go_upto_region 19 with fail
  clear s0 q2;have hp:Hd (CP<w3.heap.size∧SP<w3.heap.size∧VP<w3.heap.size∧RB<w3.heap.size):=zh ⟨af A.o.c,af A.o.s,af A.o.v,af A.o.r⟩;obtain ⟨xb,xoff,xop,xnum,xt,xs,xn,xc,xpos,rfl,hv,H6,y0,y1,y2,y3,y4,z⟩:=du (hg.o.keep n.o) (by rw [←HN.o.1];exact ha);have H9:Hd ((es.headD default).pos=xpos∧(es.headD default).op=xop):=zh (by obtain ⟨_,e,_⟩:=cf z;rw [e];exact ⟨rfl,rfl⟩);have gn0:(0:Int)<(n1:Int):=by omega
  have u:=zh (fun W1 (h1:Below w3.heap.size w3 W1)=>ho.o (es.headD default) v vr W1 xop xnum xpos xt xs xn xc (l.o.below h1) (z.keep (Stays.of_below h1)));have H:Hd (S8 VP vr CP cb SP xb xoff n1 c1 xop xnum xt xs xn xc xpos w3):=zh ⟨aa A.o.v (j:=0) rfl,aa A.o.c (j:=0) rfl,aa A.o.s (j:=2) rfl,y0,y1,y2,y3,y4⟩;clear z y0 y1 y2 y3 y4;generalize aM F v (es.headD default)=xr at *;obtain ⟨t,fe,fa⟩:=xr;unfold bH at u;dsimp only at u HC;apply shared (fun TP FP w8=>Below w3.heap.size w3 w8∧w8.heap[TP]?=some (.cells #[.int .i64 t] 33 (0,0))∧w8.heap[FP]?=some (.cells #[.int .i64 fe,.int .i64 fa] 118 (0,0))∧w3.heap.size≤TP∧w3.heap.size≤FP∧¬TP=FP);intro HL;have k:S8 VP vr CP cb SP xb xoff n1 c1 xop xnum xt xs xn xc xpos w3.drew:=H.o.below (aw (Below.refl _ _));refine wp_region_held (S:=S8 VP vr CP cb SP xb xoff n1 c1 xop xnum xt xs xn xc xpos) (by kernel_rfl) ?_;refine tk (v:=?_) 0 (fun w B=>?_) ?_;rotate_left
  ·unfold S8 at B;go_simp;try with_reducible rfl
  refine tk (v:=?_) 1 (fun w B=>?_) ?_;rotate_left
  ·unfold S8 at B;go_simp;try with_reducible rfl
  refine tk (v:=?_) 2 (fun w B=>?_) ?_;rotate_left
  ·unfold S8 at B;go_simp;try with_reducible rfl
  refine tk (v:=?_) 3 (fun w B=>?_) ?_;rotate_left
  ·unfold S8 at B;go_simp;try with_reducible rfl
  refine tk (v:=?_) 4 (fun w B=>?_) ?_;rotate_left
  ·unfold S8 at B;go_simp;try with_reducible rfl
  refine tk (v:=?_) 5 (fun w B=>?_) ?_;rotate_left
  ·unfold S8 at B;go_simp;try with_reducible rfl
  have f:Hd (Below w3.heap.size w3 w3.drew):=zh (aw (Below.refl _ _));refine wpAnyH_ready (rs:=[6,10,11]) (by kernel_rfl) (by simp) ?_;refine (AllReadyH.cons rfl (fun K hK=>?_) (AllReadyH.cons rfl (fun K hK=>?_) (AllReadyH.cons rfl (fun K hK=>?_) AllReadyH.nil)))
  ·go_simp
   go_at_call 131
   refine (u.o _ f.o).mono ?_;rintro e w5 ⟨rfl,I⟩;have G:=zh (f.o.trans (I.mono f.o.size));have hc:=zh I.size;clear I k;go_simp;refine hK.out _ _ ?_ (fun hH=>?_)
   ·exact H.o.below G.o
   clear hK K;try go_simp
   refine tk (v:=?_) 7 (fun w B=>?_) ?_;rotate_left
   ·unfold S8 at B;go_simp;try with_reducible rfl
   refine tk (v:=?_) 8 (fun w B=>?_) ?_;rotate_left
   ·unfold S8 at B;go_simp;try with_reducible rfl
   refine tk (v:=?_) 9 (fun w B=>?_) ?_;rotate_left
   ·unfold S8 at B;go_simp;try with_reducible rfl
   refine wpAnyH_ready (rs:=[10,11]) (by kernel_rfl) (by simp) ?_;refine (AllReadyH.cons rfl (fun K hK=>?_) (AllReadyH.cons rfl (fun K hK=>?_) AllReadyH.nil))
   ·go_simp
    have D:Hd (Below w3.heap.size w3 (w5.alloc (.cells #[.int .i64 0] 33))):=zh (ag G.o _);have P:Hd ((w5.alloc (.cells #[.int .i64 0] 33)).heap[w5.heap.size]?=some (.cells #[.int .i64 0] 33 (0,0))):=zh (aj _ _ _ rfl);refine hK.out _ _ ?_ (fun hH=>?_)
    ·exact H.o.below D.o
    clear hK K;try go_simp
    refine rd1 11 fun K hK=>?_;go_simp;have L:Hd (Below w3.heap.size w3 ((w5.alloc (.cells #[.int .i64 0] 33)).alloc (.cells #[.int .i64 0,.int .i64 0] 118))):=zh (ag D.o _);have O:Hd (((w5.alloc (.cells #[.int .i64 0] 33)).alloc (.cells #[.int .i64 0,.int .i64 0] 118)).heap[(w5.alloc (.cells #[.int .i64 0] 33)).heap.size]?=some (.cells #[.int .i64 0,.int .i64 0] 118 (0,0))):=zh (aj _ _ _ rfl);replace P:Hd (((w5.alloc (.cells #[.int .i64 0] 33)).alloc (.cells #[.int .i64 0,.int .i64 0] 118)).heap[_]?=_):=zh (ax _ _ _ _ P.o);refine hK.out _ _ ?_ (fun hH=>?_)
    ·exact H.o.below L.o
    clear hK K;try go_simp
    obtain ⟨N3,R⟩:∃N,N=w3.heap.size:=⟨_,rfl⟩
    have y:w3.heap.size≤w5.heap.size:=G.o.size;have f1:Below N3 w3 ((w5.alloc (.cells #[.int .i64 0] 33)).alloc (.cells #[.int .i64 0,.int .i64 0] 118)):=by rw [R];exact L.o
    have f2:((w5.alloc (.cells #[.int .i64 0] 33)).alloc (.cells #[.int .i64 0,.int .i64 0] 118)).heap[w5.heap.size]?=some (.cells #[.int .i64 0] 33 (0,0)):=by
     have q:=P.o;exact q
    have f3:((w5.alloc (.cells #[.int .i64 0] 33)).alloc (.cells #[.int .i64 0,.int .i64 0] 118)).heap[w5.heap.size+1]?=some (.cells #[.int .i64 0,.int .i64 0] 118 (0,0)):=by
     have q:=O.o;rw [ah] at q;exact q
    have f4:N3≤w5.heap.size∧N3≤w5.heap.size+1∧¬w5.heap.size=w5.heap.size+1:=by omega
    revert f1 f2 f3 f4;generalize ((w5.alloc (.cells #[.int .i64 0] 33)).alloc (.cells #[.int .i64 0,.int .i64 0] 118))=w6;generalize w5.heap.size+1=FP;generalize w5.heap.size=TP;intro f1 f2 f3 f4;rw [R] at f1 f4;have b:=zh f1;have Q:=zh f2;have a:=zh f3;have E:=zh f4;clear f1 f2 f3 f4 R y P O;have z0:w6.cell? ⟨TP,0,none⟩=some (.int .i64 0):=aa Q.o (j:=0) rfl;have y0:w6.frozen? ⟨TP,0,none⟩=false:=ae Q.o 0;refine rd1 12 fun K hK=>?_;go_simp;have Z:Hd (Below w3.heap.size w3 (w6.setCell ⟨TP,0,none⟩ (.int .i64 t))):=zh (b.o.setCell (p:=⟨TP,0,none⟩) E.o.1 _);have h0:Hd ((w6.setCell ⟨TP,0,none⟩ (.int .i64 t)).heap[TP]?=some (.cells #[.int .i64 t] 33 (0,0))):=zh (au Q.o 0 _);have T:Hd ((w6.setCell ⟨TP,0,none⟩ (.int .i64 t)).heap[FP]?=some (.cells #[.int .i64 0,.int .i64 0] 118 (0,0))):=zh ((ak _ _ _ _ (fun e=>E.o.2.2 e.symm)).trans a.o);refine hK.out _ _ ?_ (fun hH=>?_)
    ·exact H.o.below Z.o
    clear hK K;try go_simp
    clear z0 y0 b Q a;generalize (w6.setCell ⟨TP,0,none⟩ (.int .i64 t))=w7 at *;obtain ⟨z0,z1,-⟩:=css T.o;obtain ⟨y0,y1,-⟩:=fzs T.o;refine rd1 13 fun K hK=>?_;go_simp;have Y:=((Z.o.setCell (p:=⟨FP,0,none⟩) E.o.2.1 (.int .i64 fe)).setCell (p:=⟨FP,1,none⟩) E.o.2.1 (.int .i64 fa))
    refine hK.out _ _ ?_ (fun hH=>?_)
    ·exact H.o.below Y
    clear hK K;try go_simp
    refine wpAnyH_done (by kernel_rfl) ?_ _;exact HL TP FP _ ⟨Y,(ak _ _ _ _ E.o.2.2).trans ((ak _ _ _ _ E.o.2.2).trans h0.o),au (au T.o 0 _) 1 _,E.o⟩
   go_simp;have D:Hd (Below w3.heap.size w3 (w5.alloc (.cells #[.int .i64 0,.int .i64 0] 118))):=zh (ag G.o _);have O:Hd ((w5.alloc (.cells #[.int .i64 0,.int .i64 0] 118)).heap[w5.heap.size]?=some (.cells #[.int .i64 0,.int .i64 0] 118 (0,0))):=zh (aj _ _ _ rfl);refine hK.out _ _ ?_ (fun hH=>?_)
   ·exact H.o.below D.o
   clear hK K;try go_simp
   refine rd1 10 fun K hK=>?_;go_simp;have L:Hd (Below w3.heap.size w3 ((w5.alloc (.cells #[.int .i64 0,.int .i64 0] 118)).alloc (.cells #[.int .i64 0] 33))):=zh (ag D.o _);have P:Hd (((w5.alloc (.cells #[.int .i64 0,.int .i64 0] 118)).alloc (.cells #[.int .i64 0] 33)).heap[(w5.alloc (.cells #[.int .i64 0,.int .i64 0] 118)).heap.size]?=some (.cells #[.int .i64 0] 33 (0,0))):=zh (aj _ _ _ rfl);replace O:Hd (((w5.alloc (.cells #[.int .i64 0,.int .i64 0] 118)).alloc (.cells #[.int .i64 0] 33)).heap[_]?=_):=zh (ax _ _ _ _ O.o);refine hK.out _ _ ?_ (fun hH=>?_)
   ·exact H.o.below L.o
   clear hK K;try go_simp
   obtain ⟨N3,R⟩:∃N,N=w3.heap.size:=⟨_,rfl⟩
   have y:w3.heap.size≤w5.heap.size:=G.o.size;have f1:Below N3 w3 ((w5.alloc (.cells #[.int .i64 0,.int .i64 0] 118)).alloc (.cells #[.int .i64 0] 33)):=by rw [R];exact L.o
   have f2:((w5.alloc (.cells #[.int .i64 0,.int .i64 0] 118)).alloc (.cells #[.int .i64 0] 33)).heap[w5.heap.size+1]?=some (.cells #[.int .i64 0] 33 (0,0)):=by
    have q:=P.o;rw [ah] at q;exact q
   have f3:((w5.alloc (.cells #[.int .i64 0,.int .i64 0] 118)).alloc (.cells #[.int .i64 0] 33)).heap[w5.heap.size]?=some (.cells #[.int .i64 0,.int .i64 0] 118 (0,0)):=by
    have q:=O.o;exact q
   have f4:N3≤w5.heap.size+1∧N3≤w5.heap.size∧¬w5.heap.size+1=w5.heap.size:=by omega
   revert f1 f2 f3 f4;generalize ((w5.alloc (.cells #[.int .i64 0,.int .i64 0] 118)).alloc (.cells #[.int .i64 0] 33))=w6;generalize w5.heap.size+1=TP;generalize w5.heap.size=FP;intro f1 f2 f3 f4;rw [R] at f1 f4;have b:=zh f1;have Q:=zh f2;have a:=zh f3;have E:=zh f4;clear f1 f2 f3 f4 R y P O;have z0:w6.cell? ⟨TP,0,none⟩=some (.int .i64 0):=aa Q.o (j:=0) rfl;have y0:w6.frozen? ⟨TP,0,none⟩=false:=ae Q.o 0;refine rd1 12 fun K hK=>?_;go_simp;have Z:Hd (Below w3.heap.size w3 (w6.setCell ⟨TP,0,none⟩ (.int .i64 t))):=zh (b.o.setCell (p:=⟨TP,0,none⟩) E.o.1 _);have h0:Hd ((w6.setCell ⟨TP,0,none⟩ (.int .i64 t)).heap[TP]?=some (.cells #[.int .i64 t] 33 (0,0))):=zh (au Q.o 0 _);have T:Hd ((w6.setCell ⟨TP,0,none⟩ (.int .i64 t)).heap[FP]?=some (.cells #[.int .i64 0,.int .i64 0] 118 (0,0))):=zh ((ak _ _ _ _ (fun e=>E.o.2.2 e.symm)).trans a.o);refine hK.out _ _ ?_ (fun hH=>?_)
   ·exact H.o.below Z.o
   clear hK K;try go_simp
   clear z0 y0 b Q a;generalize (w6.setCell ⟨TP,0,none⟩ (.int .i64 t))=w7 at *;obtain ⟨z0,z1,-⟩:=css T.o;obtain ⟨y0,y1,-⟩:=fzs T.o;refine rd1 13 fun K hK=>?_;go_simp;have Y:=((Z.o.setCell (p:=⟨FP,0,none⟩) E.o.2.1 (.int .i64 fe)).setCell (p:=⟨FP,1,none⟩) E.o.2.1 (.int .i64 fa))
   refine hK.out _ _ ?_ (fun hH=>?_)
   ·exact H.o.below Y
   clear hK K;try go_simp
   refine wpAnyH_done (by kernel_rfl) ?_ _;exact HL TP FP _ ⟨Y,(ak _ _ _ _ E.o.2.2).trans ((ak _ _ _ _ E.o.2.2).trans h0.o),au (au T.o 0 _) 1 _,E.o⟩
  ·go_simp
   have G:Hd (Below w3.heap.size w3 (w3.drew.alloc (.cells #[.int .i64 0] 33))):=zh (ag f.o _);have P:Hd ((w3.drew.alloc (.cells #[.int .i64 0] 33)).heap[w3.drew.heap.size]?=some (.cells #[.int .i64 0] 33 (0,0))):=zh (aj _ _ _ rfl);clear k;refine hK.out _ _ ?_ (fun hH=>?_)
   ·exact H.o.below G.o
   clear hK K;try go_simp
   refine wpAnyH_ready (rs:=[6,11]) (by kernel_rfl) (by simp) ?_;refine (AllReadyH.cons rfl (fun K hK=>?_) (AllReadyH.cons rfl (fun K hK=>?_) AllReadyH.nil))
   ·go_simp
    go_at_call 131
    refine (u.o _ G.o).mono ?_;rintro e w5 ⟨rfl,I⟩;have D:=zh (G.o.trans (I.mono G.o.size));replace P:=zh ((I.block _ (af P.o)).trans P.o);have hc:=zh I.size;clear I;go_simp;refine hK.out _ _ ?_ (fun hH=>?_)
    ·exact H.o.below D.o
    clear hK K;try go_simp
    refine tk (v:=?_) 7 (fun w B=>?_) ?_;rotate_left
    ·unfold S8 at B;go_simp;try with_reducible rfl
    refine tk (v:=?_) 8 (fun w B=>?_) ?_;rotate_left
    ·unfold S8 at B;go_simp;try with_reducible rfl
    refine tk (v:=?_) 9 (fun w B=>?_) ?_;rotate_left
    ·unfold S8 at B;go_simp;try with_reducible rfl
    refine rd1 11 fun K hK=>?_;go_simp;have L:Hd (Below w3.heap.size w3 (w5.alloc (.cells #[.int .i64 0,.int .i64 0] 118))):=zh (ag D.o _);have O:Hd ((w5.alloc (.cells #[.int .i64 0,.int .i64 0] 118)).heap[w5.heap.size]?=some (.cells #[.int .i64 0,.int .i64 0] 118 (0,0))):=zh (aj _ _ _ rfl);replace P:Hd ((w5.alloc (.cells #[.int .i64 0,.int .i64 0] 118)).heap[_]?=_):=zh (ax _ _ _ _ P.o);refine hK.out _ _ ?_ (fun hH=>?_)
    ·exact H.o.below L.o
    clear hK K;try go_simp
    obtain ⟨N3,R⟩:∃N,N=w3.heap.size:=⟨_,rfl⟩
    have y:w3.heap.size≤w5.heap.size:=D.o.size;have hm:w3.heap.size+1≤w5.heap.size:=by have q:=hc.o;rw [ah] at q;exact q
    have f1:Below N3 w3 (w5.alloc (.cells #[.int .i64 0,.int .i64 0] 118)):=by rw [R];exact L.o
    have f2:(w5.alloc (.cells #[.int .i64 0,.int .i64 0] 118)).heap[w3.heap.size]?=some (.cells #[.int .i64 0] 33 (0,0)):=by
     have q:=P.o;exact q
    have f3:(w5.alloc (.cells #[.int .i64 0,.int .i64 0] 118)).heap[w5.heap.size]?=some (.cells #[.int .i64 0,.int .i64 0] 118 (0,0)):=by
     have q:=O.o;exact q
    have f4:N3≤w3.heap.size∧N3≤w5.heap.size∧¬w3.heap.size=w5.heap.size:=by omega
    revert f1 f2 f3 f4;generalize (w5.alloc (.cells #[.int .i64 0,.int .i64 0] 118))=w6;generalize w3.heap.size=TP;generalize w5.heap.size=FP;intro f1 f2 f3 f4;rw [R] at f1 f4;have b:=zh f1;have Q:=zh f2;have a:=zh f3;have E:=zh f4;clear f1 f2 f3 f4 R y hm P O;have z0:w6.cell? ⟨TP,0,none⟩=some (.int .i64 0):=aa Q.o (j:=0) rfl;have y0:w6.frozen? ⟨TP,0,none⟩=false:=ae Q.o 0;refine rd1 12 fun K hK=>?_;go_simp;have Z:Hd (Below w3.heap.size w3 (w6.setCell ⟨TP,0,none⟩ (.int .i64 t))):=zh (b.o.setCell (p:=⟨TP,0,none⟩) E.o.1 _);have h0:Hd ((w6.setCell ⟨TP,0,none⟩ (.int .i64 t)).heap[TP]?=some (.cells #[.int .i64 t] 33 (0,0))):=zh (au Q.o 0 _);have T:Hd ((w6.setCell ⟨TP,0,none⟩ (.int .i64 t)).heap[FP]?=some (.cells #[.int .i64 0,.int .i64 0] 118 (0,0))):=zh ((ak _ _ _ _ (fun e=>E.o.2.2 e.symm)).trans a.o);refine hK.out _ _ ?_ (fun hH=>?_)
    ·exact H.o.below Z.o
    clear hK K;try go_simp
    clear z0 y0 b Q a;generalize (w6.setCell ⟨TP,0,none⟩ (.int .i64 t))=w7 at *;obtain ⟨z0,z1,-⟩:=css T.o;obtain ⟨y0,y1,-⟩:=fzs T.o;refine rd1 13 fun K hK=>?_;go_simp;have Y:=((Z.o.setCell (p:=⟨FP,0,none⟩) E.o.2.1 (.int .i64 fe)).setCell (p:=⟨FP,1,none⟩) E.o.2.1 (.int .i64 fa))
    refine hK.out _ _ ?_ (fun hH=>?_)
    ·exact H.o.below Y
    clear hK K;try go_simp
    refine wpAnyH_done (by kernel_rfl) ?_ _;exact HL TP FP _ ⟨Y,(ak _ _ _ _ E.o.2.2).trans ((ak _ _ _ _ E.o.2.2).trans h0.o),au (au T.o 0 _) 1 _,E.o⟩
   go_simp;have D:Hd (Below w3.heap.size w3 ((w3.drew.alloc (.cells #[.int .i64 0] 33)).alloc (.cells #[.int .i64 0,.int .i64 0] 118))):=zh (ag G.o _);have O:Hd (((w3.drew.alloc (.cells #[.int .i64 0] 33)).alloc (.cells #[.int .i64 0,.int .i64 0] 118)).heap[(w3.drew.alloc (.cells #[.int .i64 0] 33)).heap.size]?=some (.cells #[.int .i64 0,.int .i64 0] 118 (0,0))):=zh (aj _ _ _ rfl);replace P:Hd (((w3.drew.alloc (.cells #[.int .i64 0] 33)).alloc (.cells #[.int .i64 0,.int .i64 0] 118)).heap[_]?=_):=zh (ax _ _ _ _ P.o);refine hK.out _ _ ?_ (fun hH=>?_)
   ·exact H.o.below D.o
   clear hK K;try go_simp
   refine rd1 6 fun K hK=>?_;go_simp;go_at_call 131
   refine (u.o _ D.o).mono ?_;rintro e w5 ⟨rfl,I⟩;have L:=zh (D.o.trans (I.mono D.o.size));replace P:=zh ((I.block _ (af P.o)).trans P.o);replace O:=zh ((I.block _ (af O.o)).trans O.o);have hc:=zh I.size;clear I;go_simp;refine hK.out _ _ ?_ (fun hH=>?_)
   ·exact H.o.below L.o
   clear hK K;try go_simp
   refine tk (v:=?_) 7 (fun w B=>?_) ?_;rotate_left
   ·unfold S8 at B;go_simp;try with_reducible rfl
   refine tk (v:=?_) 8 (fun w B=>?_) ?_;rotate_left
   ·unfold S8 at B;go_simp;try with_reducible rfl
   refine tk (v:=?_) 9 (fun w B=>?_) ?_;rotate_left
   ·unfold S8 at B;go_simp;try with_reducible rfl
   obtain ⟨N3,R⟩:∃N,N=w3.heap.size:=⟨_,rfl⟩
   have y:w3.heap.size≤w5.heap.size:=L.o.size;have f1:Below N3 w3 w5:=by rw [R];exact L.o
   have f2:w5.heap[w3.heap.size]?=some (.cells #[.int .i64 0] 33 (0,0)):=by
    have q:=P.o;exact q
   have f3:w5.heap[w3.heap.size+1]?=some (.cells #[.int .i64 0,.int .i64 0] 118 (0,0)):=by
    have q:=O.o;rw [ah] at q;exact q
   have f4:N3≤w3.heap.size∧N3≤w3.heap.size+1∧¬w3.heap.size=w3.heap.size+1:=by omega
   revert f1 f2 f3 f4;generalize w5=w6;generalize w3.heap.size+1=FP;generalize w3.heap.size=TP;intro f1 f2 f3 f4;rw [R] at f1 f4;have b:=zh f1;have Q:=zh f2;have a:=zh f3;have E:=zh f4;clear f1 f2 f3 f4 R y P O;have z0:w6.cell? ⟨TP,0,none⟩=some (.int .i64 0):=aa Q.o (j:=0) rfl;have y0:w6.frozen? ⟨TP,0,none⟩=false:=ae Q.o 0;refine rd1 12 fun K hK=>?_;go_simp;have Z:Hd (Below w3.heap.size w3 (w6.setCell ⟨TP,0,none⟩ (.int .i64 t))):=zh (b.o.setCell (p:=⟨TP,0,none⟩) E.o.1 _);have h0:Hd ((w6.setCell ⟨TP,0,none⟩ (.int .i64 t)).heap[TP]?=some (.cells #[.int .i64 t] 33 (0,0))):=zh (au Q.o 0 _);have T:Hd ((w6.setCell ⟨TP,0,none⟩ (.int .i64 t)).heap[FP]?=some (.cells #[.int .i64 0,.int .i64 0] 118 (0,0))):=zh ((ak _ _ _ _ (fun e=>E.o.2.2 e.symm)).trans a.o);refine hK.out _ _ ?_ (fun hH=>?_)
   ·exact H.o.below Z.o
   clear hK K;try go_simp
   clear z0 y0 b Q a;generalize (w6.setCell ⟨TP,0,none⟩ (.int .i64 t))=w7 at *;obtain ⟨z0,z1,-⟩:=css T.o;obtain ⟨y0,y1,-⟩:=fzs T.o;refine rd1 13 fun K hK=>?_;go_simp;have Y:=((Z.o.setCell (p:=⟨FP,0,none⟩) E.o.2.1 (.int .i64 fe)).setCell (p:=⟨FP,1,none⟩) E.o.2.1 (.int .i64 fa))
   refine hK.out _ _ ?_ (fun hH=>?_)
   ·exact H.o.below Y
   clear hK K;try go_simp
   refine wpAnyH_done (by kernel_rfl) ?_ _;exact HL TP FP _ ⟨Y,(ak _ _ _ _ E.o.2.2).trans ((ak _ _ _ _ E.o.2.2).trans h0.o),au (au T.o 0 _) 1 _,E.o⟩
  go_simp;have G:Hd (Below w3.heap.size w3 (w3.drew.alloc (.cells #[.int .i64 0,.int .i64 0] 118))):=zh (ag f.o _);have O:Hd ((w3.drew.alloc (.cells #[.int .i64 0,.int .i64 0] 118)).heap[w3.drew.heap.size]?=some (.cells #[.int .i64 0,.int .i64 0] 118 (0,0))):=zh (aj _ _ _ rfl);clear k;refine hK.out _ _ ?_ (fun hH=>?_)
  ·exact H.o.below G.o
  clear hK K;try go_simp
  refine wpAnyH_ready (rs:=[6,10]) (by kernel_rfl) (by simp) ?_;refine (AllReadyH.cons rfl (fun K hK=>?_) (AllReadyH.cons rfl (fun K hK=>?_) AllReadyH.nil))
  ·go_simp
   go_at_call 131
   refine (u.o _ G.o).mono ?_;rintro e w5 ⟨rfl,I⟩;have D:=zh (G.o.trans (I.mono G.o.size));replace O:=zh ((I.block _ (af O.o)).trans O.o);have hc:=zh I.size;clear I;go_simp;refine hK.out _ _ ?_ (fun hH=>?_)
   ·exact H.o.below D.o
   clear hK K;try go_simp
   refine tk (v:=?_) 7 (fun w B=>?_) ?_;rotate_left
   ·unfold S8 at B;go_simp;try with_reducible rfl
   refine tk (v:=?_) 8 (fun w B=>?_) ?_;rotate_left
   ·unfold S8 at B;go_simp;try with_reducible rfl
   refine tk (v:=?_) 9 (fun w B=>?_) ?_;rotate_left
   ·unfold S8 at B;go_simp;try with_reducible rfl
   refine rd1 10 fun K hK=>?_;go_simp;have L:Hd (Below w3.heap.size w3 (w5.alloc (.cells #[.int .i64 0] 33))):=zh (ag D.o _);have P:Hd ((w5.alloc (.cells #[.int .i64 0] 33)).heap[w5.heap.size]?=some (.cells #[.int .i64 0] 33 (0,0))):=zh (aj _ _ _ rfl);replace O:Hd ((w5.alloc (.cells #[.int .i64 0] 33)).heap[_]?=_):=zh (ax _ _ _ _ O.o);refine hK.out _ _ ?_ (fun hH=>?_)
   ·exact H.o.below L.o
   clear hK K;try go_simp
   obtain ⟨N3,R⟩:∃N,N=w3.heap.size:=⟨_,rfl⟩
   have y:w3.heap.size≤w5.heap.size:=D.o.size;have hm:w3.heap.size+1≤w5.heap.size:=by have q:=hc.o;rw [ah] at q;exact q
   have f1:Below N3 w3 (w5.alloc (.cells #[.int .i64 0] 33)):=by rw [R];exact L.o
   have f2:(w5.alloc (.cells #[.int .i64 0] 33)).heap[w5.heap.size]?=some (.cells #[.int .i64 0] 33 (0,0)):=by
    have q:=P.o;exact q
   have f3:(w5.alloc (.cells #[.int .i64 0] 33)).heap[w3.heap.size]?=some (.cells #[.int .i64 0,.int .i64 0] 118 (0,0)):=by
    have q:=O.o;exact q
   have f4:N3≤w5.heap.size∧N3≤w3.heap.size∧¬w5.heap.size=w3.heap.size:=by omega
   revert f1 f2 f3 f4;generalize (w5.alloc (.cells #[.int .i64 0] 33))=w6;generalize w5.heap.size=TP;generalize w3.heap.size=FP;intro f1 f2 f3 f4;rw [R] at f1 f4;have b:=zh f1;have Q:=zh f2;have a:=zh f3;have E:=zh f4;clear f1 f2 f3 f4 R y hm P O;have z0:w6.cell? ⟨TP,0,none⟩=some (.int .i64 0):=aa Q.o (j:=0) rfl;have y0:w6.frozen? ⟨TP,0,none⟩=false:=ae Q.o 0;refine rd1 12 fun K hK=>?_;go_simp;have Z:Hd (Below w3.heap.size w3 (w6.setCell ⟨TP,0,none⟩ (.int .i64 t))):=zh (b.o.setCell (p:=⟨TP,0,none⟩) E.o.1 _);have h0:Hd ((w6.setCell ⟨TP,0,none⟩ (.int .i64 t)).heap[TP]?=some (.cells #[.int .i64 t] 33 (0,0))):=zh (au Q.o 0 _);have T:Hd ((w6.setCell ⟨TP,0,none⟩ (.int .i64 t)).heap[FP]?=some (.cells #[.int .i64 0,.int .i64 0] 118 (0,0))):=zh ((ak _ _ _ _ (fun e=>E.o.2.2 e.symm)).trans a.o);refine hK.out _ _ ?_ (fun hH=>?_)
   ·exact H.o.below Z.o
   clear hK K;try go_simp
   clear z0 y0 b Q a;generalize (w6.setCell ⟨TP,0,none⟩ (.int .i64 t))=w7 at *;obtain ⟨z0,z1,-⟩:=css T.o;obtain ⟨y0,y1,-⟩:=fzs T.o;refine rd1 13 fun K hK=>?_;go_simp;have Y:=((Z.o.setCell (p:=⟨FP,0,none⟩) E.o.2.1 (.int .i64 fe)).setCell (p:=⟨FP,1,none⟩) E.o.2.1 (.int .i64 fa))
   refine hK.out _ _ ?_ (fun hH=>?_)
   ·exact H.o.below Y
   clear hK K;try go_simp
   refine wpAnyH_done (by kernel_rfl) ?_ _;exact HL TP FP _ ⟨Y,(ak _ _ _ _ E.o.2.2).trans ((ak _ _ _ _ E.o.2.2).trans h0.o),au (au T.o 0 _) 1 _,E.o⟩
  go_simp;have D:Hd (Below w3.heap.size w3 ((w3.drew.alloc (.cells #[.int .i64 0,.int .i64 0] 118)).alloc (.cells #[.int .i64 0] 33))):=zh (ag G.o _);have P:Hd (((w3.drew.alloc (.cells #[.int .i64 0,.int .i64 0] 118)).alloc (.cells #[.int .i64 0] 33)).heap[(w3.drew.alloc (.cells #[.int .i64 0,.int .i64 0] 118)).heap.size]?=some (.cells #[.int .i64 0] 33 (0,0))):=zh (aj _ _ _ rfl);replace O:Hd (((w3.drew.alloc (.cells #[.int .i64 0,.int .i64 0] 118)).alloc (.cells #[.int .i64 0] 33)).heap[_]?=_):=zh (ax _ _ _ _ O.o);refine hK.out _ _ ?_ (fun hH=>?_)
  ·exact H.o.below D.o
  clear hK K;try go_simp
  refine rd1 6 fun K hK=>?_;go_simp;go_at_call 131
  refine (u.o _ D.o).mono ?_;rintro e w5 ⟨rfl,I⟩;have L:=zh (D.o.trans (I.mono D.o.size));replace O:=zh ((I.block _ (af O.o)).trans O.o);replace P:=zh ((I.block _ (af P.o)).trans P.o);have hc:=zh I.size;clear I;go_simp;refine hK.out _ _ ?_ (fun hH=>?_)
  ·exact H.o.below L.o
  clear hK K;try go_simp
  refine tk (v:=?_) 7 (fun w B=>?_) ?_;rotate_left
  ·unfold S8 at B;go_simp;try with_reducible rfl
  refine tk (v:=?_) 8 (fun w B=>?_) ?_;rotate_left
  ·unfold S8 at B;go_simp;try with_reducible rfl
  refine tk (v:=?_) 9 (fun w B=>?_) ?_;rotate_left
  ·unfold S8 at B;go_simp;try with_reducible rfl
  obtain ⟨N3,R⟩:∃N,N=w3.heap.size:=⟨_,rfl⟩
  have y:w3.heap.size≤w5.heap.size:=L.o.size;have f1:Below N3 w3 w5:=by rw [R];exact L.o
  have f2:w5.heap[w3.heap.size+1]?=some (.cells #[.int .i64 0] 33 (0,0)):=by
   have q:=P.o;rw [ah] at q;exact q
  have f3:w5.heap[w3.heap.size]?=some (.cells #[.int .i64 0,.int .i64 0] 118 (0,0)):=by
   have q:=O.o;exact q
  have f4:N3≤w3.heap.size+1∧N3≤w3.heap.size∧¬w3.heap.size+1=w3.heap.size:=by omega
  revert f1 f2 f3 f4;generalize w5=w6;generalize w3.heap.size+1=TP;generalize w3.heap.size=FP;intro f1 f2 f3 f4;rw [R] at f1 f4;have b:=zh f1;have Q:=zh f2;have a:=zh f3;have E:=zh f4;clear f1 f2 f3 f4 R y P O;have z0:w6.cell? ⟨TP,0,none⟩=some (.int .i64 0):=aa Q.o (j:=0) rfl;have y0:w6.frozen? ⟨TP,0,none⟩=false:=ae Q.o 0;refine rd1 12 fun K hK=>?_;go_simp;have Z:Hd (Below w3.heap.size w3 (w6.setCell ⟨TP,0,none⟩ (.int .i64 t))):=zh (b.o.setCell (p:=⟨TP,0,none⟩) E.o.1 _);have h0:Hd ((w6.setCell ⟨TP,0,none⟩ (.int .i64 t)).heap[TP]?=some (.cells #[.int .i64 t] 33 (0,0))):=zh (au Q.o 0 _);have T:Hd ((w6.setCell ⟨TP,0,none⟩ (.int .i64 t)).heap[FP]?=some (.cells #[.int .i64 0,.int .i64 0] 118 (0,0))):=zh ((ak _ _ _ _ (fun e=>E.o.2.2 e.symm)).trans a.o);refine hK.out _ _ ?_ (fun hH=>?_)
  ·exact H.o.below Z.o
  clear hK K;try go_simp
  clear z0 y0 b Q a;generalize (w6.setCell ⟨TP,0,none⟩ (.int .i64 t))=w7 at *;obtain ⟨z0,z1,-⟩:=css T.o;obtain ⟨y0,y1,-⟩:=fzs T.o;refine rd1 13 fun K hK=>?_;go_simp;have Y:=((Z.o.setCell (p:=⟨FP,0,none⟩) E.o.2.1 (.int .i64 fe)).setCell (p:=⟨FP,1,none⟩) E.o.2.1 (.int .i64 fa))
  refine hK.out _ _ ?_ (fun hH=>?_)
  ·exact H.o.below Y
  clear hK K;try go_simp
  refine wpAnyH_done (by kernel_rfl) ?_ _;exact HL TP FP _ ⟨Y,(ak _ _ _ _ E.o.2.2).trans ((ak _ _ _ _ E.o.2.2).trans h0.o),au (au T.o 0 _) 1 _,E.o⟩;rintro TP FP w8 ⟨hj,hE,hD,hB⟩;have hy:=zh hE;have hw:=zh hD;have E:=zh hB;have hn:=zh ((hj.block _ (af hh.o)).trans hh.o);have U:=A;replace A:=zh (A.o.below hj);replace HB:=zh (HB.o.trans (hj.mono (Nat.le_of_lt (af U.o.c))));clear U;have hd:Hd ((CP≤TP∧CP≤FP)∧(CP≠FP∧SP≠FP∧VP≠FP∧RB≠FP)∧RB≠TP∧¬TP=FP):=zh (by have q:=hp.o;omega);clear H hG hh l n u hj hE hD hB;have l:=zh (h7.o.below (by rw [V.o.1];exact HB.o));have n:Hd (Stays Any w w8):=zh (Stays.of_below (by rw [V.o.1];exact HB.o));go_upto_region 20 with fail
  have HE:=zh (HC.o.trans (rfl));have h6:=zh (zM (CI hw.o) (BO l.o A.o.c (by rw [←HN.o.1];exact ha) (hg.o.keep n.o) hy.o A.o.s) w8.drew (Below.refl _ _).drew 173);generalize hq:aR [(fe,fa),noC (t==m&&t !=0) 51 (es.headD default).pos]=q at *;obtain ⟨fe,fa⟩:=q;have X:=zh (fh _ _ _ h6.o);rw [hq] at X;clear hq h6;unfold bH at X;dsimp only at X;have g:Hd (w8.drew.cell? ⟨VP,0,none⟩=some (.map (some vr))):=zh (aa A.o.v (j:=0) rfl);have k:=g.o;refine ay (S:=(fun w':World=>w'.cell? ⟨VP,0,none⟩=some (.map (some vr)))) 5 (by kernel_rfl) (by kernel_rfl) (by exact g.o) (fun hH=>?_);simp only [List.take_succ_cons,List.take_zero,List.drop_succ_cons,List.drop_zero]
  refine tkA 0 ?_;refine tkA 1 ?_;refine tkA 2 ?_;refine rd1 3 fun K hK=>?_;go_simp;refine hK.out _ _ ?_ (fun hH=>?_)
  ·(try dsimp only)
   exact aq _ g.o
  clear hK K;try go_simp
  refine rd1 4 fun K hK=>?_;go_simp;go_at_call 79
  refine X.o.mono ?_;rintro e w5 ⟨rfl,I⟩;have M:Below w8.heap.size w8 w5:=am (ag (aw (Below.refl _ _)) _) I;have U:=A;replace A:=zh (A.o.below M);replace HB:=zh (HB.o.trans (M.mono (Nat.le_of_lt (af U.o.c))));clear U;have h9:Hd (w5.cell? ⟨VP,0,none⟩=some (.map (some vr))):=zh (aa A.o.v (j:=0) rfl);clear I M k;go_simp;refine hK.out _ _ ?_ (fun hH=>?_)
  ·(try dsimp only)
   exact h9.o
  clear hK K;try go_simp
  refine wpAnyH_done (by kernel_rfl) ?_ _;dsimp only [aP];obtain ⟨r0,r1,-⟩:=css A.o.r;obtain ⟨k0,k1,-⟩:=fzs A.o.r;go_wp2_with fail
  have J:=(HB.o.setCell (p:=⟨RB,0,none⟩) V.o.2.2 (.int .i64 fe)).setCell (p:=⟨RB,1,none⟩) V.o.2.2 (.int .i64 fa);rw [←V.o.1] at J;refine bodyPost_ret (v:=.tuple #[.map (some vr),.agg #[.int .i64 fe,.int .i64 fa]]) (by simp [results,Tryz.results104,go_sem,r0,r1]) rfl ⟨vr,by rw [HE.o];rfl,?_,J⟩;rw [HE.o];exact h7.o.view.below J
 have hu:n1≤2:=yC ht;have HE:=zh (HC.o.trans (zN F m op text es body els pos v h1 h2 h3 h4 h5 h8 hk.o));have s0:w3.cell? ⟨SP,0,none⟩=some (.int .i64 op):=aa A.o.s (j:=0) rfl;go_upto_region 24 with fail
 clear s0;have hU:Below w3.heap.size w3 (w3.drew.alloc (.cells #[.int .i64 3,.int .i64 3] 33)):=ag (aw (Below.refl _ _)) _
 have Hp:Hd (TysAt (w3.drew.alloc (.cells #[.int .i64 3,.int .i64 3] 33)) (.slice (some ⟨w3.drew.heap.size,0,none⟩) 2 2) [3,3]):=zh ⟨_,2,rfl,by show (2:Nat)≤1000000;decide,fun _=>⟨_,0,rfl,by rw [ah];exact Nat.lt_succ_self _,fun i hi=>by
     rw [Nat.zero_add];have Hv:i<2:=hi;rcases (show i=0∨i=1 by omega) with rfl | rfl
     · exact aA _ _ _ _ _ _ rfl rfl
     · exact aA _ _ _ _ _ _ rfl rfl⟩⟩
 have X:=zh (ii cb F m es (fun x _=>ho.o x) v vr _ (.slice s1 n1 c1) _ [3,3] (l.o.below hU) ((hg.o.keep n.o).keep (Stays.of_below hU)) Hp.o (by rw [←HN.o.1];exact hu));clear hU;generalize cL F v es [3,3]=q at *;obtain ⟨fe,fa⟩:=q;unfold bH at X;dsimp only at X;have H:Hd (w3.cell? ⟨VP,0,none⟩=some (.map (some vr))∧w3.cell? ⟨CP,0,none⟩=some (.pointer (some ⟨cb,0,none⟩))∧w3.cell? ⟨SP,2,none⟩=some (.slice s1 n1 c1)):=zh ⟨aa A.o.v (j:=0) rfl,aa A.o.c (j:=0) rfl,aa A.o.s (j:=2) rfl⟩;have g:Hd (w3.drew.cell? ⟨VP,0,none⟩=some (.map (some vr))∧w3.drew.cell? ⟨CP,0,none⟩=some (.pointer (some ⟨cb,0,none⟩))∧w3.drew.cell? ⟨SP,2,none⟩=some (.slice s1 n1 c1)):=zh H.o;have k:=g.o;refine ay (S:=(fun w':World=>w'.cell? ⟨VP,0,none⟩=some (.map (some vr))∧w'.cell? ⟨CP,0,none⟩=some (.pointer (some ⟨cb,0,none⟩))∧w'.cell? ⟨SP,2,none⟩=some (.slice s1 n1 c1))) 7 (by kernel_rfl) (by kernel_rfl) (by exact g.o) (fun hH=>?_);simp only [List.take_succ_cons,List.take_zero,List.drop_succ_cons,List.drop_zero]
 refine tkA 0 ?_;refine tkA 1 ?_;refine tkA 2 ?_;refine tkA 3 ?_;refine tkA 4 ?_;refine rd1 5 fun K hK=>?_;go_simp;refine hK.out _ _ ?_ (fun hH=>?_)
 ·(try dsimp only)
  exact ⟨aq _ g.o.1,aq _ g.o.2.1,aq _ g.o.2.2⟩
 clear hK K;try go_simp
 refine rd1 6 fun K hK=>?_;go_simp;go_at_call 144
 refine X.o.mono ?_;rintro e w5 ⟨rfl,I⟩;have M:Below w3.heap.size w3 w5:=am (ag (aw (Below.refl _ _)) _) I;have h9:Hd (w5.cell? ⟨VP,0,none⟩=some (.map (some vr))∧w5.cell? ⟨CP,0,none⟩=some (.pointer (some ⟨cb,0,none⟩))∧w5.cell? ⟨SP,2,none⟩=some (.slice s1 n1 c1)):=zh ⟨(M.cell (p:=⟨VP,0,none⟩) (az H.o.1)).trans H.o.1,(M.cell (p:=⟨CP,0,none⟩) (az H.o.2.1)).trans H.o.2.1,(M.cell (p:=⟨SP,2,none⟩) (az H.o.2.2)).trans H.o.2.2⟩;have U:=A;replace A:=zh (A.o.below M);replace HB:=zh (HB.o.trans (M.mono (Nat.le_of_lt (af U.o.c))));clear U;clear I M k;go_simp;refine hK.out _ _ ?_ (fun hH=>?_)
 ·(try dsimp only)
  exact h9.o
 clear hK K;try go_simp
 refine wpAnyH_done (by kernel_rfl) ?_ _;dsimp only [aP];obtain ⟨r0,r1,-⟩:=css A.o.r;obtain ⟨k0,k1,-⟩:=fzs A.o.r;go_wp2_with fail
 have J:=(HB.o.setCell (p:=⟨RB,0,none⟩) V.o.2.2 (.int .i64 fe)).setCell (p:=⟨RB,1,none⟩) V.o.2.2 (.int .i64 fa);rw [←V.o.1] at J;refine bodyPost_ret (v:=.tuple #[.map (some vr),.agg #[.int .i64 fe,.int .i64 fa]]) (by simp [results,Tryz.results104,go_sem,r0,r1]) rfl ⟨vr,by rw [HE.o];rfl,?_,J⟩;rw [HE.o];exact h7.o.view.below J
theorem pN (cb:Nat) (F:aU) (A:Int) (hF:∀p,p∈F→p.2.params.length≤100000):∀x,pZ cb F A x
 | .mk op text es body els pos=>vV cb F A (ub cb F A hF) op text es body els pos (fun x hx=>by
     have:=List.sizeOf_lt_of_mem hx;exact pN cb F A hF x) (fun x hx=>by
     have:=List.sizeOf_lt_of_mem hx;exact pN cb F A hF x)
termination_by x=>SizeOf.sizeOf x
decreasing_by
 all_goals (simp_wf;omega)
end
end Go.Proofs.YthgcpfkochikfaaGreat
