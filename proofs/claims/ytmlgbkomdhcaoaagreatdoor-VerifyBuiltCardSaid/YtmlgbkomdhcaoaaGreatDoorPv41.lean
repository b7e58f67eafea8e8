/-
  VerifyBuilt: part 41 of its proof: see the last text.
-/
import Derived.Test.YtmlgbkomdhcaoaaGreatDoorPv40
set_option maxRecDepth 100000
set_option maxHeartbeats 16000000
namespace Go.Proofs.YtmlgbkomdhcaoaaGreatDoor
section
open Go.RowKit
structure BoxA (W:World) (cb vr CP SP VP RB:Nat) (cells:Array Value):Prop where
 c:W.heap[CP]?=some (.cells #[.pointer (some ⟨cb,0,none⟩)] 98 (0,0))
 s:W.heap[SP]?=some (.cells cells 110 (0,0))
 v:W.heap[VP]?=some (.cells #[.map (some vr)] 131 (0,0))
 r:W.heap[RB]?=some (.cells #[.int .i64 0,.int .i64 0] 104 (0,0))
theorem BoxA.below {W W':World} {cb vr CP SP VP RB:Nat} {cells:Array Value} (h:BoxA W cb vr CP SP VP RB cells) (hb:Below W.heap.size W W'):BoxA W' cb vr CP SP VP RB cells:=
 ⟨(hb.block _ (ae h.c)).trans h.c,(hb.block _ (ae h.s)).trans h.s,(hb.block _ (ae h.v)).trans h.v,(hb.block _ (ae h.r)).trans h.r⟩
theorem BoxA.set {W:World} {cb vr CP SP VP RB:Nat} {cells:Array Value} (h:BoxA W cb vr CP SP VP RB cells) (FP j:Nat) (u:Value) (hn:CP≠FP∧SP≠FP∧VP≠FP∧RB≠FP):BoxA (W.setCell ⟨FP,j,none⟩ u) cb vr CP SP VP RB cells:=
 ⟨(aj _ _ _ _ hn.1).trans h.c,(aj _ _ _ _ hn.2.1).trans h.s,(aj _ _ _ _ hn.2.2.1).trans h.v,(aj _ _ _ _ hn.2.2.2).trans h.r⟩
def S8 (VP vr CP cb SP xb A n1 c1:Nat) (D C:Int) (xt:ByteArray) (xs:Option Addr) (xn xc:Nat) (B:Int) (W:World):Prop:=
 W.cell? ⟨VP,0,none⟩=some (.map (some vr))∧W.cell? ⟨CP,0,none⟩=some (.pointer (some ⟨cb,0,none⟩))∧W.cell? ⟨SP,2,none⟩=some (.slice (some ⟨xb,A,none⟩) n1 c1)∧W.cell? ⟨xb,A,none⟩=some (.int .i64 D)∧W.cell? ⟨xb,A+1,none⟩=some (.int .i64 C)∧W.cell? ⟨xb,A+2,none⟩=some (.string xt)∧W.cell? ⟨xb,A+3,none⟩=some (.slice xs xn xc)∧W.cell? ⟨xb,A+4,none⟩=some (.int .i64 B)
theorem S8.below {VP vr CP cb SP xb B n1 c1:Nat} {D C:Int} {xt:ByteArray} {xs:Option Addr} {xn xc:Nat} {A:Int} {W W':World} (h:S8 VP vr CP cb SP xb B n1 c1 D C xt xs xn xc A W) (hb:Below W.heap.size W W'):S8 VP vr CP cb SP xb B n1 c1 D C xt xs xn xc A W':=by
 obtain ⟨a,b,c,d,e,f,g,h⟩:=h;exact ⟨(hb.cell (ax a)).trans a,(hb.cell (ax b)).trans b,(hb.cell (ax c)).trans c,(hb.cell (ax d)).trans d,(hb.cell (ax e)).trans e,(hb.cell (ax f)).trans f,(hb.cell (ax g)).trans g,(hb.cell (ax h)).trans h⟩
theorem shared {P:Prop} {G:Nat→Nat→World→Prop} (T:Nat→Nat→World→Prop) (h1:(∀a b w,T a b w→G a b w)→P) (h2:∀a b w,T a b w→G a b w):P:=h1 h2
theorem yF {w:World} {x y z:Value} {f g h:Flt} (hx:FnTells w x f) (hy:FnTells w y g) (hz:FnTells w z h) (W:World) (hb:Below w.heap.size w W) (t:TypeId):wV (W.alloc (.cells #[x,y,z] t)) (.slice (some ⟨W.heap.size,0,none⟩) 3 3) [f,g,h]:=by
 have A:Below w.heap.size w (W.alloc (.cells #[x,y,z] t)):=hb.trans ((ag (Below.refl W.heap.size W) _).mono hb.size);refine ⟨W.heap.size,0,3,rfl,by rw [ah];exact Nat.lt_succ_self _,by show (3:Nat)≤1000;decide,fun i hi=>?_⟩;have B:i<3:=hi;rw [Nat.zero_add];rcases (show i=0∨i=1∨i=2 by omega) with rfl | rfl | rfl
 ·exact ⟨x,aw _ _ _ _ _ _ rfl rfl,hx.below A⟩
 ·exact ⟨y,aw _ _ _ _ _ _ rfl rfl,hy.below A⟩
 ·exact ⟨z,aw _ _ _ _ _ _ rfl rfl,hz.below A⟩
theorem yG {w:World} {x y:Value} {f g:Flt} (hx:FnTells w x f) (hy:FnTells w y g) (W:World) (hb:Below w.heap.size w W) (t:TypeId):wV (W.alloc (.cells #[x,y] t)) (.slice (some ⟨W.heap.size,0,none⟩) 2 2) [f,g]:=by
 have A:Below w.heap.size w (W.alloc (.cells #[x,y] t)):=hb.trans ((ag (Below.refl W.heap.size W) _).mono hb.size);refine ⟨W.heap.size,0,2,rfl,by rw [ah];exact Nat.lt_succ_self _,by show (2:Nat)≤1000;decide,fun i hi=>?_⟩;have B:i<2:=hi;rw [Nat.zero_add];rcases (show i=0∨i=1 by omega) with rfl | rfl
 ·exact ⟨x,aw _ _ _ _ _ _ rfl rfl,hx.below A⟩
 ·exact ⟨y,aw _ _ _ _ _ _ rfl rfl,hy.below A⟩
theorem ng {h:Flt} (hc:h.1=0→h=okF):orF h okF=h:=by
 unfold orF;split
 ·rfl
 ·rename_i g
  exact (hc (by simpa using g)).symm
theorem lI (F:aO) (res:Int) (l:List St) (v:aR):(bH F res l v).1=0→bH F res l v=okF:=by
 induction l generalizing v with
 | nil=>intro _;rw [bH]
 | cons s l ih =>
  rw [bH];split
  ·rename_i g;intro h;exact absurd h g
  ·exact ih _
theorem Au (F:aO) (res op:Int) (text:ByteArray) (es:List Ex) (body els:List St) (pos:Int) (v:aR) (h:dd (.mk op text es body els pos)=false):cC F res (.mk op text es body els pos) v=(v,(51,pos)):=by
 rw [cC,if_pos h]
theorem BJ (F:aO) (res:Int) (text:ByteArray) (es:List Ex) (body els:List St) (pos:Int) (v:aR) (h:dd (.mk 3 text es body els pos)=true):cC F res (.mk 3 text es body els pos) v=(v,aV [ez F v (es.headD default) 2,bH F res body v,bH F res els v]):=by
 rw [cC,if_neg (by rw [h];simp)];unfold aV aV aV aV;rw [ng (lI F res els v)];rfl
theorem sJ (F:aO) (v:aR) (x:Ex) (t:Int):(ez F v x t).1=0→ez F v x t=okF:=by
 unfold ez iK;split
 ·rename_i g;intro h;exact absurd h g
 ·unfold noC
  split
  ·intro _;rfl
  ·intro h;exact absurd h (by simp)
theorem BQ (F:aO) (res:Int) (text:ByteArray) (es:List Ex) (body els:List St) (pos:Int) (v:aR) (is:Bool) (hi:(aI v text).isSome=is) (h:dd (.mk 4 text es body els pos)=true):cC F res (.mk 4 text es body els pos) v=(v,aV [cY F v es [1,1],noC (!is) 53 pos,bH F res body (bQ v text (1,true))]):=by
 rw [cC,if_neg (by rw [h];simp),hi];unfold aV aV aV aV;rw [ng (lI F res body _)];rfl
theorem BU (F:aO) (res:Int) (text:ByteArray) (es:List Ex) (body els:List St) (pos:Int) (v:aR) (is:Bool) (nt:Int) (nf:Bool) (hi:(aI v text).isSome=is) (hn:(aI v text).getD (0,false)=(nt,nf)) (h:dd (.mk 2 text es body els pos)=true):cC F res (.mk 2 text es body els pos) v=(v,aV [noC is 52 pos,noC (!nf) 51 pos,ez F v (es.headD default) nt]):=by
 rw [cC,if_neg (by rw [h];simp),hi,hn];unfold aV aV aV aV;rw [ng (sJ F v _ nt)];rfl
theorem jp (b:Bool) (e p:Int) (he:¬e=0):(noC b e p).1=0→noC b e p=okF:=by
 unfold noC;split
 ·intro _;rfl
 ·intro h;exact absurd h he
theorem BI (F:aO) (res:Int) (text:ByteArray) (es:List Ex) (body els:List St) (pos:Int) (v:aR) (h:dd (.mk 8 text es body els pos)=true):cC F res (.mk 8 text es body els pos) v=(v,aV [(aK F v (es.headD default)).2,noC ((es.headD default).op==5) 51 (es.headD default).pos]):=by
 rw [cC,if_neg (by rw [h];simp)];unfold aV aV aV;rw [ng (jp _ _ _ (by decide))];rfl
theorem xU {op:Int} {n b o:Nat} (h:jK op n b o=true):n≤2:=by
 unfold jK at h;repeat' split at h
 all_goals (simp at h;try omega)
theorem zq (F:aO) (res op:Int) (text:ByteArray) (es:List Ex) (body els:List St) (pos:Int) (v:aR) (h1:¬op=1) (h2:¬op=2) (h3:¬op=3) (h4:¬op=4) (h5:¬op=5) (h8:¬op=8) (h:dd (.mk op text es body els pos)=true):cC F res (.mk op text es body els pos) v=(v,cY F v es [3,3]):=by
 rw [cC,if_neg (by rw [h];simp)];simp only [h1,h2,h3,h4,h5,h8,if_false]
theorem Be (F:aO) (res:Int) (text:ByteArray) (es:List Ex) (body els:List St) (pos:Int) (v:aR) (hl:es.length=0) (h:dd (.mk 5 text es body els pos)=true):cC F res (.mk 5 text es body els pos) v=(v,noC (res==0) 51 pos):=by
 rw [cC,if_neg (by rw [h];simp)];simp [hl]
theorem AN (F:aO) (res:Int) (text:ByteArray) (es:List Ex) (body els:List St) (pos:Int) (v:aR) (hl:¬es.length=0) (h:dd (.mk 5 text es body els pos)=true):cC F res (.mk 5 text es body els pos) v=(v,aV [(aK F v (es.headD default)).2,noC ((aK F v (es.headD default)).1==res&&(aK F v (es.headD default)).1 !=0) 51 (es.headD default).pos]):=by
 rw [cC,if_neg (by rw [h];simp)];unfold aV aV aV;rw [ng (jp _ _ _ (by decide))];simp [hl]
theorem BH (F:aO) (res:Int) (text:ByteArray) (es:List Ex) (body els:List St) (pos:Int) (v:aR) (is:Bool) (hi:(aI v text).isSome=is) (h:dd (.mk 1 text es body els pos)=true):cC F res (.mk 1 text es body els pos) v=(bQ v text ((aK F v (es.headD default)).1,false),aV [(aK F v (es.headD default)).2,noC ((aK F v (es.headD default)).1 !=0) 51 (es.headD default).pos,noC (!is) 53 pos]):=by
 rw [cC,if_neg (by rw [h];simp),hi];unfold aV aV aV aV;rw [ng (jp _ _ _ (by decide))];rfl
theorem vJ (cb:Nat) (F:aO) (res:Int) (hx:∀x,jO cb F res x) (Hg:Int) (hy:ByteArray) (es:List Ex) (body els:List St) (hP:Int) (H3:∀x,x∈body→pm cb F res x) (H2:∀x,x∈els→pm cb F res x):pm cb F res (.mk Hg hy es body els hP):=by
 intro v vr w op text s1 n1 c1 s2 n2 c2 s3 n3 c3 pos h hr;obtain ⟨ve,vb,vl,e,he,hb,hS⟩:=hr.parts;simp only [List.cons.injEq,Value.int.injEq,Value.string.injEq,true_and,and_true] at e
 obtain ⟨rfl,rfl,rfl,rfl,rfl,rfl⟩:=e;have hu:n1=es.length:=by obtain ⟨_,⟨_,_,e,_⟩,_⟩:=he;injection e
 have ht:n2=body.length:=by obtain ⟨_,⟨_,_,e,_⟩,_⟩:=hb;injection e
 have hQ:n3=els.length:=by obtain ⟨_,⟨_,_,e,_⟩,_⟩:=hS;injection e
 have h6:=zh h;have hn:=zh hx;have H9:=zh H3;have Hq:=zh H2;have hf:=zh he;have Hf:=zh hb;have Ht:=zh hS;generalize hC:cC F res (.mk op text es body els pos) v=C;have hj:Hd (dd (.mk op text es body els pos)=jK op n1 n2 n3):=zh (by rw [uu,hu,ht,hQ];rfl);have HC:=zh hC.symm;have HN:=zh (And.intro hu (And.intro ht hQ));clear h hr hx H3 H2 he hb hS hC hu ht hQ;have HB:Hd (Below w.heap.size w ((((w.alloc (.cells #[.pointer (some ⟨cb,0,none⟩)] 98)).alloc (.cells #[.int .i64 op,.string text,.slice s1 n1 c1,.slice s2 n2 c2,.slice s3 n3 c3,.int .i64 pos] 110)).alloc (.cells #[.map (some vr)] 131)).alloc (.cells #[.int .i64 0,.int .i64 0] 104))):=zh (ag (ag (ag (ag (Below.refl _ _) _) _) _) _);have A:Hd (BoxA ((((w.alloc (.cells #[.pointer (some ⟨cb,0,none⟩)] 98)).alloc (.cells #[.int .i64 op,.string text,.slice s1 n1 c1,.slice s2 n2 c2,.slice s3 n3 c3,.int .i64 pos] 110)).alloc (.cells #[.map (some vr)] 131)).alloc (.cells #[.int .i64 0,.int .i64 0] 104)) cb vr w.heap.size (w.heap.size+1) (w.heap.size+2) (w.heap.size+3) #[.int .i64 op,.string text,.slice s1 n1 c1,.slice s2 n2 c2,.slice s3 n3 c3,.int .i64 pos]):=zh ⟨az _ _ _ _ (az _ _ _ _ (az _ _ _ _ (am _ _ _ rfl))),az _ _ _ _ (az _ _ _ _ (am _ _ _ (ah _ _))),az _ _ _ _ (am _ _ _ (by rw [ah,ah])),am _ _ _ (by rw [ah,ah,ah])⟩;go_enter Tryz.func92,Tryz.ntmps92
 go_upto_region 1 with fail
 generalize ((((w.alloc (.cells #[.pointer (some ⟨cb,0,none⟩)] 98)).alloc (.cells #[.int .i64 op,.string text,.slice s1 n1 c1,.slice s2 n2 c2,.slice s3 n3 c3,.int .i64 pos] 110)).alloc (.cells #[.map (some vr)] 131)).alloc (.cells #[.int .i64 0,.int .i64 0] 104))=w1 at *;generalize Hl:w.heap.size+3=RB at *;generalize Hj:w.heap.size+2=VP at *;generalize Hk:w.heap.size+1=SP at *;generalize H7:w.heap.size=CP at *;have V:Hd (w.heap.size=CP∧CP<RB∧CP≤RB):=zh ⟨H7,by omega,by omega⟩;have hL:Hd (¬RB=CP∧¬RB=SP∧¬RB=VP):=zh ⟨by omega,by omega,by omega⟩;clear Hl Hj Hk H7;obtain ⟨s0,q1,q2,q3,s4,s5,-⟩:=css A.o.s;go_wp2_with fail
 refine (tz op pos text s1 s2 s3 n1 n2 n3 c1 c2 c3 _).mono ?_;rintro e w2 ⟨rfl,hX⟩;clear s0 q1 q2 q3 s4 s5;have U:=A;replace A:=zh (A.o.below hX);replace HB:=zh (HB.o.trans (hX.mono (Nat.le_of_lt (ae U.o.c))));clear U;clear hX;generalize hs:jK op n1 n2 n3=sh at *
 cases sh
 ·have HE:=zh (HC.o.trans (Au F res op text es body els pos v hj.o))
  have s5:w2.cell? ⟨SP,5,none⟩=some (.int .i64 pos):=aa A.o.s (j:=5) rfl;have v0:w2.cell? ⟨VP,0,none⟩=some (.map (some vr)):=aa A.o.v (j:=0) rfl;obtain ⟨r0,r1,-⟩:=css A.o.r;obtain ⟨k0,k1,-⟩:=fzs A.o.r;go_upto_region 2 with fail
  go_region
  go_wp2_with fail
  have J:=(HB.o.setCell (p:=⟨RB,0,none⟩) V.o.2.2 (.int .i64 51)).setCell (p:=⟨RB,1,none⟩) V.o.2.2 (.int .i64 pos);rw [←V.o.1] at J;replace J:=J.drew;refine bodyPost_ret (v:=.tuple #[.map (some vr),.agg #[.int .i64 51,.int .i64 pos]]) (by simp [results,Tryz.results92,go_sem,r0,r1]) rfl ⟨vr,by rw [HE.o];rfl,?_,J⟩;rw [HE.o];exact h6.o.view.below J
 have q1:w2.cell? ⟨SP,1,none⟩=some (.string text):=aa A.o.s (j:=1) rfl;have v0:w2.cell? ⟨VP,0,none⟩=some (.map (some vr)):=aa A.o.v (j:=0) rfl;have hk:=jy (h6.o.view.below (by rw [V.o.1];exact HB.o)) text;generalize H4:(aI v text).getD (0,false)=nm at *;generalize hG:(aI v text).isSome=is at *;obtain ⟨nt,nf⟩:=nm;unfold nmV at hk;dsimp only at hk;go_upto_region 4 with fail
 have hV:Below w2.heap.size w2 ((w2.alloc (.cells #[.int .i64 nt,.bool nf] 133)).alloc (.cells #[.bool is] 4)):=ag (ag (Below.refl _ _) _) _;have hF:Hd (((w2.alloc (.cells #[.int .i64 nt,.bool nf] 133)).alloc (.cells #[.bool is] 4)).heap[w2.heap.size]?=some (.cells #[.int .i64 nt,.bool nf] 133 (0,0))):=zh (az _ _ _ _ (am _ _ _ rfl));have hg:Hd (((w2.alloc (.cells #[.int .i64 nt,.bool nf] 133)).alloc (.cells #[.bool is] 4)).heap[w2.heap.size+1]?=some (.cells #[.bool is] 4 (0,0))):=zh (am _ _ _ (ah _ _));have U:=A;replace A:=zh (A.o.below hV);replace HB:=zh (HB.o.trans (hV.mono (Nat.le_of_lt (ae U.o.c))));clear U;clear hV hk q1 v0;generalize ((w2.alloc (.cells #[.int .i64 nt,.bool nf] 133)).alloc (.cells #[.bool is] 4))=w3 at *;generalize w2.heap.size+1=TB at *;generalize w2.heap.size=NB at *;have l:=zh (h6.o.below (by rw [V.o.1];exact HB.o));have m:Hd (Stays Any w w3):=zh (Stays.of_below (by rw [V.o.1];exact HB.o));by_cases h3:op=3
 ·subst h3
  have s0:w3.cell? ⟨SP,0,none⟩=some (.int .i64 3):=aa A.o.s (j:=0) rfl;have h9:0<n1:=by have q:(n1==1)=true:=hs;have:=eq_of_beq q;omega
  go_upto_region 13 with fail
  clear s0;have HE:=zh (HC.o.trans (BJ F res text es body els pos v hj.o));have h0:=zh (yF (AY l.o A.o.c A.o.v (by rw [←HN.o.1];exact h9) (hf.o.keep m.o) (hn.o _) A.o.s) (Bg H9.o l.o (Hf.o.keep m.o) A.o.c A.o.s A.o.v) (A5 Hq.o l.o (Ht.o.keep m.o) A.o.c A.o.s A.o.v) w3.drew (Below.refl _ _).drew 138);generalize hq:aV [ez F v (es.headD default) 2,bH F res body v,bH F res els v]=q at *;obtain ⟨fe,fa⟩:=q;have X:=zh (fq _ _ _ h0.o);rw [hq] at X;clear hq h0;unfold bM at X;dsimp only at X;have g:Hd (w3.drew.cell? ⟨VP,0,none⟩=some (.map (some vr))):=zh (aa A.o.v (j:=0) rfl);have k:=g.o;refine aD (S:=(fun w':World=>w'.cell? ⟨VP,0,none⟩=some (.map (some vr)))) 6 (by kernel_rfl) (by kernel_rfl) (by exact g.o) (fun hH=>?_);simp only [List.take_succ_cons,List.take_zero,List.drop_succ_cons,List.drop_zero]
  refine tkA 0 ?_;refine tkA 1 ?_;refine tkA 2 ?_;refine tkA 3 ?_;refine rd1 4 fun K hK=>?_;go_simp;refine hK.out _ _ ?_ (fun hH=>?_)
  ·(try dsimp only)
   exact ak _ g.o
  clear hK K;try go_simp
  refine rd1 5 fun K hK=>?_;go_simp;go_at_call 60
  refine X.o.mono ?_;rintro e w5 ⟨rfl,I⟩;have M:Below w3.heap.size w3 w5:=ay (ag (aB (Below.refl _ _)) _) I;have U:=A;replace A:=zh (A.o.below M);replace HB:=zh (HB.o.trans (M.mono (Nat.le_of_lt (ae U.o.c))));clear U;have h7:Hd (w5.cell? ⟨VP,0,none⟩=some (.map (some vr))):=zh (aa A.o.v (j:=0) rfl);clear I M k;go_simp;refine hK.out _ _ ?_ (fun hH=>?_)
  ·(try dsimp only)
   exact h7.o
  clear hK K;try go_simp
  refine wpAnyH_done (by kernel_rfl) ?_ _;dsimp only [cZ];obtain ⟨r0,r1,-⟩:=css A.o.r;obtain ⟨k0,k1,-⟩:=fzs A.o.r;go_wp2_with fail
  have J:=(HB.o.setCell (p:=⟨RB,0,none⟩) V.o.2.2 (.int .i64 fe)).setCell (p:=⟨RB,1,none⟩) V.o.2.2 (.int .i64 fa);rw [←V.o.1] at J;refine bodyPost_ret (v:=.tuple #[.map (some vr),.agg #[.int .i64 fe,.int .i64 fa]]) (by simp [results,Tryz.results92,go_sem,r0,r1]) rfl ⟨vr,by rw [HE.o];rfl,?_,J⟩;rw [HE.o];exact h6.o.view.below J
 by_cases h4:op=4
 ·subst h4
  have s0:w3.cell? ⟨SP,0,none⟩=some (.int .i64 4):=aa A.o.s (j:=0) rfl;have ht:n1=2:=by have q:(n1==2&&n3==0)=true:=hs;rw [Bool.and_eq_true] at q;exact eq_of_beq q.1
  go_upto_region 15 with fail
  clear s0;have HE:=zh (HC.o.trans (BQ F res text es body els pos v is hG hj.o));have h0:=zh (yF (Aw (fun x _=>hn.o x) (by rw [←HN.o.1];omega) l.o (hf.o.keep m.o) A.o.c A.o.s A.o.v) (Aj hg.o A.o.s) (Ad l.o A.o.c A.o.v H9.o (Hf.o.keep m.o) A.o.s) w3.drew (Below.refl _ _).drew 138);generalize hq:aV [cY F v es [1,1],noC (!is) 53 pos,bH F res body (bQ v text (1,true))]=q at *;obtain ⟨fe,fa⟩:=q;have X:=zh (fq _ _ _ h0.o);rw [hq] at X;clear hq h0;unfold bM at X;dsimp only at X;have g:Hd (w3.drew.cell? ⟨VP,0,none⟩=some (.map (some vr))):=zh (aa A.o.v (j:=0) rfl);have k:=g.o;refine aD (S:=(fun w':World=>w'.cell? ⟨VP,0,none⟩=some (.map (some vr)))) 6 (by kernel_rfl) (by kernel_rfl) (by exact g.o) (fun hH=>?_);simp only [List.take_succ_cons,List.take_zero,List.drop_succ_cons,List.drop_zero]
  refine tkA 0 ?_;refine tkA 1 ?_;refine tkA 2 ?_;refine tkA 3 ?_;refine rd1 4 fun K hK=>?_;go_simp;refine hK.out _ _ ?_ (fun hH=>?_)
  ·(try dsimp only)
   exact ak _ g.o
  clear hK K;try go_simp
  refine rd1 5 fun K hK=>?_;go_simp;go_at_call 60
  refine X.o.mono ?_;rintro e w5 ⟨rfl,I⟩;have M:Below w3.heap.size w3 w5:=ay (ag (aB (Below.refl _ _)) _) I;have U:=A;replace A:=zh (A.o.below M);replace HB:=zh (HB.o.trans (M.mono (Nat.le_of_lt (ae U.o.c))));clear U;have h7:Hd (w5.cell? ⟨VP,0,none⟩=some (.map (some vr))):=zh (aa A.o.v (j:=0) rfl);clear I M k;go_simp;refine hK.out _ _ ?_ (fun hH=>?_)
  ·(try dsimp only)
   exact h7.o
  clear hK K;try go_simp
  refine wpAnyH_done (by kernel_rfl) ?_ _;dsimp only [cZ];obtain ⟨r0,r1,-⟩:=css A.o.r;obtain ⟨k0,k1,-⟩:=fzs A.o.r;go_wp2_with fail
  have J:=(HB.o.setCell (p:=⟨RB,0,none⟩) V.o.2.2 (.int .i64 fe)).setCell (p:=⟨RB,1,none⟩) V.o.2.2 (.int .i64 fa);rw [←V.o.1] at J;refine bodyPost_ret (v:=.tuple #[.map (some vr),.agg #[.int .i64 fe,.int .i64 fa]]) (by simp [results,Tryz.results92,go_sem,r0,r1]) rfl ⟨vr,by rw [HE.o];rfl,?_,J⟩;rw [HE.o];exact h6.o.view.below J
 by_cases h2:op=2
 ·subst h2
  obtain ⟨s0,q1,-⟩:=css A.o.s;have v0:w3.cell? ⟨VP,0,none⟩=some (.map (some vr)):=aa A.o.v (j:=0) rfl;have h9:0<n1:=by have q:(n1==1&&n2==0&&n3==0)=true:=hs;rw [Bool.and_eq_true,Bool.and_eq_true] at q;have:=eq_of_beq q.1.1;omega
  have hk:=jy l.o.view text;rw [H4,hG] at hk;unfold nmV at hk;dsimp only at hk;go_upto_region 11 with fail
  have hU:Below w3.heap.size w3 ((w3.alloc (.cells #[.int .i64 nt,.bool nf] 133)).alloc (.cells #[.bool is] 4)):=ag (ag (Below.refl _ _) _) _;have Ha:Hd (((w3.alloc (.cells #[.int .i64 nt,.bool nf] 133)).alloc (.cells #[.bool is] 4)).heap[w3.heap.size]?=some (.cells #[.int .i64 nt,.bool nf] 133 (0,0))):=zh (az _ _ _ _ (am _ _ _ rfl));have Hp:Hd (((w3.alloc (.cells #[.int .i64 nt,.bool nf] 133)).alloc (.cells #[.bool is] 4)).heap[w3.heap.size+1]?=some (.cells #[.bool is] 4 (0,0))):=zh (am _ _ _ (ah _ _));have U:=A;replace A:=zh (A.o.below hU);replace HB:=zh (HB.o.trans (hU.mono (Nat.le_of_lt (ae U.o.c))));clear U;clear hU hk q1 v0 s0 hF hg l m;generalize ((w3.alloc (.cells #[.int .i64 nt,.bool nf] 133)).alloc (.cells #[.bool is] 4))=w4 at *;generalize w3.heap.size+1=TM at *;generalize w3.heap.size=NM at *;have l:=zh (h6.o.below (by rw [V.o.1];exact HB.o));have m:Hd (Stays Any w w4):=zh (Stays.of_below (by rw [V.o.1];exact HB.o));have HE:=zh (HC.o.trans (BU F res text es body els pos v is nt nf hG H4 hj.o));have h0:=zh (yF (A8 Hp.o A.o.s) (Bz Ha.o A.o.s) (BC l.o A.o.c A.o.v (by rw [←HN.o.1];exact h9) (hf.o.keep m.o) (hn.o _) A.o.s Ha.o) w4.drew (Below.refl _ _).drew 138);generalize hq:aV [noC is 52 pos,noC (!nf) 51 pos,ez F v (es.headD default) nt]=q at *;obtain ⟨fe,fa⟩:=q;have X:=zh (fq _ _ _ h0.o);rw [hq] at X;clear hq h0;unfold bM at X;dsimp only at X;have g:Hd (w4.drew.cell? ⟨VP,0,none⟩=some (.map (some vr))):=zh (aa A.o.v (j:=0) rfl);have k:=g.o;refine aD (S:=(fun w':World=>w'.cell? ⟨VP,0,none⟩=some (.map (some vr)))) 6 (by kernel_rfl) (by kernel_rfl) (by exact g.o) (fun hH=>?_);simp only [List.take_succ_cons,List.take_zero,List.drop_succ_cons,List.drop_zero]
  refine tkA 0 ?_;refine tkA 1 ?_;refine tkA 2 ?_;refine tkA 3 ?_;refine rd1 4 fun K hK=>?_;go_simp;refine hK.out _ _ ?_ (fun hH=>?_)
  ·(try dsimp only)
   exact ak _ g.o
  clear hK K;try go_simp
  refine rd1 5 fun K hK=>?_;go_simp;go_at_call 60
  refine X.o.mono ?_;rintro e w5 ⟨rfl,I⟩;have M:Below w4.heap.size w4 w5:=ay (ag (aB (Below.refl _ _)) _) I;have U:=A;replace A:=zh (A.o.below M);replace HB:=zh (HB.o.trans (M.mono (Nat.le_of_lt (ae U.o.c))));clear U;have h7:Hd (w5.cell? ⟨VP,0,none⟩=some (.map (some vr))):=zh (aa A.o.v (j:=0) rfl);clear I M k;go_simp;refine hK.out _ _ ?_ (fun hH=>?_)
  ·(try dsimp only)
   exact h7.o
  clear hK K;try go_simp
  refine wpAnyH_done (by kernel_rfl) ?_ _;dsimp only [cZ];obtain ⟨r0,r1,-⟩:=css A.o.r;obtain ⟨k0,k1,-⟩:=fzs A.o.r;go_wp2_with fail
  have J:=(HB.o.setCell (p:=⟨RB,0,none⟩) V.o.2.2 (.int .i64 fe)).setCell (p:=⟨RB,1,none⟩) V.o.2.2 (.int .i64 fa);rw [←V.o.1] at J;refine bodyPost_ret (v:=.tuple #[.map (some vr),.agg #[.int .i64 fe,.int .i64 fa]]) (by simp [results,Tryz.results92,go_sem,r0,r1]) rfl ⟨vr,by rw [HE.o];rfl,?_,J⟩;rw [HE.o];exact h6.o.view.below J
 by_cases h1:op=1
 ·subst h1
  replace HC:=zh (HC.o.trans (BH F res text es body els pos v is hG hj.o));have h9:0<n1:=by have q:(n1==1&&n2==0&&n3==0)=true:=hs;rw [Bool.and_eq_true,Bool.and_eq_true] at q;have:=eq_of_beq q.1.1;omega
  have s0:w3.cell? ⟨SP,0,none⟩=some (.int .i64 1):=aa A.o.s (j:=0) rfl;go_upto_region 6 with fail
  clear s0;have ho:Hd (CP<w3.heap.size∧SP<w3.heap.size∧VP<w3.heap.size∧RB<w3.heap.size):=zh ⟨ae A.o.c,ae A.o.s,ae A.o.v,ae A.o.r⟩;obtain ⟨xb,xoff,xop,xnum,xt,xs,xn,xc,xpos,rfl,hu,H5,y0,y1,y2,y3,y4,y⟩:=dI (hf.o.keep m.o) (by rw [←HN.o.1];exact h9);have H8:Hd ((es.headD default).pos=xpos∧(es.headD default).op=xop):=zh (by obtain ⟨_,e,_⟩:=cD y;rw [e];exact ⟨rfl,rfl⟩);have gn0:(0:Int)<(n1:Int):=by omega
  have n:=zh (fun W1 (h1:Below w3.heap.size w3 W1)=>hn.o (es.headD default) v vr W1 xop xnum xpos xt xs xn xc (l.o.below h1) (y.keep (Stays.of_below h1)));have H:Hd (S8 VP vr CP cb SP xb xoff n1 c1 xop xnum xt xs xn xc xpos w3):=zh ⟨aa A.o.v (j:=0) rfl,aa A.o.c (j:=0) rfl,aa A.o.s (j:=2) rfl,y0,y1,y2,y3,y4⟩;clear y y0 y1 y2 y3 y4;generalize aK F v (es.headD default)=xr at *;obtain ⟨t,fe,fa⟩:=xr;unfold bM at n;dsimp only at n HC;apply shared (fun TP FP w8=>Below w3.heap.size w3 w8∧w8.heap[TP]?=some (.cells #[.int .i64 t] 38 (0,0))∧w8.heap[FP]?=some (.cells #[.int .i64 fe,.int .i64 fa] 104 (0,0))∧w3.heap.size≤TP∧w3.heap.size≤FP∧¬TP=FP);intro HL;have k:S8 VP vr CP cb SP xb xoff n1 c1 xop xnum xt xs xn xc xpos w3.drew:=H.o.below (aB (Below.refl _ _));refine wp_region_held (S:=S8 VP vr CP cb SP xb xoff n1 c1 xop xnum xt xs xn xc xpos) (by kernel_rfl) ?_;refine tk (v:=?_) 0 (fun w B=>?_) ?_;rotate_left
  ·unfold S8 at B;go_simp;try with_reducible rfl
  refine tk (v:=?_) 1 (fun w B=>?_) ?_;rotate_left
  ·unfold S8 at B;go_simp;try with_reducible rfl
  refine tk (v:=?_) 2 (fun w B=>?_) ?_;rotate_left
  ·unfold S8 at B;go_simp;try with_reducible rfl
  refine tk (v:=?_) 3 (fun w B=>?_) ?_;rotate_left
  ·unfold S8 at B;go_simp;try with_reducible rfl
  refine tk (v:=?_) 4 (fun w B=>?_) ?_;rotate_left
  ·unfold S8 at B;go_simp;try with_reducible rfl
  refine tk (v:=?_) 5 (fun w B=>?_) ?_;rotate_left
  ·unfold S8 at B;go_simp;try with_reducible rfl
  have f:Hd (Below w3.heap.size w3 w3.drew):=zh (aB (Below.refl _ _));refine wpAnyH_ready (rs:=[6,10,11]) (by kernel_rfl) (by simp) ?_;refine (AllReadyH.cons rfl (fun K hK=>?_) (AllReadyH.cons rfl (fun K hK=>?_) (AllReadyH.cons rfl (fun K hK=>?_) AllReadyH.nil)))
  ·go_simp
   go_at_call 106
   refine (n.o _ f.o).mono ?_;rintro e w5 ⟨rfl,I⟩;have G:=zh (f.o.trans (I.mono f.o.size));have ha:=zh I.size;clear I k;go_simp;refine hK.out _ _ ?_ (fun hH=>?_)
   ·exact H.o.below G.o
   clear hK K;try go_simp
   refine tk (v:=?_) 7 (fun w B=>?_) ?_;rotate_left
   ·unfold S8 at B;go_simp;try with_reducible rfl
   refine tk (v:=?_) 8 (fun w B=>?_) ?_;rotate_left
   ·unfold S8 at B;go_simp;try with_reducible rfl
   refine tk (v:=?_) 9 (fun w B=>?_) ?_;rotate_left
   ·unfold S8 at B;go_simp;try with_reducible rfl
   refine wpAnyH_ready (rs:=[10,11]) (by kernel_rfl) (by simp) ?_;refine (AllReadyH.cons rfl (fun K hK=>?_) (AllReadyH.cons rfl (fun K hK=>?_) AllReadyH.nil))
   ·go_simp
    have D:Hd (Below w3.heap.size w3 (w5.alloc (.cells #[.int .i64 0] 38))):=zh (ag G.o _);have P:Hd ((w5.alloc (.cells #[.int .i64 0] 38)).heap[w5.heap.size]?=some (.cells #[.int .i64 0] 38 (0,0))):=zh (am _ _ _ rfl);refine hK.out _ _ ?_ (fun hH=>?_)
    ·exact H.o.below D.o
    clear hK K;try go_simp
    refine rd1 11 fun K hK=>?_;go_simp;have L:Hd (Below w3.heap.size w3 ((w5.alloc (.cells #[.int .i64 0] 38)).alloc (.cells #[.int .i64 0,.int .i64 0] 104))):=zh (ag D.o _);have O:Hd (((w5.alloc (.cells #[.int .i64 0] 38)).alloc (.cells #[.int .i64 0,.int .i64 0] 104)).heap[(w5.alloc (.cells #[.int .i64 0] 38)).heap.size]?=some (.cells #[.int .i64 0,.int .i64 0] 104 (0,0))):=zh (am _ _ _ rfl);replace P:Hd (((w5.alloc (.cells #[.int .i64 0] 38)).alloc (.cells #[.int .i64 0,.int .i64 0] 104)).heap[_]?=_):=zh (az _ _ _ _ P.o);refine hK.out _ _ ?_ (fun hH=>?_)
    ·exact H.o.below L.o
    clear hK K;try go_simp
    obtain ⟨N3,R⟩:∃N,N=w3.heap.size:=⟨_,rfl⟩
    have u:w3.heap.size≤w5.heap.size:=G.o.size;have f1:Below N3 w3 ((w5.alloc (.cells #[.int .i64 0] 38)).alloc (.cells #[.int .i64 0,.int .i64 0] 104)):=by rw [R];exact L.o
    have f2:((w5.alloc (.cells #[.int .i64 0] 38)).alloc (.cells #[.int .i64 0,.int .i64 0] 104)).heap[w5.heap.size]?=some (.cells #[.int .i64 0] 38 (0,0)):=by
     have q:=P.o;exact q
    have f3:((w5.alloc (.cells #[.int .i64 0] 38)).alloc (.cells #[.int .i64 0,.int .i64 0] 104)).heap[w5.heap.size+1]?=some (.cells #[.int .i64 0,.int .i64 0] 104 (0,0)):=by
     have q:=O.o;rw [ah] at q;exact q
    have f4:N3≤w5.heap.size∧N3≤w5.heap.size+1∧¬w5.heap.size=w5.heap.size+1:=by omega
    revert f1 f2 f3 f4;generalize ((w5.alloc (.cells #[.int .i64 0] 38)).alloc (.cells #[.int .i64 0,.int .i64 0] 104))=w6;generalize w5.heap.size+1=FP;generalize w5.heap.size=TP;intro f1 f2 f3 f4;rw [R] at f1 f4;have b:=zh f1;have Q:=zh f2;have a:=zh f3;have E:=zh f4;clear f1 f2 f3 f4 R u P O;have z0:w6.cell? ⟨TP,0,none⟩=some (.int .i64 0):=aa Q.o (j:=0) rfl;have y0:w6.frozen? ⟨TP,0,none⟩=false:=af Q.o 0;refine rd1 12 fun K hK=>?_;go_simp;have Z:Hd (Below w3.heap.size w3 (w6.setCell ⟨TP,0,none⟩ (.int .i64 t))):=zh (b.o.setCell (p:=⟨TP,0,none⟩) E.o.1 _);have z:Hd ((w6.setCell ⟨TP,0,none⟩ (.int .i64 t)).heap[TP]?=some (.cells #[.int .i64 t] 38 (0,0))):=zh (aq Q.o 0 _);have T:Hd ((w6.setCell ⟨TP,0,none⟩ (.int .i64 t)).heap[FP]?=some (.cells #[.int .i64 0,.int .i64 0] 104 (0,0))):=zh ((aj _ _ _ _ (fun e=>E.o.2.2 e.symm)).trans a.o);refine hK.out _ _ ?_ (fun hH=>?_)
    ·exact H.o.below Z.o
    clear hK K;try go_simp
    clear z0 y0 b Q a;generalize (w6.setCell ⟨TP,0,none⟩ (.int .i64 t))=w7 at *;obtain ⟨z0,z1,-⟩:=css T.o;obtain ⟨y0,y1,-⟩:=fzs T.o;refine rd1 13 fun K hK=>?_;go_simp;have Y:=((Z.o.setCell (p:=⟨FP,0,none⟩) E.o.2.1 (.int .i64 fe)).setCell (p:=⟨FP,1,none⟩) E.o.2.1 (.int .i64 fa))
    refine hK.out _ _ ?_ (fun hH=>?_)
    ·exact H.o.below Y
    clear hK K;try go_simp
    refine wpAnyH_done (by kernel_rfl) ?_ _;exact HL TP FP _ ⟨Y,(aj _ _ _ _ E.o.2.2).trans ((aj _ _ _ _ E.o.2.2).trans z.o),aq (aq T.o 0 _) 1 _,E.o⟩
   go_simp;have D:Hd (Below w3.heap.size w3 (w5.alloc (.cells #[.int .i64 0,.int .i64 0] 104))):=zh (ag G.o _);have O:Hd ((w5.alloc (.cells #[.int .i64 0,.int .i64 0] 104)).heap[w5.heap.size]?=some (.cells #[.int .i64 0,.int .i64 0] 104 (0,0))):=zh (am _ _ _ rfl);refine hK.out _ _ ?_ (fun hH=>?_)
   ·exact H.o.below D.o
   clear hK K;try go_simp
   refine rd1 10 fun K hK=>?_;go_simp;have L:Hd (Below w3.heap.size w3 ((w5.alloc (.cells #[.int .i64 0,.int .i64 0] 104)).alloc (.cells #[.int .i64 0] 38))):=zh (ag D.o _);have P:Hd (((w5.alloc (.cells #[.int .i64 0,.int .i64 0] 104)).alloc (.cells #[.int .i64 0] 38)).heap[(w5.alloc (.cells #[.int .i64 0,.int .i64 0] 104)).heap.size]?=some (.cells #[.int .i64 0] 38 (0,0))):=zh (am _ _ _ rfl);replace O:Hd (((w5.alloc (.cells #[.int .i64 0,.int .i64 0] 104)).alloc (.cells #[.int .i64 0] 38)).heap[_]?=_):=zh (az _ _ _ _ O.o);refine hK.out _ _ ?_ (fun hH=>?_)
   ·exact H.o.below L.o
   clear hK K;try go_simp
   obtain ⟨N3,R⟩:∃N,N=w3.heap.size:=⟨_,rfl⟩
   have u:w3.heap.size≤w5.heap.size:=G.o.size;have f1:Below N3 w3 ((w5.alloc (.cells #[.int .i64 0,.int .i64 0] 104)).alloc (.cells #[.int .i64 0] 38)):=by rw [R];exact L.o
   have f2:((w5.alloc (.cells #[.int .i64 0,.int .i64 0] 104)).alloc (.cells #[.int .i64 0] 38)).heap[w5.heap.size+1]?=some (.cells #[.int .i64 0] 38 (0,0)):=by
    have q:=P.o;rw [ah] at q;exact q
   have f3:((w5.alloc (.cells #[.int .i64 0,.int .i64 0] 104)).alloc (.cells #[.int .i64 0] 38)).heap[w5.heap.size]?=some (.cells #[.int .i64 0,.int .i64 0] 104 (0,0)):=by
    have q:=O.o;exact q
   have f4:N3≤w5.heap.size+1∧N3≤w5.heap.size∧¬w5.heap.size+1=w5.heap.size:=by omega
   revert f1 f2 f3 f4;generalize ((w5.alloc (.cells #[.int .i64 0,.int .i64 0] 104)).alloc (.cells #[.int .i64 0] 38))=w6;generalize w5.heap.size+1=TP;generalize w5.heap.size=FP;intro f1 f2 f3 f4;rw [R] at f1 f4;have b:=zh f1;have Q:=zh f2;have a:=zh f3;have E:=zh f4;clear f1 f2 f3 f4 R u P O;have z0:w6.cell? ⟨TP,0,none⟩=some (.int .i64 0):=aa Q.o (j:=0) rfl;have y0:w6.frozen? ⟨TP,0,none⟩=false:=af Q.o 0;refine rd1 12 fun K hK=>?_;go_simp;have Z:Hd (Below w3.heap.size w3 (w6.setCell ⟨TP,0,none⟩ (.int .i64 t))):=zh (b.o.setCell (p:=⟨TP,0,none⟩) E.o.1 _);have z:Hd ((w6.setCell ⟨TP,0,none⟩ (.int .i64 t)).heap[TP]?=some (.cells #[.int .i64 t] 38 (0,0))):=zh (aq Q.o 0 _);have T:Hd ((w6.setCell ⟨TP,0,none⟩ (.int .i64 t)).heap[FP]?=some (.cells #[.int .i64 0,.int .i64 0] 104 (0,0))):=zh ((aj _ _ _ _ (fun e=>E.o.2.2 e.symm)).trans a.o);refine hK.out _ _ ?_ (fun hH=>?_)
   ·exact H.o.below Z.o
   clear hK K;try go_simp
   clear z0 y0 b Q a;generalize (w6.setCell ⟨TP,0,none⟩ (.int .i64 t))=w7 at *;obtain ⟨z0,z1,-⟩:=css T.o;obtain ⟨y0,y1,-⟩:=fzs T.o;refine rd1 13 fun K hK=>?_;go_simp;have Y:=((Z.o.setCell (p:=⟨FP,0,none⟩) E.o.2.1 (.int .i64 fe)).setCell (p:=⟨FP,1,none⟩) E.o.2.1 (.int .i64 fa))
   refine hK.out _ _ ?_ (fun hH=>?_)
   ·exact H.o.below Y
   clear hK K;try go_simp
   refine wpAnyH_done (by kernel_rfl) ?_ _;exact HL TP FP _ ⟨Y,(aj _ _ _ _ E.o.2.2).trans ((aj _ _ _ _ E.o.2.2).trans z.o),aq (aq T.o 0 _) 1 _,E.o⟩
  ·go_simp
   have G:Hd (Below w3.heap.size w3 (w3.drew.alloc (.cells #[.int .i64 0] 38))):=zh (ag f.o _);have P:Hd ((w3.drew.alloc (.cells #[.int .i64 0] 38)).heap[w3.drew.heap.size]?=some (.cells #[.int .i64 0] 38 (0,0))):=zh (am _ _ _ rfl);clear k;refine hK.out _ _ ?_ (fun hH=>?_)
   ·exact H.o.below G.o
   clear hK K;try go_simp
   refine wpAnyH_ready (rs:=[6,11]) (by kernel_rfl) (by simp) ?_;refine (AllReadyH.cons rfl (fun K hK=>?_) (AllReadyH.cons rfl (fun K hK=>?_) AllReadyH.nil))
   ·go_simp
    go_at_call 106
    refine (n.o _ G.o).mono ?_;rintro e w5 ⟨rfl,I⟩;have D:=zh (G.o.trans (I.mono G.o.size));replace P:=zh ((I.block _ (ae P.o)).trans P.o);have ha:=zh I.size;clear I;go_simp;refine hK.out _ _ ?_ (fun hH=>?_)
    ·exact H.o.below D.o
    clear hK K;try go_simp
    refine tk (v:=?_) 7 (fun w B=>?_) ?_;rotate_left
    ·unfold S8 at B;go_simp;try with_reducible rfl
    refine tk (v:=?_) 8 (fun w B=>?_) ?_;rotate_left
    ·unfold S8 at B;go_simp;try with_reducible rfl
    refine tk (v:=?_) 9 (fun w B=>?_) ?_;rotate_left
    ·unfold S8 at B;go_simp;try with_reducible rfl
    refine rd1 11 fun K hK=>?_;go_simp;have L:Hd (Below w3.heap.size w3 (w5.alloc (.cells #[.int .i64 0,.int .i64 0] 104))):=zh (ag D.o _);have O:Hd ((w5.alloc (.cells #[.int .i64 0,.int .i64 0] 104)).heap[w5.heap.size]?=some (.cells #[.int .i64 0,.int .i64 0] 104 (0,0))):=zh (am _ _ _ rfl);replace P:Hd ((w5.alloc (.cells #[.int .i64 0,.int .i64 0] 104)).heap[_]?=_):=zh (az _ _ _ _ P.o);refine hK.out _ _ ?_ (fun hH=>?_)
    ·exact H.o.below L.o
    clear hK K;try go_simp
    obtain ⟨N3,R⟩:∃N,N=w3.heap.size:=⟨_,rfl⟩
    have u:w3.heap.size≤w5.heap.size:=D.o.size;have hl:w3.heap.size+1≤w5.heap.size:=by have q:=ha.o;rw [ah] at q;exact q
    have f1:Below N3 w3 (w5.alloc (.cells #[.int .i64 0,.int .i64 0] 104)):=by rw [R];exact L.o
    have f2:(w5.alloc (.cells #[.int .i64 0,.int .i64 0] 104)).heap[w3.heap.size]?=some (.cells #[.int .i64 0] 38 (0,0)):=by
     have q:=P.o;exact q
    have f3:(w5.alloc (.cells #[.int .i64 0,.int .i64 0] 104)).heap[w5.heap.size]?=some (.cells #[.int .i64 0,.int .i64 0] 104 (0,0)):=by
     have q:=O.o;exact q
    have f4:N3≤w3.heap.size∧N3≤w5.heap.size∧¬w3.heap.size=w5.heap.size:=by omega
    revert f1 f2 f3 f4;generalize (w5.alloc (.cells #[.int .i64 0,.int .i64 0] 104))=w6;generalize w3.heap.size=TP;generalize w5.heap.size=FP;intro f1 f2 f3 f4;rw [R] at f1 f4;have b:=zh f1;have Q:=zh f2;have a:=zh f3;have E:=zh f4;clear f1 f2 f3 f4 R u hl P O;have z0:w6.cell? ⟨TP,0,none⟩=some (.int .i64 0):=aa Q.o (j:=0) rfl;have y0:w6.frozen? ⟨TP,0,none⟩=false:=af Q.o 0;refine rd1 12 fun K hK=>?_;go_simp;have Z:Hd (Below w3.heap.size w3 (w6.setCell ⟨TP,0,none⟩ (.int .i64 t))):=zh (b.o.setCell (p:=⟨TP,0,none⟩) E.o.1 _);have z:Hd ((w6.setCell ⟨TP,0,none⟩ (.int .i64 t)).heap[TP]?=some (.cells #[.int .i64 t] 38 (0,0))):=zh (aq Q.o 0 _);have T:Hd ((w6.setCell ⟨TP,0,none⟩ (.int .i64 t)).heap[FP]?=some (.cells #[.int .i64 0,.int .i64 0] 104 (0,0))):=zh ((aj _ _ _ _ (fun e=>E.o.2.2 e.symm)).trans a.o);refine hK.out _ _ ?_ (fun hH=>?_)
    ·exact H.o.below Z.o
    clear hK K;try go_simp
    clear z0 y0 b Q a;generalize (w6.setCell ⟨TP,0,none⟩ (.int .i64 t))=w7 at *;obtain ⟨z0,z1,-⟩:=css T.o;obtain ⟨y0,y1,-⟩:=fzs T.o;refine rd1 13 fun K hK=>?_;go_simp;have Y:=((Z.o.setCell (p:=⟨FP,0,none⟩) E.o.2.1 (.int .i64 fe)).setCell (p:=⟨FP,1,none⟩) E.o.2.1 (.int .i64 fa))
    refine hK.out _ _ ?_ (fun hH=>?_)
    ·exact H.o.below Y
    clear hK K;try go_simp
    refine wpAnyH_done (by kernel_rfl) ?_ _;exact HL TP FP _ ⟨Y,(aj _ _ _ _ E.o.2.2).trans ((aj _ _ _ _ E.o.2.2).trans z.o),aq (aq T.o 0 _) 1 _,E.o⟩
   go_simp;have D:Hd (Below w3.heap.size w3 ((w3.drew.alloc (.cells #[.int .i64 0] 38)).alloc (.cells #[.int .i64 0,.int .i64 0] 104))):=zh (ag G.o _);have O:Hd (((w3.drew.alloc (.cells #[.int .i64 0] 38)).alloc (.cells #[.int .i64 0,.int .i64 0] 104)).heap[(w3.drew.alloc (.cells #[.int .i64 0] 38)).heap.size]?=some (.cells #[.int .i64 0,.int .i64 0] 104 (0,0))):=zh (am _ _ _ rfl);replace P:Hd (((w3.drew.alloc (.cells #[.int .i64 0] 38)).alloc (.cells #[.int .i64 0,.int .i64 0] 104)).heap[_]?=_):=zh (az _ _ _ _ P.o);refine hK.out _ _ ?_ (fun hH=>?_)
   ·exact H.o.below D.o
   clear hK K;try go_simp
   refine rd1 6 fun K hK=>?_;go_simp;go_at_call 106
   refine (n.o _ D.o).mono ?_;rintro e w5 ⟨rfl,I⟩;have L:=zh (D.o.trans (I.mono D.o.size));replace P:=zh ((I.block _ (ae P.o)).trans P.o);replace O:=zh ((I.block _ (ae O.o)).trans O.o);have ha:=zh I.size;clear I;go_simp;refine hK.out _ _ ?_ (fun hH=>?_)
   ·exact H.o.below L.o
   clear hK K;try go_simp
   refine tk (v:=?_) 7 (fun w B=>?_) ?_;rotate_left
   ·unfold S8 at B;go_simp;try with_reducible rfl
   refine tk (v:=?_) 8 (fun w B=>?_) ?_;rotate_left
   ·unfold S8 at B;go_simp;try with_reducible rfl
   refine tk (v:=?_) 9 (fun w B=>?_) ?_;rotate_left
   ·unfold S8 at B;go_simp;try with_reducible rfl
   obtain ⟨N3,R⟩:∃N,N=w3.heap.size:=⟨_,rfl⟩
   have u:w3.heap.size≤w5.heap.size:=L.o.size;have f1:Below N3 w3 w5:=by rw [R];exact L.o
   have f2:w5.heap[w3.heap.size]?=some (.cells #[.int .i64 0] 38 (0,0)):=by
    have q:=P.o;exact q
   have f3:w5.heap[w3.heap.size+1]?=some (.cells #[.int .i64 0,.int .i64 0] 104 (0,0)):=by
    have q:=O.o;rw [ah] at q;exact q
   have f4:N3≤w3.heap.size∧N3≤w3.heap.size+1∧¬w3.heap.size=w3.heap.size+1:=by omega
   revert f1 f2 f3 f4;generalize w5=w6;generalize w3.heap.size+1=FP;generalize w3.heap.size=TP;intro f1 f2 f3 f4;rw [R] at f1 f4;have b:=zh f1;have Q:=zh f2;have a:=zh f3;have E:=zh f4;clear f1 f2 f3 f4 R u P O;have z0:w6.cell? ⟨TP,0,none⟩=some (.int .i64 0):=aa Q.o (j:=0) rfl;have y0:w6.frozen? ⟨TP,0,none⟩=false:=af Q.o 0;refine rd1 12 fun K hK=>?_;go_simp;have Z:Hd (Below w3.heap.size w3 (w6.setCell ⟨TP,0,none⟩ (.int .i64 t))):=zh (b.o.setCell (p:=⟨TP,0,none⟩) E.o.1 _);have z:Hd ((w6.setCell ⟨TP,0,none⟩ (.int .i64 t)).heap[TP]?=some (.cells #[.int .i64 t] 38 (0,0))):=zh (aq Q.o 0 _);have T:Hd ((w6.setCell ⟨TP,0,none⟩ (.int .i64 t)).heap[FP]?=some (.cells #[.int .i64 0,.int .i64 0] 104 (0,0))):=zh ((aj _ _ _ _ (fun e=>E.o.2.2 e.symm)).trans a.o);refine hK.out _ _ ?_ (fun hH=>?_)
   ·exact H.o.below Z.o
   clear hK K;try go_simp
   clear z0 y0 b Q a;generalize (w6.setCell ⟨TP,0,none⟩ (.int .i64 t))=w7 at *;obtain ⟨z0,z1,-⟩:=css T.o;obtain ⟨y0,y1,-⟩:=fzs T.o;refine rd1 13 fun K hK=>?_;go_simp;have Y:=((Z.o.setCell (p:=⟨FP,0,none⟩) E.o.2.1 (.int .i64 fe)).setCell (p:=⟨FP,1,none⟩) E.o.2.1 (.int .i64 fa))
   refine hK.out _ _ ?_ (fun hH=>?_)
   ·exact H.o.below Y
   clear hK K;try go_simp
   refine wpAnyH_done (by kernel_rfl) ?_ _;exact HL TP FP _ ⟨Y,(aj _ _ _ _ E.o.2.2).trans ((aj _ _ _ _ E.o.2.2).trans z.o),aq (aq T.o 0 _) 1 _,E.o⟩
  go_simp;have G:Hd (Below w3.heap.size w3 (w3.drew.alloc (.cells #[.int .i64 0,.int .i64 0] 104))):=zh (ag f.o _);have O:Hd ((w3.drew.alloc (.cells #[.int .i64 0,.int .i64 0] 104)).heap[w3.drew.heap.size]?=some (.cells #[.int .i64 0,.int .i64 0] 104 (0,0))):=zh (am _ _ _ rfl);clear k;refine hK.out _ _ ?_ (fun hH=>?_)
  ·exact H.o.below G.o
  clear hK K;try go_simp
  refine wpAnyH_ready (rs:=[6,10]) (by kernel_rfl) (by simp) ?_;refine (AllReadyH.cons rfl (fun K hK=>?_) (AllReadyH.cons rfl (fun K hK=>?_) AllReadyH.nil))
  ·go_simp
   go_at_call 106
   refine (n.o _ G.o).mono ?_;rintro e w5 ⟨rfl,I⟩;have D:=zh (G.o.trans (I.mono G.o.size));replace O:=zh ((I.block _ (ae O.o)).trans O.o);have ha:=zh I.size;clear I;go_simp;refine hK.out _ _ ?_ (fun hH=>?_)
   ·exact H.o.below D.o
   clear hK K;try go_simp
   refine tk (v:=?_) 7 (fun w B=>?_) ?_;rotate_left
   ·unfold S8 at B;go_simp;try with_reducible rfl
   refine tk (v:=?_) 8 (fun w B=>?_) ?_;rotate_left
   ·unfold S8 at B;go_simp;try with_reducible rfl
   refine tk (v:=?_) 9 (fun w B=>?_) ?_;rotate_left
   ·unfold S8 at B;go_simp;try with_reducible rfl
   refine rd1 10 fun K hK=>?_;go_simp;have L:Hd (Below w3.heap.size w3 (w5.alloc (.cells #[.int .i64 0] 38))):=zh (ag D.o _);have P:Hd ((w5.alloc (.cells #[.int .i64 0] 38)).heap[w5.heap.size]?=some (.cells #[.int .i64 0] 38 (0,0))):=zh (am _ _ _ rfl);replace O:Hd ((w5.alloc (.cells #[.int .i64 0] 38)).heap[_]?=_):=zh (az _ _ _ _ O.o);refine hK.out _ _ ?_ (fun hH=>?_)
   ·exact H.o.below L.o
   clear hK K;try go_simp
   obtain ⟨N3,R⟩:∃N,N=w3.heap.size:=⟨_,rfl⟩
   have u:w3.heap.size≤w5.heap.size:=D.o.size;have hl:w3.heap.size+1≤w5.heap.size:=by have q:=ha.o;rw [ah] at q;exact q
   have f1:Below N3 w3 (w5.alloc (.cells #[.int .i64 0] 38)):=by rw [R];exact L.o
   have f2:(w5.alloc (.cells #[.int .i64 0] 38)).heap[w5.heap.size]?=some (.cells #[.int .i64 0] 38 (0,0)):=by
    have q:=P.o;exact q
   have f3:(w5.alloc (.cells #[.int .i64 0] 38)).heap[w3.heap.size]?=some (.cells #[.int .i64 0,.int .i64 0] 104 (0,0)):=by
    have q:=O.o;exact q
   have f4:N3≤w5.heap.size∧N3≤w3.heap.size∧¬w5.heap.size=w3.heap.size:=by omega
   revert f1 f2 f3 f4;generalize (w5.alloc (.cells #[.int .i64 0] 38))=w6;generalize w5.heap.size=TP;generalize w3.heap.size=FP;intro f1 f2 f3 f4;rw [R] at f1 f4;have b:=zh f1;have Q:=zh f2;have a:=zh f3;have E:=zh f4;clear f1 f2 f3 f4 R u hl P O;have z0:w6.cell? ⟨TP,0,none⟩=some (.int .i64 0):=aa Q.o (j:=0) rfl;have y0:w6.frozen? ⟨TP,0,none⟩=false:=af Q.o 0;refine rd1 12 fun K hK=>?_;go_simp;have Z:Hd (Below w3.heap.size w3 (w6.setCell ⟨TP,0,none⟩ (.int .i64 t))):=zh (b.o.setCell (p:=⟨TP,0,none⟩) E.o.1 _);have z:Hd ((w6.setCell ⟨TP,0,none⟩ (.int .i64 t)).heap[TP]?=some (.cells #[.int .i64 t] 38 (0,0))):=zh (aq Q.o 0 _);have T:Hd ((w6.setCell ⟨TP,0,none⟩ (.int .i64 t)).heap[FP]?=some (.cells #[.int .i64 0,.int .i64 0] 104 (0,0))):=zh ((aj _ _ _ _ (fun e=>E.o.2.2 e.symm)).trans a.o);refine hK.out _ _ ?_ (fun hH=>?_)
   ·exact H.o.below Z.o
   clear hK K;try go_simp
   clear z0 y0 b Q a;generalize (w6.setCell ⟨TP,0,none⟩ (.int .i64 t))=w7 at *;obtain ⟨z0,z1,-⟩:=css T.o;obtain ⟨y0,y1,-⟩:=fzs T.o;refine rd1 13 fun K hK=>?_;go_simp;have Y:=((Z.o.setCell (p:=⟨FP,0,none⟩) E.o.2.1 (.int .i64 fe)).setCell (p:=⟨FP,1,none⟩) E.o.2.1 (.int .i64 fa))
   refine hK.out _ _ ?_ (fun hH=>?_)
   ·exact H.o.below Y
   clear hK K;try go_simp
   refine wpAnyH_done (by kernel_rfl) ?_ _;exact HL TP FP _ ⟨Y,(aj _ _ _ _ E.o.2.2).trans ((aj _ _ _ _ E.o.2.2).trans z.o),aq (aq T.o 0 _) 1 _,E.o⟩
  go_simp;have D:Hd (Below w3.heap.size w3 ((w3.drew.alloc (.cells #[.int .i64 0,.int .i64 0] 104)).alloc (.cells #[.int .i64 0] 38))):=zh (ag G.o _);have P:Hd (((w3.drew.alloc (.cells #[.int .i64 0,.int .i64 0] 104)).alloc (.cells #[.int .i64 0] 38)).heap[(w3.drew.alloc (.cells #[.int .i64 0,.int .i64 0] 104)).heap.size]?=some (.cells #[.int .i64 0] 38 (0,0))):=zh (am _ _ _ rfl);replace O:Hd (((w3.drew.alloc (.cells #[.int .i64 0,.int .i64 0] 104)).alloc (.cells #[.int .i64 0] 38)).heap[_]?=_):=zh (az _ _ _ _ O.o);refine hK.out _ _ ?_ (fun hH=>?_)
  ·exact H.o.below D.o
  clear hK K;try go_simp
  refine rd1 6 fun K hK=>?_;go_simp;go_at_call 106
  refine (n.o _ D.o).mono ?_;rintro e w5 ⟨rfl,I⟩;have L:=zh (D.o.trans (I.mono D.o.size));replace O:=zh ((I.block _ (ae O.o)).trans O.o);replace P:=zh ((I.block _ (ae P.o)).trans P.o);have ha:=zh I.size;clear I;go_simp;refine hK.out _ _ ?_ (fun hH=>?_)
  ·exact H.o.below L.o
  clear hK K;try go_simp
  refine tk (v:=?_) 7 (fun w B=>?_) ?_;rotate_left
  ·unfold S8 at B;go_simp;try with_reducible rfl
  refine tk (v:=?_) 8 (fun w B=>?_) ?_;rotate_left
  ·unfold S8 at B;go_simp;try with_reducible rfl
  refine tk (v:=?_) 9 (fun w B=>?_) ?_;rotate_left
  ·unfold S8 at B;go_simp;try with_reducible rfl
  obtain ⟨N3,R⟩:∃N,N=w3.heap.size:=⟨_,rfl⟩
  have u:w3.heap.size≤w5.heap.size:=L.o.size;have f1:Below N3 w3 w5:=by rw [R];exact L.o
  have f2:w5.heap[w3.heap.size+1]?=some (.cells #[.int .i64 0] 38 (0,0)):=by
   have q:=P.o;rw [ah] at q;exact q
  have f3:w5.heap[w3.heap.size]?=some (.cells #[.int .i64 0,.int .i64 0] 104 (0,0)):=by
   have q:=O.o;exact q
  have f4:N3≤w3.heap.size+1∧N3≤w3.heap.size∧¬w3.heap.size+1=w3.heap.size:=by omega
  revert f1 f2 f3 f4;generalize w5=w6;generalize w3.heap.size+1=TP;generalize w3.heap.size=FP;intro f1 f2 f3 f4;rw [R] at f1 f4;have b:=zh f1;have Q:=zh f2;have a:=zh f3;have E:=zh f4;clear f1 f2 f3 f4 R u P O;have z0:w6.cell? ⟨TP,0,none⟩=some (.int .i64 0):=aa Q.o (j:=0) rfl;have y0:w6.frozen? ⟨TP,0,none⟩=false:=af Q.o 0;refine rd1 12 fun K hK=>?_;go_simp;have Z:Hd (Below w3.heap.size w3 (w6.setCell ⟨TP,0,none⟩ (.int .i64 t))):=zh (b.o.setCell (p:=⟨TP,0,none⟩) E.o.1 _);have z:Hd ((w6.setCell ⟨TP,0,none⟩ (.int .i64 t)).heap[TP]?=some (.cells #[.int .i64 t] 38 (0,0))):=zh (aq Q.o 0 _);have T:Hd ((w6.setCell ⟨TP,0,none⟩ (.int .i64 t)).heap[FP]?=some (.cells #[.int .i64 0,.int .i64 0] 104 (0,0))):=zh ((aj _ _ _ _ (fun e=>E.o.2.2 e.symm)).trans a.o);refine hK.out _ _ ?_ (fun hH=>?_)
  ·exact H.o.below Z.o
  clear hK K;try go_simp
  clear z0 y0 b Q a;generalize (w6.setCell ⟨TP,0,none⟩ (.int .i64 t))=w7 at *;obtain ⟨z0,z1,-⟩:=css T.o;obtain ⟨y0,y1,-⟩:=fzs T.o;refine rd1 13 fun K hK=>?_;go_simp;have Y:=((Z.o.setCell (p:=⟨FP,0,none⟩) E.o.2.1 (.int .i64 fe)).setCell (p:=⟨FP,1,none⟩) E.o.2.1 (.int .i64 fa))
  refine hK.out _ _ ?_ (fun hH=>?_)
  ·exact H.o.below Y
  clear hK K;try go_simp
  refine wpAnyH_done (by kernel_rfl) ?_ _;exact HL TP FP _ ⟨Y,(aj _ _ _ _ E.o.2.2).trans ((aj _ _ _ _ E.o.2.2).trans z.o),aq (aq T.o 0 _) 1 _,E.o⟩;rintro TP FP w8 ⟨hh,hD,hB,hA⟩;have hw:=zh hD;have hv:=zh hB;have E:=zh hA;have hm:=zh ((hh.block _ (ae hg.o)).trans hg.o);have U:=A;replace A:=zh (A.o.below hh);replace HB:=zh (HB.o.trans (hh.mono (Nat.le_of_lt (ae U.o.c))));clear U;have hc:Hd ((CP≤TP∧CP≤FP)∧(CP≠FP∧SP≠FP∧VP≠FP∧RB≠FP)∧RB≠TP∧¬TP=FP):=zh (by have q:=ho.o;omega);clear H hF hg l m n hh hD hB hA;have l:=zh (h6.o.below (by rw [V.o.1];exact HB.o));have m:Hd (Stays Any w w8):=zh (Stays.of_below (by rw [V.o.1];exact HB.o));go_upto_region 7 with fail
  have h0:=zh (yF (Bb hv.o) (Bc (by rw [←HN.o.1];exact h9) (hf.o.keep m.o) hw.o A.o.s) (AZ hm.o A.o.s) w8 (Below.refl _ _) 138);generalize hq:aV [(fe,fa),noC (t !=0) 51 (es.headD default).pos,noC (!is) 53 pos]=q at *;obtain ⟨ge,ga⟩:=q;have X:=zh (fq _ _ _ h0.o);rw [hq] at X;clear hq h0;unfold bM at X;dsimp only at X;go_wp2_with fail
  refine X.o.mono ?_;rintro e w9 ⟨rfl,H6⟩;have hd:Below w8.heap.size w8 w9:=ay (ag (Below.refl _ _) _) H6;have U:=A;replace A:=zh (A.o.below hd);replace HB:=zh (HB.o.trans (hd.mono (Nat.le_of_lt (ae U.o.c))));clear U;have Hc:=zh ((hd.block _ (ae hw.o)).trans hw.o);have hM:=zh ((hd.block _ (ae hv.o)).trans hv.o);clear H6 hd hw hv;obtain ⟨z0,z1,-⟩:=css hM.o;obtain ⟨y0,y1,-⟩:=fzs hM.o;go_upto_region 8 with fail
  have Hs:Hd (((w9.setCell ⟨FP,0,none⟩ (.int .i64 ge)).setCell ⟨FP,1,none⟩ (.int .i64 ga)).heap[TP]?=some (.cells #[.int .i64 t] 38 (0,0))):=zh ((aj _ _ _ _ hc.o.2.2.2).trans ((aj _ _ _ _ hc.o.2.2.2).trans Hc.o));have Hb:Hd (((w9.setCell ⟨FP,0,none⟩ (.int .i64 ge)).setCell ⟨FP,1,none⟩ (.int .i64 ga)).heap[FP]?=some (.cells #[.int .i64 ge,.int .i64 ga] 104 (0,0))):=zh (aq (aq hM.o 0 _) 1 _);have hN:Hd (BoxA ((w9.setCell ⟨FP,0,none⟩ (.int .i64 ge)).setCell ⟨FP,1,none⟩ (.int .i64 ga)) cb vr CP SP VP RB _):=zh ((A.o.set FP 0 _ hc.o.2.1).set FP 1 _ hc.o.2.1);have He:Hd (Below CP w ((w9.setCell ⟨FP,0,none⟩ (.int .i64 ge)).setCell ⟨FP,1,none⟩ (.int .i64 ga))):=zh ((HB.o.setCell (p:=⟨FP,0,none⟩) hc.o.1.2 _).setCell (p:=⟨FP,1,none⟩) hc.o.1.2 _);clear z0 z1 y0 y1 A HB Hc hM l m hm;generalize ((w9.setCell ⟨FP,0,none⟩ (.int .i64 ge)).setCell ⟨FP,1,none⟩ (.int .i64 ga))=w10 at *;have l:=zh (h6.o.below (by rw [V.o.1];exact He.o));have Hm:=zh (fun W (hW:Below w10.heap.size w10 W)=>qh vr v text t false W (l.o.view.below hW));have hI:Hd (w10.cell? ⟨VP,0,none⟩=some (.map (some vr))∧w10.cell? ⟨SP,1,none⟩=some (.string text)∧w10.cell? ⟨TP,0,none⟩=some (.int .i64 t)∧w10.cell? ⟨FP,0,none⟩=some (.int .i64 ge)∧w10.cell? ⟨FP,1,none⟩=some (.int .i64 ga)):=zh ⟨aa hN.o.v (j:=0) rfl,aa hN.o.s (j:=1) rfl,aa Hs.o (j:=0) rfl,aa Hb.o (j:=0) rfl,aa Hb.o (j:=1) rfl⟩;have Hr:Hd (w10.drew.cell? ⟨VP,0,none⟩=some (.map (some vr))∧w10.drew.cell? ⟨SP,1,none⟩=some (.string text)∧w10.drew.cell? ⟨TP,0,none⟩=some (.int .i64 t)∧w10.drew.cell? ⟨FP,0,none⟩=some (.int .i64 ge)∧w10.drew.cell? ⟨FP,1,none⟩=some (.int .i64 ga)):=zh hI.o;have Hh:=Hr.o;refine wp_region_held (S:=(fun w':World=>w'.cell? ⟨VP,0,none⟩=some (.map (some vr))∧w'.cell? ⟨SP,1,none⟩=some (.string text)∧w'.cell? ⟨TP,0,none⟩=some (.int .i64 t)∧w'.cell? ⟨FP,0,none⟩=some (.int .i64 ge)∧w'.cell? ⟨FP,1,none⟩=some (.int .i64 ga))) (by kernel_rfl) ?_;refine tkA 0 ?_;refine tkA 1 ?_;refine tkA 2 ?_;refine tkA 3 ?_;refine tkA 4 ?_;refine tkA 6 ?_;clear Hh;refine rd1 5 fun K hK=>?_;go_simp;go_at_call 110
  refine (Hm.o _ (aB (Below.refl _ _))).mono ?_;rintro e w11 ⟨r2,rfl,H1,hE⟩;have d:Hd (Below w10.heap.size w10 w11):=zh (ay (aB (Below.refl _ _)) hE);have Hn:=zh H1;have hO:=zh (hN.o.below d.o);clear hE H1;go_simp;refine hK.out _ _ ?_ (fun hH=>?_)
  ·(try dsimp only)
   have q:=hI.o;exact ⟨(d.o.cell (ax q.1)).trans q.1,(d.o.cell (ax q.2.1)).trans q.2.1,(d.o.cell (ax q.2.2.1)).trans q.2.2.1,(d.o.cell (ax q.2.2.2.1)).trans q.2.2.2.1,(d.o.cell (ax q.2.2.2.2)).trans q.2.2.2.2⟩
  clear hK K;try go_simp
  refine rd1 7 fun K hK=>?_;go_simp;refine hK.out _ _ ?_ (fun hH=>?_)
  ·(try dsimp only)
   have q:=hI.o;exact ⟨(d.o.cell (ax q.1)).trans q.1,(d.o.cell (ax q.2.1)).trans q.2.1,(d.o.cell (ax q.2.2.1)).trans q.2.2.1,(d.o.cell (ax q.2.2.2.1)).trans q.2.2.2.1,(d.o.cell (ax q.2.2.2.2)).trans q.2.2.2.2⟩
  clear hK K;try go_simp
  obtain ⟨r0,r1,-⟩:=css hO.o.r;obtain ⟨k0,k1,-⟩:=fzs hO.o.r;refine rd1 8 fun K hK=>?_;go_simp;refine hK.out _ _ ?_ (fun hH=>?_)
  ·(try dsimp only)
   have q:=hI.o;exact ⟨(aQ _ _ (Or.inl hL.o.2.2)).trans ((aQ _ _ (Or.inl hL.o.2.2)).trans ((d.o.cell (ax q.1)).trans q.1)),(aQ _ _ (Or.inl hL.o.2.1)).trans ((aQ _ _ (Or.inl hL.o.2.1)).trans ((d.o.cell (ax q.2.1)).trans q.2.1)),(aQ _ _ (Or.inl hc.o.2.2.1)).trans ((aQ _ _ (Or.inl hc.o.2.2.1)).trans ((d.o.cell (ax q.2.2.1)).trans q.2.2.1)),(aQ _ _ (Or.inl hc.o.2.1.2.2.2)).trans ((aQ _ _ (Or.inl hc.o.2.1.2.2.2)).trans ((d.o.cell (ax q.2.2.2.1)).trans q.2.2.2.1)),(aQ _ _ (Or.inl hc.o.2.1.2.2.2)).trans ((aQ _ _ (Or.inl hc.o.2.1.2.2.2)).trans ((d.o.cell (ax q.2.2.2.2)).trans q.2.2.2.2))⟩
  clear hK K;try go_simp
  refine wpAnyH_done (by kernel_rfl) ?_ _;go_wp2_with fail
  have J:=((He.o.trans (d.o.mono (Nat.le_of_lt (ae hN.o.c)))).setCell (p:=⟨RB,0,none⟩) V.o.2.2 (.int .i64 ge)).setCell (p:=⟨RB,1,none⟩) V.o.2.2 (.int .i64 ga);rw [←V.o.1] at J;refine bodyPost_ret (v:=.tuple #[.map (some r2),.agg #[.int .i64 ge,.int .i64 ga]]) (by simp [results,Tryz.results92,go_sem,r0,r1]) rfl ⟨r2,by rw [HC.o];rfl,?_,J⟩;rw [HC.o];exact iR (iR Hn.o hO.o.r 0 _) (aq hO.o.r 0 _) 1 _
 by_cases h8:op=8
 ·subst h8
  replace HC:=zh (HC.o.trans (BI F res text es body els pos v hj.o));have h9:0<n1:=by have q:(n1==1&&n2==0&&n3==0)=true:=hs;rw [Bool.and_eq_true,Bool.and_eq_true] at q;have:=eq_of_beq q.1.1;omega
  have s0:w3.cell? ⟨SP,0,none⟩=some (.int .i64 8):=aa A.o.s (j:=0) rfl;go_upto_region 22 with fail
  clear s0;obtain ⟨xb,xoff,xop,xnum,xt,xs,xn,xc,xpos,rfl,hu,H5,y0,y1,y2,y3,y4,y⟩:=dI (hf.o.keep m.o) (by rw [←HN.o.1];exact h9);have H8:Hd ((es.headD default).pos=xpos∧(es.headD default).op=xop):=zh (by obtain ⟨_,e,_⟩:=cD y;rw [e];exact ⟨rfl,rfl⟩);have gn0:(0:Int)<(n1:Int):=by omega
  have n:=zh (fun W1 (h1:Below w3.heap.size w3 W1)=>hn.o (es.headD default) v vr W1 xop xnum xpos xt xs xn xc (l.o.below h1) (y.keep (Stays.of_below h1)));have H:Hd (S8 VP vr CP cb SP xb xoff n1 c1 xop xnum xt xs xn xc xpos w3):=zh ⟨aa A.o.v (j:=0) rfl,aa A.o.c (j:=0) rfl,aa A.o.s (j:=2) rfl,y0,y1,y2,y3,y4⟩;clear y y0 y1 y2 y3 y4;generalize aK F v (es.headD default)=xr at *;obtain ⟨t,fe,fa⟩:=xr;unfold bM at n;dsimp only at n HC;have k:S8 VP vr CP cb SP xb xoff n1 c1 xop xnum xt xs xn xc xpos w3.drew:=H.o.below (aB (Below.refl _ _));refine wp_region_held (S:=S8 VP vr CP cb SP xb xoff n1 c1 xop xnum xt xs xn xc xpos) (by kernel_rfl) ?_;refine tk (v:=?_) 0 (fun w B=>?_) ?_;rotate_left
  ·unfold S8 at B;go_simp;try with_reducible rfl
  refine tk (v:=?_) 1 (fun w B=>?_) ?_;rotate_left
  ·unfold S8 at B;go_simp;try with_reducible rfl
  refine tk (v:=?_) 2 (fun w B=>?_) ?_;rotate_left
  ·unfold S8 at B;go_simp;try with_reducible rfl
  refine tk (v:=?_) 3 (fun w B=>?_) ?_;rotate_left
  ·unfold S8 at B;go_simp;try with_reducible rfl
  refine tk (v:=?_) 4 (fun w B=>?_) ?_;rotate_left
  ·unfold S8 at B;go_simp;try with_reducible rfl
  refine tk (v:=?_) 5 (fun w B=>?_) ?_;rotate_left
  ·unfold S8 at B;go_simp;try with_reducible rfl
  have f:Hd (Below w3.heap.size w3 w3.drew):=zh (aB (Below.refl _ _));refine wpAnyH_ready (rs:=[6,10]) (by kernel_rfl) (by simp) ?_;refine (AllReadyH.cons rfl (fun K hK=>?_) (AllReadyH.cons rfl (fun K hK=>?_) AllReadyH.nil))
  ·go_simp
   go_at_call 106
   refine (n.o _ f.o).mono ?_;rintro e w5 ⟨rfl,I⟩;have G:=zh (f.o.trans (I.mono f.o.size));clear I k;go_simp;refine hK.out _ _ ?_ (fun hH=>?_)
   ·exact H.o.below G.o
   clear hK K;try go_simp
   refine tk (v:=?_) 7 (fun w B=>?_) ?_;rotate_left
   ·unfold S8 at B;go_simp;try with_reducible rfl
   refine tk (v:=?_) 8 (fun w B=>?_) ?_;rotate_left
   ·unfold S8 at B;go_simp;try with_reducible rfl
   refine tk (v:=?_) 9 (fun w B=>?_) ?_;rotate_left
   ·unfold S8 at B;go_simp;try with_reducible rfl
   refine rd1 10 fun K hK=>?_;go_simp;have D:Hd (Below w3.heap.size w3 (w5.alloc (.cells #[.int .i64 0,.int .i64 0] 104))):=zh (ag G.o _);have O:Hd ((w5.alloc (.cells #[.int .i64 0,.int .i64 0] 104)).heap[w5.heap.size]?=some (.cells #[.int .i64 0,.int .i64 0] 104 (0,0))):=zh (am _ _ _ rfl);refine hK.out _ _ ?_ (fun hH=>?_)
   ·exact H.o.below D.o
   clear hK K;try go_simp
   refine tk (v:=?_) 11 (fun w B=>?_) ?_;rotate_left
   ·unfold S8 at B;go_simp;try with_reducible rfl
   have hp:Hd (Below w3.heap.size w3 (w5.alloc (.cells #[.int .i64 fe,.int .i64 fa] 104))):=zh (ag G.o _);have H0:Hd ((w5.alloc (.cells #[.int .i64 fe,.int .i64 fa] 104)).heap[(w5.heap.size)]?=some (.cells #[.int .i64 fe,.int .i64 fa] 104 (0,0))):=zh (am _ _ _ rfl);refine rd1 12 fun K hK=>?_;go_simp;refine hK.out _ _ ?_ (fun hH=>?_)
   ·exact H.o.below hp.o
   clear hK K;try go_simp
   refine wpAnyH_done (by kernel_rfl) ?_ _;have U:=A;replace A:=zh (A.o.below hp.o);replace HB:=zh (HB.o.trans (hp.o.mono (Nat.le_of_lt (ae U.o.c))));clear U;clear H hF hg l m n;generalize (w5.alloc (.cells #[.int .i64 fe,.int .i64 fa] 104))=w6 at *;have l:=zh (h6.o.below (by rw [V.o.1];exact HB.o));have m:Hd (Stays Any w w6):=zh (Stays.of_below (by rw [V.o.1];exact HB.o));go_upto_region 23 with fail
   have HE:=zh (HC.o.trans (rfl));have h0:=zh (yG (wJ H0.o) (wh (by rw [←HN.o.1];exact h9) (hf.o.keep m.o) A.o.s) w6.drew (Below.refl _ _).drew 138);generalize hq:aV [(fe,fa),noC ((es.headD default).op==5) 51 (es.headD default).pos]=q at *;obtain ⟨fe,fa⟩:=q;have X:=zh (fq _ _ _ h0.o);rw [hq] at X;clear hq h0;unfold bM at X;dsimp only at X;have g:Hd (w6.drew.cell? ⟨VP,0,none⟩=some (.map (some vr))):=zh (aa A.o.v (j:=0) rfl);have k:=g.o;refine aD (S:=(fun w':World=>w'.cell? ⟨VP,0,none⟩=some (.map (some vr)))) 5 (by kernel_rfl) (by kernel_rfl) (by exact g.o) (fun hH=>?_);simp only [List.take_succ_cons,List.take_zero,List.drop_succ_cons,List.drop_zero]
   refine tkA 0 ?_;refine tkA 1 ?_;refine tkA 2 ?_;refine rd1 3 fun K hK=>?_;go_simp;refine hK.out _ _ ?_ (fun hH=>?_)
   ·(try dsimp only)
    exact ak _ g.o
   clear hK K;try go_simp
   refine rd1 4 fun K hK=>?_;go_simp;go_at_call 60
   refine X.o.mono ?_;rintro e w5 ⟨rfl,I⟩;have M:Below w6.heap.size w6 w5:=ay (ag (aB (Below.refl _ _)) _) I;have U:=A;replace A:=zh (A.o.below M);replace HB:=zh (HB.o.trans (M.mono (Nat.le_of_lt (ae U.o.c))));clear U;have h7:Hd (w5.cell? ⟨VP,0,none⟩=some (.map (some vr))):=zh (aa A.o.v (j:=0) rfl);clear I M k;go_simp;refine hK.out _ _ ?_ (fun hH=>?_)
   ·(try dsimp only)
    exact h7.o
   clear hK K;try go_simp
   refine wpAnyH_done (by kernel_rfl) ?_ _;dsimp only [cZ];obtain ⟨r0,r1,-⟩:=css A.o.r;obtain ⟨k0,k1,-⟩:=fzs A.o.r;go_wp2_with fail
   have J:=(HB.o.setCell (p:=⟨RB,0,none⟩) V.o.2.2 (.int .i64 fe)).setCell (p:=⟨RB,1,none⟩) V.o.2.2 (.int .i64 fa);rw [←V.o.1] at J;refine bodyPost_ret (v:=.tuple #[.map (some vr),.agg #[.int .i64 fe,.int .i64 fa]]) (by simp [results,Tryz.results92,go_sem,r0,r1]) rfl ⟨vr,by rw [HE.o];rfl,?_,J⟩;rw [HE.o];exact h6.o.view.below J
  go_simp;have G:Hd (Below w3.heap.size w3 (w3.drew.alloc (.cells #[.int .i64 0,.int .i64 0] 104))):=zh (ag f.o _);have O:Hd ((w3.drew.alloc (.cells #[.int .i64 0,.int .i64 0] 104)).heap[w3.drew.heap.size]?=some (.cells #[.int .i64 0,.int .i64 0] 104 (0,0))):=zh (am _ _ _ rfl);clear k;refine hK.out _ _ ?_ (fun hH=>?_)
  ·exact H.o.below G.o
  clear hK K;try go_simp
  refine rd1 6 fun K hK=>?_;go_simp;go_at_call 106
  refine (n.o _ G.o).mono ?_;rintro e w5 ⟨rfl,I⟩;have D:=zh (G.o.trans (I.mono G.o.size));replace O:=zh ((I.block _ (ae O.o)).trans O.o);clear I;go_simp;refine hK.out _ _ ?_ (fun hH=>?_)
  ·exact H.o.below D.o
  clear hK K;try go_simp
  refine tk (v:=?_) 7 (fun w B=>?_) ?_;rotate_left
  ·unfold S8 at B;go_simp;try with_reducible rfl
  refine tk (v:=?_) 8 (fun w B=>?_) ?_;rotate_left
  ·unfold S8 at B;go_simp;try with_reducible rfl
  refine tk (v:=?_) 9 (fun w B=>?_) ?_;rotate_left
  ·unfold S8 at B;go_simp;try with_reducible rfl
  refine tk (v:=?_) 11 (fun w B=>?_) ?_;rotate_left
  ·unfold S8 at B;go_simp;try with_reducible rfl
  have hR:w3.heap.size≤(w3.heap.size):=Nat.le_refl _;have z0:w5.cell? ⟨(w3.heap.size),0,none⟩=some (.int .i64 0):=aa O.o (j:=0) rfl;have z1:w5.cell? ⟨(w3.heap.size),1,none⟩=some (.int .i64 0):=aa O.o (j:=1) rfl;have y0:w5.frozen? ⟨(w3.heap.size),0,none⟩=false:=af O.o 0;have y1:w5.frozen? ⟨(w3.heap.size),1,none⟩=false:=af O.o 1;have hp:Hd (Below w3.heap.size w3 ((w5.setCell ⟨(w3.heap.size),0,none⟩ (.int .i64 fe)).setCell ⟨(w3.heap.size),1,none⟩ (.int .i64 fa))):=zh ((D.o.setCell (p:=⟨(w3.heap.size),0,none⟩) hR _).setCell (p:=⟨(w3.heap.size),1,none⟩) hR _);have H0:Hd (((w5.setCell ⟨(w3.heap.size),0,none⟩ (.int .i64 fe)).setCell ⟨(w3.heap.size),1,none⟩ (.int .i64 fa)).heap[(w3.heap.size)]?=some (.cells #[.int .i64 fe,.int .i64 fa] 104 (0,0))):=zh (aq (aq O.o 0 _) 1 _);refine rd1 12 fun K hK=>?_;go_simp;refine hK.out _ _ ?_ (fun hH=>?_)
  ·exact H.o.below hp.o
  clear hK K;try go_simp
  refine wpAnyH_done (by kernel_rfl) ?_ _;clear z0 z1 y0 y1 hR;have U:=A;replace A:=zh (A.o.below hp.o);replace HB:=zh (HB.o.trans (hp.o.mono (Nat.le_of_lt (ae U.o.c))));clear U;clear H hF hg l m n;generalize ((w5.setCell ⟨(w3.heap.size),0,none⟩ (.int .i64 fe)).setCell ⟨(w3.heap.size),1,none⟩ (.int .i64 fa))=w6 at *;have l:=zh (h6.o.below (by rw [V.o.1];exact HB.o));have m:Hd (Stays Any w w6):=zh (Stays.of_below (by rw [V.o.1];exact HB.o));go_upto_region 23 with fail
  have HE:=zh (HC.o.trans (rfl));have h0:=zh (yG (wJ H0.o) (wh (by rw [←HN.o.1];exact h9) (hf.o.keep m.o) A.o.s) w6.drew (Below.refl _ _).drew 138);generalize hq:aV [(fe,fa),noC ((es.headD default).op==5) 51 (es.headD default).pos]=q at *;obtain ⟨fe,fa⟩:=q;have X:=zh (fq _ _ _ h0.o);rw [hq] at X;clear hq h0;unfold bM at X;dsimp only at X;have g:Hd (w6.drew.cell? ⟨VP,0,none⟩=some (.map (some vr))):=zh (aa A.o.v (j:=0) rfl);have k:=g.o;refine aD (S:=(fun w':World=>w'.cell? ⟨VP,0,none⟩=some (.map (some vr)))) 5 (by kernel_rfl) (by kernel_rfl) (by exact g.o) (fun hH=>?_);simp only [List.take_succ_cons,List.take_zero,List.drop_succ_cons,List.drop_zero]
  refine tkA 0 ?_;refine tkA 1 ?_;refine tkA 2 ?_;refine rd1 3 fun K hK=>?_;go_simp;refine hK.out _ _ ?_ (fun hH=>?_)
  ·(try dsimp only)
   exact ak _ g.o
  clear hK K;try go_simp
  refine rd1 4 fun K hK=>?_;go_simp;go_at_call 60
  refine X.o.mono ?_;rintro e w5 ⟨rfl,I⟩;have M:Below w6.heap.size w6 w5:=ay (ag (aB (Below.refl _ _)) _) I;have U:=A;replace A:=zh (A.o.below M);replace HB:=zh (HB.o.trans (M.mono (Nat.le_of_lt (ae U.o.c))));clear U;have h7:Hd (w5.cell? ⟨VP,0,none⟩=some (.map (some vr))):=zh (aa A.o.v (j:=0) rfl);clear I M k;go_simp;refine hK.out _ _ ?_ (fun hH=>?_)
  ·(try dsimp only)
   exact h7.o
  clear hK K;try go_simp
  refine wpAnyH_done (by kernel_rfl) ?_ _;dsimp only [cZ];obtain ⟨r0,r1,-⟩:=css A.o.r;obtain ⟨k0,k1,-⟩:=fzs A.o.r;go_wp2_with fail
  have J:=(HB.o.setCell (p:=⟨RB,0,none⟩) V.o.2.2 (.int .i64 fe)).setCell (p:=⟨RB,1,none⟩) V.o.2.2 (.int .i64 fa);rw [←V.o.1] at J;refine bodyPost_ret (v:=.tuple #[.map (some vr),.agg #[.int .i64 fe,.int .i64 fa]]) (by simp [results,Tryz.results92,go_sem,r0,r1]) rfl ⟨vr,by rw [HE.o];rfl,?_,J⟩;rw [HE.o];exact h6.o.view.below J
 by_cases h5:op=5
 ·subst h5
  by_cases hz:n1=0
  ·subst hz
   have HE:=zh (HC.o.trans (Be F res text es body els pos v HN.o.1.symm hj.o));obtain ⟨frr,Hi,_⟩:=l.o.obj;obtain ⟨s0,-,q2,-⟩:=css A.o.s;have X:=zh (dx (res==0) 51 pos w3.drew);generalize noC (res==0) 51 pos=q at *;obtain ⟨fe,fa⟩:=q;unfold bM at X;dsimp only at X;go_upto_region 18 with fail
   clear s0 q2;have H:Hd (w3.cell? ⟨VP,0,none⟩=some (.map (some vr))∧w3.cell? ⟨CP,0,none⟩=some (.pointer (some ⟨cb,0,none⟩))∧w3.cell? ⟨cb,1,none⟩=some (.int .i64 res)∧w3.cell? ⟨SP,5,none⟩=some (.int .i64 pos)):=zh ⟨aa A.o.v (j:=0) rfl,aa A.o.c (j:=0) rfl,aa Hi (j:=1) rfl,aa A.o.s (j:=5) rfl⟩;have g:Hd (w3.drew.cell? ⟨VP,0,none⟩=some (.map (some vr))∧w3.drew.cell? ⟨CP,0,none⟩=some (.pointer (some ⟨cb,0,none⟩))∧w3.drew.cell? ⟨cb,1,none⟩=some (.int .i64 res)∧w3.drew.cell? ⟨SP,5,none⟩=some (.int .i64 pos)):=zh H.o;have k:=g.o;refine aD (S:=(fun w':World=>w'.cell? ⟨VP,0,none⟩=some (.map (some vr))∧w'.cell? ⟨CP,0,none⟩=some (.pointer (some ⟨cb,0,none⟩))∧w'.cell? ⟨cb,1,none⟩=some (.int .i64 res)∧w'.cell? ⟨SP,5,none⟩=some (.int .i64 pos))) 9 (by kernel_rfl) (by kernel_rfl) (by exact g.o) (fun hH=>?_);simp only [List.take_succ_cons,List.take_zero,List.drop_succ_cons,List.drop_zero]
   refine tkA 0 ?_;refine tkA 1 ?_;refine tkA 2 ?_;refine tkA 3 ?_;refine tkA 4 ?_;refine tkA 5 ?_;refine tkA 6 ?_;refine tkA 7 ?_;refine rd1 8 fun K hK=>?_;go_simp;go_at_call 64
   refine X.o.mono ?_;rintro e w5 ⟨rfl,I⟩;have M:Below w3.heap.size w3 w5:=ay (aB (Below.refl _ _)) I;have h7:Hd (w5.cell? ⟨VP,0,none⟩=some (.map (some vr))∧w5.cell? ⟨CP,0,none⟩=some (.pointer (some ⟨cb,0,none⟩))∧w5.cell? ⟨cb,1,none⟩=some (.int .i64 res)∧w5.cell? ⟨SP,5,none⟩=some (.int .i64 pos)):=zh ⟨(M.cell (p:=⟨VP,0,none⟩) (ax H.o.1)).trans H.o.1,(M.cell (p:=⟨CP,0,none⟩) (ax H.o.2.1)).trans H.o.2.1,(M.cell (p:=⟨cb,1,none⟩) (ax H.o.2.2.1)).trans H.o.2.2.1,(M.cell (p:=⟨SP,5,none⟩) (ax H.o.2.2.2)).trans H.o.2.2.2⟩;have U:=A;replace A:=zh (A.o.below M);replace HB:=zh (HB.o.trans (M.mono (Nat.le_of_lt (ae U.o.c))));clear U;clear I M k;go_simp;refine hK.out _ _ ?_ (fun hH=>?_)
   ·(try dsimp only)
    exact h7.o
   clear hK K;try go_simp
   refine wpAnyH_done (by kernel_rfl) ?_ _;dsimp only [cZ];obtain ⟨r0,r1,-⟩:=css A.o.r;obtain ⟨k0,k1,-⟩:=fzs A.o.r;go_wp2_with fail
   have J:=(HB.o.setCell (p:=⟨RB,0,none⟩) V.o.2.2 (.int .i64 fe)).setCell (p:=⟨RB,1,none⟩) V.o.2.2 (.int .i64 fa);rw [←V.o.1] at J;refine bodyPost_ret (v:=.tuple #[.map (some vr),.agg #[.int .i64 fe,.int .i64 fa]]) (by simp [results,Tryz.results92,go_sem,r0,r1]) rfl ⟨vr,by rw [HE.o];rfl,?_,J⟩;rw [HE.o];exact h6.o.view.below J
  replace HC:=zh (HC.o.trans (AN F res text es body els pos v (by rw [←HN.o.1];exact hz) hj.o));have h9:0<n1:=by omega
  obtain ⟨s0,-,q2,-⟩:=css A.o.s;go_upto_region 19 with fail
  clear s0 q2;have ho:Hd (CP<w3.heap.size∧SP<w3.heap.size∧VP<w3.heap.size∧RB<w3.heap.size):=zh ⟨ae A.o.c,ae A.o.s,ae A.o.v,ae A.o.r⟩;obtain ⟨xb,xoff,xop,xnum,xt,xs,xn,xc,xpos,rfl,hu,H5,y0,y1,y2,y3,y4,y⟩:=dI (hf.o.keep m.o) (by rw [←HN.o.1];exact h9);have H8:Hd ((es.headD default).pos=xpos∧(es.headD default).op=xop):=zh (by obtain ⟨_,e,_⟩:=cD y;rw [e];exact ⟨rfl,rfl⟩);have gn0:(0:Int)<(n1:Int):=by omega
  have n:=zh (fun W1 (h1:Below w3.heap.size w3 W1)=>hn.o (es.headD default) v vr W1 xop xnum xpos xt xs xn xc (l.o.below h1) (y.keep (Stays.of_below h1)));have H:Hd (S8 VP vr CP cb SP xb xoff n1 c1 xop xnum xt xs xn xc xpos w3):=zh ⟨aa A.o.v (j:=0) rfl,aa A.o.c (j:=0) rfl,aa A.o.s (j:=2) rfl,y0,y1,y2,y3,y4⟩;clear y y0 y1 y2 y3 y4;generalize aK F v (es.headD default)=xr at *;obtain ⟨t,fe,fa⟩:=xr;unfold bM at n;dsimp only at n HC;apply shared (fun TP FP w8=>Below w3.heap.size w3 w8∧w8.heap[TP]?=some (.cells #[.int .i64 t] 38 (0,0))∧w8.heap[FP]?=some (.cells #[.int .i64 fe,.int .i64 fa] 104 (0,0))∧w3.heap.size≤TP∧w3.heap.size≤FP∧¬TP=FP);intro HL;have k:S8 VP vr CP cb SP xb xoff n1 c1 xop xnum xt xs xn xc xpos w3.drew:=H.o.below (aB (Below.refl _ _));refine wp_region_held (S:=S8 VP vr CP cb SP xb xoff n1 c1 xop xnum xt xs xn xc xpos) (by kernel_rfl) ?_;refine tk (v:=?_) 0 (fun w B=>?_) ?_;rotate_left
  ·unfold S8 at B;go_simp;try with_reducible rfl
  refine tk (v:=?_) 1 (fun w B=>?_) ?_;rotate_left
  ·unfold S8 at B;go_simp;try with_reducible rfl
  refine tk (v:=?_) 2 (fun w B=>?_) ?_;rotate_left
  ·unfold S8 at B;go_simp;try with_reducible rfl
  refine tk (v:=?_) 3 (fun w B=>?_) ?_;rotate_left
  ·unfold S8 at B;go_simp;try with_reducible rfl
  refine tk (v:=?_) 4 (fun w B=>?_) ?_;rotate_left
  ·unfold S8 at B;go_simp;try with_reducible rfl
  refine tk (v:=?_) 5 (fun w B=>?_) ?_;rotate_left
  ·unfold S8 at B;go_simp;try with_reducible rfl
  have f:Hd (Below w3.heap.size w3 w3.drew):=zh (aB (Below.refl _ _));refine wpAnyH_ready (rs:=[6,10,11]) (by kernel_rfl) (by simp) ?_;refine (AllReadyH.cons rfl (fun K hK=>?_) (AllReadyH.cons rfl (fun K hK=>?_) (AllReadyH.cons rfl (fun K hK=>?_) AllReadyH.nil)))
  ·go_simp
   go_at_call 106
   refine (n.o _ f.o).mono ?_;rintro e w5 ⟨rfl,I⟩;have G:=zh (f.o.trans (I.mono f.o.size));have ha:=zh I.size;clear I k;go_simp;refine hK.out _ _ ?_ (fun hH=>?_)
   ·exact H.o.below G.o
   clear hK K;try go_simp
   refine tk (v:=?_) 7 (fun w B=>?_) ?_;rotate_left
   ·unfold S8 at B;go_simp;try with_reducible rfl
   refine tk (v:=?_) 8 (fun w B=>?_) ?_;rotate_left
   ·unfold S8 at B;go_simp;try with_reducible rfl
   refine tk (v:=?_) 9 (fun w B=>?_) ?_;rotate_left
   ·unfold S8 at B;go_simp;try with_reducible rfl
   refine wpAnyH_ready (rs:=[10,11]) (by kernel_rfl) (by simp) ?_;refine (AllReadyH.cons rfl (fun K hK=>?_) (AllReadyH.cons rfl (fun K hK=>?_) AllReadyH.nil))
   ·go_simp
    have D:Hd (Below w3.heap.size w3 (w5.alloc (.cells #[.int .i64 0] 38))):=zh (ag G.o _);have P:Hd ((w5.alloc (.cells #[.int .i64 0] 38)).heap[w5.heap.size]?=some (.cells #[.int .i64 0] 38 (0,0))):=zh (am _ _ _ rfl);refine hK.out _ _ ?_ (fun hH=>?_)
    ·exact H.o.below D.o
    clear hK K;try go_simp
    refine rd1 11 fun K hK=>?_;go_simp;have L:Hd (Below w3.heap.size w3 ((w5.alloc (.cells #[.int .i64 0] 38)).alloc (.cells #[.int .i64 0,.int .i64 0] 104))):=zh (ag D.o _);have O:Hd (((w5.alloc (.cells #[.int .i64 0] 38)).alloc (.cells #[.int .i64 0,.int .i64 0] 104)).heap[(w5.alloc (.cells #[.int .i64 0] 38)).heap.size]?=some (.cells #[.int .i64 0,.int .i64 0] 104 (0,0))):=zh (am _ _ _ rfl);replace P:Hd (((w5.alloc (.cells #[.int .i64 0] 38)).alloc (.cells #[.int .i64 0,.int .i64 0] 104)).heap[_]?=_):=zh (az _ _ _ _ P.o);refine hK.out _ _ ?_ (fun hH=>?_)
    ·exact H.o.below L.o
    clear hK K;try go_simp
    obtain ⟨N3,R⟩:∃N,N=w3.heap.size:=⟨_,rfl⟩
    have u:w3.heap.size≤w5.heap.size:=G.o.size;have f1:Below N3 w3 ((w5.alloc (.cells #[.int .i64 0] 38)).alloc (.cells #[.int .i64 0,.int .i64 0] 104)):=by rw [R];exact L.o
    have f2:((w5.alloc (.cells #[.int .i64 0] 38)).alloc (.cells #[.int .i64 0,.int .i64 0] 104)).heap[w5.heap.size]?=some (.cells #[.int .i64 0] 38 (0,0)):=by
     have q:=P.o;exact q
    have f3:((w5.alloc (.cells #[.int .i64 0] 38)).alloc (.cells #[.int .i64 0,.int .i64 0] 104)).heap[w5.heap.size+1]?=some (.cells #[.int .i64 0,.int .i64 0] 104 (0,0)):=by
     have q:=O.o;rw [ah] at q;exact q
    have f4:N3≤w5.heap.size∧N3≤w5.heap.size+1∧¬w5.heap.size=w5.heap.size+1:=by omega
    revert f1 f2 f3 f4;generalize ((w5.alloc (.cells #[.int .i64 0] 38)).alloc (.cells #[.int .i64 0,.int .i64 0] 104))=w6;generalize w5.heap.size+1=FP;generalize w5.heap.size=TP;intro f1 f2 f3 f4;rw [R] at f1 f4;have b:=zh f1;have Q:=zh f2;have a:=zh f3;have E:=zh f4;clear f1 f2 f3 f4 R u P O;have z0:w6.cell? ⟨TP,0,none⟩=some (.int .i64 0):=aa Q.o (j:=0) rfl;have y0:w6.frozen? ⟨TP,0,none⟩=false:=af Q.o 0;refine rd1 12 fun K hK=>?_;go_simp;have Z:Hd (Below w3.heap.size w3 (w6.setCell ⟨TP,0,none⟩ (.int .i64 t))):=zh (b.o.setCell (p:=⟨TP,0,none⟩) E.o.1 _);have z:Hd ((w6.setCell ⟨TP,0,none⟩ (.int .i64 t)).heap[TP]?=some (.cells #[.int .i64 t] 38 (0,0))):=zh (aq Q.o 0 _);have T:Hd ((w6.setCell ⟨TP,0,none⟩ (.int .i64 t)).heap[FP]?=some (.cells #[.int .i64 0,.int .i64 0] 104 (0,0))):=zh ((aj _ _ _ _ (fun e=>E.o.2.2 e.symm)).trans a.o);refine hK.out _ _ ?_ (fun hH=>?_)
    ·exact H.o.below Z.o
    clear hK K;try go_simp
    clear z0 y0 b Q a;generalize (w6.setCell ⟨TP,0,none⟩ (.int .i64 t))=w7 at *;obtain ⟨z0,z1,-⟩:=css T.o;obtain ⟨y0,y1,-⟩:=fzs T.o;refine rd1 13 fun K hK=>?_;go_simp;have Y:=((Z.o.setCell (p:=⟨FP,0,none⟩) E.o.2.1 (.int .i64 fe)).setCell (p:=⟨FP,1,none⟩) E.o.2.1 (.int .i64 fa))
    refine hK.out _ _ ?_ (fun hH=>?_)
    ·exact H.o.below Y
    clear hK K;try go_simp
    refine wpAnyH_done (by kernel_rfl) ?_ _;exact HL TP FP _ ⟨Y,(aj _ _ _ _ E.o.2.2).trans ((aj _ _ _ _ E.o.2.2).trans z.o),aq (aq T.o 0 _) 1 _,E.o⟩
   go_simp;have D:Hd (Below w3.heap.size w3 (w5.alloc (.cells #[.int .i64 0,.int .i64 0] 104))):=zh (ag G.o _);have O:Hd ((w5.alloc (.cells #[.int .i64 0,.int .i64 0] 104)).heap[w5.heap.size]?=some (.cells #[.int .i64 0,.int .i64 0] 104 (0,0))):=zh (am _ _ _ rfl);refine hK.out _ _ ?_ (fun hH=>?_)
   ·exact H.o.below D.o
   clear hK K;try go_simp
   refine rd1 10 fun K hK=>?_;go_simp;have L:Hd (Below w3.heap.size w3 ((w5.alloc (.cells #[.int .i64 0,.int .i64 0] 104)).alloc (.cells #[.int .i64 0] 38))):=zh (ag D.o _);have P:Hd (((w5.alloc (.cells #[.int .i64 0,.int .i64 0] 104)).alloc (.cells #[.int .i64 0] 38)).heap[(w5.alloc (.cells #[.int .i64 0,.int .i64 0] 104)).heap.size]?=some (.cells #[.int .i64 0] 38 (0,0))):=zh (am _ _ _ rfl);replace O:Hd (((w5.alloc (.cells #[.int .i64 0,.int .i64 0] 104)).alloc (.cells #[.int .i64 0] 38)).heap[_]?=_):=zh (az _ _ _ _ O.o);refine hK.out _ _ ?_ (fun hH=>?_)
   ·exact H.o.below L.o
   clear hK K;try go_simp
   obtain ⟨N3,R⟩:∃N,N=w3.heap.size:=⟨_,rfl⟩
   have u:w3.heap.size≤w5.heap.size:=G.o.size;have f1:Below N3 w3 ((w5.alloc (.cells #[.int .i64 0,.int .i64 0] 104)).alloc (.cells #[.int .i64 0] 38)):=by rw [R];exact L.o
   have f2:((w5.alloc (.cells #[.int .i64 0,.int .i64 0] 104)).alloc (.cells #[.int .i64 0] 38)).heap[w5.heap.size+1]?=some (.cells #[.int .i64 0] 38 (0,0)):=by
    have q:=P.o;rw [ah] at q;exact q
   have f3:((w5.alloc (.cells #[.int .i64 0,.int .i64 0] 104)).alloc (.cells #[.int .i64 0] 38)).heap[w5.heap.size]?=some (.cells #[.int .i64 0,.int .i64 0] 104 (0,0)):=by
    have q:=O.o;exact q
   have f4:N3≤w5.heap.size+1∧N3≤w5.heap.size∧¬w5.heap.size+1=w5.heap.size:=by omega
   revert f1 f2 f3 f4;generalize ((w5.alloc (.cells #[.int .i64 0,.int .i64 0] 104)).alloc (.cells #[.int .i64 0] 38))=w6;generalize w5.heap.size+1=TP;generalize w5.heap.size=FP;intro f1 f2 f3 f4;rw [R] at f1 f4;have b:=zh f1;have Q:=zh f2;have a:=zh f3;have E:=zh f4;clear f1 f2 f3 f4 R u P O;have z0:w6.cell? ⟨TP,0,none⟩=some (.int .i64 0):=aa Q.o (j:=0) rfl;have y0:w6.frozen? ⟨TP,0,none⟩=false:=af Q.o 0;refine rd1 12 fun K hK=>?_;go_simp;have Z:Hd (Below w3.heap.size w3 (w6.setCell ⟨TP,0,none⟩ (.int .i64 t))):=zh (b.o.setCell (p:=⟨TP,0,none⟩) E.o.1 _);have z:Hd ((w6.setCell ⟨TP,0,none⟩ (.int .i64 t)).heap[TP]?=some (.cells #[.int .i64 t] 38 (0,0))):=zh (aq Q.o 0 _);have T:Hd ((w6.setCell ⟨TP,0,none⟩ (.int .i64 t)).heap[FP]?=some (.cells #[.int .i64 0,.int .i64 0] 104 (0,0))):=zh ((aj _ _ _ _ (fun e=>E.o.2.2 e.symm)).trans a.o);refine hK.out _ _ ?_ (fun hH=>?_)
   ·exact H.o.below Z.o
   clear hK K;try go_simp
   clear z0 y0 b Q a;generalize (w6.setCell ⟨TP,0,none⟩ (.int .i64 t))=w7 at *;obtain ⟨z0,z1,-⟩:=css T.o;obtain ⟨y0,y1,-⟩:=fzs T.o;refine rd1 13 fun K hK=>?_;go_simp;have Y:=((Z.o.setCell (p:=⟨FP,0,none⟩) E.o.2.1 (.int .i64 fe)).setCell (p:=⟨FP,1,none⟩) E.o.2.1 (.int .i64 fa))
   refine hK.out _ _ ?_ (fun hH=>?_)
   ·exact H.o.below Y
   clear hK K;try go_simp
   refine wpAnyH_done (by kernel_rfl) ?_ _;exact HL TP FP _ ⟨Y,(aj _ _ _ _ E.o.2.2).trans ((aj _ _ _ _ E.o.2.2).trans z.o),aq (aq T.o 0 _) 1 _,E.o⟩
  ·go_simp
   have G:Hd (Below w3.heap.size w3 (w3.drew.alloc (.cells #[.int .i64 0] 38))):=zh (ag f.o _);have P:Hd ((w3.drew.alloc (.cells #[.int .i64 0] 38)).heap[w3.drew.heap.size]?=some (.cells #[.int .i64 0] 38 (0,0))):=zh (am _ _ _ rfl);clear k;refine hK.out _ _ ?_ (fun hH=>?_)
   ·exact H.o.below G.o
   clear hK K;try go_simp
   refine wpAnyH_ready (rs:=[6,11]) (by kernel_rfl) (by simp) ?_;refine (AllReadyH.cons rfl (fun K hK=>?_) (AllReadyH.cons rfl (fun K hK=>?_) AllReadyH.nil))
   ·go_simp
    go_at_call 106
    refine (n.o _ G.o).mono ?_;rintro e w5 ⟨rfl,I⟩;have D:=zh (G.o.trans (I.mono G.o.size));replace P:=zh ((I.block _ (ae P.o)).trans P.o);have ha:=zh I.size;clear I;go_simp;refine hK.out _ _ ?_ (fun hH=>?_)
    ·exact H.o.below D.o
    clear hK K;try go_simp
    refine tk (v:=?_) 7 (fun w B=>?_) ?_;rotate_left
    ·unfold S8 at B;go_simp;try with_reducible rfl
    refine tk (v:=?_) 8 (fun w B=>?_) ?_;rotate_left
    ·unfold S8 at B;go_simp;try with_reducible rfl
    refine tk (v:=?_) 9 (fun w B=>?_) ?_;rotate_left
    ·unfold S8 at B;go_simp;try with_reducible rfl
    refine rd1 11 fun K hK=>?_;go_simp;have L:Hd (Below w3.heap.size w3 (w5.alloc (.cells #[.int .i64 0,.int .i64 0] 104))):=zh (ag D.o _);have O:Hd ((w5.alloc (.cells #[.int .i64 0,.int .i64 0] 104)).heap[w5.heap.size]?=some (.cells #[.int .i64 0,.int .i64 0] 104 (0,0))):=zh (am _ _ _ rfl);replace P:Hd ((w5.alloc (.cells #[.int .i64 0,.int .i64 0] 104)).heap[_]?=_):=zh (az _ _ _ _ P.o);refine hK.out _ _ ?_ (fun hH=>?_)
    ·exact H.o.below L.o
    clear hK K;try go_simp
    obtain ⟨N3,R⟩:∃N,N=w3.heap.size:=⟨_,rfl⟩
    have u:w3.heap.size≤w5.heap.size:=D.o.size;have hl:w3.heap.size+1≤w5.heap.size:=by have q:=ha.o;rw [ah] at q;exact q
    have f1:Below N3 w3 (w5.alloc (.cells #[.int .i64 0,.int .i64 0] 104)):=by rw [R];exact L.o
    have f2:(w5.alloc (.cells #[.int .i64 0,.int .i64 0] 104)).heap[w3.heap.size]?=some (.cells #[.int .i64 0] 38 (0,0)):=by
     have q:=P.o;exact q
    have f3:(w5.alloc (.cells #[.int .i64 0,.int .i64 0] 104)).heap[w5.heap.size]?=some (.cells #[.int .i64 0,.int .i64 0] 104 (0,0)):=by
     have q:=O.o;exact q
    have f4:N3≤w3.heap.size∧N3≤w5.heap.size∧¬w3.heap.size=w5.heap.size:=by omega
    revert f1 f2 f3 f4;generalize (w5.alloc (.cells #[.int .i64 0,.int .i64 0] 104))=w6;generalize w3.heap.size=TP;generalize w5.heap.size=FP;intro f1 f2 f3 f4;rw [R] at f1 f4;have b:=zh f1;have Q:=zh f2;have a:=zh f3;have E:=zh f4;clear f1 f2 f3 f4 R u hl P O;have z0:w6.cell? ⟨TP,0,none⟩=some (.int .i64 0):=aa Q.o (j:=0) rfl;have y0:w6.frozen? ⟨TP,0,none⟩=false:=af Q.o 0;refine rd1 12 fun K hK=>?_;go_simp;have Z:Hd (Below w3.heap.size w3 (w6.setCell ⟨TP,0,none⟩ (.int .i64 t))):=zh (b.o.setCell (p:=⟨TP,0,none⟩) E.o.1 _);have z:Hd ((w6.setCell ⟨TP,0,none⟩ (.int .i64 t)).heap[TP]?=some (.cells #[.int .i64 t] 38 (0,0))):=zh (aq Q.o 0 _);have T:Hd ((w6.setCell ⟨TP,0,none⟩ (.int .i64 t)).heap[FP]?=some (.cells #[.int .i64 0,.int .i64 0] 104 (0,0))):=zh ((aj _ _ _ _ (fun e=>E.o.2.2 e.symm)).trans a.o);refine hK.out _ _ ?_ (fun hH=>?_)
    ·exact H.o.below Z.o
    clear hK K;try go_simp
    clear z0 y0 b Q a;generalize (w6.setCell ⟨TP,0,none⟩ (.int .i64 t))=w7 at *;obtain ⟨z0,z1,-⟩:=css T.o;obtain ⟨y0,y1,-⟩:=fzs T.o;refine rd1 13 fun K hK=>?_;go_simp;have Y:=((Z.o.setCell (p:=⟨FP,0,none⟩) E.o.2.1 (.int .i64 fe)).setCell (p:=⟨FP,1,none⟩) E.o.2.1 (.int .i64 fa))
    refine hK.out _ _ ?_ (fun hH=>?_)
    ·exact H.o.below Y
    clear hK K;try go_simp
    refine wpAnyH_done (by kernel_rfl) ?_ _;exact HL TP FP _ ⟨Y,(aj _ _ _ _ E.o.2.2).trans ((aj _ _ _ _ E.o.2.2).trans z.o),aq (aq T.o 0 _) 1 _,E.o⟩
   go_simp;have D:Hd (Below w3.heap.size w3 ((w3.drew.alloc (.cells #[.int .i64 0] 38)).alloc (.cells #[.int .i64 0,.int .i64 0] 104))):=zh (ag G.o _);have O:Hd (((w3.drew.alloc (.cells #[.int .i64 0] 38)).alloc (.cells #[.int .i64 0,.int .i64 0] 104)).heap[(w3.drew.alloc (.cells #[.int .i64 0] 38)).heap.size]?=some (.cells #[.int .i64 0,.int .i64 0] 104 (0,0))):=zh (am _ _ _ rfl);replace P:Hd (((w3.drew.alloc (.cells #[.int .i64 0] 38)).alloc (.cells #[.int .i64 0,.int .i64 0] 104)).heap[_]?=_):=zh (az _ _ _ _ P.o);refine hK.out _ _ ?_ (fun hH=>?_)
   ·exact H.o.below D.o
   clear hK K;try go_simp
   refine rd1 6 fun K hK=>?_;go_simp;go_at_call 106
   refine (n.o _ D.o).mono ?_;rintro e w5 ⟨rfl,I⟩;have L:=zh (D.o.trans (I.mono D.o.size));replace P:=zh ((I.block _ (ae P.o)).trans P.o);replace O:=zh ((I.block _ (ae O.o)).trans O.o);have ha:=zh I.size;clear I;go_simp;refine hK.out _ _ ?_ (fun hH=>?_)
   ·exact H.o.below L.o
   clear hK K;try go_simp
   refine tk (v:=?_) 7 (fun w B=>?_) ?_;rotate_left
   ·unfold S8 at B;go_simp;try with_reducible rfl
   refine tk (v:=?_) 8 (fun w B=>?_) ?_;rotate_left
   ·unfold S8 at B;go_simp;try with_reducible rfl
   refine tk (v:=?_) 9 (fun w B=>?_) ?_;rotate_left
   ·unfold S8 at B;go_simp;try with_reducible rfl
   obtain ⟨N3,R⟩:∃N,N=w3.heap.size:=⟨_,rfl⟩
   have u:w3.heap.size≤w5.heap.size:=L.o.size;have f1:Below N3 w3 w5:=by rw [R];exact L.o
   have f2:w5.heap[w3.heap.size]?=some (.cells #[.int .i64 0] 38 (0,0)):=by
    have q:=P.o;exact q
   have f3:w5.heap[w3.heap.size+1]?=some (.cells #[.int .i64 0,.int .i64 0] 104 (0,0)):=by
    have q:=O.o;rw [ah] at q;exact q
   have f4:N3≤w3.heap.size∧N3≤w3.heap.size+1∧¬w3.heap.size=w3.heap.size+1:=by omega
   revert f1 f2 f3 f4;generalize w5=w6;generalize w3.heap.size+1=FP;generalize w3.heap.size=TP;intro f1 f2 f3 f4;rw [R] at f1 f4;have b:=zh f1;have Q:=zh f2;have a:=zh f3;have E:=zh f4;clear f1 f2 f3 f4 R u P O;have z0:w6.cell? ⟨TP,0,none⟩=some (.int .i64 0):=aa Q.o (j:=0) rfl;have y0:w6.frozen? ⟨TP,0,none⟩=false:=af Q.o 0;refine rd1 12 fun K hK=>?_;go_simp;have Z:Hd (Below w3.heap.size w3 (w6.setCell ⟨TP,0,none⟩ (.int .i64 t))):=zh (b.o.setCell (p:=⟨TP,0,none⟩) E.o.1 _);have z:Hd ((w6.setCell ⟨TP,0,none⟩ (.int .i64 t)).heap[TP]?=some (.cells #[.int .i64 t] 38 (0,0))):=zh (aq Q.o 0 _);have T:Hd ((w6.setCell ⟨TP,0,none⟩ (.int .i64 t)).heap[FP]?=some (.cells #[.int .i64 0,.int .i64 0] 104 (0,0))):=zh ((aj _ _ _ _ (fun e=>E.o.2.2 e.symm)).trans a.o);refine hK.out _ _ ?_ (fun hH=>?_)
   ·exact H.o.below Z.o
   clear hK K;try go_simp
   clear z0 y0 b Q a;generalize (w6.setCell ⟨TP,0,none⟩ (.int .i64 t))=w7 at *;obtain ⟨z0,z1,-⟩:=css T.o;obtain ⟨y0,y1,-⟩:=fzs T.o;refine rd1 13 fun K hK=>?_;go_simp;have Y:=((Z.o.setCell (p:=⟨FP,0,none⟩) E.o.2.1 (.int .i64 fe)).setCell (p:=⟨FP,1,none⟩) E.o.2.1 (.int .i64 fa))
   refine hK.out _ _ ?_ (fun hH=>?_)
   ·exact H.o.below Y
   clear hK K;try go_simp
   refine wpAnyH_done (by kernel_rfl) ?_ _;exact HL TP FP _ ⟨Y,(aj _ _ _ _ E.o.2.2).trans ((aj _ _ _ _ E.o.2.2).trans z.o),aq (aq T.o 0 _) 1 _,E.o⟩
  go_simp;have G:Hd (Below w3.heap.size w3 (w3.drew.alloc (.cells #[.int .i64 0,.int .i64 0] 104))):=zh (ag f.o _);have O:Hd ((w3.drew.alloc (.cells #[.int .i64 0,.int .i64 0] 104)).heap[w3.drew.heap.size]?=some (.cells #[.int .i64 0,.int .i64 0] 104 (0,0))):=zh (am _ _ _ rfl);clear k;refine hK.out _ _ ?_ (fun hH=>?_)
  ·exact H.o.below G.o
  clear hK K;try go_simp
  refine wpAnyH_ready (rs:=[6,10]) (by kernel_rfl) (by simp) ?_;refine (AllReadyH.cons rfl (fun K hK=>?_) (AllReadyH.cons rfl (fun K hK=>?_) AllReadyH.nil))
  ·go_simp
   go_at_call 106
   refine (n.o _ G.o).mono ?_;rintro e w5 ⟨rfl,I⟩;have D:=zh (G.o.trans (I.mono G.o.size));replace O:=zh ((I.block _ (ae O.o)).trans O.o);have ha:=zh I.size;clear I;go_simp;refine hK.out _ _ ?_ (fun hH=>?_)
   ·exact H.o.below D.o
   clear hK K;try go_simp
   refine tk (v:=?_) 7 (fun w B=>?_) ?_;rotate_left
   ·unfold S8 at B;go_simp;try with_reducible rfl
   refine tk (v:=?_) 8 (fun w B=>?_) ?_;rotate_left
   ·unfold S8 at B;go_simp;try with_reducible rfl
   refine tk (v:=?_) 9 (fun w B=>?_) ?_;rotate_left
   ·unfold S8 at B;go_simp;try with_reducible rfl
   refine rd1 10 fun K hK=>?_;go_simp;have L:Hd (Below w3.heap.size w3 (w5.alloc (.cells #[.int .i64 0] 38))):=zh (ag D.o _);have P:Hd ((w5.alloc (.cells #[.int .i64 0] 38)).heap[w5.heap.size]?=some (.cells #[.int .i64 0] 38 (0,0))):=zh (am _ _ _ rfl);replace O:Hd ((w5.alloc (.cells #[.int .i64 0] 38)).heap[_]?=_):=zh (az _ _ _ _ O.o);refine hK.out _ _ ?_ (fun hH=>?_)
   ·exact H.o.below L.o
   clear hK K;try go_simp
   obtain ⟨N3,R⟩:∃N,N=w3.heap.size:=⟨_,rfl⟩
   have u:w3.heap.size≤w5.heap.size:=D.o.size;have hl:w3.heap.size+1≤w5.heap.size:=by have q:=ha.o;rw [ah] at q;exact q
   have f1:Below N3 w3 (w5.alloc (.cells #[.int .i64 0] 38)):=by rw [R];exact L.o
   have f2:(w5.alloc (.cells #[.int .i64 0] 38)).heap[w5.heap.size]?=some (.cells #[.int .i64 0] 38 (0,0)):=by
    have q:=P.o;exact q
   have f3:(w5.alloc (.cells #[.int .i64 0] 38)).heap[w3.heap.size]?=some (.cells #[.int .i64 0,.int .i64 0] 104 (0,0)):=by
    have q:=O.o;exact q
   have f4:N3≤w5.heap.size∧N3≤w3.heap.size∧¬w5.heap.size=w3.heap.size:=by omega
   revert f1 f2 f3 f4;generalize (w5.alloc (.cells #[.int .i64 0] 38))=w6;generalize w5.heap.size=TP;generalize w3.heap.size=FP;intro f1 f2 f3 f4;rw [R] at f1 f4;have b:=zh f1;have Q:=zh f2;have a:=zh f3;have E:=zh f4;clear f1 f2 f3 f4 R u hl P O;have z0:w6.cell? ⟨TP,0,none⟩=some (.int .i64 0):=aa Q.o (j:=0) rfl;have y0:w6.frozen? ⟨TP,0,none⟩=false:=af Q.o 0;refine rd1 12 fun K hK=>?_;go_simp;have Z:Hd (Below w3.heap.size w3 (w6.setCell ⟨TP,0,none⟩ (.int .i64 t))):=zh (b.o.setCell (p:=⟨TP,0,none⟩) E.o.1 _);have z:Hd ((w6.setCell ⟨TP,0,none⟩ (.int .i64 t)).heap[TP]?=some (.cells #[.int .i64 t] 38 (0,0))):=zh (aq Q.o 0 _);have T:Hd ((w6.setCell ⟨TP,0,none⟩ (.int .i64 t)).heap[FP]?=some (.cells #[.int .i64 0,.int .i64 0] 104 (0,0))):=zh ((aj _ _ _ _ (fun e=>E.o.2.2 e.symm)).trans a.o);refine hK.out _ _ ?_ (fun hH=>?_)
   ·exact H.o.below Z.o
   clear hK K;try go_simp
   clear z0 y0 b Q a;generalize (w6.setCell ⟨TP,0,none⟩ (.int .i64 t))=w7 at *;obtain ⟨z0,z1,-⟩:=css T.o;obtain ⟨y0,y1,-⟩:=fzs T.o;refine rd1 13 fun K hK=>?_;go_simp;have Y:=((Z.o.setCell (p:=⟨FP,0,none⟩) E.o.2.1 (.int .i64 fe)).setCell (p:=⟨FP,1,none⟩) E.o.2.1 (.int .i64 fa))
   refine hK.out _ _ ?_ (fun hH=>?_)
   ·exact H.o.below Y
   clear hK K;try go_simp
   refine wpAnyH_done (by kernel_rfl) ?_ _;exact HL TP FP _ ⟨Y,(aj _ _ _ _ E.o.2.2).trans ((aj _ _ _ _ E.o.2.2).trans z.o),aq (aq T.o 0 _) 1 _,E.o⟩
  go_simp;have D:Hd (Below w3.heap.size w3 ((w3.drew.alloc (.cells #[.int .i64 0,.int .i64 0] 104)).alloc (.cells #[.int .i64 0] 38))):=zh (ag G.o _);have P:Hd (((w3.drew.alloc (.cells #[.int .i64 0,.int .i64 0] 104)).alloc (.cells #[.int .i64 0] 38)).heap[(w3.drew.alloc (.cells #[.int .i64 0,.int .i64 0] 104)).heap.size]?=some (.cells #[.int .i64 0] 38 (0,0))):=zh (am _ _ _ rfl);replace O:Hd (((w3.drew.alloc (.cells #[.int .i64 0,.int .i64 0] 104)).alloc (.cells #[.int .i64 0] 38)).heap[_]?=_):=zh (az _ _ _ _ O.o);refine hK.out _ _ ?_ (fun hH=>?_)
  ·exact H.o.below D.o
  clear hK K;try go_simp
  refine rd1 6 fun K hK=>?_;go_simp;go_at_call 106
  refine (n.o _ D.o).mono ?_;rintro e w5 ⟨rfl,I⟩;have L:=zh (D.o.trans (I.mono D.o.size));replace O:=zh ((I.block _ (ae O.o)).trans O.o);replace P:=zh ((I.block _ (ae P.o)).trans P.o);have ha:=zh I.size;clear I;go_simp;refine hK.out _ _ ?_ (fun hH=>?_)
  ·exact H.o.below L.o
  clear hK K;try go_simp
  refine tk (v:=?_) 7 (fun w B=>?_) ?_;rotate_left
  ·unfold S8 at B;go_simp;try with_reducible rfl
  refine tk (v:=?_) 8 (fun w B=>?_) ?_;rotate_left
  ·unfold S8 at B;go_simp;try with_reducible rfl
  refine tk (v:=?_) 9 (fun w B=>?_) ?_;rotate_left
  ·unfold S8 at B;go_simp;try with_reducible rfl
  obtain ⟨N3,R⟩:∃N,N=w3.heap.size:=⟨_,rfl⟩
  have u:w3.heap.size≤w5.heap.size:=L.o.size;have f1:Below N3 w3 w5:=by rw [R];exact L.o
  have f2:w5.heap[w3.heap.size+1]?=some (.cells #[.int .i64 0] 38 (0,0)):=by
   have q:=P.o;rw [ah] at q;exact q
  have f3:w5.heap[w3.heap.size]?=some (.cells #[.int .i64 0,.int .i64 0] 104 (0,0)):=by
   have q:=O.o;exact q
  have f4:N3≤w3.heap.size+1∧N3≤w3.heap.size∧¬w3.heap.size+1=w3.heap.size:=by omega
  revert f1 f2 f3 f4;generalize w5=w6;generalize w3.heap.size+1=TP;generalize w3.heap.size=FP;intro f1 f2 f3 f4;rw [R] at f1 f4;have b:=zh f1;have Q:=zh f2;have a:=zh f3;have E:=zh f4;clear f1 f2 f3 f4 R u P O;have z0:w6.cell? ⟨TP,0,none⟩=some (.int .i64 0):=aa Q.o (j:=0) rfl;have y0:w6.frozen? ⟨TP,0,none⟩=false:=af Q.o 0;refine rd1 12 fun K hK=>?_;go_simp;have Z:Hd (Below w3.heap.size w3 (w6.setCell ⟨TP,0,none⟩ (.int .i64 t))):=zh (b.o.setCell (p:=⟨TP,0,none⟩) E.o.1 _);have z:Hd ((w6.setCell ⟨TP,0,none⟩ (.int .i64 t)).heap[TP]?=some (.cells #[.int .i64 t] 38 (0,0))):=zh (aq Q.o 0 _);have T:Hd ((w6.setCell ⟨TP,0,none⟩ (.int .i64 t)).heap[FP]?=some (.cells #[.int .i64 0,.int .i64 0] 104 (0,0))):=zh ((aj _ _ _ _ (fun e=>E.o.2.2 e.symm)).trans a.o);refine hK.out _ _ ?_ (fun hH=>?_)
  ·exact H.o.below Z.o
  clear hK K;try go_simp
  clear z0 y0 b Q a;generalize (w6.setCell ⟨TP,0,none⟩ (.int .i64 t))=w7 at *;obtain ⟨z0,z1,-⟩:=css T.o;obtain ⟨y0,y1,-⟩:=fzs T.o;refine rd1 13 fun K hK=>?_;go_simp;have Y:=((Z.o.setCell (p:=⟨FP,0,none⟩) E.o.2.1 (.int .i64 fe)).setCell (p:=⟨FP,1,none⟩) E.o.2.1 (.int .i64 fa))
  refine hK.out _ _ ?_ (fun hH=>?_)
  ·exact H.o.below Y
  clear hK K;try go_simp
  refine wpAnyH_done (by kernel_rfl) ?_ _;exact HL TP FP _ ⟨Y,(aj _ _ _ _ E.o.2.2).trans ((aj _ _ _ _ E.o.2.2).trans z.o),aq (aq T.o 0 _) 1 _,E.o⟩;rintro TP FP w8 ⟨hh,hD,hB,hA⟩;have hw:=zh hD;have hv:=zh hB;have E:=zh hA;have hm:=zh ((hh.block _ (ae hg.o)).trans hg.o);have U:=A;replace A:=zh (A.o.below hh);replace HB:=zh (HB.o.trans (hh.mono (Nat.le_of_lt (ae U.o.c))));clear U;have hc:Hd ((CP≤TP∧CP≤FP)∧(CP≠FP∧SP≠FP∧VP≠FP∧RB≠FP)∧RB≠TP∧¬TP=FP):=zh (by have q:=ho.o;omega);clear H hF hg l m n hh hD hB hA;have l:=zh (h6.o.below (by rw [V.o.1];exact HB.o));have m:Hd (Stays Any w w8):=zh (Stays.of_below (by rw [V.o.1];exact HB.o));go_upto_region 20 with fail
  have HE:=zh (HC.o.trans (rfl));have h0:=zh (yG (Ap hv.o) (Ao l.o A.o.c (by rw [←HN.o.1];exact h9) (hf.o.keep m.o) hw.o A.o.s) w8.drew (Below.refl _ _).drew 138);generalize hq:aV [(fe,fa),noC (t==res&&t !=0) 51 (es.headD default).pos]=q at *;obtain ⟨fe,fa⟩:=q;have X:=zh (fq _ _ _ h0.o);rw [hq] at X;clear hq h0;unfold bM at X;dsimp only at X;have g:Hd (w8.drew.cell? ⟨VP,0,none⟩=some (.map (some vr))):=zh (aa A.o.v (j:=0) rfl);have k:=g.o;refine aD (S:=(fun w':World=>w'.cell? ⟨VP,0,none⟩=some (.map (some vr)))) 5 (by kernel_rfl) (by kernel_rfl) (by exact g.o) (fun hH=>?_);simp only [List.take_succ_cons,List.take_zero,List.drop_succ_cons,List.drop_zero]
  refine tkA 0 ?_;refine tkA 1 ?_;refine tkA 2 ?_;refine rd1 3 fun K hK=>?_;go_simp;refine hK.out _ _ ?_ (fun hH=>?_)
  ·(try dsimp only)
   exact ak _ g.o
  clear hK K;try go_simp
  refine rd1 4 fun K hK=>?_;go_simp;go_at_call 60
  refine X.o.mono ?_;rintro e w5 ⟨rfl,I⟩;have M:Below w8.heap.size w8 w5:=ay (ag (aB (Below.refl _ _)) _) I;have U:=A;replace A:=zh (A.o.below M);replace HB:=zh (HB.o.trans (M.mono (Nat.le_of_lt (ae U.o.c))));clear U;have h7:Hd (w5.cell? ⟨VP,0,none⟩=some (.map (some vr))):=zh (aa A.o.v (j:=0) rfl);clear I M k;go_simp;refine hK.out _ _ ?_ (fun hH=>?_)
  ·(try dsimp only)
   exact h7.o
  clear hK K;try go_simp
  refine wpAnyH_done (by kernel_rfl) ?_ _;dsimp only [cZ];obtain ⟨r0,r1,-⟩:=css A.o.r;obtain ⟨k0,k1,-⟩:=fzs A.o.r;go_wp2_with fail
  have J:=(HB.o.setCell (p:=⟨RB,0,none⟩) V.o.2.2 (.int .i64 fe)).setCell (p:=⟨RB,1,none⟩) V.o.2.2 (.int .i64 fa);rw [←V.o.1] at J;refine bodyPost_ret (v:=.tuple #[.map (some vr),.agg #[.int .i64 fe,.int .i64 fa]]) (by simp [results,Tryz.results92,go_sem,r0,r1]) rfl ⟨vr,by rw [HE.o];rfl,?_,J⟩;rw [HE.o];exact h6.o.view.below J
 have ht:n1≤2:=xU hs;have HE:=zh (HC.o.trans (zq F res op text es body els pos v h1 h2 h3 h4 h5 h8 hj.o));have s0:w3.cell? ⟨SP,0,none⟩=some (.int .i64 op):=aa A.o.s (j:=0) rfl;go_upto_region 24 with fail
 clear s0;have hT:Below w3.heap.size w3 (w3.drew.alloc (.cells #[.int .i64 3,.int .i64 3] 38)):=ag (aB (Below.refl _ _)) _
 have Ho:Hd (TysAt (w3.drew.alloc (.cells #[.int .i64 3,.int .i64 3] 38)) (.slice (some ⟨w3.drew.heap.size,0,none⟩) 2 2) [3,3]):=zh ⟨_,2,rfl,by show (2:Nat)≤1000000;decide,fun _=>⟨_,0,rfl,by rw [ah];exact Nat.lt_succ_self _,fun i hi=>by
     rw [Nat.zero_add];have Hu:i<2:=hi;rcases (show i=0∨i=1 by omega) with rfl | rfl
     · exact aw _ _ _ _ _ _ rfl rfl
     · exact aw _ _ _ _ _ _ rfl rfl⟩⟩
 have X:=zh (ie cb F res es (fun x _=>hn.o x) v vr _ (.slice s1 n1 c1) _ [3,3] (l.o.below hT) ((hf.o.keep m.o).keep (Stays.of_below hT)) Ho.o (by rw [←HN.o.1];exact ht));clear hT;generalize cY F v es [3,3]=q at *;obtain ⟨fe,fa⟩:=q;unfold bM at X;dsimp only at X;have H:Hd (w3.cell? ⟨VP,0,none⟩=some (.map (some vr))∧w3.cell? ⟨CP,0,none⟩=some (.pointer (some ⟨cb,0,none⟩))∧w3.cell? ⟨SP,2,none⟩=some (.slice s1 n1 c1)):=zh ⟨aa A.o.v (j:=0) rfl,aa A.o.c (j:=0) rfl,aa A.o.s (j:=2) rfl⟩;have g:Hd (w3.drew.cell? ⟨VP,0,none⟩=some (.map (some vr))∧w3.drew.cell? ⟨CP,0,none⟩=some (.pointer (some ⟨cb,0,none⟩))∧w3.drew.cell? ⟨SP,2,none⟩=some (.slice s1 n1 c1)):=zh H.o;have k:=g.o;refine aD (S:=(fun w':World=>w'.cell? ⟨VP,0,none⟩=some (.map (some vr))∧w'.cell? ⟨CP,0,none⟩=some (.pointer (some ⟨cb,0,none⟩))∧w'.cell? ⟨SP,2,none⟩=some (.slice s1 n1 c1))) 7 (by kernel_rfl) (by kernel_rfl) (by exact g.o) (fun hH=>?_);simp only [List.take_succ_cons,List.take_zero,List.drop_succ_cons,List.drop_zero]
 refine tkA 0 ?_;refine tkA 1 ?_;refine tkA 2 ?_;refine tkA 3 ?_;refine tkA 4 ?_;refine rd1 5 fun K hK=>?_;go_simp;refine hK.out _ _ ?_ (fun hH=>?_)
 ·(try dsimp only)
  exact ⟨ak _ g.o.1,ak _ g.o.2.1,ak _ g.o.2.2⟩
 clear hK K;try go_simp
 refine rd1 6 fun K hK=>?_;go_simp;go_at_call 119
 refine X.o.mono ?_;rintro e w5 ⟨rfl,I⟩;have M:Below w3.heap.size w3 w5:=ay (ag (aB (Below.refl _ _)) _) I;have h7:Hd (w5.cell? ⟨VP,0,none⟩=some (.map (some vr))∧w5.cell? ⟨CP,0,none⟩=some (.pointer (some ⟨cb,0,none⟩))∧w5.cell? ⟨SP,2,none⟩=some (.slice s1 n1 c1)):=zh ⟨(M.cell (p:=⟨VP,0,none⟩) (ax H.o.1)).trans H.o.1,(M.cell (p:=⟨CP,0,none⟩) (ax H.o.2.1)).trans H.o.2.1,(M.cell (p:=⟨SP,2,none⟩) (ax H.o.2.2)).trans H.o.2.2⟩;have U:=A;replace A:=zh (A.o.below M);replace HB:=zh (HB.o.trans (M.mono (Nat.le_of_lt (ae U.o.c))));clear U;clear I M k;go_simp;refine hK.out _ _ ?_ (fun hH=>?_)
 ·(try dsimp only)
  exact h7.o
 clear hK K;try go_simp
 refine wpAnyH_done (by kernel_rfl) ?_ _;dsimp only [cZ];obtain ⟨r0,r1,-⟩:=css A.o.r;obtain ⟨k0,k1,-⟩:=fzs A.o.r;go_wp2_with fail
 have J:=(HB.o.setCell (p:=⟨RB,0,none⟩) V.o.2.2 (.int .i64 fe)).setCell (p:=⟨RB,1,none⟩) V.o.2.2 (.int .i64 fa);rw [←V.o.1] at J;refine bodyPost_ret (v:=.tuple #[.map (some vr),.agg #[.int .i64 fe,.int .i64 fa]]) (by simp [results,Tryz.results92,go_sem,r0,r1]) rfl ⟨vr,by rw [HE.o];rfl,?_,J⟩;rw [HE.o];exact h6.o.view.below J
theorem o8 (cb:Nat) (F:aO) (res:Int) (hF:∀p,p∈F→p.2.params.length≤100000):∀x,pm cb F res x
 | .mk op text es body els pos=>vJ cb F res (tR cb F res hF) op text es body els pos (fun x hx=>by
     have:=List.sizeOf_lt_of_mem hx;exact o8 cb F res hF x) (fun x hx=>by
     have:=List.sizeOf_lt_of_mem hx;exact o8 cb F res hF x)
termination_by x=>SizeOf.sizeOf x
decreasing_by
 all_goals (simp_wf;omega)
end
end Go.Proofs.YtmlgbkomdhcaoaaGreatDoor
