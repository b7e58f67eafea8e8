/-
  EvalLoops: part 35 of its proof: see the last text.
-/
import Derived.Test.YthgcpfkochikfaaGreatPq33
import Derived.Test.YthgcpfkochikfaaGreatPq34
set_option maxRecDepth 100000
set_option maxHeartbeats 16000000
namespace Go.Proofs.YthgcpfkochikfaaGreat
section
open Go.RowKit
attribute [local go_sem ↓] Go.wp_at_zero Go.wp_at_succ
def tS:List UInt8:=[102,110,32,102,40,97,58,32,105,110,116,44,32,98,58,32,105,110,116,41,58,32,105,110,116,32,123,32,108,101,116,32,115,32,61,32,48,59,32,102,111,114,32,105,32,61,32,97,32,116,111,32,98,32,123,32,115,32,61,32,115,32,43,32,105,59,32,125,32,114,101,116,117,114,110,32,115,59,32,125]
theorem iF:cU tS=.ok [loopFn]:=by kernel_rfl
theorem qj {a b:Int} (ha:-128≤a∧a≤127) (hb:-128≤b∧b≤127):∃F n,n=(b-a).toNat∧cU tS=.ok F∧(gK F≤2048∧gF F∧(bL F).1=0)∧bA F ⟨#[102]⟩ [aB a,aB b] 10000 ⟨[],[]⟩=(⟨aB (dh n a),0,7+5*(n:Int)⟩,⟨[],[]⟩):=
 ⟨[loopFn],_,rfl,iF,fc iF,vx ha hb⟩
theorem rg:∀(n:Nat) (i:Int),dh (n+1) i=dh n i+(i+n)
 | 0,i=>by simp [dh]
 | n+1,i=>by
  have:=rg n (i+1);rw [dh,this,dh];omega
theorem tT (a b:Int) (w:World) (ha:-128≤a∧a≤127) (hb:-128≤b∧b≤127):Calls Tryz.prog 3 #[.int .i8 a,.int .i8 b] w fun e w'=>e=.returned (.bool true)∧Below w.heap.size w w':=by
 obtain ⟨F,n,ht,hw,hv,hx⟩:=qj ha hb;have HN:=zh ht;have h3:=zh hv;have h4:=zh hx;have hS:=zh hw;have T:=zh (And.intro ha hb);have hV:IntKind.i64.wrap a=a:=by rw [IntKind.wrap_i64];omega
 have hU:IntKind.i64.wrap b=b:=by rw [IntKind.wrap_i64];omega
 clear hv hx hw ht;have hR:=zh (jF w);have hL:=fun w C n c=>Lib.run_convert_bytes_const (P:=Tryz.prog) w 30 5 C n c (by kernel_rfl) (by kernel_rfl);go_enter Tryz.func3,Tryz.ntmps3
 go_wp2_with fail
 refine hR.o.mono ?_;rintro e w0 ⟨rfl,hz⟩;have hm:=zh hz;clear hz;go_wp2_with fail
 refine Calls.mono (lC tS 80 F w0 hS.o (by kernel_rfl) (by decide) (by kernel_rfl)) ?_;rintro e w1 ⟨sv,cv,rfl,f,h8⟩;have s:=zh (f.keep (Stays.of_below (ag (Below.refl w1.heap.size w1) (.cells #[.slice sv F.length cv] 26))));have h5:Hd ((w1.alloc (.cells #[.slice sv F.length cv] 26)).heap[w1.heap.size]?=some (.cells #[.slice sv F.length cv] 26 (0,0))):=zh (aj _ _ _ rfl);have hE:Hd (Below w.heap.size w (w1.alloc (.cells #[.slice sv F.length cv] 26))):=zh ((hm.o.trans (h8.mono hm.o.size)).alloc (Nat.le_trans hm.o.size h8.size) _);generalize F.length=hn at *;clear f h8 hL;go_upto_region 3 with fail
 generalize w1.alloc (.cells #[.slice sv hn cv] 26)=w2 at *;generalize w1.heap.size=PB at *;have hC:=zh (ji (S:=Any) (l:=[]) w2 PrsAt.nil (by decide));go_wp2_with fail
 refine hC.o.mono ?_;rintro e w3 ⟨hy,hr⟩;rw [if_pos (show aV []=true by rfl)] at hr;obtain ⟨JB,rfl,hu,hj⟩:=hr;have A:=zh (RnS.made h5.o s.o hE.o hy hj hu);generalize w2.heap.size=D at *;generalize w3.heap.size=U at *;clear hy hj hu s h5 hE hC;go_upto_region 6 with fail
 apply pz (fun OB _ rp rc w8=>RnS D U JB 100000 w w8 PB (.slice sv hn cv) F ⟨[],[]⟩∧w8.heap[OB]?=some (.cells #[.int .i64 0,.int .i64 0,.slice none 0 0,.int .i64 0,.int .i64 0] 38 (0,0))∧D≤OB∧(VvAt (KS D w8) w8 (.agg #[.int .i64 (aB (dh n a)).ty,.int .i64 (aB (dh n a)).num,.slice rp (aB (dh n a)).text.length rc]) (aB (dh n a))∧OkV (aB (dh n a))))
 ·intro HL
  have r:=zh (A.o.below (aw (Below.refl w3.heap.size w3)));refine ay (S:=(fun W=>W.cell? ⟨PB,0,none⟩=some (.slice sv hn cv))) 11 (by kernel_rfl) (by kernel_rfl) (by (try dsimp only);exact r.o.cellp) (fun hH=>?_);simp only [List.take_succ_cons,List.take_zero,List.drop_succ_cons,List.drop_zero]
  generalize w3.drew=wd at *;refine tkA 0 ?_;refine tkA 1 ?_;refine tkA 2 ?_;refine tkA 4 ?_;try go_simp
  refine tkA 5 ?_;refine tkA 8 ?_;try go_simp
  refine wpAnyH_ready (rs:=[3,10]) (by kernel_rfl) (by simp) ?_;refine (AllReadyH.cons rfl (fun K hK=>?_) (AllReadyH.cons rfl (fun K hK=>?_) AllReadyH.nil))
  ·go_simp
   go_at_call 14
   refine (ee a _).mono ?_;rintro e wn0 ⟨rfl,m⟩;have V:=zh (r.o.below m);clear m;try go_simp
   refine hK.out _ _ ?_ (fun hH=>?_)
   ·exact V.o.cellp
   clear hK K;try go_simp
   refine wpAnyH_ready (rs:=[6,10]) (by kernel_rfl) (by simp) ?_;refine (AllReadyH.cons rfl (fun K hK=>?_) (AllReadyH.cons rfl (fun K hK=>?_) AllReadyH.nil))
   ·go_simp
    go_at_call 14
    refine (ee b _).mono ?_;rintro e wn1 ⟨rfl,N⟩;have R:=zh (V.o.below N);clear N;try go_simp
    refine hK.out _ _ ?_ (fun hH=>?_)
    ·exact R.o.cellp
    clear hK K;try go_simp
    refine wpAnyH_ready (rs:=[7,10]) (by kernel_rfl) (by simp) ?_;refine (AllReadyH.cons rfl (fun K hK=>?_) (AllReadyH.cons rfl (fun K hK=>?_) AllReadyH.nil))
    ·go_simp
     have p:Below wn1.heap.size wn1 (wn1.alloc (.cells #[.int .i64 1,.int .i64 a,.slice none 0 0,.int .i64 1,.int .i64 b,.slice none 0 0] 35)):=ag (Below.refl _ _) _;have H:=zh (R.o.below p);have hF:=zh (ArAt.two (D:=D) wn1 a b (by have:=T.o;unfold aY;omega) (by have:=T.o;unfold aY;omega));clear p;generalize (wn1.alloc (.cells #[.int .i64 1,.int .i64 a,.slice none 0 0,.int .i64 1,.int .i64 b,.slice none 0 0] 35))=wl2 at *;generalize wn1.heap.size=AB at *;refine hK.out _ _ ?_ (fun hH=>?_)
     ·exact H.o.cellp
     clear hK K;try go_simp
     refine wpAnyH_ready (rs:=[9,10]) (by kernel_rfl) (by simp) ?_;refine (AllReadyH.cons rfl (fun K hK=>?_) (AllReadyH.cons rfl (fun K hK=>?_) AllReadyH.nil))
     ·go_simp
      have h9:=zh (H.o.calls h3.o ⟨#[102]⟩ 10000 (by constructor<;>decide) hF.o (by decide) h4.o);go_at_call 13
      refine h9.o.mono ?_;rintro e wr3 hs;have A:=zh (H.o.run hs);obtain ⟨rp,rc,he,J,L,_,hG⟩:=hs;subst he;try dsimp only [aB,noV,a8,aH,List.length_nil]
      have q:=zh (And.intro J L);clear J L hG;try go_simp
      refine hK.out _ _ ?_ (fun hH=>?_)
      ·exact A.o.cellp
      clear hK K;try go_simp
      refine rd1 10 fun K hK=>?_;go_simp;have X:Below wr3.heap.size wr3 (wr3.alloc (.cells #[.int .i64 0,.int .i64 0,.slice none 0 0,.int .i64 0,.int .i64 0] 38)):=ag (Below.refl _ _) _;have hk:Hd ((wr3.alloc (.cells #[.int .i64 0,.int .i64 0,.slice none 0 0,.int .i64 0,.int .i64 0] 38)).heap[wr3.heap.size]?=some (.cells #[.int .i64 0,.int .i64 0,.slice none 0 0,.int .i64 0,.int .i64 0] 38 (0,0))):=zh (aj _ _ _ rfl);have hd:Hd (D≤wr3.heap.size):=zh (Nat.le_trans A.o.low.2.2.1 A.o.low.2.2.2);have M:=zh (A.o.below X);have hM:=zh (And.intro (q.o.1.low X) q.o.2);clear X;generalize (wr3.alloc (.cells #[.int .i64 0,.int .i64 0,.slice none 0 0,.int .i64 0,.int .i64 0] 38))=wo4 at *;generalize wr3.heap.size=OB at *;refine hK.out _ _ ?_ (fun hH=>?_)
      ·exact M.o.cellp
      clear hK K;try go_simp
      refine wpAnyH_done (by kernel_rfl) ?_ _;dsimp only [aP];exact HL OB AB rp rc wo4 ⟨M.o,hk.o,hd.o,hM.o⟩
     ·go_simp
      have Y:Below wl2.heap.size wl2 (wl2.alloc (.cells #[.int .i64 0,.int .i64 0,.slice none 0 0,.int .i64 0,.int .i64 0] 38)):=ag (Below.refl _ _) _;have hl:Hd ((wl2.alloc (.cells #[.int .i64 0,.int .i64 0,.slice none 0 0,.int .i64 0,.int .i64 0] 38)).heap[wl2.heap.size]?=some (.cells #[.int .i64 0,.int .i64 0,.slice none 0 0,.int .i64 0,.int .i64 0] 38 (0,0))):=zh (aj _ _ _ rfl);have hf:Hd (D≤wl2.heap.size):=zh (Nat.le_trans H.o.low.2.2.1 H.o.low.2.2.2);have A:=zh (H.o.below Y);have d:=zh (hF.o.low Y);clear Y;generalize (wl2.alloc (.cells #[.int .i64 0,.int .i64 0,.slice none 0 0,.int .i64 0,.int .i64 0] 38))=wo3 at *;generalize wl2.heap.size=OB at *;refine hK.out _ _ ?_ (fun hH=>?_)
      ·exact A.o.cellp
      clear hK K;try go_simp
      refine rd1 9 fun K hK=>?_;go_simp;have I:=zh (A.o.calls h3.o ⟨#[102]⟩ 10000 (by constructor<;>decide) d.o (by decide) h4.o);go_at_call 13
      refine I.o.mono ?_;rintro e wr4 hs;have M:=zh (A.o.run hs);obtain ⟨rp,rc,he,J,L,_,Q⟩:=hs;subst he;try dsimp only [aB,noV,a8,aH,List.length_nil]
      have Z:=zh (dZ Q A.o.jo hl.o (by decide) (by decide));have G:=zh (And.intro J L);clear J L Q;try go_simp
      refine hK.out _ _ ?_ (fun hH=>?_)
      ·exact M.o.cellp
      clear hK K;try go_simp
      refine wpAnyH_done (by kernel_rfl) ?_ _;dsimp only [aP];exact HL OB AB rp rc wr4 ⟨M.o,Z.o,hf.o,G.o⟩
    ·go_simp
     have g:Below wn1.heap.size wn1 (wn1.alloc (.cells #[.int .i64 0,.int .i64 0,.slice none 0 0,.int .i64 0,.int .i64 0] 38)):=ag (Below.refl _ _) _;have t:Hd ((wn1.alloc (.cells #[.int .i64 0,.int .i64 0,.slice none 0 0,.int .i64 0,.int .i64 0] 38)).heap[wn1.heap.size]?=some (.cells #[.int .i64 0,.int .i64 0,.slice none 0 0,.int .i64 0,.int .i64 0] 38 (0,0))):=zh (aj _ _ _ rfl);have hg:Hd (D≤wn1.heap.size):=zh (Nat.le_trans R.o.low.2.2.1 R.o.low.2.2.2);have H:=zh (R.o.below g);clear g;generalize (wn1.alloc (.cells #[.int .i64 0,.int .i64 0,.slice none 0 0,.int .i64 0,.int .i64 0] 38))=wo2 at *;generalize wn1.heap.size=OB at *;refine hK.out _ _ ?_ (fun hH=>?_)
     ·exact H.o.cellp
     clear hK K;try go_simp
     refine rd1 7 fun K hK=>?_;go_simp;have B:Below wo2.heap.size wo2 (wo2.alloc (.cells #[.int .i64 1,.int .i64 a,.slice none 0 0,.int .i64 1,.int .i64 b,.slice none 0 0] 35)):=ag (Below.refl _ _) _;have A:=zh (H.o.below B);have z:=zh ((B.block _ (af t.o)).trans t.o);have d:=zh (ArAt.two (D:=D) wo2 a b (by have:=T.o;unfold aY;omega) (by have:=T.o;unfold aY;omega));clear B;generalize (wo2.alloc (.cells #[.int .i64 1,.int .i64 a,.slice none 0 0,.int .i64 1,.int .i64 b,.slice none 0 0] 35))=wl3 at *;generalize wo2.heap.size=AB at *;refine hK.out _ _ ?_ (fun hH=>?_)
     ·exact A.o.cellp
     clear hK K;try go_simp
     refine rd1 9 fun K hK=>?_;go_simp;have I:=zh (A.o.calls h3.o ⟨#[102]⟩ 10000 (by constructor<;>decide) d.o (by decide) h4.o);go_at_call 13
     refine I.o.mono ?_;rintro e wr4 hs;have M:=zh (A.o.run hs);obtain ⟨rp,rc,he,J,L,_,Q⟩:=hs;subst he;try dsimp only [aB,noV,a8,aH,List.length_nil]
     have Z:=zh (dZ Q A.o.jo z.o (by decide) (by decide));have G:=zh (And.intro J L);clear J L Q;try go_simp
     refine hK.out _ _ ?_ (fun hH=>?_)
     ·exact M.o.cellp
     clear hK K;try go_simp
     refine wpAnyH_done (by kernel_rfl) ?_ _;dsimp only [aP];exact HL OB AB rp rc wr4 ⟨M.o,Z.o,hg.o,G.o⟩
   ·go_simp
    have h:Below wn0.heap.size wn0 (wn0.alloc (.cells #[.int .i64 0,.int .i64 0,.slice none 0 0,.int .i64 0,.int .i64 0] 38)):=ag (Below.refl _ _) _;have x:Hd ((wn0.alloc (.cells #[.int .i64 0,.int .i64 0,.slice none 0 0,.int .i64 0,.int .i64 0] 38)).heap[wn0.heap.size]?=some (.cells #[.int .i64 0,.int .i64 0,.slice none 0 0,.int .i64 0,.int .i64 0] 38 (0,0))):=zh (aj _ _ _ rfl);have hh:Hd (D≤wn0.heap.size):=zh (Nat.le_trans V.o.low.2.2.1 V.o.low.2.2.2);have R:=zh (V.o.below h);clear h;generalize (wn0.alloc (.cells #[.int .i64 0,.int .i64 0,.slice none 0 0,.int .i64 0,.int .i64 0] 38))=wo1 at *;generalize wn0.heap.size=OB at *;refine hK.out _ _ ?_ (fun hH=>?_)
    ·exact R.o.cellp
    clear hK K;try go_simp
    refine rd1 6 fun K hK=>?_;go_simp;go_at_call 14
    refine (ee b _).mono ?_;rintro e wn2 ⟨rfl,E⟩;have H:=zh (R.o.below E);have h0:=zh ((E.block _ (af x.o)).trans x.o);clear E;try go_simp
    refine hK.out _ _ ?_ (fun hH=>?_)
    ·exact H.o.cellp
    clear hK K;try go_simp
    refine rd1 7 fun K hK=>?_;go_simp;have B:Below wn2.heap.size wn2 (wn2.alloc (.cells #[.int .i64 1,.int .i64 a,.slice none 0 0,.int .i64 1,.int .i64 b,.slice none 0 0] 35)):=ag (Below.refl _ _) _;have A:=zh (H.o.below B);have z:=zh ((B.block _ (af h0.o)).trans h0.o);have d:=zh (ArAt.two (D:=D) wn2 a b (by have:=T.o;unfold aY;omega) (by have:=T.o;unfold aY;omega));clear B;generalize (wn2.alloc (.cells #[.int .i64 1,.int .i64 a,.slice none 0 0,.int .i64 1,.int .i64 b,.slice none 0 0] 35))=wl3 at *;generalize wn2.heap.size=AB at *;refine hK.out _ _ ?_ (fun hH=>?_)
    ·exact A.o.cellp
    clear hK K;try go_simp
    refine rd1 9 fun K hK=>?_;go_simp;have I:=zh (A.o.calls h3.o ⟨#[102]⟩ 10000 (by constructor<;>decide) d.o (by decide) h4.o);go_at_call 13
    refine I.o.mono ?_;rintro e wr4 hs;have M:=zh (A.o.run hs);obtain ⟨rp,rc,he,J,L,_,Q⟩:=hs;subst he;try dsimp only [aB,noV,a8,aH,List.length_nil]
    have Z:=zh (dZ Q A.o.jo z.o (by decide) (by decide));have G:=zh (And.intro J L);clear J L Q;try go_simp
    refine hK.out _ _ ?_ (fun hH=>?_)
    ·exact M.o.cellp
    clear hK K;try go_simp
    refine wpAnyH_done (by kernel_rfl) ?_ _;dsimp only [aP];exact HL OB AB rp rc wr4 ⟨M.o,Z.o,hh.o,G.o⟩
  ·go_simp
   have k:Below wd.heap.size wd (wd.alloc (.cells #[.int .i64 0,.int .i64 0,.slice none 0 0,.int .i64 0,.int .i64 0] 38)):=ag (Below.refl _ _) _;have y:Hd ((wd.alloc (.cells #[.int .i64 0,.int .i64 0,.slice none 0 0,.int .i64 0,.int .i64 0] 38)).heap[wd.heap.size]?=some (.cells #[.int .i64 0,.int .i64 0,.slice none 0 0,.int .i64 0,.int .i64 0] 38 (0,0))):=zh (aj _ _ _ rfl);have hi:Hd (D≤wd.heap.size):=zh (Nat.le_trans r.o.low.2.2.1 r.o.low.2.2.2);have V:=zh (r.o.below k);clear k;generalize (wd.alloc (.cells #[.int .i64 0,.int .i64 0,.slice none 0 0,.int .i64 0,.int .i64 0] 38))=wo0 at *;generalize wd.heap.size=OB at *;refine hK.out _ _ ?_ (fun hH=>?_)
   ·exact V.o.cellp
   clear hK K;try go_simp
   refine rd1 3 fun K hK=>?_;go_simp;go_at_call 14
   refine (ee a _).mono ?_;rintro e wn1 ⟨rfl,N⟩;have R:=zh (V.o.below N);have hB:=zh ((N.block _ (af y.o)).trans y.o);clear N;try go_simp
   refine hK.out _ _ ?_ (fun hH=>?_)
   ·exact R.o.cellp
   clear hK K;try go_simp
   refine rd1 6 fun K hK=>?_;go_simp;go_at_call 14
   refine (ee b _).mono ?_;rintro e wn2 ⟨rfl,E⟩;have H:=zh (R.o.below E);have h0:=zh ((E.block _ (af hB.o)).trans hB.o);clear E;try go_simp
   refine hK.out _ _ ?_ (fun hH=>?_)
   ·exact H.o.cellp
   clear hK K;try go_simp
   refine rd1 7 fun K hK=>?_;go_simp;have B:Below wn2.heap.size wn2 (wn2.alloc (.cells #[.int .i64 1,.int .i64 a,.slice none 0 0,.int .i64 1,.int .i64 b,.slice none 0 0] 35)):=ag (Below.refl _ _) _;have A:=zh (H.o.below B);have z:=zh ((B.block _ (af h0.o)).trans h0.o);have d:=zh (ArAt.two (D:=D) wn2 a b (by have:=T.o;unfold aY;omega) (by have:=T.o;unfold aY;omega));clear B;generalize (wn2.alloc (.cells #[.int .i64 1,.int .i64 a,.slice none 0 0,.int .i64 1,.int .i64 b,.slice none 0 0] 35))=wl3 at *;generalize wn2.heap.size=AB at *;refine hK.out _ _ ?_ (fun hH=>?_)
   ·exact A.o.cellp
   clear hK K;try go_simp
   refine rd1 9 fun K hK=>?_;go_simp;have I:=zh (A.o.calls h3.o ⟨#[102]⟩ 10000 (by constructor<;>decide) d.o (by decide) h4.o);go_at_call 13
   refine I.o.mono ?_;rintro e wr4 hs;have M:=zh (A.o.run hs);obtain ⟨rp,rc,he,J,L,_,Q⟩:=hs;subst he;try dsimp only [aB,noV,a8,aH,List.length_nil]
   have Z:=zh (dZ Q A.o.jo z.o (by decide) (by decide));have G:=zh (And.intro J L);clear J L Q;try go_simp
   refine hK.out _ _ ?_ (fun hH=>?_)
   ·exact M.o.cellp
   clear hK K;try go_simp
   refine wpAnyH_done (by kernel_rfl) ?_ _;dsimp only [aP];exact HL OB AB rp rc wr4 ⟨M.o,Z.o,hi.o,G.o⟩
 ·intro OB AB rp rc w8 hs
  obtain ⟨hp,O,hq,ho⟩:=hs;have hA:=zh hp;have hP:=zh O;have H3:=zh ho;have hO:=zh hq;have o0:=aa O (j:=0) (u:=.int .i64 0) rfl;have o1:=aa O (j:=1) (u:=.int .i64 0) rfl;have o2:=aa O (j:=2) (u:=.slice none 0 0) rfl;have o3:=aa O (j:=3) (u:=.int .i64 0) rfl;have o4:=aa O (j:=4) (u:=.int .i64 0) rfl;have f0:=ae O 0;have f1:=ae O 1;have f2:=ae O 2;have f3:=ae O 3;have f4:=ae O 4;clear hp O hq ho;go_upto_region 7 with fail
  clear o0 o1 o2 o3 o4 f0 f1 f2 f3 f4;have hc:Hd ((((((w8.setCell ⟨OB,0,none⟩ (.int .i64 (1))).setCell ⟨OB,1,none⟩ (.int .i64 (dh n a))).setCell ⟨OB,2,none⟩ (.slice rp (0) rc)).setCell ⟨OB,3,none⟩ (.int .i64 (0))).setCell ⟨OB,4,none⟩ (.int .i64 (7+5*(n:Int)))).heap[OB]?=some (.cells #[.int .i64 (1),.int .i64 (dh n a),.slice rp (0) rc,.int .i64 (0),.int .i64 (7+5*(n:Int))] 38 (0,0))):=zh (eP hP.o (1) (dh n a) rp (0) rc (0) (7+5*(n:Int)));have hT:Hd (Below w.heap.size w (((((w8.setCell ⟨OB,0,none⟩ (.int .i64 (1))).setCell ⟨OB,1,none⟩ (.int .i64 (dh n a))).setCell ⟨OB,2,none⟩ (.slice rp (0) rc)).setCell ⟨OB,3,none⟩ (.int .i64 (0))).setCell ⟨OB,4,none⟩ (.int .i64 (7+5*(n:Int))))):=zh (eA hA.o.on (Nat.le_trans hA.o.low.1 hO.o) (1) (dh n a) rp (0) rc (0) (7+5*(n:Int)));generalize (((((w8.setCell ⟨OB,0,none⟩ (.int .i64 (1))).setCell ⟨OB,1,none⟩ (.int .i64 (dh n a))).setCell ⟨OB,2,none⟩ (.slice rp (0) rc)).setCell ⟨OB,3,none⟩ (.int .i64 (0))).setCell ⟨OB,4,none⟩ (.int .i64 (7+5*(n:Int))))=w9 at *;have v1:=aa hc.o (j:=1) (u:=.int .i64 (dh n a)) rfl;have v3:=aa hc.o (j:=3) (u:=.int .i64 0) rfl;have v4:=aa hc.o (j:=4) (u:=.int .i64 (7+5*(n:Int))) rfl;have hQ:Hd ((n:Int)≤255∧a+n≤1000):=zh (by have h1:=HN.o;have h2:=T.o;omega);go_wp2_with fail
  go_loopg [11,12,13] n (fun gg t11 t12 t13 wr=>∃i:Nat,i+gg=n∧t11=.int .i64 (dh i a)∧t12=.int .i64 (i:Int)∧t13=.int .i64 (a+i)∧wr=w9)
  case atStart=>exact ⟨0,Nat.zero_add _,rfl,rfl,by simp,rfl⟩
  case round =>
   obtain ⟨i,h7,rfl,rfl,rfl,rfl⟩:=hrel;have HG:=zh h7;have H0:=hQ.o;have H2:=T.o;have H1:(i:Int)≤255:=by omega
   have hW:=tC i a (by omega) (by omega);by_cases h6:i<n
   ·have hI:a+(i:Int)<b:=by have:=HN.o;omega
    have hN:=zh (rg i a);generalize hX:dh i a=si at *;have hD:=zh h6;clear h7 h6;go_wp2_with fail
    go_roundg (n-i-1)
    case measure=>have:=HG.o;have:=hD.o;omega
    case rel=>exact ⟨i+1,by have:=HG.o;have:=hD.o;omega,by rw [hN.o],by go_num,by go_num,rfl⟩
   ·obtain rfl:i=n:=by omega
    have hI:¬a+(i:Int)<b:=by have:=HN.o;omega
    clear h6 h7;generalize dh i a=si at *;go_wp2_with fail
    exact bodyPost_ret (v:=.bool true) (by simp [results,Tryz.results3,go_sem]) rfl ⟨rfl,hT.o⟩
end
end Go.Proofs.YthgcpfkochikfaaGreat
