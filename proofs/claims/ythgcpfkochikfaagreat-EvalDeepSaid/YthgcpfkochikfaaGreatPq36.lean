/-
  EvalLoops: part 36 of its proof: see the last text.
-/
import Derived.Test.YthgcpfkochikfaaGreatPq33
import Derived.Test.YthgcpfkochikfaaGreatPqEvD
set_option maxRecDepth 100000
set_option maxHeartbeats 16000000
namespace Go.Proofs.YthgcpfkochikfaaGreat
section
open Go.RowKit
attribute [local go_sem ↓] Go.wp_at_zero Go.wp_at_succ
def tS:List UInt8:=[102,110,32,102,40,110,58,32,105,110,116,41,58,32,105,110,116,32,123,32,105,102,32,110,32,61,61,32,48,32,123,32,114,101,116,117,114,110,32,48,59,32,125,32,114,101,116,117,114,110,32,49,32,43,32,102,40,110,32,45,32,49,41,59,32,125]
theorem iF:cU tS=.ok [deepFn]:=by kernel_rfl
theorem qj (n:Nat) (hn:n≤255):∃(F:List Fn) (ov:Vv) (t u:Int),cU tS=.ok F∧(gK F≤2048∧gF F∧(bL F).1=0)∧bA F ⟨#[102]⟩ [aB n] 10000 ⟨[],[]⟩=(⟨ov,t,u⟩,⟨[],[]⟩)∧(n<16→t=0∧ov.num=n)∧(¬n<16→t=4):=by
 obtain ⟨u,h⟩:=vH n hn;by_cases c:n<16
 ·rw [if_pos c] at h
  exact ⟨[deepFn],_,_,u,iF,fc iF,h,fun _=>⟨rfl,rfl⟩,fun q=>absurd c q⟩
 ·rw [if_neg c] at h
  exact ⟨[deepFn],_,_,u,iF,fc iF,h,fun q=>absurd q c,fun _=>rfl⟩
theorem sV (n:Nat) (w:World) (hn:n≤255):Calls Tryz.prog 4 #[.int .u8 (n:Int)] w fun e w'=>e=.returned (.bool true)∧Below w.heap.size w w':=by
 obtain ⟨F,ov,tr,us,hh,hg,hi,hd,hc⟩:=qj n hn;have q:=zh hg;have r:=zh hi;have hF:=zh hh;have hD:=zh hd;have hC:=zh hc;have hG:IntKind.i64.wrap (n:Int)=(n:Int):=by rw [IntKind.wrap_i64];omega
 have h6:=zh hn;clear hg hi hh hd hc hn;have hE:=zh (jF w);have hy:=fun w C n c=>Lib.run_convert_bytes_const (P:=Tryz.prog) w 30 5 C n c (by kernel_rfl) (by kernel_rfl);go_enter Tryz.func4,Tryz.ntmps4
 go_wp2_with fail
 refine hE.o.mono ?_;rintro e w0 ⟨rfl,hl⟩;have h7:=zh hl;clear hl;go_wp2_with fail
 refine Calls.mono (lC tS 66 F w0 hF.o (by kernel_rfl) (by decide) (by kernel_rfl)) ?_;rintro e w1 ⟨sv,cv,rfl,V,s⟩;have f:=zh (V.keep (Stays.of_below (ag (Below.refl w1.heap.size w1) (.cells #[.slice sv F.length cv] 26))));have k:Hd ((w1.alloc (.cells #[.slice sv F.length cv] 26)).heap[w1.heap.size]?=some (.cells #[.slice sv F.length cv] 26 (0,0))):=zh (aj _ _ _ rfl);have hv:Hd (Below w.heap.size w (w1.alloc (.cells #[.slice sv F.length cv] 26))):=zh ((h7.o.trans (s.mono h7.o.size)).alloc (Nat.le_trans h7.o.size s.size) _);generalize F.length=hn at *;clear V s hy;go_upto_region 3 with fail
 generalize w1.alloc (.cells #[.slice sv hn cv] 26)=w2 at *;generalize w1.heap.size=PB at *;have hr:=zh (ji (S:=Any) (l:=[]) w2 PrsAt.nil (by decide));go_wp2_with fail
 refine hr.o.mono ?_;rintro e w3 ⟨hk,hb⟩;rw [if_pos (show aV []=true by rfl)] at hb;obtain ⟨JB,rfl,hf,hj⟩:=hb;have E:=zh (RnS.made k.o f.o hv.o hk hj hf);generalize w2.heap.size=D at *;generalize w3.heap.size=U at *;clear hk hj hf f k hv hr;go_upto_region 6 with fail
 apply pz (fun OB _ rp rc w8=>RnS D U JB 100000 w w8 PB (.slice sv hn cv) F ⟨[],[]⟩∧w8.heap[OB]?=some (.cells #[.int .i64 0,.int .i64 0,.slice none 0 0,.int .i64 0,.int .i64 0] 38 (0,0))∧D≤OB∧(VvAt (KS D w8) w8 (.agg #[.int .i64 (ov).ty,.int .i64 (ov).num,.slice rp (ov).text.length rc]) (ov)∧OkV (ov)))
 ·intro HL
  have d:=zh (E.o.below (aw (Below.refl w3.heap.size w3)));refine ay (S:=(fun W=>W.cell? ⟨PB,0,none⟩=some (.slice sv hn cv))) 8 (by kernel_rfl) (by kernel_rfl) (by (try dsimp only);exact d.o.cellp) (fun hH=>?_);simp only [List.take_succ_cons,List.take_zero,List.drop_succ_cons,List.drop_zero]
  generalize w3.drew=wd at *;refine tkA 0 ?_;refine tkA 1 ?_;refine tkA 2 ?_;refine tkA 5 ?_;try go_simp
  refine wpAnyH_ready (rs:=[3,7]) (by kernel_rfl) (by simp) ?_;refine (AllReadyH.cons rfl (fun K hK=>?_) (AllReadyH.cons rfl (fun K hK=>?_) AllReadyH.nil))
  ·go_simp
   go_at_call 14
   refine (ee (n:Int) _).mono ?_;rintro e wn0 ⟨rfl,Z⟩;have O:=zh (d.o.below Z);clear Z;try go_simp
   refine hK.out _ _ ?_ (fun hH=>?_)
   ·exact O.o.cellp
   clear hK K;try go_simp
   refine wpAnyH_ready (rs:=[4,7]) (by kernel_rfl) (by simp) ?_;refine (AllReadyH.cons rfl (fun K hK=>?_) (AllReadyH.cons rfl (fun K hK=>?_) AllReadyH.nil))
   ·go_simp
    have a:Below wn0.heap.size wn0 (wn0.alloc (.cells #[.int .i64 1,.int .i64 (n:Int),.slice none 0 0] 35)):=ag (Below.refl _ _) _;have H:=zh (O.o.below a);have hw:=zh (ArAt.one (D:=D) wn0 1 (n:Int) (by have:=h6.o;unfold aY;omega));clear a;generalize (wn0.alloc (.cells #[.int .i64 1,.int .i64 (n:Int),.slice none 0 0] 35))=wl1 at *;generalize wn0.heap.size=AB at *;refine hK.out _ _ ?_ (fun hH=>?_)
    ·exact H.o.cellp
    clear hK K;try go_simp
    refine wpAnyH_ready (rs:=[6,7]) (by kernel_rfl) (by simp) ?_;refine (AllReadyH.cons rfl (fun K hK=>?_) (AllReadyH.cons rfl (fun K hK=>?_) AllReadyH.nil))
    ·go_simp
     have y:=zh (H.o.calls q.o ⟨#[102]⟩ 10000 (by constructor<;>decide) hw.o (by decide) r.o);go_at_call 13
     refine y.o.mono ?_;rintro e wr2 hs;have A:=zh (H.o.run hs);obtain ⟨rp,rc,he,I,J,_,hx⟩:=hs;subst he;try dsimp only [aB,noV,a8,aH,List.length_nil]
     have b:=zh (And.intro I J);clear I J hx;try go_simp
     refine hK.out _ _ ?_ (fun hH=>?_)
     ·exact A.o.cellp
     clear hK K;try go_simp
     refine rd1 7 fun K hK=>?_;go_simp;have Q:Below wr2.heap.size wr2 (wr2.alloc (.cells #[.int .i64 0,.int .i64 0,.slice none 0 0,.int .i64 0,.int .i64 0] 38)):=ag (Below.refl _ _) _;have h3:Hd ((wr2.alloc (.cells #[.int .i64 0,.int .i64 0,.slice none 0 0,.int .i64 0,.int .i64 0] 38)).heap[wr2.heap.size]?=some (.cells #[.int .i64 0,.int .i64 0,.slice none 0 0,.int .i64 0,.int .i64 0] 38 (0,0))):=zh (aj _ _ _ rfl);have z:Hd (D≤wr2.heap.size):=zh (Nat.le_trans A.o.low.2.2.1 A.o.low.2.2.2);have E:=zh (A.o.below Q);have hz:=zh (And.intro (b.o.1.low Q) b.o.2);clear Q;generalize (wr2.alloc (.cells #[.int .i64 0,.int .i64 0,.slice none 0 0,.int .i64 0,.int .i64 0] 38))=wo3 at *;generalize wr2.heap.size=OB at *;refine hK.out _ _ ?_ (fun hH=>?_)
     ·exact E.o.cellp
     clear hK K;try go_simp
     refine wpAnyH_done (by kernel_rfl) ?_ _;dsimp only [aP];exact HL OB AB rp rc wo3 ⟨E.o,h3.o,z.o,hz.o⟩
    ·go_simp
     have R:Below wl1.heap.size wl1 (wl1.alloc (.cells #[.int .i64 0,.int .i64 0,.slice none 0 0,.int .i64 0,.int .i64 0] 38)):=ag (Below.refl _ _) _;have h4:Hd ((wl1.alloc (.cells #[.int .i64 0,.int .i64 0,.slice none 0 0,.int .i64 0,.int .i64 0] 38)).heap[wl1.heap.size]?=some (.cells #[.int .i64 0,.int .i64 0,.slice none 0 0,.int .i64 0,.int .i64 0] 38 (0,0))):=zh (aj _ _ _ rfl);have h0:Hd (D≤wl1.heap.size):=zh (Nat.le_trans H.o.low.2.2.1 H.o.low.2.2.2);have A:=zh (H.o.below R);have m:=zh (hw.o.low R);clear R;generalize (wl1.alloc (.cells #[.int .i64 0,.int .i64 0,.slice none 0 0,.int .i64 0,.int .i64 0] 38))=wo2 at *;generalize wl1.heap.size=OB at *;refine hK.out _ _ ?_ (fun hH=>?_)
     ·exact A.o.cellp
     clear hK K;try go_simp
     refine rd1 6 fun K hK=>?_;go_simp;have M:=zh (A.o.calls q.o ⟨#[102]⟩ 10000 (by constructor<;>decide) m.o (by decide) r.o);go_at_call 13
     refine M.o.mono ?_;rintro e wr3 hs;have E:=zh (A.o.run hs);obtain ⟨rp,rc,he,I,J,_,N⟩:=hs;subst he;try dsimp only [aB,noV,a8,aH,List.length_nil]
     have i:=zh (dZ N A.o.jo h4.o (by decide) (by decide));have L:=zh (And.intro I J);clear I J N;try go_simp
     refine hK.out _ _ ?_ (fun hH=>?_)
     ·exact E.o.cellp
     clear hK K;try go_simp
     refine wpAnyH_done (by kernel_rfl) ?_ _;dsimp only [aP];exact HL OB AB rp rc wr3 ⟨E.o,i.o,h0.o,L.o⟩
   ·go_simp
    have X:Below wn0.heap.size wn0 (wn0.alloc (.cells #[.int .i64 0,.int .i64 0,.slice none 0 0,.int .i64 0,.int .i64 0] 38)):=ag (Below.refl _ _) _;have g:Hd ((wn0.alloc (.cells #[.int .i64 0,.int .i64 0,.slice none 0 0,.int .i64 0,.int .i64 0] 38)).heap[wn0.heap.size]?=some (.cells #[.int .i64 0,.int .i64 0,.slice none 0 0,.int .i64 0,.int .i64 0] 38 (0,0))):=zh (aj _ _ _ rfl);have h1:Hd (D≤wn0.heap.size):=zh (Nat.le_trans O.o.low.2.2.1 O.o.low.2.2.2);have H:=zh (O.o.below X);clear X;generalize (wn0.alloc (.cells #[.int .i64 0,.int .i64 0,.slice none 0 0,.int .i64 0,.int .i64 0] 38))=wo1 at *;generalize wn0.heap.size=OB at *;refine hK.out _ _ ?_ (fun hH=>?_)
    ·exact H.o.cellp
    clear hK K;try go_simp
    refine rd1 4 fun K hK=>?_;go_simp;have B:Below wo1.heap.size wo1 (wo1.alloc (.cells #[.int .i64 1,.int .i64 (n:Int),.slice none 0 0] 35)):=ag (Below.refl _ _) _;have A:=zh (H.o.below B);have h5:=zh ((B.block _ (af g.o)).trans g.o);have m:=zh (ArAt.one (D:=D) wo1 1 (n:Int) (by have:=h6.o;unfold aY;omega));clear B;generalize (wo1.alloc (.cells #[.int .i64 1,.int .i64 (n:Int),.slice none 0 0] 35))=wl2 at *;generalize wo1.heap.size=AB at *;refine hK.out _ _ ?_ (fun hH=>?_)
    ·exact A.o.cellp
    clear hK K;try go_simp
    refine rd1 6 fun K hK=>?_;go_simp;have M:=zh (A.o.calls q.o ⟨#[102]⟩ 10000 (by constructor<;>decide) m.o (by decide) r.o);go_at_call 13
    refine M.o.mono ?_;rintro e wr3 hs;have E:=zh (A.o.run hs);obtain ⟨rp,rc,he,I,J,_,N⟩:=hs;subst he;try dsimp only [aB,noV,a8,aH,List.length_nil]
    have i:=zh (dZ N A.o.jo h5.o (by decide) (by decide));have L:=zh (And.intro I J);clear I J N;try go_simp
    refine hK.out _ _ ?_ (fun hH=>?_)
    ·exact E.o.cellp
    clear hK K;try go_simp
    refine wpAnyH_done (by kernel_rfl) ?_ _;dsimp only [aP];exact HL OB AB rp rc wr3 ⟨E.o,i.o,h1.o,L.o⟩
  ·go_simp
   have Y:Below wd.heap.size wd (wd.alloc (.cells #[.int .i64 0,.int .i64 0,.slice none 0 0,.int .i64 0,.int .i64 0] 38)):=ag (Below.refl _ _) _;have h:Hd ((wd.alloc (.cells #[.int .i64 0,.int .i64 0,.slice none 0 0,.int .i64 0,.int .i64 0] 38)).heap[wd.heap.size]?=some (.cells #[.int .i64 0,.int .i64 0,.slice none 0 0,.int .i64 0,.int .i64 0] 38 (0,0))):=zh (aj _ _ _ rfl);have h2:Hd (D≤wd.heap.size):=zh (Nat.le_trans d.o.low.2.2.1 d.o.low.2.2.2);have O:=zh (d.o.below Y);clear Y;generalize (wd.alloc (.cells #[.int .i64 0,.int .i64 0,.slice none 0 0,.int .i64 0,.int .i64 0] 38))=wo0 at *;generalize wd.heap.size=OB at *;refine hK.out _ _ ?_ (fun hH=>?_)
   ·exact O.o.cellp
   clear hK K;try go_simp
   refine rd1 3 fun K hK=>?_;go_simp;go_at_call 14
   refine (ee (n:Int) _).mono ?_;rintro e wn1 ⟨rfl,T⟩;have H:=zh (O.o.below T);have hq:=zh ((T.block _ (af h.o)).trans h.o);clear T;try go_simp
   refine hK.out _ _ ?_ (fun hH=>?_)
   ·exact H.o.cellp
   clear hK K;try go_simp
   refine rd1 4 fun K hK=>?_;go_simp;have B:Below wn1.heap.size wn1 (wn1.alloc (.cells #[.int .i64 1,.int .i64 (n:Int),.slice none 0 0] 35)):=ag (Below.refl _ _) _;have A:=zh (H.o.below B);have h5:=zh ((B.block _ (af hq.o)).trans hq.o);have m:=zh (ArAt.one (D:=D) wn1 1 (n:Int) (by have:=h6.o;unfold aY;omega));clear B;generalize (wn1.alloc (.cells #[.int .i64 1,.int .i64 (n:Int),.slice none 0 0] 35))=wl2 at *;generalize wn1.heap.size=AB at *;refine hK.out _ _ ?_ (fun hH=>?_)
   ·exact A.o.cellp
   clear hK K;try go_simp
   refine rd1 6 fun K hK=>?_;go_simp;have M:=zh (A.o.calls q.o ⟨#[102]⟩ 10000 (by constructor<;>decide) m.o (by decide) r.o);go_at_call 13
   refine M.o.mono ?_;rintro e wr3 hs;have E:=zh (A.o.run hs);obtain ⟨rp,rc,he,I,J,_,N⟩:=hs;subst he;try dsimp only [aB,noV,a8,aH,List.length_nil]
   have i:=zh (dZ N A.o.jo h5.o (by decide) (by decide));have L:=zh (And.intro I J);clear I J N;try go_simp
   refine hK.out _ _ ?_ (fun hH=>?_)
   ·exact E.o.cellp
   clear hK K;try go_simp
   refine wpAnyH_done (by kernel_rfl) ?_ _;dsimp only [aP];exact HL OB AB rp rc wr3 ⟨E.o,i.o,h2.o,L.o⟩
 ·intro OB AB rp rc w8 hs
  obtain ⟨h9,G,ha,h8⟩:=hs;have hm:=zh h9;have hB:=zh G;have hI:=zh h8;have hA:=zh ha;have o0:=aa G (j:=0) (u:=.int .i64 0) rfl;have o1:=aa G (j:=1) (u:=.int .i64 0) rfl;have o2:=aa G (j:=2) (u:=.slice none 0 0) rfl;have o3:=aa G (j:=3) (u:=.int .i64 0) rfl;have o4:=aa G (j:=4) (u:=.int .i64 0) rfl;have f0:=ae G 0;have f1:=ae G 1;have f2:=ae G 2;have f3:=ae G 3;have f4:=ae G 4;clear h9 G ha h8;go_upto_region 7 with fail
  clear o0 o1 o2 o3 o4 f0 f1 f2 f3 f4;have hp:Hd ((((((w8.setCell ⟨OB,0,none⟩ (.int .i64 (ov.ty))).setCell ⟨OB,1,none⟩ (.int .i64 (ov.num))).setCell ⟨OB,2,none⟩ (.slice rp (ov.text.length) rc)).setCell ⟨OB,3,none⟩ (.int .i64 (tr))).setCell ⟨OB,4,none⟩ (.int .i64 (us))).heap[OB]?=some (.cells #[.int .i64 (ov.ty),.int .i64 (ov.num),.slice rp (ov.text.length) rc,.int .i64 (tr),.int .i64 (us)] 38 (0,0))):=zh (eP hB.o (ov.ty) (ov.num) rp (ov.text.length) rc (tr) (us));have hu:Hd (Below w.heap.size w (((((w8.setCell ⟨OB,0,none⟩ (.int .i64 (ov.ty))).setCell ⟨OB,1,none⟩ (.int .i64 (ov.num))).setCell ⟨OB,2,none⟩ (.slice rp (ov.text.length) rc)).setCell ⟨OB,3,none⟩ (.int .i64 (tr))).setCell ⟨OB,4,none⟩ (.int .i64 (us)))):=zh (eA hm.o.on (Nat.le_trans hm.o.low.1 hA.o) (ov.ty) (ov.num) rp (ov.text.length) rc (tr) (us));generalize (((((w8.setCell ⟨OB,0,none⟩ (.int .i64 (ov.ty))).setCell ⟨OB,1,none⟩ (.int .i64 (ov.num))).setCell ⟨OB,2,none⟩ (.slice rp (ov.text.length) rc)).setCell ⟨OB,3,none⟩ (.int .i64 (tr))).setCell ⟨OB,4,none⟩ (.int .i64 (us)))=w9 at *;have v1:=aa hp.o (j:=1) (u:=.int .i64 ov.num) rfl;have v3:=aa hp.o (j:=3) (u:=.int .i64 tr) rfl;by_cases p:n<16
  ·obtain ⟨ht,ho⟩:=hD.o p
   subst ht;rw [ho] at v1;have t:¬(16:Int)≤(n:Int):=by omega
   have x:decide (16≤n)=false:=decide_eq_false (by omega);clear ho p;go_wp2_with fail
   exact bodyPost_ret (v:=.bool true) (by simp [results,Tryz.results4,go_sem]) rfl ⟨rfl,hu.o⟩
  ·obtain ht:=hC.o p
   subst ht;have t:(16:Int)≤(n:Int):=by omega
   have x:decide (16≤n)=true:=decide_eq_true (by omega);clear p;go_wp2_with fail
   exact bodyPost_ret (v:=.bool true) (by simp [results,Tryz.results4,go_sem]) rfl ⟨rfl,hu.o⟩
end
end Go.Proofs.YthgcpfkochikfaaGreat
