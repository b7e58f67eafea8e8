/-
  EvalLoops: part 38 of its proof: see the last text.
-/
import Derived.Test.YthgcpfkochikfaaGreatPq37
set_option maxRecDepth 100000
set_option maxHeartbeats 16000000
namespace Go.Proofs.YthgcpfkochikfaaGreat
section
open Go.RowKit
attribute [local go_sem ↓] Go.wp_at_zero Go.wp_at_succ
theorem yj (a0:Option Addr) (h0:Nat) (s:List UInt8) (nm:ByteArray) (va:Value) (vs:List Vv) (vl:Value) (l:List Pr) (limit:Int) (more:Nat) (w:World) (hs:SrcAt w a0 s) (HG:s.length≤1152921504606846976) (HJ:s.length≤h0)
    (ha:ArIn w va vs) (hp:PrsAt Any w vl l) (HD:(l.length:Int)≤1000000000000000) (k:aY limit) (hm:more≤65535):Calls Tryz.prog 8 #[.slice a0 s.length h0,.string nm,va,vl,.int .i64 limit,.int .u16 (more:Int)] w fun e w'=>e=.returned (.bool true)∧Below w.heap.size w w':=by
 have ke:=zh (jF w);have ki:=zh (fun W (hW:Below w.heap.size w W)=>lB a0 h0 s W (hs.later hW) HG HJ);have hN:=zh (fun W (hW:Below w.heap.size w W)=>ji W (hp.below hW) HD);have HA:=zh ha;have Hk:=zh k;have HM:=zh hm;obtain ⟨_,⟨sa,ca,rfl,_⟩,_⟩:=ha;obtain ⟨_,⟨sl,cl,rfl,_⟩,_⟩:=hp;have ko:IntKind.i64.wrap (more:Int)=(more:Int):=by rw [IntKind.wrap_i64];omega
 have kt:-9223372036854775808≤limit∧limit≤9223372036854775807:=k;clear hs HG HJ HD k hm;go_enter Tryz.func8,Tryz.ntmps8
 go_wp2_with fail
 refine ke.o.mono ?_;rintro e w0 ⟨rfl,HK⟩;have hO:=zh HK;clear HK;go_wp2_with fail
 refine (ki.o w0 hO.o).mono ?_;intro e w1 hc;obtain ⟨sv,n,cv,er,pos,rfl,hF,H2⟩:=oE hc;have HF:=zh hF;have hB:Hd ((w1.alloc (.cells #[.slice sv n cv] 26)).heap[w1.heap.size]?=some (.cells #[.slice sv n cv] 26 (0,0))):=zh (aj _ _ _ rfl);have hD:Hd (Below w.heap.size w (w1.alloc (.cells #[.slice sv n cv] 26))):=zh ((hO.o.trans (H2.mono hO.o.size)).alloc (Nat.le_trans hO.o.size H2.size) _);have hE:Hd (Below w1.heap.size w1 (w1.alloc (.cells #[.slice sv n cv] 26))):=zh (ag (Below.refl _ _) _);clear hc hF H2;go_upto_region 3 with fail
 generalize w1.alloc (.cells #[.slice sv n cv] 26)=w2 at *
 have hw:Hd (er=0→∃F,cU s=.ok F∧RepFns Any w2 (.slice sv n cv) F):=zh (fun h=>by
   obtain ⟨F,h1,h2⟩:=HF.o h;exact ⟨F,h1,h2.keep (Stays.of_below hE.o)⟩)
 clear HF hE;generalize w1.heap.size=PB at *;go_wp2_with fail
 refine (hN.o w2 hD.o).mono ?_;intro e w3 HB;obtain ⟨q1,rfl,hg,Hs,H1⟩:=jK HB;have HO:=zh Hs;have hy:=zh hg;have h5:=zh H1;have Hn:Hd (Below w.heap.size w w3):=zh (hD.o.trans (H1.mono hD.o.size));clear HB hg Hs H1;go_wp2_with fail
 refine (hN.o w3 Hn.o).mono ?_;intro e w4 Hz;obtain ⟨q2,rfl,hR,Hr,H0⟩:=jK Hz;have HN:=zh Hr;have h4:=zh H0;have hC:Hd (Below w.heap.size w w4):=zh (Hn.o.trans (H0.mono Hn.o.size));clear Hz hR Hr H0;by_cases hX:er=0
 case neg =>
  have HV:(er !=0)=true:=bne_iff_ne.2 hX;clear hX;go_wp2_with fail
  exact bodyPost_ret (v:=.bool true) (by simp [results,Tryz.results8,go_sem]) rfl ⟨rfl,hC.o⟩
 subst hX;obtain ⟨F,HI,hd⟩:=hw.o rfl;have hA:=zh (fc HI);have HP:=zh hd;clear HI hd hw
 cases hr:aV l with
 | false =>
  obtain rfl:=hy.o hr;clear hr;go_wp2_with fail
  exact bodyPost_ret (v:=.bool true) (by simp [results,Tryz.results8,go_sem]) rfl ⟨rfl,hC.o⟩
 | true =>
 obtain ⟨JB1,rfl,hi,hV⟩:=HO.o hr;obtain ⟨JB2,rfl,hT,HH⟩:=HN.o hr;have H8:=zh hr;clear hr hy;by_cases kx:limit<0
 ·go_wp2_with fail
  exact bodyPost_ret (v:=.bool true) (by simp [results,Tryz.results8,go_sem]) rfl ⟨rfl,hC.o⟩
 by_cases kv:10000<limit
 ·go_wp2_with fail
  exact bodyPost_ret (v:=.bool true) (by simp [results,Tryz.results8,go_sem]) rfl ⟨rfl,hC.o⟩
 have h8:=zh (RnS.made hB.o HP.o hD.o (am h5.o h4.o) (fun U N=>(hV U N).below h4.o) hi);have HS:Hd (JB1≠JB2):=zh (fun e=>by have:=(hV 0 0).ty.lt;omega);have HT:=zh HH;have kk:Hd (w2.heap.size≤JB2):=zh (by have:=h5.o.size;omega);have c:Hd (w.heap.size≤w2.heap.size):=zh hD.o.size;have hz:Hd (0≤limit∧limit≤10000):=zh (by omega);generalize w2.heap.size=D at *;clear hi hV hT HH HO HN hB HP h5 h4;have Hl:=zh (xI (F:=F) (x:=nm) (vs:=vs) (limit:=limit) (more:=(more:Int)) (j:=⟨l,[]⟩) hz.o.1 (by have:=hz.o;have:=HM.o;omega) (by omega));have H9:=zh (h8.o.calls hA.o nm limit Hk.o (HA.o.at c.o hC.o) (by decide) rfl);generalize hU:w4.heap.size=U at h8 H9;clear hU;have hn:=zh (oB (F:=F) (x:=nm) (vs:=vs) (limit:=limit) (j:=⟨l,[]⟩) H8.o);generalize bA F nm vs limit ⟨l,[]⟩=o at *;obtain ⟨⟨ov,tr,us⟩,⟨prs,uds⟩⟩:=o;have p0:=h8.o.cellp;have i:=af h8.o.p;go_wp2_with fail
 refine H9.o.mono ?_;rintro e w5 hs;have k4:Hd (RnS D U JB1 100000 w w5 PB (.slice sv n cv) F ⟨prs,uds⟩):=zh (h8.o.run hs);obtain ⟨rp,rc,he,hb,hQ,_,Hx⟩:=hs;obtain rfl:e=.returned (.agg #[.int .i64 ov.ty,.int .i64 ov.num,.slice rp ov.text.length rc,.int .i64 tr,.int .i64 us]):=he;have kb:Hd (∀U N,JAt U w5 JB2 ⟨l,[]⟩ N):=zh (fun U2 N2=>oC (HT.o _ 0) h8.o.jo Hx (Ne.symm HS.o) U2 N2);have k3:Hd (VvAt (KS D w5) w5 (.agg #[.int .i64 ov.ty,.int .i64 ov.num,.slice rp ov.text.length rc]) ov):=zh hb;clear hb hQ Hx HT H9 p0 i;have hL:Below w5.heap.size w5 (w5.alloc (.cells #[.int .i64 ov.ty,.int .i64 ov.num,.slice rp ov.text.length rc,.int .i64 tr,.int .i64 us] 38)):=ag (Below.refl _ _) _;have hM:Hd ((w5.alloc (.cells #[.int .i64 ov.ty,.int .i64 ov.num,.slice rp ov.text.length rc,.int .i64 tr,.int .i64 us] 38)).heap[w5.heap.size]?=some (.cells #[.int .i64 ov.ty,.int .i64 ov.num,.slice rp ov.text.length rc,.int .i64 tr,.int .i64 us] 38 (0,0))):=zh (aj _ _ _ rfl);have h7:=zh (k4.o.below hL);have ka:Hd (∀U N,JAt U (w5.alloc (.cells #[.int .i64 ov.ty,.int .i64 ov.num,.slice rp ov.text.length rc,.int .i64 tr,.int .i64 us] 38)) JB2 ⟨l,[]⟩ N):=zh (fun U2 N2=>(kb.o U2 N2).below hL);have k2:=zh (k3.o.low hL);clear hL;go_upto_region 8 with fail
 generalize w5.alloc (.cells #[.int .i64 ov.ty,.int .i64 ov.num,.slice rp ov.text.length rc,.int .i64 tr,.int .i64 us] 38)=w6 at *;generalize w5.heap.size=XB at *;have x3:=aa hM.o (j:=3) (u:=.int .i64 tr) rfl;have x4:=aa hM.o (j:=4) (u:=.int .i64 us) rfl;by_cases ht:tr=1
 ·subst ht
  have HU:us=limit:=by
   rcases Hl.o with ⟨_,q⟩ | ⟨q,_⟩
   ·exact q
   ·exact absurd rfl q
  subst HU;go_wp2_with fail
  exact bodyPost_ret (v:=.bool true) (by simp [results,Tryz.results8,go_sem]) rfl ⟨rfl,h7.o.on⟩
 have ks:(tr==1)=false:=beq_eq_false_iff_ne.2 ht
 obtain ⟨HC,HE⟩:bA F nm vs (limit+(more:Int)) ⟨l,[]⟩=(⟨ov,tr,us⟩,⟨prs,uds⟩)∧(us=0∨((bA F nm vs (us-1) ⟨l,[]⟩).1.trap=1∧(bA F nm vs (us-1) ⟨l,[]⟩).1.used=us-1)):=by
  rcases Hl.o with ⟨q,_⟩ | ⟨_,q,q2⟩
  ·exact absurd q ht
  ·exact ⟨q,q2⟩
 have k9:=zh HE;have H:=zh (h7.o.other (ka.o _ 0) kk.o);have HQ:=zh (H.o.calls hA.o nm (limit+(more:Int)) (by have h1:=hz.o;have h2:=HM.o;unfold aY;omega) (HA.o.at c.o h7.o.on) (by decide) HC);have kp:IntKind.i64.wrap (limit+(more:Int))=limit+(more:Int):=by have h1:=hz.o;have h2:=HM.o;rw [IntKind.wrap_i64];omega
 have p0:=h7.o.cellp;have i:=af h7.o.p;have hS:=af hM.o;clear ht HC HE Hl;go_wp2_with fail
 refine HQ.o.mono ?_;rintro e w7 hs;have H7:Hd (RnS D w6.heap.size JB2 100000 w w7 PB (.slice sv n cv) F ⟨prs,uds⟩):=zh (H.o.run hs);obtain ⟨rp2,rc2,he,hb,hQ,_,hG⟩:=hs;obtain rfl:e=.returned (.agg #[.int .i64 ov.ty,.int .i64 ov.num,.slice rp2 ov.text.length rc2,.int .i64 tr,.int .i64 us]):=he;have kd:=zh (oH h7.o.jo H.o.jo hG HS.o);have hl:=zh (dZ hG H.o.jo hM.o (by decide) (by decide));have k1:=zh (Bv k2.o H.o.jo hG ⟨H.o.low.2.1,H.o.low.2.2.1⟩);have HX:Hd (VvAt (KS D w7) w7 (.agg #[.int .i64 ov.ty,.int .i64 ov.num,.slice rp2 ov.text.length rc2]) ov):=zh hb;clear hb hQ hG HQ p0 i hS x3 x4;have h6:Below w7.heap.size w7 (w7.alloc (.cells #[.int .i64 ov.ty,.int .i64 ov.num,.slice rp2 ov.text.length rc2,.int .i64 tr,.int .i64 us] 38)):=ag (Below.refl _ _) _;have hj:Hd ((w7.alloc (.cells #[.int .i64 ov.ty,.int .i64 ov.num,.slice rp2 ov.text.length rc2,.int .i64 tr,.int .i64 us] 38)).heap[w7.heap.size]?=some (.cells #[.int .i64 ov.ty,.int .i64 ov.num,.slice rp2 ov.text.length rc2,.int .i64 tr,.int .i64 us] 38 (0,0))):=zh (aj _ _ _ rfl);have G:=zh ((h6.block _ (af hl.o)).trans hl.o);have H6:=zh (H7.o.below h6);have kc:=zh (kd.o.below h6);have k0:=zh (k1.o.low h6);have HW:=zh (HX.o.low h6);clear h6;go_upto_region 11 with fail
 generalize w7.alloc (.cells #[.int .i64 ov.ty,.int .i64 ov.num,.slice rp2 ov.text.length rc2,.int .i64 tr,.int .i64 us] 38)=w8 at *;generalize w7.heap.size=YB at *;have hq:=zh (ou ov.ty ov.num tr us rp rp2 rc rc2 w8 k0.o.txt HW.o.txt);have x0:=aa G.o (j:=0) (u:=.int .i64 ov.ty) rfl;have x1:=aa G.o (j:=1) (u:=.int .i64 ov.num) rfl;have x2:=aa G.o (j:=2) (u:=.slice rp ov.text.length rc) rfl;have x3:=aa G.o (j:=3) (u:=.int .i64 tr) rfl;have x4:=aa G.o (j:=4) (u:=.int .i64 us) rfl;have y0:=aa hj.o (j:=0) (u:=.int .i64 ov.ty) rfl;have y1:=aa hj.o (j:=1) (u:=.int .i64 ov.num) rfl;have y2:=aa hj.o (j:=2) (u:=.slice rp2 ov.text.length rc2) rfl;have y3:=aa hj.o (j:=3) (u:=.int .i64 tr) rfl;have y4:=aa hj.o (j:=4) (u:=.int .i64 us) rfl;go_wp2_with fail
 refine hq.o.mono ?_;rintro e w9 ⟨rfl,hI⟩;have hk:=zh ((hI.block _ (af G.o)).trans G.o);have H5:=zh (H6.o.below hI);have k6:=zh (eV w9 (kc.o.below hI));clear hI x0 x1 x2 x3 x4 y0 y1 y2 y3 y4;go_wp2_with fail
 refine k6.o.mono ?_;rintro e w10 ⟨v10,rfl,f,z⟩;obtain ⟨_,s10,n10,c10,rfl,_⟩:=id f;have V:=zh ((z.block _ (af hk.o)).trans hk.o);have Z:=zh (H5.o.below z);have H4:=zh f;have Ha:=zh (eV w10 Z.o.jo);clear f z;go_wp2_with fail
 refine Ha.o.mono ?_;rintro e w11 ⟨v11,rfl,d,Q⟩;obtain ⟨_,s11,n11,c11,rfl,_⟩:=id d;have T:=zh ((Q.block _ (af V.o)).trans V.o);have Y:=zh (Z.o.below Q)
 have k5:=zh (lk w11 (H4.o.1.below Q) d.1 (by
   have h1:=eW (cg Y.o.jo.right).2.2;have h2:prs.length≤256:=h1;show (prs.length:Int)≤_
   omega))
 clear d Q;go_wp2_with fail
 refine k5.o.mono ?_;rintro e w12 ⟨rfl,y⟩;have P:=zh ((y.block _ (af T.o)).trans T.o);have X:=zh (Y.o.below y);clear y;have x4:=aa P.o (j:=4) (u:=.int .i64 us) rfl;by_cases hu:us=0
 ·subst hu
  go_wp2_with fail
  exact bodyPost_ret (v:=.bool true) (by simp [results,Tryz.results8,go_sem]) rfl ⟨rfl,X.o.on⟩
 have kr:(us==0)=false:=beq_eq_false_iff_ne.2 hu;have HZ:Hd ((bA F nm vs (us-1) ⟨l,[]⟩).1.trap=1∧(bA F nm vs (us-1) ⟨l,[]⟩).1.used=us-1):=zh (k9.o.resolve_left hu)
 have ho:Hd (0<us∧us≤100000):=zh (by
   have h1:0≤us:=hn.o.1;have h2:us≤max limit 0:=hn.o.2.1;have:=hz.o;omega)
 have kn:IntKind.i64.wrap (us-1)=us-1:=by have:=ho.o;rw [IntKind.wrap_i64];omega
 clear hu;generalize Hu:bA F nm vs (us-1) ⟨l,[]⟩=oz at *;have Hb:Hd (bA F nm vs (us-1) ⟨l,[]⟩=oz):=zh Hu;clear Hu;go_upto_region 15 with fail
 clear x4;apply pz (fun OB _ rp3 rc3 w8=>Below w.heap.size w w8∧w.heap.size≤OB∧w8.heap[OB]?=some (.cells #[.int .i64 0,.int .i64 0,.slice none 0 0,.int .i64 0,.int .i64 0] 38 (0,0))∧w8.heap[XB]?=some (.cells #[.int .i64 ov.ty,.int .i64 ov.num,.slice rp ov.text.length rc,.int .i64 tr,.int .i64 us] 38 (0,0)))
 ·intro HL
  have a:=zh (X.o.below (aw (Below.refl w12.heap.size w12)));have O:Hd (w12.drew.heap[XB]?=some (.cells #[.int .i64 ov.ty,.int .i64 ov.num,.slice rp ov.text.length rc,.int .i64 tr,.int .i64 us] 38 (0,0))):=zh (((aw (Below.refl w12.heap.size w12)).block _ (af P.o)).trans P.o);refine ay (S:=(fun W=>W.cell? ⟨PB,0,none⟩=some (.slice sv n cv)∧W.cell? ⟨XB,4,none⟩=some (.int .i64 us))) 10 (by kernel_rfl) (by kernel_rfl) (by (try dsimp only);exact ⟨a.o.cellp,aa O.o (j:=4) rfl⟩) (fun hH=>?_);simp only [List.take_succ_cons,List.take_zero,List.drop_succ_cons,List.drop_zero]
  generalize w12.drew=wd at *;refine tkA 0 ?_;refine tkA 1 ?_;refine tkA 2 ?_;refine tkA 3 ?_;try go_simp
  refine tkA 5 ?_;refine tkA 6 ?_;refine tkA 7 ?_;try go_simp
  refine wpAnyH_ready (rs:=[4,9]) (by kernel_rfl) (by simp) ?_;refine (AllReadyH.cons rfl (fun K hK=>?_) (AllReadyH.cons rfl (fun K hK=>?_) AllReadyH.nil))
  ·go_simp
   go_at_call 12
   refine (hN.o _ a.o.on).mono ?_;intro e wn0 hf;obtain ⟨q3,rfl,_,h9,R⟩:=jK hf;obtain ⟨JB3,rfl,M,hh⟩:=h9 H8.o;have Hm:Hd (D≤JB3):=zh (Nat.le_trans (Nat.le_trans a.o.low.2.2.1 a.o.low.2.2.2) M);have h3:=zh (a.o.below R);have E:=zh ((R.block _ (af O.o)).trans O.o);have B:=zh (h3.o.other (hh _ 0) Hm.o);clear hf h9 M hh R;try go_simp
   refine hK.out _ _ ?_ (fun hH=>?_)
   ·exact ⟨B.o.cellp,aa E.o (j:=4) rfl⟩
   clear hK K;try go_simp
   refine wpAnyH_ready (rs:=[8,9]) (by kernel_rfl) (by simp) ?_;refine (AllReadyH.cons rfl (fun K hK=>?_) (AllReadyH.cons rfl (fun K hK=>?_) AllReadyH.nil))
   ·go_simp
    have hv:=zh (B.o.calls hA.o nm (us-1) (by have:=ho.o;unfold aY;omega) (HA.o.at c.o B.o.on) (by decide) Hb.o);go_at_call 13
    refine hv.o.mono ?_;rintro e wr1 hs;have L:=zh (B.o.run hs);obtain ⟨rp3,rc3,he,_,_,_,Hy⟩:=hs;obtain rfl:e=.returned (.agg #[.int .i64 oz.1.val.ty,.int .i64 oz.1.val.num,.slice rp3 oz.1.val.text.length rc3,.int .i64 oz.1.trap,.int .i64 oz.1.used]):=he;have A:=zh (dZ Hy B.o.jo E.o (by decide) (by decide));clear Hy;try go_simp
    refine hK.out _ _ ?_ (fun hH=>?_)
    ·exact ⟨L.o.cellp,aa A.o (j:=4) rfl⟩
    clear hK K;try go_simp
    refine rd1 9 fun K hK=>?_;go_simp;have m:Below wr1.heap.size wr1 (wr1.alloc (.cells #[.int .i64 0,.int .i64 0,.slice none 0 0,.int .i64 0,.int .i64 0] 38)):=ag (Below.refl _ _) _;have Hg:Hd ((wr1.alloc (.cells #[.int .i64 0,.int .i64 0,.slice none 0 0,.int .i64 0,.int .i64 0] 38)).heap[wr1.heap.size]?=some (.cells #[.int .i64 0,.int .i64 0,.slice none 0 0,.int .i64 0,.int .i64 0] 38 (0,0))):=zh (aj _ _ _ rfl);have Hc:Hd (D≤wr1.heap.size):=zh (Nat.le_trans L.o.low.2.2.1 L.o.low.2.2.2);have b:=zh (L.o.below m);have C:=zh ((m.block _ (af A.o)).trans A.o);clear m;generalize (wr1.alloc (.cells #[.int .i64 0,.int .i64 0,.slice none 0 0,.int .i64 0,.int .i64 0] 38))=wo2 at *;generalize wr1.heap.size=OB at *;refine hK.out _ _ ?_ (fun hH=>?_)
    ·exact ⟨b.o.cellp,aa C.o (j:=4) rfl⟩
    clear hK K;try go_simp
    refine wpAnyH_done (by kernel_rfl) ?_ _;dsimp only [aP];exact HL OB JB3 rp3 rc3 wo2 ⟨b.o.on,Nat.le_trans c.o Hc.o,Hg.o,C.o⟩
   ·go_simp
    have r:Below wn0.heap.size wn0 (wn0.alloc (.cells #[.int .i64 0,.int .i64 0,.slice none 0 0,.int .i64 0,.int .i64 0] 38)):=ag (Below.refl _ _) _;have Hh:Hd ((wn0.alloc (.cells #[.int .i64 0,.int .i64 0,.slice none 0 0,.int .i64 0,.int .i64 0] 38)).heap[wn0.heap.size]?=some (.cells #[.int .i64 0,.int .i64 0,.slice none 0 0,.int .i64 0,.int .i64 0] 38 (0,0))):=zh (aj _ _ _ rfl);have He:Hd (D≤wn0.heap.size):=zh (Nat.le_trans B.o.low.2.2.1 B.o.low.2.2.2);have L:=zh (B.o.below r);have A:=zh ((r.block _ (af E.o)).trans E.o);clear r;generalize (wn0.alloc (.cells #[.int .i64 0,.int .i64 0,.slice none 0 0,.int .i64 0,.int .i64 0] 38))=wo1 at *;generalize wn0.heap.size=OB at *;refine hK.out _ _ ?_ (fun hH=>?_)
    ·exact ⟨L.o.cellp,aa A.o (j:=4) rfl⟩
    clear hK K;try go_simp
    refine rd1 8 fun K hK=>?_;go_simp;have hv:=zh (L.o.calls hA.o nm (us-1) (by have:=ho.o;unfold aY;omega) (HA.o.at c.o L.o.on) (by decide) Hb.o);go_at_call 13
    refine hv.o.mono ?_;rintro e wr2 hs;have b:=zh (L.o.run hs);obtain ⟨rp3,rc3,he,_,_,_,g⟩:=hs;obtain rfl:e=.returned (.agg #[.int .i64 oz.1.val.ty,.int .i64 oz.1.val.num,.slice rp3 oz.1.val.text.length rc3,.int .i64 oz.1.trap,.int .i64 oz.1.used]):=he;have Hi:=zh (dZ g L.o.jo Hh.o (by decide) (by decide));have C:=zh (dZ g L.o.jo A.o (by decide) (by decide));clear g;try go_simp
    refine hK.out _ _ ?_ (fun hH=>?_)
    ·exact ⟨b.o.cellp,aa C.o (j:=4) rfl⟩
    clear hK K;try go_simp
    refine wpAnyH_done (by kernel_rfl) ?_ _;dsimp only [aP];exact HL OB JB3 rp3 rc3 wr2 ⟨b.o.on,Nat.le_trans c.o He.o,Hi.o,C.o⟩
  ·go_simp
   have t:Below wd.heap.size wd (wd.alloc (.cells #[.int .i64 0,.int .i64 0,.slice none 0 0,.int .i64 0,.int .i64 0] 38)):=ag (Below.refl _ _) _;have hx:Hd ((wd.alloc (.cells #[.int .i64 0,.int .i64 0,.slice none 0 0,.int .i64 0,.int .i64 0] 38)).heap[wd.heap.size]?=some (.cells #[.int .i64 0,.int .i64 0,.slice none 0 0,.int .i64 0,.int .i64 0] 38 (0,0))):=zh (aj _ _ _ rfl);have Hf:Hd (D≤wd.heap.size):=zh (Nat.le_trans a.o.low.2.2.1 a.o.low.2.2.2);have h3:=zh (a.o.below t);have E:=zh ((t.block _ (af O.o)).trans O.o);clear t;generalize (wd.alloc (.cells #[.int .i64 0,.int .i64 0,.slice none 0 0,.int .i64 0,.int .i64 0] 38))=wo0 at *;generalize wd.heap.size=OB at *;refine hK.out _ _ ?_ (fun hH=>?_)
   ·exact ⟨h3.o.cellp,aa E.o (j:=4) rfl⟩
   clear hK K;try go_simp
   refine rd1 4 fun K hK=>?_;go_simp;go_at_call 12
   refine (hN.o _ h3.o.on).mono ?_;intro e wn1 hf;obtain ⟨q3,rfl,_,h9,R⟩:=jK hf;obtain ⟨JB3,rfl,M,hh⟩:=h9 H8.o;have Hm:Hd (D≤JB3):=zh (Nat.le_trans (Nat.le_trans h3.o.low.2.2.1 h3.o.low.2.2.2) M);have L:=zh (h3.o.below R);have k8:=zh ((R.block _ (af hx.o)).trans hx.o);have A:=zh ((R.block _ (af E.o)).trans E.o);have J:=zh (L.o.other (hh _ 0) Hm.o);clear hf h9 M hh R;try go_simp
   refine hK.out _ _ ?_ (fun hH=>?_)
   ·exact ⟨J.o.cellp,aa A.o (j:=4) rfl⟩
   clear hK K;try go_simp
   refine rd1 8 fun K hK=>?_;go_simp;have hv:=zh (J.o.calls hA.o nm (us-1) (by have:=ho.o;unfold aY;omega) (HA.o.at c.o J.o.on) (by decide) Hb.o);go_at_call 13
   refine hv.o.mono ?_;rintro e wr2 hs;have b:=zh (J.o.run hs);obtain ⟨rp3,rc3,he,_,_,_,g⟩:=hs;obtain rfl:e=.returned (.agg #[.int .i64 oz.1.val.ty,.int .i64 oz.1.val.num,.slice rp3 oz.1.val.text.length rc3,.int .i64 oz.1.trap,.int .i64 oz.1.used]):=he;have Hi:=zh (dZ g J.o.jo k8.o (by decide) (by decide));have C:=zh (dZ g J.o.jo A.o (by decide) (by decide));clear g;try go_simp
   refine hK.out _ _ ?_ (fun hH=>?_)
   ·exact ⟨b.o.cellp,aa C.o (j:=4) rfl⟩
   clear hK K;try go_simp
   refine wpAnyH_done (by kernel_rfl) ?_ _;dsimp only [aP];exact HL OB JB3 rp3 rc3 wr2 ⟨b.o.on,Nat.le_trans c.o Hf.o,Hi.o,C.o⟩
 ·intro OB JB3 rp3 rc3 w13 hs
  obtain ⟨Ht,Hv,I,hP⟩:=hs;have Ho:=zh Ht;have Hj:=zh I;have H3:=zh hP;have k7:=zh Hv
  have Hw:XB≠OB:=by
   rintro rfl;rw [hP] at I;have h1:=ho.o;simp at I
   omega
  have o0:=aa I (j:=0) (u:=.int .i64 0) rfl;have o1:=aa I (j:=1) (u:=.int .i64 0) rfl;have o2:=aa I (j:=2) (u:=.slice none 0 0) rfl;have o3:=aa I (j:=3) (u:=.int .i64 0) rfl;have o4:=aa I (j:=4) (u:=.int .i64 0) rfl;have f0:=ae I 0;have f1:=ae I 1;have f2:=ae I 2;have f3:=ae I 3;have f4:=ae I 4;clear Ht I Hv hP;go_upto_region 16 with fail
  clear o0 o1 o2 o3 o4 f0 f1 f2 f3 f4;have HR:Hd ((((((w13.setCell ⟨OB,0,none⟩ (.int .i64 oz.1.val.ty)).setCell ⟨OB,1,none⟩ (.int .i64 oz.1.val.num)).setCell ⟨OB,2,none⟩ (.slice rp3 oz.1.val.text.length rc3)).setCell ⟨OB,3,none⟩ (.int .i64 oz.1.trap)).setCell ⟨OB,4,none⟩ (.int .i64 oz.1.used)).heap[OB]?=some (.cells #[.int .i64 oz.1.val.ty,.int .i64 oz.1.val.num,.slice rp3 oz.1.val.text.length rc3,.int .i64 oz.1.trap,.int .i64 oz.1.used] 38 (0,0))):=zh (eP Hj.o (oz.1.val.ty) (oz.1.val.num) rp3 (oz.1.val.text.length) rc3 (oz.1.trap) (oz.1.used));have kl:Hd (Below w.heap.size w (((((w13.setCell ⟨OB,0,none⟩ (.int .i64 oz.1.val.ty)).setCell ⟨OB,1,none⟩ (.int .i64 oz.1.val.num)).setCell ⟨OB,2,none⟩ (.slice rp3 oz.1.val.text.length rc3)).setCell ⟨OB,3,none⟩ (.int .i64 oz.1.trap)).setCell ⟨OB,4,none⟩ (.int .i64 oz.1.used))):=zh (eA Ho.o k7.o (oz.1.val.ty) (oz.1.val.num) rp3 (oz.1.val.text.length) rc3 (oz.1.trap) (oz.1.used));have HY:Hd ((((((w13.setCell ⟨OB,0,none⟩ (.int .i64 oz.1.val.ty)).setCell ⟨OB,1,none⟩ (.int .i64 oz.1.val.num)).setCell ⟨OB,2,none⟩ (.slice rp3 oz.1.val.text.length rc3)).setCell ⟨OB,3,none⟩ (.int .i64 oz.1.trap)).setCell ⟨OB,4,none⟩ (.int .i64 oz.1.used)).heap[XB]?=some (.cells #[.int .i64 ov.ty,.int .i64 ov.num,.slice rp ov.text.length rc,.int .i64 tr,.int .i64 us] 38 (0,0))):=zh ((mX w13 OB (oz.1.val.ty) (oz.1.val.num) rp3 (oz.1.val.text.length) rc3 (oz.1.trap) (oz.1.used)).obj Hw H3.o);generalize (((((w13.setCell ⟨OB,0,none⟩ (.int .i64 oz.1.val.ty)).setCell ⟨OB,1,none⟩ (.int .i64 oz.1.val.num)).setCell ⟨OB,2,none⟩ (.slice rp3 oz.1.val.text.length rc3)).setCell ⟨OB,3,none⟩ (.int .i64 oz.1.trap)).setCell ⟨OB,4,none⟩ (.int .i64 oz.1.used))=w14 at *;clear Hw;obtain ⟨Hq,Hp⟩:=HZ.o;have z3:=aa HR.o (j:=3) (u:=.int .i64 oz.1.trap) rfl;have z4:=aa HR.o (j:=4) (u:=.int .i64 oz.1.used) rfl;rw [Hq] at z3;rw [Hp] at z4;have x4:=aa HY.o (j:=4) (u:=.int .i64 us) rfl;clear Hq Hp;go_wp2_with fail
  exact bodyPost_ret (v:=.bool true) (by simp [results,Tryz.results8,go_sem]) rfl ⟨rfl,kl.o⟩
end
end Go.Proofs.YthgcpfkochikfaaGreat
