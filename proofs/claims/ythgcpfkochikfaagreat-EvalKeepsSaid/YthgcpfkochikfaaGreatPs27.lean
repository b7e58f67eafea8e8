/-
  EvalSigns: part 27 of its proof: see the last text.
-/
import Derived.Test.YthgcpfkochikfaaGreatPs26
set_option maxRecDepth 100000
set_option maxHeartbeats 16000000
namespace Go.Proofs.YthgcpfkochikfaaGreat
section
open Go.RowKit
attribute [local go_sem ↓] Go.wp_at_zero Go.wp_at_succ
theorem td {y:Ly} {m:Nat} (op pos:Int) (text:ByteArray) (es:List Ex) (body els:List St) (hw:WfS y.F (.mk op text es body els pos)) (Kk:∀i,i<es.length→pB y m (es.getD i default)) (H1:xy y m body) (HK:xy y m els):Bh y m (.mk op text es body els pos):=by
 intro l σ r w cs h hc hn hst;rw [WfS] at hw
 cases hst with
 | @mk _ _ _ _ _ _ ve vb vl cb cl hse hi Hu ke Ht =>
 obtain ⟨_,⟨es0,ec,rfl,KL⟩,kk⟩:=id hse;obtain ⟨bs0,bc,rfl,KM⟩:=id hi;obtain ⟨ls0,lc,rfl,KK⟩:=id ke;have Kp:=zh hse;have kP:Hd (RepSts (fun b=>b<y.D) w (.slice bs0 body.length bc) body):=zh ⟨cb,hi,Hu⟩;have Ko:Hd (RepSts (fun b=>b<y.D) w (.slice ls0 els.length lc) els):=zh ⟨cl,ke,Ht⟩;have HW:=zh hw.1;have KX:=zh Kk;have H5:=zh H1;have K6:=zh HK;have HC:=zh hc;have HN:=zh hn;have hu:Hd (y.D≤w.heap.size):=zh (by have:=h.low;omega);obtain ⟨p,hp⟩:∃p,eU l=.pointer p:=by cases l<;>exact ⟨_,rfl⟩
 have HP:=zh hp;obtain ⟨en,k5⟩:∃n,n=es.length:=⟨_,rfl⟩
 obtain ⟨bn,Hk⟩:∃n,n=body.length:=⟨_,rfl⟩
 obtain ⟨ln,ki⟩:∃n,n=els.length:=⟨_,rfl⟩
 rw [←k5] at Kp;rw [←Hk] at kP;rw [←ki] at Ko;rw [←k5,←Hk,←ki];have j8:=zh k5;have ko:Below w.heap.size w ((w.alloc (.cells #[.int .i64 op,.string text,.slice es0 en ec,.slice bs0 bn bc,.slice ls0 ln lc,.int .i64 pos] 134)).alloc (.cells #[.int .i64 0,.int .i64 0,.slice none 0 0] 35)):=ag (ag (Below.refl _ _) _) _;have kt:=zh (SAt.made w op pos text (.slice es0 en ec) (.slice bs0 bn bc) (.slice ls0 ln lc));have kc:=zh ko;have HU:=zh (eZ 1 _ (h.below ko) (by decide));have HH:=zh h;have KB:Hd (∀t r1,dy 1 r=.trap t r1→_):=zh (fun t r1 q=>sr (call:=aF y.F m) (σ:=σ) (op:=op) (pos:=pos) (text:=text) (es:=es) (body:=body) (els:=els) q);have HX:Hd (∀t r1 r2,dy 1 r=.ok () r1→bA (aF y.F m) σ es r1=.trap t r2→_):=zh (fun t r1 r2 q g=>sI (op:=op) (pos:=pos) (text:=text) (body:=body) (els:=els) q g);have HY:Hd (∀vs r1 r2,dy 1 r=.ok () r1→bA (aF y.F m) σ es r1=.ok vs r2→_):=zh (fun vs r1 r2 q g=>Bb (op:=op) (pos:=pos) (text:=text) (body:=body) (els:=els) q g);generalize bU (aF y.F m) (.mk op text es body els pos) σ r=o at *;rw [hp];clear hw Kk H1 HK h hc hn hse hi Hu ke Ht hp ko k5 Hk ki KL kk KM KK;go_enter Tryz.func86,Tryz.ntmps86
 go_wp2_with fail
 refine HU.o.mono ?_;intro e w1 hs;rcases hs.cases with ⟨_,r1,_,E,rfl,rfl,Hx,Hj⟩ | ⟨t,r1,k1,E,rfl,Hx,Hj⟩
 ·have HV:=zh E
  have HT:=zh Hx;have Hq:Hd (Ef y w w1):=zh (Ef.low kc.o Hj);have ks:=zh (kt.o.sf (HH.o.below kc.o) (HC.o.low kc.o) (Sf.of_ef Hj));have K9:=zh (HC.o.ef HH.o Hq.o);have Ka:=zh (ox es KX.o l σ r1 w1 (.slice es0 en ec) HT.o K9.o HN.o (Kp.o.keep (Hq.o.stays fun b hb=>KS.not (.inl hb) HH.o)) (by have:=HW.o.2.2.2.2.2;omega));rw [HP.o] at Ka;clear hs E Hx Hj HU kt;have kx:=ks.o.x;have kr:=ks.o.r;have B:=af kx;have C:=af kr;have x0:=aa kx (j:=0) (u:=.int .i64 op) rfl;have x1:=aa kx (j:=1) (u:=.string text) rfl;have x2:=aa kx (j:=2) (u:=.slice es0 en ec) rfl;have x3:=aa kx (j:=3) (u:=.slice bs0 bn bc) rfl;have x4:=aa kx (j:=4) (u:=.slice ls0 ln lc) rfl;have r0:=aa kr (j:=0) (u:=.int .i64 0) rfl;have r1':=aa kr (j:=1) (u:=.int .i64 0) rfl;have r2':=aa kr (j:=2) (u:=.slice none 0 0) rfl;have z0:=ae kr 0;have z1:=ae kr 1;have z2:=ae kr 2;clear kx kr;go_wp2_with fail
  refine Ka.o.mono ?_;intro e w2 hs;rcases hs.cases with ⟨vs,r2,va,E,rfl,⟨Kd,Ke⟩,Hw,ho⟩ | ⟨t,r2,k2,E,rfl,Hw,ho⟩
  ·have L:=zh (ks.o.sf HT.o K9.o (Sf.of_ef ho))
   have O:=zh Hw;have hg:Hd (Ef y w w2):=zh (Hq.o.trans ho);have c:=zh (K9.o.ef HT.o ho);have j6:=zh Kd;have Hc:=zh Ke;have H3:Hd (o=oc (aF y.F m) op text body els vs σ r2):=zh (HY.o vs r1 r2 HV.o E);obtain ⟨vcs,⟨sv,capv,rfl,_,_,_,hV,_⟩,Hs⟩:=Kd;have J:=zh hV;have Z:=zh Hs;clear hs E Ke Hw ho hV Hs HY HX KB Ka;clear x0 x1 x2 x3 x4 r0 r1' r2' z0 z1 z2 B C;by_cases h1:op=1
   ·subst h1
    have I:Hd (vs.length=1):=zh (by rw [Hc.o];exact HW.o.2.2.1 (by decide))
    have k:Hd (o=.ok (none,σ.set 0 (bZ (σ.getD 0 []) text (vs.getD 0 noV))) r2):=zh (by
      rw [H3.o,oc,if_neg (by decide),if_neg (by decide),fD,if_pos rfl,vC σ text _ (fun e=>HN.o (List.eq_nil_of_length_eq_zero (by rw [c.o.len,e];rfl)))];rfl)
    obtain ⟨gb,goff,hr,hf,hd,d⟩:=J.o (by rw [I.o];decide);subst hr;have hA:=Z.o 0 (by rw [I.o];decide);have A:=d 0 (by rw [I.o];decide);generalize vs.getD 0 noV=a at *;obtain ⟨pa,ca,H,ht⟩:=id hA.1
    have G:vcs 0=[.int .i64 a.ty,.int .i64 a.num,.slice pa a.text.length ca]:=by
     injection H with H
     have:=congrArg Array.toList H;simpa using this
    rw [G] at A;rw [H] at hA;have HA:=zh hA;have g0:w2.cell? ⟨gb,goff,none⟩=some (.int .i64 a.ty):=by simpa using A 0 (by decide)
    have g1:w2.cell? ⟨gb,goff+1,none⟩=some (.int .i64 a.num):=by simpa using A 1 (by decide)
    have g2:w2.cell? ⟨gb,goff+2,none⟩=some (.slice pa a.text.length ca):=by simpa using A 2 (by decide)
    have ha:vs.length=1:=I.o;rw [ha];have H4:Hd (0<l.length):=zh (Nat.pos_of_ne_zero fun e=>HN.o (List.eq_nil_of_length_eq_zero e));obtain ⟨hi,H0,mv,hj,hR⟩:=c.o.at H4.o;have Hf:=zh (yy H4.o)
    have KJ:p=some ⟨bxA l 0,0,none⟩:=by
     have q:=HP.o.symm.trans (lf (l:=l) (i:=0) H4.o);injection q
    subst KJ;have M:Below w2.heap.size w2 w2.drew:=aw (Below.refl _ _);have Hy:=fM (hj.below M) fI ji text (.agg #[.int .i64 a.ty,.int .i64 a.num,.slice pa a.text.length ca]);have hy:=zh (gj w2.drew (mpA l 0) text (.agg #[.int .i64 a.ty,.int .i64 a.num,.slice pa a.text.length ca]));have KU:=zh (jJ (hj.below M) text (.agg #[.int .i64 a.ty,.int .i64 a.num,.slice pa a.text.length ca]));have hx:=zh (ChAt.setAt (x:=text) (c.o.low M) H4.o (hj.below M) (VvAt.low HA.o.1 M) HA.o.2 hy.o KU.o (MvAt.imp (fun v x q=>VvAt.low q M) hR));have hC:Sf y l w2 (iB w2.drew (mpA l 0) text (.agg #[.int .i64 a.ty,.int .i64 a.num,.slice pa a.text.length ca])):=(Sf.of_below M).trans (OnS.of_on hy.o (.inr Hf.o));have hm:=zh (L.o.sf O.o c.o hC);have R:=zh ((O.o.below M).off hy.o H0 fun t q=>absurd q (hj.below M).noT);have T:Hd (Sf y l w _):=zh ((Sf.of_ef hg.o).trans hC);have KR:=zh hi;generalize σ.set 0 (bZ (σ.getD 0 []) text a)=σ3 at *;generalize bxA l 0=SB at *;generalize mpA l 0=MB at *;generalize eU (List.drop (0+1) l)=tp at *;generalize a.text.length=la at *;have sb1:=aa hi (j:=1) (u:=.map (some MB)) rfl;have hN:Hd (gb<w2.heap.size):=zh hd;clear hA A d H ht G hf hi hj hR H0 M hC hd;have kx:=L.o.x;have kr:=L.o.r;have B:=af kx;have C:=af kr;have x0:=aa kx (j:=0) (u:=.int .i64 1) rfl;have x1:=aa kx (j:=1) (u:=.string text) rfl;have x2:=aa kx (j:=2) (u:=.slice es0 en ec) rfl;have x3:=aa kx (j:=3) (u:=.slice bs0 bn bc) rfl;have x4:=aa kx (j:=4) (u:=.slice ls0 ln lc) rfl;have r0:=aa kr (j:=0) (u:=.int .i64 0) rfl;have r1':=aa kr (j:=1) (u:=.int .i64 0) rfl;have r2':=aa kr (j:=2) (u:=.slice none 0 0) rfl;have z0:=ae kr 0;have z1:=ae kr 1;have z2:=ae kr 2;clear kx kr;go_upto_region 5 with fail
    have P:Hd (w2.cell? ⟨w.heap.size,1,none⟩=some (.string text)∧w2.cell? ⟨SB,1,none⟩=some (.map (some MB))∧w2.cell? ⟨gb,goff,none⟩=some (.int .i64 a.ty)∧w2.cell? ⟨gb,goff+1,none⟩=some (.int .i64 a.num)∧w2.cell? ⟨gb,goff+2,none⟩=some (.slice pa la ca)):=zh ⟨x1,sb1,g0,g1,g2⟩;clear x0 x1 x2 x3 x4 r0 r1' r2' z0 z1 z2 B C;clear g0 g1 g2 sb1;refine ay (S:=fun W=>W.cell? ⟨w.heap.size,1,none⟩=some (.string text)∧W.cell? ⟨SB,1,none⟩=some (.map (some MB))∧W.cell? ⟨gb,goff,none⟩=some (.int .i64 a.ty)∧W.cell? ⟨gb,goff+1,none⟩=some (.int .i64 a.num)∧W.cell? ⟨gb,goff+2,none⟩=some (.slice pa la ca)) 9 (by kernel_rfl) (by kernel_rfl) (by (try dsimp only);exact P.o) (fun hH=>?_);simp only [List.take_succ_cons,List.take_zero,List.drop_succ_cons,List.drop_zero]
    refine tkA 0 ?_;refine tkA 1 ?_;refine tkA 2 ?_;refine tkA 3 ?_;refine tkA 4 ?_;refine tkA 5 ?_;refine tkA 6 ?_;refine tkA 7 ?_;refine tkA 8 ?_;refine wpAnyH_done (by kernel_rfl) ?_ _;dsimp only [aP];go_upto_region 36 with fail
    generalize (iB w2.drew MB text (.agg #[.int .i64 a.ty,.int .i64 a.num,.slice pa la ca]))=w3 at *;clear Hy;have kx:=hm.o.x;have kr:=hm.o.r;have B:=af kx;have C:=af kr;have x0:=aa kx (j:=0) (u:=.int .i64 1) rfl;have x1:=aa kx (j:=1) (u:=.string text) rfl;have x2:=aa kx (j:=2) (u:=.slice es0 en ec) rfl;have x3:=aa kx (j:=3) (u:=.slice bs0 bn bc) rfl;have x4:=aa kx (j:=4) (u:=.slice ls0 ln lc) rfl;have r0:=aa kr (j:=0) (u:=.int .i64 0) rfl;have r1':=aa kr (j:=1) (u:=.int .i64 0) rfl;have r2':=aa kr (j:=2) (u:=.slice none 0 0) rfl;have z0:=ae kr 0;have z1:=ae kr 1;have z2:=ae kr 2;clear kx kr;go_wp2_with fail
    obtain ⟨c0,c1',c2⟩:=bN hm.o.r (.int .i64 0) (.int .i64 (0)) (.slice none (0) (0));exact bodyPost_ret (v:=.tuple #[.agg #[.int .i64 0,.int .i64 (0),.slice none (0) (0)],.bool false]) (by simp [results,Tryz.results86,go_sem,c0,c1',c2]) rfl (eX (ov:=none) ⟨_,_,hm.o.r⟩ R.o hx.o T.o (Nat.le_succ _) hu.o (⟨VvAt.no,OkV.no⟩) (rfl) (k.o))
   by_cases h5:op=5
   ·subst h5
    have T:Hd (Sf y l w w2):=zh (Sf.of_ef hg.o)
    have k:Hd (o=.ok (some (vs.getD 0 noV),σ) r2):=zh (by
      rw [H3.o,oc,if_neg (by decide),if_neg (by decide),fD,if_neg (by decide),if_neg (by decide),if_pos rfl];rfl)
    by_cases HE:vs.length=0
    ·have hP:Hd (o=.ok (some noV,σ) r2):=zh (by rw [k.o,List.eq_nil_of_length_eq_zero HE];rfl)
     rw [HE];clear HE;have kx:=L.o.x;have kr:=L.o.r;have B:=af kx;have C:=af kr;have x0:=aa kx (j:=0) (u:=.int .i64 5) rfl;have x1:=aa kx (j:=1) (u:=.string text) rfl;have x2:=aa kx (j:=2) (u:=.slice es0 en ec) rfl;have x3:=aa kx (j:=3) (u:=.slice bs0 bn bc) rfl;have x4:=aa kx (j:=4) (u:=.slice ls0 ln lc) rfl;have r0:=aa kr (j:=0) (u:=.int .i64 0) rfl;have r1':=aa kr (j:=1) (u:=.int .i64 0) rfl;have r2':=aa kr (j:=2) (u:=.slice none 0 0) rfl;have z0:=ae kr 0;have z1:=ae kr 1;have z2:=ae kr 2;clear kx kr;go_wp2_with fail
     obtain ⟨c0,c1',c2⟩:=bN L.o.r (.int .i64 0) (.int .i64 (0)) (.slice none (0) (0));exact bodyPost_ret (v:=.tuple #[.agg #[.int .i64 0,.int .i64 (0),.slice none (0) (0)],.bool true]) (by simp [results,Tryz.results86,go_sem,c0,c1',c2]) rfl (eX (ov:=some noV) ⟨_,_,L.o.r⟩ O.o c.o T.o (Nat.le_succ _) hu.o (⟨VvAt.no,OkV.no⟩) (rfl) (hP.o))
    ·have I:Hd (vs.length=1):=zh (by have:=HW.o.2.2.2.2.1 rfl;rw [Hc.o] at HE ⊢;omega)
     clear HE;obtain ⟨gb,goff,hr,hf,hd,d⟩:=J.o (by rw [I.o];decide);subst hr;have hA:=Z.o 0 (by rw [I.o];decide);have A:=d 0 (by rw [I.o];decide);generalize vs.getD 0 noV=a at *;obtain ⟨pa,ca,H,ht⟩:=id hA.1
     have G:vcs 0=[.int .i64 a.ty,.int .i64 a.num,.slice pa a.text.length ca]:=by
      injection H with H
      have:=congrArg Array.toList H;simpa using this
     rw [G] at A;rw [H] at hA;have HA:=zh hA;have g0:w2.cell? ⟨gb,goff,none⟩=some (.int .i64 a.ty):=by simpa using A 0 (by decide)
     have g1:w2.cell? ⟨gb,goff+1,none⟩=some (.int .i64 a.num):=by simpa using A 1 (by decide)
     have g2:w2.cell? ⟨gb,goff+2,none⟩=some (.slice pa a.text.length ca):=by simpa using A 2 (by decide)
     have ha:vs.length=1:=I.o;rw [ha];generalize a.text.length=la at *;clear hA A d H ht G hf;have kx:=L.o.x;have kr:=L.o.r;have B:=af kx;have C:=af kr;have x0:=aa kx (j:=0) (u:=.int .i64 5) rfl;have x1:=aa kx (j:=1) (u:=.string text) rfl;have x2:=aa kx (j:=2) (u:=.slice es0 en ec) rfl;have x3:=aa kx (j:=3) (u:=.slice bs0 bn bc) rfl;have x4:=aa kx (j:=4) (u:=.slice ls0 ln lc) rfl;have r0:=aa kr (j:=0) (u:=.int .i64 0) rfl;have r1':=aa kr (j:=1) (u:=.int .i64 0) rfl;have r2':=aa kr (j:=2) (u:=.slice none 0 0) rfl;have z0:=ae kr 0;have z1:=ae kr 1;have z2:=ae kr 2;clear kx kr;go_wp2_with fail
     obtain ⟨c0,c1',c2⟩:=bN L.o.r (.int .i64 a.ty) (.int .i64 (a.num)) (.slice pa (la) (ca));exact bodyPost_ret (v:=.tuple #[.agg #[.int .i64 a.ty,.int .i64 (a.num),.slice pa (la) (ca)],.bool true]) (by simp [results,Tryz.results86,go_sem,c0,c1',c2]) rfl (eX (ov:=some a) ⟨_,_,L.o.r⟩ O.o c.o T.o (Nat.le_succ _) hu.o (HA.o) (rfl) (k.o))
   by_cases h2:op=2
   ·subst h2
    have I:Hd (vs.length=1):=zh (by rw [Hc.o];exact HW.o.2.2.1 (by decide))
    have k:Hd (o=.ok (none,σ.set (d8 σ text) (bZ (σ.getD (d8 σ text) []) text (vs.getD 0 noV))) r2):=zh (by
      rw [H3.o,oc,if_neg (by decide),if_neg (by decide),fD,if_neg (by decide),if_pos rfl,oT σ text _ (fun e=>HN.o (List.eq_nil_of_length_eq_zero (by rw [c.o.len,e];rfl)))];rfl)
    have h0:=zh (fun W (hW:Below w2.heap.size w2 W)=>yT y.D l σ text W (c.o.low hW) HN.o);rw [HP.o] at h0;generalize Kn:d8 σ text=ix at *;obtain ⟨gb,goff,hr,hf,hd,d⟩:=J.o (by rw [I.o];decide);subst hr;have hA:=Z.o 0 (by rw [I.o];decide);have A:=d 0 (by rw [I.o];decide);generalize vs.getD 0 noV=a at *;obtain ⟨pa,ca,H,ht⟩:=id hA.1
    have G:vcs 0=[.int .i64 a.ty,.int .i64 a.num,.slice pa a.text.length ca]:=by
     injection H with H
     have:=congrArg Array.toList H;simpa using this
    rw [G] at A;rw [H] at hA;have HA:=zh hA;have g0:w2.cell? ⟨gb,goff,none⟩=some (.int .i64 a.ty):=by simpa using A 0 (by decide)
    have g1:w2.cell? ⟨gb,goff+1,none⟩=some (.int .i64 a.num):=by simpa using A 1 (by decide)
    have g2:w2.cell? ⟨gb,goff+2,none⟩=some (.slice pa a.text.length ca):=by simpa using A 2 (by decide)
    have ha:vs.length=1:=I.o;rw [ha];have H4:Hd (ix<l.length):=zh (by rw [←Kn,c.o.len];exact lT text (fun e=>HN.o (List.eq_nil_of_length_eq_zero (by rw [c.o.len,e];rfl))));obtain ⟨hi,H0,mv,hj,hR⟩:=c.o.at H4.o;have Hf:=zh (yy H4.o);have Hg:=zh hj;have K7:=zh H0;have Ky:=zh hR;have hN:Hd (gb<w2.heap.size):=zh hd
    have kE:Hd (∀W v,Below w2.heap.size w2 W→v=Value.agg #[.int .i64 a.ty,.int .i64 a.num,.slice pa a.text.length ca]→ChAt y.D (iB W (mpA l ix) text v) l (σ.set ix (bZ (σ.getD ix []) text a))):=zh (fun W v M KG=>by
      subst KG;exact ChAt.setAt (x:=text) (c.o.low M) H4.o (hj.below M) (VvAt.low HA.o.1 M) HA.o.2 (gj ..) (jJ (hj.below M) text _) (MvAt.imp (fun v x q=>VvAt.low q M) hR))
    generalize σ.set ix (bZ (σ.getD ix []) text a)=σ3 at *;generalize σ.getD ix []=m0 at *;generalize bxA l ix=SB at *;generalize mpA l ix=MB at *;generalize eU (List.drop (ix+1) l)=tp at *;generalize a.text.length=la at *;have sb1:=aa hi (j:=1) (u:=.map (some MB)) rfl;clear hA A d H ht G hf hi hj hR H0 hd Kn;have kx:=L.o.x;have kr:=L.o.r;have B:=af kx;have C:=af kr;have x0:=aa kx (j:=0) (u:=.int .i64 2) rfl;have x1:=aa kx (j:=1) (u:=.string text) rfl;have x2:=aa kx (j:=2) (u:=.slice es0 en ec) rfl;have x3:=aa kx (j:=3) (u:=.slice bs0 bn bc) rfl;have x4:=aa kx (j:=4) (u:=.slice ls0 ln lc) rfl;have r0:=aa kr (j:=0) (u:=.int .i64 0) rfl;have r1':=aa kr (j:=1) (u:=.int .i64 0) rfl;have r2':=aa kr (j:=2) (u:=.slice none 0 0) rfl;have z0:=ae kr 0;have z1:=ae kr 1;have z2:=ae kr 2;clear kx kr;go_upto_region 7 with fail
    have P:Hd (w2.cell? ⟨w.heap.size,1,none⟩=some (.string text)∧w2.cell? ⟨SB,1,none⟩=some (.map (some MB))∧w2.cell? ⟨gb,goff,none⟩=some (.int .i64 a.ty)∧w2.cell? ⟨gb,goff+1,none⟩=some (.int .i64 a.num)∧w2.cell? ⟨gb,goff+2,none⟩=some (.slice pa la ca)):=zh ⟨x1,sb1,g0,g1,g2⟩;have HM:Hd (w.heap.size<w2.heap.size):=zh B;clear x0 x1 x2 x3 x4 r0 r1' r2' z0 z1 z2 B C;clear g0 g1 g2 sb1;refine ay (S:=fun W=>W.cell? ⟨w.heap.size,1,none⟩=some (.string text)∧W.cell? ⟨SB,1,none⟩=some (.map (some MB))∧W.cell? ⟨gb,goff,none⟩=some (.int .i64 a.ty)∧W.cell? ⟨gb,goff+1,none⟩=some (.int .i64 a.num)∧W.cell? ⟨gb,goff+2,none⟩=some (.slice pa la ca)) 12 (by kernel_rfl) (by kernel_rfl) (by (try dsimp only);exact P.o) (fun hH=>?_);simp only [List.take_succ_cons,List.take_zero,List.drop_succ_cons,List.drop_zero]
    refine tkA 0 ?_;refine tkA 1 ?_;refine tkA 2 ?_;refine tkA 7 ?_;refine tkA 8 ?_;refine tkA 9 ?_;refine tkA 10 ?_;refine tkA 11 ?_;refine rd1 3 fun K hK=>?_;go_simp;go_at_call 107
    refine (h0.o _ (aw (Below.refl _ _))).mono ?_;rintro e w3 ⟨rfl,H2⟩;have hz:Hd (Below w2.heap.size w2 w3):=zh (am (aw (Below.refl _ _)) H2);clear H2;refine hK.out _ _ ?_ (fun hH=>?_)
    ·(try dsimp only);exact ⟨(hz.o.cell (p:=⟨w.heap.size,_,none⟩) HM.o).trans P.o.1,(hz.o.cell (p:=⟨SB,_,none⟩) (az P.o.2.1)).trans P.o.2.1,(hz.o.cell (p:=⟨gb,_,none⟩) hN.o).trans P.o.2.2.1,(hz.o.cell (p:=⟨gb,_,none⟩) hN.o).trans P.o.2.2.2.1,(hz.o.cell (p:=⟨gb,_,none⟩) hN.o).trans P.o.2.2.2.2⟩
    clear hK K;try go_simp
    refine tkA 4 ?_;refine tkA 5 ?_;refine tkA 6 ?_;refine wpAnyH_done (by kernel_rfl) ?_ _;dsimp only [aP];have Hy:=fM (Hg.o.below hz.o) fI ji text (.agg #[.int .i64 a.ty,.int .i64 a.num,.slice pa la ca]);have hy:=zh (gj w3 MB text (.agg #[.int .i64 a.ty,.int .i64 a.num,.slice pa la ca]));have hv:=zh (kE.o w3 _ hz.o rfl);have hC:Sf y l w2 (iB w3 MB text (.agg #[.int .i64 a.ty,.int .i64 a.num,.slice pa la ca])):=(Sf.of_below hz.o).trans (OnS.of_on hy.o (.inr Hf.o));have N:=zh (L.o.sf O.o c.o hC);have f:=zh ((O.o.below hz.o).off hy.o K7.o fun t q=>absurd q (Hg.o.below hz.o).noT);have hk:Hd (Sf y l w _):=zh ((Sf.of_ef hg.o).trans hC);clear hC hH;go_upto_region 36 with fail
    generalize (iB w3 MB text (.agg #[.int .i64 a.ty,.int .i64 a.num,.slice pa la ca]))=w4 at *;clear Hy;have kx:=N.o.x;have kr:=N.o.r;have B:=af kx;have C:=af kr;have x0:=aa kx (j:=0) (u:=.int .i64 2) rfl;have x1:=aa kx (j:=1) (u:=.string text) rfl;have x2:=aa kx (j:=2) (u:=.slice es0 en ec) rfl;have x3:=aa kx (j:=3) (u:=.slice bs0 bn bc) rfl;have x4:=aa kx (j:=4) (u:=.slice ls0 ln lc) rfl;have r0:=aa kr (j:=0) (u:=.int .i64 0) rfl;have r1':=aa kr (j:=1) (u:=.int .i64 0) rfl;have r2':=aa kr (j:=2) (u:=.slice none 0 0) rfl;have z0:=ae kr 0;have z1:=ae kr 1;have z2:=ae kr 2;clear kx kr;go_wp2_with fail
    obtain ⟨c0,c1',c2⟩:=bN N.o.r (.int .i64 0) (.int .i64 (0)) (.slice none (0) (0));exact bodyPost_ret (v:=.tuple #[.agg #[.int .i64 0,.int .i64 (0),.slice none (0) (0)],.bool false]) (by simp [results,Tryz.results86,go_sem,c0,c1',c2]) rfl (eX (ov:=none) ⟨_,_,N.o.r⟩ f.o hv.o hk.o (Nat.le_succ _) hu.o (⟨VvAt.no,OkV.no⟩) (rfl) (k.o))
   by_cases h7:op=7
   ·subst h7
    have I:Hd (vs.length=1):=zh (by rw [Hc.o];exact HW.o.2.2.1 (by decide))
    have k:Hd (o=((dy 4).then fun _=>(uN (vs.getD 0 noV).text).then fun _=>okM ((none:Option Vv),σ)) r2):=zh (by
      rw [H3.o,oc,if_neg (by decide),if_neg (by decide),fD,if_neg (by decide),if_neg (by decide),if_neg (by decide),if_neg (by decide),if_pos rfl])
    obtain ⟨gb,goff,hr,hf,hd,d⟩:=J.o (by rw [I.o];decide);subst hr;have hA:=Z.o 0 (by rw [I.o];decide);have A:=d 0 (by rw [I.o];decide);generalize vs.getD 0 noV=a at *;obtain ⟨pa,ca,H,ht⟩:=id hA.1
    have G:vcs 0=[.int .i64 a.ty,.int .i64 a.num,.slice pa a.text.length ca]:=by
     injection H with H
     have:=congrArg Array.toList H;simpa using this
    rw [G] at A;rw [H] at hA;have HA:=zh hA;have g0:w2.cell? ⟨gb,goff,none⟩=some (.int .i64 a.ty):=by simpa using A 0 (by decide)
    have g1:w2.cell? ⟨gb,goff+1,none⟩=some (.int .i64 a.num):=by simpa using A 1 (by decide)
    have g2:w2.cell? ⟨gb,goff+2,none⟩=some (.slice pa a.text.length ca):=by simpa using A 2 (by decide)
    have ha:vs.length=1:=I.o;rw [ha];have Ho:=zh hf;have hN:Hd (gb<w2.heap.size):=zh hd;have Hp:=zh g2;have HR:=zh (eZ 4 w2 O.o (by decide));clear hA A d H ht G hf hd ha;have kx:=L.o.x;have kr:=L.o.r;have B:=af kx;have C:=af kr;have x0:=aa kx (j:=0) (u:=.int .i64 7) rfl;have x1:=aa kx (j:=1) (u:=.string text) rfl;have x2:=aa kx (j:=2) (u:=.slice es0 en ec) rfl;have x3:=aa kx (j:=3) (u:=.slice bs0 bn bc) rfl;have x4:=aa kx (j:=4) (u:=.slice ls0 ln lc) rfl;have r0:=aa kr (j:=0) (u:=.int .i64 0) rfl;have r1':=aa kr (j:=1) (u:=.int .i64 0) rfl;have r2':=aa kr (j:=2) (u:=.slice none 0 0) rfl;have z0:=ae kr 0;have z1:=ae kr 1;have z2:=ae kr 2;clear kx kr;go_wp2_with fail
    refine HR.o.mono ?_;intro e w3 hs;rcases hs.cases with ⟨_,r3,_,E,rfl,rfl,U,ho⟩ | ⟨t,r3,k3,E,rfl,U,ho⟩
    ·obtain ⟨HJ,HD,Hz⟩:=O.o.room U E (by decide)
     have Hm:=zh (ho.stays fun b hb=>VB.not hb O.o);have Kb:=zh (HA.o.ef O.o ho);have h8:Hd (o=((uN a.text).then fun _=>okM ((none:Option Vv),σ)) r3):=zh (k.o.trans (cT E));have T:Hd (Ef y w w3):=zh (hg.o.trans ho);have hm:=zh (L.o.sf O.o c.o (Sf.of_ef ho));have hx:=zh (c.o.ef O.o ho);have R:=zh U;have M:Below w3.heap.size w3 w3.drew:=aw (Below.refl _ _);obtain ⟨pk,ck,HZ,Kh⟩:=id Kb.o.1
     have hG:TxtAt (KS y.D w3) w3 (.slice pa a.text.length ca) a.text:=by
      injection HZ with HZ
      have:=congrArg Array.toList HZ;have e:Value.slice pa a.text.length ca=Value.slice pk a.text.length ck:=by simpa using this
      rw [e];exact Kh
     have KV:=zh (xY w3.drew (HJ.below M) (hG.below M) (Nat.le_trans U.low.2.2.2.1 M.size) Hz);obtain ⟨rs3,rn3,rc3,hD,_⟩:=U.box;have q1:=aa hD (j:=1) (u:=.pointer (some ⟨y.JB,0,none⟩)) rfl;have g2':w3.cell? ⟨gb,goff+2,none⟩=some (.slice pa a.text.length ca):=(Hm.o.cell Ho.o hN.o _).trans Hp.o;have P:Hd (w3.cell? ⟨y.RB,1,none⟩=some (.pointer (some ⟨y.JB,0,none⟩))∧w3.cell? ⟨gb,goff+2,none⟩=some (.slice pa a.text.length ca)):=zh ⟨q1,g2'⟩;have kb:=zh HD;have Hr:=zh M;clear hs E U ho HJ HD Hz HZ Kh hG hD q1 g2' M g0 g1 g2;clear x0 x1 x2 x3 x4 r0 r1' r2' z0 z1 z2 B C;go_upto_region 35 with fail
     refine ay (S:=fun W=>W.cell? ⟨y.RB,1,none⟩=some (.pointer (some ⟨y.JB,0,none⟩))∧W.cell? ⟨gb,goff+2,none⟩=some (.slice pa a.text.length ca)) 8 (by kernel_rfl) (by kernel_rfl) (by (try dsimp only);exact P.o) (fun hH=>?_);simp only [List.take_succ_cons,List.take_zero,List.drop_succ_cons,List.drop_zero]
     refine tkA 0 ?_;refine tkA 1 ?_;refine tkA 2 ?_;refine tkA 3 ?_;refine tkA 4 ?_;refine tkA 5 ?_;refine tkA 6 ?_;refine tkA 7 ?_;refine wpAnyH_done (by kernel_rfl) ?_ _;dsimp only [aP];go_wp2_with fail
     refine KV.o.mono ?_;rintro e w4 ⟨rfl,hU,Q⟩;have hl:Hd (Ef y w3 w4):=zh ((Ef.of_below Hr.o).trans (Q.mono fun _ q=>.inr q));have f:Hd (RunAt y w4 { r3 with pairs:=eo r3.pairs a.text,undo:=r3.undo++[r3.pairs] } (kC m)):=zh ((R.o.below Hr.o).jset Q (hU.mono kb.o) rfl rfl);have N:=zh (hm.o.sf R.o hx.o (Sf.of_ef hl.o));have hv:=zh (hx.o.ef R.o hl.o);have hk:Hd (Sf y l w w4):=zh (Sf.of_ef (T.o.trans hl.o))
     have h0:Hd (o=.ok (none,σ) { r3 with pairs:=eo r3.pairs a.text,undo:=r3.undo++[r3.pairs] }):=zh (by
       rw [h8.o,cT (show uN a.text r3=.ok () _ from rfl)];rfl)
     clear hU Q hH;have kx:=N.o.x;have kr:=N.o.r;have B:=af kx;have C:=af kr;have x0:=aa kx (j:=0) (u:=.int .i64 7) rfl;have x1:=aa kx (j:=1) (u:=.string text) rfl;have x2:=aa kx (j:=2) (u:=.slice es0 en ec) rfl;have x3:=aa kx (j:=3) (u:=.slice bs0 bn bc) rfl;have x4:=aa kx (j:=4) (u:=.slice ls0 ln lc) rfl;have r0:=aa kr (j:=0) (u:=.int .i64 0) rfl;have r1':=aa kr (j:=1) (u:=.int .i64 0) rfl;have r2':=aa kr (j:=2) (u:=.slice none 0 0) rfl;have z0:=ae kr 0;have z1:=ae kr 1;have z2:=ae kr 2;clear kx kr;go_wp2_with fail
     obtain ⟨c0,c1',c2⟩:=bN N.o.r (.int .i64 0) (.int .i64 (0)) (.slice none (0) (0));exact bodyPost_ret (v:=.tuple #[.agg #[.int .i64 0,.int .i64 (0),.slice none (0) (0)],.bool false]) (by simp [results,Tryz.results86,go_sem,c0,c1',c2]) rfl (eX (ov:=none) ⟨_,_,N.o.r⟩ f.o hv.o hk.o (Nat.le_succ _) hu.o (⟨VvAt.no,OkV.no⟩) (rfl) (h0.o))
    ·have h8:Hd (o=.trap t r3):=zh (k.o.trans (bQ E))
     have R:=zh U;have T:Hd (Sf y l w w3):=zh (Sf.of_ef (hg.o.trans ho));clear hs E U ho;unfold Trp;go_wp2_with fail
     refine ⟨rfl,?_⟩;rw [h8.o];exact ⟨⟨rfl,k3,R.o⟩,T.o⟩
   by_cases h6:op=6
   ·subst h6
    have I:Hd (vs.length=2):=zh (by rw [Hc.o];exact HW.o.2.2.2.1 (by decide))
    have k:Hd (o=((dy (eF (vs.getD 0 noV).text.length (vs.getD 1 noV).text.length)).then fun _=>(iO (vs.getD 0 noV).text (vs.getD 1 noV).text).then fun _=>okM ((none:Option Vv),σ)) r2):=zh (by
      rw [H3.o,oc,if_neg (by decide),if_neg (by decide),fD,if_neg (by decide),if_neg (by decide),if_neg (by decide),if_pos rfl])
    have Y:=J;obtain ⟨gb,goff,hr,hf,hd,d⟩:=J.o (by rw [I.o];decide);subst hr;have hA:=Z.o 0 (by rw [I.o];decide);have A:=d 0 (by rw [I.o];decide);generalize vs.getD 0 noV=a at *;obtain ⟨pa,ca,H,ht⟩:=id hA.1
    have G:vcs 0=[.int .i64 a.ty,.int .i64 a.num,.slice pa a.text.length ca]:=by
     injection H with H
     have:=congrArg Array.toList H;simpa using this
    rw [G] at A;rw [H] at hA;have HA:=zh hA;have g0:w2.cell? ⟨gb,goff,none⟩=some (.int .i64 a.ty):=by simpa using A 0 (by decide)
    have g1:w2.cell? ⟨gb,goff+1,none⟩=some (.int .i64 a.num):=by simpa using A 1 (by decide)
    have g2:w2.cell? ⟨gb,goff+2,none⟩=some (.slice pa a.text.length ca):=by simpa using A 2 (by decide)
    have ha:vs.length=2:=I.o;rw [ha];obtain ⟨gb',goff',hh,H8,_,hI⟩:=Y.o (by rw [I.o];decide);injection hh with hh
    injection hh with hgb' hgo'
    subst hgb' hgo';have hB:=Z.o 1 (by rw [I.o];decide);have V:=hI 1 (by rw [I.o];decide);generalize vs.getD 1 noV=b at *;obtain ⟨pb,cb',hM,kn⟩:=id hB.1
    have hL:vcs 1=[.int .i64 b.ty,.int .i64 b.num,.slice pb b.text.length cb']:=by
     injection hM with hM
     have:=congrArg Array.toList hM;simpa using this
    rw [hL] at V;rw [hM] at hB;have HB:=zh hB;have g3:w2.cell? ⟨gb,goff+3,none⟩=some (.int .i64 b.ty):=by simpa using V 0 (by decide)
    have g4:w2.cell? ⟨gb,goff+4,none⟩=some (.int .i64 b.num):=by simpa using V 1 (by decide)
    have g5:w2.cell? ⟨gb,goff+5,none⟩=some (.slice pb b.text.length cb'):=by simpa using V 2 (by decide)
    clear hB V hM kn hL H8 hI;have Ho:=zh hf;have hN:Hd (gb<w2.heap.size):=zh hd;have Hp:=zh (And.intro g2 g5);have Kg:a.text.length≤256:=HA.o.2.text;have Kf:b.text.length≤256:=HB.o.2.text;have Ku:=zh (AC Kg Kf);have KW:=zh (Cr a.text.length b.text.length);have KQ:=zh (fun W (hW:Below w2.heap.size w2 W)=>eZ (eF a.text.length b.text.length) W (O.o.below hW) Ku.o.2);have Kt:=zh (fun W=>AG a.text.length b.text.length W (by omega) (by omega));rw [KW.o] at Kt;generalize eF a.text.length b.text.length=pg at *;clear hA A d H ht G hf hd ha Kg Kf J Y Z;have kx:=L.o.x;have kr:=L.o.r;have B:=af kx;have C:=af kr;have x0:=aa kx (j:=0) (u:=.int .i64 6) rfl;have x1:=aa kx (j:=1) (u:=.string text) rfl;have x2:=aa kx (j:=2) (u:=.slice es0 en ec) rfl;have x3:=aa kx (j:=3) (u:=.slice bs0 bn bc) rfl;have x4:=aa kx (j:=4) (u:=.slice ls0 ln lc) rfl;have r0:=aa kr (j:=0) (u:=.int .i64 0) rfl;have r1':=aa kr (j:=1) (u:=.int .i64 0) rfl;have r2':=aa kr (j:=2) (u:=.slice none 0 0) rfl;have z0:=ae kr 0;have z1:=ae kr 1;have z2:=ae kr 2;clear kx kr;go_upto_region 27 with fail
    clear x0 x1 x2 x3 x4 r0 r1' r2' z0 z1 z2 B C;clear g0 g1 g2 g3 g4 g5;refine ay (S:=fun W=>W.cell? ⟨gb,goff+2,none⟩=some (.slice pa a.text.length ca)∧W.cell? ⟨gb,goff+5,none⟩=some (.slice pb b.text.length cb')) 12 (by kernel_rfl) (by kernel_rfl) (by (try dsimp only);exact Hp.o) (fun hH=>?_);simp only [List.take_succ_cons,List.take_zero,List.drop_succ_cons,List.drop_zero]
    refine tkA 0 ?_;refine tkA 1 ?_;refine tkA 2 ?_;refine tkA 3 ?_;refine tkA 4 ?_;refine tkA 5 ?_;refine tkA 6 ?_;refine tkA 7 ?_;refine tkA 8 ?_;refine tkA 9 ?_;refine tkA 10 ?_;refine rd1 11 fun K hK=>?_;go_simp;go_at_call 109
    refine (Kt.o _).mono ?_;rintro e wq ⟨rfl,rfl⟩;refine hK.out _ _ ?_ (fun hH=>?_)
    ·(try dsimp only);exact Hp.o
    clear hK K;try go_simp
    refine wpAnyH_done (by kernel_rfl) ?_ _;dsimp only [aP];have k6:Below w2.heap.size w2 w2.drew:=aw (Below.refl _ _);have HR:=zh (KQ.o _ k6);have K2:=zh (O.o.below k6);have KE:=zh k6;clear k6 hH;go_wp2_with fail
    refine HR.o.mono ?_;intro e w3 hs;rcases hs.cases with ⟨_,r3,_,E,rfl,rfl,U,ho⟩ | ⟨t,r3,k3,E,rfl,U,ho⟩
    ·obtain ⟨HJ,HD,Hz⟩:=K2.o.room U E Ku.o.1
     have H7:Ef y w2 w3:=(Ef.of_below KE.o).trans ho;have Hm:=zh (H7.stays fun b hb=>VB.not hb O.o);have Kb:=zh (HA.o.ef O.o H7);have hz:=zh (HB.o.ef O.o H7);have h8:Hd (o=((iO a.text b.text).then fun _=>okM ((none:Option Vv),σ)) r3):=zh (k.o.trans (cT E));have T:Hd (Ef y w w3):=zh (hg.o.trans H7);have hm:=zh (L.o.sf O.o c.o (Sf.of_ef H7));have hx:=zh (c.o.ef O.o H7);have R:=zh U;have M:Below w3.heap.size w3 w3.drew:=aw (Below.refl _ _);obtain ⟨pk1,ck1,hT,HF⟩:=id Kb.o.1
     have Kj:TxtAt (KS y.D w3) w3 (.slice pa a.text.length ca) a.text:=by
      injection hT with hT
      have:=congrArg Array.toList hT;have e:Value.slice pa a.text.length ca=Value.slice pk1 a.text.length ck1:=by simpa using this
      rw [e];exact HF
     obtain ⟨pk2,ck2,hS,hG⟩:=id hz.o.1
     have Ki:TxtAt (KS y.D w3) w3 (.slice pb b.text.length cb') b.text:=by
      injection hS with hS
      have:=congrArg Array.toList hS;have e:Value.slice pb b.text.length cb'=Value.slice pk2 b.text.length ck2:=by simpa using this
      rw [e];exact hG
     obtain ⟨po,hF⟩:∃q,fw r3.pairs a.text b.text=q:=⟨_,rfl⟩
     have Kz:=zh (yj w3.drew (HJ.below M) (Kj.below M) (Ki.below M) (Nat.le_trans HA.o.2.text (by decide)) (Nat.le_trans HB.o.2.text (by decide)) (Nat.le_trans U.low.2.2.2.1 M.size) Hz);rw [show fw r3.jo.pairs a.text b.text=po from hF] at Kz;have hy:=zh hF;obtain ⟨rs3,rn3,rc3,hD,_⟩:=U.box;have q1:=aa hD (j:=1) (u:=.pointer (some ⟨y.JB,0,none⟩)) rfl;have P:Hd (w3.cell? ⟨y.RB,1,none⟩=some (.pointer (some ⟨y.JB,0,none⟩))∧w3.cell? ⟨gb,goff+2,none⟩=some (.slice pa a.text.length ca)∧w3.cell? ⟨gb,goff+5,none⟩=some (.slice pb b.text.length cb')):=zh ⟨q1,(Hm.o.cell Ho.o hN.o _).trans Hp.o.1,(Hm.o.cell Ho.o hN.o _).trans Hp.o.2⟩;have kb:=zh HD;have Hr:=zh M;clear hs E U ho H7 HJ HD Hz hT HF Kj hS hG Ki hD q1 M hF;go_upto_region 28 with fail
     refine ay (S:=fun W=>W.cell? ⟨y.RB,1,none⟩=some (.pointer (some ⟨y.JB,0,none⟩))∧W.cell? ⟨gb,goff+2,none⟩=some (.slice pa a.text.length ca)∧W.cell? ⟨gb,goff+5,none⟩=some (.slice pb b.text.length cb')) 12 (by kernel_rfl) (by kernel_rfl) (by (try dsimp only);exact P.o) (fun hH=>?_);simp only [List.take_succ_cons,List.take_zero,List.drop_succ_cons,List.drop_zero]
     refine tkA 0 ?_;refine tkA 1 ?_;refine tkA 2 ?_;refine tkA 3 ?_;refine tkA 4 ?_;refine tkA 5 ?_;refine tkA 6 ?_;refine tkA 7 ?_;refine tkA 8 ?_;refine tkA 9 ?_;refine tkA 10 ?_;refine tkA 11 ?_;refine wpAnyH_done (by kernel_rfl) ?_ _;dsimp only [aP];go_wp2_with fail
     refine Kz.o.mono ?_;intro e w4 k0;have hF:=hy.o;obtain ⟨k0,Q⟩:=k0;have hl:Hd (Ef y w3 w4):=zh ((Ef.of_below Hr.o).trans (Q.mono fun _ q=>.inr q));have N:=zh (hm.o.sf R.o hx.o (Sf.of_ef hl.o));have hv:=zh (hx.o.ef R.o hl.o);have hk:Hd (Sf y l w w4):=zh (Sf.of_ef (T.o.trans hl.o))
     cases po with
     | error er =>
      obtain ⟨rfl,hU⟩:=k0;have f:Hd (RunAt y w4 r3 (kC m)):=zh ((R.o.below Hr.o).jset Q (hU.mono (Nat.le_trans (Nat.le_succ _) kb.o)) rfl rfl);clear hH;rcases ye hF with rfl | rfl
      ·have K3:Hd (o=.trap 6 r3):=zh (by rw [h8.o,bQ (show iO a.text b.text r3=.trap 6 r3 by unfold iO;rw [hF];rfl)])
       clear hF hU Q;go_wp2_with fail
       refine ⟨rfl,?_⟩;rw [K3.o];exact ⟨⟨rfl,_,f.o⟩,hk.o⟩
      ·have K3:Hd (o=.trap 5 r3):=zh (by rw [h8.o,bQ (show iO a.text b.text r3=.trap 5 r3 by unfold iO;rw [hF];rfl)])
       clear hF hU Q;go_wp2_with fail
       refine ⟨rfl,?_⟩;rw [K3.o];exact ⟨⟨rfl,_,f.o⟩,hk.o⟩
     | ok pl =>
      obtain ⟨rfl,hU⟩:=k0;have f:Hd (RunAt y w4 { r3 with pairs:=pl,undo:=r3.undo++[r3.pairs] } (kC m)):=zh ((R.o.below Hr.o).jset Q (hU.mono kb.o) rfl rfl)
      have h0:Hd (o=.ok (none,σ) { r3 with pairs:=pl,undo:=r3.undo++[r3.pairs] }):=zh (by
        rw [h8.o,cT (show iO a.text b.text r3=.ok () { r3 with pairs:=pl,undo:=r3.undo++[r3.pairs] } by unfold iO;rw [hF];rfl)];rfl)
      clear hU Q hH hF;have kx:=N.o.x;have kr:=N.o.r;have B:=af kx;have C:=af kr;have x0:=aa kx (j:=0) (u:=.int .i64 6) rfl;have x1:=aa kx (j:=1) (u:=.string text) rfl;have x2:=aa kx (j:=2) (u:=.slice es0 en ec) rfl;have x3:=aa kx (j:=3) (u:=.slice bs0 bn bc) rfl;have x4:=aa kx (j:=4) (u:=.slice ls0 ln lc) rfl;have r0:=aa kr (j:=0) (u:=.int .i64 0) rfl;have r1':=aa kr (j:=1) (u:=.int .i64 0) rfl;have r2':=aa kr (j:=2) (u:=.slice none 0 0) rfl;have z0:=ae kr 0;have z1:=ae kr 1;have z2:=ae kr 2;clear kx kr;go_wp2_with fail
      obtain ⟨c0,c1',c2⟩:=bN N.o.r (.int .i64 0) (.int .i64 (0)) (.slice none (0) (0));exact bodyPost_ret (v:=.tuple #[.agg #[.int .i64 0,.int .i64 (0),.slice none (0) (0)],.bool false]) (by simp [results,Tryz.results86,go_sem,c0,c1',c2]) rfl (eX (ov:=none) ⟨_,_,N.o.r⟩ f.o hv.o hk.o (Nat.le_succ _) hu.o (⟨VvAt.no,OkV.no⟩) (rfl) (h0.o))
    ·have h8:Hd (o=.trap t r3):=zh (k.o.trans (bQ E))
     have R:=zh U;have T:Hd (Sf y l w w3):=zh (Sf.of_ef (hg.o.trans ((Ef.of_below KE.o).trans ho)));clear hs E U ho;unfold Trp;go_wp2_with fail
     refine ⟨rfl,?_⟩;rw [h8.o];exact ⟨⟨rfl,k3,R.o⟩,T.o⟩
   by_cases h3:op=3
   ·subst h3
    have I:Hd (vs.length=1):=zh (by rw [Hc.o];exact HW.o.2.2.1 (by decide))
    have k:Hd (o=(if (vs.getD 0 noV).num=1 then inM [] (aG (aF y.F m) body) σ else inM [] (aG (aF y.F m) els) σ) r2):=zh (by
      rw [H3.o,oc,if_pos rfl])
    have Hl:=zh (fun W (hW:Below w2.heap.size w2 W)=>jZ y.D l σ W (c.o.low hW) (Nat.le_trans hu.o (Nat.le_trans hg.o.size hW.size)));rw [HP.o] at Hl;obtain ⟨gb,goff,hr,hf,hd,d⟩:=J.o (by rw [I.o];decide);subst hr;have hA:=Z.o 0 (by rw [I.o];decide);have A:=d 0 (by rw [I.o];decide);generalize vs.getD 0 noV=a at *;obtain ⟨pa,ca,H,ht⟩:=id hA.1
    have G:vcs 0=[.int .i64 a.ty,.int .i64 a.num,.slice pa a.text.length ca]:=by
     injection H with H
     have:=congrArg Array.toList H;simpa using this
    rw [G] at A;rw [H] at hA;have HA:=zh hA;have g0:w2.cell? ⟨gb,goff,none⟩=some (.int .i64 a.ty):=by simpa using A 0 (by decide)
    have g1:w2.cell? ⟨gb,goff+1,none⟩=some (.int .i64 a.num):=by simpa using A 1 (by decide)
    have g2:w2.cell? ⟨gb,goff+2,none⟩=some (.slice pa a.text.length ca):=by simpa using A 2 (by decide)
    have ha:vs.length=1:=I.o;rw [ha];clear hA A d H ht G hf;by_cases hq:a.num=1
    ·have hP:Hd (o=inM [] (aG (aF y.F m) body) σ r2):=zh (by rw [k.o,if_pos hq])
     have KI:(a.num==1)=true:=beq_iff_eq.2 hq;have kx:=L.o.x;have kr:=L.o.r;have B:=af kx;have C:=af kr;have x0:=aa kx (j:=0) (u:=.int .i64 3) rfl;have x1:=aa kx (j:=1) (u:=.string text) rfl;have x2:=aa kx (j:=2) (u:=.slice es0 en ec) rfl;have x3:=aa kx (j:=3) (u:=.slice bs0 bn bc) rfl;have x4:=aa kx (j:=4) (u:=.slice ls0 ln lc) rfl;have r0:=aa kr (j:=0) (u:=.int .i64 0) rfl;have r1':=aa kr (j:=1) (u:=.int .i64 0) rfl;have r2':=aa kr (j:=2) (u:=.slice none 0 0) rfl;have z0:=ae kr 0;have z1:=ae kr 1;have z2:=ae kr 2;clear kx kr;go_upto_region 10 with fail
     have P:Hd (w2.cell? ⟨w.heap.size,3,none⟩=some (.slice bs0 bn bc)):=zh x3;have HM:Hd (w.heap.size<w2.heap.size):=zh B;clear x0 x1 x2 x3 x4 r0 r1' r2' z0 z1 z2 B C;clear g0 g1 g2;refine ay (S:=fun W=>W.cell? ⟨w.heap.size,3,none⟩=some (.slice bs0 bn bc)) 8 (by kernel_rfl) (by kernel_rfl) (by (try dsimp only);exact P.o) (fun hH=>?_);simp only [List.take_succ_cons,List.take_zero,List.drop_succ_cons,List.drop_zero]
     refine tkA 0 ?_;refine tkA 1 ?_;refine tkA 3 ?_;refine tkA 4 ?_;refine rd1 2 fun K hK=>?_;go_simp;go_at_call 56
     refine (Hl.o _ (aw (Below.refl _ _))).mono ?_;rintro e w3 ⟨⟨B1,B2⟩,he,hO,⟨_,hX⟩,H2⟩;obtain rfl:e=.returned (.pointer (some ⟨B1,0,none⟩)):=he;have X:Below w2.heap.size w2 w3:=am (aw (Below.refl _ _)) H2;have T:Hd (Sf y l w w3):=zh ((Sf.of_ef hg.o).trans (Sf.of_below X));have hm:=zh (L.o.low X);have R:=zh (O.o.below X);have hx:=zh hO;have z:Hd (w.heap.size≤B2):=zh (Nat.le_trans hg.o.size (Nat.le_trans (aw (Below.refl w2.heap.size w2)).size hX));have h9:=zh (H5.o ((B1,B2) :: l) ([] :: σ) r2 w3 _ R.o hO (List.cons_ne_nil _ _) (kP.o.keep (fL HH.o HC.o T.o)));have He:Hd (w3.cell? ⟨w.heap.size,3,none⟩=some (.slice bs0 bn bc)):=zh ((X.cell (p:=⟨w.heap.size,_,none⟩) HM.o).trans P.o);clear hO hX H2 X;refine hK.out _ _ ?_ (fun hH=>?_)
     ·(try dsimp only);exact He.o
     clear hK K;try go_simp
     refine rd1 5 fun K hK=>?_;go_simp;go_at_call 57
     refine h9.o.mono ?_;intro e w4 hs;rcases hs.cases with ⟨⟨ov,σ4⟩,r4,va,E,rfl,⟨v4,rfl,H6,H9⟩,hE,Q⟩ | ⟨t,r4,k4,E,rfl,hE,Q⟩
     rotate_left
     ·have h0:Hd (o=.trap t r4):=zh (hP.o.trans (by rw [inM,bQ E]))
      have f:=zh hE;have hk:Hd (Sf y l w w4):=zh (T.o.inner Q z.o);clear hs E hE Q hK;unfold Trp;go_wp2_with fail
      refine ⟨rfl,?_⟩;rw [h0.o];exact ⟨⟨rfl,k4,f.o⟩,hk.o⟩
     obtain ⟨m4,σ5,rfl⟩:∃m s,σ4=m :: s:=by
      cases σ4 with
      | nil=>exact H9.elim
      | cons m s=>exact ⟨m,s,rfl⟩
     have h0:Hd (o=.ok (ov,σ5) r4):=zh (hP.o.trans (by rw [inM,cT E];rfl));obtain ⟨pv,cv,rfl,_⟩:=id H6.1;have kz:=zh H6;have hv:=zh H9.2;have f:=zh hE;have N:=zh (hm.o.sf R.o hx.o Q);have hk:Hd (Sf y l w w4):=zh (T.o.inner Q z.o);have HI:=aa N.o.x (j:=3) (u:=.slice bs0 bn bc) rfl;have HS:=zh HI;generalize (ov.getD noV).text.length=lb at *;generalize HL:ov.isSome=is at *;have K5:=zh HL.symm;clear hs E H6 H9 hE Q HI HL;refine hK.out _ _ ?_ (fun hH=>?_)
     ·(try dsimp only);exact HS.o
     clear hK K;try go_simp
     refine tkA 6 ?_;refine tkA 7 ?_;refine wpAnyH_done (by kernel_rfl) ?_ _;dsimp only [aP];clear hH;have kx:=N.o.x;have kr:=N.o.r;have B:=af kx;have C:=af kr;have x0:=aa kx (j:=0) (u:=.int .i64 3) rfl;have x1:=aa kx (j:=1) (u:=.string text) rfl;have x2:=aa kx (j:=2) (u:=.slice es0 en ec) rfl;have x3:=aa kx (j:=3) (u:=.slice bs0 bn bc) rfl;have x4:=aa kx (j:=4) (u:=.slice ls0 ln lc) rfl;have r0:=aa kr (j:=0) (u:=.int .i64 0) rfl;have r1':=aa kr (j:=1) (u:=.int .i64 0) rfl;have r2':=aa kr (j:=2) (u:=.slice none 0 0) rfl;have z0:=ae kr 0;have z1:=ae kr 1;have z2:=ae kr 2;clear kx kr;go_wp2_with fail
     obtain ⟨c0,c1',c2⟩:=bN N.o.r (.int .i64 (ov.getD noV).ty) (.int .i64 ((ov.getD noV).num)) (.slice pv (lb) (cv));exact bodyPost_ret (v:=.tuple #[.agg #[.int .i64 (ov.getD noV).ty,.int .i64 ((ov.getD noV).num),.slice pv (lb) (cv)],.bool is]) (by simp [results,Tryz.results86,go_sem,c0,c1',c2]) rfl (eX (ov:=ov) ⟨_,_,N.o.r⟩ f.o hv.o hk.o (Nat.le_succ _) hu.o (kz.o) (K5.o) (h0.o))
    ·have hP:Hd (o=inM [] (aG (aF y.F m) els) σ r2):=zh (by rw [k.o,if_neg hq])
     have KI:(a.num==1)=false:=beq_eq_false_iff_ne.2 hq;have kx:=L.o.x;have kr:=L.o.r;have B:=af kx;have C:=af kr;have x0:=aa kx (j:=0) (u:=.int .i64 3) rfl;have x1:=aa kx (j:=1) (u:=.string text) rfl;have x2:=aa kx (j:=2) (u:=.slice es0 en ec) rfl;have x3:=aa kx (j:=3) (u:=.slice bs0 bn bc) rfl;have x4:=aa kx (j:=4) (u:=.slice ls0 ln lc) rfl;have r0:=aa kr (j:=0) (u:=.int .i64 0) rfl;have r1':=aa kr (j:=1) (u:=.int .i64 0) rfl;have r2':=aa kr (j:=2) (u:=.slice none 0 0) rfl;have z0:=ae kr 0;have z1:=ae kr 1;have z2:=ae kr 2;clear kx kr;go_upto_region 11 with fail
     have P:Hd (w2.cell? ⟨w.heap.size,4,none⟩=some (.slice ls0 ln lc)):=zh x4;have HM:Hd (w.heap.size<w2.heap.size):=zh B;clear x0 x1 x2 x3 x4 r0 r1' r2' z0 z1 z2 B C;clear g0 g1 g2;refine ay (S:=fun W=>W.cell? ⟨w.heap.size,4,none⟩=some (.slice ls0 ln lc)) 8 (by kernel_rfl) (by kernel_rfl) (by (try dsimp only);exact P.o) (fun hH=>?_);simp only [List.take_succ_cons,List.take_zero,List.drop_succ_cons,List.drop_zero]
     refine tkA 0 ?_;refine tkA 1 ?_;refine tkA 3 ?_;refine tkA 4 ?_;refine rd1 2 fun K hK=>?_;go_simp;go_at_call 56
     refine (Hl.o _ (aw (Below.refl _ _))).mono ?_;rintro e w3 ⟨⟨B1,B2⟩,he,hO,⟨_,hX⟩,H2⟩;obtain rfl:e=.returned (.pointer (some ⟨B1,0,none⟩)):=he;have X:Below w2.heap.size w2 w3:=am (aw (Below.refl _ _)) H2;have T:Hd (Sf y l w w3):=zh ((Sf.of_ef hg.o).trans (Sf.of_below X));have hm:=zh (L.o.low X);have R:=zh (O.o.below X);have hx:=zh hO;have z:Hd (w.heap.size≤B2):=zh (Nat.le_trans hg.o.size (Nat.le_trans (aw (Below.refl w2.heap.size w2)).size hX));have h9:=zh (K6.o ((B1,B2) :: l) ([] :: σ) r2 w3 _ R.o hO (List.cons_ne_nil _ _) (Ko.o.keep (fL HH.o HC.o T.o)));have He:Hd (w3.cell? ⟨w.heap.size,4,none⟩=some (.slice ls0 ln lc)):=zh ((X.cell (p:=⟨w.heap.size,_,none⟩) HM.o).trans P.o);clear hO hX H2 X;refine hK.out _ _ ?_ (fun hH=>?_)
     ·(try dsimp only);exact He.o
     clear hK K;try go_simp
     refine rd1 5 fun K hK=>?_;go_simp;go_at_call 57
     refine h9.o.mono ?_;intro e w4 hs;rcases hs.cases with ⟨⟨ov,σ4⟩,r4,va,E,rfl,⟨v4,rfl,H6,H9⟩,hE,Q⟩ | ⟨t,r4,k4,E,rfl,hE,Q⟩
     rotate_left
     ·have h0:Hd (o=.trap t r4):=zh (hP.o.trans (by rw [inM,bQ E]))
      have f:=zh hE;have hk:Hd (Sf y l w w4):=zh (T.o.inner Q z.o);clear hs E hE Q hK;unfold Trp;go_wp2_with fail
      refine ⟨rfl,?_⟩;rw [h0.o];exact ⟨⟨rfl,k4,f.o⟩,hk.o⟩
     obtain ⟨m4,σ5,rfl⟩:∃m s,σ4=m :: s:=by
      cases σ4 with
      | nil=>exact H9.elim
      | cons m s=>exact ⟨m,s,rfl⟩
     have h0:Hd (o=.ok (ov,σ5) r4):=zh (hP.o.trans (by rw [inM,cT E];rfl));obtain ⟨pv,cv,rfl,_⟩:=id H6.1;have kz:=zh H6;have hv:=zh H9.2;have f:=zh hE;have N:=zh (hm.o.sf R.o hx.o Q);have hk:Hd (Sf y l w w4):=zh (T.o.inner Q z.o);have HI:=aa N.o.x (j:=4) (u:=.slice ls0 ln lc) rfl;have HS:=zh HI;generalize (ov.getD noV).text.length=lb at *;generalize HL:ov.isSome=is at *;have K5:=zh HL.symm;clear hs E H6 H9 hE Q HI HL;refine hK.out _ _ ?_ (fun hH=>?_)
     ·(try dsimp only);exact HS.o
     clear hK K;try go_simp
     refine tkA 6 ?_;refine tkA 7 ?_;refine wpAnyH_done (by kernel_rfl) ?_ _;dsimp only [aP];clear hH;have kx:=N.o.x;have kr:=N.o.r;have B:=af kx;have C:=af kr;have x0:=aa kx (j:=0) (u:=.int .i64 3) rfl;have x1:=aa kx (j:=1) (u:=.string text) rfl;have x2:=aa kx (j:=2) (u:=.slice es0 en ec) rfl;have x3:=aa kx (j:=3) (u:=.slice bs0 bn bc) rfl;have x4:=aa kx (j:=4) (u:=.slice ls0 ln lc) rfl;have r0:=aa kr (j:=0) (u:=.int .i64 0) rfl;have r1':=aa kr (j:=1) (u:=.int .i64 0) rfl;have r2':=aa kr (j:=2) (u:=.slice none 0 0) rfl;have z0:=ae kr 0;have z1:=ae kr 1;have z2:=ae kr 2;clear kx kr;go_wp2_with fail
     obtain ⟨c0,c1',c2⟩:=bN N.o.r (.int .i64 (ov.getD noV).ty) (.int .i64 ((ov.getD noV).num)) (.slice pv (lb) (cv));exact bodyPost_ret (v:=.tuple #[.agg #[.int .i64 (ov.getD noV).ty,.int .i64 ((ov.getD noV).num),.slice pv (lb) (cv)],.bool is]) (by simp [results,Tryz.results86,go_sem,c0,c1',c2]) rfl (eX (ov:=ov) ⟨_,_,N.o.r⟩ f.o hv.o hk.o (Nat.le_succ _) hu.o (kz.o) (K5.o) (h0.o))
   by_cases h4:op=4
   ·subst h4
    have I:Hd (vs.length=2):=zh (by rw [Hc.o];exact HW.o.2.2.2.1 (by decide))
    have k:Hd (o=fE (fun i=>inM [(text,aB i)] (aG (aF y.F m) body)) ((vs.getD 1 noV).num-(vs.getD 0 noV).num).toNat (vs.getD 0 noV).num σ r2):=zh (by
      rw [H3.o,oc,if_neg (by decide),if_pos rfl])
    have Y:=J;obtain ⟨gb,goff,hr,hf,hd,d⟩:=J.o (by rw [I.o];decide);subst hr;have hA:=Z.o 0 (by rw [I.o];decide);have A:=d 0 (by rw [I.o];decide);generalize vs.getD 0 noV=a at *;obtain ⟨pa,ca,H,ht⟩:=id hA.1
    have G:vcs 0=[.int .i64 a.ty,.int .i64 a.num,.slice pa a.text.length ca]:=by
     injection H with H
     have:=congrArg Array.toList H;simpa using this
    rw [G] at A;rw [H] at hA;have HA:=zh hA;have g0:w2.cell? ⟨gb,goff,none⟩=some (.int .i64 a.ty):=by simpa using A 0 (by decide)
    have g1:w2.cell? ⟨gb,goff+1,none⟩=some (.int .i64 a.num):=by simpa using A 1 (by decide)
    have g2:w2.cell? ⟨gb,goff+2,none⟩=some (.slice pa a.text.length ca):=by simpa using A 2 (by decide)
    have ha:vs.length=2:=I.o;rw [ha];obtain ⟨gb',goff',hh,H8,_,hI⟩:=Y.o (by rw [I.o];decide);injection hh with hh
    injection hh with hgb' hgo'
    subst hgb' hgo';have hB:=Z.o 1 (by rw [I.o];decide);have V:=hI 1 (by rw [I.o];decide);generalize vs.getD 1 noV=b at *;obtain ⟨pb,cb',hM,kn⟩:=id hB.1
    have hL:vcs 1=[.int .i64 b.ty,.int .i64 b.num,.slice pb b.text.length cb']:=by
     injection hM with hM
     have:=congrArg Array.toList hM;simpa using this
    rw [hL] at V;rw [hM] at hB;have HB:=zh hB;have g3:w2.cell? ⟨gb,goff+3,none⟩=some (.int .i64 b.ty):=by simpa using V 0 (by decide)
    have g4:w2.cell? ⟨gb,goff+4,none⟩=some (.int .i64 b.num):=by simpa using V 1 (by decide)
    have g5:w2.cell? ⟨gb,goff+5,none⟩=some (.slice pb b.text.length cb'):=by simpa using V 2 (by decide)
    clear hB V hM kn hL H8 hI;have Ho:=zh hf;have hN:Hd (gb<w2.heap.size):=zh hd;have HG:=zh (And.intro g1 g4);have Km:bf a.num:=HA.o.2.num;have Hk:bf b.num:=HB.o.2.num;have j2:=zh Km;have KF:=zh Hk;have Hn:Hd (Sf y l w w2):=zh (Sf.of_ef hg.o);clear hA A d H ht G hf hd ha J Y Z Km Hk;have kx:=L.o.x;have kr:=L.o.r;have B:=af kx;have C:=af kr;have x0:=aa kx (j:=0) (u:=.int .i64 4) rfl;have x1:=aa kx (j:=1) (u:=.string text) rfl;have x2:=aa kx (j:=2) (u:=.slice es0 en ec) rfl;have x3:=aa kx (j:=3) (u:=.slice bs0 bn bc) rfl;have x4:=aa kx (j:=4) (u:=.slice ls0 ln lc) rfl;have r0:=aa kr (j:=0) (u:=.int .i64 0) rfl;have r1':=aa kr (j:=1) (u:=.int .i64 0) rfl;have r2':=aa kr (j:=2) (u:=.slice none 0 0) rfl;have z0:=ae kr 0;have z1:=ae kr 1;have z2:=ae kr 2;clear kx kr;go_wp2_with fail
    clear x0 x1 x2 x3 x4 r0 r1' r2' z0 z1 z2 B C;clear g0 g1 g2 g3 g4 g5;go_loopg [9] (b.num-a.num).toNat (fun gg t9 wr=>∃(i:Int) (σi:List Sc) (ri:Rst),t9=.int .i64 i∧a.num≤i∧gg=(b.num-i).toNat∧Hd (o=fE (fun i=>inM [(text,aB i)] (aG (aF y.F m) body)) gg i σi ri)∧Hd (RunAt y wr ri (kC m))∧Hd (ChAt y.D wr l σi)∧Hd (Sf y l w2 wr)∧Hd (SAt wr w.heap.size (w.heap.size+1) 4 pos text (.slice es0 en ec) (.slice bs0 bn bc) (.slice ls0 ln lc)))
    case atStart=>exact ⟨a.num,σ,r2,rfl,Int.le_refl _,rfl,k,O,c,zh (Sf.refl _ _ _),L⟩
    case round =>
     obtain ⟨i,σi,ri,rfl,j5,rfl,Kv,ka,K8,k9,Hb⟩:=hrel;have Hm:=zh (k9.o.stays (S:=VB y.D w2) fun b hb=>mf c.o (VB.not hb O.o) (hb.imp id fun q=>⟨_,q⟩));have g4:wr.cell? ⟨gb,goff+4,none⟩=some (.int .i64 b.num):=(Hm.o.cell Ho.o hN.o _).trans HG.o.2;by_cases j4:i<b.num
     ·obtain ⟨n,hn⟩:∃n,n=(b.num-(i+1)).toNat:=⟨_,rfl⟩
      have Kx:=zh hn
      have hP:Hd (o=((dy 1).then fun _=>(inM [(text,aB i)] (aG (aF y.F m) body) σi).then fun p=>if p.1.isSome then okM p else fE (fun i=>inM [(text,aB i)] (aG (aF y.F m) body)) n (i+1) p.2) ri):=zh (by
        have q:=Kv.o;rw [show (b.num-i).toNat=n+1 by omega,fE] at q;exact q)
      have HR:=zh (eZ 1 wr ka.o (by decide));clear hn;have kx:=Hb.o.x;have kr:=Hb.o.r;have B:=af kx;have C:=af kr;have x0:=aa kx (j:=0) (u:=.int .i64 4) rfl;have x1:=aa kx (j:=1) (u:=.string text) rfl;have x2:=aa kx (j:=2) (u:=.slice es0 en ec) rfl;have x3:=aa kx (j:=3) (u:=.slice bs0 bn bc) rfl;have x4:=aa kx (j:=4) (u:=.slice ls0 ln lc) rfl;have r0:=aa kr (j:=0) (u:=.int .i64 0) rfl;have r1':=aa kr (j:=1) (u:=.int .i64 0) rfl;have r2':=aa kr (j:=2) (u:=.slice none 0 0) rfl;have z0:=ae kr 0;have z1:=ae kr 1;have z2:=ae kr 2;clear kx kr;go_wp2_with fail
      refine HR.o.mono ?_;intro e w3 hs;rcases hs.cases with ⟨_,r3,_,E,rfl,rfl,U,ho⟩ | ⟨t,r3,k3,E,rfl,U,ho⟩
      ·have h8:Hd (o=((inM [(text,aB i)] (aG (aF y.F m) body) σi).then fun p=>if p.1.isSome then okM p else fE (fun i=>inM [(text,aB i)] (aG (aF y.F m) body)) n (i+1) p.2) r3):=zh (hP.o.trans (cT E))
       have R:=zh U;have hm:=zh (Hb.o.sf ka.o K8.o (Sf.of_ef ho));have hx:=zh (K8.o.ef ka.o ho);have He:Hd (Sf y l w2 w3):=zh (k9.o.trans (Sf.of_ef ho));have Hl:=zh (jZ y.D l σi w3 hx.o (Nat.le_trans hu.o (Nat.le_trans Hn.o.size He.o.size)));rw [HP.o] at Hl;clear hs E U ho;clear x0 x1 x2 x3 x4 r0 r1' r2' z0 z1 z2 B C;go_wp2_with fail
       refine Hl.o.mono ?_;rintro e w4 ⟨⟨B1,B2⟩,he,hO,⟨KH,hX⟩,k8⟩;obtain rfl:e=.returned (.pointer (some ⟨B1,0,none⟩)):=he;have N:=zh (hm.o.low k8);have f:=zh (R.o.below k8);have hv:=zh hO;have HS:Hd (Sf y l w2 w4):=zh (He.o.trans (Sf.of_below k8));have z:Hd (w2.heap.size≤B2):=zh (Nat.le_trans He.o.size hX);clear hO KH hX k8;obtain ⟨hi,H0,mv,hj,hR⟩:=hv.o.at (i:=0) (Nat.succ_pos _);have hi:w4.heap[B1]?=some (.cells #[eU l,.map (some B2)] 125 (0,0)):=hi;have hj:MapAt w4 B2 mv:=hj;have Hg:=zh hj;have Ky:=zh hR;have K7:=zh H0;have Kw:Hd (bf i):=zh (by have:=j2.o;have:=KF.o;unfold bf at *;omega);generalize eU l=tp at *;have sb1:=aa hi (j:=1) (u:=.map (some B2)) rfl;have Kc:=aa N.o.x (j:=1) (u:=.string text) rfl;have P:Hd (w4.cell? ⟨B1,1,none⟩=some (.map (some B2))∧w4.cell? ⟨w.heap.size,1,none⟩=some (.string text)):=zh ⟨sb1,Kc⟩;clear hi H0 hj hR sb1 Kc;go_upto_region 18 with fail
       refine ay (S:=fun W=>W.cell? ⟨B1,1,none⟩=some (.map (some B2))∧W.cell? ⟨w.heap.size,1,none⟩=some (.string text)) 8 (by kernel_rfl) (by kernel_rfl) (by (try dsimp only);exact P.o) (fun hH=>?_);simp only [List.take_succ_cons,List.take_zero,List.drop_succ_cons,List.drop_zero]
       refine tkA 0 ?_;refine tkA 1 ?_;refine tkA 2 ?_;refine tkA 3 ?_;refine tkA 4 ?_;refine tkA 5 ?_;refine tkA 6 ?_;refine rd1 7 fun K hK=>?_;go_simp;go_at_call 108
       refine (jx i _).mono ?_;rintro e w5 ⟨rfl,Kl⟩;have hQ:Hd (Below w4.heap.size w4 w5):=zh (am (aw (Below.refl _ _)) Kl);clear Kl;refine hK.out _ _ ?_ (fun hH=>?_)
       ·(try dsimp only);exact ⟨(hQ.o.cell (p:=⟨B1,_,none⟩) (az P.o.1)).trans P.o.1,(hQ.o.cell (p:=⟨w.heap.size,_,none⟩) (az P.o.2)).trans P.o.2⟩
       clear hK K;try go_simp
       refine wpAnyH_done (by kernel_rfl) ?_ _;dsimp only [aP];have Hy:=fM (Hg.o.below hQ.o) fI ji text (.agg #[.int .i64 1,.int .i64 i,.slice none 0 0]);have hy:=zh (gj w5 B2 text (.agg #[.int .i64 1,.int .i64 i,.slice none 0 0]));have KD:Hd (ChAt y.D (iB w5 B2 text (.agg #[.int .i64 1,.int .i64 i,.slice none 0 0])) ((B1,B2) :: l) ([(text,aB i)] :: σi)):=zh (ChAt.setAt (x:=text) (i:=0) (a:=aB i) (hv.o.low hQ.o) (Nat.succ_pos _) (Hg.o.below hQ.o) VvAt.num (OkV.nm Kw.o) hy.o (jJ (Hg.o.below hQ.o) text _) (MvAt.imp (fun v x q=>VvAt.low q hQ.o) Ky.o));have hC:Sf y ((B1,B2) :: l) w4 (iB w5 B2 text (.agg #[.int .i64 1,.int .i64 i,.slice none 0 0])):=(Sf.of_below hQ.o).trans (OnS.of_on hy.o (.inr (List.mem_cons_self ..)));have kp:=zh (N.o.sf f.o hv.o hC);have Ks:=zh ((f.o.below hQ.o).off hy.o K7.o fun t q=>absurd q (Hg.o.below hQ.o).noT);have K0:Hd (Sf y l w2 _):=zh (HS.o.inner hC z.o);clear hC hH;go_upto_region 19 with fail
       generalize (iB w5 B2 text (.agg #[.int .i64 1,.int .i64 i,.slice none 0 0]))=w6 at *;clear Hy;have h9:=zh (H5.o ((B1,B2) :: l) ([(text,aB i)] :: σi) r3 w6 _ Ks.o KD.o (List.cons_ne_nil _ _) (kP.o.keep (fL HH.o HC.o (Hn.o.trans K0.o))));have Hh:Hd (Calls Tryz.prog 57 #[.pointer (some ⟨y.RB,0,none⟩),.pointer (some ⟨B1,0,none⟩),.slice bs0 bn bc] w6 _):=h9;have kx:=kp.o.x;have kr:=kp.o.r;have B:=af kx;have C:=af kr;have x0:=aa kx (j:=0) (u:=.int .i64 4) rfl;have x1:=aa kx (j:=1) (u:=.string text) rfl;have x2:=aa kx (j:=2) (u:=.slice es0 en ec) rfl;have x3:=aa kx (j:=3) (u:=.slice bs0 bn bc) rfl;have x4:=aa kx (j:=4) (u:=.slice ls0 ln lc) rfl;have r0:=aa kr (j:=0) (u:=.int .i64 0) rfl;have r1':=aa kr (j:=1) (u:=.int .i64 0) rfl;have r2':=aa kr (j:=2) (u:=.slice none 0 0) rfl;have z0:=ae kr 0;have z1:=ae kr 1;have z2:=ae kr 2;clear kx kr;go_wp2_with fail
       refine Hh.o.mono ?_;intro e w7 hs;rcases hs.cases with ⟨⟨ov,σ7⟩,r7,va,E,rfl,⟨v7,rfl,kd,kl⟩,Hv,Hi⟩ | ⟨t,r7,k7,E,rfl,Hv,Hi⟩
       ·obtain ⟨m7,σ8,rfl⟩:∃m s,σ7=m :: s:=by
          cases σ7 with
          | nil=>exact kl.elim
          | cons m s=>exact ⟨m,s,rfl⟩
        have KA:Hd (inM [(text,aB i)] (aG (aF y.F m) body) σi r3=.ok (ov,σ8) r7):=zh (by rw [inM,cT E];rfl);obtain ⟨pv,cv,rfl,_⟩:=id kd.1;have KP:=zh kd;have j1:=zh kl.2;have K1:=zh Hv;have KN:=zh (kp.o.sf Ks.o KD.o Hi);have KT:Hd (Sf y l w2 w7):=zh (K0.o.inner Hi z.o);clear hs E kd kl Hv Hi;have Ha:Below w7.heap.size w7 (w7.alloc (.cells #[.int .i64 (ov.getD noV).ty,.int .i64 (ov.getD noV).num,.slice pv (ov.getD noV).text.length cv] 35)):=ag (Below.refl _ _) _;have jb:=zh Ha;have HQ:=zh (KN.o.low Ha);have KC:=zh (j1.o.low Ha);have Kr:=zh (K1.o.below Ha);have KO:=zh (KP.o.low Ha);have Kq:Hd (Sf y l w2 (w7.alloc (.cells #[.int .i64 (ov.getD noV).ty,.int .i64 (ov.getD noV).num,.slice pv (ov.getD noV).text.length cv] 35))):=zh (KT.o.trans (Sf.of_below Ha));have kv:Hd ((w7.alloc (.cells #[.int .i64 (ov.getD noV).ty,.int .i64 (ov.getD noV).num,.slice pv (ov.getD noV).text.length cv] 35)).heap[w7.heap.size]?=some (.cells #[.int .i64 (ov.getD noV).ty,.int .i64 (ov.getD noV).num,.slice pv (ov.getD noV).text.length cv] 35 (0,0))):=zh (aj _ _ _ rfl);clear Ha;clear x0 x1 x2 x3 x4 r0 r1' r2' z0 z1 z2 B C
        cases ov with
        | none =>
         dsimp only [Option.getD_none,Option.isSome_none] at *;have K4:=zh (h8.o.trans (cT KA.o));have j3:IntKind.i64.wrap (i+1)=i+1:=by rw [IntKind.wrap_i64];have:=Kw.o;have:=KF.o;unfold bf at *;omega
         go_wp2_with fail
         go_roundg n
         case measure=>have:=Kx.o;omega
         case rel=>exact ⟨i+1,σ8,r7,by first | rfl | go_num,by omega,Kx.o,zh K4.o,Kr,KC,Kq,HQ⟩
        | some bv =>
         dsimp only [Option.getD_some,Option.isSome_some] at *;have K4:Hd (o=.ok (some bv,σ8) r7):=zh ((h8.o.trans (cT KA.o)).trans rfl);have KZ:Hd (Sf y l w _):=zh (Hn.o.trans Kq.o);generalize bv.text.length=lb at *;have v0:=aa kv.o (j:=0) (u:=.int .i64 bv.ty) rfl;have v1:=aa kv.o (j:=1) (u:=.int .i64 bv.num) rfl;have v2:=aa kv.o (j:=2) (u:=.slice pv lb cv) rfl;have kx:=HQ.o.x;have kr:=HQ.o.r;have B:=af kx;have C:=af kr;have x0:=aa kx (j:=0) (u:=.int .i64 4) rfl;have x1:=aa kx (j:=1) (u:=.string text) rfl;have x2:=aa kx (j:=2) (u:=.slice es0 en ec) rfl;have x3:=aa kx (j:=3) (u:=.slice bs0 bn bc) rfl;have x4:=aa kx (j:=4) (u:=.slice ls0 ln lc) rfl;have r0:=aa kr (j:=0) (u:=.int .i64 0) rfl;have r1':=aa kr (j:=1) (u:=.int .i64 0) rfl;have r2':=aa kr (j:=2) (u:=.slice none 0 0) rfl;have z0:=ae kr 0;have z1:=ae kr 1;have z2:=ae kr 2;clear kx kr;go_wp2_with fail
         obtain ⟨c0,c1',c2⟩:=bN HQ.o.r (.int .i64 bv.ty) (.int .i64 (bv.num)) (.slice pv (lb) (cv));exact bodyPost_ret (v:=.tuple #[.agg #[.int .i64 bv.ty,.int .i64 (bv.num),.slice pv (lb) (cv)],.bool true]) (by simp [results,Tryz.results86,go_sem,c0,c1',c2]) rfl (eX (ov:=some bv) ⟨_,_,HQ.o.r⟩ Kr.o KC.o KZ.o (Nat.le_succ _) hu.o (KO.o) (rfl) (K4.o))
       ·have h0:Hd (o=.trap t r7):=zh (h8.o.trans (bQ (by rw [inM,bQ E])))
        have K1:=zh Hv;have j0:Hd (Sf y l w w7):=zh (Hn.o.trans (K0.o.inner Hi z.o));clear hs E Hv Hi;unfold Trp;go_wp2_with fail
        refine ⟨rfl,?_⟩;rw [h0.o];exact ⟨⟨rfl,k7,K1.o⟩,j0.o⟩
      ·have h8:Hd (o=.trap t r3):=zh (hP.o.trans (bQ E))
       have R:=zh U;have T:Hd (Sf y l w w3):=zh (Hn.o.trans (k9.o.trans (Sf.of_ef ho)));clear hs E U ho;unfold Trp;go_wp2_with fail
       refine ⟨rfl,?_⟩;rw [h8.o];exact ⟨⟨rfl,k3,R.o⟩,T.o⟩
     ·have h0:Hd (o=.ok (none,σi) ri):=zh (by
        have q:=Kv.o;rw [show (b.num-i).toNat=0 by omega,fE] at q;exact q)
      have KY:Hd (Sf y l w wr):=zh (Hn.o.trans k9.o);have kx:=Hb.o.x;have kr:=Hb.o.r;have B:=af kx;have C:=af kr;have x0:=aa kx (j:=0) (u:=.int .i64 4) rfl;have x1:=aa kx (j:=1) (u:=.string text) rfl;have x2:=aa kx (j:=2) (u:=.slice es0 en ec) rfl;have x3:=aa kx (j:=3) (u:=.slice bs0 bn bc) rfl;have x4:=aa kx (j:=4) (u:=.slice ls0 ln lc) rfl;have r0:=aa kr (j:=0) (u:=.int .i64 0) rfl;have r1':=aa kr (j:=1) (u:=.int .i64 0) rfl;have r2':=aa kr (j:=2) (u:=.slice none 0 0) rfl;have z0:=ae kr 0;have z1:=ae kr 1;have z2:=ae kr 2;clear kx kr;go_wp2_with fail
      obtain ⟨c0,c1',c2⟩:=bN Hb.o.r (.int .i64 0) (.int .i64 (0)) (.slice none (0) (0));exact bodyPost_ret (v:=.tuple #[.agg #[.int .i64 0,.int .i64 (0),.slice none (0) (0)],.bool false]) (by simp [results,Tryz.results86,go_sem,c0,c1',c2]) rfl (eX (ov:=none) ⟨_,_,Hb.o.r⟩ ka.o K8.o KY.o (Nat.le_succ _) hu.o (⟨VvAt.no,OkV.no⟩) (rfl) (h0.o))
   obtain rfl:op=8:=by have:=HW.o.1;have:=HW.o.2.1;omega
   have T:Hd (Sf y l w w2):=zh (Sf.of_ef hg.o)
   have k:Hd (o=.ok (none,σ) r2):=zh (by
     rw [H3.o,oc,if_neg (by decide),if_neg (by decide),fD,if_neg (by decide),if_neg (by decide),if_neg (by decide),if_neg (by decide),if_neg (by decide)];rfl)
   have kx:=L.o.x;have kr:=L.o.r;have B:=af kx;have C:=af kr;have x0:=aa kx (j:=0) (u:=.int .i64 8) rfl;have x1:=aa kx (j:=1) (u:=.string text) rfl;have x2:=aa kx (j:=2) (u:=.slice es0 en ec) rfl;have x3:=aa kx (j:=3) (u:=.slice bs0 bn bc) rfl;have x4:=aa kx (j:=4) (u:=.slice ls0 ln lc) rfl;have r0:=aa kr (j:=0) (u:=.int .i64 0) rfl;have r1':=aa kr (j:=1) (u:=.int .i64 0) rfl;have r2':=aa kr (j:=2) (u:=.slice none 0 0) rfl;have z0:=ae kr 0;have z1:=ae kr 1;have z2:=ae kr 2;clear kx kr;go_wp2_with fail
   obtain ⟨c0,c1',c2⟩:=bN L.o.r (.int .i64 0) (.int .i64 (0)) (.slice none (0) (0));exact bodyPost_ret (v:=.tuple #[.agg #[.int .i64 0,.int .i64 (0),.slice none (0) (0)],.bool false]) (by simp [results,Tryz.results86,go_sem,c0,c1',c2]) rfl (eX (ov:=none) ⟨_,_,L.o.r⟩ O.o c.o T.o (Nat.le_succ _) hu.o (⟨VvAt.no,OkV.no⟩) (rfl) (k.o))
  ·have h8:=zh (HX.o t r1 r2 HV.o E)
   have O:=zh Hw;have hg:Hd (Sf y l w w2):=zh (Sf.of_ef (Hq.o.trans ho));clear hs E Hw ho;unfold Trp;go_wp2_with fail
   refine ⟨rfl,?_⟩;rw [h8.o];exact ⟨⟨rfl,k2,O.o⟩,hg.o⟩
 ·have HO:=zh (KB.o t r1 E)
  have HT:=zh Hx;have Hq:Hd (Sf y l w w1):=zh (Sf.of_ef (Ef.low kc.o Hj));clear hs E Hx Hj HU kt;unfold Trp;go_wp2_with fail
  refine ⟨rfl,?_⟩;rw [HO.o];exact ⟨⟨rfl,k1,HT.o⟩,Hq.o⟩
end
end Go.Proofs.YthgcpfkochikfaaGreat
