/-
  EvalSigns: part 7 of its proof: see the last text.
-/
import Derived.Test.YthgcpfkochikfaaGreatPs06
import Derived.Deep.DeepCutAuto
set_option maxRecDepth 100000
set_option maxHeartbeats 16000000
namespace Go.Proofs.YthgcpfkochikfaaGreat
section
open Go.RowKit
attribute [local go_sem ↓] Go.wp_at_zero Go.wp_at_succ
theorem vB {v vv:Value} {p1 p2:Option Addr} {k x:List UInt8} {c1 c2:Nat} {l:List Pr} {S1 S2 S3:Nat→Prop} (w:World) (h:StAt S1 w v l) (hk:TxtAt S2 w (.slice p1 k.length c1) k) (hx:TxtAt S3 w (.slice p2 x.length c2) x) (hv:vv=.slice p2 x.length c2) (hl:a8 l=true) (hP:k.length≤64) (hL:x.length≤256) :
    Calls Tryz.prog 155 #[v,.slice p1 k.length c1,vv] w (pJ S1 w (fw l k x)):=by
 subst hv;obtain ⟨hs,hM,hu⟩:=dd hl;have h7:=jK hu;have H8:=zh hu;have Hf:=zh (And.intro hP hL);obtain ⟨hp,s0,n0,cap,rfl,J⟩:=h;have hU:Hd (fw l k x=if 2048<cn (fc l k x) then .error 71 else .ok (fc l k x)):=zh (by unfold fw;rw [if_neg (by omega)]);have Q:=zh (nU k x hM);have u:=ag (Below.refl w.heap.size w) (.cells #[.slice p1 k.length c1] 30);have hB:(w.alloc (.cells #[.slice p1 k.length c1] 30)).cell? ⟨w.heap.size,0,none⟩=some (.slice p1 k.length c1):=aA _ _ _ _ _ _ rfl rfl;have HF:=zh (nz _ (hp.below u) (hk.below u));have HP:=zh hp;have HK:=zh hk;have HX:=zh hx;obtain ⟨cs,hr,ht⟩:=hp;have hy:w.heap.size<(w.alloc (.cells #[.slice p1 k.length c1] 30)).heap.size:=by rw [ah];exact Nat.lt_succ_self _
 have hG:=zh (fun W (hW:Below (w.alloc (.cells #[.slice p1 k.length c1] 30)).heap.size (w.alloc (.cells #[.slice p1 k.length c1] 30)) W)=>rl 185 w.heap.size (fun i=>gtK k (l.getD i default)) (ixP (gtK k) l) W (fun _ _=>Tryz.call185 _ _) (hr.keep (Stays.of_below (am u hW))) (PrsAt.forms ht) (jU _ _) (fun i hi=>tK _ l i hi) (pI _ l)
   (fun i hi W2 hE=>uI _ W2 ((ht i hi).below (am (am u hW) hE)) (hk.below (am (am u hW) hE)) (((am hW hE).cell (p:=⟨w.heap.size,0,none⟩) hy).trans hB)))
 have I:=zh u;have Hh:=zh hB;have He:=zh hy;obtain ⟨s0',cap',e0,hN,hR,h6,h5,_⟩:=hr;injection e0 with e1 e2 e3
 subst e1 e2 e3;have hc:=zh h5;have hF:=zh h6;have Hc:=zh J;have T:=zh ht;have hm:Hd (lJ l k=if ixP (isK k) l<l.length then ixP (isK k) l else ixP (gtK k) l):=zh rfl;have hh:Hd (lM l k=if ixP (isK k) l<l.length then ixP (isK k) l+1 else ixP (gtK k) l):=zh rfl;have hX:=zh (And.intro (xh l k) (yx l k));have H0:=zh (jU (gtK k) l);unfold atI at HF;generalize ixP (isK k) l=ik at *;generalize ixP (gtK k) l=ig at *;have k1:¬(64:Int)<(k.length:Int):=by omega
 have k2:¬(256:Int)<(x.length:Int):=by omega
 have HL:=zh (And.intro h7 (And.intro hN hR));generalize fw l k x=o at *;generalize H6:lJ l k=a at *;generalize H5:lM l k=r at *;have hO:(l.length:Int)≤256:=by omega
 clear H6 H5 hl hP hL hs hM hu hk hx u hB hy h5 h6 J ht hN hR h7;go_enter Tryz.func155,Tryz.ntmps155
 go_wp2_with fail
 refine HF.o.mono ?_;rintro e w1 ⟨rfl,hD⟩;have F:=zh hD;have t:w1.cell? ⟨w.heap.size,0,none⟩=some (.slice p1 k.length c1):=(hD.cell (p:=⟨w.heap.size,0,none⟩) He.o).trans Hh.o;clear hD HF;have Hg:Hd ((if ik<l.length then (ik:Int) else -1)=(if ik<l.length then (ik:Int) else -1)):=zh rfl;generalize hz:(if ik<l.length then (ik:Int) else -1)=z at *;have HZ:=zh hz;clear hz Hg;go_upto_if 25 with fail
 go_cut [8,9] (fun t8 t9 wx=>t8=.int .i64 (a:Int)∧t9=.int .i64 (r:Int)∧Below w1.heap.size w1 wx)
 case first =>
  by_cases y:ik<l.length
  ·have h4:=HZ.o
   rw [if_pos y] at h4;subst h4;have ha:=hm.o;have hr:=hh.o;rw [if_pos y] at ha hr;subst ha hr;have q1:¬(a:Int)<0:=by omega
   have q2:(a:Int)≤256:=by omega
   clear hm hh y;go_wp2_with fail
   go_meet
   exact ⟨rfl,by rw [show wrap64 ((a:Int)+1)=(a:Int)+1 by unfold wrap64;omega];rfl,Below.refl _ _⟩
  ·have h4:=HZ.o
   rw [if_neg y] at h4;subst h4;have ha:=hm.o;have hr:=hh.o;rw [if_neg y] at ha hr;subst ha hr;have HI:=zh (hG.o w1 F.o);clear hm hh y hG;by_cases hQ:r<l.length
   ·rw [if_pos hQ] at HI
    have q1:¬(r:Int)<0:=by omega
    go_wp2_with fail
    refine HI.o.mono ?_;rintro e w2 ⟨rfl,h9⟩;have hI:=zh h9;clear h9;go_wp2_with fail
    go_meet
    exact ⟨rfl,rfl,hI.o⟩
   ·rw [if_neg hQ] at HI
    have hV:Hd (r=l.length):=zh (by have:=H0.o;omega);go_wp2_with fail
    refine HI.o.mono ?_;rintro e w2 ⟨rfl,h9⟩;have hI:=zh h9;clear h9;go_wp2_with fail
    go_meet
    exact ⟨by rw [hV.o],by rw [hV.o],hI.o⟩
 case rest =>
  obtain ⟨rfl,rfl,hC⟩:=hcut;have H:=zh hC;have g:wc.cell? ⟨w.heap.size,0,none⟩=some (.slice p1 k.length c1):=(hC.cell (p:=⟨w.heap.size,0,none⟩) (az t)).trans t;clear HZ hm hh hG H0 hC t;go_upto_region 10 with fail
  go_cut [10] (fun t10 wx=>∃s n c,t10=.slice s n c∧Below w.heap.size w wx∧StAt (fun b=>S1 b∨Nu w.heap.size wx b) wx (.slice s n c) (fc l k x))
  case first =>
   have G:=zh g;have U:Hd (w.heap.size<wc.heap.size):=zh (az g);have hS:r≤l.length:=hX.o.2;have hT:a≤l.length:=hX.o.1;have h8:=HL.o.2.1;have i1:(0:Int)≤(a:Int):=by omega
   have i2:(a:Int)≤(cap:Int):=by omega
   have i3:(r:Int)≤(l.length:Int):=by omega
   have i4:(0:Int)≤(r:Int):=by omega
   have HN:=zh (And.intro hT (And.intro hS h8));clear g hT hS h8
   cases s0 with
   | none =>
    have H3:=hF.o rfl;subst H3;have hA:l.length=0:=by have:=HN.o;omega
    have H7:a=0:=by have:=HN.o;omega
    have H1:r=0:=by have:=HN.o;omega
    subst H7 H1;obtain rfl:l=[]:=List.eq_nil_of_length_eq_zero hA;have Hi:Hd True:=zh trivial;clear hA;refine ay (S:=fun W=>W.cell? ⟨w.heap.size,0,none⟩=some (.slice p1 k.length c1)) 13 (by kernel_rfl) (by kernel_rfl) (by (try dsimp only);exact G.o) (fun hH=>?_);simp only [List.take_succ_cons,List.take_zero,List.drop_succ_cons,List.drop_zero]
    refine tkA 0 ?_;refine tkA 1 ?_;refine tkA 2 ?_;refine tkA 3 ?_;refine tkA 4 ?_;refine tkA 6 ?_;refine tkA 10 ?_;refine tkA 11 ?_;refine tkA 12 ?_;refine rd1 5 fun K hK=>?_;go_simp;go_at_call 30
    refine (bY _ (HK.o.below (am I.o (am F.o (am H.o (aw (Below.refl _ _)))))) (by omega)).mono ?_;rintro e w5 ⟨p5,c5,rfl,Z,D⟩;have hf:=zh Z;have B:=zh (am (aw (Below.refl wc.heap.size wc)) D);clear Z D;refine hK.out _ _ ?_ (fun hH=>?_)
    ·(try dsimp only);exact (B.o.cell (p:=⟨w.heap.size,0,none⟩) U.o).trans G.o
    clear hK K;try go_simp
    refine rd1 7 fun K hK=>?_;go_simp;go_at_call 30
    refine (bY _ (HX.o.below (am I.o (am F.o (am H.o B.o)))) (by omega)).mono ?_;rintro e w7 ⟨p7,c7,rfl,Y,M⟩;have he:=zh Y;have O:=zh (am B.o M);have P:=zh M;clear Y M;refine hK.out _ _ ?_ (fun hH=>?_)
    ·(try dsimp only);exact (O.o.cell (p:=⟨w.heap.size,0,none⟩) U.o).trans G.o
    clear hK K;try go_simp
    refine tkA 8 ?_;refine rd1 9 fun K hK=>?_;go_simp;refine hK.out _ _ ?_ (fun hH=>?_)
    ·(try dsimp only);exact aq _ ((O.o.cell (p:=⟨w.heap.size,0,none⟩) U.o).trans G.o)
    clear hK K;try go_simp
    refine wpAnyH_done (by kernel_rfl) ?_ _;dsimp only [aP];have f:=zh (kT (W:=(w7.alloc (.cells #[.slice p5 k.length c5,.slice p7 x.length c7] 70)).alloc (.cells #[.slice none 0 0,.slice (some ⟨w7.heap.size,0,none⟩) 1 1,.slice (none) (0) (0)] 48)) (ax _ _ _ _ (aj _ (.cells #[.slice p5 k.length c5,.slice p7 x.length c7] 70) _ rfl)));have N:=zh (am (am (am I.o (am F.o H.o)) O.o) (ag (ag (Below.refl w7.heap.size w7) (.cells #[.slice p5 k.length c5,.slice p7 x.length c7] 70)) (.cells #[.slice none 0 0,.slice (some ⟨w7.heap.size,0,none⟩) 1 1,.slice (none) (0) (0)] 48)));have d:=zh (iR (w:=w) (n:=0) (a:=0) (b:=0) (off:=0) (PrsAt.forms T.o) (fun h0=>absurd h0 (Nat.lt_irrefl 0)) HN.o.1 (r:=0) (m:=0) (by have:=HN.o;omega) (by omega) (fun _=>⟨rfl,rfl⟩) (fun h=>absurd h (by omega)) (fun _=>⟨rfl,rfl⟩) (fun h=>absurd h (by omega)) (aA (w7.alloc (.cells #[.slice p5 k.length c5,.slice p7 x.length c7] 70)) _ _ _ 0 _ (ah _ _) rfl) (aA _ _ _ _ 1 _ (ah _ _) rfl) (aA _ _ _ _ 2 _ (ah _ _) rfl) f.o rfl N.o);go_wp2_with fail
    refine d.o.mono ?_;rintro e w9 ⟨s9,c9,rfl,X,C⟩;have hd:=zh X;have E:=zh (am N.o C);have A:=zh (am (ag (ag (Below.refl w7.heap.size w7) (.cells #[.slice p5 k.length c5,.slice p7 x.length c7] 70)) (.cells #[.slice none 0 0,.slice (some ⟨w7.heap.size,0,none⟩) 1 1,.slice (none) (0) (0)] 48)) C);clear X C d f;generalize L:0+(1+(0))=mm at *;have hg:=zh L;clear L;go_wp2_with fail
    go_meet
    have L:=hg.o;have hn:=HN.o;have V:w.heap.size≤wc.heap.size:=Nat.le_trans I.o.size (Nat.le_trans F.o.size H.o.size);refine ⟨s9,mm,c9,rfl,E.o,?_⟩;rw [Q.o];refine (gY (S:=fun b=>S1 b∨Nu w.heap.size w9 b) (iT hd.o N.o.size) rfl (by first | (simp;done) | (simp;omega)) ?_).mono fun b hb=>hb.elim id .inr;rw [show (List.take 0 ([]:List Pr)++(k,x) :: List.drop 0 []).length=0+(1+(0)) by first | (simp;done) | (simp;omega)];refine fo (by first | (simp;done) | (simp;omega)) (fun j hj=>?_) (fo (l1:=[(k,x)]) rfl (fun j hj=>?_) (fun j hj=>?_))
    ·rw [List.getD_eq_getElem?_getD,List.getElem?_take,if_pos hj,←List.getD_eq_getElem?_getD]
     exact ((T.o j (by omega)).below E.o).mono fun b hb=>.inl hb
    ·obtain rfl:j=0:=by omega
     exact ⟨p5,c5,p7,c7,rfl,(((dE hf.o).u8 (Stays.of_below (am P.o A.o)) V)).mono fun b hb=>.inr ⟨hb.1,.inl hb.2⟩,((dE he.o).u8 (Stays.of_below A.o) (Nat.le_trans V B.o.size)).mono fun b hb=>.inr ⟨hb.1,.inl hb.2⟩⟩
    ·first
     | exact absurd hj (by omega)
     | (rw [List.getD_eq_getElem?_getD,List.getElem?_drop,←List.getD_eq_getElem?_getD]
        exact ((T.o _ (by omega)).below E.o).mono fun b hb=>.inl hb)
   | some ad =>
    obtain ⟨b,off,rfl⟩:=Hc.o ad rfl;by_cases H4:cap=r
    ·subst H4
     have hA:l.length-cap=0:=by have:=HN.o;omega
     refine ay (S:=fun W=>W.cell? ⟨w.heap.size,0,none⟩=some (.slice p1 k.length c1)) 13 (by kernel_rfl) (by kernel_rfl) (by (try dsimp only);exact G.o) (fun hH=>?_);simp only [List.take_succ_cons,List.take_zero,List.drop_succ_cons,List.drop_zero]
     refine tkA 0 ?_;refine tkA 1 ?_;refine tkA 2 ?_;refine tkA 3 ?_;refine tkA 4 ?_;refine tkA 6 ?_;refine tkA 10 ?_;refine tkA 11 ?_;refine tkA 12 ?_;refine rd1 5 fun K hK=>?_;go_simp;go_at_call 30
     refine (bY _ (HK.o.below (am I.o (am F.o (am H.o (aw (Below.refl _ _)))))) (by omega)).mono ?_;rintro e w5 ⟨p5,c5,rfl,Z,D⟩;have hf:=zh Z;have B:=zh (am (aw (Below.refl wc.heap.size wc)) D);clear Z D;refine hK.out _ _ ?_ (fun hH=>?_)
     ·(try dsimp only);exact (B.o.cell (p:=⟨w.heap.size,0,none⟩) U.o).trans G.o
     clear hK K;try go_simp
     refine rd1 7 fun K hK=>?_;go_simp;go_at_call 30
     refine (bY _ (HX.o.below (am I.o (am F.o (am H.o B.o)))) (by omega)).mono ?_;rintro e w7 ⟨p7,c7,rfl,Y,M⟩;have he:=zh Y;have O:=zh (am B.o M);have P:=zh M;clear Y M;refine hK.out _ _ ?_ (fun hH=>?_)
     ·(try dsimp only);exact (O.o.cell (p:=⟨w.heap.size,0,none⟩) U.o).trans G.o
     clear hK K;try go_simp
     refine tkA 8 ?_;refine rd1 9 fun K hK=>?_;go_simp;refine hK.out _ _ ?_ (fun hH=>?_)
     ·(try dsimp only);exact aq _ ((O.o.cell (p:=⟨w.heap.size,0,none⟩) U.o).trans G.o)
     clear hK K;try go_simp
     refine wpAnyH_done (by kernel_rfl) ?_ _;dsimp only [aP];have f:=zh (kT (W:=(w7.alloc (.cells #[.slice p5 k.length c5,.slice p7 x.length c7] 70)).alloc (.cells #[.slice (some ⟨b,off,none⟩) a a,.slice (some ⟨w7.heap.size,0,none⟩) 1 1,.slice (some ⟨b,off,none⟩) (0) (0)] 48)) (ax _ _ _ _ (aj _ (.cells #[.slice p5 k.length c5,.slice p7 x.length c7] 70) _ rfl)));have N:=zh (am (am (am I.o (am F.o H.o)) O.o) (ag (ag (Below.refl w7.heap.size w7) (.cells #[.slice p5 k.length c5,.slice p7 x.length c7] 70)) (.cells #[.slice (some ⟨b,off,none⟩) a a,.slice (some ⟨w7.heap.size,0,none⟩) 1 1,.slice (some ⟨b,off,none⟩) (0) (0)] 48)));have d:=zh (iR (w:=w) (n:=l.length) (PrsAt.forms T.o) (fun h0=>by obtain ⟨b2,off2,e,_,_,hq⟩:=hc.o h0;injection e with e;injection e with e1 e2;subst e1 e2;exact hq) HN.o.1 (r:=cap) (m:=0) (by have:=HN.o;omega) (by omega) (fun h=>by cases h) (fun _=>rfl) (fun h=>by cases h) (fun h=>absurd h (by omega)) (aA (w7.alloc (.cells #[.slice p5 k.length c5,.slice p7 x.length c7] 70)) _ _ _ 0 _ (ah _ _) rfl) (aA _ _ _ _ 1 _ (ah _ _) rfl) (aA _ _ _ _ 2 _ (ah _ _) rfl) f.o rfl N.o);go_wp2_with fail
     refine d.o.mono ?_;rintro e w9 ⟨s9,c9,rfl,X,C⟩;have hd:=zh X;have E:=zh (am N.o C);have A:=zh (am (ag (ag (Below.refl w7.heap.size w7) (.cells #[.slice p5 k.length c5,.slice p7 x.length c7] 70)) (.cells #[.slice (some ⟨b,off,none⟩) a a,.slice (some ⟨w7.heap.size,0,none⟩) 1 1,.slice (some ⟨b,off,none⟩) (0) (0)] 48)) C);clear X C d f;generalize L:a+(1+(0))=mm at *;have hg:=zh L;clear L;go_wp2_with fail
     go_meet
     have L:=hg.o;have hn:=HN.o;have V:w.heap.size≤wc.heap.size:=Nat.le_trans I.o.size (Nat.le_trans F.o.size H.o.size);refine ⟨s9,mm,c9,rfl,E.o,?_⟩;rw [Q.o];refine (gY (S:=fun b=>S1 b∨Nu w.heap.size w9 b) (iT hd.o N.o.size) rfl (by first | (simp;done) | (simp;omega)) ?_).mono fun b hb=>hb.elim id .inr;rw [show (l.take a++(k,x) :: l.drop (cap)).length=a+(1+(0)) by first | (simp;done) | (simp;omega)];refine fo (by first | (simp;done) | (simp;omega)) (fun j hj=>?_) (fo (l1:=[(k,x)]) rfl (fun j hj=>?_) (fun j hj=>?_))
     ·rw [List.getD_eq_getElem?_getD,List.getElem?_take,if_pos hj,←List.getD_eq_getElem?_getD]
      exact ((T.o j (by omega)).below E.o).mono fun b hb=>.inl hb
     ·obtain rfl:j=0:=by omega
      exact ⟨p5,c5,p7,c7,rfl,(((dE hf.o).u8 (Stays.of_below (am P.o A.o)) V)).mono fun b hb=>.inr ⟨hb.1,.inl hb.2⟩,((dE he.o).u8 (Stays.of_below A.o) (Nat.le_trans V B.o.size)).mono fun b hb=>.inr ⟨hb.1,.inl hb.2⟩⟩
     ·first
      | exact absurd hj (by omega)
      | (rw [List.getD_eq_getElem?_getD,List.getElem?_drop,←List.getD_eq_getElem?_getD]
         exact ((T.o _ (by omega)).below E.o).mono fun b hb=>.inl hb)
    ·refine ay (S:=fun W=>W.cell? ⟨w.heap.size,0,none⟩=some (.slice p1 k.length c1)) 13 (by kernel_rfl) (by kernel_rfl) (by (try dsimp only);exact G.o) (fun hH=>?_)
     simp only [List.take_succ_cons,List.take_zero,List.drop_succ_cons,List.drop_zero]
     refine tkA 0 ?_;refine tkA 1 ?_;refine tkA 2 ?_;refine tkA 3 ?_;refine tkA 4 ?_;refine tkA 6 ?_;refine tkA 10 ?_;refine tkA 11 ?_;refine tkA 12 ?_;refine rd1 5 fun K hK=>?_;go_simp;go_at_call 30
     refine (bY _ (HK.o.below (am I.o (am F.o (am H.o (aw (Below.refl _ _)))))) (by omega)).mono ?_;rintro e w5 ⟨p5,c5,rfl,Z,D⟩;have hf:=zh Z;have B:=zh (am (aw (Below.refl wc.heap.size wc)) D);clear Z D;refine hK.out _ _ ?_ (fun hH=>?_)
     ·(try dsimp only);exact (B.o.cell (p:=⟨w.heap.size,0,none⟩) U.o).trans G.o
     clear hK K;try go_simp
     refine rd1 7 fun K hK=>?_;go_simp;go_at_call 30
     refine (bY _ (HX.o.below (am I.o (am F.o (am H.o B.o)))) (by omega)).mono ?_;rintro e w7 ⟨p7,c7,rfl,Y,M⟩;have he:=zh Y;have O:=zh (am B.o M);have P:=zh M;clear Y M;refine hK.out _ _ ?_ (fun hH=>?_)
     ·(try dsimp only);exact (O.o.cell (p:=⟨w.heap.size,0,none⟩) U.o).trans G.o
     clear hK K;try go_simp
     refine tkA 8 ?_;refine rd1 9 fun K hK=>?_;go_simp;refine hK.out _ _ ?_ (fun hH=>?_)
     ·(try dsimp only);exact aq _ ((O.o.cell (p:=⟨w.heap.size,0,none⟩) U.o).trans G.o)
     clear hK K;try go_simp
     refine wpAnyH_done (by kernel_rfl) ?_ _;dsimp only [aP];have f:=zh (kT (W:=(w7.alloc (.cells #[.slice p5 k.length c5,.slice p7 x.length c7] 70)).alloc (.cells #[.slice (some ⟨b,off,none⟩) a a,.slice (some ⟨w7.heap.size,0,none⟩) 1 1,.slice (some ⟨b,off+r * 2,none⟩) (l.length-r) (cap-r)] 48)) (ax _ _ _ _ (aj _ (.cells #[.slice p5 k.length c5,.slice p7 x.length c7] 70) _ rfl)));have N:=zh (am (am (am I.o (am F.o H.o)) O.o) (ag (ag (Below.refl w7.heap.size w7) (.cells #[.slice p5 k.length c5,.slice p7 x.length c7] 70)) (.cells #[.slice (some ⟨b,off,none⟩) a a,.slice (some ⟨w7.heap.size,0,none⟩) 1 1,.slice (some ⟨b,off+r * 2,none⟩) (l.length-r) (cap-r)] 48)));have d:=zh (iR (w:=w) (n:=l.length) (PrsAt.forms T.o) (fun h0=>by obtain ⟨b2,off2,e,_,_,hq⟩:=hc.o h0;injection e with e;injection e with e1 e2;subst e1 e2;exact hq) HN.o.1 (r:=r) (m:=l.length-r) (by have:=HN.o;omega) (by omega) (fun h=>by cases h) (fun _=>rfl) (fun h=>by cases h) (fun _=>rfl) (aA (w7.alloc (.cells #[.slice p5 k.length c5,.slice p7 x.length c7] 70)) _ _ _ 0 _ (ah _ _) rfl) (aA _ _ _ _ 1 _ (ah _ _) rfl) (aA _ _ _ _ 2 _ (ah _ _) rfl) f.o rfl N.o);go_wp2_with fail
     refine d.o.mono ?_;rintro e w9 ⟨s9,c9,rfl,X,C⟩;have hd:=zh X;have E:=zh (am N.o C);have A:=zh (am (ag (ag (Below.refl w7.heap.size w7) (.cells #[.slice p5 k.length c5,.slice p7 x.length c7] 70)) (.cells #[.slice (some ⟨b,off,none⟩) a a,.slice (some ⟨w7.heap.size,0,none⟩) 1 1,.slice (some ⟨b,off+r * 2,none⟩) (l.length-r) (cap-r)] 48)) C);clear X C d f;generalize L:a+(1+(l.length-r))=mm at *;have hg:=zh L;clear L;go_wp2_with fail
     go_meet
     have L:=hg.o;have hn:=HN.o;have V:w.heap.size≤wc.heap.size:=Nat.le_trans I.o.size (Nat.le_trans F.o.size H.o.size);refine ⟨s9,mm,c9,rfl,E.o,?_⟩;rw [Q.o];refine (gY (S:=fun b=>S1 b∨Nu w.heap.size w9 b) (iT hd.o N.o.size) rfl (by first | (simp;done) | (simp;omega)) ?_).mono fun b hb=>hb.elim id .inr;rw [show (l.take a++(k,x) :: l.drop (r)).length=a+(1+(l.length-r)) by first | (simp;done) | (simp;omega)];refine fo (by first | (simp;done) | (simp;omega)) (fun j hj=>?_) (fo (l1:=[(k,x)]) rfl (fun j hj=>?_) (fun j hj=>?_))
     ·rw [List.getD_eq_getElem?_getD,List.getElem?_take,if_pos hj,←List.getD_eq_getElem?_getD]
      exact ((T.o j (by omega)).below E.o).mono fun b hb=>.inl hb
     ·obtain rfl:j=0:=by omega
      exact ⟨p5,c5,p7,c7,rfl,(((dE hf.o).u8 (Stays.of_below (am P.o A.o)) V)).mono fun b hb=>.inr ⟨hb.1,.inl hb.2⟩,((dE he.o).u8 (Stays.of_below A.o) (Nat.le_trans V B.o.size)).mono fun b hb=>.inr ⟨hb.1,.inl hb.2⟩⟩
     ·first
      | exact absurd hj (by omega)
      | (rw [List.getD_eq_getElem?_getD,List.getElem?_drop,←List.getD_eq_getElem?_getD]
         exact ((T.o _ (by omega)).below E.o).mono fun b hb=>.inl hb)
  case rest =>
   obtain ⟨s9,n9,c9,rfl,C,hw⟩:=hcut;have Ha:=zh hw;have E:=zh C;have R:=hU
   have hs:(cn (fc l k x):Int)≤4611686018427387904:=by
    have h1:=ns (fc l k x);have h2:=qh k x l;have h3:=H8.o;have:=Hf.o;omega
   have H9:=zh (qq _ hw.1 hs);clear hU hw C hs;clear Q;generalize fc l k x=l9 at *;generalize cn l9=z9 at *;go_wp2_with fail
   refine H9.o.mono ?_;rintro e w5 ⟨rfl,D⟩;have B:=zh (am E.o D);have Hb:=zh (StAt.mono (StAt.keep Ha.o (Stays.of_below D)) (fun b hb=>hb.imp id (fun h=>(⟨h.1,h.2.imp (fun q=>q.keep (D.block _ q.lt)) (fun q=>q.keep (D.block _ q.lt))⟩:Nu w.heap.size w5 b))));clear D;by_cases hq:2048<z9
   ·have ho:=R.o
    rw [if_pos hq] at ho;subst ho;have H2:(2048:Int)<(z9:Int):=by omega
    clear R;go_wp2_with fail
    exact bodyPost_ret (v:=.tuple #[.slice none 0 0,.int .i64 71]) (by simp [results,Tryz.results155,go_sem]) rfl ⟨rfl,B.o⟩
   ·have ho:=R.o
    rw [if_neg hq] at ho;subst ho;have H2:¬(2048:Int)<(z9:Int):=by omega
    clear R;go_wp2_with fail
    exact bodyPost_ret (v:=.tuple #[.slice s9 n9 c9,.int .i64 0]) (by simp [results,Tryz.results155,go_sem]) rfl ⟨⟨s9,n9,c9,rfl,Hb.o⟩,B.o⟩
theorem yM {v kv vv:Value} {k x:List UInt8} {l:List Pr} {S1 S2 S3:Nat→Prop} (w:World) (h:StAt S1 w v l) (hk:TxtAt S2 w kv k) (hx:TxtAt S3 w vv x) (hl:a8 l=true) (B:k.length≤100000) (A:x.length≤100000) :
    Calls Tryz.prog 155 #[v,kv,vv] w (pJ S1 w (fw l k x)):=by
 obtain ⟨p1,c1,rfl,_⟩:=hk.form;obtain ⟨p2,c2,rfl,_⟩:=hx.form;by_cases q:64<k.length∨256<x.length
 ·unfold fw
  rw [if_pos q];obtain ⟨p,n,c,e,_⟩:=h.2;exact zr w ⟨p,n,c,e⟩ rfl A B q
 ·exact vB w h hk hx rfl hl (by omega) (by omega)
end
section
open Go.RowKit
attribute [local go_sem ↓] Go.wp_at_zero Go.wp_at_succ
structure Jo where
 pairs:List Pr
 undo:List (List Pr)
def JS (w:World) (b:Nat):Prop:=OfTy w b 5∨OfTy w b 70∨OfTy w b 48∨OfTy w b 31
def JT (JB U:Nat) (w:World) (k:Nat):Prop:=k=JB∨(U≤k∧OfTy w k 1)
def UnC (w:World) (JB:Nat) (v:Value) (l:List Pr):Prop:=∃wb jb p n c,v=.func (.func 187) #[] #[.pointer (some ⟨wb,0,none⟩),.pointer (some ⟨jb,0,none⟩)] ∧
 w.heap[wb]?=some (.cells #[.slice p n c] 48 (0,0))∧w.heap[jb]?=some (.cells #[.pointer (some ⟨JB,0,none⟩)] 31 (0,0))∧StAt (JS w) w (.slice p n c) l
structure JAt (U:Nat) (w:World) (JB:Nat) (j:Jo) (N:Nat):Prop where
 box:∃p n c uv fs,w.heap[JB]?=some (.cells #[.slice p n c,uv] 68 (0,0))∧StAt (JS w) w (.slice p n c) j.pairs∧w.ownsRow U 1 1 uv j.undo.length fs∧∀i,i<j.undo.length→∃f,fs[i]?=some f∧UnC w JB f (j.undo.getD i [])
 right:a8 j.pairs=true
 rights:∀l∈j.undo,a8 l=true
 few:j.undo.length≤N
section
variable {w w':World} {JB U b N:Nat} {j:Jo} {l:List Pr} {v:Value}
theorem JS.keep (h:JS w b) (hb:w'.heap[b]?=w.heap[b]?):JS w' b:=h.imp (fun q=>q.keep hb) (fun q=>q.imp (fun q=>q.keep hb) (fun q=>q.imp (fun q=>q.keep hb) (fun q=>q.keep hb)))
theorem JS.lt (h:JS w b):b<w.heap.size:=by rcases h with h | h | h | h<;>exact h.lt
theorem JS.not (h:JS w b) (hj:OfTy w JB 68):¬JT JB U w b:=fun q=>by
 rcases q with rfl | ⟨_,q⟩
 ·rcases h with h | h | h | h
  ·exact h.ne hj (by decide) rfl
  ·exact h.ne hj (by decide) rfl
  ·exact h.ne hj (by decide) rfl
  ·exact h.ne hj (by decide) rfl
 ·rcases h with h | h | h | h
  ·exact h.ne q (by decide) rfl
  ·exact h.ne q (by decide) rfl
  ·exact h.ne q (by decide) rfl
  ·exact h.ne q (by decide) rfl
theorem StAt.js (h:StAt (JS w) w v l) (hs:Stays (JS w) w w'):StAt (JS w') w' v l:=(h.keep hs).mono fun b hb=>hb.keep (hs.block b hb hb.lt)
theorem UnC.keep (h:UnC w JB v l) (hs:Stays (JS w) w w'):UnC w' JB v l:=by
 obtain ⟨wb,jb,p,n,c,e,h1,h2,h3⟩:=h;exact ⟨wb,jb,p,n,c,e,(hs.block wb (.inr (.inr (.inl ⟨_,_,h1⟩))) (af h1)).trans h1,(hs.block jb (.inr (.inr (.inr ⟨_,_,h2⟩))) (af h2)).trans h2,h3.js hs⟩
theorem JAt.ty (h:JAt U w JB j N):OfTy w JB 68:=by
 obtain ⟨p,n,c,uv,fs,h1,_⟩:=h.box;exact ⟨_,_,h1⟩
theorem JAt.keep (h:JAt U w JB j N) (hs:Stays (JS w) w w') (hj:w'.heap[JB]?=w.heap[JB]?) (hu:∀k,U≤k→OfTy w k 1→w'.heap[k]?=w.heap[k]?):JAt U w' JB j N:=by
 obtain ⟨p,n,c,uv,fs,h1,h2,h3,h4⟩:=h.box;refine ⟨⟨p,n,c,uv,fs,hj.trans h1,h2.js hs,fU h3 fun k q=>hu k (aI h3 q).1 (dA h3 q),fun i hi=>?_⟩,h.right,h.rights,h.few⟩;obtain ⟨f,e,q⟩:=h4 i hi;exact ⟨f,e,q.keep hs⟩
theorem JAt.below (h:JAt U w JB j N) (hb:Below w.heap.size w w'):JAt U w' JB j N:=h.keep (Stays.of_below hb) (hb.block _ h.ty.lt) (fun k _ q=>hb.block k q.lt)
theorem JAt.mono {N':Nat} (h:JAt U w JB j N) (hn:N≤N'):JAt U w JB j N':=⟨h.box,h.right,h.rights,Nat.le_trans h.few hn⟩
theorem JS.of_nu {B:Nat} (h:Nu B w b):JS w b:=h.2.elim .inl (fun q=>.inr (.inl q))
theorem StAt.grown {w0:World} (h:StAt (fun b=>JS w0 b∨Nu w0.heap.size w b) w v l) (hb:Below w0.heap.size w0 w):StAt (JS w) w v l:=h.mono fun b A=>A.elim (fun q=>q.keep (hb.block b q.lt)) JS.of_nu
end
theorem xA {S:Nat→Prop} {U JB N:Nat} {j:Jo} {kv:Value} {k:List UInt8} (w:World) (h:JAt U w JB j N) (hk:TxtAt S w kv k):Calls Tryz.prog 182 #[.pointer (some ⟨JB,0,none⟩),kv] w fun e w'=>∃p c,e=.returned (.tuple #[.slice p ((fQ j.pairs k).getD []).length c,.bool (fQ j.pairs k).isSome])∧TxtAt (U8 w.heap.size w') w' (.slice p ((fQ j.pairs k).getD []).length c) ((fQ j.pairs k).getD [])∧Below w.heap.size w w':=by
 obtain ⟨p,n,c,uv,fs,h1,h2,h3,h4⟩:=h.box;have HG:=zh (Br w h2.1 hk (dd h.right).1);obtain ⟨s1,c1,rfl,_⟩:=ba h3;have x0:=aa h1 (j:=0) (u:=.slice p n c) rfl;obtain ⟨pk,ck,rfl,_⟩:=hk.form;generalize fQ j.pairs k=o at *;clear h h1 h2 h3 h4 hk;go_enter Tryz.func182,Tryz.ntmps182
 go_wp2_with fail
 refine HG.o.mono ?_;rintro e w1 ⟨p1,c1,rfl,ht,hb⟩;have HT:=zh ht;have HB:=zh hb;clear ht hb;generalize hL:(o.getD []).length=L at *;have HL:=zh hL;clear hL;generalize hI:o.isSome=I at *;have HI:=zh hI;clear hI;go_wp2_with fail
 refine bodyPost_ret (v:=.tuple #[.slice p1 L c1,.bool I]) (by simp [results,Tryz.results182,go_sem]) rfl ?_;have hl:=HL.o;have hi:=HI.o;subst hl hi;exact ⟨p1,c1,rfl,HT.o,HB.o⟩
theorem Cl:∃i,Tryz.prog.info? 1=some i∧i.zero=some .nilFunc∧i.size=1∧i.bytes=8:=by
 have h:(Tryz.prog.info? 1).map (fun i=>(i.zero,i.size,i.bytes))=some (some .nilFunc,1,8):=by kernel_rfl
 obtain ⟨i,hi,he⟩:=Option.map_eq_some_iff.1 h;exact ⟨i,hi,congrArg (·.1) he,congrArg (·.2.1) he,congrArg (·.2.2) he⟩
theorem zb {U JB N A:Nat} {j:Jo} {l:List Pr} {w w7:World} {p s1 s7 pl:Option Addr} {n c c1 c7 nl cl:Nat} {fs:List Value} (hA:w.heap.size=A) (h2:StAt (JS w) w (.slice p n c) j.pairs)
    (h4:∀i,i<j.undo.length→∃f,fs[i]?=some f∧UnC w JB f (j.undo.getD i [])) (h3:fs.length=j.undo.length) (h:JAt U w JB j N) (hl:StAt (JS w) w (.slice pl nl cl) l) (hr:a8 l=true)
    (E:w7.heap[JB]?=some (.cells #[.slice p n c,.slice s1 j.undo.length c1] 68 (0,0))) (I:w7.heap[A]?=some (.cells #[.pointer (some ⟨JB,0,none⟩)] 31 (0,0))) (H:w7.heap[A+1]?=some (.cells #[.slice p n c] 48 (0,0)))
    (D:w7.ownsRow U 1 1 (.slice s7 (j.undo.length+1) c7) (j.undo.length+1) (fs++[.func (.func 187) #[] #[.pointer (some ⟨A+1,0,none⟩),.pointer (some ⟨A,0,none⟩)]]))
    (G:OnS (fun k=>U≤k∧OfTy w k 1) w w7) (K:JB<A) :
    JAt U ((w7.setCell ⟨JB,1,none⟩ (.slice s7 (j.undo.length+1) c7)).setCell ⟨JB,0,none⟩ (.slice pl nl cl)) JB ⟨l,j.undo++[j.pairs]⟩ (N+1)∧OnS (JT JB U w) w ((w7.setCell ⟨JB,1,none⟩ (.slice s7 (j.undo.length+1) c7)).setCell ⟨JB,0,none⟩ (.slice pl nl cl)):=by
 subst hA;have C:OnS (JT JB U w) w ((w7.setCell ⟨JB,1,none⟩ (.slice s7 (j.undo.length+1) c7)).setCell ⟨JB,0,none⟩ (.slice pl nl cl)):=((G.mono fun k hk=>.inr hk).set (.inl rfl) 1 _).set (.inl rfl) 0 _;have hs:Stays (JS w) w ((w7.setCell ⟨JB,1,none⟩ (.slice s7 (j.undo.length+1) c7)).setCell ⟨JB,0,none⟩ (.slice pl nl cl)):=C.stays fun b hb=>hb.not h.ty;have B:∀b,b≠JB→((w7.setCell ⟨JB,1,none⟩ (.slice s7 (j.undo.length+1) c7)).setCell ⟨JB,0,none⟩ (.slice pl nl cl)).heap[b]?=w7.heap[b]?:=fun b hb=>(ak _ _ _ _ hb).trans (ak _ _ _ _ hb);have F:OfTy w7 JB 68:=⟨_,_,E⟩
 refine ⟨⟨⟨pl,nl,cl,.slice s7 (j.undo.length+1) c7,fs++[.func (.func 187) #[] #[.pointer (some ⟨w.heap.size+1,0,none⟩),.pointer (some ⟨w.heap.size,0,none⟩)]],au (au E 1 _) 0 _,hl.js hs,?_,fun i hi=>?_⟩,hr,fun q hq=>?_,?_⟩,C⟩
 ·rw [List.length_append]
  exact fU D fun k q=>B k ((dA D q).ne F (by decide))
 ·by_cases e:i<j.undo.length
  ·obtain ⟨f,e1,e2⟩:=h4 i e
   refine ⟨f,by rw [List.getElem?_append_left (by omega)];exact e1,?_⟩;rw [iw _ _ _ e];exact e2.keep hs
  ·have J:i<j.undo.length+1:=by simpa using hi
   obtain rfl:i=j.undo.length:=by omega
   refine ⟨_,by rw [List.getElem?_append_right (by omega),h3,Nat.sub_self];rfl,?_⟩;rw [hY];exact ⟨_,_,p,n,c,rfl,(B _ (by omega)).trans H,(B _ (by omega)).trans I,h2.js hs⟩
 ·rcases List.mem_append.1 hq with hq | hq
  ·exact h.rights q hq
  ·rw [List.mem_singleton.1 hq]
   exact h.right
 ·have:=h.few
  simp
  omega
theorem rK {U JB N:Nat} {j:Jo} {lv:Value} {l:List Pr} (w:World) (h:JAt U w JB j N) (hl:StAt (JS w) w lv l) (hr:a8 l=true) (hU:U≤w.heap.size) (hN:N≤10000000) :
    Calls Tryz.prog 156 #[.pointer (some ⟨JB,0,none⟩),lv] w fun e w'=>e=.returned (.tuple #[])∧JAt U w' JB ⟨l,j.undo++[j.pairs]⟩ (N+1)∧OnS (JT JB U w) w w':=by
 obtain ⟨p,n,c,uv,fs,h1,h2,h3,h4⟩:=h.box;have HJ:=zh h;have HL:=zh hl;have HR:=zh hr;have HU:=zh hU;have H1:=zh h1;have H2:=zh h2;have H3:=zh h3;have H4:=zh h4;have C:=zh h.few;have HN:=zh hN;obtain ⟨s1,c1,rfl,_⟩:=ba h3;obtain ⟨_,pl,nl,cl,rfl,_⟩:=hl;have x0:=aa h1 (j:=0) (u:=.slice p n c) rfl;have x1:=aa h1 (j:=1) (u:=.slice s1 j.undo.length c1) rfl;have y0:=ae h1 0;have y1:=ae h1 1;have I:=af h1;clear h h1 h2 h3 h4 hr hU;go_enter Tryz.func156,Tryz.ntmps156
 go_upto_region 2 with fail
 have E:Below w.heap.size w ((w.alloc (.cells #[.pointer (some ⟨JB,0,none⟩)] 31)).alloc (.cells #[.slice p n c] 48)):=ag (ag (Below.refl _ _) _) _;have M:=zh E;have L:=zh ((E.block JB I).trans H1.o);have P:Hd (((w.alloc (.cells #[.pointer (some ⟨JB,0,none⟩)] 31)).alloc (.cells #[.slice p n c] 48)).heap[w.heap.size]?=some (.cells #[.pointer (some ⟨JB,0,none⟩)] 31 (0,0))):=zh (ax _ _ _ _ (aj _ _ _ rfl));have X:Hd (((w.alloc (.cells #[.pointer (some ⟨JB,0,none⟩)] 31)).alloc (.cells #[.slice p n c] 48)).heap[w.heap.size+1]?=some (.cells #[.slice p n c] 48 (0,0))):=zh (aj _ _ _ (ah _ _));have G:=zh (fY (base:=U) H3.o (Stays.of_below E));obtain ⟨i0,T,d,a,Z⟩:=Cl;have HI:=zh T;clear T E x0 x1 y0 y1;generalize ((w.alloc (.cells #[.pointer (some ⟨JB,0,none⟩)] 31)).alloc (.cells #[.slice p n c] 48))=w2 at *;generalize hA:w.heap.size=A at *;have H:=zh hA;clear hA;have F:Hd (w2.cell? ⟨A,0,none⟩=some (.pointer (some ⟨JB,0,none⟩))∧w2.cell? ⟨JB,1,none⟩=some (.slice s1 j.undo.length c1)):=zh ⟨aa P.o rfl,aa L.o rfl⟩;have r:Hd (U≤w2.heap.size):=zh (by have:=M.o.size;have:=HU.o;have:=H.o;omega);refine ay (S:=fun W=>W.cell? ⟨A,0,none⟩=some (.pointer (some ⟨JB,0,none⟩))∧W.cell? ⟨JB,1,none⟩=some (.slice s1 j.undo.length c1)) 8 (by kernel_rfl) (by kernel_rfl) (by (try dsimp only);exact F.o) (fun hH=>?_);simp only [List.take_succ_cons,List.take_zero,List.drop_succ_cons,List.drop_zero]
 refine tkA 0 ?_;refine tkA 1 ?_;refine tkA 2 ?_;refine tkA 3 ?_;refine tkA 4 ?_;refine tkA 5 ?_;refine rd1 6 fun K hK=>?_;go_simp;refine hK.out _ _ ?_ (fun hH=>?_)
 ·(try dsimp only);exact ⟨aq _ F.o.1,aq _ F.o.2⟩
 clear hK K;try go_simp
 have D:Hd (Below w2.heap.size w2 (w2.alloc (.cells #[.func (.func 187) #[] #[.pointer (some ⟨A+1,0,none⟩),.pointer (some ⟨A,0,none⟩)]] 1)).drew):=zh (aw (ag (Below.refl _ _) _));have t:=zh (fY (base:=U) G.o (Stays.of_below D.o));have v:Hd ((w2.alloc (.cells #[.func (.func 187) #[] #[.pointer (some ⟨A+1,0,none⟩),.pointer (some ⟨A,0,none⟩)]] 1)).drew.heap[w2.heap.size]?=some (.cells #[.func (.func 187) #[] #[.pointer (some ⟨A+1,0,none⟩),.pointer (some ⟨A,0,none⟩)]] 1 (0,0))):=zh (aj w2 _ _ rfl);refine rd1 7 fun K hK=>?_;refine fy rfl _ _ _ rfl U 1 i0 .nilFunc 1 8 Tryz.underlying66 HI.o d a Z rfl (by decide) _ _ _ rfl t.o _ _ _ [.func (.func 187) #[] #[.pointer (some ⟨A+1,0,none⟩),.pointer (some ⟨A,0,none⟩)]] rfl (fun h=>by cases h) rfl (fun ad e j u hj=>?_) (fun u hu=>?_) ?_ ?_ (Nat.le_trans r.o D.o.size) (fun s7 c7 w7 Q V=>?_)
 ·injection e with e
  subst e;rw [Go.WideShapes.add_plain,Nat.zero_add];exact aa v.o (by simpa using hj)
 ·rcases List.mem_cons.1 hu with rfl | hu
  ·rfl
  ·cases hu
 ·have:=C.o
  have:=HN.o;unfold maxLen;omega
 ·have:=C.o
  have:=HN.o;omega
 have s:=zh Q;have Y:=zh (show (w2.alloc (.cells #[.func (.func 187) #[] #[.pointer (some ⟨A+1,0,none⟩),.pointer (some ⟨A,0,none⟩)]] 1)).drew.grownBy w7 (Value.slice s1 j.undo.length c1).ownBlock from V);have J:Hd (∀(b:Nat) (o:Obj),w2.heap[b]?=some o→¬OfTy w2 b 1→w7.heap[b]?=some o):=zh (fun b o ho hn=>(Y.o.block b (af ((D.o.block b (af ho)).trans ho)) (fun e=>hn ((dA G.o e.symm)))).trans ((D.o.block b (af ho)).trans ho));have B:=zh (J.o JB _ L.o (fun q=>q.ne (⟨_,_,L.o⟩:OfTy w2 JB 68) (by decide) rfl));have O:=zh (J.o A _ P.o (fun q=>q.ne (⟨_,_,P.o⟩:OfTy w2 A 31) (by decide) rfl));clear Q V;refine hK.out _ _ ?_ (fun hH=>?_)
 ·(try dsimp only);exact ⟨aa O.o rfl,aa B.o rfl⟩
 clear hK K;try go_simp
 refine wpAnyH_done (by kernel_rfl) ?_ _;dsimp only [aP];clear F hH;have x0:=aa B.o (j:=0) (u:=.slice p n c) rfl;have x1:=aa B.o (j:=1) (u:=.slice s1 j.undo.length c1) rfl;have y0:=ae B.o 0;have y1:=ae B.o 1;have z0:=aa O.o (j:=0) (u:=.pointer (some ⟨JB,0,none⟩)) rfl;have x:JB≠A:=Nat.ne_of_lt I;have m:=zh (J.o (A+1) _ X.o (fun q=>q.ne (⟨_,_,X.o⟩:OfTy w2 (A+1) 48) (by decide) rfl));go_wp2_with fail
 have f:OnS (fun k=>U≤k∧OfTy w k 1) w w7:=by
  have i:Below w.heap.size w (w2.alloc (.cells #[.func (.func 187) #[] #[.pointer (some ⟨A+1,0,none⟩),.pointer (some ⟨A,0,none⟩)]] 1)).drew:=by
   have q:=M.o;rw [←H.o] at q;exact am q D.o
  refine OnS.new (OnS.of_below i) (OnS.of_grown Y.o fun k hk=>?_) fun k hk=>hk;have g:=aI G.o hk;by_cases R:k<w.heap.size
  ·exact .inl ⟨g.1,(dA G.o hk).keep (Eq.symm (by have:=M.o.block k (by rw [←H.o];exact R);exact this))⟩
  ·exact .inr (Nat.le_of_not_lt R)
 obtain ⟨f1,f2⟩:=zb (s1:=s1) (c1:=c1) H.o H2.o H4.o (by have:=H3.o.1;omega) HJ.o HL.o HR.o B.o O.o m.o s.o f I;exact bodyPost_end (by simp [results,Tryz.results156,go_sem]) rfl ⟨rfl,f1,f2⟩
end
end Go.Proofs.YthgcpfkochikfaaGreat
