/-
  EvalLoops: part 6 of its proof: see the last text.
-/
import Derived.Test.YthgcpfkochikfaaGreatPq05
import Derived.Deep.DeepCutAuto
set_option maxRecDepth 100000
set_option maxHeartbeats 16000000
namespace Go.Proofs.YthgcpfkochikfaaGreat
section
open Go.RowKit
attribute [local go_sem ↓] Go.wp_at_zero Go.wp_at_succ
theorem uH {v vv:Value} {p1 p2:Option Addr} {k x:List UInt8} {c1 c2:Nat} {l:List Pr} {S1 S2 S3:Nat→Prop} (w:World) (h:StAt S1 w v l) (hk:TxtAt S2 w (.slice p1 k.length c1) k) (hx:TxtAt S3 w (.slice p2 x.length c2) x) (hv:vv=.slice p2 x.length c2) (hl:aV l=true) (hP:k.length≤64) (hL:x.length≤256) :
    Calls Tryz.prog 155 #[v,.slice p1 k.length c1,vv] w (pF S1 w (fE l k x)):=by
 subst hv;obtain ⟨hs,hM,hu⟩:=cg hl;have h7:=eW hu;have H8:=zh hu;have Hf:=zh (And.intro hP hL);obtain ⟨hp,s0,n0,cap,rfl,J⟩:=h;have hU:Hd (fE l k x=if 2048<bT (eY l k x) then .error 71 else .ok (eY l k x)):=zh (by unfold fE;rw [if_neg (by omega)]);have Q:=zh (mL k x hM);have u:=ag (Below.refl w.heap.size w) (.cells #[.slice p1 k.length c1] 30);have hB:(w.alloc (.cells #[.slice p1 k.length c1] 30)).cell? ⟨w.heap.size,0,none⟩=some (.slice p1 k.length c1):=aA _ _ _ _ _ _ rfl rfl;have HF:=zh (mP _ (hp.below u) (hk.below u));have HP:=zh hp;have HK:=zh hk;have HX:=zh hx;obtain ⟨cs,hr,ht⟩:=hp;have hy:w.heap.size<(w.alloc (.cells #[.slice p1 k.length c1] 30)).heap.size:=by rw [ah];exact Nat.lt_succ_self _
 have hG:=zh (fun W (hW:Below (w.alloc (.cells #[.slice p1 k.length c1] 30)).heap.size (w.alloc (.cells #[.slice p1 k.length c1] 30)) W)=>qM 185 w.heap.size (fun i=>gtK k (l.getD i default)) (ixP (gtK k) l) W (fun _ _=>Tryz.call185 _ _) (hr.keep (Stays.of_below (am u hW))) (PrsAt.forms ht) (jS _ _) (fun i hi=>sY _ l i hi) (qd _ l)
   (fun i hi W2 hE=>wD _ W2 ((ht i hi).below (am (am u hW) hE)) (hk.below (am (am u hW) hE)) (((am hW hE).cell (p:=⟨w.heap.size,0,none⟩) hy).trans hB)))
 have I:=zh u;have Hh:=zh hB;have He:=zh hy;obtain ⟨s0',cap',e0,hN,hR,h6,h5,_⟩:=hr;injection e0 with e1 e2 e3
 subst e1 e2 e3;have hc:=zh h5;have hF:=zh h6;have Hc:=zh J;have T:=zh ht;have hm:Hd (lQ l k=if ixP (isK k) l<l.length then ixP (isK k) l else ixP (gtK k) l):=zh rfl;have hh:Hd (lO l k=if ixP (isK k) l<l.length then ixP (isK k) l+1 else ixP (gtK k) l):=zh rfl;have hX:=zh (And.intro (zk l k) (xS l k));have H0:=zh (jS (gtK k) l);unfold atI at HF;generalize ixP (isK k) l=ik at *;generalize ixP (gtK k) l=ig at *;have k1:¬(64:Int)<(k.length:Int):=by omega
 have k2:¬(256:Int)<(x.length:Int):=by omega
 have HL:=zh (And.intro h7 (And.intro hN hR));generalize fE l k x=o at *;generalize H6:lQ l k=a at *;generalize H5:lO l k=r at *;have hO:(l.length:Int)≤256:=by omega
 clear H6 H5 hl hP hL hs hM hu hk hx u hB hy h5 h6 J ht hN hR h7;go_enter Tryz.func155,Tryz.ntmps155
 go_wp2_with fail
 refine HF.o.mono ?_;rintro e w1 ⟨rfl,hD⟩;have F:=zh hD;have t:w1.cell? ⟨w.heap.size,0,none⟩=some (.slice p1 k.length c1):=(hD.cell (p:=⟨w.heap.size,0,none⟩) He.o).trans Hh.o;clear hD HF;have Hg:Hd ((if ik<l.length then (ik:Int) else -1)=(if ik<l.length then (ik:Int) else -1)):=zh rfl;generalize hz:(if ik<l.length then (ik:Int) else -1)=z at *;have HZ:=zh hz;clear hz Hg;go_upto_if 25 with fail
 go_cut [8,9] (fun t8 t9 wx=>t8=.int .i64 (a:Int)∧t9=.int .i64 (r:Int)∧Below w1.heap.size w1 wx)
 case first =>
  by_cases y:ik<l.length
  ·have h4:=HZ.o
   rw [if_pos y] at h4;subst h4;have ha:=hm.o;have hr:=hh.o;rw [if_pos y] at ha hr;subst ha hr;have q1:¬(a:Int)<0:=by omega
   have q2:(a:Int)≤256:=by omega
   clear hm hh y;go_wp2_with fail
   go_meet
   exact ⟨rfl,by rw [show wrap64 ((a:Int)+1)=(a:Int)+1 by unfold wrap64;omega];rfl,Below.refl _ _⟩
  ·have h4:=HZ.o
   rw [if_neg y] at h4;subst h4;have ha:=hm.o;have hr:=hh.o;rw [if_neg y] at ha hr;subst ha hr;have HI:=zh (hG.o w1 F.o);clear hm hh y hG;by_cases hQ:r<l.length
   ·rw [if_pos hQ] at HI
    have q1:¬(r:Int)<0:=by omega
    go_wp2_with fail
    refine HI.o.mono ?_;rintro e w2 ⟨rfl,h9⟩;have hI:=zh h9;clear h9;go_wp2_with fail
    go_meet
    exact ⟨rfl,rfl,hI.o⟩
   ·rw [if_neg hQ] at HI
    have hV:Hd (r=l.length):=zh (by have:=H0.o;omega);go_wp2_with fail
    refine HI.o.mono ?_;rintro e w2 ⟨rfl,h9⟩;have hI:=zh h9;clear h9;go_wp2_with fail
    go_meet
    exact ⟨by rw [hV.o],by rw [hV.o],hI.o⟩
 case rest =>
  obtain ⟨rfl,rfl,hC⟩:=hcut;have H:=zh hC;have g:wc.cell? ⟨w.heap.size,0,none⟩=some (.slice p1 k.length c1):=(hC.cell (p:=⟨w.heap.size,0,none⟩) (az t)).trans t;clear HZ hm hh hG H0 hC t;go_upto_region 10 with fail
  go_cut [10] (fun t10 wx=>∃s n c,t10=.slice s n c∧Below w.heap.size w wx∧StAt (fun b=>S1 b∨Nu w.heap.size wx b) wx (.slice s n c) (eY l k x))
  case first =>
   have G:=zh g;have U:Hd (w.heap.size<wc.heap.size):=zh (az g);have hS:r≤l.length:=hX.o.2;have hT:a≤l.length:=hX.o.1;have h8:=HL.o.2.1;have i1:(0:Int)≤(a:Int):=by omega
   have i2:(a:Int)≤(cap:Int):=by omega
   have i3:(r:Int)≤(l.length:Int):=by omega
   have i4:(0:Int)≤(r:Int):=by omega
   have HN:=zh (And.intro hT (And.intro hS h8));clear g hT hS h8
   cases s0 with
   | none =>
    have H3:=hF.o rfl;subst H3;have hA:l.length=0:=by have:=HN.o;omega
    have H7:a=0:=by have:=HN.o;omega
    have H1:r=0:=by have:=HN.o;omega
    subst H7 H1;obtain rfl:l=[]:=List.eq_nil_of_length_eq_zero hA;have Hi:Hd True:=zh trivial;clear hA;refine ay (S:=fun W=>W.cell? ⟨w.heap.size,0,none⟩=some (.slice p1 k.length c1)) 13 (by kernel_rfl) (by kernel_rfl) (by (try dsimp only);exact G.o) (fun hH=>?_);simp only [List.take_succ_cons,List.take_zero,List.drop_succ_cons,List.drop_zero]
    refine tkA 0 ?_;refine tkA 1 ?_;refine tkA 2 ?_;refine tkA 3 ?_;refine tkA 4 ?_;refine tkA 6 ?_;refine tkA 10 ?_;refine tkA 11 ?_;refine tkA 12 ?_;refine rd1 5 fun K hK=>?_;go_simp;go_at_call 30
    refine (cf _ (HK.o.below (am I.o (am F.o (am H.o (aw (Below.refl _ _)))))) (by omega)).mono ?_;rintro e w5 ⟨p5,c5,rfl,Z,D⟩;have hf:=zh Z;have B:=zh (am (aw (Below.refl wc.heap.size wc)) D);clear Z D;refine hK.out _ _ ?_ (fun hH=>?_)
    ·(try dsimp only);exact (B.o.cell (p:=⟨w.heap.size,0,none⟩) U.o).trans G.o
    clear hK K;try go_simp
    refine rd1 7 fun K hK=>?_;go_simp;go_at_call 30
    refine (cf _ (HX.o.below (am I.o (am F.o (am H.o B.o)))) (by omega)).mono ?_;rintro e w7 ⟨p7,c7,rfl,Y,M⟩;have he:=zh Y;have O:=zh (am B.o M);have P:=zh M;clear Y M;refine hK.out _ _ ?_ (fun hH=>?_)
    ·(try dsimp only);exact (O.o.cell (p:=⟨w.heap.size,0,none⟩) U.o).trans G.o
    clear hK K;try go_simp
    refine tkA 8 ?_;refine rd1 9 fun K hK=>?_;go_simp;refine hK.out _ _ ?_ (fun hH=>?_)
    ·(try dsimp only);exact aq _ ((O.o.cell (p:=⟨w.heap.size,0,none⟩) U.o).trans G.o)
    clear hK K;try go_simp
    refine wpAnyH_done (by kernel_rfl) ?_ _;dsimp only [aP];have f:=zh (lI (W:=(w7.alloc (.cells #[.slice p5 k.length c5,.slice p7 x.length c7] 70)).alloc (.cells #[.slice none 0 0,.slice (some ⟨w7.heap.size,0,none⟩) 1 1,.slice (none) (0) (0)] 48)) (ax _ _ _ _ (aj _ (.cells #[.slice p5 k.length c5,.slice p7 x.length c7] 70) _ rfl)));have N:=zh (am (am (am I.o (am F.o H.o)) O.o) (ag (ag (Below.refl w7.heap.size w7) (.cells #[.slice p5 k.length c5,.slice p7 x.length c7] 70)) (.cells #[.slice none 0 0,.slice (some ⟨w7.heap.size,0,none⟩) 1 1,.slice (none) (0) (0)] 48)));have d:=zh (iR (w:=w) (n:=0) (a:=0) (b:=0) (off:=0) (PrsAt.forms T.o) (fun h0=>absurd h0 (Nat.lt_irrefl 0)) HN.o.1 (r:=0) (m:=0) (by have:=HN.o;omega) (by omega) (fun _=>⟨rfl,rfl⟩) (fun h=>absurd h (by omega)) (fun _=>⟨rfl,rfl⟩) (fun h=>absurd h (by omega)) (aA (w7.alloc (.cells #[.slice p5 k.length c5,.slice p7 x.length c7] 70)) _ _ _ 0 _ (ah _ _) rfl) (aA _ _ _ _ 1 _ (ah _ _) rfl) (aA _ _ _ _ 2 _ (ah _ _) rfl) f.o rfl N.o);go_wp2_with fail
    refine d.o.mono ?_;rintro e w9 ⟨s9,c9,rfl,X,C⟩;have hd:=zh X;have E:=zh (am N.o C);have A:=zh (am (ag (ag (Below.refl w7.heap.size w7) (.cells #[.slice p5 k.length c5,.slice p7 x.length c7] 70)) (.cells #[.slice none 0 0,.slice (some ⟨w7.heap.size,0,none⟩) 1 1,.slice (none) (0) (0)] 48)) C);clear X C d f;generalize L:0+(1+(0))=mm at *;have hg:=zh L;clear L;go_wp2_with fail
    go_meet
    have L:=hg.o;have hn:=HN.o;have V:w.heap.size≤wc.heap.size:=Nat.le_trans I.o.size (Nat.le_trans F.o.size H.o.size);refine ⟨s9,mm,c9,rfl,E.o,?_⟩;rw [Q.o];refine (ii (S:=fun b=>S1 b∨Nu w.heap.size w9 b) (i9 hd.o N.o.size) rfl (by first | (simp;done) | (simp;omega)) ?_).mono fun b hb=>hb.elim id .inr;rw [show (List.take 0 ([]:List Pr)++(k,x) :: List.drop 0 []).length=0+(1+(0)) by first | (simp;done) | (simp;omega)];refine fm (by first | (simp;done) | (simp;omega)) (fun j hj=>?_) (fm (l1:=[(k,x)]) rfl (fun j hj=>?_) (fun j hj=>?_))
    ·rw [List.getD_eq_getElem?_getD,List.getElem?_take,if_pos hj,←List.getD_eq_getElem?_getD]
     exact ((T.o j (by omega)).below E.o).mono fun b hb=>.inl hb
    ·obtain rfl:j=0:=by omega
     exact ⟨p5,c5,p7,c7,rfl,(((dz hf.o).u8 (Stays.of_below (am P.o A.o)) V)).mono fun b hb=>.inr ⟨hb.1,.inl hb.2⟩,((dz he.o).u8 (Stays.of_below A.o) (Nat.le_trans V B.o.size)).mono fun b hb=>.inr ⟨hb.1,.inl hb.2⟩⟩
    ·first
     | exact absurd hj (by omega)
     | (rw [List.getD_eq_getElem?_getD,List.getElem?_drop,←List.getD_eq_getElem?_getD]
        exact ((T.o _ (by omega)).below E.o).mono fun b hb=>.inl hb)
   | some ad =>
    obtain ⟨b,off,rfl⟩:=Hc.o ad rfl;by_cases H4:cap=r
    ·subst H4
     have hA:l.length-cap=0:=by have:=HN.o;omega
     refine ay (S:=fun W=>W.cell? ⟨w.heap.size,0,none⟩=some (.slice p1 k.length c1)) 13 (by kernel_rfl) (by kernel_rfl) (by (try dsimp only);exact G.o) (fun hH=>?_);simp only [List.take_succ_cons,List.take_zero,List.drop_succ_cons,List.drop_zero]
     refine tkA 0 ?_;refine tkA 1 ?_;refine tkA 2 ?_;refine tkA 3 ?_;refine tkA 4 ?_;refine tkA 6 ?_;refine tkA 10 ?_;refine tkA 11 ?_;refine tkA 12 ?_;refine rd1 5 fun K hK=>?_;go_simp;go_at_call 30
     refine (cf _ (HK.o.below (am I.o (am F.o (am H.o (aw (Below.refl _ _)))))) (by omega)).mono ?_;rintro e w5 ⟨p5,c5,rfl,Z,D⟩;have hf:=zh Z;have B:=zh (am (aw (Below.refl wc.heap.size wc)) D);clear Z D;refine hK.out _ _ ?_ (fun hH=>?_)
     ·(try dsimp only);exact (B.o.cell (p:=⟨w.heap.size,0,none⟩) U.o).trans G.o
     clear hK K;try go_simp
     refine rd1 7 fun K hK=>?_;go_simp;go_at_call 30
     refine (cf _ (HX.o.below (am I.o (am F.o (am H.o B.o)))) (by omega)).mono ?_;rintro e w7 ⟨p7,c7,rfl,Y,M⟩;have he:=zh Y;have O:=zh (am B.o M);have P:=zh M;clear Y M;refine hK.out _ _ ?_ (fun hH=>?_)
     ·(try dsimp only);exact (O.o.cell (p:=⟨w.heap.size,0,none⟩) U.o).trans G.o
     clear hK K;try go_simp
     refine tkA 8 ?_;refine rd1 9 fun K hK=>?_;go_simp;refine hK.out _ _ ?_ (fun hH=>?_)
     ·(try dsimp only);exact aq _ ((O.o.cell (p:=⟨w.heap.size,0,none⟩) U.o).trans G.o)
     clear hK K;try go_simp
     refine wpAnyH_done (by kernel_rfl) ?_ _;dsimp only [aP];have f:=zh (lI (W:=(w7.alloc (.cells #[.slice p5 k.length c5,.slice p7 x.length c7] 70)).alloc (.cells #[.slice (some ⟨b,off,none⟩) a a,.slice (some ⟨w7.heap.size,0,none⟩) 1 1,.slice (some ⟨b,off,none⟩) (0) (0)] 48)) (ax _ _ _ _ (aj _ (.cells #[.slice p5 k.length c5,.slice p7 x.length c7] 70) _ rfl)));have N:=zh (am (am (am I.o (am F.o H.o)) O.o) (ag (ag (Below.refl w7.heap.size w7) (.cells #[.slice p5 k.length c5,.slice p7 x.length c7] 70)) (.cells #[.slice (some ⟨b,off,none⟩) a a,.slice (some ⟨w7.heap.size,0,none⟩) 1 1,.slice (some ⟨b,off,none⟩) (0) (0)] 48)));have d:=zh (iR (w:=w) (n:=l.length) (PrsAt.forms T.o) (fun h0=>by obtain ⟨b2,off2,e,_,_,hq⟩:=hc.o h0;injection e with e;injection e with e1 e2;subst e1 e2;exact hq) HN.o.1 (r:=cap) (m:=0) (by have:=HN.o;omega) (by omega) (fun h=>by cases h) (fun _=>rfl) (fun h=>by cases h) (fun h=>absurd h (by omega)) (aA (w7.alloc (.cells #[.slice p5 k.length c5,.slice p7 x.length c7] 70)) _ _ _ 0 _ (ah _ _) rfl) (aA _ _ _ _ 1 _ (ah _ _) rfl) (aA _ _ _ _ 2 _ (ah _ _) rfl) f.o rfl N.o);go_wp2_with fail
     refine d.o.mono ?_;rintro e w9 ⟨s9,c9,rfl,X,C⟩;have hd:=zh X;have E:=zh (am N.o C);have A:=zh (am (ag (ag (Below.refl w7.heap.size w7) (.cells #[.slice p5 k.length c5,.slice p7 x.length c7] 70)) (.cells #[.slice (some ⟨b,off,none⟩) a a,.slice (some ⟨w7.heap.size,0,none⟩) 1 1,.slice (some ⟨b,off,none⟩) (0) (0)] 48)) C);clear X C d f;generalize L:a+(1+(0))=mm at *;have hg:=zh L;clear L;go_wp2_with fail
     go_meet
     have L:=hg.o;have hn:=HN.o;have V:w.heap.size≤wc.heap.size:=Nat.le_trans I.o.size (Nat.le_trans F.o.size H.o.size);refine ⟨s9,mm,c9,rfl,E.o,?_⟩;rw [Q.o];refine (ii (S:=fun b=>S1 b∨Nu w.heap.size w9 b) (i9 hd.o N.o.size) rfl (by first | (simp;done) | (simp;omega)) ?_).mono fun b hb=>hb.elim id .inr;rw [show (l.take a++(k,x) :: l.drop (cap)).length=a+(1+(0)) by first | (simp;done) | (simp;omega)];refine fm (by first | (simp;done) | (simp;omega)) (fun j hj=>?_) (fm (l1:=[(k,x)]) rfl (fun j hj=>?_) (fun j hj=>?_))
     ·rw [List.getD_eq_getElem?_getD,List.getElem?_take,if_pos hj,←List.getD_eq_getElem?_getD]
      exact ((T.o j (by omega)).below E.o).mono fun b hb=>.inl hb
     ·obtain rfl:j=0:=by omega
      exact ⟨p5,c5,p7,c7,rfl,(((dz hf.o).u8 (Stays.of_below (am P.o A.o)) V)).mono fun b hb=>.inr ⟨hb.1,.inl hb.2⟩,((dz he.o).u8 (Stays.of_below A.o) (Nat.le_trans V B.o.size)).mono fun b hb=>.inr ⟨hb.1,.inl hb.2⟩⟩
     ·first
      | exact absurd hj (by omega)
      | (rw [List.getD_eq_getElem?_getD,List.getElem?_drop,←List.getD_eq_getElem?_getD]
         exact ((T.o _ (by omega)).below E.o).mono fun b hb=>.inl hb)
    ·refine ay (S:=fun W=>W.cell? ⟨w.heap.size,0,none⟩=some (.slice p1 k.length c1)) 13 (by kernel_rfl) (by kernel_rfl) (by (try dsimp only);exact G.o) (fun hH=>?_)
     simp only [List.take_succ_cons,List.take_zero,List.drop_succ_cons,List.drop_zero]
     refine tkA 0 ?_;refine tkA 1 ?_;refine tkA 2 ?_;refine tkA 3 ?_;refine tkA 4 ?_;refine tkA 6 ?_;refine tkA 10 ?_;refine tkA 11 ?_;refine tkA 12 ?_;refine rd1 5 fun K hK=>?_;go_simp;go_at_call 30
     refine (cf _ (HK.o.below (am I.o (am F.o (am H.o (aw (Below.refl _ _)))))) (by omega)).mono ?_;rintro e w5 ⟨p5,c5,rfl,Z,D⟩;have hf:=zh Z;have B:=zh (am (aw (Below.refl wc.heap.size wc)) D);clear Z D;refine hK.out _ _ ?_ (fun hH=>?_)
     ·(try dsimp only);exact (B.o.cell (p:=⟨w.heap.size,0,none⟩) U.o).trans G.o
     clear hK K;try go_simp
     refine rd1 7 fun K hK=>?_;go_simp;go_at_call 30
     refine (cf _ (HX.o.below (am I.o (am F.o (am H.o B.o)))) (by omega)).mono ?_;rintro e w7 ⟨p7,c7,rfl,Y,M⟩;have he:=zh Y;have O:=zh (am B.o M);have P:=zh M;clear Y M;refine hK.out _ _ ?_ (fun hH=>?_)
     ·(try dsimp only);exact (O.o.cell (p:=⟨w.heap.size,0,none⟩) U.o).trans G.o
     clear hK K;try go_simp
     refine tkA 8 ?_;refine rd1 9 fun K hK=>?_;go_simp;refine hK.out _ _ ?_ (fun hH=>?_)
     ·(try dsimp only);exact aq _ ((O.o.cell (p:=⟨w.heap.size,0,none⟩) U.o).trans G.o)
     clear hK K;try go_simp
     refine wpAnyH_done (by kernel_rfl) ?_ _;dsimp only [aP];have f:=zh (lI (W:=(w7.alloc (.cells #[.slice p5 k.length c5,.slice p7 x.length c7] 70)).alloc (.cells #[.slice (some ⟨b,off,none⟩) a a,.slice (some ⟨w7.heap.size,0,none⟩) 1 1,.slice (some ⟨b,off+r * 2,none⟩) (l.length-r) (cap-r)] 48)) (ax _ _ _ _ (aj _ (.cells #[.slice p5 k.length c5,.slice p7 x.length c7] 70) _ rfl)));have N:=zh (am (am (am I.o (am F.o H.o)) O.o) (ag (ag (Below.refl w7.heap.size w7) (.cells #[.slice p5 k.length c5,.slice p7 x.length c7] 70)) (.cells #[.slice (some ⟨b,off,none⟩) a a,.slice (some ⟨w7.heap.size,0,none⟩) 1 1,.slice (some ⟨b,off+r * 2,none⟩) (l.length-r) (cap-r)] 48)));have d:=zh (iR (w:=w) (n:=l.length) (PrsAt.forms T.o) (fun h0=>by obtain ⟨b2,off2,e,_,_,hq⟩:=hc.o h0;injection e with e;injection e with e1 e2;subst e1 e2;exact hq) HN.o.1 (r:=r) (m:=l.length-r) (by have:=HN.o;omega) (by omega) (fun h=>by cases h) (fun _=>rfl) (fun h=>by cases h) (fun _=>rfl) (aA (w7.alloc (.cells #[.slice p5 k.length c5,.slice p7 x.length c7] 70)) _ _ _ 0 _ (ah _ _) rfl) (aA _ _ _ _ 1 _ (ah _ _) rfl) (aA _ _ _ _ 2 _ (ah _ _) rfl) f.o rfl N.o);go_wp2_with fail
     refine d.o.mono ?_;rintro e w9 ⟨s9,c9,rfl,X,C⟩;have hd:=zh X;have E:=zh (am N.o C);have A:=zh (am (ag (ag (Below.refl w7.heap.size w7) (.cells #[.slice p5 k.length c5,.slice p7 x.length c7] 70)) (.cells #[.slice (some ⟨b,off,none⟩) a a,.slice (some ⟨w7.heap.size,0,none⟩) 1 1,.slice (some ⟨b,off+r * 2,none⟩) (l.length-r) (cap-r)] 48)) C);clear X C d f;generalize L:a+(1+(l.length-r))=mm at *;have hg:=zh L;clear L;go_wp2_with fail
     go_meet
     have L:=hg.o;have hn:=HN.o;have V:w.heap.size≤wc.heap.size:=Nat.le_trans I.o.size (Nat.le_trans F.o.size H.o.size);refine ⟨s9,mm,c9,rfl,E.o,?_⟩;rw [Q.o];refine (ii (S:=fun b=>S1 b∨Nu w.heap.size w9 b) (i9 hd.o N.o.size) rfl (by first | (simp;done) | (simp;omega)) ?_).mono fun b hb=>hb.elim id .inr;rw [show (l.take a++(k,x) :: l.drop (r)).length=a+(1+(l.length-r)) by first | (simp;done) | (simp;omega)];refine fm (by first | (simp;done) | (simp;omega)) (fun j hj=>?_) (fm (l1:=[(k,x)]) rfl (fun j hj=>?_) (fun j hj=>?_))
     ·rw [List.getD_eq_getElem?_getD,List.getElem?_take,if_pos hj,←List.getD_eq_getElem?_getD]
      exact ((T.o j (by omega)).below E.o).mono fun b hb=>.inl hb
     ·obtain rfl:j=0:=by omega
      exact ⟨p5,c5,p7,c7,rfl,(((dz hf.o).u8 (Stays.of_below (am P.o A.o)) V)).mono fun b hb=>.inr ⟨hb.1,.inl hb.2⟩,((dz he.o).u8 (Stays.of_below A.o) (Nat.le_trans V B.o.size)).mono fun b hb=>.inr ⟨hb.1,.inl hb.2⟩⟩
     ·first
      | exact absurd hj (by omega)
      | (rw [List.getD_eq_getElem?_getD,List.getElem?_drop,←List.getD_eq_getElem?_getD]
         exact ((T.o _ (by omega)).below E.o).mono fun b hb=>.inl hb)
  case rest =>
   obtain ⟨s9,n9,c9,rfl,C,hw⟩:=hcut;have Ha:=zh hw;have E:=zh C;have R:=hU
   have hs:(bT (eY l k x):Int)≤4611686018427387904:=by
    have h1:=kM (eY l k x);have h2:=qV k x l;have h3:=H8.o;have:=Hf.o;omega
   have H9:=zh (qB _ hw.1 hs);clear hU hw C hs;clear Q;generalize eY l k x=l9 at *;generalize bT l9=z9 at *;go_wp2_with fail
   refine H9.o.mono ?_;rintro e w5 ⟨rfl,D⟩;have B:=zh (am E.o D);have Hb:=zh (StAt.mono (StAt.keep Ha.o (Stays.of_below D)) (fun b hb=>hb.imp id (fun h=>(⟨h.1,h.2.imp (fun q=>q.keep (D.block _ q.lt)) (fun q=>q.keep (D.block _ q.lt))⟩:Nu w.heap.size w5 b))));clear D;by_cases hq:2048<z9
   ·have ho:=R.o
    rw [if_pos hq] at ho;subst ho;have H2:(2048:Int)<(z9:Int):=by omega
    clear R;go_wp2_with fail
    exact bodyPost_ret (v:=.tuple #[.slice none 0 0,.int .i64 71]) (by simp [results,Tryz.results155,go_sem]) rfl ⟨rfl,B.o⟩
   ·have ho:=R.o
    rw [if_neg hq] at ho;subst ho;have H2:¬(2048:Int)<(z9:Int):=by omega
    clear R;go_wp2_with fail
    exact bodyPost_ret (v:=.tuple #[.slice s9 n9 c9,.int .i64 0]) (by simp [results,Tryz.results155,go_sem]) rfl ⟨⟨s9,n9,c9,rfl,Hb.o⟩,B.o⟩
theorem xd {v kv vv:Value} {k x:List UInt8} {l:List Pr} {S1 S2 S3:Nat→Prop} (w:World) (h:StAt S1 w v l) (hk:TxtAt S2 w kv k) (hx:TxtAt S3 w vv x) (hl:aV l=true) (B:k.length≤100000) (A:x.length≤100000) :
    Calls Tryz.prog 155 #[v,kv,vv] w (pF S1 w (fE l k x)):=by
 obtain ⟨p1,c1,rfl,_⟩:=hk.form;obtain ⟨p2,c2,rfl,_⟩:=hx.form;by_cases q:64<k.length∨256<x.length
 ·unfold fE
  rw [if_pos q];obtain ⟨p,n,c,e,_⟩:=h.2;exact xi w ⟨p,n,c,e⟩ rfl A B q
 ·exact uH w h hk hx rfl hl (by omega) (by omega)
end
section
open Go.RowKit
attribute [local go_sem ↓] Go.wp_at_zero Go.wp_at_succ
structure Jo where
 pairs:List Pr
 undo:List (List Pr)
def JS (w:World) (b:Nat):Prop:=OfTy w b 5∨OfTy w b 70∨OfTy w b 48∨OfTy w b 31
def JT (JB U:Nat) (w:World) (k:Nat):Prop:=k=JB∨(U≤k∧OfTy w k 1)
def UnC (w:World) (JB:Nat) (v:Value) (l:List Pr):Prop:=∃wb jb p n c,v=.func (.func 187) #[] #[.pointer (some ⟨wb,0,none⟩),.pointer (some ⟨jb,0,none⟩)] ∧
 w.heap[wb]?=some (.cells #[.slice p n c] 48 (0,0))∧w.heap[jb]?=some (.cells #[.pointer (some ⟨JB,0,none⟩)] 31 (0,0))∧StAt (JS w) w (.slice p n c) l
structure JAt (U:Nat) (w:World) (JB:Nat) (j:Jo) (N:Nat):Prop where
 box:∃p n c uv fs,w.heap[JB]?=some (.cells #[.slice p n c,uv] 68 (0,0))∧StAt (JS w) w (.slice p n c) j.pairs∧w.ownsRow U 1 1 uv j.undo.length fs∧∀i,i<j.undo.length→∃f,fs[i]?=some f∧UnC w JB f (j.undo.getD i [])
 right:aV j.pairs=true
 rights:∀l∈j.undo,aV l=true
 few:j.undo.length≤N
section
variable {w w':World} {JB U b N:Nat} {j:Jo} {l:List Pr} {v:Value}
theorem JS.keep (h:JS w b) (hb:w'.heap[b]?=w.heap[b]?):JS w' b:=h.imp (fun q=>q.keep hb) (fun q=>q.imp (fun q=>q.keep hb) (fun q=>q.imp (fun q=>q.keep hb) (fun q=>q.keep hb)))
theorem JS.lt (h:JS w b):b<w.heap.size:=by rcases h with h | h | h | h<;>exact h.lt
theorem JS.not (h:JS w b) (hj:OfTy w JB 68):¬JT JB U w b:=fun q=>by
 rcases q with rfl | ⟨_,q⟩
 ·rcases h with h | h | h | h
  ·exact h.ne hj (by decide) rfl
  ·exact h.ne hj (by decide) rfl
  ·exact h.ne hj (by decide) rfl
  ·exact h.ne hj (by decide) rfl
 ·rcases h with h | h | h | h
  ·exact h.ne q (by decide) rfl
  ·exact h.ne q (by decide) rfl
  ·exact h.ne q (by decide) rfl
  ·exact h.ne q (by decide) rfl
theorem StAt.js (h:StAt (JS w) w v l) (hs:Stays (JS w) w w'):StAt (JS w') w' v l:=(h.keep hs).mono fun b hb=>hb.keep (hs.block b hb hb.lt)
theorem UnC.keep (h:UnC w JB v l) (hs:Stays (JS w) w w'):UnC w' JB v l:=by
 obtain ⟨wb,jb,p,n,c,e,h1,h2,h3⟩:=h;exact ⟨wb,jb,p,n,c,e,(hs.block wb (.inr (.inr (.inl ⟨_,_,h1⟩))) (af h1)).trans h1,(hs.block jb (.inr (.inr (.inr ⟨_,_,h2⟩))) (af h2)).trans h2,h3.js hs⟩
theorem JAt.ty (h:JAt U w JB j N):OfTy w JB 68:=by
 obtain ⟨p,n,c,uv,fs,h1,_⟩:=h.box;exact ⟨_,_,h1⟩
theorem JAt.keep (h:JAt U w JB j N) (hs:Stays (JS w) w w') (hj:w'.heap[JB]?=w.heap[JB]?) (hu:∀k,U≤k→OfTy w k 1→w'.heap[k]?=w.heap[k]?):JAt U w' JB j N:=by
 obtain ⟨p,n,c,uv,fs,h1,h2,h3,h4⟩:=h.box;refine ⟨⟨p,n,c,uv,fs,hj.trans h1,h2.js hs,gc h3 fun k q=>hu k (aI h3 q).1 (dy h3 q),fun i hi=>?_⟩,h.right,h.rights,h.few⟩;obtain ⟨f,e,q⟩:=h4 i hi;exact ⟨f,e,q.keep hs⟩
theorem JAt.below (h:JAt U w JB j N) (hb:Below w.heap.size w w'):JAt U w' JB j N:=h.keep (Stays.of_below hb) (hb.block _ h.ty.lt) (fun k _ q=>hb.block k q.lt)
theorem JAt.mono {N':Nat} (h:JAt U w JB j N) (hn:N≤N'):JAt U w JB j N':=⟨h.box,h.right,h.rights,Nat.le_trans h.few hn⟩
theorem JS.of_nu {B:Nat} (h:Nu B w b):JS w b:=h.2.elim .inl (fun q=>.inr (.inl q))
theorem StAt.grown {w0:World} (h:StAt (fun b=>JS w0 b∨Nu w0.heap.size w b) w v l) (hb:Below w0.heap.size w0 w):StAt (JS w) w v l:=h.mono fun b A=>A.elim (fun q=>q.keep (hb.block b q.lt)) JS.of_nu
end
theorem yg {S:Nat→Prop} {U JB N:Nat} {j:Jo} {kv:Value} {k:List UInt8} (w:World) (h:JAt U w JB j N) (hk:TxtAt S w kv k):Calls Tryz.prog 182 #[.pointer (some ⟨JB,0,none⟩),kv] w fun e w'=>∃p c,e=.returned (.tuple #[.slice p ((fZ j.pairs k).getD []).length c,.bool (fZ j.pairs k).isSome])∧TxtAt (U8 w.heap.size w') w' (.slice p ((fZ j.pairs k).getD []).length c) ((fZ j.pairs k).getD [])∧Below w.heap.size w w':=by
 obtain ⟨p,n,c,uv,fs,h1,h2,h3,h4⟩:=h.box;have HG:=zh (zN w h2.1 hk (cg h.right).1);obtain ⟨s1,c1,rfl,_⟩:=bC h3;have x0:=aa h1 (j:=0) (u:=.slice p n c) rfl;obtain ⟨pk,ck,rfl,_⟩:=hk.form;generalize fZ j.pairs k=o at *;clear h h1 h2 h3 h4 hk;go_enter Tryz.func182,Tryz.ntmps182
 go_wp2_with fail
 refine HG.o.mono ?_;rintro e w1 ⟨p1,c1,rfl,ht,hb⟩;have HT:=zh ht;have HB:=zh hb;clear ht hb;generalize hL:(o.getD []).length=L at *;have HL:=zh hL;clear hL;generalize hI:o.isSome=I at *;have HI:=zh hI;clear hI;go_wp2_with fail
 refine bodyPost_ret (v:=.tuple #[.slice p1 L c1,.bool I]) (by simp [results,Tryz.results182,go_sem]) rfl ?_;have hl:=HL.o;have hi:=HI.o;subst hl hi;exact ⟨p1,c1,rfl,HT.o,HB.o⟩
theorem BL:∃i,Tryz.prog.info? 1=some i∧i.zero=some .nilFunc∧i.size=1∧i.bytes=8:=by
 have h:(Tryz.prog.info? 1).map (fun i=>(i.zero,i.size,i.bytes))=some (some .nilFunc,1,8):=by kernel_rfl
 obtain ⟨i,hi,he⟩:=Option.map_eq_some_iff.1 h;exact ⟨i,hi,congrArg (·.1) he,congrArg (·.2.1) he,congrArg (·.2.2) he⟩
theorem ym {U JB N A:Nat} {j:Jo} {l:List Pr} {w w7:World} {p s1 s7 pl:Option Addr} {n c c1 c7 nl cl:Nat} {fs:List Value} (hA:w.heap.size=A) (h2:StAt (JS w) w (.slice p n c) j.pairs)
    (h4:∀i,i<j.undo.length→∃f,fs[i]?=some f∧UnC w JB f (j.undo.getD i [])) (h3:fs.length=j.undo.length) (h:JAt U w JB j N) (hl:StAt (JS w) w (.slice pl nl cl) l) (hr:aV l=true)
    (E:w7.heap[JB]?=some (.cells #[.slice p n c,.slice s1 j.undo.length c1] 68 (0,0))) (I:w7.heap[A]?=some (.cells #[.pointer (some ⟨JB,0,none⟩)] 31 (0,0))) (H:w7.heap[A+1]?=some (.cells #[.slice p n c] 48 (0,0)))
    (D:w7.ownsRow U 1 1 (.slice s7 (j.undo.length+1) c7) (j.undo.length+1) (fs++[.func (.func 187) #[] #[.pointer (some ⟨A+1,0,none⟩),.pointer (some ⟨A,0,none⟩)]]))
    (G:OnS (fun k=>U≤k∧OfTy w k 1) w w7) (K:JB<A) :
    JAt U ((w7.setCell ⟨JB,1,none⟩ (.slice s7 (j.undo.length+1) c7)).setCell ⟨JB,0,none⟩ (.slice pl nl cl)) JB ⟨l,j.undo++[j.pairs]⟩ (N+1)∧OnS (JT JB U w) w ((w7.setCell ⟨JB,1,none⟩ (.slice s7 (j.undo.length+1) c7)).setCell ⟨JB,0,none⟩ (.slice pl nl cl)):=by
 subst hA;have C:OnS (JT JB U w) w ((w7.setCell ⟨JB,1,none⟩ (.slice s7 (j.undo.length+1) c7)).setCell ⟨JB,0,none⟩ (.slice pl nl cl)):=((G.mono fun k hk=>.inr hk).set (.inl rfl) 1 _).set (.inl rfl) 0 _;have hs:Stays (JS w) w ((w7.setCell ⟨JB,1,none⟩ (.slice s7 (j.undo.length+1) c7)).setCell ⟨JB,0,none⟩ (.slice pl nl cl)):=C.stays fun b hb=>hb.not h.ty;have B:∀b,b≠JB→((w7.setCell ⟨JB,1,none⟩ (.slice s7 (j.undo.length+1) c7)).setCell ⟨JB,0,none⟩ (.slice pl nl cl)).heap[b]?=w7.heap[b]?:=fun b hb=>(ak _ _ _ _ hb).trans (ak _ _ _ _ hb);have F:OfTy w7 JB 68:=⟨_,_,E⟩
 refine ⟨⟨⟨pl,nl,cl,.slice s7 (j.undo.length+1) c7,fs++[.func (.func 187) #[] #[.pointer (some ⟨w.heap.size+1,0,none⟩),.pointer (some ⟨w.heap.size,0,none⟩)]],au (au E 1 _) 0 _,hl.js hs,?_,fun i hi=>?_⟩,hr,fun q hq=>?_,?_⟩,C⟩
 ·rw [List.length_append]
  exact gc D fun k q=>B k ((dy D q).ne F (by decide))
 ·by_cases e:i<j.undo.length
  ·obtain ⟨f,e1,e2⟩:=h4 i e
   refine ⟨f,by rw [List.getElem?_append_left (by omega)];exact e1,?_⟩;rw [gY _ _ _ e];exact e2.keep hs
  ·have J:i<j.undo.length+1:=by simpa using hi
   obtain rfl:i=j.undo.length:=by omega
   refine ⟨_,by rw [List.getElem?_append_right (by omega),h3,Nat.sub_self];rfl,?_⟩;rw [iq];exact ⟨_,_,p,n,c,rfl,(B _ (by omega)).trans H,(B _ (by omega)).trans I,h2.js hs⟩
 ·rcases List.mem_append.1 hq with hq | hq
  ·exact h.rights q hq
  ·rw [List.mem_singleton.1 hq]
   exact h.right
 ·have:=h.few
  simp
  omega
theorem rv {U JB N:Nat} {j:Jo} {lv:Value} {l:List Pr} (w:World) (h:JAt U w JB j N) (hl:StAt (JS w) w lv l) (hr:aV l=true) (hU:U≤w.heap.size) (hN:N≤10000000) :
    Calls Tryz.prog 156 #[.pointer (some ⟨JB,0,none⟩),lv] w fun e w'=>e=.returned (.tuple #[])∧JAt U w' JB ⟨l,j.undo++[j.pairs]⟩ (N+1)∧OnS (JT JB U w) w w':=by
 obtain ⟨p,n,c,uv,fs,h1,h2,h3,h4⟩:=h.box;have HJ:=zh h;have HL:=zh hl;have HR:=zh hr;have HU:=zh hU;have H1:=zh h1;have H2:=zh h2;have H3:=zh h3;have H4:=zh h4;have C:=zh h.few;have HN:=zh hN;obtain ⟨s1,c1,rfl,_⟩:=bC h3;obtain ⟨_,pl,nl,cl,rfl,_⟩:=hl;have x0:=aa h1 (j:=0) (u:=.slice p n c) rfl;have x1:=aa h1 (j:=1) (u:=.slice s1 j.undo.length c1) rfl;have y0:=ae h1 0;have y1:=ae h1 1;have I:=af h1;clear h h1 h2 h3 h4 hr hU;go_enter Tryz.func156,Tryz.ntmps156
 go_upto_region 2 with fail
 have E:Below w.heap.size w ((w.alloc (.cells #[.pointer (some ⟨JB,0,none⟩)] 31)).alloc (.cells #[.slice p n c] 48)):=ag (ag (Below.refl _ _) _) _;have M:=zh E;have L:=zh ((E.block JB I).trans H1.o);have P:Hd (((w.alloc (.cells #[.pointer (some ⟨JB,0,none⟩)] 31)).alloc (.cells #[.slice p n c] 48)).heap[w.heap.size]?=some (.cells #[.pointer (some ⟨JB,0,none⟩)] 31 (0,0))):=zh (ax _ _ _ _ (aj _ _ _ rfl));have X:Hd (((w.alloc (.cells #[.pointer (some ⟨JB,0,none⟩)] 31)).alloc (.cells #[.slice p n c] 48)).heap[w.heap.size+1]?=some (.cells #[.slice p n c] 48 (0,0))):=zh (aj _ _ _ (ah _ _));have G:=zh (fW (base:=U) H3.o (Stays.of_below E));obtain ⟨i0,T,d,a,Z⟩:=BL;have HI:=zh T;clear T E x0 x1 y0 y1;generalize ((w.alloc (.cells #[.pointer (some ⟨JB,0,none⟩)] 31)).alloc (.cells #[.slice p n c] 48))=w2 at *;generalize hA:w.heap.size=A at *;have H:=zh hA;clear hA;have F:Hd (w2.cell? ⟨A,0,none⟩=some (.pointer (some ⟨JB,0,none⟩))∧w2.cell? ⟨JB,1,none⟩=some (.slice s1 j.undo.length c1)):=zh ⟨aa P.o rfl,aa L.o rfl⟩;have r:Hd (U≤w2.heap.size):=zh (by have:=M.o.size;have:=HU.o;have:=H.o;omega);refine ay (S:=fun W=>W.cell? ⟨A,0,none⟩=some (.pointer (some ⟨JB,0,none⟩))∧W.cell? ⟨JB,1,none⟩=some (.slice s1 j.undo.length c1)) 8 (by kernel_rfl) (by kernel_rfl) (by (try dsimp only);exact F.o) (fun hH=>?_);simp only [List.take_succ_cons,List.take_zero,List.drop_succ_cons,List.drop_zero]
 refine tkA 0 ?_;refine tkA 1 ?_;refine tkA 2 ?_;refine tkA 3 ?_;refine tkA 4 ?_;refine tkA 5 ?_;refine rd1 6 fun K hK=>?_;go_simp;refine hK.out _ _ ?_ (fun hH=>?_)
 ·(try dsimp only);exact ⟨aq _ F.o.1,aq _ F.o.2⟩
 clear hK K;try go_simp
 have D:Hd (Below w2.heap.size w2 (w2.alloc (.cells #[.func (.func 187) #[] #[.pointer (some ⟨A+1,0,none⟩),.pointer (some ⟨A,0,none⟩)]] 1)).drew):=zh (aw (ag (Below.refl _ _) _));have t:=zh (fW (base:=U) G.o (Stays.of_below D.o));have v:Hd ((w2.alloc (.cells #[.func (.func 187) #[] #[.pointer (some ⟨A+1,0,none⟩),.pointer (some ⟨A,0,none⟩)]] 1)).drew.heap[w2.heap.size]?=some (.cells #[.func (.func 187) #[] #[.pointer (some ⟨A+1,0,none⟩),.pointer (some ⟨A,0,none⟩)]] 1 (0,0))):=zh (aj w2 _ _ rfl);refine rd1 7 fun K hK=>?_;refine fu rfl _ _ _ rfl U 1 i0 .nilFunc 1 8 Tryz.underlying66 HI.o d a Z rfl (by decide) _ _ _ rfl t.o _ _ _ [.func (.func 187) #[] #[.pointer (some ⟨A+1,0,none⟩),.pointer (some ⟨A,0,none⟩)]] rfl (fun h=>by cases h) rfl (fun ad e j u hj=>?_) (fun u hu=>?_) ?_ ?_ (Nat.le_trans r.o D.o.size) (fun s7 c7 w7 Q V=>?_)
 ·injection e with e
  subst e;rw [Go.WideShapes.add_plain,Nat.zero_add];exact aa v.o (by simpa using hj)
 ·rcases List.mem_cons.1 hu with rfl | hu
  ·rfl
  ·cases hu
 ·have:=C.o
  have:=HN.o;unfold maxLen;omega
 ·have:=C.o
  have:=HN.o;omega
 have s:=zh Q;have Y:=zh (show (w2.alloc (.cells #[.func (.func 187) #[] #[.pointer (some ⟨A+1,0,none⟩),.pointer (some ⟨A,0,none⟩)]] 1)).drew.grownBy w7 (Value.slice s1 j.undo.length c1).ownBlock from V);have J:Hd (∀(b:Nat) (o:Obj),w2.heap[b]?=some o→¬OfTy w2 b 1→w7.heap[b]?=some o):=zh (fun b o ho hn=>(Y.o.block b (af ((D.o.block b (af ho)).trans ho)) (fun e=>hn ((dy G.o e.symm)))).trans ((D.o.block b (af ho)).trans ho));have B:=zh (J.o JB _ L.o (fun q=>q.ne (⟨_,_,L.o⟩:OfTy w2 JB 68) (by decide) rfl));have O:=zh (J.o A _ P.o (fun q=>q.ne (⟨_,_,P.o⟩:OfTy w2 A 31) (by decide) rfl));clear Q V;refine hK.out _ _ ?_ (fun hH=>?_)
 ·(try dsimp only);exact ⟨aa O.o rfl,aa B.o rfl⟩
 clear hK K;try go_simp
 refine wpAnyH_done (by kernel_rfl) ?_ _;dsimp only [aP];clear F hH;have x0:=aa B.o (j:=0) (u:=.slice p n c) rfl;have x1:=aa B.o (j:=1) (u:=.slice s1 j.undo.length c1) rfl;have y0:=ae B.o 0;have y1:=ae B.o 1;have z0:=aa O.o (j:=0) (u:=.pointer (some ⟨JB,0,none⟩)) rfl;have x:JB≠A:=Nat.ne_of_lt I;have m:=zh (J.o (A+1) _ X.o (fun q=>q.ne (⟨_,_,X.o⟩:OfTy w2 (A+1) 48) (by decide) rfl));go_wp2_with fail
 have f:OnS (fun k=>U≤k∧OfTy w k 1) w w7:=by
  have i:Below w.heap.size w (w2.alloc (.cells #[.func (.func 187) #[] #[.pointer (some ⟨A+1,0,none⟩),.pointer (some ⟨A,0,none⟩)]] 1)).drew:=by
   have q:=M.o;rw [←H.o] at q;exact am q D.o
  refine OnS.new (OnS.of_below i) (OnS.of_grown Y.o fun k hk=>?_) fun k hk=>hk;have g:=aI G.o hk;by_cases R:k<w.heap.size
  ·exact .inl ⟨g.1,(dy G.o hk).keep (Eq.symm (by have:=M.o.block k (by rw [←H.o];exact R);exact this))⟩
  ·exact .inr (Nat.le_of_not_lt R)
 obtain ⟨f1,f2⟩:=ym (s1:=s1) (c1:=c1) H.o H2.o H4.o (by have:=H3.o.1;omega) HJ.o HL.o HR.o B.o O.o m.o s.o f I;exact bodyPost_end (by simp [results,Tryz.results156,go_sem]) rfl ⟨rfl,f1,f2⟩
end
section
open Go.RowKit
attribute [local go_sem ↓] Go.wp_at_zero Go.wp_at_succ
theorem jB {p:Pr} {l:List Pr} (h:dr l=true) (hp:∀q∈l,bM p.1 q.1=true):dr (p :: l)=true:=by
 cases l with
 | nil=>rfl
 | cons q l =>
  rw [dr,Bool.and_eq_true];exact ⟨hp q (List.mem_cons_self ..),h⟩
theorem pK {k v:List UInt8}:∀{l:List Pr} {q:Pr},q∈eY l k v→q=(k,v)∨q∈l
 | [],q,h=>.inl (List.mem_singleton.1 h)
 | p :: l,q,h=>by
  rw [eY] at h;split at h
  ·rcases List.mem_cons.1 h with h | h
   ·exact .inl h
   ·exact .inr (List.mem_cons_of_mem _ h)
  split at h
  ·rcases List.mem_cons.1 h with h | h
   ·exact .inl h
   ·exact .inr h
  ·rcases List.mem_cons.1 h with h | h
   ·exact .inr (h▸List.mem_cons_self ..)
   ·exact (pK h).imp id (List.mem_cons_of_mem _)
theorem qw {k v:List UInt8}:∀{l:List Pr},dr l=true→dr (eY l k v)=true
 | [],_=>rfl
 | p :: l,h=>by
  have ht:=jO h;rw [eY];by_cases e:p.1=k
  ·rw [if_pos e]
   exact jB ht fun q hq=>by
    have:=gJ h q hq;rw [e] at this;exact this
  ·rw [if_neg e]
   by_cases g:bM k p.1=true
   ·rw [if_pos g]
    exact jB h fun q hq=>by
     rcases List.mem_cons.1 hq with rfl | hq
     ·exact g
     ·exact jC g (gJ h q hq)
   ·rw [if_neg g]
    exact jB (qw ht) fun q hq=>by
     rcases pK hq with rfl | hq
     ·exact ww (Ne.symm e) (by simpa using g)
     ·exact gJ h q hq
theorem sI {l l':List Pr} {k v:List UInt8} (h:aV l=true) (hp:fE l k v=.ok l'):aV l'=true:=by
 obtain ⟨h1,h2,_⟩:=cg h;unfold fE at hp;split at hp
 ·cases hp
 rename_i hq;split at hp
 ·cases hp
 rename_i hz;injection hp with hp
 subst hp;unfold aV;rw [Bool.and_eq_true,Bool.and_eq_true];refine ⟨⟨List.all_eq_true.2 fun p hm=>?_,qw h2⟩,by simp;omega⟩;rcases pK hm with rfl | hm
 ·simp;omega
 ·have:=h1 p hm
  simp;omega
theorem pC {k:List UInt8}:∀{l:List Pr} {q:Pr},q∈eu l k→q∈l
 | [],_,h=>h
 | p :: l,q,h=>by
  rw [eu] at h;split at h
  ·exact List.mem_cons_of_mem _ h
  ·rcases List.mem_cons.1 h with h | h
   ·exact h▸List.mem_cons_self ..
   ·exact List.mem_cons_of_mem _ (pC h)
theorem qH {k:List UInt8}:∀{l:List Pr},dr l=true→dr (eu l k)=true
 | [],_=>rfl
 | p :: l,h=>by
  rw [eu];split
  ·exact jO h
  ·exact jB (qH (jO h)) fun q hq=>gJ h q (pC hq)
theorem ry {k:List UInt8}:∀l:List Pr,bT (eu l k)≤bT l
 | []=>Nat.le_refl _
 | p :: l=>by
  have ih:=ry (k:=k) l;rw [eu];split
  ·unfold bT
   simp only [List.map_cons,List.sum_cons]
   omega
  ·unfold bT at *
   simp only [List.map_cons,List.sum_cons]
   omega
theorem te {l:List Pr} {k:List UInt8} (h:aV l=true):aV (eu l k)=true:=by
 obtain ⟨h1,h2,h3⟩:=cg h;unfold aV;rw [Bool.and_eq_true,Bool.and_eq_true];refine ⟨⟨List.all_eq_true.2 fun p hm=>?_,qH h2⟩,by have:=ry (k:=k) l;simp;omega⟩;have:=h1 p (pC hm);simp;omega
theorem JT.back {JB U k:Nat} {w w':World} (h:JT JB U w' k) (hb:Below w.heap.size w w'):JT JB U w k∨w.heap.size≤k:=by
 by_cases hk:k<w.heap.size
 ·exact .inl (h.imp id (fun q=>⟨q.1,q.2.keep (hb.block k hk).symm⟩))
 ·exact .inr (Nat.le_of_not_lt hk)
theorem OnS.jt {JB U:Nat} {a b c:World} (h:Below a.heap.size a b) (g:OnS (JT JB U b) b c):OnS (JT JB U a) a c:=OnS.new (OnS.of_below h) g fun _ hk=>JT.back hk h
def C0 (U:Nat) (w:World) (JB:Nat) (j:Jo) (N:Nat) (o:Except Int (List Pr)) (e:Ending) (w':World):Prop:=(match o with
  | .error er=>e=.returned (.int .i64 er)∧JAt U w' JB j N
  | .ok l=>e=.returned (.int .i64 0)∧JAt U w' JB ⟨l,j.undo++[j.pairs]⟩ (N+1))∧OnS (JT JB U w) w w'
theorem yB {S2 S3:Nat→Prop} {U JB N:Nat} {j:Jo} {kv vv:Value} {k x:List UInt8} (w:World) (h:JAt U w JB j N) (hk:TxtAt S2 w kv k) (hx:TxtAt S3 w vv x) (D:k.length≤100000) (B:x.length≤100000) (hU:U≤w.heap.size) (hN:N≤10000000) :
    Calls Tryz.prog 110 #[.pointer (some ⟨JB,0,none⟩),kv,vv] w (C0 U w JB j N (fE j.pairs k x)):=by
 obtain ⟨p,n,c,uv,fs,h1,h2,h3,_⟩:=h.box;have HP:=zh (xd w h2 hk hx h.right D B);have E:Hd (∀l,fE j.pairs k x=.ok l→aV l=true):=zh fun l=>sI h.right
 have F:Hd (∀er,fE j.pairs k x=.error er→(er==0)=false):=zh fun er he=>by
  unfold fE at he;split at he
  ·injection he with he;subst he;rfl
  split at he
  ·injection he with he;subst he;rfl
  ·cases he
 have HJ:=zh h;have HU:=zh hU;have HN:=zh hN;obtain ⟨s1,c1,rfl,_⟩:=bC h3;have x0:=aa h1 (j:=0) (u:=.slice p n c) rfl;obtain ⟨pk,ck,rfl,_⟩:=hk.form;obtain ⟨px,cx,rfl,_⟩:=hx.form;generalize fE j.pairs k x=o at *;clear h h1 h2 h3 hk hx D B hU hN;go_enter Tryz.func110,Tryz.ntmps110
 go_wp2_with fail
 refine HP.o.mono ?_;rintro e w1 ⟨hs,hb⟩;have HB:=zh hb
 cases o with
 | error er =>
  have he:e=.returned (.tuple #[.slice none 0 0,.int .i64 er]):=hs;subst he;have J:=F.o er rfl;clear hs hb E F;go_wp2_with fail
  exact bodyPost_ret (v:=.int .i64 er) (by simp [results,Tryz.results110,go_sem]) rfl ⟨⟨rfl,HJ.o.below HB.o⟩,OnS.of_below HB.o⟩
 | ok l =>
  obtain ⟨p2,n2,c2,rfl,C⟩:=hs;have G:=zh (C.grown hb);have I:=zh (HJ.o.below hb);have A:=zh (rv w1 I.o G.o (E.o l rfl) (Nat.le_trans HU.o hb.size) HN.o);clear C hb;go_wp2_with fail
  refine A.o.mono ?_;rintro e w2 ⟨rfl,hj,ho⟩;have H:=zh hj;have HO:=zh ho;clear hj ho;go_wp2_with fail
  exact bodyPost_ret (v:=.int .i64 0) (by simp [results,Tryz.results110,go_sem]) rfl ⟨⟨rfl,H.o⟩,OnS.jt HB.o HO.o⟩
theorem yY {S2:Nat→Prop} {U JB N:Nat} {j:Jo} {kv:Value} {k:List UInt8} (w:World) (h:JAt U w JB j N) (hk:TxtAt S2 w kv k) (hU:U≤w.heap.size) (hN:N≤10000000) :
    Calls Tryz.prog 111 #[.pointer (some ⟨JB,0,none⟩),kv] w fun e w'=>e=.returned (.tuple #[])∧JAt U w' JB ⟨eu j.pairs k,j.undo++[j.pairs]⟩ (N+1)∧OnS (JT JB U w) w w':=by
 obtain ⟨p,n,c,uv,fs,h1,h2,h3,_⟩:=h.box;have HP:=zh (Ax w h2.1 hk (by have:=eW (cg h.right).2.2;omega));have D:Hd (aV (eu j.pairs k)=true):=zh (te h.right);have HJ:=zh h;have HU:=zh hU;have HN:=zh hN;obtain ⟨s1,c1,rfl,_⟩:=bC h3;have x0:=aa h1 (j:=0) (u:=.slice p n c) rfl;obtain ⟨pk,ck,rfl,_⟩:=hk.form;generalize eu j.pairs k=l at *;clear h h1 h2 h3 hk hU hN;go_enter Tryz.func111,Tryz.ntmps111
 go_wp2_with fail
 refine HP.o.mono ?_;rintro e w1 ⟨v,rfl,A,hb⟩;have HB:=zh hb;obtain ⟨p2,n2,c2,rfl,_⟩:=id A.2;have C:=zh (A.grown hb);have F:=zh (HJ.o.below hb);have B:=zh (rv w1 F.o C.o D.o (Nat.le_trans HU.o hb.size) HN.o);clear A hb;go_wp2_with fail
 refine B.o.mono ?_;rintro e w2 ⟨rfl,hj,ho⟩;have E:=zh hj;have HO:=zh ho;clear hj ho;go_wp2_with fail
 exact bodyPost_end (by simp [results,Tryz.results111,go_sem]) rfl ⟨rfl,E.o,OnS.jt HB.o HO.o⟩
theorem oJ {U JB N:Nat} {j:Jo} (w:World) (h:JAt U w JB j N):Calls Tryz.prog 25 #[.pointer (some ⟨JB,0,none⟩)] w fun e w'=>e=.returned (.int .i64 j.undo.length)∧w=w':=by
 obtain ⟨p,n,c,uv,fs,h1,h2,h3,_⟩:=h.box;obtain ⟨s1,c1,rfl,_⟩:=bC h3;have x1:=aa h1 (j:=1) (u:=.slice s1 j.undo.length c1) rfl;clear h h1 h2 h3;go_enter Tryz.func25,Tryz.ntmps25
 go_wp2_with fail
 exact bodyPost_ret (v:=.int .i64 j.undo.length) (by simp [results,Tryz.results25,go_sem]) rfl ⟨rfl,rfl⟩
theorem CD {U JB N:Nat} {j:Jo} {wb jb n c:Nat} {p:Option Addr} (w:World) (h:JAt U w JB j N) (hw:w.cell? ⟨wb,0,none⟩=some (.slice p n c)) (hj:w.cell? ⟨jb,0,none⟩=some (.pointer (some ⟨JB,0,none⟩))) :
    Calls Tryz.prog 187 #[.pointer (some ⟨wb,0,none⟩),.pointer (some ⟨jb,0,none⟩)] w fun e w'=>e=.returned (.tuple #[])∧w'=w.setCell ⟨JB,0,none⟩ (.slice p n c):=by
 obtain ⟨p0,n0,c0,uv,fs,h1,h2,h3,_⟩:=h.box;obtain ⟨s1,c1,rfl,_⟩:=bC h3;have x0:=aa h1 (j:=0) (u:=.slice p0 n0 c0) rfl;have y0:=ae h1 0;clear h h1 h2 h3;go_enter Tryz.func187,Tryz.ntmps187
 go_wp2_with fail
 exact bodyPost_end (by simp [results,Tryz.results187,go_sem]) rfl ⟨rfl,rfl⟩
end
section
open Go.RowKit
attribute [local go_sem ↓] Go.wp_at_zero Go.wp_at_succ
def Jo.back (j:Jo) (i:Nat):Jo:=⟨if i<j.undo.length then j.undo.getD i [] else j.pairs,j.undo.take i⟩
theorem Jo.back_all (j:Jo):j.back j.undo.length=j:=by
 unfold Jo.back;rw [if_neg (Nat.lt_irrefl _),List.take_length]
theorem zl {w:World} {B e n m c:Nat} {s:Option Addr} {xs:List Value} (h:w.ownsRow B e 1 (.slice s n c) n xs) (hm:m≤n):w.ownsRow B e 1 (.slice s m c) m (xs.take m):=by
 have h1:=h.1;refine ⟨by rw [List.length_take];omega,?_⟩;rcases h.2 with ⟨q,q2⟩ | ⟨g,cap,cur,q1,q2,q3,q4,q5,q6,q7⟩
 ·injection q with e1 e2 e3
  subst e1 e3;exact .inl ⟨by rw [show m=0 by omega],by omega⟩
 ·injection q1 with e1 e2 e3
  subst e1 e3;refine .inr ⟨g,c,cur,rfl,q2,q3,by omega,q5,q6,?_⟩;rw [←q7,List.take_take];congr 1
  omega
theorem JAt.pop {U JB N i c c1 n:Nat} {j:Jo} {w:World} {s p p0:Option Addr} {n0 c0:Nat} {fs:List Value} (h:JAt U w JB (j.back (i+1)) N) (hi:i<j.undo.length) (hb:w.heap[JB]?=some (.cells #[.slice p0 n0 c0,.slice s (i+1) c1] 68 (0,0)))
    (ho:w.ownsRow U 1 1 (.slice s (i+1) c1) (i+1) fs) (hu:∀k,k<i+1→∃f,fs[k]?=some f∧UnC w JB f (j.undo.getD k [])) (hr:∀l∈j.undo,aV l=true)
    (h3:StAt (JS w) w (.slice p n c) (j.undo.getD i [])) :
    JAt U ((w.setCell ⟨JB,0,none⟩ (.slice p n c)).setCell ⟨JB,1,none⟩ (.slice s i c1)) JB (j.back i) N:=by
 have hs:Stays (JS w) w ((w.setCell ⟨JB,0,none⟩ (.slice p n c)).setCell ⟨JB,1,none⟩ (.slice s i c1)):=Stays.of_ne (((On.refl JB w).set 0 _).set 1 _) (fun q=>(q.not (U:=U) h.ty) (.inl rfl));have A:∀b,b≠JB→((w.setCell ⟨JB,0,none⟩ (.slice p n c)).setCell ⟨JB,1,none⟩ (.slice s i c1)).heap[b]?=w.heap[b]?:=fun b hb=>(ak _ _ _ _ hb).trans (ak _ _ _ _ hb);have hl:(j.undo.take i).length=i:=by rw [List.length_take];omega
 unfold Jo.back;rw [if_pos hi];refine ⟨⟨p,n,c,.slice s i c1,fs.take i,au (au hb 0 _) 1 _,h3.js hs,?_,fun k hk=>?_⟩,hr _ ?_,fun q hq=>hr q (List.mem_of_mem_take hq),?_⟩
 ·rw [hl]
  exact gc (zl ho (Nat.le_succ _)) fun k q=>A k ((dy ho (show (Value.slice s (i+1) c1).ownBlock=some k by cases s with | none=>cases q | some a=>exact q)).ne h.ty (by decide))
 ·rw [hl] at hk
  obtain ⟨f,e1,e2⟩:=hu k (by omega);refine ⟨f,by rw [List.getElem?_take,if_pos hk];exact e1,?_⟩;rw [List.getD_eq_getElem?_getD,List.getElem?_take,if_pos hk,←List.getD_eq_getElem?_getD];exact e2.keep hs
 ·rw [List.getD_eq_getElem?_getD,List.getElem?_eq_getElem hi]
  exact List.getElem_mem _
 ·have:=h.few
  unfold Jo.back at this;simp at this ⊢
  omega
theorem vX {U JB N:Nat} {j:Jo} (m:Nat) (w:World) (h:JAt U w JB j N) (hm:m≤j.undo.length) (hN:N≤10000000):Calls Tryz.prog 36 #[.pointer (some ⟨JB,0,none⟩),.int .i64 m] w fun e w'=>e=.returned (.int .i64 0)∧JAt U w' JB (j.back m) N∧OnS (fun k=>k=JB) w w':=by
 have HJ:=zh h;have HR:=zh h.rights;obtain ⟨p,n,c,uv,fs,h1,h2,h3,_⟩:=h.box;obtain ⟨s1,c1,rfl,_⟩:=bC h3;have x1:=aa h1 (j:=1) (u:=.slice s1 j.undo.length c1) rfl;have I:=h.few;have HF:Hd (j.undo.length≤10000000):=zh (by omega);have X:∀args W,Sem.run Tryz.prog (callFunc 187 args) W=.ok (.enter 187 args) W:=fun _ _=>Tryz.call187 _ _;have S:(m:Int)≤(j.undo.length:Int):=by omega
 have q0:decide ((m:Int)<0)=false:=decide_eq_false (by omega);have q9:decide (j.undo.length<m)=false:=decide_eq_false (by omega);have HM:=zh hm;clear h h1 h2 h3 I hN hm;go_enter Tryz.func36,Tryz.ntmps36
 go_wp2_with fail
 go_loopg [5] (j.undo.length) (fun gg t5 wr=>∃i:Nat,i=gg∧m≤i∧i≤j.undo.length∧t5=.int .i64 (i:Int)∧Hd (JAt U wr JB (j.back i) N)∧OnS (fun k=>k=JB) w wr)
 case atStart=>exact ⟨_,rfl,HM.o,Nat.le_refl _,rfl,zh (by rw [Jo.back_all];exact HJ.o),OnS.refl _ _⟩
 case round =>
  obtain ⟨i,rfl,P,M,rfl,G,H⟩:=hrel;have O:=zh H;by_cases T:m<i
  ·obtain ⟨i,rfl⟩:∃k,i=k+1:=⟨i-1,by omega⟩
   obtain ⟨p0,n0,c0,uv,fs,h1,h2,h3,h4⟩:=G.o.box;have hl:(j.back (i+1)).undo.length=i+1:=by unfold Jo.back;simp;omega
   rw [hl] at h3 h4;obtain ⟨s2,c2,rfl,D,E,_,A⟩:=bC h3;obtain ⟨g,rfl,hg,_,B⟩:=A (Nat.succ_pos _)
   have hu:∀k,k<i+1→∃f,fs[k]?=some f∧UnC wr JB f (j.undo.getD k []):=fun k hk=>by
    obtain ⟨f,e1,e2⟩:=h4 k hk;refine ⟨f,e1,?_⟩;unfold Jo.back at e2;dsimp only at e2;rwa [List.getD_eq_getElem?_getD,List.getElem?_take,if_pos hk,←List.getD_eq_getElem?_getD] at e2
   obtain ⟨f,hf,wb,jb,p3,n3,c3,rfl,K,L,C⟩:=hu i (Nat.lt_succ_self _);have V:=B i _ hf;have x1:=aa h1 (j:=1) (u:=.slice (some ⟨g,0,none⟩) (i+1) c2) rfl;have Q:=zh (CD wr G.o (aa K (j:=0) rfl) (aa L (j:=0) rfl));have J:=zh (JAt.pop G.o (by omega) h1 h3 hu HR.o C);have F:=au h1 0 (.slice p3 n3 c3);have HB:=zh F;have x1b:=aa F (j:=1) (u:=.slice (some ⟨g,0,none⟩) (i+1) c2) rfl;have y1b:=ae F 1;have q1:(m:Int)<(i:Int)+1:=by omega
   have q2:(i:Int)≤10000000:=by have:=HF.o;omega
   have q4:(c2:Int)≤9223372036854775807:=by unfold maxLen at E;omega
   have q5:(i:Int)≤(c2:Int):=by omega
   have R:=zh (And.intro P (And.intro M D));clear h1 h2 h3 h4 hl A B hu hf K L C F H E D M;go_wp2_with fail
   go_at_fn 187
   refine Q.o.mono ?_;rintro e w' ⟨rfl,rfl⟩;go_wp2_with fail
   go_roundg i
   case measure=>omega
   case rel=>exact ⟨i,rfl,by omega,by have:=R.o;omega,by go_num,J,(O.o.set rfl 0 _).set rfl 1 _⟩
  ·obtain rfl:i=m:=by omega
   have q1:¬(i:Int)<(i:Int):=by omega
   clear H;go_wp2_with fail
   exact bodyPost_ret (v:=.int .i64 0) (by simp [results,Tryz.results36,go_sem]) rfl ⟨rfl,G.o,O.o⟩
end
end Go.Proofs.YthgcpfkochikfaaGreat
