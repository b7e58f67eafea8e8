/-
  EvalSigns: part 26 of its proof: see the last text.
-/
import Derived.Test.YthgcpfkochikfaaGreatPs25
set_option maxRecDepth 100000
set_option maxHeartbeats 16000000
namespace Go.Proofs.YthgcpfkochikfaaGreat
section
open Go.RowKit
attribute [local go_sem ↓] Go.wp_at_zero Go.wp_at_succ
theorem lF:∀(l:List (ByteArray×Int)) (vs:List Vv) (m:Sc) (i:Nat),i<l.length→i<vs.length→dh (l.take (i+1)) (vs.take (i+1)) m=bZ (dh (l.take i) (vs.take i) m) (l.getD i default).1 (vs.getD i noV)
 | [],_,_,_,h,_=>absurd h (Nat.not_lt_zero _)
 | _ :: _,[],_,_,_,h=>absurd h (Nat.not_lt_zero _)
 | p :: l,v :: vs,m,0,_,_=>by simp [dh]
 | p :: l,v :: vs,m,i+1,h,g=>by
  rw [List.take_succ_cons,List.take_succ_cons,dh,lF l vs _ i (by simpa using h) (by simpa using g),List.take_succ_cons,List.take_succ_cons,dh];rfl
theorem jp {y:Ly} {m:Nat} (hm:m≤15) (HL:∀f,f∈y.F→xy y m f.body):jw y m:=by
 intro nm vs av r w f h9 Hy h hv;have h7:=(ld h9).2;have I:=kG y.F nm
 have G:ixF y.F nm<y.F.length:=by
  by_cases q:ixF y.F nm<y.F.length
  ·exact q
  ·rw [if_neg q,h9] at I;cases I
 rw [if_pos G,h9] at I;have Kc:Hd (y.F.getD (ixF y.F nm) default=f):=zh (Option.some.inj I).symm;have Kb:=zh G;have Ki:=zh (HL f h7);have HX:=zh Hy;have k4:Hd (y.D≤w.heap.size):=zh (by have:=h.low;omega);have HO:Hd (aF y.F (m+1) nm vs r=((aG (aF y.F m) f.body [dh f.params vs []]).then fun p=>okM (p.1.getD noV)) r):=zh (by rw [aF,tw,h9]);generalize aF y.F (m+1) nm vs r=o at *;have hC:Below w.heap.size w ((w.alloc (.cells #[.string nm] 9)).alloc (.cells #[.int .i64 0,.int .i64 0,.slice none 0 0] 35)):=ag (ag (Below.refl _ _) _) _;have hz:=zh hC;have HW:=zh (h.below hC);have K2:=zh (hv.low hC);have HY:Hd (((w.alloc (.cells #[.string nm] 9)).alloc (.cells #[.int .i64 0,.int .i64 0,.slice none 0 0] 35)).cell? ⟨w.heap.size,0,none⟩=some (.string nm)):=zh (aa (ax _ _ _ _ (aj _ _ _ rfl)) rfl);have hn:Hd (((w.alloc (.cells #[.string nm] 9)).alloc (.cells #[.int .i64 0,.int .i64 0,.slice none 0 0] 35)).heap[w.heap.size+1]?=some (.cells #[.int .i64 0,.int .i64 0,.slice none 0 0] 35 (0,0))):=zh (aj _ _ _ (ah _ _));obtain ⟨sF,nF,cF,U,R⟩:=HW.o.box;have K5:=zh R
 have Hl:=zh (fun W (hW:Below ((w.alloc (.cells #[.string nm] 9)).alloc (.cells #[.int .i64 0,.int .i64 0,.slice none 0 0] 35)).heap.size ((w.alloc (.cells #[.string nm] 9)).alloc (.cells #[.int .i64 0,.int .i64 0,.slice none 0 0] 35)) W)=>qW 55 w.heap.size (fun i=>((y.F.getD i default).name.toList==nm.toList)) (ixF y.F nm) W (fun _ _=>Tryz.call55 _ _) (R.keep (Stays.of_below hW)) (sY _ _) (fun i hi=>sM _ _ i hi) (fun q=>ui q)
   (fun i hi v1 v2 v3 v4 W2 kt=>wP _ v1 v2 v3 v4 nm w.heap.size W2 (((am hW kt).cell (p:=⟨w.heap.size,0,none⟩) (az HY.o)).trans HY.o)))
 rw [if_pos G] at Hl;obtain ⟨fcs,⟨sF',capF,kb,hU,H3,_,N,_⟩,h8⟩:=R;injection kb with e1 e2 e3
 subst e1 e2 e3;obtain ⟨fb,foff,rfl,kr,HG,HH⟩:=N (by omega);obtain ⟨vp,vb,H2,⟨pcs,O,V⟩,P⟩:=h8 (ixF y.F nm) G;rw [Kc.o] at H2 O V P;obtain ⟨s1,c1,rfl,h5,h6,_,Hx,_⟩:=O;obtain ⟨bcs,⟨s2,c2,rfl,HK⟩,he⟩:=P;have hy:Hd (RepSts (fun b=>b<y.D) ((w.alloc (.cells #[.string nm] 9)).alloc (.cells #[.int .i64 0,.int .i64 0,.slice none 0 0] 35)) (.slice s2 f.body.length c2) f.body):=zh ⟨bcs,⟨s2,c2,rfl,HK⟩,he⟩;have K8:=zh Hx;have He:=zh V;have X:=HH (ixF y.F nm) G;rw [H2] at X
 have B:Hd (∀j u,([.string f.name,.slice s1 f.params.length c1,.int .i64 f.result,.slice s2 f.body.length c2,.int .i64 f.pos]:List Value)[j]?=some u→((w.alloc (.cells #[.string nm] 9)).alloc (.cells #[.int .i64 0,.int .i64 0,.slice none 0 0] 35)).cell? ⟨fb,foff+ixF y.F nm * 5+j,none⟩=some u):=zh (fun j u hu=>by
   have hj:j<5:=by
     have:=(List.getElem?_eq_some_iff.1 hu).1;simpa using this
   rw [X j hj,←hu])
 have q0:=aa U (j:=0) (u:=.slice (some ⟨fb,foff,none⟩) y.F.length cF) rfl;have hf:Hd (((w.alloc (.cells #[.string nm] 9)).alloc (.cells #[.int .i64 0,.int .i64 0,.slice none 0 0] 35)).cell? ⟨y.RB,0,none⟩=some (.slice (some ⟨fb,foff,none⟩) y.F.length cF)):=zh q0;have hq:Hd (y.RB<((w.alloc (.cells #[.string nm] 9)).alloc (.cells #[.int .i64 0,.int .i64 0,.slice none 0 0] 35)).heap.size):=zh (af U);have A:Hd (fb<((w.alloc (.cells #[.string nm] 9)).alloc (.cells #[.int .i64 0,.int .i64 0,.slice none 0 0] 35)).heap.size):=zh HG;have kl:(0:Int)≤(ixF y.F nm:Int):=by omega
 have kk:(ixF y.F nm:Int)<(y.F.length:Int):=by omega
 have Hc:Hd (f.params.length≤maxLen):=zh (Nat.le_trans h5 h6)
 obtain ⟨sv,nv,cv,H5⟩:∃s n c,av=.slice s n c:=by
  obtain ⟨_,⟨s,c,e,_⟩,_⟩:=hv;exact ⟨s,_,c,e⟩
 subst H5;clear h hv h9 Hy h7 I G HL U N h8 HH H2 Hx V HK he X hU H3 h5 h6 hC kr HG;go_enter Tryz.func37,Tryz.ntmps37
 go_upto_region 1 with fail
 generalize Kn:ixF y.F nm=ix at *;go_cut [7] (fun t7 wx=>∃FB,t7=.pointer (some ⟨FB,0,none⟩)∧wx.heap[FB]?=some (.cells #[.string f.name,.slice s1 f.params.length c1,.int .i64 f.result,.slice s2 f.body.length c2,.int .i64 f.pos] 76 (0,0))∧Below ((w.alloc (.cells #[.string nm] 9)).alloc (.cells #[.int .i64 0,.int .i64 0,.slice none 0 0] 35)).heap.size ((w.alloc (.cells #[.string nm] 9)).alloc (.cells #[.int .i64 0,.int .i64 0,.slice none 0 0] 35)) wx)
 case first =>
  generalize ((w.alloc (.cells #[.string nm] 9)).alloc (.cells #[.int .i64 0,.int .i64 0,.slice none 0 0] 35))=w0 at *;clear q0;refine ay (S:=fun W=>W.cell? ⟨y.RB,0,none⟩=some (.slice (some ⟨fb,foff,none⟩) y.F.length cF)∧W.cell? ⟨fb,foff+ix * 5,none⟩=some (.string f.name)∧W.cell? ⟨fb,foff+ix * 5+1,none⟩=some (.slice s1 f.params.length c1)∧W.cell? ⟨fb,foff+ix * 5+2,none⟩=some (.int .i64 f.result)∧W.cell? ⟨fb,foff+ix * 5+3,none⟩=some (.slice s2 f.body.length c2)∧W.cell? ⟨fb,foff+ix * 5+4,none⟩=some (.int .i64 f.pos)) 13 (by kernel_rfl) (by kernel_rfl) (by (try dsimp only);have hQ:Below w0.heap.size w0 _:=aw (Below.refl _ _);exact ⟨(hQ.cell (p:=⟨y.RB,_,none⟩) hq.o).trans hf.o,(hQ.cell (p:=⟨fb,_,none⟩) A.o).trans (B.o 0 _ rfl),(hQ.cell (p:=⟨fb,_,none⟩) A.o).trans (B.o 1 _ rfl),(hQ.cell (p:=⟨fb,_,none⟩) A.o).trans (B.o 2 _ rfl),(hQ.cell (p:=⟨fb,_,none⟩) A.o).trans (B.o 3 _ rfl),(hQ.cell (p:=⟨fb,_,none⟩) A.o).trans (B.o 4 _ rfl)⟩) (fun hH=>?_);simp only [List.take_succ_cons,List.take_zero,List.drop_succ_cons,List.drop_zero]
  refine tkA 0 ?_;refine tkA 1 ?_;refine tkA 2 ?_;refine tkA 3 ?_;refine tkA 4 ?_;refine tkA 5 ?_;refine tkA 6 ?_;refine tkA 7 ?_;refine tkA 8 ?_;refine wpAnyH_ready (rs:=[9,12]) (by kernel_rfl) (by simp) ?_;refine (AllReadyH.cons rfl (fun K hK=>?_) (AllReadyH.cons rfl (fun K hK=>?_) AllReadyH.nil))
  ·go_simp
   go_at_call 31
   refine (Hl.o _ (aw (Below.refl _ _))).mono ?_;rintro e w2 ⟨rfl,E⟩;have l:Hd (Below w0.heap.size w0 w2):=zh (am (aw (Below.refl w0.heap.size w0)) E);refine hK.out _ _ ?_ (fun hH=>?_)
   ·(try dsimp only);have hQ:Below w0.heap.size w0 _:=l.o;exact ⟨(hQ.cell (p:=⟨y.RB,_,none⟩) hq.o).trans hf.o,(hQ.cell (p:=⟨fb,_,none⟩) A.o).trans (B.o 0 _ rfl),(hQ.cell (p:=⟨fb,_,none⟩) A.o).trans (B.o 1 _ rfl),(hQ.cell (p:=⟨fb,_,none⟩) A.o).trans (B.o 2 _ rfl),(hQ.cell (p:=⟨fb,_,none⟩) A.o).trans (B.o 3 _ rfl),(hQ.cell (p:=⟨fb,_,none⟩) A.o).trans (B.o 4 _ rfl)⟩
   clear hK K;try go_simp
   refine tkA 10 ?_;refine tkA 11 ?_;refine rd1 12 fun K hK=>?_;go_simp;refine hK.out _ _ ?_ (fun hH=>?_)
   ·(try dsimp only);have hQ:Below w0.heap.size w0 (w2.alloc (.cells #[.string ⟨#[]⟩,.slice none 0 0,.int .i64 0,.slice none 0 0,.int .i64 0] 76)):=ag l.o _;exact ⟨(hQ.cell (p:=⟨y.RB,_,none⟩) hq.o).trans hf.o,(hQ.cell (p:=⟨fb,_,none⟩) A.o).trans (B.o 0 _ rfl),(hQ.cell (p:=⟨fb,_,none⟩) A.o).trans (B.o 1 _ rfl),(hQ.cell (p:=⟨fb,_,none⟩) A.o).trans (B.o 2 _ rfl),(hQ.cell (p:=⟨fb,_,none⟩) A.o).trans (B.o 3 _ rfl),(hQ.cell (p:=⟨fb,_,none⟩) A.o).trans (B.o 4 _ rfl)⟩
   clear hK K;try go_simp
   refine wpAnyH_done (by kernel_rfl) ?_ _;dsimp only [aP];go_wp2_with fail
   go_meet
   exact ⟨w2.heap.size,rfl,aj _ _ _ rfl,ag l.o _⟩
  ·go_simp
   have Hn:Hd (Below w0.heap.size w0 (w0.alloc (.cells #[.string ⟨#[]⟩,.slice none 0 0,.int .i64 0,.slice none 0 0,.int .i64 0] 76)).drew):=zh (aw (ag (Below.refl _ _) _));have HP:Hd ((w0.alloc (.cells #[.string ⟨#[]⟩,.slice none 0 0,.int .i64 0,.slice none 0 0,.int .i64 0] 76)).drew.heap[w0.heap.size]?=some (.cells #[.string ⟨#[]⟩,.slice none 0 0,.int .i64 0,.slice none 0 0,.int .i64 0] 76 (0,0))):=zh (aj w0 _ _ rfl);refine hK.out _ _ ?_ (fun hH=>?_)
   ·(try dsimp only);have hQ:Below w0.heap.size w0 _:=Hn.o;exact ⟨(hQ.cell (p:=⟨y.RB,_,none⟩) hq.o).trans hf.o,(hQ.cell (p:=⟨fb,_,none⟩) A.o).trans (B.o 0 _ rfl),(hQ.cell (p:=⟨fb,_,none⟩) A.o).trans (B.o 1 _ rfl),(hQ.cell (p:=⟨fb,_,none⟩) A.o).trans (B.o 2 _ rfl),(hQ.cell (p:=⟨fb,_,none⟩) A.o).trans (B.o 3 _ rfl),(hQ.cell (p:=⟨fb,_,none⟩) A.o).trans (B.o 4 _ rfl)⟩
   clear hK K;try go_simp
   refine rd1 9 fun K hK=>?_;go_simp;go_at_call 31
   refine (Hl.o _ Hn.o).mono ?_;rintro e w2 ⟨rfl,E⟩;have l:Hd (Below w0.heap.size w0 w2):=zh (am Hn.o E);have HZ:=zh ((E.block _ (af HP.o)).trans HP.o);clear E;refine hK.out _ _ ?_ (fun hH=>?_)
   ·(try dsimp only);have hQ:Below w0.heap.size w0 _:=l.o;exact ⟨(hQ.cell (p:=⟨y.RB,_,none⟩) hq.o).trans hf.o,(hQ.cell (p:=⟨fb,_,none⟩) A.o).trans (B.o 0 _ rfl),(hQ.cell (p:=⟨fb,_,none⟩) A.o).trans (B.o 1 _ rfl),(hQ.cell (p:=⟨fb,_,none⟩) A.o).trans (B.o 2 _ rfl),(hQ.cell (p:=⟨fb,_,none⟩) A.o).trans (B.o 3 _ rfl),(hQ.cell (p:=⟨fb,_,none⟩) A.o).trans (B.o 4 _ rfl)⟩
   clear hK K;try go_simp
   refine tkA 10 ?_;refine tkA 11 ?_;refine wpAnyH_done (by kernel_rfl) ?_ _;dsimp only [aP];have n0:=aa HZ.o (j:=0) (u:=.string ⟨#[]⟩) rfl;have n1:=aa HZ.o (j:=1) (u:=.slice none 0 0) rfl;have n2:=aa HZ.o (j:=2) (u:=.int .i64 0) rfl;have n3:=aa HZ.o (j:=3) (u:=.slice none 0 0) rfl;have n4:=aa HZ.o (j:=4) (u:=.int .i64 0) rfl;have z0:=ae HZ.o 0;have z1:=ae HZ.o 1;have z2:=ae HZ.o 2;have z3:=ae HZ.o 3;have z4:=ae HZ.o 4;go_wp2_with fail
   go_meet
   exact ⟨w0.heap.size,rfl,au (au (au (au (au HZ.o 0 _) 1 _) 2 _) 3 _) 4 _,dp (dp (dp (dp (dp l.o (Nat.le_refl _) _) (Nat.le_refl _) _) (Nat.le_refl _) _) (Nat.le_refl _) _) (Nat.le_refl _) _⟩
 case rest =>
  obtain ⟨FB,rfl,HI,Z⟩:=hcut;generalize ((w.alloc (.cells #[.string nm] 9)).alloc (.cells #[.int .i64 0,.int .i64 0,.slice none 0 0] 35))=w0 at *;have HU:=zh (HW.o.below Z);have kv:=zh (K2.o.low Z);have k2:=zh HI;have hg:=zh ((Z.block _ (af hn.o)).trans hn.o);have Hp:=zh (hy.o.keep (Stays.of_below Z));have Hs:=zh Z;have HQ:Hd (Calls Tryz.prog 56 #[.pointer none] wc fun e w'=>∃b,e=.returned (eU [b])∧ChAt y.D w' [b] [[]]∧(wc.heap.size≤b.1∧wc.heap.size≤b.2)∧Below wc.heap.size wc w'):=zh (jZ y.D [] [] wc trivial (by have:=HU.o.low;omega));clear HI Z q0;go_wp2_with fail
  refine HQ.o.mono ?_;rintro e w2 ⟨b,rfl,HJ,H4,E⟩;have hG:=zh (HU.o.below E);have K1:=zh (kv.o.low E);have Ha:=zh ((E.block _ (af hg.o)).trans hg.o);have Hm:=zh ((E.block _ (af k2.o)).trans k2.o);have Hr:=zh (Hp.o.keep (Stays.of_below E));have hM:Hd (ChAt y.D w2 [b] [dh (f.params.take 0) (vs.take 0) []]):=zh HJ;have H:=zh (am Hs.o E);have Kg:=zh H4;have HS:Hd (w.heap.size≤w2.heap.size∧w.heap.size≤b.2):=zh (by have h1:=hz.o.size;have h2:=Hs.o.size;have h3:=E.size;have h4:=H4.2;omega);obtain ⟨B1,B2⟩:=b;unfold eU;dsimp only at *;clear HJ H4 E HQ;have f0:=aa Hm.o (j:=0) (u:=.string f.name) rfl;have f1:=aa Hm.o (j:=1) (u:=.slice s1 f.params.length c1) rfl;go_wp2_with fail
  have kc:(f.params.length:Int)≤9223372036854775807:=by have:=Hc.o;unfold maxLen at this;omega
  clear f0 f1;go_loopg [29] f.params.length (fun gg t29 wr=>∃i:Nat,i+gg=f.params.length∧t29=.int .i64 (i:Int)∧Hd (RunAt y wr r (kC (m+1)))∧Hd (ChAt y.D wr [(B1,B2)] [dh (f.params.take i) (vs.take i) []])∧Hd (VsAt y wr (.slice sv nv cv) vs)∧Hd (OnS (fun k=>k=B2) w2 wr))
  case atStart=>exact ⟨0,Nat.zero_add _,rfl,hG,hM,K1,zh (OnS.refl _ _)⟩
  case round =>
   obtain ⟨i,HE,rfl,Q,ht,HR,Hi⟩:=hrel;have k0:=zh HE;by_cases H1:i<f.params.length
   ·have H0:(i:Int)<(f.params.length:Int):=by omega
    have Ko:(0:Int)≤(i:Int):=by omega
    obtain ⟨pb,poff,rfl,Kk,h0,Hz⟩:=K8.o (by omega);have kd:¬pb=B2:=fun e=>by have h1:=Kg.o.2;have h2:=Hs.o.size;omega
    have M:∀j,j<2→wr.cell? ⟨pb,poff+i * 2+j,none⟩=(pcs i)[j]?:=fun j hj=>((World.cell?_of_block (w:=w2) (Hi.o.block pb (Nat.lt_of_lt_of_le h0 H.o.size) kd)).trans (H.o.cell (p:=⟨pb,_,none⟩) h0)).trans (Hz i H1 j hj);rw [He.o i H1] at M;have p0:wr.cell? ⟨pb,poff+i * 2,none⟩=some (.string (f.params.getD i default).1):=M 0 (by decide);have p1:wr.cell? ⟨pb,poff+i * 2+1,none⟩=some (.int .i64 (f.params.getD i default).2):=M 1 (by decide);obtain ⟨vcs,⟨sv',cv',ka,hO,Hu,_,Ht,_⟩,Hv⟩:=HR.o;injection ka with e1 e2 e3
    subst e1 e2 e3;have hX:i<vs.length:=by have:=HX.o;omega
    obtain ⟨gb,goff,rfl,kp,ko,HF⟩:=Ht (by omega);have hA:=Hv i hX;have J:=HF i hX;have Kj:Hd (vs.getD i noV=vs.getD i noV):=zh rfl;obtain ⟨pa,ca,hD,HN⟩:=id hA.1
    have hb:vcs i=[.int .i64 (vs.getD i noV).ty,.int .i64 (vs.getD i noV).num,.slice pa (vs.getD i noV).text.length ca]:=by
     injection hD with hD
     have:=congrArg Array.toList hD;simpa using this
    have HA:Hd (VvR y wr (vs.getD i noV) (.agg #[.int .i64 (vs.getD i noV).ty,.int .i64 (vs.getD i noV).num,.slice pa (vs.getD i noV).text.length ca])):=zh ⟨⟨pa,ca,rfl,HN⟩,hA.2⟩;rw [hb] at J;have g0:wr.cell? ⟨gb,goff+i * 3,none⟩=some (.int .i64 (vs.getD i noV).ty):=J 0 (by decide);have g1:wr.cell? ⟨gb,goff+i * 3+1,none⟩=some (.int .i64 (vs.getD i noV).num):=J 1 (by decide);have g2:wr.cell? ⟨gb,goff+i * 3+2,none⟩=some (.slice pa (vs.getD i noV).text.length ca):=J 2 (by decide);have kn:(i:Int)<(vs.length:Int):=by omega
    have K3:=zh (lF f.params vs [] i H1 hX);obtain ⟨⟨hB,HM,_,mv,HD,HC⟩,_⟩:=ht.o;have k9:(vs.length:Int)≤9223372036854775807:=by unfold maxLen at Hu;omega
    have Hk:=zh HD;have Ka:=zh HC;have k7:=zh hB;have hN:=zh HM;have hT:=af hB;have hS:=az g0;have bx1:=aa hB (j:=1) (u:=.map (some B2)) rfl;generalize (f.params.getD i default).1=pn at *;generalize (f.params.getD i default).2=pt at *;generalize vs.getD i noV=a at *;generalize a.text.length=la at *;clear HE Hz M hO Ht Hv hA HF J hD HN hb hB HM HD HC Hu kp ko;go_upto_region 6 with fail
    have hd:Below wr.heap.size wr (wr.alloc (.cells #[.string pn,.int .i64 pt] 80)):=ag (Below.refl _ _) _;have H6:Hd ((wr.alloc (.cells #[.string pn,.int .i64 pt] 80)).cell? ⟨B1,1,none⟩=some (.map (some B2))∧(wr.alloc (.cells #[.string pn,.int .i64 pt] 80)).cell? ⟨wr.heap.size,0,none⟩=some (.string pn)∧(wr.alloc (.cells #[.string pn,.int .i64 pt] 80)).cell? ⟨gb,goff+i * 3,none⟩=some (.int .i64 a.ty)∧(wr.alloc (.cells #[.string pn,.int .i64 pt] 80)).cell? ⟨gb,goff+i * 3+1,none⟩=some (.int .i64 a.num)∧(wr.alloc (.cells #[.string pn,.int .i64 pt] 80)).cell? ⟨gb,goff+i * 3+2,none⟩=some (.slice pa la ca)):=zh ⟨aq _ bx1,aA _ _ _ _ _ _ rfl rfl,aq _ g0,aq _ g1,aq _ g2⟩;have hx:=zh hd;generalize (wr.alloc (.cells #[.string pn,.int .i64 pt] 80))=wx at *;clear hd g0 g1 g2 bx1 p0 p1 hT hS;have L:Below wr.heap.size wr wx.drew:=aw hx.o;have hp:=fM (Hk.o.below L) fI ji pn (.agg #[.int .i64 a.ty,.int .i64 a.num,.slice pa la ca]);have hr:=zh (gj wx.drew B2 pn (.agg #[.int .i64 a.ty,.int .i64 a.num,.slice pa la ca]));have K9:=zh (jJ (Hk.o.below L) pn (.agg #[.int .i64 a.ty,.int .i64 a.num,.slice pa la ca]));have hI:=zh (Hk.o.below L);have K4:=zh (Q.o.below L);have Kp:=zh (ht.o.low L);have kx:=zh (HR.o.low L);have Hj:=zh (MvAt.imp (fun v x q=>VvAt.low q L) Ka.o);have k8:=zh (HA.o.low L);have Hg:Hd (OnS (fun k=>k=B2) w2 wx.drew):=zh (Hi.o.trans (OnS.of_below L));have hw:=zh ((L.block _ (af k7.o)).trans k7.o);clear L hx;generalize wr.heap.size=PB at *;refine ay (S:=fun W=>W.cell? ⟨B1,1,none⟩=some (.map (some B2))∧W.cell? ⟨PB,0,none⟩=some (.string pn)∧W.cell? ⟨gb,goff+i * 3,none⟩=some (.int .i64 a.ty)∧W.cell? ⟨gb,goff+i * 3+1,none⟩=some (.int .i64 a.num)∧W.cell? ⟨gb,goff+i * 3+2,none⟩=some (.slice pa la ca)) 10 (by kernel_rfl) (by kernel_rfl) (by (try dsimp only);exact H6.o) (fun hH=>?_);simp only [List.take_succ_cons,List.take_zero,List.drop_succ_cons,List.drop_zero]
    refine tkA 0 ?_;refine tkA 1 ?_;refine tkA 2 ?_;refine tkA 3 ?_;refine tkA 4 ?_;refine tkA 5 ?_;refine tkA 6 ?_;refine tkA 7 ?_;refine tkA 8 ?_;refine tkA 9 ?_;refine wpAnyH_done (by kernel_rfl) ?_ _;dsimp only [aP];go_wp2_with fail
    generalize (iB wx.drew B2 pn (.agg #[.int .i64 a.ty,.int .i64 a.num,.slice pa la ca]))=wz at *;have HB:B1≠B2:=fun e=>hI.o.noT (t:=125) ⟨_,_,e▸hw.o⟩
    have hV:Stays (KS y.D wx.drew) wx.drew wz:=Stays.of_ne hr.o fun q=>by
     rcases q with q | q
     ·exact absurd hN.o (Nat.not_le_of_lt q)
     ·exact hI.o.noT q
    have Hw:Stays (VB y.D wx.drew) wx.drew wz:=Stays.of_ne hr.o fun q=>by
     rcases q with q | q
     ·exact absurd hN.o (Nat.not_le_of_lt q)
     ·exact hI.o.noT q
    have K6:Hd (RunAt y wz r (kC (m+1))):=zh (K4.o.off hr.o hN.o fun t q=>absurd q hI.o.noT)
    have Ke:Hd (ChAt y.D wz [(B1,B2)] [dh (f.params.take (i+1)) (vs.take (i+1)) []]):=zh (by
      rw [K3.o];exact ⟨⟨hr.o.obj HB hw.o,hN.o,fun c hc=>(by cases hc),_,K9.o,MvAt.imp (fun v x q=>q.stays hV) (MvAt.put k8.o.1 k8.o.2 pn Hj.o)⟩,trivial⟩)
    have kz:=zh (kx.o.stays Hw hV);have Hh:Hd (OnS (fun k=>k=B2) w2 wz):=zh (Hg.o.trans (OnS.of_on hr.o rfl));clear HB hV Hw hp hH;go_roundg (f.params.length-i-1)
    case measure=>have:=k0.o;omega
    case rel=>exact ⟨i+1,by have:=k0.o;omega,by go_num,K6,Ke,kz,Hh⟩
   ·obtain rfl:i=f.params.length:=by omega
    have H0:¬(f.params.length:Int)<(f.params.length:Int):=by omega
    have Kf:Hd (ChAt y.D wr [(B1,B2)] [dh f.params vs []]):=zh (by
      have q:=ht.o;rw [List.take_length,HX.o,List.take_length] at q;exact q)
    have hF:Hd (Sf y [(B1,B2)] w2 wr):=zh (Hi.o.mono fun k hk=>.inr (by rw [hk];exact List.mem_singleton.2 rfl));have k1:=zh (jS Hm.o hG.o hM.o hF.o (by decide) (by decide) (by decide));have H8:=zh (jS Ha.o hG.o hM.o hF.o (by decide) (by decide) (by decide));have Ho:=zh (Hr.o.keep (fL hG.o hM.o hF.o));obtain ⟨rs,rn,rc,U,_⟩:=Q.o.box;have q4:=aa U (j:=4) (u:=.int .i64 (kC (m+1))) rfl;have u4:=ae U 4;have ki:FB≠y.RB:=OfTy.ne (⟨_,_,k1.o⟩:OfTy wr FB 76) Q.o.ty (by decide);have f3:=aa k1.o (j:=3) (u:=.slice s2 f.body.length c2) rfl;have Km:IntKind.i64.wrap (kC (m+1)+1)=kC m:=by unfold kC;rw [IntKind.wrap_i64];omega
    have HV:Hd (RunAt y (wr.setCell ⟨y.RB,4,none⟩ (.int .i64 (kC m))) r (kC m)):=zh (RunAt.set Q.o rfl (Int.le_refl _) Q.o.gas fun _ _ _=>rfl);have hL:Hd (Ef y wr (wr.setCell ⟨y.RB,4,none⟩ (.int .i64 (kC m)))):=zh (Ef.set (Ef.refl _ _) _ _);have k6:=zh (Kf.o.ef Q.o hL.o);have H9:=zh (jS H8.o Q.o ht.o (Sf.of_ef hL.o) (by decide) (by decide) (by decide));have Hq:=zh (Ho.o.keep (fL Q.o ht.o (Sf.of_ef hL.o)));have HT:Hd (Sf y [(B1,B2)] w2 (wr.setCell ⟨y.RB,4,none⟩ (.int .i64 (kC m)))):=zh (hF.o.trans (Sf.of_ef hL.o));have Kh:Hd (Calls Tryz.prog 57 #[.pointer (some ⟨y.RB,0,none⟩),.pointer (some ⟨B1,0,none⟩),.slice s2 f.body.length c2] (wr.setCell ⟨y.RB,4,none⟩ (.int .i64 (kC m))) (Says y (SfT y [(B1,B2)]) (wr.setCell ⟨y.RB,4,none⟩ (.int .i64 (kC m))) (StR y [(B1,B2)]) (kC m) (aG (aF y.F m) f.body [dh f.params vs []] r))):=zh (Ki.o [(B1,B2)] _ r _ _ HV.o k6.o (by simp) Hq.o);clear U;go_wp2_with fail
    refine Kh.o.mono ?_;intro e w5 hs;rcases hs.cases with ⟨⟨ov,σ5⟩,r5,va,ha,rfl,⟨v5,rfl,hP,ks⟩,z,ho⟩ | ⟨t,r5,k5,ha,rfl,z,ho⟩
    ·have Hf:Hd (o=.ok (ov.getD noV) r5):=zh (by rw [HO.o,cT ha];rfl)
     have Hb:=zh z;have H7:Hd (Sf y [(B1,B2)] w2 w5):=zh (HT.o.trans ho);have hh:=zh (jS H9.o HV.o k6.o ho (by decide) (by decide) (by decide));obtain ⟨pv,cv5,rfl,_⟩:=id hP.1;have K0:=zh hP;generalize ov.getD noV=a at *;generalize ov.isSome=is at *;clear hs ha hP ks z ho q4 u4 f3;have d:Below w5.heap.size w5 (w5.alloc (.cells #[.int .i64 a.ty,.int .i64 a.num,.slice pv a.text.length cv5] 35)):=ag (Below.refl _ _) _;have g:=zh (Hb.o.below d);have kP:=zh (K0.o.low d);have Kq:=zh d;have C:=zh ((d.block _ (af hh.o)).trans hh.o);have hE:Hd ((w5.alloc (.cells #[.int .i64 a.ty,.int .i64 a.num,.slice pv a.text.length cv5] 35)).heap[w5.heap.size]?=some (.cells #[.int .i64 a.ty,.int .i64 a.num,.slice pv a.text.length cv5] 35 (0,0))):=zh (aj _ _ _ rfl);generalize a.text.length=la at *;have H6:Hd (Sf y [(B1,B2)] w2 (w5.alloc (.cells #[.int .i64 a.ty,.int .i64 a.num,.slice pv la cv5] 35))):=zh (H7.o.trans (Sf.of_below d));clear d;go_upto_region 10 with fail
     generalize (w5.alloc (.cells #[.int .i64 a.ty,.int .i64 a.num,.slice pv la cv5] 35))=w6 at *;generalize w5.heap.size=VB5 at *;obtain ⟨rs6,rn6,rc6,T,_⟩:=g.o.box;have q4:=aa T (j:=4) (u:=.int .i64 (kC m)) rfl;have u4:=ae T 4;have v0:=aa hE.o (j:=0) (u:=.int .i64 a.ty) rfl;have v1:=aa hE.o (j:=1) (u:=.int .i64 a.num) rfl;have v2:=aa hE.o (j:=2) (u:=.slice pv la cv5) rfl;have n0:=aa C.o (j:=0) (u:=.int .i64 0) rfl;have n1:=aa C.o (j:=1) (u:=.int .i64 0) rfl;have n2:=aa C.o (j:=2) (u:=.slice none 0 0) rfl;have z0:=ae C.o 0;have z1:=ae C.o 1;have z2:=ae C.o 2;have ke:VB5≠y.RB:=OfTy.ne (⟨_,_,hE.o⟩:OfTy w6 VB5 35) g.o.ty (by decide);have hR:w.heap.size+1≠y.RB:=OfTy.ne (⟨_,_,C.o⟩:OfTy w6 (w.heap.size+1) 35) g.o.ty (by decide);have Kl:IntKind.i64.wrap (kC m-1)=kC (m+1):=by unfold kC;rw [IntKind.wrap_i64];omega
     clear T;have K7:Hd (RunAt y (w6.setCell ⟨y.RB,4,none⟩ (.int .i64 (kC (m+1)))) r5 (kC (m+1))):=zh (RunAt.set g.o rfl (Int.le_refl _) g.o.gas fun _ _ _=>rfl);have k3:Hd (Ef y w6 (w6.setCell ⟨y.RB,4,none⟩ (.int .i64 (kC (m+1))))):=zh (Ef.set (Ef.refl _ _) _ _);have kE:=zh (kP.o.ef g.o k3.o);have Y:=zh ((ak w6 ⟨y.RB,4,none⟩ (.int .i64 (kC (m+1))) (w.heap.size+1) hR).trans C.o)
     have Kd:Hd (Ef y w (w6.setCell ⟨y.RB,4,none⟩ (.int .i64 (kC (m+1))))):=zh (Ef.trans (OnS.new (OnS.of_below (am hz.o H.o)) H6.o fun k hk=>by
       rcases hk with hk | hk
       · exact ET.back hk fun hl _=>(am hz.o H.o).block k hl
       · rw [List.mem_singleton.1 hk]
         exact .inr HS.o.2) k3.o)
     go_wp2_with fail
     obtain ⟨c0,c1',c2'⟩:=bN Y.o (.int .i64 a.ty) (.int .i64 a.num) (.slice pv la cv5);refine bodyPost_ret (v:=.agg #[.int .i64 a.ty,.int .i64 a.num,.slice pv la cv5]) (by simp [results,Tryz.results37,go_sem,c0,c1',c2']) rfl ?_;rw [Hf.o];exact ⟨⟨_,rfl,kE.o.set3 (Nat.le_trans k4.o (Nat.le_succ _)) ⟨_,_,Y.o⟩ _ _ _,K7.o.set3 (Nat.le_trans k4.o (Nat.le_succ _)) ⟨_,_,Y.o⟩ _ _ _⟩,Kd.o.new3 (Nat.le_succ _) _ _ _⟩
    ·have Hf:Hd (o=.trap t r5):=zh (by rw [HO.o,bQ ha])
     have Hb:=zh z;have H7:Hd (Sf y [(B1,B2)] w2 w5):=zh (HT.o.trans ho);clear hs ha z ho;unfold Trp;go_wp2_with fail
     refine ⟨rfl,?_⟩;rw [Hf.o]
     exact ⟨⟨rfl,k5,Hb.o⟩,OnS.new (OnS.of_below (am hz.o H.o)) H7.o fun k hk=>by
       rcases hk with hk | hk
       · exact ET.back hk fun hl _=>(am hz.o H.o).block k hl
       · rw [List.mem_singleton.1 hk]
         exact .inr HS.o.2⟩
end
section
open Go.RowKit
def oc (call:bT) (op:Int) (text:ByteArray) (body els:List St) (vs:List Vv):StM:=fun σ =>
 if op=3 then (if (vs.getD 0 noV).num=1 then inM [] (aG call body) σ else inM [] (aG call els) σ)
 else if op=4 then fE (fun i=>inM [(text,aB i)] (aG call body)) ((vs.getD 1 noV).num-(vs.getD 0 noV).num).toNat (vs.getD 0 noV).num σ
 else fD op text vs σ
theorem Bb {call:bT} {op pos:Int} {text:ByteArray} {es:List Ex} {body els:List St} {σ:List Sc} {r r1 r2:Rst} {vs:List Vv} (h:dy 1 r=.ok () r1) (g:bA call σ es r1=.ok vs r2):bU call (.mk op text es body els pos) σ r=oc call op text body els vs σ r2:=by
 rw [bU,cT h,cT g];rfl
theorem sr {call:bT} {op pos t:Int} {text:ByteArray} {es:List Ex} {body els:List St} {σ:List Sc} {r r1:Rst} (h:dy 1 r=.trap t r1):bU call (.mk op text es body els pos) σ r=.trap t r1:=by
 rw [bU,bQ h]
theorem sI {call:bT} {op pos t:Int} {text:ByteArray} {es:List Ex} {body els:List St} {σ:List Sc} {r r1 r2:Rst} (h:dy 1 r=.ok () r1) (g:bA call σ es r1=.trap t r2):bU call (.mk op text es body els pos) σ r=.trap t r2:=by
 rw [bU,cT h,bQ g]
theorem vC (σ:List Sc) (x:ByteArray) (v:Vv) (h:σ≠[]):Bv σ x v=σ.set 0 (bZ (σ.getD 0 []) x v):=by
 cases σ with
 | nil=>exact absurd rfl h
 | cons m l=>rfl
theorem oT:∀(σ:List Sc) (x:ByteArray) (v:Vv),σ≠[]→mN σ x v=σ.set (d8 σ x) (bZ (σ.getD (d8 σ x) []) x v)
 | [],_,_,h=>absurd rfl h
 | [m],x,v,_=>by simp [mN,d8]
 | m :: n :: l,x,v,_=>by
  rw [mN,d8];by_cases hx:gM m x=true
  ·rw [if_pos hx,if_pos hx]
   rfl
  ·rw [if_neg hx,if_neg hx,oT (n :: l) x v (by simp)]
   rfl
theorem SAt.made (w:World) (op pos:Int) (text:ByteArray) (ve vb vl:Value):SAt ((w.alloc (.cells #[.int .i64 op,.string text,ve,vb,vl,.int .i64 pos] 134)).alloc (.cells #[.int .i64 0,.int .i64 0,.slice none 0 0] 35)) w.heap.size (w.heap.size+1) op pos text ve vb vl:=
 ⟨ax _ _ _ _ (aj _ _ _ rfl),aj _ _ _ (ah _ _)⟩
theorem pM:∀{l:List (Nat×Nat)} {i:Nat},i<l.length→∃c∈l,c.2=mpA l i
 | [],_,h=>absurd h (Nat.not_lt_zero _)
 | c :: _,0,_=>⟨c,List.mem_cons_self ..,rfl⟩
 | _ :: l,i+1,h=>by
  obtain ⟨c,h1,h2⟩:=pM (l:=l) (i:=i) (by simpa using h);exact ⟨c,List.mem_cons_of_mem _ h1,h2⟩
theorem ChAt.setAt {D:Nat} {w w':World} {x:ByteArray} {v:Value} {a:Vv}:∀{l:List (Nat×Nat)} {σ:List Sc} {i:Nat} {mv:List (ByteArray×Value)},ChAt D w l σ→i<l.length→MapAt w (mpA l i) mv→VvAt (KS D w) w v a→OkV a→On (mpA l i) w w'→MapAt w' (mpA l i) (bZ mv x v)→MvAt D w mv (σ.getD i [])→ChAt D w' l (σ.set i (bZ (σ.getD i []) x a))
 | [],_,_,_,_,h,_,_,_,_,_,_=>absurd h (Nat.not_lt_zero _)
 | _ :: _,[],_,_,h,_,_,_,_,_,_,_=>h.elim
 | c :: l,m :: σ,0,mv,h,_,hm,hv,ho,A,hp,hmv=>by
  obtain ⟨⟨h1,h2,h3,_,_,_⟩,h6⟩:=h
  have hs:Stays (KS D w) w w':=Stays.of_ne A fun q=>by
   rcases q with q | q
   ·exact absurd h2 (Nat.not_le_of_lt q)
   ·exact hm.noT q
  exact ⟨⟨A.obj (fun e=>hm.noT (t:=125) ⟨_,_,e▸h1⟩) h1,h2,h3,_,hp,(MvAt.put hv ho x hmv).imp fun v x q=>VvAt.stays q hs⟩,ChAt.off h6 A ⟨_,hm⟩ h3 h2⟩
 | c :: l,m :: σ,i+1,mv,h,hi,hm,hv,ho,A,hp,hmv=>by
  have B:i<l.length:=by simpa using hi
  have hd:=(ChAt.at h.2 B).2.1;obtain ⟨⟨h1,h2,h3,mv1,h4,h5⟩,h6⟩:=h
  have hs:Stays (KS D w) w w':=Stays.of_ne A fun q=>by
   rcases q with q | q
   ·exact absurd hd (Nat.not_le_of_lt q)
   ·exact hm.noT q
  have C:c.2≠mpA (c :: l) (i+1):=fun e=>by
   obtain ⟨d,F,E⟩:=pM B;exact h3 d F (E.trans e.symm)
  exact ⟨⟨A.obj (fun e=>hm.noT (t:=125) ⟨_,_,e▸h1⟩) h1,h2,h3,mv1,h4.keep (A.block _ h4.lt fun e=>C (by injection e)),h5.imp fun v x q=>VvAt.stays q hs⟩,ChAt.setAt h6 B hm hv ho A hp hmv⟩
theorem yy {l:List (Nat×Nat)} {i:Nat} (h:i<l.length):mpA l i∈l.map (·.2):=by
 obtain ⟨c,h1,h2⟩:=pM h;exact List.mem_map.2 ⟨c,h1,h2⟩
theorem CG {n:Int} {r r':Rst} (h:dy n r=.ok () r'):r'={ r with used:=r.used+n }:=by
 unfold dy at h;by_cases q:n≤r.lim-r.used
 ·rw [if_pos q] at h
  injection h with _ h
  exact h.symm
 ·rw [if_neg q] at h
  cases h
theorem RunAt.room {y:Ly} {w w':World} {r r':Rst} {k:Int} {n:Int} (h:RunAt y w r k) (h':RunAt y w' r' k) (he:dy n r=.ok () r') (hn:1≤n):JAt y.U w' y.JB r'.jo (y.N+r'.used.toNat-1)∧y.N+r'.used.toNat-1+1≤y.N+r'.used.toNat∧y.N+r'.used.toNat-1≤10000000:=by
 have e:=CG he;have hf:=h.jo.few;have hg:=h'.gas;have A:=h.gas;have hl:=h'.low;have hu:r'.used=r.used+n:=by rw [e]
 have hj:r'.jo=r.jo:=by rw [e];rfl
 refine ⟨⟨h'.jo.box,h'.jo.right,h'.jo.rights,?_⟩,?_,?_⟩
 ·rw [hj];omega
 ·omega
 ·omega
theorem Cr (a b:Nat):Bi a b=eF a b:=by unfold Bi eF fZ o9;omega
theorem AC {a b:Nat} (ha:a≤256) (hb:b≤256):1≤eF a b∧0≤eF a b∧eF a b≤1000000000000000000:=by unfold eF fZ;omega
theorem ye {l:List Pr} {k x:List UInt8} {e:Int} (h:fw l k x=.error e):e=1∨e=71:=by
 unfold fw at h;split at h
 ·injection h with h;exact .inl h.symm
 split at h
 ·injection h with h;exact .inr h.symm
 ·cases h
end
end Go.Proofs.YthgcpfkochikfaaGreat
