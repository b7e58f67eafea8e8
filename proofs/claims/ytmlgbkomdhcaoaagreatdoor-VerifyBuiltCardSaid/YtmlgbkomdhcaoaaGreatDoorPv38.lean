/-
  VerifyBuilt: part 38 of its proof: see the last text.
-/
import Derived.Test.YtmlgbkomdhcaoaaGreatDoorPv37
set_option maxRecDepth 100000
set_option maxHeartbeats 16000000
namespace Go.Proofs.YtmlgbkomdhcaoaaGreatDoor
section
open Go.RowKit
structure StW4 (B M MB TB NB:Nat) (fv:Value) (F:List Fn) (w0 w W:World) (s:CS) (r:Nat) (v:bf) (XB:Nat) (o:Obj):Prop where
 c:CoW B M MB TB NB fv F w0 W s
 v:SlAt W r v
 x:W.heap[XB]?=some o
 f:Fx B M NB w W
theorem qU (w:World):Calls Tryz.prog 69 #[] w fun e w'=>e=.returned (.tuple #[])∧w=w':=by
 go_enter Tryz.func69,Tryz.ntmps69
 go_wp2_with fail
 go_end0
 exact ⟨rfl,rfl⟩
theorem tu (B M MB TB NB:Nat) (fv:Value) (F:List Fn) (w0:World) (op pos:Int) (text:ByteArray) (es:List Ex) (body els:List St) (ue:Value) (sb se:Option Addr) (cb ce:Nat) (Hn:RepExs (fun b=>b<B) w0 ue es) (H2:RepSts (fun b=>b<B) w0 (.slice sb body.length cb) body) (hp:sT F (.mk op text es body els pos))
    (Ha:jW B M MB TB NB fv F w0 (.slice sb body.length cb) body) (H8:jW B M MB TB NB fv F w0 (.slice se els.length ce) els):wt B M MB TB NB fv F w0 [.int .i64 op,.string text,ue,.slice sb body.length cb,.slice se els.length ce,.int .i64 pos] (.mk op text es body els pos):=by
 intro w s r v hc H0 H1 hn J;obtain ⟨cs,⟨s0,kc,rfl,Hp,H9,_,hl,Hm⟩,H6⟩:=Hn;rw [sT] at hp;obtain ⟨k,d,_,_⟩:=hp;unfold nU at J;rw [szS] at J;have hs:=zh hl;have hU:=zh H6;have Hx:=zh d;have Hy:=zh k;have HR:=zh H1;have hh:=zh hn;have Hg:=zh J;have hW:=zh Ha;have Hk:=zh H8;have Hh:=zh H2;unfold maxLen at H9;have Ho:es.length≤9223372036854775807:=by omega
 obtain ⟨s1,he⟩:∃x,x=au 1 1 s:=⟨_,rfl⟩
 have Hu:=zh he;have L:Hd (s.ins.length≤1000000∧s1.ins.length=s.ins.length+1∧s1.texts.length=s.texts.length∧s1.slots=s.slots):=zh ⟨by omega,by rw [he];simp [au],by rw [he];rfl,by rw [he];rfl⟩;generalize hE:bL F (.mk op text es body els pos) (v,s)=E;have HE:Hd (∀sk,sk=aA F v es s1→E=if op=1 then (bQ v text sk.slots,au 6 sk.slots (bw sk)) else if op=2 then (v,au 6 ((aI v text).getD 0) sk) else if op=3 then (if bE body then (v,(aJ F els (v,bW sk.ins.length (aJ F body (v,au 16 0 sk)).2)).2) else (v,bW (aJ F body (v,au 16 0 sk)).2.ins.length (aJ F els (v,bW sk.ins.length (au 15 0 (aJ F body (v,au 16 0 sk)).2))).2)) else if op=4 then (v,qA F v text body sk) else if op=5 then (v,au 18 0 sk) else if op=6 then (v,au 12 0 sk) else if op=7 then (v,au 13 0 sk) else if op=8 then (v,if fH F (es.headD default).text=0 then sk else au 17 0 sk) else (v,sk)):=zh (fun sk h=>by rw [←hE,bL,h,he];rfl);have Hl:=zh hc;have hO:=zh H0;clear hl H6 Hm Hp H9 hc H0 H1 hn J Ha H8 k d hE he H2;go_enter Tryz.func33,Tryz.ntmps33
 go_upto_region 1 with fail
 have hy:Hd (Below w.heap.size w (w.alloc (.cells #[.int .i64 op,.string text,.slice s0 es.length kc,.slice sb body.length cb,.slice se els.length ce,.int .i64 pos] 110))):=zh (ag (Below.refl _ _) _);have A:Hd ((w.alloc (.cells #[.int .i64 op,.string text,.slice s0 es.length kc,.slice sb body.length cb,.slice se els.length ce,.int .i64 pos] 110)).heap[w.heap.size]?=some (.cells #[.int .i64 op,.string text,.slice s0 es.length kc,.slice sb body.length cb,.slice se els.length ce,.int .i64 pos] 110 (0,0))):=zh (am _ _ _ rfl);generalize (w.alloc (.cells #[.int .i64 op,.string text,.slice s0 es.length kc,.slice sb body.length cb,.slice se els.length ce,.int .i64 pos] 110))=w1 at *;generalize Hb:w.heap.size=XB at *;have hG:=zh Hb;clear Hb;have HC:=zh (Hl.o.below (by rw [hG.o];exact hy.o));have HV:=zh (SlAt.below hO.o (by rw [hG.o];exact hy.o));have HF:Hd (Fx B M NB w w1):=zh (Fx.of_below (by rw [hG.o];exact hy.o));have HD:=zh (MapAt.lt hO.o);clear hy hO Hl;go_wp2_with fail
 refine (mo B M MB TB NB fv _ _ HC.o.ma L.o.1).mono ?_;rintro e v1 ⟨rfl,hm,hf⟩;have C:=HC.o.ma.n.noTy;rw [←Hu.o] at hm;replace HV:=zh (SlAt.fx hf HV.o HR.o);replace A:=zh (hf.obj A.o (aH C A.o) (by decide) (by decide) (by decide) (by decide));replace HF:=zh (HF.o.trans hf);replace HC:=zh (HC.o.step hm hf);clear hm hf C;obtain ⟨c0,-,c2,-⟩:=css A.o;go_wp2_with fail
 go_loopg [17] es.length (fun g t17 wr=>∃i:Nat,i+g=es.length∧t17=.int .i64 (i:Int)∧StW4 B M MB TB NB fv F w0 w wr (aA F v (es.take i) s1) r v XB (.cells #[.int .i64 op,.string text,.slice s0 es.length kc,.slice sb body.length cb,.slice se els.length ce,.int .i64 pos] 110 (0,0)))
 case atStart=>exact ⟨0,Nat.zero_add _,rfl,by rw [List.take_zero,aA];exact HC.o,HV.o,A.o,HF.o⟩
 case round =>
  clear HC HV A HF;obtain ⟨i,Hz,rfl,H7⟩:=hrel;have HW:=zh H7;clear H7;by_cases ho:i<es.length
  ·obtain ⟨kb,koff,hk,hv,_,H⟩:=hs.o (by omega)
   subst hk;have X:=hU.o i ho;obtain ⟨ko,kn,kt,kss,kl,kcc,kp,h9⟩:=kA X;rw [h9] at X;have ha:∀j,j<5→wr.cell? ⟨kb,koff+i * 5+j,none⟩=(cs i)[j]?:=fun j hj=>(HW.o.c.old.cell (p:=⟨kb,_,none⟩) hv).trans (H i ho j hj);rw [h9] at ha;have x0:wr.cell? ⟨kb,koff+i * 5,none⟩=some (.int .i64 ko):=ha 0 (by decide);have x1:wr.cell? ⟨kb,koff+i * 5+1,none⟩=some (.int .i64 kn):=ha 1 (by decide);have x2:wr.cell? ⟨kb,koff+i * 5+2,none⟩=some (.string kt):=ha 2 (by decide);have x3:wr.cell? ⟨kb,koff+i * 5+3,none⟩=some (.slice kss kl kcc):=ha 3 (by decide);have x4:wr.cell? ⟨kb,koff+i * 5+4,none⟩=some (.int .i64 kp):=ha 4 (by decide);have Hv:=zh (oD B M MB TB NB fv F w0 _ _ X (mU Hx.o _ (fU default ho)));have He:Hd ((aA F v (es.take i) s1).ins.length+8*szE (es.getD i default)≤1000000∧(aA F v (es.take i) s1).texts.length+szE (es.getD i default)≤1000000):=zh (by have q:=Hg.o;have q2:=L.o;have q3:=cL F v (es.take i) s1;have q4:=kR es i ho;obtain ⟨_,q5,_,q6,_⟩:=q3;omega);have Hf:=zh (iY F v (es.take i) (es.getD i default) s1);rw [←gP default es i ho] at Hf;have hx:Hd (Below wr.heap.size wr (wr.alloc (.cells #[.int .i64 ko,.int .i64 kn,.string kt,.slice kss kl kcc,.int .i64 kp] 144))):=zh (ag (Below.refl _ _) _);have m:Hd (StW4 B M MB TB NB fv F w0 w (wr.alloc (.cells #[.int .i64 ko,.int .i64 kn,.string kt,.slice kss kl kcc,.int .i64 kp] 144)) (aA F v (es.take i) s1) r v XB (.cells #[.int .i64 op,.string text,.slice (some ⟨kb,koff,none⟩) es.length kc,.slice sb body.length cb,.slice se els.length ce,.int .i64 pos] 110 (0,0))):=zh ⟨HW.o.c.below hx.o,SlAt.below HW.o.v hx.o,(hx.o.block _ (ae HW.o.x)).trans HW.o.x,HW.o.f.trans (Fx.of_below hx.o)⟩;clear X ha h9 H;generalize es.getD i default=kx at *;generalize aA F v (es.take i) s1=sk at *;go_wp2_with fail
   refine (Hv.o _ _ r v m.o.c m.o.v HR.o He.o.1 He.o.2).mono ?_;rintro e w9 ⟨rfl,hm,hf⟩;rw [←Hf.o] at hm;have Hr:Hd (StW4 B M MB TB NB fv F w0 w w9 (aA F v (es.take (i+1)) s1) r v XB (.cells #[.int .i64 op,.string text,.slice (some ⟨kb,koff,none⟩) es.length kc,.slice sb body.length cb,.slice se els.length ce,.int .i64 pos] 110 (0,0))):=zh ⟨m.o.c.step hm hf,SlAt.fx hf m.o.v HR.o,hf.obj m.o.x (aH m.o.c.ma.n.noTy m.o.x) (by decide) (by decide) (by decide) (by decide),m.o.f.trans hf⟩;clear hm hf;go_wp2_with fail
   go_roundg (es.length-i-1)
   case measure=>omega
   case rel=>exact ⟨i+1,by omega,by go_num,Hr.o⟩
  ·obtain rfl:i=es.length:=by omega
   rw [List.take_of_length_le (Nat.le_refl _)] at HW;have HC:=zh HW.o.c;have HV:=zh HW.o.v;have A:=zh HW.o.x;have HF:=zh HW.o.f;clear HW;have N:=zh (HE.o _ rfl);have O:Hd ((aA F v es s1).ins.length+16*(bY body+bY els)+4≤1000000∧(aA F v es s1).ins.length+16*(bY body+bY els)+15≤900000∧(aA F v es s1).texts.length+bY body+bY els≤900000∧(aA F v es s1).slots=s.slots∧0≤s.slots∧s.slots+2*(1+bY body+bY els)≤900000):=zh (by have q:=Hg.o;have q2:=L.o;obtain ⟨_,q5,_,q6,q7⟩:=cL F v es s1;exact ⟨by omega,by omega,by omega,by omega,by omega,by omega⟩);generalize aA F v es s1=sk at *;clear HE;by_cases h1:op=1
   ·subst h1
    have G:Hd (E=(bQ v text sk.slots,au 6 sk.slots (bw sk))):=zh (by rw [N.o];rfl);have c0:wr.cell? ⟨XB,0,none⟩=some (.int .i64 1):=aa A.o (j:=0) rfl;go_upto_region 9 with fail
    clear c0;have hk:wr.drew.cell? ⟨XB,1,none⟩=some (.string text):=aa A.o (j:=1) rfl;refine wp_region_held (S:=(fun w':World=>w'.cell? ⟨XB,1,none⟩=some (.string text))) (by kernel_rfl) ?_;refine tkA 0 ?_;refine tkA 1 ?_;refine tkA 2 ?_;refine tkA 3 ?_;clear hk;have hr:=zh (ku B M MB TB NB fv sk wr.drew (HC.o.below (aB (Below.refl _ _))).ma (by have:=O.o;omega) (by have:=O.o;omega));refine rd1 4 fun K hK=>?_;go_simp;go_at_call 13
    refine hr.o.mono ?_;rintro e w8 ⟨rfl,hm,hf⟩;replace hf:=(Fx.of_below (aB (Below.refl wr.heap.size wr)):Fx B M NB wr wr.drew).trans hf;have C:=HC.o.ma.n.noTy;replace HV:=zh (SlAt.fx hf HV.o HR.o);replace A:=zh (hf.obj A.o (aH C A.o) (by decide) (by decide) (by decide) (by decide));replace HF:=zh (HF.o.trans hf);replace HC:=zh (HC.o.step hm hf);clear hm hf C hr;go_simp;refine hK.out _ _ ?_ (fun hH=>?_)
    ·exact aa A.o (j:=1) rfl
    clear hK K;try go_simp
    have hT:Hd (∀t,¬OfTy w8 r t):=zh (MapAt.noTy HV.o);obtain ⟨hD,hX,H3⟩:=iP HV.o text sk.slots;have hS:=zh H3;have Hc:=zh hX;generalize gI w8 r text (.int .i64 sk.slots)=w3 at *;clear H3 hX;have hw:FxR B M NB r w8 w3:=OnS.of_on hS.o (.inl rfl);have Hi:=zh (HC.o.ma.onMap hS.o hT.o HR.o);have Hq:Hd (XB≠r):=zh (fun e=>hT.o _ ⟨_,_,by rw [←e];exact A.o⟩);replace A:=zh (hw.obj A.o (aH HC.o.ma.n.noTy A.o) Hq.o (by decide) (by decide) (by decide) (by decide));have Hw:=zh (HF.o.toR.trans hw);replace HC:=zh (HC.o.stepR Hi.o hw hh.o);clear Hi hw HV hS HF hT;refine rd1 5 fun K hK=>?_;go_simp;refine hK.out _ _ ?_ (fun hH=>?_)
    ·exact aa A.o (j:=1) rfl
    clear hK K hD;refine wpAnyH_done (by kernel_rfl) ?_ _;have H4:=lm Hc.o text;rw [fQ,if_pos rfl] at H4;have c1:w3.cell? ⟨XB,1,none⟩=some (.string text):=aa A.o (j:=1) rfl;go_wp2_with fail
    refine (aU B M MB TB NB fv _ 6 _ _ HC.o.ma (by have:=O.o;show (bw sk).ins.length≤_;unfold bw;dsimp only;omega)).mono ?_;rintro e w9 ⟨cl,rfl,_,hm,hf⟩;have HH:=zh (And.intro hm (And.intro (SlAt.fx hf Hc.o HR.o) (Hw.o.trans hf.toR)));clear hm hf;go_wp2_with fail
    go_end0
    exact ⟨rfl,by rw [G.o];exact HH.o.1,by rw [G.o];exact HH.o.2.1,HH.o.2.2⟩
   by_cases h2:op=2
   ·subst h2
    have G:Hd (E=(v,au 6 ((aI v text).getD 0) sk)):=zh (by rw [N.o];rfl);have H4:=lm HV.o text;obtain ⟨c0,c1,-⟩:=css A.o;go_wp2_with fail
    refine (aU B M MB TB NB fv _ 6 ((aI v text).getD 0) _ HC.o.ma (by have:=O.o;omega)).mono ?_;rintro e v1 ⟨cl1,rfl,D,hm,hf⟩;clear D;have C:=HC.o.ma.n.noTy;replace HV:=zh (SlAt.fx hf HV.o HR.o);replace A:=zh (hf.obj A.o (aH C A.o) (by decide) (by decide) (by decide) (by decide));replace HF:=zh (HF.o.trans hf);replace HC:=zh (HC.o.step hm hf);clear hm hf C;go_wp2_with fail
    go_end0
    exact ⟨rfl,by rw [G.o];exact HC.o.ma,by rw [G.o];exact HV.o,HF.o.toR⟩
   by_cases h3:op=3
   ·subst h3
    cases heb:bE body
    ·have h0:bE body=false:=heb
     obtain ⟨u1,V⟩:∃x,x=au 16 0 sk:=⟨_,rfl⟩
     obtain ⟨u2,U⟩:∃x,x=(aJ F body (v,u1)).2:=⟨_,rfl⟩
     obtain ⟨u3,T⟩:∃x,x=au 15 0 u2:=⟨_,rfl⟩
     obtain ⟨u4,Y⟩:∃x,x=bW sk.ins.length u3:=⟨_,rfl⟩
     obtain ⟨u5,hu⟩:∃x,x=(aJ F els (v,u4)).2:=⟨_,rfl⟩
     obtain ⟨u6,hC⟩:∃x,x=bW u2.ins.length u5:=⟨_,rfl⟩
     have a1:u1.ins.length=sk.ins.length+1∧u1.texts.length=sk.texts.length∧u1.slots=sk.slots:=by rw [V];simp [au]
     have a2:=aY F body v u1;rw [←U] at a2;obtain ⟨b1,b2,b3,b4,b5,b6⟩:=a2;have a3:u3.ins.length=u2.ins.length+1∧u3.texts.length=u2.texts.length∧u3.slots=u2.slots:=by rw [T];simp [au]
     have a4:u4.ins.length=u3.ins.length∧u4.texts.length=u3.texts.length∧u4.slots=u3.slots:=by rw [Y];simp [bW]
     have a5:=aY F els v u4;rw [←hu] at a5;obtain ⟨d1,d2,d3,d4,d5,d6⟩:=a5;have hz:=O.o;have hP:Hd (nU (bY body) u1):=zh ⟨by omega,by omega,by omega,by omega⟩;have hQ:Hd (nU (bY els) u4):=zh ⟨by omega,by omega,by omega,by omega⟩;have Q:Hd (sk.ins.length≤1000000∧sk.ins.length<u3.ins.length∧u3.ins.length≤1000000∧u2.ins.length≤1000000∧u2.ins.length<u5.ins.length∧u5.ins.length≤1000000):=zh ⟨by omega,by omega,by omega,by omega,by omega,by omega⟩;have G:Hd (E=(v,u6)):=zh (by rw [N.o,hC,hu,Y,T,U,V,h0];rfl);have hN:=zh V;have hM:=zh U;have hL:=zh T;have hI:=zh Y;have Ht:=zh hu;have Hs:=zh hC;have hV:=zh h0;clear h0 heb a1 a3 b1 b2 b3 b4 b5 b6 hz V U T Y hu hC a4 d1 d2 d3 d4 d5 d6;have c0:wr.cell? ⟨XB,0,none⟩=some (.int .i64 3):=aa A.o (j:=0) rfl;go_wp2_with fail
     refine (aU B M MB TB NB fv _ 16 0 _ HC.o.ma Q.o.1).mono ?_;rintro e v1 ⟨cl1,rfl,D,hm,hf⟩;have P:=zh D;clear D;have C:=HC.o.ma.n.noTy;rw [←hN.o] at hm;replace HV:=zh (SlAt.fx hf HV.o HR.o);replace A:=zh (hf.obj A.o (aH C A.o) (by decide) (by decide) (by decide) (by decide));replace HF:=zh (HF.o.trans hf);replace HC:=zh (HC.o.step hm hf);clear hm hf C;have I:=zh P.o;clear P;clear c0;have c3:v1.cell? ⟨XB,3,none⟩=some (.slice sb body.length cb):=aa A.o (j:=3) rfl;go_wp2_with fail
     refine (hW.o _ _ r v HC.o HV.o HR.o hh.o hP.o).mono ?_;rintro e v2 ⟨rfl,hm,hf⟩;have C:=HC.o.ma.n.noTy;rw [←hM.o] at hm;replace HV:=zh (SlAt.fx hf HV.o HR.o);replace A:=zh (hf.obj A.o (aH C A.o) (by decide) (by decide) (by decide) (by decide));replace I:=zh (I.o.fx hf C);replace HF:=zh (HF.o.trans hf);replace HC:=zh (HC.o.step hm hf);clear hm hf C;clear c3;have c3:v2.cell? ⟨XB,3,none⟩=some (.slice sb body.length cb):=aa A.o (j:=3) rfl;have hd:=zh (jn body v2 (.slice sb body.length cb) ((Hh.o.keep (Stays.of_lt HC.o.old)).mono (fun _ _=>trivial)));rw [hV.o] at hd;go_wp2_with fail
     refine hd.o.mono ?_;rintro e we ⟨rfl,hb⟩;replace I:=zh (I.o.fx (Fx.of_below hb:Fx B M NB _ _) HC.o.ma.n.noTy);replace HC:=zh (HC.o.below hb);replace HV:=zh (SlAt.below HV.o hb);replace A:=zh ((hb.block _ (ae A.o)).trans A.o);replace HF:=zh (HF.o.trans (Fx.of_below hb));clear hb c3 hd;go_wp2_with fail
     refine (aU B M MB TB NB fv _ 15 0 _ HC.o.ma Q.o.2.2.2.1).mono ?_;rintro e v3 ⟨cl3,rfl,D,hm,hf⟩;have ht:=zh D;clear D;have C:=HC.o.ma.n.noTy;rw [←hL.o] at hm;replace HV:=zh (SlAt.fx hf HV.o HR.o);replace A:=zh (hf.obj A.o (aH C A.o) (by decide) (by decide) (by decide) (by decide));replace I:=zh (I.o.fx hf C);replace HF:=zh (HF.o.trans hf);replace HC:=zh (HC.o.step hm hf);clear hm hf C;have hi:=zh ht.o;clear ht;obtain ⟨b1,b2,hq,a,Z⟩:=I.o;subst hq;clear I;have L:=zh a;have z:=zh Z;clear a Z;go_wp2_with fail
     refine (gm B M MB TB NB b1 b2 fv _ _ _ HC.o.ma Q.o.2.1 Q.o.2.2.1 L.o z.o).mono ?_;rintro e v4 ⟨rfl,hm,hf⟩;have C:=HC.o.ma.n.noTy;rw [←hI.o] at hm;replace HV:=zh (SlAt.fx hf HV.o HR.o);replace A:=zh (hf.obj A.o (aH C A.o) (by decide) (by decide) (by decide) (by decide));replace hi:=zh (hi.o.fx hf C);replace HF:=zh (HF.o.trans hf);replace HC:=zh (HC.o.step hm hf);clear hm hf C;clear L z;have c4:v4.cell? ⟨XB,4,none⟩=some (.slice se els.length ce):=aa A.o (j:=4) rfl;go_wp2_with fail
     refine (Hk.o _ _ r v HC.o HV.o HR.o hh.o hQ.o).mono ?_;rintro e v5 ⟨rfl,hm,hf⟩;have C:=HC.o.ma.n.noTy;rw [←Ht.o] at hm;replace HV:=zh (SlAt.fx hf HV.o HR.o);replace A:=zh (hf.obj A.o (aH C A.o) (by decide) (by decide) (by decide) (by decide));replace hi:=zh (hi.o.fx hf C);replace HF:=zh (HF.o.trans hf);replace HC:=zh (HC.o.step hm hf);clear hm hf C;clear c4;obtain ⟨b1,b2,hq,a,Z⟩:=hi.o;subst hq;clear hi;have L:=zh a;have z:=zh Z;clear a Z;go_wp2_with fail
     refine (gm B M MB TB NB b1 b2 fv _ _ _ HC.o.ma Q.o.2.2.2.2.1 Q.o.2.2.2.2.2 L.o z.o).mono ?_;rintro e v6 ⟨rfl,hm,hf⟩;have C:=HC.o.ma.n.noTy;rw [←Hs.o] at hm;replace HV:=zh (SlAt.fx hf HV.o HR.o);replace A:=zh (hf.obj A.o (aH C A.o) (by decide) (by decide) (by decide) (by decide));replace HF:=zh (HF.o.trans hf);replace HC:=zh (HC.o.step hm hf);clear hm hf C;clear L z;go_wp2_with fail
     go_end0
     exact ⟨rfl,by rw [G.o];exact HC.o.ma,by rw [G.o];exact HV.o,HF.o.toR⟩
    ·have h0:bE body=true:=heb
     obtain ⟨u1,V⟩:∃x,x=au 16 0 sk:=⟨_,rfl⟩
     obtain ⟨u2,U⟩:∃x,x=(aJ F body (v,u1)).2:=⟨_,rfl⟩
     obtain ⟨u3,T⟩:∃x,x=bW sk.ins.length u2:=⟨_,rfl⟩
     obtain ⟨u4,Y⟩:∃x,x=(aJ F els (v,u3)).2:=⟨_,rfl⟩
     have a1:u1.ins.length=sk.ins.length+1∧u1.texts.length=sk.texts.length∧u1.slots=sk.slots:=by rw [V];simp [au]
     have a2:=aY F body v u1;rw [←U] at a2;obtain ⟨b1,b2,b3,b4,b5,b6⟩:=a2;have a3:u3.ins.length=u2.ins.length∧u3.texts.length=u2.texts.length∧u3.slots=u2.slots:=by rw [T];simp [bW]
     have hz:=O.o;have hP:Hd (nU (bY body) u1):=zh ⟨by omega,by omega,by omega,by omega⟩;have hQ:Hd (nU (bY els) u3):=zh ⟨by omega,by omega,by omega,by omega⟩;have Q:Hd (sk.ins.length≤1000000∧sk.ins.length<u2.ins.length∧u2.ins.length≤1000000):=zh ⟨by omega,by omega,by omega⟩;have G:Hd (E=(v,u4)):=zh (by rw [N.o,Y,T,U,V,h0];rfl);have hN:=zh V;have hM:=zh U;have hL:=zh T;have hI:=zh Y;have hV:=zh h0;clear h0 heb a1 a3 b1 b2 b3 b4 b5 b6 hz V U T Y;have c0:wr.cell? ⟨XB,0,none⟩=some (.int .i64 3):=aa A.o (j:=0) rfl;go_wp2_with fail
     refine (aU B M MB TB NB fv _ 16 0 _ HC.o.ma Q.o.1).mono ?_;rintro e v1 ⟨cl1,rfl,D,hm,hf⟩;have P:=zh D;clear D;have C:=HC.o.ma.n.noTy;rw [←hN.o] at hm;replace HV:=zh (SlAt.fx hf HV.o HR.o);replace A:=zh (hf.obj A.o (aH C A.o) (by decide) (by decide) (by decide) (by decide));replace HF:=zh (HF.o.trans hf);replace HC:=zh (HC.o.step hm hf);clear hm hf C;have I:=zh P.o;clear P;clear c0;have c3:v1.cell? ⟨XB,3,none⟩=some (.slice sb body.length cb):=aa A.o (j:=3) rfl;go_wp2_with fail
     refine (hW.o _ _ r v HC.o HV.o HR.o hh.o hP.o).mono ?_;rintro e v2 ⟨rfl,hm,hf⟩;have C:=HC.o.ma.n.noTy;rw [←hM.o] at hm;replace HV:=zh (SlAt.fx hf HV.o HR.o);replace A:=zh (hf.obj A.o (aH C A.o) (by decide) (by decide) (by decide) (by decide));replace I:=zh (I.o.fx hf C);replace HF:=zh (HF.o.trans hf);replace HC:=zh (HC.o.step hm hf);clear hm hf C;clear c3;have c3:v2.cell? ⟨XB,3,none⟩=some (.slice sb body.length cb):=aa A.o (j:=3) rfl;have hd:=zh (jn body v2 (.slice sb body.length cb) ((Hh.o.keep (Stays.of_lt HC.o.old)).mono (fun _ _=>trivial)));rw [hV.o] at hd;go_wp2_with fail
     refine hd.o.mono ?_;rintro e we ⟨rfl,hb⟩;replace I:=zh (I.o.fx (Fx.of_below hb:Fx B M NB _ _) HC.o.ma.n.noTy);replace HC:=zh (HC.o.below hb);replace HV:=zh (SlAt.below HV.o hb);replace A:=zh ((hb.block _ (ae A.o)).trans A.o);replace HF:=zh (HF.o.trans (Fx.of_below hb));clear hb c3 hd;obtain ⟨b1,b2,hq,a,Z⟩:=I.o;subst hq;clear I;have L:=zh a;have z:=zh Z;clear a Z;go_wp2_with fail
     refine (gm B M MB TB NB b1 b2 fv _ _ _ HC.o.ma Q.o.2.1 Q.o.2.2 L.o z.o).mono ?_;rintro e v3 ⟨rfl,hm,hf⟩;have C:=HC.o.ma.n.noTy;rw [←hL.o] at hm;replace HV:=zh (SlAt.fx hf HV.o HR.o);replace A:=zh (hf.obj A.o (aH C A.o) (by decide) (by decide) (by decide) (by decide));replace HF:=zh (HF.o.trans hf);replace HC:=zh (HC.o.step hm hf);clear hm hf C;clear L z;have c4:v3.cell? ⟨XB,4,none⟩=some (.slice se els.length ce):=aa A.o (j:=4) rfl;go_wp2_with fail
     refine (Hk.o _ _ r v HC.o HV.o HR.o hh.o hQ.o).mono ?_;rintro e v4 ⟨rfl,hm,hf⟩;have C:=HC.o.ma.n.noTy;rw [←hI.o] at hm;replace HV:=zh (SlAt.fx hf HV.o HR.o);replace A:=zh (hf.obj A.o (aH C A.o) (by decide) (by decide) (by decide) (by decide));replace HF:=zh (HF.o.trans hf);replace HC:=zh (HC.o.step hm hf);clear hm hf C;clear c4;have HA:∀args W,Sem.run Tryz.prog (callFunc 69 args) W=.ok (.enter 69 args) W:=fun _ _=>Tryz.call69 _ _;go_wp2_with fail
     refine (qU _).mono ?_;rintro e wz ⟨rfl,rfl⟩;go_wp2_with fail
     go_end0
     exact ⟨rfl,by rw [G.o];exact HC.o.ma,by rw [G.o];exact HV.o,HF.o.toR⟩
   by_cases h4:op=4
   ·subst h4
    have G:Hd (E=(v,qA F v text body sk)):=zh (by rw [N.o];rfl);obtain ⟨c0,c1,c2,c3,c4,c5,-⟩:=css A.o;go_wp2_with fail
    refine ((vG B M MB TB NB fv F w0 4 pos text s0 se es.length kc els.length ce (.slice sb body.length cb) body hW.o _ sk r v HC.o HV.o HR.o hh.o (by have hz:=O.o;exact ⟨by omega,by omega,by omega,by omega⟩))).mono ?_;rintro e v1 ⟨rfl,hm,hf⟩;have C:=HC.o.ma.n.noTy;replace HV:=zh (SlAt.fx hf HV.o HR.o);replace A:=zh (hf.obj A.o (aH C A.o) (by decide) (by decide) (by decide) (by decide));replace HF:=zh (HF.o.trans hf);replace HC:=zh (HC.o.step hm hf);clear hm hf C;go_wp2_with fail
    go_end0
    exact ⟨rfl,by rw [G.o];exact HC.o.ma,by rw [G.o];exact HV.o,HF.o.toR⟩
   by_cases h5:op=5
   ·subst h5
    have G:Hd (E=(v,au 18 0 sk)):=zh (by rw [N.o];rfl);have c0:wr.cell? ⟨XB,0,none⟩=some (.int .i64 5):=aa A.o (j:=0) rfl;go_wp2_with fail
    refine (aU B M MB TB NB fv _ 18 0 _ HC.o.ma (by have:=O.o;omega)).mono ?_;rintro e v1 ⟨cl1,rfl,D,hm,hf⟩;clear D;have C:=HC.o.ma.n.noTy;replace HV:=zh (SlAt.fx hf HV.o HR.o);replace A:=zh (hf.obj A.o (aH C A.o) (by decide) (by decide) (by decide) (by decide));replace HF:=zh (HF.o.trans hf);replace HC:=zh (HC.o.step hm hf);clear hm hf C;go_wp2_with fail
    go_end0
    exact ⟨rfl,by rw [G.o];exact HC.o.ma,by rw [G.o];exact HV.o,HF.o.toR⟩
   by_cases h6:op=6
   ·subst h6
    have G:Hd (E=(v,au 12 0 sk)):=zh (by rw [N.o];rfl);have c0:wr.cell? ⟨XB,0,none⟩=some (.int .i64 6):=aa A.o (j:=0) rfl;go_wp2_with fail
    refine (aU B M MB TB NB fv _ 12 0 _ HC.o.ma (by have:=O.o;omega)).mono ?_;rintro e v1 ⟨cl1,rfl,D,hm,hf⟩;clear D;have C:=HC.o.ma.n.noTy;replace HV:=zh (SlAt.fx hf HV.o HR.o);replace A:=zh (hf.obj A.o (aH C A.o) (by decide) (by decide) (by decide) (by decide));replace HF:=zh (HF.o.trans hf);replace HC:=zh (HC.o.step hm hf);clear hm hf C;go_wp2_with fail
    go_end0
    exact ⟨rfl,by rw [G.o];exact HC.o.ma,by rw [G.o];exact HV.o,HF.o.toR⟩
   by_cases h7:op=7
   ·subst h7
    have G:Hd (E=(v,au 13 0 sk)):=zh (by rw [N.o];rfl);have c0:wr.cell? ⟨XB,0,none⟩=some (.int .i64 7):=aa A.o (j:=0) rfl;go_wp2_with fail
    refine (aU B M MB TB NB fv _ 13 0 _ HC.o.ma (by have:=O.o;omega)).mono ?_;rintro e v1 ⟨cl1,rfl,D,hm,hf⟩;clear D;have C:=HC.o.ma.n.noTy;replace HV:=zh (SlAt.fx hf HV.o HR.o);replace A:=zh (hf.obj A.o (aH C A.o) (by decide) (by decide) (by decide) (by decide));replace HF:=zh (HF.o.trans hf);replace HC:=zh (HC.o.step hm hf);clear hm hf C;go_wp2_with fail
    go_end0
    exact ⟨rfl,by rw [G.o];exact HC.o.ma,by rw [G.o];exact HV.o,HF.o.toR⟩
   by_cases h8:op=8
   ·subst h8
    obtain ⟨hg,hF,_⟩:=Hy.o rfl;obtain ⟨kb,koff,hk,hv,_,H⟩:=hs.o hg;subst hk;obtain ⟨ko,kn,kt,kss,kl,kcc,kp,h9⟩:=kA (hU.o 0 hg);have hB:=(HC.o.old.cell (p:=⟨kb,koff+0*5+2,none⟩) hv).trans (H 0 hg 2 (by decide));rw [h9,Nat.zero_mul,Nat.add_zero] at hB
    have H5:(es.headD default).text=kt:=by
     have q:=hU.o 0 hg;rw [h9] at q;match es,hg,q with
     | y :: l,_,q =>
      obtain ⟨yo,yn,yt,yk,yp⟩:=y;obtain ⟨u,e,_⟩:=RepEx.kids q;simp only [List.cons.injEq,Value.string.injEq] at e
      exact e.2.2.1.symm
    rw [H5] at N hF;have hA:wr.cell? ⟨kb,koff+2,none⟩=some (.string kt):=hB;have Hj:=zh (kF B M MB TB NB fv sk F kt wr HC.o.ma (HC.o.fn.mono (fun _ _=>trivial)) hF);have gl0:(0:Int)<(es.length:Int):=by omega
    clear hB h9 H H5 hv hF hg;generalize fH F kt=R at *;obtain ⟨c0,-,c2,-⟩:=css A.o;go_wp2_with fail
    refine Hj.o.mono ?_;rintro e w8 ⟨rfl,hb⟩;replace HC:=zh (HC.o.below hb);replace HV:=zh (SlAt.below HV.o hb);replace A:=zh ((hb.block _ (ae A.o)).trans A.o);replace HF:=zh (HF.o.trans (Fx.of_below hb));clear hb Hj c0 c2 hA;by_cases hR:R=0
    ·subst hR
     have G:Hd (E=(v,sk)):=zh (by rw [N.o];rfl);go_wp2_with fail
     go_end0
     exact ⟨rfl,by rw [G.o];exact HC.o.ma,by rw [G.o];exact HV.o,HF.o.toR⟩
    ·have G:Hd (E=(v,au 17 0 sk)):=zh (by rw [N.o];simp [hR])
     have HB:(R !=0)=true:=bne_iff_ne.2 hR;go_wp2_with fail
     refine (aU B M MB TB NB fv _ 17 0 _ HC.o.ma (by have:=O.o;omega)).mono ?_;rintro e v1 ⟨cl1,rfl,D,hm,hf⟩;clear D;have C:=HC.o.ma.n.noTy;replace HV:=zh (SlAt.fx hf HV.o HR.o);replace A:=zh (hf.obj A.o (aH C A.o) (by decide) (by decide) (by decide) (by decide));replace HF:=zh (HF.o.trans hf);replace HC:=zh (HC.o.step hm hf);clear hm hf C;go_wp2_with fail
     go_end0
     exact ⟨rfl,by rw [G.o];exact HC.o.ma,by rw [G.o];exact HV.o,HF.o.toR⟩
   have G:Hd (E=(v,sk)):=zh (by rw [N.o];simp [h1,h2,h3,h4,h5,h6,h7,h8]);have g1:(op==1)=false:=beq_false_of_ne h1;have g2:(op==2)=false:=beq_false_of_ne h2;have g3:(op==3)=false:=beq_false_of_ne h3;have g4:(op==4)=false:=beq_false_of_ne h4;have g5:(op==5)=false:=beq_false_of_ne h5;have g6:(op==6)=false:=beq_false_of_ne h6;have g7:(op==7)=false:=beq_false_of_ne h7;have g8:(op==8)=false:=beq_false_of_ne h8;have c0:wr.cell? ⟨XB,0,none⟩=some (.int .i64 op):=aa A.o (j:=0) rfl;go_wp2_with fail
   go_end0
   exact ⟨rfl,by rw [G.o];exact HC.o.ma,by rw [G.o];exact HV.o,HF.o.toR⟩
theorem rT {F:List Fn}:∀{l:List St},gi F l→∀x,x∈l→sT F x
 | y :: l,h,x,hx=>by
  rw [gi] at h;rcases List.mem_cons.1 hx with rfl | hx
  ·exact h.1
  ·exact rT h.2 x hx
theorem jG (B M MB TB NB:Nat) (fv:Value) (F:List Fn) (w0:World) (l:List St):∀u:Value,RepSts (fun b=>b<B) w0 u l→gi F l→jW B M MB TB NB fv F w0 u l:=by
 intro u hr hf;refine qT B M MB TB NB fv F w0 l u hr fun x hx cs E=>?_;have A:=rT hf x hx;have C:=St.body_lt hx;obtain ⟨op,text,es,body,els,pos⟩:=x;obtain ⟨ve,vb,vl,rfl,he,hb,hl⟩:=RepSt.parts E;have D:gi F body∧gi F els:=by rw [sT] at A;exact A.2.2
 have h1:=jG B M MB TB NB fv F w0 body vb hb D.1;have h2:=jG B M MB TB NB fv F w0 els vl hl D.2;obtain ⟨cb,⟨sb,kb,rfl,r1⟩,r2⟩:=hb;obtain ⟨cl,⟨se,ke,rfl,_⟩,_⟩:=hl;exact tu B M MB TB NB fv F w0 op pos text es body els ve sb se kb ke he ⟨cb,⟨sb,kb,rfl,r1⟩,r2⟩ A h1 h2
termination_by SizeOf.sizeOf l
decreasing_by
 ·exact C.1
 ·exact C.2
end
end Go.Proofs.YtmlgbkomdhcaoaaGreatDoor
