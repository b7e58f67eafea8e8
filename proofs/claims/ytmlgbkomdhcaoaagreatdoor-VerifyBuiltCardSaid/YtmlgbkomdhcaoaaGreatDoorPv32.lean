/-
  VerifyBuilt: part 32 of its proof: see the last text.
-/
import Derived.Test.YtmlgbkomdhcaoaaGreatDoorPv31
set_option maxRecDepth 100000
set_option maxHeartbeats 16000000
namespace Go.Proofs.YtmlgbkomdhcaoaaGreatDoor
section
open Go.RowKit
theorem iY (F:List Fn) (v:bf):∀(l:List Ex) (x:Ex) (s:CS),aA F v (l++[x]) s=bB F v x (aA F v l s)
 | [],x,s=>by rw [List.nil_append,aA,aA,aA]
 | y :: l,x,s=>by rw [List.cons_append,aA,aA,iY F v l x]
theorem gP {α:Type} (d:α) (l:List α) (i:Nat) (h:i<l.length):l.take (i+1)=l.take i++[l.getD i d]:=by
 rw [List.take_succ_eq_append_getElem h,List.getD_eq_getElem?_getD,List.getElem?_eq_getElem h];rfl
theorem kR:∀(l:List Ex) (i:Nat),i<l.length→bP (l.take i)+szE (l.getD i default)≤bP l
 | x :: l,0,_=>by rw [List.take_zero,bP,bP];show 0+szE x≤_;omega
 | x :: l,i+1,h=>by
  have:=kR l i (by simpa using h);rw [List.take_succ_cons,bP,bP];show szE x+bP (l.take i)+szE (l.getD i default)≤_
  omega
theorem mU {F:List Fn}:∀{l:List Ex},fY F l→∀x,x∈l→nQ F x
 | y :: l,h,x,hx=>by
  rw [fY] at h;rcases List.mem_cons.1 hx with rfl | hx
  ·exact h.1
  ·exact mU h.2 x hx
theorem fU {α:Type} (d:α) {l:List α} {i:Nat} (h:i<l.length):l.getD i d∈l:=by
 rw [List.getD_eq_getElem?_getD,List.getElem?_eq_getElem h];exact List.getElem_mem h
theorem kA {S:Nat→Prop} {w:World} {cs:List Value} {x:Ex} (h:RepEx S w cs x):∃op num text s n c pos,cs=[.int .i64 op,.int .i64 num,.string text,.slice s n c,.int .i64 pos]:=by
 obtain ⟨op,num,text,v,pos,e,s,n,c,rfl⟩:=h.form;exact ⟨op,num,text,s,n,c,pos,e⟩
structure ExW (B M MB TB NB:Nat) (fv:Value) (F:List Fn) (w0 w W:World) (s:CS) (r:Nat) (v:bf) (XB:Nat) (o:Obj):Prop where
 c:CoW B M MB TB NB fv F w0 W s
 v:SlAt W r v
 x:W.heap[XB]?=some o
 f:Fx B M NB w W
theorem sI (B M MB TB NB:Nat) (fv:Value) (F:List Fn) (w0:World) (op num pos:Int) (text:ByteArray) (ks:List Ex) (u:Value) (hr:RepExs (fun b=>b<B) w0 u ks) (d:nQ F (.mk op num text ks pos))
    (ih:∀x,x∈ks→∀cs,RepEx (fun b=>b<B) w0 cs x→nr B M MB TB NB fv F w0 cs x):nr B M MB TB NB fv F w0 [.int .i64 op,.int .i64 num,.string text,u,.int .i64 pos] (.mk op num text ks pos):=by
 intro w s r v hc hz hA hi ht;obtain ⟨cs,⟨s0,kc,rfl,hV,hG,_,X,hT⟩,hC⟩:=hr;rw [nQ] at d;obtain ⟨Q,P,hD⟩:=d;rw [szE] at hi ht;have l:=zh X;have hu:=zh hC;have hv:=zh ih;have y:=zh (And.intro Q P);have HR:=zh hA;have hy:=zh (And.intro hi ht);unfold maxLen at hG;have hU:ks.length≤9223372036854775807:=by omega
 obtain ⟨s1,W⟩:∃x,x=au 1 1 s:=⟨_,rfl⟩
 have H0:=zh W;have h0:Hd (s.ins.length≤1000000∧s1.ins.length=s.ins.length+1∧s1.texts.length=s.texts.length):=zh ⟨by omega,by rw [W];simp [au],by rw [W];rfl⟩;obtain ⟨b1,hn⟩:∃b,(text.toList==[38,38])=b:=⟨_,rfl⟩
 obtain ⟨b2,hl⟩:∃b,(text.toList==[124,124])=b:=⟨_,rfl⟩
 generalize hE:bB F v (.mk op num text ks pos) s=E;have HE:Hd (E=if (b1 || b2)&&op==6 then cq F v b1 ks s1 else if op=1 then au 2 num (aA F v ks s1) else if op=2 then au 3 (lZ num) (aA F v ks s1) else if op=3 then au 4 (dR (cR text (aA F v ks s1)).texts text) (cR text (aA F v ks s1)) else if op=4 then au 5 ((aI v text).getD 0) (aA F v ks s1) else if op=5 then au 14 (ba F text) (aA F v ks s1) else if op=6 then au 7 (cP text.toList) (aA F v ks s1) else if op=7 then au 8 (cP text.toList) (aA F v ks s1) else if op=8 then au 9 0 (aA F v ks s1) else if op=9 then au 10 0 (aA F v ks s1) else if op=10 then au 11 0 (aA F v ks s1) else aA F v ks s1):=zh (by rw [←hE,bB];unfold ms orB;rw [hn,hl,W]);have L:=zh (And.intro hn hl);have hP:=zh hc;have hN:=zh hz;clear X hC hT hV hG hc hz hA hi ht ih Q P hE W hn hl;go_enter Tryz.func68,Tryz.ntmps68
 go_upto_region 1 with fail
 have hd:Hd (Below w.heap.size w (w.alloc (.cells #[.int .i64 op,.int .i64 num,.string text,.slice s0 ks.length kc,.int .i64 pos] 144))):=zh (ag (Below.refl _ _) _);have A:Hd ((w.alloc (.cells #[.int .i64 op,.int .i64 num,.string text,.slice s0 ks.length kc,.int .i64 pos] 144)).heap[w.heap.size]?=some (.cells #[.int .i64 op,.int .i64 num,.string text,.slice s0 ks.length kc,.int .i64 pos] 144 (0,0))):=zh (am _ _ _ rfl);generalize (w.alloc (.cells #[.int .i64 op,.int .i64 num,.string text,.slice s0 ks.length kc,.int .i64 pos] 144))=w1 at *;generalize hI:w.heap.size=XB at *;have hs:=zh hI;clear hI;have HC:=zh (hP.o.below (by rw [hs.o];exact hd.o));have HV:=zh (SlAt.below hN.o (by rw [hs.o];exact hd.o));have HF:Hd (Fx B M NB w w1):=zh (Fx.of_below (by rw [hs.o];exact hd.o));clear hd hN hP;go_wp2_with fail
 refine (mo B M MB TB NB fv _ _ HC.o.ma h0.o.1).mono ?_;rintro e v1 ⟨rfl,hm,hf⟩;have D:=HC.o.ma.n.noTy;rw [←H0.o] at hm;replace HV:=zh (SlAt.fx hf HV.o HR.o);replace A:=zh (hf.obj A.o (aH D A.o) (by decide) (by decide) (by decide) (by decide));replace HF:=zh (HF.o.trans hf);replace HC:=zh (HC.o.step hm hf);clear hm hf D
 cases hcb:(b1 || b2)&&op==6
 ·replace HE:=zh (by have q:=HE.o;rw [hcb] at q;exact q)
  have h:(b1=true∧¬op=6)∨(b1=false∧b2=true∧¬op=6)∨(b1=false∧b2=false):=by
   revert hcb
   cases b1<;>cases b2<;>simp
  have hS:=L.o.1;have hR:=L.o.2;have J:=zh HE.o;clear hcb HE;rcases h with ⟨rfl,ho⟩ | ⟨rfl,rfl,ho⟩ | ⟨rfl,rfl⟩
  all_goals
   try have g6x:(op==6)=false:=beq_false_of_ne ho
   obtain ⟨c0,-,c2,c3,-⟩:=css A.o;go_wp2_with fail
   go_loopg [31] ks.length (fun g t31 wr=>∃i:Nat,i+g=ks.length∧t31=.int .i64 (i:Int)∧ExW B M MB TB NB fv F w0 w wr (aA F v (ks.take i) s1) r v XB (.cells #[.int .i64 op,.int .i64 num,.string text,.slice s0 ks.length kc,.int .i64 pos] 144 (0,0)))
   case atStart=>exact ⟨0,Nat.zero_add _,rfl,by rw [List.take_zero,aA];exact HC.o,HV.o,A.o,HF.o⟩
   case round =>
    clear HC HV A HF;obtain ⟨i,H3,rfl,hF⟩:=hrel;have HW:=zh hF;clear hF;by_cases Y:i<ks.length
    ·obtain ⟨kb,koff,he,Z,_,H⟩:=l.o (by omega)
     subst he;have N:=hu.o i Y;obtain ⟨ko,kn,kt,kss,kl,kcc,kp,hg⟩:=kA N;rw [hg] at N;have V:∀j,j<5→wr.cell? ⟨kb,koff+i * 5+j,none⟩=(cs i)[j]?:=fun j hj=>(HW.o.c.old.cell (p:=⟨kb,_,none⟩) Z).trans (H i Y j hj);rw [hg] at V;have x0:wr.cell? ⟨kb,koff+i * 5,none⟩=some (.int .i64 ko):=V 0 (by decide);have x1:wr.cell? ⟨kb,koff+i * 5+1,none⟩=some (.int .i64 kn):=V 1 (by decide);have x2:wr.cell? ⟨kb,koff+i * 5+2,none⟩=some (.string kt):=V 2 (by decide);have x3:wr.cell? ⟨kb,koff+i * 5+3,none⟩=some (.slice kss kl kcc):=V 3 (by decide);have x4:wr.cell? ⟨kb,koff+i * 5+4,none⟩=some (.int .i64 kp):=V 4 (by decide);have H1:=zh (hv.o _ (fU default Y) _ N);have hL:Hd ((aA F v (ks.take i) s1).ins.length+8*szE (ks.getD i default)≤1000000∧(aA F v (ks.take i) s1).texts.length+szE (ks.getD i default)≤1000000):=zh (by have q:=hy.o;have q2:=h0.o;have q3:=cL F v (ks.take i) s1;have q4:=kR ks i Y;obtain ⟨_,q5,_,q6,_⟩:=q3;omega);have hM:=zh (iY F v (ks.take i) (ks.getD i default) s1);rw [←gP default ks i Y] at hM;have ha:Hd (Below wr.heap.size wr (wr.alloc (.cells #[.int .i64 ko,.int .i64 kn,.string kt,.slice kss kl kcc,.int .i64 kp] 144))):=zh (ag (Below.refl _ _) _);have R:Hd (ExW B M MB TB NB fv F w0 w (wr.alloc (.cells #[.int .i64 ko,.int .i64 kn,.string kt,.slice kss kl kcc,.int .i64 kp] 144)) (aA F v (ks.take i) s1) r v XB (.cells #[.int .i64 op,.int .i64 num,.string text,.slice (some ⟨kb,koff,none⟩) ks.length kc,.int .i64 pos] 144 (0,0))):=zh ⟨HW.o.c.below ha.o,SlAt.below HW.o.v ha.o,(ha.o.block _ (ae HW.o.x)).trans HW.o.x,HW.o.f.trans (Fx.of_below ha.o)⟩;clear N V hg H;generalize ks.getD i default=kx at *;generalize aA F v (ks.take i) s1=sk at *;go_wp2_with fail
     refine (H1.o _ _ r v R.o.c R.o.v HR.o hL.o.1 hL.o.2).mono ?_;rintro e w9 ⟨rfl,hm,hf⟩;rw [←hM.o] at hm;have hW:Hd (ExW B M MB TB NB fv F w0 w w9 (aA F v (ks.take (i+1)) s1) r v XB (.cells #[.int .i64 op,.int .i64 num,.string text,.slice (some ⟨kb,koff,none⟩) ks.length kc,.int .i64 pos] 144 (0,0))):=zh ⟨R.o.c.step hm hf,SlAt.fx hf R.o.v HR.o,hf.obj R.o.x (aH R.o.c.ma.n.noTy R.o.x) (by decide) (by decide) (by decide) (by decide),R.o.f.trans hf⟩;clear hm hf;go_wp2_with fail
     go_roundg (ks.length-i-1)
     case measure=>omega
     case rel=>exact ⟨i+1,by omega,by go_num,hW.o⟩
    ·obtain rfl:i=ks.length:=by omega
     rw [List.take_of_length_le (Nat.le_refl _)] at HW;have HC:=zh HW.o.c;have HV:=zh HW.o.v;have A:=zh HW.o.x;have HF:=zh HW.o.f;clear HW;have I:Hd ((aA F v ks s1).ins.length+4≤1000000∧(aA F v ks s1).texts.length+1≤1000000):=zh (by have q:=hy.o;have q2:=h0.o;obtain ⟨_,q5,_,q6,_⟩:=cL F v ks s1;omega);generalize aA F v ks s1=sk at *;by_cases h1:op=1
     ·subst h1
      have G:Hd (E=au 2 num sk):=zh (by rw [J.o];rfl);obtain ⟨c0,c1,-⟩:=css A.o;go_wp2_with fail
      refine (aU B M MB TB NB fv _ 2 num _ HC.o.ma (by have:=I.o;omega)).mono ?_;rintro e v1 ⟨cl1,rfl,C,hm,hf⟩;clear C;have D:=HC.o.ma.n.noTy;replace HV:=zh (SlAt.fx hf HV.o HR.o);replace A:=zh (hf.obj A.o (aH D A.o) (by decide) (by decide) (by decide) (by decide));replace HF:=zh (HF.o.trans hf);replace HC:=zh (HC.o.step hm hf);clear hm hf D;go_wp2_with fail
      go_end0
      exact ⟨rfl,by rw [G.o];exact HC.o.ma,HF.o⟩
     by_cases h2:op=2
     ·subst h2
      by_cases hb:num=1
      ·subst hb
       have G:Hd (E=au 3 1 sk):=zh (by rw [J.o];rfl);obtain ⟨c0,c1,-⟩:=css A.o;go_wp2_with fail
       refine (aU B M MB TB NB fv _ 3 1 _ HC.o.ma (by have:=I.o;omega)).mono ?_;rintro e v1 ⟨cl1,rfl,C,hm,hf⟩;clear C;have D:=HC.o.ma.n.noTy;replace HV:=zh (SlAt.fx hf HV.o HR.o);replace A:=zh (hf.obj A.o (aH D A.o) (by decide) (by decide) (by decide) (by decide));replace HF:=zh (HF.o.trans hf);replace HC:=zh (HC.o.step hm hf);clear hm hf D;go_wp2_with fail
       go_end0
       exact ⟨rfl,by rw [G.o];exact HC.o.ma,HF.o⟩
      ·have G:Hd (E=au 3 0 sk):=zh (by rw [J.o];unfold lZ;rw [if_neg hb];rfl)
       have H4:(num==1)=false:=beq_false_of_ne hb;obtain ⟨c0,c1,-⟩:=css A.o;go_wp2_with fail
       refine (aU B M MB TB NB fv _ 3 0 _ HC.o.ma (by have:=I.o;omega)).mono ?_;rintro e v1 ⟨cl1,rfl,C,hm,hf⟩;clear C;have D:=HC.o.ma.n.noTy;replace HV:=zh (SlAt.fx hf HV.o HR.o);replace A:=zh (hf.obj A.o (aH D A.o) (by decide) (by decide) (by decide) (by decide));replace HF:=zh (HF.o.trans hf);replace HC:=zh (HC.o.step hm hf);clear hm hf D;go_wp2_with fail
       go_end0
       exact ⟨rfl,by rw [G.o];exact HC.o.ma,HF.o⟩
     by_cases h3:op=3
     ·subst h3
      have G:Hd (E=au 4 (dR (cR text sk).texts text) (cR text sk)):=zh (by rw [J.o];rfl);obtain ⟨iv,O,_⟩:=HC.o.ma.m;have t:=zh (aa O (j:=0) rfl:wr.cell? ⟨MB,0,none⟩=some (.pointer (some ⟨TB,0,none⟩)));clear O;have c0:wr.cell? ⟨XB,0,none⟩=some (.int .i64 3):=aa A.o (j:=0) rfl;go_upto_region 19 with fail
      clear c0;have he:wr.drew.cell? ⟨MB,0,none⟩=some (.pointer (some ⟨TB,0,none⟩))∧wr.drew.cell? ⟨XB,2,none⟩=some (.string text):=⟨t.o,aa A.o (j:=2) rfl⟩
      refine wp_region_held (S:=(fun w':World=>w'.cell? ⟨MB,0,none⟩=some (.pointer (some ⟨TB,0,none⟩))∧w'.cell? ⟨XB,2,none⟩=some (.string text))) (by kernel_rfl) ?_;refine tkA 0 ?_;refine tkA 1 ?_;refine tkA 2 ?_;refine tkA 3 ?_;refine tkA 4 ?_;refine tkA 5 ?_;refine tkA 6 ?_;clear he;have T:=zh (xT B M MB TB NB fv sk text wr.drew (HC.o.below (aB (Below.refl _ _))).ma (by have:=I.o;omega));refine rd1 7 fun K hK=>?_;go_simp;go_at_call 94
      refine T.o.mono ?_;rintro e w8 ⟨rfl,hm,hf⟩;replace hf:=(Fx.of_below (aB (Below.refl wr.heap.size wr)):Fx B M NB wr wr.drew).trans hf;have D:=HC.o.ma.n.noTy;replace HV:=zh (SlAt.fx hf HV.o HR.o);replace A:=zh (hf.obj A.o (aH D A.o) (by decide) (by decide) (by decide) (by decide));replace HF:=zh (HF.o.trans hf);replace HC:=zh (HC.o.step hm hf);clear hm hf D T;obtain ⟨iv,O,_⟩:=HC.o.ma.m;replace t:=zh (aa O (j:=0) rfl:w8.cell? ⟨MB,0,none⟩=some (.pointer (some ⟨TB,0,none⟩)));clear O;go_simp;refine hK.out _ _ ?_ (fun hH=>?_)
      ·exact ⟨t.o,aa A.o (j:=2) rfl⟩
      clear hK K;try go_simp
      have hX:Hd ((cR text sk).ins.length≤1000000):=zh (by have:=I.o;obtain ⟨_,q,_⟩:=oP text sk;omega);generalize cR text sk=sq at *;refine rd1 8 fun K hK=>?_;go_simp;go_at_call 15
      refine (aU B M MB TB NB fv _ 4 _ _ HC.o.ma hX.o).mono ?_;rintro e w9 ⟨cl,rfl,_,hm,hf⟩;have D:=HC.o.ma.n.noTy;replace A:=zh (hf.obj A.o (aH D A.o) (by decide) (by decide) (by decide) (by decide));replace HF:=zh (HF.o.trans hf);replace HC:=zh (HC.o.step hm hf);clear hm hf D;obtain ⟨iv,O,_⟩:=HC.o.ma.m;replace t:=zh (aa O (j:=0) rfl:w9.cell? ⟨MB,0,none⟩=some (.pointer (some ⟨TB,0,none⟩)));clear O;go_simp;refine hK.out _ _ ?_ (fun hH=>?_)
      ·exact ⟨t.o,aa A.o (j:=2) rfl⟩
      clear hK K;refine wpAnyH_done (by kernel_rfl) ?_ _;go_wp2_with fail
      go_end0
      exact ⟨rfl,by rw [G.o];exact HC.o.ma,HF.o⟩
     by_cases h4:op=4
     ·subst h4
      have H2:=lm HV.o text;have G:Hd (E=au 5 ((aI v text).getD 0) sk):=zh (by rw [J.o];rfl);obtain ⟨c0,-,c2,-⟩:=css A.o;go_wp2_with fail
      refine (aU B M MB TB NB fv _ 5 ((aI v text).getD 0) _ HC.o.ma (by have:=I.o;omega)).mono ?_;rintro e v1 ⟨cl1,rfl,C,hm,hf⟩;clear C;have D:=HC.o.ma.n.noTy;replace HV:=zh (SlAt.fx hf HV.o HR.o);replace A:=zh (hf.obj A.o (aH D A.o) (by decide) (by decide) (by decide) (by decide));replace HF:=zh (HF.o.trans hf);replace HC:=zh (HC.o.step hm hf);clear hm hf D;go_wp2_with fail
      go_end0
      exact ⟨rfl,by rw [G.o];exact HC.o.ma,HF.o⟩
     by_cases h5:op=5
     ·subst h5
      have G:Hd (E=au 14 (ba F text) sk):=zh (by rw [J.o];rfl);have hO:=zh (kF B M MB TB NB fv sk F text wr HC.o.ma (HC.o.fn.mono (fun _ _=>trivial)) (y.o.1 rfl));obtain ⟨c0,-,c2,-⟩:=css A.o;go_wp2_with fail
      refine hO.o.mono ?_;rintro e w8 ⟨rfl,hb⟩;replace HC:=zh (HC.o.below hb);replace HV:=zh (SlAt.below HV.o hb);replace A:=zh ((hb.block _ (ae A.o)).trans A.o);replace HF:=zh (HF.o.trans (Fx.of_below hb));clear hb hO c0 c2;go_wp2_with fail
      refine (aU B M MB TB NB fv _ 14 (ba F text:Nat) _ HC.o.ma (by have:=I.o;omega)).mono ?_;rintro e v1 ⟨cl1,rfl,C,hm,hf⟩;clear C;have D:=HC.o.ma.n.noTy;replace HV:=zh (SlAt.fx hf HV.o HR.o);replace A:=zh (hf.obj A.o (aH D A.o) (by decide) (by decide) (by decide) (by decide));replace HF:=zh (HF.o.trans hf);replace HC:=zh (HC.o.step hm hf);clear hm hf D;go_wp2_with fail
      go_end0
      exact ⟨rfl,by rw [G.o];exact HC.o.ma,HF.o⟩
     by_cases h6:op=6
     ·subst h6
      try exact absurd rfl ho
      all_goals
       have G:Hd (E=au 7 (cP text.toList) sk):=zh (by rw [J.o];rfl);have T:=zh (gB text wr HC.o.sg);obtain ⟨c0,-,c2,-⟩:=css A.o;go_wp2_with fail
       refine T.o.mono ?_;rintro e w8 ⟨rfl,rfl⟩;clear T;go_wp2_with fail
       refine (aU B M MB TB NB fv _ 7 (cP text.toList) _ HC.o.ma (by have:=I.o;omega)).mono ?_;rintro e v1 ⟨cl1,rfl,C,hm,hf⟩;clear C;have D:=HC.o.ma.n.noTy;replace HV:=zh (SlAt.fx hf HV.o HR.o);replace A:=zh (hf.obj A.o (aH D A.o) (by decide) (by decide) (by decide) (by decide));replace HF:=zh (HF.o.trans hf);replace HC:=zh (HC.o.step hm hf);clear hm hf D;go_wp2_with fail
       go_end0
       exact ⟨rfl,by rw [G.o];exact HC.o.ma,HF.o⟩
     by_cases h7:op=7
     ·subst h7
      have G:Hd (E=au 8 (cP text.toList) sk):=zh (by rw [J.o];rfl);have T:=zh (gB text wr HC.o.sg);obtain ⟨c0,-,c2,-⟩:=css A.o;go_wp2_with fail
      refine T.o.mono ?_;rintro e w8 ⟨rfl,rfl⟩;clear T;go_wp2_with fail
      refine (aU B M MB TB NB fv _ 8 (cP text.toList) _ HC.o.ma (by have:=I.o;omega)).mono ?_;rintro e v1 ⟨cl1,rfl,C,hm,hf⟩;clear C;have D:=HC.o.ma.n.noTy;replace HV:=zh (SlAt.fx hf HV.o HR.o);replace A:=zh (hf.obj A.o (aH D A.o) (by decide) (by decide) (by decide) (by decide));replace HF:=zh (HF.o.trans hf);replace HC:=zh (HC.o.step hm hf);clear hm hf D;go_wp2_with fail
      go_end0
      exact ⟨rfl,by rw [G.o];exact HC.o.ma,HF.o⟩
     by_cases h8:op=8
     ·subst h8
      have G:Hd (E=au 9 0 sk):=zh (by rw [J.o];rfl);have c0:wr.cell? ⟨XB,0,none⟩=some (.int .i64 8):=aa A.o (j:=0) rfl;go_wp2_with fail
      refine (aU B M MB TB NB fv _ 9 0 _ HC.o.ma (by have:=I.o;omega)).mono ?_;rintro e v1 ⟨cl1,rfl,C,hm,hf⟩;clear C;have D:=HC.o.ma.n.noTy;replace HV:=zh (SlAt.fx hf HV.o HR.o);replace A:=zh (hf.obj A.o (aH D A.o) (by decide) (by decide) (by decide) (by decide));replace HF:=zh (HF.o.trans hf);replace HC:=zh (HC.o.step hm hf);clear hm hf D;go_wp2_with fail
      go_end0
      exact ⟨rfl,by rw [G.o];exact HC.o.ma,HF.o⟩
     by_cases h9:op=9
     ·subst h9
      have G:Hd (E=au 10 0 sk):=zh (by rw [J.o];rfl);have c0:wr.cell? ⟨XB,0,none⟩=some (.int .i64 9):=aa A.o (j:=0) rfl;go_wp2_with fail
      refine (aU B M MB TB NB fv _ 10 0 _ HC.o.ma (by have:=I.o;omega)).mono ?_;rintro e v1 ⟨cl1,rfl,C,hm,hf⟩;clear C;have D:=HC.o.ma.n.noTy;replace HV:=zh (SlAt.fx hf HV.o HR.o);replace A:=zh (hf.obj A.o (aH D A.o) (by decide) (by decide) (by decide) (by decide));replace HF:=zh (HF.o.trans hf);replace HC:=zh (HC.o.step hm hf);clear hm hf D;go_wp2_with fail
      go_end0
      exact ⟨rfl,by rw [G.o];exact HC.o.ma,HF.o⟩
     by_cases hp:op=10
     ·subst hp
      have G:Hd (E=au 11 0 sk):=zh (by rw [J.o];rfl);have c0:wr.cell? ⟨XB,0,none⟩=some (.int .i64 10):=aa A.o (j:=0) rfl;go_wp2_with fail
      refine (aU B M MB TB NB fv _ 11 0 _ HC.o.ma (by have:=I.o;omega)).mono ?_;rintro e v1 ⟨cl1,rfl,C,hm,hf⟩;clear C;have D:=HC.o.ma.n.noTy;replace HV:=zh (SlAt.fx hf HV.o HR.o);replace A:=zh (hf.obj A.o (aH D A.o) (by decide) (by decide) (by decide) (by decide));replace HF:=zh (HF.o.trans hf);replace HC:=zh (HC.o.step hm hf);clear hm hf D;go_wp2_with fail
      go_end0
      exact ⟨rfl,by rw [G.o];exact HC.o.ma,HF.o⟩
     have G:Hd (E=sk):=zh (by rw [J.o];simp [h1,h2,h3,h4,h5,h6,h7,h8,h9,hp]);have g1:(op==1)=false:=beq_false_of_ne h1;have g2:(op==2)=false:=beq_false_of_ne h2;have g3:(op==3)=false:=beq_false_of_ne h3;have g4:(op==4)=false:=beq_false_of_ne h4;have g5:(op==5)=false:=beq_false_of_ne h5;have g6:(op==6)=false:=beq_false_of_ne h6;have g7:(op==7)=false:=beq_false_of_ne h7;have g8:(op==8)=false:=beq_false_of_ne h8;have g9:(op==9)=false:=beq_false_of_ne h9;have g10:(op==10)=false:=beq_false_of_ne hp;have c0:wr.cell? ⟨XB,0,none⟩=some (.int .i64 op):=aa A.o (j:=0) rfl;go_wp2_with fail
     go_end0
     exact ⟨rfl,by rw [G.o];exact HC.o.ma,HF.o⟩
 ·have hq:(b1 || b2)=true∧op=6:=by simpa using hcb
  obtain ⟨hb,rfl⟩:=hq;have hB:=y.o.2 rfl
  obtain ⟨a,b,rfl⟩:∃a b,ks=[a,b]:=by
   match ks,hB with
   | [a,b],_=>exact ⟨a,b,rfl⟩
  obtain ⟨kb,koff,rfl,Z,_,H⟩:=l.o (by simp);have ra:=hu.o 0 (by simp);have rb:=hu.o 1 (by simp);obtain ⟨ao,an,att,ass,al,ac,ap,hh⟩:=kA ra;obtain ⟨bo,bn,bt,bs,bl,bc,bp,U⟩:=kA rb;rw [hh] at ra;rw [U] at rb;have HA:=zh (hv.o a (List.mem_cons_self ..) _ ra);have hQ:=zh (hv.o b (List.mem_cons_of_mem _ (List.mem_cons_self ..)) _ rb)
  have HK:Hd (∀j,j<10→v1.cell? ⟨kb,koff+j,none⟩=([.int .i64 ao,.int .i64 an,.string att,.slice ass al ac,.int .i64 ap,.int .i64 bo,.int .i64 bn,.string bt,.slice bs bl bc,.int .i64 bp]:List Value)[j]?):=zh (fun j hj=>by
    have hx:=fun i hi k hk=>(HC.o.old.cell (p:=⟨kb,koff+i * 5+k,none⟩) Z).trans (H i hi k hk);by_cases h5:j<5
    · have q:=hx 0 (by simp) j h5
      rw [hh,Nat.zero_mul,Nat.add_zero] at q;rw [q];match j,h5 with
      | 0,_=>rfl
      | 1,_=>rfl
      | 2,_=>rfl
      | 3,_=>rfl
      | 4,_=>rfl
    · obtain ⟨k,rfl⟩:∃k,j=5+k:=⟨j-5,by omega⟩
      have q:=hx 1 (by simp) k (by omega);rw [U,Nat.one_mul,Nat.add_assoc] at q;rw [q];match k,(show k<5 by omega) with
      | 0,_=>rfl
      | 1,_=>rfl
      | 2,_=>rfl
      | 3,_=>rfl
      | 4,_=>rfl)
  have G:Hd (E=cq F v b1 [a,b] s1):=zh (by rw [HE.o,hcb];rfl);have z:Hd (s1.ins.length+8*(szE a+szE b)+6≤1000000∧s1.texts.length+(szE a+szE b)≤1000000):=zh (by have q:=hy.o;have q2:=h0.o;have e:bP [a,b]=szE a+szE b:=by { rw [bP,bP,bP];omega };rw [e] at q;omega);have hw:=zh (re B M MB TB NB fv F num pos ao an ap bo bn bp text att bt kb koff kc al ac bl bc ass bs a b b1 L.o.1 w0 HA.o hQ.o _ s1 r v HC.o HV.o HR.o Z HK.o z.o.1 z.o.2);have hS:=L.o.1;have hR:=L.o.2;clear ra rb hh U H hcb hB HA hQ HK Z
  cases b1
  ·cases b2
   ·cases hb
   ·have c0:v1.cell? ⟨XB,0,none⟩=some (.int .i64 6):=aa A.o (j:=0) rfl
    obtain ⟨-,c1,c2,c3,c4,-⟩:=css A.o;go_wp2_with fail
    refine hw.o.mono ?_;rintro e w9 ⟨rfl,hm,hf⟩;have HH:=zh (And.intro hm hf);clear hm hf;go_wp2_with fail
    exact bodyPost_ret (v:=.tuple #[]) (by simp [results,Tryz.results68,go_sem]) rfl ⟨rfl,by rw [G.o];exact HH.o.1,HF.o.trans HH.o.2⟩
  ·cases b2
   ·have c0:v1.cell? ⟨XB,0,none⟩=some (.int .i64 6):=aa A.o (j:=0) rfl
    obtain ⟨-,c1,c2,c3,c4,-⟩:=css A.o;go_wp2_with fail
    refine hw.o.mono ?_;rintro e w9 ⟨rfl,hm,hf⟩;have HH:=zh (And.intro hm hf);clear hm hf;go_wp2_with fail
    exact bodyPost_ret (v:=.tuple #[]) (by simp [results,Tryz.results68,go_sem]) rfl ⟨rfl,by rw [G.o];exact HH.o.1,HF.o.trans HH.o.2⟩
   ·have c0:v1.cell? ⟨XB,0,none⟩=some (.int .i64 6):=aa A.o (j:=0) rfl
    obtain ⟨-,c1,c2,c3,c4,-⟩:=css A.o;go_wp2_with fail
    refine hw.o.mono ?_;rintro e w9 ⟨rfl,hm,hf⟩;have HH:=zh (And.intro hm hf);clear hm hf;go_wp2_with fail
    exact bodyPost_ret (v:=.tuple #[]) (by simp [results,Tryz.results68,go_sem]) rfl ⟨rfl,by rw [G.o];exact HH.o.1,HF.o.trans HH.o.2⟩
theorem oD (B M MB TB NB:Nat) (fv:Value) (F:List Fn) (w0:World) (x:Ex):∀cs:List Value,RepEx (fun b=>b<B) w0 cs x→nQ F x→nr B M MB TB NB fv F w0 cs x:=by
 obtain ⟨op,num,text,ks,pos⟩:=x;intro cs hr hf;obtain ⟨u,rfl,hk⟩:=hr.kids;have C:fY F ks:=by rw [nQ] at hf;exact hf.2.2
 exact sI B M MB TB NB fv F w0 op num pos text ks u hk hf fun y hy cs' A=>oD B M MB TB NB fv F w0 y cs' A (mU C y hy)
termination_by SizeOf.sizeOf x
decreasing_by
 have:=List.sizeOf_lt_of_mem hy;decreasing_tactic
end
end Go.Proofs.YtmlgbkomdhcaoaaGreatDoor
