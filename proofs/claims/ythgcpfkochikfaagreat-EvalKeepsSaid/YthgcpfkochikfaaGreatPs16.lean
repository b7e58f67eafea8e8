/-
  EvalSigns: part 16 of its proof: see the last text.
-/
import Derived.Test.YthgcpfkochikfaaGreatPs15
set_option maxRecDepth 100000
set_option maxHeartbeats 16000000
namespace Go.Proofs.YthgcpfkochikfaaGreat
section
open Go.RowKit
theorem ym (rb:Nat) (d:Int) (k:0≤d) (hd:d≤32) (en:Int) (E:Par Ex) (B:Par (List St)) (HE:cw rb en 129 #[.pointer (some ⟨rb,0,none⟩),.int .i64 (d+1)] E) (HB:kN rb en 77 #[.pointer (some ⟨rb,0,none⟩),.int .i64 (d+1)] B) :
    tV rb en 103 #[.pointer (some ⟨rb,0,none⟩),.int .i64 d] (jn en E B):=by
 intro l w h;have H:=zh HE;have c:=zh HB;have a:=zh h.lt;have J:=zh k;have I:Hd (d≤100):=zh (by omega);have z:IntKind.i64.wrap (d+1)=d+1:=IntWalk.i64_in _ (by omega);have h4:∀args W,Sem.run Tryz.prog (callFunc 128 args) W=.ok (.enter 128 args) W:=fun _ _=>Tryz.call128 _ _;have T:=zh (ag (ag (ag (Below.refl w.heap.size w) (.cells #[.pointer (some ⟨rb,0,none⟩)] 108)) (.cells #[.int .i64 d] 3)) (.cells #[.int .i64 0,.string ⟨#[]⟩,.slice none 0 0,.slice none 0 0,.slice none 0 0,.int .i64 0] 134));have r:=zh (h.on T.o);generalize hR:jn en E B l=R;generalize U:aQ en l=pl at *;have y:=zh U;have N:=hR.symm;unfold jn at N;dsimp only at N;rw [U] at N;have HF:=zh N;clear HE HB k hd hR U N;go_enter Tryz.func103,Tryz.ntmps103
 go_wp2_with fail
 refine (fH rb l en _ r.o).mono ?_;rintro e w1 ⟨rfl,rfl⟩;rw [y.o];go_upto_region 5 with fail
 have HW:Hd (StW w ⟨rb,w.heap.size,w.heap.size+1,w.heap.size+1+1,w.heap.size+1+1+1,w.heap.size+1+1+1+1,d,en,pl⟩ ((((w.alloc (.cells #[.pointer (some ⟨rb,0,none⟩)] 108)).alloc (.cells #[.int .i64 d] 3)).alloc (.cells #[.int .i64 0,.string ⟨#[]⟩,.slice none 0 0,.slice none 0 0,.slice none 0 0,.int .i64 0] 134)).alloc (.cells #[.int .i64 0,.string ⟨#[]⟩,.slice none 0 0,.slice none 0 0,.slice none 0 0,.int .i64 pl] 134)) l 0 ⟨#[]⟩ (.slice none 0 0) [] (.slice none 0 0) [] (.slice none 0 0) []):=zh ⟨h.on (ag T.o _),ax _ _ _ _ (ax _ _ _ _ (ax _ _ _ _ (aj _ _ _ rfl))),ax _ _ _ _ (ax _ _ _ _ (aj _ _ _ (ah _ _))),ax _ _ _ _ (aj _ _ _ (by simp only [ah])),aj _ _ _ (by simp only [ah]),GrowOf.nil,RepSts.nil _ _,RepSts.nil _ _,On.of_below (ag T.o _),by simp only [ah];exact Nat.le_refl _⟩;have HY:Hd (Lay.Ok ⟨rb,w.heap.size,w.heap.size+1,w.heap.size+1+1,w.heap.size+1+1+1,w.heap.size+1+1+1+1,d,en,pl⟩ w):=zh (by have:=a.o;constructor<;>dsimp only<;>omega);have C:Hd (rb<w.heap.size∧w.heap.size<w.heap.size+1∧w.heap.size+1<w.heap.size+1+1∧w.heap.size+1+1<w.heap.size+1+1+1∧w.heap.size+1+1+1<w.heap.size+1+1+1+1):=zh (by have:=a.o;omega);have P:Hd (w.heap.size≤w.heap.size):=zh (Nat.le_refl _);clear h r T;generalize ((((w.alloc (.cells #[.pointer (some ⟨rb,0,none⟩)] 108)).alloc (.cells #[.int .i64 d] 3)).alloc (.cells #[.int .i64 0,.string ⟨#[]⟩,.slice none 0 0,.slice none 0 0,.slice none 0 0,.int .i64 0] 134)).alloc (.cells #[.int .i64 0,.string ⟨#[]⟩,.slice none 0 0,.slice none 0 0,.slice none 0 0,.int .i64 pl] 134))=w1 at *;generalize O:w.heap.size+1+1+1+1=base at *;generalize u:w.heap.size+1+1+1=SB at *;generalize Y:w.heap.size+1+1=RES at *;generalize x:w.heap.size+1=BD at *;generalize q:w.heap.size=BR at *;replace C:Hd (w.heap.size=BR∧rb<BR∧BR<BD∧BD<RES∧RES<SB∧SB<base):=zh ⟨q,C.o⟩;clear O u Y x q P a;have F:Hd (rb<base∧SB<base∧BR<base∧BD<base):=zh (by have:=C.o;omega);have D:Hd (rb<SB∧rb<BR∧rb<BD):=zh (by have:=C.o;omega);have h3:¬BR=SB:=by have:=C.o;omega
 have X:¬SB=BR:=by have:=C.o;omega
 have V:¬BD=SB:=by have:=C.o;omega
 have h2:¬SB=BD:=by have:=C.o;omega
 have h1:¬RES=SB:=by have:=C.o;omega
 have h0:¬SB=RES:=by have:=C.o;omega
 have b0:w1.cell? ⟨BR,0,none⟩=some (.pointer (some ⟨rb,0,none⟩)):=aa HW.o.br (j:=0) rfl;go_wp2_with fail
 clear b0
 cases hq:atS l 0 DF
 ·replace HF:=zh (HF.o.trans (if_neg (by rw [hq];decide)))
  refine (cV rb _ l en _ HW.o.rd hq).mono ?_;rintro e w2 ⟨rfl,hr,ho⟩;replace HW:=zh (HW.o.call HY.o ho hr);clear hr ho hq;have b0:w2.cell? ⟨BR,0,none⟩=some (.pointer (some ⟨rb,0,none⟩)):=aa HW.o.br (j:=0) rfl;go_wp2_with fail
  clear b0
  cases hq:atS l 0 sIf
  ·replace HF:=zh (HF.o.trans (if_neg (by rw [hq];decide)))
   refine (cV rb _ l en _ HW.o.rd hq).mono ?_;rintro e w3 ⟨rfl,hr,ho⟩;replace HW:=zh (HW.o.call HY.o ho hr);clear hr ho hq;have b0:w3.cell? ⟨BR,0,none⟩=some (.pointer (some ⟨rb,0,none⟩)):=aa HW.o.br (j:=0) rfl;go_wp2_with fail
   clear b0
   cases hq:atS l 0 Dk
   ·replace HF:=zh (HF.o.trans (if_neg (by rw [hq];decide)))
    refine (cV rb _ l en _ HW.o.rd hq).mono ?_;rintro e w4 ⟨rfl,hr,ho⟩;replace HW:=zh (HW.o.call HY.o ho hr);clear hr ho hq;have b0:w4.cell? ⟨BR,0,none⟩=some (.pointer (some ⟨rb,0,none⟩)):=aa HW.o.br (j:=0) rfl;go_wp2_with fail
    clear b0
    cases hq:atS l 0 ur
    ·replace HF:=zh (HF.o.trans (if_neg (by rw [hq];decide)))
     refine (cV rb _ l en _ HW.o.rd hq).mono ?_;rintro e w5 ⟨rfl,hr,ho⟩;replace HW:=zh (HW.o.call HY.o ho hr);clear hr ho hq;have b0:w5.cell? ⟨BR,0,none⟩=some (.pointer (some ⟨rb,0,none⟩)):=aa HW.o.br (j:=0) rfl;go_wp2_with fail
     clear b0
     cases hq:atS l 0 Du
     ·replace HF:=zh (HF.o.trans (if_neg (by rw [hq];decide)))
      refine (cV rb _ l en _ HW.o.rd hq).mono ?_;rintro e w6 ⟨rfl,hr,ho⟩;replace HW:=zh (HW.o.call HY.o ho hr);clear hr ho hq;have b0:w6.cell? ⟨BR,0,none⟩=some (.pointer (some ⟨rb,0,none⟩)):=aa HW.o.br (j:=0) rfl;go_wp2_with fail
      clear b0
      cases hq:atS l 0 Dl
      ·replace HF:=zh (HF.o.trans (if_neg (by rw [hq];decide)))
       refine (cV rb _ l en _ HW.o.rd hq).mono ?_;rintro e w7 ⟨rfl,hr,ho⟩;replace HW:=zh (HW.o.call HY.o ho hr);clear hr ho hq;obtain ⟨s0,cap,S,g,m,M,f⟩:=HW.o.rd.rest
       cases l with
       | nil =>
        replace HF:=zh (HF.o.trans (if_neg (by simp)));have t:w7.cell? ⟨rb,0,none⟩=some (.slice s0 0 cap):=S;clear S g m M f;have b0:w7.cell? ⟨BR,0,none⟩=some (.pointer (some ⟨rb,0,none⟩)):=aa HW.o.br (j:=0) rfl;go_upto_region 3 with fail
        clear b0 t;have e0:w7.cell? ⟨SB,0,none⟩=some (.int .i64 0):=aa HW.o.sb (j:=0) rfl;have g0:w7.frozen? ⟨SB,0,none⟩=false:=ae HW.o.sb 0;go_upto_region 4 with fail
        clear e0 g0;replace HW:=zh (HW.o.store HY.o 0 (.int .i64 8) rfl HW.o.bo HW.o.el);generalize (w7.setCell ⟨SB,0,none⟩ (.int .i64 8))=w8 at *;have b0:w8.cell? ⟨BR,0,none⟩=some (.pointer (some ⟨rb,0,none⟩)):=aa HW.o.br (j:=0) rfl;have b1:w8.cell? ⟨BD,0,none⟩=some (.int .i64 d):=aa HW.o.bd (j:=0) rfl;go_wp2_with fail
        refine (dz rb SB BR BD base d en J.o I.o E H.o F.o D.o [] _ HW.o.rd b0 b1 HW.o.big _ _ _ _ _ _ HW.o.sb _ (by simp) HW.o.ex).mono ?_;rintro e w9 hp;rcases hp.cases with ⟨er,p,hm,rfl,ho⟩ | ⟨x9,L9,v,hm,rfl,hv,hr,ho⟩
        ·have HE:=zh (HF.o.trans (aD hm))
         have A:=zh (On.of_onS HW.o.on ho (fun i hi=>by have:=C.o;dsimp only;omega));clear hp hm ho;unfold Pan;go_wp2_with fail
         exact ⟨rfl,PSays.err HE.o A.o⟩
        ·replace HF:=zh (HF.o.trans (aH hm))
         clear b0 b1;obtain ⟨hv,v9,hs,hg⟩:=hv;subst hv;replace HW:=zh (HW.o.kid HY.o ho hr hs hg);clear hp hm ho hr hs hg;have b0:w9.cell? ⟨BR,0,none⟩=some (.pointer (some ⟨rb,0,none⟩)):=aa HW.o.br (j:=0) rfl;go_wp2_with fail
         clear b0;have HB:=zh (ag (Below.refl w9.heap.size w9) (.cells #[.string ⟨#[59]⟩] 9));replace HW:=zh (HW.o.below HB.o);refine (aV rb w9.heap.size fm L9 en _ HW.o.rd (aA _ _ _ _ _ _ rfl rfl)).mono ?_;rintro e w10 hp;rcases hp.cases with ⟨er,p,hm,rfl,ho⟩ | ⟨x10,L10,v,hm,rfl,hv,hr,ho⟩
         ·have HE:=zh (HF.o.trans (aD hm))
          have A:=zh (HW.o.on.trans ho);clear hp hm ho;unfold Pan;go_wp2_with fail
          exact ⟨rfl,PSays.err HE.o A.o⟩
         ·replace HF:=zh (HF.o.trans (aH hm))
          replace HW:=zh (HW.o.call HY.o ho hr);subst hv;clear hp hm ho hr HB;obtain ⟨sE,nE,kE,hE⟩:=HW.o.formE;subst hE;obtain ⟨e0,e1,e2,e3,e4,e5,-⟩:=css HW.o.sb;have c0:w10.cell? ⟨RES,0,none⟩=some (.int .i64 0):=aa HW.o.res (j:=0) rfl;have f0:w10.frozen? ⟨RES,0,none⟩=false:=ae HW.o.res 0;have c1:w10.cell? ⟨RES,1,none⟩=some (.string ⟨#[]⟩):=aa HW.o.res (j:=1) rfl;have f1:w10.frozen? ⟨RES,1,none⟩=false:=ae HW.o.res 1;have c2:w10.cell? ⟨RES,2,none⟩=some (.slice none 0 0):=aa HW.o.res (j:=2) rfl;have f2:w10.frozen? ⟨RES,2,none⟩=false:=ae HW.o.res 2;have c3:w10.cell? ⟨RES,3,none⟩=some (.slice none 0 0):=aa HW.o.res (j:=3) rfl;have f3:w10.frozen? ⟨RES,3,none⟩=false:=ae HW.o.res 3;have c4:w10.cell? ⟨RES,4,none⟩=some (.slice none 0 0):=aa HW.o.res (j:=4) rfl;have f4:w10.frozen? ⟨RES,4,none⟩=false:=ae HW.o.res 4;have c5:w10.cell? ⟨RES,5,none⟩=some (.int .i64 0):=aa HW.o.res (j:=5) rfl;have f5:w10.frozen? ⟨RES,5,none⟩=false:=ae HW.o.res 5;go_wp2_with fail
          refine bodyPost_ret (v:=.agg #[.int .i64 8,.string ⟨#[]⟩,.slice sE nE kE,.slice none 0 0,.slice none 0 0,.int .i64 pl]) (by simp [results,Tryz.results103,go_sem,c0,c1,c2,c3,c4,c5]) rfl ?_;have hq:=HW.o.done HY.o HF.o;rw [C.o.1] at hq;exact hq
       | cons tk tr =>
        obtain ⟨bk,off,hs,h5,K⟩:=M (by simp);subst hs;obtain ⟨t0,_,_,_⟩:=K 0 (by simp);have t0':w7.cell? ⟨bk,off,none⟩=some (.int .i64 tk.kind):=by simpa using t0
        have X:(0:Int)<((tk :: tr).length:Int):=by simp
        have V:(0:Int)<((tr.length+1:Nat):Int):=by omega
        have Z:=zh HW.o.rd;clear t0 K M f g m;have b0:w7.cell? ⟨BR,0,none⟩=some (.pointer (some ⟨rb,0,none⟩)):=aa HW.o.br (j:=0) rfl;by_cases hk:tk.kind=1
        ·have s:(tk.kind==1)=true:=by simp [hk]
         go_wp2_with fail
         clear b0 S t0' X V
         cases hq:atS (tk :: tr) 1 sEq
         ·replace HF:=zh (HF.o.trans (if_neg (by rw [hq];simp)))
          have G:=zh (fu rb 1 sEq (tk :: tr) en _ HW.o.rd);rw [hq] at G;refine G.o.mono ?_;rintro e we ⟨rfl,rfl⟩;clear hq G Z;generalize n:tk :: tr=LL at *;go_upto_region 3 with fail
          have e0:w7.cell? ⟨SB,0,none⟩=some (.int .i64 0):=aa HW.o.sb (j:=0) rfl;have g0:w7.frozen? ⟨SB,0,none⟩=false:=ae HW.o.sb 0;go_upto_region 4 with fail
          clear e0 g0;replace HW:=zh (HW.o.store HY.o 0 (.int .i64 8) rfl HW.o.bo HW.o.el);generalize (w7.setCell ⟨SB,0,none⟩ (.int .i64 8))=w8 at *;have b0:w8.cell? ⟨BR,0,none⟩=some (.pointer (some ⟨rb,0,none⟩)):=aa HW.o.br (j:=0) rfl;have b1:w8.cell? ⟨BD,0,none⟩=some (.int .i64 d):=aa HW.o.bd (j:=0) rfl;go_wp2_with fail
          refine (dz rb SB BR BD base d en J.o I.o E H.o F.o D.o LL _ HW.o.rd b0 b1 HW.o.big _ _ _ _ _ _ HW.o.sb _ (by simp) HW.o.ex).mono ?_;rintro e w9 hp;rcases hp.cases with ⟨er,p,hm,rfl,ho⟩ | ⟨x9,L9,v,hm,rfl,hv,hr,ho⟩
          ·have HE:=zh (HF.o.trans (aD hm))
           have A:=zh (On.of_onS HW.o.on ho (fun i hi=>by have:=C.o;dsimp only;omega));clear hp hm ho;unfold Pan;go_wp2_with fail
           exact ⟨rfl,PSays.err HE.o A.o⟩
          ·replace HF:=zh (HF.o.trans (aH hm))
           clear b0 b1;obtain ⟨hv,v9,hs,hg⟩:=hv;subst hv;replace HW:=zh (HW.o.kid HY.o ho hr hs hg);clear hp hm ho hr hs hg;have b0:w9.cell? ⟨BR,0,none⟩=some (.pointer (some ⟨rb,0,none⟩)):=aa HW.o.br (j:=0) rfl;go_wp2_with fail
           clear b0;have HB:=zh (ag (Below.refl w9.heap.size w9) (.cells #[.string ⟨#[59]⟩] 9));replace HW:=zh (HW.o.below HB.o);refine (aV rb w9.heap.size fm L9 en _ HW.o.rd (aA _ _ _ _ _ _ rfl rfl)).mono ?_;rintro e w10 hp;rcases hp.cases with ⟨er,p,hm,rfl,ho⟩ | ⟨x10,L10,v,hm,rfl,hv,hr,ho⟩
           ·have HE:=zh (HF.o.trans (aD hm))
            have A:=zh (HW.o.on.trans ho);clear hp hm ho;unfold Pan;go_wp2_with fail
            exact ⟨rfl,PSays.err HE.o A.o⟩
           ·replace HF:=zh (HF.o.trans (aH hm))
            replace HW:=zh (HW.o.call HY.o ho hr);subst hv;clear hp hm ho hr HB;obtain ⟨sE,nE,kE,hE⟩:=HW.o.formE;subst hE;obtain ⟨e0,e1,e2,e3,e4,e5,-⟩:=css HW.o.sb;have c0:w10.cell? ⟨RES,0,none⟩=some (.int .i64 0):=aa HW.o.res (j:=0) rfl;have f0:w10.frozen? ⟨RES,0,none⟩=false:=ae HW.o.res 0;have c1:w10.cell? ⟨RES,1,none⟩=some (.string ⟨#[]⟩):=aa HW.o.res (j:=1) rfl;have f1:w10.frozen? ⟨RES,1,none⟩=false:=ae HW.o.res 1;have c2:w10.cell? ⟨RES,2,none⟩=some (.slice none 0 0):=aa HW.o.res (j:=2) rfl;have f2:w10.frozen? ⟨RES,2,none⟩=false:=ae HW.o.res 2;have c3:w10.cell? ⟨RES,3,none⟩=some (.slice none 0 0):=aa HW.o.res (j:=3) rfl;have f3:w10.frozen? ⟨RES,3,none⟩=false:=ae HW.o.res 3;have c4:w10.cell? ⟨RES,4,none⟩=some (.slice none 0 0):=aa HW.o.res (j:=4) rfl;have f4:w10.frozen? ⟨RES,4,none⟩=false:=ae HW.o.res 4;have c5:w10.cell? ⟨RES,5,none⟩=some (.int .i64 0):=aa HW.o.res (j:=5) rfl;have f5:w10.frozen? ⟨RES,5,none⟩=false:=ae HW.o.res 5;go_wp2_with fail
            refine bodyPost_ret (v:=.agg #[.int .i64 8,.string ⟨#[]⟩,.slice sE nE kE,.slice none 0 0,.slice none 0 0,.int .i64 pl]) (by simp [results,Tryz.results103,go_sem,c0,c1,c2,c3,c4,c5]) rfl ?_;have hq:=HW.o.done HY.o HF.o;rw [C.o.1] at hq;exact hq
         ·replace HF:=zh (HF.o.trans (if_pos (by rw [hq];simp [hk])))
          have G:=zh (fu rb 1 sEq (tk :: tr) en _ HW.o.rd);rw [hq] at G;refine G.o.mono ?_;rintro e we ⟨rfl,rfl⟩;clear hq G Z;generalize n:tk :: tr=LL at *;go_upto_region 41 with fail
          have b0:w7.cell? ⟨BR,0,none⟩=some (.pointer (some ⟨rb,0,none⟩)):=aa HW.o.br (j:=0) rfl;go_wp2_with fail
          clear b0;refine (gV rb LL en _ HW.o.rd).mono ?_;rintro e w8 hp;rcases hp.cases with ⟨er,p,hm,rfl,ho⟩ | ⟨x8,L8,v,hm,rfl,hv,hr,ho⟩
          ·have HE:=zh (HF.o.trans (aD hm))
           have A:=zh (HW.o.on.trans ho);clear hp hm ho;unfold Pan;go_wp2_with fail
           exact ⟨rfl,PSays.err HE.o A.o⟩
          ·replace HF:=zh (HF.o.trans (aH hm))
           replace HW:=zh (HW.o.call HY.o ho hr);subst hv;clear hp hm ho hr;have e0:w8.cell? ⟨SB,0,none⟩=some (.int .i64 0):=aa HW.o.sb (j:=0) rfl;have g0:w8.frozen? ⟨SB,0,none⟩=false:=ae HW.o.sb 0;have e1:w8.cell? ⟨SB,1,none⟩=some (.string ⟨#[]⟩):=aa HW.o.sb (j:=1) rfl;have g1:w8.frozen? ⟨SB,1,none⟩=false:=ae HW.o.sb 1;go_upto_region 42 with fail
           clear e0 g0 e1 g1;replace HW:=zh (HW.o.store HY.o 0 (.int .i64 2) rfl HW.o.bo HW.o.el);replace HW:=zh (HW.o.store HY.o 1 (.string x8) rfl HW.o.bo HW.o.el);generalize ((w8.setCell ⟨SB,0,none⟩ (.int .i64 2)).setCell ⟨SB,1,none⟩ (.string x8))=w9 at *;have b0:w9.cell? ⟨BR,0,none⟩=some (.pointer (some ⟨rb,0,none⟩)):=aa HW.o.br (j:=0) rfl;go_wp2_with fail
           clear b0;have HB:=zh (ag (Below.refl w9.heap.size w9) (.cells #[.string ⟨#[61]⟩] 9));replace HW:=zh (HW.o.below HB.o);refine (aV rb w9.heap.size sEq L8 en _ HW.o.rd (aA _ _ _ _ _ _ rfl rfl)).mono ?_;rintro e w10 hp;rcases hp.cases with ⟨er,p,hm,rfl,ho⟩ | ⟨x10,L10,v,hm,rfl,hv,hr,ho⟩
           ·have HE:=zh (HF.o.trans (aD hm))
            have A:=zh (HW.o.on.trans ho);clear hp hm ho;unfold Pan;go_wp2_with fail
            exact ⟨rfl,PSays.err HE.o A.o⟩
           ·replace HF:=zh (HF.o.trans (aH hm))
            replace HW:=zh (HW.o.call HY.o ho hr);subst hv;clear hp hm ho hr HB;have b0:w10.cell? ⟨BR,0,none⟩=some (.pointer (some ⟨rb,0,none⟩)):=aa HW.o.br (j:=0) rfl;have b1:w10.cell? ⟨BD,0,none⟩=some (.int .i64 d):=aa HW.o.bd (j:=0) rfl;go_wp2_with fail
            refine (dz rb SB BR BD base d en J.o I.o E H.o F.o D.o L10 _ HW.o.rd b0 b1 HW.o.big _ _ _ _ _ _ HW.o.sb _ (by simp) HW.o.ex).mono ?_;rintro e w11 hp;rcases hp.cases with ⟨er,p,hm,rfl,ho⟩ | ⟨x11,L11,v,hm,rfl,hv,hr,ho⟩
            ·have HE:=zh (HF.o.trans (aD hm))
             have A:=zh (On.of_onS HW.o.on ho (fun i hi=>by have:=C.o;dsimp only;omega));clear hp hm ho;unfold Pan;go_wp2_with fail
             exact ⟨rfl,PSays.err HE.o A.o⟩
            ·replace HF:=zh (HF.o.trans (aH hm))
             clear b0 b1;obtain ⟨hv,v11,hs,hg⟩:=hv;subst hv;replace HW:=zh (HW.o.kid HY.o ho hr hs hg);clear hp hm ho hr hs hg;have b0:w11.cell? ⟨BR,0,none⟩=some (.pointer (some ⟨rb,0,none⟩)):=aa HW.o.br (j:=0) rfl;go_wp2_with fail
             clear b0;have HB:=zh (ag (Below.refl w11.heap.size w11) (.cells #[.string ⟨#[59]⟩] 9));replace HW:=zh (HW.o.below HB.o);refine (aV rb w11.heap.size fm L11 en _ HW.o.rd (aA _ _ _ _ _ _ rfl rfl)).mono ?_;rintro e w12 hp;rcases hp.cases with ⟨er,p,hm,rfl,ho⟩ | ⟨x12,L12,v,hm,rfl,hv,hr,ho⟩
             ·have HE:=zh (HF.o.trans (aD hm))
              have A:=zh (HW.o.on.trans ho);clear hp hm ho;unfold Pan;go_wp2_with fail
              exact ⟨rfl,PSays.err HE.o A.o⟩
             ·replace HF:=zh (HF.o.trans (aH hm))
              replace HW:=zh (HW.o.call HY.o ho hr);subst hv;clear hp hm ho hr HB;obtain ⟨sE,nE,kE,hE⟩:=HW.o.formE;subst hE;obtain ⟨e0,e1,e2,e3,e4,e5,-⟩:=css HW.o.sb;have c0:w12.cell? ⟨RES,0,none⟩=some (.int .i64 0):=aa HW.o.res (j:=0) rfl;have f0:w12.frozen? ⟨RES,0,none⟩=false:=ae HW.o.res 0;have c1:w12.cell? ⟨RES,1,none⟩=some (.string ⟨#[]⟩):=aa HW.o.res (j:=1) rfl;have f1:w12.frozen? ⟨RES,1,none⟩=false:=ae HW.o.res 1;have c2:w12.cell? ⟨RES,2,none⟩=some (.slice none 0 0):=aa HW.o.res (j:=2) rfl;have f2:w12.frozen? ⟨RES,2,none⟩=false:=ae HW.o.res 2;have c3:w12.cell? ⟨RES,3,none⟩=some (.slice none 0 0):=aa HW.o.res (j:=3) rfl;have f3:w12.frozen? ⟨RES,3,none⟩=false:=ae HW.o.res 3;have c4:w12.cell? ⟨RES,4,none⟩=some (.slice none 0 0):=aa HW.o.res (j:=4) rfl;have f4:w12.frozen? ⟨RES,4,none⟩=false:=ae HW.o.res 4;have c5:w12.cell? ⟨RES,5,none⟩=some (.int .i64 0):=aa HW.o.res (j:=5) rfl;have f5:w12.frozen? ⟨RES,5,none⟩=false:=ae HW.o.res 5;go_wp2_with fail
              refine bodyPost_ret (v:=.agg #[.int .i64 2,.string x8,.slice sE nE kE,.slice none 0 0,.slice none 0 0,.int .i64 pl]) (by simp [results,Tryz.results103,go_sem,c0,c1,c2,c3,c4,c5]) rfl ?_;have hq:=HW.o.done HY.o HF.o;rw [C.o.1] at hq;exact hq
        ·have s:(tk.kind==1)=false:=by simp [hk]
         replace HF:=zh (HF.o.trans (if_neg (by simp [hk])));go_upto_region 3 with fail
         clear b0 S t0' X V Z;generalize n:tk :: tr=LL at *;have e0:w7.cell? ⟨SB,0,none⟩=some (.int .i64 0):=aa HW.o.sb (j:=0) rfl;have g0:w7.frozen? ⟨SB,0,none⟩=false:=ae HW.o.sb 0;go_upto_region 4 with fail
         clear e0 g0;replace HW:=zh (HW.o.store HY.o 0 (.int .i64 8) rfl HW.o.bo HW.o.el);generalize (w7.setCell ⟨SB,0,none⟩ (.int .i64 8))=w8 at *;have b0:w8.cell? ⟨BR,0,none⟩=some (.pointer (some ⟨rb,0,none⟩)):=aa HW.o.br (j:=0) rfl;have b1:w8.cell? ⟨BD,0,none⟩=some (.int .i64 d):=aa HW.o.bd (j:=0) rfl;go_wp2_with fail
         refine (dz rb SB BR BD base d en J.o I.o E H.o F.o D.o LL _ HW.o.rd b0 b1 HW.o.big _ _ _ _ _ _ HW.o.sb _ (by simp) HW.o.ex).mono ?_;rintro e w9 hp;rcases hp.cases with ⟨er,p,hm,rfl,ho⟩ | ⟨x9,L9,v,hm,rfl,hv,hr,ho⟩
         ·have HE:=zh (HF.o.trans (aD hm))
          have A:=zh (On.of_onS HW.o.on ho (fun i hi=>by have:=C.o;dsimp only;omega));clear hp hm ho;unfold Pan;go_wp2_with fail
          exact ⟨rfl,PSays.err HE.o A.o⟩
         ·replace HF:=zh (HF.o.trans (aH hm))
          clear b0 b1;obtain ⟨hv,v9,hs,hg⟩:=hv;subst hv;replace HW:=zh (HW.o.kid HY.o ho hr hs hg);clear hp hm ho hr hs hg;have b0:w9.cell? ⟨BR,0,none⟩=some (.pointer (some ⟨rb,0,none⟩)):=aa HW.o.br (j:=0) rfl;go_wp2_with fail
          clear b0;have HB:=zh (ag (Below.refl w9.heap.size w9) (.cells #[.string ⟨#[59]⟩] 9));replace HW:=zh (HW.o.below HB.o);refine (aV rb w9.heap.size fm L9 en _ HW.o.rd (aA _ _ _ _ _ _ rfl rfl)).mono ?_;rintro e w10 hp;rcases hp.cases with ⟨er,p,hm,rfl,ho⟩ | ⟨x10,L10,v,hm,rfl,hv,hr,ho⟩
          ·have HE:=zh (HF.o.trans (aD hm))
           have A:=zh (HW.o.on.trans ho);clear hp hm ho;unfold Pan;go_wp2_with fail
           exact ⟨rfl,PSays.err HE.o A.o⟩
          ·replace HF:=zh (HF.o.trans (aH hm))
           replace HW:=zh (HW.o.call HY.o ho hr);subst hv;clear hp hm ho hr HB;obtain ⟨sE,nE,kE,hE⟩:=HW.o.formE;subst hE;obtain ⟨e0,e1,e2,e3,e4,e5,-⟩:=css HW.o.sb;have c0:w10.cell? ⟨RES,0,none⟩=some (.int .i64 0):=aa HW.o.res (j:=0) rfl;have f0:w10.frozen? ⟨RES,0,none⟩=false:=ae HW.o.res 0;have c1:w10.cell? ⟨RES,1,none⟩=some (.string ⟨#[]⟩):=aa HW.o.res (j:=1) rfl;have f1:w10.frozen? ⟨RES,1,none⟩=false:=ae HW.o.res 1;have c2:w10.cell? ⟨RES,2,none⟩=some (.slice none 0 0):=aa HW.o.res (j:=2) rfl;have f2:w10.frozen? ⟨RES,2,none⟩=false:=ae HW.o.res 2;have c3:w10.cell? ⟨RES,3,none⟩=some (.slice none 0 0):=aa HW.o.res (j:=3) rfl;have f3:w10.frozen? ⟨RES,3,none⟩=false:=ae HW.o.res 3;have c4:w10.cell? ⟨RES,4,none⟩=some (.slice none 0 0):=aa HW.o.res (j:=4) rfl;have f4:w10.frozen? ⟨RES,4,none⟩=false:=ae HW.o.res 4;have c5:w10.cell? ⟨RES,5,none⟩=some (.int .i64 0):=aa HW.o.res (j:=5) rfl;have f5:w10.frozen? ⟨RES,5,none⟩=false:=ae HW.o.res 5;go_wp2_with fail
           refine bodyPost_ret (v:=.agg #[.int .i64 8,.string ⟨#[]⟩,.slice sE nE kE,.slice none 0 0,.slice none 0 0,.int .i64 pl]) (by simp [results,Tryz.results103,go_sem,c0,c1,c2,c3,c4,c5]) rfl ?_;have hq:=HW.o.done HY.o HF.o;rw [C.o.1] at hq;exact hq
      ·replace HF:=zh (HF.o.trans (if_pos hq))
       refine (de rb _ l en _ HW.o.rd hq).mono ?_;rintro e w7 ⟨rfl,hr,ho⟩;replace HW:=zh (HW.o.call HY.o ho hr);clear hr ho hq;generalize l.tail=L7 at *;have e0:w7.cell? ⟨SB,0,none⟩=some (.int .i64 0):=aa HW.o.sb (j:=0) rfl;have g0:w7.frozen? ⟨SB,0,none⟩=false:=ae HW.o.sb 0;go_upto_region 37 with fail
       clear e0 g0;replace HW:=zh (HW.o.store HY.o 0 (.int .i64 7) rfl HW.o.bo HW.o.el);generalize (w7.setCell ⟨SB,0,none⟩ (.int .i64 7))=w8 at *;have b0:w8.cell? ⟨BR,0,none⟩=some (.pointer (some ⟨rb,0,none⟩)):=aa HW.o.br (j:=0) rfl;go_wp2_with fail
       clear b0;have HB:=zh (ag (Below.refl w8.heap.size w8) (.cells #[.string ⟨#[40]⟩] 9));replace HW:=zh (HW.o.below HB.o);refine (aV rb w8.heap.size cU L7 en _ HW.o.rd (aA _ _ _ _ _ _ rfl rfl)).mono ?_;rintro e w9 hp;rcases hp.cases with ⟨er,p,hm,rfl,ho⟩ | ⟨x9,L9,v,hm,rfl,hv,hr,ho⟩
       ·have HE:=zh (HF.o.trans (aD hm))
        have A:=zh (HW.o.on.trans ho);clear hp hm ho;unfold Pan;go_wp2_with fail
        exact ⟨rfl,PSays.err HE.o A.o⟩
       ·replace HF:=zh (HF.o.trans (aH hm))
        replace HW:=zh (HW.o.call HY.o ho hr);subst hv;clear hp hm ho hr HB;have b0:w9.cell? ⟨BR,0,none⟩=some (.pointer (some ⟨rb,0,none⟩)):=aa HW.o.br (j:=0) rfl;have b1:w9.cell? ⟨BD,0,none⟩=some (.int .i64 d):=aa HW.o.bd (j:=0) rfl;go_wp2_with fail
        refine (dz rb SB BR BD base d en J.o I.o E H.o F.o D.o L9 _ HW.o.rd b0 b1 HW.o.big _ _ _ _ _ _ HW.o.sb _ (by simp) HW.o.ex).mono ?_;rintro e w10 hp;rcases hp.cases with ⟨er,p,hm,rfl,ho⟩ | ⟨x10,L10,v,hm,rfl,hv,hr,ho⟩
        ·have HE:=zh (HF.o.trans (aD hm))
         have A:=zh (On.of_onS HW.o.on ho (fun i hi=>by have:=C.o;dsimp only;omega));clear hp hm ho;unfold Pan;go_wp2_with fail
         exact ⟨rfl,PSays.err HE.o A.o⟩
        ·replace HF:=zh (HF.o.trans (aH hm))
         clear b0 b1;obtain ⟨hv,v10,hs,hg⟩:=hv;subst hv;replace HW:=zh (HW.o.kid HY.o ho hr hs hg);clear hp hm ho hr hs hg;have b0:w10.cell? ⟨BR,0,none⟩=some (.pointer (some ⟨rb,0,none⟩)):=aa HW.o.br (j:=0) rfl;go_wp2_with fail
         clear b0;have HB:=zh (ag (Below.refl w10.heap.size w10) (.cells #[.string ⟨#[41]⟩] 9));replace HW:=zh (HW.o.below HB.o);refine (aV rb w10.heap.size cX L10 en _ HW.o.rd (aA _ _ _ _ _ _ rfl rfl)).mono ?_;rintro e w11 hp;rcases hp.cases with ⟨er,p,hm,rfl,ho⟩ | ⟨x11,L11,v,hm,rfl,hv,hr,ho⟩
         ·have HE:=zh (HF.o.trans (aD hm))
          have A:=zh (HW.o.on.trans ho);clear hp hm ho;unfold Pan;go_wp2_with fail
          exact ⟨rfl,PSays.err HE.o A.o⟩
         ·replace HF:=zh (HF.o.trans (aH hm))
          replace HW:=zh (HW.o.call HY.o ho hr);subst hv;clear hp hm ho hr HB;have b0:w11.cell? ⟨BR,0,none⟩=some (.pointer (some ⟨rb,0,none⟩)):=aa HW.o.br (j:=0) rfl;go_wp2_with fail
          clear b0;have HB:=zh (ag (Below.refl w11.heap.size w11) (.cells #[.string ⟨#[59]⟩] 9));replace HW:=zh (HW.o.below HB.o);refine (aV rb w11.heap.size fm L11 en _ HW.o.rd (aA _ _ _ _ _ _ rfl rfl)).mono ?_;rintro e w12 hp;rcases hp.cases with ⟨er,p,hm,rfl,ho⟩ | ⟨x12,L12,v,hm,rfl,hv,hr,ho⟩
          ·have HE:=zh (HF.o.trans (aD hm))
           have A:=zh (HW.o.on.trans ho);clear hp hm ho;unfold Pan;go_wp2_with fail
           exact ⟨rfl,PSays.err HE.o A.o⟩
          ·replace HF:=zh (HF.o.trans (aH hm))
           replace HW:=zh (HW.o.call HY.o ho hr);subst hv;clear hp hm ho hr HB;obtain ⟨sE,nE,kE,hE⟩:=HW.o.formE;subst hE;obtain ⟨e0,e1,e2,e3,e4,e5,-⟩:=css HW.o.sb;have c0:w12.cell? ⟨RES,0,none⟩=some (.int .i64 0):=aa HW.o.res (j:=0) rfl;have f0:w12.frozen? ⟨RES,0,none⟩=false:=ae HW.o.res 0;have c1:w12.cell? ⟨RES,1,none⟩=some (.string ⟨#[]⟩):=aa HW.o.res (j:=1) rfl;have f1:w12.frozen? ⟨RES,1,none⟩=false:=ae HW.o.res 1;have c2:w12.cell? ⟨RES,2,none⟩=some (.slice none 0 0):=aa HW.o.res (j:=2) rfl;have f2:w12.frozen? ⟨RES,2,none⟩=false:=ae HW.o.res 2;have c3:w12.cell? ⟨RES,3,none⟩=some (.slice none 0 0):=aa HW.o.res (j:=3) rfl;have f3:w12.frozen? ⟨RES,3,none⟩=false:=ae HW.o.res 3;have c4:w12.cell? ⟨RES,4,none⟩=some (.slice none 0 0):=aa HW.o.res (j:=4) rfl;have f4:w12.frozen? ⟨RES,4,none⟩=false:=ae HW.o.res 4;have c5:w12.cell? ⟨RES,5,none⟩=some (.int .i64 0):=aa HW.o.res (j:=5) rfl;have f5:w12.frozen? ⟨RES,5,none⟩=false:=ae HW.o.res 5;go_wp2_with fail
           refine bodyPost_ret (v:=.agg #[.int .i64 7,.string ⟨#[]⟩,.slice sE nE kE,.slice none 0 0,.slice none 0 0,.int .i64 pl]) (by simp [results,Tryz.results103,go_sem,c0,c1,c2,c3,c4,c5]) rfl ?_;have hq:=HW.o.done HY.o HF.o;rw [C.o.1] at hq;exact hq
     ·replace HF:=zh (HF.o.trans (if_pos hq))
      refine (de rb _ l en _ HW.o.rd hq).mono ?_;rintro e w6 ⟨rfl,hr,ho⟩;replace HW:=zh (HW.o.call HY.o ho hr);clear hr ho hq;generalize l.tail=L6 at *;have e0:w6.cell? ⟨SB,0,none⟩=some (.int .i64 0):=aa HW.o.sb (j:=0) rfl;have g0:w6.frozen? ⟨SB,0,none⟩=false:=ae HW.o.sb 0;go_upto_region 30 with fail
      clear e0 g0;replace HW:=zh (HW.o.store HY.o 0 (.int .i64 6) rfl HW.o.bo HW.o.el);generalize (w6.setCell ⟨SB,0,none⟩ (.int .i64 6))=w7 at *;have b0:w7.cell? ⟨BR,0,none⟩=some (.pointer (some ⟨rb,0,none⟩)):=aa HW.o.br (j:=0) rfl;go_wp2_with fail
      clear b0;have HB:=zh (ag (Below.refl w7.heap.size w7) (.cells #[.string ⟨#[40]⟩] 9));replace HW:=zh (HW.o.below HB.o);refine (aV rb w7.heap.size cU L6 en _ HW.o.rd (aA _ _ _ _ _ _ rfl rfl)).mono ?_;rintro e w8 hp;rcases hp.cases with ⟨er,p,hm,rfl,ho⟩ | ⟨x8,L8,v,hm,rfl,hv,hr,ho⟩
      ·have HE:=zh (HF.o.trans (aD hm))
       have A:=zh (HW.o.on.trans ho);clear hp hm ho;unfold Pan;go_wp2_with fail
       exact ⟨rfl,PSays.err HE.o A.o⟩
      ·replace HF:=zh (HF.o.trans (aH hm))
       replace HW:=zh (HW.o.call HY.o ho hr);subst hv;clear hp hm ho hr HB;have b0:w8.cell? ⟨BR,0,none⟩=some (.pointer (some ⟨rb,0,none⟩)):=aa HW.o.br (j:=0) rfl;have b1:w8.cell? ⟨BD,0,none⟩=some (.int .i64 d):=aa HW.o.bd (j:=0) rfl;go_wp2_with fail
       refine (dz rb SB BR BD base d en J.o I.o E H.o F.o D.o L8 _ HW.o.rd b0 b1 HW.o.big _ _ _ _ _ _ HW.o.sb _ (by simp) HW.o.ex).mono ?_;rintro e w9 hp;rcases hp.cases with ⟨er,p,hm,rfl,ho⟩ | ⟨x9,L9,v,hm,rfl,hv,hr,ho⟩
       ·have HE:=zh (HF.o.trans (aD hm))
        have A:=zh (On.of_onS HW.o.on ho (fun i hi=>by have:=C.o;dsimp only;omega));clear hp hm ho;unfold Pan;go_wp2_with fail
        exact ⟨rfl,PSays.err HE.o A.o⟩
       ·replace HF:=zh (HF.o.trans (aH hm))
        clear b0 b1;obtain ⟨hv,v9,hs,hg⟩:=hv;subst hv;replace HW:=zh (HW.o.kid HY.o ho hr hs hg);clear hp hm ho hr hs hg;have b0:w9.cell? ⟨BR,0,none⟩=some (.pointer (some ⟨rb,0,none⟩)):=aa HW.o.br (j:=0) rfl;go_wp2_with fail
        clear b0;have HB:=zh (ag (Below.refl w9.heap.size w9) (.cells #[.string ⟨#[44]⟩] 9));replace HW:=zh (HW.o.below HB.o);refine (aV rb w9.heap.size gI L9 en _ HW.o.rd (aA _ _ _ _ _ _ rfl rfl)).mono ?_;rintro e w10 hp;rcases hp.cases with ⟨er,p,hm,rfl,ho⟩ | ⟨x10,L10,v,hm,rfl,hv,hr,ho⟩
        ·have HE:=zh (HF.o.trans (aD hm))
         have A:=zh (HW.o.on.trans ho);clear hp hm ho;unfold Pan;go_wp2_with fail
         exact ⟨rfl,PSays.err HE.o A.o⟩
        ·replace HF:=zh (HF.o.trans (aH hm))
         replace HW:=zh (HW.o.call HY.o ho hr);subst hv;clear hp hm ho hr HB;have b0:w10.cell? ⟨BR,0,none⟩=some (.pointer (some ⟨rb,0,none⟩)):=aa HW.o.br (j:=0) rfl;have b1:w10.cell? ⟨BD,0,none⟩=some (.int .i64 d):=aa HW.o.bd (j:=0) rfl;go_wp2_with fail
         refine (dz rb SB BR BD base d en J.o I.o E H.o F.o D.o L10 _ HW.o.rd b0 b1 HW.o.big _ _ _ _ _ _ HW.o.sb _ (by simp) HW.o.ex).mono ?_;rintro e w11 hp;rcases hp.cases with ⟨er,p,hm,rfl,ho⟩ | ⟨x11,L11,v,hm,rfl,hv,hr,ho⟩
         ·have HE:=zh (HF.o.trans (aD hm))
          have A:=zh (On.of_onS HW.o.on ho (fun i hi=>by have:=C.o;dsimp only;omega));clear hp hm ho;unfold Pan;go_wp2_with fail
          exact ⟨rfl,PSays.err HE.o A.o⟩
         ·replace HF:=zh (HF.o.trans (aH hm))
          clear b0 b1;obtain ⟨hv,v11,hs,hg⟩:=hv;subst hv;replace HW:=zh (HW.o.kid HY.o ho hr hs hg);clear hp hm ho hr hs hg;have b0:w11.cell? ⟨BR,0,none⟩=some (.pointer (some ⟨rb,0,none⟩)):=aa HW.o.br (j:=0) rfl;go_wp2_with fail
          clear b0;have HB:=zh (ag (Below.refl w11.heap.size w11) (.cells #[.string ⟨#[41]⟩] 9));replace HW:=zh (HW.o.below HB.o);refine (aV rb w11.heap.size cX L11 en _ HW.o.rd (aA _ _ _ _ _ _ rfl rfl)).mono ?_;rintro e w12 hp;rcases hp.cases with ⟨er,p,hm,rfl,ho⟩ | ⟨x12,L12,v,hm,rfl,hv,hr,ho⟩
          ·have HE:=zh (HF.o.trans (aD hm))
           have A:=zh (HW.o.on.trans ho);clear hp hm ho;unfold Pan;go_wp2_with fail
           exact ⟨rfl,PSays.err HE.o A.o⟩
          ·replace HF:=zh (HF.o.trans (aH hm))
           replace HW:=zh (HW.o.call HY.o ho hr);subst hv;clear hp hm ho hr HB;have b0:w12.cell? ⟨BR,0,none⟩=some (.pointer (some ⟨rb,0,none⟩)):=aa HW.o.br (j:=0) rfl;go_wp2_with fail
           clear b0;have HB:=zh (ag (Below.refl w12.heap.size w12) (.cells #[.string ⟨#[59]⟩] 9));replace HW:=zh (HW.o.below HB.o);refine (aV rb w12.heap.size fm L12 en _ HW.o.rd (aA _ _ _ _ _ _ rfl rfl)).mono ?_;rintro e w13 hp;rcases hp.cases with ⟨er,p,hm,rfl,ho⟩ | ⟨x13,L13,v,hm,rfl,hv,hr,ho⟩
           ·have HE:=zh (HF.o.trans (aD hm))
            have A:=zh (HW.o.on.trans ho);clear hp hm ho;unfold Pan;go_wp2_with fail
            exact ⟨rfl,PSays.err HE.o A.o⟩
           ·replace HF:=zh (HF.o.trans (aH hm))
            replace HW:=zh (HW.o.call HY.o ho hr);subst hv;clear hp hm ho hr HB;obtain ⟨sE,nE,kE,hE⟩:=HW.o.formE;subst hE;obtain ⟨e0,e1,e2,e3,e4,e5,-⟩:=css HW.o.sb;have c0:w13.cell? ⟨RES,0,none⟩=some (.int .i64 0):=aa HW.o.res (j:=0) rfl;have f0:w13.frozen? ⟨RES,0,none⟩=false:=ae HW.o.res 0;have c1:w13.cell? ⟨RES,1,none⟩=some (.string ⟨#[]⟩):=aa HW.o.res (j:=1) rfl;have f1:w13.frozen? ⟨RES,1,none⟩=false:=ae HW.o.res 1;have c2:w13.cell? ⟨RES,2,none⟩=some (.slice none 0 0):=aa HW.o.res (j:=2) rfl;have f2:w13.frozen? ⟨RES,2,none⟩=false:=ae HW.o.res 2;have c3:w13.cell? ⟨RES,3,none⟩=some (.slice none 0 0):=aa HW.o.res (j:=3) rfl;have f3:w13.frozen? ⟨RES,3,none⟩=false:=ae HW.o.res 3;have c4:w13.cell? ⟨RES,4,none⟩=some (.slice none 0 0):=aa HW.o.res (j:=4) rfl;have f4:w13.frozen? ⟨RES,4,none⟩=false:=ae HW.o.res 4;have c5:w13.cell? ⟨RES,5,none⟩=some (.int .i64 0):=aa HW.o.res (j:=5) rfl;have f5:w13.frozen? ⟨RES,5,none⟩=false:=ae HW.o.res 5;go_wp2_with fail
            refine bodyPost_ret (v:=.agg #[.int .i64 6,.string ⟨#[]⟩,.slice sE nE kE,.slice none 0 0,.slice none 0 0,.int .i64 pl]) (by simp [results,Tryz.results103,go_sem,c0,c1,c2,c3,c4,c5]) rfl ?_;have hq:=HW.o.done HY.o HF.o;rw [C.o.1] at hq;exact hq
    ·replace HF:=zh (HF.o.trans (if_pos hq))
     refine (de rb _ l en _ HW.o.rd hq).mono ?_;rintro e w5 ⟨rfl,hr,ho⟩;replace HW:=zh (HW.o.call HY.o ho hr);clear hr ho hq;generalize l.tail=L5 at *;have e0:w5.cell? ⟨SB,0,none⟩=some (.int .i64 0):=aa HW.o.sb (j:=0) rfl;have g0:w5.frozen? ⟨SB,0,none⟩=false:=ae HW.o.sb 0;go_upto_region 26 with fail
     clear e0 g0;replace HW:=zh (HW.o.store HY.o 0 (.int .i64 5) rfl HW.o.bo HW.o.el);generalize (w5.setCell ⟨SB,0,none⟩ (.int .i64 5))=w6 at *;have b0:w6.cell? ⟨BR,0,none⟩=some (.pointer (some ⟨rb,0,none⟩)):=aa HW.o.br (j:=0) rfl;go_wp2_with fail
     clear b0
     cases hq:atS L5 0 fm
     ·replace HF:=zh (HF.o.trans (if_neg (by rw [hq];decide)))
      have G:=zh (fu rb 0 fm L5 en _ HW.o.rd);rw [hq] at G;refine G.o.mono ?_;rintro e we ⟨rfl,rfl⟩;clear hq G;have b0:w6.cell? ⟨BR,0,none⟩=some (.pointer (some ⟨rb,0,none⟩)):=aa HW.o.br (j:=0) rfl;have b1:w6.cell? ⟨BD,0,none⟩=some (.int .i64 d):=aa HW.o.bd (j:=0) rfl;go_wp2_with fail
      refine (dz rb SB BR BD base d en J.o I.o E H.o F.o D.o L5 _ HW.o.rd b0 b1 HW.o.big _ _ _ _ _ _ HW.o.sb _ (by simp) HW.o.ex).mono ?_;rintro e w7 hp;rcases hp.cases with ⟨er,p,hm,rfl,ho⟩ | ⟨x7,L7,v,hm,rfl,hv,hr,ho⟩
      ·have HE:=zh (HF.o.trans (aD hm))
       have A:=zh (On.of_onS HW.o.on ho (fun i hi=>by have:=C.o;dsimp only;omega));clear hp hm ho;unfold Pan;go_wp2_with fail
       exact ⟨rfl,PSays.err HE.o A.o⟩
      ·replace HF:=zh (HF.o.trans (aH hm))
       clear b0 b1;obtain ⟨hv,v7,hs,hg⟩:=hv;subst hv;replace HW:=zh (HW.o.kid HY.o ho hr hs hg);clear hp hm ho hr hs hg;have b0:w7.cell? ⟨BR,0,none⟩=some (.pointer (some ⟨rb,0,none⟩)):=aa HW.o.br (j:=0) rfl;go_wp2_with fail
       clear b0;have HB:=zh (ag (Below.refl w7.heap.size w7) (.cells #[.string ⟨#[59]⟩] 9));replace HW:=zh (HW.o.below HB.o);refine (aV rb w7.heap.size fm L7 en _ HW.o.rd (aA _ _ _ _ _ _ rfl rfl)).mono ?_;rintro e w8 hp;rcases hp.cases with ⟨er,p,hm,rfl,ho⟩ | ⟨x8,L8,v,hm,rfl,hv,hr,ho⟩
       ·have HE:=zh (HF.o.trans (aD hm))
        have A:=zh (HW.o.on.trans ho);clear hp hm ho;unfold Pan;go_wp2_with fail
        exact ⟨rfl,PSays.err HE.o A.o⟩
       ·replace HF:=zh (HF.o.trans (aH hm))
        replace HW:=zh (HW.o.call HY.o ho hr);subst hv;clear hp hm ho hr HB;obtain ⟨sE,nE,kE,hE⟩:=HW.o.formE;subst hE;obtain ⟨e0,e1,e2,e3,e4,e5,-⟩:=css HW.o.sb;have c0:w8.cell? ⟨RES,0,none⟩=some (.int .i64 0):=aa HW.o.res (j:=0) rfl;have f0:w8.frozen? ⟨RES,0,none⟩=false:=ae HW.o.res 0;have c1:w8.cell? ⟨RES,1,none⟩=some (.string ⟨#[]⟩):=aa HW.o.res (j:=1) rfl;have f1:w8.frozen? ⟨RES,1,none⟩=false:=ae HW.o.res 1;have c2:w8.cell? ⟨RES,2,none⟩=some (.slice none 0 0):=aa HW.o.res (j:=2) rfl;have f2:w8.frozen? ⟨RES,2,none⟩=false:=ae HW.o.res 2;have c3:w8.cell? ⟨RES,3,none⟩=some (.slice none 0 0):=aa HW.o.res (j:=3) rfl;have f3:w8.frozen? ⟨RES,3,none⟩=false:=ae HW.o.res 3;have c4:w8.cell? ⟨RES,4,none⟩=some (.slice none 0 0):=aa HW.o.res (j:=4) rfl;have f4:w8.frozen? ⟨RES,4,none⟩=false:=ae HW.o.res 4;have c5:w8.cell? ⟨RES,5,none⟩=some (.int .i64 0):=aa HW.o.res (j:=5) rfl;have f5:w8.frozen? ⟨RES,5,none⟩=false:=ae HW.o.res 5;go_wp2_with fail
        refine bodyPost_ret (v:=.agg #[.int .i64 5,.string ⟨#[]⟩,.slice sE nE kE,.slice none 0 0,.slice none 0 0,.int .i64 pl]) (by simp [results,Tryz.results103,go_sem,c0,c1,c2,c3,c4,c5]) rfl ?_;have hq:=HW.o.done HY.o HF.o;rw [C.o.1] at hq;exact hq
     ·replace HF:=zh (HF.o.trans (if_pos hq))
      have G:=zh (fu rb 0 fm L5 en _ HW.o.rd);rw [hq] at G;refine G.o.mono ?_;rintro e we ⟨rfl,rfl⟩;clear hq G;have b0:w6.cell? ⟨BR,0,none⟩=some (.pointer (some ⟨rb,0,none⟩)):=aa HW.o.br (j:=0) rfl;go_wp2_with fail
      clear b0;have HB:=zh (ag (Below.refl w6.heap.size w6) (.cells #[.string ⟨#[59]⟩] 9));replace HW:=zh (HW.o.below HB.o);refine (aV rb w6.heap.size fm L5 en _ HW.o.rd (aA _ _ _ _ _ _ rfl rfl)).mono ?_;rintro e w7 hp;rcases hp.cases with ⟨er,p,hm,rfl,ho⟩ | ⟨x7,L7,v,hm,rfl,hv,hr,ho⟩
      ·have HE:=zh (HF.o.trans (aD hm))
       have A:=zh (HW.o.on.trans ho);clear hp hm ho;unfold Pan;go_wp2_with fail
       exact ⟨rfl,PSays.err HE.o A.o⟩
      ·replace HF:=zh (HF.o.trans (aH hm))
       replace HW:=zh (HW.o.call HY.o ho hr);subst hv;clear hp hm ho hr HB;obtain ⟨e0,e1,e2,e3,e4,e5,-⟩:=css HW.o.sb;have c0:w7.cell? ⟨RES,0,none⟩=some (.int .i64 0):=aa HW.o.res (j:=0) rfl;have f0:w7.frozen? ⟨RES,0,none⟩=false:=ae HW.o.res 0;have c1:w7.cell? ⟨RES,1,none⟩=some (.string ⟨#[]⟩):=aa HW.o.res (j:=1) rfl;have f1:w7.frozen? ⟨RES,1,none⟩=false:=ae HW.o.res 1;have c2:w7.cell? ⟨RES,2,none⟩=some (.slice none 0 0):=aa HW.o.res (j:=2) rfl;have f2:w7.frozen? ⟨RES,2,none⟩=false:=ae HW.o.res 2;have c3:w7.cell? ⟨RES,3,none⟩=some (.slice none 0 0):=aa HW.o.res (j:=3) rfl;have f3:w7.frozen? ⟨RES,3,none⟩=false:=ae HW.o.res 3;have c4:w7.cell? ⟨RES,4,none⟩=some (.slice none 0 0):=aa HW.o.res (j:=4) rfl;have f4:w7.frozen? ⟨RES,4,none⟩=false:=ae HW.o.res 4;have c5:w7.cell? ⟨RES,5,none⟩=some (.int .i64 0):=aa HW.o.res (j:=5) rfl;have f5:w7.frozen? ⟨RES,5,none⟩=false:=ae HW.o.res 5;go_wp2_with fail
       refine bodyPost_ret (v:=.agg #[.int .i64 5,.string ⟨#[]⟩,.slice none 0 0,.slice none 0 0,.slice none 0 0,.int .i64 pl]) (by simp [results,Tryz.results103,go_sem,c0,c1,c2,c3,c4,c5]) rfl ?_;have hq:=HW.o.done HY.o HF.o;rw [C.o.1] at hq;exact hq
   ·replace HF:=zh (HF.o.trans (if_pos hq))
    refine (de rb _ l en _ HW.o.rd hq).mono ?_;rintro e w4 ⟨rfl,hr,ho⟩;replace HW:=zh (HW.o.call HY.o ho hr);clear hr ho hq;generalize l.tail=L4 at *;have b0:w4.cell? ⟨BR,0,none⟩=some (.pointer (some ⟨rb,0,none⟩)):=aa HW.o.br (j:=0) rfl;go_wp2_with fail
    clear b0;refine (gV rb L4 en _ HW.o.rd).mono ?_;rintro e w5 hp;rcases hp.cases with ⟨er,p,hm,rfl,ho⟩ | ⟨x5,L5,v,hm,rfl,hv,hr,ho⟩
    ·have HE:=zh (HF.o.trans (aD hm))
     have A:=zh (HW.o.on.trans ho);clear hp hm ho;unfold Pan;go_wp2_with fail
     exact ⟨rfl,PSays.err HE.o A.o⟩
    ·replace HF:=zh (HF.o.trans (aH hm))
     replace HW:=zh (HW.o.call HY.o ho hr);subst hv;clear hp hm ho hr;have e0:w5.cell? ⟨SB,0,none⟩=some (.int .i64 0):=aa HW.o.sb (j:=0) rfl;have g0:w5.frozen? ⟨SB,0,none⟩=false:=ae HW.o.sb 0;have e1:w5.cell? ⟨SB,1,none⟩=some (.string ⟨#[]⟩):=aa HW.o.sb (j:=1) rfl;have g1:w5.frozen? ⟨SB,1,none⟩=false:=ae HW.o.sb 1;go_upto_region 18 with fail
     clear e0 g0 e1 g1;replace HW:=zh (HW.o.store HY.o 0 (.int .i64 4) rfl HW.o.bo HW.o.el);replace HW:=zh (HW.o.store HY.o 1 (.string x5) rfl HW.o.bo HW.o.el);generalize ((w5.setCell ⟨SB,0,none⟩ (.int .i64 4)).setCell ⟨SB,1,none⟩ (.string x5))=w6 at *;have b0:w6.cell? ⟨BR,0,none⟩=some (.pointer (some ⟨rb,0,none⟩)):=aa HW.o.br (j:=0) rfl;go_wp2_with fail
     clear b0;have HB:=zh (ag (Below.refl w6.heap.size w6) (.cells #[.string ⟨#[61]⟩] 9));replace HW:=zh (HW.o.below HB.o);refine (aV rb w6.heap.size sEq L5 en _ HW.o.rd (aA _ _ _ _ _ _ rfl rfl)).mono ?_;rintro e w7 hp;rcases hp.cases with ⟨er,p,hm,rfl,ho⟩ | ⟨x7,L7,v,hm,rfl,hv,hr,ho⟩
     ·have HE:=zh (HF.o.trans (aD hm))
      have A:=zh (HW.o.on.trans ho);clear hp hm ho;unfold Pan;go_wp2_with fail
      exact ⟨rfl,PSays.err HE.o A.o⟩
     ·replace HF:=zh (HF.o.trans (aH hm))
      replace HW:=zh (HW.o.call HY.o ho hr);subst hv;clear hp hm ho hr HB;have b0:w7.cell? ⟨BR,0,none⟩=some (.pointer (some ⟨rb,0,none⟩)):=aa HW.o.br (j:=0) rfl;have b1:w7.cell? ⟨BD,0,none⟩=some (.int .i64 d):=aa HW.o.bd (j:=0) rfl;go_wp2_with fail
      refine (dz rb SB BR BD base d en J.o I.o E H.o F.o D.o L7 _ HW.o.rd b0 b1 HW.o.big _ _ _ _ _ _ HW.o.sb _ (by simp) HW.o.ex).mono ?_;rintro e w8 hp;rcases hp.cases with ⟨er,p,hm,rfl,ho⟩ | ⟨x8,L8,v,hm,rfl,hv,hr,ho⟩
      ·have HE:=zh (HF.o.trans (aD hm))
       have A:=zh (On.of_onS HW.o.on ho (fun i hi=>by have:=C.o;dsimp only;omega));clear hp hm ho;unfold Pan;go_wp2_with fail
       exact ⟨rfl,PSays.err HE.o A.o⟩
      ·replace HF:=zh (HF.o.trans (aH hm))
       clear b0 b1;obtain ⟨hv,v8,hs,hg⟩:=hv;subst hv;replace HW:=zh (HW.o.kid HY.o ho hr hs hg);clear hp hm ho hr hs hg;have b0:w8.cell? ⟨BR,0,none⟩=some (.pointer (some ⟨rb,0,none⟩)):=aa HW.o.br (j:=0) rfl;go_wp2_with fail
       clear b0;have HB:=zh (ag (Below.refl w8.heap.size w8) (.cells #[.string ⟨#[116,111]⟩] 9));replace HW:=zh (HW.o.below HB.o);refine (aV rb w8.heap.size sTo L8 en _ HW.o.rd (aA _ _ _ _ _ _ rfl rfl)).mono ?_;rintro e w9 hp;rcases hp.cases with ⟨er,p,hm,rfl,ho⟩ | ⟨x9,L9,v,hm,rfl,hv,hr,ho⟩
       ·have HE:=zh (HF.o.trans (aD hm))
        have A:=zh (HW.o.on.trans ho);clear hp hm ho;unfold Pan;go_wp2_with fail
        exact ⟨rfl,PSays.err HE.o A.o⟩
       ·replace HF:=zh (HF.o.trans (aH hm))
        replace HW:=zh (HW.o.call HY.o ho hr);subst hv;clear hp hm ho hr HB;have b0:w9.cell? ⟨BR,0,none⟩=some (.pointer (some ⟨rb,0,none⟩)):=aa HW.o.br (j:=0) rfl;have b1:w9.cell? ⟨BD,0,none⟩=some (.int .i64 d):=aa HW.o.bd (j:=0) rfl;go_wp2_with fail
        refine (dz rb SB BR BD base d en J.o I.o E H.o F.o D.o L9 _ HW.o.rd b0 b1 HW.o.big _ _ _ _ _ _ HW.o.sb _ (by simp) HW.o.ex).mono ?_;rintro e w10 hp;rcases hp.cases with ⟨er,p,hm,rfl,ho⟩ | ⟨x10,L10,v,hm,rfl,hv,hr,ho⟩
        ·have HE:=zh (HF.o.trans (aD hm))
         have A:=zh (On.of_onS HW.o.on ho (fun i hi=>by have:=C.o;dsimp only;omega));clear hp hm ho;unfold Pan;go_wp2_with fail
         exact ⟨rfl,PSays.err HE.o A.o⟩
        ·replace HF:=zh (HF.o.trans (aH hm))
         clear b0 b1;obtain ⟨hv,v10,hs,hg⟩:=hv;subst hv;replace HW:=zh (HW.o.kid HY.o ho hr hs hg);clear hp hm ho hr hs hg;have b0:w10.cell? ⟨BR,0,none⟩=some (.pointer (some ⟨rb,0,none⟩)):=aa HW.o.br (j:=0) rfl;have b1:w10.cell? ⟨BD,0,none⟩=some (.int .i64 d):=aa HW.o.bd (j:=0) rfl;go_wp2_with fail
         clear b0 b1;have L:=zh HW.o.big;refine (c.o L10 _ HW.o.rd).mono ?_;rintro e w11 hp;rcases hp.cases with ⟨er,p,hm,rfl,ho⟩ | ⟨x11,L11,v,hm,rfl,hv,hr,ho⟩
         ·have HE:=zh (HF.o.trans (aD hm))
          have A:=zh (HW.o.on.trans ho);clear hp hm ho;unfold Pan;go_wp2_with fail
          exact ⟨rfl,PSays.err HE.o A.o⟩
         ·replace HF:=zh (HF.o.trans (aH hm))
          replace HW:=zh (HW.o.call HY.o ho hr);obtain ⟨s11,n11,k11,rfl⟩:=RepSts.form hv;have Q:=zh (RepSts.mono (S':=bM base) hv fun b (hb:_≤b)=>Nat.le_trans L.o hb);clear hp hm ho hr hv L;have e3:w11.cell? ⟨SB,3,none⟩=some (.slice none 0 0):=aa HW.o.sb (j:=3) rfl;have g3:w11.frozen? ⟨SB,3,none⟩=false:=ae HW.o.sb 3;go_upto_region 23 with fail
          clear e3 g3;replace HW:=zh (HW.o.store HY.o 3 (.slice s11 n11 k11) rfl Q.o HW.o.el);generalize (w11.setCell ⟨SB,3,none⟩ (.slice s11 n11 k11))=w12 at *;obtain ⟨sE,nE,kE,hE⟩:=HW.o.formE;subst hE;obtain ⟨e0,e1,e2,e3,e4,e5,-⟩:=css HW.o.sb;have c0:w12.cell? ⟨RES,0,none⟩=some (.int .i64 0):=aa HW.o.res (j:=0) rfl;have f0:w12.frozen? ⟨RES,0,none⟩=false:=ae HW.o.res 0;have c1:w12.cell? ⟨RES,1,none⟩=some (.string ⟨#[]⟩):=aa HW.o.res (j:=1) rfl;have f1:w12.frozen? ⟨RES,1,none⟩=false:=ae HW.o.res 1;have c2:w12.cell? ⟨RES,2,none⟩=some (.slice none 0 0):=aa HW.o.res (j:=2) rfl;have f2:w12.frozen? ⟨RES,2,none⟩=false:=ae HW.o.res 2;have c3:w12.cell? ⟨RES,3,none⟩=some (.slice none 0 0):=aa HW.o.res (j:=3) rfl;have f3:w12.frozen? ⟨RES,3,none⟩=false:=ae HW.o.res 3;have c4:w12.cell? ⟨RES,4,none⟩=some (.slice none 0 0):=aa HW.o.res (j:=4) rfl;have f4:w12.frozen? ⟨RES,4,none⟩=false:=ae HW.o.res 4;have c5:w12.cell? ⟨RES,5,none⟩=some (.int .i64 0):=aa HW.o.res (j:=5) rfl;have f5:w12.frozen? ⟨RES,5,none⟩=false:=ae HW.o.res 5;go_wp2_with fail
          refine bodyPost_ret (v:=.agg #[.int .i64 4,.string x5,.slice sE nE kE,.slice s11 n11 k11,.slice none 0 0,.int .i64 pl]) (by simp [results,Tryz.results103,go_sem,c0,c1,c2,c3,c4,c5]) rfl ?_;have hq:=HW.o.done HY.o HF.o;rw [C.o.1] at hq;exact hq
  ·replace HF:=zh (HF.o.trans (if_pos hq))
   refine (de rb _ l en _ HW.o.rd hq).mono ?_;rintro e w3 ⟨rfl,hr,ho⟩;replace HW:=zh (HW.o.call HY.o ho hr);clear hr ho hq;generalize l.tail=L3 at *;have e0:w3.cell? ⟨SB,0,none⟩=some (.int .i64 0):=aa HW.o.sb (j:=0) rfl;have g0:w3.frozen? ⟨SB,0,none⟩=false:=ae HW.o.sb 0;go_upto_region 11 with fail
   clear e0 g0;replace HW:=zh (HW.o.store HY.o 0 (.int .i64 3) rfl HW.o.bo HW.o.el);generalize (w3.setCell ⟨SB,0,none⟩ (.int .i64 3))=w4 at *;have b0:w4.cell? ⟨BR,0,none⟩=some (.pointer (some ⟨rb,0,none⟩)):=aa HW.o.br (j:=0) rfl;have b1:w4.cell? ⟨BD,0,none⟩=some (.int .i64 d):=aa HW.o.bd (j:=0) rfl;go_wp2_with fail
   refine (dz rb SB BR BD base d en J.o I.o E H.o F.o D.o L3 _ HW.o.rd b0 b1 HW.o.big _ _ _ _ _ _ HW.o.sb _ (by simp) HW.o.ex).mono ?_;rintro e w5 hp;rcases hp.cases with ⟨er,p,hm,rfl,ho⟩ | ⟨x5,L5,v,hm,rfl,hv,hr,ho⟩
   ·have HE:=zh (HF.o.trans (aD hm))
    have A:=zh (On.of_onS HW.o.on ho (fun i hi=>by have:=C.o;dsimp only;omega));clear hp hm ho;unfold Pan;go_wp2_with fail
    exact ⟨rfl,PSays.err HE.o A.o⟩
   ·replace HF:=zh (HF.o.trans (aH hm))
    clear b0 b1;obtain ⟨hv,v5,hs,hg⟩:=hv;subst hv;replace HW:=zh (HW.o.kid HY.o ho hr hs hg);clear hp hm ho hr hs hg;have b0:w5.cell? ⟨BR,0,none⟩=some (.pointer (some ⟨rb,0,none⟩)):=aa HW.o.br (j:=0) rfl;have b1:w5.cell? ⟨BD,0,none⟩=some (.int .i64 d):=aa HW.o.bd (j:=0) rfl;go_wp2_with fail
    clear b0 b1;have L:=zh HW.o.big;refine (c.o L5 _ HW.o.rd).mono ?_;rintro e w6 hp;rcases hp.cases with ⟨er,p,hm,rfl,ho⟩ | ⟨x6,L6,v,hm,rfl,hv,hr,ho⟩
    ·have HE:=zh (HF.o.trans (aD hm))
     have A:=zh (HW.o.on.trans ho);clear hp hm ho;unfold Pan;go_wp2_with fail
     exact ⟨rfl,PSays.err HE.o A.o⟩
    ·replace HF:=zh (HF.o.trans (aH hm))
     replace HW:=zh (HW.o.call HY.o ho hr);obtain ⟨s6,n6,k6,rfl⟩:=RepSts.form hv;have Q:=zh (RepSts.mono (S':=bM base) hv fun b (hb:_≤b)=>Nat.le_trans L.o hb);clear hp hm ho hr hv L;have e3:w6.cell? ⟨SB,3,none⟩=some (.slice none 0 0):=aa HW.o.sb (j:=3) rfl;have g3:w6.frozen? ⟨SB,3,none⟩=false:=ae HW.o.sb 3;go_upto_region 13 with fail
     clear e3 g3;replace HW:=zh (HW.o.store HY.o 3 (.slice s6 n6 k6) rfl Q.o HW.o.el);generalize (w6.setCell ⟨SB,3,none⟩ (.slice s6 n6 k6))=w7 at *;have b0:w7.cell? ⟨BR,0,none⟩=some (.pointer (some ⟨rb,0,none⟩)):=aa HW.o.br (j:=0) rfl;go_wp2_with fail
     clear b0
     cases hq:atS L6 0 BI
     ·replace HF:=zh (HF.o.trans (if_neg (by rw [hq];decide)))
      refine (cV rb _ L6 en _ HW.o.rd hq).mono ?_;rintro e w8 ⟨rfl,hr,ho⟩;replace HW:=zh (HW.o.call HY.o ho hr);clear hr ho hq;obtain ⟨sE,nE,kE,hE⟩:=HW.o.formE;subst hE;obtain ⟨e0,e1,e2,e3,e4,e5,-⟩:=css HW.o.sb;have c0:w8.cell? ⟨RES,0,none⟩=some (.int .i64 0):=aa HW.o.res (j:=0) rfl;have f0:w8.frozen? ⟨RES,0,none⟩=false:=ae HW.o.res 0;have c1:w8.cell? ⟨RES,1,none⟩=some (.string ⟨#[]⟩):=aa HW.o.res (j:=1) rfl;have f1:w8.frozen? ⟨RES,1,none⟩=false:=ae HW.o.res 1;have c2:w8.cell? ⟨RES,2,none⟩=some (.slice none 0 0):=aa HW.o.res (j:=2) rfl;have f2:w8.frozen? ⟨RES,2,none⟩=false:=ae HW.o.res 2;have c3:w8.cell? ⟨RES,3,none⟩=some (.slice none 0 0):=aa HW.o.res (j:=3) rfl;have f3:w8.frozen? ⟨RES,3,none⟩=false:=ae HW.o.res 3;have c4:w8.cell? ⟨RES,4,none⟩=some (.slice none 0 0):=aa HW.o.res (j:=4) rfl;have f4:w8.frozen? ⟨RES,4,none⟩=false:=ae HW.o.res 4;have c5:w8.cell? ⟨RES,5,none⟩=some (.int .i64 0):=aa HW.o.res (j:=5) rfl;have f5:w8.frozen? ⟨RES,5,none⟩=false:=ae HW.o.res 5;go_wp2_with fail
      refine bodyPost_ret (v:=.agg #[.int .i64 3,.string ⟨#[]⟩,.slice sE nE kE,.slice s6 n6 k6,.slice none 0 0,.int .i64 pl]) (by simp [results,Tryz.results103,go_sem,c0,c1,c2,c3,c4,c5]) rfl ?_;have hq:=HW.o.done HY.o HF.o;rw [C.o.1] at hq;exact hq
     ·replace HF:=zh (HF.o.trans (if_pos hq))
      refine (de rb _ L6 en _ HW.o.rd hq).mono ?_;rintro e w8 ⟨rfl,hr,ho⟩;replace HW:=zh (HW.o.call HY.o ho hr);clear hr ho hq;generalize L6.tail=L8 at *;have b0:w8.cell? ⟨BR,0,none⟩=some (.pointer (some ⟨rb,0,none⟩)):=aa HW.o.br (j:=0) rfl;have b1:w8.cell? ⟨BD,0,none⟩=some (.int .i64 d):=aa HW.o.bd (j:=0) rfl;go_wp2_with fail
      clear b0 b1;have L:=zh HW.o.big;refine (c.o L8 _ HW.o.rd).mono ?_;rintro e w9 hp;rcases hp.cases with ⟨er,p,hm,rfl,ho⟩ | ⟨x9,L9,v,hm,rfl,hv,hr,ho⟩
      ·have HE:=zh (HF.o.trans (aD hm))
       have A:=zh (HW.o.on.trans ho);clear hp hm ho;unfold Pan;go_wp2_with fail
       exact ⟨rfl,PSays.err HE.o A.o⟩
      ·replace HF:=zh (HF.o.trans (aH hm))
       replace HW:=zh (HW.o.call HY.o ho hr);obtain ⟨s9,n9,k9,rfl⟩:=RepSts.form hv;have Q:=zh (RepSts.mono (S':=bM base) hv fun b (hb:_≤b)=>Nat.le_trans L.o hb);clear hp hm ho hr hv L;have e4:w9.cell? ⟨SB,4,none⟩=some (.slice none 0 0):=aa HW.o.sb (j:=4) rfl;have g4:w9.frozen? ⟨SB,4,none⟩=false:=ae HW.o.sb 4;go_upto_region 15 with fail
       clear e4 g4;replace HW:=zh (HW.o.store HY.o 4 (.slice s9 n9 k9) rfl HW.o.bo Q.o);generalize (w9.setCell ⟨SB,4,none⟩ (.slice s9 n9 k9))=w10 at *;obtain ⟨sE,nE,kE,hE⟩:=HW.o.formE;subst hE;obtain ⟨e0,e1,e2,e3,e4,e5,-⟩:=css HW.o.sb;have c0:w10.cell? ⟨RES,0,none⟩=some (.int .i64 0):=aa HW.o.res (j:=0) rfl;have f0:w10.frozen? ⟨RES,0,none⟩=false:=ae HW.o.res 0;have c1:w10.cell? ⟨RES,1,none⟩=some (.string ⟨#[]⟩):=aa HW.o.res (j:=1) rfl;have f1:w10.frozen? ⟨RES,1,none⟩=false:=ae HW.o.res 1;have c2:w10.cell? ⟨RES,2,none⟩=some (.slice none 0 0):=aa HW.o.res (j:=2) rfl;have f2:w10.frozen? ⟨RES,2,none⟩=false:=ae HW.o.res 2;have c3:w10.cell? ⟨RES,3,none⟩=some (.slice none 0 0):=aa HW.o.res (j:=3) rfl;have f3:w10.frozen? ⟨RES,3,none⟩=false:=ae HW.o.res 3;have c4:w10.cell? ⟨RES,4,none⟩=some (.slice none 0 0):=aa HW.o.res (j:=4) rfl;have f4:w10.frozen? ⟨RES,4,none⟩=false:=ae HW.o.res 4;have c5:w10.cell? ⟨RES,5,none⟩=some (.int .i64 0):=aa HW.o.res (j:=5) rfl;have f5:w10.frozen? ⟨RES,5,none⟩=false:=ae HW.o.res 5;go_wp2_with fail
       refine bodyPost_ret (v:=.agg #[.int .i64 3,.string ⟨#[]⟩,.slice sE nE kE,.slice s6 n6 k6,.slice s9 n9 k9,.int .i64 pl]) (by simp [results,Tryz.results103,go_sem,c0,c1,c2,c3,c4,c5]) rfl ?_;have hq:=HW.o.done HY.o HF.o;rw [C.o.1] at hq;exact hq
 ·replace HF:=zh (HF.o.trans (if_pos hq))
  refine (de rb _ l en _ HW.o.rd hq).mono ?_;rintro e w2 ⟨rfl,hr,ho⟩;replace HW:=zh (HW.o.call HY.o ho hr);clear hr ho hq;generalize l.tail=L2 at *;have b0:w2.cell? ⟨BR,0,none⟩=some (.pointer (some ⟨rb,0,none⟩)):=aa HW.o.br (j:=0) rfl;go_wp2_with fail
  clear b0;refine (gV rb L2 en _ HW.o.rd).mono ?_;rintro e w3 hp;rcases hp.cases with ⟨er,p,hm,rfl,ho⟩ | ⟨x3,L3,v,hm,rfl,hv,hr,ho⟩
  ·have HE:=zh (HF.o.trans (aD hm))
   have A:=zh (HW.o.on.trans ho);clear hp hm ho;unfold Pan;go_wp2_with fail
   exact ⟨rfl,PSays.err HE.o A.o⟩
  ·replace HF:=zh (HF.o.trans (aH hm))
   replace HW:=zh (HW.o.call HY.o ho hr);subst hv;clear hp hm ho hr;have e0:w3.cell? ⟨SB,0,none⟩=some (.int .i64 0):=aa HW.o.sb (j:=0) rfl;have g0:w3.frozen? ⟨SB,0,none⟩=false:=ae HW.o.sb 0;have e1:w3.cell? ⟨SB,1,none⟩=some (.string ⟨#[]⟩):=aa HW.o.sb (j:=1) rfl;have g1:w3.frozen? ⟨SB,1,none⟩=false:=ae HW.o.sb 1;go_upto_region 7 with fail
   clear e0 g0 e1 g1;replace HW:=zh (HW.o.store HY.o 0 (.int .i64 1) rfl HW.o.bo HW.o.el);replace HW:=zh (HW.o.store HY.o 1 (.string x3) rfl HW.o.bo HW.o.el);generalize ((w3.setCell ⟨SB,0,none⟩ (.int .i64 1)).setCell ⟨SB,1,none⟩ (.string x3))=w4 at *;have b0:w4.cell? ⟨BR,0,none⟩=some (.pointer (some ⟨rb,0,none⟩)):=aa HW.o.br (j:=0) rfl;go_wp2_with fail
   clear b0;have HB:=zh (ag (Below.refl w4.heap.size w4) (.cells #[.string ⟨#[61]⟩] 9));replace HW:=zh (HW.o.below HB.o);refine (aV rb w4.heap.size sEq L3 en _ HW.o.rd (aA _ _ _ _ _ _ rfl rfl)).mono ?_;rintro e w5 hp;rcases hp.cases with ⟨er,p,hm,rfl,ho⟩ | ⟨x5,L5,v,hm,rfl,hv,hr,ho⟩
   ·have HE:=zh (HF.o.trans (aD hm))
    have A:=zh (HW.o.on.trans ho);clear hp hm ho;unfold Pan;go_wp2_with fail
    exact ⟨rfl,PSays.err HE.o A.o⟩
   ·replace HF:=zh (HF.o.trans (aH hm))
    replace HW:=zh (HW.o.call HY.o ho hr);subst hv;clear hp hm ho hr HB;have b0:w5.cell? ⟨BR,0,none⟩=some (.pointer (some ⟨rb,0,none⟩)):=aa HW.o.br (j:=0) rfl;have b1:w5.cell? ⟨BD,0,none⟩=some (.int .i64 d):=aa HW.o.bd (j:=0) rfl;go_wp2_with fail
    refine (dz rb SB BR BD base d en J.o I.o E H.o F.o D.o L5 _ HW.o.rd b0 b1 HW.o.big _ _ _ _ _ _ HW.o.sb _ (by simp) HW.o.ex).mono ?_;rintro e w6 hp;rcases hp.cases with ⟨er,p,hm,rfl,ho⟩ | ⟨x6,L6,v,hm,rfl,hv,hr,ho⟩
    ·have HE:=zh (HF.o.trans (aD hm))
     have A:=zh (On.of_onS HW.o.on ho (fun i hi=>by have:=C.o;dsimp only;omega));clear hp hm ho;unfold Pan;go_wp2_with fail
     exact ⟨rfl,PSays.err HE.o A.o⟩
    ·replace HF:=zh (HF.o.trans (aH hm))
     clear b0 b1;obtain ⟨hv,v6,hs,hg⟩:=hv;subst hv;replace HW:=zh (HW.o.kid HY.o ho hr hs hg);clear hp hm ho hr hs hg;have b0:w6.cell? ⟨BR,0,none⟩=some (.pointer (some ⟨rb,0,none⟩)):=aa HW.o.br (j:=0) rfl;go_wp2_with fail
     clear b0;have HB:=zh (ag (Below.refl w6.heap.size w6) (.cells #[.string ⟨#[59]⟩] 9));replace HW:=zh (HW.o.below HB.o);refine (aV rb w6.heap.size fm L6 en _ HW.o.rd (aA _ _ _ _ _ _ rfl rfl)).mono ?_;rintro e w7 hp;rcases hp.cases with ⟨er,p,hm,rfl,ho⟩ | ⟨x7,L7,v,hm,rfl,hv,hr,ho⟩
     ·have HE:=zh (HF.o.trans (aD hm))
      have A:=zh (HW.o.on.trans ho);clear hp hm ho;unfold Pan;go_wp2_with fail
      exact ⟨rfl,PSays.err HE.o A.o⟩
     ·replace HF:=zh (HF.o.trans (aH hm))
      replace HW:=zh (HW.o.call HY.o ho hr);subst hv;clear hp hm ho hr HB;obtain ⟨sE,nE,kE,hE⟩:=HW.o.formE;subst hE;obtain ⟨e0,e1,e2,e3,e4,e5,-⟩:=css HW.o.sb;have c0:w7.cell? ⟨RES,0,none⟩=some (.int .i64 0):=aa HW.o.res (j:=0) rfl;have f0:w7.frozen? ⟨RES,0,none⟩=false:=ae HW.o.res 0;have c1:w7.cell? ⟨RES,1,none⟩=some (.string ⟨#[]⟩):=aa HW.o.res (j:=1) rfl;have f1:w7.frozen? ⟨RES,1,none⟩=false:=ae HW.o.res 1;have c2:w7.cell? ⟨RES,2,none⟩=some (.slice none 0 0):=aa HW.o.res (j:=2) rfl;have f2:w7.frozen? ⟨RES,2,none⟩=false:=ae HW.o.res 2;have c3:w7.cell? ⟨RES,3,none⟩=some (.slice none 0 0):=aa HW.o.res (j:=3) rfl;have f3:w7.frozen? ⟨RES,3,none⟩=false:=ae HW.o.res 3;have c4:w7.cell? ⟨RES,4,none⟩=some (.slice none 0 0):=aa HW.o.res (j:=4) rfl;have f4:w7.frozen? ⟨RES,4,none⟩=false:=ae HW.o.res 4;have c5:w7.cell? ⟨RES,5,none⟩=some (.int .i64 0):=aa HW.o.res (j:=5) rfl;have f5:w7.frozen? ⟨RES,5,none⟩=false:=ae HW.o.res 5;go_wp2_with fail
      refine bodyPost_ret (v:=.agg #[.int .i64 1,.string x3,.slice sE nE kE,.slice none 0 0,.slice none 0 0,.int .i64 pl]) (by simp [results,Tryz.results103,go_sem,c0,c1,c2,c3,c4,c5]) rfl ?_;have hq:=HW.o.done HY.o HF.o;rw [C.o.1] at hq;exact hq
end
end Go.Proofs.YthgcpfkochikfaaGreat
