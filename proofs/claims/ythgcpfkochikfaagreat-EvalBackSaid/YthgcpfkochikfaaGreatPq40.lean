/-
  EvalLoops: part 40 of its proof: see the last text.
-/
import Derived.Test.YthgcpfkochikfaaGreatPq37
set_option maxRecDepth 100000
set_option maxHeartbeats 16000000
namespace Go.Proofs.YthgcpfkochikfaaGreat
section
open Go.RowKit
attribute [local go_sem ↓] Go.wp_at_zero Go.wp_at_succ
theorem jV:∀a b:List UInt8,Op.bytesLess a b=bM a b
 | [],[]=>rfl
 | [],_ :: _=>rfl
 | _ :: _,[]=>rfl
 | a :: l,b :: r=>by
  rw [Op.bytesLess,bM,jV l r];by_cases h:a<b
  ·simp [h]
  ·by_cases g:b<a
   ·have:¬a=b:=fun e=>by subst e;exact h g
    simp [h,g,this]
   ·have:a=b:=UInt8.le_antisymm (UInt8.not_lt.1 g) (UInt8.not_lt.1 h)
    simp [this]
theorem A5 {a b:List UInt8} (h:bM a b=true) (w:World):(binOp .geq 9 (.string ⟨a.toArray⟩) (.string ⟨b.toArray⟩)).run Tryz.prog w=.ok (.bool false) w:=by
 simp [binOp,Op.stringOp,go_sem]
 rw [jV];exact h
theorem vE {S:Nat→Prop} {v:Value} {l:List Pr} (w:World) (h:PrsAt S w v l) (hs:(bT l:Int)≤100000):Calls Tryz.prog 48 #[v] w fun e w'=>e=.returned (.int .i64 (bT l))∧Below w.heap.size w w':=by
 have K:=zh (kM l);have HS:=zh hs;have Q:=kV l;obtain ⟨cs,⟨s0,cap,rfl,R,U,_,B,_⟩,hp⟩:=h;have I:=zh B;have HP:=zh hp;have Y:(8:Int)*(l.length:Int)≤100000:=by omega
 clear B hp R U hs Q;generalize bT l=sz at *;go_enter Tryz.func48,Tryz.ntmps48
 go_wp2_with fail
 go_loopg [3,4] l.length (fun gg t3 t4 wr=>∃i:Nat,i+gg=l.length∧t3=.int .i64 ((8*i+cq (kvN l) i:Nat):Int)∧t4=.int .i64 (i:Int)∧Below w.heap.size w wr)
 case atStart=>exact ⟨0,Nat.zero_add _,by simp [cq],rfl,Below.refl _ _⟩
 case round =>
  obtain ⟨i,G,rfl,rfl,hb⟩:=hrel;have HB:=zh hb;have HG:=zh G;by_cases D:i<l.length
  ·have F:(i:Int)<(l.length:Int):=by omega
   have Z:(0:Int)≤(i:Int):=by omega
   obtain ⟨b,off,P,_,H,A⟩:=I.o (by omega);subst P;obtain ⟨a1,c1,a2,c2,J,_,_⟩:=HP.o i D;have E:=A i D;rw [J] at E;have X:Hd (∀W,Below w.heap.size w W→W.cell? ⟨b,off+i * 2,none⟩=some (.slice a1 (l.getD i default).1.length c1)∧W.cell? ⟨b,off+i * 2+1,none⟩=some (.slice a2 (l.getD i default).2.length c2)):=zh (fun W hW=>⟨(hW.cell (p:=⟨b,_,none⟩) H).trans (E 0 (by decide)),(hW.cell (p:=⟨b,_,none⟩) H).trans (E 1 (by decide))⟩);have C:cq (kvN l) (i+1)≤cq (kvN l) l.length:=lW D;have L:Hd (cq (kvN l) (i+1)=cq (kvN l) i+((l.getD i default).1.length+(l.getD i default).2.length)):=zh rfl;have N:=K.o;have O:=HS.o;generalize (l.getD i default).1.length=m1 at *;generalize (l.getD i default).2.length=m2 at *;have V:((8*i+cq (kvN l) i:Nat):Int)+8+((m1:Int)+(m2:Int))≤100000:=by have:=L.o;omega
   have M:Hd (Below w.heap.size w wr.drew):=zh (aw HB.o);clear hb G E J A C N O H D;generalize hT:(8*i+cq (kvN l) i)=T at *;have HT:=zh hT;clear hT;go_upto_region 5 with fail
   refine wp_region_held_drew (S:=(fun W=>W.cell? ⟨b,off+i * 2,none⟩=some (.slice a1 m1 c1)∧W.cell? ⟨b,off+i * 2+1,none⟩=some (.slice a2 m2 c2))) (by kernel_rfl) (by (try dsimp only);exact X.o _ M.o) (fun hH=>?_);refine tkA 0 ?_;refine tkA 1 ?_;refine tkA 2 ?_;refine tkA 3 ?_;try go_simp
   refine tkA 4 ?_;refine tkA 5 ?_;refine tkA 6 ?_;refine tkA 7 ?_;try go_simp
   refine tkA 8 ?_;refine tkA 9 ?_;refine tkA 10 ?_;refine tkA 11 ?_;try go_simp
   refine tkA 12 ?_;refine tkA 13 ?_;refine tkA 14 ?_;refine tkA 15 ?_;try go_simp
   refine tkA 16 ?_;refine wpAnyH_done (by kernel_rfl) ?_ _;go_wp2_with fail
   go_roundg (l.length-i-1)
   case measure=>have:=HG.o;omega
   case rel=>exact ⟨i+1,by have:=HG.o;omega,by rw [L.o];have:=HT.o;go_num,by go_num,M.o⟩
  ·obtain rfl:i=l.length:=by omega
   have F:¬(l.length:Int)<(l.length:Int):=by omega
   clear hb G D;have HT:=K.o;generalize 8*l.length+cq (kvN l) l.length=z at *;subst HT;go_wp2_with fail
   exact bodyPost_ret (v:=.int .i64 sz) (by simp [results,Tryz.results48,go_sem]) rfl ⟨rfl,HB.o⟩
theorem tH {S:Nat→Prop} {v:Value} {l:List Pr} (w:World) (h:PrsAt S w v l) (hr:aV l=true):Calls Tryz.prog 24 #[v] w fun e w'=>e=.returned (.bool true)∧Below w.heap.size w w':=by
 have s:=zh ((jn l).1 hr).1;have t:=zh (eW ((jn l).1 hr).2);have d:=((jn l).1 hr).2;have r:=zh (fun W (hW:Below w.heap.size w W)=>vE W (h.below hW) (by omega));have c:(bT l:Int)≤2048:=by omega
 obtain ⟨cs,⟨s0,cap,rfl,g,n,_,F,_⟩,hp⟩:=h;have O:=zh F;have HP:=zh hp;clear F hp g n hr d;generalize bT l=sz at *;go_enter Tryz.func24,Tryz.ntmps24
 go_wp2_with fail
 go_loopg [3] l.length (fun gg t3 wr=>∃i:Nat,i+gg=l.length∧t3=.int .i64 (i:Int)∧Below w.heap.size w wr)
 case atStart=>exact ⟨0,Nat.zero_add _,rfl,Below.refl _ _⟩
 case round =>
  obtain ⟨i,N,rfl,hb⟩:=hrel;have HB:=zh hb;have HG:=zh N;have h4:(l.length:Int)≤256:=by have:=t.o;omega
  by_cases C:i<l.length
  ·have M:(i:Int)<(l.length:Int):=by omega
   have h5:(0:Int)≤(i:Int):=by omega
   have D:=zh C;obtain ⟨b,off,f,_,K,A⟩:=O.o (by omega);subst f;obtain ⟨a1,c1,a2,c2,T,Q,_⟩:=HP.o i C;have J:=A i C;rw [T] at J;have I:=s.o i C;unfold okI at I;simp only [Bool.and_eq_true,Bool.or_eq_true,decide_eq_true_eq,beq_iff_eq] at I
   have B:=zh I;have H:=zh A;have x:=zh K;have E:Hd (Below w.heap.size w wr.drew):=zh (aw HB.o);have k:(((l.getD i default).1.length:Nat):Int)≤64:=by omega
   have Z:(((l.getD i default).2.length:Nat):Int)≤256:=by omega
   have P:Hd (∀W,Below w.heap.size w W→W.cell? ⟨b,off+i * 2,none⟩=some (.slice a1 (l.getD i default).1.length c1)∧W.cell? ⟨b,off+i * 2+1,none⟩=some (.slice a2 (l.getD i default).2.length c2)):=zh (fun W hW=>⟨(hW.cell (p:=⟨b,_,none⟩) K).trans (J 0 (by decide)),(hW.cell (p:=⟨b,_,none⟩) K).trans (J 1 (by decide))⟩);have V:=zh Q;clear hb N T J A K I Q C;by_cases hz:i=0
   ·have Y:¬(0:Int)<(i:Int):=by omega
    have X:decide (0<i)=false:=decide_eq_false (by omega);have m:¬(64:Int)<(((l.getD i default).1.length:Nat):Int):=by omega
    have a:¬(256:Int)<(((l.getD i default).2.length:Nat):Int):=by omega
    clear hz;generalize (l.getD i default).1.length=kl at *;generalize (l.getD i default).2.length=vl at *;go_upto_region 4 with fail
    refine wp_region_held_drew (S:=(fun W=>W.cell? ⟨b,off+i * 2,none⟩=some (.slice a1 kl c1)∧W.cell? ⟨b,off+i * 2+1,none⟩=some (.slice a2 vl c2))) (by kernel_rfl) (by (try dsimp only);exact P.o _ E.o) (fun hH=>?_);refine tkA 0 ?_;refine tkA 1 ?_;refine tkA 2 ?_;try go_simp
    refine tkA 3 ?_;refine tkA 4 ?_;refine tkA 5 ?_;try go_simp
    refine tkA 6 ?_;refine tkA 7 ?_;refine tkA 8 ?_;try go_simp
    refine tkA 9 ?_;refine tkA 10 ?_;refine tkA 11 ?_;try go_simp
    refine tkA 12 ?_;refine tkA 13 ?_;refine tkA 14 ?_;try go_simp
    refine tkA 15 ?_;refine tkA 16 ?_;refine tkA 17 ?_;try go_simp
    refine tkA 18 ?_;refine tkA 19 ?_;try go_simp
    refine wpAnyH_take (i:=20) rfl (by kernel_rfl) (by kernel_rfl) (by kernel_rfl) (fun _ _ _ h=>h) (Or.inr ⟨by rfl,rfl⟩) (by assumption) ?_;refine wpAnyH_take (i:=21) rfl (by kernel_rfl) (by kernel_rfl) (by kernel_rfl) (fun _ _ _ h=>h) (Or.inr ⟨by rfl,rfl⟩) (by assumption) ?_;refine wpAnyH_take (i:=22) rfl (by kernel_rfl) (by kernel_rfl) (by kernel_rfl) (fun _ _ _ h=>h) (Or.inr ⟨by rfl,rfl⟩) (by assumption) ?_;try go_simp
    refine wpAnyH_take (i:=23) rfl (by kernel_rfl) (by kernel_rfl) (by kernel_rfl) (fun _ _ _ h=>h) (Or.inr ⟨by rfl,rfl⟩) (by assumption) ?_;refine wpAnyH_take (i:=24) rfl (by kernel_rfl) (by kernel_rfl) (by kernel_rfl) (fun _ _ _ h=>h) (Or.inr ⟨by rfl,rfl⟩) (by assumption) ?_;refine wpAnyH_take (i:=25) rfl (by kernel_rfl) (by kernel_rfl) (by kernel_rfl) (fun _ _ _ h=>h) (Or.inr ⟨by rfl,rfl⟩) (by assumption) ?_;try go_simp
    refine wpAnyH_take (i:=26) rfl (by kernel_rfl) (by kernel_rfl) (by kernel_rfl) (fun _ _ _ h=>h) (Or.inr ⟨by rfl,rfl⟩) (by assumption) ?_;refine wpAnyH_take (i:=27) rfl (by kernel_rfl) (by kernel_rfl) (by kernel_rfl) (fun _ _ _ h=>h) (Or.inr ⟨by rfl,rfl⟩) (by assumption) ?_;refine wpAnyH_take (i:=28) rfl (by kernel_rfl) (by kernel_rfl) (by kernel_rfl) (fun _ _ _ h=>h) (Or.inr ⟨by rfl,rfl⟩) (by assumption) ?_;try go_simp
    refine wpAnyH_take (i:=29) rfl (by kernel_rfl) (by kernel_rfl) (by kernel_rfl) (fun _ _ _ h=>h) (Or.inr ⟨by rfl,rfl⟩) (by assumption) ?_;refine wpAnyH_take (i:=30) rfl (by kernel_rfl) (by kernel_rfl) (by kernel_rfl) (fun _ _ _ h=>h) (Or.inr ⟨by rfl,rfl⟩) (by assumption) ?_;refine wpAnyH_take (i:=31) rfl (by kernel_rfl) (by kernel_rfl) (by kernel_rfl) (fun _ _ _ h=>h) (Or.inr ⟨by rfl,rfl⟩) (by assumption) ?_;try go_simp
    refine wpAnyH_take (i:=32) rfl (by kernel_rfl) (by kernel_rfl) (by kernel_rfl) (fun _ _ _ h=>h) (Or.inr ⟨by rfl,rfl⟩) (by assumption) ?_;refine wpAnyH_take (i:=33) rfl (by kernel_rfl) (by kernel_rfl) (by kernel_rfl) (fun _ _ _ h=>h) (Or.inr ⟨by rfl,rfl⟩) (by assumption) ?_;try go_simp
    refine tkA 34 ?_;refine tkA 35 ?_;try go_simp
    refine wpAnyH_done (by kernel_rfl) ?_ _;go_wp2_with fail
    go_roundg (l.length-i-1)
    case measure=>have:=HG.o;have:=D.o;omega
    case rel=>exact ⟨i+1,by have:=HG.o;have:=D.o;omega,by go_num,E.o⟩
   ·have Y:(0:Int)<(i:Int):=by omega
    have X:decide (0<i)=true:=decide_eq_true (by omega);have h0:0<i:=by omega
    have m:¬(64:Int)<(((l.getD i default).1.length:Nat):Int):=by omega
    have a:¬(256:Int)<(((l.getD i default).2.length:Nat):Int):=by omega
    have h6:=A5 (B.o.2.resolve_left hz);have j:=B.o.2.resolve_left hz;rw [←jV] at j;obtain ⟨a0,c0,a9,c9,G,R,_⟩:=HP.o (i-1) (by have:=D.o;omega);have L:=H.o (i-1) (by have:=D.o;omega) 0 (by decide);rw [G] at L;have u:Hd (∀W,Below w.heap.size w W→W.cell? ⟨b,off+(i-1)*2,none⟩=some (.slice a0 (l.getD (i-1) default).1.length c0)∧(convert 30 9 (.slice a1 (l.getD i default).1.length c1)).run Tryz.prog W=.ok (.string ⟨(l.getD i default).1.toArray⟩) W∧(convert 30 9 (.slice a0 (l.getD (i-1) default).1.length c0)).run Tryz.prog W=.ok (.string ⟨(l.getD (i-1) default).1.toArray⟩) W):=zh (fun W hW=>⟨(hW.cell (p:=⟨b,_,none⟩) x.o).trans L,dN (V.o.below hW),dN (R.below hW)⟩);have h3:(i:Int)-1=((i-1:Nat):Int):=by omega
    have h2:((i-1:Nat):Int)<(l.length:Int):=by omega
    have h1:(0:Int)≤((i-1:Nat):Int):=by omega
    have z:IntKind.i64.wrap ((i-1:Nat):Int)=((i-1:Nat):Int):=by rw [IntKind.wrap_i64];omega
    clear hz G L R B V;generalize i-1=pi at *;generalize l.getD i default=p at *;generalize l.getD pi default=q at *;generalize p.1.length=kl at *;generalize p.2.length=vl at *;generalize q.1.length=k0 at *;go_upto_region 4 with fail
    refine wp_region_held_drew (S:=(fun W=>W.cell? ⟨b,off+i * 2,none⟩=some (.slice a1 kl c1)∧W.cell? ⟨b,off+i * 2+1,none⟩=some (.slice a2 vl c2)∧W.cell? ⟨b,off+pi * 2,none⟩=some (.slice a0 k0 c0)∧(convert 30 9 (.slice a1 kl c1)).run Tryz.prog W=.ok (.string ⟨p.1.toArray⟩) W∧(convert 30 9 (.slice a0 k0 c0)).run Tryz.prog W=.ok (.string ⟨q.1.toArray⟩) W)) (by kernel_rfl) (by (try dsimp only);exact ⟨(P.o _ E.o).1,(P.o _ E.o).2,u.o _ E.o⟩) (fun hH=>?_);refine tkA 0 ?_;refine tkA 1 ?_;refine tkA 2 ?_;try go_simp
    refine tkA 3 ?_;refine tkA 4 ?_;refine tkA 5 ?_;try go_simp
    refine tkA 6 ?_;refine tkA 7 ?_;refine tkA 8 ?_;try go_simp
    refine tkA 9 ?_;refine tkA 10 ?_;refine tkA 11 ?_;try go_simp
    refine tkA 12 ?_;refine tkA 13 ?_;refine tkA 14 ?_;try go_simp
    refine tkA 15 ?_;refine tkA 16 ?_;refine tkA 17 ?_;try go_simp
    refine tkA 18 ?_;refine tkA 19 ?_;refine tkA 20 ?_;try go_simp
    refine tkA 21 ?_;refine tkA 22 ?_;refine tkA 23 ?_;try go_simp
    refine tkA 24 ?_;refine tkA 25 ?_;refine tkA 26 ?_;try go_simp
    refine tkA 27 ?_;refine tkA 28 ?_;refine tkA 29 ?_;try go_simp
    refine tkA 30 ?_;refine tkA 31 ?_;refine tkA 32 ?_;try go_simp
    refine tkA 33 ?_;refine tkA 34 ?_;refine tkA 35 ?_;try go_simp
    refine wpAnyH_done (by kernel_rfl) ?_ _;go_wp2_with fail
    go_roundg (l.length-i-1)
    case measure=>have:=HG.o;have:=D.o;omega
    case rel=>exact ⟨i+1,by have:=HG.o;have:=D.o;omega,by go_num,E.o⟩
  ·obtain rfl:i=l.length:=by omega
   have M:¬(l.length:Int)<(l.length:Int):=by omega
   clear hb N C;go_wp2_with fail
   refine (r.o _ HB.o).mono ?_;rintro e w1 ⟨rfl,U⟩;have y:=zh (am HB.o U);clear U;go_wp2_with fail
   exact bodyPost_ret (v:=.bool true) (by simp [results,Tryz.results24,go_sem]) rfl ⟨rfl,y.o⟩
end
section
open Go.RowKit
attribute [local go_sem ↓] Go.wp_at_zero Go.wp_at_succ
theorem vd (a0:Option Addr) (f:Nat) (s:List UInt8) (nm:ByteArray) (va:Value) (vs:List Vv) (vl:Value) (l:List Pr) (limit:Int) (w:World) (hs:SrcAt w a0 s) (Hr:s.length≤1152921504606846976) (Ht:s.length≤f)
    (ha:ArIn w va vs) (hp:PrsAt Any w vl l) (hM:(l.length:Int)≤1000000000000000) (d:aY limit):Calls Tryz.prog 7 #[.slice a0 s.length f,.string nm,va,vl,.int .i64 limit] w fun e w'=>e=.returned (.bool true)∧Below w.heap.size w w':=by
 have k4:=zh (jF w);have k5:=zh (fun W (hW:Below w.heap.size w W)=>lB a0 f s W (hs.later hW) Hr Ht);have HC:=zh (fun W (hW:Below w.heap.size w W)=>ji W (hp.below hW) hM);have HA:=zh ha;have HW:=zh (fun W (hW:Below w.heap.size w W)=>hp.below hW);have k0:=zh hM;have hu:=zh d;obtain ⟨_,⟨sa,ca,rfl,_⟩,_⟩:=ha;obtain ⟨_,⟨sl,cl,rfl,_⟩,_⟩:=hp;have k8:-9223372036854775808≤limit∧limit≤9223372036854775807:=d;clear hs Hr Ht hM d;go_enter Tryz.func7,Tryz.ntmps7
 go_wp2_with fail
 refine k4.o.mono ?_;rintro e w0 ⟨rfl,Hu⟩;have hI:=zh Hu;clear Hu;go_wp2_with fail
 refine (k5.o w0 hI.o).mono ?_;intro e w1 h3;obtain ⟨sv,n,cv,er,pos,rfl,hF,hR⟩:=oE h3;have HF:=zh hF;have hz:Hd ((w1.alloc (.cells #[.slice sv n cv] 26)).heap[w1.heap.size]?=some (.cells #[.slice sv n cv] 26 (0,0))):=zh (aj _ _ _ rfl);have hB:Hd (Below w.heap.size w (w1.alloc (.cells #[.slice sv n cv] 26))):=zh ((hI.o.trans (hR.mono hI.o.size)).alloc (Nat.le_trans hI.o.size hR.size) _);have hC:Hd (Below w1.heap.size w1 (w1.alloc (.cells #[.slice sv n cv] 26))):=zh (ag (Below.refl _ _) _);clear h3 hF hR;go_upto_region 3 with fail
 generalize w1.alloc (.cells #[.slice sv n cv] 26)=w2 at *
 have ho:Hd (er=0→∃F,cU s=.ok F∧RepFns Any w2 (.slice sv n cv) F):=zh (fun h=>by
   obtain ⟨F,h1,h2⟩:=HF.o h;exact ⟨F,h1,h2.keep (Stays.of_below hC.o)⟩)
 clear HF hC;generalize w1.heap.size=PB at *;go_wp2_with fail
 refine (HC.o w2 hB.o).mono ?_;intro e w3 Hn;obtain ⟨q1,rfl,h6,Hi,hQ⟩:=jK Hn;have Hw:=zh Hi;have hq:=zh h6;have i:=zh hQ;have Hf:Hd (Below w.heap.size w w3):=zh (hB.o.trans (hQ.mono hB.o.size));clear Hn h6 Hi hQ;go_wp2_with fail
 refine (HC.o w3 Hf.o).mono ?_;intro e w4 Hm;obtain ⟨q2,rfl,hK,Hh,hP⟩:=jK Hm;have Hv:=zh Hh;have g:=zh hP;have hH:Hd (Below w.heap.size w w4):=zh (Hf.o.trans (hP.mono Hf.o.size));clear Hm hK Hh hP;by_cases hO:er=0
 case neg =>
  have HL:(er !=0)=true:=bne_iff_ne.2 hO;clear hO;go_wp2_with fail
  exact bodyPost_ret (v:=.bool true) (by simp [results,Tryz.results7,go_sem]) rfl ⟨rfl,hH.o⟩
 subst hO;obtain ⟨F,Hs,h4⟩:=ho.o rfl;have HH:=zh (fc Hs);have Hz:=zh h4;clear Hs h4 ho
 cases hr:aV l with
 | false =>
  obtain rfl:=hq.o hr;clear hr;go_wp2_with fail
  exact bodyPost_ret (v:=.bool true) (by simp [results,Tryz.results7,go_sem]) rfl ⟨rfl,hH.o⟩
 | true =>
 obtain ⟨JB1,rfl,h7,h8⟩:=Hw.o hr;obtain ⟨JB2,rfl,hN,hE⟩:=Hv.o hr;have HU:=zh hr;clear hr hq;by_cases k9:20000<limit
 ·go_wp2_with fail
  exact bodyPost_ret (v:=.bool true) (by simp [results,Tryz.results7,go_sem]) rfl ⟨rfl,hH.o⟩
 have m:=zh (RnS.made hz.o Hz.o hB.o (am i.o g.o) (fun U N=>(h8 U N).below g.o) h7);have HD:Hd (JB1≠JB2):=zh (fun e=>by have:=(h8 0 0).ty.lt;omega);have HE:=zh hE;have k6:Hd (w2.heap.size≤JB2):=zh (by have:=i.o.size;omega);have HI:Hd (w.heap.size≤w2.heap.size):=zh hB.o.size;generalize w2.heap.size=D at *;clear h7 h8 hN hE Hw Hv hz Hz i g;have H7:=zh (m.o.calls HH.o nm limit hu.o (HA.o.at HI.o hH.o) (by decide) rfl);generalize hU:w4.heap.size=U at m H7;clear hU;have H1:=zh (oB (F:=F) (x:=nm) (vs:=vs) (limit:=limit) (j:=⟨l,[]⟩) HU.o);generalize Hk:bA F nm vs limit ⟨l,[]⟩=o at *;obtain ⟨⟨ov,tr,us⟩,⟨prs,uds⟩⟩:=o;have HY:=zh Hk;clear Hk;have p0:=m.o.cellp;have c:=af m.o.p;go_wp2_with fail
 refine H7.o.mono ?_;rintro e w5 hs;have HS:Hd (RnS D U JB1 100000 w w5 PB (.slice sv n cv) F ⟨prs,uds⟩):=zh (m.o.run hs);obtain ⟨rp,rc,he,r,h5,_,Hl⟩:=hs;obtain rfl:e=.returned (.agg #[.int .i64 ov.ty,.int .i64 ov.num,.slice rp ov.text.length rc,.int .i64 tr,.int .i64 us]):=he;have k2:Hd (∀U N,JAt U w5 JB2 ⟨l,[]⟩ N):=zh (fun U2 N2=>oC (HE.o _ 0) m.o.jo Hl (Ne.symm HD.o) U2 N2);have HQ:Hd (VvAt (KS D w5) w5 (.agg #[.int .i64 ov.ty,.int .i64 ov.num,.slice rp ov.text.length rc]) ov):=zh r;clear r h5 Hl HE H7 p0 c;have hG:Below w5.heap.size w5 (w5.alloc (.cells #[.int .i64 ov.ty,.int .i64 ov.num,.slice rp ov.text.length rc,.int .i64 tr,.int .i64 us] 38)):=ag (Below.refl _ _) _;have Hx:Hd ((w5.alloc (.cells #[.int .i64 ov.ty,.int .i64 ov.num,.slice rp ov.text.length rc,.int .i64 tr,.int .i64 us] 38)).heap[w5.heap.size]?=some (.cells #[.int .i64 ov.ty,.int .i64 ov.num,.slice rp ov.text.length rc,.int .i64 tr,.int .i64 us] 38 (0,0))):=zh (aj _ _ _ rfl);have hn:=zh (HS.o.below hG);have k1:Hd (∀U N,JAt U (w5.alloc (.cells #[.int .i64 ov.ty,.int .i64 ov.num,.slice rp ov.text.length rc,.int .i64 tr,.int .i64 us] 38)) JB2 ⟨l,[]⟩ N):=zh (fun U2 N2=>(k2.o U2 N2).below hG);have HP:=zh (HQ.o.low hG);clear hG;go_upto_region 8 with fail
 generalize w5.alloc (.cells #[.int .i64 ov.ty,.int .i64 ov.num,.slice rp ov.text.length rc,.int .i64 tr,.int .i64 us] 38)=w6 at *;generalize w5.heap.size=XB at *;have C:=zh (hn.o.other (k1.o _ 0) k6.o);have HB:=zh (C.o.calls HH.o nm limit hu.o (HA.o.at HI.o hn.o.on) (by decide) HY.o);have p0:=hn.o.cellp;have c:=af hn.o.p;have hL:=af Hx.o;go_wp2_with fail
 refine HB.o.mono ?_;rintro e w7 hs;have H5:Hd (RnS D w6.heap.size JB2 100000 w w7 PB (.slice sv n cv) F ⟨prs,uds⟩):=zh (C.o.run hs);obtain ⟨rp2,rc2,he,r,h5,_,hD⟩:=hs;obtain rfl:e=.returned (.agg #[.int .i64 ov.ty,.int .i64 ov.num,.slice rp2 ov.text.length rc2,.int .i64 tr,.int .i64 us]):=he;have k3:=zh (oH hn.o.jo C.o.jo hD HD.o);have hg:=zh (dZ hD C.o.jo Hx.o (by decide) (by decide));have HO:=zh (Bv HP.o C.o.jo hD ⟨C.o.low.2.1,C.o.low.2.2.1⟩);have HN:Hd (VvAt (KS D w7) w7 (.agg #[.int .i64 ov.ty,.int .i64 ov.num,.slice rp2 ov.text.length rc2]) ov):=zh r;clear r h5 hD HB p0 c hL;have k:Below w7.heap.size w7 (w7.alloc (.cells #[.int .i64 ov.ty,.int .i64 ov.num,.slice rp2 ov.text.length rc2,.int .i64 tr,.int .i64 us] 38)):=ag (Below.refl _ _) _;have hd:Hd ((w7.alloc (.cells #[.int .i64 ov.ty,.int .i64 ov.num,.slice rp2 ov.text.length rc2,.int .i64 tr,.int .i64 us] 38)).heap[w7.heap.size]?=some (.cells #[.int .i64 ov.ty,.int .i64 ov.num,.slice rp2 ov.text.length rc2,.int .i64 tr,.int .i64 us] 38 (0,0))):=zh (aj _ _ _ rfl);have B:=zh ((k.block _ (af hg.o)).trans hg.o);have H4:=zh (H5.o.below k);have HG:=zh (k3.o.below k);have Hy:=zh (HO.o.low k);have HM:=zh (HN.o.low k);clear k;go_upto_region 9 with fail
 generalize w7.alloc (.cells #[.int .i64 ov.ty,.int .i64 ov.num,.slice rp2 ov.text.length rc2,.int .i64 tr,.int .i64 us] 38)=w8 at *;generalize w7.heap.size=YB at *;obtain ⟨y,t,Hj,h9⟩:=H1.o;have H6:=zh Hj;have hx:=zh h9;have HK:¬us<0:=by have q:0≤us:=y;omega
 have HJ:¬max limit 0<us:=by have q:us≤max limit 0:=t;omega
 clear y t Hj h9;have hm:=zh (ou ov.ty ov.num tr us rp rp2 rc rc2 w8 Hy.o.txt HM.o.txt);have x0:=aa B.o (j:=0) (u:=.int .i64 ov.ty) rfl;have x1:=aa B.o (j:=1) (u:=.int .i64 ov.num) rfl;have x2:=aa B.o (j:=2) (u:=.slice rp ov.text.length rc) rfl;have x3:=aa B.o (j:=3) (u:=.int .i64 tr) rfl;have x4:=aa B.o (j:=4) (u:=.int .i64 us) rfl;have y0:=aa hd.o (j:=0) (u:=.int .i64 ov.ty) rfl;have y1:=aa hd.o (j:=1) (u:=.int .i64 ov.num) rfl;have y2:=aa hd.o (j:=2) (u:=.slice rp2 ov.text.length rc2) rfl;have y3:=aa hd.o (j:=3) (u:=.int .i64 tr) rfl;have y4:=aa hd.o (j:=4) (u:=.int .i64 us) rfl;go_wp2_with fail
 refine hm.o.mono ?_;rintro e w9 ⟨rfl,hb⟩;have hA:=zh hb;have hf:=zh ((hb.block _ (af B.o)).trans B.o);have H3:=zh (H4.o.below hb);have HX:=zh (eV w9 (HG.o.below hb));clear hb x0 x1 x2 x3 x4 y0 y1 y2 y3 y4;go_wp2_with fail
 refine HX.o.mono ?_;rintro e w10 ⟨v10,rfl,b,O⟩;obtain ⟨_,s10,n10,c10,rfl,_⟩:=id b;have Z:=zh O;have T:=zh ((O.block _ (af hf.o)).trans hf.o);have X:=zh (H3.o.below O);have H2:=zh b;have Hb:=zh (eV w10 X.o.jo);clear b O;go_wp2_with fail
 refine Hb.o.mono ?_;rintro e w11 ⟨v11,rfl,a,K⟩;obtain ⟨_,s11,n11,c11,rfl,_⟩:=id a;have Y:=zh K;have S:=zh ((K.block _ (af T.o)).trans T.o);have V:=zh (X.o.below K)
 have HV:=zh (lk w11 (H2.o.1.below K) a.1 (by
   have h1:=eW (cg V.o.jo.right).2.2;have h2:prs.length≤256:=h1;show (prs.length:Int)≤_
   omega))
 clear a K;go_wp2_with fail
 refine HV.o.mono ?_;rintro e w12 ⟨rfl,J⟩;have R:=zh ((J.block _ (af S.o)).trans S.o);have hl:=zh (V.o.below J);have hw:=zh (HG.o.below (am (am (am hA.o Z.o) Y.o) J));have H0:=zh (Hy.o.low (am (am (am hA.o Z.o) Y.o) J));clear J;have Ha:=zh (eV w12 hw.o);go_wp2_with fail
 refine Ha.o.mono ?_;rintro e w13 ⟨v13,rfl,h0,I⟩;have HT:=zh (tH w13 h0.1 H6.o);obtain ⟨_,s13,n13,c13,rfl,_⟩:=h0;have Q:=zh ((I.block _ (af R.o)).trans R.o);have hk:=zh (hl.o.below I);have He:=zh (hw.o.below I);have hX:=zh (H0.o.low I);clear I;go_wp2_with fail
 refine HT.o.mono ?_;rintro e w14 ⟨rfl,H⟩;have A:=zh ((H.block _ (af Q.o)).trans Q.o);have M:=zh (hk.o.below H);have hv:=zh (He.o.below H);have hV:=zh (hX.o.low H);clear H;have x0:=aa A.o (j:=0) (u:=.int .i64 ov.ty) rfl;have x1:=aa A.o (j:=1) (u:=.int .i64 ov.num) rfl;have x2:=aa A.o (j:=2) (u:=.slice rp ov.text.length rc) rfl;have x3:=aa A.o (j:=3) (u:=.int .i64 tr) rfl;by_cases ht:tr=0
 ·subst ht
  go_wp2_with fail
  exact bodyPost_ret (v:=.bool true) (by simp [results,Tryz.results7,go_sem]) rfl ⟨rfl,M.o.on⟩
 have k7:(tr==0)=false:=beq_eq_false_iff_ne.2 ht;obtain ⟨hj,h5⟩:(⟨prs,uds⟩:Jn)=⟨l,[]⟩∧ov=noV:=hx.o.resolve_left ht;injection hj with h8 hE
 subst h8 hE h5;have H9:=zh (eV w14 hv.o);clear ht hx;go_wp2_with fail
 refine H9.o.mono ?_;rintro e w15 ⟨v15,rfl,z,E⟩;have hy:Hd (Below w.heap.size w w15):=zh (M.o.below E).on;have H8:=zh (lk w15 z.1 (HW.o _ hy.o) k0.o);obtain ⟨_,s15,n15,c15,rfl,_⟩:=z;have P:=zh ((E.block _ (af A.o)).trans A.o);have hi:=zh (M.o.below E);have Hc:=zh (hv.o.below E);have hT:=zh (hV.o.low E);clear E x0 x1 x2 x3;go_wp2_with fail
 refine H8.o.mono ?_;rintro e w16 ⟨rfl,G⟩;have L:=zh ((G.block _ (af P.o)).trans P.o);have hh:=zh (hi.o.below G);have hS:=zh (hT.o.low G);have HZ:=zh (oJ w16 (Hc.o.below G));clear G;go_wp2_with fail
 refine HZ.o.mono ?_;rintro e w16' ⟨rfl,rfl⟩;have x0:=aa L.o (j:=0) (u:=.int .i64 noV.ty) rfl;have x1:=aa L.o (j:=1) (u:=.int .i64 noV.num) rfl;have x2:=aa L.o (j:=2) (u:=.slice rp noV.text.length rc) rfl;have HR:=zh (oP (s:=[]) 0 0 rp none rc 0 w16 hS.o.txt (TxtAt.nil Any _));have Hq:noV.ty=0:=rfl;have Hp:noV.num=0:=rfl;have Ho:noV.text.length=0:=rfl;rw [Hq] at x0;rw [Hp] at x1;rw [Ho] at x2;clear Hq Hp Ho;go_wp2_with fail
 refine HR.o.mono ?_;rintro e w17 ⟨rfl,hc⟩;have Hg:=zh (hh.o.below hc).on;clear hc x0 x1 x2;go_wp2_with fail
 exact bodyPost_ret (v:=.bool true) (by simp [results,Tryz.results7,go_sem]) rfl ⟨rfl,Hg.o⟩
end
end Go.Proofs.YthgcpfkochikfaaGreat
