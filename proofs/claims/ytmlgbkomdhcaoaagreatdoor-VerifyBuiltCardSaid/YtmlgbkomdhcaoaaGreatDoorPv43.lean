/-
  VerifyBuilt: part 43 of its proof: see the last text.
-/
import Derived.Test.YtmlgbkomdhcaoaaGreatDoorPv42
import Derived.Test.YtmlgbkomdhcaoaaGreatDoorPv38
import Derived.Test.YtmlgbkomdhcaoaaGreatDoorPv18
set_option maxRecDepth 100000
set_option maxHeartbeats 16000000
namespace Go.Proofs.YtmlgbkomdhcaoaaGreatDoor
section
open Go.RowKit
theorem qR {w wr:World} {P:Nat} (h:w.heap.size=P) (hb:Below P w wr):P≤wr.heap.size:=by rw [←h];exact hb.size
theorem uh {S:Nat→Prop} {w:World} {cs:List Value} {f:Fn} (h:RepFn S w cs f):∃nm s1 n1 c1 rs s2 n2 c2 pos,cs=[.string nm,.slice s1 n1 c1,.int .i64 rs,.slice s2 n2 c2,.int .i64 pos]:=by
 obtain ⟨vp,vb,rfl,⟨c,⟨a1,a2,rfl,_⟩,_⟩,⟨c',⟨b1,b2,rfl,_⟩,_⟩⟩:=h;exact ⟨_,_,_,_,_,_,_,_,_,rfl⟩
theorem yf {S:Nat→Prop} {w:World} {f:Fn} {nm:ByteArray} {rs pos:Int} {s1 s2:Option Addr} {n1 c1 n2 c2:Nat} (h:RepFn S w [.string nm,.slice s1 n1 c1,.int .i64 rs,.slice s2 n2 c2,.int .i64 pos] f):nm=f.name∧n1=f.params.length∧rs=f.result∧n2=f.body.length∧pos=f.pos:=by
 obtain ⟨vp,vb,e,⟨c,⟨a1,a2,rfl,_⟩,_⟩,⟨c',⟨b1,b2,rfl,_⟩,_⟩⟩:=h;simp only [List.cons.injEq,Value.int.injEq,Value.string.injEq,Value.slice.injEq,true_and,and_true] at e
 exact ⟨e.1,e.2.1.2.1,e.2.2.1,e.2.2.2.1.2.1,e.2.2.2.2⟩
theorem FunR.put {w:World} (k:ByteArray) {u:Value} {f:Fn} (hf:FnV w u f):∀{m:List (ByteArray×Value)} {F:aO},FunR w m F→FunR w (bQ m k u) (bQ F k f)
 | [],[],_=>⟨rfl,hf,trivial⟩
 | p :: m,q :: F,⟨h1,h2,h3⟩=>by
  simp only [bQ]
  rw [h1];split
  ·exact ⟨rfl,hf,h3⟩
  ·exact ⟨h1,h2,h3.put k hf⟩
theorem zc {F:aO} {k:ByteArray} {f:Fn} (h:∀p,p∈F→p.2.params.length≤100000) (hf:f.params.length≤100000):∀p,p∈bQ F k f→p.2.params.length≤100000:=by
 induction F with
 | nil =>
  intro p hp;simp only [bQ,List.mem_singleton] at hp
  subst hp;exact hf
 | cons q F ih =>
  intro p hp;simp only [bQ] at hp
  split at hp
  ·rcases List.mem_cons.1 hp with rfl | hp
   ·exact hf
   ·exact h p (List.mem_cons_of_mem _ hp)
  ·rcases List.mem_cons.1 hp with rfl | hp
   ·exact h _ (List.mem_cons_self ..)
   ·exact ih (fun p hp=>h p (List.mem_cons_of_mem _ hp)) p hp
theorem zm (l:List Fn) (i:Nat) (hi:i<l.length) (F:aO):dl (l.drop i) F=if (aI F (l.getD i default).name).isSome then ((53,(l.getD i default).pos),F) else dl (l.drop (i+1)) (bQ F (l.getD i default).name (l.getD i default)):=by
 rw [List.drop_eq_getElem_cons hi,dl,List.getD_eq_getElem?_getD,List.getElem?_eq_getElem hi];rfl
theorem yA (F:aO) (l:List Fn) (i:Nat) (hi:i<l.length):gj F (l.drop i)=orF (eV F (l.getD i default)) (gj F (l.drop (i+1))):=by
 rw [List.drop_eq_getElem_cons hi,gj,List.getD_eq_getElem?_getD,List.getElem?_eq_getElem hi];rfl
theorem sL {l:List Fn} (h:64<l.length):bT l=(2,0):=by
 unfold bT;rw [if_pos h]
theorem vN {l:List Fn} (h:¬64<l.length):bT l=if (dl l []).1.1≠0 then (dl l []).1 else gj (dl l []).2 l:=by
 unfold bT;rw [if_neg h]
theorem rJ {l:List Fn} {q:Flt} {G:aO} (h:dl l []=(q,G)) (hq:¬q.1=0):(if (dl l []).1.1≠0 then (dl l []).1 else gj (dl l []).2 l)=q:=by
 rw [h,if_pos hq]
theorem sw {l:List Fn} {G:aO} (h:dl l []=(okF,G)):(if (dl l []).1.1≠0 then (dl l []).1 else gj (dl l []).2 l)=gj G l:=by
 rw [h,if_neg (by simp [okF])]
theorem qF (l:List Fn) (hp:∀f,f∈l→f.params.length≤100000) (w:World) (u:Value) (hr:RepFns Any w u l) :
    Calls Tryz.prog 12 #[.agg #[u]] w fun e w'=>e=.returned (.tuple #[.int .i64 (bT l).1,.int .i64 (bT l).2])∧Below w.heap.size w w':=by
 obtain ⟨cs,⟨s0,cap,rfl,h8,hd,_,Z,hx⟩,h9⟩:=hr;have d:=zh Z;have ht:Hd (∀i,i<l.length→RepFn (fun b=>b<w.heap.size) w (cs i) (l.getD i default)):=zh (fun i hi=>(h9 i hi).lies.mono (fun _ h=>h.2));have hv:=zh (And.intro h8 hd);have HP:=zh hp;generalize hC:bT l=C;have HC:=zh hC.symm;clear Z h9 hx h8 hd hC hp;by_cases hq:(64:Int)<(l.length:Int)
 ·have V:=zh (HC.o.trans (sL (by omega)))
  go_enter Tryz.func12,Tryz.ntmps12
  go_wp2_with fail
  refine bodyPost_ret (v:=.tuple #[.int .i64 2,.int .i64 0]) (by simp [results,Tryz.results12,go_sem]) rfl ⟨by rw [V.o],ag (Below.refl _ _) _⟩
 replace HC:=zh (HC.o.trans (vN (by omega)));have HB:Hd (Below w.heap.size w (((w.alloc (.cells #[.slice s0 l.length cap] 43)).alloc (.map #[] 0)).alloc (.cells #[.map (some (w.heap.size+1)),.int .i64 0] 101))):=zh (ag (ag (ag (Below.refl _ _) _) _) _);have N:Hd ((((w.alloc (.cells #[.slice s0 l.length cap] 43)).alloc (.map #[] 0)).alloc (.cells #[.map (some (w.heap.size+1)),.int .i64 0] 101)).heap[w.heap.size]?=some (.cells #[.slice s0 l.length cap] 43 (0,0))):=zh (az _ _ _ _ (az _ _ _ _ (am _ _ _ rfl)));have A:Hd ((((w.alloc (.cells #[.slice s0 l.length cap] 43)).alloc (.map #[] 0)).alloc (.cells #[.map (some (w.heap.size+1)),.int .i64 0] 101)).heap[w.heap.size+2]?=some (.cells #[.map (some (w.heap.size+1)),.int .i64 0] 101 (0,0))):=zh (am _ _ _ (by rw [ah,ah]));have HM:Hd (MapAt (((w.alloc (.cells #[.slice s0 l.length cap] 43)).alloc (.map #[] 0)).alloc (.cells #[.map (some (w.heap.size+1)),.int .i64 0] 101)) (w.heap.size+1) []):=zh ⟨#[],0,az _ _ _ _ (am _ _ _ (ah _ _)),rfl⟩;have hy:=@run_makeMap Tryz.prog;have hE:=zh hq;obtain ⟨PF,hh⟩:∃PF,PF=dl l []:=⟨_,rfl⟩
 have t:=zh hh;clear hh;go_enter Tryz.func12,Tryz.ntmps12
 go_upto_region 4 with fail
 clear hy hq;generalize (((w.alloc (.cells #[.slice s0 l.length cap] 43)).alloc (.map #[] 0)).alloc (.cells #[.map (some (w.heap.size+1)),.int .i64 0] 101))=w1 at *;generalize hn:w.heap.size+2=CB at *;generalize hl:w.heap.size+1=FR at *;generalize hk:w.heap.size=PB at *;have H:=zh (And.intro hk (And.intro hl hn));clear hk hl hn;have p0:w1.cell? ⟨PB,0,none⟩=some (.slice s0 l.length cap):=aa N.o (j:=0) rfl;go_wp2_with fail
 clear p0;go_loopg [22] l.length (fun g t22 wr=>∃(i:Nat) (F:aO) (m:List (ByteArray×Value)),i+g=l.length∧t22=.int .i64 (i:Int)∧PF=dl (l.drop i) F∧MapAt wr FR m∧(∀W,Stays (fun b=>b<PB) w W→FunR W m F)∧(∀p,p∈F→p.2.params.length≤100000)∧Below PB w wr∧wr.heap[PB]?=some (.cells #[.slice s0 l.length cap] 43 (0,0))∧wr.heap[CB]?=some (.cells #[.map (some FR),.int .i64 0] 101 (0,0)))
 case atStart=>exact ⟨0,[],[],Nat.zero_add _,rfl,t.o,HM.o,fun _ _=>trivial,fun _ h=>(by cases h),HB.o,N.o,A.o⟩
 case round =>
  obtain ⟨i,F,m,hz,rfl,h5,hm,s,c,hb,h6,Q⟩:=hrel;clear HB N A HM;have O:=zh h5;have HM:=zh hm;have h3:=zh s;have hu:=zh c;have HB:=zh hb;have N:=zh h6;have A:=zh Q;clear h5 hm s c hb h6 Q;by_cases P:i<l.length
  ·obtain ⟨z,T⟩:=hv.o
   unfold maxLen at T;have g1:(i:Int)<(l.length:Int):=by omega
   have g3:(0:Int)≤(i:Int):=by omega
   obtain ⟨b,off,E,hA,h0,J⟩:=d.o (by omega);subst E;have D:=ht.o i P;obtain ⟨nm,s1,n1,c1,rs,s2,n2,c2,pos,R⟩:=uh D;rw [R] at D;have L:∀j,j<5→wr.cell? ⟨b,off+i * 5+j,none⟩=(cs i)[j]?:=fun j hj=>(HB.o.cell (p:=⟨b,_,none⟩) h0).trans (J i P j hj);rw [R] at L;have x0:wr.cell? ⟨b,off+i * 5,none⟩=some (.string nm):=L 0 (by decide);have x1:wr.cell? ⟨b,off+i * 5+1,none⟩=some (.slice s1 n1 c1):=L 1 (by decide);have x2:wr.cell? ⟨b,off+i * 5+2,none⟩=some (.int .i64 rs):=L 2 (by decide);have x3:wr.cell? ⟨b,off+i * 5+3,none⟩=some (.slice s2 n2 c2):=L 3 (by decide);have x4:wr.cell? ⟨b,off+i * 5+4,none⟩=some (.int .i64 pos):=L 4 (by decide);have a:l.getD i default∈l:=by rw [List.getD_eq_getElem?_getD,List.getElem?_eq_getElem P];exact List.getElem_mem P
   have c:=HP.o _ a;have ha:=yf D;have X:=zh (O.o.trans (zm l i P F));generalize l.getD i default=f at *;have U:=zh D;have x:=zh ha;have h4:=zh c;clear L D J R a ha c;go_upto_region 7 with fail
   have M:Below wr.heap.size wr (wr.alloc (.cells #[.string nm,.slice s1 n1 c1,.int .i64 rs,.slice s2 n2 c2,.int .i64 pos] 60)):=ag (Below.refl _ _) _;have I:Hd ((wr.alloc (.cells #[.string nm,.slice s1 n1 c1,.int .i64 rs,.slice s2 n2 c2,.int .i64 pos] 60)).heap[wr.heap.size]?=some (.cells #[.string nm,.slice s1 n1 c1,.int .i64 rs,.slice s2 n2 c2,.int .i64 pos] 60 (0,0))):=zh (am _ _ _ rfl);have hD:Hd (PB≤wr.heap.size∧CB<wr.heap.size∧FR<wr.heap.size):=zh ⟨qR H.o.1 HB.o,ae A.o,HM.o.lt⟩;replace N:=zh ((M.block _ (ae N.o)).trans N.o);replace A:=zh ((M.block _ (ae A.o)).trans A.o);replace HM:=zh (HM.o.below M);replace HB:=zh (HB.o.trans (M.mono (qR H.o.1 HB.o)));clear M x0 x1 x2 x3 x4;generalize (wr.alloc (.cells #[.string nm,.slice s1 n1 c1,.int .i64 rs,.slice s2 n2 c2,.int .i64 pos] 60))=w3 at *;generalize wr.heap.size=FB at *
   have n:∃qnm qs1 qn1 qc1 qrs qs2 qn2 qc2 qps bb,(∀W:World,Below w3.heap.size w3 W→(Instr.lookup 99 (.map (some FR)) (.string nm) true).run Tryz.prog W=.ok (.tuple #[.agg #[.string qnm,.slice qs1 qn1 qc1,.int .i64 qrs,.slice qs2 qn2 qc2,.int .i64 qps],.bool bb]) W)∧bb=(aI F nm).isSome:=by
    have s:=h3.o w3 (Stays.of_below (by rw [H.o.1];exact HB.o));rcases s.look nm with ⟨e1,e2⟩ | ⟨u,f,e1,e2,qnm,qs1,qn1,qc1,qrs,qs2,qn2,qc2,qps,rfl,_⟩
    ·refine ⟨⟨#[]⟩,none,0,0,0,none,0,0,0,false,fun W hW=>?_,by rw [e2];rfl⟩
     have q:=fO (HM.o.below hW) iT gz (lU W) nm;rw [e1] at q;exact q
    ·refine ⟨qnm,qs1,qn1,qc1,qrs,qs2,qn2,qc2,qps,true,fun W hW=>?_,by rw [e2];rfl⟩
     have q:=fO (HM.o.below hW) iT gz (lU W) nm;rw [e1] at q;exact q
   obtain ⟨qnm,qs1,qn1,qc1,qrs,qs2,qn2,qc2,qps,bb,n,hg⟩:=n;have k:=zh n;have hw:=zh hg;clear n hg;have E:w3.drew.cell? ⟨CB,0,none⟩=some (.map (some FR))∧w3.drew.cell? ⟨FB,0,none⟩=some (.string nm)∧(Instr.lookup 99 (.map (some FR)) (.string nm) true).run Tryz.prog w3.drew=.ok (.tuple #[.agg #[.string qnm,.slice qs1 qn1 qc1,.int .i64 qrs,.slice qs2 qn2 qc2,.int .i64 qps],.bool bb]) w3.drew:=⟨aa A.o (j:=0) rfl,aa I.o (j:=0) rfl,k.o _ (aB (Below.refl _ _))⟩
   refine wp_region_held (S:=(fun w':World=>w'.cell? ⟨CB,0,none⟩=some (.map (some FR))∧w'.cell? ⟨FB,0,none⟩=some (.string nm)∧(Instr.lookup 99 (.map (some FR)) (.string nm) true).run Tryz.prog w'=.ok (.tuple #[.agg #[.string qnm,.slice qs1 qn1 qc1,.int .i64 qrs,.slice qs2 qn2 qc2,.int .i64 qps],.bool bb]) w')) (by kernel_rfl) ?_;refine tkA 0 ?_;refine tkA 1 ?_;refine tkA 2 ?_;refine tkA 3 ?_;refine tkA 4 ?_;refine tkA 5 ?_;refine tkA 6 ?_;refine tkA 7 ?_;refine tkA 8 ?_;refine tkA 9 ?_;refine rd1 10 fun K hK=>?_;go_simp;refine hK.out _ _ ?_ (fun hH=>?_)
   ·exact ⟨ak _ E.1,ak _ E.2.1,k.o _ (ag (aB (Below.refl _ _)) _)⟩
   clear hK K;try go_simp
   refine rd1 11 fun K hK=>?_;go_simp;refine hK.out _ _ ?_ (fun hH=>?_)
   ·exact ⟨ak _ E.1,ak _ E.2.1,k.o _ (ag (aB (Below.refl _ _)) _)⟩
   clear hK K;try go_simp
   refine rd1 12 fun K hK=>?_;go_simp;refine hK.out _ _ ?_ (fun hH=>?_)
   ·exact ⟨ak _ E.1,ak _ E.2.1,k.o _ (ag (aB (Below.refl _ _)) _)⟩
   clear hK K;try go_simp
   refine wpAnyH_done (by kernel_rfl) ?_ _;clear E;have Y:Below w3.heap.size w3 (w3.alloc (.cells #[.string qnm,.slice qs1 qn1 qc1,.int .i64 qrs,.slice qs2 qn2 qc2,.int .i64 qps] 60)).drew:=aB (ag (Below.refl _ _) _);replace N:=zh ((Y.block _ (ae N.o)).trans N.o);replace A:=zh ((Y.block _ (ae A.o)).trans A.o);replace HM:=zh (HM.o.below Y);replace I:=zh ((Y.block _ (ae I.o)).trans I.o);replace HB:=zh (HB.o.trans (Y.mono (qR H.o.1 HB.o)));clear Y k;generalize (w3.alloc (.cells #[.string qnm,.slice qs1 qn1 qc1,.int .i64 qrs,.slice qs2 qn2 qc2,.int .i64 qps] 60)).drew=w4 at *
   cases bb
   ·replace X:=zh (X.o.trans (if_neg (by rw [←x.o.1,←hw.o];simp)))
    go_upto_region 10 with fail
    have E:w4.drew.cell? ⟨CB,0,none⟩=some (.map (some FR))∧w4.drew.cell? ⟨FB,0,none⟩=some (.string nm)∧w4.drew.cell? ⟨FB,1,none⟩=some (.slice s1 n1 c1)∧w4.drew.cell? ⟨FB,2,none⟩=some (.int .i64 rs)∧w4.drew.cell? ⟨FB,3,none⟩=some (.slice s2 n2 c2)∧w4.drew.cell? ⟨FB,4,none⟩=some (.int .i64 pos):=⟨aa A.o (j:=0) rfl,aa I.o (j:=0) rfl,aa I.o (j:=1) rfl,aa I.o (j:=2) rfl,aa I.o (j:=3) rfl,aa I.o (j:=4) rfl⟩
    refine aD (S:=(fun w':World=>w'.cell? ⟨CB,0,none⟩=some (.map (some FR))∧w'.cell? ⟨FB,0,none⟩=some (.string nm)∧w'.cell? ⟨FB,1,none⟩=some (.slice s1 n1 c1)∧w'.cell? ⟨FB,2,none⟩=some (.int .i64 rs)∧w'.cell? ⟨FB,3,none⟩=some (.slice s2 n2 c2)∧w'.cell? ⟨FB,4,none⟩=some (.int .i64 pos))) 7 (by kernel_rfl) (by kernel_rfl) (by exact E) (fun hH=>?_);simp only [List.take_succ_cons,List.take_zero,List.drop_succ_cons,List.drop_zero]
    refine tkA 0 ?_;refine tkA 1 ?_;refine tkA 2 ?_;refine tkA 3 ?_;refine tkA 4 ?_;refine tkA 5 ?_;refine tkA 6 ?_;refine wpAnyH_done (by kernel_rfl) ?_ _;dsimp only [cZ];clear E;have hs:Hd (MapAt w4.drew FR m):=zh (HM.o.keep rfl);have hp:=i9 hs.o iT gz nm (.agg #[.string nm,.slice s1 n1 c1,.int .i64 rs,.slice s2 n2 c2,.int .i64 pos]);have hB:=zh (lP hs.o nm (.agg #[.string nm,.slice s1 n1 c1,.int .i64 rs,.slice s2 n2 c2,.int .i64 pos]));have h2:=zh (jZ w4.drew FR nm (.agg #[.string nm,.slice s1 n1 c1,.int .i64 rs,.slice s2 n2 c2,.int .i64 pos]));go_wp2_with fail
    go_roundg (l.length-i-1)
    case measure=>omega
    case rel =>
     have h7:PB≠FR∧CB≠FR:=by have:=H.o;omega
     refine ⟨i+1,_,_,by omega,rfl,X.o,hB.o,fun W hW=>?_,?_,?_,h2.o.obj h7.1 N.o,h2.o.obj h7.2 A.o⟩
     ·rw [←x.o.1]
      exact (h3.o W hW).put nm ⟨nm,s1,n1,c1,rs,s2,n2,c2,pos,rfl,(U.o.keep hW).mono (fun _ _=>trivial)⟩
     ·exact zc hu.o h4.o
     ·have q:=h2.o.base (B:=w) (by rw [H.o.1];exact HB.o.drew) (by have:=H.o;omega)
      rw [H.o.1] at q;exact q
   have V:=zh (HC.o.trans (rJ (q:=(53,f.pos)) (G:=F) (t.o.symm.trans (X.o.trans (if_pos (by rw [←x.o.1,←hw.o])))) (by simp)));go_upto_region 9 with fail
   have E:w4.drew.cell? ⟨FB,4,none⟩=some (.int .i64 pos):=aa I.o (j:=4) rfl;refine wp_region_held (S:=(fun w':World=>w'.cell? ⟨FB,4,none⟩=some (.int .i64 pos))) (by kernel_rfl) ?_;refine tkA 0 ?_;refine tkA 1 ?_;refine rd1 2 fun K hK=>?_;go_simp;refine hK.out _ _ ?_ (fun hH=>?_)
   ·exact E
   clear hK K;try go_simp
   refine rd1 3 fun K hK=>?_;go_simp;refine hK.out _ _ ?_ (fun hH=>?_)
   ·exact E
   clear hK K;try go_simp
   refine wpAnyH_done (by kernel_rfl) ?_ _;go_wp2_with fail
   exact bodyPost_ret (v:=.tuple #[.int .i64 53,.int .i64 pos]) (by simp [results,Tryz.results12,go_sem]) rfl ⟨by rw [V.o,x.o.2.2.2.2],by rw [H.o.1];exact HB.o.drew⟩
  obtain rfl:i=l.length:=by omega
  have g1:¬(l.length:Int)<(l.length:Int):=by omega
  replace O:=zh (t.o.symm.trans (O.o.trans (by rw [List.drop_eq_nil_of_le (Nat.le_refl _),dl]:_=(okF,F))));replace HC:=zh (HC.o.trans (sw O.o));clear O t;have p0:wr.cell? ⟨PB,0,none⟩=some (.slice s0 l.length cap):=aa N.o (j:=0) rfl;go_wp2_with fail
  clear p0;have hc:C=gj F (l.drop 0):=HC.o;go_loopg [50] l.length (fun g t50 wr=>∃(i:Nat) (r:Int),i+g=l.length∧t50=.int .i64 (i:Int)∧C=gj F (l.drop i)∧MapAt wr FR m∧Below PB w wr∧wr.heap[CB]?=some (.cells #[.map (some FR),.int .i64 r] 101 (0,0)))
  case atStart=>exact ⟨0,0,Nat.zero_add _,rfl,hc,HM.o,HB.o,A.o⟩
  case round =>
   obtain ⟨i,r,hz,rfl,hf,hm,hb,Q⟩:=hrel;clear HB HM A hc HC;have HC:=zh hf;have HM:=zh hm;have HB:=zh hb;have A:=zh Q;clear hf hm hb Q;by_cases P:i<l.length
   ·obtain ⟨z,T⟩:=hv.o
    unfold maxLen at T;have g1:(i:Int)<(l.length:Int):=by omega
    have g3:(0:Int)≤(i:Int):=by omega
    obtain ⟨b,off,E,hA,h0,J⟩:=d.o (by omega);subst E;have D:=ht.o i P;obtain ⟨nm,s1,n1,c1,rs,s2,n2,c2,pos,R⟩:=uh D;rw [R] at D;have L:∀j,j<5→wr.cell? ⟨b,off+i * 5+j,none⟩=(cs i)[j]?:=fun j hj=>(HB.o.cell (p:=⟨b,_,none⟩) h0).trans (J i P j hj);rw [R] at L;have x0:wr.cell? ⟨b,off+i * 5,none⟩=some (.string nm):=L 0 (by decide);have x1:wr.cell? ⟨b,off+i * 5+1,none⟩=some (.slice s1 n1 c1):=L 1 (by decide);have x2:wr.cell? ⟨b,off+i * 5+2,none⟩=some (.int .i64 rs):=L 2 (by decide);have x3:wr.cell? ⟨b,off+i * 5+3,none⟩=some (.slice s2 n2 c2):=L 3 (by decide);have x4:wr.cell? ⟨b,off+i * 5+4,none⟩=some (.int .i64 pos):=L 4 (by decide);have X:=zh (HC.o.trans (yA F l i P));generalize l.getD i default=f at *;have U:=zh D;clear L D J R;go_upto_region 15 with fail
    have M:Below wr.heap.size wr (wr.alloc (.cells #[.string nm,.slice s1 n1 c1,.int .i64 rs,.slice s2 n2 c2,.int .i64 pos] 60)):=ag (Below.refl _ _) _;have I:Hd ((wr.alloc (.cells #[.string nm,.slice s1 n1 c1,.int .i64 rs,.slice s2 n2 c2,.int .i64 pos] 60)).heap[wr.heap.size]?=some (.cells #[.string nm,.slice s1 n1 c1,.int .i64 rs,.slice s2 n2 c2,.int .i64 pos] 60 (0,0))):=zh (am _ _ _ rfl);replace A:=zh ((M.block _ (ae A.o)).trans A.o);replace HM:=zh (HM.o.below M);replace HB:=zh (HB.o.trans (M.mono (qR H.o.1 HB.o)));clear M x0 x1 x2 x3 x4;generalize (wr.alloc (.cells #[.string nm,.slice s1 n1 c1,.int .i64 rs,.slice s2 n2 c2,.int .i64 pos] 60))=w3 at *;generalize wr.heap.size=FB at *;have h1:Hd (Stays (fun b=>b<PB) w w3):=zh (Stays.of_below (by rw [H.o.1];exact HB.o));have y:=zh (yD CB PB FR F hu.o m f w3 r (by have:=H.o;omega) (by have:=H.o;omega) A.o HM.o (fun W hW=>h3.o W (h1.o.trans hW)) nm s1 n1 c1 rs s2 n2 c2 pos (U.o.keep h1.o));generalize eV F f=q at *;obtain ⟨fe,fa⟩:=q;unfold bM at y;dsimp only at y;obtain ⟨y0,y1,y2,y3,y4,-⟩:=css I.o;go_wp2_with fail
    refine y.o.mono ?_;rintro e w4 ⟨rfl,ho,r2,Q⟩;clear y0 y1 y2 y3 y4 h1 y;replace HM:=zh (HM.o.keep (ho.block _ HM.o.lt (fun e=>by injection e with e;have:=H.o;omega)));replace HB:Hd (Below PB w w4):=zh (by have q:=ho.base (B:=w) (by rw [H.o.1];exact HB.o) (by have:=H.o;omega);rw [H.o.1] at q;exact q);replace A:=zh Q;clear ho Q I;go_upto_region 16 with fail
    have M:Below w4.heap.size w4 (w4.alloc (.cells #[.int .i64 fe,.int .i64 fa] 104)):=ag (Below.refl _ _) _;have I:Hd ((w4.alloc (.cells #[.int .i64 fe,.int .i64 fa] 104)).heap[w4.heap.size]?=some (.cells #[.int .i64 fe,.int .i64 fa] 104 (0,0))):=zh (am _ _ _ rfl);replace A:=zh ((M.block _ (ae A.o)).trans A.o);replace HM:=zh (HM.o.below M);replace HB:=zh (HB.o.trans (M.mono (qR H.o.1 HB.o)));clear M;generalize (w4.alloc (.cells #[.int .i64 fe,.int .i64 fa] 104))=w5 at *;generalize w4.heap.size=EB at *;by_cases he:fe=0
    ·subst he
     have z0:w5.cell? ⟨EB,0,none⟩=some (.int .i64 0):=aa I.o (j:=0) rfl;go_wp2_with fail
     go_roundg (l.length-i-1)
     case measure=>omega
     case rel=>exact ⟨i+1,r2,by omega,rfl,X.o.trans (by simp [orF]),HM.o,HB.o,A.o⟩
    have V:=zh (X.o.trans (show orF (fe,fa) _=(fe,fa) by simp [orF,he]));have z0:w5.cell? ⟨EB,0,none⟩=some (.int .i64 fe):=aa I.o (j:=0) rfl;go_upto_region 17 with fail
    have E:w5.drew.cell? ⟨EB,0,none⟩=some (.int .i64 fe)∧w5.drew.cell? ⟨EB,1,none⟩=some (.int .i64 fa):=⟨aa I.o (j:=0) rfl,aa I.o (j:=1) rfl⟩
    refine wp_region_held (S:=(fun w':World=>w'.cell? ⟨EB,0,none⟩=some (.int .i64 fe)∧w'.cell? ⟨EB,1,none⟩=some (.int .i64 fa))) (by kernel_rfl) ?_;refine tkA 0 ?_;refine tkA 1 ?_;refine tkA 2 ?_;refine tkA 3 ?_;refine rd1 4 fun K hK=>?_;go_simp;refine hK.out _ _ ?_ (fun hH=>?_)
    ·exact E
    clear hK K;try go_simp
    refine rd1 5 fun K hK=>?_;go_simp;refine hK.out _ _ ?_ (fun hH=>?_)
    ·exact E
    clear hK K;try go_simp
    refine wpAnyH_done (by kernel_rfl) ?_ _;go_wp2_with fail
    exact bodyPost_ret (v:=.tuple #[.int .i64 fe,.int .i64 fa]) (by simp [results,Tryz.results12,go_sem]) rfl ⟨by rw [V.o],by rw [H.o.1];exact HB.o.drew⟩
   obtain rfl:i=l.length:=by omega
   have g1:¬(l.length:Int)<(l.length:Int):=by omega
   have V:=zh (HC.o.trans (by rw [List.drop_eq_nil_of_le (Nat.le_refl _),gj]:_=okF));go_wp2_with fail
   exact bodyPost_ret (v:=.tuple #[.int .i64 0,.int .i64 0]) (by simp [results,Tryz.results12,go_sem]) rfl ⟨by rw [V.o];rfl,by rw [H.o.1];exact HB.o⟩
end
section
open Go.RowKit
def Keeps (T:TypeId→Prop) (w w':World):Prop:=∀k t,T t→OfTy w k t→w'.heap[k]?=w.heap[k]?
theorem Keeps.below {T:TypeId→Prop} {w w':World} (h:Below w.heap.size w w'):Keeps T w w':=fun k _ _ ht=>h.block k ht.lt
theorem Keeps.trans {T:TypeId→Prop} {a b c:World} (h:Keeps T a b) (g:Keeps T b c):Keeps T a c:=fun k t ht ho=>(g k t ht (ho.keep (h k t ht ho))).trans (h k t ht ho)
theorem Keeps.mono {T U:TypeId→Prop} {w w':World} (h:Keeps T w w') (ht:∀t,U t→T t):Keeps U w w':=fun k t hu ho=>h k t (ht t hu) ho
theorem Keeps.set {T:TypeId→Prop} {w:World} {k:Nat} {t:TypeId} (ho:OfTy w k t) (ht:¬T t) (j:Nat) (u:Value):Keeps T w (w.setCell ⟨k,j,none⟩ u):=fun _ _ q qo=>aj _ _ _ _ (qo.ne ho (fun e=>ht (e▸q)))
theorem Keeps.grown {T:TypeId→Prop} {B e sz n:Nat} {w w9:World} {v:Value} {xs:List Value} (hg:w.grownBy w9 v.ownBlock) (ho:w.ownsRow B e sz v n xs) (ht:¬T e):Keeps T w w9:=fun _ _ q qo=>vY hg ho qo (fun h=>ht (h▸q))
theorem Keeps.fx {B NB:Nat} {w w':World} (hf:Fx B w.heap.size NB w w') (hn:∀t,¬OfTy w NB t):Keeps (fun t=>t≠63∧t≠56∧t≠22) w w':=fun k t ht ho=>by
 obtain ⟨a,fz,ho⟩:=ho;by_cases e:t=35
 ·subst e
  exact (hf.ins ho (aH hn ho) (ae ho)).trans ho.symm
 ·exact (hf.obj ho (aH hn ho) ht.1 ht.2.1 e ht.2.2).trans ho.symm
theorem Fx.fresh {B M NB:Nat} {a b c:World} (h:Fx B M NB a b) (g:OnS (fun k=>a.heap.size≤k) b c):Fx B M NB a c:=OnS.new h g fun _ hk=>.inr hk
structure TxAt (B:Nat) (w:World) (TB NB:Nat) (T:List ByteArray):Prop where
 bt:B≤TB
 bn:B≤NB
 t:∃tv vs,w.heap[TB]?=some (.cells #[tv,.map (some NB)] 56 (0,0))∧w.ownsRow B 22 1 tv T.length vs∧∀i,i<T.length→∃v,vs[i]?=some v∧ByAt B w v (T.getD i default)
 n:MapAt w NB (iC 0 T)
section
variable {B M MB TB NB:Nat} {w w':World} {fv:Value} {s:CS} {T:List ByteArray} {F:List Fn} {w0:World}
theorem MkAt.tx (h:MkAt B M w MB TB NB fv s):TxAt B w TB NB s.texts:=⟨h.bt,h.bn,h.t,h.n⟩
theorem TxAt.keep (h:TxAt B w TB NB T) (hk:Keeps (fun t=>t=56∨t=22∨t=5) w w') (hn:w'.heap[NB]?=w.heap[NB]?):TxAt B w' TB NB T:=by
 obtain ⟨tv,vs,h1,h2,h3⟩:=h.t;refine ⟨h.bt,h.bn,⟨tv,vs,(hk _ _ (.inl rfl) ⟨_,_,h1⟩).trans h1,bG h2 fun k q=>hk _ _ (.inr (.inl rfl)) (bD h2 q),fun i hi=>?_⟩,h.n.keep hn⟩;obtain ⟨v,q1,b,cap,q2,q3,q4,q5,q6⟩:=h3 i hi;have e:=hk b _ (.inr (.inr rfl)) q5;exact ⟨v,q1,b,cap,q2,q3,q4,q5.keep e,fun j hj=>(World.cell?_of_block (w:=w) e).trans (q6 j hj)⟩
theorem TxAt.mk' (h:TxAt B w TB NB T) (hm:w.heap[MB]?=some (.cells #[.pointer (some ⟨TB,0,none⟩),fv,.slice none 0 0,.int .i64 0] 63 (0,0))) (h1:B≤M) (h2:M≤MB):MkAt B M w MB TB NB fv ⟨[],0,T⟩:=
 ⟨Nat.le_trans h1 h2,h1,h2,h.bt,h.bn,⟨_,hm,iB⟩,h.t,h.n⟩
theorem MkAt.keep (h:MkAt B M w MB TB NB fv s) (hk:Keeps (fun t=>t=63∨t=35∨t=56∨t=22∨t=5) w w') (hn:w'.heap[NB]?=w.heap[NB]?):MkAt B M w' MB TB NB fv s:=by
 obtain ⟨iv,h1,h2⟩:=h.m;have q:=h.tx.keep (hk.mono fun t q=>.inr (.inr q)) hn;exact ⟨h.bm,h.mm,h.ml,h.bt,h.bn,⟨iv,(hk _ _ (.inl rfl) ⟨_,_,h1⟩).trans h1,bG h2 fun k q=>hk _ _ (.inr (.inl rfl)) (bD h2 q)⟩,q.t,q.n⟩
theorem CoW.keep (h:CoW B M MB TB NB fv F w0 w s) (hb:Below B w w') (hm:MkAt B M w' MB TB NB fv s):CoW B M MB TB NB fv F w0 w' s:=
 ⟨h.old.trans hb,hm,h.sg.below hb h.sb,h.sb,h.fn.keep (Stays.of_lt hb),Nat.le_trans h.le hb.size⟩
end
def mG (l:List Int):List Value:=l.map (Value.int .i64)
def CdDone (B:Nat) (w:World) (cs:List Value) (c:Cd):Prop:=∃pv iv,cs=[.string c.name,pv,.int .i64 c.result,.int .i64 c.slots,iv]∧w.ownsRow B 38 1 pv c.params.length (mG c.params)∧w.ownsRow B 35 2 iv c.ins.length (fI c.ins)
theorem CdDone.len {B:Nat} {w:World} {cs:List Value} {c:Cd} (h:CdDone B w cs c):cs.length=5:=by
 obtain ⟨_,_,rfl,_⟩:=h;rfl
theorem CdDone.keep {B:Nat} {w w':World} {cs:List Value} {c:Cd} (h:CdDone B w cs c) (hk:Keeps (fun t=>t=38∨t=35) w w'):CdDone B w' cs c:=by
 obtain ⟨pv,iv,rfl,h1,h2⟩:=h;exact ⟨pv,iv,rfl,bG h1 fun k q=>hk _ _ (.inl rfl) (bD h1 q),bG h2 fun k q=>hk _ _ (.inr rfl) (bD h2 q)⟩
def CdsAt (B:Nat) (w:World) (A:Nat) (l:List Cd):Prop:=∃cv cs,w.heap[A]?=some (.cells #[cv,.slice none 0 0] 27 (0,0))∧w.ownsRow B 40 5 cv l.length (dY cs l.length)∧∀i,i<l.length→CdDone B w (cs i) (l.getD i default)
theorem CdsAt.keep {B A:Nat} {w w':World} {l:List Cd} (h:CdsAt B w A l) (hk:Keeps (fun t=>t=38∨t=35∨t=40∨t=27) w w'):CdsAt B w' A l:=by
 obtain ⟨cv,cs,h1,h2,h3⟩:=h;exact ⟨cv,cs,(hk _ _ (.inr (.inr (.inr rfl))) ⟨_,_,h1⟩).trans h1,bG h2 fun k q=>hk _ _ (.inr (.inr (.inl rfl))) (bD h2 q),fun i hi=>(h3 i hi).keep (hk.mono fun t q=>q.imp id .inl)⟩
theorem CdsAt.push {B A g cap:Nat} {w w9:World} {l:List Cd} {c:Cd} {cv:Value} {cs:Nat→List Value} {new:List Value} (h1:w.heap[A]?=some (.cells #[cv,.slice none 0 0] 27 (0,0))) (h3:∀i,i<l.length→CdDone B w (cs i) (l.getD i default)) (hd:CdDone B w new c)
    (hk:Keeps (fun t=>t≠40) w w9) (ho:w9.ownsRow B 40 5 (.slice (some ⟨g,0,none⟩) (l.length+1) cap) (l.length+1) (dY cs l.length++new)):CdsAt B (w9.setCell ⟨A,0,none⟩ (.slice (some ⟨g,0,none⟩) (l.length+1) cap)) A (l++[c]):=by
 have h9:=(hk _ _ (by decide) ⟨_,_,h1⟩:w9.heap[A]?=w.heap[A]?).trans h1;have hs:Keeps (fun t=>t≠27) w9 (w9.setCell ⟨A,0,none⟩ (.slice (some ⟨g,0,none⟩) (l.length+1) cap)):=Keeps.set ⟨_,_,h9⟩ (fun h=>h rfl) 0 _;have C:∀{x:List Value} {y:Cd},CdDone B w x y→CdDone B (w9.setCell ⟨A,0,none⟩ (.slice (some ⟨g,0,none⟩) (l.length+1) cap)) x y:=fun q=>(q.keep (hk.mono fun t q=>by rcases q with rfl | rfl<;>decide)).keep (hs.mono fun t q=>by rcases q with rfl | rfl<;>decide);refine ⟨_,(fun i=>if i<l.length then cs i else new),aq h9 0 _,?_,fun i hi=>?_⟩
 ·rw [List.length_append,show [c].length=1 from rfl,nY]
  exact bG ho fun k q=>hs _ _ (by decide) (bD ho q)
 ·by_cases e:i<l.length
  ·dsimp only
   rw [if_pos e,jN _ _ _ e];exact C (h3 i e)
  ·have D:i<l.length+1:=by simpa using hi
   obtain rfl:i=l.length:=by omega
   dsimp only;rw [if_neg e,jQ];exact C hd
structure OutW (B PB RB MOB TB NB:Nat) (fv:Value) (F:List Fn) (w0 W:World) (p:List Cd×List ByteArray):Prop where
 old:Below B w0 W
 sg:Signs W
 sb:0<B
 fn:RepFns (fun b=>b<B) W fv F
 le:B≤W.heap.size
 pb:W.heap[PB]?=some (.cells #[fv] 43 (0,0))
 rb:W.heap[RB]?=some (.cells #[.slice none 0 0,.slice none 0 0] 27 (0,0))
 bm:RB≠MOB
 bb:B≤MOB
 tx:TxAt B W TB NB p.2
 cd:CdsAt B W MOB p.1
theorem kG:∀(l:List (ByteArray×Int)) (q:ByteArray×Int) (p:bf×Int),aF (l++[q]) p=(bQ (aF l p).1 q.1 (aF l p).2,(aF l p).2+1)
 | [],q,p=>by rw [List.nil_append,aF,aF,aF]
 | x :: l,q,p=>by rw [List.cons_append,aF,aF,kG l q]
theorem jd:∀(l:List (ByteArray×Int)) (p:bf×Int),(aF l p).2=p.2+l.length
 | [],p=>by rw [aF];simp
 | x :: l,p=>by rw [aF,jd l];simp;omega
theorem lH (F:List Fn):∀(l:List Fn) (f:Fn) (p:List Cd×List ByteArray),bA F (l++[f]) p=((bA F l p).1++[(dg F f (bA F l p).2).1],(dg F f (bA F l p).2).2)
 | [],f,p=>by rw [List.nil_append,bA,bA,bA]
 | x :: l,f,p=>by rw [List.cons_append,bA,bA,lH F l f]
theorem jC (F:List Fn):∀(l:List Fn) (p:List Cd×List ByteArray),(bA F l p).1.length=p.1.length+l.length
 | [],p=>by rw [bA];simp
 | x :: l,p=>by rw [bA,jC F l];simp;omega
end
end Go.Proofs.YtmlgbkomdhcaoaaGreatDoor
