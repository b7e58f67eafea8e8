/-
  EvalSigns: part 39 of its proof: see the last text.
-/
import Derived.Test.YthgcpfkochikfaaGreatPs38
import Derived.Test.YthgcpfkochikfaaGreatPs29
set_option maxRecDepth 100000
set_option maxHeartbeats 16000000
namespace Go.Proofs.YthgcpfkochikfaaGreat
section
open Go.RowKit
theorem qJ {w wr:World} {P:Nat} (h:w.heap.size=P) (hb:Below P w wr):P≤wr.heap.size:=by rw [←h];exact hb.size
theorem ux {S:Nat→Prop} {w:World} {cs:List Value} {f:Fn} (h:RepFn S w cs f):∃nm s1 n1 c1 rs s2 n2 c2 pos,cs=[.string nm,.slice s1 n1 c1,.int .i64 rs,.slice s2 n2 c2,.int .i64 pos]:=by
 obtain ⟨vp,vb,rfl,⟨c,⟨a1,a2,rfl,_⟩,_⟩,⟨c',⟨b1,b2,rfl,_⟩,_⟩⟩:=h;exact ⟨_,_,_,_,_,_,_,_,_,rfl⟩
theorem xL {S:Nat→Prop} {w:World} {f:Fn} {nm:ByteArray} {rs pos:Int} {s1 s2:Option Addr} {n1 c1 n2 c2:Nat} (h:RepFn S w [.string nm,.slice s1 n1 c1,.int .i64 rs,.slice s2 n2 c2,.int .i64 pos] f):nm=f.name∧n1=f.params.length∧rs=f.result∧n2=f.body.length∧pos=f.pos:=by
 obtain ⟨vp,vb,e,⟨c,⟨a1,a2,rfl,_⟩,_⟩,⟨c',⟨b1,b2,rfl,_⟩,_⟩⟩:=h;simp only [List.cons.injEq,Value.int.injEq,Value.string.injEq,Value.slice.injEq,true_and,and_true] at e
 exact ⟨e.1,e.2.1.2.1,e.2.2.1,e.2.2.2.1.2.1,e.2.2.2.2⟩
theorem FunR.put {w:World} (k:ByteArray) {u:Value} {f:Fn} (hf:FnV w u f):∀{m:List (ByteArray×Value)} {F:aU},FunR w m F→FunR w (bZ m k u) (bZ F k f)
 | [],[],_=>⟨rfl,hf,trivial⟩
 | p :: m,q :: F,⟨h1,h2,h3⟩=>by
  simp only [bZ]
  rw [h1];split
  ·exact ⟨rfl,hf,h3⟩
  ·exact ⟨h1,h2,h3.put k hf⟩
theorem zQ {F:aU} {k:ByteArray} {f:Fn} (h:∀p,p∈F→p.2.params.length≤100000) (hf:f.params.length≤100000):∀p,p∈bZ F k f→p.2.params.length≤100000:=by
 induction F with
 | nil =>
  intro p hp;simp only [bZ,List.mem_singleton] at hp
  subst hp;exact hf
 | cons q F ih =>
  intro p hp;simp only [bZ] at hp
  split at hp
  ·rcases List.mem_cons.1 hp with rfl | hp
   ·exact hf
   ·exact h p (List.mem_cons_of_mem _ hp)
  ·rcases List.mem_cons.1 hp with rfl | hp
   ·exact h _ (List.mem_cons_self ..)
   ·exact ih (fun p hp=>h p (List.mem_cons_of_mem _ hp)) p hp
theorem Ao (l:List Fn) (i:Nat) (hi:i<l.length) (F:aU):dq (l.drop i) F=if (aL F (l.getD i default).name).isSome then ((53,(l.getD i default).pos),F) else dq (l.drop (i+1)) (bZ F (l.getD i default).name (l.getD i default)):=by
 rw [List.drop_eq_getElem_cons hi,dq,List.getD_eq_getElem?_getD,List.getElem?_eq_getElem hi];rfl
theorem Ay (F:aU) (l:List Fn) (i:Nat) (hi:i<l.length):gx F (l.drop i)=orF (fN F (l.getD i default)) (gx F (l.drop (i+1))):=by
 rw [List.drop_eq_getElem_cons hi,gx,List.getD_eq_getElem?_getD,List.getElem?_eq_getElem hi];rfl
theorem sN {l:List Fn} (h:64<l.length):bL l=(2,0):=by
 unfold bL;rw [if_pos h]
theorem vT {l:List Fn} (h:¬64<l.length):bL l=if (dq l []).1.1≠0 then (dq l []).1 else gx (dq l []).2 l:=by
 unfold bL;rw [if_neg h]
theorem rA {l:List Fn} {q:Flt} {G:aU} (h:dq l []=(q,G)) (hq:¬q.1=0):(if (dq l []).1.1≠0 then (dq l []).1 else gx (dq l []).2 l)=q:=by
 rw [h,if_pos hq]
theorem sL {l:List Fn} {G:aU} (h:dq l []=(okF,G)):(if (dq l []).1.1≠0 then (dq l []).1 else gx (dq l []).2 l)=gx G l:=by
 rw [h,if_neg (by simp [okF])]
theorem rM (l:List Fn) (hp:∀f,f∈l→f.params.length≤100000) (w:World) (u:Value) (hr:RepFns Any w u l) :
    Calls Tryz.prog 28 #[.agg #[u]] w fun e w'=>e=.returned (.tuple #[.int .i64 (bL l).1,.int .i64 (bL l).2])∧Below w.heap.size w w':=by
 obtain ⟨cs,⟨s0,cap,rfl,h8,hd,_,Z,hx⟩,h9⟩:=hr;have d:=zh Z;have ht:Hd (∀i,i<l.length→RepFn (fun b=>b<w.heap.size) w (cs i) (l.getD i default)):=zh (fun i hi=>(h9 i hi).lies.mono (fun _ h=>h.2));have hv:=zh (And.intro h8 hd);have HP:=zh hp;generalize hC:bL l=C;have HC:=zh hC.symm;clear Z h9 hx h8 hd hC hp;by_cases hq:(64:Int)<(l.length:Int)
 ·have V:=zh (HC.o.trans (sN (by omega)))
  go_enter Tryz.func28,Tryz.ntmps28
  go_wp2_with fail
  refine bodyPost_ret (v:=.tuple #[.int .i64 2,.int .i64 0]) (by simp [results,Tryz.results28,go_sem]) rfl ⟨by rw [V.o],ag (Below.refl _ _) _⟩
 replace HC:=zh (HC.o.trans (vT (by omega)));have HB:Hd (Below w.heap.size w (((w.alloc (.cells #[.slice s0 l.length cap] 26)).alloc (.map #[] 0)).alloc (.cells #[.map (some (w.heap.size+1)),.int .i64 0] 115))):=zh (ag (ag (ag (Below.refl _ _) _) _) _);have N:Hd ((((w.alloc (.cells #[.slice s0 l.length cap] 26)).alloc (.map #[] 0)).alloc (.cells #[.map (some (w.heap.size+1)),.int .i64 0] 115)).heap[w.heap.size]?=some (.cells #[.slice s0 l.length cap] 26 (0,0))):=zh (ax _ _ _ _ (ax _ _ _ _ (aj _ _ _ rfl)));have A:Hd ((((w.alloc (.cells #[.slice s0 l.length cap] 26)).alloc (.map #[] 0)).alloc (.cells #[.map (some (w.heap.size+1)),.int .i64 0] 115)).heap[w.heap.size+2]?=some (.cells #[.map (some (w.heap.size+1)),.int .i64 0] 115 (0,0))):=zh (aj _ _ _ (by rw [ah,ah]));have HM:Hd (MapAt (((w.alloc (.cells #[.slice s0 l.length cap] 26)).alloc (.map #[] 0)).alloc (.cells #[.map (some (w.heap.size+1)),.int .i64 0] 115)) (w.heap.size+1) []):=zh ⟨#[],0,ax _ _ _ _ (aj _ _ _ (ah _ _)),rfl⟩;have hy:=@run_makeMap Tryz.prog;have hE:=zh hq;obtain ⟨PF,hh⟩:∃PF,PF=dq l []:=⟨_,rfl⟩
 have t:=zh hh;clear hh;go_enter Tryz.func28,Tryz.ntmps28
 go_upto_region 4 with fail
 clear hy hq;generalize (((w.alloc (.cells #[.slice s0 l.length cap] 26)).alloc (.map #[] 0)).alloc (.cells #[.map (some (w.heap.size+1)),.int .i64 0] 115))=w1 at *;generalize hn:w.heap.size+2=CB at *;generalize hl:w.heap.size+1=FR at *;generalize hk:w.heap.size=PB at *;have H:=zh (And.intro hk (And.intro hl hn));clear hk hl hn;have p0:w1.cell? ⟨PB,0,none⟩=some (.slice s0 l.length cap):=aa N.o (j:=0) rfl;go_wp2_with fail
 clear p0;go_loopg [22] l.length (fun g t22 wr=>∃(i:Nat) (F:aU) (m:List (ByteArray×Value)),i+g=l.length∧t22=.int .i64 (i:Int)∧PF=dq (l.drop i) F∧MapAt wr FR m∧(∀W,Stays (fun b=>b<PB) w W→FunR W m F)∧(∀p,p∈F→p.2.params.length≤100000)∧Below PB w wr∧wr.heap[PB]?=some (.cells #[.slice s0 l.length cap] 26 (0,0))∧wr.heap[CB]?=some (.cells #[.map (some FR),.int .i64 0] 115 (0,0)))
 case atStart=>exact ⟨0,[],[],Nat.zero_add _,rfl,t.o,HM.o,fun _ _=>trivial,fun _ h=>(by cases h),HB.o,N.o,A.o⟩
 case round =>
  obtain ⟨i,F,m,hz,rfl,h5,hm,s,c,hb,h6,Q⟩:=hrel;clear HB N A HM;have O:=zh h5;have HM:=zh hm;have h3:=zh s;have hu:=zh c;have HB:=zh hb;have N:=zh h6;have A:=zh Q;clear h5 hm s c hb h6 Q;by_cases P:i<l.length
  ·obtain ⟨z,T⟩:=hv.o
   unfold maxLen at T;have g1:(i:Int)<(l.length:Int):=by omega
   have g3:(0:Int)≤(i:Int):=by omega
   obtain ⟨b,off,E,hA,h0,J⟩:=d.o (by omega);subst E;have D:=ht.o i P;obtain ⟨nm,s1,n1,c1,rs,s2,n2,c2,pos,R⟩:=ux D;rw [R] at D;have L:∀j,j<5→wr.cell? ⟨b,off+i * 5+j,none⟩=(cs i)[j]?:=fun j hj=>(HB.o.cell (p:=⟨b,_,none⟩) h0).trans (J i P j hj);rw [R] at L;have x0:wr.cell? ⟨b,off+i * 5,none⟩=some (.string nm):=L 0 (by decide);have x1:wr.cell? ⟨b,off+i * 5+1,none⟩=some (.slice s1 n1 c1):=L 1 (by decide);have x2:wr.cell? ⟨b,off+i * 5+2,none⟩=some (.int .i64 rs):=L 2 (by decide);have x3:wr.cell? ⟨b,off+i * 5+3,none⟩=some (.slice s2 n2 c2):=L 3 (by decide);have x4:wr.cell? ⟨b,off+i * 5+4,none⟩=some (.int .i64 pos):=L 4 (by decide);have a:l.getD i default∈l:=by rw [List.getD_eq_getElem?_getD,List.getElem?_eq_getElem P];exact List.getElem_mem P
   have c:=HP.o _ a;have ha:=xL D;have X:=zh (O.o.trans (Ao l i P F));generalize l.getD i default=f at *;have U:=zh D;have x:=zh ha;have h4:=zh c;clear L D J R a ha c;go_upto_region 7 with fail
   have M:Below wr.heap.size wr (wr.alloc (.cells #[.string nm,.slice s1 n1 c1,.int .i64 rs,.slice s2 n2 c2,.int .i64 pos] 76)):=ag (Below.refl _ _) _;have I:Hd ((wr.alloc (.cells #[.string nm,.slice s1 n1 c1,.int .i64 rs,.slice s2 n2 c2,.int .i64 pos] 76)).heap[wr.heap.size]?=some (.cells #[.string nm,.slice s1 n1 c1,.int .i64 rs,.slice s2 n2 c2,.int .i64 pos] 76 (0,0))):=zh (aj _ _ _ rfl);have hD:Hd (PB≤wr.heap.size∧CB<wr.heap.size∧FR<wr.heap.size):=zh ⟨qJ H.o.1 HB.o,af A.o,HM.o.lt⟩;replace N:=zh ((M.block _ (af N.o)).trans N.o);replace A:=zh ((M.block _ (af A.o)).trans A.o);replace HM:=zh (HM.o.below M);replace HB:=zh (HB.o.trans (M.mono (qJ H.o.1 HB.o)));clear M x0 x1 x2 x3 x4;generalize (wr.alloc (.cells #[.string nm,.slice s1 n1 c1,.int .i64 rs,.slice s2 n2 c2,.int .i64 pos] 76))=w3 at *;generalize wr.heap.size=FB at *
   have n:∃qnm qs1 qn1 qc1 qrs qs2 qn2 qc2 qps bb,(∀W:World,Below w3.heap.size w3 W→(Instr.lookup 113 (.map (some FR)) (.string nm) true).run Tryz.prog W=.ok (.tuple #[.agg #[.string qnm,.slice qs1 qn1 qc1,.int .i64 qrs,.slice qs2 qn2 qc2,.int .i64 qps],.bool bb]) W)∧bb=(aL F nm).isSome:=by
    have s:=h3.o w3 (Stays.of_below (by rw [H.o.1];exact HB.o));rcases s.look nm with ⟨e1,e2⟩ | ⟨u,f,e1,e2,qnm,qs1,qn1,qc1,qrs,qs2,qn2,qc2,qps,rfl,_⟩
    ·refine ⟨⟨#[]⟩,none,0,0,0,none,0,0,0,false,fun W hW=>?_,by rw [e2];rfl⟩
     have q:=fK (HM.o.below hW) jh gl (lW W) nm;rw [e1] at q;exact q
    ·refine ⟨qnm,qs1,qn1,qc1,qrs,qs2,qn2,qc2,qps,true,fun W hW=>?_,by rw [e2];rfl⟩
     have q:=fK (HM.o.below hW) jh gl (lW W) nm;rw [e1] at q;exact q
   obtain ⟨qnm,qs1,qn1,qc1,qrs,qs2,qn2,qc2,qps,bb,n,hg⟩:=n;have k:=zh n;have hw:=zh hg;clear n hg;have E:w3.drew.cell? ⟨CB,0,none⟩=some (.map (some FR))∧w3.drew.cell? ⟨FB,0,none⟩=some (.string nm)∧(Instr.lookup 113 (.map (some FR)) (.string nm) true).run Tryz.prog w3.drew=.ok (.tuple #[.agg #[.string qnm,.slice qs1 qn1 qc1,.int .i64 qrs,.slice qs2 qn2 qc2,.int .i64 qps],.bool bb]) w3.drew:=⟨aa A.o (j:=0) rfl,aa I.o (j:=0) rfl,k.o _ (aw (Below.refl _ _))⟩
   refine wp_region_held (S:=(fun w':World=>w'.cell? ⟨CB,0,none⟩=some (.map (some FR))∧w'.cell? ⟨FB,0,none⟩=some (.string nm)∧(Instr.lookup 113 (.map (some FR)) (.string nm) true).run Tryz.prog w'=.ok (.tuple #[.agg #[.string qnm,.slice qs1 qn1 qc1,.int .i64 qrs,.slice qs2 qn2 qc2,.int .i64 qps],.bool bb]) w')) (by kernel_rfl) ?_;refine tkA 0 ?_;refine tkA 1 ?_;refine tkA 2 ?_;refine tkA 3 ?_;refine tkA 4 ?_;refine tkA 5 ?_;refine tkA 6 ?_;refine tkA 7 ?_;refine tkA 8 ?_;refine tkA 9 ?_;refine rd1 10 fun K hK=>?_;go_simp;refine hK.out _ _ ?_ (fun hH=>?_)
   ·exact ⟨aq _ E.1,aq _ E.2.1,k.o _ (ag (aw (Below.refl _ _)) _)⟩
   clear hK K;try go_simp
   refine rd1 11 fun K hK=>?_;go_simp;refine hK.out _ _ ?_ (fun hH=>?_)
   ·exact ⟨aq _ E.1,aq _ E.2.1,k.o _ (ag (aw (Below.refl _ _)) _)⟩
   clear hK K;try go_simp
   refine rd1 12 fun K hK=>?_;go_simp;refine hK.out _ _ ?_ (fun hH=>?_)
   ·exact ⟨aq _ E.1,aq _ E.2.1,k.o _ (ag (aw (Below.refl _ _)) _)⟩
   clear hK K;try go_simp
   refine wpAnyH_done (by kernel_rfl) ?_ _;clear E;have Y:Below w3.heap.size w3 (w3.alloc (.cells #[.string qnm,.slice qs1 qn1 qc1,.int .i64 qrs,.slice qs2 qn2 qc2,.int .i64 qps] 76)).drew:=aw (ag (Below.refl _ _) _);replace N:=zh ((Y.block _ (af N.o)).trans N.o);replace A:=zh ((Y.block _ (af A.o)).trans A.o);replace HM:=zh (HM.o.below Y);replace I:=zh ((Y.block _ (af I.o)).trans I.o);replace HB:=zh (HB.o.trans (Y.mono (qJ H.o.1 HB.o)));clear Y k;generalize (w3.alloc (.cells #[.string qnm,.slice qs1 qn1 qc1,.int .i64 qrs,.slice qs2 qn2 qc2,.int .i64 qps] 76)).drew=w4 at *
   cases bb
   ·replace X:=zh (X.o.trans (if_neg (by rw [←x.o.1,←hw.o];simp)))
    go_upto_region 10 with fail
    have E:w4.drew.cell? ⟨CB,0,none⟩=some (.map (some FR))∧w4.drew.cell? ⟨FB,0,none⟩=some (.string nm)∧w4.drew.cell? ⟨FB,1,none⟩=some (.slice s1 n1 c1)∧w4.drew.cell? ⟨FB,2,none⟩=some (.int .i64 rs)∧w4.drew.cell? ⟨FB,3,none⟩=some (.slice s2 n2 c2)∧w4.drew.cell? ⟨FB,4,none⟩=some (.int .i64 pos):=⟨aa A.o (j:=0) rfl,aa I.o (j:=0) rfl,aa I.o (j:=1) rfl,aa I.o (j:=2) rfl,aa I.o (j:=3) rfl,aa I.o (j:=4) rfl⟩
    refine ay (S:=(fun w':World=>w'.cell? ⟨CB,0,none⟩=some (.map (some FR))∧w'.cell? ⟨FB,0,none⟩=some (.string nm)∧w'.cell? ⟨FB,1,none⟩=some (.slice s1 n1 c1)∧w'.cell? ⟨FB,2,none⟩=some (.int .i64 rs)∧w'.cell? ⟨FB,3,none⟩=some (.slice s2 n2 c2)∧w'.cell? ⟨FB,4,none⟩=some (.int .i64 pos))) 7 (by kernel_rfl) (by kernel_rfl) (by exact E) (fun hH=>?_);simp only [List.take_succ_cons,List.take_zero,List.drop_succ_cons,List.drop_zero]
    refine tkA 0 ?_;refine tkA 1 ?_;refine tkA 2 ?_;refine tkA 3 ?_;refine tkA 4 ?_;refine tkA 5 ?_;refine tkA 6 ?_;refine wpAnyH_done (by kernel_rfl) ?_ _;dsimp only [aP];clear E;have hs:Hd (MapAt w4.drew FR m):=zh (HM.o.keep rfl);have hp:=fM hs.o jh gl nm (.agg #[.string nm,.slice s1 n1 c1,.int .i64 rs,.slice s2 n2 c2,.int .i64 pos]);have hB:=zh (jJ hs.o nm (.agg #[.string nm,.slice s1 n1 c1,.int .i64 rs,.slice s2 n2 c2,.int .i64 pos]));have h2:=zh (gj w4.drew FR nm (.agg #[.string nm,.slice s1 n1 c1,.int .i64 rs,.slice s2 n2 c2,.int .i64 pos]));go_wp2_with fail
    go_roundg (l.length-i-1)
    case measure=>omega
    case rel =>
     have h7:PB≠FR∧CB≠FR:=by have:=H.o;omega
     refine ⟨i+1,_,_,by omega,rfl,X.o,hB.o,fun W hW=>?_,?_,?_,h2.o.obj h7.1 N.o,h2.o.obj h7.2 A.o⟩
     ·rw [←x.o.1]
      exact (h3.o W hW).put nm ⟨nm,s1,n1,c1,rs,s2,n2,c2,pos,rfl,(U.o.keep hW).mono (fun _ _=>trivial)⟩
     ·exact zQ hu.o h4.o
     ·have q:=h2.o.base (B:=w) (by rw [H.o.1];exact HB.o.drew) (by have:=H.o;omega)
      rw [H.o.1] at q;exact q
   have V:=zh (HC.o.trans (rA (q:=(53,f.pos)) (G:=F) (t.o.symm.trans (X.o.trans (if_pos (by rw [←x.o.1,←hw.o])))) (by simp)));go_upto_region 9 with fail
   have E:w4.drew.cell? ⟨FB,4,none⟩=some (.int .i64 pos):=aa I.o (j:=4) rfl;refine wp_region_held (S:=(fun w':World=>w'.cell? ⟨FB,4,none⟩=some (.int .i64 pos))) (by kernel_rfl) ?_;refine tkA 0 ?_;refine tkA 1 ?_;refine rd1 2 fun K hK=>?_;go_simp;refine hK.out _ _ ?_ (fun hH=>?_)
   ·exact E
   clear hK K;try go_simp
   refine rd1 3 fun K hK=>?_;go_simp;refine hK.out _ _ ?_ (fun hH=>?_)
   ·exact E
   clear hK K;try go_simp
   refine wpAnyH_done (by kernel_rfl) ?_ _;go_wp2_with fail
   exact bodyPost_ret (v:=.tuple #[.int .i64 53,.int .i64 pos]) (by simp [results,Tryz.results28,go_sem]) rfl ⟨by rw [V.o,x.o.2.2.2.2],by rw [H.o.1];exact HB.o.drew⟩
  obtain rfl:i=l.length:=by omega
  have g1:¬(l.length:Int)<(l.length:Int):=by omega
  replace O:=zh (t.o.symm.trans (O.o.trans (by rw [List.drop_eq_nil_of_le (Nat.le_refl _),dq]:_=(okF,F))));replace HC:=zh (HC.o.trans (sL O.o));clear O t;have p0:wr.cell? ⟨PB,0,none⟩=some (.slice s0 l.length cap):=aa N.o (j:=0) rfl;go_wp2_with fail
  clear p0;have hc:C=gx F (l.drop 0):=HC.o;go_loopg [50] l.length (fun g t50 wr=>∃(i:Nat) (r:Int),i+g=l.length∧t50=.int .i64 (i:Int)∧C=gx F (l.drop i)∧MapAt wr FR m∧Below PB w wr∧wr.heap[CB]?=some (.cells #[.map (some FR),.int .i64 r] 115 (0,0)))
  case atStart=>exact ⟨0,0,Nat.zero_add _,rfl,hc,HM.o,HB.o,A.o⟩
  case round =>
   obtain ⟨i,r,hz,rfl,hf,hm,hb,Q⟩:=hrel;clear HB HM A hc HC;have HC:=zh hf;have HM:=zh hm;have HB:=zh hb;have A:=zh Q;clear hf hm hb Q;by_cases P:i<l.length
   ·obtain ⟨z,T⟩:=hv.o
    unfold maxLen at T;have g1:(i:Int)<(l.length:Int):=by omega
    have g3:(0:Int)≤(i:Int):=by omega
    obtain ⟨b,off,E,hA,h0,J⟩:=d.o (by omega);subst E;have D:=ht.o i P;obtain ⟨nm,s1,n1,c1,rs,s2,n2,c2,pos,R⟩:=ux D;rw [R] at D;have L:∀j,j<5→wr.cell? ⟨b,off+i * 5+j,none⟩=(cs i)[j]?:=fun j hj=>(HB.o.cell (p:=⟨b,_,none⟩) h0).trans (J i P j hj);rw [R] at L;have x0:wr.cell? ⟨b,off+i * 5,none⟩=some (.string nm):=L 0 (by decide);have x1:wr.cell? ⟨b,off+i * 5+1,none⟩=some (.slice s1 n1 c1):=L 1 (by decide);have x2:wr.cell? ⟨b,off+i * 5+2,none⟩=some (.int .i64 rs):=L 2 (by decide);have x3:wr.cell? ⟨b,off+i * 5+3,none⟩=some (.slice s2 n2 c2):=L 3 (by decide);have x4:wr.cell? ⟨b,off+i * 5+4,none⟩=some (.int .i64 pos):=L 4 (by decide);have X:=zh (HC.o.trans (Ay F l i P));generalize l.getD i default=f at *;have U:=zh D;clear L D J R;go_upto_region 15 with fail
    have M:Below wr.heap.size wr (wr.alloc (.cells #[.string nm,.slice s1 n1 c1,.int .i64 rs,.slice s2 n2 c2,.int .i64 pos] 76)):=ag (Below.refl _ _) _;have I:Hd ((wr.alloc (.cells #[.string nm,.slice s1 n1 c1,.int .i64 rs,.slice s2 n2 c2,.int .i64 pos] 76)).heap[wr.heap.size]?=some (.cells #[.string nm,.slice s1 n1 c1,.int .i64 rs,.slice s2 n2 c2,.int .i64 pos] 76 (0,0))):=zh (aj _ _ _ rfl);replace A:=zh ((M.block _ (af A.o)).trans A.o);replace HM:=zh (HM.o.below M);replace HB:=zh (HB.o.trans (M.mono (qJ H.o.1 HB.o)));clear M x0 x1 x2 x3 x4;generalize (wr.alloc (.cells #[.string nm,.slice s1 n1 c1,.int .i64 rs,.slice s2 n2 c2,.int .i64 pos] 76))=w3 at *;generalize wr.heap.size=FB at *;have h1:Hd (Stays (fun b=>b<PB) w w3):=zh (Stays.of_below (by rw [H.o.1];exact HB.o));have y:=zh (zF CB PB FR F hu.o m f w3 r (by have:=H.o;omega) (by have:=H.o;omega) A.o HM.o (fun W hW=>h3.o W (h1.o.trans hW)) nm s1 n1 c1 rs s2 n2 c2 pos (U.o.keep h1.o));generalize fN F f=q at *;obtain ⟨fe,fa⟩:=q;unfold bH at y;dsimp only at y;obtain ⟨y0,y1,y2,y3,y4,-⟩:=css I.o;go_wp2_with fail
    refine y.o.mono ?_;rintro e w4 ⟨rfl,ho,r2,Q⟩;clear y0 y1 y2 y3 y4 h1 y;replace HM:=zh (HM.o.keep (ho.block _ HM.o.lt (fun e=>by injection e with e;have:=H.o;omega)));replace HB:Hd (Below PB w w4):=zh (by have q:=ho.base (B:=w) (by rw [H.o.1];exact HB.o) (by have:=H.o;omega);rw [H.o.1] at q;exact q);replace A:=zh Q;clear ho Q I;go_upto_region 16 with fail
    have M:Below w4.heap.size w4 (w4.alloc (.cells #[.int .i64 fe,.int .i64 fa] 118)):=ag (Below.refl _ _) _;have I:Hd ((w4.alloc (.cells #[.int .i64 fe,.int .i64 fa] 118)).heap[w4.heap.size]?=some (.cells #[.int .i64 fe,.int .i64 fa] 118 (0,0))):=zh (aj _ _ _ rfl);replace A:=zh ((M.block _ (af A.o)).trans A.o);replace HM:=zh (HM.o.below M);replace HB:=zh (HB.o.trans (M.mono (qJ H.o.1 HB.o)));clear M;generalize (w4.alloc (.cells #[.int .i64 fe,.int .i64 fa] 118))=w5 at *;generalize w4.heap.size=EB at *;by_cases he:fe=0
    ·subst he
     have z0:w5.cell? ⟨EB,0,none⟩=some (.int .i64 0):=aa I.o (j:=0) rfl;go_wp2_with fail
     go_roundg (l.length-i-1)
     case measure=>omega
     case rel=>exact ⟨i+1,r2,by omega,rfl,X.o.trans (by simp [orF]),HM.o,HB.o,A.o⟩
    have V:=zh (X.o.trans (show orF (fe,fa) _=(fe,fa) by simp [orF,he]));have z0:w5.cell? ⟨EB,0,none⟩=some (.int .i64 fe):=aa I.o (j:=0) rfl;go_upto_region 17 with fail
    have E:w5.drew.cell? ⟨EB,0,none⟩=some (.int .i64 fe)∧w5.drew.cell? ⟨EB,1,none⟩=some (.int .i64 fa):=⟨aa I.o (j:=0) rfl,aa I.o (j:=1) rfl⟩
    refine wp_region_held (S:=(fun w':World=>w'.cell? ⟨EB,0,none⟩=some (.int .i64 fe)∧w'.cell? ⟨EB,1,none⟩=some (.int .i64 fa))) (by kernel_rfl) ?_;refine tkA 0 ?_;refine tkA 1 ?_;refine tkA 2 ?_;refine tkA 3 ?_;refine rd1 4 fun K hK=>?_;go_simp;refine hK.out _ _ ?_ (fun hH=>?_)
    ·exact E
    clear hK K;try go_simp
    refine rd1 5 fun K hK=>?_;go_simp;refine hK.out _ _ ?_ (fun hH=>?_)
    ·exact E
    clear hK K;try go_simp
    refine wpAnyH_done (by kernel_rfl) ?_ _;go_wp2_with fail
    exact bodyPost_ret (v:=.tuple #[.int .i64 fe,.int .i64 fa]) (by simp [results,Tryz.results28,go_sem]) rfl ⟨by rw [V.o],by rw [H.o.1];exact HB.o.drew⟩
   obtain rfl:i=l.length:=by omega
   have g1:¬(l.length:Int)<(l.length:Int):=by omega
   have V:=zh (HC.o.trans (by rw [List.drop_eq_nil_of_le (Nat.le_refl _),gx]:_=okF));go_wp2_with fail
   exact bodyPost_ret (v:=.tuple #[.int .i64 0,.int .i64 0]) (by simp [results,Tryz.results28,go_sem]) rfl ⟨by rw [V.o];rfl,by rw [H.o.1];exact HB.o⟩
end
section
open Go.RowKit
attribute [local go_sem ↓] Go.wp_at_zero Go.wp_at_succ
def kf (j:Jo) (r:Rst):Prop:=j.undo.length≤r.undo.length∧r.jo.back j.undo.length=j
theorem oO {j:Jo} {r:Rst} (h:kf j r) (l:List Pr):kf j { r with pairs:=l,undo:=r.undo++[r.pairs] }:=by
 obtain ⟨h1,h2⟩:=h;refine ⟨by simp;omega,Eq.trans ?_ h2⟩;unfold Jo.back Rst.jo;dsimp only;rw [List.length_append,if_pos (show j.undo.length<r.undo.length+[r.pairs].length by simp;omega),List.take_append_of_le_length h1];by_cases e:j.undo.length<r.undo.length
 ·rw [if_pos e,List.getD_eq_getElem?_getD,List.getElem?_append_left e,←List.getD_eq_getElem?_getD]
 ·obtain e:j.undo.length=r.undo.length:=by omega
  rw [if_neg (by omega),e,List.getD_eq_getElem?_getD,List.getElem?_append_right (Nat.le_refl _),Nat.sub_self];rfl
theorem Inv.back (j:Jo):Inv (kf j):=⟨fun _ _ h=>h,fun _ _ _ _ h _=>oO h _,fun _ _ h=>oO h _⟩
def xS (ty num:Int) (n:Nat) (t:Int):Bool:=if t=3 then ty==t&&num==0&&decide (n≤256) else ty==t&&decide (n=0)
theorem xT (ty num t:Int) (p:Option Addr) (n c:Nat) (w:World) (hn:n≤maxLen):Calls Tryz.prog 33 #[.agg #[.int .i64 ty,.int .i64 num,.slice p n c],.int .i64 t] w fun e w'=>e=.returned (.bool (xS ty num n t))∧Below w.heap.size w w':=by
 have D:(n:Int)≤9223372036854775807:=by unfold maxLen at hn;omega
 have HN:=zh hn;clear hn;generalize hB:xS ty num n t=B;have HB:=zh hB;clear hB;by_cases h3:t=3
 ·subst h3
  have C:Hd (B=(ty==3&&num==0&&decide (n≤256))):=zh (by rw [←HB.o];rfl);by_cases h1:ty=3
  ·subst h1
   by_cases h2:num=0
   ·subst h2
    have A:Hd (B=decide ((n:Int)≤256)):=zh (by rw [C.o];by_cases q:n≤256<;>simp [q]<;>omega);go_enter Tryz.func33,Tryz.ntmps33
    go_wp2_with fail
    exact bodyPost_ret (v:=.bool (decide ((n:Int)≤256))) (by simp [results,Tryz.results33,go_sem]) rfl ⟨by rw [A.o],ag (Below.refl _ _) _⟩
   ·have e2:(num==0)=false:=beq_eq_false_iff_ne.2 h2
    have A:Hd (B=false):=zh (by rw [C.o,e2];rfl);clear h2;go_enter Tryz.func33,Tryz.ntmps33
    go_wp2_with fail
    exact bodyPost_ret (v:=.bool false) (by simp [results,Tryz.results33,go_sem]) rfl ⟨by rw [A.o],ag (Below.refl _ _) _⟩
  ·have e1:(ty==3)=false:=beq_eq_false_iff_ne.2 h1
   have A:Hd (B=false):=zh (by rw [C.o,e1];rfl);clear h1;go_enter Tryz.func33,Tryz.ntmps33
   go_wp2_with fail
   exact bodyPost_ret (v:=.bool false) (by simp [results,Tryz.results33,go_sem]) rfl ⟨by rw [A.o],ag (Below.refl _ _) _⟩
 ·have C:Hd (B=(ty==t&&decide (n=0))):=zh (by rw [←HB.o];unfold xS;rw [if_neg h3])
  have e0:(t==3)=false:=beq_eq_false_iff_ne.2 h3;clear h3;by_cases h1:ty=t
  ·have e1:(ty==t)=true:=beq_iff_eq.2 h1
   have A:Hd (B=((n:Int)==0)):=zh (by rw [C.o,e1];by_cases q:n=0<;>simp [q]);clear h1;go_enter Tryz.func33,Tryz.ntmps33
   go_wp2_with fail
   exact bodyPost_ret (v:=.bool ((n:Int)==0)) (by simp [results,Tryz.results33,go_sem]) rfl ⟨by rw [A.o],ag (Below.refl _ _) _⟩
  ·have e1:(ty==t)=false:=beq_eq_false_iff_ne.2 h1
   have A:Hd (B=false):=zh (by rw [C.o,e1];rfl);clear h1;go_enter Tryz.func33,Tryz.ntmps33
   go_wp2_with fail
   exact bodyPost_ret (v:=.bool false) (by simp [results,Tryz.results33,go_sem]) rfl ⟨by rw [A.o],ag (Below.refl _ _) _⟩
structure EndAt (w:World) (JX MX RX OX RB JB:Nat) (m:Int) (a b:Int) (p:Option Addr) (n c:Nat) (t u:Int):Prop where
 j:w.heap[JX]?=some (.cells #[.pointer (some ⟨JB,0,none⟩)] 31 (0,0))
 m:w.heap[MX]?=some (.cells #[.int .i64 m] 3 (0,0))
 r:w.heap[RX]?=some (.cells #[.pointer (some ⟨RB,0,none⟩)] 81 (0,0))
 o:w.heap[OX]?=some (.cells #[.int .i64 a,.int .i64 b,.slice p n c,.int .i64 t,.int .i64 u] 38 (0,0))
def lE (w:World) (OX:Nat) (a b:Int) (p:Option Addr) (n c:Nat) (t u:Int):World:=((((w.setCell ⟨OX,0,none⟩ (.int .i64 a)).setCell ⟨OX,1,none⟩ (.int .i64 b)).setCell ⟨OX,2,none⟩ (.slice p n c)).setCell ⟨OX,3,none⟩ (.int .i64 t)).setCell ⟨OX,4,none⟩ (.int .i64 u)
theorem mS (w:World) (OX:Nat) (a b:Int) (p:Option Addr) (n c:Nat) (t u:Int):On OX w (lE w OX a b p n c t u):=((((((On.refl OX w).set 0 _).set 1 _).set 2 _).set 3 _).set 4 _)
theorem fk {w:World} {OX:Nat} {a0 b0 t0 u0:Int} {p0:Option Addr} {n0 c0:Nat} (h:w.heap[OX]?=some (.cells #[.int .i64 a0,.int .i64 b0,.slice p0 n0 c0,.int .i64 t0,.int .i64 u0] 38 (0,0))) (a b:Int) (p:Option Addr) (n c:Nat) (t u:Int) :
    (lE w OX a b p n c t u).heap[OX]?=some (.cells #[.int .i64 a,.int .i64 b,.slice p n c,.int .i64 t,.int .i64 u] 38 (0,0)):=
 au (au (au (au (au h 0 _) 1 _) 2 _) 3 _) 4 _
theorem xg (JX MX RX OX:Nat) (w:World) :
    CallsD Tryz.prog 35 #[.pointer (some ⟨JX,0,none⟩),.pointer (some ⟨MX,0,none⟩),.pointer (some ⟨RX,0,none⟩),.pointer (some ⟨OX,0,none⟩)] .returning w fun e u' w'=>e=.returned (.tuple #[])∧u'=.returning∧w'=w:=by
 refine callsD_of_wpS Tryz.func35 rfl fun c₀ cs hu=>?_;apply wpS_seq;apply wpS_region;simp [wpOpsS,go_sem,recoverD,hu,Tryz.ntmps35,Exit.thenS]
 refine wpS_of_wp ?_;simp only [Array.replicate_succ,Array.replicate_zero,List.push_toArray,List.setIfInBounds_toArray,List.set_cons_succ,List.set_cons_zero,List.append_toArray,List.cons_append,List.nil_append]
 have HU:=zh hu;have A:∀W:World,(Instr.typeAssert .nilIface 20 36 true).run Tryz.prog W=.ok (.tuple #[.int .i64 0,.bool false]) W:=fun _=>by kernel_rfl
 have B:∀W:World,(binOp .neq 20 .nilIface .nilIface).run Tryz.prog W=.ok (.bool false) W:=fun _=>by kernel_rfl
 clear hu;go_wp2_with fail
 have hu:=HU.o
 cases c₀
 simp_all [bodyPostS,results,Tryz.results35]
theorem ya {y:Ly} {r:Rst} {k:Int} (JX MX RX OX:Nat) (m:Nat) (a0 b0 t0 u0:Int) (p0:Option Addr) (n0 c0:Nat) (t:Int) (B:List PanicEntry) (w:World) (hr:RunAt y w r k) (h:EndAt w JX MX RX OX y.RB y.JB m a0 b0 p0 n0 c0 t0 u0) (hm:m≤r.undo.length) :
    CallsD Tryz.prog 35 #[.pointer (some ⟨JX,0,none⟩),.pointer (some ⟨MX,0,none⟩),.pointer (some ⟨RX,0,none⟩),.pointer (some ⟨OX,0,none⟩)] (.panicking ({ v:=.iface 36 (.int .i64 t),recovered:=false } :: B)) w fun e u' w' =>
     e=.returned (.tuple #[])∧u'=.panicking ({ v:=.iface 36 (.int .i64 t),recovered:=true } :: B)∧∃w1,JAt y.U w1 y.JB (r.jo.back m) (y.N+r.used.toNat)∧OnS (fun k=>k=y.JB) w w1∧w'=lE w1 OX 0 0 none 0 0 t r.used:=by
 have J:=zh (fun W (hW:W=w)=>vN (j:=r.jo) m W (hW▸hr.jo) hm (by have:=hr.low;have:=hr.gas;omega));obtain ⟨sF,nF,cF,C,_⟩:=hr.box;have E:=zh C;have K:=zh hr.jo.ty;have HE:=zh h;have nj:∀{b:Nat} {arr:Array Value} {ty:TypeId},w.heap[b]?=some (.cells arr ty (0,0))→ty≠68→¬b=y.JB:=fun hb G e=>OfTy.ne (⟨_,_,hb⟩:OfTy w _ _) K.o G e;have I:Hd (¬JX=y.JB∧¬MX=y.JB∧¬RX=y.JB∧¬OX=y.JB∧¬y.RB=y.JB):=zh ⟨nj h.j (by decide),nj h.m (by decide),nj h.r (by decide),nj h.o (by decide),nj C (by decide)⟩;clear nj hr C hm;refine callsD_of_wpS Tryz.func35 rfl fun c₀ cs hu=>?_;apply wpS_seq;apply wpS_region;simp [wpOpsS,go_sem,recoverD,hu,Tryz.ntmps35,Exit.thenS]
 refine wpS_of_wp ?_;simp only [Array.replicate_succ,Array.replicate_zero,List.push_toArray,List.setIfInBounds_toArray,List.set_cons_succ,List.set_cons_zero,List.append_toArray,List.cons_append,List.nil_append]
 have j0:=aa h.j (j:=0) (u:=.pointer (some ⟨y.JB,0,none⟩)) rfl;have m0:=aa h.m (j:=0) (u:=.int .i64 m) rfl;have HU:=zh hu;have M:∀W:World,(Instr.typeAssert (.iface 36 (.int .i64 t)) 20 36 true).run Tryz.prog W=.ok (.tuple #[.int .i64 t,.bool true]) W:=fun _=>by kernel_rfl
 clear h hu;go_wp2_with fail
 refine (J.o _ rfl).mono ?_;rintro e w1 ⟨rfl,F,D⟩;have L:=zh F;have H:=zh D;obtain ⟨q1,q2,q3,q4,q5⟩:=I.o;have r0:=aa (D.obj q3 HE.o.r) (j:=0) (u:=.pointer (some ⟨y.RB,0,none⟩)) rfl;have g3:=aa (D.obj q5 E.o) (j:=3) (u:=.int .i64 r.used) rfl;have A:=zh (D.obj q4 HE.o.o);have o0:=aa A.o (j:=0) (u:=.int .i64 a0) rfl;have o1:=aa A.o (j:=1) (u:=.int .i64 b0) rfl;have o2:=aa A.o (j:=2) (u:=.slice p0 n0 c0) rfl;have o3:=aa A.o (j:=3) (u:=.int .i64 t0) rfl;have o4:=aa A.o (j:=4) (u:=.int .i64 u0) rfl;have f0:=ae A.o 0;have f1:=ae A.o 1;have f2:=ae A.o 2;have f3:=ae A.o 3;have f4:=ae A.o 4;clear F D q1 q2 q3 q4 q5 j0 m0;go_wp2_with fail
 refine ⟨rfl,_,rfl,.tuple #[],by simp [results,Tryz.results35,go_sem],rfl,rfl,w1,L.o,H.o,?_⟩;rfl
end
end Go.Proofs.YthgcpfkochikfaaGreat
