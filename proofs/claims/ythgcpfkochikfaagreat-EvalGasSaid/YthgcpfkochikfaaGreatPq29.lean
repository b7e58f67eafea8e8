/-
  EvalLoops: part 29 of its proof: see the last text.
-/
import Derived.Test.YthgcpfkochikfaaGreatPq26
import Derived.Test.YthgcpfkochikfaaGreatPq28
import Derived.Test.YthgcpfkochikfaaGreatPq21
import Derived.Test.YthgcpfkochikfaaGreatPq22
set_option maxRecDepth 100000
set_option maxHeartbeats 16000000
namespace Go.Proofs.YthgcpfkochikfaaGreat
section
open Go.RowKit
theorem Ci {W0:World} {cb:Nat} {F:aU} {A:Int} {v:bq} {vr CP FP VP:Nat} {nm:ByteArray} {rs pos:Int} {s1 s2:Option Addr} {n1 c1 n2 c2:Nat} {l:List St} (hl:∀x,x∈l→pI cb F A x) (hx:CtxAt W0 cb F A vr v) (hr:RepSts Any W0 (.slice s2 n2 c2) l) (hc:W0.heap[CP]?=some (.cells #[.pointer (some ⟨cb,0,none⟩)] 112 (0,0))) (hf:W0.heap[FP]?=some (.cells #[.string nm,.slice s1 n1 c1,.int .i64 rs,.slice s2 n2 c2,.int .i64 pos] 76 (0,0))) (hv:W0.heap[VP]?=some (.cells #[.map (some vr)] 167 (0,0))):FnTells W0 (.func (.func 80) #[] #[.pointer (some ⟨CP,0,none⟩),.pointer (some ⟨FP,0,none⟩),.pointer (some ⟨VP,0,none⟩)]) (bG F A l v):=by
 refine ⟨_,_,rfl,enters_of Tryz.func80 (by kernel_rfl) rfl,fun W hW=>?_⟩;have HC:=zh ((hW.block _ (af hc)).trans hc);have I:=af HC.o;have HF:=zh ((hW.block _ (af hf)).trans hf);have H:=af HF.o;have HV:=zh ((hW.block _ (af hv)).trans hv);have G:=af HV.o;have p0:W.cell? ⟨CP,0,none⟩=some (.pointer (some ⟨cb,0,none⟩)):=aa HC.o (j:=0) rfl;have p1:W.cell? ⟨FP,3,none⟩=some (.slice s2 n2 c2):=aa HF.o (j:=3) rfl;have p2:W.cell? ⟨VP,0,none⟩=some (.map (some vr)):=aa HV.o (j:=0) rfl;have HB:Hd (Below W.heap.size W (W.alloc (.cells #[.int .i64 0,.int .i64 0] 118))):=zh (ag (Below.refl _ _) _);have HZ:Hd ((W.alloc (.cells #[.int .i64 0,.int .i64 0] 118)).heap[W.heap.size]?=some (.cells #[.int .i64 0,.int .i64 0] 118 (0,0))):=zh (aj _ _ _ rfl);have D:=hW.trans (HB.o.mono hW.size);have HN:=zh (kD cb F A l hl v vr _ _ (hx.below D) (hr.keep (Stays.of_below D)));generalize bG F A l v=q at *;obtain ⟨fe,fa⟩:=q;go_enter Tryz.func80,Tryz.ntmps80
 go_wp2_with fail
 refine HN.o.mono ?_;rintro e w2 ⟨rfl,C⟩;have B:=zh ((C.block _ (af HZ.o)).trans HZ.o);have E:=zh (am HB.o C);clear C;unfold bI;dsimp only;have r0:w2.cell? ⟨W.heap.size,0,none⟩=some (.int .i64 0):=aa B.o (j:=0) rfl;have r1:w2.cell? ⟨W.heap.size,1,none⟩=some (.int .i64 0):=aa B.o (j:=1) rfl;have k0:w2.frozen? ⟨W.heap.size,0,none⟩=false:=ae B.o 0;have k1:w2.frozen? ⟨W.heap.size,1,none⟩=false:=ae B.o 1;go_wp2_with fail
 refine bodyPost_ret (v:=.agg #[.int .i64 fe,.int .i64 fa]) (by simp [results,Tryz.results80,go_sem,r0,r1]) rfl ⟨rfl,?_⟩;exact (E.o.setCell (p:=⟨W.heap.size,0,none⟩) (Nat.le_refl _) _).setCell (p:=⟨W.heap.size,1,none⟩) (Nat.le_refl _) _
theorem zH {W0:World} {FP:Nat} {nm:ByteArray} {rs pos:Int} {s1 s2:Option Addr} {n1 c1 n2 c2:Nat} (hf:W0.heap[FP]?=some (.cells #[.string nm,.slice s1 n1 c1,.int .i64 rs,.slice s2 n2 c2,.int .i64 pos] 76 (0,0))) (N:(rs==0)=true):FnTells W0 (.func (.func 82) #[] #[.pointer (some ⟨FP,0,none⟩)]) (noC true 54 pos):=by
 refine ⟨_,_,rfl,enters_of Tryz.func82 (by kernel_rfl) rfl,fun W hW=>?_⟩;have HF:=zh ((hW.block _ (af hf)).trans hf);have F:=af HF.o;have HN:=zh (da (true) 54 pos);generalize noC (true) 54 pos=q at *;obtain ⟨fe,fa⟩:=q;have C:Below W.heap.size W (W.alloc (.cells #[.int .i64 0,.int .i64 0] 118)):=ag (Below.refl _ _) _;have HZ:Hd ((W.alloc (.cells #[.int .i64 0,.int .i64 0] 118)).heap[W.heap.size]?=some (.cells #[.int .i64 0,.int .i64 0] 118 (0,0))):=zh (aj _ _ _ rfl);have H:Hd (W.cell? ⟨FP,2,none⟩=some (.int .i64 rs)∧W.cell? ⟨FP,3,none⟩=some (.slice s2 n2 c2)∧W.cell? ⟨FP,4,none⟩=some (.int .i64 pos)):=zh ⟨aa HF.o (j:=2) rfl,aa HF.o (j:=3) rfl,aa HF.o (j:=4) rfl⟩;have B:Hd (FP<W.heap.size∧FP<W.heap.size∧FP<W.heap.size):=zh ⟨F,F,F⟩;go_enter Tryz.func82,Tryz.ntmps82
 go_upto_region 1 with fail
 have HB:=zh C;have D:Hd ((W.alloc (.cells #[.int .i64 0,.int .i64 0] 118)).drew.cell? ⟨FP,2,none⟩=some (.int .i64 rs)∧(W.alloc (.cells #[.int .i64 0,.int .i64 0] 118)).drew.cell? ⟨FP,3,none⟩=some (.slice s2 n2 c2)∧(W.alloc (.cells #[.int .i64 0,.int .i64 0] 118)).drew.cell? ⟨FP,4,none⟩=some (.int .i64 pos)):=zh ⟨(C.cell (p:=⟨FP,2,none⟩) B.o.1).trans H.o.1,(C.cell (p:=⟨FP,3,none⟩) B.o.2.1).trans H.o.2.1,(C.cell (p:=⟨FP,4,none⟩) B.o.2.2).trans H.o.2.2⟩;have G:Hd (W.heap.size<(W.alloc (.cells #[.int .i64 0,.int .i64 0] 118)).heap.size):=zh (af HZ.o);clear C;generalize (W.alloc (.cells #[.int .i64 0,.int .i64 0] 118))=w1 at *;have J:=D.o;refine ay (S:=(fun w':World=>w'.cell? ⟨FP,2,none⟩=some (.int .i64 rs)∧w'.cell? ⟨FP,3,none⟩=some (.slice s2 n2 c2)∧w'.cell? ⟨FP,4,none⟩=some (.int .i64 pos))) 11 (by kernel_rfl) (by kernel_rfl) (by exact D.o) (fun hH=>?_);simp only [List.take_succ_cons,List.take_zero,List.drop_succ_cons,List.drop_zero]
 refine tkA 0 ?_;refine tkA 1 ?_;refine tkA 2 ?_;refine tkA 3 ?_;refine wpAnyH_take (i:=4) rfl (by kernel_rfl) (by kernel_rfl) (by kernel_rfl) (fun _ _ _ h=>h) (Or.inr ⟨by rfl,rfl⟩) (by assumption) ?_;try go_simp
 refine wpAnyH_take (i:=5) rfl (by kernel_rfl) (by kernel_rfl) (by kernel_rfl) (fun _ _ _ h=>h) (Or.inr ⟨by rfl,rfl⟩) (by assumption) ?_;try go_simp
 refine wpAnyH_take (i:=6) rfl (by kernel_rfl) (by kernel_rfl) (by kernel_rfl) (fun _ _ _ h=>h) (Or.inr ⟨by rfl,rfl⟩) (by assumption) ?_;try go_simp
 refine tkA 7 ?_;refine tkA 8 ?_;refine tkA 9 ?_;refine rd1 10 fun K hK=>?_;go_simp;go_at_call 83
 refine (HN.o _).mono ?_;rintro e w2 ⟨rfl,I⟩;have A:Below w1.heap.size w1 w2:=am (aw (Below.refl _ _)) I;have E:=zh ((A.block _ (af HZ.o)).trans HZ.o);have M:=zh (am HB.o A);have L:Hd (w2.cell? ⟨FP,2,none⟩=some (.int .i64 rs)∧w2.cell? ⟨FP,3,none⟩=some (.slice s2 n2 c2)∧w2.cell? ⟨FP,4,none⟩=some (.int .i64 pos)):=zh ⟨(A.cell (p:=⟨FP,2,none⟩) (Nat.lt_trans B.o.1 G.o)).trans D.o.1,(A.cell (p:=⟨FP,3,none⟩) (Nat.lt_trans B.o.2.1 G.o)).trans D.o.2.1,(A.cell (p:=⟨FP,4,none⟩) (Nat.lt_trans B.o.2.2 G.o)).trans D.o.2.2⟩;clear I A J;unfold bI;dsimp only;go_simp;refine hK.out _ _ ?_ (fun hH=>?_)
 ·(try dsimp only)
  exact L.o
 clear hK K;try go_simp
 refine wpAnyH_done (by kernel_rfl) ?_ _;dsimp only [aP];have r0:w2.cell? ⟨W.heap.size,0,none⟩=some (.int .i64 0):=aa E.o (j:=0) rfl;have r1:w2.cell? ⟨W.heap.size,1,none⟩=some (.int .i64 0):=aa E.o (j:=1) rfl;have k0:w2.frozen? ⟨W.heap.size,0,none⟩=false:=ae E.o 0;have k1:w2.frozen? ⟨W.heap.size,1,none⟩=false:=ae E.o 1;go_wp2_with fail
 refine bodyPost_ret (v:=.agg #[.int .i64 fe,.int .i64 fa]) (by simp [results,Tryz.results82,go_sem,r0,r1]) rfl ⟨rfl,?_⟩;exact (M.o.setCell (p:=⟨W.heap.size,0,none⟩) (Nat.le_refl _) _).setCell (p:=⟨W.heap.size,1,none⟩) (Nat.le_refl _) _
theorem AJ {W0:World} {FP:Nat} {nm:ByteArray} {rs pos:Int} {s1 s2:Option Addr} {n1 c1 n2 c2:Nat} {l:List St} (hr:RepSts Any W0 (.slice s2 n2 c2) l) (hf:W0.heap[FP]?=some (.cells #[.string nm,.slice s1 n1 c1,.int .i64 rs,.slice s2 n2 c2,.int .i64 pos] 76 (0,0))) (T:(rs==0)=false):FnTells W0 (.func (.func 82) #[] #[.pointer (some ⟨FP,0,none⟩)]) (noC (eh l) 54 pos):=by
 have P:=zh (fun W1 (h1:Below W0.heap.size W0 W1)=>nZ l W1 _ (hr.keep (Stays.of_below h1)));generalize eh l=z at *;refine ⟨_,_,rfl,enters_of Tryz.func82 (by kernel_rfl) rfl,fun W hW=>?_⟩;have HF:=zh ((hW.block _ (af hf)).trans hf);have H:=af HF.o;have HN:=zh (da (z) 54 pos);generalize noC (z) 54 pos=q at *;obtain ⟨fe,fa⟩:=q;have E:Below W.heap.size W (W.alloc (.cells #[.int .i64 0,.int .i64 0] 118)):=ag (Below.refl _ _) _;have HZ:Hd ((W.alloc (.cells #[.int .i64 0,.int .i64 0] 118)).heap[W.heap.size]?=some (.cells #[.int .i64 0,.int .i64 0] 118 (0,0))):=zh (aj _ _ _ rfl);have J:Hd (W.cell? ⟨FP,2,none⟩=some (.int .i64 rs)∧W.cell? ⟨FP,3,none⟩=some (.slice s2 n2 c2)∧W.cell? ⟨FP,4,none⟩=some (.int .i64 pos)):=zh ⟨aa HF.o (j:=2) rfl,aa HF.o (j:=3) rfl,aa HF.o (j:=4) rfl⟩;have D:Hd (FP<W.heap.size∧FP<W.heap.size∧FP<W.heap.size):=zh ⟨H,H,H⟩;go_enter Tryz.func82,Tryz.ntmps82
 go_upto_region 1 with fail
 have HB:=zh E;have F:Hd ((W.alloc (.cells #[.int .i64 0,.int .i64 0] 118)).drew.cell? ⟨FP,2,none⟩=some (.int .i64 rs)∧(W.alloc (.cells #[.int .i64 0,.int .i64 0] 118)).drew.cell? ⟨FP,3,none⟩=some (.slice s2 n2 c2)∧(W.alloc (.cells #[.int .i64 0,.int .i64 0] 118)).drew.cell? ⟨FP,4,none⟩=some (.int .i64 pos)):=zh ⟨(E.cell (p:=⟨FP,2,none⟩) D.o.1).trans J.o.1,(E.cell (p:=⟨FP,3,none⟩) D.o.2.1).trans J.o.2.1,(E.cell (p:=⟨FP,4,none⟩) D.o.2.2).trans J.o.2.2⟩;have I:Hd (W.heap.size<(W.alloc (.cells #[.int .i64 0,.int .i64 0] 118)).heap.size):=zh (af HZ.o);clear E;generalize (W.alloc (.cells #[.int .i64 0,.int .i64 0] 118))=w1 at *;have N:=F.o;refine ay (S:=(fun w':World=>w'.cell? ⟨FP,2,none⟩=some (.int .i64 rs)∧w'.cell? ⟨FP,3,none⟩=some (.slice s2 n2 c2)∧w'.cell? ⟨FP,4,none⟩=some (.int .i64 pos))) 11 (by kernel_rfl) (by kernel_rfl) (by exact F.o) (fun hH=>?_);simp only [List.take_succ_cons,List.take_zero,List.drop_succ_cons,List.drop_zero]
 refine tkA 0 ?_;refine tkA 1 ?_;refine tkA 2 ?_;refine tkA 3 ?_;refine tkA 4 ?_;refine tkA 5 ?_;refine tkA 8 ?_;refine tkA 9 ?_;refine rd1 6 fun K hK=>?_;go_simp;go_at_call 84
 refine (P.o _ (hW.trans ((am HB.o (aw (Below.refl _ _))).mono hW.size))).mono ?_;rintro e w2 ⟨rfl,L⟩;have A:Below w1.heap.size w1 w2:=am (aw (Below.refl _ _)) L;have M:=zh ((A.block _ (af HZ.o)).trans HZ.o);have R:=zh (am HB.o A);have B:Hd (w2.cell? ⟨FP,2,none⟩=some (.int .i64 rs)∧w2.cell? ⟨FP,3,none⟩=some (.slice s2 n2 c2)∧w2.cell? ⟨FP,4,none⟩=some (.int .i64 pos)):=zh ⟨(A.cell (p:=⟨FP,2,none⟩) (Nat.lt_trans D.o.1 I.o)).trans F.o.1,(A.cell (p:=⟨FP,3,none⟩) (Nat.lt_trans D.o.2.1 I.o)).trans F.o.2.1,(A.cell (p:=⟨FP,4,none⟩) (Nat.lt_trans D.o.2.2 I.o)).trans F.o.2.2⟩;clear L A N;go_simp;refine hK.out _ _ ?_ (fun hH=>?_)
 ·(try dsimp only)
  exact B.o
 clear hK K;try go_simp
 refine tkA 7 ?_;refine rd1 10 fun K hK=>?_;go_simp;go_at_call 83
 refine (HN.o _).mono ?_;rintro e w3 ⟨rfl,C⟩;have G:=zh ((C.block _ (af M.o)).trans M.o);have Q:=zh (am R.o C);have O:Hd (w3.cell? ⟨FP,2,none⟩=some (.int .i64 rs)∧w3.cell? ⟨FP,3,none⟩=some (.slice s2 n2 c2)∧w3.cell? ⟨FP,4,none⟩=some (.int .i64 pos)):=zh ⟨(C.cell (p:=⟨FP,2,none⟩) (az B.o.1)).trans B.o.1,(C.cell (p:=⟨FP,3,none⟩) (az B.o.2.1)).trans B.o.2.1,(C.cell (p:=⟨FP,4,none⟩) (az B.o.2.2)).trans B.o.2.2⟩;clear C;unfold bI;dsimp only;go_simp;refine hK.out _ _ ?_ (fun hH=>?_)
 ·(try dsimp only)
  exact O.o
 clear hK K;try go_simp
 refine wpAnyH_done (by kernel_rfl) ?_ _;dsimp only [aP];have r0:w3.cell? ⟨W.heap.size,0,none⟩=some (.int .i64 0):=aa G.o (j:=0) rfl;have r1:w3.cell? ⟨W.heap.size,1,none⟩=some (.int .i64 0):=aa G.o (j:=1) rfl;have k0:w3.frozen? ⟨W.heap.size,0,none⟩=false:=ae G.o 0;have k1:w3.frozen? ⟨W.heap.size,1,none⟩=false:=ae G.o 1;go_wp2_with fail
 refine bodyPost_ret (v:=.agg #[.int .i64 fe,.int .i64 fa]) (by simp [results,Tryz.results82,go_sem,r0,r1]) rfl ⟨rfl,?_⟩;exact (Q.o.setCell (p:=⟨W.heap.size,0,none⟩) (Nat.le_refl _) _).setCell (p:=⟨W.heap.size,1,none⟩) (Nat.le_refl _) _
theorem Ct {W0:World} {FP:Nat} {nm:ByteArray} {rs pos:Int} {s1 s2:Option Addr} {n1 c1 n2 c2:Nat} {l:List St} (hr:RepSts Any W0 (.slice s2 n2 c2) l) (hf:W0.heap[FP]?=some (.cells #[.string nm,.slice s1 n1 c1,.int .i64 rs,.slice s2 n2 c2,.int .i64 pos] 76 (0,0))):FnTells W0 (.func (.func 82) #[] #[.pointer (some ⟨FP,0,none⟩)]) (noC (rs==0 || eh l) 54 pos):=by
 cases h:(rs==0)
 ·exact AJ hr hf h
 ·exact zH hf h
structure BoxF (W:World) (cb vr CP FP RB VB:Nat) (cells:Array Value):Prop where
 c:W.heap[CP]?=some (.cells #[.pointer (some ⟨cb,0,none⟩)] 112 (0,0))
 f:W.heap[FP]?=some (.cells cells 76 (0,0))
 r:W.heap[RB]?=some (.cells #[.int .i64 0,.int .i64 0] 118 (0,0))
 v:W.heap[VB]?=some (.cells #[.map (some vr)] 167 (0,0))
theorem BoxF.keep {W W':World} {k cb vr CP FP RB VB:Nat} {A:Array Value} (h:BoxF W cb vr CP FP RB VB A) (hb:On k W W') (hk:CP≠k∧FP≠k∧RB≠k∧VB≠k):BoxF W' cb vr CP FP RB VB A:=
 ⟨hb.obj hk.1 h.c,hb.obj hk.2.1 h.f,hb.obj hk.2.2.1 h.r,hb.obj hk.2.2.2 h.v⟩
theorem BoxF.below {W W':World} {cb vr CP FP RB VB:Nat} {A:Array Value} (h:BoxF W cb vr CP FP RB VB A) (hb:Below W.heap.size W W'):BoxF W' cb vr CP FP RB VB A:=
 ⟨(hb.block _ (af h.c)).trans h.c,(hb.block _ (af h.f)).trans h.f,(hb.block _ (af h.r)).trans h.r,(hb.block _ (af h.v)).trans h.v⟩
theorem On.set_new {k:Nat} {a b:World} (h:On k a b) {p:Addr} (hp:a.heap.size≤p.block) (u:Value):On k a (b.setCell p u):=
 ⟨h.os,h.tape,h.output,by simpa [World.setCell] using h.size,fun i hi A=>(Below.heap_setCell b p u i (fun e=>by omega)).trans (h.block i hi A)⟩
theorem AN {α:Type} (m:List (ByteArray×α)) (k:ByteArray) (x:α) (h:aL m k=none):(bY m k x).length=m.length+1:=by
 induction m with
 | nil=>rfl
 | cons p m ih =>
  unfold aL at h;unfold bY;by_cases e:p.1=k
  ·rw [if_pos e] at h;cases h
  ·rw [if_neg e] at h
   rw [if_neg e,List.length_cons,ih h,List.length_cons]
theorem yZ {w:World} {r:Nat} {v:bq} (h:ViewAt w r v):(Builtin.len_ #[167] 3 #[.map (some r)]).run Tryz.prog w=.ok (.int .i64 (v.length:Int)) w:=by
 obtain ⟨es,c,h1,h2⟩:=h;rw [run_len_map w 167 3 r es c (by kernel_rfl) h1];have q:=congrArg List.length h2;simp at q
 rw [q];rfl
theorem Ah (pos:Int) (l:List (ByteArray×Int)) (i:Nat) (hi:i<l.length) (v:bq):dR pos (l.drop i) v=if (aL v (l.getD i default).1).isSome then ((53,pos),v) else if (l.getD i default).2<1∨3<(l.getD i default).2 then ((51,pos),v) else dR pos (l.drop (i+1)) (bY v (l.getD i default).1 ((l.getD i default).2,false)):=by
 rw [List.drop_eq_getElem_cons hi,dR,List.getD_eq_getElem?_getD,List.getElem?_eq_getElem hi];rfl
theorem rG {F:aU} {f:Fn} {v:bq} {q:Flt} (h:dR f.pos f.params []=(q,v)) (hq:¬q.1=0):gi F f=q:=by
 unfold gi;rw [h];simp [hq]
theorem xM {F:aU} {f:Fn} {v:bq} (h:dR f.pos f.params []=(okF,v)) (hq:f.result<0∨3<f.result):gi F f=(51,f.pos):=by
 unfold gi;rw [h];simp [hq,okF]
theorem oO {F:aU} {f:Fn} {v:bq} (h:dR f.pos f.params []=(okF,v)) (hq:¬(f.result<0∨3<f.result)) (hm:16<f.params.length∨64<wrap64 (f.params.length+dq 0 f.body)):gi F f=(2,f.pos):=by
 unfold gi;rw [h];simp only [okF,ne_eq,not_true,if_false]
 rw [if_neg hq,if_pos hm]
theorem zE {F:aU} {f:Fn} {v:bq} (h:dR f.pos f.params []=(okF,v)) (hq:¬(f.result<0∨3<f.result)) (hm:¬(16<f.params.length∨64<wrap64 (f.params.length+dq 0 f.body))):gi F f=aR [bG F f.result f.body v,noC (f.result==0 || eh f.body) 54 f.pos]:=by
 unfold gi;rw [h];simp only [okF,ne_eq,not_true,if_false]
 rw [if_neg hq,if_neg hm];unfold aR aR aR;rw [mV (jE _ _ _ (by decide))]
theorem Ar (cb N fr:Nat) (F:aU) (hF:∀p,p∈F→p.2.params.length≤100000) (m:List (ByteArray×Value)) (f:Fn) (w:World) (E:Int) (hN:N≤cb) (hg:fr≠cb) (y:w.heap[cb]?=some (.cells #[.map (some fr),.int .i64 E] 115 (0,0))) (hm:MapAt w fr m) (a:∀W,Stays (fun b=>b<N) w W→FunR W m F) (nm:ByteArray) (s1:Option Addr) (n1 c1:Nat) (rs:Int) (s2:Option Addr) (n2 c2:Nat) (pos:Int) (hr:RepFn (fun b=>b<N) w [.string nm,.slice s1 n1 c1,.int .i64 rs,.slice s2 n2 c2,.int .i64 pos] f):Calls Tryz.prog 52 #[.pointer (some ⟨cb,0,none⟩),.agg #[.string nm,.slice s1 n1 c1,.int .i64 rs,.slice s2 n2 c2,.int .i64 pos]] w fun e w'=>e=.returned (bI (gi F f))∧On cb w w'∧∃res2,w'.heap[cb]?=some (.cells #[.map (some fr),.int .i64 res2] 115 (0,0)):=by
 obtain ⟨vp,vb,hh,hM,hl⟩:=hr;simp only [List.cons.injEq,Value.int.injEq,Value.string.injEq,true_and,and_true] at hh
 obtain ⟨rfl,rfl,rfl,rfl,rfl⟩:=hh;obtain ⟨cs,⟨s0,cap,hG,hd,hi,_,Y,hI⟩,he⟩:=hM;injection hG with ha hb2 V
 subst ha hb2 V;have h3:=zh Y;have hW:=zh he;have H1:=zh (And.intro hd hi);have h8:=zh hl;have S:=zh y;have HM:=zh hm;have hX:=zh a;have hE:=zh (And.intro hN hg);have d:=af y;have HF:=zh hF;generalize hC:gi F f=C;have HC:=zh hC.symm;obtain ⟨PC,hw⟩:∃PC,PC=dR f.pos f.params []:=⟨_,rfl⟩
 have t:=zh hw;have HB:Hd (Below w.heap.size w (((((w.alloc (.cells #[.pointer (some ⟨cb,0,none⟩)] 112)).alloc (.cells #[.string f.name,.slice s1 f.params.length c1,.int .i64 f.result,.slice s2 n2 c2,.int .i64 f.pos] 76)).alloc (.cells #[.int .i64 0,.int .i64 0] 118)).alloc (.map #[] 0)).alloc (.cells #[.map (some (w.heap.size+3))] 167))):=zh (ag (ag (ag (ag (ag (Below.refl _ _) _) _) _) _) _);have A:Hd (BoxF (((((w.alloc (.cells #[.pointer (some ⟨cb,0,none⟩)] 112)).alloc (.cells #[.string f.name,.slice s1 f.params.length c1,.int .i64 f.result,.slice s2 n2 c2,.int .i64 f.pos] 76)).alloc (.cells #[.int .i64 0,.int .i64 0] 118)).alloc (.map #[] 0)).alloc (.cells #[.map (some (w.heap.size+3))] 167)) cb (w.heap.size+3) w.heap.size (w.heap.size+1) (w.heap.size+2) (w.heap.size+4) #[.string f.name,.slice s1 f.params.length c1,.int .i64 f.result,.slice s2 n2 c2,.int .i64 f.pos]):=zh ⟨ax _ _ _ _ (ax _ _ _ _ (ax _ _ _ _ (ax _ _ _ _ (aj _ _ _ rfl)))),ax _ _ _ _ (ax _ _ _ _ (ax _ _ _ _ (aj _ _ _ (ah _ _)))),ax _ _ _ _ (ax _ _ _ _ (aj _ _ _ (by rw [ah,ah]))),aj _ _ _ (by rw [ah,ah,ah,ah])⟩;have HV:Hd (ViewAt (((((w.alloc (.cells #[.pointer (some ⟨cb,0,none⟩)] 112)).alloc (.cells #[.string f.name,.slice s1 f.params.length c1,.int .i64 f.result,.slice s2 n2 c2,.int .i64 f.pos] 76)).alloc (.cells #[.int .i64 0,.int .i64 0] 118)).alloc (.map #[] 0)).alloc (.cells #[.map (some (w.heap.size+3))] 167)) (w.heap.size+3) []):=zh ⟨#[],0,ax _ _ _ _ (aj _ _ _ (by rw [ah,ah,ah])),rfl⟩;clear Y he hI hd hi hl y hm a hN hg hC hF hw;have hO:=@run_makeMap Tryz.prog;have P:=zh d;have hV:=zh HM.o.lt;clear d;go_enter Tryz.func52,Tryz.ntmps52
 go_upto_region 2 with fail
 clear hO;generalize (((((w.alloc (.cells #[.pointer (some ⟨cb,0,none⟩)] 112)).alloc (.cells #[.string f.name,.slice s1 f.params.length c1,.int .i64 f.result,.slice s2 n2 c2,.int .i64 f.pos] 76)).alloc (.cells #[.int .i64 0,.int .i64 0] 118)).alloc (.map #[] 0)).alloc (.cells #[.map (some (w.heap.size+3))] 167))=w1 at *;generalize hs:w.heap.size+4=VB at *;generalize ho:w.heap.size+3=VR at *;generalize hu:w.heap.size+2=RB at *;generalize hx:w.heap.size+1=FP at *;generalize hy:w.heap.size=CP at *;have G:=zh (And.intro hy (And.intro hx (And.intro hu (And.intro ho hs))));clear hs ho hu hx hy;have f1:w1.cell? ⟨FP,1,none⟩=some (.slice s1 f.params.length c1):=aa A.o.f (j:=1) rfl;go_wp2_with fail
 clear f1;go_loopg [14] f.params.length (fun g t14 wr=>∃(i:Nat) (v:bq),i+g=f.params.length∧t14=.int .i64 (i:Int)∧PC=dR f.pos (f.params.drop i) v∧v.length=i∧ViewAt wr VR v∧Below CP w wr∧BoxF wr cb VR CP FP RB VB #[.string f.name,.slice s1 f.params.length c1,.int .i64 f.result,.slice s2 n2 c2,.int .i64 f.pos])
 case atStart=>exact ⟨0,[],Nat.zero_add _,rfl,t.o,rfl,HV.o,HB.o,A.o⟩
 case round =>
  obtain ⟨i,v,H6,rfl,hc,h9,hv,hb,hk⟩:=hrel;have I:Hd (cb≠RB):=zh (by have:=P.o;have:=G.o;omega);have H:Hd (CP≤RB):=zh (by have:=G.o;omega);have J:=zh hc;have hB:=zh h9;have O:=zh hv;clear A HB HV;have HB:=zh hb;have A:=zh hk;clear hc h9 hv hb hk;by_cases h1:i<f.params.length
  ·obtain ⟨hP,h2⟩:=H1.o
   unfold maxLen at h2;have g1:(i:Int)<(f.params.length:Int):=by omega
   have g3:(0:Int)≤(i:Int):=by omega
   obtain ⟨b,off,hK,H7,hQ,R⟩:=h3.o (by omega);subst hK;have U:=hW.o i h1;unfold uf at U;have V:∀j,j<2→wr.cell? ⟨b,off+i * 2+j,none⟩=(cs i)[j]?:=fun j hj=>(HB.o.cell (p:=⟨b,_,none⟩) hQ).trans (R i h1 j hj);rw [U] at V;have T:=zh (J.o.trans (Ah f.pos f.params i h1 v));generalize f.params.getD i default=q at *;obtain ⟨pn,pt⟩:=q;dsimp only at T V;have x0:wr.cell? ⟨b,off+i * 2,none⟩=some (.string pn):=V 0 (by decide);have x1:wr.cell? ⟨b,off+i * 2+1,none⟩=some (.int .i64 pt):=V 1 (by decide);have v0:(wr.alloc (.cells #[.string pn,.int .i64 pt] 80)).cell? ⟨VB,0,none⟩=some (.map (some VR)):=aq _ (aa A.o.v (j:=0) rfl);have h0:=jN (O.o.below (ag (Below.refl _ _) (.cells #[.string pn,.int .i64 pt] 80))) pn;generalize H5:(aL v pn).getD (0,false)=nv at *;generalize hf:(aL v pn).isSome=is at *;obtain ⟨nt,nf⟩:=nv;unfold nmV at h0;dsimp only at h0;clear V U R;go_upto_region 6 with fail
   have n:Below wr.heap.size wr ((wr.alloc (.cells #[.string pn,.int .i64 pt] 80)).alloc (.cells #[.int .i64 nt,.bool nf] 169)):=ag (ag (Below.refl _ _) _) _;have hD:Hd (((wr.alloc (.cells #[.string pn,.int .i64 pt] 80)).alloc (.cells #[.int .i64 nt,.bool nf] 169)).heap[wr.heap.size]?=some (.cells #[.string pn,.int .i64 pt] 80 (0,0))):=zh (ax _ _ _ _ (aj _ _ _ rfl));have M:=A;replace A:=zh (A.o.below n);replace O:=zh (O.o.below n);replace HB:=zh (HB.o.trans (n.mono (Nat.le_of_lt (af M.o.c))));clear M n h0 x0 x1 v0;generalize ((wr.alloc (.cells #[.string pn,.int .i64 pt] 80)).alloc (.cells #[.int .i64 nt,.bool nf] 169))=w3 at *;generalize wr.heap.size=PB at *
   cases is
   ·have y0:w3.cell? ⟨PB,0,none⟩=some (.string pn):=aa hD.o (j:=0) rfl
    have y1:w3.cell? ⟨PB,1,none⟩=some (.int .i64 pt):=aa hD.o (j:=1) rfl;replace T:=zh (T.o.trans (if_neg (by simp)));by_cases ht:pt<1∨3<pt
    ·have K:=zh (HC.o.trans (rG (q:=(51,f.pos)) (v:=v) (t.o.symm.trans (T.o.trans (if_pos ht))) (by simp)))
     have f4:w3.cell? ⟨FP,4,none⟩=some (.int .i64 f.pos):=aa A.o.f (j:=4) rfl;obtain ⟨r0,r1,-⟩:=css A.o.r;obtain ⟨k0,k1,-⟩:=fzs A.o.r;rcases ht with ht | ht
     ·go_wp2_with fail
      have D:On cb w _:=On.of_below (by rw [G.o.1];exact (HB.o.setCell (p:=⟨RB,0,none⟩) H.o (.int .i64 51)).setCell (p:=⟨RB,1,none⟩) H.o (.int .i64 f.pos));refine bodyPost_ret (v:=.agg #[.int .i64 51,.int .i64 f.pos]) (by simp [results,Tryz.results52,go_sem,r0,r1]) rfl ⟨by rw [K.o];rfl,D,E,?_⟩;exact (ak _ _ _ _ I.o).trans ((ak _ _ _ _ I.o).trans ((HB.o.block _ P.o).trans S.o))
     have hH:¬pt<1:=by omega
     go_wp2_with fail
     have D:On cb w _:=On.of_below (by rw [G.o.1];exact (HB.o.setCell (p:=⟨RB,0,none⟩) H.o (.int .i64 51)).setCell (p:=⟨RB,1,none⟩) H.o (.int .i64 f.pos));refine bodyPost_ret (v:=.agg #[.int .i64 51,.int .i64 f.pos]) (by simp [results,Tryz.results52,go_sem,r0,r1]) rfl ⟨by rw [K.o];rfl,D,E,?_⟩;exact (ak _ _ _ _ I.o).trans ((ak _ _ _ _ I.o).trans ((HB.o.block _ P.o).trans S.o))
    replace T:=zh (T.o.trans (if_neg ht));have H3:¬pt<1:=fun q=>ht (Or.inl q);have hH:¬3<pt:=fun q=>ht (Or.inr q);clear ht;have v0:w3.cell? ⟨VB,0,none⟩=some (.map (some VR)):=aa A.o.v (j:=0) rfl;have hp:=gh O.o gM gA pn (nmV (pt,false));have h4:=zh (rE O.o pn (pt,false));have s:=zh (gj w3 VR pn (nmV (pt,false)));unfold nmV at hp h4 s;dsimp only at hp h4 s;go_wp2_with fail
    go_roundg (f.params.length-i-1)
    case measure=>omega
    case rel=>exact ⟨i+1,_,by omega,rfl,T.o,by rw [AN _ _ _ (by cases q:aL v pn;rfl;rw [q] at hf;cases hf),hB.o],h4.o,by have q:=s.o.base (B:=w) (by rw [G.o.1];exact HB.o) (by have:=G.o;omega);rw [G.o.1] at q;exact q,A.o.keep s.o (by have:=G.o;omega)⟩
   have K:=zh (HC.o.trans (rG (q:=(53,f.pos)) (v:=v) (t.o.symm.trans (T.o.trans (if_pos rfl))) (by simp)));have f4:w3.cell? ⟨FP,4,none⟩=some (.int .i64 f.pos):=aa A.o.f (j:=4) rfl;obtain ⟨r0,r1,-⟩:=css A.o.r;obtain ⟨k0,k1,-⟩:=fzs A.o.r;go_wp2_with fail
   have D:On cb w _:=On.of_below (by rw [G.o.1];exact (HB.o.setCell (p:=⟨RB,0,none⟩) H.o (.int .i64 53)).setCell (p:=⟨RB,1,none⟩) H.o (.int .i64 f.pos));refine bodyPost_ret (v:=.agg #[.int .i64 53,.int .i64 f.pos]) (by simp [results,Tryz.results52,go_sem,r0,r1]) rfl ⟨by rw [K.o];rfl,D,E,?_⟩;exact (ak _ _ _ _ I.o).trans ((ak _ _ _ _ I.o).trans ((HB.o.block _ P.o).trans S.o))
  obtain rfl:i=f.params.length:=by omega
  have g1:¬(f.params.length:Int)<(f.params.length:Int):=by omega
  replace J:=zh (t.o.symm.trans (J.o.trans (by rw [List.drop_eq_nil_of_le (Nat.le_refl _),dR]:_=(okF,v))));have f2:wr.cell? ⟨FP,2,none⟩=some (.int .i64 f.result):=aa A.o.f (j:=2) rfl;by_cases hr:f.result<0∨3<f.result
  ·have K:=zh (HC.o.trans (xM J.o hr))
   have f4:wr.cell? ⟨FP,4,none⟩=some (.int .i64 f.pos):=aa A.o.f (j:=4) rfl;obtain ⟨r0,r1,-⟩:=css A.o.r;obtain ⟨k0,k1,-⟩:=fzs A.o.r;rcases hr with hr | hr
   ·go_wp2_with fail
    have D:On cb w _:=On.of_below (by rw [G.o.1];exact (HB.o.setCell (p:=⟨RB,0,none⟩) H.o (.int .i64 51)).setCell (p:=⟨RB,1,none⟩) H.o (.int .i64 f.pos));refine bodyPost_ret (v:=.agg #[.int .i64 51,.int .i64 f.pos]) (by simp [results,Tryz.results52,go_sem,r0,r1]) rfl ⟨by rw [K.o];rfl,D,E,?_⟩;exact (ak _ _ _ _ I.o).trans ((ak _ _ _ _ I.o).trans ((HB.o.block _ P.o).trans S.o))
   have hL:¬f.result<0:=by omega
   go_wp2_with fail
   have D:On cb w _:=On.of_below (by rw [G.o.1];exact (HB.o.setCell (p:=⟨RB,0,none⟩) H.o (.int .i64 51)).setCell (p:=⟨RB,1,none⟩) H.o (.int .i64 f.pos));refine bodyPost_ret (v:=.agg #[.int .i64 51,.int .i64 f.pos]) (by simp [results,Tryz.results52,go_sem,r0,r1]) rfl ⟨by rw [K.o];rfl,D,E,?_⟩;exact (ak _ _ _ _ I.o).trans ((ak _ _ _ _ I.o).trans ((HB.o.block _ P.o).trans S.o))
  have HR:=zh hr;have H4:¬f.result<0:=fun q=>hr (Or.inl q);have hL:¬3<f.result:=fun q=>hr (Or.inr q);clear hr;have v0:wr.cell? ⟨VB,0,none⟩=some (.map (some VR)):=aa A.o.v (j:=0) rfl;have Z:=yZ O.o;rw [hB.o] at Z;by_cases hR:(16:Int)<(f.params.length:Int)
  ·have K:=zh (HC.o.trans (oO J.o HR.o (Or.inl (by omega))))
   have f4:wr.cell? ⟨FP,4,none⟩=some (.int .i64 f.pos):=aa A.o.f (j:=4) rfl;obtain ⟨r0,r1,-⟩:=css A.o.r;obtain ⟨k0,k1,-⟩:=fzs A.o.r;go_wp2_with fail
   have D:On cb w _:=On.of_below (by rw [G.o.1];exact (HB.o.setCell (p:=⟨RB,0,none⟩) H.o (.int .i64 2)).setCell (p:=⟨RB,1,none⟩) H.o (.int .i64 f.pos));refine bodyPost_ret (v:=.agg #[.int .i64 2,.int .i64 f.pos]) (by simp [results,Tryz.results52,go_sem,r0,r1]) rfl ⟨by rw [K.o];rfl,D,E,?_⟩;exact (ak _ _ _ _ I.o).trans ((ak _ _ _ _ I.o).trans ((HB.o.block _ P.o).trans S.o))
  have f3:wr.cell? ⟨FP,3,none⟩=some (.slice s2 n2 c2):=aa A.o.f (j:=3) rfl;have X:Hd (Stays (fun b=>b<N) w wr):=zh (Stays.of_below (by rw [G.o.1];exact HB.o));have hU:=zh (kZ f.body wr _ ((h8.o.keep X.o).mono (fun _ _=>trivial)));have H2:=zh hR;generalize hz:dq 0 f.body=z at *;have HZ:=zh hz;clear hz;go_wp2_with fail
  refine hU.o.mono ?_;rintro e w4 ⟨rfl,l⟩;have M:=A;replace A:=zh (A.o.below l);replace O:=zh (O.o.below l);replace HB:=zh (HB.o.trans (l.mono (Nat.le_of_lt (af M.o.c))));clear M l Z v0 f3 f2 X;by_cases hA:(64:Int)<wrap64 ((f.params.length:Int)+z)
  ·have K:=zh (HC.o.trans (oO J.o HR.o (Or.inr (by rw [HZ.o];exact hA))))
   have f4:w4.cell? ⟨FP,4,none⟩=some (.int .i64 f.pos):=aa A.o.f (j:=4) rfl;obtain ⟨r0,r1,-⟩:=css A.o.r;obtain ⟨k0,k1,-⟩:=fzs A.o.r;go_wp2_with fail
   have D:On cb w _:=On.of_below (by rw [G.o.1];exact (HB.o.setCell (p:=⟨RB,0,none⟩) H.o (.int .i64 2)).setCell (p:=⟨RB,1,none⟩) H.o (.int .i64 f.pos));refine bodyPost_ret (v:=.agg #[.int .i64 2,.int .i64 f.pos]) (by simp [results,Tryz.results52,go_sem,r0,r1]) rfl ⟨by rw [K.o];rfl,D,E,?_⟩;exact (ak _ _ _ _ I.o).trans ((ak _ _ _ _ I.o).trans ((HB.o.block _ P.o).trans S.o))
  replace HC:=zh (HC.o.trans (zE J.o HR.o (by rw [HZ.o];exact fun q=>q.elim (fun q=>by have:=H2.o;omega) hA)));have f2:w4.cell? ⟨FP,2,none⟩=some (.int .i64 f.result):=aa A.o.f (j:=2) rfl;have c0:w4.cell? ⟨CP,0,none⟩=some (.pointer (some ⟨cb,0,none⟩)):=aa A.o.c (j:=0) rfl;have h:=zh ((HB.o.block _ P.o).trans S.o);have o1:w4.cell? ⟨cb,1,none⟩=some (.int .i64 E):=aa h.o (j:=1) rfl;have k1:w4.frozen? ⟨cb,1,none⟩=false:=ae h.o 1;go_upto_region 19 with fail
  have h7:Hd ((w4.setCell ⟨cb,1,none⟩ (.int .i64 f.result)).heap[cb]?=some (.cells #[.map (some fr),.int .i64 f.result] 115 (0,0))):=zh (au h.o 1 _);have h6:Hd (On cb w (w4.setCell ⟨cb,1,none⟩ (.int .i64 f.result))):=zh ((On.of_below (by rw [G.o.1];exact HB.o)).set 1 _);have L:Hd (BoxF (w4.setCell ⟨cb,1,none⟩ (.int .i64 f.result)) cb VR CP FP RB VB _):=zh (A.o.keep ((On.refl cb w4).set 1 _) (by have:=P.o;have:=G.o;omega));have hS:Hd (ViewAt (w4.setCell ⟨cb,1,none⟩ (.int .i64 f.result)) VR v):=zh (je O.o h.o 1 _);clear f2 c0 o1 k1 A O HB h;generalize (w4.setCell ⟨cb,1,none⟩ (.int .i64 f.result))=w5 at *;have X:Hd (Stays (fun b=>b<N) w w5):=zh (Stays.of_ne h6.o (fun q=>absurd hE.o.1 (Nat.not_le_of_lt q)));have H0:Hd (CtxAt w5 cb F f.result VR v):=zh ⟨⟨fr,h7.o,m,HM.o.keep (h6.o.block _ (by rw [G.o.1];exact hV.o) (fun e=>hE.o.2 (by injection e))),hX.o _ X.o⟩,hS.o⟩;have k:=zh (zF (Ci (fun x _=>pM cb F f.result HF.o x) H0.o ((h8.o.keep X.o).mono (fun _ _=>trivial)) L.o.c L.o.f L.o.v) (Ct ((h8.o.keep X.o).mono (fun _ _=>trivial)) L.o.f) w5 (Below.refl _ _) 173);generalize hq:aR [bG F f.result f.body v,noC (f.result==0 || eh f.body) 54 f.pos]=q at *;obtain ⟨fe,fa⟩:=q;have u:=zh (fk _ _ _ k.o);rw [hq] at u;clear hq k;unfold bI at u;dsimp only at u;go_wp2_with fail
  refine u.o.mono ?_;rintro e w6 ⟨rfl,hn⟩;have Q:Below w5.heap.size w5 w6:=am (ag (Below.refl _ _) _) hn;have A:=zh (L.o.below Q);have h5:=zh (h6.o.trans (On.of_below Q:On cb w5 w6));have hT:=zh ((Q.block _ (af h7.o)).trans h7.o);clear hn Q;obtain ⟨r0,r1,-⟩:=css A.o.r;obtain ⟨k0,k1,-⟩:=fzs A.o.r;go_wp2_with fail
  refine bodyPost_ret (v:=.agg #[.int .i64 fe,.int .i64 fa]) (by simp [results,Tryz.results52,go_sem,r0,r1]) rfl ⟨by rw [HC.o];rfl,(h5.o.set_new (p:=⟨RB,0,none⟩) (by rw [G.o.1];exact H.o) _).set_new (p:=⟨RB,1,none⟩) (by rw [G.o.1];exact H.o) _,f.result,?_⟩;exact (ak _ _ _ _ I.o).trans ((ak _ _ _ _ I.o).trans hT.o)
end
section
open Go.RowKit
theorem rx {w wr:World} {P:Nat} (h:w.heap.size=P) (hb:Below P w wr):P≤wr.heap.size:=by rw [←h];exact hb.size
theorem tY {S:Nat→Prop} {w:World} {cs:List Value} {f:Fn} (h:RepFn S w cs f):∃nm s1 n1 c1 rs s2 n2 c2 pos,cs=[.string nm,.slice s1 n1 c1,.int .i64 rs,.slice s2 n2 c2,.int .i64 pos]:=by
 obtain ⟨vp,vb,rfl,⟨c,⟨a1,a2,rfl,_⟩,_⟩,⟨c',⟨b1,b2,rfl,_⟩,_⟩⟩:=h;exact ⟨_,_,_,_,_,_,_,_,_,rfl⟩
theorem xY {S:Nat→Prop} {w:World} {f:Fn} {nm:ByteArray} {rs pos:Int} {s1 s2:Option Addr} {n1 c1 n2 c2:Nat} (h:RepFn S w [.string nm,.slice s1 n1 c1,.int .i64 rs,.slice s2 n2 c2,.int .i64 pos] f):nm=f.name∧n1=f.params.length∧rs=f.result∧n2=f.body.length∧pos=f.pos:=by
 obtain ⟨vp,vb,e,⟨c,⟨a1,a2,rfl,_⟩,_⟩,⟨c',⟨b1,b2,rfl,_⟩,_⟩⟩:=h;simp only [List.cons.injEq,Value.int.injEq,Value.string.injEq,Value.slice.injEq,true_and,and_true] at e
 exact ⟨e.1,e.2.1.2.1,e.2.2.1,e.2.2.2.1.2.1,e.2.2.2.2⟩
theorem FunR.put {w:World} (k:ByteArray) {u:Value} {f:Fn} (hf:FnV w u f):∀{m:List (ByteArray×Value)} {F:aU},FunR w m F→FunR w (bY m k u) (bY F k f)
 | [],[],_=>⟨rfl,hf,trivial⟩
 | p :: m,q :: F,⟨h1,h2,h3⟩=>by
  simp only [bY]
  rw [h1];split
  ·exact ⟨rfl,hf,h3⟩
  ·exact ⟨h1,h2,h3.put k hf⟩
theorem AF {F:aU} {k:ByteArray} {f:Fn} (h:∀p,p∈F→p.2.params.length≤100000) (hf:f.params.length≤100000):∀p,p∈bY F k f→p.2.params.length≤100000:=by
 induction F with
 | nil =>
  intro p hp;simp only [bY,List.mem_singleton] at hp
  subst hp;exact hf
 | cons q F ih =>
  intro p hp;simp only [bY] at hp
  split at hp
  ·rcases List.mem_cons.1 hp with rfl | hp
   ·exact hf
   ·exact h p (List.mem_cons_of_mem _ hp)
  ·rcases List.mem_cons.1 hp with rfl | hp
   ·exact h _ (List.mem_cons_self ..)
   ·exact ih (fun p hp=>h p (List.mem_cons_of_mem _ hp)) p hp
theorem AQ (l:List Fn) (i:Nat) (hi:i<l.length) (F:aU):dm (l.drop i) F=if (aL F (l.getD i default).name).isSome then ((53,(l.getD i default).pos),F) else dm (l.drop (i+1)) (bY F (l.getD i default).name (l.getD i default)):=by
 rw [List.drop_eq_getElem_cons hi,dm,List.getD_eq_getElem?_getD,List.getElem?_eq_getElem hi];rfl
theorem Aj (F:aU) (l:List Fn) (i:Nat) (hi:i<l.length):gy F (l.drop i)=orF (gi F (l.getD i default)) (gy F (l.drop (i+1))):=by
 rw [List.drop_eq_getElem_cons hi,gy,List.getD_eq_getElem?_getD,List.getElem?_eq_getElem hi];rfl
theorem sD {l:List Fn} (h:64<l.length):bL l=(2,0):=by
 unfold bL;rw [if_pos h]
theorem uN {l:List Fn} (h:¬64<l.length):bL l=if (dm l []).1.1≠0 then (dm l []).1 else gy (dm l []).2 l:=by
 unfold bL;rw [if_neg h]
theorem ro {l:List Fn} {q:Flt} {G:aU} (h:dm l []=(q,G)) (hq:¬q.1=0):(if (dm l []).1.1≠0 then (dm l []).1 else gy (dm l []).2 l)=q:=by
 rw [h,if_pos hq]
theorem tu {l:List Fn} {G:aU} (h:dm l []=(okF,G)):(if (dm l []).1.1≠0 then (dm l []).1 else gy (dm l []).2 l)=gy G l:=by
 rw [h,if_neg (by simp [okF])]
theorem qF (l:List Fn) (hp:∀f,f∈l→f.params.length≤100000) (w:World) (u:Value) (hr:RepFns Any w u l) :
    Calls Tryz.prog 28 #[.agg #[u]] w fun e w'=>e=.returned (.tuple #[.int .i64 (bL l).1,.int .i64 (bL l).2])∧Below w.heap.size w w':=by
 obtain ⟨cs,⟨s0,cap,rfl,h8,hd,_,Z,hx⟩,h9⟩:=hr;have d:=zh Z;have ht:Hd (∀i,i<l.length→RepFn (fun b=>b<w.heap.size) w (cs i) (l.getD i default)):=zh (fun i hi=>(h9 i hi).lies.mono (fun _ h=>h.2));have hv:=zh (And.intro h8 hd);have HP:=zh hp;generalize hC:bL l=C;have HC:=zh hC.symm;clear Z h9 hx h8 hd hC hp;by_cases hq:(64:Int)<(l.length:Int)
 ·have V:=zh (HC.o.trans (sD (by omega)))
  go_enter Tryz.func28,Tryz.ntmps28
  go_wp2_with fail
  refine bodyPost_ret (v:=.tuple #[.int .i64 2,.int .i64 0]) (by simp [results,Tryz.results28,go_sem]) rfl ⟨by rw [V.o],ag (Below.refl _ _) _⟩
 replace HC:=zh (HC.o.trans (uN (by omega)));have HB:Hd (Below w.heap.size w (((w.alloc (.cells #[.slice s0 l.length cap] 26)).alloc (.map #[] 0)).alloc (.cells #[.map (some (w.heap.size+1)),.int .i64 0] 115))):=zh (ag (ag (ag (Below.refl _ _) _) _) _);have N:Hd ((((w.alloc (.cells #[.slice s0 l.length cap] 26)).alloc (.map #[] 0)).alloc (.cells #[.map (some (w.heap.size+1)),.int .i64 0] 115)).heap[w.heap.size]?=some (.cells #[.slice s0 l.length cap] 26 (0,0))):=zh (ax _ _ _ _ (ax _ _ _ _ (aj _ _ _ rfl)));have A:Hd ((((w.alloc (.cells #[.slice s0 l.length cap] 26)).alloc (.map #[] 0)).alloc (.cells #[.map (some (w.heap.size+1)),.int .i64 0] 115)).heap[w.heap.size+2]?=some (.cells #[.map (some (w.heap.size+1)),.int .i64 0] 115 (0,0))):=zh (aj _ _ _ (by rw [ah,ah]));have HM:Hd (MapAt (((w.alloc (.cells #[.slice s0 l.length cap] 26)).alloc (.map #[] 0)).alloc (.cells #[.map (some (w.heap.size+1)),.int .i64 0] 115)) (w.heap.size+1) []):=zh ⟨#[],0,ax _ _ _ _ (aj _ _ _ (ah _ _)),rfl⟩;have hy:=@run_makeMap Tryz.prog;have hE:=zh hq;obtain ⟨PF,hh⟩:∃PF,PF=dm l []:=⟨_,rfl⟩
 have t:=zh hh;clear hh;go_enter Tryz.func28,Tryz.ntmps28
 go_upto_region 4 with fail
 clear hy hq;generalize (((w.alloc (.cells #[.slice s0 l.length cap] 26)).alloc (.map #[] 0)).alloc (.cells #[.map (some (w.heap.size+1)),.int .i64 0] 115))=w1 at *;generalize hn:w.heap.size+2=CB at *;generalize hl:w.heap.size+1=FR at *;generalize hk:w.heap.size=PB at *;have H:=zh (And.intro hk (And.intro hl hn));clear hk hl hn;have p0:w1.cell? ⟨PB,0,none⟩=some (.slice s0 l.length cap):=aa N.o (j:=0) rfl;go_wp2_with fail
 clear p0;go_loopg [22] l.length (fun g t22 wr=>∃(i:Nat) (F:aU) (m:List (ByteArray×Value)),i+g=l.length∧t22=.int .i64 (i:Int)∧PF=dm (l.drop i) F∧MapAt wr FR m∧(∀W,Stays (fun b=>b<PB) w W→FunR W m F)∧(∀p,p∈F→p.2.params.length≤100000)∧Below PB w wr∧wr.heap[PB]?=some (.cells #[.slice s0 l.length cap] 26 (0,0))∧wr.heap[CB]?=some (.cells #[.map (some FR),.int .i64 0] 115 (0,0)))
 case atStart=>exact ⟨0,[],[],Nat.zero_add _,rfl,t.o,HM.o,fun _ _=>trivial,fun _ h=>(by cases h),HB.o,N.o,A.o⟩
 case round =>
  obtain ⟨i,F,m,hz,rfl,h5,hm,s,c,hb,h6,Q⟩:=hrel;clear HB N A HM;have O:=zh h5;have HM:=zh hm;have h3:=zh s;have hu:=zh c;have HB:=zh hb;have N:=zh h6;have A:=zh Q;clear h5 hm s c hb h6 Q;by_cases P:i<l.length
  ·obtain ⟨z,T⟩:=hv.o
   unfold maxLen at T;have g1:(i:Int)<(l.length:Int):=by omega
   have g3:(0:Int)≤(i:Int):=by omega
   obtain ⟨b,off,E,hA,h0,J⟩:=d.o (by omega);subst E;have D:=ht.o i P;obtain ⟨nm,s1,n1,c1,rs,s2,n2,c2,pos,R⟩:=tY D;rw [R] at D;have L:∀j,j<5→wr.cell? ⟨b,off+i * 5+j,none⟩=(cs i)[j]?:=fun j hj=>(HB.o.cell (p:=⟨b,_,none⟩) h0).trans (J i P j hj);rw [R] at L;have x0:wr.cell? ⟨b,off+i * 5,none⟩=some (.string nm):=L 0 (by decide);have x1:wr.cell? ⟨b,off+i * 5+1,none⟩=some (.slice s1 n1 c1):=L 1 (by decide);have x2:wr.cell? ⟨b,off+i * 5+2,none⟩=some (.int .i64 rs):=L 2 (by decide);have x3:wr.cell? ⟨b,off+i * 5+3,none⟩=some (.slice s2 n2 c2):=L 3 (by decide);have x4:wr.cell? ⟨b,off+i * 5+4,none⟩=some (.int .i64 pos):=L 4 (by decide);have a:l.getD i default∈l:=by rw [List.getD_eq_getElem?_getD,List.getElem?_eq_getElem P];exact List.getElem_mem P
   have c:=HP.o _ a;have ha:=xY D;have X:=zh (O.o.trans (AQ l i P F));generalize l.getD i default=f at *;have U:=zh D;have x:=zh ha;have h4:=zh c;clear L D J R a ha c;go_upto_region 7 with fail
   have M:Below wr.heap.size wr (wr.alloc (.cells #[.string nm,.slice s1 n1 c1,.int .i64 rs,.slice s2 n2 c2,.int .i64 pos] 76)):=ag (Below.refl _ _) _;have I:Hd ((wr.alloc (.cells #[.string nm,.slice s1 n1 c1,.int .i64 rs,.slice s2 n2 c2,.int .i64 pos] 76)).heap[wr.heap.size]?=some (.cells #[.string nm,.slice s1 n1 c1,.int .i64 rs,.slice s2 n2 c2,.int .i64 pos] 76 (0,0))):=zh (aj _ _ _ rfl);have hD:Hd (PB≤wr.heap.size∧CB<wr.heap.size∧FR<wr.heap.size):=zh ⟨rx H.o.1 HB.o,af A.o,HM.o.lt⟩;replace N:=zh ((M.block _ (af N.o)).trans N.o);replace A:=zh ((M.block _ (af A.o)).trans A.o);replace HM:=zh (HM.o.below M);replace HB:=zh (HB.o.trans (M.mono (rx H.o.1 HB.o)));clear M x0 x1 x2 x3 x4;generalize (wr.alloc (.cells #[.string nm,.slice s1 n1 c1,.int .i64 rs,.slice s2 n2 c2,.int .i64 pos] 76))=w3 at *;generalize wr.heap.size=FB at *
   have n:∃qnm qs1 qn1 qc1 qrs qs2 qn2 qc2 qps bb,(∀W:World,Below w3.heap.size w3 W→(Instr.lookup 113 (.map (some FR)) (.string nm) true).run Tryz.prog W=.ok (.tuple #[.agg #[.string qnm,.slice qs1 qn1 qc1,.int .i64 qrs,.slice qs2 qn2 qc2,.int .i64 qps],.bool bb]) W)∧bb=(aL F nm).isSome:=by
    have s:=h3.o w3 (Stays.of_below (by rw [H.o.1];exact HB.o));rcases s.look nm with ⟨e1,e2⟩ | ⟨u,f,e1,e2,qnm,qs1,qn1,qc1,qrs,qs2,qn2,qc2,qps,rfl,_⟩
    ·refine ⟨⟨#[]⟩,none,0,0,0,none,0,0,0,false,fun W hW=>?_,by rw [e2];rfl⟩
     have q:=fI (HM.o.below hW) iS gA (lZ W) nm;rw [e1] at q;exact q
    ·refine ⟨qnm,qs1,qn1,qc1,qrs,qs2,qn2,qc2,qps,true,fun W hW=>?_,by rw [e2];rfl⟩
     have q:=fI (HM.o.below hW) iS gA (lZ W) nm;rw [e1] at q;exact q
   obtain ⟨qnm,qs1,qn1,qc1,qrs,qs2,qn2,qc2,qps,bb,n,hg⟩:=n;have k:=zh n;have hw:=zh hg;clear n hg;have E:w3.drew.cell? ⟨CB,0,none⟩=some (.map (some FR))∧w3.drew.cell? ⟨FB,0,none⟩=some (.string nm)∧(Instr.lookup 113 (.map (some FR)) (.string nm) true).run Tryz.prog w3.drew=.ok (.tuple #[.agg #[.string qnm,.slice qs1 qn1 qc1,.int .i64 qrs,.slice qs2 qn2 qc2,.int .i64 qps],.bool bb]) w3.drew:=⟨aa A.o (j:=0) rfl,aa I.o (j:=0) rfl,k.o _ (aw (Below.refl _ _))⟩
   refine wp_region_held (S:=(fun w':World=>w'.cell? ⟨CB,0,none⟩=some (.map (some FR))∧w'.cell? ⟨FB,0,none⟩=some (.string nm)∧(Instr.lookup 113 (.map (some FR)) (.string nm) true).run Tryz.prog w'=.ok (.tuple #[.agg #[.string qnm,.slice qs1 qn1 qc1,.int .i64 qrs,.slice qs2 qn2 qc2,.int .i64 qps],.bool bb]) w')) (by kernel_rfl) ?_;refine tkA 0 ?_;refine tkA 1 ?_;refine tkA 2 ?_;refine tkA 3 ?_;refine tkA 4 ?_;refine tkA 5 ?_;refine tkA 6 ?_;refine tkA 7 ?_;refine tkA 8 ?_;refine tkA 9 ?_;refine rd1 10 fun K hK=>?_;go_simp;refine hK.out _ _ ?_ (fun hH=>?_)
   ·exact ⟨aq _ E.1,aq _ E.2.1,k.o _ (ag (aw (Below.refl _ _)) _)⟩
   clear hK K;try go_simp
   refine rd1 11 fun K hK=>?_;go_simp;refine hK.out _ _ ?_ (fun hH=>?_)
   ·exact ⟨aq _ E.1,aq _ E.2.1,k.o _ (ag (aw (Below.refl _ _)) _)⟩
   clear hK K;try go_simp
   refine rd1 12 fun K hK=>?_;go_simp;refine hK.out _ _ ?_ (fun hH=>?_)
   ·exact ⟨aq _ E.1,aq _ E.2.1,k.o _ (ag (aw (Below.refl _ _)) _)⟩
   clear hK K;try go_simp
   refine wpAnyH_done (by kernel_rfl) ?_ _;clear E;have Y:Below w3.heap.size w3 (w3.alloc (.cells #[.string qnm,.slice qs1 qn1 qc1,.int .i64 qrs,.slice qs2 qn2 qc2,.int .i64 qps] 76)).drew:=aw (ag (Below.refl _ _) _);replace N:=zh ((Y.block _ (af N.o)).trans N.o);replace A:=zh ((Y.block _ (af A.o)).trans A.o);replace HM:=zh (HM.o.below Y);replace I:=zh ((Y.block _ (af I.o)).trans I.o);replace HB:=zh (HB.o.trans (Y.mono (rx H.o.1 HB.o)));clear Y k;generalize (w3.alloc (.cells #[.string qnm,.slice qs1 qn1 qc1,.int .i64 qrs,.slice qs2 qn2 qc2,.int .i64 qps] 76)).drew=w4 at *
   cases bb
   ·replace X:=zh (X.o.trans (if_neg (by rw [←x.o.1,←hw.o];simp)))
    go_upto_region 10 with fail
    have E:w4.drew.cell? ⟨CB,0,none⟩=some (.map (some FR))∧w4.drew.cell? ⟨FB,0,none⟩=some (.string nm)∧w4.drew.cell? ⟨FB,1,none⟩=some (.slice s1 n1 c1)∧w4.drew.cell? ⟨FB,2,none⟩=some (.int .i64 rs)∧w4.drew.cell? ⟨FB,3,none⟩=some (.slice s2 n2 c2)∧w4.drew.cell? ⟨FB,4,none⟩=some (.int .i64 pos):=⟨aa A.o (j:=0) rfl,aa I.o (j:=0) rfl,aa I.o (j:=1) rfl,aa I.o (j:=2) rfl,aa I.o (j:=3) rfl,aa I.o (j:=4) rfl⟩
    refine ay (S:=(fun w':World=>w'.cell? ⟨CB,0,none⟩=some (.map (some FR))∧w'.cell? ⟨FB,0,none⟩=some (.string nm)∧w'.cell? ⟨FB,1,none⟩=some (.slice s1 n1 c1)∧w'.cell? ⟨FB,2,none⟩=some (.int .i64 rs)∧w'.cell? ⟨FB,3,none⟩=some (.slice s2 n2 c2)∧w'.cell? ⟨FB,4,none⟩=some (.int .i64 pos))) 7 (by kernel_rfl) (by kernel_rfl) (by exact E) (fun hH=>?_);simp only [List.take_succ_cons,List.take_zero,List.drop_succ_cons,List.drop_zero]
    refine tkA 0 ?_;refine tkA 1 ?_;refine tkA 2 ?_;refine tkA 3 ?_;refine tkA 4 ?_;refine tkA 5 ?_;refine tkA 6 ?_;refine wpAnyH_done (by kernel_rfl) ?_ _;dsimp only [aP];clear E;have hs:Hd (MapAt w4.drew FR m):=zh (HM.o.keep rfl);have hp:=gh hs.o iS gA nm (.agg #[.string nm,.slice s1 n1 c1,.int .i64 rs,.slice s2 n2 c2,.int .i64 pos]);have hB:=zh (jG hs.o nm (.agg #[.string nm,.slice s1 n1 c1,.int .i64 rs,.slice s2 n2 c2,.int .i64 pos]));have h2:=zh (gj w4.drew FR nm (.agg #[.string nm,.slice s1 n1 c1,.int .i64 rs,.slice s2 n2 c2,.int .i64 pos]));go_wp2_with fail
    go_roundg (l.length-i-1)
    case measure=>omega
    case rel =>
     have h7:PB≠FR∧CB≠FR:=by have:=H.o;omega
     refine ⟨i+1,_,_,by omega,rfl,X.o,hB.o,fun W hW=>?_,?_,?_,h2.o.obj h7.1 N.o,h2.o.obj h7.2 A.o⟩
     ·rw [←x.o.1]
      exact (h3.o W hW).put nm ⟨nm,s1,n1,c1,rs,s2,n2,c2,pos,rfl,(U.o.keep hW).mono (fun _ _=>trivial)⟩
     ·exact AF hu.o h4.o
     ·have q:=h2.o.base (B:=w) (by rw [H.o.1];exact HB.o.drew) (by have:=H.o;omega)
      rw [H.o.1] at q;exact q
   have V:=zh (HC.o.trans (ro (q:=(53,f.pos)) (G:=F) (t.o.symm.trans (X.o.trans (if_pos (by rw [←x.o.1,←hw.o])))) (by simp)));go_upto_region 9 with fail
   have E:w4.drew.cell? ⟨FB,4,none⟩=some (.int .i64 pos):=aa I.o (j:=4) rfl;refine wp_region_held (S:=(fun w':World=>w'.cell? ⟨FB,4,none⟩=some (.int .i64 pos))) (by kernel_rfl) ?_;refine tkA 0 ?_;refine tkA 1 ?_;refine rd1 2 fun K hK=>?_;go_simp;refine hK.out _ _ ?_ (fun hH=>?_)
   ·exact E
   clear hK K;try go_simp
   refine rd1 3 fun K hK=>?_;go_simp;refine hK.out _ _ ?_ (fun hH=>?_)
   ·exact E
   clear hK K;try go_simp
   refine wpAnyH_done (by kernel_rfl) ?_ _;go_wp2_with fail
   exact bodyPost_ret (v:=.tuple #[.int .i64 53,.int .i64 pos]) (by simp [results,Tryz.results28,go_sem]) rfl ⟨by rw [V.o,x.o.2.2.2.2],by rw [H.o.1];exact HB.o.drew⟩
  obtain rfl:i=l.length:=by omega
  have g1:¬(l.length:Int)<(l.length:Int):=by omega
  replace O:=zh (t.o.symm.trans (O.o.trans (by rw [List.drop_eq_nil_of_le (Nat.le_refl _),dm]:_=(okF,F))));replace HC:=zh (HC.o.trans (tu O.o));clear O t;have p0:wr.cell? ⟨PB,0,none⟩=some (.slice s0 l.length cap):=aa N.o (j:=0) rfl;go_wp2_with fail
  clear p0;have hc:C=gy F (l.drop 0):=HC.o;go_loopg [50] l.length (fun g t50 wr=>∃(i:Nat) (r:Int),i+g=l.length∧t50=.int .i64 (i:Int)∧C=gy F (l.drop i)∧MapAt wr FR m∧Below PB w wr∧wr.heap[CB]?=some (.cells #[.map (some FR),.int .i64 r] 115 (0,0)))
  case atStart=>exact ⟨0,0,Nat.zero_add _,rfl,hc,HM.o,HB.o,A.o⟩
  case round =>
   obtain ⟨i,r,hz,rfl,hf,hm,hb,Q⟩:=hrel;clear HB HM A hc HC;have HC:=zh hf;have HM:=zh hm;have HB:=zh hb;have A:=zh Q;clear hf hm hb Q;by_cases P:i<l.length
   ·obtain ⟨z,T⟩:=hv.o
    unfold maxLen at T;have g1:(i:Int)<(l.length:Int):=by omega
    have g3:(0:Int)≤(i:Int):=by omega
    obtain ⟨b,off,E,hA,h0,J⟩:=d.o (by omega);subst E;have D:=ht.o i P;obtain ⟨nm,s1,n1,c1,rs,s2,n2,c2,pos,R⟩:=tY D;rw [R] at D;have L:∀j,j<5→wr.cell? ⟨b,off+i * 5+j,none⟩=(cs i)[j]?:=fun j hj=>(HB.o.cell (p:=⟨b,_,none⟩) h0).trans (J i P j hj);rw [R] at L;have x0:wr.cell? ⟨b,off+i * 5,none⟩=some (.string nm):=L 0 (by decide);have x1:wr.cell? ⟨b,off+i * 5+1,none⟩=some (.slice s1 n1 c1):=L 1 (by decide);have x2:wr.cell? ⟨b,off+i * 5+2,none⟩=some (.int .i64 rs):=L 2 (by decide);have x3:wr.cell? ⟨b,off+i * 5+3,none⟩=some (.slice s2 n2 c2):=L 3 (by decide);have x4:wr.cell? ⟨b,off+i * 5+4,none⟩=some (.int .i64 pos):=L 4 (by decide);have X:=zh (HC.o.trans (Aj F l i P));generalize l.getD i default=f at *;have U:=zh D;clear L D J R;go_upto_region 15 with fail
    have M:Below wr.heap.size wr (wr.alloc (.cells #[.string nm,.slice s1 n1 c1,.int .i64 rs,.slice s2 n2 c2,.int .i64 pos] 76)):=ag (Below.refl _ _) _;have I:Hd ((wr.alloc (.cells #[.string nm,.slice s1 n1 c1,.int .i64 rs,.slice s2 n2 c2,.int .i64 pos] 76)).heap[wr.heap.size]?=some (.cells #[.string nm,.slice s1 n1 c1,.int .i64 rs,.slice s2 n2 c2,.int .i64 pos] 76 (0,0))):=zh (aj _ _ _ rfl);replace A:=zh ((M.block _ (af A.o)).trans A.o);replace HM:=zh (HM.o.below M);replace HB:=zh (HB.o.trans (M.mono (rx H.o.1 HB.o)));clear M x0 x1 x2 x3 x4;generalize (wr.alloc (.cells #[.string nm,.slice s1 n1 c1,.int .i64 rs,.slice s2 n2 c2,.int .i64 pos] 76))=w3 at *;generalize wr.heap.size=FB at *;have h1:Hd (Stays (fun b=>b<PB) w w3):=zh (Stays.of_below (by rw [H.o.1];exact HB.o));have y:=zh (Ar CB PB FR F hu.o m f w3 r (by have:=H.o;omega) (by have:=H.o;omega) A.o HM.o (fun W hW=>h3.o W (h1.o.trans hW)) nm s1 n1 c1 rs s2 n2 c2 pos (U.o.keep h1.o));generalize gi F f=q at *;obtain ⟨fe,fa⟩:=q;unfold bI at y;dsimp only at y;obtain ⟨y0,y1,y2,y3,y4,-⟩:=css I.o;go_wp2_with fail
    refine y.o.mono ?_;rintro e w4 ⟨rfl,ho,r2,Q⟩;clear y0 y1 y2 y3 y4 h1 y;replace HM:=zh (HM.o.keep (ho.block _ HM.o.lt (fun e=>by injection e with e;have:=H.o;omega)));replace HB:Hd (Below PB w w4):=zh (by have q:=ho.base (B:=w) (by rw [H.o.1];exact HB.o) (by have:=H.o;omega);rw [H.o.1] at q;exact q);replace A:=zh Q;clear ho Q I;go_upto_region 16 with fail
    have M:Below w4.heap.size w4 (w4.alloc (.cells #[.int .i64 fe,.int .i64 fa] 118)):=ag (Below.refl _ _) _;have I:Hd ((w4.alloc (.cells #[.int .i64 fe,.int .i64 fa] 118)).heap[w4.heap.size]?=some (.cells #[.int .i64 fe,.int .i64 fa] 118 (0,0))):=zh (aj _ _ _ rfl);replace A:=zh ((M.block _ (af A.o)).trans A.o);replace HM:=zh (HM.o.below M);replace HB:=zh (HB.o.trans (M.mono (rx H.o.1 HB.o)));clear M;generalize (w4.alloc (.cells #[.int .i64 fe,.int .i64 fa] 118))=w5 at *;generalize w4.heap.size=EB at *;by_cases he:fe=0
    ·subst he
     have z0:w5.cell? ⟨EB,0,none⟩=some (.int .i64 0):=aa I.o (j:=0) rfl;go_wp2_with fail
     go_roundg (l.length-i-1)
     case measure=>omega
     case rel=>exact ⟨i+1,r2,by omega,rfl,X.o.trans (by simp [orF]),HM.o,HB.o,A.o⟩
    have V:=zh (X.o.trans (show orF (fe,fa) _=(fe,fa) by simp [orF,he]));have z0:w5.cell? ⟨EB,0,none⟩=some (.int .i64 fe):=aa I.o (j:=0) rfl;go_upto_region 17 with fail
    have E:w5.drew.cell? ⟨EB,0,none⟩=some (.int .i64 fe)∧w5.drew.cell? ⟨EB,1,none⟩=some (.int .i64 fa):=⟨aa I.o (j:=0) rfl,aa I.o (j:=1) rfl⟩
    refine wp_region_held (S:=(fun w':World=>w'.cell? ⟨EB,0,none⟩=some (.int .i64 fe)∧w'.cell? ⟨EB,1,none⟩=some (.int .i64 fa))) (by kernel_rfl) ?_;refine tkA 0 ?_;refine tkA 1 ?_;refine tkA 2 ?_;refine tkA 3 ?_;refine rd1 4 fun K hK=>?_;go_simp;refine hK.out _ _ ?_ (fun hH=>?_)
    ·exact E
    clear hK K;try go_simp
    refine rd1 5 fun K hK=>?_;go_simp;refine hK.out _ _ ?_ (fun hH=>?_)
    ·exact E
    clear hK K;try go_simp
    refine wpAnyH_done (by kernel_rfl) ?_ _;go_wp2_with fail
    exact bodyPost_ret (v:=.tuple #[.int .i64 fe,.int .i64 fa]) (by simp [results,Tryz.results28,go_sem]) rfl ⟨by rw [V.o],by rw [H.o.1];exact HB.o.drew⟩
   obtain rfl:i=l.length:=by omega
   have g1:¬(l.length:Int)<(l.length:Int):=by omega
   have V:=zh (HC.o.trans (by rw [List.drop_eq_nil_of_le (Nat.le_refl _),gy]:_=okF));go_wp2_with fail
   exact bodyPost_ret (v:=.tuple #[.int .i64 0,.int .i64 0]) (by simp [results,Tryz.results28,go_sem]) rfl ⟨by rw [V.o];rfl,by rw [H.o.1];exact HB.o⟩
end
section
open Go.RowKit
attribute [local go_sem ↓] Go.wp_at_zero Go.wp_at_succ
def jU (j:Jo) (r:Rst):Prop:=j.undo.length≤r.undo.length∧r.jo.back j.undo.length=j
theorem ox {j:Jo} {r:Rst} (h:jU j r) (l:List Pr):jU j { r with pairs:=l,undo:=r.undo++[r.pairs] }:=by
 obtain ⟨h1,h2⟩:=h;refine ⟨by simp;omega,Eq.trans ?_ h2⟩;unfold Jo.back Rst.jo;dsimp only;rw [List.length_append,if_pos (show j.undo.length<r.undo.length+[r.pairs].length by simp;omega),List.take_append_of_le_length h1];by_cases e:j.undo.length<r.undo.length
 ·rw [if_pos e,List.getD_eq_getElem?_getD,List.getElem?_append_left e,←List.getD_eq_getElem?_getD]
 ·obtain e:j.undo.length=r.undo.length:=by omega
  rw [if_neg (by omega),e,List.getD_eq_getElem?_getD,List.getElem?_append_right (Nat.le_refl _),Nat.sub_self];rfl
theorem Inv.back (j:Jo):Inv (jU j):=⟨fun _ _ h=>h,fun _ _ _ _ h _=>ox h _,fun _ _ h=>ox h _⟩
def zj (ty num:Int) (n:Nat) (t:Int):Bool:=if t=3 then ty==t&&num==0&&decide (n≤256) else ty==t&&decide (n=0)
theorem xT (ty num t:Int) (p:Option Addr) (n c:Nat) (w:World) (hn:n≤maxLen):Calls Tryz.prog 33 #[.agg #[.int .i64 ty,.int .i64 num,.slice p n c],.int .i64 t] w fun e w'=>e=.returned (.bool (zj ty num n t))∧Below w.heap.size w w':=by
 have D:(n:Int)≤9223372036854775807:=by unfold maxLen at hn;omega
 have HN:=zh hn;clear hn;generalize hB:zj ty num n t=B;have HB:=zh hB;clear hB;by_cases h3:t=3
 ·subst h3
  have C:Hd (B=(ty==3&&num==0&&decide (n≤256))):=zh (by rw [←HB.o];rfl);by_cases h1:ty=3
  ·subst h1
   by_cases h2:num=0
   ·subst h2
    have A:Hd (B=decide ((n:Int)≤256)):=zh (by rw [C.o];by_cases q:n≤256<;>simp [q]<;>omega);go_enter Tryz.func33,Tryz.ntmps33
    go_wp2_with fail
    exact bodyPost_ret (v:=.bool (decide ((n:Int)≤256))) (by simp [results,Tryz.results33,go_sem]) rfl ⟨by rw [A.o],ag (Below.refl _ _) _⟩
   ·have e2:(num==0)=false:=beq_eq_false_iff_ne.2 h2
    have A:Hd (B=false):=zh (by rw [C.o,e2];rfl);clear h2;go_enter Tryz.func33,Tryz.ntmps33
    go_wp2_with fail
    exact bodyPost_ret (v:=.bool false) (by simp [results,Tryz.results33,go_sem]) rfl ⟨by rw [A.o],ag (Below.refl _ _) _⟩
  ·have e1:(ty==3)=false:=beq_eq_false_iff_ne.2 h1
   have A:Hd (B=false):=zh (by rw [C.o,e1];rfl);clear h1;go_enter Tryz.func33,Tryz.ntmps33
   go_wp2_with fail
   exact bodyPost_ret (v:=.bool false) (by simp [results,Tryz.results33,go_sem]) rfl ⟨by rw [A.o],ag (Below.refl _ _) _⟩
 ·have C:Hd (B=(ty==t&&decide (n=0))):=zh (by rw [←HB.o];unfold zj;rw [if_neg h3])
  have e0:(t==3)=false:=beq_eq_false_iff_ne.2 h3;clear h3;by_cases h1:ty=t
  ·have e1:(ty==t)=true:=beq_iff_eq.2 h1
   have A:Hd (B=((n:Int)==0)):=zh (by rw [C.o,e1];by_cases q:n=0<;>simp [q]);clear h1;go_enter Tryz.func33,Tryz.ntmps33
   go_wp2_with fail
   exact bodyPost_ret (v:=.bool ((n:Int)==0)) (by simp [results,Tryz.results33,go_sem]) rfl ⟨by rw [A.o],ag (Below.refl _ _) _⟩
  ·have e1:(ty==t)=false:=beq_eq_false_iff_ne.2 h1
   have A:Hd (B=false):=zh (by rw [C.o,e1];rfl);clear h1;go_enter Tryz.func33,Tryz.ntmps33
   go_wp2_with fail
   exact bodyPost_ret (v:=.bool false) (by simp [results,Tryz.results33,go_sem]) rfl ⟨by rw [A.o],ag (Below.refl _ _) _⟩
structure EndAt (w:World) (JX MX RX OX RB JB:Nat) (m:Int) (a b:Int) (p:Option Addr) (n c:Nat) (t u:Int):Prop where
 j:w.heap[JX]?=some (.cells #[.pointer (some ⟨JB,0,none⟩)] 31 (0,0))
 m:w.heap[MX]?=some (.cells #[.int .i64 m] 3 (0,0))
 r:w.heap[RX]?=some (.cells #[.pointer (some ⟨RB,0,none⟩)] 81 (0,0))
 o:w.heap[OX]?=some (.cells #[.int .i64 a,.int .i64 b,.slice p n c,.int .i64 t,.int .i64 u] 38 (0,0))
def lS (w:World) (OX:Nat) (a b:Int) (p:Option Addr) (n c:Nat) (t u:Int):World:=((((w.setCell ⟨OX,0,none⟩ (.int .i64 a)).setCell ⟨OX,1,none⟩ (.int .i64 b)).setCell ⟨OX,2,none⟩ (.slice p n c)).setCell ⟨OX,3,none⟩ (.int .i64 t)).setCell ⟨OX,4,none⟩ (.int .i64 u)
theorem mX (w:World) (OX:Nat) (a b:Int) (p:Option Addr) (n c:Nat) (t u:Int):On OX w (lS w OX a b p n c t u):=((((((On.refl OX w).set 0 _).set 1 _).set 2 _).set 3 _).set 4 _)
theorem eP {w:World} {OX:Nat} {a0 b0 t0 u0:Int} {p0:Option Addr} {n0 c0:Nat} (h:w.heap[OX]?=some (.cells #[.int .i64 a0,.int .i64 b0,.slice p0 n0 c0,.int .i64 t0,.int .i64 u0] 38 (0,0))) (a b:Int) (p:Option Addr) (n c:Nat) (t u:Int) :
    (lS w OX a b p n c t u).heap[OX]?=some (.cells #[.int .i64 a,.int .i64 b,.slice p n c,.int .i64 t,.int .i64 u] 38 (0,0)):=
 au (au (au (au (au h 0 _) 1 _) 2 _) 3 _) 4 _
theorem yc (JX MX RX OX:Nat) (w:World) :
    CallsD Tryz.prog 35 #[.pointer (some ⟨JX,0,none⟩),.pointer (some ⟨MX,0,none⟩),.pointer (some ⟨RX,0,none⟩),.pointer (some ⟨OX,0,none⟩)] .returning w fun e u' w'=>e=.returned (.tuple #[])∧u'=.returning∧w'=w:=by
 refine callsD_of_wpS Tryz.func35 rfl fun c₀ cs hu=>?_;apply wpS_seq;apply wpS_region;simp [wpOpsS,go_sem,recoverD,hu,Tryz.ntmps35,Exit.thenS]
 refine wpS_of_wp ?_;simp only [Array.replicate_succ,Array.replicate_zero,List.push_toArray,List.setIfInBounds_toArray,List.set_cons_succ,List.set_cons_zero,List.append_toArray,List.cons_append,List.nil_append]
 have HU:=zh hu;have A:∀W:World,(Instr.typeAssert .nilIface 20 36 true).run Tryz.prog W=.ok (.tuple #[.int .i64 0,.bool false]) W:=fun _=>by kernel_rfl
 have B:∀W:World,(binOp .neq 20 .nilIface .nilIface).run Tryz.prog W=.ok (.bool false) W:=fun _=>by kernel_rfl
 clear hu;go_wp2_with fail
 have hu:=HU.o
 cases c₀
 simp_all [bodyPostS,results,Tryz.results35]
theorem zg {y:Ly} {r:Rst} {k:Int} (JX MX RX OX:Nat) (m:Nat) (a0 b0 t0 u0:Int) (p0:Option Addr) (n0 c0:Nat) (t:Int) (B:List PanicEntry) (w:World) (hr:RunAt y w r k) (h:EndAt w JX MX RX OX y.RB y.JB m a0 b0 p0 n0 c0 t0 u0) (hm:m≤r.undo.length) :
    CallsD Tryz.prog 35 #[.pointer (some ⟨JX,0,none⟩),.pointer (some ⟨MX,0,none⟩),.pointer (some ⟨RX,0,none⟩),.pointer (some ⟨OX,0,none⟩)] (.panicking ({ v:=.iface 36 (.int .i64 t),recovered:=false } :: B)) w fun e u' w' =>
     e=.returned (.tuple #[])∧u'=.panicking ({ v:=.iface 36 (.int .i64 t),recovered:=true } :: B)∧∃w1,JAt y.U w1 y.JB (r.jo.back m) (y.N+r.used.toNat)∧OnS (fun k=>k=y.JB) w w1∧w'=lS w1 OX 0 0 none 0 0 t r.used:=by
 have J:=zh (fun W (hW:W=w)=>vX (j:=r.jo) m W (hW▸hr.jo) hm (by have:=hr.low;have:=hr.gas;omega));obtain ⟨sF,nF,cF,C,_⟩:=hr.box;have E:=zh C;have K:=zh hr.jo.ty;have HE:=zh h;have nj:∀{b:Nat} {arr:Array Value} {ty:TypeId},w.heap[b]?=some (.cells arr ty (0,0))→ty≠68→¬b=y.JB:=fun hb G e=>OfTy.ne (⟨_,_,hb⟩:OfTy w _ _) K.o G e;have I:Hd (¬JX=y.JB∧¬MX=y.JB∧¬RX=y.JB∧¬OX=y.JB∧¬y.RB=y.JB):=zh ⟨nj h.j (by decide),nj h.m (by decide),nj h.r (by decide),nj h.o (by decide),nj C (by decide)⟩;clear nj hr C hm;refine callsD_of_wpS Tryz.func35 rfl fun c₀ cs hu=>?_;apply wpS_seq;apply wpS_region;simp [wpOpsS,go_sem,recoverD,hu,Tryz.ntmps35,Exit.thenS]
 refine wpS_of_wp ?_;simp only [Array.replicate_succ,Array.replicate_zero,List.push_toArray,List.setIfInBounds_toArray,List.set_cons_succ,List.set_cons_zero,List.append_toArray,List.cons_append,List.nil_append]
 have j0:=aa h.j (j:=0) (u:=.pointer (some ⟨y.JB,0,none⟩)) rfl;have m0:=aa h.m (j:=0) (u:=.int .i64 m) rfl;have HU:=zh hu;have M:∀W:World,(Instr.typeAssert (.iface 36 (.int .i64 t)) 20 36 true).run Tryz.prog W=.ok (.tuple #[.int .i64 t,.bool true]) W:=fun _=>by kernel_rfl
 clear h hu;go_wp2_with fail
 refine (J.o _ rfl).mono ?_;rintro e w1 ⟨rfl,F,D⟩;have L:=zh F;have H:=zh D;obtain ⟨q1,q2,q3,q4,q5⟩:=I.o;have r0:=aa (D.obj q3 HE.o.r) (j:=0) (u:=.pointer (some ⟨y.RB,0,none⟩)) rfl;have g3:=aa (D.obj q5 E.o) (j:=3) (u:=.int .i64 r.used) rfl;have A:=zh (D.obj q4 HE.o.o);have o0:=aa A.o (j:=0) (u:=.int .i64 a0) rfl;have o1:=aa A.o (j:=1) (u:=.int .i64 b0) rfl;have o2:=aa A.o (j:=2) (u:=.slice p0 n0 c0) rfl;have o3:=aa A.o (j:=3) (u:=.int .i64 t0) rfl;have o4:=aa A.o (j:=4) (u:=.int .i64 u0) rfl;have f0:=ae A.o 0;have f1:=ae A.o 1;have f2:=ae A.o 2;have f3:=ae A.o 3;have f4:=ae A.o 4;clear F D q1 q2 q3 q4 q5 j0 m0;go_wp2_with fail
 refine ⟨rfl,_,rfl,.tuple #[],by simp [results,Tryz.results35,go_sem],rfl,rfl,w1,L.o,H.o,?_⟩;rfl
end
end Go.Proofs.YthgcpfkochikfaaGreat
