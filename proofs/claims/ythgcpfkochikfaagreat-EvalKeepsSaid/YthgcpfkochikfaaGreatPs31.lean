/-
  EvalSigns: part 31 of its proof: see the last text.
-/
import Derived.Test.YthgcpfkochikfaaGreatPs30
set_option maxRecDepth 100000
set_option maxHeartbeats 16000000
namespace Go.Proofs.YthgcpfkochikfaaGreat
section
open Go.RowKit
theorem wX {α:Type} {m:List (ByteArray×α)} {k:ByteArray} {x:α} (h:aL m k=some x):∃p,p∈m∧p.2=x:=by
 induction m with
 | nil=>cases h
 | cons p m ih =>
  unfold aL at h;split at h
  ·injection h with h
   exact ⟨p,by simp,h⟩
  ·obtain ⟨q,hq,e⟩:=ih h
   exact ⟨q,by simp [hq],e⟩
def jP (F:aU) (v:bw) (text:ByteArray) (ks:List Ex) (pos:Int):Int×Flt:=match aL F text with
 | none=>(0,(52,pos))
 | some fn=>if fn.params.length≠ks.length then (0,(51,pos)) else (fn.result,cL F v ks (fn.params.map (·.2)))
theorem jh:Tryz.prog.underlying 113=some (.map 9 76):=by kernel_rfl
def CQ:Value:=.agg #[.string ⟨#[]⟩,.slice none 0 0,.int .i64 0,.slice none 0 0,.int .i64 0]
theorem lW (w:World):(zeroValue 76).run Tryz.prog w=.ok CQ w:=by kernel_rfl
theorem CR:∃i,Tryz.prog.info? 33=some i∧i.zero=some (.int .i64 0)∧i.size=1∧i.bytes=8:=by
 have h:(Tryz.prog.info? 33).map (fun i=>(i.zero,i.size,i.bytes))=some (some (.int .i64 0),1,8):=by kernel_rfl
 obtain ⟨i,h1,h2⟩:=Option.map_eq_some_iff.1 h;simp only [Prod.mk.injEq] at h2
 exact ⟨i,h1,h2.1,h2.2.1,h2.2.2⟩
theorem Aw (cb:Nat) (F:aU) (z:Int) (ks:List Ex) (hl:∀x,x∈ks→kg cb F z x) (hF:∀p,p∈F→p.2.params.length≤100000) (v:bw) (vr:Nat) (w:World) (op num pos:Int) (text:ByteArray) (s:Option Addr) (n c:Nat) (h:CtxAt w cb F z vr v) (hr:RepEx Any w [.int .i64 op,.int .i64 num,.string text,.slice s n c,.int .i64 pos] (.mk op num text ks pos)) :
    Calls Tryz.prog 174 #[.pointer (some ⟨cb,0,none⟩),.agg #[.int .i64 op,.int .i64 num,.string text,.slice s n c,.int .i64 pos],.map (some vr)] w fun e w'=>e=.returned (.tuple #[.int .i64 (jP F v text ks pos).1,bH (jP F v text ks pos).2])∧Below w.heap.size w w':=by
 obtain ⟨ks',e,hn,hd⟩:=cf hr;injection e with _ _ _ e _
 subst e;subst hn;have H1:=zh h;have hS:=zh hl;have hT:=zh hd;have hV:=zh hF;obtain ⟨⟨fr,hb,m,hm,he⟩,_⟩:=h;have ht:=zh hb;have HM:=zh hm;have hU:=zh he;generalize hC:jP F v text ks pos=C;have HC:=zh hC.symm;have T:Hd (Below w.heap.size w ((w.alloc (.cells #[.int .i64 op,.int .i64 num,.string text,.slice s ks.length c,.int .i64 pos] 178)).alloc (.cells #[.int .i64 0,.int .i64 0] 118))):=zh (ag (ag (Below.refl _ _) _) _);have hk:Hd (((w.alloc (.cells #[.int .i64 op,.int .i64 num,.string text,.slice s ks.length c,.int .i64 pos] 178)).alloc (.cells #[.int .i64 0,.int .i64 0] 118)).heap[w.heap.size]?=some (.cells #[.int .i64 op,.int .i64 num,.string text,.slice s ks.length c,.int .i64 pos] 178 (0,0))):=zh (ax _ _ _ _ (aj _ _ _ rfl));have hq:Hd (((w.alloc (.cells #[.int .i64 op,.int .i64 num,.string text,.slice s ks.length c,.int .i64 pos] 178)).alloc (.cells #[.int .i64 0,.int .i64 0] 118)).heap[w.heap.size+1]?=some (.cells #[.int .i64 0,.int .i64 0] 118 (0,0))):=zh (aj _ _ _ (ah _ _));have hM:Hd (((w.alloc (.cells #[.int .i64 op,.int .i64 num,.string text,.slice s ks.length c,.int .i64 pos] 178)).alloc (.cells #[.int .i64 0,.int .i64 0] 118)).heap.size=w.heap.size+1+1):=zh (by simp only [ah]);clear hl hr hd hb hm he hC hF;go_enter Tryz.func174,Tryz.ntmps174
 go_upto_region 1 with fail
 generalize (w.alloc (.cells #[.int .i64 op,.int .i64 num,.string text,.slice s ks.length c,.int .i64 pos] 178)).alloc (.cells #[.int .i64 0,.int .i64 0] 118)=w1 at *;have A:Hd (w.heap.size<w.heap.size+1∧w.heap.size+1<w1.heap.size∧cb<w.heap.size):=zh ⟨Nat.lt_succ_self _,af hq.o,af ht.o⟩;generalize hG:w.heap.size+1=RB at *;generalize hX:w.heap.size=X at *;replace A:Hd (w.heap.size=X∧X<RB∧RB<w1.heap.size∧cb<X):=zh ⟨hX,A.o.1,A.o.2.1,A.o.2.2⟩;clear hG hX hM
 have r:∃nm s1 n1 c1 rs s2 n2 c2 ps bb,(∀W:World,Below X w W→(Instr.lookup 113 (.map (some fr)) (.string text) true).run Tryz.prog W=.ok (.tuple #[.agg #[.string nm,.slice s1 n1 c1,.int .i64 rs,.slice s2 n2 c2,.int .i64 ps],.bool bb]) W)∧((bb=false∧aL F text=none)∨(bb=true∧∃f,aL F text=some f∧RepFn Any w [.string nm,.slice s1 n1 c1,.int .i64 rs,.slice s2 n2 c2,.int .i64 ps] f)):=by
  have hX:=A.o.1;rcases hU.o.look text with ⟨e1,e2⟩ | ⟨u,f,e1,e2,nm,s1,n1,c1,rs,s2,n2,c2,ps,rfl,P⟩
  ·refine ⟨⟨#[]⟩,none,0,0,0,none,0,0,0,false,fun W hW=>?_,.inl ⟨rfl,e2⟩⟩
   have q:=fK (HM.o.below (by rw [hX];exact hW)) jh gl (lW W) text;rw [e1] at q;exact q
  ·refine ⟨nm,s1,n1,c1,rs,s2,n2,c2,ps,true,fun W hW=>?_,.inr ⟨rfl,f,e2,P⟩⟩
   have q:=fK (HM.o.below (by rw [hX];exact hW)) jh gl (lW W) text;rw [e1] at q;exact q
 obtain ⟨nm,s1,n1,c1,rs,s2,n2,c2,ps,bb,r,L⟩:=r;have hv:=zh r;have l:=zh L;clear r L;have M:Hd (w1.drew.cell? ⟨cb,0,none⟩=some (.map (some fr))∧w1.drew.cell? ⟨X,2,none⟩=some (.string text)∧(Instr.lookup 113 (.map (some fr)) (.string text) true).run Tryz.prog w1.drew=.ok (.tuple #[.agg #[.string nm,.slice s1 n1 c1,.int .i64 rs,.slice s2 n2 c2,.int .i64 ps],.bool bb]) w1.drew):=zh ⟨(T.o.cell (p:=⟨cb,0,none⟩) A.o.2.2.2).trans (aa ht.o (j:=0) rfl),aa hk.o (j:=2) rfl,hv.o _ (T.o.drew)⟩;have hx:=M.o;refine wp_region_held (S:=(fun w':World=>w'.cell? ⟨cb,0,none⟩=some (.map (some fr))∧w'.cell? ⟨X,2,none⟩=some (.string text)∧(Instr.lookup 113 (.map (some fr)) (.string text) true).run Tryz.prog w'=.ok (.tuple #[.agg #[.string nm,.slice s1 n1 c1,.int .i64 rs,.slice s2 n2 c2,.int .i64 ps],.bool bb]) w')) (by kernel_rfl) ?_;refine tkA 0 ?_;refine tkA 1 ?_;refine tkA 2 ?_;refine tkA 3 ?_;refine tkA 4 ?_;refine tkA 5 ?_;refine tkA 6 ?_;refine tkA 7 ?_;refine tkA 8 ?_;refine tkA 9 ?_;have h6:Hd (∀o:Obj,(w1.drew.alloc o).cell? ⟨cb,0,none⟩=some (.map (some fr))∧(w1.drew.alloc o).cell? ⟨X,2,none⟩=some (.string text)∧(Instr.lookup 113 (.map (some fr)) (.string text) true).run Tryz.prog (w1.drew.alloc o)=.ok (.tuple #[.agg #[.string nm,.slice s1 n1 c1,.int .i64 rs,.slice s2 n2 c2,.int .i64 ps],.bool bb]) (w1.drew.alloc o)):=zh (fun o=>⟨aq _ M.o.1,aq _ M.o.2.1,hv.o _ (T.o.drew.alloc (by have h:=T.o.size;rw [A.o.1] at h;exact h) _)⟩);refine rd1 10 fun K hK=>?_;go_simp;refine hK.out _ _ ?_ (fun hH=>?_)
 ·(try dsimp only)
  exact h6.o _
 clear hK K;try go_simp
 refine rd1 11 fun K hK=>?_;go_simp;refine hK.out _ _ ?_ (fun hH=>?_)
 ·(try dsimp only)
  exact h6.o _
 clear hK K;try go_simp
 refine tkA 12 ?_;refine wpAnyH_done (by kernel_rfl) ?_ _;have y:Hd (Below X w (w1.alloc (.cells #[.string nm,.slice s1 n1 c1,.int .i64 rs,.slice s2 n2 c2,.int .i64 ps] 76)).drew):=zh (T.o.alloc (by have h:=T.o.size;rw [A.o.1] at h;exact h) _).drew;have hi:Hd ((w1.alloc (.cells #[.string nm,.slice s1 n1 c1,.int .i64 rs,.slice s2 n2 c2,.int .i64 ps] 76)).drew.heap[X]?=some (.cells #[.int .i64 op,.int .i64 num,.string text,.slice s ks.length c,.int .i64 pos] 178 (0,0))):=zh (ax _ _ _ _ hk.o);have Z:Hd ((w1.alloc (.cells #[.string nm,.slice s1 n1 c1,.int .i64 rs,.slice s2 n2 c2,.int .i64 ps] 76)).drew.heap[RB]?=some (.cells #[.int .i64 0,.int .i64 0] 118 (0,0))):=zh (ax _ _ _ _ hq.o);have H0:Hd ((w1.alloc (.cells #[.string nm,.slice s1 n1 c1,.int .i64 rs,.slice s2 n2 c2,.int .i64 ps] 76)).drew.heap[w1.heap.size]?=some (.cells #[.string nm,.slice s1 n1 c1,.int .i64 rs,.slice s2 n2 c2,.int .i64 ps] 76 (0,0))):=zh (aj _ _ _ rfl);have H7:Hd (RB<w1.heap.size):=zh A.o.2.2.1;clear hx M h6 hH;generalize (w1.alloc (.cells #[.string nm,.slice s1 n1 c1,.int .i64 rs,.slice s2 n2 c2,.int .i64 ps] 76)).drew=w2 at *;generalize w1.heap.size=FB at *;have x4:w2.cell? ⟨X,4,none⟩=some (.int .i64 pos):=aa hi.o (j:=4) rfl;have x3:w2.cell? ⟨X,3,none⟩=some (.slice s ks.length c):=aa hi.o (j:=3) rfl;obtain ⟨r0,r1,-⟩:=css Z.o;obtain ⟨k0,k1,-⟩:=fzs Z.o;have H3:¬RB=X:=by have:=A.o;omega
 have hA:¬X=RB:=by have:=A.o;omega
 rcases l.o with ⟨rfl,hz⟩ | ⟨rfl,f,O,P⟩
 ·have HE:=zh (show C=(0,(52,pos)) from HC.o.trans (by unfold jP;rw [hz]))
  go_upto_region 3 with fail
  go_region
  go_wp2_with fail
  refine bodyPost_ret (v:=.tuple #[.int .i64 0,.agg #[.int .i64 52,.int .i64 pos]]) (by simp [results,Tryz.results174,go_sem,r0,r1]) rfl ⟨by rw [HE.o];rfl,?_⟩;rw [A.o.1];exact ((y.o.setCell (p:=⟨RB,0,none⟩) (Nat.le_of_lt A.o.2.1) _).setCell (p:=⟨RB,1,none⟩) (Nat.le_of_lt A.o.2.1) _).drew
 ·obtain ⟨vp,vb,ecs,hy,_⟩:=P
  simp only [List.cons.injEq,Value.int.injEq,Value.string.injEq,true_and,and_true] at ecs
  obtain ⟨rfl,rfl,rfl,rfl,rfl⟩:=ecs;obtain ⟨cp,⟨sp,capp,ep,h2,h3,_,I,h1⟩,U⟩:=hy;injection ep with ep1 ep2 ep3
  subst ep1 ep2 ep3;obtain ⟨-,f1,f2,-⟩:=css H0.o;have hP:=zh I;have hQ:=zh U;have Y:=zh O
  have h7:Hd (f.params.length≤100000):=zh (by
    obtain ⟨p,hp,rfl⟩:∃p,p∈F∧p.2=f:=wX O;exact hV.o p hp)
  clear I U O h1 h2 h3;by_cases G:f.params.length=ks.length
  ·have HE:=zh (show C=(f.result,cL F v ks (f.params.map (·.2))) from HC.o.trans (by unfold jP;rw [Y.o];exact if_neg (by simp [G])))
   have g1:(f.params.length:Int)=(ks.length:Int):=by omega
   have h8:=zh G;have HI:=zh CR;clear G;have g1b:((f.params.length:Int) !=(ks.length:Int))=false:=by simp [g1]
   clear g1;go_wp2_with fail
   clear g1b x4 f1;go_loopg [10,43] f.params.length (fun q s10 s43 wr=>∃i:Nat,i+q=f.params.length∧s43=.int .i64 (i:Int)∧wr.ownsRow w2.heap.size 33 1 s10 i ((f.params.take i).map fun p=>Value.int .i64 p.2)∧Below w2.heap.size w2 wr)
   case atStart=>exact ⟨0,Nat.zero_add _,rfl,gy,Below.refl _ _⟩
   case round =>
    obtain ⟨i,H4,rfl,Q,hf⟩:=hrel;have a:=zh Q;have H:=zh hf;obtain ⟨so,co,rfl,H6,hE,_,_⟩:=ba Q;unfold maxLen at hE;clear Q hf;have N:Hd (Below X w wr):=zh (y.o.trans (H.o.mono (by have h:=y.o.size;rw [A.o.1] at h;exact h)));by_cases V:i<f.params.length
    ·have g4:(f.params.length:Int)≤100000:=by have:=h7.o;omega
     have g1:(i:Int)<(f.params.length:Int):=by omega
     have g3:(0:Int)≤(i:Int):=by omega
     obtain ⟨b,off,hs,_,hg,D⟩:=hP.o (by omega);subst hs;have t:=hQ.o i V;unfold um at t;have y0:wr.cell? ⟨b,off+i * 2,none⟩=some (.string (f.params.getD i default).1):=(N.o.cell (p:=⟨b,_,none⟩) (by rw [←A.o.1];exact hg)).trans (by have q:=D i V 0 (by decide);rw [t] at q;exact q);have y1:wr.cell? ⟨b,off+i * 2+1,none⟩=some (.int .i64 (f.params.getD i default).2):=(N.o.cell (p:=⟨b,_,none⟩) (by rw [←A.o.1];exact hg)).trans (by have q:=D i V 1 (by decide);rw [t] at q;exact q);have hL:Hd ((f.params.take (i+1)).map (fun p=>Value.int .i64 p.2)=(f.params.take i).map (fun p=>Value.int .i64 p.2)++[.int .i64 (f.params.getD i default).2]):=zh (by rw [List.take_add_one,List.map_append,List.getElem?_eq_getElem V,List.getD_eq_getElem?_getD,List.getElem?_eq_getElem V];rfl);generalize (f.params.getD i default).1=pn at *;generalize (f.params.getD i default).2=pt at *;clear t D;have d:Hd (((wr.alloc (.cells #[.string pn,.int .i64 pt] 80)).alloc (.cells #[.int .i64 pt] 33)).ownsRow w2.heap.size 33 1 (.slice so i co) i ((f.params.take i).map fun p=>Value.int .i64 p.2)):=zh (lB a.o (ag (ag (Below.refl _ _) _) _));have ha:Hd (Below w2.heap.size w2 ((wr.alloc (.cells #[.string pn,.int .i64 pt] 80)).alloc (.cells #[.int .i64 pt] 33))):=zh (H.o.trans ((ag (ag (Below.refl wr.heap.size wr) _) _).mono H.o.size));have hw:=zh (show i≤100000 from by have:=h7.o;omega);go_wp2_with (refine wpList_append_lies _ rfl _ _ _ rfl w2.heap.size 33 HI.o.choose (.int .i64 0) 1 8 Tryz.underlying230 HI.o.choose_spec.1 HI.o.choose_spec.2.1 HI.o.choose_spec.2.2.1 HI.o.choose_spec.2.2.2 rfl (by decide) _ i _ rfl d.o ⟨wr.heap.size+1,0,none⟩ 1 1 [.int .i64 pt] rfl rfl (by intro j u hj;rw [Go.WideShapes.add_plain,Nat.zero_add];exact aA _ _ _ _ _ _ (ah _ _) (by simpa using hj)) (by intro u hu;simp at hu;subst hu;rfl) (by decide) (by have:=hw.o;unfold maxLen;omega) (by have:=hw.o;omega) ha.o.size _ rfl ?_;intro g9 cp9 w9 J B h5 h4;have hR:=zh J;have k:=zh B;clear J B h5 h4)
     go_roundg (f.params.length-i-1)
     case measure=>omega
     case rel=>exact ⟨i+1,by omega,rfl,by rw [hL.o];exact hR.o,ha.o.trans ⟨k.o.os,k.o.tape,k.o.output,k.o.size,fun j hj=>k.o.block j (Nat.lt_of_lt_of_le hj ha.o.size) (fun e=>by have:=(aI d.o e.symm).1;omega)⟩⟩
    ·obtain rfl:i=f.params.length:=by omega
     have g1:¬(f.params.length:Int)<(f.params.length:Int):=by omega
     have hI:Hd (TysAt wr (.slice so f.params.length co) (f.params.map (·.2))):=zh (by
        refine ⟨so,co,by rw [List.length_map],by rw [List.length_map];have:=h7.o;omega,fun h0=>?_⟩;rw [List.length_map] at h0;obtain ⟨_,_,e,_,_,_,hc⟩:=ba a.o;injection e with e _ _
        obtain ⟨g,e2,H5,hD,hB⟩:=hc h0;rw [←e] at e2;refine ⟨g,0,e2,hD,fun j hj=>?_⟩;rw [List.length_map] at hj;rw [Nat.zero_add];refine hB j _ ?_;rw [List.take_length,List.getElem?_map,List.getElem?_eq_getElem hj,List.getD_eq_getElem?_getD,List.getElem?_map,List.getElem?_eq_getElem hj];rfl)
     have M:Hd (wr.drew.cell? ⟨FB,2,none⟩=some (.int .i64 f.result)∧wr.drew.cell? ⟨X,3,none⟩=some (.slice s ks.length c)):=zh ⟨(H.o.cell (p:=⟨FB,2,none⟩) (az f2)).trans f2,(H.o.cell (p:=⟨X,3,none⟩) (az x3)).trans x3⟩;have hO:=zh ((H.o.block _ (af Z.o)).trans Z.o);have h9:Hd (RB<w2.heap.size∧X<w2.heap.size∧FB<w2.heap.size):=zh ⟨af Z.o,az x3,az f2⟩;clear r0 r1 k0 k1 f2 x3;have R:=zh (fun W (hW:Below wr.heap.size wr W)=>ii cb F z ks hS.o v vr W (.slice s ks.length c) (.slice so f.params.length co) (f.params.map (·.2)) (H1.o.below (by rw [A.o.1];exact N.o.trans (hW.mono (by have h:=N.o.size;rw [A.o.1] at h;exact h)))) (hT.o.keep (Stays.of_below (by rw [A.o.1];exact N.o.trans (hW.mono (by have h:=N.o.size;rw [A.o.1] at h;exact h))))) (hI.o.below hW) (by rw [List.length_map];exact Nat.le_of_eq h8.o.symm));generalize cL F v ks (f.params.map (·.2))=q at *;obtain ⟨qe,qa⟩:=q;unfold bH at R;dsimp only at R;go_upto_region 12 with fail
     refine ay (S:=(fun w':World=>w'.cell? ⟨FB,2,none⟩=some (.int .i64 f.result)∧w'.cell? ⟨X,3,none⟩=some (.slice s ks.length c))) 8 (by kernel_rfl) (by kernel_rfl) (by exact M.o) (fun hH=>?_);simp only [List.take_succ_cons,List.take_zero,List.drop_succ_cons,List.drop_zero]
     refine tkA 0 ?_;refine tkA 1 ?_;refine tkA 2 ?_;refine tkA 3 ?_;refine tkA 4 ?_;refine tkA 5 ?_;refine tkA 6 ?_;refine rd1 7 fun K hK=>?_;go_simp;go_at_call 144
     refine (R.o _ (aw (Below.refl _ _))).mono ?_;rintro e w5 ⟨rfl,hh⟩;have E:Below wr.heap.size wr w5:=am (aw (Below.refl _ _)) hh;have hN:Hd (w5.cell? ⟨FB,2,none⟩=some (.int .i64 f.result)∧w5.cell? ⟨X,3,none⟩=some (.slice s ks.length c)):=zh ⟨(E.cell (p:=⟨FB,2,none⟩) (Nat.lt_of_lt_of_le h9.o.2.2 H.o.size)).trans M.o.1,(E.cell (p:=⟨X,3,none⟩) (Nat.lt_of_lt_of_le h9.o.2.1 H.o.size)).trans M.o.2⟩;have ho:=zh ((E.block _ (Nat.lt_of_lt_of_le h9.o.1 H.o.size)).trans hO.o);have H2:Hd (Below X w w5):=zh (N.o.trans (E.mono (by have h:=N.o.size;rw [A.o.1] at h;exact h)));clear hh E;go_simp;refine hK.out _ _ ?_ (fun hH=>?_)
     ·(try dsimp only)
      exact hN.o
     clear hK K;try go_simp
     refine wpAnyH_done (by kernel_rfl) ?_ _;dsimp only [aP];obtain ⟨r0,r1,-⟩:=css ho.o;obtain ⟨k0,k1,-⟩:=fzs ho.o;go_wp2_with fail
     refine bodyPost_ret (v:=.tuple #[.int .i64 f.result,.agg #[.int .i64 qe,.int .i64 qa]]) (by simp [results,Tryz.results174,go_sem,r0,r1]) rfl ⟨by rw [HE.o];rfl,?_⟩;rw [A.o.1];exact (H2.o.setCell (p:=⟨RB,0,none⟩) (Nat.le_of_lt A.o.2.1) _).setCell (p:=⟨RB,1,none⟩) (Nat.le_of_lt A.o.2.1) _
  ·have HE:=zh (show C=(0,(51,pos)) from HC.o.trans (by unfold jP;rw [Y.o];exact if_pos G))
   have g1:¬(f.params.length:Int)=(ks.length:Int):=by omega
   go_upto_region 5 with fail
   go_region
   go_wp2_with fail
   refine bodyPost_ret (v:=.tuple #[.int .i64 0,.agg #[.int .i64 51,.int .i64 pos]]) (by simp [results,Tryz.results174,go_sem,r0,r1]) rfl ⟨by rw [HE.o];rfl,?_⟩;rw [A.o.1];exact ((y.o.setCell (p:=⟨RB,0,none⟩) (Nat.le_of_lt A.o.2.1) _).setCell (p:=⟨RB,1,none⟩) (Nat.le_of_lt A.o.2.1) _).drew
end
end Go.Proofs.YthgcpfkochikfaaGreat
