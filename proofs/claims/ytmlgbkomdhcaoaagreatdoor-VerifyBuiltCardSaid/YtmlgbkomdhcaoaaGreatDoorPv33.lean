/-
  VerifyBuilt: part 33 of its proof: see the last text.
-/
import Derived.Test.YtmlgbkomdhcaoaaGreatDoorPv30
import Derived.Test.YtmlgbkomdhcaoaaGreatDoorPv08
set_option maxRecDepth 100000
set_option maxHeartbeats 16000000
namespace Go.Proofs.YtmlgbkomdhcaoaaGreatDoor
section
open Go.RowKit
def TysAt (w:World) (u:Value) (ts:List Int):Prop:=∃s0 cap,u=.slice s0 ts.length cap∧ts.length≤1000000∧(0<ts.length→∃b off,s0=some ⟨b,off,none⟩∧b<w.heap.size∧∀i,i<ts.length→w.cell? ⟨b,off+i,none⟩=some (.int .i64 (ts.getD i 0)))
theorem TysAt.below {w w':World} {u:Value} {ts:List Int} (h:TysAt w u ts) (hb:Below w.heap.size w w'):TysAt w' u ts:=by
 obtain ⟨s0,cap,h1,h3,h4⟩:=h;refine ⟨s0,cap,h1,h3,fun h0=>?_⟩;obtain ⟨b,off,e,h2,h5⟩:=h4 h0;exact ⟨b,off,e,Nat.lt_of_lt_of_le h2 hb.size,fun i hi=>(hb.cell (p:=⟨b,_,none⟩) h2).trans (h5 i hi)⟩
theorem xk (F:aO) (v:aR) (l:List Ex) (ts:List Int) (i:Nat) (hi:i<l.length):cY F v (l.drop i) (ts.drop i)=orF (ez F v (l.getD i default) (ts.getD i 0)) (cY F v (l.drop (i+1)) (ts.drop (i+1))):=by
 rw [List.drop_eq_getElem_cons hi,cY,ez];have e1:l.getD i default=l[i]:=by rw [List.getD_eq_getElem?_getD,List.getElem?_eq_getElem hi];rfl
 have e2:(ts.drop i).headD 0=ts.getD i 0:=by
  rw [List.headD_eq_head?_getD,List.head?_drop,List.getD_eq_getElem?_getD]
 rw [e1,e2,List.tail_drop]
theorem yB (F:aO) (v:aR) (l:List Ex) (ts:List Int):cY F v (l.drop l.length) (ts.drop l.length)=okF:=by
 rw [List.drop_length,cY]
theorem ie (cb:Nat) (F:aO) (res:Int) (l:List Ex) (hl:∀x,x∈l→jO cb F res x) (v:aR) (vr:Nat) (w:World) (u tv:Value) (ts:List Int) (h:CtxAt w cb F res vr v) (hr:RepExs Any w u l) (ht:TysAt w tv ts) (hm:l.length≤ts.length) :
    Calls Tryz.prog 119 #[.pointer (some ⟨cb,0,none⟩),u,.map (some vr),tv] w fun e w'=>e=.returned (bM (cY F v l ts))∧Below w.heap.size w w':=by
 obtain ⟨st,tcap,rfl,hA,L⟩:=ht;obtain ⟨cs,⟨s0,cap,rfl,h5,h7,_,M,h4⟩,h6⟩:=hr;have hg:=zh h;have hf:=zh hl;have d:=zh L;have m:=zh M;have hy:=zh h6;have hC:=zh h4;have hD:=zh (And.intro h5 h7);generalize hR:cY F v l ts=R;have HR:=zh (show R=cY F v (l.drop 0) (ts.drop 0) from hR.symm);clear h hl L M h6 h4 h5 h7 hR;have hv:=zh (xk F v l ts);have hz:=zh (yB F v l ts);have r:=zh (am w (.cells #[.int .i64 0,.int .i64 0] 104) w.heap.size rfl);go_enter Tryz.func119,Tryz.ntmps119
 go_wp2_with fail
 go_loopg [14] l.length (fun g s14 wr=>∃i:Nat,i+g=l.length∧s14=.int .i64 (i:Int)∧R=cY F v (l.drop i) (ts.drop i)∧Below w.heap.size w wr∧wr.heap[w.heap.size]?=some (.cells #[.int .i64 0,.int .i64 0] 104 (0,0)))
 case atStart=>exact ⟨0,Nat.zero_add _,rfl,HR.o,ag (Below.refl _ _) _,r.o⟩
 case round =>
  obtain ⟨i,hB,rfl,hR,hb,N⟩:=hrel;have H:=zh hR;have HB:=zh hb;have k:=zh N;clear hR hb N;by_cases O:i<l.length
  ·have g1:(i:Int)<(l.length:Int):=by omega
   have g2:(i:Int)<(ts.length:Int):=by omega
   have g3:(0:Int)≤(i:Int):=by omega
   obtain ⟨b,off,W,_,hq,E⟩:=m.o (by omega);subst W;have C:=hy.o i O;obtain ⟨op,num,text,ev,pos,a,s,n,c,hn⟩:=C.form;subst hn;rw [a] at C;have G:∀j,j<5→wr.cell? ⟨b,off+i * 5+j,none⟩=(cs i)[j]?:=fun j hj=>(HB.o.cell (p:=⟨b,_,none⟩) hq).trans (E i O j hj);rw [a] at G;have x0:wr.cell? ⟨b,off+i * 5,none⟩=some (.int .i64 op):=G 0 (by decide);have x1:wr.cell? ⟨b,off+i * 5+1,none⟩=some (.int .i64 num):=G 1 (by decide);have x2:wr.cell? ⟨b,off+i * 5+2,none⟩=some (.string text):=G 2 (by decide);have x3:wr.cell? ⟨b,off+i * 5+3,none⟩=some (.slice s n c):=G 3 (by decide);have x4:wr.cell? ⟨b,off+i * 5+4,none⟩=some (.int .i64 pos):=G 4 (by decide);have Q:=zh C;obtain ⟨tb,toff,hk,h3,L⟩:=d.o (by omega);subst hk;have ha:=zh h3;have hu:=zh L;clear h3 L;have hs:Hd (wr.cell? ⟨tb,toff+i,none⟩=some (.int .i64 (ts.getD i 0))):=zh ((HB.o.cell (p:=⟨tb,_,none⟩) ha.o).trans (hu.o i (by omega)));have U:Hd (l.getD i default∈l):=zh (by rw [List.getD_eq_getElem?_getD,List.getElem?_eq_getElem O];exact List.getElem_mem O);replace H:=zh (H.o.trans (hv.o i O));generalize ts.getD i 0=t at *;clear C G a E;go_upto_region 4 with fail
   have I:Hd ((wr.alloc (.cells #[.int .i64 op,.int .i64 num,.string text,.slice s n c,.int .i64 pos] 144)).cell? ⟨wr.heap.size,0,none⟩=some (.int .i64 op)∧(wr.alloc (.cells #[.int .i64 op,.int .i64 num,.string text,.slice s n c,.int .i64 pos] 144)).cell? ⟨wr.heap.size,1,none⟩=some (.int .i64 num)∧(wr.alloc (.cells #[.int .i64 op,.int .i64 num,.string text,.slice s n c,.int .i64 pos] 144)).cell? ⟨wr.heap.size,2,none⟩=some (.string text)∧(wr.alloc (.cells #[.int .i64 op,.int .i64 num,.string text,.slice s n c,.int .i64 pos] 144)).cell? ⟨wr.heap.size,3,none⟩=some (.slice s n c)∧(wr.alloc (.cells #[.int .i64 op,.int .i64 num,.string text,.slice s n c,.int .i64 pos] 144)).cell? ⟨wr.heap.size,4,none⟩=some (.int .i64 pos)∧(wr.alloc (.cells #[.int .i64 op,.int .i64 num,.string text,.slice s n c,.int .i64 pos] 144)).cell? ⟨tb,toff+i,none⟩=some (.int .i64 t)):=zh ⟨aw _ _ _ _ _ _ rfl rfl,aw _ _ _ _ _ _ rfl rfl,aw _ _ _ _ _ _ rfl rfl,aw _ _ _ _ _ _ rfl rfl,aw _ _ _ _ _ _ rfl rfl,ak _ hs.o⟩;have J:=zh (ag HB.o (.cells #[.int .i64 op,.int .i64 num,.string text,.slice s n c,.int .i64 pos] 144));have T:Hd ((wr.alloc (.cells #[.int .i64 op,.int .i64 num,.string text,.slice s n c,.int .i64 pos] 144)).heap[w.heap.size]?=some (.cells #[.int .i64 0,.int .i64 0] 104 (0,0))):=zh (az _ _ _ _ k.o);have h8:Hd (wr.heap.size<(wr.alloc (.cells #[.int .i64 op,.int .i64 num,.string text,.slice s n c,.int .i64 pos] 144)).heap.size):=zh (by rw [ah];exact Nat.lt_succ_self _);have h9:Hd (tb<(wr.alloc (.cells #[.int .i64 op,.int .i64 num,.string text,.slice s n c,.int .i64 pos] 144)).heap.size):=zh (by rw [ah];have h1:=ha.o;have h2:=HB.o.size;omega);generalize (wr.alloc (.cells #[.int .i64 op,.int .i64 num,.string text,.slice s n c,.int .i64 pos] 144))=w0 at *;generalize wr.heap.size=X at *;clear x0 x1 x2 x3 x4;have W:=I.o;refine aD (S:=(fun w'=>w'.cell? ⟨X,0,none⟩=some (.int .i64 op)∧w'.cell? ⟨X,1,none⟩=some (.int .i64 num)∧w'.cell? ⟨X,2,none⟩=some (.string text)∧w'.cell? ⟨X,3,none⟩=some (.slice s n c)∧w'.cell? ⟨X,4,none⟩=some (.int .i64 pos)∧w'.cell? ⟨tb,toff+i,none⟩=some (.int .i64 t))) 9 (by kernel_rfl) (by kernel_rfl) (by (try dsimp only);(first | exact f.o | exact Z.o | exact P.o | exact I.o)) (fun hH=>?_);simp only [List.take_succ_cons,List.take_zero,List.drop_succ_cons,List.drop_zero]
   refine tkA 0 ?_;refine tkA 1 ?_;refine tkA 2 ?_;refine tkA 3 ?_;refine tkA 4 ?_;refine tkA 5 ?_;refine tkA 6 ?_;refine wpAnyH_ready (rs:=[7,8]) (by kernel_rfl) (by simp) ?_;refine (AllReadyH.cons rfl (fun K hK=>?_) (AllReadyH.cons rfl (fun K hK=>?_) AllReadyH.nil))
   ·go_simp
    go_at_call 114
    refine ((lS cb F res _ (hf.o _ U.o) v vr t _ op num pos text s n c (hg.o.below (ay J.o (aB (Below.refl _ _)))) (Q.o.keep (Stays.of_below (ay J.o (aB (Below.refl _ _))))))).mono ?_;rintro e w1 ⟨rfl,A⟩;have B:Below w0.heap.size w0 w1:=ay (aB (Below.refl _ _)) A;have P:Hd (w1.cell? ⟨X,0,none⟩=some (.int .i64 op)∧w1.cell? ⟨X,1,none⟩=some (.int .i64 num)∧w1.cell? ⟨X,2,none⟩=some (.string text)∧w1.cell? ⟨X,3,none⟩=some (.slice s n c)∧w1.cell? ⟨X,4,none⟩=some (.int .i64 pos)∧w1.cell? ⟨tb,toff+i,none⟩=some (.int .i64 t)):=zh (by have h:=I.o;have hb:=B;have hx:=h8.o;have ht:=h9.o;exact ⟨(hb.cell (p:=⟨X,0,none⟩) hx).trans h.1,(hb.cell (p:=⟨X,1,none⟩) hx).trans h.2.1,(hb.cell (p:=⟨X,2,none⟩) hx).trans h.2.2.1,(hb.cell (p:=⟨X,3,none⟩) hx).trans h.2.2.2.1,(hb.cell (p:=⟨X,4,none⟩) hx).trans h.2.2.2.2.1,(hb.cell (p:=⟨tb,_,none⟩) ht).trans h.2.2.2.2.2⟩);have h0:=zh (ay J.o B);have y:=zh ((B.block _ (ae T.o)).trans T.o);have hw:=zh B.size;clear A B W;generalize ez F v (l.getD i default) t=q at *;obtain ⟨fe,fa⟩:=q;unfold bM;dsimp only;go_simp;refine hK.out _ _ ?_ (fun hH=>?_)
    ·(try dsimp only)
     exact P.o
    clear hK K;try go_simp
    refine rd1 8 fun K hK=>?_;go_simp;refine hK.out _ _ ?_ (fun hH=>?_)
    ·(try dsimp only)
     (first | exact P.o | (have h:=P.o;exact ⟨ak _ h.1,ak _ h.2.1,ak _ h.2.2.1,ak _ h.2.2.2.1,ak _ h.2.2.2.2.1,ak _ h.2.2.2.2.2⟩))
    clear hK K;try go_simp
    refine wpAnyH_done (by kernel_rfl) ?_ _;dsimp only [cZ];clear I P;go_upto_region 5 with fail
    have hp:(w1.alloc (.cells #[.int .i64 fe,.int .i64 fa] 104)).cell? ⟨w1.heap.size,0,none⟩=some (.int .i64 fe):=aw _ _ _ _ _ _ rfl rfl;have ho:(w1.alloc (.cells #[.int .i64 fe,.int .i64 fa] 104)).cell? ⟨w1.heap.size,1,none⟩=some (.int .i64 fa):=aw _ _ _ _ _ _ rfl rfl;have V:=zh (ag h0.o (.cells #[.int .i64 fe,.int .i64 fa] 104));have D:Hd ((w1.alloc (.cells #[.int .i64 fe,.int .i64 fa] 104)).heap[w.heap.size]?=_):=zh (az _ _ _ _ y.o);generalize (w1.alloc (.cells #[.int .i64 fe,.int .i64 fa] 104))=w5 at *;by_cases he:fe=0
    ·subst he
     go_wp2_with fail
     go_roundg (l.length-i-1)
     case measure=>omega
     case rel=>exact ⟨i+1,by omega,rfl,H.o.trans (if_neg (by simp)),V.o,D.o⟩
    ·have r0:w5.cell? ⟨w.heap.size,0,none⟩=some (.int .i64 0):=aa D.o (j:=0) rfl
     have r1:w5.cell? ⟨w.heap.size,1,none⟩=some (.int .i64 0):=aa D.o (j:=1) rfl;obtain ⟨k0,k1,-⟩:=fzs D.o;have HE:=zh (H.o.trans (if_pos he));go_wp2_with fail
     refine bodyPost_ret (v:=.agg #[.int .i64 fe,.int .i64 fa]) (by simp [results,Tryz.results119,go_sem,r0,r1]) rfl ⟨by rw [HE.o];rfl,?_⟩;exact (V.o.setCell (p:=⟨w.heap.size,0,none⟩) (Nat.le_refl _) _).setCell (p:=⟨w.heap.size,1,none⟩) (Nat.le_refl _) _
   ·go_simp
    have Y:Below w0.heap.size w0 (w0.drew.alloc (.cells #[.int .i64 0,.int .i64 0] 104)):=ag (aB (Below.refl _ _)) _;have Z:Hd ((w0.drew.alloc (.cells #[.int .i64 0,.int .i64 0] 104)).cell? ⟨X,0,none⟩=some (.int .i64 op)∧(w0.drew.alloc (.cells #[.int .i64 0,.int .i64 0] 104)).cell? ⟨X,1,none⟩=some (.int .i64 num)∧(w0.drew.alloc (.cells #[.int .i64 0,.int .i64 0] 104)).cell? ⟨X,2,none⟩=some (.string text)∧(w0.drew.alloc (.cells #[.int .i64 0,.int .i64 0] 104)).cell? ⟨X,3,none⟩=some (.slice s n c)∧(w0.drew.alloc (.cells #[.int .i64 0,.int .i64 0] 104)).cell? ⟨X,4,none⟩=some (.int .i64 pos)∧(w0.drew.alloc (.cells #[.int .i64 0,.int .i64 0] 104)).cell? ⟨tb,toff+i,none⟩=some (.int .i64 t)):=zh (by have h:=I.o;have hb:=Y;have hx:=h8.o;have ht:=h9.o;exact ⟨(hb.cell (p:=⟨X,0,none⟩) hx).trans h.1,(hb.cell (p:=⟨X,1,none⟩) hx).trans h.2.1,(hb.cell (p:=⟨X,2,none⟩) hx).trans h.2.2.1,(hb.cell (p:=⟨X,3,none⟩) hx).trans h.2.2.2.1,(hb.cell (p:=⟨X,4,none⟩) hx).trans h.2.2.2.2.1,(hb.cell (p:=⟨tb,_,none⟩) ht).trans h.2.2.2.2.2⟩);have z:=zh (ay J.o Y);have hc:=zh ((Y.block _ (ae T.o)).trans T.o);have hh:Hd ((w0.drew.alloc (.cells #[.int .i64 0,.int .i64 0] 104)).heap[w0.heap.size]?=some (.cells #[.int .i64 0,.int .i64 0] 104 (0,0))):=zh (am _ _ _ rfl);clear Y;refine hK.out _ _ ?_ (fun hH=>?_)
    ·(try dsimp only)
     exact Z.o
    clear hK K;try go_simp
    refine rd1 7 fun K hK=>?_;go_simp;go_at_call 114
    refine ((lS cb F res _ (hf.o _ U.o) v vr t _ op num pos text s n c (hg.o.below z.o) (Q.o.keep (Stays.of_below z.o)))).mono ?_;rintro e w1 ⟨rfl,A⟩;have h0:=zh (ay z.o A);have y:=zh ((A.block _ (ae hc.o)).trans hc.o);have hi:=zh ((A.block _ (ae hh.o)).trans hh.o);have f:Hd (w1.cell? ⟨X,0,none⟩=some (.int .i64 op)∧w1.cell? ⟨X,1,none⟩=some (.int .i64 num)∧w1.cell? ⟨X,2,none⟩=some (.string text)∧w1.cell? ⟨X,3,none⟩=some (.slice s n c)∧w1.cell? ⟨X,4,none⟩=some (.int .i64 pos)∧w1.cell? ⟨tb,toff+i,none⟩=some (.int .i64 t)):=zh (by have h:=Z.o;exact ⟨(A.cell (p:=⟨X,0,none⟩) (ax h.1)).trans h.1,(A.cell (p:=⟨X,1,none⟩) (ax h.1)).trans h.2.1,(A.cell (p:=⟨X,2,none⟩) (ax h.1)).trans h.2.2.1,(A.cell (p:=⟨X,3,none⟩) (ax h.1)).trans h.2.2.2.1,(A.cell (p:=⟨X,4,none⟩) (ax h.1)).trans h.2.2.2.2.1,(A.cell (p:=⟨tb,_,none⟩) (ax h.2.2.2.2.2)).trans h.2.2.2.2.2⟩);clear A W;generalize ez F v (l.getD i default) t=q at *;obtain ⟨fe,fa⟩:=q;unfold bM;dsimp only;go_simp;refine hK.out _ _ ?_ (fun hH=>?_)
    ·(try dsimp only)
     exact f.o
    clear hK K;try go_simp
    refine wpAnyH_done (by kernel_rfl) ?_ _;dsimp only [cZ];clear I Z f;obtain ⟨z0,z1,-⟩:=css hi.o;obtain ⟨y0,y1,-⟩:=fzs hi.o;go_upto_region 5 with fail
    have hp:((w1.setCell ⟨w0.heap.size,0,none⟩ (.int .i64 fe)).setCell ⟨w0.heap.size,1,none⟩ (.int .i64 fa)).cell? ⟨w0.heap.size,0,none⟩=some (.int .i64 fe):=(aQ _ _ (.inr (by omega))).trans (dh _ z0);have ho:((w1.setCell ⟨w0.heap.size,0,none⟩ (.int .i64 fe)).setCell ⟨w0.heap.size,1,none⟩ (.int .i64 fa)).cell? ⟨w0.heap.size,1,none⟩=some (.int .i64 fa):=dh _ ((aQ _ _ (.inr (by omega))).trans z1);have V:Hd (Below w.heap.size w ((w1.setCell ⟨w0.heap.size,0,none⟩ (.int .i64 fe)).setCell ⟨w0.heap.size,1,none⟩ (.int .i64 fa))):=zh ((h0.o.setCell (p:=⟨w0.heap.size,0,none⟩) J.o.size _).setCell (p:=⟨w0.heap.size,1,none⟩) J.o.size _);have hd:Hd (w.heap.size≠w0.heap.size):=zh (Nat.ne_of_lt (ae T.o));have D:Hd (((w1.setCell ⟨w0.heap.size,0,none⟩ (.int .i64 fe)).setCell ⟨w0.heap.size,1,none⟩ (.int .i64 fa)).heap[w.heap.size]?=_):=zh ((aj _ _ _ _ hd.o).trans ((aj _ _ _ _ hd.o).trans y.o));clear z0 z1 y0 y1;generalize ((w1.setCell ⟨w0.heap.size,0,none⟩ (.int .i64 fe)).setCell ⟨w0.heap.size,1,none⟩ (.int .i64 fa))=w5 at *;by_cases he:fe=0
    ·subst he
     go_wp2_with fail
     go_roundg (l.length-i-1)
     case measure=>omega
     case rel=>exact ⟨i+1,by omega,rfl,H.o.trans (if_neg (by simp)),V.o,D.o⟩
    ·have r0:w5.cell? ⟨w.heap.size,0,none⟩=some (.int .i64 0):=aa D.o (j:=0) rfl
     have r1:w5.cell? ⟨w.heap.size,1,none⟩=some (.int .i64 0):=aa D.o (j:=1) rfl;obtain ⟨k0,k1,-⟩:=fzs D.o;have HE:=zh (H.o.trans (if_pos he));go_wp2_with fail
     refine bodyPost_ret (v:=.agg #[.int .i64 fe,.int .i64 fa]) (by simp [results,Tryz.results119,go_sem,r0,r1]) rfl ⟨by rw [HE.o];rfl,?_⟩;exact (V.o.setCell (p:=⟨w.heap.size,0,none⟩) (Nat.le_refl _) _).setCell (p:=⟨w.heap.size,1,none⟩) (Nat.le_refl _) _
  ·obtain rfl:i=l.length:=by omega
   have g1:¬(l.length:Int)<(l.length:Int):=by omega
   have HE:=zh (H.o.trans hz.o);obtain ⟨r0,r1,-⟩:=css k.o;obtain ⟨k0,k1,-⟩:=fzs k.o;go_wp2_with fail
   refine bodyPost_ret (v:=.agg #[.int .i64 0,.int .i64 0]) (by simp [results,Tryz.results119,go_sem,r0,r1]) rfl ⟨by rw [HE.o];rfl,?_⟩;exact (HB.o.setCell (p:=⟨w.heap.size,0,none⟩) (Nat.le_refl _) _).setCell (p:=⟨w.heap.size,1,none⟩) (Nat.le_refl _) _
end
section
open Go.RowKit
theorem vW {α:Type} {m:List (ByteArray×α)} {k:ByteArray} {x:α} (h:aI m k=some x):∃p,p∈m∧p.2=x:=by
 induction m with
 | nil=>cases h
 | cons p m ih =>
  unfold aI at h;split at h
  ·injection h with h
   exact ⟨p,by simp,h⟩
  ·obtain ⟨q,hq,e⟩:=ih h
   exact ⟨q,by simp [hq],e⟩
def jB (F:aO) (v:aR) (text:ByteArray) (ks:List Ex) (pos:Int):Int×Flt:=match aI F text with
 | none=>(0,(52,pos))
 | some fn=>if fn.params.length≠ks.length then (0,(51,pos)) else (fn.result,cY F v ks (fn.params.map (·.2)))
theorem iT:Tryz.prog.underlying 99=some (.map 9 60):=by kernel_rfl
def zQ:Value:=.agg #[.string ⟨#[]⟩,.slice none 0 0,.int .i64 0,.slice none 0 0,.int .i64 0]
theorem lU (w:World):(zeroValue 60).run Tryz.prog w=.ok zQ w:=by kernel_rfl
theorem kS:∃i,Tryz.prog.info? 38=some i∧i.zero=some (.int .i64 0)∧i.size=1∧i.bytes=8:=by
 have h:(Tryz.prog.info? 38).map (fun i=>(i.zero,i.size,i.bytes))=some (some (.int .i64 0),1,8):=by kernel_rfl
 obtain ⟨i,h1,h2⟩:=Option.map_eq_some_iff.1 h;simp only [Prod.mk.injEq] at h2
 exact ⟨i,h1,h2.1,h2.2.1,h2.2.2⟩
theorem yT (cb:Nat) (F:aO) (res:Int) (ks:List Ex) (hl:∀x,x∈ks→jO cb F res x) (hF:∀p,p∈F→p.2.params.length≤100000) (v:aR) (vr:Nat) (w:World) (op num pos:Int) (text:ByteArray) (s:Option Addr) (n c:Nat) (h:CtxAt w cb F res vr v) (hr:RepEx Any w [.int .i64 op,.int .i64 num,.string text,.slice s n c,.int .i64 pos] (.mk op num text ks pos)) :
    Calls Tryz.prog 131 #[.pointer (some ⟨cb,0,none⟩),.agg #[.int .i64 op,.int .i64 num,.string text,.slice s n c,.int .i64 pos],.map (some vr)] w fun e w'=>e=.returned (.tuple #[.int .i64 (jB F v text ks pos).1,bM (jB F v text ks pos).2])∧Below w.heap.size w w':=by
 obtain ⟨ks',e,hn,hb⟩:=cD hr;injection e with _ _ _ e _
 subst e;subst hn;have H0:=zh h;have hR:=zh hl;have hS:=zh hb;have hU:=zh hF;obtain ⟨⟨fr,ha,m,hm,hd⟩,_⟩:=h;have hq:=zh ha;have HM:=zh hm;have hT:=zh hd;generalize hC:jB F v text ks pos=C;have HC:=zh hC.symm;have T:Hd (Below w.heap.size w ((w.alloc (.cells #[.int .i64 op,.int .i64 num,.string text,.slice s ks.length c,.int .i64 pos] 144)).alloc (.cells #[.int .i64 0,.int .i64 0] 104))):=zh (ag (ag (Below.refl _ _) _) _);have hi:Hd (((w.alloc (.cells #[.int .i64 op,.int .i64 num,.string text,.slice s ks.length c,.int .i64 pos] 144)).alloc (.cells #[.int .i64 0,.int .i64 0] 104)).heap[w.heap.size]?=some (.cells #[.int .i64 op,.int .i64 num,.string text,.slice s ks.length c,.int .i64 pos] 144 (0,0))):=zh (az _ _ _ _ (am _ _ _ rfl));have ho:Hd (((w.alloc (.cells #[.int .i64 op,.int .i64 num,.string text,.slice s ks.length c,.int .i64 pos] 144)).alloc (.cells #[.int .i64 0,.int .i64 0] 104)).heap[w.heap.size+1]?=some (.cells #[.int .i64 0,.int .i64 0] 104 (0,0))):=zh (am _ _ _ (ah _ _));have hL:Hd (((w.alloc (.cells #[.int .i64 op,.int .i64 num,.string text,.slice s ks.length c,.int .i64 pos] 144)).alloc (.cells #[.int .i64 0,.int .i64 0] 104)).heap.size=w.heap.size+1+1):=zh (by simp only [ah]);clear hl hr hb ha hm hd hC hF;go_enter Tryz.func131,Tryz.ntmps131
 go_upto_region 1 with fail
 generalize (w.alloc (.cells #[.int .i64 op,.int .i64 num,.string text,.slice s ks.length c,.int .i64 pos] 144)).alloc (.cells #[.int .i64 0,.int .i64 0] 104)=w1 at *;have A:Hd (w.heap.size<w.heap.size+1∧w.heap.size+1<w1.heap.size∧cb<w.heap.size):=zh ⟨Nat.lt_succ_self _,ae ho.o,ae hq.o⟩;generalize hE:w.heap.size+1=RB at *;generalize hX:w.heap.size=X at *;replace A:Hd (w.heap.size=X∧X<RB∧RB<w1.heap.size∧cb<X):=zh ⟨hX,A.o.1,A.o.2.1,A.o.2.2⟩;clear hE hX hL
 have r:∃nm s1 n1 c1 rs s2 n2 c2 ps bb,(∀W:World,Below X w W→(Instr.lookup 99 (.map (some fr)) (.string text) true).run Tryz.prog W=.ok (.tuple #[.agg #[.string nm,.slice s1 n1 c1,.int .i64 rs,.slice s2 n2 c2,.int .i64 ps],.bool bb]) W)∧((bb=false∧aI F text=none)∨(bb=true∧∃f,aI F text=some f∧RepFn Any w [.string nm,.slice s1 n1 c1,.int .i64 rs,.slice s2 n2 c2,.int .i64 ps] f)):=by
  have hX:=A.o.1;rcases hT.o.look text with ⟨e1,e2⟩ | ⟨u,f,e1,e2,nm,s1,n1,c1,rs,s2,n2,c2,ps,rfl,P⟩
  ·refine ⟨⟨#[]⟩,none,0,0,0,none,0,0,0,false,fun W hW=>?_,.inl ⟨rfl,e2⟩⟩
   have q:=fO (HM.o.below (by rw [hX];exact hW)) iT gz (lU W) text;rw [e1] at q;exact q
  ·refine ⟨nm,s1,n1,c1,rs,s2,n2,c2,ps,true,fun W hW=>?_,.inr ⟨rfl,f,e2,P⟩⟩
   have q:=fO (HM.o.below (by rw [hX];exact hW)) iT gz (lU W) text;rw [e1] at q;exact q
 obtain ⟨nm,s1,n1,c1,rs,s2,n2,c2,ps,bb,r,L⟩:=r;have ht:=zh r;have l:=zh L;clear r L;have M:Hd (w1.drew.cell? ⟨cb,0,none⟩=some (.map (some fr))∧w1.drew.cell? ⟨X,2,none⟩=some (.string text)∧(Instr.lookup 99 (.map (some fr)) (.string text) true).run Tryz.prog w1.drew=.ok (.tuple #[.agg #[.string nm,.slice s1 n1 c1,.int .i64 rs,.slice s2 n2 c2,.int .i64 ps],.bool bb]) w1.drew):=zh ⟨(T.o.cell (p:=⟨cb,0,none⟩) A.o.2.2.2).trans (aa hq.o (j:=0) rfl),aa hi.o (j:=2) rfl,ht.o _ (T.o.drew)⟩;have hw:=M.o;refine wp_region_held (S:=(fun w':World=>w'.cell? ⟨cb,0,none⟩=some (.map (some fr))∧w'.cell? ⟨X,2,none⟩=some (.string text)∧(Instr.lookup 99 (.map (some fr)) (.string text) true).run Tryz.prog w'=.ok (.tuple #[.agg #[.string nm,.slice s1 n1 c1,.int .i64 rs,.slice s2 n2 c2,.int .i64 ps],.bool bb]) w')) (by kernel_rfl) ?_;refine tkA 0 ?_;refine tkA 1 ?_;refine tkA 2 ?_;refine tkA 3 ?_;refine tkA 4 ?_;refine tkA 5 ?_;refine tkA 6 ?_;refine tkA 7 ?_;refine tkA 8 ?_;refine tkA 9 ?_;have h5:Hd (∀o:Obj,(w1.drew.alloc o).cell? ⟨cb,0,none⟩=some (.map (some fr))∧(w1.drew.alloc o).cell? ⟨X,2,none⟩=some (.string text)∧(Instr.lookup 99 (.map (some fr)) (.string text) true).run Tryz.prog (w1.drew.alloc o)=.ok (.tuple #[.agg #[.string nm,.slice s1 n1 c1,.int .i64 rs,.slice s2 n2 c2,.int .i64 ps],.bool bb]) (w1.drew.alloc o)):=zh (fun o=>⟨ak _ M.o.1,ak _ M.o.2.1,ht.o _ (T.o.drew.alloc (by have h:=T.o.size;rw [A.o.1] at h;exact h) _)⟩);refine rd1 10 fun K hK=>?_;go_simp;refine hK.out _ _ ?_ (fun hH=>?_)
 ·(try dsimp only)
  exact h5.o _
 clear hK K;try go_simp
 refine rd1 11 fun K hK=>?_;go_simp;refine hK.out _ _ ?_ (fun hH=>?_)
 ·(try dsimp only)
  exact h5.o _
 clear hK K;try go_simp
 refine tkA 12 ?_;refine wpAnyH_done (by kernel_rfl) ?_ _;have y:Hd (Below X w (w1.alloc (.cells #[.string nm,.slice s1 n1 c1,.int .i64 rs,.slice s2 n2 c2,.int .i64 ps] 60)).drew):=zh (T.o.alloc (by have h:=T.o.size;rw [A.o.1] at h;exact h) _).drew;have hh:Hd ((w1.alloc (.cells #[.string nm,.slice s1 n1 c1,.int .i64 rs,.slice s2 n2 c2,.int .i64 ps] 60)).drew.heap[X]?=some (.cells #[.int .i64 op,.int .i64 num,.string text,.slice s ks.length c,.int .i64 pos] 144 (0,0))):=zh (az _ _ _ _ hi.o);have Z:Hd ((w1.alloc (.cells #[.string nm,.slice s1 n1 c1,.int .i64 rs,.slice s2 n2 c2,.int .i64 ps] 60)).drew.heap[RB]?=some (.cells #[.int .i64 0,.int .i64 0] 104 (0,0))):=zh (az _ _ _ _ ho.o);have hV:Hd ((w1.alloc (.cells #[.string nm,.slice s1 n1 c1,.int .i64 rs,.slice s2 n2 c2,.int .i64 ps] 60)).drew.heap[w1.heap.size]?=some (.cells #[.string nm,.slice s1 n1 c1,.int .i64 rs,.slice s2 n2 c2,.int .i64 ps] 60 (0,0))):=zh (am _ _ _ rfl);have H6:Hd (RB<w1.heap.size):=zh A.o.2.2.1;clear hw M h5 hH;generalize (w1.alloc (.cells #[.string nm,.slice s1 n1 c1,.int .i64 rs,.slice s2 n2 c2,.int .i64 ps] 60)).drew=w2 at *;generalize w1.heap.size=FB at *;have x4:w2.cell? ⟨X,4,none⟩=some (.int .i64 pos):=aa hh.o (j:=4) rfl;have x3:w2.cell? ⟨X,3,none⟩=some (.slice s ks.length c):=aa hh.o (j:=3) rfl;obtain ⟨r0,r1,-⟩:=css Z.o;obtain ⟨k0,k1,-⟩:=fzs Z.o;have H2:¬RB=X:=by have:=A.o;omega
 have hz:¬X=RB:=by have:=A.o;omega
 rcases l.o with ⟨rfl,hy⟩ | ⟨rfl,f,O,P⟩
 ·have HE:=zh (show C=(0,(52,pos)) from HC.o.trans (by unfold jB;rw [hy]))
  go_upto_region 3 with fail
  go_region
  go_wp2_with fail
  refine bodyPost_ret (v:=.tuple #[.int .i64 0,.agg #[.int .i64 52,.int .i64 pos]]) (by simp [results,Tryz.results131,go_sem,r0,r1]) rfl ⟨by rw [HE.o];rfl,?_⟩;rw [A.o.1];exact ((y.o.setCell (p:=⟨RB,0,none⟩) (Nat.le_of_lt A.o.2.1) _).setCell (p:=⟨RB,1,none⟩) (Nat.le_of_lt A.o.2.1) _).drew
 ·obtain ⟨vp,vb,ecs,hx,_⟩:=P
  simp only [List.cons.injEq,Value.int.injEq,Value.string.injEq,true_and,and_true] at ecs
  obtain ⟨rfl,rfl,rfl,rfl,rfl⟩:=ecs;obtain ⟨cp,⟨sp,capp,ep,h1,h2,_,I,z⟩,U⟩:=hx;injection ep with ep1 ep2 ep3
  subst ep1 ep2 ep3;obtain ⟨-,f1,f2,-⟩:=css hV.o;have hO:=zh I;have hP:=zh U;have Y:=zh O
  have h6:Hd (f.params.length≤100000):=zh (by
    obtain ⟨p,hp,rfl⟩:∃p,p∈F∧p.2=f:=vW O;exact hU.o p hp)
  clear I U O z h1 h2;by_cases G:f.params.length=ks.length
  ·have HE:=zh (show C=(f.result,cY F v ks (f.params.map (·.2))) from HC.o.trans (by unfold jB;rw [Y.o];exact if_neg (by simp [G])))
   have g1:(f.params.length:Int)=(ks.length:Int):=by omega
   have h7:=zh G;have HI:=zh kS;clear G;have g1b:((f.params.length:Int) !=(ks.length:Int))=false:=by simp [g1]
   clear g1;go_wp2_with fail
   clear g1b x4 f1;go_loopg [10,43] f.params.length (fun q s10 s43 wr=>∃i:Nat,i+q=f.params.length∧s43=.int .i64 (i:Int)∧wr.ownsRow w2.heap.size 38 1 s10 i ((f.params.take i).map fun p=>Value.int .i64 p.2)∧Below w2.heap.size w2 wr)
   case atStart=>exact ⟨0,Nat.zero_add _,rfl,iB,Below.refl _ _⟩
   case round =>
    obtain ⟨i,H3,rfl,Q,he⟩:=hrel;have a:=zh Q;have H:=zh he;obtain ⟨so,co,rfl,H5,hD,_,_⟩:=bh Q;unfold maxLen at hD;clear Q he;have N:Hd (Below X w wr):=zh (y.o.trans (H.o.mono (by have h:=y.o.size;rw [A.o.1] at h;exact h)));by_cases V:i<f.params.length
    ·have g4:(f.params.length:Int)≤100000:=by have:=h6.o;omega
     have g1:(i:Int)<(f.params.length:Int):=by omega
     have g3:(0:Int)≤(i:Int):=by omega
     obtain ⟨b,off,hs,_,hf,D⟩:=hO.o (by omega);subst hs;have t:=hP.o i V;unfold rq at t;have y0:wr.cell? ⟨b,off+i * 2,none⟩=some (.string (f.params.getD i default).1):=(N.o.cell (p:=⟨b,_,none⟩) (by rw [←A.o.1];exact hf)).trans (by have q:=D i V 0 (by decide);rw [t] at q;exact q);have y1:wr.cell? ⟨b,off+i * 2+1,none⟩=some (.int .i64 (f.params.getD i default).2):=(N.o.cell (p:=⟨b,_,none⟩) (by rw [←A.o.1];exact hf)).trans (by have q:=D i V 1 (by decide);rw [t] at q;exact q);have hI:Hd ((f.params.take (i+1)).map (fun p=>Value.int .i64 p.2)=(f.params.take i).map (fun p=>Value.int .i64 p.2)++[.int .i64 (f.params.getD i default).2]):=zh (by rw [List.take_add_one,List.map_append,List.getElem?_eq_getElem V,List.getD_eq_getElem?_getD,List.getElem?_eq_getElem V];rfl);generalize (f.params.getD i default).1=pn at *;generalize (f.params.getD i default).2=pt at *;clear t D;have d:Hd (((wr.alloc (.cells #[.string pn,.int .i64 pt] 65)).alloc (.cells #[.int .i64 pt] 38)).ownsRow w2.heap.size 38 1 (.slice so i co) i ((f.params.take i).map fun p=>Value.int .i64 p.2)):=zh (kX a.o (ag (ag (Below.refl _ _) _) _));have h9:Hd (Below w2.heap.size w2 ((wr.alloc (.cells #[.string pn,.int .i64 pt] 65)).alloc (.cells #[.int .i64 pt] 38))):=zh (H.o.trans ((ag (ag (Below.refl wr.heap.size wr) _) _).mono H.o.size));have hv:=zh (show i≤100000 from by have:=h6.o;omega);go_wp2_with (refine wpList_append_lies _ rfl _ _ _ rfl w2.heap.size 38 HI.o.choose (.int .i64 0) 1 8 Tryz.underlying37 HI.o.choose_spec.1 HI.o.choose_spec.2.1 HI.o.choose_spec.2.2.1 HI.o.choose_spec.2.2.2 rfl (by decide) _ i _ rfl d.o ⟨wr.heap.size+1,0,none⟩ 1 1 [.int .i64 pt] rfl rfl (by intro j u hj;rw [Go.WideShapes.add_plain,Nat.zero_add];exact aw _ _ _ _ _ _ (ah _ _) (by simpa using hj)) (by intro u hu;simp at hu;subst hu;rfl) (by decide) (by have:=hv.o;unfold maxLen;omega) (by have:=hv.o;omega) h9.o.size _ rfl ?_;intro g9 cp9 w9 J B h4 h3;have hQ:=zh J;have k:=zh B;clear J B h4 h3)
     go_roundg (f.params.length-i-1)
     case measure=>omega
     case rel=>exact ⟨i+1,by omega,rfl,by rw [hI.o];exact hQ.o,h9.o.trans ⟨k.o.os,k.o.tape,k.o.output,k.o.size,fun j hj=>k.o.block j (Nat.lt_of_lt_of_le hj h9.o.size) (fun e=>by have:=(aP d.o e.symm).1;omega)⟩⟩
    ·obtain rfl:i=f.params.length:=by omega
     have g1:¬(f.params.length:Int)<(f.params.length:Int):=by omega
     have hG:Hd (TysAt wr (.slice so f.params.length co) (f.params.map (·.2))):=zh (by
        refine ⟨so,co,by rw [List.length_map],by rw [List.length_map];have:=h6.o;omega,fun h0=>?_⟩;rw [List.length_map] at h0;obtain ⟨_,_,e,_,_,_,hc⟩:=bh a.o;injection e with e _ _
        obtain ⟨g,e2,H4,hB,hA⟩:=hc h0;rw [←e] at e2;refine ⟨g,0,e2,hB,fun j hj=>?_⟩;rw [List.length_map] at hj;rw [Nat.zero_add];refine hA j _ ?_;rw [List.take_length,List.getElem?_map,List.getElem?_eq_getElem hj,List.getD_eq_getElem?_getD,List.getElem?_map,List.getElem?_eq_getElem hj];rfl)
     have M:Hd (wr.drew.cell? ⟨FB,2,none⟩=some (.int .i64 f.result)∧wr.drew.cell? ⟨X,3,none⟩=some (.slice s ks.length c)):=zh ⟨(H.o.cell (p:=⟨FB,2,none⟩) (ax f2)).trans f2,(H.o.cell (p:=⟨X,3,none⟩) (ax x3)).trans x3⟩;have hN:=zh ((H.o.block _ (ae Z.o)).trans Z.o);have h8:Hd (RB<w2.heap.size∧X<w2.heap.size∧FB<w2.heap.size):=zh ⟨ae Z.o,ax x3,ax f2⟩;clear r0 r1 k0 k1 f2 x3;have R:=zh (fun W (hW:Below wr.heap.size wr W)=>ie cb F res ks hR.o v vr W (.slice s ks.length c) (.slice so f.params.length co) (f.params.map (·.2)) (H0.o.below (by rw [A.o.1];exact N.o.trans (hW.mono (by have h:=N.o.size;rw [A.o.1] at h;exact h)))) (hS.o.keep (Stays.of_below (by rw [A.o.1];exact N.o.trans (hW.mono (by have h:=N.o.size;rw [A.o.1] at h;exact h))))) (hG.o.below hW) (by rw [List.length_map];exact Nat.le_of_eq h7.o.symm));generalize cY F v ks (f.params.map (·.2))=q at *;obtain ⟨qe,qa⟩:=q;unfold bM at R;dsimp only at R;go_upto_region 12 with fail
     refine aD (S:=(fun w':World=>w'.cell? ⟨FB,2,none⟩=some (.int .i64 f.result)∧w'.cell? ⟨X,3,none⟩=some (.slice s ks.length c))) 8 (by kernel_rfl) (by kernel_rfl) (by exact M.o) (fun hH=>?_);simp only [List.take_succ_cons,List.take_zero,List.drop_succ_cons,List.drop_zero]
     refine tkA 0 ?_;refine tkA 1 ?_;refine tkA 2 ?_;refine tkA 3 ?_;refine tkA 4 ?_;refine tkA 5 ?_;refine tkA 6 ?_;refine rd1 7 fun K hK=>?_;go_simp;go_at_call 119
     refine (R.o _ (aB (Below.refl _ _))).mono ?_;rintro e w5 ⟨rfl,hg⟩;have E:Below wr.heap.size wr w5:=ay (aB (Below.refl _ _)) hg;have hM:Hd (w5.cell? ⟨FB,2,none⟩=some (.int .i64 f.result)∧w5.cell? ⟨X,3,none⟩=some (.slice s ks.length c)):=zh ⟨(E.cell (p:=⟨FB,2,none⟩) (Nat.lt_of_lt_of_le h8.o.2.2 H.o.size)).trans M.o.1,(E.cell (p:=⟨X,3,none⟩) (Nat.lt_of_lt_of_le h8.o.2.1 H.o.size)).trans M.o.2⟩;have hk:=zh ((E.block _ (Nat.lt_of_lt_of_le h8.o.1 H.o.size)).trans hN.o);have H1:Hd (Below X w w5):=zh (N.o.trans (E.mono (by have h:=N.o.size;rw [A.o.1] at h;exact h)));clear hg E;go_simp;refine hK.out _ _ ?_ (fun hH=>?_)
     ·(try dsimp only)
      exact hM.o
     clear hK K;try go_simp
     refine wpAnyH_done (by kernel_rfl) ?_ _;dsimp only [cZ];obtain ⟨r0,r1,-⟩:=css hk.o;obtain ⟨k0,k1,-⟩:=fzs hk.o;go_wp2_with fail
     refine bodyPost_ret (v:=.tuple #[.int .i64 f.result,.agg #[.int .i64 qe,.int .i64 qa]]) (by simp [results,Tryz.results131,go_sem,r0,r1]) rfl ⟨by rw [HE.o];rfl,?_⟩;rw [A.o.1];exact (H1.o.setCell (p:=⟨RB,0,none⟩) (Nat.le_of_lt A.o.2.1) _).setCell (p:=⟨RB,1,none⟩) (Nat.le_of_lt A.o.2.1) _
  ·have HE:=zh (show C=(0,(51,pos)) from HC.o.trans (by unfold jB;rw [Y.o];exact if_pos G))
   have g1:¬(f.params.length:Int)=(ks.length:Int):=by omega
   go_upto_region 5 with fail
   go_region
   go_wp2_with fail
   refine bodyPost_ret (v:=.tuple #[.int .i64 0,.agg #[.int .i64 51,.int .i64 pos]]) (by simp [results,Tryz.results131,go_sem,r0,r1]) rfl ⟨by rw [HE.o];rfl,?_⟩;rw [A.o.1];exact ((y.o.setCell (p:=⟨RB,0,none⟩) (Nat.le_of_lt A.o.2.1) _).setCell (p:=⟨RB,1,none⟩) (Nat.le_of_lt A.o.2.1) _).drew
end
end Go.Proofs.YtmlgbkomdhcaoaaGreatDoor
