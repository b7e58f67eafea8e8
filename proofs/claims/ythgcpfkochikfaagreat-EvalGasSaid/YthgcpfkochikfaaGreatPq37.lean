/-
  EvalLoops: part 37 of its proof: see the last text.
-/
import Derived.Test.YthgcpfkochikfaaGreatPq33
set_option maxRecDepth 100000
set_option maxHeartbeats 16000000
namespace Go.Proofs.YthgcpfkochikfaaGreat
section
open Go.RowKit
attribute [local go_sem ↓] Go.wp_at_zero Go.wp_at_succ
theorem oP {S1 S2:Nat→Prop} {s:List UInt8} (ty num:Int) (p1 p2:Option Addr) (c1 c2:Nat) (w:World) (h1:TxtAt S1 w (.slice p1 s.length c1) s) (h2:TxtAt S2 w (.slice p2 s.length c2) s) :
    Calls Tryz.prog 16 #[.agg #[.int .i64 ty,.int .i64 num,.slice p1 s.length c1],.agg #[.int .i64 ty,.int .i64 num,.slice p2 s.length c2]] w fun e w'=>e=.returned (.bool true)∧Below w.heap.size w w':=by
 have hb:Below w.heap.size w ((w.alloc (.cells #[.int .i64 ty,.int .i64 num,.slice p1 s.length c1] 35)).alloc (.cells #[.int .i64 ty,.int .i64 num,.slice p2 s.length c2] 35)):=ag (ag (Below.refl _ _) _) _;have B:=dN (h1.below hb);have A:=dN (h2.below hb);have HB:=zh hb;clear h1 h2 hb;generalize s.length=n at *;go_enter Tryz.func16,Tryz.ntmps16
 go_wp2_with fail
 exact bodyPost_ret (v:=.bool true) (by simp [results,Tryz.results16,go_sem]) rfl ⟨rfl,HB.o⟩
theorem ou {S1 S2:Nat→Prop} {s:List UInt8} (ty num t u:Int) (p1 p2:Option Addr) (c1 c2:Nat) (w:World) (h1:TxtAt S1 w (.slice p1 s.length c1) s) (h2:TxtAt S2 w (.slice p2 s.length c2) s) :
    Calls Tryz.prog 20 #[.agg #[.int .i64 ty,.int .i64 num,.slice p1 s.length c1,.int .i64 t,.int .i64 u],.agg #[.int .i64 ty,.int .i64 num,.slice p2 s.length c2,.int .i64 t,.int .i64 u]] w fun e w'=>e=.returned (.bool true)∧Below w.heap.size w w':=by
 have hb:Below w.heap.size w ((w.alloc (.cells #[.int .i64 ty,.int .i64 num,.slice p1 s.length c1,.int .i64 t,.int .i64 u] 38)).alloc (.cells #[.int .i64 ty,.int .i64 num,.slice p2 s.length c2,.int .i64 t,.int .i64 u] 38)):=ag (ag (Below.refl _ _) _) _;have F:=zh (oP ty num p1 p2 c1 c2 _ (h1.below hb) (h2.below hb));have E:Hd (((w.alloc (.cells #[.int .i64 ty,.int .i64 num,.slice p1 s.length c1,.int .i64 t,.int .i64 u] 38)).alloc (.cells #[.int .i64 ty,.int .i64 num,.slice p2 s.length c2,.int .i64 t,.int .i64 u] 38)).heap[w.heap.size]?=some (.cells #[.int .i64 ty,.int .i64 num,.slice p1 s.length c1,.int .i64 t,.int .i64 u] 38 (0,0))):=zh (ax _ _ _ _ (aj _ _ _ rfl));have D:Hd (((w.alloc (.cells #[.int .i64 ty,.int .i64 num,.slice p1 s.length c1,.int .i64 t,.int .i64 u] 38)).alloc (.cells #[.int .i64 ty,.int .i64 num,.slice p2 s.length c2,.int .i64 t,.int .i64 u] 38)).heap[w.heap.size+1]?=some (.cells #[.int .i64 ty,.int .i64 num,.slice p2 s.length c2,.int .i64 t,.int .i64 u] 38 (0,0))):=zh (aj _ _ _ (ah _ _));have HB:=zh hb;clear h1 h2 hb;generalize s.length=n at *;go_enter Tryz.func20,Tryz.ntmps20
 go_wp2_with fail
 refine F.o.mono ?_;rintro e w1 ⟨rfl,A⟩;have C:=(A.block _ (af E.o)).trans E.o;have B:=(A.block _ (af D.o)).trans D.o;have a3:=aa C (j:=3) (u:=.int .i64 t) rfl;have a4:=aa C (j:=4) (u:=.int .i64 u) rfl;have b3:=aa B (j:=3) (u:=.int .i64 t) rfl;have b4:=aa B (j:=4) (u:=.int .i64 u) rfl;have G:=zh (am HB.o A);clear C B A;go_wp2_with fail
 exact bodyPost_ret (v:=.bool true) (by simp [results,Tryz.results20,go_sem]) rfl ⟨rfl,G.o⟩
theorem lk {S1 S2:Nat→Prop} {va vb:Value} {l:List Pr} (w:World) (h1:PrsAt S1 w va l) (h2:PrsAt S2 w vb l) (hl:(l.length:Int)≤1000000000000000):Calls Tryz.prog 21 #[va,vb] w fun e w'=>e=.returned (.bool true)∧Below w.heap.size w w':=by
 obtain ⟨cs1,⟨s1,cap1,rfl,_,_,_,D,_⟩,O⟩:=h1;obtain ⟨cs2,⟨s2,cap2,rfl,_,_,_,C,_⟩,N⟩:=h2;have U:=zh D;have T:=zh C;have X:=zh O;have V:=zh N;clear D C O N;go_enter Tryz.func21,Tryz.ntmps21
 go_wp2_with fail
 go_loopg [5] l.length (fun gg t5 wr=>∃i:Nat,i+gg=l.length∧t5=.int .i64 (i:Int)∧Below w.heap.size w wr)
 case atStart=>exact ⟨0,Nat.zero_add _,rfl,Below.refl _ _⟩
 case round =>
  obtain ⟨i,I,rfl,hb⟩:=hrel;have HB:=zh hb;have HG:=zh I;by_cases G:i<l.length
  ·have H:(i:Int)<(l.length:Int):=by omega
   have Y:(0:Int)≤(i:Int):=by omega
   obtain ⟨b1,off1,R,_,F,B⟩:=U.o (by omega);obtain ⟨b2,off2,Q,_,E,A⟩:=T.o (by omega);subst R Q;obtain ⟨a1,ca1,a2,ca2,e1,M,L⟩:=X.o i G;obtain ⟨d1,cd1,d2,cd2,e2,K,J⟩:=V.o i G;have q1:=B i G;have q2:=A i G;rw [e1] at q1;rw [e2] at q2;generalize l.getD i default=p at *
   have HS:Hd (∀W,Below w.heap.size w W→W.cell? ⟨b1,off1+i * 2,none⟩=some (.slice a1 p.1.length ca1)∧W.cell? ⟨b1,off1+i * 2+1,none⟩=some (.slice a2 p.2.length ca2)∧W.cell? ⟨b2,off2+i * 2,none⟩=some (.slice d1 p.1.length cd1)∧W.cell? ⟨b2,off2+i * 2+1,none⟩=some (.slice d2 p.2.length cd2)∧(convert 30 9 (.slice a1 p.1.length ca1)).run Tryz.prog W=.ok (.string ⟨p.1.toArray⟩) W∧(convert 30 9 (.slice a2 p.2.length ca2)).run Tryz.prog W=.ok (.string ⟨p.2.toArray⟩) W∧(convert 30 9 (.slice d1 p.1.length cd1)).run Tryz.prog W=.ok (.string ⟨p.1.toArray⟩) W∧(convert 30 9 (.slice d2 p.2.length cd2)).run Tryz.prog W=.ok (.string ⟨p.2.toArray⟩) W):=zh (fun W hW =>
     ⟨(hW.cell (p:=⟨b1,_,none⟩) F).trans (q1 0 (by decide)),(hW.cell (p:=⟨b1,_,none⟩) F).trans (q1 1 (by decide)),(hW.cell (p:=⟨b2,_,none⟩) E).trans (q2 0 (by decide)),(hW.cell (p:=⟨b2,_,none⟩) E).trans (q2 1 (by decide)),dN (M.below hW),dN (L.below hW),dN (K.below hW),dN (J.below hW)⟩)
   generalize p.1.length=kl at *;generalize p.2.length=vl at *;have P:Hd (Below w.heap.size w wr.drew):=zh (aw HB.o);clear hb B A e1 e2 q1 q2 M L K J F E I G;go_upto_region 6 with fail
   refine wp_region_held_drew (S:=(fun W=>W.cell? ⟨b1,off1+i * 2,none⟩=some (.slice a1 kl ca1)∧W.cell? ⟨b1,off1+i * 2+1,none⟩=some (.slice a2 vl ca2)∧W.cell? ⟨b2,off2+i * 2,none⟩=some (.slice d1 kl cd1)∧W.cell? ⟨b2,off2+i * 2+1,none⟩=some (.slice d2 vl cd2)∧(convert 30 9 (.slice a1 kl ca1)).run Tryz.prog W=.ok (.string ⟨p.1.toArray⟩) W∧(convert 30 9 (.slice a2 vl ca2)).run Tryz.prog W=.ok (.string ⟨p.2.toArray⟩) W∧(convert 30 9 (.slice d1 kl cd1)).run Tryz.prog W=.ok (.string ⟨p.1.toArray⟩) W∧(convert 30 9 (.slice d2 vl cd2)).run Tryz.prog W=.ok (.string ⟨p.2.toArray⟩) W)) (by kernel_rfl) (by (try dsimp only);exact HS.o _ P.o) (fun hH=>?_);refine tkA 0 ?_;refine tkA 1 ?_;refine tkA 2 ?_;refine tkA 3 ?_;try go_simp
   refine tkA 4 ?_;refine tkA 5 ?_;refine tkA 6 ?_;refine tkA 7 ?_;try go_simp
   refine tkA 8 ?_;refine tkA 9 ?_;refine tkA 10 ?_;refine tkA 11 ?_;try go_simp
   refine tkA 12 ?_;refine tkA 13 ?_;refine tkA 14 ?_;refine tkA 15 ?_;try go_simp
   refine tkA 16 ?_;refine tkA 17 ?_;refine tkA 18 ?_;refine tkA 19 ?_;try go_simp
   refine tkA 20 ?_;refine tkA 21 ?_;refine tkA 22 ?_;refine tkA 23 ?_;try go_simp
   refine tkA 24 ?_;refine tkA 25 ?_;refine tkA 26 ?_;refine tkA 27 ?_;try go_simp
   refine wpAnyH_done (by kernel_rfl) ?_ _;go_wp2_with fail
   go_roundg (l.length-i-1)
   case measure=>have:=HG.o;omega
   case rel=>exact ⟨i+1,by have:=HG.o;omega,by go_num,P.o⟩
  ·obtain rfl:i=l.length:=by omega
   have H:¬(l.length:Int)<(l.length:Int):=by omega
   clear hb I G;go_wp2_with fail
   exact bodyPost_ret (v:=.bool true) (by simp [results,Tryz.results21,go_sem]) rfl ⟨rfl,HB.o⟩
end
section
open Go.RowKit
theorem oE {s:List UInt8} {w w':World} {e:Ending} (h:lm w (cU s) e w'):∃sv n cv er pos,e=.returned (.tuple #[.agg #[.slice sv n cv],.int .i64 er,.int .i64 pos])∧(er=0→∃F,cU s=.ok F∧RepFns Any w' (.slice sv n cv) F)∧Below w.heap.size w w':=by
 obtain ⟨h,hb⟩:=h
 cases hf:cU s with
 | error q =>
  rw [hf] at h;obtain ⟨er,p⟩:=q;exact ⟨none,0,0,er,p,h.2,fun q=>absurd q h.1,hb⟩
 | ok F =>
  rw [hf] at h;obtain ⟨v,rfl,hr⟩:=h;obtain ⟨sv,cv,rfl⟩:=oW hr;exact ⟨sv,F.length,cv,0,0,rfl,fun _=>⟨F,rfl,hr.mono fun _ _=>trivial⟩,hb⟩
theorem jK {l:List Pr} {w w':World} {e:Ending} (h:pm w l e w'):∃q,e=.returned (.pointer q)∧(aV l=false→q=none)∧(aV l=true→∃JB,q=some ⟨JB,0,none⟩∧w.heap.size≤JB∧∀U N,JAt U w' JB ⟨l,[]⟩ N)∧Below w.heap.size w w':=by
 obtain ⟨hb,h⟩:=h;by_cases hr:aV l=true
 ·rw [if_pos hr] at h
  obtain ⟨JB,rfl,h1,h2⟩:=h;exact ⟨_,rfl,fun q=>absurd hr (by rw [q];decide),fun _=>⟨JB,rfl,h1,h2⟩,hb⟩
 ·rw [if_neg hr] at h
  exact ⟨none,h,fun _=>rfl,fun q=>absurd q hr,hb⟩
section
variable {D U JB N PB JB' U' N':Nat} {w0 w w':World} {pv v:Value} {F:List Fn} {j j':Jo} {x:Vv} {l:List Pr}
theorem uZ (h:JAt w.heap.size w JB ⟨l,[]⟩ N) (U' N':Nat):JAt U' w JB ⟨l,[]⟩ N':=by
 obtain ⟨p,n,c,uv,fs,h1,h2,h3,h4⟩:=h.box;refine ⟨⟨p,n,c,uv,fs,h1,h2,⟨h3.1,?_⟩,h4⟩,h.right,h.rights,Nat.zero_le _⟩;rcases h3.2 with q | ⟨g,cap,cur,q1,q2,q3,_⟩
 ·exact .inl q
 ·exact absurd (af q3) (Nat.not_lt_of_le q2)
theorem oH (h:JAt U w JB j N) (hk:JAt U' w JB' j' N') (ho:OnS (JT JB' w.heap.size w) w w') (A:JB≠JB'):JAt U w' JB j N:=
 h.keep (ho.stays fun b hb=>hb.not hk.ty) (ho.block _ h.ty.lt fun q=>q.elim A fun q=>absurd h.ty.lt (Nat.not_lt_of_le q.1)) fun k _ ht=>ho.block k ht.lt fun q=>q.elim (fun e=>ht.ne hk.ty (by decide) e) fun q=>absurd ht.lt (Nat.not_lt_of_le q.1)
theorem oC (h:JAt w.heap.size w JB ⟨l,[]⟩ N) (hk:JAt U' w JB' j' N') (ho:OnS (JT JB' U' w) w w') (A:JB≠JB') (U2 N2:Nat):JAt U2 w' JB ⟨l,[]⟩ N2:=by
 refine uZ (N:=N) ?_ _ _;have q:JAt w.heap.size w' JB ⟨l,[]⟩ N:=h.keep (ho.stays fun b hb=>hb.not hk.ty) (ho.block _ h.ty.lt fun q=>q.elim A fun q=>q.2.ne h.ty (by decide) rfl) fun k C ht=>absurd ht.lt (Nat.not_lt_of_le C);obtain ⟨p,n,c,uv,fs,h1,h2,h3,h4⟩:=q.box;obtain ⟨p',n',c',uv',fs',E,_,D,_⟩:=h.box;have B:w'.heap[JB]?=w.heap[JB]?:=ho.block _ h.ty.lt fun q=>q.elim A fun q=>q.2.ne h.ty (by decide) rfl;refine ⟨⟨p,n,c,uv,fs,h1,h2,⟨h3.1,?_⟩,h4⟩,h.right,h.rights,Nat.zero_le _⟩;rw [B,E] at h1;obtain rfl:uv'=uv:=by simp at h1;exact h1.2
 rcases D.2 with q | ⟨g,cap,cur,q1,q2,q3,_⟩
 ·exact .inl q
 ·exact absurd (af q3) (Nat.not_lt_of_le q2)
theorem RnS.other (h:RnS D U JB N w0 w PB pv F j) (hk:JAt w.heap.size w JB' j' N') (hd:D≤JB'):RnS D w.heap.size JB' N' w0 w PB pv F j':=
 ⟨h.p,h.rep,hk,⟨h.low.1,hd,by have:=h.low;omega,Nat.le_refl _⟩,h.on⟩
theorem Bv (h:VvAt (KS D w) w v x) (hj:JAt U w JB j N) (ho:OnS (JT JB U w) w w') (hd:D≤JB∧D≤U):VvAt (KS D w') w' v x:=h.stays (ho.stays fun b hb q=>by
  rcases hb with hb | hb
  · exact absurd (sG q hd) (Nat.not_le_of_lt hb)
  · rcases q with q | q
    · exact hb.ne hj.ty (by decide) q
    · exact hb.ne q.2 (by decide) rfl)
end
theorem VvAt.txt {S:Nat→Prop} {w:World} {a b:Int} {p:Option Addr} {n c:Nat} {x:Vv} (h:VvAt S w (.agg #[.int .i64 a,.int .i64 b,.slice p n c]) x):TxtAt S w (.slice p x.text.length c) x.text:=by
 obtain ⟨p',c',e,ht⟩:=h;simp at e
 obtain ⟨_,_,rfl,_,rfl⟩:=e;exact ht
def ArIn (w:World) (v:Value) (vs:List Vv):Prop:=∃cs,RowOf Any w v 3 vs.length cs∧∀i,i<vs.length→VvAt Any w (.agg (cs i).toArray) (vs.getD i noV)∧aY (vs.getD i noV).num
theorem ArIn.at {w w':World} {v:Value} {vs:List Vv} (h:ArIn w v vs) {D:Nat} (hD:w.heap.size≤D) (hb:Below w.heap.size w w'):ArAt D w' v vs:=by
 obtain ⟨cs,⟨s0,cap,h1,h2,h3,h4,h5,h6⟩,hi⟩:=h;refine ArAt.low (w:=w) ⟨cs,⟨s0,cap,h1,h2,h3,h4,fun h0=>?_,h6⟩,fun i hl=>⟨?_,(hi i hl).2⟩⟩ hb
 ·obtain ⟨b,off,e,_,hl,hc⟩:=h5 h0
  exact ⟨b,off,e,.inl (Nat.lt_of_lt_of_le hl hD),hl,hc⟩
 ·obtain ⟨p,c,e,ht⟩:=(hi i hl).1
  obtain ⟨p',c',e',q1,q2,q3,q4⟩:=ht.form;injection e' with a1 _ a3
  subst a1 a3
  exact ⟨p,c,e,TxtAt.of_cells q1 q2 q3 fun h0=>by
    obtain ⟨b,off,e,_,hl,hc⟩:=q4 h0;exact ⟨b,off,e,.inl (Nat.lt_of_lt_of_le hl hD),hc⟩⟩
end
end Go.Proofs.YthgcpfkochikfaaGreat
