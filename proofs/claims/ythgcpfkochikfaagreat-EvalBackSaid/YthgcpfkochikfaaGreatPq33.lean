/-
  EvalLoops: part 33 of its proof: see the last text.
-/
import Derived.Test.YthgcpfkochikfaaGreatPq30
import Derived.Test.YthgcpfkochikfaaGreatPq31
import Derived.Test.YthgcpfkochikfaaGreatPq32
import Derived.KernelRfl
import Derived.Lib.SlBytesConst
set_option maxRecDepth 100000
set_option maxHeartbeats 16000000
namespace Go.Proofs.YthgcpfkochikfaaGreat
section
open Go.RowKit
attribute [local go_sem ↓] Go.wp_at_zero Go.wp_at_succ
theorem RepFns.under {S:Nat→Prop} {w:World} {v:Value} {l:List Fn} (h:RepFns S w v l):RepFns (fun b=>b<w.heap.size) w v l:=by
 obtain ⟨cs,⟨s0,cap,h1,h2,h3,h4,h5,h6⟩,hi⟩:=h;refine ⟨cs,⟨s0,cap,h1,h2,h3,h4,fun h0=>?_,h6⟩,fun i hl=>(hi i hl).lies.mono fun _ q=>q.2⟩;obtain ⟨b,off,e,_,hl,hc⟩:=h5 h0;exact ⟨b,off,e,hl,hl,hc⟩
theorem xU {B:Nat} {T:Nat→Prop} {w0 w w':World} (h:Below B w0 w) (ho:OnS T w w') (hB:B≤w0.heap.size) (hT:∀k,T k→B≤k):Below B w0 w':=
 h.trans ⟨ho.os,ho.tape,ho.output,ho.size,fun i hi=>ho.block i (Nat.lt_of_lt_of_le hi (Nat.le_trans hB h.size)) fun q=>absurd (hT i q) (Nat.not_le_of_lt hi)⟩
structure RnS (D U JB N:Nat) (w0 w:World) (PB:Nat) (pv:Value) (F:List Fn) (j:Jo):Prop where
 p:w.heap[PB]?=some (.cells #[pv] 26 (0,0))
 rep:RepFns (fun b=>b<D) w pv F
 jo:JAt U w JB j N
 low:w0.heap.size≤D∧D≤JB∧D≤U∧U≤w.heap.size
 on:Below w0.heap.size w0 w
section
variable {D U JB N PB:Nat} {w0 w w':World} {pv:Value} {F:List Fn} {j:Jo}
theorem RnS.cellp (h:RnS D U JB N w0 w PB pv F j):w.cell? ⟨PB,0,none⟩=some pv:=aa h.p rfl
theorem RnS.below (h:RnS D U JB N w0 w PB pv F j) (hb:Below w.heap.size w w'):RnS D U JB N w0 w' PB pv F j:=
 ⟨(hb.block _ (af h.p)).trans h.p,h.rep.keep (Stays.of_below hb),h.jo.below hb,by have:=h.low;have:=hb.size;omega,h.on.trans (hb.mono h.on.size)⟩
theorem sG {k:Nat} (hk:JT JB U w k) (h:D≤JB∧D≤U):D≤k:=by
 rcases hk with q | q
 ·omega
 ·have:=q.1;omega
theorem dZ {b:Nat} {A:Array Value} {t:TypeId} (ho:OnS (JT JB U w) w w') (hj:JAt U w JB j N) (h:w.heap[b]?=some (.cells A t (0,0))) (h1:t≠68) (h2:t≠1):w'.heap[b]?=some (.cells A t (0,0)):=
 ho.obj (fun q=>by
   have ht:OfTy w b t:=⟨_,_,h⟩
   rcases q with q | q
   · exact ht.ne hj.ty h1 q
   · exact ht.ne q.2 h2 rfl) h
theorem RnS.run {o:Oc×Jn} {e:Ending} (h:RnS D U JB N w0 w PB pv F j) (hs:jJ U JB N D w o e w'):RnS D U JB (N+100000) w0 w' PB pv F ⟨o.2.pairs,o.2.undo⟩:=by
 obtain ⟨p,c,_,_,_,hj,ho⟩:=hs;have hl:=h.low
 exact ⟨dZ ho h.jo h.p (by decide) (by decide),h.rep.keep (ho.stays fun b hb q=>absurd (sG q ⟨hl.2.1,hl.2.2.1⟩) (Nat.not_le_of_lt hb)),hj,by have:=ho.size;omega,
   xU h.on ho (Nat.le_refl _) fun k q=>Nat.le_trans hl.1 (sG q ⟨hl.2.1,hl.2.2.1⟩)⟩
theorem RnS.calls {vs:List Vv} {av:Value} (h:RnS D U JB N w0 w PB pv F j) (hg:gK F≤2048∧gF F∧(bL F).1=0) (nm:ByteArray) (limit:Int) (hl:aY limit) (ha:ArAt D w av vs) (hN:N≤1000000) {o:Oc×Jn} (ho:bA F nm vs limit ⟨j.pairs,j.undo⟩=o) :
    Calls Tryz.prog 13 #[.agg #[pv],.string nm,av,.pointer (some ⟨JB,0,none⟩),.int .i64 limit] w (jJ U JB N D w o):=
 ho▸Ag nm limit w hl h.rep (fun _=>⟨hg.2.1,Nat.le_trans hg.1 (by decide)⟩) (fun f hf=>Nat.le_trans ((r8 hg.2.2 hg.2.1).2 f hf).2 (by decide)) ha h.jo ⟨h.low.2.1,h.low.2.2.1,h.low.2.2.2,hN⟩
theorem RnS.made {S:Nat→Prop} (hp:w.heap[PB]?=some (.cells #[pv] 26 (0,0))) (hr:RepFns S w pv F) (hb:Below w0.heap.size w0 w) (h2:Below w.heap.size w w') (hj:∀U N,JAt U w' JB j N) (hl:w.heap.size≤JB):RnS w.heap.size w'.heap.size JB 0 w0 w' PB pv F j:=
 ⟨(h2.block _ (af hp)).trans hp,hr.under.keep (Stays.of_below h2),hj _ _,⟨hb.size,hl,h2.size,Nat.le_refl _⟩,hb.trans (h2.mono hb.size)⟩
end
theorem ArAt.one {D:Nat} (w:World) (ty n:Int) (hn:aY n):ArAt D (w.alloc (.cells #[.int .i64 ty,.int .i64 n,.slice none 0 0] 35)) (.slice (some ⟨w.heap.size,0,none⟩) 1 1) [⟨ty,n,[]⟩]:=by
 refine ⟨fun _=>[.int .i64 ty,.int .i64 n,.slice none 0 0],⟨_,1,rfl,Nat.le_refl _,by decide,(fun h=>by cases h),fun _=>⟨w.heap.size,0,rfl,.inr ⟨_,_,aj _ _ _ rfl⟩,by rw [ah];exact Nat.lt_succ_self _,fun i hi j hj=>?_⟩,fun _ _=>rfl⟩,fun i hi=>?_⟩
 ·obtain rfl:i=0:=by have h:i<1:=hi;omega
  have:=aj w (.cells #[.int .i64 ty,.int .i64 n,.slice none 0 0] 35) _ rfl;rw [Nat.zero_mul,Nat.zero_add];show _=([.int .i64 ty,.int .i64 n,.slice none 0 0]:List Value)[j]?
  obtain ⟨u,hu⟩:∃u,([.int .i64 ty,.int .i64 n,.slice none 0 0]:List Value)[j]?=some u:=⟨_,List.getElem?_eq_getElem hj⟩
  rw [hu];exact aa this (by simpa using hu)
 ·obtain rfl:i=0:=by have h:i<1:=hi;omega
  exact ⟨⟨none,0,rfl,TxtAt.nil _ _⟩,hn⟩
theorem ArAt.two {D:Nat} (w:World) (a b:Int) (ha:aY a) (hb:aY b):ArAt D (w.alloc (.cells #[.int .i64 1,.int .i64 a,.slice none 0 0,.int .i64 1,.int .i64 b,.slice none 0 0] 35)) (.slice (some ⟨w.heap.size,0,none⟩) 2 2) [aB a,aB b]:=by
 have hn:=aj w (.cells #[.int .i64 1,.int .i64 a,.slice none 0 0,.int .i64 1,.int .i64 b,.slice none 0 0] 35) _ rfl;refine ⟨fun i=>[.int .i64 1,.int .i64 (if i=0 then a else b),.slice none 0 0],⟨_,2,rfl,Nat.le_refl _,by decide,(fun h=>by cases h),fun _=>⟨w.heap.size,0,rfl,.inr ⟨_,_,hn⟩,by rw [ah];exact Nat.lt_succ_self _,fun i hi j hj=>?_⟩,fun _ _=>rfl⟩,fun i hi=>?_⟩
 ·have A:i<2:=hi
  refine (?_:_=([.int .i64 1,.int .i64 (if i=0 then a else b),.slice none 0 0]:List Value)[j]?);rcases (show i=0∨i=1 by omega) with rfl | rfl<;>rcases (show j=0∨j=1∨j=2 by omega) with rfl | rfl | rfl<;>exact aa hn rfl
 ·have A:i<2:=hi
  rcases (show i=0∨i=1 by omega) with rfl | rfl
  ·exact ⟨⟨none,0,rfl,TxtAt.nil _ _⟩,ha⟩
  ·exact ⟨⟨none,0,rfl,TxtAt.nil _ _⟩,hb⟩
theorem pz {P:Prop} {G:Nat→Nat→Option Addr→Nat→World→Prop} (T:Nat→Nat→Option Addr→Nat→World→Prop) (h1:(∀a b p c w,T a b p c w→G a b p c w)→P) (h2:∀a b p c w,T a b p c w→G a b p c w):P:=h1 h2
theorem oW {S:Nat→Prop} {w:World} {v:Value} {l:List Fn} (h:RepFns S w v l):∃s c,v=.slice s l.length c:=by
 obtain ⟨_,⟨s,c,e,_⟩,_⟩:=h;exact ⟨s,c,e⟩
theorem lC {C:Array Value} {t:TypeId} {fz:Nat×Nat} (s:List UInt8) (n:Nat) (F:List Fn) (w:World) (hf:cU s=.ok F) (hn:s.length=n) (h2:(n:Int)≤100000) (ha:C=(s.map fun b=>Value.int .u8 (b.toNat:Int)).toArray) :
    Calls Tryz.prog 11 #[.slice (some ⟨w.heap.size,0,none⟩) n n] (w.alloc (.cells C t fz)) fun e w'=>∃sv cv,e=.returned (.tuple #[.agg #[.slice sv F.length cv],.int .i64 0,.int .i64 0])∧RepFns Any w' (.slice sv F.length cv) F∧Below w.heap.size w w':=by
 subst hn
 have hs:SrcAt (w.alloc (.cells C t fz)) (some ⟨w.heap.size,0,none⟩) s:=fun _=>by
  refine ⟨_,0,rfl,by rw [ah];exact Nat.lt_succ_self _,fun i hi=>?_⟩;rw [Nat.zero_add];refine aa (aj _ _ _ rfl) ?_;subst ha;simp [hi,List.getD_eq_getElem?_getD]
 refine (lB (some ⟨w.heap.size,0,none⟩) s.length s _ hs (by omega) (Nat.le_refl _)).mono ?_;rintro e w1 ⟨A,D⟩;rw [hf] at A;obtain ⟨v,rfl,B⟩:=A;obtain ⟨sv,cv,rfl⟩:=oW B;have hb:Below w.heap.size w (w.alloc (.cells C t fz)):=ag (Below.refl _ _) _;exact ⟨sv,cv,rfl,B.mono fun _ _=>trivial,hb.trans (D.mono hb.size)⟩
end
section
open Go.RowKit
attribute [local go_sem ↓] Go.wp_at_zero Go.wp_at_succ
def zZ:List UInt8:=[102,110,32,102,40,97,58,32,105,110,116,41,58,32,105,110,116,32,123,32,114,101,116,117,114,110,32,97,32,47,32,48,59,32,125,32,102,110,32,103,40,97,58,32,105,110,116,41,58,32,105,110,116,32,123,32,114,101,116,117,114,110,32,97,32,43,32,49,59,32,125]
def ui:List Fn:=match cU zZ with
 | .ok l=>l
 | .error _=>[]
theorem nU:cU zZ=.ok ui:=by kernel_rfl
theorem ys:bA ui ⟨#[102]⟩ [⟨1,0,[]⟩] 100 ⟨[],[]⟩=(⟨noV,2,4⟩,⟨[],[]⟩):=by kernel_rfl
theorem zu:bA ui ⟨#[103]⟩ [⟨1,4,[]⟩] 100 ⟨[],[]⟩=(⟨aB 5,0,4⟩,⟨[],[]⟩):=by kernel_rfl
theorem tw:∃F,cU zZ=.ok F∧(gK F≤2048∧gF F∧(bL F).1=0)∧bA F ⟨#[102]⟩ [⟨1,0,[]⟩] 100 ⟨[],[]⟩=(⟨noV,2,4⟩,⟨[],[]⟩)∧bA F ⟨#[103]⟩ [⟨1,4,[]⟩] 100 ⟨[],[]⟩=(⟨aB 5,0,4⟩,⟨[],[]⟩):=
 ⟨ui,nU,fc nU,ys,zu⟩
theorem jF (w:World):Calls Tryz.prog 10 #[] w fun e w'=>e=.returned (.bool true)∧Below w.heap.size w w':=by
 obtain ⟨F,V,T,R,Q⟩:=tw;have f:=zh T;have r:=zh R;have q:=zh Q;have s:=zh V;clear T R Q V;have x:=fun w C n c=>Lib.run_convert_bytes_const (P:=Tryz.prog) w 30 5 C n c (by kernel_rfl) (by kernel_rfl);go_enter Tryz.func10,Tryz.ntmps10
 go_wp2_with fail
 refine Calls.mono (lC zZ 71 F w s.o (by kernel_rfl) (by decide) (by kernel_rfl)) ?_;rintro e w1 ⟨sv,cv,rfl,B,X⟩;have K:=zh (B.keep (Stays.of_below (ag (Below.refl w1.heap.size w1) (.cells #[.slice sv F.length cv] 26))));have L:Hd ((w1.alloc (.cells #[.slice sv F.length cv] 26)).heap[w1.heap.size]?=some (.cells #[.slice sv F.length cv] 26 (0,0))):=zh (aj _ _ _ rfl);have t:Hd (Below w.heap.size w (w1.alloc (.cells #[.slice sv F.length cv] 26))):=zh (ag X _);generalize F.length=hn at *;clear B X;go_upto_region 2 with fail
 generalize w1.alloc (.cells #[.slice sv hn cv] 26)=w2 at *;generalize w1.heap.size=PB at *;have m:=zh (ji (S:=Any) (l:=[]) w2 PrsAt.nil (by decide));go_wp2_with fail
 refine m.o.mono ?_;rintro e w3 ⟨W,N⟩;rw [if_pos (show aV []=true by rfl)] at N;obtain ⟨JB,rfl,O,hj⟩:=N;have J:=zh (RnS.made L.o K.o t.o W hj O);generalize w2.heap.size=D at *;generalize w3.heap.size=U at *;clear W hj O;have p0:=aa J.o.p (j:=0) (u:=.slice sv hn cv) rfl;have A:=af J.o.p;have d:=zh (J.o.below (ag (Below.refl w3.heap.size w3) (.cells #[.int .i64 1,.int .i64 0,.slice none 0 0] 35)));have G:=zh (d.o.calls f.o ⟨#[102]⟩ 100 (by constructor<;>decide) (ArAt.one w3 1 0 (by constructor<;>decide)) (by decide) r.o);go_wp2_with fail
 refine G.o.mono ?_;rintro e w5 hs;have k:Hd (RnS D U JB 100000 w w5 PB (.slice sv hn cv) F ⟨[],[]⟩):=zh (d.o.run hs);obtain ⟨p,c,he,_⟩:=hs;obtain rfl:e=.returned (.agg #[.int .i64 0,.int .i64 0,.slice p 0 c,.int .i64 2,.int .i64 4]):=he;clear p0 A;have b:Hd ((w5.alloc (.cells #[.int .i64 0,.int .i64 0,.slice p 0 c,.int .i64 2,.int .i64 4] 38)).heap[w5.heap.size]?=some (.cells #[.int .i64 0,.int .i64 0,.slice p 0 c,.int .i64 2,.int .i64 4] 38 (0,0))):=zh (aj _ _ _ rfl);have I:=zh (k.o.below (ag (Below.refl w5.heap.size w5) (.cells #[.int .i64 0,.int .i64 0,.slice p 0 c,.int .i64 2,.int .i64 4] 38)));go_upto_region 6 with fail
 generalize w5.alloc (.cells #[.int .i64 0,.int .i64 0,.slice p 0 c,.int .i64 2,.int .i64 4] 38)=w6 at *;generalize w5.heap.size=XB at *;have p0:=aa I.o.p (j:=0) (u:=.slice sv hn cv) rfl;have A:=af I.o.p;have H:=zh (I.o.below (ag (Below.refl w6.heap.size w6) (.cells #[.int .i64 1,.int .i64 4,.slice none 0 0] 35)));have g:=zh (((ag (Below.refl w6.heap.size w6) (.cells #[.int .i64 1,.int .i64 4,.slice none 0 0] 35)).block _ (af b.o)).trans b.o);have E:=zh (H.o.calls f.o ⟨#[103]⟩ 100 (by constructor<;>decide) (ArAt.one w6 1 4 (by constructor<;>decide)) (by decide) q.o);go_wp2_with fail
 refine E.o.mono ?_;rintro e w8 hs;have i:Hd (RnS D U JB 200000 w w8 PB (.slice sv hn cv) F ⟨[],[]⟩):=zh (H.o.run hs);obtain ⟨p2,c2,he,_,_,_,M⟩:=hs;obtain rfl:e=.returned (.agg #[.int .i64 1,.int .i64 5,.slice p2 0 c2,.int .i64 0,.int .i64 4]):=he;have a:=zh (dZ M H.o.jo g.o (by decide) (by decide));clear p0 A M;have Y:Hd ((w8.alloc (.cells #[.int .i64 1,.int .i64 5,.slice p2 0 c2,.int .i64 0,.int .i64 4] 38)).heap[w8.heap.size]?=some (.cells #[.int .i64 1,.int .i64 5,.slice p2 0 c2,.int .i64 0,.int .i64 4] 38 (0,0))):=zh (aj _ _ _ rfl);have Z:=zh (((ag (Below.refl w8.heap.size w8) (.cells #[.int .i64 1,.int .i64 5,.slice p2 0 c2,.int .i64 0,.int .i64 4] 38)).block _ (af a.o)).trans a.o);have h:=zh (i.o.below (ag (Below.refl w8.heap.size w8) (.cells #[.int .i64 1,.int .i64 5,.slice p2 0 c2,.int .i64 0,.int .i64 4] 38)));go_upto_region 7 with fail
 generalize w8.alloc (.cells #[.int .i64 1,.int .i64 5,.slice p2 0 c2,.int .i64 0,.int .i64 4] 38)=w9 at *;generalize w8.heap.size=YB at *;have x3:=aa Z.o (j:=3) (u:=.int .i64 2) rfl;have x4:=aa Z.o (j:=4) (u:=.int .i64 4) rfl;have y1:=aa Y.o (j:=1) (u:=.int .i64 5) rfl;have y4:=aa Y.o (j:=4) (u:=.int .i64 4) rfl;go_wp2_with fail
 exact bodyPost_ret (v:=.bool true) (by simp [results,Tryz.results10,go_sem]) rfl ⟨rfl,h.o.on⟩
end
end Go.Proofs.YthgcpfkochikfaaGreat
