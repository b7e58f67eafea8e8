/-
  EvalSigns: part 42 of its proof: see the last text.
-/
import Derived.Test.YthgcpfkochikfaaGreatPs39
import Derived.Test.YthgcpfkochikfaaGreatPs20
import Derived.Test.YthgcpfkochikfaaGreatRows
import Derived.Test.YthgcpfkochikfaaGreatPs00
import Derived.Test.YthgcpfkochikfaaGreatPs40
import Derived.Test.YthgcpfkochikfaaGreatPs41
import Derived.KernelRfl
import Derived.Lib.SlBytesConst
import Derived.Test.YthgcpfkochikfaaGreatPs29
set_option maxRecDepth 100000
set_option maxHeartbeats 16000000
namespace Go.Proofs.YthgcpfkochikfaaGreat
section
open Go.RowKit
theorem qv {α:Type} (en:Int) (one:Par α):∀(f:Nat) (first:Bool) (A:List α) (l:List Tk) (xs:List α) (r:List Tk),eL en one f first A l=.ok (xs,r)→xs.length≤A.length+f
 | 0,_,_,_,_,_,e=>by cases e
 | f+1,first,A,l,xs,r,e=>by
  unfold eL at e;split at e
  ·cases e;omega
  ·obtain ⟨_,q,_,e⟩:=aK e
   obtain ⟨x,q2,_,e⟩:=aK e;have:=qv en one f _ _ _ _ _ e;simp at this
   omega
theorem xd (en:Int) (l:List Tk) (x:Fn) (r:List Tk) (e:gw en l=.ok (x,r)):x.params.length≤l.length+1:=by
 unfold gw at e;obtain ⟨_,q1,h1,e⟩:=aK e;obtain ⟨n,q2,h2,e⟩:=aK e;obtain ⟨_,q3,h3,e⟩:=aK e;obtain ⟨ps,q4,h4,e⟩:=aK e;have a1:=aT _ _ _ _ _ h1;have a2:=dG _ _ _ _ h2;have a3:=aT _ _ _ _ _ h3;have a4:=qv _ _ _ _ _ _ _ _ h4
 have hx:x.params=ps:=by
  split at e
  ·obtain ⟨t,q5,_,e⟩:=aK e
   obtain ⟨b,q6,_,e⟩:=aK e
   cases e
   rfl
  ·obtain ⟨b,q6,_,e⟩:=aK e
   cases e
   rfl
 rw [hx];simp at a4
 omega
theorem rJ (en:Int) (B:Nat):∀(f:Nat) (A:List Fn) (l:List Tk) (xs:List Fn) (r:List Tk),(∀x,x∈A→x.params.length≤B)→l.length+1≤B→gi en f A l=.ok (xs,r)→∀x,x∈xs→x.params.length≤B
 | 0,A,l,xs,r,ha,hl,e=>by cases e;exact ha
 | f+1,A,l,xs,r,ha,hl,e=>by
  unfold gi at e;split at e
  ·cases e;exact ha
  ·rename_i tk tr
   obtain ⟨x,q,h1,e⟩:=aK e;have a1:=lN _ _ _ _ h1;have a2:=xd _ _ _ _ h1;refine rJ en B f _ _ _ _ (fun y hy=>?_) (by omega) e;rcases List.mem_append.1 hy with hy | hy
   ·exact ha y hy
   ·rw [List.mem_singleton] at hy
    subst hy;omega
theorem uO {s:List UInt8} {l:List Fn} (h:dX s=.ok l):∀f,f∈l→f.params.length≤2049:=by
 unfold dX at h;split at h
 ·cases h
 ·rename_i tk ht
  have A:=qR ht;split at h
  ·cases h
  ·rename_i x r hp
   cases h
   exact rJ _ 2049 _ _ _ _ _ (fun x hx=>by cases hx) (by omega) hp
theorem wQ {s:List UInt8} {er p:Int} (h:dX s=.error (er,p)):cY s=.error (er,p):=by
 unfold cY;rw [h]
theorem xC {s:List UInt8} {l:List Fn} {ca:Int} (h:dX s=.ok l) (hq:bL l=(0,ca)):cY s=.ok l:=by
 unfold cY;rw [h];simp [hq]
theorem vn {s:List UInt8} {l:List Fn} {ce ca:Int} (h:dX s=.ok l) (hq:bL l=(ce,ca)) (hz:¬ce=0):cY s=.error (ce,ca):=by
 unfold cY;rw [h];simp [hq,hz]
theorem oY (s0:Option Addr) (cap:Nat) (s:List UInt8) (w:World) (hs:SrcAt w s0 s) (hl:s.length≤1152921504606846976) (hc:s.length≤cap) :
    Calls Tryz.prog 11 #[.slice s0 s.length cap] w (lD w (cY s)):=by
 have A:Hd ((w.alloc (.cells #[.slice none 0 0] 26)).heap[w.heap.size]?=some (.cells #[.slice none 0 0] 26 (0,0))):=zh (aj _ _ _ rfl);have N:Below w.heap.size w (w.alloc (.cells #[.slice none 0 0] 26)):=ag (Below.refl _ _) _;have U:=zh (wK s0 cap s _ (hs.later N) hl hc);have HB:=zh N;clear N hs;generalize hR:cY s=R;have HR:=zh hR.symm;clear hR;go_enter Tryz.func11,Tryz.ntmps11
 go_upto_region 1 with fail
 generalize (w.alloc (.cells #[.slice none 0 0] 26))=w1 at *;have W:Hd (w.heap.size<w1.heap.size):=zh (af A.o);have X:Hd (w.heap.size≤w1.heap.size):=zh HB.o.size;generalize G:w.heap.size=RB at *;go_wp2_with fail
 refine U.o.mono ?_;rintro e w2 ⟨C,J⟩;replace A:=zh ((J.block _ (af A.o)).trans A.o);have K:=zh (Nat.le_of_lt (af A.o));replace HB:=zh (HB.o.trans (J.mono (by rw [←G];exact HB.o.size)));have P:=zh J;clear J
 cases hpt:dX s with
 | error er =>
  obtain ⟨er,p⟩:=er;rw [hpt] at C;obtain ⟨Q,rfl⟩:=C;have M:(er==0)=false:=beq_false_of_ne Q;have L:=zh Q;have H:=zh hpt;clear hpt;go_upto_region 2 with fail
  replace A:Hd ((w2.alloc (.cells #[.slice none 0 0] 26)).heap[RB]?=_):=zh (ax _ _ _ _ A.o);replace HB:Hd (Below RB w (w2.alloc (.cells #[.slice none 0 0] 26))):=zh (HB.o.trans ((ag (Below.refl _ _) _).mono K.o));clear U K P;generalize (w2.alloc (.cells #[.slice none 0 0] 26))=w3 at *;have HE:=zh (HR.o.trans (wQ H.o));have r0:w3.cell? ⟨RB,0,none⟩=some (.slice none 0 0):=aa A.o (j:=0) rfl;have k0:w3.frozen? ⟨RB,0,none⟩=false:=ae A.o 0;go_wp2_with fail
  refine bodyPost_ret (v:=.tuple #[.agg #[.slice none 0 0],.int .i64 er,.int .i64 p]) (by simp [results,Tryz.results11,go_sem,r0]) rfl ?_;rw [HE.o];exact ⟨⟨L.o,rfl⟩,by rw [G];exact HB.o.setCell (p:=⟨RB,0,none⟩) (Nat.le_refl _) _⟩
 | ok l =>
  rw [hpt] at C;obtain ⟨v,rfl,D⟩:=C;have H:=zh hpt;have B:=zh D;clear hpt D;obtain ⟨sv,nv,cv,rfl⟩:∃s n c,v=.slice s n c:=by obtain ⟨cs,⟨a,b,e,_⟩,_⟩:=B.o;exact ⟨_,_,_,e⟩
  go_upto_region 2 with fail
  have F:Below w2.heap.size w2 (w2.alloc (.cells #[.slice sv nv cv] 26)):=ag (Below.refl _ _) _;have I:Hd ((w2.alloc (.cells #[.slice sv nv cv] 26)).heap[w2.heap.size]?=some (.cells #[.slice sv nv cv] 26 (0,0))):=zh (aj _ _ _ rfl);replace A:=zh ((F.block _ (af A.o)).trans A.o);replace B:=zh (B.o.keep (Stays.of_below F));replace HB:=zh (HB.o.trans (F.mono K.o));have O:=zh F.size;clear F;generalize (w2.alloc (.cells #[.slice sv nv cv] 26))=w3 at *;generalize w2.heap.size=PB at *;have V:=zh (rM l (fun f hf=>Nat.le_trans (uO H.o f hf) (by decide)) w3 (.slice sv nv cv) (B.o.mono (fun _ _=>trivial)));generalize T:bL l=q at *;obtain ⟨ce,ca⟩:=q;have HQ:=zh T;clear T;dsimp only at V;have p0:w3.cell? ⟨PB,0,none⟩=some (.slice sv nv cv):=aa I.o (j:=0) rfl;go_wp2_with fail
  refine V.o.mono ?_;rintro e w4 ⟨rfl,E⟩;clear p0;replace A:=zh ((E.block _ (af A.o)).trans A.o);replace I:=zh ((E.block _ (af I.o)).trans I.o);replace B:=zh (B.o.keep (Stays.of_below E));replace HB:=zh (HB.o.trans (E.mono (Nat.le_trans K.o O.o)));have Y:=zh (af A.o);clear E;by_cases hz:ce=0
  ·subst hz
   have HE:=zh (HR.o.trans (xC H.o HQ.o));have p0:w4.cell? ⟨PB,0,none⟩=some (.slice sv nv cv):=aa I.o (j:=0) rfl;have r0:w4.cell? ⟨RB,0,none⟩=some (.slice none 0 0):=aa A.o (j:=0) rfl;have k0:w4.frozen? ⟨RB,0,none⟩=false:=ae A.o 0;go_wp2_with fail
   refine bodyPost_ret (v:=.tuple #[.agg #[.slice sv nv cv],.int .i64 0,.int .i64 0]) (by simp [results,Tryz.results11,go_sem,r0]) rfl ?_;rw [HE.o];refine ⟨⟨_,rfl,?_⟩,by rw [G];exact HB.o.setCell (p:=⟨RB,0,none⟩) (Nat.le_refl _) _⟩;refine RepFns.mono (S:=bM w1.heap.size) (B.o.keep (Stays.of_on ((On.refl RB w4).set 0 _) W.o)) (fun b hb=>by show w.heap.size≤b;rw [G];exact Nat.le_trans X.o hb)
  have M:(ce==0)=false:=beq_false_of_ne hz;have L:=zh hz;clear hz;have HE:=zh (HR.o.trans (vn H.o HQ.o L.o));have r0:w4.cell? ⟨RB,0,none⟩=some (.slice none 0 0):=aa A.o (j:=0) rfl;have k0:w4.frozen? ⟨RB,0,none⟩=false:=ae A.o 0;go_wp2_with fail
  refine bodyPost_ret (v:=.tuple #[.agg #[.slice none 0 0],.int .i64 ce,.int .i64 ca]) (by simp [results,Tryz.results11,go_sem,r0]) rfl ?_;rw [HE.o];exact ⟨⟨L.o,rfl⟩,by rw [G];exact HB.o.setCell (p:=⟨RB,0,none⟩) (Nat.le_refl _) _⟩
end
section
open Go.RowKit
attribute [local go_sem ↓] Go.wp_at_zero Go.wp_at_succ
theorem ed (n:Int) (w:World):Calls Tryz.prog 14 #[.int .i64 n] w fun e w'=>e=.returned (.agg #[.int .i64 1,.int .i64 n,.slice none 0 0])∧Below w.heap.size w w':=by
 go_enter Tryz.func14,Tryz.ntmps14
 go_wp2_with fail
 exact bodyPost_ret (v:=.agg #[.int .i64 1,.int .i64 n,.slice none 0 0]) (by simp [results,Tryz.results14,go_sem]) rfl ⟨rfl,by repeat (first | exact Below.refl _ _ | refine dp ?_ (by simp) _ | refine ag ?_ _)⟩
end
section
open Go.RowKit
attribute [local go_sem ↓] Go.wp_at_zero Go.wp_at_succ
theorem RepFns.under {S:Nat→Prop} {w:World} {v:Value} {l:List Fn} (h:RepFns S w v l):RepFns (fun b=>b<w.heap.size) w v l:=by
 obtain ⟨cs,⟨s0,cap,h1,h2,h3,h4,h5,h6⟩,hi⟩:=h;refine ⟨cs,⟨s0,cap,h1,h2,h3,h4,fun h0=>?_,h6⟩,fun i hl=>(hi i hl).lies.mono fun _ q=>q.2⟩;obtain ⟨b,off,e,_,hl,hc⟩:=h5 h0;exact ⟨b,off,e,hl,hl,hc⟩
theorem yJ {B:Nat} {T:Nat→Prop} {w0 w w':World} (h:Below B w0 w) (ho:OnS T w w') (hB:B≤w0.heap.size) (hT:∀k,T k→B≤k):Below B w0 w':=
 h.trans ⟨ho.os,ho.tape,ho.output,ho.size,fun i hi=>ho.block i (Nat.lt_of_lt_of_le hi (Nat.le_trans hB h.size)) fun q=>absurd (hT i q) (Nat.not_le_of_lt hi)⟩
structure RnS (D U JB N:Nat) (w0 w:World) (PB:Nat) (pv:Value) (F:List Fn) (j:Jo):Prop where
 p:w.heap[PB]?=some (.cells #[pv] 26 (0,0))
 rep:RepFns (fun b=>b<D) w pv F
 jo:JAt U w JB j N
 low:w0.heap.size≤D∧D≤JB∧D≤U∧U≤w.heap.size
 on:Below w0.heap.size w0 w
section
variable {D U JB N PB:Nat} {w0 w w':World} {pv:Value} {F:List Fn} {j:Jo}
theorem RnS.cellp (h:RnS D U JB N w0 w PB pv F j):w.cell? ⟨PB,0,none⟩=some pv:=aa h.p rfl
theorem RnS.below (h:RnS D U JB N w0 w PB pv F j) (hb:Below w.heap.size w w'):RnS D U JB N w0 w' PB pv F j:=
 ⟨(hb.block _ (af h.p)).trans h.p,h.rep.keep (Stays.of_below hb),h.jo.below hb,by have:=h.low;have:=hb.size;omega,h.on.trans (hb.mono h.on.size)⟩
theorem tH {k:Nat} (hk:JT JB U w k) (h:D≤JB∧D≤U):D≤k:=by
 rcases hk with q | q
 ·omega
 ·have:=q.1;omega
theorem bW {b:Nat} {A:Array Value} {t:TypeId} (ho:OnS (JT JB U w) w w') (hj:JAt U w JB j N) (h:w.heap[b]?=some (.cells A t (0,0))) (h1:t≠68) (h2:t≠1):w'.heap[b]?=some (.cells A t (0,0)):=
 ho.obj (fun q=>by
   have ht:OfTy w b t:=⟨_,_,h⟩
   rcases q with q | q
   · exact ht.ne hj.ty h1 q
   · exact ht.ne q.2 h2 rfl) h
theorem RnS.run {o:Oc×Jn} {e:Ending} (h:RnS D U JB N w0 w PB pv F j) (hs:jB U JB N D w o e w'):RnS D U JB (N+100000) w0 w' PB pv F ⟨o.2.pairs,o.2.undo⟩:=by
 obtain ⟨p,c,_,_,_,hj,ho⟩:=hs;have hl:=h.low
 exact ⟨bW ho h.jo h.p (by decide) (by decide),h.rep.keep (ho.stays fun b hb q=>absurd (tH q ⟨hl.2.1,hl.2.2.1⟩) (Nat.not_le_of_lt hb)),hj,by have:=ho.size;omega,
   yJ h.on ho (Nat.le_refl _) fun k q=>Nat.le_trans hl.1 (tH q ⟨hl.2.1,hl.2.2.1⟩)⟩
theorem RnS.calls {vs:List Vv} {av:Value} (h:RnS D U JB N w0 w PB pv F j) (hg:gS F≤2048∧gC F∧(bL F).1=0) (nm:ByteArray) (limit:Int) (hl:bf limit) (ha:ArAt D w av vs) (hN:N≤1000000) {o:Oc×Jn} (ho:bK F nm vs limit ⟨j.pairs,j.undo⟩=o) :
    Calls Tryz.prog 13 #[.agg #[pv],.string nm,av,.pointer (some ⟨JB,0,none⟩),.int .i64 limit] w (jB U JB N D w o):=
 ho▸Bk nm limit w hl h.rep (fun _=>⟨hg.2.1,Nat.le_trans hg.1 (by decide)⟩) (fun f hf=>Nat.le_trans ((rH hg.2.2 hg.2.1).2 f hf).2 (by decide)) ha h.jo ⟨h.low.2.1,h.low.2.2.1,h.low.2.2.2,hN⟩
theorem RnS.made {S:Nat→Prop} (hp:w.heap[PB]?=some (.cells #[pv] 26 (0,0))) (hr:RepFns S w pv F) (hb:Below w0.heap.size w0 w) (h2:Below w.heap.size w w') (hj:∀U N,JAt U w' JB j N) (hl:w.heap.size≤JB):RnS w.heap.size w'.heap.size JB 0 w0 w' PB pv F j:=
 ⟨(h2.block _ (af hp)).trans hp,hr.under.keep (Stays.of_below h2),hj _ _,⟨hb.size,hl,h2.size,Nat.le_refl _⟩,hb.trans (h2.mono hb.size)⟩
end
theorem ArAt.one {D:Nat} (w:World) (ty n:Int) (hn:bf n):ArAt D (w.alloc (.cells #[.int .i64 ty,.int .i64 n,.slice none 0 0] 35)) (.slice (some ⟨w.heap.size,0,none⟩) 1 1) [⟨ty,n,[]⟩]:=by
 refine ⟨fun _=>[.int .i64 ty,.int .i64 n,.slice none 0 0],⟨_,1,rfl,Nat.le_refl _,by decide,(fun h=>by cases h),fun _=>⟨w.heap.size,0,rfl,.inr ⟨_,_,aj _ _ _ rfl⟩,by rw [ah];exact Nat.lt_succ_self _,fun i hi j hj=>?_⟩,fun _ _=>rfl⟩,fun i hi=>?_⟩
 ·obtain rfl:i=0:=by have h:i<1:=hi;omega
  have:=aj w (.cells #[.int .i64 ty,.int .i64 n,.slice none 0 0] 35) _ rfl;rw [Nat.zero_mul,Nat.zero_add];show _=([.int .i64 ty,.int .i64 n,.slice none 0 0]:List Value)[j]?
  obtain ⟨u,hu⟩:∃u,([.int .i64 ty,.int .i64 n,.slice none 0 0]:List Value)[j]?=some u:=⟨_,List.getElem?_eq_getElem hj⟩
  rw [hu];exact aa this (by simpa using hu)
 ·obtain rfl:i=0:=by have h:i<1:=hi;omega
  exact ⟨⟨none,0,rfl,TxtAt.nil _ _⟩,hn⟩
theorem ArAt.two {D:Nat} (w:World) (a b:Int) (ha:bf a) (hb:bf b):ArAt D (w.alloc (.cells #[.int .i64 1,.int .i64 a,.slice none 0 0,.int .i64 1,.int .i64 b,.slice none 0 0] 35)) (.slice (some ⟨w.heap.size,0,none⟩) 2 2) [aB a,aB b]:=by
 have hn:=aj w (.cells #[.int .i64 1,.int .i64 a,.slice none 0 0,.int .i64 1,.int .i64 b,.slice none 0 0] 35) _ rfl;refine ⟨fun i=>[.int .i64 1,.int .i64 (if i=0 then a else b),.slice none 0 0],⟨_,2,rfl,Nat.le_refl _,by decide,(fun h=>by cases h),fun _=>⟨w.heap.size,0,rfl,.inr ⟨_,_,hn⟩,by rw [ah];exact Nat.lt_succ_self _,fun i hi j hj=>?_⟩,fun _ _=>rfl⟩,fun i hi=>?_⟩
 ·have A:i<2:=hi
  refine (?_:_=([.int .i64 1,.int .i64 (if i=0 then a else b),.slice none 0 0]:List Value)[j]?);rcases (show i=0∨i=1 by omega) with rfl | rfl<;>rcases (show j=0∨j=1∨j=2 by omega) with rfl | rfl | rfl<;>exact aa hn rfl
 ·have A:i<2:=hi
  rcases (show i=0∨i=1 by omega) with rfl | rfl
  ·exact ⟨⟨none,0,rfl,TxtAt.nil _ _⟩,ha⟩
  ·exact ⟨⟨none,0,rfl,TxtAt.nil _ _⟩,hb⟩
theorem Bf {P:Prop} {G:Nat→Nat→Option Addr→Nat→World→Prop} (T:Nat→Nat→Option Addr→Nat→World→Prop) (h1:(∀a b p c w,T a b p c w→G a b p c w)→P) (h2:∀a b p c w,T a b p c w→G a b p c w):P:=h1 h2
theorem lu {S:Nat→Prop} {w:World} {v:Value} {l:List Fn} (h:RepFns S w v l):∃s c,v=.slice s l.length c:=by
 obtain ⟨_,⟨s,c,e,_⟩,_⟩:=h;exact ⟨s,c,e⟩
theorem oF {C:Array Value} {t:TypeId} {fz:Nat×Nat} (s:List UInt8) (n:Nat) (F:List Fn) (w:World) (hf:cY s=.ok F) (hn:s.length=n) (h2:(n:Int)≤100000) (ha:C=(s.map fun b=>Value.int .u8 (b.toNat:Int)).toArray) :
    Calls Tryz.prog 11 #[.slice (some ⟨w.heap.size,0,none⟩) n n] (w.alloc (.cells C t fz)) fun e w'=>∃sv cv,e=.returned (.tuple #[.agg #[.slice sv F.length cv],.int .i64 0,.int .i64 0])∧RepFns Any w' (.slice sv F.length cv) F∧Below w.heap.size w w':=by
 subst hn
 have hs:SrcAt (w.alloc (.cells C t fz)) (some ⟨w.heap.size,0,none⟩) s:=fun _=>by
  refine ⟨_,0,rfl,by rw [ah];exact Nat.lt_succ_self _,fun i hi=>?_⟩;rw [Nat.zero_add];refine aa (aj _ _ _ rfl) ?_;subst ha;simp [hi,List.getD_eq_getElem?_getD]
 refine (oY (some ⟨w.heap.size,0,none⟩) s.length s _ hs (by omega) (Nat.le_refl _)).mono ?_;rintro e w1 ⟨A,D⟩;rw [hf] at A;obtain ⟨v,rfl,B⟩:=A;obtain ⟨sv,cv,rfl⟩:=lu B;have hb:Below w.heap.size w (w.alloc (.cells C t fz)):=ag (Below.refl _ _) _;exact ⟨sv,cv,rfl,B.mono fun _ _=>trivial,hb.trans (D.mono hb.size)⟩
end
section
open Go.RowKit
attribute [local go_sem ↓] Go.wp_at_zero Go.wp_at_succ
def zO:List UInt8:=[102,110,32,102,40,97,58,32,105,110,116,41,58,32,105,110,116,32,123,32,114,101,116,117,114,110,32,97,32,47,32,48,59,32,125,32,102,110,32,103,40,97,58,32,105,110,116,41,58,32,105,110,116,32,123,32,114,101,116,117,114,110,32,97,32,43,32,49,59,32,125]
def tS:List Fn:=match cY zO with
 | .ok l=>l
 | .error _=>[]
theorem nC:cY zO=.ok tS:=by kernel_rfl
theorem wY:bK tS ⟨#[102]⟩ [⟨1,0,[]⟩] 100 ⟨[],[]⟩=(⟨noV,2,4⟩,⟨[],[]⟩):=by kernel_rfl
theorem xl:bK tS ⟨#[103]⟩ [⟨1,4,[]⟩] 100 ⟨[],[]⟩=(⟨aB 5,0,4⟩,⟨[],[]⟩):=by kernel_rfl
theorem tP:∃F,cY zO=.ok F∧(gS F≤2048∧gC F∧(bL F).1=0)∧bK F ⟨#[102]⟩ [⟨1,0,[]⟩] 100 ⟨[],[]⟩=(⟨noV,2,4⟩,⟨[],[]⟩)∧bK F ⟨#[103]⟩ [⟨1,4,[]⟩] 100 ⟨[],[]⟩=(⟨aB 5,0,4⟩,⟨[],[]⟩):=
 ⟨tS,nC,jT nC,wY,xl⟩
theorem oC (w:World):Calls Tryz.prog 10 #[] w fun e w'=>e=.returned (.bool true)∧Below w.heap.size w w':=by
 obtain ⟨F,V,T,R,Q⟩:=tP;have f:=zh T;have r:=zh R;have q:=zh Q;have s:=zh V;clear T R Q V;have x:=fun w C n c=>Lib.run_convert_bytes_const (P:=Tryz.prog) w 30 5 C n c (by kernel_rfl) (by kernel_rfl);go_enter Tryz.func10,Tryz.ntmps10
 go_wp2_with fail
 refine Calls.mono (oF zO 71 F w s.o (by kernel_rfl) (by decide) (by kernel_rfl)) ?_;rintro e w1 ⟨sv,cv,rfl,B,X⟩;have K:=zh (B.keep (Stays.of_below (ag (Below.refl w1.heap.size w1) (.cells #[.slice sv F.length cv] 26))));have L:Hd ((w1.alloc (.cells #[.slice sv F.length cv] 26)).heap[w1.heap.size]?=some (.cells #[.slice sv F.length cv] 26 (0,0))):=zh (aj _ _ _ rfl);have t:Hd (Below w.heap.size w (w1.alloc (.cells #[.slice sv F.length cv] 26))):=zh (ag X _);generalize F.length=hn at *;clear B X;go_upto_region 2 with fail
 generalize w1.alloc (.cells #[.slice sv hn cv] 26)=w2 at *;generalize w1.heap.size=PB at *;have m:=zh (me (S:=Any) (l:=[]) w2 PrsAt.nil (by decide));go_wp2_with fail
 refine m.o.mono ?_;rintro e w3 ⟨W,N⟩;rw [if_pos (show a8 []=true by rfl)] at N;obtain ⟨JB,rfl,O,hj⟩:=N;have J:=zh (RnS.made L.o K.o t.o W hj O);generalize w2.heap.size=D at *;generalize w3.heap.size=U at *;clear W hj O;have p0:=aa J.o.p (j:=0) (u:=.slice sv hn cv) rfl;have A:=af J.o.p;have d:=zh (J.o.below (ag (Below.refl w3.heap.size w3) (.cells #[.int .i64 1,.int .i64 0,.slice none 0 0] 35)));have G:=zh (d.o.calls f.o ⟨#[102]⟩ 100 (by constructor<;>decide) (ArAt.one w3 1 0 (by constructor<;>decide)) (by decide) r.o);go_wp2_with fail
 refine G.o.mono ?_;rintro e w5 hs;have k:Hd (RnS D U JB 100000 w w5 PB (.slice sv hn cv) F ⟨[],[]⟩):=zh (d.o.run hs);obtain ⟨p,c,he,_⟩:=hs;obtain rfl:e=.returned (.agg #[.int .i64 0,.int .i64 0,.slice p 0 c,.int .i64 2,.int .i64 4]):=he;clear p0 A;have b:Hd ((w5.alloc (.cells #[.int .i64 0,.int .i64 0,.slice p 0 c,.int .i64 2,.int .i64 4] 38)).heap[w5.heap.size]?=some (.cells #[.int .i64 0,.int .i64 0,.slice p 0 c,.int .i64 2,.int .i64 4] 38 (0,0))):=zh (aj _ _ _ rfl);have I:=zh (k.o.below (ag (Below.refl w5.heap.size w5) (.cells #[.int .i64 0,.int .i64 0,.slice p 0 c,.int .i64 2,.int .i64 4] 38)));go_upto_region 6 with fail
 generalize w5.alloc (.cells #[.int .i64 0,.int .i64 0,.slice p 0 c,.int .i64 2,.int .i64 4] 38)=w6 at *;generalize w5.heap.size=XB at *;have p0:=aa I.o.p (j:=0) (u:=.slice sv hn cv) rfl;have A:=af I.o.p;have H:=zh (I.o.below (ag (Below.refl w6.heap.size w6) (.cells #[.int .i64 1,.int .i64 4,.slice none 0 0] 35)));have g:=zh (((ag (Below.refl w6.heap.size w6) (.cells #[.int .i64 1,.int .i64 4,.slice none 0 0] 35)).block _ (af b.o)).trans b.o);have E:=zh (H.o.calls f.o ⟨#[103]⟩ 100 (by constructor<;>decide) (ArAt.one w6 1 4 (by constructor<;>decide)) (by decide) q.o);go_wp2_with fail
 refine E.o.mono ?_;rintro e w8 hs;have i:Hd (RnS D U JB 200000 w w8 PB (.slice sv hn cv) F ⟨[],[]⟩):=zh (H.o.run hs);obtain ⟨p2,c2,he,_,_,_,M⟩:=hs;obtain rfl:e=.returned (.agg #[.int .i64 1,.int .i64 5,.slice p2 0 c2,.int .i64 0,.int .i64 4]):=he;have a:=zh (bW M H.o.jo g.o (by decide) (by decide));clear p0 A M;have Y:Hd ((w8.alloc (.cells #[.int .i64 1,.int .i64 5,.slice p2 0 c2,.int .i64 0,.int .i64 4] 38)).heap[w8.heap.size]?=some (.cells #[.int .i64 1,.int .i64 5,.slice p2 0 c2,.int .i64 0,.int .i64 4] 38 (0,0))):=zh (aj _ _ _ rfl);have Z:=zh (((ag (Below.refl w8.heap.size w8) (.cells #[.int .i64 1,.int .i64 5,.slice p2 0 c2,.int .i64 0,.int .i64 4] 38)).block _ (af a.o)).trans a.o);have h:=zh (i.o.below (ag (Below.refl w8.heap.size w8) (.cells #[.int .i64 1,.int .i64 5,.slice p2 0 c2,.int .i64 0,.int .i64 4] 38)));go_upto_region 7 with fail
 generalize w8.alloc (.cells #[.int .i64 1,.int .i64 5,.slice p2 0 c2,.int .i64 0,.int .i64 4] 38)=w9 at *;generalize w8.heap.size=YB at *;have x3:=aa Z.o (j:=3) (u:=.int .i64 2) rfl;have x4:=aa Z.o (j:=4) (u:=.int .i64 4) rfl;have y1:=aa Y.o (j:=1) (u:=.int .i64 5) rfl;have y4:=aa Y.o (j:=4) (u:=.int .i64 4) rfl;go_wp2_with fail
 exact bodyPost_ret (v:=.bool true) (by simp [results,Tryz.results10,go_sem]) rfl ⟨rfl,h.o.on⟩
end
section
open Go.RowKit
def bI (r:Rst) (n:Int):Rst:={ r with used:=r.used+n }
theorem dZ {n:Int} {r:Rst} (h:r.used+n≤r.lim):dy n r=.ok () (bI r n):=if_pos (show n≤r.lim-r.used by omega)
theorem aN {α β:Type} {m:RM α} {f:α→RM β} {r q:Rst} {a:α} (h:m r=.ok a q):m.then f r=f a q:=by unfold RM.then;rw [h]
theorem da {α β:Type} {m:RM α} {f:α→RM β} {r q:Rst} {t:Int} (h:m r=.trap t q):m.then f r=.trap t q:=by unfold RM.then;rw [h]
section
variable {call:bT} {σ:List Sc} {r q s:Rst} {x y:Ex} {a b:Vv}
theorem eO (n:Int) (t:ByteArray) (ks:List Ex) (p:Int) (h:r.used+1≤r.lim):bR call σ (.mk 4 n t ks p) r=.ok (fP σ t) (bI r 1):=by
 rw [bR,aN (dZ h)];rfl
theorem nR (n:Int) (t:ByteArray) (ks:List Ex) (p:Int) (h:r.used+1≤r.lim) (hx:bR call σ x (bI r 1)=.ok a q) (hy:bR call σ y q=.ok b s) (h1:t.toList≠kw) (h2:t.toList≠cOr) (h3:¬(t.toList=[43]∧a.ty=3)) :
    bR call σ (.mk 6 n t (x :: y :: ks) p) r=bX (cJ t.toList a b) s:=by
 rw [bR,aN (dZ h)]
 have e:iA call σ t (x :: y :: ks) (bI r 1)=bX (cJ t.toList a b) s:=by
  rw [iA,aN hx,if_neg (by simp [iX,h1,h2]),aN hy];unfold gT;rw [if_neg (by simp [h1,h2]),if_neg h3];rfl
 exact e
theorem Ai:bA call σ [] r=.ok [] r:=by rw [bA];rfl
theorem hZ (h:bR call σ x r=.ok a q):bA call σ [x] r=.ok [a] q:=by
 rw [bA,aN h,aN Ai];rfl
theorem uC (h:bR call σ x r=.ok a q) (g:bR call σ y q=.ok b s):bA call σ [x,y] r=.ok [a,b] s:=by
 rw [bA,aN h,aN (hZ g)];rfl
theorem tF:aG call [] σ r=.ok (none,σ) r:=by rw [aG];rfl
theorem ny {z:St} {l:List St} {v:Vv} {σ':List Sc} (h:bU call z σ r=.ok (some v,σ') q):aG call (z :: l) σ r=.ok (some v,σ') q:=by
 rw [aG,aN h];rfl
theorem jI {z:St} {l:List St} {σ':List Sc} (h:bU call z σ r=.ok (none,σ') q):aG call (z :: l) σ r=aG call l σ' q:=by
 rw [aG,aN h];rfl
theorem pS {z:St} {l:List St} {t:Int} (h:bU call z σ r=.trap t q):aG call (z :: l) σ r=.trap t q:=by
 rw [aG,da h]
end
def nA:ByteArray:=⟨#[97]⟩
def nB:ByteArray:=⟨#[98]⟩
def nF:ByteArray:=⟨#[102]⟩
end
section
open Go.RowKit
theorem tY (n:Int):¬(aB n).ty=3:=show ¬(1:Int)=3 by decide
section
variable {call:bT} {r q:Rst} {n:Int}
end
theorem l8 {p:Vv×Int} {r:Rst} (h:p.2=0):bX p r=.ok p.1 r:=if_pos h
theorem nT {p:Vv×Int} {r:Rst} (h:¬p.2=0):bX p r=.trap p.2 r:=if_neg h
theorem yF {s:List UInt8} {a b:Int} (h:(cJ s (aB a) (aB b)).2≠0):(cJ s (aB a) (aB b)).1=noV:=by
 have e:cJ s (aB a) (aB b)=eK s a b:=rfl;rw [e] at h ⊢;unfold eK inV iz at h ⊢;repeat' split
 all_goals simp_all
def gA (s:ByteArray):Fn:=⟨nF,[(nA,1),(nB,1)],1,[.mk 5 ⟨#[]⟩ [.mk 6 0 s [.mk 4 0 nA [] 35,.mk 4 0 nB [] 39] 37] [] [] 28],0⟩
theorem vy {s:ByteArray} {c:UInt8} (hs:s.toList=[c]) (a b:Int) (hc:(bL [gA s]).1=0) :
    bK [gA s] nF [aB a,aB b] 100 ⟨[],[]⟩=(⟨(cJ [c] (aB a) (aB b)).1,(cJ [c] (aB a) (aB b)).2,4⟩,⟨[],[]⟩):=by
 have hf:eP [aB a,aB b] (gA s).params=true:=rfl;have ef:cD [gA s] nF=some (gA s):=rfl;unfold bK;rw [if_neg (by rw [hc];decide),ef];dsimp only;rw [if_pos hf];have em:max 0 (min (100:Int) 100000)=100:=rfl
 have e0:∀call:bT,bR call [[(nA,aB a),(nB,aB b)]] (.mk 6 0 s [.mk 4 0 nA [] 35,.mk 4 0 nB [] 39] 37) ⟨100,1,[],[]⟩=bX (cJ [c] (aB a) (aB b)) ⟨100,4,[],[]⟩:=fun call=>by
  have g:fP [[(nA,aB a),(nB,aB b)]] nA=aB a:=rfl;rw [nR 0 s [] 37 (by decide) (eO 0 nA [] 35 (by decide)) (eO 0 nB [] 39 (by decide)) (by rw [hs];simp [kw]) (by rw [hs];simp [cOr]) (fun q=>by rw [g] at q;exact tY _ q.2),hs];rfl
 have e1:∀call:bT,bU call (.mk 5 ⟨#[]⟩ [.mk 6 0 s [.mk 4 0 nA [] 35,.mk 4 0 nB [] 39] 37] [] [] 28) [[(nA,aB a),(nB,aB b)]] ⟨100,0,[],[]⟩=((bX (cJ [c] (aB a) (aB b))).then fun v=>okM (some v,[[(nA,aB a),(nB,aB b)]])) ⟨100,4,[],[]⟩:=fun call=>by
  rw [bU,aN (dZ (by decide))];have e2:bR call [[(nA,aB a),(nB,aB b)]] (.mk 6 0 s [.mk 4 0 nA [] 35,.mk 4 0 nB [] 39] 37) (bI ⟨100,0,[],[]⟩ 1)=bX (cJ [c] (aB a) (aB b)) ⟨100,4,[],[]⟩:=e0 call;by_cases h:(cJ [c] (aB a) (aB b)).2=0
  ·rw [l8 h] at e2
   rw [aN (hZ e2),aN (l8 h)];rfl
  ·rw [nT h] at e2
   rw [da (nT h)]
   have e3:bA call [[(nA,aB a),(nB,aB b)]] [.mk 6 0 s [.mk 4 0 nA [] 35,.mk 4 0 nB [] 39] 37] (bI ⟨100,0,[],[]⟩ 1)=.trap (cJ [c] (aB a) (aB b)).2 ⟨100,4,[],[]⟩:=by
    rw [bA];exact da e2
   exact da e3
 have e4:aF [gA s] 16 nF [aB a,aB b] ⟨100,0,[],[]⟩=((aG (aF [gA s] 15) [.mk 5 ⟨#[]⟩ [.mk 6 0 s [.mk 4 0 nA [] 35,.mk 4 0 nB [] 39] 37] [] [] 28] [[(nA,aB a),(nB,aB b)]]).then fun p=>okM (p.1.getD noV)) ⟨100,0,[],[]⟩:=rfl;rw [em,e4];by_cases h:(cJ [c] (aB a) (aB b)).2=0
 ·have e5:=e1 (aF [gA s] 15)
  rw [aN (l8 h)] at e5;rw [aN (ny e5),h];rfl
 ·have e5:=e1 (aF [gA s] 15)
  rw [da (nT h)] at e5;rw [da (pS e5),yF h]
end
end Go.Proofs.YthgcpfkochikfaaGreat
