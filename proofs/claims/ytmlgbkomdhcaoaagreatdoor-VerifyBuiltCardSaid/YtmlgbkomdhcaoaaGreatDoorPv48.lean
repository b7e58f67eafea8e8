/-
  VerifyBuilt: part 48 of its proof: see the last text.
-/
import Derived.Test.YtmlgbkomdhcaoaaGreatDoorPv43
import Derived.Test.YtmlgbkomdhcaoaaGreatDoorPv47
import Derived.Test.YtmlgbkomdhcaoaaGreatDoorPv45
import Derived.Test.YtmlgbkomdhcaoaaGreatDoorPv46
import Derived.KernelRfl
import Derived.Test.YtmlgbkomdhcaoaaGreatDoorPv21
import Derived.Test.YtmlgbkomdhcaoaaGreatDoorPv28
import Derived.Test.YtmlgbkomdhcaoaaGreatDoorPv30
import Derived.Test.YtmlgbkomdhcaoaaGreatDoorCards
import Derived.Lib.LaidTab
import Derived.ChangeArms
import Derived.Test.YtmlgbkomdhcaoaaGreatDoorPv00
import Derived.ProofKit
import Derived.ChangeOld
import Derived.SizedLaws
import Derived.Deep.Slices
import Derived.Test.YtmlgbkomdhcaoaaGreatDoorPv04
set_option maxRecDepth 100000
set_option maxHeartbeats 16000000
namespace Go.Proofs.YtmlgbkomdhcaoaaGreatDoor
section
open Go.RowKit
theorem pR {α:Type} (en:Int) (one:Par α):∀(f:Nat) (A:Bool) (B:List α) (l:List Tk) (xs:List α) (r:List Tk),eU en one f A B l=.ok (xs,r)→xs.length≤B.length+f
 | 0,_,_,_,_,_,e=>by cases e
 | f+1,A,B,l,xs,r,e=>by
  unfold eU at e;split at e
  ·cases e;omega
  ·obtain ⟨_,q,_,e⟩:=aN e
   obtain ⟨x,q2,_,e⟩:=aN e;have:=pR en one f _ _ _ _ _ e;simp at this
   omega
theorem xg (en:Int) (l:List Tk) (x:Fn) (r:List Tk) (e:gy en l=.ok (x,r)):x.params.length≤l.length+1:=by
 unfold gy at e;obtain ⟨_,q1,h1,e⟩:=aN e;obtain ⟨n,q2,h2,e⟩:=aN e;obtain ⟨_,q3,h3,e⟩:=aN e;obtain ⟨ps,q4,h4,e⟩:=aN e;have a1:=aW _ _ _ _ _ h1;have a2:=dX _ _ _ _ h2;have a3:=aW _ _ _ _ _ h3;have a4:=pR _ _ _ _ _ _ _ _ h4
 have hx:x.params=ps:=by
  split at e
  ·obtain ⟨t,q5,_,e⟩:=aN e
   obtain ⟨b,q6,_,e⟩:=aN e
   cases e
   rfl
  ·obtain ⟨b,q6,_,e⟩:=aN e
   cases e
   rfl
 rw [hx];simp at a4
 omega
theorem qz (en:Int) (B:Nat):∀(f:Nat) (A:List Fn) (l:List Tk) (xs:List Fn) (r:List Tk),(∀x,x∈A→x.params.length≤B)→l.length+1≤B→fF en f A l=.ok (xs,r)→∀x,x∈xs→x.params.length≤B
 | 0,A,l,xs,r,ha,hl,e=>by cases e;exact ha
 | f+1,A,l,xs,r,ha,hl,e=>by
  unfold fF at e;split at e
  ·cases e;exact ha
  ·rename_i tk tr
   obtain ⟨x,q,h1,e⟩:=aN e;have a1:=lA _ _ _ _ h1;have a2:=xg _ _ _ _ h1;refine qz en B f _ _ _ _ (fun y hy=>?_) (by omega) e;rcases List.mem_append.1 hy with hy | hy
   ·exact ha y hy
   ·rw [List.mem_singleton] at hy
    subst hy;omega
theorem vz {s:List UInt8} {l:List Fn} (h:dQ s=.ok l):∀f,f∈l→f.params.length≤2049:=by
 unfold dQ at h;split at h
 ·cases h
 ·rename_i tk ht
  have A:=ql ht;split at h
  ·cases h
  ·rename_i x r hp
   cases h
   exact qz _ 2049 _ _ _ _ _ (fun x hx=>by cases hx) (by omega) hp
theorem vo {s:List UInt8} {er p:Int} (h:dQ s=.error (er,p)):ee s=.error (er,p):=by
 unfold ee;rw [h]
theorem wj {s:List UInt8} {l:List Fn} {ca:Int} (h:dQ s=.ok l) (hq:bT l=(0,ca)):ee s=.ok l:=by
 unfold ee;rw [h];simp [hq]
theorem uI {s:List UInt8} {l:List Fn} {ce ca:Int} (h:dQ s=.ok l) (hq:bT l=(ce,ca)) (hz:¬ce=0):ee s=.error (ce,ca):=by
 unfold ee;rw [h];simp [hq,hz]
theorem vM (s0:Option Addr) (cap:Nat) (s:List UInt8) (w:World) (hs:SrcAt w s0 s) (hl:s.length≤1152921504606846976) (hc:s.length≤cap) :
    Calls Tryz.prog 7 #[.slice s0 s.length cap] w (ol w (ee s)):=by
 have A:Hd ((w.alloc (.cells #[.slice none 0 0] 43)).heap[w.heap.size]?=some (.cells #[.slice none 0 0] 43 (0,0))):=zh (am _ _ _ rfl);have N:Below w.heap.size w (w.alloc (.cells #[.slice none 0 0] 43)):=ag (Below.refl _ _) _;have U:=zh (uW s0 cap s _ (hs.later N) hl hc);have HB:=zh N;clear N hs;generalize hR:ee s=R;have HR:=zh hR.symm;clear hR;go_enter Tryz.func7,Tryz.ntmps7
 go_upto_region 1 with fail
 generalize (w.alloc (.cells #[.slice none 0 0] 43))=w1 at *;have W:Hd (w.heap.size<w1.heap.size):=zh (ae A.o);have X:Hd (w.heap.size≤w1.heap.size):=zh HB.o.size;generalize G:w.heap.size=RB at *;go_wp2_with fail
 refine U.o.mono ?_;rintro e w2 ⟨C,J⟩;replace A:=zh ((J.block _ (ae A.o)).trans A.o);have K:=zh (Nat.le_of_lt (ae A.o));replace HB:=zh (HB.o.trans (J.mono (by rw [←G];exact HB.o.size)));have P:=zh J;clear J
 cases hpt:dQ s with
 | error er =>
  obtain ⟨er,p⟩:=er;rw [hpt] at C;obtain ⟨Q,rfl⟩:=C;have M:(er==0)=false:=beq_false_of_ne Q;have L:=zh Q;have H:=zh hpt;clear hpt;go_upto_region 2 with fail
  replace A:Hd ((w2.alloc (.cells #[.slice none 0 0] 43)).heap[RB]?=_):=zh (az _ _ _ _ A.o);replace HB:Hd (Below RB w (w2.alloc (.cells #[.slice none 0 0] 43))):=zh (HB.o.trans ((ag (Below.refl _ _) _).mono K.o));clear U K P;generalize (w2.alloc (.cells #[.slice none 0 0] 43))=w3 at *;have HE:=zh (HR.o.trans (vo H.o));have r0:w3.cell? ⟨RB,0,none⟩=some (.slice none 0 0):=aa A.o (j:=0) rfl;have k0:w3.frozen? ⟨RB,0,none⟩=false:=af A.o 0;go_wp2_with fail
  refine bodyPost_ret (v:=.tuple #[.agg #[.slice none 0 0],.int .i64 er,.int .i64 p]) (by simp [results,Tryz.results7,go_sem,r0]) rfl ?_;rw [HE.o];exact ⟨⟨L.o,rfl⟩,by rw [G];exact HB.o.setCell (p:=⟨RB,0,none⟩) (Nat.le_refl _) _⟩
 | ok l =>
  rw [hpt] at C;obtain ⟨v,rfl,D⟩:=C;have H:=zh hpt;have B:=zh D;clear hpt D;obtain ⟨sv,nv,cv,rfl⟩:∃s n c,v=.slice s n c:=by obtain ⟨cs,⟨a,b,e,_⟩,_⟩:=B.o;exact ⟨_,_,_,e⟩
  go_upto_region 2 with fail
  have F:Below w2.heap.size w2 (w2.alloc (.cells #[.slice sv nv cv] 43)):=ag (Below.refl _ _) _;have I:Hd ((w2.alloc (.cells #[.slice sv nv cv] 43)).heap[w2.heap.size]?=some (.cells #[.slice sv nv cv] 43 (0,0))):=zh (am _ _ _ rfl);replace A:=zh ((F.block _ (ae A.o)).trans A.o);replace B:=zh (B.o.keep (Stays.of_below F));replace HB:=zh (HB.o.trans (F.mono K.o));have O:=zh F.size;clear F;generalize (w2.alloc (.cells #[.slice sv nv cv] 43))=w3 at *;generalize w2.heap.size=PB at *;have V:=zh (qF l (fun f hf=>Nat.le_trans (vz H.o f hf) (by decide)) w3 (.slice sv nv cv) (B.o.mono (fun _ _=>trivial)));generalize T:bT l=q at *;obtain ⟨ce,ca⟩:=q;have HQ:=zh T;clear T;dsimp only at V;have p0:w3.cell? ⟨PB,0,none⟩=some (.slice sv nv cv):=aa I.o (j:=0) rfl;go_wp2_with fail
  refine V.o.mono ?_;rintro e w4 ⟨rfl,E⟩;clear p0;replace A:=zh ((E.block _ (ae A.o)).trans A.o);replace I:=zh ((E.block _ (ae I.o)).trans I.o);replace B:=zh (B.o.keep (Stays.of_below E));replace HB:=zh (HB.o.trans (E.mono (Nat.le_trans K.o O.o)));have Y:=zh (ae A.o);clear E;by_cases hz:ce=0
  ·subst hz
   have HE:=zh (HR.o.trans (wj H.o HQ.o));have p0:w4.cell? ⟨PB,0,none⟩=some (.slice sv nv cv):=aa I.o (j:=0) rfl;have r0:w4.cell? ⟨RB,0,none⟩=some (.slice none 0 0):=aa A.o (j:=0) rfl;have k0:w4.frozen? ⟨RB,0,none⟩=false:=af A.o 0;go_wp2_with fail
   refine bodyPost_ret (v:=.tuple #[.agg #[.slice sv nv cv],.int .i64 0,.int .i64 0]) (by simp [results,Tryz.results7,go_sem,r0]) rfl ?_;rw [HE.o];refine ⟨⟨_,rfl,?_⟩,by rw [G];exact HB.o.setCell (p:=⟨RB,0,none⟩) (Nat.le_refl _) _⟩;refine RepFns.mono (S:=bO w1.heap.size) (B.o.keep (Stays.of_on ((On.refl RB w4).set 0 _) W.o)) (fun b hb=>by show w.heap.size≤b;rw [G];exact Nat.le_trans X.o hb)
  have M:(ce==0)=false:=beq_false_of_ne hz;have L:=zh hz;clear hz;have HE:=zh (HR.o.trans (uI H.o HQ.o L.o));have r0:w4.cell? ⟨RB,0,none⟩=some (.slice none 0 0):=aa A.o (j:=0) rfl;have k0:w4.frozen? ⟨RB,0,none⟩=false:=af A.o 0;go_wp2_with fail
  refine bodyPost_ret (v:=.tuple #[.agg #[.slice none 0 0],.int .i64 ce,.int .i64 ca]) (by simp [results,Tryz.results7,go_sem,r0]) rfl ?_;rw [HE.o];exact ⟨⟨L.o,rfl⟩,by rw [G];exact HB.o.setCell (p:=⟨RB,0,none⟩) (Nat.le_refl _) _⟩
end
section
open Go.RowKit
theorem jX:∀(l:List (ByteArray×Int)) (pos:Int) (v:aR),(bU pos l v).1.1=0→∀p,p∈l→1≤p.2∧p.2≤3
 | [],_,_,_,p,hp=>by cases hp
 | q :: l,pos,v,h,p,hp=>by
  rw [bU] at h;split at h
  ·exact absurd h (by simp)
  ·split at h
   ·exact absurd h (by simp)
   ·rename_i h2
    rcases List.mem_cons.1 hp with rfl | hp
    ·omega
    ·exact jX l pos _ h p hp
theorem rz {l:List Fn} (h:(bT l).1=0):∀f,f∈l→(∀p,p∈f.params→1≤p.2∧p.2≤3)∧0≤f.result∧f.result≤3:=by
 unfold bT at h;by_cases c:64<l.length
 ·rw [if_pos c] at h
  exact absurd h (by decide)
 rw [if_neg c] at h;by_cases d:(dl l []).1.1≠0
 ·rw [if_pos d] at h
  exact absurd h d
 rw [if_neg d] at h;intro f hf;have e:=jx h f hf;unfold eV at e;dsimp only at e;by_cases c1:(bU f.pos f.params []).1.1≠0
 ·rw [if_pos c1] at e
  exact absurd e c1
 rw [if_neg c1] at e;by_cases c2:f.result<0∨3<f.result
 ·rw [if_pos c2] at e
  exact absurd e (by simp)
 exact ⟨jX _ _ _ (by simpa using c1),by omega,by omega⟩
theorem tQ:∀{l:List Fn},jj l→∀f,f∈l→f.name.size≤64∧eZ f.body∧∀p,p∈f.params→p.1.size≤64
 | g :: l,h,f,hf=>by
  rw [jj] at h;rcases List.mem_cons.1 hf with rfl | hf
  ·exact h.1
  ·exact tQ h.2 f hf
theorem lC {F:List Fn} {P:Cd→Prop}:∀(l:List Fn) (p:List Cd×List ByteArray),(∀f,f∈l→∀T:List ByteArray,(∀t,t∈T→t.size≤64)→T.length≤2048→(∀t,t∈(dg F f T).2→t.size≤64)∧P (dg F f T).1)→(∀t,t∈p.2→t.size≤64)→p.2.length+eH l≤2048→(∀c,c∈p.1→P c) →
    (∀t,t∈(bA F l p).2→t.size≤64)∧∀c,c∈(bA F l p).1→P c
 | [],p,_,h2,_,h4=>by rw [bA];exact ⟨h2,h4⟩
 | f :: l,p,h1,h2,h3,h4=>by
  rw [bA];rw [eH] at h3;obtain ⟨k1,k2⟩:=h1 f (List.mem_cons_self ..) p.2 h2 (by omega);have q:=lG F f p.2;refine lC l _ (fun g hg=>h1 g (List.mem_cons_of_mem _ hg)) k1 (by dsimp only;omega) (fun c hc=>?_);rcases List.mem_append.1 hc with hc | hc
  ·exact h4 c hc
  ·rw [List.mem_singleton] at hc
   rw [hc];exact k2
theorem ub:∀{l:List Fn} {f:Fn},f∈l→szF f≤eH l
 | g :: l,f,hf=>by
  rw [eH];rcases List.mem_cons.1 hf with rfl | hf
  ·omega
  ·have:=ub hf;omega
theorem wD {l:List Fn} (h1:eH l≤2048) (h2:jj l) (h3:(bT l).1=0):tN (da l):=by
 have C:=(jr h3).1;have A:=(jr h3).2;have D:=rz h3;have key:=lC (F:=l) (P:=fun c=>big c.name.size∧big c.params.length∧big c.ins.length∧i64 c.result∧i64 c.slots∧(∀t,t∈c.params→i64 t)∧∀x,x∈c.ins→i64 x.op∧i64 x.a) l ([],[]) (fun f hf T hT hl=>?_) (fun t ht=>by cases ht) (by dsimp only [List.length_nil];omega) (fun c hc=>by cases hc)
 ·have hT:=hZ l l ([],[])
  have hC:=jC l l ([],[]);dsimp only [List.length_nil] at hT hC;refine ⟨?_,key.2,?_,fun t ht=>?_⟩
  ·show big (bA l l ([],[])).1.length
   unfold big;omega
  ·show big ((bA l l ([],[])).2.map dB).length
   rw [List.length_map];unfold big;omega
  ·obtain ⟨y,hy,rfl⟩:=List.mem_map.1 ht
   have e:(dB y).length=y.size:=by unfold dB;rw [List.length_map,ByteArray.toList_eq];rfl
   have:=key.1 y hy;rw [e];unfold big;omega
 ·have B:=tQ h2 f hf
  obtain ⟨g1,g2,g3,g4⟩:=zB (F:=l) (by omega) f T B.2.1 hT (Nat.le_trans (ub hf) h1) hl;have hp:=A f hf;have hc:=D f hf;have en:(dg l f T).1.name=f.name∧(dg l f T).1.params=f.params.map (·.2)∧(dg l f T).1.result=f.result:=⟨rfl,rfl,rfl⟩
  refine ⟨g1,by rw [en.1];have:=B.1;unfold big;omega,by rw [en.2.1,List.length_map];have:=hp.2;unfold big;omega,by unfold big;omega,by rw [en.2.2];unfold i64;omega,g3,fun t ht=>?_,g4⟩;rw [en.2.1] at ht;obtain ⟨q,hq,rfl⟩:=List.mem_map.1 ht;have:=hc.1 q hq;unfold i64;omega
def fw (s:List UInt8):Except (Int×Int) Mdl:=
 match ee s with
 | .error q=>.error q
 | .ok l=>match eW l with
  | .error er=>.error (er,0)
  | .ok m=>.ok m
def fP (s:List UInt8) (w:World) (e:Ending) (w':World):Prop:=
 (match fw s with
   | .error (er,p)=>e=.returned (.tuple #[.agg #[.slice none 0 0,.slice none 0 0],.int .i64 er,.int .i64 p])
   | .ok m=>∃v,e=.returned (.tuple #[v,.int .i64 0,.int .i64 0])∧RepMdl w' v m)∧Below w.heap.size w w'
theorem RepFns.low {S:Nat→Prop} {w:World} {v:Value} {l:List Fn} (h:RepFns S w v l):RepFns (fun b=>b<w.heap.size) w v l:=by
 obtain ⟨cs,h1,h2⟩:=h;exact ⟨cs,h1.lies.mono (fun _ q=>q.2),fun i hi=>(h2 i hi).lies.mono (fun _ q=>q.2)⟩
theorem vh (s0:Option Addr) (cap:Nat) (s:List UInt8) (w:World) (hs:SrcAt w s0 s) (hl:s.length≤1152921504606846976) (hc:s.length≤cap) (B:Signs w) :
    Calls Tryz.prog 5 #[.slice s0 s.length cap] w (fP s w):=by
 have HB:Hd (Below w.heap.size w (w.alloc (.cells #[.slice none 0 0,.slice none 0 0] 27))):=zh (ag (Below.refl _ _) _);have A:Hd ((w.alloc (.cells #[.slice none 0 0,.slice none 0 0] 27)).heap[w.heap.size]?=some (.cells #[.slice none 0 0,.slice none 0 0] 27 (0,0))):=zh (am _ _ _ rfl);have J:=zh (vM s0 cap s _ (hs.later HB.o) hl hc);have C:=zh (B.below HB.o B.lt);have L:Hd (∀l,ee s=.ok l→eH l≤2048∧jj l∧(bT l).1=0):=zh (fun l h=>mD h);have HE:Hd (fw s=match ee s with | .error q=>.error q | .ok l=>match eW l with | .error er=>.error (er,0) | .ok m=>.ok m):=zh rfl;clear hs B;generalize ee s=R at *;go_enter Tryz.func5,Tryz.ntmps5
 go_upto_region 1 with fail
 generalize (w.alloc (.cells #[.slice none 0 0,.slice none 0 0] 27))=w1 at *;obtain ⟨RB,H⟩:∃x,x=w.heap.size:=⟨_,rfl⟩
 rw [←H] at A ⊢;have E:=zh H;clear H
 cases R with
 | error q =>
  obtain ⟨er,pos⟩:=q;go_wp2_with fail
  refine J.o.mono ?_;rintro e w2 ⟨⟨K,rfl⟩,hb⟩;replace A:=zh ((hb.block _ (ae A.o)).trans A.o);replace HB:=zh (HB.o.trans (hb.mono HB.o.size));have N:(er !=0)=true:=bne_iff_ne.2 K;clear hb K;go_upto_region 2 with fail
  have hb:Below w2.heap.size w2 (w2.alloc (.cells #[.slice none 0 0] 43)):=ag (Below.refl _ _) _;replace A:=zh ((hb.block _ (ae A.o)).trans A.o);replace HB:=zh (HB.o.trans (hb.mono HB.o.size));clear hb;generalize (w2.alloc (.cells #[.slice none 0 0] 43))=w3 at *;obtain ⟨r0,r1,-⟩:=css A.o;obtain ⟨k0,k1,-⟩:=fzs A.o;go_wp2_with fail
  refine bodyPost_ret (v:=.tuple #[.agg #[.slice none 0 0,.slice none 0 0],.int .i64 er,.int .i64 pos]) (by simp [results,Tryz.results5,go_sem,r0,r1]) rfl ?_;unfold fP;rw [HE.o];refine ⟨rfl,?_⟩;exact (HB.o.setCell (p:=⟨RB,0,none⟩) (by rw [E.o];exact Nat.le_refl _) _).setCell (p:=⟨RB,1,none⟩) (by rw [E.o];exact Nat.le_refl _) _
 | ok l =>
  obtain ⟨g1,g2,g3⟩:=L.o l rfl;have HG:=zh (And.intro g1 (And.intro (fun f hf=>Nat.le_trans ((jr g3).2 f hf).2 (by decide):∀f,f∈l→f.params.length≤100000) (wD g1 g2 g3)));clear g1 g2 g3 L;go_wp2_with fail
  refine J.o.mono ?_;rintro e w2 ⟨⟨v,rfl,F⟩,hb⟩;have D:=zh F;obtain ⟨cs,⟨s1,c1,rfl,_⟩,_⟩:=F;replace A:=zh ((hb.block _ (ae A.o)).trans A.o);replace C:=zh (C.o.below hb C.o.lt);replace HB:=zh (HB.o.trans (hb.mono HB.o.size));clear hb J;go_upto_region 4 with fail
  have hb:Below w2.heap.size w2 (w2.alloc (.cells #[.slice s1 l.length c1] 43)):=ag (Below.refl _ _) _;replace A:=zh ((hb.block _ (ae A.o)).trans A.o);replace C:=zh (C.o.below hb C.o.lt);replace D:=zh (D.o.keep (Stays.of_below hb)).low;replace HB:=zh (HB.o.trans (hb.mono HB.o.size));have Q:Hd ((w2.alloc (.cells #[.slice s1 l.length c1] 43)).heap[w2.heap.size]?=some (.cells #[.slice s1 l.length c1] 43 (0,0))):=zh (am _ _ _ rfl);clear hb;generalize (w2.alloc (.cells #[.slice s1 l.length c1] 43))=w3 at *;generalize w2.heap.size=PB at *;have M:=zh (xY l _ w3 D.o C.o HG.o.1 HG.o.2.1 (fun _=>HG.o.2.2));have p0:w3.cell? ⟨PB,0,none⟩=some (.slice s1 l.length c1):=aa Q.o (j:=0) rfl;go_wp2_with fail
  refine M.o.mono ?_;rintro e w4 hq;clear p0 M;unfold jh at hq;have T:=zh (ae A.o)
  cases hK:eW l with
  | error er =>
   rw [hK] at hq;obtain ⟨rfl,hb⟩:=hq;replace A:=zh ((hb.block _ (ae A.o)).trans A.o);replace HB:=zh (HB.o.trans (hb.mono HB.o.size));clear hb;go_upto_region 5 with fail
   have hb:Below w4.heap.size w4 (w4.alloc (.cells #[.slice none 0 0,.slice none 0 0] 27)):=ag (Below.refl _ _) _;replace A:=zh ((hb.block _ (ae A.o)).trans A.o);replace HB:=zh (HB.o.trans (hb.mono HB.o.size));have I:=zh (am w4 (.cells #[.slice none 0 0,.slice none 0 0] 27) _ rfl);clear hb;generalize (w4.alloc (.cells #[.slice none 0 0,.slice none 0 0] 27))=w5 at *;generalize w4.heap.size=TB at *;obtain ⟨r0,r1,-⟩:=css A.o;obtain ⟨k0,k1,-⟩:=fzs A.o;obtain ⟨t0,t1,-⟩:=css I.o;go_wp2_with fail
   refine bodyPost_ret (v:=.tuple #[.agg #[.slice none 0 0,.slice none 0 0],.int .i64 er,.int .i64 0]) (by simp [results,Tryz.results5,go_sem,r0,r1]) rfl ?_;have e1:fw s=.error (er,0):=by rw [HE.o,hK]
   unfold fP;rw [e1];refine ⟨rfl,?_⟩;exact (HB.o.setCell (p:=⟨RB,0,none⟩) (by rw [E.o];exact Nat.le_refl _) _).setCell (p:=⟨RB,1,none⟩) (by rw [E.o];exact Nat.le_refl _) _
  | ok m =>
   rw [hK] at hq;obtain ⟨⟨v,rfl,G⟩,hb⟩:=hq;have P:=zh G;obtain ⟨v0,v1,rfl,⟨a0,n0,_,_,_,_,_,rfl,_⟩,⟨a1,n1,_,rfl,_⟩⟩:=G w4 (Stays.refl _ _);clear G;replace A:=zh ((hb.block _ (ae A.o)).trans A.o);replace HB:=zh (HB.o.trans (hb.mono HB.o.size));clear hb;go_upto_region 5 with fail
   have hb:Below w4.heap.size w4 (w4.alloc (.cells #[.slice a0 m.codes.length n0,.slice a1 m.texts.length n1] 27)):=ag (Below.refl _ _) _;replace A:=zh ((hb.block _ (ae A.o)).trans A.o);replace HB:=zh (HB.o.trans (hb.mono HB.o.size));have O:=zh (Stays.of_below (S:=bO w3.heap.size) hb);have I:=zh (am w4 (.cells #[.slice a0 m.codes.length n0,.slice a1 m.texts.length n1] 27) _ rfl);clear hb;generalize (w4.alloc (.cells #[.slice a0 m.codes.length n0,.slice a1 m.texts.length n1] 27))=w5 at *;generalize w4.heap.size=TB at *;obtain ⟨r0,r1,-⟩:=css A.o;obtain ⟨k0,k1,-⟩:=fzs A.o;obtain ⟨t0,t1,-⟩:=css I.o;go_wp2_with fail
   refine bodyPost_ret (v:=.tuple #[.agg #[.slice a0 m.codes.length n0,.slice a1 m.texts.length n1],.int .i64 0,.int .i64 0]) (by simp [results,Tryz.results5,go_sem,r0,r1]) rfl ?_;have e1:fw s=.ok m:=by rw [HE.o,hK]
   unfold fP;rw [e1];refine ⟨⟨_,rfl,P.o _ (O.o.trans (Stays.of_on (((On.refl RB w5).set 0 _).set 1 _) T.o))⟩,?_⟩;exact (HB.o.setCell (p:=⟨RB,0,none⟩) (by rw [E.o];exact Nat.le_refl _) _).setCell (p:=⟨RB,1,none⟩) (by rw [E.o];exact Nat.le_refl _) _
end
section
open Go.RowKit
theorem tS (en:Int):∀(f:Nat) (A:List Fn),NoNil (fF en f A)
 | 0,A=>eR A
 | f+1,A=>fun l er pos e=>by
  unfold fF at e;split at e
  ·cases e
  ·exact ((ua en).bind fun x=>tS en f (A++[x])) _ _ _ e
theorem xG {s:List UInt8} {er p:Int} (h:dQ s=.error (er,p)):er≠0:=by
 unfold dQ at h;split at h
 ·rename_i q
  cases h
  exact ry q
 ·split at h
  ·rename_i q
   cases h
   exact tS _ _ _ _ _ _ q
  ·cases h
theorem wH {s:List UInt8} {er p:Int} (h:ee s=.error (er,p)):er≠0:=by
 unfold ee at h;split at h
 ·rename_i q
  cases h
  exact xG q
 ·split at h
  ·rename_i q
   injection h with h
   rw [h] at q;exact q
  ·cases h
theorem zd {l:List Fn} {er:Int} (h:eW l=.error er):er≠0:=by
 unfold eW at h;split at h
 ·rename_i q
  injection h with h
  rw [←h];exact q
 ·split at h
  ·cases h
  ·injection h with h
   rw [←h];decide
theorem xh {s:List UInt8} {er p:Int} (h:fw s=.error (er,p)):er≠0:=by
 unfold fw at h;split at h
 ·rename_i q
  cases h
  exact wH q
 ·split at h
  ·rename_i q
   cases h
   exact zd q
  ·cases h
theorem uy {s:List UInt8} {m:Mdl} (h:fw s=.ok m):∃l,ee s=.ok l∧(bT l).1=0∧m=da l∧eu (da l)=true:=by
 unfold fw at h;split at h
 ·cases h
 ·rename_i l hl
  split at h
  ·cases h
  ·rename_i m' hm
   cases h
   unfold eW at hm;split at hm
   ·cases hm
   ·rename_i q
    split at hm
    ·rename_i q2
     cases hm
     exact ⟨l,hl,by simpa using q,rfl,q2⟩
    ·cases hm
end
section
open Go.RowKit
attribute [local go_sem ↓] Go.wp_at_zero Go.wp_at_succ
theorem ze {l:List Fn} {f:Fn} (h:f∈l):szF f≤eH l:=by
 induction l with
 | nil=>cases h
 | cons g l ih =>
  rw [eH]
  cases h with
  | head=>exact Nat.le_add_right _ _
  | tail _ h=>exact Nat.le_trans (ih h) (Nat.le_add_left _ _)
theorem sN {s:List UInt8} {m:Mdl} {x:Int} (h:fw s=.ok m) (hx:ff m x):x=0:=by
 obtain ⟨l,hf,hc,rfl,hr⟩:=uy h;have hg:=(mD hf).1;have A:=rX hc fun f hm=>Nat.le_trans (Nat.le_trans (show bY f.body≤szF f by unfold szF;omega) (ze hm)) (Nat.le_trans hg (by decide));rcases hx with ⟨q,_⟩ | ⟨_,⟨_,q⟩ | ⟨q,_⟩⟩
 ·rw [hr] at q;cases q
 ·exact q
 ·exact absurd A q
theorem vC (s0:Option Addr) (cap:Nat) (s:List UInt8) (w:World) (hs:SrcAt w s0 s) (hl:s.length≤1152921504606846976) (hc:s.length≤cap) (A:Signs w) :
    Calls Tryz.prog 3 #[.slice s0 s.length cap] w fun e w'=>e=.returned (.bool true)∧Below w.heap.size w w':=by
 have HH:=zh (Vf.head_any w A);have H:=zh A;have D:Hd (∀W,Below w.heap.size w W→Calls Tryz.prog 5 #[.slice s0 s.length cap] W (fP s W)):=zh (fun W hW=>vh s0 cap s W (hs.later hW) hl hc (A.below hW A.lt));have C:Hd (∀er p,fw s=.error (er,p)→er≠0):=zh (fun er p h=>xh h);have HZ:Hd (∀m x,fw s=.ok m→ff m x→x=0):=zh (fun m x h=>sN h);clear hs A;unfold fP at D;generalize fw s=R at *;go_enter Tryz.func3,Tryz.ntmps3
 go_wp2_with fail
 refine HH.o.mono ?_;rintro e w1 ⟨rfl,hb⟩;have HB:=zh hb;clear hb HH;go_wp2_with fail
 refine (D.o w1 HB.o).mono ?_;rintro e w2 ⟨B,hb⟩;replace HB:=zh (HB.o.trans (hb.mono HB.o.size));clear hb D
 cases R with
 | error q =>
  obtain ⟨er,pos⟩:=q;obtain rfl:=B;have J:(er !=0)=true:=bne_iff_ne.2 (C.o er pos rfl);clear C HZ;go_wp2_with fail
  exact bodyPost_ret (v:=.bool true) (by simp [results,Tryz.results3,go_sem]) rfl ⟨rfl,ag HB.o _⟩
 | ok m =>
  clear C;obtain ⟨v,rfl,F⟩:=B;have K:=zh F;obtain ⟨v0,v1,rfl,⟨a0,n0,_,_,_,_,_,rfl,_⟩,⟨a1,n1,_,rfl,_⟩⟩:=F;generalize m.codes.length=k0 at *;generalize m.texts.length=k1 at *;have I:Hd (Below w2.heap.size w2 (w2.alloc (.cells #[.slice a0 k0 n0,.slice a1 k1 n1] 27))):=zh (ag (Below.refl _ _) _);have E:=zh (HB.o.trans (I.o.mono HB.o.size));have M:=zh (Vf.check_any _ _ _ (K.o.later I.o) (H.o.below E.o H.o.lt));have L:=zh (am w2 (.cells #[.slice a0 k0 n0,.slice a1 k1 n1] 27) _ rfl);go_upto_region 3 with fail
  generalize (w2.alloc (.cells #[.slice a0 k0 n0,.slice a1 k1 n1] 27))=w3 at *;generalize w2.heap.size=MB at *;obtain ⟨p0,p1,-⟩:=css L.o;go_wp2_with fail
  refine M.o.mono ?_;rintro e w4 ⟨x,rfl,hx,G⟩;obtain rfl:=HZ.o m x rfl hx;have N:=zh (E.o.trans (G.mono E.o.size));clear hx G p0 p1;go_wp2_with fail
  exact bodyPost_ret (v:=.bool true) (by simp [results,Tryz.results3,go_sem]) rfl ⟨rfl,N.o⟩
end
section
open Go.RowKit Go.Lib
theorem nT {H:Type} {enc:TypeId×Value→H} {P:Program} {w:World} {base:Nat} {sp:Nat→Bool} {B:Bool} {A:Nat} {t e:TypeId} {n:Nat} {cs:List Value} {ss:List ByteArray} {p:List MemPlace}
    (ht:P.underlying t=some (.array n e)) (he:P.underlying e=some .string) (F:P.cellsOf e=1) (E:P.cellsOf t=n)
    (h:DataW.trod enc P w base sp B A t cs=some (.agg (ss.map fun s=>.lit (.string s.data.toList)),p)):cs=ss.map Value.string:=by
 cases A with
 | zero=>simp [DataW.trod] at h
 | succ A =>
  simp only [DataW.trod,ht,F,E,Nat.mul_one] at h
  split at h
  ·rename_i hl
   obtain ⟨xs,hm,hx⟩:=Option.map_eq_some_iff.1 h
   have C:xs.map (·.1)=ss.map fun s=>(DataW.lit (.string s.data.toList):DataW H):=by
    have:=congrArg Prod.fst hx;simpa using this
   have I:xs.length=n:=by simpa using mapM_length hm
   have G:ss.length=n:=by
    have:=congrArg List.length C;simp at this
    omega
   apply List.ext_getElem?;intro i;by_cases hi:i<n
   ·obtain ⟨b,hb,hf⟩:=mapM_at hm i i (by simp [hi])
    obtain ⟨s,hc,rfl,_⟩:=DataW.trod_string he hf
    have h1:cs[i]?=some (.string s):=by
     have:=congrArg (·[0]?) hc;simpa [List.getElem?_take,List.getElem?_drop] using this
    have h2:(xs.map (·.1))[i]?=some (DataW.lit (.string s.data.toList):DataW H):=by simp [hb]
    rw [C] at h2;simp only [List.getElem?_map,Option.map_eq_some_iff,DataW.lit.injEq,Lit.string.injEq] at h2
    obtain ⟨s',D,e⟩:=h2;have:s'=s:=WideShapes.bytes_inj e;subst this;simp [h1,D]
   ·rw [List.getElem?_eq_none (by omega),List.getElem?_eq_none (by simp;omega)]
  ·cases h
theorem gSigns:Tryz.prog.globalNamed "covenant/code.signs" = some 0:=by kernel_rfl
theorem gSignsType:(Tryz.prog.globals[0]?).map (·.type)=some 152:=by kernel_rfl
theorem AD:Tryz.prog.cellsOf 152=13:=by kernel_rfl
theorem Ab:Tryz.prog.cellsOf 9=1:=by kernel_rfl
theorem ws {W:World} {A:List (String×DataW Unit)} (h:laidMet Tryz.prog (("covenant/code.signs",Rows.laid_covenant_code_signs) :: A) W):Signs W:=by
 obtain ⟨ps,⟨g',t',cs,fuel,p,q,D,C,B,hd,_,_⟩,_⟩:=h;obtain rfl:=Option.some.inj (gSigns.symm.trans D);obtain rfl:=Option.some.inj (gSignsType.symm.trans C);have E:=nT (ss:=signRow) Tryz.underlying152 Tryz.underlying9 Ab AD hd;intro i hi;have:=World.var?_cell gSigns B i;rw [←Array.getElem?_toList,E,List.getElem?_map] at this;rw [this];match i,hi with
 | 0,_ | 1,_ | 2,_ | 3,_ | 4,_ | 5,_ | 6,_ | 7,_ | 8,_ | 9,_ | 10,_ | 11,_ | 12,_=>rfl
end
section
open Go.ChangeShapes Go.WideShapes Go.ChangeAt Go.RowKit
def TZ (P:Program) (w:World) (n:Nat) (t:TypeId) (cs:List Value):Prop:=
 ∃(H:Type) (enc:TypeId×Value→H) (x:DataW H×List MemPlace),DataW.trod enc P w 0 (fun _=>true) true n t cs=some x∧∀k∈x.1.weights P t,k≤reachBytes
variable {P:Program} {w:World} {n:Nat} {t:TypeId} {cs:List Value}
theorem TZ.of {H:Type} {enc:TypeId×Value→H} {v:Value} {d:DataW H} {p:List MemPlace} {ts:List TypeId} {ds:List (DataW H)} (h:DataW.Trod enc P w 0 (fun _=>true) true t v d p)
    (hs:(DataW.weightsEach P ts ds).all (·≤reachBytes)=true) {j:Nat} (ht:ts[j]?=some t) (hd:ds[j]?=some d):∃n,TZ P w n t v.cells.toList:=by
 obtain ⟨m,hm⟩:=h;refine ⟨m,H,enc,_,hm,fun k hk=>?_⟩;have:=List.all_eq_true.1 hs k (DataW.weights_mem_each ht hd k hk);simpa using this
theorem TZ.int {k:IntKind} (ht:P.underlying t=some (.int k)) (h:TZ P w n t cs):∃i,cs=[.int k i]∧(Lit.int k i).wf=true:=by
 obtain ⟨H,enc,x,hx,_⟩:=h;obtain ⟨i,h1,_,h2⟩:=DataW.trod_int ht hx;exact ⟨i,h1,h2⟩
theorem TZ.bool (ht:P.underlying t=some .bool) (h:TZ P w n t cs):∃b,cs=[.bool b]:=by
 obtain ⟨H,enc,x,hx,_⟩:=h;obtain ⟨b,h1,_⟩:=DataW.trod_bool ht hx;exact ⟨b,h1⟩
theorem TZ.string (ht:P.underlying t=some .string) (h:TZ P w n t cs):∃s:ByteArray,cs=[.string s]∧s.size≤reachBytes:=by
 obtain ⟨H,enc,x,hx,hs⟩:=h;obtain ⟨s,h1,h2,_⟩:=DataW.trod_string ht hx;refine ⟨s,h1,?_⟩;rw [h2] at hs;have:=hs s.data.toList.length (by simp [DataW.weights]);simpa using this
theorem mi {H:Type} {e:TypeId} {ds:List (DataW H)} {i:Nat} {d:DataW H} (hd:ds[i]?=some d):∀k∈d.weights P e,k∈DataW.weightsAll P e ds:=by
 intro k hk;induction ds generalizing i with
 | nil=>simp at hd
 | cons x r ih =>
  simp only [DataW.weightsAll,List.mem_append]
  cases i with
  | zero=>simp at hd;subst hd;exact .inl hk
  | succ i=>exact .inr (ih (by simpa using hd))
theorem TZ.slice {e:TypeId} (ht:P.underlying t=some (.slice e)) (hc:0<P.cellsOf e) (h:TZ P w n t cs) :
    ∃a len cap,cs=[.slice a len cap]∧len≤cap∧cap≤maxLen∧cap * P.bytesOf e≤reachBytes∧(a=none→len=0∧cap=0)∧(0<cap→∃b off,a=some ⟨b,off,none⟩∧b<w.heap.size) ∧
     ∀b off,a=some ⟨b,off,none⟩→∀i,i<len→∃m cs',n=m+1∧cs'.length=P.cellsOf e∧(∀j,j<P.cellsOf e→w.cell? ⟨b,off+i * P.cellsOf e+j,none⟩=cs'[j]?)∧TZ P w m e cs':=by
 obtain ⟨H,enc,x,hx,hs⟩:=h;rcases DataW.trod_slice ht hx with ⟨rfl,_⟩ | ⟨a,len,cap,elems,rest,m,hm,rfl,E,_,hl,I,L,J,F,_⟩
 ·exact ⟨none,0,0,rfl,Nat.le_refl _,Nat.zero_le _,by simp,fun _=>⟨rfl,rfl⟩,fun h=>absurd h (by omega),fun b off h=>by cases h⟩
 ·obtain ⟨K,G⟩:=F rfl
  have A:∀k,k<cap→∃cs' y,w.cells? 0 (a.add (k * P.cellsOf e)) (P.cellsOf e)=some cs'∧DataW.trod enc P w 0 (fun _=>true) true m e cs'=some y∧(k<len→elems[k]?=some y):=fun k hk=>by
   by_cases D:k<len
   ·have h1:=J k D
    rw [List.getElem?_eq_getElem (by omega),Option.bind_eq_some_iff] at h1;obtain ⟨cs',h2,h3⟩:=h1;exact ⟨cs',_,h2,h3,fun _=>List.getElem?_eq_getElem (by omega)⟩
   ·have h1:=G (k-len) (by omega)
    rw [List.getElem?_eq_getElem (by omega),Option.bind_eq_some_iff] at h1;obtain ⟨cs',h2,h3⟩:=h1;rw [show len+(k-len)=k by omega] at h2;exact ⟨cs',_,h2,h3,fun h=>absurd h D⟩
  have hw:x.1.weights P t=(elems.length+rest.length)*P.bytesOf e :: (DataW.weightsAll P e (elems.map (·.1))++DataW.weightsAll P e (rest.map (·.1))):=by
   rw [E];simp only [DataW.weights,ht,List.length_map]
  have B:cap * P.bytesOf e≤reachBytes:=by
   have:=hs ((elems.length+rest.length)*P.bytesOf e) (by rw [hw];exact List.mem_cons_self ..);rwa [show elems.length+rest.length=cap by omega] at this
  refine ⟨some a,len,cap,rfl,hl,I,B,(fun h=>by cases h),fun h0=>?_,fun b off C i hi=>?_⟩
  ·obtain ⟨cs',y,h1,_⟩:=A 0 h0
   obtain ⟨_,h2,h3⟩:=World.cells?_some h1;have h4:=h3 0 hc;rw [List.getElem?_eq_getElem (by omega)] at h4;obtain ⟨b,off,spot⟩:=a;have hs:spot=none:=by simpa [Addr.add] using World.cell?_spot h4
   subst hs;refine ⟨b,off,rfl,?_⟩;rw [add_plain,add_plain] at h4;exact ax h4
  ·injection C with C
   subst C;obtain ⟨cs',y,h1,h2,hy⟩:=A i (by omega);obtain ⟨_,h3,h4⟩:=World.cells?_some h1;refine ⟨m,cs',hm,h3,fun j hj=>?_,H,enc,y,h2,fun k hk=>hs k ?_⟩
   ·have h5:=h4 j hj
    rw [add_plain,add_plain] at h5;exact h5
   ·rw [hw]
    refine List.mem_cons_of_mem _ (List.mem_append_left _ ?_);exact mi (i:=i) (by simp [hy hi]) k hk
end
section
open Go.ChangeShapes Go.WideShapes Go.ChangeAt Go.RowKit
def pu (w:World) (b o:Nat):UInt8:=match w.cell? ⟨b,o,none⟩ with
 | some (.int _ z)=>UInt8.ofNat z.toNat
 | _=>0
theorem sH {w:World} {n:Nat} {cs:List Value} (h:TZ Tryz.prog w n 22 cs) :
    ∃(a:Option Addr) (cap:Nat) (s:List UInt8),cs=[.slice a s.length cap]∧s.length≤cap∧s.length≤1152921504606846976∧SrcAt w a s:=by
 obtain ⟨a,len,cap,rfl,hl,_,hr,_,hb,I⟩:=TZ.slice Tryz.underlying22 (by rw [show Tryz.prog.cellsOf 5=1 by kernel_rfl];decide) h;have H:Tryz.prog.bytesOf 5=1:=by kernel_rfl
 rw [H,Nat.mul_one] at hr;have B:len≤1152921504606846976:=Nat.le_trans hl (Nat.le_trans hr (by decide));by_cases h0:len=0
 ·subst h0
  exact ⟨a,cap,[],rfl,Nat.zero_le _,Nat.zero_le _,fun h=>absurd h (Nat.lt_irrefl _)⟩
 obtain ⟨b,off,rfl,F⟩:=hb (by omega);refine ⟨_,cap,(List.range len).map fun i=>pu w b (off+i),by simp,by simpa using hl,by simpa using B,fun _=>⟨b,off,rfl,F,fun i hi=>?_⟩⟩;have C:i<len:=by simpa using hi
 obtain ⟨m,cs',_,J,A,E⟩:=I b off rfl i C;have G:Tryz.prog.cellsOf 5=1:=by kernel_rfl
 rw [G] at A;obtain ⟨z,rfl,D⟩:=E.int Tryz.underlying5;have hc:=A 0 (by decide);rw [Nat.mul_one,Nat.add_zero] at hc;have hz:0≤z∧z≤255:=by simpa [Lit.wf,IntKind.min,IntKind.max,IntKind.signed,IntKind.bits] using D
 have hg:((List.range len).map fun i=>pu w b (off+i)).getD i 0=pu w b (off+i):=by
  rw [List.getD_eq_getElem?_getD,List.getElem?_map,List.getElem?_range C];rfl
 rw [hg];unfold pu;rw [hc];simp only [List.getElem?_cons_zero,Option.some.injEq,Value.int.injEq,true_and]
 have:(UInt8.ofNat z.toNat).toNat=z.toNat:=by simp;omega
 rw [this];omega
end
end Go.Proofs.YtmlgbkomdhcaoaaGreatDoor
