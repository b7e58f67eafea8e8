/-
  EvalSigns: part 46 of its proof: see the last text.
-/
import Derived.Test.YthgcpfkochikfaaGreatPs42
import Derived.Test.YthgcpfkochikfaaGreatPs44
set_option maxRecDepth 100000
set_option maxHeartbeats 16000000
namespace Go.Proofs.YthgcpfkochikfaaGreat
section
open Go.RowKit
attribute [local go_sem ↓] Go.wp_at_zero Go.wp_at_succ
theorem kX {S:Nat→Prop} {v:Value} {l:List UInt8} (w:World) (h:TxtAt S w v l) (hl:l.length≤100000):Calls Tryz.prog 26 #[v] w fun e w'=>∃p c,e=.returned (.agg #[.int .i64 3,.int .i64 0,.slice p l.length c])∧TxtAt (U8 w.heap.size w') w' (.slice p l.length c) l∧Below w.heap.size w w':=by
 obtain ⟨p,c,rfl,I,hm,hn,h5⟩:=h.form;have hb:Below w.heap.size w ((w.alloc (.cells #[.int .i64 0,.int .i64 0,.slice none 0 0] 35)).alloc (.cells #[] 5)):=ag (ag (Below.refl _ _) _) _;have HA:=zh ((h.below hb).adds.2);have HB:=zh hb;have HN:Hd (p=none→l.length=0∧c=0):=zh (fun e=>⟨by have:=hn e;omega,hn e⟩);obtain ⟨i0,hi,G,F,E⟩:=tC;have HR:Hd (((w.alloc (.cells #[.int .i64 0,.int .i64 0,.slice none 0 0] 35)).alloc (.cells #[] 5)).heap[w.heap.size]?=some (.cells #[.int .i64 0,.int .i64 0,.slice none 0 0] 35 (0,0))):=zh (ax _ _ _ _ (aj _ _ _ rfl));clear h h5 hn I hm hb;go_enter Tryz.func26,Tryz.ntmps26
 go_wp2_with (at_builtin;refine dC rfl _ _ 30 rfl (w.heap.size+1) 5 i0 (.int .u8 0) 1 1 Tryz.underlying30 hi G F E rfl (by decide) _ 0 [] rfl ?q0 p l.length c (byV l) rfl HN.o ?q1 ?q2 pj ?q4 ?q5 ?q6 ?_)
 case q0 =>
  have q:=World.ownsRow_made (w.alloc (.cells #[.int .i64 0,.int .i64 0,.slice none 0 0] 35)) (base:=w.heap.size+1) (e:=5) (size:=1) #[] 0 (by rw [ah];exact Nat.le_refl _) (Nat.zero_le _) (by simp);rw [ah] at q;exact q
 case q1=>simp [lR]
 case q2=>exact fun ad e j u hj=>HA.o ad e j u hj
 case q4=>unfold maxLen;omega
 case q5=>omega
 case q6=>simp
 intro s0 cap w1 C A;have HO:=zh C;have hg:∀k,(Value.slice (some ⟨w.heap.size+1,0,none⟩) 0 0).ownBlock=some k→w.heap.size+1≤k:=fun k hk=>by simp [Value.ownBlock] at hk;omega
 have B:Hd (w1.heap[w.heap.size]?=some (.cells #[.int .i64 0,.int .i64 0,.slice none 0 0] 35 (0,0))):=zh ((A.block w.heap.size (af HR.o) (fun e=>by have:=hg _ e.symm;omega)).trans HR.o);have K:Hd (Below w.heap.size w w1):=zh (HB.o.grown A HB.o.size (fun k hk=>by have:=hg k hk;omega));have L:Hd (w.heap.size<w1.heap.size):=zh (af B.o);clear C A hg;have x0:=aa B.o (j:=0) (u:=.int .i64 0) rfl;have x1:=aa B.o (j:=1) (u:=.int .i64 0) rfl;have x2:=aa B.o (j:=2) (u:=.slice none 0 0) rfl;have f0:=ae B.o 0;have f1:=ae B.o 1;have f2:=ae B.o 2
 have J:Hd (TxtAt (U8 w.heap.size w1) w1 (.slice s0 l.length cap) l):=zh (by
   have q:=dE (by simpa using HO.o:w1.ownsRow (w.heap.size+1) 5 1 (.slice s0 l.length cap) l.length (byV l));exact q.mono fun b hb=>⟨Nat.le_trans (Nat.le_succ _) hb.1,hb.2⟩)
 go_wp2_with fail
 obtain ⟨c0,c1',c2'⟩:=bN B.o (.int .i64 3) (.int .i64 0) (.slice s0 l.length cap);refine bodyPost_ret (v:=.agg #[.int .i64 3,.int .i64 0,.slice s0 l.length cap]) (by simp [results,Tryz.results26,go_sem,c0,c1',c2']) rfl ⟨s0,cap,rfl,?_,?_⟩
 ·have H:OfTy w1 w.heap.size 35:=⟨_,_,B.o⟩
  have D:=fO (w:=w1) (S:=U8 w.heap.size w1) (fun q=>H.ne q.2 (by decide) rfl) (.int .i64 3) (.int .i64 0) (.slice s0 l.length cap);exact (J.o.keep D).mono fun b hb=>⟨hb.1,hb.2.keep (D.block b hb hb.2.lt)⟩
 ·exact aJ K.o (Nat.le_refl _) _ _ _
end
section
open Go.RowKit
def nP:ByteArray:=⟨#[112]⟩
def nG:ByteArray:=⟨#[103]⟩
def nH:ByteArray:=⟨#[104]⟩
def nD:ByteArray:=⟨#[100]⟩
def nK:ByteArray:=⟨#[107]⟩
def nV:ByteArray:=⟨#[118]⟩
def iJ:St:=.mk 6 ⟨#[]⟩ [.mk 4 0 nK [] 31,.mk 4 0 nV [] 34] [] [] 27
def xH:St:=.mk 5 ⟨#[]⟩ [.mk 8 0 ⟨#[]⟩ [.mk 4 0 nK [] 75] 71] [] [] 64
def BH:St:=.mk 5 ⟨#[]⟩ [.mk 9 0 ⟨#[]⟩ [.mk 4 0 nK [] 115] 111] [] [] 104
def zp:St:=.mk 7 ⟨#[]⟩ [.mk 4 0 nK [] 142] [] [] 138
def eJ:List Fn:=[⟨nP,[(nK,3),(nV,3)],0,[iJ],0⟩,⟨nG,[(nK,3)],3,[xH],40⟩,⟨nH,[(nK,3)],2,[BH],81⟩,⟨nD,[(nK,3)],0,[zp],121⟩]
theorem fV:(bL eJ).1=0:=by kernel_rfl
theorem mI {k:List UInt8} (h:k.length≤256):ms (aE k) 3=true:=by
 have e:ms (aE k) 3=(true&&true&&decide (k.length≤256)):=rfl;rw [e,decide_eq_true h];rfl
theorem mq {k:List UInt8} (x:ByteArray) (h:k.length≤256):eP [aE k] [(x,3)]=true:=by
 have e:eP [aE k] [(x,3)]=(ms (aE k) 3&&true):=rfl;rw [e,mI h];rfl
theorem oM {k v:List UInt8} (x y:ByteArray) (h:k.length≤256) (g:v.length≤256):eP [aE k,aE v] [(x,3),(y,3)]=true:=by
 have e:eP [aE k,aE v] [(x,3),(y,3)]=(ms (aE k) 3&&(ms (aE v) 3&&true)):=rfl;rw [e,mI h,mI g];rfl
theorem kL {F:List Fn} {x:ByteArray} {f:Fn} {vs:List Vv} {limit:Int} {j:Jn} (hc:(bL F).1=0) (hf:cD F x=some f) (hv:eP vs f.params=true) (h0:0≤limit) (h1:limit≤100000) :
    bK F x vs limit j=(match (aG (aF F 15) f.body [dh f.params vs []]).then (fun p=>okM (p.1.getD noV)) ⟨limit,0,j.pairs,j.undo⟩ with
      | .ok v r=>(⟨v,0,r.used⟩,⟨r.pairs,r.undo⟩)
      | .trap t r=>(⟨noV,t,r.used⟩,j)):=by
 unfold bK;rw [if_neg (by rw [hc];decide),hf];dsimp only;rw [if_pos hv,show max 0 (min limit 100000)=limit by omega]
 have e:aF F 16 x vs ⟨limit,0,j.pairs,j.undo⟩=(aG (aF F 15) f.body [dh f.params vs []]).then (fun p=>okM (p.1.getD noV)) ⟨limit,0,j.pairs,j.undo⟩:=by
  rw [aF];unfold tw;rw [hf]
 rw [e];rfl
theorem pG {k v:List UInt8} (hk:k.length≤256) (hv:v.length≤256) (h:64<k.length):∃u,bK eJ nP [aE k,aE v] 1000 ⟨[],[]⟩=(⟨noV,6,u⟩,⟨[],[]⟩):=by
 have hg:=pO k.length v.length;have A:eF k.length v.length≤500:=by unfold eF fZ;omega
 have e1:bU (aF eJ 15) iJ [[(nK,aE k),(nV,aE v)]] ⟨1000,0,[],[]⟩=.trap 6 ⟨1000,3+eF k.length v.length,[],[]⟩:=by
  unfold iJ;rw [bU,aN (dZ (by decide)),aN (uC (eO 0 nK [] 31 (by decide)) (eO 0 nV [] 34 (by decide)))]
  have e2:((dy (eF k.length v.length)).then fun _=>(iO k v).then fun _=>okM ((none:Option Vv),([[(nK,aE k),(nV,aE v)]]:List Sc))) ⟨1000,3,[],[]⟩=.trap 6 ⟨1000,3+eF k.length v.length,[],[]⟩:=by
   rw [aN (dZ (by simp only;omega))];refine da ?_;unfold iO fw;rw [if_pos (.inl h)];rfl
  exact e2
 rw [kL fV (f:=⟨nP,[(nK,3),(nV,3)],0,[iJ],0⟩) rfl (oM nK nV hk hv) (by decide) (by decide)];have e3:(aG (aF eJ 15) [iJ] [[(nK,aE k),(nV,aE v)]]).then (fun p=>okM (p.1.getD noV)) ⟨1000,0,[],[]⟩=.trap 6 ⟨1000,3+eF k.length v.length,[],[]⟩:=da (pS e1)
 have e4:(aG (aF eJ 15) [iJ] [dh [(nK,3),(nV,3)] [aE k,aE v] []]).then (fun p=>okM (p.1.getD noV)) ⟨1000,0,[],[]⟩=.trap 6 ⟨1000,3+eF k.length v.length,[],[]⟩:=e3
 dsimp only;rw [e4];exact ⟨_,rfl⟩
theorem xR {k v:List UInt8} (hk:k.length≤64) (hv:v.length≤256):∃u,bK eJ nP [aE k,aE v] 1000 ⟨[],[]⟩=(⟨noV,0,u⟩,⟨[(k,v)],[[]]⟩):=by
 have hg:=pO k.length v.length;have A:eF k.length v.length≤500:=by unfold eF fZ;omega
 have e1:bU (aF eJ 15) iJ [[(nK,aE k),(nV,aE v)]] ⟨1000,0,[],[]⟩=.ok (none,[[(nK,aE k),(nV,aE v)]]) ⟨1000,3+eF k.length v.length,[(k,v)],[[]]⟩:=by
  unfold iJ;rw [bU,aN (dZ (by decide)),aN (uC (eO 0 nK [] 31 (by decide)) (eO 0 nV [] 34 (by decide)))]
  have e2:((dy (eF k.length v.length)).then fun _=>(iO k v).then fun _=>okM ((none:Option Vv),([[(nK,aE k),(nV,aE v)]]:List Sc))) ⟨1000,3,[],[]⟩=.ok (none,[[(nK,aE k),(nV,aE v)]]) ⟨1000,3+eF k.length v.length,[(k,v)],[[]]⟩:=by
   rw [aN (dZ (by simp only;omega))]
   have e5:iO k v (bI ⟨1000,3,[],[]⟩ (eF k.length v.length))=.ok () ⟨1000,3+eF k.length v.length,[(k,v)],[[]]⟩:=by
    unfold iO fw;have e6:fc (bI ⟨1000,3,[],[]⟩ (eF k.length v.length)).pairs k v=[(k,v)]:=rfl;rw [e6,if_neg (by omega),if_neg (by simp [cn];omega)];rfl
   rw [aN e5];rfl
  exact e2
 rw [kL fV (f:=⟨nP,[(nK,3),(nV,3)],0,[iJ],0⟩) rfl (oM nK nV (by omega) hv) (by decide) (by decide)]
 have e3:(aG (aF eJ 15) [iJ] [[(nK,aE k),(nV,aE v)]]).then (fun p=>okM (p.1.getD noV)) ⟨1000,0,[],[]⟩=.ok noV ⟨1000,3+eF k.length v.length,[(k,v)],[[]]⟩:=by
  have e5:aG (aF eJ 15) [iJ] [[(nK,aE k),(nV,aE v)]] ⟨1000,0,[],[]⟩=.ok (none,[[(nK,aE k),(nV,aE v)]]) ⟨1000,3+eF k.length v.length,[(k,v)],[[]]⟩:=by rw [jI e1,tF]
  rw [aN e5];rfl
 have e4:(aG (aF eJ 15) [iJ] [dh [(nK,3),(nV,3)] [aE k,aE v] []]).then (fun p=>okM (p.1.getD noV)) ⟨1000,0,[],[]⟩=.ok noV ⟨1000,3+eF k.length v.length,[(k,v)],[[]]⟩:=e3
 dsimp only;rw [e4];exact ⟨_,rfl⟩
theorem rI (k v:List UInt8):fQ [(k,v)] k=some v:=by simp [fQ]
theorem za (k v:List UInt8):eo [(k,v)] k=[]:=by simp [eo]
theorem yI {k v:List UInt8} (hk:k.length≤256) (u:List (List Pr)):bK eJ nG [aE k] 1000 ⟨[(k,v)],u⟩=(⟨aE v,0,5⟩,⟨[(k,v)],u⟩):=by
 rw [kL fV (f:=⟨nG,[(nK,3)],3,[xH],40⟩) rfl (mq nK hk) (by decide) (by decide)];have e:(aG (aF eJ 15) [xH] [dh [(nK,3)] [aE k] []]).then (fun p=>okM (p.1.getD noV)) ⟨1000,0,[(k,v)],u⟩=.ok (aE ((fQ [(k,v)] k).getD [])) ⟨1000,5,[(k,v)],u⟩:=rfl
 dsimp only;rw [e,rI];rfl
theorem ru {k:List UInt8} (hk:k.length≤256) (l:List Pr) (u:List (List Pr)):bK eJ nH [aE k] 1000 ⟨l,u⟩=(⟨aW (fQ l k).isSome,0,5⟩,⟨l,u⟩):=by
 rw [kL fV (f:=⟨nH,[(nK,3)],2,[BH],81⟩) rfl (mq nK hk) (by decide) (by decide)];rfl
theorem yE {k v:List UInt8} (hk:k.length≤256) (u:List (List Pr)):bK eJ nD [aE k] 1000 ⟨[(k,v)],u⟩=(⟨noV,0,6⟩,⟨[],u++[[(k,v)]]⟩):=by
 rw [kL fV (f:=⟨nD,[(nK,3)],0,[zp],121⟩) rfl (mq nK hk) (by decide) (by decide)];have e:(aG (aF eJ 15) [zp] [dh [(nK,3)] [aE k] []]).then (fun p=>okM (p.1.getD noV)) ⟨1000,0,[(k,v)],u⟩=.ok noV ⟨1000,6,eo [(k,v)] k,u++[[(k,v)]]⟩:=rfl
 dsimp only;rw [e,za]
end
section
open Go.RowKit
theorem ArAt.row1 {D:Nat} {w:World} {KB:Nat} {a b c:Value} {x:Vv} (h:w.heap[KB]?=some (.cells #[a,b,c] 35 (0,0))) (hv:VvAt (KS D w) w (.agg #[a,b,c]) x) (hn:bf x.num):ArAt D w (.slice (some ⟨KB,0,none⟩) 1 1) [x]:=by
 refine ⟨fun _=>[a,b,c],⟨_,1,rfl,Nat.le_refl _,by decide,(fun h=>by cases h),fun _=>⟨KB,0,rfl,.inr ⟨_,_,h⟩,af h,fun i hi j hj=>?_⟩,fun _ _=>rfl⟩,fun i hi=>?_⟩
 ·obtain rfl:i=0:=by have h:i<1:=hi;omega
  rw [Nat.zero_mul,Nat.zero_add];show _=([a,b,c]:List Value)[j]?
  obtain ⟨u,hu⟩:∃u,([a,b,c]:List Value)[j]?=some u:=⟨_,List.getElem?_eq_getElem hj⟩
  rw [hu];exact aa h (by simpa using hu)
 ·obtain rfl:i=0:=by have h:i<1:=hi;omega
  exact ⟨hv,hn⟩
theorem ArAt.row2 {D B:Nat} {w:World} {v a b c a' b' c':Value} {x y:Vv} (h:w.ownsRow B 35 3 v 2 [a,b,c,a',b',c']) (hx:VvAt (KS D w) w (.agg #[a,b,c]) x) (hn:bf x.num) (hy:VvAt (KS D w) w (.agg #[a',b',c']) y) (hm:bf y.num):ArAt D w v [x,y]:=by
 obtain ⟨s0,cap,rfl,h1,h2,h3,h4⟩:=ba h;obtain ⟨g,rfl,_,hl,hc⟩:=h4 (by decide);refine ⟨fun i=>if i=0 then [a,b,c] else [a',b',c'],⟨_,cap,rfl,h1,h2,h3,fun _=>⟨g,0,rfl,.inr (dA h rfl),hl,fun i hi j hj=>?_⟩,fun i _=>by dsimp only;split<;>rfl⟩,fun i hi=>?_⟩
 ·have A:i<2:=hi
  rw [Nat.zero_add];rcases (show i=0∨i=1 by omega) with rfl | rfl<;>rcases (show j=0∨j=1∨j=2 by omega) with rfl | rfl | rfl<;>exact hc _ _ rfl
 ·have A:i<2:=hi
  rcases (show i=0∨i=1 by omega) with rfl | rfl
  ·exact ⟨hx,hn⟩
  ·exact ⟨hy,hm⟩
end
end Go.Proofs.YthgcpfkochikfaaGreat
