/-
  EvalSigns: part 10 of its proof: see the last text.
-/
import Derived.Test.YthgcpfkochikfaaGreatRows
import Derived.Test.YthgcpfkochikfaaGreatPs00
import Derived.Test.YthgcpfkochikfaaGreatPs09
import Derived.Deep.LoopGhost
set_option maxRecDepth 100000
set_option maxHeartbeats 16000000
namespace Go.Proofs.YthgcpfkochikfaaGreat
section
open Go.RowKit
def SrcAt (w:World) (s0:Option Addr) (s:List UInt8):Prop:=0<s.length→∃b off,s0=some ⟨b,off,none⟩∧b<w.heap.size∧∀i,i<s.length→w.cell? ⟨b,off+i,none⟩=some (.int .u8 ((s.getD i 0).toNat:Int))
theorem SrcAt.later {w W:World} {s0:Option Addr} {s:List UInt8} (h:SrcAt w s0 s) (hb:Below w.heap.size w W):SrcAt W s0 s:=fun h0=>by
 obtain ⟨b,off,h1,h2,h3⟩:=h h0;exact ⟨b,off,h1,Nat.lt_of_lt_of_le h2 hb.size,fun i hi=>(bh hb b _ h2).trans (h3 i hi)⟩
def IsKind (w:World) (f:FuncId) (A:Array Value) (p:UInt8→Bool):Prop:=∀(c:UInt8) (W:World),Below w.heap.size w W→Calls Tryz.prog f (#[.int .u8 (c.toNat:Int)]++A) W fun e W'=>e=.returned (.bool (p c))∧Below W.heap.size W W'
theorem iU (s0:Option Addr) (cap:Nat) (s:List UInt8) (a:Nat) (f:FuncId) (D:Array Value) (p:UInt8→Bool) (w:World) (hs:SrcAt w s0 s) (ha:a≤s.length) (hl:s.length≤1152921504606846976) (N:∀args W,Sem.run Tryz.prog (callFunc f args) W=.ok (.enter f args) W) (hk:IsKind w f D p) :
    Calls Tryz.prog 89 #[.slice s0 s.length cap,.int .i64 a,.func (.func f) #[] D] w fun e w'=>e=.returned (.int .i64 (bg p s a))∧Below w.heap.size w w':=by
 have HS:=zh hs;have HK:=zh hk;clear hs hk;go_enter Tryz.func89,Tryz.ntmps89
 go_wp2_with fail
 go_loopw [1] (fun s1 wr=>∃k:Nat,k≤s.length∧s1=.int .i64 k∧bg p s a=bg p s k∧Below w.heap.size w wr) (fun s1 _=>s.length-(intOf s1).toNat)
 case atStart=>exact ⟨a,ha,rfl,rfl,Below.refl _ _⟩
 case round =>
  obtain ⟨k,hk,rfl,G,H⟩:=hrel;have F:=zh G;have E:=zh H;clear G H;by_cases B:k<s.length
  ·obtain ⟨b,off,K,M,A⟩:=HS.o (by omega)
   subst K;have y0:=(bh E.o _ _ M).trans (A k B);clear A;have C:s.getD k 0=s[k]:=by rw [List.getD_eq_getElem?_getD,List.getElem?_eq_getElem B];rfl
   rw [C] at y0;have HY:=zh (eW (p:=p) B);have HN:=zh (mz (p:=p) B);clear C;generalize s[k]=c at *;have HC:=zh (HK.o c wr E.o);generalize p c=q at *;go_wp2_with fail
   refine HC.o.mono ?_;rintro e w1 ⟨rfl,I⟩;have J:=zh (am E.o I);clear I
   cases q
   ·go_wp2_with fail
    go_ret
    exact ⟨eQ (by rw [F.o,HN.o (by simp)]),J.o⟩
   ·go_wp2_with fail
    go_roundw
    case rel=>exact ⟨k+1,by omega,by go_num,by rw [F.o,HY.o (by simp)],J.o⟩
    case measure=>simp [intOf];omega
  ·have L:k=s.length:=by omega
   subst L;clear B;go_wp2_with fail
   go_ret
   exact ⟨eQ (by rw [F.o,vA (Nat.le_refl _)]),E.o⟩
theorem u8i (c:UInt8):0≤(c.toNat:Int)∧(c.toNat:Int)≤255:=by
 have:=c.toNat_lt;omega
theorem tO (c d:UInt8):(((c.toNat:Int))==((d.toNat:Int)))=(c==d):=by
 rw [Bool.eq_iff_iff];simp only [beq_iff_eq]
 constructor
 ·intro h
  exact UInt8.toNat_inj.1 (by omega)
 ·intro h
  rw [h]
theorem vf (c:UInt8):decide (0≤Lib.indexByte [9,10,13,32] c)=d9 c:=by
 unfold d9;by_cases h1:c=9
 ·subst h1;rfl
 by_cases h2:c=10
 ·subst h2;rfl
 by_cases h3:c=13
 ·subst h3;rfl
 by_cases h4:c=32
 ·subst h4;rfl
 simp [Lib.indexByte,h1,h2,h3,h4,Ne.symm h1,Ne.symm h2,Ne.symm h3,Ne.symm h4]
theorem sO (w:World):IsKind w 90 #[] d9:=by
 intro c W _;have hq:=zh (vf c);go_enter Tryz.func90,Tryz.ntmps90
 go_wp2_with fail
 refine (od _ _ _).mono ?_;rintro e w1 ⟨rfl,rfl⟩;have e2:((c.toNat:Int)).toNat.toUInt8=c:=by simp
 rw [e2];clear e2;generalize Lib.indexByte _ c=x at *;go_wp2_with fail
 go_ret
 exact ⟨ew hq.o,Below.refl _ _⟩
theorem vc (w:World):IsKind w 92 #[] dY:=by
 intro c W _;have hc:=u8i c;have hq:=zh (tO c 10);go_enter Tryz.func92,Tryz.ntmps92
 go_wp2_with fail
 go_ret
 refine ⟨ew ?_,Below.refl _ _⟩;unfold dY;show (!((c.toNat:Int)==10))=!(c==10)
 rw [←tO c 10];rfl
theorem uJ (w:World):IsKind w 97 #[] dI:=by
 intro c W _;have hc:=u8i c;have h1:=tO c 34;have h2:=tO c 92;have HT:Hd (∀x y,(c==34)=x→(c==92)=y→dI c=(decide (32≤c.toNat)&&decide (c.toNat≤126)&&!x&&!y)):=zh (fun x y hx hy=>by unfold dI;simp only [bne,hx,hy]);have g1:(((c.toNat:Int))==34)=(c==34):=h1;have g2:(((c.toNat:Int))==92)=(c==92):=h2;have A:=HT.o _ _ rfl rfl;clear h1 h2 HT;have B:=zh A;clear A;generalize (c==34)=x at *;generalize (c==92)=y at *;generalize dI c=z at *;generalize c.toNat=n at *;go_enter Tryz.func97,Tryz.ntmps97
 go_wp2_with fail
 all_goals
  go_ret
  refine ⟨ew ?_,Below.refl _ _⟩;rw [B.o,←g1,←g2,Bool.eq_iff_iff];simp
  try omega
theorem io (lo hi:UInt8) (b d:Nat) (w:World) (h1:w.cell? ⟨b,0,none⟩=some (.int .u8 (lo.toNat:Int))) (h2:w.cell? ⟨d,0,none⟩=some (.int .u8 (hi.toNat:Int))) :
    IsKind w 124 #[.pointer (some ⟨b,0,none⟩),.pointer (some ⟨d,0,none⟩)] (fun c=>decide (lo.toNat≤c.toNat)&&decide (c.toNat≤hi.toNat)):=by
 intro c W hW;have hc:=u8i c;have g1:=(bh hW _ _ (az h1)).trans h1;have g2:=(bh hW _ _ (az h2)).trans h2;clear h1 h2;show Calls Tryz.prog 124 #[.int .u8 (c.toNat:Int),.pointer (some ⟨b,0,none⟩),.pointer (some ⟨d,0,none⟩)] W _
 dsimp only;generalize c.toNat=x at *;generalize lo.toNat=y at *;generalize hi.toNat=z at *;go_enter Tryz.func124,Tryz.ntmps124
 go_wp2_with fail
 all_goals
  go_ret
  refine ⟨ew ?_,Below.refl _ _⟩;rw [Bool.eq_iff_iff];simp
  try omega
structure FnAt (w:World) (b:Nat) (n:Nat) (f:Nat→FuncId) (caps:Nat→Array Value) (p:Nat→UInt8→Bool):Prop where
 cell:∀i,i<n→w.cell? ⟨b,i,none⟩=some (.func (.func (f i)) #[] (caps i))
 enter:∀i,i<n→∀args W,Sem.run Tryz.prog (callFunc (f i) args) W=.ok (.enter (f i) args) W
 kind:∀i,i<n→IsKind w (f i) (caps i) (p i)
theorem IsKind.later {w W:World} {f:FuncId} {A:Array Value} {p:UInt8→Bool} (h:IsKind w f A p) (hb:Below w.heap.size w W):IsKind W f A p:=fun c V hV=>h c V (hb.trans (hV.mono hb.size))
def ey (p:Nat→UInt8→Bool) (c:UInt8):Nat→Nat→Int
 | 0,_=>-1
 | m+1,i=>if p i c then (i:Int) else ey p c m (i+1)
theorem yu (f:FuncId) (A:Array Value) (p:UInt8→Bool) (c:UInt8) (d:Nat) (w:World) (D:∀args W,Sem.run Tryz.prog (callFunc f args) W=.ok (.enter f args) W) (hk:IsKind w f A p) (hd:w.cell? ⟨d,0,none⟩=some (.int .u8 (c.toNat:Int))) :
    Calls Tryz.prog 127 #[.func (.func f) #[] A,.pointer (some ⟨d,0,none⟩)] w fun e w'=>e=.returned (.bool (p c))∧Below w.heap.size w w':=by
 have HK:=zh (hk c w (Below.refl _ _));have hc:=u8i c;clear hk;generalize p c=q at *;go_enter Tryz.func127,Tryz.ntmps127
 go_wp2_with fail
 refine HK.o.mono ?_;rintro e w1 ⟨rfl,B⟩;have C:=zh B;clear B;go_wp2_with fail
 go_ret
 exact ⟨rfl,C.o⟩
theorem uT (b n d:Nat) (c:UInt8) (f:Nat→FuncId) (B:Nat→Array Value) (p:Nat→UInt8→Bool) (w:World) (hn:n≤1000) (hf:FnAt w b n f B p) (hd:w.cell? ⟨d,0,none⟩=some (.int .u8 (c.toNat:Int))) :
    Calls Tryz.prog 171 #[.slice (some ⟨b,0,none⟩) n n,.func (.func 127) #[] #[.pointer (some ⟨d,0,none⟩)]] w fun e w'=>e=.returned (.int .i64 (ey p c n 0))∧Below w.heap.size w w':=by
 have HF:=zh hf;have HD:=zh hd;clear hf hd;go_enter Tryz.func171,Tryz.ntmps171
 go_wp2_with fail
 go_loopw [8] (fun s8 wr=>∃i:Nat,i≤n∧s8=.int .i64 i∧ey p c n 0=ey p c (n-i) i∧Below w.heap.size w wr) (fun s8 _=>n-(intOf s8).toNat)
 case atStart=>exact ⟨0,Nat.zero_le _,rfl,rfl,Below.refl _ _⟩
 case round =>
  obtain ⟨i,hi,rfl,F,G⟩:=hrel;have E:=zh F;have C:=zh G;clear F G;by_cases D:i<n
  ·have A:=HF.o.cell i D
   have y0:=(bh C.o _ _ (az A)).trans A;have HC:=zh (yu (f i) (B i) (p i) c d wr (HF.o.enter i D) ((HF.o.kind i D).later C.o) ((bh C.o _ _ (az HD.o)).trans HD.o))
   have HN:Hd (ey p c (n-i) i=if p i c then (i:Int) else ey p c (n-(i+1)) (i+1)):=zh (by
     rw [show n-i=(n-(i+1))+1 by omega];rfl)
   clear A;generalize p i c=q at *;go_wp2_with fail
   refine HC.o.mono ?_;rintro e w1 ⟨rfl,H⟩;have I:=zh (am C.o H);clear H
   cases q
   ·go_wp2_with fail
    go_roundw
    case rel=>exact ⟨i+1,by omega,by go_num,by rw [E.o,HN.o];simp,I.o⟩
    case measure=>simp [intOf];omega
   ·go_wp2_with fail
    go_ret
    exact ⟨eQ (by rw [E.o,HN.o];simp),I.o⟩
  ·have J:i=n:=by omega
   subst J;clear D;go_wp2_with fail
   go_ret
   exact ⟨eQ (by rw [E.o,Nat.sub_self];rfl),C.o⟩
theorem vW (b n d:Nat) (c:UInt8) (f:Nat→FuncId) (A:Nat→Array Value) (p:Nat→UInt8→Bool) (w:World) (hn:n≤1000) (hf:FnAt w b n f A p) (hd:w.cell? ⟨d,0,none⟩=some (.int .u8 (c.toNat:Int))) :
    Calls Tryz.prog 126 #[.slice (some ⟨b,0,none⟩) n n,.func (.func 127) #[] #[.pointer (some ⟨d,0,none⟩)]] w fun e w'=>e=.returned (.bool (decide (0≤ey p c n 0)))∧Below w.heap.size w w':=by
 have HC:=zh (uT b n d c f A p w hn hf hd);clear hf hd;generalize ey p c n 0=x at *;go_enter Tryz.func126,Tryz.ntmps126
 go_wp2_with fail
 refine HC.o.mono ?_;rintro e w1 ⟨rfl,B⟩;have C:=zh B;clear B;go_wp2_with fail
 go_ret
 exact ⟨rfl,C.o⟩
theorem FnAt.later {w W:World} {b n:Nat} {f:Nat→FuncId} {A:Nat→Array Value} {p:Nat→UInt8→Bool} (h:FnAt w b n f A p) (hb:Below w.heap.size w W):FnAt W b n f A p:=
 ⟨fun i hi=>(bh hb _ _ (az (h.cell i hi))).trans (h.cell i hi),h.enter,fun i hi=>(h.kind i hi).later hb⟩
theorem rG (a b n:Nat) (f:Nat→FuncId) (A:Nat→Array Value) (p:Nat→UInt8→Bool) (w:World) (hn:n≤1000) (hf:FnAt w b n f A p) (ha:w.cell? ⟨a,0,none⟩=some (.slice (some ⟨b,0,none⟩) n n)) :
    IsKind w 125 #[.pointer (some ⟨a,0,none⟩)] (fun c=>decide (0≤ey p c n 0)):=by
 intro c W hW;show Calls Tryz.prog 125 #[.int .u8 (c.toNat:Int),.pointer (some ⟨a,0,none⟩)] W _
 have B:=ag (Below.refl W.heap.size W) (.cells #[.int .u8 (c.toNat:Int)] 5);have HC:=zh (vW b n W.heap.size c f A p (W.alloc (.cells #[.int .u8 (c.toNat:Int)] 5)) hn (hf.later (hW.trans (B.mono hW.size))) (aA _ _ _ _ _ _ rfl rfl));have g1:=(bh hW _ _ (az ha)).trans ha;have F:=az g1;have E:=zh B;clear hf ha hW B;dsimp only;generalize decide (0≤ey p c n 0)=x at *;go_enter Tryz.func125,Tryz.ntmps125
 go_wp2_with fail
 refine HC.o.mono ?_;rintro e w1 ⟨rfl,C⟩;have D:=zh (am E.o C);clear C;go_wp2_with fail
 go_ret
 exact ⟨rfl,D.o⟩
theorem sw (s0:Option Addr) (n cap:Nat) (w:World):Calls Tryz.prog 94 #[.slice s0 n cap] w fun e w'=>e=.returned (.func (.func 125) #[] #[.pointer (some ⟨w.heap.size,0,none⟩)])∧w'=w.alloc (.cells #[.slice s0 n cap] 211):=by
 go_enter Tryz.func94,Tryz.ntmps94
 go_wp2_with fail
 go_ret
 exact ⟨rfl,rfl⟩
theorem mA (s0:Option Addr) (cap:Nat) (s:List UInt8) (a:Nat) (w:World) (hs:SrcAt w s0 s) (ha:a≤s.length) (hl:s.length≤1152921504606846976) :
    Calls Tryz.prog 68 #[.slice s0 s.length cap,.int .i64 a] w fun e w'=>e=.returned (.int .i64 (bD s a))∧Below w.heap.size w w':=by
 have HS:=zh hs;have X:=zh (fun (W:World) (hW:Below w.heap.size w W) (k:Nat) (hk:k≤s.length)=>iU s0 cap s k 90 #[] d9 W (hs.later hW) hk hl (fun _ _=>Tryz.call90 _ _) (sO W));have V:=zh (fun (W:World) (hW:Below w.heap.size w W) (k:Nat) (hk:k≤s.length)=>iU s0 cap s k 92 #[] dY W (hs.later hW) hk hl (fun _ _=>Tryz.call92 _ _) (vc W));clear hs;go_enter Tryz.func68,Tryz.ntmps68
 go_wp2_with fail
 go_loopw [1] (fun s1 wr=>∃k:Nat,k≤s.length∧s1=.int .i64 k∧bD s a=bD s k∧Below w.heap.size w wr) (fun s1 _=>s.length-(intOf s1).toNat)
 case atStart=>exact ⟨a,ha,rfl,rfl,Below.refl _ _⟩
 case round =>
  obtain ⟨k,hk,rfl,N,M⟩:=hrel;have K:=zh (N.trans (pP s k));have R:=zh M;clear N M;go_wp2_with fail
  refine (X.o _ R.o k hk).mono ?_;rintro e w1 ⟨rfl,P⟩;have G:=zh (am R.o P);have d:=eR d9 s k;have Z:=fj (p:=d9) hk;have E:=zh (mH (p:=d9) (s:=s) (a:=k));clear P;generalize bg d9 s k=q at *;by_cases hq:q=s.length
  ·have hd:((q:Int)==(s.length:Int))=true:=by simp [hq]
   have HF:Hd (bD s a=q):=zh (by rw [K.o,qA (by omega)]);clear hq;go_wp2_with fail
   go_ret
   exact ⟨eQ (by rw [HF.o]),G.o⟩
  ·have B:q<s.length:=by omega
   have hd:((q:Int)==(s.length:Int))=false:=by simp;omega
   obtain ⟨b,off,S,T,C⟩:=HS.o (by omega);subst S;have D:s.getD q 0=s[q]:=by rw [List.getD_eq_getElem?_getD,List.getElem?_eq_getElem B];rfl
   have y0:=(bh G.o _ _ T).trans (C q B);rw [D] at y0;have Q:=tO s[q] 35;have U:=zh (te B (E.o B));have J:=zh (ph B);have F:=zh (vH B);clear C D;have A:(((s[q].toNat:Nat):Int)==35)=(s[q]==35):=Q;generalize (s[q]==35)=z at *;generalize s[q].toNat=c at *;clear Q;have H:((c:Int) !=35)=!z:=by rw [←A];rfl
   cases z
   ·have hz:((c:Int) !=35)=true:=H
    have HF:Hd (bD s a=q):=zh (by rw [K.o,U.o rfl]);clear H A;go_wp2_with fail
    go_ret
    exact ⟨eQ (by rw [HF.o]),G.o⟩
   ·have hz:((c:Int) !=35)=false:=H
    have HF:Hd (bD s a=bD s (bg dY s q)):=zh (by rw [K.o,J.o rfl]);have L:=F.o rfl;clear H A;go_wp2_with fail
    refine (V.o _ G.o q (by omega)).mono ?_;rintro e w2 ⟨rfl,O⟩;have Y:=zh (am G.o O);have I:=fj (p:=dY) (show q≤s.length by omega);clear O;generalize bg dY s q=q2 at *;go_wp2_with fail
    go_roundw
    case rel=>exact ⟨q2,I,rfl,HF.o,Y.o⟩
    case measure=>simp [intOf];omega
end
section
section
open Go.RowKit
theorem fd {s:List UInt8} {a b:Nat} (hb:b≤s.length):(cR s a b).length=b-a:=by
 unfold cR;rw [List.length_take,List.length_drop];omega
theorem pU {s:List UInt8} {a b i:Nat} (h:a+i<b):(cR s a b).getD i 0=s.getD (a+i) 0:=by
 unfold cR;rw [List.getD_eq_getElem?_getD,List.getD_eq_getElem?_getD,List.getElem?_take,if_pos (by omega),List.getElem?_drop]
theorem SrcAt.cut {w:World} {b off:Nat} {s:List UInt8} {x y:Nat} (h:SrcAt w (some ⟨b,off,none⟩) s) (hy:y≤s.length):SrcAt w (some ⟨b,off+x,none⟩) (cR s x y):=by
 intro h0;rw [fd hy] at h0;obtain ⟨b',off',e,B,A⟩:=h (by omega);injection e with e
 injection e with e1 e2
 subst e1 e2;refine ⟨b,off+x,rfl,B,fun i hi=>?_⟩;rw [fd hy] at hi;rw [pU (by omega),Nat.add_assoc];exact A (x+i) (by omega)
def Al:Option Nat→Value
 | none=>.tuple #[.int .i64 0,.bool false]
 | some n=>.tuple #[.int .i64 (n:Int),.bool true]
theorem uZ (c:UInt8) (r:List UInt8) (n:Nat):ir (c :: r) n=if (9223372036854775807-(c.toNat-48)) / 10<n then none else ir r (10*n+(c.toNat-48)):=rfl
theorem sH (s0:Option Addr) (cap:Nat) (s:List UInt8) (w:World) (hs:SrcAt w s0 s) (hl:s.length≤100000) (hd:∀i,i<s.length→cP (s.getD i 0)=true) :
    Calls Tryz.prog 96 #[.slice s0 s.length cap] w fun e w'=>e=.returned (Al (ir s 0))∧Below w.heap.size w w':=by
 have HS:=zh hs;have HD:=zh hd;clear hs hd;go_enter Tryz.func96,Tryz.ntmps96
 go_wp2_with fail
 go_loopw [4,10] (fun s4 s10 wr=>∃k n:Nat,k≤s.length∧s10=.int .i64 k∧s4=.int .i64 n∧(n:Int)≤9223372036854775807∧ir s 0=ir (s.drop k) n∧w=wr) (fun _ s10 _=>s.length-(intOf s10).toNat)
 case atStart=>exact ⟨0,0,Nat.zero_le _,rfl,rfl,by simp,rfl,rfl⟩
 case round =>
  obtain ⟨k,n,hk,rfl,rfl,hn,D,rfl⟩:=hrel;have HN:=zh D;clear D;by_cases E:k<s.length
  ·obtain ⟨b,off,H,O,C⟩:=HS.o (by omega)
   subst H;have y0:=C k E;have A:=HD.o k E;have F:s.getD k 0=s[k]:=by rw [List.getD_eq_getElem?_getD,List.getElem?_eq_getElem E];rfl
   have HX:=zh (uZ s[k] (s.drop (k+1)) n);have M:=zh (jj E);rw [F] at y0 A;unfold cP at A;simp only [Bool.and_eq_true,decide_eq_true_eq] at A
   obtain ⟨d1,d2⟩:=A;clear C F;generalize s[k]=ch at *;generalize J:ch.toNat=c at *;have K:IntKind.u8.wrap ((c:Int)-48)=(c:Int)-48:=IntWalk.u8_in _ (by omega);obtain ⟨d,rfl⟩:∃d,c=d+48:=⟨c-48,by omega⟩
   have N:0≤((d+48:Nat):Int)-48∧((d+48:Nat):Int)-48≤9:=by omega
   have G:Hd (ir s 0=if (9223372036854775807-d) / 10<n then none else ir (s.drop (k+1)) (10*n+d)):=zh (by
     rw [HN.o,M.o,HX.o,Nat.add_sub_cancel])
   clear J;by_cases B:(9223372036854775807-d) / 10<n
   ·have L:(9223372036854775807-(d:Int)) / 10<(n:Int):=by omega
    have HF:Hd (ir s 0=none):=zh (by rw [G.o,if_pos B]);clear B;go_wp2_with fail
    go_ret2
    exact ⟨by rw [HF.o];rfl,Below.refl _ _⟩
   ·have L:¬((9223372036854775807-(d:Int)) / 10<(n:Int)):=by omega
    have HF:Hd (ir s 0=ir (s.drop (k+1)) (10*n+d)):=zh (by rw [G.o,if_neg B]);clear B;go_wp2_with fail
    go_roundw
    case rel=>exact ⟨k+1,10*n+d,by omega,by go_num,by go_num,by omega,HF.o,by first | rfl | trivial⟩
    case measure=>simp [intOf];omega
  ·have I:k=s.length:=by omega
   subst I;have HF:Hd (ir s 0=some n):=zh (by rw [HN.o,List.drop_length];rfl);clear E;go_wp2_with fail
   go_ret2
   exact ⟨by rw [HF.o];rfl,Below.refl _ _⟩
theorem yl (s:ByteArray) (w:World):Calls Tryz.prog 95 #[.string s] w fun e w'=>e=.returned (.bool (gQ s.toList))∧w=w':=by
 have HW:Hd (∀l,s.toList=l→gQ s.toList=gQ l):=zh (fun l h=>by rw [h])
 have HN:Hd ((∀l∈wordTab,(s.toList==l)=false)→gQ s.toList=false):=zh (fun h=>by
   unfold gQ;rw [Bool.eq_false_iff];intro hc;have:=h _ (List.contains_iff_mem.1 hc);simp at this)
 generalize gQ s.toList=q at *;go_enter Tryz.func95,Tryz.ntmps95
 go_wp2_with fail
 all_goals first
  | (exfalso;simp_all;done)
  | (go_ret
     first
       | (refine ⟨ew ?_,rfl⟩;rw [HW.o _ (eq_of_beq (by assumption))];rfl)
       | (refine ⟨ew ?_,rfl⟩;rw [HN.o (by simp only [wordTab,List.forall_mem_cons];simp only [*];simp)]))
end
section
open Go.RowKit
theorem CX {s:List UInt8} {a b j:Nat} (hb:b≤s.length) (hj:j<(cR s a b).length):(cR s a b)[j]=s.getD (a+j) 0:=by
 rw [fd hb] at hj;rw [←pU (b:=b) (by omega),List.getD_eq_getElem?_getD,List.getElem?_eq_getElem (by rw [fd hb];exact hj)];rfl
theorem nW {w:World} {b off:Nat} {s:List UInt8} {x y:Nat} (h:SrcAt w (some ⟨b,off,none⟩) s) (hy:y≤s.length) (c n:Nat) (hn:n=y-x) :
    (convert 30 9 (.slice (some ⟨b,off+x,none⟩) n c)).run Tryz.prog w=.ok (.string ⟨(cR s x y).toArray⟩) w:=by
 have hl:=fd (a:=x) hy;subst hn;rw [←hl];refine run_convert_bytes_back w 30 9 5 ⟨b,off+x,none⟩ c (cR s x y) Tryz.underlying30 Tryz.underlying5 Tryz.underlying9 (fun j hj=>?_);obtain ⟨b',off',e,_,A⟩:=h (by omega);injection e with e
 injection e with e1 e2
 subst e1 e2;rw [Go.WideShapes.add_plain,Nat.add_assoc,CX hy hj];exact A (x+j) (by rw [hl] at hj;omega)
theorem yf (s0:Option Addr) (n cap:Nat) (s:List UInt8) (w:World) (hn:n=s.length) (hs:SrcAt w s0 s) (hl:s.length≤100000) (hd:∀i,i<s.length→cP (s.getD i 0)=true) :
    Calls Tryz.prog 96 #[.slice s0 n cap] w fun e w'=>e=.returned (Al (ir s 0))∧Below w.heap.size w w':=by
 subst hn;exact sH s0 cap s w hs hl hd
theorem xU {r:List UInt8} (h:iE r=true):bP r=r:=by
 match r,h with
 | [],h=>rfl
 | [a],h=>simp [bP,h]
 | [a,b],h=>simp [bP,h]
 | a :: b :: c :: t,h=>simp [iE,signTab] at h
theorem Af {r:List UInt8} (h:iE r=false) (hl:r.length≤2):bP r=bP r.dropLast:=by
 match r,h,hl with
 | [],_,_=>rfl
 | [a],h,_=>simp [bP,h]
 | [a,b],h,_ =>
  show (if iE [a,b] then _ else _)=_
  rw [h];rfl
theorem qz (r:ByteArray):(⟨r.toList.toArray⟩:ByteArray)=r:=by
 rw [ByteArray.toList_eq]
theorem tW {a b:ByteArray} (h:a=b):Ending.returned (.string a)=.returned (.string b):=by rw [h]
theorem xX (b off cap:Nat) (s:List UInt8) (a:Nat) (w:World) (hs:SrcAt w (some ⟨b,off,none⟩) s) (ha:a<s.length) (hl:s.length≤100000) (hc:s.length≤cap) :
    Calls Tryz.prog 98 #[.slice (some ⟨b,off,none⟩) s.length cap,.int .i64 a] w fun e w'=>e=.returned (.string ⟨(bP (cR s a (min (a+2) s.length))).toArray⟩)∧w=w':=by
 have key:∀y,min (a+2) s.length=y→a<y→y≤s.length→y≤a+2→Calls Tryz.prog 98 #[.slice (some ⟨b,off,none⟩) s.length cap,.int .i64 a] w fun e w'=>e=.returned (.string ⟨(bP (cR s a y)).toArray⟩)∧w=w':=by
  intro y hy h1 h2 h3;have kc:=nW hs h2 (cap-a) (y-a) rfl;have I:=fd (a:=a) h2;have HL:=zh I;generalize cR s a y=l at *;clear I hs;have F:min ((a:Int)+2) (s.length:Int)=(y:Int):=by omega
  have G:y-a≤2:=by omega
  have L:=zh G;clear hy G;go_enter Tryz.func98,Tryz.ntmps98
  go_wp2_with fail
  go_step3
  go_wp2_with fail
  go_step3
  go_wp2_with fail
  clear kc F;go_loopg [5] 2 (fun g s5 wr=>∃r:ByteArray,s5=.string r∧r.toList.length≤g∧g≤2∧bP l=bP r.toList∧wr=w)
  case atStart=>exact ⟨_,rfl,by rw [ByteArray.toList_eq];show l.length≤2;rw [HL.o];exact L.o,Nat.le_refl _,by rw [ByteArray.toList_eq],rfl⟩
  case round =>
   obtain ⟨r,rfl,K,P,H,rfl⟩:=hrel;have E:=zh H;clear H;have D:r.size=r.toList.length:=by rw [ByteArray.toList_eq];rfl
   have M:=zh D;by_cases h0:r.toList=[]
   ·have hd:(!r.toList.isEmpty)=false:=by rw [h0];rfl
    have HF:Hd (bP l=r.toList):=zh (by rw [E.o,h0];rfl);clear h0 D;go_wp2_with fail
    (try rw [Exit.noGoto_ret])
    go_ret
    exact ⟨tW (by rw [HF.o,qz]),rfl⟩
   have hd:(!r.toList.isEmpty)=true:=by cases hq:r.toList with
    | nil=>exact absurd hq h0
    | cons x t=>rfl
   have C:1≤r.toList.length:=by
    rcases Nat.eq_zero_or_pos r.toList.length with h | h
    ·exact absurd (List.eq_nil_of_length_eq_zero h) h0
    ·exact h
   obtain ⟨g2,rfl⟩:∃g2,gk=g2+1:=⟨gk-1,by omega⟩
   cases hsg:iE r.toList
   ·have O:1≤(r.size:Int):=by omega
    have N:(r.size:Int)≤2:=by omega
    have A:∀t∈signTab,(r.toList==t)=false:=fun t ht=>by
     rw [Bool.eq_false_iff];intro hc;have e:=eq_of_beq hc;rw [e] at hsg;unfold iE at hsg;rw [List.contains_iff_mem.2 ht] at hsg
     cases hsg
    have f0:(r.toList==[61,61])=false:=A _ (by simp [signTab]);have f1:(r.toList==[33,61])=false:=A _ (by simp [signTab]);have f2:(r.toList==[60,61])=false:=A _ (by simp [signTab]);have f3:(r.toList==[62,61])=false:=A _ (by simp [signTab]);have f4:(r.toList==[38,38])=false:=A _ (by simp [signTab]);have f5:(r.toList==[124,124])=false:=A _ (by simp [signTab]);have f6:(r.toList==[40])=false:=A _ (by simp [signTab]);have f7:(r.toList==[41])=false:=A _ (by simp [signTab]);have f8:(r.toList==[123])=false:=A _ (by simp [signTab]);have f9:(r.toList==[125])=false:=A _ (by simp [signTab]);have f10:(r.toList==[44])=false:=A _ (by simp [signTab]);have f11:(r.toList==[59])=false:=A _ (by simp [signTab]);have f12:(r.toList==[58])=false:=A _ (by simp [signTab]);have f13:(r.toList==[61])=false:=A _ (by simp [signTab]);have f14:(r.toList==[60])=false:=A _ (by simp [signTab]);have f15:(r.toList==[62])=false:=A _ (by simp [signTab]);have f16:(r.toList==[43])=false:=A _ (by simp [signTab]);have f17:(r.toList==[45])=false:=A _ (by simp [signTab]);have f18:(r.toList==[42])=false:=A _ (by simp [signTab]);have f19:(r.toList==[47])=false:=A _ (by simp [signTab]);have f20:(r.toList==[37])=false:=A _ (by simp [signTab]);have f21:(r.toList==[33])=false:=A _ (by simp [signTab])
    have HX:Hd (bP l=bP (r.extract 0 (r.size-1)).toList∧(r.extract 0 (r.size-1)).toList.length≤g2):=zh (by
      have e:(r.extract 0 (r.size-1)).toList=r.toList.dropLast:=by
        rw [ByteArray.toList_eq,ByteArray.toList_eq];simp [List.dropLast_eq_take]
      rw [e];exact ⟨by rw [E.o,Af hsg (by omega)],by rw [List.length_dropLast];omega⟩)
    clear A hsg D h0 C;go_wp2_with fail
    go_roundg g2
    case measure=>omega
    case rel=>exact ⟨_,rfl,HX.o.2,by omega,HX.o.1,rfl⟩
   ·have B:r.toList∈signTab:=List.contains_iff_mem.1 hsg
    have J:=zh (show bP l=r.toList from by rw [E.o,xU hsg]);have hr:=(qz r).symm;clear hsg D h0 C hd K;simp only [signTab,List.mem_cons,List.not_mem_nil,or_false] at B
    rcases B with h | h | h | h | h | h | h | h | h | h | h | h | h | h | h | h | h | h | h | h | h | h
    all_goals
     rw [h] at hr;have HF:=zh (J.o.trans h);clear J E M h;subst hr;go_wp2_with fail
     (try rw [Exit.noGoto_ret])
     go_ret
     exact ⟨tW (by rw [HF.o]),rfl⟩
 by_cases h2:a+2≤s.length
 ·have e:min (a+2) s.length=a+2:=by omega
  rw [e];exact key (a+2) e (by omega) h2 (Nat.le_refl _)
 ·have e:min (a+2) s.length=s.length:=by omega
  rw [e];exact key s.length e ha (Nat.le_refl _) (by omega)
end
end
section
open Go.RowKit
theorem eM {a b:World} (h:Below a.heap.size a b) {k j:Nat} (hk:a.heap.size≤k) (u:Value):Below a.heap.size a (b.setCell ⟨k,j,none⟩ u):=dp h (p:=⟨k,j,none⟩) hk u
def tkV (k:Int) (t:ByteArray) (n p:Int):Value:=.agg #[.int .i64 k,.string t,.int .i64 n,.int .i64 p]
def yz (w:World) (r:Except Int (Tk×Nat)) (e:Ending) (w':World):Prop:=
 (match r with
  | .error er=>∃k t n p,e=.returned (.tuple #[tkV k t n p,.int .i64 0,.int .i64 er])
  | .ok (t,q)=>e=.returned (.tuple #[tkV t.kind t.text t.num t.pos,.int .i64 (q:Int),.int .i64 0]))∧Below w.heap.size w w'
theorem lC (lo hi:Int) (w:World):Calls Tryz.prog 93 #[.int .u8 lo,.int .u8 hi] w fun e w'=>e=.returned (.func (.func 124) #[] #[.pointer (some ⟨w.heap.size,0,none⟩),.pointer (some ⟨w.heap.size+1,0,none⟩)])∧Below w.heap.size w w' ∧
    w'.cell? ⟨w.heap.size,0,none⟩=some (.int .u8 lo)∧w'.cell? ⟨w.heap.size+1,0,none⟩=some (.int .u8 hi)∧w'.heap.size=w.heap.size+2:=by
 go_enter Tryz.func93,Tryz.ntmps93
 go_wp2_with fail
 go_ret
 exact ⟨rfl,ag (ag (Below.refl _ _) _) _,aq _ (aA _ _ _ _ _ _ rfl rfl),aA _ _ _ _ _ _ (ah _ _) rfl,by rw [ah,ah]⟩
theorem IsKind.two {w:World} {f:FuncId} {x y:Value} {p:UInt8→Bool} (h:IsKind w f #[x,y] p) (c:UInt8) (W:World) (hW:Below w.heap.size w W):Calls Tryz.prog f #[.int .u8 (c.toNat:Int),x,y] W fun e W'=>e=.returned (.bool (p c))∧Below W.heap.size W W':=h c W hW
theorem IsKind.cast {w:World} {f:FuncId} {A:Array Value} {p q:UInt8→Bool} (h:IsKind w f A p) (B:p=q):IsKind w f A q:=B▸h
theorem yc (s0:Option Addr) (n cap:Nat) (w:World):Calls Tryz.prog 94 #[.slice s0 n cap] w fun e w'=>e=.returned (.func (.func 125) #[] #[.pointer (some ⟨w.heap.size,0,none⟩)])∧Below w.heap.size w w'∧w'.cell? ⟨w.heap.size,0,none⟩=some (.slice s0 n cap):=
 (sw s0 n cap w).mono fun e w' ⟨h1,h2⟩=>⟨h1,by rw [h2];exact ag (Below.refl _ _) _,by rw [h2];exact aA _ _ _ _ _ _ rfl rfl⟩
theorem fn3 {w:World} {b:Nat} {k0 k1 k2:Array Value} {q0 q1 q2:UInt8→Bool} (h0:w.cell? ⟨b,0,none⟩=some (.func (.func 124) #[] k0)) (h1:w.cell? ⟨b,1,none⟩=some (.func (.func 124) #[] k1)) (h2:w.cell? ⟨b,2,none⟩=some (.func (.func 124) #[] k2))
    (g0:IsKind w 124 k0 q0) (g1:IsKind w 124 k1 q1) (g2:IsKind w 124 k2 q2):FnAt w b 3 (fun _=>124) (fun i=>if i=0 then k0 else if i=1 then k1 else k2) (fun i=>if i=0 then q0 else if i=1 then q1 else q2):=by
 refine ⟨fun i hi=>?_,fun i _ args W=>Tryz.call124 _ _,fun i hi=>?_⟩
 ·rcases (show i=0∨i=1∨i=2 by omega) with rfl | rfl | rfl
  ·exact h0
  ·exact h1
  ·exact h2
 ·rcases (show i=0∨i=1∨i=2 by omega) with rfl | rfl | rfl
  ·exact g0
  ·exact g1
  ·exact g2
theorem tJ (l:List UInt8):(bP l).length≤2:=by
 match l with
 | []=>simp [bP]
 | [a] =>
  simp only [bP]
  split<;>simp
 | a :: b :: t =>
  simp only [bP]
  split
  ·simp
  ·split<;>simp
theorem nZ (p:Nat→UInt8→Bool) (h0:p 0=gh) (h1:p 1=cP) (h2:p 2=mP):(fun c=>decide (0≤ey p c 3 0))=cQ:=by
 funext c
 unfold cQ;simp only [ey,h0,h1,h2]
 cases gh c<;>cases cP c<;>cases mP c<;>rfl
theorem yN (b off cap:Nat) (s:List UInt8) (a:Nat) (w:World) (hs:SrcAt w (some ⟨b,off,none⟩) s) (ha:a<s.length) (hl:s.length≤100000) (hc:s.length≤cap) :
    Calls Tryz.prog 69 #[.slice (some ⟨b,off,none⟩) s.length cap,.int .i64 a] w (yz w (cW s a)):=by
 have HS:=zh hs;obtain ⟨b',off',e,hy,C⟩:=hs (by omega);injection e with e
 injection e with e1 e2
 subst e1 e2;have y0:=C a ha;clear C hs;have h1:s.getD a 0=s[a]:=by rw [List.getD_eq_getElem?_getD,List.getElem?_eq_getElem ha];rfl
 have HC:Hd (s.getD a 0=s[a]):=zh h1
 have HQ:Hd (∀p:UInt8→Bool,p s[a]=true→a<bg p s a):=zh (fun p hp=>by
   rw [eW ha hp];have:=eR p s (a+1);omega)
 rw [h1] at y0;clear h1;generalize s[a]=c at *;have hQ:=u8i c;go_enter Tryz.func69,Tryz.ntmps69
 go_wp2_with fail
 have hg:Below w.heap.size w ((w.alloc (.cells #[.int .i64 0,.string ⟨#[]⟩,.int .i64 0,.int .i64 0] 157)).alloc (.cells #[.int .i64 0,.string ⟨#[]⟩,.int .i64 0,.int .i64 (a:Int)] 157)):=ag (ag (Below.refl _ _) _) _;refine (lC _ _ _).mono ?_;rintro e w1 ⟨rfl,m,d1,d2,he⟩;rw [ah,ah] at he d1 d2;have hN:=zh (am hg m);obtain ⟨ar,f⟩:∃arr,w1.heap[w.heap.size]?=some (.cells arr 157 (0,0))∧arr=#[.int .i64 0,.string ⟨#[]⟩,.int .i64 0,.int .i64 0]:=⟨_,(m.block _ (by rw [ah,ah];omega)).trans (ax _ _ _ _ (aj _ _ _ rfl)),rfl⟩
 obtain ⟨at_,Z⟩:∃arr,w1.heap[w.heap.size+1]?=some (.cells arr 157 (0,0))∧arr=#[.int .i64 0,.string ⟨#[]⟩,.int .i64 0,.int .i64 (a:Int)]:=⟨_,(m.block _ (by rw [ah,ah];omega)).trans (aj _ _ _ (ah _ _)),rfl⟩
 obtain ⟨f,rfl⟩:=f;obtain ⟨Z,rfl⟩:=Z;have hF:=zh f;have hC:=zh Z;clear f Z m hg;go_wp2_with fail
 refine (lC _ _ _).mono ?_;rintro e w2 ⟨rfl,R,l1,l2,hu⟩;have h9:=zh (am hN.o R);have hM:=zh ((bh R _ _ (by omega)).trans d1);have hL:=zh ((bh R _ _ (by omega)).trans d2);have ho:=zh l1;have hn:=zh l2;have hE:=zh ((R.block _ (by omega)).trans hF.o);have hB:=zh ((R.block _ (by omega)).trans hC.o);rw [he] at hu ho hn;have x0:=(bh h9.o _ _ hy).trans y0;have Y:=zh (fun (W:World) (hW:Below w2.heap.size w2 W)=>IsKind.cast (q:=gh) (io 97 122 _ _ W ((bh hW _ _ (by omega)).trans ho.o) ((bh hW _ _ (by omega)).trans hn.o)) rfl);have P:=zh (fun (W:World) (hW:Below w2.heap.size w2 W)=>IsKind.cast (q:=cP) (io 48 57 _ _ W ((bh hW _ _ (by omega)).trans hM.o) ((bh hW _ _ (by omega)).trans hL.o)) rfl);clear d1 d2 l1 l2 R y0;go_wp2_with fail
 refine ((Y.o w2 (Below.refl _ _)).two c w2 (Below.refl _ _)).mono ?_;rintro e w3 ⟨rfl,U⟩;have h8:=zh U;have hb:=U.size;have hm:=zh ((U.block _ (by omega)).trans hE.o);have hj:=zh ((U.block _ (by omega)).trans hB.o);clear U
 cases hlet:gh c
 ·have HN:Hd (∀d q:Bool,cP c=d→(c==34)=q→cW s a=if d then (match ir (cR s a (bg cP s a)) 0 with
      | none=>.error 32
      | some n=>.ok (fS 2 [] n a,bg cP s a)) else if q then
        (if bg dI s (a+1)==s.length || s.getD (bg dI s (a+1)) 0 !=34 then .error 31
          else if 64<bg dI s (a+1)-a-1 then .error 32 else .ok (fS 3 (cR s (a+1) (bg dI s (a+1))) 0 a,bg dI s (a+1)+1))
      else (if bP (cR s a (min (a+2) s.length))=[] then .error 31 else .ok (fS 4 (bP (cR s a (min (a+2) s.length))) 0 a,a+(bP (cR s a (min (a+2) s.length))).length))):=zh (fun d q hd hq=>by
    unfold cW;rw [HC.o];simp only [hlet,hd,hq]
    rfl)
  clear hlet x0;go_wp2_with fail
  refine ((P.o w3 h8.o).two c w3 (Below.refl _ _)).mono ?_;rintro e w4 ⟨rfl,M⟩;have r:=zh (h8.o.trans (M.mono hb));have E:=zh (am h9.o r.o);have u:=M.size;have J:=zh ((M.block _ (by omega)).trans hm.o);have H:=zh ((M.block _ (by omega)).trans hj.o);clear M
  cases hdig:cP c
  ·have hh:=tO c 34
   have V:((c.toNat:Int)==34)=(c==34):=hh;have N:=zh (HN.o _ (c==34) hdig rfl);clear hh hdig
   cases hq:(c==34)
   ·rw [hq] at V N
    have hD:=zh (xX b off cap s a w4 (HS.o.later E.o) (by omega) (by omega) (by omega));have t0:=aa H.o (j:=0) rfl;have t1:=aa H.o (j:=1) rfl;have t2:=aa H.o (j:=2) rfl;have t3:=aa H.o (j:=3) rfl;have tf0:=ae H.o 0;have tf1:=ae H.o 1;have tf2:=ae H.o 2;have tf3:=ae H.o 3;have r0:=aa J.o (j:=0) rfl;have r1:=aa J.o (j:=1) rfl;have r2:=aa J.o (j:=2) rfl;have r3:=aa J.o (j:=3) rfl;have rf0:=ae J.o 0;have rf1:=ae J.o 1;have rf2:=ae J.o 2;have rf3:=ae J.o 3;have hO:((bP (cR s a (min (a+2) s.length))).length:Int)≤2:=by have:=tJ (cR s a (min (a+2) s.length));omega
    generalize bP (cR s a (min (a+2) s.length))=l at *;have X:Hd (cW s a=if l=[] then .error 31 else .ok (fS 4 l 0 a,a+l.length)):=zh (by have h:=N.o;simp at h;exact h);have hS:Hd ((⟨l.toArray⟩:ByteArray).toList=l):=zh (by rw [ByteArray.toList_eq]);clear hq;go_wp2_with fail
    refine hD.o.mono ?_;rintro e w5 ⟨rfl,rfl⟩;by_cases T:l=[]
    ·have HF:Hd (cW s a=.error 31):=zh (by rw [X.o,if_pos T])
     subst T;go_wp2_with fail
     refine bodyPost_ret (v:=.tuple #[tkV 4 ⟨#[]⟩ 0 (a:Int),.int .i64 0,.int .i64 31]) (by simp [results,Tryz.results69,go_sem,tkV,r0,r1,r2,r3]) rfl ?_;rw [HF.o];refine ⟨⟨_,_,_,_,rfl⟩,?_⟩;repeat (with_reducible first | exact E.o | refine aw ?_ | refine dm ?_ _ | refine eM ?_ (by omega) _)
    ·have HF:Hd (cW s a=.ok (fS 4 l 0 a,a+l.length)):=zh (by rw [X.o,if_neg T])
     have hP:l.isEmpty=false:=by cases l with
      | nil=>exact absurd rfl T
      | cons x t=>rfl
     clear T;go_wp2_with fail
     go_region
     go_wp2_with fail
     refine bodyPost_ret (v:=.tuple #[tkV 4 ⟨l.toArray⟩ 0 (a:Int),.int .i64 ((a:Int)+(l.length:Int)),.int .i64 0]) (by simp [results,Tryz.results69,go_sem,tkV,r0,r1,r2,r3]) rfl ?_;rw [HF.o];refine ⟨rfl,?_⟩;repeat (with_reducible first | exact E.o | refine aw ?_ | refine dm ?_ _ | refine eM ?_ (by omega) _)
   ·rw [hq] at V N
    have X:Hd (cW s a=if bg dI s (a+1)==s.length || s.getD (bg dI s (a+1)) 0 !=34 then .error 31
          else if 64<bg dI s (a+1)-a-1 then .error 32 else .ok (fS 3 (cR s (a+1) (bg dI s (a+1))) 0 a,bg dI s (a+1)+1)):=zh (by have h:=N.o;simp only [Bool.false_eq_true,if_false,if_true] at h;exact h)
    clear hq;go_wp2_with fail
    refine (iU _ cap s (a+1) 97 _ dI w4 (HS.o.later E.o) (by omega) (by omega) (fun _ _=>Tryz.call97 _ _) (uJ w4)).mono ?_;rintro e w5 ⟨rfl,B⟩;have L:=zh (am E.o B);have hr:=B.size;have I:=zh ((B.block _ (by omega)).trans J.o);have G:=zh ((B.block _ (by omega)).trans H.o);have O:=zh ((HS.o.later E.o).later B);have q1:=eR dI s (a+1);have q2:=fj (p:=dI) (show a+1≤s.length by omega);clear B;generalize bg dI s (a+1)=q at *;have t0:=aa G.o (j:=0) rfl;have t1:=aa G.o (j:=1) rfl;have t2:=aa G.o (j:=2) rfl;have t3:=aa G.o (j:=3) rfl;have tf0:=ae G.o 0;have tf1:=ae G.o 1;have tf2:=ae G.o 2;have tf3:=ae G.o 3;have r0:=aa I.o (j:=0) rfl;have r1:=aa I.o (j:=1) rfl;have r2:=aa I.o (j:=2) rfl;have r3:=aa I.o (j:=3) rfl;have rf0:=ae I.o 0;have rf1:=ae I.o 1;have rf2:=ae I.o 2;have rf3:=ae I.o 3;by_cases g:q=s.length
    ·have hd:((q:Int)==(s.length:Int))=true:=by simp [g]
     have HF:Hd (cW s a=.error 31):=zh (by rw [X.o,g];simp);clear g;go_wp2_with fail
     refine bodyPost_ret (v:=.tuple #[tkV 0 ⟨#[]⟩ 0 (a:Int),.int .i64 0,.int .i64 31]) (by simp [results,Tryz.results69,go_sem,tkV,r0,r1,r2,r3]) rfl ?_;rw [HF.o];refine ⟨⟨_,_,_,_,rfl⟩,?_⟩;repeat (with_reducible first | exact L.o | refine aw ?_ | refine dm ?_ _ | refine eM ?_ (by omega) _)
    have hd:((q:Int)==(s.length:Int))=false:=by simp;omega
    have hv:q<s.length:=by omega
    obtain ⟨b',off',e,_,C⟩:=O.o (by omega);injection e with e
    injection e with e1 e2
    subst e1 e2;have g0:=C q hv;generalize hx:s.getD q 0=ch at *;have g34:((ch.toNat:Int)==34)=(ch==34):=tO ch 34
    have hG:Hd (∀z,(ch==34)=z→cW s a=if !z then .error 31 else if 64<q-a-1 then .error 32 else .ok (fS 3 (cR s (a+1) q) 0 a,q+1)):=zh (fun z hz=>by
      rw [X.o];have:(q==s.length)=false:=by simp;omega
      simp only [this,Bool.false_or,bne,hz])
    have h5:=zh (hG.o _ rfl);have gn:((ch.toNat:Int) !=34)=!(ch==34):=by rw [←g34];rfl
    have hw:=u8i ch;clear C g hx g34;generalize (ch==34)=z at *;generalize ch.toNat=ch' at *
    cases z
    ·have gn':((ch':Int) !=34)=true:=gn
     have HF:Hd (cW s a=.error 31):=zh (by rw [h5.o];rfl);clear gn;go_wp2_with fail
     refine bodyPost_ret (v:=.tuple #[tkV 0 ⟨#[]⟩ 0 (a:Int),.int .i64 0,.int .i64 31]) (by simp [results,Tryz.results69,go_sem,tkV,r0,r1,r2,r3]) rfl ?_;rw [HF.o];refine ⟨⟨_,_,_,_,rfl⟩,?_⟩;repeat (with_reducible first | exact L.o | refine aw ?_ | refine dm ?_ _ | refine eM ?_ (by omega) _)
    have gn':((ch':Int) !=34)=false:=gn;clear gn;by_cases A:64<q-a-1
    ·have h2:(64:Int)<(q:Int)-(a:Int)-1:=by omega
     have HF:Hd (cW s a=.error 32):=zh (by rw [h5.o,if_neg (by decide),if_pos A]);clear A;go_wp2_with fail
     refine bodyPost_ret (v:=.tuple #[tkV 0 ⟨#[]⟩ 0 (a:Int),.int .i64 0,.int .i64 32]) (by simp [results,Tryz.results69,go_sem,tkV,r0,r1,r2,r3]) rfl ?_;rw [HF.o];refine ⟨⟨_,_,_,_,rfl⟩,?_⟩;repeat (with_reducible first | exact L.o | refine aw ?_ | refine dm ?_ _ | refine eM ?_ (by omega) _)
    have h2:¬(64:Int)<(q:Int)-(a:Int)-1:=by omega
    have HF:Hd (cW s a=.ok (fS 3 (cR s (a+1) q) 0 a,q+1)):=zh (by rw [h5.o,if_neg (by decide),if_neg A]);clear A
    have kd:∀(W:World),(∀k,k≠w.heap.size+1→W.heap[k]?=w5.heap[k]?)→(convert 30 9 (.slice (some ⟨b,off+(a+1),none⟩) (q-(a+1)) (cap-(a+1)))).run Tryz.prog W=.ok (.string ⟨(cR s (a+1) q).toArray⟩) W:=fun W hW=>nW (fun h0=>by
      obtain ⟨b',off',e,y,C⟩:=O.o h0;injection e with e
      injection e with e1 e2
      subst e1 e2;exact ⟨b,off,rfl,by have:=hW b (by omega);rw [Array.getElem?_eq_getElem y] at this;exact af this,fun i hi=>(World.cell?_of_block (w:=w5) (hW b (by omega))).trans (C i hi)⟩) (by omega) (cap-(a+1)) (q-(a+1)) rfl
    have kc1:=kd w5.drew (fun _ _=>rfl);have kc2:=kd (w5.setCell ⟨w.heap.size+1,0,none⟩ (.int .i64 3)).drew (fun k hk=>ak _ _ _ _ hk);generalize cR s (a+1) q=l at *;clear kd;go_wp2_with fail
    go_region
    clear kc1 kc2;go_wp2_with fail
    refine bodyPost_ret (v:=.tuple #[tkV 3 ⟨l.toArray⟩ 0 (a:Int),.int .i64 ((q:Int)+1),.int .i64 0]) (by simp [results,Tryz.results69,go_sem,tkV,r0,r1,r2,r3]) rfl ?_;rw [HF.o];refine ⟨rfl,?_⟩;repeat (with_reducible first | exact L.o | refine aw ?_ | refine dm ?_ _ | refine eM ?_ (by omega) _)
  ·have N:=zh (HN.o _ _ hdig rfl)
   have h4:=zh (HQ.o cP hdig);clear hdig;go_wp2_with fail
   refine (iU _ cap s a 124 _ cP w4 (HS.o.later E.o) (by omega) (by omega) (fun _ _=>Tryz.call124 _ _) (P.o w4 r.o)).mono ?_;rintro e w5 ⟨rfl,B⟩;have L:=zh (am E.o B);have hr:=B.size;have I:=zh ((B.block _ (by omega)).trans J.o);have G:=zh ((B.block _ (by omega)).trans H.o);have q2:=fj (p:=cP) (show a≤s.length by omega);have q3:=h4.o
   have hK:Hd (∀i,i<(cR s a (bg cP s a)).length→cP ((cR s a (bg cP s a)).getD i 0)=true):=zh (fun i hi=>by
     rw [fd q2] at hi;have hf:a+i<s.length:=by omega
     rw [pU (by omega),List.getD_eq_getElem?_getD,List.getElem?_eq_getElem hf];exact oR (p:=cP) (a:=a) (i:=a+i) (by omega) (by omega) hf)
   clear B;generalize bg cP s a=q at *;go_wp2_with fail
   refine (yf _ _ _ (cR s a q) w5 (fd q2).symm ((HS.o.later L.o).cut q2) (by rw [fd q2];omega) hK.o).mono ?_;rintro e w6 ⟨rfl,K⟩;have S:=zh (am L.o K);have D:=zh ((K.block _ (by omega)).trans I.o);have F:=zh ((K.block _ (by omega)).trans G.o);have t0:=aa F.o (j:=0) rfl;have t1:=aa F.o (j:=1) rfl;have t2:=aa F.o (j:=2) rfl;have t3:=aa F.o (j:=3) rfl;have tf0:=ae F.o 0;have tf1:=ae F.o 1;have tf2:=ae F.o 2;have tf3:=ae F.o 3;have r0:=aa D.o (j:=0) rfl;have r1:=aa D.o (j:=1) rfl;have r2:=aa D.o (j:=2) rfl;have r3:=aa D.o (j:=3) rfl;have rf0:=ae D.o 0;have rf1:=ae D.o 1;have rf2:=ae D.o 2;have rf3:=ae D.o 3;clear K
   cases hnum:ir (cR s a q) 0 with
   | none =>
    have HF:Hd (cW s a=.error 32):=zh (by have h:=N.o;simp [hnum] at h;exact h);clear hnum;unfold Al;go_wp2_with fail
    refine bodyPost_ret (v:=.tuple #[tkV 0 ⟨#[]⟩ 0 (a:Int),.int .i64 0,.int .i64 32]) (by simp [results,Tryz.results69,go_sem,tkV,r0,r1,r2,r3]) rfl ?_;rw [HF.o];refine ⟨⟨_,_,_,_,rfl⟩,?_⟩;repeat (with_reducible first | exact S.o | refine aw ?_ | refine dm ?_ _ | refine eM ?_ (by omega) _)
   | some n =>
    have HF:Hd (cW s a=.ok (fS 2 [] n a,q)):=zh (by have h:=N.o;simp [hnum] at h;exact h);clear hnum;unfold Al;go_wp2_with fail
    refine bodyPost_ret (v:=.tuple #[tkV 2 ⟨#[]⟩ (n:Int) (a:Int),.int .i64 (q:Int),.int .i64 0]) (by simp [results,Tryz.results69,go_sem,tkV,r0,r1,r2,r3]) rfl ?_;rw [HF.o];refine ⟨rfl,?_⟩;repeat (with_reducible first | exact S.o | refine aw ?_ | refine dm ?_ _ | refine eM ?_ (by omega) _)
 ·have HN:Hd (cW s a=if gQ (cR s a (bg cQ s a)) then .ok (fS 4 (cR s a (bg cQ s a)) 0 a,bg cQ s a) else if 16<(cR s a (bg cQ s a)).length then .error 32 else .ok (fS 1 (cR s a (bg cQ s a)) 0 a,bg cQ s a)):=zh (by
    unfold cW;rw [HC.o];simp only [hlet,if_true])
  have h4:=zh (HQ.o cQ (by unfold cQ;rw [hlet];rfl));clear hlet x0;go_wp2_with fail
  refine (lC _ _ _).mono ?_;rintro e w4 ⟨rfl,M,u1,u2,u⟩;have r:=zh (h8.o.trans (M.mono hb));have HU:=zh (fun (W:World) (hW:Below w4.heap.size w4 W)=>IsKind.cast (q:=mP) (io 95 95 _ _ W ((bh hW _ _ (by omega)).trans u1) ((bh hW _ _ (by omega)).trans u2)) rfl);have J:=zh ((M.block _ (by omega)).trans hm.o);have H:=zh ((M.block _ (by omega)).trans hj.o);have hR:=zh u;have ht:w3.heap.size+2≤w4.heap.size:=by omega
  clear M u1 u2 u;go_wp2_with fail
  refine (yc _ _ _ _).mono ?_;rintro e w5 ⟨rfl,B,v1⟩;have z5:=B.size;rw [ah] at z5 v1;have h7:=zh (am (ag (Below.refl w4.heap.size w4) _) B);have L:=zh (am (ag r.o _) B)
  have hI:Hd (FnAt w5 w4.heap.size 3 _ _ _):=zh (fn3 (q0:=gh) (q1:=cP) (q2:=mP) ((bh B _ _ (by rw [ah];omega)).trans (aA _ _ _ _ _ _ rfl rfl)) ((bh B _ _ (by rw [ah];omega)).trans (aA _ _ _ _ _ _ rfl rfl)) ((bh B _ _ (by rw [ah];omega)).trans (aA _ _ _ _ _ _ rfl rfl))
    (Y.o w5 L.o) (P.o w5 L.o) (HU.o w5 h7.o))
  have Q:=zh (am h9.o L.o);have hH:=zh (IsKind.cast (q:=cQ) (rG (w4.heap.size+1) w4.heap.size 3 _ _ _ w5 (by omega) hI.o v1) (nZ _ rfl rfl rfl));have I:=zh ((B.block _ (by rw [ah];omega)).trans (ax _ _ _ _ J.o));have G:=zh ((B.block _ (by rw [ah];omega)).trans (ax _ _ _ _ H.o));clear B v1;go_wp2_with fail
  refine (iU _ cap s a 125 _ cQ w5 (HS.o.later Q.o) (by omega) (by omega) (fun _ _=>Tryz.call125 _ _) hH.o).mono ?_;rintro e w6 ⟨rfl,K⟩;have S:=zh (am Q.o K);have h6:=zh K;have z6:=K.size;have D:=zh ((K.block _ (by omega)).trans I.o);have F:=zh ((K.block _ (by omega)).trans G.o);have q1:=eR cQ s a;have q2:=fj (p:=cQ) (show a≤s.length by omega);have q3:=h4.o;clear K;generalize bg cQ s a=q at *;have t0:=aa F.o (j:=0) rfl;have t1:=aa F.o (j:=1) rfl;have t2:=aa F.o (j:=2) rfl;have t3:=aa F.o (j:=3) rfl;have tf0:=ae F.o 0;have tf1:=ae F.o 1;have O:=zh (HS.o.later Q.o |>.later h6.o)
  have kd:∀(W:World),(∀k,k≠w.heap.size+1→W.heap[k]?=w6.heap[k]?)→(convert 30 9 (.slice (some ⟨b,off+a,none⟩) (q-a) (cap-a))).run Tryz.prog W=.ok (.string ⟨(cR s a q).toArray⟩) W:=fun W hW=>nW (fun h0=>by
    obtain ⟨b',off',e,y,C⟩:=O.o h0;injection e with e
    injection e with e1 e2
    subst e1 e2;exact ⟨b,off,rfl,by have:=hW b (by omega);rw [Array.getElem?_eq_getElem y] at this;exact af this,fun i hi=>(World.cell?_of_block (w:=w6) (hW b (by omega))).trans (C i hi)⟩) q2 (cap-a) (q-a) rfl
  have kc1:=kd w6.drew (fun _ _=>rfl);have kc2:=kd (w6.setCell ⟨w.heap.size+1,0,none⟩ (.int .i64 1)).drew (fun k hk=>ak _ _ _ _ hk);generalize cR s a q=l at *;clear kd;go_wp2_with fail
  go_region
  clear kc1 kc2;have hA:Hd (gQ (⟨l.toArray⟩:ByteArray).toList=gQ l):=zh (by rw [ByteArray.toList_eq]);have hT:Hd (((⟨l.toArray⟩:ByteArray).size:Nat)=l.length):=zh rfl;have r0:=aa D.o (j:=0) rfl;have r1:=aa D.o (j:=1) rfl;have r2:=aa D.o (j:=2) rfl;have r3:=aa D.o (j:=3) rfl;have rf0:=ae D.o 0;have rf1:=ae D.o 1;have rf2:=ae D.o 2;have rf3:=ae D.o 3;go_wp2_with fail
  refine (yl _ _).mono ?_;rintro e w7 ⟨rfl,rfl⟩;rw [hA.o]
  cases hwd:gQ l
  ·have N:Hd (cW s a=if 16<l.length then .error 32 else .ok (fS 1 l 0 a,q)):=zh (by rw [HN.o,hwd];rfl)
   clear hwd;by_cases A:16<l.length
   ·have h3:(16:Int)<(l.length:Int):=by omega
    have HF:Hd (cW s a=.error 32):=zh (by rw [N.o,if_pos A]);clear A;go_wp2_with fail
    refine bodyPost_ret (v:=.tuple #[tkV 1 ⟨l.toArray⟩ 0 (a:Int),.int .i64 0,.int .i64 32]) (by simp [results,Tryz.results69,go_sem,tkV,r0,r1,r2,r3]) rfl ?_;rw [HF.o];refine ⟨⟨_,_,_,_,rfl⟩,?_⟩;repeat (with_reducible first | exact S.o | refine aw ?_ | refine dm ?_ _ | refine eM ?_ (by omega) _)
   ·have h3:¬(16:Int)<(l.length:Int):=by omega
    have HF:Hd (cW s a=.ok (fS 1 l 0 a,q)):=zh (by rw [N.o,if_neg A]);clear A;go_wp2_with fail
    refine bodyPost_ret (v:=.tuple #[tkV 1 ⟨l.toArray⟩ 0 (a:Int),.int .i64 (q:Int),.int .i64 0]) (by simp [results,Tryz.results69,go_sem,tkV,r0,r1,r2,r3]) rfl ?_;rw [HF.o];refine ⟨rfl,?_⟩;repeat (with_reducible first | exact S.o | refine aw ?_ | refine dm ?_ _ | refine eM ?_ (by omega) _)
  ·have HF:Hd (cW s a=.ok (fS 4 l 0 a,q)):=zh (by rw [HN.o,hwd];rfl)
   clear hwd;go_wp2_with fail
   refine bodyPost_ret (v:=.tuple #[tkV 4 ⟨l.toArray⟩ 0 a,.int .i64 q,.int .i64 0]) (by simp [results,Tryz.results69,go_sem,tkV,r0,r1,r2,r3]) rfl ?_;rw [HF.o];refine ⟨rfl,?_⟩;repeat (with_reducible first | exact S.o | refine aw ?_ | refine dm ?_ _ | refine eM ?_ (by omega) _)
end
end Go.Proofs.YthgcpfkochikfaaGreat
