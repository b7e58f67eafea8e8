/-
  VerifyBuilt: part 4 of its proof: see the last text.
-/
import Derived.Shelf.Small.Strs
import Derived.Shelf.Strings.Search1
import Derived.Test.YtmlgbkomdhcaoaaGreatDoorRows
import Derived.Test.YtmlgbkomdhcaoaaGreatDoorPv03
import Derived.Test.YtmlgbkomdhcaoaaGreatDoorPv02
import Derived.Deep.LoopGhost
set_option maxRecDepth 100000
set_option maxHeartbeats 16000000
namespace Go.Proofs.YtmlgbkomdhcaoaaGreatDoor
section
open Go.Shelf
def qH:Go.Shelf.Ren:=⟨fun | 137=>79 | 217=>98 | 266=>127 | n=>n,fun | 9=>9 | 5=>5 | 3=>3 | n=>n,fun | n=>n⟩
theorem ys:Go.Proofs.Lays.n137 Tryz.prog qH:={
  mixed:=by kernel_rfl
  f137:=Tryz.func79.trans (congrArg some (by kernel_rfl))
  f217:=Tryz.func98.trans (congrArg some (by kernel_rfl))
  f266:=Tryz.func127.trans (congrArg some (by kernel_rfl))
  t3:=Tryz.underlying3
  a3:=Tryz.isAgg3
  z3:=Tryz.sizeOf3
  v3:=Tryz.zeroValue3
  t5:=Tryz.underlying5
  a5:=Tryz.isAgg5
  z5:=Tryz.sizeOf5
  v5:=Tryz.zeroValue5
  t9:=Tryz.underlying9
  a9:=Tryz.isAgg9
  z9:=Tryz.sizeOf9
  v9:=Tryz.zeroValue9 }
theorem nO (s:ByteArray) (c:Int) (w:World) :
    Calls Tryz.prog 79 #[.string s,.int .u8 c] w fun e w'=>e=.returned (.int .i64 (Lib.indexByte s.data.toList c.toNat.toUInt8))∧w'=w:=Any.strings_IndexByte ys s c w
end
section
open Go.RowKit
def SrcAt (w:World) (s0:Option Addr) (s:List UInt8):Prop:=0<s.length→∃b off,s0=some ⟨b,off,none⟩∧b<w.heap.size∧∀i,i<s.length→w.cell? ⟨b,off+i,none⟩=some (.int .u8 ((s.getD i 0).toNat:Int))
theorem SrcAt.later {w W:World} {s0:Option Addr} {s:List UInt8} (h:SrcAt w s0 s) (hb:Below w.heap.size w W):SrcAt W s0 s:=fun h0=>by
 obtain ⟨b,off,h1,h2,h3⟩:=h h0;exact ⟨b,off,h1,Nat.lt_of_lt_of_le h2 hb.size,fun i hi=>(aM hb b _ h2).trans (h3 i hi)⟩
def IsKind (w:World) (f:FuncId) (A:Array Value) (p:UInt8→Bool):Prop:=∀(c:UInt8) (W:World),Below w.heap.size w W→Calls Tryz.prog f (#[.int .u8 (c.toNat:Int)]++A) W fun e W'=>e=.returned (.bool (p c))∧Below W.heap.size W W'
theorem i7 (s0:Option Addr) (cap:Nat) (s:List UInt8) (a:Nat) (f:FuncId) (D:Array Value) (p:UInt8→Bool) (w:World) (hs:SrcAt w s0 s) (ha:a≤s.length) (hl:s.length≤1152921504606846976) (N:∀args W,Sem.run Tryz.prog (callFunc f args) W=.ok (.enter f args) W) (hk:IsKind w f D p) :
    Calls Tryz.prog 77 #[.slice s0 s.length cap,.int .i64 a,.func (.func f) #[] D] w fun e w'=>e=.returned (.int .i64 (bg p s a))∧Below w.heap.size w w':=by
 have HS:=zh hs;have HK:=zh hk;clear hs hk;go_enter Tryz.func77,Tryz.ntmps77
 go_wp2_with fail
 go_loopw [1] (fun s1 wr=>∃k:Nat,k≤s.length∧s1=.int .i64 k∧bg p s a=bg p s k∧Below w.heap.size w wr) (fun s1 _=>s.length-(intOf s1).toNat)
 case atStart=>exact ⟨a,ha,rfl,rfl,Below.refl _ _⟩
 case round =>
  obtain ⟨k,hk,rfl,G,H⟩:=hrel;have F:=zh G;have E:=zh H;clear G H;by_cases B:k<s.length
  ·obtain ⟨b,off,K,M,A⟩:=HS.o (by omega)
   subst K;have y0:=(aM E.o _ _ M).trans (A k B);clear A;have C:s.getD k 0=s[k]:=by rw [List.getD_eq_getElem?_getD,List.getElem?_eq_getElem B];rfl
   rw [C] at y0;have HY:=zh (eX (p:=p) B);have HN:=zh (nh (p:=p) B);clear C;generalize s[k]=c at *;have HC:=zh (HK.o c wr E.o);generalize p c=q at *;go_wp2_with fail
   refine HC.o.mono ?_;rintro e w1 ⟨rfl,I⟩;have J:=zh (ay E.o I);clear I
   cases q
   ·go_wp2_with fail
    go_ret
    exact ⟨dq (by rw [F.o,HN.o (by simp)]),J.o⟩
   ·go_wp2_with fail
    go_roundw
    case rel=>exact ⟨k+1,by omega,by go_num,by rw [F.o,HY.o (by simp)],J.o⟩
    case measure=>simp [intOf];omega
  ·have L:k=s.length:=by omega
   subst L;clear B;go_wp2_with fail
   go_ret
   exact ⟨dq (by rw [F.o,uB (Nat.le_refl _)]),E.o⟩
theorem u8i (c:UInt8):0≤(c.toNat:Int)∧(c.toNat:Int)≤255:=by
 have:=c.toNat_lt;omega
theorem r8 (c d:UInt8):(((c.toNat:Int))==((d.toNat:Int)))=(c==d):=by
 rw [Bool.eq_iff_iff];simp only [beq_iff_eq]
 constructor
 ·intro h
  exact UInt8.toNat_inj.1 (by omega)
 ·intro h
  rw [h]
theorem uK (c:UInt8):decide (0≤Lib.indexByte [9,10,13,32] c)=ey c:=by
 unfold ey;by_cases h1:c=9
 ·subst h1;rfl
 by_cases h2:c=10
 ·subst h2;rfl
 by_cases h3:c=13
 ·subst h3;rfl
 by_cases h4:c=32
 ·subst h4;rfl
 simp [Lib.indexByte,h1,h2,h3,h4,Ne.symm h1,Ne.symm h2,Ne.symm h3,Ne.symm h4]
theorem sY (w:World):IsKind w 78 #[] ey:=by
 intro c W _;have hq:=zh (uK c);go_enter Tryz.func78,Tryz.ntmps78
 go_wp2_with fail
 refine (nO _ _ _).mono ?_;rintro e w1 ⟨rfl,rfl⟩;have e2:((c.toNat:Int)).toNat.toUInt8=c:=by simp
 rw [e2];clear e2;generalize Lib.indexByte _ c=x at *;go_wp2_with fail
 go_ret
 exact ⟨cg hq.o,Below.refl _ _⟩
theorem uV (w:World):IsKind w 80 #[] ew:=by
 intro c W _;have hc:=u8i c;have hq:=zh (r8 c 10);go_enter Tryz.func80,Tryz.ntmps80
 go_wp2_with fail
 go_ret
 refine ⟨cg ?_,Below.refl _ _⟩;unfold ew;show (!((c.toNat:Int)==10))=!(c==10)
 rw [←r8 c 10];rfl
theorem vu (w:World):IsKind w 85 #[] eh:=by
 intro c W _;have hc:=u8i c;have h1:=r8 c 34;have h2:=r8 c 92;have HT:Hd (∀x y,(c==34)=x→(c==92)=y→eh c=(decide (32≤c.toNat)&&decide (c.toNat≤126)&&!x&&!y)):=zh (fun x y hx hy=>by unfold eh;simp only [bne,hx,hy]);have g1:(((c.toNat:Int))==34)=(c==34):=h1;have g2:(((c.toNat:Int))==92)=(c==92):=h2;have A:=HT.o _ _ rfl rfl;clear h1 h2 HT;have B:=zh A;clear A;generalize (c==34)=x at *;generalize (c==92)=y at *;generalize eh c=z at *;generalize c.toNat=n at *;go_enter Tryz.func85,Tryz.ntmps85
 go_wp2_with fail
 all_goals
  go_ret
  refine ⟨cg ?_,Below.refl _ _⟩;rw [B.o,←g1,←g2,Bool.eq_iff_iff];simp
  try omega
theorem hJ (lo hi:UInt8) (b d:Nat) (w:World) (h1:w.cell? ⟨b,0,none⟩=some (.int .u8 (lo.toNat:Int))) (h2:w.cell? ⟨d,0,none⟩=some (.int .u8 (hi.toNat:Int))) :
    IsKind w 99 #[.pointer (some ⟨b,0,none⟩),.pointer (some ⟨d,0,none⟩)] (fun c=>decide (lo.toNat≤c.toNat)&&decide (c.toNat≤hi.toNat)):=by
 intro c W hW;have hc:=u8i c;have g1:=(aM hW _ _ (ax h1)).trans h1;have g2:=(aM hW _ _ (ax h2)).trans h2;clear h1 h2;show Calls Tryz.prog 99 #[.int .u8 (c.toNat:Int),.pointer (some ⟨b,0,none⟩),.pointer (some ⟨d,0,none⟩)] W _
 dsimp only;generalize c.toNat=x at *;generalize lo.toNat=y at *;generalize hi.toNat=z at *;go_enter Tryz.func99,Tryz.ntmps99
 go_wp2_with fail
 all_goals
  go_ret
  refine ⟨cg ?_,Below.refl _ _⟩;rw [Bool.eq_iff_iff];simp
  try omega
structure FnAt (w:World) (b:Nat) (n:Nat) (f:Nat→FuncId) (caps:Nat→Array Value) (p:Nat→UInt8→Bool):Prop where
 cell:∀i,i<n→w.cell? ⟨b,i,none⟩=some (.func (.func (f i)) #[] (caps i))
 enter:∀i,i<n→∀args W,Sem.run Tryz.prog (callFunc (f i) args) W=.ok (.enter (f i) args) W
 kind:∀i,i<n→IsKind w (f i) (caps i) (p i)
theorem IsKind.later {w W:World} {f:FuncId} {A:Array Value} {p:UInt8→Bool} (h:IsKind w f A p) (hb:Below w.heap.size w W):IsKind W f A p:=fun c V hV=>h c V (hb.trans (hV.mono hb.size))
def eD (p:Nat→UInt8→Bool) (c:UInt8):Nat→Nat→Int
 | 0,_=>-1
 | m+1,i=>if p i c then (i:Int) else eD p c m (i+1)
theorem xR (f:FuncId) (A:Array Value) (p:UInt8→Bool) (c:UInt8) (d:Nat) (w:World) (D:∀args W,Sem.run Tryz.prog (callFunc f args) W=.ok (.enter f args) W) (hk:IsKind w f A p) (hd:w.cell? ⟨d,0,none⟩=some (.int .u8 (c.toNat:Int))) :
    Calls Tryz.prog 102 #[.func (.func f) #[] A,.pointer (some ⟨d,0,none⟩)] w fun e w'=>e=.returned (.bool (p c))∧Below w.heap.size w w':=by
 have HK:=zh (hk c w (Below.refl _ _));have hc:=u8i c;clear hk;generalize p c=q at *;go_enter Tryz.func102,Tryz.ntmps102
 go_wp2_with fail
 refine HK.o.mono ?_;rintro e w1 ⟨rfl,B⟩;have C:=zh B;clear B;go_wp2_with fail
 go_ret
 exact ⟨rfl,C.o⟩
theorem vn (b n d:Nat) (c:UInt8) (f:Nat→FuncId) (B:Nat→Array Value) (p:Nat→UInt8→Bool) (w:World) (hn:n≤1000) (hf:FnAt w b n f B p) (hd:w.cell? ⟨d,0,none⟩=some (.int .u8 (c.toNat:Int))) :
    Calls Tryz.prog 128 #[.slice (some ⟨b,0,none⟩) n n,.func (.func 102) #[] #[.pointer (some ⟨d,0,none⟩)]] w fun e w'=>e=.returned (.int .i64 (eD p c n 0))∧Below w.heap.size w w':=by
 have HF:=zh hf;have HD:=zh hd;clear hf hd;go_enter Tryz.func128,Tryz.ntmps128
 go_wp2_with fail
 go_loopw [8] (fun s8 wr=>∃i:Nat,i≤n∧s8=.int .i64 i∧eD p c n 0=eD p c (n-i) i∧Below w.heap.size w wr) (fun s8 _=>n-(intOf s8).toNat)
 case atStart=>exact ⟨0,Nat.zero_le _,rfl,rfl,Below.refl _ _⟩
 case round =>
  obtain ⟨i,hi,rfl,F,G⟩:=hrel;have E:=zh F;have C:=zh G;clear F G;by_cases D:i<n
  ·have A:=HF.o.cell i D
   have y0:=(aM C.o _ _ (ax A)).trans A;have HC:=zh (xR (f i) (B i) (p i) c d wr (HF.o.enter i D) ((HF.o.kind i D).later C.o) ((aM C.o _ _ (ax HD.o)).trans HD.o))
   have HN:Hd (eD p c (n-i) i=if p i c then (i:Int) else eD p c (n-(i+1)) (i+1)):=zh (by
     rw [show n-i=(n-(i+1))+1 by omega];rfl)
   clear A;generalize p i c=q at *;go_wp2_with fail
   refine HC.o.mono ?_;rintro e w1 ⟨rfl,H⟩;have I:=zh (ay C.o H);clear H
   cases q
   ·go_wp2_with fail
    go_roundw
    case rel=>exact ⟨i+1,by omega,by go_num,by rw [E.o,HN.o];simp,I.o⟩
    case measure=>simp [intOf];omega
   ·go_wp2_with fail
    go_ret
    exact ⟨dq (by rw [E.o,HN.o];simp),I.o⟩
  ·have J:i=n:=by omega
   subst J;clear D;go_wp2_with fail
   go_ret
   exact ⟨dq (by rw [E.o,Nat.sub_self];rfl),C.o⟩
theorem ut (b n d:Nat) (c:UInt8) (f:Nat→FuncId) (A:Nat→Array Value) (p:Nat→UInt8→Bool) (w:World) (hn:n≤1000) (hf:FnAt w b n f A p) (hd:w.cell? ⟨d,0,none⟩=some (.int .u8 (c.toNat:Int))) :
    Calls Tryz.prog 101 #[.slice (some ⟨b,0,none⟩) n n,.func (.func 102) #[] #[.pointer (some ⟨d,0,none⟩)]] w fun e w'=>e=.returned (.bool (decide (0≤eD p c n 0)))∧Below w.heap.size w w':=by
 have HC:=zh (vn b n d c f A p w hn hf hd);clear hf hd;generalize eD p c n 0=x at *;go_enter Tryz.func101,Tryz.ntmps101
 go_wp2_with fail
 refine HC.o.mono ?_;rintro e w1 ⟨rfl,B⟩;have C:=zh B;clear B;go_wp2_with fail
 go_ret
 exact ⟨rfl,C.o⟩
theorem FnAt.later {w W:World} {b n:Nat} {f:Nat→FuncId} {A:Nat→Array Value} {p:Nat→UInt8→Bool} (h:FnAt w b n f A p) (hb:Below w.heap.size w W):FnAt W b n f A p:=
 ⟨fun i hi=>(aM hb _ _ (ax (h.cell i hi))).trans (h.cell i hi),h.enter,fun i hi=>(h.kind i hi).later hb⟩
theorem qP (a b n:Nat) (f:Nat→FuncId) (A:Nat→Array Value) (p:Nat→UInt8→Bool) (w:World) (hn:n≤1000) (hf:FnAt w b n f A p) (ha:w.cell? ⟨a,0,none⟩=some (.slice (some ⟨b,0,none⟩) n n)) :
    IsKind w 100 #[.pointer (some ⟨a,0,none⟩)] (fun c=>decide (0≤eD p c n 0)):=by
 intro c W hW;show Calls Tryz.prog 100 #[.int .u8 (c.toNat:Int),.pointer (some ⟨a,0,none⟩)] W _
 have B:=ag (Below.refl W.heap.size W) (.cells #[.int .u8 (c.toNat:Int)] 5);have HC:=zh (ut b n W.heap.size c f A p (W.alloc (.cells #[.int .u8 (c.toNat:Int)] 5)) hn (hf.later (hW.trans (B.mono hW.size))) (aw _ _ _ _ _ _ rfl rfl));have g1:=(aM hW _ _ (ax ha)).trans ha;have F:=ax g1;have E:=zh B;clear hf ha hW B;dsimp only;generalize decide (0≤eD p c n 0)=x at *;go_enter Tryz.func100,Tryz.ntmps100
 go_wp2_with fail
 refine HC.o.mono ?_;rintro e w1 ⟨rfl,C⟩;have D:=zh (ay E.o C);clear C;go_wp2_with fail
 go_ret
 exact ⟨rfl,D.o⟩
theorem sQ (s0:Option Addr) (n cap:Nat) (w:World):Calls Tryz.prog 82 #[.slice s0 n cap] w fun e w'=>e=.returned (.func (.func 100) #[] #[.pointer (some ⟨w.heap.size,0,none⟩)])∧w'=w.alloc (.cells #[.slice s0 n cap] 173):=by
 go_enter Tryz.func82,Tryz.ntmps82
 go_wp2_with fail
 go_ret
 exact ⟨rfl,rfl⟩
theorem nL (s0:Option Addr) (cap:Nat) (s:List UInt8) (a:Nat) (w:World) (hs:SrcAt w s0 s) (ha:a≤s.length) (hl:s.length≤1152921504606846976) :
    Calls Tryz.prog 49 #[.slice s0 s.length cap,.int .i64 a] w fun e w'=>e=.returned (.int .i64 (bK s a))∧Below w.heap.size w w':=by
 have HS:=zh hs;have X:=zh (fun (W:World) (hW:Below w.heap.size w W) (k:Nat) (hk:k≤s.length)=>i7 s0 cap s k 78 #[] ey W (hs.later hW) hk hl (fun _ _=>Tryz.call78 _ _) (sY W));have V:=zh (fun (W:World) (hW:Below w.heap.size w W) (k:Nat) (hk:k≤s.length)=>i7 s0 cap s k 80 #[] ew W (hs.later hW) hk hl (fun _ _=>Tryz.call80 _ _) (uV W));clear hs;go_enter Tryz.func49,Tryz.ntmps49
 go_wp2_with fail
 go_loopw [1] (fun s1 wr=>∃k:Nat,k≤s.length∧s1=.int .i64 k∧bK s a=bK s k∧Below w.heap.size w wr) (fun s1 _=>s.length-(intOf s1).toNat)
 case atStart=>exact ⟨a,ha,rfl,rfl,Below.refl _ _⟩
 case round =>
  obtain ⟨k,hk,rfl,N,M⟩:=hrel;have K:=zh (N.trans (oW s k));have R:=zh M;clear N M;go_wp2_with fail
  refine (X.o _ R.o k hk).mono ?_;rintro e w1 ⟨rfl,P⟩;have G:=zh (ay R.o P);have d:=eS ey s k;have Z:=fm (p:=ey) hk;have E:=zh (l8 (p:=ey) (s:=s) (a:=k));clear P;generalize bg ey s k=q at *;by_cases hq:q=s.length
  ·have hd:((q:Int)==(s.length:Int))=true:=by simp [hq]
   have HF:Hd (bK s a=q):=zh (by rw [K.o,ro (by omega)]);clear hq;go_wp2_with fail
   go_ret
   exact ⟨dq (by rw [HF.o]),G.o⟩
  ·have B:q<s.length:=by omega
   have hd:((q:Int)==(s.length:Int))=false:=by simp;omega
   obtain ⟨b,off,S,T,C⟩:=HS.o (by omega);subst S;have D:s.getD q 0=s[q]:=by rw [List.getD_eq_getElem?_getD,List.getElem?_eq_getElem B];rfl
   have y0:=(aM G.o _ _ T).trans (C q B);rw [D] at y0;have Q:=r8 s[q] 35;have U:=zh (sU B (E.o B));have J:=zh (pD B);have F:=zh (uF B);clear C D;have A:(((s[q].toNat:Nat):Int)==35)=(s[q]==35):=Q;generalize (s[q]==35)=z at *;generalize s[q].toNat=c at *;clear Q;have H:((c:Int) !=35)=!z:=by rw [←A];rfl
   cases z
   ·have hz:((c:Int) !=35)=true:=H
    have HF:Hd (bK s a=q):=zh (by rw [K.o,U.o rfl]);clear H A;go_wp2_with fail
    go_ret
    exact ⟨dq (by rw [HF.o]),G.o⟩
   ·have hz:((c:Int) !=35)=false:=H
    have HF:Hd (bK s a=bK s (bg ew s q)):=zh (by rw [K.o,J.o rfl]);have L:=F.o rfl;clear H A;go_wp2_with fail
    refine (V.o _ G.o q (by omega)).mono ?_;rintro e w2 ⟨rfl,O⟩;have Y:=zh (ay G.o O);have I:=fm (p:=ew) (show q≤s.length by omega);clear O;generalize bg ew s q=q2 at *;go_wp2_with fail
    go_roundw
    case rel=>exact ⟨q2,I,rfl,HF.o,Y.o⟩
    case measure=>simp [intOf];omega
end
section
section
open Go.RowKit
theorem fd {s:List UInt8} {a b:Nat} (hb:b≤s.length):(dj s a b).length=b-a:=by
 unfold dj;rw [List.length_take,List.length_drop];omega
theorem pL {s:List UInt8} {a b i:Nat} (h:a+i<b):(dj s a b).getD i 0=s.getD (a+i) 0:=by
 unfold dj;rw [List.getD_eq_getElem?_getD,List.getD_eq_getElem?_getD,List.getElem?_take,if_pos (by omega),List.getElem?_drop]
theorem SrcAt.cut {w:World} {b off:Nat} {s:List UInt8} {x y:Nat} (h:SrcAt w (some ⟨b,off,none⟩) s) (hy:y≤s.length):SrcAt w (some ⟨b,off+x,none⟩) (dj s x y):=by
 intro h0;rw [fd hy] at h0;obtain ⟨b',off',e,B,A⟩:=h (by omega);injection e with e
 injection e with e1 e2
 subst e1 e2;refine ⟨b,off+x,rfl,B,fun i hi=>?_⟩;rw [fd hy] at hi;rw [pL (by omega),Nat.add_assoc];exact A (x+i) (by omega)
def zD:Option Nat→Value
 | none=>.tuple #[.int .i64 0,.bool false]
 | some n=>.tuple #[.int .i64 (n:Int),.bool true]
theorem vf (c:UInt8) (r:List UInt8) (n:Nat):io (c :: r) n=if (9223372036854775807-(c.toNat-48)) / 10<n then none else io r (10*n+(c.toNat-48)):=rfl
theorem tD (s0:Option Addr) (cap:Nat) (s:List UInt8) (w:World) (hs:SrcAt w s0 s) (hl:s.length≤100000) (hd:∀i,i<s.length→dp (s.getD i 0)=true) :
    Calls Tryz.prog 84 #[.slice s0 s.length cap] w fun e w'=>e=.returned (zD (io s 0))∧Below w.heap.size w w':=by
 have HS:=zh hs;have HD:=zh hd;clear hs hd;go_enter Tryz.func84,Tryz.ntmps84
 go_wp2_with fail
 go_loopw [4,10] (fun s4 s10 wr=>∃k n:Nat,k≤s.length∧s10=.int .i64 k∧s4=.int .i64 n∧(n:Int)≤9223372036854775807∧io s 0=io (s.drop k) n∧w=wr) (fun _ s10 _=>s.length-(intOf s10).toNat)
 case atStart=>exact ⟨0,0,Nat.zero_le _,rfl,rfl,by simp,rfl,rfl⟩
 case round =>
  obtain ⟨k,n,hk,rfl,rfl,hn,D,rfl⟩:=hrel;have HN:=zh D;clear D;by_cases E:k<s.length
  ·obtain ⟨b,off,H,O,C⟩:=HS.o (by omega)
   subst H;have y0:=C k E;have A:=HD.o k E;have F:s.getD k 0=s[k]:=by rw [List.getD_eq_getElem?_getD,List.getElem?_eq_getElem E];rfl
   have HX:=zh (vf s[k] (s.drop (k+1)) n);have M:=zh (iW E);rw [F] at y0 A;unfold dp at A;simp only [Bool.and_eq_true,decide_eq_true_eq] at A
   obtain ⟨d1,d2⟩:=A;clear C F;generalize s[k]=ch at *;generalize J:ch.toNat=c at *;have K:IntKind.u8.wrap ((c:Int)-48)=(c:Int)-48:=IntWalk.u8_in _ (by omega);obtain ⟨d,rfl⟩:∃d,c=d+48:=⟨c-48,by omega⟩
   have N:0≤((d+48:Nat):Int)-48∧((d+48:Nat):Int)-48≤9:=by omega
   have G:Hd (io s 0=if (9223372036854775807-d) / 10<n then none else io (s.drop (k+1)) (10*n+d)):=zh (by
     rw [HN.o,M.o,HX.o,Nat.add_sub_cancel])
   clear J;by_cases B:(9223372036854775807-d) / 10<n
   ·have L:(9223372036854775807-(d:Int)) / 10<(n:Int):=by omega
    have HF:Hd (io s 0=none):=zh (by rw [G.o,if_pos B]);clear B;go_wp2_with fail
    go_ret2
    exact ⟨by rw [HF.o];rfl,Below.refl _ _⟩
   ·have L:¬((9223372036854775807-(d:Int)) / 10<(n:Int)):=by omega
    have HF:Hd (io s 0=io (s.drop (k+1)) (10*n+d)):=zh (by rw [G.o,if_neg B]);clear B;go_wp2_with fail
    go_roundw
    case rel=>exact ⟨k+1,10*n+d,by omega,by go_num,by go_num,by omega,HF.o,by first | rfl | trivial⟩
    case measure=>simp [intOf];omega
  ·have I:k=s.length:=by omega
   subst I;have HF:Hd (io s 0=some n):=zh (by rw [HN.o,List.drop_length];rfl);clear E;go_wp2_with fail
   go_ret2
   exact ⟨by rw [HF.o];rfl,Below.refl _ _⟩
theorem xB (s:ByteArray) (w:World):Calls Tryz.prog 83 #[.string s] w fun e w'=>e=.returned (.bool (gT s.toList))∧w=w':=by
 have HW:Hd (∀l,s.toList=l→gT s.toList=gT l):=zh (fun l h=>by rw [h])
 have HN:Hd ((∀l∈wordTab,(s.toList==l)=false)→gT s.toList=false):=zh (fun h=>by
   unfold gT;rw [Bool.eq_false_iff];intro hc;have:=h _ (List.contains_iff_mem.1 hc);simp at this)
 generalize gT s.toList=q at *;go_enter Tryz.func83,Tryz.ntmps83
 go_wp2_with fail
 all_goals first
  | (exfalso;simp_all;done)
  | (go_ret
     first
       | (refine ⟨cg ?_,rfl⟩;rw [HW.o _ (eq_of_beq (by assumption))];rfl)
       | (refine ⟨cg ?_,rfl⟩;rw [HN.o (by simp only [wordTab,List.forall_mem_cons];simp only [*];simp)]))
end
section
open Go.RowKit
theorem zY {s:List UInt8} {a b j:Nat} (hb:b≤s.length) (hj:j<(dj s a b).length):(dj s a b)[j]=s.getD (a+j) 0:=by
 rw [fd hb] at hj;rw [←pL (b:=b) (by omega),List.getD_eq_getElem?_getD,List.getElem?_eq_getElem (by rw [fd hb];exact hj)];rfl
theorem lX {w:World} {b off:Nat} {s:List UInt8} {x y:Nat} (h:SrcAt w (some ⟨b,off,none⟩) s) (hy:y≤s.length) (c n:Nat) (hn:n=y-x) :
    (convert 22 9 (.slice (some ⟨b,off+x,none⟩) n c)).run Tryz.prog w=.ok (.string ⟨(dj s x y).toArray⟩) w:=by
 have hl:=fd (a:=x) hy;subst hn;rw [←hl];refine run_convert_bytes_back w 22 9 5 ⟨b,off+x,none⟩ c (dj s x y) Tryz.underlying22 Tryz.underlying5 Tryz.underlying9 (fun j hj=>?_);obtain ⟨b',off',e,_,A⟩:=h (by omega);injection e with e
 injection e with e1 e2
 subst e1 e2;rw [Go.WideShapes.add_plain,Nat.add_assoc,zY hy hj];exact A (x+j) (by rw [hl] at hj;omega)
theorem wn (s0:Option Addr) (n cap:Nat) (s:List UInt8) (w:World) (hn:n=s.length) (hs:SrcAt w s0 s) (hl:s.length≤100000) (hd:∀i,i<s.length→dp (s.getD i 0)=true) :
    Calls Tryz.prog 84 #[.slice s0 n cap] w fun e w'=>e=.returned (zD (io s 0))∧Below w.heap.size w w':=by
 subst hn;exact tD s0 cap s w hs hl hd
theorem xi {r:List UInt8} (h:ii r=true):bX r=r:=by
 match r,h with
 | [],h=>rfl
 | [a],h=>simp [bX,h]
 | [a,b],h=>simp [bX,h]
 | a :: b :: c :: t,h=>simp [ii,signTab] at h
theorem yS {r:List UInt8} (h:ii r=false) (hl:r.length≤2):bX r=bX r.dropLast:=by
 match r,h,hl with
 | [],_,_=>rfl
 | [a],h,_=>simp [bX,h]
 | [a,b],h,_ =>
  show (if ii [a,b] then _ else _)=_
  rw [h];rfl
theorem rB (r:ByteArray):(⟨r.toList.toArray⟩:ByteArray)=r:=by
 rw [ByteArray.toList_eq]
theorem tP {a b:ByteArray} (h:a=b):Ending.returned (.string a)=.returned (.string b):=by rw [h]
theorem gU (b off cap:Nat) (s:List UInt8) (a:Nat) (w:World) (hs:SrcAt w (some ⟨b,off,none⟩) s) (ha:a<s.length) (hl:s.length≤100000) (hc:s.length≤cap) :
    Calls Tryz.prog 86 #[.slice (some ⟨b,off,none⟩) s.length cap,.int .i64 a] w fun e w'=>e=.returned (.string ⟨(bX (dj s a (min (a+2) s.length))).toArray⟩)∧w=w':=by
 have key:∀y,min (a+2) s.length=y→a<y→y≤s.length→y≤a+2→Calls Tryz.prog 86 #[.slice (some ⟨b,off,none⟩) s.length cap,.int .i64 a] w fun e w'=>e=.returned (.string ⟨(bX (dj s a y)).toArray⟩)∧w=w':=by
  intro y hy h1 h2 h3;have kc:=lX hs h2 (cap-a) (y-a) rfl;have I:=fd (a:=a) h2;have HL:=zh I;generalize dj s a y=l at *;clear I hs;have F:min ((a:Int)+2) (s.length:Int)=(y:Int):=by omega
  have G:y-a≤2:=by omega
  have L:=zh G;clear hy G;go_enter Tryz.func86,Tryz.ntmps86
  go_wp2_with fail
  go_step3
  go_wp2_with fail
  go_step3
  go_wp2_with fail
  clear kc F;go_loopg [5] 2 (fun g s5 wr=>∃r:ByteArray,s5=.string r∧r.toList.length≤g∧g≤2∧bX l=bX r.toList∧wr=w)
  case atStart=>exact ⟨_,rfl,by rw [ByteArray.toList_eq];show l.length≤2;rw [HL.o];exact L.o,Nat.le_refl _,by rw [ByteArray.toList_eq],rfl⟩
  case round =>
   obtain ⟨r,rfl,K,P,H,rfl⟩:=hrel;have E:=zh H;clear H;have D:r.size=r.toList.length:=by rw [ByteArray.toList_eq];rfl
   have M:=zh D;by_cases h0:r.toList=[]
   ·have hd:(!r.toList.isEmpty)=false:=by rw [h0];rfl
    have HF:Hd (bX l=r.toList):=zh (by rw [E.o,h0];rfl);clear h0 D;go_wp2_with fail
    (try rw [Exit.noGoto_ret])
    go_ret
    exact ⟨tP (by rw [HF.o,rB]),rfl⟩
   have hd:(!r.toList.isEmpty)=true:=by cases hq:r.toList with
    | nil=>exact absurd hq h0
    | cons x t=>rfl
   have C:1≤r.toList.length:=by
    rcases Nat.eq_zero_or_pos r.toList.length with h | h
    ·exact absurd (List.eq_nil_of_length_eq_zero h) h0
    ·exact h
   obtain ⟨g2,rfl⟩:∃g2,gk=g2+1:=⟨gk-1,by omega⟩
   cases hsg:ii r.toList
   ·have O:1≤(r.size:Int):=by omega
    have N:(r.size:Int)≤2:=by omega
    have A:∀t∈signTab,(r.toList==t)=false:=fun t ht=>by
     rw [Bool.eq_false_iff];intro hc;have e:=eq_of_beq hc;rw [e] at hsg;unfold ii at hsg;rw [List.contains_iff_mem.2 ht] at hsg
     cases hsg
    have f0:(r.toList==[61,61])=false:=A _ (by simp [signTab]);have f1:(r.toList==[33,61])=false:=A _ (by simp [signTab]);have f2:(r.toList==[60,61])=false:=A _ (by simp [signTab]);have f3:(r.toList==[62,61])=false:=A _ (by simp [signTab]);have f4:(r.toList==[38,38])=false:=A _ (by simp [signTab]);have f5:(r.toList==[124,124])=false:=A _ (by simp [signTab]);have f6:(r.toList==[40])=false:=A _ (by simp [signTab]);have f7:(r.toList==[41])=false:=A _ (by simp [signTab]);have f8:(r.toList==[123])=false:=A _ (by simp [signTab]);have f9:(r.toList==[125])=false:=A _ (by simp [signTab]);have f10:(r.toList==[44])=false:=A _ (by simp [signTab]);have f11:(r.toList==[59])=false:=A _ (by simp [signTab]);have f12:(r.toList==[58])=false:=A _ (by simp [signTab]);have f13:(r.toList==[61])=false:=A _ (by simp [signTab]);have f14:(r.toList==[60])=false:=A _ (by simp [signTab]);have f15:(r.toList==[62])=false:=A _ (by simp [signTab]);have f16:(r.toList==[43])=false:=A _ (by simp [signTab]);have f17:(r.toList==[45])=false:=A _ (by simp [signTab]);have f18:(r.toList==[42])=false:=A _ (by simp [signTab]);have f19:(r.toList==[47])=false:=A _ (by simp [signTab]);have f20:(r.toList==[37])=false:=A _ (by simp [signTab]);have f21:(r.toList==[33])=false:=A _ (by simp [signTab])
    have HX:Hd (bX l=bX (r.extract 0 (r.size-1)).toList∧(r.extract 0 (r.size-1)).toList.length≤g2):=zh (by
      have e:(r.extract 0 (r.size-1)).toList=r.toList.dropLast:=by
        rw [ByteArray.toList_eq,ByteArray.toList_eq];simp [List.dropLast_eq_take]
      rw [e];exact ⟨by rw [E.o,yS hsg (by omega)],by rw [List.length_dropLast];omega⟩)
    clear A hsg D h0 C;go_wp2_with fail
    go_roundg g2
    case measure=>omega
    case rel=>exact ⟨_,rfl,HX.o.2,by omega,HX.o.1,rfl⟩
   ·have B:r.toList∈signTab:=List.contains_iff_mem.1 hsg
    have J:=zh (show bX l=r.toList from by rw [E.o,xi hsg]);have hr:=(rB r).symm;clear hsg D h0 C hd K;simp only [signTab,List.mem_cons,List.not_mem_nil,or_false] at B
    rcases B with h | h | h | h | h | h | h | h | h | h | h | h | h | h | h | h | h | h | h | h | h | h
    all_goals
     rw [h] at hr;have HF:=zh (J.o.trans h);clear J E M h;subst hr;go_wp2_with fail
     (try rw [Exit.noGoto_ret])
     go_ret
     exact ⟨tP (by rw [HF.o]),rfl⟩
 by_cases h2:a+2≤s.length
 ·have e:min (a+2) s.length=a+2:=by omega
  rw [e];exact key (a+2) e (by omega) h2 (Nat.le_refl _)
 ·have e:min (a+2) s.length=s.length:=by omega
  rw [e];exact key s.length e ha (Nat.le_refl _) (by omega)
end
end
end Go.Proofs.YtmlgbkomdhcaoaaGreatDoor
