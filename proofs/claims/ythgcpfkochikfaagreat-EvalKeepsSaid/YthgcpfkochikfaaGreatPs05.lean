/-
  EvalSigns: part 5 of its proof: see the last text.
-/
import Derived.Test.YthgcpfkochikfaaGreatPs01
import Derived.Test.YthgcpfkochikfaaGreatPs04
import Derived.Shelf.Spec.SlicesGrow
set_option maxRecDepth 100000
set_option maxHeartbeats 16000000
namespace Go.Proofs.YthgcpfkochikfaaGreat
section
open Go.RowKit
attribute [local go_sem ↓] Go.wp_at_zero Go.wp_at_succ
def PrC (S:Nat→Prop) (w:World) (cs:List Value) (p:Pr):Prop:=∃a ca b cb,cs=[.slice a p.1.length ca,.slice b p.2.length cb]∧TxtAt S w (.slice a p.1.length ca) p.1∧TxtAt S w (.slice b p.2.length cb) p.2
def PrsAt (S:Nat→Prop) (w:World) (v:Value) (l:List Pr):Prop:=∃cs,RowOf S w v 2 l.length cs∧∀i,i<l.length→PrC S w (cs i) (l.getD i default)
section
variable {S S':Nat→Prop} {w w':World} {v:Value} {l:List Pr} {cs:List Value} {p:Pr}
theorem PrC.keep (h:PrC S w cs p) (hk:Stays S w w'):PrC S w' cs p:=by
 obtain ⟨a,ca,b,cb,e,h1,h2⟩:=h;exact ⟨a,ca,b,cb,e,h1.keep hk,h2.keep hk⟩
theorem PrC.mono (h:PrC S w cs p) (hb:∀b,S b→S' b):PrC S' w cs p:=by
 obtain ⟨a,ca,b,cb,e,h1,h2⟩:=h;exact ⟨a,ca,b,cb,e,h1.mono hb,h2.mono hb⟩
theorem PrC.below (h:PrC S w cs p) (hb:Below w.heap.size w w'):PrC S w' cs p:=h.keep (Stays.of_below hb)
theorem PrsAt.keep (h:PrsAt S w v l) (hk:Stays S w w'):PrsAt S w' v l:=by
 obtain ⟨cs,h1,h2⟩:=h;exact ⟨cs,h1.keep hk,fun i hi=>(h2 i hi).keep hk⟩
theorem PrsAt.mono (h:PrsAt S w v l) (hb:∀b,S b→S' b):PrsAt S' w v l:=by
 obtain ⟨cs,h1,h2⟩:=h;exact ⟨cs,h1.mono hb,fun i hi=>(h2 i hi).mono hb⟩
theorem PrsAt.below (h:PrsAt S w v l) (hb:Below w.heap.size w w'):PrsAt S w' v l:=h.keep (Stays.of_below hb)
theorem PrsAt.nil:PrsAt S w (.slice none 0 0) []:=⟨fun _=>[],RowOf.nil _ _ _ _,fun i hi=>absurd hi (by simp)⟩
end
def PlV (v:Value):Prop:=∃p n c,v=.slice p n c∧∀a,p=some a→∃b off,a=⟨b,off,none⟩
def StAt (S:Nat→Prop) (w:World) (v:Value) (l:List Pr):Prop:=PrsAt S w v l∧PlV v
theorem StAt.keep {S:Nat→Prop} {w w':World} {v:Value} {l:List Pr} (h:StAt S w v l) (hk:Stays S w w'):StAt S w' v l:=⟨h.1.keep hk,h.2⟩
theorem StAt.mono {S S':Nat→Prop} {w:World} {v:Value} {l:List Pr} (h:StAt S w v l) (hb:∀b,S b→S' b):StAt S' w v l:=⟨h.1.mono hb,h.2⟩
theorem StAt.nil {S:Nat→Prop} {w:World}:StAt S w (.slice none 0 0) []:=⟨PrsAt.nil,none,0,0,rfl,fun _ h=>by cases h⟩
theorem uX {w:World} {B e sz n:Nat} {v:Value} {xs:List Value} (h:w.ownsRow B e sz v n xs):PlV v:=by
 rcases h.2 with ⟨q,_⟩ | ⟨g,cap,cur,q,_⟩
 ·exact ⟨none,0,0,q,fun _ h=>by cases h⟩
 ·exact ⟨_,_,_,q,fun _ h=>by injection h with h;exact ⟨g,0,h.symm⟩⟩
theorem wD {S S2:Nat→Prop} {cs:List Value} {p:Pr} {kv:Value} {k:List UInt8} (bx:Nat) (w:World) (hp:PrC S w cs p) (hk:TxtAt S2 w kv k) (B:w.cell? ⟨bx,0,none⟩=some kv) :
    Calls Tryz.prog 201 #[.agg cs.toArray,.pointer (some ⟨bx,0,none⟩)] w fun e w'=>e=.returned (.bool (p.1==k))∧Below w.heap.size w w':=by
 obtain ⟨a,ca,b,cb,rfl,h1,h2⟩:=hp;have A:=ag (Below.refl w.heap.size w) (.cells #[.slice a p.1.length ca,.slice b p.2.length cb] 70);have HE:=zh (wF _ (h1.below A) (hk.below A));obtain ⟨pk,ck,rfl,_⟩:=hk.form;have C:=az B;clear h1 h2 hk A;go_enter Tryz.func201,Tryz.ntmps201
 go_wp2_with fail
 refine HE.o.mono ?_;rintro e w1 ⟨rfl,rfl⟩;go_wp2_with fail
 exact bodyPost_ret (v:=.bool (p.1==k)) (by simp [results,Tryz.results201,go_sem]) rfl ⟨rfl,ag (Below.refl _ _) _⟩
theorem uI {S S2:Nat→Prop} {cs:List Value} {p:Pr} {kv:Value} {k:List UInt8} (bx:Nat) (w:World) (hp:PrC S w cs p) (hk:TxtAt S2 w kv k) (B:w.cell? ⟨bx,0,none⟩=some kv) :
    Calls Tryz.prog 185 #[.agg cs.toArray,.pointer (some ⟨bx,0,none⟩)] w fun e w'=>e=.returned (.bool (bS k p.1))∧Below w.heap.size w w':=by
 obtain ⟨a,ca,b,cb,rfl,h1,h2⟩:=hp;have A:=ag (Below.refl w.heap.size w) (.cells #[.slice a p.1.length ca,.slice b p.2.length cb] 70);have HE:=zh (iS _ (h1.below A) (hk.below A));have HL:Hd (bS k p.1=decide (0<Lib.compareBytes p.1 k)):=zh (by rw [fJ,km p.1 k];exact decide_eq_decide.2 (by omega));generalize Lib.compareBytes p.1 k=c at *;obtain ⟨pk,ck,rfl,_⟩:=hk.form;have C:=az B;clear h1 h2 hk A;go_enter Tryz.func185,Tryz.ntmps185
 go_wp2_with fail
 refine HE.o.mono ?_;rintro e w1 ⟨rfl,rfl⟩;go_wp2_with fail
 refine bodyPost_ret (v:=.bool (decide (0<c))) (by simp [results,Tryz.results185,go_sem]) rfl ⟨by rw [HL.o],ag (Below.refl _ _) _⟩
theorem rl {S:Nat→Prop} {v:Value} {n:Nat} {cs:Nat→List Value} (g:Nat) (bx:Nat) (q:Nat→Bool) (P:Nat) (w:World) (Y:Ent g) (hr:RowOf S w v 2 n cs) (hf:∀i,i<n→∃a la ca b lb cb,cs i=[.slice a la ca,.slice b lb cb])
    (hP:P≤n) (N:∀i,i<P→q i=false) (B:P<n→q P=true)
    (hp:∀i,i<n→∀W,Below w.heap.size w W→Calls Tryz.prog g #[.agg (cs i).toArray,.pointer (some ⟨bx,0,none⟩)] W fun e w'=>e=.returned (.bool (q i))∧Below W.heap.size W w') :
    Calls Tryz.prog 184 #[v,.func (.func g) #[] #[.pointer (some ⟨bx,0,none⟩)]] w fun e w'=>e=.returned (.int .i64 (if P<n then (P:Int) else -1))∧Below w.heap.size w w':=by
 obtain ⟨s0,cap,rfl,V,J,_,C,R⟩:=hr;unfold maxLen at J;unfold Ent at Y;have U:n≤9223372036854775807:=by omega
 have c:=zh N;have K:=zh B;have L:=zh C;have HF:=zh hf;have E:=zh hp;have HP:=zh (And.intro hP J);clear C R V J hp N B hf hP;go_enter Tryz.func184,Tryz.ntmps184
 go_wp2_with fail
 go_loopg [8] (P+1) (fun gg t8 wr=>∃i:Nat,i+gg=P+1∧0<gg∧t8=.int .i64 (i:Int)∧Below w.heap.size w wr)
 case atStart=>exact ⟨0,Nat.zero_add _,Nat.succ_pos _,rfl,Below.refl _ _⟩
 case round =>
  obtain ⟨i,X,hg,rfl,hb⟩:=hrel;have F:=zh hb;have HG:=zh X;by_cases G:i<n
  ·have I:(i:Int)<(n:Int):=by omega
   have d:(0:Int)≤(i:Int):=by omega
   obtain ⟨b,off,T,_,Z,A⟩:=L.o (by omega);subst T;obtain ⟨a1,l1,c1,a2,l2,c2,Q⟩:=HF.o i G;have H:∀j,j<2→wr.cell? ⟨b,off+i * 2+j,none⟩=(cs i)[j]?:=fun j hj=>(F.o.cell (p:=⟨b,_,none⟩) Z).trans (A i G j hj);have HC:=zh (E.o i G wr F.o);rw [Q] at H HC;have x0:wr.cell? ⟨b,off+i * 2,none⟩=some (.slice a1 l1 c1):=H 0 (by decide);have x1:wr.cell? ⟨b,off+i * 2+1,none⟩=some (.slice a2 l2 c2):=H 1 (by decide);clear hb H Q A;by_cases O:i<P
   ·have hq:=c.o i O
    rw [hq] at HC;clear hq;go_wp2_with fail
    go_at_fn g
    refine HC.o.mono ?_;rintro e w' ⟨rfl,D⟩;have M:=zh (am F.o D);clear D;go_wp2_with fail
    go_roundg (P-i)
    case measure=>omega
    case rel=>exact ⟨i+1,by have:=HG.o;omega,by omega,by go_num,M.o⟩
   ·obtain rfl:i=P:=by have:=HG.o;omega
    have hq:=K.o G;rw [hq] at HC;clear hq O;go_wp2_with fail
    go_at_fn g
    refine HC.o.mono ?_;rintro e w' ⟨rfl,D⟩;have M:=zh (am F.o D);clear D;go_wp2_with fail
    exact bodyPost_ret (v:=.int .i64 i) (by simp [results,Tryz.results184,go_sem]) rfl ⟨rfl,M.o⟩
  ·obtain rfl:i=P:=by have:=HG.o;have:=HP.o.1;omega
   have I:¬(i:Int)<(n:Int):=by omega
   clear hb;go_wp2_with fail
   exact bodyPost_ret (v:=.int .i64 (-1)) (by simp [results,Tryz.results184,go_sem]) rfl ⟨rfl,F.o⟩
def ixP (q:Pr→Bool):List Pr→Nat
 | []=>0
 | p :: l=>if q p then 0 else ixP q l+1
theorem jU (q:Pr→Bool):∀l,ixP q l≤l.length
 | []=>Nat.le_refl _
 | p :: l=>by
  rw [ixP];split
  ·exact Nat.zero_le _
  ·exact Nat.succ_le_succ (jU q l)
theorem tK (q:Pr→Bool):∀(l:List Pr) (i:Nat),i<ixP q l→q (l.getD i default)=false
 | [],i,h=>absurd h (Nat.not_lt_zero _)
 | p :: l,i,h=>by
  rw [ixP] at h;by_cases e:q p=true
  ·rw [if_pos e] at h;exact absurd h (Nat.not_lt_zero _)
  ·rw [if_neg e] at h
   cases i with
   | zero=>simpa using e
   | succ i=>exact tK q l i (by omega)
theorem pI (q:Pr→Bool):∀(l:List Pr),ixP q l<l.length→q (l.getD (ixP q l) default)=true
 | [],h=>absurd h (Nat.not_lt_zero _)
 | p :: l,h=>by
  rw [ixP] at h ⊢;by_cases e:q p=true
  ·rw [if_pos e];exact e
  ·rw [if_neg e] at h ⊢
   exact pI q l (by simpa using h)
def atI (l:List Pr) (i:Nat):Int:=if i<l.length then (i:Int) else -1
def isK (k:List UInt8) (p:Pr):Bool:=p.1==k
def gtK (k:List UInt8) (p:Pr):Bool:=bS k p.1
theorem zD (l:List Pr) (k:List UInt8):fQ l k=if ixP (isK k) l<l.length then some (l.getD (ixP (isK k) l) default).2 else none:=by
 unfold fQ;induction l with
 | nil=>rfl
 | cons p l ih =>
  rw [ixP,List.find?_cons];by_cases e:isK k p=true
  ·rw [if_pos e,show (p.1==k)=true from e]
   simp
  ·rw [if_neg e,show (p.1==k)=false by simpa [isK] using e]
   dsimp only;rw [ih];by_cases h:ixP (isK k) l<l.length
   ·rw [if_pos h,if_pos (by simpa using h)];rfl
   ·rw [if_neg h,if_neg (by simpa using h)]
theorem PrsAt.forms {S:Nat→Prop} {w:World} {l:List Pr} {cs:Nat→List Value} (h:∀i,i<l.length→PrC S w (cs i) (l.getD i default)):∀i,i<l.length→∃a la ca b lb cb,cs i=[.slice a la ca,.slice b lb cb]:=fun i hi=>by
 obtain ⟨a,ca,b,cb,e,_⟩:=h i hi;exact ⟨_,_,_,_,_,_,e⟩
theorem nz {S1 S2:Nat→Prop} {v kv:Value} {l:List Pr} {k:List UInt8} (w:World) (h:PrsAt S1 w v l) (hk:TxtAt S2 w kv k):Calls Tryz.prog 183 #[v,kv] w fun e w'=>e=.returned (.int .i64 (atI l (ixP (isK k) l)))∧Below w.heap.size w w':=by
 obtain ⟨cs,hr,hp⟩:=h;obtain ⟨pk,ck,rfl,_⟩:=hk.form;have A:=ag (Below.refl w.heap.size w) (.cells #[.slice pk k.length ck] 30);have B:(w.alloc (.cells #[.slice pk k.length ck] 30)).cell? ⟨w.heap.size,0,none⟩=some (.slice pk k.length ck):=aA _ _ _ _ _ _ rfl rfl
 have HI:=zh (rl 201 w.heap.size (fun i=>isK k (l.getD i default)) (ixP (isK k) l) _ (fun _ _=>Tryz.call201 _ _) (hr.keep (Stays.of_below A)) (PrsAt.forms hp) (jU _ _) (fun i hi=>tK _ l i hi) (pI _ l)
   (fun i hi W hW=>wD _ W ((hp i hi).below (am A hW)) (hk.below (am A hW)) ((hW.cell (p:=⟨w.heap.size,0,none⟩) (by rw [ah];exact Nat.lt_succ_self _)).trans B)))
 have HA:Hd (atI l (ixP (isK k) l)=if ixP (isK k) l<l.length then ((ixP (isK k) l:Nat):Int) else -1):=zh rfl;have F:=zh A;obtain ⟨s0,cap,rfl,_⟩:=hr;clear B hk hp A;generalize atI l (ixP (isK k) l)=r at *;generalize (if ixP (isK k) l<l.length then ((ixP (isK k) l:Nat):Int) else -1)=r2 at *;have D:r=r2:=HA.o;subst D;clear HA;go_enter Tryz.func183,Tryz.ntmps183
 go_wp2_with fail
 refine HI.o.mono ?_;rintro e w1 ⟨rfl,C⟩;have E:=zh (am F.o C);clear C;go_wp2_with fail
 exact bodyPost_ret (v:=.int .i64 r) (by simp [results,Tryz.results183,go_sem]) rfl ⟨rfl,E.o⟩
def r9 (l:List Pr):Prop:=∀p∈l,p.1.length≤64∧p.2.length≤256
theorem Br {S1 S2:Nat→Prop} {v kv:Value} {l:List Pr} {k:List UInt8} (w:World) (h:PrsAt S1 w v l) (hk:TxtAt S2 w kv k) (hs:r9 l):Calls Tryz.prog 200 #[v,kv] w fun e w'=>∃p c,e=.returned (.tuple #[.slice p ((fQ l k).getD []).length c,.bool (fQ l k).isSome])∧TxtAt (U8 w.heap.size w') w' (.slice p ((fQ l k).getD []).length c) ((fQ l k).getD [])∧Below w.heap.size w w':=by
 have HF:=zh (nz w h hk);have HG:=zh (zD l k);have HS:=zh hs;have HH:=zh h;obtain ⟨cs,hr,hp⟩:=h;have HP:=zh hp;obtain ⟨s0,cap,rfl,_,N,_,E,_⟩:=hr;obtain ⟨pk,ck,rfl,_⟩:=hk.form;unfold maxLen at N;have D:=zh E;generalize fQ l k=o at *;generalize ixP (isK k) l=i at *;unfold atI at HF;clear hk hp E hs;by_cases B:i<l.length
 ·rw [if_pos B] at HF
  have ho:=HG.o;rw [if_pos B] at ho;subst ho;clear HG;dsimp only [Option.getD_some,Option.isSome_some];obtain ⟨b,off,L,_,O,A⟩:=D.o (by omega);subst L;obtain ⟨a1,c1,a2,c2,I,K,H⟩:=HP.o i B;have G:=A i B;rw [I] at G;have x1:w.cell? ⟨b,off+i * 2+1,none⟩=some (.slice a2 (l.getD i default).2.length c2):=G 1 (by decide);have HT:=zh H;have P:=zh ((HS.o (l.getD i default) (by rw [List.getD_eq_getElem?_getD,List.getElem?_eq_getElem B];exact List.getElem_mem _)).2);have M:(i:Int)<(l.length:Int):=by omega
  have R:¬(i:Int)<0:=by omega
  generalize (l.getD i default).2=t at *;clear G I K H A HP HS D HH;go_enter Tryz.func200,Tryz.ntmps200
  go_wp2_with fail
  refine HF.o.mono ?_;rintro e w1 ⟨rfl,C⟩;have x1':w1.cell? ⟨b,off+i * 2+1,none⟩=some (.slice a2 t.length c2):=(C.cell (p:=⟨b,_,none⟩) O).trans x1;have HC:=zh (bY w1 (HT.o.below C) (by have:=P.o;omega));have F:=zh C;clear C x1;go_wp2_with fail
  refine HC.o.mono ?_;rintro e w2 ⟨p2,c2',rfl,ho,J⟩;have HO:=zh ho;have Q:=zh (am F.o J);clear ho J;go_wp2_with fail
  exact bodyPost_ret (v:=.tuple #[.slice p2 t.length c2',.bool true]) (by simp [results,Tryz.results200,go_sem]) rfl ⟨p2,c2',rfl,(dE HO.o).u8 (Stays.refl _ _) F.o.size,Q.o⟩
 ·rw [if_neg B] at HF
  have ho:=HG.o;rw [if_neg B] at ho;subst ho;clear HG HP HS D HH;dsimp only [Option.getD_none,Option.isSome_none];go_enter Tryz.func200,Tryz.ntmps200
  go_wp2_with fail
  refine HF.o.mono ?_;rintro e w1 ⟨rfl,C⟩;have F:=zh C;clear C;go_wp2_with fail
  exact bodyPost_ret (v:=.tuple #[.slice none 0 0,.bool false]) (by simp [results,Tryz.results200,go_sem]) rfl ⟨none,0,rfl,TxtAt.nil _ _,F.o⟩
end
section
open Go.RowKit Go.Shelf
def vU:Go.Shelf.Ren:=⟨fun | 4=>203 | n=>n,fun | 0=>0 | 3=>3 | 4=>4 | 9=>9 | 20=>20 | 22=>48 | 25=>70 | n=>n,fun | n=>n⟩
theorem BE:Go.Proofs.Lays8.n4 Tryz.prog vU:={
  mixed:=by kernel_rfl
  f4:=⟨Tryz.f203.name,by decide,Tryz.func203.trans (congrArg some (by kernel_rfl))⟩
  t0:=Tryz.underlying0
  a0:=Tryz.isAgg0
  z0:=Tryz.sizeOf0
  v0:=Tryz.zeroValue0
  t3:=Tryz.underlying3
  a3:=Tryz.isAgg3
  z3:=Tryz.sizeOf3
  v3:=Tryz.zeroValue3
  t4:=Tryz.underlying4
  a4:=Tryz.isAgg4
  z4:=Tryz.sizeOf4
  v4:=Tryz.zeroValue4
  t9:=Tryz.underlying9
  a9:=Tryz.isAgg9
  z9:=Tryz.sizeOf9
  v9:=Tryz.zeroValue9
  t20:=Tryz.underlying20
  a20:=Tryz.isAgg20
  z20:=Tryz.sizeOf20
  v20:=Tryz.zeroValue20
  t22:=Tryz.underlying48
  a22:=Tryz.isAgg48
  z22:=Tryz.sizeOf48
  v22:=Tryz.zeroValue48 }
theorem mo:∃i,Tryz.prog.info? 70=some i∧i.zero=some (.agg #[.slice none 0 0,.slice none 0 0])∧i.size=2∧i.bytes=48:=by
 have h:(Tryz.prog.info? 70).map (fun i=>(i.zero,i.size,i.bytes))=some (some (.agg #[.slice none 0 0,.slice none 0 0]),2,48):=by kernel_rfl
 obtain ⟨i,hi,he⟩:=Option.map_eq_some_iff.1 h;exact ⟨i,hi,congrArg (·.1) he,congrArg (·.2.1) he,congrArg (·.2.2) he⟩
theorem yZ (n:Nat) (w:World) (hn:n≤100000):Calls Tryz.prog 203 #[.slice none 0 0,.int .i64 n] w fun e w'=>∃s c,e=.returned (.slice s 0 c)∧w'.ownsRow w.heap.size 70 2 (.slice s 0 c) 0 []∧Below w.heap.size w w':=by
 by_cases h0:n=0
 ·subst h0
  exact (Any8.slices_Grow_room BE none 0 0 0 w (Nat.le_refl _) (by omega) (by omega) (Nat.le_refl _)).mono fun e w' h=>by
   obtain ⟨rfl,rfl⟩:=h;exact ⟨none,0,rfl,gy,Below.refl _ _⟩
 ·obtain ⟨i0,hi,hz,hs,hb⟩:=mo
  refine (Any8.slices_Grow_grow BE i0 _ hi hz (by omega) none 0 0 n [] w (Nat.le_refl _) (by omega) (by rw [hb];omega) (by omega) (by simp) (fun _=>rfl) (fun a h=>by cases h)).mono fun e w' h=>?_;obtain ⟨rfl,rfl⟩:=h;rw [Nat.zero_add];have h1:=grownCap_ge w n 0 70;have h2:=grownCap_le_maxLen w n 0 70 (by unfold maxLen;omega);refine ⟨_,_,rfl,⟨by simp,.inr ⟨w.heap.size,_,_,rfl,Nat.le_refl _,aj _ _ _ rfl,Nat.zero_le _,h2,?_,by simp⟩⟩,ag (aw (Below.refl _ _)) _⟩;show ((#[]++Builtin.zeroCells _ (n-0))++Builtin.zeroCells _ (grownCap w n 0 70-n):Array Value).size=_
  rw [Array.size_append,Array.size_append,size_zeroCells,size_zeroCells];show 0+(n-0)*2+(grownCap w n 0 70-n)*2=grownCap w n 0 70*2
  omega
def df (M:Nat→Nat):Nat→Nat
 | 0=>0
 | n+1=>df M n+M n
theorem pz {M:Nat→Nat} {n:Nat}:∀{i:Nat},i≤n→df M i≤df M n:=by
 induction n with
 | zero=>intro i h;rw [Nat.le_zero.1 h];exact Nat.le_refl _
 | succ n ih =>
  intro i h;by_cases e:i=n+1
  ·rw [e];exact Nat.le_refl _
  ·exact Nat.le_trans (ih (by omega)) (Nat.le_add_right _ _)
theorem qS {w:World} {a:Addr} {v:Value} (h:w.cell? a=some v):a.block<w.heap.size:=by
 by_cases hb:a.block<w.heap.size
 ·exact hb
 ·have e:w.heap[a.block]?=none:=by simp;omega
  simp [World.cell?,e] at h
structure PartOk (w:World) (p:Option Addr) (m c:Nat) (news:List Value):Prop where
 nil:p=none→m=0∧c=0
 len:news.length=m * 2
 cells:∀ad,p=some ad→∀j u,news[j]?=some u→w.cell? (ad.add j)=some u
 one:∀u∈news,u.oneCell'=true
theorem PartOk.below {w w':World} {p:Option Addr} {m c:Nat} {A:List Value} (h:PartOk w p m c A) (hb:Below w.heap.size w w'):PartOk w' p m c A:=
 ⟨h.nil,h.len,fun ad e j u hj=>(hb.cell (qS (h.cells ad e j u hj))).trans (h.cells ad e j u hj),h.one⟩
theorem mB (B n:Nat) (P:Nat→Option Addr) (M C:Nat→Nat) (NW:Nat→List Value) (w:World) (hn:n≤1000) (hc:∀i,i<n→w.cell? ⟨B,i,none⟩=some (.slice (P i) (M i) (C i))) (hp:∀i,i<n→PartOk w (P i) (M i) (C i) (NW i)) (hs:df M n≤100000) :
    Calls Tryz.prog 186 #[.slice (some ⟨B,0,none⟩) n n] w fun e w'=>∃s c,e=.returned (.slice s (df M n) c)∧w'.ownsRow w.heap.size 70 2 (.slice s (df M n) c) (df M n) (bG NW n)∧Below w.heap.size w w':=by
 obtain ⟨i0,O,W,V,U⟩:=mo;have HC:=zh hc;have HP:=zh hp;have HS:=zh hs;have HI:=zh O;have HN:=zh hn;clear hc hp hs O;go_enter Tryz.func186,Tryz.ntmps186
 go_wp2_with fail
 go_loopg [3,11] n (fun gg t3 t11 wr=>∃i:Nat,i+gg=n∧t3=.int .i64 (df M i:Nat)∧t11=.int .i64 (i:Int)∧w=wr)
 case atStart=>exact ⟨0,Nat.zero_add _,rfl,rfl,rfl⟩
 case round =>
  obtain ⟨i,J,rfl,rfl,rfl⟩:=hrel;have HG:=zh J;by_cases I:i<n
  ·have H:(i:Int)<(n:Int):=by omega
   have x0:=HC.o i I;have N:df M i+M i≤100000:=Nat.le_trans (pz (M:=M) (i:=i+1) I) HS.o;have X:((df M i:Nat):Int)+((M i:Nat):Int)≤100000:=by omega
   have Y:Hd ((df M (i+1):Nat)=df M i+M i):=zh rfl;clear N J;go_wp2_with fail
   go_roundg (n-i-1)
   case measure=>have:=HG.o;omega
   case rel=>exact ⟨i+1,by have:=HG.o;omega,by rw [Y.o];go_num,by go_num,rfl⟩
  ·obtain rfl:i=n:=by omega
   have H:¬(i:Int)<(i:Int):=by omega
   have T:=zh (yZ (df M i) w HS.o);have g:¬((df M i:Nat):Int)<0:=by omega
   clear J I;go_wp2_with fail
   refine T.o.mono ?_;rintro e w1 ⟨s1,c1,rfl,L,R⟩;have a:=zh L;have f:=zh R;clear L R T;go_wp2_with fail
   go_loopg [6,27] i (fun gg t6 t27 wr=>∃(k:Nat) (s:Option Addr) (c:Nat),k+gg=i∧t6=.slice s (df M k) c∧t27=.int .i64 (k:Int)∧Hd (wr.ownsRow w.heap.size 70 2 (.slice s (df M k) c) (df M k) (bG NW k))∧Below w.heap.size w wr)
   case atStart=>exact ⟨0,s1,c1,Nat.zero_add _,rfl,rfl,a,f.o⟩
   case round =>
    obtain ⟨k,s,c,G,rfl,rfl,HO,hb⟩:=hrel;have A:=zh hb;have S:=zh G;by_cases D:k<i
    ·have F:(k:Int)<(i:Int):=by omega
     have hx:=HC.o k D;have x0:wr.cell? ⟨B,k,none⟩=some (.slice (P k) (M k) (C k)):=(A.o.cell (p:=⟨B,k,none⟩) (az hx)).trans hx;have E:=zh ((HP.o k D).below A.o);have N:df M k+M k≤100000:=Nat.le_trans (pz (M:=M) (i:=k+1) D) HS.o;clear hb G hx;go_wp2_with (at_builtin;refine dC rfl _ _ _ rfl w.heap.size 70 i0 _ 2 48 Tryz.underlying48 HI.o W V U rfl (by decide) _ (df M k) (bG NW k) rfl HO.o (P k) (M k) (C k) (NW k) rfl E.o.nil E.o.len E.o.cells E.o.one ?q1 ?q2 A.o.size ?_)
     case q1=>unfold maxLen;omega
     case q2=>omega
     intro s2 c2 w2 K Q;have d:=zh (A.o.grown Q A.o.size (fun b hb=>(aI HO.o (show (Value.slice s (df M k) c).ownBlock=some b from hb)).1));have Z:Hd (w2.ownsRow w.heap.size 70 2 (.slice s2 (df M (k+1)) c2) (df M (k+1)) (bG NW (k+1))):=zh (by rw [cO];exact K);clear K Q;go_wp2_with fail
     go_roundg (i-k-1)
     case measure=>have:=S.o;omega
     case rel=>exact ⟨k+1,s2,c2,by have:=S.o;omega,rfl,by go_num,Z,d.o⟩
    ·obtain rfl:k=i:=by omega
     have F:¬(k:Int)<(k:Int):=by omega
     clear hb G D;go_wp2_with fail
     exact bodyPost_ret (v:=.slice s (df M k) c) (by simp [results,Tryz.results186,go_sem]) rfl ⟨s,c,rfl,HO.o,A.o⟩
end
end Go.Proofs.YthgcpfkochikfaaGreat
