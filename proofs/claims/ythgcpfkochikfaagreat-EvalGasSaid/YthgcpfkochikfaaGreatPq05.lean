/-
  EvalLoops: part 5 of its proof: see the last text.
-/
import Derived.Test.YthgcpfkochikfaaGreatPq03
import Derived.Test.YthgcpfkochikfaaGreatPq04
import Derived.Shelf.Spec.SlicesGrow
set_option maxRecDepth 100000
set_option maxHeartbeats 16000000
namespace Go.Proofs.YthgcpfkochikfaaGreat
section
open Go.RowKit
attribute [local go_sem ↓] Go.wp_at_zero Go.wp_at_succ
def PrC (S:Nat→Prop) (w:World) (cs:List Value) (p:Pr):Prop:=∃a ca b cb,cs=[.slice a p.1.length ca,.slice b p.2.length cb]∧TxtAt S w (.slice a p.1.length ca) p.1∧TxtAt S w (.slice b p.2.length cb) p.2
def PrsAt (S:Nat→Prop) (w:World) (v:Value) (l:List Pr):Prop:=∃cs,RowOf S w v 2 l.length cs∧∀i,i<l.length→PrC S w (cs i) (l.getD i default)
section
variable {S S':Nat→Prop} {w w':World} {v:Value} {l:List Pr} {cs:List Value} {p:Pr}
theorem PrC.keep (h:PrC S w cs p) (hk:Stays S w w'):PrC S w' cs p:=by
 obtain ⟨a,ca,b,cb,e,h1,h2⟩:=h;exact ⟨a,ca,b,cb,e,h1.keep hk,h2.keep hk⟩
theorem PrC.mono (h:PrC S w cs p) (hb:∀b,S b→S' b):PrC S' w cs p:=by
 obtain ⟨a,ca,b,cb,e,h1,h2⟩:=h;exact ⟨a,ca,b,cb,e,h1.mono hb,h2.mono hb⟩
theorem PrC.below (h:PrC S w cs p) (hb:Below w.heap.size w w'):PrC S w' cs p:=h.keep (Stays.of_below hb)
theorem PrsAt.keep (h:PrsAt S w v l) (hk:Stays S w w'):PrsAt S w' v l:=by
 obtain ⟨cs,h1,h2⟩:=h;exact ⟨cs,h1.keep hk,fun i hi=>(h2 i hi).keep hk⟩
theorem PrsAt.mono (h:PrsAt S w v l) (hb:∀b,S b→S' b):PrsAt S' w v l:=by
 obtain ⟨cs,h1,h2⟩:=h;exact ⟨cs,h1.mono hb,fun i hi=>(h2 i hi).mono hb⟩
theorem PrsAt.below (h:PrsAt S w v l) (hb:Below w.heap.size w w'):PrsAt S w' v l:=h.keep (Stays.of_below hb)
theorem PrsAt.nil:PrsAt S w (.slice none 0 0) []:=⟨fun _=>[],RowOf.nil _ _ _ _,fun i hi=>absurd hi (by simp)⟩
end
def PlV (v:Value):Prop:=∃p n c,v=.slice p n c∧∀a,p=some a→∃b off,a=⟨b,off,none⟩
def StAt (S:Nat→Prop) (w:World) (v:Value) (l:List Pr):Prop:=PrsAt S w v l∧PlV v
theorem StAt.keep {S:Nat→Prop} {w w':World} {v:Value} {l:List Pr} (h:StAt S w v l) (hk:Stays S w w'):StAt S w' v l:=⟨h.1.keep hk,h.2⟩
theorem StAt.mono {S S':Nat→Prop} {w:World} {v:Value} {l:List Pr} (h:StAt S w v l) (hb:∀b,S b→S' b):StAt S' w v l:=⟨h.1.mono hb,h.2⟩
theorem StAt.nil {S:Nat→Prop} {w:World}:StAt S w (.slice none 0 0) []:=⟨PrsAt.nil,none,0,0,rfl,fun _ h=>by cases h⟩
theorem vF {w:World} {B e sz n:Nat} {v:Value} {xs:List Value} (h:w.ownsRow B e sz v n xs):PlV v:=by
 rcases h.2 with ⟨q,_⟩ | ⟨g,cap,cur,q,_⟩
 ·exact ⟨none,0,0,q,fun _ h=>by cases h⟩
 ·exact ⟨_,_,_,q,fun _ h=>by injection h with h;exact ⟨g,0,h.symm⟩⟩
theorem uY {S S2:Nat→Prop} {cs:List Value} {p:Pr} {kv:Value} {k:List UInt8} (bx:Nat) (w:World) (hp:PrC S w cs p) (hk:TxtAt S2 w kv k) (B:w.cell? ⟨bx,0,none⟩=some kv) :
    Calls Tryz.prog 201 #[.agg cs.toArray,.pointer (some ⟨bx,0,none⟩)] w fun e w'=>e=.returned (.bool (p.1==k))∧Below w.heap.size w w':=by
 obtain ⟨a,ca,b,cb,rfl,h1,h2⟩:=hp;have A:=ag (Below.refl w.heap.size w) (.cells #[.slice a p.1.length ca,.slice b p.2.length cb] 70);have HE:=zh (uV _ (h1.below A) (hk.below A));obtain ⟨pk,ck,rfl,_⟩:=hk.form;have C:=az B;clear h1 h2 hk A;go_enter Tryz.func201,Tryz.ntmps201
 go_wp2_with fail
 refine HE.o.mono ?_;rintro e w1 ⟨rfl,rfl⟩;go_wp2_with fail
 exact bodyPost_ret (v:=.bool (p.1==k)) (by simp [results,Tryz.results201,go_sem]) rfl ⟨rfl,ag (Below.refl _ _) _⟩
theorem wD {S S2:Nat→Prop} {cs:List Value} {p:Pr} {kv:Value} {k:List UInt8} (bx:Nat) (w:World) (hp:PrC S w cs p) (hk:TxtAt S2 w kv k) (B:w.cell? ⟨bx,0,none⟩=some kv) :
    Calls Tryz.prog 185 #[.agg cs.toArray,.pointer (some ⟨bx,0,none⟩)] w fun e w'=>e=.returned (.bool (bM k p.1))∧Below w.heap.size w w':=by
 obtain ⟨a,ca,b,cb,rfl,h1,h2⟩:=hp;have A:=ag (Below.refl w.heap.size w) (.cells #[.slice a p.1.length ca,.slice b p.2.length cb] 70);have HE:=zh (jp _ (h1.below A) (hk.below A));have HL:Hd (bM k p.1=decide (0<Lib.compareBytes p.1 k)):=zh (by rw [fM,kN p.1 k];exact decide_eq_decide.2 (by omega));generalize Lib.compareBytes p.1 k=c at *;obtain ⟨pk,ck,rfl,_⟩:=hk.form;have C:=az B;clear h1 h2 hk A;go_enter Tryz.func185,Tryz.ntmps185
 go_wp2_with fail
 refine HE.o.mono ?_;rintro e w1 ⟨rfl,rfl⟩;go_wp2_with fail
 refine bodyPost_ret (v:=.bool (decide (0<c))) (by simp [results,Tryz.results185,go_sem]) rfl ⟨by rw [HL.o],ag (Below.refl _ _) _⟩
theorem qM {S:Nat→Prop} {v:Value} {n:Nat} {cs:Nat→List Value} (g:Nat) (bx:Nat) (q:Nat→Bool) (P:Nat) (w:World) (Y:Ent g) (hr:RowOf S w v 2 n cs) (hf:∀i,i<n→∃a la ca b lb cb,cs i=[.slice a la ca,.slice b lb cb])
    (hP:P≤n) (N:∀i,i<P→q i=false) (B:P<n→q P=true)
    (hp:∀i,i<n→∀W,Below w.heap.size w W→Calls Tryz.prog g #[.agg (cs i).toArray,.pointer (some ⟨bx,0,none⟩)] W fun e w'=>e=.returned (.bool (q i))∧Below W.heap.size W w') :
    Calls Tryz.prog 184 #[v,.func (.func g) #[] #[.pointer (some ⟨bx,0,none⟩)]] w fun e w'=>e=.returned (.int .i64 (if P<n then (P:Int) else -1))∧Below w.heap.size w w':=by
 obtain ⟨s0,cap,rfl,V,J,_,C,R⟩:=hr;unfold maxLen at J;unfold Ent at Y;have U:n≤9223372036854775807:=by omega
 have c:=zh N;have K:=zh B;have L:=zh C;have HF:=zh hf;have E:=zh hp;have HP:=zh (And.intro hP J);clear C R V J hp N B hf hP;go_enter Tryz.func184,Tryz.ntmps184
 go_wp2_with fail
 go_loopg [8] (P+1) (fun gg t8 wr=>∃i:Nat,i+gg=P+1∧0<gg∧t8=.int .i64 (i:Int)∧Below w.heap.size w wr)
 case atStart=>exact ⟨0,Nat.zero_add _,Nat.succ_pos _,rfl,Below.refl _ _⟩
 case round =>
  obtain ⟨i,X,hg,rfl,hb⟩:=hrel;have F:=zh hb;have HG:=zh X;by_cases G:i<n
  ·have I:(i:Int)<(n:Int):=by omega
   have d:(0:Int)≤(i:Int):=by omega
   obtain ⟨b,off,T,_,Z,A⟩:=L.o (by omega);subst T;obtain ⟨a1,l1,c1,a2,l2,c2,Q⟩:=HF.o i G;have H:∀j,j<2→wr.cell? ⟨b,off+i * 2+j,none⟩=(cs i)[j]?:=fun j hj=>(F.o.cell (p:=⟨b,_,none⟩) Z).trans (A i G j hj);have HC:=zh (E.o i G wr F.o);rw [Q] at H HC;have x0:wr.cell? ⟨b,off+i * 2,none⟩=some (.slice a1 l1 c1):=H 0 (by decide);have x1:wr.cell? ⟨b,off+i * 2+1,none⟩=some (.slice a2 l2 c2):=H 1 (by decide);clear hb H Q A;by_cases O:i<P
   ·have hq:=c.o i O
    rw [hq] at HC;clear hq;go_wp2_with fail
    go_at_fn g
    refine HC.o.mono ?_;rintro e w' ⟨rfl,D⟩;have M:=zh (am F.o D);clear D;go_wp2_with fail
    go_roundg (P-i)
    case measure=>omega
    case rel=>exact ⟨i+1,by have:=HG.o;omega,by omega,by go_num,M.o⟩
   ·obtain rfl:i=P:=by have:=HG.o;omega
    have hq:=K.o G;rw [hq] at HC;clear hq O;go_wp2_with fail
    go_at_fn g
    refine HC.o.mono ?_;rintro e w' ⟨rfl,D⟩;have M:=zh (am F.o D);clear D;go_wp2_with fail
    exact bodyPost_ret (v:=.int .i64 i) (by simp [results,Tryz.results184,go_sem]) rfl ⟨rfl,M.o⟩
  ·obtain rfl:i=P:=by have:=HG.o;have:=HP.o.1;omega
   have I:¬(i:Int)<(n:Int):=by omega
   clear hb;go_wp2_with fail
   exact bodyPost_ret (v:=.int .i64 (-1)) (by simp [results,Tryz.results184,go_sem]) rfl ⟨rfl,F.o⟩
def ixP (q:Pr→Bool):List Pr→Nat
 | []=>0
 | p :: l=>if q p then 0 else ixP q l+1
theorem jS (q:Pr→Bool):∀l,ixP q l≤l.length
 | []=>Nat.le_refl _
 | p :: l=>by
  rw [ixP];split
  ·exact Nat.zero_le _
  ·exact Nat.succ_le_succ (jS q l)
theorem sY (q:Pr→Bool):∀(l:List Pr) (i:Nat),i<ixP q l→q (l.getD i default)=false
 | [],i,h=>absurd h (Nat.not_lt_zero _)
 | p :: l,i,h=>by
  rw [ixP] at h;by_cases e:q p=true
  ·rw [if_pos e] at h;exact absurd h (Nat.not_lt_zero _)
  ·rw [if_neg e] at h
   cases i with
   | zero=>simpa using e
   | succ i=>exact sY q l i (by omega)
theorem qd (q:Pr→Bool):∀(l:List Pr),ixP q l<l.length→q (l.getD (ixP q l) default)=true
 | [],h=>absurd h (Nat.not_lt_zero _)
 | p :: l,h=>by
  rw [ixP] at h ⊢;by_cases e:q p=true
  ·rw [if_pos e];exact e
  ·rw [if_neg e] at h ⊢
   exact qd q l (by simpa using h)
def atI (l:List Pr) (i:Nat):Int:=if i<l.length then (i:Int) else -1
def isK (k:List UInt8) (p:Pr):Bool:=p.1==k
def gtK (k:List UInt8) (p:Pr):Bool:=bM k p.1
theorem Ap (l:List Pr) (k:List UInt8):fZ l k=if ixP (isK k) l<l.length then some (l.getD (ixP (isK k) l) default).2 else none:=by
 unfold fZ;induction l with
 | nil=>rfl
 | cons p l ih =>
  rw [ixP,List.find?_cons];by_cases e:isK k p=true
  ·rw [if_pos e,show (p.1==k)=true from e]
   simp
  ·rw [if_neg e,show (p.1==k)=false by simpa [isK] using e]
   dsimp only;rw [ih];by_cases h:ixP (isK k) l<l.length
   ·rw [if_pos h,if_pos (by simpa using h)];rfl
   ·rw [if_neg h,if_neg (by simpa using h)]
theorem PrsAt.forms {S:Nat→Prop} {w:World} {l:List Pr} {cs:Nat→List Value} (h:∀i,i<l.length→PrC S w (cs i) (l.getD i default)):∀i,i<l.length→∃a la ca b lb cb,cs i=[.slice a la ca,.slice b lb cb]:=fun i hi=>by
 obtain ⟨a,ca,b,cb,e,_⟩:=h i hi;exact ⟨_,_,_,_,_,_,e⟩
theorem mP {S1 S2:Nat→Prop} {v kv:Value} {l:List Pr} {k:List UInt8} (w:World) (h:PrsAt S1 w v l) (hk:TxtAt S2 w kv k):Calls Tryz.prog 183 #[v,kv] w fun e w'=>e=.returned (.int .i64 (atI l (ixP (isK k) l)))∧Below w.heap.size w w':=by
 obtain ⟨cs,hr,hp⟩:=h;obtain ⟨pk,ck,rfl,_⟩:=hk.form;have A:=ag (Below.refl w.heap.size w) (.cells #[.slice pk k.length ck] 30);have B:(w.alloc (.cells #[.slice pk k.length ck] 30)).cell? ⟨w.heap.size,0,none⟩=some (.slice pk k.length ck):=aA _ _ _ _ _ _ rfl rfl
 have HI:=zh (qM 201 w.heap.size (fun i=>isK k (l.getD i default)) (ixP (isK k) l) _ (fun _ _=>Tryz.call201 _ _) (hr.keep (Stays.of_below A)) (PrsAt.forms hp) (jS _ _) (fun i hi=>sY _ l i hi) (qd _ l)
   (fun i hi W hW=>uY _ W ((hp i hi).below (am A hW)) (hk.below (am A hW)) ((hW.cell (p:=⟨w.heap.size,0,none⟩) (by rw [ah];exact Nat.lt_succ_self _)).trans B)))
 have HA:Hd (atI l (ixP (isK k) l)=if ixP (isK k) l<l.length then ((ixP (isK k) l:Nat):Int) else -1):=zh rfl;have F:=zh A;obtain ⟨s0,cap,rfl,_⟩:=hr;clear B hk hp A;generalize atI l (ixP (isK k) l)=r at *;generalize (if ixP (isK k) l<l.length then ((ixP (isK k) l:Nat):Int) else -1)=r2 at *;have D:r=r2:=HA.o;subst D;clear HA;go_enter Tryz.func183,Tryz.ntmps183
 go_wp2_with fail
 refine HI.o.mono ?_;rintro e w1 ⟨rfl,C⟩;have E:=zh (am F.o C);clear C;go_wp2_with fail
 exact bodyPost_ret (v:=.int .i64 r) (by simp [results,Tryz.results183,go_sem]) rfl ⟨rfl,E.o⟩
def sL (l:List Pr):Prop:=∀p∈l,p.1.length≤64∧p.2.length≤256
theorem zN {S1 S2:Nat→Prop} {v kv:Value} {l:List Pr} {k:List UInt8} (w:World) (h:PrsAt S1 w v l) (hk:TxtAt S2 w kv k) (hs:sL l):Calls Tryz.prog 200 #[v,kv] w fun e w'=>∃p c,e=.returned (.tuple #[.slice p ((fZ l k).getD []).length c,.bool (fZ l k).isSome])∧TxtAt (U8 w.heap.size w') w' (.slice p ((fZ l k).getD []).length c) ((fZ l k).getD [])∧Below w.heap.size w w':=by
 have HF:=zh (mP w h hk);have HG:=zh (Ap l k);have HS:=zh hs;have HH:=zh h;obtain ⟨cs,hr,hp⟩:=h;have HP:=zh hp;obtain ⟨s0,cap,rfl,_,N,_,E,_⟩:=hr;obtain ⟨pk,ck,rfl,_⟩:=hk.form;unfold maxLen at N;have D:=zh E;generalize fZ l k=o at *;generalize ixP (isK k) l=i at *;unfold atI at HF;clear hk hp E hs;by_cases B:i<l.length
 ·rw [if_pos B] at HF
  have ho:=HG.o;rw [if_pos B] at ho;subst ho;clear HG;dsimp only [Option.getD_some,Option.isSome_some];obtain ⟨b,off,L,_,O,A⟩:=D.o (by omega);subst L;obtain ⟨a1,c1,a2,c2,I,K,H⟩:=HP.o i B;have G:=A i B;rw [I] at G;have x1:w.cell? ⟨b,off+i * 2+1,none⟩=some (.slice a2 (l.getD i default).2.length c2):=G 1 (by decide);have HT:=zh H;have P:=zh ((HS.o (l.getD i default) (by rw [List.getD_eq_getElem?_getD,List.getElem?_eq_getElem B];exact List.getElem_mem _)).2);have M:(i:Int)<(l.length:Int):=by omega
  have R:¬(i:Int)<0:=by omega
  generalize (l.getD i default).2=t at *;clear G I K H A HP HS D HH;go_enter Tryz.func200,Tryz.ntmps200
  go_wp2_with fail
  refine HF.o.mono ?_;rintro e w1 ⟨rfl,C⟩;have x1':w1.cell? ⟨b,off+i * 2+1,none⟩=some (.slice a2 t.length c2):=(C.cell (p:=⟨b,_,none⟩) O).trans x1;have HC:=zh (cf w1 (HT.o.below C) (by have:=P.o;omega));have F:=zh C;clear C x1;go_wp2_with fail
  refine HC.o.mono ?_;rintro e w2 ⟨p2,c2',rfl,ho,J⟩;have HO:=zh ho;have Q:=zh (am F.o J);clear ho J;go_wp2_with fail
  exact bodyPost_ret (v:=.tuple #[.slice p2 t.length c2',.bool true]) (by simp [results,Tryz.results200,go_sem]) rfl ⟨p2,c2',rfl,(dz HO.o).u8 (Stays.refl _ _) F.o.size,Q.o⟩
 ·rw [if_neg B] at HF
  have ho:=HG.o;rw [if_neg B] at ho;subst ho;clear HG HP HS D HH;dsimp only [Option.getD_none,Option.isSome_none];go_enter Tryz.func200,Tryz.ntmps200
  go_wp2_with fail
  refine HF.o.mono ?_;rintro e w1 ⟨rfl,C⟩;have F:=zh C;clear C;go_wp2_with fail
  exact bodyPost_ret (v:=.tuple #[.slice none 0 0,.bool false]) (by simp [results,Tryz.results200,go_sem]) rfl ⟨none,0,rfl,TxtAt.nil _ _,F.o⟩
end
section
open Go.RowKit Go.Shelf
def wh:Go.Shelf.Ren:=⟨fun | 4=>203 | n=>n,fun | 0=>0 | 3=>3 | 4=>4 | 9=>9 | 20=>20 | 22=>48 | 25=>70 | n=>n,fun | n=>n⟩
theorem Bt:Go.Proofs.Lays8.n4 Tryz.prog wh:={
  mixed:=by kernel_rfl
  f4:=⟨Tryz.f203.name,by decide,Tryz.func203.trans (congrArg some (by kernel_rfl))⟩
  t0:=Tryz.underlying0
  a0:=Tryz.isAgg0
  z0:=Tryz.sizeOf0
  v0:=Tryz.zeroValue0
  t3:=Tryz.underlying3
  a3:=Tryz.isAgg3
  z3:=Tryz.sizeOf3
  v3:=Tryz.zeroValue3
  t4:=Tryz.underlying4
  a4:=Tryz.isAgg4
  z4:=Tryz.sizeOf4
  v4:=Tryz.zeroValue4
  t9:=Tryz.underlying9
  a9:=Tryz.isAgg9
  z9:=Tryz.sizeOf9
  v9:=Tryz.zeroValue9
  t20:=Tryz.underlying20
  a20:=Tryz.isAgg20
  z20:=Tryz.sizeOf20
  v20:=Tryz.zeroValue20
  t22:=Tryz.underlying48
  a22:=Tryz.isAgg48
  z22:=Tryz.sizeOf48
  v22:=Tryz.zeroValue48 }
theorem mD:∃i,Tryz.prog.info? 70=some i∧i.zero=some (.agg #[.slice none 0 0,.slice none 0 0])∧i.size=2∧i.bytes=48:=by
 have h:(Tryz.prog.info? 70).map (fun i=>(i.zero,i.size,i.bytes))=some (some (.agg #[.slice none 0 0,.slice none 0 0]),2,48):=by kernel_rfl
 obtain ⟨i,hi,he⟩:=Option.map_eq_some_iff.1 h;exact ⟨i,hi,congrArg (·.1) he,congrArg (·.2.1) he,congrArg (·.2.2) he⟩
theorem zt (n:Nat) (w:World) (hn:n≤100000):Calls Tryz.prog 203 #[.slice none 0 0,.int .i64 n] w fun e w'=>∃s c,e=.returned (.slice s 0 c)∧w'.ownsRow w.heap.size 70 2 (.slice s 0 c) 0 []∧Below w.heap.size w w':=by
 by_cases h0:n=0
 ·subst h0
  exact (Any8.slices_Grow_room Bt none 0 0 0 w (Nat.le_refl _) (by omega) (by omega) (Nat.le_refl _)).mono fun e w' h=>by
   obtain ⟨rfl,rfl⟩:=h;exact ⟨none,0,rfl,gq,Below.refl _ _⟩
 ·obtain ⟨i0,hi,hz,hs,hb⟩:=mD
  refine (Any8.slices_Grow_grow Bt i0 _ hi hz (by omega) none 0 0 n [] w (Nat.le_refl _) (by omega) (by rw [hb];omega) (by omega) (by simp) (fun _=>rfl) (fun a h=>by cases h)).mono fun e w' h=>?_;obtain ⟨rfl,rfl⟩:=h;rw [Nat.zero_add];have h1:=grownCap_ge w n 0 70;have h2:=grownCap_le_maxLen w n 0 70 (by unfold maxLen;omega);refine ⟨_,_,rfl,⟨by simp,.inr ⟨w.heap.size,_,_,rfl,Nat.le_refl _,aj _ _ _ rfl,Nat.zero_le _,h2,?_,by simp⟩⟩,ag (aw (Below.refl _ _)) _⟩;show ((#[]++Builtin.zeroCells _ (n-0))++Builtin.zeroCells _ (grownCap w n 0 70-n):Array Value).size=_
  rw [Array.size_append,Array.size_append,size_zeroCells,size_zeroCells];show 0+(n-0)*2+(grownCap w n 0 70-n)*2=grownCap w n 0 70*2
  omega
def cq (M:Nat→Nat):Nat→Nat
 | 0=>0
 | n+1=>cq M n+M n
theorem lW {M:Nat→Nat} {n:Nat}:∀{i:Nat},i≤n→cq M i≤cq M n:=by
 induction n with
 | zero=>intro i h;rw [Nat.le_zero.1 h];exact Nat.le_refl _
 | succ n ih =>
  intro i h;by_cases e:i=n+1
  ·rw [e];exact Nat.le_refl _
  ·exact Nat.le_trans (ih (by omega)) (Nat.le_add_right _ _)
theorem rz {w:World} {a:Addr} {v:Value} (h:w.cell? a=some v):a.block<w.heap.size:=by
 by_cases hb:a.block<w.heap.size
 ·exact hb
 ·have e:w.heap[a.block]?=none:=by simp;omega
  simp [World.cell?,e] at h
structure PartOk (w:World) (p:Option Addr) (m c:Nat) (news:List Value):Prop where
 nil:p=none→m=0∧c=0
 len:news.length=m * 2
 cells:∀ad,p=some ad→∀j u,news[j]?=some u→w.cell? (ad.add j)=some u
 one:∀u∈news,u.oneCell'=true
theorem PartOk.below {w w':World} {p:Option Addr} {m c:Nat} {A:List Value} (h:PartOk w p m c A) (hb:Below w.heap.size w w'):PartOk w' p m c A:=
 ⟨h.nil,h.len,fun ad e j u hj=>(hb.cell (rz (h.cells ad e j u hj))).trans (h.cells ad e j u hj),h.one⟩
theorem nQ (B n:Nat) (P:Nat→Option Addr) (M C:Nat→Nat) (NW:Nat→List Value) (w:World) (hn:n≤1000) (hc:∀i,i<n→w.cell? ⟨B,i,none⟩=some (.slice (P i) (M i) (C i))) (hp:∀i,i<n→PartOk w (P i) (M i) (C i) (NW i)) (hs:cq M n≤100000) :
    Calls Tryz.prog 186 #[.slice (some ⟨B,0,none⟩) n n] w fun e w'=>∃s c,e=.returned (.slice s (cq M n) c)∧w'.ownsRow w.heap.size 70 2 (.slice s (cq M n) c) (cq M n) (bH NW n)∧Below w.heap.size w w':=by
 obtain ⟨i0,O,W,V,U⟩:=mD;have HC:=zh hc;have HP:=zh hp;have HS:=zh hs;have HI:=zh O;have HN:=zh hn;clear hc hp hs O;go_enter Tryz.func186,Tryz.ntmps186
 go_wp2_with fail
 go_loopg [3,11] n (fun gg t3 t11 wr=>∃i:Nat,i+gg=n∧t3=.int .i64 (cq M i:Nat)∧t11=.int .i64 (i:Int)∧w=wr)
 case atStart=>exact ⟨0,Nat.zero_add _,rfl,rfl,rfl⟩
 case round =>
  obtain ⟨i,J,rfl,rfl,rfl⟩:=hrel;have HG:=zh J;by_cases I:i<n
  ·have H:(i:Int)<(n:Int):=by omega
   have x0:=HC.o i I;have N:cq M i+M i≤100000:=Nat.le_trans (lW (M:=M) (i:=i+1) I) HS.o;have X:((cq M i:Nat):Int)+((M i:Nat):Int)≤100000:=by omega
   have Y:Hd ((cq M (i+1):Nat)=cq M i+M i):=zh rfl;clear N J;go_wp2_with fail
   go_roundg (n-i-1)
   case measure=>have:=HG.o;omega
   case rel=>exact ⟨i+1,by have:=HG.o;omega,by rw [Y.o];go_num,by go_num,rfl⟩
  ·obtain rfl:i=n:=by omega
   have H:¬(i:Int)<(i:Int):=by omega
   have T:=zh (zt (cq M i) w HS.o);have g:¬((cq M i:Nat):Int)<0:=by omega
   clear J I;go_wp2_with fail
   refine T.o.mono ?_;rintro e w1 ⟨s1,c1,rfl,L,R⟩;have a:=zh L;have f:=zh R;clear L R T;go_wp2_with fail
   go_loopg [6,27] i (fun gg t6 t27 wr=>∃(k:Nat) (s:Option Addr) (c:Nat),k+gg=i∧t6=.slice s (cq M k) c∧t27=.int .i64 (k:Int)∧Hd (wr.ownsRow w.heap.size 70 2 (.slice s (cq M k) c) (cq M k) (bH NW k))∧Below w.heap.size w wr)
   case atStart=>exact ⟨0,s1,c1,Nat.zero_add _,rfl,rfl,a,f.o⟩
   case round =>
    obtain ⟨k,s,c,G,rfl,rfl,HO,hb⟩:=hrel;have A:=zh hb;have S:=zh G;by_cases D:k<i
    ·have F:(k:Int)<(i:Int):=by omega
     have hx:=HC.o k D;have x0:wr.cell? ⟨B,k,none⟩=some (.slice (P k) (M k) (C k)):=(A.o.cell (p:=⟨B,k,none⟩) (az hx)).trans hx;have E:=zh ((HP.o k D).below A.o);have N:cq M k+M k≤100000:=Nat.le_trans (lW (M:=M) (i:=k+1) D) HS.o;clear hb G hx;go_wp2_with (at_builtin;refine dB rfl _ _ _ rfl w.heap.size 70 i0 _ 2 48 Tryz.underlying48 HI.o W V U rfl (by decide) _ (cq M k) (bH NW k) rfl HO.o (P k) (M k) (C k) (NW k) rfl E.o.nil E.o.len E.o.cells E.o.one ?q1 ?q2 A.o.size ?_)
     case q1=>unfold maxLen;omega
     case q2=>omega
     intro s2 c2 w2 K Q;have d:=zh (A.o.grown Q A.o.size (fun b hb=>(aI HO.o (show (Value.slice s (cq M k) c).ownBlock=some b from hb)).1));have Z:Hd (w2.ownsRow w.heap.size 70 2 (.slice s2 (cq M (k+1)) c2) (cq M (k+1)) (bH NW (k+1))):=zh (by rw [cO];exact K);clear K Q;go_wp2_with fail
     go_roundg (i-k-1)
     case measure=>have:=S.o;omega
     case rel=>exact ⟨k+1,s2,c2,by have:=S.o;omega,rfl,by go_num,Z,d.o⟩
    ·obtain rfl:k=i:=by omega
     have F:¬(k:Int)<(k:Int):=by omega
     clear hb G D;go_wp2_with fail
     exact bodyPost_ret (v:=.slice s (cq M k) c) (by simp [results,Tryz.results186,go_sem]) rfl ⟨s,c,rfl,HO.o,A.o⟩
end
section
open Go.RowKit
def lQ (l:List Pr) (k:List UInt8):Nat:=if ixP (isK k) l<l.length then ixP (isK k) l else ixP (gtK k) l
def lO (l:List Pr) (k:List UInt8):Nat:=if ixP (isK k) l<l.length then ixP (isK k) l+1 else ixP (gtK k) l
theorem ow (a:List UInt8):bM a a=false:=by rw [fM,(iZ a a).2 rfl];rfl
theorem ww {a b:List UInt8} (h:a≠b) (g:bM a b=false):bM b a=true:=by
 rw [fM] at g ⊢;have:=kN a b;have:=mt (iZ a b).1 h;simp at g ⊢
 omega
theorem jC:∀{a b c:List UInt8},bM a b=true→bM b c=true→bM a c=true
 | [],[],_,h,_=>by cases h
 | [],_ :: _,[],_,h=>by cases h
 | [],_ :: _,_ :: _,_,_=>rfl
 | _ :: _,[],_,h,_=>by cases h
 | _ :: _,_ :: _,[],_,h=>by cases h
 | x :: a,y :: b,z :: c,h,g=>by
  rw [bM] at h g ⊢;by_cases h1:x<y
  ·by_cases g1:y<z
   ·rw [if_pos (UInt8.lt_trans h1 g1)]
   ·rw [if_neg g1] at g
    by_cases g2:z<y
    ·rw [if_pos g2] at g;cases g
    ·have:y=z:=UInt8.le_antisymm (UInt8.not_lt.1 g2) (UInt8.not_lt.1 g1)
     subst this;rw [if_pos h1]
  ·rw [if_neg h1] at h
   by_cases h2:y<x
   ·rw [if_pos h2] at h;cases h
   ·rw [if_neg h2] at h
    have:x=y:=UInt8.le_antisymm (UInt8.not_lt.1 h2) (UInt8.not_lt.1 h1);subst this;by_cases g1:x<z
    ·rw [if_pos g1]
    ·rw [if_neg g1] at g ⊢
     by_cases g2:z<x
     ·rw [if_pos g2] at g;cases g
     ·rw [if_neg g2] at g ⊢
      exact jC h g
theorem jO {p:Pr} {l:List Pr} (h:dr (p :: l)=true):dr l=true:=by
 cases l with
 | nil=>rfl
 | cons q l =>
  rw [dr,Bool.and_eq_true] at h;exact h.2
theorem gJ {p:Pr}:∀{l:List Pr},dr (p :: l)=true→∀q∈l,bM p.1 q.1=true
 | [],_,q,hq=>by cases hq
 | r :: l,h,q,hq=>by
  have h':=h;rw [dr,Bool.and_eq_true] at h';rcases List.mem_cons.1 hq with rfl | hq
  ·exact h'.1
  ·exact jC h'.1 (gJ h'.2 q hq)
theorem rl {q:Pr→Bool}:∀{l:List Pr},(∀p∈l,q p=false)→ixP q l=l.length
 | [],_=>rfl
 | p :: l,h=>by
  rw [ixP,if_neg (by rw [h p (List.mem_cons_self ..)];decide),rl fun p hp=>h p (List.mem_cons_of_mem _ hp)];rfl
theorem mL (k v:List UInt8):∀{l:List Pr},dr l=true→eY l k v=l.take (lQ l k)++(k,v) :: l.drop (lO l k)
 | [],_=>rfl
 | p :: l,h=>by
  have ih:=mL k v (jO h);rw [eY];by_cases e:p.1=k
  ·rw [if_pos e]
   have hk:isK k p=true:=by simp [isK,e]
   have h1:ixP (isK k) (p :: l)=0:=by rw [ixP,if_pos hk]
   unfold lQ lO;rw [h1,if_pos (by simp),if_pos (by simp)];simp
  ·rw [if_neg e]
   have hk:isK k p=false:=by simp [isK,e]
   by_cases g:bM k p.1=true
   ·rw [if_pos g]
    have hn:∀q∈p :: l,isK k q=false:=fun q hq=>by
     rcases List.mem_cons.1 hq with rfl | hq
     ·exact hk
     ·have:=jC g (gJ h q hq)
      unfold isK;rw [beq_eq_false_iff_ne];intro q';rw [q',ow] at this
      cases this
    have hg:ixP (gtK k) (p :: l)=0:=by rw [ixP,if_pos (show gtK k p=true from g)]
    unfold lQ lO;rw [rl hn,if_neg (Nat.lt_irrefl _),if_neg (Nat.lt_irrefl _),hg];simp
   ·rw [if_neg g,ih]
    have h1:ixP (isK k) (p :: l)=ixP (isK k) l+1:=by rw [ixP,if_neg (by rw [hk];decide)]
    have h2:ixP (gtK k) (p :: l)=ixP (gtK k) l+1:=by rw [ixP,if_neg (show ¬gtK k p=true from g)]
    unfold lQ lO;rw [h1,h2];by_cases q:ixP (isK k) l<l.length
    ·simp [q]
    ·simp [q]
theorem nL (k:List UInt8):∀l:List Pr,eu l k=if ixP (isK k) l<l.length then l.take (ixP (isK k) l)++l.drop (ixP (isK k) l+1) else l
 | []=>rfl
 | p :: l=>by
  rw [eu,ixP];by_cases e:p.1=k
  ·rw [if_pos e,if_pos (show isK k p=true by simp [isK,e])]
   simp
  ·rw [if_neg e,if_neg (show ¬isK k p=true by simp [isK,e]),nL k l]
   by_cases q:ixP (isK k) l<l.length
   ·simp [q]
   ·simp [q]
theorem zk (l:List Pr) (k:List UInt8):lQ l k≤l.length:=by
 unfold lQ;split
 ·exact jS _ _
 ·exact jS _ _
theorem xS (l:List Pr) (k:List UInt8):lO l k≤l.length:=by
 unfold lO;split
 ·assumption
 ·exact jS _ _
def iQ (a:Nat) (c1 c2:Nat→List Value) (i:Nat):List Value:=if i<a then c1 i else c2 (i-a)
theorem il (a:Nat) (c1 c2:Nat→List Value):∀b,bH (iQ a c1 c2) (a+b)=bH c1 a++bH c2 b
 | 0=>by
  rw [Nat.add_zero,nx (cs:=iQ a c1 c2) (cs':=c1) fun i hi=>if_pos hi];simp [bH]
 | b+1=>by
  rw [←Nat.add_assoc,cO,il a c1 c2 b,cO,List.append_assoc];congr 2
  unfold iQ;rw [if_neg (by omega),show a+b-a=b by omega]
theorem fm {S:Nat→Prop} {w:World} {l1 l2:List Pr} {c1 c2:Nat→List Value} {a b:Nat} (ha:l1.length=a) (h1:∀i,i<a→PrC S w (c1 i) (l1.getD i default)) (h2:∀i,i<b→PrC S w (c2 i) (l2.getD i default)) :
    ∀i,i<a+b→PrC S w (iQ a c1 c2 i) ((l1++l2).getD i default):=fun i hi=>by
 unfold iQ;by_cases e:i<a
 ·rw [if_pos e,List.getD_eq_getElem?_getD,List.getElem?_append_left (by omega),←List.getD_eq_getElem?_getD]
  exact h1 i e
 ·rw [if_neg e,List.getD_eq_getElem?_getD,List.getElem?_append_right (by omega),ha,←List.getD_eq_getElem?_getD]
  exact h2 _ (by omega)
def Nu (B:Nat) (w:World) (b:Nat):Prop:=B≤b∧(OfTy w b 5∨OfTy w b 70)
theorem ii {S:Nat→Prop} {w:World} {B n:Nat} {v:Value} {l:List Pr} {cs:Nat→List Value} {xs:List Value} (ho:w.ownsRow B 70 2 v n xs) (hx:xs=bH cs n) (hn:n=l.length) (hp:∀i,i<l.length→PrC S w (cs i) (l.getD i default)) :
    StAt (fun b=>S b∨Nu B w b) w v l:=by
 subst hx hn;refine ⟨?_,vF ho⟩;obtain ⟨s0,cap,rfl,h1,h2,h3,h4⟩:=bC ho
 have hl:∀i,i<l.length→(cs i).length=2:=fun i hi=>by
  obtain ⟨_,_,_,_,e,_⟩:=hp i hi;exact e▸rfl
 refine ⟨cs,⟨s0,cap,rfl,h1,h2,h3,fun h0=>?_,hl⟩,fun i hi=>(hp i hi).mono fun b h=>.inl h⟩;obtain ⟨g,rfl,hg,C,hc⟩:=h4 h0;refine ⟨g,0,rfl,.inr ⟨hg,.inr (dy ho rfl)⟩,C,fun i hi j hj=>?_⟩;have A:=kT hl hi hj;have D:=hl i hi;rw [Nat.zero_add,hc (i * 2+j) ((cs i)[j]'(by omega)) (by rw [A];exact List.getElem?_eq_getElem _),List.getElem?_eq_getElem (by omega)]
theorem fP {w:World} {n b off m:Nat} {cs:Nat→List Value} (a:Nat) (hl:∀i,i<n→∃x lx cx y ly cy,cs i=[.slice x lx cx,.slice y ly cy]) (hc:∀i,i<n→∀j,j<2→w.cell? ⟨b,off+i * 2+j,none⟩=(cs i)[j]?) (c:Nat) (hm:a+m≤n) (p:Option Addr) (hp:p=none→m=0∧c=0) (B:0<m→p=some ⟨b,off+a * 2,none⟩) :
    PartOk w p m c (bH (fun i=>cs (a+i)) m):=by
 have A:∀i,i<m→(cs (a+i)).length=2:=fun i hi=>by
  obtain ⟨_,_,_,_,_,_,e⟩:=hl (a+i) (by omega);rw [e];rfl
 have C:=gS A;refine ⟨hp,C,fun ad e j u hj=>?_,fun u hu=>?_⟩
 ·have D:j<m * 2:=by
    have:=(List.getElem?_eq_some_iff.1 hj).1;omega
  have h0:0<m:=by omega
  rw [B h0] at e;injection e with e
  subst e;have h1:=kT A (i:=j / 2) (j:=j % 2) (by omega) (Nat.mod_lt _ (by decide));have h2:=hc (a+j / 2) (by omega) (j % 2) (Nat.mod_lt _ (by decide));rw [show j / 2*2+j % 2=j by omega] at h1;rw [Go.WideShapes.add_plain,show off+a * 2+j=off+(a+j / 2)*2+j % 2 by omega,h2,←h1];exact hj
 ·obtain ⟨i,hi,hu⟩:=List.mem_flatMap.1 hu
  obtain ⟨_,_,_,_,_,_,e⟩:=hl (a+i) (by have:=List.mem_range.1 hi;omega);rw [e] at hu;rcases List.mem_cons.1 hu with rfl | hu
  ·rfl
  ·rcases List.mem_cons.1 hu with rfl | hu
   ·rfl
   ·cases hu
end
section
open Go.RowKit
attribute [local go_sem ↓] Go.wp_at_zero Go.wp_at_succ
theorem cg {l:List Pr} (h:aV l=true):sL l∧dr l=true∧bT l≤2048:=by
 unfold aV at h;rw [Bool.and_eq_true,Bool.and_eq_true] at h;refine ⟨fun p hp=>?_,h.1.2,by simpa using h.2⟩;have:=List.all_eq_true.1 h.1.1 p hp;simpa using this
theorem kV:∀l:List Pr,8*l.length≤bT l
 | []=>Nat.zero_le _
 | p :: l=>by
  have:=kV l;unfold bT at *;simp only [List.map_cons,List.sum_cons,List.length_cons]
  omega
def kvN (l:List Pr) (i:Nat):Nat:=(l.getD i default).1.length+(l.getD i default).2.length
theorem kM:∀l:List Pr,bT l=8*l.length+cq (kvN l) l.length:=by
 have key:∀(l:List Pr) (p:Pr) (n:Nat),cq (kvN (p :: l)) (n+1)=kvN (p :: l) 0+cq (kvN l) n:=fun l p n=>by
  induction n with
  | zero=>simp [cq]
  | succ n ih =>
   rw [cq,ih,cq];have:kvN (p :: l) (n+1)=kvN l n:=rfl;omega
 intro l;induction l with
 | nil=>rfl
 | cons p l ih =>
  rw [List.length_cons,key,show kvN (p :: l) 0=p.1.length+p.2.length from rfl];unfold bT at *;simp only [List.map_cons,List.sum_cons]
  omega
theorem qB {S:Nat→Prop} {v:Value} {l:List Pr} (w:World) (h:PrsAt S w v l) (hs:(bT l:Int)≤4611686018427387904):Calls Tryz.prog 54 #[v] w fun e w'=>e=.returned (.int .i64 (bT l))∧Below w.heap.size w w':=by
 have J:=zh (kM l);have HS:=zh hs;have O:=kV l;obtain ⟨cs,⟨s0,cap,rfl,P,R,_,B,_⟩,hp⟩:=h;have H:=zh B;have HP:=zh hp;have Q:(8:Int)*(l.length:Int)≤4611686018427387904:=by omega
 have HL:=zh Q;clear B hp P R hs O;generalize bT l=sz at *;go_enter Tryz.func54,Tryz.ntmps54
 go_wp2_with fail
 go_loopg [3,11] l.length (fun gg t3 t11 wr=>∃i:Nat,i+gg=l.length∧t3=.int .i64 ((8*l.length+cq (kvN l) i:Nat):Int)∧t11=.int .i64 (i:Int)∧Below w.heap.size w wr)
 case atStart=>exact ⟨0,Nat.zero_add _,by simp [cq],rfl,Below.refl _ _⟩
 case round =>
  obtain ⟨i,G,rfl,rfl,hb⟩:=hrel;have HB:=zh hb;have HG:=zh G;by_cases D:i<l.length
  ·have F:(i:Int)<(l.length:Int):=by omega
   have W:(0:Int)≤(i:Int):=by omega
   obtain ⟨b,off,N,_,U,A⟩:=H.o (by omega);subst N;obtain ⟨a1,c1,a2,c2,I,_,_⟩:=HP.o i D;have E:∀j,j<2→wr.cell? ⟨b,off+i * 2+j,none⟩=(cs i)[j]?:=fun j hj=>(HB.o.cell (p:=⟨b,_,none⟩) U).trans (A i D j hj);rw [I] at E;have x0:wr.cell? ⟨b,off+i * 2,none⟩=some (.slice a1 (l.getD i default).1.length c1):=E 0 (by decide);have x1:wr.cell? ⟨b,off+i * 2+1,none⟩=some (.slice a2 (l.getD i default).2.length c2):=E 1 (by decide);have C:cq (kvN l) (i+1)≤cq (kvN l) l.length:=lW D;have K:Hd (cq (kvN l) (i+1)=cq (kvN l) i+((l.getD i default).1.length+(l.getD i default).2.length)):=zh rfl;have L:=J.o;have M:=HS.o;generalize (l.getD i default).1.length=m1 at *;generalize (l.getD i default).2.length=m2 at *;have V:((8*l.length+cq (kvN l) i:Nat):Int)+((m1:Int)+(m2:Int))≤4611686018427387904:=by have:=K.o;omega
   clear hb G E I A C L M;generalize hT:(8*l.length+cq (kvN l) i)=T at *;have HT:=zh hT;clear hT;go_wp2_with fail
   go_roundg (l.length-i-1)
   case measure=>have:=HG.o;omega
   case rel=>exact ⟨i+1,by have:=HG.o;omega,by rw [K.o];have:=HT.o;go_num,by go_num,ag HB.o _⟩
  ·obtain rfl:i=l.length:=by omega
   have F:¬(l.length:Int)<(l.length:Int):=by omega
   clear hb G D;have HT:=J.o;generalize 8*l.length+cq (kvN l) l.length=z at *;subst HT;go_wp2_with fail
   exact bodyPost_ret (v:=.int .i64 sz) (by simp [results,Tryz.results54,go_sem]) rfl ⟨rfl,HB.o⟩
theorem tI {S:Nat→Prop} {v:Value} {l:List Pr} (w:World) (h:PrsAt S w v l) (hl:l.length≤100000):Calls Tryz.prog 188 #[v] w fun e w'=>∃v',e=.returned v'∧StAt (fun b=>S b∨Nu w.heap.size w' b) w' v' l∧Below w.heap.size w w':=by
 obtain ⟨cs,⟨p,c,rfl,H,I,hn,A,G⟩,hp⟩:=h;have q22:∀(w:World) (a:Option Addr) (n c n' c':Nat),(binOp .eql 48 (.slice a n c) (.slice none n' c')).run Tryz.prog w=.ok (.bool a.isNone) w:=fun w a n c n' c'=>Lib.run_eql_slice_nil w _ _ a n c n' c' Tryz.underlying48
 cases p with
 | none =>
  have h0:¬0<l.length:=fun h0=>by
   obtain ⟨_,_,e,_⟩:=A h0
   cases e
  obtain rfl:l=[]:=List.eq_nil_of_length_eq_zero (by omega);clear A hn H hl h0 hp G I;go_enter Tryz.func188,Tryz.ntmps188
  go_wp2_with fail
  exact bodyPost_ret (v:=.slice none 0 0) (by simp [results,Tryz.results188,go_sem]) rfl ⟨_,rfl,StAt.nil,Below.refl _ _⟩
 | some a =>
  have B:PartOk w (some a) l.length c (bH cs l.length):=by
   by_cases h0:0<l.length
   ·obtain ⟨b,off,e,_,_,hc⟩:=A h0
    have:=fP (w:=w) (n:=l.length) (b:=b) (off:=off) (m:=l.length) 0 (PrsAt.forms hp) hc c (by omega) (some a) (fun h=>by cases h) (fun _=>by rw [e];simp);simpa using this
   ·have e0:l.length=0:=by omega
    rw [e0];exact ⟨(fun h=>by cases h),by simp [bH],(fun _ _ j u hj=>by simp [bH] at hj),(fun u hu=>by simp [bH] at hu)⟩
  obtain ⟨i0,hi,L,K,J⟩:=mD;have F:=zh (B.below (ag (Below.refl w.heap.size w) (.cells #[] 70)));have M:=zh hp;clear A hn H I hp G B;go_enter Tryz.func188,Tryz.ntmps188
  go_wp2_with (at_builtin;refine wpList_append_own _ rfl _ _ 48 rfl w.heap.size 70 i0 _ 2 48 Tryz.underlying48 hi L K J rfl (by decide) _ _ _ rfl (World.ownsRow_made w #[] 0 (Nat.le_refl _) (Nat.zero_le _) rfl) a l.length c (bH cs l.length) rfl F.o.len (F.o.cells a rfl) F.o.one ?q4 ?q5 ?q6 ?_)
  case q4=>unfold maxLen;omega
  case q5=>omega
  case q6=>simp
  intro v' w1 D C E;obtain ⟨s0,cap,rfl,_⟩:=bC D;have HO:=zh D;have HG:=zh C;clear D C E;go_wp2_with fail
  have HB:Below w.heap.size w w1:=((Below.refl _ w).alloc (Nat.le_refl _) _).grown HG.o (by rw [ah];omega) (by intro k hk;simp [Value.ownBlock] at hk;omega);refine bodyPost_ret (v:=.slice s0 l.length cap) (by simp [results,Tryz.results188,go_sem]) rfl ⟨_,rfl,?_,HB⟩;exact ii (cs:=cs) HO.o rfl rfl fun i hi=>(M.o i hi).below HB
end
section
open Go.RowKit
attribute [local go_sem ↓] Go.wp_at_zero Go.wp_at_succ
theorem oF {w W:World} {b off n i m c1 c2 B:Nat} {cs:Nat→List Value} {p2:Option Addr} (hl:∀i,i<n→∃x lx cx y ly cy,cs i=[.slice x lx cx,.slice y ly cy]) (hc:∀i,i<n→∀j,j<2→w.cell? ⟨b,off+i * 2+j,none⟩=(cs i)[j]?)
    (h:i+1+m=n) (hn:n≤1000) (hp:p2≠none) (A:0<m→p2=some ⟨b,off+(i+1)*2,none⟩) (h0:W.cell? ⟨B,0,none⟩=some (.slice (some ⟨b,off,none⟩) i c1)) (h1:W.cell? ⟨B,1,none⟩=some (.slice p2 m c2)) (hW:Below w.heap.size w W) :
    Calls Tryz.prog 186 #[.slice (some ⟨B,0,none⟩) 2 2] W fun e w'=>∃s c,e=.returned (.slice s (i+m) c)∧w'.ownsRow W.heap.size 70 2 (.slice s (i+m) c) (i+m) (bH (iQ i cs (fun j=>cs (i+1+j))) (i+m))∧Below W.heap.size W w':=by
 have hs:cq (fun | 0=>i | _=>m) 2=i+m:=by simp [cq]
 have C:bH (fun | 0=>bH cs i | _=>bH (fun j=>cs (i+1+j)) m) 2=bH (iQ i cs (fun j=>cs (i+1+j))) (i+m):=by
  rw [il,cO,cO];simp [bH]
 have h:=nQ B 2 (fun | 0=>some ⟨b,off,none⟩ | _=>p2) (fun | 0=>i | _=>m) (fun | 0=>c1 | _=>c2) (fun | 0=>bH cs i | _=>bH (fun j=>cs (i+1+j)) m) W (by decide)
  (fun j hj=>by
    match j,hj with
    | 0,_=>exact h0
    | 1,_=>exact h1)
  (fun j hj=>by
    match j,hj with
    | 0,_ =>
      have q:=(fP (w:=w) (n:=n) (b:=b) (off:=off) (m:=i) 0 hl hc c1 (by omega) (some ⟨b,off,none⟩) (fun h=>by cases h) (fun _=>by simp)).below hW;simpa using q
    | 1,_=>exact (fP (w:=w) (n:=n) (b:=b) (off:=off) (m:=m) (i+1) hl hc c2 (by omega) p2 (fun h=>absurd h hp) A).below hW)
  (by rw [hs];omega)
 rw [hs,C] at h;exact h
theorem Ax {S1 S2:Nat→Prop} {v kv:Value} {l:List Pr} {k:List UInt8} (w:World) (h:PrsAt S1 w v l) (hk:TxtAt S2 w kv k) (hl:l.length≤1000):Calls Tryz.prog 157 #[v,kv] w fun e w'=>∃v',e=.returned v'∧StAt (fun b=>S1 b∨Nu w.heap.size w' b) w' v' (eu l k)∧Below w.heap.size w w':=by
 have HF:=zh (mP w h hk);have HD:=zh (nL k l);have HH:=zh h;obtain ⟨cs,⟨s0,cap,rfl,d,Y,_,J,_⟩,hp⟩:=h;obtain ⟨pk,ck,rfl,_⟩:=hk.form;unfold maxLen at Y;generalize eu l k=o at *;generalize ixP (isK k) l=i at *;unfold atI at HF;have H:=zh J;have HP:=zh hp;clear hk J hp;by_cases F:i<l.length
 ·rw [if_pos F] at HF
  have ho:=HD.o;rw [if_pos F] at ho;subst ho;clear HD;obtain ⟨b,off,V,_,U,D⟩:=H.o (by omega);subst V;have HC:=zh D;have O:=zh F;have X:(i:Int)<(l.length:Int):=by omega
  have x:¬(i:Int)<0:=by omega
  have u:(0:Int)≤(i:Int):=by omega
  have t:(i:Int)≤(cap:Int):=by omega
  have s:(i:Int)+1≤(l.length:Int):=by omega
  have r:(i:Int)≤1000:=by omega
  have hw:IntKind.i64.wrap ((i:Int)+1)=(i:Int)+1:=by rw [IntKind.wrap_i64];omega
  have ht:((i:Int)+1).toNat=i+1:=by omega
  have n:(0:Int)≤(i:Int)+1:=by omega
  have g:(i:Int)≤(i:Int)+1:=by omega
  clear D H;go_enter Tryz.func157,Tryz.ntmps157
  go_wp2_with fail
  refine HF.o.mono ?_;rintro e w1 ⟨rfl,I⟩;have C:=zh I;clear I HF;go_upto_region 4 with fail
  by_cases Z:cap=i+1
  ·subst Z
   have f:l.length-(i+1)=0:=by omega
   refine ay (S:=fun _=>True) 8 (by kernel_rfl) (by kernel_rfl) (by (try dsimp only);skip) (fun hH=>?_);simp only [List.take_succ_cons,List.take_zero,List.drop_succ_cons,List.drop_zero]
   refine tkA 0 ?_;refine tkA 1 ?_;refine tkA 2 ?_;refine tkA 3 ?_;refine tkA 4 ?_;refine tkA 5 ?_;refine tkA 6 ?_;refine tkA 7 ?_;refine wpAnyH_done (by kernel_rfl) ?_ _;dsimp only [aP];have G:Below w1.heap.size w1 (w1.alloc (.cells #[.slice (some ⟨b,off,none⟩) i i,.slice (some ⟨b,off,none⟩) (0) (0)] 48)).drew:=aw (ag (Below.refl _ _) _);have M:=zh (oF (w:=w1) (W:=(w1.alloc (.cells #[.slice (some ⟨b,off,none⟩) i i,.slice (some ⟨b,off,none⟩) (0) (0)] 48)).drew) (c1:=i) (B:=w1.heap.size) (PrsAt.forms HP.o) (fun j hj q hq=>(C.o.cell (p:=⟨b,_,none⟩) U).trans (HC.o j hj q hq)) (m:=0) (by have:=O.o;omega) hl (by simp) (fun _=>by omega) (aA _ _ _ _ _ _ rfl rfl) (aA _ _ _ _ _ _ rfl rfl) G);have R:=zh G;clear G;go_wp2_with fail
   refine M.o.mono ?_;rintro e w2 ⟨s2,c2,rfl,K,E⟩;have P:=zh K;have A:=zh (am C.o (am R.o E));clear K E M;generalize L:i+(0)=mm at *;have Q:=zh L;clear L;go_wp2_with fail
   refine bodyPost_ret (v:=.slice s2 mm c2) (by simp [results,Tryz.results157,go_sem]) rfl ⟨_,rfl,?_,A.o⟩;have F:=O.o;have hm:=Q.o;refine (ii (S:=S1) (i9 P.o (Nat.le_trans C.o.size (show w1.heap.size≤(w1.alloc (.cells #[.slice (some ⟨b,off,none⟩) i i,.slice (some ⟨b,off,none⟩) (0) (0)] 48)).heap.size by rw [ah];omega))) rfl (by simp;omega) ?_);rw [show (l.take i++l.drop (i+1)).length=i+(0) by simp;omega]
   exact fm (by simp;omega) (fun j hj=>by
     rw [List.getD_eq_getElem?_getD,List.getElem?_take,if_pos hj,←List.getD_eq_getElem?_getD];exact (HP.o j (by omega)).below A.o) (fun j hj=>by
     rw [List.getD_eq_getElem?_getD,List.getElem?_drop,←List.getD_eq_getElem?_getD];exact (HP.o _ (by omega)).below A.o)
  ·refine ay (S:=fun _=>True) 8 (by kernel_rfl) (by kernel_rfl) (by (try dsimp only);skip) (fun hH=>?_)
   simp only [List.take_succ_cons,List.take_zero,List.drop_succ_cons,List.drop_zero]
   refine tkA 0 ?_;refine tkA 1 ?_;refine tkA 2 ?_;refine tkA 3 ?_;refine tkA 4 ?_;refine tkA 5 ?_;refine tkA 6 ?_;refine tkA 7 ?_;refine wpAnyH_done (by kernel_rfl) ?_ _;dsimp only [aP];have G:Below w1.heap.size w1 (w1.alloc (.cells #[.slice (some ⟨b,off,none⟩) i i,.slice (some ⟨b,off+(i+1)*2,none⟩) (l.length-(i+1)) (cap-(i+1))] 48)).drew:=aw (ag (Below.refl _ _) _);have M:=zh (oF (w:=w1) (W:=(w1.alloc (.cells #[.slice (some ⟨b,off,none⟩) i i,.slice (some ⟨b,off+(i+1)*2,none⟩) (l.length-(i+1)) (cap-(i+1))] 48)).drew) (c1:=i) (B:=w1.heap.size) (PrsAt.forms HP.o) (fun j hj q hq=>(C.o.cell (p:=⟨b,_,none⟩) U).trans (HC.o j hj q hq)) (m:=l.length-(i+1)) (by have:=O.o;omega) hl (by simp) (fun _=>rfl) (aA _ _ _ _ _ _ rfl rfl) (aA _ _ _ _ _ _ rfl rfl) G);have R:=zh G;clear G;go_wp2_with fail
   refine M.o.mono ?_;rintro e w2 ⟨s2,c2,rfl,K,E⟩;have P:=zh K;have A:=zh (am C.o (am R.o E));clear K E M;generalize L:i+(l.length-(i+1))=mm at *;have Q:=zh L;clear L;go_wp2_with fail
   refine bodyPost_ret (v:=.slice s2 mm c2) (by simp [results,Tryz.results157,go_sem]) rfl ⟨_,rfl,?_,A.o⟩;have F:=O.o;have hm:=Q.o;refine (ii (S:=S1) (i9 P.o (Nat.le_trans C.o.size (show w1.heap.size≤(w1.alloc (.cells #[.slice (some ⟨b,off,none⟩) i i,.slice (some ⟨b,off+(i+1)*2,none⟩) (l.length-(i+1)) (cap-(i+1))] 48)).heap.size by rw [ah];omega))) rfl (by simp;omega) ?_);rw [show (l.take i++l.drop (i+1)).length=i+(l.length-(i+1)) by simp;omega]
   exact fm (by simp;omega) (fun j hj=>by
     rw [List.getD_eq_getElem?_getD,List.getElem?_take,if_pos hj,←List.getD_eq_getElem?_getD];exact (HP.o j (by omega)).below A.o) (fun j hj=>by
     rw [List.getD_eq_getElem?_getD,List.getElem?_drop,←List.getD_eq_getElem?_getD];exact (HP.o _ (by omega)).below A.o)
 ·rw [if_neg F] at HF
  have ho:=HD.o;rw [if_neg F] at ho;rw [ho];clear HD H ho;go_enter Tryz.func157,Tryz.ntmps157
  go_wp2_with fail
  refine HF.o.mono ?_;rintro e w1 ⟨rfl,I⟩;have c:=zh (tI w1 (HH.o.below I) (by omega));have C:=zh I;clear I;go_wp2_with fail
  refine c.o.mono ?_;rintro e w2 ⟨v2,rfl,N,E⟩;obtain ⟨⟨cs2,⟨s2,cap2,rfl,hq⟩,N⟩,T⟩:=N;have a:=zh T;have HQ:=zh (And.intro hq N);have A:=zh (am C.o E);clear hq N E T;go_wp2_with fail
  refine bodyPost_ret (v:=.slice s2 l.length cap2) (by simp [results,Tryz.results157,go_sem]) rfl ⟨_,rfl,StAt.mono ⟨⟨cs2,⟨s2,cap2,rfl,HQ.o.1⟩,HQ.o.2⟩,a.o⟩ (fun b hb=>hb.imp id (fun h=>⟨Nat.le_trans C.o.size h.1,h.2⟩)),A.o⟩
end
section
open Go.RowKit
attribute [local go_sem ↓] Go.wp_at_zero Go.wp_at_succ
theorem iR {w W:World} {b off n a m r c1 c2 B K:Nat} {cs:Nat→List Value} {kv vv:List Value} {p1 p2:Option Addr} (hl:∀i,i<n→∃x lx cx y ly cy,cs i=[.slice x lx cx,.slice y ly cy]) (hc:0<n→∀i,i<n→∀j,j<2→w.cell? ⟨b,off+i * 2+j,none⟩=(cs i)[j]?)
    (ha:a≤n) (h:r+m=n) (hn:n≤900) (E:p1=none→a=0∧c1=0) (C:0<a→p1=some ⟨b,off,none⟩) (D:p2=none→m=0∧c2=0) (A:0<m→p2=some ⟨b,off+r * 2,none⟩)
    (h0:W.cell? ⟨B,0,none⟩=some (.slice p1 a c1)) (h1:W.cell? ⟨B,1,none⟩=some (.slice (some ⟨K,0,none⟩) 1 1)) (h2:W.cell? ⟨B,2,none⟩=some (.slice p2 m c2)) (hk:PartOk W (some ⟨K,0,none⟩) 1 1 kv) (hv:vv=kv) (hW:Below w.heap.size w W) :
    Calls Tryz.prog 186 #[.slice (some ⟨B,0,none⟩) 3 3] W fun e w'=>∃s c,e=.returned (.slice s (a+(1+m)) c)∧w'.ownsRow W.heap.size 70 2 (.slice s (a+(1+m)) c) (a+(1+m)) (bH (iQ a cs (iQ 1 (fun _=>vv) (fun j=>cs (r+j)))) (a+(1+m)))∧Below W.heap.size W w':=by
 subst hv;have hs:cq (fun | 0=>a | 1=>1 | _=>m) 3=a+(1+m):=by simp [cq];omega
 have F:bH (fun | 0=>bH cs a | 1=>vv | _=>bH (fun j=>cs (r+j)) m) 3=bH (iQ a cs (iQ 1 (fun _=>vv) (fun j=>cs (r+j)))) (a+(1+m)):=by
  rw [il,il,cO,cO,cO];simp [bH]
 have h:=nQ B 3 (fun | 0=>p1 | 1=>some ⟨K,0,none⟩ | _=>p2) (fun | 0=>a | 1=>1 | _=>m) (fun | 0=>c1 | 1=>1 | _=>c2) (fun | 0=>bH cs a | 1=>vv | _=>bH (fun j=>cs (r+j)) m) W (by decide)
  (fun j hj=>by
    match j,hj with
    | 0,_=>exact h0
    | 1,_=>exact h1
    | 2,_=>exact h2)
  (fun j hj=>by
    match j,hj with
    | 0,_ =>
      by_cases q0:0<n
      · have q:=(fP (w:=w) (n:=n) (b:=b) (off:=off) (m:=a) 0 hl (hc q0) c1 (by omega) p1 E (fun h=>by rw [C h];simp)).below hW
        simpa using q
      · obtain rfl:a=0:=by omega
        exact ⟨fun e=>E e,by simp [bH],fun _ _ j u hj=>by simp [bH] at hj,fun u hu=>by simp [bH] at hu⟩
    | 1,_=>exact hk
    | 2,_ =>
      by_cases q0:0<n
      · exact (fP (w:=w) (n:=n) (b:=b) (off:=off) (m:=m) r hl (hc q0) c2 (by omega) p2 D A).below hW
      · obtain rfl:m=0:=by omega
        exact ⟨fun e=>D e,by simp [bH],fun _ _ j u hj=>by simp [bH] at hj,fun u hu=>by simp [bH] at hu⟩)
  (by rw [hs];omega)
 rw [hs,F] at h;exact h
theorem qV (k x:List UInt8):∀l:List Pr,bT (eY l k x)≤bT l+8+k.length+x.length
 | []=>by simp [bT,eY]
 | p :: l=>by
  have ih:=qV k x l;rw [eY];by_cases e:p.1=k
  ·rw [if_pos e]
   unfold bT;simp only [List.map_cons,List.sum_cons]
   omega
  ·rw [if_neg e]
   split
   ·unfold bT
    simp only [List.map_cons,List.sum_cons]
    omega
   ·unfold bT at *
    simp only [List.map_cons,List.sum_cons]
    omega
theorem lI {W:World} {K:Nat} {x y:Option Addr} {lx cx ly cy:Nat} (h:W.heap[K]?=some (.cells #[.slice x lx cx,.slice y ly cy] 70 (0,0))):PartOk W (some ⟨K,0,none⟩) 1 1 [.slice x lx cx,.slice y ly cy]:=by
 refine ⟨fun e=>(by cases e),rfl,fun ad e j u hj=>?_,fun u hu=>?_⟩
 ·injection e with e
  subst e;rw [Go.WideShapes.add_plain,Nat.zero_add];exact aa h (by simpa using hj)
 ·rcases List.mem_cons.1 hu with rfl | hu
  ·rfl
  ·rcases List.mem_cons.1 hu with rfl | hu
   ·rfl
   ·cases hu
theorem eW {l:List Pr} (h:bT l≤2048):l.length≤256:=by
 have:=kV l;omega
def pF (S1:Nat→Prop) (w:World) (o:Except Int (List Pr)) (e:Ending) (w':World):Prop:=(match o with
  | .error er=>e=.returned (.tuple #[.slice none 0 0,.int .i64 er])
  | .ok l=>∃p n c,e=.returned (.tuple #[.slice p n c,.int .i64 0])∧StAt (fun b=>S1 b∨Nu w.heap.size w' b) w' (.slice p n c) l)∧Below w.heap.size w w'
theorem xi {v vv:Value} {p1 p2:Option Addr} {k x:List UInt8} {c1 c2:Nat} {S1:Nat→Prop} (w:World) (hf:∃p n c,v=.slice p n c) (hv:vv=.slice p2 x.length c2) (hx:x.length≤100000) (hk:k.length≤100000) (h:64<k.length∨256<x.length) :
    Calls Tryz.prog 155 #[v,.slice p1 k.length c1,vv] w (pF S1 w (.error 1)):=by
 obtain ⟨p,n,c,rfl⟩:=hf;subst hv;by_cases h1:64<k.length
 ·have k1:(64:Int)<(k.length:Int):=by omega
  clear h;go_enter Tryz.func155,Tryz.ntmps155
  go_wp2_with fail
  exact bodyPost_ret (v:=.tuple #[.slice none 0 0,.int .i64 1]) (by simp [results,Tryz.results155,go_sem]) rfl ⟨rfl,ag (Below.refl _ _) _⟩
 ·have k1:¬(64:Int)<(k.length:Int):=by omega
  have k2:(256:Int)<(x.length:Int):=by omega
  clear h;go_enter Tryz.func155,Tryz.ntmps155
  go_wp2_with fail
  exact bodyPost_ret (v:=.tuple #[.slice none 0 0,.int .i64 1]) (by simp [results,Tryz.results155,go_sem]) rfl ⟨rfl,ag (Below.refl _ _) _⟩
end
end Go.Proofs.YthgcpfkochikfaaGreat
