/-
  EvalSigns: part 6 of its proof: see the last text.
-/
import Derived.Test.YthgcpfkochikfaaGreatPs05
set_option maxRecDepth 100000
set_option maxHeartbeats 16000000
namespace Go.Proofs.YthgcpfkochikfaaGreat
section
open Go.RowKit
def lJ (l:List Pr) (k:List UInt8):Nat:=if ixP (isK k) l<l.length then ixP (isK k) l else ixP (gtK k) l
def lM (l:List Pr) (k:List UInt8):Nat:=if ixP (isK k) l<l.length then ixP (isK k) l+1 else ixP (gtK k) l
theorem oG (a:List UInt8):bS a a=false:=by rw [fJ,(je a a).2 rfl];rfl
theorem vD {a b:List UInt8} (h:a≠b) (g:bS a b=false):bS b a=true:=by
 rw [fJ] at g ⊢;have:=km a b;have:=mt (je a b).1 h;simp at g ⊢
 omega
theorem jM:∀{a b c:List UInt8},bS a b=true→bS b c=true→bS a c=true
 | [],[],_,h,_=>by cases h
 | [],_ :: _,[],_,h=>by cases h
 | [],_ :: _,_ :: _,_,_=>rfl
 | _ :: _,[],_,h,_=>by cases h
 | _ :: _,_ :: _,[],_,h=>by cases h
 | x :: a,y :: b,z :: c,h,g=>by
  rw [bS] at h g ⊢;by_cases h1:x<y
  ·by_cases g1:y<z
   ·rw [if_pos (UInt8.lt_trans h1 g1)]
   ·rw [if_neg g1] at g
    by_cases g2:z<y
    ·rw [if_pos g2] at g;cases g
    ·have:y=z:=UInt8.le_antisymm (UInt8.not_lt.1 g2) (UInt8.not_lt.1 g1)
     subst this;rw [if_pos h1]
  ·rw [if_neg h1] at h
   by_cases h2:y<x
   ·rw [if_pos h2] at h;cases h
   ·rw [if_neg h2] at h
    have:x=y:=UInt8.le_antisymm (UInt8.not_lt.1 h2) (UInt8.not_lt.1 h1);subst this;by_cases g1:x<z
    ·rw [if_pos g1]
    ·rw [if_neg g1] at g ⊢
     by_cases g2:z<x
     ·rw [if_pos g2] at g;cases g
     ·rw [if_neg g2] at g ⊢
      exact jM h g
theorem jF {p:Pr} {l:List Pr} (h:dt (p :: l)=true):dt l=true:=by
 cases l with
 | nil=>rfl
 | cons q l =>
  rw [dt,Bool.and_eq_true] at h;exact h.2
theorem gL {p:Pr}:∀{l:List Pr},dt (p :: l)=true→∀q∈l,bS p.1 q.1=true
 | [],_,q,hq=>by cases hq
 | r :: l,h,q,hq=>by
  have h':=h;rw [dt,Bool.and_eq_true] at h';rcases List.mem_cons.1 hq with rfl | hq
  ·exact h'.1
  ·exact jM h'.1 (gL h'.2 q hq)
theorem qP {q:Pr→Bool}:∀{l:List Pr},(∀p∈l,q p=false)→ixP q l=l.length
 | [],_=>rfl
 | p :: l,h=>by
  rw [ixP,if_neg (by rw [h p (List.mem_cons_self ..)];decide),qP fun p hp=>h p (List.mem_cons_of_mem _ hp)];rfl
theorem nU (k v:List UInt8):∀{l:List Pr},dt l=true→fc l k v=l.take (lJ l k)++(k,v) :: l.drop (lM l k)
 | [],_=>rfl
 | p :: l,h=>by
  have ih:=nU k v (jF h);rw [fc];by_cases e:p.1=k
  ·rw [if_pos e]
   have hk:isK k p=true:=by simp [isK,e]
   have h1:ixP (isK k) (p :: l)=0:=by rw [ixP,if_pos hk]
   unfold lJ lM;rw [h1,if_pos (by simp),if_pos (by simp)];simp
  ·rw [if_neg e]
   have hk:isK k p=false:=by simp [isK,e]
   by_cases g:bS k p.1=true
   ·rw [if_pos g]
    have hn:∀q∈p :: l,isK k q=false:=fun q hq=>by
     rcases List.mem_cons.1 hq with rfl | hq
     ·exact hk
     ·have:=jM g (gL h q hq)
      unfold isK;rw [beq_eq_false_iff_ne];intro q';rw [q',oG] at this
      cases this
    have hg:ixP (gtK k) (p :: l)=0:=by rw [ixP,if_pos (show gtK k p=true from g)]
    unfold lJ lM;rw [qP hn,if_neg (Nat.lt_irrefl _),if_neg (Nat.lt_irrefl _),hg];simp
   ·rw [if_neg g,ih]
    have h1:ixP (isK k) (p :: l)=ixP (isK k) l+1:=by rw [ixP,if_neg (by rw [hk];decide)]
    have h2:ixP (gtK k) (p :: l)=ixP (gtK k) l+1:=by rw [ixP,if_neg (show ¬gtK k p=true from g)]
    unfold lJ lM;rw [h1,h2];by_cases q:ixP (isK k) l<l.length
    ·simp [q]
    ·simp [q]
theorem nr (k:List UInt8):∀l:List Pr,eo l k=if ixP (isK k) l<l.length then l.take (ixP (isK k) l)++l.drop (ixP (isK k) l+1) else l
 | []=>rfl
 | p :: l=>by
  rw [eo,ixP];by_cases e:p.1=k
  ·rw [if_pos e,if_pos (show isK k p=true by simp [isK,e])]
   simp
  ·rw [if_neg e,if_neg (show ¬isK k p=true by simp [isK,e]),nr k l]
   by_cases q:ixP (isK k) l<l.length
   ·simp [q]
   ·simp [q]
theorem xh (l:List Pr) (k:List UInt8):lJ l k≤l.length:=by
 unfold lJ;split
 ·exact jU _ _
 ·exact jU _ _
theorem yx (l:List Pr) (k:List UInt8):lM l k≤l.length:=by
 unfold lM;split
 ·assumption
 ·exact jU _ _
def iZ (a:Nat) (c1 c2:Nat→List Value) (i:Nat):List Value:=if i<a then c1 i else c2 (i-a)
theorem il (a:Nat) (c1 c2:Nat→List Value):∀b,bG (iZ a c1 c2) (a+b)=bG c1 a++bG c2 b
 | 0=>by
  rw [Nat.add_zero,ng (cs:=iZ a c1 c2) (cs':=c1) fun i hi=>if_pos hi];simp [bG]
 | b+1=>by
  rw [←Nat.add_assoc,cO,il a c1 c2 b,cO,List.append_assoc];congr 2
  unfold iZ;rw [if_neg (by omega),show a+b-a=b by omega]
theorem fo {S:Nat→Prop} {w:World} {l1 l2:List Pr} {c1 c2:Nat→List Value} {a b:Nat} (ha:l1.length=a) (h1:∀i,i<a→PrC S w (c1 i) (l1.getD i default)) (h2:∀i,i<b→PrC S w (c2 i) (l2.getD i default)) :
    ∀i,i<a+b→PrC S w (iZ a c1 c2 i) ((l1++l2).getD i default):=fun i hi=>by
 unfold iZ;by_cases e:i<a
 ·rw [if_pos e,List.getD_eq_getElem?_getD,List.getElem?_append_left (by omega),←List.getD_eq_getElem?_getD]
  exact h1 i e
 ·rw [if_neg e,List.getD_eq_getElem?_getD,List.getElem?_append_right (by omega),ha,←List.getD_eq_getElem?_getD]
  exact h2 _ (by omega)
def Nu (B:Nat) (w:World) (b:Nat):Prop:=B≤b∧(OfTy w b 5∨OfTy w b 70)
theorem gY {S:Nat→Prop} {w:World} {B n:Nat} {v:Value} {l:List Pr} {cs:Nat→List Value} {xs:List Value} (ho:w.ownsRow B 70 2 v n xs) (hx:xs=bG cs n) (hn:n=l.length) (hp:∀i,i<l.length→PrC S w (cs i) (l.getD i default)) :
    StAt (fun b=>S b∨Nu B w b) w v l:=by
 subst hx hn;refine ⟨?_,uX ho⟩;obtain ⟨s0,cap,rfl,h1,h2,h3,h4⟩:=ba ho
 have hl:∀i,i<l.length→(cs i).length=2:=fun i hi=>by
  obtain ⟨_,_,_,_,e,_⟩:=hp i hi;exact e▸rfl
 refine ⟨cs,⟨s0,cap,rfl,h1,h2,h3,fun h0=>?_,hl⟩,fun i hi=>(hp i hi).mono fun b h=>.inl h⟩;obtain ⟨g,rfl,hg,C,hc⟩:=h4 h0;refine ⟨g,0,rfl,.inr ⟨hg,.inr (dA ho rfl)⟩,C,fun i hi j hj=>?_⟩;have A:=kO hl hi hj;have D:=hl i hi;rw [Nat.zero_add,hc (i * 2+j) ((cs i)[j]'(by omega)) (by rw [A];exact List.getElem?_eq_getElem _),List.getElem?_eq_getElem (by omega)]
theorem fW {w:World} {n b off m:Nat} {cs:Nat→List Value} (a:Nat) (hl:∀i,i<n→∃x lx cx y ly cy,cs i=[.slice x lx cx,.slice y ly cy]) (hc:∀i,i<n→∀j,j<2→w.cell? ⟨b,off+i * 2+j,none⟩=(cs i)[j]?) (c:Nat) (hm:a+m≤n) (p:Option Addr) (hp:p=none→m=0∧c=0) (B:0<m→p=some ⟨b,off+a * 2,none⟩) :
    PartOk w p m c (bG (fun i=>cs (a+i)) m):=by
 have A:∀i,i<m→(cs (a+i)).length=2:=fun i hi=>by
  obtain ⟨_,_,_,_,_,_,e⟩:=hl (a+i) (by omega);rw [e];rfl
 have C:=gW A;refine ⟨hp,C,fun ad e j u hj=>?_,fun u hu=>?_⟩
 ·have D:j<m * 2:=by
    have:=(List.getElem?_eq_some_iff.1 hj).1;omega
  have h0:0<m:=by omega
  rw [B h0] at e;injection e with e
  subst e;have h1:=kO A (i:=j / 2) (j:=j % 2) (by omega) (Nat.mod_lt _ (by decide));have h2:=hc (a+j / 2) (by omega) (j % 2) (Nat.mod_lt _ (by decide));rw [show j / 2*2+j % 2=j by omega] at h1;rw [Go.WideShapes.add_plain,show off+a * 2+j=off+(a+j / 2)*2+j % 2 by omega,h2,←h1];exact hj
 ·obtain ⟨i,hi,hu⟩:=List.mem_flatMap.1 hu
  obtain ⟨_,_,_,_,_,_,e⟩:=hl (a+i) (by have:=List.mem_range.1 hi;omega);rw [e] at hu;rcases List.mem_cons.1 hu with rfl | hu
  ·rfl
  ·rcases List.mem_cons.1 hu with rfl | hu
   ·rfl
   ·cases hu
end
section
open Go.RowKit
attribute [local go_sem ↓] Go.wp_at_zero Go.wp_at_succ
theorem dd {l:List Pr} (h:a8 l=true):r9 l∧dt l=true∧cn l≤2048:=by
 unfold a8 at h;rw [Bool.and_eq_true,Bool.and_eq_true] at h;refine ⟨fun p hp=>?_,h.1.2,by simpa using h.2⟩;have:=List.all_eq_true.1 h.1.1 p hp;simpa using this
theorem mD:∀l:List Pr,8*l.length≤cn l
 | []=>Nat.zero_le _
 | p :: l=>by
  have:=mD l;unfold cn at *;simp only [List.map_cons,List.sum_cons,List.length_cons]
  omega
def kvN (l:List Pr) (i:Nat):Nat:=(l.getD i default).1.length+(l.getD i default).2.length
theorem ns:∀l:List Pr,cn l=8*l.length+df (kvN l) l.length:=by
 have key:∀(l:List Pr) (p:Pr) (n:Nat),df (kvN (p :: l)) (n+1)=kvN (p :: l) 0+df (kvN l) n:=fun l p n=>by
  induction n with
  | zero=>simp [df]
  | succ n ih =>
   rw [df,ih,df];have:kvN (p :: l) (n+1)=kvN l n:=rfl;omega
 intro l;induction l with
 | nil=>rfl
 | cons p l ih =>
  rw [List.length_cons,key,show kvN (p :: l) 0=p.1.length+p.2.length from rfl];unfold cn at *;simp only [List.map_cons,List.sum_cons]
  omega
theorem qq {S:Nat→Prop} {v:Value} {l:List Pr} (w:World) (h:PrsAt S w v l) (hs:(cn l:Int)≤4611686018427387904):Calls Tryz.prog 54 #[v] w fun e w'=>e=.returned (.int .i64 (cn l))∧Below w.heap.size w w':=by
 have J:=zh (ns l);have HS:=zh hs;have O:=mD l;obtain ⟨cs,⟨s0,cap,rfl,P,R,_,B,_⟩,hp⟩:=h;have H:=zh B;have HP:=zh hp;have Q:(8:Int)*(l.length:Int)≤4611686018427387904:=by omega
 have HL:=zh Q;clear B hp P R hs O;generalize cn l=sz at *;go_enter Tryz.func54,Tryz.ntmps54
 go_wp2_with fail
 go_loopg [3,11] l.length (fun gg t3 t11 wr=>∃i:Nat,i+gg=l.length∧t3=.int .i64 ((8*l.length+df (kvN l) i:Nat):Int)∧t11=.int .i64 (i:Int)∧Below w.heap.size w wr)
 case atStart=>exact ⟨0,Nat.zero_add _,by simp [df],rfl,Below.refl _ _⟩
 case round =>
  obtain ⟨i,G,rfl,rfl,hb⟩:=hrel;have HB:=zh hb;have HG:=zh G;by_cases D:i<l.length
  ·have F:(i:Int)<(l.length:Int):=by omega
   have W:(0:Int)≤(i:Int):=by omega
   obtain ⟨b,off,N,_,U,A⟩:=H.o (by omega);subst N;obtain ⟨a1,c1,a2,c2,I,_,_⟩:=HP.o i D;have E:∀j,j<2→wr.cell? ⟨b,off+i * 2+j,none⟩=(cs i)[j]?:=fun j hj=>(HB.o.cell (p:=⟨b,_,none⟩) U).trans (A i D j hj);rw [I] at E;have x0:wr.cell? ⟨b,off+i * 2,none⟩=some (.slice a1 (l.getD i default).1.length c1):=E 0 (by decide);have x1:wr.cell? ⟨b,off+i * 2+1,none⟩=some (.slice a2 (l.getD i default).2.length c2):=E 1 (by decide);have C:df (kvN l) (i+1)≤df (kvN l) l.length:=pz D;have K:Hd (df (kvN l) (i+1)=df (kvN l) i+((l.getD i default).1.length+(l.getD i default).2.length)):=zh rfl;have L:=J.o;have M:=HS.o;generalize (l.getD i default).1.length=m1 at *;generalize (l.getD i default).2.length=m2 at *;have V:((8*l.length+df (kvN l) i:Nat):Int)+((m1:Int)+(m2:Int))≤4611686018427387904:=by have:=K.o;omega
   clear hb G E I A C L M;generalize hT:(8*l.length+df (kvN l) i)=T at *;have HT:=zh hT;clear hT;go_wp2_with fail
   go_roundg (l.length-i-1)
   case measure=>have:=HG.o;omega
   case rel=>exact ⟨i+1,by have:=HG.o;omega,by rw [K.o];have:=HT.o;go_num,by go_num,ag HB.o _⟩
  ·obtain rfl:i=l.length:=by omega
   have F:¬(l.length:Int)<(l.length:Int):=by omega
   clear hb G D;have HT:=J.o;generalize 8*l.length+df (kvN l) l.length=z at *;subst HT;go_wp2_with fail
   exact bodyPost_ret (v:=.int .i64 sz) (by simp [results,Tryz.results54,go_sem]) rfl ⟨rfl,HB.o⟩
theorem sJ {S:Nat→Prop} {v:Value} {l:List Pr} (w:World) (h:PrsAt S w v l) (hl:l.length≤100000):Calls Tryz.prog 188 #[v] w fun e w'=>∃v',e=.returned v'∧StAt (fun b=>S b∨Nu w.heap.size w' b) w' v' l∧Below w.heap.size w w':=by
 obtain ⟨cs,⟨p,c,rfl,H,I,hn,A,G⟩,hp⟩:=h;have q22:∀(w:World) (a:Option Addr) (n c n' c':Nat),(binOp .eql 48 (.slice a n c) (.slice none n' c')).run Tryz.prog w=.ok (.bool a.isNone) w:=fun w a n c n' c'=>Lib.run_eql_slice_nil w _ _ a n c n' c' Tryz.underlying48
 cases p with
 | none =>
  have h0:¬0<l.length:=fun h0=>by
   obtain ⟨_,_,e,_⟩:=A h0
   cases e
  obtain rfl:l=[]:=List.eq_nil_of_length_eq_zero (by omega);clear A hn H hl h0 hp G I;go_enter Tryz.func188,Tryz.ntmps188
  go_wp2_with fail
  exact bodyPost_ret (v:=.slice none 0 0) (by simp [results,Tryz.results188,go_sem]) rfl ⟨_,rfl,StAt.nil,Below.refl _ _⟩
 | some a =>
  have B:PartOk w (some a) l.length c (bG cs l.length):=by
   by_cases h0:0<l.length
   ·obtain ⟨b,off,e,_,_,hc⟩:=A h0
    have:=fW (w:=w) (n:=l.length) (b:=b) (off:=off) (m:=l.length) 0 (PrsAt.forms hp) hc c (by omega) (some a) (fun h=>by cases h) (fun _=>by rw [e];simp);simpa using this
   ·have e0:l.length=0:=by omega
    rw [e0];exact ⟨(fun h=>by cases h),by simp [bG],(fun _ _ j u hj=>by simp [bG] at hj),(fun u hu=>by simp [bG] at hu)⟩
  obtain ⟨i0,hi,L,K,J⟩:=mo;have F:=zh (B.below (ag (Below.refl w.heap.size w) (.cells #[] 70)));have M:=zh hp;clear A hn H I hp G B;go_enter Tryz.func188,Tryz.ntmps188
  go_wp2_with (at_builtin;refine wpList_append_own _ rfl _ _ 48 rfl w.heap.size 70 i0 _ 2 48 Tryz.underlying48 hi L K J rfl (by decide) _ _ _ rfl (World.ownsRow_made w #[] 0 (Nat.le_refl _) (Nat.zero_le _) rfl) a l.length c (bG cs l.length) rfl F.o.len (F.o.cells a rfl) F.o.one ?q4 ?q5 ?q6 ?_)
  case q4=>unfold maxLen;omega
  case q5=>omega
  case q6=>simp
  intro v' w1 D C E;obtain ⟨s0,cap,rfl,_⟩:=ba D;have HO:=zh D;have HG:=zh C;clear D C E;go_wp2_with fail
  have HB:Below w.heap.size w w1:=((Below.refl _ w).alloc (Nat.le_refl _) _).grown HG.o (by rw [ah];omega) (by intro k hk;simp [Value.ownBlock] at hk;omega);refine bodyPost_ret (v:=.slice s0 l.length cap) (by simp [results,Tryz.results188,go_sem]) rfl ⟨_,rfl,?_,HB⟩;exact gY (cs:=cs) HO.o rfl rfl fun i hi=>(M.o i hi).below HB
end
section
open Go.RowKit
attribute [local go_sem ↓] Go.wp_at_zero Go.wp_at_succ
theorem oX {w W:World} {b off n i m c1 c2 B:Nat} {cs:Nat→List Value} {p2:Option Addr} (hl:∀i,i<n→∃x lx cx y ly cy,cs i=[.slice x lx cx,.slice y ly cy]) (hc:∀i,i<n→∀j,j<2→w.cell? ⟨b,off+i * 2+j,none⟩=(cs i)[j]?)
    (h:i+1+m=n) (hn:n≤1000) (hp:p2≠none) (A:0<m→p2=some ⟨b,off+(i+1)*2,none⟩) (h0:W.cell? ⟨B,0,none⟩=some (.slice (some ⟨b,off,none⟩) i c1)) (h1:W.cell? ⟨B,1,none⟩=some (.slice p2 m c2)) (hW:Below w.heap.size w W) :
    Calls Tryz.prog 186 #[.slice (some ⟨B,0,none⟩) 2 2] W fun e w'=>∃s c,e=.returned (.slice s (i+m) c)∧w'.ownsRow W.heap.size 70 2 (.slice s (i+m) c) (i+m) (bG (iZ i cs (fun j=>cs (i+1+j))) (i+m))∧Below W.heap.size W w':=by
 have hs:df (fun | 0=>i | _=>m) 2=i+m:=by simp [df]
 have C:bG (fun | 0=>bG cs i | _=>bG (fun j=>cs (i+1+j)) m) 2=bG (iZ i cs (fun j=>cs (i+1+j))) (i+m):=by
  rw [il,cO,cO];simp [bG]
 have h:=mB B 2 (fun | 0=>some ⟨b,off,none⟩ | _=>p2) (fun | 0=>i | _=>m) (fun | 0=>c1 | _=>c2) (fun | 0=>bG cs i | _=>bG (fun j=>cs (i+1+j)) m) W (by decide)
  (fun j hj=>by
    match j,hj with
    | 0,_=>exact h0
    | 1,_=>exact h1)
  (fun j hj=>by
    match j,hj with
    | 0,_ =>
      have q:=(fW (w:=w) (n:=n) (b:=b) (off:=off) (m:=i) 0 hl hc c1 (by omega) (some ⟨b,off,none⟩) (fun h=>by cases h) (fun _=>by simp)).below hW;simpa using q
    | 1,_=>exact (fW (w:=w) (n:=n) (b:=b) (off:=off) (m:=m) (i+1) hl hc c2 (by omega) p2 (fun h=>absurd h hp) A).below hW)
  (by rw [hs];omega)
 rw [hs,C] at h;exact h
theorem zZ {S1 S2:Nat→Prop} {v kv:Value} {l:List Pr} {k:List UInt8} (w:World) (h:PrsAt S1 w v l) (hk:TxtAt S2 w kv k) (hl:l.length≤1000):Calls Tryz.prog 157 #[v,kv] w fun e w'=>∃v',e=.returned v'∧StAt (fun b=>S1 b∨Nu w.heap.size w' b) w' v' (eo l k)∧Below w.heap.size w w':=by
 have HF:=zh (nz w h hk);have HD:=zh (nr k l);have HH:=zh h;obtain ⟨cs,⟨s0,cap,rfl,d,Y,_,J,_⟩,hp⟩:=h;obtain ⟨pk,ck,rfl,_⟩:=hk.form;unfold maxLen at Y;generalize eo l k=o at *;generalize ixP (isK k) l=i at *;unfold atI at HF;have H:=zh J;have HP:=zh hp;clear hk J hp;by_cases F:i<l.length
 ·rw [if_pos F] at HF
  have ho:=HD.o;rw [if_pos F] at ho;subst ho;clear HD;obtain ⟨b,off,V,_,U,D⟩:=H.o (by omega);subst V;have HC:=zh D;have O:=zh F;have X:(i:Int)<(l.length:Int):=by omega
  have x:¬(i:Int)<0:=by omega
  have u:(0:Int)≤(i:Int):=by omega
  have t:(i:Int)≤(cap:Int):=by omega
  have s:(i:Int)+1≤(l.length:Int):=by omega
  have r:(i:Int)≤1000:=by omega
  have hw:IntKind.i64.wrap ((i:Int)+1)=(i:Int)+1:=by rw [IntKind.wrap_i64];omega
  have ht:((i:Int)+1).toNat=i+1:=by omega
  have n:(0:Int)≤(i:Int)+1:=by omega
  have g:(i:Int)≤(i:Int)+1:=by omega
  clear D H;go_enter Tryz.func157,Tryz.ntmps157
  go_wp2_with fail
  refine HF.o.mono ?_;rintro e w1 ⟨rfl,I⟩;have C:=zh I;clear I HF;go_upto_region 4 with fail
  by_cases Z:cap=i+1
  ·subst Z
   have f:l.length-(i+1)=0:=by omega
   refine ay (S:=fun _=>True) 8 (by kernel_rfl) (by kernel_rfl) (by (try dsimp only);skip) (fun hH=>?_);simp only [List.take_succ_cons,List.take_zero,List.drop_succ_cons,List.drop_zero]
   refine tkA 0 ?_;refine tkA 1 ?_;refine tkA 2 ?_;refine tkA 3 ?_;refine tkA 4 ?_;refine tkA 5 ?_;refine tkA 6 ?_;refine tkA 7 ?_;refine wpAnyH_done (by kernel_rfl) ?_ _;dsimp only [aP];have G:Below w1.heap.size w1 (w1.alloc (.cells #[.slice (some ⟨b,off,none⟩) i i,.slice (some ⟨b,off,none⟩) (0) (0)] 48)).drew:=aw (ag (Below.refl _ _) _);have M:=zh (oX (w:=w1) (W:=(w1.alloc (.cells #[.slice (some ⟨b,off,none⟩) i i,.slice (some ⟨b,off,none⟩) (0) (0)] 48)).drew) (c1:=i) (B:=w1.heap.size) (PrsAt.forms HP.o) (fun j hj q hq=>(C.o.cell (p:=⟨b,_,none⟩) U).trans (HC.o j hj q hq)) (m:=0) (by have:=O.o;omega) hl (by simp) (fun _=>by omega) (aA _ _ _ _ _ _ rfl rfl) (aA _ _ _ _ _ _ rfl rfl) G);have R:=zh G;clear G;go_wp2_with fail
   refine M.o.mono ?_;rintro e w2 ⟨s2,c2,rfl,K,E⟩;have P:=zh K;have A:=zh (am C.o (am R.o E));clear K E M;generalize L:i+(0)=mm at *;have Q:=zh L;clear L;go_wp2_with fail
   refine bodyPost_ret (v:=.slice s2 mm c2) (by simp [results,Tryz.results157,go_sem]) rfl ⟨_,rfl,?_,A.o⟩;have F:=O.o;have hm:=Q.o;refine (gY (S:=S1) (iT P.o (Nat.le_trans C.o.size (show w1.heap.size≤(w1.alloc (.cells #[.slice (some ⟨b,off,none⟩) i i,.slice (some ⟨b,off,none⟩) (0) (0)] 48)).heap.size by rw [ah];omega))) rfl (by simp;omega) ?_);rw [show (l.take i++l.drop (i+1)).length=i+(0) by simp;omega]
   exact fo (by simp;omega) (fun j hj=>by
     rw [List.getD_eq_getElem?_getD,List.getElem?_take,if_pos hj,←List.getD_eq_getElem?_getD];exact (HP.o j (by omega)).below A.o) (fun j hj=>by
     rw [List.getD_eq_getElem?_getD,List.getElem?_drop,←List.getD_eq_getElem?_getD];exact (HP.o _ (by omega)).below A.o)
  ·refine ay (S:=fun _=>True) 8 (by kernel_rfl) (by kernel_rfl) (by (try dsimp only);skip) (fun hH=>?_)
   simp only [List.take_succ_cons,List.take_zero,List.drop_succ_cons,List.drop_zero]
   refine tkA 0 ?_;refine tkA 1 ?_;refine tkA 2 ?_;refine tkA 3 ?_;refine tkA 4 ?_;refine tkA 5 ?_;refine tkA 6 ?_;refine tkA 7 ?_;refine wpAnyH_done (by kernel_rfl) ?_ _;dsimp only [aP];have G:Below w1.heap.size w1 (w1.alloc (.cells #[.slice (some ⟨b,off,none⟩) i i,.slice (some ⟨b,off+(i+1)*2,none⟩) (l.length-(i+1)) (cap-(i+1))] 48)).drew:=aw (ag (Below.refl _ _) _);have M:=zh (oX (w:=w1) (W:=(w1.alloc (.cells #[.slice (some ⟨b,off,none⟩) i i,.slice (some ⟨b,off+(i+1)*2,none⟩) (l.length-(i+1)) (cap-(i+1))] 48)).drew) (c1:=i) (B:=w1.heap.size) (PrsAt.forms HP.o) (fun j hj q hq=>(C.o.cell (p:=⟨b,_,none⟩) U).trans (HC.o j hj q hq)) (m:=l.length-(i+1)) (by have:=O.o;omega) hl (by simp) (fun _=>rfl) (aA _ _ _ _ _ _ rfl rfl) (aA _ _ _ _ _ _ rfl rfl) G);have R:=zh G;clear G;go_wp2_with fail
   refine M.o.mono ?_;rintro e w2 ⟨s2,c2,rfl,K,E⟩;have P:=zh K;have A:=zh (am C.o (am R.o E));clear K E M;generalize L:i+(l.length-(i+1))=mm at *;have Q:=zh L;clear L;go_wp2_with fail
   refine bodyPost_ret (v:=.slice s2 mm c2) (by simp [results,Tryz.results157,go_sem]) rfl ⟨_,rfl,?_,A.o⟩;have F:=O.o;have hm:=Q.o;refine (gY (S:=S1) (iT P.o (Nat.le_trans C.o.size (show w1.heap.size≤(w1.alloc (.cells #[.slice (some ⟨b,off,none⟩) i i,.slice (some ⟨b,off+(i+1)*2,none⟩) (l.length-(i+1)) (cap-(i+1))] 48)).heap.size by rw [ah];omega))) rfl (by simp;omega) ?_);rw [show (l.take i++l.drop (i+1)).length=i+(l.length-(i+1)) by simp;omega]
   exact fo (by simp;omega) (fun j hj=>by
     rw [List.getD_eq_getElem?_getD,List.getElem?_take,if_pos hj,←List.getD_eq_getElem?_getD];exact (HP.o j (by omega)).below A.o) (fun j hj=>by
     rw [List.getD_eq_getElem?_getD,List.getElem?_drop,←List.getD_eq_getElem?_getD];exact (HP.o _ (by omega)).below A.o)
 ·rw [if_neg F] at HF
  have ho:=HD.o;rw [if_neg F] at ho;rw [ho];clear HD H ho;go_enter Tryz.func157,Tryz.ntmps157
  go_wp2_with fail
  refine HF.o.mono ?_;rintro e w1 ⟨rfl,I⟩;have c:=zh (sJ w1 (HH.o.below I) (by omega));have C:=zh I;clear I;go_wp2_with fail
  refine c.o.mono ?_;rintro e w2 ⟨v2,rfl,N,E⟩;obtain ⟨⟨cs2,⟨s2,cap2,rfl,hq⟩,N⟩,T⟩:=N;have a:=zh T;have HQ:=zh (And.intro hq N);have A:=zh (am C.o E);clear hq N E T;go_wp2_with fail
  refine bodyPost_ret (v:=.slice s2 l.length cap2) (by simp [results,Tryz.results157,go_sem]) rfl ⟨_,rfl,StAt.mono ⟨⟨cs2,⟨s2,cap2,rfl,HQ.o.1⟩,HQ.o.2⟩,a.o⟩ (fun b hb=>hb.imp id (fun h=>⟨Nat.le_trans C.o.size h.1,h.2⟩)),A.o⟩
end
section
open Go.RowKit
attribute [local go_sem ↓] Go.wp_at_zero Go.wp_at_succ
theorem iR {w W:World} {b off n a m r c1 c2 B K:Nat} {cs:Nat→List Value} {kv vv:List Value} {p1 p2:Option Addr} (hl:∀i,i<n→∃x lx cx y ly cy,cs i=[.slice x lx cx,.slice y ly cy]) (hc:0<n→∀i,i<n→∀j,j<2→w.cell? ⟨b,off+i * 2+j,none⟩=(cs i)[j]?)
    (ha:a≤n) (h:r+m=n) (hn:n≤900) (E:p1=none→a=0∧c1=0) (C:0<a→p1=some ⟨b,off,none⟩) (D:p2=none→m=0∧c2=0) (A:0<m→p2=some ⟨b,off+r * 2,none⟩)
    (h0:W.cell? ⟨B,0,none⟩=some (.slice p1 a c1)) (h1:W.cell? ⟨B,1,none⟩=some (.slice (some ⟨K,0,none⟩) 1 1)) (h2:W.cell? ⟨B,2,none⟩=some (.slice p2 m c2)) (hk:PartOk W (some ⟨K,0,none⟩) 1 1 kv) (hv:vv=kv) (hW:Below w.heap.size w W) :
    Calls Tryz.prog 186 #[.slice (some ⟨B,0,none⟩) 3 3] W fun e w'=>∃s c,e=.returned (.slice s (a+(1+m)) c)∧w'.ownsRow W.heap.size 70 2 (.slice s (a+(1+m)) c) (a+(1+m)) (bG (iZ a cs (iZ 1 (fun _=>vv) (fun j=>cs (r+j)))) (a+(1+m)))∧Below W.heap.size W w':=by
 subst hv;have hs:df (fun | 0=>a | 1=>1 | _=>m) 3=a+(1+m):=by simp [df];omega
 have F:bG (fun | 0=>bG cs a | 1=>vv | _=>bG (fun j=>cs (r+j)) m) 3=bG (iZ a cs (iZ 1 (fun _=>vv) (fun j=>cs (r+j)))) (a+(1+m)):=by
  rw [il,il,cO,cO,cO];simp [bG]
 have h:=mB B 3 (fun | 0=>p1 | 1=>some ⟨K,0,none⟩ | _=>p2) (fun | 0=>a | 1=>1 | _=>m) (fun | 0=>c1 | 1=>1 | _=>c2) (fun | 0=>bG cs a | 1=>vv | _=>bG (fun j=>cs (r+j)) m) W (by decide)
  (fun j hj=>by
    match j,hj with
    | 0,_=>exact h0
    | 1,_=>exact h1
    | 2,_=>exact h2)
  (fun j hj=>by
    match j,hj with
    | 0,_ =>
      by_cases q0:0<n
      · have q:=(fW (w:=w) (n:=n) (b:=b) (off:=off) (m:=a) 0 hl (hc q0) c1 (by omega) p1 E (fun h=>by rw [C h];simp)).below hW
        simpa using q
      · obtain rfl:a=0:=by omega
        exact ⟨fun e=>E e,by simp [bG],fun _ _ j u hj=>by simp [bG] at hj,fun u hu=>by simp [bG] at hu⟩
    | 1,_=>exact hk
    | 2,_ =>
      by_cases q0:0<n
      · exact (fW (w:=w) (n:=n) (b:=b) (off:=off) (m:=m) r hl (hc q0) c2 (by omega) p2 D A).below hW
      · obtain rfl:m=0:=by omega
        exact ⟨fun e=>D e,by simp [bG],fun _ _ j u hj=>by simp [bG] at hj,fun u hu=>by simp [bG] at hu⟩)
  (by rw [hs];omega)
 rw [hs,F] at h;exact h
theorem qh (k x:List UInt8):∀l:List Pr,cn (fc l k x)≤cn l+8+k.length+x.length
 | []=>by simp [cn,fc]
 | p :: l=>by
  have ih:=qh k x l;rw [fc];by_cases e:p.1=k
  ·rw [if_pos e]
   unfold cn;simp only [List.map_cons,List.sum_cons]
   omega
  ·rw [if_neg e]
   split
   ·unfold cn
    simp only [List.map_cons,List.sum_cons]
    omega
   ·unfold cn at *
    simp only [List.map_cons,List.sum_cons]
    omega
theorem kT {W:World} {K:Nat} {x y:Option Addr} {lx cx ly cy:Nat} (h:W.heap[K]?=some (.cells #[.slice x lx cx,.slice y ly cy] 70 (0,0))):PartOk W (some ⟨K,0,none⟩) 1 1 [.slice x lx cx,.slice y ly cy]:=by
 refine ⟨fun e=>(by cases e),rfl,fun ad e j u hj=>?_,fun u hu=>?_⟩
 ·injection e with e
  subst e;rw [Go.WideShapes.add_plain,Nat.zero_add];exact aa h (by simpa using hj)
 ·rcases List.mem_cons.1 hu with rfl | hu
  ·rfl
  ·rcases List.mem_cons.1 hu with rfl | hu
   ·rfl
   ·cases hu
theorem jK {l:List Pr} (h:cn l≤2048):l.length≤256:=by
 have:=mD l;omega
def pJ (S1:Nat→Prop) (w:World) (o:Except Int (List Pr)) (e:Ending) (w':World):Prop:=(match o with
  | .error er=>e=.returned (.tuple #[.slice none 0 0,.int .i64 er])
  | .ok l=>∃p n c,e=.returned (.tuple #[.slice p n c,.int .i64 0])∧StAt (fun b=>S1 b∨Nu w.heap.size w' b) w' (.slice p n c) l)∧Below w.heap.size w w'
theorem zr {v vv:Value} {p1 p2:Option Addr} {k x:List UInt8} {c1 c2:Nat} {S1:Nat→Prop} (w:World) (hf:∃p n c,v=.slice p n c) (hv:vv=.slice p2 x.length c2) (hx:x.length≤100000) (hk:k.length≤100000) (h:64<k.length∨256<x.length) :
    Calls Tryz.prog 155 #[v,.slice p1 k.length c1,vv] w (pJ S1 w (.error 1)):=by
 obtain ⟨p,n,c,rfl⟩:=hf;subst hv;by_cases h1:64<k.length
 ·have k1:(64:Int)<(k.length:Int):=by omega
  clear h;go_enter Tryz.func155,Tryz.ntmps155
  go_wp2_with fail
  exact bodyPost_ret (v:=.tuple #[.slice none 0 0,.int .i64 1]) (by simp [results,Tryz.results155,go_sem]) rfl ⟨rfl,ag (Below.refl _ _) _⟩
 ·have k1:¬(64:Int)<(k.length:Int):=by omega
  have k2:(256:Int)<(x.length:Int):=by omega
  clear h;go_enter Tryz.func155,Tryz.ntmps155
  go_wp2_with fail
  exact bodyPost_ret (v:=.tuple #[.slice none 0 0,.int .i64 1]) (by simp [results,Tryz.results155,go_sem]) rfl ⟨rfl,ag (Below.refl _ _) _⟩
end
end Go.Proofs.YthgcpfkochikfaaGreat
