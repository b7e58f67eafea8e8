/-
  EvalSigns: part 8 of its proof: see the last text.
-/
import Derived.Test.YthgcpfkochikfaaGreatPs07
import Derived.Test.YthgcpfkochikfaaGreatPs04
import Derived.Shelf.Bits.Mul64
set_option maxRecDepth 100000
set_option maxHeartbeats 16000000
namespace Go.Proofs.YthgcpfkochikfaaGreat
section
open Go.RowKit
attribute [local go_sem ↓] Go.wp_at_zero Go.wp_at_succ
theorem jN {p:Pr} {l:List Pr} (h:dt l=true) (hp:∀q∈l,bS p.1 q.1=true):dt (p :: l)=true:=by
 cases l with
 | nil=>rfl
 | cons q l =>
  rw [dt,Bool.and_eq_true];exact ⟨hp q (List.mem_cons_self ..),h⟩
theorem pW {k v:List UInt8}:∀{l:List Pr} {q:Pr},q∈fc l k v→q=(k,v)∨q∈l
 | [],q,h=>.inl (List.mem_singleton.1 h)
 | p :: l,q,h=>by
  rw [fc] at h;split at h
  ·rcases List.mem_cons.1 h with h | h
   ·exact .inl h
   ·exact .inr (List.mem_cons_of_mem _ h)
  split at h
  ·rcases List.mem_cons.1 h with h | h
   ·exact .inl h
   ·exact .inr h
  ·rcases List.mem_cons.1 h with h | h
   ·exact .inr (h▸List.mem_cons_self ..)
   ·exact (pW h).imp id (List.mem_cons_of_mem _)
theorem rY {k v:List UInt8}:∀{l:List Pr},dt l=true→dt (fc l k v)=true
 | [],_=>rfl
 | p :: l,h=>by
  have ht:=jF h;rw [fc];by_cases e:p.1=k
  ·rw [if_pos e]
   exact jN ht fun q hq=>by
    have:=gL h q hq;rw [e] at this;exact this
  ·rw [if_neg e]
   by_cases g:bS k p.1=true
   ·rw [if_pos g]
    exact jN h fun q hq=>by
     rcases List.mem_cons.1 hq with rfl | hq
     ·exact g
     ·exact jM g (gL h q hq)
   ·rw [if_neg g]
    exact jN (rY ht) fun q hq=>by
     rcases pW hq with rfl | hq
     ·exact vD (Ne.symm e) (by simpa using g)
     ·exact gL h q hq
theorem sR {l l':List Pr} {k v:List UInt8} (h:a8 l=true) (hp:fw l k v=.ok l'):a8 l'=true:=by
 obtain ⟨h1,h2,_⟩:=dd h;unfold fw at hp;split at hp
 ·cases hp
 rename_i hq;split at hp
 ·cases hp
 rename_i hz;injection hp with hp
 subst hp;unfold a8;rw [Bool.and_eq_true,Bool.and_eq_true];refine ⟨⟨List.all_eq_true.2 fun p hm=>?_,rY h2⟩,by simp;omega⟩;rcases pW hm with rfl | hm
 ·simp;omega
 ·have:=h1 p hm
  simp;omega
theorem pX {k:List UInt8}:∀{l:List Pr} {q:Pr},q∈eo l k→q∈l
 | [],_,h=>h
 | p :: l,q,h=>by
  rw [eo] at h;split at h
  ·exact List.mem_cons_of_mem _ h
  ·rcases List.mem_cons.1 h with h | h
   ·exact h▸List.mem_cons_self ..
   ·exact List.mem_cons_of_mem _ (pX h)
theorem rv {k:List UInt8}:∀{l:List Pr},dt l=true→dt (eo l k)=true
 | [],_=>rfl
 | p :: l,h=>by
  rw [eo];split
  ·exact jF h
  ·exact jN (rv (jF h)) fun q hq=>gL h q (pX hq)
theorem qD {k:List UInt8}:∀l:List Pr,cn (eo l k)≤cn l
 | []=>Nat.le_refl _
 | p :: l=>by
  have ih:=qD (k:=k) l;rw [eo];split
  ·unfold cn
   simp only [List.map_cons,List.sum_cons]
   omega
  ·unfold cn at *
   simp only [List.map_cons,List.sum_cons]
   omega
theorem sQ {l:List Pr} {k:List UInt8} (h:a8 l=true):a8 (eo l k)=true:=by
 obtain ⟨h1,h2,h3⟩:=dd h;unfold a8;rw [Bool.and_eq_true,Bool.and_eq_true];refine ⟨⟨List.all_eq_true.2 fun p hm=>?_,rv h2⟩,by have:=qD (k:=k) l;simp;omega⟩;have:=h1 p (pX hm);simp;omega
theorem JT.back {JB U k:Nat} {w w':World} (h:JT JB U w' k) (hb:Below w.heap.size w w'):JT JB U w k∨w.heap.size≤k:=by
 by_cases hk:k<w.heap.size
 ·exact .inl (h.imp id (fun q=>⟨q.1,q.2.keep (hb.block k hk).symm⟩))
 ·exact .inr (Nat.le_of_not_lt hk)
theorem OnS.jt {JB U:Nat} {a b c:World} (h:Below a.heap.size a b) (g:OnS (JT JB U b) b c):OnS (JT JB U a) a c:=OnS.new (OnS.of_below h) g fun _ hk=>JT.back hk h
def Dq (U:Nat) (w:World) (JB:Nat) (j:Jo) (N:Nat) (o:Except Int (List Pr)) (e:Ending) (w':World):Prop:=(match o with
  | .error er=>e=.returned (.int .i64 er)∧JAt U w' JB j N
  | .ok l=>e=.returned (.int .i64 0)∧JAt U w' JB ⟨l,j.undo++[j.pairs]⟩ (N+1))∧OnS (JT JB U w) w w'
theorem yj {S2 S3:Nat→Prop} {U JB N:Nat} {j:Jo} {kv vv:Value} {k x:List UInt8} (w:World) (h:JAt U w JB j N) (hk:TxtAt S2 w kv k) (hx:TxtAt S3 w vv x) (D:k.length≤100000) (B:x.length≤100000) (hU:U≤w.heap.size) (hN:N≤10000000) :
    Calls Tryz.prog 110 #[.pointer (some ⟨JB,0,none⟩),kv,vv] w (Dq U w JB j N (fw j.pairs k x)):=by
 obtain ⟨p,n,c,uv,fs,h1,h2,h3,_⟩:=h.box;have HP:=zh (yM w h2 hk hx h.right D B);have E:Hd (∀l,fw j.pairs k x=.ok l→a8 l=true):=zh fun l=>sR h.right
 have F:Hd (∀er,fw j.pairs k x=.error er→(er==0)=false):=zh fun er he=>by
  unfold fw at he;split at he
  ·injection he with he;subst he;rfl
  split at he
  ·injection he with he;subst he;rfl
  ·cases he
 have HJ:=zh h;have HU:=zh hU;have HN:=zh hN;obtain ⟨s1,c1,rfl,_⟩:=ba h3;have x0:=aa h1 (j:=0) (u:=.slice p n c) rfl;obtain ⟨pk,ck,rfl,_⟩:=hk.form;obtain ⟨px,cx,rfl,_⟩:=hx.form;generalize fw j.pairs k x=o at *;clear h h1 h2 h3 hk hx D B hU hN;go_enter Tryz.func110,Tryz.ntmps110
 go_wp2_with fail
 refine HP.o.mono ?_;rintro e w1 ⟨hs,hb⟩;have HB:=zh hb
 cases o with
 | error er =>
  have he:e=.returned (.tuple #[.slice none 0 0,.int .i64 er]):=hs;subst he;have J:=F.o er rfl;clear hs hb E F;go_wp2_with fail
  exact bodyPost_ret (v:=.int .i64 er) (by simp [results,Tryz.results110,go_sem]) rfl ⟨⟨rfl,HJ.o.below HB.o⟩,OnS.of_below HB.o⟩
 | ok l =>
  obtain ⟨p2,n2,c2,rfl,C⟩:=hs;have G:=zh (C.grown hb);have I:=zh (HJ.o.below hb);have A:=zh (rK w1 I.o G.o (E.o l rfl) (Nat.le_trans HU.o hb.size) HN.o);clear C hb;go_wp2_with fail
  refine A.o.mono ?_;rintro e w2 ⟨rfl,hj,ho⟩;have H:=zh hj;have HO:=zh ho;clear hj ho;go_wp2_with fail
  exact bodyPost_ret (v:=.int .i64 0) (by simp [results,Tryz.results110,go_sem]) rfl ⟨⟨rfl,H.o⟩,OnS.jt HB.o HO.o⟩
theorem xY {S2:Nat→Prop} {U JB N:Nat} {j:Jo} {kv:Value} {k:List UInt8} (w:World) (h:JAt U w JB j N) (hk:TxtAt S2 w kv k) (hU:U≤w.heap.size) (hN:N≤10000000) :
    Calls Tryz.prog 111 #[.pointer (some ⟨JB,0,none⟩),kv] w fun e w'=>e=.returned (.tuple #[])∧JAt U w' JB ⟨eo j.pairs k,j.undo++[j.pairs]⟩ (N+1)∧OnS (JT JB U w) w w':=by
 obtain ⟨p,n,c,uv,fs,h1,h2,h3,_⟩:=h.box;have HP:=zh (zZ w h2.1 hk (by have:=jK (dd h.right).2.2;omega));have D:Hd (a8 (eo j.pairs k)=true):=zh (sQ h.right);have HJ:=zh h;have HU:=zh hU;have HN:=zh hN;obtain ⟨s1,c1,rfl,_⟩:=ba h3;have x0:=aa h1 (j:=0) (u:=.slice p n c) rfl;obtain ⟨pk,ck,rfl,_⟩:=hk.form;generalize eo j.pairs k=l at *;clear h h1 h2 h3 hk hU hN;go_enter Tryz.func111,Tryz.ntmps111
 go_wp2_with fail
 refine HP.o.mono ?_;rintro e w1 ⟨v,rfl,A,hb⟩;have HB:=zh hb;obtain ⟨p2,n2,c2,rfl,_⟩:=id A.2;have C:=zh (A.grown hb);have F:=zh (HJ.o.below hb);have B:=zh (rK w1 F.o C.o D.o (Nat.le_trans HU.o hb.size) HN.o);clear A hb;go_wp2_with fail
 refine B.o.mono ?_;rintro e w2 ⟨rfl,hj,ho⟩;have E:=zh hj;have HO:=zh ho;clear hj ho;go_wp2_with fail
 exact bodyPost_end (by simp [results,Tryz.results111,go_sem]) rfl ⟨rfl,E.o,OnS.jt HB.o HO.o⟩
theorem vQ {U JB N:Nat} {j:Jo} (w:World) (h:JAt U w JB j N):Calls Tryz.prog 25 #[.pointer (some ⟨JB,0,none⟩)] w fun e w'=>e=.returned (.int .i64 j.undo.length)∧w=w':=by
 obtain ⟨p,n,c,uv,fs,h1,h2,h3,_⟩:=h.box;obtain ⟨s1,c1,rfl,_⟩:=ba h3;have x1:=aa h1 (j:=1) (u:=.slice s1 j.undo.length c1) rfl;clear h h1 h2 h3;go_enter Tryz.func25,Tryz.ntmps25
 go_wp2_with fail
 exact bodyPost_ret (v:=.int .i64 j.undo.length) (by simp [results,Tryz.results25,go_sem]) rfl ⟨rfl,rfl⟩
theorem CT {U JB N:Nat} {j:Jo} {wb jb n c:Nat} {p:Option Addr} (w:World) (h:JAt U w JB j N) (hw:w.cell? ⟨wb,0,none⟩=some (.slice p n c)) (hj:w.cell? ⟨jb,0,none⟩=some (.pointer (some ⟨JB,0,none⟩))) :
    Calls Tryz.prog 187 #[.pointer (some ⟨wb,0,none⟩),.pointer (some ⟨jb,0,none⟩)] w fun e w'=>e=.returned (.tuple #[])∧w'=w.setCell ⟨JB,0,none⟩ (.slice p n c):=by
 obtain ⟨p0,n0,c0,uv,fs,h1,h2,h3,_⟩:=h.box;obtain ⟨s1,c1,rfl,_⟩:=ba h3;have x0:=aa h1 (j:=0) (u:=.slice p0 n0 c0) rfl;have y0:=ae h1 0;clear h h1 h2 h3;go_enter Tryz.func187,Tryz.ntmps187
 go_wp2_with fail
 exact bodyPost_end (by simp [results,Tryz.results187,go_sem]) rfl ⟨rfl,rfl⟩
end
section
open Go.RowKit
attribute [local go_sem ↓] Go.wp_at_zero Go.wp_at_succ
def Jo.back (j:Jo) (i:Nat):Jo:=⟨if i<j.undo.length then j.undo.getD i [] else j.pairs,j.undo.take i⟩
theorem Jo.back_all (j:Jo):j.back j.undo.length=j:=by
 unfold Jo.back;rw [if_neg (Nat.lt_irrefl _),List.take_length]
theorem yV {w:World} {B e n m c:Nat} {s:Option Addr} {xs:List Value} (h:w.ownsRow B e 1 (.slice s n c) n xs) (hm:m≤n):w.ownsRow B e 1 (.slice s m c) m (xs.take m):=by
 have h1:=h.1;refine ⟨by rw [List.length_take];omega,?_⟩;rcases h.2 with ⟨q,q2⟩ | ⟨g,cap,cur,q1,q2,q3,q4,q5,q6,q7⟩
 ·injection q with e1 e2 e3
  subst e1 e3;exact .inl ⟨by rw [show m=0 by omega],by omega⟩
 ·injection q1 with e1 e2 e3
  subst e1 e3;refine .inr ⟨g,c,cur,rfl,q2,q3,by omega,q5,q6,?_⟩;rw [←q7,List.take_take];congr 1
  omega
theorem JAt.pop {U JB N i c c1 n:Nat} {j:Jo} {w:World} {s p p0:Option Addr} {n0 c0:Nat} {fs:List Value} (h:JAt U w JB (j.back (i+1)) N) (hi:i<j.undo.length) (hb:w.heap[JB]?=some (.cells #[.slice p0 n0 c0,.slice s (i+1) c1] 68 (0,0)))
    (ho:w.ownsRow U 1 1 (.slice s (i+1) c1) (i+1) fs) (hu:∀k,k<i+1→∃f,fs[k]?=some f∧UnC w JB f (j.undo.getD k [])) (hr:∀l∈j.undo,a8 l=true)
    (h3:StAt (JS w) w (.slice p n c) (j.undo.getD i [])) :
    JAt U ((w.setCell ⟨JB,0,none⟩ (.slice p n c)).setCell ⟨JB,1,none⟩ (.slice s i c1)) JB (j.back i) N:=by
 have hs:Stays (JS w) w ((w.setCell ⟨JB,0,none⟩ (.slice p n c)).setCell ⟨JB,1,none⟩ (.slice s i c1)):=Stays.of_ne (((On.refl JB w).set 0 _).set 1 _) (fun q=>(q.not (U:=U) h.ty) (.inl rfl));have A:∀b,b≠JB→((w.setCell ⟨JB,0,none⟩ (.slice p n c)).setCell ⟨JB,1,none⟩ (.slice s i c1)).heap[b]?=w.heap[b]?:=fun b hb=>(ak _ _ _ _ hb).trans (ak _ _ _ _ hb);have hl:(j.undo.take i).length=i:=by rw [List.length_take];omega
 unfold Jo.back;rw [if_pos hi];refine ⟨⟨p,n,c,.slice s i c1,fs.take i,au (au hb 0 _) 1 _,h3.js hs,?_,fun k hk=>?_⟩,hr _ ?_,fun q hq=>hr q (List.mem_of_mem_take hq),?_⟩
 ·rw [hl]
  exact fU (yV ho (Nat.le_succ _)) fun k q=>A k ((dA ho (show (Value.slice s (i+1) c1).ownBlock=some k by cases s with | none=>cases q | some a=>exact q)).ne h.ty (by decide))
 ·rw [hl] at hk
  obtain ⟨f,e1,e2⟩:=hu k (by omega);refine ⟨f,by rw [List.getElem?_take,if_pos hk];exact e1,?_⟩;rw [List.getD_eq_getElem?_getD,List.getElem?_take,if_pos hk,←List.getD_eq_getElem?_getD];exact e2.keep hs
 ·rw [List.getD_eq_getElem?_getD,List.getElem?_eq_getElem hi]
  exact List.getElem_mem _
 ·have:=h.few
  unfold Jo.back at this;simp at this ⊢
  omega
theorem vN {U JB N:Nat} {j:Jo} (m:Nat) (w:World) (h:JAt U w JB j N) (hm:m≤j.undo.length) (hN:N≤10000000):Calls Tryz.prog 36 #[.pointer (some ⟨JB,0,none⟩),.int .i64 m] w fun e w'=>e=.returned (.int .i64 0)∧JAt U w' JB (j.back m) N∧OnS (fun k=>k=JB) w w':=by
 have HJ:=zh h;have HR:=zh h.rights;obtain ⟨p,n,c,uv,fs,h1,h2,h3,_⟩:=h.box;obtain ⟨s1,c1,rfl,_⟩:=ba h3;have x1:=aa h1 (j:=1) (u:=.slice s1 j.undo.length c1) rfl;have I:=h.few;have HF:Hd (j.undo.length≤10000000):=zh (by omega);have X:∀args W,Sem.run Tryz.prog (callFunc 187 args) W=.ok (.enter 187 args) W:=fun _ _=>Tryz.call187 _ _;have S:(m:Int)≤(j.undo.length:Int):=by omega
 have q0:decide ((m:Int)<0)=false:=decide_eq_false (by omega);have q9:decide (j.undo.length<m)=false:=decide_eq_false (by omega);have HM:=zh hm;clear h h1 h2 h3 I hN hm;go_enter Tryz.func36,Tryz.ntmps36
 go_wp2_with fail
 go_loopg [5] (j.undo.length) (fun gg t5 wr=>∃i:Nat,i=gg∧m≤i∧i≤j.undo.length∧t5=.int .i64 (i:Int)∧Hd (JAt U wr JB (j.back i) N)∧OnS (fun k=>k=JB) w wr)
 case atStart=>exact ⟨_,rfl,HM.o,Nat.le_refl _,rfl,zh (by rw [Jo.back_all];exact HJ.o),OnS.refl _ _⟩
 case round =>
  obtain ⟨i,rfl,P,M,rfl,G,H⟩:=hrel;have O:=zh H;by_cases T:m<i
  ·obtain ⟨i,rfl⟩:∃k,i=k+1:=⟨i-1,by omega⟩
   obtain ⟨p0,n0,c0,uv,fs,h1,h2,h3,h4⟩:=G.o.box;have hl:(j.back (i+1)).undo.length=i+1:=by unfold Jo.back;simp;omega
   rw [hl] at h3 h4;obtain ⟨s2,c2,rfl,D,E,_,A⟩:=ba h3;obtain ⟨g,rfl,hg,_,B⟩:=A (Nat.succ_pos _)
   have hu:∀k,k<i+1→∃f,fs[k]?=some f∧UnC wr JB f (j.undo.getD k []):=fun k hk=>by
    obtain ⟨f,e1,e2⟩:=h4 k hk;refine ⟨f,e1,?_⟩;unfold Jo.back at e2;dsimp only at e2;rwa [List.getD_eq_getElem?_getD,List.getElem?_take,if_pos hk,←List.getD_eq_getElem?_getD] at e2
   obtain ⟨f,hf,wb,jb,p3,n3,c3,rfl,K,L,C⟩:=hu i (Nat.lt_succ_self _);have V:=B i _ hf;have x1:=aa h1 (j:=1) (u:=.slice (some ⟨g,0,none⟩) (i+1) c2) rfl;have Q:=zh (CT wr G.o (aa K (j:=0) rfl) (aa L (j:=0) rfl));have J:=zh (JAt.pop G.o (by omega) h1 h3 hu HR.o C);have F:=au h1 0 (.slice p3 n3 c3);have HB:=zh F;have x1b:=aa F (j:=1) (u:=.slice (some ⟨g,0,none⟩) (i+1) c2) rfl;have y1b:=ae F 1;have q1:(m:Int)<(i:Int)+1:=by omega
   have q2:(i:Int)≤10000000:=by have:=HF.o;omega
   have q4:(c2:Int)≤9223372036854775807:=by unfold maxLen at E;omega
   have q5:(i:Int)≤(c2:Int):=by omega
   have R:=zh (And.intro P (And.intro M D));clear h1 h2 h3 h4 hl A B hu hf K L C F H E D M;go_wp2_with fail
   go_at_fn 187
   refine Q.o.mono ?_;rintro e w' ⟨rfl,rfl⟩;go_wp2_with fail
   go_roundg i
   case measure=>omega
   case rel=>exact ⟨i,rfl,by omega,by have:=R.o;omega,by go_num,J,(O.o.set rfl 0 _).set rfl 1 _⟩
  ·obtain rfl:i=m:=by omega
   have q1:¬(i:Int)<(i:Int):=by omega
   clear H;go_wp2_with fail
   exact bodyPost_ret (v:=.int .i64 0) (by simp [results,Tryz.results36,go_sem]) rfl ⟨rfl,G.o,O.o⟩
end
section
open Go.RowKit Go.Shelf
def rV:Go.Shelf.Ren:=⟨fun | 264=>228 | n=>n,fun | 46=>267 | 53=>263 | n=>n,fun | n=>n⟩
theorem AL:Go.Proofs.Lays.n264 Tryz.prog rV:={
  mixed:=by kernel_rfl
  f264:=Tryz.func228.trans (congrArg some (by kernel_rfl))
  t46:=Tryz.underlying267
  a46:=Tryz.isAgg267
  z46:=Tryz.sizeOf267
  v46:=Tryz.zeroValue267
  t53:=Tryz.underlying263
  a53:=Tryz.isAgg263
  z53:=Tryz.sizeOf263
  v53:=Tryz.zeroValue263 }
theorem uV (x y:Nat) (w:World) (hx:x<18446744073709551616) (hy:y<18446744073709551616) :
    Calls Tryz.prog 228 #[.int .u64 x,.int .u64 y] w fun e w'=>e=.returned (.tuple #[.int .u64 ((x * y / 18446744073709551616:Nat):Int),.int .u64 ((x * y % 18446744073709551616:Nat):Int)])∧w'=w:=Any.bits_Mul64 AL x y hx hy w
def xM (a b:Int):Bool:=decide ((a.natAbs * b.natAbs / 18446744073709551616:Nat)=0)&&decide ((a.natAbs * b.natAbs % 18446744073709551616:Nat)≤if decide (a<0)=decide (b<0) then 9223372036854775807 else 9223372036854775808)
def sC (a b:Int):Int×Int:=if xM a b then (wrap64 (a * b),0) else (0,3)
theorem tI (a b:Int) (w:World) (ha:bf a) (hb:bf b):Calls Tryz.prog 211 #[.int .i64 a,.int .i64 b] w fun e w'=>e=.returned (.tuple #[.int .i64 (sC a b).1,.int .i64 (sC a b).2])∧w=w':=by
 have D:=zh (oP a w ha);have C:=zh (oP b w hb);have HM:=zh (uV a.natAbs b.natAbs w (by unfold bf at ha;omega) (by unfold bf at hb;omega));have HD:Hd (sC a b=if xM a b then (wrap64 (a * b),0) else (0,3)):=zh rfl;have B:Hd (xM a b=(decide ((a.natAbs * b.natAbs / 18446744073709551616:Nat)=0)&&decide ((a.natAbs * b.natAbs % 18446744073709551616:Nat)≤if decide (a<0)=decide (b<0) then 9223372036854775807 else 9223372036854775808))):=zh rfl;have E:a.natAbs * b.natAbs % 18446744073709551616<18446744073709551616:=Nat.mod_lt _ (by decide);have F:=zh E;generalize sC a b=o at *;generalize a.natAbs * b.natAbs / 18446744073709551616=hi at *;generalize a.natAbs * b.natAbs % 18446744073709551616=lo at *;have G:∀args W,Sem.run Tryz.prog (callFunc 227 args) W=.ok (.enter 227 args) W:=fun _ _=>Tryz.call227 _ _;clear ha hb E;by_cases h1:a<0
 ·by_cases h2:b<0
  ·have d1:decide (a<0)=true:=by simp [h1]
   have d2:decide (b<0)=true:=by simp [h2]
   by_cases h3:hi=0
   ·have HO:Hd (o=if (lo:Int)≤9223372036854775807 then (wrap64 (a * b),0) else (0,3)):=zh (by
      rw [HD.o,B.o,h3];clear d1 d2;by_cases q:lo≤9223372036854775807
      · have q':(lo:Int)≤9223372036854775807:=by omega
        simp [h1,h2,q,q']
      · have q':¬(lo:Int)≤9223372036854775807:=by omega
        simp [h1,h2,q,q'])
    subst h3;clear HD B h1 h2;go_enter Tryz.func211,Tryz.ntmps211
    go_wp2_with fail
    go_at_fn 227
    refine D.o.mono ?_;rintro e w1 ⟨rfl,rfl⟩;go_wp2_with fail
    go_at_fn 227
    refine C.o.mono ?_;rintro e w1 ⟨rfl,rfl⟩;go_wp2_with fail
    refine HM.o.mono ?_;rintro e w1 ⟨rfl,rfl⟩;go_wp2_with fail
    cases hq:decide ((lo:Int)≤9223372036854775807)
    ·have A:o=(0,3):=HO.o.trans (by rw [if_neg (by simpa using hq)])
     subst A;clear hq HO;refine (show Calls Tryz.prog 209 #[.int .i64 (wrap64 (a * b)),.bool false] _ (fun e w'=>e=.returned (.tuple #[.int .i64 0,.int .i64 3])∧_=w') from di (wrap64 (a * b)) false _).mono ?_;rintro e w1 ⟨rfl,rfl⟩;go_wp2_with fail
     exact bodyPost_ret (v:=.tuple #[.int .i64 0,.int .i64 3]) (by simp [results,Tryz.results211,go_sem]) rfl ⟨rfl,rfl⟩
    ·have A:o=(wrap64 (a * b),0):=HO.o.trans (by rw [if_pos (by simpa using hq)])
     subst A;clear hq HO;refine (show Calls Tryz.prog 209 #[.int .i64 (wrap64 (a * b)),.bool true] _ (fun e w'=>e=.returned (.tuple #[.int .i64 (wrap64 (a * b)),.int .i64 0])∧_=w') from di (wrap64 (a * b)) true _).mono ?_;rintro e w1 ⟨rfl,rfl⟩;go_wp2_with fail
     exact bodyPost_ret (v:=.tuple #[.int .i64 (wrap64 (a * b)),.int .i64 0]) (by simp [results,Tryz.results211,go_sem]) rfl ⟨rfl,rfl⟩
   ·have A:o=(0,3):=by
      rw [HD.o,B.o];simp [h3]
    subst A;have k3:((hi:Int)==0)=false:=beq_eq_false_iff_ne.2 (by omega);clear HD B h3 h1 h2;go_enter Tryz.func211,Tryz.ntmps211
    go_wp2_with fail
    go_at_fn 227
    refine D.o.mono ?_;rintro e w1 ⟨rfl,rfl⟩;go_wp2_with fail
    go_at_fn 227
    refine C.o.mono ?_;rintro e w1 ⟨rfl,rfl⟩;go_wp2_with fail
    refine HM.o.mono ?_;rintro e w1 ⟨rfl,rfl⟩;go_wp2_with fail
    refine (show Calls Tryz.prog 209 #[.int .i64 (wrap64 (a * b)),.bool false] _ (fun e w'=>e=.returned (.tuple #[.int .i64 0,.int .i64 3])∧_=w') from di (wrap64 (a * b)) false _).mono ?_;rintro e w1 ⟨rfl,rfl⟩;go_wp2_with fail
    exact bodyPost_ret (v:=.tuple #[.int .i64 0,.int .i64 3]) (by simp [results,Tryz.results211,go_sem]) rfl ⟨rfl,rfl⟩
  ·have d1:decide (a<0)=true:=by simp [h1]
   have d2:decide (b<0)=false:=by simp [h2]
   by_cases h3:hi=0
   ·have HO:Hd (o=if (lo:Int)≤9223372036854775808 then (wrap64 (a * b),0) else (0,3)):=zh (by
      rw [HD.o,B.o,h3];clear d1 d2;by_cases q:lo≤9223372036854775808
      · have q':(lo:Int)≤9223372036854775808:=by omega
        simp [h1,h2,q,q']
      · have q':¬(lo:Int)≤9223372036854775808:=by omega
        simp [h1,h2,q,q'])
    subst h3;clear HD B h1 h2;go_enter Tryz.func211,Tryz.ntmps211
    go_wp2_with fail
    go_at_fn 227
    refine D.o.mono ?_;rintro e w1 ⟨rfl,rfl⟩;go_wp2_with fail
    go_at_fn 227
    refine C.o.mono ?_;rintro e w1 ⟨rfl,rfl⟩;go_wp2_with fail
    refine HM.o.mono ?_;rintro e w1 ⟨rfl,rfl⟩;go_wp2_with fail
    cases hq:decide ((lo:Int)≤9223372036854775808)
    ·have A:o=(0,3):=HO.o.trans (by rw [if_neg (by simpa using hq)])
     subst A;clear hq HO;refine (show Calls Tryz.prog 209 #[.int .i64 (wrap64 (a * b)),.bool false] _ (fun e w'=>e=.returned (.tuple #[.int .i64 0,.int .i64 3])∧_=w') from di (wrap64 (a * b)) false _).mono ?_;rintro e w1 ⟨rfl,rfl⟩;go_wp2_with fail
     exact bodyPost_ret (v:=.tuple #[.int .i64 0,.int .i64 3]) (by simp [results,Tryz.results211,go_sem]) rfl ⟨rfl,rfl⟩
    ·have A:o=(wrap64 (a * b),0):=HO.o.trans (by rw [if_pos (by simpa using hq)])
     subst A;clear hq HO;refine (show Calls Tryz.prog 209 #[.int .i64 (wrap64 (a * b)),.bool true] _ (fun e w'=>e=.returned (.tuple #[.int .i64 (wrap64 (a * b)),.int .i64 0])∧_=w') from di (wrap64 (a * b)) true _).mono ?_;rintro e w1 ⟨rfl,rfl⟩;go_wp2_with fail
     exact bodyPost_ret (v:=.tuple #[.int .i64 (wrap64 (a * b)),.int .i64 0]) (by simp [results,Tryz.results211,go_sem]) rfl ⟨rfl,rfl⟩
   ·have A:o=(0,3):=by
      rw [HD.o,B.o];simp [h3]
    subst A;have k3:((hi:Int)==0)=false:=beq_eq_false_iff_ne.2 (by omega);clear HD B h3 h1 h2;go_enter Tryz.func211,Tryz.ntmps211
    go_wp2_with fail
    go_at_fn 227
    refine D.o.mono ?_;rintro e w1 ⟨rfl,rfl⟩;go_wp2_with fail
    go_at_fn 227
    refine C.o.mono ?_;rintro e w1 ⟨rfl,rfl⟩;go_wp2_with fail
    refine HM.o.mono ?_;rintro e w1 ⟨rfl,rfl⟩;go_wp2_with fail
    refine (show Calls Tryz.prog 209 #[.int .i64 (wrap64 (a * b)),.bool false] _ (fun e w'=>e=.returned (.tuple #[.int .i64 0,.int .i64 3])∧_=w') from di (wrap64 (a * b)) false _).mono ?_;rintro e w1 ⟨rfl,rfl⟩;go_wp2_with fail
    exact bodyPost_ret (v:=.tuple #[.int .i64 0,.int .i64 3]) (by simp [results,Tryz.results211,go_sem]) rfl ⟨rfl,rfl⟩
 ·by_cases h2:b<0
  ·have d1:decide (a<0)=false:=by simp [h1]
   have d2:decide (b<0)=true:=by simp [h2]
   by_cases h3:hi=0
   ·have HO:Hd (o=if (lo:Int)≤9223372036854775808 then (wrap64 (a * b),0) else (0,3)):=zh (by
      rw [HD.o,B.o,h3];clear d1 d2;by_cases q:lo≤9223372036854775808
      · have q':(lo:Int)≤9223372036854775808:=by omega
        simp [h1,h2,q,q']
      · have q':¬(lo:Int)≤9223372036854775808:=by omega
        simp [h1,h2,q,q'])
    subst h3;clear HD B h1 h2;go_enter Tryz.func211,Tryz.ntmps211
    go_wp2_with fail
    go_at_fn 227
    refine D.o.mono ?_;rintro e w1 ⟨rfl,rfl⟩;go_wp2_with fail
    go_at_fn 227
    refine C.o.mono ?_;rintro e w1 ⟨rfl,rfl⟩;go_wp2_with fail
    refine HM.o.mono ?_;rintro e w1 ⟨rfl,rfl⟩;go_wp2_with fail
    cases hq:decide ((lo:Int)≤9223372036854775808)
    ·have A:o=(0,3):=HO.o.trans (by rw [if_neg (by simpa using hq)])
     subst A;clear hq HO;refine (show Calls Tryz.prog 209 #[.int .i64 (wrap64 (a * b)),.bool false] _ (fun e w'=>e=.returned (.tuple #[.int .i64 0,.int .i64 3])∧_=w') from di (wrap64 (a * b)) false _).mono ?_;rintro e w1 ⟨rfl,rfl⟩;go_wp2_with fail
     exact bodyPost_ret (v:=.tuple #[.int .i64 0,.int .i64 3]) (by simp [results,Tryz.results211,go_sem]) rfl ⟨rfl,rfl⟩
    ·have A:o=(wrap64 (a * b),0):=HO.o.trans (by rw [if_pos (by simpa using hq)])
     subst A;clear hq HO;refine (show Calls Tryz.prog 209 #[.int .i64 (wrap64 (a * b)),.bool true] _ (fun e w'=>e=.returned (.tuple #[.int .i64 (wrap64 (a * b)),.int .i64 0])∧_=w') from di (wrap64 (a * b)) true _).mono ?_;rintro e w1 ⟨rfl,rfl⟩;go_wp2_with fail
     exact bodyPost_ret (v:=.tuple #[.int .i64 (wrap64 (a * b)),.int .i64 0]) (by simp [results,Tryz.results211,go_sem]) rfl ⟨rfl,rfl⟩
   ·have A:o=(0,3):=by
      rw [HD.o,B.o];simp [h3]
    subst A;have k3:((hi:Int)==0)=false:=beq_eq_false_iff_ne.2 (by omega);clear HD B h3 h1 h2;go_enter Tryz.func211,Tryz.ntmps211
    go_wp2_with fail
    go_at_fn 227
    refine D.o.mono ?_;rintro e w1 ⟨rfl,rfl⟩;go_wp2_with fail
    go_at_fn 227
    refine C.o.mono ?_;rintro e w1 ⟨rfl,rfl⟩;go_wp2_with fail
    refine HM.o.mono ?_;rintro e w1 ⟨rfl,rfl⟩;go_wp2_with fail
    refine (show Calls Tryz.prog 209 #[.int .i64 (wrap64 (a * b)),.bool false] _ (fun e w'=>e=.returned (.tuple #[.int .i64 0,.int .i64 3])∧_=w') from di (wrap64 (a * b)) false _).mono ?_;rintro e w1 ⟨rfl,rfl⟩;go_wp2_with fail
    exact bodyPost_ret (v:=.tuple #[.int .i64 0,.int .i64 3]) (by simp [results,Tryz.results211,go_sem]) rfl ⟨rfl,rfl⟩
  ·have d1:decide (a<0)=false:=by simp [h1]
   have d2:decide (b<0)=false:=by simp [h2]
   by_cases h3:hi=0
   ·have HO:Hd (o=if (lo:Int)≤9223372036854775807 then (wrap64 (a * b),0) else (0,3)):=zh (by
      rw [HD.o,B.o,h3];clear d1 d2;by_cases q:lo≤9223372036854775807
      · have q':(lo:Int)≤9223372036854775807:=by omega
        simp [h1,h2,q,q']
      · have q':¬(lo:Int)≤9223372036854775807:=by omega
        simp [h1,h2,q,q'])
    subst h3;clear HD B h1 h2;go_enter Tryz.func211,Tryz.ntmps211
    go_wp2_with fail
    go_at_fn 227
    refine D.o.mono ?_;rintro e w1 ⟨rfl,rfl⟩;go_wp2_with fail
    go_at_fn 227
    refine C.o.mono ?_;rintro e w1 ⟨rfl,rfl⟩;go_wp2_with fail
    refine HM.o.mono ?_;rintro e w1 ⟨rfl,rfl⟩;go_wp2_with fail
    cases hq:decide ((lo:Int)≤9223372036854775807)
    ·have A:o=(0,3):=HO.o.trans (by rw [if_neg (by simpa using hq)])
     subst A;clear hq HO;refine (show Calls Tryz.prog 209 #[.int .i64 (wrap64 (a * b)),.bool false] _ (fun e w'=>e=.returned (.tuple #[.int .i64 0,.int .i64 3])∧_=w') from di (wrap64 (a * b)) false _).mono ?_;rintro e w1 ⟨rfl,rfl⟩;go_wp2_with fail
     exact bodyPost_ret (v:=.tuple #[.int .i64 0,.int .i64 3]) (by simp [results,Tryz.results211,go_sem]) rfl ⟨rfl,rfl⟩
    ·have A:o=(wrap64 (a * b),0):=HO.o.trans (by rw [if_pos (by simpa using hq)])
     subst A;clear hq HO;refine (show Calls Tryz.prog 209 #[.int .i64 (wrap64 (a * b)),.bool true] _ (fun e w'=>e=.returned (.tuple #[.int .i64 (wrap64 (a * b)),.int .i64 0])∧_=w') from di (wrap64 (a * b)) true _).mono ?_;rintro e w1 ⟨rfl,rfl⟩;go_wp2_with fail
     exact bodyPost_ret (v:=.tuple #[.int .i64 (wrap64 (a * b)),.int .i64 0]) (by simp [results,Tryz.results211,go_sem]) rfl ⟨rfl,rfl⟩
   ·have A:o=(0,3):=by
      rw [HD.o,B.o];simp [h3]
    subst A;have k3:((hi:Int)==0)=false:=beq_eq_false_iff_ne.2 (by omega);clear HD B h3 h1 h2;go_enter Tryz.func211,Tryz.ntmps211
    go_wp2_with fail
    go_at_fn 227
    refine D.o.mono ?_;rintro e w1 ⟨rfl,rfl⟩;go_wp2_with fail
    go_at_fn 227
    refine C.o.mono ?_;rintro e w1 ⟨rfl,rfl⟩;go_wp2_with fail
    refine HM.o.mono ?_;rintro e w1 ⟨rfl,rfl⟩;go_wp2_with fail
    refine (show Calls Tryz.prog 209 #[.int .i64 (wrap64 (a * b)),.bool false] _ (fun e w'=>e=.returned (.tuple #[.int .i64 0,.int .i64 3])∧_=w') from di (wrap64 (a * b)) false _).mono ?_;rintro e w1 ⟨rfl,rfl⟩;go_wp2_with fail
    exact bodyPost_ret (v:=.tuple #[.int .i64 0,.int .i64 3]) (by simp [results,Tryz.results211,go_sem]) rfl ⟨rfl,rfl⟩
end
end Go.Proofs.YthgcpfkochikfaaGreat
