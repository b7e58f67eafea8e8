/-
  VerifyBuilt: part 22 of its proof: see the last text.
-/
import Derived.Test.YtmlgbkomdhcaoaaGreatDoorPv21
set_option maxRecDepth 100000
set_option maxHeartbeats 16000000
namespace Go.Proofs.YtmlgbkomdhcaoaaGreatDoor
namespace Vf
open Go.RowKit
attribute [local go_sem ↓] Go.wp_at_zero Go.wp_at_succ
theorem oy (l:List Int) (n i:Nat) (h:i<n):(l.take n).getD i 0=l.getD i 0:=by
 rw [List.getD_eq_getElem?_getD,List.getD_eq_getElem?_getD,List.getElem?_take_of_lt h]
theorem kZ (l:List Int) (n i:Nat):(l.drop n).getD i 0=l.getD (n+i) 0:=by
 rw [List.getD_eq_getElem?_getD,List.getD_eq_getElem?_getD,List.getElem?_drop]
theorem StkAt.take {w:World} {s0:Option Addr} {cap:Nat} {l:List Int} (h:StkAt w (.slice s0 l.length cap) l) (n:Nat) (hn:n≤l.length):StkAt w (.slice s0 n n) (l.take n):=by
 obtain ⟨s1,c1,he,h2,h3,h4,h5,h6⟩:=h;injection he with e1 e2 e3
 subst e1;subst e3;refine ⟨s0,n,by simp [Nat.min_eq_left hn],by simp;omega,by omega,fun e=>by have:=h4 e;omega,fun h0=>?_,fun i=>?_⟩
 ·have B:0<n:=by simpa [Nat.min_eq_left hn] using h0
  obtain ⟨b,off,arr,fz,q1,q2,q3⟩:=h5 (by omega);refine ⟨b,off,arr,fz,q1,q2,fun i hi=>?_⟩;have A:i<n:=by simpa [Nat.min_eq_left hn] using hi
  rw [oy _ _ _ A];exact q3 i (by omega)
 ·by_cases e:i<n
  ·rw [oy _ _ _ e];exact h6 i
  ·rw [List.getD_eq_getElem?_getD,List.getElem?_eq_none (by simp;omega)];constructor<;>decide
theorem StkAt.drop_ne {w:World} {s0:Option Addr} {cap:Nat} {l:List Int} (h:StkAt w (.slice s0 l.length cap) l) (n:Nat) (hn:n≤l.length) :
    StkAt w (.slice (s0.map fun a=>a.add n) (l.length-n) (cap-n)) (l.drop n):=by
 obtain ⟨s1,c1,he,h2,h3,h4,h5,h6⟩:=h;injection he with e1 e2 e3
 subst e1;subst e3;refine ⟨s0.map fun a=>a.add n,cap-n,by simp,by simp;omega,by omega,fun e=>?_,fun h0=>?_,fun i=>?_⟩
 ·cases s0 with
  | none=>have:=h4 rfl;omega
  | some a=>cases e
 ·have B:0<l.length-n:=by simpa using h0
  obtain ⟨b,off,arr,fz,rfl,q2,q3⟩:=h5 (by omega);refine ⟨b,off+n,arr,fz,by simp [Go.WideShapes.add_plain],q2,fun i hi=>?_⟩;have A:i<l.length-n:=by simpa using hi
  rw [kZ,Nat.add_assoc];exact q3 (n+i) (by omega)
 ·rw [kZ];exact h6 _
theorem StkAt.drop_eq {w:World} {s0:Option Addr} {l:List Int} (h:StkAt w (.slice s0 l.length l.length) l):StkAt w (.slice s0 (l.length-l.length) 0) (l.drop l.length):=by
 obtain ⟨s1,c1,he,h2,h3,h4,h5,h6⟩:=h;refine ⟨s0,0,by simp,by simp,by omega,fun e=>rfl,fun h0=>?_,fun i=>?_⟩
 ·simp at h0
 ·rw [kZ];exact h6 _
def yO (k:Nat) (st:List Int) (sl:Nat→Int) (n:Nat) (w:World):Ending→World→Prop:=fun e w' =>
 On k w w'∧if n≤st.length then ∃v,e=.returned (.tuple #[v,.bool true])∧StkAt w' v (st.drop (st.length-n))∧StAt w' k (st.take (st.length-n)) sl
  else e=.returned (.tuple #[.slice none 0 0,.bool false])∧StAt w' k st sl
theorem oV (k:Nat) (st:List Int) (sl:Nat→Int) (n:Nat) (w:World) (h:StAt w k st sl) (hn:n≤16) :
    Calls Tryz.prog 44 #[.pointer (some ⟨k,0,none⟩),.int .i64 n] w (yO k st sl n w):=by
 have HW:=zh h;obtain ⟨⟨arr,A⟩,⟨sv,N,s0,cap,rfl,I,B,E,D,H⟩,C⟩:=h;have G:Hd (StkAt w (.slice s0 st.length cap) st):=zh ⟨s0,cap,rfl,I,B,E,D,H⟩;have M:w.frozen? ⟨k,0,none⟩=false:=af A 0;have L:=lt_of_block A;have HO:=zh A;clear A D C H E;have g1:IntKind.i64.wrap ((st.length:Int)-(n:Int))=(st.length:Int)-(n:Int):=IntWalk.i64_in _ (by unfold maxLen at B;omega);unfold maxLen at B;by_cases F:n≤st.length
 ·have g2:(st.length:Int)-(n:Int)=((st.length-n:Nat):Int):=by omega
  have HV:=zh (G.o.take (st.length-n) (by omega))
  have K:=zh (fun (e:cap=st.length-n)=>(show StkAt w (.slice s0 (st.length-(st.length-n)) 0) (st.drop (st.length-n)) from by
    have e1:st.length-n=st.length:=by omega
    have e2:cap=st.length:=by omega
    have:=G.o;rw [e2] at this;rw [e1];exact this.drop_eq))
  have J:=zh (G.o.drop_ne (st.length-n) (by omega));have g3:decide (((st.length-n:Nat):Int)<0)=false:=by simp
  have hr:st.length-n≤st.length:=by omega
  rw [g2] at g1;generalize hR:st.length-n=R at *;have HR:=zh hR;clear hR;go_enter Tryz.func44,Tryz.ntmps44
  go_wp2_with fail
  ·go_ret2
   refine ⟨(On.refl k w).set 0 _,?_⟩;rw [if_pos F,HR.o];refine ⟨_,rfl,?_,HW.o.setTop HV.o⟩;exact ((On.refl k w).set 0 _).stk ⟨_,HO.o⟩ (K.o (by first | rfl | omega))
  ·go_ret2
   refine ⟨(On.refl k w).set 0 _,?_⟩;rw [if_pos F,HR.o];refine ⟨_,rfl,?_,HW.o.setTop HV.o⟩;exact ((On.refl k w).set 0 _).stk ⟨_,HO.o⟩ J.o
 ·have g3:decide ((st.length:Int)-(n:Int)<0)=true:=by simp;omega
  go_enter Tryz.func44,Tryz.ntmps44
  go_wp2_with fail
  go_ret2
  refine ⟨On.refl k w,?_⟩;rw [if_neg F];exact ⟨rfl,HW.o⟩
theorem kQ (w:World) (m n:Nat):(w.drewN m).drewN n=w.drewN (m+n):=by simp [World.drewN,Nat.add_assoc]
theorem tj {a b:List Int} (hl:a.length=b.length) (h:∀j,j<a.length→a.getD j 0=b.getD j 0):a=b:=by
 refine List.ext_getElem hl fun j h1 h2=>?_;have:=h j h1;rwa [List.getD_eq_getElem?_getD,List.getD_eq_getElem?_getD,List.getElem?_eq_getElem h1,List.getElem?_eq_getElem h2] at this
theorem tq {a b:List Int} (j:Nat) (h:a.getD j 0≠b.getD j 0):a≠b:=fun e=>h (by rw [e])
def TysAt (w:World) (v:Value) (l:List Int):Prop:=
 ∃s0 cap,v=.slice s0 l.length cap∧l.length≤cap∧cap≤9223372036854775807∧(0<l.length→∃b off,s0=some ⟨b,off,none⟩∧∀i,i<l.length→w.cell? ⟨b,off+i,none⟩=some (.int .i64 (l.getD i 0)))
theorem StkAt.tys {w:World} {v:Value} {l:List Int} (h:StkAt w v l):TysAt w v l:=by
 obtain ⟨s0,cap,h1,h2,h3,h4,h5,h6⟩:=h;unfold maxLen at h3;refine ⟨s0,cap,h1,h2,by omega,fun h0=>?_⟩;obtain ⟨b,off,_,_,q1,_,q3⟩:=h5 h0;exact ⟨b,off,q1,q3⟩
theorem _root_.Go.Proofs.YtmlgbkomdhcaoaaGreatDoor.RepTys.tys {w:World} {v:Value} {l:List Int} (h:RepTys w v l):TysAt w v l:=by
 obtain ⟨s0,cap,h1,h2,h3,h4,h5,h6,h7⟩:=h;refine ⟨s0,cap,h1,h3,by unfold gY at h4;omega,fun h0=>?_⟩;obtain ⟨b,off,q1,_,q3⟩:=h6 h0;exact ⟨b,off,q1,q3⟩
theorem pN (va vb:Value) (la lb:List Int) (w:World) (ha:TysAt w va la) (hb:TysAt w vb lb) :
    Calls Tryz.prog 27 #[va,vb] w fun e w'=>e=.returned (.bool (decide (la=lb)))∧∃m,w'=w.drewN m:=by
 obtain ⟨a0,ca,rfl,a2,a3,a5⟩:=ha;obtain ⟨b0,cb,rfl,b2,b3,b5⟩:=hb;have H5:=zh a5;have G5:=zh b5;clear a5 b5;by_cases hl:la.length=lb.length
 ·have e0:((la.length:Int) !=(lb.length:Int))=false:=by simp [hl]
  have e1:(la.length:Int)=(lb.length:Int):=by omega
  go_enter Tryz.func27,Tryz.ntmps27
  go_wp2_with fail
  have HL:=zh hl;clear hl;go_loopw [13] (fun s13 wr=>∃i:Nat,i≤la.length∧s13=.int .i64 i∧(∀j,j<i→la.getD j 0=lb.getD j 0)∧∃m,wr=w.drewN m) (fun s13 _=>la.length-(intOf s13).toNat)
  case atStart=>exact ⟨0,Nat.zero_le _,rfl,fun j hj=>absurd hj (by omega),0,rfl⟩
  case round =>
   obtain ⟨i,hi,rfl,C,m,rfl⟩:=hrel;have HA:=zh C;clear C;by_cases I:i<la.length
   ·obtain ⟨b,off,rfl,B⟩:=H5.o (by omega)
    obtain ⟨b',off',rfl,A⟩:=G5.o (by have:=HL.o;omega);have c1:=B i I;have c2:=A i (by have:=HL.o;omega);have F:(i:Int)<(la.length:Int):=by omega
    have H:(i:Int)<(lb.length:Int):=by omega
    have G:i<lb.length:=by omega
    have K:(0:Int)≤(i:Int):=by omega
    have q1:decide (la.length≤i)=false:=by simp;omega
    have q2:decide (lb.length≤i)=false:=by simp;omega
    clear B A;have HX:=zh (rfl:la.getD i 0=la.getD i 0);have HY:=zh (rfl:lb.getD i 0=lb.getD i 0);generalize hx:la.getD i 0=x at c1;generalize hy:lb.getD i 0=y at c2;have HX:=zh hx;have HY:=zh hy;clear hx hy;by_cases D:x=y
    ·have d1:(x !=y)=false:=by simp [D]
     have HE:=zh D;clear D;go_wp2_with fail
     go_big_quiet (fail)
     go_wp2_with fail
     go_roundw
     case rel=>exact ⟨i+1,by omega,by go_num,fun j hj=>by
       by_cases e:j<i
       · exact HA.o j e
       · obtain rfl:j=i:=by omega
         rw [HX.o,HY.o,HE.o],_,rfl⟩
     case measure=>simp [intOf];omega
    ·have d1:(x !=y)=true:=by simp [D]
     have E:la≠lb:=tq i (by rw [HX.o,HY.o];exact D);have hd:decide (la=lb)=false:=by simp [E]
     have HD:=zh hd;clear D E hd;go_wp2_with fail
     go_big_quiet (fail)
     go_wp2_with fail
     go_ret
     exact ⟨by rw [HD.o];rfl,_,kQ _ _ _⟩
   ·have C:=HA.o
    obtain rfl:i=la.length:=by omega
    have J:la=lb:=tj HL.o C;have hd:decide (la=lb)=true:=by simp [J]
    have HD:=zh hd;clear C hd;have F:¬((la.length:Int)<(la.length:Int)):=by omega
    go_wp2_with fail
    go_ret
    exact ⟨rfl,m,rfl⟩
 ·have e0:((la.length:Int) !=(lb.length:Int))=true:=by simp;omega
  have E:la≠lb:=fun e=>hl (by rw [e]);have hd:decide (la=lb)=false:=by simp [E]
  rw [hd];have HL:=zh hl;clear hl;go_enter Tryz.func27,Tryz.ntmps27
  go_wp2_with fail
  go_ret
  exact ⟨rfl,0,rfl⟩
theorem fi (k:Nat) (st A:List Int) (sl:Nat→Int) (vw:Value) (w:World) (h:StAt w k st sl) (hv:TysAt w vw A) :
    Calls Tryz.prog 48 #[.pointer (some ⟨k,0,none⟩),vw] w fun e w'=>e=.returned (.bool (bN st A))∧On k w w'∧StAt w' k (di st A) sl:=by
 have HW:=zh h;have HV:=zh hv;obtain ⟨⟨arr,B⟩,⟨sv,U,s0,cap,rfl,O,F,E,D,M⟩,C⟩:=h;have I:Hd (StkAt w (.slice s0 st.length cap) st):=zh ⟨s0,cap,rfl,O,F,E,D,M⟩;have T:w.frozen? ⟨k,0,none⟩=false:=af B 0;have S:=lt_of_block B;have HO:=zh B;clear B D C M E;obtain ⟨v0,vcap,rfl,Q,P,_⟩:=hv;unfold maxLen at F;have g1:IntKind.i64.wrap ((st.length:Int)-(A.length:Int))=(st.length:Int)-(A.length:Int):=IntWalk.i64_in _ (by omega);by_cases K:A.length≤st.length
 ·have g2:(st.length:Int)-(A.length:Int)=((st.length-A.length:Nat):Int):=by omega
  have HT:=zh (I.o.take (st.length-A.length) (by omega))
  have HQ:=zh (fun (e:cap=st.length-A.length)=>(show StkAt w (.slice s0 (st.length-(st.length-A.length)) 0) (st.drop (st.length-A.length)) from by
    have e1:st.length-A.length=st.length:=by omega
    have e2:cap=st.length:=by omega
    have:=I.o;rw [e2] at this;rw [e1];exact this.drop_eq))
  have J:=zh (I.o.drop_ne (st.length-A.length) (by omega));have HP:Hd (bN st A=decide (st.drop (st.length-A.length)=A)):=zh (by simp [bN,K]);have H:Hd (di st A=if bN st A then st.take (st.length-A.length) else st):=zh rfl;have g3:decide (((st.length-A.length:Nat):Int)<0)=false:=by simp
  have hr:st.length-A.length≤st.length:=by omega
  rw [g2] at g1;generalize hR:st.length-A.length=R at *;have HR:=zh hR;clear hR;by_cases L:cap=R
  ·have G:=zh (HQ.o L)
   rw [show st.length-R=0 by omega] at G;subst L
   have HE:Hd (Calls Tryz.prog 27 #[.slice s0 0 0,.slice v0 A.length vcap] w fun e w'=>e=.returned (.bool (bN st A))∧∃m,w'=w.drewN m):=
    zh (by rw [HP.o];exact pN _ _ _ _ w G.o.tys HV.o)
   clear HP HQ J;generalize bN st A=q at *;generalize di st A=st' at *;go_enter Tryz.func48,Tryz.ntmps48
   go_wp2_with fail
   refine HE.o.mono ?_;rintro e w1 ⟨rfl,m,rfl⟩
   cases q
   ·go_wp2_with fail
    go_ret
    exact ⟨rfl,(On.refl k w).drewN m,by rw [H.o];exact HW.o.drewN m⟩
   ·go_wp2_with fail
    go_ret
    exact ⟨rfl,((On.refl k w).drewN m).set 0 _,by rw [H.o];exact (HW.o.drewN m).setTop (HT.o)⟩
  ·have G:=zh (J.o)
   have HE:Hd (Calls Tryz.prog 27 #[.slice (s0.map fun a=>a.add R) (st.length-R) (cap-R),.slice v0 A.length vcap] w fun e w'=>e=.returned (.bool (bN st A))∧∃m,w'=w.drewN m):=
    zh (by rw [HP.o];exact pN _ _ _ _ w G.o.tys HV.o)
   clear HP HQ J;generalize bN st A=q at *;generalize di st A=st' at *;go_enter Tryz.func48,Tryz.ntmps48
   go_wp2_with fail
   refine HE.o.mono ?_;rintro e w1 ⟨rfl,m,rfl⟩
   cases q
   ·go_wp2_with fail
    go_ret
    exact ⟨rfl,(On.refl k w).drewN m,by rw [H.o];exact HW.o.drewN m⟩
   ·go_wp2_with fail
    go_ret
    exact ⟨rfl,((On.refl k w).drewN m).set 0 _,by rw [H.o];exact (HW.o.drewN m).setTop (HT.o)⟩
 ·have g3:decide ((st.length:Int)-(A.length:Int)<0)=true:=by simp;omega
  have hp:bN st A=false:=by simp [bN,K]
  have N:di st A=st:=by rw [di,hp];rfl
  rw [hp,N];go_enter Tryz.func48,Tryz.ntmps48
  go_wp2_with fail
  go_ret
  exact ⟨rfl,On.refl k w,HW.o⟩
end Vf
namespace Vf
open Go.RowKit
attribute [local go_sem ↓] Go.wp_at_zero Go.wp_at_succ
theorem iA (a A:Int) (w:World):Calls Tryz.prog 26 #[.int .i64 a,.int .i64 A] w fun e w'=>e=.returned (.bool (inB a A))∧w'=w:=by
 by_cases h0:0≤a
 ·by_cases h1:a<A
  ·have e:inB a A=true:=by simp [inB,h0,h1]
   rw [e];go_enter Tryz.func26,Tryz.ntmps26
   go_wp2_with fail
   go_ret
   exact ⟨rfl,rfl⟩
  ·have e:inB a A=false:=by simp [inB,h1]
   rw [e];go_enter Tryz.func26,Tryz.ntmps26
   go_wp2_with fail
   go_ret
   exact ⟨rfl,rfl⟩
 ·have e:inB a A=false:=by simp [inB,h0]
  rw [e];go_enter Tryz.func26,Tryz.ntmps26
  go_wp2_with fail
  go_ret
  exact ⟨rfl,rfl⟩
theorem wK (s:ByteArray) (a b:Int) (w:World):Calls Tryz.prog 45 #[.string s,.int .i64 a,.int .i64 b] w fun e w'=>e=.returned (.int .i64 (jT s.toList a b))∧w'=w:=by
 go_enter Tryz.func45,Tryz.ntmps45
 go_wp2_with fail
 all_goals (go_ret;refine ⟨dq ?_,rfl⟩;simp_all [jT]<;>omega)
def Signs (w:World):Prop:=∀i,i<13→w.cell? ⟨0,i,none⟩=some (.string (signRow.getD i ⟨#[]⟩))
theorem Signs.of {w w':World} (h:Signs w) (hk:w'.heap[0]?=w.heap[0]?):Signs w':=fun i hi=>(World.cell?_of_block (w:=w) hk).trans (h i hi)
theorem Signs.below {w w':World} (h:Signs w) (hb:Below w.heap.size w w'):Signs w':=h.of (hb.block 0 (ax (h 0 (by omega))))
theorem Signs.on {w w':World} {k:Nat} (h:Signs w) (hb:On k w w') (hk:0≠k):Signs w':=h.of (hb.block 0 (ax (h 0 (by omega))) (fun e=>hk (by injection e)))
theorem gU (n:Int) (w:World) (hs:Signs w):Calls Tryz.prog 46 #[.int .i64 n] w fun e w'=>e=.returned (.string (du n))∧w'=w:=by
 by_cases h0:0≤n
 ·by_cases h1:n<13
  ·obtain ⟨k,rfl⟩:=Int.eq_ofNat_of_zero_le h0
   have hc:=hs k (by omega);have e:du (k:Int)=signRow.getD k ⟨#[]⟩:=by simp [du,h1]
   rw [e];clear e hs;generalize signRow.getD k ⟨#[]⟩=s at *;go_enter Tryz.func46,Tryz.ntmps46
   go_wp2_with fail
   go_ret
   exact ⟨rfl,rfl⟩
  ·have e:du n=⟨#[]⟩:=by simp [du,h1]
   rw [e];clear e;go_enter Tryz.func46,Tryz.ntmps46
   go_wp2_with fail
   go_ret
   exact ⟨rfl,rfl⟩
 ·have e:du n=⟨#[]⟩:=by simp [du,h0]
  rw [e];clear e;go_enter Tryz.func46,Tryz.ntmps46
  go_wp2_with fail
  go_ret
  exact ⟨rfl,rfl⟩
end Vf
namespace Vf
open Go.RowKit
attribute [local go_sem ↓] Go.wp_at_zero Go.wp_at_succ
def kU (w:World) (v:Value) (l:List Int):Prop:=
 ∃s0,v=.slice s0 l.length l.length∧(0<l.length→∃b,s0=some ⟨b,0,none⟩∧(∃arr fz,w.heap[b]?=some (.cells arr 2 fz))∧∀i,i<l.length→w.cell? ⟨b,i,none⟩=some (.int .i64 (l.getD i 0)))
theorem ah (W:World) (o:Obj):(W.alloc o).heap.size=W.heap.size+1:=by
 show (W.heap.push o).size=_
 simp
theorem aw (W:World) (A:Array Value) (t:TypeId) (n i:Nat) (u:Value) (hn:W.heap.size=n) (hu:A[i]?=some u):(W.alloc (.cells A t)).cell? ⟨n,i,none⟩=some u:=by
 subst hn
 have h:(W.alloc (.cells A t)).heap[W.heap.size]?=some (.cells A t (0,0)):=by
  show (W.heap.push _)[W.heap.size]?=_
  simp
 unfold World.cell?;simp only [h]
 exact hu
theorem tU (W:World) (A:Array Value) (t:TypeId) {n:Nat} (hn:W.heap.size=n):∃a fz,(W.alloc (.cells A t)).heap[n]?=some (.cells a t fz):=by
 subst hn;refine ⟨A,(0,0),?_⟩;show (W.heap.push _)[W.heap.size]?=_
 simp
theorem qv (W:World) (x:Int) (n:Nat) (hn:W.heap.size=n):kU (W.alloc (.cells #[.int .i64 x] 2)) (.slice (some ⟨n,0,none⟩) 1 1) [x]:=
 ⟨_,rfl,fun _=>⟨_,rfl,tU _ _ _ hn,fun i hi=>by
   obtain rfl:i=0:=by simpa using hi
   exact aw _ _ _ _ _ _ hn rfl⟩⟩
theorem yd (W:World) (x y:Int) (n:Nat) (hn:W.heap.size=n):kU (W.alloc (.cells #[.int .i64 x,.int .i64 y] 2)) (.slice (some ⟨n,0,none⟩) 2 2) [x,y]:=
 ⟨_,rfl,fun _=>⟨_,rfl,tU _ _ _ hn,fun i hi=>by
   have A:i<2:=by simpa using hi
   rcases (show i=0∨i=1 by omega) with rfl | rfl
   · exact aw _ _ _ _ _ _ hn rfl
   · exact aw _ _ _ _ _ _ hn rfl⟩⟩
theorem tB (p o a:Int) (w:World) (hp:0≤p∧p≤1000000000) :
    Calls Tryz.prog 25 #[.int .i64 p,.agg #[.int .i64 o,.int .i64 a]] w fun e w'=>∃v,e=.returned v∧kU w' v (cT p ⟨o,a⟩)∧Below w.heap.size w w':=by
 have g1:IntKind.i64.wrap (p+1)=p+1:=IntWalk.i64_in _ (by omega);clear hp;by_cases h1:o=18
 ·subst h1
  rw [show cT p ⟨18,a⟩=[] from rfl];go_enter Tryz.func25,Tryz.ntmps25
  go_wp2_with fail
  go_ret
  exact ⟨_,rfl,⟨none,rfl,fun h=>by simp at h⟩,ag (Below.refl _ _) _⟩
 by_cases h2:o=15
 ·subst h2
  rw [show cT p ⟨15,a⟩=[a] from rfl];clear h1;go_enter Tryz.func25,Tryz.ntmps25
  go_wp2_with fail
  go_ret
  refine ⟨_,rfl,?_,?_⟩
  ·exact qv _ _ _ (ah _ _)
  ·exact ag (ag (Below.refl _ _) _) _
 by_cases h3:o=16
 ·subst h3
  rw [show cT p ⟨16,a⟩=[a,p+1] from rfl];clear h1 h2;go_enter Tryz.func25,Tryz.ntmps25
  go_wp2_with fail
  go_ret
  refine ⟨_,rfl,?_,?_⟩
  ·exact yd _ _ _ _ (ah _ _)
  ·exact ag (ag (Below.refl _ _) _) _
 ·rw [show cT p ⟨o,a⟩=[p+1] by simp [cT,h1,h2,h3]]
  go_enter Tryz.func25,Tryz.ntmps25
  go_wp2_with fail
  go_ret
  refine ⟨_,rfl,?_,?_⟩
  ·exact qv _ _ _ (ah _ _)
  ·exact ag (ag (Below.refl _ _) _) _
end Vf
namespace Vf
open Go.RowKit
attribute [local go_sem ↓] Go.wp_at_zero Go.wp_at_succ
def iI (k:Nat) (w:World) (r:Option Sta):Ending→World→Prop:=fun e w' =>
 e=.returned (.bool r.isSome)∧On k w w'∧∀s,r=some s→StAt w' k s.st s.sl
theorem On.cells {k:Nat} {a b:World} (h:On k a b):(∀c o,c≠k→c<a.heap.size→b.cell? ⟨c,o,none⟩=a.cell? ⟨c,o,none⟩)∧a.heap.size≤b.heap.size:=
 ⟨fun c _ hc hl=>World.cell?_of_block (w:=a) (h.block c hl (fun e=>hc (by injection e))),h.size⟩
theorem wQ {k:Nat} {w w1:World} {b1 b2:Obj} {A:Array Value} {t:TypeId} (h:On k (((w.alloc b1).alloc b2).alloc (.cells A t)) w1) (hk:w.heap.size+1+1≠k) (i:Nat) (u:Value) (hu:A[i]?=some u) :
    w1.cell? ⟨w.heap.size+1+1,i,none⟩=some u:=
 (h.cells.1 _ _ hk (by rw [ah,ah,ah];omega)).trans (aw _ _ _ _ _ _ (by rw [ah,ah]) hu)
theorem ak {w:World} {c o:Nat} {u:Value} (b:Obj) (h:w.cell? ⟨c,o,none⟩=some u):(w.alloc b).cell? ⟨c,o,none⟩=some u:=by
 rw [World.cell?_alloc_old _ _ _ (fun e=>World.new_ne w _ h e.symm)];exact h
theorem BE {k:Nat} {w w1:World} {b1 b3:Obj} {A:Array Value} {t:TypeId} (h:On k (((w.alloc b1).alloc (.cells A t)).alloc b3) w1) (hk:w.heap.size+1≠k) (i:Nat) (u:Value) (hu:A[i]?=some u) :
    w1.cell? ⟨w.heap.size+1,i,none⟩=some u:=
 (h.cells.1 _ _ hk (by rw [ah,ah,ah];omega)).trans (ak _ (aw _ _ _ _ _ _ (by rw [ah]) hu))
theorem BL {k:Nat} {w w1:World} {b2 b3:Obj} {A:Array Value} {t:TypeId} (h:On k (((w.alloc (.cells A t)).alloc b2).alloc b3) w1) (hk:w.heap.size≠k) (i:Nat) (u:Value) (hu:A[i]?=some u) :
    w1.cell? ⟨w.heap.size,i,none⟩=some u:=
 (h.cells.1 _ _ hk (by rw [ah,ah,ah];omega)).trans (ak _ (ak _ (aw _ _ _ _ _ _ rfl hu)))
theorem StAt.setSlot {w:World} {k j:Nat} {st:List Int} {sl:Nat→Int} {t:Int} (h:StAt w k st sl) (hj:j<256) (ht:i64 t):StAt (w.setCell ⟨k,1+j,none⟩ (.int .i64 t)) k st (dS sl j t):=by
 obtain ⟨⟨arr,ho⟩,⟨sv,hc,hs⟩,A⟩:=h;have B:On k w (w.setCell ⟨k,1+j,none⟩ (.int .i64 t)):=(On.refl k w).set (1+j) _;refine ⟨?_,⟨sv,?_,B.stk ⟨arr,ho⟩ hs⟩,fun i hi=>?_⟩
 ·refine ⟨arr.setIfInBounds (1+j) (.int .i64 t),?_⟩
  show (w.heap.modify k _)[k]?=_
  rw [Array.getElem?_modify,if_pos rfl,ho];rfl
 ·rw [aQ _ _ (.inr (by omega))]
  exact hc
 ·unfold dS
  by_cases e:i=j
  ·subst e
   rw [if_pos rfl];exact ⟨dh _ (A i hi).1,ht⟩
  ·rw [if_neg e,aQ _ _ (.inr (by omega))]
   exact A i hi
theorem qC (k:Nat) (s:Sta) (c:Cd) (m:Mdl) (a:Int) (v0 v1 v2 v3 v4 vm:Value) (w:World) (h:StAt w k s.st s.sl) (F:s.st.length≤900000)
    (hc:RepCd w v0 v1 v2 v3 v4 c) (hm:RepMdl w vm m) (S:c.slots≤256) :
    Calls Tryz.prog 43 #[.pointer (some ⟨k,0,none⟩),.agg #[v0,v1,v2,v3,v4],vm,.agg #[.int .i64 6,.int .i64 a]] w (iI k w (dH c.slots m.texts.length ⟨6,a⟩ s)):=by
 obtain ⟨st,sl⟩:=s;dsimp only at h F ⊢;have HW:=zh h;have V:k<w.heap.size:=by obtain ⟨⟨_,q⟩,_⟩:=h;exact lt_of_block q
 obtain ⟨_,_,_,_,rfl,_,_,_⟩:=hc;obtain ⟨u0,u1,rfl,_,L⟩:=hm;obtain ⟨s1,cap1,d0,rfl,n1,_,_,_,_⟩:=L;have N:w.heap.size≠k:=by omega
 have X:w.heap.size+1≠k:=by omega
 have M:w.heap.size+1+1≠k:=by omega
 clear h;generalize c.slots=nsl at *;generalize m.texts.length=ntx at *;have HR:Hd (∀x,inB a nsl=x→dH nsl ntx ⟨6,a⟩ ⟨st,sl⟩=if decide (1≤st.length)&&x then some ⟨st.take (st.length-1),dS sl a.toNat (st.getD (st.length-1) 0)⟩ else none):=zh (fun x hx=>by subst hx;rfl);have T1:=zh (fun (W:World) (hW:Below w.heap.size w W)=>oV k st sl 1 W (HW.o.below hW) (by omega));generalize dH nsl ntx ⟨6,a⟩ ⟨st,sl⟩=r at *;go_enter Tryz.func43,Tryz.ntmps43
 go_wp2_with fail
 refine (T1.o _ (ag (ag (ag (Below.refl _ _) _) _) _)).mono ?_;rintro e w1 ⟨B,D⟩;have q1:w1.cell? ⟨w.heap.size+1+1,1,none⟩=some (.int .i64 a):=wQ B M 1 _ rfl;have q2:w1.cell? ⟨w.heap.size,3,none⟩=some (.int .i64 nsl):=BL B N 3 _ rfl;by_cases h1:1≤st.length
 ·rw [if_pos h1] at D
  obtain ⟨v,rfl,hv,A⟩:=D;go_wp2_with fail
  refine (iA _ _ _).mono ?_;rintro e w2 ⟨rfl,rfl⟩;have hr:=HR.o _ rfl
  cases hq:inB a nsl
  ·rw [hq] at hr
   simp only [Bool.and_false] at hr
   subst hr;clear HR;go_wp2_with fail
   go_ret
   exact ⟨rfl,(On.of_below (ag (ag (ag (Below.refl _ _) _) _) _)).trans B,fun s e=>by cases e⟩
  ·rw [hq] at hr
   have O:0≤a∧a<nsl:=by simpa [inB] using hq
   obtain ⟨n,rfl⟩:=Int.eq_ofNat_of_zero_le O.1;have hn:n<256:=by omega
   simp only [h1,decide_true,Bool.and_self,if_true,Int.toNat_natCast] at hr
   subst hr;have HT:=zh A
   have C:st.drop (st.length-1)=[st.getD (st.length-1) 0]:=by
    rw [List.drop_eq_getElem_cons (by omega),List.getD_eq_getElem?_getD,List.getElem?_eq_getElem (by omega)];have e1:st.length-1+1=st.length:=by omega
    simp [e1]
   rw [C] at hv;generalize hx:st.getD (st.length-1) 0=x at *;obtain ⟨s0,cp,rfl,R,Q,J,H,G⟩:=hv;obtain ⟨b,off,arr,fz,rfl,Z,I⟩:=H (by simp);have E:i64 x:=G 0;have P:=I 0 (by simp);simp only [Nat.add_zero,List.getD_cons_zero] at P
   have K:=(A.slot n hn).1;have Y:w2.frozen? ⟨k,1+n,none⟩=false:=by obtain ⟨arr,ho⟩:=A.obj;exact af ho _
   have T:(n:Int)<256:=by omega
   have U:(0:Int)≤(n:Int):=by omega
   clear G I J H A;go_wp2_with fail
   go_region
   go_wp2_with fail
   go_ret
   exact ⟨rfl,(((On.of_below (ag (ag (ag (Below.refl _ _) _) _) _)).trans B).drewN 1).set _ _,fun s e=>by injection e with e;subst e;exact (HT.o.drewN 1).setSlot hn E⟩
 ·rw [if_neg h1] at D
  obtain ⟨rfl,A⟩:=D;have hr:=HR.o _ rfl;simp only [h1,decide_false,Bool.false_and] at hr
  subst hr;clear HR;go_wp2_with fail
  go_ret
  exact ⟨rfl,(On.of_below (ag (ag (ag (Below.refl _ _) _) _) _)).trans B,fun s e=>by cases e⟩
end Vf
namespace Vf
open Go.RowKit
attribute [local go_sem ↓] Go.wp_at_zero Go.wp_at_succ
theorem vI (k:Nat) (s:Sta) (c:Cd) (m:Mdl) (i:Ins) (v0 v1 v2 v3 v4 vm:Value) (w:World) (h:StAt w k s.st s.sl) (C:s.st.length≤900000)
    (hc:RepCd w v0 v1 v2 v3 v4 c) (hm:RepMdl w vm m) (K:c.slots≤256) :
    Calls Tryz.prog 43 #[.pointer (some ⟨k,0,none⟩),.agg #[v0,v1,v2,v3,v4],vm,.agg #[.int .i64 i.op,.int .i64 i.a]] w (iI k w (dH c.slots m.texts.length i s)):=by
 obtain ⟨op,a⟩:=i;have O6:=zh (fun (_:op=6)=>qC k s c m a v0 v1 v2 v3 v4 vm w h C hc hm K);obtain ⟨st,sl⟩:=s;dsimp only at h C ⊢;have HW:=zh h;have S:k<w.heap.size:=by obtain ⟨⟨_,q⟩,_⟩:=h;exact lt_of_block q
 obtain ⟨_,_,_,_,rfl,_,_,_⟩:=hc;obtain ⟨u0,u1,rfl,_,L⟩:=hm;obtain ⟨s1,cap1,d0,rfl,n1,_,_,_,_⟩:=L;have N:w.heap.size≠k:=by omega
 have M:w.heap.size+1≠k:=by omega
 have G:w.heap.size+1+1≠k:=by omega
 have P1:=zh (fun (W:World) (t:Int) (hW:Below w.heap.size w W) (ht:i64 t)=>fk k st sl t W (HW.o.below hW) C ht);clear h;generalize c.slots=nsl at *;generalize m.texts.length=ntx at *;by_cases o2:op=2
 ·subst o2
  rw [show dH nsl ntx ⟨2,a⟩ ⟨st,sl⟩=some ⟨st++[1],sl⟩ from rfl];go_enter Tryz.func43,Tryz.ntmps43
  go_wp2_with fail
  refine (P1.o _ 1 (ag (ag (ag (Below.refl _ _) _) _) _) (by constructor<;>decide)).mono ?_;rintro e w1 ⟨rfl,B,A⟩;go_wp2_with fail
  go_ret
  exact ⟨rfl,(On.of_below (ag (ag (ag (Below.refl _ _) _) _) _)).trans A,fun s e=>by injection e with e;subst e;exact B⟩
 by_cases o3:op=3
 ·subst o3
  have HR:Hd (∀x,inB a 2=x→dH nsl ntx ⟨3,a⟩ ⟨st,sl⟩=if x then some ⟨st++[2],sl⟩ else none):=zh (fun x hx=>by subst hx;rfl);clear o2;generalize dH nsl ntx ⟨3,a⟩ ⟨st,sl⟩=r at *;go_enter Tryz.func43,Tryz.ntmps43
  go_wp2_with fail
  refine (P1.o _ 2 (ag (ag (ag (Below.refl _ _) _) _) _) (by constructor<;>decide)).mono ?_;rintro e w1 ⟨rfl,B,A⟩;have q1:w1.cell? ⟨w.heap.size+1+1,1,none⟩=some (.int .i64 a):=wQ A G 1 _ rfl;go_wp2_with fail
  refine (iA _ _ _).mono ?_;rintro e w2 ⟨rfl,rfl⟩;have hr:=HR.o _ rfl;generalize inB a 2=q at *;subst hr
  cases q
  ·go_wp2_with fail
   go_ret
   exact ⟨rfl,(On.of_below (ag (ag (ag (Below.refl _ _) _) _) _)).trans A,fun s e=>by cases e⟩
  ·go_wp2_with fail
   go_ret
   exact ⟨rfl,(On.of_below (ag (ag (ag (Below.refl _ _) _) _) _)).trans A,fun s e=>by injection e with e;subst e;exact B⟩
 by_cases o4:op=4
 ·subst o4
  have HR:Hd (∀x,inB a ntx=x→dH nsl ntx ⟨4,a⟩ ⟨st,sl⟩=if x then some ⟨st++[3],sl⟩ else none):=zh (fun x hx=>by subst hx;rfl);clear o2 o3;generalize dH nsl ntx ⟨4,a⟩ ⟨st,sl⟩=r at *;go_enter Tryz.func43,Tryz.ntmps43
  go_wp2_with fail
  refine (P1.o _ 3 (ag (ag (ag (Below.refl _ _) _) _) _) (by constructor<;>decide)).mono ?_;rintro e w1 ⟨rfl,B,A⟩;have q1:w1.cell? ⟨w.heap.size+1+1,1,none⟩=some (.int .i64 a):=wQ A G 1 _ rfl;have q2:w1.cell? ⟨w.heap.size+1,1,none⟩=some (.slice s1 ntx cap1):=BE A M 1 _ rfl;go_wp2_with fail
  refine (iA _ _ _).mono ?_;rintro e w2 ⟨rfl,rfl⟩;have hr:=HR.o _ rfl;generalize inB a ntx=q at *;subst hr
  cases q
  ·go_wp2_with fail
   go_ret
   exact ⟨rfl,(On.of_below (ag (ag (ag (Below.refl _ _) _) _) _)).trans A,fun s e=>by cases e⟩
  ·go_wp2_with fail
   go_ret
   exact ⟨rfl,(On.of_below (ag (ag (ag (Below.refl _ _) _) _) _)).trans A,fun s e=>by injection e with e;subst e;exact B⟩
 by_cases o5:op=5
 ·subst o5
  have HR:Hd (∀x,inB a nsl=x→∀y,(sl a.toNat !=0)=y→dH nsl ntx ⟨5,a⟩ ⟨st,sl⟩=if x&&y then some ⟨st++[sl a.toNat],sl⟩ else none):=zh (fun x hx y hy=>by subst hx;subst hy;rfl);clear o2 o3 o4;generalize dH nsl ntx ⟨5,a⟩ ⟨st,sl⟩=r at *;have b1:(((w.alloc (.cells #[.string c.name,v1,.int .i64 c.result,.int .i64 nsl,v4] 40)).alloc (.cells #[u0,.slice s1 ntx cap1] 27)).alloc (.cells #[.int .i64 5,.int .i64 a] 35)).cell? ⟨w.heap.size,3,none⟩=some (.int .i64 nsl):=ak _ (ak _ (aw _ _ _ _ _ _ rfl rfl));have b3:(((w.alloc (.cells #[.string c.name,v1,.int .i64 c.result,.int .i64 nsl,v4] 40)).alloc (.cells #[u0,.slice s1 ntx cap1] 27)).alloc (.cells #[.int .i64 5,.int .i64 a] 35)).cell? ⟨w.heap.size+1+1,1,none⟩=some (.int .i64 a):=aw _ _ _ _ _ _ (by rw [ah,ah]) rfl
  cases hq:inB a nsl
  ·have HI:=zh (fun W=>(show Calls Tryz.prog 26 #[.int .i64 a,.int .i64 nsl] W fun e w'=>e=.returned (.bool false)∧w'=W from by rw [←hq];exact iA a nsl W))
   have hr:=HR.o _ hq _ rfl;clear hq HR;simp only [Bool.false_and] at hr
   subst hr;go_enter Tryz.func43,Tryz.ntmps43
   go_wp2_with fail
   go_big_quiet (first | (go_at_call 26;exact Calls.quiet_of_same ((HI.o _).mono fun _ _ h=>h)))
   go_wp2_with fail
   go_ret
   exact ⟨rfl,(On.of_below (ag (ag (ag (Below.refl _ _) _) _) _)).drewN _,fun s e=>by cases e⟩
  ·have HI:=zh (fun W=>(show Calls Tryz.prog 26 #[.int .i64 a,.int .i64 nsl] W fun e w'=>e=.returned (.bool true)∧w'=W from by rw [←hq];exact iA a nsl W))
   have I:0≤a∧a<nsl:=by simpa [inB] using hq
   obtain ⟨n,rfl⟩:=Int.eq_ofNat_of_zero_le I.1;have hn:n<256:=by omega
   have Q:(n:Int)<256:=by omega
   have R:(0:Int)≤(n:Int):=by omega
   have hr:=HR.o _ hq;simp only [Int.toNat_natCast] at hr
   obtain ⟨H,J⟩:=HW.o.slot n hn;have b2:(((w.alloc (.cells #[.string c.name,v1,.int .i64 c.result,.int .i64 nsl,v4] 40)).alloc (.cells #[u0,.slice s1 ntx cap1] 27)).alloc (.cells #[.int .i64 5,.int .i64 (n:Int)] 35)).cell? ⟨k,1+n,none⟩=some (.int .i64 (sl n)):=ak _ (ak _ (ak _ H));clear hq HR I H;obtain ⟨x,F⟩:∃x,sl n=x:=⟨_,rfl⟩
   rw [F] at J b2 hr;have O:=zh F;clear F;by_cases hx:x=0
   ·have D:=hr false (by simp [hx])
    subst hx;simp only [Bool.and_false] at D
    clear hr;subst D;go_enter Tryz.func43,Tryz.ntmps43
    go_wp2_with fail
    go_big_quiet (first | (go_at_call 26;exact Calls.quiet_of_same ((HI.o _).mono fun _ _ h=>h)))
    go_wp2_with fail
    go_ret
    exact ⟨rfl,(On.of_below (ag (ag (ag (Below.refl _ _) _) _) _)).drewN _,fun s e=>by cases e⟩
   ·have D:=hr true (by simp [hx])
    simp only [Bool.and_true,if_true] at D
    clear hr;subst D;have hd:(x !=0)=true:=by simp [hx]
    go_enter Tryz.func43,Tryz.ntmps43
    go_wp2_with fail
    go_region_held3 (fun w'=>w'.cell? ⟨w.heap.size+1+1,1,none⟩=some (.int .i64 (n:Int))∧w'.cell? ⟨w.heap.size,3,none⟩=some (.int .i64 nsl)∧w'.cell? ⟨k,1+n,none⟩=some (.int .i64 x)) (first | exact ⟨b3,b1,b2⟩ | exact ⟨q3,q1,q2⟩) (first | (go_at_call 26;refine (HI.o _).mono ?_;rintro e w2 ⟨rfl,rfl⟩) | (go_at_call 47;refine (P1.o _ x (aB (ag (ag (ag (Below.refl _ _) _) _) _)) J).mono ?_;rintro e w1 ⟨rfl,B,A⟩;obtain ⟨T,P⟩:=A.cells;have q3:=(A.cells.1 _ 1 G (ax b3)).trans b3;have q1:=(A.cells.1 _ 3 N (ax b1)).trans b1;have q2:=(B.slot n hn).1;rw [O.o] at q2))
    go_wp2_with fail
    go_ret
    exact ⟨rfl,(On.of_below (aB (ag (ag (ag (Below.refl _ _) _) _) _))).trans A,fun s e=>by injection e with e;subst e;exact B⟩
 by_cases o6:op=6
 ·subst o6
  exact O6.o rfl
 ·have hr:dH nsl ntx ⟨op,a⟩ ⟨st,sl⟩=if 1≤st.length then some ⟨st.take (st.length-1),sl⟩ else none:=by simp [dH,o2,o3,o4,o5,o6]
  have T1:=zh (fun (W:World) (hW:Below w.heap.size w W)=>oV k st sl 1 W (HW.o.below hW) (by omega));generalize dH nsl ntx ⟨op,a⟩ ⟨st,sl⟩=r at *;have HR:=zh hr;clear hr;go_enter Tryz.func43,Tryz.ntmps43
  go_wp2_with fail
  refine (T1.o _ (ag (ag (ag (Below.refl _ _) _) _) _)).mono ?_;rintro e w1 ⟨A,E⟩;by_cases h1:1≤st.length
  ·rw [if_pos h1] at E
   obtain ⟨v,rfl,hv,B⟩:=E;have hr:=HR.o;rw [if_pos h1] at hr;subst hr;clear HR;go_wp2_with fail
   go_ret
   exact ⟨rfl,(On.of_below (ag (ag (ag (Below.refl _ _) _) _) _)).trans A,fun s e=>by injection e with e;subst e;exact B⟩
  ·rw [if_neg h1] at E
   obtain ⟨rfl,B⟩:=E;have hr:=HR.o;rw [if_neg h1] at hr;subst hr;clear HR;go_wp2_with fail
   go_ret
   exact ⟨rfl,(On.of_below (ag (ag (ag (Below.refl _ _) _) _) _)).trans A,fun s e=>by cases e⟩
end Vf
end Go.Proofs.YtmlgbkomdhcaoaaGreatDoor
