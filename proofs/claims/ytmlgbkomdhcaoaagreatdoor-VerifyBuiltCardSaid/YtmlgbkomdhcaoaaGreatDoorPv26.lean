/-
  VerifyBuilt: part 26 of its proof: see the last text.
-/
import Derived.Test.YtmlgbkomdhcaoaaGreatDoorPv25
set_option maxRecDepth 100000
set_option maxHeartbeats 16000000
namespace Go.Proofs.YtmlgbkomdhcaoaaGreatDoor
namespace Vf
open Go.RowKit
attribute [local go_sem ↓] Go.wp_at_zero Go.wp_at_succ
structure SafeInv (base:Nat) (B W:World) (n ab:Nat) (s6:Value) (tab:Tab) (pile:List Nat) (ks:Nat→Nat):Prop where
 below:Below base B W
 tabAt:TabAt base W ab n tab ks
 pileAt:PileAt base W s6 pile
 ne:pile≠[]
 inn:∀p,p∈pile→p<n∧(tab p).isSome=true
 muLe:mu n (tab,pile)≤5000000
theorem tG {n:Nat} {s:Sta} {tg:Int} {x y:Tab×List Nat} (h:ej n s tg x=some y) (hx:∀p,p∈x.2→p<n∧(x.1 p).isSome=true):∀p,p∈y.2→p<n∧(y.1 p).isSome=true:=by
 have B:∀(s':Sta) p,(x.1 p).isSome=true→(upd x.1 tg.toNat s' p).isSome=true:=fun s' p hp=>by
  unfold upd;split
  ·rfl
  ·exact hp
 have A:∀(s':Sta),(upd x.1 tg.toNat s' tg.toNat).isSome=true:=fun s'=>by simp [upd]
 unfold ej at h;split at h
 ·rename_i D
  have hb:0≤tg∧tg<n:=by simpa [inB] using D
  have C:tg.toNat<n:=by omega
  split at h
  ·injection h with h
   subst h;intro p hp;rcases List.mem_append.1 hp with hp | hp
   ·exact ⟨(hx p hp).1,B _ _ (hx p hp).2⟩
   ·obtain rfl:p=tg.toNat:=by simpa using hp
    exact ⟨C,A _⟩
  ·split at h
   ·injection h with h
    subst h;intro p hp;dsimp only at hp;split at hp
    ·rcases List.mem_append.1 hp with hp | hp
     ·exact ⟨(hx p hp).1,B _ _ (hx p hp).2⟩
     ·obtain rfl:p=tg.toNat:=by simpa using hp
      exact ⟨C,A _⟩
    ·exact ⟨(hx p hp).1,B _ _ (hx p hp).2⟩
   ·cases h
 ·cases h
theorem rU {n:Nat} {s:Sta} (l:List Int):∀{x y:Tab×List Nat},eJ n s l x=some y→(∀p,p∈x.2→p<n∧(x.1 p).isSome=true)→∀p,p∈y.2→p<n∧(y.1 p).isSome=true:=by
 induction l with
 | nil=>intro x y h hx;injection h with h;subst h;exact hx
 | cons t r ih =>
  intro x y h hx;unfold eJ at h
  cases hq:ej n s t x with
  | none=>rw [hq] at h;cases h
  | some z=>rw [hq] at h;exact ih h (tG hq hx)
theorem wv (c:Cd) (m:Mdl) (A:Tab) (l:List Nat) (p:Nat) (s:Sta) (hs:A p=some s):fo c m (A,l++[p]) =
    match aG c m (c.ins.getD p default) s with
    | none=>.inr false
    | some s' =>
     if 2100<s'.st.length then .inr false
     else
      match eJ c.ins.length s' (cT p (c.ins.getD p default)) (A,l) with
      | none=>.inr false
      | some y=>if y.2=[] then .inr true else .inl y:=by
 have h1:(l++[p]).getLast?=some p:=by simp
 have h2:(l++[p]).dropLast=l:=by simp
 unfold fo;simp only [h1,h2,hs]
 rfl
theorem vd {base:Nat} {B W W1:World} {n ab p:Nat} {s6 sv:Value} {D:Tab} {A:List Nat} {ks:Nat→Nat} {s:Sta} {cs:List Value} (h:SafeInv base B W n ab s6 D A ks) (hp:p<n) (hs:D p=some s) (F:StkAt W sv s.st)
    (G:cs=sv :: bC s.sl) (hw:W1=W.alloc (.cells cs.toArray 81)):StAt W1 W.heap.size s.st s.sl∧Below base B W1∧base≤W.heap.size:=by
 obtain ⟨h1,h2,h3⟩:=h.tabAt.st p s hp hs
 have E:base≤W.heap.size:=by
  obtain ⟨_,_,q⟩:=h3.ofTy;have:=lt_of_block q;omega
 have C:∀b,b<W.heap.size→W1.heap[b]?=W.heap[b]?:=fun b hb=>by rw [hw];exact Below.heap_alloc _ _ _ hb
 refine ⟨?_,?_,E⟩
 ·refine pI (sv:=sv) ⟨cs.toArray,by rw [hw];exact am _ _ _ rfl⟩ (F.keep fun b a fz q=>C b (lt_of_block q)) (fun j v hv=>?_) h3.i64s
  rw [hw,Nat.zero_add];refine aw _ _ _ _ _ _ rfl ?_;rw [G];simpa using hv
 ·rw [hw];exact h.below.alloc (Nat.le_trans E (Nat.le_refl _)) _
theorem rY (p:Int) (i:Ins):(cT p i).length≤2:=by unfold cT;split<;>(try split)<;>(try split)<;>simp
theorem zW (n:Nat) (A:Tab) (l:List Nat) (p:Nat):mu n (A,l)<mu n (A,l++[p]):=by simp [mu]
theorem yL {l:List Nat} (h:l≠[]):((l.length:Int)==0)=false:=by
 have:l.length≠0:=fun e=>h (List.eq_nil_of_length_eq_zero e);simp;omega
theorem tw {base:Nat} {B W W1 W2 W3:World} {n ab g cap p:Nat} {D:Tab} {l:List Nat} {ks:Nat→Nat} {cs:List Value} {s':Sta} {vl:Value} {L:List Int} (h:SafeInv base B W n ab (.slice (some ⟨g,0,none⟩) (l.length+1) cap) D (l++[p]) ks)
    (hw:W1=W.alloc (.cells cs.toArray 81)) (E:On W.heap.size W1.drew W2) (F:Below W2.heap.size W2 W3) (G:StAt W2 W.heap.size s'.st s'.sl) (C:kU W3 vl L) :
    FoldInv base W3 W3 ab n s' W.heap.size vl L (.slice (some ⟨g,0,none⟩) l.length cap) D l ks:=by
 have A:∀b,b<W.heap.size→W3.heap[b]?=W.heap[b]?:=fun b hb=>by
  have e1:W1.heap[b]?=W.heap[b]?:=by rw [hw];exact Below.heap_alloc _ _ _ hb
  have I:W1.heap.size=W.heap.size+1:=by rw [hw,ah]
  have e2:W2.heap[b]?=W1.heap[b]?:=E.block b (by show b<W1.heap.size;omega) (fun e=>by injection e with e;omega);have H:W1.heap.size≤W2.heap.size:=E.size;rw [F.block b (by omega),e2,e1]
 refine ⟨⟨rfl,rfl,rfl,Nat.le_refl _,fun _ _=>rfl⟩,h.tabAt.later A,(h.pileAt.later A).drop,G.later (fun b hb=>F.block b hb),fun j hj hs=>?_,C,?_⟩
 ·obtain ⟨s,hs⟩:=Option.isSome_iff_exists.1 hs
  obtain ⟨_,_,q⟩:=(h.tabAt.st j s hj hs).2.2.ofTy;have:=lt_of_block q;omega
 ·have h5:pot D n+(l++[p]).length≤5000000:=h.muLe
  show pot D n+l.length≤5000000
  simp only [List.length_append,List.length_cons,List.length_nil] at h5
  omega
theorem wW {C:Code} (hC:C=eY ((Tryz.f10.body).getD .skip) [true,false,true,true,true,true,true,true,false,false,false]) {Q:Exit→Act→World→Prop} {u0 u1 u4 u6 u7 u8 u9 Hp Ho Hn Hm Hl Kr Kq Kp Ko Kn Km Kl Kk Kj Ki Kh Kg Kf Ke Kd Kc Kb Ka K9 K8 K7 K6 ko kn kl kk ki ke kd kc kb ka k9 k8 k7 k6 k5 k4 k3 k2 k1 k0 HZ HY HX HW HV HU HR HQ HO HL HK HJ HH HE HB HA Hz Hy Hx Hw Hv Hu Ht Hk Hj Hi Hh Hg Hf He Hc Hb Ha H9 H8 H7 H6 H5 H4 H0 hX hV hU hF hE hD hB hA hz hy hx hw hv hu ht hr hl hk hj hi hh hg hf he hb ha h9 h8 h7 h6 h4 h0 z u k j f Z Y X V U T R O N M K J I H G F E hM hK hI:Value}
    (c:Cd) (m:Mdl) (w0 B:World) (mb cb ab n:Nat) (x0 x1 v0 v1 v2 v3 v4:Value) (tab:Tab) (pile:List Nat) (ks:Nat→Nat) {wr:World}
    (K0:SafeInv B.heap.size B wr n ab u6 tab pile ks) (KS:Below w0.heap.size w0 B)
    (K3:∀W,Below B.heap.size B W→W.cell? ⟨mb,0,none⟩=some x0∧W.cell? ⟨mb,1,none⟩=some x1∧W.cell? ⟨cb,0,none⟩=some v0∧W.cell? ⟨cb,1,none⟩=some v1∧W.cell? ⟨cb,2,none⟩=some v2∧W.cell? ⟨cb,3,none⟩=some v3∧W.cell? ⟨cb,4,none⟩=some v4)
    (hc:RepCd w0 v0 v1 v2 v3 v4 c) (hm:RepMdl w0 (.agg #[x0,x1]) m) (KK:Signs w0) (KZ:c.slots≤256) (hn:c.ins.length=n) (j4:n≤16384)
    (KC:∀x (t t':Array Value) d w,Q (.panic x) ⟨t,d⟩ w→Q (.panic x) ⟨t',d⟩ w)
    (h1:∀(u4 u6 u7 u8 Hp Ho Hn Hm Hl ko kn kl kk ki ke kd kc kb ka k9 k8 k7 k6 k5 k4 k3 k2 k1 k0 HZ HY HX HW HV HU HR HQ HO HL HK HJ HH HE HB HA Hz Hy Hx Hw Hv Hu Ht Hk Hj Hi Hh Hg Hf He Hc Hb Ha H9 H8 H7 H6 H5 H4 H0 hX hV hU hF hE hD hB hA hz hy hx hw hv hu ht hr hl hk hj hi hh hg hf he hb ha h9 h8 h7 h6 h4 h0 z u k j f Z Y X V U T R O N M K J I H G F E hM hK hI:Value) (w':World) (tab':Tab) (pile':List Nat) (ks':Nat→Nat),fo c m (tab,pile)=.inl (tab',pile')→SafeInv B.heap.size B w' n ab u6 tab' pile' ks'→mu n (tab',pile')<mu n (tab,pile)→Q .normal ⟨#[u0,u1,.pointer (some ⟨mb,0,none⟩),.pointer (some ⟨cb,0,none⟩),u4,.slice (some ⟨ab,0,none⟩) n n,u6,u7,u8,u9,Hp,Ho,Hn,Hm,Hl,Kr,Kq,Kp,Ko,Kn,Km,Kl,Kk,Kj,Ki,Kh,Kg,Kf,Ke,Kd,Kc,Kb,Ka,K9,K8,K7,K6,ko,kn,kl,kk,ki,ke,kd,kc,kb,ka,k9,k8,k7,k6,k5,k4,k3,k2,k1,k0,HZ,HY,HX,HW,HV,HU,HR,HQ,HO,HL,HK,HJ,HH,HE,HB,HA,Hz,Hy,Hx,Hw,Hv,Hu,Ht,Hk,Hj,Hi,Hh,Hg,Hf,He,Hc,Hb,Ha,H9,H8,H7,H6,H5,H4,H0,hX,hV,hU,hF,hE,hD,hB,hA,hz,hy,hx,hw,hv,hu,ht,hr,hl,hk,hj,hi,hh,hg,hf,he,hb,ha,h9,h8,h7,h6,h4,h0,z,u,k,j,f,Z,Y,X,V,U,T,R,O,N,M,K,J,I,H,G,F,E,hM,hK,hI],[]⟩ w')
    (h2:∀(b:Bool),fo c m (tab,pile)=.inr b→∀(u6 u7 u8 Hp Ho Hn Hm Hl ko kn kl kk ki ke kd kc kb ka k9 k8 k7 k6 k5 k4 k3 k2 k1 k0 HZ HY HX HW HV HU HR HQ HO HL HK HJ HH HE HB HA Hz Hy Hx Hw Hv Hu Ht Hk Hj Hi Hh Hg Hf He Hc Hb Ha H9 H8 H7 H6 H5 H4 H0 hX hV hU hF hE hD hB hA hz hy hx hw hv hu ht hr hl hk hj hi hh hg hf he hb ha h9 h8 h7 h6 h4 h0 z u k j f Z Y X V U T R O N M K J I H G F E hM hK hI:Value) (w':World),Below B.heap.size B w'→Q .ret ⟨#[u0,u1,.pointer (some ⟨mb,0,none⟩),.pointer (some ⟨cb,0,none⟩),.bool b,.slice (some ⟨ab,0,none⟩) n n,u6,u7,u8,u9,Hp,Ho,Hn,Hm,Hl,Kr,Kq,Kp,Ko,Kn,Km,Kl,Kk,Kj,Ki,Kh,Kg,Kf,Ke,Kd,Kc,Kb,Ka,K9,K8,K7,K6,ko,kn,kl,kk,ki,ke,kd,kc,kb,ka,k9,k8,k7,k6,k5,k4,k3,k2,k1,k0,HZ,HY,HX,HW,HV,HU,HR,HQ,HO,HL,HK,HJ,HH,HE,HB,HA,Hz,Hy,Hx,Hw,Hv,Hu,Ht,Hk,Hj,Hi,Hh,Hg,Hf,He,Hc,Hb,Ha,H9,H8,H7,H6,H5,H4,H0,hX,hV,hU,hF,hE,hD,hB,hA,hz,hy,hx,hw,hv,hu,ht,hr,hl,hk,hj,hi,hh,hg,hf,he,hb,ha,h9,h8,h7,h6,h4,h0,z,u,k,j,f,Z,Y,X,V,U,T,R,O,N,M,K,J,I,H,G,F,E,hM,hK,hI],[]⟩ w')
    (h3:fo c m (tab,pile)=.inr false→∀(u4 u6 u7 u8 Hp Ho Hn Hm Hl ko kn kl kk ki ke kd kc kb ka k9 k8 k7 k6 k5 k4 k3 k2 k1 k0 HZ HY HX HW HV HU HR HQ HO HL HK HJ HH HE HB HA Hz Hy Hx Hw Hv Hu Ht Hk Hj Hi Hh Hg Hf He Hc Hb Ha H9 H8 H7 H6 H5 H4 H0 hX hV hU hF hE hD hB hA hz hy hx hw hv hu ht hr hl hk hj hi hh hg hf he hb ha h9 h8 h7 h6 h4 h0 z u k j f Z Y X V U T R O N M K J I H G F E hM hK hI:Value) (w':World),Below B.heap.size B w'→Q (.exit 0) ⟨#[u0,u1,.pointer (some ⟨mb,0,none⟩),.pointer (some ⟨cb,0,none⟩),u4,.slice (some ⟨ab,0,none⟩) n n,u6,u7,u8,u9,Hp,Ho,Hn,Hm,Hl,Kr,Kq,Kp,Ko,Kn,Km,Kl,Kk,Kj,Ki,Kh,Kg,Kf,Ke,Kd,Kc,Kb,Ka,K9,K8,K7,K6,ko,kn,kl,kk,ki,ke,kd,kc,kb,ka,k9,k8,k7,k6,k5,k4,k3,k2,k1,k0,HZ,HY,HX,HW,HV,HU,HR,HQ,HO,HL,HK,HJ,HH,HE,HB,HA,Hz,Hy,Hx,Hw,Hv,Hu,Ht,Hk,Hj,Hi,Hh,Hg,Hf,He,Hc,Hb,Ha,H9,H8,H7,H6,H5,H4,H0,hX,hV,hU,hF,hE,hD,hB,hA,hz,hy,hx,hw,hv,hu,ht,hr,hl,hk,hj,hi,hh,hg,hf,he,hb,ha,h9,h8,h7,h6,h4,h0,z,u,k,j,f,Z,Y,X,V,U,T,R,O,N,M,K,J,I,H,G,F,E,hM,hK,hI],[]⟩ w') :
    Code.wp Tryz.prog C Q ⟨#[u0,u1,.pointer (some ⟨mb,0,none⟩),.pointer (some ⟨cb,0,none⟩),u4,.slice (some ⟨ab,0,none⟩) n n,u6,u7,u8,u9,Hp,Ho,Hn,Hm,Hl,Kr,Kq,Kp,Ko,Kn,Km,Kl,Kk,Kj,Ki,Kh,Kg,Kf,Ke,Kd,Kc,Kb,Ka,K9,K8,K7,K6,ko,kn,kl,kk,ki,ke,kd,kc,kb,ka,k9,k8,k7,k6,k5,k4,k3,k2,k1,k0,HZ,HY,HX,HW,HV,HU,HR,HQ,HO,HL,HK,HJ,HH,HE,HB,HA,Hz,Hy,Hx,Hw,Hv,Hu,Ht,Hk,Hj,Hi,Hh,Hg,Hf,He,Hc,Hb,Ha,H9,H8,H7,H6,H5,H4,H0,hX,hV,hU,hF,hE,hD,hB,hA,hz,hy,hx,hw,hv,hu,ht,hr,hl,hk,hj,hi,hh,hg,hf,he,hb,ha,h9,h8,h7,h6,h4,h0,z,u,k,j,f,Z,Y,X,V,U,T,R,O,N,M,K,J,I,H,G,F,E,hM,hK,hI],[]⟩ wr:=by
 simp only [Tryz.f10,eY,Option.getD] at hC
 subst hC;have kt:Hd (∀c (a:Act) o v w,Q (.panic c) (a.put o v) w→Q (.panic c) a w):=zh (fun c a o v w h=>by cases o<;>exact KC c _ a.tmps a.defers w h);have jt:=zh KC;have H1:=zh h1;have H2:=zh h2;have H3:=zh h3;have HI:=zh K0;have HC:=zh hc;have HM:=zh hm;have HG:=zh KK;have K5:=zh KS;have KI:=zh K3;have J1:=zh hn;clear KC h1 h2 h3 hm KK K3;obtain ⟨m1,m2,m3,m4,m5,m6,m7,m8⟩:=hc;obtain ⟨s4,cap4,rfl,i1,i2,i3,i4,i5,i6⟩:=m6;clear m1 m2 m3 m4 m5 m7 m8 i1 i3 i4 i6;rw [hn] at i2 i5 KI HC
 have KD:Hd (∀W p,Below B.heap.size B W→p<n→∃b4 o4,s4=some ⟨b4,o4,none⟩∧W.cell? ⟨b4,o4+p * 2,none⟩=some (.int .i64 (c.ins.getD p default).op)∧W.cell? ⟨b4,o4+p * 2+1,none⟩=some (.int .i64 (c.ins.getD p default).a)):=zh (fun W p hW hp=>by
   obtain ⟨b4,o4,q1,q2,q3⟩:=i5 (by omega);have KR:Below w0.heap.size w0 W:=K5.o.trans (hW.mono (K5.o.size));obtain ⟨q4,q5⟩:=q3 p hp;exact ⟨b4,o4,q1,(aM KR _ _ q2).trans q4,(aM KR _ _ q2).trans q5⟩)
 obtain ⟨hN,hP,A,j3,K2,_⟩:=K0;obtain ⟨l,p,rfl⟩:∃l p,pile=l++[p]:=⟨_,_,(List.dropLast_concat_getLast j3).symm⟩
 obtain ⟨kv,j1⟩:=K2 p (by simp);obtain ⟨s,hs⟩:=Option.isSome_iff_exists.1 j1;obtain ⟨J6,kP,KJ⟩:=hP.st p s kv hs;obtain ⟨sv,Kx,kp⟩:=KJ.whole;obtain ⟨g,cap,KM,KA,J7,j8,hS⟩:=A.form;have KP:=hS l.length (by simp);have KQ:=hP.cell p kv;rw [hs,mf] at KQ;obtain ⟨b4,o4,j0,j6,j5⟩:=KD.o wr p hN kv;subst j0;rw [show (l++[p]).getD l.length 0=p by simp] at KP;have Kz:(l++[p]).length=l.length+1:=by simp
 rw [Kz] at KM KA;subst KM;have j2:(p:Int)<(n:Int):=by omega
 have J5:(0:Int)≤(p:Int):=by omega
 have hL:l.length+1≤5000000:=by
  have h5:pot tab n+(l++[p]).length≤5000000:=HI.o.muLe;rw [Kz] at h5;omega
 have g1:IntKind.i64.wrap (l.length:Int)=(l.length:Int):=IntWalk.i64_in _ (by omega);have jA:Hd (0≤(p:Int)∧(p:Int)≤1000000000):=zh (by omega);obtain ⟨cs,kx⟩:∃cs,cs=sv :: bC s.sl:=⟨_,rfl⟩
 rw [←kx] at kp;have Kt:cs.length=257:=by rw [kx,List.length_cons,cn]
 have Kw:(Tryz.prog.info? 81).map (·.size)=some cs.length:=by rw [kx];exact Av _ _
 have KL:=run_storeCells_new (P:=Tryz.prog) wr 81 z58 cs.toArray (by rw [Kw];simp) (by simp [z58,cn,Kt]) (all_oneCell_toArray (by rw [kx];exact zT Kx _));rw [show cs.toArray.toList=cs by simp] at KL;have Kv:=sO;have HS:=zh Kw;have J4:=zh kx;have KT:=zh hs;have jo:=zh Kx;have HN:=zh kp;have KF:=zh kP;clear kx Kw kp hS hP A K2 hs Kx KJ j8 hN hL Kz i5 KS;go_wp2_with fail
 refine wp_load_mid _ _ rfl (ks p) 0 rfl cs _ HN.o Tryz.underlying81 rfl HS.o ?_;go_wp2_with fail
 obtain ⟨w1,Ks⟩:∃w1,w1=wr.alloc (.cells cs.toArray 81):=⟨_,rfl⟩
 rw [←Ks];have K4:=zh (vd HI.o kv KT.o jo.o J4.o Ks);have jb:=zh Ks;clear KL Kv KP KQ j6 j5 Ks Kt;have js:=zh K4.o.1;have Ku:=zh K4.o.2.1;obtain ⟨y1,y2,y3,y4,y5,y6,y7⟩:=KI.o w1 Ku.o;obtain ⟨b4',o4',kr,y8,y9⟩:=KD.o w1 p Ku.o kv;injection kr with kr
 injection kr with hbe1 hbe2
 subst hbe1;subst hbe2;have HD:=zh (fun W (h1:StAt W wr.heap.size s.st s.sl) (h2:Below B.heap.size B W)=>wM wr.heap.size s c m (c.ins.getD p default) v0 _ _ _ _ _ w0 W h1 (by have:=KF.o;omega) HC.o HM.o KZ HG.o (K5.o.trans (h2.mono K5.o.size)) (Nat.le_trans K5.o.size K4.o.2.2));have kz:=zh (wv c m tab l p s KT.o);generalize aG c m (c.ins.getD p default) s=r at *;generalize K1:c.ins.getD p default=ins at *;obtain ⟨op,ia⟩:=ins;have KG:=zh K1;clear K1;dsimp only at HD y8 y9;refine aD (S:=(fun w'=>w'.cell? ⟨mb,0,none⟩=some x0∧w'.cell? ⟨mb,1,none⟩=some x1∧w'.cell? ⟨cb,0,none⟩=some v0∧w'.cell? ⟨cb,1,none⟩=some v1∧w'.cell? ⟨cb,2,none⟩=some v2∧w'.cell? ⟨cb,3,none⟩=some v3∧w'.cell? ⟨cb,4,none⟩=some (.slice (some ⟨b4,o4,none⟩) n cap4)∧w'.cell? ⟨b4,o4+p * 2,none⟩=some (.int .i64 op)∧w'.cell? ⟨b4,o4+p * 2+1,none⟩=some (.int .i64 ia))) 7 (by kernel_rfl) (by kernel_rfl) (by exact ⟨y1,y2,y3,y4,y5,y6,y7,y8,y9⟩) (fun hH=>?_);simp only [List.take_succ_cons,List.take_zero,List.drop_succ_cons,List.drop_zero]
 refine wpAnyH_take (i:=0) (v:=?_) rfl (by kernel_rfl) (by kernel_rfl) (by kernel_rfl) (fun c a w h=>kt.o c a _ _ w h) (Or.inl ⟨by rfl,?_⟩) (by assumption) ?_;rotate_left 1
 ·(intro w hQ;(try dsimp only at hQ);go_simp;try with_reducible rfl)
 try simp only [Act.put,List.setIfInBounds_toArray,List.set_cons_zero,List.set_cons_succ,List.getElem_toArray,List.getElem_cons_zero]
 refine wpAnyH_take (i:=1) (v:=?_) rfl (by kernel_rfl) (by kernel_rfl) (by kernel_rfl) (fun c a w h=>kt.o c a _ _ w h) (Or.inl ⟨by rfl,?_⟩) (by assumption) ?_;rotate_left 1
 ·(intro w hQ;(try dsimp only at hQ);go_simp;try with_reducible rfl)
 try simp only [Act.put,List.setIfInBounds_toArray,List.set_cons_zero,List.set_cons_succ,List.getElem_toArray,List.getElem_cons_zero,List.getElem_cons_succ]
 refine wpAnyH_take (i:=2) (v:=?_) rfl (by kernel_rfl) (by kernel_rfl) (by kernel_rfl) (fun c a w h=>kt.o c a _ _ w h) (Or.inl ⟨by rfl,?_⟩) (by assumption) ?_;rotate_left 1
 ·(intro w hQ;(try dsimp only at hQ);go_simp;try with_reducible rfl)
 try simp only [Act.put,List.setIfInBounds_toArray,List.set_cons_zero,List.set_cons_succ,List.getElem_toArray,List.getElem_cons_zero,List.getElem_cons_succ]
 refine wpAnyH_take (i:=3) (v:=?_) rfl (by kernel_rfl) (by kernel_rfl) (by kernel_rfl) (fun c a w h=>kt.o c a _ _ w h) (Or.inl ⟨by rfl,?_⟩) (by assumption) ?_;rotate_left 1
 ·(intro w hQ;(try dsimp only at hQ);go_simp;try with_reducible rfl)
 try simp only [Act.put,List.setIfInBounds_toArray,List.set_cons_zero,List.set_cons_succ,List.getElem_toArray,List.getElem_cons_zero,List.getElem_cons_succ]
 refine wpAnyH_take (i:=4) (v:=?_) rfl (by kernel_rfl) (by kernel_rfl) (by kernel_rfl) (fun c a w h=>kt.o c a _ _ w h) (Or.inl ⟨by rfl,?_⟩) (by assumption) ?_;rotate_left 1
 ·(intro w hQ;(try dsimp only at hQ);go_simp;try with_reducible rfl)
 try simp only [Act.put,List.setIfInBounds_toArray,List.set_cons_zero,List.set_cons_succ,List.getElem_toArray,List.getElem_cons_zero,List.getElem_cons_succ]
 refine wpAnyH_take (i:=5) (v:=?_) rfl (by kernel_rfl) (by kernel_rfl) (by kernel_rfl) (fun c a w h=>kt.o c a _ _ w h) (Or.inl ⟨by rfl,?_⟩) (by assumption) ?_;rotate_left 1
 ·(intro w hQ;(try dsimp only at hQ);go_simp;try with_reducible rfl)
 try simp only [Act.put,List.setIfInBounds_toArray,List.set_cons_zero,List.set_cons_succ,List.getElem_toArray,List.getElem_cons_zero,List.getElem_cons_succ]
 refine wpAnyH_take (i:=6) (v:=?_) rfl (by kernel_rfl) (by kernel_rfl) (by kernel_rfl) (fun c a w h=>kt.o c a _ _ w h) (Or.inl ⟨by rfl,?_⟩) (by assumption) ?_;rotate_left 1
 ·(intro w hQ;(try dsimp only at hQ);go_simp;try with_reducible rfl)
 try simp only [Act.put,List.setIfInBounds_toArray,List.set_cons_zero,List.set_cons_succ,List.getElem_toArray,List.getElem_cons_zero,List.getElem_cons_succ]
 refine wpAnyH_done (by kernel_rfl) ?_ _;change wpList _ _ _ _ _ _
 go_wp2_with fail
 refine (HD.o w1.drew (js.o.drewN 1) Ku.o.drew).mono ?_;rintro e w2 ⟨rfl,Ky,kE⟩;have kC:=zh (Ky.base Ku.o.drew K4.o.2.2);have J0:=zh Ky;have KU:=zh kE;clear Ky kE y1 y2 y3 y4 y5 y6 y7 y8 y9
 cases r with
 | none =>
  have hO:Hd (fo c m (tab,l++[p])=.inr false):=zh kz.o;clear kz;go_wp2_with fail
  exact H3.o hO.o _ _ _ _ _ _ _ _ _ _ _ _ _ _ _ _ _ _ _ _ _ _ _ _ _ _ _ _ _ _ _ _ _ _ _ _ _ _ _ _ _ _ _ _ _ _ _ _ _ _ _ _ _ _ _ _ _ _ _ _ _ _ _ _ _ _ _ _ _ _ _ _ _ _ _ _ _ _ _ _ _ _ _ _ _ _ _ _ _ _ _ _ _ _ _ _ _ _ _ _ _ _ _ _ _ _ _ _ _ _ _ _ _ _ _ _ _ _ _ _ _ _ _ _ _ _ w2 kC.o
 | some s' =>
  obtain ⟨ss,caps,Kt⟩:=(KU.o s' rfl).len;by_cases hG:2100<s'.st.length
  ·have hO:Hd (fo c m (tab,l++[p])=.inr false):=zh (by rw [kz.o];simp [hG])
   have KO:(2100:Int)<(s'.st.length:Int):=Int.ofNat_lt.2 hG;clear kz hG;go_wp2_with fail
   exact H3.o hO.o _ _ _ _ _ _ _ _ _ _ _ _ _ _ _ _ _ _ _ _ _ _ _ _ _ _ _ _ _ _ _ _ _ _ _ _ _ _ _ _ _ _ _ _ _ _ _ _ _ _ _ _ _ _ _ _ _ _ _ _ _ _ _ _ _ _ _ _ _ _ _ _ _ _ _ _ _ _ _ _ _ _ _ _ _ _ _ _ _ _ _ _ _ _ _ _ _ _ _ _ _ _ _ _ _ _ _ _ _ _ _ _ _ _ _ _ _ _ _ _ _ _ _ _ _ _ w2 kC.o
  ·have KO:¬(2100:Int)<(s'.st.length:Int):=by omega
   have KN:s'.st.length≤2100:=by omega
   have hO:Hd (∀o,eJ n s' (cT p ⟨op,ia⟩) (tab,l)=o→fo c m (tab,l++[p])=match o with | none=>.inr false | some y=>if y.2=[] then .inr true else .inl y):=zh (fun o ho=>by
     rw [kz.o];simp only [if_neg hG,J1.o,ho])
   have J2:=zh KN;obtain ⟨_,_,_,_,_,_,z7⟩:=KI.o w2 kC.o;obtain ⟨b4',o4',kr,z8,z9⟩:=KD.o w2 p kC.o kv;rw [KG.o] at z8 z9;dsimp only at z8 z9;injection kr with kr
   injection kr with hbe1 hbe2
   subst hbe1;subst hbe2;clear kz hG KN;go_wp2_with fail
   refine (tB p op ia w2 jA.o).mono ?_;rintro e w3 ⟨vl,rfl,Hr,KB⟩;have Hs:=rY p ⟨op,ia⟩;have HF:=zh (tw HI.o jb.o J0.o KB (KU.o s' rfl) Hr);have KX:=zh (kC.o.trans (KB.mono (kC.o.size)));obtain ⟨vs,rfl,_⟩:=Hr;generalize cT p ⟨op,ia⟩=L at *;have J3:=zh Hs;clear Hs z7 z8 z9 KB Kt KO;go_upto_block 2 with fail
   refine yw (by kernel_rfl) B.heap.size ab n wr.heap.size s' _ L tab l ks HF.o K4.o.2.2 J2.o J3.o (fun x t t' d w h=>jt.o x t t' d w h) ?_ ?_
   ·intro u4 u6 Hp Ho Hn Hm Hl Hk Hj Hi Hh Hg Hf He Hc Hb Ha H9 H8 H7 H6 H5 H4 H0 hX hV hU hF hE hD hB hA hz hy hx hw hv hu ht hr hl hk hj hi hh hg hf he hb ha h9 h8 h7 h6 h4 h0 z u k j f Z Y X V U T R O N M K J I H G F E w4 tab' pile' ks' D hP A hN
    have KW:=zh (KX.o.trans hN);have Hq:=zh (hO.o _ D);have KH:=zh (rU L D (fun q hq=>HI.o.inn q (by simp [hq])));have KV:Hd (mu n (tab',pile')<mu n (tab,l++[p])):=zh (Nat.lt_of_le_of_lt (oM L D) (zW _ _ _ _));have HT:=zh hP;have HP:=zh A;obtain ⟨g',cap',KY,_⟩:=A.form;clear D hP A hN hO;subst KY;by_cases hR:pile'=[]
    ·subst hR
     have hT:Hd (fo c m (tab,l++[p])=.inr true):=zh Hq.o;clear Hq;go_wp2_with fail
     exact H2.o true hT.o _ _ _ _ _ _ _ _ _ _ _ _ _ _ _ _ _ _ _ _ _ _ _ _ _ _ _ _ _ _ _ _ _ _ _ _ _ _ _ _ _ _ _ _ _ _ _ _ _ _ _ _ _ _ _ _ _ _ _ _ _ _ _ _ _ _ _ _ _ _ _ _ _ _ _ _ _ _ _ _ _ _ _ _ _ _ _ _ _ _ _ _ _ _ _ _ _ _ _ _ _ _ _ _ _ _ _ _ _ _ _ _ _ _ _ _ _ _ _ _ _ _ _ _ _ w4 KW.o
    ·have hT:Hd (fo c m (tab,l++[p])=.inl (tab',pile')):=zh (by rw [Hq.o];simp [hR])
     have hd:=yL hR;have KE:=zh hR;clear Hq hR;go_wp2_with fail
     exact H1.o _ _ _ _ _ _ _ _ _ _ _ _ _ _ _ _ _ _ _ _ _ _ _ _ _ _ _ _ _ _ _ _ _ _ _ _ _ _ _ _ _ _ _ _ _ _ _ _ _ _ _ _ _ _ _ _ _ _ _ _ _ _ _ _ _ _ _ _ _ _ _ _ _ _ _ _ _ _ _ _ _ _ _ _ _ _ _ _ _ _ _ _ _ _ _ _ _ _ _ _ _ _ _ _ _ _ _ _ _ _ _ _ _ _ _ _ _ _ _ _ _ _ _ _ _ _ w4 tab' pile' ks' hT.o ⟨KW.o,HT.o,HP.o,KE.o,KH.o,Nat.le_trans (Nat.le_of_lt KV.o) HI.o.muLe⟩ KV.o
   ·intro D u6 Hp Ho Hn Hm Hl Hk Hj Hi Hh Hg Hf He Hc Hb Ha H9 H8 H7 H6 H5 H4 H0 hX hV hU hF hE hD hB hA hz hy hx hw hv hu ht hr hl hk hj hi hh hg hf he hb ha h9 h8 h7 h6 h4 h0 z u k j f Z Y X V U T R O N M K J I H G F E w4 hN
    have hT:Hd (fo c m (tab,l++[p])=.inr false):=zh (hO.o _ D);exact H2.o false hT.o _ _ _ _ _ _ _ _ _ _ _ _ _ _ _ _ _ _ _ _ _ _ _ _ _ _ _ _ _ _ _ _ _ _ _ _ _ _ _ _ _ _ _ _ _ _ _ _ _ _ _ _ _ _ _ _ _ _ _ _ _ _ _ _ _ _ _ _ _ _ _ _ _ _ _ _ _ _ _ _ _ _ _ _ _ _ _ _ _ _ _ _ _ _ _ _ _ _ _ _ _ _ _ _ _ _ _ _ _ _ _ _ _ _ _ _ _ _ _ _ _ _ _ _ _ w4 (KX.o.trans hN)
end Vf
end Go.Proofs.YtmlgbkomdhcaoaaGreatDoor
