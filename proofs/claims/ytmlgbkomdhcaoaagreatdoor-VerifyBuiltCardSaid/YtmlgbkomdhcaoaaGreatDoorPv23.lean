/-
  VerifyBuilt: part 23 of its proof: see the last text.
-/
import Derived.Test.YtmlgbkomdhcaoaaGreatDoorPv22
import Derived.Test.YtmlgbkomdhcaoaaGreatDoorPv01
set_option maxRecDepth 100000
set_option maxHeartbeats 16000000
namespace Go.Proofs.YtmlgbkomdhcaoaaGreatDoor
namespace Vf
open Go.RowKit
attribute [local go_sem ↓] Go.wp_at_zero Go.wp_at_succ
theorem gq (W:World) (x:Int) (t:TypeId) (n:Nat) (hn:W.heap.size=n):TysAt (W.alloc (.cells #[.int .i64 x] t)) (.slice (some ⟨n,0,none⟩) 1 1) [x]:=
 ⟨_,1,rfl,Nat.le_refl _,by omega,fun _=>⟨_,_,rfl,fun i hi=>by
   obtain rfl:i=0:=by simpa using hi
   exact aw _ _ _ _ _ _ hn rfl⟩⟩
theorem yH (W:World) (x y:Int) (t:TypeId) (n:Nat) (hn:W.heap.size=n):TysAt (W.alloc (.cells #[.int .i64 x,.int .i64 y] t)) (.slice (some ⟨n,0,none⟩) 2 2) [x,y]:=
 ⟨_,2,rfl,Nat.le_refl _,by omega,fun _=>⟨_,_,rfl,fun i hi=>by
   have A:i<2:=by simpa using hi
   rcases (show i=0∨i=1 by omega) with rfl | rfl
   · exact aw _ _ _ _ _ _ hn rfl
   · exact aw _ _ _ _ _ _ hn rfl⟩⟩
theorem dD {A:List Int} {s:Sta} (h:bN s.st A=true):dL A s=some ⟨di s.st A,s.sl⟩:=by simp [dL,di,h]
theorem dE {A:List Int} {s:Sta} (h:bN s.st A=false):dL A s=none:=by simp [dL,h]
theorem fS (st A:List Int):(di st A).length≤st.length:=by
 unfold di;split
 ·simp
 ·exact Nat.le_refl _
theorem up3 {w:World} (a b c:Obj):Below w.heap.size w (((w.alloc a).alloc b).alloc c):=ag (ag (ag (Below.refl _ _) _) _) _
theorem up4 {w:World} (a b c d:Obj):Below w.heap.size w ((((w.alloc a).alloc b).alloc c).alloc d):=ag (ag (ag (ag (Below.refl _ _) _) _) _) _
theorem wG {s:ByteArray} {l:List UInt8} (h:¬s=⟨l.toArray⟩):(s.toList==l)=false:=by
 refine Bool.eq_false_iff.2 fun e=>h ?_;have e:=eq_of_beq e;rw [ByteArray.toList_eq] at e;exact ByteArray.ext (by rw [←e])
theorem kh (w:World) (a b c:Obj):(((w.alloc a).alloc b).alloc c).heap.size=w.heap.size+1+1+1:=by rw [ah,ah,ah]
theorem mz (k:Nat) (s:Sta) (c:Cd) (m:Mdl) (a:Int) (v0 v1 v2 v3 v4 vm:Value) (w:World) (h:StAt w k s.st s.sl) (A:s.st.length≤900000)
    (hm:RepMdl w vm m) :
    Calls Tryz.prog 24 #[.pointer (some ⟨k,0,none⟩),.agg #[v0,v1,v2,v3,v4],vm,.agg #[.int .i64 9,.int .i64 a]] w (iI k w (aG c m ⟨9,a⟩ s)):=by
 obtain ⟨st,sl⟩:=s;dsimp only at h A ⊢;have HW:=zh h;have G:k<w.heap.size:=by obtain ⟨⟨_,q⟩,_⟩:=h;exact lt_of_block q
 obtain ⟨u0,u1,rfl,_,_⟩:=hm;have P1:=zh (fun (W:World) (st':List Int) (t:Int) (hs:StAt W k st' sl) (hl:st'.length≤900000) (ht:i64 t)=>fk k st' sl t W hs hl ht);have Q1:=zh (fun (W:World) (vw:Value) (want:List Int) (hW:Below w.heap.size w W) (hv:TysAt W vw want)=>fi k st want sl vw W (HW.o.below hW) hv);clear h
 have HR:Hd (∀x,bN st [3]=x→aG c m ⟨9,a⟩ ⟨st,sl⟩=if x then some ⟨di st [3]++[3],sl⟩ else none):=zh (fun x hx=>by
   subst hx;show (dL [3] ⟨st,sl⟩).map (eO 3)=_
   cases hp:bN st [3]
   · rw [dE hp];rfl
   · rw [dD hp];rfl)
 have HL:=zh (fS st [3]);generalize aG c m ⟨9,a⟩ ⟨st,sl⟩=r at *;go_enter Tryz.func24,Tryz.ntmps24
 go_wp2_with fail
 refine (Q1.o _ _ [3] (up4 _ _ _ _) (gq _ _ _ _ (kh _ _ _ _))).mono ?_;rintro e w1 ⟨rfl,D,E⟩;have hr:=HR.o _ rfl;generalize bN st [3]=q at *;generalize di st [3]=st' at *;subst hr;clear HR;have F:st'.length≤900000:=Nat.le_trans HL.o A
 cases q
 ·go_wp2_with fail
  go_ret
  exact ⟨rfl,(On.of_below (up4 _ _ _ _)).trans D,fun s e=>by cases e⟩
 ·go_wp2_with fail
  refine (P1.o _ _ 3 E F (by constructor<;>decide)).mono ?_;rintro e w2 ⟨rfl,B,C⟩;go_wp2_with fail
  go_ret
  exact ⟨rfl,((On.of_below (up4 _ _ _ _)).trans D).trans C,fun s e=>by injection e with e;subst e;exact B⟩
theorem mS (k:Nat) (s:Sta) (c:Cd) (m:Mdl) (a:Int) (v0 v1 v2 v3 v4 vm:Value) (w:World) (h:StAt w k s.st s.sl) (A:s.st.length≤900000)
    (hm:RepMdl w vm m) :
    Calls Tryz.prog 24 #[.pointer (some ⟨k,0,none⟩),.agg #[v0,v1,v2,v3,v4],vm,.agg #[.int .i64 10,.int .i64 a]] w (iI k w (aG c m ⟨10,a⟩ s)):=by
 obtain ⟨st,sl⟩:=s;dsimp only at h A ⊢;have HW:=zh h;have G:k<w.heap.size:=by obtain ⟨⟨_,q⟩,_⟩:=h;exact lt_of_block q
 obtain ⟨u0,u1,rfl,_,_⟩:=hm;have P1:=zh (fun (W:World) (st':List Int) (t:Int) (hs:StAt W k st' sl) (hl:st'.length≤900000) (ht:i64 t)=>fk k st' sl t W hs hl ht);have Q1:=zh (fun (W:World) (vw:Value) (want:List Int) (hW:Below w.heap.size w W) (hv:TysAt W vw want)=>fi k st want sl vw W (HW.o.below hW) hv);clear h
 have HR:Hd (∀x,bN st [3]=x→aG c m ⟨10,a⟩ ⟨st,sl⟩=if x then some ⟨di st [3]++[2],sl⟩ else none):=zh (fun x hx=>by
   subst hx;show (dL [3] ⟨st,sl⟩).map (eO 2)=_
   cases hp:bN st [3]
   · rw [dE hp];rfl
   · rw [dD hp];rfl)
 have HL:=zh (fS st [3]);generalize aG c m ⟨10,a⟩ ⟨st,sl⟩=r at *;go_enter Tryz.func24,Tryz.ntmps24
 go_wp2_with fail
 refine (Q1.o _ _ [3] (up4 _ _ _ _) (gq _ _ _ _ (kh _ _ _ _))).mono ?_;rintro e w1 ⟨rfl,D,E⟩;have hr:=HR.o _ rfl;generalize bN st [3]=q at *;generalize di st [3]=st' at *;subst hr;clear HR;have F:st'.length≤900000:=Nat.le_trans HL.o A
 cases q
 ·go_wp2_with fail
  go_ret
  exact ⟨rfl,(On.of_below (up4 _ _ _ _)).trans D,fun s e=>by cases e⟩
 ·go_wp2_with fail
  refine (P1.o _ _ 2 E F (by constructor<;>decide)).mono ?_;rintro e w2 ⟨rfl,B,C⟩;go_wp2_with fail
  go_ret
  exact ⟨rfl,((On.of_below (up4 _ _ _ _)).trans D).trans C,fun s e=>by injection e with e;subst e;exact B⟩
theorem mF (k:Nat) (s:Sta) (c:Cd) (m:Mdl) (a:Int) (v0 v1 v2 v3 v4 vm:Value) (w:World) (h:StAt w k s.st s.sl) (A:s.st.length≤900000)
    (hm:RepMdl w vm m) :
    Calls Tryz.prog 24 #[.pointer (some ⟨k,0,none⟩),.agg #[v0,v1,v2,v3,v4],vm,.agg #[.int .i64 11,.int .i64 a]] w (iI k w (aG c m ⟨11,a⟩ s)):=by
 obtain ⟨st,sl⟩:=s;dsimp only at h A ⊢;have HW:=zh h;have G:k<w.heap.size:=by obtain ⟨⟨_,q⟩,_⟩:=h;exact lt_of_block q
 obtain ⟨u0,u1,rfl,_,_⟩:=hm;have P1:=zh (fun (W:World) (st':List Int) (t:Int) (hs:StAt W k st' sl) (hl:st'.length≤900000) (ht:i64 t)=>fk k st' sl t W hs hl ht);have Q1:=zh (fun (W:World) (vw:Value) (want:List Int) (hW:Below w.heap.size w W) (hv:TysAt W vw want)=>fi k st want sl vw W (HW.o.below hW) hv);clear h
 have HR:Hd (∀x,bN st [3]=x→aG c m ⟨11,a⟩ ⟨st,sl⟩=if x then some ⟨di st [3]++[1],sl⟩ else none):=zh (fun x hx=>by
   subst hx;show (dL [3] ⟨st,sl⟩).map (eO 1)=_
   cases hp:bN st [3]
   · rw [dE hp];rfl
   · rw [dD hp];rfl)
 have HL:=zh (fS st [3]);generalize aG c m ⟨11,a⟩ ⟨st,sl⟩=r at *;go_enter Tryz.func24,Tryz.ntmps24
 go_wp2_with fail
 refine (Q1.o _ _ [3] (up4 _ _ _ _) (gq _ _ _ _ (kh _ _ _ _))).mono ?_;rintro e w1 ⟨rfl,D,E⟩;have hr:=HR.o _ rfl;generalize bN st [3]=q at *;generalize di st [3]=st' at *;subst hr;clear HR;have F:st'.length≤900000:=Nat.le_trans HL.o A
 cases q
 ·go_wp2_with fail
  go_ret
  exact ⟨rfl,(On.of_below (up4 _ _ _ _)).trans D,fun s e=>by cases e⟩
 ·go_wp2_with fail
  refine (P1.o _ _ 1 E F (by constructor<;>decide)).mono ?_;rintro e w2 ⟨rfl,B,C⟩;go_wp2_with fail
  go_ret
  exact ⟨rfl,((On.of_below (up4 _ _ _ _)).trans D).trans C,fun s e=>by injection e with e;subst e;exact B⟩
theorem mC (k:Nat) (s:Sta) (c:Cd) (m:Mdl) (a:Int) (v0 v1 v2 v3 v4 vm:Value) (w:World) (h:StAt w k s.st s.sl)
    (hm:RepMdl w vm m) :
    Calls Tryz.prog 24 #[.pointer (some ⟨k,0,none⟩),.agg #[v0,v1,v2,v3,v4],vm,.agg #[.int .i64 12,.int .i64 a]] w (iI k w (aG c m ⟨12,a⟩ s)):=by
 obtain ⟨st,sl⟩:=s;dsimp only at h ⊢;have HW:=zh h;have C:k<w.heap.size:=by obtain ⟨⟨_,q⟩,_⟩:=h;exact lt_of_block q
 obtain ⟨u0,u1,rfl,_,_⟩:=hm;have Q1:=zh (fun (W:World) (vw:Value) (want:List Int) (hW:Below w.heap.size w W) (hv:TysAt W vw want)=>fi k st want sl vw W (HW.o.below hW) hv);clear h
 have HR:Hd (∀x,bN st [3,3]=x→aG c m ⟨12,a⟩ ⟨st,sl⟩=if x then some ⟨di st [3,3],sl⟩ else none):=zh (fun x hx=>by
   subst hx;show dL [3,3] ⟨st,sl⟩=_
   cases hp:bN st [3,3]
   · rw [dE hp];rfl
   · rw [dD hp];rfl)
 generalize aG c m ⟨12,a⟩ ⟨st,sl⟩=r at *;go_enter Tryz.func24,Tryz.ntmps24
 go_wp2_with fail
 refine (Q1.o _ _ [3,3] (up4 _ _ _ _) (yH _ _ _ _ _ (kh _ _ _ _))).mono ?_;rintro e w1 ⟨rfl,A,B⟩;have hr:=HR.o _ rfl;generalize bN st [3,3]=q at *;generalize di st [3,3]=st' at *;subst hr;clear HR
 cases q
 ·go_wp2_with fail
  go_ret
  exact ⟨rfl,(On.of_below (up4 _ _ _ _)).trans A,fun s e=>by cases e⟩
 ·go_wp2_with fail
  go_ret
  exact ⟨rfl,(On.of_below (up4 _ _ _ _)).trans A,fun s e=>by injection e with e;subst e;exact B⟩
theorem mT (k:Nat) (s:Sta) (c:Cd) (m:Mdl) (a:Int) (v0 v1 v2 v3 v4 vm:Value) (w:World) (h:StAt w k s.st s.sl)
    (hm:RepMdl w vm m) :
    Calls Tryz.prog 24 #[.pointer (some ⟨k,0,none⟩),.agg #[v0,v1,v2,v3,v4],vm,.agg #[.int .i64 13,.int .i64 a]] w (iI k w (aG c m ⟨13,a⟩ s)):=by
 obtain ⟨st,sl⟩:=s;dsimp only at h ⊢;have HW:=zh h;have C:k<w.heap.size:=by obtain ⟨⟨_,q⟩,_⟩:=h;exact lt_of_block q
 obtain ⟨u0,u1,rfl,_,_⟩:=hm;have Q1:=zh (fun (W:World) (vw:Value) (want:List Int) (hW:Below w.heap.size w W) (hv:TysAt W vw want)=>fi k st want sl vw W (HW.o.below hW) hv);clear h
 have HR:Hd (∀x,bN st [3]=x→aG c m ⟨13,a⟩ ⟨st,sl⟩=if x then some ⟨di st [3],sl⟩ else none):=zh (fun x hx=>by
   subst hx;show dL [3] ⟨st,sl⟩=_
   cases hp:bN st [3]
   · rw [dE hp];rfl
   · rw [dD hp];rfl)
 generalize aG c m ⟨13,a⟩ ⟨st,sl⟩=r at *;go_enter Tryz.func24,Tryz.ntmps24
 go_wp2_with fail
 refine (Q1.o _ _ [3] (up4 _ _ _ _) (gq _ _ _ _ (kh _ _ _ _))).mono ?_;rintro e w1 ⟨rfl,A,B⟩;have hr:=HR.o _ rfl;generalize bN st [3]=q at *;generalize di st [3]=st' at *;subst hr;clear HR
 cases q
 ·go_wp2_with fail
  go_ret
  exact ⟨rfl,(On.of_below (up4 _ _ _ _)).trans A,fun s e=>by cases e⟩
 ·go_wp2_with fail
  go_ret
  exact ⟨rfl,(On.of_below (up4 _ _ _ _)).trans A,fun s e=>by injection e with e;subst e;exact B⟩
theorem ei (k:Nat) (s:Sta) (c:Cd) (m:Mdl) (a:Int) (v0 v1 v2 v3 v4 vm:Value) (w:World) (h:StAt w k s.st s.sl)
    (hm:RepMdl w vm m) :
    Calls Tryz.prog 24 #[.pointer (some ⟨k,0,none⟩),.agg #[v0,v1,v2,v3,v4],vm,.agg #[.int .i64 16,.int .i64 a]] w (iI k w (aG c m ⟨16,a⟩ s)):=by
 obtain ⟨st,sl⟩:=s;dsimp only at h ⊢;have HW:=zh h;have C:k<w.heap.size:=by obtain ⟨⟨_,q⟩,_⟩:=h;exact lt_of_block q
 obtain ⟨u0,u1,rfl,_,_⟩:=hm;have Q1:=zh (fun (W:World) (vw:Value) (want:List Int) (hW:Below w.heap.size w W) (hv:TysAt W vw want)=>fi k st want sl vw W (HW.o.below hW) hv);clear h
 have HR:Hd (∀x,bN st [2]=x→aG c m ⟨16,a⟩ ⟨st,sl⟩=if x then some ⟨di st [2],sl⟩ else none):=zh (fun x hx=>by
   subst hx;show dL [2] ⟨st,sl⟩=_
   cases hp:bN st [2]
   · rw [dE hp];rfl
   · rw [dD hp];rfl)
 generalize aG c m ⟨16,a⟩ ⟨st,sl⟩=r at *;go_enter Tryz.func24,Tryz.ntmps24
 go_wp2_with fail
 refine (Q1.o _ _ [2] (up4 _ _ _ _) (gq _ _ _ _ (kh _ _ _ _))).mono ?_;rintro e w1 ⟨rfl,A,B⟩;have hr:=HR.o _ rfl;generalize bN st [2]=q at *;generalize di st [2]=st' at *;subst hr;clear HR
 cases q
 ·go_wp2_with fail
  go_ret
  exact ⟨rfl,(On.of_below (up4 _ _ _ _)).trans A,fun s e=>by cases e⟩
 ·go_wp2_with fail
  go_ret
  exact ⟨rfl,(On.of_below (up4 _ _ _ _)).trans A,fun s e=>by injection e with e;subst e;exact B⟩
theorem xu (k:Nat) (s:Sta) (c:Cd) (m:Mdl) (a:Int) (v0 v1 v2 v3 v4 vm:Value) (w:World) (h:StAt w k s.st s.sl)
    (hm:RepMdl w vm m) :
    Calls Tryz.prog 24 #[.pointer (some ⟨k,0,none⟩),.agg #[v0,v1,v2,v3,v4],vm,.agg #[.int .i64 1,.int .i64 a]] w (iI k w (aG c m ⟨1,a⟩ s)):=by
 obtain ⟨st,sl⟩:=s;dsimp only at h ⊢;have HW:=zh h;obtain ⟨u0,u1,rfl,_,_⟩:=hm;clear h;have HR:Hd (∀x,inB a 100001=x→aG c m ⟨1,a⟩ ⟨st,sl⟩=if x then some ⟨st,sl⟩ else none):=zh (fun x hx=>by subst hx;rfl);generalize aG c m ⟨1,a⟩ ⟨st,sl⟩=r at *;go_enter Tryz.func24,Tryz.ntmps24
 go_wp2_with fail
 refine (iA _ _ _).mono ?_;rintro e w2 ⟨rfl,rfl⟩;have hr:=HR.o _ rfl;generalize inB a 100001=q at *;subst hr;clear HR
 cases q
 ·go_wp2_with fail
  go_ret
  exact ⟨rfl,On.of_below (up3 _ _ _),fun s e=>by cases e⟩
 ·go_wp2_with fail
  go_ret
  exact ⟨rfl,On.of_below (up3 _ _ _),fun s e=>by injection e with e;subst e;exact HW.o.below (up3 _ _ _)⟩
theorem rW (k:Nat) (s:Sta) (c:Cd) (m:Mdl) (op a:Int) (v0 v1 v2 v3 v4 vm:Value) (w:World) (h:StAt w k s.st s.sl) (A:s.st.length≤900000)
    (hc:RepCd w v0 v1 v2 v3 v4 c) (hm:RepMdl w vm m) (B:c.slots≤256) (C:op=2∨op=3∨op=4∨op=5∨op=6∨op=17) :
    Calls Tryz.prog 24 #[.pointer (some ⟨k,0,none⟩),.agg #[v0,v1,v2,v3,v4],vm,.agg #[.int .i64 op,.int .i64 a]] w (iI k w (aG c m ⟨op,a⟩ s)):=by
 have hr:aG c m ⟨op,a⟩ s=dH c.slots m.texts.length ⟨op,a⟩ s:=by
  unfold aG;dsimp only;rw [if_neg (by omega),if_pos C]
 have M1:=zh (fun (W:World) (hW:Below w.heap.size w W)=>vI k s c m ⟨op,a⟩ v0 v1 v2 v3 v4 vm W (h.below hW) A (hc.later hW) (hm.later hW) B);dsimp only at M1;rw [hr];obtain ⟨u0,u1,rfl,_,_⟩:=hm;clear h A hc B hr;generalize dH c.slots m.texts.length ⟨op,a⟩ s=r at *;rcases C with rfl | rfl | rfl | rfl | rfl | rfl
 all_goals
  go_enter Tryz.func24,Tryz.ntmps24
  go_wp2_with fail
  refine (M1.o _ (up3 _ _ _)).mono ?_;rintro e w1 ⟨rfl,E,D⟩;go_wp2_with fail
  go_ret
  exact ⟨rfl,(On.of_below (up3 _ _ _)).trans E,D⟩
theorem pA (k:Nat) (s:Sta) (c:Cd) (m:Mdl) (a:Int) (v0 v1 v2 v3 v4 vm:Value) (w:World) (h:StAt w k s.st s.sl) (A:s.st.length≤900000)
    (hm:RepMdl w vm m) (E:Signs w) (C:du a=⟨#[45]⟩) :
    Calls Tryz.prog 24 #[.pointer (some ⟨k,0,none⟩),.agg #[v0,v1,v2,v3,v4],vm,.agg #[.int .i64 8,.int .i64 a]] w (iI k w (aG c m ⟨8,a⟩ s)):=by
 obtain ⟨st,sl⟩:=s;dsimp only at h A ⊢;have HW:=zh h;have I:k<w.heap.size:=by obtain ⟨⟨_,q⟩,_⟩:=h;exact lt_of_block q
 obtain ⟨u0,u1,rfl,_,_⟩:=hm;have P1:=zh (fun (W:World) (st':List Int) (t:Int) (hs:StAt W k st' sl) (hl:st'.length≤900000) (ht:i64 t)=>fk k st' sl t W hs hl ht);have Q1:=zh (fun (W:World) (vw:Value) (want:List Int) (hW:Below w.heap.size w W) (hv:TysAt W vw want)=>fi k st want sl vw W (HW.o.below hW) hv);clear h
 have HR:Hd (∀x,bN st [1]=x→aG c m ⟨8,a⟩ ⟨st,sl⟩=if x then some ⟨di st [1]++[1],sl⟩ else none):=zh (fun x hx=>by
   subst hx
   have he:aG c m ⟨8,a⟩ ⟨st,sl⟩=(dL [1] ⟨st,sl⟩).map (eO 1):=by
     show lM a ⟨st,sl⟩=_
     simp [lM,C]
   rw [he]
   cases hp:bN st [1]
   · rw [dE hp];rfl
   · rw [dD hp];rfl)
 have HL:=zh (fS st [1]);have S1:=zh (fun (W:World) (hW:Below w.heap.size w W)=>gU a W (E.below hW));rw [C] at S1;clear C E;generalize aG c m ⟨8,a⟩ ⟨st,sl⟩=r at *;go_enter Tryz.func24,Tryz.ntmps24
 go_wp2_with fail
 refine (S1.o _ (up3 _ _ _)).mono ?_;rintro e w0 ⟨rfl,rfl⟩;go_wp2_with fail
 refine (Q1.o _ _ [1] (up4 _ _ _ _) (gq _ _ _ _ (kh _ _ _ _))).mono ?_;rintro e w1 ⟨rfl,F,G⟩;have hr:=HR.o _ rfl;generalize bN st [1]=q at *;generalize di st [1]=st' at *;subst hr;clear HR;have H:st'.length≤900000:=Nat.le_trans HL.o A
 cases q
 ·go_wp2_with fail
  go_ret
  exact ⟨rfl,(On.of_below (up4 _ _ _ _)).trans F,fun s e=>by cases e⟩
 ·go_wp2_with fail
  refine (P1.o _ _ 1 G H (by constructor<;>decide)).mono ?_;rintro e w2 ⟨rfl,B,D⟩;go_wp2_with fail
  go_ret
  exact ⟨rfl,((On.of_below (up4 _ _ _ _)).trans F).trans D,fun s e=>by injection e with e;subst e;exact B⟩
theorem pM (k:Nat) (s:Sta) (c:Cd) (m:Mdl) (a:Int) (v0 v1 v2 v3 v4 vm:Value) (w:World) (h:StAt w k s.st s.sl) (A:s.st.length≤900000)
    (hm:RepMdl w vm m) (E:Signs w) (C:du a=⟨#[33]⟩) :
    Calls Tryz.prog 24 #[.pointer (some ⟨k,0,none⟩),.agg #[v0,v1,v2,v3,v4],vm,.agg #[.int .i64 8,.int .i64 a]] w (iI k w (aG c m ⟨8,a⟩ s)):=by
 obtain ⟨st,sl⟩:=s;dsimp only at h A ⊢;have HW:=zh h;have I:k<w.heap.size:=by obtain ⟨⟨_,q⟩,_⟩:=h;exact lt_of_block q
 obtain ⟨u0,u1,rfl,_,_⟩:=hm;have P1:=zh (fun (W:World) (st':List Int) (t:Int) (hs:StAt W k st' sl) (hl:st'.length≤900000) (ht:i64 t)=>fk k st' sl t W hs hl ht);have Q1:=zh (fun (W:World) (vw:Value) (want:List Int) (hW:Below w.heap.size w W) (hv:TysAt W vw want)=>fi k st want sl vw W (HW.o.below hW) hv);clear h
 have HR:Hd (∀x,bN st [2]=x→aG c m ⟨8,a⟩ ⟨st,sl⟩=if x then some ⟨di st [2]++[2],sl⟩ else none):=zh (fun x hx=>by
   subst hx
   have he:aG c m ⟨8,a⟩ ⟨st,sl⟩=(dL [2] ⟨st,sl⟩).map (eO 2):=by
     show lM a ⟨st,sl⟩=_
     simp [lM,C]
   rw [he]
   cases hp:bN st [2]
   · rw [dE hp];rfl
   · rw [dD hp];rfl)
 have HL:=zh (fS st [2]);have S1:=zh (fun (W:World) (hW:Below w.heap.size w W)=>gU a W (E.below hW));rw [C] at S1;clear C E;generalize aG c m ⟨8,a⟩ ⟨st,sl⟩=r at *;go_enter Tryz.func24,Tryz.ntmps24
 go_wp2_with fail
 refine (S1.o _ (up3 _ _ _)).mono ?_;rintro e w0 ⟨rfl,rfl⟩;go_wp2_with fail
 refine (Q1.o _ _ [2] (up4 _ _ _ _) (gq _ _ _ _ (kh _ _ _ _))).mono ?_;rintro e w1 ⟨rfl,F,G⟩;have hr:=HR.o _ rfl;generalize bN st [2]=q at *;generalize di st [2]=st' at *;subst hr;clear HR;have H:st'.length≤900000:=Nat.le_trans HL.o A
 cases q
 ·go_wp2_with fail
  go_ret
  exact ⟨rfl,(On.of_below (up4 _ _ _ _)).trans F,fun s e=>by cases e⟩
 ·go_wp2_with fail
  refine (P1.o _ _ 2 G H (by constructor<;>decide)).mono ?_;rintro e w2 ⟨rfl,B,D⟩;go_wp2_with fail
  go_ret
  exact ⟨rfl,((On.of_below (up4 _ _ _ _)).trans F).trans D,fun s e=>by injection e with e;subst e;exact B⟩
theorem rE (k:Nat) (s:Sta) (c:Cd) (m:Mdl) (a:Int) (v0 v1 v2 v3 v4 vm:Value) (w:World)
    (hm:RepMdl w vm m) (A:Signs w) (h1:¬du a=⟨#[45]⟩) (h2:¬du a=⟨#[33]⟩) :
    Calls Tryz.prog 24 #[.pointer (some ⟨k,0,none⟩),.agg #[v0,v1,v2,v3,v4],vm,.agg #[.int .i64 8,.int .i64 a]] w (iI k w (aG c m ⟨8,a⟩ s)):=by
 have hr:aG c m ⟨8,a⟩ s=none:=by
  show lM a s=none
  simp [lM,h1,h2]
 rw [hr];obtain ⟨u0,u1,rfl,_,_⟩:=hm;have S1:=zh (fun (W:World) (hW:Below w.heap.size w W)=>gU a W (A.below hW));have g1:((du a).toList==[45])=false:=wG h1;have g2:((du a).toList==[33])=false:=wG h2;clear A hr h1 h2;generalize du a=sg at *;go_enter Tryz.func24,Tryz.ntmps24
 go_wp2_with fail
 refine (S1.o _ (up3 _ _ _)).mono ?_;rintro e w0 ⟨rfl,rfl⟩;go_wp2_with fail
 go_ret
 exact ⟨rfl,On.of_below (up3 _ _ _),fun s e=>by cases e⟩
theorem sK (k:Nat) (s:Sta) (c:Cd) (m:Mdl) (op a:Int) (v0 v1 v2 v3 v4 vm:Value) (w:World) (h:StAt w k s.st s.sl)
    (hm:RepMdl w vm m) (A:op<1∨18<op∨op=15) :
    Calls Tryz.prog 24 #[.pointer (some ⟨k,0,none⟩),.agg #[v0,v1,v2,v3,v4],vm,.agg #[.int .i64 op,.int .i64 a]] w (iI k w (aG c m ⟨op,a⟩ s)):=by
 have hr:aG c m ⟨op,a⟩ s=some s:=by
  unfold aG;dsimp only;rw [if_neg (by omega),if_neg (by omega),if_neg (by omega),if_neg (by omega),if_neg (by omega),if_neg (by omega),if_neg (by omega),if_neg (by omega),if_neg (by omega),if_neg (by omega),if_neg (by omega),if_neg (by omega)]
 rw [hr];obtain ⟨u0,u1,rfl,_,_⟩:=hm;have HW:=zh h;clear hr h;go_enter Tryz.func24,Tryz.ntmps24
 rcases A with A | A | rfl
 all_goals
  go_wp2_with fail
  go_ret
  exact ⟨rfl,On.of_below (up3 _ _ _),fun s e=>by injection e with e;subst e;exact HW.o.below (up3 _ _ _)⟩
end Vf
namespace Vf
open Go.RowKit
attribute [local go_sem ↓] Go.wp_at_zero Go.wp_at_succ
theorem On.base {k:Nat} {B w w':World} (h:On k w w') (hB:Below B.heap.size B w) (hk:B.heap.size≤k):Below B.heap.size B w':=
 ⟨h.os.trans hB.os,h.tape.trans hB.tape,h.output.trans hB.output,Nat.le_trans hB.size h.size,fun b hb=>(h.block b (Nat.lt_of_lt_of_le hb hB.size) (fun e=>by injection e with e;omega)).trans (hB.block b hb)⟩
theorem yh {st:List Int} (h:2≤st.length):st.drop (st.length-2)=[st.getD (st.length-2) 0,st.getD (st.length-1) 0]:=by
 have e1:st.length-2+1=st.length-1:=by omega
 have e2:st.length-1+1=st.length:=by omega
 rw [List.drop_eq_getElem_cons (by omega),e1,List.drop_eq_getElem_cons (by omega),e2,List.drop_length,List.getD_eq_getElem?_getD,List.getD_eq_getElem?_getD,List.getElem?_eq_getElem (by omega),List.getElem?_eq_getElem (by omega)];rfl
theorem yN {w:World} {v:Value} {x y:Int} (h:StkAt w v [x,y]):∃b off cp,v=.slice (some ⟨b,off,none⟩) 2 cp∧w.cell? ⟨b,off,none⟩=some (.int .i64 x)∧w.cell? ⟨b,off+1,none⟩=some (.int .i64 y):=by
 obtain ⟨s0,cp,rfl,_,_,_,h5,_⟩:=h;obtain ⟨b,off,_,_,rfl,_,q3⟩:=h5 (by simp);exact ⟨b,off,cp,rfl,q3 0 (by simp),q3 1 (by simp)⟩
theorem wk (l:List UInt8) (x y:Int):i64 (jT l x y):=by
 unfold jT i64;repeat (first | split | omega)
theorem jm (k:Nat) (s:Sta) (c:Cd) (m:Mdl) (a:Int) (v0 v1 v2 v3 v4 vm:Value) (B w:World) (h:StAt w k s.st s.sl) (H:s.st.length≤900000)
    (hm:RepMdl w vm m) (I:Signs B) (hB:Below B.heap.size B w) (L:B.heap.size≤k) :
    Calls Tryz.prog 24 #[.pointer (some ⟨k,0,none⟩),.agg #[v0,v1,v2,v3,v4],vm,.agg #[.int .i64 7,.int .i64 a]] w (iI k w (aG c m ⟨7,a⟩ s)):=by
 obtain ⟨st,sl⟩:=s;dsimp only at h H ⊢;have HW:=zh h;have N:k<w.heap.size:=by obtain ⟨⟨_,q⟩,_⟩:=h;exact lt_of_block q
 obtain ⟨u0,u1,rfl,_,_⟩:=hm;have M:w.heap.size+1+1≠k:=by omega
 have P1:=zh (fun (W:World) (st':List Int) (t:Int) (hs:StAt W k st' sl) (hl:st'.length≤900000) (ht:i64 t)=>fk k st' sl t W hs hl ht);have T1:=zh (fun (W:World) (hW:Below w.heap.size w W)=>oV k st sl 2 W (HW.o.below hW) (by omega));have HR:Hd (aG c m ⟨7,a⟩ ⟨st,sl⟩=sy a ⟨st,sl⟩):=zh rfl;have HS:=zh (fun (W:World) (hW:Below B.heap.size B W)=>I.below hW);have HB:=zh (hB.trans ((up3 (w:=w) (.cells #[v0,v1,v2,v3,v4] 40) (.cells #[u0,u1] 27) (.cells #[.int .i64 7,.int .i64 a] 35)).mono hB.size));clear h I hB;generalize aG c m ⟨7,a⟩ ⟨st,sl⟩=r at *;go_enter Tryz.func24,Tryz.ntmps24
 go_wp2_with fail
 refine (T1.o _ (up3 _ _ _)).mono ?_;rintro e w1 ⟨C,D⟩;have q1:w1.cell? ⟨w.heap.size+1+1,1,none⟩=some (.int .i64 a):=wQ C M 1 _ rfl;by_cases h2:2≤st.length
 ·rw [if_pos h2] at D
  obtain ⟨v,rfl,hv,F⟩:=D;rw [yh h2] at hv;have hr:=HR.o;unfold sy at hr;dsimp only at hr;rw [if_pos h2] at hr;generalize st.getD (st.length-2) 0=x at *;generalize st.getD (st.length-1) 0=y at *;have S1:=zh (fun (W:World) (hW:Below B.heap.size B W)=>gU a W (HS.o W hW));have M1:=zh (fun (W:World)=>wK (du a) x y W);have J:=wk (du a).toList x y;generalize jT (du a).toList x y=t at *;generalize du a=sg at *;obtain ⟨b,off,cp,rfl,qx,qy⟩:=yN hv;have HT:=zh F;have A:=zh (C.base HB.o L);have K:(st.take (st.length-2)).length≤900000:=by simp;omega
  clear hv F HR HB HS;generalize st.take (st.length-2)=st' at *;have HO:=zh C;clear C;by_cases ht:t=0
  ·subst ht
   rw [if_pos rfl] at hr;subst hr;go_wp2_with fail
   go_big_quiet (first | (go_at_call 46;exact Calls.quiet_of_same ((S1.o _ (by first | exact cQ A.o _ | exact aB A.o | exact A.o | exact aB (cQ A.o _))).mono fun _ _ h=>h)) | (go_at_call 45;exact Calls.quiet_of_same ((M1.o _).mono fun _ _ h=>h)))
   go_wp2_with fail
   go_ret
   exact ⟨rfl,((On.of_below (up3 _ _ _)).trans HO.o).drewN _,fun s e=>by cases e⟩
  ·rw [if_neg ht] at hr
   subst hr;have hd:(t !=0)=true:=by simp [ht]
   go_wp2_with fail
   go_big_quiet (first | (go_at_call 46;exact Calls.quiet_of_same ((S1.o _ (by first | exact cQ A.o _ | exact aB A.o | exact A.o | exact aB (cQ A.o _))).mono fun _ _ h=>h)) | (go_at_call 45;exact Calls.quiet_of_same ((M1.o _).mono fun _ _ h=>h)))
   go_wp2_with fail
   refine (P1.o _ _ t (HT.o.drewN _) K J).mono ?_;rintro e w2 ⟨rfl,E,G⟩;go_wp2_with fail
   go_ret
   exact ⟨rfl,(((On.of_below (up3 _ _ _)).trans HO.o).drewN _).trans G,fun s e=>by injection e with e;subst e;exact E⟩
 ·rw [if_neg h2] at D
  obtain ⟨rfl,F⟩:=D;have hr:=HR.o;unfold sy at hr;dsimp only at hr;rw [if_neg h2] at hr;subst hr;clear HR;go_wp2_with fail
  go_ret
  exact ⟨rfl,(On.of_below (up3 _ _ _)).trans C,fun s e=>by cases e⟩
end Vf
namespace Vf
open Go.RowKit
attribute [local go_sem ↓] Go.wp_at_zero Go.wp_at_succ
theorem kJ (k:Nat) (s:Sta) (c:Cd) (m:Mdl) (a:Int) (v0 v1 v2 v3 v4 vm:Value) (B w:World) (h:StAt w k s.st s.sl) (E:s.st.length≤900000)
    (hm:RepMdl B vm m) (hB:Below B.heap.size B w) (R:B.heap.size≤k) :
    Calls Tryz.prog 24 #[.pointer (some ⟨k,0,none⟩),.agg #[v0,v1,v2,v3,v4],vm,.agg #[.int .i64 14,.int .i64 a]] w (iI k w (aG c m ⟨14,a⟩ s)):=by
 obtain ⟨st,sl⟩:=s;dsimp only at h E ⊢;have HW:=zh h;have j:k<w.heap.size:=by obtain ⟨⟨_,q⟩,_⟩:=h;exact lt_of_block q
 obtain ⟨u0,u1,rfl,U,_⟩:=hm;obtain ⟨s0,cap,c0,c1,c2,c3,c4,rfl,X,V,_,_,A,N⟩:=U;have T:w.heap.size+1≠k:=by omega
 have S:w.heap.size+1+1≠k:=by omega
 have HR:Hd (aG c m ⟨14,a⟩ ⟨st,sl⟩=nJ m a ⟨st,sl⟩):=zh rfl;have HD:=zh N;have HX:=zh A;have HB:=zh hB;have L:=zh (hB.trans ((up3 (w:=w) (.cells #[v0,v1,v2,v3,v4] 40) (.cells #[.slice s0 m.codes.length cap,u1] 27) (.cells #[.int .i64 14,.int .i64 a] 35)).mono hB.size));clear h N A hB;generalize aG c m ⟨14,a⟩ ⟨st,sl⟩=r at *
 cases hq:inB a m.codes.length
 ·replace hr:r=none:=by rw [HR.o,nJ,hq];rfl
  have HI:=zh (fun W=>(show Calls Tryz.prog 26 #[.int .i64 a,.int .i64 m.codes.length] W fun e w'=>e=.returned (.bool false)∧w'=W from by rw [←hq];exact iA a m.codes.length W));subst hr;clear HR hq HD HX HB L;generalize m.codes.length=ncd at *;go_enter Tryz.func24,Tryz.ntmps24
  go_wp2_with fail
  refine (HI.o _).mono ?_;rintro e w0 ⟨rfl,rfl⟩;go_wp2_with fail
  go_ret
  exact ⟨rfl,On.of_below (up3 _ _ _),fun s e=>by cases e⟩
 ·have O:0≤a∧a<m.codes.length:=by simpa [inB] using hq
  obtain ⟨n,rfl⟩:=Int.eq_ofNat_of_zero_le O.1;have hn:n<m.codes.length:=by omega
  have HI:=zh (fun W=>(show Calls Tryz.prog 26 #[.int .i64 (n:Int),.int .i64 m.codes.length] W fun e w'=>e=.returned (.bool true)∧w'=W from by rw [←hq];exact iA _ m.codes.length W));have hr:=HR.o;unfold nJ at hr;rw [if_pos hq,Int.toNat_natCast] at hr;have hd:=HD.o n hn;generalize m.codes.getD n default=d at *;obtain ⟨b,off,rfl,F,hx⟩:=HX.o (by omega);obtain ⟨x0,x1,x2,x3,x4⟩:=hx n hn;have Q1:=zh (fun (W:World) (hW:Below w.heap.size w W)=>fi k st d.params sl (c1 n) W (HW.o.below hW) (hd.params.later (HB.o.trans (hW.mono HB.o.size))).tys);have P1:=zh (fun (W:World) (st':List Int) (t:Int) (hs:StAt W k st' sl) (hl:st'.length≤900000) (ht:i64 t)=>fk k st' sl t W hs hl ht);have C:=hd.result;rw [C] at x2;have H:=hd.r1;have HL:=zh (fS st d.params);have Z:=zh (fun (e:bN st d.params=true)=>dD (s:=⟨st,sl⟩) e);have Y:=zh (fun (e:bN st d.params=false)=>dE (s:=⟨st,sl⟩) e);generalize d.params=ps at *;generalize d.result=t at *;have G:=zh hr;clear HR hq HD HX hx hd C x0 x3 x4 hr;generalize m.codes.length=ncd at *;have g:(n:Int)<(ncd:Int):=by omega
  have i:(0:Int)≤(n:Int):=by omega
  have y1:((((w.alloc (.cells #[v0,v1,v2,v3,v4] 40)).alloc (.cells #[.slice (some ⟨b,off,none⟩) ncd cap,u1] 27)).alloc (.cells #[.int .i64 14,.int .i64 (n:Int)] 35)).cell? ⟨b,off+n * 5+1,none⟩=some (c1 n)):=(aM L.o _ _ F).trans x1;go_enter Tryz.func24,Tryz.ntmps24
  go_wp2_with fail
  refine (HI.o _).mono ?_;rintro e w0 ⟨rfl,rfl⟩;go_wp2_with fail
  refine (Q1.o _ (up3 _ _ _)).mono ?_;rintro e w1 ⟨rfl,D,M⟩;have f:=zh (D.base L.o R);have z2:=(aM f.o _ _ F).trans x2;have p1:w1.cell? ⟨w.heap.size+1,0,none⟩=some (.slice (some ⟨b,off,none⟩) ncd cap):=BE D T 0 _ rfl;have p2:w1.cell? ⟨w.heap.size+1+1,1,none⟩=some (.int .i64 (n:Int)):=wQ D S 1 _ rfl;have K:=zh D;have P:=zh M;have p:=zh F;clear x1 x2 y1 D M O F
  cases hpo:bN st ps
  ·have hr:=G.o
   rw [Y.o hpo] at hr;replace hr:r=none:=hr;subst hr;clear G hpo;go_wp2_with fail
   go_ret
   exact ⟨rfl,(On.of_below (up3 _ _ _)).trans K.o,fun s e=>by cases e⟩
  ·have hr:=G.o
   rw [Z.o hpo] at hr;replace hr:r=some (if t=0 then ⟨di st ps,sl⟩ else eO t ⟨di st ps,sl⟩):=hr;clear G hpo;have Q:(di st ps).length≤900000:=Nat.le_trans HL.o E;generalize di st ps=st' at *;by_cases ht:t=0
   ·replace hr:r=some ⟨st',sl⟩:=by rw [hr];simp [ht]
    subst hr;subst ht;go_wp2_with fail
    go_ret
    exact ⟨rfl,(On.of_below (up3 _ _ _)).trans K.o,fun s e=>by injection e with e;subst e;exact P.o⟩
   ·replace hr:r=some ⟨st'++[t],sl⟩:=by rw [hr];simp [ht,eO]
    subst hr;have l:(t==0)=false:=by simp [ht]
    go_wp2_with fail
    refine (P1.o _ _ t P.o Q H).mono ?_;rintro e w2 ⟨rfl,I,J⟩;go_wp2_with fail
    go_ret
    exact ⟨rfl,((On.of_below (up3 _ _ _)).trans K.o).trans J,fun s e=>by injection e with e;subst e;exact I⟩
theorem StAt.len {w:World} {k:Nat} {st:List Int} {sl:Nat→Int} (h:StAt w k st sl):∃s0 cap,w.cell? ⟨k,0,none⟩=some (.slice s0 st.length cap):=by
 obtain ⟨sv,hc,s0,cap,rfl,h2,h3,_⟩:=h.top;exact ⟨s0,cap,hc⟩
theorem mV (k:Nat) (s:Sta) (c:Cd) (m:Mdl) (a:Int) (v0 v1 v2 v3 v4 vm:Value) (w:World) (h:StAt w k s.st s.sl)
    (hc:RepCd w v0 v1 v2 v3 v4 c) (hm:RepMdl w vm m) :
    Calls Tryz.prog 24 #[.pointer (some ⟨k,0,none⟩),.agg #[v0,v1,v2,v3,v4],vm,.agg #[.int .i64 18,.int .i64 a]] w (iI k w (aG c m ⟨18,a⟩ s)):=by
 obtain ⟨st,sl⟩:=s;dsimp only at h ⊢;have HW:=zh h;have G:k<w.heap.size:=by obtain ⟨⟨_,q⟩,_⟩:=h;exact lt_of_block q
 obtain ⟨u0,u1,rfl,_,_⟩:=hm;obtain ⟨n1,n2,n3,rfl,n4,n5,n6,n7⟩:=hc;clear n1 n2 n3 n4 n5 n6 n7;have hr:aG c m ⟨18,a⟩ ⟨st,sl⟩=qD c ⟨st,sl⟩:=rfl;unfold qD at hr;have Q1:=zh (fun (W:World) (vw:Value) (want:List Int) (hW:Below w.heap.size w W) (hv:TysAt W vw want)=>fi k st want sl vw W (HW.o.below hW) hv);generalize aG c m ⟨18,a⟩ ⟨st,sl⟩=r at *;generalize c.result=t at *;clear h;by_cases ht:t=0
 ·subst ht
  obtain ⟨s0,cap,D⟩:=HW.o.len;have b2:(((w.alloc (.cells #[v0,v1,.int .i64 0,v3,v4] 40)).alloc (.cells #[u0,u1] 27)).alloc (.cells #[.int .i64 18,.int .i64 a] 35)).cell? ⟨k,0,none⟩=some (.slice s0 st.length cap):=ak _ (ak _ (ak _ D));replace hr:r=if st.length=0 then some ⟨st,sl⟩ else none:=by rw [hr];simp
  by_cases h0:st.length=0
  ·rw [if_pos h0] at hr
   subst hr;have g0:((st.length:Int)==0)=true:=by simp [h0]
   go_enter Tryz.func24,Tryz.ntmps24
   go_wp2_with fail
   go_ret
   exact ⟨rfl,On.of_below (up3 _ _ _),fun s e=>by injection e with e;subst e;exact HW.o.below (up3 _ _ _)⟩
  ·rw [if_neg h0] at hr
   subst hr;have g0:((st.length:Int)==0)=false:=by simp [h0]
   go_enter Tryz.func24,Tryz.ntmps24
   go_wp2_with fail
   go_ret
   exact ⟨rfl,On.of_below (up3 _ _ _),fun s e=>by cases e⟩
 ·rw [if_neg ht] at hr
  have H:(t==0)=false:=by simp [ht]
  have F:=zh (fun (e:bN st [t]=true)=>dD (s:=⟨st,sl⟩) e);have E:=zh (fun (e:bN st [t]=false)=>dE (s:=⟨st,sl⟩) e);have C:=zh hr;clear hr;go_enter Tryz.func24,Tryz.ntmps24
  go_wp2_with fail
  refine (Q1.o _ _ [t] (up4 _ _ _ _) (gq _ _ _ _ (kh _ _ _ _))).mono ?_;rintro e w1 ⟨rfl,B,A⟩;have hr:=C.o
  cases hpo:bN st [t]
  ·rw [E.o hpo] at hr
   replace hr:r=none:=hr;subst hr;clear C;go_wp2_with fail
   go_ret
   exact ⟨rfl,(On.of_below (up4 _ _ _ _)).trans B,fun s e=>by cases e⟩
  ·rw [F.o hpo] at hr
   dsimp only [Option.bind] at hr;obtain ⟨s0,cap,D⟩:=A.len;generalize di st [t]=st' at *;have HS:=zh A;clear C A;by_cases h0:st'.length=0
   ·rw [if_pos h0] at hr
    subst hr;have g0:((st'.length:Int)==0)=true:=by simp [h0]
    go_wp2_with fail
    go_ret
    exact ⟨rfl,(On.of_below (up4 _ _ _ _)).trans B,fun s e=>by injection e with e;subst e;exact HS.o⟩
   ·rw [if_neg h0] at hr
    subst hr;have g0:((st'.length:Int)==0)=false:=by simp [h0]
    go_wp2_with fail
    go_ret
    exact ⟨rfl,(On.of_below (up4 _ _ _ _)).trans B,fun s e=>by cases e⟩
theorem wM (k:Nat) (s:Sta) (c:Cd) (m:Mdl) (i:Ins) (v0 v1 v2 v3 v4 vm:Value) (B w:World) (h:StAt w k s.st s.sl) (A:s.st.length≤900000)
    (hc:RepCd B v0 v1 v2 v3 v4 c) (hm:RepMdl B vm m) (H:c.slots≤256) (E:Signs B) (hB:Below B.heap.size B w) (F:B.heap.size≤k) :
    Calls Tryz.prog 24 #[.pointer (some ⟨k,0,none⟩),.agg #[v0,v1,v2,v3,v4],vm,.agg #[.int .i64 i.op,.int .i64 i.a]] w (iI k w (aG c m i s)):=by
 obtain ⟨op,a⟩:=i;have C:=hm.later hB;have G:=hc.later hB;have D:=E.below hB;by_cases h1:op=1
 ·subst h1;exact xu k s c m a v0 v1 v2 v3 v4 vm w h C
 by_cases h2:op=2∨op=3∨op=4∨op=5∨op=6∨op=17
 ·exact rW k s c m op a v0 v1 v2 v3 v4 vm w h A G C H h2
 by_cases h3:op=7
 ·subst h3;exact jm k s c m a v0 v1 v2 v3 v4 vm B w h A C E hB F
 by_cases h4:op=8
 ·subst h4
  by_cases n1:du a=⟨#[45]⟩
  ·exact pA k s c m a v0 v1 v2 v3 v4 vm w h A C D n1
  by_cases n2:du a=⟨#[33]⟩
  ·exact pM k s c m a v0 v1 v2 v3 v4 vm w h A C D n2
  ·exact rE k s c m a v0 v1 v2 v3 v4 vm w C D n1 n2
 by_cases h5:op=9
 ·subst h5;exact mz k s c m a v0 v1 v2 v3 v4 vm w h A C
 by_cases h6:op=10
 ·subst h6;exact mS k s c m a v0 v1 v2 v3 v4 vm w h A C
 by_cases h7:op=11
 ·subst h7;exact mF k s c m a v0 v1 v2 v3 v4 vm w h A C
 by_cases h8:op=12
 ·subst h8;exact mC k s c m a v0 v1 v2 v3 v4 vm w h C
 by_cases h9:op=13
 ·subst h9;exact mT k s c m a v0 v1 v2 v3 v4 vm w h C
 by_cases K:op=14
 ·subst K;exact kJ k s c m a v0 v1 v2 v3 v4 vm B w h A hm hB F
 by_cases J:op=16
 ·subst J;exact ei k s c m a v0 v1 v2 v3 v4 vm w h C
 by_cases I:op=18
 ·subst I;exact mV k s c m a v0 v1 v2 v3 v4 vm w h G C
 ·exact sK k s c m op a v0 v1 v2 v3 v4 vm w h C (by omega)
end Vf
namespace Vf

end Vf
end Go.Proofs.YtmlgbkomdhcaoaaGreatDoor
