/-
  VerifyBuilt: part 0 of its proof: see the last text.
-/
import Derived.WalkKit
import Derived.WalkSpells
import Derived.WalkLawsBesides
import Derived.BigQuiet
import Derived.Lib.Hide
import Derived.OpenShut
import Derived.Outline
import Derived.Deep.RegionWith
import Derived.Deep.DeepCutAuto
import Derived.Deep.RegionHeld3
import Derived.Deep.QuietTactic
import Derived.Deep.DrawnRows
import Derived.BigRegion
import Derived.Test.YtmlgbkomdhcaoaaGreatDoorRows
set_option maxRecDepth 100000
set_option maxHeartbeats 16000000
namespace Go.Proofs.YtmlgbkomdhcaoaaGreatDoor
section
open Go.RowKit
structure Hd (p:Prop):Prop where
  o:p
theorem zh {p:Prop} (h:p):Hd p:=⟨h⟩
theorem ay {a b c:World} (h:Below a.heap.size a b) (k:Below b.heap.size b c):Below a.heap.size a c:=h.trans (k.mono h.size)
theorem ag {a b:World} (h:Below a.heap.size a b) (o:Obj):Below a.heap.size a (b.alloc o):=h.alloc h.size o
theorem aB {a b:World} (h:Below a.heap.size a b):Below a.heap.size a b.drew:=h.drew
theorem cQ {a b:World} (h:Below a.heap.size a b) (n:Nat):Below a.heap.size a (b.drewN n):=⟨h.os,h.tape,h.output,h.size,h.block⟩
theorem Ak {a b:World} (h:Below a.heap.size a b) {p:Addr} (hp:a.heap.size≤p.block) (u:Value):Below a.heap.size a (b.setCell p u):=h.setCell hp u
theorem aM {a b:World} (h:Below a.heap.size a b) (k o:Nat) (hk:k<a.heap.size):b.cell? ⟨k,o,none⟩=a.cell? ⟨k,o,none⟩:=h.cell (p:=⟨k,o,none⟩) hk
theorem tH {W w1:World} (hb:Below W.heap.size W w1):(∀b o,b<W.heap.size→w1.cell? ⟨b,o,none⟩=W.cell? ⟨b,o,none⟩)∧(∀b o,b<W.heap.size→w1.frozen? ⟨b,o,none⟩=W.frozen? ⟨b,o,none⟩)∧W.heap.size≤w1.heap.size:=
 ⟨fun b o h=>hb.cell (p:=⟨b,o,none⟩) h,fun b o h=>hb.frozen (p:=⟨b,o,none⟩) h,hb.size⟩
theorem dq {k:IntKind} {a b:Int} (h:a=b):Ending.returned (.int k a)=.returned (.int k b):=by rw [h]
theorem cg {a b:Bool} (h:a=b):Ending.returned (.bool a)=.returned (.bool b):=by rw [h]
theorem aQ (w:World) {b c i j:Nat} (v:Value) (h:b≠c∨i≠j):(w.setCell ⟨b,i,none⟩ v).cell? ⟨c,j,none⟩=w.cell? ⟨c,j,none⟩:=
 World.cell?_setCell_other _ _ _ _ (fun e=>by injection e with e1 e2;rcases h with h | h<;>contradiction)
theorem dh {w:World} {b i:Nat} {u:Value} (v:Value) (h:w.cell? ⟨b,i,none⟩=some u):(w.setCell ⟨b,i,none⟩ v).cell? ⟨b,i,none⟩=some v:=
 World.cell?_setCell_same _ _ _ h
theorem ax {w:World} {b o:Nat} {v:Value} (h:w.cell? ⟨b,o,none⟩=some v):b<w.heap.size:=by
 by_cases hb:b<w.heap.size
 ·exact hb
 ·have e:w.heap[b]?=none:=by simp;omega
  simp [World.cell?,e] at h
def IsRow (k:IntKind) (w:World) (a:Option Addr) (len cap:Nat) (zs:List Int):Prop:=
 (a=none∧len=0∧cap=0∧zs=[]) ∨
 ∃x,a=some x∧len≤cap∧cap≤maxLen∧zs.length=cap∧(∀i,i<zs.length→w.cell? (x.add i)=some (.int k (zs.getD i 0)))∧∀n∈zs,(Lit.int k n).wf=true
theorem IsRow.parts {k:IntKind} {w:World} {a:Option Addr} {len cap:Nat} {zs:List Int} (h:IsRow k w a len cap zs) :
    len=0∨∃b off,a=some ⟨b,off,none⟩∧b<w.heap.size∧len≤cap∧cap≤maxLen∧(∀i,i<len→w.cell? ⟨b,off+i,none⟩=some (.int k (zs.getD i 0)))∧∀i,i<len→(Lit.int k (zs.getD i 0)).wf=true:=by
 by_cases hl:len=0
 ·exact .inl hl
 rcases h with ⟨_,h,_⟩ | ⟨x,rfl,C,hc,hz,A,B⟩
 ·exact absurd h hl
 ·obtain ⟨b,off,rfl,hj⟩:=ints_at A (by omega)
  refine .inr ⟨b,off,rfl,ax (hj 0 (by omega)),C,hc,fun i hi=>hj i (by omega),fun i hi=>?_⟩;rw [List.getD_eq_getElem?_getD,List.getElem?_eq_getElem (by omega)];exact B _ (List.getElem_mem _)
theorem IsRow.len {k:IntKind} {w:World} {a:Option Addr} {len cap:Nat} {zs:List Int} (h:IsRow k w a len cap zs):len≤maxLen:=by
 rcases h with ⟨_,rfl,_⟩ | ⟨x,_,h1,h2,_⟩
 ·exact Nat.zero_le _
 ·omega
def qV (n:Int):Prop:=-9223372036854775808≤n∧n≤9223372036854775807
end
section
open Go.RowKit
def aS (q:Nat→Bool):Nat→Nat→Int
 | 0,_=>-1
 | m+1,i=>if q i then (i:Int) else aS q m (i+1)
def gN (p:Nat→Bool) (n:Nat):Bool:=decide (∀i,i<n→p i=true)
theorem rZ (q:Nat→Bool) (m i:Nat):(0≤aS q m i) ↔ ∃j,j<m∧q (i+j)=true:=by
 induction m generalizing i with
 | zero=>simp [aS]
 | succ m ih =>
  unfold aS;by_cases h:q i=true
  ·rw [if_pos h]
   exact ⟨fun _=>⟨0,by omega,h⟩,fun _=>by omega⟩
  ·rw [if_neg h,ih]
   constructor
   ·rintro ⟨j,h1,h2⟩
    exact ⟨j+1,by omega,by rw [show i+(j+1)=i+1+j by omega];exact h2⟩
   ·rintro ⟨j,h1,h2⟩
    match j,h1,h2 with
    | 0,_,h2=>exact absurd h2 h
    | j+1,h1,h2=>exact ⟨j,by omega,by rw [show i+1+j=i+(j+1) by omega];exact h2⟩
theorem gC (p:Nat→Bool) (n:Nat):(!decide (0≤aS (fun i=>!p i) n 0))=gN p n:=by
 have h:=rZ (fun i=>!p i) n 0;simp only [Nat.zero_add] at h
 unfold gN;by_cases hq:∃j,j<n∧(!p j)=true
 ·rw [decide_eq_true (h.2 hq)]
  obtain ⟨j,h1,h2⟩:=hq;rw [decide_eq_false (fun hh=>by rw [hh j h1] at h2;cases h2)];rfl
 ·rw [decide_eq_false (fun hh=>hq (h.1 hh))]
  rw [decide_eq_true (fun i hi=>by
    cases hp:p i
    · exact absurd ⟨i,hi,by rw [hp];rfl⟩ hq
    · rfl)]
  rfl
theorem wI (p:Nat→Bool) (n:Nat):gN p n=true ↔ ∀i,i<n→p i=true:=by unfold gN;exact decide_eq_true_iff
theorem hY (q:Nat→Bool) (m i:Nat):-1≤aS q m i∧(aS q m i<i+m∨aS q m i=-1):=by
 induction m generalizing i with
 | zero=>simp [aS]
 | succ m ih =>
  unfold aS;split
  ·omega
  ·have:=ih (i+1);omega
def RowTy (w:World) (s0:Option Addr) (n:Nat) (c0:Nat→Value):Prop:=
 0<n→∃b off,s0=some ⟨b,off,none⟩∧b<w.heap.size∧∀i,i<n→w.cell? ⟨b,off+i,none⟩=some (c0 i)
theorem RowTy.later {w w':World} {s0:Option Addr} {n:Nat} {c0:Nat→Value} (h:RowTy w s0 n c0) (hb:Below w.heap.size w w'):RowTy w' s0 n c0:=by
 intro h0;obtain ⟨b,off,h1,h2,h3⟩:=h h0;refine ⟨b,off,h1,Nat.lt_of_lt_of_le h2 hb.size,fun i hi=>?_⟩;have h4:=h3 i hi;simp only [aM hb b _ h2]
 exact h4
theorem AL (s0:Option Addr) (n cap:Nat) (c0:Nat→Value) (q:Nat→Bool) (bx:Nat) (w:World) (hn:n≤9223372036854775807) (hr:RowTy w s0 n c0)
    (hq:∀i,i<n→∀W,Below w.heap.size w W→Calls Tryz.prog 40 #[c0 i,.pointer (some ⟨bx,0,none⟩)] W fun e W'=>e=.returned (.bool (q i))∧Below W.heap.size W W') :
    Calls Tryz.prog 75 #[.slice s0 n cap,.func (.func 40) #[] #[.pointer (some ⟨bx,0,none⟩)]] w fun e w'=>e=.returned (.int .i64 (aS q n 0))∧Below w.heap.size w w':=by
 have HR:=zh hr;have HQ:=zh hq;clear hr hq;go_enter Tryz.func75,Tryz.ntmps75
 go_wp2_with fail
 go_loopw [8] (fun s8 wr=>∃i:Nat,i≤n∧s8=.int .i64 i∧aS q n 0=aS q (n-i) i∧Below w.heap.size w wr) (fun s8 _=>n-(intOf s8).toNat)
 case atStart=>exact ⟨0,Nat.zero_le _,rfl,rfl,Below.refl _ _⟩
 case round =>
  obtain ⟨i,hi,rfl,H,C⟩:=hrel;have HF:=zh H;clear H;by_cases G:i<n
  ·obtain ⟨b,off,rfl,I,A⟩:=HR.o (by omega)
   have B:=A i G;have g0:=(C.cell (p:=⟨b,off+i,none⟩) I).trans B
   have F:aS q (n-i) i=if q i then (i:Int) else aS q (n-(i+1)) (i+1):=by
    rw [show n-i=(n-(i+1))+1 by omega];rfl
   have HN:=zh F;have D:=zh (HQ.o i G _ C);clear B A F;generalize c0 i=x0 at *
   cases hqi:q i
   ·rw [hqi] at D HN
    have HH:=zh hqi;clear hqi;go_wp2_with fail
    refine (D.o).mono ?_;rintro e w1 ⟨rfl,E⟩;go_wp2_with fail
    go_roundw
    case rel=>exact ⟨i+1,by omega,by go_num,by rw [HF.o,HN.o];rfl,ay C E⟩
    case measure=>simp [intOf];omega
   ·rw [hqi] at D HN
    have HH:=zh hqi;clear hqi;go_wp2_with fail
    refine (D.o).mono ?_;rintro e w1 ⟨rfl,E⟩;go_wp2_with fail
    go_ret
    exact ⟨dq (by rw [HF.o,HN.o];rfl),ay C E⟩
  ·obtain rfl:i=n:=by omega
   go_wp2_with fail
   go_ret
   exact ⟨dq (by rw [HF.o,Nat.sub_self];rfl),C⟩
theorem AX (s0:Option Addr) (n cap:Nat) (c0:Nat→Value) (q:Nat→Bool) (bx:Nat) (w:World) (hn:n≤9223372036854775807) (hr:RowTy w s0 n c0)
    (hq:∀i,i<n→∀W,Below w.heap.size w W→Calls Tryz.prog 40 #[c0 i,.pointer (some ⟨bx,0,none⟩)] W fun e W'=>e=.returned (.bool (q i))∧Below W.heap.size W W') :
    Calls Tryz.prog 39 #[.slice s0 n cap,.func (.func 40) #[] #[.pointer (some ⟨bx,0,none⟩)]] w fun e w'=>e=.returned (.bool (decide (0≤aS q n 0)))∧Below w.heap.size w w':=by
 have H:=zh (AL s0 n cap c0 q bx w hn hr hq);clear hr hq;have hl:=hY q n 0;generalize aS q n 0=z at *;go_enter Tryz.func39,Tryz.ntmps39
 go_wp2_with fail
 refine (H.o).mono ?_;rintro e w1 ⟨rfl,A⟩;go_wp2_with fail
 go_ret
 exact ⟨rfl,A⟩
theorem Bw (x0:Value) (r:Bool) (bx:Nat) (W:World) (A:W.cell? ⟨bx,0,none⟩=some (.func (.func 21) #[] #[]))
    (hp:∀W1,Below W.heap.size W W1→Calls Tryz.prog 21 #[x0] W1 fun e W'=>e=.returned (.bool r)∧Below W1.heap.size W1 W') :
    Calls Tryz.prog 40 #[x0,.pointer (some ⟨bx,0,none⟩)] W fun e W'=>e=.returned (.bool (!r))∧Below W.heap.size W W':=by
 have HP:=zh hp;have C:=ax A;clear hp;go_enter Tryz.func40,Tryz.ntmps40
 go_wp2_with fail
 refine (HP.o _ (Below.refl _ _)).mono ?_;rintro e w1 ⟨rfl,B⟩;go_wp2_with fail
 go_ret
 exact ⟨rfl,B⟩
theorem yQ (s0:Option Addr) (n cap:Nat) (c0:Nat→Value) (p:Nat→Bool) (w:World) (hn:n≤9223372036854775807) (hr:RowTy w s0 n c0)
    (hp:∀i,i<n→∀W,Below w.heap.size w W→Calls Tryz.prog 21 #[c0 i] W fun e W'=>e=.returned (.bool (p i))∧Below W.heap.size W W') :
    Calls Tryz.prog 20 #[.slice s0 n cap,.func (.func 21) #[] #[]] w fun e w'=>e=.returned (.bool (gN p n))∧Below w.heap.size w w':=by
 have HR:=zh hr;have HP:=zh hp;clear hr hp;go_enter Tryz.func20,Tryz.ntmps20
 go_wp2_with fail
 have A:Below w.heap.size w (w.alloc (Obj.cells #[.func (.func 21) #[] #[]] 72)):=ag (Below.refl _ _) _;refine (AX s0 n cap c0 (fun i=>!p i) w.heap.size _ hn (HR.o.later A) ?_).mono ?_
 ·intro i hi W hW
  exact Bw (c0 i) (p i) w.heap.size W ((hW.cell (p:=⟨w.heap.size,0,none⟩) (by simp)).trans (by simp)) (fun W1 C=>HP.o i hi W1 (ay (ay A hW) C))
 rintro e w1 ⟨rfl,B⟩;have he:=gC p n;generalize decide (0≤aS (fun i=>!p i) n 0)=z at he;have HE:=zh he;clear he;go_wp2_with fail
 go_ret
 exact ⟨cg HE.o,ay A B⟩
def RowBy (w:World) (s0:Option Addr) (n:Nat) (c0:Nat→Value):Prop:=
 0<n→∃b off,s0=some ⟨b,off,none⟩∧b<w.heap.size∧∀i,i<n→w.cell? ⟨b,off+i,none⟩=some (c0 i)
theorem RowBy.later {w w':World} {s0:Option Addr} {n:Nat} {c0:Nat→Value} (h:RowBy w s0 n c0) (hb:Below w.heap.size w w'):RowBy w' s0 n c0:=by
 intro h0;obtain ⟨b,off,h1,h2,h3⟩:=h h0;refine ⟨b,off,h1,Nat.lt_of_lt_of_le h2 hb.size,fun i hi=>?_⟩;have h4:=h3 i hi;simp only [aM hb b _ h2]
 exact h4
theorem A7 (s0:Option Addr) (n cap:Nat) (c0:Nat→Value) (q:Nat→Bool) (bx:Nat) (w:World) (hn:n≤9223372036854775807) (hr:RowBy w s0 n c0)
    (hq:∀i,i<n→∀W,Below w.heap.size w W→Calls Tryz.prog 36 #[c0 i,.pointer (some ⟨bx,0,none⟩)] W fun e W'=>e=.returned (.bool (q i))∧Below W.heap.size W W') :
    Calls Tryz.prog 73 #[.slice s0 n cap,.func (.func 36) #[] #[.pointer (some ⟨bx,0,none⟩)]] w fun e w'=>e=.returned (.int .i64 (aS q n 0))∧Below w.heap.size w w':=by
 have HR:=zh hr;have HQ:=zh hq;clear hr hq;go_enter Tryz.func73,Tryz.ntmps73
 go_wp2_with fail
 go_loopw [8] (fun s8 wr=>∃i:Nat,i≤n∧s8=.int .i64 i∧aS q n 0=aS q (n-i) i∧Below w.heap.size w wr) (fun s8 _=>n-(intOf s8).toNat)
 case atStart=>exact ⟨0,Nat.zero_le _,rfl,rfl,Below.refl _ _⟩
 case round =>
  obtain ⟨i,hi,rfl,H,C⟩:=hrel;have HF:=zh H;clear H;by_cases G:i<n
  ·obtain ⟨b,off,rfl,I,A⟩:=HR.o (by omega)
   have B:=A i G;have g0:=(C.cell (p:=⟨b,off+i,none⟩) I).trans B
   have F:aS q (n-i) i=if q i then (i:Int) else aS q (n-(i+1)) (i+1):=by
    rw [show n-i=(n-(i+1))+1 by omega];rfl
   have HN:=zh F;have D:=zh (HQ.o i G _ C);clear B A F;generalize c0 i=x0 at *
   cases hqi:q i
   ·rw [hqi] at D HN
    have HH:=zh hqi;clear hqi;go_wp2_with fail
    refine (D.o).mono ?_;rintro e w1 ⟨rfl,E⟩;go_wp2_with fail
    go_roundw
    case rel=>exact ⟨i+1,by omega,by go_num,by rw [HF.o,HN.o];rfl,ay C E⟩
    case measure=>simp [intOf];omega
   ·rw [hqi] at D HN
    have HH:=zh hqi;clear hqi;go_wp2_with fail
    refine (D.o).mono ?_;rintro e w1 ⟨rfl,E⟩;go_wp2_with fail
    go_ret
    exact ⟨dq (by rw [HF.o,HN.o];rfl),ay C E⟩
  ·obtain rfl:i=n:=by omega
   go_wp2_with fail
   go_ret
   exact ⟨dq (by rw [HF.o,Nat.sub_self];rfl),C⟩
theorem Bs (s0:Option Addr) (n cap:Nat) (c0:Nat→Value) (q:Nat→Bool) (bx:Nat) (w:World) (hn:n≤9223372036854775807) (hr:RowBy w s0 n c0)
    (hq:∀i,i<n→∀W,Below w.heap.size w W→Calls Tryz.prog 36 #[c0 i,.pointer (some ⟨bx,0,none⟩)] W fun e W'=>e=.returned (.bool (q i))∧Below W.heap.size W W') :
    Calls Tryz.prog 35 #[.slice s0 n cap,.func (.func 36) #[] #[.pointer (some ⟨bx,0,none⟩)]] w fun e w'=>e=.returned (.bool (decide (0≤aS q n 0)))∧Below w.heap.size w w':=by
 have H:=zh (A7 s0 n cap c0 q bx w hn hr hq);clear hr hq;have hl:=hY q n 0;generalize aS q n 0=z at *;go_enter Tryz.func35,Tryz.ntmps35
 go_wp2_with fail
 refine (H.o).mono ?_;rintro e w1 ⟨rfl,A⟩;go_wp2_with fail
 go_ret
 exact ⟨rfl,A⟩
theorem Bx (x0:Value) (r:Bool) (bx:Nat) (W:World) (A:W.cell? ⟨bx,0,none⟩=some (.func (.func 17) #[] #[]))
    (hp:∀W1,Below W.heap.size W W1→Calls Tryz.prog 17 #[x0] W1 fun e W'=>e=.returned (.bool r)∧Below W1.heap.size W1 W') :
    Calls Tryz.prog 36 #[x0,.pointer (some ⟨bx,0,none⟩)] W fun e W'=>e=.returned (.bool (!r))∧Below W.heap.size W W':=by
 have HP:=zh hp;have C:=ax A;clear hp;go_enter Tryz.func36,Tryz.ntmps36
 go_wp2_with fail
 refine (HP.o _ (Below.refl _ _)).mono ?_;rintro e w1 ⟨rfl,B⟩;go_wp2_with fail
 go_ret
 exact ⟨rfl,B⟩
theorem yV (s0:Option Addr) (n cap:Nat) (c0:Nat→Value) (p:Nat→Bool) (w:World) (hn:n≤9223372036854775807) (hr:RowBy w s0 n c0)
    (hp:∀i,i<n→∀W,Below w.heap.size w W→Calls Tryz.prog 17 #[c0 i] W fun e W'=>e=.returned (.bool (p i))∧Below W.heap.size W W') :
    Calls Tryz.prog 16 #[.slice s0 n cap,.func (.func 17) #[] #[]] w fun e w'=>e=.returned (.bool (gN p n))∧Below w.heap.size w w':=by
 have HR:=zh hr;have HP:=zh hp;clear hr hp;go_enter Tryz.func16,Tryz.ntmps16
 go_wp2_with fail
 have A:Below w.heap.size w (w.alloc (Obj.cells #[.func (.func 17) #[] #[]] 32)):=ag (Below.refl _ _) _;refine (Bs s0 n cap c0 (fun i=>!p i) w.heap.size _ hn (HR.o.later A) ?_).mono ?_
 ·intro i hi W hW
  exact Bx (c0 i) (p i) w.heap.size W ((hW.cell (p:=⟨w.heap.size,0,none⟩) (by simp)).trans (by simp)) (fun W1 C=>HP.o i hi W1 (ay (ay A hW) C))
 rintro e w1 ⟨rfl,B⟩;have he:=gC p n;generalize decide (0≤aS (fun i=>!p i) n 0)=z at he;have HE:=zh he;clear he;go_wp2_with fail
 go_ret
 exact ⟨cg HE.o,ay A B⟩
def RowIn (w:World) (s0:Option Addr) (n:Nat) (c0 c1:Nat→Value):Prop:=
 0<n→∃b off,s0=some ⟨b,off,none⟩∧b<w.heap.size∧∀i,i<n→w.cell? ⟨b,off+i * 2,none⟩=some (c0 i)∧w.cell? ⟨b,off+i * 2+1,none⟩=some (c1 i)
theorem RowIn.later {w w':World} {s0:Option Addr} {n:Nat} {c0 c1:Nat→Value} (h:RowIn w s0 n c0 c1) (hb:Below w.heap.size w w'):RowIn w' s0 n c0 c1:=by
 intro h0;obtain ⟨b,off,h1,h2,h3⟩:=h h0;refine ⟨b,off,h1,Nat.lt_of_lt_of_le h2 hb.size,fun i hi=>?_⟩;have h4:=h3 i hi;simp only [aM hb b _ h2]
 exact h4
theorem AO (s0:Option Addr) (n cap:Nat) (c0 c1:Nat→Value) (q:Nat→Bool) (bx:Nat) (w:World) (hn:n≤9223372036854775807) (hr:RowIn w s0 n c0 c1)
    (hq:∀i,i<n→∀W,Below w.heap.size w W→Calls Tryz.prog 42 #[.agg #[c0 i,c1 i],.pointer (some ⟨bx,0,none⟩)] W fun e W'=>e=.returned (.bool (q i))∧Below W.heap.size W W') :
    Calls Tryz.prog 76 #[.slice s0 n cap,.func (.func 42) #[] #[.pointer (some ⟨bx,0,none⟩)]] w fun e w'=>e=.returned (.int .i64 (aS q n 0))∧Below w.heap.size w w':=by
 have HR:=zh hr;have HQ:=zh hq;clear hr hq;go_enter Tryz.func76,Tryz.ntmps76
 go_wp2_with fail
 go_loopw [8] (fun s8 wr=>∃i:Nat,i≤n∧s8=.int .i64 i∧aS q n 0=aS q (n-i) i∧Below w.heap.size w wr) (fun s8 _=>n-(intOf s8).toNat)
 case atStart=>exact ⟨0,Nat.zero_le _,rfl,rfl,Below.refl _ _⟩
 case round =>
  obtain ⟨i,hi,rfl,H,C⟩:=hrel;have HF:=zh H;clear H;by_cases G:i<n
  ·obtain ⟨b,off,rfl,I,A⟩:=HR.o (by omega)
   have B:=A i G;have g0:=(C.cell (p:=⟨b,off+i * 2,none⟩) I).trans B.1;have g1:=(C.cell (p:=⟨b,off+i * 2+1,none⟩) I).trans B.2
   have F:aS q (n-i) i=if q i then (i:Int) else aS q (n-(i+1)) (i+1):=by
    rw [show n-i=(n-(i+1))+1 by omega];rfl
   have HN:=zh F;have D:=zh (HQ.o i G _ C);clear B A F;generalize c0 i=x0 at *;generalize c1 i=x1 at *
   cases hqi:q i
   ·rw [hqi] at D HN
    have HH:=zh hqi;clear hqi;go_wp2_with fail
    refine (D.o).mono ?_;rintro e w1 ⟨rfl,E⟩;go_wp2_with fail
    go_roundw
    case rel=>exact ⟨i+1,by omega,by go_num,by rw [HF.o,HN.o];rfl,ay C E⟩
    case measure=>simp [intOf];omega
   ·rw [hqi] at D HN
    have HH:=zh hqi;clear hqi;go_wp2_with fail
    refine (D.o).mono ?_;rintro e w1 ⟨rfl,E⟩;go_wp2_with fail
    go_ret
    exact ⟨dq (by rw [HF.o,HN.o];rfl),ay C E⟩
  ·obtain rfl:i=n:=by omega
   go_wp2_with fail
   go_ret
   exact ⟨dq (by rw [HF.o,Nat.sub_self];rfl),C⟩
theorem AR (s0:Option Addr) (n cap:Nat) (c0 c1:Nat→Value) (q:Nat→Bool) (bx:Nat) (w:World) (hn:n≤9223372036854775807) (hr:RowIn w s0 n c0 c1)
    (hq:∀i,i<n→∀W,Below w.heap.size w W→Calls Tryz.prog 42 #[.agg #[c0 i,c1 i],.pointer (some ⟨bx,0,none⟩)] W fun e W'=>e=.returned (.bool (q i))∧Below W.heap.size W W') :
    Calls Tryz.prog 41 #[.slice s0 n cap,.func (.func 42) #[] #[.pointer (some ⟨bx,0,none⟩)]] w fun e w'=>e=.returned (.bool (decide (0≤aS q n 0)))∧Below w.heap.size w w':=by
 have H:=zh (AO s0 n cap c0 c1 q bx w hn hr hq);clear hr hq;have hl:=hY q n 0;generalize aS q n 0=z at *;go_enter Tryz.func41,Tryz.ntmps41
 go_wp2_with fail
 refine (H.o).mono ?_;rintro e w1 ⟨rfl,A⟩;go_wp2_with fail
 go_ret
 exact ⟨rfl,A⟩
theorem Bt (x0 x1:Value) (r:Bool) (bx:Nat) (W:World) (A:W.cell? ⟨bx,0,none⟩=some (.func (.func 23) #[] #[]))
    (hp:∀W1,Below W.heap.size W W1→Calls Tryz.prog 23 #[.agg #[x0,x1]] W1 fun e W'=>e=.returned (.bool r)∧Below W1.heap.size W1 W') :
    Calls Tryz.prog 42 #[.agg #[x0,x1],.pointer (some ⟨bx,0,none⟩)] W fun e W'=>e=.returned (.bool (!r))∧Below W.heap.size W W':=by
 have HP:=zh hp;have C:=ax A;clear hp;go_enter Tryz.func42,Tryz.ntmps42
 go_wp2_with fail
 refine (HP.o _ (ag (Below.refl _ _) _)).mono ?_;rintro e w1 ⟨rfl,B⟩;go_wp2_with fail
 go_ret
 exact ⟨rfl,ay (ag (Below.refl _ _) _) B⟩
theorem yU (s0:Option Addr) (n cap:Nat) (c0 c1:Nat→Value) (p:Nat→Bool) (w:World) (hn:n≤9223372036854775807) (hr:RowIn w s0 n c0 c1)
    (hp:∀i,i<n→∀W,Below w.heap.size w W→Calls Tryz.prog 23 #[.agg #[c0 i,c1 i]] W fun e W'=>e=.returned (.bool (p i))∧Below W.heap.size W W') :
    Calls Tryz.prog 22 #[.slice s0 n cap,.func (.func 23) #[] #[]] w fun e w'=>e=.returned (.bool (gN p n))∧Below w.heap.size w w':=by
 have HR:=zh hr;have HP:=zh hp;clear hr hp;go_enter Tryz.func22,Tryz.ntmps22
 go_wp2_with fail
 have A:Below w.heap.size w (w.alloc (Obj.cells #[.func (.func 23) #[] #[]] 74)):=ag (Below.refl _ _) _;refine (AR s0 n cap c0 c1 (fun i=>!p i) w.heap.size _ hn (HR.o.later A) ?_).mono ?_
 ·intro i hi W hW
  exact Bt (c0 i) (c1 i) (p i) w.heap.size W ((hW.cell (p:=⟨w.heap.size,0,none⟩) (by simp)).trans (by simp)) (fun W1 C=>HP.o i hi W1 (ay (ay A hW) C))
 rintro e w1 ⟨rfl,B⟩;have he:=gC p n;generalize decide (0≤aS (fun i=>!p i) n 0)=z at he;have HE:=zh he;clear he;go_wp2_with fail
 go_ret
 exact ⟨cg HE.o,ay A B⟩
def RowCd (w:World) (s0:Option Addr) (n:Nat) (c0 c1 c2 c3 c4:Nat→Value):Prop:=
 0<n→∃b off,s0=some ⟨b,off,none⟩∧b<w.heap.size∧∀i,i<n→w.cell? ⟨b,off+i * 5,none⟩=some (c0 i)∧w.cell? ⟨b,off+i * 5+1,none⟩=some (c1 i)∧w.cell? ⟨b,off+i * 5+2,none⟩=some (c2 i)∧w.cell? ⟨b,off+i * 5+3,none⟩=some (c3 i)∧w.cell? ⟨b,off+i * 5+4,none⟩=some (c4 i)
theorem RowCd.later {w w':World} {s0:Option Addr} {n:Nat} {c0 c1 c2 c3 c4:Nat→Value} (h:RowCd w s0 n c0 c1 c2 c3 c4) (hb:Below w.heap.size w w'):RowCd w' s0 n c0 c1 c2 c3 c4:=by
 intro h0;obtain ⟨b,off,h1,h2,h3⟩:=h h0;refine ⟨b,off,h1,Nat.lt_of_lt_of_le h2 hb.size,fun i hi=>?_⟩;have h4:=h3 i hi;simp only [aM hb b _ h2]
 exact h4
theorem Br (s0:Option Addr) (n cap:Nat) (c0 c1 c2 c3 c4:Nat→Value) (q:Nat→Bool) (bx:Nat) (w:World) (hn:n≤9223372036854775807) (hr:RowCd w s0 n c0 c1 c2 c3 c4)
    (hq:∀i,i<n→∀W,Below w.heap.size w W→Calls Tryz.prog 38 #[.agg #[c0 i,c1 i,c2 i,c3 i,c4 i],.pointer (some ⟨bx,0,none⟩)] W fun e W'=>e=.returned (.bool (q i))∧Below W.heap.size W W') :
    Calls Tryz.prog 74 #[.slice s0 n cap,.func (.func 38) #[] #[.pointer (some ⟨bx,0,none⟩)]] w fun e w'=>e=.returned (.int .i64 (aS q n 0))∧Below w.heap.size w w':=by
 have HR:=zh hr;have HQ:=zh hq;clear hr hq;go_enter Tryz.func74,Tryz.ntmps74
 go_wp2_with fail
 go_loopw [8] (fun s8 wr=>∃i:Nat,i≤n∧s8=.int .i64 i∧aS q n 0=aS q (n-i) i∧Below w.heap.size w wr) (fun s8 _=>n-(intOf s8).toNat)
 case atStart=>exact ⟨0,Nat.zero_le _,rfl,rfl,Below.refl _ _⟩
 case round =>
  obtain ⟨i,hi,rfl,I,C⟩:=hrel;have HF:=zh I;clear I;by_cases H:i<n
  ·obtain ⟨b,off,rfl,D,B⟩:=HR.o (by omega)
   have A:=B i H;have g0:=(C.cell (p:=⟨b,off+i * 5,none⟩) D).trans A.1;have g1:=(C.cell (p:=⟨b,off+i * 5+1,none⟩) D).trans A.2.1;have g2:=(C.cell (p:=⟨b,off+i * 5+2,none⟩) D).trans A.2.2.1;have g3:=(C.cell (p:=⟨b,off+i * 5+3,none⟩) D).trans A.2.2.2.1;have g4:=(C.cell (p:=⟨b,off+i * 5+4,none⟩) D).trans A.2.2.2.2
   have G:aS q (n-i) i=if q i then (i:Int) else aS q (n-(i+1)) (i+1):=by
    rw [show n-i=(n-(i+1))+1 by omega];rfl
   have HN:=zh G;have E:=zh (HQ.o i H _ C);clear A B G;generalize c0 i=x0 at *;generalize c1 i=x1 at *;generalize c2 i=x2 at *;generalize c3 i=x3 at *;generalize c4 i=x4 at *
   cases hqi:q i
   ·rw [hqi] at E HN
    have HH:=zh hqi;clear hqi;go_wp2_with fail
    refine (E.o).mono ?_;rintro e w1 ⟨rfl,F⟩;go_wp2_with fail
    go_roundw
    case rel=>exact ⟨i+1,by omega,by go_num,by rw [HF.o,HN.o];rfl,ay C F⟩
    case measure=>simp [intOf];omega
   ·rw [hqi] at E HN
    have HH:=zh hqi;clear hqi;go_wp2_with fail
    refine (E.o).mono ?_;rintro e w1 ⟨rfl,F⟩;go_wp2_with fail
    go_ret
    exact ⟨dq (by rw [HF.o,HN.o];rfl),ay C F⟩
  ·obtain rfl:i=n:=by omega
   go_wp2_with fail
   go_ret
   exact ⟨dq (by rw [HF.o,Nat.sub_self];rfl),C⟩
theorem A4 (s0:Option Addr) (n cap:Nat) (c0 c1 c2 c3 c4:Nat→Value) (q:Nat→Bool) (bx:Nat) (w:World) (hn:n≤9223372036854775807) (hr:RowCd w s0 n c0 c1 c2 c3 c4)
    (hq:∀i,i<n→∀W,Below w.heap.size w W→Calls Tryz.prog 38 #[.agg #[c0 i,c1 i,c2 i,c3 i,c4 i],.pointer (some ⟨bx,0,none⟩)] W fun e W'=>e=.returned (.bool (q i))∧Below W.heap.size W W') :
    Calls Tryz.prog 37 #[.slice s0 n cap,.func (.func 38) #[] #[.pointer (some ⟨bx,0,none⟩)]] w fun e w'=>e=.returned (.bool (decide (0≤aS q n 0)))∧Below w.heap.size w w':=by
 have H:=zh (Br s0 n cap c0 c1 c2 c3 c4 q bx w hn hr hq);clear hr hq;have hl:=hY q n 0;generalize aS q n 0=z at *;go_enter Tryz.func37,Tryz.ntmps37
 go_wp2_with fail
 refine (H.o).mono ?_;rintro e w1 ⟨rfl,A⟩;go_wp2_with fail
 go_ret
 exact ⟨rfl,A⟩
theorem AK (x0 x1 x2 x3 x4:Value) (r:Bool) (bx:Nat) (W:World) (A:W.cell? ⟨bx,0,none⟩=some (.func (.func 19) #[] #[]))
    (hp:∀W1,Below W.heap.size W W1→Calls Tryz.prog 19 #[.agg #[x0,x1,x2,x3,x4]] W1 fun e W'=>e=.returned (.bool r)∧Below W1.heap.size W1 W') :
    Calls Tryz.prog 38 #[.agg #[x0,x1,x2,x3,x4],.pointer (some ⟨bx,0,none⟩)] W fun e W'=>e=.returned (.bool (!r))∧Below W.heap.size W W':=by
 have HP:=zh hp;have C:=ax A;clear hp;go_enter Tryz.func38,Tryz.ntmps38
 go_wp2_with fail
 refine (HP.o _ (ag (Below.refl _ _) _)).mono ?_;rintro e w1 ⟨rfl,B⟩;go_wp2_with fail
 go_ret
 exact ⟨rfl,ay (ag (Below.refl _ _) _) B⟩
theorem ym (s0:Option Addr) (n cap:Nat) (c0 c1 c2 c3 c4:Nat→Value) (p:Nat→Bool) (w:World) (hn:n≤9223372036854775807) (hr:RowCd w s0 n c0 c1 c2 c3 c4)
    (hp:∀i,i<n→∀W,Below w.heap.size w W→Calls Tryz.prog 19 #[.agg #[c0 i,c1 i,c2 i,c3 i,c4 i]] W fun e W'=>e=.returned (.bool (p i))∧Below W.heap.size W W') :
    Calls Tryz.prog 18 #[.slice s0 n cap,.func (.func 19) #[] #[]] w fun e w'=>e=.returned (.bool (gN p n))∧Below w.heap.size w w':=by
 have HR:=zh hr;have HP:=zh hp;clear hr hp;go_enter Tryz.func18,Tryz.ntmps18
 go_wp2_with fail
 have A:Below w.heap.size w (w.alloc (Obj.cells #[.func (.func 19) #[] #[]] 75)):=ag (Below.refl _ _) _;refine (A4 s0 n cap c0 c1 c2 c3 c4 (fun i=>!p i) w.heap.size _ hn (HR.o.later A) ?_).mono ?_
 ·intro i hi W hW
  exact AK (c0 i) (c1 i) (c2 i) (c3 i) (c4 i) (p i) w.heap.size W ((hW.cell (p:=⟨w.heap.size,0,none⟩) (by simp)).trans (by simp)) (fun W1 C=>HP.o i hi W1 (ay (ay A hW) C))
 rintro e w1 ⟨rfl,B⟩;have he:=gC p n;generalize decide (0≤aS (fun i=>!p i) n 0)=z at he;have HE:=zh he;clear he;go_wp2_with fail
 go_ret
 exact ⟨cg HE.o,ay A B⟩
end
end Go.Proofs.YtmlgbkomdhcaoaaGreatDoor
