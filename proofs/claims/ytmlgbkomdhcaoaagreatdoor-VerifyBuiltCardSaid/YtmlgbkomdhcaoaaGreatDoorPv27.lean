/-
  VerifyBuilt: part 27 of its proof: see the last text.
-/
import Derived.Test.YtmlgbkomdhcaoaaGreatDoorPv26
import Derived.Maps.OwnOps
import Derived.Maps.Views
set_option maxRecDepth 100000
set_option maxHeartbeats 16000000
namespace Go.Proofs.YtmlgbkomdhcaoaaGreatDoor
namespace Vf
open Go.RowKit
attribute [local go_sem ↓] Go.wp_at_zero Go.wp_at_succ
theorem nR (l:List Int) (h:l.length≤256):splice z58.toList 1 (l.map (Value.int .i64))=Value.slice none 0 0 :: bC (fun j=>l.getD j 0):=by
 refine List.ext_getElem? fun j=>?_;simp only [z58,splice,List.take_succ_cons,List.take_zero]
 cases j with
 | zero=>simp
 | succ j =>
  simp only [List.cons_append,List.nil_append,List.getElem?_cons_succ]
  by_cases hj:j<256
  ·rw [eN _ _ hj]
   by_cases e:j<l.length
   ·rw [List.getElem?_append_left (by simpa using e),List.getElem?_map,List.getElem?_eq_getElem e,List.getD_eq_getElem?_getD,List.getElem?_eq_getElem e]
    rfl
   ·rw [List.getElem?_append_right (by simp;omega),List.getElem?_drop]
    simp only [List.length_map]
    rw [show 1+l.length+(j-l.length)=j+1 by omega];rw [List.getElem?_cons_succ,eN _ _ hj,List.getD_eq_getElem?_getD,List.getElem?_eq_none (l:=l) (by omega)];rfl
  ·rw [List.getElem?_eq_none (l:=bC _) (by rw [cn];omega),List.getElem?_eq_none (by simp [cn];omega)]
def ns (c:Cd) (m:Mdl) (w:World):Ending→World→Prop:=fun e w'=>∃b,e=.returned (.bool b)∧SafeIs c m b∧Below w.heap.size w w'
theorem Ah (t:Tab) (n:Nat):pot t n≤257*n:=by
 induction n with
 | zero=>exact Nat.le_refl _
 | succ n ih =>
  unfold pot
  have:one (t n)≤257:=by
   unfold one;split
   ·omega
   ·exact Nat.le_trans (xQ _ _) (by omega)
  omega
theorem uJ (c:Cd) (n:Nat) (hn:0<n) (J:n≤16384) (F:∀i,i64 (c.params.getD i 0)) (B w5:World)
    (G:w5.heap[B.heap.size+1]?=some (.cells (Value.slice none 0 0 :: bC (fun j=>c.params.getD j 0)).toArray 81 (0,0)))
    (H:Below (B.heap.size+1) ((B.alloc (.cells ((madeCells #[Value.pointer none] n).setIfInBounds 0 (.pointer (some ⟨B.heap.size+1,0,none⟩))) 77)).alloc (.cells z58 81)) w5) :
    SafeInv B.heap.size B (w5.alloc (.cells #[.int .i64 0] 3)) n B.heap.size (.slice (some ⟨w5.heap.size,0,none⟩) 1 1) (jM c) [0] (fun _=>B.heap.size+1):=by
 have K:B.heap.size+2≤w5.heap.size:=by
  have:=H.size;rw [ah,ah] at this;omega
 have C:(w5.alloc (.cells #[.int .i64 0] 3)).heap[B.heap.size]?=some (.cells ((madeCells #[Value.pointer none] n).setIfInBounds 0 (.pointer (some ⟨B.heap.size+1,0,none⟩))) 77 (0,0)):=
  az _ _ _ _ ((H.block _ (by omega)).trans (az _ _ _ _ (am _ _ _ rfl)))
 have I:(w5.alloc (.cells #[.int .i64 0] 3)).heap[B.heap.size+1]?=some (.cells (Value.slice none 0 0 :: bC (fun j=>c.params.getD j 0)).toArray 81 (0,0)):=az _ _ _ _ G
 have A:∀i s,jM c i=some s→i=0∧s=⟨[],fun j=>c.params.getD j 0⟩:=fun i s h=>by
  unfold jM upd at h;split at h
  ·rename_i e
   injection h with h
   exact ⟨e,h.symm⟩
  ·cases h
 refine ⟨?_,⟨⟨_,C⟩,Nat.le_refl _,fun i hi=>?_,fun i s hi hs=>?_,fun i j hi hj E D _=>?_⟩,⟨?_,_,_,rfl⟩,by simp,fun p hp=>?_,?_⟩
 ·have h1:Below B.heap.size B ((B.alloc (.cells ((madeCells #[Value.pointer none] n).setIfInBounds 0 (.pointer (some ⟨B.heap.size+1,0,none⟩))) 77)).alloc (.cells z58 81)):=ag (ag (Below.refl _ _) _) _
  exact ag (h1.trans (H.mono (by omega))) _
 ·rw [cell_of_row _ _ i _ _ _ C,Array.getElem?_setIfInBounds]
  by_cases e:i=0
  ·subst e
   simp [size_madeCells,hn,jM,upd,ou]
  ·rw [if_neg (Ne.symm e)]
   have:jM c i=none:=by simp [jM,upd,e]
   rw [this,mO];simp [madeCells,hi,Nat.mod_one]
 ·obtain ⟨_,rfl⟩:=A i s hs
  refine ⟨by omega,by simp,pI (sv:=.slice none 0 0) ⟨_,I⟩ ⟨none,0,rfl,by simp,by unfold maxLen;omega,fun _=>rfl,fun h=>by simp at h,fun i=>by constructor<;>simp⟩ (fun j v hv=>?_) (fun j _=>F j)⟩;rw [cell_of_row _ _ _ _ _ _ I,Nat.zero_add];simpa using hv
 ·obtain ⟨si,E⟩:=Option.isSome_iff_exists.1 E
  obtain ⟨sj,D⟩:=Option.isSome_iff_exists.1 D;rw [(A i si E).1,(A j sj D).1]
 ·refine ⟨rfl,.inr ⟨w5.heap.size,1,#[.int .i64 0],rfl,by omega,am _ _ _ rfl,Nat.le_refl _,by unfold maxLen;omega,rfl,rfl⟩⟩
 ·obtain rfl:p=0:=by simpa using hp
  exact ⟨hn,by simp [jM,upd]⟩
 ·have:=Ah (jM c) n
  show pot (jM c) n+[0].length≤5000000
  simp only [List.length_cons,List.length_nil]
  omega
theorem wS (c:Cd) (m:Mdl) (v0 v1 v2 v3 v4 vm:Value) (w:World) (hc:RepCd w v0 v1 v2 v3 v4 c) (hm:RepMdl w vm m) (X:c.slots≤256) (Y:Signs w)
    (G:0<c.ins.length) (J:c.params.length≤256) (K:c.ins.length≤16384) :
    Calls Tryz.prog 10 #[vm,.agg #[v0,v1,v2,v3,v4]] w (ns c m w):=by
 have HC:=zh hc;have HM:=zh hm;have HG:=zh Y;obtain ⟨u0,u1,rfl,p,k⟩:=hm;obtain ⟨n1,n2,n3,rfl,n4,n5,n6,n7⟩:=hc;obtain ⟨s4,cap4,rfl,i1,i2,i3,i4,i5,i6⟩:=n5;obtain ⟨s1,cap1,rfl,_,_,_,_,Q,E⟩:=n3;clear n1 n2 n4 n6 n7;generalize hn:c.ins.length=n at *;have g0:((n:Int)==0)=false:=by simp;omega
 have l:=run_make_row' (P:=Tryz.prog) 76 77 (.pointer none) 8 Tryz.underlying76 (by kernel_rfl) rfl .i64 .i64 n (by omega) (by omega);have V:=sO;have s2:((w.alloc (.cells #[u0,u1] 27)).alloc (.cells #[v0,.slice s1 c.params.length cap1,.int .i64 c.result,v3,.slice s4 n cap4] 40)).heap.size=w.heap.size+1+1:=by rw [ah,ah]
 have k0:((((w.alloc (.cells #[u0,u1] 27)).alloc (.cells #[v0,.slice s1 c.params.length cap1,.int .i64 c.result,v3,.slice s4 n cap4] 40)).alloc (.cells (madeCells #[Value.pointer none] n) 77)).alloc (.cells z58 81)).cell? ⟨w.heap.size+1+1,0,none⟩=some (.pointer none):=ak _ (uE _ _ _ _ G s2);have k0f:((((w.alloc (.cells #[u0,u1] 27)).alloc (.cells #[v0,.slice s1 c.params.length cap1,.int .i64 c.result,v3,.slice s4 n cap4] 40)).alloc (.cells (madeCells #[Value.pointer none] n) 77)).alloc (.cells z58 81)).frozen? ⟨w.heap.size+1+1,0,none⟩=false:=af (az _ _ _ _ (am _ _ _ s2)) 0;have k1:((((w.alloc (.cells #[u0,u1] 27)).alloc (.cells #[v0,.slice s1 c.params.length cap1,.int .i64 c.result,v3,.slice s4 n cap4] 40)).alloc (.cells ((madeCells #[Value.pointer none] n).setIfInBounds 0 (.pointer (some ⟨w.heap.size+1+1+1,0,none⟩))) 77)).alloc (.cells z58 81)).cell? ⟨w.heap.size+1,1,none⟩=some (.slice s1 c.params.length cap1):=ak _ (ak _ (aw _ _ _ _ _ _ (by rw [ah]) rfl))
 have k2:((((w.alloc (.cells #[u0,u1] 27)).alloc (.cells #[v0,.slice s1 c.params.length cap1,.int .i64 c.result,v3,.slice s4 n cap4] 40)).alloc (.cells ((madeCells #[Value.pointer none] n).setIfInBounds 0 (.pointer (some ⟨w.heap.size+1+1+1,0,none⟩))) 77)).alloc (.cells z58 81)).cell? ⟨w.heap.size+1+1,0,none⟩=some (.pointer (some ⟨w.heap.size+1+1+1,0,none⟩)):=ak _ (aw _ _ _ _ _ _ s2 (by
   rw [Array.getElem?_setIfInBounds];simp [size_madeCells,G]))
 have U:Hd (((((w.alloc (.cells #[u0,u1] 27)).alloc (.cells #[v0,.slice s1 c.params.length cap1,.int .i64 c.result,v3,.slice s4 n cap4] 40)).alloc (.cells ((madeCells #[Value.pointer none] n).setIfInBounds 0 (.pointer (some ⟨w.heap.size+1+1+1,0,none⟩))) 77)).alloc (.cells z58 81)).heap[w.heap.size+1+1+1]?=some (.cells z58.toList.toArray 81 (0,0))):=zh (am _ _ _ (by rw [ah,s2]));go_enter Tryz.func10,Tryz.ntmps10
 go_wp2_with fail
 go_step3
 go_wp2_with fail
 refine aD (S:=(fun w'=>w'.cell? ⟨w.heap.size+1+1,0,none⟩=some (.pointer (some ⟨w.heap.size+1+1+1,0,none⟩))∧w'.cell? ⟨w.heap.size+1,1,none⟩=some (.slice s1 c.params.length cap1))) 8 (by kernel_rfl) (by kernel_rfl) (by exact ⟨k2,k1⟩) (fun hH=>?_);simp only [List.take_succ_cons,List.take_zero,List.drop_succ_cons,List.drop_zero]
 refine wpAnyH_take (i:=0) (v:=?_) rfl (by kernel_rfl) (by kernel_rfl) (by kernel_rfl) (fun _ _ _ h=>h) (Or.inl ⟨by rfl,?_⟩) (by assumption) ?_;rotate_left 1
 ·(intro w C;(try dsimp only at C);go_simp;try with_reducible rfl)
 try simp only [Act.put,List.setIfInBounds_toArray,List.set_cons_zero,List.set_cons_succ,List.getElem_toArray,List.getElem_cons_zero]
 refine wpAnyH_take (i:=1) (v:=?_) rfl (by kernel_rfl) (by kernel_rfl) (by kernel_rfl) (fun _ _ _ h=>h) (Or.inl ⟨by rfl,?_⟩) (by assumption) ?_;rotate_left 1
 ·(intro w C;(try dsimp only at C);go_simp;try with_reducible rfl)
 try simp only [Act.put,List.setIfInBounds_toArray,List.set_cons_zero,List.set_cons_succ,List.getElem_toArray,List.getElem_cons_zero,List.getElem_cons_succ]
 refine wpAnyH_take (i:=2) (v:=?_) rfl (by kernel_rfl) (by kernel_rfl) (by kernel_rfl) (fun _ _ _ h=>h) (Or.inl ⟨by rfl,?_⟩) (by assumption) ?_;rotate_left 1
 ·(intro w C;(try dsimp only at C);go_simp;try with_reducible rfl)
 try simp only [Act.put,List.setIfInBounds_toArray,List.set_cons_zero,List.set_cons_succ,List.getElem_toArray,List.getElem_cons_zero,List.getElem_cons_succ]
 refine wpAnyH_take (i:=3) (v:=?_) rfl (by kernel_rfl) (by kernel_rfl) (by kernel_rfl) (fun _ _ _ h=>h) (Or.inl ⟨by rfl,?_⟩) (by assumption) ?_;rotate_left 1
 ·(intro w C;(try dsimp only at C);go_simp;try with_reducible rfl)
 try simp only [Act.put,List.setIfInBounds_toArray,List.set_cons_zero,List.set_cons_succ,List.getElem_toArray,List.getElem_cons_zero,List.getElem_cons_succ]
 refine wpAnyH_take (i:=4) (v:=?_) rfl (by kernel_rfl) (by kernel_rfl) (by kernel_rfl) (fun _ _ _ h=>h) (Or.inl ⟨by rfl,?_⟩) (by assumption) ?_;rotate_left 1
 ·(intro w C;(try dsimp only at C);go_simp;try with_reducible rfl)
 try simp only [Act.put,List.setIfInBounds_toArray,List.set_cons_zero,List.set_cons_succ,List.getElem_toArray,List.getElem_cons_zero,List.getElem_cons_succ]
 refine wpAnyH_take (i:=5) (v:=?_) rfl (by kernel_rfl) (by kernel_rfl) (by kernel_rfl) (fun _ _ _ h=>h) (Or.inl ⟨by rfl,?_⟩) (by assumption) ?_;rotate_left 1
 ·(intro w C;(try dsimp only at C);go_simp;try with_reducible rfl)
 try simp only [Act.put,List.setIfInBounds_toArray,List.set_cons_zero,List.set_cons_succ,List.getElem_toArray,List.getElem_cons_zero,List.getElem_cons_succ]
 refine wpAnyH_take (i:=6) (v:=?_) rfl (by kernel_rfl) (by kernel_rfl) (by kernel_rfl) (fun _ _ _ h=>h) (Or.inl ⟨by rfl,?_⟩) (by assumption) ?_;rotate_left 1
 ·(intro w C;(try dsimp only at C);go_simp;try with_reducible rfl)
 try simp only [Act.put,List.setIfInBounds_toArray,List.set_cons_zero,List.set_cons_succ,List.getElem_toArray,List.getElem_cons_zero,List.getElem_cons_succ]
 refine wpAnyH_take (i:=7) (v:=?_) rfl (by kernel_rfl) (by kernel_rfl) (by kernel_rfl) (fun _ _ _ h=>h) (Or.inl ⟨by rfl,?_⟩) (by assumption) ?_;rotate_left 1
 ·(intro w C;(try dsimp only at C);go_simp;try with_reducible rfl)
 try simp only [Act.put,List.setIfInBounds_toArray,List.set_cons_zero,List.set_cons_succ,List.getElem_toArray,List.getElem_cons_zero,List.getElem_cons_succ]
 refine wpAnyH_done (by kernel_rfl) ?_ _;change wpList _ _ _ _ _ _
 refine wpList_copy_splice rfl _ _ _ _ rfl _ Tryz.underlying37 (by kernel_rfl) _ _ _ _ _ _ rfl rfl (w.heap.size+1+1+1) 1 z58.toList 81 U.o (c.params.map (Value.int .i64)) ?_ ?_ ?_ ?_ (w.heap.size+1+1+1) ((((w.alloc (.cells #[u0,u1] 27)).alloc (.cells #[v0,.slice s1 c.params.length cap1,.int .i64 c.result,v3,.slice s4 n cap4] 40)).alloc (.cells ((madeCells #[Value.pointer none] n).setIfInBounds 0 (.pointer (some ⟨w.heap.size+1+1+1,0,none⟩))) 77)).alloc (.cells z58 81)) ⟨rfl,rfl,rfl,Nat.le_refl _,fun _ _=>rfl⟩ (Nat.le_refl _) ?_
 ·rw [List.length_map];exact (Nat.min_eq_left J).symm
 ·intro h0
  refine ⟨rfl,?_⟩;obtain ⟨bp,op,rfl,_,H⟩:=Q (by simpa using h0);refine ⟨_,rfl,fun j v hv=>?_⟩;rw [List.getElem?_map,Option.map_eq_some_iff] at hv;obtain ⟨x,hx,rfl⟩:=hv;have Z:=(List.getElem?_eq_some_iff.1 hx).1;have hq:=H j Z;dsimp only at hq;rw [List.getD_eq_getElem?_getD,hx] at hq;rw [Go.WideShapes.add_plain];exact ak _ (ak _ (ak _ (ak _ hq)))
 ·have:z58.toList.length=257:=by simp [z58,cn]
  rw [this];simp;omega
 ·intro v hv
  simp at hv
  obtain ⟨x,_,rfl⟩:=hv;rfl
 intro w5 L a;rw [nR _ J] at L;go_wp2_with fail
 go_step3
 go_wp2_with fail
 obtain ⟨B,D⟩:∃B,B=((w.alloc (.cells #[u0,u1] 27)).alloc (.cells #[v0,.slice s1 c.params.length cap1,.int .i64 c.result,v3,.slice s4 n cap4] 40)):=⟨_,rfl⟩
 have N:B.heap.size=w.heap.size+1+1:=by rw [D];exact s2
 have e:Hd (∀W,Below B.heap.size B W→W.cell? ⟨w.heap.size,0,none⟩=some u0∧W.cell? ⟨w.heap.size,1,none⟩=some u1∧W.cell? ⟨w.heap.size+1,0,none⟩=some v0∧W.cell? ⟨w.heap.size+1,1,none⟩=some (.slice s1 c.params.length cap1) ∧
     W.cell? ⟨w.heap.size+1,2,none⟩=some (.int .i64 c.result)∧W.cell? ⟨w.heap.size+1,3,none⟩=some v3∧W.cell? ⟨w.heap.size+1,4,none⟩=some (.slice s4 n cap4)):=zh (fun W hW=>by
   have e1:w.heap.size<B.heap.size:=by omega
   have e2:w.heap.size+1<B.heap.size:=by omega
   refine ⟨?_,?_,?_,?_,?_,?_,?_⟩
   · rw [aM hW _ _ e1,D];exact ak _ (aw _ _ _ _ _ _ rfl rfl)
   · rw [aM hW _ _ e1,D];exact ak _ (aw _ _ _ _ _ _ rfl rfl)
   · rw [aM hW _ _ e2,D];exact aw _ _ _ _ _ _ (by rw [ah]) rfl
   · rw [aM hW _ _ e2,D];exact aw _ _ _ _ _ _ (by rw [ah]) rfl
   · rw [aM hW _ _ e2,D];exact aw _ _ _ _ _ _ (by rw [ah]) rfl
   · rw [aM hW _ _ e2,D];exact aw _ _ _ _ _ _ (by rw [ah]) rfl
   · rw [aM hW _ _ e2,D];exact aw _ _ _ _ _ _ (by rw [ah]) rfl)
 have M:Hd (Below w.heap.size w B):=zh (by rw [D];exact ag (ag (Below.refl _ _) _) _);have T:=zh (uJ c n G K E B w5 (by rw [N];exact L) (by rw [N,D];exact a));rw [N] at T;clear Q E k0 k0f k1 k2 U i5;go_loopg [6] (mu n (jM c,[0])) (fun g s6 W=>∃(tab:Tab) (pile:List Nat) (ks:Nat→Nat),mu n (tab,pile)=g∧SafeInv B.heap.size B W n (w.heap.size+1+1) s6 tab pile ks∧Hd (∀b,Done (fo c m) (tab,pile) b→Done (fo c m) (jM c,[0]) b))
 case atStart=>exact ⟨jM c,[0],_,rfl,by rw [N];exact T.o,zh (fun _ h=>h)⟩
 case round =>
  obtain ⟨tab,pile,ks,f,O,I⟩:=hrel;refine wW (by kernel_rfl) c m w B w.heap.size (w.heap.size+1) (w.heap.size+1+1) n u0 u1 v0 _ _ v3 _ tab pile ks O M.o e.o HC.o HM.o HG.o X hn K (fun x t t' d w h=>h) ?_ ?_ ?_
  ·intro u4 u6 u7 u8 u10 u11 u12 u13 u14 u37 u38 u39 u40 u41 u42 u43 u44 u45 u46 u47 u48 u49 u50 u51 u52 u53 u54 u55 u56 u57 u58 u59 u60 u61 u62 u63 u64 u65 u66 u67 u68 u69 u70 u71 u72 u73 u74 u75 u76 u77 u78 u79 u80 u81 u82 u83 u84 u85 u86 u87 u88 u89 u90 u91 u92 u93 u94 u95 u96 u97 u98 u99 u100 u101 u102 u103 u104 u105 u106 u107 u108 u109 u110 u111 u112 u113 u114 u115 u116 u117 u118 u119 u120 u121 u122 u123 u124 u125 u126 u127 u128 u129 u130 u131 u132 u133 u134 u135 u136 u137 u138 u139 u140 u141 u142 u143 u144 u145 u146 u147 u148 u149 u150 u151 u152 u153 w' tab' pile' ks' A F R
   have HI:=zh F;have HS:=zh A;have HL:=zh R;clear F A R;simp only [Exit.then]
   go_wp2_with fail
   go_roundg (mu n (tab',pile'))
   case measure=>have:=HL.o;omega
   case rel=>exact ⟨tab',pile',ks',rfl,HI.o,zh (fun b h=>I.o b (.step HS.o h))⟩
  ·intro b A u6 u7 u8 u10 u11 u12 u13 u14 u37 u38 u39 u40 u41 u42 u43 u44 u45 u46 u47 u48 u49 u50 u51 u52 u53 u54 u55 u56 u57 u58 u59 u60 u61 u62 u63 u64 u65 u66 u67 u68 u69 u70 u71 u72 u73 u74 u75 u76 u77 u78 u79 u80 u81 u82 u83 u84 u85 u86 u87 u88 u89 u90 u91 u92 u93 u94 u95 u96 u97 u98 u99 u100 u101 u102 u103 u104 u105 u106 u107 u108 u109 u110 u111 u112 u113 u114 u115 u116 u117 u118 u119 u120 u121 u122 u123 u124 u125 u126 u127 u128 u129 u130 u131 u132 u133 u134 u135 u136 u137 u138 u139 u140 u141 u142 u143 u144 u145 u146 u147 u148 u149 u150 u151 u152 u153 w' hb
   (try simp only [Exit.noGoto,Exit.inBlock,Exit.then])
   go_ret
   exact ⟨b,rfl,by unfold SafeIs;rw [if_neg (by omega)];exact I.o b (.stop A),M.o.trans (hb.mono M.o.size)⟩
  ·intro A u4 u6 u7 u8 u10 u11 u12 u13 u14 u37 u38 u39 u40 u41 u42 u43 u44 u45 u46 u47 u48 u49 u50 u51 u52 u53 u54 u55 u56 u57 u58 u59 u60 u61 u62 u63 u64 u65 u66 u67 u68 u69 u70 u71 u72 u73 u74 u75 u76 u77 u78 u79 u80 u81 u82 u83 u84 u85 u86 u87 u88 u89 u90 u91 u92 u93 u94 u95 u96 u97 u98 u99 u100 u101 u102 u103 u104 u105 u106 u107 u108 u109 u110 u111 u112 u113 u114 u115 u116 u117 u118 u119 u120 u121 u122 u123 u124 u125 u126 u127 u128 u129 u130 u131 u132 u133 u134 u135 u136 u137 u138 u139 u140 u141 u142 u143 u144 u145 u146 u147 u148 u149 u150 u151 u152 u153 w' hb
   have HS:=zh A;have HB:=zh hb;clear A hb
   (try simp only [Exit.noGoto,Exit.inBlock,Exit.then])
   go_wp2_with fail
   (try rw [Exit.noGoto_ret])
   go_ret
   exact ⟨false,rfl,by unfold SafeIs;rw [if_neg (by omega)];exact I.o false (.stop HS.o),M.o.trans (HB.o.mono M.o.size)⟩
end Vf
namespace Vf
open Go.RowKit Go.Maps
attribute [local go_sem ↓] Go.wp_at_zero Go.wp_at_succ
theorem vA (c:Cd) (m:Mdl) (v0 v1 v2 v3 v4 vm:Value) (w:World) (hc:RepCd w v0 v1 v2 v3 v4 c) (hm:RepMdl w vm m) (A:c.ins.length=0) :
    Calls Tryz.prog 10 #[vm,.agg #[v0,v1,v2,v3,v4]] w (ns c m w):=by
 obtain ⟨u0,u1,rfl,_,_⟩:=hm;obtain ⟨n1,n2,n3,n4,n5,n6,n7,n8⟩:=hc;obtain ⟨s4,cap4,rfl,i1,i2,i3,i4,i5,i6⟩:=n6;clear n1 n2 n3 n4 n5 n7 n8 i1 i2 i3 i4 i5 i6;have HL:=zh A;rw [A];clear A;go_enter Tryz.func10,Tryz.ntmps10
 go_wp2_with fail
 go_step3
 go_wp2_with fail
 (try rw [Exit.noGoto_ret])
 go_ret
 exact ⟨false,rfl,by unfold SafeIs;rw [if_pos HL.o],ag (ag (Below.refl _ _) _) _⟩
theorem yg (c:Cd) (m:Mdl) (v0 v1 v2 v3 v4 vm:Value) (w:World) (hc:RepCd w v0 v1 v2 v3 v4 c) (hm:RepMdl w vm m) (C:c.slots≤256) (D:Signs w) (A:c.params.length≤256) (B:c.ins.length≤16384) :
    Calls Tryz.prog 10 #[vm,.agg #[v0,v1,v2,v3,v4]] w (ns c m w):=by
 by_cases h:c.ins.length=0
 ·exact vA c m v0 v1 v2 v3 v4 vm w hc hm h
 ·exact wS c m v0 v1 v2 v3 v4 vm w hc hm C D (by omega) A B
def zo:DataW Unit:=.lit (.int .i64 1)
def jL (l:List ByteArray):DataW Unit:=l.foldl (fun D s=>D.put (.string s.data.toList) zo) (.map [])
theorem sd (l:List ByteArray):∀D:DataW Unit,IsMap D→IsMap (l.foldl (fun D s=>D.put (.string s.data.toList) zo) D):=by
 induction l with
 | nil=>intro D h;exact h
 | cons s l ih=>intro D h;exact ih _ (h.put _ _)
theorem rx (l:List ByteArray):IsMap (jL l):=sd l _ ⟨[],rfl⟩
theorem mA (l:List ByteArray) (s:ByteArray):jL (l++[s])=(jL l).put (.string s.data.toList) zo:=by simp [jL,List.foldl_append]
theorem xd (l:List ByteArray) (s:ByteArray):(s∈l→(jL l).atKey (.string s.data.toList) (.lit (.int .i64 0))=.lit (.int .i64 1))∧(s ∉ l→(jL l).atKey (.string s.data.toList) (.lit (.int .i64 0))=.lit (.int .i64 0)):=by
 rw [←List.reverse_reverse l];generalize l.reverse=r;induction r with
 | nil=>exact ⟨fun h=>by simp at h,fun _=>rfl⟩
 | cons x r ih =>
  rw [List.reverse_cons,mA];by_cases e:s=x
  ·subst e
   rw [atKey_put_same (rx _) (by first | trivial | exact True.intro | constructor | simp [WideAt.IsKeyLit])];exact ⟨fun _=>rfl,fun h=>absurd (by simp) h⟩
  ·rw [atKey_put_other (by
     intro h;injection h with h
     exact e (WideShapes.bytes_inj h))]
   exact ⟨fun h=>ih.1 (by simpa [e] using h),fun h=>ih.2 (fun h'=>h (by simp at h' ⊢;exact .inl h'))⟩
theorem pq:Keyed Tryz.prog 9:=string_keyed Tryz.underlying9
theorem pF (w:World):(zeroValue 3).run Tryz.prog w=.ok (.int .i64 0) w:=by kernel_rfl
structure ChkInv (m:Mdl) (w1 W:World) (i:Nat):Prop where
 map:W.ownsMap Tryz.prog 9 (plainElem Tryz.prog 3) w1.heap.size i (jL ((m.codes.map (·.name)).take i))
 below:Below w1.heap.size w1 W
 safe:∀j,j<i→SafeIs (m.codes.getD j default) m true
 nodup:((m.codes.map (·.name)).take i).Nodup
theorem nX {W W':World} {b n:Nat} {D:DataW Unit} {k:TypeId} {R:Value→Option (DataW Unit×List MemPlace)} (h:W.ownsMap Tryz.prog k R b n D) (hb:Below W.heap.size W W'):W'.ownsMap Tryz.prog k R b n D:=by
 have A:=h.lt;obtain ⟨es,clock,h1,r⟩:=h;exact ⟨es,clock,(hb.block _ A).trans h1,r⟩
theorem xl {m:Mdl} (h:eu m=true) {i:Nat} (hi:i<m.codes.length):(m.codes.getD i default).params.length≤256∧(m.codes.getD i default).slots≤256∧(m.codes.getD i default).ins.length≤16384:=by
 have h2:fJ (m.codes.getD i default)=true:=by
  simp only [eu,Bool.and_eq_true] at h
  exact (wI _ _).1 h.2 i hi
 simp only [fJ,Bool.and_eq_true,decide_eq_true_eq] at h2
 omega
theorem pK {a b:Int} (h:(DataW.lit (.int .i64 a):DataW Unit)=.lit (.int .i64 b)):a=b:=by
 injection h with h
 injection h
theorem lY {m:Mdl} {i:Nat} (hi:i<m.codes.length):(m.codes.map (·.name)).take (i+1)=(m.codes.map (·.name)).take i++[(m.codes.getD i default).name]:=by
 rw [List.take_add_one,List.getElem?_map,List.getD_eq_getElem?_getD,List.getElem?_eq_getElem hi];rfl
theorem pE {m:Mdl} {i:Nat} (hi:i<m.codes.length) (h:(m.codes.getD i default).name∈(m.codes.map (·.name)).take i):¬rg m:=fun g=>by
 have h1:=g.2;have h2:((m.codes.map (·.name)).take (i+1)).Nodup:=h1.sublist (List.take_sublist _ _);rw [lY hi,List.nodup_append] at h2;exact h2.2.2 _ h _ (by simp) rfl
theorem sV {l:List ByteArray} {s:ByteArray} (h:l.Nodup) (hs:s ∉ l):(l++[s]).Nodup:=by
 rw [List.nodup_append];exact ⟨h,by simp,fun a ha b hb e=>hs (by simp at hb;subst hb;rw [←e];exact ha)⟩
theorem check_any (v:Value) (m:Mdl) (w:World) (hm:RepMdl w v m) (s:Signs w) :
    Calls Tryz.prog 6 #[v] w fun e w'=>∃x,e=.returned (.int .i64 x)∧ff m x∧Below w.heap.size w w':=by
 have HM:=zh hm;have HG:=zh s;have d:=zh (fun W (hW:Below w.heap.size w W)=>oU (hm.later hW));obtain ⟨u0,u1,rfl,h7,h2⟩:=hm;obtain ⟨s0,cap,c0,c1,c2,c3,c4,rfl,U,h8,_,_,R,D⟩:=h7;have l:=zh R;have hd:=zh D;clear s h2 R D
 cases hr:eu m
 ·rw [hr] at d
  have HF:Hd (ff m 111):=zh (.inl ⟨hr,rfl⟩);clear hr;generalize m.codes.length=n at *;go_enter Tryz.func6,Tryz.ntmps6
  go_wp2_with fail
  refine (d.o _ (ag (Below.refl _ _) _)).mono ?_;rintro e w1 ⟨rfl,K⟩;have HB:=zh (ay (ag (Below.refl w.heap.size w) _) K);clear K;go_wp2_with fail
  go_ret
  exact ⟨_,rfl,HF.o,HB.o⟩
 ·rw [hr] at d
  have c:=zh hr;clear hr;have hh:=@run_makeMap Tryz.prog;generalize hn:m.codes.length=n at *;have HN:=zh hn;clear hn;go_enter Tryz.func6,Tryz.ntmps6
  go_wp2_with fail
  refine (d.o _ (ag (Below.refl _ _) _)).mono ?_;rintro e w1 ⟨rfl,K⟩;obtain ⟨h,h6,h4⟩:=tH K;have q0:w1.cell? ⟨w.heap.size,0,none⟩=some (.slice s0 n cap):=(h _ _ (by rw [ah];omega)).trans (aw _ _ _ _ _ _ rfl rfl);have q1:w1.cell? ⟨w.heap.size,1,none⟩=some u1:=(h _ _ (by rw [ah];omega)).trans (aw _ _ _ _ _ _ rfl rfl);have hg:=zh (ay (ag (Below.refl w.heap.size w) _) K);have S:w.heap.size<w1.heap.size:=by have:=K.size;rw [ah] at this;omega
  clear K h h6 h4;go_wp2_with fail
  have t:Hd (m.codes.length=n):=HN;go_loopg [13] n (fun g s13 W=>∃i:Nat,i+g=n∧s13=.int .i64 i∧ChkInv m w1 W i)
  case atStart=>exact ⟨0,by omega,rfl,⟨World.ownsMap_made _ _ _ _,(Below.refl _ _).alloc (Nat.le_refl _) _,fun j hj=>absurd hj (by omega),by simp⟩⟩
  case round =>
   obtain ⟨i,hi,rfl,B⟩:=hrel;have HI:=zh B;have F:=zh (hg.o.trans (B.below.mono (by omega)));have p0:wr.cell? ⟨w.heap.size,0,none⟩=some (.slice s0 n cap):=(B.below.cell (p:=⟨w.heap.size,0,none⟩) S).trans q0;have p1:wr.cell? ⟨w.heap.size,1,none⟩=some u1:=(B.below.cell (p:=⟨w.heap.size,1,none⟩) S).trans q1;clear B q0 q1
   cases gk with
   | zero =>
    have he:i=n:=by omega
    have ho:¬((i:Int)<(n:Int)):=by omega
    have HF:Hd (ff m 0):=zh (.inr ⟨c.o,.inl ⟨⟨fun j hj=>HI.o.safe j (by rw [he,←HN.o];exact hj),by
      have:=HI.o.nodup;rwa [List.take_of_length_le (by rw [List.length_map,he,HN.o];exact Nat.le_refl _)] at this⟩,rfl⟩⟩)
    clear he hi;go_wp2_with fail
    go_ret
    exact ⟨_,rfl,HF.o,F.o⟩
   | succ gk =>
    have O:i<n:=by omega
    have h5:(i:Int)<(n:Int):=by omega
    have hl:(0:Int)≤(i:Int):=by omega
    have g1:IntKind.i64.wrap ((i:Int)+1)=(i:Int)+1:=IntWalk.i64_in _ (by have:=U;unfold big at this;omega);obtain ⟨b,off,h3,Q,hx⟩:=l.o (by omega);subst h3;obtain ⟨x0,x1,x2,x3,x4⟩:=hx i O;have D:=hd.o i O;have f:=D.name;obtain ⟨sp,cp,e1,_⟩:=D.params;have e2:=D.result;have e3:=D.slots;obtain ⟨si,ci,e4,_⟩:=D.ins;rw [f] at x0;rw [e1] at x1;rw [e2] at x2;rw [e3] at x3;rw [e4] at x4;have z:=zh (fun W (hW:Below w.heap.size w W)=>D.later hW);rw [f,e1,e2,e3,e4] at z;have T:(m.codes.getD i default).name.size≤maxLen:=by have:=D.nameLen;unfold big at this;unfold maxLen;omega
    have E:=zh (Go.WideMaps.keyOf_string_mk (P:=Tryz.prog) (k:=9) Tryz.underlying9 T);have y0:=(aM F.o _ _ Q).trans x0;have y1:=(aM F.o _ _ Q).trans x1;have y2:=(aM F.o _ _ Q).trans x2;have y3:=(aM F.o _ _ Q).trans x3;have y4:=(aM F.o _ _ Q).trans x4;have q:=zh (xl c.o (by rw [HN.o];exact O));have Y:=zh (fun W (hW:Below w.heap.size w W)=>yg _ m _ _ _ _ _ _ W (z.o W hW) (HM.o.later hW) q.o.2.1 (HG.o.below hW) q.o.1 q.o.2.2);have J:=zh (lY (m:=m) (i:=i) (by rw [HN.o];exact O));have N:=zh (pE (m:=m) (i:=i) (by rw [HN.o];exact O));have h1:=zh (xd ((m.codes.map (·.name)).take i) (m.codes.getD i default).name);clear hx x0 x1 x2 x3 x4 D f T Q e1 e2 e3 e4;have M:=zh HI.o.map;have a:Hd (SafeIs (m.codes.getD i default) m false→¬rg m):=zh (fun hs g=>by cases hs.same (g.1 i (by rw [HN.o];exact O)))
    have L:Hd (∀(_:Nat) j,j<i+1→SafeIs (m.codes.getD i default) m true→SafeIs (m.codes.getD j default) m true):=zh (fun _ j hj hs=>by
      by_cases e:j=i
      · rw [e];exact hs
      · exact HI.o.safe j (by omega))
    have hc:=zh HI.o.nodup;generalize m.codes.getD i default=cd at *;generalize cd.name=nm at *;generalize (m.codes.map (·.name)).take i=seen at *;by_cases A:nm∈seen
    ·have X:=h1.o.1 A
     have HL:=zh X;have HF:Hd (ff m 131):=zh (.inr ⟨c.o,.inr ⟨N.o A,rfl⟩⟩);clear X A N;go_wp2_with (at_lookup;refine wpList_lookup_own_int _ rfl _ _ _ rfl 9 3 .i64 pq Tryz.underlying49 Tryz.underlying3 (pF _) w1.heap.size i _ rfl (M.o.alloc _) _ _ rfl E.o ?_;intro cc I _hwf;obtain rfl:=pK (HL.o.symm.trans I);clear I _hwf)
     go_ret
     exact ⟨_,rfl,HF.o,ag F.o _⟩
    ·have X:=h1.o.2 A
     have HL:=zh X;have hb:=zh A;have r:i<maxLen:=by have:=U;unfold big at this;unfold maxLen;omega
     have h9:=zh r;have p0':(wr.alloc (.cells #[.string nm,.slice sp cd.params.length cp,.int .i64 cd.result,.int .i64 cd.slots,.slice si cd.ins.length ci] 40)).cell? ⟨w.heap.size,0,none⟩=some (.slice (some ⟨b,off,none⟩) n cap):=ak _ p0;have p1':(wr.alloc (.cells #[.string nm,.slice sp cd.params.length cp,.int .i64 cd.result,.int .i64 cd.slots,.slice si cd.ins.length ci] 40)).cell? ⟨w.heap.size,1,none⟩=some u1:=ak _ p1;clear X A N r;go_wp2_with (at_lookup;refine wpList_lookup_own_int _ rfl _ _ _ rfl 9 3 .i64 pq Tryz.underlying49 Tryz.underlying3 (pF _) w1.heap.size i _ rfl (M.o.alloc _) _ _ rfl E.o ?_;intro cc I _hwf;obtain rfl:=pK (HL.o.symm.trans I);clear I _hwf)
     refine (Y.o _ (ag F.o _)).mono ?_;rintro e w3 ⟨b3,rfl,G,V⟩;have u:=zh G;have hf:=zh (ay (ag F.o _) V);have y:=zh (nX (M.o.alloc _) V);have z0:=(V.cell (p:=⟨wr.heap.size,0,none⟩) (by rw [ah];exact Nat.lt_succ_self _)).trans (aw wr _ _ _ 0 _ rfl rfl);have h0:=zh (HI.o.below.trans ((ag (Below.refl _ _) _ |>.trans (V.mono (by rw [ah];exact Nat.le_succ _))).mono HI.o.below.size));clear G V
     cases b3
     ·have HF:Hd (ff m 131):=zh (.inr ⟨c.o,.inr ⟨a.o u.o,rfl⟩⟩)
      go_wp2_with fail
      go_ret
      exact ⟨_,rfl,HF.o,hf.o⟩
     ·go_wp2_with (first | (at_lookup;refine wpList_lookup_own_int _ rfl _ _ _ rfl 9 3 .i64 pq Tryz.underlying49 Tryz.underlying3 (pF _) w1.heap.size i _ rfl y.o _ _ rfl E.o ?_;intro cc I _hwf;obtain rfl:=pK (HL.o.symm.trans I);clear I _hwf) | (at_mapUpdate;refine wpList_mapUpdate_own _ rfl _ _ _ _ rfl 9 3 pq Tryz.underlying49 _ w1.heap.size i _ rfl y.o h9.o _ _ _ rfl rfl E.o zo [] (plainElem_int Tryz.underlying3 rfl) ?_;intro w4 H C;have ha:=zh H;have Z:=zh C;clear H C))
      go_roundg gk
      case measure=>omega
      case rel=>exact ⟨i+1,by omega,by go_num,⟨by rw [J.o,mA];exact ha.o,h0.o.trans ⟨Z.o.os,Z.o.tape,Z.o.output,Z.o.size,fun k hk=>Z.o.block k (Nat.lt_of_lt_of_le hk h0.o.size) (fun e=>by injection e with e;omega)⟩,fun j hj=>L.o b j hj u.o,by rw [J.o];exact sV hc.o hb.o⟩⟩
end Vf
end Go.Proofs.YtmlgbkomdhcaoaaGreatDoor
