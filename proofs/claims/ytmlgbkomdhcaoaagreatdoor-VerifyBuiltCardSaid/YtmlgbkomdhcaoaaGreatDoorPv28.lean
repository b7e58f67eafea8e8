/-
  VerifyBuilt: part 28 of its proof: see the last text.
-/
import Derived.Test.YtmlgbkomdhcaoaaGreatDoorPv27
import Derived.Test.YtmlgbkomdhcaoaaGreatDoorPv03
import Derived.Test.YtmlgbkomdhcaoaaGreatDoorPv02
import Derived.MapKept
import Derived.Test.YtmlgbkomdhcaoaaGreatDoorPv18
import Derived.Test.YtmlgbkomdhcaoaaGreatDoorPv08
import Derived.Lib.ConvBytes
set_option maxRecDepth 100000
set_option maxHeartbeats 16000000
namespace Go.Proofs.YtmlgbkomdhcaoaaGreatDoor
namespace Vf
open Go.RowKit
attribute [local go_sem ↓] Go.wp_at_zero Go.wp_at_succ
theorem pf (w:World):RepTys w (.slice none 0 0) []:=⟨none,0,rfl,by unfold big;simp,by simp,by unfold gY;omega,fun _=>rfl,fun h=>by simp at h,fun i=>by constructor<;>simp⟩
theorem zu (w:World):RepIns w (.slice none 0 0) []:=⟨none,0,rfl,by unfold big;simp,by simp,by unfold gY;omega,fun _=>rfl,fun h=>by simp at h,fun i=>by constructor<;>(constructor<;>simp [default])⟩
theorem lk (w:World):RepTexts w (.slice none 0 0) []:=⟨none,0,fun _=>.slice none 0 0,rfl,by unfold big;simp,by simp,by unfold gY;omega,fun _=>rfl,fun h=>by simp at h,fun i h=>by simp at h⟩
theorem zp {w:World} {g:Nat} {a b:Int} (h0:w.cell? ⟨g,0,none⟩=some (.int .i64 a)) (h1:w.cell? ⟨g,1,none⟩=some (.int .i64 b)) (ha:i64 a) (hb:i64 b):RepIns w (.slice (some ⟨g,0,none⟩) 1 1) [⟨a,b⟩]:=by
 refine ⟨_,1,rfl,by unfold big;simp,by simp,by unfold gY;omega,fun h=>(by cases h),fun _=>⟨g,0,rfl,ax h0,fun i hi=>?_⟩,fun i=>?_⟩
 ·obtain rfl:i=0:=by simpa using hi
  exact ⟨h0,h1⟩
 ·cases i with
  | zero=>exact ⟨ha,hb⟩
  | succ i=>exact ⟨by constructor<;>simp [default],by constructor<;>simp [default]⟩
theorem yq {w:World} {g:Nat} {a b a' b':Int} (h0:w.cell? ⟨g,0,none⟩=some (.int .i64 a)) (h1:w.cell? ⟨g,1,none⟩=some (.int .i64 b)) (h2:w.cell? ⟨g,2,none⟩=some (.int .i64 a')) (h3:w.cell? ⟨g,3,none⟩=some (.int .i64 b')) (ha:i64 a) (hb:i64 b) (B:i64 a') (A:i64 b') :
    RepIns w (.slice (some ⟨g,0,none⟩) 2 2) [⟨a,b⟩,⟨a',b'⟩]:=by
 refine ⟨_,2,rfl,by unfold big;simp,by simp,by unfold gY;omega,fun h=>(by cases h),fun _=>⟨g,0,rfl,ax h0,fun i hi=>?_⟩,fun i=>?_⟩
 ·have C:i<2:=by simpa using hi
  rcases (show i=0∨i=1 by omega) with rfl | rfl
  ·exact ⟨h0,h1⟩
  ·exact ⟨h2,h3⟩
 ·match i with
  | 0=>exact ⟨ha,hb⟩
  | 1=>exact ⟨B,A⟩
  | i+2=>exact ⟨by constructor<;>simp [default],by constructor<;>simp [default]⟩
theorem ow {w:World} {g:Nat} {v0 v1 v2 v3 v4:Value} {c:Cd} (h0:w.cell? ⟨g,0,none⟩=some v0) (h1:w.cell? ⟨g,1,none⟩=some v1) (h2:w.cell? ⟨g,2,none⟩=some v2) (h3:w.cell? ⟨g,3,none⟩=some v3) (h4:w.cell? ⟨g,4,none⟩=some v4) (hc:RepCd w v0 v1 v2 v3 v4 c) :
    RepCds w (.slice (some ⟨g,0,none⟩) 1 1) [c]:=by
 refine ⟨_,1,fun _=>v0,fun _=>v1,fun _=>v2,fun _=>v3,fun _=>v4,rfl,by unfold big;simp,by simp,by unfold gY;omega,fun h=>(by cases h),fun _=>⟨g,0,rfl,ax h0,fun i hi=>?_⟩,fun i hi=>?_⟩
 ·obtain rfl:i=0:=by simpa using hi
  exact ⟨h0,h1,h2,h3,h4⟩
 ·obtain rfl:i=0:=by simpa using hi
  exact hc
theorem vD {w:World} {g:Nat} {v0 v1 v2 v3 v4 x0 x1 x2 x3 x4:Value} {c d:Cd} (h0:w.cell? ⟨g,0,none⟩=some v0) (h1:w.cell? ⟨g,1,none⟩=some v1) (h2:w.cell? ⟨g,2,none⟩=some v2) (h3:w.cell? ⟨g,3,none⟩=some v3) (h4:w.cell? ⟨g,4,none⟩=some v4) (hc:RepCd w v0 v1 v2 v3 v4 c)
    (g0:w.cell? ⟨g,5,none⟩=some x0) (g1:w.cell? ⟨g,6,none⟩=some x1) (g2:w.cell? ⟨g,7,none⟩=some x2) (g3:w.cell? ⟨g,8,none⟩=some x3) (g4:w.cell? ⟨g,9,none⟩=some x4) (hd:RepCd w x0 x1 x2 x3 x4 d) :
    RepCds w (.slice (some ⟨g,0,none⟩) 2 2) [c,d]:=by
 refine ⟨_,2,fun i=>if i=0 then v0 else x0,fun i=>if i=0 then v1 else x1,fun i=>if i=0 then v2 else x2,fun i=>if i=0 then v3 else x3,fun i=>if i=0 then v4 else x4,rfl,by unfold big;simp,by simp,by unfold gY;omega,fun h=>(by cases h),fun _=>⟨g,0,rfl,ax h0,fun i hi=>?_⟩,fun i hi=>?_⟩
 ·have A:i<2:=by simpa using hi
  rcases (show i=0∨i=1 by omega) with rfl | rfl
  ·exact ⟨h0,h1,h2,h3,h4⟩
  ·exact ⟨g0,g1,g2,g3,g4⟩
 ·have A:i<2:=by simpa using hi
  rcases (show i=0∨i=1 by omega) with rfl | rfl
  ·exact hc
  ·exact hd
def cF:Cd:=⟨⟨#[102]⟩,[],0,0,[⟨18,0⟩]⟩
def cG:Cd:=⟨⟨#[103]⟩,[],0,0,[⟨2,1⟩,⟨18,0⟩]⟩
def cN:Cd:=⟨⟨#[]⟩,[],0,-1,[]⟩
theorem AW (m:Mdl):SafeIs cF m true:=by
 unfold SafeIs;rw [if_neg (by decide)];exact .stop rfl
theorem AV (m:Mdl):SafeIs cG m false:=by
 unfold SafeIs;rw [if_neg (by decide)];exact .step rfl (.stop rfl)
theorem Bv {x:Int} (h:ff ⟨[cF],[]⟩ x):x=0:=by
 have hr:eu ⟨[cF],[]⟩=true:=by decide
 rcases h with ⟨h,_⟩ | ⟨_,⟨_,h⟩ | ⟨h,_⟩⟩
 ·rw [hr] at h;cases h
 ·exact h
 ·refine absurd ⟨fun j hj=>?_,by decide⟩ h
  obtain rfl:j=0:=by simpa using hj
  exact AW _
theorem Bh {x:Int} (h:ff ⟨[cF,cG],[]⟩ x):x=131:=by
 have hr:eu ⟨[cF,cG],[]⟩=true:=by decide
 rcases h with ⟨h,_⟩ | ⟨_,⟨h,_⟩ | ⟨_,h⟩⟩
 ·rw [hr] at h;cases h
 ·cases (h.1 1 (by decide)).same (AV _)
 ·exact h
theorem Bu {x:Int} (h:ff ⟨[cN],[]⟩ x):x=111:=by
 have hr:eu ⟨[cN],[]⟩=false:=by decide
 rcases h with ⟨_,h⟩ | ⟨h,_⟩
 ·exact h
 ·rw [hr] at h;cases h
theorem head_any (w:World) (G:Signs w):Calls Tryz.prog 4 #[] w fun e w'=>e=.returned (.bool true)∧Below w.heap.size w w':=by
 have HG:=zh G;clear G;have D:Hd (Below w.heap.size w (((((w.alloc (.cells #[.int .i64 18,.int .i64 0] 35)).alloc (.cells #[.string ⟨#[102]⟩,.slice none 0 0,.int .i64 0,.int .i64 0,.slice (some ⟨w.heap.size,0,none⟩) 1 1] 40)).alloc (.cells #[.int .i64 2,.int .i64 1,.int .i64 18,.int .i64 0] 35)).alloc (.cells #[.string ⟨#[103]⟩,.slice none 0 0,.int .i64 0,.int .i64 0,.slice (some ⟨w.heap.size+1+1,0,none⟩) 2 2] 40)).alloc (.cells #[.string ⟨#[102]⟩,.slice none 0 0,.int .i64 0,.int .i64 0,.slice (some ⟨w.heap.size,0,none⟩) 1 1] 40))):=zh (ag (ag (ag (ag (ag (Below.refl _ _) _) _) _) _) _);have K:Hd (RepCd (((((w.alloc (.cells #[.int .i64 18,.int .i64 0] 35)).alloc (.cells #[.string ⟨#[102]⟩,.slice none 0 0,.int .i64 0,.int .i64 0,.slice (some ⟨w.heap.size,0,none⟩) 1 1] 40)).alloc (.cells #[.int .i64 2,.int .i64 1,.int .i64 18,.int .i64 0] 35)).alloc (.cells #[.string ⟨#[103]⟩,.slice none 0 0,.int .i64 0,.int .i64 0,.slice (some ⟨w.heap.size+1+1,0,none⟩) 2 2] 40)).alloc (.cells #[.string ⟨#[102]⟩,.slice none 0 0,.int .i64 0,.int .i64 0,.slice (some ⟨w.heap.size,0,none⟩) 1 1] 40)) (.string ⟨#[102]⟩) (.slice none 0 0) (.int .i64 0) (.int .i64 0) (.slice (some ⟨w.heap.size,0,none⟩) 1 1) cF):=zh ⟨rfl,(by unfold big;decide),pf _,rfl,rfl,zp (ak _ (ak _ (ak _ (ak _ (aw _ _ _ _ _ _ (by first | rfl | simp only [ah]) rfl))))) (ak _ (ak _ (ak _ (ak _ (aw _ _ _ _ _ _ (by first | rfl | simp only [ah]) rfl))))) (by constructor<;>decide) (by constructor<;>decide),(by constructor<;>decide),(by constructor<;>decide)⟩;have R:Hd (RepCd (((((w.alloc (.cells #[.int .i64 18,.int .i64 0] 35)).alloc (.cells #[.string ⟨#[102]⟩,.slice none 0 0,.int .i64 0,.int .i64 0,.slice (some ⟨w.heap.size,0,none⟩) 1 1] 40)).alloc (.cells #[.int .i64 2,.int .i64 1,.int .i64 18,.int .i64 0] 35)).alloc (.cells #[.string ⟨#[103]⟩,.slice none 0 0,.int .i64 0,.int .i64 0,.slice (some ⟨w.heap.size+1+1,0,none⟩) 2 2] 40)).alloc (.cells #[.string ⟨#[102]⟩,.slice none 0 0,.int .i64 0,.int .i64 0,.slice (some ⟨w.heap.size,0,none⟩) 1 1] 40)) (.string ⟨#[103]⟩) (.slice none 0 0) (.int .i64 0) (.int .i64 0) (.slice (some ⟨w.heap.size+1+1,0,none⟩) 2 2) cG):=zh ⟨rfl,(by unfold big;decide),pf _,rfl,rfl,yq (ak _ (ak _ (aw _ _ _ _ _ _ (by first | rfl | simp only [ah]) rfl))) (ak _ (ak _ (aw _ _ _ _ _ _ (by first | rfl | simp only [ah]) rfl))) (ak _ (ak _ (aw _ _ _ _ _ _ (by first | rfl | simp only [ah]) rfl))) (ak _ (ak _ (aw _ _ _ _ _ _ (by first | rfl | simp only [ah]) rfl))) (by constructor<;>decide) (by constructor<;>decide) (by constructor<;>decide) (by constructor<;>decide),(by constructor<;>decide),(by constructor<;>decide)⟩;have P:Hd (RepMdl (((((w.alloc (.cells #[.int .i64 18,.int .i64 0] 35)).alloc (.cells #[.string ⟨#[102]⟩,.slice none 0 0,.int .i64 0,.int .i64 0,.slice (some ⟨w.heap.size,0,none⟩) 1 1] 40)).alloc (.cells #[.int .i64 2,.int .i64 1,.int .i64 18,.int .i64 0] 35)).alloc (.cells #[.string ⟨#[103]⟩,.slice none 0 0,.int .i64 0,.int .i64 0,.slice (some ⟨w.heap.size+1+1,0,none⟩) 2 2] 40)).alloc (.cells #[.string ⟨#[102]⟩,.slice none 0 0,.int .i64 0,.int .i64 0,.slice (some ⟨w.heap.size,0,none⟩) 1 1] 40)) (.agg #[.slice (some ⟨w.heap.size+1+1+1+1,0,none⟩) 1 1,.slice none 0 0]) ⟨[cF],[]⟩):=zh ⟨_,_,rfl,ow (aw _ _ _ _ _ _ (by first | rfl | simp only [ah]) rfl) (aw _ _ _ _ _ _ (by first | rfl | simp only [ah]) rfl) (aw _ _ _ _ _ _ (by first | rfl | simp only [ah]) rfl) (aw _ _ _ _ _ _ (by first | rfl | simp only [ah]) rfl) (aw _ _ _ _ _ _ (by first | rfl | simp only [ah]) rfl) K.o,lk _⟩;have a10:(((((w.alloc (.cells #[.int .i64 18,.int .i64 0] 35)).alloc (.cells #[.string ⟨#[102]⟩,.slice none 0 0,.int .i64 0,.int .i64 0,.slice (some ⟨w.heap.size,0,none⟩) 1 1] 40)).alloc (.cells #[.int .i64 2,.int .i64 1,.int .i64 18,.int .i64 0] 35)).alloc (.cells #[.string ⟨#[103]⟩,.slice none 0 0,.int .i64 0,.int .i64 0,.slice (some ⟨w.heap.size+1+1,0,none⟩) 2 2] 40)).alloc (.cells #[.string ⟨#[102]⟩,.slice none 0 0,.int .i64 0,.int .i64 0,.slice (some ⟨w.heap.size,0,none⟩) 1 1] 40)).cell? ⟨w.heap.size+1,0,none⟩=some (.string ⟨#[102]⟩):=ak _ (ak _ (ak _ (aw _ _ _ _ _ _ (by first | rfl | simp only [ah]) rfl)));have a11:(((((w.alloc (.cells #[.int .i64 18,.int .i64 0] 35)).alloc (.cells #[.string ⟨#[102]⟩,.slice none 0 0,.int .i64 0,.int .i64 0,.slice (some ⟨w.heap.size,0,none⟩) 1 1] 40)).alloc (.cells #[.int .i64 2,.int .i64 1,.int .i64 18,.int .i64 0] 35)).alloc (.cells #[.string ⟨#[103]⟩,.slice none 0 0,.int .i64 0,.int .i64 0,.slice (some ⟨w.heap.size+1+1,0,none⟩) 2 2] 40)).alloc (.cells #[.string ⟨#[102]⟩,.slice none 0 0,.int .i64 0,.int .i64 0,.slice (some ⟨w.heap.size,0,none⟩) 1 1] 40)).cell? ⟨w.heap.size+1,1,none⟩=some (.slice none 0 0):=ak _ (ak _ (ak _ (aw _ _ _ _ _ _ (by first | rfl | simp only [ah]) rfl)));have a12:(((((w.alloc (.cells #[.int .i64 18,.int .i64 0] 35)).alloc (.cells #[.string ⟨#[102]⟩,.slice none 0 0,.int .i64 0,.int .i64 0,.slice (some ⟨w.heap.size,0,none⟩) 1 1] 40)).alloc (.cells #[.int .i64 2,.int .i64 1,.int .i64 18,.int .i64 0] 35)).alloc (.cells #[.string ⟨#[103]⟩,.slice none 0 0,.int .i64 0,.int .i64 0,.slice (some ⟨w.heap.size+1+1,0,none⟩) 2 2] 40)).alloc (.cells #[.string ⟨#[102]⟩,.slice none 0 0,.int .i64 0,.int .i64 0,.slice (some ⟨w.heap.size,0,none⟩) 1 1] 40)).cell? ⟨w.heap.size+1,2,none⟩=some (.int .i64 0):=ak _ (ak _ (ak _ (aw _ _ _ _ _ _ (by first | rfl | simp only [ah]) rfl)));have a13:(((((w.alloc (.cells #[.int .i64 18,.int .i64 0] 35)).alloc (.cells #[.string ⟨#[102]⟩,.slice none 0 0,.int .i64 0,.int .i64 0,.slice (some ⟨w.heap.size,0,none⟩) 1 1] 40)).alloc (.cells #[.int .i64 2,.int .i64 1,.int .i64 18,.int .i64 0] 35)).alloc (.cells #[.string ⟨#[103]⟩,.slice none 0 0,.int .i64 0,.int .i64 0,.slice (some ⟨w.heap.size+1+1,0,none⟩) 2 2] 40)).alloc (.cells #[.string ⟨#[102]⟩,.slice none 0 0,.int .i64 0,.int .i64 0,.slice (some ⟨w.heap.size,0,none⟩) 1 1] 40)).cell? ⟨w.heap.size+1,3,none⟩=some (.int .i64 0):=ak _ (ak _ (ak _ (aw _ _ _ _ _ _ (by first | rfl | simp only [ah]) rfl)));have a14:(((((w.alloc (.cells #[.int .i64 18,.int .i64 0] 35)).alloc (.cells #[.string ⟨#[102]⟩,.slice none 0 0,.int .i64 0,.int .i64 0,.slice (some ⟨w.heap.size,0,none⟩) 1 1] 40)).alloc (.cells #[.int .i64 2,.int .i64 1,.int .i64 18,.int .i64 0] 35)).alloc (.cells #[.string ⟨#[103]⟩,.slice none 0 0,.int .i64 0,.int .i64 0,.slice (some ⟨w.heap.size+1+1,0,none⟩) 2 2] 40)).alloc (.cells #[.string ⟨#[102]⟩,.slice none 0 0,.int .i64 0,.int .i64 0,.slice (some ⟨w.heap.size,0,none⟩) 1 1] 40)).cell? ⟨w.heap.size+1,4,none⟩=some (.slice (some ⟨w.heap.size,0,none⟩) 1 1):=ak _ (ak _ (ak _ (aw _ _ _ _ _ _ (by first | rfl | simp only [ah]) rfl)));have a30:(((((w.alloc (.cells #[.int .i64 18,.int .i64 0] 35)).alloc (.cells #[.string ⟨#[102]⟩,.slice none 0 0,.int .i64 0,.int .i64 0,.slice (some ⟨w.heap.size,0,none⟩) 1 1] 40)).alloc (.cells #[.int .i64 2,.int .i64 1,.int .i64 18,.int .i64 0] 35)).alloc (.cells #[.string ⟨#[103]⟩,.slice none 0 0,.int .i64 0,.int .i64 0,.slice (some ⟨w.heap.size+1+1,0,none⟩) 2 2] 40)).alloc (.cells #[.string ⟨#[102]⟩,.slice none 0 0,.int .i64 0,.int .i64 0,.slice (some ⟨w.heap.size,0,none⟩) 1 1] 40)).cell? ⟨w.heap.size+1+1+1,0,none⟩=some (.string ⟨#[103]⟩):=ak _ (aw _ _ _ _ _ _ (by first | rfl | simp only [ah]) rfl);have a31:(((((w.alloc (.cells #[.int .i64 18,.int .i64 0] 35)).alloc (.cells #[.string ⟨#[102]⟩,.slice none 0 0,.int .i64 0,.int .i64 0,.slice (some ⟨w.heap.size,0,none⟩) 1 1] 40)).alloc (.cells #[.int .i64 2,.int .i64 1,.int .i64 18,.int .i64 0] 35)).alloc (.cells #[.string ⟨#[103]⟩,.slice none 0 0,.int .i64 0,.int .i64 0,.slice (some ⟨w.heap.size+1+1,0,none⟩) 2 2] 40)).alloc (.cells #[.string ⟨#[102]⟩,.slice none 0 0,.int .i64 0,.int .i64 0,.slice (some ⟨w.heap.size,0,none⟩) 1 1] 40)).cell? ⟨w.heap.size+1+1+1,1,none⟩=some (.slice none 0 0):=ak _ (aw _ _ _ _ _ _ (by first | rfl | simp only [ah]) rfl);have a32:(((((w.alloc (.cells #[.int .i64 18,.int .i64 0] 35)).alloc (.cells #[.string ⟨#[102]⟩,.slice none 0 0,.int .i64 0,.int .i64 0,.slice (some ⟨w.heap.size,0,none⟩) 1 1] 40)).alloc (.cells #[.int .i64 2,.int .i64 1,.int .i64 18,.int .i64 0] 35)).alloc (.cells #[.string ⟨#[103]⟩,.slice none 0 0,.int .i64 0,.int .i64 0,.slice (some ⟨w.heap.size+1+1,0,none⟩) 2 2] 40)).alloc (.cells #[.string ⟨#[102]⟩,.slice none 0 0,.int .i64 0,.int .i64 0,.slice (some ⟨w.heap.size,0,none⟩) 1 1] 40)).cell? ⟨w.heap.size+1+1+1,2,none⟩=some (.int .i64 0):=ak _ (aw _ _ _ _ _ _ (by first | rfl | simp only [ah]) rfl);have a33:(((((w.alloc (.cells #[.int .i64 18,.int .i64 0] 35)).alloc (.cells #[.string ⟨#[102]⟩,.slice none 0 0,.int .i64 0,.int .i64 0,.slice (some ⟨w.heap.size,0,none⟩) 1 1] 40)).alloc (.cells #[.int .i64 2,.int .i64 1,.int .i64 18,.int .i64 0] 35)).alloc (.cells #[.string ⟨#[103]⟩,.slice none 0 0,.int .i64 0,.int .i64 0,.slice (some ⟨w.heap.size+1+1,0,none⟩) 2 2] 40)).alloc (.cells #[.string ⟨#[102]⟩,.slice none 0 0,.int .i64 0,.int .i64 0,.slice (some ⟨w.heap.size,0,none⟩) 1 1] 40)).cell? ⟨w.heap.size+1+1+1,3,none⟩=some (.int .i64 0):=ak _ (aw _ _ _ _ _ _ (by first | rfl | simp only [ah]) rfl);have a34:(((((w.alloc (.cells #[.int .i64 18,.int .i64 0] 35)).alloc (.cells #[.string ⟨#[102]⟩,.slice none 0 0,.int .i64 0,.int .i64 0,.slice (some ⟨w.heap.size,0,none⟩) 1 1] 40)).alloc (.cells #[.int .i64 2,.int .i64 1,.int .i64 18,.int .i64 0] 35)).alloc (.cells #[.string ⟨#[103]⟩,.slice none 0 0,.int .i64 0,.int .i64 0,.slice (some ⟨w.heap.size+1+1,0,none⟩) 2 2] 40)).alloc (.cells #[.string ⟨#[102]⟩,.slice none 0 0,.int .i64 0,.int .i64 0,.slice (some ⟨w.heap.size,0,none⟩) 1 1] 40)).cell? ⟨w.heap.size+1+1+1,4,none⟩=some (.slice (some ⟨w.heap.size+1+1,0,none⟩) 2 2):=ak _ (aw _ _ _ _ _ _ (by first | rfl | simp only [ah]) rfl);go_enter Tryz.func4,Tryz.ntmps4
 go_wp2_with fail
 refine (check_any _ _ _ P.o (HG.o.below D.o)).mono ?_;rintro e w2 ⟨x,rfl,hx,E⟩;obtain rfl:=Bv hx;have L:=zh E;obtain ⟨A,_,M⟩:=tH E;have b10:=(A _ 0 (ax a10)).trans a10;have b11:=(A _ 1 (ax a11)).trans a11;have b12:=(A _ 2 (ax a12)).trans a12;have b13:=(A _ 3 (ax a13)).trans a13;have b14:=(A _ 4 (ax a14)).trans a14;have b30:=(A _ 0 (ax a30)).trans a30;have b31:=(A _ 1 (ax a31)).trans a31;have b32:=(A _ 2 (ax a32)).trans a32;have b33:=(A _ 3 (ax a33)).trans a33;have b34:=(A _ 4 (ax a34)).trans a34;have C:=zh (ay D.o E);have J:=zh (ag (b:=w2) (Below.refl _ _) (.cells #[.string ⟨#[102]⟩,.slice none 0 0,.int .i64 0,.int .i64 0,.slice (some ⟨w.heap.size,0,none⟩) 1 1,.string ⟨#[103]⟩,.slice none 0 0,.int .i64 0,.int .i64 0,.slice (some ⟨w.heap.size+1+1,0,none⟩) 2 2] 40));have S:Hd (RepCd (w2.alloc (.cells #[.string ⟨#[102]⟩,.slice none 0 0,.int .i64 0,.int .i64 0,.slice (some ⟨w.heap.size,0,none⟩) 1 1,.string ⟨#[103]⟩,.slice none 0 0,.int .i64 0,.int .i64 0,.slice (some ⟨w.heap.size+1+1,0,none⟩) 2 2] 40)) (.string ⟨#[102]⟩) (.slice none 0 0) (.int .i64 0) (.int .i64 0) (.slice (some ⟨w.heap.size,0,none⟩) 1 1) cF):=zh ((K.o.later L.o).later J.o);have Q:Hd (RepCd (w2.alloc (.cells #[.string ⟨#[102]⟩,.slice none 0 0,.int .i64 0,.int .i64 0,.slice (some ⟨w.heap.size,0,none⟩) 1 1,.string ⟨#[103]⟩,.slice none 0 0,.int .i64 0,.int .i64 0,.slice (some ⟨w.heap.size+1+1,0,none⟩) 2 2] 40)) (.string ⟨#[103]⟩) (.slice none 0 0) (.int .i64 0) (.int .i64 0) (.slice (some ⟨w.heap.size+1+1,0,none⟩) 2 2) cG):=zh ((R.o.later L.o).later J.o);have O:Hd (RepMdl (w2.alloc (.cells #[.string ⟨#[102]⟩,.slice none 0 0,.int .i64 0,.int .i64 0,.slice (some ⟨w.heap.size,0,none⟩) 1 1,.string ⟨#[103]⟩,.slice none 0 0,.int .i64 0,.int .i64 0,.slice (some ⟨w.heap.size+1+1,0,none⟩) 2 2] 40)) (.agg #[.slice (some ⟨w2.heap.size,0,none⟩) 2 2,.slice none 0 0]) ⟨[cF,cG],[]⟩):=zh ⟨_,_,rfl,vD (aw _ _ _ _ _ _ (by first | rfl | simp only [ah]) rfl) (aw _ _ _ _ _ _ (by first | rfl | simp only [ah]) rfl) (aw _ _ _ _ _ _ (by first | rfl | simp only [ah]) rfl) (aw _ _ _ _ _ _ (by first | rfl | simp only [ah]) rfl) (aw _ _ _ _ _ _ (by first | rfl | simp only [ah]) rfl) S.o (aw _ _ _ _ _ _ (by first | rfl | simp only [ah]) rfl) (aw _ _ _ _ _ _ (by first | rfl | simp only [ah]) rfl) (aw _ _ _ _ _ _ (by first | rfl | simp only [ah]) rfl) (aw _ _ _ _ _ _ (by first | rfl | simp only [ah]) rfl) (aw _ _ _ _ _ _ (by first | rfl | simp only [ah]) rfl) Q.o,lk _⟩;clear hx E A M a10 a11 a12 a13 a14 a30 a31 a32 a33 a34;go_wp2_with fail
 refine (check_any _ _ _ O.o (HG.o.below (ag C.o _))).mono ?_;rintro e w3 ⟨x,rfl,hx,I⟩;obtain rfl:=Bh hx;have B:=zh (ay (ag C.o (.cells #[.string ⟨#[102]⟩,.slice none 0 0,.int .i64 0,.int .i64 0,.slice (some ⟨w.heap.size,0,none⟩) 1 1,.string ⟨#[103]⟩,.slice none 0 0,.int .i64 0,.int .i64 0,.slice (some ⟨w.heap.size+1+1,0,none⟩) 2 2] 40)) I);have N:Hd (RepMdl (w3.alloc (.cells #[.string ⟨#[]⟩,.slice none 0 0,.int .i64 0,.int .i64 (-1),.slice none 0 0] 40)) (.agg #[.slice (some ⟨w3.heap.size,0,none⟩) 1 1,.slice none 0 0]) ⟨[cN],[]⟩):=zh ⟨_,_,rfl,ow (aw _ _ _ _ _ _ (by first | rfl | simp only [ah]) rfl) (aw _ _ _ _ _ _ (by first | rfl | simp only [ah]) rfl) (aw _ _ _ _ _ _ (by first | rfl | simp only [ah]) rfl) (aw _ _ _ _ _ _ (by first | rfl | simp only [ah]) rfl) (aw _ _ _ _ _ _ (by first | rfl | simp only [ah]) rfl) ⟨rfl,(by unfold big;decide),pf _,rfl,rfl,zu _,(by constructor<;>decide),(by constructor<;>decide)⟩,lk _⟩;clear hx I b10 b11 b12 b13 b14 b30 b31 b32 b33 b34;go_wp2_with fail
 refine (check_any _ _ _ N.o (HG.o.below (ag B.o _))).mono ?_;rintro e w4 ⟨x,rfl,hx,H⟩;obtain rfl:=Bu hx;have F:=zh (ay (ag B.o (.cells #[.string ⟨#[]⟩,.slice none 0 0,.int .i64 0,.int .i64 (-1),.slice none 0 0] 40)) H);clear hx H;go_wp2_with fail
 go_ret
 exact ⟨rfl,F.o⟩
end Vf
section
open Go.RowKit Go.MapKept
def pP (e:MapEntry):Value×Value:=(e.key,e.val)
def rM (p:ByteArray×Value):Value×Value:=(.string p.1,p.2)
def MapAt (w:World) (r:Nat) (m:List (ByteArray×Value)):Prop:=∃es clock,w.heap[r]?=some (.map es clock)∧es.toList.map pP=m.map rM
theorem MapAt.keep {w w':World} {r:Nat} {m:List (ByteArray×Value)} (h:MapAt w r m) (hb:w'.heap[r]?=w.heap[r]?):MapAt w' r m:=by
 obtain ⟨es,c,h1,h2⟩:=h;exact ⟨es,c,hb.trans h1,h2⟩
theorem MapAt.lt {w:World} {r:Nat} {m:List (ByteArray×Value)} (h:MapAt w r m):r<w.heap.size:=by
 obtain ⟨es,c,h1,_⟩:=h;exact ae h1
theorem MapAt.below {w w':World} {r:Nat} {m:List (ByteArray×Value)} (h:MapAt w r m) (hb:Below w.heap.size w w'):MapAt w' r m:=h.keep (hb.block r h.lt)
theorem MapAt.made (w:World) {n:Nat} (h:w.heap.size=n):MapAt (w.alloc (.map #[] 0)) n []:=⟨#[],0,am _ _ _ h,rfl⟩
theorem gO (k:ByteArray) (x:Value):∀(l:List MapEntry) (m:List (ByteArray×Value)) (i:Nat),l.map pP=m.map rM →
    (aI m k=none∧Instr.findNow .string (.string k) l i=some none∧bQ m k x=m++[(k,x)]) ∨
    ∃j v e,aI m k=some v∧Instr.findNow .string (.string k) l i=some (some (i+j,v))∧l[j]?=some e∧e.key=.string k∧(l.modify j fun e=>{ e with key:=.string k,val:=x }).map pP=(bQ m k x).map rM
 | [],[],i,_=>.inl ⟨rfl,rfl,rfl⟩
 | [],_ :: _,_,h=>by simp at h
 | _ :: _,[],_,h=>by simp at h
 | e :: l,p :: m,i,h=>by
  simp only [List.map_cons,List.cons.injEq] at h
  obtain ⟨h1,h2⟩:=h;have hk:e.key=.string p.1:=congrArg Prod.fst h1;have hv:e.val=p.2:=congrArg Prod.snd h1;obtain ⟨rr,hs,A⟩:=sameNow_of_keys (d:=.string) (a:=.string k) (b:=e.key) (by simp [IsKey]) (by rw [hk];simp [IsKey]);by_cases q:p.1=k
  ·refine .inr ⟨0,p.2,e,by simp [aI,q],?_,rfl,by rw [hk,q],?_⟩
   ·unfold Instr.findNow
    rw [hs,A.2 (by rw [hk,q])];simp [hv]
   ·simp only [bQ,if_pos q,List.modify_zero_cons,List.map_cons]
    rw [h2];simp [pP,rM,q]
  ·obtain rfl:rr=false:=by
     cases rr with
     | false=>rfl
     | true=>exact absurd (by have:=A.1 rfl;rw [hk] at this;injection this with this;exact this.symm) q
   rcases gO k x l m (i+1) h2 with ⟨a1,a2,a3⟩ | ⟨j,v,e',a1,a2,a3,a4,a5⟩
   ·refine .inl ⟨by simp [aI,q,a1],?_,by simp [bQ,q,a3]⟩
    unfold Instr.findNow;rw [hs];exact a2
   ·refine .inr ⟨j+1,v,e',by simp [aI,q,a1],?_,by simpa using a3,a4,?_⟩
    ·unfold Instr.findNow
     rw [hs];simp only [a2]
     rw [show i+1+j=i+(j+1) by omega]
    ·simp only [bQ,if_neg q,List.modify_succ_cons,List.map_cons]
     rw [a5,h1]
section
variable {P:Program} {w:World} {r:Nat} {m:List (ByteArray×Value)} {mt kt et:TypeId}
theorem fO (h:MapAt w r m) (hm:P.underlying mt=some (.map kt et)) (hk:P.underlying kt=some .string) {z:Value} (hz:(zeroValue et).run P w=.ok z w) (k:ByteArray) :
    (Instr.lookup mt (.map (some r)) (.string k) true).run P w=.ok (.tuple #[(aI m k).getD z,.bool (aI m k).isSome]) w:=by
 obtain ⟨es,c,h1,h2⟩:=h;rcases gO k .nilIface es.toList m 0 h2 with ⟨a1,a2,_⟩ | ⟨j,v,e,a1,a2,_⟩
 ·simp [Instr.lookup,run_underlying hm,Go.MapKept.run_getObj_map h1,run_checkKey hk (k:=.string k) (by simp [IsKey]),run_findKey hk a2,hz,Result.andThen,a1]
 ·simp [Instr.lookup,run_underlying hm,Go.MapKept.run_getObj_map h1,run_checkKey hk (k:=.string k) (by simp [IsKey]),run_findKey hk a2,Result.andThen,a1]
def gI (w:World) (r:Nat) (k:ByteArray) (x:Value):World:=match w.heap[r]? with
 | some (.map es c)=>(match Instr.findNow .string (.string k) es.toList 0 with
   | some (some (i,_))=>{ w with heap:=w.heap.setIfInBounds r (.map (es.modify i fun e=>{ e with key:=.string k,val:=x }) c) }
   | _=>{ w with heap:=w.heap.setIfInBounds r (.map (es.push { key:=.string k,val:=x,born:=c }) (c+1)) })
 | _=>w
theorem jZ (w:World) (r:Nat) (k:ByteArray) (x:Value):On r w (gI w r k x):=by
 unfold gI;split
 ·rename_i es c h
  split
  ·exact ⟨rfl,rfl,rfl,by simp,fun i hi A=>by
     have:i≠r:=fun e=>A (by rw [e]);simp [Array.getElem?_setIfInBounds_ne (Ne.symm this)]⟩
  ·exact ⟨rfl,rfl,rfl,by simp,fun i hi A=>by
     have:i≠r:=fun e=>A (by rw [e]);simp [Array.getElem?_setIfInBounds_ne (Ne.symm this)]⟩
 ·exact On.refl _ _
theorem lP (h:MapAt w r m) (k:ByteArray) (x:Value):MapAt (gI w r k x) r (bQ m k x):=by
 obtain ⟨es,c,h1,h2⟩:=h;have A:=ae h1;unfold gI;rw [h1];rcases gO k x es.toList m 0 h2 with ⟨a1,a2,a3⟩ | ⟨j,v,e,a1,a2,a3,a4,a5⟩
 ·simp only [a2]
  refine ⟨_,_,(heap_set h1).1,?_⟩;rw [a3];simp [h2,pP,rM]
 ·simp only [a2,Nat.zero_add]
  refine ⟨_,_,(heap_set h1).1,?_⟩;rw [←a5];simp
theorem i9 (h:MapAt w r m) (hm:P.underlying mt=some (.map kt et)) (hk:P.underlying kt=some .string) (k:ByteArray) (x:Value) :
    (Instr.mapUpdate mt (.map (some r)) (.string k) x).run P w=.ok () (gI w r k x):=by
 obtain ⟨es,c,h1,h2⟩:=h;rcases gO k x es.toList m 0 h2 with ⟨a1,a2,_⟩ | ⟨j,v,e,a1,a2,a3,a4,a5⟩
 ·have e2:gI w r k x={ w with heap:=w.heap.setIfInBounds r (.map (es.push { key:=.string k,val:=x,born:=c }) (c+1)) }:=by
    unfold gI;rw [h1];simp only [a2]
  rw [e2];simp [Instr.mapUpdate,run_underlying hm,Go.MapKept.run_getObj_map h1,run_checkKey hk (k:=.string k) (by simp [IsKey]),run_findKey hk a2,Result.andThen,Go.MapKept.run_setObj_map _ h1]
 ·have e2:gI w r k x={ w with heap:=w.heap.setIfInBounds r (.map (es.modify j fun e=>{ e with key:=.string k,val:=x }) c) }:=by
    unfold gI;rw [h1];simp only [a2,Nat.zero_add]
  rw [Nat.zero_add] at a2;rw [e2];have a3':es[j]?=some e:=by rw [←a3];simp
  have A:(Instr.keyThatStays (.string k) (.string k)).run P w=.ok (.string k) w:=by
   unfold Instr.keyThatStays;rw [if_pos (by simp [Instr.sameBits,bytes_beq])];simp
  simp [Instr.mapUpdate,run_underlying hm,Go.MapKept.run_getObj_map h1,run_checkKey hk (k:=.string k) (by simp [IsKey]),run_findKey hk a2,Result.andThen,Go.MapKept.run_setObj_map _ h1,a3',a4,A]
end
end
section
open Go.RowKit
def Turns (B M NB:Nat) (w:World) (k:Nat):Prop:=B≤k∧(k=NB∨OfTy w k 63∨OfTy w k 56∨(OfTy w k 35∧M≤k)∨OfTy w k 22)
def Fx (B M NB:Nat) (w w':World):Prop:=OnS (Turns B M NB w) w w'
section
variable {B M NB:Nat} {a b c w w':World}
theorem Turns.back (h:Fx B M NB a b) {k:Nat} (hk:Turns B M NB b k):Turns B M NB a k∨a.heap.size≤k:=by
 by_cases hl:a.heap.size≤k
 ·exact .inr hl
 ·by_cases ht:Turns B M NB a k
  ·exact .inl ht
  ·have e:=h.block k (by omega) ht
   exact .inl ⟨hk.1,hk.2.imp id (fun q=>q.imp (fun q=>q.keep e.symm) (fun q=>q.imp (fun q=>q.keep e.symm) (fun q=>q.imp (fun q=>⟨q.1.keep e.symm,q.2⟩) (fun q=>q.keep e.symm))))⟩
theorem Fx.refl (B M NB:Nat) (w:World):Fx B M NB w w:=OnS.refl _ _
theorem Fx.trans (h:Fx B M NB a b) (g:Fx B M NB b c):Fx B M NB a c:=OnS.new h g fun _ hk=>Turns.back h hk
theorem Fx.of_below (h:Below w.heap.size w w'):Fx B M NB w w':=OnS.of_below h
theorem Fx.below (h:Fx B M NB w w') (hB:B≤w.heap.size):Below B w w':=⟨h.os,h.tape,h.output,h.size,fun i hi=>h.block i (by omega) (fun q=>by have:=q.1;omega)⟩
theorem Fx.set (h:Fx B M NB a b) {k:Nat} (hk:Turns B M NB b k) (j:Nat) (u:Value):Fx B M NB a (b.setCell ⟨k,j,none⟩ u):=h.trans (OnS.set (OnS.refl _ _) hk j u)
theorem Fx.alloc (h:Fx B M NB a b) (o:Obj):Fx B M NB a (b.alloc o):=h.trans (Fx.of_below (ag (Below.refl _ _) o))
theorem Fx.drew (h:Fx B M NB a b):Fx B M NB a b.drew:=⟨h.os,h.tape,h.output,h.size,h.block⟩
theorem Fx.obj (h:Fx B M NB w w') {k:Nat} {A:Array Value} {t:TypeId} {fz:Nat×Nat} (ho:w.heap[k]?=some (.cells A t fz)) (hn:k≠NB) (h1:t≠63) (h2:t≠56) (h3:t≠35) (h4:t≠22):w'.heap[k]?=some (.cells A t fz):=
 OnS.obj h (fun q=>by
   have ht:OfTy w k t:=⟨_,_,ho⟩
   rcases q.2 with q | q | q | q | q
   · exact hn q
   · exact ht.ne q h1 rfl
   · exact ht.ne q h2 rfl
   · exact ht.ne q.1 h3 rfl
   · exact ht.ne q h4 rfl) ho
theorem Fx.ins (h:Fx B M NB w w') {k:Nat} {A:Array Value} {fz:Nat×Nat} (ho:w.heap[k]?=some (.cells A 35 fz)) (hn:k≠NB) (hk:k<M):w'.heap[k]?=some (.cells A 35 fz):=
 OnS.obj h (fun q=>by
   have ht:OfTy w k 35:=⟨_,_,ho⟩
   rcases q.2 with q | q | q | q | q
   · exact hn q
   · exact ht.ne q (by decide) rfl
   · exact ht.ne q (by decide) rfl
   · have:=q.2;omega
   · exact ht.ne q (by decide) rfl) ho
theorem Fx.map (h:Fx B M NB w w') {k:Nat} {es:Array MapEntry} {cl:Nat} (ho:w.heap[k]?=some (.map es cl)) (hn:k≠NB):w'.heap[k]?=some (.map es cl):=
 OnS.obj h (fun q=>by
   rcases q.2 with q | ⟨_,_,q⟩ | ⟨_,_,q⟩ | ⟨⟨_,_,q⟩,_⟩ | ⟨_,_,q⟩
   · exact hn q
   all_goals rw [ho] at q;injection q with q;cases q) ho
theorem MapAt.fx (h:Fx B M NB w w') {k:Nat} {m:List (ByteArray×Value)} (hm:MapAt w k m) (hn:k≠NB):MapAt w' k m:=by
 obtain ⟨es,cl,h1,h2⟩:=hm;exact ⟨es,cl,h.map h1 hn,h2⟩
end
def fI (l:List Ins):List Value:=l.flatMap fun i=>[.int .i64 i.op,.int .i64 i.a]
theorem uj (l:List Ins) (i:Ins):fI (l++[i])=fI l++[.int .i64 i.op,.int .i64 i.a]:=by simp [fI]
theorem lQ:∀(l:List Ins) (i:Nat),i<l.length→(fI l)[i * 2]?=some (.int .i64 (l.getD i default).op)∧(fI l)[i * 2+1]?=some (.int .i64 (l.getD i default).a)
 | x :: l,0,_=>⟨rfl,rfl⟩
 | x :: l,i+1,h=>by
  have q:=lQ l i (by simpa using h);rw [show fI (x :: l)=[.int .i64 x.op,.int .i64 x.a]++fI l from rfl];refine ⟨?_,?_⟩
  ·rw [List.getElem?_append_right (by simp;omega),show (i+1)*2 - [Value.int .i64 x.op,Value.int .i64 x.a].length=i * 2 by simp;omega]
   exact q.1
  ·rw [List.getElem?_append_right (by simp;omega),show (i+1)*2+1 - [Value.int .i64 x.op,Value.int .i64 x.a].length=i * 2+1 by simp;omega]
   exact q.2
theorem qY:∀(l:List Ins) (i:Nat) (n:Int),i<l.length→(fI l).set (i * 2+1) (.int .i64 n)=fI (l.set i ⟨(l.getD i default).op,n⟩)
 | x :: l,0,n,_=>rfl
 | x :: l,i+1,n,h=>by
  have q:=qY l i n (by simpa using h);rw [show fI (x :: l)=.int .i64 x.op :: .int .i64 x.a :: fI l from rfl,show (i+1)*2+1=(i * 2+1)+1+1 by omega,List.set_cons_succ,List.set_cons_succ,q];rfl
def ByAt (B:Nat) (w:World) (v:Value) (t:ByteArray):Prop:=
 ∃b cap,v=.slice (some ⟨b,0,none⟩) t.size cap∧(t.size≤cap∧(t.size≤maxLen→cap≤maxLen))∧B≤b∧OfTy w b 5∧∀i,i<t.size→w.cell? ⟨b,i,none⟩=some (.int .u8 (t.data.toList.getD i 0).toNat)
theorem ByAt.fx {B M NB:Nat} {w w':World} {v:Value} {t:ByteArray} (h:ByAt B w v t) (hf:Fx B M NB w w') (hn:∀t,¬OfTy w NB t):ByAt B w' v t:=by
 obtain ⟨b,cap,h1,h2,h3,⟨arr,fz,h4⟩,h5⟩:=h;have hb:b≠NB:=fun e=>hn _ ⟨arr,fz,e▸h4⟩;have h6:=hf.obj h4 hb (by decide) (by decide) (by decide) (by decide);refine ⟨b,cap,h1,h2,h3,⟨arr,fz,h6⟩,fun i hi=>?_⟩;rw [World.cell?_of_block (w:=w) (h6.trans h4.symm)];exact h5 i hi
def iC:Nat→List ByteArray→List (ByteArray×Value)
 | _,[]=>[]
 | n,t :: l=>(t,.int .i64 (n:Int)) :: iC (n+1) l
theorem mh:∀(l:List ByteArray) (n:Nat) (t:ByteArray),aI (iC n l) t=if lL l t then some (.int .i64 ((n+dR l t:Nat):Int)) else none
 | [],_,_=>rfl
 | x :: l,n,t=>by
  rw [iC,aI,dR,lL];by_cases h:x=t
  ·rw [if_pos h,if_pos h,if_pos h];rfl
  ·rw [if_neg h,if_neg h,if_neg h,mh l (n+1) t,show n+1+dR l t=n+(dR l t+1) by omega]
theorem oI:∀(l:List ByteArray) (n:Nat) (t:ByteArray),lL l t=false→bQ (iC n l) t (.int .i64 ((n+l.length:Nat):Int))=iC n (l++[t])
 | [],n,t,_=>rfl
 | x :: l,n,t,h=>by
  rw [lL] at h;by_cases e:x=t
  ·rw [if_pos e] at h;cases h
  rw [if_neg e] at h;rw [iC,bQ,if_neg e,List.cons_append,iC,List.length_cons,show n+(l.length+1)=n+1+l.length by omega,oI l (n+1) t h]
theorem oK:∀(l:List ByteArray) (t:ByteArray),lL l t=false→dR (l++[t]) t=l.length
 | [],t,_=>by simp [dR]
 | x :: l,t,h=>by
  rw [lL] at h;by_cases e:x=t
  ·rw [if_pos e] at h;cases h
  rw [if_neg e] at h;rw [List.cons_append,dR,if_neg e,oK l t h];rfl
structure MkAt (B M:Nat) (w:World) (MB TB NB:Nat) (fv:Value) (s:CS):Prop where
 bm:B≤MB
 mm:B≤M
 ml:M≤MB
 bt:B≤TB
 bn:B≤NB
 m:∃iv,w.heap[MB]?=some (.cells #[.pointer (some ⟨TB,0,none⟩),fv,iv,.int .i64 s.slots] 63 (0,0))∧w.ownsRow M 35 2 iv s.ins.length (fI s.ins)
 t:∃tv vs,w.heap[TB]?=some (.cells #[tv,.map (some NB)] 56 (0,0))∧w.ownsRow B 22 1 tv s.texts.length vs∧∀i,i<s.texts.length→∃v,vs[i]?=some v∧ByAt B w v (s.texts.getD i default)
 n:MapAt w NB (iC 0 s.texts)
section
variable {B M MB TB NB:Nat} {w w':World} {fv:Value} {s:CS}
theorem MapAt.noTy {r:Nat} {m:List (ByteArray×Value)} (h:MapAt w r m):∀t,¬OfTy w r t:=fun t ⟨_,_,q⟩=>by
 obtain ⟨_,_,h,_⟩:=h;rw [h] at q;injection q with q
 cases q
theorem MkAt.mTurns (h:MkAt B M w MB TB NB fv s):Turns B M NB w MB:=by
 obtain ⟨iv,h1,_⟩:=h.m;exact ⟨h.bm,.inr (.inl ⟨_,_,h1⟩)⟩
theorem MkAt.below (h:MkAt B M w MB TB NB fv s) (hb:Below w.heap.size w w'):MkAt B M w' MB TB NB fv s:=by
 obtain ⟨iv,h1,h2⟩:=h.m;obtain ⟨tv,vs,h3,h4,h5⟩:=h.t
 exact ⟨h.bm,h.mm,h.ml,h.bt,h.bn,⟨iv,(hb.block _ (ae h1)).trans h1,cS h2 (Stays.of_below hb)⟩,⟨tv,vs,(hb.block _ (ae h3)).trans h3,cS h4 (Stays.of_below hb),fun i hi=>by
   obtain ⟨v,q1,q2⟩:=h5 i hi;exact ⟨v,q1,q2.fx (Fx.of_below hb:Fx B M NB w w') h.n.noTy⟩⟩,h.n.below hb⟩
end
end
end Go.Proofs.YtmlgbkomdhcaoaaGreatDoor
