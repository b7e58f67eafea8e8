/-
  EvalSigns: part 43 of its proof: see the last text.
-/
import Derived.Test.YthgcpfkochikfaaGreatPs42
import Derived.Test.YthgcpfkochikfaaGreatPs09
import Derived.Deep.QuietTactic
import Derived.BigQuiet
import Derived.KernelRfl
set_option maxRecDepth 100000
set_option maxHeartbeats 16000000
namespace Go.Proofs.YthgcpfkochikfaaGreat
section
open Go.RowKit
attribute [local go_sem ↓] Go.wp_at_zero Go.wp_at_succ
def gO (p:Vv×Int):Ending:=.returned (.tuple #[.agg #[.int .i64 p.1.ty,.int .i64 p.1.num,.slice none 0 0],.int .i64 p.2])
theorem jG {n:Int} (h:-9223372036854775808≤n∧n≤9223372036854775807):inV n=(aB n,0):=if_pos h
theorem pA {n:Int} (h:¬(-9223372036854775808≤n∧n≤9223372036854775807)):inV n=(noV,3):=if_neg h
theorem bV (n:Int):gO (aB n,0)=.returned (.tuple #[.agg #[.int .i64 1,.int .i64 n,.slice none 0 0],.int .i64 0]):=rfl
theorem eu (t:Int):gO (noV,t)=.returned (.tuple #[.agg #[.int .i64 0,.int .i64 0,.slice none 0 0],.int .i64 t]):=rfl
theorem dK (n:Int) (w:World):Calls Tryz.prog 58 #[.int .i64 n,.bool true] w fun e w'=>e=gO (aB n,0)∧Below w.heap.size w w':=by
 have HN:Hd (∀W,Calls Tryz.prog 14 #[.int .i64 n] W _):=zh (fun W=>ed n W);have HR:Hd ((w.alloc (.cells #[.int .i64 0,.int .i64 0,.slice none 0 0] 35)).heap[w.heap.size]?=some (.cells #[.int .i64 0,.int .i64 0,.slice none 0 0] 35 (0,0))):=zh (aj _ _ _ rfl);have HB:=zh (ag (Below.refl w.heap.size w) (.cells #[.int .i64 0,.int .i64 0,.slice none 0 0] 35));go_enter Tryz.func58,Tryz.ntmps58
 go_wp2_with fail
 refine (HN.o _).mono ?_;rintro e w1 ⟨rfl,B⟩;have A:=zh ((B.block _ (af HR.o)).trans HR.o);have C:=zh (HB.o.trans (B.mono HB.o.size));clear B;have x0:=aa A.o (j:=0) (u:=.int .i64 0) rfl;have x1:=aa A.o (j:=1) (u:=.int .i64 0) rfl;have x2:=aa A.o (j:=2) (u:=.slice none 0 0) rfl;have f0:=ae A.o 0;have f1:=ae A.o 1;have f2:=ae A.o 2;go_wp2_with fail
 obtain ⟨c0,c1,c2⟩:=bN A.o (.int .i64 1) (.int .i64 n) (.slice none 0 0);refine bodyPost_ret (v:=.tuple #[.agg #[.int .i64 1,.int .i64 n,.slice none 0 0],.int .i64 0]) (by simp [results,Tryz.results58,go_sem,c0,c1,c2]) rfl ⟨rfl,dp (dp (dp C.o (Nat.le_refl _) _) (Nat.le_refl _) _) (Nat.le_refl _) _⟩
theorem gf (n:Int) (w:World):Calls Tryz.prog 58 #[.int .i64 n,.bool false] w fun e w'=>e=gO (noV,3)∧Below w.heap.size w w':=by
 go_enter Tryz.func58,Tryz.ntmps58
 go_wp2_with fail
 exact bodyPost_ret (v:=.tuple #[.agg #[.int .i64 0,.int .i64 0,.slice none 0 0],.int .i64 3]) (by simp [results,Tryz.results58,go_sem]) rfl ⟨rfl,by repeat (first | exact Below.refl _ _ | refine dp ?_ (Nat.le_refl _) _ | refine ag ?_ _)⟩
theorem sV {a b m:Int} (hb:-9223372036854775808≤b∧b≤9223372036854775807) (h0:b≠0) (hm:m=(a * b+9223372036854775808) % 18446744073709551616-9223372036854775808) (hq:m.tdiv b=a):m=a * b:=by
 have h1:=Int.mul_tdiv_add_tmod m b;rw [hq] at h1;have h2:b * a=a * b:=Int.mul_comm b a;rw [h2] at h1
 have h3:(m.tmod b).natAbs<b.natAbs:=by
  rw [Int.natAbs_tmod];exact Nat.mod_lt _ (by omega)
 omega
theorem wj {a b:Int} (ha:-9223372036854775808≤a∧a≤9223372036854775807) (hb:-9223372036854775808≤b∧b≤9223372036854775807) (h0:b≠0) (hy:¬(b=-1∧a=-9223372036854775808)):(wrap64 ((wrap64 (a * b)).tdiv b)==a)=decide (-9223372036854775808≤a * b∧a * b≤9223372036854775807):=by
 generalize hm:wrap64 (a * b)=m;have A:m=(a * b+9223372036854775808) % 18446744073709551616-9223372036854775808:=by rw [←hm];unfold wrap64;rfl
 have hr:-9223372036854775808≤m∧m≤9223372036854775807:=by omega
 rw [Bool.eq_iff_iff,beq_iff_eq,decide_eq_true_iff];constructor
 ·intro h
  have hn:(m.tdiv b).natAbs=m.natAbs / b.natAbs:=Int.natAbs_tdiv m b;have B:m.natAbs / b.natAbs≤m.natAbs:=Nat.div_le_self _ _;by_cases hq:m.tdiv b=9223372036854775808
  ·exfalso
   have e1:m.natAbs=9223372036854775808:=by omega
   have e2:m=-9223372036854775808:=by omega
   have e3:b.natAbs=1:=by
    rw [hq,e1] at hn;by_cases h2:2≤b.natAbs
    ·have:9223372036854775808 / b.natAbs≤9223372036854775808 / 2:=Nat.div_le_div_left h2 (by decide)
     omega
    ·omega
   have e4:a=-9223372036854775808:=by rw [←h,hq];unfold wrap64;omega
   rcases (show b=1∨b=-1 by omega) with e5 | e5
   ·rw [e5,Int.tdiv_one] at hq;omega
   ·exact hy ⟨e5,e4⟩
  ·have hw:wrap64 (m.tdiv b)=m.tdiv b:=by unfold wrap64;omega
   rw [hw] at h;have:=sV hb h0 A h;omega
 ·intro h
  have e:m=a * b:=by omega
  rw [e,Int.mul_tdiv_cancel _ h0];unfold wrap64;omega
theorem sd (a b:Int) (w:World) (ha:bf a) (hb:bf b):Calls Tryz.prog 59 #[.int .i64 a,.int .i64 b] w fun e w'=>∃n q,e=.returned (.tuple #[.int .i64 n,.bool q])∧(q=true→inV (a * b)=(aB n,0))∧(q=false→inV (a * b)=(noV,3))∧Below w.heap.size w w':=by
 unfold bf at ha hb;go_enter Tryz.func59,Tryz.ntmps59
 by_cases C:a=0
 ·subst C
  go_wp2_with fail
  exact bodyPost_ret (v:=.tuple #[.int .i64 0,.bool true]) (by simp [results,Tryz.results59,go_sem]) rfl ⟨0,true,rfl,fun _=>by rw [Int.zero_mul];rfl,fun h=>(by cases h),Below.refl _ _⟩
 have fa0:(a==0)=false:=by simpa using C
 by_cases B:b=0
 ·subst B
  go_wp2_with fail
  exact bodyPost_ret (v:=.tuple #[.int .i64 0,.bool true]) (by simp [results,Tryz.results59,go_sem]) rfl ⟨0,true,rfl,fun _=>by rw [Int.mul_zero];rfl,fun h=>(by cases h),Below.refl _ _⟩
 have fb0:(b==0)=false:=by simpa using B
 by_cases h1:a=-1∧b=-9223372036854775808
 ·obtain ⟨rfl,rfl⟩:=h1
  go_wp2_with fail
  exact bodyPost_ret (v:=.tuple #[.int .i64 0,.bool false]) (by simp [results,Tryz.results59,go_sem]) rfl ⟨0,false,rfl,fun h=>(by cases h),fun _=>rfl,Below.refl _ _⟩
 by_cases h2:b=-1∧a=-9223372036854775808
 ·obtain ⟨rfl,rfl⟩:=h2
  go_wp2_with fail
  exact bodyPost_ret (v:=.tuple #[.int .i64 0,.bool false]) (by simp [results,Tryz.results59,go_sem]) rfl ⟨0,false,rfl,fun h=>(by cases h),fun _=>rfl,Below.refl _ _⟩
 have f1:(a==-1)=false∨((a==-1)=true∧(b==-9223372036854775808)=false):=by simp;omega
 have f2:(b==-1)=false∨((b==-1)=true∧(a==-9223372036854775808)=false):=by simp;omega
 have HT:=zh (wj ha hb B h2);have HR:Hd (inV (a * b)=if -9223372036854775808≤a * b∧a * b≤9223372036854775807 then (aB (a * b),0) else (noV,3)):=zh rfl;have HW:Hd ((-9223372036854775808≤a * b∧a * b≤9223372036854775807)→wrap64 (a * b)=a * b):=zh (fun h=>by unfold wrap64;omega);have D:=zh B;clear h1 h2 C;rcases f1 with f1 | ⟨f1,f1'⟩<;>rcases f2 with f2 | ⟨f2,f2'⟩
 all_goals
  go_upto_region 6 with fail
  go_quiet (fail)
  go_wp2_with fail
  generalize hq:(wrap64 ((wrap64 (a * b)).tdiv b)==a)=q;have A:=HT.o.symm.trans hq;refine bodyPost_ret (v:=.tuple #[.int .i64 (wrap64 (a * b)),.bool q]) (by simp [results,Tryz.results59,go_sem]) rfl ⟨_,_,rfl,fun h=>?_,fun h=>?_,dm (Below.refl _ _) _⟩
  ·rw [h] at A
   have hr:=of_decide_eq_true A;rw [HR.o,if_pos hr,HW.o hr]
  ·rw [h] at A
   rw [HR.o,if_neg (of_decide_eq_false A)]
theorem tA (a b:Int) (w:World) (ha:bf a) (hb:bf b):Calls Tryz.prog 38 #[.string ⟨#[43]⟩,.int .i64 a,.int .i64 b] w fun e w'=>e=gO (inV (a+b))∧Below w.heap.size w w':=by
 unfold bf at ha hb;obtain ⟨G,F⟩:=ha;obtain ⟨B,E⟩:=hb;have C:Hd ((w.alloc (.cells #[.int .i64 0,.int .i64 0,.slice none 0 0] 35)).heap[w.heap.size]?=some (.cells #[.int .i64 0,.int .i64 0,.slice none 0 0] 35 (0,0))):=zh (aj _ _ _ rfl);have HB:=zh (ag (Below.refl w.heap.size w) (.cells #[.int .i64 0,.int .i64 0,.slice none 0 0] 35));go_enter Tryz.func38,Tryz.ntmps38
 rcases (show (0<b∧9223372036854775807-b<a)∨(0<b∧¬9223372036854775807-b<a)∨(b<0∧a < -9223372036854775808-b)∨(b<0∧¬a < -9223372036854775808-b)∨(¬0<b∧¬b<0) by omega) with ⟨q0,q1⟩ | ⟨q0,q1⟩ | ⟨q0,q1⟩ | ⟨q0,q1⟩ | ⟨q0,q1⟩
 ·have HR:Hd (inV (a+b)=(noV,3)):=zh (pA (by omega))
  go_wp2_with fail
  refine (gf _ _).mono ?_;rintro e w1 ⟨rfl,B⟩;have A:=zh ((B.block _ (af C.o)).trans C.o);have D:=zh (HB.o.trans (B.mono HB.o.size));clear B;have x0:=aa A.o (j:=0) (u:=.int .i64 0) rfl;have x1:=aa A.o (j:=1) (u:=.int .i64 0) rfl;have x2:=aa A.o (j:=2) (u:=.slice none 0 0) rfl;have f0:=ae A.o 0;have f1:=ae A.o 1;have f2:=ae A.o 2;rw [eu];go_wp2_with fail
  rw [HR.o,eu];obtain ⟨c0,c1,c2⟩:=bN A.o (.int .i64 0) (.int .i64 0) (.slice none 0 0);refine bodyPost_ret (v:=.tuple #[.agg #[.int .i64 0,.int .i64 0,.slice none 0 0],.int .i64 3]) (by simp [results,Tryz.results38,go_sem,c0,c1,c2]) rfl ⟨rfl,aJ D.o (Nat.le_refl _) _ _ _⟩
 ·have HR:Hd (inV (a+b)=(aB (a+b),0)):=zh (jG (by omega))
  have r1:-9223372036854775808≤a+b:=by omega
  have r2:a+b≤9223372036854775807:=by omega
  go_wp2_with fail
  refine (dK _ _).mono ?_;rintro e w1 ⟨rfl,B⟩;have A:=zh ((B.block _ (af C.o)).trans C.o);have D:=zh (HB.o.trans (B.mono HB.o.size));clear B;have x0:=aa A.o (j:=0) (u:=.int .i64 0) rfl;have x1:=aa A.o (j:=1) (u:=.int .i64 0) rfl;have x2:=aa A.o (j:=2) (u:=.slice none 0 0) rfl;have f0:=ae A.o 0;have f1:=ae A.o 1;have f2:=ae A.o 2;rw [bV];go_wp2_with fail
  rw [HR.o,bV];obtain ⟨c0,c1,c2⟩:=bN A.o (.int .i64 1) (.int .i64 (a+b)) (.slice none 0 0);refine bodyPost_ret (v:=.tuple #[.agg #[.int .i64 1,.int .i64 (a+b),.slice none 0 0],.int .i64 0]) (by simp [results,Tryz.results38,go_sem,c0,c1,c2]) rfl ⟨rfl,aJ D.o (Nat.le_refl _) _ _ _⟩
 ·have HR:Hd (inV (a+b)=(noV,3)):=zh (pA (by omega))
  go_wp2_with fail
  refine (gf _ _).mono ?_;rintro e w1 ⟨rfl,B⟩;have A:=zh ((B.block _ (af C.o)).trans C.o);have D:=zh (HB.o.trans (B.mono HB.o.size));clear B;have x0:=aa A.o (j:=0) (u:=.int .i64 0) rfl;have x1:=aa A.o (j:=1) (u:=.int .i64 0) rfl;have x2:=aa A.o (j:=2) (u:=.slice none 0 0) rfl;have f0:=ae A.o 0;have f1:=ae A.o 1;have f2:=ae A.o 2;rw [eu];go_wp2_with fail
  rw [HR.o,eu];obtain ⟨c0,c1,c2⟩:=bN A.o (.int .i64 0) (.int .i64 0) (.slice none 0 0);refine bodyPost_ret (v:=.tuple #[.agg #[.int .i64 0,.int .i64 0,.slice none 0 0],.int .i64 3]) (by simp [results,Tryz.results38,go_sem,c0,c1,c2]) rfl ⟨rfl,aJ D.o (Nat.le_refl _) _ _ _⟩
 ·have HR:Hd (inV (a+b)=(aB (a+b),0)):=zh (jG (by omega))
  have r1:-9223372036854775808≤a+b:=by omega
  have r2:a+b≤9223372036854775807:=by omega
  go_wp2_with fail
  refine (dK _ _).mono ?_;rintro e w1 ⟨rfl,B⟩;have A:=zh ((B.block _ (af C.o)).trans C.o);have D:=zh (HB.o.trans (B.mono HB.o.size));clear B;have x0:=aa A.o (j:=0) (u:=.int .i64 0) rfl;have x1:=aa A.o (j:=1) (u:=.int .i64 0) rfl;have x2:=aa A.o (j:=2) (u:=.slice none 0 0) rfl;have f0:=ae A.o 0;have f1:=ae A.o 1;have f2:=ae A.o 2;rw [bV];go_wp2_with fail
  rw [HR.o,bV];obtain ⟨c0,c1,c2⟩:=bN A.o (.int .i64 1) (.int .i64 (a+b)) (.slice none 0 0);refine bodyPost_ret (v:=.tuple #[.agg #[.int .i64 1,.int .i64 (a+b),.slice none 0 0],.int .i64 0]) (by simp [results,Tryz.results38,go_sem,c0,c1,c2]) rfl ⟨rfl,aJ D.o (Nat.le_refl _) _ _ _⟩
 ·have HR:Hd (inV (a+b)=(aB (a+b),0)):=zh (jG (by omega))
  have r1:-9223372036854775808≤a+b:=by omega
  have r2:a+b≤9223372036854775807:=by omega
  go_wp2_with fail
  refine (dK _ _).mono ?_;rintro e w1 ⟨rfl,B⟩;have A:=zh ((B.block _ (af C.o)).trans C.o);have D:=zh (HB.o.trans (B.mono HB.o.size));clear B;have x0:=aa A.o (j:=0) (u:=.int .i64 0) rfl;have x1:=aa A.o (j:=1) (u:=.int .i64 0) rfl;have x2:=aa A.o (j:=2) (u:=.slice none 0 0) rfl;have f0:=ae A.o 0;have f1:=ae A.o 1;have f2:=ae A.o 2;rw [bV];go_wp2_with fail
  rw [HR.o,bV];obtain ⟨c0,c1,c2⟩:=bN A.o (.int .i64 1) (.int .i64 (a+b)) (.slice none 0 0);refine bodyPost_ret (v:=.tuple #[.agg #[.int .i64 1,.int .i64 (a+b),.slice none 0 0],.int .i64 0]) (by simp [results,Tryz.results38,go_sem,c0,c1,c2]) rfl ⟨rfl,aJ D.o (Nat.le_refl _) _ _ _⟩
theorem qi (a b:Int) (w:World) (ha:bf a) (hb:bf b):Calls Tryz.prog 38 #[.string ⟨#[45]⟩,.int .i64 a,.int .i64 b] w fun e w'=>e=gO (inV (a-b))∧Below w.heap.size w w':=by
 unfold bf at ha hb;obtain ⟨G,F⟩:=ha;obtain ⟨B,E⟩:=hb;have C:Hd ((w.alloc (.cells #[.int .i64 0,.int .i64 0,.slice none 0 0] 35)).heap[w.heap.size]?=some (.cells #[.int .i64 0,.int .i64 0,.slice none 0 0] 35 (0,0))):=zh (aj _ _ _ rfl);have HB:=zh (ag (Below.refl w.heap.size w) (.cells #[.int .i64 0,.int .i64 0,.slice none 0 0] 35));go_enter Tryz.func38,Tryz.ntmps38
 rcases (show (b<0∧9223372036854775807+b<a)∨(b<0∧¬9223372036854775807+b<a)∨(0<b∧a < -9223372036854775808+b)∨(0<b∧¬a < -9223372036854775808+b)∨(¬0<b∧¬b<0) by omega) with ⟨q0,q1⟩ | ⟨q0,q1⟩ | ⟨q0,q1⟩ | ⟨q0,q1⟩ | ⟨q0,q1⟩
 ·have HR:Hd (inV (a-b)=(noV,3)):=zh (pA (by omega))
  go_wp2_with fail
  refine (gf _ _).mono ?_;rintro e w1 ⟨rfl,B⟩;have A:=zh ((B.block _ (af C.o)).trans C.o);have D:=zh (HB.o.trans (B.mono HB.o.size));clear B;have x0:=aa A.o (j:=0) (u:=.int .i64 0) rfl;have x1:=aa A.o (j:=1) (u:=.int .i64 0) rfl;have x2:=aa A.o (j:=2) (u:=.slice none 0 0) rfl;have f0:=ae A.o 0;have f1:=ae A.o 1;have f2:=ae A.o 2;rw [eu];go_wp2_with fail
  rw [HR.o,eu];obtain ⟨c0,c1,c2⟩:=bN A.o (.int .i64 0) (.int .i64 0) (.slice none 0 0);refine bodyPost_ret (v:=.tuple #[.agg #[.int .i64 0,.int .i64 0,.slice none 0 0],.int .i64 3]) (by simp [results,Tryz.results38,go_sem,c0,c1,c2]) rfl ⟨rfl,aJ D.o (Nat.le_refl _) _ _ _⟩
 ·have HR:Hd (inV (a-b)=(aB (a-b),0)):=zh (jG (by omega))
  have r1:-9223372036854775808≤a-b:=by omega
  have r2:a-b≤9223372036854775807:=by omega
  go_wp2_with fail
  refine (dK _ _).mono ?_;rintro e w1 ⟨rfl,B⟩;have A:=zh ((B.block _ (af C.o)).trans C.o);have D:=zh (HB.o.trans (B.mono HB.o.size));clear B;have x0:=aa A.o (j:=0) (u:=.int .i64 0) rfl;have x1:=aa A.o (j:=1) (u:=.int .i64 0) rfl;have x2:=aa A.o (j:=2) (u:=.slice none 0 0) rfl;have f0:=ae A.o 0;have f1:=ae A.o 1;have f2:=ae A.o 2;rw [bV];go_wp2_with fail
  rw [HR.o,bV];obtain ⟨c0,c1,c2⟩:=bN A.o (.int .i64 1) (.int .i64 (a-b)) (.slice none 0 0);refine bodyPost_ret (v:=.tuple #[.agg #[.int .i64 1,.int .i64 (a-b),.slice none 0 0],.int .i64 0]) (by simp [results,Tryz.results38,go_sem,c0,c1,c2]) rfl ⟨rfl,aJ D.o (Nat.le_refl _) _ _ _⟩
 ·have HR:Hd (inV (a-b)=(noV,3)):=zh (pA (by omega))
  go_wp2_with fail
  refine (gf _ _).mono ?_;rintro e w1 ⟨rfl,B⟩;have A:=zh ((B.block _ (af C.o)).trans C.o);have D:=zh (HB.o.trans (B.mono HB.o.size));clear B;have x0:=aa A.o (j:=0) (u:=.int .i64 0) rfl;have x1:=aa A.o (j:=1) (u:=.int .i64 0) rfl;have x2:=aa A.o (j:=2) (u:=.slice none 0 0) rfl;have f0:=ae A.o 0;have f1:=ae A.o 1;have f2:=ae A.o 2;rw [eu];go_wp2_with fail
  rw [HR.o,eu];obtain ⟨c0,c1,c2⟩:=bN A.o (.int .i64 0) (.int .i64 0) (.slice none 0 0);refine bodyPost_ret (v:=.tuple #[.agg #[.int .i64 0,.int .i64 0,.slice none 0 0],.int .i64 3]) (by simp [results,Tryz.results38,go_sem,c0,c1,c2]) rfl ⟨rfl,aJ D.o (Nat.le_refl _) _ _ _⟩
 ·have HR:Hd (inV (a-b)=(aB (a-b),0)):=zh (jG (by omega))
  have r1:-9223372036854775808≤a-b:=by omega
  have r2:a-b≤9223372036854775807:=by omega
  go_wp2_with fail
  refine (dK _ _).mono ?_;rintro e w1 ⟨rfl,B⟩;have A:=zh ((B.block _ (af C.o)).trans C.o);have D:=zh (HB.o.trans (B.mono HB.o.size));clear B;have x0:=aa A.o (j:=0) (u:=.int .i64 0) rfl;have x1:=aa A.o (j:=1) (u:=.int .i64 0) rfl;have x2:=aa A.o (j:=2) (u:=.slice none 0 0) rfl;have f0:=ae A.o 0;have f1:=ae A.o 1;have f2:=ae A.o 2;rw [bV];go_wp2_with fail
  rw [HR.o,bV];obtain ⟨c0,c1,c2⟩:=bN A.o (.int .i64 1) (.int .i64 (a-b)) (.slice none 0 0);refine bodyPost_ret (v:=.tuple #[.agg #[.int .i64 1,.int .i64 (a-b),.slice none 0 0],.int .i64 0]) (by simp [results,Tryz.results38,go_sem,c0,c1,c2]) rfl ⟨rfl,aJ D.o (Nat.le_refl _) _ _ _⟩
 ·have HR:Hd (inV (a-b)=(aB (a-b),0)):=zh (jG (by omega))
  have r1:-9223372036854775808≤a-b:=by omega
  have r2:a-b≤9223372036854775807:=by omega
  go_wp2_with fail
  refine (dK _ _).mono ?_;rintro e w1 ⟨rfl,B⟩;have A:=zh ((B.block _ (af C.o)).trans C.o);have D:=zh (HB.o.trans (B.mono HB.o.size));clear B;have x0:=aa A.o (j:=0) (u:=.int .i64 0) rfl;have x1:=aa A.o (j:=1) (u:=.int .i64 0) rfl;have x2:=aa A.o (j:=2) (u:=.slice none 0 0) rfl;have f0:=ae A.o 0;have f1:=ae A.o 1;have f2:=ae A.o 2;rw [bV];go_wp2_with fail
  rw [HR.o,bV];obtain ⟨c0,c1,c2⟩:=bN A.o (.int .i64 1) (.int .i64 (a-b)) (.slice none 0 0);refine bodyPost_ret (v:=.tuple #[.agg #[.int .i64 1,.int .i64 (a-b),.slice none 0 0],.int .i64 0]) (by simp [results,Tryz.results38,go_sem,c0,c1,c2]) rfl ⟨rfl,aJ D.o (Nat.le_refl _) _ _ _⟩
theorem qC (a b:Int) (w:World) (ha:bf a) (hb:bf b):Calls Tryz.prog 38 #[.string ⟨#[42]⟩,.int .i64 a,.int .i64 b] w fun e w'=>e=gO (inV (a * b))∧Below w.heap.size w w':=by
 have HT:Hd (∀W,Calls Tryz.prog 59 #[.int .i64 a,.int .i64 b] W _):=zh (fun W=>sd a b W ha hb);clear ha hb;have I:Hd ((w.alloc (.cells #[.int .i64 0,.int .i64 0,.slice none 0 0] 35)).heap[w.heap.size]?=some (.cells #[.int .i64 0,.int .i64 0,.slice none 0 0] 35 (0,0))):=zh (aj _ _ _ rfl);have HB:=zh (ag (Below.refl w.heap.size w) (.cells #[.int .i64 0,.int .i64 0,.slice none 0 0] 35));go_enter Tryz.func38,Tryz.ntmps38
 go_wp2_with fail
 refine (HT.o _).mono ?_;rintro e w0 ⟨n,q,rfl,H,G,E⟩;have K:=zh H;have J:=zh G;have C:=zh ((E.block _ (af I.o)).trans I.o);have D:=zh (HB.o.trans (E.mono HB.o.size));clear H G E
 cases q
 ·have HR:=zh (J.o rfl)
  go_wp2_with fail
  refine (gf _ _).mono ?_;rintro e w1 ⟨rfl,B⟩;have A:=zh ((B.block _ (af C.o)).trans C.o);have F:=zh (D.o.trans (B.mono D.o.size));clear B;have x0:=aa A.o (j:=0) (u:=.int .i64 0) rfl;have x1:=aa A.o (j:=1) (u:=.int .i64 0) rfl;have x2:=aa A.o (j:=2) (u:=.slice none 0 0) rfl;have f0:=ae A.o 0;have f1:=ae A.o 1;have f2:=ae A.o 2;rw [eu];go_wp2_with fail
  rw [HR.o,eu];obtain ⟨c0,c1,c2⟩:=bN A.o (.int .i64 0) (.int .i64 0) (.slice none 0 0);refine bodyPost_ret (v:=.tuple #[.agg #[.int .i64 0,.int .i64 0,.slice none 0 0],.int .i64 3]) (by simp [results,Tryz.results38,go_sem,c0,c1,c2]) rfl ⟨rfl,aJ F.o (Nat.le_refl _) _ _ _⟩
 ·have HR:=zh (K.o rfl)
  go_wp2_with fail
  refine (dK _ _).mono ?_;rintro e w1 ⟨rfl,B⟩;have A:=zh ((B.block _ (af C.o)).trans C.o);have F:=zh (D.o.trans (B.mono D.o.size));clear B;have x0:=aa A.o (j:=0) (u:=.int .i64 0) rfl;have x1:=aa A.o (j:=1) (u:=.int .i64 0) rfl;have x2:=aa A.o (j:=2) (u:=.slice none 0 0) rfl;have f0:=ae A.o 0;have f1:=ae A.o 1;have f2:=ae A.o 2;rw [bV];go_wp2_with fail
  rw [HR.o,bV];obtain ⟨c0,c1,c2⟩:=bN A.o (.int .i64 1) (.int .i64 n) (.slice none 0 0);refine bodyPost_ret (v:=.tuple #[.agg #[.int .i64 1,.int .i64 n,.slice none 0 0],.int .i64 0]) (by simp [results,Tryz.results38,go_sem,c0,c1,c2]) rfl ⟨rfl,aJ F.o (Nat.le_refl _) _ _ _⟩
theorem wG (a b:Int) (w:World) (ha:bf a):Calls Tryz.prog 38 #[.string ⟨#[47]⟩,.int .i64 a,.int .i64 b] w fun e w'=>e=gO (iz Int.tdiv a b)∧Below w.heap.size w w':=by
 have HA:=zh ha;unfold bf at ha;have D:Hd ((w.alloc (.cells #[.int .i64 0,.int .i64 0,.slice none 0 0] 35)).heap[w.heap.size]?=some (.cells #[.int .i64 0,.int .i64 0,.slice none 0 0] 35 (0,0))):=zh (aj _ _ _ rfl);have HB:=zh (ag (Below.refl w.heap.size w) (.cells #[.int .i64 0,.int .i64 0,.slice none 0 0] 35));go_enter Tryz.func38,Tryz.ntmps38
 by_cases B:b=0
 ·subst B
  go_wp2_with fail
  exact bodyPost_ret (v:=.tuple #[.agg #[.int .i64 0,.int .i64 0,.slice none 0 0],.int .i64 2]) (by simp [results,Tryz.results38,go_sem]) rfl ⟨rfl,by repeat (first | exact HB.o | refine dp ?_ (Nat.le_refl _) _)⟩
 have fb0:(b==0)=false:=by simpa using B
 by_cases hm:a=-9223372036854775808∧b=-1
 ·obtain ⟨rfl,rfl⟩:=hm
  go_wp2_with fail
  exact bodyPost_ret (v:=.tuple #[.agg #[.int .i64 0,.int .i64 0,.slice none 0 0],.int .i64 3]) (by simp [results,Tryz.results38,go_sem]) rfl ⟨rfl,by repeat (first | exact HB.o | refine dp ?_ (Nat.le_refl _) _)⟩
 have HR:Hd (iz Int.tdiv a b=(aB (wrap64 (a.tdiv b)),0)):=zh (by unfold iz;rw [if_neg B,if_neg hm];rw [gJ (pC HA.o B hm)]);have f1:(a==-9223372036854775808)=false∨((a==-9223372036854775808)=true∧(b==-1)=false):=by simp;omega
 clear hm;rcases f1 with f1 | ⟨f1,f1'⟩
 all_goals
  go_wp2_with fail
  refine (ed _ _).mono ?_;rintro e w1 ⟨rfl,C⟩;have A:=zh ((C.block _ (af D.o)).trans D.o);have E:=zh (HB.o.trans (C.mono HB.o.size));clear C;have x0:=aa A.o (j:=0) (u:=.int .i64 0) rfl;have x1:=aa A.o (j:=1) (u:=.int .i64 0) rfl;have x2:=aa A.o (j:=2) (u:=.slice none 0 0) rfl;have f0:=ae A.o 0;have f1:=ae A.o 1;have f2:=ae A.o 2;go_wp2_with fail
  rw [HR.o,bV];obtain ⟨c0,c1,c2⟩:=bN A.o (.int .i64 1) (.int .i64 (wrap64 (a.tdiv b))) (.slice none 0 0);refine bodyPost_ret (v:=.tuple #[.agg #[.int .i64 1,.int .i64 (wrap64 (a.tdiv b)),.slice none 0 0],.int .i64 0]) (by simp [results,Tryz.results38,go_sem,c0,c1,c2]) rfl ⟨rfl,aJ E.o (Nat.le_refl _) _ _ _⟩
theorem vE (a b:Int) (w:World) (ha:bf a):Calls Tryz.prog 38 #[.string ⟨#[37]⟩,.int .i64 a,.int .i64 b] w fun e w'=>e=gO (iz Int.tmod a b)∧Below w.heap.size w w':=by
 have HA:=zh ha;unfold bf at ha;have D:Hd ((w.alloc (.cells #[.int .i64 0,.int .i64 0,.slice none 0 0] 35)).heap[w.heap.size]?=some (.cells #[.int .i64 0,.int .i64 0,.slice none 0 0] 35 (0,0))):=zh (aj _ _ _ rfl);have HB:=zh (ag (Below.refl w.heap.size w) (.cells #[.int .i64 0,.int .i64 0,.slice none 0 0] 35));go_enter Tryz.func38,Tryz.ntmps38
 by_cases C:b=0
 ·subst C
  go_wp2_with fail
  exact bodyPost_ret (v:=.tuple #[.agg #[.int .i64 0,.int .i64 0,.slice none 0 0],.int .i64 2]) (by simp [results,Tryz.results38,go_sem]) rfl ⟨rfl,by repeat (first | exact HB.o | refine dp ?_ (Nat.le_refl _) _)⟩
 have fb0:(b==0)=false:=by simpa using C
 by_cases hm:a=-9223372036854775808∧b=-1
 ·obtain ⟨rfl,rfl⟩:=hm
  go_wp2_with fail
  exact bodyPost_ret (v:=.tuple #[.agg #[.int .i64 0,.int .i64 0,.slice none 0 0],.int .i64 3]) (by simp [results,Tryz.results38,go_sem]) rfl ⟨rfl,by repeat (first | exact HB.o | refine dp ?_ (Nat.le_refl _) _)⟩
 have HR:Hd (iz Int.tmod a b=(aB (a.tmod b),0)):=zh (by unfold iz;rw [if_neg C,if_neg hm]);have f1:(a==-9223372036854775808)=false∨((a==-9223372036854775808)=true∧(b==-1)=false):=by simp;omega
 clear hm;rcases f1 with f1 | ⟨f1,f1'⟩
 all_goals
  go_wp2_with fail
  refine (ed _ _).mono ?_;rintro e w1 ⟨rfl,B⟩;have A:=zh ((B.block _ (af D.o)).trans D.o);have E:=zh (HB.o.trans (B.mono HB.o.size));clear B;have x0:=aa A.o (j:=0) (u:=.int .i64 0) rfl;have x1:=aa A.o (j:=1) (u:=.int .i64 0) rfl;have x2:=aa A.o (j:=2) (u:=.slice none 0 0) rfl;have f0:=ae A.o 0;have f1:=ae A.o 1;have f2:=ae A.o 2;go_wp2_with fail
  rw [HR.o,bV];obtain ⟨c0,c1,c2⟩:=bN A.o (.int .i64 1) (.int .i64 (a.tmod b)) (.slice none 0 0);refine bodyPost_ret (v:=.tuple #[.agg #[.int .i64 1,.int .i64 (a.tmod b),.slice none 0 0],.int .i64 0]) (by simp [results,Tryz.results38,go_sem,c0,c1,c2]) rfl ⟨rfl,aJ E.o (Nat.le_refl _) _ _ _⟩
theorem gR {sg:ByteArray} {x:Vv×Int} (a b:Int) (w:World) (h:∀W,Calls Tryz.prog 38 #[.string sg,.int .i64 a,.int .i64 b] W fun e w'=>e=gO x∧Below W.heap.size W w'):Calls Tryz.prog 15 #[.string sg,.agg #[.int .i64 1,.int .i64 a,.slice none 0 0],.agg #[.int .i64 1,.int .i64 b,.slice none 0 0]] w fun e w'=>e=gO x∧Below w.heap.size w w':=by
 have HI:=zh h;clear h;have C:Below w.heap.size w (((w.alloc (.cells #[.int .i64 1,.int .i64 a,.slice none 0 0] 35)).alloc (.cells #[.int .i64 1,.int .i64 b,.slice none 0 0] 35)).alloc (.cells #[.int .i64 0,.int .i64 0,.slice none 0 0] 35)):=ag (ag (ag (Below.refl _ _) _) _) _;have HB:=zh C;have D:Hd ((((w.alloc (.cells #[.int .i64 1,.int .i64 a,.slice none 0 0] 35)).alloc (.cells #[.int .i64 1,.int .i64 b,.slice none 0 0] 35)).alloc (.cells #[.int .i64 0,.int .i64 0,.slice none 0 0] 35)).heap[w.heap.size+1+1]?=some (.cells #[.int .i64 0,.int .i64 0,.slice none 0 0] 35 (0,0))):=zh (aj _ _ _ (by simp only [ah]));have F:=fun W=>dM (TxtAt.nil (fun _=>True) W);clear C;go_enter Tryz.func15,Tryz.ntmps15
 go_wp2_with fail
 refine (HI.o _).mono ?_;rintro e w1 ⟨rfl,B⟩;have A:=zh ((B.block _ (af D.o)).trans D.o);have E:=zh (HB.o.trans (B.mono HB.o.size));clear B;have x0:=aa A.o (j:=0) (u:=.int .i64 0) rfl;have x1:=aa A.o (j:=1) (u:=.int .i64 0) rfl;have x2:=aa A.o (j:=2) (u:=.slice none 0 0) rfl;have f0:=ae A.o 0;have f1:=ae A.o 1;have f2:=ae A.o 2;unfold gO;go_wp2_with fail
 obtain ⟨c0,c1,c2⟩:=bN A.o (.int .i64 x.1.ty) (.int .i64 x.1.num) (.slice none 0 0);refine bodyPost_ret (v:=.tuple #[.agg #[.int .i64 x.1.ty,.int .i64 x.1.num,.slice none 0 0],.int .i64 x.2]) (by simp [results,Tryz.results15,go_sem,c0,c1,c2]) rfl ⟨rfl,aJ E.o (by omega) _ _ _⟩
def sG (s:ByteArray):Prop:=s=⟨#[43]⟩∨s=⟨#[45]⟩∨s=⟨#[42]⟩∨s=⟨#[47]⟩∨s=⟨#[37]⟩
theorem wk {s:ByteArray} (h:sG s) (a b:Int) (w:World) (ha:bf a) (hb:bf b):Calls Tryz.prog 15 #[.string s,.agg #[.int .i64 1,.int .i64 a,.slice none 0 0],.agg #[.int .i64 1,.int .i64 b,.slice none 0 0]] w fun e w'=>e=gO (cJ s.toList (aB a) (aB b))∧Below w.heap.size w w':=by
 rcases h with rfl | rfl | rfl | rfl | rfl
 ·rw [show (⟨#[43]⟩:ByteArray).toList=[43] by kernel_rfl]
  exact gR a b w fun W=>tA a b W ha hb
 ·rw [show (⟨#[45]⟩:ByteArray).toList=[45] by kernel_rfl]
  exact gR a b w fun W=>qi a b W ha hb
 ·rw [show (⟨#[42]⟩:ByteArray).toList=[42] by kernel_rfl]
  exact gR a b w fun W=>qC a b W ha hb
 ·rw [show (⟨#[47]⟩:ByteArray).toList=[47] by kernel_rfl]
  exact gR a b w fun W=>wG a b W ha
 ·rw [show (⟨#[37]⟩:ByteArray).toList=[37] by kernel_rfl]
  exact gR a b w fun W=>vE a b W ha
end
end Go.Proofs.YthgcpfkochikfaaGreat
