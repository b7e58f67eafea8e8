/-
  EvalLoops: part 7 of its proof: see the last text.
-/
import Derived.Test.YthgcpfkochikfaaGreatPq04
import Derived.Shelf.Bits.Mul64
set_option maxRecDepth 100000
set_option maxHeartbeats 16000000
namespace Go.Proofs.YthgcpfkochikfaaGreat
section
open Go.RowKit Go.Shelf
def qD:Go.Shelf.Ren:=⟨fun | 264=>228 | n=>n,fun | 46=>267 | 53=>263 | n=>n,fun | n=>n⟩
theorem zy:Go.Proofs.Lays.n264 Tryz.prog qD:={
  mixed:=by kernel_rfl
  f264:=Tryz.func228.trans (congrArg some (by kernel_rfl))
  t46:=Tryz.underlying267
  a46:=Tryz.isAgg267
  z46:=Tryz.sizeOf267
  v46:=Tryz.zeroValue267
  t53:=Tryz.underlying263
  a53:=Tryz.isAgg263
  z53:=Tryz.sizeOf263
  v53:=Tryz.zeroValue263 }
theorem wQ (x y:Nat) (w:World) (hx:x<18446744073709551616) (hy:y<18446744073709551616) :
    Calls Tryz.prog 228 #[.int .u64 x,.int .u64 y] w fun e w'=>e=.returned (.tuple #[.int .u64 ((x * y / 18446744073709551616:Nat):Int),.int .u64 ((x * y % 18446744073709551616:Nat):Int)])∧w'=w:=Any.bits_Mul64 zy x y hx hy w
def yQ (a b:Int):Bool:=decide ((a.natAbs * b.natAbs / 18446744073709551616:Nat)=0)&&decide ((a.natAbs * b.natAbs % 18446744073709551616:Nat)≤if decide (a<0)=decide (b<0) then 9223372036854775807 else 9223372036854775808)
def tz (a b:Int):Int×Int:=if yQ a b then (wrap64 (a * b),0) else (0,3)
theorem tJ (a b:Int) (w:World) (ha:aY a) (hb:aY b):Calls Tryz.prog 211 #[.int .i64 a,.int .i64 b] w fun e w'=>e=.returned (.tuple #[.int .i64 (tz a b).1,.int .i64 (tz a b).2])∧w=w':=by
 have D:=zh (oI a w ha);have C:=zh (oI b w hb);have HM:=zh (wQ a.natAbs b.natAbs w (by unfold aY at ha;omega) (by unfold aY at hb;omega));have HD:Hd (tz a b=if yQ a b then (wrap64 (a * b),0) else (0,3)):=zh rfl;have B:Hd (yQ a b=(decide ((a.natAbs * b.natAbs / 18446744073709551616:Nat)=0)&&decide ((a.natAbs * b.natAbs % 18446744073709551616:Nat)≤if decide (a<0)=decide (b<0) then 9223372036854775807 else 9223372036854775808))):=zh rfl;have E:a.natAbs * b.natAbs % 18446744073709551616<18446744073709551616:=Nat.mod_lt _ (by decide);have F:=zh E;generalize tz a b=o at *;generalize a.natAbs * b.natAbs / 18446744073709551616=hi at *;generalize a.natAbs * b.natAbs % 18446744073709551616=lo at *;have G:∀args W,Sem.run Tryz.prog (callFunc 227 args) W=.ok (.enter 227 args) W:=fun _ _=>Tryz.call227 _ _;clear ha hb E;by_cases h1:a<0
 ·by_cases h2:b<0
  ·have d1:decide (a<0)=true:=by simp [h1]
   have d2:decide (b<0)=true:=by simp [h2]
   by_cases h3:hi=0
   ·have HO:Hd (o=if (lo:Int)≤9223372036854775807 then (wrap64 (a * b),0) else (0,3)):=zh (by
      rw [HD.o,B.o,h3];clear d1 d2;by_cases q:lo≤9223372036854775807
      · have q':(lo:Int)≤9223372036854775807:=by omega
        simp [h1,h2,q,q']
      · have q':¬(lo:Int)≤9223372036854775807:=by omega
        simp [h1,h2,q,q'])
    subst h3;clear HD B h1 h2;go_enter Tryz.func211,Tryz.ntmps211
    go_wp2_with fail
    go_at_fn 227
    refine D.o.mono ?_;rintro e w1 ⟨rfl,rfl⟩;go_wp2_with fail
    go_at_fn 227
    refine C.o.mono ?_;rintro e w1 ⟨rfl,rfl⟩;go_wp2_with fail
    refine HM.o.mono ?_;rintro e w1 ⟨rfl,rfl⟩;go_wp2_with fail
    cases hq:decide ((lo:Int)≤9223372036854775807)
    ·have A:o=(0,3):=HO.o.trans (by rw [if_neg (by simpa using hq)])
     subst A;clear hq HO;refine (show Calls Tryz.prog 209 #[.int .i64 (wrap64 (a * b)),.bool false] _ (fun e w'=>e=.returned (.tuple #[.int .i64 0,.int .i64 3])∧_=w') from dj (wrap64 (a * b)) false _).mono ?_;rintro e w1 ⟨rfl,rfl⟩;go_wp2_with fail
     exact bodyPost_ret (v:=.tuple #[.int .i64 0,.int .i64 3]) (by simp [results,Tryz.results211,go_sem]) rfl ⟨rfl,rfl⟩
    ·have A:o=(wrap64 (a * b),0):=HO.o.trans (by rw [if_pos (by simpa using hq)])
     subst A;clear hq HO;refine (show Calls Tryz.prog 209 #[.int .i64 (wrap64 (a * b)),.bool true] _ (fun e w'=>e=.returned (.tuple #[.int .i64 (wrap64 (a * b)),.int .i64 0])∧_=w') from dj (wrap64 (a * b)) true _).mono ?_;rintro e w1 ⟨rfl,rfl⟩;go_wp2_with fail
     exact bodyPost_ret (v:=.tuple #[.int .i64 (wrap64 (a * b)),.int .i64 0]) (by simp [results,Tryz.results211,go_sem]) rfl ⟨rfl,rfl⟩
   ·have A:o=(0,3):=by
      rw [HD.o,B.o];simp [h3]
    subst A;have k3:((hi:Int)==0)=false:=beq_eq_false_iff_ne.2 (by omega);clear HD B h3 h1 h2;go_enter Tryz.func211,Tryz.ntmps211
    go_wp2_with fail
    go_at_fn 227
    refine D.o.mono ?_;rintro e w1 ⟨rfl,rfl⟩;go_wp2_with fail
    go_at_fn 227
    refine C.o.mono ?_;rintro e w1 ⟨rfl,rfl⟩;go_wp2_with fail
    refine HM.o.mono ?_;rintro e w1 ⟨rfl,rfl⟩;go_wp2_with fail
    refine (show Calls Tryz.prog 209 #[.int .i64 (wrap64 (a * b)),.bool false] _ (fun e w'=>e=.returned (.tuple #[.int .i64 0,.int .i64 3])∧_=w') from dj (wrap64 (a * b)) false _).mono ?_;rintro e w1 ⟨rfl,rfl⟩;go_wp2_with fail
    exact bodyPost_ret (v:=.tuple #[.int .i64 0,.int .i64 3]) (by simp [results,Tryz.results211,go_sem]) rfl ⟨rfl,rfl⟩
  ·have d1:decide (a<0)=true:=by simp [h1]
   have d2:decide (b<0)=false:=by simp [h2]
   by_cases h3:hi=0
   ·have HO:Hd (o=if (lo:Int)≤9223372036854775808 then (wrap64 (a * b),0) else (0,3)):=zh (by
      rw [HD.o,B.o,h3];clear d1 d2;by_cases q:lo≤9223372036854775808
      · have q':(lo:Int)≤9223372036854775808:=by omega
        simp [h1,h2,q,q']
      · have q':¬(lo:Int)≤9223372036854775808:=by omega
        simp [h1,h2,q,q'])
    subst h3;clear HD B h1 h2;go_enter Tryz.func211,Tryz.ntmps211
    go_wp2_with fail
    go_at_fn 227
    refine D.o.mono ?_;rintro e w1 ⟨rfl,rfl⟩;go_wp2_with fail
    go_at_fn 227
    refine C.o.mono ?_;rintro e w1 ⟨rfl,rfl⟩;go_wp2_with fail
    refine HM.o.mono ?_;rintro e w1 ⟨rfl,rfl⟩;go_wp2_with fail
    cases hq:decide ((lo:Int)≤9223372036854775808)
    ·have A:o=(0,3):=HO.o.trans (by rw [if_neg (by simpa using hq)])
     subst A;clear hq HO;refine (show Calls Tryz.prog 209 #[.int .i64 (wrap64 (a * b)),.bool false] _ (fun e w'=>e=.returned (.tuple #[.int .i64 0,.int .i64 3])∧_=w') from dj (wrap64 (a * b)) false _).mono ?_;rintro e w1 ⟨rfl,rfl⟩;go_wp2_with fail
     exact bodyPost_ret (v:=.tuple #[.int .i64 0,.int .i64 3]) (by simp [results,Tryz.results211,go_sem]) rfl ⟨rfl,rfl⟩
    ·have A:o=(wrap64 (a * b),0):=HO.o.trans (by rw [if_pos (by simpa using hq)])
     subst A;clear hq HO;refine (show Calls Tryz.prog 209 #[.int .i64 (wrap64 (a * b)),.bool true] _ (fun e w'=>e=.returned (.tuple #[.int .i64 (wrap64 (a * b)),.int .i64 0])∧_=w') from dj (wrap64 (a * b)) true _).mono ?_;rintro e w1 ⟨rfl,rfl⟩;go_wp2_with fail
     exact bodyPost_ret (v:=.tuple #[.int .i64 (wrap64 (a * b)),.int .i64 0]) (by simp [results,Tryz.results211,go_sem]) rfl ⟨rfl,rfl⟩
   ·have A:o=(0,3):=by
      rw [HD.o,B.o];simp [h3]
    subst A;have k3:((hi:Int)==0)=false:=beq_eq_false_iff_ne.2 (by omega);clear HD B h3 h1 h2;go_enter Tryz.func211,Tryz.ntmps211
    go_wp2_with fail
    go_at_fn 227
    refine D.o.mono ?_;rintro e w1 ⟨rfl,rfl⟩;go_wp2_with fail
    go_at_fn 227
    refine C.o.mono ?_;rintro e w1 ⟨rfl,rfl⟩;go_wp2_with fail
    refine HM.o.mono ?_;rintro e w1 ⟨rfl,rfl⟩;go_wp2_with fail
    refine (show Calls Tryz.prog 209 #[.int .i64 (wrap64 (a * b)),.bool false] _ (fun e w'=>e=.returned (.tuple #[.int .i64 0,.int .i64 3])∧_=w') from dj (wrap64 (a * b)) false _).mono ?_;rintro e w1 ⟨rfl,rfl⟩;go_wp2_with fail
    exact bodyPost_ret (v:=.tuple #[.int .i64 0,.int .i64 3]) (by simp [results,Tryz.results211,go_sem]) rfl ⟨rfl,rfl⟩
 ·by_cases h2:b<0
  ·have d1:decide (a<0)=false:=by simp [h1]
   have d2:decide (b<0)=true:=by simp [h2]
   by_cases h3:hi=0
   ·have HO:Hd (o=if (lo:Int)≤9223372036854775808 then (wrap64 (a * b),0) else (0,3)):=zh (by
      rw [HD.o,B.o,h3];clear d1 d2;by_cases q:lo≤9223372036854775808
      · have q':(lo:Int)≤9223372036854775808:=by omega
        simp [h1,h2,q,q']
      · have q':¬(lo:Int)≤9223372036854775808:=by omega
        simp [h1,h2,q,q'])
    subst h3;clear HD B h1 h2;go_enter Tryz.func211,Tryz.ntmps211
    go_wp2_with fail
    go_at_fn 227
    refine D.o.mono ?_;rintro e w1 ⟨rfl,rfl⟩;go_wp2_with fail
    go_at_fn 227
    refine C.o.mono ?_;rintro e w1 ⟨rfl,rfl⟩;go_wp2_with fail
    refine HM.o.mono ?_;rintro e w1 ⟨rfl,rfl⟩;go_wp2_with fail
    cases hq:decide ((lo:Int)≤9223372036854775808)
    ·have A:o=(0,3):=HO.o.trans (by rw [if_neg (by simpa using hq)])
     subst A;clear hq HO;refine (show Calls Tryz.prog 209 #[.int .i64 (wrap64 (a * b)),.bool false] _ (fun e w'=>e=.returned (.tuple #[.int .i64 0,.int .i64 3])∧_=w') from dj (wrap64 (a * b)) false _).mono ?_;rintro e w1 ⟨rfl,rfl⟩;go_wp2_with fail
     exact bodyPost_ret (v:=.tuple #[.int .i64 0,.int .i64 3]) (by simp [results,Tryz.results211,go_sem]) rfl ⟨rfl,rfl⟩
    ·have A:o=(wrap64 (a * b),0):=HO.o.trans (by rw [if_pos (by simpa using hq)])
     subst A;clear hq HO;refine (show Calls Tryz.prog 209 #[.int .i64 (wrap64 (a * b)),.bool true] _ (fun e w'=>e=.returned (.tuple #[.int .i64 (wrap64 (a * b)),.int .i64 0])∧_=w') from dj (wrap64 (a * b)) true _).mono ?_;rintro e w1 ⟨rfl,rfl⟩;go_wp2_with fail
     exact bodyPost_ret (v:=.tuple #[.int .i64 (wrap64 (a * b)),.int .i64 0]) (by simp [results,Tryz.results211,go_sem]) rfl ⟨rfl,rfl⟩
   ·have A:o=(0,3):=by
      rw [HD.o,B.o];simp [h3]
    subst A;have k3:((hi:Int)==0)=false:=beq_eq_false_iff_ne.2 (by omega);clear HD B h3 h1 h2;go_enter Tryz.func211,Tryz.ntmps211
    go_wp2_with fail
    go_at_fn 227
    refine D.o.mono ?_;rintro e w1 ⟨rfl,rfl⟩;go_wp2_with fail
    go_at_fn 227
    refine C.o.mono ?_;rintro e w1 ⟨rfl,rfl⟩;go_wp2_with fail
    refine HM.o.mono ?_;rintro e w1 ⟨rfl,rfl⟩;go_wp2_with fail
    refine (show Calls Tryz.prog 209 #[.int .i64 (wrap64 (a * b)),.bool false] _ (fun e w'=>e=.returned (.tuple #[.int .i64 0,.int .i64 3])∧_=w') from dj (wrap64 (a * b)) false _).mono ?_;rintro e w1 ⟨rfl,rfl⟩;go_wp2_with fail
    exact bodyPost_ret (v:=.tuple #[.int .i64 0,.int .i64 3]) (by simp [results,Tryz.results211,go_sem]) rfl ⟨rfl,rfl⟩
  ·have d1:decide (a<0)=false:=by simp [h1]
   have d2:decide (b<0)=false:=by simp [h2]
   by_cases h3:hi=0
   ·have HO:Hd (o=if (lo:Int)≤9223372036854775807 then (wrap64 (a * b),0) else (0,3)):=zh (by
      rw [HD.o,B.o,h3];clear d1 d2;by_cases q:lo≤9223372036854775807
      · have q':(lo:Int)≤9223372036854775807:=by omega
        simp [h1,h2,q,q']
      · have q':¬(lo:Int)≤9223372036854775807:=by omega
        simp [h1,h2,q,q'])
    subst h3;clear HD B h1 h2;go_enter Tryz.func211,Tryz.ntmps211
    go_wp2_with fail
    go_at_fn 227
    refine D.o.mono ?_;rintro e w1 ⟨rfl,rfl⟩;go_wp2_with fail
    go_at_fn 227
    refine C.o.mono ?_;rintro e w1 ⟨rfl,rfl⟩;go_wp2_with fail
    refine HM.o.mono ?_;rintro e w1 ⟨rfl,rfl⟩;go_wp2_with fail
    cases hq:decide ((lo:Int)≤9223372036854775807)
    ·have A:o=(0,3):=HO.o.trans (by rw [if_neg (by simpa using hq)])
     subst A;clear hq HO;refine (show Calls Tryz.prog 209 #[.int .i64 (wrap64 (a * b)),.bool false] _ (fun e w'=>e=.returned (.tuple #[.int .i64 0,.int .i64 3])∧_=w') from dj (wrap64 (a * b)) false _).mono ?_;rintro e w1 ⟨rfl,rfl⟩;go_wp2_with fail
     exact bodyPost_ret (v:=.tuple #[.int .i64 0,.int .i64 3]) (by simp [results,Tryz.results211,go_sem]) rfl ⟨rfl,rfl⟩
    ·have A:o=(wrap64 (a * b),0):=HO.o.trans (by rw [if_pos (by simpa using hq)])
     subst A;clear hq HO;refine (show Calls Tryz.prog 209 #[.int .i64 (wrap64 (a * b)),.bool true] _ (fun e w'=>e=.returned (.tuple #[.int .i64 (wrap64 (a * b)),.int .i64 0])∧_=w') from dj (wrap64 (a * b)) true _).mono ?_;rintro e w1 ⟨rfl,rfl⟩;go_wp2_with fail
     exact bodyPost_ret (v:=.tuple #[.int .i64 (wrap64 (a * b)),.int .i64 0]) (by simp [results,Tryz.results211,go_sem]) rfl ⟨rfl,rfl⟩
   ·have A:o=(0,3):=by
      rw [HD.o,B.o];simp [h3]
    subst A;have k3:((hi:Int)==0)=false:=beq_eq_false_iff_ne.2 (by omega);clear HD B h3 h1 h2;go_enter Tryz.func211,Tryz.ntmps211
    go_wp2_with fail
    go_at_fn 227
    refine D.o.mono ?_;rintro e w1 ⟨rfl,rfl⟩;go_wp2_with fail
    go_at_fn 227
    refine C.o.mono ?_;rintro e w1 ⟨rfl,rfl⟩;go_wp2_with fail
    refine HM.o.mono ?_;rintro e w1 ⟨rfl,rfl⟩;go_wp2_with fail
    refine (show Calls Tryz.prog 209 #[.int .i64 (wrap64 (a * b)),.bool false] _ (fun e w'=>e=.returned (.tuple #[.int .i64 0,.int .i64 3])∧_=w') from dj (wrap64 (a * b)) false _).mono ?_;rintro e w1 ⟨rfl,rfl⟩;go_wp2_with fail
    exact bodyPost_ret (v:=.tuple #[.int .i64 0,.int .i64 3]) (by simp [results,Tryz.results211,go_sem]) rfl ⟨rfl,rfl⟩
end
section
open Go.RowKit
theorem gQ {n:Int} (h:-9223372036854775808≤n∧n≤9223372036854775807):wrap64 n=n:=by unfold wrap64;omega
def Cu (a b:Int):Int×Int:=(if (decide (a≤wrap64 (a+b))==decide (0≤b)) then wrap64 (a+b) else 0,if (decide (a≤wrap64 (a+b))==decide (0≤b)) then 0 else 3)
def BU (a b:Int):Int×Int:=(if (decide (wrap64 (a-b)≤a)==decide (0≤b)) then wrap64 (a-b) else 0,if (decide (wrap64 (a-b)≤a)==decide (0≤b)) then 0 else 3)
def Ce (a b:Int):Int×Int:=(if b=0 then 0 else if a=-9223372036854775808∧b=-1 then 0 else wrap64 (a.tdiv b),if b=0 then 2 else if a=-9223372036854775808∧b=-1 then 3 else 0)
def CI (a b:Int):Int×Int:=(if b=0 then 0 else if a=-9223372036854775808∧b=-1 then 0 else a.tmod b,if b=0 then 2 else if a=-9223372036854775808∧b=-1 then 3 else 0)
def nX (p:Int×Int):Vv×Int:=if p.2=0 then (aB p.1,0) else (noV,p.2)
theorem Al {a b:Int} (ha:aY a) (hb:aY b):nX (Cu a b)=inV (a+b):=by
 unfold aY at ha hb;unfold nX Cu inV;by_cases h:-9223372036854775808≤a+b∧a+b≤9223372036854775807
 ·have e:wrap64 (a+b)=a+b:=gQ h
  have c:(decide (a≤a+b)==decide (0≤b))=true:=by
   by_cases q:0≤b
   ·rw [decide_eq_true q,decide_eq_true (by omega)];rfl
   ·rw [decide_eq_false q,decide_eq_false (by omega)];rfl
  rw [e,c,if_pos h];rfl
 ·have c:(decide (a≤wrap64 (a+b))==decide (0≤b))=false:=by
    unfold wrap64;by_cases q:0≤b
    ·rw [decide_eq_true q,decide_eq_false (by omega)];rfl
    ·rw [decide_eq_false q,decide_eq_true (by omega)];rfl
  rw [c,if_neg h];rfl
theorem Af {a b:Int} (ha:aY a) (hb:aY b):nX (BU a b)=inV (a-b):=by
 unfold aY at ha hb;unfold nX BU inV;by_cases h:-9223372036854775808≤a-b∧a-b≤9223372036854775807
 ·have e:wrap64 (a-b)=a-b:=gQ h
  have c:(decide (a-b≤a)==decide (0≤b))=true:=by
   by_cases q:0≤b
   ·rw [decide_eq_true q,decide_eq_true (by omega)];rfl
   ·rw [decide_eq_false q,decide_eq_false (by omega)];rfl
  rw [e,c,if_pos h];rfl
 ·have c:(decide (wrap64 (a-b)≤a)==decide (0≤b))=false:=by
    unfold wrap64;by_cases q:0≤b
    ·rw [decide_eq_true q,decide_eq_false (by omega)];rfl
    ·rw [decide_eq_false q,decide_eq_true (by omega)];rfl
  rw [c,if_neg h];rfl
theorem qX {P M:Nat} (hM:M<18446744073709551616):(decide (P / 18446744073709551616=0)&&decide (P % 18446744073709551616≤M))=decide (P≤M):=by
 by_cases h:P≤M
 ·rw [decide_eq_true h,decide_eq_true (by omega),decide_eq_true (by omega)];rfl
 ·rw [decide_eq_false h]
  by_cases q:P / 18446744073709551616=0
  ·rw [decide_eq_false (by omega:¬P % 18446744073709551616≤M),Bool.and_false]
  ·rw [decide_eq_false q,Bool.false_and]
theorem AK {a b:Int}:nX (tz a b)=inV (a * b):=by
 have hn:a.natAbs * b.natAbs=(a * b).natAbs:=(Int.natAbs_mul a b).symm
 have hs:(decide (a<0)=decide (b<0)→0≤a * b)∧(¬decide (a<0)=decide (b<0)→a * b≤0):=by
  by_cases h1:a<0
  ·by_cases h2:b<0
   ·refine ⟨fun _=>?_,fun h=>absurd (by rw [decide_eq_true h1,decide_eq_true h2]) h⟩
    have:=Int.mul_pos_of_neg_of_neg h1 h2;omega
   ·refine ⟨fun h=>?_,fun _=>?_⟩
    ·rw [decide_eq_true h1,decide_eq_false h2] at h;cases h
    ·have:=Int.mul_le_mul_of_nonneg_right (show a≤0 by omega) (show 0≤b by omega)
     rwa [Int.zero_mul] at this
  ·by_cases h2:b<0
   ·refine ⟨fun h=>?_,fun _=>?_⟩
    ·rw [decide_eq_false h1,decide_eq_true h2] at h;cases h
    ·have:=Int.mul_le_mul_of_nonneg_left (show b≤0 by omega) (show 0≤a by omega)
     rwa [Int.mul_zero] at this
   ·exact ⟨fun _=>Int.mul_nonneg (by omega) (by omega),fun h=>absurd (by rw [decide_eq_false h1,decide_eq_false h2]) h⟩
 have hb:yQ a b=decide (-9223372036854775808≤a * b∧a * b≤9223372036854775807):=by
  unfold yQ;rw [hn];by_cases h:decide (a<0)=decide (b<0)
  ·rw [if_pos h,qX (by decide)]
   have:=hs.1 h;generalize a * b=x at *;exact decide_eq_decide.2 (by omega)
  ·rw [if_neg h,qX (by decide)]
   have:=hs.2 h;generalize a * b=x at *;exact decide_eq_decide.2 (by omega)
 unfold nX tz inV;by_cases h:-9223372036854775808≤a * b∧a * b≤9223372036854775807
 ·rw [hb,decide_eq_true h,if_pos h,if_pos rfl,gQ h]
  rfl
 ·rw [hb,decide_eq_false h,if_neg h]
  rfl
theorem pG {a b:Int} (ha:aY a) (h0:b≠0) (h:¬(a=-9223372036854775808∧b=-1)):-9223372036854775808≤a.tdiv b∧a.tdiv b≤9223372036854775807:=by
 unfold aY at ha;by_cases h1:b=1
 ·subst h1;rw [Int.tdiv_one];exact ha
 by_cases h2:b=-1
 ·subst h2
  rw [Int.tdiv_neg,Int.tdiv_one];omega
 have hb:2≤b.natAbs:=by omega
 have e:=Int.natAbs_tdiv a b;have A:a.natAbs / b.natAbs≤a.natAbs / 2:=Nat.div_le_div_left hb (by decide);rw [show Nat.div a.natAbs b.natAbs=a.natAbs / b.natAbs from rfl] at e;omega
theorem zJ {a b:Int} (ha:aY a):nX (Ce a b)=ju Int.tdiv a b:=by
 unfold nX Ce ju;by_cases h0:b=0
 ·simp [h0]
 by_cases h1:a=-9223372036854775808∧b=-1
 ·simp [h1]
 ·simp only [if_neg h0,if_neg h1,if_true]
  rw [gQ (pG ha h0 h1)]
theorem A8 {a b:Int}:nX (CI a b)=ju Int.tmod a b:=by
 unfold nX CI ju;by_cases h0:b=0
 ·simp [h0]
 by_cases h1:a=-9223372036854775808∧b=-1
 ·simp [h1]
 ·simp only [if_neg h0,if_neg h1,if_true]
theorem xw:fo ⟨#[43]⟩ ⟨some Cu,none,none,none⟩:=fun W=>(yx W).mono fun _ _ ⟨he,hb⟩=>⟨_,_,_,_,he,hb,⟨208,#[],rfl,fun _ _=>Tryz.call208 _ _,fun _ _ a b _ _=>wT a b _⟩,rfl,rfl,rfl⟩
theorem vN:fo ⟨#[45]⟩ ⟨some BU,none,none,none⟩:=fun W=>(vB W).mono fun _ _ ⟨he,hb⟩=>⟨_,_,_,_,he,hb,⟨210,#[],rfl,fun _ _=>Tryz.call210 _ _,fun _ _ a b _ _=>yd a b _⟩,rfl,rfl,rfl⟩
theorem xK:fo ⟨#[42]⟩ ⟨some tz,none,none,none⟩:=fun W=>(yv W).mono fun _ _ ⟨he,hb⟩=>⟨_,_,_,_,he,hb,⟨211,#[],rfl,fun _ _=>Tryz.call211 _ _,fun _ _ a b ha hb=>tJ a b _ ha hb⟩,rfl,rfl,rfl⟩
theorem CH:fo ⟨#[60]⟩ ⟨none,some fun a b=>decide (a<b),none,none⟩:=fun W=>(Cr W).mono fun _ _ ⟨he,hb⟩=>⟨_,_,_,_,he,hb,rfl,⟨215,rfl,fun _ _=>Tryz.call215 _ _,AL⟩,rfl,rfl⟩
theorem Cq:fo ⟨#[60,61]⟩ ⟨none,some fun a b=>decide (a≤b),none,none⟩:=fun W=>(BZ W).mono fun _ _ ⟨he,hb⟩=>⟨_,_,_,_,he,hb,rfl,⟨216,rfl,fun _ _=>Tryz.call216 _ _,zC⟩,rfl,rfl⟩
theorem BF:fo ⟨#[62]⟩ ⟨none,some fun a b=>decide (b<a),none,none⟩:=fun W=>(CL W).mono fun _ _ ⟨he,hb⟩=>⟨_,_,_,_,he,hb,rfl,⟨217,rfl,fun _ _=>Tryz.call217 _ _,Am⟩,rfl,rfl⟩
theorem CA:fo ⟨#[62,61]⟩ ⟨none,some fun a b=>decide (b≤a),none,none⟩:=fun W=>(CN W).mono fun _ _ ⟨he,hb⟩=>⟨_,_,_,_,he,hb,rfl,⟨218,rfl,fun _ _=>Tryz.call218 _ _,zM⟩,rfl,rfl⟩
theorem Cl:fo ⟨#[61,61]⟩ ⟨none,some fun a b=>a==b,some fun a b=>a==b,some fun a=>a==0⟩:=fun W=>(BT W).mono fun _ _ ⟨he,hb⟩=>⟨_,_,_,_,he,hb,rfl,⟨219,rfl,fun _ _=>Tryz.call219 _ _,zU⟩,⟨220,rfl,fun _ _=>Tryz.call220 _ _,yh⟩,⟨221,rfl,fun _ _=>Tryz.call221 _ _,yw⟩⟩
theorem BN:fo ⟨#[33,61]⟩ ⟨none,some fun a b=>a !=b,some fun a b=>a !=b,some fun a=>a !=0⟩:=fun W=>(Ck W).mono fun _ _ ⟨he,hb⟩=>⟨_,_,_,_,he,hb,rfl,⟨222,rfl,fun _ _=>Tryz.call222 _ _,AP⟩,⟨223,rfl,fun _ _=>Tryz.call223 _ _,yL⟩,⟨224,rfl,fun _ _=>Tryz.call224 _ _,xx⟩⟩
theorem AW:fo ⟨#[38,38]⟩ ⟨none,none,some fun a b=>a&&b,none⟩:=fun W=>(AZ W).mono fun _ _ ⟨he,hb⟩=>⟨_,_,_,_,he,hb,rfl,rfl,⟨225,rfl,fun _ _=>Tryz.call225 _ _,vz⟩,rfl⟩
theorem Cc:fo ⟨#[124,124]⟩ ⟨none,none,some fun a b=>a || b,none⟩:=fun W=>(Cz W).mono fun _ _ ⟨he,hb⟩=>⟨_,_,_,_,he,hb,rfl,rfl,⟨226,rfl,fun _ _=>Tryz.call226 _ _,ye⟩,rfl⟩
theorem zG:fo ⟨#[47]⟩ ⟨some Ce,none,none,none⟩:=fun W=>(At W).mono fun _ _ ⟨he,hb,hc⟩=>⟨_,_,_,_,he,hb,⟨229,#[.pointer (some ⟨W.heap.size+1,0,none⟩)],rfl,fun _ _=>Tryz.call229 _ _,fun _ hW a b _ _=>vM a b _ _ (aa ((hW.block _ (af hc)).trans hc) rfl)⟩,rfl,rfl,rfl⟩
theorem zR:fo ⟨#[37]⟩ ⟨some CI,none,none,none⟩:=fun W=>(Ad W).mono fun _ _ ⟨he,hb,hc⟩=>⟨_,_,_,_,he,hb,⟨229,#[.pointer (some ⟨W.heap.size+1,0,none⟩)],rfl,fun _ _=>Tryz.call229 _ _,fun _ hW a b _ _=>vh a b _ _ (aa ((hW.block _ (af hc)).trans hc) rfl)⟩,rfl,rfl,rfl⟩
def zY (s:List UInt8):Prop:=s=[43]∨s=[45]∨s=[42]∨s=[47]∨s=[37]∨s=[60]∨s=[60,61]∨s=[62]∨s=[62,61]∨s=[61,61]∨s=[33,61]∨s=[38,38]∨s=[124,124]
def jP (r:Rw) (s:List UInt8) (a b:Vv):Vv×Int:=
 if a.ty≠b.ty then (noV,7)
 else if a.ty=1 then (match r.F with
   | some f=>nX (f a.num b.num)
   | none=>match r.H with
     | some h=>(a8 (h a.num b.num),0)
     | none=>(noV,7))
 else if a.ty=2 then (match r.B with
   | some f=>(a8 (f (a.num==1) (b.num==1)),0)
   | none=>(noV,7))
 else if a.ty=3 then (match r.T with
   | some f=>(a8 (f (Lib.compareBytes a.text b.text)),0)
   | none=>if s=[43] then (if 256<a.text.length+b.text.length then (noV,6) else (aH (a.text++b.text),0)) else (noV,7))
 else (noV,7)
theorem Ab {S1 S2:Nat→Prop} {va vb:Value} {a b:Vv} {t:ByteArray} {r:Rw} {w:World} (ho:fo t r) (ha:VvAt S1 w va a) (hb:VvAt S2 w vb b) (oa:OkV a) (ob:OkV b) :
    Calls Tryz.prog 199 #[.string t,va,vb] w (dC w (jP r t.toList a b)):=by
 obtain ⟨pa,ca,rfl,C⟩:=ha;obtain ⟨pb,cb,rfl,A⟩:=hb;obtain ⟨ta,na,xa⟩:=a;obtain ⟨tb,nb',xb⟩:=b;have h1:=oa.num;have h2:=ob.num;have h3:=oa.text;have h4:=ob.text;dsimp only at *;unfold jP;dsimp only;by_cases e:ta=tb
 ·subst e
  rw [if_neg (fun h=>h rfl)];by_cases e1:ta=1
  ·subst e1
   rw [if_pos rfl]
   cases hF:r.F with
   | some F=>exact zb ho hF h1 h2 rfl
   | none =>
    cases hH:r.H with
    | some H=>exact vD ho hF hH
    | none=>exact wj ho hF hH
  rw [if_neg e1];by_cases e2:ta=2
  ·subst e2
   rw [if_pos rfl]
   cases hB:r.B with
   | some F=>exact vG ho hB
   | none=>exact uR ho hB
  rw [if_neg e2];by_cases e3:ta=3
  ·subst e3
   rw [if_pos rfl]
   cases hT:r.T with
   | some F=>exact uG C A ho hT
   | none =>
    dsimp only;by_cases e4:t.toList=[43]
    ·rw [if_pos e4]
     by_cases e5:256<xa.length+xb.length
     ·rw [if_pos e5]
      exact Az ho hT e4 h3 e5 h4
     ·rw [if_neg e5]
      exact zx C A ho hT e4 (by omega)
    ·rw [if_neg e4]
     exact wJ ho hT e4
  rw [if_neg e3];exact uM ho e1 e2 e3
 ·rw [if_pos e]
  exact ti ho e
theorem Bn (a b:Int):(a==b)=decide (a=b):=by by_cases h:a=b<;>simp [h]
theorem ua (a b:List UInt8):decide (Lib.compareBytes a b=0)=(a==b):=by
 by_cases h:a=b
 ·rw [decide_eq_true ((iZ a b).2 h),h];simp
 ·rw [beq_eq_false_iff_ne.2 h]
  exact decide_eq_false fun q=>h ((iZ a b).1 q)
theorem mU {S1 S2:Nat→Prop} {va vb:Value} {a b:Vv} (t:ByteArray) (w:World) (ha:VvAt S1 w va a) (hb:VvAt S2 w vb b) (oa:OkV a) (ob:OkV b) (ht:zY t.toList) :
    Calls Tryz.prog 199 #[.string t,va,vb] w (dC w (cQ t.toList a b)):=by
 have key:∀(s:List UInt8) (r:Rw),t.toList=s→fo ⟨s.toArray⟩ r→jP r s a b=cQ s a b→Calls Tryz.prog 199 #[.string t,va,vb] w (dC w (cQ t.toList a b)):=fun s r e ho hr=>by
  rw [e,←hr,←e];exact Ab (by rw [gC e];exact ho) ha hb oa ob
 rcases ht with h | h | h | h | h | h | h | h | h | h | h | h | h
 ·exact key _ _ h xw (by simp [jP,cQ,eH,dT,dV,Al oa.num ob.num])
 ·exact key _ _ h vN (by simp [jP,cQ,eH,dT,dV,Af oa.num ob.num])
 ·exact key _ _ h xK (by simp [jP,cQ,eH,dT,dV,AK])
 ·exact key _ _ h zG (by simp [jP,cQ,eH,dT,dV,zJ oa.num])
 ·exact key _ _ h zR (by simp [jP,cQ,eH,dT,dV,A8])
 ·exact key _ _ h CH (by simp [jP,cQ,eH,dT,dV])
 ·exact key _ _ h Cq (by simp [jP,cQ,eH,dT,dV])
 ·exact key _ _ h BF (by simp [jP,cQ,eH,dT,dV])
 ·exact key _ _ h CA (by simp [jP,cQ,eH,dT,dV])
 ·exact key _ _ h Cl (by simp [jP,cQ,eH,dT,dV,ua,Bn])
 ·exact key _ _ h BN (by simp [jP,cQ,eH,dT,dV,ua,bne,Bn])
 ·exact key _ _ h AW (by simp [jP,cQ,eH,dT,dV])
 ·exact key _ _ h Cc (by simp [jP,cQ,eH,dT,dV])
end
end Go.Proofs.YthgcpfkochikfaaGreat
