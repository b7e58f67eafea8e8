/-
  EvalSigns: part 2 of its proof: see the last text.
-/
import Derived.Test.YthgcpfkochikfaaGreatRows
import Derived.Test.YthgcpfkochikfaaGreatPs01
import Derived.Test.YthgcpfkochikfaaGreatPs00
import Derived.Laws.EntriesVeiled
set_option maxRecDepth 100000
set_option maxHeartbeats 16000000
namespace Go.Proofs.YthgcpfkochikfaaGreat
section
open Go.RowKit
theorem jx (n:Int) (w:World):Calls Tryz.prog 108 #[.int .i64 n] w fun e w'=>e=.returned (.agg #[.int .i64 1,.int .i64 n,.slice none 0 0])∧Below w.heap.size w w':=by
 go_enter Tryz.func108,Tryz.ntmps108
 go_wp2_with fail
 exact bodyPost_ret (v:=.agg #[.int .i64 1,.int .i64 n,.slice none 0 0]) (by simp [results,Tryz.results108,go_sem]) rfl ⟨rfl,ag (Below.refl _ _) _⟩
theorem di (n:Int) (b:Bool) (w:World):Calls Tryz.prog 209 #[.int .i64 n,.bool b] w fun e w'=>e=.returned (.tuple #[.int .i64 (if b then n else 0),.int .i64 (if b then 0 else 3)])∧w=w':=by
 go_enter Tryz.func209,Tryz.ntmps209
 cases b
 ·go_wp2_with fail
  exact bodyPost_ret (v:=.tuple #[.int .i64 0,.int .i64 3]) (by simp [results,Tryz.results209,go_sem]) rfl ⟨rfl,rfl⟩
 ·go_wp2_with fail
  exact bodyPost_ret (v:=.tuple #[.int .i64 n,.int .i64 0]) (by simp [results,Tryz.results209,go_sem]) rfl ⟨rfl,rfl⟩
theorem zC (a b:Int) (w:World):Calls Tryz.prog 215 #[.int .i64 a,.int .i64 b] w fun e w'=>e=.returned (.bool (decide (a<b)))∧w=w':=by
 go_enter Tryz.func215,Tryz.ntmps215
 go_wp2_with fail
 exact bodyPost_ret (v:=.bool (decide (a<b))) (by simp [results,Tryz.results215,go_sem]) rfl ⟨rfl,rfl⟩
theorem Ar (a b:Int) (w:World):Calls Tryz.prog 216 #[.int .i64 a,.int .i64 b] w fun e w'=>e=.returned (.bool (decide (a≤b)))∧w=w':=by
 go_enter Tryz.func216,Tryz.ntmps216
 go_wp2_with fail
 exact bodyPost_ret (v:=.bool (decide (a≤b))) (by simp [results,Tryz.results216,go_sem]) rfl ⟨rfl,rfl⟩
theorem zV (a b:Int) (w:World):Calls Tryz.prog 217 #[.int .i64 a,.int .i64 b] w fun e w'=>e=.returned (.bool (decide (b<a)))∧w=w':=by
 go_enter Tryz.func217,Tryz.ntmps217
 go_wp2_with fail
 exact bodyPost_ret (v:=.bool (decide (b<a))) (by simp [results,Tryz.results217,go_sem]) rfl ⟨rfl,rfl⟩
theorem Aj (a b:Int) (w:World):Calls Tryz.prog 218 #[.int .i64 a,.int .i64 b] w fun e w'=>e=.returned (.bool (decide (b≤a)))∧w=w':=by
 go_enter Tryz.func218,Tryz.ntmps218
 go_wp2_with fail
 exact bodyPost_ret (v:=.bool (decide (b≤a))) (by simp [results,Tryz.results218,go_sem]) rfl ⟨rfl,rfl⟩
theorem zT (a b:Int) (w:World):Calls Tryz.prog 219 #[.int .i64 a,.int .i64 b] w fun e w'=>e=.returned (.bool (a==b))∧w=w':=by
 go_enter Tryz.func219,Tryz.ntmps219
 go_wp2_with fail
 exact bodyPost_ret (v:=.bool (a==b)) (by simp [results,Tryz.results219,go_sem]) rfl ⟨rfl,rfl⟩
theorem AY (a b:Int) (w:World):Calls Tryz.prog 222 #[.int .i64 a,.int .i64 b] w fun e w'=>e=.returned (.bool (a !=b))∧w=w':=by
 go_enter Tryz.func222,Tryz.ntmps222
 go_wp2_with fail
 exact bodyPost_ret (v:=.bool (a !=b)) (by simp [results,Tryz.results222,go_sem]) rfl ⟨rfl,rfl⟩
theorem zk (a b:Bool) (w:World):Calls Tryz.prog 220 #[.bool a,.bool b] w fun e w'=>e=.returned (.bool (a==b))∧w=w':=by
 go_enter Tryz.func220,Tryz.ntmps220
 cases a<;>cases b
 all_goals go_wp2_with fail
 all_goals exact bodyPost_ret (v:=.bool _) (by simp [results,Tryz.results220,go_sem]) rfl ⟨rfl,rfl⟩
theorem yi (a b:Bool) (w:World):Calls Tryz.prog 223 #[.bool a,.bool b] w fun e w'=>e=.returned (.bool (a !=b))∧w=w':=by
 go_enter Tryz.func223,Tryz.ntmps223
 cases a<;>cases b
 all_goals go_wp2_with fail
 all_goals exact bodyPost_ret (v:=.bool _) (by simp [results,Tryz.results223,go_sem]) rfl ⟨rfl,rfl⟩
theorem vq (a b:Bool) (w:World):Calls Tryz.prog 225 #[.bool a,.bool b] w fun e w'=>e=.returned (.bool (a&&b))∧w=w':=by
 go_enter Tryz.func225,Tryz.ntmps225
 cases a<;>cases b
 all_goals go_wp2_with fail
 all_goals exact bodyPost_ret (v:=.bool _) (by simp [results,Tryz.results225,go_sem]) rfl ⟨rfl,rfl⟩
theorem yA (a b:Bool) (w:World):Calls Tryz.prog 226 #[.bool a,.bool b] w fun e w'=>e=.returned (.bool (a || b))∧w=w':=by
 go_enter Tryz.func226,Tryz.ntmps226
 cases a<;>cases b
 all_goals go_wp2_with fail
 all_goals exact bodyPost_ret (v:=.bool _) (by simp [results,Tryz.results226,go_sem]) rfl ⟨rfl,rfl⟩
theorem yv (a:Int) (w:World):Calls Tryz.prog 221 #[.int .i64 a] w fun e w'=>e=.returned (.bool (a==0))∧w=w':=by
 go_enter Tryz.func221,Tryz.ntmps221
 go_wp2_with fail
 exact bodyPost_ret (v:=.bool (a==0)) (by simp [results,Tryz.results221,go_sem]) rfl ⟨rfl,rfl⟩
theorem xD (a:Int) (w:World):Calls Tryz.prog 224 #[.int .i64 a] w fun e w'=>e=.returned (.bool (a !=0))∧w=w':=by
 go_enter Tryz.func224,Tryz.ntmps224
 go_wp2_with fail
 exact bodyPost_ret (v:=.bool (a !=0)) (by simp [results,Tryz.results224,go_sem]) rfl ⟨rfl,rfl⟩
theorem yS (a b:Int) (w:World):Calls Tryz.prog 208 #[.int .i64 a,.int .i64 b] w fun e w'=>e=.returned (.tuple #[.int .i64 (if (decide (a≤wrap64 (a+b))==decide (0≤b)) then wrap64 (a+b) else 0),.int .i64 (if (decide (a≤wrap64 (a+b))==decide (0≤b)) then 0 else 3)])∧w=w':=by
 by_cases hc:(decide (a≤wrap64 (a+b))==decide (0≤b))=true
 ·have A:Hd (Calls Tryz.prog 209 #[.int .i64 (wrap64 (a+b)),.bool (decide (a≤wrap64 (a+b))==decide (0≤b))] w fun e w'=>e=.returned (.tuple #[.int .i64 (wrap64 (a+b)),.int .i64 0])∧w=w'):=zh (by
    have q:=di (wrap64 (a+b)) (decide (a≤wrap64 (a+b))==decide (0≤b)) w;rw [if_pos hc,if_pos hc] at q;exact q)
  rw [if_pos hc,if_pos hc];clear hc;go_enter Tryz.func208,Tryz.ntmps208
  go_wp2_with fail
  refine A.o.mono ?_;rintro e w' ⟨rfl,rfl⟩;go_wp2_with fail
  exact bodyPost_ret (v:=.tuple #[.int .i64 (wrap64 (a+b)),.int .i64 0]) (by simp [results,Tryz.results208,go_sem]) rfl ⟨rfl,rfl⟩
 ·have A:Hd (Calls Tryz.prog 209 #[.int .i64 (wrap64 (a+b)),.bool (decide (a≤wrap64 (a+b))==decide (0≤b))] w fun e w'=>e=.returned (.tuple #[.int .i64 0,.int .i64 3])∧w=w'):=zh (by
    have q:=di (wrap64 (a+b)) (decide (a≤wrap64 (a+b))==decide (0≤b)) w;rw [if_neg hc,if_neg hc] at q;exact q)
  rw [if_neg hc,if_neg hc];clear hc;go_enter Tryz.func208,Tryz.ntmps208
  go_wp2_with fail
  refine A.o.mono ?_;rintro e w' ⟨rfl,rfl⟩;go_wp2_with fail
  exact bodyPost_ret (v:=.tuple #[.int .i64 0,.int .i64 3]) (by simp [results,Tryz.results208,go_sem]) rfl ⟨rfl,rfl⟩
theorem yr (a b:Int) (w:World):Calls Tryz.prog 210 #[.int .i64 a,.int .i64 b] w fun e w'=>e=.returned (.tuple #[.int .i64 (if (decide (wrap64 (a-b)≤a)==decide (0≤b)) then wrap64 (a-b) else 0),.int .i64 (if (decide (wrap64 (a-b)≤a)==decide (0≤b)) then 0 else 3)])∧w=w':=by
 by_cases hc:(decide (wrap64 (a-b)≤a)==decide (0≤b))=true
 ·have A:Hd (Calls Tryz.prog 209 #[.int .i64 (wrap64 (a-b)),.bool (decide (wrap64 (a-b)≤a)==decide (0≤b))] w fun e w'=>e=.returned (.tuple #[.int .i64 (wrap64 (a-b)),.int .i64 0])∧w=w'):=zh (by
    have q:=di (wrap64 (a-b)) (decide (wrap64 (a-b)≤a)==decide (0≤b)) w;rw [if_pos hc,if_pos hc] at q;exact q)
  rw [if_pos hc,if_pos hc];clear hc;go_enter Tryz.func210,Tryz.ntmps210
  go_wp2_with fail
  refine A.o.mono ?_;rintro e w' ⟨rfl,rfl⟩;go_wp2_with fail
  exact bodyPost_ret (v:=.tuple #[.int .i64 (wrap64 (a-b)),.int .i64 0]) (by simp [results,Tryz.results210,go_sem]) rfl ⟨rfl,rfl⟩
 ·have A:Hd (Calls Tryz.prog 209 #[.int .i64 (wrap64 (a-b)),.bool (decide (wrap64 (a-b)≤a)==decide (0≤b))] w fun e w'=>e=.returned (.tuple #[.int .i64 0,.int .i64 3])∧w=w'):=zh (by
    have q:=di (wrap64 (a-b)) (decide (wrap64 (a-b)≤a)==decide (0≤b)) w;rw [if_neg hc,if_neg hc] at q;exact q)
  rw [if_neg hc,if_neg hc];clear hc;go_enter Tryz.func210,Tryz.ntmps210
  go_wp2_with fail
  refine A.o.mono ?_;rintro e w' ⟨rfl,rfl⟩;go_wp2_with fail
  exact bodyPost_ret (v:=.tuple #[.int .i64 0,.int .i64 3]) (by simp [results,Tryz.results210,go_sem]) rfl ⟨rfl,rfl⟩
end
section
open Go.RowKit
theorem xB (a b:Int) (w:World) (hb:b≠0):Calls Tryz.prog 213 #[.int .i64 a,.int .i64 b] w fun e w'=>e=.returned (.int .i64 (wrap64 (a.tdiv b)))∧w=w':=by
 go_enter Tryz.func213,Tryz.ntmps213
 go_wp2_with fail
 exact bodyPost_ret (v:=.int .i64 (wrap64 (a.tdiv b))) (by simp [results,Tryz.results213,go_sem]) rfl ⟨rfl,rfl⟩
theorem yK (a b:Int) (w:World) (hb:b≠0):Calls Tryz.prog 214 #[.int .i64 a,.int .i64 b] w fun e w'=>e=.returned (.int .i64 (a.tmod b))∧w=w':=by
 go_enter Tryz.func214,Tryz.ntmps214
 go_wp2_with fail
 exact bodyPost_ret (v:=.int .i64 (a.tmod b)) (by simp [results,Tryz.results214,go_sem]) rfl ⟨rfl,rfl⟩
theorem oP (a:Int) (w:World) (ha:bf a):Calls Tryz.prog 227 #[.int .i64 a] w fun e w'=>e=.returned (.int .u64 (a.natAbs:Int))∧w=w':=by
 unfold bf at ha;go_enter Tryz.func227,Tryz.ntmps227
 by_cases h:a<0
 ·have e1:IntKind.u64.wrap a=a+18446744073709551616:=by rw [IntKind.wrap_u64];omega
  have e2:IntKind.u64.wrap (-(a+18446744073709551616))=(a.natAbs:Int):=by rw [IntKind.wrap_u64];omega
  go_wp2_with fail
  exact bodyPost_ret (v:=.int .u64 (a.natAbs:Int)) (by simp [results,Tryz.results227,go_sem]) rfl ⟨rfl,rfl⟩
 ·have e1:IntKind.u64.wrap a=(a.natAbs:Int):=by rw [IntKind.wrap_u64];omega
  go_wp2_with fail
  exact bodyPost_ret (v:=.int .u64 (a.natAbs:Int)) (by simp [results,Tryz.results227,go_sem]) rfl ⟨rfl,rfl⟩
end
section
open Go.RowKit
theorem vu (a b:Int) (bx:Nat) (w:World) (B:w.cell? ⟨bx,0,none⟩=some (.func (.func 213) #[] #[])):Calls Tryz.prog 229 #[.int .i64 a,.int .i64 b,.pointer (some ⟨bx,0,none⟩)] w fun e w' =>
    e=.returned (.tuple #[.int .i64 (if b=0 then 0 else if a=-9223372036854775808∧b=-1 then 0 else wrap64 (a.tdiv b)),.int .i64 (if b=0 then 2 else if a=-9223372036854775808∧b=-1 then 3 else 0)])∧w=w':=by
 have HD:=zh (fun hb=>xB a b w hb);have A:∀args W,Sem.run Tryz.prog (callFunc 213 args) W=.ok (.enter 213 args) W:=fun _ _=>Tryz.call213 _ _;by_cases h0:b=0
 ·subst h0
  simp only [if_true]
  go_enter Tryz.func229,Tryz.ntmps229
  go_wp2_with fail
  exact bodyPost_ret (v:=.tuple #[.int .i64 0,.int .i64 2]) (by simp [results,Tryz.results229,go_sem]) rfl ⟨rfl,rfl⟩
 ·simp only [if_neg h0]
  by_cases h1:a=-9223372036854775808∧b=-1
  ·simp only [if_pos h1]
   obtain ⟨rfl,rfl⟩:=h1;clear HD h0;go_enter Tryz.func229,Tryz.ntmps229
   go_wp2_with fail
   exact bodyPost_ret (v:=.tuple #[.int .i64 0,.int .i64 3]) (by simp [results,Tryz.results229,go_sem]) rfl ⟨rfl,rfl⟩
  ·simp only [if_neg h1]
   by_cases h2:a=-9223372036854775808
   ·have h3:¬b=-1:=fun h=>h1 ⟨h2,h⟩
    subst h2;go_enter Tryz.func229,Tryz.ntmps229
    go_wp2_with fail
    refine (HD.o h0).mono ?_;rintro e w' ⟨rfl,rfl⟩;go_wp2_with fail
    exact bodyPost_ret (v:=.tuple #[.int .i64 (wrap64 (Int.tdiv (-9223372036854775808) b)),.int .i64 0]) (by simp [results,Tryz.results229,go_sem]) rfl ⟨rfl,rfl⟩
   ·go_enter Tryz.func229,Tryz.ntmps229
    go_wp2_with fail
    refine (HD.o h0).mono ?_;rintro e w' ⟨rfl,rfl⟩;go_wp2_with fail
    exact bodyPost_ret (v:=.tuple #[.int .i64 (wrap64 (a.tdiv b)),.int .i64 0]) (by simp [results,Tryz.results229,go_sem]) rfl ⟨rfl,rfl⟩
theorem vz (a b:Int) (bx:Nat) (w:World) (B:w.cell? ⟨bx,0,none⟩=some (.func (.func 214) #[] #[])):Calls Tryz.prog 229 #[.int .i64 a,.int .i64 b,.pointer (some ⟨bx,0,none⟩)] w fun e w' =>
    e=.returned (.tuple #[.int .i64 (if b=0 then 0 else if a=-9223372036854775808∧b=-1 then 0 else a.tmod b),.int .i64 (if b=0 then 2 else if a=-9223372036854775808∧b=-1 then 3 else 0)])∧w=w':=by
 have HD:=zh (fun hb=>yK a b w hb);have A:∀args W,Sem.run Tryz.prog (callFunc 214 args) W=.ok (.enter 214 args) W:=fun _ _=>Tryz.call214 _ _;by_cases h0:b=0
 ·subst h0
  simp only [if_true]
  go_enter Tryz.func229,Tryz.ntmps229
  go_wp2_with fail
  exact bodyPost_ret (v:=.tuple #[.int .i64 0,.int .i64 2]) (by simp [results,Tryz.results229,go_sem]) rfl ⟨rfl,rfl⟩
 ·simp only [if_neg h0]
  by_cases h1:a=-9223372036854775808∧b=-1
  ·simp only [if_pos h1]
   obtain ⟨rfl,rfl⟩:=h1;clear HD h0;go_enter Tryz.func229,Tryz.ntmps229
   go_wp2_with fail
   exact bodyPost_ret (v:=.tuple #[.int .i64 0,.int .i64 3]) (by simp [results,Tryz.results229,go_sem]) rfl ⟨rfl,rfl⟩
  ·simp only [if_neg h1]
   by_cases h2:a=-9223372036854775808
   ·have h3:¬b=-1:=fun h=>h1 ⟨h2,h⟩
    subst h2;go_enter Tryz.func229,Tryz.ntmps229
    go_wp2_with fail
    refine (HD.o h0).mono ?_;rintro e w' ⟨rfl,rfl⟩;go_wp2_with fail
    exact bodyPost_ret (v:=.tuple #[.int .i64 (Int.tmod (-9223372036854775808) b),.int .i64 0]) (by simp [results,Tryz.results229,go_sem]) rfl ⟨rfl,rfl⟩
   ·go_enter Tryz.func229,Tryz.ntmps229
    go_wp2_with fail
    refine (HD.o h0).mono ?_;rintro e w' ⟨rfl,rfl⟩;go_wp2_with fail
    exact bodyPost_ret (v:=.tuple #[.int .i64 (a.tmod b),.int .i64 0]) (by simp [results,Tryz.results229,go_sem]) rfl ⟨rfl,rfl⟩
end
section
open Go.RowKit
attribute [local go_sem ↓] Go.wp_at_zero Go.wp_at_succ
theorem oQ (k:Nat) (w:World):Calls Tryz.prog 212 #[.func (.func k) #[] #[]] w fun e w'=>e=.returned (.func (.func 229) #[] #[.pointer (some ⟨w.heap.size,0,none⟩)])∧w'=w.alloc (.cells #[.func (.func k) #[] #[]] 262):=by
 go_enter Tryz.func212,Tryz.ntmps212
 go_wp2_with fail
 exact bodyPost_ret (v:=.func (.func 229) #[] #[.pointer (some ⟨w.heap.size,0,none⟩)]) (by simp [results,Tryz.results212,go_sem]) rfl ⟨rfl,rfl⟩
def fnV (k:Nat):Value:=.func (.func k) #[] #[]
theorem xu (w:World):Calls Tryz.prog 205 #[.string ⟨#[43]⟩] w fun e w'=>e=.returned (.agg #[(fnV 208),.nilFunc,.nilFunc,.nilFunc])∧Below w.heap.size w w':=by
 have hz:=aj w (.cells #[.nilFunc,.nilFunc,.nilFunc,.nilFunc] 257) w.heap.size rfl;have n0:=aa hz (j:=0) (u:=.nilFunc) rfl;have n1:=aa hz (j:=1) (u:=.nilFunc) rfl;have n2:=aa hz (j:=2) (u:=.nilFunc) rfl;have n3:=aa hz (j:=3) (u:=.nilFunc) rfl;have z0:=ae hz 0;have z1:=ae hz 1;have z2:=ae hz 2;have z3:=ae hz 3;clear hz;unfold fnV;go_enter Tryz.func205,Tryz.ntmps205
 go_wp2_with fail
 refine bodyPost_ret (v:=(.agg #[(fnV 208),.nilFunc,.nilFunc,.nilFunc]:Value)) (by unfold fnV;simp [results,Tryz.results205,go_sem]) rfl ⟨rfl,?_⟩;repeat (first | exact Below.refl _ _ | refine Below.setCell ?_ (Nat.le_refl _) _ | refine Below.alloc ?_ (Nat.le_refl _) _)
theorem vG (w:World):Calls Tryz.prog 205 #[.string ⟨#[45]⟩] w fun e w'=>e=.returned (.agg #[(fnV 210),.nilFunc,.nilFunc,.nilFunc])∧Below w.heap.size w w':=by
 have hz:=aj w (.cells #[.nilFunc,.nilFunc,.nilFunc,.nilFunc] 257) w.heap.size rfl;have n0:=aa hz (j:=0) (u:=.nilFunc) rfl;have n1:=aa hz (j:=1) (u:=.nilFunc) rfl;have n2:=aa hz (j:=2) (u:=.nilFunc) rfl;have n3:=aa hz (j:=3) (u:=.nilFunc) rfl;have z0:=ae hz 0;have z1:=ae hz 1;have z2:=ae hz 2;have z3:=ae hz 3;clear hz;unfold fnV;go_enter Tryz.func205,Tryz.ntmps205
 go_wp2_with fail
 refine bodyPost_ret (v:=(.agg #[(fnV 210),.nilFunc,.nilFunc,.nilFunc]:Value)) (by unfold fnV;simp [results,Tryz.results205,go_sem]) rfl ⟨rfl,?_⟩;repeat (first | exact Below.refl _ _ | refine Below.setCell ?_ (Nat.le_refl _) _ | refine Below.alloc ?_ (Nat.le_refl _) _)
theorem ze (w:World):Calls Tryz.prog 205 #[.string ⟨#[42]⟩] w fun e w'=>e=.returned (.agg #[(fnV 211),.nilFunc,.nilFunc,.nilFunc])∧Below w.heap.size w w':=by
 have hz:=aj w (.cells #[.nilFunc,.nilFunc,.nilFunc,.nilFunc] 257) w.heap.size rfl;have n0:=aa hz (j:=0) (u:=.nilFunc) rfl;have n1:=aa hz (j:=1) (u:=.nilFunc) rfl;have n2:=aa hz (j:=2) (u:=.nilFunc) rfl;have n3:=aa hz (j:=3) (u:=.nilFunc) rfl;have z0:=ae hz 0;have z1:=ae hz 1;have z2:=ae hz 2;have z3:=ae hz 3;clear hz;unfold fnV;go_enter Tryz.func205,Tryz.ntmps205
 go_wp2_with fail
 refine bodyPost_ret (v:=(.agg #[(fnV 211),.nilFunc,.nilFunc,.nilFunc]:Value)) (by unfold fnV;simp [results,Tryz.results205,go_sem]) rfl ⟨rfl,?_⟩;repeat (first | exact Below.refl _ _ | refine Below.setCell ?_ (Nat.le_refl _) _ | refine Below.alloc ?_ (Nat.le_refl _) _)
theorem BZ (w:World):Calls Tryz.prog 205 #[.string ⟨#[60]⟩] w fun e w'=>e=.returned (.agg #[.nilFunc,(fnV 215),.nilFunc,.nilFunc])∧Below w.heap.size w w':=by
 have hz:=aj w (.cells #[.nilFunc,.nilFunc,.nilFunc,.nilFunc] 257) w.heap.size rfl;have n0:=aa hz (j:=0) (u:=.nilFunc) rfl;have n1:=aa hz (j:=1) (u:=.nilFunc) rfl;have n2:=aa hz (j:=2) (u:=.nilFunc) rfl;have n3:=aa hz (j:=3) (u:=.nilFunc) rfl;have z0:=ae hz 0;have z1:=ae hz 1;have z2:=ae hz 2;have z3:=ae hz 3;clear hz;unfold fnV;go_enter Tryz.func205,Tryz.ntmps205
 go_wp2_with fail
 refine bodyPost_ret (v:=(.agg #[.nilFunc,(fnV 215),.nilFunc,.nilFunc]:Value)) (by unfold fnV;simp [results,Tryz.results205,go_sem]) rfl ⟨rfl,?_⟩;repeat (first | exact Below.refl _ _ | refine Below.setCell ?_ (Nat.le_refl _) _ | refine Below.alloc ?_ (Nat.le_refl _) _)
theorem Co (w:World):Calls Tryz.prog 205 #[.string ⟨#[60,61]⟩] w fun e w'=>e=.returned (.agg #[.nilFunc,(fnV 216),.nilFunc,.nilFunc])∧Below w.heap.size w w':=by
 have hz:=aj w (.cells #[.nilFunc,.nilFunc,.nilFunc,.nilFunc] 257) w.heap.size rfl;have n0:=aa hz (j:=0) (u:=.nilFunc) rfl;have n1:=aa hz (j:=1) (u:=.nilFunc) rfl;have n2:=aa hz (j:=2) (u:=.nilFunc) rfl;have n3:=aa hz (j:=3) (u:=.nilFunc) rfl;have z0:=ae hz 0;have z1:=ae hz 1;have z2:=ae hz 2;have z3:=ae hz 3;clear hz;unfold fnV;go_enter Tryz.func205,Tryz.ntmps205
 go_wp2_with fail
 refine bodyPost_ret (v:=(.agg #[.nilFunc,(fnV 216),.nilFunc,.nilFunc]:Value)) (by unfold fnV;simp [results,Tryz.results205,go_sem]) rfl ⟨rfl,?_⟩;repeat (first | exact Below.refl _ _ | refine Below.setCell ?_ (Nat.le_refl _) _ | refine Below.alloc ?_ (Nat.le_refl _) _)
theorem Cw (w:World):Calls Tryz.prog 205 #[.string ⟨#[62]⟩] w fun e w'=>e=.returned (.agg #[.nilFunc,(fnV 217),.nilFunc,.nilFunc])∧Below w.heap.size w w':=by
 have hz:=aj w (.cells #[.nilFunc,.nilFunc,.nilFunc,.nilFunc] 257) w.heap.size rfl;have n0:=aa hz (j:=0) (u:=.nilFunc) rfl;have n1:=aa hz (j:=1) (u:=.nilFunc) rfl;have n2:=aa hz (j:=2) (u:=.nilFunc) rfl;have n3:=aa hz (j:=3) (u:=.nilFunc) rfl;have z0:=ae hz 0;have z1:=ae hz 1;have z2:=ae hz 2;have z3:=ae hz 3;clear hz;unfold fnV;go_enter Tryz.func205,Tryz.ntmps205
 go_wp2_with fail
 refine bodyPost_ret (v:=(.agg #[.nilFunc,(fnV 217),.nilFunc,.nilFunc]:Value)) (by unfold fnV;simp [results,Tryz.results205,go_sem]) rfl ⟨rfl,?_⟩;repeat (first | exact Below.refl _ _ | refine Below.setCell ?_ (Nat.le_refl _) _ | refine Below.alloc ?_ (Nat.le_refl _) _)
theorem CK (w:World):Calls Tryz.prog 205 #[.string ⟨#[62,61]⟩] w fun e w'=>e=.returned (.agg #[.nilFunc,(fnV 218),.nilFunc,.nilFunc])∧Below w.heap.size w w':=by
 have hz:=aj w (.cells #[.nilFunc,.nilFunc,.nilFunc,.nilFunc] 257) w.heap.size rfl;have n0:=aa hz (j:=0) (u:=.nilFunc) rfl;have n1:=aa hz (j:=1) (u:=.nilFunc) rfl;have n2:=aa hz (j:=2) (u:=.nilFunc) rfl;have n3:=aa hz (j:=3) (u:=.nilFunc) rfl;have z0:=ae hz 0;have z1:=ae hz 1;have z2:=ae hz 2;have z3:=ae hz 3;clear hz;unfold fnV;go_enter Tryz.func205,Tryz.ntmps205
 go_wp2_with fail
 refine bodyPost_ret (v:=(.agg #[.nilFunc,(fnV 218),.nilFunc,.nilFunc]:Value)) (by unfold fnV;simp [results,Tryz.results205,go_sem]) rfl ⟨rfl,?_⟩;repeat (first | exact Below.refl _ _ | refine Below.setCell ?_ (Nat.le_refl _) _ | refine Below.alloc ?_ (Nat.le_refl _) _)
theorem Cm (w:World):Calls Tryz.prog 205 #[.string ⟨#[61,61]⟩] w fun e w'=>e=.returned (.agg #[.nilFunc,(fnV 219),(fnV 220),(fnV 221)])∧Below w.heap.size w w':=by
 have hz:=aj w (.cells #[.nilFunc,.nilFunc,.nilFunc,.nilFunc] 257) w.heap.size rfl;have n0:=aa hz (j:=0) (u:=.nilFunc) rfl;have n1:=aa hz (j:=1) (u:=.nilFunc) rfl;have n2:=aa hz (j:=2) (u:=.nilFunc) rfl;have n3:=aa hz (j:=3) (u:=.nilFunc) rfl;have z0:=ae hz 0;have z1:=ae hz 1;have z2:=ae hz 2;have z3:=ae hz 3;clear hz;unfold fnV;go_enter Tryz.func205,Tryz.ntmps205
 go_wp2_with fail
 refine bodyPost_ret (v:=(.agg #[.nilFunc,(fnV 219),(fnV 220),(fnV 221)]:Value)) (by unfold fnV;simp [results,Tryz.results205,go_sem]) rfl ⟨rfl,?_⟩;repeat (first | exact Below.refl _ _ | refine Below.setCell ?_ (Nat.le_refl _) _ | refine Below.alloc ?_ (Nat.le_refl _) _)
theorem Cn (w:World):Calls Tryz.prog 205 #[.string ⟨#[33,61]⟩] w fun e w'=>e=.returned (.agg #[.nilFunc,(fnV 222),(fnV 223),(fnV 224)])∧Below w.heap.size w w':=by
 have hz:=aj w (.cells #[.nilFunc,.nilFunc,.nilFunc,.nilFunc] 257) w.heap.size rfl;have n0:=aa hz (j:=0) (u:=.nilFunc) rfl;have n1:=aa hz (j:=1) (u:=.nilFunc) rfl;have n2:=aa hz (j:=2) (u:=.nilFunc) rfl;have n3:=aa hz (j:=3) (u:=.nilFunc) rfl;have z0:=ae hz 0;have z1:=ae hz 1;have z2:=ae hz 2;have z3:=ae hz 3;clear hz;unfold fnV;go_enter Tryz.func205,Tryz.ntmps205
 go_wp2_with fail
 refine bodyPost_ret (v:=(.agg #[.nilFunc,(fnV 222),(fnV 223),(fnV 224)]:Value)) (by unfold fnV;simp [results,Tryz.results205,go_sem]) rfl ⟨rfl,?_⟩;repeat (first | exact Below.refl _ _ | refine Below.setCell ?_ (Nat.le_refl _) _ | refine Below.alloc ?_ (Nat.le_refl _) _)
theorem AU (w:World):Calls Tryz.prog 205 #[.string ⟨#[38,38]⟩] w fun e w'=>e=.returned (.agg #[.nilFunc,.nilFunc,(fnV 225),.nilFunc])∧Below w.heap.size w w':=by
 have hz:=aj w (.cells #[.nilFunc,.nilFunc,.nilFunc,.nilFunc] 257) w.heap.size rfl;have n0:=aa hz (j:=0) (u:=.nilFunc) rfl;have n1:=aa hz (j:=1) (u:=.nilFunc) rfl;have n2:=aa hz (j:=2) (u:=.nilFunc) rfl;have n3:=aa hz (j:=3) (u:=.nilFunc) rfl;have z0:=ae hz 0;have z1:=ae hz 1;have z2:=ae hz 2;have z3:=ae hz 3;clear hz;unfold fnV;go_enter Tryz.func205,Tryz.ntmps205
 go_wp2_with fail
 refine bodyPost_ret (v:=(.agg #[.nilFunc,.nilFunc,(fnV 225),.nilFunc]:Value)) (by unfold fnV;simp [results,Tryz.results205,go_sem]) rfl ⟨rfl,?_⟩;repeat (first | exact Below.refl _ _ | refine Below.setCell ?_ (Nat.le_refl _) _ | refine Below.alloc ?_ (Nat.le_refl _) _)
theorem Cy (w:World):Calls Tryz.prog 205 #[.string ⟨#[124,124]⟩] w fun e w'=>e=.returned (.agg #[.nilFunc,.nilFunc,(fnV 226),.nilFunc])∧Below w.heap.size w w':=by
 have hz:=aj w (.cells #[.nilFunc,.nilFunc,.nilFunc,.nilFunc] 257) w.heap.size rfl;have n0:=aa hz (j:=0) (u:=.nilFunc) rfl;have n1:=aa hz (j:=1) (u:=.nilFunc) rfl;have n2:=aa hz (j:=2) (u:=.nilFunc) rfl;have n3:=aa hz (j:=3) (u:=.nilFunc) rfl;have z0:=ae hz 0;have z1:=ae hz 1;have z2:=ae hz 2;have z3:=ae hz 3;clear hz;unfold fnV;go_enter Tryz.func205,Tryz.ntmps205
 go_wp2_with fail
 refine bodyPost_ret (v:=(.agg #[.nilFunc,.nilFunc,(fnV 226),.nilFunc]:Value)) (by unfold fnV;simp [results,Tryz.results205,go_sem]) rfl ⟨rfl,?_⟩;repeat (first | exact Below.refl _ _ | refine Below.setCell ?_ (Nat.le_refl _) _ | refine Below.alloc ?_ (Nat.le_refl _) _)
theorem zL (w:World):Calls Tryz.prog 205 #[.string ⟨#[47]⟩] w fun e w'=>e=.returned (.agg #[.func (.func 229) #[] #[.pointer (some ⟨w.heap.size+1,0,none⟩)],.nilFunc,.nilFunc,.nilFunc])∧Below w.heap.size w w'∧w'.heap[w.heap.size+1]?=some (.cells #[fnV 213] 262 (0,0)):=by
 have hz:=aj w (.cells #[.nilFunc,.nilFunc,.nilFunc,.nilFunc] 257) w.heap.size rfl;have n0:=aa hz (j:=0) (u:=.nilFunc) rfl;have n1:=aa hz (j:=1) (u:=.nilFunc) rfl;have n2:=aa hz (j:=2) (u:=.nilFunc) rfl;have n3:=aa hz (j:=3) (u:=.nilFunc) rfl;have z0:=ae hz 0;have z1:=ae hz 1;have z2:=ae hz 2;have z3:=ae hz 3;clear hz;have HP:=zh (oQ 213 (w.alloc (.cells #[.nilFunc,.nilFunc,.nilFunc,.nilFunc] 257)));unfold fnV;go_enter Tryz.func205,Tryz.ntmps205
 go_wp2_with fail
 refine HP.o.mono ?_;rintro e w1 ⟨rfl,rfl⟩;have hz:=ax _ _ (.cells #[.func (.func 213) #[] #[]] 262) _ (aj w (.cells #[.nilFunc,.nilFunc,.nilFunc,.nilFunc] 257) w.heap.size rfl);have m0:=aa hz (j:=0) (u:=.nilFunc) rfl;have m1:=aa hz (j:=1) (u:=.nilFunc) rfl;have m2:=aa hz (j:=2) (u:=.nilFunc) rfl;have m3:=aa hz (j:=3) (u:=.nilFunc) rfl;have y0:=ae hz 0;have y1:=ae hz 1;have y2:=ae hz 2;have y3:=ae hz 3;clear hz n0 n1 n2 n3 z0 z1 z2 z3;go_wp2_with fail
 refine bodyPost_ret (v:=(.agg #[.func (.func 229) #[] #[.pointer (some ⟨w.heap.size+1,0,none⟩)],.nilFunc,.nilFunc,.nilFunc]:Value)) (by simp [results,Tryz.results205,go_sem]) rfl ⟨rfl,?_,?_⟩
 ·repeat (first | exact Below.refl _ _ | refine dp ?_ (Nat.le_refl _) _ | refine ag ?_ _)
 ·repeat rw [ak _ _ _ _ (by show w.heap.size+1≠w.heap.size;omega)]
  exact aj _ _ _ (ah _ _)
theorem AS (w:World):Calls Tryz.prog 205 #[.string ⟨#[37]⟩] w fun e w'=>e=.returned (.agg #[.func (.func 229) #[] #[.pointer (some ⟨w.heap.size+1,0,none⟩)],.nilFunc,.nilFunc,.nilFunc])∧Below w.heap.size w w'∧w'.heap[w.heap.size+1]?=some (.cells #[fnV 214] 262 (0,0)):=by
 have hz:=aj w (.cells #[.nilFunc,.nilFunc,.nilFunc,.nilFunc] 257) w.heap.size rfl;have n0:=aa hz (j:=0) (u:=.nilFunc) rfl;have n1:=aa hz (j:=1) (u:=.nilFunc) rfl;have n2:=aa hz (j:=2) (u:=.nilFunc) rfl;have n3:=aa hz (j:=3) (u:=.nilFunc) rfl;have z0:=ae hz 0;have z1:=ae hz 1;have z2:=ae hz 2;have z3:=ae hz 3;clear hz;have HP:=zh (oQ 214 (w.alloc (.cells #[.nilFunc,.nilFunc,.nilFunc,.nilFunc] 257)));unfold fnV;go_enter Tryz.func205,Tryz.ntmps205
 go_wp2_with fail
 refine HP.o.mono ?_;rintro e w1 ⟨rfl,rfl⟩;have hz:=ax _ _ (.cells #[.func (.func 214) #[] #[]] 262) _ (aj w (.cells #[.nilFunc,.nilFunc,.nilFunc,.nilFunc] 257) w.heap.size rfl);have m0:=aa hz (j:=0) (u:=.nilFunc) rfl;have m1:=aa hz (j:=1) (u:=.nilFunc) rfl;have m2:=aa hz (j:=2) (u:=.nilFunc) rfl;have m3:=aa hz (j:=3) (u:=.nilFunc) rfl;have y0:=ae hz 0;have y1:=ae hz 1;have y2:=ae hz 2;have y3:=ae hz 3;clear hz n0 n1 n2 n3 z0 z1 z2 z3;go_wp2_with fail
 refine bodyPost_ret (v:=(.agg #[.func (.func 229) #[] #[.pointer (some ⟨w.heap.size+1,0,none⟩)],.nilFunc,.nilFunc,.nilFunc]:Value)) (by simp [results,Tryz.results205,go_sem]) rfl ⟨rfl,?_,?_⟩
 ·repeat (first | exact Below.refl _ _ | refine dp ?_ (Nat.le_refl _) _ | refine ag ?_ _)
 ·repeat rw [ak _ _ _ _ (by show w.heap.size+1≠w.heap.size;omega)]
  exact aj _ _ _ (ah _ _)
end
end Go.Proofs.YthgcpfkochikfaaGreat
