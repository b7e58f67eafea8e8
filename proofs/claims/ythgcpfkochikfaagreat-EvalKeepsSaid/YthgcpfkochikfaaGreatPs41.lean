/-
  EvalSigns: part 41 of its proof: see the last text.
-/
import Derived.Test.YthgcpfkochikfaaGreatPs08
set_option maxRecDepth 100000
set_option maxHeartbeats 16000000
namespace Go.Proofs.YthgcpfkochikfaaGreat
section
open Go.RowKit
attribute [local go_sem ↓] Go.wp_at_zero Go.wp_at_succ
def okI (l:List Pr) (i:Nat):Bool:=decide ((l.getD i default).1.length≤64)&&decide ((l.getD i default).2.length≤256)&&(i==0 || bS (l.getD (i-1) default).1 (l.getD i default).1)
theorem uj:∀l:List Pr,dt l=true ↔ ∀i,i+1<l.length→bS (l.getD i default).1 (l.getD (i+1) default).1=true
 | []=>⟨fun _ i hi=>absurd hi (by simp),fun _=>rfl⟩
 | [_]=>⟨fun _ i hi=>absurd hi (by simp),fun _=>rfl⟩
 | p :: q :: l=>by
  have ih:=uj (q :: l);rw [dt,Bool.and_eq_true,ih];constructor
  ·rintro ⟨h1,h2⟩ i hi
   cases i with
   | zero=>exact h1
   | succ i=>exact h2 i (by simpa using hi)
  ·intro h
   exact ⟨h 0 (by simp),fun i hi=>h (i+1) (by simpa using hi)⟩
theorem qO (l:List Pr):a8 l=true ↔ (∀i,i<l.length→okI l i=true)∧cn l≤2048:=by
 unfold a8;simp only [Bool.and_eq_true,decide_eq_true_eq,uj,List.all_eq_true]
 refine and_congr_left fun _=>⟨fun h i hi=>?_,fun h=>⟨fun p hp=>?_,fun i hi=>?_⟩⟩
 ·have h1:=h.1 (l.getD i default) (by rw [List.getD_eq_getElem?_getD,List.getElem?_eq_getElem hi];exact List.getElem_mem _)
  unfold okI;simp only [Bool.and_eq_true,Bool.or_eq_true,decide_eq_true_eq,beq_iff_eq]
  refine ⟨h1,?_⟩
  cases i with
  | zero=>exact .inl rfl
  | succ i=>exact .inr (h.2 i hi)
 ·obtain ⟨i,hi,rfl⟩:=List.getElem_of_mem hp
  have h1:=h i hi;unfold okI at h1;rw [List.getD_eq_getElem?_getD,List.getElem?_eq_getElem hi] at h1;simp only [Bool.and_eq_true,decide_eq_true_eq] at h1
  exact h1.1
 ·have h1:=h (i+1) hi
  unfold okI at h1;simp only [Bool.and_eq_true,Bool.or_eq_true,decide_eq_true_eq,beq_iff_eq] at h1
  rcases h1.2 with q | q
  ·omega
  ·exact q
theorem kR {l:List Pr} {i:Nat} (hi:i<l.length) (h:okI l i=false):a8 l=false:=by
 cases hr:a8 l with
 | false=>rfl
 | true=>rw [((qO l).1 hr).1 i hi] at h;cases h
theorem sT {l:List Pr} (h:∀i,i<l.length→okI l i=true):a8 l=decide (cn l≤2048):=by
 rw [Bool.eq_iff_iff,qO,decide_eq_true_eq];exact ⟨fun q=>q.2,fun q=>⟨h,q⟩⟩
theorem AN {l:List Pr} (h:∀i,i<l.length→okI l i=true):cn l≤328*l.length:=by
 have h1:∀n,n≤l.length→df (kvN l) n≤320*n:=by
  intro n;induction n with
  | zero=>intro _;exact Nat.le_refl _
  | succ n ih =>
   intro hn;have h2:=ih (by omega);have h3:=h n hn;unfold okI at h3;simp only [Bool.and_eq_true,decide_eq_true_eq] at h3
   show df (kvN l) n+((l.getD n default).1.length+(l.getD n default).2.length)≤_
   omega
 rw [ns];have:=h1 l.length (Nat.le_refl _);omega
theorem BL {l:List Pr} {i:Nat} {a b c:Bool} (h1:decide ((l.getD i default).1.length≤64)=a) (h2:decide ((l.getD i default).2.length≤256)=b) (h3:(i==0 || bS (l.getD (i-1) default).1 (l.getD i default).1)=c):okI l i=(a&&b&&c):=by
 unfold okI;rw [h1,h2,h3]
theorem rN {S:Nat→Prop} {v:Value} {l:List Pr} (w:World) (h:PrsAt S w v l) (hl:(l.length:Int)≤1000000000000000):Calls Tryz.prog 29 #[v] w fun e w'=>e=.returned (.bool (a8 l))∧Below w.heap.size w w':=by
 have HH:=zh h;obtain ⟨cs,⟨s0,cap,rfl,h2,h5,_,G,_⟩,hp⟩:=h;have Z:=zh G;have HP:=zh hp;have HL:=zh hl;generalize hR:a8 l=R;have HR:=zh hR;clear G hp h2 h5 hR;go_enter Tryz.func29,Tryz.ntmps29
 go_wp2_with fail
 go_loopg [7] l.length (fun gg t7 wr=>∃i:Nat,i+gg=l.length∧t7=.int .i64 (i:Int)∧Hd (∀j,j<i→okI l j=true)∧Below w.heap.size w wr)
 case atStart=>exact ⟨0,Nat.zero_add _,rfl,zh (fun j hj=>absurd hj (Nat.not_lt_zero _)),Below.refl _ _⟩
 case round =>
  obtain ⟨i,Y,rfl,T,hb⟩:=hrel;have HB:=zh hb;have HG:=zh Y;by_cases H:i<l.length
  ·have X:(i:Int)<(l.length:Int):=by omega
   have ho:(0:Int)≤(i:Int):=by omega
   obtain ⟨b,off,h1,_,P,C⟩:=Z.o (by omega);subst h1;obtain ⟨a1,c1,a2,c2,n,f,z⟩:=HP.o i H;have O:∀j,j<2→wr.cell? ⟨b,off+i * 2+j,none⟩=(cs i)[j]?:=fun j hj=>(HB.o.cell (p:=⟨b,_,none⟩) P).trans (C i H j hj);rw [n] at O;have x0:wr.cell? ⟨b,off+i * 2,none⟩=some (.slice a1 (l.getD i default).1.length c1):=O 0 (by decide);have x1:wr.cell? ⟨b,off+i * 2+1,none⟩=some (.slice a2 (l.getD i default).2.length c2):=O 1 (by decide);have h8:=zh f;have L:=zh H;have D:=zh (BL (l:=l) (i:=i) rfl rfl rfl);generalize k:(l.getD i default).1.length=kl at *;generalize c:(l.getD i default).2.length=vl at *;have hq:=zh c;have hr:=zh k;clear hb Y O n f z k c H;go_upto_region 4 with fail
   clear x0 x1;have h7:Below wr.heap.size wr (wr.alloc (.cells #[.slice a1 kl c1,.slice a2 vl c2] 70)):=ag (Below.refl _ _) _;have A:Hd ((wr.alloc (.cells #[.slice a1 kl c1,.slice a2 vl c2] 70)).cell? ⟨wr.heap.size,0,none⟩=some (.slice a1 kl c1)∧(wr.alloc (.cells #[.slice a1 kl c1,.slice a2 vl c2] 70)).cell? ⟨wr.heap.size,1,none⟩=some (.slice a2 vl c2)):=zh ⟨aA _ _ _ _ _ _ rfl rfl,aA _ _ _ _ _ _ rfl rfl⟩;have E:Hd (Below w.heap.size w (wr.alloc (.cells #[.slice a1 kl c1,.slice a2 vl c2] 70))):=zh (ag HB.o _);have B:Hd (wr.heap.size<(wr.alloc (.cells #[.slice a1 kl c1,.slice a2 vl c2] 70)).heap.size):=zh (by rw [ah];exact Nat.lt_succ_self _);have U:Hd (b<(wr.alloc (.cells #[.slice a1 kl c1,.slice a2 vl c2] 70)).heap.size):=zh (Nat.lt_of_lt_of_le P E.o.size);have hd:Hd (∀j u,w.cell? ⟨b,j,none⟩=some u→(wr.alloc (.cells #[.slice a1 kl c1,.slice a2 vl c2] 70)).cell? ⟨b,j,none⟩=some u):=zh (fun j u q=>(E.o.cell (p:=⟨b,_,none⟩) P).trans q);have N:=zh C;generalize wr.alloc (.cells #[.slice a1 kl c1,.slice a2 vl c2] 70)=wx at *;generalize wr.heap.size=PB at *;clear h7 C P;by_cases hk:64<kl
   ·have J:Hd (R=false):=zh (by rw [←HR.o];exact kR L.o (by rw [D.o,decide_eq_false (by omega)];rfl))
    have h3:(64:Int)<(kl:Int):=by omega
    clear hk;refine wp_region_held_drew (S:=(fun W=>W.cell? ⟨PB,0,none⟩=some (.slice a1 kl c1)∧W.cell? ⟨PB,1,none⟩=some (.slice a2 vl c2))) (by kernel_rfl) (by (try dsimp only);exact ⟨(aw (Below.refl _ _)).cell (p:=⟨PB,0,none⟩) B.o |>.trans A.o.1,(aw (Below.refl _ _)).cell (p:=⟨PB,1,none⟩) B.o |>.trans A.o.2⟩) (fun hH=>?_);refine tkA 0 ?_;refine tkA 1 ?_;refine tkA 2 ?_;refine tkA 3 ?_;try go_simp
    refine tkA 4 ?_;try go_simp
    refine wpAnyH_take (i:=5) rfl (by kernel_rfl) (by kernel_rfl) (by kernel_rfl) (fun _ _ _ h=>h) (Or.inr ⟨by rfl,rfl⟩) (by assumption) ?_;refine wpAnyH_take (i:=6) rfl (by kernel_rfl) (by kernel_rfl) (by kernel_rfl) (fun _ _ _ h=>h) (Or.inr ⟨by rfl,rfl⟩) (by assumption) ?_;refine wpAnyH_take (i:=7) rfl (by kernel_rfl) (by kernel_rfl) (by kernel_rfl) (fun _ _ _ h=>h) (Or.inr ⟨by rfl,rfl⟩) (by assumption) ?_;try go_simp
    refine wpAnyH_take (i:=8) rfl (by kernel_rfl) (by kernel_rfl) (by kernel_rfl) (fun _ _ _ h=>h) (Or.inr ⟨by rfl,rfl⟩) (by assumption) ?_;try go_simp
    refine tkA 9 ?_;refine tkA 10 ?_;try go_simp
    refine wpAnyH_take (i:=11) rfl (by kernel_rfl) (by kernel_rfl) (by kernel_rfl) (fun _ _ _ h=>h) (Or.inr ⟨by rfl,rfl⟩) (by assumption) ?_;refine wpAnyH_take (i:=12) rfl (by kernel_rfl) (by kernel_rfl) (by kernel_rfl) (fun _ _ _ h=>h) (Or.inr ⟨by rfl,rfl⟩) (by assumption) ?_;refine wpAnyH_take (i:=13) rfl (by kernel_rfl) (by kernel_rfl) (by kernel_rfl) (fun _ _ _ h=>h) (Or.inr ⟨by rfl,rfl⟩) (by assumption) ?_;try go_simp
    refine wpAnyH_take (i:=14) rfl (by kernel_rfl) (by kernel_rfl) (by kernel_rfl) (fun _ _ _ h=>h) (Or.inr ⟨by rfl,rfl⟩) (by assumption) ?_;refine wpAnyH_take (i:=15) rfl (by kernel_rfl) (by kernel_rfl) (by kernel_rfl) (fun _ _ _ h=>h) (Or.inr ⟨by rfl,rfl⟩) (by assumption) ?_;refine wpAnyH_take (i:=16) rfl (by kernel_rfl) (by kernel_rfl) (by kernel_rfl) (fun _ _ _ h=>h) (Or.inr ⟨by rfl,rfl⟩) (by assumption) ?_;try go_simp
    refine wpAnyH_take (i:=17) rfl (by kernel_rfl) (by kernel_rfl) (by kernel_rfl) (fun _ _ _ h=>h) (Or.inr ⟨by rfl,rfl⟩) (by assumption) ?_;refine wpAnyH_take (i:=18) rfl (by kernel_rfl) (by kernel_rfl) (by kernel_rfl) (fun _ _ _ h=>h) (Or.inr ⟨by rfl,rfl⟩) (by assumption) ?_;refine wpAnyH_take (i:=19) rfl (by kernel_rfl) (by kernel_rfl) (by kernel_rfl) (fun _ _ _ h=>h) (Or.inr ⟨by rfl,rfl⟩) (by assumption) ?_;try go_simp
    refine wpAnyH_take (i:=20) rfl (by kernel_rfl) (by kernel_rfl) (by kernel_rfl) (fun _ _ _ h=>h) (Or.inr ⟨by rfl,rfl⟩) (by assumption) ?_;refine wpAnyH_take (i:=21) rfl (by kernel_rfl) (by kernel_rfl) (by kernel_rfl) (fun _ _ _ h=>h) (Or.inr ⟨by rfl,rfl⟩) (by assumption) ?_;refine wpAnyH_take (i:=22) rfl (by kernel_rfl) (by kernel_rfl) (by kernel_rfl) (fun _ _ _ h=>h) (Or.inr ⟨by rfl,rfl⟩) (by assumption) ?_;try go_simp
    refine wpAnyH_take (i:=23) rfl (by kernel_rfl) (by kernel_rfl) (by kernel_rfl) (fun _ _ _ h=>h) (Or.inr ⟨by rfl,rfl⟩) (by assumption) ?_;refine wpAnyH_take (i:=24) rfl (by kernel_rfl) (by kernel_rfl) (by kernel_rfl) (fun _ _ _ h=>h) (Or.inr ⟨by rfl,rfl⟩) (by assumption) ?_;try go_simp
    refine tkA 25 ?_;try go_simp
    refine wpAnyH_done (by kernel_rfl) ?_ _;go_wp2_with fail
    exact bodyPost_ret (v:=.bool false) (by simp [results,Tryz.results29,go_sem]) rfl ⟨by rw [J.o],aw E.o⟩
   have h3:¬(64:Int)<(kl:Int):=by omega
   have m:decide (kl≤64)=true:=decide_eq_true (by omega);rw [m] at D;clear hk m;by_cases hv:256<vl
   ·have J:Hd (R=false):=zh (by rw [←HR.o];exact kR L.o (by rw [D.o,decide_eq_false (show ¬vl≤256 by omega)];rfl))
    have y:(256:Int)<(vl:Int):=by omega
    clear hv;refine wp_region_held_drew (S:=(fun W=>W.cell? ⟨PB,0,none⟩=some (.slice a1 kl c1)∧W.cell? ⟨PB,1,none⟩=some (.slice a2 vl c2))) (by kernel_rfl) (by (try dsimp only);exact ⟨(aw (Below.refl _ _)).cell (p:=⟨PB,0,none⟩) B.o |>.trans A.o.1,(aw (Below.refl _ _)).cell (p:=⟨PB,1,none⟩) B.o |>.trans A.o.2⟩) (fun hH=>?_);refine tkA 0 ?_;refine tkA 1 ?_;refine tkA 2 ?_;refine tkA 3 ?_;try go_simp
    refine tkA 4 ?_;refine tkA 5 ?_;refine tkA 6 ?_;refine tkA 7 ?_;try go_simp
    refine tkA 8 ?_;refine tkA 9 ?_;refine tkA 10 ?_;try go_simp
    refine wpAnyH_take (i:=11) rfl (by kernel_rfl) (by kernel_rfl) (by kernel_rfl) (fun _ _ _ h=>h) (Or.inr ⟨by rfl,rfl⟩) (by assumption) ?_;refine wpAnyH_take (i:=12) rfl (by kernel_rfl) (by kernel_rfl) (by kernel_rfl) (fun _ _ _ h=>h) (Or.inr ⟨by rfl,rfl⟩) (by assumption) ?_;refine wpAnyH_take (i:=13) rfl (by kernel_rfl) (by kernel_rfl) (by kernel_rfl) (fun _ _ _ h=>h) (Or.inr ⟨by rfl,rfl⟩) (by assumption) ?_;try go_simp
    refine wpAnyH_take (i:=14) rfl (by kernel_rfl) (by kernel_rfl) (by kernel_rfl) (fun _ _ _ h=>h) (Or.inr ⟨by rfl,rfl⟩) (by assumption) ?_;refine wpAnyH_take (i:=15) rfl (by kernel_rfl) (by kernel_rfl) (by kernel_rfl) (fun _ _ _ h=>h) (Or.inr ⟨by rfl,rfl⟩) (by assumption) ?_;refine wpAnyH_take (i:=16) rfl (by kernel_rfl) (by kernel_rfl) (by kernel_rfl) (fun _ _ _ h=>h) (Or.inr ⟨by rfl,rfl⟩) (by assumption) ?_;try go_simp
    refine wpAnyH_take (i:=17) rfl (by kernel_rfl) (by kernel_rfl) (by kernel_rfl) (fun _ _ _ h=>h) (Or.inr ⟨by rfl,rfl⟩) (by assumption) ?_;refine wpAnyH_take (i:=18) rfl (by kernel_rfl) (by kernel_rfl) (by kernel_rfl) (fun _ _ _ h=>h) (Or.inr ⟨by rfl,rfl⟩) (by assumption) ?_;refine wpAnyH_take (i:=19) rfl (by kernel_rfl) (by kernel_rfl) (by kernel_rfl) (fun _ _ _ h=>h) (Or.inr ⟨by rfl,rfl⟩) (by assumption) ?_;try go_simp
    refine wpAnyH_take (i:=20) rfl (by kernel_rfl) (by kernel_rfl) (by kernel_rfl) (fun _ _ _ h=>h) (Or.inr ⟨by rfl,rfl⟩) (by assumption) ?_;refine wpAnyH_take (i:=21) rfl (by kernel_rfl) (by kernel_rfl) (by kernel_rfl) (fun _ _ _ h=>h) (Or.inr ⟨by rfl,rfl⟩) (by assumption) ?_;refine wpAnyH_take (i:=22) rfl (by kernel_rfl) (by kernel_rfl) (by kernel_rfl) (fun _ _ _ h=>h) (Or.inr ⟨by rfl,rfl⟩) (by assumption) ?_;try go_simp
    refine wpAnyH_take (i:=23) rfl (by kernel_rfl) (by kernel_rfl) (by kernel_rfl) (fun _ _ _ h=>h) (Or.inr ⟨by rfl,rfl⟩) (by assumption) ?_;refine wpAnyH_take (i:=24) rfl (by kernel_rfl) (by kernel_rfl) (by kernel_rfl) (fun _ _ _ h=>h) (Or.inr ⟨by rfl,rfl⟩) (by assumption) ?_;try go_simp
    refine tkA 25 ?_;try go_simp
    refine wpAnyH_done (by kernel_rfl) ?_ _;go_wp2_with fail
    exact bodyPost_ret (v:=.bool false) (by simp [results,Tryz.results29,go_sem]) rfl ⟨by rw [J.o],aw E.o⟩
   have y:¬(256:Int)<(vl:Int):=by omega
   have d:decide (vl≤256)=true:=decide_eq_true (by omega);rw [d] at D;clear hv d;by_cases hz:i=0
   ·have x:¬(0:Int)<(i:Int):=by omega
    have t:decide (0<i)=false:=decide_eq_false (by omega);have F:Hd (okI l i=true):=zh (by rw [D.o,hz];rfl);clear D hz;refine wp_region_held_drew (S:=(fun W=>W.cell? ⟨PB,0,none⟩=some (.slice a1 kl c1)∧W.cell? ⟨PB,1,none⟩=some (.slice a2 vl c2))) (by kernel_rfl) (by (try dsimp only);exact ⟨(aw (Below.refl _ _)).cell (p:=⟨PB,0,none⟩) B.o |>.trans A.o.1,(aw (Below.refl _ _)).cell (p:=⟨PB,1,none⟩) B.o |>.trans A.o.2⟩) (fun hH=>?_);refine tkA 0 ?_;refine tkA 1 ?_;refine tkA 2 ?_;refine tkA 3 ?_;try go_simp
    refine tkA 4 ?_;refine tkA 5 ?_;refine tkA 6 ?_;refine tkA 7 ?_;try go_simp
    refine tkA 8 ?_;refine tkA 9 ?_;refine tkA 10 ?_;refine tkA 11 ?_;try go_simp
    refine tkA 12 ?_;refine tkA 13 ?_;try go_simp
    refine wpAnyH_take (i:=14) rfl (by kernel_rfl) (by kernel_rfl) (by kernel_rfl) (fun _ _ _ h=>h) (Or.inr ⟨by rfl,rfl⟩) (by assumption) ?_;refine wpAnyH_take (i:=15) rfl (by kernel_rfl) (by kernel_rfl) (by kernel_rfl) (fun _ _ _ h=>h) (Or.inr ⟨by rfl,rfl⟩) (by assumption) ?_;refine wpAnyH_take (i:=16) rfl (by kernel_rfl) (by kernel_rfl) (by kernel_rfl) (fun _ _ _ h=>h) (Or.inr ⟨by rfl,rfl⟩) (by assumption) ?_;try go_simp
    refine wpAnyH_take (i:=17) rfl (by kernel_rfl) (by kernel_rfl) (by kernel_rfl) (fun _ _ _ h=>h) (Or.inr ⟨by rfl,rfl⟩) (by assumption) ?_;refine wpAnyH_take (i:=18) rfl (by kernel_rfl) (by kernel_rfl) (by kernel_rfl) (fun _ _ _ h=>h) (Or.inr ⟨by rfl,rfl⟩) (by assumption) ?_;refine wpAnyH_take (i:=19) rfl (by kernel_rfl) (by kernel_rfl) (by kernel_rfl) (fun _ _ _ h=>h) (Or.inr ⟨by rfl,rfl⟩) (by assumption) ?_;try go_simp
    refine wpAnyH_take (i:=20) rfl (by kernel_rfl) (by kernel_rfl) (by kernel_rfl) (fun _ _ _ h=>h) (Or.inr ⟨by rfl,rfl⟩) (by assumption) ?_;refine wpAnyH_take (i:=21) rfl (by kernel_rfl) (by kernel_rfl) (by kernel_rfl) (fun _ _ _ h=>h) (Or.inr ⟨by rfl,rfl⟩) (by assumption) ?_;refine wpAnyH_take (i:=22) rfl (by kernel_rfl) (by kernel_rfl) (by kernel_rfl) (fun _ _ _ h=>h) (Or.inr ⟨by rfl,rfl⟩) (by assumption) ?_;try go_simp
    refine wpAnyH_take (i:=23) rfl (by kernel_rfl) (by kernel_rfl) (by kernel_rfl) (fun _ _ _ h=>h) (Or.inr ⟨by rfl,rfl⟩) (by assumption) ?_;try go_simp
    refine tkA 24 ?_;refine tkA 25 ?_;try go_simp
    refine wpAnyH_done (by kernel_rfl) ?_ _;go_wp2_with fail
    go_roundg (l.length-i-1)
    case measure=>have:=HG.o;omega
    case rel=>exact ⟨i+1,by have:=HG.o;omega,by go_num,zh (fun j hj=>by
      by_cases q:j<i
      · exact T.o j q
      · obtain rfl:j=i:=by omega
        exact F.o),aw E.o⟩
   have x:(0:Int)<(i:Int):=by omega
   have t:decide (0<i)=true:=decide_eq_true (by omega);have hg:0<i:=by omega
   have hm:(i:Int)-1=((i-1:Nat):Int):=by omega
   have hi:((i-1:Nat):Int)<(l.length:Int):=by omega
   have hh:(0:Int)≤((i-1:Nat):Int):=by omega
   have a:(i==0)=false:=beq_eq_false_iff_ne.2 hz;have h4:(i:Int)≤1000000000000000:=by have:=HL.o;omega
   have hf:IntKind.i64.wrap ((i-1:Nat):Int)=((i-1:Nat):Int):=by rw [IntKind.wrap_i64];omega
   rw [a] at D;obtain ⟨a0,c0,a9,c9,I,g,_⟩:=HP.o (i-1) (by have:=L.o;omega);have V:=N.o (i-1) (by have:=L.o;omega) 0 (by decide);rw [I] at V;have Q:Hd (wx.cell? ⟨b,off+(i-1)*2,none⟩=some (.slice a0 (l.getD (i-1) default).1.length c0)):=zh (hd.o _ _ V);have M:=zh (fun W (hW:Below w.heap.size w W)=>iS W (g.below hW) (h8.o.below hW));rw [fJ] at D;generalize hc:Lib.compareBytes (l.getD (i-1) default).1 (l.getD i default).1=cmp at *;clear V I g hz a hc;generalize (l.getD (i-1) default).1.length=k0 at *;generalize hn:i-1=pi at *;by_cases r:¬cmp<0
   ·have h6:(0:Int)≤cmp:=by omega
    have J:Hd (R=false):=zh (by rw [←HR.o];exact kR L.o (by rw [D.o,decide_eq_false (by omega)];rfl));clear r;refine wp_region_held_drew (S:=(fun W=>W.cell? ⟨PB,0,none⟩=some (.slice a1 kl c1)∧W.cell? ⟨PB,1,none⟩=some (.slice a2 vl c2)∧W.cell? ⟨b,off+pi * 2,none⟩=some (.slice a0 k0 c0))) (by kernel_rfl) (by (try dsimp only);exact ⟨(aw (Below.refl _ _)).cell (p:=⟨PB,0,none⟩) B.o |>.trans A.o.1,(aw (Below.refl _ _)).cell (p:=⟨PB,1,none⟩) B.o |>.trans A.o.2,(aw (Below.refl _ _)).cell (p:=⟨b,_,none⟩) U.o |>.trans Q.o⟩) (fun hH=>?_);refine tkA 0 ?_;refine tkA 1 ?_;refine tkA 2 ?_;refine tkA 3 ?_;try go_simp
    refine tkA 4 ?_;refine tkA 5 ?_;refine tkA 6 ?_;refine tkA 7 ?_;try go_simp
    refine tkA 8 ?_;refine tkA 9 ?_;refine tkA 10 ?_;refine tkA 11 ?_;try go_simp
    refine tkA 12 ?_;refine tkA 13 ?_;refine tkA 14 ?_;refine tkA 15 ?_;try go_simp
    refine tkA 16 ?_;refine tkA 17 ?_;refine tkA 18 ?_;refine tkA 19 ?_;try go_simp
    refine tkA 20 ?_;refine tkA 21 ?_;try go_simp
    refine rd1 22 fun K hK=>?_;go_simp;go_at_call 53
    refine (M.o _ (aw E.o)).mono ?_;rintro e w2 ⟨rfl,rfl⟩;refine hK.out _ _ ?_ (fun hH=>?_)
    ·(try dsimp only);exact ⟨(aw (Below.refl _ _)).cell (p:=⟨PB,0,none⟩) B.o |>.trans A.o.1,(aw (Below.refl _ _)).cell (p:=⟨PB,1,none⟩) B.o |>.trans A.o.2,(aw (Below.refl _ _)).cell (p:=⟨b,_,none⟩) U.o |>.trans Q.o⟩
    clear hK K;try go_simp
    refine tkA 23 ?_;refine tkA 24 ?_;refine tkA 25 ?_;try go_simp
    refine wpAnyH_done (by kernel_rfl) ?_ _;go_wp2_with fail
    exact bodyPost_ret (v:=.bool false) (by simp [results,Tryz.results29,go_sem]) rfl ⟨by rw [J.o],aw E.o⟩
   have h6:¬(0:Int)≤cmp:=by omega
   have F:Hd (okI l i=true):=zh (by rw [D.o,decide_eq_true (by omega)];rfl);clear r;refine wp_region_held_drew (S:=(fun W=>W.cell? ⟨PB,0,none⟩=some (.slice a1 kl c1)∧W.cell? ⟨PB,1,none⟩=some (.slice a2 vl c2)∧W.cell? ⟨b,off+pi * 2,none⟩=some (.slice a0 k0 c0))) (by kernel_rfl) (by (try dsimp only);exact ⟨(aw (Below.refl _ _)).cell (p:=⟨PB,0,none⟩) B.o |>.trans A.o.1,(aw (Below.refl _ _)).cell (p:=⟨PB,1,none⟩) B.o |>.trans A.o.2,(aw (Below.refl _ _)).cell (p:=⟨b,_,none⟩) U.o |>.trans Q.o⟩) (fun hH=>?_);refine tkA 0 ?_;refine tkA 1 ?_;refine tkA 2 ?_;refine tkA 3 ?_;try go_simp
   refine tkA 4 ?_;refine tkA 5 ?_;refine tkA 6 ?_;refine tkA 7 ?_;try go_simp
   refine tkA 8 ?_;refine tkA 9 ?_;refine tkA 10 ?_;refine tkA 11 ?_;try go_simp
   refine tkA 12 ?_;refine tkA 13 ?_;refine tkA 14 ?_;refine tkA 15 ?_;try go_simp
   refine tkA 16 ?_;refine tkA 17 ?_;refine tkA 18 ?_;refine tkA 19 ?_;try go_simp
   refine tkA 20 ?_;refine tkA 21 ?_;try go_simp
   refine rd1 22 fun K hK=>?_;go_simp;go_at_call 53
   refine (M.o _ (aw E.o)).mono ?_;rintro e w2 ⟨rfl,rfl⟩;refine hK.out _ _ ?_ (fun hH=>?_)
   ·(try dsimp only);exact ⟨(aw (Below.refl _ _)).cell (p:=⟨PB,0,none⟩) B.o |>.trans A.o.1,(aw (Below.refl _ _)).cell (p:=⟨PB,1,none⟩) B.o |>.trans A.o.2,(aw (Below.refl _ _)).cell (p:=⟨b,_,none⟩) U.o |>.trans Q.o⟩
   clear hK K;try go_simp
   refine tkA 23 ?_;refine tkA 24 ?_;refine tkA 25 ?_;try go_simp
   refine wpAnyH_done (by kernel_rfl) ?_ _;go_wp2_with fail
   go_roundg (l.length-i-1)
   case measure=>have:=HG.o;omega
   case rel=>exact ⟨i+1,by have:=HG.o;omega,by go_num,zh (fun j hj=>by
     by_cases q:j<i
     · exact T.o j q
     · obtain rfl:j=i:=by omega
       exact F.o),aw E.o⟩
  ·obtain rfl:i=l.length:=by omega
   have X:¬(l.length:Int)<(l.length:Int):=by omega
   have h0:=AN T.o;have h9:=zh (fun W (hW:Below w.heap.size w W)=>qq W (HH.o.below hW) (by have:=HL.o;omega));have ha:Hd (R=decide ((cn l:Int)≤2048)):=zh (by rw [←HR.o,sT T.o];by_cases q:cn l≤2048<;>simp [q]<;>omega);clear hb Y H h0;generalize cn l=sz at *;go_wp2_with fail
   refine (h9.o _ HB.o).mono ?_;rintro e w1 ⟨rfl,s⟩;have he:=zh (am HB.o s);clear s;go_wp2_with fail
   exact bodyPost_ret (v:=.bool (decide ((sz:Int)≤2048))) (by simp [results,Tryz.results29,go_sem]) rfl ⟨by rw [ha.o],he.o⟩
end
section
open Go.RowKit
attribute [local go_sem ↓] Go.wp_at_zero Go.wp_at_succ
def GrP (B:Nat) (w:World) (v:Value) (l:List Pr):Prop:=∃cs,w.ownsRow B 70 2 v l.length (bG cs l.length)∧∀i,i<l.length→PrC (U8 B w) w (cs i) (l.getD i default)
theorem GrP.nil (B:Nat) (w:World):GrP B w (.slice none 0 0) []:=⟨fun _=>[],gy,fun i hi=>absurd hi (by simp)⟩
theorem PrC.u8 {B:Nat} {w w':World} {cs:List Value} {p:Pr} (h:PrC (U8 B w) w cs p) (hs:Stays (U8 B w) w w'):PrC (U8 B w') w' cs p:=(h.keep hs).mono fun b q=>⟨q.1,q.2.keep (hs.block b q q.2.lt)⟩
theorem GrP.below {B:Nat} {w w':World} {v:Value} {l:List Pr} (h:GrP B w v l) (hb:Below w.heap.size w w'):GrP B w' v l:=by
 obtain ⟨cs,h1,h2⟩:=h;exact ⟨cs,fU h1 fun k q=>hb.block k (dA h1 q).lt,fun i hi=>(h2 i hi).u8 (Stays.of_below hb)⟩
theorem GrP.on {B k:Nat} {w w':World} {v:Value} {l:List Pr} {t:TypeId} (h:GrP B w v l) (hb:On k w w') (hk:OfTy w k t) (h1:t≠5) (h2:t≠70):GrP B w' v l:=by
 obtain ⟨cs,q1,q2⟩:=h;exact ⟨cs,fU q1 fun b q=>hb.block b (dA q1 q).lt (fun e=>(dA q1 q).ne hk (Ne.symm h2) (by injection e)),fun i hi=>(q2 i hi).u8 (Stays.of_ne hb fun q=>hk.ne q.2 h1 rfl)⟩
theorem GrP.st {B:Nat} {w:World} {v:Value} {l:List Pr} (h:GrP B w v l):StAt (Nu B w) w v l:=by
 obtain ⟨cs,h1,h2⟩:=h;exact (gY h1 rfl rfl h2).mono fun b q=>q.elim (fun q=>⟨q.1,.inl q.2⟩) id
theorem GrP.push {B:Nat} {w w9:World} {v v9:Value} {l:List Pr} {p:Pr} {cs:Nat→List Value} {new:List Value} (h1:w.ownsRow B 70 2 v l.length (bG cs l.length)) (h2:∀i,i<l.length→PrC (U8 B w) w (cs i) (l.getD i default))
    (hp:PrC (U8 B w) w new p) (hg:w.grownBy w9 v.ownBlock) (ho:w9.ownsRow B 70 2 v9 (l.length+1) (bG cs l.length++new)):GrP B w9 v9 (l++[p]):=by
 have hs:Stays (U8 B w) w w9:=⟨hg.size,fun b hb hl=>hg.block b hl fun e=>(dA h1 e.symm).ne hb.2 (by decide) rfl⟩
 refine ⟨fun i=>if i<l.length then cs i else new,?_,fun i hi=>?_⟩
 ·rw [List.length_append,show [p].length=1 from rfl,lz]
  exact ho
 ·by_cases e:i<l.length
  ·dsimp only
   rw [if_pos e,iw _ _ _ e];exact (h2 i e).u8 hs
  ·have A:i<l.length+1:=by simpa using hi
   obtain rfl:i=l.length:=by omega
   dsimp only;rw [if_neg e,hY];exact hp.u8 hs
theorem uo {B:Nat} {w:World} {p:Pr} {a b:Option Addr} {ca cb:Nat} (ha:TxtAt (U8 B w) w (.slice a p.1.length ca) p.1) (hb:TxtAt (U8 B w) w (.slice b p.2.length cb) p.2):PrC (U8 B w) w [.slice a p.1.length ca,.slice b p.2.length cb] p:=⟨a,ca,b,cb,rfl,ha,hb⟩
theorem mV {U JB N:Nat} {j:Jo} (w:World) (h:JAt U w JB j N):Calls Tryz.prog 22 #[.pointer (some ⟨JB,0,none⟩)] w fun e w'=>∃v,e=.returned v∧StAt (Nu w.heap.size w') w' v j.pairs∧Below w.heap.size w w':=by
 obtain ⟨s0,n0,c0,uv,fs,h1,hk,_,_⟩:=h.box;obtain ⟨h3,_,h2⟩:=dd h.right;have D:=zh h3;have m:Hd (j.pairs.length≤256):=zh (jK h2);obtain ⟨⟨cs,⟨s00,cap,he,hm,hn,_,I,_⟩,hp⟩,_⟩:=hk;injection he with e1 e2 e3
 subst e1 e2 e3;generalize j.pairs=l at *;have k:=zh I;have HP:=zh hp;have q0:=aa h1 (j:=0) (u:=.slice s0 l.length c0) rfl;obtain ⟨i0,hi,hg,hf,hd⟩:=mo;have HI:=zh hi;clear h h3 h2 I hp hm hn h1 hi;go_enter Tryz.func22,Tryz.ntmps22
 go_wp2_with fail
 clear q0;go_loopg [3,11] l.length (fun gg t3 t11 wr=>∃(i:Nat) (s3:Option Addr) (c3:Nat),i+gg=l.length∧t3=.slice s3 i c3∧t11=.int .i64 (i:Int)∧Hd (GrP w.heap.size wr (.slice s3 i c3) (l.take i))∧Below w.heap.size w wr)
 case atStart=>exact ⟨0,none,0,Nat.zero_add _,rfl,rfl,zh (GrP.nil _ _),Below.refl _ _⟩
 case round =>
  obtain ⟨i,s3,c3,V,rfl,rfl,hc,hb⟩:=hrel;have HB:=zh hb;have HG:=zh V;have hB:(l.length:Int)≤256:=by have:=m.o;omega
  by_cases F:i<l.length
  ·skip
   have T:(i:Int)<(l.length:Int):=by omega
   have hC:(0:Int)≤(i:Int):=by omega
   obtain ⟨b,off,hl,_,h8,A⟩:=k.o (by omega);subst hl;obtain ⟨a1,c1,a2,c2,h7,h0,z⟩:=HP.o i F;have M:∀j,j<2→wr.cell? ⟨b,off+i * 2+j,none⟩=(cs i)[j]?:=fun j hj=>(HB.o.cell (p:=⟨b,_,none⟩) h8).trans (A i F j hj);rw [h7] at M;have x0:wr.cell? ⟨b,off+i * 2,none⟩=some (.slice a1 (l.getD i default).1.length c1):=M 0 (by decide);have x1:wr.cell? ⟨b,off+i * 2+1,none⟩=some (.slice a2 (l.getD i default).2.length c2):=M 1 (by decide);have ha:=zh (D.o (l.getD i default) (by rw [List.getD_eq_getElem?_getD,List.getElem?_eq_getElem F];exact List.getElem_mem _));have hq:Hd (l.take (i+1)=l.take i++[l.getD i default]):=zh (by rw [List.take_add_one,List.getD_eq_getElem?_getD,List.getElem?_eq_getElem F];rfl);have Q:Hd ((l.take i).length=i):=zh (by rw [List.length_take];omega);have hv:=zh (h0.below HB.o);have ht:=zh (z.below HB.o);generalize l.getD i default=p at *;generalize h6:p.1.length=kl at *;generalize y:p.2.length=vl at *;have H:=zh h6;have G:=zh y;clear hb V M h7 h0 z h6 y F A h8;go_upto_region 5 with fail
   clear x0 x1;have O:Below wr.heap.size wr (wr.alloc (.cells #[.slice a1 kl c1,.slice a2 vl c2] 70)):=ag (Below.refl _ _) _
   have P:Hd (∀W,Below (wr.alloc (.cells #[.slice a1 kl c1,.slice a2 vl c2] 70)).heap.size (wr.alloc (.cells #[.slice a1 kl c1,.slice a2 vl c2] 70)) W→W.cell? ⟨wr.heap.size,0,none⟩=some (.slice a1 kl c1)∧W.cell? ⟨wr.heap.size,1,none⟩=some (.slice a2 vl c2)):=zh (fun W hW=>by
     have hh:∀{b o u},(wr.alloc (.cells #[.slice a1 kl c1,.slice a2 vl c2] 70)).cell? ⟨b,o,none⟩=some u→W.cell? ⟨b,o,none⟩=some u:=fun {b o u} q=>(hW.cell (p:=⟨b,o,none⟩) (az q)).trans q;exact ⟨hh (aA _ _ _ _ _ _ rfl rfl),hh (aA _ _ _ _ _ _ rfl rfl)⟩)
   have L:Hd (Below w.heap.size w (wr.alloc (.cells #[.slice a1 kl c1,.slice a2 vl c2] 70))):=zh (ag HB.o _);have hz:=zh (hc.o.below O);have g:=zh (hv.o.below O);have f:=zh (ht.o.below O);clear O;generalize wr.alloc (.cells #[.slice a1 kl c1,.slice a2 vl c2] 70)=wx at *;generalize wr.heap.size=PB at *;refine ay (S:=(fun W=>W.cell? ⟨PB,0,none⟩=some (.slice a1 kl c1)∧W.cell? ⟨PB,1,none⟩=some (.slice a2 vl c2))) 9 (by kernel_rfl) (by kernel_rfl) (by (try dsimp only);exact P.o _ (aw (Below.refl _ _))) (fun hH=>?_);simp only [List.take_succ_cons,List.take_zero,List.drop_succ_cons,List.drop_zero]
   refine tkA 0 ?_;refine tkA 1 ?_;refine tkA 2 ?_;refine tkA 4 ?_;try go_simp
   refine tkA 5 ?_;try go_simp
   refine rd1 3 fun K hK=>?_;go_simp;go_at_call 30
   refine (bY _ (g.o.below (aw (Below.refl _ _))) (by have:=ha.o;have:=H.o;have:=G.o;omega)).mono ?_;rintro e w7 ⟨p7,c7,rfl,h5,d⟩;have R:Hd (Below wx.heap.size wx w7):=zh (am (aw (Below.refl _ _)) d)
   have hs:Hd (TxtAt (U8 w.heap.size w7) w7 (.slice p7 kl c7) p.1):=zh (by
     have q:=dE h5;rw [H.o] at q;exact q.mono fun b hb=>⟨Nat.le_trans (Nat.le_trans L.o.size ((aw (Below.refl _ _))).size) hb.1,hb.2⟩)
   have ho:=zh d;rw [H.o];clear h5 d;try go_simp
   refine hK.out _ _ ?_ (fun hH=>?_)
   ·(try dsimp only);exact P.o _ R.o
   clear hK K;try go_simp
   refine rd1 6 fun K hK=>?_;go_simp;go_at_call 30
   refine (bY _ (f.o.below R.o) (by have:=ha.o;have:=H.o;have:=G.o;omega)).mono ?_;rintro e w9 ⟨p9,c9,rfl,h4,c⟩;have t:Hd (Below wx.heap.size wx w9):=zh (am R.o c)
   have hr:Hd (TxtAt (U8 w.heap.size w9) w9 (.slice p9 vl c9) p.2):=zh (by
     have q:=dE h4;rw [G.o] at q;exact q.mono fun b hb=>⟨Nat.le_trans (Nat.le_trans L.o.size (R.o).size) hb.1,hb.2⟩)
   have Z:=zh c;rw [G.o];clear h4 c;try go_simp
   refine hK.out _ _ ?_ (fun hH=>?_)
   ·(try dsimp only);exact P.o _ t.o
   clear hK K;try go_simp
   refine tkA 7 ?_;try go_simp
   refine rd1 8 fun K hK=>?_;go_simp;refine hK.out _ _ ?_ (fun hH=>?_)
   ·(try dsimp only);exact P.o _ (ag t.o _)
   clear hK K;try go_simp
   refine wpAnyH_done (by kernel_rfl) ?_ _;dsimp only [aP];have E:Hd (Below wx.heap.size wx (w9.alloc (.cells #[.slice p7 kl c7,.slice p9 vl c9] 70))):=zh (ag t.o _);have C:Below w9.heap.size w9 (w9.alloc (.cells #[.slice p7 kl c7,.slice p9 vl c9] 70)):=ag (Below.refl _ _) _;have hy:Hd ((w9.alloc (.cells #[.slice p7 kl c7,.slice p9 vl c9] 70)).heap[w9.heap.size]?=some (.cells #[.slice p7 kl c7,.slice p9 vl c9] 70 (0,0))):=zh (aj _ _ _ rfl);have s:=zh (hz.o.below E.o)
   have hx:Hd (PrC (U8 w.heap.size (w9.alloc (.cells #[.slice p7 kl c7,.slice p9 vl c9] 70))) (w9.alloc (.cells #[.slice p7 kl c7,.slice p9 vl c9] 70)) [.slice p7 kl c7,.slice p9 vl c9] p):=zh (by
     have q7:=(hs.o.u8 (B':=w.heap.size) (Stays.of_below (am Z.o C)) (Nat.le_refl _))
     have q9:=(hr.o.u8 (B':=w.heap.size) (Stays.of_below C) (Nat.le_refl _))
     have q:=uo (p:=p) (a:=p7) (b:=p9) (ca:=c7) (cb:=c9) (by rw [H.o];exact q7) (by rw [G.o];exact q9);rw [H.o,G.o] at q;exact q)
   have h9:Hd (w.heap.size≤(w9.alloc (.cells #[.slice p7 kl c7,.slice p9 vl c9] 70)).heap.size):=zh (Nat.le_trans L.o.size E.o.size);clear C;generalize w9.alloc (.cells #[.slice p7 kl c7,.slice p9 vl c9] 70)=w10 at *;generalize w9.heap.size=NB at *;obtain ⟨gcs,X,Y⟩:=s.o;rw [Q.o] at X Y;have n:=zh X;have hA:=zh Y;clear X Y hH;refine dC rfl _ _ _ rfl w.heap.size 70 i0 _ 2 48 Tryz.underlying48 HI.o hg hf hd rfl (by decide) _ i (bG gcs i) rfl n.o (some ⟨NB,0,none⟩) 1 1 [.slice p7 kl c7,.slice p9 vl c9] rfl (fun h=>by cases h) rfl ?q1 ?q2 ?q3 ?q4 h9.o ?_
   case q1 =>
    intro ad e j u hj;injection e with e
    subst e;rw [Go.WideShapes.add_plain,Nat.zero_add];exact aa hy.o (by simpa using hj)
   case q2 =>
    intro u hu;rcases List.mem_cons.1 hu with rfl | hu
    ·rfl
    rcases List.mem_cons.1 hu with rfl | hu
    ·rfl
    ·cases hu
   case q3=>unfold maxLen;have:=m.o;omega
   case q4=>have:=m.o;omega
   intro s12 c12 w12 J B
   have r:Hd (GrP w.heap.size w12 (.slice s12 (i+1) c12) (l.take (i+1))):=zh (by
     rw [hq.o];exact GrP.push (by rw [Q.o];exact n.o) (by rw [Q.o];exact hA.o) hx.o B (by rw [Q.o];exact J))
   have x:Hd (Below w.heap.size w w12):=zh ((L.o.trans (E.o.mono L.o.size)).grown B h9.o (fun b hb=>(aI n.o hb).1));clear J B;go_wp2_with fail
   go_roundg (l.length-i-1)
   case measure=>have:=HG.o;omega
   case rel=>exact ⟨i+1,s12,c12,by have:=HG.o;omega,rfl,by go_num,r,x.o⟩
  ·obtain rfl:i=l.length:=by omega
   have T:¬(l.length:Int)<(l.length:Int):=by omega
   have hw:Hd (StAt (Nu w.heap.size wr) wr (.slice s3 l.length c3) l):=zh (by
     have q:=hc.o.st;rwa [List.take_length] at q)
   clear hb V F;go_wp2_with fail
   exact bodyPost_ret (v:=.slice s3 l.length c3) (by simp [results,Tryz.results22,go_sem]) rfl ⟨_,rfl,hw.o,HB.o⟩
def pL (w:World) (l:List Pr) (e:Ending) (w':World):Prop:=Below w.heap.size w w'∧if a8 l=true then ∃JB,e=.returned (.pointer (some ⟨JB,0,none⟩))∧w.heap.size≤JB∧∀U N,JAt U w' JB ⟨l,[]⟩ N else e=.returned (.pointer none)
theorem me {S:Nat→Prop} {v:Value} {l:List Pr} (w:World) (h:PrsAt S w v l) (hl:(l.length:Int)≤1000000000000000):Calls Tryz.prog 12 #[v] w (pL w l):=by
 have hs:=zh (rN w h hl);obtain ⟨cs,⟨s0,cap,rfl,hA,hB,_,M,_⟩,hp⟩:=h;have y:=zh M;have HP:=zh hp;clear M hp hA hB hl
 have Q:Hd (∀e w',Below w.heap.size w w'→(a8 l=true→∃JB,e=.returned (.pointer (some ⟨JB,0,none⟩))∧w.heap.size≤JB∧∀U N,JAt U w' JB ⟨l,[]⟩ N)→(a8 l=false→e=.returned (.pointer none))→pL w l e w'):=zh (fun e w' hb h1 h2=>⟨hb,by
   by_cases q:a8 l=true
   · rw [if_pos q];exact h1 q
   · rw [if_neg q];exact h2 (by simpa using q)⟩)
 generalize hR:a8 l=R at *
 cases R with
 | false =>
  go_enter Tryz.func12,Tryz.ntmps12
  go_wp2_with fail
  refine hs.o.mono ?_;rintro e w1 ⟨rfl,hb⟩;have HB:=zh hb;clear hb;go_wp2_with fail
  exact bodyPost_ret (v:=.pointer none) (by simp [results,Tryz.results12,go_sem]) rfl (Q.o _ _ HB.o (fun h=>by cases h) (fun _=>rfl))
 | true =>
  obtain ⟨hf,_,he⟩:=dd hR;have F:=zh hf;have z:Hd (l.length≤256):=zh (jK he);have hM:=zh hR;obtain ⟨i0,hi,hy,hx,hw⟩:=mo;have HI:=zh hi;clear hf he hR hi;go_enter Tryz.func12,Tryz.ntmps12
  go_wp2_with fail
  refine hs.o.mono ?_;rintro e w1 ⟨rfl,hb⟩;have hT:Hd (Below w.heap.size w (w1.alloc (.cells #[.slice none 0 0,.slice none 0 0] 68))):=zh (ag hb _);have hP:Hd ((w1.alloc (.cells #[.slice none 0 0,.slice none 0 0] 68)).heap[w1.heap.size]?=some (.cells #[.slice none 0 0,.slice none 0 0] 68 (0,0))):=zh (aj _ _ _ rfl);have hv:Hd (w.heap.size≤w1.heap.size):=zh hb.size;clear hb;go_wp2_with fail
  generalize w1.alloc (.cells #[.slice none 0 0,.slice none 0 0] 68)=w2 at *;generalize w1.heap.size=JB at *;go_loopg [13] l.length (fun gg t13 wr=>∃(i:Nat) (s3:Option Addr) (c3:Nat),i+gg=l.length∧t13=.int .i64 (i:Int)∧Hd (GrP w.heap.size wr (.slice s3 i c3) (l.take i))∧Hd (wr.heap[JB]?=some (.cells #[.slice s3 i c3,.slice none 0 0] 68 (0,0)))∧Below w.heap.size w wr)
  case atStart=>exact ⟨0,none,0,Nat.zero_add _,rfl,zh (GrP.nil _ _),hP,hT.o⟩
  case round =>
   obtain ⟨i,s3,c3,g,rfl,h3,Z,hb⟩:=hrel;have HB:=zh hb;have HG:=zh g;have hU:(l.length:Int)≤256:=by have:=z.o;omega
   by_cases H:i<l.length
   ·skip
    have f:(i:Int)<(l.length:Int):=by omega
    have hV:(0:Int)≤(i:Int):=by omega
    obtain ⟨b,off,hz,_,ho,D⟩:=y.o (by omega);subst hz;obtain ⟨a1,c1,a2,c2,hn,hd,hc⟩:=HP.o i H;have X:∀j,j<2→wr.cell? ⟨b,off+i * 2+j,none⟩=(cs i)[j]?:=fun j hj=>(HB.o.cell (p:=⟨b,_,none⟩) ho).trans (D i H j hj);rw [hn] at X;have x0:wr.cell? ⟨b,off+i * 2,none⟩=some (.slice a1 (l.getD i default).1.length c1):=X 0 (by decide);have x1:wr.cell? ⟨b,off+i * 2+1,none⟩=some (.slice a2 (l.getD i default).2.length c2):=X 1 (by decide);have hr:=zh (F.o (l.getD i default) (by rw [List.getD_eq_getElem?_getD,List.getElem?_eq_getElem H];exact List.getElem_mem _));have hD:Hd (l.take (i+1)=l.take i++[l.getD i default]):=zh (by rw [List.take_add_one,List.getD_eq_getElem?_getD,List.getElem?_eq_getElem H];rfl);have Y:Hd ((l.take i).length=i):=zh (by rw [List.length_take];omega);have hI:=zh (hd.below HB.o);have hG:=zh (hc.below HB.o);generalize l.getD i default=p at *;generalize hm:p.1.length=kl at *;generalize ha:p.2.length=vl at *;have L:=zh hm;have I:=zh ha;have j0:=aa Z.o (j:=0) (u:=.slice s3 i c3) rfl;clear hb g X hn hd hc hm ha H D ho;go_upto_region 7 with fail
    clear x0 x1;have P:Below wr.heap.size wr (wr.alloc (.cells #[.slice a1 kl c1,.slice a2 vl c2] 70)):=ag (Below.refl _ _) _
    have J:Hd (∀W,Below (wr.alloc (.cells #[.slice a1 kl c1,.slice a2 vl c2] 70)).heap.size (wr.alloc (.cells #[.slice a1 kl c1,.slice a2 vl c2] 70)) W→W.cell? ⟨wr.heap.size,0,none⟩=some (.slice a1 kl c1)∧W.cell? ⟨wr.heap.size,1,none⟩=some (.slice a2 vl c2)∧W.cell? ⟨JB,0,none⟩=some (.slice s3 i c3)):=zh (fun W hW=>by
      have hh:∀{b o u},(wr.alloc (.cells #[.slice a1 kl c1,.slice a2 vl c2] 70)).cell? ⟨b,o,none⟩=some u→W.cell? ⟨b,o,none⟩=some u:=fun {b o u} q=>(hW.cell (p:=⟨b,o,none⟩) (az q)).trans q;exact ⟨hh (aA _ _ _ _ _ _ rfl rfl),hh (aA _ _ _ _ _ _ rfl rfl),hh (aq _ j0)⟩)
    have V:Hd (Below w.heap.size w (wr.alloc (.cells #[.slice a1 kl c1,.slice a2 vl c2] 70))):=zh (ag HB.o _);have hQ:=zh (h3.o.below P);have x:=zh (hI.o.below P);have t:=zh (hG.o.below P);have ht:=zh ((P.block _ (af Z.o)).trans Z.o)
    have GRB:Hd (∀b,(Value.slice s3 i c3).ownBlock=some b→b<wr.heap.size):=zh (fun b q=>by
      obtain ⟨_,h,_⟩:=h3.o;exact (aI h q).2)
    clear j0;clear P;generalize wr.alloc (.cells #[.slice a1 kl c1,.slice a2 vl c2] 70)=wx at *;generalize wr.heap.size=PB at *;refine ay (S:=(fun W=>W.cell? ⟨PB,0,none⟩=some (.slice a1 kl c1)∧W.cell? ⟨PB,1,none⟩=some (.slice a2 vl c2)∧W.cell? ⟨JB,0,none⟩=some (.slice s3 i c3))) 16 (by kernel_rfl) (by kernel_rfl) (by (try dsimp only);exact J.o _ (aw (Below.refl _ _))) (fun hH=>?_);simp only [List.take_succ_cons,List.take_zero,List.drop_succ_cons,List.drop_zero]
    refine tkA 0 ?_;refine tkA 1 ?_;refine tkA 2 ?_;refine tkA 3 ?_;try go_simp
    refine tkA 4 ?_;refine tkA 5 ?_;refine tkA 6 ?_;refine tkA 8 ?_;try go_simp
    refine tkA 9 ?_;try go_simp
    refine rd1 7 fun K hK=>?_;go_simp;go_at_call 30
    refine (bY _ (x.o.below (aw (Below.refl _ _))) (by have:=hr.o;have:=L.o;have:=I.o;omega)).mono ?_;rintro e w7 ⟨p7,c7,rfl,hk,s⟩;have d:Hd (Below wx.heap.size wx w7):=zh (am (aw (Below.refl _ _)) s)
    have hF:Hd (TxtAt (U8 w.heap.size w7) w7 (.slice p7 kl c7) p.1):=zh (by
      have q:=dE hk;rw [L.o] at q;exact q.mono fun b hb=>⟨Nat.le_trans (Nat.le_trans V.o.size ((aw (Below.refl _ _))).size) hb.1,hb.2⟩)
    have hC:=zh s;rw [L.o];clear hk s;try go_simp
    refine hK.out _ _ ?_ (fun hH=>?_)
    ·(try dsimp only);exact J.o _ d.o
    clear hK K;try go_simp
    refine rd1 10 fun K hK=>?_;go_simp;go_at_call 30
    refine (bY _ (t.o.below d.o) (by have:=hr.o;have:=L.o;have:=I.o;omega)).mono ?_;rintro e w9 ⟨p9,c9,rfl,hg,r⟩;have h7:Hd (Below wx.heap.size wx w9):=zh (am d.o r)
    have hE:Hd (TxtAt (U8 w.heap.size w9) w9 (.slice p9 vl c9) p.2):=zh (by
      have q:=dE hg;rw [I.o] at q;exact q.mono fun b hb=>⟨Nat.le_trans (Nat.le_trans V.o.size (d.o).size) hb.1,hb.2⟩)
    have n:=zh r;rw [I.o];clear hg r;try go_simp
    refine hK.out _ _ ?_ (fun hH=>?_)
    ·(try dsimp only);exact J.o _ h7.o
    clear hK K;try go_simp
    refine tkA 11 ?_;try go_simp
    refine rd1 12 fun K hK=>?_;go_simp;refine hK.out _ _ ?_ (fun hH=>?_)
    ·(try dsimp only);exact J.o _ (ag h7.o _)
    clear hK K;try go_simp
    have A:Hd (Below wx.heap.size wx (w9.alloc (.cells #[.slice p7 kl c7,.slice p9 vl c9] 70))):=zh (ag h7.o _);have E:Below w9.heap.size w9 (w9.alloc (.cells #[.slice p7 kl c7,.slice p9 vl c9] 70)):=ag (Below.refl _ _) _;have hO:Hd ((w9.alloc (.cells #[.slice p7 kl c7,.slice p9 vl c9] 70)).heap[w9.heap.size]?=some (.cells #[.slice p7 kl c7,.slice p9 vl c9] 70 (0,0))):=zh (aj _ _ _ rfl);have h6:=zh (hQ.o.below A.o)
    have hN:Hd (PrC (U8 w.heap.size (w9.alloc (.cells #[.slice p7 kl c7,.slice p9 vl c9] 70))) (w9.alloc (.cells #[.slice p7 kl c7,.slice p9 vl c9] 70)) [.slice p7 kl c7,.slice p9 vl c9] p):=zh (by
      have q7:=(hF.o.u8 (B':=w.heap.size) (Stays.of_below (am n.o E)) (Nat.le_refl _))
      have q9:=(hE.o.u8 (B':=w.heap.size) (Stays.of_below E) (Nat.le_refl _))
      have q:=uo (p:=p) (a:=p7) (b:=p9) (ca:=c7) (cb:=c9) (by rw [L.o];exact q7) (by rw [I.o];exact q9);rw [L.o,I.o] at q;exact q)
    have hq:Hd (w.heap.size≤(w9.alloc (.cells #[.slice p7 kl c7,.slice p9 vl c9] 70)).heap.size):=zh (Nat.le_trans V.o.size A.o.size);have G:=zh ((A.o.block _ (af ht.o)).trans ht.o);clear E;generalize w9.alloc (.cells #[.slice p7 kl c7,.slice p9 vl c9] 70)=w10 at *;generalize w9.heap.size=NB at *;obtain ⟨gcs,k,m⟩:=h6.o;rw [Y.o] at k m;have c:=zh k;have hS:=zh m;clear k m;refine rd1 13 fun K hK=>?_;refine fy rfl _ _ _ rfl w.heap.size 70 i0 _ 2 48 Tryz.underlying48 HI.o hy hx hw rfl (by decide) _ i (bG gcs i) rfl c.o (some ⟨NB,0,none⟩) 1 1 [.slice p7 kl c7,.slice p9 vl c9] rfl (fun h=>by cases h) rfl ?q1 ?q2 ?q3 ?q4 hq.o ?_
    case q1 =>
     intro ad e j u hj;injection e with e
     subst e;rw [Go.WideShapes.add_plain,Nat.zero_add];exact aa hO.o (by simpa using hj)
    case q2 =>
     intro u hu;rcases List.mem_cons.1 hu with rfl | hu
     ·rfl
     rcases List.mem_cons.1 hu with rfl | hu
     ·rfl
     ·cases hu
    case q3=>unfold maxLen;have:=z.o;omega
    case q4=>have:=z.o;omega
    intro s12 c12 w12 O B
    have h5:Hd (GrP w.heap.size w12 (.slice s12 (i+1) c12) (l.take (i+1))):=zh (by
      rw [hD.o];exact GrP.push (by rw [Y.o];exact c.o) (by rw [Y.o];exact hS.o) hN.o B (by rw [Y.o];exact O))
    have h9:Hd (Below w.heap.size w w12):=zh ((V.o.trans (A.o.mono V.o.size)).grown B hq.o (fun b hb=>(aI c.o hb).1));have C:=zh ((B.block JB (af G.o) (fun e=>OfTy.ne (⟨_,_,G.o⟩:OfTy w10 JB 68) (dA c.o e.symm) (by decide) rfl)).trans G.o);have jj0:=aa C.o (j:=0) (u:=.slice s3 i c3) rfl;have jf0:=ae C.o 0;have T:Hd (∀o u,w10.cell? ⟨PB,o,none⟩=some u→w12.cell? ⟨PB,o,none⟩=some u):=zh (fun o u q=>(World.cell?_of_block (w:=w10) (B.block PB (az q) (fun e=>Nat.lt_irrefl _ (GRB.o PB e.symm)))).trans q);clear O B;refine hK.out _ _ ?_ (fun hH=>?_)
    ·exact ⟨(T.o _ _ (J.o _ A.o).1),(T.o _ _ (J.o _ A.o).2.1),jj0⟩
    clear hK K;try go_simp
    refine tkA 14 ?_;refine tkA 15 ?_;try go_simp
    refine wpAnyH_done (by kernel_rfl) ?_ _;dsimp only [aP];go_wp2_with fail
    have h0:Hd ((w12.setCell ⟨JB,0,none⟩ (.slice s12 (i+1) c12)).heap[JB]?=some (.cells #[.slice s12 (i+1) c12,.slice none 0 0] 68 (0,0))):=zh (au C.o 0 _);have h4:=zh (h5.o.on ((On.refl JB w12).set 0 (.slice s12 (i+1) c12)) (⟨_,_,C.o⟩:OfTy w12 JB 68) (by decide) (by decide));have h8:Hd (Below w.heap.size w (w12.setCell ⟨JB,0,none⟩ (.slice s12 (i+1) c12))):=zh (h9.o.setCell (p:=⟨JB,0,none⟩) hv.o _);go_roundg (l.length-i-1)
    case measure=>have:=HG.o;omega
    case rel=>exact ⟨i+1,s12,c12,by have:=HG.o;omega,by go_num,h4,h0,h8.o⟩
   ·obtain rfl:i=l.length:=by omega
    have f:¬(l.length:Int)<(l.length:Int):=by omega
    have hL:Hd (StAt (Nu w.heap.size wr) wr (.slice s3 l.length c3) l):=zh (by
      have q:=h3.o.st;rwa [List.take_length] at q)
    clear hb g H;go_wp2_with fail
    refine bodyPost_ret (v:=.pointer (some ⟨JB,0,none⟩)) (by simp [results,Tryz.results12,go_sem]) rfl (Q.o _ _ HB.o (fun _=>⟨JB,rfl,hv.o,fun U N=>⟨⟨_,_,_,_,[],Z.o,hL.o.mono (fun b hb=>JS.of_nu hb),gy,fun i hi=>absurd hi (Nat.not_lt_zero _)⟩,hM.o,fun l hl=>(by cases hl),Nat.zero_le _⟩⟩) (fun h=>by cases h))
end
end Go.Proofs.YthgcpfkochikfaaGreat
