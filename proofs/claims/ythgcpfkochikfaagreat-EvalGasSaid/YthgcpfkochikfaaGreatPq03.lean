/-
  EvalLoops: part 3 of its proof: see the last text.
-/
import Derived.Test.YthgcpfkochikfaaGreatPq01
import Derived.Test.YthgcpfkochikfaaGreatRows
import Derived.Test.YthgcpfkochikfaaGreatPq02
import Derived.Shelf.Bytes.SlSmallAll
import Derived.Lib.BytesEntry
import Derived.Test.YthgcpfkochikfaaGreatPq00
import Derived.Laws.EntriesVeiled
import Derived.Deep.AppendLies
import Derived.Laws.AppendOwnNone
import Derived.StillTail
set_option maxRecDepth 100000
set_option maxHeartbeats 16000000
namespace Go.Proofs.YthgcpfkochikfaaGreat
section
open Go.RowKit
def byC (l:List UInt8) (i:Nat):List Value:=[.int .u8 (l.getD i 0).toNat]
def byV (l:List UInt8):List Value:=l.map fun b=>.int .u8 b.toNat
def TxtAt (S:Nat→Prop) (w:World) (v:Value) (l:List UInt8):Prop:=RowOf S w v 1 l.length (byC l)
def U8 (B:Nat) (w:World) (b:Nat):Prop:=B≤b∧OfTy w b 5
section
variable {S S':Nat→Prop} {w w':World} {v:Value} {l:List UInt8}
theorem TxtAt.keep (h:TxtAt S w v l) (hk:Stays S w w'):TxtAt S w' v l:=RowOf.keep h hk
theorem TxtAt.mono (h:TxtAt S w v l) (hb:∀b,S b→S' b):TxtAt S' w v l:=RowOf.mono h hb
theorem TxtAt.below (h:TxtAt S w v l) (hb:Below w.heap.size w w'):TxtAt S w' v l:=h.keep (Stays.of_below hb)
theorem TxtAt.nil (S:Nat→Prop) (w:World):TxtAt S w (.slice none 0 0) []:=RowOf.nil _ _ _ _
theorem TxtAt.form (h:TxtAt S w v l):∃p c,v=.slice p l.length c∧l.length≤c∧c≤maxLen∧(p=none→c=0)∧(0<l.length→∃b off,p=some ⟨b,off,none⟩∧S b∧b<w.heap.size∧∀i,i<l.length→w.cell? ⟨b,off+i,none⟩=some (.int .u8 (l.getD i 0).toNat)):=by
 obtain ⟨p,c,h1,h2,h3,h4,h5,_⟩:=h;refine ⟨p,c,h1,h2,h3,h4,fun h0=>?_⟩;obtain ⟨b,off,e,hb,hl,hc⟩:=h5 h0;refine ⟨b,off,e,hb,hl,fun i hi=>?_⟩;have:=hc i hi 0 (by decide);rwa [Nat.mul_one,Nat.add_zero] at this
theorem TxtAt.of_cells {p:Option Addr} {c:Nat} (h1:l.length≤c) (h2:c≤maxLen) (h3:p=none→c=0) (h:0<l.length→∃b off,p=some ⟨b,off,none⟩∧S b∧∀i,i<l.length→w.cell? ⟨b,off+i,none⟩=some (.int .u8 (l.getD i 0).toNat)):TxtAt S w (.slice p l.length c) l:=by
 refine ⟨p,c,rfl,h1,h2,h3,fun h0=>?_,fun i _=>rfl⟩;obtain ⟨b,off,e,hb,hc⟩:=h h0;refine ⟨b,off,e,hb,az (hc 0 h0),fun i hi j hj=>?_⟩;obtain rfl:j=0:=by omega
 rw [Nat.mul_one,Nat.add_zero];exact hc i hi
theorem zB {i:Nat} {u:Value} (h:(byV l)[i]?=some u):i<l.length∧u=.int .u8 (l.getD i 0).toNat:=by
 unfold byV at h
 have hi:i<l.length:=by
  have:=(List.getElem?_eq_some_iff.1 h).1;simpa using this
 refine ⟨hi,?_⟩;rw [List.getElem?_map,List.getElem?_eq_getElem hi] at h;rw [List.getD_eq_getElem?_getD,List.getElem?_eq_getElem hi];exact (Option.some.inj h).symm
theorem BK {i:Nat} (h:i<l.length):(byV l)[i]?=some (.int .u8 (l.getD i 0).toNat):=by
 unfold byV;rw [List.getElem?_map,List.getD_eq_getElem?_getD,List.getElem?_eq_getElem h];rfl
theorem mh:(byV l).length=l.length:=by simp [byV]
theorem pT:∀u∈byV l,u.oneCell'=true:=fun u hu=>by
 obtain ⟨b,_,rfl⟩:=List.mem_map.1 hu;rfl
theorem dz {B n:Nat} (h:w.ownsRow B 5 1 v n (byV l)):TxtAt (U8 B w) w v l:=by
 have hn:n=l.length:=by have:=h.1;rw [mh] at this;omega
 subst hn;obtain ⟨s0,cap,rfl,h1,h2,h3,h4⟩:=bC h;refine TxtAt.of_cells h1 h2 h3 fun h0=>?_;obtain ⟨g,rfl,hg,hl,hc⟩:=h4 h0;refine ⟨g,0,rfl,⟨hg,dy h rfl⟩,fun i hi=>?_⟩;rw [Nat.zero_add];exact hc i _ (BK hi)
theorem U8.keep {B B' b:Nat} (h:U8 B w b) (hs:Stays (U8 B w) w w') (hB:B'≤B):U8 B' w' b:=⟨Nat.le_trans hB h.1,h.2.keep (hs.block b h h.2.lt)⟩
theorem TxtAt.u8 {B B':Nat} (h:TxtAt (U8 B w) w v l) (hs:Stays (U8 B w) w w') (hB:B'≤B):TxtAt (U8 B' w') w' v l:=(h.keep hs).mono fun _ q=>q.keep hs hB
theorem TxtAt.adds {p:Option Addr} {n c:Nat} (h:TxtAt S w (.slice p n c) l):n=l.length∧∀ad,p=some ad→∀j u,(byV l)[j]?=some u→w.cell? (ad.add j)=some u:=by
 obtain ⟨p',c',e,_,_,_,h5⟩:=h.form;injection e with e1 e2 e3
 subst e1 e2;refine ⟨rfl,fun ad hp j u hj=>?_⟩;obtain ⟨A,rfl⟩:=zB hj;obtain ⟨b,off,e,_,_,hc⟩:=h5 (by omega);rw [hp] at e;injection e with e
 subst e;rw [Go.WideShapes.add_plain];exact hc j A
theorem dN (h:TxtAt S w v l):(convert 30 9 v).run Tryz.prog w=.ok (.string ⟨l.toArray⟩) w:=by
 obtain ⟨p,c,rfl,_,_,_,h5⟩:=h.form;by_cases h0:l.length=0
 ·obtain rfl:l=[]:=List.eq_nil_of_length_eq_zero h0
  exact run_convert_bytes_zero w _ _ Tryz.underlying30 Tryz.underlying5 p c _ Tryz.underlying9
 ·obtain ⟨b,off,rfl,_,_,hc⟩:=h5 (by omega)
  rw [run_convert_bytes_arg w _ _ Tryz.underlying30 Tryz.underlying5 b off l.length c (l.map fun b=>(b.toNat:Int)) (by simp) (fun i hi=>by
    rw [hc i hi,List.getD_eq_getElem?_getD,List.getD_eq_getElem?_getD,List.getElem?_map,List.getElem?_eq_getElem hi];rfl) _ Tryz.underlying9]
  congr 2
  unfold strOfNums;congr 1
  rw [List.map_map];congr 1
  exact (List.map_congr_left fun b _=>by simp).trans (List.map_id' l)
theorem qG (h:TxtAt S w v l):(Extern.Bytes.bytesOf v).run Tryz.prog w=.ok ⟨l.toArray⟩ w:=by
 obtain ⟨p,c,rfl,_,_,_,h5⟩:=h.form
 cases p with
 | none =>
  have h0:¬0<l.length:=fun h0=>by
   obtain ⟨_,_,e,_⟩:=h5 h0
   cases e
  obtain rfl:l=[]:=List.eq_nil_of_length_eq_zero (by omega);rfl
 | some a =>
  have:=Lib.run_loadBytesX (P:=Tryz.prog) w (l.map fun b=>(b.toNat:Int)) a .empty (fun j x hj=>by
    have A:j<l.length:=by
      have:=(List.getElem?_eq_some_iff.1 hj).1;simpa using this
    obtain ⟨b,off,e,_,_,hc⟩:=h5 (by omega);injection e with e
    subst e;rw [Go.WideShapes.add_plain,hc j A];rw [List.getElem?_map,List.getElem?_eq_getElem A] at hj;rw [List.getD_eq_getElem?_getD,List.getElem?_eq_getElem A];exact congrArg (fun z=>some (Value.int .u8 z)) (Option.some.inj hj))
  rw [List.length_map] at this;show (Extern.Bytes.loadBytes a l.length .empty).run Tryz.prog w=_
  rw [this];congr 1
  apply ByteArray.ext;show (#[]:Array UInt8)++(Lib.bytesOf (l.map fun b=>(b.toNat:Int))).toArray=l.toArray
  rw [Array.empty_append];congr 1
  unfold Lib.bytesOf;rw [List.map_map];exact (List.map_congr_left fun b _=>by simp).trans (List.map_id' l)
end
theorem uV {S1 S2:Nat→Prop} {a b:Value} {la lb:List UInt8} (w:World) (ha:TxtAt S1 w a la) (hb:TxtAt S2 w b lb):Calls Tryz.prog 202 #[a,b] w fun e w'=>e=.returned (.bool (la==lb))∧w=w':=by
 obtain ⟨pa,ca,e1,_⟩:=ha.form;obtain ⟨pb,cb,e2,_⟩:=hb.form;subst e1 e2;have h1:=dN ha;have h2:=dN hb;have e:((⟨la.toArray⟩:ByteArray).toList==(⟨lb.toArray⟩:ByteArray).toList)=(la==lb):=by rw [ByteArray.toList_eq,ByteArray.toList_eq]
 have HE:=zh e;clear ha hb e;go_enter Tryz.func202,Tryz.ntmps202
 go_wp2_with fail
 exact bodyPost_ret (v:=.bool (la==lb)) (by simp [results,Tryz.results202,go_sem]) rfl ⟨rfl,rfl⟩
theorem fM:∀a b:List UInt8,bM a b=decide (Lib.compareBytes a b<0)
 | [],[]=>rfl
 | [],_ :: _=>rfl
 | _ :: _,[]=>rfl
 | x :: a,y :: b=>by
  rw [bM,Lib.compareBytes];by_cases h:x<y
  ·rw [if_pos h,if_pos h];rfl
  ·rw [if_neg h,if_neg h]
   by_cases g:y<x
   ·rw [if_pos g,if_pos g];rfl
   ·rw [if_neg g,if_neg g,fM a b]
theorem kN:∀a b:List UInt8,Lib.compareBytes a b=- Lib.compareBytes b a
 | [],[]=>rfl
 | [],_ :: _=>rfl
 | _ :: _,[]=>rfl
 | x :: a,y :: b=>by
  rw [Lib.compareBytes,Lib.compareBytes];by_cases h:x<y
  ·rw [if_pos h,if_neg (UInt8.lt_asymm h),if_pos h]
  ·rw [if_neg h]
   by_cases g:y<x
   ·rw [if_pos g,if_pos g];rfl
   ·rw [if_neg g,if_neg g,if_neg h,kN a b]
theorem iZ:∀a b:List UInt8,Lib.compareBytes a b=0 ↔ a=b
 | [],[]=>by simp [Lib.compareBytes]
 | [],_ :: _=>by simp [Lib.compareBytes]
 | _ :: _,[]=>by simp [Lib.compareBytes]
 | x :: a,y :: b=>by
  rw [Lib.compareBytes];by_cases h:x<y
  ·rw [if_pos h]
   exact ⟨fun q=>absurd q (by decide),fun q=>by injection q with q;subst q;exact absurd h (UInt8.lt_irrefl _)⟩
  ·rw [if_neg h]
   by_cases g:y<x
   ·rw [if_pos g]
    exact ⟨fun q=>absurd q (by decide),fun q=>by injection q with q;subst q;exact absurd g (UInt8.lt_irrefl _)⟩
   ·rw [if_neg g,iZ a b]
    have e:x=y:=UInt8.le_antisymm (UInt8.not_lt.1 g) (UInt8.not_lt.1 h);subst e;simp
theorem jp {S1 S2:Nat→Prop} {a b:Value} {la lb:List UInt8} (w:World) (ha:TxtAt S1 w a la) (hb:TxtAt S2 w b lb):Calls Tryz.prog 53 #[a,b] w fun e w'=>e=.returned (.int .i64 (Lib.compareBytes la lb))∧w=w':=by
 have hx:∀args W,Sem.run Tryz.prog (callFunc 85 args) W=_:=fun args W=>run_callFunc_extern Tryz.func85 (by kernel_rfl) (by kernel_rfl) (by kernel_rfl) (e:=Extern.BytealgCompare.compare) (by kernel_rfl) args W
 have HR:Hd ((Extern.BytealgCompare.compare #[a,b]).run Tryz.prog w=.ok (.int .i64 (Lib.compareBytes la lb)) w):=zh (by
   show Sem.run Tryz.prog (do pure (goInt (Extern.BytealgCompare.cmp (←Extern.Bytes.bytesOf a) (←Extern.Bytes.bytesOf b)))) w=_
   rw [Sem.run_bind,qG ha];simp only [Sem.run_bind,Result.andThen,qG hb,Sem.run_pure]
   rw [Lib.cmp_eq];rfl)
 obtain ⟨pa,ca,e1,_⟩:=ha.form;obtain ⟨pb,cb,e2,_⟩:=hb.form;subst e1 e2;clear ha hb;go_enter Tryz.func53,Tryz.ntmps53
 go_wp2_with fail
 rw [HR.o];simp only [Result.andThen]
 rw [Oper.upon_value];go_wp2_with fail
 exact bodyPost_ret (v:=.int .i64 (Lib.compareBytes la lb)) (by simp [results,Tryz.results53,go_sem]) rfl ⟨rfl,rfl⟩
theorem sH:∃i,Tryz.prog.info? 5=some i∧i.zero=some (.int .u8 0)∧i.size=1∧i.bytes=1:=by
 have h:(Tryz.prog.info? 5).map (fun i=>(i.zero,i.size,i.bytes))=some (some (.int .u8 0),1,1):=by kernel_rfl
 obtain ⟨i,hi,he⟩:=Option.map_eq_some_iff.1 h;exact ⟨i,hi,congrArg (·.1) he,congrArg (·.2.1) he,congrArg (·.2.2) he⟩
theorem uJ {w:World} {a:Addr} {u:Value} (o:Obj) (h:w.cell? a=some u):(w.alloc o).cell? a=some u:=by
 rw [World.cell?_alloc_old _ _ _ (fun e=>World.new_ne w _ h e.symm)];exact h
theorem cf {S:Nat→Prop} {v:Value} {l:List UInt8} (w:World) (h:TxtAt S w v l) (hl:l.length≤100000):Calls Tryz.prog 30 #[v] w fun e w'=>∃p c,e=.returned (.slice p l.length c)∧w'.ownsRow w.heap.size 5 1 (.slice p l.length c) l.length (byV l)∧Below w.heap.size w w':=by
 obtain ⟨p,c,rfl,D,hm,hn,h5⟩:=h.form;have q22:∀(w:World) (a:Option Addr) (n c n' c':Nat),(binOp .eql 30 (.slice a n c) (.slice none n' c')).run Tryz.prog w=.ok (.bool a.isNone) w:=fun w a n c n' c'=>Lib.run_eql_slice_nil w _ _ a n c n' c' Tryz.underlying30;have HA:=zh (h.adds.2)
 cases p with
 | none =>
  have h0:¬0<l.length:=fun h0=>by
   obtain ⟨_,_,e,_⟩:=h5 h0
   cases e
  obtain rfl:l=[]:=List.eq_nil_of_length_eq_zero (by omega);clear h h5 hn D hl h0 hm;go_enter Tryz.func30,Tryz.ntmps30
  go_wp2_with fail
  exact bodyPost_ret (v:=.slice none 0 0) (by simp [results,Tryz.results30,go_sem]) rfl ⟨none,0,rfl,gq,Below.refl _ _⟩
 | some a =>
  obtain ⟨i0,hi,G,F,E⟩:=sH;clear h h5 hn D hm;go_enter Tryz.func30,Tryz.ntmps30
  go_wp2_with (at_builtin;refine wpList_append_own _ rfl _ _ 30 rfl w.heap.size 5 i0 (.int .u8 0) 1 1 Tryz.underlying30 hi G F E rfl (by decide) _ _ _ rfl (World.ownsRow_made w #[] 0 (Nat.le_refl _) (Nat.zero_le _) rfl) a l.length c (byV l) rfl ?q1 ?q2 pT ?q4 ?q5 ?q6 ?_)
  case q1=>simp [mh]
  case q2=>exact fun j u hj=>uJ _ (HA.o a rfl j u hj)
  case q4=>unfold maxLen;omega
  case q5=>omega
  case q6=>simp
  intro v' w1 B A C;obtain ⟨s0,cap,rfl,_⟩:=bC B;have HO:=zh B;have HG:=zh A;clear B A C;go_wp2_with fail
  refine bodyPost_ret (v:=.slice s0 (0+l.length) cap) (by simp [results,Tryz.results30,go_sem]) rfl ⟨s0,cap,by rw [Nat.zero_add],by simpa using HO.o,?_⟩;exact ((Below.refl _ w).alloc (Nat.le_refl _) _).grown HG.o (by rw [ah];omega) (by intro k hk;simp [Value.ownBlock] at hk;omega)
end
section
open Go.RowKit
theorem jr (n:Int) (w:World):Calls Tryz.prog 108 #[.int .i64 n] w fun e w'=>e=.returned (.agg #[.int .i64 1,.int .i64 n,.slice none 0 0])∧Below w.heap.size w w':=by
 go_enter Tryz.func108,Tryz.ntmps108
 go_wp2_with fail
 exact bodyPost_ret (v:=.agg #[.int .i64 1,.int .i64 n,.slice none 0 0]) (by simp [results,Tryz.results108,go_sem]) rfl ⟨rfl,ag (Below.refl _ _) _⟩
theorem dj (n:Int) (b:Bool) (w:World):Calls Tryz.prog 209 #[.int .i64 n,.bool b] w fun e w'=>e=.returned (.tuple #[.int .i64 (if b then n else 0),.int .i64 (if b then 0 else 3)])∧w=w':=by
 go_enter Tryz.func209,Tryz.ntmps209
 cases b
 ·go_wp2_with fail
  exact bodyPost_ret (v:=.tuple #[.int .i64 0,.int .i64 3]) (by simp [results,Tryz.results209,go_sem]) rfl ⟨rfl,rfl⟩
 ·go_wp2_with fail
  exact bodyPost_ret (v:=.tuple #[.int .i64 n,.int .i64 0]) (by simp [results,Tryz.results209,go_sem]) rfl ⟨rfl,rfl⟩
theorem AL (a b:Int) (w:World):Calls Tryz.prog 215 #[.int .i64 a,.int .i64 b] w fun e w'=>e=.returned (.bool (decide (a<b)))∧w=w':=by
 go_enter Tryz.func215,Tryz.ntmps215
 go_wp2_with fail
 exact bodyPost_ret (v:=.bool (decide (a<b))) (by simp [results,Tryz.results215,go_sem]) rfl ⟨rfl,rfl⟩
theorem zC (a b:Int) (w:World):Calls Tryz.prog 216 #[.int .i64 a,.int .i64 b] w fun e w'=>e=.returned (.bool (decide (a≤b)))∧w=w':=by
 go_enter Tryz.func216,Tryz.ntmps216
 go_wp2_with fail
 exact bodyPost_ret (v:=.bool (decide (a≤b))) (by simp [results,Tryz.results216,go_sem]) rfl ⟨rfl,rfl⟩
theorem Am (a b:Int) (w:World):Calls Tryz.prog 217 #[.int .i64 a,.int .i64 b] w fun e w'=>e=.returned (.bool (decide (b<a)))∧w=w':=by
 go_enter Tryz.func217,Tryz.ntmps217
 go_wp2_with fail
 exact bodyPost_ret (v:=.bool (decide (b<a))) (by simp [results,Tryz.results217,go_sem]) rfl ⟨rfl,rfl⟩
theorem zM (a b:Int) (w:World):Calls Tryz.prog 218 #[.int .i64 a,.int .i64 b] w fun e w'=>e=.returned (.bool (decide (b≤a)))∧w=w':=by
 go_enter Tryz.func218,Tryz.ntmps218
 go_wp2_with fail
 exact bodyPost_ret (v:=.bool (decide (b≤a))) (by simp [results,Tryz.results218,go_sem]) rfl ⟨rfl,rfl⟩
theorem zU (a b:Int) (w:World):Calls Tryz.prog 219 #[.int .i64 a,.int .i64 b] w fun e w'=>e=.returned (.bool (a==b))∧w=w':=by
 go_enter Tryz.func219,Tryz.ntmps219
 go_wp2_with fail
 exact bodyPost_ret (v:=.bool (a==b)) (by simp [results,Tryz.results219,go_sem]) rfl ⟨rfl,rfl⟩
theorem AP (a b:Int) (w:World):Calls Tryz.prog 222 #[.int .i64 a,.int .i64 b] w fun e w'=>e=.returned (.bool (a !=b))∧w=w':=by
 go_enter Tryz.func222,Tryz.ntmps222
 go_wp2_with fail
 exact bodyPost_ret (v:=.bool (a !=b)) (by simp [results,Tryz.results222,go_sem]) rfl ⟨rfl,rfl⟩
theorem yh (a b:Bool) (w:World):Calls Tryz.prog 220 #[.bool a,.bool b] w fun e w'=>e=.returned (.bool (a==b))∧w=w':=by
 go_enter Tryz.func220,Tryz.ntmps220
 cases a<;>cases b
 all_goals go_wp2_with fail
 all_goals exact bodyPost_ret (v:=.bool _) (by simp [results,Tryz.results220,go_sem]) rfl ⟨rfl,rfl⟩
theorem yL (a b:Bool) (w:World):Calls Tryz.prog 223 #[.bool a,.bool b] w fun e w'=>e=.returned (.bool (a !=b))∧w=w':=by
 go_enter Tryz.func223,Tryz.ntmps223
 cases a<;>cases b
 all_goals go_wp2_with fail
 all_goals exact bodyPost_ret (v:=.bool _) (by simp [results,Tryz.results223,go_sem]) rfl ⟨rfl,rfl⟩
theorem vz (a b:Bool) (w:World):Calls Tryz.prog 225 #[.bool a,.bool b] w fun e w'=>e=.returned (.bool (a&&b))∧w=w':=by
 go_enter Tryz.func225,Tryz.ntmps225
 cases a<;>cases b
 all_goals go_wp2_with fail
 all_goals exact bodyPost_ret (v:=.bool _) (by simp [results,Tryz.results225,go_sem]) rfl ⟨rfl,rfl⟩
theorem ye (a b:Bool) (w:World):Calls Tryz.prog 226 #[.bool a,.bool b] w fun e w'=>e=.returned (.bool (a || b))∧w=w':=by
 go_enter Tryz.func226,Tryz.ntmps226
 cases a<;>cases b
 all_goals go_wp2_with fail
 all_goals exact bodyPost_ret (v:=.bool _) (by simp [results,Tryz.results226,go_sem]) rfl ⟨rfl,rfl⟩
theorem yw (a:Int) (w:World):Calls Tryz.prog 221 #[.int .i64 a] w fun e w'=>e=.returned (.bool (a==0))∧w=w':=by
 go_enter Tryz.func221,Tryz.ntmps221
 go_wp2_with fail
 exact bodyPost_ret (v:=.bool (a==0)) (by simp [results,Tryz.results221,go_sem]) rfl ⟨rfl,rfl⟩
theorem xx (a:Int) (w:World):Calls Tryz.prog 224 #[.int .i64 a] w fun e w'=>e=.returned (.bool (a !=0))∧w=w':=by
 go_enter Tryz.func224,Tryz.ntmps224
 go_wp2_with fail
 exact bodyPost_ret (v:=.bool (a !=0)) (by simp [results,Tryz.results224,go_sem]) rfl ⟨rfl,rfl⟩
theorem wT (a b:Int) (w:World):Calls Tryz.prog 208 #[.int .i64 a,.int .i64 b] w fun e w'=>e=.returned (.tuple #[.int .i64 (if (decide (a≤wrap64 (a+b))==decide (0≤b)) then wrap64 (a+b) else 0),.int .i64 (if (decide (a≤wrap64 (a+b))==decide (0≤b)) then 0 else 3)])∧w=w':=by
 by_cases hc:(decide (a≤wrap64 (a+b))==decide (0≤b))=true
 ·have A:Hd (Calls Tryz.prog 209 #[.int .i64 (wrap64 (a+b)),.bool (decide (a≤wrap64 (a+b))==decide (0≤b))] w fun e w'=>e=.returned (.tuple #[.int .i64 (wrap64 (a+b)),.int .i64 0])∧w=w'):=zh (by
    have q:=dj (wrap64 (a+b)) (decide (a≤wrap64 (a+b))==decide (0≤b)) w;rw [if_pos hc,if_pos hc] at q;exact q)
  rw [if_pos hc,if_pos hc];clear hc;go_enter Tryz.func208,Tryz.ntmps208
  go_wp2_with fail
  refine A.o.mono ?_;rintro e w' ⟨rfl,rfl⟩;go_wp2_with fail
  exact bodyPost_ret (v:=.tuple #[.int .i64 (wrap64 (a+b)),.int .i64 0]) (by simp [results,Tryz.results208,go_sem]) rfl ⟨rfl,rfl⟩
 ·have A:Hd (Calls Tryz.prog 209 #[.int .i64 (wrap64 (a+b)),.bool (decide (a≤wrap64 (a+b))==decide (0≤b))] w fun e w'=>e=.returned (.tuple #[.int .i64 0,.int .i64 3])∧w=w'):=zh (by
    have q:=dj (wrap64 (a+b)) (decide (a≤wrap64 (a+b))==decide (0≤b)) w;rw [if_neg hc,if_neg hc] at q;exact q)
  rw [if_neg hc,if_neg hc];clear hc;go_enter Tryz.func208,Tryz.ntmps208
  go_wp2_with fail
  refine A.o.mono ?_;rintro e w' ⟨rfl,rfl⟩;go_wp2_with fail
  exact bodyPost_ret (v:=.tuple #[.int .i64 0,.int .i64 3]) (by simp [results,Tryz.results208,go_sem]) rfl ⟨rfl,rfl⟩
theorem yd (a b:Int) (w:World):Calls Tryz.prog 210 #[.int .i64 a,.int .i64 b] w fun e w'=>e=.returned (.tuple #[.int .i64 (if (decide (wrap64 (a-b)≤a)==decide (0≤b)) then wrap64 (a-b) else 0),.int .i64 (if (decide (wrap64 (a-b)≤a)==decide (0≤b)) then 0 else 3)])∧w=w':=by
 by_cases hc:(decide (wrap64 (a-b)≤a)==decide (0≤b))=true
 ·have A:Hd (Calls Tryz.prog 209 #[.int .i64 (wrap64 (a-b)),.bool (decide (wrap64 (a-b)≤a)==decide (0≤b))] w fun e w'=>e=.returned (.tuple #[.int .i64 (wrap64 (a-b)),.int .i64 0])∧w=w'):=zh (by
    have q:=dj (wrap64 (a-b)) (decide (wrap64 (a-b)≤a)==decide (0≤b)) w;rw [if_pos hc,if_pos hc] at q;exact q)
  rw [if_pos hc,if_pos hc];clear hc;go_enter Tryz.func210,Tryz.ntmps210
  go_wp2_with fail
  refine A.o.mono ?_;rintro e w' ⟨rfl,rfl⟩;go_wp2_with fail
  exact bodyPost_ret (v:=.tuple #[.int .i64 (wrap64 (a-b)),.int .i64 0]) (by simp [results,Tryz.results210,go_sem]) rfl ⟨rfl,rfl⟩
 ·have A:Hd (Calls Tryz.prog 209 #[.int .i64 (wrap64 (a-b)),.bool (decide (wrap64 (a-b)≤a)==decide (0≤b))] w fun e w'=>e=.returned (.tuple #[.int .i64 0,.int .i64 3])∧w=w'):=zh (by
    have q:=dj (wrap64 (a-b)) (decide (wrap64 (a-b)≤a)==decide (0≤b)) w;rw [if_neg hc,if_neg hc] at q;exact q)
  rw [if_neg hc,if_neg hc];clear hc;go_enter Tryz.func210,Tryz.ntmps210
  go_wp2_with fail
  refine A.o.mono ?_;rintro e w' ⟨rfl,rfl⟩;go_wp2_with fail
  exact bodyPost_ret (v:=.tuple #[.int .i64 0,.int .i64 3]) (by simp [results,Tryz.results210,go_sem]) rfl ⟨rfl,rfl⟩
end
section
open Go.RowKit
theorem xX (a b:Int) (w:World) (hb:b≠0):Calls Tryz.prog 213 #[.int .i64 a,.int .i64 b] w fun e w'=>e=.returned (.int .i64 (wrap64 (a.tdiv b)))∧w=w':=by
 go_enter Tryz.func213,Tryz.ntmps213
 go_wp2_with fail
 exact bodyPost_ret (v:=.int .i64 (wrap64 (a.tdiv b))) (by simp [results,Tryz.results213,go_sem]) rfl ⟨rfl,rfl⟩
theorem yR (a b:Int) (w:World) (hb:b≠0):Calls Tryz.prog 214 #[.int .i64 a,.int .i64 b] w fun e w'=>e=.returned (.int .i64 (a.tmod b))∧w=w':=by
 go_enter Tryz.func214,Tryz.ntmps214
 go_wp2_with fail
 exact bodyPost_ret (v:=.int .i64 (a.tmod b)) (by simp [results,Tryz.results214,go_sem]) rfl ⟨rfl,rfl⟩
theorem oI (a:Int) (w:World) (ha:aY a):Calls Tryz.prog 227 #[.int .i64 a] w fun e w'=>e=.returned (.int .u64 (a.natAbs:Int))∧w=w':=by
 unfold aY at ha;go_enter Tryz.func227,Tryz.ntmps227
 by_cases h:a<0
 ·have e1:IntKind.u64.wrap a=a+18446744073709551616:=by rw [IntKind.wrap_u64];omega
  have e2:IntKind.u64.wrap (-(a+18446744073709551616))=(a.natAbs:Int):=by rw [IntKind.wrap_u64];omega
  go_wp2_with fail
  exact bodyPost_ret (v:=.int .u64 (a.natAbs:Int)) (by simp [results,Tryz.results227,go_sem]) rfl ⟨rfl,rfl⟩
 ·have e1:IntKind.u64.wrap a=(a.natAbs:Int):=by rw [IntKind.wrap_u64];omega
  go_wp2_with fail
  exact bodyPost_ret (v:=.int .u64 (a.natAbs:Int)) (by simp [results,Tryz.results227,go_sem]) rfl ⟨rfl,rfl⟩
end
section
open Go.RowKit
theorem vM (a b:Int) (bx:Nat) (w:World) (B:w.cell? ⟨bx,0,none⟩=some (.func (.func 213) #[] #[])):Calls Tryz.prog 229 #[.int .i64 a,.int .i64 b,.pointer (some ⟨bx,0,none⟩)] w fun e w' =>
    e=.returned (.tuple #[.int .i64 (if b=0 then 0 else if a=-9223372036854775808∧b=-1 then 0 else wrap64 (a.tdiv b)),.int .i64 (if b=0 then 2 else if a=-9223372036854775808∧b=-1 then 3 else 0)])∧w=w':=by
 have HD:=zh (fun hb=>xX a b w hb);have A:∀args W,Sem.run Tryz.prog (callFunc 213 args) W=.ok (.enter 213 args) W:=fun _ _=>Tryz.call213 _ _;by_cases h0:b=0
 ·subst h0
  simp only [if_true]
  go_enter Tryz.func229,Tryz.ntmps229
  go_wp2_with fail
  exact bodyPost_ret (v:=.tuple #[.int .i64 0,.int .i64 2]) (by simp [results,Tryz.results229,go_sem]) rfl ⟨rfl,rfl⟩
 ·simp only [if_neg h0]
  by_cases h1:a=-9223372036854775808∧b=-1
  ·simp only [if_pos h1]
   obtain ⟨rfl,rfl⟩:=h1;clear HD h0;go_enter Tryz.func229,Tryz.ntmps229
   go_wp2_with fail
   exact bodyPost_ret (v:=.tuple #[.int .i64 0,.int .i64 3]) (by simp [results,Tryz.results229,go_sem]) rfl ⟨rfl,rfl⟩
  ·simp only [if_neg h1]
   by_cases h2:a=-9223372036854775808
   ·have h3:¬b=-1:=fun h=>h1 ⟨h2,h⟩
    subst h2;go_enter Tryz.func229,Tryz.ntmps229
    go_wp2_with fail
    refine (HD.o h0).mono ?_;rintro e w' ⟨rfl,rfl⟩;go_wp2_with fail
    exact bodyPost_ret (v:=.tuple #[.int .i64 (wrap64 (Int.tdiv (-9223372036854775808) b)),.int .i64 0]) (by simp [results,Tryz.results229,go_sem]) rfl ⟨rfl,rfl⟩
   ·go_enter Tryz.func229,Tryz.ntmps229
    go_wp2_with fail
    refine (HD.o h0).mono ?_;rintro e w' ⟨rfl,rfl⟩;go_wp2_with fail
    exact bodyPost_ret (v:=.tuple #[.int .i64 (wrap64 (a.tdiv b)),.int .i64 0]) (by simp [results,Tryz.results229,go_sem]) rfl ⟨rfl,rfl⟩
theorem vh (a b:Int) (bx:Nat) (w:World) (B:w.cell? ⟨bx,0,none⟩=some (.func (.func 214) #[] #[])):Calls Tryz.prog 229 #[.int .i64 a,.int .i64 b,.pointer (some ⟨bx,0,none⟩)] w fun e w' =>
    e=.returned (.tuple #[.int .i64 (if b=0 then 0 else if a=-9223372036854775808∧b=-1 then 0 else a.tmod b),.int .i64 (if b=0 then 2 else if a=-9223372036854775808∧b=-1 then 3 else 0)])∧w=w':=by
 have HD:=zh (fun hb=>yR a b w hb);have A:∀args W,Sem.run Tryz.prog (callFunc 214 args) W=.ok (.enter 214 args) W:=fun _ _=>Tryz.call214 _ _;by_cases h0:b=0
 ·subst h0
  simp only [if_true]
  go_enter Tryz.func229,Tryz.ntmps229
  go_wp2_with fail
  exact bodyPost_ret (v:=.tuple #[.int .i64 0,.int .i64 2]) (by simp [results,Tryz.results229,go_sem]) rfl ⟨rfl,rfl⟩
 ·simp only [if_neg h0]
  by_cases h1:a=-9223372036854775808∧b=-1
  ·simp only [if_pos h1]
   obtain ⟨rfl,rfl⟩:=h1;clear HD h0;go_enter Tryz.func229,Tryz.ntmps229
   go_wp2_with fail
   exact bodyPost_ret (v:=.tuple #[.int .i64 0,.int .i64 3]) (by simp [results,Tryz.results229,go_sem]) rfl ⟨rfl,rfl⟩
  ·simp only [if_neg h1]
   by_cases h2:a=-9223372036854775808
   ·have h3:¬b=-1:=fun h=>h1 ⟨h2,h⟩
    subst h2;go_enter Tryz.func229,Tryz.ntmps229
    go_wp2_with fail
    refine (HD.o h0).mono ?_;rintro e w' ⟨rfl,rfl⟩;go_wp2_with fail
    exact bodyPost_ret (v:=.tuple #[.int .i64 (Int.tmod (-9223372036854775808) b),.int .i64 0]) (by simp [results,Tryz.results229,go_sem]) rfl ⟨rfl,rfl⟩
   ·go_enter Tryz.func229,Tryz.ntmps229
    go_wp2_with fail
    refine (HD.o h0).mono ?_;rintro e w' ⟨rfl,rfl⟩;go_wp2_with fail
    exact bodyPost_ret (v:=.tuple #[.int .i64 (a.tmod b),.int .i64 0]) (by simp [results,Tryz.results229,go_sem]) rfl ⟨rfl,rfl⟩
end
section
open Go.RowKit
attribute [local go_sem ↓] Go.wp_at_zero Go.wp_at_succ
theorem pf (k:Nat) (w:World):Calls Tryz.prog 212 #[.func (.func k) #[] #[]] w fun e w'=>e=.returned (.func (.func 229) #[] #[.pointer (some ⟨w.heap.size,0,none⟩)])∧w'=w.alloc (.cells #[.func (.func k) #[] #[]] 262):=by
 go_enter Tryz.func212,Tryz.ntmps212
 go_wp2_with fail
 exact bodyPost_ret (v:=.func (.func 229) #[] #[.pointer (some ⟨w.heap.size,0,none⟩)]) (by simp [results,Tryz.results212,go_sem]) rfl ⟨rfl,rfl⟩
def fnV (k:Nat):Value:=.func (.func k) #[] #[]
theorem yx (w:World):Calls Tryz.prog 205 #[.string ⟨#[43]⟩] w fun e w'=>e=.returned (.agg #[(fnV 208),.nilFunc,.nilFunc,.nilFunc])∧Below w.heap.size w w':=by
 have hz:=aj w (.cells #[.nilFunc,.nilFunc,.nilFunc,.nilFunc] 257) w.heap.size rfl;have n0:=aa hz (j:=0) (u:=.nilFunc) rfl;have n1:=aa hz (j:=1) (u:=.nilFunc) rfl;have n2:=aa hz (j:=2) (u:=.nilFunc) rfl;have n3:=aa hz (j:=3) (u:=.nilFunc) rfl;have z0:=ae hz 0;have z1:=ae hz 1;have z2:=ae hz 2;have z3:=ae hz 3;clear hz;unfold fnV;go_enter Tryz.func205,Tryz.ntmps205
 go_wp2_with fail
 refine bodyPost_ret (v:=(.agg #[(fnV 208),.nilFunc,.nilFunc,.nilFunc]:Value)) (by unfold fnV;simp [results,Tryz.results205,go_sem]) rfl ⟨rfl,?_⟩;repeat (first | exact Below.refl _ _ | refine Below.setCell ?_ (Nat.le_refl _) _ | refine Below.alloc ?_ (Nat.le_refl _) _)
theorem vB (w:World):Calls Tryz.prog 205 #[.string ⟨#[45]⟩] w fun e w'=>e=.returned (.agg #[(fnV 210),.nilFunc,.nilFunc,.nilFunc])∧Below w.heap.size w w':=by
 have hz:=aj w (.cells #[.nilFunc,.nilFunc,.nilFunc,.nilFunc] 257) w.heap.size rfl;have n0:=aa hz (j:=0) (u:=.nilFunc) rfl;have n1:=aa hz (j:=1) (u:=.nilFunc) rfl;have n2:=aa hz (j:=2) (u:=.nilFunc) rfl;have n3:=aa hz (j:=3) (u:=.nilFunc) rfl;have z0:=ae hz 0;have z1:=ae hz 1;have z2:=ae hz 2;have z3:=ae hz 3;clear hz;unfold fnV;go_enter Tryz.func205,Tryz.ntmps205
 go_wp2_with fail
 refine bodyPost_ret (v:=(.agg #[(fnV 210),.nilFunc,.nilFunc,.nilFunc]:Value)) (by unfold fnV;simp [results,Tryz.results205,go_sem]) rfl ⟨rfl,?_⟩;repeat (first | exact Below.refl _ _ | refine Below.setCell ?_ (Nat.le_refl _) _ | refine Below.alloc ?_ (Nat.le_refl _) _)
theorem yv (w:World):Calls Tryz.prog 205 #[.string ⟨#[42]⟩] w fun e w'=>e=.returned (.agg #[(fnV 211),.nilFunc,.nilFunc,.nilFunc])∧Below w.heap.size w w':=by
 have hz:=aj w (.cells #[.nilFunc,.nilFunc,.nilFunc,.nilFunc] 257) w.heap.size rfl;have n0:=aa hz (j:=0) (u:=.nilFunc) rfl;have n1:=aa hz (j:=1) (u:=.nilFunc) rfl;have n2:=aa hz (j:=2) (u:=.nilFunc) rfl;have n3:=aa hz (j:=3) (u:=.nilFunc) rfl;have z0:=ae hz 0;have z1:=ae hz 1;have z2:=ae hz 2;have z3:=ae hz 3;clear hz;unfold fnV;go_enter Tryz.func205,Tryz.ntmps205
 go_wp2_with fail
 refine bodyPost_ret (v:=(.agg #[(fnV 211),.nilFunc,.nilFunc,.nilFunc]:Value)) (by unfold fnV;simp [results,Tryz.results205,go_sem]) rfl ⟨rfl,?_⟩;repeat (first | exact Below.refl _ _ | refine Below.setCell ?_ (Nat.le_refl _) _ | refine Below.alloc ?_ (Nat.le_refl _) _)
theorem Cr (w:World):Calls Tryz.prog 205 #[.string ⟨#[60]⟩] w fun e w'=>e=.returned (.agg #[.nilFunc,(fnV 215),.nilFunc,.nilFunc])∧Below w.heap.size w w':=by
 have hz:=aj w (.cells #[.nilFunc,.nilFunc,.nilFunc,.nilFunc] 257) w.heap.size rfl;have n0:=aa hz (j:=0) (u:=.nilFunc) rfl;have n1:=aa hz (j:=1) (u:=.nilFunc) rfl;have n2:=aa hz (j:=2) (u:=.nilFunc) rfl;have n3:=aa hz (j:=3) (u:=.nilFunc) rfl;have z0:=ae hz 0;have z1:=ae hz 1;have z2:=ae hz 2;have z3:=ae hz 3;clear hz;unfold fnV;go_enter Tryz.func205,Tryz.ntmps205
 go_wp2_with fail
 refine bodyPost_ret (v:=(.agg #[.nilFunc,(fnV 215),.nilFunc,.nilFunc]:Value)) (by unfold fnV;simp [results,Tryz.results205,go_sem]) rfl ⟨rfl,?_⟩;repeat (first | exact Below.refl _ _ | refine Below.setCell ?_ (Nat.le_refl _) _ | refine Below.alloc ?_ (Nat.le_refl _) _)
theorem BZ (w:World):Calls Tryz.prog 205 #[.string ⟨#[60,61]⟩] w fun e w'=>e=.returned (.agg #[.nilFunc,(fnV 216),.nilFunc,.nilFunc])∧Below w.heap.size w w':=by
 have hz:=aj w (.cells #[.nilFunc,.nilFunc,.nilFunc,.nilFunc] 257) w.heap.size rfl;have n0:=aa hz (j:=0) (u:=.nilFunc) rfl;have n1:=aa hz (j:=1) (u:=.nilFunc) rfl;have n2:=aa hz (j:=2) (u:=.nilFunc) rfl;have n3:=aa hz (j:=3) (u:=.nilFunc) rfl;have z0:=ae hz 0;have z1:=ae hz 1;have z2:=ae hz 2;have z3:=ae hz 3;clear hz;unfold fnV;go_enter Tryz.func205,Tryz.ntmps205
 go_wp2_with fail
 refine bodyPost_ret (v:=(.agg #[.nilFunc,(fnV 216),.nilFunc,.nilFunc]:Value)) (by unfold fnV;simp [results,Tryz.results205,go_sem]) rfl ⟨rfl,?_⟩;repeat (first | exact Below.refl _ _ | refine Below.setCell ?_ (Nat.le_refl _) _ | refine Below.alloc ?_ (Nat.le_refl _) _)
theorem CL (w:World):Calls Tryz.prog 205 #[.string ⟨#[62]⟩] w fun e w'=>e=.returned (.agg #[.nilFunc,(fnV 217),.nilFunc,.nilFunc])∧Below w.heap.size w w':=by
 have hz:=aj w (.cells #[.nilFunc,.nilFunc,.nilFunc,.nilFunc] 257) w.heap.size rfl;have n0:=aa hz (j:=0) (u:=.nilFunc) rfl;have n1:=aa hz (j:=1) (u:=.nilFunc) rfl;have n2:=aa hz (j:=2) (u:=.nilFunc) rfl;have n3:=aa hz (j:=3) (u:=.nilFunc) rfl;have z0:=ae hz 0;have z1:=ae hz 1;have z2:=ae hz 2;have z3:=ae hz 3;clear hz;unfold fnV;go_enter Tryz.func205,Tryz.ntmps205
 go_wp2_with fail
 refine bodyPost_ret (v:=(.agg #[.nilFunc,(fnV 217),.nilFunc,.nilFunc]:Value)) (by unfold fnV;simp [results,Tryz.results205,go_sem]) rfl ⟨rfl,?_⟩;repeat (first | exact Below.refl _ _ | refine Below.setCell ?_ (Nat.le_refl _) _ | refine Below.alloc ?_ (Nat.le_refl _) _)
theorem CN (w:World):Calls Tryz.prog 205 #[.string ⟨#[62,61]⟩] w fun e w'=>e=.returned (.agg #[.nilFunc,(fnV 218),.nilFunc,.nilFunc])∧Below w.heap.size w w':=by
 have hz:=aj w (.cells #[.nilFunc,.nilFunc,.nilFunc,.nilFunc] 257) w.heap.size rfl;have n0:=aa hz (j:=0) (u:=.nilFunc) rfl;have n1:=aa hz (j:=1) (u:=.nilFunc) rfl;have n2:=aa hz (j:=2) (u:=.nilFunc) rfl;have n3:=aa hz (j:=3) (u:=.nilFunc) rfl;have z0:=ae hz 0;have z1:=ae hz 1;have z2:=ae hz 2;have z3:=ae hz 3;clear hz;unfold fnV;go_enter Tryz.func205,Tryz.ntmps205
 go_wp2_with fail
 refine bodyPost_ret (v:=(.agg #[.nilFunc,(fnV 218),.nilFunc,.nilFunc]:Value)) (by unfold fnV;simp [results,Tryz.results205,go_sem]) rfl ⟨rfl,?_⟩;repeat (first | exact Below.refl _ _ | refine Below.setCell ?_ (Nat.le_refl _) _ | refine Below.alloc ?_ (Nat.le_refl _) _)
theorem BT (w:World):Calls Tryz.prog 205 #[.string ⟨#[61,61]⟩] w fun e w'=>e=.returned (.agg #[.nilFunc,(fnV 219),(fnV 220),(fnV 221)])∧Below w.heap.size w w':=by
 have hz:=aj w (.cells #[.nilFunc,.nilFunc,.nilFunc,.nilFunc] 257) w.heap.size rfl;have n0:=aa hz (j:=0) (u:=.nilFunc) rfl;have n1:=aa hz (j:=1) (u:=.nilFunc) rfl;have n2:=aa hz (j:=2) (u:=.nilFunc) rfl;have n3:=aa hz (j:=3) (u:=.nilFunc) rfl;have z0:=ae hz 0;have z1:=ae hz 1;have z2:=ae hz 2;have z3:=ae hz 3;clear hz;unfold fnV;go_enter Tryz.func205,Tryz.ntmps205
 go_wp2_with fail
 refine bodyPost_ret (v:=(.agg #[.nilFunc,(fnV 219),(fnV 220),(fnV 221)]:Value)) (by unfold fnV;simp [results,Tryz.results205,go_sem]) rfl ⟨rfl,?_⟩;repeat (first | exact Below.refl _ _ | refine Below.setCell ?_ (Nat.le_refl _) _ | refine Below.alloc ?_ (Nat.le_refl _) _)
theorem Ck (w:World):Calls Tryz.prog 205 #[.string ⟨#[33,61]⟩] w fun e w'=>e=.returned (.agg #[.nilFunc,(fnV 222),(fnV 223),(fnV 224)])∧Below w.heap.size w w':=by
 have hz:=aj w (.cells #[.nilFunc,.nilFunc,.nilFunc,.nilFunc] 257) w.heap.size rfl;have n0:=aa hz (j:=0) (u:=.nilFunc) rfl;have n1:=aa hz (j:=1) (u:=.nilFunc) rfl;have n2:=aa hz (j:=2) (u:=.nilFunc) rfl;have n3:=aa hz (j:=3) (u:=.nilFunc) rfl;have z0:=ae hz 0;have z1:=ae hz 1;have z2:=ae hz 2;have z3:=ae hz 3;clear hz;unfold fnV;go_enter Tryz.func205,Tryz.ntmps205
 go_wp2_with fail
 refine bodyPost_ret (v:=(.agg #[.nilFunc,(fnV 222),(fnV 223),(fnV 224)]:Value)) (by unfold fnV;simp [results,Tryz.results205,go_sem]) rfl ⟨rfl,?_⟩;repeat (first | exact Below.refl _ _ | refine Below.setCell ?_ (Nat.le_refl _) _ | refine Below.alloc ?_ (Nat.le_refl _) _)
theorem AZ (w:World):Calls Tryz.prog 205 #[.string ⟨#[38,38]⟩] w fun e w'=>e=.returned (.agg #[.nilFunc,.nilFunc,(fnV 225),.nilFunc])∧Below w.heap.size w w':=by
 have hz:=aj w (.cells #[.nilFunc,.nilFunc,.nilFunc,.nilFunc] 257) w.heap.size rfl;have n0:=aa hz (j:=0) (u:=.nilFunc) rfl;have n1:=aa hz (j:=1) (u:=.nilFunc) rfl;have n2:=aa hz (j:=2) (u:=.nilFunc) rfl;have n3:=aa hz (j:=3) (u:=.nilFunc) rfl;have z0:=ae hz 0;have z1:=ae hz 1;have z2:=ae hz 2;have z3:=ae hz 3;clear hz;unfold fnV;go_enter Tryz.func205,Tryz.ntmps205
 go_wp2_with fail
 refine bodyPost_ret (v:=(.agg #[.nilFunc,.nilFunc,(fnV 225),.nilFunc]:Value)) (by unfold fnV;simp [results,Tryz.results205,go_sem]) rfl ⟨rfl,?_⟩;repeat (first | exact Below.refl _ _ | refine Below.setCell ?_ (Nat.le_refl _) _ | refine Below.alloc ?_ (Nat.le_refl _) _)
theorem Cz (w:World):Calls Tryz.prog 205 #[.string ⟨#[124,124]⟩] w fun e w'=>e=.returned (.agg #[.nilFunc,.nilFunc,(fnV 226),.nilFunc])∧Below w.heap.size w w':=by
 have hz:=aj w (.cells #[.nilFunc,.nilFunc,.nilFunc,.nilFunc] 257) w.heap.size rfl;have n0:=aa hz (j:=0) (u:=.nilFunc) rfl;have n1:=aa hz (j:=1) (u:=.nilFunc) rfl;have n2:=aa hz (j:=2) (u:=.nilFunc) rfl;have n3:=aa hz (j:=3) (u:=.nilFunc) rfl;have z0:=ae hz 0;have z1:=ae hz 1;have z2:=ae hz 2;have z3:=ae hz 3;clear hz;unfold fnV;go_enter Tryz.func205,Tryz.ntmps205
 go_wp2_with fail
 refine bodyPost_ret (v:=(.agg #[.nilFunc,.nilFunc,(fnV 226),.nilFunc]:Value)) (by unfold fnV;simp [results,Tryz.results205,go_sem]) rfl ⟨rfl,?_⟩;repeat (first | exact Below.refl _ _ | refine Below.setCell ?_ (Nat.le_refl _) _ | refine Below.alloc ?_ (Nat.le_refl _) _)
theorem At (w:World):Calls Tryz.prog 205 #[.string ⟨#[47]⟩] w fun e w'=>e=.returned (.agg #[.func (.func 229) #[] #[.pointer (some ⟨w.heap.size+1,0,none⟩)],.nilFunc,.nilFunc,.nilFunc])∧Below w.heap.size w w'∧w'.heap[w.heap.size+1]?=some (.cells #[fnV 213] 262 (0,0)):=by
 have hz:=aj w (.cells #[.nilFunc,.nilFunc,.nilFunc,.nilFunc] 257) w.heap.size rfl;have n0:=aa hz (j:=0) (u:=.nilFunc) rfl;have n1:=aa hz (j:=1) (u:=.nilFunc) rfl;have n2:=aa hz (j:=2) (u:=.nilFunc) rfl;have n3:=aa hz (j:=3) (u:=.nilFunc) rfl;have z0:=ae hz 0;have z1:=ae hz 1;have z2:=ae hz 2;have z3:=ae hz 3;clear hz;have HP:=zh (pf 213 (w.alloc (.cells #[.nilFunc,.nilFunc,.nilFunc,.nilFunc] 257)));unfold fnV;go_enter Tryz.func205,Tryz.ntmps205
 go_wp2_with fail
 refine HP.o.mono ?_;rintro e w1 ⟨rfl,rfl⟩;have hz:=ax _ _ (.cells #[.func (.func 213) #[] #[]] 262) _ (aj w (.cells #[.nilFunc,.nilFunc,.nilFunc,.nilFunc] 257) w.heap.size rfl);have m0:=aa hz (j:=0) (u:=.nilFunc) rfl;have m1:=aa hz (j:=1) (u:=.nilFunc) rfl;have m2:=aa hz (j:=2) (u:=.nilFunc) rfl;have m3:=aa hz (j:=3) (u:=.nilFunc) rfl;have y0:=ae hz 0;have y1:=ae hz 1;have y2:=ae hz 2;have y3:=ae hz 3;clear hz n0 n1 n2 n3 z0 z1 z2 z3;go_wp2_with fail
 refine bodyPost_ret (v:=(.agg #[.func (.func 229) #[] #[.pointer (some ⟨w.heap.size+1,0,none⟩)],.nilFunc,.nilFunc,.nilFunc]:Value)) (by simp [results,Tryz.results205,go_sem]) rfl ⟨rfl,?_,?_⟩
 ·repeat (first | exact Below.refl _ _ | refine dk ?_ (Nat.le_refl _) _ | refine ag ?_ _)
 ·repeat rw [ak _ _ _ _ (by show w.heap.size+1≠w.heap.size;omega)]
  exact aj _ _ _ (ah _ _)
theorem Ad (w:World):Calls Tryz.prog 205 #[.string ⟨#[37]⟩] w fun e w'=>e=.returned (.agg #[.func (.func 229) #[] #[.pointer (some ⟨w.heap.size+1,0,none⟩)],.nilFunc,.nilFunc,.nilFunc])∧Below w.heap.size w w'∧w'.heap[w.heap.size+1]?=some (.cells #[fnV 214] 262 (0,0)):=by
 have hz:=aj w (.cells #[.nilFunc,.nilFunc,.nilFunc,.nilFunc] 257) w.heap.size rfl;have n0:=aa hz (j:=0) (u:=.nilFunc) rfl;have n1:=aa hz (j:=1) (u:=.nilFunc) rfl;have n2:=aa hz (j:=2) (u:=.nilFunc) rfl;have n3:=aa hz (j:=3) (u:=.nilFunc) rfl;have z0:=ae hz 0;have z1:=ae hz 1;have z2:=ae hz 2;have z3:=ae hz 3;clear hz;have HP:=zh (pf 214 (w.alloc (.cells #[.nilFunc,.nilFunc,.nilFunc,.nilFunc] 257)));unfold fnV;go_enter Tryz.func205,Tryz.ntmps205
 go_wp2_with fail
 refine HP.o.mono ?_;rintro e w1 ⟨rfl,rfl⟩;have hz:=ax _ _ (.cells #[.func (.func 214) #[] #[]] 262) _ (aj w (.cells #[.nilFunc,.nilFunc,.nilFunc,.nilFunc] 257) w.heap.size rfl);have m0:=aa hz (j:=0) (u:=.nilFunc) rfl;have m1:=aa hz (j:=1) (u:=.nilFunc) rfl;have m2:=aa hz (j:=2) (u:=.nilFunc) rfl;have m3:=aa hz (j:=3) (u:=.nilFunc) rfl;have y0:=ae hz 0;have y1:=ae hz 1;have y2:=ae hz 2;have y3:=ae hz 3;clear hz n0 n1 n2 n3 z0 z1 z2 z3;go_wp2_with fail
 refine bodyPost_ret (v:=(.agg #[.func (.func 229) #[] #[.pointer (some ⟨w.heap.size+1,0,none⟩)],.nilFunc,.nilFunc,.nilFunc]:Value)) (by simp [results,Tryz.results205,go_sem]) rfl ⟨rfl,?_,?_⟩
 ·repeat (first | exact Below.refl _ _ | refine dk ?_ (Nat.le_refl _) _ | refine ag ?_ _)
 ·repeat rw [ak _ _ _ _ (by show w.heap.size+1≠w.heap.size;omega)]
  exact aj _ _ _ (ah _ _)
end
section
open Go.RowKit
attribute [local go_sem ↓] Go.wp_at_zero Go.wp_at_succ
def VvAt (S:Nat→Prop) (w:World) (v:Value) (x:Vv):Prop:=∃p c,v=.agg #[.int .i64 x.ty,.int .i64 x.num,.slice p x.text.length c]∧TxtAt S w (.slice p x.text.length c) x.text
def nb (b:Bool):Int:=if b then 1 else 0
structure OkV (x:Vv):Prop where
 num:aY x.num
 text:x.text.length≤256
section
variable {S S':Nat→Prop} {w w':World} {v:Value} {x:Vv}
theorem VvAt.keep (h:VvAt S w v x) (hk:Stays S w w'):VvAt S w' v x:=by
 obtain ⟨p,c,e,q⟩:=h;exact ⟨p,c,e,q.keep hk⟩
theorem VvAt.mono (h:VvAt S w v x) (hb:∀b,S b→S' b):VvAt S' w v x:=by
 obtain ⟨p,c,e,q⟩:=h;exact ⟨p,c,e,q.mono hb⟩
theorem VvAt.num {n:Int}:VvAt S w (.agg #[.int .i64 1,.int .i64 n,.slice none 0 0]) (aB n):=⟨none,0,rfl,TxtAt.nil _ _⟩
theorem VvAt.no:VvAt S w (.agg #[.int .i64 0,.int .i64 0,.slice none 0 0]) noV:=⟨none,0,rfl,TxtAt.nil _ _⟩
theorem VvAt.bool {b:Bool}:VvAt S w (.agg #[.int .i64 2,.int .i64 (nb b),.slice none 0 0]) (a8 b):=⟨none,0,rfl,TxtAt.nil _ _⟩
theorem VvAt.text {p:Option Addr} {c:Nat} {l:List UInt8} (h:TxtAt S w (.slice p l.length c) l):VvAt S w (.agg #[.int .i64 3,.int .i64 0,.slice p l.length c]) (aH l):=⟨p,c,rfl,h⟩
end
theorem bP {w:World} {k:Nat} {x y z:Value} {t:TypeId} (h:w.heap[k]?=some (.cells #[x,y,z] t (0,0))) (a b c:Value) :
    (((w.setCell ⟨k,0,none⟩ a).setCell ⟨k,1,none⟩ b).setCell ⟨k,2,none⟩ c).cell? ⟨k,0,none⟩=some a∧(((w.setCell ⟨k,0,none⟩ a).setCell ⟨k,1,none⟩ b).setCell ⟨k,2,none⟩ c).cell? ⟨k,1,none⟩=some b∧(((w.setCell ⟨k,0,none⟩ a).setCell ⟨k,1,none⟩ b).setCell ⟨k,2,none⟩ c).cell? ⟨k,2,none⟩=some c:=by
 have h3:=au (au (au h 0 a) 1 b) 2 c;exact ⟨aa h3 rfl,aa h3 rfl,aa h3 rfl⟩
theorem aJ {w0 w:World} {k:Nat} (h:Below w0.heap.size w0 w) (hk:w0.heap.size≤k) (a b c:Value):Below w0.heap.size w0 (((w.setCell ⟨k,0,none⟩ a).setCell ⟨k,1,none⟩ b).setCell ⟨k,2,none⟩ c):=dk (dk (dk h hk a) hk b) hk c
theorem fS {S:Nat→Prop} {w:World} {k:Nat} (hk:¬S k) (a b c:Value):Stays S w (((w.setCell ⟨k,0,none⟩ a).setCell ⟨k,1,none⟩ b).setCell ⟨k,2,none⟩ c):=Stays.of_ne ((((On.refl k w).set 0 a).set 1 b).set 2 c) hk
theorem eD (b:Bool) (w:World):Calls Tryz.prog 177 #[.bool b] w fun e w'=>e=.returned (.agg #[.int .i64 2,.int .i64 (nb b),.slice none 0 0])∧Below w.heap.size w w':=by
 go_enter Tryz.func177,Tryz.ntmps177
 cases b
 ·go_wp2_with fail
  exact bodyPost_ret (v:=.agg #[.int .i64 2,.int .i64 0,.slice none 0 0]) (by simp [results,Tryz.results177,go_sem]) rfl ⟨rfl,ag (ag (Below.refl _ _) _) _⟩
 ·go_wp2_with fail
  exact bodyPost_ret (v:=.agg #[.int .i64 2,.int .i64 1,.slice none 0 0]) (by simp [results,Tryz.results177,go_sem]) rfl ⟨rfl,ag (ag (Below.refl _ _) _) _⟩
theorem lF {S:Nat→Prop} {v:Value} {l:List UInt8} (w:World) (h:TxtAt S w v l) (hl:l.length≤100000):Calls Tryz.prog 178 #[v] w fun e w'=>∃v',e=.returned v'∧VvAt (U8 w.heap.size w') w' v' (aH l)∧Below w.heap.size w w':=by
 have B:Below w.heap.size w (w.alloc (.cells #[.int .i64 0,.int .i64 0,.slice none 0 0] 35)):=ag (Below.refl _ _) _;have HC:=zh (cf _ (h.below B) hl);have hz:=aj w (.cells #[.int .i64 0,.int .i64 0,.slice none 0 0] 35) w.heap.size rfl;obtain ⟨p,c,rfl,_⟩:=h.form;clear h;go_enter Tryz.func178,Tryz.ntmps178
 go_wp2_with fail
 refine HC.o.mono ?_;rintro e w1 ⟨p1,c1,rfl,ho,hb⟩;have A:=(hb.block w.heap.size (by rw [ah];omega)).trans hz;have n0:=aa A (j:=0) (u:=.int .i64 0) rfl;have n1:=aa A (j:=1) (u:=.int .i64 0) rfl;have n2:=aa A (j:=2) (u:=.slice none 0 0) rfl;have z0:=ae A 0;have z1:=ae A 1;have z2:=ae A 2;have HO:=zh ho;have HB:=zh (B.trans (hb.mono (by rw [ah];omega)));have HZ:=zh A;clear ho hb hz A B;go_wp2_with fail
 obtain ⟨c0,c1',c2⟩:=bP HZ.o (.int .i64 3) (.int .i64 0) (.slice p1 l.length c1);have C:¬U8 (w.alloc (.cells #[.int .i64 0,.int .i64 0,.slice none 0 0] 35)).heap.size w1 w.heap.size:=fun h=>by have:=h.1;rw [ah] at this;omega
 exact bodyPost_ret (v:=.agg #[.int .i64 3,.int .i64 0,.slice p1 l.length c1]) (by simp [results,Tryz.results178,go_sem,c0,c1',c2]) rfl ⟨_,rfl,VvAt.text ((dz HO.o).u8 (fS C _ _ _) (by rw [ah];omega)),aJ HB.o (Nat.le_refl _) _ _ _⟩
theorem gC {t:ByteArray} {l:List UInt8} (h:t.toList=l):t=⟨l.toArray⟩:=by
 rw [ByteArray.toList_eq] at h;exact ByteArray.ext (by rw [←h])
theorem ze {ty num:Int} {text:List UInt8} (hx:OkV ⟨ty,num,text⟩) (p:Option Addr) (c:Nat) (w:World):Calls Tryz.prog 181 #[.string ⟨#[45]⟩,.agg #[.int .i64 ty,.int .i64 num,.slice p text.length c]] w fun e w'=>∃v',e=.returned (.tuple #[v',.int .i64 (eF [45] ⟨ty,num,text⟩).2])∧VvAt (U8 w.heap.size w') w' v' (eF [45] ⟨ty,num,text⟩).1∧Below w.heap.size w w':=by
 have hn:=hx.num;unfold aY at hn;dsimp only at hn;clear hx;by_cases h1:ty=1
 ·subst h1
  by_cases h2:num=-9223372036854775808
  ·subst h2
   have e1:eF [45] ⟨1,-9223372036854775808,text⟩=(noV,3):=by simp [eF]
   rw [e1];clear e1 hn;go_enter Tryz.func181,Tryz.ntmps181
   go_wp2_with fail
   exact bodyPost_ret (v:=.tuple #[.agg #[.int .i64 0,.int .i64 0,.slice none 0 0],.int .i64 3]) (by simp [results,Tryz.results181,go_sem]) rfl ⟨_,rfl,VvAt.no,ag (ag (Below.refl _ _) _) _⟩
  ·have e1:eF [45] ⟨1,num,text⟩=(aB (-num),0):=by simp [eF,h2]
   rw [e1];have e2:(num==-9223372036854775808)=false:=beq_eq_false_iff_ne.2 h2;have e3:IntKind.i64.wrap (-num)=-num:=by rw [IntKind.wrap_i64];omega
   clear e1;have HN:=zh (jr (-num));go_enter Tryz.func181,Tryz.ntmps181
   go_wp2_with fail
   refine (HN.o _).mono ?_;rintro e w1 ⟨rfl,hb⟩;have hz:=aj (w.alloc (.cells #[.int .i64 1,.int .i64 num,.slice p text.length c] 35)) (.cells #[.int .i64 0,.int .i64 0,.slice none 0 0] 35) (w.heap.size+1) (ah _ _);have A:=(hb.block (w.heap.size+1) (by rw [ah,ah];omega)).trans hz;have B:=(ag (ag (Below.refl w.heap.size w) (.cells #[.int .i64 1,.int .i64 num,.slice p text.length c] 35)) (.cells #[.int .i64 0,.int .i64 0,.slice none 0 0] 35)).trans (hb.mono (by rw [ah,ah];omega));have HZ:=zh A;have HB:=zh B;have n0:=aa A (j:=0) (u:=.int .i64 0) rfl;have n1:=aa A (j:=1) (u:=.int .i64 0) rfl;have n2:=aa A (j:=2) (u:=.slice none 0 0) rfl;have z0:=ae A 0;have z1:=ae A 1;have z2:=ae A 2;clear hb hz A B;go_wp2_with fail
   obtain ⟨c0,c1',c2⟩:=bP HZ.o (.int .i64 1) (.int .i64 (-num)) (.slice none 0 0);exact bodyPost_ret (v:=.tuple #[.agg #[.int .i64 1,.int .i64 (-num),.slice none 0 0],.int .i64 0]) (by simp [results,Tryz.results181,go_sem,c0,c1',c2]) rfl ⟨_,rfl,VvAt.num,aJ HB.o (Nat.le_succ _) _ _ _⟩
 ·have e1:eF [45] ⟨ty,num,text⟩=(noV,7):=by simp [eF,h1]
  rw [e1];have e2:(ty==1)=false:=beq_eq_false_iff_ne.2 h1;clear e1 h1;go_enter Tryz.func181,Tryz.ntmps181
  go_wp2_with fail
  exact bodyPost_ret (v:=.tuple #[.agg #[.int .i64 0,.int .i64 0,.slice none 0 0],.int .i64 7]) (by simp [results,Tryz.results181,go_sem]) rfl ⟨_,rfl,VvAt.no,ag (ag (Below.refl _ _) _) _⟩
theorem zi {ty num:Int} {text:List UInt8} (hx:OkV ⟨ty,num,text⟩) (p:Option Addr) (c:Nat) (w:World):Calls Tryz.prog 181 #[.string ⟨#[33]⟩,.agg #[.int .i64 ty,.int .i64 num,.slice p text.length c]] w fun e w'=>∃v',e=.returned (.tuple #[v',.int .i64 (eF [33] ⟨ty,num,text⟩).2])∧VvAt (U8 w.heap.size w') w' v' (eF [33] ⟨ty,num,text⟩).1∧Below w.heap.size w w':=by
 have hn:=hx.num;unfold aY at hn;dsimp only at hn;clear hx;by_cases h1:ty=2
 ·subst h1
  have e1:eF [33] ⟨2,num,text⟩=(a8 (!(num==1)),0):=by simp [eF]
  rw [e1];clear e1;have e3:(num !=1)=!(num==1):=rfl;generalize hq:(!(num==1))=q at *;have HQ:=zh hq;clear hq;have HN:=zh (eD q);go_enter Tryz.func181,Tryz.ntmps181
  go_wp2_with fail
  refine (HN.o _).mono ?_;rintro e w1 ⟨rfl,hb⟩;have hz:=aj (w.alloc (.cells #[.int .i64 2,.int .i64 num,.slice p text.length c] 35)) (.cells #[.int .i64 0,.int .i64 0,.slice none 0 0] 35) (w.heap.size+1) (ah _ _);have A:=(hb.block (w.heap.size+1) (by rw [ah,ah];omega)).trans hz;have B:=(ag (ag (Below.refl w.heap.size w) (.cells #[.int .i64 2,.int .i64 num,.slice p text.length c] 35)) (.cells #[.int .i64 0,.int .i64 0,.slice none 0 0] 35)).trans (hb.mono (by rw [ah,ah];omega));have HZ:=zh A;have HB:=zh B;have n0:=aa A (j:=0) (u:=.int .i64 0) rfl;have n1:=aa A (j:=1) (u:=.int .i64 0) rfl;have n2:=aa A (j:=2) (u:=.slice none 0 0) rfl;have z0:=ae A 0;have z1:=ae A 1;have z2:=ae A 2;clear hb hz A B;go_wp2_with fail
  obtain ⟨c0,c1',c2⟩:=bP HZ.o (.int .i64 2) (.int .i64 (nb q)) (.slice none 0 0);exact bodyPost_ret (v:=.tuple #[.agg #[.int .i64 2,.int .i64 (nb q),.slice none 0 0],.int .i64 0]) (by simp [results,Tryz.results181,go_sem,c0,c1',c2]) rfl ⟨_,rfl,VvAt.bool,aJ HB.o (Nat.le_succ _) _ _ _⟩
 ·have e1:eF [33] ⟨ty,num,text⟩=(noV,7):=by simp [eF,h1]
  rw [e1];have e2:(ty==2)=false:=beq_eq_false_iff_ne.2 h1;clear e1 h1;go_enter Tryz.func181,Tryz.ntmps181
  go_wp2_with fail
  exact bodyPost_ret (v:=.tuple #[.agg #[.int .i64 0,.int .i64 0,.slice none 0 0],.int .i64 7]) (by simp [results,Tryz.results181,go_sem]) rfl ⟨_,rfl,VvAt.no,ag (ag (Below.refl _ _) _) _⟩
theorem rY {S:Nat→Prop} {v:Value} {x:Vv} (t:ByteArray) (w:World) (h:VvAt S w v x) (hx:OkV x) (ht:t.toList=[45]∨t.toList=[33]):Calls Tryz.prog 181 #[.string t,v] w fun e w'=>∃v',e=.returned (.tuple #[v',.int .i64 (eF t.toList x).2])∧VvAt (U8 w.heap.size w') w' v' (eF t.toList x).1∧Below w.heap.size w w':=by
 obtain ⟨p,c,rfl,_⟩:=h;rcases ht with ht | ht
 ·rw [ht,(gC ht:t=⟨#[45]⟩)]
  exact ze hx p c w
 ·rw [ht,(gC ht:t=⟨#[33]⟩)]
  exact zi hx p c w
end
section
open Go.RowKit
theorem kw (w:World) (r:Option Nat):w.grownBy w r:=⟨rfl,rfl,rfl,Nat.le_refl _,fun _ _ _=>rfl⟩
section
variable {P:Program} {w:World}
theorem iX (t ty:TypeId) (base:Nat) (e:TypeId) (i:TypeInfo) (z:Value) (size bytes:Nat) (ht:P.underlying t=some (.slice e)) (hi:P.info? e=some i) (hz:i.zero=some z)
    (C:i.size=size) (H:i.bytes=bytes) (F:z.cells.size=size) (G:0<size)
    (v:Value) (n:Nat) (xs:List Value) (A:w.ownsRow base e size v n xs)
    (s1:Option Addr) (m c:Nat) (news:List Value) (h0:s1=none→m=0∧c=0) (hl:news.length=m * size) (D:∀ad,s1=some ad→∀j u,news[j]?=some u→w.cell? (ad.add j)=some u) (h1:∀u∈news,u.oneCell'=true)
    (I:n+m≤maxLen) (B:(n+m)*bytes≤140737488355328) (E:base≤w.heap.size) :
    ∃s0 cap w',(Builtin.append_ #[t,t] ty #[v,.slice s1 m c]).run P w=.ok (.slice s0 (n+m) cap) w'∧w'.ownsRow base e size (.slice s0 (n+m) cap) (n+m) (xs++news)∧w.grownBy w' v.ownBlock:=by
 have form:∀{w:World} {v:Value} {n:Nat} {xs:List Value},w.ownsRow base e size v n xs→∃s0 cap,v=.slice s0 n cap:=fun h=>by
  rcases h.2 with ⟨q,q2⟩ | ⟨g,cap,cur,q,_⟩
  ·subst q2;exact ⟨none,0,q⟩
  ·exact ⟨_,cap,q⟩
 cases s1 with
 | none =>
  obtain ⟨rfl,rfl⟩:=h0 rfl;have hn:news=[]:=List.eq_nil_of_length_eq_zero (by omega);subst hn;obtain ⟨s0,cap,rfl⟩:=form A;exact ⟨s0,cap,w,run_append_owned_none (P:=P) (w:=w) base t ty e i size ht hi _ n xs A,by simpa using A,kw _ _⟩
 | some ad =>
  obtain ⟨v',w',hr,h2,h3,h4⟩:=run_append_own (P:=P) w base t ty e i z size bytes ht hi hz C H F G _ n xs A ad m c news hl (D ad rfl) h1 I B E;obtain ⟨s0,cap,rfl⟩:=form h2;exact ⟨s0,cap,w',hr,h2,h3⟩
theorem fu {ops:Array Oper} {o:Oper} {a:Act} {K:Act→World→Prop} {Q:Exit→Act→World→Prop} {E:Prop} (I:o.guard=none) (s x:Operand) (t:TypeId)
    (ho:o.op=.call { callee:=.builtin .append,args:=#[s,x],argTypes:=#[t,t] })
    (base:Nat) (e:TypeId) (i:TypeInfo) (z:Value) (size bytes:Nat) (ht:P.underlying t=some (.slice e)) (hi:P.info? e=some i) (hz:i.zero=some z)
    (B:i.size=size) (J:i.bytes=bytes) (G:z.cells.size=size) (H:0<size)
    (v:Value) (n:Nat) (xs:List Value) (hs:a.eval s=v) (F:w.ownsRow base e size v n xs)
    (s1:Option Addr) (m c:Nat) (news:List Value) (hx:a.eval x=.slice s1 m c) (h0:s1=none→m=0∧c=0) (hl:news.length=m * size) (C:∀ad,s1=some ad→∀j u,news[j]?=some u→w.cell? (ad.add j)=some u) (h1:∀u∈news,u.oneCell'=true)
    (L:n+m≤maxLen) (A:(n+m)*bytes≤140737488355328) (D:base≤w.heap.size)
    (h:∀s0 cap w',w'.ownsRow base e size (.slice s0 (n+m) cap) (n+m) (xs++news)→w.grownBy w' v.ownBlock→K (a.put o.dst (.slice s0 (n+m) cap)) w') :
    if Region.wanted o (yielded ops a.tmps)=true then Oper.wp P o a w K Q else E:=by
 have hw:Region.wanted o (yielded ops a.tmps)=true:=by simp [Region.wanted,I]
 rw [if_pos hw];obtain ⟨s0,cap,w',hr,h2,h3⟩:=iX (P:=P) (w:=w) t o.type base e i z size bytes ht hi hz B J G H v n xs F s1 m c news h0 hl C h1 L A D;unfold Oper.wp execOp;simp only [ho,resolve,invoke,builtin,Sem.run_bind,Sem.run_pure,Result.andThen_ok,List.map_toArray,List.map_cons,List.map_nil,hs,hx,hr]
 exact h s0 cap w' h2 h3
theorem dB {ops:Array Oper} {rest:List Oper} {o:Oper} {a:Act} {Q:Exit→Act→World→Prop} (H:o.guard=none) (s x:Operand) (t:TypeId)
    (ho:o.op=.call { callee:=.builtin .append,args:=#[s,x],argTypes:=#[t,t] })
    (base:Nat) (e:TypeId) (i:TypeInfo) (z:Value) (size bytes:Nat) (ht:P.underlying t=some (.slice e)) (hi:P.info? e=some i) (hz:i.zero=some z)
    (B:i.size=size) (I:i.bytes=bytes) (F:z.cells.size=size) (G:0<size)
    (v:Value) (n:Nat) (xs:List Value) (hs:a.eval s=v) (E:w.ownsRow base e size v n xs)
    (s1:Option Addr) (m c:Nat) (news:List Value) (hx:a.eval x=.slice s1 m c) (h0:s1=none→m=0∧c=0) (hl:news.length=m * size) (C:∀ad,s1=some ad→∀j u,news[j]?=some u→w.cell? (ad.add j)=some u) (h1:∀u∈news,u.oneCell'=true)
    (J:n+m≤maxLen) (A:(n+m)*bytes≤140737488355328) (D:base≤w.heap.size)
    (h:∀s0 cap w',w'.ownsRow base e size (.slice s0 (n+m) cap) (n+m) (xs++news)→w.grownBy w' v.ownBlock→wpList P ops Q rest (a.put o.dst (.slice s0 (n+m) cap)) w'):wpList P ops Q (o :: rest) a w:=by
 refine wpList_plain H fun K hK=>?_;obtain ⟨s0,cap,w',hr,h2,h3⟩:=iX (P:=P) (w:=w) t o.type base e i z size bytes ht hi hz B I F G v n xs E s1 m c news h0 hl C h1 J A D;unfold Oper.wp execOp;simp only [ho,resolve,invoke,builtin,Sem.run_bind,Sem.run_pure,Result.andThen_ok,List.map_toArray,List.map_cons,List.map_nil,hs,hx,hr]
 exact hK _ _ (h s0 cap w' h2 h3)
end
end
section
open Go
section
variable {P:Program} {ops:Array Oper} {md:Region.Mode} {Q:Exit→Act→World→Prop}
def aP (P:Program) (ops:Array Oper) (Q:Exit→Act→World→Prop) (tl:List Oper):Exit→Act→World→Prop
 | .normal,a,w=>wpList P ops Q tl a w
 | e,a,w=>Q e a w
def kF (md:Region.Mode) (ops:Array Oper) (n:Nat):Bool:=
 (List.range n).all fun i=>match ops[i]? with
  | some o=>(o.after.all fun e=>!Region.binds md e || decide (e.on<i))&&(match o.guard with | some (g,_)=>decide (g<n) | none=>true)
  | none=>false
theorem ij {n i:Nat} (h:kF md ops n=true) (hi:i<n):∃o,ops[i]?=some o∧(∀e∈o.after,Region.binds md e=true→e.on<i)∧(∀g b,o.guard=some (g,b)→g<n):=by
 have h1:=List.all_eq_true.1 h i (List.mem_range.2 hi)
 cases ho:ops[i]? with
 | none=>simp [ho] at h1
 | some o =>
  simp only [ho,Bool.and_eq_true,Array.all_eq_true_iff_forall_mem,Bool.or_eq_true,Bool.not_eq_true',decide_eq_true_eq] at h1
  refine ⟨o,rfl,fun e he hb=>((h1.1 e he).resolve_left (by simp [hb])),fun g b hg=>?_⟩;have h2:=h1.2;rw [hg] at h2;simpa using h2
theorem qE {Q':Exit→Act→World→Prop} (x:Nat):∀(l:List Oper) (k:Nat) (listed:Array Bool) (a:Act) (w:World),(∀j,l[j]?=ops[k+j]?) →
    Region.seqB md ops l.length k listed=true→wpList P ops Q' l a w→wpAny P md ops Q' (l.length+x) listed a w
 | [],_,listed,a,w,_,hB,h=>by
  have hr:Region.ready md ops listed=[]:=by simpa [Region.seqB] using hB
  cases x with
  | zero=>exact ⟨hr,h⟩
  | succ x =>
   show wpAny P md ops Q' (0+(x+1)) listed a w
   rw [Nat.zero_add];exact ⟨fun _=>h,fun i hi=>by rw [hr] at hi;cases hi⟩
 | o :: l,k,listed,a,w,hl,hB,h=>by
  have h0:ops[k]?=some o:=by simpa using (hl 0).symm
  simp only [List.length_cons,Region.seqB,Bool.and_eq_true,decide_eq_true_eq] at hB
  rw [show (o :: l).length+x=(l.length+x)+1 by simp;omega];refine ⟨fun h1=>(by rw [hB.1] at h1;cases h1),fun i hi=>?_⟩;rw [hB.1] at hi;obtain rfl:i=k:=by simpa using hi
  have hw:wpOp P ops Q' i (wpList P ops Q' l) a w:=by unfold wpOp;simp only [h0];exact h
  exact wpOp_mono (fun a' w' h'=>qE x l (i+1) _ a' w' (fun j=>by have:=hl (j+1);simpa [Nat.add_assoc,Nat.add_comm 1 j] using this) hB.2 h') hw
structure Alike (n:Nat) (lh listed:Array Bool):Prop where
 size:lh.size=n
 same:∀j,j<n→lh[j]?=listed[j]?
theorem Alike.getD {n:Nat} {lh listed:Array Bool} (h:Alike n lh listed) {j:Nat} (hj:j<n) (d:Bool):lh.getD j d=listed.getD j d:=by
 rw [Array.getD_eq_getD_getElem?,Array.getD_eq_getD_getElem?,h.same j hj]
theorem Alike.set {n:Nat} {lh listed:Array Bool} (h:Alike n lh listed) (i:Nat) (hs:n≤listed.size):Alike n (lh.setIfInBounds i true) (listed.setIfInBounds i true):=by
 refine ⟨by simp [h.size],fun j hj=>?_⟩;rw [Array.getElem?_setIfInBounds,Array.getElem?_setIfInBounds,h.same j hj,h.size];by_cases e:i=j
 ·subst e
  simp [hj,show i<listed.size by omega]
 ·simp [e]
variable {n:Nat} {hd:Array Oper}
theorem iC (hh:∀j,j<n→hd[j]?=ops[j]?) (hB:kF md ops n=true) {lh listed:Array Bool} (al:Alike n lh listed) {i:Nat} (hi:i<n) :
    i∈Region.ready md hd lh ↔ i∈Region.ready md ops listed:=by
 rw [mem_ready,mem_ready,hh i hi,al.getD hi];refine and_congr_right fun _=>?_;obtain ⟨o,ho,hb,_⟩:=ij hB hi;rw [ho];constructor
 ·rintro ⟨o',h1,h2⟩
  obtain rfl:=Option.some.inj h1;exact ⟨o,rfl,fun e he A=>by rw [←al.getD (by have:=hb e he A;omega)];exact h2 e he A⟩
 ·rintro ⟨o',h1,h2⟩
  obtain rfl:=Option.some.inj h1;exact ⟨o,rfl,fun e he A=>by rw [al.getD (by have:=hb e he A;omega)];exact h2 e he A⟩
theorem rK (A:hd.size=n) {lh:Array Bool} {i:Nat} (h:i∈Region.ready md hd lh):i<n:=by
 obtain ⟨_,o,ho,_⟩:=mem_ready.1 h;have:=(Array.getElem?_eq_some_iff.1 ho).1;omega
theorem nr (hh:∀j,j<n→hd[j]?=ops[j]?) (hB:kF md ops n=true) {lh:Array Bool} (hs:lh.size=n) (hr:Region.ready md hd lh=[]):∀i,i<n→lh.getD i true=true:=by
 intro i;induction i using Nat.strongRecOn with
 | _ i ih =>
  intro hi
  cases hl:lh.getD i true with
  | true=>rfl
  | false =>
   exfalso
   obtain ⟨o,ho,hb,_⟩:=ij hB hi
   have:i∈Region.ready md hd lh:=mem_ready.2 ⟨hl,o,by rw [hh i hi,ho],fun e he A=>by
     have h1:=hb e he A;have h2:=ih e.on h1 (by omega);have h3:e.on<lh.size:=by omega
     simp [h3] at h2 ⊢
     exact h2⟩
   rw [hr] at this
   cases this
theorem pP (hh:∀j,j<n→hd[j]?=ops[j]?) (tm:Array Value) {j:Nat} (hj:j<n):yielded hd tm j=yielded ops tm j:=by
 unfold yielded;rw [hh j hj]
theorem lM (hh:∀j,j<n→hd[j]?=ops[j]?) (tm:Array Value) {o:Oper} (hg:∀g b,o.guard=some (g,b)→g<n):Region.wanted o (yielded hd tm)=Region.wanted o (yielded ops tm):=by
 unfold Region.wanted
 cases hq:o.guard with
 | none=>rfl
 | some p =>
  obtain ⟨g,b⟩:=p;simp only [pP hh tm (hg g b hq)]
theorem wt {tl:List Oper} {o:Oper} {a:Act} {w:World} {K:Act→World→Prop} (h:o.wp P a w K (aP P ops Q tl)):o.wp P a w K Q:=by
 unfold Oper.wp at *;generalize (execOp a.eval o).run P w=r at *
 cases r with
 | ok n w' =>
  cases n<;>simp only [Oper.upon] at h ⊢ <;>
   first
    | exact h
    | exact Calls.mono h (fun e w'' he=>by cases e<;>exact he)
 | halt x w'=>cases x<;>simp only [Oper.upon] at h ⊢<;>exact h
theorem Bj (hh:∀j,j<n→hd[j]?=ops[j]?) (hB:kF md ops n=true) {tl:List Oper} {i:Nat} (hi:i<n) {K:Act→World→Prop} {a:Act} {w:World}
    (h:wpOp P hd (aP P ops Q tl) i K a w):wpOp P ops Q i K a w:=by
 obtain ⟨o,ho,_,hg⟩:=ij hB hi;unfold wpOp at *;rw [hh i hi,ho] at h;rw [ho];simp only [lM hh _ hg] at h ⊢
 split
 ·rename_i hw
  rw [if_pos hw] at h;exact h.imp wt (fun q=>q)
 ·rename_i hw
  rw [if_neg hw] at h;exact h
theorem vU {tl:List Oper} (hh:∀j,j<n→hd[j]?=ops[j]?) (I:hd.size=n) (H:∀j,tl[j]?=ops[n+j]?) (hn:n<ops.size) (hs:Region.sinkB md ops n=true) (hc:Region.chainB md ops n=true)
    (hB:kF md ops n=true) (hq:∀listed:Array Bool,HeadInv md ops n listed→(∀i,i<n→listed.getD i true=true)→Region.seqB md ops tl.length n listed=true) (x:Nat) :
    ∀(f:Nat) (lh listed:Array Bool) (a:Act) (w:World),Alike n lh listed→HeadInv md ops n listed→wpAny P md hd (aP P ops Q tl) f lh a w→wpAny P md ops Q (f+(tl.length+x)) listed a w:=by
 have A:∀(lh listed:Array Bool) (a:Act) (w:World),Alike n lh listed→HeadInv md ops n listed→Region.ready md hd lh=[]→wpList P ops Q tl a w→∀y,wpAny P md ops Q (tl.length+y) listed a w:=by
  intro lh listed a w al inv hr h y;have E:=nr hh hB al.size hr;exact qE y tl n listed a w H (hq listed inv (fun i hi=>by rw [←al.getD hi];exact E i hi)) h
 intro f;induction f with
 | zero =>
  intro lh listed a w al inv h;rw [Nat.zero_add];exact A lh listed a w al inv h.1 h.2 x
 | succ f ih =>
  intro lh listed a w al inv h;by_cases hr:Region.ready md hd lh=[]
  ·rw [show f+1+(tl.length+x)=tl.length+(f+1+x) by omega]
   exact A lh listed a w al inv hr (h.1 hr) _
  ·have K:∃i,i∈Region.ready md hd lh:=by
     cases hq:Region.ready md hd lh with
     | nil=>exact absurd hq hr
     | cons i _=>exact ⟨i,by simp⟩
   obtain ⟨i0,F⟩:=K;have B:=rK I F;have C:=(iC hh hB al B).1 F;have G:listed.getD i0 true=false:=(mem_ready.1 C).1;rw [show f+1+(tl.length+x)=(f+(tl.length+x))+1 by omega];refine ⟨fun h0=>absurd C (by rw [h0];simp),fun i hi=>?_⟩
   have D:i<n:=by
    rcases Nat.lt_or_ge i n with q | q
    ·exact q
    ·exact absurd hi (tail_waits hs hc hn inv _ i0 rfl B G i q)
   have J:=(iC hh hB al D).2 hi;exact wpOp_mono (fun a' w' h'=>ih _ _ a' w' (al.set i (by rw [inv.size];omega)) (inv.set hi D) h') (Bj hh hB D (h.2 i J))
end
def yP (ops:Array Oper) (n:Nat):Bool:=
 decide (n<ops.size)&&Region.sinkB .any ops n&&Region.chainB .any ops n&&kF .any ops n &&
  Region.seqB .any ops (ops.size-n) n ((Array.replicate n true)++(Array.replicate (ops.size-n) false))
theorem ay {P:Program} {Q:Exit→Act→World→Prop} {S:World→Prop} {id:Nat} {a:Act} {w:World} {l:List Oper} (n:Nat) (hm:P.follows .mixedOrders=true) (hB:yP l.toArray n=true) (hS:S w.drew)
    (h:S w.drew→wpAnyH P .any (l.take n).toArray (aP P l.toArray Q (l.drop n)) S n (Array.replicate n false) a w.drew):(Code.region id l.toArray true).wp P Q a w:=by
 simp only [yP,Bool.and_eq_true,decide_eq_true_eq] at hB
 obtain ⟨⟨⟨⟨hn,hs⟩,hc⟩,hb⟩,hq⟩:=hB;have C:n<l.length:=by simpa using hn
 refine wp_region_any hm ?_;have B:(l.drop n).length=l.toArray.size-n:=by simp
 have inv0:HeadInv .any l.toArray n (Array.replicate l.toArray.size false):=
  ⟨by simp,fun j oj _ hl=>(by rw [getD_replicate_false] at hl;cases hl),fun t _ ht=>getD_in (by simpa using ht) (getD_replicate_false _ _)⟩
 have al0:Alike n (Array.replicate n false) (Array.replicate l.toArray.size false):=⟨by simp,fun j hj=>by
   rw [Array.getElem?_replicate,Array.getElem?_replicate,if_pos hj,if_pos (by simp;omega)]⟩
 have:=vU (P:=P) (Q:=Q) (md:=.any) (hd:=(l.take n).toArray) (ops:=l.toArray) (tl:=l.drop n) (n:=n) (fun j hj=>by simp [hj]) (by simp;omega) (fun j=>by simp [List.getElem?_drop]) hn hs hc hb
  (fun listed inv A=>by
    have he:listed=(Array.replicate n true)++(Array.replicate (l.toArray.size-n) false):=by
      refine Array.ext (by simp [inv.size];omega) fun i h1 h2=>?_;have hi:i<l.length:=by have:=inv.size;simp at this;omega
      by_cases e:i<n
      · have:=A i e
        simp [h1] at this
        rw [Array.getElem_append_left (by simpa using e)];simpa using this
      · have:=inv.tail i (by omega) (by simpa using hi)
        simp [h1] at this
        rw [Array.getElem_append_right (by simp;omega)];simpa using this
    rw [he,B];exact hq) 0 n _ _ a w.drew al0 inv0 (wpAny_of_held _ _ _ _ (h hS))
 rw [B,Nat.add_zero,show n+(l.toArray.size-n)=l.toArray.size by simp;omega] at this;exact this
section
variable {P:Program} {ops:Array Oper} {Q:Exit→Act→World→Prop} {md:Region.Mode} {S:World→Prop}
theorem tk (i:Nat) {oi:Oper} {v:Value} {A:Nat} {listed:Array Bool} {a:Act} {w:World} (hy:∀w,S w→(execOp a.eval oi).run P w=.ok (.value v) w)
    (h:wpAnyH P md ops Q S A (listed.setIfInBounds i true) (a.put oi.dst v) w) (hi:ops[i]?=some oi:=by rfl)
    (hs:Region.noSelect ops=true:=by kernel_rfl) (hf:Region.free md ops listed i=true:=by kernel_rfl) (hr:(Region.ready md ops listed).contains i=true:=by kernel_rfl)
    (hg:Region.wanted oi (yielded ops a.tmps)=true:=by rfl) (hQ:∀c a w,Q (.panic c) (a.put oi.dst v) w→Q (.panic c) a w:=by exact fun _ _ _ h=>h) (hS:S w:=by assumption):wpAnyH P md ops Q S (A+1) listed a w:=
 wpAnyH_take hi hs hf hr hQ (.inl ⟨hg,hy⟩) hS h
theorem tkA (i:Nat) {oi:Oper} {v:Value} {A:Nat} {listed:Array Bool} {a:Act} {w:World}
    (h:wpAnyH P md ops Q S A (listed.setIfInBounds i true) (a.put oi.dst v) w)
    (hi:ops[i]?=some oi:=by rfl)
    (hs:Region.noSelect ops=true:=by kernel_rfl) (hf:Region.free md ops listed i=true:=by kernel_rfl) (hr:(Region.ready md ops listed).contains i=true:=by kernel_rfl)
    (hg:Region.wanted oi (yielded ops a.tmps)=true:=by rfl) (hQ:∀c a w,Q (.panic c) (a.put oi.dst v) w→Q (.panic c) a w:=by exact fun _ _ _ h=>h) (hS:S w:=by assumption)
    (hy:∀w,S w→(execOp a.eval oi).run P w=.ok (.value v) w:=by intro w B;(try dsimp only at B);go_simp;try with_reducible rfl):wpAnyH P md ops Q S (A+1) listed a w:=
 tk i hy h hi hs hf hr hg hQ hS
theorem rd1 (i:Nat) {o:Oper} {A:Nat} {listed:Array Bool} {a:Act} {w:World}
    (h:∀K':Act→World→Prop,Shut (∀a w,S w→(S w→wpAnyH P md ops Q S A (listed.setIfInBounds i true) a w)→K' a w)→if Region.wanted o (yielded ops a.tmps)=true then Oper.wp P o a w K' Q else K' (a.put o.dst undef) w)
    (ho:ops[i]?=some o:=by rfl) (hr:Region.ready md ops listed=[i]:=by kernel_rfl):wpAnyH P md ops Q S (A+1) listed a w:=
 wpAnyH_ready hr (by simp) (AllReadyH.cons ho h AllReadyH.nil)
end
end
end Go.Proofs.YthgcpfkochikfaaGreat
