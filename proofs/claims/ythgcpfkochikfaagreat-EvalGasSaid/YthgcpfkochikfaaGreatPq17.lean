/-
  EvalLoops: part 17 of its proof: see the last text.
-/
import Derived.Test.YthgcpfkochikfaaGreatPq06
import Derived.Test.YthgcpfkochikfaaGreatPq07
import Derived.Test.YthgcpfkochikfaaGreatPq08
import Derived.Test.YthgcpfkochikfaaGreatPq09
import Derived.Test.YthgcpfkochikfaaGreatPq16
import Derived.Test.YthgcpfkochikfaaGreatRows
import Derived.Test.YthgcpfkochikfaaGreatPq00
import Derived.Deep.DeepCutAuto
import Derived.Lib.ConvBytes
set_option maxRecDepth 100000
set_option maxHeartbeats 16000000
namespace Go.Proofs.YthgcpfkochikfaaGreat
section
open Go.RowKit
def KS (D:Nat) (w:World) (b:Nat):Prop:=b<D∨OfTy w b 5
structure Ly where
 D:Nat
 U:Nat
 RB:Nat
 JB:Nat
 N:Nat
 F:List Fn
def ET (y:Ly) (w:World) (k:Nat):Prop:=k=y.RB∨JT y.JB y.U w k
def Rst.jo (r:Rst):Jo:=⟨r.pairs,r.undo⟩
structure RunAt (y:Ly) (w:World) (r:Rst) (k:Int):Prop where
 box:∃s n c,w.heap[y.RB]?=some (.cells #[.slice s n c,.pointer (some ⟨y.JB,0,none⟩),.int .i64 r.lim,.int .i64 r.used,.int .i64 k] 86 (0,0))∧RepFns (fun b=>b<y.D) w (.slice s n c) y.F
 jo:JAt y.U w y.JB r.jo (y.N+r.used.toNat)
 gas:0≤r.used∧r.used≤r.lim∧r.lim≤100000
 low:y.D≤y.RB∧y.D≤y.JB∧y.D≤y.U∧y.U≤w.heap.size∧y.N≤1000000
section
variable {y:Ly} {w w':World} {r:Rst} {k:Int} {b:Nat} {v:Value} {x:Vv}
theorem RunAt.ty (h:RunAt y w r k):OfTy w y.RB 86:=by
 obtain ⟨_,_,_,h,_⟩:=h.box;exact ⟨_,_,h⟩
theorem RunAt.ne (h:RunAt y w r k):y.RB≠y.JB:=h.ty.ne h.jo.ty (by decide)
theorem KS.not (h:KS y.D w b) (hr:RunAt y w r k):¬ET y w b:=fun q=>by
 have hl:=hr.low;rcases h with h | h
 ·rcases q with q | q | q
  ·omega
  ·omega
  ·have:=q.1;omega
 ·rcases q with rfl | rfl | q
  ·exact h.ne hr.ty (by decide) rfl
  ·exact h.ne hr.jo.ty (by decide) rfl
  ·exact h.ne q.2 (by decide) rfl
theorem KS.keep (h:KS y.D w b) (hb:w'.heap[b]?=w.heap[b]?):KS y.D w' b:=h.imp id (fun q=>q.keep hb)
theorem ET.back (h:ET y w' b) (hb:b<w.heap.size→¬ET y w b→w'.heap[b]?=w.heap[b]?):ET y w b∨w.heap.size≤b:=by
 by_cases hl:b<w.heap.size
 ·by_cases ht:ET y w b
  ·exact .inl ht
  ·have e:=hb hl ht
   rcases h with h | h | h
   ·exact .inl (.inl h)
   ·exact .inl (.inr (.inl h))
   ·exact .inl (.inr (.inr ⟨h.1,h.2.keep e.symm⟩))
 ·exact .inr (Nat.le_of_not_lt hl)
def Ef (y:Ly) (w w':World):Prop:=OnS (ET y w) w w'
theorem Ef.refl (y:Ly) (w:World):Ef y w w:=OnS.refl _ _
theorem Ef.of_below (h:Below w.heap.size w w'):Ef y w w':=OnS.of_below h
theorem Ef.trans {a b c:World} (h:Ef y a b) (g:Ef y b c):Ef y a c:=OnS.new h g fun _ hk=>ET.back hk fun hl hn=>h.block _ hl hn
theorem Ef.set {a b:World} (h:Ef y a b) (j:Nat) (u:Value):Ef y a (b.setCell ⟨y.RB,j,none⟩ u):=OnS.set h (.inl rfl) j u
theorem Ef.jt {a b:World} (h:OnS (JT y.JB y.U a) a b):Ef y a b:=h.mono fun _ hk=>.inr hk
theorem VvAt.stays {D:Nat} (h:VvAt (KS D w) w v x) (hs:Stays (KS D w) w w'):VvAt (KS D w') w' v x:=by
 obtain ⟨p,c,e,ht⟩:=h;refine ⟨p,c,e,?_⟩;obtain ⟨p',c',e',h1,h2,h3,h5⟩:=ht.form;injection e' with e1 _ e3
 subst e1 e3;refine TxtAt.of_cells h1 h2 h3 fun h0=>?_;obtain ⟨b,off,rfl,hb,hl,hc⟩:=h5 h0;exact ⟨b,off,rfl,hb.imp id (fun q=>q.keep (hs.block b hb hl)),fun i hi=>(hs.cell hb hl _).trans (hc i hi)⟩
theorem VvAt.ef (h:VvAt (KS y.D w) w v x) (hr:RunAt y w r k) (he:Ef y w w'):VvAt (KS y.D w') w' v x:=h.stays (he.stays fun _ hb=>hb.not hr)
theorem VvAt.low {D:Nat} (h:VvAt (KS D w) w v x) (hb:Below w.heap.size w w'):VvAt (KS D w') w' v x:=h.stays (Stays.of_below hb)
theorem MapAt.noT {m:List (ByteArray×Value)} {t:TypeId} (h:MapAt w b m):¬OfTy w b t:=fun ⟨_,_,q⟩=>by
 obtain ⟨_,_,h,_⟩:=h;rw [q] at h
 cases h
theorem VvAt.new {B:Nat} (h:VvAt (U8 B w) w v x):VvAt (KS y.D w) w v x:=h.mono fun _ hb=>.inr hb.2
theorem RunAt.below (h:RunAt y w r k) (hb:Below w.heap.size w w'):RunAt y w' r k:=by
 obtain ⟨s,n,c,h1,h2⟩:=h.box;exact ⟨⟨s,n,c,(hb.block _ (af h1)).trans h1,h2.keep (Stays.of_below hb)⟩,h.jo.below hb,h.gas,h.low.1,h.low.2.1,h.low.2.2.1,Nat.le_trans h.low.2.2.2.1 hb.size,h.low.2.2.2.2⟩
theorem RunAt.jset {r':Rst} (h:RunAt y w r k) (he:OnS (JT y.JB y.U w) w w') (hj:JAt y.U w' y.JB r'.jo (y.N+r'.used.toNat)) (hl:r'.lim=r.lim) (hu:r'.used=r.used):RunAt y w' r' k:=by
 obtain ⟨s,n,c,h1,h2⟩:=h.box
 have A:¬JT y.JB y.U w y.RB:=fun q=>by
  rcases q with q | q
  ·exact h.ne q
  ·exact h.ty.ne q.2 (by decide) rfl
 refine ⟨⟨s,n,c,by rw [hl,hu];exact he.obj A h1,h2.keep (he.stays fun b hb q=>?_)⟩,hj,by rw [hl,hu];exact h.gas,h.low.1,h.low.2.1,h.low.2.2.1,Nat.le_trans h.low.2.2.2.1 he.size,h.low.2.2.2.2⟩;have B:b<y.D:=hb;have:=h.low;rcases q with q | q
 ·omega
 ·have:=q.1;omega
theorem RunAt.set {r':Rst} {k':Int} {j:Nat} {u:Value} (h:RunAt y w r k) (hj:r'.jo=r.jo) (hu:r.used≤r'.used) (hg:0≤r'.used∧r'.used≤r'.lim∧r'.lim≤100000)
    (hc:∀s n c,(#[.slice s n c,.pointer (some ⟨y.JB,0,none⟩),.int .i64 r.lim,.int .i64 r.used,.int .i64 k]:Array Value).setIfInBounds j u=#[.slice s n c,.pointer (some ⟨y.JB,0,none⟩),.int .i64 r'.lim,.int .i64 r'.used,.int .i64 k']):RunAt y (w.setCell ⟨y.RB,j,none⟩ u) r' k':=by
 obtain ⟨s,n,c,h1,h2⟩:=h.box;have hs:=au h1 j u;rw [hc] at hs;have A:On y.RB w (w.setCell ⟨y.RB,j,none⟩ u):=(On.refl _ _).set j u;refine ⟨⟨s,n,c,hs,h2.keep (Stays.of_ne A (fun q=>by have q':y.RB<y.D:=q;have:=h.low;omega))⟩,?_,hg,h.low.1,h.low.2.1,h.low.2.2.1,Nat.le_trans h.low.2.2.2.1 A.size,h.low.2.2.2.2⟩;rw [hj];refine (h.jo.keep (Stays.of_ne A fun q=>?_) (A.block _ h.jo.ty.lt (fun e=>h.ne (by injection e with e;exact e.symm))) (fun b _ hb=>A.block b hb.lt (fun e=>hb.ne h.ty (by decide) (by injection e)))).mono (by omega);rcases q with q | q | q | q
 ·exact q.ne h.ty (by decide) rfl
 ·exact q.ne h.ty (by decide) rfl
 ·exact q.ne h.ty (by decide) rfl
 ·exact q.ne h.ty (by decide) rfl
end
end
section
open Go.RowKit Go.MapKept
attribute [local go_sem ↓] Go.wp_at_zero Go.wp_at_succ
section
variable {P:Program} {w:World} {r:Nat} {m:List (ByteArray×Value)} {mt kt et:TypeId}
theorem vS (h:MapAt w r m) (hm:P.underlying mt=some (.map kt et)) (hk:P.underlying kt=some .string) {z:Value} (hz:(zeroValue et).run P w=.ok z w) (k:ByteArray) :
    (Instr.lookup mt (.map (some r)) (.string k) false).run P w=.ok ((aL m k).getD z) w:=by
 obtain ⟨es,c,h1,h2⟩:=h;rcases gX k .nilIface es.toList m 0 h2 with ⟨a1,a2,_⟩ | ⟨j,v,e,a1,a2,_⟩
 ·simp [Instr.lookup,run_underlying hm,Go.MapKept.run_getObj_map h1,run_checkKey hk (k:=.string k) (by simp [IsKey]),run_findKey hk a2,hz,Result.andThen,a1]
 ·simp [Instr.lookup,run_underlying hm,Go.MapKept.run_getObj_map h1,run_checkKey hk (k:=.string k) (by simp [IsKey]),run_findKey hk a2,Result.andThen,a1]
end
theorem fJ:Tryz.prog.underlying 123=some (.map 9 35):=by kernel_rfl
theorem jX:Tryz.prog.underlying 9=some .string:=by kernel_rfl
def xV:Value:=.agg #[.int .i64 0,.int .i64 0,.slice none 0 0]
theorem rN (w:World):(zeroValue 35).run Tryz.prog w=.ok xV w:=by kernel_rfl
theorem OkV.no:OkV noV:=⟨⟨by decide,by decide⟩,by decide⟩
def MvAt (D:Nat) (w:World):List (ByteArray×Value)→Sc→Prop
 | [],[]=>True
 | p :: mv,q :: m=>p.1=q.1∧(VvAt (KS D w) w p.2 q.2∧OkV q.2)∧MvAt D w mv m
 | _,_=>False
theorem MvAt.imp {D D':Nat} {w w':World} (hk:∀v x,VvAt (KS D w) w v x→VvAt (KS D' w') w' v x):∀{mv:List (ByteArray×Value)} {m:Sc},MvAt D w mv m→MvAt D' w' mv m
 | [],[],_=>trivial
 | _ :: _,_ :: _,h=>⟨h.1,⟨hk _ _ h.2.1.1,h.2.1.2⟩,MvAt.imp hk h.2.2⟩
 | [],_ :: _,h=>h.elim
 | _ :: _,[],h=>h.elim
theorem MvAt.look {D:Nat} {w:World} (k:ByteArray):∀{mv:List (ByteArray×Value)} {m:Sc},MvAt D w mv m→VvAt (KS D w) w ((aL mv k).getD xV) ((aL m k).getD noV)∧OkV ((aL m k).getD noV)∧(aL mv k).isSome=(aL m k).isSome
 | [],[],_=>⟨VvAt.no,OkV.no,rfl⟩
 | p :: mv,q :: m,h=>by
  rw [aL,aL,h.1];by_cases e:q.1=k
  ·rw [if_pos e,if_pos e]
   exact ⟨h.2.1.1,h.2.1.2,rfl⟩
  ·rw [if_neg e,if_neg e]
   exact MvAt.look k h.2.2
 | [],_ :: _,h=>h.elim
 | _ :: _,[],h=>h.elim
theorem MvAt.put {D:Nat} {w:World} {v:Value} {x:Vv} (hv:VvAt (KS D w) w v x) (ho:OkV x) (k:ByteArray):∀{mv:List (ByteArray×Value)} {m:Sc},MvAt D w mv m→MvAt D w (bY mv k v) (bY m k x)
 | [],[],_=>⟨rfl,⟨hv,ho⟩,trivial⟩
 | p :: mv,q :: m,h=>by
  rw [bY,bY,h.1];by_cases e:q.1=k
  ·rw [if_pos e,if_pos e]
   exact ⟨rfl,⟨hv,ho⟩,h.2.2⟩
  ·rw [if_neg e,if_neg e]
   exact ⟨h.1,h.2.1,MvAt.put hv ho k h.2.2⟩
 | [],_ :: _,h=>h.elim
 | _ :: _,[],h=>h.elim
def eT:List (Nat×Nat)→Value
 | []=>.pointer none
 | b :: _=>.pointer (some ⟨b.1,0,none⟩)
def ChAt (D:Nat) (w:World):List (Nat×Nat)→List Sc→Prop
 | [],[]=>True
 | b :: l,m :: σ=>(w.heap[b.1]?=some (.cells #[eT l,.map (some b.2)] 125 (0,0))∧D≤b.2∧(∀c∈l,c.2≠b.2)∧∃mv,MapAt w b.2 mv∧MvAt D w mv m)∧ChAt D w l σ
 | _,_=>False
def SfT (y:Ly) (l:List (Nat×Nat)) (w:World) (k:Nat):Prop:=ET y w k∨k∈l.map (·.2)
section
variable {y:Ly} {w w':World} {r:Rst} {k:Int} {b:Nat} {l:List (Nat×Nat)} {σ:List Sc}
theorem MapAt.notET {mv:List (ByteArray×Value)} (h:MapAt w b mv) (hr:RunAt y w r k):¬ET y w b:=fun q=>by
 rcases q with rfl | rfl | q
 ·exact h.noT hr.ty
 ·exact h.noT hr.jo.ty
 ·exact h.noT q.2
theorem wF {A:Array Value} (h:w.heap[b]?=some (.cells A 125 (0,0))) (hr:RunAt y w r k):¬ET y w b:=fun q=>by
 have ho:OfTy w b 125:=⟨_,_,h⟩
 rcases q with rfl | rfl | q
 ·exact ho.ne hr.ty (by decide) rfl
 ·exact ho.ne hr.jo.ty (by decide) rfl
 ·exact ho.ne q.2 (by decide) rfl
theorem ChAt.ef:∀{l:List (Nat×Nat)} {σ:List Sc},ChAt y.D w l σ→RunAt y w r k→Ef y w w'→ChAt y.D w' l σ
 | [],[],_,_,_=>trivial
 | c :: l,m :: σ,h,hr,he=>by
  obtain ⟨⟨h1,h2,h3,mv,h4,h5⟩,h6⟩:=h;exact ⟨⟨he.obj (wF h1 hr) h1,h2,h3,mv,h4.keep (he.block _ h4.lt (h4.notET hr)),h5.imp fun v x q=>q.ef hr he⟩,ChAt.ef h6 hr he⟩
 | [],_ :: _,h,_,_=>h.elim
 | _ :: _,[],h,_,_=>h.elim
theorem ChAt.low {D:Nat}:∀{l:List (Nat×Nat)} {σ:List Sc},ChAt D w l σ→Below w.heap.size w w'→ChAt D w' l σ
 | [],[],_,_=>trivial
 | c :: l,m :: σ,h,he=>by
  obtain ⟨⟨h1,h2,h3,mv,h4,h5⟩,h6⟩:=h;exact ⟨⟨(he.block _ (af h1)).trans h1,h2,h3,mv,h4.below he,h5.imp fun v x q=>q.low he⟩,ChAt.low h6 he⟩
 | [],_ :: _,h,_=>h.elim
 | _ :: _,[],h,_=>h.elim
theorem ChAt.len {D:Nat}:∀{l:List (Nat×Nat)} {σ:List Sc},ChAt D w l σ→l.length=σ.length
 | [],[],_=>rfl
 | _ :: l,_ :: σ,h=>by rw [List.length_cons,List.length_cons,ChAt.len h.2]
 | [],_ :: _,h=>h.elim
 | _ :: _,[],h=>h.elim
theorem ChAt.lt {D:Nat}:∀{l:List (Nat×Nat)} {σ:List Sc},ChAt D w l σ→∀c∈l,c.2<w.heap.size
 | [],[],_,c,hc=>by cases hc
 | _ :: l,_ :: σ,h,c,hc=>by
  rcases List.mem_cons.1 hc with rfl | hc
  ·obtain ⟨⟨_,_,_,mv,h4,_⟩,_⟩:=h
   exact h4.lt
  ·exact ChAt.lt h.2 c hc
 | [],_ :: _,h,_,_=>h.elim
 | _ :: _,[],h,_,_=>h.elim
theorem ChAt.off {D mb:Nat}:∀{l:List (Nat×Nat)} {σ:List Sc},ChAt D w l σ→On mb w w'→(∃mv,MapAt w mb mv)→(∀c∈l,c.2≠mb)→D≤mb→ChAt D w' l σ
 | [],[],_,_,_,_,_=>trivial
 | c :: l,m :: σ,h,ho,hm,hn,hd=>by
  obtain ⟨⟨h1,h2,h3,mv,h4,h5⟩,h6⟩:=h;obtain ⟨mv',A⟩:=id hm
  have hs:Stays (KS D w) w w':=Stays.of_ne ho fun q=>by
   rcases q with q | q
   ·omega
   ·exact A.noT q
  exact ⟨⟨ho.obj (fun e=>by subst e;exact A.noT ⟨_,_,h1⟩) h1,h2,h3,mv,h4.keep (ho.block _ h4.lt (fun e=>hn c (List.mem_cons_self ..) (by injection e))),h5.imp fun v x q=>VvAt.stays q hs⟩,ChAt.off h6 ho hm (fun c hc=>hn c (List.mem_cons_of_mem _ hc)) hd⟩
 | [],_ :: _,h,_,_,_,_=>h.elim
 | _ :: _,[],h,_,_,_,_=>h.elim
end
end
section
open Go.RowKit
def Bc (L U n:Int):Bool:=decide (0≤U∧U≤L∧0≤n∧n≤L-U)
def Ay (L U n:Int):Int:=if 0≤U∧U≤L∧0≤n∧n≤L-U then U+n else L
theorem ub {L U n:Int} (h:0≤U∧U≤L∧0≤n∧n≤L-U):Ay L U n=U+n∧Bc L U n=true:=⟨if_pos h,decide_eq_true h⟩
theorem xk {L U n:Int} (h:¬(0≤U∧U≤L∧0≤n∧n≤L-U)):Ay L U n=L∧Bc L U n=false:=⟨if_neg h,decide_eq_false h⟩
def eG (L:Int):Int:=max 0 (min L 100000)
def lr (n:Int):Int:=max 0 n / 16
def pS (n:Int):Int:=max 0 (min n 2147483648)
def AS (k v:Int):Int:=4+(pS k+pS v) / 16
theorem AC (L U n:Int) (w:World) (hL:-9223372036854775808≤L∧L≤9223372036854775807) (hU:-9223372036854775808≤U∧U≤9223372036854775807) (hn:-9223372036854775808≤n∧n≤9223372036854775807) :
    Calls Tryz.prog 151 #[.agg #[.int .i64 L,.int .i64 U],.int .i64 n] w fun e w'=>e=.returned (.tuple #[.agg #[.int .i64 L,.int .i64 (Ay L U n)],.bool (Bc L U n)])∧Below w.heap.size w w':=by
 go_enter Tryz.func151,Tryz.ntmps151
 go_wp2
 all_goals
  refine bodyPost_ret (v:=.tuple #[.agg #[.int .i64 L,.int .i64 (Ay L U n)],.bool (Bc L U n)]) ?_ rfl ⟨rfl,((Below.refl _ _).alloc (Nat.le_refl _) _).alloc (by simp) _⟩;by_cases hc:0≤U∧U≤L∧0≤n∧n≤L-U
  ·obtain ⟨e1,e2⟩:=ub hc
   rw [e1,e2];first | (exfalso;omega) | simp [results,Tryz.results151,go_sem]
  ·obtain ⟨e1,e2⟩:=xk hc
   rw [e1,e2];first | (exfalso;omega) | simp [results,Tryz.results151,go_sem]
theorem uE (L:Int) (w:World) (_hL:-9223372036854775808≤L∧L≤9223372036854775807) :
    Calls Tryz.prog 34 #[.int .i64 L] w fun e w'=>e=.returned (.agg #[.int .i64 (eG L),.int .i64 0])∧Below w.heap.size w w':=by
 go_enter Tryz.func34,Tryz.ntmps34
 go_wp2
 all_goals
  refine bodyPost_ret (v:=.agg #[.int .i64 (eG L),.int .i64 0]) ?_ rfl ⟨rfl,(Below.refl _ _).alloc (Nat.le_refl _) _⟩;simp [results,Tryz.results34,go_sem,eG]
  try omega
theorem vJ (n:Int) (w:World) (hn:-9223372036854775808≤n∧n≤9223372036854775807) :
    Calls Tryz.prog 154 #[.int .i64 n] w fun e w'=>e=.returned (.int .i64 (lr n))∧w=w':=by
 go_enter Tryz.func154,Tryz.ntmps154
 go_wp2
 all_goals
  go_ret
  exact ⟨eL (by unfold lr;omega),rfl⟩
theorem AR (k v:Int) (w:World) (hk:-9223372036854775808≤k∧k≤9223372036854775807) (hv:-9223372036854775808≤v∧v≤9223372036854775807) :
    Calls Tryz.prog 109 #[.int .i64 k,.int .i64 v] w fun e w'=>e=.returned (.int .i64 (AS k v))∧w=w':=by
 go_enter Tryz.func109,Tryz.ntmps109
 go_wp2
 all_goals
  go_ret
  exact ⟨eL (by unfold AS pS;omega),rfl⟩
end
section
open Go.RowKit
attribute [local go_sem ↓] Go.wp_at_zero Go.wp_at_succ
def Trp (t:Int):Ending:=.panicked [{ v:=.iface 36 (.int .i64 t),recovered:=false }]
def Says {α:Type} (y:Ly) (T:World→Nat→Prop) (w:World) (R:World→α→Value→Prop) (k:Int) (o:Rn α) (e:Ending) (w':World):Prop:=(match o with
  | .ok a r=>∃v,e=.returned v∧R w' a v∧RunAt y w' r k
  | .trap t r=>e=Trp t∧∃k',RunAt y w' r k')∧OnS (T w) w w'
theorem Says.cases {α:Type} {y:Ly} {T:World→Nat→Prop} {w:World} {R:World→α→Value→Prop} {k:Int} {o:Rn α} {e:Ending} {w':World} (h:Says y T w R k o e w') :
    (∃a r v,o=.ok a r∧e=.returned v∧R w' a v∧RunAt y w' r k∧OnS (T w) w w')∨(∃t r k',o=.trap t r∧e=Trp t∧RunAt y w' r k'∧OnS (T w) w w'):=by
 obtain ⟨h,ho⟩:=h
 cases o with
 | ok a r =>
  obtain ⟨v,h1,h2,h3⟩:=h;exact .inl ⟨a,r,v,rfl,h1,h2,h3,ho⟩
 | trap t r =>
  obtain ⟨h1,k',h2⟩:=h;exact .inr ⟨t,r,k',rfl,h1,h2,ho⟩
theorem eZ {y:Ly} {r:Rst} {k:Int} (n:Int) (w:World) (h:RunAt y w r k) (hn:0≤n∧n≤1000000000000000000) :
    Calls Tryz.prog 105 #[.pointer (some ⟨y.RB,0,none⟩),.int .i64 n] w (Says y (ET y) w (fun _ _ v=>v=.tuple #[]) k (dv n r)):=by
 obtain ⟨s,n0,c,h1,h2⟩:=h.box;have hg:=h.gas;have HU:=zh (AC r.lim r.used n w (by omega) (by omega) (by omega));have HH:=zh h;have H1:=zh h1;have x2:=aa h1 (j:=2) (u:=.int .i64 r.lim) rfl;have x3:=aa h1 (j:=3) (u:=.int .i64 r.used) rfl;have y2:=ae h1 2;have y3:=ae h1 3;clear h h1 h2;go_enter Tryz.func105,Tryz.ntmps105
 by_cases hc:n≤r.lim-r.used
 ·obtain ⟨e1,e2⟩:=ub (L:=r.lim) (U:=r.used) (n:=n) ⟨by omega,by omega,by omega,hc⟩
  rw [e1,e2] at HU;have HO:Hd (dv n r=.ok () { r with used:=r.used+n }):=zh (if_pos hc);have HS:=zh hg;have HN:=zh (And.intro hn hc);clear e1 e2 hc hg;go_wp2_with fail
  refine HU.o.mono ?_;rintro e w1 ⟨rfl,hb⟩;have hz:=(hb.block _ (af H1.o)).trans H1.o;have x2:=aa hz (j:=2) (u:=.int .i64 r.lim) rfl;have x3:=aa hz (j:=3) (u:=.int .i64 r.used) rfl;have y2:=ae hz 2;have y3:=ae hz 3;have HB:=zh hb;have A:=zh (HH.o.below hb);clear hb hz;go_wp2_with fail
  refine bodyPost_end (v:=.tuple #[]) (by simp [results,Tryz.results105,go_sem]) rfl ?_;rw [HO.o];have hs:=HS.o;have B:=HN.o;exact ⟨⟨_,rfl,rfl,RunAt.set (r':={ r with used:=r.used+n }) (RunAt.set (r':=r) (k':=k) A.o rfl (Int.le_refl _) hs (fun _ _ _=>rfl)) rfl (by show r.used≤r.used+n;omega) ⟨by show 0≤r.used+n;omega,by show r.used+n≤r.lim;omega,hs.2.2⟩ (fun _ _ _=>rfl)⟩,((OnS.of_below HB.o).set (.inl rfl) 2 _).set (.inl rfl) 3 _⟩
 ·obtain ⟨e1,e2⟩:=xk (L:=r.lim) (U:=r.used) (n:=n) (fun q=>hc q.2.2.2)
  rw [e1,e2] at HU;have HO:Hd (dv n r=.trap 1 { r with used:=r.lim }):=zh (if_neg hc);have HS:=zh hg;clear e1 e2 hc hg;go_wp2_with fail
  refine HU.o.mono ?_;rintro e w1 ⟨rfl,hb⟩;have hz:=(hb.block _ (af H1.o)).trans H1.o;have x2:=aa hz (j:=2) (u:=.int .i64 r.lim) rfl;have x3:=aa hz (j:=3) (u:=.int .i64 r.used) rfl;have y2:=ae hz 2;have y3:=ae hz 3;have HB:=zh hb;have A:=zh (HH.o.below hb);clear hb hz;go_wp2_with fail
  refine ⟨rfl,?_⟩;rw [HO.o];have hs:=HS.o;exact ⟨⟨rfl,k,RunAt.set (r':={ r with used:=r.lim }) (RunAt.set (r':=r) (k':=k) A.o rfl (Int.le_refl _) hs (fun _ _ _=>rfl)) rfl hs.2.1 ⟨by show 0≤r.lim;omega,Int.le_refl _,hs.2.2⟩ (fun _ _ _=>rfl)⟩,((OnS.of_below HB.o).set (.inl rfl) 2 _).set (.inl rfl) 3 _⟩
theorem j9 (D:Nat) (l:List (Nat×Nat)) (σ:List Sc) (w:World) (h:ChAt D w l σ) (hd:D≤w.heap.size):Calls Tryz.prog 56 #[eT l] w fun e w'=>∃b,e=.returned (eT (b :: l))∧ChAt D w' (b :: l) ([] :: σ)∧(w.heap.size≤b.1∧w.heap.size≤b.2)∧Below w.heap.size w w':=by
 have hb:Below w.heap.size w ((w.alloc (.map #[] 0)).alloc (.cells #[eT l,.map (some w.heap.size)] 125)):=ag (ag (Below.refl _ _) _) _;have HC:Hd (ChAt D ((w.alloc (.map #[] 0)).alloc (.cells #[eT l,.map (some w.heap.size)] 125)) ((w.heap.size+1,w.heap.size) :: l) ([] :: σ)):=zh ⟨⟨aj _ _ _ (ah _ _),hd,fun c hc=>Nat.ne_of_lt (h.lt c hc),[],(MapAt.made w rfl).below (ag (Below.refl _ _) _),trivial⟩,h.low hb⟩;have HB:=zh hb;obtain ⟨p,hp⟩:∃p,eT l=.pointer p:=by cases l<;>exact ⟨_,rfl⟩
 rw [hp] at HC HB ⊢;clear h hb hp;have A:=@run_makeMap Tryz.prog;go_enter Tryz.func56,Tryz.ntmps56
 go_wp2_with fail
 exact bodyPost_ret (v:=.pointer (some ⟨w.heap.size+1,0,none⟩)) (by simp [results,Tryz.results56,go_sem]) rfl ⟨(w.heap.size+1,w.heap.size),rfl,HC.o,⟨Nat.le_succ _,Nat.le_refl _⟩,HB.o⟩
theorem eC (a b:Int) (p:Option Addr) (n c:Nat) (t:Int) (w:World):Calls Tryz.prog 180 #[.agg #[.int .i64 a,.int .i64 b,.slice p n c],.int .i64 t] w fun e w'=>e=(if t=0 then .returned (.agg #[.int .i64 a,.int .i64 b,.slice p n c]) else Trp t)∧Below w.heap.size w w':=by
 by_cases h:t=0
 ·subst h
  rw [if_pos rfl];go_enter Tryz.func180,Tryz.ntmps180
  go_wp2_with fail
  exact bodyPost_ret (v:=.agg #[.int .i64 a,.int .i64 b,.slice p n c]) (by simp [results,Tryz.results180,go_sem]) rfl ⟨rfl,ag (ag (Below.refl _ _) _) _⟩
 ·rw [if_neg h]
  have e1:(t !=0)=true:=bne_iff_ne.2 h;clear h;unfold Trp;go_enter Tryz.func180,Tryz.ntmps180
  go_wp2_with fail
  exact ⟨rfl,rfl,ag (ag (Below.refl _ _) _) _⟩
def d8:List Sc→ByteArray→Nat
 | [],_=>0
 | [_],_=>0
 | m :: n :: l,x=>if gL m x then 0 else d8 (n :: l) x+1
theorem lX:∀{σ:List Sc} (x:ByteArray),σ≠[]→d8 σ x<σ.length
 | [],_,h=>absurd rfl h
 | [_],_,_=>Nat.zero_lt_one
 | m :: n :: l,x,_=>by
  rw [d8];split
  ·exact Nat.succ_pos _
  ·exact Nat.succ_lt_succ (lX x (by simp))
theorem rM:∀(σ:List Sc) (x:ByteArray),fY σ x=(aL (σ.getD (d8 σ x) []) x).getD noV
 | [],_=>rfl
 | [_],_=>rfl
 | m :: n :: l,x=>by
  rw [fY,d8];split
  ·rfl
  ·rw [rM (n :: l) x];rfl
def bxA (l:List (Nat×Nat)) (i:Nat):Nat:=(l.getD i default).1
def mpA (l:List (Nat×Nat)) (i:Nat):Nat:=(l.getD i default).2
theorem ChAt.at {D:Nat} {w:World}:∀{l:List (Nat×Nat)} {σ:List Sc} {i:Nat},ChAt D w l σ→i<l.length →
    (w.heap[bxA l i]?=some (.cells #[eT (l.drop (i+1)),.map (some (mpA l i))] 125 (0,0))∧D≤mpA l i∧∃mv,MapAt w (mpA l i) mv∧MvAt D w mv (σ.getD i []))
 | [],_,_,_,h=>absurd h (Nat.not_lt_zero _)
 | _ :: _,[],_,h,_=>h.elim
 | c :: l,m :: σ,0,h,_=>by
  obtain ⟨⟨h1,h2,_,mv,h4,h5⟩,_⟩:=h;exact ⟨h1,h2,mv,h4,h5⟩
 | c :: l,m :: σ,i+1,h,hi=>ChAt.at (i:=i) h.2 (by simpa using hi)
theorem oL {σ:List Sc} {x:ByteArray} {i:Nat} (h:i<d8 σ x):gL (σ.getD i []) x=false∧i+1<σ.length:=by
 induction σ generalizing i with
 | nil=>exact absurd h (Nat.not_lt_zero _)
 | cons m σ ih =>
  cases σ with
  | nil=>exact absurd h (Nat.not_lt_zero _)
  | cons n l =>
   rw [d8] at h;by_cases e:gL m x=true
   ·rw [if_pos e] at h;exact absurd h (Nat.not_lt_zero _)
   ·rw [if_neg e] at h
    cases i with
    | zero=>exact ⟨by simpa using e,by simp⟩
    | succ i =>
     have:=ih (i:=i) (by omega);exact ⟨this.1,by simpa using this.2⟩
theorem xm {σ:List Sc} {x:ByteArray} (h:d8 σ x+1<σ.length):gL (σ.getD (d8 σ x) []) x=true:=by
 induction σ with
 | nil=>exact absurd h (by simp)
 | cons m σ ih =>
  cases σ with
  | nil=>exact absurd h (by simp [d8])
  | cons n l =>
   rw [d8] at h ⊢;by_cases e:gL m x=true
   ·rw [if_pos e];exact e
   ·rw [if_neg e] at h ⊢
    exact ih (by simpa using h)
theorem lJ {l:List (Nat×Nat)} {i:Nat} (h:i<l.length):eT (l.drop i)=.pointer (some ⟨bxA l i,0,none⟩):=by
 unfold bxA;rw [List.drop_eq_getElem_cons h,List.getD_eq_getElem?_getD,List.getElem?_eq_getElem h];rfl
theorem zm {l:List (Nat×Nat)} {i:Nat} (h:l.length≤i):eT (l.drop i)=.pointer none:=by
 rw [List.drop_eq_nil_of_le h];rfl
theorem xH (D:Nat) (l:List (Nat×Nat)) (σ:List Sc) (x:ByteArray) (w:World) (h:ChAt D w l σ) (hn:l≠[]):Calls Tryz.prog 107 #[eT l,.string x] w fun e w'=>e=.returned (.pointer (some ⟨bxA l (d8 σ x),0,none⟩))∧Below w.heap.size w w':=by
 have B:=h.len;have HL:Hd (l.length=σ.length):=zh B;have J:Hd (d8 σ x<l.length):=zh (by rw [B];exact lX x (fun e=>hn (List.eq_nil_of_length_eq_zero (by rw [B,e];rfl))));have HH:=zh h;have h0:=lJ (l:=l) (i:=0) (by have:=J.o;omega);rw [List.drop_zero] at h0;rw [h0];clear h hn B h0;go_enter Tryz.func107,Tryz.ntmps107
 go_wp2_with fail
 go_loopg [0] (d8 σ x+1) (fun gg t0 wr=>∃i:Nat,i+gg=d8 σ x+1∧0<gg∧t0=.pointer (some ⟨bxA l i,0,none⟩)∧Below w.heap.size w wr)
 case atStart=>exact ⟨0,Nat.zero_add _,Nat.succ_pos _,rfl,Below.refl _ _⟩
 case round =>
  obtain ⟨i,K,hg,rfl,hb⟩:=hrel;have HB:=zh hb;have HG:=zh K;have G:i<l.length:=by have:=J.o;omega
  obtain ⟨h1,h2,mv,h4,h5⟩:=(HH.o.low hb).at G;have M:=af h1;have x0:=aa h1 (j:=0) (u:=eT (l.drop (i+1))) rfl;have x1:=aa h1 (j:=1) (u:=.map (some (mpA l i))) rfl;have E:=fI h4 fJ jX (rN wr) x;rw [(h5.look x).2.2] at E;obtain ⟨pv,cv,F,_⟩:=(h5.look x).1;rw [F] at E;by_cases A:i+1<l.length
  ·rw [lJ A] at x0
   by_cases I:i<d8 σ x
   ·have H:=(oL I).1
    unfold gL at H;rw [H] at E;clear hb h1 h4 h5 F H A G;go_wp2_with fail
    go_roundg (d8 σ x-i)
    case measure=>have:=HG.o;omega
    case rel=>exact ⟨i+1,by have:=HG.o;omega,by omega,rfl,ag HB.o _⟩
   ·obtain rfl:i=d8 σ x:=by have:=HG.o;omega
    have C:=xm (σ:=σ) (x:=x) (by have:=HL.o;omega);unfold gL at C;rw [C] at E;clear hb h1 h4 h5 F C A G I;go_wp2_with fail
    exact bodyPost_ret (v:=.pointer (some ⟨bxA l (d8 σ x),0,none⟩)) (by simp [results,Tryz.results107,go_sem]) rfl ⟨rfl,ag HB.o _⟩
  ·rw [zm (Nat.le_of_not_lt A)] at x0
   have L:i=d8 σ x:=by
    by_cases q:i<d8 σ x
    ·have:=(oL q).2
     have:=HL.o;omega
    ·have:=HG.o;omega
   subst L;clear hb h1 h4 h5 F E A G;go_wp2_with fail
   exact bodyPost_ret (v:=.pointer (some ⟨bxA l (d8 σ x),0,none⟩)) (by simp [results,Tryz.results107,go_sem]) rfl ⟨rfl,HB.o⟩
end
section
open Go.RowKit
mutual
def WfE (F:List Fn):Ex→Prop
 | .mk op num text ks _=>(aY num∧(op=3→text.size≤256)∧(op=5→∃f,cE F text=some f∧f.params.length=ks.length)∧(op=6→ks.length=2∧zY text.toList)∧(op=7→ks.length=1∧(text.toList=[45]∨text.toList=[33]))∧(op=8∨op=9∨op=10→ks.length=1)∧1≤op∧op≤10)∧WfEs F ks
def WfEs (F:List Fn):List Ex→Prop
 | []=>True
 | x :: l=>WfE F x∧WfEs F l
end
theorem WfEs.at {F:List Fn}:∀{l:List Ex} {i:Nat},WfEs F l→i<l.length→WfE F (l.getD i default)
 | [],_,_,h=>absurd h (Nat.not_lt_zero _)
 | x :: l,0,h,_=>by rw [WfEs] at h;exact h.1
 | x :: l,i+1,h,hi=>by
  rw [WfEs] at h;exact WfEs.at (i:=i) h.2 (by simpa using hi)
def VvR (y:Ly) (w:World) (x:Vv) (v:Value):Prop:=VvAt (KS y.D w) w v x∧OkV x
def VB (D:Nat) (w:World) (b:Nat):Prop:=b<D∨OfTy w b 35
def VsAt (y:Ly) (w:World) (v:Value) (vs:List Vv):Prop:=∃cs,RowOf (VB y.D w) w v 3 vs.length cs∧∀i,i<vs.length→VvR y w (vs.getD i noV) (.agg (cs i).toArray)
section
variable {y:Ly} {w w':World} {r:Rst} {k:Int} {b:Nat} {v:Value} {x:Vv} {vs:List Vv}
theorem VvR.low (h:VvR y w x v) (hb:Below w.heap.size w w'):VvR y w' x v:=⟨h.1.low hb,h.2⟩
theorem VvR.ef (h:VvR y w x v) (hr:RunAt y w r k) (he:Ef y w w'):VvR y w' x v:=⟨h.1.ef hr he,h.2⟩
theorem VB.not (h:VB y.D w b) (hr:RunAt y w r k):¬ET y w b:=fun q=>by
 have hl:=hr.low;rcases h with h | h
 ·rcases q with q | q | q
  ·omega
  ·omega
  ·have:=q.1;omega
 ·rcases q with rfl | rfl | q
  ·exact h.ne hr.ty (by decide) rfl
  ·exact h.ne hr.jo.ty (by decide) rfl
  ·exact h.ne q.2 (by decide) rfl
theorem VB.keep {D:Nat} (h:VB D w b) (hb:w'.heap[b]?=w.heap[b]?):VB D w' b:=h.imp id (fun q=>q.keep hb)
theorem RowOf.vb {D sz n:Nat} {cs:Nat→List Value} (h:RowOf (VB D w) w v sz n cs) (hs:Stays (VB D w) w w'):RowOf (VB D w') w' v sz n cs:=by
 obtain ⟨s0,cap,e,h1,h2,h3,h5,h6⟩:=h;refine ⟨s0,cap,e,h1,h2,h3,fun h0=>?_,h6⟩;obtain ⟨b,off,e,hb,hl,hc⟩:=h5 h0;exact ⟨b,off,e,hb.keep (hs.block b hb hl),Nat.lt_of_lt_of_le hl hs.size,fun i hi j hj=>(hs.cell hb hl _).trans (hc i hi j hj)⟩
theorem VsAt.stays (h:VsAt y w v vs) (hs:Stays (VB y.D w) w w') (hk:Stays (KS y.D w) w w'):VsAt y w' v vs:=by
 obtain ⟨cs,h1,h2⟩:=h;exact ⟨cs,h1.vb hs,fun i hi=>⟨(h2 i hi).1.stays hk,(h2 i hi).2⟩⟩
theorem VsAt.ef (h:VsAt y w v vs) (hr:RunAt y w r k) (he:Ef y w w'):VsAt y w' v vs:=by
 obtain ⟨cs,h1,h2⟩:=h;exact ⟨cs,h1.vb (he.stays fun b hb=>hb.not hr),fun i hi=>(h2 i hi).ef hr he⟩
theorem VsAt.low (h:VsAt y w v vs) (hb:Below w.heap.size w w'):VsAt y w' v vs:=by
 obtain ⟨cs,h1,h2⟩:=h;exact ⟨cs,h1.vb (Stays.of_below hb),fun i hi=>(h2 i hi).low hb⟩
theorem RunAt.offs {T:Nat→Prop} (h:RunAt y w r k) (ho:OnS T w w') (hT:∀b,T b→y.D≤b∧∀t,OfTy w b t→t=35):RunAt y w' r k:=by
 obtain ⟨s,n,c,h1,h2⟩:=h.box;have A:∀{t:TypeId} {a:Nat},OfTy w a t→t≠35→¬T a:=fun q e e2=>e ((hT _ e2).2 _ q);refine ⟨⟨s,n,c,ho.obj (A h.ty (by decide)) h1,h2.keep (ho.stays (fun b hb q=>by have q':b<y.D:=hb;have:=(hT b q).1;omega))⟩,h.jo.keep (ho.stays fun b hb q=>?_) (ho.block _ h.jo.ty.lt (A h.jo.ty (by decide))) (fun a _ q=>ho.block a q.lt (A q (by decide))),h.gas,h.low.1,h.low.2.1,h.low.2.2.1,Nat.le_trans h.low.2.2.2.1 ho.size,h.low.2.2.2.2⟩;rcases hb with g | g | g | g
 ·exact absurd ((hT b q).2 _ g) (by decide)
 ·exact absurd ((hT b q).2 _ g) (by decide)
 ·exact absurd ((hT b q).2 _ g) (by decide)
 ·exact absurd ((hT b q).2 _ g) (by decide)
theorem RunAt.off (h:RunAt y w r k) (ho:On b w w') (hd:y.D≤b) (hn:∀t,OfTy w b t→t=35):RunAt y w' r k:=
 h.offs (OnS.of_on ho (T:=fun k=>k=b) rfl) fun _ hk=>hk▸⟨hd,hn⟩
theorem OfTy.one {t u:TypeId} (h:OfTy w b t) (g:OfTy w b u):u=t:=by
 by_cases e:u=t
 ·exact e
 ·exact absurd rfl (g.ne h e)
theorem RunAt.set3 (h:RunAt y w r k) (hd:y.D≤b) (ht:OfTy w b 35) (p q s:Value):RunAt y (((w.setCell ⟨b,0,none⟩ p).setCell ⟨b,1,none⟩ q).setCell ⟨b,2,none⟩ s) r k:=
 h.off ((((On.refl b w).set 0 p).set 1 q).set 2 s) hd fun _ g=>ht.one g
theorem VvR.set3 (h:VvR y w x v) (hd:y.D≤b) (ht:OfTy w b 35) (p q s:Value):VvR y (((w.setCell ⟨b,0,none⟩ p).setCell ⟨b,1,none⟩ q).setCell ⟨b,2,none⟩ s) x v:=
 ⟨h.1.stays (fS (fun g=>by
   rcases g with g | g
   · omega
   · exact absurd (ht.one g) (by decide)) p q s),h.2⟩
theorem Ef.new3 {a:World} (h:Ef y a w) (hb:a.heap.size≤b) (p q s:Value):Ef y a (((w.setCell ⟨b,0,none⟩ p).setCell ⟨b,1,none⟩ q).setCell ⟨b,2,none⟩ s):=
 OnS.new h (OnS.of_on ((((On.refl b w).set 0 p).set 1 q).set 2 s) (T:=fun k=>k=b) rfl) fun _ hi=>.inr (hi▸hb)
theorem Ef.low {a:World} (h:Below a.heap.size a w) (g:Ef y w w'):Ef y a w':=(Ef.of_below h).trans g
end
theorem OkV.nm {n:Int} (h:aY n):OkV (aB n):=⟨h,Nat.zero_le _⟩
theorem OkV.bool (b:Bool):OkV (a8 b):=⟨by cases b<;>exact ⟨by decide,by decide⟩,Nat.zero_le _⟩
theorem OkV.txt {s:List UInt8} (h:s.length≤256):OkV (aH s):=⟨(⟨by decide,by decide⟩:aY 0),h⟩
theorem OkV.inV (n:Int):OkV (inV n).1:=by
 unfold Go.Proofs.YthgcpfkochikfaaGreat.inV;split
 ·rename_i h;exact OkV.nm h
 ·exact OkV.no
theorem Au {a b:Int} (ha:aY a):aY (a.tmod b):=by
 unfold aY at *;have e:=Int.natAbs_tmod a b;have:=Nat.mod_le a.natAbs b.natAbs;by_cases h0:b=0
 ·subst h0;rw [Int.tmod_zero];exact ha
 ·by_cases h1:0≤a
  ·have:=Int.tmod_nonneg b h1
   omega
  ·have h2:=Int.tmod_nonneg b (show 0≤-a by omega)
   rw [Int.neg_tmod] at h2;omega
theorem OkV.two {s:List UInt8} {a b:Vv} (oa:OkV a):OkV (cQ s a b).1:=by
 unfold cQ;split
 ·exact OkV.no
 split
 ·unfold eH
  split
  ·exact OkV.inV _
  split
  ·exact OkV.inV _
  split
  ·exact OkV.inV _
  split
  ·unfold ju
   split
   ·exact OkV.no
   split
   ·exact OkV.no
   ·rename_i h0 h1
    exact OkV.nm (pG oa.num h0 h1)
  split
  ·unfold ju
   split
   ·exact OkV.no
   split
   ·exact OkV.no
   ·exact OkV.nm (Au oa.num)
  split
  ·exact OkV.bool _
  split
  ·exact OkV.bool _
  split
  ·exact OkV.bool _
  split
  ·exact OkV.bool _
  split
  ·exact OkV.bool _
  split
  ·exact OkV.bool _
  ·exact OkV.no
 split
 ·unfold dT
  split
  ·exact OkV.bool _
  split
  ·exact OkV.bool _
  split
  ·exact OkV.bool _
  split
  ·exact OkV.bool _
  ·exact OkV.no
 split
 ·unfold dV
  split
  ·exact OkV.bool _
  split
  ·exact OkV.bool _
  split
  ·split
   ·exact OkV.no
   ·rename_i h;exact OkV.txt (by rw [List.length_append];omega)
  ·exact OkV.no
 ·exact OkV.no
theorem OkV.one {s:List UInt8} {a:Vv} (oa:OkV a):OkV (eF s a).1:=by
 unfold eF;split
 ·split
  ·exact OkV.no
  ·exact OkV.nm (by have:=oa.num;unfold aY at *;omega)
 split
 ·exact OkV.bool _
 ·exact OkV.no
end
section
open Go.RowKit
attribute [local go_sem ↓] Go.wp_at_zero Go.wp_at_succ
def kC (m:Nat):Int:=16-(m:Int)
def pw (y:Ly) (m:Nat) (x:Ex):Prop:=∀(l:List (Nat×Nat)) (σ:List Sc) (r:Rst) (w:World) (cs:List Value),RunAt y w r (kC m)→ChAt y.D w l σ→l≠[]→RepEx (fun b=>b<y.D) w cs x →
 Calls Tryz.prog 152 #[.pointer (some ⟨y.RB,0,none⟩),eT l,.agg cs.toArray] w (Says y (ET y) w (VvR y) (kC m) (bS (aE y.F m) σ x r))
def RmTo (o:Rn (List Vv)) (m:RM (List Vv)) (vs:List Vv) (r:Rst):Prop:=o=match m r with
 | .ok us r2=>.ok (vs++us) r2
 | .trap t r2=>.trap t r2
theorem RmTo.step {call:bU} {σ:List Sc} {x:Ex} {l:List Ex} {o:Rn (List Vv)} {vs:List Vv} {v:Vv} {r r2:Rst} (h:RmTo o (bw call σ (x :: l)) vs r) (he:bS call σ x r=.ok v r2):RmTo o (bw call σ l) (vs++[v]) r2:=by
 unfold RmTo at *;rw [h,bw];unfold RM.then
 rw [he];dsimp only
 cases bw call σ l r2 with
 | ok us r3=>simp [okM]
 | trap t r3=>rfl
theorem RmTo.trap {call:bU} {σ:List Sc} {x:Ex} {l:List Ex} {o:Rn (List Vv)} {vs:List Vv} {t:Int} {r r2:Rst} (h:RmTo o (bw call σ (x :: l)) vs r) (he:bS call σ x r=.trap t r2):o=.trap t r2:=by
 unfold RmTo at h;rw [h,bw];unfold RM.then
 rw [he]
theorem RmTo.done {call:bU} {σ:List Sc} {o:Rn (List Vv)} {vs:List Vv} {r:Rst} (h:RmTo o (bw call σ []) vs r):o=.ok vs r:=by
 unfold RmTo at h;rw [h,bw];simp [okM]
theorem AE:∃i,Tryz.prog.info? 35=some i∧i.zero=some (.agg #[.int .i64 0,.int .i64 0,.slice none 0 0])∧i.size=3∧i.bytes=40:=by
 have h:(Tryz.prog.info? 35).map (fun i=>(i.zero,i.size,i.bytes))=some (some (.agg #[.int .i64 0,.int .i64 0,.slice none 0 0]),3,40):=by kernel_rfl
 obtain ⟨i,hi,he⟩:=Option.map_eq_some_iff.1 h;exact ⟨i,hi,congrArg (·.1) he,congrArg (·.2.1) he,congrArg (·.2.2) he⟩
def GrV (y:Ly) (B:Nat) (w:World) (v:Value) (vs:List Vv):Prop:=∃cs,w.ownsRow B 35 3 v vs.length (bH cs vs.length)∧∀i,i<vs.length→(cs i).length=3∧VvR y w (vs.getD i noV) (.agg (cs i).toArray)
theorem GrV.ef {y:Ly} {B:Nat} {w w':World} {v:Value} {vs:List Vv} {r:Rst} {k:Int} (h:GrV y B w v vs) (hr:RunAt y w r k) (he:Ef y w w'):GrV y B w' v vs:=by
 obtain ⟨cs,h1,h2⟩:=h;exact ⟨cs,gc h1 fun k q=>he.block k (dy h1 q).lt (VB.not (.inr (dy h1 q)) hr),fun i hi=>⟨(h2 i hi).1,(h2 i hi).2.ef hr he⟩⟩
theorem GrV.vs {y:Ly} {B:Nat} {w:World} {v:Value} {vs:List Vv} (h:GrV y B w v vs):VsAt y w v vs:=by
 obtain ⟨cs,h1,h2⟩:=h;obtain ⟨s0,cap,rfl,q1,q2,q3,q4⟩:=bC h1;refine ⟨cs,⟨s0,cap,rfl,q1,q2,q3,fun h0=>?_,fun i hi=>(h2 i hi).1⟩,fun i hi=>(h2 i hi).2⟩;obtain ⟨g,rfl,hg,hl,hc⟩:=q4 h0;refine ⟨g,0,rfl,.inr (dy h1 rfl),hl,fun i hi j hj=>?_⟩;have A:=kT (fun i hi=>(h2 i hi).1) hi hj;have C:=(h2 i hi).1;rw [Nat.zero_add,hc (i * 3+j) ((cs i)[j]'(by omega)) (by rw [A];exact List.getElem?_eq_getElem _),List.getElem?_eq_getElem (by omega)]
theorem GrV.push {y:Ly} {B:Nat} {w w9:World} {v9:Value} {vs:List Vv} {x:Vv} {a b c:Value} (hx:VvR y w x (.agg #[a,b,c])) (hb:Stays (KS y.D w) w w9) (cs:Nat→List Value) (A:∀i,i<vs.length→(cs i).length=3∧VvR y w (vs.getD i noV) (.agg (cs i).toArray))
    (ho:w9.ownsRow B 35 3 v9 (vs.length+1) (bH cs vs.length++[a,b,c])):GrV y B w9 v9 (vs++[x]):=by
 refine ⟨fun i=>if i<vs.length then cs i else [a,b,c],?_,fun i hi=>?_⟩
 ·rw [List.length_append,show [x].length=1 from rfl,lw]
  exact ho
 ·by_cases e:i<vs.length
  ·dsimp only
   rw [if_pos e,gY _ _ _ e];exact ⟨(A i e).1,(A i e).2.1.stays hb,(A i e).2.2⟩
  ·have C:i<vs.length+1:=by simpa using hi
   obtain rfl:i=vs.length:=by omega
   dsimp only;rw [if_neg e,iq];exact ⟨rfl,hx.1.stays hb,hx.2⟩
theorem o8 {y:Ly} {m:Nat} (xs:List Ex) (hx:∀i,i<xs.length→pw y m (xs.getD i default)) (l:List (Nat×Nat)) (σ:List Sc) (r:Rst) (w:World) (ev:Value) (h:RunAt y w r (kC m)) (hc:ChAt y.D w l σ) (hn:l≠[]) (he:RepExs (fun b=>b<y.D) w ev xs) (hl:xs.length≤100000) :
    Calls Tryz.prog 106 #[.pointer (some ⟨y.RB,0,none⟩),eT l,ev] w (Says y (ET y) w (fun w' vs v=>VsAt y w' v vs∧vs.length=xs.length) (kC m) (bw (aE y.F m) σ xs r)):=by
 obtain ⟨p,hp⟩:∃p,eT l=.pointer p:=by cases l<;>exact ⟨_,rfl⟩
 have HX:=zh hx;have J:=zh h;have hG:=zh hc;have HN:=zh hn;have HP:=zh hp;have HE:=zh he;have hB:=zh hl;obtain ⟨cs,hd,x⟩:=he;obtain ⟨s0,cap,rfl,hg,hm,_,L,_⟩:=hd;have a:=zh L;have h2:=zh x;have hH:(xs.length:Int)≤100000:=by omega
 have HM:Hd (RmTo (bw (aE y.F m) σ xs r) (bw (aE y.F m) σ (xs.drop 0)) [] r):=zh (by
   unfold RmTo;rw [List.drop_zero]
   cases bw (aE y.F m) σ xs r<;>rfl)
 obtain ⟨i0,X,h8,h7,h6⟩:=AE;have HI:=zh X;rw [hp];generalize bw (aE y.F m) σ xs r=o at *;clear hx h hc hn hp L x hg hm hl X;go_enter Tryz.func106,Tryz.ntmps106
 go_wp2_with fail
 go_loopg [7,12] xs.length (fun gg t7 t12 wr=>∃(i:Nat) (vs:List Vv) (ri:Rst) (s7:Option Addr) (c7:Nat),i+gg=xs.length∧vs.length=i∧t7=.slice s7 i c7∧t12=.int .i64 (i:Int)∧Hd (RmTo o (bw (aE y.F m) σ (xs.drop i)) vs ri)∧Hd (RunAt y wr ri (kC m))∧Hd (Ef y w wr)∧Hd (GrV y w.heap.size wr (.slice s7 i c7) vs))
 case atStart=>exact ⟨0,[],r,none,0,Nat.zero_add _,rfl,rfl,rfl,HM,J,zh (Ef.refl _ _),zh ⟨fun _=>[],gq,fun i hi=>absurd hi (by simp)⟩⟩
 case round =>
  obtain ⟨i,vs,ri,s7,c7,W,U,rfl,rfl,f,c,K,HG⟩:=hrel;have h3:=zh W;have P:=zh U;by_cases E:i<xs.length
  ·have V:(i:Int)<(xs.length:Int):=by omega
   have X:(0:Int)≤(i:Int):=by omega
   obtain ⟨b,off,ha,ht,hr,G⟩:=a.o (by omega);subst ha;have hf:¬ET y w b:=KS.not (.inl ht) J.o;have h0:=G i E;obtain ⟨xop,xnum,xtext,xv,xpos,B,s5,n5,c5,rfl⟩:=(h2.o i E).form;have I:∀j,j<5→wr.cell? ⟨b,off+i * 5+j,none⟩=(cs i)[j]?:=fun j hj=>(World.cell?_of_block (w:=w) (K.o.block b hr hf)).trans (h0 j hj);rw [B] at I;have x0:wr.cell? ⟨b,off+i * 5,none⟩=some (.int .i64 xop):=I 0 (by decide);have x1:wr.cell? ⟨b,off+i * 5+1,none⟩=some (.int .i64 xnum):=I 1 (by decide);have x2:wr.cell? ⟨b,off+i * 5+2,none⟩=some (.string xtext):=I 2 (by decide);have x3:wr.cell? ⟨b,off+i * 5+3,none⟩=some (.slice s5 n5 c5):=I 3 (by decide);have x4:wr.cell? ⟨b,off+i * 5+4,none⟩=some (.int .i64 xpos):=I 4 (by decide);have O:Below wr.heap.size wr (wr.alloc (.cells #[.int .i64 xop,.int .i64 xnum,.string xtext,.slice s5 n5 c5,.int .i64 xpos] 178)):=ag (Below.refl _ _) _
   have H:=zh (HX.o i E l σ ri _ [.int .i64 xop,.int .i64 xnum,.string xtext,.slice s5 n5 c5,.int .i64 xpos] (c.o.below O) ((hG.o.ef J.o K.o).low O) HN.o (by
     have q:=(h2.o i E).keep (K.o.stays fun b hb=>KS.not (.inl hb) J.o);rw [B] at q;exact q.keep (Stays.of_below O)))
   rw [HP.o] at H;have h5:=zh O;clear G h0 I B W O U;go_wp2_with fail
   refine H.o.mono ?_;intro e w2 hs
   have A:xs.drop i=xs.getD i default :: xs.drop (i+1):=by
    rw [List.drop_eq_getElem_cons E,List.getD_eq_getElem?_getD,List.getElem?_eq_getElem E];rfl
   rcases hs.cases with ⟨v,r2,va,N,rfl,hv,M,ho⟩ | ⟨t,r2,k2,N,rfl,M,ho⟩
   ·have hA:=zh (RmTo.step (by rw [←A];exact f.o) N)
    have Q:=zh (Ef.low h5.o ho);have d:=zh M;have hE:=zh (HG.o.ef c.o Q.o);obtain ⟨pv,cv,rfl,h9⟩:=id hv.1;have HV:=zh hv;have S:Below w2.heap.size w2 (w2.alloc (.cells #[.int .i64 v.ty,.int .i64 v.num,.slice pv v.text.length cv] 35)):=ag (Below.refl _ _) _;obtain ⟨gcs,R,Y⟩:=hE.o;rw [P.o] at R Y;have n:=zh (gc R fun k q=>S.block k (dy R q).lt);have hC:=zh Y;have hz:Hd ((w2.alloc (.cells #[.int .i64 v.ty,.int .i64 v.num,.slice pv v.text.length cv] 35)).heap[w2.heap.size]?=_):=zh (aj _ _ _ rfl);have h4:=zh S;have hw:Hd (w.heap.size≤(w2.alloc (.cells #[.int .i64 v.ty,.int .i64 v.num,.slice pv v.text.length cv] 35)).heap.size):=zh (Nat.le_trans K.o.size (Nat.le_trans Q.o.size S.size));generalize h1:v.text.length=lv at *;have hI:=zh h1;have hh:i+1≤100000:=by have:=hB.o;omega
    clear hs A N hv M ho h9 R Y S h1 E;go_wp2_with (at_builtin;refine dB rfl _ _ _ rfl w.heap.size 35 i0 _ 3 40 Tryz.underlying41 HI.o h8 h7 h6 rfl (by decide) _ i (bH gcs i) rfl n.o (some ⟨w2.heap.size,0,none⟩) 1 1 [.int .i64 v.ty,.int .i64 v.num,.slice pv lv cv] rfl (fun h=>by cases h) rfl ?q1 ?q2 ?q3 ?q4 hw.o ?_)
    case q1 =>
     intro ad e j u hj;injection e with e
     subst e;rw [Go.WideShapes.add_plain,Nat.zero_add];exact aa hz.o (by simpa using hj)
    case q2 =>
     intro u hu;rcases List.mem_cons.1 hu with rfl | hu
     ·rfl
     rcases List.mem_cons.1 hu with rfl | hu
     ·rfl
     rcases List.mem_cons.1 hu with rfl | hu
     ·rfl
     ·cases hu
    case q3=>unfold maxLen;omega
    case q4=>omega
    intro s9 c9 w9 s z;have hK:Hd (Below w.heap.size w9 w9):=zh (Below.refl _ _)
    have C:OnS (fun k=>OfTy w2 k 35∧w.heap.size≤k) w2 w9:=OnS.new (OnS.of_below h4.o) (OnS.of_grown z (T:=fun k=>OfTy (w2.alloc (.cells #[.int .i64 v.ty,.int .i64 v.num,.slice pv lv cv] 35)) k 35∧w.heap.size≤k) fun k hk=>⟨dy n.o hk,(aI n.o hk).1⟩) fun k hk=>by
     by_cases hq:k<w2.heap.size
     ·exact .inl ⟨hk.1.keep (h4.o.block k hq).symm,hk.2⟩
     ·exact .inr (Nat.le_of_not_lt hq)
    have hy:=zh (d.o.offs C (fun k hk=>⟨Nat.le_trans (Nat.le_trans J.o.low.2.2.1 J.o.low.2.2.2.1) hk.2,fun t g=>hk.1.one g⟩));have hF:Hd (Ef y w w9):=zh (OnS.new (K.o.trans Q.o) C fun k hk=>.inr hk.2)
    have hD:Hd (GrV y w.heap.size w9 (.slice s9 (i+1) c9) (_++[v])):=zh (GrV.push HV.o (C.stays fun b hb q=>by
      rcases hb with hb | hb
      · have:=J.o.low
        have:=q.2;omega
      · exact hb.ne q.1 (by decide) rfl) gcs (by rw [P.o];exact hC.o) (by rw [P.o];exact s))
    have Z:Hd ((_++[v]).length=i+1):=zh (by rw [List.length_append,P.o];rfl);clear s z C;go_wp2_with fail
    go_roundg (xs.length-i-1)
    case measure=>have:=h3.o;omega
    case rel=>exact ⟨i+1,_,r2,s9,c9,by have:=h3.o;omega,Z.o,rfl,by go_num,hA,hy,hF,hD⟩
   ·have HO:Hd (o=.trap t r2):=zh (RmTo.trap (by rw [←A];exact f.o) N)
    have Q:=zh (K.o.trans (Ef.low h5.o ho));have d:=zh M;clear hs A N M ho E;unfold Trp;go_wp2_with fail
    refine ⟨rfl,?_⟩;rw [HO.o];exact ⟨⟨rfl,k2,d.o⟩,Q.o⟩
  ·obtain rfl:i=xs.length:=by omega
   have V:¬(xs.length:Int)<(xs.length:Int):=by omega
   have HO:Hd (o=.ok vs ri):=zh (RmTo.done (by have:=f.o;rwa [List.drop_length] at this));clear W U E;go_wp2_with fail
   refine bodyPost_ret (v:=.slice s7 xs.length c7) (by simp [results,Tryz.results106,go_sem]) rfl ?_;rw [HO.o];refine ⟨⟨_,rfl,⟨?_,P.o⟩,c.o⟩,K.o⟩;have:=HG.o.vs;exact this
end
section
open Go.RowKit
theorem xF {call:bU} {σ:List Sc} {op num pos:Int} {text:ByteArray} {ks:List Ex} {r r1:Rst} (h:dv 1 r=.ok () r1):bS call σ (.mk op num text ks pos) r=(if op=1 then okM (aB num)
    else if op=2 then okM (a8 (num==1))
    else if op=3 then okM (aH text.toList)
    else if op=4 then okM (fY σ text)
    else if op=6 then iA call σ text ks
    else (bw call σ ks).then fun vs=>jx call op text vs) r1:=by
 rw [bS];unfold RM.then
 rw [h]
theorem sO {call:bU} {σ:List Sc} {op num pos t:Int} {text:ByteArray} {ks:List Ex} {r r1:Rst} (h:dv 1 r=.trap t r1):bS call σ (.mk op num text ks pos) r=.trap t r1:=by
 rw [bS];unfold RM.then
 rw [h]
theorem cW {α β:Type} {m:RM α} {f:α→RM β} {a:α} {r r1:Rst} (h:m r=.ok a r1):(m.then f) r=f a r1:=by
 unfold RM.then
 rw [h]
theorem bR {α β:Type} {m:RM α} {f:α→RM β} {t:Int} {r r1:Rst} (h:m r=.trap t r1):(m.then f) r=.trap t r1:=by
 unfold RM.then
 rw [h]
structure XAt (w:World) (X R:Nat) (op num pos:Int) (text:ByteArray) (s:Option Addr) (n c:Nat):Prop where
 x:w.heap[X]?=some (.cells #[.int .i64 op,.int .i64 num,.string text,.slice s n c,.int .i64 pos] 178 (0,0))
 r:w.heap[R]?=some (.cells #[.int .i64 0,.int .i64 0,.slice none 0 0] 35 (0,0))
section
variable {y:Ly} {w w':World} {X R:Nat} {op num pos:Int} {text:ByteArray} {s:Option Addr} {n c:Nat} {r:Rst} {k:Int}
theorem gB {b:Nat} {t:TypeId} (h:OfTy w b t) (hr:RunAt y w r k) (h1:t≠86) (h2:t≠68) (h3:t≠1):¬ET y w b:=fun q=>by
 rcases q with rfl | rfl | q
 ·exact h.ne hr.ty h1 rfl
 ·exact h.ne hr.jo.ty h2 rfl
 ·exact h.ne q.2 h3 rfl
theorem XAt.ef (h:XAt w X R op num pos text s n c) (hr:RunAt y w r k) (he:Ef y w w'):XAt w' X R op num pos text s n c:=
 ⟨he.obj (gB ⟨_,_,h.x⟩ hr (by decide) (by decide) (by decide)) h.x,he.obj (gB ⟨_,_,h.r⟩ hr (by decide) (by decide) (by decide)) h.r⟩
theorem XAt.low (h:XAt w X R op num pos text s n c) (hb:Below w.heap.size w w'):XAt w' X R op num pos text s n c:=⟨(hb.block _ (af h.x)).trans h.x,(hb.block _ (af h.r)).trans h.r⟩
theorem XAt.made (w:World) (op num pos:Int) (text:ByteArray) (s:Option Addr) (n c:Nat):XAt ((w.alloc (.cells #[.int .i64 op,.int .i64 num,.string text,.slice s n c,.int .i64 pos] 178)).alloc (.cells #[.int .i64 0,.int .i64 0,.slice none 0 0] 35)) w.heap.size (w.heap.size+1) op num pos text s n c:=
 ⟨ax _ _ _ _ (aj _ _ _ rfl),aj _ _ _ (ah _ _)⟩
theorem XAt.fin {w0:World} {a:Vv} {ty nm:Int} {p:Option Addr} {l cc:Nat} {o:Rn Vv} (h:XAt w X R op num pos text s n c) (hr:RunAt y w r k) (he:Ef y w0 w) (hR:w0.heap.size≤R) (hd:y.D≤w0.heap.size) (hv:VvR y w a (.agg #[.int .i64 ty,.int .i64 nm,.slice p l cc])) (ho:o=.ok a r) :
    Says y (ET y) w0 (VvR y) k o (.returned (.agg #[.int .i64 ty,.int .i64 nm,.slice p l cc])) (((w.setCell ⟨R,0,none⟩ (.int .i64 ty)).setCell ⟨R,1,none⟩ (.int .i64 nm)).setCell ⟨R,2,none⟩ (.slice p l cc)):=by
 subst ho;have ht:OfTy w R 35:=⟨_,_,h.r⟩
 exact ⟨⟨_,rfl,hv.set3 (Nat.le_trans hd hR) ht _ _ _,hr.set3 (Nat.le_trans hd hR) ht _ _ _⟩,he.new3 hR _ _ _⟩
end
theorem Ae {l:List Pr} (h:sL l) (k:List UInt8):((fZ l k).getD []).length≤256:=by
 unfold fZ
 cases hf:l.find? fun p=>p.1==k with
 | none=>simp
 | some p=>exact (h p (List.mem_of_find?_eq_some hf)).2
theorem rq (w:World) (t:ByteArray):Below w.heap.size w (Lib.bytesWorld w 5 t):=
 ⟨rfl,rfl,rfl,by rw [Lib.bytesWorld_size];omega,fun i hi=>Lib.bytesWorld_at_old w _ t i hi⟩
theorem fN (t:ByteArray):t.toList.length=t.size:=by
 rw [ByteArray.toList_eq];rfl
theorem uX (w:World) (t:ByteArray) (hm:t.size≤maxLen):TxtAt (KS 0 (Lib.bytesWorld w 5 t)) (Lib.bytesWorld w 5 t) (.slice (some ⟨w.heap.size,0,none⟩) t.size (grownCap w t.size 0 5)) t.toList:=by
 have e:=fN t;generalize hc:grownCap w t.size 0 5=c;rw [←e];subst hc;refine TxtAt.of_cells (by rw [e];exact grownCap_ge _ _ _ _) ?_ (fun h=>by cases h) fun _=>⟨w.heap.size,0,rfl,.inr ⟨_,_,Lib.bytesWorld_at_new w _ t⟩,fun i hi=>?_⟩
 ·exact grownCap_le_maxLen _ _ _ _ hm
 ·rw [Nat.zero_add,Lib.bytesWorld_cell w _ t i (by omega),ByteArray.toList_eq]
def iU (y:Ly) (m:Nat):Prop:=∀(nm:ByteArray) (vs:List Vv) (av:Value) (r:Rst) (w:World) (f:Fn),cE y.F nm=some f→f.params.length=vs.length→RunAt y w r (kC (m+1))→VsAt y w av vs →
 Calls Tryz.prog 37 #[.pointer (some ⟨y.RB,0,none⟩),.string nm,av] w (Says y (ET y) w (VvR y) (kC (m+1)) (aE y.F (m+1) nm vs r))
def Br (y:Ly) (m:Nat) (text:ByteArray) (ks:List Ex):Prop:=∀(l:List (Nat×Nat)) (σ:List Sc) (r:Rst) (w:World) (num pos:Int) (v:Value),RunAt y w r (kC m)→ChAt y.D w l σ→l≠[]→RepExs (fun b=>b<y.D) w v ks →
 Calls Tryz.prog 179 #[.pointer (some ⟨y.RB,0,none⟩),eT l,.agg #[.int .i64 6,.int .i64 num,.string text,v,.int .i64 pos]] w (Says y (ET y) w (VvR y) (kC m) (iA (aE y.F m) σ text ks r))
theorem RepExs.form {S:Nat→Prop} {w:World} {v:Value} {l:List Ex} (h:RepExs S w v l):∃s c,v=.slice s l.length c:=by
 obtain ⟨cs,⟨s0,cap,h1,_⟩,_⟩:=h;exact ⟨s0,cap,h1⟩
end
end Go.Proofs.YthgcpfkochikfaaGreat
