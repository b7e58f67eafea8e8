/-
  EvalSigns: part 21 of its proof: see the last text.
-/
import Derived.Test.YthgcpfkochikfaaGreatPs08
import Derived.Test.YthgcpfkochikfaaGreatPs09
import Derived.Test.YthgcpfkochikfaaGreatPs20
import Derived.Test.YthgcpfkochikfaaGreatRows
import Derived.Test.YthgcpfkochikfaaGreatPs00
import Derived.Deep.DeepCutAuto
set_option maxRecDepth 100000
set_option maxHeartbeats 16000000
namespace Go.Proofs.YthgcpfkochikfaaGreat
section
open Go.RowKit
def KS (D:Nat) (w:World) (b:Nat):Prop:=b<D∨OfTy w b 5
structure Ly where
 D:Nat
 U:Nat
 RB:Nat
 JB:Nat
 N:Nat
 F:List Fn
def ET (y:Ly) (w:World) (k:Nat):Prop:=k=y.RB∨JT y.JB y.U w k
def Rst.jo (r:Rst):Jo:=⟨r.pairs,r.undo⟩
structure RunAt (y:Ly) (w:World) (r:Rst) (k:Int):Prop where
 box:∃s n c,w.heap[y.RB]?=some (.cells #[.slice s n c,.pointer (some ⟨y.JB,0,none⟩),.int .i64 r.lim,.int .i64 r.used,.int .i64 k] 86 (0,0))∧RepFns (fun b=>b<y.D) w (.slice s n c) y.F
 jo:JAt y.U w y.JB r.jo (y.N+r.used.toNat)
 gas:0≤r.used∧r.used≤r.lim∧r.lim≤100000
 low:y.D≤y.RB∧y.D≤y.JB∧y.D≤y.U∧y.U≤w.heap.size∧y.N≤1000000
section
variable {y:Ly} {w w':World} {r:Rst} {k:Int} {b:Nat} {v:Value} {x:Vv}
theorem RunAt.ty (h:RunAt y w r k):OfTy w y.RB 86:=by
 obtain ⟨_,_,_,h,_⟩:=h.box;exact ⟨_,_,h⟩
theorem RunAt.ne (h:RunAt y w r k):y.RB≠y.JB:=h.ty.ne h.jo.ty (by decide)
theorem KS.not (h:KS y.D w b) (hr:RunAt y w r k):¬ET y w b:=fun q=>by
 have hl:=hr.low;rcases h with h | h
 ·rcases q with q | q | q
  ·omega
  ·omega
  ·have:=q.1;omega
 ·rcases q with rfl | rfl | q
  ·exact h.ne hr.ty (by decide) rfl
  ·exact h.ne hr.jo.ty (by decide) rfl
  ·exact h.ne q.2 (by decide) rfl
theorem KS.keep (h:KS y.D w b) (hb:w'.heap[b]?=w.heap[b]?):KS y.D w' b:=h.imp id (fun q=>q.keep hb)
theorem ET.back (h:ET y w' b) (hb:b<w.heap.size→¬ET y w b→w'.heap[b]?=w.heap[b]?):ET y w b∨w.heap.size≤b:=by
 by_cases hl:b<w.heap.size
 ·by_cases ht:ET y w b
  ·exact .inl ht
  ·have e:=hb hl ht
   rcases h with h | h | h
   ·exact .inl (.inl h)
   ·exact .inl (.inr (.inl h))
   ·exact .inl (.inr (.inr ⟨h.1,h.2.keep e.symm⟩))
 ·exact .inr (Nat.le_of_not_lt hl)
def Ef (y:Ly) (w w':World):Prop:=OnS (ET y w) w w'
theorem Ef.refl (y:Ly) (w:World):Ef y w w:=OnS.refl _ _
theorem Ef.of_below (h:Below w.heap.size w w'):Ef y w w':=OnS.of_below h
theorem Ef.trans {a b c:World} (h:Ef y a b) (g:Ef y b c):Ef y a c:=OnS.new h g fun _ hk=>ET.back hk fun hl hn=>h.block _ hl hn
theorem Ef.set {a b:World} (h:Ef y a b) (j:Nat) (u:Value):Ef y a (b.setCell ⟨y.RB,j,none⟩ u):=OnS.set h (.inl rfl) j u
theorem Ef.jt {a b:World} (h:OnS (JT y.JB y.U a) a b):Ef y a b:=h.mono fun _ hk=>.inr hk
theorem VvAt.stays {D:Nat} (h:VvAt (KS D w) w v x) (hs:Stays (KS D w) w w'):VvAt (KS D w') w' v x:=by
 obtain ⟨p,c,e,ht⟩:=h;refine ⟨p,c,e,?_⟩;obtain ⟨p',c',e',h1,h2,h3,h5⟩:=ht.form;injection e' with e1 _ e3
 subst e1 e3;refine TxtAt.of_cells h1 h2 h3 fun h0=>?_;obtain ⟨b,off,rfl,hb,hl,hc⟩:=h5 h0;exact ⟨b,off,rfl,hb.imp id (fun q=>q.keep (hs.block b hb hl)),fun i hi=>(hs.cell hb hl _).trans (hc i hi)⟩
theorem VvAt.ef (h:VvAt (KS y.D w) w v x) (hr:RunAt y w r k) (he:Ef y w w'):VvAt (KS y.D w') w' v x:=h.stays (he.stays fun _ hb=>hb.not hr)
theorem VvAt.low {D:Nat} (h:VvAt (KS D w) w v x) (hb:Below w.heap.size w w'):VvAt (KS D w') w' v x:=h.stays (Stays.of_below hb)
theorem MapAt.noT {m:List (ByteArray×Value)} {t:TypeId} (h:MapAt w b m):¬OfTy w b t:=fun ⟨_,_,q⟩=>by
 obtain ⟨_,_,h,_⟩:=h;rw [q] at h
 cases h
theorem VvAt.new {B:Nat} (h:VvAt (U8 B w) w v x):VvAt (KS y.D w) w v x:=h.mono fun _ hb=>.inr hb.2
theorem RunAt.below (h:RunAt y w r k) (hb:Below w.heap.size w w'):RunAt y w' r k:=by
 obtain ⟨s,n,c,h1,h2⟩:=h.box;exact ⟨⟨s,n,c,(hb.block _ (af h1)).trans h1,h2.keep (Stays.of_below hb)⟩,h.jo.below hb,h.gas,h.low.1,h.low.2.1,h.low.2.2.1,Nat.le_trans h.low.2.2.2.1 hb.size,h.low.2.2.2.2⟩
theorem RunAt.jset {r':Rst} (h:RunAt y w r k) (he:OnS (JT y.JB y.U w) w w') (hj:JAt y.U w' y.JB r'.jo (y.N+r'.used.toNat)) (hl:r'.lim=r.lim) (hu:r'.used=r.used):RunAt y w' r' k:=by
 obtain ⟨s,n,c,h1,h2⟩:=h.box
 have A:¬JT y.JB y.U w y.RB:=fun q=>by
  rcases q with q | q
  ·exact h.ne q
  ·exact h.ty.ne q.2 (by decide) rfl
 refine ⟨⟨s,n,c,by rw [hl,hu];exact he.obj A h1,h2.keep (he.stays fun b hb q=>?_)⟩,hj,by rw [hl,hu];exact h.gas,h.low.1,h.low.2.1,h.low.2.2.1,Nat.le_trans h.low.2.2.2.1 he.size,h.low.2.2.2.2⟩;have B:b<y.D:=hb;have:=h.low;rcases q with q | q
 ·omega
 ·have:=q.1;omega
theorem RunAt.set {r':Rst} {k':Int} {j:Nat} {u:Value} (h:RunAt y w r k) (hj:r'.jo=r.jo) (hu:r.used≤r'.used) (hg:0≤r'.used∧r'.used≤r'.lim∧r'.lim≤100000)
    (hc:∀s n c,(#[.slice s n c,.pointer (some ⟨y.JB,0,none⟩),.int .i64 r.lim,.int .i64 r.used,.int .i64 k]:Array Value).setIfInBounds j u=#[.slice s n c,.pointer (some ⟨y.JB,0,none⟩),.int .i64 r'.lim,.int .i64 r'.used,.int .i64 k']):RunAt y (w.setCell ⟨y.RB,j,none⟩ u) r' k':=by
 obtain ⟨s,n,c,h1,h2⟩:=h.box;have hs:=au h1 j u;rw [hc] at hs;have A:On y.RB w (w.setCell ⟨y.RB,j,none⟩ u):=(On.refl _ _).set j u;refine ⟨⟨s,n,c,hs,h2.keep (Stays.of_ne A (fun q=>by have q':y.RB<y.D:=q;have:=h.low;omega))⟩,?_,hg,h.low.1,h.low.2.1,h.low.2.2.1,Nat.le_trans h.low.2.2.2.1 A.size,h.low.2.2.2.2⟩;rw [hj];refine (h.jo.keep (Stays.of_ne A fun q=>?_) (A.block _ h.jo.ty.lt (fun e=>h.ne (by injection e with e;exact e.symm))) (fun b _ hb=>A.block b hb.lt (fun e=>hb.ne h.ty (by decide) (by injection e)))).mono (by omega);rcases q with q | q | q | q
 ·exact q.ne h.ty (by decide) rfl
 ·exact q.ne h.ty (by decide) rfl
 ·exact q.ne h.ty (by decide) rfl
 ·exact q.ne h.ty (by decide) rfl
end
end
section
open Go.RowKit Go.MapKept
attribute [local go_sem ↓] Go.wp_at_zero Go.wp_at_succ
section
variable {P:Program} {w:World} {r:Nat} {m:List (ByteArray×Value)} {mt kt et:TypeId}
theorem uY (h:MapAt w r m) (hm:P.underlying mt=some (.map kt et)) (hk:P.underlying kt=some .string) {z:Value} (hz:(zeroValue et).run P w=.ok z w) (k:ByteArray) :
    (Instr.lookup mt (.map (some r)) (.string k) false).run P w=.ok ((aL m k).getD z) w:=by
 obtain ⟨es,c,h1,h2⟩:=h;rcases gU k .nilIface es.toList m 0 h2 with ⟨a1,a2,_⟩ | ⟨j,v,e,a1,a2,_⟩
 ·simp [Instr.lookup,run_underlying hm,Go.MapKept.run_getObj_map h1,run_checkKey hk (k:=.string k) (by simp [IsKey]),run_findKey hk a2,hz,Result.andThen,a1]
 ·simp [Instr.lookup,run_underlying hm,Go.MapKept.run_getObj_map h1,run_checkKey hk (k:=.string k) (by simp [IsKey]),run_findKey hk a2,Result.andThen,a1]
end
theorem fI:Tryz.prog.underlying 123=some (.map 9 35):=by kernel_rfl
theorem ji:Tryz.prog.underlying 9=some .string:=by kernel_rfl
def xJ:Value:=.agg #[.int .i64 0,.int .i64 0,.slice none 0 0]
theorem qg (w:World):(zeroValue 35).run Tryz.prog w=.ok xJ w:=by kernel_rfl
theorem OkV.no:OkV noV:=⟨⟨by decide,by decide⟩,by decide⟩
def MvAt (D:Nat) (w:World):List (ByteArray×Value)→Sc→Prop
 | [],[]=>True
 | p :: mv,q :: m=>p.1=q.1∧(VvAt (KS D w) w p.2 q.2∧OkV q.2)∧MvAt D w mv m
 | _,_=>False
theorem MvAt.imp {D D':Nat} {w w':World} (hk:∀v x,VvAt (KS D w) w v x→VvAt (KS D' w') w' v x):∀{mv:List (ByteArray×Value)} {m:Sc},MvAt D w mv m→MvAt D' w' mv m
 | [],[],_=>trivial
 | _ :: _,_ :: _,h=>⟨h.1,⟨hk _ _ h.2.1.1,h.2.1.2⟩,MvAt.imp hk h.2.2⟩
 | [],_ :: _,h=>h.elim
 | _ :: _,[],h=>h.elim
theorem MvAt.look {D:Nat} {w:World} (k:ByteArray):∀{mv:List (ByteArray×Value)} {m:Sc},MvAt D w mv m→VvAt (KS D w) w ((aL mv k).getD xJ) ((aL m k).getD noV)∧OkV ((aL m k).getD noV)∧(aL mv k).isSome=(aL m k).isSome
 | [],[],_=>⟨VvAt.no,OkV.no,rfl⟩
 | p :: mv,q :: m,h=>by
  rw [aL,aL,h.1];by_cases e:q.1=k
  ·rw [if_pos e,if_pos e]
   exact ⟨h.2.1.1,h.2.1.2,rfl⟩
  ·rw [if_neg e,if_neg e]
   exact MvAt.look k h.2.2
 | [],_ :: _,h=>h.elim
 | _ :: _,[],h=>h.elim
theorem MvAt.put {D:Nat} {w:World} {v:Value} {x:Vv} (hv:VvAt (KS D w) w v x) (ho:OkV x) (k:ByteArray):∀{mv:List (ByteArray×Value)} {m:Sc},MvAt D w mv m→MvAt D w (bZ mv k v) (bZ m k x)
 | [],[],_=>⟨rfl,⟨hv,ho⟩,trivial⟩
 | p :: mv,q :: m,h=>by
  rw [bZ,bZ,h.1];by_cases e:q.1=k
  ·rw [if_pos e,if_pos e]
   exact ⟨rfl,⟨hv,ho⟩,h.2.2⟩
  ·rw [if_neg e,if_neg e]
   exact ⟨h.1,h.2.1,MvAt.put hv ho k h.2.2⟩
 | [],_ :: _,h=>h.elim
 | _ :: _,[],h=>h.elim
def eU:List (Nat×Nat)→Value
 | []=>.pointer none
 | b :: _=>.pointer (some ⟨b.1,0,none⟩)
def ChAt (D:Nat) (w:World):List (Nat×Nat)→List Sc→Prop
 | [],[]=>True
 | b :: l,m :: σ=>(w.heap[b.1]?=some (.cells #[eU l,.map (some b.2)] 125 (0,0))∧D≤b.2∧(∀c∈l,c.2≠b.2)∧∃mv,MapAt w b.2 mv∧MvAt D w mv m)∧ChAt D w l σ
 | _,_=>False
def SfT (y:Ly) (l:List (Nat×Nat)) (w:World) (k:Nat):Prop:=ET y w k∨k∈l.map (·.2)
section
variable {y:Ly} {w w':World} {r:Rst} {k:Int} {b:Nat} {l:List (Nat×Nat)} {σ:List Sc}
theorem MapAt.notET {mv:List (ByteArray×Value)} (h:MapAt w b mv) (hr:RunAt y w r k):¬ET y w b:=fun q=>by
 rcases q with rfl | rfl | q
 ·exact h.noT hr.ty
 ·exact h.noT hr.jo.ty
 ·exact h.noT q.2
theorem wR {A:Array Value} (h:w.heap[b]?=some (.cells A 125 (0,0))) (hr:RunAt y w r k):¬ET y w b:=fun q=>by
 have ho:OfTy w b 125:=⟨_,_,h⟩
 rcases q with rfl | rfl | q
 ·exact ho.ne hr.ty (by decide) rfl
 ·exact ho.ne hr.jo.ty (by decide) rfl
 ·exact ho.ne q.2 (by decide) rfl
theorem ChAt.ef:∀{l:List (Nat×Nat)} {σ:List Sc},ChAt y.D w l σ→RunAt y w r k→Ef y w w'→ChAt y.D w' l σ
 | [],[],_,_,_=>trivial
 | c :: l,m :: σ,h,hr,he=>by
  obtain ⟨⟨h1,h2,h3,mv,h4,h5⟩,h6⟩:=h;exact ⟨⟨he.obj (wR h1 hr) h1,h2,h3,mv,h4.keep (he.block _ h4.lt (h4.notET hr)),h5.imp fun v x q=>q.ef hr he⟩,ChAt.ef h6 hr he⟩
 | [],_ :: _,h,_,_=>h.elim
 | _ :: _,[],h,_,_=>h.elim
theorem ChAt.low {D:Nat}:∀{l:List (Nat×Nat)} {σ:List Sc},ChAt D w l σ→Below w.heap.size w w'→ChAt D w' l σ
 | [],[],_,_=>trivial
 | c :: l,m :: σ,h,he=>by
  obtain ⟨⟨h1,h2,h3,mv,h4,h5⟩,h6⟩:=h;exact ⟨⟨(he.block _ (af h1)).trans h1,h2,h3,mv,h4.below he,h5.imp fun v x q=>q.low he⟩,ChAt.low h6 he⟩
 | [],_ :: _,h,_=>h.elim
 | _ :: _,[],h,_=>h.elim
theorem ChAt.len {D:Nat}:∀{l:List (Nat×Nat)} {σ:List Sc},ChAt D w l σ→l.length=σ.length
 | [],[],_=>rfl
 | _ :: l,_ :: σ,h=>by rw [List.length_cons,List.length_cons,ChAt.len h.2]
 | [],_ :: _,h=>h.elim
 | _ :: _,[],h=>h.elim
theorem ChAt.lt {D:Nat}:∀{l:List (Nat×Nat)} {σ:List Sc},ChAt D w l σ→∀c∈l,c.2<w.heap.size
 | [],[],_,c,hc=>by cases hc
 | _ :: l,_ :: σ,h,c,hc=>by
  rcases List.mem_cons.1 hc with rfl | hc
  ·obtain ⟨⟨_,_,_,mv,h4,_⟩,_⟩:=h
   exact h4.lt
  ·exact ChAt.lt h.2 c hc
 | [],_ :: _,h,_,_=>h.elim
 | _ :: _,[],h,_,_=>h.elim
theorem ChAt.off {D mb:Nat}:∀{l:List (Nat×Nat)} {σ:List Sc},ChAt D w l σ→On mb w w'→(∃mv,MapAt w mb mv)→(∀c∈l,c.2≠mb)→D≤mb→ChAt D w' l σ
 | [],[],_,_,_,_,_=>trivial
 | c :: l,m :: σ,h,ho,hm,hn,hd=>by
  obtain ⟨⟨h1,h2,h3,mv,h4,h5⟩,h6⟩:=h;obtain ⟨mv',A⟩:=id hm
  have hs:Stays (KS D w) w w':=Stays.of_ne ho fun q=>by
   rcases q with q | q
   ·omega
   ·exact A.noT q
  exact ⟨⟨ho.obj (fun e=>by subst e;exact A.noT ⟨_,_,h1⟩) h1,h2,h3,mv,h4.keep (ho.block _ h4.lt (fun e=>hn c (List.mem_cons_self ..) (by injection e))),h5.imp fun v x q=>VvAt.stays q hs⟩,ChAt.off h6 ho hm (fun c hc=>hn c (List.mem_cons_of_mem _ hc)) hd⟩
 | [],_ :: _,h,_,_,_,_=>h.elim
 | _ :: _,[],h,_,_,_,_=>h.elim
end
end
section
open Go.RowKit
def AM (L U n:Int):Bool:=decide (0≤U∧U≤L∧0≤n∧n≤L-U)
def Bo (L U n:Int):Int:=if 0≤U∧U≤L∧0≤n∧n≤L-U then U+n else L
theorem uD {L U n:Int} (h:0≤U∧U≤L∧0≤n∧n≤L-U):Bo L U n=U+n∧AM L U n=true:=⟨if_pos h,decide_eq_true h⟩
theorem xx {L U n:Int} (h:¬(0≤U∧U≤L∧0≤n∧n≤L-U)):Bo L U n=L∧AM L U n=false:=⟨if_neg h,decide_eq_false h⟩
def eE (L:Int):Int:=max 0 (min L 100000)
def kW (n:Int):Int:=max 0 n / 16
def o9 (n:Int):Int:=max 0 (min n 2147483648)
def Bi (k v:Int):Int:=4+(o9 k+o9 v) / 16
theorem Ab (L U n:Int) (w:World) (hL:-9223372036854775808≤L∧L≤9223372036854775807) (hU:-9223372036854775808≤U∧U≤9223372036854775807) (hn:-9223372036854775808≤n∧n≤9223372036854775807) :
    Calls Tryz.prog 151 #[.agg #[.int .i64 L,.int .i64 U],.int .i64 n] w fun e w'=>e=.returned (.tuple #[.agg #[.int .i64 L,.int .i64 (Bo L U n)],.bool (AM L U n)])∧Below w.heap.size w w':=by
 go_enter Tryz.func151,Tryz.ntmps151
 go_wp2
 all_goals
  refine bodyPost_ret (v:=.tuple #[.agg #[.int .i64 L,.int .i64 (Bo L U n)],.bool (AM L U n)]) ?_ rfl ⟨rfl,((Below.refl _ _).alloc (Nat.le_refl _) _).alloc (by simp) _⟩;by_cases hc:0≤U∧U≤L∧0≤n∧n≤L-U
  ·obtain ⟨e1,e2⟩:=uD hc
   rw [e1,e2];first | (exfalso;omega) | simp [results,Tryz.results151,go_sem]
  ·obtain ⟨e1,e2⟩:=xx hc
   rw [e1,e2];first | (exfalso;omega) | simp [results,Tryz.results151,go_sem]
theorem uy (L:Int) (w:World) (_hL:-9223372036854775808≤L∧L≤9223372036854775807) :
    Calls Tryz.prog 34 #[.int .i64 L] w fun e w'=>e=.returned (.agg #[.int .i64 (eE L),.int .i64 0])∧Below w.heap.size w w':=by
 go_enter Tryz.func34,Tryz.ntmps34
 go_wp2
 all_goals
  refine bodyPost_ret (v:=.agg #[.int .i64 (eE L),.int .i64 0]) ?_ rfl ⟨rfl,(Below.refl _ _).alloc (Nat.le_refl _) _⟩;simp [results,Tryz.results34,go_sem,eE]
  try omega
theorem vF (n:Int) (w:World) (hn:-9223372036854775808≤n∧n≤9223372036854775807) :
    Calls Tryz.prog 154 #[.int .i64 n] w fun e w'=>e=.returned (.int .i64 (kW n))∧w=w':=by
 go_enter Tryz.func154,Tryz.ntmps154
 go_wp2
 all_goals
  go_ret
  exact ⟨eQ (by unfold kW;omega),rfl⟩
theorem AG (k v:Int) (w:World) (hk:-9223372036854775808≤k∧k≤9223372036854775807) (hv:-9223372036854775808≤v∧v≤9223372036854775807) :
    Calls Tryz.prog 109 #[.int .i64 k,.int .i64 v] w fun e w'=>e=.returned (.int .i64 (Bi k v))∧w=w':=by
 go_enter Tryz.func109,Tryz.ntmps109
 go_wp2
 all_goals
  go_ret
  exact ⟨eQ (by unfold Bi o9;omega),rfl⟩
end
section
open Go.RowKit
attribute [local go_sem ↓] Go.wp_at_zero Go.wp_at_succ
def Trp (t:Int):Ending:=.panicked [{ v:=.iface 36 (.int .i64 t),recovered:=false }]
def Says {α:Type} (y:Ly) (T:World→Nat→Prop) (w:World) (R:World→α→Value→Prop) (k:Int) (o:Rn α) (e:Ending) (w':World):Prop:=(match o with
  | .ok a r=>∃v,e=.returned v∧R w' a v∧RunAt y w' r k
  | .trap t r=>e=Trp t∧∃k',RunAt y w' r k')∧OnS (T w) w w'
theorem Says.cases {α:Type} {y:Ly} {T:World→Nat→Prop} {w:World} {R:World→α→Value→Prop} {k:Int} {o:Rn α} {e:Ending} {w':World} (h:Says y T w R k o e w') :
    (∃a r v,o=.ok a r∧e=.returned v∧R w' a v∧RunAt y w' r k∧OnS (T w) w w')∨(∃t r k',o=.trap t r∧e=Trp t∧RunAt y w' r k'∧OnS (T w) w w'):=by
 obtain ⟨h,ho⟩:=h
 cases o with
 | ok a r =>
  obtain ⟨v,h1,h2,h3⟩:=h;exact .inl ⟨a,r,v,rfl,h1,h2,h3,ho⟩
 | trap t r =>
  obtain ⟨h1,k',h2⟩:=h;exact .inr ⟨t,r,k',rfl,h1,h2,ho⟩
theorem eZ {y:Ly} {r:Rst} {k:Int} (n:Int) (w:World) (h:RunAt y w r k) (hn:0≤n∧n≤1000000000000000000) :
    Calls Tryz.prog 105 #[.pointer (some ⟨y.RB,0,none⟩),.int .i64 n] w (Says y (ET y) w (fun _ _ v=>v=.tuple #[]) k (dy n r)):=by
 obtain ⟨s,n0,c,h1,h2⟩:=h.box;have hg:=h.gas;have HU:=zh (Ab r.lim r.used n w (by omega) (by omega) (by omega));have HH:=zh h;have H1:=zh h1;have x2:=aa h1 (j:=2) (u:=.int .i64 r.lim) rfl;have x3:=aa h1 (j:=3) (u:=.int .i64 r.used) rfl;have y2:=ae h1 2;have y3:=ae h1 3;clear h h1 h2;go_enter Tryz.func105,Tryz.ntmps105
 by_cases hc:n≤r.lim-r.used
 ·obtain ⟨e1,e2⟩:=uD (L:=r.lim) (U:=r.used) (n:=n) ⟨by omega,by omega,by omega,hc⟩
  rw [e1,e2] at HU;have HO:Hd (dy n r=.ok () { r with used:=r.used+n }):=zh (if_pos hc);have HS:=zh hg;have HN:=zh (And.intro hn hc);clear e1 e2 hc hg;go_wp2_with fail
  refine HU.o.mono ?_;rintro e w1 ⟨rfl,hb⟩;have hz:=(hb.block _ (af H1.o)).trans H1.o;have x2:=aa hz (j:=2) (u:=.int .i64 r.lim) rfl;have x3:=aa hz (j:=3) (u:=.int .i64 r.used) rfl;have y2:=ae hz 2;have y3:=ae hz 3;have HB:=zh hb;have A:=zh (HH.o.below hb);clear hb hz;go_wp2_with fail
  refine bodyPost_end (v:=.tuple #[]) (by simp [results,Tryz.results105,go_sem]) rfl ?_;rw [HO.o];have hs:=HS.o;have B:=HN.o;exact ⟨⟨_,rfl,rfl,RunAt.set (r':={ r with used:=r.used+n }) (RunAt.set (r':=r) (k':=k) A.o rfl (Int.le_refl _) hs (fun _ _ _=>rfl)) rfl (by show r.used≤r.used+n;omega) ⟨by show 0≤r.used+n;omega,by show r.used+n≤r.lim;omega,hs.2.2⟩ (fun _ _ _=>rfl)⟩,((OnS.of_below HB.o).set (.inl rfl) 2 _).set (.inl rfl) 3 _⟩
 ·obtain ⟨e1,e2⟩:=xx (L:=r.lim) (U:=r.used) (n:=n) (fun q=>hc q.2.2.2)
  rw [e1,e2] at HU;have HO:Hd (dy n r=.trap 1 { r with used:=r.lim }):=zh (if_neg hc);have HS:=zh hg;clear e1 e2 hc hg;go_wp2_with fail
  refine HU.o.mono ?_;rintro e w1 ⟨rfl,hb⟩;have hz:=(hb.block _ (af H1.o)).trans H1.o;have x2:=aa hz (j:=2) (u:=.int .i64 r.lim) rfl;have x3:=aa hz (j:=3) (u:=.int .i64 r.used) rfl;have y2:=ae hz 2;have y3:=ae hz 3;have HB:=zh hb;have A:=zh (HH.o.below hb);clear hb hz;go_wp2_with fail
  refine ⟨rfl,?_⟩;rw [HO.o];have hs:=HS.o;exact ⟨⟨rfl,k,RunAt.set (r':={ r with used:=r.lim }) (RunAt.set (r':=r) (k':=k) A.o rfl (Int.le_refl _) hs (fun _ _ _=>rfl)) rfl hs.2.1 ⟨by show 0≤r.lim;omega,Int.le_refl _,hs.2.2⟩ (fun _ _ _=>rfl)⟩,((OnS.of_below HB.o).set (.inl rfl) 2 _).set (.inl rfl) 3 _⟩
theorem jZ (D:Nat) (l:List (Nat×Nat)) (σ:List Sc) (w:World) (h:ChAt D w l σ) (hd:D≤w.heap.size):Calls Tryz.prog 56 #[eU l] w fun e w'=>∃b,e=.returned (eU (b :: l))∧ChAt D w' (b :: l) ([] :: σ)∧(w.heap.size≤b.1∧w.heap.size≤b.2)∧Below w.heap.size w w':=by
 have hb:Below w.heap.size w ((w.alloc (.map #[] 0)).alloc (.cells #[eU l,.map (some w.heap.size)] 125)):=ag (ag (Below.refl _ _) _) _;have HC:Hd (ChAt D ((w.alloc (.map #[] 0)).alloc (.cells #[eU l,.map (some w.heap.size)] 125)) ((w.heap.size+1,w.heap.size) :: l) ([] :: σ)):=zh ⟨⟨aj _ _ _ (ah _ _),hd,fun c hc=>Nat.ne_of_lt (h.lt c hc),[],(MapAt.made w rfl).below (ag (Below.refl _ _) _),trivial⟩,h.low hb⟩;have HB:=zh hb;obtain ⟨p,hp⟩:∃p,eU l=.pointer p:=by cases l<;>exact ⟨_,rfl⟩
 rw [hp] at HC HB ⊢;clear h hb hp;have A:=@run_makeMap Tryz.prog;go_enter Tryz.func56,Tryz.ntmps56
 go_wp2_with fail
 exact bodyPost_ret (v:=.pointer (some ⟨w.heap.size+1,0,none⟩)) (by simp [results,Tryz.results56,go_sem]) rfl ⟨(w.heap.size+1,w.heap.size),rfl,HC.o,⟨Nat.le_succ _,Nat.le_refl _⟩,HB.o⟩
theorem eC (a b:Int) (p:Option Addr) (n c:Nat) (t:Int) (w:World):Calls Tryz.prog 180 #[.agg #[.int .i64 a,.int .i64 b,.slice p n c],.int .i64 t] w fun e w'=>e=(if t=0 then .returned (.agg #[.int .i64 a,.int .i64 b,.slice p n c]) else Trp t)∧Below w.heap.size w w':=by
 by_cases h:t=0
 ·subst h
  rw [if_pos rfl];go_enter Tryz.func180,Tryz.ntmps180
  go_wp2_with fail
  exact bodyPost_ret (v:=.agg #[.int .i64 a,.int .i64 b,.slice p n c]) (by simp [results,Tryz.results180,go_sem]) rfl ⟨rfl,ag (ag (Below.refl _ _) _) _⟩
 ·rw [if_neg h]
  have e1:(t !=0)=true:=bne_iff_ne.2 h;clear h;unfold Trp;go_enter Tryz.func180,Tryz.ntmps180
  go_wp2_with fail
  exact ⟨rfl,rfl,ag (ag (Below.refl _ _) _) _⟩
def d8:List Sc→ByteArray→Nat
 | [],_=>0
 | [_],_=>0
 | m :: n :: l,x=>if gM m x then 0 else d8 (n :: l) x+1
theorem lT:∀{σ:List Sc} (x:ByteArray),σ≠[]→d8 σ x<σ.length
 | [],_,h=>absurd rfl h
 | [_],_,_=>Nat.zero_lt_one
 | m :: n :: l,x,_=>by
  rw [d8];split
  ·exact Nat.succ_pos _
  ·exact Nat.succ_lt_succ (lT x (by simp))
theorem rh:∀(σ:List Sc) (x:ByteArray),fP σ x=(aL (σ.getD (d8 σ x) []) x).getD noV
 | [],_=>rfl
 | [_],_=>rfl
 | m :: n :: l,x=>by
  rw [fP,d8];split
  ·rfl
  ·rw [rh (n :: l) x];rfl
def bxA (l:List (Nat×Nat)) (i:Nat):Nat:=(l.getD i default).1
def mpA (l:List (Nat×Nat)) (i:Nat):Nat:=(l.getD i default).2
theorem ChAt.at {D:Nat} {w:World}:∀{l:List (Nat×Nat)} {σ:List Sc} {i:Nat},ChAt D w l σ→i<l.length →
    (w.heap[bxA l i]?=some (.cells #[eU (l.drop (i+1)),.map (some (mpA l i))] 125 (0,0))∧D≤mpA l i∧∃mv,MapAt w (mpA l i) mv∧MvAt D w mv (σ.getD i []))
 | [],_,_,_,h=>absurd h (Nat.not_lt_zero _)
 | _ :: _,[],_,h,_=>h.elim
 | c :: l,m :: σ,0,h,_=>by
  obtain ⟨⟨h1,h2,_,mv,h4,h5⟩,_⟩:=h;exact ⟨h1,h2,mv,h4,h5⟩
 | c :: l,m :: σ,i+1,h,hi=>ChAt.at (i:=i) h.2 (by simpa using hi)
theorem oq {σ:List Sc} {x:ByteArray} {i:Nat} (h:i<d8 σ x):gM (σ.getD i []) x=false∧i+1<σ.length:=by
 induction σ generalizing i with
 | nil=>exact absurd h (Nat.not_lt_zero _)
 | cons m σ ih =>
  cases σ with
  | nil=>exact absurd h (Nat.not_lt_zero _)
  | cons n l =>
   rw [d8] at h;by_cases e:gM m x=true
   ·rw [if_pos e] at h;exact absurd h (Nat.not_lt_zero _)
   ·rw [if_neg e] at h
    cases i with
    | zero=>exact ⟨by simpa using e,by simp⟩
    | succ i =>
     have:=ih (i:=i) (by omega);exact ⟨this.1,by simpa using this.2⟩
theorem xQ {σ:List Sc} {x:ByteArray} (h:d8 σ x+1<σ.length):gM (σ.getD (d8 σ x) []) x=true:=by
 induction σ with
 | nil=>exact absurd h (by simp)
 | cons m σ ih =>
  cases σ with
  | nil=>exact absurd h (by simp [d8])
  | cons n l =>
   rw [d8] at h ⊢;by_cases e:gM m x=true
   ·rw [if_pos e];exact e
   ·rw [if_neg e] at h ⊢
    exact ih (by simpa using h)
theorem lf {l:List (Nat×Nat)} {i:Nat} (h:i<l.length):eU (l.drop i)=.pointer (some ⟨bxA l i,0,none⟩):=by
 unfold bxA;rw [List.drop_eq_getElem_cons h,List.getD_eq_getElem?_getD,List.getElem?_eq_getElem h];rfl
theorem zm {l:List (Nat×Nat)} {i:Nat} (h:l.length≤i):eU (l.drop i)=.pointer none:=by
 rw [List.drop_eq_nil_of_le h];rfl
theorem yT (D:Nat) (l:List (Nat×Nat)) (σ:List Sc) (x:ByteArray) (w:World) (h:ChAt D w l σ) (hn:l≠[]):Calls Tryz.prog 107 #[eU l,.string x] w fun e w'=>e=.returned (.pointer (some ⟨bxA l (d8 σ x),0,none⟩))∧Below w.heap.size w w':=by
 have B:=h.len;have HL:Hd (l.length=σ.length):=zh B;have J:Hd (d8 σ x<l.length):=zh (by rw [B];exact lT x (fun e=>hn (List.eq_nil_of_length_eq_zero (by rw [B,e];rfl))));have HH:=zh h;have h0:=lf (l:=l) (i:=0) (by have:=J.o;omega);rw [List.drop_zero] at h0;rw [h0];clear h hn B h0;go_enter Tryz.func107,Tryz.ntmps107
 go_wp2_with fail
 go_loopg [0] (d8 σ x+1) (fun gg t0 wr=>∃i:Nat,i+gg=d8 σ x+1∧0<gg∧t0=.pointer (some ⟨bxA l i,0,none⟩)∧Below w.heap.size w wr)
 case atStart=>exact ⟨0,Nat.zero_add _,Nat.succ_pos _,rfl,Below.refl _ _⟩
 case round =>
  obtain ⟨i,K,hg,rfl,hb⟩:=hrel;have HB:=zh hb;have HG:=zh K;have G:i<l.length:=by have:=J.o;omega
  obtain ⟨h1,h2,mv,h4,h5⟩:=(HH.o.low hb).at G;have M:=af h1;have x0:=aa h1 (j:=0) (u:=eU (l.drop (i+1))) rfl;have x1:=aa h1 (j:=1) (u:=.map (some (mpA l i))) rfl;have E:=fK h4 fI ji (qg wr) x;rw [(h5.look x).2.2] at E;obtain ⟨pv,cv,F,_⟩:=(h5.look x).1;rw [F] at E;by_cases A:i+1<l.length
  ·rw [lf A] at x0
   by_cases I:i<d8 σ x
   ·have H:=(oq I).1
    unfold gM at H;rw [H] at E;clear hb h1 h4 h5 F H A G;go_wp2_with fail
    go_roundg (d8 σ x-i)
    case measure=>have:=HG.o;omega
    case rel=>exact ⟨i+1,by have:=HG.o;omega,by omega,rfl,ag HB.o _⟩
   ·obtain rfl:i=d8 σ x:=by have:=HG.o;omega
    have C:=xQ (σ:=σ) (x:=x) (by have:=HL.o;omega);unfold gM at C;rw [C] at E;clear hb h1 h4 h5 F C A G I;go_wp2_with fail
    exact bodyPost_ret (v:=.pointer (some ⟨bxA l (d8 σ x),0,none⟩)) (by simp [results,Tryz.results107,go_sem]) rfl ⟨rfl,ag HB.o _⟩
  ·rw [zm (Nat.le_of_not_lt A)] at x0
   have L:i=d8 σ x:=by
    by_cases q:i<d8 σ x
    ·have:=(oq q).2
     have:=HL.o;omega
    ·have:=HG.o;omega
   subst L;clear hb h1 h4 h5 F E A G;go_wp2_with fail
   exact bodyPost_ret (v:=.pointer (some ⟨bxA l (d8 σ x),0,none⟩)) (by simp [results,Tryz.results107,go_sem]) rfl ⟨rfl,HB.o⟩
end
section
open Go.RowKit
mutual
def WfE (F:List Fn):Ex→Prop
 | .mk op num text ks _=>(bf num∧(op=3→text.size≤256)∧(op=5→∃f,cD F text=some f∧f.params.length=ks.length)∧(op=6→ks.length=2∧AX text.toList)∧(op=7→ks.length=1∧(text.toList=[45]∨text.toList=[33]))∧(op=8∨op=9∨op=10→ks.length=1)∧1≤op∧op≤10)∧WfEs F ks
def WfEs (F:List Fn):List Ex→Prop
 | []=>True
 | x :: l=>WfE F x∧WfEs F l
end
theorem WfEs.at {F:List Fn}:∀{l:List Ex} {i:Nat},WfEs F l→i<l.length→WfE F (l.getD i default)
 | [],_,_,h=>absurd h (Nat.not_lt_zero _)
 | x :: l,0,h,_=>by rw [WfEs] at h;exact h.1
 | x :: l,i+1,h,hi=>by
  rw [WfEs] at h;exact WfEs.at (i:=i) h.2 (by simpa using hi)
def VvR (y:Ly) (w:World) (x:Vv) (v:Value):Prop:=VvAt (KS y.D w) w v x∧OkV x
def VB (D:Nat) (w:World) (b:Nat):Prop:=b<D∨OfTy w b 35
def VsAt (y:Ly) (w:World) (v:Value) (vs:List Vv):Prop:=∃cs,RowOf (VB y.D w) w v 3 vs.length cs∧∀i,i<vs.length→VvR y w (vs.getD i noV) (.agg (cs i).toArray)
section
variable {y:Ly} {w w':World} {r:Rst} {k:Int} {b:Nat} {v:Value} {x:Vv} {vs:List Vv}
theorem VvR.low (h:VvR y w x v) (hb:Below w.heap.size w w'):VvR y w' x v:=⟨h.1.low hb,h.2⟩
theorem VvR.ef (h:VvR y w x v) (hr:RunAt y w r k) (he:Ef y w w'):VvR y w' x v:=⟨h.1.ef hr he,h.2⟩
theorem VB.not (h:VB y.D w b) (hr:RunAt y w r k):¬ET y w b:=fun q=>by
 have hl:=hr.low;rcases h with h | h
 ·rcases q with q | q | q
  ·omega
  ·omega
  ·have:=q.1;omega
 ·rcases q with rfl | rfl | q
  ·exact h.ne hr.ty (by decide) rfl
  ·exact h.ne hr.jo.ty (by decide) rfl
  ·exact h.ne q.2 (by decide) rfl
theorem VB.keep {D:Nat} (h:VB D w b) (hb:w'.heap[b]?=w.heap[b]?):VB D w' b:=h.imp id (fun q=>q.keep hb)
theorem RowOf.vb {D sz n:Nat} {cs:Nat→List Value} (h:RowOf (VB D w) w v sz n cs) (hs:Stays (VB D w) w w'):RowOf (VB D w') w' v sz n cs:=by
 obtain ⟨s0,cap,e,h1,h2,h3,h5,h6⟩:=h;refine ⟨s0,cap,e,h1,h2,h3,fun h0=>?_,h6⟩;obtain ⟨b,off,e,hb,hl,hc⟩:=h5 h0;exact ⟨b,off,e,hb.keep (hs.block b hb hl),Nat.lt_of_lt_of_le hl hs.size,fun i hi j hj=>(hs.cell hb hl _).trans (hc i hi j hj)⟩
theorem VsAt.stays (h:VsAt y w v vs) (hs:Stays (VB y.D w) w w') (hk:Stays (KS y.D w) w w'):VsAt y w' v vs:=by
 obtain ⟨cs,h1,h2⟩:=h;exact ⟨cs,h1.vb hs,fun i hi=>⟨(h2 i hi).1.stays hk,(h2 i hi).2⟩⟩
theorem VsAt.ef (h:VsAt y w v vs) (hr:RunAt y w r k) (he:Ef y w w'):VsAt y w' v vs:=by
 obtain ⟨cs,h1,h2⟩:=h;exact ⟨cs,h1.vb (he.stays fun b hb=>hb.not hr),fun i hi=>(h2 i hi).ef hr he⟩
theorem VsAt.low (h:VsAt y w v vs) (hb:Below w.heap.size w w'):VsAt y w' v vs:=by
 obtain ⟨cs,h1,h2⟩:=h;exact ⟨cs,h1.vb (Stays.of_below hb),fun i hi=>(h2 i hi).low hb⟩
theorem RunAt.offs {T:Nat→Prop} (h:RunAt y w r k) (ho:OnS T w w') (hT:∀b,T b→y.D≤b∧∀t,OfTy w b t→t=35):RunAt y w' r k:=by
 obtain ⟨s,n,c,h1,h2⟩:=h.box;have A:∀{t:TypeId} {a:Nat},OfTy w a t→t≠35→¬T a:=fun q e e2=>e ((hT _ e2).2 _ q);refine ⟨⟨s,n,c,ho.obj (A h.ty (by decide)) h1,h2.keep (ho.stays (fun b hb q=>by have q':b<y.D:=hb;have:=(hT b q).1;omega))⟩,h.jo.keep (ho.stays fun b hb q=>?_) (ho.block _ h.jo.ty.lt (A h.jo.ty (by decide))) (fun a _ q=>ho.block a q.lt (A q (by decide))),h.gas,h.low.1,h.low.2.1,h.low.2.2.1,Nat.le_trans h.low.2.2.2.1 ho.size,h.low.2.2.2.2⟩;rcases hb with g | g | g | g
 ·exact absurd ((hT b q).2 _ g) (by decide)
 ·exact absurd ((hT b q).2 _ g) (by decide)
 ·exact absurd ((hT b q).2 _ g) (by decide)
 ·exact absurd ((hT b q).2 _ g) (by decide)
theorem RunAt.off (h:RunAt y w r k) (ho:On b w w') (hd:y.D≤b) (hn:∀t,OfTy w b t→t=35):RunAt y w' r k:=
 h.offs (OnS.of_on ho (T:=fun k=>k=b) rfl) fun _ hk=>hk▸⟨hd,hn⟩
theorem OfTy.one {t u:TypeId} (h:OfTy w b t) (g:OfTy w b u):u=t:=by
 by_cases e:u=t
 ·exact e
 ·exact absurd rfl (g.ne h e)
theorem RunAt.set3 (h:RunAt y w r k) (hd:y.D≤b) (ht:OfTy w b 35) (p q s:Value):RunAt y (((w.setCell ⟨b,0,none⟩ p).setCell ⟨b,1,none⟩ q).setCell ⟨b,2,none⟩ s) r k:=
 h.off ((((On.refl b w).set 0 p).set 1 q).set 2 s) hd fun _ g=>ht.one g
theorem VvR.set3 (h:VvR y w x v) (hd:y.D≤b) (ht:OfTy w b 35) (p q s:Value):VvR y (((w.setCell ⟨b,0,none⟩ p).setCell ⟨b,1,none⟩ q).setCell ⟨b,2,none⟩ s) x v:=
 ⟨h.1.stays (fO (fun g=>by
   rcases g with g | g
   · omega
   · exact absurd (ht.one g) (by decide)) p q s),h.2⟩
theorem Ef.new3 {a:World} (h:Ef y a w) (hb:a.heap.size≤b) (p q s:Value):Ef y a (((w.setCell ⟨b,0,none⟩ p).setCell ⟨b,1,none⟩ q).setCell ⟨b,2,none⟩ s):=
 OnS.new h (OnS.of_on ((((On.refl b w).set 0 p).set 1 q).set 2 s) (T:=fun k=>k=b) rfl) fun _ hi=>.inr (hi▸hb)
theorem Ef.low {a:World} (h:Below a.heap.size a w) (g:Ef y w w'):Ef y a w':=(Ef.of_below h).trans g
end
theorem OkV.nm {n:Int} (h:bf n):OkV (aB n):=⟨h,Nat.zero_le _⟩
theorem OkV.bool (b:Bool):OkV (aW b):=⟨by cases b<;>exact ⟨by decide,by decide⟩,Nat.zero_le _⟩
theorem OkV.txt {s:List UInt8} (h:s.length≤256):OkV (aE s):=⟨(⟨by decide,by decide⟩:bf 0),h⟩
theorem OkV.inV (n:Int):OkV (inV n).1:=by
 unfold Go.Proofs.YthgcpfkochikfaaGreat.inV;split
 ·rename_i h;exact OkV.nm h
 ·exact OkV.no
theorem Ap {a b:Int} (ha:bf a):bf (a.tmod b):=by
 unfold bf at *;have e:=Int.natAbs_tmod a b;have:=Nat.mod_le a.natAbs b.natAbs;by_cases h0:b=0
 ·subst h0;rw [Int.tmod_zero];exact ha
 ·by_cases h1:0≤a
  ·have:=Int.tmod_nonneg b h1
   omega
  ·have h2:=Int.tmod_nonneg b (show 0≤-a by omega)
   rw [Int.neg_tmod] at h2;omega
theorem OkV.two {s:List UInt8} {a b:Vv} (oa:OkV a):OkV (cJ s a b).1:=by
 unfold cJ;split
 ·exact OkV.no
 split
 ·unfold eK
  split
  ·exact OkV.inV _
  split
  ·exact OkV.inV _
  split
  ·exact OkV.inV _
  split
  ·unfold iz
   split
   ·exact OkV.no
   split
   ·exact OkV.no
   ·rename_i h0 h1
    exact OkV.nm (pC oa.num h0 h1)
  split
  ·unfold iz
   split
   ·exact OkV.no
   split
   ·exact OkV.no
   ·exact OkV.nm (Ap oa.num)
  split
  ·exact OkV.bool _
  split
  ·exact OkV.bool _
  split
  ·exact OkV.bool _
  split
  ·exact OkV.bool _
  split
  ·exact OkV.bool _
  split
  ·exact OkV.bool _
  ·exact OkV.no
 split
 ·unfold dW
  split
  ·exact OkV.bool _
  split
  ·exact OkV.bool _
  split
  ·exact OkV.bool _
  split
  ·exact OkV.bool _
  ·exact OkV.no
 split
 ·unfold dV
  split
  ·exact OkV.bool _
  split
  ·exact OkV.bool _
  split
  ·split
   ·exact OkV.no
   ·rename_i h;exact OkV.txt (by rw [List.length_append];omega)
  ·exact OkV.no
 ·exact OkV.no
theorem OkV.one {s:List UInt8} {a:Vv} (oa:OkV a):OkV (eG s a).1:=by
 unfold eG;split
 ·split
  ·exact OkV.no
  ·exact OkV.nm (by have:=oa.num;unfold bf at *;omega)
 split
 ·exact OkV.bool _
 ·exact OkV.no
end
end Go.Proofs.YthgcpfkochikfaaGreat
