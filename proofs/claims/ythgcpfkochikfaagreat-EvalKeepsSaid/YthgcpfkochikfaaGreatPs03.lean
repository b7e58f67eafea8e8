/-
  EvalSigns: part 3 of its proof: see the last text.
-/
import Derived.Test.YthgcpfkochikfaaGreatPs01
import Derived.Test.YthgcpfkochikfaaGreatPs02
import Derived.Test.YthgcpfkochikfaaGreatPs00
import Derived.Deep.AppendLies
import Derived.Laws.AppendOwnNone
import Derived.StillTail
set_option maxRecDepth 100000
set_option maxHeartbeats 16000000
namespace Go.Proofs.YthgcpfkochikfaaGreat
section
open Go.RowKit
attribute [local go_sem ↓] Go.wp_at_zero Go.wp_at_succ
def VvAt (S:Nat→Prop) (w:World) (v:Value) (x:Vv):Prop:=∃p c,v=.agg #[.int .i64 x.ty,.int .i64 x.num,.slice p x.text.length c]∧TxtAt S w (.slice p x.text.length c) x.text
def nb (b:Bool):Int:=if b then 1 else 0
structure OkV (x:Vv):Prop where
 num:bf x.num
 text:x.text.length≤256
section
variable {S S':Nat→Prop} {w w':World} {v:Value} {x:Vv}
theorem VvAt.keep (h:VvAt S w v x) (hk:Stays S w w'):VvAt S w' v x:=by
 obtain ⟨p,c,e,q⟩:=h;exact ⟨p,c,e,q.keep hk⟩
theorem VvAt.mono (h:VvAt S w v x) (hb:∀b,S b→S' b):VvAt S' w v x:=by
 obtain ⟨p,c,e,q⟩:=h;exact ⟨p,c,e,q.mono hb⟩
theorem VvAt.num {n:Int}:VvAt S w (.agg #[.int .i64 1,.int .i64 n,.slice none 0 0]) (aB n):=⟨none,0,rfl,TxtAt.nil _ _⟩
theorem VvAt.no:VvAt S w (.agg #[.int .i64 0,.int .i64 0,.slice none 0 0]) noV:=⟨none,0,rfl,TxtAt.nil _ _⟩
theorem VvAt.bool {b:Bool}:VvAt S w (.agg #[.int .i64 2,.int .i64 (nb b),.slice none 0 0]) (aW b):=⟨none,0,rfl,TxtAt.nil _ _⟩
theorem VvAt.text {p:Option Addr} {c:Nat} {l:List UInt8} (h:TxtAt S w (.slice p l.length c) l):VvAt S w (.agg #[.int .i64 3,.int .i64 0,.slice p l.length c]) (aE l):=⟨p,c,rfl,h⟩
end
theorem bN {w:World} {k:Nat} {x y z:Value} {t:TypeId} (h:w.heap[k]?=some (.cells #[x,y,z] t (0,0))) (a b c:Value) :
    (((w.setCell ⟨k,0,none⟩ a).setCell ⟨k,1,none⟩ b).setCell ⟨k,2,none⟩ c).cell? ⟨k,0,none⟩=some a∧(((w.setCell ⟨k,0,none⟩ a).setCell ⟨k,1,none⟩ b).setCell ⟨k,2,none⟩ c).cell? ⟨k,1,none⟩=some b∧(((w.setCell ⟨k,0,none⟩ a).setCell ⟨k,1,none⟩ b).setCell ⟨k,2,none⟩ c).cell? ⟨k,2,none⟩=some c:=by
 have h3:=au (au (au h 0 a) 1 b) 2 c;exact ⟨aa h3 rfl,aa h3 rfl,aa h3 rfl⟩
theorem aJ {w0 w:World} {k:Nat} (h:Below w0.heap.size w0 w) (hk:w0.heap.size≤k) (a b c:Value):Below w0.heap.size w0 (((w.setCell ⟨k,0,none⟩ a).setCell ⟨k,1,none⟩ b).setCell ⟨k,2,none⟩ c):=dp (dp (dp h hk a) hk b) hk c
theorem fO {S:Nat→Prop} {w:World} {k:Nat} (hk:¬S k) (a b c:Value):Stays S w (((w.setCell ⟨k,0,none⟩ a).setCell ⟨k,1,none⟩ b).setCell ⟨k,2,none⟩ c):=Stays.of_ne ((((On.refl k w).set 0 a).set 1 b).set 2 c) hk
theorem eB (b:Bool) (w:World):Calls Tryz.prog 177 #[.bool b] w fun e w'=>e=.returned (.agg #[.int .i64 2,.int .i64 (nb b),.slice none 0 0])∧Below w.heap.size w w':=by
 go_enter Tryz.func177,Tryz.ntmps177
 cases b
 ·go_wp2_with fail
  exact bodyPost_ret (v:=.agg #[.int .i64 2,.int .i64 0,.slice none 0 0]) (by simp [results,Tryz.results177,go_sem]) rfl ⟨rfl,ag (ag (Below.refl _ _) _) _⟩
 ·go_wp2_with fail
  exact bodyPost_ret (v:=.agg #[.int .i64 2,.int .i64 1,.slice none 0 0]) (by simp [results,Tryz.results177,go_sem]) rfl ⟨rfl,ag (ag (Below.refl _ _) _) _⟩
theorem lj {S:Nat→Prop} {v:Value} {l:List UInt8} (w:World) (h:TxtAt S w v l) (hl:l.length≤100000):Calls Tryz.prog 178 #[v] w fun e w'=>∃v',e=.returned v'∧VvAt (U8 w.heap.size w') w' v' (aE l)∧Below w.heap.size w w':=by
 have B:Below w.heap.size w (w.alloc (.cells #[.int .i64 0,.int .i64 0,.slice none 0 0] 35)):=ag (Below.refl _ _) _;have HC:=zh (bY _ (h.below B) hl);have hz:=aj w (.cells #[.int .i64 0,.int .i64 0,.slice none 0 0] 35) w.heap.size rfl;obtain ⟨p,c,rfl,_⟩:=h.form;clear h;go_enter Tryz.func178,Tryz.ntmps178
 go_wp2_with fail
 refine HC.o.mono ?_;rintro e w1 ⟨p1,c1,rfl,ho,hb⟩;have A:=(hb.block w.heap.size (by rw [ah];omega)).trans hz;have n0:=aa A (j:=0) (u:=.int .i64 0) rfl;have n1:=aa A (j:=1) (u:=.int .i64 0) rfl;have n2:=aa A (j:=2) (u:=.slice none 0 0) rfl;have z0:=ae A 0;have z1:=ae A 1;have z2:=ae A 2;have HO:=zh ho;have HB:=zh (B.trans (hb.mono (by rw [ah];omega)));have HZ:=zh A;clear ho hb hz A B;go_wp2_with fail
 obtain ⟨c0,c1',c2⟩:=bN HZ.o (.int .i64 3) (.int .i64 0) (.slice p1 l.length c1);have C:¬U8 (w.alloc (.cells #[.int .i64 0,.int .i64 0,.slice none 0 0] 35)).heap.size w1 w.heap.size:=fun h=>by have:=h.1;rw [ah] at this;omega
 exact bodyPost_ret (v:=.agg #[.int .i64 3,.int .i64 0,.slice p1 l.length c1]) (by simp [results,Tryz.results178,go_sem,c0,c1',c2]) rfl ⟨_,rfl,VvAt.text ((dE HO.o).u8 (fO C _ _ _) (by rw [ah];omega)),aJ HB.o (Nat.le_refl _) _ _ _⟩
theorem gF {t:ByteArray} {l:List UInt8} (h:t.toList=l):t=⟨l.toArray⟩:=by
 rw [ByteArray.toList_eq] at h;exact ByteArray.ext (by rw [←h])
theorem zA {ty num:Int} {text:List UInt8} (hx:OkV ⟨ty,num,text⟩) (p:Option Addr) (c:Nat) (w:World):Calls Tryz.prog 181 #[.string ⟨#[45]⟩,.agg #[.int .i64 ty,.int .i64 num,.slice p text.length c]] w fun e w'=>∃v',e=.returned (.tuple #[v',.int .i64 (eG [45] ⟨ty,num,text⟩).2])∧VvAt (U8 w.heap.size w') w' v' (eG [45] ⟨ty,num,text⟩).1∧Below w.heap.size w w':=by
 have hn:=hx.num;unfold bf at hn;dsimp only at hn;clear hx;by_cases h1:ty=1
 ·subst h1
  by_cases h2:num=-9223372036854775808
  ·subst h2
   have e1:eG [45] ⟨1,-9223372036854775808,text⟩=(noV,3):=by simp [eG]
   rw [e1];clear e1 hn;go_enter Tryz.func181,Tryz.ntmps181
   go_wp2_with fail
   exact bodyPost_ret (v:=.tuple #[.agg #[.int .i64 0,.int .i64 0,.slice none 0 0],.int .i64 3]) (by simp [results,Tryz.results181,go_sem]) rfl ⟨_,rfl,VvAt.no,ag (ag (Below.refl _ _) _) _⟩
  ·have e1:eG [45] ⟨1,num,text⟩=(aB (-num),0):=by simp [eG,h2]
   rw [e1];have e2:(num==-9223372036854775808)=false:=beq_eq_false_iff_ne.2 h2;have e3:IntKind.i64.wrap (-num)=-num:=by rw [IntKind.wrap_i64];omega
   clear e1;have HN:=zh (jx (-num));go_enter Tryz.func181,Tryz.ntmps181
   go_wp2_with fail
   refine (HN.o _).mono ?_;rintro e w1 ⟨rfl,hb⟩;have hz:=aj (w.alloc (.cells #[.int .i64 1,.int .i64 num,.slice p text.length c] 35)) (.cells #[.int .i64 0,.int .i64 0,.slice none 0 0] 35) (w.heap.size+1) (ah _ _);have A:=(hb.block (w.heap.size+1) (by rw [ah,ah];omega)).trans hz;have B:=(ag (ag (Below.refl w.heap.size w) (.cells #[.int .i64 1,.int .i64 num,.slice p text.length c] 35)) (.cells #[.int .i64 0,.int .i64 0,.slice none 0 0] 35)).trans (hb.mono (by rw [ah,ah];omega));have HZ:=zh A;have HB:=zh B;have n0:=aa A (j:=0) (u:=.int .i64 0) rfl;have n1:=aa A (j:=1) (u:=.int .i64 0) rfl;have n2:=aa A (j:=2) (u:=.slice none 0 0) rfl;have z0:=ae A 0;have z1:=ae A 1;have z2:=ae A 2;clear hb hz A B;go_wp2_with fail
   obtain ⟨c0,c1',c2⟩:=bN HZ.o (.int .i64 1) (.int .i64 (-num)) (.slice none 0 0);exact bodyPost_ret (v:=.tuple #[.agg #[.int .i64 1,.int .i64 (-num),.slice none 0 0],.int .i64 0]) (by simp [results,Tryz.results181,go_sem,c0,c1',c2]) rfl ⟨_,rfl,VvAt.num,aJ HB.o (Nat.le_succ _) _ _ _⟩
 ·have e1:eG [45] ⟨ty,num,text⟩=(noV,7):=by simp [eG,h1]
  rw [e1];have e2:(ty==1)=false:=beq_eq_false_iff_ne.2 h1;clear e1 h1;go_enter Tryz.func181,Tryz.ntmps181
  go_wp2_with fail
  exact bodyPost_ret (v:=.tuple #[.agg #[.int .i64 0,.int .i64 0,.slice none 0 0],.int .i64 7]) (by simp [results,Tryz.results181,go_sem]) rfl ⟨_,rfl,VvAt.no,ag (ag (Below.refl _ _) _) _⟩
theorem yh {ty num:Int} {text:List UInt8} (hx:OkV ⟨ty,num,text⟩) (p:Option Addr) (c:Nat) (w:World):Calls Tryz.prog 181 #[.string ⟨#[33]⟩,.agg #[.int .i64 ty,.int .i64 num,.slice p text.length c]] w fun e w'=>∃v',e=.returned (.tuple #[v',.int .i64 (eG [33] ⟨ty,num,text⟩).2])∧VvAt (U8 w.heap.size w') w' v' (eG [33] ⟨ty,num,text⟩).1∧Below w.heap.size w w':=by
 have hn:=hx.num;unfold bf at hn;dsimp only at hn;clear hx;by_cases h1:ty=2
 ·subst h1
  have e1:eG [33] ⟨2,num,text⟩=(aW (!(num==1)),0):=by simp [eG]
  rw [e1];clear e1;have e3:(num !=1)=!(num==1):=rfl;generalize hq:(!(num==1))=q at *;have HQ:=zh hq;clear hq;have HN:=zh (eB q);go_enter Tryz.func181,Tryz.ntmps181
  go_wp2_with fail
  refine (HN.o _).mono ?_;rintro e w1 ⟨rfl,hb⟩;have hz:=aj (w.alloc (.cells #[.int .i64 2,.int .i64 num,.slice p text.length c] 35)) (.cells #[.int .i64 0,.int .i64 0,.slice none 0 0] 35) (w.heap.size+1) (ah _ _);have A:=(hb.block (w.heap.size+1) (by rw [ah,ah];omega)).trans hz;have B:=(ag (ag (Below.refl w.heap.size w) (.cells #[.int .i64 2,.int .i64 num,.slice p text.length c] 35)) (.cells #[.int .i64 0,.int .i64 0,.slice none 0 0] 35)).trans (hb.mono (by rw [ah,ah];omega));have HZ:=zh A;have HB:=zh B;have n0:=aa A (j:=0) (u:=.int .i64 0) rfl;have n1:=aa A (j:=1) (u:=.int .i64 0) rfl;have n2:=aa A (j:=2) (u:=.slice none 0 0) rfl;have z0:=ae A 0;have z1:=ae A 1;have z2:=ae A 2;clear hb hz A B;go_wp2_with fail
  obtain ⟨c0,c1',c2⟩:=bN HZ.o (.int .i64 2) (.int .i64 (nb q)) (.slice none 0 0);exact bodyPost_ret (v:=.tuple #[.agg #[.int .i64 2,.int .i64 (nb q),.slice none 0 0],.int .i64 0]) (by simp [results,Tryz.results181,go_sem,c0,c1',c2]) rfl ⟨_,rfl,VvAt.bool,aJ HB.o (Nat.le_succ _) _ _ _⟩
 ·have e1:eG [33] ⟨ty,num,text⟩=(noV,7):=by simp [eG,h1]
  rw [e1];have e2:(ty==2)=false:=beq_eq_false_iff_ne.2 h1;clear e1 h1;go_enter Tryz.func181,Tryz.ntmps181
  go_wp2_with fail
  exact bodyPost_ret (v:=.tuple #[.agg #[.int .i64 0,.int .i64 0,.slice none 0 0],.int .i64 7]) (by simp [results,Tryz.results181,go_sem]) rfl ⟨_,rfl,VvAt.no,ag (ag (Below.refl _ _) _) _⟩
theorem qI {S:Nat→Prop} {v:Value} {x:Vv} (t:ByteArray) (w:World) (h:VvAt S w v x) (hx:OkV x) (ht:t.toList=[45]∨t.toList=[33]):Calls Tryz.prog 181 #[.string t,v] w fun e w'=>∃v',e=.returned (.tuple #[v',.int .i64 (eG t.toList x).2])∧VvAt (U8 w.heap.size w') w' v' (eG t.toList x).1∧Below w.heap.size w w':=by
 obtain ⟨p,c,rfl,_⟩:=h;rcases ht with ht | ht
 ·rw [ht,(gF ht:t=⟨#[45]⟩)]
  exact zA hx p c w
 ·rw [ht,(gF ht:t=⟨#[33]⟩)]
  exact yh hx p c w
end
section
open Go.RowKit
theorem kQ (w:World) (r:Option Nat):w.grownBy w r:=⟨rfl,rfl,rfl,Nat.le_refl _,fun _ _ _=>rfl⟩
section
variable {P:Program} {w:World}
theorem jc (t ty:TypeId) (base:Nat) (e:TypeId) (i:TypeInfo) (z:Value) (size bytes:Nat) (ht:P.underlying t=some (.slice e)) (hi:P.info? e=some i) (hz:i.zero=some z)
    (C:i.size=size) (H:i.bytes=bytes) (F:z.cells.size=size) (G:0<size)
    (v:Value) (n:Nat) (xs:List Value) (A:w.ownsRow base e size v n xs)
    (s1:Option Addr) (m c:Nat) (news:List Value) (h0:s1=none→m=0∧c=0) (hl:news.length=m * size) (D:∀ad,s1=some ad→∀j u,news[j]?=some u→w.cell? (ad.add j)=some u) (h1:∀u∈news,u.oneCell'=true)
    (I:n+m≤maxLen) (B:(n+m)*bytes≤140737488355328) (E:base≤w.heap.size) :
    ∃s0 cap w',(Builtin.append_ #[t,t] ty #[v,.slice s1 m c]).run P w=.ok (.slice s0 (n+m) cap) w'∧w'.ownsRow base e size (.slice s0 (n+m) cap) (n+m) (xs++news)∧w.grownBy w' v.ownBlock:=by
 have form:∀{w:World} {v:Value} {n:Nat} {xs:List Value},w.ownsRow base e size v n xs→∃s0 cap,v=.slice s0 n cap:=fun h=>by
  rcases h.2 with ⟨q,q2⟩ | ⟨g,cap,cur,q,_⟩
  ·subst q2;exact ⟨none,0,q⟩
  ·exact ⟨_,cap,q⟩
 cases s1 with
 | none =>
  obtain ⟨rfl,rfl⟩:=h0 rfl;have hn:news=[]:=List.eq_nil_of_length_eq_zero (by omega);subst hn;obtain ⟨s0,cap,rfl⟩:=form A;exact ⟨s0,cap,w,run_append_owned_none (P:=P) (w:=w) base t ty e i size ht hi _ n xs A,by simpa using A,kQ _ _⟩
 | some ad =>
  obtain ⟨v',w',hr,h2,h3,h4⟩:=run_append_own (P:=P) w base t ty e i z size bytes ht hi hz C H F G _ n xs A ad m c news hl (D ad rfl) h1 I B E;obtain ⟨s0,cap,rfl⟩:=form h2;exact ⟨s0,cap,w',hr,h2,h3⟩
theorem fy {ops:Array Oper} {o:Oper} {a:Act} {K:Act→World→Prop} {Q:Exit→Act→World→Prop} {E:Prop} (I:o.guard=none) (s x:Operand) (t:TypeId)
    (ho:o.op=.call { callee:=.builtin .append,args:=#[s,x],argTypes:=#[t,t] })
    (base:Nat) (e:TypeId) (i:TypeInfo) (z:Value) (size bytes:Nat) (ht:P.underlying t=some (.slice e)) (hi:P.info? e=some i) (hz:i.zero=some z)
    (B:i.size=size) (J:i.bytes=bytes) (G:z.cells.size=size) (H:0<size)
    (v:Value) (n:Nat) (xs:List Value) (hs:a.eval s=v) (F:w.ownsRow base e size v n xs)
    (s1:Option Addr) (m c:Nat) (news:List Value) (hx:a.eval x=.slice s1 m c) (h0:s1=none→m=0∧c=0) (hl:news.length=m * size) (C:∀ad,s1=some ad→∀j u,news[j]?=some u→w.cell? (ad.add j)=some u) (h1:∀u∈news,u.oneCell'=true)
    (L:n+m≤maxLen) (A:(n+m)*bytes≤140737488355328) (D:base≤w.heap.size)
    (h:∀s0 cap w',w'.ownsRow base e size (.slice s0 (n+m) cap) (n+m) (xs++news)→w.grownBy w' v.ownBlock→K (a.put o.dst (.slice s0 (n+m) cap)) w') :
    if Region.wanted o (yielded ops a.tmps)=true then Oper.wp P o a w K Q else E:=by
 have hw:Region.wanted o (yielded ops a.tmps)=true:=by simp [Region.wanted,I]
 rw [if_pos hw];obtain ⟨s0,cap,w',hr,h2,h3⟩:=jc (P:=P) (w:=w) t o.type base e i z size bytes ht hi hz B J G H v n xs F s1 m c news h0 hl C h1 L A D;unfold Oper.wp execOp;simp only [ho,resolve,invoke,builtin,Sem.run_bind,Sem.run_pure,Result.andThen_ok,List.map_toArray,List.map_cons,List.map_nil,hs,hx,hr]
 exact h s0 cap w' h2 h3
theorem dC {ops:Array Oper} {rest:List Oper} {o:Oper} {a:Act} {Q:Exit→Act→World→Prop} (H:o.guard=none) (s x:Operand) (t:TypeId)
    (ho:o.op=.call { callee:=.builtin .append,args:=#[s,x],argTypes:=#[t,t] })
    (base:Nat) (e:TypeId) (i:TypeInfo) (z:Value) (size bytes:Nat) (ht:P.underlying t=some (.slice e)) (hi:P.info? e=some i) (hz:i.zero=some z)
    (B:i.size=size) (I:i.bytes=bytes) (F:z.cells.size=size) (G:0<size)
    (v:Value) (n:Nat) (xs:List Value) (hs:a.eval s=v) (E:w.ownsRow base e size v n xs)
    (s1:Option Addr) (m c:Nat) (news:List Value) (hx:a.eval x=.slice s1 m c) (h0:s1=none→m=0∧c=0) (hl:news.length=m * size) (C:∀ad,s1=some ad→∀j u,news[j]?=some u→w.cell? (ad.add j)=some u) (h1:∀u∈news,u.oneCell'=true)
    (J:n+m≤maxLen) (A:(n+m)*bytes≤140737488355328) (D:base≤w.heap.size)
    (h:∀s0 cap w',w'.ownsRow base e size (.slice s0 (n+m) cap) (n+m) (xs++news)→w.grownBy w' v.ownBlock→wpList P ops Q rest (a.put o.dst (.slice s0 (n+m) cap)) w'):wpList P ops Q (o :: rest) a w:=by
 refine wpList_plain H fun K hK=>?_;obtain ⟨s0,cap,w',hr,h2,h3⟩:=jc (P:=P) (w:=w) t o.type base e i z size bytes ht hi hz B I F G v n xs E s1 m c news h0 hl C h1 J A D;unfold Oper.wp execOp;simp only [ho,resolve,invoke,builtin,Sem.run_bind,Sem.run_pure,Result.andThen_ok,List.map_toArray,List.map_cons,List.map_nil,hs,hx,hr]
 exact hK _ _ (h s0 cap w' h2 h3)
end
end
section
open Go
section
variable {P:Program} {ops:Array Oper} {md:Region.Mode} {Q:Exit→Act→World→Prop}
def aP (P:Program) (ops:Array Oper) (Q:Exit→Act→World→Prop) (tl:List Oper):Exit→Act→World→Prop
 | .normal,a,w=>wpList P ops Q tl a w
 | e,a,w=>Q e a w
def kj (md:Region.Mode) (ops:Array Oper) (n:Nat):Bool:=
 (List.range n).all fun i=>match ops[i]? with
  | some o=>(o.after.all fun e=>!Region.binds md e || decide (e.on<i))&&(match o.guard with | some (g,_)=>decide (g<n) | none=>true)
  | none=>false
theorem hJ {n i:Nat} (h:kj md ops n=true) (hi:i<n):∃o,ops[i]?=some o∧(∀e∈o.after,Region.binds md e=true→e.on<i)∧(∀g b,o.guard=some (g,b)→g<n):=by
 have h1:=List.all_eq_true.1 h i (List.mem_range.2 hi)
 cases ho:ops[i]? with
 | none=>simp [ho] at h1
 | some o =>
  simp only [ho,Bool.and_eq_true,Array.all_eq_true_iff_forall_mem,Bool.or_eq_true,Bool.not_eq_true',decide_eq_true_eq] at h1
  refine ⟨o,rfl,fun e he hb=>((h1.1 e he).resolve_left (by simp [hb])),fun g b hg=>?_⟩;have h2:=h1.2;rw [hg] at h2;simpa using h2
theorem rR {Q':Exit→Act→World→Prop} (x:Nat):∀(l:List Oper) (k:Nat) (listed:Array Bool) (a:Act) (w:World),(∀j,l[j]?=ops[k+j]?) →
    Region.seqB md ops l.length k listed=true→wpList P ops Q' l a w→wpAny P md ops Q' (l.length+x) listed a w
 | [],_,listed,a,w,_,hB,h=>by
  have hr:Region.ready md ops listed=[]:=by simpa [Region.seqB] using hB
  cases x with
  | zero=>exact ⟨hr,h⟩
  | succ x =>
   show wpAny P md ops Q' (0+(x+1)) listed a w
   rw [Nat.zero_add];exact ⟨fun _=>h,fun i hi=>by rw [hr] at hi;cases hi⟩
 | o :: l,k,listed,a,w,hl,hB,h=>by
  have h0:ops[k]?=some o:=by simpa using (hl 0).symm
  simp only [List.length_cons,Region.seqB,Bool.and_eq_true,decide_eq_true_eq] at hB
  rw [show (o :: l).length+x=(l.length+x)+1 by simp;omega];refine ⟨fun h1=>(by rw [hB.1] at h1;cases h1),fun i hi=>?_⟩;rw [hB.1] at hi;obtain rfl:i=k:=by simpa using hi
  have hw:wpOp P ops Q' i (wpList P ops Q' l) a w:=by unfold wpOp;simp only [h0];exact h
  exact wpOp_mono (fun a' w' h'=>rR x l (i+1) _ a' w' (fun j=>by have:=hl (j+1);simpa [Nat.add_assoc,Nat.add_comm 1 j] using this) hB.2 h') hw
structure Alike (n:Nat) (lh listed:Array Bool):Prop where
 size:lh.size=n
 same:∀j,j<n→lh[j]?=listed[j]?
theorem Alike.getD {n:Nat} {lh listed:Array Bool} (h:Alike n lh listed) {j:Nat} (hj:j<n) (d:Bool):lh.getD j d=listed.getD j d:=by
 rw [Array.getD_eq_getD_getElem?,Array.getD_eq_getD_getElem?,h.same j hj]
theorem Alike.set {n:Nat} {lh listed:Array Bool} (h:Alike n lh listed) (i:Nat) (hs:n≤listed.size):Alike n (lh.setIfInBounds i true) (listed.setIfInBounds i true):=by
 refine ⟨by simp [h.size],fun j hj=>?_⟩;rw [Array.getElem?_setIfInBounds,Array.getElem?_setIfInBounds,h.same j hj,h.size];by_cases e:i=j
 ·subst e
  simp [hj,show i<listed.size by omega]
 ·simp [e]
variable {n:Nat} {hd:Array Oper}
theorem iu (hh:∀j,j<n→hd[j]?=ops[j]?) (hB:kj md ops n=true) {lh listed:Array Bool} (al:Alike n lh listed) {i:Nat} (hi:i<n) :
    i∈Region.ready md hd lh ↔ i∈Region.ready md ops listed:=by
 rw [mem_ready,mem_ready,hh i hi,al.getD hi];refine and_congr_right fun _=>?_;obtain ⟨o,ho,hb,_⟩:=hJ hB hi;rw [ho];constructor
 ·rintro ⟨o',h1,h2⟩
  obtain rfl:=Option.some.inj h1;exact ⟨o,rfl,fun e he A=>by rw [←al.getD (by have:=hb e he A;omega)];exact h2 e he A⟩
 ·rintro ⟨o',h1,h2⟩
  obtain rfl:=Option.some.inj h1;exact ⟨o,rfl,fun e he A=>by rw [al.getD (by have:=hb e he A;omega)];exact h2 e he A⟩
theorem qj (A:hd.size=n) {lh:Array Bool} {i:Nat} (h:i∈Region.ready md hd lh):i<n:=by
 obtain ⟨_,o,ho,_⟩:=mem_ready.1 h;have:=(Array.getElem?_eq_some_iff.1 ho).1;omega
theorem mO (hh:∀j,j<n→hd[j]?=ops[j]?) (hB:kj md ops n=true) {lh:Array Bool} (hs:lh.size=n) (hr:Region.ready md hd lh=[]):∀i,i<n→lh.getD i true=true:=by
 intro i;induction i using Nat.strongRecOn with
 | _ i ih =>
  intro hi
  cases hl:lh.getD i true with
  | true=>rfl
  | false =>
   exfalso
   obtain ⟨o,ho,hb,_⟩:=hJ hB hi
   have:i∈Region.ready md hd lh:=mem_ready.2 ⟨hl,o,by rw [hh i hi,ho],fun e he A=>by
     have h1:=hb e he A;have h2:=ih e.on h1 (by omega);have h3:e.on<lh.size:=by omega
     simp [h3] at h2 ⊢
     exact h2⟩
   rw [hr] at this
   cases this
theorem pq (hh:∀j,j<n→hd[j]?=ops[j]?) (tm:Array Value) {j:Nat} (hj:j<n):yielded hd tm j=yielded ops tm j:=by
 unfold yielded;rw [hh j hj]
theorem lI (hh:∀j,j<n→hd[j]?=ops[j]?) (tm:Array Value) {o:Oper} (hg:∀g b,o.guard=some (g,b)→g<n):Region.wanted o (yielded hd tm)=Region.wanted o (yielded ops tm):=by
 unfold Region.wanted
 cases hq:o.guard with
 | none=>rfl
 | some p =>
  obtain ⟨g,b⟩:=p;simp only [pq hh tm (hg g b hq)]
theorem wg {tl:List Oper} {o:Oper} {a:Act} {w:World} {K:Act→World→Prop} (h:o.wp P a w K (aP P ops Q tl)):o.wp P a w K Q:=by
 unfold Oper.wp at *;generalize (execOp a.eval o).run P w=r at *
 cases r with
 | ok n w' =>
  cases n<;>simp only [Oper.upon] at h ⊢ <;>
   first
    | exact h
    | exact Calls.mono h (fun e w'' he=>by cases e<;>exact he)
 | halt x w'=>cases x<;>simp only [Oper.upon] at h ⊢<;>exact h
theorem zH (hh:∀j,j<n→hd[j]?=ops[j]?) (hB:kj md ops n=true) {tl:List Oper} {i:Nat} (hi:i<n) {K:Act→World→Prop} {a:Act} {w:World}
    (h:wpOp P hd (aP P ops Q tl) i K a w):wpOp P ops Q i K a w:=by
 obtain ⟨o,ho,_,hg⟩:=hJ hB hi;unfold wpOp at *;rw [hh i hi,ho] at h;rw [ho];simp only [lI hh _ hg] at h ⊢
 split
 ·rename_i hw
  rw [if_pos hw] at h;exact h.imp wg (fun q=>q)
 ·rename_i hw
  rw [if_neg hw] at h;exact h
theorem wE {tl:List Oper} (hh:∀j,j<n→hd[j]?=ops[j]?) (I:hd.size=n) (H:∀j,tl[j]?=ops[n+j]?) (hn:n<ops.size) (hs:Region.sinkB md ops n=true) (hc:Region.chainB md ops n=true)
    (hB:kj md ops n=true) (hq:∀listed:Array Bool,HeadInv md ops n listed→(∀i,i<n→listed.getD i true=true)→Region.seqB md ops tl.length n listed=true) (x:Nat) :
    ∀(f:Nat) (lh listed:Array Bool) (a:Act) (w:World),Alike n lh listed→HeadInv md ops n listed→wpAny P md hd (aP P ops Q tl) f lh a w→wpAny P md ops Q (f+(tl.length+x)) listed a w:=by
 have A:∀(lh listed:Array Bool) (a:Act) (w:World),Alike n lh listed→HeadInv md ops n listed→Region.ready md hd lh=[]→wpList P ops Q tl a w→∀y,wpAny P md ops Q (tl.length+y) listed a w:=by
  intro lh listed a w al inv hr h y;have E:=mO hh hB al.size hr;exact rR y tl n listed a w H (hq listed inv (fun i hi=>by rw [←al.getD hi];exact E i hi)) h
 intro f;induction f with
 | zero =>
  intro lh listed a w al inv h;rw [Nat.zero_add];exact A lh listed a w al inv h.1 h.2 x
 | succ f ih =>
  intro lh listed a w al inv h;by_cases hr:Region.ready md hd lh=[]
  ·rw [show f+1+(tl.length+x)=tl.length+(f+1+x) by omega]
   exact A lh listed a w al inv hr (h.1 hr) _
  ·have K:∃i,i∈Region.ready md hd lh:=by
     cases hq:Region.ready md hd lh with
     | nil=>exact absurd hq hr
     | cons i _=>exact ⟨i,by simp⟩
   obtain ⟨i0,F⟩:=K;have B:=qj I F;have C:=(iu hh hB al B).1 F;have G:listed.getD i0 true=false:=(mem_ready.1 C).1;rw [show f+1+(tl.length+x)=(f+(tl.length+x))+1 by omega];refine ⟨fun h0=>absurd C (by rw [h0];simp),fun i hi=>?_⟩
   have D:i<n:=by
    rcases Nat.lt_or_ge i n with q | q
    ·exact q
    ·exact absurd hi (tail_waits hs hc hn inv _ i0 rfl B G i q)
   have J:=(iu hh hB al D).2 hi;exact wpOp_mono (fun a' w' h'=>ih _ _ a' w' (al.set i (by rw [inv.size];omega)) (inv.set hi D) h') (zH hh hB D (h.2 i J))
end
def yR (ops:Array Oper) (n:Nat):Bool:=
 decide (n<ops.size)&&Region.sinkB .any ops n&&Region.chainB .any ops n&&kj .any ops n &&
  Region.seqB .any ops (ops.size-n) n ((Array.replicate n true)++(Array.replicate (ops.size-n) false))
theorem ay {P:Program} {Q:Exit→Act→World→Prop} {S:World→Prop} {id:Nat} {a:Act} {w:World} {l:List Oper} (n:Nat) (hm:P.follows .mixedOrders=true) (hB:yR l.toArray n=true) (hS:S w.drew)
    (h:S w.drew→wpAnyH P .any (l.take n).toArray (aP P l.toArray Q (l.drop n)) S n (Array.replicate n false) a w.drew):(Code.region id l.toArray true).wp P Q a w:=by
 simp only [yR,Bool.and_eq_true,decide_eq_true_eq] at hB
 obtain ⟨⟨⟨⟨hn,hs⟩,hc⟩,hb⟩,hq⟩:=hB;have C:n<l.length:=by simpa using hn
 refine wp_region_any hm ?_;have B:(l.drop n).length=l.toArray.size-n:=by simp
 have inv0:HeadInv .any l.toArray n (Array.replicate l.toArray.size false):=
  ⟨by simp,fun j oj _ hl=>(by rw [getD_replicate_false] at hl;cases hl),fun t _ ht=>getD_in (by simpa using ht) (getD_replicate_false _ _)⟩
 have al0:Alike n (Array.replicate n false) (Array.replicate l.toArray.size false):=⟨by simp,fun j hj=>by
   rw [Array.getElem?_replicate,Array.getElem?_replicate,if_pos hj,if_pos (by simp;omega)]⟩
 have:=wE (P:=P) (Q:=Q) (md:=.any) (hd:=(l.take n).toArray) (ops:=l.toArray) (tl:=l.drop n) (n:=n) (fun j hj=>by simp [hj]) (by simp;omega) (fun j=>by simp [List.getElem?_drop]) hn hs hc hb
  (fun listed inv A=>by
    have he:listed=(Array.replicate n true)++(Array.replicate (l.toArray.size-n) false):=by
      refine Array.ext (by simp [inv.size];omega) fun i h1 h2=>?_;have hi:i<l.length:=by have:=inv.size;simp at this;omega
      by_cases e:i<n
      · have:=A i e
        simp [h1] at this
        rw [Array.getElem_append_left (by simpa using e)];simpa using this
      · have:=inv.tail i (by omega) (by simpa using hi)
        simp [h1] at this
        rw [Array.getElem_append_right (by simp;omega)];simpa using this
    rw [he,B];exact hq) 0 n _ _ a w.drew al0 inv0 (wpAny_of_held _ _ _ _ (h hS))
 rw [B,Nat.add_zero,show n+(l.toArray.size-n)=l.toArray.size by simp;omega] at this;exact this
section
variable {P:Program} {ops:Array Oper} {Q:Exit→Act→World→Prop} {md:Region.Mode} {S:World→Prop}
theorem tk (i:Nat) {oi:Oper} {v:Value} {A:Nat} {listed:Array Bool} {a:Act} {w:World} (hy:∀w,S w→(execOp a.eval oi).run P w=.ok (.value v) w)
    (h:wpAnyH P md ops Q S A (listed.setIfInBounds i true) (a.put oi.dst v) w) (hi:ops[i]?=some oi:=by rfl)
    (hs:Region.noSelect ops=true:=by kernel_rfl) (hf:Region.free md ops listed i=true:=by kernel_rfl) (hr:(Region.ready md ops listed).contains i=true:=by kernel_rfl)
    (hg:Region.wanted oi (yielded ops a.tmps)=true:=by rfl) (hQ:∀c a w,Q (.panic c) (a.put oi.dst v) w→Q (.panic c) a w:=by exact fun _ _ _ h=>h) (hS:S w:=by assumption):wpAnyH P md ops Q S (A+1) listed a w:=
 wpAnyH_take hi hs hf hr hQ (.inl ⟨hg,hy⟩) hS h
theorem tkA (i:Nat) {oi:Oper} {v:Value} {A:Nat} {listed:Array Bool} {a:Act} {w:World}
    (h:wpAnyH P md ops Q S A (listed.setIfInBounds i true) (a.put oi.dst v) w)
    (hi:ops[i]?=some oi:=by rfl)
    (hs:Region.noSelect ops=true:=by kernel_rfl) (hf:Region.free md ops listed i=true:=by kernel_rfl) (hr:(Region.ready md ops listed).contains i=true:=by kernel_rfl)
    (hg:Region.wanted oi (yielded ops a.tmps)=true:=by rfl) (hQ:∀c a w,Q (.panic c) (a.put oi.dst v) w→Q (.panic c) a w:=by exact fun _ _ _ h=>h) (hS:S w:=by assumption)
    (hy:∀w,S w→(execOp a.eval oi).run P w=.ok (.value v) w:=by intro w B;(try dsimp only at B);go_simp;try with_reducible rfl):wpAnyH P md ops Q S (A+1) listed a w:=
 tk i hy h hi hs hf hr hg hQ hS
theorem rd1 (i:Nat) {o:Oper} {A:Nat} {listed:Array Bool} {a:Act} {w:World}
    (h:∀K':Act→World→Prop,Shut (∀a w,S w→(S w→wpAnyH P md ops Q S A (listed.setIfInBounds i true) a w)→K' a w)→if Region.wanted o (yielded ops a.tmps)=true then Oper.wp P o a w K' Q else K' (a.put o.dst undef) w)
    (ho:ops[i]?=some o:=by rfl) (hr:Region.ready md ops listed=[i]:=by kernel_rfl):wpAnyH P md ops Q S (A+1) listed a w:=
 wpAnyH_ready hr (by simp) (AllReadyH.cons ho h AllReadyH.nil)
end
end
end Go.Proofs.YthgcpfkochikfaaGreat
