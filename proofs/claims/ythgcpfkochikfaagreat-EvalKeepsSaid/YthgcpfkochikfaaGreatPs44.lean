/-
  EvalSigns: part 44 of its proof: see the last text.
-/
import Derived.Test.YthgcpfkochikfaaGreatPs42
set_option maxRecDepth 100000
set_option maxHeartbeats 16000000
namespace Go.Proofs.YthgcpfkochikfaaGreat
section
open Go.RowKit
attribute [local go_sem ↓] Go.wp_at_zero Go.wp_at_succ
theorem oD {S1 S2:Nat→Prop} {s:List UInt8} (ty num:Int) (p1 p2:Option Addr) (c1 c2:Nat) (w:World) (h1:TxtAt S1 w (.slice p1 s.length c1) s) (h2:TxtAt S2 w (.slice p2 s.length c2) s) :
    Calls Tryz.prog 16 #[.agg #[.int .i64 ty,.int .i64 num,.slice p1 s.length c1],.agg #[.int .i64 ty,.int .i64 num,.slice p2 s.length c2]] w fun e w'=>e=.returned (.bool true)∧Below w.heap.size w w':=by
 have hb:Below w.heap.size w ((w.alloc (.cells #[.int .i64 ty,.int .i64 num,.slice p1 s.length c1] 35)).alloc (.cells #[.int .i64 ty,.int .i64 num,.slice p2 s.length c2] 35)):=ag (ag (Below.refl _ _) _) _;have B:=dM (h1.below hb);have A:=dM (h2.below hb);have HB:=zh hb;clear h1 h2 hb;generalize s.length=n at *;go_enter Tryz.func16,Tryz.ntmps16
 go_wp2_with fail
 exact bodyPost_ret (v:=.bool true) (by simp [results,Tryz.results16,go_sem]) rfl ⟨rfl,HB.o⟩
end
section
open Go.RowKit
section
variable {D U JB N PB JB' U' N':Nat} {w0 w w':World} {pv v:Value} {F:List Fn} {j j':Jo} {x:Vv} {l:List Pr}
theorem iG (h:VvAt (KS D w) w v x) (hj:JAt U w JB j N) (ho:OnS (JT JB U w) w w') (hd:D≤JB∧D≤U):VvAt (KS D w') w' v x:=h.stays (ho.stays fun b hb q=>by
  rcases hb with hb | hb
  · exact absurd (tH q hd) (Nat.not_le_of_lt hb)
  · rcases q with q | q
    · exact hb.ne hj.ty (by decide) q
    · exact hb.ne q.2 (by decide) rfl)
end
theorem VvAt.txt {S:Nat→Prop} {w:World} {a b:Int} {p:Option Addr} {n c:Nat} {x:Vv} (h:VvAt S w (.agg #[.int .i64 a,.int .i64 b,.slice p n c]) x):TxtAt S w (.slice p x.text.length c) x.text:=by
 obtain ⟨p',c',e,ht⟩:=h;simp at e
 obtain ⟨_,_,rfl,_,rfl⟩:=e;exact ht
def ArIn (w:World) (v:Value) (vs:List Vv):Prop:=∃cs,RowOf Any w v 3 vs.length cs∧∀i,i<vs.length→VvAt Any w (.agg (cs i).toArray) (vs.getD i noV)∧bf (vs.getD i noV).num
theorem ArIn.at {w w':World} {v:Value} {vs:List Vv} (h:ArIn w v vs) {D:Nat} (hD:w.heap.size≤D) (hb:Below w.heap.size w w'):ArAt D w' v vs:=by
 obtain ⟨cs,⟨s0,cap,h1,h2,h3,h4,h5,h6⟩,hi⟩:=h;refine ArAt.low (w:=w) ⟨cs,⟨s0,cap,h1,h2,h3,h4,fun h0=>?_,h6⟩,fun i hl=>⟨?_,(hi i hl).2⟩⟩ hb
 ·obtain ⟨b,off,e,_,hl,hc⟩:=h5 h0
  exact ⟨b,off,e,.inl (Nat.lt_of_lt_of_le hl hD),hl,hc⟩
 ·obtain ⟨p,c,e,ht⟩:=(hi i hl).1
  obtain ⟨p',c',e',q1,q2,q3,q4⟩:=ht.form;injection e' with a1 _ a3
  subst a1 a3
  exact ⟨p,c,e,TxtAt.of_cells q1 q2 q3 fun h0=>by
    obtain ⟨b,off,e,_,hl,hc⟩:=q4 h0;exact ⟨b,off,e,.inl (Nat.lt_of_lt_of_le hl hD),hc⟩⟩
end
end Go.Proofs.YthgcpfkochikfaaGreat
