/-
  EvalSigns: part 14 of its proof: see the last text.
-/
import Derived.Test.YthgcpfkochikfaaGreatPs03
import Derived.Test.YthgcpfkochikfaaGreatPs12
import Derived.Test.YthgcpfkochikfaaGreatPs13
set_option maxRecDepth 100000
set_option maxHeartbeats 16000000
namespace Go.Proofs.YthgcpfkochikfaaGreat
section
open Go
section
variable {P:Program} {ops:Array Oper} {md:Region.Mode} {Q:Exit→Act→World→Prop}
def xF (md:Region.Mode) (ops:Array Oper) (n:Nat):Bool:=(List.range ops.size).all fun t=>decide (t<n) || (List.range n).all fun i=>Region.waitsFor md ops t i
theorem tf {n:Nat} {listed:Array Bool} (h:xF md ops n=true) {i:Nat} (hi:i<n) (D:listed.getD i true=false):∀t,n≤t→t ∉ Region.ready md ops listed:=by
 intro t ht hr;obtain ⟨_,ot,C,B⟩:=mem_ready.1 hr;have A:t<ops.size:=(Array.getElem?_eq_some_iff.1 C).1;have h1:=List.all_eq_true.1 h t (List.mem_range.2 A);simp only [Bool.or_eq_true,decide_eq_true_eq] at h1
 have h2:=List.all_eq_true.1 (h1.resolve_left (by omega)) i (List.mem_range.2 hi);obtain ⟨oj,F,e,he,hb,E⟩:=Region.waitsFor_spec h2;obtain rfl:oj=ot:=Option.some.inj (F.symm.trans C);have h3:=B e he hb;rw [E,getD_both D] at h3
 cases h3
theorem mG (y:Nat):∀(f:Nat) (listed:Array Bool) (a:Act) (w:World),wpAny P md ops Q f listed a w→wpAny P md ops Q (f+y) listed a w
 | 0,listed,a,w,h=>by
  cases y with
  | zero=>exact h
  | succ y =>
   rw [Nat.zero_add];exact ⟨fun _=>h.2,fun i hi=>by rw [h.1] at hi;cases hi⟩
 | f+1,listed,a,w,h=>by
  rw [show f+1+y=(f+y)+1 by omega];exact ⟨h.1,fun i hi=>wpOp_mono (fun a' w' h'=>mG y f _ a' w' h') (h.2 i hi)⟩
def tU (P:Program) (md:Region.Mode) (ops:Array Oper) (Q:Exit→Act→World→Prop) (m:Nat) (ln:Array Bool):Exit→Act→World→Prop
 | .normal,a,w=>wpAny P md ops Q m ln a w
 | e,a,w=>Q e a w
variable {n m:Nat} {hd:Array Oper} {ln:Array Bool}
theorem tu {o:Oper} {a:Act} {w:World} {K:Act→World→Prop} (h:o.wp P a w K (tU P md ops Q m ln)):o.wp P a w K Q:=by
 unfold Oper.wp at *;generalize (execOp a.eval o).run P w=r at *
 cases r with
 | ok n w' =>
  cases n<;>simp only [Oper.upon] at h ⊢ <;>
   first
    | exact h
    | exact Calls.mono h (fun e w'' he=>by cases e<;>exact he)
 | halt x w'=>cases x<;>simp only [Oper.upon] at h ⊢<;>exact h
theorem xN (hh:∀j,j<n→hd[j]?=ops[j]?) (hB:kj md ops n=true) {i:Nat} (hi:i<n) {K:Act→World→Prop} {a:Act} {w:World}
    (h:wpOp P hd (tU P md ops Q m ln) i K a w):wpOp P ops Q i K a w:=by
 obtain ⟨o,ho,_,hg⟩:=hJ hB hi;unfold wpOp at *;rw [hh i hi,ho] at h;rw [ho];simp only [lI hh _ hg] at h ⊢
 split
 ·rename_i hw
  rw [if_pos hw] at h;exact h.imp tu (fun q=>q)
 ·rename_i hw
  rw [if_neg hw] at h;exact h
theorem wM (hh:∀j,j<n→hd[j]?=ops[j]?) (H:hd.size=n) (hn:n≤ops.size) (hw:xF md ops n=true) (hB:kj md ops n=true)
    (hq:∀listed:Array Bool,HeadInv md ops n listed→(∀i,i<n→listed.getD i true=true)→listed=ln) :
    ∀(f:Nat) (lh listed:Array Bool) (a:Act) (w:World),Alike n lh listed→HeadInv md ops n listed→wpAny P md hd (tU P md ops Q m ln) f lh a w→wpAny P md ops Q (f+m) listed a w:=by
 have A:∀(lh listed:Array Bool) (a:Act) (w:World),Alike n lh listed→HeadInv md ops n listed→Region.ready md hd lh=[]→wpAny P md ops Q m ln a w→∀y,wpAny P md ops Q (m+y) listed a w:=by
  intro lh listed a w al inv hr h y;have E:=mO hh hB al.size hr;rw [hq listed inv (fun i hi=>by rw [←al.getD hi];exact E i hi)];exact mG y m ln a w h
 intro f;induction f with
 | zero =>
  intro lh listed a w al inv h;rw [Nat.zero_add];exact A lh listed a w al inv h.1 h.2 0
 | succ f ih =>
  intro lh listed a w al inv h;by_cases hr:Region.ready md hd lh=[]
  ·rw [show f+1+m=m+(f+1) by omega]
   exact A lh listed a w al inv hr (h.1 hr) _
  ·have J:∃i,i∈Region.ready md hd lh:=by
     cases hq:Region.ready md hd lh with
     | nil=>exact absurd hq hr
     | cons i _=>exact ⟨i,by simp⟩
   obtain ⟨i0,F⟩:=J;have B:=qj H F;have C:=(iu hh hB al B).1 F;have G:listed.getD i0 true=false:=(mem_ready.1 C).1;rw [show f+1+m=(f+m)+1 by omega];refine ⟨fun h0=>absurd C (by rw [h0];simp),fun i hi=>?_⟩
   have D:i<n:=by
    rcases Nat.lt_or_ge i n with q | q
    ·exact q
    ·exact absurd hi (tf hw B G i q)
   have I:=(iu hh hB al D).2 hi;exact wpOp_mono (fun a' w' h'=>ih _ _ a' w' (al.set i (by rw [inv.size];omega)) (inv.set hi D) h') (xN hh hB D (h.2 i I))
end
def xe (ops:Array Oper) (n:Nat):Bool:=decide (n<ops.size)&&xF .any ops n&&kj .any ops n
theorem iH {P:Program} {Q:Exit→Act→World→Prop} {S:World→Prop} {id:Nat} {a:Act} {w:World} {l:List Oper} (n:Nat) (hm:P.follows .mixedOrders=true) (hB:xe l.toArray n=true) (hS:S w.drew)
    (h:S w.drew→wpAnyH P .any (l.take n).toArray (tU P .any l.toArray Q (l.length-n) (Array.replicate n true++Array.replicate (l.length-n) false)) S n (Array.replicate n false) a w.drew):(Code.region id l.toArray true).wp P Q a w:=by
 simp only [xe,Bool.and_eq_true,decide_eq_true_eq] at hB
 obtain ⟨⟨hn,hw⟩,hb⟩:=hB;have B:n<l.length:=by simpa using hn
 refine wp_region_any hm ?_
 have inv0:HeadInv .any l.toArray n (Array.replicate l.toArray.size false):=
  ⟨by simp,fun j oj _ hl=>(by rw [getD_replicate_false] at hl;cases hl),fun t _ ht=>getD_in (by simpa using ht) (getD_replicate_false _ _)⟩
 have al0:Alike n (Array.replicate n false) (Array.replicate l.toArray.size false):=⟨by simp,fun j hj=>by
   rw [Array.getElem?_replicate,Array.getElem?_replicate,if_pos hj,if_pos (by simp;omega)]⟩
 have:=wM (P:=P) (Q:=Q) (md:=.any) (hd:=(l.take n).toArray) (ops:=l.toArray) (m:=l.length-n) (n:=n) (ln:=Array.replicate n true++Array.replicate (l.length-n) false) (fun j hj=>by simp [hj]) (by simp;omega) (by simp;omega) hw hb
  (fun listed inv A=>by
    refine Array.ext (by simp [inv.size];omega) fun i h1 h2=>?_;have hi:i<l.length:=by have:=inv.size;simp at this;omega
    by_cases e:i<n
    · have:=A i e
      simp [h1] at this
      rw [Array.getElem_append_left (by simpa using e)];simpa using this
    · have:=inv.tail i (by omega) (by simpa using hi)
      simp [h1] at this
      rw [Array.getElem_append_right (by simp;omega)];simpa using this) n _ _ a w.drew al0 inv0 (wpAny_of_held _ _ _ _ (h hS))
 rw [show n+(l.length-n)=l.toArray.size by simp;omega] at this;exact this
end
section
open Go.RowKit
def vZ (xb base:Nat) (A:Value→Array Value) (t:TypeId) (xs:List Ex) (w':World) (y:Ex) (r:Value):Prop:=r=.tuple #[]∧∃v',w'.heap[xb]?=some (.cells (A v') t)∧GrowOf ⟨RepEx,RepEx.keep,RepEx.mono,RepEx.lies⟩ base 178 5 w' v' (xs++[y])
def exK:Kind Ex:=⟨RepEx,RepEx.keep,RepEx.mono,RepEx.lies⟩
theorem RdAt.offS {T:Nat→Prop} {w w':World} {rb:Nat} {l:List Tk} {en:Int} (h:RdAt w rb l en) (ho:OnS T w w') (hk:∀b,T b→rb<b):RdAt w' rb l en:=by
 have A:∀b,b≤rb→¬T b:=fun b hb ht=>by have:=hk b ht;omega
 obtain ⟨arr,B⟩:=h.obj;obtain ⟨s0,cap,h1,h2,h3,h4,h5⟩:=h.rest;refine ⟨⟨arr,ho.obj (A _ (Nat.le_refl _)) B⟩,⟨s0,cap,ho.cell (A _ (Nat.le_refl _)) h1,h2,h3,fun h0=>?_,h5⟩,ho.cell (A _ (Nat.le_refl _)) h.fin,h.few⟩;obtain ⟨b,off,e,C,hc⟩:=h4 h0;have hb:=A b (Nat.le_of_lt (h5 b off e));refine ⟨b,off,e,Nat.lt_of_lt_of_le C ho.size,fun i hi=>?_⟩;obtain ⟨x0,x1,x2,x3⟩:=hc i hi;exact ⟨ho.cell hb x0,ho.cell hb x1,ho.cell hb x2,ho.cell hb x3⟩
def dx (w:World) (g o:Nat) (a b c d e:Value):World:=((((w.setCell ⟨g,o,none⟩ a).setCell ⟨g,o+1,none⟩ b).setCell ⟨g,o+2,none⟩ c).setCell ⟨g,o+3,none⟩ d).setCell ⟨g,o+4,none⟩ e
theorem qr {α:Type} (l:Array α) {b c:Nat} (f g:α→α) (h:b≠c):(l.modify b f).modify c g=(l.modify c g).modify b f:=by
 refine Array.ext_getElem? fun k=>?_;simp only [Array.getElem?_modify]
 by_cases h1:c=k
 ·subst h1
  simp [h]
 ·simp [h1]
theorem eS (w:World) {b c i j:Nat} (u v:Value) (h:b≠c):(w.setCell ⟨b,i,none⟩ u).setCell ⟨c,j,none⟩ v=(w.setCell ⟨c,j,none⟩ v).setCell ⟨b,i,none⟩ u:=by
 unfold World.setCell;dsimp only;rw [qr _ _ _ h]
theorem gm (w:World) {g xb o j:Nat} (a b c d e v:Value) (h:g≠xb):dx (w.setCell ⟨xb,j,none⟩ v) g o a b c d e=(dx w g o a b c d e).setCell ⟨xb,j,none⟩ v:=by
 unfold dx;rw [eS w _ _ (Ne.symm h),eS _ _ _ (Ne.symm h),eS _ _ _ (Ne.symm h),eS _ _ _ (Ne.symm h),eS _ _ _ (Ne.symm h)]
theorem uF (w:World) (g o:Nat) (a b c d e:Value):On g w (dx w g o a b c d e):=(((((On.refl g w).set _ a).set _ b).set _ c).set _ d).set _ e
theorem ku {w:World} {base t g n cap:Nat} {l:List Value} {z0 z1 z2 z3 z4:Value} (h:w.ownsRow base t 5 (.slice (some ⟨g,0,none⟩) (n+1) cap) (n+1) (l++[z0,z1,z2,z3,z4])) (hl:l.length=n * 5) (a b c d e:Value) :
    (dx w g (n * 5) a b c d e).ownsRow base t 5 (.slice (some ⟨g,0,none⟩) (n+1) cap) (n+1) (l++[a,b,c,d,e]):=by
 have:=kq (kq (kq (kq (kq h (n * 5) a) (n * 5+1) b) (n * 5+2) c) (n * 5+3) d) (n * 5+4) e;rw [←hl] at this ⊢;unfold dx;simpa [List.set_append] using this
theorem fF {w w':World} {r:Option Nat} {g o:Nat} {a b c d e:Value} (h:w.grownBy w' r) (hg:r=some g∨w.heap.size≤g):w.grownBy (dx w' g o a b c d e) r:=by
 have ho:=uF w' g o a b c d e;refine ⟨ho.os.trans h.os,ho.tape.trans h.tape,ho.output.trans h.output,Nat.le_trans h.size ho.size,fun k hk A=>(ho.block k (Nat.lt_of_lt_of_le hk h.size) (fun e=>?_)).trans (h.block k hk A)⟩;injection e with e
 subst e;rcases hg with q | q
 ·exact A q.symm
 ·omega
theorem zv:∃i,Tryz.prog.info? 178=some i∧i.zero=some (.agg #[.int .i64 0,.int .i64 0,.string ⟨#[]⟩,.slice none 0 0,.int .i64 0])∧i.size=5∧i.bytes=64:=by
 have h:(Tryz.prog.info? 178).map (fun i=>(i.zero,i.size,i.bytes))=some (some (.agg #[.int .i64 0,.int .i64 0,.string ⟨#[]⟩,.slice none 0 0,.int .i64 0]),5,64):=by kernel_rfl
 obtain ⟨i,h1,h2⟩:=Option.map_eq_some_iff.1 h;simp only [Prod.mk.injEq] at h2
 exact ⟨i,h1,h2.1,h2.2.1,h2.2.2⟩
theorem AP (rb xb bb db base:Nat) (d en:Int) (hP:0≤d) (hd:d≤100) (P:Par Ex) (HE:cw rb en 129 #[.pointer (some ⟨rb,0,none⟩),.int .i64 (d+1)] P) (hw:rb<base∧xb<base∧bb<base∧db<base) (ht:rb<xb∧rb<bb∧rb<db)
    (l:List Tk) (w:World) (h:RdAt w rb l en) (hB:w.cell? ⟨bb,0,none⟩=some (.pointer (some ⟨rb,0,none⟩))) (hA:w.cell? ⟨db,0,none⟩=some (.int .i64 d)) (Y:base≤w.heap.size)
    (op num:Int) (text:ByteArray) (pos:Int) (v:Value) (hx:w.heap[xb]?=some (.cells #[.int .i64 op,.int .i64 num,.string text,v,.int .i64 pos] 178)) (xs:List Ex) (hn:xs.length≤100000) (hg:GrowOf exK base 178 5 w v xs) :
    Calls Tryz.prog 206 #[.pointer (some ⟨xb,0,none⟩),.pointer (some ⟨bb,0,none⟩),.pointer (some ⟨db,0,none⟩)] w
     (PSaysT rb en (fun b=>b=rb∨b=xb∨base≤b) w (vZ xb base (fun v=>#[.int .i64 op,.int .i64 num,.string text,v,.int .i64 pos]) 178 xs) (P l)):=by
 obtain ⟨cs,Z,hy⟩:=hg;obtain ⟨s0,cap,rfl,hO,hL,hF,_⟩:=ba Z;have hD:=zh HE;have HH:=zh h;have W:=zh Z;have h3:=zh hy;have HX:=zh hx;have N:=zh hw;have U:=zh ht;have h4:=zh Y;have h0:=zh hn;have q0:w.cell? ⟨xb,3,none⟩=some (.slice s0 xs.length cap):=aa hx (j:=3) rfl;have q1:=hB;have q2:=hA;have HQ:=zh (And.intro q0 (And.intro q1 q2));have hN:IntKind.i64.wrap (d+1)=d+1:=IntWalk.i64_in _ (by omega);unfold maxLen at hL;obtain ⟨i0,hz,hs,hq,hl⟩:=zv;have hC:=zh hz;clear HE h Z hy hx hw ht Y hn hB hA hz hF;go_enter Tryz.func206,Tryz.ntmps206
 refine iH (S:=(fun w'=>w'.cell? ⟨xb,3,none⟩=some (.slice s0 xs.length cap)∧w'.cell? ⟨bb,0,none⟩=some (.pointer (some ⟨rb,0,none⟩))∧w'.cell? ⟨db,0,none⟩=some (.int .i64 d))) 8 (by kernel_rfl) (by kernel_rfl) (by (first | exact ⟨q0,q1,q2⟩ | exact ⟨aq _ q0,aq _ q1,aq _ q2⟩)) (fun hH=>?_);simp only [List.take_succ_cons,List.take_zero]
 refine tkA 0 ?_;refine tkA 1 ?_;refine tkA 2 ?_;refine tkA 3 ?_;refine tkA 4 ?_;refine tkA 6 ?_;refine wpAnyH_ready (rs:=[5,7]) (by kernel_rfl) (by simp) ?_;refine (AllReadyH.cons rfl (fun K hK=>?_) (AllReadyH.cons rfl (fun K hK=>?_) AllReadyH.nil))
 ·go_simp
  go_at_call 129
  refine (hD.o l _ (HH.o.on (aw (Below.refl _ _)))).mono ?_;rintro e w3 hp;rcases hp.cases with ⟨er,p,hm,rfl,ho⟩ | ⟨y,r,v3,hm,rfl,hv,hr,ho⟩
  ·have I:=(On.of_below (aw (Below.refl _ _)):On rb w _).trans ho
   have n:=zh I;have HM:=zh hm;clear hp hm ho I;unfold Pan
   (try go_wp2_with fail)
   exact ⟨rfl,PSaysT.err HM.o (OnS.of_on n.o (Or.inl rfl))⟩
  ·have I:=(On.of_below (aw (Below.refl _ _)):On rb w _).trans ho
   have HM:=zh hm;have h9:=zh hr;have n:=zh I;have hM:=zh ho.size;replace q0:=I.cell (Nat.ne_of_gt U.o.1) HQ.o.1;replace q1:=I.cell (Nat.ne_of_gt U.o.2.1) HQ.o.2.1;replace q2:=I.cell (Nat.ne_of_gt U.o.2.2) HQ.o.2.2;obtain ⟨op3,num3,text3,s3,n3,cap3,pos3,rfl,G⟩:=hv;have Q:=zh G;clear hp hm hr G ho I;refine hK.out _ _ ?_ (fun hH=>?_)
   ·(try dsimp only)
    (first | exact ⟨q0,q1,q2⟩ | exact ⟨aq _ q0,aq _ q1,aq _ q2⟩)
   clear hK K;try go_simp
   refine rd1 7 fun K hK=>?_;go_simp;refine hK.out _ _ ?_ (fun hH=>?_)
   ·(try dsimp only)
    (first | exact ⟨q0,q1,q2⟩ | exact ⟨aq _ q0,aq _ q1,aq _ q2⟩)
   clear hK K;try go_simp
   have hj:=zh (ag (Below.refl w3.heap.size w3) (.cells #[.int .i64 0,.int .i64 0,.string ⟨#[]⟩,.slice none 0 0,.int .i64 0] 178));have h7:=zh (aj w3 (.cells #[.int .i64 0,.int .i64 0,.string ⟨#[]⟩,.slice none 0 0,.int .i64 0] 178) _ rfl);have X:=zh (n.o.trans (On.of_below hj.o));have m:=zh (h9.o.on hj.o);have O:=zh ((Q.o.lies.mono (S':=fun b=>base≤b∧b<w3.heap.size∧(w.heap.size≤b)) (fun b hb=>⟨Nat.le_trans h4.o hb.1,hb.2,hb.1⟩)).keep (Stays.of_below hj.o));refine wpAnyH_done (by kernel_rfl) ?_ _;show wpAny _ _ _ _ 5 _ _ _
   refine wpAny_of_held (S:=fun _=>True) _ _ _ _ ?_;have J:Stays (bM base) w (w3.alloc (.cells #[.int .i64 0,.int .i64 0,.string ⟨#[]⟩,.slice none 0 0,.int .i64 0] 178)):=Stays.of_on X.o N.o.1;have H:=fY W.o J;have q:=zh (h3.o.keep J);have V:=zh (X.o.obj (Nat.ne_of_gt U.o.1) HX.o);have s:=zh (Nat.le_trans h4.o X.o.size);have C:=zh H;clear J H;have hE:True:=trivial;refine rd1 8 fun K hK=>?_;refine step_append_lies _ rfl _ _ _ rfl base 178 i0 (.agg #[.int .i64 0,.int .i64 0,.string ⟨#[]⟩,.slice none 0 0,.int .i64 0]) 5 64 Tryz.underlying132 hC.o hs hq hl rfl (by decide) _ xs.length (bG cs xs.length) rfl C.o ⟨w3.heap.size,0,none⟩ 1 1 [.int .i64 0,.int .i64 0,.string ⟨#[]⟩,.slice none 0 0,.int .i64 0] rfl rfl (ja h7.o) (by intro u hu;simp at hu;rcases hu with rfl | rfl | rfl | rfl<;>rfl) (by decide) (by have:=h0.o;unfold maxLen;omega) (by have:=h0.o;omega) s.o _ rfl ?_;intro g cp w9 B A D h5;replace A:World.grownBy _ w9 (Value.slice s0 xs.length cap).ownBlock:=A;replace D:(Value.slice s0 xs.length cap).ownBlock=some g∨g=_:=D;refine hK.out _ _ trivial (fun _=>?_);clear hK K;try go_simp
   have F:=jC B;have L:(bG cs xs.length).length=xs.length * 5:=gW (fun i hi=>(h3.o i hi).1);have hI:base≤g:=(aI B rfl).1;have h6:g≠xb:=by have:=N.o;omega
   have z0:=F.1 (xs.length * 5) (.int .i64 0) (by rw [List.getElem?_append_right (by omega),L,Nat.sub_self];rfl);have z1:=F.1 (xs.length * 5+1) (.int .i64 0) (by rw [List.getElem?_append_right (by omega),L,Nat.add_sub_cancel_left];rfl);have z2:=F.1 (xs.length * 5+2) (.string ⟨#[]⟩) (by rw [List.getElem?_append_right (by omega),L,Nat.add_sub_cancel_left];rfl);have z3:=F.1 (xs.length * 5+3) (.slice none 0 0) (by rw [List.getElem?_append_right (by omega),L,Nat.add_sub_cancel_left];rfl);have z4:=F.1 (xs.length * 5+4) (.int .i64 0) (by rw [List.getElem?_append_right (by omega),L,Nat.add_sub_cancel_left];rfl);have fz0:=F.2 (xs.length * 5);have fz1:=F.2 (xs.length * 5+1);have fz2:=F.2 (xs.length * 5+2);have fz3:=F.2 (xs.length * 5+3);have fz4:=F.2 (xs.length * 5+4);have x:=zh B;have he:=zh A;have hf:=zh D;have t:=zh (A.block xb (af V.o) (fun e=>by have h1:=(aI C.o e.symm).1;have:=N.o;omega) |>.trans V.o);have x3:w9.cell? ⟨xb,3,none⟩=some (.slice s0 xs.length cap):=aa t.o (j:=3) rfl;have fx3:=ae t.o 3;have R:=zh (ku B L (.int .i64 op3) (.int .i64 num3) (.string text3) (.slice s3 n3 cap3) (.int .i64 pos3));have M:=zh (fF (o:=xs.length * 5) (a:=.int .i64 op3) (b:=.int .i64 num3) (c:=.string text3) (d:=.slice s3 n3 cap3) (e:=.int .i64 pos3) A (D.imp id (fun e=>Nat.le_of_eq e.symm)));have hh:=zh (GrowOf.push (cap:=cp) q.o rfl (exK.mono O.o (fun b hb=>⟨hb.1,fun e=>by have h1:=(aI W.o e).2;have h2:=hb.2.2;omega⟩)) M.o D R.o);have h8:=zh ((M.o.block xb (af V.o) (fun e=>by have h1:=(aI C.o e.symm).1;have:=N.o;omega)).trans V.o);have z:=zh (OnS.of_grown (T:=fun b=>b=xb∨base≤b) M.o (fun k hk=>Or.inr (aI C.o hk).1));have f:=zh ((m.o).offS (z.o.set (k:=xb) (Or.inl rfl) 3 (.slice (some ⟨g,0,none⟩) (xs.length+1) cp)) (fun b hb=>hb.elim (fun e=>e▸U.o.1) (fun e=>Nat.lt_of_lt_of_le N.o.1 e)));have ha:=zh (((OnS.of_on X.o (Or.inl rfl):OnS (fun b=>b=rb∨b=xb∨base≤b) w _).trans (z.o.mono (fun b hb=>Or.inr hb))).set (k:=xb) (Or.inr (Or.inl rfl)) 3 (.slice (some ⟨g,0,none⟩) (xs.length+1) cp));have hc:=zh (hh.o.keep (Stays.of_on ((On.refl xb _).set 3 (.slice (some ⟨g,0,none⟩) (xs.length+1) cp)) N.o.2.1));have FIN:Hd (PSaysT rb en (fun b=>b=rb∨b=xb∨base≤b) w (vZ xb base (fun v=>#[.int .i64 op,.int .i64 num,.string text,v,.int .i64 pos]) 178 xs) (P l) (.returned (.tuple #[])) ((dx w9 g (xs.length * 5) (.int .i64 op3) (.int .i64 num3) (.string text3) (.slice s3 n3 cap3) (.int .i64 pos3)).setCell ⟨xb,3,none⟩ (.slice (some ⟨g,0,none⟩) (xs.length+1) cp))):=zh (PSaysT.ok HM.o ⟨rfl,.slice (some ⟨g,0,none⟩) (xs.length+1) cp,au h8.o 3 _,hc.o⟩ f.o ha.o);clear F B A D L;have hG:(xs.length:Int)<(xs.length:Int)+1:=by omega
   refine tkA 9 ?_;refine tkA 11 ?_;refine wpAnyH_ready (rs:=[10,12]) (by kernel_rfl) (by simp) ?_;refine (AllReadyH.cons rfl (fun K hK=>?_) (AllReadyH.cons rfl (fun K hK=>?_) AllReadyH.nil))
   ·go_simp
    refine hK.out _ _ trivial (fun _=>?_);clear hK K;try go_simp
    refine rd1 12 fun K hK=>?_;go_simp;refine hK.out _ _ trivial (fun _=>?_);clear hK K;try go_simp
    refine wpAnyH_done (by kernel_rfl) ?_ _;go_end0
    have E:=FIN.o;unfold dx at E;exact E
   ·go_simp
    refine hK.out _ _ trivial (fun _=>?_);clear hK K;try go_simp
    refine rd1 10 fun K hK=>?_;go_simp;refine hK.out _ _ trivial (fun _=>?_);clear hK K;try go_simp
    refine wpAnyH_done (by kernel_rfl) ?_ _;go_end0
    have E:=FIN.o;rw [←gm _ _ _ _ _ _ _ h6] at E;unfold dx at E;exact E
 ·go_simp
  refine hK.out _ _ ?_ (fun hH=>?_)
  ·(try dsimp only)
   (first | exact ⟨q0,q1,q2⟩ | exact ⟨aq _ q0,aq _ q1,aq _ q2⟩)
  clear hK K;try go_simp
  refine rd1 5 fun K hK=>?_;go_simp;go_at_call 129
  refine (hD.o l _ (HH.o.on (aw (ag (Below.refl w.heap.size w) (.cells #[.int .i64 0,.int .i64 0,.string ⟨#[]⟩,.slice none 0 0,.int .i64 0] 178))))).mono ?_;rintro e w3 hp;rcases hp.cases with ⟨er,p,hm,rfl,ho⟩ | ⟨y,r,v3,hm,rfl,hv,hr,ho⟩
  ·have I:=(On.of_below (aw (ag (Below.refl w.heap.size w) (.cells #[.int .i64 0,.int .i64 0,.string ⟨#[]⟩,.slice none 0 0,.int .i64 0] 178))):On rb w _).trans ho
   have n:=zh I;have HM:=zh hm;clear hp hm ho I;unfold Pan
   (try go_wp2_with fail)
   exact ⟨rfl,PSaysT.err HM.o (OnS.of_on n.o (Or.inl rfl))⟩
  ·have I:=(On.of_below (aw (ag (Below.refl w.heap.size w) (.cells #[.int .i64 0,.int .i64 0,.string ⟨#[]⟩,.slice none 0 0,.int .i64 0] 178))):On rb w _).trans ho
   have HM:=zh hm;have h9:=zh hr;have n:=zh I;have hM:=zh ho.size;replace q0:=I.cell (Nat.ne_of_gt U.o.1) HQ.o.1;replace q1:=I.cell (Nat.ne_of_gt U.o.2.1) HQ.o.2.1;replace q2:=I.cell (Nat.ne_of_gt U.o.2.2) HQ.o.2.2;obtain ⟨op3,num3,text3,s3,n3,cap3,pos3,rfl,G⟩:=hv;have h7:=zh (ho.obj (k':=w.heap.size) (by have:=HH.o.lt;omega) (aj w (.cells #[.int .i64 0,.int .i64 0,.string ⟨#[]⟩,.slice none 0 0,.int .i64 0] 178) _ rfl));have Q:=zh G;clear hp hm hr G ho I;refine hK.out _ _ ?_ (fun hH=>?_)
   ·(try dsimp only)
    (first | exact ⟨q0,q1,q2⟩ | exact ⟨aq _ q0,aq _ q1,aq _ q2⟩)
   clear hK K;try go_simp
   have X:=n;have m:=h9;have O:=zh (Q.o.lies.mono (S':=fun b=>base≤b∧b<w3.heap.size∧(w.heap.size≤b)) (fun b hb=>by have h1:w.heap.size+1≤b:=ah w _▸hb.1;exact ⟨Nat.le_trans h4.o (by omega),hb.2,by omega⟩));refine wpAnyH_done (by kernel_rfl) ?_ _;show wpAny _ _ _ _ 5 _ _ _
   refine wpAny_of_held (S:=fun _=>True) _ _ _ _ ?_;have J:Stays (bM base) w w3:=Stays.of_on X.o N.o.1;have H:=fY W.o J;have q:=zh (h3.o.keep J);have V:=zh (X.o.obj (Nat.ne_of_gt U.o.1) HX.o);have s:=zh (Nat.le_trans h4.o X.o.size);have C:=zh H;clear J H;have hE:True:=trivial;refine rd1 8 fun K hK=>?_;refine step_append_lies _ rfl _ _ _ rfl base 178 i0 (.agg #[.int .i64 0,.int .i64 0,.string ⟨#[]⟩,.slice none 0 0,.int .i64 0]) 5 64 Tryz.underlying132 hC.o hs hq hl rfl (by decide) _ xs.length (bG cs xs.length) rfl C.o ⟨w.heap.size,0,none⟩ 1 1 [.int .i64 0,.int .i64 0,.string ⟨#[]⟩,.slice none 0 0,.int .i64 0] rfl rfl (ja h7.o) (by intro u hu;simp at hu;rcases hu with rfl | rfl | rfl | rfl<;>rfl) (by decide) (by have:=h0.o;unfold maxLen;omega) (by have:=h0.o;omega) s.o _ rfl ?_;intro g cp w9 B A D h5;replace A:World.grownBy _ w9 (Value.slice s0 xs.length cap).ownBlock:=A;replace D:(Value.slice s0 xs.length cap).ownBlock=some g∨g=_:=D;refine hK.out _ _ trivial (fun _=>?_);clear hK K;try go_simp
   have F:=jC B;have L:(bG cs xs.length).length=xs.length * 5:=gW (fun i hi=>(h3.o i hi).1);have hI:base≤g:=(aI B rfl).1;have h6:g≠xb:=by have:=N.o;omega
   have z0:=F.1 (xs.length * 5) (.int .i64 0) (by rw [List.getElem?_append_right (by omega),L,Nat.sub_self];rfl);have z1:=F.1 (xs.length * 5+1) (.int .i64 0) (by rw [List.getElem?_append_right (by omega),L,Nat.add_sub_cancel_left];rfl);have z2:=F.1 (xs.length * 5+2) (.string ⟨#[]⟩) (by rw [List.getElem?_append_right (by omega),L,Nat.add_sub_cancel_left];rfl);have z3:=F.1 (xs.length * 5+3) (.slice none 0 0) (by rw [List.getElem?_append_right (by omega),L,Nat.add_sub_cancel_left];rfl);have z4:=F.1 (xs.length * 5+4) (.int .i64 0) (by rw [List.getElem?_append_right (by omega),L,Nat.add_sub_cancel_left];rfl);have fz0:=F.2 (xs.length * 5);have fz1:=F.2 (xs.length * 5+1);have fz2:=F.2 (xs.length * 5+2);have fz3:=F.2 (xs.length * 5+3);have fz4:=F.2 (xs.length * 5+4);have x:=zh B;have he:=zh A;have hf:=zh D;have t:=zh (A.block xb (af V.o) (fun e=>by have h1:=(aI C.o e.symm).1;have:=N.o;omega) |>.trans V.o);have x3:w9.cell? ⟨xb,3,none⟩=some (.slice s0 xs.length cap):=aa t.o (j:=3) rfl;have fx3:=ae t.o 3;have R:=zh (ku B L (.int .i64 op3) (.int .i64 num3) (.string text3) (.slice s3 n3 cap3) (.int .i64 pos3));have M:=zh (fF (o:=xs.length * 5) (a:=.int .i64 op3) (b:=.int .i64 num3) (c:=.string text3) (d:=.slice s3 n3 cap3) (e:=.int .i64 pos3) A (D.imp id (fun e=>Nat.le_of_eq e.symm)));have hh:=zh (GrowOf.push (cap:=cp) q.o rfl (exK.mono O.o (fun b hb=>⟨hb.1,fun e=>by have h1:=(aI W.o e).2;have h2:=hb.2.2;omega⟩)) M.o D R.o);have h8:=zh ((M.o.block xb (af V.o) (fun e=>by have h1:=(aI C.o e.symm).1;have:=N.o;omega)).trans V.o);have z:=zh (OnS.of_grown (T:=fun b=>b=xb∨base≤b) M.o (fun k hk=>Or.inr (aI C.o hk).1));have f:=zh ((m.o).offS (z.o.set (k:=xb) (Or.inl rfl) 3 (.slice (some ⟨g,0,none⟩) (xs.length+1) cp)) (fun b hb=>hb.elim (fun e=>e▸U.o.1) (fun e=>Nat.lt_of_lt_of_le N.o.1 e)));have ha:=zh (((OnS.of_on X.o (Or.inl rfl):OnS (fun b=>b=rb∨b=xb∨base≤b) w _).trans (z.o.mono (fun b hb=>Or.inr hb))).set (k:=xb) (Or.inr (Or.inl rfl)) 3 (.slice (some ⟨g,0,none⟩) (xs.length+1) cp));have hc:=zh (hh.o.keep (Stays.of_on ((On.refl xb _).set 3 (.slice (some ⟨g,0,none⟩) (xs.length+1) cp)) N.o.2.1));have FIN:Hd (PSaysT rb en (fun b=>b=rb∨b=xb∨base≤b) w (vZ xb base (fun v=>#[.int .i64 op,.int .i64 num,.string text,v,.int .i64 pos]) 178 xs) (P l) (.returned (.tuple #[])) ((dx w9 g (xs.length * 5) (.int .i64 op3) (.int .i64 num3) (.string text3) (.slice s3 n3 cap3) (.int .i64 pos3)).setCell ⟨xb,3,none⟩ (.slice (some ⟨g,0,none⟩) (xs.length+1) cp))):=zh (PSaysT.ok HM.o ⟨rfl,.slice (some ⟨g,0,none⟩) (xs.length+1) cp,au h8.o 3 _,hc.o⟩ f.o ha.o);clear F B A D L;have hG:(xs.length:Int)<(xs.length:Int)+1:=by omega
   refine tkA 9 ?_;refine tkA 11 ?_;refine wpAnyH_ready (rs:=[10,12]) (by kernel_rfl) (by simp) ?_;refine (AllReadyH.cons rfl (fun K hK=>?_) (AllReadyH.cons rfl (fun K hK=>?_) AllReadyH.nil))
   ·go_simp
    refine hK.out _ _ trivial (fun _=>?_);clear hK K;try go_simp
    refine rd1 12 fun K hK=>?_;go_simp;refine hK.out _ _ trivial (fun _=>?_);clear hK K;try go_simp
    refine wpAnyH_done (by kernel_rfl) ?_ _;go_end0
    have E:=FIN.o;unfold dx at E;exact E
   ·go_simp
    refine hK.out _ _ trivial (fun _=>?_);clear hK K;try go_simp
    refine rd1 10 fun K hK=>?_;go_simp;refine hK.out _ _ trivial (fun _=>?_);clear hK K;try go_simp
    refine wpAnyH_done (by kernel_rfl) ?_ _;go_end0
    have E:=FIN.o;rw [←gm _ _ _ _ _ _ _ h6] at E;unfold dx at E;exact E
theorem dz (rb xb bb db base:Nat) (d en:Int) (hP:0≤d) (hd:d≤100) (P:Par Ex) (HE:cw rb en 129 #[.pointer (some ⟨rb,0,none⟩),.int .i64 (d+1)] P) (hw:rb<base∧xb<base∧bb<base∧db<base) (ht:rb<xb∧rb<bb∧rb<db)
    (l:List Tk) (w:World) (h:RdAt w rb l en) (hB:w.cell? ⟨bb,0,none⟩=some (.pointer (some ⟨rb,0,none⟩))) (hA:w.cell? ⟨db,0,none⟩=some (.int .i64 d)) (Y:base≤w.heap.size)
    (op:Int) (text:ByteArray) (vb vl:Value) (pos:Int) (v:Value) (hx:w.heap[xb]?=some (.cells #[.int .i64 op,.string text,v,vb,vl,.int .i64 pos] 134)) (xs:List Ex) (hn:xs.length≤100000) (hg:GrowOf exK base 178 5 w v xs) :
    Calls Tryz.prog 128 #[.pointer (some ⟨xb,0,none⟩),.pointer (some ⟨bb,0,none⟩),.pointer (some ⟨db,0,none⟩)] w
     (PSaysT rb en (fun b=>b=rb∨b=xb∨base≤b) w (vZ xb base (fun v=>#[.int .i64 op,.string text,v,vb,vl,.int .i64 pos]) 134 xs) (P l)):=by
 obtain ⟨cs,Z,hy⟩:=hg;obtain ⟨s0,cap,rfl,hO,hL,hF,_⟩:=ba Z;have hD:=zh HE;have HH:=zh h;have W:=zh Z;have h3:=zh hy;have HX:=zh hx;have N:=zh hw;have U:=zh ht;have h4:=zh Y;have h0:=zh hn;have q0:w.cell? ⟨xb,2,none⟩=some (.slice s0 xs.length cap):=aa hx (j:=2) rfl;have q1:=hB;have q2:=hA;have HQ:=zh (And.intro q0 (And.intro q1 q2));have hN:IntKind.i64.wrap (d+1)=d+1:=IntWalk.i64_in _ (by omega);unfold maxLen at hL;obtain ⟨i0,hz,hs,hq,hl⟩:=zv;have hC:=zh hz;clear HE h Z hy hx hw ht Y hn hB hA hz hF;go_enter Tryz.func128,Tryz.ntmps128
 refine iH (S:=(fun w'=>w'.cell? ⟨xb,2,none⟩=some (.slice s0 xs.length cap)∧w'.cell? ⟨bb,0,none⟩=some (.pointer (some ⟨rb,0,none⟩))∧w'.cell? ⟨db,0,none⟩=some (.int .i64 d))) 8 (by kernel_rfl) (by kernel_rfl) (by (first | exact ⟨q0,q1,q2⟩ | exact ⟨aq _ q0,aq _ q1,aq _ q2⟩)) (fun hH=>?_);simp only [List.take_succ_cons,List.take_zero]
 refine tkA 0 ?_;refine tkA 1 ?_;refine tkA 2 ?_;refine tkA 3 ?_;refine tkA 4 ?_;refine tkA 6 ?_;refine wpAnyH_ready (rs:=[5,7]) (by kernel_rfl) (by simp) ?_;refine (AllReadyH.cons rfl (fun K hK=>?_) (AllReadyH.cons rfl (fun K hK=>?_) AllReadyH.nil))
 ·go_simp
  go_at_call 129
  refine (hD.o l _ (HH.o.on (aw (Below.refl _ _)))).mono ?_;rintro e w3 hp;rcases hp.cases with ⟨er,p,hm,rfl,ho⟩ | ⟨y,r,v3,hm,rfl,hv,hr,ho⟩
  ·have I:=(On.of_below (aw (Below.refl _ _)):On rb w _).trans ho
   have n:=zh I;have HM:=zh hm;clear hp hm ho I;unfold Pan
   (try go_wp2_with fail)
   exact ⟨rfl,PSaysT.err HM.o (OnS.of_on n.o (Or.inl rfl))⟩
  ·have I:=(On.of_below (aw (Below.refl _ _)):On rb w _).trans ho
   have HM:=zh hm;have h9:=zh hr;have n:=zh I;have hM:=zh ho.size;replace q0:=I.cell (Nat.ne_of_gt U.o.1) HQ.o.1;replace q1:=I.cell (Nat.ne_of_gt U.o.2.1) HQ.o.2.1;replace q2:=I.cell (Nat.ne_of_gt U.o.2.2) HQ.o.2.2;obtain ⟨op3,num3,text3,s3,n3,cap3,pos3,rfl,G⟩:=hv;have Q:=zh G;clear hp hm hr G ho I;refine hK.out _ _ ?_ (fun hH=>?_)
   ·(try dsimp only)
    (first | exact ⟨q0,q1,q2⟩ | exact ⟨aq _ q0,aq _ q1,aq _ q2⟩)
   clear hK K;try go_simp
   refine rd1 7 fun K hK=>?_;go_simp;refine hK.out _ _ ?_ (fun hH=>?_)
   ·(try dsimp only)
    (first | exact ⟨q0,q1,q2⟩ | exact ⟨aq _ q0,aq _ q1,aq _ q2⟩)
   clear hK K;try go_simp
   have hj:=zh (ag (Below.refl w3.heap.size w3) (.cells #[.int .i64 0,.int .i64 0,.string ⟨#[]⟩,.slice none 0 0,.int .i64 0] 178));have h7:=zh (aj w3 (.cells #[.int .i64 0,.int .i64 0,.string ⟨#[]⟩,.slice none 0 0,.int .i64 0] 178) _ rfl);have X:=zh (n.o.trans (On.of_below hj.o));have m:=zh (h9.o.on hj.o);have O:=zh ((Q.o.lies.mono (S':=fun b=>base≤b∧b<w3.heap.size∧(w.heap.size≤b)) (fun b hb=>⟨Nat.le_trans h4.o hb.1,hb.2,hb.1⟩)).keep (Stays.of_below hj.o));refine wpAnyH_done (by kernel_rfl) ?_ _;show wpAny _ _ _ _ 5 _ _ _
   refine wpAny_of_held (S:=fun _=>True) _ _ _ _ ?_;have J:Stays (bM base) w (w3.alloc (.cells #[.int .i64 0,.int .i64 0,.string ⟨#[]⟩,.slice none 0 0,.int .i64 0] 178)):=Stays.of_on X.o N.o.1;have H:=fY W.o J;have q:=zh (h3.o.keep J);have V:=zh (X.o.obj (Nat.ne_of_gt U.o.1) HX.o);have s:=zh (Nat.le_trans h4.o X.o.size);have C:=zh H;clear J H;have hE:True:=trivial;refine rd1 8 fun K hK=>?_;refine step_append_lies _ rfl _ _ _ rfl base 178 i0 (.agg #[.int .i64 0,.int .i64 0,.string ⟨#[]⟩,.slice none 0 0,.int .i64 0]) 5 64 Tryz.underlying132 hC.o hs hq hl rfl (by decide) _ xs.length (bG cs xs.length) rfl C.o ⟨w3.heap.size,0,none⟩ 1 1 [.int .i64 0,.int .i64 0,.string ⟨#[]⟩,.slice none 0 0,.int .i64 0] rfl rfl (ja h7.o) (by intro u hu;simp at hu;rcases hu with rfl | rfl | rfl | rfl<;>rfl) (by decide) (by have:=h0.o;unfold maxLen;omega) (by have:=h0.o;omega) s.o _ rfl ?_;intro g cp w9 B A D h5;replace A:World.grownBy _ w9 (Value.slice s0 xs.length cap).ownBlock:=A;replace D:(Value.slice s0 xs.length cap).ownBlock=some g∨g=_:=D;refine hK.out _ _ trivial (fun _=>?_);clear hK K;try go_simp
   have F:=jC B;have L:(bG cs xs.length).length=xs.length * 5:=gW (fun i hi=>(h3.o i hi).1);have hI:base≤g:=(aI B rfl).1;have h6:g≠xb:=by have:=N.o;omega
   have z0:=F.1 (xs.length * 5) (.int .i64 0) (by rw [List.getElem?_append_right (by omega),L,Nat.sub_self];rfl);have z1:=F.1 (xs.length * 5+1) (.int .i64 0) (by rw [List.getElem?_append_right (by omega),L,Nat.add_sub_cancel_left];rfl);have z2:=F.1 (xs.length * 5+2) (.string ⟨#[]⟩) (by rw [List.getElem?_append_right (by omega),L,Nat.add_sub_cancel_left];rfl);have z3:=F.1 (xs.length * 5+3) (.slice none 0 0) (by rw [List.getElem?_append_right (by omega),L,Nat.add_sub_cancel_left];rfl);have z4:=F.1 (xs.length * 5+4) (.int .i64 0) (by rw [List.getElem?_append_right (by omega),L,Nat.add_sub_cancel_left];rfl);have fz0:=F.2 (xs.length * 5);have fz1:=F.2 (xs.length * 5+1);have fz2:=F.2 (xs.length * 5+2);have fz3:=F.2 (xs.length * 5+3);have fz4:=F.2 (xs.length * 5+4);have x:=zh B;have he:=zh A;have hf:=zh D;have t:=zh (A.block xb (af V.o) (fun e=>by have h1:=(aI C.o e.symm).1;have:=N.o;omega) |>.trans V.o);have x3:w9.cell? ⟨xb,2,none⟩=some (.slice s0 xs.length cap):=aa t.o (j:=2) rfl;have fx3:=ae t.o 2;have R:=zh (ku B L (.int .i64 op3) (.int .i64 num3) (.string text3) (.slice s3 n3 cap3) (.int .i64 pos3));have M:=zh (fF (o:=xs.length * 5) (a:=.int .i64 op3) (b:=.int .i64 num3) (c:=.string text3) (d:=.slice s3 n3 cap3) (e:=.int .i64 pos3) A (D.imp id (fun e=>Nat.le_of_eq e.symm)));have hh:=zh (GrowOf.push (cap:=cp) q.o rfl (exK.mono O.o (fun b hb=>⟨hb.1,fun e=>by have h1:=(aI W.o e).2;have h2:=hb.2.2;omega⟩)) M.o D R.o);have h8:=zh ((M.o.block xb (af V.o) (fun e=>by have h1:=(aI C.o e.symm).1;have:=N.o;omega)).trans V.o);have z:=zh (OnS.of_grown (T:=fun b=>b=xb∨base≤b) M.o (fun k hk=>Or.inr (aI C.o hk).1));have f:=zh ((m.o).offS (z.o.set (k:=xb) (Or.inl rfl) 2 (.slice (some ⟨g,0,none⟩) (xs.length+1) cp)) (fun b hb=>hb.elim (fun e=>e▸U.o.1) (fun e=>Nat.lt_of_lt_of_le N.o.1 e)));have ha:=zh (((OnS.of_on X.o (Or.inl rfl):OnS (fun b=>b=rb∨b=xb∨base≤b) w _).trans (z.o.mono (fun b hb=>Or.inr hb))).set (k:=xb) (Or.inr (Or.inl rfl)) 2 (.slice (some ⟨g,0,none⟩) (xs.length+1) cp));have hc:=zh (hh.o.keep (Stays.of_on ((On.refl xb _).set 2 (.slice (some ⟨g,0,none⟩) (xs.length+1) cp)) N.o.2.1));have FIN:Hd (PSaysT rb en (fun b=>b=rb∨b=xb∨base≤b) w (vZ xb base (fun v=>#[.int .i64 op,.string text,v,vb,vl,.int .i64 pos]) 134 xs) (P l) (.returned (.tuple #[])) ((dx w9 g (xs.length * 5) (.int .i64 op3) (.int .i64 num3) (.string text3) (.slice s3 n3 cap3) (.int .i64 pos3)).setCell ⟨xb,2,none⟩ (.slice (some ⟨g,0,none⟩) (xs.length+1) cp))):=zh (PSaysT.ok HM.o ⟨rfl,.slice (some ⟨g,0,none⟩) (xs.length+1) cp,au h8.o 2 _,hc.o⟩ f.o ha.o);clear F B A D L;have hG:(xs.length:Int)<(xs.length:Int)+1:=by omega
   refine tkA 9 ?_;refine tkA 11 ?_;refine wpAnyH_ready (rs:=[10,12]) (by kernel_rfl) (by simp) ?_;refine (AllReadyH.cons rfl (fun K hK=>?_) (AllReadyH.cons rfl (fun K hK=>?_) AllReadyH.nil))
   ·go_simp
    refine hK.out _ _ trivial (fun _=>?_);clear hK K;try go_simp
    refine rd1 12 fun K hK=>?_;go_simp;refine hK.out _ _ trivial (fun _=>?_);clear hK K;try go_simp
    refine wpAnyH_done (by kernel_rfl) ?_ _;go_end0
    have E:=FIN.o;unfold dx at E;exact E
   ·go_simp
    refine hK.out _ _ trivial (fun _=>?_);clear hK K;try go_simp
    refine rd1 10 fun K hK=>?_;go_simp;refine hK.out _ _ trivial (fun _=>?_);clear hK K;try go_simp
    refine wpAnyH_done (by kernel_rfl) ?_ _;go_end0
    have E:=FIN.o;rw [←gm _ _ _ _ _ _ _ h6] at E;unfold dx at E;exact E
 ·go_simp
  refine hK.out _ _ ?_ (fun hH=>?_)
  ·(try dsimp only)
   (first | exact ⟨q0,q1,q2⟩ | exact ⟨aq _ q0,aq _ q1,aq _ q2⟩)
  clear hK K;try go_simp
  refine rd1 5 fun K hK=>?_;go_simp;go_at_call 129
  refine (hD.o l _ (HH.o.on (aw (ag (Below.refl w.heap.size w) (.cells #[.int .i64 0,.int .i64 0,.string ⟨#[]⟩,.slice none 0 0,.int .i64 0] 178))))).mono ?_;rintro e w3 hp;rcases hp.cases with ⟨er,p,hm,rfl,ho⟩ | ⟨y,r,v3,hm,rfl,hv,hr,ho⟩
  ·have I:=(On.of_below (aw (ag (Below.refl w.heap.size w) (.cells #[.int .i64 0,.int .i64 0,.string ⟨#[]⟩,.slice none 0 0,.int .i64 0] 178))):On rb w _).trans ho
   have n:=zh I;have HM:=zh hm;clear hp hm ho I;unfold Pan
   (try go_wp2_with fail)
   exact ⟨rfl,PSaysT.err HM.o (OnS.of_on n.o (Or.inl rfl))⟩
  ·have I:=(On.of_below (aw (ag (Below.refl w.heap.size w) (.cells #[.int .i64 0,.int .i64 0,.string ⟨#[]⟩,.slice none 0 0,.int .i64 0] 178))):On rb w _).trans ho
   have HM:=zh hm;have h9:=zh hr;have n:=zh I;have hM:=zh ho.size;replace q0:=I.cell (Nat.ne_of_gt U.o.1) HQ.o.1;replace q1:=I.cell (Nat.ne_of_gt U.o.2.1) HQ.o.2.1;replace q2:=I.cell (Nat.ne_of_gt U.o.2.2) HQ.o.2.2;obtain ⟨op3,num3,text3,s3,n3,cap3,pos3,rfl,G⟩:=hv;have h7:=zh (ho.obj (k':=w.heap.size) (by have:=HH.o.lt;omega) (aj w (.cells #[.int .i64 0,.int .i64 0,.string ⟨#[]⟩,.slice none 0 0,.int .i64 0] 178) _ rfl));have Q:=zh G;clear hp hm hr G ho I;refine hK.out _ _ ?_ (fun hH=>?_)
   ·(try dsimp only)
    (first | exact ⟨q0,q1,q2⟩ | exact ⟨aq _ q0,aq _ q1,aq _ q2⟩)
   clear hK K;try go_simp
   have X:=n;have m:=h9;have O:=zh (Q.o.lies.mono (S':=fun b=>base≤b∧b<w3.heap.size∧(w.heap.size≤b)) (fun b hb=>by have h1:w.heap.size+1≤b:=ah w _▸hb.1;exact ⟨Nat.le_trans h4.o (by omega),hb.2,by omega⟩));refine wpAnyH_done (by kernel_rfl) ?_ _;show wpAny _ _ _ _ 5 _ _ _
   refine wpAny_of_held (S:=fun _=>True) _ _ _ _ ?_;have J:Stays (bM base) w w3:=Stays.of_on X.o N.o.1;have H:=fY W.o J;have q:=zh (h3.o.keep J);have V:=zh (X.o.obj (Nat.ne_of_gt U.o.1) HX.o);have s:=zh (Nat.le_trans h4.o X.o.size);have C:=zh H;clear J H;have hE:True:=trivial;refine rd1 8 fun K hK=>?_;refine step_append_lies _ rfl _ _ _ rfl base 178 i0 (.agg #[.int .i64 0,.int .i64 0,.string ⟨#[]⟩,.slice none 0 0,.int .i64 0]) 5 64 Tryz.underlying132 hC.o hs hq hl rfl (by decide) _ xs.length (bG cs xs.length) rfl C.o ⟨w.heap.size,0,none⟩ 1 1 [.int .i64 0,.int .i64 0,.string ⟨#[]⟩,.slice none 0 0,.int .i64 0] rfl rfl (ja h7.o) (by intro u hu;simp at hu;rcases hu with rfl | rfl | rfl | rfl<;>rfl) (by decide) (by have:=h0.o;unfold maxLen;omega) (by have:=h0.o;omega) s.o _ rfl ?_;intro g cp w9 B A D h5;replace A:World.grownBy _ w9 (Value.slice s0 xs.length cap).ownBlock:=A;replace D:(Value.slice s0 xs.length cap).ownBlock=some g∨g=_:=D;refine hK.out _ _ trivial (fun _=>?_);clear hK K;try go_simp
   have F:=jC B;have L:(bG cs xs.length).length=xs.length * 5:=gW (fun i hi=>(h3.o i hi).1);have hI:base≤g:=(aI B rfl).1;have h6:g≠xb:=by have:=N.o;omega
   have z0:=F.1 (xs.length * 5) (.int .i64 0) (by rw [List.getElem?_append_right (by omega),L,Nat.sub_self];rfl);have z1:=F.1 (xs.length * 5+1) (.int .i64 0) (by rw [List.getElem?_append_right (by omega),L,Nat.add_sub_cancel_left];rfl);have z2:=F.1 (xs.length * 5+2) (.string ⟨#[]⟩) (by rw [List.getElem?_append_right (by omega),L,Nat.add_sub_cancel_left];rfl);have z3:=F.1 (xs.length * 5+3) (.slice none 0 0) (by rw [List.getElem?_append_right (by omega),L,Nat.add_sub_cancel_left];rfl);have z4:=F.1 (xs.length * 5+4) (.int .i64 0) (by rw [List.getElem?_append_right (by omega),L,Nat.add_sub_cancel_left];rfl);have fz0:=F.2 (xs.length * 5);have fz1:=F.2 (xs.length * 5+1);have fz2:=F.2 (xs.length * 5+2);have fz3:=F.2 (xs.length * 5+3);have fz4:=F.2 (xs.length * 5+4);have x:=zh B;have he:=zh A;have hf:=zh D;have t:=zh (A.block xb (af V.o) (fun e=>by have h1:=(aI C.o e.symm).1;have:=N.o;omega) |>.trans V.o);have x3:w9.cell? ⟨xb,2,none⟩=some (.slice s0 xs.length cap):=aa t.o (j:=2) rfl;have fx3:=ae t.o 2;have R:=zh (ku B L (.int .i64 op3) (.int .i64 num3) (.string text3) (.slice s3 n3 cap3) (.int .i64 pos3));have M:=zh (fF (o:=xs.length * 5) (a:=.int .i64 op3) (b:=.int .i64 num3) (c:=.string text3) (d:=.slice s3 n3 cap3) (e:=.int .i64 pos3) A (D.imp id (fun e=>Nat.le_of_eq e.symm)));have hh:=zh (GrowOf.push (cap:=cp) q.o rfl (exK.mono O.o (fun b hb=>⟨hb.1,fun e=>by have h1:=(aI W.o e).2;have h2:=hb.2.2;omega⟩)) M.o D R.o);have h8:=zh ((M.o.block xb (af V.o) (fun e=>by have h1:=(aI C.o e.symm).1;have:=N.o;omega)).trans V.o);have z:=zh (OnS.of_grown (T:=fun b=>b=xb∨base≤b) M.o (fun k hk=>Or.inr (aI C.o hk).1));have f:=zh ((m.o).offS (z.o.set (k:=xb) (Or.inl rfl) 2 (.slice (some ⟨g,0,none⟩) (xs.length+1) cp)) (fun b hb=>hb.elim (fun e=>e▸U.o.1) (fun e=>Nat.lt_of_lt_of_le N.o.1 e)));have ha:=zh (((OnS.of_on X.o (Or.inl rfl):OnS (fun b=>b=rb∨b=xb∨base≤b) w _).trans (z.o.mono (fun b hb=>Or.inr hb))).set (k:=xb) (Or.inr (Or.inl rfl)) 2 (.slice (some ⟨g,0,none⟩) (xs.length+1) cp));have hc:=zh (hh.o.keep (Stays.of_on ((On.refl xb _).set 2 (.slice (some ⟨g,0,none⟩) (xs.length+1) cp)) N.o.2.1));have FIN:Hd (PSaysT rb en (fun b=>b=rb∨b=xb∨base≤b) w (vZ xb base (fun v=>#[.int .i64 op,.string text,v,vb,vl,.int .i64 pos]) 134 xs) (P l) (.returned (.tuple #[])) ((dx w9 g (xs.length * 5) (.int .i64 op3) (.int .i64 num3) (.string text3) (.slice s3 n3 cap3) (.int .i64 pos3)).setCell ⟨xb,2,none⟩ (.slice (some ⟨g,0,none⟩) (xs.length+1) cp))):=zh (PSaysT.ok HM.o ⟨rfl,.slice (some ⟨g,0,none⟩) (xs.length+1) cp,au h8.o 2 _,hc.o⟩ f.o ha.o);clear F B A D L;have hG:(xs.length:Int)<(xs.length:Int)+1:=by omega
   refine tkA 9 ?_;refine tkA 11 ?_;refine wpAnyH_ready (rs:=[10,12]) (by kernel_rfl) (by simp) ?_;refine (AllReadyH.cons rfl (fun K hK=>?_) (AllReadyH.cons rfl (fun K hK=>?_) AllReadyH.nil))
   ·go_simp
    refine hK.out _ _ trivial (fun _=>?_);clear hK K;try go_simp
    refine rd1 12 fun K hK=>?_;go_simp;refine hK.out _ _ trivial (fun _=>?_);clear hK K;try go_simp
    refine wpAnyH_done (by kernel_rfl) ?_ _;go_end0
    have E:=FIN.o;unfold dx at E;exact E
   ·go_simp
    refine hK.out _ _ trivial (fun _=>?_);clear hK K;try go_simp
    refine rd1 10 fun K hK=>?_;go_simp;refine hK.out _ _ trivial (fun _=>?_);clear hK K;try go_simp
    refine wpAnyH_done (by kernel_rfl) ?_ _;go_end0
    have E:=FIN.o;rw [←gm _ _ _ _ _ _ _ h6] at E;unfold dx at E;exact E
end
end Go.Proofs.YthgcpfkochikfaaGreat
