/-
  EvalLoops: part 12 of its proof: see the last text.
-/
import Derived.Test.YthgcpfkochikfaaGreatPq03
import Derived.Test.YthgcpfkochikfaaGreatPq11
import Derived.Deep.LoopGhost
set_option maxRecDepth 100000
set_option maxHeartbeats 16000000
namespace Go.Proofs.YthgcpfkochikfaaGreat
section
open Go
section
variable {P:Program} {ops:Array Oper} {md:Region.Mode} {Q:Exit→Act→World→Prop}
def yN (md:Region.Mode) (ops:Array Oper) (n:Nat):Bool:=(List.range ops.size).all fun t=>decide (t<n) || (List.range n).all fun i=>Region.waitsFor md ops t i
theorem tL {n:Nat} {listed:Array Bool} (h:yN md ops n=true) {i:Nat} (hi:i<n) (D:listed.getD i true=false):∀t,n≤t→t ∉ Region.ready md ops listed:=by
 intro t ht hr;obtain ⟨_,ot,C,B⟩:=mem_ready.1 hr;have A:t<ops.size:=(Array.getElem?_eq_some_iff.1 C).1;have h1:=List.all_eq_true.1 h t (List.mem_range.2 A);simp only [Bool.or_eq_true,decide_eq_true_eq] at h1
 have h2:=List.all_eq_true.1 (h1.resolve_left (by omega)) i (List.mem_range.2 hi);obtain ⟨oj,F,e,he,hb,E⟩:=Region.waitsFor_spec h2;obtain rfl:oj=ot:=Option.some.inj (F.symm.trans C);have h3:=B e he hb;rw [E,getD_both D] at h3
 cases h3
theorem mS (y:Nat):∀(f:Nat) (listed:Array Bool) (a:Act) (w:World),wpAny P md ops Q f listed a w→wpAny P md ops Q (f+y) listed a w
 | 0,listed,a,w,h=>by
  cases y with
  | zero=>exact h
  | succ y =>
   rw [Nat.zero_add];exact ⟨fun _=>h.2,fun i hi=>by rw [h.1] at hi;cases hi⟩
 | f+1,listed,a,w,h=>by
  rw [show f+1+y=(f+y)+1 by omega];exact ⟨h.1,fun i hi=>wpOp_mono (fun a' w' h'=>mS y f _ a' w' h') (h.2 i hi)⟩
def ux (P:Program) (md:Region.Mode) (ops:Array Oper) (Q:Exit→Act→World→Prop) (m:Nat) (ln:Array Bool):Exit→Act→World→Prop
 | .normal,a,w=>wpAny P md ops Q m ln a w
 | e,a,w=>Q e a w
variable {n m:Nat} {hd:Array Oper} {ln:Array Bool}
theorem sC {o:Oper} {a:Act} {w:World} {K:Act→World→Prop} (h:o.wp P a w K (ux P md ops Q m ln)):o.wp P a w K Q:=by
 unfold Oper.wp at *;generalize (execOp a.eval o).run P w=r at *
 cases r with
 | ok n w' =>
  cases n<;>simp only [Oper.upon] at h ⊢ <;>
   first
    | exact h
    | exact Calls.mono h (fun e w'' he=>by cases e<;>exact he)
 | halt x w'=>cases x<;>simp only [Oper.upon] at h ⊢<;>exact h
theorem xO (hh:∀j,j<n→hd[j]?=ops[j]?) (hB:kF md ops n=true) {i:Nat} (hi:i<n) {K:Act→World→Prop} {a:Act} {w:World}
    (h:wpOp P hd (ux P md ops Q m ln) i K a w):wpOp P ops Q i K a w:=by
 obtain ⟨o,ho,_,hg⟩:=ij hB hi;unfold wpOp at *;rw [hh i hi,ho] at h;rw [ho];simp only [lM hh _ hg] at h ⊢
 split
 ·rename_i hw
  rw [if_pos hw] at h;exact h.imp sC (fun q=>q)
 ·rename_i hw
  rw [if_neg hw] at h;exact h
theorem ws (hh:∀j,j<n→hd[j]?=ops[j]?) (H:hd.size=n) (hn:n≤ops.size) (hw:yN md ops n=true) (hB:kF md ops n=true)
    (hq:∀listed:Array Bool,HeadInv md ops n listed→(∀i,i<n→listed.getD i true=true)→listed=ln) :
    ∀(f:Nat) (lh listed:Array Bool) (a:Act) (w:World),Alike n lh listed→HeadInv md ops n listed→wpAny P md hd (ux P md ops Q m ln) f lh a w→wpAny P md ops Q (f+m) listed a w:=by
 have A:∀(lh listed:Array Bool) (a:Act) (w:World),Alike n lh listed→HeadInv md ops n listed→Region.ready md hd lh=[]→wpAny P md ops Q m ln a w→∀y,wpAny P md ops Q (m+y) listed a w:=by
  intro lh listed a w al inv hr h y;have E:=nr hh hB al.size hr;rw [hq listed inv (fun i hi=>by rw [←al.getD hi];exact E i hi)];exact mS y m ln a w h
 intro f;induction f with
 | zero =>
  intro lh listed a w al inv h;rw [Nat.zero_add];exact A lh listed a w al inv h.1 h.2 0
 | succ f ih =>
  intro lh listed a w al inv h;by_cases hr:Region.ready md hd lh=[]
  ·rw [show f+1+m=m+(f+1) by omega]
   exact A lh listed a w al inv hr (h.1 hr) _
  ·have J:∃i,i∈Region.ready md hd lh:=by
     cases hq:Region.ready md hd lh with
     | nil=>exact absurd hq hr
     | cons i _=>exact ⟨i,by simp⟩
   obtain ⟨i0,F⟩:=J;have B:=rK H F;have C:=(iC hh hB al B).1 F;have G:listed.getD i0 true=false:=(mem_ready.1 C).1;rw [show f+1+m=(f+m)+1 by omega];refine ⟨fun h0=>absurd C (by rw [h0];simp),fun i hi=>?_⟩
   have D:i<n:=by
    rcases Nat.lt_or_ge i n with q | q
    ·exact q
    ·exact absurd hi (tL hw B G i q)
   have I:=(iC hh hB al D).2 hi;exact wpOp_mono (fun a' w' h'=>ih _ _ a' w' (al.set i (by rw [inv.size];omega)) (inv.set hi D) h') (xO hh hB D (h.2 i I))
end
def yf (ops:Array Oper) (n:Nat):Bool:=decide (n<ops.size)&&yN .any ops n&&kF .any ops n
theorem iJ {P:Program} {Q:Exit→Act→World→Prop} {S:World→Prop} {id:Nat} {a:Act} {w:World} {l:List Oper} (n:Nat) (hm:P.follows .mixedOrders=true) (hB:yf l.toArray n=true) (hS:S w.drew)
    (h:S w.drew→wpAnyH P .any (l.take n).toArray (ux P .any l.toArray Q (l.length-n) (Array.replicate n true++Array.replicate (l.length-n) false)) S n (Array.replicate n false) a w.drew):(Code.region id l.toArray true).wp P Q a w:=by
 simp only [yf,Bool.and_eq_true,decide_eq_true_eq] at hB
 obtain ⟨⟨hn,hw⟩,hb⟩:=hB;have B:n<l.length:=by simpa using hn
 refine wp_region_any hm ?_
 have inv0:HeadInv .any l.toArray n (Array.replicate l.toArray.size false):=
  ⟨by simp,fun j oj _ hl=>(by rw [getD_replicate_false] at hl;cases hl),fun t _ ht=>getD_in (by simpa using ht) (getD_replicate_false _ _)⟩
 have al0:Alike n (Array.replicate n false) (Array.replicate l.toArray.size false):=⟨by simp,fun j hj=>by
   rw [Array.getElem?_replicate,Array.getElem?_replicate,if_pos hj,if_pos (by simp;omega)]⟩
 have:=ws (P:=P) (Q:=Q) (md:=.any) (hd:=(l.take n).toArray) (ops:=l.toArray) (m:=l.length-n) (n:=n) (ln:=Array.replicate n true++Array.replicate (l.length-n) false) (fun j hj=>by simp [hj]) (by simp;omega) (by simp;omega) hw hb
  (fun listed inv A=>by
    refine Array.ext (by simp [inv.size];omega) fun i h1 h2=>?_;have hi:i<l.length:=by have:=inv.size;simp at this;omega
    by_cases e:i<n
    · have:=A i e
      simp [h1] at this
      rw [Array.getElem_append_left (by simpa using e)];simpa using this
    · have:=inv.tail i (by omega) (by simpa using hi)
      simp [h1] at this
      rw [Array.getElem_append_right (by simp;omega)];simpa using this) n _ _ a w.drew al0 inv0 (wpAny_of_held _ _ _ _ (h hS))
 rw [show n+(l.length-n)=l.toArray.size by simp;omega] at this;exact this
end
section
open Go.RowKit
def uK (xb base:Nat) (A:Value→Array Value) (t:TypeId) (xs:List Ex) (w':World) (y:Ex) (r:Value):Prop:=r=.tuple #[]∧∃v',w'.heap[xb]?=some (.cells (A v') t)∧GrowOf ⟨RepEx,RepEx.keep,RepEx.mono,RepEx.lies⟩ base 178 5 w' v' (xs++[y])
def exK:Kind Ex:=⟨RepEx,RepEx.keep,RepEx.mono,RepEx.lies⟩
theorem RdAt.offS {T:Nat→Prop} {w w':World} {rb:Nat} {l:List Tk} {en:Int} (h:RdAt w rb l en) (ho:OnS T w w') (hk:∀b,T b→rb<b):RdAt w' rb l en:=by
 have A:∀b,b≤rb→¬T b:=fun b hb ht=>by have:=hk b ht;omega
 obtain ⟨arr,B⟩:=h.obj;obtain ⟨s0,cap,h1,h2,h3,h4,h5⟩:=h.rest;refine ⟨⟨arr,ho.obj (A _ (Nat.le_refl _)) B⟩,⟨s0,cap,ho.cell (A _ (Nat.le_refl _)) h1,h2,h3,fun h0=>?_,h5⟩,ho.cell (A _ (Nat.le_refl _)) h.fin,h.few⟩;obtain ⟨b,off,e,C,hc⟩:=h4 h0;have hb:=A b (Nat.le_of_lt (h5 b off e));refine ⟨b,off,e,Nat.lt_of_lt_of_le C ho.size,fun i hi=>?_⟩;obtain ⟨x0,x1,x2,x3⟩:=hc i hi;exact ⟨ho.cell hb x0,ho.cell hb x1,ho.cell hb x2,ho.cell hb x3⟩
def dw (w:World) (g o:Nat) (a b c d e:Value):World:=((((w.setCell ⟨g,o,none⟩ a).setCell ⟨g,o+1,none⟩ b).setCell ⟨g,o+2,none⟩ c).setCell ⟨g,o+3,none⟩ d).setCell ⟨g,o+4,none⟩ e
theorem qR {α:Type} (l:Array α) {b c:Nat} (f g:α→α) (h:b≠c):(l.modify b f).modify c g=(l.modify c g).modify b f:=by
 refine Array.ext_getElem? fun k=>?_;simp only [Array.getElem?_modify]
 by_cases h1:c=k
 ·subst h1
  simp [h]
 ·simp [h1]
theorem eJ (w:World) {b c i j:Nat} (u v:Value) (h:b≠c):(w.setCell ⟨b,i,none⟩ u).setCell ⟨c,j,none⟩ v=(w.setCell ⟨c,j,none⟩ v).setCell ⟨b,i,none⟩ u:=by
 unfold World.setCell;dsimp only;rw [qR _ _ _ h]
theorem gx (w:World) {g xb o j:Nat} (a b c d e v:Value) (h:g≠xb):dw (w.setCell ⟨xb,j,none⟩ v) g o a b c d e=(dw w g o a b c d e).setCell ⟨xb,j,none⟩ v:=by
 unfold dw;rw [eJ w _ _ (Ne.symm h),eJ _ _ _ (Ne.symm h),eJ _ _ _ (Ne.symm h),eJ _ _ _ (Ne.symm h),eJ _ _ _ (Ne.symm h)]
theorem vO (w:World) (g o:Nat) (a b c d e:Value):On g w (dw w g o a b c d e):=(((((On.refl g w).set _ a).set _ b).set _ c).set _ d).set _ e
theorem kU {w:World} {base t g n cap:Nat} {l:List Value} {z0 z1 z2 z3 z4:Value} (h:w.ownsRow base t 5 (.slice (some ⟨g,0,none⟩) (n+1) cap) (n+1) (l++[z0,z1,z2,z3,z4])) (hl:l.length=n * 5) (a b c d e:Value) :
    (dw w g (n * 5) a b c d e).ownsRow base t 5 (.slice (some ⟨g,0,none⟩) (n+1) cap) (n+1) (l++[a,b,c,d,e]):=by
 have:=kI (kI (kI (kI (kI h (n * 5) a) (n * 5+1) b) (n * 5+2) c) (n * 5+3) d) (n * 5+4) e;rw [←hl] at this ⊢;unfold dw;simpa [List.set_append] using this
theorem fG {w w':World} {r:Option Nat} {g o:Nat} {a b c d e:Value} (h:w.grownBy w' r) (hg:r=some g∨w.heap.size≤g):w.grownBy (dw w' g o a b c d e) r:=by
 have ho:=vO w' g o a b c d e;refine ⟨ho.os.trans h.os,ho.tape.trans h.tape,ho.output.trans h.output,Nat.le_trans h.size ho.size,fun k hk A=>(ho.block k (Nat.lt_of_lt_of_le hk h.size) (fun e=>?_)).trans (h.block k hk A)⟩;injection e with e
 subst e;rcases hg with q | q
 ·exact A q.symm
 ·omega
theorem yM:∃i,Tryz.prog.info? 178=some i∧i.zero=some (.agg #[.int .i64 0,.int .i64 0,.string ⟨#[]⟩,.slice none 0 0,.int .i64 0])∧i.size=5∧i.bytes=64:=by
 have h:(Tryz.prog.info? 178).map (fun i=>(i.zero,i.size,i.bytes))=some (some (.agg #[.int .i64 0,.int .i64 0,.string ⟨#[]⟩,.slice none 0 0,.int .i64 0]),5,64):=by kernel_rfl
 obtain ⟨i,h1,h2⟩:=Option.map_eq_some_iff.1 h;simp only [Prod.mk.injEq] at h2
 exact ⟨i,h1,h2.1,h2.2.1,h2.2.2⟩
theorem zL (rb xb bb db base:Nat) (d en:Int) (hP:0≤d) (hd:d≤100) (P:Par Ex) (HE:cw rb en 129 #[.pointer (some ⟨rb,0,none⟩),.int .i64 (d+1)] P) (hw:rb<base∧xb<base∧bb<base∧db<base) (ht:rb<xb∧rb<bb∧rb<db)
    (l:List Tk) (w:World) (h:RdAt w rb l en) (hB:w.cell? ⟨bb,0,none⟩=some (.pointer (some ⟨rb,0,none⟩))) (hA:w.cell? ⟨db,0,none⟩=some (.int .i64 d)) (Y:base≤w.heap.size)
    (op num:Int) (text:ByteArray) (pos:Int) (v:Value) (hx:w.heap[xb]?=some (.cells #[.int .i64 op,.int .i64 num,.string text,v,.int .i64 pos] 178)) (xs:List Ex) (hn:xs.length≤100000) (hg:GrowOf exK base 178 5 w v xs) :
    Calls Tryz.prog 206 #[.pointer (some ⟨xb,0,none⟩),.pointer (some ⟨bb,0,none⟩),.pointer (some ⟨db,0,none⟩)] w
     (PSaysT rb en (fun b=>b=rb∨b=xb∨base≤b) w (uK xb base (fun v=>#[.int .i64 op,.int .i64 num,.string text,v,.int .i64 pos]) 178 xs) (P l)):=by
 obtain ⟨cs,Z,hy⟩:=hg;obtain ⟨s0,cap,rfl,hO,hL,hF,_⟩:=bC Z;have hD:=zh HE;have HH:=zh h;have W:=zh Z;have h3:=zh hy;have HX:=zh hx;have N:=zh hw;have U:=zh ht;have h4:=zh Y;have h0:=zh hn;have q0:w.cell? ⟨xb,3,none⟩=some (.slice s0 xs.length cap):=aa hx (j:=3) rfl;have q1:=hB;have q2:=hA;have HQ:=zh (And.intro q0 (And.intro q1 q2));have hN:IntKind.i64.wrap (d+1)=d+1:=IntWalk.i64_in _ (by omega);unfold maxLen at hL;obtain ⟨i0,hz,hs,hq,hl⟩:=yM;have hC:=zh hz;clear HE h Z hy hx hw ht Y hn hB hA hz hF;go_enter Tryz.func206,Tryz.ntmps206
 refine iJ (S:=(fun w'=>w'.cell? ⟨xb,3,none⟩=some (.slice s0 xs.length cap)∧w'.cell? ⟨bb,0,none⟩=some (.pointer (some ⟨rb,0,none⟩))∧w'.cell? ⟨db,0,none⟩=some (.int .i64 d))) 8 (by kernel_rfl) (by kernel_rfl) (by (first | exact ⟨q0,q1,q2⟩ | exact ⟨aq _ q0,aq _ q1,aq _ q2⟩)) (fun hH=>?_);simp only [List.take_succ_cons,List.take_zero]
 refine tkA 0 ?_;refine tkA 1 ?_;refine tkA 2 ?_;refine tkA 3 ?_;refine tkA 4 ?_;refine tkA 6 ?_;refine wpAnyH_ready (rs:=[5,7]) (by kernel_rfl) (by simp) ?_;refine (AllReadyH.cons rfl (fun K hK=>?_) (AllReadyH.cons rfl (fun K hK=>?_) AllReadyH.nil))
 ·go_simp
  go_at_call 129
  refine (hD.o l _ (HH.o.on (aw (Below.refl _ _)))).mono ?_;rintro e w3 hp;rcases hp.cases with ⟨er,p,hm,rfl,ho⟩ | ⟨y,r,v3,hm,rfl,hv,hr,ho⟩
  ·have I:=(On.of_below (aw (Below.refl _ _)):On rb w _).trans ho
   have n:=zh I;have HM:=zh hm;clear hp hm ho I;unfold Pan
   (try go_wp2_with fail)
   exact ⟨rfl,PSaysT.err HM.o (OnS.of_on n.o (Or.inl rfl))⟩
  ·have I:=(On.of_below (aw (Below.refl _ _)):On rb w _).trans ho
   have HM:=zh hm;have h9:=zh hr;have n:=zh I;have hM:=zh ho.size;replace q0:=I.cell (Nat.ne_of_gt U.o.1) HQ.o.1;replace q1:=I.cell (Nat.ne_of_gt U.o.2.1) HQ.o.2.1;replace q2:=I.cell (Nat.ne_of_gt U.o.2.2) HQ.o.2.2;obtain ⟨op3,num3,text3,s3,n3,cap3,pos3,rfl,G⟩:=hv;have Q:=zh G;clear hp hm hr G ho I;refine hK.out _ _ ?_ (fun hH=>?_)
   ·(try dsimp only)
    (first | exact ⟨q0,q1,q2⟩ | exact ⟨aq _ q0,aq _ q1,aq _ q2⟩)
   clear hK K;try go_simp
   refine rd1 7 fun K hK=>?_;go_simp;refine hK.out _ _ ?_ (fun hH=>?_)
   ·(try dsimp only)
    (first | exact ⟨q0,q1,q2⟩ | exact ⟨aq _ q0,aq _ q1,aq _ q2⟩)
   clear hK K;try go_simp
   have hj:=zh (ag (Below.refl w3.heap.size w3) (.cells #[.int .i64 0,.int .i64 0,.string ⟨#[]⟩,.slice none 0 0,.int .i64 0] 178));have h7:=zh (aj w3 (.cells #[.int .i64 0,.int .i64 0,.string ⟨#[]⟩,.slice none 0 0,.int .i64 0] 178) _ rfl);have X:=zh (n.o.trans (On.of_below hj.o));have m:=zh (h9.o.on hj.o);have O:=zh ((Q.o.lies.mono (S':=fun b=>base≤b∧b<w3.heap.size∧(w.heap.size≤b)) (fun b hb=>⟨Nat.le_trans h4.o hb.1,hb.2,hb.1⟩)).keep (Stays.of_below hj.o));refine wpAnyH_done (by kernel_rfl) ?_ _;show wpAny _ _ _ _ 5 _ _ _
   refine wpAny_of_held (S:=fun _=>True) _ _ _ _ ?_;have J:Stays (bN base) w (w3.alloc (.cells #[.int .i64 0,.int .i64 0,.string ⟨#[]⟩,.slice none 0 0,.int .i64 0] 178)):=Stays.of_on X.o N.o.1;have H:=fW W.o J;have q:=zh (h3.o.keep J);have V:=zh (X.o.obj (Nat.ne_of_gt U.o.1) HX.o);have s:=zh (Nat.le_trans h4.o X.o.size);have C:=zh H;clear J H;have hE:True:=trivial;refine rd1 8 fun K hK=>?_;refine step_append_lies _ rfl _ _ _ rfl base 178 i0 (.agg #[.int .i64 0,.int .i64 0,.string ⟨#[]⟩,.slice none 0 0,.int .i64 0]) 5 64 Tryz.underlying132 hC.o hs hq hl rfl (by decide) _ xs.length (bH cs xs.length) rfl C.o ⟨w3.heap.size,0,none⟩ 1 1 [.int .i64 0,.int .i64 0,.string ⟨#[]⟩,.slice none 0 0,.int .i64 0] rfl rfl (jg h7.o) (by intro u hu;simp at hu;rcases hu with rfl | rfl | rfl | rfl<;>rfl) (by decide) (by have:=h0.o;unfold maxLen;omega) (by have:=h0.o;omega) s.o _ rfl ?_;intro g cp w9 B A D h5;replace A:World.grownBy _ w9 (Value.slice s0 xs.length cap).ownBlock:=A;replace D:(Value.slice s0 xs.length cap).ownBlock=some g∨g=_:=D;refine hK.out _ _ trivial (fun _=>?_);clear hK K;try go_simp
   have F:=jH B;have L:(bH cs xs.length).length=xs.length * 5:=gS (fun i hi=>(h3.o i hi).1);have hI:base≤g:=(aI B rfl).1;have h6:g≠xb:=by have:=N.o;omega
   have z0:=F.1 (xs.length * 5) (.int .i64 0) (by rw [List.getElem?_append_right (by omega),L,Nat.sub_self];rfl);have z1:=F.1 (xs.length * 5+1) (.int .i64 0) (by rw [List.getElem?_append_right (by omega),L,Nat.add_sub_cancel_left];rfl);have z2:=F.1 (xs.length * 5+2) (.string ⟨#[]⟩) (by rw [List.getElem?_append_right (by omega),L,Nat.add_sub_cancel_left];rfl);have z3:=F.1 (xs.length * 5+3) (.slice none 0 0) (by rw [List.getElem?_append_right (by omega),L,Nat.add_sub_cancel_left];rfl);have z4:=F.1 (xs.length * 5+4) (.int .i64 0) (by rw [List.getElem?_append_right (by omega),L,Nat.add_sub_cancel_left];rfl);have fz0:=F.2 (xs.length * 5);have fz1:=F.2 (xs.length * 5+1);have fz2:=F.2 (xs.length * 5+2);have fz3:=F.2 (xs.length * 5+3);have fz4:=F.2 (xs.length * 5+4);have x:=zh B;have he:=zh A;have hf:=zh D;have t:=zh (A.block xb (af V.o) (fun e=>by have h1:=(aI C.o e.symm).1;have:=N.o;omega) |>.trans V.o);have x3:w9.cell? ⟨xb,3,none⟩=some (.slice s0 xs.length cap):=aa t.o (j:=3) rfl;have fx3:=ae t.o 3;have R:=zh (kU B L (.int .i64 op3) (.int .i64 num3) (.string text3) (.slice s3 n3 cap3) (.int .i64 pos3));have M:=zh (fG (o:=xs.length * 5) (a:=.int .i64 op3) (b:=.int .i64 num3) (c:=.string text3) (d:=.slice s3 n3 cap3) (e:=.int .i64 pos3) A (D.imp id (fun e=>Nat.le_of_eq e.symm)));have hh:=zh (GrowOf.push (cap:=cp) q.o rfl (exK.mono O.o (fun b hb=>⟨hb.1,fun e=>by have h1:=(aI W.o e).2;have h2:=hb.2.2;omega⟩)) M.o D R.o);have h8:=zh ((M.o.block xb (af V.o) (fun e=>by have h1:=(aI C.o e.symm).1;have:=N.o;omega)).trans V.o);have z:=zh (OnS.of_grown (T:=fun b=>b=xb∨base≤b) M.o (fun k hk=>Or.inr (aI C.o hk).1));have f:=zh ((m.o).offS (z.o.set (k:=xb) (Or.inl rfl) 3 (.slice (some ⟨g,0,none⟩) (xs.length+1) cp)) (fun b hb=>hb.elim (fun e=>e▸U.o.1) (fun e=>Nat.lt_of_lt_of_le N.o.1 e)));have ha:=zh (((OnS.of_on X.o (Or.inl rfl):OnS (fun b=>b=rb∨b=xb∨base≤b) w _).trans (z.o.mono (fun b hb=>Or.inr hb))).set (k:=xb) (Or.inr (Or.inl rfl)) 3 (.slice (some ⟨g,0,none⟩) (xs.length+1) cp));have hc:=zh (hh.o.keep (Stays.of_on ((On.refl xb _).set 3 (.slice (some ⟨g,0,none⟩) (xs.length+1) cp)) N.o.2.1));have FIN:Hd (PSaysT rb en (fun b=>b=rb∨b=xb∨base≤b) w (uK xb base (fun v=>#[.int .i64 op,.int .i64 num,.string text,v,.int .i64 pos]) 178 xs) (P l) (.returned (.tuple #[])) ((dw w9 g (xs.length * 5) (.int .i64 op3) (.int .i64 num3) (.string text3) (.slice s3 n3 cap3) (.int .i64 pos3)).setCell ⟨xb,3,none⟩ (.slice (some ⟨g,0,none⟩) (xs.length+1) cp))):=zh (PSaysT.ok HM.o ⟨rfl,.slice (some ⟨g,0,none⟩) (xs.length+1) cp,au h8.o 3 _,hc.o⟩ f.o ha.o);clear F B A D L;have hG:(xs.length:Int)<(xs.length:Int)+1:=by omega
   refine tkA 9 ?_;refine tkA 11 ?_;refine wpAnyH_ready (rs:=[10,12]) (by kernel_rfl) (by simp) ?_;refine (AllReadyH.cons rfl (fun K hK=>?_) (AllReadyH.cons rfl (fun K hK=>?_) AllReadyH.nil))
   ·go_simp
    refine hK.out _ _ trivial (fun _=>?_);clear hK K;try go_simp
    refine rd1 12 fun K hK=>?_;go_simp;refine hK.out _ _ trivial (fun _=>?_);clear hK K;try go_simp
    refine wpAnyH_done (by kernel_rfl) ?_ _;go_end0
    have E:=FIN.o;unfold dw at E;exact E
   ·go_simp
    refine hK.out _ _ trivial (fun _=>?_);clear hK K;try go_simp
    refine rd1 10 fun K hK=>?_;go_simp;refine hK.out _ _ trivial (fun _=>?_);clear hK K;try go_simp
    refine wpAnyH_done (by kernel_rfl) ?_ _;go_end0
    have E:=FIN.o;rw [←gx _ _ _ _ _ _ _ h6] at E;unfold dw at E;exact E
 ·go_simp
  refine hK.out _ _ ?_ (fun hH=>?_)
  ·(try dsimp only)
   (first | exact ⟨q0,q1,q2⟩ | exact ⟨aq _ q0,aq _ q1,aq _ q2⟩)
  clear hK K;try go_simp
  refine rd1 5 fun K hK=>?_;go_simp;go_at_call 129
  refine (hD.o l _ (HH.o.on (aw (ag (Below.refl w.heap.size w) (.cells #[.int .i64 0,.int .i64 0,.string ⟨#[]⟩,.slice none 0 0,.int .i64 0] 178))))).mono ?_;rintro e w3 hp;rcases hp.cases with ⟨er,p,hm,rfl,ho⟩ | ⟨y,r,v3,hm,rfl,hv,hr,ho⟩
  ·have I:=(On.of_below (aw (ag (Below.refl w.heap.size w) (.cells #[.int .i64 0,.int .i64 0,.string ⟨#[]⟩,.slice none 0 0,.int .i64 0] 178))):On rb w _).trans ho
   have n:=zh I;have HM:=zh hm;clear hp hm ho I;unfold Pan
   (try go_wp2_with fail)
   exact ⟨rfl,PSaysT.err HM.o (OnS.of_on n.o (Or.inl rfl))⟩
  ·have I:=(On.of_below (aw (ag (Below.refl w.heap.size w) (.cells #[.int .i64 0,.int .i64 0,.string ⟨#[]⟩,.slice none 0 0,.int .i64 0] 178))):On rb w _).trans ho
   have HM:=zh hm;have h9:=zh hr;have n:=zh I;have hM:=zh ho.size;replace q0:=I.cell (Nat.ne_of_gt U.o.1) HQ.o.1;replace q1:=I.cell (Nat.ne_of_gt U.o.2.1) HQ.o.2.1;replace q2:=I.cell (Nat.ne_of_gt U.o.2.2) HQ.o.2.2;obtain ⟨op3,num3,text3,s3,n3,cap3,pos3,rfl,G⟩:=hv;have h7:=zh (ho.obj (k':=w.heap.size) (by have:=HH.o.lt;omega) (aj w (.cells #[.int .i64 0,.int .i64 0,.string ⟨#[]⟩,.slice none 0 0,.int .i64 0] 178) _ rfl));have Q:=zh G;clear hp hm hr G ho I;refine hK.out _ _ ?_ (fun hH=>?_)
   ·(try dsimp only)
    (first | exact ⟨q0,q1,q2⟩ | exact ⟨aq _ q0,aq _ q1,aq _ q2⟩)
   clear hK K;try go_simp
   have X:=n;have m:=h9;have O:=zh (Q.o.lies.mono (S':=fun b=>base≤b∧b<w3.heap.size∧(w.heap.size≤b)) (fun b hb=>by have h1:w.heap.size+1≤b:=ah w _▸hb.1;exact ⟨Nat.le_trans h4.o (by omega),hb.2,by omega⟩));refine wpAnyH_done (by kernel_rfl) ?_ _;show wpAny _ _ _ _ 5 _ _ _
   refine wpAny_of_held (S:=fun _=>True) _ _ _ _ ?_;have J:Stays (bN base) w w3:=Stays.of_on X.o N.o.1;have H:=fW W.o J;have q:=zh (h3.o.keep J);have V:=zh (X.o.obj (Nat.ne_of_gt U.o.1) HX.o);have s:=zh (Nat.le_trans h4.o X.o.size);have C:=zh H;clear J H;have hE:True:=trivial;refine rd1 8 fun K hK=>?_;refine step_append_lies _ rfl _ _ _ rfl base 178 i0 (.agg #[.int .i64 0,.int .i64 0,.string ⟨#[]⟩,.slice none 0 0,.int .i64 0]) 5 64 Tryz.underlying132 hC.o hs hq hl rfl (by decide) _ xs.length (bH cs xs.length) rfl C.o ⟨w.heap.size,0,none⟩ 1 1 [.int .i64 0,.int .i64 0,.string ⟨#[]⟩,.slice none 0 0,.int .i64 0] rfl rfl (jg h7.o) (by intro u hu;simp at hu;rcases hu with rfl | rfl | rfl | rfl<;>rfl) (by decide) (by have:=h0.o;unfold maxLen;omega) (by have:=h0.o;omega) s.o _ rfl ?_;intro g cp w9 B A D h5;replace A:World.grownBy _ w9 (Value.slice s0 xs.length cap).ownBlock:=A;replace D:(Value.slice s0 xs.length cap).ownBlock=some g∨g=_:=D;refine hK.out _ _ trivial (fun _=>?_);clear hK K;try go_simp
   have F:=jH B;have L:(bH cs xs.length).length=xs.length * 5:=gS (fun i hi=>(h3.o i hi).1);have hI:base≤g:=(aI B rfl).1;have h6:g≠xb:=by have:=N.o;omega
   have z0:=F.1 (xs.length * 5) (.int .i64 0) (by rw [List.getElem?_append_right (by omega),L,Nat.sub_self];rfl);have z1:=F.1 (xs.length * 5+1) (.int .i64 0) (by rw [List.getElem?_append_right (by omega),L,Nat.add_sub_cancel_left];rfl);have z2:=F.1 (xs.length * 5+2) (.string ⟨#[]⟩) (by rw [List.getElem?_append_right (by omega),L,Nat.add_sub_cancel_left];rfl);have z3:=F.1 (xs.length * 5+3) (.slice none 0 0) (by rw [List.getElem?_append_right (by omega),L,Nat.add_sub_cancel_left];rfl);have z4:=F.1 (xs.length * 5+4) (.int .i64 0) (by rw [List.getElem?_append_right (by omega),L,Nat.add_sub_cancel_left];rfl);have fz0:=F.2 (xs.length * 5);have fz1:=F.2 (xs.length * 5+1);have fz2:=F.2 (xs.length * 5+2);have fz3:=F.2 (xs.length * 5+3);have fz4:=F.2 (xs.length * 5+4);have x:=zh B;have he:=zh A;have hf:=zh D;have t:=zh (A.block xb (af V.o) (fun e=>by have h1:=(aI C.o e.symm).1;have:=N.o;omega) |>.trans V.o);have x3:w9.cell? ⟨xb,3,none⟩=some (.slice s0 xs.length cap):=aa t.o (j:=3) rfl;have fx3:=ae t.o 3;have R:=zh (kU B L (.int .i64 op3) (.int .i64 num3) (.string text3) (.slice s3 n3 cap3) (.int .i64 pos3));have M:=zh (fG (o:=xs.length * 5) (a:=.int .i64 op3) (b:=.int .i64 num3) (c:=.string text3) (d:=.slice s3 n3 cap3) (e:=.int .i64 pos3) A (D.imp id (fun e=>Nat.le_of_eq e.symm)));have hh:=zh (GrowOf.push (cap:=cp) q.o rfl (exK.mono O.o (fun b hb=>⟨hb.1,fun e=>by have h1:=(aI W.o e).2;have h2:=hb.2.2;omega⟩)) M.o D R.o);have h8:=zh ((M.o.block xb (af V.o) (fun e=>by have h1:=(aI C.o e.symm).1;have:=N.o;omega)).trans V.o);have z:=zh (OnS.of_grown (T:=fun b=>b=xb∨base≤b) M.o (fun k hk=>Or.inr (aI C.o hk).1));have f:=zh ((m.o).offS (z.o.set (k:=xb) (Or.inl rfl) 3 (.slice (some ⟨g,0,none⟩) (xs.length+1) cp)) (fun b hb=>hb.elim (fun e=>e▸U.o.1) (fun e=>Nat.lt_of_lt_of_le N.o.1 e)));have ha:=zh (((OnS.of_on X.o (Or.inl rfl):OnS (fun b=>b=rb∨b=xb∨base≤b) w _).trans (z.o.mono (fun b hb=>Or.inr hb))).set (k:=xb) (Or.inr (Or.inl rfl)) 3 (.slice (some ⟨g,0,none⟩) (xs.length+1) cp));have hc:=zh (hh.o.keep (Stays.of_on ((On.refl xb _).set 3 (.slice (some ⟨g,0,none⟩) (xs.length+1) cp)) N.o.2.1));have FIN:Hd (PSaysT rb en (fun b=>b=rb∨b=xb∨base≤b) w (uK xb base (fun v=>#[.int .i64 op,.int .i64 num,.string text,v,.int .i64 pos]) 178 xs) (P l) (.returned (.tuple #[])) ((dw w9 g (xs.length * 5) (.int .i64 op3) (.int .i64 num3) (.string text3) (.slice s3 n3 cap3) (.int .i64 pos3)).setCell ⟨xb,3,none⟩ (.slice (some ⟨g,0,none⟩) (xs.length+1) cp))):=zh (PSaysT.ok HM.o ⟨rfl,.slice (some ⟨g,0,none⟩) (xs.length+1) cp,au h8.o 3 _,hc.o⟩ f.o ha.o);clear F B A D L;have hG:(xs.length:Int)<(xs.length:Int)+1:=by omega
   refine tkA 9 ?_;refine tkA 11 ?_;refine wpAnyH_ready (rs:=[10,12]) (by kernel_rfl) (by simp) ?_;refine (AllReadyH.cons rfl (fun K hK=>?_) (AllReadyH.cons rfl (fun K hK=>?_) AllReadyH.nil))
   ·go_simp
    refine hK.out _ _ trivial (fun _=>?_);clear hK K;try go_simp
    refine rd1 12 fun K hK=>?_;go_simp;refine hK.out _ _ trivial (fun _=>?_);clear hK K;try go_simp
    refine wpAnyH_done (by kernel_rfl) ?_ _;go_end0
    have E:=FIN.o;unfold dw at E;exact E
   ·go_simp
    refine hK.out _ _ trivial (fun _=>?_);clear hK K;try go_simp
    refine rd1 10 fun K hK=>?_;go_simp;refine hK.out _ _ trivial (fun _=>?_);clear hK K;try go_simp
    refine wpAnyH_done (by kernel_rfl) ?_ _;go_end0
    have E:=FIN.o;rw [←gx _ _ _ _ _ _ _ h6] at E;unfold dw at E;exact E
theorem dx (rb xb bb db base:Nat) (d en:Int) (hP:0≤d) (hd:d≤100) (P:Par Ex) (HE:cw rb en 129 #[.pointer (some ⟨rb,0,none⟩),.int .i64 (d+1)] P) (hw:rb<base∧xb<base∧bb<base∧db<base) (ht:rb<xb∧rb<bb∧rb<db)
    (l:List Tk) (w:World) (h:RdAt w rb l en) (hB:w.cell? ⟨bb,0,none⟩=some (.pointer (some ⟨rb,0,none⟩))) (hA:w.cell? ⟨db,0,none⟩=some (.int .i64 d)) (Y:base≤w.heap.size)
    (op:Int) (text:ByteArray) (vb vl:Value) (pos:Int) (v:Value) (hx:w.heap[xb]?=some (.cells #[.int .i64 op,.string text,v,vb,vl,.int .i64 pos] 134)) (xs:List Ex) (hn:xs.length≤100000) (hg:GrowOf exK base 178 5 w v xs) :
    Calls Tryz.prog 128 #[.pointer (some ⟨xb,0,none⟩),.pointer (some ⟨bb,0,none⟩),.pointer (some ⟨db,0,none⟩)] w
     (PSaysT rb en (fun b=>b=rb∨b=xb∨base≤b) w (uK xb base (fun v=>#[.int .i64 op,.string text,v,vb,vl,.int .i64 pos]) 134 xs) (P l)):=by
 obtain ⟨cs,Z,hy⟩:=hg;obtain ⟨s0,cap,rfl,hO,hL,hF,_⟩:=bC Z;have hD:=zh HE;have HH:=zh h;have W:=zh Z;have h3:=zh hy;have HX:=zh hx;have N:=zh hw;have U:=zh ht;have h4:=zh Y;have h0:=zh hn;have q0:w.cell? ⟨xb,2,none⟩=some (.slice s0 xs.length cap):=aa hx (j:=2) rfl;have q1:=hB;have q2:=hA;have HQ:=zh (And.intro q0 (And.intro q1 q2));have hN:IntKind.i64.wrap (d+1)=d+1:=IntWalk.i64_in _ (by omega);unfold maxLen at hL;obtain ⟨i0,hz,hs,hq,hl⟩:=yM;have hC:=zh hz;clear HE h Z hy hx hw ht Y hn hB hA hz hF;go_enter Tryz.func128,Tryz.ntmps128
 refine iJ (S:=(fun w'=>w'.cell? ⟨xb,2,none⟩=some (.slice s0 xs.length cap)∧w'.cell? ⟨bb,0,none⟩=some (.pointer (some ⟨rb,0,none⟩))∧w'.cell? ⟨db,0,none⟩=some (.int .i64 d))) 8 (by kernel_rfl) (by kernel_rfl) (by (first | exact ⟨q0,q1,q2⟩ | exact ⟨aq _ q0,aq _ q1,aq _ q2⟩)) (fun hH=>?_);simp only [List.take_succ_cons,List.take_zero]
 refine tkA 0 ?_;refine tkA 1 ?_;refine tkA 2 ?_;refine tkA 3 ?_;refine tkA 4 ?_;refine tkA 6 ?_;refine wpAnyH_ready (rs:=[5,7]) (by kernel_rfl) (by simp) ?_;refine (AllReadyH.cons rfl (fun K hK=>?_) (AllReadyH.cons rfl (fun K hK=>?_) AllReadyH.nil))
 ·go_simp
  go_at_call 129
  refine (hD.o l _ (HH.o.on (aw (Below.refl _ _)))).mono ?_;rintro e w3 hp;rcases hp.cases with ⟨er,p,hm,rfl,ho⟩ | ⟨y,r,v3,hm,rfl,hv,hr,ho⟩
  ·have I:=(On.of_below (aw (Below.refl _ _)):On rb w _).trans ho
   have n:=zh I;have HM:=zh hm;clear hp hm ho I;unfold Pan
   (try go_wp2_with fail)
   exact ⟨rfl,PSaysT.err HM.o (OnS.of_on n.o (Or.inl rfl))⟩
  ·have I:=(On.of_below (aw (Below.refl _ _)):On rb w _).trans ho
   have HM:=zh hm;have h9:=zh hr;have n:=zh I;have hM:=zh ho.size;replace q0:=I.cell (Nat.ne_of_gt U.o.1) HQ.o.1;replace q1:=I.cell (Nat.ne_of_gt U.o.2.1) HQ.o.2.1;replace q2:=I.cell (Nat.ne_of_gt U.o.2.2) HQ.o.2.2;obtain ⟨op3,num3,text3,s3,n3,cap3,pos3,rfl,G⟩:=hv;have Q:=zh G;clear hp hm hr G ho I;refine hK.out _ _ ?_ (fun hH=>?_)
   ·(try dsimp only)
    (first | exact ⟨q0,q1,q2⟩ | exact ⟨aq _ q0,aq _ q1,aq _ q2⟩)
   clear hK K;try go_simp
   refine rd1 7 fun K hK=>?_;go_simp;refine hK.out _ _ ?_ (fun hH=>?_)
   ·(try dsimp only)
    (first | exact ⟨q0,q1,q2⟩ | exact ⟨aq _ q0,aq _ q1,aq _ q2⟩)
   clear hK K;try go_simp
   have hj:=zh (ag (Below.refl w3.heap.size w3) (.cells #[.int .i64 0,.int .i64 0,.string ⟨#[]⟩,.slice none 0 0,.int .i64 0] 178));have h7:=zh (aj w3 (.cells #[.int .i64 0,.int .i64 0,.string ⟨#[]⟩,.slice none 0 0,.int .i64 0] 178) _ rfl);have X:=zh (n.o.trans (On.of_below hj.o));have m:=zh (h9.o.on hj.o);have O:=zh ((Q.o.lies.mono (S':=fun b=>base≤b∧b<w3.heap.size∧(w.heap.size≤b)) (fun b hb=>⟨Nat.le_trans h4.o hb.1,hb.2,hb.1⟩)).keep (Stays.of_below hj.o));refine wpAnyH_done (by kernel_rfl) ?_ _;show wpAny _ _ _ _ 5 _ _ _
   refine wpAny_of_held (S:=fun _=>True) _ _ _ _ ?_;have J:Stays (bN base) w (w3.alloc (.cells #[.int .i64 0,.int .i64 0,.string ⟨#[]⟩,.slice none 0 0,.int .i64 0] 178)):=Stays.of_on X.o N.o.1;have H:=fW W.o J;have q:=zh (h3.o.keep J);have V:=zh (X.o.obj (Nat.ne_of_gt U.o.1) HX.o);have s:=zh (Nat.le_trans h4.o X.o.size);have C:=zh H;clear J H;have hE:True:=trivial;refine rd1 8 fun K hK=>?_;refine step_append_lies _ rfl _ _ _ rfl base 178 i0 (.agg #[.int .i64 0,.int .i64 0,.string ⟨#[]⟩,.slice none 0 0,.int .i64 0]) 5 64 Tryz.underlying132 hC.o hs hq hl rfl (by decide) _ xs.length (bH cs xs.length) rfl C.o ⟨w3.heap.size,0,none⟩ 1 1 [.int .i64 0,.int .i64 0,.string ⟨#[]⟩,.slice none 0 0,.int .i64 0] rfl rfl (jg h7.o) (by intro u hu;simp at hu;rcases hu with rfl | rfl | rfl | rfl<;>rfl) (by decide) (by have:=h0.o;unfold maxLen;omega) (by have:=h0.o;omega) s.o _ rfl ?_;intro g cp w9 B A D h5;replace A:World.grownBy _ w9 (Value.slice s0 xs.length cap).ownBlock:=A;replace D:(Value.slice s0 xs.length cap).ownBlock=some g∨g=_:=D;refine hK.out _ _ trivial (fun _=>?_);clear hK K;try go_simp
   have F:=jH B;have L:(bH cs xs.length).length=xs.length * 5:=gS (fun i hi=>(h3.o i hi).1);have hI:base≤g:=(aI B rfl).1;have h6:g≠xb:=by have:=N.o;omega
   have z0:=F.1 (xs.length * 5) (.int .i64 0) (by rw [List.getElem?_append_right (by omega),L,Nat.sub_self];rfl);have z1:=F.1 (xs.length * 5+1) (.int .i64 0) (by rw [List.getElem?_append_right (by omega),L,Nat.add_sub_cancel_left];rfl);have z2:=F.1 (xs.length * 5+2) (.string ⟨#[]⟩) (by rw [List.getElem?_append_right (by omega),L,Nat.add_sub_cancel_left];rfl);have z3:=F.1 (xs.length * 5+3) (.slice none 0 0) (by rw [List.getElem?_append_right (by omega),L,Nat.add_sub_cancel_left];rfl);have z4:=F.1 (xs.length * 5+4) (.int .i64 0) (by rw [List.getElem?_append_right (by omega),L,Nat.add_sub_cancel_left];rfl);have fz0:=F.2 (xs.length * 5);have fz1:=F.2 (xs.length * 5+1);have fz2:=F.2 (xs.length * 5+2);have fz3:=F.2 (xs.length * 5+3);have fz4:=F.2 (xs.length * 5+4);have x:=zh B;have he:=zh A;have hf:=zh D;have t:=zh (A.block xb (af V.o) (fun e=>by have h1:=(aI C.o e.symm).1;have:=N.o;omega) |>.trans V.o);have x3:w9.cell? ⟨xb,2,none⟩=some (.slice s0 xs.length cap):=aa t.o (j:=2) rfl;have fx3:=ae t.o 2;have R:=zh (kU B L (.int .i64 op3) (.int .i64 num3) (.string text3) (.slice s3 n3 cap3) (.int .i64 pos3));have M:=zh (fG (o:=xs.length * 5) (a:=.int .i64 op3) (b:=.int .i64 num3) (c:=.string text3) (d:=.slice s3 n3 cap3) (e:=.int .i64 pos3) A (D.imp id (fun e=>Nat.le_of_eq e.symm)));have hh:=zh (GrowOf.push (cap:=cp) q.o rfl (exK.mono O.o (fun b hb=>⟨hb.1,fun e=>by have h1:=(aI W.o e).2;have h2:=hb.2.2;omega⟩)) M.o D R.o);have h8:=zh ((M.o.block xb (af V.o) (fun e=>by have h1:=(aI C.o e.symm).1;have:=N.o;omega)).trans V.o);have z:=zh (OnS.of_grown (T:=fun b=>b=xb∨base≤b) M.o (fun k hk=>Or.inr (aI C.o hk).1));have f:=zh ((m.o).offS (z.o.set (k:=xb) (Or.inl rfl) 2 (.slice (some ⟨g,0,none⟩) (xs.length+1) cp)) (fun b hb=>hb.elim (fun e=>e▸U.o.1) (fun e=>Nat.lt_of_lt_of_le N.o.1 e)));have ha:=zh (((OnS.of_on X.o (Or.inl rfl):OnS (fun b=>b=rb∨b=xb∨base≤b) w _).trans (z.o.mono (fun b hb=>Or.inr hb))).set (k:=xb) (Or.inr (Or.inl rfl)) 2 (.slice (some ⟨g,0,none⟩) (xs.length+1) cp));have hc:=zh (hh.o.keep (Stays.of_on ((On.refl xb _).set 2 (.slice (some ⟨g,0,none⟩) (xs.length+1) cp)) N.o.2.1));have FIN:Hd (PSaysT rb en (fun b=>b=rb∨b=xb∨base≤b) w (uK xb base (fun v=>#[.int .i64 op,.string text,v,vb,vl,.int .i64 pos]) 134 xs) (P l) (.returned (.tuple #[])) ((dw w9 g (xs.length * 5) (.int .i64 op3) (.int .i64 num3) (.string text3) (.slice s3 n3 cap3) (.int .i64 pos3)).setCell ⟨xb,2,none⟩ (.slice (some ⟨g,0,none⟩) (xs.length+1) cp))):=zh (PSaysT.ok HM.o ⟨rfl,.slice (some ⟨g,0,none⟩) (xs.length+1) cp,au h8.o 2 _,hc.o⟩ f.o ha.o);clear F B A D L;have hG:(xs.length:Int)<(xs.length:Int)+1:=by omega
   refine tkA 9 ?_;refine tkA 11 ?_;refine wpAnyH_ready (rs:=[10,12]) (by kernel_rfl) (by simp) ?_;refine (AllReadyH.cons rfl (fun K hK=>?_) (AllReadyH.cons rfl (fun K hK=>?_) AllReadyH.nil))
   ·go_simp
    refine hK.out _ _ trivial (fun _=>?_);clear hK K;try go_simp
    refine rd1 12 fun K hK=>?_;go_simp;refine hK.out _ _ trivial (fun _=>?_);clear hK K;try go_simp
    refine wpAnyH_done (by kernel_rfl) ?_ _;go_end0
    have E:=FIN.o;unfold dw at E;exact E
   ·go_simp
    refine hK.out _ _ trivial (fun _=>?_);clear hK K;try go_simp
    refine rd1 10 fun K hK=>?_;go_simp;refine hK.out _ _ trivial (fun _=>?_);clear hK K;try go_simp
    refine wpAnyH_done (by kernel_rfl) ?_ _;go_end0
    have E:=FIN.o;rw [←gx _ _ _ _ _ _ _ h6] at E;unfold dw at E;exact E
 ·go_simp
  refine hK.out _ _ ?_ (fun hH=>?_)
  ·(try dsimp only)
   (first | exact ⟨q0,q1,q2⟩ | exact ⟨aq _ q0,aq _ q1,aq _ q2⟩)
  clear hK K;try go_simp
  refine rd1 5 fun K hK=>?_;go_simp;go_at_call 129
  refine (hD.o l _ (HH.o.on (aw (ag (Below.refl w.heap.size w) (.cells #[.int .i64 0,.int .i64 0,.string ⟨#[]⟩,.slice none 0 0,.int .i64 0] 178))))).mono ?_;rintro e w3 hp;rcases hp.cases with ⟨er,p,hm,rfl,ho⟩ | ⟨y,r,v3,hm,rfl,hv,hr,ho⟩
  ·have I:=(On.of_below (aw (ag (Below.refl w.heap.size w) (.cells #[.int .i64 0,.int .i64 0,.string ⟨#[]⟩,.slice none 0 0,.int .i64 0] 178))):On rb w _).trans ho
   have n:=zh I;have HM:=zh hm;clear hp hm ho I;unfold Pan
   (try go_wp2_with fail)
   exact ⟨rfl,PSaysT.err HM.o (OnS.of_on n.o (Or.inl rfl))⟩
  ·have I:=(On.of_below (aw (ag (Below.refl w.heap.size w) (.cells #[.int .i64 0,.int .i64 0,.string ⟨#[]⟩,.slice none 0 0,.int .i64 0] 178))):On rb w _).trans ho
   have HM:=zh hm;have h9:=zh hr;have n:=zh I;have hM:=zh ho.size;replace q0:=I.cell (Nat.ne_of_gt U.o.1) HQ.o.1;replace q1:=I.cell (Nat.ne_of_gt U.o.2.1) HQ.o.2.1;replace q2:=I.cell (Nat.ne_of_gt U.o.2.2) HQ.o.2.2;obtain ⟨op3,num3,text3,s3,n3,cap3,pos3,rfl,G⟩:=hv;have h7:=zh (ho.obj (k':=w.heap.size) (by have:=HH.o.lt;omega) (aj w (.cells #[.int .i64 0,.int .i64 0,.string ⟨#[]⟩,.slice none 0 0,.int .i64 0] 178) _ rfl));have Q:=zh G;clear hp hm hr G ho I;refine hK.out _ _ ?_ (fun hH=>?_)
   ·(try dsimp only)
    (first | exact ⟨q0,q1,q2⟩ | exact ⟨aq _ q0,aq _ q1,aq _ q2⟩)
   clear hK K;try go_simp
   have X:=n;have m:=h9;have O:=zh (Q.o.lies.mono (S':=fun b=>base≤b∧b<w3.heap.size∧(w.heap.size≤b)) (fun b hb=>by have h1:w.heap.size+1≤b:=ah w _▸hb.1;exact ⟨Nat.le_trans h4.o (by omega),hb.2,by omega⟩));refine wpAnyH_done (by kernel_rfl) ?_ _;show wpAny _ _ _ _ 5 _ _ _
   refine wpAny_of_held (S:=fun _=>True) _ _ _ _ ?_;have J:Stays (bN base) w w3:=Stays.of_on X.o N.o.1;have H:=fW W.o J;have q:=zh (h3.o.keep J);have V:=zh (X.o.obj (Nat.ne_of_gt U.o.1) HX.o);have s:=zh (Nat.le_trans h4.o X.o.size);have C:=zh H;clear J H;have hE:True:=trivial;refine rd1 8 fun K hK=>?_;refine step_append_lies _ rfl _ _ _ rfl base 178 i0 (.agg #[.int .i64 0,.int .i64 0,.string ⟨#[]⟩,.slice none 0 0,.int .i64 0]) 5 64 Tryz.underlying132 hC.o hs hq hl rfl (by decide) _ xs.length (bH cs xs.length) rfl C.o ⟨w.heap.size,0,none⟩ 1 1 [.int .i64 0,.int .i64 0,.string ⟨#[]⟩,.slice none 0 0,.int .i64 0] rfl rfl (jg h7.o) (by intro u hu;simp at hu;rcases hu with rfl | rfl | rfl | rfl<;>rfl) (by decide) (by have:=h0.o;unfold maxLen;omega) (by have:=h0.o;omega) s.o _ rfl ?_;intro g cp w9 B A D h5;replace A:World.grownBy _ w9 (Value.slice s0 xs.length cap).ownBlock:=A;replace D:(Value.slice s0 xs.length cap).ownBlock=some g∨g=_:=D;refine hK.out _ _ trivial (fun _=>?_);clear hK K;try go_simp
   have F:=jH B;have L:(bH cs xs.length).length=xs.length * 5:=gS (fun i hi=>(h3.o i hi).1);have hI:base≤g:=(aI B rfl).1;have h6:g≠xb:=by have:=N.o;omega
   have z0:=F.1 (xs.length * 5) (.int .i64 0) (by rw [List.getElem?_append_right (by omega),L,Nat.sub_self];rfl);have z1:=F.1 (xs.length * 5+1) (.int .i64 0) (by rw [List.getElem?_append_right (by omega),L,Nat.add_sub_cancel_left];rfl);have z2:=F.1 (xs.length * 5+2) (.string ⟨#[]⟩) (by rw [List.getElem?_append_right (by omega),L,Nat.add_sub_cancel_left];rfl);have z3:=F.1 (xs.length * 5+3) (.slice none 0 0) (by rw [List.getElem?_append_right (by omega),L,Nat.add_sub_cancel_left];rfl);have z4:=F.1 (xs.length * 5+4) (.int .i64 0) (by rw [List.getElem?_append_right (by omega),L,Nat.add_sub_cancel_left];rfl);have fz0:=F.2 (xs.length * 5);have fz1:=F.2 (xs.length * 5+1);have fz2:=F.2 (xs.length * 5+2);have fz3:=F.2 (xs.length * 5+3);have fz4:=F.2 (xs.length * 5+4);have x:=zh B;have he:=zh A;have hf:=zh D;have t:=zh (A.block xb (af V.o) (fun e=>by have h1:=(aI C.o e.symm).1;have:=N.o;omega) |>.trans V.o);have x3:w9.cell? ⟨xb,2,none⟩=some (.slice s0 xs.length cap):=aa t.o (j:=2) rfl;have fx3:=ae t.o 2;have R:=zh (kU B L (.int .i64 op3) (.int .i64 num3) (.string text3) (.slice s3 n3 cap3) (.int .i64 pos3));have M:=zh (fG (o:=xs.length * 5) (a:=.int .i64 op3) (b:=.int .i64 num3) (c:=.string text3) (d:=.slice s3 n3 cap3) (e:=.int .i64 pos3) A (D.imp id (fun e=>Nat.le_of_eq e.symm)));have hh:=zh (GrowOf.push (cap:=cp) q.o rfl (exK.mono O.o (fun b hb=>⟨hb.1,fun e=>by have h1:=(aI W.o e).2;have h2:=hb.2.2;omega⟩)) M.o D R.o);have h8:=zh ((M.o.block xb (af V.o) (fun e=>by have h1:=(aI C.o e.symm).1;have:=N.o;omega)).trans V.o);have z:=zh (OnS.of_grown (T:=fun b=>b=xb∨base≤b) M.o (fun k hk=>Or.inr (aI C.o hk).1));have f:=zh ((m.o).offS (z.o.set (k:=xb) (Or.inl rfl) 2 (.slice (some ⟨g,0,none⟩) (xs.length+1) cp)) (fun b hb=>hb.elim (fun e=>e▸U.o.1) (fun e=>Nat.lt_of_lt_of_le N.o.1 e)));have ha:=zh (((OnS.of_on X.o (Or.inl rfl):OnS (fun b=>b=rb∨b=xb∨base≤b) w _).trans (z.o.mono (fun b hb=>Or.inr hb))).set (k:=xb) (Or.inr (Or.inl rfl)) 2 (.slice (some ⟨g,0,none⟩) (xs.length+1) cp));have hc:=zh (hh.o.keep (Stays.of_on ((On.refl xb _).set 2 (.slice (some ⟨g,0,none⟩) (xs.length+1) cp)) N.o.2.1));have FIN:Hd (PSaysT rb en (fun b=>b=rb∨b=xb∨base≤b) w (uK xb base (fun v=>#[.int .i64 op,.string text,v,vb,vl,.int .i64 pos]) 134 xs) (P l) (.returned (.tuple #[])) ((dw w9 g (xs.length * 5) (.int .i64 op3) (.int .i64 num3) (.string text3) (.slice s3 n3 cap3) (.int .i64 pos3)).setCell ⟨xb,2,none⟩ (.slice (some ⟨g,0,none⟩) (xs.length+1) cp))):=zh (PSaysT.ok HM.o ⟨rfl,.slice (some ⟨g,0,none⟩) (xs.length+1) cp,au h8.o 2 _,hc.o⟩ f.o ha.o);clear F B A D L;have hG:(xs.length:Int)<(xs.length:Int)+1:=by omega
   refine tkA 9 ?_;refine tkA 11 ?_;refine wpAnyH_ready (rs:=[10,12]) (by kernel_rfl) (by simp) ?_;refine (AllReadyH.cons rfl (fun K hK=>?_) (AllReadyH.cons rfl (fun K hK=>?_) AllReadyH.nil))
   ·go_simp
    refine hK.out _ _ trivial (fun _=>?_);clear hK K;try go_simp
    refine rd1 12 fun K hK=>?_;go_simp;refine hK.out _ _ trivial (fun _=>?_);clear hK K;try go_simp
    refine wpAnyH_done (by kernel_rfl) ?_ _;go_end0
    have E:=FIN.o;unfold dw at E;exact E
   ·go_simp
    refine hK.out _ _ trivial (fun _=>?_);clear hK K;try go_simp
    refine rd1 10 fun K hK=>?_;go_simp;refine hK.out _ _ trivial (fun _=>?_);clear hK K;try go_simp
    refine wpAnyH_done (by kernel_rfl) ?_ _;go_end0
    have E:=FIN.o;rw [←gx _ _ _ _ _ _ _ h6] at E;unfold dw at E;exact E
end
section
open Go.RowKit
theorem iG {α:Type} (en:Int) (one:Par α) (f:Nat) (first:Bool) (A:List α) (l:List Tk):eN en one (f+1) first A l =
    if atS l 0 cZ then .ok (A,l.tail) else ((if first then okP () else bh en gD).bind fun _=>one.bind fun x=>eN en one f false (A++[x])) l:=rfl
theorem aD {α β:Type} {p:Par α} {f:α→Par β} {l:List Tk} {e:Int×Int} (h:p l=.error e):p.bind f l=.error e:=by
 unfold Par.bind;rw [h]
theorem aG {α β:Type} {p:Par α} {f:α→Par β} {l r:List Tk} {x:α} (h:p l=.ok (x,r)):p.bind f l=f x r:=by
 unfold Par.bind;rw [h]
theorem cX (rb:Nat) (s:ByteArray) (l:List Tk) (en:Int) (w:World) (h:RdAt w rb l en) (hq:atS l 0 s=false):Calls Tryz.prog 76 #[.pointer (some ⟨rb,0,none⟩),.string s] w fun e w'=>e=.returned (.bool false)∧RdAt w' rb l en∧On rb w w':=by
 have:=ja rb s l en w h;rw [hq] at this;exact this
theorem de (rb:Nat) (s:ByteArray) (l:List Tk) (en:Int) (w:World) (h:RdAt w rb l en) (hq:atS l 0 s=true):Calls Tryz.prog 76 #[.pointer (some ⟨rb,0,none⟩),.string s] w fun e w'=>e=.returned (.bool true)∧RdAt w' rb l.tail en∧On rb w w':=by
 have:=ja rb s l en w h;rw [hq] at this;exact this
theorem pA {en:Int} {s:ByteArray} {l:List Tk} {u:Unit} {r:List Tk} (h:bh en s l=.ok (u,r)):r.length+1=l.length:=by
 unfold bh at h;split at h
 ·rename_i hq
  cases l with
  | nil=>rw [l8] at hq;cases hq
  | cons t q=>cases h;rfl
 ·cases h
theorem qU {α:Type} (rb:Nat) (en:Int) (T:Nat→Prop) (hT:T rb) (fv:FuncId) (H:Array Value) (z:∀args W,Sem.run Tryz.prog (callFunc fv args) W=.ok (.enter fv args) W) (P:Par α) (I:World→List α→Prop)
    (hI:∀w w' acc,I w acc→On rb w w'→I w' acc) (hP:∀l x r,P l=.ok (x,r)→r.length<l.length)
    (G:∀l w acc,acc.length≤100000→RdAt w rb l en→I w acc→Calls Tryz.prog fv H w (PSaysT rb en T w (fun w' y v=>v=.tuple #[]∧I w' (acc++[y])) (P l)))
    (F:Nat) (l:List Tk) (hF:l.length<F) (d:F≤100001) (w:World) (h:RdAt w rb l en) (h0:I w []) :
    Calls Tryz.prog 73 #[.pointer (some ⟨rb,0,none⟩),.func (.func fv) #[] H] w (PSaysT rb en T w (fun w' ks v=>v=.tuple #[]∧I w' ks) (eN en P F true [] l)):=by
 have HH:=zh h;have X:=zh d;have u:=zh hF;have H0:=zh h0;have HI:=zh hI;have HP:=zh hP;have L:=zh G;have HT:=zh hT;have HA:=zh (fun (s:ByteArray) (l:List Tk) (W:World) (hW:RdAt W rb l en)=>fD rb 0 s l en W hW);have HM:=zh (fun (W:World) (s:ByteArray) (l:List Tk) (sb:Nat) (hW:RdAt W rb l en) (hs:W.cell? ⟨sb,0,none⟩=some (.string s))=>aW rb sb s l en W hW hs);generalize hr:eN en P F true [] l=R;have HR:=zh hr.symm;clear h h0 hI hP G hT hr hF d;have A:=@iG α en P;have q:=zh A;clear A;unfold cZ gD str at *;go_enter Tryz.func73,Tryz.ntmps73
 go_wp2_with fail
 go_loopg [4] F (fun g s4 wr=>∃(first:Bool) (acc:List α) (lc:List Tk),s4=.bool first∧R=eN en P g first acc lc∧lc.length<g∧acc.length+g=F∧RdAt wr rb lc en∧I wr acc∧OnS T w wr)
 case atStart=>exact ⟨true,[],l,rfl,HR.o,u.o,by simp,HH.o,H0.o,OnS.refl _ _⟩
 case round =>
  clear HR HH H0;obtain ⟨first,acc,lc,rfl,hR,a,c,Y,hi,Z⟩:=hrel;obtain ⟨g,rfl⟩:∃g,gk=g+1:=⟨gk-1,by omega⟩
  have f:=zh (hR.trans (q.o g first acc lc));have J:=zh Y;have S:=zh hi;have K:=zh Z;have i:=zh a;have m:=zh c;have b:acc.length≤100000:=by have:=X.o;omega
  have k:=zh b;clear hR Y hi Z a c b
  cases hq:atS lc 0 (⟨[41].toArray⟩:ByteArray)
  ·have HF:Hd (R=((if first then okP () else bh en (⟨[44].toArray⟩:ByteArray)).bind fun _=>P.bind fun x=>eN en P g false (acc++[x])) lc):=zh (by rw [f.o,hq];rfl)
   have E:=zh (HA.o ⟨[41].toArray⟩ lc wr J.o);rw [hq] at E;clear hq
   cases first
   ·have j:Hd (R=((bh en (⟨[44].toArray⟩:ByteArray)).bind fun _=>P.bind fun x=>eN en P g false (acc++[x])) lc):=zh (by
      rw [HF.o,if_neg (by decide)])
    clear HF;go_wp2_with fail
    refine E.o.mono ?_;rintro e w1 ⟨rfl,rfl⟩;go_wp2_with fail
    have D:=zh (ag (Below.refl wr.heap.size wr) (.cells #[.string ⟨[44].toArray⟩] 9));refine (HM.o _ _ lc wr.heap.size (J.o.on D.o) (aA _ _ _ _ _ _ rfl rfl)).mono ?_;rintro e w2 hp;rcases hp.cases with ⟨er,p,hm,rfl,ho⟩ | ⟨x,r,v,hm,rfl,hv,hr,ho⟩
    ·have HE:=zh (j.o.trans (aD hm))
     have HO:=zh (K.o.trans (OnS.of_on ((On.of_below D.o).trans ho) HT.o));clear hp hm ho;unfold Pan;go_wp2_with fail
     exact ⟨rfl,PSaysT.err HE.o HO.o⟩
    ·have M:=zh (show R=(P.bind fun x=>eN en P g false (acc++[x])) r from j.o.trans (aG hm))
     have t:=zh (pA hm);have B:=(On.of_below D.o).trans ho;have HO:=zh (K.o.trans (OnS.of_on B HT.o));have V:=zh (HI.o _ _ _ S.o B);have O:=zh hr;clear hp hm ho hr B;subst hv;go_wp2_with fail
     refine (L.o r w2 acc k.o O.o V.o).mono ?_;rintro e w3 hp;rcases hp.cases with ⟨er,p,hm,rfl,ho⟩ | ⟨y,r3,v,hm,rfl,hv,hr,ho⟩
     ·have HE:=zh (M.o.trans (aD hm))
      have C:=zh (HO.o.trans ho);clear hp hm ho;unfold Pan;go_wp2_with fail
      exact ⟨rfl,PSaysT.err HE.o C.o⟩
     ·have HE:=zh (show R=eN en P g false (acc++[y]) r3 from M.o.trans (aG hm))
      have Q:=zh (HP.o _ _ _ hm);have C:=zh (HO.o.trans ho);have N:=zh hr;have U:=zh hv.2;obtain ⟨rfl,_⟩:=hv;clear hp hm ho hr;go_wp2_with fail
      go_roundg g
      case rel=>exact ⟨false,acc++[y],r3,rfl,HE.o,by have:=Q.o;have:=t.o;have:=i.o;omega,by have:=m.o;simp;omega,N.o,U.o,C.o⟩
      case measure=>omega
   ·have M:Hd (R=(P.bind fun x=>eN en P g false (acc++[x])) lc):=zh (by
      rw [HF.o,if_pos rfl];rfl)
    clear HF;go_wp2_with fail
    refine E.o.mono ?_;rintro e w1 ⟨rfl,rfl⟩;go_wp2_with fail
    refine (L.o lc wr acc k.o J.o S.o).mono ?_;rintro e w3 hp;rcases hp.cases with ⟨er,p,hm,rfl,ho⟩ | ⟨y,r3,v,hm,rfl,hv,hr,ho⟩
    ·have HE:=zh (M.o.trans (aD hm))
     have C:=zh (K.o.trans ho);clear hp hm ho;unfold Pan;go_wp2_with fail
     exact ⟨rfl,PSaysT.err HE.o C.o⟩
    ·have HE:=zh (show R=eN en P g false (acc++[y]) r3 from M.o.trans (aG hm))
     have Q:=zh (HP.o _ _ _ hm);have C:=zh (K.o.trans ho);have N:=zh hr;have U:=zh hv.2;obtain ⟨rfl,_⟩:=hv;clear hp hm ho hr;go_wp2_with fail
     go_roundg g
     case rel=>exact ⟨false,acc++[y],r3,rfl,HE.o,by have:=Q.o;have:=i.o;omega,by have:=m.o;simp;omega,N.o,U.o,C.o⟩
     case measure=>omega
  ·have HF:Hd (R=.ok (acc,lc.tail)):=zh (by rw [f.o,hq];rfl)
   have n:Hd (bh en (⟨[41].toArray⟩:ByteArray) lc=.ok ((),lc.tail)):=zh (by unfold bh;rw [if_pos hq]);have E:=zh (HA.o ⟨[41].toArray⟩ lc wr J.o);rw [hq] at E;clear hq;go_wp2_with fail
   refine E.o.mono ?_;rintro e w1 ⟨rfl,rfl⟩;go_wp2_with fail
   have D:=zh (ag (Below.refl wr.heap.size wr) (.cells #[.string ⟨[41].toArray⟩] 9));refine (n.o▸HM.o _ _ lc wr.heap.size (J.o.on D.o) (aA _ _ _ _ _ _ rfl rfl)).mono ?_;rintro e w2 ⟨⟨v,rfl,hv,hr⟩,ho⟩;have B:=(On.of_below D.o).trans ho;have HO:=zh (K.o.trans (OnS.of_on B HT.o));have V:=zh (HI.o _ _ _ S.o B);have O:=zh hr;clear ho hr B;subst hv;go_wp2_with fail
   go_end0
   exact PSaysT.ok HF.o ⟨rfl,V.o⟩ O.o HO.o
end
section
open Go.RowKit
theorem RepSt.lies {S:Nat→Prop} {w:World} {cs:List Value} {x:St} (h:RepSt S w cs x):RepSt (fun b=>S b∧b<w.heap.size) w cs x:=by
 induction h with
 | mk cb cl he hb _ hl _ ih1 ih2 =>
  refine .mk cb cl ?_ ?_ ih1 ?_ ih2
  ·obtain ⟨c,h1,h2⟩:=he
   exact ⟨c,h1.lies,fun i hi=>(h2 i hi).lies⟩
  ·exact hb.lies
  ·exact hl.lies
def stK:Kind St:=⟨RepSt,RepSt.keep,RepSt.mono,RepSt.lies⟩
theorem RepSts.mono {S S':Nat→Prop} {w:World} {v:Value} {l:List St} (h:RepSts S w v l) (hb:∀b,S b→S' b):RepSts S' w v l:=by
 obtain ⟨cs,h1,h2⟩:=h;exact ⟨cs,h1.mono hb,fun i hi=>(h2 i hi).mono hb⟩
theorem RepSts.form {S:Nat→Prop} {w:World} {v:Value} {l:List St} (h:RepSts S w v l):∃s n c,v=.slice s n c:=by
 obtain ⟨cs,⟨s0,cap,h1,_⟩,_⟩:=h;exact ⟨s0,_,cap,h1⟩
def RS (base:Nat) (w:World) (x:St) (v:Value):Prop:=∃op text s1 n1 c1 s2 n2 c2 s3 n3 c3 pos,v=.agg #[.int .i64 op,.string text,.slice s1 n1 c1,.slice s2 n2 c2,.slice s3 n3 c3,.int .i64 pos]∧RepSt (bN base) w [.int .i64 op,.string text,.slice s1 n1 c1,.slice s2 n2 c2,.slice s3 n3 c3,.int .i64 pos] x
def RSs (base:Nat) (w:World) (l:List St) (v:Value):Prop:=RepSts (bN base) w v l
def tZ (rb:Nat) (en:Int) (f:FuncId) (args:Array Value) (P:Par St):Prop:=∀(l:List Tk) (w:World),RdAt w rb l en→Calls Tryz.prog f args w (PSays rb en w (RS w.heap.size) (P l))
def kR (rb:Nat) (en:Int) (f:FuncId) (args:Array Value) (P:Par (List St)):Prop:=∀(l:List Tk) (w:World),RdAt w rb l en→Calls Tryz.prog f args w (PSays rb en w (RSs w.heap.size) (P l))
def set6 (w:World) (k:Nat) (a b c d e f:Value):World:=(set5 w k a b c d e).setCell ⟨k,5,none⟩ f
theorem On.set6 {k:Nat} {a w:World} (h:On k a w) (x0 x1 x2 x3 x4 x5:Value):On k a (set6 w k x0 x1 x2 x3 x4 x5):=(h.set5 x0 x1 x2 x3 x4).set 5 _
structure Lay where
 rb:Nat
 BR:Nat
 BD:Nat
 RES:Nat
 SB:Nat
 base:Nat
 d:Int
 en:Int
 pl:Int
structure Lay.Ok (y:Lay) (w:World):Prop where
 rb:y.rb<w.heap.size
 br:w.heap.size≤y.BR∧y.BR<y.base
 bd:w.heap.size≤y.BD∧y.BD<y.base
 res:w.heap.size≤y.RES∧y.RES<y.base
 sb:w.heap.size≤y.SB∧y.SB<y.base
 ne:y.BR≠y.SB∧y.BD≠y.SB∧y.RES≠y.SB∧y.BR≠y.RES∧y.BD≠y.RES
structure StW (w:World) (y:Lay) (W:World) (L:List Tk) (op:Int) (text:ByteArray) (ve:Value) (xs:List Ex) (vb:Value) (bs:List St) (vl:Value) (ls:List St):Prop where
 rd:RdAt W y.rb L y.en
 br:W.heap[y.BR]?=some (.cells #[.pointer (some ⟨y.rb,0,none⟩)] 108 (0,0))
 bd:W.heap[y.BD]?=some (.cells #[.int .i64 y.d] 3 (0,0))
 res:W.heap[y.RES]?=some (.cells #[.int .i64 0,.string ⟨#[]⟩,.slice none 0 0,.slice none 0 0,.slice none 0 0,.int .i64 0] 134 (0,0))
 sb:W.heap[y.SB]?=some (.cells #[.int .i64 op,.string text,ve,vb,vl,.int .i64 y.pl] 134 (0,0))
 ex:GrowOf exK y.base 178 5 W ve xs
 bo:RepSts (bN y.base) W vb bs
 el:RepSts (bN y.base) W vl ls
 on:On y.rb w W
 big:y.base≤W.heap.size
section
variable {w W W':World} {y:Lay} {L L':List Tk} {op:Int} {text:ByteArray} {ve vb vl:Value} {xs:List Ex} {bs ls:List St}
theorem StW.call (h:StW w y W L op text ve xs vb bs vl ls) (hy:y.Ok w) (ho:On y.rb W W') (hr:RdAt W' y.rb L' y.en):StW w y W' L' op text ve xs vb bs vl ls:=by
 have h1:=hy.rb;have A:Stays (bN y.base) W W':=Stays.of_on ho (by have:=hy.br;omega);exact ⟨hr,ho.obj (by have:=hy.br;omega) h.br,ho.obj (by have:=hy.bd;omega) h.bd,ho.obj (by have:=hy.res;omega) h.res,ho.obj (by have:=hy.sb;omega) h.sb,h.ex.keep A,h.bo.keep A,h.el.keep A,h.on.trans ho,Nat.le_trans h.big ho.size⟩
theorem StW.below (h:StW w y W L op text ve xs vb bs vl ls) (hb:Below W.heap.size W W'):StW w y W' L op text ve xs vb bs vl ls:=by
 have A:Stays (bN y.base) W W':=Stays.of_below hb;exact ⟨h.rd.on hb,(hb.block _ (af h.br)).trans h.br,(hb.block _ (af h.bd)).trans h.bd,(hb.block _ (af h.res)).trans h.res,(hb.block _ (af h.sb)).trans h.sb,h.ex.keep A,h.bo.keep A,h.el.keep A,h.on.trans (On.of_below hb),Nat.le_trans h.big hb.size⟩
theorem StW.store (h:StW w y W L op text ve xs vb bs vl ls) (hy:y.Ok w) (j:Nat) (u:Value) {F:Int} {A:ByteArray} {C B:Value} {H G:List St}
    (ha:(#[.int .i64 op,.string text,ve,vb,vl,.int .i64 y.pl]:Array Value).setIfInBounds j u=#[.int .i64 F,.string A,ve,C,B,.int .i64 y.pl]) (hb:RepSts (bN y.base) W C H) (hl:RepSts (bN y.base) W B G) :
    StW w y (W.setCell ⟨y.SB,j,none⟩ u) L F A ve xs C H B G:=by
 have ho:On y.SB W (W.setCell ⟨y.SB,j,none⟩ u):=(On.refl _ _).set j u;have D:Stays (bN y.base) W (W.setCell ⟨y.SB,j,none⟩ u):=Stays.of_on ho hy.sb.2;have E:=hy.ne;refine ⟨h.rd.off ho (by have:=hy.sb;have:=hy.rb;omega),ho.obj E.1 h.br,ho.obj E.2.1 h.bd,ho.obj E.2.2.1 h.res,?_,h.ex.keep D,hb.keep D,hl.keep D,h.on.new ho hy.sb.1,Nat.le_trans h.big ho.size⟩;rw [←ha];exact au h.sb j u
theorem StW.kid {v':Value} {A:List Ex} (h:StW w y W L op text ve xs (.slice none 0 0) [] (.slice none 0 0) []) (hy:y.Ok w) (ho:OnS (fun b=>b=y.rb∨b=y.SB∨y.base≤b) W W') (hr:RdAt W' y.rb L' y.en)
    (hs:W'.heap[y.SB]?=some (.cells #[.int .i64 op,.string text,v',.slice none 0 0,.slice none 0 0,.int .i64 y.pl] 134)) (hg:GrowOf exK y.base 178 5 W' v' A):StW w y W' L' op text v' A (.slice none 0 0) [] (.slice none 0 0) []:=by
 have h1:=hy.rb;have h2:=hy.sb;have B:=hy.ne;exact ⟨hr,ho.obj (by have:=hy.br;omega) h.br,ho.obj (by have:=hy.bd;omega) h.bd,ho.obj (by have:=hy.res;omega) h.res,hs,hg,RepSts.nil _ _,RepSts.nil _ _,On.of_onS h.on ho (fun i hi=>by have:=hy.br;omega),Nat.le_trans h.big ho.size⟩
theorem StW.formE (h:StW w y W L op text ve xs vb bs vl ls):∃s n c,ve=.slice s n c:=by
 obtain ⟨cs,ho,_⟩:=h.ex;obtain ⟨s0,cap,h1,_⟩:=bC ho;exact ⟨s0,_,cap,h1⟩
theorem StW.done {s1 s2 s3:Option Addr} {n1 c1 n2 c2 n3 c3:Nat} {R:Except (Int×Int) (St×List Tk)} (h:StW w y W L op text (.slice s1 n1 c1) xs (.slice s2 n2 c2) bs (.slice s3 n3 c3) ls) (hy:y.Ok w) (hR:R=.ok (.mk op text xs bs ls y.pl,L)) :
    PSays y.rb y.en w (RS w.heap.size) R (.returned (.agg #[.int .i64 op,.string text,.slice s1 n1 c1,.slice s2 n2 c2,.slice s3 n3 c3,.int .i64 y.pl])) (set6 W y.RES (.int .i64 op) (.string text) (.slice s1 n1 c1) (.slice s2 n2 c2) (.slice s3 n3 c3) (.int .i64 y.pl)):=by
 have ho:On y.RES W (set6 W y.RES (.int .i64 op) (.string text) (.slice s1 n1 c1) (.slice s2 n2 c2) (.slice s3 n3 c3) (.int .i64 y.pl)):=(On.refl _ _).set6 _ _ _ _ _ _;have B:Stays (bN y.base) W _:=Stays.of_on ho hy.res.2;obtain ⟨cs,A,C⟩:=h.ex.row;have hx:RepExs (bN y.base) W (.slice s1 n1 c1) xs:=⟨cs,A,C⟩
 refine PSays.ok hR ⟨_,_,_,_,_,_,_,_,_,_,_,_,rfl,?_⟩ (h.rd.off ho (by have:=hy.res;have:=hy.rb;omega)) (h.on.new ho hy.res.1);exact ((RepSt.of hx h.bo h.el).keep B).mono fun b (hb:y.base≤b)=>(Nat.le_trans (by have:=hy.br;omega) hb:w.heap.size≤b)
end
end
end Go.Proofs.YthgcpfkochikfaaGreat
