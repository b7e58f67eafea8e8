/-
  VerifyBuilt: part 10 of its proof: see the last text.
-/
import Derived.Test.YtmlgbkomdhcaoaaGreatDoorPv08
set_option maxRecDepth 100000
set_option maxHeartbeats 16000000
namespace Go.Proofs.YtmlgbkomdhcaoaaGreatDoor
section
open Go
section
variable {P:Program} {ops:Array Oper} {md:Region.Mode} {Q:Exit→Act→World→Prop}
def vV (md:Region.Mode) (ops:Array Oper) (n:Nat):Bool:=(List.range ops.size).all fun t=>decide (t<n) || (List.range n).all fun i=>Region.waitsFor md ops t i
theorem sC {n:Nat} {listed:Array Bool} (h:vV md ops n=true) {i:Nat} (hi:i<n) (D:listed.getD i true=false):∀t,n≤t→t ∉ Region.ready md ops listed:=by
 intro t ht hr;obtain ⟨_,ot,C,B⟩:=mem_ready.1 hr;have A:t<ops.size:=(Array.getElem?_eq_some_iff.1 C).1;have h1:=List.all_eq_true.1 h t (List.mem_range.2 A);simp only [Bool.or_eq_true,decide_eq_true_eq] at h1
 have h2:=List.all_eq_true.1 (h1.resolve_left (by omega)) i (List.mem_range.2 hi);obtain ⟨oj,F,e,he,hb,E⟩:=Region.waitsFor_spec h2;obtain rfl:oj=ot:=Option.some.inj (F.symm.trans C);have h3:=B e he hb;rw [E,getD_both D] at h3
 cases h3
theorem mq (y:Nat):∀(f:Nat) (listed:Array Bool) (a:Act) (w:World),wpAny P md ops Q f listed a w→wpAny P md ops Q (f+y) listed a w
 | 0,listed,a,w,h=>by
  cases y with
  | zero=>exact h
  | succ y =>
   rw [Nat.zero_add];exact ⟨fun _=>h.2,fun i hi=>by rw [h.1] at hi;cases hi⟩
 | f+1,listed,a,w,h=>by
  rw [show f+1+y=(f+y)+1 by omega];exact ⟨h.1,fun i hi=>wpOp_mono (fun a' w' h'=>mq y f _ a' w' h') (h.2 i hi)⟩
def uf (P:Program) (md:Region.Mode) (ops:Array Oper) (Q:Exit→Act→World→Prop) (m:Nat) (ln:Array Bool):Exit→Act→World→Prop
 | .normal,a,w=>wpAny P md ops Q m ln a w
 | e,a,w=>Q e a w
variable {n m:Nat} {hd:Array Oper} {ln:Array Bool}
theorem sD {o:Oper} {a:Act} {w:World} {K:Act→World→Prop} (h:o.wp P a w K (uf P md ops Q m ln)):o.wp P a w K Q:=by
 unfold Oper.wp at *;generalize (execOp a.eval o).run P w=r at *
 cases r with
 | ok n w' =>
  cases n<;>simp only [Oper.upon] at h ⊢ <;>
   first
    | exact h
    | exact Calls.mono h (fun e w'' he=>by cases e<;>exact he)
 | halt x w'=>cases x<;>simp only [Oper.upon] at h ⊢<;>exact h
theorem xO (hh:∀j,j<n→hd[j]?=ops[j]?) (hB:kj md ops n=true) {i:Nat} (hi:i<n) {K:Act→World→Prop} {a:Act} {w:World}
    (h:wpOp P hd (uf P md ops Q m ln) i K a w):wpOp P ops Q i K a w:=by
 obtain ⟨o,ho,_,hg⟩:=gZ hB hi;unfold wpOp at *;rw [hh i hi,ho] at h;rw [ho];simp only [lD hh _ hg] at h ⊢
 split
 ·rename_i hw
  rw [if_pos hw] at h;exact h.imp sD (fun q=>q)
 ·rename_i hw
  rw [if_neg hw] at h;exact h
theorem uO (hh:∀j,j<n→hd[j]?=ops[j]?) (H:hd.size=n) (hn:n≤ops.size) (hw:vV md ops n=true) (hB:kj md ops n=true)
    (hq:∀listed:Array Bool,HeadInv md ops n listed→(∀i,i<n→listed.getD i true=true)→listed=ln) :
    ∀(f:Nat) (lh listed:Array Bool) (a:Act) (w:World),Alike n lh listed→HeadInv md ops n listed→wpAny P md hd (uf P md ops Q m ln) f lh a w→wpAny P md ops Q (f+m) listed a w:=by
 have A:∀(lh listed:Array Bool) (a:Act) (w:World),Alike n lh listed→HeadInv md ops n listed→Region.ready md hd lh=[]→wpAny P md ops Q m ln a w→∀y,wpAny P md ops Q (m+y) listed a w:=by
  intro lh listed a w al inv hr h y;have E:=mB hh hB al.size hr;rw [hq listed inv (fun i hi=>by rw [←al.getD hi];exact E i hi)];exact mq y m ln a w h
 intro f;induction f with
 | zero =>
  intro lh listed a w al inv h;rw [Nat.zero_add];exact A lh listed a w al inv h.1 h.2 0
 | succ f ih =>
  intro lh listed a w al inv h;by_cases hr:Region.ready md hd lh=[]
  ·rw [show f+1+m=m+(f+1) by omega]
   exact A lh listed a w al inv hr (h.1 hr) _
  ·have J:∃i,i∈Region.ready md hd lh:=by
     cases hq:Region.ready md hd lh with
     | nil=>exact absurd hq hr
     | cons i _=>exact ⟨i,by simp⟩
   obtain ⟨i0,F⟩:=J;have B:=rh H F;have C:=(il hh hB al B).1 F;have G:listed.getD i0 true=false:=(mem_ready.1 C).1;rw [show f+1+m=(f+m)+1 by omega];refine ⟨fun h0=>absurd C (by rw [h0];simp),fun i hi=>?_⟩
   have D:i<n:=by
    rcases Nat.lt_or_ge i n with q | q
    ·exact q
    ·exact absurd hi (sC hw B G i q)
   have I:=(il hh hB al D).2 hi;exact wpOp_mono (fun a' w' h'=>ih _ _ a' w' (al.set i (by rw [inv.size];omega)) (inv.set hi D) h') (xO hh hB D (h.2 i I))
end
def xV (ops:Array Oper) (n:Nat):Bool:=decide (n<ops.size)&&vV .any ops n&&kj .any ops n
theorem iH {P:Program} {Q:Exit→Act→World→Prop} {S:World→Prop} {id:Nat} {a:Act} {w:World} {l:List Oper} (n:Nat) (hm:P.follows .mixedOrders=true) (hB:xV l.toArray n=true) (hS:S w.drew)
    (h:S w.drew→wpAnyH P .any (l.take n).toArray (uf P .any l.toArray Q (l.length-n) (Array.replicate n true++Array.replicate (l.length-n) false)) S n (Array.replicate n false) a w.drew):(Code.region id l.toArray true).wp P Q a w:=by
 simp only [xV,Bool.and_eq_true,decide_eq_true_eq] at hB
 obtain ⟨⟨hn,hw⟩,hb⟩:=hB;have B:n<l.length:=by simpa using hn
 refine wp_region_any hm ?_
 have inv0:HeadInv .any l.toArray n (Array.replicate l.toArray.size false):=
  ⟨by simp,fun j oj _ hl=>(by rw [getD_replicate_false] at hl;cases hl),fun t _ ht=>getD_in (by simpa using ht) (getD_replicate_false _ _)⟩
 have al0:Alike n (Array.replicate n false) (Array.replicate l.toArray.size false):=⟨by simp,fun j hj=>by
   rw [Array.getElem?_replicate,Array.getElem?_replicate,if_pos hj,if_pos (by simp;omega)]⟩
 have:=uO (P:=P) (Q:=Q) (md:=.any) (hd:=(l.take n).toArray) (ops:=l.toArray) (m:=l.length-n) (n:=n) (ln:=Array.replicate n true++Array.replicate (l.length-n) false) (fun j hj=>by simp [hj]) (by simp;omega) (by simp;omega) hw hb
  (fun listed inv A=>by
    refine Array.ext (by simp [inv.size];omega) fun i h1 h2=>?_;have hi:i<l.length:=by have:=inv.size;simp at this;omega
    by_cases e:i<n
    · have:=A i e
      simp [h1] at this
      rw [Array.getElem_append_left (by simpa using e)];simpa using this
    · have:=inv.tail i (by omega) (by simpa using hi)
      simp [h1] at this
      rw [Array.getElem_append_right (by simp;omega)];simpa using this) n _ _ a w.drew al0 inv0 (wpAny_of_held _ _ _ _ (h hS))
 rw [show n+(l.length-n)=l.toArray.size by simp;omega] at this;exact this
end
end Go.Proofs.YtmlgbkomdhcaoaaGreatDoor
