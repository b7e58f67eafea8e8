/-
  EvalSigns: part 9 of its proof: see the last text.
-/
import Derived.Test.YthgcpfkochikfaaGreatPs08
import Derived.Test.YthgcpfkochikfaaGreatPs00
import Derived.Test.YthgcpfkochikfaaGreatPs01
import Derived.MapKept
import Derived.Shelf.Small.Strs
import Derived.Shelf.Strings.Search1
import Derived.Test.YthgcpfkochikfaaGreatRows
set_option maxRecDepth 100000
set_option maxHeartbeats 16000000
namespace Go.Proofs.YthgcpfkochikfaaGreat
section
open Go.RowKit
theorem gJ {n:Int} (h:-9223372036854775808≤n∧n≤9223372036854775807):wrap64 n=n:=by unfold wrap64;omega
def BM (a b:Int):Int×Int:=(if (decide (a≤wrap64 (a+b))==decide (0≤b)) then wrap64 (a+b) else 0,if (decide (a≤wrap64 (a+b))==decide (0≤b)) then 0 else 3)
def BT (a b:Int):Int×Int:=(if (decide (wrap64 (a-b)≤a)==decide (0≤b)) then wrap64 (a-b) else 0,if (decide (wrap64 (a-b)≤a)==decide (0≤b)) then 0 else 3)
def B6 (a b:Int):Int×Int:=(if b=0 then 0 else if a=-9223372036854775808∧b=-1 then 0 else wrap64 (a.tdiv b),if b=0 then 2 else if a=-9223372036854775808∧b=-1 then 3 else 0)
def Cf (a b:Int):Int×Int:=(if b=0 then 0 else if a=-9223372036854775808∧b=-1 then 0 else a.tmod b,if b=0 then 2 else if a=-9223372036854775808∧b=-1 then 3 else 0)
def mJ (p:Int×Int):Vv×Int:=if p.2=0 then (aB p.1,0) else (noV,p.2)
theorem Av {a b:Int} (ha:bf a) (hb:bf b):mJ (BM a b)=inV (a+b):=by
 unfold bf at ha hb;unfold mJ BM inV;by_cases h:-9223372036854775808≤a+b∧a+b≤9223372036854775807
 ·have e:wrap64 (a+b)=a+b:=gJ h
  have c:(decide (a≤a+b)==decide (0≤b))=true:=by
   by_cases q:0≤b
   ·rw [decide_eq_true q,decide_eq_true (by omega)];rfl
   ·rw [decide_eq_false q,decide_eq_false (by omega)];rfl
  rw [e,c,if_pos h];rfl
 ·have c:(decide (a≤wrap64 (a+b))==decide (0≤b))=false:=by
    unfold wrap64;by_cases q:0≤b
    ·rw [decide_eq_true q,decide_eq_false (by omega)];rfl
    ·rw [decide_eq_false q,decide_eq_true (by omega)];rfl
  rw [c,if_neg h];rfl
theorem zY {a b:Int} (ha:bf a) (hb:bf b):mJ (BT a b)=inV (a-b):=by
 unfold bf at ha hb;unfold mJ BT inV;by_cases h:-9223372036854775808≤a-b∧a-b≤9223372036854775807
 ·have e:wrap64 (a-b)=a-b:=gJ h
  have c:(decide (a-b≤a)==decide (0≤b))=true:=by
   by_cases q:0≤b
   ·rw [decide_eq_true q,decide_eq_true (by omega)];rfl
   ·rw [decide_eq_false q,decide_eq_false (by omega)];rfl
  rw [e,c,if_pos h];rfl
 ·have c:(decide (wrap64 (a-b)≤a)==decide (0≤b))=false:=by
    unfold wrap64;by_cases q:0≤b
    ·rw [decide_eq_true q,decide_eq_false (by omega)];rfl
    ·rw [decide_eq_false q,decide_eq_true (by omega)];rfl
  rw [c,if_neg h];rfl
theorem qV {P M:Nat} (hM:M<18446744073709551616):(decide (P / 18446744073709551616=0)&&decide (P % 18446744073709551616≤M))=decide (P≤M):=by
 by_cases h:P≤M
 ·rw [decide_eq_true h,decide_eq_true (by omega),decide_eq_true (by omega)];rfl
 ·rw [decide_eq_false h]
  by_cases q:P / 18446744073709551616=0
  ·rw [decide_eq_false (by omega:¬P % 18446744073709551616≤M),Bool.and_false]
  ·rw [decide_eq_false q,Bool.false_and]
theorem zJ {a b:Int}:mJ (sC a b)=inV (a * b):=by
 have hn:a.natAbs * b.natAbs=(a * b).natAbs:=(Int.natAbs_mul a b).symm
 have hs:(decide (a<0)=decide (b<0)→0≤a * b)∧(¬decide (a<0)=decide (b<0)→a * b≤0):=by
  by_cases h1:a<0
  ·by_cases h2:b<0
   ·refine ⟨fun _=>?_,fun h=>absurd (by rw [decide_eq_true h1,decide_eq_true h2]) h⟩
    have:=Int.mul_pos_of_neg_of_neg h1 h2;omega
   ·refine ⟨fun h=>?_,fun _=>?_⟩
    ·rw [decide_eq_true h1,decide_eq_false h2] at h;cases h
    ·have:=Int.mul_le_mul_of_nonneg_right (show a≤0 by omega) (show 0≤b by omega)
     rwa [Int.zero_mul] at this
  ·by_cases h2:b<0
   ·refine ⟨fun h=>?_,fun _=>?_⟩
    ·rw [decide_eq_false h1,decide_eq_true h2] at h;cases h
    ·have:=Int.mul_le_mul_of_nonneg_left (show b≤0 by omega) (show 0≤a by omega)
     rwa [Int.mul_zero] at this
   ·exact ⟨fun _=>Int.mul_nonneg (by omega) (by omega),fun h=>absurd (by rw [decide_eq_false h1,decide_eq_false h2]) h⟩
 have hb:xM a b=decide (-9223372036854775808≤a * b∧a * b≤9223372036854775807):=by
  unfold xM;rw [hn];by_cases h:decide (a<0)=decide (b<0)
  ·rw [if_pos h,qV (by decide)]
   have:=hs.1 h;generalize a * b=x at *;exact decide_eq_decide.2 (by omega)
  ·rw [if_neg h,qV (by decide)]
   have:=hs.2 h;generalize a * b=x at *;exact decide_eq_decide.2 (by omega)
 unfold mJ sC inV;by_cases h:-9223372036854775808≤a * b∧a * b≤9223372036854775807
 ·rw [hb,decide_eq_true h,if_pos h,if_pos rfl,gJ h]
  rfl
 ·rw [hb,decide_eq_false h,if_neg h]
  rfl
theorem pC {a b:Int} (ha:bf a) (h0:b≠0) (h:¬(a=-9223372036854775808∧b=-1)):-9223372036854775808≤a.tdiv b∧a.tdiv b≤9223372036854775807:=by
 unfold bf at ha;by_cases h1:b=1
 ·subst h1;rw [Int.tdiv_one];exact ha
 by_cases h2:b=-1
 ·subst h2
  rw [Int.tdiv_neg,Int.tdiv_one];omega
 have hb:2≤b.natAbs:=by omega
 have e:=Int.natAbs_tdiv a b;have A:a.natAbs / b.natAbs≤a.natAbs / 2:=Nat.div_le_div_left hb (by decide);rw [show Nat.div a.natAbs b.natAbs=a.natAbs / b.natAbs from rfl] at e;omega
theorem AV {a b:Int} (ha:bf a):mJ (B6 a b)=iz Int.tdiv a b:=by
 unfold mJ B6 iz;by_cases h0:b=0
 ·simp [h0]
 by_cases h1:a=-9223372036854775808∧b=-1
 ·simp [h1]
 ·simp only [if_neg h0,if_neg h1,if_true]
  rw [gJ (pC ha h0 h1)]
theorem AF {a b:Int}:mJ (Cf a b)=iz Int.tmod a b:=by
 unfold mJ Cf iz;by_cases h0:b=0
 ·simp [h0]
 by_cases h1:a=-9223372036854775808∧b=-1
 ·simp [h1]
 ·simp only [if_neg h0,if_neg h1,if_true]
theorem wW:fq ⟨#[43]⟩ ⟨some BM,none,none,none⟩:=fun W=>(xu W).mono fun _ _ ⟨he,hb⟩=>⟨_,_,_,_,he,hb,⟨208,#[],rfl,fun _ _=>Tryz.call208 _ _,fun _ _ a b _ _=>yS a b _⟩,rfl,rfl,rfl⟩
theorem vL:fq ⟨#[45]⟩ ⟨some BT,none,none,none⟩:=fun W=>(vG W).mono fun _ _ ⟨he,hb⟩=>⟨_,_,_,_,he,hb,⟨210,#[],rfl,fun _ _=>Tryz.call210 _ _,fun _ _ a b _ _=>yr a b _⟩,rfl,rfl,rfl⟩
theorem xw:fq ⟨#[42]⟩ ⟨some sC,none,none,none⟩:=fun W=>(ze W).mono fun _ _ ⟨he,hb⟩=>⟨_,_,_,_,he,hb,⟨211,#[],rfl,fun _ _=>Tryz.call211 _ _,fun _ _ a b ha hb=>tI a b _ ha hb⟩,rfl,rfl,rfl⟩
theorem Ch:fq ⟨#[60]⟩ ⟨none,some fun a b=>decide (a<b),none,none⟩:=fun W=>(BZ W).mono fun _ _ ⟨he,hb⟩=>⟨_,_,_,_,he,hb,rfl,⟨215,rfl,fun _ _=>Tryz.call215 _ _,zC⟩,rfl,rfl⟩
theorem CO:fq ⟨#[60,61]⟩ ⟨none,some fun a b=>decide (a≤b),none,none⟩:=fun W=>(Co W).mono fun _ _ ⟨he,hb⟩=>⟨_,_,_,_,he,hb,rfl,⟨216,rfl,fun _ _=>Tryz.call216 _ _,Ar⟩,rfl,rfl⟩
theorem BW:fq ⟨#[62]⟩ ⟨none,some fun a b=>decide (b<a),none,none⟩:=fun W=>(Cw W).mono fun _ _ ⟨he,hb⟩=>⟨_,_,_,_,he,hb,rfl,⟨217,rfl,fun _ _=>Tryz.call217 _ _,zV⟩,rfl,rfl⟩
theorem CE:fq ⟨#[62,61]⟩ ⟨none,some fun a b=>decide (b≤a),none,none⟩:=fun W=>(CK W).mono fun _ _ ⟨he,hb⟩=>⟨_,_,_,_,he,hb,rfl,⟨218,rfl,fun _ _=>Tryz.call218 _ _,Aj⟩,rfl,rfl⟩
theorem Cz:fq ⟨#[61,61]⟩ ⟨none,some fun a b=>a==b,some fun a b=>a==b,some fun a=>a==0⟩:=fun W=>(Cm W).mono fun _ _ ⟨he,hb⟩=>⟨_,_,_,_,he,hb,rfl,⟨219,rfl,fun _ _=>Tryz.call219 _ _,zT⟩,⟨220,rfl,fun _ _=>Tryz.call220 _ _,zk⟩,⟨221,rfl,fun _ _=>Tryz.call221 _ _,yv⟩⟩
theorem BU:fq ⟨#[33,61]⟩ ⟨none,some fun a b=>a !=b,some fun a b=>a !=b,some fun a=>a !=0⟩:=fun W=>(Cn W).mono fun _ _ ⟨he,hb⟩=>⟨_,_,_,_,he,hb,rfl,⟨222,rfl,fun _ _=>Tryz.call222 _ _,AY⟩,⟨223,rfl,fun _ _=>Tryz.call223 _ _,yi⟩,⟨224,rfl,fun _ _=>Tryz.call224 _ _,xD⟩⟩
theorem A6:fq ⟨#[38,38]⟩ ⟨none,none,some fun a b=>a&&b,none⟩:=fun W=>(AU W).mono fun _ _ ⟨he,hb⟩=>⟨_,_,_,_,he,hb,rfl,rfl,⟨225,rfl,fun _ _=>Tryz.call225 _ _,vq⟩,rfl⟩
theorem Cu:fq ⟨#[124,124]⟩ ⟨none,none,some fun a b=>a || b,none⟩:=fun W=>(Cy W).mono fun _ _ ⟨he,hb⟩=>⟨_,_,_,_,he,hb,rfl,rfl,⟨226,rfl,fun _ _=>Tryz.call226 _ _,yA⟩,rfl⟩
theorem Ad:fq ⟨#[47]⟩ ⟨some B6,none,none,none⟩:=fun W=>(zL W).mono fun _ _ ⟨he,hb,hc⟩=>⟨_,_,_,_,he,hb,⟨229,#[.pointer (some ⟨W.heap.size+1,0,none⟩)],rfl,fun _ _=>Tryz.call229 _ _,fun _ hW a b _ _=>vu a b _ _ (aa ((hW.block _ (af hc)).trans hc) rfl)⟩,rfl,rfl,rfl⟩
theorem Bs:fq ⟨#[37]⟩ ⟨some Cf,none,none,none⟩:=fun W=>(AS W).mono fun _ _ ⟨he,hb,hc⟩=>⟨_,_,_,_,he,hb,⟨229,#[.pointer (some ⟨W.heap.size+1,0,none⟩)],rfl,fun _ _=>Tryz.call229 _ _,fun _ hW a b _ _=>vz a b _ _ (aa ((hW.block _ (af hc)).trans hc) rfl)⟩,rfl,rfl,rfl⟩
def AX (s:List UInt8):Prop:=s=[43]∨s=[45]∨s=[42]∨s=[47]∨s=[37]∨s=[60]∨s=[60,61]∨s=[62]∨s=[62,61]∨s=[61,61]∨s=[33,61]∨s=[38,38]∨s=[124,124]
def jO (r:Rw) (s:List UInt8) (a b:Vv):Vv×Int:=
 if a.ty≠b.ty then (noV,7)
 else if a.ty=1 then (match r.F with
   | some f=>mJ (f a.num b.num)
   | none=>match r.H with
     | some h=>(aW (h a.num b.num),0)
     | none=>(noV,7))
 else if a.ty=2 then (match r.B with
   | some f=>(aW (f (a.num==1) (b.num==1)),0)
   | none=>(noV,7))
 else if a.ty=3 then (match r.T with
   | some f=>(aW (f (Lib.compareBytes a.text b.text)),0)
   | none=>if s=[43] then (if 256<a.text.length+b.text.length then (noV,6) else (aE (a.text++b.text),0)) else (noV,7))
 else (noV,7)
theorem Au {S1 S2:Nat→Prop} {va vb:Value} {a b:Vv} {t:ByteArray} {r:Rw} {w:World} (ho:fq t r) (ha:VvAt S1 w va a) (hb:VvAt S2 w vb b) (oa:OkV a) (ob:OkV b) :
    Calls Tryz.prog 199 #[.string t,va,vb] w (dB w (jO r t.toList a b)):=by
 obtain ⟨pa,ca,rfl,C⟩:=ha;obtain ⟨pb,cb,rfl,A⟩:=hb;obtain ⟨ta,na,xa⟩:=a;obtain ⟨tb,nb',xb⟩:=b;have h1:=oa.num;have h2:=ob.num;have h3:=oa.text;have h4:=ob.text;dsimp only at *;unfold jO;dsimp only;by_cases e:ta=tb
 ·subst e
  rw [if_neg (fun h=>h rfl)];by_cases e1:ta=1
  ·subst e1
   rw [if_pos rfl]
   cases hF:r.F with
   | some F=>exact zx ho hF h1 h2 rfl
   | none =>
    cases hH:r.H with
    | some H=>exact uQ ho hF hH
    | none=>exact uG ho hF hH
  rw [if_neg e1];by_cases e2:ta=2
  ·subst e2
   rw [if_pos rfl]
   cases hB:r.B with
   | some F=>exact vO ho hB
   | none=>exact uU ho hB
  rw [if_neg e2];by_cases e3:ta=3
  ·subst e3
   rw [if_pos rfl]
   cases hT:r.T with
   | some F=>exact uH C A ho hT
   | none =>
    dsimp only;by_cases e4:t.toList=[43]
    ·rw [if_pos e4]
     by_cases e5:256<xa.length+xb.length
     ·rw [if_pos e5]
      exact Bc ho hT e4 h3 e5 h4
     ·rw [if_neg e5]
      exact Bq C A ho hT e4 (by omega)
    ·rw [if_neg e4]
     exact vi ho hT e4
  rw [if_neg e3];exact vM ho e1 e2 e3
 ·rw [if_pos e]
  exact tN ho e
theorem BK (a b:Int):(a==b)=decide (a=b):=by by_cases h:a=b<;>simp [h]
theorem ug (a b:List UInt8):decide (Lib.compareBytes a b=0)=(a==b):=by
 by_cases h:a=b
 ·rw [decide_eq_true ((je a b).2 h),h];simp
 ·rw [beq_eq_false_iff_ne.2 h]
  exact decide_eq_false fun q=>h ((je a b).1 q)
theorem mF {S1 S2:Nat→Prop} {va vb:Value} {a b:Vv} (t:ByteArray) (w:World) (ha:VvAt S1 w va a) (hb:VvAt S2 w vb b) (oa:OkV a) (ob:OkV b) (ht:AX t.toList) :
    Calls Tryz.prog 199 #[.string t,va,vb] w (dB w (cJ t.toList a b)):=by
 have key:∀(s:List UInt8) (r:Rw),t.toList=s→fq ⟨s.toArray⟩ r→jO r s a b=cJ s a b→Calls Tryz.prog 199 #[.string t,va,vb] w (dB w (cJ t.toList a b)):=fun s r e ho hr=>by
  rw [e,←hr,←e];exact Au (by rw [gF e];exact ho) ha hb oa ob
 rcases ht with h | h | h | h | h | h | h | h | h | h | h | h | h
 ·exact key _ _ h wW (by simp [jO,cJ,eK,dW,dV,Av oa.num ob.num])
 ·exact key _ _ h vL (by simp [jO,cJ,eK,dW,dV,zY oa.num ob.num])
 ·exact key _ _ h xw (by simp [jO,cJ,eK,dW,dV,zJ])
 ·exact key _ _ h Ad (by simp [jO,cJ,eK,dW,dV,AV oa.num])
 ·exact key _ _ h Bs (by simp [jO,cJ,eK,dW,dV,AF])
 ·exact key _ _ h Ch (by simp [jO,cJ,eK,dW,dV])
 ·exact key _ _ h CO (by simp [jO,cJ,eK,dW,dV])
 ·exact key _ _ h BW (by simp [jO,cJ,eK,dW,dV])
 ·exact key _ _ h CE (by simp [jO,cJ,eK,dW,dV])
 ·exact key _ _ h Cz (by simp [jO,cJ,eK,dW,dV,ug,BK])
 ·exact key _ _ h BU (by simp [jO,cJ,eK,dW,dV,ug,bne,BK])
 ·exact key _ _ h A6 (by simp [jO,cJ,eK,dW,dV])
 ·exact key _ _ h Cu (by simp [jO,cJ,eK,dW,dV])
end
section
open Go.RowKit
structure Rst where
 lim:Int
 used:Int
 pairs:List Pr
 undo:List (List Pr)
inductive Rn (α:Type) where
 | ok (a:α) (r:Rst)
 | trap (t:Int) (r:Rst)
abbrev RM (α:Type):=Rst→Rn α
def okM {α:Type} (a:α):RM α:=fun r=>.ok a r
def RM.then {α β:Type} (m:RM α) (f:α→RM β):RM β:=fun r=>match m r with
 | .ok a r=>f a r
 | .trap t r=>.trap t r
def dy (n:Int):RM Unit:=fun r=>if n≤r.lim-r.used then .ok () { r with used:=r.used+n } else .trap 1 { r with used:=r.lim }
def bX (p:Vv×Int):RM Vv:=fun r=>if p.2=0 then .ok p.1 r else .trap p.2 r
def Ag (k:List UInt8):RM (Option (List UInt8)):=fun r=>.ok (fQ r.pairs k) r
def AR (l:List Pr):RM Unit:=fun r=>.ok () { r with pairs:=l,undo:=r.undo++[r.pairs] }
def iO (k v:List UInt8):RM Unit:=fun r=>match fw r.pairs k v with
 | .ok l=>AR l r
 | .error e=>.trap (if e=1 then 6 else 5) r
def uN (k:List UInt8):RM Unit:=fun r=>AR (eo r.pairs k) r
abbrev Sc:=List (ByteArray×Vv)
def gM (m:Sc) (x:ByteArray):Bool:=(aL m x).isSome
def fP:List Sc→ByteArray→Vv
 | [],_=>noV
 | [m],x=>(aL m x).getD noV
 | m :: n :: l,x=>if gM m x then (aL m x).getD noV else fP (n :: l) x
def mN:List Sc→ByteArray→Vv→List Sc
 | [],_,_=>[]
 | [m],x,v=>[bZ m x v]
 | m :: n :: l,x,v=>if gM m x then bZ m x v :: n :: l else m :: mN (n :: l) x v
def Bv:List Sc→ByteArray→Vv→List Sc
 | [],_,_=>[]
 | m :: l,x,v=>bZ m x v :: l
abbrev bT:=ByteArray→List Vv→RM Vv
def kw:List UInt8:=[38,38]
def cOr:List UInt8:=[124,124]
def iX (s:List UInt8) (a:Vv):Bool:=(s==kw&&a.num !=1) || (s==cOr&&a.num==1)
def gT (s:List UInt8) (a b:Vv):RM Vv:=
 if s=kw∨s=cOr then okM b
 else (if s=[43]∧a.ty=3 then dy (fZ (a.text.length+b.text.length)) else okM ()).then fun _=>bX (cJ s a b)
def jr (call:bT) (op:Int) (text:ByteArray) (vs:List Vv):RM Vv:=
 if op=5 then call text vs
 else if op=7 then bX (eG text.toList (vs.getD 0 noV))
 else if op=10 then okM (aB (vs.getD 0 noV).text.length)
 else (dy 2).then fun _=>(Ag (vs.getD 0 noV).text).then fun o=>okM (if op=9 then aW o.isSome else aE (o.getD []))
mutual
def bR (call:bT) (σ:List Sc):Ex→RM Vv
 | .mk op num text ks _=>(dy 1).then fun _ =>
  if op=1 then okM (aB num)
  else if op=2 then okM (aW (num==1))
  else if op=3 then okM (aE text.toList)
  else if op=4 then okM (fP σ text)
  else if op=6 then iA call σ text ks
  else (bA call σ ks).then fun vs=>jr call op text vs
def iA (call:bT) (σ:List Sc) (text:ByteArray):List Ex→RM Vv
 | []=>okM noV
 | [_]=>okM noV
 | x :: y :: _=>(bR call σ x).then fun a=>if iX text.toList a then okM (aW (a.num==1)) else (bR call σ y).then fun b=>gT text.toList a b
def bA (call:bT) (σ:List Sc):List Ex→RM (List Vv)
 | []=>okM []
 | x :: l=>(bR call σ x).then fun v=>(bA call σ l).then fun vs=>okM (v :: vs)
end
abbrev StM:=List Sc→RM (Option Vv×List Sc)
def inM (m:Sc) (b:StM):StM:=fun σ=>(b (m :: σ)).then fun p=>okM (p.1,p.2.tail)
def fE (round:Int→StM):Nat→Int→StM
 | 0,_,σ=>okM (none,σ)
 | n+1,i,σ=>(dy 1).then fun _=>(round i σ).then fun p=>if p.1.isSome then okM p else fE round n (i+1) p.2
def fD (op:Int) (text:ByteArray) (vs:List Vv):StM:=fun σ =>
 if op=1 then okM (none,Bv σ text (vs.getD 0 noV))
 else if op=2 then okM (none,mN σ text (vs.getD 0 noV))
 else if op=5 then okM (some (vs.getD 0 noV),σ)
 else if op=6 then (dy (eF (vs.getD 0 noV).text.length (vs.getD 1 noV).text.length)).then fun _=>(iO (vs.getD 0 noV).text (vs.getD 1 noV).text).then fun _=>okM (none,σ)
 else if op=7 then (dy 4).then fun _=>(uN (vs.getD 0 noV).text).then fun _=>okM (none,σ)
 else okM (none,σ)
mutual
def bU (call:bT):St→StM
 | .mk op text es body els _,σ=>(dy 1).then fun _=>(bA call σ es).then fun vs =>
  if op=3 then (if (vs.getD 0 noV).num=1 then inM [] (aG call body) σ else inM [] (aG call els) σ)
  else if op=4 then fE (fun i=>inM [(text,aB i)] (aG call body)) ((vs.getD 1 noV).num-(vs.getD 0 noV).num).toNat (vs.getD 0 noV).num σ
  else fD op text vs σ
def aG (call:bT):List St→StM
 | [],σ=>okM (none,σ)
 | s :: l,σ=>(bU call s σ).then fun p=>if p.1.isSome then okM p else aG call l p.2
end
def dh:List (ByteArray×Int)→List Vv→Sc→Sc
 | p :: l,v :: vs,m=>dh l vs (bZ m p.1 v)
 | _,_,m=>m
def cD:List Fn→ByteArray→Option Fn
 | [],_=>none
 | f :: l,x=>if f.name=x then some f else cD l x
def tw (F:List Fn) (call:bT):bT:=fun x vs=>match cD F x with
 | none=>okM noV
 | some f=>(aG call f.body [dh f.params vs []]).then fun p=>okM (p.1.getD noV)
def aF (F:List Fn):Nat→bT
 | 0=>fun _ _ r=>.trap 4 r
 | k+1=>tw F (aF F k)
def ms (v:Vv) (t:Int):Bool:=if t=3 then v.ty==t&&v.num==0&&decide (v.text.length≤256) else v.ty==t&&decide (v.text.length=0)
def eP:List Vv→List (ByteArray×Int)→Bool
 | [],[]=>true
 | v :: vs,p :: l=>ms v p.2&&eP vs l
 | _,_=>false
structure Oc where
 val:Vv
 trap:Int
 used:Int
structure Jn where
 pairs:List Pr
 undo:List (List Pr)
def bK (F:List Fn) (x:ByteArray) (vs:List Vv) (limit:Int) (j:Jn):Oc×Jn:=
 if (bL F).1≠0 then (⟨noV,7,0⟩,j) else match cD F x with
 | none=>(⟨noV,7,0⟩,j)
 | some f=>if eP vs f.params then
     match aF F 16 x vs ⟨max 0 (min limit 100000),0,j.pairs,j.undo⟩ with
     | .ok v r=>(⟨v,0,r.used⟩,⟨r.pairs,r.undo⟩)
     | .trap t r=>(⟨noV,t,r.used⟩,j)
  else (⟨noV,7,0⟩,j)
end
section
open Go.RowKit Go.MapKept
def qB (e:MapEntry):Value×Value:=(e.key,e.val)
def qd (p:ByteArray×Value):Value×Value:=(.string p.1,p.2)
def MapAt (w:World) (r:Nat) (m:List (ByteArray×Value)):Prop:=∃es clock,w.heap[r]?=some (.map es clock)∧es.toList.map qB=m.map qd
theorem MapAt.keep {w w':World} {r:Nat} {m:List (ByteArray×Value)} (h:MapAt w r m) (hb:w'.heap[r]?=w.heap[r]?):MapAt w' r m:=by
 obtain ⟨es,c,h1,h2⟩:=h;exact ⟨es,c,hb.trans h1,h2⟩
theorem MapAt.lt {w:World} {r:Nat} {m:List (ByteArray×Value)} (h:MapAt w r m):r<w.heap.size:=by
 obtain ⟨es,c,h1,_⟩:=h;exact af h1
theorem MapAt.below {w w':World} {r:Nat} {m:List (ByteArray×Value)} (h:MapAt w r m) (hb:Below w.heap.size w w'):MapAt w' r m:=h.keep (hb.block r h.lt)
theorem MapAt.made (w:World) {n:Nat} (h:w.heap.size=n):MapAt (w.alloc (.map #[] 0)) n []:=⟨#[],0,aj _ _ _ h,rfl⟩
theorem gU (k:ByteArray) (x:Value):∀(l:List MapEntry) (m:List (ByteArray×Value)) (i:Nat),l.map qB=m.map qd →
    (aL m k=none∧Instr.findNow .string (.string k) l i=some none∧bZ m k x=m++[(k,x)]) ∨
    ∃j v e,aL m k=some v∧Instr.findNow .string (.string k) l i=some (some (i+j,v))∧l[j]?=some e∧e.key=.string k∧(l.modify j fun e=>{ e with key:=.string k,val:=x }).map qB=(bZ m k x).map qd
 | [],[],i,_=>.inl ⟨rfl,rfl,rfl⟩
 | [],_ :: _,_,h=>by simp at h
 | _ :: _,[],_,h=>by simp at h
 | e :: l,p :: m,i,h=>by
  simp only [List.map_cons,List.cons.injEq] at h
  obtain ⟨h1,h2⟩:=h;have hk:e.key=.string p.1:=congrArg Prod.fst h1;have hv:e.val=p.2:=congrArg Prod.snd h1;obtain ⟨rr,hs,A⟩:=sameNow_of_keys (d:=.string) (a:=.string k) (b:=e.key) (by simp [IsKey]) (by rw [hk];simp [IsKey]);by_cases q:p.1=k
  ·refine .inr ⟨0,p.2,e,by simp [aL,q],?_,rfl,by rw [hk,q],?_⟩
   ·unfold Instr.findNow
    rw [hs,A.2 (by rw [hk,q])];simp [hv]
   ·simp only [bZ,if_pos q,List.modify_zero_cons,List.map_cons]
    rw [h2];simp [qB,qd,q]
  ·obtain rfl:rr=false:=by
     cases rr with
     | false=>rfl
     | true=>exact absurd (by have:=A.1 rfl;rw [hk] at this;injection this with this;exact this.symm) q
   rcases gU k x l m (i+1) h2 with ⟨a1,a2,a3⟩ | ⟨j,v,e',a1,a2,a3,a4,a5⟩
   ·refine .inl ⟨by simp [aL,q,a1],?_,by simp [bZ,q,a3]⟩
    unfold Instr.findNow;rw [hs];exact a2
   ·refine .inr ⟨j+1,v,e',by simp [aL,q,a1],?_,by simpa using a3,a4,?_⟩
    ·unfold Instr.findNow
     rw [hs];simp only [a2]
     rw [show i+1+j=i+(j+1) by omega]
    ·simp only [bZ,if_neg q,List.modify_succ_cons,List.map_cons]
     rw [a5,h1]
section
variable {P:Program} {w:World} {r:Nat} {m:List (ByteArray×Value)} {mt kt et:TypeId}
theorem fK (h:MapAt w r m) (hm:P.underlying mt=some (.map kt et)) (hk:P.underlying kt=some .string) {z:Value} (hz:(zeroValue et).run P w=.ok z w) (k:ByteArray) :
    (Instr.lookup mt (.map (some r)) (.string k) true).run P w=.ok (.tuple #[(aL m k).getD z,.bool (aL m k).isSome]) w:=by
 obtain ⟨es,c,h1,h2⟩:=h;rcases gU k .nilIface es.toList m 0 h2 with ⟨a1,a2,_⟩ | ⟨j,v,e,a1,a2,_⟩
 ·simp [Instr.lookup,run_underlying hm,Go.MapKept.run_getObj_map h1,run_checkKey hk (k:=.string k) (by simp [IsKey]),run_findKey hk a2,hz,Result.andThen,a1]
 ·simp [Instr.lookup,run_underlying hm,Go.MapKept.run_getObj_map h1,run_checkKey hk (k:=.string k) (by simp [IsKey]),run_findKey hk a2,Result.andThen,a1]
def iB (w:World) (r:Nat) (k:ByteArray) (x:Value):World:=match w.heap[r]? with
 | some (.map es c)=>(match Instr.findNow .string (.string k) es.toList 0 with
   | some (some (i,_))=>{ w with heap:=w.heap.setIfInBounds r (.map (es.modify i fun e=>{ e with key:=.string k,val:=x }) c) }
   | _=>{ w with heap:=w.heap.setIfInBounds r (.map (es.push { key:=.string k,val:=x,born:=c }) (c+1)) })
 | _=>w
theorem gj (w:World) (r:Nat) (k:ByteArray) (x:Value):On r w (iB w r k x):=by
 unfold iB;split
 ·rename_i es c h
  split
  ·exact ⟨rfl,rfl,rfl,by simp,fun i hi A=>by
     have:i≠r:=fun e=>A (by rw [e]);simp [Array.getElem?_setIfInBounds_ne (Ne.symm this)]⟩
  ·exact ⟨rfl,rfl,rfl,by simp,fun i hi A=>by
     have:i≠r:=fun e=>A (by rw [e]);simp [Array.getElem?_setIfInBounds_ne (Ne.symm this)]⟩
 ·exact On.refl _ _
theorem jJ (h:MapAt w r m) (k:ByteArray) (x:Value):MapAt (iB w r k x) r (bZ m k x):=by
 obtain ⟨es,c,h1,h2⟩:=h;have A:=af h1;unfold iB;rw [h1];rcases gU k x es.toList m 0 h2 with ⟨a1,a2,a3⟩ | ⟨j,v,e,a1,a2,a3,a4,a5⟩
 ·simp only [a2]
  refine ⟨_,_,(heap_set h1).1,?_⟩;rw [a3];simp [h2,qB,qd]
 ·simp only [a2,Nat.zero_add]
  refine ⟨_,_,(heap_set h1).1,?_⟩;rw [←a5];simp
theorem fM (h:MapAt w r m) (hm:P.underlying mt=some (.map kt et)) (hk:P.underlying kt=some .string) (k:ByteArray) (x:Value) :
    (Instr.mapUpdate mt (.map (some r)) (.string k) x).run P w=.ok () (iB w r k x):=by
 obtain ⟨es,c,h1,h2⟩:=h;rcases gU k x es.toList m 0 h2 with ⟨a1,a2,_⟩ | ⟨j,v,e,a1,a2,a3,a4,a5⟩
 ·have e2:iB w r k x={ w with heap:=w.heap.setIfInBounds r (.map (es.push { key:=.string k,val:=x,born:=c }) (c+1)) }:=by
    unfold iB;rw [h1];simp only [a2]
  rw [e2];simp [Instr.mapUpdate,run_underlying hm,Go.MapKept.run_getObj_map h1,run_checkKey hk (k:=.string k) (by simp [IsKey]),run_findKey hk a2,Result.andThen,Go.MapKept.run_setObj_map _ h1]
 ·have e2:iB w r k x={ w with heap:=w.heap.setIfInBounds r (.map (es.modify j fun e=>{ e with key:=.string k,val:=x }) c) }:=by
    unfold iB;rw [h1];simp only [a2,Nat.zero_add]
  rw [Nat.zero_add] at a2;rw [e2];have a3':es[j]?=some e:=by rw [←a3];simp
  have A:(Instr.keyThatStays (.string k) (.string k)).run P w=.ok (.string k) w:=by
   unfold Instr.keyThatStays;rw [if_pos (by simp [Instr.sameBits,bytes_beq])];simp
  simp [Instr.mapUpdate,run_underlying hm,Go.MapKept.run_getObj_map h1,run_checkKey hk (k:=.string k) (by simp [IsKey]),run_findKey hk a2,Result.andThen,Go.MapKept.run_setObj_map _ h1,a3',a4,A]
end
end
section
open Go.Shelf
def rE:Go.Shelf.Ren:=⟨fun | 137=>91 | 217=>123 | 266=>170 | n=>n,fun | 9=>9 | 5=>5 | 3=>3 | n=>n,fun | n=>n⟩
theorem As:Go.Proofs.Lays.n137 Tryz.prog rE:={
  mixed:=by kernel_rfl
  f137:=Tryz.func91.trans (congrArg some (by kernel_rfl))
  f217:=Tryz.func123.trans (congrArg some (by kernel_rfl))
  f266:=Tryz.func170.trans (congrArg some (by kernel_rfl))
  t3:=Tryz.underlying3
  a3:=Tryz.isAgg3
  z3:=Tryz.sizeOf3
  v3:=Tryz.zeroValue3
  t5:=Tryz.underlying5
  a5:=Tryz.isAgg5
  z5:=Tryz.sizeOf5
  v5:=Tryz.zeroValue5
  t9:=Tryz.underlying9
  a9:=Tryz.isAgg9
  z9:=Tryz.sizeOf9
  v9:=Tryz.zeroValue9 }
theorem od (s:ByteArray) (c:Int) (w:World) :
    Calls Tryz.prog 91 #[.string s,.int .u8 c] w fun e w'=>e=.returned (.int .i64 (Lib.indexByte s.data.toList c.toNat.toUInt8))∧w'=w:=Any.strings_IndexByte As s c w
end
end Go.Proofs.YthgcpfkochikfaaGreat
