/-
  EvalLoops: part 8 of its proof: see the last text.
-/
import Derived.Test.YthgcpfkochikfaaGreatPq00
import Derived.Test.YthgcpfkochikfaaGreatPq02
set_option maxRecDepth 100000
set_option maxHeartbeats 16000000
namespace Go.Proofs.YthgcpfkochikfaaGreat
section
open Go.RowKit
structure Rst where
 lim:Int
 used:Int
 pairs:List Pr
 undo:List (List Pr)
inductive Rn (α:Type) where
 | ok (a:α) (r:Rst)
 | trap (t:Int) (r:Rst)
abbrev RM (α:Type):=Rst→Rn α
def okM {α:Type} (a:α):RM α:=fun r=>.ok a r
def RM.then {α β:Type} (m:RM α) (f:α→RM β):RM β:=fun r=>match m r with
 | .ok a r=>f a r
 | .trap t r=>.trap t r
def dv (n:Int):RM Unit:=fun r=>if n≤r.lim-r.used then .ok () { r with used:=r.used+n } else .trap 1 { r with used:=r.lim }
def bX (p:Vv×Int):RM Vv:=fun r=>if p.2=0 then .ok p.1 r else .trap p.2 r
def Bi (k:List UInt8):RM (Option (List UInt8)):=fun r=>.ok (fZ r.pairs k) r
def zP (l:List Pr):RM Unit:=fun r=>.ok () { r with pairs:=l,undo:=r.undo++[r.pairs] }
def iO (k v:List UInt8):RM Unit:=fun r=>match fE r.pairs k v with
 | .ok l=>zP l r
 | .error e=>.trap (if e=1 then 6 else 5) r
def wv (k:List UInt8):RM Unit:=fun r=>zP (eu r.pairs k) r
abbrev Sc:=List (ByteArray×Vv)
def gL (m:Sc) (x:ByteArray):Bool:=(aL m x).isSome
def fY:List Sc→ByteArray→Vv
 | [],_=>noV
 | [m],x=>(aL m x).getD noV
 | m :: n :: l,x=>if gL m x then (aL m x).getD noV else fY (n :: l) x
def nC:List Sc→ByteArray→Vv→List Sc
 | [],_,_=>[]
 | [m],x,v=>[bY m x v]
 | m :: n :: l,x,v=>if gL m x then bY m x v :: n :: l else m :: nC (n :: l) x v
def Bz:List Sc→ByteArray→Vv→List Sc
 | [],_,_=>[]
 | m :: l,x,v=>bY m x v :: l
abbrev bU:=ByteArray→List Vv→RM Vv
def kq:List UInt8:=[38,38]
def cOr:List UInt8:=[124,124]
def jk (s:List UInt8) (a:Vv):Bool:=(s==kq&&a.num !=1) || (s==cOr&&a.num==1)
def gN (s:List UInt8) (a b:Vv):RM Vv:=
 if s=kq∨s=cOr then okM b
 else (if s=[43]∧a.ty=3 then dv (fO (a.text.length+b.text.length)) else okM ()).then fun _=>bX (cQ s a b)
def jx (call:bU) (op:Int) (text:ByteArray) (vs:List Vv):RM Vv:=
 if op=5 then call text vs
 else if op=7 then bX (eF text.toList (vs.getD 0 noV))
 else if op=10 then okM (aB (vs.getD 0 noV).text.length)
 else (dv 2).then fun _=>(Bi (vs.getD 0 noV).text).then fun o=>okM (if op=9 then a8 o.isSome else aH (o.getD []))
mutual
def bS (call:bU) (σ:List Sc):Ex→RM Vv
 | .mk op num text ks _=>(dv 1).then fun _ =>
  if op=1 then okM (aB num)
  else if op=2 then okM (a8 (num==1))
  else if op=3 then okM (aH text.toList)
  else if op=4 then okM (fY σ text)
  else if op=6 then iA call σ text ks
  else (bw call σ ks).then fun vs=>jx call op text vs
def iA (call:bU) (σ:List Sc) (text:ByteArray):List Ex→RM Vv
 | []=>okM noV
 | [_]=>okM noV
 | x :: y :: _=>(bS call σ x).then fun a=>if jk text.toList a then okM (a8 (a.num==1)) else (bS call σ y).then fun b=>gN text.toList a b
def bw (call:bU) (σ:List Sc):List Ex→RM (List Vv)
 | []=>okM []
 | x :: l=>(bS call σ x).then fun v=>(bw call σ l).then fun vs=>okM (v :: vs)
end
abbrev StM:=List Sc→RM (Option Vv×List Sc)
def inM (m:Sc) (b:StM):StM:=fun σ=>(b (m :: σ)).then fun p=>okM (p.1,p.2.tail)
def fF (round:Int→StM):Nat→Int→StM
 | 0,_,σ=>okM (none,σ)
 | n+1,i,σ=>(dv 1).then fun _=>(round i σ).then fun p=>if p.1.isSome then okM p else fF round n (i+1) p.2
def fy (op:Int) (text:ByteArray) (vs:List Vv):StM:=fun σ =>
 if op=1 then okM (none,Bz σ text (vs.getD 0 noV))
 else if op=2 then okM (none,nC σ text (vs.getD 0 noV))
 else if op=5 then okM (some (vs.getD 0 noV),σ)
 else if op=6 then (dv (eE (vs.getD 0 noV).text.length (vs.getD 1 noV).text.length)).then fun _=>(iO (vs.getD 0 noV).text (vs.getD 1 noV).text).then fun _=>okM (none,σ)
 else if op=7 then (dv 4).then fun _=>(wv (vs.getD 0 noV).text).then fun _=>okM (none,σ)
 else okM (none,σ)
mutual
def bV (call:bU):St→StM
 | .mk op text es body els _,σ=>(dv 1).then fun _=>(bw call σ es).then fun vs =>
  if op=3 then (if (vs.getD 0 noV).num=1 then inM [] (aF call body) σ else inM [] (aF call els) σ)
  else if op=4 then fF (fun i=>inM [(text,aB i)] (aF call body)) ((vs.getD 1 noV).num-(vs.getD 0 noV).num).toNat (vs.getD 0 noV).num σ
  else fy op text vs σ
def aF (call:bU):List St→StM
 | [],σ=>okM (none,σ)
 | s :: l,σ=>(bV call s σ).then fun p=>if p.1.isSome then okM p else aF call l p.2
end
def dg:List (ByteArray×Int)→List Vv→Sc→Sc
 | p :: l,v :: vs,m=>dg l vs (bY m p.1 v)
 | _,_,m=>m
def cE:List Fn→ByteArray→Option Fn
 | [],_=>none
 | f :: l,x=>if f.name=x then some f else cE l x
def tO (F:List Fn) (call:bU):bU:=fun x vs=>match cE F x with
 | none=>okM noV
 | some f=>(aF call f.body [dg f.params vs []]).then fun p=>okM (p.1.getD noV)
def aE (F:List Fn):Nat→bU
 | 0=>fun _ _ r=>.trap 4 r
 | k+1=>tO F (aE F k)
def mz (v:Vv) (t:Int):Bool:=if t=3 then v.ty==t&&v.num==0&&decide (v.text.length≤256) else v.ty==t&&decide (v.text.length=0)
def eO:List Vv→List (ByteArray×Int)→Bool
 | [],[]=>true
 | v :: vs,p :: l=>mz v p.2&&eO vs l
 | _,_=>false
structure Oc where
 val:Vv
 trap:Int
 used:Int
structure Jn where
 pairs:List Pr
 undo:List (List Pr)
def bA (F:List Fn) (x:ByteArray) (vs:List Vv) (limit:Int) (j:Jn):Oc×Jn:=
 if (bL F).1≠0 then (⟨noV,7,0⟩,j) else match cE F x with
 | none=>(⟨noV,7,0⟩,j)
 | some f=>if eO vs f.params then
     match aE F 16 x vs ⟨max 0 (min limit 100000),0,j.pairs,j.undo⟩ with
     | .ok v r=>(⟨v,0,r.used⟩,⟨r.pairs,r.undo⟩)
     | .trap t r=>(⟨noV,t,r.used⟩,j)
  else (⟨noV,7,0⟩,j)
end
end Go.Proofs.YthgcpfkochikfaaGreat
