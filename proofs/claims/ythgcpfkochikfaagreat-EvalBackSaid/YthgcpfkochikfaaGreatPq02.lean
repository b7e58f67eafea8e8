/-
  EvalLoops: part 2 of its proof: see the last text.
-/
import Derived.Test.YthgcpfkochikfaaGreatPq00
set_option maxRecDepth 100000
set_option maxHeartbeats 16000000
namespace Go.Proofs.YthgcpfkochikfaaGreat
section
open Go.RowKit
structure Vv where
 ty:Int
 num:Int
 text:List UInt8
instance:Inhabited Vv:=⟨⟨0,0,[]⟩⟩
def noV:Vv:=⟨0,0,[]⟩
def aB (n:Int):Vv:=⟨1,n,[]⟩
def a8 (b:Bool):Vv:=⟨2,if b then 1 else 0,[]⟩
def aH (s:List UInt8):Vv:=⟨3,0,s⟩
def inV (n:Int):Vv×Int:=if -9223372036854775808≤n∧n≤9223372036854775807 then (aB n,0) else (noV,3)
def ju (f:Int→Int→Int) (a b:Int):Vv×Int:=if b=0 then (noV,2) else if a=-9223372036854775808∧b=-1 then (noV,3) else (aB (f a b),0)
def eH (s:List UInt8) (a b:Int):Vv×Int:=
 if s=[43] then inV (a+b) else if s=[45] then inV (a-b) else if s=[42] then inV (a * b)
 else if s=[47] then ju Int.tdiv a b else if s=[37] then ju Int.tmod a b
 else if s=[60] then (a8 (decide (a<b)),0) else if s=[60,61] then (a8 (decide (a≤b)),0)
 else if s=[62] then (a8 (decide (b<a)),0) else if s=[62,61] then (a8 (decide (b≤a)),0)
 else if s=[61,61] then (a8 (decide (a=b)),0) else if s=[33,61] then (a8 (!decide (a=b)),0) else (noV,7)
def dT (s:List UInt8) (a b:Bool):Vv×Int:=
 if s=[61,61] then (a8 (a==b),0) else if s=[33,61] then (a8 (a !=b),0)
 else if s=[38,38] then (a8 (a&&b),0) else if s=[124,124] then (a8 (a || b),0) else (noV,7)
def dV (s a b:List UInt8):Vv×Int:=
 if s=[61,61] then (a8 (a==b),0) else if s=[33,61] then (a8 (a !=b),0)
 else if s=[43] then (if 256<a.length+b.length then (noV,6) else (aH (a++b),0)) else (noV,7)
def cQ (s:List UInt8) (a b:Vv):Vv×Int:=
 if a.ty≠b.ty then (noV,7) else if a.ty=1 then eH s a.num b.num else if a.ty=2 then dT s (a.num==1) (b.num==1)
 else if a.ty=3 then dV s a.text b.text else (noV,7)
def eF (s:List UInt8) (a:Vv):Vv×Int:=
 if s=[45]∧a.ty=1 then (if a.num=-9223372036854775808 then (noV,3) else (aB (-a.num),0))
 else if s=[33]∧a.ty=2 then (a8 (!(a.num==1)),0) else (noV,7)
abbrev Pr:=List UInt8×List UInt8
def bM:List UInt8→List UInt8→Bool
 | [],[]=>false
 | [],_ :: _=>true
 | _ :: _,[]=>false
 | a :: l,b :: r=>if a<b then true else if b<a then false else bM l r
def bT (l:List Pr):Nat:=(l.map fun p=>8+p.1.length+p.2.length).sum
def dr:List Pr→Bool
 | []=>true
 | [_]=>true
 | p :: q :: l=>bM p.1 q.1&&dr (q :: l)
def aV (l:List Pr):Bool:=(l.all fun p=>decide (p.1.length≤64)&&decide (p.2.length≤256))&&dr l&&decide (bT l≤2048)
def fZ (l:List Pr) (k:List UInt8):Option (List UInt8):=(l.find? fun p=>p.1==k).map (·.2)
def eY:List Pr→List UInt8→List UInt8→List Pr
 | [],k,v=>[(k,v)]
 | p :: l,k,v=>if p.1=k then (k,v) :: l else if bM k p.1 then (k,v) :: p :: l else p :: eY l k v
def eu:List Pr→List UInt8→List Pr
 | [],_=>[]
 | p :: l,k=>if p.1=k then l else p :: eu l k
def fE (l:List Pr) (k v:List UInt8):Except Int (List Pr):=
 if 64<k.length∨256<v.length then .error 1 else if 2048<bT (eY l k v) then .error 71 else .ok (eY l k v)
def fO (n:Int):Int:=max 0 n / 16
def eE (k v:Int):Int:=4+fO (max 0 (min k 2147483648)+max 0 (min v 2147483648))
end
end Go.Proofs.YthgcpfkochikfaaGreat
