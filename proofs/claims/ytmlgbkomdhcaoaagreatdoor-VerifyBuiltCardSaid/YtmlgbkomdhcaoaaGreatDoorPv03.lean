/-
  VerifyBuilt: part 3 of its proof: see the last text.
-/
import Derived.Test.YtmlgbkomdhcaoaaGreatDoorPv02
set_option maxRecDepth 100000
set_option maxHeartbeats 16000000
namespace Go.Proofs.YtmlgbkomdhcaoaaGreatDoor
section
section
open Go.RowKit
structure Tk where
 kind:Int
 text:ByteArray
 num:Int
 pos:Int
instance:Inhabited Tk:=⟨⟨0,ByteArray.empty,0,0⟩⟩
def bg (p:UInt8→Bool) (s:List UInt8) (a:Nat):Nat:=a+((s.drop a).takeWhile p).length
theorem iW {s:List UInt8} {a:Nat} (h:a<s.length):s.drop a=s[a] :: s.drop (a+1):=List.drop_eq_getElem_cons h
theorem eX {p:UInt8→Bool} {s:List UInt8} {a:Nat} (h:a<s.length) (hp:p s[a]=true):bg p s a=bg p s (a+1):=by
 unfold bg;rw [iW h,List.takeWhile_cons,if_pos hp,List.length_cons];omega
theorem nh {p:UInt8→Bool} {s:List UInt8} {a:Nat} (h:a<s.length) (hp:p s[a]=false):bg p s a=a:=by
 unfold bg;rw [iW h,List.takeWhile_cons,if_neg (by rw [hp];decide)];rfl
theorem uB {p:UInt8→Bool} {s:List UInt8} {a:Nat} (h:s.length≤a):bg p s a=a:=by
 unfold bg;rw [List.drop_eq_nil_of_le h];rfl
theorem eS (p:UInt8→Bool) (s:List UInt8) (a:Nat):a≤bg p s a:=by unfold bg;omega
theorem fm {p:UInt8→Bool} {s:List UInt8} {a:Nat} (h:a≤s.length):bg p s a≤s.length:=by
 unfold bg;have:=(List.takeWhile_sublist p (l:=s.drop a)).length_le;rw [List.length_drop] at this;omega
theorem l8 {p:UInt8→Bool} {s:List UInt8} {a:Nat} (h:bg p s a<s.length):p (s[bg p s a])=false:=by
 by_cases ha:a<s.length
 ·by_cases hp:p s[a]=true
  ·have e:=eX ha hp
   have h2:bg p s (a+1)<s.length:=e▸h;have:=l8 h2;simp only [e]
   exact this
  ·have hp:p s[a]=false:=by simpa using hp
   have e:=nh ha hp;simp only [e]
   exact hp
 ·have:=eS p s a
  omega
termination_by s.length-a
theorem oO {p:UInt8→Bool} {s:List UInt8} {a i:Nat} (h1:a≤i) (h2:i<bg p s a) (hi:i<s.length):p s[i]=true:=by
 have ha:a<s.length:=by omega
 by_cases hp:p s[a]=true
 ·by_cases e:i=a
  ·subst e;exact hp
  ·rw [eX ha hp] at h2
   exact oO (by omega) h2 hi
 ·have hp:p s[a]=false:=by simpa using hp
  rw [nh ha hp] at h2;omega
termination_by s.length-a
def ey (c:UInt8):Bool:=c==9 || c==10 || c==13 || c==32
def ew (c:UInt8):Bool:=c !=10
def eA:Bool→List UInt8→Nat
 | _,[]=>0
 | false,c :: r=>if ey c then 1+eA false r else if c==35 then 1+eA true r else 0
 | true,c :: r=>if ew c then 1+eA true r else 1+eA false r
def bK (s:List UInt8) (a:Nat):Nat:=a+eA false (s.drop a)
theorem iL:∀(b:Bool) (l:List UInt8),eA b l≤l.length
 | _,[]=>Nat.le_refl _
 | false,c :: r=>by
  have h1:=iL false r;have h2:=iL true r;unfold eA;simp only [List.length_cons]
  split
  ·omega
  ·split<;>omega
 | true,c :: r=>by
  have h1:=iL false r;have h2:=iL true r;unfold eA;simp only [List.length_cons]
  split<;>omega
theorem tF (s:List UInt8) (a:Nat):a≤bK s a:=by unfold bK;omega
theorem mw {s:List UInt8} {a:Nat} (h:a≤s.length):bK s a≤s.length:=by
 unfold bK;have:=iL false (s.drop a);rw [List.length_drop] at this;omega
theorem lw:∀(l:List UInt8),eA false l=(l.takeWhile ey).length+eA false (l.drop (l.takeWhile ey).length)
 | []=>rfl
 | c :: r=>by
  by_cases h:ey c=true
  ·rw [List.takeWhile_cons,if_pos h,List.length_cons,List.drop_succ_cons]
   have:=lw r;show eA false (c :: r)=_
   rw [eA,if_pos h];omega
  ·rw [List.takeWhile_cons,if_neg h]
   simp
theorem oT:∀(l:List UInt8),eA true l=(l.takeWhile ew).length+eA false (l.drop (l.takeWhile ew).length)
 | []=>rfl
 | c :: r=>by
  by_cases h:ew c=true
  ·rw [List.takeWhile_cons,if_pos h,List.length_cons,List.drop_succ_cons]
   have:=oT r;show eA true (c :: r)=_
   rw [eA,if_pos h];omega
  ·rw [List.takeWhile_cons,if_neg h]
   have hc:c=10:=by simpa [ew] using h
   subst hc;simp [eA,ew,ey]
theorem pS (s:List UInt8) (a k:Nat):(s.drop a).drop k=s.drop (a+k):=List.drop_drop ..
theorem oW (s:List UInt8) (a:Nat):bK s a=bK s (bg ey s a):=by
 unfold bK bg;rw [lw (s.drop a),pS];omega
theorem ro {s:List UInt8} {a:Nat} (h:s.length≤a):bK s a=a:=by
 unfold bK;rw [List.drop_eq_nil_of_le h];rfl
theorem sU {s:List UInt8} {a:Nat} (h:a<s.length) (h1:ey s[a]=false) (h2:(s[a]==35)=false):bK s a=a:=by
 unfold bK;rw [iW h,eA,if_neg (by rw [h1];decide),if_neg (by rw [h2];decide)];rfl
theorem pD {s:List UInt8} {a:Nat} (h:a<s.length) (h2:(s[a]==35)=true):bK s a=bK s (bg ew s a):=by
 unfold bK bg;have hc:s[a]=35:=by simpa using h2
 have e:eA false (s.drop a)=eA true (s.drop a):=by
  rw [iW h,hc];simp [eA,ey,ew]
 rw [e,oT (s.drop a),pS];omega
theorem uF {s:List UInt8} {a:Nat} (h:a<s.length) (h2:(s[a]==35)=true):a<bg ew s a:=by
 have hc:s[a]=35:=by simpa using h2
 rw [eX h (by rw [hc];rfl)];have:=eS ew s (a+1);omega
def io:List UInt8→Nat→Option Nat
 | [],n=>some n
 | c :: r,n=>if (9223372036854775807-(c.toNat-48)) / 10<n then none else io r (10*n+(c.toNat-48))
def signTab:List (List UInt8):=[[61,61],[33,61],[60,61],[62,61],[38,38],[124,124],[40],[41],[123],[125],[44],[59],[58],[61],[60],[62],[43],[45],[42],[47],[37],[33]]
def ii (l:List UInt8):Bool:=signTab.contains l
def bX:List UInt8→List UInt8
 | []=>[]
 | [a]=>if ii [a] then [a] else []
 | a :: b :: _=>if ii [a,b] then [a,b] else if ii [a] then [a] else []
def wordTab:List (List UInt8):=[[102,110],[108,101,116],[105,102],[101,108,115,101],[102,111,114],[116,111],[114,101,116,117,114,110],[112,117,116],[100,101,108],[103,101,116],[104,97,115],[108,101,110],[116,114,117,101],[102,97,108,115,101],[105,110,116],[98,111,111,108],[98,121,116,101,115]]
def gT (l:List UInt8):Bool:=wordTab.contains l
def gA (c:UInt8):Bool:=decide (97≤c.toNat)&&decide (c.toNat≤122)
def dp (c:UInt8):Bool:=decide (48≤c.toNat)&&decide (c.toNat≤57)
def nC (c:UInt8):Bool:=decide (95≤c.toNat)&&decide (c.toNat≤95)
def dn (c:UInt8):Bool:=gA c || dp c || nC c
def eh (c:UInt8):Bool:=decide (32≤c.toNat)&&decide (c.toNat≤126)&&c !=34&&c !=92
def dj (s:List UInt8) (a b:Nat):List UInt8:=(s.drop a).take (b-a)
def fZ (k:Int) (l:List UInt8) (n:Nat) (a:Nat):Tk:=⟨k,⟨l.toArray⟩,n,a⟩
def dt (s:List UInt8) (a:Nat):Except Int (Tk×Nat):=
 let c:=s.getD a 0
 if gA c then
  let q:=bg dn s a
  let l:=dj s a q
  if gT l then .ok (fZ 4 l 0 a,q) else if 16<l.length then .error 32 else .ok (fZ 1 l 0 a,q)
 else if dp c then
  let q:=bg dp s a
  match io (dj s a q) 0 with
  | none=>.error 32
  | some n=>.ok (fZ 2 [] n a,q)
 else if c==34 then
  let q:=bg eh s (a+1)
  if q==s.length || s.getD q 0 !=34 then .error 31
  else if 64<q-a-1 then .error 32
  else .ok (fZ 3 (dj s (a+1) q) 0 a,q+1)
 else
  let l:=bX (dj s a (min (a+2) s.length))
  if l=[] then .error 31 else .ok (fZ 4 l 0 a,a+l.length)
def kY (s:List UInt8):Nat→Nat→List Tk→Except (Int×Nat) (List Tk)
 | 0,_,out=>.ok out
 | f+1,a,out =>
  if a<s.length then
   match dt s a with
   | .error e=>.error (e,a)
   | .ok (t,q)=>if out.length=2048 then .error (2,a) else kY s f (bK s q) (out++[t])
  else .ok out
def iJ (s:List UInt8):Except (Int×Nat) (List Tk):=if 4096<s.length then .error (2,0) else kY s (s.length+1) (bK s 0) []
end
section
open Go.RowKit
inductive Ex
 | mk (op num:Int) (text:ByteArray) (kids:List Ex) (pos:Int)
inductive St
 | mk (op:Int) (text:ByteArray) (exprs:List Ex) (body els:List St) (pos:Int)
structure Fn where
 name:ByteArray
 params:List (ByteArray×Int)
 result:Int
 body:List St
 pos:Int
instance:Inhabited Ex:=⟨.mk 0 0 ByteArray.empty [] 0⟩
instance:Inhabited St:=⟨.mk 0 ByteArray.empty [] [] [] 0⟩
instance:Inhabited Fn:=⟨⟨ByteArray.empty,[],0,[],0⟩⟩
abbrev Par (α:Type):=List Tk→Except (Int×Int) (α×List Tk)
def Par.bind {α β:Type} (p:Par α) (f:α→Par β):Par β:=fun l=>match p l with
 | .error e=>.error e
 | .ok (x,r)=>f x r
def okP {α:Type} (x:α):Par α:=fun l=>.ok (x,l)
def aT (en:Int):List Tk→Int
 | []=>en
 | t :: _=>t.pos
def AM {α:Type} (en er:Int):Par α:=fun l=>.error (er,aT en l)
def str (l:List UInt8):ByteArray:=⟨l.toArray⟩
def atS (l:List Tk) (i:Nat) (s:ByteArray):Bool:=match l[i]? with
 | some t=>t.kind==4&&t.text.toList==s.toList
 | none=>false
def bq (en:Int) (s:ByteArray):Par Unit:=fun l=>if atS l 0 s then .ok ((),l.tail) else .error (41,aT en l)
def eK (en k:Int):Par Tk:=fun l=>match l with
 | []=>.error (41,en)
 | t :: r=>if t.kind==k then .ok (t,r) else .error (41,t.pos)
def ft (en:Int):Par ByteArray:=(eK en 1).bind fun t=>okP t.text
def rI:=str [105,110,116]
def mY:=str [98,111,111,108]
def iu:=str [98,121,116,101,115]
def ld (en:Int):Par Int:=fun l =>
 if atS l 0 rI then .ok (1,l.tail)
 else if atS l 0 mY then .ok (2,l.tail)
 else (bq en iu).bind (fun _=>okP 3) l
def dm:=str [40]
def dw:=str [41]
def gE:=str [44]
def bZ:Nat→List ByteArray
 | 0=>[str [124,124]]
 | 1=>[str [38,38]]
 | 2=>[str [61,61],str [33,61],str [60],str [60,61],str [62],str [62,61]]
 | 3=>[str [43],str [45]]
 | _=>[str [42],str [47],str [37]]
def eU {α:Type} (en:Int) (one:Par α):Nat→Bool→List α→Par (List α)
 | 0,_,_=>fun l=>.error (41,aT en l)
 | f+1,first,acc=>fun l =>
  if atS l 0 dw then .ok (acc,l.tail)
  else ((if first then okP () else bq en gE).bind fun _=>one.bind fun x=>eU en one f false (acc++[x])) l
def eB (en:Int) (n:Nat) (A:Par Ex):Nat→Ex→Par Ex
 | 0,x=>okP x
 | f+1,x=>fun l=>match (bZ n).find? (fun s=>atS l 0 s) with
  | none=>.ok (x,l)
  | some s=>(A.bind fun y=>if n=2 then okP (.mk 6 0 s [x,y] (aT en l)) else eB en n A f (.mk 6 0 s [x,y] (aT en l))) l.tail
def dG (en:Int) (one:Par Ex):Nat→Par Ex
 | 0=>one
 | j+1=>fun l=>(dG en one j).bind (fun x r=>eB en (4-j) (dG en one j) (r.length+1) x r) l
def dV (en:Int) (A:Par Ex):Par Ex:=(bq en dm).bind fun _=>A.bind fun x=>(bq en dw).bind fun _=>okP x
def zN:=str [116,114,117,101]
def xH:=str [102,97,108,115,101]
def Ba:=str [103,101,116]
def A9:=str [104,97,115]
def yy:=str [108,101,110]
def gc:=str [45]
def mX:=str [33]
def iz (en:Int) (A:Par Ex):Par Ex:=fun l =>
 if atS l 0 zN then .ok (.mk 2 1 ByteArray.empty [] (aT en l),l.tail)
 else if atS l 0 xH then .ok (.mk 2 0 ByteArray.empty [] (aT en l),l.tail)
 else if atS l 0 dm then dV en A l
 else if atS l 0 Ba then (dV en A).bind (fun x=>okP (.mk 8 0 ByteArray.empty [x] (aT en l))) l.tail
 else if atS l 0 A9 then (dV en A).bind (fun x=>okP (.mk 9 0 ByteArray.empty [x] (aT en l))) l.tail
 else (bq en yy).bind (fun _=>(dV en A).bind (fun x=>okP (.mk 10 0 ByteArray.empty [x] (aT en l)))) l
def d8 (en:Int) (A:Par Ex):Par Ex:=fun l=>match l with
 | []=>iz en A []
 | t :: r =>
  if t.kind=2 then .ok (.mk 1 t.num ByteArray.empty [] t.pos,r)
  else if t.kind=3 then .ok (.mk 3 0 t.text [] t.pos,r)
  else if t.kind=1 then
   if atS r 0 dm then ((eU en A (r.length+1) true []).bind fun k=>okP (.mk 5 0 t.text k t.pos)) r.tail
   else .ok (.mk 4 0 t.text [] t.pos,r)
  else iz en A (t :: r)
def fT (en:Int):Nat→Par Ex
 | 0=>AM en 42
 | k+1=>fun l =>
  if atS l 0 gc then (fT en k).bind (fun x=>okP (.mk 7 0 gc [x] (aT en l))) l.tail
  else if atS l 0 mX then (fT en k).bind (fun x=>okP (.mk 7 0 mX [x] (aT en l))) l.tail
  else d8 en (dG en (fT en k) 5) l
def je (en:Int) (k:Nat):Par Ex:=dG en (fT en k) 5
def Bi:=str [108,101,116]
def sIf:=str [105,102]
def zM:=str [101,108,115,101]
def AP:=str [102,111,114]
def sTo:=str [116,111]
def tY:=str [114,101,116,117,114,110]
def Bn:=str [112,117,116]
def Bq:=str [100,101,108]
def sEq:=str [61]
def fu:=str [59]
def jI:=str [58]
def dW:=str [123]
def Ag:=str [125]
def sFn:=str [102,110]
def iD (en:Int) (s:St):Par St:=(bq en fu).bind fun _=>okP s
def jg (en:Int) (A:Par Ex) (B:Par (List St)):Par St:=fun l =>
 let p:=aT en l
 if atS l 0 Bi then ((ft en).bind fun n=>(bq en sEq).bind fun _=>A.bind fun x=>iD en (.mk 1 n [x] [] [] p)) l.tail
 else if atS l 0 sIf then (A.bind fun x=>B.bind fun b=>fun r =>
   if atS r 0 zM then (B.bind fun e=>okP (.mk 3 ByteArray.empty [x] b e p)) r.tail else .ok (.mk 3 ByteArray.empty [x] b [] p,r)) l.tail
 else if atS l 0 AP then ((ft en).bind fun n=>(bq en sEq).bind fun _=>A.bind fun x=>(bq en sTo).bind fun _=>A.bind fun y=>B.bind fun b=>okP (.mk 4 n [x,y] b [] p)) l.tail
 else if atS l 0 tY then (if atS l.tail 0 fu then iD en (.mk 5 ByteArray.empty [] [] [] p) l.tail else (A.bind fun x=>iD en (.mk 5 ByteArray.empty [x] [] [] p)) l.tail)
 else if atS l 0 Bn then ((bq en dm).bind fun _=>A.bind fun x=>(bq en gE).bind fun _=>A.bind fun y=>(bq en dw).bind fun _=>iD en (.mk 6 ByteArray.empty [x,y] [] [] p)) l.tail
 else if atS l 0 Bq then ((bq en dm).bind fun _=>A.bind fun x=>(bq en dw).bind fun _=>iD en (.mk 7 ByteArray.empty [x] [] [] p)) l.tail
 else if (match l with | t :: _=>t.kind==1 | []=>false)&&atS l 1 sEq then ((ft en).bind fun n=>(bq en sEq).bind fun _=>A.bind fun x=>iD en (.mk 2 n [x] [] [] p)) l
 else (A.bind fun x=>iD en (.mk 8 ByteArray.empty [x] [] [] p)) l
def fD (en:Int) (one:Par St):Nat→List St→Par (List St)
 | 0,_=>fun l=>.error (41,aT en l)
 | f+1,acc=>fun l=>if atS l 0 Ag then .ok (acc,l.tail) else (one.bind fun s=>fD en one f (acc++[s])) l
def ed (en:Int):Nat→Par (List St)
 | 0=>fun l=>if atS l 0 dW then .error (42,aT en l) else .error (41,aT en l)
 | k+1=>fun l=>(bq en dW).bind (fun _ r=>fD en (jg en (je en k) (ed en k)) (r.length+1) [] r) l
def kI (en:Int):Par (ByteArray×Int):=(ft en).bind fun n=>(bq en jI).bind fun _=>(ld en).bind fun t=>okP (n,t)
def gy (en:Int):Par Fn:=fun l =>
 ((bq en sFn).bind fun _=>(ft en).bind fun n=>(bq en dm).bind fun _=>fun r=>(eU en (kI en) (r.length+1) true []).bind (fun ps=>fun r =>
   (if atS r 0 jI then (ld en).bind (fun t=>(ed en 32).bind fun b=>okP (⟨n,ps,t,b,aT en l⟩:Fn)) r.tail
    else (ed en 32).bind (fun b=>okP (⟨n,ps,0,b,aT en l⟩:Fn)) r)) r) l
def fF (en:Int):Nat→List Fn→Par (List Fn)
 | 0,acc=>okP acc
 | f+1,acc=>fun l=>match l with
  | []=>.ok (acc,[])
  | _=>((gy en).bind fun x=>fF en f (acc++[x])) l
def dQ (s:List UInt8):Except (Int×Int) (List Fn):=match iJ s with
 | .error (e,p)=>.error (e,p)
 | .ok l=>match fF s.length (l.length+1) [] l with
  | .error e=>.error e
  | .ok (x,_)=>.ok x
end
section
open Go.RowKit
abbrev Flt:=Int×Int
def okF:Flt:=(0,0)
def noC (b:Bool) (e A:Int):Flt:=if b then okF else (e,A)
def orF (a b:Flt):Flt:=if a.1≠0 then a else b
abbrev aR:=List (ByteArray×(Int×Bool))
def aI {α:Type} (m:List (ByteArray×α)) (k:ByteArray):Option α:=match m with
 | []=>none
 | p :: m=>if p.1=k then some p.2 else aI m k
def bQ {α:Type} (m:List (ByteArray×α)) (k:ByteArray) (x:α):List (ByteArray×α):=match m with
 | []=>[(k,x)]
 | p :: m=>if p.1=k then (p.1,x) :: m else p :: bQ m k x
def Ex.op:Ex→Int | .mk op _ _ _ _=>op
def Ex.text:Ex→ByteArray | .mk _ _ t _ _=>t
def Ex.kids:Ex→List Ex | .mk _ _ _ k _=>k
def Ex.pos:Ex→Int | .mk _ _ _ _ p=>p
def St.op:St→Int | .mk op _ _ _ _ _=>op
def St.text:St→ByteArray | .mk _ t _ _ _ _=>t
def St.exprs:St→List Ex | .mk _ _ e _ _ _=>e
def St.body:St→List St | .mk _ _ _ b _ _=>b
def St.els:St→List St | .mk _ _ _ _ e _=>e
def St.pos:St→Int | .mk _ _ _ _ _ p=>p
def cw (op:Int):Int:=if op=1∨op=2∨op=3∨op=4 then 0 else if op=7∨op=8∨op=9∨op=10 then 1 else if op=6 then 2 else if op=5 then -1 else -2
def cX (s:List UInt8):Int×Int:=
 if s=[45]∨s=[42]∨s=[47]∨s=[37] then (1,1)
 else if s=[60]∨s=[60,61]∨s=[62]∨s=[62,61] then (1,2)
 else if s=[38,38]∨s=[124,124] then (2,2)
 else (0,0)
def iK (r:Int×Flt) (t pos:Int):Flt:=if r.2.1≠0 then r.2 else noC (r.1==t) 51 pos
abbrev aO:=List (ByteArray×Fn)
mutual
def aK (F:aO) (v:aR):Ex→Int×Flt
 | .mk op _ text ks pos =>
  if cw op=-2∨(0≤cw op∧cw op≠ks.length) then (0,(51,pos))
  else if op=1 then (1,okF)
  else if op=2 then (2,okF)
  else if op=3 then (3,okF)
  else if op=4 then (((aI v text).getD (0,false)).1,noC (aI v text).isSome 52 pos)
  else if op=5 then
   match aI F text with
   | none=>(0,(52,pos))
   | some fn=>if fn.params.length≠ks.length then (0,(51,pos)) else (fn.result,cY F v ks (fn.params.map (·.2)))
  else if op=6 then
   if (cX text.toList).1≠0 then ((cX text.toList).2,cY F v ks [(cX text.toList).1,(cX text.toList).1])
   else if text.toList≠[43]∧text.toList≠[61,61]∧text.toList≠[33,61] then (0,(51,pos))
   else
    let r:=cJ F v (text.toList==[43]) ks
    if r.1.1≠0 then (0,r.1)
    else (if text.toList=[43] then r.2.getD 0 0 else 2,noC (r.2.getD 0 0==r.2.getD 1 0) 51 pos)
  else if op=7 then
   if text.toList=[45] then (1,cY F v ks [1]) else if text.toList=[33] then (2,cY F v ks [2]) else (0,(51,pos))
  else if op=9 then (2,cY F v ks [3])
  else if op=10 then (1,cY F v ks [3])
  else (3,cY F v ks [3])
def cY (F:aO) (v:aR):List Ex→List Int→Flt
 | [],_=>okF
 | x :: l,ts=>orF (iK (aK F v x) (ts.headD 0) x.pos) (cY F v l ts.tail)
def cJ (F:aO) (v:aR) (plus:Bool):List Ex→Flt×List Int
 | []=>(okF,[])
 | k :: l =>
  let r:=aK F v k
  let f:=if r.2.1=0 then noC (r.1 !=0&&!(plus&&r.1==2)) 51 k.pos else r.2
  if f.1≠0 then (f,[]) else ((cJ F v plus l).1,r.1 :: (cJ F v plus l).2)
end
def ez (F:aO) (v:aR) (x:Ex) (t:Int):Flt:=iK (aK F v x) t x.pos
def dd (s:St):Bool:=
 let n:=s.exprs.length;let b:=s.body.length==0;let o:=s.els.length==0
 if s.op=1∨s.op=2∨s.op=7∨s.op=8 then n==1&&b&&o
 else if s.op=6 then n==2&&b&&o
 else if s.op=5 then decide (n≤1)&&b&&o
 else if s.op=3 then n==1
 else if s.op=4 then n==2&&o
 else false
mutual
def cC (F:aO) (res:Int):St→aR→aR×Flt
 | .mk op text es body els pos,v =>
  if dd (.mk op text es body els pos)=false then (v,(51,pos))
  else
   let x:=es.headD default
   let r:=aK F v x
   if op=1 then (bQ v text (r.1,false),orF r.2 (orF (noC (r.1 !=0) 51 x.pos) (noC (!(aI v text).isSome) 53 pos)))
   else if op=2 then (v,orF (noC (aI v text).isSome 52 pos) (orF (noC (!((aI v text).getD (0,false)).2) 51 pos) (ez F v x ((aI v text).getD (0,false)).1)))
   else if op=3 then (v,orF (ez F v x 2) (orF (bH F res body v) (bH F res els v)))
   else if op=4 then (v,orF (cY F v es [1,1]) (orF (noC (!(aI v text).isSome) 53 pos) (bH F res body (bQ v text (1,true)))))
   else if op=5 then (v,if es.length=0 then noC (res==0) 51 pos else orF r.2 (noC (r.1==res&&r.1 !=0) 51 x.pos))
   else if op=8 then (v,orF r.2 (noC (x.op==5) 51 x.pos))
   else (v,cY F v es [3,3])
def bH (F:aO) (res:Int):List St→aR→Flt
 | [],_=>okF
 | s :: l,v=>if (cC F res s v).2.1≠0 then (cC F res s v).2 else bH F res l (cC F res s v).1
end
mutual
def endsS:St→Bool
 | .mk op _ _ body els _=>op==5 || (op==3&&bE body&&bE els)
def bE:List St→Bool
 | []=>false
 | [s]=>endsS s
 | _ :: t :: l=>bE (t :: l)
end
mutual
def tC (n:Int):St→Int
 | .mk op _ _ body els _=>wrap64 ((if op=1∨op=4 then wrap64 (n+1) else n)+wrap64 (dC 0 body+dC 0 els))
def dC (n:Int):List St→Int
 | []=>n
 | s :: l=>dC (tC n s) l
end
def bU (pos:Int):List (ByteArray×Int)→aR→Flt×aR
 | [],v=>(okF,v)
 | p :: l,v=>if (aI v p.1).isSome then ((53,pos),v) else if p.2<1∨3<p.2 then ((51,pos),v) else bU pos l (bQ v p.1 (p.2,false))
def eV (F:aO) (f:Fn):Flt:=
 let r:=bU f.pos f.params []
 if r.1.1≠0 then r.1
 else if f.result<0∨3<f.result then (51,f.pos)
 else if 16<f.params.length∨64<wrap64 (f.params.length+dC 0 f.body) then (2,f.pos)
 else orF (bH F f.result f.body r.2) (noC (f.result==0 || bE f.body) 54 f.pos)
def dl:List Fn→aO→Flt×aO
 | [],F=>(okF,F)
 | f :: l,F=>if (aI F f.name).isSome then ((53,f.pos),F) else dl l (bQ F f.name f)
def gj (F:aO):List Fn→Flt
 | []=>okF
 | f :: l=>orF (eV F f) (gj F l)
def bT (l:List Fn):Flt:=
 if 64<l.length then (2,0)
 else if (dl l []).1.1≠0 then (dl l []).1
 else gj (dl l []).2 l
def ee (s:List UInt8):Except (Int×Int) (List Fn):=match dQ s with
 | .error e=>.error e
 | .ok l=>if (bT l).1≠0 then .error (bT l) else .ok l
theorem fQ {α:Type} (m:List (ByteArray×α)) (k j:ByteArray) (x:α):aI (bQ m k x) j=if k=j then some x else aI m j:=by
 induction m with
 | nil=>simp [aI,bQ]
 | cons p m ih =>
  unfold bQ;by_cases h:p.1=k
  ·rw [if_pos h]
   subst h;by_cases e:p.1=j
   ·simp [aI,e]
   ·simp [aI,e]
  ·rw [if_neg h]
   unfold aI;rw [ih];by_cases e:p.1=j
   ·rw [if_pos e,if_pos e,if_neg (fun q=>h (e.trans q.symm))]
   ·rw [if_neg e,if_neg e]
end
end
end Go.Proofs.YtmlgbkomdhcaoaaGreatDoor
