/-
  EvalSigns: part 15 of its proof: see the last text.
-/
import Derived.Test.YthgcpfkochikfaaGreatPs14
import Derived.Deep.LoopGhost
set_option maxRecDepth 100000
set_option maxHeartbeats 16000000
namespace Go.Proofs.YthgcpfkochikfaaGreat
section
open Go.RowKit
theorem iD {α:Type} (en:Int) (one:Par α) (f:Nat) (first:Bool) (A:List α) (l:List Tk):eL en one (f+1) first A l =
    if atS l 0 cX then .ok (A,l.tail) else ((if first then okP () else bq en gI).bind fun _=>one.bind fun x=>eL en one f false (A++[x])) l:=rfl
theorem aD {α β:Type} {p:Par α} {f:α→Par β} {l:List Tk} {e:Int×Int} (h:p l=.error e):p.bind f l=.error e:=by
 unfold Par.bind;rw [h]
theorem aH {α β:Type} {p:Par α} {f:α→Par β} {l r:List Tk} {x:α} (h:p l=.ok (x,r)):p.bind f l=f x r:=by
 unfold Par.bind;rw [h]
theorem cV (rb:Nat) (s:ByteArray) (l:List Tk) (en:Int) (w:World) (h:RdAt w rb l en) (hq:atS l 0 s=false):Calls Tryz.prog 76 #[.pointer (some ⟨rb,0,none⟩),.string s] w fun e w'=>e=.returned (.bool false)∧RdAt w' rb l en∧On rb w w':=by
 have:=jv rb s l en w h;rw [hq] at this;exact this
theorem de (rb:Nat) (s:ByteArray) (l:List Tk) (en:Int) (w:World) (h:RdAt w rb l en) (hq:atS l 0 s=true):Calls Tryz.prog 76 #[.pointer (some ⟨rb,0,none⟩),.string s] w fun e w'=>e=.returned (.bool true)∧RdAt w' rb l.tail en∧On rb w w':=by
 have:=jv rb s l en w h;rw [hq] at this;exact this
theorem pY {en:Int} {s:ByteArray} {l:List Tk} {u:Unit} {r:List Tk} (h:bq en s l=.ok (u,r)):r.length+1=l.length:=by
 unfold bq at h;split at h
 ·rename_i hq
  cases l with
  | nil=>rw [lQ] at hq;cases hq
  | cons t q=>cases h;rfl
 ·cases h
theorem qY {α:Type} (rb:Nat) (en:Int) (T:Nat→Prop) (hT:T rb) (fv:FuncId) (H:Array Value) (z:∀args W,Sem.run Tryz.prog (callFunc fv args) W=.ok (.enter fv args) W) (P:Par α) (I:World→List α→Prop)
    (hI:∀w w' acc,I w acc→On rb w w'→I w' acc) (hP:∀l x r,P l=.ok (x,r)→r.length<l.length)
    (G:∀l w acc,acc.length≤100000→RdAt w rb l en→I w acc→Calls Tryz.prog fv H w (PSaysT rb en T w (fun w' y v=>v=.tuple #[]∧I w' (acc++[y])) (P l)))
    (F:Nat) (l:List Tk) (hF:l.length<F) (d:F≤100001) (w:World) (h:RdAt w rb l en) (h0:I w []) :
    Calls Tryz.prog 73 #[.pointer (some ⟨rb,0,none⟩),.func (.func fv) #[] H] w (PSaysT rb en T w (fun w' ks v=>v=.tuple #[]∧I w' ks) (eL en P F true [] l)):=by
 have HH:=zh h;have X:=zh d;have u:=zh hF;have H0:=zh h0;have HI:=zh hI;have HP:=zh hP;have L:=zh G;have HT:=zh hT;have HA:=zh (fun (s:ByteArray) (l:List Tk) (W:World) (hW:RdAt W rb l en)=>fu rb 0 s l en W hW);have HM:=zh (fun (W:World) (s:ByteArray) (l:List Tk) (sb:Nat) (hW:RdAt W rb l en) (hs:W.cell? ⟨sb,0,none⟩=some (.string s))=>aV rb sb s l en W hW hs);generalize hr:eL en P F true [] l=R;have HR:=zh hr.symm;clear h h0 hI hP G hT hr hF d;have A:=@iD α en P;have q:=zh A;clear A;unfold cX gI str at *;go_enter Tryz.func73,Tryz.ntmps73
 go_wp2_with fail
 go_loopg [4] F (fun g s4 wr=>∃(first:Bool) (acc:List α) (lc:List Tk),s4=.bool first∧R=eL en P g first acc lc∧lc.length<g∧acc.length+g=F∧RdAt wr rb lc en∧I wr acc∧OnS T w wr)
 case atStart=>exact ⟨true,[],l,rfl,HR.o,u.o,by simp,HH.o,H0.o,OnS.refl _ _⟩
 case round =>
  clear HR HH H0;obtain ⟨first,acc,lc,rfl,hR,a,c,Y,hi,Z⟩:=hrel;obtain ⟨g,rfl⟩:∃g,gk=g+1:=⟨gk-1,by omega⟩
  have f:=zh (hR.trans (q.o g first acc lc));have J:=zh Y;have S:=zh hi;have K:=zh Z;have i:=zh a;have m:=zh c;have b:acc.length≤100000:=by have:=X.o;omega
  have k:=zh b;clear hR Y hi Z a c b
  cases hq:atS lc 0 (⟨[41].toArray⟩:ByteArray)
  ·have HF:Hd (R=((if first then okP () else bq en (⟨[44].toArray⟩:ByteArray)).bind fun _=>P.bind fun x=>eL en P g false (acc++[x])) lc):=zh (by rw [f.o,hq];rfl)
   have E:=zh (HA.o ⟨[41].toArray⟩ lc wr J.o);rw [hq] at E;clear hq
   cases first
   ·have j:Hd (R=((bq en (⟨[44].toArray⟩:ByteArray)).bind fun _=>P.bind fun x=>eL en P g false (acc++[x])) lc):=zh (by
      rw [HF.o,if_neg (by decide)])
    clear HF;go_wp2_with fail
    refine E.o.mono ?_;rintro e w1 ⟨rfl,rfl⟩;go_wp2_with fail
    have D:=zh (ag (Below.refl wr.heap.size wr) (.cells #[.string ⟨[44].toArray⟩] 9));refine (HM.o _ _ lc wr.heap.size (J.o.on D.o) (aA _ _ _ _ _ _ rfl rfl)).mono ?_;rintro e w2 hp;rcases hp.cases with ⟨er,p,hm,rfl,ho⟩ | ⟨x,r,v,hm,rfl,hv,hr,ho⟩
    ·have HE:=zh (j.o.trans (aD hm))
     have HO:=zh (K.o.trans (OnS.of_on ((On.of_below D.o).trans ho) HT.o));clear hp hm ho;unfold Pan;go_wp2_with fail
     exact ⟨rfl,PSaysT.err HE.o HO.o⟩
    ·have M:=zh (show R=(P.bind fun x=>eL en P g false (acc++[x])) r from j.o.trans (aH hm))
     have t:=zh (pY hm);have B:=(On.of_below D.o).trans ho;have HO:=zh (K.o.trans (OnS.of_on B HT.o));have V:=zh (HI.o _ _ _ S.o B);have O:=zh hr;clear hp hm ho hr B;subst hv;go_wp2_with fail
     refine (L.o r w2 acc k.o O.o V.o).mono ?_;rintro e w3 hp;rcases hp.cases with ⟨er,p,hm,rfl,ho⟩ | ⟨y,r3,v,hm,rfl,hv,hr,ho⟩
     ·have HE:=zh (M.o.trans (aD hm))
      have C:=zh (HO.o.trans ho);clear hp hm ho;unfold Pan;go_wp2_with fail
      exact ⟨rfl,PSaysT.err HE.o C.o⟩
     ·have HE:=zh (show R=eL en P g false (acc++[y]) r3 from M.o.trans (aH hm))
      have Q:=zh (HP.o _ _ _ hm);have C:=zh (HO.o.trans ho);have N:=zh hr;have U:=zh hv.2;obtain ⟨rfl,_⟩:=hv;clear hp hm ho hr;go_wp2_with fail
      go_roundg g
      case rel=>exact ⟨false,acc++[y],r3,rfl,HE.o,by have:=Q.o;have:=t.o;have:=i.o;omega,by have:=m.o;simp;omega,N.o,U.o,C.o⟩
      case measure=>omega
   ·have M:Hd (R=(P.bind fun x=>eL en P g false (acc++[x])) lc):=zh (by
      rw [HF.o,if_pos rfl];rfl)
    clear HF;go_wp2_with fail
    refine E.o.mono ?_;rintro e w1 ⟨rfl,rfl⟩;go_wp2_with fail
    refine (L.o lc wr acc k.o J.o S.o).mono ?_;rintro e w3 hp;rcases hp.cases with ⟨er,p,hm,rfl,ho⟩ | ⟨y,r3,v,hm,rfl,hv,hr,ho⟩
    ·have HE:=zh (M.o.trans (aD hm))
     have C:=zh (K.o.trans ho);clear hp hm ho;unfold Pan;go_wp2_with fail
     exact ⟨rfl,PSaysT.err HE.o C.o⟩
    ·have HE:=zh (show R=eL en P g false (acc++[y]) r3 from M.o.trans (aH hm))
     have Q:=zh (HP.o _ _ _ hm);have C:=zh (K.o.trans ho);have N:=zh hr;have U:=zh hv.2;obtain ⟨rfl,_⟩:=hv;clear hp hm ho hr;go_wp2_with fail
     go_roundg g
     case rel=>exact ⟨false,acc++[y],r3,rfl,HE.o,by have:=Q.o;have:=i.o;omega,by have:=m.o;simp;omega,N.o,U.o,C.o⟩
     case measure=>omega
  ·have HF:Hd (R=.ok (acc,lc.tail)):=zh (by rw [f.o,hq];rfl)
   have n:Hd (bq en (⟨[41].toArray⟩:ByteArray) lc=.ok ((),lc.tail)):=zh (by unfold bq;rw [if_pos hq]);have E:=zh (HA.o ⟨[41].toArray⟩ lc wr J.o);rw [hq] at E;clear hq;go_wp2_with fail
   refine E.o.mono ?_;rintro e w1 ⟨rfl,rfl⟩;go_wp2_with fail
   have D:=zh (ag (Below.refl wr.heap.size wr) (.cells #[.string ⟨[41].toArray⟩] 9));refine (n.o▸HM.o _ _ lc wr.heap.size (J.o.on D.o) (aA _ _ _ _ _ _ rfl rfl)).mono ?_;rintro e w2 ⟨⟨v,rfl,hv,hr⟩,ho⟩;have B:=(On.of_below D.o).trans ho;have HO:=zh (K.o.trans (OnS.of_on B HT.o));have V:=zh (HI.o _ _ _ S.o B);have O:=zh hr;clear ho hr B;subst hv;go_wp2_with fail
   go_end0
   exact PSaysT.ok HF.o ⟨rfl,V.o⟩ O.o HO.o
end
section
open Go.RowKit
theorem RepSt.lies {S:Nat→Prop} {w:World} {cs:List Value} {x:St} (h:RepSt S w cs x):RepSt (fun b=>S b∧b<w.heap.size) w cs x:=by
 induction h with
 | mk cb cl he hb _ hl _ ih1 ih2 =>
  refine .mk cb cl ?_ ?_ ih1 ?_ ih2
  ·obtain ⟨c,h1,h2⟩:=he
   exact ⟨c,h1.lies,fun i hi=>(h2 i hi).lies⟩
  ·exact hb.lies
  ·exact hl.lies
def stK:Kind St:=⟨RepSt,RepSt.keep,RepSt.mono,RepSt.lies⟩
theorem RepSts.mono {S S':Nat→Prop} {w:World} {v:Value} {l:List St} (h:RepSts S w v l) (hb:∀b,S b→S' b):RepSts S' w v l:=by
 obtain ⟨cs,h1,h2⟩:=h;exact ⟨cs,h1.mono hb,fun i hi=>(h2 i hi).mono hb⟩
theorem RepSts.form {S:Nat→Prop} {w:World} {v:Value} {l:List St} (h:RepSts S w v l):∃s n c,v=.slice s n c:=by
 obtain ⟨cs,⟨s0,cap,h1,_⟩,_⟩:=h;exact ⟨s0,_,cap,h1⟩
def RS (base:Nat) (w:World) (x:St) (v:Value):Prop:=∃op text s1 n1 c1 s2 n2 c2 s3 n3 c3 pos,v=.agg #[.int .i64 op,.string text,.slice s1 n1 c1,.slice s2 n2 c2,.slice s3 n3 c3,.int .i64 pos]∧RepSt (bM base) w [.int .i64 op,.string text,.slice s1 n1 c1,.slice s2 n2 c2,.slice s3 n3 c3,.int .i64 pos] x
def RSs (base:Nat) (w:World) (l:List St) (v:Value):Prop:=RepSts (bM base) w v l
def tV (rb:Nat) (en:Int) (f:FuncId) (args:Array Value) (P:Par St):Prop:=∀(l:List Tk) (w:World),RdAt w rb l en→Calls Tryz.prog f args w (PSays rb en w (RS w.heap.size) (P l))
def kN (rb:Nat) (en:Int) (f:FuncId) (args:Array Value) (P:Par (List St)):Prop:=∀(l:List Tk) (w:World),RdAt w rb l en→Calls Tryz.prog f args w (PSays rb en w (RSs w.heap.size) (P l))
def set6 (w:World) (k:Nat) (a b c d e f:Value):World:=(set5 w k a b c d e).setCell ⟨k,5,none⟩ f
theorem On.set6 {k:Nat} {a w:World} (h:On k a w) (x0 x1 x2 x3 x4 x5:Value):On k a (set6 w k x0 x1 x2 x3 x4 x5):=(h.set5 x0 x1 x2 x3 x4).set 5 _
structure Lay where
 rb:Nat
 BR:Nat
 BD:Nat
 RES:Nat
 SB:Nat
 base:Nat
 d:Int
 en:Int
 pl:Int
structure Lay.Ok (y:Lay) (w:World):Prop where
 rb:y.rb<w.heap.size
 br:w.heap.size≤y.BR∧y.BR<y.base
 bd:w.heap.size≤y.BD∧y.BD<y.base
 res:w.heap.size≤y.RES∧y.RES<y.base
 sb:w.heap.size≤y.SB∧y.SB<y.base
 ne:y.BR≠y.SB∧y.BD≠y.SB∧y.RES≠y.SB∧y.BR≠y.RES∧y.BD≠y.RES
structure StW (w:World) (y:Lay) (W:World) (L:List Tk) (op:Int) (text:ByteArray) (ve:Value) (xs:List Ex) (vb:Value) (bs:List St) (vl:Value) (ls:List St):Prop where
 rd:RdAt W y.rb L y.en
 br:W.heap[y.BR]?=some (.cells #[.pointer (some ⟨y.rb,0,none⟩)] 108 (0,0))
 bd:W.heap[y.BD]?=some (.cells #[.int .i64 y.d] 3 (0,0))
 res:W.heap[y.RES]?=some (.cells #[.int .i64 0,.string ⟨#[]⟩,.slice none 0 0,.slice none 0 0,.slice none 0 0,.int .i64 0] 134 (0,0))
 sb:W.heap[y.SB]?=some (.cells #[.int .i64 op,.string text,ve,vb,vl,.int .i64 y.pl] 134 (0,0))
 ex:GrowOf exK y.base 178 5 W ve xs
 bo:RepSts (bM y.base) W vb bs
 el:RepSts (bM y.base) W vl ls
 on:On y.rb w W
 big:y.base≤W.heap.size
section
variable {w W W':World} {y:Lay} {L L':List Tk} {op:Int} {text:ByteArray} {ve vb vl:Value} {xs:List Ex} {bs ls:List St}
theorem StW.call (h:StW w y W L op text ve xs vb bs vl ls) (hy:y.Ok w) (ho:On y.rb W W') (hr:RdAt W' y.rb L' y.en):StW w y W' L' op text ve xs vb bs vl ls:=by
 have h1:=hy.rb;have A:Stays (bM y.base) W W':=Stays.of_on ho (by have:=hy.br;omega);exact ⟨hr,ho.obj (by have:=hy.br;omega) h.br,ho.obj (by have:=hy.bd;omega) h.bd,ho.obj (by have:=hy.res;omega) h.res,ho.obj (by have:=hy.sb;omega) h.sb,h.ex.keep A,h.bo.keep A,h.el.keep A,h.on.trans ho,Nat.le_trans h.big ho.size⟩
theorem StW.below (h:StW w y W L op text ve xs vb bs vl ls) (hb:Below W.heap.size W W'):StW w y W' L op text ve xs vb bs vl ls:=by
 have A:Stays (bM y.base) W W':=Stays.of_below hb;exact ⟨h.rd.on hb,(hb.block _ (af h.br)).trans h.br,(hb.block _ (af h.bd)).trans h.bd,(hb.block _ (af h.res)).trans h.res,(hb.block _ (af h.sb)).trans h.sb,h.ex.keep A,h.bo.keep A,h.el.keep A,h.on.trans (On.of_below hb),Nat.le_trans h.big hb.size⟩
theorem StW.store (h:StW w y W L op text ve xs vb bs vl ls) (hy:y.Ok w) (j:Nat) (u:Value) {F:Int} {A:ByteArray} {C B:Value} {H G:List St}
    (ha:(#[.int .i64 op,.string text,ve,vb,vl,.int .i64 y.pl]:Array Value).setIfInBounds j u=#[.int .i64 F,.string A,ve,C,B,.int .i64 y.pl]) (hb:RepSts (bM y.base) W C H) (hl:RepSts (bM y.base) W B G) :
    StW w y (W.setCell ⟨y.SB,j,none⟩ u) L F A ve xs C H B G:=by
 have ho:On y.SB W (W.setCell ⟨y.SB,j,none⟩ u):=(On.refl _ _).set j u;have D:Stays (bM y.base) W (W.setCell ⟨y.SB,j,none⟩ u):=Stays.of_on ho hy.sb.2;have E:=hy.ne;refine ⟨h.rd.off ho (by have:=hy.sb;have:=hy.rb;omega),ho.obj E.1 h.br,ho.obj E.2.1 h.bd,ho.obj E.2.2.1 h.res,?_,h.ex.keep D,hb.keep D,hl.keep D,h.on.new ho hy.sb.1,Nat.le_trans h.big ho.size⟩;rw [←ha];exact au h.sb j u
theorem StW.kid {v':Value} {A:List Ex} (h:StW w y W L op text ve xs (.slice none 0 0) [] (.slice none 0 0) []) (hy:y.Ok w) (ho:OnS (fun b=>b=y.rb∨b=y.SB∨y.base≤b) W W') (hr:RdAt W' y.rb L' y.en)
    (hs:W'.heap[y.SB]?=some (.cells #[.int .i64 op,.string text,v',.slice none 0 0,.slice none 0 0,.int .i64 y.pl] 134)) (hg:GrowOf exK y.base 178 5 W' v' A):StW w y W' L' op text v' A (.slice none 0 0) [] (.slice none 0 0) []:=by
 have h1:=hy.rb;have h2:=hy.sb;have B:=hy.ne;exact ⟨hr,ho.obj (by have:=hy.br;omega) h.br,ho.obj (by have:=hy.bd;omega) h.bd,ho.obj (by have:=hy.res;omega) h.res,hs,hg,RepSts.nil _ _,RepSts.nil _ _,On.of_onS h.on ho (fun i hi=>by have:=hy.br;omega),Nat.le_trans h.big ho.size⟩
theorem StW.formE (h:StW w y W L op text ve xs vb bs vl ls):∃s n c,ve=.slice s n c:=by
 obtain ⟨cs,ho,_⟩:=h.ex;obtain ⟨s0,cap,h1,_⟩:=ba ho;exact ⟨s0,_,cap,h1⟩
theorem StW.done {s1 s2 s3:Option Addr} {n1 c1 n2 c2 n3 c3:Nat} {R:Except (Int×Int) (St×List Tk)} (h:StW w y W L op text (.slice s1 n1 c1) xs (.slice s2 n2 c2) bs (.slice s3 n3 c3) ls) (hy:y.Ok w) (hR:R=.ok (.mk op text xs bs ls y.pl,L)) :
    PSays y.rb y.en w (RS w.heap.size) R (.returned (.agg #[.int .i64 op,.string text,.slice s1 n1 c1,.slice s2 n2 c2,.slice s3 n3 c3,.int .i64 y.pl])) (set6 W y.RES (.int .i64 op) (.string text) (.slice s1 n1 c1) (.slice s2 n2 c2) (.slice s3 n3 c3) (.int .i64 y.pl)):=by
 have ho:On y.RES W (set6 W y.RES (.int .i64 op) (.string text) (.slice s1 n1 c1) (.slice s2 n2 c2) (.slice s3 n3 c3) (.int .i64 y.pl)):=(On.refl _ _).set6 _ _ _ _ _ _;have B:Stays (bM y.base) W _:=Stays.of_on ho hy.res.2;obtain ⟨cs,A,C⟩:=h.ex.row;have hx:RepExs (bM y.base) W (.slice s1 n1 c1) xs:=⟨cs,A,C⟩
 refine PSays.ok hR ⟨_,_,_,_,_,_,_,_,_,_,_,_,rfl,?_⟩ (h.rd.off ho (by have:=hy.res;have:=hy.rb;omega)) (h.on.new ho hy.res.1);exact ((RepSt.of hx h.bo h.el).keep B).mono fun b (hb:y.base≤b)=>(Nat.le_trans (by have:=hy.br;omega) hb:w.heap.size≤b)
end
end
end Go.Proofs.YthgcpfkochikfaaGreat
