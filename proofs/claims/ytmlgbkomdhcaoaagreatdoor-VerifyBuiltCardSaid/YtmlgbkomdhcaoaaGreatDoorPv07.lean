/-
  VerifyBuilt: part 7 of its proof: see the last text.
-/
import Derived.Test.YtmlgbkomdhcaoaaGreatDoorPv06
import Derived.Test.YtmlgbkomdhcaoaaGreatDoorPv02
import Derived.Test.YtmlgbkomdhcaoaaGreatDoorPv03
set_option maxRecDepth 100000
set_option maxHeartbeats 16000000
namespace Go.Proofs.YtmlgbkomdhcaoaaGreatDoor
section
open Go.RowKit
theorem PSays.cases {α:Type} {rb:Nat} {en:Int} {w w':World} {R:World→α→Value→Prop} {r:Except (Int×Int) (α×List Tk)} {e:Ending} (h:PSays rb en w R r e w') :
    (∃er p,r=.error (er,p)∧e=Pan er p∧On rb w w')∨(∃x l v,r=.ok (x,l)∧e=.returned v∧R w' x v∧RdAt w' rb l en∧On rb w w'):=by
 obtain ⟨h,ho⟩:=h
 cases r with
 | error q =>
  obtain ⟨er,p⟩:=q;exact .inl ⟨er,p,rfl,h,ho⟩
 | ok q =>
  obtain ⟨x,l⟩:=q;obtain ⟨v,h1,h2,h3⟩:=h;exact .inr ⟨x,l,v,rfl,h1,h2,h3,ho⟩
theorem PSays.err {α:Type} {rb:Nat} {en:Int} {w w':World} {R:World→α→Value→Prop} {r:Except (Int×Int) (α×List Tk)} {er p:Int} (hr:r=.error (er,p)) (ho:On rb w w'):PSays rb en w R r (Pan er p) w':=by
 subst hr;exact ⟨rfl,ho⟩
theorem PSays.ok {α:Type} {rb:Nat} {en:Int} {w w':World} {R:World→α→Value→Prop} {r:Except (Int×Int) (α×List Tk)} {x:α} {l:List Tk} {v:Value} (hr:r=.ok (x,l)) (hR:R w' x v) (A:RdAt w' rb l en) (ho:On rb w w'):PSays rb en w R r (.returned v) w':=by
 subst hr;exact ⟨⟨v,rfl,hR,A⟩,ho⟩
theorem tT (rb:Nat) (l:List Tk) (en:Int) (w:World) (h:RdAt w rb l en) :
    Calls Tryz.prog 56 #[.pointer (some ⟨rb,0,none⟩)] w (PSays rb en w (fun _ t v=>v=.int .i64 t) (ld en l)):=by
 have HT:=zh (fun (s:ByteArray) (W:World) (hW:RdAt W rb l en)=>iU rb s l en W hW);have HH:=zh h
 have HM:Hd (∀a b,atS l 0 rI=a→atS l 0 mY=b→ld en l=if a then .ok (1,l.tail) else if b then .ok (2,l.tail) else (match bq en iu l with | .error e=>.error e | .ok (_,r)=>.ok (3,r))):=zh (fun a b ha hb=>by
   unfold ld;rw [ha,hb]
   cases a<;>cases b<;>try rfl
   show Par.bind _ _ _=_
   unfold Par.bind okP
   cases bq en iu l<;>rfl)
 have HU:=zh (fun (W:World) (sb:Nat) (hW:RdAt W rb l en) (hs:W.cell? ⟨sb,0,none⟩=some (.string iu))=>a8 rb sb iu l en W hW hs);clear h
 cases h1:atS l 0 rI
 ·have A:=zh (HT.o rI w HH.o)
  rw [h1] at A
  cases h2:atS l 0 mY
  ·have B:=zh (HM.o _ _ h1 h2)
   have C:=zh (HT.o mY);rw [h2] at C;clear h1 h2;unfold rI mY iu str at *;go_enter Tryz.func56,Tryz.ntmps56
   go_wp2_with fail
   refine A.o.mono ?_;rintro e w1 ⟨rfl,hr,ho⟩;have HR:=zh hr;have HO:=zh ho;clear hr ho;go_wp2_with fail
   refine (C.o w1 HR.o).mono ?_;rintro e w2 ⟨rfl,hr,ho⟩;have D:=zh hr;have F:=zh (HO.o.trans ho);clear hr ho;go_wp2_with fail
   refine (HU.o _ w2.heap.size (D.o.on (ag (Below.refl _ _) _)) (aw _ _ _ _ _ _ rfl rfl)).mono ?_;rintro e w3 hp;have G:=zh (F.o.alloc (.cells #[.string ⟨[98,121,116,101,115].toArray⟩] 9));rcases hp.cases with ⟨er,p,hm,rfl,ho⟩ | ⟨x,r,v,hm,rfl,hv,hr,ho⟩
   ·have HF:=zh (show ld en l=.error (er,p) from by rw [B.o,hm];rfl)
    have E:=zh (G.o.trans ho);clear hp hm ho;unfold Pan;go_wp2_with fail
    exact ⟨rfl,PSays.err HF.o E.o⟩
   ·have HF:=zh (show ld en l=.ok (3,r) from by rw [B.o,hm];rfl)
    have E:=zh (G.o.trans ho);have H:=zh hr;clear hp hm ho hr;subst hv;go_wp2_with fail
    go_ret
    exact PSays.ok HF.o rfl H.o E.o
  ·have B:=zh (HM.o _ _ h1 h2)
   have C:=zh (HT.o mY);rw [h2] at C;clear h1 h2;unfold rI mY str at *;go_enter Tryz.func56,Tryz.ntmps56
   go_wp2_with fail
   refine A.o.mono ?_;rintro e w1 ⟨rfl,hr,ho⟩;have HR:=zh hr;have HO:=zh ho;clear hr ho;go_wp2_with fail
   refine (C.o w1 HR.o).mono ?_;rintro e w2 ⟨rfl,hr,ho⟩;have D:=zh hr;have F:=zh (HO.o.trans ho);clear hr ho;go_wp2_with fail
   go_ret
   exact PSays.ok B.o rfl D.o F.o
 ·have B:=zh (HM.o _ _ h1 rfl)
  have A:=zh (HT.o rI w HH.o);rw [h1] at A;clear h1;unfold rI str at *;go_enter Tryz.func56,Tryz.ntmps56
  go_wp2_with fail
  refine A.o.mono ?_;rintro e w1 ⟨rfl,hr,ho⟩;have HR:=zh hr;have HO:=zh ho;clear hr ho;go_wp2_with fail
  go_ret
  exact PSays.ok B.o rfl HR.o HO.o
end
section
open Go.RowKit
abbrev bO (b:Nat):Nat→Prop:=fun k=>b≤k
structure Stays (S:Nat→Prop) (w w':World):Prop where
 size:w.heap.size≤w'.heap.size
 block:∀b,S b→b<w.heap.size→w'.heap[b]?=w.heap[b]?
theorem Stays.refl (S:Nat→Prop) (w:World):Stays S w w:=⟨Nat.le_refl _,fun _ _ _=>rfl⟩
theorem Stays.trans {S:Nat→Prop} {a b c:World} (h:Stays S a b) (g:Stays S b c):Stays S a c:=
 ⟨Nat.le_trans h.size g.size,fun k hk hl=>(g.block k hk (Nat.lt_of_lt_of_le hl h.size)).trans (h.block k hk hl)⟩
theorem Stays.of_below {S:Nat→Prop} {a b:World} (h:Below a.heap.size a b):Stays S a b:=⟨h.size,fun k _ hl=>h.block k hl⟩
theorem Stays.of_ne {S:Nat→Prop} {k:Nat} {a b:World} (h:On k a b) (hk:¬S k):Stays S a b:=⟨h.size,fun i hi hl=>h.block i hl (fun e=>by injection e with e;subst e;exact hk hi)⟩
theorem Stays.of_on {base k:Nat} {a b:World} (h:On k a b) (hk:k<base):Stays (bO base) a b:=Stays.of_ne h (fun h=>Nat.not_le_of_lt hk h)
theorem Stays.cell {S:Nat→Prop} {a b:World} (h:Stays S a b) {k:Nat} (hk:S k) (hl:k<a.heap.size) (o:Nat):b.cell? ⟨k,o,none⟩=a.cell? ⟨k,o,none⟩:=World.cell?_of_block (w:=a) (h.block k hk hl)
def RowOf (S:Nat→Prop) (w:World) (v:Value) (sz n:Nat) (cs:Nat→List Value):Prop:=
 ∃s0 cap,v=.slice s0 n cap∧n≤cap∧cap≤maxLen∧(s0=none→cap=0)∧(0<n→∃b off,s0=some ⟨b,off,none⟩∧S b∧b<w.heap.size∧∀i,i<n→∀j,j<sz→w.cell? ⟨b,off+i * sz+j,none⟩=(cs i)[j]?)∧∀i,i<n→(cs i).length=sz
theorem RowOf.keep {S:Nat→Prop} {w w':World} {v:Value} {sz n:Nat} {cs:Nat→List Value} (h:RowOf S w v sz n cs) (hk:Stays S w w'):RowOf S w' v sz n cs:=by
 obtain ⟨s0,cap,h1,h2,h3,h4,h5,h6⟩:=h;refine ⟨s0,cap,h1,h2,h3,h4,fun h0=>?_,h6⟩;obtain ⟨b,off,e,hb,hl,hc⟩:=h5 h0;exact ⟨b,off,e,hb,Nat.lt_of_lt_of_le hl hk.size,fun i hi j hj=>(hk.cell hb hl _).trans (hc i hi j hj)⟩
theorem RowOf.mono {S S':Nat→Prop} {w:World} {v:Value} {sz n:Nat} {cs:Nat→List Value} (h:RowOf S w v sz n cs) (hb:∀b,S b→S' b):RowOf S' w v sz n cs:=by
 obtain ⟨s0,cap,h1,h2,h3,h4,h5,h6⟩:=h;refine ⟨s0,cap,h1,h2,h3,h4,fun h0=>?_,h6⟩;obtain ⟨b,off,e,A,hl,hc⟩:=h5 h0;exact ⟨b,off,e,hb _ A,hl,hc⟩
theorem RowOf.nil (S:Nat→Prop) (w:World) (sz:Nat) (cs:Nat→List Value):RowOf S w (.slice none 0 0) sz 0 cs:=
 ⟨none,0,rfl,Nat.le_refl _,Nat.zero_le _,fun _=>rfl,fun h=>absurd h (by omega),fun i hi=>absurd hi (by omega)⟩
inductive RepEx (S:Nat→Prop) (w:World):List Value→Ex→Prop
 | mk {op num pos:Int} {text:ByteArray} {kids:List Ex} {v:Value} (cs:Nat→List Value) (hr:RowOf S w v 5 kids.length cs) (hk:∀i,i<kids.length→RepEx S w (cs i) (kids.getD i default)) :
  RepEx S w [.int .i64 op,.int .i64 num,.string text,v,.int .i64 pos] (.mk op num text kids pos)
theorem RepEx.keep {S:Nat→Prop} {w w':World} {cs:List Value} {x:Ex} (h:RepEx S w cs x) (hk:Stays S w w'):RepEx S w' cs x:=by
 induction h with
 | mk cs hr _ ih=>exact .mk cs (hr.keep hk) ih
theorem RepEx.mono {S S':Nat→Prop} {w:World} {cs:List Value} {x:Ex} (h:RepEx S w cs x) (hb:∀b,S b→S' b):RepEx S' w cs x:=by
 induction h with
 | mk cs hr _ ih=>exact .mk cs (hr.mono hb) ih
theorem RepEx.down {base base':Nat} {w:World} {cs:List Value} {x:Ex} (h:RepEx (bO base) w cs x) (hb:base'≤base):RepEx (bO base') w cs x:=h.mono fun _ hk=>Nat.le_trans hb hk
theorem RepEx.form {S:Nat→Prop} {w:World} {cs:List Value} {x:Ex} (h:RepEx S w cs x):∃op num text v pos,cs=[.int .i64 op,.int .i64 num,.string text,v,.int .i64 pos]∧∃s0 n cap,v=.slice s0 n cap:=by
 obtain ⟨cs,hr,_⟩:=h;obtain ⟨s0,cap,h1,_⟩:=hr;exact ⟨_,_,_,_,_,rfl,_,_,_,h1⟩
def RepExs (S:Nat→Prop) (w:World) (v:Value) (l:List Ex):Prop:=∃cs,RowOf S w v 5 l.length cs∧∀i,i<l.length→RepEx S w (cs i) (l.getD i default)
theorem RepExs.keep {S:Nat→Prop} {w w':World} {v:Value} {l:List Ex} (h:RepExs S w v l) (hk:Stays S w w'):RepExs S w' v l:=by
 obtain ⟨cs,h1,h2⟩:=h;exact ⟨cs,h1.keep hk,fun i hi=>(h2 i hi).keep hk⟩
theorem RepExs.mono {S S':Nat→Prop} {w:World} {v:Value} {l:List Ex} (h:RepExs S w v l) (hb:∀b,S b→S' b):RepExs S' w v l:=by
 obtain ⟨cs,h1,h2⟩:=h;exact ⟨cs,h1.mono hb,fun i hi=>(h2 i hi).mono hb⟩
theorem RepExs.nil (S:Nat→Prop) (w:World):RepExs S w (.slice none 0 0) []:=⟨fun _=>[],RowOf.nil _ _ _ _,fun i hi=>absurd hi (by simp)⟩
theorem RepEx.of {S:Nat→Prop} {w:World} {v:Value} {op num pos:Int} {text:ByteArray} {kids:List Ex} (h:RepExs S w v kids):RepEx S w [.int .i64 op,.int .i64 num,.string text,v,.int .i64 pos] (.mk op num text kids pos):=by
 obtain ⟨cs,h1,h2⟩:=h;exact .mk cs h1 h2
theorem RepEx.kids {S:Nat→Prop} {w:World} {cs:List Value} {op num pos:Int} {text:ByteArray} {kids:List Ex} (h:RepEx S w cs (.mk op num text kids pos)):∃v,cs=[.int .i64 op,.int .i64 num,.string text,v,.int .i64 pos]∧RepExs S w v kids:=by
 cases h with
 | mk cs hr hk=>exact ⟨_,rfl,cs,hr,hk⟩
inductive RepSt (S:Nat→Prop) (w:World):List Value→St→Prop
 | mk {op pos:Int} {text:ByteArray} {exprs:List Ex} {body els:List St} {ve vb vl:Value} (cb cl:Nat→List Value) (he:RepExs S w ve exprs) (hb:RowOf S w vb 6 body.length cb) (hb2:∀i,i<body.length→RepSt S w (cb i) (body.getD i default))
     (hl:RowOf S w vl 6 els.length cl) (hl2:∀i,i<els.length→RepSt S w (cl i) (els.getD i default)) :
  RepSt S w [.int .i64 op,.string text,ve,vb,vl,.int .i64 pos] (.mk op text exprs body els pos)
theorem RepSt.keep {S:Nat→Prop} {w w':World} {cs:List Value} {x:St} (h:RepSt S w cs x) (hk:Stays S w w'):RepSt S w' cs x:=by
 induction h with
 | mk cb cl he hb _ hl _ ih1 ih2=>exact .mk cb cl (he.keep hk) (hb.keep hk) ih1 (hl.keep hk) ih2
theorem RepSt.mono {S S':Nat→Prop} {w:World} {cs:List Value} {x:St} (h:RepSt S w cs x) (A:∀b,S b→S' b):RepSt S' w cs x:=by
 induction h with
 | mk cb cl he hb _ hl _ ih1 ih2=>exact .mk cb cl (he.mono A) (hb.mono A) ih1 (hl.mono A) ih2
def RepSts (S:Nat→Prop) (w:World) (v:Value) (l:List St):Prop:=∃cs,RowOf S w v 6 l.length cs∧∀i,i<l.length→RepSt S w (cs i) (l.getD i default)
theorem RepSts.keep {S:Nat→Prop} {w w':World} {v:Value} {l:List St} (h:RepSts S w v l) (hk:Stays S w w'):RepSts S w' v l:=by
 obtain ⟨cs,h1,h2⟩:=h;exact ⟨cs,h1.keep hk,fun i hi=>(h2 i hi).keep hk⟩
theorem RepSts.nil (S:Nat→Prop) (w:World):RepSts S w (.slice none 0 0) []:=⟨fun _=>[],RowOf.nil _ _ _ _,fun i hi=>absurd hi (by simp)⟩
theorem RepSt.of {S:Nat→Prop} {w:World} {op pos:Int} {text:ByteArray} {exprs:List Ex} {body els:List St} {ve vb vl:Value} (he:RepExs S w ve exprs) (hb:RepSts S w vb body) (hl:RepSts S w vl els) :
    RepSt S w [.int .i64 op,.string text,ve,vb,vl,.int .i64 pos] (.mk op text exprs body els pos):=by
 obtain ⟨cb,D,C⟩:=hb;obtain ⟨cl,B,A⟩:=hl;exact .mk cb cl he D C B A
theorem RepSt.parts {S:Nat→Prop} {w:World} {cs:List Value} {op pos:Int} {text:ByteArray} {exprs:List Ex} {body els:List St} (h:RepSt S w cs (.mk op text exprs body els pos)) :
    ∃ve vb vl,cs=[.int .i64 op,.string text,ve,vb,vl,.int .i64 pos]∧RepExs S w ve exprs∧RepSts S w vb body∧RepSts S w vl els:=by
 cases h with
 | mk cb cl he hb B hl A=>exact ⟨_,_,_,rfl,he,⟨cb,hb,B⟩,⟨cl,hl,A⟩⟩
end
section
open Go.RowKit
def RX (base:Nat) (w:World) (x:Ex) (v:Value):Prop:=∃op num text s0 n cap pos,v=.agg #[.int .i64 op,.int .i64 num,.string text,.slice s0 n cap,.int .i64 pos]∧RepEx (bO base) w [.int .i64 op,.int .i64 num,.string text,.slice s0 n cap,.int .i64 pos] x
theorem RX.keep {base:Nat} {w w':World} {x:Ex} {v:Value} (h:RX base w x v) (ho:Stays (bO base) w w'):RX base w' x v:=by
 obtain ⟨op,num,text,s0,n,cap,pos,h1,h2⟩:=h;exact ⟨op,num,text,s0,n,cap,pos,h1,h2.keep ho⟩
theorem RX.mono {base base':Nat} {w:World} {x:Ex} {v:Value} (h:RX base w x v) (hb:base'≤base):RX base' w x v:=by
 obtain ⟨op,num,text,s0,n,cap,pos,h1,h2⟩:=h;exact ⟨op,num,text,s0,n,cap,pos,h1,h2.down hb⟩
def cU (rb:Nat) (en:Int) (f:FuncId) (args:Array Value) (P:Par Ex):Prop:=∀(l:List Tk) (w:World),RdAt w rb l en→Calls Tryz.prog f args w (PSays rb en w (RX w.heap.size) (P l))
def set5 (w:World) (k:Nat) (a b c d e:Value):World:=((((w.setCell ⟨k,0,none⟩ a).setCell ⟨k,1,none⟩ b).setCell ⟨k,2,none⟩ c).setCell ⟨k,3,none⟩ d).setCell ⟨k,4,none⟩ e
theorem On.set5 {k:Nat} {a w:World} (h:On k a w) (x0 x1 x2 x3 x4:Value):On k a (set5 w k x0 x1 x2 x3 x4):=((((h.set 0 _).set 1 _).set 2 _).set 3 _).set 4 _
theorem On.new {rb k:Nat} {a b c:World} (h:On rb a b) (g:On k b c) (hk:a.heap.size≤k):On rb a c:=
 ⟨g.os.trans h.os,g.tape.trans h.tape,g.output.trans h.output,Nat.le_trans h.size g.size,fun i hi A=>(g.block i (Nat.lt_of_lt_of_le hi h.size) (fun e=>by injection e with e;omega)).trans (h.block i hi A)⟩
theorem uq (rb:Nat) (d:Int) (i:0≤d) (hd:d≤32) (en:Int) (P:Par Ex) (HE:cU rb en 104 #[.pointer (some ⟨rb,0,none⟩),.int .i64 (d+1)] P):cU rb en 141 #[.pointer (some ⟨rb,0,none⟩),.int .i64 d] (dV en P):=by
 intro l w h;have a:=zh (fun (W:World) (sb:Nat) (hW:RdAt W rb l en) (hs:W.cell? ⟨sb,0,none⟩=some (.string dm))=>a8 rb sb dm l en W hW hs);have Z:=zh (fun (W:World) (l:List Tk) (sb:Nat) (hW:RdAt W rb l en) (hs:W.cell? ⟨sb,0,none⟩=some (.string dw))=>a8 rb sb dw l en W hW hs);have b:=zh HE;have HH:=zh h;have B:=zh h.lt;have g:d+1<100:=by omega
 have HP:Hd (dV en P l=(match bq en dm l with | .error e=>.error e | .ok (_,r)=>(match P r with | .error e=>.error e | .ok (x,r)=>(match bq en dw r with | .error e=>.error e | .ok (_,r)=>.ok (x,r))))):=zh (by
   unfold dV Par.bind okP
   cases bq en dm l with
   | error e=>rfl
   | ok q =>
     dsimp only
     cases P q.2 with
     | error e=>rfl
     | ok z =>
       dsimp only
       cases bq en dw z.2<;>rfl)
 clear HE h;unfold dm dw str at *;go_enter Tryz.func141,Tryz.ntmps141
 go_wp2_with fail
 refine (a.o _ (w.heap.size+1) (HH.o.on (ag (ag (Below.refl _ _) _) _)) (aw _ _ _ _ _ _ (ah _ _) rfl)).mono ?_;rintro e w1 hp;have R:=zh (((On.refl rb w).alloc (.cells #[.int .i64 0,.int .i64 0,.string ⟨#[]⟩,.slice none 0 0,.int .i64 0] 144)).alloc (.cells #[.string ⟨[40].toArray⟩] 9));rcases hp.cases with ⟨er,p,hm,rfl,ho⟩ | ⟨x,r,v,hm,rfl,hv,hr,ho⟩
 ·have HF:=zh (show dV en P l=.error (er,p) from by rw [HP.o,hm])
  have G:=zh (R.o.trans ho);clear hp hm ho;unfold Pan;go_wp2_with fail
  exact ⟨rfl,PSays.err HF.o G.o⟩
 ·have O:=zh (show dV en P l=(match P r with | .error e=>.error e | .ok (x,r)=>(match bq en (⟨[41].toArray⟩:ByteArray) r with | .error e=>.error e | .ok (_,r)=>.ok (x,r))) from by rw [HP.o,hm])
  have G:=zh (R.o.trans ho);have X:=zh hr;have M:=zh (ho.obj (k':=w.heap.size) (o:=.cells #[.int .i64 0,.int .i64 0,.string ⟨#[]⟩,.slice none 0 0,.int .i64 0] 144) (by have:=B.o;omega) (az _ _ _ _ (am _ _ _ rfl)));clear hp hm ho hr;subst hv;go_wp2_with fail
  refine (b.o r w1 X.o).mono ?_;rintro e w2 hp;rcases hp.cases with ⟨er,p,hm,rfl,ho⟩ | ⟨x,r2,v,hm,rfl,hv,hr,ho⟩
  ·have HF:=zh (show dV en P l=.error (er,p) from by rw [O.o,hm])
   have L:=zh (G.o.trans ho);clear hp hm ho;unfold Pan;go_wp2_with fail
   exact ⟨rfl,PSays.err HF.o L.o⟩
  ·have N:=zh (show dV en P l=(match bq en (⟨[41].toArray⟩:ByteArray) r2 with | .error e=>.error e | .ok (_,r)=>.ok (x,r)) from by rw [O.o,hm])
   have L:=zh (G.o.trans ho);have V:=zh hr;have f:w.heap.size<w2.heap.size:=Nat.lt_of_lt_of_le (ae M.o) ho.size;have c:=zh (ho.obj (k':=w.heap.size) (by have:=B.o;omega) M.o);obtain ⟨op,num,text,s0,n,cap,pos,rfl,C⟩:=hv;have I:=zh C;clear hp hm ho hr C;go_wp2_with fail
   have F:Below w2.heap.size w2 ((w2.alloc (.cells #[.int .i64 op,.int .i64 num,.string text,.slice s0 n cap,.int .i64 pos] 144)).alloc (.cells #[.string ⟨[41].toArray⟩] 9)):=ag (ag (Below.refl _ _) _) _;refine (Z.o _ r2 (w2.heap.size+1) (V.o.on F) (aw _ _ _ _ _ _ (ah _ _) rfl)).mono ?_;rintro e w3 hp;have Q:=zh (L.o.trans (On.of_below F));rcases hp.cases with ⟨er,p,hm,rfl,ho⟩ | ⟨x',r3,v,hm,rfl,hv,hr,ho⟩
   ·have HF:=zh (show dV en P l=.error (er,p) from by rw [N.o,hm])
    have K:=zh (Q.o.trans ho);clear hp hm ho;unfold Pan;go_wp2_with fail
    exact ⟨rfl,PSays.err HF.o K.o⟩
   ·have HF:=zh (show dV en P l=.ok (x,r3) from by rw [N.o,hm])
    have K:=zh (Q.o.trans ho);have U:=zh hr;have H:w2.heap.size≠rb:=by have:=B.o;omega
    have hx:=ho.obj (k':=w2.heap.size) H (az _ _ _ _ (am _ _ _ rfl));have hc:=(On.of_below F:On rb w2 _).obj (k':=w.heap.size) (by have:=B.o;omega) c.o;have A:=ho.obj (k':=w.heap.size) (by have:=B.o;omega) hc;have D:=ae M.o;have E:=zh (I.o.keep ((Stays.of_below F).trans (Stays.of_on ho (by have:=B.o;omega))));have k:=zh A;have x0:=aa hx (j:=0) rfl;have x1:=aa hx (j:=1) rfl;have x2:=aa hx (j:=2) rfl;have x3:=aa hx (j:=3) rfl;have x4:=aa hx (j:=4) rfl;have f0:=af A 0;have f1:=af A 1;have f2:=af A 2;have f3:=af A 3;have f4:=af A 4;have c0:=aa A (j:=0) rfl;have c1:=aa A (j:=1) rfl;have c2:=aa A (j:=2) rfl;have c3:=aa A (j:=3) rfl;have c4:=aa A (j:=4) rfl;clear hp hm ho hr hx hc A F;subst hv;go_wp2_with fail
    have J:On w.heap.size w3 (set5 w3 w.heap.size (.int .i64 op) (.int .i64 num) (.string text) (.slice s0 n cap) (.int .i64 pos)):=(On.refl _ _).set5 _ _ _ _ _;have T:=U.o.off J B.o;have Y:=K.o.new J (Nat.le_refl _);have S:=E.o.keep (Stays.of_on J D);refine bodyPost_ret (v:=.agg #[.int .i64 op,.int .i64 num,.string text,.slice s0 n cap,.int .i64 pos]) (by simp [results,Tryz.results141,go_sem,c0,c1,c2,c3,c4]) rfl ?_;exact PSays.ok HF.o ⟨_,_,_,_,_,_,_,rfl,S.down (Nat.le_of_lt D)⟩ T Y
end
section
open Go.RowKit
theorem aq {w:World} {k:Nat} {A:Array Value} {t:TypeId} {fz:Nat×Nat} (h:w.heap[k]?=some (.cells A t fz)) (j:Nat) (v:Value):(w.setCell ⟨k,j,none⟩ v).heap[k]?=some (.cells (A.setIfInBounds j v) t fz):=by
 show (w.heap.modify k _)[k]?=_
 rw [Array.getElem?_modify,if_pos rfl,h];rfl
structure OnS (T:Nat→Prop) (w w':World):Prop where
 os:w'.os=w.os
 tape:w'.tape=w.tape
 output:w'.output=w.output
 size:w.heap.size≤w'.heap.size
 block:∀i,i<w.heap.size→¬T i→w'.heap[i]?=w.heap[i]?
theorem OnS.refl (T:Nat→Prop) (w:World):OnS T w w:=⟨rfl,rfl,rfl,Nat.le_refl _,fun _ _ _=>rfl⟩
theorem OnS.of_on {T:Nat→Prop} {k:Nat} {w w':World} (h:On k w w') (hk:T k):OnS T w w':=⟨h.os,h.tape,h.output,h.size,fun i hi ht=>h.block i hi (fun e=>by injection e with e;subst e;exact ht hk)⟩
theorem OnS.of_below {T:Nat→Prop} {w w':World} (h:Below w.heap.size w w'):OnS T w w':=⟨h.os,h.tape,h.output,h.size,fun i hi _=>h.block i hi⟩
theorem OnS.of_grown {T:Nat→Prop} {w w':World} {r:Option Nat} (h:w.grownBy w' r) (hr:∀k,r=some k→T k):OnS T w w':=⟨h.os,h.tape,h.output,h.size,fun i hi ht=>h.block i hi (fun e=>ht (hr _ e.symm))⟩
theorem OnS.mono {T T':Nat→Prop} {w w':World} (h:OnS T w w') (ht:∀i,T i→T' i):OnS T' w w':=⟨h.os,h.tape,h.output,h.size,fun i hi hn=>h.block i hi (fun e=>hn (ht i e))⟩
theorem OnS.trans {T:Nat→Prop} {a b c:World} (h:OnS T a b) (g:OnS T b c):OnS T a c:=
 ⟨g.os.trans h.os,g.tape.trans h.tape,g.output.trans h.output,Nat.le_trans h.size g.size,fun i hi ht=>(g.block i (Nat.lt_of_lt_of_le hi h.size) ht).trans (h.block i hi ht)⟩
theorem OnS.new {T T':Nat→Prop} {a b c:World} (h:OnS T a b) (g:OnS T' b c) (ht:∀i,T' i→T i∨a.heap.size≤i):OnS T a c:=
 ⟨g.os.trans h.os,g.tape.trans h.tape,g.output.trans h.output,Nat.le_trans h.size g.size,fun i hi hn=>(g.block i (Nat.lt_of_lt_of_le hi h.size) (fun e=>(ht i e).elim hn (fun q=>by omega))).trans (h.block i hi hn)⟩
theorem OnS.obj {T:Nat→Prop} {k:Nat} {w w':World} {o:Obj} (h:OnS T w w') (hn:¬T k) (ho:w.heap[k]?=some o):w'.heap[k]?=some o:=(h.block k (ae ho) hn).trans ho
theorem OnS.cell {T:Nat→Prop} {w w':World} {c o:Nat} {u:Value} (h:OnS T w w') (hn:¬T c) (hc:w.cell? ⟨c,o,none⟩=some u):w'.cell? ⟨c,o,none⟩=some u:=
 (World.cell?_of_block (w:=w) (h.block c (ax hc) hn)).trans hc
theorem OnS.stays {T S:Nat→Prop} {w w':World} (h:OnS T w w') (hs:∀b,S b→¬T b):Stays S w w':=⟨h.size,fun b hb hl=>h.block b hl (hs b hb)⟩
theorem OnS.set {T:Nat→Prop} {a b:World} (h:OnS T a b) {k:Nat} (hk:T k) (j:Nat) (u:Value):OnS T a (b.setCell ⟨k,j,none⟩ u):=h.trans (OnS.of_on ((On.refl k b).set j u) hk)
theorem On.of_onS {T:Nat→Prop} {rb:Nat} {a b c:World} (h:On rb a b) (g:OnS T b c) (ht:∀i,T i→i=rb∨a.heap.size≤i):On rb a c:=
 ⟨g.os.trans h.os,g.tape.trans h.tape,g.output.trans h.output,Nat.le_trans h.size g.size,fun i hi A=>(g.block i (Nat.lt_of_lt_of_le hi h.size) (fun e=>(ht i e).elim (fun q=>A (by rw [q])) (fun q=>by omega))).trans (h.block i hi A)⟩
def dY (cs:Nat→List Value) (n:Nat):List Value:=(List.range n).flatMap cs
theorem gQ (cs:Nat→List Value) (n:Nat):dY cs (n+1)=dY cs n++cs n:=by
 unfold dY;rw [List.range_succ,List.flatMap_append];simp
theorem td {cs cs':Nat→List Value} {n:Nat} (h:∀i,i<n→cs i=cs' i):dY cs n=dY cs' n:=by
 induction n with
 | zero=>rfl
 | succ n ih=>rw [gQ,gQ,ih (fun i hi=>h i (by omega)),h n (Nat.lt_succ_self n)]
theorem jk {cs:Nat→List Value} {n sz:Nat} (h:∀i,i<n→(cs i).length=sz):(dY cs n).length=n * sz:=by
 induction n with
 | zero=>simp [dY]
 | succ n ih=>rw [gQ,List.length_append,ih (fun i hi=>h i (by omega)),h n (Nat.lt_succ_self n),Nat.succ_mul]
theorem rS {cs:Nat→List Value} {n sz:Nat} (h:∀i,i<n→(cs i).length=sz) {i j:Nat} (hi:i<n) (hj:j<sz):(dY cs n)[i * sz+j]?=(cs i)[j]?:=by
 induction n with
 | zero=>omega
 | succ n ih =>
  have hl:=jk (n:=n) (fun i hi=>h i (by omega));rw [gQ];by_cases e:i=n
  ·subst e
   rw [List.getElem?_append_right (by omega),hl];congr 1
   omega
  ·have A:i<n:=by omega
   have:i * sz+j<n * sz:=Nat.lt_of_lt_of_le (by rw [Nat.succ_mul];omega:i * sz+j<(i+1)*sz) (Nat.mul_le_mul_right sz (by omega));rw [List.getElem?_append_left (by omega)];exact ih (fun i hi=>h i (by omega)) A
theorem jN {α:Type} (l:List α) (y d:α) {i:Nat} (h:i<l.length):(l++[y]).getD i d=l.getD i d:=by
 rw [List.getD_eq_getElem?_getD,List.getD_eq_getElem?_getD,List.getElem?_append_left h]
theorem jQ {α:Type} (l:List α) (y d:α):(l++[y]).getD l.length d=y:=by
 rw [List.getD_eq_getElem?_getD,List.getElem?_append_right (Nat.le_refl _),Nat.sub_self];rfl
structure Kind (α:Type) where
 rel:(Nat→Prop)→World→List Value→α→Prop
 keep:∀{S:Nat→Prop} {w w':World} {cs:List Value} {x:α},rel S w cs x→Stays S w w'→rel S w' cs x
 mono:∀{S S':Nat→Prop} {w:World} {cs:List Value} {x:α},rel S w cs x→(∀b,S b→S' b)→rel S' w cs x
 lies:∀{S:Nat→Prop} {w:World} {cs:List Value} {x:α},rel S w cs x→rel (fun b=>S b∧b<w.heap.size) w cs x
def Items {α:Type} [Inhabited α] (K:Kind α) (base sz:Nat) (w:World) (v:Value) (xs:List α) (cs:Nat→List Value):Prop:=
 ∀i,i<xs.length→(cs i).length=sz∧K.rel (fun b=>base≤b∧v.ownBlock≠some b) w (cs i) (xs.getD i default)
def GrowOf {α:Type} [Inhabited α] (K:Kind α) (base e sz:Nat) (w:World) (v:Value) (xs:List α):Prop:=
 ∃cs,w.ownsRow base e sz v xs.length (dY cs xs.length)∧Items K base sz w v xs cs
section
variable {α:Type} [Inhabited α] {K:Kind α} {base e sz:Nat} {w w':World} {v:Value} {xs:List α}
theorem GrowOf.nil:GrowOf K base e sz w (.slice none 0 0) []:=⟨fun _=>[],iB,fun i hi=>absurd hi (by simp)⟩
theorem cS {n:Nat} {l:List Value} (h:w.ownsRow base e sz v n l) (hs:Stays (bO base) w w'):w'.ownsRow base e sz v n l:=by
 refine ⟨h.1,?_⟩;rcases h.2 with q | ⟨g,cap,cur,q1,q2,q3,q4⟩
 ·exact .inl q
 ·exact .inr ⟨g,cap,cur,q1,q2,(hs.block g q2 (ae q3)).trans q3,q4⟩
theorem aP {n:Nat} {l:List Value} (h:w.ownsRow base e sz v n l) {b:Nat} (hb:v.ownBlock=some b):base≤b∧b<w.heap.size:=by
 rcases h.2 with ⟨rfl,_⟩ | ⟨g,cap,cur,rfl,q2,q3,q4⟩
 ·cases hb
 ·injection hb with hb
  subst hb;exact ⟨q2,ae q3⟩
theorem Items.keep {cs:Nat→List Value} (h:Items K base sz w v xs cs) (hs:Stays (bO base) w w'):Items K base sz w' v xs cs:=fun i hi =>
 ⟨(h i hi).1,K.keep (h i hi).2 ⟨hs.size,fun b hb hl=>hs.block b hb.1 hl⟩⟩
theorem GrowOf.keep (h:GrowOf K base e sz w v xs) (hs:Stays (bO base) w w'):GrowOf K base e sz w' v xs:=by
 obtain ⟨cs,h1,h2⟩:=h;exact ⟨cs,cS h1 hs,h2.keep hs⟩
theorem GrowOf.row (h:GrowOf K base e sz w v xs):∃cs,RowOf (bO base) w v sz xs.length cs∧∀i,i<xs.length→K.rel (bO base) w (cs i) (xs.getD i default):=by
 obtain ⟨cs,h1,h2⟩:=h;obtain ⟨s0,cap,rfl,D,hm,hn,hc⟩:=bh h1;refine ⟨cs,⟨s0,cap,rfl,D,hm,hn,fun h0=>?_,fun i hi=>(h2 i hi).1⟩,fun i hi=>K.mono (h2 i hi).2 (fun b hb=>hb.1)⟩;obtain ⟨g,e,hg,hl,A⟩:=hc h0;refine ⟨g,0,e,hg,hl,fun i hi j hj=>?_⟩;have B:=rS (fun i hi=>(h2 i hi).1) hi hj;have C:=(h2 i hi).1;rw [Nat.zero_add,A (i * sz+j) ((cs i)[j]'(by omega)) (by rw [B];exact List.getElem?_eq_getElem _),List.getElem?_eq_getElem (by omega)]
theorem Items.push {cs:Nat→List Value} {new:List Value} {y:α} {g cap:Nat} (h:Items K base sz w v xs cs) (hn:new.length=sz) (hy:K.rel (fun b=>base≤b∧v.ownBlock≠some b) w new y) (hg:w.grownBy w' v.ownBlock) (A:v.ownBlock=some g∨g=w.heap.size) :
    Items K base sz w' (.slice (some ⟨g,0,none⟩) (xs.length+1) cap) (xs++[y]) (fun i=>if i<xs.length then cs i else new):=by
 have hk:∀(c:List Value) (x:α),K.rel (fun b=>base≤b∧v.ownBlock≠some b) w c x→K.rel (fun b=>base≤b∧(Value.slice (some ⟨g,0,none⟩) (xs.length+1) cap).ownBlock≠some b) w' c x:=fun c x hx =>
  K.mono (K.keep (K.lies hx) ⟨hg.size,fun b hb hl=>hg.block b hl (fun e=>hb.1.2 e.symm)⟩) (fun b hb=>⟨hb.1.1,fun e=>by
    injection e with e
    have e':g=b:=e;subst e';rcases A with q | q
    · exact hb.1.2 q
    · have:=hb.2;omega⟩)
 intro i hi;by_cases e:i<xs.length
 ·dsimp only
  rw [if_pos e];refine ⟨(h i e).1,?_⟩;rw [jN _ _ _ e];exact hk _ _ (h i e).2
 ·have B:i<xs.length+1:=by simpa using hi
  obtain rfl:i=xs.length:=by omega
  dsimp only;rw [if_neg e];refine ⟨hn,?_⟩;rw [jQ];exact hk _ _ hy
theorem nY {cs:Nat→List Value} {new:List Value} (n:Nat):dY (fun i=>if i<n then cs i else new) (n+1)=dY cs n++new:=by
 rw [gQ,if_neg (Nat.lt_irrefl _),td (cs':=cs) (fun i hi=>if_pos hi)]
theorem GrowOf.push {cs:Nat→List Value} {new:List Value} {y:α} {g cap:Nat} (h:Items K base sz w v xs cs) (hn:new.length=sz) (hy:K.rel (fun b=>base≤b∧v.ownBlock≠some b) w new y) (hg:w.grownBy w' v.ownBlock) (B:v.ownBlock=some g∨g=w.heap.size)
    (A:w'.ownsRow base e sz (.slice (some ⟨g,0,none⟩) (xs.length+1) cap) (xs.length+1) (dY cs xs.length++new)):GrowOf K base e sz w' (.slice (some ⟨g,0,none⟩) (xs.length+1) cap) (xs++[y]):=by
 refine ⟨_,?_,h.push hn hy hg B⟩;rw [List.length_append,show [y].length=1 from rfl,nY];exact A
theorem ju {g n cap:Nat} {l:List Value} (h:w.ownsRow base e sz (.slice (some ⟨g,0,none⟩) n cap) n l) (j:Nat) (u:Value):(w.setCell ⟨g,j,none⟩ u).ownsRow base e sz (.slice (some ⟨g,0,none⟩) n cap) n (l.set j u):=by
 refine ⟨by rw [List.length_set];exact h.1,?_⟩;rcases h.2 with ⟨q,_⟩ | ⟨g',cap',cur,q1,q2,q3,q4,q5,q6,q7⟩
 ·cases q
 ·injection q1 with a1 a2 a3
  injection a1 with a1
  injection a1 with a1
  subst a1 a3;refine .inr ⟨g,cap,cur.setIfInBounds j u,rfl,q2,aq q3 j u,q4,q5,by simpa using q6,?_⟩;rw [←q7];simp [List.take_set]
theorem gM {g n cap:Nat} {l:List Value} (h:w.ownsRow base e sz (.slice (some ⟨g,0,none⟩) n cap) n l):(∀j u,l[j]?=some u→w.cell? ⟨g,j,none⟩=some u)∧(∀j,w.frozen? ⟨g,j,none⟩=false):=by
 rcases h.2 with ⟨q,_⟩ | ⟨g',cap',cur,q1,q2,q3,q4,q5,q6,q7⟩
 ·cases q
 ·injection q1 with a1 a2 a3
  injection a1 with a1
  injection a1 with a1
  subst a1;refine ⟨fun j u hj=>?_,fun j=>af q3 j⟩;rw [←q7,List.getElem?_take] at hj;split at hj
  ·exact aa q3 (by simpa using hj)
  ·cases hj
end
def OfTy (w:World) (b:Nat) (t:TypeId):Prop:=∃a fz,w.heap[b]?=some (.cells a t fz)
theorem OfTy.ne {w:World} {a b:Nat} {s t:TypeId} (h:OfTy w a s) (g:OfTy w b t) (A:s≠t):a≠b:=fun e=>by
 subst e;obtain ⟨x,y,h⟩:=h;obtain ⟨z,u,g⟩:=g;rw [h] at g;injection g with g
 injection g with _ g
 exact A g
theorem OfTy.lt {w:World} {b:Nat} {t:TypeId} (h:OfTy w b t):b<w.heap.size:=by
 obtain ⟨_,_,h⟩:=h;exact ae h
theorem OfTy.keep {w w':World} {b:Nat} {t:TypeId} (h:OfTy w b t) (hb:w'.heap[b]?=w.heap[b]?):OfTy w' b t:=by
 obtain ⟨x,y,h⟩:=h;exact ⟨x,y,hb.trans h⟩
theorem bD {w:World} {base e A n:Nat} {v:Value} {xs:List Value} (h:w.ownsRow base e A v n xs) {k:Nat} (hk:v.ownBlock=some k):OfTy w k e:=by
 rcases h.2 with ⟨rfl,_⟩ | ⟨g,cap,cur,rfl,_,hg,_⟩
 ·cases hk
 ·injection hk with hk
  subst hk;exact ⟨_,_,hg⟩
theorem bG {w w':World} {base e A n:Nat} {v:Value} {xs:List Value} (h:w.ownsRow base e A v n xs) (hk:∀k,v.ownBlock=some k→w'.heap[k]?=w.heap[k]?):w'.ownsRow base e A v n xs:=by
 refine ⟨h.1,?_⟩;rcases h.2 with hn | ⟨g,cap,cur,rfl,hb,B,rest⟩
 ·exact .inl hn
 ·exact .inr ⟨g,cap,cur,rfl,hb,(hk g rfl).trans B,rest⟩
theorem mN {w:World} {base base' e sz n:Nat} {v:Value} {xs:List Value} (h:w.ownsRow base e sz v n xs) (hb:base'≤base):w.ownsRow base' e sz v n xs:=by
 refine ⟨h.1,?_⟩;rcases h.2 with q | ⟨g,cap,cur,q1,q2,q3⟩
 ·exact .inl q
 ·exact .inr ⟨g,cap,cur,q1,Nat.le_trans hb q2,q3⟩
end
end Go.Proofs.YtmlgbkomdhcaoaaGreatDoor
