/-
  EvalLoops: part 11 of its proof: see the last text.
-/
import Derived.Test.YthgcpfkochikfaaGreatPq10
import Derived.Test.YthgcpfkochikfaaGreatPq01
import Derived.IntWalk
import Derived.Test.YthgcpfkochikfaaGreatPq03
set_option maxRecDepth 100000
set_option maxHeartbeats 16000000
namespace Go.Proofs.YthgcpfkochikfaaGreat
section
open Go.RowKit
theorem PSays.cases {α:Type} {rb:Nat} {en:Int} {w w':World} {R:World→α→Value→Prop} {r:Except (Int×Int) (α×List Tk)} {e:Ending} (h:PSays rb en w R r e w') :
    (∃er p,r=.error (er,p)∧e=Pan er p∧On rb w w')∨(∃x l v,r=.ok (x,l)∧e=.returned v∧R w' x v∧RdAt w' rb l en∧On rb w w'):=by
 obtain ⟨h,ho⟩:=h
 cases r with
 | error q =>
  obtain ⟨er,p⟩:=q;exact .inl ⟨er,p,rfl,h,ho⟩
 | ok q =>
  obtain ⟨x,l⟩:=q;obtain ⟨v,h1,h2,h3⟩:=h;exact .inr ⟨x,l,v,rfl,h1,h2,h3,ho⟩
theorem PSays.err {α:Type} {rb:Nat} {en:Int} {w w':World} {R:World→α→Value→Prop} {r:Except (Int×Int) (α×List Tk)} {er p:Int} (hr:r=.error (er,p)) (ho:On rb w w'):PSays rb en w R r (Pan er p) w':=by
 subst hr;exact ⟨rfl,ho⟩
theorem PSays.ok {α:Type} {rb:Nat} {en:Int} {w w':World} {R:World→α→Value→Prop} {r:Except (Int×Int) (α×List Tk)} {x:α} {l:List Tk} {v:Value} (hr:r=.ok (x,l)) (hR:R w' x v) (A:RdAt w' rb l en) (ho:On rb w w'):PSays rb en w R r (.returned v) w':=by
 subst hr;exact ⟨⟨v,rfl,hR,A⟩,ho⟩
theorem uu (rb:Nat) (l:List Tk) (en:Int) (w:World) (h:RdAt w rb l en) :
    Calls Tryz.prog 75 #[.pointer (some ⟨rb,0,none⟩)] w (PSays rb en w (fun _ t v=>v=.int .i64 t) (lD en l)):=by
 have HT:=zh (fun (s:ByteArray) (W:World) (hW:RdAt W rb l en)=>ja rb s l en W hW);have HH:=zh h
 have HM:Hd (∀a b,atS l 0 rI=a→atS l 0 mN=b→lD en l=if a then .ok (1,l.tail) else if b then .ok (2,l.tail) else (match bh en iw l with | .error e=>.error e | .ok (_,r)=>.ok (3,r))):=zh (fun a b ha hb=>by
   unfold lD;rw [ha,hb]
   cases a<;>cases b<;>try rfl
   show Par.bind _ _ _=_
   unfold Par.bind okP
   cases bh en iw l<;>rfl)
 have HU:=zh (fun (W:World) (sb:Nat) (hW:RdAt W rb l en) (hs:W.cell? ⟨sb,0,none⟩=some (.string iw))=>aW rb sb iw l en W hW hs);clear h
 cases h1:atS l 0 rI
 ·have A:=zh (HT.o rI w HH.o)
  rw [h1] at A
  cases h2:atS l 0 mN
  ·have B:=zh (HM.o _ _ h1 h2)
   have C:=zh (HT.o mN);rw [h2] at C;clear h1 h2;unfold rI mN iw str at *;go_enter Tryz.func75,Tryz.ntmps75
   go_wp2_with fail
   refine A.o.mono ?_;rintro e w1 ⟨rfl,hr,ho⟩;have HR:=zh hr;have HO:=zh ho;clear hr ho;go_wp2_with fail
   refine (C.o w1 HR.o).mono ?_;rintro e w2 ⟨rfl,hr,ho⟩;have D:=zh hr;have F:=zh (HO.o.trans ho);clear hr ho;go_wp2_with fail
   refine (HU.o _ w2.heap.size (D.o.on (ag (Below.refl _ _) _)) (aA _ _ _ _ _ _ rfl rfl)).mono ?_;rintro e w3 hp;have G:=zh (F.o.alloc (.cells #[.string ⟨[98,121,116,101,115].toArray⟩] 9));rcases hp.cases with ⟨er,p,hm,rfl,ho⟩ | ⟨x,r,v,hm,rfl,hv,hr,ho⟩
   ·have HF:=zh (show lD en l=.error (er,p) from by rw [B.o,hm];rfl)
    have E:=zh (G.o.trans ho);clear hp hm ho;unfold Pan;go_wp2_with fail
    exact ⟨rfl,PSays.err HF.o E.o⟩
   ·have HF:=zh (show lD en l=.ok (3,r) from by rw [B.o,hm];rfl)
    have E:=zh (G.o.trans ho);have H:=zh hr;clear hp hm ho hr;subst hv;go_wp2_with fail
    go_ret
    exact PSays.ok HF.o rfl H.o E.o
  ·have B:=zh (HM.o _ _ h1 h2)
   have C:=zh (HT.o mN);rw [h2] at C;clear h1 h2;unfold rI mN str at *;go_enter Tryz.func75,Tryz.ntmps75
   go_wp2_with fail
   refine A.o.mono ?_;rintro e w1 ⟨rfl,hr,ho⟩;have HR:=zh hr;have HO:=zh ho;clear hr ho;go_wp2_with fail
   refine (C.o w1 HR.o).mono ?_;rintro e w2 ⟨rfl,hr,ho⟩;have D:=zh hr;have F:=zh (HO.o.trans ho);clear hr ho;go_wp2_with fail
   go_ret
   exact PSays.ok B.o rfl D.o F.o
 ·have B:=zh (HM.o _ _ h1 rfl)
  have A:=zh (HT.o rI w HH.o);rw [h1] at A;clear h1;unfold rI str at *;go_enter Tryz.func75,Tryz.ntmps75
  go_wp2_with fail
  refine A.o.mono ?_;rintro e w1 ⟨rfl,hr,ho⟩;have HR:=zh hr;have HO:=zh ho;clear hr ho;go_wp2_with fail
  go_ret
  exact PSays.ok B.o rfl HR.o HO.o
end
section
open Go.RowKit
def RX (base:Nat) (w:World) (x:Ex) (v:Value):Prop:=∃op num text s0 n cap pos,v=.agg #[.int .i64 op,.int .i64 num,.string text,.slice s0 n cap,.int .i64 pos]∧RepEx (bN base) w [.int .i64 op,.int .i64 num,.string text,.slice s0 n cap,.int .i64 pos] x
theorem RX.keep {base:Nat} {w w':World} {x:Ex} {v:Value} (h:RX base w x v) (ho:Stays (bN base) w w'):RX base w' x v:=by
 obtain ⟨op,num,text,s0,n,cap,pos,h1,h2⟩:=h;exact ⟨op,num,text,s0,n,cap,pos,h1,h2.keep ho⟩
theorem RX.mono {base base':Nat} {w:World} {x:Ex} {v:Value} (h:RX base w x v) (hb:base'≤base):RX base' w x v:=by
 obtain ⟨op,num,text,s0,n,cap,pos,h1,h2⟩:=h;exact ⟨op,num,text,s0,n,cap,pos,h1,h2.down hb⟩
def cw (rb:Nat) (en:Int) (f:FuncId) (args:Array Value) (P:Par Ex):Prop:=∀(l:List Tk) (w:World),RdAt w rb l en→Calls Tryz.prog f args w (PSays rb en w (RX w.heap.size) (P l))
def set5 (w:World) (k:Nat) (a b c d e:Value):World:=((((w.setCell ⟨k,0,none⟩ a).setCell ⟨k,1,none⟩ b).setCell ⟨k,2,none⟩ c).setCell ⟨k,3,none⟩ d).setCell ⟨k,4,none⟩ e
theorem On.set5 {k:Nat} {a w:World} (h:On k a w) (x0 x1 x2 x3 x4:Value):On k a (set5 w k x0 x1 x2 x3 x4):=((((h.set 0 _).set 1 _).set 2 _).set 3 _).set 4 _
theorem On.new {rb k:Nat} {a b c:World} (h:On rb a b) (g:On k b c) (hk:a.heap.size≤k):On rb a c:=
 ⟨g.os.trans h.os,g.tape.trans h.tape,g.output.trans h.output,Nat.le_trans h.size g.size,fun i hi A=>(g.block i (Nat.lt_of_lt_of_le hi h.size) (fun e=>by injection e with e;omega)).trans (h.block i hi A)⟩
theorem wn (rb:Nat) (d:Int) (i:0≤d) (hd:d≤32) (en:Int) (P:Par Ex) (HE:cw rb en 129 #[.pointer (some ⟨rb,0,none⟩),.int .i64 (d+1)] P):cw rb en 207 #[.pointer (some ⟨rb,0,none⟩),.int .i64 d] (dI en P):=by
 intro l w h;have a:=zh (fun (W:World) (sb:Nat) (hW:RdAt W rb l en) (hs:W.cell? ⟨sb,0,none⟩=some (.string cV))=>aW rb sb cV l en W hW hs);have Z:=zh (fun (W:World) (l:List Tk) (sb:Nat) (hW:RdAt W rb l en) (hs:W.cell? ⟨sb,0,none⟩=some (.string cZ))=>aW rb sb cZ l en W hW hs);have b:=zh HE;have HH:=zh h;have B:=zh h.lt;have g:d+1<100:=by omega
 have HP:Hd (dI en P l=(match bh en cV l with | .error e=>.error e | .ok (_,r)=>(match P r with | .error e=>.error e | .ok (x,r)=>(match bh en cZ r with | .error e=>.error e | .ok (_,r)=>.ok (x,r))))):=zh (by
   unfold dI Par.bind okP
   cases bh en cV l with
   | error e=>rfl
   | ok q =>
     dsimp only
     cases P q.2 with
     | error e=>rfl
     | ok z =>
       dsimp only
       cases bh en cZ z.2<;>rfl)
 clear HE h;unfold cV cZ str at *;go_enter Tryz.func207,Tryz.ntmps207
 go_wp2_with fail
 refine (a.o _ (w.heap.size+1) (HH.o.on (ag (ag (Below.refl _ _) _) _)) (aA _ _ _ _ _ _ (ah _ _) rfl)).mono ?_;rintro e w1 hp;have R:=zh (((On.refl rb w).alloc (.cells #[.int .i64 0,.int .i64 0,.string ⟨#[]⟩,.slice none 0 0,.int .i64 0] 178)).alloc (.cells #[.string ⟨[40].toArray⟩] 9));rcases hp.cases with ⟨er,p,hm,rfl,ho⟩ | ⟨x,r,v,hm,rfl,hv,hr,ho⟩
 ·have HF:=zh (show dI en P l=.error (er,p) from by rw [HP.o,hm])
  have G:=zh (R.o.trans ho);clear hp hm ho;unfold Pan;go_wp2_with fail
  exact ⟨rfl,PSays.err HF.o G.o⟩
 ·have O:=zh (show dI en P l=(match P r with | .error e=>.error e | .ok (x,r)=>(match bh en (⟨[41].toArray⟩:ByteArray) r with | .error e=>.error e | .ok (_,r)=>.ok (x,r))) from by rw [HP.o,hm])
  have G:=zh (R.o.trans ho);have X:=zh hr;have M:=zh (ho.obj (k':=w.heap.size) (o:=.cells #[.int .i64 0,.int .i64 0,.string ⟨#[]⟩,.slice none 0 0,.int .i64 0] 178) (by have:=B.o;omega) (ax _ _ _ _ (aj _ _ _ rfl)));clear hp hm ho hr;subst hv;go_wp2_with fail
  refine (b.o r w1 X.o).mono ?_;rintro e w2 hp;rcases hp.cases with ⟨er,p,hm,rfl,ho⟩ | ⟨x,r2,v,hm,rfl,hv,hr,ho⟩
  ·have HF:=zh (show dI en P l=.error (er,p) from by rw [O.o,hm])
   have L:=zh (G.o.trans ho);clear hp hm ho;unfold Pan;go_wp2_with fail
   exact ⟨rfl,PSays.err HF.o L.o⟩
  ·have N:=zh (show dI en P l=(match bh en (⟨[41].toArray⟩:ByteArray) r2 with | .error e=>.error e | .ok (_,r)=>.ok (x,r)) from by rw [O.o,hm])
   have L:=zh (G.o.trans ho);have V:=zh hr;have f:w.heap.size<w2.heap.size:=Nat.lt_of_lt_of_le (af M.o) ho.size;have c:=zh (ho.obj (k':=w.heap.size) (by have:=B.o;omega) M.o);obtain ⟨op,num,text,s0,n,cap,pos,rfl,C⟩:=hv;have I:=zh C;clear hp hm ho hr C;go_wp2_with fail
   have F:Below w2.heap.size w2 ((w2.alloc (.cells #[.int .i64 op,.int .i64 num,.string text,.slice s0 n cap,.int .i64 pos] 178)).alloc (.cells #[.string ⟨[41].toArray⟩] 9)):=ag (ag (Below.refl _ _) _) _;refine (Z.o _ r2 (w2.heap.size+1) (V.o.on F) (aA _ _ _ _ _ _ (ah _ _) rfl)).mono ?_;rintro e w3 hp;have Q:=zh (L.o.trans (On.of_below F));rcases hp.cases with ⟨er,p,hm,rfl,ho⟩ | ⟨x',r3,v,hm,rfl,hv,hr,ho⟩
   ·have HF:=zh (show dI en P l=.error (er,p) from by rw [N.o,hm])
    have K:=zh (Q.o.trans ho);clear hp hm ho;unfold Pan;go_wp2_with fail
    exact ⟨rfl,PSays.err HF.o K.o⟩
   ·have HF:=zh (show dI en P l=.ok (x,r3) from by rw [N.o,hm])
    have K:=zh (Q.o.trans ho);have U:=zh hr;have H:w2.heap.size≠rb:=by have:=B.o;omega
    have hx:=ho.obj (k':=w2.heap.size) H (ax _ _ _ _ (aj _ _ _ rfl));have hc:=(On.of_below F:On rb w2 _).obj (k':=w.heap.size) (by have:=B.o;omega) c.o;have A:=ho.obj (k':=w.heap.size) (by have:=B.o;omega) hc;have D:=af M.o;have E:=zh (I.o.keep ((Stays.of_below F).trans (Stays.of_on ho (by have:=B.o;omega))));have k:=zh A;have x0:=aa hx (j:=0) rfl;have x1:=aa hx (j:=1) rfl;have x2:=aa hx (j:=2) rfl;have x3:=aa hx (j:=3) rfl;have x4:=aa hx (j:=4) rfl;have f0:=ae A 0;have f1:=ae A 1;have f2:=ae A 2;have f3:=ae A 3;have f4:=ae A 4;have c0:=aa A (j:=0) rfl;have c1:=aa A (j:=1) rfl;have c2:=aa A (j:=2) rfl;have c3:=aa A (j:=3) rfl;have c4:=aa A (j:=4) rfl;clear hp hm ho hr hx hc A F;subst hv;go_wp2_with fail
    have J:On w.heap.size w3 (set5 w3 w.heap.size (.int .i64 op) (.int .i64 num) (.string text) (.slice s0 n cap) (.int .i64 pos)):=(On.refl _ _).set5 _ _ _ _ _;have T:=U.o.off J B.o;have Y:=K.o.new J (Nat.le_refl _);have S:=E.o.keep (Stays.of_on J D);refine bodyPost_ret (v:=.agg #[.int .i64 op,.int .i64 num,.string text,.slice s0 n cap,.int .i64 pos]) (by simp [results,Tryz.results207,go_sem,c0,c1,c2,c3,c4]) rfl ?_;exact PSays.ok HF.o ⟨_,_,_,_,_,_,_,rfl,S.down (Nat.le_of_lt D)⟩ T Y
end
section
section
open Go.RowKit
theorem zO (rb:Nat) (d:Int) (hd:d≤32) (en:Int) (P:Par Ex) (HE:cw rb en 172 #[.pointer (some ⟨rb,0,none⟩),.int .i64 0,.int .i64 d] P):cw rb en 129 #[.pointer (some ⟨rb,0,none⟩),.int .i64 d] P:=by
 intro l w h;have N:=zh HE;have H:=zh h.lt;have F:Below w.heap.size w (w.alloc (.cells #[.int .i64 0,.int .i64 0,.string ⟨#[]⟩,.slice none 0 0,.int .i64 0] 178)):=ag (Below.refl _ _) _;have HH:=zh (h.on F);have G:=zh (On.of_below F:On rb w _);clear HE h F;go_enter Tryz.func129,Tryz.ntmps129
 go_wp2_with fail
 refine (pB rb d _ hd).mono ?_;rintro e w1 ⟨rfl,rfl⟩;go_wp2_with fail
 refine (N.o l _ HH.o).mono ?_;rintro e w2 hp;rcases hp.cases with ⟨er,p,hm,rfl,ho⟩ | ⟨x,r,v,hm,rfl,hv,hr,ho⟩
 ·have HF:=zh hm
  have E:=zh (G.o.trans ho);clear hp hm ho;unfold Pan;go_wp2_with fail
  exact ⟨rfl,PSays.err HF.o E.o⟩
 ·have HF:=zh hm
  have E:=zh (G.o.trans ho);have L:=zh hr;have A:=ho.obj (k':=w.heap.size) (o:=.cells #[.int .i64 0,.int .i64 0,.string ⟨#[]⟩,.slice none 0 0,.int .i64 0] 178) (by have:=H.o;omega) (aj _ _ _ rfl);have I:w.heap.size+1=(w.alloc (.cells #[.int .i64 0,.int .i64 0,.string ⟨#[]⟩,.slice none 0 0,.int .i64 0] 178)).heap.size:=(ah _ _).symm;rw [←I] at hv;obtain ⟨op,num,text,s0,n,cap,pos,rfl,B⟩:=hv;have C:=zh B;have f0:=ae A 0;have f1:=ae A 1;have f2:=ae A 2;have f3:=ae A 3;have f4:=ae A 4;have c0:=aa A (j:=0) rfl;have c1:=aa A (j:=1) rfl;have c2:=aa A (j:=2) rfl;have c3:=aa A (j:=3) rfl;have c4:=aa A (j:=4) rfl;clear hp hm ho hr B A;go_wp2_with fail
  have D:On w.heap.size w2 (set5 w2 w.heap.size (.int .i64 op) (.int .i64 num) (.string text) (.slice s0 n cap) (.int .i64 pos)):=(On.refl _ _).set5 _ _ _ _ _;have K:=L.o.off D H.o;have M:=E.o.new D (Nat.le_refl _);have J:=C.o.keep (Stays.of_on D (Nat.lt_succ_self _));refine bodyPost_ret (v:=.agg #[.int .i64 op,.int .i64 num,.string text,.slice s0 n cap,.int .i64 pos]) (by simp [results,Tryz.results129,go_sem,c0,c1,c2,c3,c4]) rfl ?_;exact PSays.ok HF.o ⟨_,_,_,_,_,_,_,rfl,J.down (Nat.le_succ _)⟩ K M
theorem A6 (rb:Nat) (d:Int) (hd:32<d) (en:Int) (P:Par Ex) (hP:∀l,P l=.error (42,aQ en l)):cw rb en 129 #[.pointer (some ⟨rb,0,none⟩),.int .i64 d] P:=by
 intro l w h;have HP:=zh (hP l);have A:Below w.heap.size w (w.alloc (.cells #[.int .i64 0,.int .i64 0,.string ⟨#[]⟩,.slice none 0 0,.int .i64 0] 178)):=ag (Below.refl _ _) _;have HH:=zh (h.on A);have B:=zh (On.of_below A:On rb w _);clear hP h A;go_enter Tryz.func129,Tryz.ntmps129
 go_wp2_with fail
 refine (pV rb l en d _ HH.o hd).mono ?_;rintro e w1 ⟨rfl,rfl⟩;unfold Pan;go_wp2_with fail
 exact ⟨rfl,PSays.err HP.o B.o⟩
theorem qQ (en:Int) (one:Par Ex) (e:List Tk→Int×Int) (h:∀l,one l=.error (e l)) (j:Nat) (l:List Tk):dn en one j l=.error (e l):=by
 induction j generalizing l with
 | zero=>exact h l
 | succ j ih =>
  show Par.bind (dn en one j) _ l=_
  unfold Par.bind;rw [ih]
end
section
open Go.RowKit
def bD (n:Nat):Array Value:=((bO n).map Value.string).toArray
theorem wk (n:Nat) (hn:n≤4) (w:World):Calls Tryz.prog 195 #[.int .i64 n] w fun e w'=>e=.returned (.slice (some ⟨w.heap.size,0,none⟩) (bO n).length (bO n).length)∧w'=w.alloc (.cells (bD n) 9):=by
 rcases (show n=0∨n=1∨n=2∨n=3∨n=4 by omega) with rfl | rfl | rfl | rfl | rfl
 all_goals
  go_enter Tryz.func195,Tryz.ntmps195
  go_wp2_with fail
  go_ret
  exact ⟨rfl,rfl⟩
def fT (l:List Tk):List ByteArray→Nat→Int
 | [],_=>-1
 | s :: r,i=>if atS l 0 s then (i:Int) else fT l r (i+1)
theorem A7 (rb bb:Nat) (s:ByteArray) (l:List Tk) (en:Int) (w:World) (h:RdAt w rb l en) (hb:w.cell? ⟨bb,0,none⟩=some (.pointer (some ⟨rb,0,none⟩))) :
    Calls Tryz.prog 196 #[.string s,.pointer (some ⟨bb,0,none⟩)] w fun e w'=>e=.returned (.bool (atS l 0 s))∧w=w':=by
 have HA:=zh (fD rb 0 s l en w h);clear h;generalize atS l 0 s=q at *;go_enter Tryz.func196,Tryz.ntmps196
 go_wp2_with fail
 refine HA.o.mono ?_;rintro e w1 ⟨rfl,rfl⟩;go_wp2_with fail
 go_ret
 exact ⟨rfl,rfl⟩
theorem vI (rb bb sb:Nat) (sl:List ByteArray) (hl:sl.length≤6) (l:List Tk) (en:Int) (w:World) (h:RdAt w rb l en) (hb:w.cell? ⟨bb,0,none⟩=some (.pointer (some ⟨rb,0,none⟩))) (hs:∀i,(hi:i<sl.length)→w.cell? ⟨sb,i,none⟩=some (.string sl[i])) :
    Calls Tryz.prog 194 #[.slice (some ⟨sb,0,none⟩) sl.length sl.length,.func (.func 196) #[] #[.pointer (some ⟨bb,0,none⟩)]] w fun e w'=>e=.returned (.int .i64 (fT l sl 0))∧w=w':=by
 have HS:=zh hs;have HA:=zh (fun s=>A7 rb bb s l en w h hb);have F:∀args W,Sem.run Tryz.prog (callFunc 196 args) W=.ok (.enter 196 args) W:=fun _ _=>Tryz.call196 _ _;clear hs h hb;go_enter Tryz.func194,Tryz.ntmps194
 go_wp2_with fail
 go_loopw [8] (fun s8 wr=>∃k:Nat,k≤sl.length∧s8=.int .i64 k∧fT l sl 0=fT l (sl.drop k) k∧w=wr) (fun s8 _=>sl.length-(intOf s8).toNat)
 case atStart=>exact ⟨0,Nat.zero_le _,rfl,rfl,rfl⟩
 case round =>
  obtain ⟨k,hk,rfl,B,rfl⟩:=hrel;have C:=zh B;clear B;by_cases A:k<sl.length
  ·have y0:=HS.o k A
   have HC:=zh (HA.o sl[k])
   have HD:Hd (∀q,atS l 0 sl[k]=q→fT l sl 0=if q then (k:Int) else fT l (sl.drop (k+1)) (k+1)):=zh (fun q hq=>by
     rw [C.o,List.drop_eq_getElem_cons A];show (if atS l 0 sl[k]=true then (k:Int) else _)=_
     rw [hq])
   have D:=zh (HD.o _ rfl);clear HD;generalize atS l 0 sl[k]=q at *;generalize sl[k]=sg at *;go_wp2_with fail
   refine HC.o.mono ?_;rintro e w1 ⟨rfl,rfl⟩
   cases q
   ·go_wp2_with fail
    go_roundw
    case rel=>exact ⟨k+1,by omega,by go_num,D.o,trivial⟩
    case measure=>simp [intOf];omega
   ·go_wp2_with fail
    go_ret
    exact ⟨eL (by rw [D.o];rfl),rfl⟩
  ·have E:k=sl.length:=by omega
   subst E;clear A;go_wp2_with fail
   go_ret
   exact ⟨eL (by rw [C.o,List.drop_length];rfl),rfl⟩
end
section
open Go.RowKit
def iK (en:Int) (O PR:Par Ex) (l:List Tk):List ByteArray→Except (Int×Int) (Ex×List Tk)
 | []=>PR l
 | s :: r=>if atS l 0 s then (match O l.tail with | .error e=>.error e | .ok (x,r)=>.ok (.mk 7 0 s [x] (aQ en l),r)) else iK en O PR l r
theorem vC (en:Int) (O PR:Par Ex) (l:List Tk):iK en O PR l [fU,mF]=(if atS l 0 fU then (O.bind fun x=>okP (.mk 7 0 fU [x] (aQ en l))) l.tail else if atS l 0 mF then (O.bind fun x=>okP (.mk 7 0 mF [x] (aQ en l))) l.tail else PR l):=by
 unfold iK iK iK Par.bind okP;split
 ·cases O l.tail<;>rfl
 ·split
  ·cases O l.tail<;>rfl
  ·rfl
theorem lY {S:Nat→Prop} {b:Nat} {w:World} {op num pos:Int} {text:ByteArray} {s0:Option Addr} {n cap:Nat} {x:Ex} (h:RepEx S w [.int .i64 op,.int .i64 num,.string text,.slice s0 n cap,.int .i64 pos] x) (hb:S b) (hl:w.heap[b]?=some (.cells #[.int .i64 op,.int .i64 num,.string text,.slice s0 n cap,.int .i64 pos] 178 (0,0))) :
    RepExs S w (.slice (some ⟨b,0,none⟩) 1 1) [x]:=by
 refine ⟨fun _=>[.int .i64 op,.int .i64 num,.string text,.slice s0 n cap,.int .i64 pos],⟨some ⟨b,0,none⟩,1,rfl,Nat.le_refl _,by unfold maxLen;omega,fun e=>(by cases e),fun _=>⟨b,0,rfl,hb,af hl,fun i hi j hj=>?_⟩,fun i _=>rfl⟩,fun i hi=>?_⟩
 ·obtain rfl:i=0:=by simp at hi;exact hi
  rcases (show j=0∨j=1∨j=2∨j=3∨j=4 by omega) with rfl | rfl | rfl | rfl | rfl<;>exact aa hl rfl
 ·obtain rfl:i=0:=by simp at hi;exact hi
  exact h
theorem AH (rb:Nat) (d:Int) (hl:0≤d) (hd:d≤32) (en:Int) (O PR:Par Ex) (HO:d+1≤32→cw rb en 193 #[.pointer (some ⟨rb,0,none⟩),.int .i64 (d+1)] O) (H:32<d+1→∀l,O l=.error (42,aQ en l)) (HP:cw rb en 204 #[.pointer (some ⟨rb,0,none⟩),.int .i64 d] PR) :
    cw rb en 193 #[.pointer (some ⟨rb,0,none⟩),.int .i64 d] (fun l=>iK en O PR l [fU,mF]):=by
 intro l w h;have hg:=zh HO;have k:=zh H;have he:=zh HP;have z:=zh h.lt;have h2:Below w.heap.size w (w.alloc (.cells #[.int .i64 0,.int .i64 0,.string ⟨#[]⟩,.slice none 0 0,.int .i64 0] 178)):=ag (Below.refl _ _) _;have HH:=zh (h.on h2);have h1:=ag h2 (.cells #[.string ⟨[45].toArray⟩,.string ⟨[33].toArray⟩] 9);have hh:=zh (h.on h1);have y:=zh (On.of_below h1:On rb w _);have HT:=zh (fun (s:ByteArray) (W:World) (hW:RdAt W rb l en)=>ja rb s l en W hW);have hk:d+1<100:=by omega
 have HD:=zh hd;have g:Hd (∀v,(iK en O PR l [fU,mF]=v)→(fun l=>iK en O PR l [fU,mF]) l=v):=zh (fun v h=>h);clear HO H HP h h2 h1 hd;dsimp only;generalize hR:iK en O PR l [fU,mF]=R at *;have HR:=zh hR;clear hR g;unfold fU mF str at *;go_enter Tryz.func193,Tryz.ntmps193
 go_wp2_with fail
 refine (fK rb l en _ HH.o).mono ?_;rintro e w1 ⟨rfl,rfl⟩;go_wp2_with fail
 generalize V:((w.alloc (.cells #[.int .i64 0,.int .i64 0,.string ⟨#[]⟩,.slice none 0 0,.int .i64 0] 178)).alloc (.cells #[.string ⟨[45].toArray⟩,.string ⟨[33].toArray⟩] 9))=W0 at *;have hn:=zh V;have E:W0.heap[w.heap.size]?=some (.cells #[.int .i64 0,.int .i64 0,.string ⟨#[]⟩,.slice none 0 0,.int .i64 0] 178):=by rw [←V];exact ax _ _ _ _ (aj _ _ _ rfl)
 have N:W0.heap[w.heap.size+1]?=some (.cells #[.string ⟨[45].toArray⟩,.string ⟨[33].toArray⟩] 9):=by rw [←V];exact aj _ _ _ (ah _ _)
 have U:=zh E;have S:=zh N;clear E N V;generalize h4:aQ en l=pl at *;have hf:=zh h4;clear h4;go_loopw [12] (fun s12 wr=>∃j:Nat,j≤2∧s12=.int .i64 j∧R=iK en O PR l (([⟨[45].toArray⟩,⟨[33].toArray⟩]:List ByteArray).drop j)∧RdAt wr rb l en∧On rb W0 wr) (fun s12 _=>2-(intOf s12).toNat)
 case atStart=>exact ⟨0,by omega,rfl,HR.o.symm,hh.o,On.refl _ _⟩
 case round =>
  obtain ⟨j,hj,rfl,h7,h3,L⟩:=hrel;have f:=zh h7;have h9:=zh h3;have Z:=zh L;have K:=zh (show w.heap.size≠rb∧w.heap.size+1≠rb from by have:=z.o;omega);have J:=zh (L.obj K.o.1 U.o);clear h7 h3;by_cases h5:j=2
  ·subst h5
   clear L;go_wp2_with fail
   refine (he.o l _ h9.o).mono ?_;rintro e w2 hp;rcases hp.cases with ⟨er,p,hm,rfl,ho⟩ | ⟨x,r,v,hm,rfl,hv,hr,ho⟩
   ·have HF:=zh (show R=.error (er,p) from f.o.trans hm)
    have u:=zh (y.o.trans (Z.o.trans ho));clear hp hm ho;unfold Pan;go_wp2_with fail
    exact ⟨rfl,PSays.err HF.o u.o⟩
   ·have HF:=zh (show R=.ok (x,r) from f.o.trans hm)
    have u:=zh (y.o.trans (Z.o.trans ho));have hc:=zh hr;have D:=af J.o;have A:=ho.obj (k':=w.heap.size) K.o.1 J.o;obtain ⟨op,num,text,s0,n,cap,pos,rfl,C⟩:=hv;have I:=zh C;have f0:=ae A 0;have f1:=ae A 1;have f2:=ae A 2;have f3:=ae A 3;have f4:=ae A 4;have c0:=aa A (j:=0) rfl;have c1:=aa A (j:=1) rfl;have c2:=aa A (j:=2) rfl;have c3:=aa A (j:=3) rfl;have c4:=aa A (j:=4) rfl;clear hp hm ho hr C A;go_wp2_with fail
    have B:On w.heap.size w2 (set5 w2 w.heap.size (.int .i64 op) (.int .i64 num) (.string text) (.slice s0 n cap) (.int .i64 pos)):=(On.refl _ _).set5 _ _ _ _ _;have i:=hc.o.off B z.o;have m:=u.o.new B (Nat.le_refl _);have c:=I.o.keep (Stays.of_on B D);refine bodyPost_ret (v:=.agg #[.int .i64 op,.int .i64 num,.string text,.slice s0 n cap,.int .i64 pos]) (by simp [results,Tryz.results193,go_sem,c0,c1,c2,c3,c4]) rfl ?_;exact PSays.ok HF.o ⟨_,_,_,_,_,_,_,rfl,c.down (Nat.le_of_lt D)⟩ i m
  ·obtain ⟨sg,y0,F⟩:∃sg,wr.cell? ⟨w.heap.size+1,j,none⟩=some (.string sg)∧(([⟨[45].toArray⟩,⟨[33].toArray⟩]:List ByteArray).drop j)=sg :: (([⟨[45].toArray⟩,⟨[33].toArray⟩]:List ByteArray).drop (j+1)):=by
     rcases (show j=0∨j=1 by omega) with rfl | rfl
     ·exact ⟨_,aa (L.obj K.o.2 S.o) rfl,rfl⟩
     ·exact ⟨_,aa (L.obj K.o.2 S.o) rfl,rfl⟩
   have hi:j<2:=by omega
   have h8:Hd (∀q,atS l 0 sg=q→R=if q then (match O l.tail with | .error e=>.error e | .ok (x,r)=>.ok (.mk 7 0 sg [x] (aQ en l),r)) else iK en O PR l (([⟨[45].toArray⟩,⟨[33].toArray⟩]:List ByteArray).drop (j+1))):=zh (fun q hq=>by
     rw [f.o,F,←hq];rfl)
   clear F L h5 hj;have X:=zh (HT.o sg wr h9.o)
   cases hq:atS l 0 sg
   ·rw [hq] at X
    have T:=zh (h8.o _ hq);clear hq;go_wp2_with fail
    refine X.o.mono ?_;rintro e w2 ⟨rfl,P,M⟩;have Y:=zh P;have H:=zh (Z.o.trans M);clear P M;go_wp2_with fail
    go_roundw
    case rel=>exact ⟨j+1,by omega,by go_num,by simpa using T.o,Y.o,H.o⟩
    case measure=>simp [intOf];omega
   ·rw [hq] at X
    have T:=zh (h8.o _ hq);clear hq;go_wp2_with fail
    refine X.o.mono ?_;rintro e w2 ⟨rfl,P,M⟩;have Y:=zh P;have H:=zh (y.o.trans (Z.o.trans M));have G:=zh (M.obj K.o.1 J.o);clear P M y0;by_cases h6:d+1≤32
    ·go_wp2_with fail
     refine (pB rb _ _ h6).mono ?_;rintro e w3 ⟨rfl,rfl⟩;go_wp2_with fail
     refine (hg.o h6 l.tail _ Y.o).mono ?_;rintro e w3 hp;rcases hp.cases with ⟨er,p,hm,rfl,ho⟩ | ⟨x,r,v,hm,rfl,hv,hr,ho⟩
     ·have HF:=zh (show R=.error (er,p) from by rw [T.o,hm];rfl)
      have t:=zh (H.o.trans ho);clear hp hm ho;unfold Pan;go_wp2_with fail
      exact ⟨rfl,PSays.err HF.o t.o⟩
     ·have HF:=zh (show R=.ok (.mk 7 0 sg [x] pl,r) from by rw [T.o,hm,hf.o];rfl)
      have t:=zh (H.o.trans ho);have hb:=zh hr;have D:=af G.o;have a:=ho.size;obtain ⟨op,num,text,s0,n,cap,pos,rfl,C⟩:=hv;have I:=zh C;have b:Below w3.heap.size w3 (w3.alloc (.cells #[.int .i64 op,.int .i64 num,.string text,.slice s0 n cap,.int .i64 pos] 178)):=ag (Below.refl _ _) _;have h0:=zh b;have A:=(On.of_below b:On rb w3 _).obj K.o.1 (ho.obj (k':=w.heap.size) K.o.1 G.o);have f0:=ae A 0;have f1:=ae A 1;have f2:=ae A 2;have f3:=ae A 3;have f4:=ae A 4;have c0:=aa A (j:=0) rfl;have c1:=aa A (j:=1) rfl;have c2:=aa A (j:=2) rfl;have c3:=aa A (j:=3) rfl;have c4:=aa A (j:=4) rfl;clear hp hm ho hr C A b;go_wp2_with fail
      have B:On w.heap.size (w3.alloc (.cells #[.int .i64 op,.int .i64 num,.string text,.slice s0 n cap,.int .i64 pos] 178)) (set5 (w3.alloc (.cells #[.int .i64 op,.int .i64 num,.string text,.slice s0 n cap,.int .i64 pos] 178)) w.heap.size (.int .i64 7) (.int .i64 0) (.string sg) (.slice (some ⟨w3.heap.size,0,none⟩) 1 1) (.int .i64 pl)):=(On.refl _ _).set5 _ _ _ _ _;have i:=(hb.o.on h0.o).off B z.o;have m:=(t.o.trans (On.of_below h0.o)).new B (Nat.le_refl _);have c:=I.o.keep ((Stays.of_below h0.o).trans (Stays.of_on B D));have ha:=RepEx.of (op:=7) (num:=0) (pos:=pl) (text:=sg) (lY c a (B.obj (by omega) (aj _ _ _ rfl)));refine bodyPost_ret (v:=.agg #[.int .i64 7,.int .i64 0,.string sg,.slice (some ⟨w3.heap.size,0,none⟩) 1 1,.int .i64 pl]) (by simp [results,Tryz.results193,go_sem,c0,c1,c2,c3,c4]) rfl ?_;exact PSays.ok HF.o ⟨_,_,_,_,_,_,_,rfl,ha.down (Nat.le_of_lt D)⟩ i m
    ·have Q:32<d+1:=by omega
     go_wp2_with fail
     refine (pV rb l.tail en _ _ Y.o Q).mono ?_;rintro e w3 ⟨rfl,rfl⟩;have HF:=zh (show R=.error (42,aQ en l.tail) from by rw [T.o,k.o Q l.tail];rfl);unfold Pan;go_wp2_with fail
     exact ⟨rfl,PSays.err HF.o H.o⟩
end
section
open Go.RowKit
theorem tq (rb:Nat) (d en:Int) (P:Par Ex) (HE:cw rb en 193 #[.pointer (some ⟨rb,0,none⟩),.int .i64 d] P):cw rb en 172 #[.pointer (some ⟨rb,0,none⟩),.int .i64 5,.int .i64 d] P:=by
 intro l w h;have N:=zh HE;have I:=zh h.lt;have F:Below w.heap.size w ((w.alloc (.cells #[.pointer (some ⟨rb,0,none⟩)] 108)).alloc (.cells #[.int .i64 0,.int .i64 0,.string ⟨#[]⟩,.slice none 0 0,.int .i64 0] 178)):=ag (ag (Below.refl _ _) _) _;have HH:=zh (h.on F);have H:=zh (On.of_below F:On rb w _);clear HE h F;go_enter Tryz.func172,Tryz.ntmps172
 go_wp2_with fail
 refine (N.o l _ HH.o).mono ?_;rintro e w2 hp;rcases hp.cases with ⟨er,p,hm,rfl,ho⟩ | ⟨x,r,v,hm,rfl,hv,hr,ho⟩
 ·have HF:=zh hm
  have E:=zh (H.o.trans ho);clear hp hm ho;unfold Pan;go_wp2_with fail
  exact ⟨rfl,PSays.err HF.o E.o⟩
 ·have HF:=zh hm
  have E:=zh (H.o.trans ho);have L:=zh hr;have A:=ho.obj (k':=w.heap.size+1) (o:=.cells #[.int .i64 0,.int .i64 0,.string ⟨#[]⟩,.slice none 0 0,.int .i64 0] 178) (by have:=I.o;omega) (aj _ _ _ (ah _ _));have G:w.heap.size+1+1=((w.alloc (.cells #[.pointer (some ⟨rb,0,none⟩)] 108)).alloc (.cells #[.int .i64 0,.int .i64 0,.string ⟨#[]⟩,.slice none 0 0,.int .i64 0] 178)).heap.size:=by rw [ah,ah]
  rw [←G] at hv;obtain ⟨op,num,text,s0,n,cap,pos,rfl,B⟩:=hv;have C:=zh B;have f0:=ae A 0;have f1:=ae A 1;have f2:=ae A 2;have f3:=ae A 3;have f4:=ae A 4;have c0:=aa A (j:=0) rfl;have c1:=aa A (j:=1) rfl;have c2:=aa A (j:=2) rfl;have c3:=aa A (j:=3) rfl;have c4:=aa A (j:=4) rfl;clear hp hm ho hr B A G;go_wp2_with fail
  have D:On (w.heap.size+1) w2 (set5 w2 (w.heap.size+1) (.int .i64 op) (.int .i64 num) (.string text) (.slice s0 n cap) (.int .i64 pos)):=(On.refl _ _).set5 _ _ _ _ _;have K:=L.o.off D (Nat.lt_succ_of_lt I.o);have M:=E.o.new D (Nat.le_succ _);have J:=C.o.keep (Stays.of_on D (Nat.lt_succ_self _));refine bodyPost_ret (v:=.agg #[.int .i64 op,.int .i64 num,.string text,.slice s0 n cap,.int .i64 pos]) (by simp [results,Tryz.results172,go_sem,c0,c1,c2,c3,c4]) rfl ?_;exact PSays.ok HF.o ⟨_,_,_,_,_,_,_,rfl,J.down (by omega)⟩ K M
end
section
open Go.RowKit
theorem nJ {w:World} {k:Nat} {a b c d e a' b' c' d' e':Value} {t:TypeId} (h:w.heap[k]?=some (.cells #[a,b,c,d,e] t (0,0))):(set5 w k a' b' c' d' e').heap[k]?=some (.cells #[a',b',c',d',e'] t (0,0)):=
 au (au (au (au (au h 0 a') 1 b') 2 c') 3 d') 4 e'
theorem pR {S:Nat→Prop} {b:Nat} {w:World} {op num pos E C B:Int} {text A:ByteArray} {s0 s2:Option Addr} {n cap n2 D:Nat} {x y:Ex} (h:RepEx S w [.int .i64 op,.int .i64 num,.string text,.slice s0 n cap,.int .i64 pos] x)
    (h2:RepEx S w [.int .i64 E,.int .i64 C,.string A,.slice s2 n2 D,.int .i64 B] y) (hb:S b) (hl:w.heap[b]?=some (.cells #[.int .i64 op,.int .i64 num,.string text,.slice s0 n cap,.int .i64 pos,.int .i64 E,.int .i64 C,.string A,.slice s2 n2 D,.int .i64 B] 178 (0,0))) :
    RepExs S w (.slice (some ⟨b,0,none⟩) 2 2) [x,y]:=by
 refine ⟨fun i=>if i=0 then [.int .i64 op,.int .i64 num,.string text,.slice s0 n cap,.int .i64 pos] else [.int .i64 E,.int .i64 C,.string A,.slice s2 n2 D,.int .i64 B],⟨some ⟨b,0,none⟩,2,rfl,Nat.le_refl _,by unfold maxLen;omega,fun e=>(by cases e),fun _=>⟨b,0,rfl,hb,af hl,fun i hi j hj=>?_⟩,fun i _=>?_⟩,fun i hi=>?_⟩
 ·have F:i<2:=hi
  rcases (show i=0∨i=1 by omega) with rfl | rfl<;>rcases (show j=0∨j=1∨j=2∨j=3∨j=4 by omega) with rfl | rfl | rfl | rfl | rfl<;>exact aa hl rfl
 ·dsimp only
  split<;>rfl
 ·have F:i<2:=hi
  rcases (show i=0∨i=1 by omega) with rfl | rfl
  ·exact h
  ·exact h2
end
end
section
open Go.RowKit
def PSaysT {α:Type} (rb:Nat) (en:Int) (T:Nat→Prop) (w:World) (R:World→α→Value→Prop) (r:Except (Int×Int) (α×List Tk)) (e:Ending) (w':World):Prop:=
 (match r with
  | .error (er,p)=>e=Pan er p
  | .ok (x,l)=>∃v,e=.returned v∧R w' x v∧RdAt w' rb l en)∧OnS T w w'
theorem PSaysT.cases {α:Type} {rb:Nat} {en:Int} {T:Nat→Prop} {w w':World} {R:World→α→Value→Prop} {r:Except (Int×Int) (α×List Tk)} {e:Ending} (h:PSaysT rb en T w R r e w') :
    (∃er p,r=.error (er,p)∧e=Pan er p∧OnS T w w')∨(∃x l v,r=.ok (x,l)∧e=.returned v∧R w' x v∧RdAt w' rb l en∧OnS T w w'):=by
 obtain ⟨h,ho⟩:=h
 cases r with
 | error q =>
  obtain ⟨er,p⟩:=q;exact .inl ⟨er,p,rfl,h,ho⟩
 | ok q =>
  obtain ⟨x,l⟩:=q;obtain ⟨v,h1,h2,h3⟩:=h;exact .inr ⟨x,l,v,rfl,h1,h2,h3,ho⟩
theorem PSaysT.err {α:Type} {rb:Nat} {en:Int} {T:Nat→Prop} {w w':World} {R:World→α→Value→Prop} {r:Except (Int×Int) (α×List Tk)} {er p:Int} (hr:r=.error (er,p)) (ho:OnS T w w'):PSaysT rb en T w R r (Pan er p) w':=by
 subst hr;exact ⟨rfl,ho⟩
theorem PSaysT.ok {α:Type} {rb:Nat} {en:Int} {T:Nat→Prop} {w w':World} {R:World→α→Value→Prop} {r:Except (Int×Int) (α×List Tk)} {x:α} {l:List Tk} {v:Value} (hr:r=.ok (x,l)) (hR:R w' x v) (A:RdAt w' rb l en) (ho:OnS T w w'):PSaysT rb en T w R r (.returned v) w':=by
 subst hr;exact ⟨⟨v,rfl,hR,A⟩,ho⟩
end
section
open Go.RowKit
theorem lP {l:List Tk}:∀(sl:List ByteArray) (i:Nat),sl.find? (fun s=>atS l 0 s)=none→fT l sl i=-1
 | [],_,_=>rfl
 | s :: r,i,h=>by
  rw [List.find?_cons] at h;unfold fT
  cases hq:atS l 0 s
  ·rw [hq] at h
   rw [if_neg (by decide)];exact lP r (i+1) h
  ·rw [hq] at h
   cases h
theorem jc {l:List Tk} {s:ByteArray}:∀(sl:List ByteArray) (i:Nat),sl.find? (fun s=>atS l 0 s)=some s→∃k,sl[k]?=some s∧fT l sl i=((i+k:Nat):Int)∧atS l 0 s=true
 | [],_,h=>by cases h
 | t :: r,i,h=>by
  rw [List.find?_cons] at h;unfold fT
  cases hq:atS l 0 t
  ·rw [hq] at h
   obtain ⟨k,h1,h2,h3⟩:=jc r (i+1) h;refine ⟨k+1,by simpa using h1,?_,h3⟩;rw [if_neg (by decide),h2];congr 1
   omega
  ·rw [hq] at h
   injection h with h
   subst h;exact ⟨0,rfl,by simp,hq⟩
theorem kf (en:Int) (n:Nat) (N:Par Ex) (f:Nat) (x:Ex) (l:List Tk):eo en n N (f+1) x l=(match (bO n).find? (fun s=>atS l 0 s) with
    | none=>.ok (x,l)
    | some s=>(N.bind fun y=>if n=2 then okP (.mk 6 0 s [x,y] (aQ en l)) else eo en n N f (.mk 6 0 s [x,y] (aQ en l))) l.tail):=rfl
theorem uo {l:List Tk} {s:ByteArray} (h:atS l 0 s=true):l.tail.length+1=l.length:=by
 cases l with
 | nil=>rw [l8] at h;cases h
 | cons t r=>rfl
theorem jQ {n i:Nat} {s:ByteArray} (h:(bO n)[i]?=some s):(bD n)[i]?=some (.string s):=by
 unfold bD;simp [h]
theorem jv (n:Nat):(bO n).length≤6:=by
 match n with
 | 0=>decide
 | 1=>decide
 | 2=>decide
 | 3=>decide
 | n+4=>show 3≤6;decide
theorem RowOf.lies {S:Nat→Prop} {w:World} {v:Value} {sz n:Nat} {cs:Nat→List Value} (h:RowOf S w v sz n cs):RowOf (fun b=>S b∧b<w.heap.size) w v sz n cs:=by
 obtain ⟨s0,cap,h1,h2,h3,h4,h5,h6⟩:=h;refine ⟨s0,cap,h1,h2,h3,h4,fun h0=>?_,h6⟩;obtain ⟨b,off,e,A,hl,hc⟩:=h5 h0;exact ⟨b,off,e,⟨A,hl⟩,hl,hc⟩
theorem RepEx.lies {S:Nat→Prop} {w:World} {cs:List Value} {x:Ex} (h:RepEx S w cs x):RepEx (fun b=>S b∧b<w.heap.size) w cs x:=by
 induction h with
 | mk cs hr _ ih=>exact .mk cs hr.lies ih
theorem gR (rb n:Nat) (hn:n≤4) (d en:Int) (N:Par Ex) (HN:cw rb en 172 #[.pointer (some ⟨rb,0,none⟩),.int .i64 ((n:Int)+1),.int .i64 d] N) (hN:∀l x r,N l=.ok (x,r)→r.length≤l.length) :
    cw rb en 172 #[.pointer (some ⟨rb,0,none⟩),.int .i64 n,.int .i64 d] (fun l=>(N.bind fun x r=>eo en n N (r.length+1) x r) l):=by
 intro l w h;have H6:=zh HN;have Hn:=zh hN;have U:=zh h.lt;have H9:Below w.heap.size w ((w.alloc (.cells #[.pointer (some ⟨rb,0,none⟩)] 108)).alloc (.cells #[.int .i64 0,.int .i64 0,.string ⟨#[]⟩,.slice none 0 0,.int .i64 0] 178)):=ag (ag (Below.refl _ _) _) _;have HH:=zh (h.on H9);have Hm:=zh (On.of_below H9:On rb w _);have HB:((n:Int)==5)=false:=by simp;omega
 have Hz:(n:Int)≤4:=by omega
 have HM:Hd (∀v,N l=v→(fun l=>(N.bind fun x r=>eo en n N (r.length+1) x r) l) l=(match v with | .error e=>.error e | .ok (x,r)=>eo en n N (r.length+1) x r)):=zh (fun v hv=>by
   show Par.bind N _ l=_
   unfold Par.bind;rw [hv]
   cases v<;>rfl)
 generalize (fun l=>(N.bind fun x r=>eo en n N (r.length+1) x r) l) l=R at *;clear HN h H9 hN;go_enter Tryz.func172,Tryz.ntmps172
 go_wp2_with fail
 refine (H6.o l _ HH.o).mono ?_;rintro e w2 hp;rcases hp.cases with ⟨er,p,hm,rfl,ho⟩ | ⟨x0,r0,v,hm,rfl,hv,hr,ho⟩
 ·have HF:=zh (HM.o _ hm)
  have hT:=zh (Hm.o.trans ho);clear hp hm ho;unfold Pan;go_wp2_with fail
  exact ⟨rfl,PSays.err HF.o hT.o⟩
 ·have HF:=zh (show R=eo en n N (r0.length+1) x0 r0 from HM.o _ hm)
  have hT:=zh (Hm.o.trans ho);have Hk:=zh hr;have h9:=zh (ho.obj (k':=w.heap.size) (o:=.cells #[.pointer (some ⟨rb,0,none⟩)] 108) (by have:=U.o;omega) (ax _ _ _ _ (aj _ _ _ rfl)));have hM:=zh (ho.obj (k':=w.heap.size+1) (o:=.cells #[.int .i64 0,.int .i64 0,.string ⟨#[]⟩,.slice none 0 0,.int .i64 0] 178) (by have:=U.o;omega) (aj _ _ _ (ah _ _)));have hX:w.heap.size+1+1=((w.alloc (.cells #[.pointer (some ⟨rb,0,none⟩)] 108)).alloc (.cells #[.int .i64 0,.int .i64 0,.string ⟨#[]⟩,.slice none 0 0,.int .i64 0] 178)).heap.size:=by rw [ah,ah]
  have H1:w.heap.size+1+1≤w2.heap.size:=by rw [hX];exact ho.size
  rw [←hX] at hv;obtain ⟨op,num,text,s0,nk,cap,pos,rfl,t⟩:=hv;have V:=zh t;clear hp hm ho hr t hX;go_wp2_with fail
  have hy:Below w2.heap.size w2 (w2.alloc (.cells #[.int .i64 op,.int .i64 num,.string text,.slice s0 nk cap,.int .i64 pos] 178)):=ag (Below.refl _ _) _;have H:=zh (And.intro (Hk.o.on hy) (And.intro (hT.o.trans (On.of_below hy)) (And.intro ((On.of_below hy:On rb w2 _).obj (by have:=U.o;omega) h9.o) (And.intro ((On.of_below hy:On rb w2 _).obj (by have:=U.o;omega) hM.o) (And.intro (aj w2 (.cells #[.int .i64 op,.int .i64 num,.string text,.slice s0 nk cap,.int .i64 pos] 178) _ rfl) ((V.o.lies.mono (S':=fun b=>w.heap.size+1+1≤b∧b≠w2.heap.size) (fun b hb=>⟨hb.1,Nat.ne_of_lt hb.2⟩)).keep (Stays.of_below hy)))))));clear hy V Hk hT h9 hM;generalize Ht:w2.heap.size=XB at *;have O:=zh H1;have H3:=zh (show rb<XB from by have:=U.o;omega);clear Ht;go_loopg [8] (r0.length+1) (fun g s8 wr=>∃(xc:Ex) (lc:List Tk) (op num:Int) (text:ByteArray) (s0:Option Addr) (nk cap:Nat) (pos:Int),R=eo en n N g xc lc∧lc.length<g∧RdAt wr rb lc en∧On rb w wr∧wr.heap[w.heap.size]?=some (.cells #[.pointer (some ⟨rb,0,none⟩)] 108)∧wr.heap[w.heap.size+1]?=some (.cells #[.int .i64 0,.int .i64 0,.string ⟨#[]⟩,.slice none 0 0,.int .i64 0] 178)∧wr.heap[XB]?=some (.cells #[.int .i64 op,.int .i64 num,.string text,.slice s0 nk cap,.int .i64 pos] 178)∧RepEx (fun b=>w.heap.size+1+1≤b∧b≠XB) wr [.int .i64 op,.int .i64 num,.string text,.slice s0 nk cap,.int .i64 pos] xc)
  case atStart=>exact ⟨x0,r0,_,_,_,_,_,_,_,HF.o,Nat.lt_succ_self _,H.o.1,H.o.2.1,H.o.2.2.1,H.o.2.2.2.1,H.o.2.2.2.2.1,H.o.2.2.2.2.2⟩
  case round =>
   clear H HF HM;obtain ⟨xc,lc,op,num,text,s0,nk,cap,pos,hR,Hg,Ha,Hc,hB,a,hx,t⟩:=hrel;obtain ⟨g,rfl⟩:∃g,gk=g+1:=⟨gk-1,by omega⟩
   have hG:=zh Ha;have Hl:=zh Hc;have h9:=zh hB;have hM:=zh a;have HX:=zh hx;have V:=zh t;have Hj:=zh hR;have H7:=zh Hg;have HS:=zh (wk n hn);clear Ha Hc hB a hx t hR Hg;have hw:Below wr.heap.size wr (wr.alloc (.cells (bD n) 9)):=ag (Below.refl _ _) _;have HI:=zh (vI rb w.heap.size wr.heap.size (bO n) (jv n) lc en _ (hG.o.on hw) (aa ((hw.block _ (af h9.o)).trans h9.o) rfl) (fun i hi=>aA _ _ _ _ _ _ rfl (jQ (List.getElem?_eq_getElem hi))));have m:=zh hw;clear hw
   cases hf:(bO n).find? (fun s=>atS lc 0 s) with
   | none =>
    have hA:=lP (bO n) 0 hf;rw [hA] at HI
    have HF:Hd (R=.ok (xc,lc)):=zh (by
      rw [Hj.o];unfold eo;simp only [hf])
    clear hf hA;go_wp2_with fail
    refine (HS.o _).mono ?_;rintro e w3 ⟨rfl,rfl⟩;go_wp2_with fail
    refine HI.o.mono ?_;rintro e w3 ⟨rfl,rfl⟩;have hx:=ax wr _ (.cells (bD n) 9) _ HX.o;have a:=ax wr _ (.cells (bD n) 9) _ hM.o;have x0:=aa hx (j:=0) rfl;have x1:=aa hx (j:=1) rfl;have x2:=aa hx (j:=2) rfl;have x3:=aa hx (j:=3) rfl;have x4:=aa hx (j:=4) rfl;have f0:=ae a 0;have f1:=ae a 1;have f2:=ae a 2;have f3:=ae a 3;have f4:=ae a 4;have c0:=aa a (j:=0) rfl;have c1:=aa a (j:=1) rfl;have c2:=aa a (j:=2) rfl;have c3:=aa a (j:=3) rfl;have c4:=aa a (j:=4) rfl;clear hx a;go_wp2_with fail
    have hk:On (w.heap.size+1) (wr.alloc (.cells (bD n) 9)) (set5 (wr.alloc (.cells (bD n) 9)) (w.heap.size+1) (.int .i64 op) (.int .i64 num) (.string text) (.slice s0 nk cap) (.int .i64 pos)):=(On.refl _ _).set5 _ _ _ _ _;have hQ:=(hG.o.on m.o).off hk (Nat.lt_succ_of_lt U.o);have hl:=(Hl.o.trans (On.of_below m.o)).new hk (Nat.le_succ _);have hE:=V.o.keep ((Stays.of_below m.o).trans (Stays.of_ne hk (fun h=>by have:=h.1;omega)));refine bodyPost_ret (v:=.agg #[.int .i64 op,.int .i64 num,.string text,.slice s0 nk cap,.int .i64 pos]) (by simp [results,Tryz.results172,go_sem,c0,c1,c2,c3,c4]) rfl ?_;exact PSays.ok HF.o ⟨_,_,_,_,_,_,_,rfl,hE.mono (fun b hb=>Nat.le_trans (by omega) hb.1)⟩ hQ hl
   | some s =>
    obtain ⟨ix,f,hz,hh⟩:=jc (bO n) 0 hf;have Hs:ix<(bO n).length:=(List.getElem?_eq_some_iff.1 f).1;have hA:fT lc (bO n) 0=(ix:Int):=by rw [hz,Nat.zero_add]
    have HC:=jv n;rw [hA] at HI
    have HF:Hd (∀v,N lc.tail=v→R=(match v with | .error e=>.error e | .ok (y,r)=>if n=2 then .ok (.mk 6 0 s [xc,y] (aQ en lc),r) else eo en n N g (.mk 6 0 s [xc,y] (aQ en lc)) r)):=zh (fun v hv=>by
      rw [Hj.o,kf,hf];dsimp only;unfold Par.bind;rw [hv]
      cases v with
      | error e=>rfl
      | ok q =>
        dsimp only;split<;>rfl)
    have Hx:Hd (bh en s lc=.ok ((),lc.tail)):=zh (by unfold bh;rw [if_pos hh]);have ht:=zh (uo hh);have H8:=zh (jQ f);have hB:=ax wr _ (.cells (bD n) 9) _ h9.o;have b0:=aa hB (j:=0) rfl;have H4:=zh (fK rb lc en _ (hG.o.on m.o));clear hf hA hz hh f hB;generalize Hr:aQ en lc=pl at *;generalize (bO n).length=sn at *;clear Hr;go_wp2_with fail
    refine (HS.o _).mono ?_;rintro e w3 ⟨rfl,rfl⟩;go_wp2_with fail
    refine HI.o.mono ?_;rintro e w3 ⟨rfl,rfl⟩;go_wp2_with fail
    refine H4.o.mono ?_;rintro e w3 ⟨rfl,rfl⟩;go_wp2_with fail
    have f:=H8.o;have hw:=(hG.o.on m.o)
    have Hw:=zh (fun (W:World) (sb:Nat) (hW:Below wr.heap.size wr W) (hs:W.cell? ⟨sb,0,none⟩=some (.string s))=>Hx.o▸aW rb sb s lc en W (hG.o.on hW) hs);have hI:=zh (fun (W:World) (hW:Below wr.heap.size wr W)=>(bg hW _ 0 (af h9.o)).trans (aa h9.o (j:=0) rfl));have HA:=U.o;clear hw;refine ay (S:=(fun w'=>w'.cell? ⟨w.heap.size,0,none⟩=some (.pointer (some ⟨rb,0,none⟩)))) 7 (by kernel_rfl) (by kernel_rfl) (by (first | exact q0 | (exact hI.o _ (by repeat (first | exact m.o | refine aw ?_ | refine ag ?_ _))) | go_keep)) (fun hH=>?_);simp only [List.take_succ_cons,List.take_zero,List.drop_succ_cons,List.drop_zero]
    refine tkA 0 ?_;refine tkA 1 ?_;refine tkA 3 ?_;refine rd1 2 fun K hK=>?_
    (go_simp;go_at_call 195;refine (HS.o _).mono ?_;rintro e w3 ⟨rfl,rfl⟩;dsimp only)
    refine hK.out _ _ ?_ (fun hH=>?_)
    ·(try dsimp only);(first | exact q0 | (exact hI.o _ (by repeat (first | exact m.o | refine aw ?_ | refine ag ?_ _))) | go_keep)
    clear hK K;try go_simp
    refine rd1 4 fun K hK=>?_;go_simp;refine hK.out _ _ ?_ (fun hH=>?_)
    ·(try dsimp only);(first | exact q0 | (exact hI.o _ (by repeat (first | exact m.o | refine aw ?_ | refine ag ?_ _))) | go_keep)
    clear hK K;try go_simp
    refine rd1 5 fun K hK=>?_;go_simp;refine hK.out _ _ ?_ (fun hH=>?_)
    ·(try dsimp only);(first | exact q0 | (exact hI.o _ (by repeat (first | exact m.o | refine aw ?_ | refine ag ?_ _))) | go_keep)
    clear hK K;try go_simp
    refine rd1 6 fun K hK=>?_;go_simp;refine hK.out _ _ ?_ (fun hH=>?_)
    ·(try dsimp only);(first | exact q0 | (exact hI.o _ (by repeat (first | exact m.o | refine aw ?_ | refine ag ?_ _))) | go_keep)
    clear hK K;try go_simp
    refine wpAnyH_done (by kernel_rfl) ?_ _;dsimp only [aP];go_wp2_with fail
    refine (Hw.o ((((wr.alloc (.cells (bD n) 9)).alloc (.cells (bD n) 9)).alloc (.cells #[.string s] 9)).drew) (wr.heap.size+1+1) (by repeat (first | exact m.o | refine aw ?_ | refine ag ?_ _)) (show (((wr.alloc (.cells (bD n) 9)).alloc (.cells (bD n) 9)).alloc (.cells #[.string s] 9)).cell? _=_ from aA ((wr.alloc (.cells (bD n) 9)).alloc (.cells (bD n) 9)) #[.string s] 9 _ 0 _ (by rw [ah,ah]) rfl)).mono ?_;rintro e w4 ⟨⟨v,rfl,hv,Hb⟩,He⟩;subst hv;have Hh:Below wr.heap.size wr ((((wr.alloc (.cells (bD n) 9)).alloc (.cells (bD n) 9)).alloc (.cells #[.string s] 9)).drew):=by repeat (first | exact m.o | refine aw ?_ | refine ag ?_ _)
    have hS:=zh ((On.of_below Hh:On rb wr _).trans He);have Hv:=zh Hb;have M:XB≠rb∧w.heap.size≠rb∧w.heap.size+1≠rb:=by have:=U.o;omega
    have he:=hS.o.obj (k':=XB) M.1 HX.o;have H2:=zh he;have hO:=zh (hS.o.obj (k':=w.heap.size) M.2.1 h9.o);have Hq:=zh (hS.o.obj (k':=w.heap.size+1) M.2.2 hM.o);have x0:=aa he (j:=0) rfl;have x1:=aa he (j:=1) rfl;have x2:=aa he (j:=2) rfl;have x3:=aa he (j:=3) rfl;have x4:=aa he (j:=4) rfl;clear Hh Hb He he b0;go_wp2_with fail
    have Hy:IntKind.i64.wrap ((n:Int)+1)=(n:Int)+1:=IntWalk.i64_in _ (by omega);have hg:Below w4.heap.size w4 (w4.alloc (.cells #[.int .i64 op,.int .i64 num,.string text,.slice s0 nk cap,.int .i64 pos] 178)):=ag (Below.refl _ _) _;have k:=zh hg;have z:=zh (aj w4 (.cells #[.int .i64 op,.int .i64 num,.string text,.slice s0 nk cap,.int .i64 pos] 178) _ rfl);generalize Hi:w4.alloc (.cells #[.int .i64 op,.int .i64 num,.string text,.slice s0 nk cap,.int .i64 pos] 178)=W5 at *;have Hu:=zh (show W5.heap.size=w4.heap.size+1 from by rw [←Hi,ah]);have h6:=zh ((hg.block _ (af hO.o)).trans hO.o);have hE:=zh ((hg.block _ (af H2.o)).trans H2.o);have Hp:=zh ((hg.block _ (af Hq.o)).trans Hq.o);have hU:=zh (fun (W:World) (hW:Below W5.heap.size W5 W)=>(show _∧_∧_∧_∧_∧_ from ⟨(bg hW _ 0 (af h6.o)).trans (aa h6.o (j:=0) rfl),(bg hW _ 0 (af z.o)).trans (aa z.o (j:=0) rfl),(bg hW _ 1 (af z.o)).trans (aa z.o (j:=1) rfl),(bg hW _ 2 (af z.o)).trans (aa z.o (j:=2) rfl),(bg hW _ 3 (af z.o)).trans (aa z.o (j:=3) rfl),(bg hW _ 4 (af z.o)).trans (aa z.o (j:=4) rfl)⟩));have hQ:=zh (Hv.o.on hg);have h7:=zh ((On.trans hS.o (On.of_below hg):On rb wr W5));have k:=zh (Below.refl W5.heap.size W5);have hl:=zh (Hl.o.trans h7.o);have hV:=zh (fun (W w':World) (ho:On rb W w') (hW:Below W5.heap.size W5 W)=>(On.of_below hW:On rb W5 W).trans ho);have Ho:=zh (fun (W w':World) (_:On rb W w') (hW:Below W5.heap.size W5 W)=>hU.o W hW);have ha:=zh (af hE.o);have hF:=zh (af H2.o);have Hf:w.heap.size<W5.heap.size∧w4.heap.size<W5.heap.size:=⟨af h6.o,af z.o⟩
    clear hg Hi x0 x1 x2 x3 x4;refine ay (S:=(fun w'=>w'.cell? ⟨w.heap.size,0,none⟩=some (.pointer (some ⟨rb,0,none⟩))∧w'.cell? ⟨w4.heap.size,0,none⟩=some (.int .i64 op)∧w'.cell? ⟨w4.heap.size,1,none⟩=some (.int .i64 num)∧w'.cell? ⟨w4.heap.size,2,none⟩=some (.string text)∧w'.cell? ⟨w4.heap.size,3,none⟩=some (.slice s0 nk cap)∧w'.cell? ⟨w4.heap.size,4,none⟩=some (.int .i64 pos))) 14 (by kernel_rfl) (by kernel_rfl) (by (first | (refine hU.o _ ?_;repeat (first | exact k.o | refine aw ?_ | refine ag ?_ _)) | go_keep)) (fun hH=>?_);simp only [List.take_succ_cons,List.take_zero,List.drop_succ_cons,List.drop_zero]
    refine tkA 0 ?_;refine tkA 2 ?_;refine tkA 5 ?_;refine tkA 6 ?_;refine tkA 7 ?_;refine tkA 8 ?_;refine tkA 9 ?_;refine tkA 12 ?_;refine rd1 1 fun K hK=>?_
    (go_simp;go_at_call 195;refine (HS.o _).mono ?_;rintro e w6 ⟨rfl,rfl⟩;dsimp only)
    refine hK.out _ _ ?_ (fun hH=>?_)
    ·(try dsimp only);(first | (refine hU.o _ ?_;repeat (first | exact k.o | refine aw ?_ | refine ag ?_ _)) | go_keep)
    clear hK K;try go_simp
    refine tkA 3 ?_;refine wpAnyH_ready (rs:=[4,10]) (by kernel_rfl) (by simp) ?_;refine (AllReadyH.cons rfl (fun K hK=>?_) (AllReadyH.cons rfl (fun K hK=>?_) AllReadyH.nil))
    ·go_simp
     refine hK.out _ _ ?_ (fun hH=>?_)
     ·(try dsimp only)
      (first | (refine hU.o _ ?_;repeat (first | exact k.o | refine aw ?_ | refine ag ?_ _)) | go_keep)
     clear hK K;try go_simp
     refine rd1 10 fun K hK=>?_;go_simp;go_at_call 172
     refine (H6.o lc.tail _ ?_).mono ?_
     ·exact hQ.o.on (by repeat (first | exact k.o | refine aw ?_ | refine ag ?_ _))
     rintro e w7 hp;rcases hp.cases with ⟨er,p,hm,rfl,ho⟩ | ⟨y,r7,v7,hm,rfl,hv,hr,ho⟩
     ·have HE:=zh (HF.o _ hm)
      have H5:=zh (hl.o.trans (hV.o _ _ ho (by repeat (first | exact k.o | refine aw ?_ | refine ag ?_ _))));clear hp hm ho;unfold Pan
      (try go_wp2_with fail)
      exact ⟨rfl,PSays.err HE.o H5.o⟩
     ·have HE:=zh (HF.o _ hm)
      have hP:=zh hr;have J:=hV.o _ _ ho (by repeat (first | exact k.o | refine aw ?_ | refine ag ?_ _));have X:=zh J;have h8:=zh (Hn.o _ _ _ hm);have hq:=Ho.o _ _ ho (by repeat (first | exact k.o | refine aw ?_ | refine ag ?_ _));obtain ⟨q0,q1,q2,q3,q4,q5⟩:=hq;have G:w.heap.size≠rb∧w4.heap.size≠rb∧W5.heap.size≠rb:=by have:=U.o;have:=Hf;have:=hF.o;have:=O.o;omega
      replace q0:=ho.cell G.1 q0;replace q1:=ho.cell G.2.1 q1;replace q2:=ho.cell G.2.1 q2;replace q3:=ho.cell G.2.1 q3;replace q4:=ho.cell G.2.1 q4;replace q5:=ho.cell G.2.1 q5;have y5:=ho.cell G.2.2 (show (W5.drew.alloc (.cells (bD n) 9)).cell? ⟨W5.heap.size,ix,none⟩=_ from aA _ _ _ _ _ _ rfl f);have H0:W5.heap.size<w7.heap.size:=az y5;have hj:=zh (J.obj M.1 hE.o);have Y:=zh (J.obj M.2.1 h6.o);have hu:=zh (J.obj M.2.2 Hp.o);obtain ⟨op7,num7,text7,s7,nk7,cap7,pos7,rfl,P⟩:=hv;have c:=zh (P.mono (S':=fun b=>w.heap.size+1+1≤b∧b≠XB) (fun b hb=>by have h1:=ha.o;have h2:=O.o;have h3:W5.heap.size≤b:=Nat.le_trans (show W5.heap.size≤(W5.alloc (.cells (bD n) 9)).drew.heap.size from by show _≤(W5.alloc _).heap.size;rw [ah];exact Nat.le_succ _) hb;exact ⟨by omega,by omega⟩));clear hp hm hr P ho J G;refine hK.out _ _ ?_ (fun hH=>?_)
      ·(try dsimp only)
       (first | exact ⟨q0,q1,q2,q3,q4,q5⟩ | exact ⟨aq _ q0,aq _ q1,aq _ q2,aq _ q3,aq _ q4,aq _ q5⟩)
      clear hK K;try go_simp
      refine rd1 11 fun K hK=>?_;go_simp;refine hK.out _ _ ?_ (fun hH=>?_)
      ·(try dsimp only)
       (first | exact ⟨q0,q1,q2,q3,q4,q5⟩ | exact ⟨aq _ q0,aq _ q1,aq _ q2,aq _ q3,aq _ q4,aq _ q5⟩)
      clear hK K;try go_simp
      refine rd1 13 fun K hK=>?_;go_simp;refine hK.out _ _ ?_ (fun hH=>?_)
      ·(try dsimp only)
       (first | exact ⟨q0,q1,q2,q3,q4,q5⟩ | exact ⟨aq _ q0,aq _ q1,aq _ q2,aq _ q3,aq _ q4,aq _ q5⟩)
      clear hK K;try go_simp
      refine wpAnyH_done (by kernel_rfl) ?_ _;dsimp only [aP];have L:Below w7.heap.size w7 (w7.alloc (.cells #[.int .i64 op,.int .i64 num,.string text,.slice s0 nk cap,.int .i64 pos,.int .i64 op7,.int .i64 num7,.string text7,.slice s7 nk7 cap7,.int .i64 pos7] 178)):=ag (Below.refl _ _) _;have hc:=zh ((L.block _ (af hj.o)).trans hj.o);have h5:=zh ((L.block _ (af Y.o)).trans Y.o);have hd:=zh ((L.block _ (af hu.o)).trans hu.o);have A:On XB (w7.alloc (.cells #[.int .i64 op,.int .i64 num,.string text,.slice s0 nk cap,.int .i64 pos,.int .i64 op7,.int .i64 num7,.string text7,.slice s7 nk7 cap7,.int .i64 pos7] 178)) (set5 (w7.alloc (.cells #[.int .i64 op,.int .i64 num,.string text,.slice s0 nk cap,.int .i64 pos,.int .i64 op7,.int .i64 num7,.string text7,.slice s7 nk7 cap7,.int .i64 pos7] 178)) XB (.int .i64 6) (.int .i64 0) (.string s) (.slice (some ⟨w7.heap.size,0,none⟩) 2 2) (.int .i64 pl)):=(On.refl _ _).set5 _ _ _ _ _;have Q:=zh ((hP.o.on L).off A H3.o);have T:=zh (((hl.o.trans X.o).trans (On.of_below L)).new A (by have:=O.o;omega));have hD:=zh (nJ (a':=.int .i64 6) (b':=.int .i64 0) (c':=.string s) (d':=.slice (some ⟨w7.heap.size,0,none⟩) 2 2) (e':=.int .i64 pl) hc.o);have h4:=zh (A.obj (by have:=O.o;omega) h5.o);have hL:=zh (A.obj (by have:=O.o;omega) hd.o);have E:Stays (fun b=>w.heap.size+1+1≤b∧b≠XB) w7 (set5 (w7.alloc (.cells #[.int .i64 op,.int .i64 num,.string text,.slice s0 nk cap,.int .i64 pos,.int .i64 op7,.int .i64 num7,.string text7,.slice s7 nk7 cap7,.int .i64 pos7] 178)) XB (.int .i64 6) (.int .i64 0) (.string s) (.slice (some ⟨w7.heap.size,0,none⟩) 2 2) (.int .i64 pl)):=(Stays.of_below L).trans (Stays.of_ne A (fun h=>h.2 rfl));have D:Stays (fun b=>w.heap.size+1+1≤b∧b≠XB) wr w7:=Stays.of_ne (h7.o.trans X.o) (fun h=>by have:=U.o;have:=h.1;omega);have I:=zh (RepEx.of (op:=6) (num:=0) (pos:=pl) (text:=s) (pR (V.o.keep (D.trans E)) (c.o.keep E) (b:=w7.heap.size) (by have h1:=ha.o;have h2:=O.o;exact ⟨by omega,by omega⟩) (A.obj (by have h1:=ha.o;omega) (aj _ _ _ rfl))));have C:=hc.o;have B:=hd.o;have e0:=aa C (j:=0) rfl;have e1:=aa C (j:=1) rfl;have e2:=aa C (j:=2) rfl;have e3:=aa C (j:=3) rfl;have e4:=aa C (j:=4) rfl;have g0:=ae C 0;have g1:=ae C 1;have g2:=ae C 2;have g3:=ae C 3;have g4:=ae C 4;have hC:w.heap.size+1<XB:=by have:=O.o;omega
      clear C A E D L;by_cases Z:n=2
      ·have h0:=zh (show R=.ok (.mk 6 0 s [xc,y] pl,r7) from by rw [HE.o];dsimp only;rw [if_pos Z])
       subst Z;have u:(((2:Nat):Int)==2)=true:=by decide
       have f0:=ae B 0;have f1:=ae B 1;have f2:=ae B 2;have f3:=ae B 3;have f4:=ae B 4;have c0:=aa B (j:=0) rfl;have c1:=aa B (j:=1) rfl;have c2:=aa B (j:=2) rfl;have c3:=aa B (j:=3) rfl;have c4:=aa B (j:=4) rfl;clear B;go_wp2_with fail
       have F:On (w.heap.size+1) (set5 (w7.alloc (.cells #[.int .i64 op,.int .i64 num,.string text,.slice s0 nk cap,.int .i64 pos,.int .i64 op7,.int .i64 num7,.string text7,.slice s7 nk7 cap7,.int .i64 pos7] 178)) XB (.int .i64 6) (.int .i64 0) (.string s) (.slice (some ⟨w7.heap.size,0,none⟩) 2 2) (.int .i64 pl)) (set5 (set5 (w7.alloc (.cells #[.int .i64 op,.int .i64 num,.string text,.slice s0 nk cap,.int .i64 pos,.int .i64 op7,.int .i64 num7,.string text7,.slice s7 nk7 cap7,.int .i64 pos7] 178)) XB (.int .i64 6) (.int .i64 0) (.string s) (.slice (some ⟨w7.heap.size,0,none⟩) 2 2) (.int .i64 pl)) (w.heap.size+1) (.int .i64 6) (.int .i64 0) (.string s) (.slice (some ⟨w7.heap.size,0,none⟩) 2 2) (.int .i64 pl)):=(On.refl _ _).set5 _ _ _ _ _;refine bodyPost_ret (v:=.agg #[.int .i64 6,.int .i64 0,.string s,.slice (some ⟨w7.heap.size,0,none⟩) 2 2,.int .i64 pl]) (by simp [results,Tryz.results172,go_sem,c0,c1,c2,c3,c4]) rfl ?_;exact PSays.ok h0.o ⟨_,_,_,_,_,_,_,rfl,(I.o.keep (Stays.of_ne F (fun h=>by have:=h.1;omega))).mono (fun b hb=>Nat.le_trans (by omega) hb.1)⟩ (Q.o.off F (Nat.lt_succ_of_lt U.o)) (T.o.new F (Nat.le_succ _))
      ·have h0:=zh (show R=eo en n N g (.mk 6 0 s [xc,y] pl) r7 from by rw [HE.o];dsimp only;rw [if_neg Z])
       have u:((n:Int)==2)=false:=by simp;omega
       clear Z B;go_wp2_with fail
       go_roundg g
       case rel=>exact ⟨_,r7,_,_,_,_,_,_,_,h0.o,by have:=h8.o;have:=ht.o;have:=H7.o;omega,Q.o,T.o,h4.o,hL.o,hD.o,I.o⟩
       case measure=>omega
    ·go_simp
     go_at_call 172
     refine (H6.o lc.tail _ ?_).mono ?_
     ·exact hQ.o.on (by repeat (first | exact k.o | refine aw ?_ | refine ag ?_ _))
     rintro e w7 hp;rcases hp.cases with ⟨er,p,hm,rfl,ho⟩ | ⟨y,r7,v7,hm,rfl,hv,hr,ho⟩
     ·have HE:=zh (HF.o _ hm)
      have H5:=zh (hl.o.trans (hV.o _ _ ho (by repeat (first | exact k.o | refine aw ?_ | refine ag ?_ _))));clear hp hm ho;unfold Pan
      (try go_wp2_with fail)
      exact ⟨rfl,PSays.err HE.o H5.o⟩
     ·have HE:=zh (HF.o _ hm)
      have hP:=zh hr;have J:=hV.o _ _ ho (by repeat (first | exact k.o | refine aw ?_ | refine ag ?_ _));have X:=zh J;have h8:=zh (Hn.o _ _ _ hm);have hq:=Ho.o _ _ ho (by repeat (first | exact k.o | refine aw ?_ | refine ag ?_ _));obtain ⟨q0,q1,q2,q3,q4,q5⟩:=hq;have G:w.heap.size≠rb∧w4.heap.size≠rb∧W5.heap.size≠rb:=by have:=U.o;have:=Hf;have:=hF.o;have:=O.o;omega
      replace q0:=ho.cell G.1 q0;replace q1:=ho.cell G.2.1 q1;replace q2:=ho.cell G.2.1 q2;replace q3:=ho.cell G.2.1 q3;replace q4:=ho.cell G.2.1 q4;replace q5:=ho.cell G.2.1 q5;have y5:=ho.cell G.2.2 (show (W5.drew.alloc (.cells (bD n) 9)).cell? ⟨W5.heap.size,ix,none⟩=_ from aA _ _ _ _ _ _ rfl f);have H0:W5.heap.size<w7.heap.size:=az y5;have hj:=zh (J.obj M.1 hE.o);have Y:=zh (J.obj M.2.1 h6.o);have hu:=zh (J.obj M.2.2 Hp.o);obtain ⟨op7,num7,text7,s7,nk7,cap7,pos7,rfl,P⟩:=hv;have c:=zh (P.mono (S':=fun b=>w.heap.size+1+1≤b∧b≠XB) (fun b hb=>by have h1:=ha.o;have h2:=O.o;have h3:W5.heap.size≤b:=Nat.le_trans (show W5.heap.size≤(W5.alloc (.cells (bD n) 9)).drew.heap.size from by show _≤(W5.alloc _).heap.size;rw [ah];exact Nat.le_succ _) hb;exact ⟨by omega,by omega⟩));clear hp hm hr P ho J G;refine hK.out _ _ ?_ (fun hH=>?_)
      ·(try dsimp only)
       (first | exact ⟨q0,q1,q2,q3,q4,q5⟩ | exact ⟨aq _ q0,aq _ q1,aq _ q2,aq _ q3,aq _ q4,aq _ q5⟩)
      clear hK K;try go_simp
      refine wpAnyH_ready (rs:=[4,11]) (by kernel_rfl) (by simp) ?_;refine (AllReadyH.cons rfl (fun K hK=>?_) (AllReadyH.cons rfl (fun K hK=>?_) AllReadyH.nil))
      ·go_simp
       refine hK.out _ _ ?_ (fun hH=>?_)
       ·(try dsimp only)
        (first | exact ⟨q0,q1,q2,q3,q4,q5⟩ | exact ⟨aq _ q0,aq _ q1,aq _ q2,aq _ q3,aq _ q4,aq _ q5⟩)
       clear hK K;try go_simp
       refine rd1 11 fun K hK=>?_;go_simp;refine hK.out _ _ ?_ (fun hH=>?_)
       ·(try dsimp only)
        (first | exact ⟨q0,q1,q2,q3,q4,q5⟩ | exact ⟨aq _ q0,aq _ q1,aq _ q2,aq _ q3,aq _ q4,aq _ q5⟩)
       clear hK K;try go_simp
       refine rd1 13 fun K hK=>?_;go_simp;refine hK.out _ _ ?_ (fun hH=>?_)
       ·(try dsimp only)
        (first | exact ⟨q0,q1,q2,q3,q4,q5⟩ | exact ⟨aq _ q0,aq _ q1,aq _ q2,aq _ q3,aq _ q4,aq _ q5⟩)
       clear hK K;try go_simp
       refine wpAnyH_done (by kernel_rfl) ?_ _;dsimp only [aP];have L:Below w7.heap.size w7 (w7.alloc (.cells #[.int .i64 op,.int .i64 num,.string text,.slice s0 nk cap,.int .i64 pos,.int .i64 op7,.int .i64 num7,.string text7,.slice s7 nk7 cap7,.int .i64 pos7] 178)):=ag (Below.refl _ _) _;have hc:=zh ((L.block _ (af hj.o)).trans hj.o);have h5:=zh ((L.block _ (af Y.o)).trans Y.o);have hd:=zh ((L.block _ (af hu.o)).trans hu.o);have A:On XB (w7.alloc (.cells #[.int .i64 op,.int .i64 num,.string text,.slice s0 nk cap,.int .i64 pos,.int .i64 op7,.int .i64 num7,.string text7,.slice s7 nk7 cap7,.int .i64 pos7] 178)) (set5 (w7.alloc (.cells #[.int .i64 op,.int .i64 num,.string text,.slice s0 nk cap,.int .i64 pos,.int .i64 op7,.int .i64 num7,.string text7,.slice s7 nk7 cap7,.int .i64 pos7] 178)) XB (.int .i64 6) (.int .i64 0) (.string s) (.slice (some ⟨w7.heap.size,0,none⟩) 2 2) (.int .i64 pl)):=(On.refl _ _).set5 _ _ _ _ _;have Q:=zh ((hP.o.on L).off A H3.o);have T:=zh (((hl.o.trans X.o).trans (On.of_below L)).new A (by have:=O.o;omega));have hD:=zh (nJ (a':=.int .i64 6) (b':=.int .i64 0) (c':=.string s) (d':=.slice (some ⟨w7.heap.size,0,none⟩) 2 2) (e':=.int .i64 pl) hc.o);have h4:=zh (A.obj (by have:=O.o;omega) h5.o);have hL:=zh (A.obj (by have:=O.o;omega) hd.o);have E:Stays (fun b=>w.heap.size+1+1≤b∧b≠XB) w7 (set5 (w7.alloc (.cells #[.int .i64 op,.int .i64 num,.string text,.slice s0 nk cap,.int .i64 pos,.int .i64 op7,.int .i64 num7,.string text7,.slice s7 nk7 cap7,.int .i64 pos7] 178)) XB (.int .i64 6) (.int .i64 0) (.string s) (.slice (some ⟨w7.heap.size,0,none⟩) 2 2) (.int .i64 pl)):=(Stays.of_below L).trans (Stays.of_ne A (fun h=>h.2 rfl));have D:Stays (fun b=>w.heap.size+1+1≤b∧b≠XB) wr w7:=Stays.of_ne (h7.o.trans X.o) (fun h=>by have:=U.o;have:=h.1;omega);have I:=zh (RepEx.of (op:=6) (num:=0) (pos:=pl) (text:=s) (pR (V.o.keep (D.trans E)) (c.o.keep E) (b:=w7.heap.size) (by have h1:=ha.o;have h2:=O.o;exact ⟨by omega,by omega⟩) (A.obj (by have h1:=ha.o;omega) (aj _ _ _ rfl))));have C:=hc.o;have B:=hd.o;have e0:=aa C (j:=0) rfl;have e1:=aa C (j:=1) rfl;have e2:=aa C (j:=2) rfl;have e3:=aa C (j:=3) rfl;have e4:=aa C (j:=4) rfl;have g0:=ae C 0;have g1:=ae C 1;have g2:=ae C 2;have g3:=ae C 3;have g4:=ae C 4;have hC:w.heap.size+1<XB:=by have:=O.o;omega
       clear C A E D L;by_cases Z:n=2
       ·have h0:=zh (show R=.ok (.mk 6 0 s [xc,y] pl,r7) from by rw [HE.o];dsimp only;rw [if_pos Z])
        subst Z;have u:(((2:Nat):Int)==2)=true:=by decide
        have f0:=ae B 0;have f1:=ae B 1;have f2:=ae B 2;have f3:=ae B 3;have f4:=ae B 4;have c0:=aa B (j:=0) rfl;have c1:=aa B (j:=1) rfl;have c2:=aa B (j:=2) rfl;have c3:=aa B (j:=3) rfl;have c4:=aa B (j:=4) rfl;clear B;go_wp2_with fail
        have F:On (w.heap.size+1) (set5 (w7.alloc (.cells #[.int .i64 op,.int .i64 num,.string text,.slice s0 nk cap,.int .i64 pos,.int .i64 op7,.int .i64 num7,.string text7,.slice s7 nk7 cap7,.int .i64 pos7] 178)) XB (.int .i64 6) (.int .i64 0) (.string s) (.slice (some ⟨w7.heap.size,0,none⟩) 2 2) (.int .i64 pl)) (set5 (set5 (w7.alloc (.cells #[.int .i64 op,.int .i64 num,.string text,.slice s0 nk cap,.int .i64 pos,.int .i64 op7,.int .i64 num7,.string text7,.slice s7 nk7 cap7,.int .i64 pos7] 178)) XB (.int .i64 6) (.int .i64 0) (.string s) (.slice (some ⟨w7.heap.size,0,none⟩) 2 2) (.int .i64 pl)) (w.heap.size+1) (.int .i64 6) (.int .i64 0) (.string s) (.slice (some ⟨w7.heap.size,0,none⟩) 2 2) (.int .i64 pl)):=(On.refl _ _).set5 _ _ _ _ _;refine bodyPost_ret (v:=.agg #[.int .i64 6,.int .i64 0,.string s,.slice (some ⟨w7.heap.size,0,none⟩) 2 2,.int .i64 pl]) (by simp [results,Tryz.results172,go_sem,c0,c1,c2,c3,c4]) rfl ?_;exact PSays.ok h0.o ⟨_,_,_,_,_,_,_,rfl,(I.o.keep (Stays.of_ne F (fun h=>by have:=h.1;omega))).mono (fun b hb=>Nat.le_trans (by omega) hb.1)⟩ (Q.o.off F (Nat.lt_succ_of_lt U.o)) (T.o.new F (Nat.le_succ _))
       ·have h0:=zh (show R=eo en n N g (.mk 6 0 s [xc,y] pl) r7 from by rw [HE.o];dsimp only;rw [if_neg Z])
        have u:((n:Int)==2)=false:=by simp;omega
        clear Z B;go_wp2_with fail
        go_roundg g
        case rel=>exact ⟨_,r7,_,_,_,_,_,_,_,h0.o,by have:=h8.o;have:=ht.o;have:=H7.o;omega,Q.o,T.o,h4.o,hL.o,hD.o,I.o⟩
        case measure=>omega
      ·go_simp
       refine hK.out _ _ ?_ (fun hH=>?_)
       ·(try dsimp only)
        (first | exact ⟨q0,q1,q2,q3,q4,q5⟩ | exact ⟨aq _ q0,aq _ q1,aq _ q2,aq _ q3,aq _ q4,aq _ q5⟩)
       clear hK K;try go_simp
       refine rd1 4 fun K hK=>?_;go_simp;refine hK.out _ _ ?_ (fun hH=>?_)
       ·(try dsimp only)
        (first | exact ⟨q0,q1,q2,q3,q4,q5⟩ | exact ⟨aq _ q0,aq _ q1,aq _ q2,aq _ q3,aq _ q4,aq _ q5⟩)
       clear hK K;try go_simp
       refine rd1 13 fun K hK=>?_;go_simp;refine hK.out _ _ ?_ (fun hH=>?_)
       ·(try dsimp only)
        (first | exact ⟨q0,q1,q2,q3,q4,q5⟩ | exact ⟨aq _ q0,aq _ q1,aq _ q2,aq _ q3,aq _ q4,aq _ q5⟩)
       clear hK K;try go_simp
       refine wpAnyH_done (by kernel_rfl) ?_ _;dsimp only [aP];have L:Below w7.heap.size w7 (w7.alloc (.cells #[.int .i64 op,.int .i64 num,.string text,.slice s0 nk cap,.int .i64 pos,.int .i64 op7,.int .i64 num7,.string text7,.slice s7 nk7 cap7,.int .i64 pos7] 178)):=ag (Below.refl _ _) _;have hc:=zh ((L.block _ (af hj.o)).trans hj.o);have h5:=zh ((L.block _ (af Y.o)).trans Y.o);have hd:=zh ((L.block _ (af hu.o)).trans hu.o);have A:On XB (w7.alloc (.cells #[.int .i64 op,.int .i64 num,.string text,.slice s0 nk cap,.int .i64 pos,.int .i64 op7,.int .i64 num7,.string text7,.slice s7 nk7 cap7,.int .i64 pos7] 178)) (set5 (w7.alloc (.cells #[.int .i64 op,.int .i64 num,.string text,.slice s0 nk cap,.int .i64 pos,.int .i64 op7,.int .i64 num7,.string text7,.slice s7 nk7 cap7,.int .i64 pos7] 178)) XB (.int .i64 6) (.int .i64 0) (.string s) (.slice (some ⟨w7.heap.size,0,none⟩) 2 2) (.int .i64 pl)):=(On.refl _ _).set5 _ _ _ _ _;have Q:=zh ((hP.o.on L).off A H3.o);have T:=zh (((hl.o.trans X.o).trans (On.of_below L)).new A (by have:=O.o;omega));have hD:=zh (nJ (a':=.int .i64 6) (b':=.int .i64 0) (c':=.string s) (d':=.slice (some ⟨w7.heap.size,0,none⟩) 2 2) (e':=.int .i64 pl) hc.o);have h4:=zh (A.obj (by have:=O.o;omega) h5.o);have hL:=zh (A.obj (by have:=O.o;omega) hd.o);have E:Stays (fun b=>w.heap.size+1+1≤b∧b≠XB) w7 (set5 (w7.alloc (.cells #[.int .i64 op,.int .i64 num,.string text,.slice s0 nk cap,.int .i64 pos,.int .i64 op7,.int .i64 num7,.string text7,.slice s7 nk7 cap7,.int .i64 pos7] 178)) XB (.int .i64 6) (.int .i64 0) (.string s) (.slice (some ⟨w7.heap.size,0,none⟩) 2 2) (.int .i64 pl)):=(Stays.of_below L).trans (Stays.of_ne A (fun h=>h.2 rfl));have D:Stays (fun b=>w.heap.size+1+1≤b∧b≠XB) wr w7:=Stays.of_ne (h7.o.trans X.o) (fun h=>by have:=U.o;have:=h.1;omega);have I:=zh (RepEx.of (op:=6) (num:=0) (pos:=pl) (text:=s) (pR (V.o.keep (D.trans E)) (c.o.keep E) (b:=w7.heap.size) (by have h1:=ha.o;have h2:=O.o;exact ⟨by omega,by omega⟩) (A.obj (by have h1:=ha.o;omega) (aj _ _ _ rfl))));have C:=hc.o;have B:=hd.o;have e0:=aa C (j:=0) rfl;have e1:=aa C (j:=1) rfl;have e2:=aa C (j:=2) rfl;have e3:=aa C (j:=3) rfl;have e4:=aa C (j:=4) rfl;have g0:=ae C 0;have g1:=ae C 1;have g2:=ae C 2;have g3:=ae C 3;have g4:=ae C 4;have hC:w.heap.size+1<XB:=by have:=O.o;omega
       clear C A E D L;by_cases Z:n=2
       ·have h0:=zh (show R=.ok (.mk 6 0 s [xc,y] pl,r7) from by rw [HE.o];dsimp only;rw [if_pos Z])
        subst Z;have u:(((2:Nat):Int)==2)=true:=by decide
        have f0:=ae B 0;have f1:=ae B 1;have f2:=ae B 2;have f3:=ae B 3;have f4:=ae B 4;have c0:=aa B (j:=0) rfl;have c1:=aa B (j:=1) rfl;have c2:=aa B (j:=2) rfl;have c3:=aa B (j:=3) rfl;have c4:=aa B (j:=4) rfl;clear B;go_wp2_with fail
        have F:On (w.heap.size+1) (set5 (w7.alloc (.cells #[.int .i64 op,.int .i64 num,.string text,.slice s0 nk cap,.int .i64 pos,.int .i64 op7,.int .i64 num7,.string text7,.slice s7 nk7 cap7,.int .i64 pos7] 178)) XB (.int .i64 6) (.int .i64 0) (.string s) (.slice (some ⟨w7.heap.size,0,none⟩) 2 2) (.int .i64 pl)) (set5 (set5 (w7.alloc (.cells #[.int .i64 op,.int .i64 num,.string text,.slice s0 nk cap,.int .i64 pos,.int .i64 op7,.int .i64 num7,.string text7,.slice s7 nk7 cap7,.int .i64 pos7] 178)) XB (.int .i64 6) (.int .i64 0) (.string s) (.slice (some ⟨w7.heap.size,0,none⟩) 2 2) (.int .i64 pl)) (w.heap.size+1) (.int .i64 6) (.int .i64 0) (.string s) (.slice (some ⟨w7.heap.size,0,none⟩) 2 2) (.int .i64 pl)):=(On.refl _ _).set5 _ _ _ _ _;refine bodyPost_ret (v:=.agg #[.int .i64 6,.int .i64 0,.string s,.slice (some ⟨w7.heap.size,0,none⟩) 2 2,.int .i64 pl]) (by simp [results,Tryz.results172,go_sem,c0,c1,c2,c3,c4]) rfl ?_;exact PSays.ok h0.o ⟨_,_,_,_,_,_,_,rfl,(I.o.keep (Stays.of_ne F (fun h=>by have:=h.1;omega))).mono (fun b hb=>Nat.le_trans (by omega) hb.1)⟩ (Q.o.off F (Nat.lt_succ_of_lt U.o)) (T.o.new F (Nat.le_succ _))
       ·have h0:=zh (show R=eo en n N g (.mk 6 0 s [xc,y] pl) r7 from by rw [HE.o];dsimp only;rw [if_neg Z])
        have u:((n:Int)==2)=false:=by simp;omega
        clear Z B;go_wp2_with fail
        go_roundg g
        case rel=>exact ⟨_,r7,_,_,_,_,_,_,_,h0.o,by have:=h8.o;have:=ht.o;have:=H7.o;omega,Q.o,T.o,h4.o,hL.o,hD.o,I.o⟩
        case measure=>omega
end
end Go.Proofs.YthgcpfkochikfaaGreat
