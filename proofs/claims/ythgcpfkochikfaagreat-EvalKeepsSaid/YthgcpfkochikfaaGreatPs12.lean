/-
  EvalSigns: part 12 of its proof: see the last text.
-/
import Derived.Test.YthgcpfkochikfaaGreatPs11
import Derived.Test.YthgcpfkochikfaaGreatPs01
set_option maxRecDepth 100000
set_option maxHeartbeats 16000000
namespace Go.Proofs.YthgcpfkochikfaaGreat
section
open Go.RowKit
theorem PSays.cases {α:Type} {rb:Nat} {en:Int} {w w':World} {R:World→α→Value→Prop} {r:Except (Int×Int) (α×List Tk)} {e:Ending} (h:PSays rb en w R r e w') :
    (∃er p,r=.error (er,p)∧e=Pan er p∧On rb w w')∨(∃x l v,r=.ok (x,l)∧e=.returned v∧R w' x v∧RdAt w' rb l en∧On rb w w'):=by
 obtain ⟨h,ho⟩:=h
 cases r with
 | error q =>
  obtain ⟨er,p⟩:=q;exact .inl ⟨er,p,rfl,h,ho⟩
 | ok q =>
  obtain ⟨x,l⟩:=q;obtain ⟨v,h1,h2,h3⟩:=h;exact .inr ⟨x,l,v,rfl,h1,h2,h3,ho⟩
theorem PSays.err {α:Type} {rb:Nat} {en:Int} {w w':World} {R:World→α→Value→Prop} {r:Except (Int×Int) (α×List Tk)} {er p:Int} (hr:r=.error (er,p)) (ho:On rb w w'):PSays rb en w R r (Pan er p) w':=by
 subst hr;exact ⟨rfl,ho⟩
theorem PSays.ok {α:Type} {rb:Nat} {en:Int} {w w':World} {R:World→α→Value→Prop} {r:Except (Int×Int) (α×List Tk)} {x:α} {l:List Tk} {v:Value} (hr:r=.ok (x,l)) (hR:R w' x v) (A:RdAt w' rb l en) (ho:On rb w w'):PSays rb en w R r (.returned v) w':=by
 subst hr;exact ⟨⟨v,rfl,hR,A⟩,ho⟩
theorem uu (rb:Nat) (l:List Tk) (en:Int) (w:World) (h:RdAt w rb l en) :
    Calls Tryz.prog 75 #[.pointer (some ⟨rb,0,none⟩)] w (PSays rb en w (fun _ t v=>v=.int .i64 t) (lr en l)):=by
 have HT:=zh (fun (s:ByteArray) (W:World) (hW:RdAt W rb l en)=>jv rb s l en W hW);have HH:=zh h
 have HM:Hd (∀a b,atS l 0 qH=a→atS l 0 nL=b→lr en l=if a then .ok (1,l.tail) else if b then .ok (2,l.tail) else (match bq en gZ l with | .error e=>.error e | .ok (_,r)=>.ok (3,r))):=zh (fun a b ha hb=>by
   unfold lr;rw [ha,hb]
   cases a<;>cases b<;>try rfl
   show Par.bind _ _ _=_
   unfold Par.bind okP
   cases bq en gZ l<;>rfl)
 have HU:=zh (fun (W:World) (sb:Nat) (hW:RdAt W rb l en) (hs:W.cell? ⟨sb,0,none⟩=some (.string gZ))=>aV rb sb gZ l en W hW hs);clear h
 cases h1:atS l 0 qH
 ·have A:=zh (HT.o qH w HH.o)
  rw [h1] at A
  cases h2:atS l 0 nL
  ·have B:=zh (HM.o _ _ h1 h2)
   have C:=zh (HT.o nL);rw [h2] at C;clear h1 h2;unfold qH nL gZ str at *;go_enter Tryz.func75,Tryz.ntmps75
   go_wp2_with fail
   refine A.o.mono ?_;rintro e w1 ⟨rfl,hr,ho⟩;have HR:=zh hr;have HO:=zh ho;clear hr ho;go_wp2_with fail
   refine (C.o w1 HR.o).mono ?_;rintro e w2 ⟨rfl,hr,ho⟩;have D:=zh hr;have F:=zh (HO.o.trans ho);clear hr ho;go_wp2_with fail
   refine (HU.o _ w2.heap.size (D.o.on (ag (Below.refl _ _) _)) (aA _ _ _ _ _ _ rfl rfl)).mono ?_;rintro e w3 hp;have G:=zh (F.o.alloc (.cells #[.string ⟨[98,121,116,101,115].toArray⟩] 9));rcases hp.cases with ⟨er,p,hm,rfl,ho⟩ | ⟨x,r,v,hm,rfl,hv,hr,ho⟩
   ·have HF:=zh (show lr en l=.error (er,p) from by rw [B.o,hm];rfl)
    have E:=zh (G.o.trans ho);clear hp hm ho;unfold Pan;go_wp2_with fail
    exact ⟨rfl,PSays.err HF.o E.o⟩
   ·have HF:=zh (show lr en l=.ok (3,r) from by rw [B.o,hm];rfl)
    have E:=zh (G.o.trans ho);have H:=zh hr;clear hp hm ho hr;subst hv;go_wp2_with fail
    go_ret
    exact PSays.ok HF.o rfl H.o E.o
  ·have B:=zh (HM.o _ _ h1 h2)
   have C:=zh (HT.o nL);rw [h2] at C;clear h1 h2;unfold qH nL str at *;go_enter Tryz.func75,Tryz.ntmps75
   go_wp2_with fail
   refine A.o.mono ?_;rintro e w1 ⟨rfl,hr,ho⟩;have HR:=zh hr;have HO:=zh ho;clear hr ho;go_wp2_with fail
   refine (C.o w1 HR.o).mono ?_;rintro e w2 ⟨rfl,hr,ho⟩;have D:=zh hr;have F:=zh (HO.o.trans ho);clear hr ho;go_wp2_with fail
   go_ret
   exact PSays.ok B.o rfl D.o F.o
 ·have B:=zh (HM.o _ _ h1 rfl)
  have A:=zh (HT.o qH w HH.o);rw [h1] at A;clear h1;unfold qH str at *;go_enter Tryz.func75,Tryz.ntmps75
  go_wp2_with fail
  refine A.o.mono ?_;rintro e w1 ⟨rfl,hr,ho⟩;have HR:=zh hr;have HO:=zh ho;clear hr ho;go_wp2_with fail
  go_ret
  exact PSays.ok B.o rfl HR.o HO.o
end
section
open Go.RowKit
def RX (base:Nat) (w:World) (x:Ex) (v:Value):Prop:=∃op num text s0 n cap pos,v=.agg #[.int .i64 op,.int .i64 num,.string text,.slice s0 n cap,.int .i64 pos]∧RepEx (bM base) w [.int .i64 op,.int .i64 num,.string text,.slice s0 n cap,.int .i64 pos] x
theorem RX.keep {base:Nat} {w w':World} {x:Ex} {v:Value} (h:RX base w x v) (ho:Stays (bM base) w w'):RX base w' x v:=by
 obtain ⟨op,num,text,s0,n,cap,pos,h1,h2⟩:=h;exact ⟨op,num,text,s0,n,cap,pos,h1,h2.keep ho⟩
theorem RX.mono {base base':Nat} {w:World} {x:Ex} {v:Value} (h:RX base w x v) (hb:base'≤base):RX base' w x v:=by
 obtain ⟨op,num,text,s0,n,cap,pos,h1,h2⟩:=h;exact ⟨op,num,text,s0,n,cap,pos,h1,h2.down hb⟩
def cw (rb:Nat) (en:Int) (f:FuncId) (args:Array Value) (P:Par Ex):Prop:=∀(l:List Tk) (w:World),RdAt w rb l en→Calls Tryz.prog f args w (PSays rb en w (RX w.heap.size) (P l))
def set5 (w:World) (k:Nat) (a b c d e:Value):World:=((((w.setCell ⟨k,0,none⟩ a).setCell ⟨k,1,none⟩ b).setCell ⟨k,2,none⟩ c).setCell ⟨k,3,none⟩ d).setCell ⟨k,4,none⟩ e
theorem On.set5 {k:Nat} {a w:World} (h:On k a w) (x0 x1 x2 x3 x4:Value):On k a (set5 w k x0 x1 x2 x3 x4):=((((h.set 0 _).set 1 _).set 2 _).set 3 _).set 4 _
theorem On.new {rb k:Nat} {a b c:World} (h:On rb a b) (g:On k b c) (hk:a.heap.size≤k):On rb a c:=
 ⟨g.os.trans h.os,g.tape.trans h.tape,g.output.trans h.output,Nat.le_trans h.size g.size,fun i hi A=>(g.block i (Nat.lt_of_lt_of_le hi h.size) (fun e=>by injection e with e;omega)).trans (h.block i hi A)⟩
theorem wJ (rb:Nat) (d:Int) (i:0≤d) (hd:d≤32) (en:Int) (P:Par Ex) (HE:cw rb en 129 #[.pointer (some ⟨rb,0,none⟩),.int .i64 (d+1)] P):cw rb en 207 #[.pointer (some ⟨rb,0,none⟩),.int .i64 d] (dR en P):=by
 intro l w h;have a:=zh (fun (W:World) (sb:Nat) (hW:RdAt W rb l en) (hs:W.cell? ⟨sb,0,none⟩=some (.string cU))=>aV rb sb cU l en W hW hs);have Z:=zh (fun (W:World) (l:List Tk) (sb:Nat) (hW:RdAt W rb l en) (hs:W.cell? ⟨sb,0,none⟩=some (.string cX))=>aV rb sb cX l en W hW hs);have b:=zh HE;have HH:=zh h;have B:=zh h.lt;have g:d+1<100:=by omega
 have HP:Hd (dR en P l=(match bq en cU l with | .error e=>.error e | .ok (_,r)=>(match P r with | .error e=>.error e | .ok (x,r)=>(match bq en cX r with | .error e=>.error e | .ok (_,r)=>.ok (x,r))))):=zh (by
   unfold dR Par.bind okP
   cases bq en cU l with
   | error e=>rfl
   | ok q =>
     dsimp only
     cases P q.2 with
     | error e=>rfl
     | ok z =>
       dsimp only
       cases bq en cX z.2<;>rfl)
 clear HE h;unfold cU cX str at *;go_enter Tryz.func207,Tryz.ntmps207
 go_wp2_with fail
 refine (a.o _ (w.heap.size+1) (HH.o.on (ag (ag (Below.refl _ _) _) _)) (aA _ _ _ _ _ _ (ah _ _) rfl)).mono ?_;rintro e w1 hp;have R:=zh (((On.refl rb w).alloc (.cells #[.int .i64 0,.int .i64 0,.string ⟨#[]⟩,.slice none 0 0,.int .i64 0] 178)).alloc (.cells #[.string ⟨[40].toArray⟩] 9));rcases hp.cases with ⟨er,p,hm,rfl,ho⟩ | ⟨x,r,v,hm,rfl,hv,hr,ho⟩
 ·have HF:=zh (show dR en P l=.error (er,p) from by rw [HP.o,hm])
  have G:=zh (R.o.trans ho);clear hp hm ho;unfold Pan;go_wp2_with fail
  exact ⟨rfl,PSays.err HF.o G.o⟩
 ·have O:=zh (show dR en P l=(match P r with | .error e=>.error e | .ok (x,r)=>(match bq en (⟨[41].toArray⟩:ByteArray) r with | .error e=>.error e | .ok (_,r)=>.ok (x,r))) from by rw [HP.o,hm])
  have G:=zh (R.o.trans ho);have X:=zh hr;have M:=zh (ho.obj (k':=w.heap.size) (o:=.cells #[.int .i64 0,.int .i64 0,.string ⟨#[]⟩,.slice none 0 0,.int .i64 0] 178) (by have:=B.o;omega) (ax _ _ _ _ (aj _ _ _ rfl)));clear hp hm ho hr;subst hv;go_wp2_with fail
  refine (b.o r w1 X.o).mono ?_;rintro e w2 hp;rcases hp.cases with ⟨er,p,hm,rfl,ho⟩ | ⟨x,r2,v,hm,rfl,hv,hr,ho⟩
  ·have HF:=zh (show dR en P l=.error (er,p) from by rw [O.o,hm])
   have L:=zh (G.o.trans ho);clear hp hm ho;unfold Pan;go_wp2_with fail
   exact ⟨rfl,PSays.err HF.o L.o⟩
  ·have N:=zh (show dR en P l=(match bq en (⟨[41].toArray⟩:ByteArray) r2 with | .error e=>.error e | .ok (_,r)=>.ok (x,r)) from by rw [O.o,hm])
   have L:=zh (G.o.trans ho);have V:=zh hr;have f:w.heap.size<w2.heap.size:=Nat.lt_of_lt_of_le (af M.o) ho.size;have c:=zh (ho.obj (k':=w.heap.size) (by have:=B.o;omega) M.o);obtain ⟨op,num,text,s0,n,cap,pos,rfl,C⟩:=hv;have I:=zh C;clear hp hm ho hr C;go_wp2_with fail
   have F:Below w2.heap.size w2 ((w2.alloc (.cells #[.int .i64 op,.int .i64 num,.string text,.slice s0 n cap,.int .i64 pos] 178)).alloc (.cells #[.string ⟨[41].toArray⟩] 9)):=ag (ag (Below.refl _ _) _) _;refine (Z.o _ r2 (w2.heap.size+1) (V.o.on F) (aA _ _ _ _ _ _ (ah _ _) rfl)).mono ?_;rintro e w3 hp;have Q:=zh (L.o.trans (On.of_below F));rcases hp.cases with ⟨er,p,hm,rfl,ho⟩ | ⟨x',r3,v,hm,rfl,hv,hr,ho⟩
   ·have HF:=zh (show dR en P l=.error (er,p) from by rw [N.o,hm])
    have K:=zh (Q.o.trans ho);clear hp hm ho;unfold Pan;go_wp2_with fail
    exact ⟨rfl,PSays.err HF.o K.o⟩
   ·have HF:=zh (show dR en P l=.ok (x,r3) from by rw [N.o,hm])
    have K:=zh (Q.o.trans ho);have U:=zh hr;have H:w2.heap.size≠rb:=by have:=B.o;omega
    have hx:=ho.obj (k':=w2.heap.size) H (ax _ _ _ _ (aj _ _ _ rfl));have hc:=(On.of_below F:On rb w2 _).obj (k':=w.heap.size) (by have:=B.o;omega) c.o;have A:=ho.obj (k':=w.heap.size) (by have:=B.o;omega) hc;have D:=af M.o;have E:=zh (I.o.keep ((Stays.of_below F).trans (Stays.of_on ho (by have:=B.o;omega))));have k:=zh A;have x0:=aa hx (j:=0) rfl;have x1:=aa hx (j:=1) rfl;have x2:=aa hx (j:=2) rfl;have x3:=aa hx (j:=3) rfl;have x4:=aa hx (j:=4) rfl;have f0:=ae A 0;have f1:=ae A 1;have f2:=ae A 2;have f3:=ae A 3;have f4:=ae A 4;have c0:=aa A (j:=0) rfl;have c1:=aa A (j:=1) rfl;have c2:=aa A (j:=2) rfl;have c3:=aa A (j:=3) rfl;have c4:=aa A (j:=4) rfl;clear hp hm ho hr hx hc A F;subst hv;go_wp2_with fail
    have J:On w.heap.size w3 (set5 w3 w.heap.size (.int .i64 op) (.int .i64 num) (.string text) (.slice s0 n cap) (.int .i64 pos)):=(On.refl _ _).set5 _ _ _ _ _;have T:=U.o.off J B.o;have Y:=K.o.new J (Nat.le_refl _);have S:=E.o.keep (Stays.of_on J D);refine bodyPost_ret (v:=.agg #[.int .i64 op,.int .i64 num,.string text,.slice s0 n cap,.int .i64 pos]) (by simp [results,Tryz.results207,go_sem,c0,c1,c2,c3,c4]) rfl ?_;exact PSays.ok HF.o ⟨_,_,_,_,_,_,_,rfl,S.down (Nat.le_of_lt D)⟩ T Y
end
section
section
open Go.RowKit
theorem Be (rb:Nat) (d:Int) (hd:d≤32) (en:Int) (P:Par Ex) (HE:cw rb en 172 #[.pointer (some ⟨rb,0,none⟩),.int .i64 0,.int .i64 d] P):cw rb en 129 #[.pointer (some ⟨rb,0,none⟩),.int .i64 d] P:=by
 intro l w h;have N:=zh HE;have H:=zh h.lt;have F:Below w.heap.size w (w.alloc (.cells #[.int .i64 0,.int .i64 0,.string ⟨#[]⟩,.slice none 0 0,.int .i64 0] 178)):=ag (Below.refl _ _) _;have HH:=zh (h.on F);have G:=zh (On.of_below F:On rb w _);clear HE h F;go_enter Tryz.func129,Tryz.ntmps129
 go_wp2_with fail
 refine (pD rb d _ hd).mono ?_;rintro e w1 ⟨rfl,rfl⟩;go_wp2_with fail
 refine (N.o l _ HH.o).mono ?_;rintro e w2 hp;rcases hp.cases with ⟨er,p,hm,rfl,ho⟩ | ⟨x,r,v,hm,rfl,hv,hr,ho⟩
 ·have HF:=zh hm
  have E:=zh (G.o.trans ho);clear hp hm ho;unfold Pan;go_wp2_with fail
  exact ⟨rfl,PSays.err HF.o E.o⟩
 ·have HF:=zh hm
  have E:=zh (G.o.trans ho);have L:=zh hr;have A:=ho.obj (k':=w.heap.size) (o:=.cells #[.int .i64 0,.int .i64 0,.string ⟨#[]⟩,.slice none 0 0,.int .i64 0] 178) (by have:=H.o;omega) (aj _ _ _ rfl);have I:w.heap.size+1=(w.alloc (.cells #[.int .i64 0,.int .i64 0,.string ⟨#[]⟩,.slice none 0 0,.int .i64 0] 178)).heap.size:=(ah _ _).symm;rw [←I] at hv;obtain ⟨op,num,text,s0,n,cap,pos,rfl,B⟩:=hv;have C:=zh B;have f0:=ae A 0;have f1:=ae A 1;have f2:=ae A 2;have f3:=ae A 3;have f4:=ae A 4;have c0:=aa A (j:=0) rfl;have c1:=aa A (j:=1) rfl;have c2:=aa A (j:=2) rfl;have c3:=aa A (j:=3) rfl;have c4:=aa A (j:=4) rfl;clear hp hm ho hr B A;go_wp2_with fail
  have D:On w.heap.size w2 (set5 w2 w.heap.size (.int .i64 op) (.int .i64 num) (.string text) (.slice s0 n cap) (.int .i64 pos)):=(On.refl _ _).set5 _ _ _ _ _;have K:=L.o.off D H.o;have M:=E.o.new D (Nat.le_refl _);have J:=C.o.keep (Stays.of_on D (Nat.lt_succ_self _));refine bodyPost_ret (v:=.agg #[.int .i64 op,.int .i64 num,.string text,.slice s0 n cap,.int .i64 pos]) (by simp [results,Tryz.results129,go_sem,c0,c1,c2,c3,c4]) rfl ?_;exact PSays.ok HF.o ⟨_,_,_,_,_,_,_,rfl,J.down (Nat.le_succ _)⟩ K M
theorem Ax (rb:Nat) (d:Int) (hd:32<d) (en:Int) (P:Par Ex) (hP:∀l,P l=.error (42,aQ en l)):cw rb en 129 #[.pointer (some ⟨rb,0,none⟩),.int .i64 d] P:=by
 intro l w h;have HP:=zh (hP l);have A:Below w.heap.size w (w.alloc (.cells #[.int .i64 0,.int .i64 0,.string ⟨#[]⟩,.slice none 0 0,.int .i64 0] 178)):=ag (Below.refl _ _) _;have HH:=zh (h.on A);have B:=zh (On.of_below A:On rb w _);clear hP h A;go_enter Tryz.func129,Tryz.ntmps129
 go_wp2_with fail
 refine (pQ rb l en d _ HH.o hd).mono ?_;rintro e w1 ⟨rfl,rfl⟩;unfold Pan;go_wp2_with fail
 exact ⟨rfl,PSays.err HP.o B.o⟩
theorem rL (en:Int) (one:Par Ex) (e:List Tk→Int×Int) (h:∀l,one l=.error (e l)) (j:Nat) (l:List Tk):dl en one j l=.error (e l):=by
 induction j generalizing l with
 | zero=>exact h l
 | succ j ih =>
  show Par.bind (dl en one j) _ l=_
  unfold Par.bind;rw [ih]
end
section
open Go.RowKit
def bC (n:Nat):Array Value:=((bO n).map Value.string).toArray
theorem vY (n:Nat) (hn:n≤4) (w:World):Calls Tryz.prog 195 #[.int .i64 n] w fun e w'=>e=.returned (.slice (some ⟨w.heap.size,0,none⟩) (bO n).length (bO n).length)∧w'=w.alloc (.cells (bC n) 9):=by
 rcases (show n=0∨n=1∨n=2∨n=3∨n=4 by omega) with rfl | rfl | rfl | rfl | rfl
 all_goals
  go_enter Tryz.func195,Tryz.ntmps195
  go_wp2_with fail
  go_ret
  exact ⟨rfl,rfl⟩
def gc (l:List Tk):List ByteArray→Nat→Int
 | [],_=>-1
 | s :: r,i=>if atS l 0 s then (i:Int) else gc l r (i+1)
theorem AQ (rb bb:Nat) (s:ByteArray) (l:List Tk) (en:Int) (w:World) (h:RdAt w rb l en) (hb:w.cell? ⟨bb,0,none⟩=some (.pointer (some ⟨rb,0,none⟩))) :
    Calls Tryz.prog 196 #[.string s,.pointer (some ⟨bb,0,none⟩)] w fun e w'=>e=.returned (.bool (atS l 0 s))∧w=w':=by
 have HA:=zh (fu rb 0 s l en w h);clear h;generalize atS l 0 s=q at *;go_enter Tryz.func196,Tryz.ntmps196
 go_wp2_with fail
 refine HA.o.mono ?_;rintro e w1 ⟨rfl,rfl⟩;go_wp2_with fail
 go_ret
 exact ⟨rfl,rfl⟩
theorem uE (rb bb sb:Nat) (sl:List ByteArray) (hl:sl.length≤6) (l:List Tk) (en:Int) (w:World) (h:RdAt w rb l en) (hb:w.cell? ⟨bb,0,none⟩=some (.pointer (some ⟨rb,0,none⟩))) (hs:∀i,(hi:i<sl.length)→w.cell? ⟨sb,i,none⟩=some (.string sl[i])) :
    Calls Tryz.prog 194 #[.slice (some ⟨sb,0,none⟩) sl.length sl.length,.func (.func 196) #[] #[.pointer (some ⟨bb,0,none⟩)]] w fun e w'=>e=.returned (.int .i64 (gc l sl 0))∧w=w':=by
 have HS:=zh hs;have HA:=zh (fun s=>AQ rb bb s l en w h hb);have F:∀args W,Sem.run Tryz.prog (callFunc 196 args) W=.ok (.enter 196 args) W:=fun _ _=>Tryz.call196 _ _;clear hs h hb;go_enter Tryz.func194,Tryz.ntmps194
 go_wp2_with fail
 go_loopw [8] (fun s8 wr=>∃k:Nat,k≤sl.length∧s8=.int .i64 k∧gc l sl 0=gc l (sl.drop k) k∧w=wr) (fun s8 _=>sl.length-(intOf s8).toNat)
 case atStart=>exact ⟨0,Nat.zero_le _,rfl,rfl,rfl⟩
 case round =>
  obtain ⟨k,hk,rfl,B,rfl⟩:=hrel;have C:=zh B;clear B;by_cases A:k<sl.length
  ·have y0:=HS.o k A
   have HC:=zh (HA.o sl[k])
   have HD:Hd (∀q,atS l 0 sl[k]=q→gc l sl 0=if q then (k:Int) else gc l (sl.drop (k+1)) (k+1)):=zh (fun q hq=>by
     rw [C.o,List.drop_eq_getElem_cons A];show (if atS l 0 sl[k]=true then (k:Int) else _)=_
     rw [hq])
   have D:=zh (HD.o _ rfl);clear HD;generalize atS l 0 sl[k]=q at *;generalize sl[k]=sg at *;go_wp2_with fail
   refine HC.o.mono ?_;rintro e w1 ⟨rfl,rfl⟩
   cases q
   ·go_wp2_with fail
    go_roundw
    case rel=>exact ⟨k+1,by omega,by go_num,D.o,trivial⟩
    case measure=>simp [intOf];omega
   ·go_wp2_with fail
    go_ret
    exact ⟨eQ (by rw [D.o];rfl),rfl⟩
  ·have E:k=sl.length:=by omega
   subst E;clear A;go_wp2_with fail
   go_ret
   exact ⟨eQ (by rw [C.o,List.drop_length];rfl),rfl⟩
end
section
open Go.RowKit
def iM (en:Int) (O PR:Par Ex) (l:List Tk):List ByteArray→Except (Int×Int) (Ex×List Tk)
 | []=>PR l
 | s :: r=>if atS l 0 s then (match O l.tail with | .error e=>.error e | .ok (x,r)=>.ok (.mk 7 0 s [x] (aQ en l),r)) else iM en O PR l r
theorem vJ (en:Int) (O PR:Par Ex) (l:List Tk):iM en O PR l [fT,nh]=(if atS l 0 fT then (O.bind fun x=>okP (.mk 7 0 fT [x] (aQ en l))) l.tail else if atS l 0 nh then (O.bind fun x=>okP (.mk 7 0 nh [x] (aQ en l))) l.tail else PR l):=by
 unfold iM iM iM Par.bind okP;split
 ·cases O l.tail<;>rfl
 ·split
  ·cases O l.tail<;>rfl
  ·rfl
theorem lX {S:Nat→Prop} {b:Nat} {w:World} {op num pos:Int} {text:ByteArray} {s0:Option Addr} {n cap:Nat} {x:Ex} (h:RepEx S w [.int .i64 op,.int .i64 num,.string text,.slice s0 n cap,.int .i64 pos] x) (hb:S b) (hl:w.heap[b]?=some (.cells #[.int .i64 op,.int .i64 num,.string text,.slice s0 n cap,.int .i64 pos] 178 (0,0))) :
    RepExs S w (.slice (some ⟨b,0,none⟩) 1 1) [x]:=by
 refine ⟨fun _=>[.int .i64 op,.int .i64 num,.string text,.slice s0 n cap,.int .i64 pos],⟨some ⟨b,0,none⟩,1,rfl,Nat.le_refl _,by unfold maxLen;omega,fun e=>(by cases e),fun _=>⟨b,0,rfl,hb,af hl,fun i hi j hj=>?_⟩,fun i _=>rfl⟩,fun i hi=>?_⟩
 ·obtain rfl:i=0:=by simp at hi;exact hi
  rcases (show j=0∨j=1∨j=2∨j=3∨j=4 by omega) with rfl | rfl | rfl | rfl | rfl<;>exact aa hl rfl
 ·obtain rfl:i=0:=by simp at hi;exact hi
  exact h
theorem zR (rb:Nat) (d:Int) (hl:0≤d) (hd:d≤32) (en:Int) (O PR:Par Ex) (HO:d+1≤32→cw rb en 193 #[.pointer (some ⟨rb,0,none⟩),.int .i64 (d+1)] O) (H:32<d+1→∀l,O l=.error (42,aQ en l)) (HP:cw rb en 204 #[.pointer (some ⟨rb,0,none⟩),.int .i64 d] PR) :
    cw rb en 193 #[.pointer (some ⟨rb,0,none⟩),.int .i64 d] (fun l=>iM en O PR l [fT,nh]):=by
 intro l w h;have hg:=zh HO;have k:=zh H;have he:=zh HP;have z:=zh h.lt;have h2:Below w.heap.size w (w.alloc (.cells #[.int .i64 0,.int .i64 0,.string ⟨#[]⟩,.slice none 0 0,.int .i64 0] 178)):=ag (Below.refl _ _) _;have HH:=zh (h.on h2);have h1:=ag h2 (.cells #[.string ⟨[45].toArray⟩,.string ⟨[33].toArray⟩] 9);have hh:=zh (h.on h1);have y:=zh (On.of_below h1:On rb w _);have HT:=zh (fun (s:ByteArray) (W:World) (hW:RdAt W rb l en)=>jv rb s l en W hW);have hk:d+1<100:=by omega
 have HD:=zh hd;have g:Hd (∀v,(iM en O PR l [fT,nh]=v)→(fun l=>iM en O PR l [fT,nh]) l=v):=zh (fun v h=>h);clear HO H HP h h2 h1 hd;dsimp only;generalize hR:iM en O PR l [fT,nh]=R at *;have HR:=zh hR;clear hR g;unfold fT nh str at *;go_enter Tryz.func193,Tryz.ntmps193
 go_wp2_with fail
 refine (fH rb l en _ HH.o).mono ?_;rintro e w1 ⟨rfl,rfl⟩;go_wp2_with fail
 generalize V:((w.alloc (.cells #[.int .i64 0,.int .i64 0,.string ⟨#[]⟩,.slice none 0 0,.int .i64 0] 178)).alloc (.cells #[.string ⟨[45].toArray⟩,.string ⟨[33].toArray⟩] 9))=W0 at *;have hn:=zh V;have E:W0.heap[w.heap.size]?=some (.cells #[.int .i64 0,.int .i64 0,.string ⟨#[]⟩,.slice none 0 0,.int .i64 0] 178):=by rw [←V];exact ax _ _ _ _ (aj _ _ _ rfl)
 have N:W0.heap[w.heap.size+1]?=some (.cells #[.string ⟨[45].toArray⟩,.string ⟨[33].toArray⟩] 9):=by rw [←V];exact aj _ _ _ (ah _ _)
 have U:=zh E;have S:=zh N;clear E N V;generalize h4:aQ en l=pl at *;have hf:=zh h4;clear h4;go_loopw [12] (fun s12 wr=>∃j:Nat,j≤2∧s12=.int .i64 j∧R=iM en O PR l (([⟨[45].toArray⟩,⟨[33].toArray⟩]:List ByteArray).drop j)∧RdAt wr rb l en∧On rb W0 wr) (fun s12 _=>2-(intOf s12).toNat)
 case atStart=>exact ⟨0,by omega,rfl,HR.o.symm,hh.o,On.refl _ _⟩
 case round =>
  obtain ⟨j,hj,rfl,h7,h3,L⟩:=hrel;have f:=zh h7;have h9:=zh h3;have Z:=zh L;have K:=zh (show w.heap.size≠rb∧w.heap.size+1≠rb from by have:=z.o;omega);have J:=zh (L.obj K.o.1 U.o);clear h7 h3;by_cases h5:j=2
  ·subst h5
   clear L;go_wp2_with fail
   refine (he.o l _ h9.o).mono ?_;rintro e w2 hp;rcases hp.cases with ⟨er,p,hm,rfl,ho⟩ | ⟨x,r,v,hm,rfl,hv,hr,ho⟩
   ·have HF:=zh (show R=.error (er,p) from f.o.trans hm)
    have u:=zh (y.o.trans (Z.o.trans ho));clear hp hm ho;unfold Pan;go_wp2_with fail
    exact ⟨rfl,PSays.err HF.o u.o⟩
   ·have HF:=zh (show R=.ok (x,r) from f.o.trans hm)
    have u:=zh (y.o.trans (Z.o.trans ho));have hc:=zh hr;have D:=af J.o;have A:=ho.obj (k':=w.heap.size) K.o.1 J.o;obtain ⟨op,num,text,s0,n,cap,pos,rfl,C⟩:=hv;have I:=zh C;have f0:=ae A 0;have f1:=ae A 1;have f2:=ae A 2;have f3:=ae A 3;have f4:=ae A 4;have c0:=aa A (j:=0) rfl;have c1:=aa A (j:=1) rfl;have c2:=aa A (j:=2) rfl;have c3:=aa A (j:=3) rfl;have c4:=aa A (j:=4) rfl;clear hp hm ho hr C A;go_wp2_with fail
    have B:On w.heap.size w2 (set5 w2 w.heap.size (.int .i64 op) (.int .i64 num) (.string text) (.slice s0 n cap) (.int .i64 pos)):=(On.refl _ _).set5 _ _ _ _ _;have i:=hc.o.off B z.o;have m:=u.o.new B (Nat.le_refl _);have c:=I.o.keep (Stays.of_on B D);refine bodyPost_ret (v:=.agg #[.int .i64 op,.int .i64 num,.string text,.slice s0 n cap,.int .i64 pos]) (by simp [results,Tryz.results193,go_sem,c0,c1,c2,c3,c4]) rfl ?_;exact PSays.ok HF.o ⟨_,_,_,_,_,_,_,rfl,c.down (Nat.le_of_lt D)⟩ i m
  ·obtain ⟨sg,y0,F⟩:∃sg,wr.cell? ⟨w.heap.size+1,j,none⟩=some (.string sg)∧(([⟨[45].toArray⟩,⟨[33].toArray⟩]:List ByteArray).drop j)=sg :: (([⟨[45].toArray⟩,⟨[33].toArray⟩]:List ByteArray).drop (j+1)):=by
     rcases (show j=0∨j=1 by omega) with rfl | rfl
     ·exact ⟨_,aa (L.obj K.o.2 S.o) rfl,rfl⟩
     ·exact ⟨_,aa (L.obj K.o.2 S.o) rfl,rfl⟩
   have hi:j<2:=by omega
   have h8:Hd (∀q,atS l 0 sg=q→R=if q then (match O l.tail with | .error e=>.error e | .ok (x,r)=>.ok (.mk 7 0 sg [x] (aQ en l),r)) else iM en O PR l (([⟨[45].toArray⟩,⟨[33].toArray⟩]:List ByteArray).drop (j+1))):=zh (fun q hq=>by
     rw [f.o,F,←hq];rfl)
   clear F L h5 hj;have X:=zh (HT.o sg wr h9.o)
   cases hq:atS l 0 sg
   ·rw [hq] at X
    have T:=zh (h8.o _ hq);clear hq;go_wp2_with fail
    refine X.o.mono ?_;rintro e w2 ⟨rfl,P,M⟩;have Y:=zh P;have H:=zh (Z.o.trans M);clear P M;go_wp2_with fail
    go_roundw
    case rel=>exact ⟨j+1,by omega,by go_num,by simpa using T.o,Y.o,H.o⟩
    case measure=>simp [intOf];omega
   ·rw [hq] at X
    have T:=zh (h8.o _ hq);clear hq;go_wp2_with fail
    refine X.o.mono ?_;rintro e w2 ⟨rfl,P,M⟩;have Y:=zh P;have H:=zh (y.o.trans (Z.o.trans M));have G:=zh (M.obj K.o.1 J.o);clear P M y0;by_cases h6:d+1≤32
    ·go_wp2_with fail
     refine (pD rb _ _ h6).mono ?_;rintro e w3 ⟨rfl,rfl⟩;go_wp2_with fail
     refine (hg.o h6 l.tail _ Y.o).mono ?_;rintro e w3 hp;rcases hp.cases with ⟨er,p,hm,rfl,ho⟩ | ⟨x,r,v,hm,rfl,hv,hr,ho⟩
     ·have HF:=zh (show R=.error (er,p) from by rw [T.o,hm];rfl)
      have t:=zh (H.o.trans ho);clear hp hm ho;unfold Pan;go_wp2_with fail
      exact ⟨rfl,PSays.err HF.o t.o⟩
     ·have HF:=zh (show R=.ok (.mk 7 0 sg [x] pl,r) from by rw [T.o,hm,hf.o];rfl)
      have t:=zh (H.o.trans ho);have hb:=zh hr;have D:=af G.o;have a:=ho.size;obtain ⟨op,num,text,s0,n,cap,pos,rfl,C⟩:=hv;have I:=zh C;have b:Below w3.heap.size w3 (w3.alloc (.cells #[.int .i64 op,.int .i64 num,.string text,.slice s0 n cap,.int .i64 pos] 178)):=ag (Below.refl _ _) _;have h0:=zh b;have A:=(On.of_below b:On rb w3 _).obj K.o.1 (ho.obj (k':=w.heap.size) K.o.1 G.o);have f0:=ae A 0;have f1:=ae A 1;have f2:=ae A 2;have f3:=ae A 3;have f4:=ae A 4;have c0:=aa A (j:=0) rfl;have c1:=aa A (j:=1) rfl;have c2:=aa A (j:=2) rfl;have c3:=aa A (j:=3) rfl;have c4:=aa A (j:=4) rfl;clear hp hm ho hr C A b;go_wp2_with fail
      have B:On w.heap.size (w3.alloc (.cells #[.int .i64 op,.int .i64 num,.string text,.slice s0 n cap,.int .i64 pos] 178)) (set5 (w3.alloc (.cells #[.int .i64 op,.int .i64 num,.string text,.slice s0 n cap,.int .i64 pos] 178)) w.heap.size (.int .i64 7) (.int .i64 0) (.string sg) (.slice (some ⟨w3.heap.size,0,none⟩) 1 1) (.int .i64 pl)):=(On.refl _ _).set5 _ _ _ _ _;have i:=(hb.o.on h0.o).off B z.o;have m:=(t.o.trans (On.of_below h0.o)).new B (Nat.le_refl _);have c:=I.o.keep ((Stays.of_below h0.o).trans (Stays.of_on B D));have ha:=RepEx.of (op:=7) (num:=0) (pos:=pl) (text:=sg) (lX c a (B.obj (by omega) (aj _ _ _ rfl)));refine bodyPost_ret (v:=.agg #[.int .i64 7,.int .i64 0,.string sg,.slice (some ⟨w3.heap.size,0,none⟩) 1 1,.int .i64 pl]) (by simp [results,Tryz.results193,go_sem,c0,c1,c2,c3,c4]) rfl ?_;exact PSays.ok HF.o ⟨_,_,_,_,_,_,_,rfl,ha.down (Nat.le_of_lt D)⟩ i m
    ·have Q:32<d+1:=by omega
     go_wp2_with fail
     refine (pQ rb l.tail en _ _ Y.o Q).mono ?_;rintro e w3 ⟨rfl,rfl⟩;have HF:=zh (show R=.error (42,aQ en l.tail) from by rw [T.o,k.o Q l.tail];rfl);unfold Pan;go_wp2_with fail
     exact ⟨rfl,PSays.err HF.o H.o⟩
end
section
open Go.RowKit
theorem sy (rb:Nat) (d en:Int) (P:Par Ex) (HE:cw rb en 193 #[.pointer (some ⟨rb,0,none⟩),.int .i64 d] P):cw rb en 172 #[.pointer (some ⟨rb,0,none⟩),.int .i64 5,.int .i64 d] P:=by
 intro l w h;have N:=zh HE;have I:=zh h.lt;have F:Below w.heap.size w ((w.alloc (.cells #[.pointer (some ⟨rb,0,none⟩)] 108)).alloc (.cells #[.int .i64 0,.int .i64 0,.string ⟨#[]⟩,.slice none 0 0,.int .i64 0] 178)):=ag (ag (Below.refl _ _) _) _;have HH:=zh (h.on F);have H:=zh (On.of_below F:On rb w _);clear HE h F;go_enter Tryz.func172,Tryz.ntmps172
 go_wp2_with fail
 refine (N.o l _ HH.o).mono ?_;rintro e w2 hp;rcases hp.cases with ⟨er,p,hm,rfl,ho⟩ | ⟨x,r,v,hm,rfl,hv,hr,ho⟩
 ·have HF:=zh hm
  have E:=zh (H.o.trans ho);clear hp hm ho;unfold Pan;go_wp2_with fail
  exact ⟨rfl,PSays.err HF.o E.o⟩
 ·have HF:=zh hm
  have E:=zh (H.o.trans ho);have L:=zh hr;have A:=ho.obj (k':=w.heap.size+1) (o:=.cells #[.int .i64 0,.int .i64 0,.string ⟨#[]⟩,.slice none 0 0,.int .i64 0] 178) (by have:=I.o;omega) (aj _ _ _ (ah _ _));have G:w.heap.size+1+1=((w.alloc (.cells #[.pointer (some ⟨rb,0,none⟩)] 108)).alloc (.cells #[.int .i64 0,.int .i64 0,.string ⟨#[]⟩,.slice none 0 0,.int .i64 0] 178)).heap.size:=by rw [ah,ah]
  rw [←G] at hv;obtain ⟨op,num,text,s0,n,cap,pos,rfl,B⟩:=hv;have C:=zh B;have f0:=ae A 0;have f1:=ae A 1;have f2:=ae A 2;have f3:=ae A 3;have f4:=ae A 4;have c0:=aa A (j:=0) rfl;have c1:=aa A (j:=1) rfl;have c2:=aa A (j:=2) rfl;have c3:=aa A (j:=3) rfl;have c4:=aa A (j:=4) rfl;clear hp hm ho hr B A G;go_wp2_with fail
  have D:On (w.heap.size+1) w2 (set5 w2 (w.heap.size+1) (.int .i64 op) (.int .i64 num) (.string text) (.slice s0 n cap) (.int .i64 pos)):=(On.refl _ _).set5 _ _ _ _ _;have K:=L.o.off D (Nat.lt_succ_of_lt I.o);have M:=E.o.new D (Nat.le_succ _);have J:=C.o.keep (Stays.of_on D (Nat.lt_succ_self _));refine bodyPost_ret (v:=.agg #[.int .i64 op,.int .i64 num,.string text,.slice s0 n cap,.int .i64 pos]) (by simp [results,Tryz.results172,go_sem,c0,c1,c2,c3,c4]) rfl ?_;exact PSays.ok HF.o ⟨_,_,_,_,_,_,_,rfl,J.down (by omega)⟩ K M
end
section
open Go.RowKit
theorem mX {w:World} {k:Nat} {a b c d e a' b' c' d' e':Value} {t:TypeId} (h:w.heap[k]?=some (.cells #[a,b,c,d,e] t (0,0))):(set5 w k a' b' c' d' e').heap[k]?=some (.cells #[a',b',c',d',e'] t (0,0)):=
 au (au (au (au (au h 0 a') 1 b') 2 c') 3 d') 4 e'
theorem pw {S:Nat→Prop} {b:Nat} {w:World} {op num pos E C B:Int} {text A:ByteArray} {s0 s2:Option Addr} {n cap n2 D:Nat} {x y:Ex} (h:RepEx S w [.int .i64 op,.int .i64 num,.string text,.slice s0 n cap,.int .i64 pos] x)
    (h2:RepEx S w [.int .i64 E,.int .i64 C,.string A,.slice s2 n2 D,.int .i64 B] y) (hb:S b) (hl:w.heap[b]?=some (.cells #[.int .i64 op,.int .i64 num,.string text,.slice s0 n cap,.int .i64 pos,.int .i64 E,.int .i64 C,.string A,.slice s2 n2 D,.int .i64 B] 178 (0,0))) :
    RepExs S w (.slice (some ⟨b,0,none⟩) 2 2) [x,y]:=by
 refine ⟨fun i=>if i=0 then [.int .i64 op,.int .i64 num,.string text,.slice s0 n cap,.int .i64 pos] else [.int .i64 E,.int .i64 C,.string A,.slice s2 n2 D,.int .i64 B],⟨some ⟨b,0,none⟩,2,rfl,Nat.le_refl _,by unfold maxLen;omega,fun e=>(by cases e),fun _=>⟨b,0,rfl,hb,af hl,fun i hi j hj=>?_⟩,fun i _=>?_⟩,fun i hi=>?_⟩
 ·have F:i<2:=hi
  rcases (show i=0∨i=1 by omega) with rfl | rfl<;>rcases (show j=0∨j=1∨j=2∨j=3∨j=4 by omega) with rfl | rfl | rfl | rfl | rfl<;>exact aa hl rfl
 ·dsimp only
  split<;>rfl
 ·have F:i<2:=hi
  rcases (show i=0∨i=1 by omega) with rfl | rfl
  ·exact h
  ·exact h2
end
end
section
open Go.RowKit
def PSaysT {α:Type} (rb:Nat) (en:Int) (T:Nat→Prop) (w:World) (R:World→α→Value→Prop) (r:Except (Int×Int) (α×List Tk)) (e:Ending) (w':World):Prop:=
 (match r with
  | .error (er,p)=>e=Pan er p
  | .ok (x,l)=>∃v,e=.returned v∧R w' x v∧RdAt w' rb l en)∧OnS T w w'
theorem PSaysT.cases {α:Type} {rb:Nat} {en:Int} {T:Nat→Prop} {w w':World} {R:World→α→Value→Prop} {r:Except (Int×Int) (α×List Tk)} {e:Ending} (h:PSaysT rb en T w R r e w') :
    (∃er p,r=.error (er,p)∧e=Pan er p∧OnS T w w')∨(∃x l v,r=.ok (x,l)∧e=.returned v∧R w' x v∧RdAt w' rb l en∧OnS T w w'):=by
 obtain ⟨h,ho⟩:=h
 cases r with
 | error q =>
  obtain ⟨er,p⟩:=q;exact .inl ⟨er,p,rfl,h,ho⟩
 | ok q =>
  obtain ⟨x,l⟩:=q;obtain ⟨v,h1,h2,h3⟩:=h;exact .inr ⟨x,l,v,rfl,h1,h2,h3,ho⟩
theorem PSaysT.err {α:Type} {rb:Nat} {en:Int} {T:Nat→Prop} {w w':World} {R:World→α→Value→Prop} {r:Except (Int×Int) (α×List Tk)} {er p:Int} (hr:r=.error (er,p)) (ho:OnS T w w'):PSaysT rb en T w R r (Pan er p) w':=by
 subst hr;exact ⟨rfl,ho⟩
theorem PSaysT.ok {α:Type} {rb:Nat} {en:Int} {T:Nat→Prop} {w w':World} {R:World→α→Value→Prop} {r:Except (Int×Int) (α×List Tk)} {x:α} {l:List Tk} {v:Value} (hr:r=.ok (x,l)) (hR:R w' x v) (A:RdAt w' rb l en) (ho:OnS T w w'):PSaysT rb en T w R r (.returned v) w':=by
 subst hr;exact ⟨⟨v,rfl,hR,A⟩,ho⟩
end
end Go.Proofs.YthgcpfkochikfaaGreat
