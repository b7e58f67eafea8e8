/-
  VerifyBuilt: part 8 of its proof: see the last text.
-/
import Derived.Test.YtmlgbkomdhcaoaaGreatDoorPv07
import Derived.Test.YtmlgbkomdhcaoaaGreatDoorPv00
import Derived.StillTail
set_option maxRecDepth 100000
set_option maxHeartbeats 16000000
namespace Go.Proofs.YtmlgbkomdhcaoaaGreatDoor
section
section
open Go.RowKit
theorem yl (rb:Nat) (d:Int) (hd:d≤32) (en:Int) (P:Par Ex) (HE:cU rb en 129 #[.pointer (some ⟨rb,0,none⟩),.int .i64 0,.int .i64 d] P):cU rb en 104 #[.pointer (some ⟨rb,0,none⟩),.int .i64 d] P:=by
 intro l w h;have N:=zh HE;have H:=zh h.lt;have F:Below w.heap.size w (w.alloc (.cells #[.int .i64 0,.int .i64 0,.string ⟨#[]⟩,.slice none 0 0,.int .i64 0] 144)):=ag (Below.refl _ _) _;have HH:=zh (h.on F);have G:=zh (On.of_below F:On rb w _);clear HE h F;go_enter Tryz.func104,Tryz.ntmps104
 go_wp2_with fail
 refine (o7 rb d _ hd).mono ?_;rintro e w1 ⟨rfl,rfl⟩;go_wp2_with fail
 refine (N.o l _ HH.o).mono ?_;rintro e w2 hp;rcases hp.cases with ⟨er,p,hm,rfl,ho⟩ | ⟨x,r,v,hm,rfl,hv,hr,ho⟩
 ·have HF:=zh hm
  have E:=zh (G.o.trans ho);clear hp hm ho;unfold Pan;go_wp2_with fail
  exact ⟨rfl,PSays.err HF.o E.o⟩
 ·have HF:=zh hm
  have E:=zh (G.o.trans ho);have L:=zh hr;have A:=ho.obj (k':=w.heap.size) (o:=.cells #[.int .i64 0,.int .i64 0,.string ⟨#[]⟩,.slice none 0 0,.int .i64 0] 144) (by have:=H.o;omega) (am _ _ _ rfl);have I:w.heap.size+1=(w.alloc (.cells #[.int .i64 0,.int .i64 0,.string ⟨#[]⟩,.slice none 0 0,.int .i64 0] 144)).heap.size:=(ah _ _).symm;rw [←I] at hv;obtain ⟨op,num,text,s0,n,cap,pos,rfl,B⟩:=hv;have C:=zh B;have f0:=af A 0;have f1:=af A 1;have f2:=af A 2;have f3:=af A 3;have f4:=af A 4;have c0:=aa A (j:=0) rfl;have c1:=aa A (j:=1) rfl;have c2:=aa A (j:=2) rfl;have c3:=aa A (j:=3) rfl;have c4:=aa A (j:=4) rfl;clear hp hm ho hr B A;go_wp2_with fail
  have D:On w.heap.size w2 (set5 w2 w.heap.size (.int .i64 op) (.int .i64 num) (.string text) (.slice s0 n cap) (.int .i64 pos)):=(On.refl _ _).set5 _ _ _ _ _;have K:=L.o.off D H.o;have M:=E.o.new D (Nat.le_refl _);have J:=C.o.keep (Stays.of_on D (Nat.lt_succ_self _));refine bodyPost_ret (v:=.agg #[.int .i64 op,.int .i64 num,.string text,.slice s0 n cap,.int .i64 pos]) (by simp [results,Tryz.results104,go_sem,c0,c1,c2,c3,c4]) rfl ?_;exact PSays.ok HF.o ⟨_,_,_,_,_,_,_,rfl,J.down (Nat.le_succ _)⟩ K M
theorem yY (rb:Nat) (d:Int) (hd:32<d) (en:Int) (P:Par Ex) (hP:∀l,P l=.error (42,aT en l)):cU rb en 104 #[.pointer (some ⟨rb,0,none⟩),.int .i64 d] P:=by
 intro l w h;have HP:=zh (hP l);have A:Below w.heap.size w (w.alloc (.cells #[.int .i64 0,.int .i64 0,.string ⟨#[]⟩,.slice none 0 0,.int .i64 0] 144)):=ag (Below.refl _ _) _;have HH:=zh (h.on A);have B:=zh (On.of_below A:On rb w _);clear hP h A;go_enter Tryz.func104,Tryz.ntmps104
 go_wp2_with fail
 refine (oY rb l en d _ HH.o hd).mono ?_;rintro e w1 ⟨rfl,rfl⟩;unfold Pan;go_wp2_with fail
 exact ⟨rfl,PSays.err HP.o B.o⟩
theorem rv (en:Int) (one:Par Ex) (e:List Tk→Int×Int) (h:∀l,one l=.error (e l)) (j:Nat) (l:List Tk):dG en one j l=.error (e l):=by
 induction j generalizing l with
 | zero=>exact h l
 | succ j ih =>
  show Par.bind (dG en one j) _ l=_
  unfold Par.bind;rw [ih]
end
section
open Go.RowKit
def bI (n:Nat):Array Value:=((bZ n).map Value.string).toArray
theorem uM (n:Nat) (hn:n≤4) (w:World):Calls Tryz.prog 136 #[.int .i64 n] w fun e w'=>e=.returned (.slice (some ⟨w.heap.size,0,none⟩) (bZ n).length (bZ n).length)∧w'=w.alloc (.cells (bI n) 9):=by
 rcases (show n=0∨n=1∨n=2∨n=3∨n=4 by omega) with rfl | rfl | rfl | rfl | rfl
 all_goals
  go_enter Tryz.func136,Tryz.ntmps136
  go_wp2_with fail
  go_ret
  exact ⟨rfl,rfl⟩
def gf (l:List Tk):List ByteArray→Nat→Int
 | [],_=>-1
 | s :: r,i=>if atS l 0 s then (i:Int) else gf l r (i+1)
theorem yi (rb bb:Nat) (s:ByteArray) (l:List Tk) (en:Int) (w:World) (h:RdAt w rb l en) (hb:w.cell? ⟨bb,0,none⟩=some (.pointer (some ⟨rb,0,none⟩))) :
    Calls Tryz.prog 137 #[.string s,.pointer (some ⟨bb,0,none⟩)] w fun e w'=>e=.returned (.bool (atS l 0 s))∧w=w':=by
 have HA:=zh (fE rb 0 s l en w h);clear h;generalize atS l 0 s=q at *;go_enter Tryz.func137,Tryz.ntmps137
 go_wp2_with fail
 refine HA.o.mono ?_;rintro e w1 ⟨rfl,rfl⟩;go_wp2_with fail
 go_ret
 exact ⟨rfl,rfl⟩
theorem uP (rb bb sb:Nat) (sl:List ByteArray) (hl:sl.length≤6) (l:List Tk) (en:Int) (w:World) (h:RdAt w rb l en) (hb:w.cell? ⟨bb,0,none⟩=some (.pointer (some ⟨rb,0,none⟩))) (hs:∀i,(hi:i<sl.length)→w.cell? ⟨sb,i,none⟩=some (.string sl[i])) :
    Calls Tryz.prog 135 #[.slice (some ⟨sb,0,none⟩) sl.length sl.length,.func (.func 137) #[] #[.pointer (some ⟨bb,0,none⟩)]] w fun e w'=>e=.returned (.int .i64 (gf l sl 0))∧w=w':=by
 have HS:=zh hs;have HA:=zh (fun s=>yi rb bb s l en w h hb);have F:∀args W,Sem.run Tryz.prog (callFunc 137 args) W=.ok (.enter 137 args) W:=fun _ _=>Tryz.call137 _ _;clear hs h hb;go_enter Tryz.func135,Tryz.ntmps135
 go_wp2_with fail
 go_loopw [8] (fun s8 wr=>∃k:Nat,k≤sl.length∧s8=.int .i64 k∧gf l sl 0=gf l (sl.drop k) k∧w=wr) (fun s8 _=>sl.length-(intOf s8).toNat)
 case atStart=>exact ⟨0,Nat.zero_le _,rfl,rfl,rfl⟩
 case round =>
  obtain ⟨k,hk,rfl,B,rfl⟩:=hrel;have C:=zh B;clear B;by_cases A:k<sl.length
  ·have y0:=HS.o k A
   have HC:=zh (HA.o sl[k])
   have HD:Hd (∀q,atS l 0 sl[k]=q→gf l sl 0=if q then (k:Int) else gf l (sl.drop (k+1)) (k+1)):=zh (fun q hq=>by
     rw [C.o,List.drop_eq_getElem_cons A];show (if atS l 0 sl[k]=true then (k:Int) else _)=_
     rw [hq])
   have D:=zh (HD.o _ rfl);clear HD;generalize atS l 0 sl[k]=q at *;generalize sl[k]=sg at *;go_wp2_with fail
   refine HC.o.mono ?_;rintro e w1 ⟨rfl,rfl⟩
   cases q
   ·go_wp2_with fail
    go_roundw
    case rel=>exact ⟨k+1,by omega,by go_num,D.o,trivial⟩
    case measure=>simp [intOf];omega
   ·go_wp2_with fail
    go_ret
    exact ⟨dq (by rw [D.o];rfl),rfl⟩
  ·have E:k=sl.length:=by omega
   subst E;clear A;go_wp2_with fail
   go_ret
   exact ⟨dq (by rw [C.o,List.drop_length];rfl),rfl⟩
end
section
open Go.RowKit
def iG (en:Int) (O PR:Par Ex) (l:List Tk):List ByteArray→Except (Int×Int) (Ex×List Tk)
 | []=>PR l
 | s :: r=>if atS l 0 s then (match O l.tail with | .error e=>.error e | .ok (x,r)=>.ok (.mk 7 0 s [x] (aT en l),r)) else iG en O PR l r
theorem uQ (en:Int) (O PR:Par Ex) (l:List Tk):iG en O PR l [gc,mX]=(if atS l 0 gc then (O.bind fun x=>okP (.mk 7 0 gc [x] (aT en l))) l.tail else if atS l 0 mX then (O.bind fun x=>okP (.mk 7 0 mX [x] (aT en l))) l.tail else PR l):=by
 unfold iG iG iG Par.bind okP;split
 ·cases O l.tail<;>rfl
 ·split
  ·cases O l.tail<;>rfl
  ·rfl
theorem lT {S:Nat→Prop} {b:Nat} {w:World} {op num pos:Int} {text:ByteArray} {s0:Option Addr} {n cap:Nat} {x:Ex} (h:RepEx S w [.int .i64 op,.int .i64 num,.string text,.slice s0 n cap,.int .i64 pos] x) (hb:S b) (hl:w.heap[b]?=some (.cells #[.int .i64 op,.int .i64 num,.string text,.slice s0 n cap,.int .i64 pos] 144 (0,0))) :
    RepExs S w (.slice (some ⟨b,0,none⟩) 1 1) [x]:=by
 refine ⟨fun _=>[.int .i64 op,.int .i64 num,.string text,.slice s0 n cap,.int .i64 pos],⟨some ⟨b,0,none⟩,1,rfl,Nat.le_refl _,by unfold maxLen;omega,fun e=>(by cases e),fun _=>⟨b,0,rfl,hb,ae hl,fun i hi j hj=>?_⟩,fun i _=>rfl⟩,fun i hi=>?_⟩
 ·obtain rfl:i=0:=by simp at hi;exact hi
  rcases (show j=0∨j=1∨j=2∨j=3∨j=4 by omega) with rfl | rfl | rfl | rfl | rfl<;>exact aa hl rfl
 ·obtain rfl:i=0:=by simp at hi;exact hi
  exact h
theorem yj (rb:Nat) (d:Int) (hl:0≤d) (hd:d≤32) (en:Int) (O PR:Par Ex) (HO:d+1≤32→cU rb en 134 #[.pointer (some ⟨rb,0,none⟩),.int .i64 (d+1)] O) (H:32<d+1→∀l,O l=.error (42,aT en l)) (HP:cU rb en 139 #[.pointer (some ⟨rb,0,none⟩),.int .i64 d] PR) :
    cU rb en 134 #[.pointer (some ⟨rb,0,none⟩),.int .i64 d] (fun l=>iG en O PR l [gc,mX]):=by
 intro l w h;have hg:=zh HO;have k:=zh H;have he:=zh HP;have z:=zh h.lt;have h2:Below w.heap.size w (w.alloc (.cells #[.int .i64 0,.int .i64 0,.string ⟨#[]⟩,.slice none 0 0,.int .i64 0] 144)):=ag (Below.refl _ _) _;have HH:=zh (h.on h2);have h1:=ag h2 (.cells #[.string ⟨[45].toArray⟩,.string ⟨[33].toArray⟩] 9);have hh:=zh (h.on h1);have y:=zh (On.of_below h1:On rb w _);have HT:=zh (fun (s:ByteArray) (W:World) (hW:RdAt W rb l en)=>iU rb s l en W hW);have hk:d+1<100:=by omega
 have HD:=zh hd;have g:Hd (∀v,(iG en O PR l [gc,mX]=v)→(fun l=>iG en O PR l [gc,mX]) l=v):=zh (fun v h=>h);clear HO H HP h h2 h1 hd;dsimp only;generalize hR:iG en O PR l [gc,mX]=R at *;have HR:=zh hR;clear hR g;unfold gc mX str at *;go_enter Tryz.func134,Tryz.ntmps134
 go_wp2_with fail
 refine (fM rb l en _ HH.o).mono ?_;rintro e w1 ⟨rfl,rfl⟩;go_wp2_with fail
 generalize V:((w.alloc (.cells #[.int .i64 0,.int .i64 0,.string ⟨#[]⟩,.slice none 0 0,.int .i64 0] 144)).alloc (.cells #[.string ⟨[45].toArray⟩,.string ⟨[33].toArray⟩] 9))=W0 at *;have hn:=zh V;have E:W0.heap[w.heap.size]?=some (.cells #[.int .i64 0,.int .i64 0,.string ⟨#[]⟩,.slice none 0 0,.int .i64 0] 144):=by rw [←V];exact az _ _ _ _ (am _ _ _ rfl)
 have N:W0.heap[w.heap.size+1]?=some (.cells #[.string ⟨[45].toArray⟩,.string ⟨[33].toArray⟩] 9):=by rw [←V];exact am _ _ _ (ah _ _)
 have U:=zh E;have S:=zh N;clear E N V;generalize h4:aT en l=pl at *;have hf:=zh h4;clear h4;go_loopw [12] (fun s12 wr=>∃j:Nat,j≤2∧s12=.int .i64 j∧R=iG en O PR l (([⟨[45].toArray⟩,⟨[33].toArray⟩]:List ByteArray).drop j)∧RdAt wr rb l en∧On rb W0 wr) (fun s12 _=>2-(intOf s12).toNat)
 case atStart=>exact ⟨0,by omega,rfl,HR.o.symm,hh.o,On.refl _ _⟩
 case round =>
  obtain ⟨j,hj,rfl,h7,h3,L⟩:=hrel;have f:=zh h7;have h9:=zh h3;have Z:=zh L;have K:=zh (show w.heap.size≠rb∧w.heap.size+1≠rb from by have:=z.o;omega);have J:=zh (L.obj K.o.1 U.o);clear h7 h3;by_cases h5:j=2
  ·subst h5
   clear L;go_wp2_with fail
   refine (he.o l _ h9.o).mono ?_;rintro e w2 hp;rcases hp.cases with ⟨er,p,hm,rfl,ho⟩ | ⟨x,r,v,hm,rfl,hv,hr,ho⟩
   ·have HF:=zh (show R=.error (er,p) from f.o.trans hm)
    have u:=zh (y.o.trans (Z.o.trans ho));clear hp hm ho;unfold Pan;go_wp2_with fail
    exact ⟨rfl,PSays.err HF.o u.o⟩
   ·have HF:=zh (show R=.ok (x,r) from f.o.trans hm)
    have u:=zh (y.o.trans (Z.o.trans ho));have hc:=zh hr;have D:=ae J.o;have A:=ho.obj (k':=w.heap.size) K.o.1 J.o;obtain ⟨op,num,text,s0,n,cap,pos,rfl,C⟩:=hv;have I:=zh C;have f0:=af A 0;have f1:=af A 1;have f2:=af A 2;have f3:=af A 3;have f4:=af A 4;have c0:=aa A (j:=0) rfl;have c1:=aa A (j:=1) rfl;have c2:=aa A (j:=2) rfl;have c3:=aa A (j:=3) rfl;have c4:=aa A (j:=4) rfl;clear hp hm ho hr C A;go_wp2_with fail
    have B:On w.heap.size w2 (set5 w2 w.heap.size (.int .i64 op) (.int .i64 num) (.string text) (.slice s0 n cap) (.int .i64 pos)):=(On.refl _ _).set5 _ _ _ _ _;have i:=hc.o.off B z.o;have m:=u.o.new B (Nat.le_refl _);have c:=I.o.keep (Stays.of_on B D);refine bodyPost_ret (v:=.agg #[.int .i64 op,.int .i64 num,.string text,.slice s0 n cap,.int .i64 pos]) (by simp [results,Tryz.results134,go_sem,c0,c1,c2,c3,c4]) rfl ?_;exact PSays.ok HF.o ⟨_,_,_,_,_,_,_,rfl,c.down (Nat.le_of_lt D)⟩ i m
  ·obtain ⟨sg,y0,F⟩:∃sg,wr.cell? ⟨w.heap.size+1,j,none⟩=some (.string sg)∧(([⟨[45].toArray⟩,⟨[33].toArray⟩]:List ByteArray).drop j)=sg :: (([⟨[45].toArray⟩,⟨[33].toArray⟩]:List ByteArray).drop (j+1)):=by
     rcases (show j=0∨j=1 by omega) with rfl | rfl
     ·exact ⟨_,aa (L.obj K.o.2 S.o) rfl,rfl⟩
     ·exact ⟨_,aa (L.obj K.o.2 S.o) rfl,rfl⟩
   have hi:j<2:=by omega
   have h8:Hd (∀q,atS l 0 sg=q→R=if q then (match O l.tail with | .error e=>.error e | .ok (x,r)=>.ok (.mk 7 0 sg [x] (aT en l),r)) else iG en O PR l (([⟨[45].toArray⟩,⟨[33].toArray⟩]:List ByteArray).drop (j+1))):=zh (fun q hq=>by
     rw [f.o,F,←hq];rfl)
   clear F L h5 hj;have X:=zh (HT.o sg wr h9.o)
   cases hq:atS l 0 sg
   ·rw [hq] at X
    have T:=zh (h8.o _ hq);clear hq;go_wp2_with fail
    refine X.o.mono ?_;rintro e w2 ⟨rfl,P,M⟩;have Y:=zh P;have H:=zh (Z.o.trans M);clear P M;go_wp2_with fail
    go_roundw
    case rel=>exact ⟨j+1,by omega,by go_num,by simpa using T.o,Y.o,H.o⟩
    case measure=>simp [intOf];omega
   ·rw [hq] at X
    have T:=zh (h8.o _ hq);clear hq;go_wp2_with fail
    refine X.o.mono ?_;rintro e w2 ⟨rfl,P,M⟩;have Y:=zh P;have H:=zh (y.o.trans (Z.o.trans M));have G:=zh (M.obj K.o.1 J.o);clear P M y0;by_cases h6:d+1≤32
    ·go_wp2_with fail
     refine (o7 rb _ _ h6).mono ?_;rintro e w3 ⟨rfl,rfl⟩;go_wp2_with fail
     refine (hg.o h6 l.tail _ Y.o).mono ?_;rintro e w3 hp;rcases hp.cases with ⟨er,p,hm,rfl,ho⟩ | ⟨x,r,v,hm,rfl,hv,hr,ho⟩
     ·have HF:=zh (show R=.error (er,p) from by rw [T.o,hm];rfl)
      have t:=zh (H.o.trans ho);clear hp hm ho;unfold Pan;go_wp2_with fail
      exact ⟨rfl,PSays.err HF.o t.o⟩
     ·have HF:=zh (show R=.ok (.mk 7 0 sg [x] pl,r) from by rw [T.o,hm,hf.o];rfl)
      have t:=zh (H.o.trans ho);have hb:=zh hr;have D:=ae G.o;have a:=ho.size;obtain ⟨op,num,text,s0,n,cap,pos,rfl,C⟩:=hv;have I:=zh C;have b:Below w3.heap.size w3 (w3.alloc (.cells #[.int .i64 op,.int .i64 num,.string text,.slice s0 n cap,.int .i64 pos] 144)):=ag (Below.refl _ _) _;have h0:=zh b;have A:=(On.of_below b:On rb w3 _).obj K.o.1 (ho.obj (k':=w.heap.size) K.o.1 G.o);have f0:=af A 0;have f1:=af A 1;have f2:=af A 2;have f3:=af A 3;have f4:=af A 4;have c0:=aa A (j:=0) rfl;have c1:=aa A (j:=1) rfl;have c2:=aa A (j:=2) rfl;have c3:=aa A (j:=3) rfl;have c4:=aa A (j:=4) rfl;clear hp hm ho hr C A b;go_wp2_with fail
      have B:On w.heap.size (w3.alloc (.cells #[.int .i64 op,.int .i64 num,.string text,.slice s0 n cap,.int .i64 pos] 144)) (set5 (w3.alloc (.cells #[.int .i64 op,.int .i64 num,.string text,.slice s0 n cap,.int .i64 pos] 144)) w.heap.size (.int .i64 7) (.int .i64 0) (.string sg) (.slice (some ⟨w3.heap.size,0,none⟩) 1 1) (.int .i64 pl)):=(On.refl _ _).set5 _ _ _ _ _;have i:=(hb.o.on h0.o).off B z.o;have m:=(t.o.trans (On.of_below h0.o)).new B (Nat.le_refl _);have c:=I.o.keep ((Stays.of_below h0.o).trans (Stays.of_on B D));have ha:=RepEx.of (op:=7) (num:=0) (pos:=pl) (text:=sg) (lT c a (B.obj (by omega) (am _ _ _ rfl)));refine bodyPost_ret (v:=.agg #[.int .i64 7,.int .i64 0,.string sg,.slice (some ⟨w3.heap.size,0,none⟩) 1 1,.int .i64 pl]) (by simp [results,Tryz.results134,go_sem,c0,c1,c2,c3,c4]) rfl ?_;exact PSays.ok HF.o ⟨_,_,_,_,_,_,_,rfl,ha.down (Nat.le_of_lt D)⟩ i m
    ·have Q:32<d+1:=by omega
     go_wp2_with fail
     refine (oY rb l.tail en _ _ Y.o Q).mono ?_;rintro e w3 ⟨rfl,rfl⟩;have HF:=zh (show R=.error (42,aT en l.tail) from by rw [T.o,k.o Q l.tail];rfl);unfold Pan;go_wp2_with fail
     exact ⟨rfl,PSays.err HF.o H.o⟩
end
section
open Go.RowKit
theorem sG (rb:Nat) (d en:Int) (P:Par Ex) (HE:cU rb en 134 #[.pointer (some ⟨rb,0,none⟩),.int .i64 d] P):cU rb en 129 #[.pointer (some ⟨rb,0,none⟩),.int .i64 5,.int .i64 d] P:=by
 intro l w h;have N:=zh HE;have I:=zh h.lt;have F:Below w.heap.size w ((w.alloc (.cells #[.pointer (some ⟨rb,0,none⟩)] 94)).alloc (.cells #[.int .i64 0,.int .i64 0,.string ⟨#[]⟩,.slice none 0 0,.int .i64 0] 144)):=ag (ag (Below.refl _ _) _) _;have HH:=zh (h.on F);have H:=zh (On.of_below F:On rb w _);clear HE h F;go_enter Tryz.func129,Tryz.ntmps129
 go_wp2_with fail
 refine (N.o l _ HH.o).mono ?_;rintro e w2 hp;rcases hp.cases with ⟨er,p,hm,rfl,ho⟩ | ⟨x,r,v,hm,rfl,hv,hr,ho⟩
 ·have HF:=zh hm
  have E:=zh (H.o.trans ho);clear hp hm ho;unfold Pan;go_wp2_with fail
  exact ⟨rfl,PSays.err HF.o E.o⟩
 ·have HF:=zh hm
  have E:=zh (H.o.trans ho);have L:=zh hr;have A:=ho.obj (k':=w.heap.size+1) (o:=.cells #[.int .i64 0,.int .i64 0,.string ⟨#[]⟩,.slice none 0 0,.int .i64 0] 144) (by have:=I.o;omega) (am _ _ _ (ah _ _));have G:w.heap.size+1+1=((w.alloc (.cells #[.pointer (some ⟨rb,0,none⟩)] 94)).alloc (.cells #[.int .i64 0,.int .i64 0,.string ⟨#[]⟩,.slice none 0 0,.int .i64 0] 144)).heap.size:=by rw [ah,ah]
  rw [←G] at hv;obtain ⟨op,num,text,s0,n,cap,pos,rfl,B⟩:=hv;have C:=zh B;have f0:=af A 0;have f1:=af A 1;have f2:=af A 2;have f3:=af A 3;have f4:=af A 4;have c0:=aa A (j:=0) rfl;have c1:=aa A (j:=1) rfl;have c2:=aa A (j:=2) rfl;have c3:=aa A (j:=3) rfl;have c4:=aa A (j:=4) rfl;clear hp hm ho hr B A G;go_wp2_with fail
  have D:On (w.heap.size+1) w2 (set5 w2 (w.heap.size+1) (.int .i64 op) (.int .i64 num) (.string text) (.slice s0 n cap) (.int .i64 pos)):=(On.refl _ _).set5 _ _ _ _ _;have K:=L.o.off D (Nat.lt_succ_of_lt I.o);have M:=E.o.new D (Nat.le_succ _);have J:=C.o.keep (Stays.of_on D (Nat.lt_succ_self _));refine bodyPost_ret (v:=.agg #[.int .i64 op,.int .i64 num,.string text,.slice s0 n cap,.int .i64 pos]) (by simp [results,Tryz.results129,go_sem,c0,c1,c2,c3,c4]) rfl ?_;exact PSays.ok HF.o ⟨_,_,_,_,_,_,_,rfl,J.down (by omega)⟩ K M
end
section
open Go.RowKit
theorem mJ {w:World} {k:Nat} {a b c d e a' b' c' d' e':Value} {t:TypeId} (h:w.heap[k]?=some (.cells #[a,b,c,d,e] t (0,0))):(set5 w k a' b' c' d' e').heap[k]?=some (.cells #[a',b',c',d',e'] t (0,0)):=
 aq (aq (aq (aq (aq h 0 a') 1 b') 2 c') 3 d') 4 e'
theorem pw {S:Nat→Prop} {b:Nat} {w:World} {op num pos E C B:Int} {text A:ByteArray} {s0 s2:Option Addr} {n cap n2 D:Nat} {x y:Ex} (h:RepEx S w [.int .i64 op,.int .i64 num,.string text,.slice s0 n cap,.int .i64 pos] x)
    (h2:RepEx S w [.int .i64 E,.int .i64 C,.string A,.slice s2 n2 D,.int .i64 B] y) (hb:S b) (hl:w.heap[b]?=some (.cells #[.int .i64 op,.int .i64 num,.string text,.slice s0 n cap,.int .i64 pos,.int .i64 E,.int .i64 C,.string A,.slice s2 n2 D,.int .i64 B] 144 (0,0))) :
    RepExs S w (.slice (some ⟨b,0,none⟩) 2 2) [x,y]:=by
 refine ⟨fun i=>if i=0 then [.int .i64 op,.int .i64 num,.string text,.slice s0 n cap,.int .i64 pos] else [.int .i64 E,.int .i64 C,.string A,.slice s2 n2 D,.int .i64 B],⟨some ⟨b,0,none⟩,2,rfl,Nat.le_refl _,by unfold maxLen;omega,fun e=>(by cases e),fun _=>⟨b,0,rfl,hb,ae hl,fun i hi j hj=>?_⟩,fun i _=>?_⟩,fun i hi=>?_⟩
 ·have F:i<2:=hi
  rcases (show i=0∨i=1 by omega) with rfl | rfl<;>rcases (show j=0∨j=1∨j=2∨j=3∨j=4 by omega) with rfl | rfl | rfl | rfl | rfl<;>exact aa hl rfl
 ·dsimp only
  split<;>rfl
 ·have F:i<2:=hi
  rcases (show i=0∨i=1 by omega) with rfl | rfl
  ·exact h
  ·exact h2
end
end
section
open Go.RowKit
def PSaysT {α:Type} (rb:Nat) (en:Int) (T:Nat→Prop) (w:World) (R:World→α→Value→Prop) (r:Except (Int×Int) (α×List Tk)) (e:Ending) (w':World):Prop:=
 (match r with
  | .error (er,p)=>e=Pan er p
  | .ok (x,l)=>∃v,e=.returned v∧R w' x v∧RdAt w' rb l en)∧OnS T w w'
theorem PSaysT.cases {α:Type} {rb:Nat} {en:Int} {T:Nat→Prop} {w w':World} {R:World→α→Value→Prop} {r:Except (Int×Int) (α×List Tk)} {e:Ending} (h:PSaysT rb en T w R r e w') :
    (∃er p,r=.error (er,p)∧e=Pan er p∧OnS T w w')∨(∃x l v,r=.ok (x,l)∧e=.returned v∧R w' x v∧RdAt w' rb l en∧OnS T w w'):=by
 obtain ⟨h,ho⟩:=h
 cases r with
 | error q =>
  obtain ⟨er,p⟩:=q;exact .inl ⟨er,p,rfl,h,ho⟩
 | ok q =>
  obtain ⟨x,l⟩:=q;obtain ⟨v,h1,h2,h3⟩:=h;exact .inr ⟨x,l,v,rfl,h1,h2,h3,ho⟩
theorem PSaysT.err {α:Type} {rb:Nat} {en:Int} {T:Nat→Prop} {w w':World} {R:World→α→Value→Prop} {r:Except (Int×Int) (α×List Tk)} {er p:Int} (hr:r=.error (er,p)) (ho:OnS T w w'):PSaysT rb en T w R r (Pan er p) w':=by
 subst hr;exact ⟨rfl,ho⟩
theorem PSaysT.ok {α:Type} {rb:Nat} {en:Int} {T:Nat→Prop} {w w':World} {R:World→α→Value→Prop} {r:Except (Int×Int) (α×List Tk)} {x:α} {l:List Tk} {v:Value} (hr:r=.ok (x,l)) (hR:R w' x v) (A:RdAt w' rb l en) (ho:OnS T w w'):PSaysT rb en T w R r (.returned v) w':=by
 subst hr;exact ⟨⟨v,rfl,hR,A⟩,ho⟩
end
section
open Go
section
variable {P:Program} {ops:Array Oper} {md:Region.Mode} {Q:Exit→Act→World→Prop}
def cZ (P:Program) (ops:Array Oper) (Q:Exit→Act→World→Prop) (tl:List Oper):Exit→Act→World→Prop
 | .normal,a,w=>wpList P ops Q tl a w
 | e,a,w=>Q e a w
def kj (md:Region.Mode) (ops:Array Oper) (n:Nat):Bool:=
 (List.range n).all fun i=>match ops[i]? with
  | some o=>(o.after.all fun e=>!Region.binds md e || decide (e.on<i))&&(match o.guard with | some (g,_)=>decide (g<n) | none=>true)
  | none=>false
theorem gZ {n i:Nat} (h:kj md ops n=true) (hi:i<n):∃o,ops[i]?=some o∧(∀e∈o.after,Region.binds md e=true→e.on<i)∧(∀g b,o.guard=some (g,b)→g<n):=by
 have h1:=List.all_eq_true.1 h i (List.mem_range.2 hi)
 cases ho:ops[i]? with
 | none=>simp [ho] at h1
 | some o =>
  simp only [ho,Bool.and_eq_true,Array.all_eq_true_iff_forall_mem,Bool.or_eq_true,Bool.not_eq_true',decide_eq_true_eq] at h1
  refine ⟨o,rfl,fun e he hb=>((h1.1 e he).resolve_left (by simp [hb])),fun g b hg=>?_⟩;have h2:=h1.2;rw [hg] at h2;simpa using h2
theorem qg {Q':Exit→Act→World→Prop} (x:Nat):∀(l:List Oper) (k:Nat) (listed:Array Bool) (a:Act) (w:World),(∀j,l[j]?=ops[k+j]?) →
    Region.seqB md ops l.length k listed=true→wpList P ops Q' l a w→wpAny P md ops Q' (l.length+x) listed a w
 | [],_,listed,a,w,_,hB,h=>by
  have hr:Region.ready md ops listed=[]:=by simpa [Region.seqB] using hB
  cases x with
  | zero=>exact ⟨hr,h⟩
  | succ x =>
   show wpAny P md ops Q' (0+(x+1)) listed a w
   rw [Nat.zero_add];exact ⟨fun _=>h,fun i hi=>by rw [hr] at hi;cases hi⟩
 | o :: l,k,listed,a,w,hl,hB,h=>by
  have h0:ops[k]?=some o:=by simpa using (hl 0).symm
  simp only [List.length_cons,Region.seqB,Bool.and_eq_true,decide_eq_true_eq] at hB
  rw [show (o :: l).length+x=(l.length+x)+1 by simp;omega];refine ⟨fun h1=>(by rw [hB.1] at h1;cases h1),fun i hi=>?_⟩;rw [hB.1] at hi;obtain rfl:i=k:=by simpa using hi
  have hw:wpOp P ops Q' i (wpList P ops Q' l) a w:=by unfold wpOp;simp only [h0];exact h
  exact wpOp_mono (fun a' w' h'=>qg x l (i+1) _ a' w' (fun j=>by have:=hl (j+1);simpa [Nat.add_assoc,Nat.add_comm 1 j] using this) hB.2 h') hw
structure Alike (n:Nat) (lh listed:Array Bool):Prop where
 size:lh.size=n
 same:∀j,j<n→lh[j]?=listed[j]?
theorem Alike.getD {n:Nat} {lh listed:Array Bool} (h:Alike n lh listed) {j:Nat} (hj:j<n) (d:Bool):lh.getD j d=listed.getD j d:=by
 rw [Array.getD_eq_getD_getElem?,Array.getD_eq_getD_getElem?,h.same j hj]
theorem Alike.set {n:Nat} {lh listed:Array Bool} (h:Alike n lh listed) (i:Nat) (hs:n≤listed.size):Alike n (lh.setIfInBounds i true) (listed.setIfInBounds i true):=by
 refine ⟨by simp [h.size],fun j hj=>?_⟩;rw [Array.getElem?_setIfInBounds,Array.getElem?_setIfInBounds,h.same j hj,h.size];by_cases e:i=j
 ·subst e
  simp [hj,show i<listed.size by omega]
 ·simp [e]
variable {n:Nat} {hd:Array Oper}
theorem il (hh:∀j,j<n→hd[j]?=ops[j]?) (hB:kj md ops n=true) {lh listed:Array Bool} (al:Alike n lh listed) {i:Nat} (hi:i<n) :
    i∈Region.ready md hd lh ↔ i∈Region.ready md ops listed:=by
 rw [mem_ready,mem_ready,hh i hi,al.getD hi];refine and_congr_right fun _=>?_;obtain ⟨o,ho,hb,_⟩:=gZ hB hi;rw [ho];constructor
 ·rintro ⟨o',h1,h2⟩
  obtain rfl:=Option.some.inj h1;exact ⟨o,rfl,fun e he A=>by rw [←al.getD (by have:=hb e he A;omega)];exact h2 e he A⟩
 ·rintro ⟨o',h1,h2⟩
  obtain rfl:=Option.some.inj h1;exact ⟨o,rfl,fun e he A=>by rw [al.getD (by have:=hb e he A;omega)];exact h2 e he A⟩
theorem rh (A:hd.size=n) {lh:Array Bool} {i:Nat} (h:i∈Region.ready md hd lh):i<n:=by
 obtain ⟨_,o,ho,_⟩:=mem_ready.1 h;have:=(Array.getElem?_eq_some_iff.1 ho).1;omega
theorem mB (hh:∀j,j<n→hd[j]?=ops[j]?) (hB:kj md ops n=true) {lh:Array Bool} (hs:lh.size=n) (hr:Region.ready md hd lh=[]):∀i,i<n→lh.getD i true=true:=by
 intro i;induction i using Nat.strongRecOn with
 | _ i ih =>
  intro hi
  cases hl:lh.getD i true with
  | true=>rfl
  | false =>
   exfalso
   obtain ⟨o,ho,hb,_⟩:=gZ hB hi
   have:i∈Region.ready md hd lh:=mem_ready.2 ⟨hl,o,by rw [hh i hi,ho],fun e he A=>by
     have h1:=hb e he A;have h2:=ih e.on h1 (by omega);have h3:e.on<lh.size:=by omega
     simp [h3] at h2 ⊢
     exact h2⟩
   rw [hr] at this
   cases this
theorem pH (hh:∀j,j<n→hd[j]?=ops[j]?) (tm:Array Value) {j:Nat} (hj:j<n):yielded hd tm j=yielded ops tm j:=by
 unfold yielded;rw [hh j hj]
theorem lD (hh:∀j,j<n→hd[j]?=ops[j]?) (tm:Array Value) {o:Oper} (hg:∀g b,o.guard=some (g,b)→g<n):Region.wanted o (yielded hd tm)=Region.wanted o (yielded ops tm):=by
 unfold Region.wanted
 cases hq:o.guard with
 | none=>rfl
 | some p =>
  obtain ⟨g,b⟩:=p;simp only [pH hh tm (hg g b hq)]
theorem vB {tl:List Oper} {o:Oper} {a:Act} {w:World} {K:Act→World→Prop} (h:o.wp P a w K (cZ P ops Q tl)):o.wp P a w K Q:=by
 unfold Oper.wp at *;generalize (execOp a.eval o).run P w=r at *
 cases r with
 | ok n w' =>
  cases n<;>simp only [Oper.upon] at h ⊢ <;>
   first
    | exact h
    | exact Calls.mono h (fun e w'' he=>by cases e<;>exact he)
 | halt x w'=>cases x<;>simp only [Oper.upon] at h ⊢<;>exact h
theorem yW (hh:∀j,j<n→hd[j]?=ops[j]?) (hB:kj md ops n=true) {tl:List Oper} {i:Nat} (hi:i<n) {K:Act→World→Prop} {a:Act} {w:World}
    (h:wpOp P hd (cZ P ops Q tl) i K a w):wpOp P ops Q i K a w:=by
 obtain ⟨o,ho,_,hg⟩:=gZ hB hi;unfold wpOp at *;rw [hh i hi,ho] at h;rw [ho];simp only [lD hh _ hg] at h ⊢
 split
 ·rename_i hw
  rw [if_pos hw] at h;exact h.imp vB (fun q=>q)
 ·rename_i hw
  rw [if_neg hw] at h;exact h
theorem vy {tl:List Oper} (hh:∀j,j<n→hd[j]?=ops[j]?) (I:hd.size=n) (H:∀j,tl[j]?=ops[n+j]?) (hn:n<ops.size) (hs:Region.sinkB md ops n=true) (hc:Region.chainB md ops n=true)
    (hB:kj md ops n=true) (hq:∀listed:Array Bool,HeadInv md ops n listed→(∀i,i<n→listed.getD i true=true)→Region.seqB md ops tl.length n listed=true) (x:Nat) :
    ∀(f:Nat) (lh listed:Array Bool) (a:Act) (w:World),Alike n lh listed→HeadInv md ops n listed→wpAny P md hd (cZ P ops Q tl) f lh a w→wpAny P md ops Q (f+(tl.length+x)) listed a w:=by
 have A:∀(lh listed:Array Bool) (a:Act) (w:World),Alike n lh listed→HeadInv md ops n listed→Region.ready md hd lh=[]→wpList P ops Q tl a w→∀y,wpAny P md ops Q (tl.length+y) listed a w:=by
  intro lh listed a w al inv hr h y;have E:=mB hh hB al.size hr;exact qg y tl n listed a w H (hq listed inv (fun i hi=>by rw [←al.getD hi];exact E i hi)) h
 intro f;induction f with
 | zero =>
  intro lh listed a w al inv h;rw [Nat.zero_add];exact A lh listed a w al inv h.1 h.2 x
 | succ f ih =>
  intro lh listed a w al inv h;by_cases hr:Region.ready md hd lh=[]
  ·rw [show f+1+(tl.length+x)=tl.length+(f+1+x) by omega]
   exact A lh listed a w al inv hr (h.1 hr) _
  ·have K:∃i,i∈Region.ready md hd lh:=by
     cases hq:Region.ready md hd lh with
     | nil=>exact absurd hq hr
     | cons i _=>exact ⟨i,by simp⟩
   obtain ⟨i0,F⟩:=K;have B:=rh I F;have C:=(il hh hB al B).1 F;have G:listed.getD i0 true=false:=(mem_ready.1 C).1;rw [show f+1+(tl.length+x)=(f+(tl.length+x))+1 by omega];refine ⟨fun h0=>absurd C (by rw [h0];simp),fun i hi=>?_⟩
   have D:i<n:=by
    rcases Nat.lt_or_ge i n with q | q
    ·exact q
    ·exact absurd hi (tail_waits hs hc hn inv _ i0 rfl B G i q)
   have J:=(il hh hB al D).2 hi;exact wpOp_mono (fun a' w' h'=>ih _ _ a' w' (al.set i (by rw [inv.size];omega)) (inv.set hi D) h') (yW hh hB D (h.2 i J))
end
def wO (ops:Array Oper) (n:Nat):Bool:=
 decide (n<ops.size)&&Region.sinkB .any ops n&&Region.chainB .any ops n&&kj .any ops n &&
  Region.seqB .any ops (ops.size-n) n ((Array.replicate n true)++(Array.replicate (ops.size-n) false))
theorem aD {P:Program} {Q:Exit→Act→World→Prop} {S:World→Prop} {id:Nat} {a:Act} {w:World} {l:List Oper} (n:Nat) (hm:P.follows .mixedOrders=true) (hB:wO l.toArray n=true) (hS:S w.drew)
    (h:S w.drew→wpAnyH P .any (l.take n).toArray (cZ P l.toArray Q (l.drop n)) S n (Array.replicate n false) a w.drew):(Code.region id l.toArray true).wp P Q a w:=by
 simp only [wO,Bool.and_eq_true,decide_eq_true_eq] at hB
 obtain ⟨⟨⟨⟨hn,hs⟩,hc⟩,hb⟩,hq⟩:=hB;have C:n<l.length:=by simpa using hn
 refine wp_region_any hm ?_;have B:(l.drop n).length=l.toArray.size-n:=by simp
 have inv0:HeadInv .any l.toArray n (Array.replicate l.toArray.size false):=
  ⟨by simp,fun j oj _ hl=>(by rw [getD_replicate_false] at hl;cases hl),fun t _ ht=>getD_in (by simpa using ht) (getD_replicate_false _ _)⟩
 have al0:Alike n (Array.replicate n false) (Array.replicate l.toArray.size false):=⟨by simp,fun j hj=>by
   rw [Array.getElem?_replicate,Array.getElem?_replicate,if_pos hj,if_pos (by simp;omega)]⟩
 have:=vy (P:=P) (Q:=Q) (md:=.any) (hd:=(l.take n).toArray) (ops:=l.toArray) (tl:=l.drop n) (n:=n) (fun j hj=>by simp [hj]) (by simp;omega) (fun j=>by simp [List.getElem?_drop]) hn hs hc hb
  (fun listed inv A=>by
    have he:listed=(Array.replicate n true)++(Array.replicate (l.toArray.size-n) false):=by
      refine Array.ext (by simp [inv.size];omega) fun i h1 h2=>?_;have hi:i<l.length:=by have:=inv.size;simp at this;omega
      by_cases e:i<n
      · have:=A i e
        simp [h1] at this
        rw [Array.getElem_append_left (by simpa using e)];simpa using this
      · have:=inv.tail i (by omega) (by simpa using hi)
        simp [h1] at this
        rw [Array.getElem_append_right (by simp;omega)];simpa using this
    rw [he,B];exact hq) 0 n _ _ a w.drew al0 inv0 (wpAny_of_held _ _ _ _ (h hS))
 rw [B,Nat.add_zero,show n+(l.toArray.size-n)=l.toArray.size by simp;omega] at this;exact this
section
variable {P:Program} {ops:Array Oper} {Q:Exit→Act→World→Prop} {md:Region.Mode} {S:World→Prop}
theorem tk (i:Nat) {oi:Oper} {v:Value} {A:Nat} {listed:Array Bool} {a:Act} {w:World} (hy:∀w,S w→(execOp a.eval oi).run P w=.ok (.value v) w)
    (h:wpAnyH P md ops Q S A (listed.setIfInBounds i true) (a.put oi.dst v) w) (hi:ops[i]?=some oi:=by rfl)
    (hs:Region.noSelect ops=true:=by kernel_rfl) (hf:Region.free md ops listed i=true:=by kernel_rfl) (hr:(Region.ready md ops listed).contains i=true:=by kernel_rfl)
    (hg:Region.wanted oi (yielded ops a.tmps)=true:=by rfl) (hQ:∀c a w,Q (.panic c) (a.put oi.dst v) w→Q (.panic c) a w:=by exact fun _ _ _ h=>h) (hS:S w:=by assumption):wpAnyH P md ops Q S (A+1) listed a w:=
 wpAnyH_take hi hs hf hr hQ (.inl ⟨hg,hy⟩) hS h
theorem tkA (i:Nat) {oi:Oper} {v:Value} {A:Nat} {listed:Array Bool} {a:Act} {w:World}
    (h:wpAnyH P md ops Q S A (listed.setIfInBounds i true) (a.put oi.dst v) w)
    (hi:ops[i]?=some oi:=by rfl)
    (hs:Region.noSelect ops=true:=by kernel_rfl) (hf:Region.free md ops listed i=true:=by kernel_rfl) (hr:(Region.ready md ops listed).contains i=true:=by kernel_rfl)
    (hg:Region.wanted oi (yielded ops a.tmps)=true:=by rfl) (hQ:∀c a w,Q (.panic c) (a.put oi.dst v) w→Q (.panic c) a w:=by exact fun _ _ _ h=>h) (hS:S w:=by assumption)
    (hy:∀w,S w→(execOp a.eval oi).run P w=.ok (.value v) w:=by intro w B;(try dsimp only at B);go_simp;try with_reducible rfl):wpAnyH P md ops Q S (A+1) listed a w:=
 tk i hy h hi hs hf hr hg hQ hS
theorem rd1 (i:Nat) {o:Oper} {A:Nat} {listed:Array Bool} {a:Act} {w:World}
    (h:∀K':Act→World→Prop,Shut (∀a w,S w→(S w→wpAnyH P md ops Q S A (listed.setIfInBounds i true) a w)→K' a w)→if Region.wanted o (yielded ops a.tmps)=true then Oper.wp P o a w K' Q else K' (a.put o.dst undef) w)
    (ho:ops[i]?=some o:=by rfl) (hr:Region.ready md ops listed=[i]:=by kernel_rfl):wpAnyH P md ops Q S (A+1) listed a w:=
 wpAnyH_ready hr (by simp) (AllReadyH.cons ho h AllReadyH.nil)
end
end
end Go.Proofs.YtmlgbkomdhcaoaaGreatDoor
