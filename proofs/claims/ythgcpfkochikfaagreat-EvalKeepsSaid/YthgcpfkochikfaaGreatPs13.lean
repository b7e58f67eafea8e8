/-
  EvalSigns: part 13 of its proof: see the last text.
-/
import Derived.Test.YthgcpfkochikfaaGreatPs12
import Derived.IntWalk
import Derived.Test.YthgcpfkochikfaaGreatPs03
set_option maxRecDepth 100000
set_option maxHeartbeats 16000000
namespace Go.Proofs.YthgcpfkochikfaaGreat
section
open Go.RowKit
theorem lK {l:List Tk}:∀(sl:List ByteArray) (i:Nat),sl.find? (fun s=>atS l 0 s)=none→gc l sl i=-1
 | [],_,_=>rfl
 | s :: r,i,h=>by
  rw [List.find?_cons] at h;unfold gc
  cases hq:atS l 0 s
  ·rw [hq] at h
   rw [if_neg (by decide)];exact lK r (i+1) h
  ·rw [hq] at h
   cases h
theorem ju {l:List Tk} {s:ByteArray}:∀(sl:List ByteArray) (i:Nat),sl.find? (fun s=>atS l 0 s)=some s→∃k,sl[k]?=some s∧gc l sl i=((i+k:Nat):Int)∧atS l 0 s=true
 | [],_,h=>by cases h
 | t :: r,i,h=>by
  rw [List.find?_cons] at h;unfold gc
  cases hq:atS l 0 t
  ·rw [hq] at h
   obtain ⟨k,h1,h2,h3⟩:=ju r (i+1) h;refine ⟨k+1,by simpa using h1,?_,h3⟩;rw [if_neg (by decide),h2];congr 1
   omega
  ·rw [hq] at h
   injection h with h
   subst h;exact ⟨0,rfl,by simp,hq⟩
theorem jY (en:Int) (n:Nat) (N:Par Ex) (f:Nat) (x:Ex) (l:List Tk):ej en n N (f+1) x l=(match (bO n).find? (fun s=>atS l 0 s) with
    | none=>.ok (x,l)
    | some s=>(N.bind fun y=>if n=2 then okP (.mk 6 0 s [x,y] (aQ en l)) else ej en n N f (.mk 6 0 s [x,y] (aQ en l))) l.tail):=rfl
theorem tT {l:List Tk} {s:ByteArray} (h:atS l 0 s=true):l.tail.length+1=l.length:=by
 cases l with
 | nil=>rw [lQ] at h;cases h
 | cons t r=>rfl
theorem jQ {n i:Nat} {s:ByteArray} (h:(bO n)[i]?=some s):(bC n)[i]?=some (.string s):=by
 unfold bC;simp [h]
theorem jk (n:Nat):(bO n).length≤6:=by
 match n with
 | 0=>decide
 | 1=>decide
 | 2=>decide
 | 3=>decide
 | n+4=>show 3≤6;decide
theorem RowOf.lies {S:Nat→Prop} {w:World} {v:Value} {sz n:Nat} {cs:Nat→List Value} (h:RowOf S w v sz n cs):RowOf (fun b=>S b∧b<w.heap.size) w v sz n cs:=by
 obtain ⟨s0,cap,h1,h2,h3,h4,h5,h6⟩:=h;refine ⟨s0,cap,h1,h2,h3,h4,fun h0=>?_,h6⟩;obtain ⟨b,off,e,A,hl,hc⟩:=h5 h0;exact ⟨b,off,e,⟨A,hl⟩,hl,hc⟩
theorem RepEx.lies {S:Nat→Prop} {w:World} {cs:List Value} {x:Ex} (h:RepEx S w cs x):RepEx (fun b=>S b∧b<w.heap.size) w cs x:=by
 induction h with
 | mk cs hr _ ih=>exact .mk cs hr.lies ih
theorem gP (rb n:Nat) (hn:n≤4) (d en:Int) (N:Par Ex) (HN:cw rb en 172 #[.pointer (some ⟨rb,0,none⟩),.int .i64 ((n:Int)+1),.int .i64 d] N) (hN:∀l x r,N l=.ok (x,r)→r.length≤l.length) :
    cw rb en 172 #[.pointer (some ⟨rb,0,none⟩),.int .i64 n,.int .i64 d] (fun l=>(N.bind fun x r=>ej en n N (r.length+1) x r) l):=by
 intro l w h;have H6:=zh HN;have Hn:=zh hN;have U:=zh h.lt;have H9:Below w.heap.size w ((w.alloc (.cells #[.pointer (some ⟨rb,0,none⟩)] 108)).alloc (.cells #[.int .i64 0,.int .i64 0,.string ⟨#[]⟩,.slice none 0 0,.int .i64 0] 178)):=ag (ag (Below.refl _ _) _) _;have HH:=zh (h.on H9);have Hm:=zh (On.of_below H9:On rb w _);have HB:((n:Int)==5)=false:=by simp;omega
 have Hz:(n:Int)≤4:=by omega
 have HM:Hd (∀v,N l=v→(fun l=>(N.bind fun x r=>ej en n N (r.length+1) x r) l) l=(match v with | .error e=>.error e | .ok (x,r)=>ej en n N (r.length+1) x r)):=zh (fun v hv=>by
   show Par.bind N _ l=_
   unfold Par.bind;rw [hv]
   cases v<;>rfl)
 generalize (fun l=>(N.bind fun x r=>ej en n N (r.length+1) x r) l) l=R at *;clear HN h H9 hN;go_enter Tryz.func172,Tryz.ntmps172
 go_wp2_with fail
 refine (H6.o l _ HH.o).mono ?_;rintro e w2 hp;rcases hp.cases with ⟨er,p,hm,rfl,ho⟩ | ⟨x0,r0,v,hm,rfl,hv,hr,ho⟩
 ·have HF:=zh (HM.o _ hm)
  have hT:=zh (Hm.o.trans ho);clear hp hm ho;unfold Pan;go_wp2_with fail
  exact ⟨rfl,PSays.err HF.o hT.o⟩
 ·have HF:=zh (show R=ej en n N (r0.length+1) x0 r0 from HM.o _ hm)
  have hT:=zh (Hm.o.trans ho);have Hk:=zh hr;have h9:=zh (ho.obj (k':=w.heap.size) (o:=.cells #[.pointer (some ⟨rb,0,none⟩)] 108) (by have:=U.o;omega) (ax _ _ _ _ (aj _ _ _ rfl)));have hM:=zh (ho.obj (k':=w.heap.size+1) (o:=.cells #[.int .i64 0,.int .i64 0,.string ⟨#[]⟩,.slice none 0 0,.int .i64 0] 178) (by have:=U.o;omega) (aj _ _ _ (ah _ _)));have hX:w.heap.size+1+1=((w.alloc (.cells #[.pointer (some ⟨rb,0,none⟩)] 108)).alloc (.cells #[.int .i64 0,.int .i64 0,.string ⟨#[]⟩,.slice none 0 0,.int .i64 0] 178)).heap.size:=by rw [ah,ah]
  have H1:w.heap.size+1+1≤w2.heap.size:=by rw [hX];exact ho.size
  rw [←hX] at hv;obtain ⟨op,num,text,s0,nk,cap,pos,rfl,t⟩:=hv;have V:=zh t;clear hp hm ho hr t hX;go_wp2_with fail
  have hy:Below w2.heap.size w2 (w2.alloc (.cells #[.int .i64 op,.int .i64 num,.string text,.slice s0 nk cap,.int .i64 pos] 178)):=ag (Below.refl _ _) _;have H:=zh (And.intro (Hk.o.on hy) (And.intro (hT.o.trans (On.of_below hy)) (And.intro ((On.of_below hy:On rb w2 _).obj (by have:=U.o;omega) h9.o) (And.intro ((On.of_below hy:On rb w2 _).obj (by have:=U.o;omega) hM.o) (And.intro (aj w2 (.cells #[.int .i64 op,.int .i64 num,.string text,.slice s0 nk cap,.int .i64 pos] 178) _ rfl) ((V.o.lies.mono (S':=fun b=>w.heap.size+1+1≤b∧b≠w2.heap.size) (fun b hb=>⟨hb.1,Nat.ne_of_lt hb.2⟩)).keep (Stays.of_below hy)))))));clear hy V Hk hT h9 hM;generalize Ht:w2.heap.size=XB at *;have O:=zh H1;have H3:=zh (show rb<XB from by have:=U.o;omega);clear Ht;go_loopg [8] (r0.length+1) (fun g s8 wr=>∃(xc:Ex) (lc:List Tk) (op num:Int) (text:ByteArray) (s0:Option Addr) (nk cap:Nat) (pos:Int),R=ej en n N g xc lc∧lc.length<g∧RdAt wr rb lc en∧On rb w wr∧wr.heap[w.heap.size]?=some (.cells #[.pointer (some ⟨rb,0,none⟩)] 108)∧wr.heap[w.heap.size+1]?=some (.cells #[.int .i64 0,.int .i64 0,.string ⟨#[]⟩,.slice none 0 0,.int .i64 0] 178)∧wr.heap[XB]?=some (.cells #[.int .i64 op,.int .i64 num,.string text,.slice s0 nk cap,.int .i64 pos] 178)∧RepEx (fun b=>w.heap.size+1+1≤b∧b≠XB) wr [.int .i64 op,.int .i64 num,.string text,.slice s0 nk cap,.int .i64 pos] xc)
  case atStart=>exact ⟨x0,r0,_,_,_,_,_,_,_,HF.o,Nat.lt_succ_self _,H.o.1,H.o.2.1,H.o.2.2.1,H.o.2.2.2.1,H.o.2.2.2.2.1,H.o.2.2.2.2.2⟩
  case round =>
   clear H HF HM;obtain ⟨xc,lc,op,num,text,s0,nk,cap,pos,hR,Hg,Ha,Hc,hB,a,hx,t⟩:=hrel;obtain ⟨g,rfl⟩:∃g,gk=g+1:=⟨gk-1,by omega⟩
   have hG:=zh Ha;have Hl:=zh Hc;have h9:=zh hB;have hM:=zh a;have HX:=zh hx;have V:=zh t;have Hj:=zh hR;have H7:=zh Hg;have HS:=zh (vY n hn);clear Ha Hc hB a hx t hR Hg;have hw:Below wr.heap.size wr (wr.alloc (.cells (bC n) 9)):=ag (Below.refl _ _) _;have HI:=zh (uE rb w.heap.size wr.heap.size (bO n) (jk n) lc en _ (hG.o.on hw) (aa ((hw.block _ (af h9.o)).trans h9.o) rfl) (fun i hi=>aA _ _ _ _ _ _ rfl (jQ (List.getElem?_eq_getElem hi))));have m:=zh hw;clear hw
   cases hf:(bO n).find? (fun s=>atS lc 0 s) with
   | none =>
    have hA:=lK (bO n) 0 hf;rw [hA] at HI
    have HF:Hd (R=.ok (xc,lc)):=zh (by
      rw [Hj.o];unfold ej;simp only [hf])
    clear hf hA;go_wp2_with fail
    refine (HS.o _).mono ?_;rintro e w3 ⟨rfl,rfl⟩;go_wp2_with fail
    refine HI.o.mono ?_;rintro e w3 ⟨rfl,rfl⟩;have hx:=ax wr _ (.cells (bC n) 9) _ HX.o;have a:=ax wr _ (.cells (bC n) 9) _ hM.o;have x0:=aa hx (j:=0) rfl;have x1:=aa hx (j:=1) rfl;have x2:=aa hx (j:=2) rfl;have x3:=aa hx (j:=3) rfl;have x4:=aa hx (j:=4) rfl;have f0:=ae a 0;have f1:=ae a 1;have f2:=ae a 2;have f3:=ae a 3;have f4:=ae a 4;have c0:=aa a (j:=0) rfl;have c1:=aa a (j:=1) rfl;have c2:=aa a (j:=2) rfl;have c3:=aa a (j:=3) rfl;have c4:=aa a (j:=4) rfl;clear hx a;go_wp2_with fail
    have hk:On (w.heap.size+1) (wr.alloc (.cells (bC n) 9)) (set5 (wr.alloc (.cells (bC n) 9)) (w.heap.size+1) (.int .i64 op) (.int .i64 num) (.string text) (.slice s0 nk cap) (.int .i64 pos)):=(On.refl _ _).set5 _ _ _ _ _;have hQ:=(hG.o.on m.o).off hk (Nat.lt_succ_of_lt U.o);have hl:=(Hl.o.trans (On.of_below m.o)).new hk (Nat.le_succ _);have hE:=V.o.keep ((Stays.of_below m.o).trans (Stays.of_ne hk (fun h=>by have:=h.1;omega)));refine bodyPost_ret (v:=.agg #[.int .i64 op,.int .i64 num,.string text,.slice s0 nk cap,.int .i64 pos]) (by simp [results,Tryz.results172,go_sem,c0,c1,c2,c3,c4]) rfl ?_;exact PSays.ok HF.o ⟨_,_,_,_,_,_,_,rfl,hE.mono (fun b hb=>Nat.le_trans (by omega) hb.1)⟩ hQ hl
   | some s =>
    obtain ⟨ix,f,hz,hh⟩:=ju (bO n) 0 hf;have Hs:ix<(bO n).length:=(List.getElem?_eq_some_iff.1 f).1;have hA:gc lc (bO n) 0=(ix:Int):=by rw [hz,Nat.zero_add]
    have HC:=jk n;rw [hA] at HI
    have HF:Hd (∀v,N lc.tail=v→R=(match v with | .error e=>.error e | .ok (y,r)=>if n=2 then .ok (.mk 6 0 s [xc,y] (aQ en lc),r) else ej en n N g (.mk 6 0 s [xc,y] (aQ en lc)) r)):=zh (fun v hv=>by
      rw [Hj.o,jY,hf];dsimp only;unfold Par.bind;rw [hv]
      cases v with
      | error e=>rfl
      | ok q =>
        dsimp only;split<;>rfl)
    have Hx:Hd (bq en s lc=.ok ((),lc.tail)):=zh (by unfold bq;rw [if_pos hh]);have ht:=zh (tT hh);have H8:=zh (jQ f);have hB:=ax wr _ (.cells (bC n) 9) _ h9.o;have b0:=aa hB (j:=0) rfl;have H4:=zh (fH rb lc en _ (hG.o.on m.o));clear hf hA hz hh f hB;generalize Hr:aQ en lc=pl at *;generalize (bO n).length=sn at *;clear Hr;go_wp2_with fail
    refine (HS.o _).mono ?_;rintro e w3 ⟨rfl,rfl⟩;go_wp2_with fail
    refine HI.o.mono ?_;rintro e w3 ⟨rfl,rfl⟩;go_wp2_with fail
    refine H4.o.mono ?_;rintro e w3 ⟨rfl,rfl⟩;go_wp2_with fail
    have f:=H8.o;have hw:=(hG.o.on m.o)
    have Hw:=zh (fun (W:World) (sb:Nat) (hW:Below wr.heap.size wr W) (hs:W.cell? ⟨sb,0,none⟩=some (.string s))=>Hx.o▸aV rb sb s lc en W (hG.o.on hW) hs);have hI:=zh (fun (W:World) (hW:Below wr.heap.size wr W)=>(bh hW _ 0 (af h9.o)).trans (aa h9.o (j:=0) rfl));have HA:=U.o;clear hw;refine ay (S:=(fun w'=>w'.cell? ⟨w.heap.size,0,none⟩=some (.pointer (some ⟨rb,0,none⟩)))) 7 (by kernel_rfl) (by kernel_rfl) (by (first | exact q0 | (exact hI.o _ (by repeat (first | exact m.o | refine aw ?_ | refine ag ?_ _))) | go_keep)) (fun hH=>?_);simp only [List.take_succ_cons,List.take_zero,List.drop_succ_cons,List.drop_zero]
    refine tkA 0 ?_;refine tkA 1 ?_;refine tkA 3 ?_;refine rd1 2 fun K hK=>?_
    (go_simp;go_at_call 195;refine (HS.o _).mono ?_;rintro e w3 ⟨rfl,rfl⟩;dsimp only)
    refine hK.out _ _ ?_ (fun hH=>?_)
    ·(try dsimp only);(first | exact q0 | (exact hI.o _ (by repeat (first | exact m.o | refine aw ?_ | refine ag ?_ _))) | go_keep)
    clear hK K;try go_simp
    refine rd1 4 fun K hK=>?_;go_simp;refine hK.out _ _ ?_ (fun hH=>?_)
    ·(try dsimp only);(first | exact q0 | (exact hI.o _ (by repeat (first | exact m.o | refine aw ?_ | refine ag ?_ _))) | go_keep)
    clear hK K;try go_simp
    refine rd1 5 fun K hK=>?_;go_simp;refine hK.out _ _ ?_ (fun hH=>?_)
    ·(try dsimp only);(first | exact q0 | (exact hI.o _ (by repeat (first | exact m.o | refine aw ?_ | refine ag ?_ _))) | go_keep)
    clear hK K;try go_simp
    refine rd1 6 fun K hK=>?_;go_simp;refine hK.out _ _ ?_ (fun hH=>?_)
    ·(try dsimp only);(first | exact q0 | (exact hI.o _ (by repeat (first | exact m.o | refine aw ?_ | refine ag ?_ _))) | go_keep)
    clear hK K;try go_simp
    refine wpAnyH_done (by kernel_rfl) ?_ _;dsimp only [aP];go_wp2_with fail
    refine (Hw.o ((((wr.alloc (.cells (bC n) 9)).alloc (.cells (bC n) 9)).alloc (.cells #[.string s] 9)).drew) (wr.heap.size+1+1) (by repeat (first | exact m.o | refine aw ?_ | refine ag ?_ _)) (show (((wr.alloc (.cells (bC n) 9)).alloc (.cells (bC n) 9)).alloc (.cells #[.string s] 9)).cell? _=_ from aA ((wr.alloc (.cells (bC n) 9)).alloc (.cells (bC n) 9)) #[.string s] 9 _ 0 _ (by rw [ah,ah]) rfl)).mono ?_;rintro e w4 ⟨⟨v,rfl,hv,Hb⟩,He⟩;subst hv;have Hh:Below wr.heap.size wr ((((wr.alloc (.cells (bC n) 9)).alloc (.cells (bC n) 9)).alloc (.cells #[.string s] 9)).drew):=by repeat (first | exact m.o | refine aw ?_ | refine ag ?_ _)
    have hS:=zh ((On.of_below Hh:On rb wr _).trans He);have Hv:=zh Hb;have M:XB≠rb∧w.heap.size≠rb∧w.heap.size+1≠rb:=by have:=U.o;omega
    have he:=hS.o.obj (k':=XB) M.1 HX.o;have H2:=zh he;have hO:=zh (hS.o.obj (k':=w.heap.size) M.2.1 h9.o);have Hq:=zh (hS.o.obj (k':=w.heap.size+1) M.2.2 hM.o);have x0:=aa he (j:=0) rfl;have x1:=aa he (j:=1) rfl;have x2:=aa he (j:=2) rfl;have x3:=aa he (j:=3) rfl;have x4:=aa he (j:=4) rfl;clear Hh Hb He he b0;go_wp2_with fail
    have Hy:IntKind.i64.wrap ((n:Int)+1)=(n:Int)+1:=IntWalk.i64_in _ (by omega);have hg:Below w4.heap.size w4 (w4.alloc (.cells #[.int .i64 op,.int .i64 num,.string text,.slice s0 nk cap,.int .i64 pos] 178)):=ag (Below.refl _ _) _;have k:=zh hg;have z:=zh (aj w4 (.cells #[.int .i64 op,.int .i64 num,.string text,.slice s0 nk cap,.int .i64 pos] 178) _ rfl);generalize Hi:w4.alloc (.cells #[.int .i64 op,.int .i64 num,.string text,.slice s0 nk cap,.int .i64 pos] 178)=W5 at *;have Hu:=zh (show W5.heap.size=w4.heap.size+1 from by rw [←Hi,ah]);have h6:=zh ((hg.block _ (af hO.o)).trans hO.o);have hE:=zh ((hg.block _ (af H2.o)).trans H2.o);have Hp:=zh ((hg.block _ (af Hq.o)).trans Hq.o);have hU:=zh (fun (W:World) (hW:Below W5.heap.size W5 W)=>(show _∧_∧_∧_∧_∧_ from ⟨(bh hW _ 0 (af h6.o)).trans (aa h6.o (j:=0) rfl),(bh hW _ 0 (af z.o)).trans (aa z.o (j:=0) rfl),(bh hW _ 1 (af z.o)).trans (aa z.o (j:=1) rfl),(bh hW _ 2 (af z.o)).trans (aa z.o (j:=2) rfl),(bh hW _ 3 (af z.o)).trans (aa z.o (j:=3) rfl),(bh hW _ 4 (af z.o)).trans (aa z.o (j:=4) rfl)⟩));have hQ:=zh (Hv.o.on hg);have h7:=zh ((On.trans hS.o (On.of_below hg):On rb wr W5));have k:=zh (Below.refl W5.heap.size W5);have hl:=zh (Hl.o.trans h7.o);have hV:=zh (fun (W w':World) (ho:On rb W w') (hW:Below W5.heap.size W5 W)=>(On.of_below hW:On rb W5 W).trans ho);have Ho:=zh (fun (W w':World) (_:On rb W w') (hW:Below W5.heap.size W5 W)=>hU.o W hW);have ha:=zh (af hE.o);have hF:=zh (af H2.o);have Hf:w.heap.size<W5.heap.size∧w4.heap.size<W5.heap.size:=⟨af h6.o,af z.o⟩
    clear hg Hi x0 x1 x2 x3 x4;refine ay (S:=(fun w'=>w'.cell? ⟨w.heap.size,0,none⟩=some (.pointer (some ⟨rb,0,none⟩))∧w'.cell? ⟨w4.heap.size,0,none⟩=some (.int .i64 op)∧w'.cell? ⟨w4.heap.size,1,none⟩=some (.int .i64 num)∧w'.cell? ⟨w4.heap.size,2,none⟩=some (.string text)∧w'.cell? ⟨w4.heap.size,3,none⟩=some (.slice s0 nk cap)∧w'.cell? ⟨w4.heap.size,4,none⟩=some (.int .i64 pos))) 14 (by kernel_rfl) (by kernel_rfl) (by (first | (refine hU.o _ ?_;repeat (first | exact k.o | refine aw ?_ | refine ag ?_ _)) | go_keep)) (fun hH=>?_);simp only [List.take_succ_cons,List.take_zero,List.drop_succ_cons,List.drop_zero]
    refine tkA 0 ?_;refine tkA 2 ?_;refine tkA 5 ?_;refine tkA 6 ?_;refine tkA 7 ?_;refine tkA 8 ?_;refine tkA 9 ?_;refine tkA 12 ?_;refine rd1 1 fun K hK=>?_
    (go_simp;go_at_call 195;refine (HS.o _).mono ?_;rintro e w6 ⟨rfl,rfl⟩;dsimp only)
    refine hK.out _ _ ?_ (fun hH=>?_)
    ·(try dsimp only);(first | (refine hU.o _ ?_;repeat (first | exact k.o | refine aw ?_ | refine ag ?_ _)) | go_keep)
    clear hK K;try go_simp
    refine tkA 3 ?_;refine wpAnyH_ready (rs:=[4,10]) (by kernel_rfl) (by simp) ?_;refine (AllReadyH.cons rfl (fun K hK=>?_) (AllReadyH.cons rfl (fun K hK=>?_) AllReadyH.nil))
    ·go_simp
     refine hK.out _ _ ?_ (fun hH=>?_)
     ·(try dsimp only)
      (first | (refine hU.o _ ?_;repeat (first | exact k.o | refine aw ?_ | refine ag ?_ _)) | go_keep)
     clear hK K;try go_simp
     refine rd1 10 fun K hK=>?_;go_simp;go_at_call 172
     refine (H6.o lc.tail _ ?_).mono ?_
     ·exact hQ.o.on (by repeat (first | exact k.o | refine aw ?_ | refine ag ?_ _))
     rintro e w7 hp;rcases hp.cases with ⟨er,p,hm,rfl,ho⟩ | ⟨y,r7,v7,hm,rfl,hv,hr,ho⟩
     ·have HE:=zh (HF.o _ hm)
      have H5:=zh (hl.o.trans (hV.o _ _ ho (by repeat (first | exact k.o | refine aw ?_ | refine ag ?_ _))));clear hp hm ho;unfold Pan
      (try go_wp2_with fail)
      exact ⟨rfl,PSays.err HE.o H5.o⟩
     ·have HE:=zh (HF.o _ hm)
      have hP:=zh hr;have J:=hV.o _ _ ho (by repeat (first | exact k.o | refine aw ?_ | refine ag ?_ _));have X:=zh J;have h8:=zh (Hn.o _ _ _ hm);have hq:=Ho.o _ _ ho (by repeat (first | exact k.o | refine aw ?_ | refine ag ?_ _));obtain ⟨q0,q1,q2,q3,q4,q5⟩:=hq;have G:w.heap.size≠rb∧w4.heap.size≠rb∧W5.heap.size≠rb:=by have:=U.o;have:=Hf;have:=hF.o;have:=O.o;omega
      replace q0:=ho.cell G.1 q0;replace q1:=ho.cell G.2.1 q1;replace q2:=ho.cell G.2.1 q2;replace q3:=ho.cell G.2.1 q3;replace q4:=ho.cell G.2.1 q4;replace q5:=ho.cell G.2.1 q5;have y5:=ho.cell G.2.2 (show (W5.drew.alloc (.cells (bC n) 9)).cell? ⟨W5.heap.size,ix,none⟩=_ from aA _ _ _ _ _ _ rfl f);have H0:W5.heap.size<w7.heap.size:=az y5;have hj:=zh (J.obj M.1 hE.o);have Y:=zh (J.obj M.2.1 h6.o);have hu:=zh (J.obj M.2.2 Hp.o);obtain ⟨op7,num7,text7,s7,nk7,cap7,pos7,rfl,P⟩:=hv;have c:=zh (P.mono (S':=fun b=>w.heap.size+1+1≤b∧b≠XB) (fun b hb=>by have h1:=ha.o;have h2:=O.o;have h3:W5.heap.size≤b:=Nat.le_trans (show W5.heap.size≤(W5.alloc (.cells (bC n) 9)).drew.heap.size from by show _≤(W5.alloc _).heap.size;rw [ah];exact Nat.le_succ _) hb;exact ⟨by omega,by omega⟩));clear hp hm hr P ho J G;refine hK.out _ _ ?_ (fun hH=>?_)
      ·(try dsimp only)
       (first | exact ⟨q0,q1,q2,q3,q4,q5⟩ | exact ⟨aq _ q0,aq _ q1,aq _ q2,aq _ q3,aq _ q4,aq _ q5⟩)
      clear hK K;try go_simp
      refine rd1 11 fun K hK=>?_;go_simp;refine hK.out _ _ ?_ (fun hH=>?_)
      ·(try dsimp only)
       (first | exact ⟨q0,q1,q2,q3,q4,q5⟩ | exact ⟨aq _ q0,aq _ q1,aq _ q2,aq _ q3,aq _ q4,aq _ q5⟩)
      clear hK K;try go_simp
      refine rd1 13 fun K hK=>?_;go_simp;refine hK.out _ _ ?_ (fun hH=>?_)
      ·(try dsimp only)
       (first | exact ⟨q0,q1,q2,q3,q4,q5⟩ | exact ⟨aq _ q0,aq _ q1,aq _ q2,aq _ q3,aq _ q4,aq _ q5⟩)
      clear hK K;try go_simp
      refine wpAnyH_done (by kernel_rfl) ?_ _;dsimp only [aP];have L:Below w7.heap.size w7 (w7.alloc (.cells #[.int .i64 op,.int .i64 num,.string text,.slice s0 nk cap,.int .i64 pos,.int .i64 op7,.int .i64 num7,.string text7,.slice s7 nk7 cap7,.int .i64 pos7] 178)):=ag (Below.refl _ _) _;have hc:=zh ((L.block _ (af hj.o)).trans hj.o);have h5:=zh ((L.block _ (af Y.o)).trans Y.o);have hd:=zh ((L.block _ (af hu.o)).trans hu.o);have A:On XB (w7.alloc (.cells #[.int .i64 op,.int .i64 num,.string text,.slice s0 nk cap,.int .i64 pos,.int .i64 op7,.int .i64 num7,.string text7,.slice s7 nk7 cap7,.int .i64 pos7] 178)) (set5 (w7.alloc (.cells #[.int .i64 op,.int .i64 num,.string text,.slice s0 nk cap,.int .i64 pos,.int .i64 op7,.int .i64 num7,.string text7,.slice s7 nk7 cap7,.int .i64 pos7] 178)) XB (.int .i64 6) (.int .i64 0) (.string s) (.slice (some ⟨w7.heap.size,0,none⟩) 2 2) (.int .i64 pl)):=(On.refl _ _).set5 _ _ _ _ _;have Q:=zh ((hP.o.on L).off A H3.o);have T:=zh (((hl.o.trans X.o).trans (On.of_below L)).new A (by have:=O.o;omega));have hD:=zh (mX (a':=.int .i64 6) (b':=.int .i64 0) (c':=.string s) (d':=.slice (some ⟨w7.heap.size,0,none⟩) 2 2) (e':=.int .i64 pl) hc.o);have h4:=zh (A.obj (by have:=O.o;omega) h5.o);have hL:=zh (A.obj (by have:=O.o;omega) hd.o);have E:Stays (fun b=>w.heap.size+1+1≤b∧b≠XB) w7 (set5 (w7.alloc (.cells #[.int .i64 op,.int .i64 num,.string text,.slice s0 nk cap,.int .i64 pos,.int .i64 op7,.int .i64 num7,.string text7,.slice s7 nk7 cap7,.int .i64 pos7] 178)) XB (.int .i64 6) (.int .i64 0) (.string s) (.slice (some ⟨w7.heap.size,0,none⟩) 2 2) (.int .i64 pl)):=(Stays.of_below L).trans (Stays.of_ne A (fun h=>h.2 rfl));have D:Stays (fun b=>w.heap.size+1+1≤b∧b≠XB) wr w7:=Stays.of_ne (h7.o.trans X.o) (fun h=>by have:=U.o;have:=h.1;omega);have I:=zh (RepEx.of (op:=6) (num:=0) (pos:=pl) (text:=s) (pw (V.o.keep (D.trans E)) (c.o.keep E) (b:=w7.heap.size) (by have h1:=ha.o;have h2:=O.o;exact ⟨by omega,by omega⟩) (A.obj (by have h1:=ha.o;omega) (aj _ _ _ rfl))));have C:=hc.o;have B:=hd.o;have e0:=aa C (j:=0) rfl;have e1:=aa C (j:=1) rfl;have e2:=aa C (j:=2) rfl;have e3:=aa C (j:=3) rfl;have e4:=aa C (j:=4) rfl;have g0:=ae C 0;have g1:=ae C 1;have g2:=ae C 2;have g3:=ae C 3;have g4:=ae C 4;have hC:w.heap.size+1<XB:=by have:=O.o;omega
      clear C A E D L;by_cases Z:n=2
      ·have h0:=zh (show R=.ok (.mk 6 0 s [xc,y] pl,r7) from by rw [HE.o];dsimp only;rw [if_pos Z])
       subst Z;have u:(((2:Nat):Int)==2)=true:=by decide
       have f0:=ae B 0;have f1:=ae B 1;have f2:=ae B 2;have f3:=ae B 3;have f4:=ae B 4;have c0:=aa B (j:=0) rfl;have c1:=aa B (j:=1) rfl;have c2:=aa B (j:=2) rfl;have c3:=aa B (j:=3) rfl;have c4:=aa B (j:=4) rfl;clear B;go_wp2_with fail
       have F:On (w.heap.size+1) (set5 (w7.alloc (.cells #[.int .i64 op,.int .i64 num,.string text,.slice s0 nk cap,.int .i64 pos,.int .i64 op7,.int .i64 num7,.string text7,.slice s7 nk7 cap7,.int .i64 pos7] 178)) XB (.int .i64 6) (.int .i64 0) (.string s) (.slice (some ⟨w7.heap.size,0,none⟩) 2 2) (.int .i64 pl)) (set5 (set5 (w7.alloc (.cells #[.int .i64 op,.int .i64 num,.string text,.slice s0 nk cap,.int .i64 pos,.int .i64 op7,.int .i64 num7,.string text7,.slice s7 nk7 cap7,.int .i64 pos7] 178)) XB (.int .i64 6) (.int .i64 0) (.string s) (.slice (some ⟨w7.heap.size,0,none⟩) 2 2) (.int .i64 pl)) (w.heap.size+1) (.int .i64 6) (.int .i64 0) (.string s) (.slice (some ⟨w7.heap.size,0,none⟩) 2 2) (.int .i64 pl)):=(On.refl _ _).set5 _ _ _ _ _;refine bodyPost_ret (v:=.agg #[.int .i64 6,.int .i64 0,.string s,.slice (some ⟨w7.heap.size,0,none⟩) 2 2,.int .i64 pl]) (by simp [results,Tryz.results172,go_sem,c0,c1,c2,c3,c4]) rfl ?_;exact PSays.ok h0.o ⟨_,_,_,_,_,_,_,rfl,(I.o.keep (Stays.of_ne F (fun h=>by have:=h.1;omega))).mono (fun b hb=>Nat.le_trans (by omega) hb.1)⟩ (Q.o.off F (Nat.lt_succ_of_lt U.o)) (T.o.new F (Nat.le_succ _))
      ·have h0:=zh (show R=ej en n N g (.mk 6 0 s [xc,y] pl) r7 from by rw [HE.o];dsimp only;rw [if_neg Z])
       have u:((n:Int)==2)=false:=by simp;omega
       clear Z B;go_wp2_with fail
       go_roundg g
       case rel=>exact ⟨_,r7,_,_,_,_,_,_,_,h0.o,by have:=h8.o;have:=ht.o;have:=H7.o;omega,Q.o,T.o,h4.o,hL.o,hD.o,I.o⟩
       case measure=>omega
    ·go_simp
     go_at_call 172
     refine (H6.o lc.tail _ ?_).mono ?_
     ·exact hQ.o.on (by repeat (first | exact k.o | refine aw ?_ | refine ag ?_ _))
     rintro e w7 hp;rcases hp.cases with ⟨er,p,hm,rfl,ho⟩ | ⟨y,r7,v7,hm,rfl,hv,hr,ho⟩
     ·have HE:=zh (HF.o _ hm)
      have H5:=zh (hl.o.trans (hV.o _ _ ho (by repeat (first | exact k.o | refine aw ?_ | refine ag ?_ _))));clear hp hm ho;unfold Pan
      (try go_wp2_with fail)
      exact ⟨rfl,PSays.err HE.o H5.o⟩
     ·have HE:=zh (HF.o _ hm)
      have hP:=zh hr;have J:=hV.o _ _ ho (by repeat (first | exact k.o | refine aw ?_ | refine ag ?_ _));have X:=zh J;have h8:=zh (Hn.o _ _ _ hm);have hq:=Ho.o _ _ ho (by repeat (first | exact k.o | refine aw ?_ | refine ag ?_ _));obtain ⟨q0,q1,q2,q3,q4,q5⟩:=hq;have G:w.heap.size≠rb∧w4.heap.size≠rb∧W5.heap.size≠rb:=by have:=U.o;have:=Hf;have:=hF.o;have:=O.o;omega
      replace q0:=ho.cell G.1 q0;replace q1:=ho.cell G.2.1 q1;replace q2:=ho.cell G.2.1 q2;replace q3:=ho.cell G.2.1 q3;replace q4:=ho.cell G.2.1 q4;replace q5:=ho.cell G.2.1 q5;have y5:=ho.cell G.2.2 (show (W5.drew.alloc (.cells (bC n) 9)).cell? ⟨W5.heap.size,ix,none⟩=_ from aA _ _ _ _ _ _ rfl f);have H0:W5.heap.size<w7.heap.size:=az y5;have hj:=zh (J.obj M.1 hE.o);have Y:=zh (J.obj M.2.1 h6.o);have hu:=zh (J.obj M.2.2 Hp.o);obtain ⟨op7,num7,text7,s7,nk7,cap7,pos7,rfl,P⟩:=hv;have c:=zh (P.mono (S':=fun b=>w.heap.size+1+1≤b∧b≠XB) (fun b hb=>by have h1:=ha.o;have h2:=O.o;have h3:W5.heap.size≤b:=Nat.le_trans (show W5.heap.size≤(W5.alloc (.cells (bC n) 9)).drew.heap.size from by show _≤(W5.alloc _).heap.size;rw [ah];exact Nat.le_succ _) hb;exact ⟨by omega,by omega⟩));clear hp hm hr P ho J G;refine hK.out _ _ ?_ (fun hH=>?_)
      ·(try dsimp only)
       (first | exact ⟨q0,q1,q2,q3,q4,q5⟩ | exact ⟨aq _ q0,aq _ q1,aq _ q2,aq _ q3,aq _ q4,aq _ q5⟩)
      clear hK K;try go_simp
      refine wpAnyH_ready (rs:=[4,11]) (by kernel_rfl) (by simp) ?_;refine (AllReadyH.cons rfl (fun K hK=>?_) (AllReadyH.cons rfl (fun K hK=>?_) AllReadyH.nil))
      ·go_simp
       refine hK.out _ _ ?_ (fun hH=>?_)
       ·(try dsimp only)
        (first | exact ⟨q0,q1,q2,q3,q4,q5⟩ | exact ⟨aq _ q0,aq _ q1,aq _ q2,aq _ q3,aq _ q4,aq _ q5⟩)
       clear hK K;try go_simp
       refine rd1 11 fun K hK=>?_;go_simp;refine hK.out _ _ ?_ (fun hH=>?_)
       ·(try dsimp only)
        (first | exact ⟨q0,q1,q2,q3,q4,q5⟩ | exact ⟨aq _ q0,aq _ q1,aq _ q2,aq _ q3,aq _ q4,aq _ q5⟩)
       clear hK K;try go_simp
       refine rd1 13 fun K hK=>?_;go_simp;refine hK.out _ _ ?_ (fun hH=>?_)
       ·(try dsimp only)
        (first | exact ⟨q0,q1,q2,q3,q4,q5⟩ | exact ⟨aq _ q0,aq _ q1,aq _ q2,aq _ q3,aq _ q4,aq _ q5⟩)
       clear hK K;try go_simp
       refine wpAnyH_done (by kernel_rfl) ?_ _;dsimp only [aP];have L:Below w7.heap.size w7 (w7.alloc (.cells #[.int .i64 op,.int .i64 num,.string text,.slice s0 nk cap,.int .i64 pos,.int .i64 op7,.int .i64 num7,.string text7,.slice s7 nk7 cap7,.int .i64 pos7] 178)):=ag (Below.refl _ _) _;have hc:=zh ((L.block _ (af hj.o)).trans hj.o);have h5:=zh ((L.block _ (af Y.o)).trans Y.o);have hd:=zh ((L.block _ (af hu.o)).trans hu.o);have A:On XB (w7.alloc (.cells #[.int .i64 op,.int .i64 num,.string text,.slice s0 nk cap,.int .i64 pos,.int .i64 op7,.int .i64 num7,.string text7,.slice s7 nk7 cap7,.int .i64 pos7] 178)) (set5 (w7.alloc (.cells #[.int .i64 op,.int .i64 num,.string text,.slice s0 nk cap,.int .i64 pos,.int .i64 op7,.int .i64 num7,.string text7,.slice s7 nk7 cap7,.int .i64 pos7] 178)) XB (.int .i64 6) (.int .i64 0) (.string s) (.slice (some ⟨w7.heap.size,0,none⟩) 2 2) (.int .i64 pl)):=(On.refl _ _).set5 _ _ _ _ _;have Q:=zh ((hP.o.on L).off A H3.o);have T:=zh (((hl.o.trans X.o).trans (On.of_below L)).new A (by have:=O.o;omega));have hD:=zh (mX (a':=.int .i64 6) (b':=.int .i64 0) (c':=.string s) (d':=.slice (some ⟨w7.heap.size,0,none⟩) 2 2) (e':=.int .i64 pl) hc.o);have h4:=zh (A.obj (by have:=O.o;omega) h5.o);have hL:=zh (A.obj (by have:=O.o;omega) hd.o);have E:Stays (fun b=>w.heap.size+1+1≤b∧b≠XB) w7 (set5 (w7.alloc (.cells #[.int .i64 op,.int .i64 num,.string text,.slice s0 nk cap,.int .i64 pos,.int .i64 op7,.int .i64 num7,.string text7,.slice s7 nk7 cap7,.int .i64 pos7] 178)) XB (.int .i64 6) (.int .i64 0) (.string s) (.slice (some ⟨w7.heap.size,0,none⟩) 2 2) (.int .i64 pl)):=(Stays.of_below L).trans (Stays.of_ne A (fun h=>h.2 rfl));have D:Stays (fun b=>w.heap.size+1+1≤b∧b≠XB) wr w7:=Stays.of_ne (h7.o.trans X.o) (fun h=>by have:=U.o;have:=h.1;omega);have I:=zh (RepEx.of (op:=6) (num:=0) (pos:=pl) (text:=s) (pw (V.o.keep (D.trans E)) (c.o.keep E) (b:=w7.heap.size) (by have h1:=ha.o;have h2:=O.o;exact ⟨by omega,by omega⟩) (A.obj (by have h1:=ha.o;omega) (aj _ _ _ rfl))));have C:=hc.o;have B:=hd.o;have e0:=aa C (j:=0) rfl;have e1:=aa C (j:=1) rfl;have e2:=aa C (j:=2) rfl;have e3:=aa C (j:=3) rfl;have e4:=aa C (j:=4) rfl;have g0:=ae C 0;have g1:=ae C 1;have g2:=ae C 2;have g3:=ae C 3;have g4:=ae C 4;have hC:w.heap.size+1<XB:=by have:=O.o;omega
       clear C A E D L;by_cases Z:n=2
       ·have h0:=zh (show R=.ok (.mk 6 0 s [xc,y] pl,r7) from by rw [HE.o];dsimp only;rw [if_pos Z])
        subst Z;have u:(((2:Nat):Int)==2)=true:=by decide
        have f0:=ae B 0;have f1:=ae B 1;have f2:=ae B 2;have f3:=ae B 3;have f4:=ae B 4;have c0:=aa B (j:=0) rfl;have c1:=aa B (j:=1) rfl;have c2:=aa B (j:=2) rfl;have c3:=aa B (j:=3) rfl;have c4:=aa B (j:=4) rfl;clear B;go_wp2_with fail
        have F:On (w.heap.size+1) (set5 (w7.alloc (.cells #[.int .i64 op,.int .i64 num,.string text,.slice s0 nk cap,.int .i64 pos,.int .i64 op7,.int .i64 num7,.string text7,.slice s7 nk7 cap7,.int .i64 pos7] 178)) XB (.int .i64 6) (.int .i64 0) (.string s) (.slice (some ⟨w7.heap.size,0,none⟩) 2 2) (.int .i64 pl)) (set5 (set5 (w7.alloc (.cells #[.int .i64 op,.int .i64 num,.string text,.slice s0 nk cap,.int .i64 pos,.int .i64 op7,.int .i64 num7,.string text7,.slice s7 nk7 cap7,.int .i64 pos7] 178)) XB (.int .i64 6) (.int .i64 0) (.string s) (.slice (some ⟨w7.heap.size,0,none⟩) 2 2) (.int .i64 pl)) (w.heap.size+1) (.int .i64 6) (.int .i64 0) (.string s) (.slice (some ⟨w7.heap.size,0,none⟩) 2 2) (.int .i64 pl)):=(On.refl _ _).set5 _ _ _ _ _;refine bodyPost_ret (v:=.agg #[.int .i64 6,.int .i64 0,.string s,.slice (some ⟨w7.heap.size,0,none⟩) 2 2,.int .i64 pl]) (by simp [results,Tryz.results172,go_sem,c0,c1,c2,c3,c4]) rfl ?_;exact PSays.ok h0.o ⟨_,_,_,_,_,_,_,rfl,(I.o.keep (Stays.of_ne F (fun h=>by have:=h.1;omega))).mono (fun b hb=>Nat.le_trans (by omega) hb.1)⟩ (Q.o.off F (Nat.lt_succ_of_lt U.o)) (T.o.new F (Nat.le_succ _))
       ·have h0:=zh (show R=ej en n N g (.mk 6 0 s [xc,y] pl) r7 from by rw [HE.o];dsimp only;rw [if_neg Z])
        have u:((n:Int)==2)=false:=by simp;omega
        clear Z B;go_wp2_with fail
        go_roundg g
        case rel=>exact ⟨_,r7,_,_,_,_,_,_,_,h0.o,by have:=h8.o;have:=ht.o;have:=H7.o;omega,Q.o,T.o,h4.o,hL.o,hD.o,I.o⟩
        case measure=>omega
      ·go_simp
       refine hK.out _ _ ?_ (fun hH=>?_)
       ·(try dsimp only)
        (first | exact ⟨q0,q1,q2,q3,q4,q5⟩ | exact ⟨aq _ q0,aq _ q1,aq _ q2,aq _ q3,aq _ q4,aq _ q5⟩)
       clear hK K;try go_simp
       refine rd1 4 fun K hK=>?_;go_simp;refine hK.out _ _ ?_ (fun hH=>?_)
       ·(try dsimp only)
        (first | exact ⟨q0,q1,q2,q3,q4,q5⟩ | exact ⟨aq _ q0,aq _ q1,aq _ q2,aq _ q3,aq _ q4,aq _ q5⟩)
       clear hK K;try go_simp
       refine rd1 13 fun K hK=>?_;go_simp;refine hK.out _ _ ?_ (fun hH=>?_)
       ·(try dsimp only)
        (first | exact ⟨q0,q1,q2,q3,q4,q5⟩ | exact ⟨aq _ q0,aq _ q1,aq _ q2,aq _ q3,aq _ q4,aq _ q5⟩)
       clear hK K;try go_simp
       refine wpAnyH_done (by kernel_rfl) ?_ _;dsimp only [aP];have L:Below w7.heap.size w7 (w7.alloc (.cells #[.int .i64 op,.int .i64 num,.string text,.slice s0 nk cap,.int .i64 pos,.int .i64 op7,.int .i64 num7,.string text7,.slice s7 nk7 cap7,.int .i64 pos7] 178)):=ag (Below.refl _ _) _;have hc:=zh ((L.block _ (af hj.o)).trans hj.o);have h5:=zh ((L.block _ (af Y.o)).trans Y.o);have hd:=zh ((L.block _ (af hu.o)).trans hu.o);have A:On XB (w7.alloc (.cells #[.int .i64 op,.int .i64 num,.string text,.slice s0 nk cap,.int .i64 pos,.int .i64 op7,.int .i64 num7,.string text7,.slice s7 nk7 cap7,.int .i64 pos7] 178)) (set5 (w7.alloc (.cells #[.int .i64 op,.int .i64 num,.string text,.slice s0 nk cap,.int .i64 pos,.int .i64 op7,.int .i64 num7,.string text7,.slice s7 nk7 cap7,.int .i64 pos7] 178)) XB (.int .i64 6) (.int .i64 0) (.string s) (.slice (some ⟨w7.heap.size,0,none⟩) 2 2) (.int .i64 pl)):=(On.refl _ _).set5 _ _ _ _ _;have Q:=zh ((hP.o.on L).off A H3.o);have T:=zh (((hl.o.trans X.o).trans (On.of_below L)).new A (by have:=O.o;omega));have hD:=zh (mX (a':=.int .i64 6) (b':=.int .i64 0) (c':=.string s) (d':=.slice (some ⟨w7.heap.size,0,none⟩) 2 2) (e':=.int .i64 pl) hc.o);have h4:=zh (A.obj (by have:=O.o;omega) h5.o);have hL:=zh (A.obj (by have:=O.o;omega) hd.o);have E:Stays (fun b=>w.heap.size+1+1≤b∧b≠XB) w7 (set5 (w7.alloc (.cells #[.int .i64 op,.int .i64 num,.string text,.slice s0 nk cap,.int .i64 pos,.int .i64 op7,.int .i64 num7,.string text7,.slice s7 nk7 cap7,.int .i64 pos7] 178)) XB (.int .i64 6) (.int .i64 0) (.string s) (.slice (some ⟨w7.heap.size,0,none⟩) 2 2) (.int .i64 pl)):=(Stays.of_below L).trans (Stays.of_ne A (fun h=>h.2 rfl));have D:Stays (fun b=>w.heap.size+1+1≤b∧b≠XB) wr w7:=Stays.of_ne (h7.o.trans X.o) (fun h=>by have:=U.o;have:=h.1;omega);have I:=zh (RepEx.of (op:=6) (num:=0) (pos:=pl) (text:=s) (pw (V.o.keep (D.trans E)) (c.o.keep E) (b:=w7.heap.size) (by have h1:=ha.o;have h2:=O.o;exact ⟨by omega,by omega⟩) (A.obj (by have h1:=ha.o;omega) (aj _ _ _ rfl))));have C:=hc.o;have B:=hd.o;have e0:=aa C (j:=0) rfl;have e1:=aa C (j:=1) rfl;have e2:=aa C (j:=2) rfl;have e3:=aa C (j:=3) rfl;have e4:=aa C (j:=4) rfl;have g0:=ae C 0;have g1:=ae C 1;have g2:=ae C 2;have g3:=ae C 3;have g4:=ae C 4;have hC:w.heap.size+1<XB:=by have:=O.o;omega
       clear C A E D L;by_cases Z:n=2
       ·have h0:=zh (show R=.ok (.mk 6 0 s [xc,y] pl,r7) from by rw [HE.o];dsimp only;rw [if_pos Z])
        subst Z;have u:(((2:Nat):Int)==2)=true:=by decide
        have f0:=ae B 0;have f1:=ae B 1;have f2:=ae B 2;have f3:=ae B 3;have f4:=ae B 4;have c0:=aa B (j:=0) rfl;have c1:=aa B (j:=1) rfl;have c2:=aa B (j:=2) rfl;have c3:=aa B (j:=3) rfl;have c4:=aa B (j:=4) rfl;clear B;go_wp2_with fail
        have F:On (w.heap.size+1) (set5 (w7.alloc (.cells #[.int .i64 op,.int .i64 num,.string text,.slice s0 nk cap,.int .i64 pos,.int .i64 op7,.int .i64 num7,.string text7,.slice s7 nk7 cap7,.int .i64 pos7] 178)) XB (.int .i64 6) (.int .i64 0) (.string s) (.slice (some ⟨w7.heap.size,0,none⟩) 2 2) (.int .i64 pl)) (set5 (set5 (w7.alloc (.cells #[.int .i64 op,.int .i64 num,.string text,.slice s0 nk cap,.int .i64 pos,.int .i64 op7,.int .i64 num7,.string text7,.slice s7 nk7 cap7,.int .i64 pos7] 178)) XB (.int .i64 6) (.int .i64 0) (.string s) (.slice (some ⟨w7.heap.size,0,none⟩) 2 2) (.int .i64 pl)) (w.heap.size+1) (.int .i64 6) (.int .i64 0) (.string s) (.slice (some ⟨w7.heap.size,0,none⟩) 2 2) (.int .i64 pl)):=(On.refl _ _).set5 _ _ _ _ _;refine bodyPost_ret (v:=.agg #[.int .i64 6,.int .i64 0,.string s,.slice (some ⟨w7.heap.size,0,none⟩) 2 2,.int .i64 pl]) (by simp [results,Tryz.results172,go_sem,c0,c1,c2,c3,c4]) rfl ?_;exact PSays.ok h0.o ⟨_,_,_,_,_,_,_,rfl,(I.o.keep (Stays.of_ne F (fun h=>by have:=h.1;omega))).mono (fun b hb=>Nat.le_trans (by omega) hb.1)⟩ (Q.o.off F (Nat.lt_succ_of_lt U.o)) (T.o.new F (Nat.le_succ _))
       ·have h0:=zh (show R=ej en n N g (.mk 6 0 s [xc,y] pl) r7 from by rw [HE.o];dsimp only;rw [if_neg Z])
        have u:((n:Int)==2)=false:=by simp;omega
        clear Z B;go_wp2_with fail
        go_roundg g
        case rel=>exact ⟨_,r7,_,_,_,_,_,_,_,h0.o,by have:=h8.o;have:=ht.o;have:=H7.o;omega,Q.o,T.o,h4.o,hL.o,hD.o,I.o⟩
        case measure=>omega
end
end Go.Proofs.YthgcpfkochikfaaGreat
