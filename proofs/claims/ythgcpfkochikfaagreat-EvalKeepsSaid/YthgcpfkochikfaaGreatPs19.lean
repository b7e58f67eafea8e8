/-
  EvalSigns: part 19 of its proof: see the last text.
-/
import Derived.Test.YthgcpfkochikfaaGreatPs18
import Derived.Defers
import Derived.Recover
import Derived.Deep.LoopGhost
set_option maxRecDepth 100000
set_option maxHeartbeats 16000000
namespace Go.Proofs.YthgcpfkochikfaaGreat
section
open Go.RowKit
instance:Inhabited (ByteArray×Int):=⟨(ByteArray.empty,0)⟩
def um (_:Nat→Prop) (_:World) (cs:List Value) (p:ByteArray×Int):Prop:=cs=[.string p.1,.int .i64 p.2]
def CN:Kind (ByteArray×Int):=⟨um,fun h _=>h,fun h _=>h,fun h=>h⟩
theorem CJ:∃i,Tryz.prog.info? 80=some i∧i.zero=some (.agg #[.string ⟨#[]⟩,.int .i64 0])∧i.size=2∧i.bytes=24:=by
 have h:(Tryz.prog.info? 80).map (fun i=>(i.zero,i.size,i.bytes))=some (some (.agg #[.string ⟨#[]⟩,.int .i64 0]),2,24):=by kernel_rfl
 obtain ⟨i,h1,h2⟩:=Option.map_eq_some_iff.1 h;simp only [Prod.mk.injEq] at h2
 exact ⟨i,h1,h2.1,h2.2.1,h2.2.2⟩
structure FLay where
 rb:Nat
 BR:Nat
 FB:Nat
 base:Nat
 en:Int
 pl:Int
structure FLay.Ok (y:FLay):Prop where
 br:y.rb<y.BR∧y.BR<y.base
 fb:y.rb<y.FB∧y.FB<y.base
 ne:y.BR≠y.FB
structure FuF (y:FLay) (W:World) (nm:ByteArray) (vp:Value) (ps:List (ByteArray×Int)) (rs:Int) (vb:Value) (bs:List St):Prop where
 br:W.heap[y.BR]?=some (.cells #[.pointer (some ⟨y.rb,0,none⟩)] 108 (0,0))
 fb:W.heap[y.FB]?=some (.cells #[.string nm,vp,.int .i64 rs,vb,.int .i64 y.pl] 76 (0,0))
 ps:GrowOf CN y.base 80 2 W vp ps
 bo:RepSts (bM y.base) W vb bs
 big:y.base≤W.heap.size
section
variable {W W':World} {y:FLay} {L L':List Tk} {nm:ByteArray} {vp vb:Value} {ps:List (ByteArray×Int)} {rs:Int} {bs:List St}
theorem FuF.call (h:FuF y W nm vp ps rs vb bs) (hy:y.Ok) (ho:On y.rb W W'):FuF y W' nm vp ps rs vb bs:=by
 have A:Stays (bM y.base) W W':=Stays.of_on ho (by have:=hy.br;omega);exact ⟨ho.obj (by have:=hy.br;omega) h.br,ho.obj (by have:=hy.fb;omega) h.fb,h.ps.keep A,h.bo.keep A,Nat.le_trans h.big ho.size⟩
theorem FuF.below (h:FuF y W nm vp ps rs vb bs) (hb:Below W.heap.size W W'):FuF y W' nm vp ps rs vb bs:=by
 have A:Stays (bM y.base) W W':=Stays.of_below hb;exact ⟨(hb.block _ (af h.br)).trans h.br,(hb.block _ (af h.fb)).trans h.fb,h.ps.keep A,h.bo.keep A,Nat.le_trans h.big hb.size⟩
theorem FuF.form (h:FuF y W nm vp ps rs vb bs):∃s c,vp=.slice s ps.length c∧ps.length≤c∧c≤maxLen:=by
 obtain ⟨cs,ho,_⟩:=h.ps;obtain ⟨s0,cap,h1,h2,h3,_⟩:=ba ho;exact ⟨s0,cap,h1,h2,h3⟩
theorem FuF.store (h:FuF y W nm vp ps rs vb bs) (hy:y.Ok) (j:Nat) (u:Value) {C:ByteArray} {B:Int} {A:Value} {E:List St}
    (ha:(#[.string nm,vp,.int .i64 rs,vb,.int .i64 y.pl]:Array Value).setIfInBounds j u=#[.string C,vp,.int .i64 B,A,.int .i64 y.pl]) (hb:RepSts (bM y.base) W A E) :
    FuF y (W.setCell ⟨y.FB,j,none⟩ u) C vp ps B A E:=by
 have ho:On y.FB W (W.setCell ⟨y.FB,j,none⟩ u):=(On.refl _ _).set j u;have D:Stays (bM y.base) W (W.setCell ⟨y.FB,j,none⟩ u):=Stays.of_on ho hy.fb.2;refine ⟨ho.obj hy.ne h.br,?_,h.ps.keep D,hb.keep D,Nat.le_trans h.big ho.size⟩;rw [←ha];exact au h.fb j u
theorem FuF.push {W9:World} {g cap:Nat} {new:List Value} {q:ByteArray×Int} {cs:Nat→List Value} (h:FuF y W nm vp ps rs (.slice none 0 0) []) (hy:y.Ok) (F:Items CN y.base 2 W vp ps cs) (hn:new=[.string q.1,.int .i64 q.2])
    (hg:W.grownBy W9 vp.ownBlock) (G:vp.ownBlock=some g∨g=W.heap.size) (B:W9.ownsRow y.base 80 2 (.slice (some ⟨g,0,none⟩) (ps.length+1) cap) (ps.length+1) (bG cs ps.length++new)) :
    FuF y (W9.setCell ⟨y.FB,1,none⟩ (.slice (some ⟨g,0,none⟩) (ps.length+1) cap)) nm (.slice (some ⟨g,0,none⟩) (ps.length+1) cap) (ps++[q]) rs (.slice none 0 0) []∧OnS (fun b=>b=y.FB∨y.base≤b) W (W9.setCell ⟨y.FB,1,none⟩ (.slice (some ⟨g,0,none⟩) (ps.length+1) cap)):=by
 have A:∀b,vp.ownBlock=some b→y.base≤b:=fun b hb=>by
  obtain ⟨cs',ho,_⟩:=h.ps;exact (aI ho hb).1
 have hT:OnS (fun b=>vp.ownBlock=some b) W W9:=OnS.of_grown hg fun k hk=>hk;have ho:On y.FB W9 (W9.setCell ⟨y.FB,1,none⟩ (.slice (some ⟨g,0,none⟩) (ps.length+1) cap)):=(On.refl _ _).set 1 _;have E:Stays (bM y.base) W9 (W9.setCell ⟨y.FB,1,none⟩ (.slice (some ⟨g,0,none⟩) (ps.length+1) cap)):=Stays.of_on ho hy.fb.2;have C:W9.heap[y.FB]?=_:=hT.obj (fun e=>by have:=A _ e;have:=hy.fb;omega) h.fb;have D:W9.heap[y.BR]?=_:=hT.obj (fun e=>by have:=A _ e;have:=hy.br;omega) h.br;subst hn;exact ⟨⟨ho.obj hy.ne D,au C 1 _,(GrowOf.push (K:=CN) F rfl rfl hg G B).keep E,RepSts.nil _ _,Nat.le_trans h.big (Nat.le_trans hg.size ho.size)⟩,(hT.mono fun i hi=>.inr (A i hi)).trans (OnS.of_on ho (.inl rfl))⟩
end
theorem AD (y:FLay) (hy:y.Ok) (rb BR FB base:Nat) (en pl:Int) (T:y=⟨rb,BR,FB,base,en,pl⟩) (l:List Tk) (w:World) (h:RdAt w rb l en) (nm:ByteArray) (vp:Value) (ps:List (ByteArray×Int)) (hf:FuF y w nm vp ps 0 (.slice none 0 0) []) (hn:ps.length≤100000) :
    Calls Tryz.prog 74 #[.pointer (some ⟨BR,0,none⟩),.pointer (some ⟨FB,0,none⟩)] w
     (PSaysT rb en (fun b=>b=rb∨b=FB∨base≤b) w (fun w' q r=>r=.tuple #[]∧∃v',FuF y w' nm v' (ps++[q]) 0 (.slice none 0 0) []) (lm en l)):=by
 subst T;have HY:=zh hy;have HW:=zh hf;have D:=zh h;have A:Hd (On rb w w):=zh (On.refl _ _);have HI:=zh CJ;have J:=zh (show rb<BR∧BR<base∧rb<FB∧FB<base∧BR≠FB from ⟨hy.br.1,hy.br.2,hy.fb.1,hy.fb.2,hy.ne⟩);generalize hR:lm en l=R;have HF:=zh hR.symm;clear hy hf h hR;have b0:w.cell? ⟨BR,0,none⟩=some (.pointer (some ⟨rb,0,none⟩)):=aa HW.o.br (j:=0) rfl;go_enter Tryz.func74,Tryz.ntmps74
 go_wp2_with fail
 clear b0;refine (gV rb l en _ D.o).mono ?_;rintro e w2 hp;rcases hp.cases with ⟨er,p,hm,rfl,ho⟩ | ⟨x2,L2,v,hm,rfl,hv,hr,ho⟩
 ·have HE:=zh (HF.o.trans (aD hm))
  replace A:=zh (A.o.trans ho);clear hp hm ho;unfold Pan;go_wp2_with fail
  exact ⟨rfl,PSaysT.err HE.o (OnS.of_on A.o (.inl rfl))⟩
 replace HF:=zh (HF.o.trans (aH hm));replace HW:=zh (HW.o.call HY.o ho);replace D:=zh hr;replace A:=zh (A.o.trans ho);subst hv;clear hp hm ho hr;have b0:w2.cell? ⟨BR,0,none⟩=some (.pointer (some ⟨rb,0,none⟩)):=aa HW.o.br (j:=0) rfl;go_wp2_with fail
 clear b0;have HB:=zh (ag (Below.refl w2.heap.size w2) (.cells #[.string ⟨#[58]⟩] 9));replace HW:=zh (HW.o.below HB.o);replace A:=zh (A.o.trans (On.of_below HB.o));refine (aV rb w2.heap.size jV L2 en _ (D.o.on HB.o) (aA _ _ _ _ _ _ rfl rfl)).mono ?_;rintro e w3 hp;rcases hp.cases with ⟨er,p,hm,rfl,ho⟩ | ⟨x3,L3,v,hm,rfl,hv,hr,ho⟩
 ·have HE:=zh (HF.o.trans (aD hm))
  replace A:=zh (A.o.trans ho);clear hp hm ho;unfold Pan;go_wp2_with fail
  exact ⟨rfl,PSaysT.err HE.o (OnS.of_on A.o (.inl rfl))⟩
 replace HF:=zh (HF.o.trans (aH hm));replace HW:=zh (HW.o.call HY.o ho);replace D:=zh hr;replace A:=zh (A.o.trans ho);subst hv;clear hp hm ho hr HB;obtain ⟨s0,cap,U,X,V⟩:=HW.o.form;subst U;have b0:w3.cell? ⟨BR,0,none⟩=some (.pointer (some ⟨rb,0,none⟩)):=aa HW.o.br (j:=0) rfl;have q0:w3.cell? ⟨FB,1,none⟩=some (.slice s0 ps.length cap):=aa HW.o.fb (j:=1) rfl;go_upto_region 2 with fail
 refine ay (S:=(fun w'=>w'.cell? ⟨FB,1,none⟩=some (.slice s0 ps.length cap)∧w'.cell? ⟨BR,0,none⟩=some (.pointer (some ⟨rb,0,none⟩)))) 7 (by kernel_rfl) (by kernel_rfl) (by (first | exact ⟨q0,b0⟩ | exact ⟨aq _ q0,aq _ b0⟩)) (fun hH=>?_);simp only [List.take_succ_cons,List.take_zero,List.drop_succ_cons,List.drop_zero]
 refine tkA 0 ?_;refine tkA 1 ?_;refine tkA 2 ?_;refine tkA 3 ?_;refine rd1 4 fun K hK=>?_;go_simp;go_at_call 75
 refine (uu rb L3 en _ (D.o.on (aw (Below.refl _ _)))).mono ?_;rintro e w4 hp;rcases hp.cases with ⟨er,p,hm,rfl,ho⟩ | ⟨x4,L4,v,hm,rfl,hv,hr,ho⟩
 ·have HE:=zh (HF.o.trans (aD hm))
  have E:=(On.of_below (aw (Below.refl _ _)):On rb w3 _).trans ho;replace A:=zh (A.o.trans E);clear hp hm ho E;unfold Pan
  (try go_wp2_with fail)
  exact ⟨rfl,PSaysT.err HE.o (OnS.of_on A.o (.inl rfl))⟩
 replace HF:=zh (HF.o.trans (aH hm));have E:=(On.of_below (aw (Below.refl _ _)):On rb w3 _).trans ho;replace HW:=zh (HW.o.call HY.o E);replace D:=zh hr;replace A:=zh (A.o.trans E);subst hv;replace b0:w4.cell? ⟨BR,0,none⟩=some (.pointer (some ⟨rb,0,none⟩)):=aa HW.o.br (j:=0) rfl;replace q0:w4.cell? ⟨FB,1,none⟩=some (.slice s0 ps.length cap):=aa HW.o.fb (j:=1) rfl;clear hp hm hr ho E;go_simp;refine hK.out _ _ ?_ (fun hH=>?_)
 ·(try dsimp only)
  (first | exact ⟨q0,b0⟩ | exact ⟨aq _ q0,aq _ b0⟩)
 clear hK K;try go_simp
 refine tkA 5 ?_;refine rd1 6 fun K hK=>?_;go_simp;refine hK.out _ _ ?_ (fun hH=>?_)
 ·(try dsimp only)
  (first | exact ⟨q0,b0⟩ | exact ⟨aq _ q0,aq _ b0⟩)
 clear hK K;try go_simp
 refine wpAnyH_done (by kernel_rfl) ?_ _;dsimp only [aP];have N:=zh (ag (Below.refl w4.heap.size w4) (.cells #[.string x2,.int .i64 x4] 80));have H:=zh (HW.o.below N.o);obtain ⟨cs,F,O⟩:=H.o.ps;have I:=zh F;have W:=zh O;have fz:(w4.alloc (.cells #[.string x2,.int .i64 x4] 80)).frozen? ⟨FB,1,none⟩=false:=ae H.o.fb 1;have Q:=zh H.o.fb;clear F O b0 q0;have P:=zh hn;unfold maxLen at V;refine wpList_append_lies _ rfl _ _ _ rfl base 80 HI.o.choose (.agg #[.string ⟨#[]⟩,.int .i64 0]) 2 24 Tryz.underlying73 HI.o.choose_spec.1 HI.o.choose_spec.2.1 HI.o.choose_spec.2.2.1 HI.o.choose_spec.2.2.2 rfl (by decide) _ ps.length (bG cs ps.length) rfl I.o ⟨w4.heap.size,0,none⟩ 1 1 [.string x2,.int .i64 x4] rfl rfl (by intro j u hj;rw [Go.WideShapes.add_plain,Nat.zero_add];exact aA _ _ _ _ _ _ rfl (by simpa using hj)) (by intro u hu;simp at hu;rcases hu with rfl | rfl<;>rfl) (by decide) (by have:=P.o;unfold maxLen;omega) (by have:=P.o;omega) H.o.big _ rfl ?_;intro g9 cp9 w9 C B G L;have M:=zh (H.o.push (q:=(x2,x4)) HY.o W.o rfl B G C);have z9:=(B.block FB (af Q.o) (fun e=>by have h1:base≤FB:=(aI I.o e.symm).1;have:=J.o;omega)).trans Q.o;have x9:w9.cell? ⟨FB,1,none⟩=some (.slice s0 ps.length cap):=aa z9 (j:=1) rfl;have y9:=ae z9 1;clear C B G L z9 fz;go_wp2_with fail
 go_end0
 exact PSaysT.ok (x:=(x2,x4)) (l:=L4) HF.o ⟨rfl,_,M.o.1⟩ ((D.o.on N.o).offS M.o.2 (fun b hb=>by have h1:=J.o;have Y:b=FB∨base≤b:=hb;omega)) (((OnS.of_on A.o (.inl rfl)).trans (OnS.of_below N.o)).trans (M.o.2.mono fun i hi=>.inr hi))
end
section
open Go.RowKit
def RepPas (S:Nat→Prop) (w:World) (v:Value) (l:List (ByteArray×Int)):Prop:=∃cs,RowOf S w v 2 l.length cs∧∀i,i<l.length→um S w (cs i) (l.getD i default)
def RepFn (S:Nat→Prop) (w:World) (cs:List Value) (x:Fn):Prop:=∃vp vb,cs=[.string x.name,vp,.int .i64 x.result,vb,.int .i64 x.pos]∧RepPas S w vp x.params∧RepSts S w vb x.body
theorem RepPas.keep {S:Nat→Prop} {w w':World} {v:Value} {l:List (ByteArray×Int)} (h:RepPas S w v l) (hk:Stays S w w'):RepPas S w' v l:=by
 obtain ⟨cs,h1,h2⟩:=h;exact ⟨cs,h1.keep hk,h2⟩
theorem RepPas.mono {S S':Nat→Prop} {w:World} {v:Value} {l:List (ByteArray×Int)} (h:RepPas S w v l) (hb:∀b,S b→S' b):RepPas S' w v l:=by
 obtain ⟨cs,h1,h2⟩:=h;exact ⟨cs,h1.mono hb,h2⟩
theorem RepFn.keep {S:Nat→Prop} {w w':World} {cs:List Value} {x:Fn} (h:RepFn S w cs x) (hk:Stays S w w'):RepFn S w' cs x:=by
 obtain ⟨vp,vb,h1,h2,h3⟩:=h;exact ⟨vp,vb,h1,h2.keep hk,h3.keep hk⟩
theorem RepFn.mono {S S':Nat→Prop} {w:World} {cs:List Value} {x:Fn} (h:RepFn S w cs x) (hb:∀b,S b→S' b):RepFn S' w cs x:=by
 obtain ⟨vp,vb,h1,h2,h3⟩:=h;exact ⟨vp,vb,h1,h2.mono hb,h3.mono hb⟩
theorem RepFn.lies {S:Nat→Prop} {w:World} {cs:List Value} {x:Fn} (h:RepFn S w cs x):RepFn (fun b=>S b∧b<w.heap.size) w cs x:=by
 obtain ⟨vp,vb,h1,⟨c,h2,B⟩,⟨c',h3,A⟩⟩:=h;exact ⟨vp,vb,h1,⟨c,h2.lies,B⟩,⟨c',h3.lies,fun i hi=>(A i hi).lies⟩⟩
def fnK:Kind Fn:=⟨RepFn,RepFn.keep,RepFn.mono,RepFn.lies⟩
def RF (base:Nat) (w:World) (x:Fn) (v:Value):Prop:=∃nm s1 n1 c1 rs s2 n2 c2 pos,v=.agg #[.string nm,.slice s1 n1 c1,.int .i64 rs,.slice s2 n2 c2,.int .i64 pos]∧RepFn (bM base) w [.string nm,.slice s1 n1 c1,.int .i64 rs,.slice s2 n2 c2,.int .i64 pos] x
structure FuW (w:World) (y:FLay) (RES:Nat) (W:World) (L:List Tk) (nm:ByteArray) (vp:Value) (ps:List (ByteArray×Int)) (rs:Int) (vb:Value) (bs:List St):Prop where
 rd:RdAt W y.rb L y.en
 on:On y.rb w W
 res:W.heap[RES]?=some (.cells #[.string ⟨#[]⟩,.slice none 0 0,.int .i64 0,.slice none 0 0,.int .i64 0] 76 (0,0))
 f:FuF y W nm vp ps rs vb bs
structure FOk (w:World) (y:FLay) (RES:Nat):Prop where
 f:y.Ok
 res:w.heap.size≤RES∧RES≠y.FB
 br:w.heap.size≤y.BR
 rr:y.rb<RES∧RES<y.base
 fb:w.heap.size≤y.FB
section
variable {w W W':World} {y:FLay} {RES:Nat} {L L':List Tk} {nm:ByteArray} {vp vb:Value} {ps:List (ByteArray×Int)} {rs:Int} {bs:List St}
theorem FuW.call (h:FuW w y RES W L nm vp ps rs vb bs) (hy:FOk w y RES) (ho:On y.rb W W') (hr:RdAt W' y.rb L' y.en):FuW w y RES W' L' nm vp ps rs vb bs:=
 ⟨hr,h.on.trans ho,ho.obj (Nat.ne_of_gt hy.rr.1) h.res,h.f.call hy.f ho⟩
theorem FuW.below (h:FuW w y RES W L nm vp ps rs vb bs) (hb:Below W.heap.size W W'):FuW w y RES W' L nm vp ps rs vb bs:=
 ⟨h.rd.on hb,h.on.trans (On.of_below hb),(hb.block _ (af h.res)).trans h.res,h.f.below hb⟩
theorem FuW.store (h:FuW w y RES W L nm vp ps rs vb bs) (hy:FOk w y RES) (j:Nat) (u:Value) {C:ByteArray} {B:Int} {A:Value} {D:List St}
    (ha:(#[.string nm,vp,.int .i64 rs,vb,.int .i64 y.pl]:Array Value).setIfInBounds j u=#[.string C,vp,.int .i64 B,A,.int .i64 y.pl]) (hb:RepSts (bM y.base) W A D) :
    FuW w y RES (W.setCell ⟨y.FB,j,none⟩ u) L C vp ps B A D:=by
 have ho:On y.FB W (W.setCell ⟨y.FB,j,none⟩ u):=(On.refl _ _).set j u;exact ⟨h.rd.off ho hy.f.fb.1,h.on.new ho hy.fb,ho.obj hy.res.2 h.res,h.f.store hy.f j u ha hb⟩
theorem FuW.listed {A:Value} {B:List (ByteArray×Int)} (h:FuW w y RES W L nm vp ps rs vb bs) (hy:FOk w y RES) (ho:OnS (fun b=>b=y.rb∨b=y.FB∨y.base≤b) W W') (hr:RdAt W' y.rb L' y.en) (hf:FuF y W' nm A B rs (.slice none 0 0) []) :
    FuW w y RES W' L' nm A B rs (.slice none 0 0) []:=by
 have h1:=hy.f.fb;have h2:=hy.f.br;exact ⟨hr,On.of_onS h.on ho (fun i hi=>by have:=hy.br;have:=hy.fb;omega),ho.obj (by have:=hy.rr;have:=hy.res;omega) h.res,hf⟩
theorem FuW.done {s1 s2:Option Addr} {n1 c1 n2 c2:Nat} {R:Except (Int×Int) (Fn×List Tk)} (h:FuW w y RES W L nm (.slice s1 n1 c1) ps rs (.slice s2 n2 c2) bs) (hy:FOk w y RES) (hR:R=.ok (⟨nm,ps,rs,bs,y.pl⟩,L)) :
    PSays y.rb y.en w (RF w.heap.size) R (.returned (.agg #[.string nm,.slice s1 n1 c1,.int .i64 rs,.slice s2 n2 c2,.int .i64 y.pl])) (set5 W RES (.string nm) (.slice s1 n1 c1) (.int .i64 rs) (.slice s2 n2 c2) (.int .i64 y.pl)):=by
 have ho:On RES W (set5 W RES (.string nm) (.slice s1 n1 c1) (.int .i64 rs) (.slice s2 n2 c2) (.int .i64 y.pl)):=(On.refl _ _).set5 _ _ _ _ _;have B:Stays (bM y.base) W _:=Stays.of_on ho hy.rr.2;obtain ⟨cs,A,C⟩:=h.f.ps.row;refine PSays.ok hR ⟨_,_,_,_,_,_,_,_,_,rfl,?_⟩ (h.rd.off ho hy.rr.1) (h.on.new ho hy.res.1);refine RepFn.mono (S:=bM y.base) (RepFn.keep ⟨_,_,rfl,⟨cs,A,C⟩,h.f.bo⟩ B) fun b (hb:y.base≤b)=>(Nat.le_trans (by have:=hy.f.br;have:=hy.br;omega) hb:w.heap.size≤b)
end
theorem kJ (en:Int):Strict (lm en):=(dG en).bind fun _=>((aT en jV).bind fun _=>((nY en).bind fun _=>dj _).weak).weak
theorem zt (rb:Nat) (en:Int):∀(l:List Tk) (w:World),RdAt w rb l en→Calls Tryz.prog 51 #[.pointer (some ⟨rb,0,none⟩)] w (PSays rb en w (RF w.heap.size) (gw en l)):=by
 intro l w h;have L:=zh h.lt;have H:=zh (ag (ag (Below.refl w.heap.size w) (.cells #[.pointer (some ⟨rb,0,none⟩)] 108)) (.cells #[.string ⟨#[]⟩,.slice none 0 0,.int .i64 0,.slice none 0 0,.int .i64 0] 76));have P:=zh (h.on H.o);generalize hR:gw en l=R;generalize I:aQ en l=pl at *;have V:=zh I;have G:=hR.symm;unfold gw at G;rw [I] at G;have HF:=zh G;have T:∀args W,Sem.run Tryz.prog (callFunc 74 args) W=.ok (.enter 74 args) W:=fun _ _=>Tryz.call74 _ _;clear hR I G;go_enter Tryz.func51,Tryz.ntmps51
 go_wp2_with fail
 refine (fH rb l en _ P.o).mono ?_;rintro e w1 ⟨rfl,rfl⟩;rw [V.o];go_upto_region 2 with fail
 have HW:Hd (FuW w ⟨rb,w.heap.size,w.heap.size+1+1,w.heap.size+1+1+1,en,pl⟩ (w.heap.size+1) (((w.alloc (.cells #[.pointer (some ⟨rb,0,none⟩)] 108)).alloc (.cells #[.string ⟨#[]⟩,.slice none 0 0,.int .i64 0,.slice none 0 0,.int .i64 0] 76)).alloc (.cells #[.string ⟨#[]⟩,.slice none 0 0,.int .i64 0,.slice none 0 0,.int .i64 pl] 76)) l ⟨#[]⟩ (.slice none 0 0) [] 0 (.slice none 0 0) []):=zh ⟨h.on (ag H.o _),On.of_below (ag H.o _),ax _ _ _ _ (aj _ _ _ (ah _ _)),⟨ax _ _ _ _ (ax _ _ _ _ (aj _ _ _ rfl)),aj _ _ _ (by simp only [ah]),GrowOf.nil,RepSts.nil _ _,by simp only [ah];exact Nat.le_refl _⟩⟩;have HY:Hd (FOk w ⟨rb,w.heap.size,w.heap.size+1+1,w.heap.size+1+1+1,en,pl⟩ (w.heap.size+1)):=zh (by have:=L.o;exact ⟨⟨⟨by dsimp only;omega,by dsimp only;omega⟩,⟨by dsimp only;omega,by dsimp only;omega⟩,by dsimp only;omega⟩,⟨by omega,by dsimp only;omega⟩,by dsimp only;omega,⟨by dsimp only;omega,by dsimp only;omega⟩,by dsimp only;omega⟩);have A:Hd (rb<w.heap.size∧w.heap.size<w.heap.size+1∧w.heap.size+1<w.heap.size+1+1∧w.heap.size+1+1<w.heap.size+1+1+1):=zh (by have:=L.o;omega);clear h P H;generalize (((w.alloc (.cells #[.pointer (some ⟨rb,0,none⟩)] 108)).alloc (.cells #[.string ⟨#[]⟩,.slice none 0 0,.int .i64 0,.slice none 0 0,.int .i64 0] 76)).alloc (.cells #[.string ⟨#[]⟩,.slice none 0 0,.int .i64 0,.slice none 0 0,.int .i64 pl] 76))=w1 at *;generalize C:w.heap.size+1+1+1=base at *;generalize U:w.heap.size+1+1=FB at *;generalize K:w.heap.size+1=RES at *;generalize O:w.heap.size=BR at *;replace A:Hd (w.heap.size=BR∧rb<BR∧BR<RES∧RES<FB∧FB<base):=zh ⟨O,A.o⟩;clear C U K O L;have a:¬BR=FB:=by have:=A.o;omega
 have Z:¬FB=BR:=by have:=A.o;omega
 have Y:¬RES=FB:=by have:=A.o;omega
 have X:¬FB=RES:=by have:=A.o;omega
 have b0:w1.cell? ⟨BR,0,none⟩=some (.pointer (some ⟨rb,0,none⟩)):=aa HW.o.f.br (j:=0) rfl;go_wp2_with fail
 clear b0;have HB:=zh (ag (Below.refl w1.heap.size w1) (.cells #[.string ⟨#[102,110]⟩] 9));replace HW:=zh (HW.o.below HB.o);refine (aV rb w1.heap.size sFn l en _ HW.o.rd (aA _ _ _ _ _ _ rfl rfl)).mono ?_;rintro e w2 hp;rcases hp.cases with ⟨er,p,hm,rfl,ho⟩ | ⟨x2,L2,v,hm,rfl,hv,hr,ho⟩
 ·have HE:=zh (HF.o.trans (aD hm))
  have B:=zh (HW.o.on.trans ho);clear hp hm ho;unfold Pan;go_wp2_with fail
  exact ⟨rfl,PSays.err HE.o B.o⟩
 replace HF:=zh (HF.o.trans (aH hm));replace HW:=zh (HW.o.call HY.o ho hr);subst hv;clear hp hm ho hr HB;have b0:w2.cell? ⟨BR,0,none⟩=some (.pointer (some ⟨rb,0,none⟩)):=aa HW.o.f.br (j:=0) rfl;go_wp2_with fail
 clear b0;refine (gV rb L2 en _ HW.o.rd).mono ?_;rintro e w3 hp;rcases hp.cases with ⟨er,p,hm,rfl,ho⟩ | ⟨x3,L3,v,hm,rfl,hv,hr,ho⟩
 ·have HE:=zh (HF.o.trans (aD hm))
  have B:=zh (HW.o.on.trans ho);clear hp hm ho;unfold Pan;go_wp2_with fail
  exact ⟨rfl,PSays.err HE.o B.o⟩
 replace HF:=zh (HF.o.trans (aH hm));replace HW:=zh (HW.o.call HY.o ho hr);subst hv;clear hp hm ho hr;have e0:w3.cell? ⟨FB,0,none⟩=some (.string ⟨#[]⟩):=aa HW.o.f.fb (j:=0) rfl;have g0:w3.frozen? ⟨FB,0,none⟩=false:=ae HW.o.f.fb 0;go_upto_region 4 with fail
 clear e0 g0;replace HW:=zh (HW.o.store HY.o 0 (.string x3) rfl HW.o.f.bo);generalize w3.setCell ⟨FB,0,none⟩ (.string x3)=w4 at *;have b0:w4.cell? ⟨BR,0,none⟩=some (.pointer (some ⟨rb,0,none⟩)):=aa HW.o.f.br (j:=0) rfl;go_wp2_with fail
 clear b0;have HB:=zh (ag (Below.refl w4.heap.size w4) (.cells #[.string ⟨#[40]⟩] 9));replace HW:=zh (HW.o.below HB.o);refine (aV rb w4.heap.size cU L3 en _ HW.o.rd (aA _ _ _ _ _ _ rfl rfl)).mono ?_;rintro e w5 hp;rcases hp.cases with ⟨er,p,hm,rfl,ho⟩ | ⟨x5,L5,v,hm,rfl,hv,hr,ho⟩
 ·have HE:=zh (HF.o.trans (aD hm))
  have B:=zh (HW.o.on.trans ho);clear hp hm ho;unfold Pan;go_wp2_with fail
  exact ⟨rfl,PSays.err HE.o B.o⟩
 replace HF:=zh (HF.o.trans (aH hm));replace HW:=zh (HW.o.call HY.o ho hr);subst hv;clear hp hm ho hr HB;have E:=zh HW.o.rd.few;have b0:w5.cell? ⟨BR,0,none⟩=some (.pointer (some ⟨rb,0,none⟩)):=aa HW.o.f.br (j:=0) rfl;have D:=zh (qY rb en (fun b=>b=rb∨b=FB∨base≤b) (Or.inl rfl) 74 #[.pointer (some ⟨BR,0,none⟩),.pointer (some ⟨FB,0,none⟩)] T (lm en) (fun W acc=>∃vp,FuF ⟨rb,BR,FB,base,en,pl⟩ W x3 vp acc 0 (.slice none 0 0) []) (fun W W' acc hi ho=>⟨hi.choose,hi.choose_spec.call HY.o.f ho⟩) (kJ en) (fun l' W acc J S hi=>(AD ⟨rb,BR,FB,base,en,pl⟩ HY.o.f rb BR FB base en pl rfl l' W S x3 hi.choose acc hi.choose_spec J)) (L5.length+1) L5 (Nat.lt_succ_self _) (by have:=E.o;omega) w5 HW.o.rd ⟨_,HW.o.f⟩);go_wp2_with fail
 clear b0;refine (D.o).mono ?_;rintro e w6 hp;rcases hp.cases with ⟨er,p,hm,rfl,ho⟩ | ⟨x6,L6,v,hm,rfl,hv,hr,ho⟩
 ·have HE:=zh (HF.o.trans (aD hm))
  have B:=zh (On.of_onS HW.o.on ho (fun i hi=>by have h1:=A.o;have h2:i=rb∨i=FB∨base≤i:=hi;show i=rb∨w.heap.size≤i;omega));clear hp hm ho;unfold Pan;go_wp2_with fail
  exact ⟨rfl,PSays.err HE.o B.o⟩
 replace HF:=zh (HF.o.trans (aH hm));obtain ⟨Q,vp,N⟩:=hv;subst Q;replace HW:=zh (HW.o.listed HY.o ho hr N);clear hp hm ho hr N D E;have b0:w6.cell? ⟨BR,0,none⟩=some (.pointer (some ⟨rb,0,none⟩)):=aa HW.o.f.br (j:=0) rfl;go_wp2_with fail
 clear b0
 cases hq:atS L6 0 jV
 ·replace HF:=zh (HF.o.trans (if_neg (by rw [hq];decide)))
  refine (cV rb _ L6 en _ HW.o.rd hq).mono ?_;rintro e w7 ⟨rfl,hr,ho⟩;replace HW:=zh (HW.o.call HY.o ho hr);clear hr ho hq;have b0:w7.cell? ⟨BR,0,none⟩=some (.pointer (some ⟨rb,0,none⟩)):=aa HW.o.f.br (j:=0) rfl;go_wp2_with fail
  clear b0;refine ((lw rb en 32 1 (by decide) (by decide)) L6 _ HW.o.rd).mono ?_;rintro e w8 hp;rcases hp.cases with ⟨er,p,hm,rfl,ho⟩ | ⟨x8,L8,v,hm,rfl,hv,hr,ho⟩
  ·have HE:=zh (HF.o.trans (aD hm))
   have B:=zh (HW.o.on.trans ho);clear hp hm ho;unfold Pan;go_wp2_with fail
   exact ⟨rfl,PSays.err HE.o B.o⟩
  replace HF:=zh (HF.o.trans (aH hm));have F:=zh HW.o.f.big;replace HW:=zh (HW.o.call HY.o ho hr);obtain ⟨s9,n9,k9,rfl⟩:=RepSts.form hv;have M:=zh (RepSts.mono (S':=bM base) hv fun b (hb:_≤b)=>Nat.le_trans F.o hb);clear hp hm ho hr hv F;have e3:w8.cell? ⟨FB,3,none⟩=some (.slice none 0 0):=aa HW.o.f.fb (j:=3) rfl;have g3:w8.frozen? ⟨FB,3,none⟩=false:=ae HW.o.f.fb 3;go_upto_region 9 with fail
  clear e3 g3;replace HW:=zh (HW.o.store HY.o 3 (.slice s9 n9 k9) rfl M.o);generalize w8.setCell ⟨FB,3,none⟩ (.slice s9 n9 k9)=w9 at *;obtain ⟨sP,kP,hP,_,_⟩:=HW.o.f.form;subst hP;obtain ⟨e0,e1,e2,e3,e4,-⟩:=css HW.o.f.fb;have c0:w9.cell? ⟨RES,0,none⟩=some (.string ⟨#[]⟩):=aa HW.o.res (j:=0) rfl;have f0:w9.frozen? ⟨RES,0,none⟩=false:=ae HW.o.res 0;have c1:w9.cell? ⟨RES,1,none⟩=some (.slice none 0 0):=aa HW.o.res (j:=1) rfl;have f1:w9.frozen? ⟨RES,1,none⟩=false:=ae HW.o.res 1;have c2:w9.cell? ⟨RES,2,none⟩=some (.int .i64 0):=aa HW.o.res (j:=2) rfl;have f2:w9.frozen? ⟨RES,2,none⟩=false:=ae HW.o.res 2;have c3:w9.cell? ⟨RES,3,none⟩=some (.slice none 0 0):=aa HW.o.res (j:=3) rfl;have f3:w9.frozen? ⟨RES,3,none⟩=false:=ae HW.o.res 3;have c4:w9.cell? ⟨RES,4,none⟩=some (.int .i64 0):=aa HW.o.res (j:=4) rfl;have f4:w9.frozen? ⟨RES,4,none⟩=false:=ae HW.o.res 4;go_wp2_with fail
  refine bodyPost_ret (v:=.agg #[.string x3,.slice sP x6.length kP,.int .i64 0,.slice s9 n9 k9,.int .i64 pl]) (by simp [results,Tryz.results51,go_sem,c0,c1,c2,c3,c4]) rfl ?_;have hq:=HW.o.done HY.o HF.o;rw [A.o.1] at hq;exact hq
 ·replace HF:=zh (HF.o.trans (if_pos hq))
  refine (de rb _ L6 en _ HW.o.rd hq).mono ?_;rintro e w7 ⟨rfl,hr,ho⟩;replace HW:=zh (HW.o.call HY.o ho hr);clear hr ho hq;generalize L6.tail=L7 at *;have b0:w7.cell? ⟨BR,0,none⟩=some (.pointer (some ⟨rb,0,none⟩)):=aa HW.o.f.br (j:=0) rfl;go_wp2_with fail
  clear b0;refine (uu rb L7 en _ HW.o.rd).mono ?_;rintro e w8 hp;rcases hp.cases with ⟨er,p,hm,rfl,ho⟩ | ⟨x8,L8,v,hm,rfl,hv,hr,ho⟩
  ·have HE:=zh (HF.o.trans (aD hm))
   have B:=zh (HW.o.on.trans ho);clear hp hm ho;unfold Pan;go_wp2_with fail
   exact ⟨rfl,PSays.err HE.o B.o⟩
  replace HF:=zh (HF.o.trans (aH hm));replace HW:=zh (HW.o.call HY.o ho hr);subst hv;clear hp hm ho hr;have e2:w8.cell? ⟨FB,2,none⟩=some (.int .i64 0):=aa HW.o.f.fb (j:=2) rfl;have g2:w8.frozen? ⟨FB,2,none⟩=false:=ae HW.o.f.fb 2;go_upto_region 8 with fail
  clear e2 g2;replace HW:=zh (HW.o.store HY.o 2 (.int .i64 x8) rfl HW.o.f.bo);generalize w8.setCell ⟨FB,2,none⟩ (.int .i64 x8)=w9 at *;have b0:w9.cell? ⟨BR,0,none⟩=some (.pointer (some ⟨rb,0,none⟩)):=aa HW.o.f.br (j:=0) rfl;go_wp2_with fail
  clear b0;refine ((lw rb en 32 1 (by decide) (by decide)) L8 _ HW.o.rd).mono ?_;rintro e w10 hp;rcases hp.cases with ⟨er,p,hm,rfl,ho⟩ | ⟨x10,L10,v,hm,rfl,hv,hr,ho⟩
  ·have HE:=zh (HF.o.trans (aD hm))
   have B:=zh (HW.o.on.trans ho);clear hp hm ho;unfold Pan;go_wp2_with fail
   exact ⟨rfl,PSays.err HE.o B.o⟩
  replace HF:=zh (HF.o.trans (aH hm));have F:=zh HW.o.f.big;replace HW:=zh (HW.o.call HY.o ho hr);obtain ⟨s9,n9,k9,rfl⟩:=RepSts.form hv;have M:=zh (RepSts.mono (S':=bM base) hv fun b (hb:_≤b)=>Nat.le_trans F.o hb);clear hp hm ho hr hv F;have e3:w10.cell? ⟨FB,3,none⟩=some (.slice none 0 0):=aa HW.o.f.fb (j:=3) rfl;have g3:w10.frozen? ⟨FB,3,none⟩=false:=ae HW.o.f.fb 3;go_upto_region 9 with fail
  clear e3 g3;replace HW:=zh (HW.o.store HY.o 3 (.slice s9 n9 k9) rfl M.o);generalize w10.setCell ⟨FB,3,none⟩ (.slice s9 n9 k9)=w11 at *;obtain ⟨sP,kP,hP,_,_⟩:=HW.o.f.form;subst hP;obtain ⟨e0,e1,e2,e3,e4,-⟩:=css HW.o.f.fb;have c0:w11.cell? ⟨RES,0,none⟩=some (.string ⟨#[]⟩):=aa HW.o.res (j:=0) rfl;have f0:w11.frozen? ⟨RES,0,none⟩=false:=ae HW.o.res 0;have c1:w11.cell? ⟨RES,1,none⟩=some (.slice none 0 0):=aa HW.o.res (j:=1) rfl;have f1:w11.frozen? ⟨RES,1,none⟩=false:=ae HW.o.res 1;have c2:w11.cell? ⟨RES,2,none⟩=some (.int .i64 0):=aa HW.o.res (j:=2) rfl;have f2:w11.frozen? ⟨RES,2,none⟩=false:=ae HW.o.res 2;have c3:w11.cell? ⟨RES,3,none⟩=some (.slice none 0 0):=aa HW.o.res (j:=3) rfl;have f3:w11.frozen? ⟨RES,3,none⟩=false:=ae HW.o.res 3;have c4:w11.cell? ⟨RES,4,none⟩=some (.int .i64 0):=aa HW.o.res (j:=4) rfl;have f4:w11.frozen? ⟨RES,4,none⟩=false:=ae HW.o.res 4;go_wp2_with fail
  refine bodyPost_ret (v:=.agg #[.string x3,.slice sP x6.length kP,.int .i64 x8,.slice s9 n9 k9,.int .i64 pl]) (by simp [results,Tryz.results51,go_sem,c0,c1,c2,c3,c4]) rfl ?_;have hq:=HW.o.done HY.o HF.o;rw [A.o.1] at hq;exact hq
end
section
section
open Go.RowKit
structure ResAt (w:World) (P E A:Nat) (v:Value) (e a:Int):Prop where
 p:w.heap[P]?=some (.cells #[v] 26 (0,0))
 e:w.heap[E]?=some (.cells #[.int .i64 e] 27 (0,0))
 a:w.heap[A]?=some (.cells #[.int .i64 a] 3 (0,0))
 ne:P≠E∧P≠A∧E≠A
def set3 (w:World) (P E A:Nat) (v:Value) (e a:Int):World:=((w.setCell ⟨P,0,none⟩ v).setCell ⟨E,0,none⟩ (.int .i64 e)).setCell ⟨A,0,none⟩ (.int .i64 a)
theorem rO (P E A:Nat) (v:Value) (e0 a0 er pos:Int) (B:List PanicEntry) (w:World) (h:ResAt w P E A v e0 a0) :
    CallsD Tryz.prog 50 #[.pointer (some ⟨P,0,none⟩),.pointer (some ⟨E,0,none⟩),.pointer (some ⟨A,0,none⟩)] (.panicking ({ v:=.iface 106 (.agg #[.int .i64 er,.int .i64 pos]),recovered:=false } :: B)) w fun e u' w' =>
     e=.returned (.tuple #[])∧u'=.panicking ({ v:=.iface 106 (.agg #[.int .i64 er,.int .i64 pos]),recovered:=true } :: B)∧w'=((set3 w P E A (.slice none 0 0) er pos).alloc (.cells #[.int .i64 er,.int .i64 pos] 106)).drew:=by
 refine callsD_of_wpS Tryz.func50 rfl fun c₀ cs hu=>?_;apply wpS_seq;apply wpS_region;simp [wpOpsS,go_sem,recoverD,hu,Tryz.ntmps50,Exit.thenS]
 refine wpS_of_wp ?_;simp only [Array.replicate_succ,Array.replicate_zero,List.push_toArray,List.setIfInBounds_toArray,List.set_cons_succ,List.set_cons_zero,List.append_toArray,List.cons_append,List.nil_append]
 have p0:w.cell? ⟨P,0,none⟩=some v:=aa h.p (j:=0) rfl;have p1:w.cell? ⟨E,0,none⟩=some (.int .i64 e0):=aa h.e (j:=0) rfl;have p2:w.cell? ⟨A,0,none⟩=some (.int .i64 a0):=aa h.a (j:=0) rfl;have f0:w.frozen? ⟨P,0,none⟩=false:=ae h.p 0;have f1:w.frozen? ⟨E,0,none⟩=false:=ae h.e 0;have f2:w.frozen? ⟨A,0,none⟩=false:=ae h.a 0;obtain ⟨n0,n1,n2⟩:=h.ne;have l0:=af h.p;have l1:=af h.e;have l2:=af h.a;have HU:=zh hu;have C:∀W:World,(Instr.typeAssert (.iface 106 (.agg #[.int .i64 er,.int .i64 pos])) 20 106 true).run Tryz.prog W=.ok (.tuple #[.agg #[.int .i64 er,.int .i64 pos],.bool true]) W:=fun _=>by kernel_rfl
 clear h hu;go_wp2_with fail
 go_region
 go_wp2_with fail
 refine ⟨rfl,_,rfl,.tuple #[],by simp [results,Tryz.results50,go_sem],rfl,rfl,?_⟩;rfl
theorem mY (P E A:Nat) (w:World) :
    CallsD Tryz.prog 50 #[.pointer (some ⟨P,0,none⟩),.pointer (some ⟨E,0,none⟩),.pointer (some ⟨A,0,none⟩)] .returning w fun e u' w'=>e=.returned (.tuple #[])∧u'=.returning∧w'=w.alloc (.cells #[.int .i64 0,.int .i64 0] 106):=by
 refine callsD_of_wpS Tryz.func50 rfl fun c₀ cs hu=>?_;apply wpS_seq;apply wpS_region;simp [wpOpsS,go_sem,recoverD,hu,Tryz.ntmps50,Exit.thenS]
 refine wpS_of_wp ?_;simp only [Array.replicate_succ,Array.replicate_zero,List.push_toArray,List.setIfInBounds_toArray,List.set_cons_succ,List.set_cons_zero,List.append_toArray,List.cons_append,List.nil_append]
 have HU:=zh hu;have B:∀W:World,(Instr.typeAssert .nilIface 20 106 true).run Tryz.prog W=.ok (.tuple #[.agg #[.int .i64 0,.int .i64 0],.bool false]) W:=fun _=>by kernel_rfl
 have C:∀W:World,(binOp .neq 20 .nilIface .nilIface).run Tryz.prog W=.ok (.bool false) W:=fun _=>by kernel_rfl
 clear hu;go_wp2_with fail
 have hu:=HU.o
 cases c₀
 simp_all [bodyPostS,results,Tryz.results50]
theorem rD (s:List UInt8):∀(f a:Nat) (A l:List Tk),A.length≤2048→kY s f a A=.ok l→l.length≤2048
 | 0,a,A,l,h,e=>by
  have e':A=l:=by injection e
  rw [←e'];exact h
 | f+1,a,A,l,h,e=>by
  unfold kY at e;split at e
  ·split at e
   ·cases e
   ·split at e
    ·cases e
    ·exact rD s f _ _ l (by rw [List.length_append,List.length_singleton];omega) e
  ·have e':A=l:=by injection e
   rw [←e'];exact h
theorem qR {s:List UInt8} {l:List Tk} (h:iP s=.ok l):l.length≤2048:=by
 unfold iP at h;split at h
 ·cases h
 ·exact rD s _ _ _ l (by simp) h
def RepFns (S:Nat→Prop) (w:World) (v:Value) (l:List Fn):Prop:=∃cs,RowOf S w v 5 l.length cs∧∀i,i<l.length→RepFn S w (cs i) (l.getD i default)
theorem RepFns.nil (S:Nat→Prop) (w:World):RepFns S w (.slice none 0 0) []:=⟨fun _=>[],RowOf.nil _ _ _ _,fun i hi=>absurd hi (by simp)⟩
theorem RepFns.keep {S:Nat→Prop} {w w':World} {v:Value} {l:List Fn} (h:RepFns S w v l) (hk:Stays S w w'):RepFns S w' v l:=by
 obtain ⟨cs,h1,h2⟩:=h;exact ⟨cs,h1.keep hk,fun i hi=>(h2 i hi).keep hk⟩
theorem RepFns.mono {S S':Nat→Prop} {w:World} {v:Value} {l:List Fn} (h:RepFns S w v l) (hb:∀b,S b→S' b):RepFns S' w v l:=by
 obtain ⟨cs,h1,h2⟩:=h;exact ⟨cs,h1.mono hb,fun i hi=>(h2 i hi).mono hb⟩
def lD (w:World) (r:Except (Int×Int) (List Fn)) (e:Ending) (w':World):Prop:=
 (match r with
  | .error (er,p)=>er≠0∧e=.returned (.tuple #[.agg #[.slice none 0 0],.int .i64 er,.int .i64 p])
  | .ok l=>∃v,e=.returned (.tuple #[.agg #[v],.int .i64 0,.int .i64 0])∧RepFns (bM w.heap.size) w' v l)∧Below w.heap.size w w'
end
section
open Go.RowKit
def NoNil {α:Type} (p:Par α):Prop:=∀l er pos,p l=.error (er,pos)→er≠0
theorem NoNil.bind {α β:Type} {p:Par α} {f:α→Par β} (h:NoNil p) (hf:∀x,NoNil (f x)):NoNil (p.bind f):=fun l er pos e=>by
 unfold Par.bind at e;split at e
 ·rename_i e1 h1
  injection e with e
  subst e;exact h _ _ _ h1
 ·exact hf _ _ _ _ e
theorem eV {α:Type} (x:α):NoNil (okP x):=fun l er pos e=>by cases e
theorem cE (en:Int) (s:ByteArray):NoNil (bq en s):=fun l er pos e=>by
 unfold bq at e;split at e
 ·cases e
 ·cases e;decide
theorem zU (en k:Int):NoNil (eD en k):=fun l er pos e=>by
 unfold eD at e;split at e
 ·cases e;decide
 ·split at e
  ·cases e
  ·cases e;decide
theorem kK (en:Int):NoNil (ff en):=(zU en 1).bind fun _=>eV _
theorem yG (en:Int):NoNil (lr en):=fun l er pos e=>by
 unfold lr at e;split at e
 ·cases e
 ·split at e
  ·cases e
  ·exact ((cE en gZ).bind fun _=>eV _) _ _ _ e
theorem pf {α:Type} (en:Int) (one:Par α) (h:NoNil one):∀(f:Nat) (first:Bool) (A:List α),NoNil (eL en one f first A)
 | 0,_,_=>fun l er pos e=>by cases e;decide
 | f+1,first,A=>fun l er pos e=>by
  rw [iD] at e;split at e
  ·cases e
  ·refine (NoNil.bind (p:=if first then okP () else bq en gI) ?_ fun _=>h.bind fun x=>pf en one h f false _) _ _ _ e
   split
   ·exact eV _
   ·exact cE _ _
theorem ua (en:Int) (n:Nat) (N:Par Ex) (h:NoNil N):∀(f:Nat) (x:Ex),NoNil (ej en n N f x)
 | 0,x=>eV _
 | f+1,x=>fun l er pos e=>by
  unfold ej at e;split at e
  ·cases e
  ·refine (h.bind fun y=>?_) _ _ _ e
   split
   ·exact eV _
   ·exact ua en n N h f _
theorem kD (en:Int) (one:Par Ex) (h:NoNil one):∀j,NoNil (dl en one j)
 | 0=>h
 | j+1=>fun l er pos e=>by
  unfold dl at e;exact ((kD en one h j).bind fun x=>(fun r er pos e=>ua en _ _ (kD en one h j) _ _ _ _ _ e:NoNil _)) _ _ _ e
theorem kH (en:Int) (E:Par Ex) (h:NoNil E):NoNil (dR en E):=(cE en cU).bind fun _=>h.bind fun _=>(cE en cX).bind fun _=>eV _
theorem ro (en:Int) (E:Par Ex) (h:NoNil E):NoNil (iC en E):=fun l er pos e=>by
 unfold iC at e;split at e
 ·cases e
 split at e
 ·cases e
 split at e
 ·exact kH en E h _ _ _ e
 split at e
 ·exact ((kH en E h).bind fun _=>eV _) _ _ _ e
 split at e
 ·exact ((kH en E h).bind fun _=>eV _) _ _ _ e
 ·exact ((cE en Ak).bind fun _=>(kH en E h).bind fun _=>eV _) _ _ _ e
theorem sS (en:Int) (E:Par Ex) (h:NoNil E):NoNil (dQ en E):=fun l er pos e=>by
 unfold dQ at e;split at e
 ·exact ro en E h _ _ _ e
 split at e
 ·cases e
 split at e
 ·cases e
 split at e
 ·split at e
  ·exact ((pf en E h _ _ _).bind fun _=>eV _) _ _ _ e
  ·cases e
 ·exact ro en E h _ _ _ e
theorem pF (en:Int):∀k,NoNil (fX en k)
 | 0=>fun l er pos e=>by cases e;decide
 | k+1=>fun l er pos e=>by
  unfold fX at e;split at e
  ·exact ((pF en k).bind fun _=>eV _) _ _ _ e
  split at e
  ·exact ((pF en k).bind fun _=>eV _) _ _ _ e
  ·exact sS en _ (kD en _ (pF en k) 5) _ _ _ e
theorem A8 (en:Int) (k:Nat):NoNil (jg en k):=kD en _ (pF en k) 5
theorem ie (en:Int) (s:St):NoNil (iK en s):=(cE en fm).bind fun _=>eV _
theorem A7 (en:Int) (E:Par Ex) (B:Par (List St)) (hE:NoNil E) (hB:NoNil B):NoNil (jn en E B):=fun l er pos e=>by
 unfold jn at e;dsimp only at e;split at e
 ·exact ((kK en).bind fun n=>(cE en sEq).bind fun _=>hE.bind fun x=>ie en _) _ _ _ e
 split at e
 ·refine (hE.bind fun x=>hB.bind fun b=>(fun l er pos e=>?_:NoNil _)) _ _ _ e
  split at e
  ·exact (hB.bind fun e=>eV _) _ _ _ e
  ·cases e
 split at e
 ·exact ((kK en).bind fun n=>(cE en sEq).bind fun _=>hE.bind fun x=>(cE en sTo).bind fun _=>hE.bind fun y=>hB.bind fun b=>eV _) _ _ _ e
 split at e
 ·split at e
  ·exact ie en _ _ _ _ e
  ·exact (hE.bind fun x=>ie en _) _ _ _ e
 split at e
 ·exact ((cE en cU).bind fun _=>hE.bind fun x=>(cE en gI).bind fun _=>hE.bind fun y=>(cE en cX).bind fun _=>ie en _) _ _ _ e
 split at e
 ·exact ((cE en cU).bind fun _=>hE.bind fun x=>(cE en cX).bind fun _=>ie en _) _ _ _ e
 split at e<;>split at e<;>first
  | exact ((kK en).bind fun n=>(cE en sEq).bind fun _=>hE.bind fun x=>ie en _) _ _ _ e
  | exact (hE.bind fun x=>ie en _) _ _ _ e
theorem rF (en:Int) (P:Par St) (hP:NoNil P):∀(f:Nat) (A:List St),NoNil (ft en P f A)
 | 0,A=>fun l er pos e=>by cases e;decide
 | f+1,A=>fun l er pos e=>by
  rw [gu] at e;split at e
  ·cases e
  ·exact (hP.bind fun s=>rF en P hP f _) _ _ _ e
theorem mT (en:Int):∀k,NoNil (dL en k)
 | 0=>fun l er pos e=>by
  unfold dL at e;split at e<;>(cases e;decide)
 | k+1=>fun l er pos e=>by
  unfold dL at e;exact ((cE en dN).bind fun _=>(fun r er pos e=>rF en _ (A7 en _ _ (A8 en k) (mT en k)) _ _ _ _ _ e:NoNil _)) _ _ _ e
theorem AK (en:Int):NoNil (gw en):=fun l er pos e=>by
 unfold gw at e;refine ((cE en sFn).bind fun _=>(kK en).bind fun n=>(cE en cU).bind fun _=>(fun r er pos e=>?_:NoNil _)) _ _ _ e;refine ((pf en _ ((kK en).bind fun n=>(cE en jV).bind fun _=>(yG en).bind fun t=>eV _) _ _ _).bind fun ps=>(fun r er pos e=>?_:NoNil _)) _ _ _ e;split at e
 ·exact ((yG en).bind fun t=>(mT en 32).bind fun b=>eV _) _ _ _ e
 ·exact ((mT en 32).bind fun b=>eV _) _ _ _ e
theorem vt (en:Int) (f:Nat) (A:List Fn):gi en f A []=.ok (A,[]):=by
 cases f<;>rfl
theorem lN (en:Int):Strict (gw en):=fun l x r e=>by
 unfold gw at e;refine ((aT en sFn).bind fun _=>((dG en).bind fun n=>((aT en cU).bind fun _=>(fun l x r e=>?_:Weak _)).weak).weak) _ _ _ e;refine ((i9 en _ (kJ en) _ _ _).bind fun ps=>(fun l x r e=>?_:Weak _)).weak _ _ _ e;split at e
 ·rename_i h
  have:=bE h;have:=((nY en).bind fun t=>(iq en 32).bind fun b=>dj _) _ _ _ e;omega
 ·exact ((iq en 32).bind fun b=>dj _) _ _ _ e
theorem rX (s:List UInt8):∀(f a:Nat) (A:List Tk) (er:Int) (p:Nat),kY s f a A=.error (er,p)→er≠0
 | 0,a,A,er,p,e=>by cases e
 | f+1,a,A,er,p,e=>by
  unfold kY at e;split at e
  ·split at e
   ·rename_i h
    injection e with e
    injection e with e1 e2
    subst e1;rcases oE h with q | q<;>omega
   ·split at e
    ·cases e;decide
    ·exact rX s f _ _ er p e
  ·cases e
theorem xV {s:List UInt8} {er:Int} {p:Nat} (h:iP s=.error (er,p)):er≠0:=by
 unfold iP at h;split at h
 ·cases h;decide
 ·exact rX s _ _ _ er p h
end
end
end Go.Proofs.YthgcpfkochikfaaGreat
