/-
  EvalLoops: part 19 of its proof: see the last text.
-/
import Derived.Test.YthgcpfkochikfaaGreatPq18
set_option maxRecDepth 100000
set_option maxHeartbeats 16000000
namespace Go.Proofs.YthgcpfkochikfaaGreat
section
open Go.RowKit
attribute [local go_sem ↓] Go.wp_at_zero Go.wp_at_succ
mutual
def WfS (F:List Fn):St→Prop
 | .mk op _ es body els _=>(1≤op∧op≤8∧(op=1∨op=2∨op=3∨op=7→es.length=1)∧(op=4∨op=6→es.length=2)∧(op=5→es.length≤1)∧es.length≤2)∧WfEs F es∧kH F body∧kH F els
def kH (F:List Fn):List St→Prop
 | []=>True
 | s :: l=>WfS F s∧kH F l
end
def StR (y:Ly) (l:List (Nat×Nat)) (w:World) (p:Option Vv×List Sc) (v:Value):Prop:=∃va,v=.tuple #[va,.bool p.1.isSome]∧VvR y w (p.1.getD noV) va∧ChAt y.D w l p.2
def Aa (y:Ly) (m:Nat) (s:St):Prop:=∀(l:List (Nat×Nat)) (σ:List Sc) (r:Rst) (w:World) (cs:List Value),RunAt y w r (kC m)→ChAt y.D w l σ→l≠[]→RepSt (fun b=>b<y.D) w cs s →
 Calls Tryz.prog 86 #[.pointer (some ⟨y.RB,0,none⟩),eT l,.agg cs.toArray] w (Says y (SfT y l) w (StR y l) (kC m) (bV (aE y.F m) s σ r))
def yH (y:Ly) (m:Nat) (ss:List St):Prop:=∀(l:List (Nat×Nat)) (σ:List Sc) (r:Rst) (w:World) (v:Value),RunAt y w r (kC m)→ChAt y.D w l σ→l≠[]→RepSts (fun b=>b<y.D) w v ss →
 Calls Tryz.prog 57 #[.pointer (some ⟨y.RB,0,none⟩),eT l,v] w (Says y (SfT y l) w (StR y l) (kC m) (aF (aE y.F m) ss σ r))
def Sf (y:Ly) (l:List (Nat×Nat)) (w w':World):Prop:=OnS (SfT y l w) w w'
section
variable {y:Ly} {w w':World} {r:Rst} {k:Int} {b:Nat} {l:List (Nat×Nat)} {σ:List Sc} {v:Value} {x:Vv}
theorem ChAt.maps {D:Nat}:∀{l:List (Nat×Nat)} {σ:List Sc},ChAt D w l σ→∀k,k∈l.map (·.2)→D≤k∧∀t,¬OfTy w k t
 | [],_,_,k,hk=>by cases hk
 | c :: l,m :: σ,h,k,hk=>by
  obtain ⟨⟨_,h2,_,mv,h4,_⟩,h6⟩:=h;rcases List.mem_cons.1 hk with rfl | hk
  ·exact ⟨h2,fun t q=>h4.noT q⟩
  ·exact ChAt.maps h6 k hk
 | _ :: _,[],h,_,_=>h.elim
theorem nT (hc:ChAt y.D w l σ) (he:¬ET y w b) (hb:b<y.D∨∃t,OfTy w b t):¬SfT y l w b:=fun q=>by
 rcases q with q | q
 ·exact he q
 ·have:=hc.maps b q
  rcases hb with hb | ⟨t,hb⟩
  ·omega
  ·exact this.2 t hb
theorem Sf.refl (y:Ly) (l:List (Nat×Nat)) (w:World):Sf y l w w:=OnS.refl _ _
theorem Sf.of_ef (h:Ef y w w'):Sf y l w w':=h.mono fun _ hk=>.inl hk
theorem Sf.of_below (h:Below w.heap.size w w'):Sf y l w w':=OnS.of_below h
theorem SfT.back (h:SfT y l w' b) (ho:Sf y l w w'):SfT y l w b∨w.heap.size≤b:=by
 by_cases hl:b<w.heap.size
 ·by_cases ht:SfT y l w b
  ·exact .inl ht
  ·rcases h with h | h
   ·rcases ET.back h (fun _ _=>ho.block b hl ht) with q | q
    ·exact .inl (.inl q)
    ·exact .inr q
   ·exact .inl (.inr h)
 ·exact .inr (Nat.le_of_not_lt hl)
theorem Sf.trans {a b c:World} (h:Sf y l a b) (g:Sf y l b c):Sf y l a c:=OnS.new h g fun _ hk=>SfT.back hk h
theorem Sf.inner {a b c:World} {e:Nat×Nat} (h:Sf y l a b) (g:Sf y (e :: l) b c) (hn:a.heap.size≤e.2):Sf y l a c:=OnS.new h g fun k hk=>by
 rcases hk with hk | hk
 ·exact SfT.back (.inl hk) h
 ·rcases List.mem_cons.1 hk with rfl | hk
  ·exact .inr hn
  ·exact .inl (.inr hk)
theorem VvR.sf (h:VvR y w x v) (hr:RunAt y w r k) (hc:ChAt y.D w l σ) (he:Sf y l w w'):VvR y w' x v:=
 ⟨h.1.stays (he.stays fun _ hb=>nT hc (hb.not hr) (hb.imp id fun q=>⟨_,q⟩)),h.2⟩
theorem VsAt.sf {vs:List Vv} (h:VsAt y w v vs) (hr:RunAt y w r k) (hc:ChAt y.D w l σ) (he:Sf y l w w'):VsAt y w' v vs:=by
 obtain ⟨cs,h1,h2⟩:=h;exact ⟨cs,h1.vb (he.stays fun b hb=>nT hc (hb.not hr) (hb.imp id fun q=>⟨_,q⟩)),fun i hi=>(h2 i hi).sf hr hc he⟩
theorem fL (hr:RunAt y w r k) (hc:ChAt y.D w l σ) (he:Sf y l w w'):Stays (fun b=>b<y.D) w w':=he.stays fun _ hb=>nT hc (KS.not (.inl hb) hr) (.inl hb)
theorem RepSt.form6 {S:Nat→Prop} {cs:List Value} {x:St} (h:RepSt S w cs x):∃op text s1 n1 c1 s2 n2 c2 s3 n3 c3 pos,cs=[.int .i64 op,.string text,.slice s1 n1 c1,.slice s2 n2 c2,.slice s3 n3 c3,.int .i64 pos]:=by
 cases h with
 | mk cb cl he hb _ hl _ =>
  obtain ⟨_,⟨s1,a1,rfl,_⟩,_⟩:=he;obtain ⟨s2,a2,rfl,_⟩:=hb;obtain ⟨s3,a3,rfl,_⟩:=hl;exact ⟨_,_,_,_,_,_,_,_,_,_,_,_,rfl⟩
structure SAt (w:World) (X R:Nat) (op pos:Int) (text:ByteArray) (ve vb vl:Value):Prop where
 x:w.heap[X]?=some (.cells #[.int .i64 op,.string text,ve,vb,vl,.int .i64 pos] 134 (0,0))
 r:w.heap[R]?=some (.cells #[.int .i64 0,.int .i64 0,.slice none 0 0] 35 (0,0))
theorem jZ {A:Array Value} {t:TypeId} (h:w.heap[b]?=some (.cells A t (0,0))) (hr:RunAt y w r k) (hc:ChAt y.D w l σ) (he:Sf y l w w') (h1:t≠86) (h2:t≠68) (h3:t≠1):w'.heap[b]?=some (.cells A t (0,0)):=
 he.obj (nT hc (gB ⟨_,_,h⟩ hr h1 h2 h3) (.inr ⟨t,_,_,h⟩)) h
theorem SAt.sf {X R:Nat} {op pos:Int} {text:ByteArray} {ve vb vl:Value} (h:SAt w X R op pos text ve vb vl) (hr:RunAt y w r k) (hc:ChAt y.D w l σ) (he:Sf y l w w'):SAt w' X R op pos text ve vb vl:=
 ⟨jZ h.x hr hc he (by decide) (by decide) (by decide),jZ h.r hr hc he (by decide) (by decide) (by decide)⟩
theorem SAt.low {X R:Nat} {op pos:Int} {text:ByteArray} {ve vb vl:Value} (h:SAt w X R op pos text ve vb vl) (hb:Below w.heap.size w w'):SAt w' X R op pos text ve vb vl:=⟨(hb.block _ (af h.x)).trans h.x,(hb.block _ (af h.r)).trans h.r⟩
theorem ChAt.set3 {R:Nat} (hd:y.D≤R) (ht:OfTy w R 35) (p q s:Value):∀{l:List (Nat×Nat)} {σ:List Sc},ChAt y.D w l σ→ChAt y.D (((w.setCell ⟨R,0,none⟩ p).setCell ⟨R,1,none⟩ q).setCell ⟨R,2,none⟩ s) l σ
 | [],[],_=>trivial
 | c :: l,m :: σ,h=>by
  have A:On R w (((w.setCell ⟨R,0,none⟩ p).setCell ⟨R,1,none⟩ q).setCell ⟨R,2,none⟩ s):=(((On.refl R w).set 0 p).set 1 q).set 2 s
  have hs:Stays (KS y.D w) w _:=fS (fun g=>by
    rcases g with g | g
    · exact absurd hd (Nat.not_le_of_lt g)
    · exact absurd (ht.one g) (by decide)) p q s
  obtain ⟨⟨h1,h2,h3,mv,h4,h5⟩,h6⟩:=h;have B:OfTy w c.1 125:=⟨_,_,h1⟩
  exact ⟨⟨A.obj (B.ne ht (by decide)) h1,h2,h3,mv,h4.keep (A.block _ h4.lt (fun e=>h4.noT (by injection e with e;rw [e];exact ht))),h5.imp fun v x q=>q.stays hs⟩,ChAt.set3 hd ht p q s h6⟩
 | [],_ :: _,h=>h.elim
 | _ :: _,[],h=>h.elim
theorem ff {w0:World} {R:Nat} {ov:Option Vv} {ty nm:Int} {p:Option Addr} {n c:Nat} {o:Rn (Option Vv×List Sc)} {is:Bool} (hR:OfTy w R 35) (hr:RunAt y w r k) (hc:ChAt y.D w l σ) (he:Sf y l w0 w) (h1:w0.heap.size≤R) (hd:y.D≤w0.heap.size)
    (hv:VvR y w (ov.getD noV) (.agg #[.int .i64 ty,.int .i64 nm,.slice p n c])) (A:is=ov.isSome) (ho:o=.ok (ov,σ) r) :
    Says y (SfT y l) w0 (StR y l) k o (.returned (.tuple #[.agg #[.int .i64 ty,.int .i64 nm,.slice p n c],.bool is])) (((w.setCell ⟨R,0,none⟩ (.int .i64 ty)).setCell ⟨R,1,none⟩ (.int .i64 nm)).setCell ⟨R,2,none⟩ (.slice p n c)):=by
 subst ho A;exact ⟨⟨_,rfl,⟨_,rfl,hv.set3 (Nat.le_trans hd h1) hR _ _ _,ChAt.set3 (Nat.le_trans hd h1) hR _ _ _ hc⟩,hr.set3 (Nat.le_trans hd h1) hR _ _ _⟩,OnS.new he (OnS.of_on ((((On.refl R w).set 0 _).set 1 _).set 2 _) (T:=fun k=>k=R) rfl) fun _ hi=>.inr (hi▸h1)⟩
end
end
section
open Go.RowKit
attribute [local go_sem ↓] Go.wp_at_zero Go.wp_at_succ
theorem sX {call:bU} {s:St} {l:List St} {σ σ2:List Sc} {r r2:Rst} (h:bV call s σ r=.ok (none,σ2) r2):aF call (s :: l) σ r=aF call l σ2 r2:=by
 rw [aF,cW h];rfl
theorem tt {call:bU} {s:St} {l:List St} {σ σ2:List Sc} {r r2:Rst} {v:Vv} (h:bV call s σ r=.ok (some v,σ2) r2):aF call (s :: l) σ r=.ok (some v,σ2) r2:=by
 rw [aF,cW h];rfl
theorem sU {call:bU} {s:St} {l:List St} {σ:List Sc} {t:Int} {r r2:Rst} (h:bV call s σ r=.trap t r2):aF call (s :: l) σ r=.trap t r2:=by
 rw [aF,bR h]
theorem iT {y:Ly} {m:Nat} (ss:List St) (hx:∀i,i<ss.length→Aa y m (ss.getD i default)):yH y m ss:=by
 intro l σ r w v h hc hn he;obtain ⟨p,hp⟩:∃p,eT l=.pointer p:=by cases l<;>exact ⟨_,rfl⟩
 have HX:=zh hx;have HN:=zh hn;have HP:=zh hp;have h7:Hd (y.D≤w.heap.size):=zh (by have:=h.low;omega);obtain ⟨cs,hf,s⟩:=he;obtain ⟨s0,cap,rfl,n,z,_,N,_⟩:=hf;have Z:=zh N;have h4:=zh s;have ht:Hd (ss.length≤maxLen):=zh (Nat.le_trans n z);have Q:Below w.heap.size w (w.alloc (.cells #[.int .i64 0,.int .i64 0,.slice none 0 0] 35)):=ag (Below.refl _ _) _;have hq:=zh (h.below Q);have hv:=zh (hc.low Q);have HH:=zh h;have hu:=zh hc;have a:Hd ((w.alloc (.cells #[.int .i64 0,.int .i64 0,.slice none 0 0] 35)).heap[w.heap.size]?=some (.cells #[.int .i64 0,.int .i64 0,.slice none 0 0] 35 (0,0))):=zh (aj _ _ _ rfl);have hm:Hd (Sf y l w (w.alloc (.cells #[.int .i64 0,.int .i64 0,.slice none 0 0] 35))):=zh (Sf.of_below Q);have HM:Hd (aF (aE y.F m) ss σ r=aF (aE y.F m) (ss.drop 0) σ r):=zh rfl;have hw:(ss.length:Int)≤9223372036854775807:=by have:=ht.o;unfold maxLen at this;omega
 generalize aF (aE y.F m) ss σ r=o at *;rw [hp];clear hx h hc hn hp N s n z Q;go_enter Tryz.func57,Tryz.ntmps57
 go_wp2_with fail
 go_loopg [14] ss.length (fun gg t14 wr=>∃(i:Nat) (σi:List Sc) (ri:Rst),i+gg=ss.length∧t14=.int .i64 (i:Int)∧Hd (o=aF (aE y.F m) (ss.drop i) σi ri)∧Hd (RunAt y wr ri (kC m))∧Hd (ChAt y.D wr l σi)∧Hd (Sf y l w wr)∧Hd (wr.heap[w.heap.size]?=some (.cells #[.int .i64 0,.int .i64 0,.slice none 0 0] 35 (0,0))))
 case atStart=>exact ⟨0,σ,r,Nat.zero_add _,rfl,HM,hq,hv,hm,a⟩
 case round =>
  obtain ⟨i,σi,ri,X,rfl,S,h2,h8,d,P⟩:=hrel;have h5:=zh X;by_cases C:i<ss.length
  ·have W:(i:Int)<(ss.length:Int):=by omega
   have hy:(0:Int)≤(i:Int):=by omega
   obtain ⟨b,off,hd,hi,hh,I⟩:=Z.o (by omega);subst hd;have x:=I i C;have V:=fL HH.o hu.o d.o;obtain ⟨xop,xtext,s5,n5,c5,s6,n6,c6,s7,n7,c7,xpos,B⟩:=(h4.o i C).form6;have J:∀j,j<6→wr.cell? ⟨b,off+i * 6+j,none⟩=(cs i)[j]?:=fun j hj=>(V.cell hi hh _).trans (x j hj);rw [B] at J;have x0:wr.cell? ⟨b,off+i * 6,none⟩=some (.int .i64 xop):=J 0 (by decide);have x1:wr.cell? ⟨b,off+i * 6+1,none⟩=some (.string xtext):=J 1 (by decide);have x2:wr.cell? ⟨b,off+i * 6+2,none⟩=some (.slice s5 n5 c5):=J 2 (by decide);have x3:wr.cell? ⟨b,off+i * 6+3,none⟩=some (.slice s6 n6 c6):=J 3 (by decide);have x4:wr.cell? ⟨b,off+i * 6+4,none⟩=some (.slice s7 n7 c7):=J 4 (by decide);have x5:wr.cell? ⟨b,off+i * 6+5,none⟩=some (.int .i64 xpos):=J 5 (by decide);have M:Below wr.heap.size wr (wr.alloc (.cells #[.int .i64 xop,.string xtext,.slice s5 n5 c5,.slice s6 n6 c6,.slice s7 n7 c7,.int .i64 xpos] 134)):=ag (Below.refl _ _) _;have h3:=zh (h2.o.below M);have ha:=zh (h8.o.low M)
   have K:=zh (HX.o i C l σi ri _ [.int .i64 xop,.string xtext,.slice s5 n5 c5,.slice s6 n6 c6,.slice s7 n7 c7,.int .i64 xpos] h3.o ha.o HN.o (by
     have q:=(h4.o i C).keep V;rw [B] at q;exact q.keep (Stays.of_below M)))
   rw [HP.o] at K;have Y:=zh ((M.block _ (af P.o)).trans P.o);have h6:Hd (Sf y l w (wr.alloc (.cells #[.int .i64 xop,.string xtext,.slice s5 n5 c5,.slice s6 n6 c6,.slice s7 n7 c7,.int .i64 xpos] 134))):=zh (d.o.trans (Sf.of_below M))
   have g:Hd (ss.drop i=ss.getD i default :: ss.drop (i+1)):=zh (by
     rw [List.drop_eq_getElem_cons C,List.getD_eq_getElem?_getD,List.getElem?_eq_getElem C];rfl)
   clear I x J B X M V;go_wp2_with fail
   refine K.o.mono ?_;intro e w2 hs;rcases hs.cases with ⟨⟨ov,σ2⟩,r2,va,L,rfl,⟨v2,rfl,U,h0⟩,O,ho⟩ | ⟨t,r2,k2,L,rfl,O,ho⟩
   ·have R:=zh O
    have h9:=zh h0;have T:Hd (Sf y l w w2):=zh (h6.o.trans ho);obtain ⟨pv,cv,rfl,hb⟩:=id U.1;have hl:=zh U;have G:=zh (jZ Y.o h3.o ha.o ho (by decide) (by decide) (by decide));have h1:Below w2.heap.size w2 (w2.alloc (.cells #[.int .i64 (ov.getD noV).ty,.int .i64 (ov.getD noV).num,.slice pv (ov.getD noV).text.length cv] 35)):=ag (Below.refl _ _) _;have H:=zh h1;clear hs U h0 O ho hb h1 C
    cases ov with
    | none =>
     have hr:Hd (o=aF (aE y.F m) (ss.drop (i+1)) σ2 r2):=zh (by rw [S.o,g.o];exact sX L);have c:=zh (R.o.below H.o);have k:=zh (h9.o.low H.o);have f:Hd (Sf y l w _):=zh (T.o.trans (Sf.of_below H.o));have E:=zh ((H.o.block _ (af G.o)).trans G.o);clear L;dsimp only [Option.getD_none,Option.isSome_none] at *;go_wp2_with fail
     go_roundg (ss.length-i-1)
     case measure=>have:=h5.o;omega
     case rel=>exact ⟨i+1,σ2,r2,by have:=h5.o;omega,by go_num,hr,c,k,f,E⟩
    | some bv =>
     have HO:Hd (o=.ok (some bv,σ2) r2):=zh (by rw [S.o,g.o];exact tt L);have c:=zh (R.o.below H.o);have k:=zh (h9.o.low H.o);have f:Hd (Sf y l w _):=zh (T.o.trans (Sf.of_below H.o));have A:=((H.o.block _ (af G.o)).trans G.o)
     have E:=zh A;have hk:=zh (hl.o.low H.o);have r0:=aa A (j:=0) (u:=.int .i64 0) rfl;have r1':=aa A (j:=1) (u:=.int .i64 0) rfl;have r2':=aa A (j:=2) (u:=.slice none 0 0) rfl;have z0:=ae A 0;have z1:=ae A 1;have z2:=ae A 2;have hg:=af A;clear L A;dsimp only [Option.getD_some,Option.isSome_some] at *;generalize bv.text.length=lb at *;go_wp2_with fail
     obtain ⟨c0,c1',c2⟩:=bP E.o (.int .i64 bv.ty) (.int .i64 bv.num) (.slice pv lb cv);exact bodyPost_ret (v:=.tuple #[.agg #[.int .i64 bv.ty,.int .i64 bv.num,.slice pv lb cv],.bool true]) (by simp [results,Tryz.results57,go_sem,c0,c1',c2]) rfl (ff (ov:=some bv) ⟨_,_,E.o⟩ c.o k.o f.o (Nat.le_refl _) h7.o hk.o rfl HO.o)
   ·have HO:Hd (o=.trap t r2):=zh (by rw [S.o,g.o];exact sU L)
    have T:Hd (Sf y l w w2):=zh (h6.o.trans ho);have R:=zh O;clear hs L O ho C;unfold Trp;go_wp2_with fail
    refine ⟨rfl,?_⟩;rw [HO.o];exact ⟨⟨rfl,k2,R.o⟩,T.o⟩
  ·obtain rfl:i=ss.length:=by omega
   have W:¬(ss.length:Int)<(ss.length:Int):=by omega
   have HO:Hd (o=.ok (none,σi) ri):=zh (by have:=S.o;rw [List.drop_length,aF] at this;exact this);have A:=P.o;have r0:=aa A (j:=0) (u:=.int .i64 0) rfl;have r1':=aa A (j:=1) (u:=.int .i64 0) rfl;have r2':=aa A (j:=2) (u:=.slice none 0 0) rfl;have z0:=ae A 0;have z1:=ae A 1;have z2:=ae A 2;clear X C A;go_wp2_with fail
   obtain ⟨c0,c1',c2⟩:=bP P.o (.int .i64 0) (.int .i64 0) (.slice none 0 0);exact bodyPost_ret (v:=.tuple #[.agg #[.int .i64 0,.int .i64 0,.slice none 0 0],.bool false]) (by simp [results,Tryz.results57,go_sem,c0,c1',c2]) rfl (ff (ov:=none) ⟨_,_,P.o⟩ h2.o h8.o d.o (Nat.le_refl _) h7.o ⟨VvAt.no,OkV.no⟩ rfl HO.o)
end
section
open Go.RowKit
attribute [local go_sem ↓] Go.wp_at_zero Go.wp_at_succ
def ixF:List Fn→ByteArray→Nat
 | [],_=>0
 | f :: l,x=>if f.name=x then 0 else ixF l x+1
theorem tM:∀(l:List Fn) (x:ByteArray),ixF l x≤l.length
 | [],_=>Nat.le_refl _
 | f :: l,x=>by
  rw [ixF];split
  ·exact Nat.zero_le _
  ·exact Nat.succ_le_succ (tM l x)
theorem sM:∀(l:List Fn) (x:ByteArray) (i:Nat),i<ixF l x→((l.getD i default).name.toList==x.toList)=false
 | [],_,i,h=>by rw [ixF] at h;omega
 | f :: l,x,i,h=>by
  rw [ixF] at h;by_cases e:f.name=x
  ·rw [if_pos e] at h;omega
  ·rw [if_neg e] at h
   cases i with
   | zero =>
    show (f.name.toList==x.toList)=false
    rw [beq_eq_false_iff_ne,ByteArray.toList_eq,ByteArray.toList_eq];exact fun q=>e (ByteArray.ext (Array.toList_inj.1 q))
   | succ i=>exact sM l x i (by omega)
theorem kA:∀(l:List Fn) (x:ByteArray),cE l x=if ixF l x<l.length then some (l.getD (ixF l x) default) else none
 | [],_=>rfl
 | f :: l,x=>by
  rw [cE,ixF];by_cases e:f.name=x
  ·rw [if_pos e,if_pos e,if_pos (by simp)];rfl
  ·rw [if_neg e,if_neg e,kA l x]
   by_cases h:ixF l x<l.length
   ·rw [if_pos h,if_pos (by simpa using h)];rfl
   ·rw [if_neg h,if_neg (by simpa using h)]
theorem lH:∀{l:List Fn} {x:ByteArray} {f:Fn},cE l x=some f→f.name=x∧f∈l
 | [],_,_,h=>by cases h
 | g :: l,x,f,h=>by
  rw [cE] at h;by_cases e:g.name=x
  ·rw [if_pos e] at h
   cases h
   exact ⟨e,List.mem_cons_self ..⟩
  ·rw [if_neg e] at h
   have:=lH h;exact ⟨this.1,List.mem_cons_of_mem _ this.2⟩
theorem ul {l:List Fn} {x:ByteArray} (h:ixF l x<l.length):((l.getD (ixF l x) default).name.toList==x.toList)=true:=by
 have hf:=kA l x;rw [if_pos h] at hf;rw [(lH hf).1];simp
theorem qA {S:Nat→Prop} {v:Value} {l:List Fn} (g:Nat) (bx:Nat) (q:Nat→Bool) (P:Nat) (w:World) (Z:Ent g) (hr:RepFns S w v l)
    (hP:P≤l.length) (N:∀i,i<P→q i=false) (C:P<l.length→q P=true)
    (hp:∀i,i<l.length→∀v1 v2 v3 v4 W,Below w.heap.size w W→Calls Tryz.prog g #[.agg #[.string (l.getD i default).name,v1,v2,v3,v4],.pointer (some ⟨bx,0,none⟩)] W fun e w'=>e=.returned (.bool (q i))∧Below W.heap.size W w') :
    Calls Tryz.prog 31 #[v,.func (.func g) #[] #[.pointer (some ⟨bx,0,none⟩)]] w fun e w'=>e=.returned (.int .i64 (if P<l.length then (P:Int) else -1))∧Below w.heap.size w w':=by
 obtain ⟨cs,⟨s0,cap,rfl,X,J,_,D,T⟩,Q⟩:=hr;unfold maxLen at J;unfold Ent at Z;have V:l.length≤9223372036854775807:=by omega
 have c:=zh N;have K:=zh C;have L:=zh D;have d:=zh Q;have F:=zh hp;have HP:=zh (And.intro hP J);clear D T X J hp N C Q hP;go_enter Tryz.func31,Tryz.ntmps31
 go_wp2_with fail
 go_loopg [8] (P+1) (fun gg t8 wr=>∃i:Nat,i+gg=P+1∧0<gg∧t8=.int .i64 (i:Int)∧Below w.heap.size w wr)
 case atStart=>exact ⟨0,Nat.zero_add _,Nat.succ_pos _,rfl,Below.refl _ _⟩
 case round =>
  obtain ⟨i,Y,hg,rfl,hb⟩:=hrel;have G:=zh hb;have HG:=zh Y;by_cases H:i<l.length
  ·have I:(i:Int)<(l.length:Int):=by omega
   have h:(0:Int)≤(i:Int):=by omega
   obtain ⟨b,off,U,_,a,A⟩:=L.o (by omega);subst U;obtain ⟨vp,vb,R,⟨_,⟨s1,c1,e1,_⟩,_⟩,⟨_,⟨s2,c2,e2,_⟩,_⟩⟩:=d.o i H;subst e1 e2;have B:∀j,j<5→wr.cell? ⟨b,off+i * 5+j,none⟩=(cs i)[j]?:=fun j hj=>(G.o.cell (p:=⟨b,_,none⟩) a).trans (A i H j hj);have HC:=zh (F.o i H (.slice s1 (l.getD i default).params.length c1) (.int .i64 (l.getD i default).result) (.slice s2 (l.getD i default).body.length c2) (.int .i64 (l.getD i default).pos) wr G.o);rw [R] at B;have x0:wr.cell? ⟨b,off+i * 5,none⟩=some (.string (l.getD i default).name):=B 0 (by decide);have x1:wr.cell? ⟨b,off+i * 5+1,none⟩=some (.slice s1 (l.getD i default).params.length c1):=B 1 (by decide);have x2:wr.cell? ⟨b,off+i * 5+2,none⟩=some (.int .i64 (l.getD i default).result):=B 2 (by decide);have x3:wr.cell? ⟨b,off+i * 5+3,none⟩=some (.slice s2 (l.getD i default).body.length c2):=B 3 (by decide);have x4:wr.cell? ⟨b,off+i * 5+4,none⟩=some (.int .i64 (l.getD i default).pos):=B 4 (by decide);clear hb B R A;generalize l.getD i default=f at *;by_cases O:i<P
   ·have hq:=c.o i O
    rw [hq] at HC;clear hq;go_wp2_with fail
    go_at_fn g
    refine HC.o.mono ?_;rintro e w' ⟨rfl,E⟩;have M:=zh (am G.o E);clear E;go_wp2_with fail
    go_roundg (P-i)
    case measure=>omega
    case rel=>exact ⟨i+1,by have:=HG.o;omega,by omega,by go_num,M.o⟩
   ·obtain rfl:i=P:=by have:=HG.o;omega
    have hq:=K.o H;rw [hq] at HC;clear hq O;go_wp2_with fail
    go_at_fn g
    refine HC.o.mono ?_;rintro e w' ⟨rfl,E⟩;have M:=zh (am G.o E);clear E;go_wp2_with fail
    exact bodyPost_ret (v:=.int .i64 i) (by simp [results,Tryz.results31,go_sem]) rfl ⟨rfl,M.o⟩
  ·obtain rfl:i=P:=by have:=HG.o;have:=HP.o.1;omega
   have I:¬(i:Int)<(l.length:Int):=by omega
   clear hb;go_wp2_with fail
   exact bodyPost_ret (v:=.int .i64 (-1)) (by simp [results,Tryz.results31,go_sem]) rfl ⟨rfl,G.o⟩
theorem wE (nm:ByteArray) (v1 v2 v3 v4:Value) (x:ByteArray) (nb:Nat) (w:World) (h:w.cell? ⟨nb,0,none⟩=some (.string x)):Calls Tryz.prog 55 #[.agg #[.string nm,v1,v2,v3,v4],.pointer (some ⟨nb,0,none⟩)] w fun e w'=>e=.returned (.bool (nm.toList==x.toList))∧Below w.heap.size w w':=by
 have A:=az h;go_enter Tryz.func55,Tryz.ntmps55
 go_wp2_with fail
 go_ret
 exact ⟨rfl,ag (Below.refl _ _) _⟩
theorem vT (nm:ByteArray) (v1 v2 v3 v4:Value) (x:ByteArray) (nb:Nat) (w:World) (h:w.cell? ⟨nb,0,none⟩=some (.string x)):Calls Tryz.prog 32 #[.agg #[.string nm,v1,v2,v3,v4],.pointer (some ⟨nb,0,none⟩)] w fun e w'=>e=.returned (.bool (nm.toList==x.toList))∧Below w.heap.size w w':=by
 have A:=az h;go_enter Tryz.func32,Tryz.ntmps32
 go_wp2_with fail
 go_ret
 exact ⟨rfl,ag (Below.refl _ _) _⟩
end
section
open Go.RowKit
attribute [local go_sem ↓] Go.wp_at_zero Go.wp_at_succ
theorem lN:∀(l:List (ByteArray×Int)) (vs:List Vv) (m:Sc) (i:Nat),i<l.length→i<vs.length→dg (l.take (i+1)) (vs.take (i+1)) m=bY (dg (l.take i) (vs.take i) m) (l.getD i default).1 (vs.getD i noV)
 | [],_,_,_,h,_=>absurd h (Nat.not_lt_zero _)
 | _ :: _,[],_,_,_,h=>absurd h (Nat.not_lt_zero _)
 | p :: l,v :: vs,m,0,_,_=>by simp [dg]
 | p :: l,v :: vs,m,i+1,h,g=>by
  rw [List.take_succ_cons,List.take_succ_cons,dg,lN l vs _ i (by simpa using h) (by simpa using g),List.take_succ_cons,List.take_succ_cons,dg];rfl
theorem jw {y:Ly} {m:Nat} (hm:m≤15) (HL:∀f,f∈y.F→yH y m f.body):iU y m:=by
 intro nm vs av r w f h9 Hy h hv;have h7:=(lH h9).2;have I:=kA y.F nm
 have G:ixF y.F nm<y.F.length:=by
  by_cases q:ixF y.F nm<y.F.length
  ·exact q
  ·rw [if_neg q,h9] at I;cases I
 rw [if_pos G,h9] at I;have Kc:Hd (y.F.getD (ixF y.F nm) default=f):=zh (Option.some.inj I).symm;have Kb:=zh G;have Ki:=zh (HL f h7);have HX:=zh Hy;have k4:Hd (y.D≤w.heap.size):=zh (by have:=h.low;omega);have HO:Hd (aE y.F (m+1) nm vs r=((aF (aE y.F m) f.body [dg f.params vs []]).then fun p=>okM (p.1.getD noV)) r):=zh (by rw [aE,tO,h9]);generalize aE y.F (m+1) nm vs r=o at *;have hC:Below w.heap.size w ((w.alloc (.cells #[.string nm] 9)).alloc (.cells #[.int .i64 0,.int .i64 0,.slice none 0 0] 35)):=ag (ag (Below.refl _ _) _) _;have hz:=zh hC;have HW:=zh (h.below hC);have K2:=zh (hv.low hC);have HY:Hd (((w.alloc (.cells #[.string nm] 9)).alloc (.cells #[.int .i64 0,.int .i64 0,.slice none 0 0] 35)).cell? ⟨w.heap.size,0,none⟩=some (.string nm)):=zh (aa (ax _ _ _ _ (aj _ _ _ rfl)) rfl);have hn:Hd (((w.alloc (.cells #[.string nm] 9)).alloc (.cells #[.int .i64 0,.int .i64 0,.slice none 0 0] 35)).heap[w.heap.size+1]?=some (.cells #[.int .i64 0,.int .i64 0,.slice none 0 0] 35 (0,0))):=zh (aj _ _ _ (ah _ _));obtain ⟨sF,nF,cF,U,R⟩:=HW.o.box;have K5:=zh R
 have Hl:=zh (fun W (hW:Below ((w.alloc (.cells #[.string nm] 9)).alloc (.cells #[.int .i64 0,.int .i64 0,.slice none 0 0] 35)).heap.size ((w.alloc (.cells #[.string nm] 9)).alloc (.cells #[.int .i64 0,.int .i64 0,.slice none 0 0] 35)) W)=>qA 55 w.heap.size (fun i=>((y.F.getD i default).name.toList==nm.toList)) (ixF y.F nm) W (fun _ _=>Tryz.call55 _ _) (R.keep (Stays.of_below hW)) (tM _ _) (fun i hi=>sM _ _ i hi) (fun q=>ul q)
   (fun i hi v1 v2 v3 v4 W2 kt=>wE _ v1 v2 v3 v4 nm w.heap.size W2 (((am hW kt).cell (p:=⟨w.heap.size,0,none⟩) (az HY.o)).trans HY.o)))
 rw [if_pos G] at Hl;obtain ⟨fcs,⟨sF',capF,kb,hU,H3,_,N,_⟩,h8⟩:=R;injection kb with e1 e2 e3
 subst e1 e2 e3;obtain ⟨fb,foff,rfl,kr,HG,HH⟩:=N (by omega);obtain ⟨vp,vb,H2,⟨pcs,O,V⟩,P⟩:=h8 (ixF y.F nm) G;rw [Kc.o] at H2 O V P;obtain ⟨s1,c1,rfl,h5,h6,_,Hx,_⟩:=O;obtain ⟨bcs,⟨s2,c2,rfl,HK⟩,he⟩:=P;have hy:Hd (RepSts (fun b=>b<y.D) ((w.alloc (.cells #[.string nm] 9)).alloc (.cells #[.int .i64 0,.int .i64 0,.slice none 0 0] 35)) (.slice s2 f.body.length c2) f.body):=zh ⟨bcs,⟨s2,c2,rfl,HK⟩,he⟩;have K8:=zh Hx;have He:=zh V;have X:=HH (ixF y.F nm) G;rw [H2] at X
 have B:Hd (∀j u,([.string f.name,.slice s1 f.params.length c1,.int .i64 f.result,.slice s2 f.body.length c2,.int .i64 f.pos]:List Value)[j]?=some u→((w.alloc (.cells #[.string nm] 9)).alloc (.cells #[.int .i64 0,.int .i64 0,.slice none 0 0] 35)).cell? ⟨fb,foff+ixF y.F nm * 5+j,none⟩=some u):=zh (fun j u hu=>by
   have hj:j<5:=by
     have:=(List.getElem?_eq_some_iff.1 hu).1;simpa using this
   rw [X j hj,←hu])
 have q0:=aa U (j:=0) (u:=.slice (some ⟨fb,foff,none⟩) y.F.length cF) rfl;have hf:Hd (((w.alloc (.cells #[.string nm] 9)).alloc (.cells #[.int .i64 0,.int .i64 0,.slice none 0 0] 35)).cell? ⟨y.RB,0,none⟩=some (.slice (some ⟨fb,foff,none⟩) y.F.length cF)):=zh q0;have hq:Hd (y.RB<((w.alloc (.cells #[.string nm] 9)).alloc (.cells #[.int .i64 0,.int .i64 0,.slice none 0 0] 35)).heap.size):=zh (af U);have A:Hd (fb<((w.alloc (.cells #[.string nm] 9)).alloc (.cells #[.int .i64 0,.int .i64 0,.slice none 0 0] 35)).heap.size):=zh HG;have kl:(0:Int)≤(ixF y.F nm:Int):=by omega
 have kk:(ixF y.F nm:Int)<(y.F.length:Int):=by omega
 have Hc:Hd (f.params.length≤maxLen):=zh (Nat.le_trans h5 h6)
 obtain ⟨sv,nv,cv,H5⟩:∃s n c,av=.slice s n c:=by
  obtain ⟨_,⟨s,c,e,_⟩,_⟩:=hv;exact ⟨s,_,c,e⟩
 subst H5;clear h hv h9 Hy h7 I G HL U N h8 HH H2 Hx V HK he X hU H3 h5 h6 hC kr HG;go_enter Tryz.func37,Tryz.ntmps37
 go_upto_region 1 with fail
 generalize Kn:ixF y.F nm=ix at *;go_cut [7] (fun t7 wx=>∃FB,t7=.pointer (some ⟨FB,0,none⟩)∧wx.heap[FB]?=some (.cells #[.string f.name,.slice s1 f.params.length c1,.int .i64 f.result,.slice s2 f.body.length c2,.int .i64 f.pos] 76 (0,0))∧Below ((w.alloc (.cells #[.string nm] 9)).alloc (.cells #[.int .i64 0,.int .i64 0,.slice none 0 0] 35)).heap.size ((w.alloc (.cells #[.string nm] 9)).alloc (.cells #[.int .i64 0,.int .i64 0,.slice none 0 0] 35)) wx)
 case first =>
  generalize ((w.alloc (.cells #[.string nm] 9)).alloc (.cells #[.int .i64 0,.int .i64 0,.slice none 0 0] 35))=w0 at *;clear q0;refine ay (S:=fun W=>W.cell? ⟨y.RB,0,none⟩=some (.slice (some ⟨fb,foff,none⟩) y.F.length cF)∧W.cell? ⟨fb,foff+ix * 5,none⟩=some (.string f.name)∧W.cell? ⟨fb,foff+ix * 5+1,none⟩=some (.slice s1 f.params.length c1)∧W.cell? ⟨fb,foff+ix * 5+2,none⟩=some (.int .i64 f.result)∧W.cell? ⟨fb,foff+ix * 5+3,none⟩=some (.slice s2 f.body.length c2)∧W.cell? ⟨fb,foff+ix * 5+4,none⟩=some (.int .i64 f.pos)) 13 (by kernel_rfl) (by kernel_rfl) (by (try dsimp only);have hQ:Below w0.heap.size w0 _:=aw (Below.refl _ _);exact ⟨(hQ.cell (p:=⟨y.RB,_,none⟩) hq.o).trans hf.o,(hQ.cell (p:=⟨fb,_,none⟩) A.o).trans (B.o 0 _ rfl),(hQ.cell (p:=⟨fb,_,none⟩) A.o).trans (B.o 1 _ rfl),(hQ.cell (p:=⟨fb,_,none⟩) A.o).trans (B.o 2 _ rfl),(hQ.cell (p:=⟨fb,_,none⟩) A.o).trans (B.o 3 _ rfl),(hQ.cell (p:=⟨fb,_,none⟩) A.o).trans (B.o 4 _ rfl)⟩) (fun hH=>?_);simp only [List.take_succ_cons,List.take_zero,List.drop_succ_cons,List.drop_zero]
  refine tkA 0 ?_;refine tkA 1 ?_;refine tkA 2 ?_;refine tkA 3 ?_;refine tkA 4 ?_;refine tkA 5 ?_;refine tkA 6 ?_;refine tkA 7 ?_;refine tkA 8 ?_;refine wpAnyH_ready (rs:=[9,12]) (by kernel_rfl) (by simp) ?_;refine (AllReadyH.cons rfl (fun K hK=>?_) (AllReadyH.cons rfl (fun K hK=>?_) AllReadyH.nil))
  ·go_simp
   go_at_call 31
   refine (Hl.o _ (aw (Below.refl _ _))).mono ?_;rintro e w2 ⟨rfl,E⟩;have l:Hd (Below w0.heap.size w0 w2):=zh (am (aw (Below.refl w0.heap.size w0)) E);refine hK.out _ _ ?_ (fun hH=>?_)
   ·(try dsimp only);have hQ:Below w0.heap.size w0 _:=l.o;exact ⟨(hQ.cell (p:=⟨y.RB,_,none⟩) hq.o).trans hf.o,(hQ.cell (p:=⟨fb,_,none⟩) A.o).trans (B.o 0 _ rfl),(hQ.cell (p:=⟨fb,_,none⟩) A.o).trans (B.o 1 _ rfl),(hQ.cell (p:=⟨fb,_,none⟩) A.o).trans (B.o 2 _ rfl),(hQ.cell (p:=⟨fb,_,none⟩) A.o).trans (B.o 3 _ rfl),(hQ.cell (p:=⟨fb,_,none⟩) A.o).trans (B.o 4 _ rfl)⟩
   clear hK K;try go_simp
   refine tkA 10 ?_;refine tkA 11 ?_;refine rd1 12 fun K hK=>?_;go_simp;refine hK.out _ _ ?_ (fun hH=>?_)
   ·(try dsimp only);have hQ:Below w0.heap.size w0 (w2.alloc (.cells #[.string ⟨#[]⟩,.slice none 0 0,.int .i64 0,.slice none 0 0,.int .i64 0] 76)):=ag l.o _;exact ⟨(hQ.cell (p:=⟨y.RB,_,none⟩) hq.o).trans hf.o,(hQ.cell (p:=⟨fb,_,none⟩) A.o).trans (B.o 0 _ rfl),(hQ.cell (p:=⟨fb,_,none⟩) A.o).trans (B.o 1 _ rfl),(hQ.cell (p:=⟨fb,_,none⟩) A.o).trans (B.o 2 _ rfl),(hQ.cell (p:=⟨fb,_,none⟩) A.o).trans (B.o 3 _ rfl),(hQ.cell (p:=⟨fb,_,none⟩) A.o).trans (B.o 4 _ rfl)⟩
   clear hK K;try go_simp
   refine wpAnyH_done (by kernel_rfl) ?_ _;dsimp only [aP];go_wp2_with fail
   go_meet
   exact ⟨w2.heap.size,rfl,aj _ _ _ rfl,ag l.o _⟩
  ·go_simp
   have Hn:Hd (Below w0.heap.size w0 (w0.alloc (.cells #[.string ⟨#[]⟩,.slice none 0 0,.int .i64 0,.slice none 0 0,.int .i64 0] 76)).drew):=zh (aw (ag (Below.refl _ _) _));have HP:Hd ((w0.alloc (.cells #[.string ⟨#[]⟩,.slice none 0 0,.int .i64 0,.slice none 0 0,.int .i64 0] 76)).drew.heap[w0.heap.size]?=some (.cells #[.string ⟨#[]⟩,.slice none 0 0,.int .i64 0,.slice none 0 0,.int .i64 0] 76 (0,0))):=zh (aj w0 _ _ rfl);refine hK.out _ _ ?_ (fun hH=>?_)
   ·(try dsimp only);have hQ:Below w0.heap.size w0 _:=Hn.o;exact ⟨(hQ.cell (p:=⟨y.RB,_,none⟩) hq.o).trans hf.o,(hQ.cell (p:=⟨fb,_,none⟩) A.o).trans (B.o 0 _ rfl),(hQ.cell (p:=⟨fb,_,none⟩) A.o).trans (B.o 1 _ rfl),(hQ.cell (p:=⟨fb,_,none⟩) A.o).trans (B.o 2 _ rfl),(hQ.cell (p:=⟨fb,_,none⟩) A.o).trans (B.o 3 _ rfl),(hQ.cell (p:=⟨fb,_,none⟩) A.o).trans (B.o 4 _ rfl)⟩
   clear hK K;try go_simp
   refine rd1 9 fun K hK=>?_;go_simp;go_at_call 31
   refine (Hl.o _ Hn.o).mono ?_;rintro e w2 ⟨rfl,E⟩;have l:Hd (Below w0.heap.size w0 w2):=zh (am Hn.o E);have HZ:=zh ((E.block _ (af HP.o)).trans HP.o);clear E;refine hK.out _ _ ?_ (fun hH=>?_)
   ·(try dsimp only);have hQ:Below w0.heap.size w0 _:=l.o;exact ⟨(hQ.cell (p:=⟨y.RB,_,none⟩) hq.o).trans hf.o,(hQ.cell (p:=⟨fb,_,none⟩) A.o).trans (B.o 0 _ rfl),(hQ.cell (p:=⟨fb,_,none⟩) A.o).trans (B.o 1 _ rfl),(hQ.cell (p:=⟨fb,_,none⟩) A.o).trans (B.o 2 _ rfl),(hQ.cell (p:=⟨fb,_,none⟩) A.o).trans (B.o 3 _ rfl),(hQ.cell (p:=⟨fb,_,none⟩) A.o).trans (B.o 4 _ rfl)⟩
   clear hK K;try go_simp
   refine tkA 10 ?_;refine tkA 11 ?_;refine wpAnyH_done (by kernel_rfl) ?_ _;dsimp only [aP];have n0:=aa HZ.o (j:=0) (u:=.string ⟨#[]⟩) rfl;have n1:=aa HZ.o (j:=1) (u:=.slice none 0 0) rfl;have n2:=aa HZ.o (j:=2) (u:=.int .i64 0) rfl;have n3:=aa HZ.o (j:=3) (u:=.slice none 0 0) rfl;have n4:=aa HZ.o (j:=4) (u:=.int .i64 0) rfl;have z0:=ae HZ.o 0;have z1:=ae HZ.o 1;have z2:=ae HZ.o 2;have z3:=ae HZ.o 3;have z4:=ae HZ.o 4;go_wp2_with fail
   go_meet
   exact ⟨w0.heap.size,rfl,au (au (au (au (au HZ.o 0 _) 1 _) 2 _) 3 _) 4 _,dk (dk (dk (dk (dk l.o (Nat.le_refl _) _) (Nat.le_refl _) _) (Nat.le_refl _) _) (Nat.le_refl _) _) (Nat.le_refl _) _⟩
 case rest =>
  obtain ⟨FB,rfl,HI,Z⟩:=hcut;generalize ((w.alloc (.cells #[.string nm] 9)).alloc (.cells #[.int .i64 0,.int .i64 0,.slice none 0 0] 35))=w0 at *;have HU:=zh (HW.o.below Z);have kv:=zh (K2.o.low Z);have k2:=zh HI;have hg:=zh ((Z.block _ (af hn.o)).trans hn.o);have Hp:=zh (hy.o.keep (Stays.of_below Z));have Hs:=zh Z;have HQ:Hd (Calls Tryz.prog 56 #[.pointer none] wc fun e w'=>∃b,e=.returned (eT [b])∧ChAt y.D w' [b] [[]]∧(wc.heap.size≤b.1∧wc.heap.size≤b.2)∧Below wc.heap.size wc w'):=zh (j9 y.D [] [] wc trivial (by have:=HU.o.low;omega));clear HI Z q0;go_wp2_with fail
  refine HQ.o.mono ?_;rintro e w2 ⟨b,rfl,HJ,H4,E⟩;have hG:=zh (HU.o.below E);have K1:=zh (kv.o.low E);have Ha:=zh ((E.block _ (af hg.o)).trans hg.o);have Hm:=zh ((E.block _ (af k2.o)).trans k2.o);have Hr:=zh (Hp.o.keep (Stays.of_below E));have hM:Hd (ChAt y.D w2 [b] [dg (f.params.take 0) (vs.take 0) []]):=zh HJ;have H:=zh (am Hs.o E);have Kg:=zh H4;have HS:Hd (w.heap.size≤w2.heap.size∧w.heap.size≤b.2):=zh (by have h1:=hz.o.size;have h2:=Hs.o.size;have h3:=E.size;have h4:=H4.2;omega);obtain ⟨B1,B2⟩:=b;unfold eT;dsimp only at *;clear HJ H4 E HQ;have f0:=aa Hm.o (j:=0) (u:=.string f.name) rfl;have f1:=aa Hm.o (j:=1) (u:=.slice s1 f.params.length c1) rfl;go_wp2_with fail
  have kc:(f.params.length:Int)≤9223372036854775807:=by have:=Hc.o;unfold maxLen at this;omega
  clear f0 f1;go_loopg [29] f.params.length (fun gg t29 wr=>∃i:Nat,i+gg=f.params.length∧t29=.int .i64 (i:Int)∧Hd (RunAt y wr r (kC (m+1)))∧Hd (ChAt y.D wr [(B1,B2)] [dg (f.params.take i) (vs.take i) []])∧Hd (VsAt y wr (.slice sv nv cv) vs)∧Hd (OnS (fun k=>k=B2) w2 wr))
  case atStart=>exact ⟨0,Nat.zero_add _,rfl,hG,hM,K1,zh (OnS.refl _ _)⟩
  case round =>
   obtain ⟨i,HE,rfl,Q,ht,HR,Hi⟩:=hrel;have k0:=zh HE;by_cases H1:i<f.params.length
   ·have H0:(i:Int)<(f.params.length:Int):=by omega
    have Ko:(0:Int)≤(i:Int):=by omega
    obtain ⟨pb,poff,rfl,Kk,h0,Hz⟩:=K8.o (by omega);have kd:¬pb=B2:=fun e=>by have h1:=Kg.o.2;have h2:=Hs.o.size;omega
    have M:∀j,j<2→wr.cell? ⟨pb,poff+i * 2+j,none⟩=(pcs i)[j]?:=fun j hj=>((World.cell?_of_block (w:=w2) (Hi.o.block pb (Nat.lt_of_lt_of_le h0 H.o.size) kd)).trans (H.o.cell (p:=⟨pb,_,none⟩) h0)).trans (Hz i H1 j hj);rw [He.o i H1] at M;have p0:wr.cell? ⟨pb,poff+i * 2,none⟩=some (.string (f.params.getD i default).1):=M 0 (by decide);have p1:wr.cell? ⟨pb,poff+i * 2+1,none⟩=some (.int .i64 (f.params.getD i default).2):=M 1 (by decide);obtain ⟨vcs,⟨sv',cv',ka,hO,Hu,_,Ht,_⟩,Hv⟩:=HR.o;injection ka with e1 e2 e3
    subst e1 e2 e3;have hX:i<vs.length:=by have:=HX.o;omega
    obtain ⟨gb,goff,rfl,kp,ko,HF⟩:=Ht (by omega);have hA:=Hv i hX;have J:=HF i hX;have Kj:Hd (vs.getD i noV=vs.getD i noV):=zh rfl;obtain ⟨pa,ca,hD,HN⟩:=id hA.1
    have hb:vcs i=[.int .i64 (vs.getD i noV).ty,.int .i64 (vs.getD i noV).num,.slice pa (vs.getD i noV).text.length ca]:=by
     injection hD with hD
     have:=congrArg Array.toList hD;simpa using this
    have HA:Hd (VvR y wr (vs.getD i noV) (.agg #[.int .i64 (vs.getD i noV).ty,.int .i64 (vs.getD i noV).num,.slice pa (vs.getD i noV).text.length ca])):=zh ⟨⟨pa,ca,rfl,HN⟩,hA.2⟩;rw [hb] at J;have g0:wr.cell? ⟨gb,goff+i * 3,none⟩=some (.int .i64 (vs.getD i noV).ty):=J 0 (by decide);have g1:wr.cell? ⟨gb,goff+i * 3+1,none⟩=some (.int .i64 (vs.getD i noV).num):=J 1 (by decide);have g2:wr.cell? ⟨gb,goff+i * 3+2,none⟩=some (.slice pa (vs.getD i noV).text.length ca):=J 2 (by decide);have kn:(i:Int)<(vs.length:Int):=by omega
    have K3:=zh (lN f.params vs [] i H1 hX);obtain ⟨⟨hB,HM,_,mv,HD,HC⟩,_⟩:=ht.o;have k9:(vs.length:Int)≤9223372036854775807:=by unfold maxLen at Hu;omega
    have Hk:=zh HD;have Ka:=zh HC;have k7:=zh hB;have hN:=zh HM;have hT:=af hB;have hS:=az g0;have bx1:=aa hB (j:=1) (u:=.map (some B2)) rfl;generalize (f.params.getD i default).1=pn at *;generalize (f.params.getD i default).2=pt at *;generalize vs.getD i noV=a at *;generalize a.text.length=la at *;clear HE Hz M hO Ht Hv hA HF J hD HN hb hB HM HD HC Hu kp ko;go_upto_region 6 with fail
    have hd:Below wr.heap.size wr (wr.alloc (.cells #[.string pn,.int .i64 pt] 80)):=ag (Below.refl _ _) _;have H6:Hd ((wr.alloc (.cells #[.string pn,.int .i64 pt] 80)).cell? ⟨B1,1,none⟩=some (.map (some B2))∧(wr.alloc (.cells #[.string pn,.int .i64 pt] 80)).cell? ⟨wr.heap.size,0,none⟩=some (.string pn)∧(wr.alloc (.cells #[.string pn,.int .i64 pt] 80)).cell? ⟨gb,goff+i * 3,none⟩=some (.int .i64 a.ty)∧(wr.alloc (.cells #[.string pn,.int .i64 pt] 80)).cell? ⟨gb,goff+i * 3+1,none⟩=some (.int .i64 a.num)∧(wr.alloc (.cells #[.string pn,.int .i64 pt] 80)).cell? ⟨gb,goff+i * 3+2,none⟩=some (.slice pa la ca)):=zh ⟨aq _ bx1,aA _ _ _ _ _ _ rfl rfl,aq _ g0,aq _ g1,aq _ g2⟩;have hx:=zh hd;generalize (wr.alloc (.cells #[.string pn,.int .i64 pt] 80))=wx at *;clear hd g0 g1 g2 bx1 p0 p1 hT hS;have L:Below wr.heap.size wr wx.drew:=aw hx.o;have hp:=gh (Hk.o.below L) fJ jX pn (.agg #[.int .i64 a.ty,.int .i64 a.num,.slice pa la ca]);have hr:=zh (gj wx.drew B2 pn (.agg #[.int .i64 a.ty,.int .i64 a.num,.slice pa la ca]));have K9:=zh (jG (Hk.o.below L) pn (.agg #[.int .i64 a.ty,.int .i64 a.num,.slice pa la ca]));have hI:=zh (Hk.o.below L);have K4:=zh (Q.o.below L);have Kp:=zh (ht.o.low L);have kx:=zh (HR.o.low L);have Hj:=zh (MvAt.imp (fun v x q=>VvAt.low q L) Ka.o);have k8:=zh (HA.o.low L);have Hg:Hd (OnS (fun k=>k=B2) w2 wx.drew):=zh (Hi.o.trans (OnS.of_below L));have hw:=zh ((L.block _ (af k7.o)).trans k7.o);clear L hx;generalize wr.heap.size=PB at *;refine ay (S:=fun W=>W.cell? ⟨B1,1,none⟩=some (.map (some B2))∧W.cell? ⟨PB,0,none⟩=some (.string pn)∧W.cell? ⟨gb,goff+i * 3,none⟩=some (.int .i64 a.ty)∧W.cell? ⟨gb,goff+i * 3+1,none⟩=some (.int .i64 a.num)∧W.cell? ⟨gb,goff+i * 3+2,none⟩=some (.slice pa la ca)) 10 (by kernel_rfl) (by kernel_rfl) (by (try dsimp only);exact H6.o) (fun hH=>?_);simp only [List.take_succ_cons,List.take_zero,List.drop_succ_cons,List.drop_zero]
    refine tkA 0 ?_;refine tkA 1 ?_;refine tkA 2 ?_;refine tkA 3 ?_;refine tkA 4 ?_;refine tkA 5 ?_;refine tkA 6 ?_;refine tkA 7 ?_;refine tkA 8 ?_;refine tkA 9 ?_;refine wpAnyH_done (by kernel_rfl) ?_ _;dsimp only [aP];go_wp2_with fail
    generalize (ir wx.drew B2 pn (.agg #[.int .i64 a.ty,.int .i64 a.num,.slice pa la ca]))=wz at *;have HB:B1≠B2:=fun e=>hI.o.noT (t:=125) ⟨_,_,e▸hw.o⟩
    have hV:Stays (KS y.D wx.drew) wx.drew wz:=Stays.of_ne hr.o fun q=>by
     rcases q with q | q
     ·exact absurd hN.o (Nat.not_le_of_lt q)
     ·exact hI.o.noT q
    have Hw:Stays (VB y.D wx.drew) wx.drew wz:=Stays.of_ne hr.o fun q=>by
     rcases q with q | q
     ·exact absurd hN.o (Nat.not_le_of_lt q)
     ·exact hI.o.noT q
    have K6:Hd (RunAt y wz r (kC (m+1))):=zh (K4.o.off hr.o hN.o fun t q=>absurd q hI.o.noT)
    have Ke:Hd (ChAt y.D wz [(B1,B2)] [dg (f.params.take (i+1)) (vs.take (i+1)) []]):=zh (by
      rw [K3.o];exact ⟨⟨hr.o.obj HB hw.o,hN.o,fun c hc=>(by cases hc),_,K9.o,MvAt.imp (fun v x q=>q.stays hV) (MvAt.put k8.o.1 k8.o.2 pn Hj.o)⟩,trivial⟩)
    have kz:=zh (kx.o.stays Hw hV);have Hh:Hd (OnS (fun k=>k=B2) w2 wz):=zh (Hg.o.trans (OnS.of_on hr.o rfl));clear HB hV Hw hp hH;go_roundg (f.params.length-i-1)
    case measure=>have:=k0.o;omega
    case rel=>exact ⟨i+1,by have:=k0.o;omega,by go_num,K6,Ke,kz,Hh⟩
   ·obtain rfl:i=f.params.length:=by omega
    have H0:¬(f.params.length:Int)<(f.params.length:Int):=by omega
    have Kf:Hd (ChAt y.D wr [(B1,B2)] [dg f.params vs []]):=zh (by
      have q:=ht.o;rw [List.take_length,HX.o,List.take_length] at q;exact q)
    have hF:Hd (Sf y [(B1,B2)] w2 wr):=zh (Hi.o.mono fun k hk=>.inr (by rw [hk];exact List.mem_singleton.2 rfl));have k1:=zh (jZ Hm.o hG.o hM.o hF.o (by decide) (by decide) (by decide));have H8:=zh (jZ Ha.o hG.o hM.o hF.o (by decide) (by decide) (by decide));have Ho:=zh (Hr.o.keep (fL hG.o hM.o hF.o));obtain ⟨rs,rn,rc,U,_⟩:=Q.o.box;have q4:=aa U (j:=4) (u:=.int .i64 (kC (m+1))) rfl;have u4:=ae U 4;have ki:FB≠y.RB:=OfTy.ne (⟨_,_,k1.o⟩:OfTy wr FB 76) Q.o.ty (by decide);have f3:=aa k1.o (j:=3) (u:=.slice s2 f.body.length c2) rfl;have Km:IntKind.i64.wrap (kC (m+1)+1)=kC m:=by unfold kC;rw [IntKind.wrap_i64];omega
    have HV:Hd (RunAt y (wr.setCell ⟨y.RB,4,none⟩ (.int .i64 (kC m))) r (kC m)):=zh (RunAt.set Q.o rfl (Int.le_refl _) Q.o.gas fun _ _ _=>rfl);have hL:Hd (Ef y wr (wr.setCell ⟨y.RB,4,none⟩ (.int .i64 (kC m)))):=zh (Ef.set (Ef.refl _ _) _ _);have k6:=zh (Kf.o.ef Q.o hL.o);have H9:=zh (jZ H8.o Q.o ht.o (Sf.of_ef hL.o) (by decide) (by decide) (by decide));have Hq:=zh (Ho.o.keep (fL Q.o ht.o (Sf.of_ef hL.o)));have HT:Hd (Sf y [(B1,B2)] w2 (wr.setCell ⟨y.RB,4,none⟩ (.int .i64 (kC m)))):=zh (hF.o.trans (Sf.of_ef hL.o));have Kh:Hd (Calls Tryz.prog 57 #[.pointer (some ⟨y.RB,0,none⟩),.pointer (some ⟨B1,0,none⟩),.slice s2 f.body.length c2] (wr.setCell ⟨y.RB,4,none⟩ (.int .i64 (kC m))) (Says y (SfT y [(B1,B2)]) (wr.setCell ⟨y.RB,4,none⟩ (.int .i64 (kC m))) (StR y [(B1,B2)]) (kC m) (aF (aE y.F m) f.body [dg f.params vs []] r))):=zh (Ki.o [(B1,B2)] _ r _ _ HV.o k6.o (by simp) Hq.o);clear U;go_wp2_with fail
    refine Kh.o.mono ?_;intro e w5 hs;rcases hs.cases with ⟨⟨ov,σ5⟩,r5,va,ha,rfl,⟨v5,rfl,hP,ks⟩,z,ho⟩ | ⟨t,r5,k5,ha,rfl,z,ho⟩
    ·have Hf:Hd (o=.ok (ov.getD noV) r5):=zh (by rw [HO.o,cW ha];rfl)
     have Hb:=zh z;have H7:Hd (Sf y [(B1,B2)] w2 w5):=zh (HT.o.trans ho);have hh:=zh (jZ H9.o HV.o k6.o ho (by decide) (by decide) (by decide));obtain ⟨pv,cv5,rfl,_⟩:=id hP.1;have K0:=zh hP;generalize ov.getD noV=a at *;generalize ov.isSome=is at *;clear hs ha hP ks z ho q4 u4 f3;have d:Below w5.heap.size w5 (w5.alloc (.cells #[.int .i64 a.ty,.int .i64 a.num,.slice pv a.text.length cv5] 35)):=ag (Below.refl _ _) _;have g:=zh (Hb.o.below d);have kP:=zh (K0.o.low d);have Kq:=zh d;have C:=zh ((d.block _ (af hh.o)).trans hh.o);have hE:Hd ((w5.alloc (.cells #[.int .i64 a.ty,.int .i64 a.num,.slice pv a.text.length cv5] 35)).heap[w5.heap.size]?=some (.cells #[.int .i64 a.ty,.int .i64 a.num,.slice pv a.text.length cv5] 35 (0,0))):=zh (aj _ _ _ rfl);generalize a.text.length=la at *;have H6:Hd (Sf y [(B1,B2)] w2 (w5.alloc (.cells #[.int .i64 a.ty,.int .i64 a.num,.slice pv la cv5] 35))):=zh (H7.o.trans (Sf.of_below d));clear d;go_upto_region 10 with fail
     generalize (w5.alloc (.cells #[.int .i64 a.ty,.int .i64 a.num,.slice pv la cv5] 35))=w6 at *;generalize w5.heap.size=VB5 at *;obtain ⟨rs6,rn6,rc6,T,_⟩:=g.o.box;have q4:=aa T (j:=4) (u:=.int .i64 (kC m)) rfl;have u4:=ae T 4;have v0:=aa hE.o (j:=0) (u:=.int .i64 a.ty) rfl;have v1:=aa hE.o (j:=1) (u:=.int .i64 a.num) rfl;have v2:=aa hE.o (j:=2) (u:=.slice pv la cv5) rfl;have n0:=aa C.o (j:=0) (u:=.int .i64 0) rfl;have n1:=aa C.o (j:=1) (u:=.int .i64 0) rfl;have n2:=aa C.o (j:=2) (u:=.slice none 0 0) rfl;have z0:=ae C.o 0;have z1:=ae C.o 1;have z2:=ae C.o 2;have ke:VB5≠y.RB:=OfTy.ne (⟨_,_,hE.o⟩:OfTy w6 VB5 35) g.o.ty (by decide);have hR:w.heap.size+1≠y.RB:=OfTy.ne (⟨_,_,C.o⟩:OfTy w6 (w.heap.size+1) 35) g.o.ty (by decide);have Kl:IntKind.i64.wrap (kC m-1)=kC (m+1):=by unfold kC;rw [IntKind.wrap_i64];omega
     clear T;have K7:Hd (RunAt y (w6.setCell ⟨y.RB,4,none⟩ (.int .i64 (kC (m+1)))) r5 (kC (m+1))):=zh (RunAt.set g.o rfl (Int.le_refl _) g.o.gas fun _ _ _=>rfl);have k3:Hd (Ef y w6 (w6.setCell ⟨y.RB,4,none⟩ (.int .i64 (kC (m+1))))):=zh (Ef.set (Ef.refl _ _) _ _);have kE:=zh (kP.o.ef g.o k3.o);have Y:=zh ((ak w6 ⟨y.RB,4,none⟩ (.int .i64 (kC (m+1))) (w.heap.size+1) hR).trans C.o)
     have Kd:Hd (Ef y w (w6.setCell ⟨y.RB,4,none⟩ (.int .i64 (kC (m+1))))):=zh (Ef.trans (OnS.new (OnS.of_below (am hz.o H.o)) H6.o fun k hk=>by
       rcases hk with hk | hk
       · exact ET.back hk fun hl _=>(am hz.o H.o).block k hl
       · rw [List.mem_singleton.1 hk]
         exact .inr HS.o.2) k3.o)
     go_wp2_with fail
     obtain ⟨c0,c1',c2'⟩:=bP Y.o (.int .i64 a.ty) (.int .i64 a.num) (.slice pv la cv5);refine bodyPost_ret (v:=.agg #[.int .i64 a.ty,.int .i64 a.num,.slice pv la cv5]) (by simp [results,Tryz.results37,go_sem,c0,c1',c2']) rfl ?_;rw [Hf.o];exact ⟨⟨_,rfl,kE.o.set3 (Nat.le_trans k4.o (Nat.le_succ _)) ⟨_,_,Y.o⟩ _ _ _,K7.o.set3 (Nat.le_trans k4.o (Nat.le_succ _)) ⟨_,_,Y.o⟩ _ _ _⟩,Kd.o.new3 (Nat.le_succ _) _ _ _⟩
    ·have Hf:Hd (o=.trap t r5):=zh (by rw [HO.o,bR ha])
     have Hb:=zh z;have H7:Hd (Sf y [(B1,B2)] w2 w5):=zh (HT.o.trans ho);clear hs ha z ho;unfold Trp;go_wp2_with fail
     refine ⟨rfl,?_⟩;rw [Hf.o]
     exact ⟨⟨rfl,k5,Hb.o⟩,OnS.new (OnS.of_below (am hz.o H.o)) H7.o fun k hk=>by
       rcases hk with hk | hk
       · exact ET.back hk fun hl _=>(am hz.o H.o).block k hl
       · rw [List.mem_singleton.1 hk]
         exact .inr HS.o.2⟩
end
section
open Go.RowKit
def ol (call:bU) (op:Int) (text:ByteArray) (body els:List St) (vs:List Vv):StM:=fun σ =>
 if op=3 then (if (vs.getD 0 noV).num=1 then inM [] (aF call body) σ else inM [] (aF call els) σ)
 else if op=4 then fF (fun i=>inM [(text,aB i)] (aF call body)) ((vs.getD 1 noV).num-(vs.getD 0 noV).num).toNat (vs.getD 0 noV).num σ
 else fy op text vs σ
theorem Ao {call:bU} {op pos:Int} {text:ByteArray} {es:List Ex} {body els:List St} {σ:List Sc} {r r1 r2:Rst} {vs:List Vv} (h:dv 1 r=.ok () r1) (g:bw call σ es r1=.ok vs r2):bV call (.mk op text es body els pos) σ r=ol call op text body els vs σ r2:=by
 rw [bV,cW h,cW g];rfl
theorem sN {call:bU} {op pos t:Int} {text:ByteArray} {es:List Ex} {body els:List St} {σ:List Sc} {r r1:Rst} (h:dv 1 r=.trap t r1):bV call (.mk op text es body els pos) σ r=.trap t r1:=by
 rw [bV,bR h]
theorem sy {call:bU} {op pos t:Int} {text:ByteArray} {es:List Ex} {body els:List St} {σ:List Sc} {r r1 r2:Rst} (h:dv 1 r=.ok () r1) (g:bw call σ es r1=.trap t r2):bV call (.mk op text es body els pos) σ r=.trap t r2:=by
 rw [bV,cW h,bR g]
theorem vn (σ:List Sc) (x:ByteArray) (v:Vv) (h:σ≠[]):Bz σ x v=σ.set 0 (bY (σ.getD 0 []) x v):=by
 cases σ with
 | nil=>exact absurd rfl h
 | cons m l=>rfl
theorem oy:∀(σ:List Sc) (x:ByteArray) (v:Vv),σ≠[]→nC σ x v=σ.set (d8 σ x) (bY (σ.getD (d8 σ x) []) x v)
 | [],_,_,h=>absurd rfl h
 | [m],x,v,_=>by simp [nC,d8]
 | m :: n :: l,x,v,_=>by
  rw [nC,d8];by_cases hx:gL m x=true
  ·rw [if_pos hx,if_pos hx]
   rfl
  ·rw [if_neg hx,if_neg hx,oy (n :: l) x v (by simp)]
   rfl
theorem SAt.made (w:World) (op pos:Int) (text:ByteArray) (ve vb vl:Value):SAt ((w.alloc (.cells #[.int .i64 op,.string text,ve,vb,vl,.int .i64 pos] 134)).alloc (.cells #[.int .i64 0,.int .i64 0,.slice none 0 0] 35)) w.heap.size (w.heap.size+1) op pos text ve vb vl:=
 ⟨ax _ _ _ _ (aj _ _ _ rfl),aj _ _ _ (ah _ _)⟩
theorem pY:∀{l:List (Nat×Nat)} {i:Nat},i<l.length→∃c∈l,c.2=mpA l i
 | [],_,h=>absurd h (Nat.not_lt_zero _)
 | c :: _,0,_=>⟨c,List.mem_cons_self ..,rfl⟩
 | _ :: l,i+1,h=>by
  obtain ⟨c,h1,h2⟩:=pY (l:=l) (i:=i) (by simpa using h);exact ⟨c,List.mem_cons_of_mem _ h1,h2⟩
theorem ChAt.setAt {D:Nat} {w w':World} {x:ByteArray} {v:Value} {a:Vv}:∀{l:List (Nat×Nat)} {σ:List Sc} {i:Nat} {mv:List (ByteArray×Value)},ChAt D w l σ→i<l.length→MapAt w (mpA l i) mv→VvAt (KS D w) w v a→OkV a→On (mpA l i) w w'→MapAt w' (mpA l i) (bY mv x v)→MvAt D w mv (σ.getD i [])→ChAt D w' l (σ.set i (bY (σ.getD i []) x a))
 | [],_,_,_,_,h,_,_,_,_,_,_=>absurd h (Nat.not_lt_zero _)
 | _ :: _,[],_,_,h,_,_,_,_,_,_,_=>h.elim
 | c :: l,m :: σ,0,mv,h,_,hm,hv,ho,A,hp,hmv=>by
  obtain ⟨⟨h1,h2,h3,_,_,_⟩,h6⟩:=h
  have hs:Stays (KS D w) w w':=Stays.of_ne A fun q=>by
   rcases q with q | q
   ·exact absurd h2 (Nat.not_le_of_lt q)
   ·exact hm.noT q
  exact ⟨⟨A.obj (fun e=>hm.noT (t:=125) ⟨_,_,e▸h1⟩) h1,h2,h3,_,hp,(MvAt.put hv ho x hmv).imp fun v x q=>VvAt.stays q hs⟩,ChAt.off h6 A ⟨_,hm⟩ h3 h2⟩
 | c :: l,m :: σ,i+1,mv,h,hi,hm,hv,ho,A,hp,hmv=>by
  have B:i<l.length:=by simpa using hi
  have hd:=(ChAt.at h.2 B).2.1;obtain ⟨⟨h1,h2,h3,mv1,h4,h5⟩,h6⟩:=h
  have hs:Stays (KS D w) w w':=Stays.of_ne A fun q=>by
   rcases q with q | q
   ·exact absurd hd (Nat.not_le_of_lt q)
   ·exact hm.noT q
  have C:c.2≠mpA (c :: l) (i+1):=fun e=>by
   obtain ⟨d,F,E⟩:=pY B;exact h3 d F (E.trans e.symm)
  exact ⟨⟨A.obj (fun e=>hm.noT (t:=125) ⟨_,_,e▸h1⟩) h1,h2,h3,mv1,h4.keep (A.block _ h4.lt fun e=>C (by injection e)),h5.imp fun v x q=>VvAt.stays q hs⟩,ChAt.setAt h6 B hm hv ho A hp hmv⟩
theorem xy {l:List (Nat×Nat)} {i:Nat} (h:i<l.length):mpA l i∈l.map (·.2):=by
 obtain ⟨c,h1,h2⟩:=pY h;exact List.mem_map.2 ⟨c,h1,h2⟩
theorem Cg {n:Int} {r r':Rst} (h:dv n r=.ok () r'):r'={ r with used:=r.used+n }:=by
 unfold dv at h;by_cases q:n≤r.lim-r.used
 ·rw [if_pos q] at h
  injection h with _ h
  exact h.symm
 ·rw [if_neg q] at h
  cases h
theorem RunAt.room {y:Ly} {w w':World} {r r':Rst} {k:Int} {n:Int} (h:RunAt y w r k) (h':RunAt y w' r' k) (he:dv n r=.ok () r') (hn:1≤n):JAt y.U w' y.JB r'.jo (y.N+r'.used.toNat-1)∧y.N+r'.used.toNat-1+1≤y.N+r'.used.toNat∧y.N+r'.used.toNat-1≤10000000:=by
 have e:=Cg he;have hf:=h.jo.few;have hg:=h'.gas;have A:=h.gas;have hl:=h'.low;have hu:r'.used=r.used+n:=by rw [e]
 have hj:r'.jo=r.jo:=by rw [e];rfl
 refine ⟨⟨h'.jo.box,h'.jo.right,h'.jo.rights,?_⟩,?_,?_⟩
 ·rw [hj];omega
 ·omega
 ·omega
theorem Cn (a b:Nat):AS a b=eE a b:=by unfold AS eE fO pS;omega
theorem Bb {a b:Nat} (ha:a≤256) (hb:b≤256):1≤eE a b∧0≤eE a b∧eE a b≤1000000000000000000:=by unfold eE fO;omega
theorem zc {l:List Pr} {k x:List UInt8} {e:Int} (h:fE l k x=.error e):e=1∨e=71:=by
 unfold fE at h;split at h
 ·injection h with h;exact .inl h.symm
 split at h
 ·injection h with h;exact .inr h.symm
 ·cases h
end
end Go.Proofs.YthgcpfkochikfaaGreat
