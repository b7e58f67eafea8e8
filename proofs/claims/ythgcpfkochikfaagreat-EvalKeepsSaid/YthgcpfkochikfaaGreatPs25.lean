/-
  EvalSigns: part 25 of its proof: see the last text.
-/
import Derived.Test.YthgcpfkochikfaaGreatPs24
set_option maxRecDepth 100000
set_option maxHeartbeats 16000000
namespace Go.Proofs.YthgcpfkochikfaaGreat
section
open Go.RowKit
attribute [local go_sem ↓] Go.wp_at_zero Go.wp_at_succ
mutual
def WfS (F:List Fn):St→Prop
 | .mk op _ es body els _=>(1≤op∧op≤8∧(op=1∨op=2∨op=3∨op=7→es.length=1)∧(op=4∨op=6→es.length=2)∧(op=5→es.length≤1)∧es.length≤2)∧WfEs F es∧kF F body∧kF F els
def kF (F:List Fn):List St→Prop
 | []=>True
 | s :: l=>WfS F s∧kF F l
end
def StR (y:Ly) (l:List (Nat×Nat)) (w:World) (p:Option Vv×List Sc) (v:Value):Prop:=∃va,v=.tuple #[va,.bool p.1.isSome]∧VvR y w (p.1.getD noV) va∧ChAt y.D w l p.2
def Bh (y:Ly) (m:Nat) (s:St):Prop:=∀(l:List (Nat×Nat)) (σ:List Sc) (r:Rst) (w:World) (cs:List Value),RunAt y w r (kC m)→ChAt y.D w l σ→l≠[]→RepSt (fun b=>b<y.D) w cs s →
 Calls Tryz.prog 86 #[.pointer (some ⟨y.RB,0,none⟩),eU l,.agg cs.toArray] w (Says y (SfT y l) w (StR y l) (kC m) (bU (aF y.F m) s σ r))
def xy (y:Ly) (m:Nat) (ss:List St):Prop:=∀(l:List (Nat×Nat)) (σ:List Sc) (r:Rst) (w:World) (v:Value),RunAt y w r (kC m)→ChAt y.D w l σ→l≠[]→RepSts (fun b=>b<y.D) w v ss →
 Calls Tryz.prog 57 #[.pointer (some ⟨y.RB,0,none⟩),eU l,v] w (Says y (SfT y l) w (StR y l) (kC m) (aG (aF y.F m) ss σ r))
def Sf (y:Ly) (l:List (Nat×Nat)) (w w':World):Prop:=OnS (SfT y l w) w w'
section
variable {y:Ly} {w w':World} {r:Rst} {k:Int} {b:Nat} {l:List (Nat×Nat)} {σ:List Sc} {v:Value} {x:Vv}
theorem ChAt.maps {D:Nat}:∀{l:List (Nat×Nat)} {σ:List Sc},ChAt D w l σ→∀k,k∈l.map (·.2)→D≤k∧∀t,¬OfTy w k t
 | [],_,_,k,hk=>by cases hk
 | c :: l,m :: σ,h,k,hk=>by
  obtain ⟨⟨_,h2,_,mv,h4,_⟩,h6⟩:=h;rcases List.mem_cons.1 hk with rfl | hk
  ·exact ⟨h2,fun t q=>h4.noT q⟩
  ·exact ChAt.maps h6 k hk
 | _ :: _,[],h,_,_=>h.elim
theorem mf (hc:ChAt y.D w l σ) (he:¬ET y w b) (hb:b<y.D∨∃t,OfTy w b t):¬SfT y l w b:=fun q=>by
 rcases q with q | q
 ·exact he q
 ·have:=hc.maps b q
  rcases hb with hb | ⟨t,hb⟩
  ·omega
  ·exact this.2 t hb
theorem Sf.refl (y:Ly) (l:List (Nat×Nat)) (w:World):Sf y l w w:=OnS.refl _ _
theorem Sf.of_ef (h:Ef y w w'):Sf y l w w':=h.mono fun _ hk=>.inl hk
theorem Sf.of_below (h:Below w.heap.size w w'):Sf y l w w':=OnS.of_below h
theorem SfT.back (h:SfT y l w' b) (ho:Sf y l w w'):SfT y l w b∨w.heap.size≤b:=by
 by_cases hl:b<w.heap.size
 ·by_cases ht:SfT y l w b
  ·exact .inl ht
  ·rcases h with h | h
   ·rcases ET.back h (fun _ _=>ho.block b hl ht) with q | q
    ·exact .inl (.inl q)
    ·exact .inr q
   ·exact .inl (.inr h)
 ·exact .inr (Nat.le_of_not_lt hl)
theorem Sf.trans {a b c:World} (h:Sf y l a b) (g:Sf y l b c):Sf y l a c:=OnS.new h g fun _ hk=>SfT.back hk h
theorem Sf.inner {a b c:World} {e:Nat×Nat} (h:Sf y l a b) (g:Sf y (e :: l) b c) (hn:a.heap.size≤e.2):Sf y l a c:=OnS.new h g fun k hk=>by
 rcases hk with hk | hk
 ·exact SfT.back (.inl hk) h
 ·rcases List.mem_cons.1 hk with rfl | hk
  ·exact .inr hn
  ·exact .inl (.inr hk)
theorem VvR.sf (h:VvR y w x v) (hr:RunAt y w r k) (hc:ChAt y.D w l σ) (he:Sf y l w w'):VvR y w' x v:=
 ⟨h.1.stays (he.stays fun _ hb=>mf hc (hb.not hr) (hb.imp id fun q=>⟨_,q⟩)),h.2⟩
theorem VsAt.sf {vs:List Vv} (h:VsAt y w v vs) (hr:RunAt y w r k) (hc:ChAt y.D w l σ) (he:Sf y l w w'):VsAt y w' v vs:=by
 obtain ⟨cs,h1,h2⟩:=h;exact ⟨cs,h1.vb (he.stays fun b hb=>mf hc (hb.not hr) (hb.imp id fun q=>⟨_,q⟩)),fun i hi=>(h2 i hi).sf hr hc he⟩
theorem fL (hr:RunAt y w r k) (hc:ChAt y.D w l σ) (he:Sf y l w w'):Stays (fun b=>b<y.D) w w':=he.stays fun _ hb=>mf hc (KS.not (.inl hb) hr) (.inl hb)
theorem RepSt.form6 {S:Nat→Prop} {cs:List Value} {x:St} (h:RepSt S w cs x):∃op text s1 n1 c1 s2 n2 c2 s3 n3 c3 pos,cs=[.int .i64 op,.string text,.slice s1 n1 c1,.slice s2 n2 c2,.slice s3 n3 c3,.int .i64 pos]:=by
 cases h with
 | mk cb cl he hb _ hl _ =>
  obtain ⟨_,⟨s1,a1,rfl,_⟩,_⟩:=he;obtain ⟨s2,a2,rfl,_⟩:=hb;obtain ⟨s3,a3,rfl,_⟩:=hl;exact ⟨_,_,_,_,_,_,_,_,_,_,_,_,rfl⟩
structure SAt (w:World) (X R:Nat) (op pos:Int) (text:ByteArray) (ve vb vl:Value):Prop where
 x:w.heap[X]?=some (.cells #[.int .i64 op,.string text,ve,vb,vl,.int .i64 pos] 134 (0,0))
 r:w.heap[R]?=some (.cells #[.int .i64 0,.int .i64 0,.slice none 0 0] 35 (0,0))
theorem jS {A:Array Value} {t:TypeId} (h:w.heap[b]?=some (.cells A t (0,0))) (hr:RunAt y w r k) (hc:ChAt y.D w l σ) (he:Sf y l w w') (h1:t≠86) (h2:t≠68) (h3:t≠1):w'.heap[b]?=some (.cells A t (0,0)):=
 he.obj (mf hc (gG ⟨_,_,h⟩ hr h1 h2 h3) (.inr ⟨t,_,_,h⟩)) h
theorem SAt.sf {X R:Nat} {op pos:Int} {text:ByteArray} {ve vb vl:Value} (h:SAt w X R op pos text ve vb vl) (hr:RunAt y w r k) (hc:ChAt y.D w l σ) (he:Sf y l w w'):SAt w' X R op pos text ve vb vl:=
 ⟨jS h.x hr hc he (by decide) (by decide) (by decide),jS h.r hr hc he (by decide) (by decide) (by decide)⟩
theorem SAt.low {X R:Nat} {op pos:Int} {text:ByteArray} {ve vb vl:Value} (h:SAt w X R op pos text ve vb vl) (hb:Below w.heap.size w w'):SAt w' X R op pos text ve vb vl:=⟨(hb.block _ (af h.x)).trans h.x,(hb.block _ (af h.r)).trans h.r⟩
theorem ChAt.set3 {R:Nat} (hd:y.D≤R) (ht:OfTy w R 35) (p q s:Value):∀{l:List (Nat×Nat)} {σ:List Sc},ChAt y.D w l σ→ChAt y.D (((w.setCell ⟨R,0,none⟩ p).setCell ⟨R,1,none⟩ q).setCell ⟨R,2,none⟩ s) l σ
 | [],[],_=>trivial
 | c :: l,m :: σ,h=>by
  have A:On R w (((w.setCell ⟨R,0,none⟩ p).setCell ⟨R,1,none⟩ q).setCell ⟨R,2,none⟩ s):=(((On.refl R w).set 0 p).set 1 q).set 2 s
  have hs:Stays (KS y.D w) w _:=fO (fun g=>by
    rcases g with g | g
    · exact absurd hd (Nat.not_le_of_lt g)
    · exact absurd (ht.one g) (by decide)) p q s
  obtain ⟨⟨h1,h2,h3,mv,h4,h5⟩,h6⟩:=h;have B:OfTy w c.1 125:=⟨_,_,h1⟩
  exact ⟨⟨A.obj (B.ne ht (by decide)) h1,h2,h3,mv,h4.keep (A.block _ h4.lt (fun e=>h4.noT (by injection e with e;rw [e];exact ht))),h5.imp fun v x q=>q.stays hs⟩,ChAt.set3 hd ht p q s h6⟩
 | [],_ :: _,h=>h.elim
 | _ :: _,[],h=>h.elim
theorem eX {w0:World} {R:Nat} {ov:Option Vv} {ty nm:Int} {p:Option Addr} {n c:Nat} {o:Rn (Option Vv×List Sc)} {is:Bool} (hR:OfTy w R 35) (hr:RunAt y w r k) (hc:ChAt y.D w l σ) (he:Sf y l w0 w) (h1:w0.heap.size≤R) (hd:y.D≤w0.heap.size)
    (hv:VvR y w (ov.getD noV) (.agg #[.int .i64 ty,.int .i64 nm,.slice p n c])) (A:is=ov.isSome) (ho:o=.ok (ov,σ) r) :
    Says y (SfT y l) w0 (StR y l) k o (.returned (.tuple #[.agg #[.int .i64 ty,.int .i64 nm,.slice p n c],.bool is])) (((w.setCell ⟨R,0,none⟩ (.int .i64 ty)).setCell ⟨R,1,none⟩ (.int .i64 nm)).setCell ⟨R,2,none⟩ (.slice p n c)):=by
 subst ho A;exact ⟨⟨_,rfl,⟨_,rfl,hv.set3 (Nat.le_trans hd h1) hR _ _ _,ChAt.set3 (Nat.le_trans hd h1) hR _ _ _ hc⟩,hr.set3 (Nat.le_trans hd h1) hR _ _ _⟩,OnS.new he (OnS.of_on ((((On.refl R w).set 0 _).set 1 _).set 2 _) (T:=fun k=>k=R) rfl) fun _ hi=>.inr (hi▸h1)⟩
end
end
section
open Go.RowKit
attribute [local go_sem ↓] Go.wp_at_zero Go.wp_at_succ
theorem sK {call:bT} {s:St} {l:List St} {σ σ2:List Sc} {r r2:Rst} (h:bU call s σ r=.ok (none,σ2) r2):aG call (s :: l) σ r=aG call l σ2 r2:=by
 rw [aG,cT h];rfl
theorem tQ {call:bT} {s:St} {l:List St} {σ σ2:List Sc} {r r2:Rst} {v:Vv} (h:bU call s σ r=.ok (some v,σ2) r2):aG call (s :: l) σ r=.ok (some v,σ2) r2:=by
 rw [aG,cT h];rfl
theorem tz {call:bT} {s:St} {l:List St} {σ:List Sc} {t:Int} {r r2:Rst} (h:bU call s σ r=.trap t r2):aG call (s :: l) σ r=.trap t r2:=by
 rw [aG,bQ h]
theorem jz {y:Ly} {m:Nat} (ss:List St) (hx:∀i,i<ss.length→Bh y m (ss.getD i default)):xy y m ss:=by
 intro l σ r w v h hc hn he;obtain ⟨p,hp⟩:∃p,eU l=.pointer p:=by cases l<;>exact ⟨_,rfl⟩
 have HX:=zh hx;have HN:=zh hn;have HP:=zh hp;have h7:Hd (y.D≤w.heap.size):=zh (by have:=h.low;omega);obtain ⟨cs,hf,s⟩:=he;obtain ⟨s0,cap,rfl,n,z,_,N,_⟩:=hf;have Z:=zh N;have h4:=zh s;have ht:Hd (ss.length≤maxLen):=zh (Nat.le_trans n z);have Q:Below w.heap.size w (w.alloc (.cells #[.int .i64 0,.int .i64 0,.slice none 0 0] 35)):=ag (Below.refl _ _) _;have hq:=zh (h.below Q);have hv:=zh (hc.low Q);have HH:=zh h;have hu:=zh hc;have a:Hd ((w.alloc (.cells #[.int .i64 0,.int .i64 0,.slice none 0 0] 35)).heap[w.heap.size]?=some (.cells #[.int .i64 0,.int .i64 0,.slice none 0 0] 35 (0,0))):=zh (aj _ _ _ rfl);have hm:Hd (Sf y l w (w.alloc (.cells #[.int .i64 0,.int .i64 0,.slice none 0 0] 35))):=zh (Sf.of_below Q);have HM:Hd (aG (aF y.F m) ss σ r=aG (aF y.F m) (ss.drop 0) σ r):=zh rfl;have hw:(ss.length:Int)≤9223372036854775807:=by have:=ht.o;unfold maxLen at this;omega
 generalize aG (aF y.F m) ss σ r=o at *;rw [hp];clear hx h hc hn hp N s n z Q;go_enter Tryz.func57,Tryz.ntmps57
 go_wp2_with fail
 go_loopg [14] ss.length (fun gg t14 wr=>∃(i:Nat) (σi:List Sc) (ri:Rst),i+gg=ss.length∧t14=.int .i64 (i:Int)∧Hd (o=aG (aF y.F m) (ss.drop i) σi ri)∧Hd (RunAt y wr ri (kC m))∧Hd (ChAt y.D wr l σi)∧Hd (Sf y l w wr)∧Hd (wr.heap[w.heap.size]?=some (.cells #[.int .i64 0,.int .i64 0,.slice none 0 0] 35 (0,0))))
 case atStart=>exact ⟨0,σ,r,Nat.zero_add _,rfl,HM,hq,hv,hm,a⟩
 case round =>
  obtain ⟨i,σi,ri,X,rfl,S,h2,h8,d,P⟩:=hrel;have h5:=zh X;by_cases C:i<ss.length
  ·have W:(i:Int)<(ss.length:Int):=by omega
   have hy:(0:Int)≤(i:Int):=by omega
   obtain ⟨b,off,hd,hi,hh,I⟩:=Z.o (by omega);subst hd;have x:=I i C;have V:=fL HH.o hu.o d.o;obtain ⟨xop,xtext,s5,n5,c5,s6,n6,c6,s7,n7,c7,xpos,B⟩:=(h4.o i C).form6;have J:∀j,j<6→wr.cell? ⟨b,off+i * 6+j,none⟩=(cs i)[j]?:=fun j hj=>(V.cell hi hh _).trans (x j hj);rw [B] at J;have x0:wr.cell? ⟨b,off+i * 6,none⟩=some (.int .i64 xop):=J 0 (by decide);have x1:wr.cell? ⟨b,off+i * 6+1,none⟩=some (.string xtext):=J 1 (by decide);have x2:wr.cell? ⟨b,off+i * 6+2,none⟩=some (.slice s5 n5 c5):=J 2 (by decide);have x3:wr.cell? ⟨b,off+i * 6+3,none⟩=some (.slice s6 n6 c6):=J 3 (by decide);have x4:wr.cell? ⟨b,off+i * 6+4,none⟩=some (.slice s7 n7 c7):=J 4 (by decide);have x5:wr.cell? ⟨b,off+i * 6+5,none⟩=some (.int .i64 xpos):=J 5 (by decide);have M:Below wr.heap.size wr (wr.alloc (.cells #[.int .i64 xop,.string xtext,.slice s5 n5 c5,.slice s6 n6 c6,.slice s7 n7 c7,.int .i64 xpos] 134)):=ag (Below.refl _ _) _;have h3:=zh (h2.o.below M);have ha:=zh (h8.o.low M)
   have K:=zh (HX.o i C l σi ri _ [.int .i64 xop,.string xtext,.slice s5 n5 c5,.slice s6 n6 c6,.slice s7 n7 c7,.int .i64 xpos] h3.o ha.o HN.o (by
     have q:=(h4.o i C).keep V;rw [B] at q;exact q.keep (Stays.of_below M)))
   rw [HP.o] at K;have Y:=zh ((M.block _ (af P.o)).trans P.o);have h6:Hd (Sf y l w (wr.alloc (.cells #[.int .i64 xop,.string xtext,.slice s5 n5 c5,.slice s6 n6 c6,.slice s7 n7 c7,.int .i64 xpos] 134))):=zh (d.o.trans (Sf.of_below M))
   have g:Hd (ss.drop i=ss.getD i default :: ss.drop (i+1)):=zh (by
     rw [List.drop_eq_getElem_cons C,List.getD_eq_getElem?_getD,List.getElem?_eq_getElem C];rfl)
   clear I x J B X M V;go_wp2_with fail
   refine K.o.mono ?_;intro e w2 hs;rcases hs.cases with ⟨⟨ov,σ2⟩,r2,va,L,rfl,⟨v2,rfl,U,h0⟩,O,ho⟩ | ⟨t,r2,k2,L,rfl,O,ho⟩
   ·have R:=zh O
    have h9:=zh h0;have T:Hd (Sf y l w w2):=zh (h6.o.trans ho);obtain ⟨pv,cv,rfl,hb⟩:=id U.1;have hl:=zh U;have G:=zh (jS Y.o h3.o ha.o ho (by decide) (by decide) (by decide));have h1:Below w2.heap.size w2 (w2.alloc (.cells #[.int .i64 (ov.getD noV).ty,.int .i64 (ov.getD noV).num,.slice pv (ov.getD noV).text.length cv] 35)):=ag (Below.refl _ _) _;have H:=zh h1;clear hs U h0 O ho hb h1 C
    cases ov with
    | none =>
     have hr:Hd (o=aG (aF y.F m) (ss.drop (i+1)) σ2 r2):=zh (by rw [S.o,g.o];exact sK L);have c:=zh (R.o.below H.o);have k:=zh (h9.o.low H.o);have f:Hd (Sf y l w _):=zh (T.o.trans (Sf.of_below H.o));have E:=zh ((H.o.block _ (af G.o)).trans G.o);clear L;dsimp only [Option.getD_none,Option.isSome_none] at *;go_wp2_with fail
     go_roundg (ss.length-i-1)
     case measure=>have:=h5.o;omega
     case rel=>exact ⟨i+1,σ2,r2,by have:=h5.o;omega,by go_num,hr,c,k,f,E⟩
    | some bv =>
     have HO:Hd (o=.ok (some bv,σ2) r2):=zh (by rw [S.o,g.o];exact tQ L);have c:=zh (R.o.below H.o);have k:=zh (h9.o.low H.o);have f:Hd (Sf y l w _):=zh (T.o.trans (Sf.of_below H.o));have A:=((H.o.block _ (af G.o)).trans G.o)
     have E:=zh A;have hk:=zh (hl.o.low H.o);have r0:=aa A (j:=0) (u:=.int .i64 0) rfl;have r1':=aa A (j:=1) (u:=.int .i64 0) rfl;have r2':=aa A (j:=2) (u:=.slice none 0 0) rfl;have z0:=ae A 0;have z1:=ae A 1;have z2:=ae A 2;have hg:=af A;clear L A;dsimp only [Option.getD_some,Option.isSome_some] at *;generalize bv.text.length=lb at *;go_wp2_with fail
     obtain ⟨c0,c1',c2⟩:=bN E.o (.int .i64 bv.ty) (.int .i64 bv.num) (.slice pv lb cv);exact bodyPost_ret (v:=.tuple #[.agg #[.int .i64 bv.ty,.int .i64 bv.num,.slice pv lb cv],.bool true]) (by simp [results,Tryz.results57,go_sem,c0,c1',c2]) rfl (eX (ov:=some bv) ⟨_,_,E.o⟩ c.o k.o f.o (Nat.le_refl _) h7.o hk.o rfl HO.o)
   ·have HO:Hd (o=.trap t r2):=zh (by rw [S.o,g.o];exact tz L)
    have T:Hd (Sf y l w w2):=zh (h6.o.trans ho);have R:=zh O;clear hs L O ho C;unfold Trp;go_wp2_with fail
    refine ⟨rfl,?_⟩;rw [HO.o];exact ⟨⟨rfl,k2,R.o⟩,T.o⟩
  ·obtain rfl:i=ss.length:=by omega
   have W:¬(ss.length:Int)<(ss.length:Int):=by omega
   have HO:Hd (o=.ok (none,σi) ri):=zh (by have:=S.o;rw [List.drop_length,aG] at this;exact this);have A:=P.o;have r0:=aa A (j:=0) (u:=.int .i64 0) rfl;have r1':=aa A (j:=1) (u:=.int .i64 0) rfl;have r2':=aa A (j:=2) (u:=.slice none 0 0) rfl;have z0:=ae A 0;have z1:=ae A 1;have z2:=ae A 2;clear X C A;go_wp2_with fail
   obtain ⟨c0,c1',c2⟩:=bN P.o (.int .i64 0) (.int .i64 0) (.slice none 0 0);exact bodyPost_ret (v:=.tuple #[.agg #[.int .i64 0,.int .i64 0,.slice none 0 0],.bool false]) (by simp [results,Tryz.results57,go_sem,c0,c1',c2]) rfl (eX (ov:=none) ⟨_,_,P.o⟩ h2.o h8.o d.o (Nat.le_refl _) h7.o ⟨VvAt.no,OkV.no⟩ rfl HO.o)
end
section
open Go.RowKit
attribute [local go_sem ↓] Go.wp_at_zero Go.wp_at_succ
def ixF:List Fn→ByteArray→Nat
 | [],_=>0
 | f :: l,x=>if f.name=x then 0 else ixF l x+1
theorem sY:∀(l:List Fn) (x:ByteArray),ixF l x≤l.length
 | [],_=>Nat.le_refl _
 | f :: l,x=>by
  rw [ixF];split
  ·exact Nat.zero_le _
  ·exact Nat.succ_le_succ (sY l x)
theorem sM:∀(l:List Fn) (x:ByteArray) (i:Nat),i<ixF l x→((l.getD i default).name.toList==x.toList)=false
 | [],_,i,h=>by rw [ixF] at h;omega
 | f :: l,x,i,h=>by
  rw [ixF] at h;by_cases e:f.name=x
  ·rw [if_pos e] at h;omega
  ·rw [if_neg e] at h
   cases i with
   | zero =>
    show (f.name.toList==x.toList)=false
    rw [beq_eq_false_iff_ne,ByteArray.toList_eq,ByteArray.toList_eq];exact fun q=>e (ByteArray.ext (Array.toList_inj.1 q))
   | succ i=>exact sM l x i (by omega)
theorem kG:∀(l:List Fn) (x:ByteArray),cD l x=if ixF l x<l.length then some (l.getD (ixF l x) default) else none
 | [],_=>rfl
 | f :: l,x=>by
  rw [cD,ixF];by_cases e:f.name=x
  ·rw [if_pos e,if_pos e,if_pos (by simp)];rfl
  ·rw [if_neg e,if_neg e,kG l x]
   by_cases h:ixF l x<l.length
   ·rw [if_pos h,if_pos (by simpa using h)];rfl
   ·rw [if_neg h,if_neg (by simpa using h)]
theorem ld:∀{l:List Fn} {x:ByteArray} {f:Fn},cD l x=some f→f.name=x∧f∈l
 | [],_,_,h=>by cases h
 | g :: l,x,f,h=>by
  rw [cD] at h;by_cases e:g.name=x
  ·rw [if_pos e] at h
   cases h
   exact ⟨e,List.mem_cons_self ..⟩
  ·rw [if_neg e] at h
   have:=ld h;exact ⟨this.1,List.mem_cons_of_mem _ this.2⟩
theorem ui {l:List Fn} {x:ByteArray} (h:ixF l x<l.length):((l.getD (ixF l x) default).name.toList==x.toList)=true:=by
 have hf:=kG l x;rw [if_pos h] at hf;rw [(ld hf).1];simp
theorem qW {S:Nat→Prop} {v:Value} {l:List Fn} (g:Nat) (bx:Nat) (q:Nat→Bool) (P:Nat) (w:World) (Z:Ent g) (hr:RepFns S w v l)
    (hP:P≤l.length) (N:∀i,i<P→q i=false) (C:P<l.length→q P=true)
    (hp:∀i,i<l.length→∀v1 v2 v3 v4 W,Below w.heap.size w W→Calls Tryz.prog g #[.agg #[.string (l.getD i default).name,v1,v2,v3,v4],.pointer (some ⟨bx,0,none⟩)] W fun e w'=>e=.returned (.bool (q i))∧Below W.heap.size W w') :
    Calls Tryz.prog 31 #[v,.func (.func g) #[] #[.pointer (some ⟨bx,0,none⟩)]] w fun e w'=>e=.returned (.int .i64 (if P<l.length then (P:Int) else -1))∧Below w.heap.size w w':=by
 obtain ⟨cs,⟨s0,cap,rfl,X,J,_,D,T⟩,Q⟩:=hr;unfold maxLen at J;unfold Ent at Z;have V:l.length≤9223372036854775807:=by omega
 have c:=zh N;have K:=zh C;have L:=zh D;have d:=zh Q;have F:=zh hp;have HP:=zh (And.intro hP J);clear D T X J hp N C Q hP;go_enter Tryz.func31,Tryz.ntmps31
 go_wp2_with fail
 go_loopg [8] (P+1) (fun gg t8 wr=>∃i:Nat,i+gg=P+1∧0<gg∧t8=.int .i64 (i:Int)∧Below w.heap.size w wr)
 case atStart=>exact ⟨0,Nat.zero_add _,Nat.succ_pos _,rfl,Below.refl _ _⟩
 case round =>
  obtain ⟨i,Y,hg,rfl,hb⟩:=hrel;have G:=zh hb;have HG:=zh Y;by_cases H:i<l.length
  ·have I:(i:Int)<(l.length:Int):=by omega
   have h:(0:Int)≤(i:Int):=by omega
   obtain ⟨b,off,U,_,a,A⟩:=L.o (by omega);subst U;obtain ⟨vp,vb,R,⟨_,⟨s1,c1,e1,_⟩,_⟩,⟨_,⟨s2,c2,e2,_⟩,_⟩⟩:=d.o i H;subst e1 e2;have B:∀j,j<5→wr.cell? ⟨b,off+i * 5+j,none⟩=(cs i)[j]?:=fun j hj=>(G.o.cell (p:=⟨b,_,none⟩) a).trans (A i H j hj);have HC:=zh (F.o i H (.slice s1 (l.getD i default).params.length c1) (.int .i64 (l.getD i default).result) (.slice s2 (l.getD i default).body.length c2) (.int .i64 (l.getD i default).pos) wr G.o);rw [R] at B;have x0:wr.cell? ⟨b,off+i * 5,none⟩=some (.string (l.getD i default).name):=B 0 (by decide);have x1:wr.cell? ⟨b,off+i * 5+1,none⟩=some (.slice s1 (l.getD i default).params.length c1):=B 1 (by decide);have x2:wr.cell? ⟨b,off+i * 5+2,none⟩=some (.int .i64 (l.getD i default).result):=B 2 (by decide);have x3:wr.cell? ⟨b,off+i * 5+3,none⟩=some (.slice s2 (l.getD i default).body.length c2):=B 3 (by decide);have x4:wr.cell? ⟨b,off+i * 5+4,none⟩=some (.int .i64 (l.getD i default).pos):=B 4 (by decide);clear hb B R A;generalize l.getD i default=f at *;by_cases O:i<P
   ·have hq:=c.o i O
    rw [hq] at HC;clear hq;go_wp2_with fail
    go_at_fn g
    refine HC.o.mono ?_;rintro e w' ⟨rfl,E⟩;have M:=zh (am G.o E);clear E;go_wp2_with fail
    go_roundg (P-i)
    case measure=>omega
    case rel=>exact ⟨i+1,by have:=HG.o;omega,by omega,by go_num,M.o⟩
   ·obtain rfl:i=P:=by have:=HG.o;omega
    have hq:=K.o H;rw [hq] at HC;clear hq O;go_wp2_with fail
    go_at_fn g
    refine HC.o.mono ?_;rintro e w' ⟨rfl,E⟩;have M:=zh (am G.o E);clear E;go_wp2_with fail
    exact bodyPost_ret (v:=.int .i64 i) (by simp [results,Tryz.results31,go_sem]) rfl ⟨rfl,M.o⟩
  ·obtain rfl:i=P:=by have:=HG.o;have:=HP.o.1;omega
   have I:¬(i:Int)<(l.length:Int):=by omega
   clear hb;go_wp2_with fail
   exact bodyPost_ret (v:=.int .i64 (-1)) (by simp [results,Tryz.results31,go_sem]) rfl ⟨rfl,G.o⟩
theorem wP (nm:ByteArray) (v1 v2 v3 v4:Value) (x:ByteArray) (nb:Nat) (w:World) (h:w.cell? ⟨nb,0,none⟩=some (.string x)):Calls Tryz.prog 55 #[.agg #[.string nm,v1,v2,v3,v4],.pointer (some ⟨nb,0,none⟩)] w fun e w'=>e=.returned (.bool (nm.toList==x.toList))∧Below w.heap.size w w':=by
 have A:=az h;go_enter Tryz.func55,Tryz.ntmps55
 go_wp2_with fail
 go_ret
 exact ⟨rfl,ag (Below.refl _ _) _⟩
theorem wN (nm:ByteArray) (v1 v2 v3 v4:Value) (x:ByteArray) (nb:Nat) (w:World) (h:w.cell? ⟨nb,0,none⟩=some (.string x)):Calls Tryz.prog 32 #[.agg #[.string nm,v1,v2,v3,v4],.pointer (some ⟨nb,0,none⟩)] w fun e w'=>e=.returned (.bool (nm.toList==x.toList))∧Below w.heap.size w w':=by
 have A:=az h;go_enter Tryz.func32,Tryz.ntmps32
 go_wp2_with fail
 go_ret
 exact ⟨rfl,ag (Below.refl _ _) _⟩
end
end Go.Proofs.YthgcpfkochikfaaGreat
