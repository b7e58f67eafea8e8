/-
  VerifyBuilt: part 44 of its proof: see the last text.
-/
import Derived.Test.YtmlgbkomdhcaoaaGreatDoorPv43
set_option maxRecDepth 100000
set_option maxHeartbeats 16000000
namespace Go.Proofs.YtmlgbkomdhcaoaaGreatDoor
section
open Go.RowKit
structure ParW (B M MB TB NB FB CB IB:Nat) (fv:Value) (F:List Fn) (w0 W w:World) (f:Fn) (fa:Array Value) (s:CS) (v:bf) (ps:List Int):Prop where
 c:CoW B M MB TB NB fv F w0 w s
 v:SlAt w IB v
 fb:w.heap[FB]?=some (.cells fa 60 (0,0))
 cb:∃pv,w.heap[CB]?=some (.cells #[.string f.name,pv,.int .i64 f.result,.int .i64 0,.slice none 0 0] 40 (0,0))∧w.ownsRow M 38 1 pv ps.length (mG ps)
 f:Fx B M NB W w
 mW:M=W.heap.size
 im:M≤IB
 cm:M≤CB
 iN:IB≠NB
section
variable {B M MB TB NB FB CB IB PB RB MOB:Nat} {fv:Value} {F:List Fn} {w0 W w w' w9:World} {f:Fn} {fa:Array Value} {s s':CS} {v:bf} {ps:List Int} {p:List Cd×List ByteArray}
theorem zO {base e sz n:Nat} {u:Value} {xs:List Value} (h:w.ownsRow base e sz u n xs) (hf:Fx B M NB w w') (hn:∀t,¬OfTy w NB t) (h1:e≠63) (h2:e≠56) (h3:e≠35) (h4:e≠22):w'.ownsRow base e sz u n xs:=bG h fun k q=>by
 obtain ⟨a,fz,ho⟩:=bD h q;exact (hf.obj ho (aH hn ho) h1 h2 h3 h4).trans ho.symm
theorem ParW.fx (h:ParW B M MB TB NB FB CB IB fv F w0 W w f fa s v ps) (hm:MkAt B M w' MB TB NB fv s') (hf:Fx B M NB w w'):ParW B M MB TB NB FB CB IB fv F w0 W w' f fa s' v ps:=by
 have hn:=h.c.ma.n.noTy;obtain ⟨pv,h1,h2⟩:=h.cb;exact ⟨h.c.step hm hf,SlAt.fx hf h.v h.iN,hf.obj h.fb (aH hn h.fb) (by decide) (by decide) (by decide) (by decide),⟨pv,hf.obj h1 (aH hn h1) (by decide) (by decide) (by decide) (by decide),zO h2 hf hn (by decide) (by decide) (by decide) (by decide)⟩,h.f.trans hf,h.mW,h.im,h.cm,h.iN⟩
theorem ParW.below (h:ParW B M MB TB NB FB CB IB fv F w0 W w f fa s v ps) (hb:Below w.heap.size w w'):ParW B M MB TB NB FB CB IB fv F w0 W w' f fa s v ps:=h.fx (h.c.ma.below hb) (Fx.of_below hb)
theorem ParW.put (h:ParW B M MB TB NB FB CB IB fv F w0 W w f fa s v ps) (k:ByteArray) (n:Int):ParW B M MB TB NB FB CB IB fv F w0 W (gI w IB k (.int .i64 n)) f fa s (bQ v k n) ps:=by
 obtain ⟨_,E,A⟩:=iP h.v k n;have C:=MapAt.noTy h.v;have D:FxR B M NB IB w (gI w IB k (.int .i64 n)):=OnS.of_on A (.inl rfl);have hB:=h.c.ma.mm;have hk:∀{b:Nat} {t:TypeId},OfTy w b t→(gI w IB k (.int .i64 n)).heap[b]?=w.heap[b]?:=fun {b t} ht=>A.block b ht.lt (fun e=>by injection e with e;exact C t (e▸ht));obtain ⟨pv,h1,h2⟩:=h.cb;exact ⟨h.c.stepR (h.c.ma.onMap A C h.iN) D (Nat.le_trans hB h.im),E,(hk ⟨_,_,h.fb⟩).trans h.fb,⟨pv,(hk ⟨_,_,h1⟩).trans h1,bG h2 fun b q=>hk (bD h2 q)⟩,h.f.newR D (h.mW▸h.im),h.mW,h.im,h.cm,h.iN⟩
theorem ParW.push {g cap:Nat} {pv:Value} {t:Int} (h:ParW B M MB TB NB FB CB IB fv F w0 W w f fa s v ps) (h1:w.heap[CB]?=some (.cells #[.string f.name,pv,.int .i64 f.result,.int .i64 0,.slice none 0 0] 40 (0,0))) (h2:w.ownsRow M 38 1 pv ps.length (mG ps)) (hg:w.grownBy w9 pv.ownBlock)
    (ho:w9.ownsRow M 38 1 (.slice (some ⟨g,0,none⟩) (ps.length+1) cap) (ps.length+1) (mG ps++[.int .i64 t])):ParW B M MB TB NB FB CB IB fv F w0 W (w9.setCell ⟨CB,1,none⟩ (.slice (some ⟨g,0,none⟩) (ps.length+1) cap)) f fa s v (ps++[t]):=by
 have hk:Keeps (fun t=>t≠38) w w9:=Keeps.grown hg h2 (fun h=>h rfl);have h9:=(hk _ _ (by decide) ⟨_,_,h1⟩:w9.heap[CB]?=w.heap[CB]?).trans h1;have hs:Keeps (fun t=>t≠40) w9 (w9.setCell ⟨CB,1,none⟩ (.slice (some ⟨g,0,none⟩) (ps.length+1) cap)):=Keeps.set ⟨_,_,h9⟩ (fun h=>h rfl) 1 _;have D:Keeps (fun t=>t≠38∧t≠40) w (w9.setCell ⟨CB,1,none⟩ (.slice (some ⟨g,0,none⟩) (ps.length+1) cap)):=(hk.mono fun t q=>q.1).trans (hs.mono fun t q=>q.2);have A:OnS (fun k=>W.heap.size≤k) w (w9.setCell ⟨CB,1,none⟩ (.slice (some ⟨g,0,none⟩) (ps.length+1) cap)):=(OnS.of_grown hg fun k hk=>h.mW▸(aP h2 hk).1).set (h.mW▸h.cm) 1 _
 have C:∀{r:Nat} {m:List (ByteArray×Value)},MapAt w r m→(w9.setCell ⟨CB,1,none⟩ (.slice (some ⟨g,0,none⟩) (ps.length+1) cap)).heap[r]?=w.heap[r]?:=fun {r m} q =>
  (aj _ _ _ _ (fun e=>q.noTy 40 (by have e':r=CB:=e;rw [e'];exact ⟨_,_,h1⟩))).trans (hg.block r q.lt (fun e=>q.noTy _ (bD h2 e.symm)))
 have hM:=h.c.ma.mm;have hb:Below B w (w9.setCell ⟨CB,1,none⟩ (.slice (some ⟨g,0,none⟩) (ps.length+1) cap)):=⟨A.os,A.tape,A.output,A.size,fun i hi=>A.block i (Nat.lt_of_lt_of_le hi h.c.le) (fun q=>by have:=h.mW;omega)⟩
 refine ⟨h.c.keep hb (h.c.ma.keep (D.mono fun t q=>by rcases q with rfl | rfl | rfl | rfl | rfl<;>decide) (C h.c.ma.n)),MapAt.keep h.v (C h.v),(D _ _ (by decide) ⟨_,_,h.fb⟩).trans h.fb,⟨_,aq h9 1 _,?_⟩,h.f.fresh A,h.mW,h.im,h.cm,h.iN⟩;rw [List.length_append,show [t].length=1 from rfl,show mG (ps++[t])=mG ps++[.int .i64 t] by simp [mG]];exact bG ho fun k q=>hs _ _ (by decide) (bD ho q)
theorem OutW.step {T:List ByteArray} (h:OutW B PB RB MOB TB NB fv F w0 W p) (hf:Fx B W.heap.size NB W w) (hm:TxAt B w TB NB T):OutW B PB RB MOB TB NB fv F w0 w (p.1,T):=by
 have hk:=Keeps.fx hf h.tx.n.noTy;have hb:=hf.below h.le;exact ⟨h.old.trans hb,h.sg.below hb h.sb,h.sb,h.fn.keep (Stays.of_lt hb),Nat.le_trans h.le hb.size,(hk _ _ (by decide) ⟨_,_,h.pb⟩).trans h.pb,(hk _ _ (by decide) ⟨_,_,h.rb⟩).trans h.rb,h.bm,h.bb,hm,h.cd.keep (hk.mono fun t q=>by rcases q with rfl | rfl | rfl | rfl<;>decide)⟩
theorem rH {pv iv:Value} (ho:OutW B PB RB MOB TB NB fv F w0 W p) (g:ParW B M MB TB NB FB CB IB fv F w0 W w f fa s v ps) (C:w.ownsRow M 35 2 iv s.ins.length (fI s.ins)) (h1:w.heap[CB]?=some (.cells #[.string f.name,pv,.int .i64 f.result,.int .i64 0,.slice none 0 0] 40 (0,0))) (h2:w.ownsRow M 38 1 pv ps.length (mG ps)) :
    OutW B PB RB MOB TB NB fv F w0 ((w.setCell ⟨CB,3,none⟩ (.int .i64 s.slots)).setCell ⟨CB,4,none⟩ iv) (p.1,s.texts)∧((w.setCell ⟨CB,3,none⟩ (.int .i64 s.slots)).setCell ⟨CB,4,none⟩ iv).heap[CB]?=some (.cells #[.string f.name,pv,.int .i64 f.result,.int .i64 s.slots,iv] 40 (0,0))∧CdDone B ((w.setCell ⟨CB,3,none⟩ (.int .i64 s.slots)).setCell ⟨CB,4,none⟩ iv) [.string f.name,pv,.int .i64 f.result,.int .i64 s.slots,iv] ⟨f.name,ps,f.result,s.slots,s.ins⟩:=by
 have e1:(w.setCell ⟨CB,3,none⟩ (.int .i64 s.slots)).heap[CB]?=some (.cells #[.string f.name,pv,.int .i64 f.result,.int .i64 s.slots,.slice none 0 0] 40 (0,0)):=aq h1 3 _;have e2:((w.setCell ⟨CB,3,none⟩ (.int .i64 s.slots)).setCell ⟨CB,4,none⟩ iv).heap[CB]?=some (.cells #[.string f.name,pv,.int .i64 f.result,.int .i64 s.slots,iv] 40 (0,0)):=aq e1 4 _;have hs:Keeps (fun t=>t≠40) w ((w.setCell ⟨CB,3,none⟩ (.int .i64 s.slots)).setCell ⟨CB,4,none⟩ iv):=(Keeps.set ⟨_,_,h1⟩ (fun h=>h rfl) 3 _).trans (Keeps.set ⟨_,_,e1⟩ (fun h=>h rfl) 4 _);have D:OnS (fun k=>W.heap.size≤k) w ((w.setCell ⟨CB,3,none⟩ (.int .i64 s.slots)).setCell ⟨CB,4,none⟩ iv):=((OnS.refl _ _).set (g.mW▸g.cm) 3 _).set (g.mW▸g.cm) 4 _;have A:((w.setCell ⟨CB,3,none⟩ (.int .i64 s.slots)).setCell ⟨CB,4,none⟩ iv).heap[NB]?=w.heap[NB]?:=(aj _ _ _ _ (fun e=>g.c.ma.n.noTy 40 (by have e':NB=CB:=e;rw [e'];exact ⟨_,_,h1⟩))).trans (aj _ _ _ _ (fun e=>g.c.ma.n.noTy 40 (by have e':NB=CB:=e;rw [e'];exact ⟨_,_,h1⟩)));have hm:=g.c.ma.mm;refine ⟨OutW.step ho (g.mW▸(g.f.fresh D)) (g.c.ma.tx.keep (hs.mono fun t q=>by rcases q with rfl | rfl | rfl<;>decide) A),e2,pv,iv,rfl,mN (bG h2 fun k q=>hs _ _ (by decide) (bD h2 q)) hm,mN (bG C fun k q=>hs _ _ (by decide) (bD C q)) hm⟩
theorem pV {c:Cd} {g cap:Nat} {cv:Value} {cs:Nat→List Value} {new:List Value} (ho:OutW B PB RB MOB TB NB fv F w0 w p) (h1:w.heap[MOB]?=some (.cells #[cv,.slice none 0 0] 27 (0,0))) (h2:w.ownsRow B 40 5 cv p.1.length (dY cs p.1.length)) (h3:∀i,i<p.1.length→CdDone B w (cs i) (p.1.getD i default)) (hd:CdDone B w new c)
    (hg:World.grownBy (w.alloc (.cells new.toArray 40)) w9 cv.ownBlock) (G:w9.ownsRow B 40 5 (.slice (some ⟨g,0,none⟩) (p.1.length+1) cap) (p.1.length+1) (dY cs p.1.length++new)):OutW B PB RB MOB TB NB fv F w0 (w9.setCell ⟨MOB,0,none⟩ (.slice (some ⟨g,0,none⟩) (p.1.length+1) cap)) (p.1++[c],p.2):=by
 have ha:Below w.heap.size w (w.alloc (.cells new.toArray 40)):=ag (Below.refl _ _) _;have D:(w.alloc (.cells new.toArray 40)).ownsRow B 40 5 cv p.1.length (dY cs p.1.length):=cS h2 (Stays.of_below ha);have hk:Keeps (fun t=>t≠40) w w9:=(Keeps.below ha).trans (Keeps.grown hg D (fun h=>h rfl));have h9:=(hk _ _ (by decide) ⟨_,_,h1⟩:w9.heap[MOB]?=w.heap[MOB]?).trans h1;have hs:Keeps (fun t=>t≠27) w9 (w9.setCell ⟨MOB,0,none⟩ (.slice (some ⟨g,0,none⟩) (p.1.length+1) cap)):=Keeps.set ⟨_,_,h9⟩ (fun h=>h rfl) 0 _;have E:=(hk.mono (U:=fun t=>t≠40∧t≠27) fun t q=>q.1).trans (hs.mono fun t q=>q.2);have hn:=ho.tx.n;have C:(w9.setCell ⟨MOB,0,none⟩ (.slice (some ⟨g,0,none⟩) (p.1.length+1) cap)).heap[NB]?=w.heap[NB]?:=(aj _ _ _ _ (fun e=>hn.noTy 27 (by have e':NB=MOB:=e;rw [e'];exact ⟨_,_,h1⟩))).trans ((hg.block NB (Nat.lt_of_lt_of_le hn.lt ha.size) (fun e=>(hn.below ha).noTy _ (bD D e.symm))).trans (ha.block _ hn.lt));have A:OnS (fun k=>B≤k) w (w9.setCell ⟨MOB,0,none⟩ (.slice (some ⟨g,0,none⟩) (p.1.length+1) cap)):=((OnS.of_below ha).trans (OnS.of_grown hg fun k hk=>(aP D hk).1)).set ho.bb 0 _;have hb:Below B w (w9.setCell ⟨MOB,0,none⟩ (.slice (some ⟨g,0,none⟩) (p.1.length+1) cap)):=⟨A.os,A.tape,A.output,A.size,fun i hi=>A.block i (Nat.lt_of_lt_of_le hi ho.le) (fun q=>by omega)⟩
 exact ⟨ho.old.trans hb,ho.sg.below hb ho.sb,ho.sb,ho.fn.keep (Stays.of_lt hb),Nat.le_trans ho.le hb.size,(E _ _ (by decide) ⟨_,_,ho.pb⟩).trans ho.pb,((aj _ _ _ _ (fun e=>ho.bm e)).trans (hk _ _ (by decide) ⟨_,_,ho.rb⟩)).trans ho.rb,ho.bm,ho.bb,ho.tx.keep (E.mono fun t q=>by rcases q with rfl | rfl | rfl<;>decide) C,CdsAt.push h1 h3 hd hk G⟩
end
def tN (m:Mdl):Prop:=big m.codes.length∧(∀c,c∈m.codes→big c.name.size∧big c.params.length∧big c.ins.length∧i64 c.result∧i64 c.slots∧(∀t,t∈c.params→i64 t)∧∀x,x∈c.ins→i64 x.op∧i64 x.a)∧big m.texts.length∧∀t,t∈m.texts→big t.length
theorem mI {α:Type} {P:α→Prop} {l:List α} {d:α} (h:∀x,x∈l→P x) (hd:P d) (i:Nat):P (l.getD i d):=by
 by_cases hi:i<l.length
 ·exact h _ (fU d hi)
 ·rw [List.getD_eq_getElem?_getD,List.getElem?_eq_none (by omega)]
  exact hd
theorem zC {B:Nat} {w:World} {pv:Value} {l:List Int} (h:w.ownsRow B 38 1 pv l.length (mG l)) (hb:big l.length) (h6:∀t,t∈l→i64 t):RepTys w pv l:=by
 obtain ⟨s0,cap,rfl,h1,h2,h3,h4⟩:=bh h;refine ⟨s0,cap,rfl,hb,h1,h2,h3,fun h0=>?_,mI h6 (by constructor<;>decide)⟩;obtain ⟨g,rfl,_,hg,hc⟩:=h4 h0;refine ⟨g,0,rfl,hg,fun i hi=>?_⟩;show w.cell? ⟨g,0+i,none⟩=some (.int .i64 (l.getD i 0))
 rw [Nat.zero_add];refine hc i _ ?_;rw [mG,List.getElem?_map,List.getElem?_eq_getElem hi,List.getD_eq_getElem?_getD,List.getElem?_eq_getElem hi];rfl
theorem yK {B:Nat} {w:World} {iv:Value} {l:List Ins} (h:w.ownsRow B 35 2 iv l.length (fI l)) (hb:big l.length) (h6:∀x,x∈l→i64 x.op∧i64 x.a):RepIns w iv l:=by
 obtain ⟨s0,cap,rfl,h1,h2,h3,h4⟩:=bh h;refine ⟨s0,cap,rfl,hb,h1,h2,h3,fun h0=>?_,mI h6 ⟨by constructor<;>decide,by constructor<;>decide⟩⟩;obtain ⟨g,rfl,_,hg,hc⟩:=h4 h0;refine ⟨g,0,rfl,hg,fun i hi=>?_⟩;rw [Nat.zero_add];exact ⟨hc _ _ (lQ l i hi).1,hc _ _ (lQ l i hi).2⟩
theorem vi {B:Nat} {w:World} {v:Value} {t:ByteArray} (h:ByAt B w v t) (hb:big (dB t).length):RepBytes w v (dB t):=by
 obtain ⟨b,cap,rfl,⟨h1,h2⟩,_,ho,hc⟩:=h;have hl:(dB t).length=t.size:=by unfold dB;rw [List.length_map,ByteArray.toList_eq];rfl
 have hg:∀i,i<t.size→(dB t).getD i 0=((t.data.toList.getD i 0).toNat:Int):=fun i hi=>by
  have A:i<t.data.toList.length:=hi;unfold dB;rw [ByteArray.toList_eq,List.getD_eq_getElem?_getD,List.getElem?_map,List.getD_eq_getElem?_getD,List.getElem?_eq_getElem A];rfl
 have hm:t.size≤maxLen:=by unfold big at hb;unfold maxLen;omega
 refine ⟨some ⟨b,0,none⟩,cap,by rw [hl],hb,by rw [hl];exact h1,h2 hm,fun e=>(by cases e),fun h0=>⟨b,0,rfl,ho.lt,fun i hi=>?_⟩,mI (P:=fun x=>0≤x∧x≤255) (fun x hx=>?_) (by decide)⟩
 ·rw [hl] at hi
  rw [Nat.zero_add,hc i hi,hg i hi]
 ·unfold dB at hx
  obtain ⟨y,_,rfl⟩:=List.mem_map.1 hx;have:=y.toNat_lt;omega
theorem yJ {B:Nat} {w:World} {cv tv:Value} {l:List Cd} {T:List ByteArray} {cs:Nat→List Value} {vs:List Value} (h2:w.ownsRow B 40 5 cv l.length (dY cs l.length)) (h3:∀i,i<l.length→CdDone B w (cs i) (l.getD i default)) (g2:w.ownsRow B 22 1 tv T.length vs) (g3:∀i,i<T.length→∃v,vs[i]?=some v∧ByAt B w v (T.getD i default)) (hf:tN ⟨l,T.map dB⟩):RepMdl w (.agg #[cv,tv]) ⟨l,T.map dB⟩:=by
 obtain ⟨f1,f2,f3,f4⟩:=hf;refine ⟨cv,tv,rfl,?_,?_⟩
 ·obtain ⟨s0,cap,rfl,k1,k2,k3,k4⟩:=bh h2
  have C:∀i,i<l.length→(cs i).length=5:=fun i hi=>(h3 i hi).len;refine ⟨s0,cap,fun i=>(cs i).getD 0 (.int .i64 0),fun i=>(cs i).getD 1 (.int .i64 0),fun i=>(cs i).getD 2 (.int .i64 0),fun i=>(cs i).getD 3 (.int .i64 0),fun i=>(cs i).getD 4 (.int .i64 0),rfl,f1,k1,k2,k3,fun h0=>?_,fun i hi=>?_⟩
  ·obtain ⟨g,rfl,_,hg,hc⟩:=k4 h0
   refine ⟨g,0,rfl,hg,fun i hi=>?_⟩
   have key:∀j,j<5→w.cell? ⟨g,0+i * 5+j,none⟩=some ((cs i).getD j (.int .i64 0)):=fun j hj=>by
    rw [Nat.zero_add];refine hc _ _ ?_;rw [rS C hi hj,List.getD_eq_getElem?_getD,List.getElem?_eq_getElem (by rw [C i hi];exact hj)];rfl
   exact ⟨key 0 (by decide),key 1 (by decide),key 2 (by decide),key 3 (by decide),key 4 (by decide)⟩
  ·obtain ⟨pv,iv,e,q1,q2⟩:=h3 i hi
   obtain ⟨r1,r2,r3,r4,r5,r6,r7⟩:=f2 _ (fU default hi);dsimp only;rw [e];exact ⟨rfl,r1,zC q1 r2 r6,rfl,rfl,yK q2 r3 r7,r4,r5⟩
 ·obtain ⟨s0,cap,rfl,k1,k2,k3,k4⟩:=bh g2
  have D:vs.length=T.length:=by have:=g2.1;omega
  have A:(T.map dB).length=T.length:=List.length_map ..;refine ⟨s0,cap,fun i=>vs.getD i (.int .i64 0),by rw [A],f3,by rw [A];exact k1,k2,k3,fun h0=>?_,fun i hi=>?_⟩
  ·rw [A] at h0
   obtain ⟨g,rfl,_,hg,hc⟩:=k4 h0;refine ⟨g,0,rfl,hg,fun i hi=>?_⟩;rw [A] at hi;show w.cell? ⟨g,0+i,none⟩=some (vs.getD i (.int .i64 0))
   rw [Nat.zero_add];obtain ⟨v,e,_⟩:=g3 i hi;rw [hc i v e,List.getD_eq_getElem?_getD,e];rfl
  ·rw [A] at hi
   obtain ⟨v,e,q⟩:=g3 i hi;have e1:(T.map dB).getD i []=dB (T.getD i default):=by rw [List.getD_eq_getElem?_getD,List.getElem?_map,List.getD_eq_getElem?_getD,List.getElem?_eq_getElem hi];rfl
   have e2:vs.getD i (.int .i64 0)=v:=by rw [List.getD_eq_getElem?_getD,e];rfl
   dsimp only;rw [e1,e2];exact vi q (by rw [←e1];exact f4 _ (fU _ (by rw [A];exact hi)))
theorem CdDone.stays {B:Nat} {w w':World} {cs:List Value} {c:Cd} (h:CdDone B w cs c) (hs:Stays (bO B) w w'):CdDone B w' cs c:=by
 obtain ⟨pv,iv,rfl,h1,h2⟩:=h;exact ⟨pv,iv,rfl,cS h1 hs,cS h2 hs⟩
theorem vZ {B TB:Nat} {w w1 w':World} {cv tv:Value} {l:List Cd} {T:List ByteArray} {cs:Nat→List Value} {vs:List Value} (hs:Keeps (fun t=>t≠27) w w1) (A:Stays (bO B) w1 w') (h2:w.ownsRow B 40 5 cv l.length (dY cs l.length)) (h3:∀i,i<l.length→CdDone B w (cs i) (l.getD i default)) (g2:w.ownsRow TB 22 1 tv T.length vs) (g3:∀i,i<T.length→∃v,vs[i]?=some v∧ByAt TB w v (T.getD i default)) (hB:B≤TB) (hf:tN ⟨l,T.map dB⟩):RepMdl w' (.agg #[cv,tv]) ⟨l,T.map dB⟩:=
 yJ (B:=B) (cS (bG h2 fun k q=>hs _ _ (by decide) (bD h2 q)) A) (fun i hi=>((h3 i hi).keep (hs.mono fun t q=>by rcases q with rfl | rfl<;>decide)).stays A) (cS (mN (bG g2 fun k q=>hs _ _ (by decide) (bD g2 q)) hB) A) (fun i hi=>by
   obtain ⟨v,q1,b,cap,q2,q3,q4,q5,q6⟩:=g3 i hi;have e1:=hs b _ (by decide) q5;have q7:=q5.keep e1;have C:B≤b:=Nat.le_trans hB q4;have e:=(A.block b C q7.lt).trans e1;exact ⟨v,q1,b,cap,q2,q3,C,q5.keep e,fun j hj=>(World.cell?_of_block (w:=w) e).trans (q6 j hj)⟩) hf
theorem wi:∃i,Tryz.prog.info? 40=some i∧i.zero=some (.agg #[.string ⟨#[]⟩,.slice none 0 0,.int .i64 0,.int .i64 0,.slice none 0 0])∧i.size=5∧i.bytes=80:=by
 have h:(Tryz.prog.info? 40).map (fun i=>(i.zero,i.size,i.bytes))=some (some (.agg #[.string ⟨#[]⟩,.slice none 0 0,.int .i64 0,.int .i64 0,.slice none 0 0]),5,80):=by kernel_rfl
 obtain ⟨i,h1,h2⟩:=Option.map_eq_some_iff.1 h;simp only [Prod.mk.injEq] at h2
 exact ⟨i,h1,h2.1,h2.2.1,h2.2.2⟩
section
variable {B M MB TB NB FB CB IB PB RB MOB:Nat} {fv:Value} {F:List Fn} {w0 W w w' w9:World} {p:List Cd×List ByteArray}
theorem uD (h:OutW B PB RB MOB TB NB fv F w0 W p) (fa:Array Value) (f:Fn):ParW B W.heap.size (W.heap.size+1) TB NB W.heap.size (W.heap.size+2) (W.heap.size+3) fv F w0 W ((((W.alloc (.cells fa 60)).alloc (.cells #[.pointer (some ⟨TB,0,none⟩),fv,.slice none 0 0,.int .i64 0] 63)).alloc (.cells #[.string f.name,.slice none 0 0,.int .i64 f.result,.int .i64 0,.slice none 0 0] 40)).alloc (.map #[] 0)) f fa ⟨[],0,p.2⟩ [] []:=by
 have hb:Below W.heap.size W ((((W.alloc (.cells fa 60)).alloc (.cells #[.pointer (some ⟨TB,0,none⟩),fv,.slice none 0 0,.int .i64 0] 63)).alloc (.cells #[.string f.name,.slice none 0 0,.int .i64 f.result,.int .i64 0,.slice none 0 0] 40)).alloc (.map #[] 0)):=ag (ag (ag (ag (Below.refl _ _) _) _) _) _;have hB:=hb.mono h.le;have hn:=h.tx.n.lt;refine ⟨⟨h.old.trans hB,(h.tx.keep (Keeps.below hb) (hb.block _ hn)).mk' (az _ _ _ _ (az _ _ _ _ (am _ _ _ (ah _ _)))) h.le (Nat.le_succ _),h.sg.below hB h.sb,h.sb,h.fn.keep (Stays.of_lt hB),Nat.le_trans h.le hb.size⟩,⟨#[],0,am _ _ _ (by rw [ah,ah,ah]),rfl⟩,az _ _ _ _ (az _ _ _ _ (az _ _ _ _ (am _ _ _ rfl))),⟨_,az _ _ _ _ (am _ _ _ (by rw [ah,ah])),iB⟩,Fx.of_below hb,rfl,by omega,by omega,by omega⟩
theorem vj (hr:RepFns (fun b=>b<w0.heap.size) w0 fv F) (hs:Signs w0) (hb:Below w0.heap.size w0 W) (hp:W.heap[PB]?=some (.cells #[fv] 43 (0,0))) (A:W.heap[RB]?=some (.cells #[.slice none 0 0,.slice none 0 0] 27 (0,0))):OutW w0.heap.size PB RB W.heap.size (W.heap.size+2) (W.heap.size+1) fv F w0 (((W.alloc (.cells #[.slice none 0 0,.slice none 0 0] 27)).alloc (.map #[] 0)).alloc (.cells #[.slice none 0 0,.map (some (W.heap.size+1))] 56)) ([],[]):=by
 have h1:Below W.heap.size W (((W.alloc (.cells #[.slice none 0 0,.slice none 0 0] 27)).alloc (.map #[] 0)).alloc (.cells #[.slice none 0 0,.map (some (W.heap.size+1))] 56)):=ag (ag (ag (Below.refl _ _) _) _) _;have h2:=hb.trans (h1.mono hb.size);exact ⟨h2,hs.below h2 hs.lt,hs.lt,hr.keep (Stays.of_lt h2),h2.size,(h1.block _ (ae hp)).trans hp,(h1.block _ (ae A)).trans A,(by have:=ae A;omega),hb.size,⟨Nat.le_trans hb.size (by omega),Nat.le_trans hb.size (by omega),⟨_,[],am _ _ _ (by rw [ah,ah]),iB,fun i hi=>absurd hi (by simp)⟩,⟨#[],0,az _ _ _ _ (am _ _ _ (ah _ _)),rfl⟩⟩,⟨_,fun _=>[],az _ _ _ _ (az _ _ _ _ (am _ _ _ rfl)),iB,fun i hi=>absurd hi (by simp)⟩⟩
end
theorem lG (F:List Fn) (f:Fn) (T:List ByteArray):(dg F f T).2.length≤T.length+szF f:=by
 unfold dg;dsimp only;have q:=aY F f.body (aF f.params ([],0)).1 ⟨[],(aF f.params ([],0)).2,T⟩;obtain ⟨_,_,_,h,_,_⟩:=q;dsimp only at h;unfold szF;split
 ·show (aJ F f.body _).2.texts.length≤_;omega
 ·omega
theorem hZ (F:List Fn):∀(l:List Fn) (p:List Cd×List ByteArray),(bA F l p).2.length≤p.2.length+eH l
 | [],p=>by rw [bA];exact Nat.le_add_right ..
 | x :: l,p=>by
  rw [bA,eH];have h1:=hZ F l (p.1++[(dg F x p.2).1],(dg F x p.2).2);have h2:=lG F x p.2;dsimp only at h1;omega
theorem oA:∀(l:List Fn) (i:Nat),i<l.length→eH (l.take i)+szF (l.getD i default)≤eH l
 | x :: l,0,_=>by rw [List.take_zero,eH,eH];show 0+szF x≤_;omega
 | x :: l,i+1,h=>by
  have:=oA l i (by simpa using h);rw [List.take_succ_cons,eH,eH];show szF x+eH (l.take i)+szF (l.getD i default)≤_
  omega
theorem yz {S:Nat→Prop} {w:World} {f:Fn} {s1 s2:Option Addr} {c1 c2:Nat} (h:RepFn S w [.string f.name,.slice s1 f.params.length c1,.int .i64 f.result,.slice s2 f.body.length c2,.int .i64 f.pos] f):RepPas S w (.slice s1 f.params.length c1) f.params∧RepSts S w (.slice s2 f.body.length c2) f.body:=by
 obtain ⟨vp,vb,e,h1,h2⟩:=h;simp only [List.cons.injEq,true_and,and_true] at e
 obtain ⟨e1,e2⟩:=e;rw [←e1] at h1;rw [←e2] at h2;exact ⟨h1,h2⟩
theorem OutW.drew {B PB RB MOB TB NB:Nat} {fv:Value} {F:List Fn} {w0 w:World} {p:List Cd×List ByteArray} (h:OutW B PB RB MOB TB NB fv F w0 w p):OutW B PB RB MOB TB NB fv F w0 w.drew p:=
 ⟨h.old.trans ((aB (Below.refl w.heap.size w)).mono h.le),h.sg,h.sb,h.fn.keep (Stays.of_lt ((aB (Below.refl w.heap.size w)).mono h.le)),h.le,h.pb,h.rb,h.bm,h.bb,h.tx.keep (fun _ _ _ _=>rfl) rfl,h.cd.keep (fun _ _ _ _=>rfl)⟩
theorem oh {B PB RB MOB TB NB CB:Nat} {fv:Value} {F:List Fn} {w0 w:World} {p:List Cd×List ByteArray} {o:Obj} {cs:List Value} {c:Cd} (h:OutW B PB RB MOB TB NB fv F w0 w p∧w.heap[CB]?=some o∧CdDone B w cs c):OutW B PB RB MOB TB NB fv F w0 w.drew p∧w.drew.heap[CB]?=some o∧CdDone B w.drew cs c:=⟨h.1.drew,h.2.1,h.2.2.keep (fun _ _ _ _=>rfl)⟩
theorem wP (F:List Fn) (f:Fn) (T:List ByteArray) (sb:CS) (h:sb=(aJ F f.body ((aF f.params ([],0)).1,⟨[],(f.params.length:Int),T⟩)).2) (sf:CS) (hs:sf=if f.result=0 then au 18 0 sb else sb):dg F f T=(⟨f.name,f.params.map (·.2),f.result,sf.slots,sf.ins⟩,sf.texts):=by
 have e:(aF f.params ([],0)).2=(f.params.length:Int):=by rw [jd];simp
 unfold dg;dsimp only;rw [e,←h,←hs]
def jh (l:List Fn) (w:World) (e:Ending) (w':World):Prop:=
 (match eW l with
   | .error er=>e=.returned (.tuple #[.agg #[.slice none 0 0,.slice none 0 0],.int .i64 er])
   | .ok m=>∃v,e=.returned (.tuple #[v,.int .i64 0])∧∀w2,Stays (bO w.heap.size) w' w2→RepMdl w2 v m)∧Below w.heap.size w w'
end
end Go.Proofs.YtmlgbkomdhcaoaaGreatDoor
