/-
  EvalSigns: part 22 of its proof: see the last text.
-/
import Derived.Test.YthgcpfkochikfaaGreatPs21
import Derived.Lib.ConvBytes
set_option maxRecDepth 100000
set_option maxHeartbeats 16000000
namespace Go.Proofs.YthgcpfkochikfaaGreat
section
open Go.RowKit
attribute [local go_sem ↓] Go.wp_at_zero Go.wp_at_succ
def kC (m:Nat):Int:=16-(m:Int)
def pB (y:Ly) (m:Nat) (x:Ex):Prop:=∀(l:List (Nat×Nat)) (σ:List Sc) (r:Rst) (w:World) (cs:List Value),RunAt y w r (kC m)→ChAt y.D w l σ→l≠[]→RepEx (fun b=>b<y.D) w cs x →
 Calls Tryz.prog 152 #[.pointer (some ⟨y.RB,0,none⟩),eU l,.agg cs.toArray] w (Says y (ET y) w (VvR y) (kC m) (bR (aF y.F m) σ x r))
def RmTo (o:Rn (List Vv)) (m:RM (List Vv)) (vs:List Vv) (r:Rst):Prop:=o=match m r with
 | .ok us r2=>.ok (vs++us) r2
 | .trap t r2=>.trap t r2
theorem RmTo.step {call:bT} {σ:List Sc} {x:Ex} {l:List Ex} {o:Rn (List Vv)} {vs:List Vv} {v:Vv} {r r2:Rst} (h:RmTo o (bA call σ (x :: l)) vs r) (he:bR call σ x r=.ok v r2):RmTo o (bA call σ l) (vs++[v]) r2:=by
 unfold RmTo at *;rw [h,bA];unfold RM.then
 rw [he];dsimp only
 cases bA call σ l r2 with
 | ok us r3=>simp [okM]
 | trap t r3=>rfl
theorem RmTo.trap {call:bT} {σ:List Sc} {x:Ex} {l:List Ex} {o:Rn (List Vv)} {vs:List Vv} {t:Int} {r r2:Rst} (h:RmTo o (bA call σ (x :: l)) vs r) (he:bR call σ x r=.trap t r2):o=.trap t r2:=by
 unfold RmTo at h;rw [h,bA];unfold RM.then
 rw [he]
theorem RmTo.done {call:bT} {σ:List Sc} {o:Rn (List Vv)} {vs:List Vv} {r:Rst} (h:RmTo o (bA call σ []) vs r):o=.ok vs r:=by
 unfold RmTo at h;rw [h,bA];simp [okM]
theorem uB:∃i,Tryz.prog.info? 35=some i∧i.zero=some (.agg #[.int .i64 0,.int .i64 0,.slice none 0 0])∧i.size=3∧i.bytes=40:=by
 have h:(Tryz.prog.info? 35).map (fun i=>(i.zero,i.size,i.bytes))=some (some (.agg #[.int .i64 0,.int .i64 0,.slice none 0 0]),3,40):=by kernel_rfl
 obtain ⟨i,hi,he⟩:=Option.map_eq_some_iff.1 h;exact ⟨i,hi,congrArg (·.1) he,congrArg (·.2.1) he,congrArg (·.2.2) he⟩
def GrV (y:Ly) (B:Nat) (w:World) (v:Value) (vs:List Vv):Prop:=∃cs,w.ownsRow B 35 3 v vs.length (bG cs vs.length)∧∀i,i<vs.length→(cs i).length=3∧VvR y w (vs.getD i noV) (.agg (cs i).toArray)
theorem GrV.ef {y:Ly} {B:Nat} {w w':World} {v:Value} {vs:List Vv} {r:Rst} {k:Int} (h:GrV y B w v vs) (hr:RunAt y w r k) (he:Ef y w w'):GrV y B w' v vs:=by
 obtain ⟨cs,h1,h2⟩:=h;exact ⟨cs,fU h1 fun k q=>he.block k (dA h1 q).lt (VB.not (.inr (dA h1 q)) hr),fun i hi=>⟨(h2 i hi).1,(h2 i hi).2.ef hr he⟩⟩
theorem GrV.vs {y:Ly} {B:Nat} {w:World} {v:Value} {vs:List Vv} (h:GrV y B w v vs):VsAt y w v vs:=by
 obtain ⟨cs,h1,h2⟩:=h;obtain ⟨s0,cap,rfl,q1,q2,q3,q4⟩:=ba h1;refine ⟨cs,⟨s0,cap,rfl,q1,q2,q3,fun h0=>?_,fun i hi=>(h2 i hi).1⟩,fun i hi=>(h2 i hi).2⟩;obtain ⟨g,rfl,hg,hl,hc⟩:=q4 h0;refine ⟨g,0,rfl,.inr (dA h1 rfl),hl,fun i hi j hj=>?_⟩;have A:=kO (fun i hi=>(h2 i hi).1) hi hj;have C:=(h2 i hi).1;rw [Nat.zero_add,hc (i * 3+j) ((cs i)[j]'(by omega)) (by rw [A];exact List.getElem?_eq_getElem _),List.getElem?_eq_getElem (by omega)]
theorem GrV.push {y:Ly} {B:Nat} {w w9:World} {v9:Value} {vs:List Vv} {x:Vv} {a b c:Value} (hx:VvR y w x (.agg #[a,b,c])) (hb:Stays (KS y.D w) w w9) (cs:Nat→List Value) (A:∀i,i<vs.length→(cs i).length=3∧VvR y w (vs.getD i noV) (.agg (cs i).toArray))
    (ho:w9.ownsRow B 35 3 v9 (vs.length+1) (bG cs vs.length++[a,b,c])):GrV y B w9 v9 (vs++[x]):=by
 refine ⟨fun i=>if i<vs.length then cs i else [a,b,c],?_,fun i hi=>?_⟩
 ·rw [List.length_append,show [x].length=1 from rfl,lz]
  exact ho
 ·by_cases e:i<vs.length
  ·dsimp only
   rw [if_pos e,iw _ _ _ e];exact ⟨(A i e).1,(A i e).2.1.stays hb,(A i e).2.2⟩
  ·have C:i<vs.length+1:=by simpa using hi
   obtain rfl:i=vs.length:=by omega
   dsimp only;rw [if_neg e,hY];exact ⟨rfl,hx.1.stays hb,hx.2⟩
theorem ox {y:Ly} {m:Nat} (xs:List Ex) (hx:∀i,i<xs.length→pB y m (xs.getD i default)) (l:List (Nat×Nat)) (σ:List Sc) (r:Rst) (w:World) (ev:Value) (h:RunAt y w r (kC m)) (hc:ChAt y.D w l σ) (hn:l≠[]) (he:RepExs (fun b=>b<y.D) w ev xs) (hl:xs.length≤100000) :
    Calls Tryz.prog 106 #[.pointer (some ⟨y.RB,0,none⟩),eU l,ev] w (Says y (ET y) w (fun w' vs v=>VsAt y w' v vs∧vs.length=xs.length) (kC m) (bA (aF y.F m) σ xs r)):=by
 obtain ⟨p,hp⟩:∃p,eU l=.pointer p:=by cases l<;>exact ⟨_,rfl⟩
 have HX:=zh hx;have J:=zh h;have hG:=zh hc;have HN:=zh hn;have HP:=zh hp;have HE:=zh he;have hB:=zh hl;obtain ⟨cs,hd,x⟩:=he;obtain ⟨s0,cap,rfl,hg,hm,_,L,_⟩:=hd;have a:=zh L;have h2:=zh x;have hH:(xs.length:Int)≤100000:=by omega
 have HM:Hd (RmTo (bA (aF y.F m) σ xs r) (bA (aF y.F m) σ (xs.drop 0)) [] r):=zh (by
   unfold RmTo;rw [List.drop_zero]
   cases bA (aF y.F m) σ xs r<;>rfl)
 obtain ⟨i0,X,h8,h7,h6⟩:=uB;have HI:=zh X;rw [hp];generalize bA (aF y.F m) σ xs r=o at *;clear hx h hc hn hp L x hg hm hl X;go_enter Tryz.func106,Tryz.ntmps106
 go_wp2_with fail
 go_loopg [7,12] xs.length (fun gg t7 t12 wr=>∃(i:Nat) (vs:List Vv) (ri:Rst) (s7:Option Addr) (c7:Nat),i+gg=xs.length∧vs.length=i∧t7=.slice s7 i c7∧t12=.int .i64 (i:Int)∧Hd (RmTo o (bA (aF y.F m) σ (xs.drop i)) vs ri)∧Hd (RunAt y wr ri (kC m))∧Hd (Ef y w wr)∧Hd (GrV y w.heap.size wr (.slice s7 i c7) vs))
 case atStart=>exact ⟨0,[],r,none,0,Nat.zero_add _,rfl,rfl,rfl,HM,J,zh (Ef.refl _ _),zh ⟨fun _=>[],gy,fun i hi=>absurd hi (by simp)⟩⟩
 case round =>
  obtain ⟨i,vs,ri,s7,c7,W,U,rfl,rfl,f,c,K,HG⟩:=hrel;have h3:=zh W;have P:=zh U;by_cases E:i<xs.length
  ·have V:(i:Int)<(xs.length:Int):=by omega
   have X:(0:Int)≤(i:Int):=by omega
   obtain ⟨b,off,ha,ht,hr,G⟩:=a.o (by omega);subst ha;have hf:¬ET y w b:=KS.not (.inl ht) J.o;have h0:=G i E;obtain ⟨xop,xnum,xtext,xv,xpos,B,s5,n5,c5,rfl⟩:=(h2.o i E).form;have I:∀j,j<5→wr.cell? ⟨b,off+i * 5+j,none⟩=(cs i)[j]?:=fun j hj=>(World.cell?_of_block (w:=w) (K.o.block b hr hf)).trans (h0 j hj);rw [B] at I;have x0:wr.cell? ⟨b,off+i * 5,none⟩=some (.int .i64 xop):=I 0 (by decide);have x1:wr.cell? ⟨b,off+i * 5+1,none⟩=some (.int .i64 xnum):=I 1 (by decide);have x2:wr.cell? ⟨b,off+i * 5+2,none⟩=some (.string xtext):=I 2 (by decide);have x3:wr.cell? ⟨b,off+i * 5+3,none⟩=some (.slice s5 n5 c5):=I 3 (by decide);have x4:wr.cell? ⟨b,off+i * 5+4,none⟩=some (.int .i64 xpos):=I 4 (by decide);have O:Below wr.heap.size wr (wr.alloc (.cells #[.int .i64 xop,.int .i64 xnum,.string xtext,.slice s5 n5 c5,.int .i64 xpos] 178)):=ag (Below.refl _ _) _
   have H:=zh (HX.o i E l σ ri _ [.int .i64 xop,.int .i64 xnum,.string xtext,.slice s5 n5 c5,.int .i64 xpos] (c.o.below O) ((hG.o.ef J.o K.o).low O) HN.o (by
     have q:=(h2.o i E).keep (K.o.stays fun b hb=>KS.not (.inl hb) J.o);rw [B] at q;exact q.keep (Stays.of_below O)))
   rw [HP.o] at H;have h5:=zh O;clear G h0 I B W O U;go_wp2_with fail
   refine H.o.mono ?_;intro e w2 hs
   have A:xs.drop i=xs.getD i default :: xs.drop (i+1):=by
    rw [List.drop_eq_getElem_cons E,List.getD_eq_getElem?_getD,List.getElem?_eq_getElem E];rfl
   rcases hs.cases with ⟨v,r2,va,N,rfl,hv,M,ho⟩ | ⟨t,r2,k2,N,rfl,M,ho⟩
   ·have hA:=zh (RmTo.step (by rw [←A];exact f.o) N)
    have Q:=zh (Ef.low h5.o ho);have d:=zh M;have hE:=zh (HG.o.ef c.o Q.o);obtain ⟨pv,cv,rfl,h9⟩:=id hv.1;have HV:=zh hv;have S:Below w2.heap.size w2 (w2.alloc (.cells #[.int .i64 v.ty,.int .i64 v.num,.slice pv v.text.length cv] 35)):=ag (Below.refl _ _) _;obtain ⟨gcs,R,Y⟩:=hE.o;rw [P.o] at R Y;have n:=zh (fU R fun k q=>S.block k (dA R q).lt);have hC:=zh Y;have hz:Hd ((w2.alloc (.cells #[.int .i64 v.ty,.int .i64 v.num,.slice pv v.text.length cv] 35)).heap[w2.heap.size]?=_):=zh (aj _ _ _ rfl);have h4:=zh S;have hw:Hd (w.heap.size≤(w2.alloc (.cells #[.int .i64 v.ty,.int .i64 v.num,.slice pv v.text.length cv] 35)).heap.size):=zh (Nat.le_trans K.o.size (Nat.le_trans Q.o.size S.size));generalize h1:v.text.length=lv at *;have hI:=zh h1;have hh:i+1≤100000:=by have:=hB.o;omega
    clear hs A N hv M ho h9 R Y S h1 E;go_wp2_with (at_builtin;refine dC rfl _ _ _ rfl w.heap.size 35 i0 _ 3 40 Tryz.underlying41 HI.o h8 h7 h6 rfl (by decide) _ i (bG gcs i) rfl n.o (some ⟨w2.heap.size,0,none⟩) 1 1 [.int .i64 v.ty,.int .i64 v.num,.slice pv lv cv] rfl (fun h=>by cases h) rfl ?q1 ?q2 ?q3 ?q4 hw.o ?_)
    case q1 =>
     intro ad e j u hj;injection e with e
     subst e;rw [Go.WideShapes.add_plain,Nat.zero_add];exact aa hz.o (by simpa using hj)
    case q2 =>
     intro u hu;rcases List.mem_cons.1 hu with rfl | hu
     ·rfl
     rcases List.mem_cons.1 hu with rfl | hu
     ·rfl
     rcases List.mem_cons.1 hu with rfl | hu
     ·rfl
     ·cases hu
    case q3=>unfold maxLen;omega
    case q4=>omega
    intro s9 c9 w9 s z;have hK:Hd (Below w.heap.size w9 w9):=zh (Below.refl _ _)
    have C:OnS (fun k=>OfTy w2 k 35∧w.heap.size≤k) w2 w9:=OnS.new (OnS.of_below h4.o) (OnS.of_grown z (T:=fun k=>OfTy (w2.alloc (.cells #[.int .i64 v.ty,.int .i64 v.num,.slice pv lv cv] 35)) k 35∧w.heap.size≤k) fun k hk=>⟨dA n.o hk,(aI n.o hk).1⟩) fun k hk=>by
     by_cases hq:k<w2.heap.size
     ·exact .inl ⟨hk.1.keep (h4.o.block k hq).symm,hk.2⟩
     ·exact .inr (Nat.le_of_not_lt hq)
    have hy:=zh (d.o.offs C (fun k hk=>⟨Nat.le_trans (Nat.le_trans J.o.low.2.2.1 J.o.low.2.2.2.1) hk.2,fun t g=>hk.1.one g⟩));have hF:Hd (Ef y w w9):=zh (OnS.new (K.o.trans Q.o) C fun k hk=>.inr hk.2)
    have hD:Hd (GrV y w.heap.size w9 (.slice s9 (i+1) c9) (_++[v])):=zh (GrV.push HV.o (C.stays fun b hb q=>by
      rcases hb with hb | hb
      · have:=J.o.low
        have:=q.2;omega
      · exact hb.ne q.1 (by decide) rfl) gcs (by rw [P.o];exact hC.o) (by rw [P.o];exact s))
    have Z:Hd ((_++[v]).length=i+1):=zh (by rw [List.length_append,P.o];rfl);clear s z C;go_wp2_with fail
    go_roundg (xs.length-i-1)
    case measure=>have:=h3.o;omega
    case rel=>exact ⟨i+1,_,r2,s9,c9,by have:=h3.o;omega,Z.o,rfl,by go_num,hA,hy,hF,hD⟩
   ·have HO:Hd (o=.trap t r2):=zh (RmTo.trap (by rw [←A];exact f.o) N)
    have Q:=zh (K.o.trans (Ef.low h5.o ho));have d:=zh M;clear hs A N M ho E;unfold Trp;go_wp2_with fail
    refine ⟨rfl,?_⟩;rw [HO.o];exact ⟨⟨rfl,k2,d.o⟩,Q.o⟩
  ·obtain rfl:i=xs.length:=by omega
   have V:¬(xs.length:Int)<(xs.length:Int):=by omega
   have HO:Hd (o=.ok vs ri):=zh (RmTo.done (by have:=f.o;rwa [List.drop_length] at this));clear W U E;go_wp2_with fail
   refine bodyPost_ret (v:=.slice s7 xs.length c7) (by simp [results,Tryz.results106,go_sem]) rfl ?_;rw [HO.o];refine ⟨⟨_,rfl,⟨?_,P.o⟩,c.o⟩,K.o⟩;have:=HG.o.vs;exact this
end
section
open Go.RowKit
theorem ys {call:bT} {σ:List Sc} {op num pos:Int} {text:ByteArray} {ks:List Ex} {r r1:Rst} (h:dy 1 r=.ok () r1):bR call σ (.mk op num text ks pos) r=(if op=1 then okM (aB num)
    else if op=2 then okM (aW (num==1))
    else if op=3 then okM (aE text.toList)
    else if op=4 then okM (fP σ text)
    else if op=6 then iA call σ text ks
    else (bA call σ ks).then fun vs=>jr call op text vs) r1:=by
 rw [bR];unfold RM.then
 rw [h]
theorem tD {call:bT} {σ:List Sc} {op num pos t:Int} {text:ByteArray} {ks:List Ex} {r r1:Rst} (h:dy 1 r=.trap t r1):bR call σ (.mk op num text ks pos) r=.trap t r1:=by
 rw [bR];unfold RM.then
 rw [h]
theorem cT {α β:Type} {m:RM α} {f:α→RM β} {a:α} {r r1:Rst} (h:m r=.ok a r1):(m.then f) r=f a r1:=by
 unfold RM.then
 rw [h]
theorem bQ {α β:Type} {m:RM α} {f:α→RM β} {t:Int} {r r1:Rst} (h:m r=.trap t r1):(m.then f) r=.trap t r1:=by
 unfold RM.then
 rw [h]
structure XAt (w:World) (X R:Nat) (op num pos:Int) (text:ByteArray) (s:Option Addr) (n c:Nat):Prop where
 x:w.heap[X]?=some (.cells #[.int .i64 op,.int .i64 num,.string text,.slice s n c,.int .i64 pos] 178 (0,0))
 r:w.heap[R]?=some (.cells #[.int .i64 0,.int .i64 0,.slice none 0 0] 35 (0,0))
section
variable {y:Ly} {w w':World} {X R:Nat} {op num pos:Int} {text:ByteArray} {s:Option Addr} {n c:Nat} {r:Rst} {k:Int}
theorem gG {b:Nat} {t:TypeId} (h:OfTy w b t) (hr:RunAt y w r k) (h1:t≠86) (h2:t≠68) (h3:t≠1):¬ET y w b:=fun q=>by
 rcases q with rfl | rfl | q
 ·exact h.ne hr.ty h1 rfl
 ·exact h.ne hr.jo.ty h2 rfl
 ·exact h.ne q.2 h3 rfl
theorem XAt.ef (h:XAt w X R op num pos text s n c) (hr:RunAt y w r k) (he:Ef y w w'):XAt w' X R op num pos text s n c:=
 ⟨he.obj (gG ⟨_,_,h.x⟩ hr (by decide) (by decide) (by decide)) h.x,he.obj (gG ⟨_,_,h.r⟩ hr (by decide) (by decide) (by decide)) h.r⟩
theorem XAt.low (h:XAt w X R op num pos text s n c) (hb:Below w.heap.size w w'):XAt w' X R op num pos text s n c:=⟨(hb.block _ (af h.x)).trans h.x,(hb.block _ (af h.r)).trans h.r⟩
theorem XAt.made (w:World) (op num pos:Int) (text:ByteArray) (s:Option Addr) (n c:Nat):XAt ((w.alloc (.cells #[.int .i64 op,.int .i64 num,.string text,.slice s n c,.int .i64 pos] 178)).alloc (.cells #[.int .i64 0,.int .i64 0,.slice none 0 0] 35)) w.heap.size (w.heap.size+1) op num pos text s n c:=
 ⟨ax _ _ _ _ (aj _ _ _ rfl),aj _ _ _ (ah _ _)⟩
theorem XAt.fin {w0:World} {a:Vv} {ty nm:Int} {p:Option Addr} {l cc:Nat} {o:Rn Vv} (h:XAt w X R op num pos text s n c) (hr:RunAt y w r k) (he:Ef y w0 w) (hR:w0.heap.size≤R) (hd:y.D≤w0.heap.size) (hv:VvR y w a (.agg #[.int .i64 ty,.int .i64 nm,.slice p l cc])) (ho:o=.ok a r) :
    Says y (ET y) w0 (VvR y) k o (.returned (.agg #[.int .i64 ty,.int .i64 nm,.slice p l cc])) (((w.setCell ⟨R,0,none⟩ (.int .i64 ty)).setCell ⟨R,1,none⟩ (.int .i64 nm)).setCell ⟨R,2,none⟩ (.slice p l cc)):=by
 subst ho;have ht:OfTy w R 35:=⟨_,_,h.r⟩
 exact ⟨⟨_,rfl,hv.set3 (Nat.le_trans hd hR) ht _ _ _,hr.set3 (Nat.le_trans hd hR) ht _ _ _⟩,he.new3 hR _ _ _⟩
end
theorem zE {l:List Pr} (h:r9 l) (k:List UInt8):((fQ l k).getD []).length≤256:=by
 unfold fQ
 cases hf:l.find? fun p=>p.1==k with
 | none=>simp
 | some p=>exact (h p (List.mem_of_find?_eq_some hf)).2
theorem jd (w:World) (t:ByteArray):Below w.heap.size w (Lib.bytesWorld w 5 t):=
 ⟨rfl,rfl,rfl,by rw [Lib.bytesWorld_size];omega,fun i hi=>Lib.bytesWorld_at_old w _ t i hi⟩
theorem eH (t:ByteArray):t.toList.length=t.size:=by
 rw [ByteArray.toList_eq];rfl
theorem oB (w:World) (t:ByteArray) (hm:t.size≤maxLen):TxtAt (KS 0 (Lib.bytesWorld w 5 t)) (Lib.bytesWorld w 5 t) (.slice (some ⟨w.heap.size,0,none⟩) t.size (grownCap w t.size 0 5)) t.toList:=by
 have e:=eH t;generalize hc:grownCap w t.size 0 5=c;rw [←e];subst hc;refine TxtAt.of_cells (by rw [e];exact grownCap_ge _ _ _ _) ?_ (fun h=>by cases h) fun _=>⟨w.heap.size,0,rfl,.inr ⟨_,_,Lib.bytesWorld_at_new w _ t⟩,fun i hi=>?_⟩
 ·exact grownCap_le_maxLen _ _ _ _ hm
 ·rw [Nat.zero_add,Lib.bytesWorld_cell w _ t i (by omega),ByteArray.toList_eq]
def jw (y:Ly) (m:Nat):Prop:=∀(nm:ByteArray) (vs:List Vv) (av:Value) (r:Rst) (w:World) (f:Fn),cD y.F nm=some f→f.params.length=vs.length→RunAt y w r (kC (m+1))→VsAt y w av vs →
 Calls Tryz.prog 37 #[.pointer (some ⟨y.RB,0,none⟩),.string nm,av] w (Says y (ET y) w (VvR y) (kC (m+1)) (aF y.F (m+1) nm vs r))
def Bw (y:Ly) (m:Nat) (text:ByteArray) (ks:List Ex):Prop:=∀(l:List (Nat×Nat)) (σ:List Sc) (r:Rst) (w:World) (num pos:Int) (v:Value),RunAt y w r (kC m)→ChAt y.D w l σ→l≠[]→RepExs (fun b=>b<y.D) w v ks →
 Calls Tryz.prog 179 #[.pointer (some ⟨y.RB,0,none⟩),eU l,.agg #[.int .i64 6,.int .i64 num,.string text,v,.int .i64 pos]] w (Says y (ET y) w (VvR y) (kC m) (iA (aF y.F m) σ text ks r))
theorem RepExs.form {S:Nat→Prop} {w:World} {v:Value} {l:List Ex} (h:RepExs S w v l):∃s c,v=.slice s l.length c:=by
 obtain ⟨cs,⟨s0,cap,h1,_⟩,_⟩:=h;exact ⟨s0,cap,h1⟩
end
end Go.Proofs.YthgcpfkochikfaaGreat
