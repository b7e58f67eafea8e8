/-
  EvalLoops: part 39 of its proof: see the last text.
-/
import Derived.Test.YthgcpfkochikfaaGreatPq00
import Derived.ProofKit
import Derived.ChangeOld
import Derived.ChangeArms
import Derived.SizedLaws
import Derived.Deep.Slices
import Derived.Test.YthgcpfkochikfaaGreatPq31
import Derived.Handed
import Derived.Test.YthgcpfkochikfaaGreatPq37
set_option maxRecDepth 100000
set_option maxHeartbeats 16000000
namespace Go.Proofs.YthgcpfkochikfaaGreat
section
open Go.ChangeShapes Go.WideShapes Go.ChangeAt Go.RowKit
def TZ (P:Program) (w:World) (n:Nat) (t:TypeId) (cs:List Value):Prop:=
 ∃(H:Type) (enc:TypeId×Value→H) (x:DataW H×List MemPlace),DataW.trod enc P w 0 (fun _=>true) true n t cs=some x∧∀k∈x.1.weights P t,k≤reachBytes
variable {P:Program} {w:World} {n:Nat} {t:TypeId} {cs:List Value}
theorem TZ.of {H:Type} {enc:TypeId×Value→H} {v:Value} {d:DataW H} {p:List MemPlace} {ts:List TypeId} {ds:List (DataW H)} (h:DataW.Trod enc P w 0 (fun _=>true) true t v d p)
    (hs:(DataW.weightsEach P ts ds).all (·≤reachBytes)=true) {j:Nat} (ht:ts[j]?=some t) (hd:ds[j]?=some d):∃n,TZ P w n t v.cells.toList:=by
 obtain ⟨m,hm⟩:=h;refine ⟨m,H,enc,_,hm,fun k hk=>?_⟩;have:=List.all_eq_true.1 hs k (DataW.weights_mem_each ht hd k hk);simpa using this
theorem TZ.int {k:IntKind} (ht:P.underlying t=some (.int k)) (h:TZ P w n t cs):∃i,cs=[.int k i]∧(Lit.int k i).wf=true:=by
 obtain ⟨H,enc,x,hx,_⟩:=h;obtain ⟨i,h1,_,h2⟩:=DataW.trod_int ht hx;exact ⟨i,h1,h2⟩
theorem TZ.bool (ht:P.underlying t=some .bool) (h:TZ P w n t cs):∃b,cs=[.bool b]:=by
 obtain ⟨H,enc,x,hx,_⟩:=h;obtain ⟨b,h1,_⟩:=DataW.trod_bool ht hx;exact ⟨b,h1⟩
theorem TZ.string (ht:P.underlying t=some .string) (h:TZ P w n t cs):∃s:ByteArray,cs=[.string s]∧s.size≤reachBytes:=by
 obtain ⟨H,enc,x,hx,hs⟩:=h;obtain ⟨s,h1,h2,_⟩:=DataW.trod_string ht hx;refine ⟨s,h1,?_⟩;rw [h2] at hs;have:=hs s.data.toList.length (by simp [DataW.weights]);simpa using this
theorem lV {H:Type} {fs:Array Field} {xs:List (DataW H×List MemPlace)} {i:Nat} {f:Field} {y:DataW H×List MemPlace} (hf:fs[i]?=some f) (hy:xs[i]?=some y) :
    ∀k∈y.1.weights P f.type,k∈DataW.weightsEach P (fs.toList.map (·.type)) (xs.map (·.1)):=fun k hk =>
 DataW.weights_mem_each (j:=i) (by simp [hf]) (by simp [hy]) k hk
theorem TZ.struct {fs:Array Field} (ht:P.underlying t=some (.struct fs)) (h:TZ P w n t cs) :
    ∃m,n=m+1∧cs.length=P.cellsOf t∧∀(i:Nat) (f:Field),fs[i]?=some f→TZ P w m f.type ((cs.drop f.offset).take (P.cellsOf f.type)):=by
 obtain ⟨H,enc,x,hx,hs⟩:=h;obtain ⟨xs,m,h1,A,h2,h3,h4⟩:=DataW.trod_struct ht hx;refine ⟨m,h1,h2,fun i f hf=>?_⟩;have hi:i<fs.size:=(Array.getElem?_eq_some_iff.1 hf).1;have h5:=h4 i f hf;have h6:xs[i]?=some xs[i]:=List.getElem?_eq_getElem (by omega);rw [h6] at h5;refine ⟨H,enc,_,h5,fun k hk=>hs k ?_⟩;rw [A];simp only [DataW.weights,ht]
 exact lV hf h6 k hk
theorem nw {H:Type} {e:TypeId} {ds:List (DataW H)} {i:Nat} {d:DataW H} (hd:ds[i]?=some d):∀k∈d.weights P e,k∈DataW.weightsAll P e ds:=by
 intro k hk;induction ds generalizing i with
 | nil=>simp at hd
 | cons x r ih =>
  simp only [DataW.weightsAll,List.mem_append]
  cases i with
  | zero=>simp at hd;subst hd;exact .inl hk
  | succ i=>exact .inr (ih (by simpa using hd))
theorem TZ.slice {e:TypeId} (ht:P.underlying t=some (.slice e)) (hc:0<P.cellsOf e) (h:TZ P w n t cs) :
    ∃a len cap,cs=[.slice a len cap]∧len≤cap∧cap≤maxLen∧cap * P.bytesOf e≤reachBytes∧(a=none→len=0∧cap=0)∧(0<cap→∃b off,a=some ⟨b,off,none⟩∧b<w.heap.size) ∧
     ∀b off,a=some ⟨b,off,none⟩→∀i,i<len→∃m cs',n=m+1∧cs'.length=P.cellsOf e∧(∀j,j<P.cellsOf e→w.cell? ⟨b,off+i * P.cellsOf e+j,none⟩=cs'[j]?)∧TZ P w m e cs':=by
 obtain ⟨H,enc,x,hx,hs⟩:=h;rcases DataW.trod_slice ht hx with ⟨rfl,_⟩ | ⟨a,len,cap,elems,rest,m,hm,rfl,E,_,hl,I,L,J,F,_⟩
 ·exact ⟨none,0,0,rfl,Nat.le_refl _,Nat.zero_le _,by simp,fun _=>⟨rfl,rfl⟩,fun h=>absurd h (by omega),fun b off h=>by cases h⟩
 ·obtain ⟨K,G⟩:=F rfl
  have A:∀k,k<cap→∃cs' y,w.cells? 0 (a.add (k * P.cellsOf e)) (P.cellsOf e)=some cs'∧DataW.trod enc P w 0 (fun _=>true) true m e cs'=some y∧(k<len→elems[k]?=some y):=fun k hk=>by
   by_cases D:k<len
   ·have h1:=J k D
    rw [List.getElem?_eq_getElem (by omega),Option.bind_eq_some_iff] at h1;obtain ⟨cs',h2,h3⟩:=h1;exact ⟨cs',_,h2,h3,fun _=>List.getElem?_eq_getElem (by omega)⟩
   ·have h1:=G (k-len) (by omega)
    rw [List.getElem?_eq_getElem (by omega),Option.bind_eq_some_iff] at h1;obtain ⟨cs',h2,h3⟩:=h1;rw [show len+(k-len)=k by omega] at h2;exact ⟨cs',_,h2,h3,fun h=>absurd h D⟩
  have hw:x.1.weights P t=(elems.length+rest.length)*P.bytesOf e :: (DataW.weightsAll P e (elems.map (·.1))++DataW.weightsAll P e (rest.map (·.1))):=by
   rw [E];simp only [DataW.weights,ht,List.length_map]
  have B:cap * P.bytesOf e≤reachBytes:=by
   have:=hs ((elems.length+rest.length)*P.bytesOf e) (by rw [hw];exact List.mem_cons_self ..);rwa [show elems.length+rest.length=cap by omega] at this
  refine ⟨some a,len,cap,rfl,hl,I,B,(fun h=>by cases h),fun h0=>?_,fun b off C i hi=>?_⟩
  ·obtain ⟨cs',y,h1,_⟩:=A 0 h0
   obtain ⟨_,h2,h3⟩:=World.cells?_some h1;have h4:=h3 0 hc;rw [List.getElem?_eq_getElem (by omega)] at h4;obtain ⟨b,off,spot⟩:=a;have hs:spot=none:=by simpa [Addr.add] using World.cell?_spot h4
   subst hs;refine ⟨b,off,rfl,?_⟩;rw [add_plain,add_plain] at h4;exact az h4
  ·injection C with C
   subst C;obtain ⟨cs',y,h1,h2,hy⟩:=A i (by omega);obtain ⟨_,h3,h4⟩:=World.cells?_some h1;refine ⟨m,cs',hm,h3,fun j hj=>?_,H,enc,y,h2,fun k hk=>hs k ?_⟩
   ·have h5:=h4 j hj
    rw [add_plain,add_plain] at h5;exact h5
   ·rw [hw]
    refine List.mem_cons_of_mem _ (List.mem_append_left _ ?_);exact nw (i:=i) (by simp [hy hi]) k hk
end
section
open Go.ChangeShapes Go.WideShapes Go.ChangeAt Go.RowKit
theorem kJ {H:Type} {enc:TypeId×Value→H} {a:Assume} {C:Checked} {os:Os} {f:FuncId} {fn:Func} {s:ChangeSpec} {E:List PathCond} {A D B F:Bool}
    (own:ownKnob C.prog.godebug=none) (started:os.Started) (noInit:C.prog.inits.idxOf? f=none) (M:C.prog.funcs[f]?=some fn)
    (witness:∃(w:World) (tape:Tape) (i:Input),w.os=os∧(w.forCall tape i).Shaped C.prog∧i.vars=[]∧Input.okWide C.prog (w.forCall tape i) .any w.heap.size f i ∧
      s.pre6 enc C.prog fn E A (w.forCall tape i).memory i.args∧a.holds C.prog (lone (Frame.enter C.prog f i.args .normal) [] (w.forCall tape i)))
    (contract:∀(W:World) (base:Nat) (args:Array Value) (ds gs:List (DataW H)) (before:List MemPlace),
      (∀(j:Nat) t v,fn.params[j]?=some t→args[j]?=some v→Value.okWide C.prog W .any base t v) →
      DataW.Whole enc C.prog fn.params.toList s.vars A W args.toList ds gs before →
      (DataW.weightsEach C.prog (fn.params.toList++s.plain.varTypes C.prog) (ds++gs)).all (·≤reachBytes)=true →
      Calls C.prog f args W fun e W'=>∃v,e=.returned v∧s.post enc C.prog fn A D B F W args v W') :
    ReturnsInHanded a C os f .any (s.pre6 enc C.prog fn E A) (s.post enc C.prog fn A D B F):=by
 refine returnsInHanded_of_calls own started noInit witness ?_;intro w tape i _ _ _ L I _;obtain ⟨_,_,_,fn',J,_,_,_,_,G⟩:=L;have e:fn'=fn:=Option.some.inj (J.symm.trans M);subst e;obtain ⟨⟨ds,gs,before,hw,_⟩,hz⟩:=I;have K:=DataW.Whole.of_heap (w':=w.forCall tape i) (by rfl) hw;refine (contract (w.forCall tape i) w.heap.size i.args ds gs before G K (hz.weights hw)).mono fun e W' ⟨v,he,hp⟩=>?_;subst he;exact ChangeSpec.post_blind hp
def pN (w:World) (b o:Nat):UInt8:=match w.cell? ⟨b,o,none⟩ with
 | some (.int _ z)=>UInt8.ofNat z.toNat
 | _=>0
theorem mq {w:World} {n:Nat} {cs:List Value} (h:TZ Tryz.prog w n 30 cs) :
    ∃(a:Option Addr) (cap:Nat) (s:List UInt8),cs=[.slice a s.length cap]∧s.length≤cap∧s.length≤1152921504606846976∧SrcAt w a s:=by
 obtain ⟨a,len,cap,rfl,hl,_,hr,_,hb,I⟩:=TZ.slice Tryz.underlying30 (by rw [show Tryz.prog.cellsOf 5=1 by kernel_rfl];decide) h;have H:Tryz.prog.bytesOf 5=1:=by kernel_rfl
 rw [H,Nat.mul_one] at hr;have B:len≤1152921504606846976:=Nat.le_trans hl (Nat.le_trans hr (by decide));by_cases h0:len=0
 ·subst h0
  exact ⟨a,cap,[],rfl,Nat.zero_le _,Nat.zero_le _,fun h=>absurd h (Nat.lt_irrefl _)⟩
 obtain ⟨b,off,rfl,F⟩:=hb (by omega);refine ⟨_,cap,(List.range len).map fun i=>pN w b (off+i),by simp,by simpa using hl,by simpa using B,fun _=>⟨b,off,rfl,F,fun i hi=>?_⟩⟩;have C:i<len:=by simpa using hi
 obtain ⟨m,cs',_,J,A,E⟩:=I b off rfl i C;have G:Tryz.prog.cellsOf 5=1:=by kernel_rfl
 rw [G] at A;obtain ⟨z,rfl,D⟩:=E.int Tryz.underlying5;have hc:=A 0 (by decide);rw [Nat.mul_one,Nat.add_zero] at hc;have hz:0≤z∧z≤255:=by simpa [Lit.wf,IntKind.min,IntKind.max,IntKind.signed,IntKind.bits] using D
 have hg:((List.range len).map fun i=>pN w b (off+i)).getD i 0=pN w b (off+i):=by
  rw [List.getD_eq_getElem?_getD,List.getElem?_map,List.getElem?_range C];rfl
 rw [hg];unfold pN;rw [hc];simp only [List.getElem?_cons_zero,Option.some.injEq,Value.int.injEq,true_and]
 have:(UInt8.ofNat z.toNat).toNat=z.toNat:=by simp;omega
 rw [this];omega
end
section
open Go.RowKit
theorem ng {P:Program} {w:World} {n:Nat} {cs:List Value} {t e:TypeId} {α:Type} (d:α) (sz:Nat) (R:List Value→α→Prop) (ht:P.underlying t=some (.slice e)) (hz:P.cellsOf e=sz) (h0:0<sz)
    (hR:∀(m:Nat) (cs':List Value),n=m+1→TZ P w m e cs'→∃x,R cs' x) (h:TZ P w n t cs) :
    ∃v l c,cs=[v]∧RowOf (fun _=>True) w v sz (List.length l) c∧∀i,i<l.length→R (c i) (l.getD i d):=by
 subst hz;obtain ⟨a,len,cap,rfl,hl,hc,_,hn,hb,hi⟩:=h.slice ht h0
 have A:∀i,∃p:List Value×α,i<len→(∃b off,a=some ⟨b,off,none⟩∧∀j,j<P.cellsOf e→w.cell? ⟨b,off+i * P.cellsOf e+j,none⟩=p.1[j]?)∧p.1.length=P.cellsOf e∧R p.1 p.2:=fun i=>by
  by_cases D:i<len
  ·obtain ⟨b,off,rfl,F⟩:=hb (by omega)
   obtain ⟨m,cs',hm,C,B,G⟩:=hi b off rfl i D;obtain ⟨x,hx⟩:=hR m cs' hm G;exact ⟨(cs',x),fun _=>⟨⟨b,off,rfl,B⟩,C,hx⟩⟩
  ·exact ⟨([],d),fun h=>absurd h D⟩
 refine ⟨_,(List.range len).map (fun i=>(Classical.choose (A i)).2),fun i=>(Classical.choose (A i)).1,rfl,⟨a,cap,by simp,by simpa using hl,hc,fun h=>(hn h).2,fun h1=>?_,fun i hi=>?_⟩,fun i hi=>?_⟩
 ·have h1:0<len:=by simpa using h1
  obtain ⟨b,off,rfl,F⟩:=hb (by omega);refine ⟨b,off,rfl,trivial,F,fun i hi j hj=>?_⟩;obtain ⟨⟨b',off',e,B⟩,_⟩:=Classical.choose_spec (A i) (by simpa using hi);injection e with e
  injection e with e1 e2
  subst e1 e2;exact B j hj
 ·exact (Classical.choose_spec (A i) (by simpa using hi)).2.1
 ·have E:i<len:=by simpa using hi
  have e:((List.range len).map (fun i=>(Classical.choose (A i)).2)).getD i d=(Classical.choose (A i)).2:=by
   rw [List.getD_eq_getElem?_getD];simp [E]
  rw [e];exact (Classical.choose_spec (A i) E).2.2
theorem DQ {α:Type}:∀{l:List α},l.length=2→∃a b,l=[a,b]
 | [a,b],_=>⟨a,b,rfl⟩
theorem Cw {α:Type}:∀{l:List α},l.length=3→∃a b c,l=[a,b,c]
 | [a,b,c],_=>⟨a,b,c,rfl⟩
theorem mi {w:World} {n:Nat} {t:TypeId} {cs cs':List Value} (h:TZ Tryz.prog w n t cs) (e:cs=cs'):TZ Tryz.prog w n t cs':=e▸h
theorem AA:Tryz.prog.cellsOf 5=1:=by kernel_rfl
theorem uC:Tryz.prog.cellsOf 35=3:=by kernel_rfl
theorem pJ:Tryz.prog.cellsOf 70=2:=by kernel_rfl
theorem c1t:Tryz.prog.cellsOf 33=1:=by kernel_rfl
theorem c1n:Tryz.prog.cellsOf 2=1:=by kernel_rfl
theorem c1s:Tryz.prog.cellsOf 30=1:=by kernel_rfl
theorem mo {w:World} {n:Nat} {cs:List Value} (h:TZ Tryz.prog w n 30 cs):∃p c s,cs=[.slice p s.length c]∧TxtAt Any w (.slice p s.length c) s:=by
 obtain ⟨v,l,c,rfl,⟨s0,cap,rfl,h1,h2,h3,h4,_⟩,B⟩:=ng (0:UInt8) 1 (fun cs' b=>cs'=[.int .u8 (b.toNat:Int)]) Tryz.underlying30 AA (by decide) (fun m cs' _ ht=>by
   obtain ⟨z,rfl,A⟩:=ht.int Tryz.underlying5;have hz:0≤z∧z≤255:=by simpa [Lit.wf,IntKind.min,IntKind.max,IntKind.signed,IntKind.bits] using A
   refine ⟨UInt8.ofNat z.toNat,?_⟩;have:(UInt8.ofNat z.toNat).toNat=z.toNat:=by simp;omega
   rw [this,show ((z.toNat:Nat):Int)=z by omega]) h
 refine ⟨s0,cap,l,rfl,TxtAt.of_cells h1 h2 h3 fun h0=>?_⟩;obtain ⟨b,off,e,_,_,hc⟩:=h4 h0;refine ⟨b,off,e,trivial,fun i hi=>?_⟩;have q:=hc i hi 0 (by decide);rw [B i hi,Nat.mul_one,Nat.add_zero] at q;exact q
theorem Cj {i:Int} (h:(Lit.int .i64 i).wf=true):aY i:=by
 unfold aY;simpa [Lit.wf,IntKind.min,IntKind.max,IntKind.signed,IntKind.bits] using h
theorem yz {w:World} {n:Nat} {cs:List Value} (h:TZ Tryz.prog w n 35 cs):∃x:Vv,VvAt Any w (.agg cs.toArray) x∧aY x.num:=by
 obtain ⟨m,rfl,hl,hf⟩:=h.struct Tryz.underlying35;rw [uC] at hl;obtain ⟨c0,c1,c2,rfl⟩:=Cw hl;obtain ⟨i0,e0,_⟩:=(mi (cs':=[c0]) (hf 0 _ rfl) (by show List.take (Tryz.prog.cellsOf 33) _=_;rw [c1t];rfl)).int Tryz.underlying33;obtain ⟨i1,e1,hw⟩:=(mi (cs':=[c1]) (hf 1 _ rfl) (by show List.take (Tryz.prog.cellsOf 2) _=_;rw [c1n];rfl)).int Tryz.underlying2;obtain ⟨p,c,s,e2,ht⟩:=mo (mi (cs':=[c2]) (hf 2 _ rfl) (by show List.take (Tryz.prog.cellsOf 30) _=_;rw [c1s];rfl));simp only [List.cons.injEq,and_true] at e0 e1 e2
 subst e0 e1 e2;exact ⟨⟨i0,i1,s⟩,⟨p,c,rfl,ht⟩,Cj hw⟩
theorem oR {w:World} {n:Nat} {cs:List Value} (h:TZ Tryz.prog w n 41 cs):∃v vs,cs=[v]∧ArIn w v vs:=by
 obtain ⟨v,l,c,e,A,B⟩:=ng noV 3 (fun cs x=>VvAt Any w (.agg cs.toArray) x∧aY x.num) Tryz.underlying41 uC (by decide) (fun m cs' _ ht=>yz ht) h;exact ⟨v,l,e,c,A,B⟩
theorem wK {w:World} {n:Nat} {cs:List Value} (h:TZ Tryz.prog w n 70 cs):∃p:Pr,PrC Any w cs p:=by
 obtain ⟨m,rfl,hl,hf⟩:=h.struct Tryz.underlying70;rw [pJ] at hl;obtain ⟨c0,c1,rfl⟩:=DQ hl;obtain ⟨p,c,s,e1,ht⟩:=mo (mi (cs':=[c0]) (hf 0 _ rfl) (by show List.take (Tryz.prog.cellsOf 30) _=_;rw [c1s];rfl));obtain ⟨p2,d,s2,e2,A⟩:=mo (mi (cs':=[c1]) (hf 1 _ rfl) (by show List.take (Tryz.prog.cellsOf 30) _=_;rw [c1s];rfl));simp only [List.cons.injEq,and_true] at e1 e2
 subst e1 e2;exact ⟨(s,s2),p,c,p2,d,rfl,ht,A⟩
theorem rU {w:World} {n:Nat} {cs:List Value} (h:TZ Tryz.prog w n 48 cs):∃v l,cs=[v]∧PrsAt Any w v l∧(l.length:Int)≤1000000000000000:=by
 obtain ⟨v,l,c,e,A,B⟩:=ng default 2 (PrC Any w) Tryz.underlying48 pJ (by decide) (fun m cs' _ ht=>wK ht) h;refine ⟨v,l,e,⟨c,A,B⟩,?_⟩;obtain ⟨a,len,cap,e2,hl,_,hr,_⟩:=h.slice Tryz.underlying48 (by rw [pJ];decide);obtain ⟨s0,cap2,rfl,_⟩:=A;rw [e] at e2;simp at e2
 rw [show Tryz.prog.bytesOf 70=48 by kernel_rfl] at hr;unfold reachBytes at hr;omega
end
end Go.Proofs.YthgcpfkochikfaaGreat
