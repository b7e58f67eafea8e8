/-
  VerifyBuilt: part 19 of its proof: see the last text.
-/
import Derived.Test.YtmlgbkomdhcaoaaGreatDoorPv02
import Derived.Test.YtmlgbkomdhcaoaaGreatDoorPv18
import Derived.KernelRfl
set_option maxRecDepth 100000
set_option maxHeartbeats 16000000
namespace Go.Proofs.YtmlgbkomdhcaoaaGreatDoor
section
open Go.RowKit
section
variable {c:Cd} {m:Mdl} {st:List Int} {sl:Nat→Int}
theorem fh (st A:List Int):dL A ⟨st++A,sl⟩=some ⟨st,sl⟩:=by
 have h1:bN (st++A) A=true:=by simp [bN]
 unfold dL;rw [if_pos h1];simp
theorem gJ:aG c m ⟨1,1⟩ ⟨st,sl⟩=some ⟨st,sl⟩:=by
 have e:inB 1 100001=true:=by decide
 unfold aG;rw [if_pos rfl,if_pos e]
theorem qK (a:Int):aG c m ⟨2,a⟩ ⟨st,sl⟩=some ⟨st++[1],sl⟩:=rfl
theorem kT {a:Int} (h:a=0∨a=1):aG c m ⟨3,a⟩ ⟨st,sl⟩=some ⟨st++[2],sl⟩:=by
 rcases h with rfl | rfl<;>rfl
theorem uN {a:Nat} (h:a<m.texts.length):aG c m ⟨4,a⟩ ⟨st,sl⟩=some ⟨st++[3],sl⟩:=by
 have e:inB (a:Int) m.texts.length=true:=by simp [inB];omega
 have e2:aG c m ⟨4,a⟩ ⟨st,sl⟩=if inB (a:Int) m.texts.length then some ⟨st++[3],sl⟩ else none:=rfl
 rw [e2,if_pos e]
theorem jw {j:Nat} {t:Int} (h:(j:Int)<c.slots) (ht:sl j=t) (h0:t≠0):aG c m ⟨5,j⟩ ⟨st,sl⟩=some ⟨st++[t],sl⟩:=by
 have e2:aG c m ⟨5,j⟩ ⟨st,sl⟩=if inB (j:Int) c.slots&&sl ((j:Int)).toNat !=0 then some ⟨st++[sl ((j:Int)).toNat],sl⟩ else none:=rfl
 have e:((j:Int)).toNat=j:=by omega
 rw [e2,e,ht];have e3:(inB (j:Int) c.slots&&t !=0)=true:=by simp [inB,h0];omega
 rw [if_pos e3]
theorem fV {j:Nat} {t:Int} (h:(j:Int)<c.slots):aG c m ⟨6,j⟩ ⟨st++[t],sl⟩=some ⟨st,dS sl j t⟩:=by
 have e2:aG c m ⟨6,j⟩ ⟨st++[t],sl⟩=if decide (1≤(st++[t]).length)&&inB (j:Int) c.slots then some ⟨(st++[t]).take ((st++[t]).length-1),dS sl ((j:Int)).toNat ((st++[t]).getD ((st++[t]).length-1) 0)⟩ else none:=rfl
 have e:((j:Int)).toNat=j:=by omega
 have e3:(decide (1≤(st++[t]).length)&&inB (j:Int) c.slots)=true:=by simp [inB];omega
 rw [e2,if_pos e3,e];simp
theorem uT {t a:Int}:aG c m ⟨17,a⟩ ⟨st++[t],sl⟩=some ⟨st,sl⟩:=by
 have e2:aG c m ⟨17,a⟩ ⟨st++[t],sl⟩=if 1≤(st++[t]).length then some ⟨(st++[t]).take ((st++[t]).length-1),sl⟩ else none:=rfl
 rw [e2,if_pos (by simp)];simp
theorem jm {a t r:Int} (h:jT (du a).toList t t=r) (h0:r≠0):aG c m ⟨7,a⟩ ⟨st++[t,t],sl⟩=some ⟨st++[r],sl⟩:=by
 have e2:aG c m ⟨7,a⟩ ⟨st++[t,t],sl⟩=sy a ⟨st++[t,t],sl⟩:=rfl;have e3:(st++[t,t]).getD ((st++[t,t]).length-2) 0=t:=by simp
 have e4:(st++[t,t]).getD ((st++[t,t]).length-1) 0=t:=by
  rw [List.getD_eq_getElem?_getD,List.getElem?_append_right (by simp)];simp
 rw [e2];unfold sy;dsimp only;rw [e3,e4,h,if_pos (by simp),if_neg h0];simp
theorem yc {a:Int} (h:du a=⟨#[45]⟩):aG c m ⟨8,a⟩ ⟨st++[1],sl⟩=some ⟨st++[1],sl⟩:=by
 have e2:aG c m ⟨8,a⟩ ⟨st++[1],sl⟩=lM a ⟨st++[1],sl⟩:=rfl;rw [e2];unfold lM;rw [if_pos h,fh];rfl
theorem wg {a:Int} (h:du a=⟨#[33]⟩):aG c m ⟨8,a⟩ ⟨st++[2],sl⟩=some ⟨st++[2],sl⟩:=by
 have e2:aG c m ⟨8,a⟩ ⟨st++[2],sl⟩=lM a ⟨st++[2],sl⟩:=rfl;rw [e2];unfold lM;rw [h,if_neg (by decide),if_pos rfl,fh];rfl
theorem mz:aG c m ⟨9,0⟩ ⟨st++[3],sl⟩=some ⟨st++[3],sl⟩:=by
 have e2:aG c m ⟨9,0⟩ ⟨st++[3],sl⟩=(dL [3] ⟨st++[3],sl⟩).map (eO 3):=rfl;rw [e2,fh];rfl
theorem mS:aG c m ⟨10,0⟩ ⟨st++[3],sl⟩=some ⟨st++[2],sl⟩:=by
 have e2:aG c m ⟨10,0⟩ ⟨st++[3],sl⟩=(dL [3] ⟨st++[3],sl⟩).map (eO 2):=rfl;rw [e2,fh];rfl
theorem mF:aG c m ⟨11,0⟩ ⟨st++[3],sl⟩=some ⟨st++[1],sl⟩:=by
 have e2:aG c m ⟨11,0⟩ ⟨st++[3],sl⟩=(dL [3] ⟨st++[3],sl⟩).map (eO 1):=rfl;rw [e2,fh];rfl
theorem mC:aG c m ⟨12,0⟩ ⟨st++[3,3],sl⟩=some ⟨st,sl⟩:=by
 have e2:aG c m ⟨12,0⟩ ⟨st++[3,3],sl⟩=dL [3,3] ⟨st++[3,3],sl⟩:=rfl;rw [e2,fh]
theorem mT:aG c m ⟨13,0⟩ ⟨st++[3],sl⟩=some ⟨st,sl⟩:=by
 have e2:aG c m ⟨13,0⟩ ⟨st++[3],sl⟩=dL [3] ⟨st++[3],sl⟩:=rfl;rw [e2,fh]
theorem ei {a:Int}:aG c m ⟨16,a⟩ ⟨st++[2],sl⟩=some ⟨st,sl⟩:=by
 have e2:aG c m ⟨16,a⟩ ⟨st++[2],sl⟩=dL [2] ⟨st++[2],sl⟩:=rfl;rw [e2,fh]
def ja (st:List Int) (t:Int):List Int:=if t=0 then st else st++[t]
theorem kJ {k:Nat} {ts:List Int} {r:Int} (h:k<m.codes.length) (hp:(m.codes.getD k default).params=ts) (hr:(m.codes.getD k default).result=r):aG c m ⟨14,k⟩ ⟨st++ts,sl⟩=some ⟨ja st r,sl⟩:=by
 have e2:aG c m ⟨14,k⟩ ⟨st++ts,sl⟩=nJ m k ⟨st++ts,sl⟩:=rfl;have e:inB (k:Int) m.codes.length=true:=by simp [inB];omega
 have e3:((k:Int)).toNat=k:=by omega
 rw [e2];unfold nJ;rw [if_pos e,e3,hp,hr,fh];unfold ja eO;dsimp only [Option.map];split<;>rfl
theorem oJ (h:c.result=0):aG c m ⟨18,0⟩ ⟨[],sl⟩=some ⟨[],sl⟩:=by
 have e2:aG c m ⟨18,0⟩ ⟨[],sl⟩=qD c ⟨[],sl⟩:=rfl;rw [e2];unfold qD;rw [if_pos h];rfl
theorem mV {t:Int} (h:c.result=t) (h0:t≠0):aG c m ⟨18,0⟩ ⟨[t],sl⟩=some ⟨[],sl⟩:=by
 have e2:aG c m ⟨18,0⟩ ⟨[t],sl⟩=qD c ⟨[t],sl⟩:=rfl;rw [e2];unfold qD;rw [if_neg (by rw [h];exact h0),h];have:=fh (sl:=sl) [] [t];rw [List.nil_append] at this;rw [this];rfl
end
structure ExtI (s s':CS):Prop where
 len:s.ins.length≤s'.ins.length
 same:∀i,i<s.ins.length→s'.ins.getD i default=s.ins.getD i default
theorem ExtI.refl (s:CS):ExtI s s:=⟨Nat.le_refl _,fun _ _=>rfl⟩
theorem ExtI.trans {a b d:CS} (h:ExtI a b) (g:ExtI b d):ExtI a d:=⟨Nat.le_trans h.len g.len,fun i hi=>(g.same i (Nat.lt_of_lt_of_le hi h.len)).trans (h.same i hi)⟩
theorem ExtI.add (o a:Int) (s:CS):ExtI s (au o a s):=⟨by simp [au],fun i hi=>by
  simp only [au,List.getD_eq_getElem?_getD]
  rw [List.getElem?_append_left hi]⟩
theorem ExtI.slot (s:CS):ExtI s (bw s):=⟨Nat.le_refl _,fun _ _=>rfl⟩
theorem ExtI.text (t:ByteArray) (s:CS):ExtI s (cR t s):=by
 unfold cR;split
 ·exact ExtI.refl s
 ·exact ⟨Nat.le_refl _,fun _ _=>rfl⟩
theorem ExtI.led {s0 s:CS} {k:Nat} (h:ExtI s0 s) (hk:s0.ins.length≤k):ExtI s0 (bW k s):=⟨by simp [bW];exact h.len,fun i hi=>by
  rw [←h.same i hi];simp only [bW,List.getD_eq_getElem?_getD]
  rw [List.getElem?_set_ne (by omega)]⟩
theorem iO {k:Nat} {s:CS} (h:k<s.ins.length):(bW k s).ins.getD k default=⟨(s.ins.getD k default).op,s.ins.length⟩:=by
 simp only [bW,List.getD_eq_getElem?_getD]
 rw [List.getElem?_set_self h];rfl
theorem df {k i:Nat} {s:CS} (h:i≠k):(bW k s).ins.getD i default=s.ins.getD i default:=by
 simp only [bW,List.getD_eq_getElem?_getD]
 rw [List.getElem?_set_ne (Ne.symm h)]
theorem fK (k:Nat) (s:CS):(bW k s).ins.length=s.ins.length:=by simp [bW]
theorem fX (o a:Int) (s:CS):(au o a s).ins.getD s.ins.length default=⟨o,a⟩:=by simp [au,List.getD_eq_getElem?_getD]
theorem bV (o a:Int) (s:CS):(au o a s).ins.length=s.ins.length+1:=by simp [au]
mutual
theorem gh (F:List Fn) (v:bf):∀(x:Ex) (s:CS),ExtI s (bB F v x s)
 | .mk op num text ks _,s=>by
  rw [bB];dsimp only;have h0:=ExtI.add 1 1 s;by_cases c0:((ms text.toList || orB text.toList)&&op==6)=true
  ·rw [if_pos c0]
   exact h0.trans (mH F v _ ks _)
  rw [if_neg c0];have h1:=h0.trans (fc F v ks (au 1 1 s));split
  ·exact h1.trans (ExtI.add _ _ _)
  split
  ·exact h1.trans (ExtI.add _ _ _)
  split
  ·exact (h1.trans (ExtI.text _ _)).trans (ExtI.add _ _ _)
  split
  ·exact h1.trans (ExtI.add _ _ _)
  split
  ·exact h1.trans (ExtI.add _ _ _)
  split
  ·exact h1.trans (ExtI.add _ _ _)
  split
  ·exact h1.trans (ExtI.add _ _ _)
  split
  ·exact h1.trans (ExtI.add _ _ _)
  split
  ·exact h1.trans (ExtI.add _ _ _)
  split
  ·exact h1.trans (ExtI.add _ _ _)
  ·exact h1
theorem fc (F:List Fn) (v:bf):∀(l:List Ex) (s:CS),ExtI s (aA F v l s)
 | [],s=>by rw [aA];exact ExtI.refl s
 | x :: l,s=>by
  rw [aA];exact (gh F v x s).trans (fc F v l _)
theorem mH (F:List Fn) (v:bf) (isAnd:Bool):∀(l:List Ex) (s:CS),ExtI s (cq F v isAnd l s)
 | [],s=>by rw [cq];exact ExtI.refl s
 | [_],s=>by rw [cq];exact ExtI.refl s
 | x :: y :: _,s=>by
  rw [cq];have h1:=gh F v x s;have hy:=fun s=>gh F v y s;have h2:=h1.trans (ExtI.add 16 0 (bB F v x s))
  cases isAnd with
  | true =>
   simp only [if_true]
   have h3:=h2.trans (hy _);have h4:=(h3.trans (ExtI.add 15 0 _)).led (k:=(bB F v x s).ins.length) h1.len;exact (h4.trans (ExtI.add _ _ _)).led h3.len
  | false =>
   simp only [Bool.false_eq_true,if_false]
   have h3:=h2.trans (ExtI.add 3 1 _);have h4:=(h3.trans (ExtI.add 15 0 _)).led (k:=(bB F v x s).ins.length) h1.len;exact (h4.trans (hy _)).led h3.len
end
def Fin' (c:Cd) (s s':CS):Prop:=∀i,s.ins.length≤i→i<s'.ins.length→c.ins.getD i default=s'.ins.getD i default
theorem Fin'.left {c:Cd} {s t u:CS} (h:Fin' c s u) (g:ExtI t u):Fin' c s t:=fun i h1 h2=>(h i h1 (Nat.lt_of_lt_of_le h2 g.len)).trans (g.same i h2)
theorem Fin'.right {c:Cd} {s t u:CS} (h:Fin' c s u) (g:s.ins.length≤t.ins.length):Fin' c t u:=fun i h1 h2=>h i (Nat.le_trans g h1) h2
theorem Fin'.at {c:Cd} {s t u:CS} {o a:Int} (h:Fin' c s u) (A:s.ins.length≤t.ins.length) (g:ExtI (au o a t) u):c.ins.getD t.ins.length default=⟨o,a⟩:=by
 have hl:t.ins.length<(au o a t).ins.length:=by rw [bV];omega
 rw [h _ A (Nat.lt_of_lt_of_le hl g.len),g.same _ hl,fX]
structure EnvM (m:Mdl) (F:List Fn) (G:aO):Prop where
 len:m.codes.length=F.length
 par:∀j,j<F.length→(m.codes.getD j default).params=(F.getD j default).params.map (·.2)
 res:∀j,j<F.length→(m.codes.getD j default).result=(F.getD j default).result
 typ:∀j,j<F.length→∀p,p∈(F.getD j default).params→1≤p.2∧p.2≤3
 rng:∀j,j<F.length→0≤(F.getD j default).result∧(F.getD j default).result≤3
 placed:o9 F G
def KnS (V:aR) (v:bf) (n:Int) (sl:Nat→Int):Prop:=∀x p,aI V x=some p→(1≤p.1∧p.1≤3)∧∃j:Nat,aI v x=some (j:Int)∧(j:Int)<n∧sl j=p.1
theorem EnvM.fn {m:Mdl} {F:List Fn} {G:aO} (h:EnvM m F G) {x:ByteArray} {fn:Fn} (hx:aI G x=some fn):ba F x<m.codes.length∧(m.codes.getD (ba F x) default).params=fn.params.map (·.2)∧(m.codes.getD (ba F x) default).result=fn.result∧(∀p,p∈fn.params→1≤p.2∧p.2≤3)∧0≤fn.result∧fn.result≤3:=by
 obtain ⟨h1,h2⟩:=h.placed x fn hx;have a1:=h.par _ h1;have a2:=h.res _ h1;have a3:=h.typ _ h1;have a4:=h.rng _ h1;rw [h2] at a1 a2 a3 a4;exact ⟨by rw [h.len];exact h1,a1,a2,a3,a4⟩
section
variable {m:Mdl} {F:List Fn} {G:aO} {V:aR}
mutual
theorem pY (h:EnvM m F G) (hv:∀x p,aI V x=some p→1≤p.1∧p.1≤3):∀(x:Ex) (t:Int),TyE G V x t→0≤t∧t≤3
 | .mk op num text ks _,t,ht=>by
  rw [TyE] at ht;obtain ⟨ts,hr,hk⟩:=ht;rcases hr with ⟨_,_,rfl⟩ | ⟨_,_,rfl⟩ | ⟨_,_,rfl⟩ | ⟨_,_,x,hx⟩ | ⟨_,fn,hf,_,rfl⟩ | ⟨_,a,rfl,hm⟩ | ⟨_,⟨_,_,rfl⟩ | ⟨_,_,rfl⟩⟩ | ⟨_,_,rfl⟩ | ⟨_,_,rfl⟩ | ⟨_,_,rfl⟩
  ·omega
  ·omega
  ·omega
  ·have:=hv _ _ hx
   dsimp only at this;omega
  ·exact (h.fn hf).2.2.2.2
  ·have ha:=kH h hv ks _ hk a (by simp)
   rcases hm with ⟨_,_,rfl⟩ | ⟨_,_,rfl⟩ | ⟨_,_,rfl⟩ | ⟨_,_,_,rfl⟩ | ⟨_,_,rfl⟩
   ·omega
   ·omega
   ·omega
   ·exact ha
   ·omega
  ·omega
  ·omega
  ·omega
  ·omega
  ·omega
theorem kH (h:EnvM m F G) (hv:∀x p,aI V x=some p→1≤p.1∧p.1≤3):∀(l:List Ex) (ts:List Int),TyEs G V l ts→∀t,t∈ts→0≤t∧t≤3
 | [],ts,ht=>fun t hm=>by rw [TyEs] at ht;rw [ht] at hm;cases hm
 | x :: l,ts,ht=>fun t hm=>by
  rw [TyEs] at ht;obtain ⟨t0,r,rfl,h1,h2⟩:=ht;rcases List.mem_cons.1 hm with rfl | hm
  ·exact pY h hv x _ h1
  ·exact kH h hv l r h2 t hm
end
end
theorem uH {s:List UInt8} {a t:Int} (h:zK s a t) (hn:¬(s=[38,38]∨s=[124,124])) (ha:0≤a∧a≤3):jT (du (cP s)).toList a a=t∧t≠0:=by
 have hc:a=0∨a=1∨a=2∨a=3:=by omega
 rcases h with ⟨h,rfl,rfl⟩ | ⟨h,rfl,rfl⟩ | ⟨h,_,_⟩ | ⟨rfl,h1,h2,rfl⟩ | ⟨h,h1,rfl⟩
 ·rcases h with rfl | rfl | rfl | rfl<;>exact ⟨by kernel_rfl,by decide⟩
 ·rcases h with rfl | rfl | rfl | rfl<;>exact ⟨by kernel_rfl,by decide⟩
 ·exact absurd h hn
 ·rcases hc with rfl | rfl | rfl | rfl
  ·exact absurd rfl h1
  ·exact ⟨by kernel_rfl,by decide⟩
  ·exact absurd rfl h2
  ·exact ⟨by kernel_rfl,by decide⟩
 ·rcases hc with rfl | rfl | rfl | rfl
  ·exact absurd rfl h1
  all_goals rcases h with rfl | rfl<;>exact ⟨by kernel_rfl,by decide⟩
theorem xK:du (cP [45])=⟨#[45]⟩:=by kernel_rfl
theorem wl:du (cP [33])=⟨#[33]⟩:=by kernel_rfl
end
section
open Go.RowKit
theorem dJ {o a:Int} {s:CS} {i:Nat} (h:i<s.ins.length):(au o a s).ins.getD i default=s.ins.getD i default:=(ExtI.add o a s).same i h
theorem pO (t:ByteArray) (s:CS):(cR t s).ins.length=s.ins.length:=by unfold cR;split<;>rfl
theorem pW:∀(l:List ByteArray) (t:ByteArray),lL l t=true→dR l t<l.length
 | [],t,h=>by cases h
 | x :: l,t,h=>by
  rw [lL] at h;rw [dR];split at h
  ·rename_i e
   rw [if_pos e];simp
  ·rename_i e
   rw [if_neg e,List.length_cons];have:=pW l t h;omega
theorem qB:∀(l:List ByteArray) (t:ByteArray),dR (l++[t]) t<(l++[t]).length
 | [],t=>by simp [dR]
 | x :: l,t=>by
  rw [List.cons_append,dR,List.length_cons];split
  ·omega
  ·have:=qB l t
   omega
theorem yX (t:ByteArray) (s:CS):dR (cR t s).texts t<(cR t s).texts.length:=by
 unfold cR;split
 ·rename_i h
  exact pW _ _ h
 ·exact qB _ _
section
variable {c:Cd} {m:Mdl} {F:List Fn} {G:aO} {V:aR} {v:bf} {n:Int} {sl:Nat→Int}
theorem bS {o a:Int} {s0 s u:CS} {P q:Sta} (hF:Fin' c s0 u) (hs:s0.ins.length≤s.ins.length) (hx:ExtI (au o a s) u) (hd:aG c m ⟨o,a⟩ P=some q) (hl:q.st.length≤2100) (ho:o≠18∧o≠15∧o≠16):Flow c m s.ins.length (au o a s).ins.length P (some q):=by
 rw [bV];exact Flow.one (hF.at hs hx) hd hl ho
theorem sS {ks:List Ex} {ts:List Int} {s:CS} {o a:Int} {st:List Int} {r:Sta} (B:Flow c m (au 1 1 s).ins.length (aA F v ks (au 1 1 s)).ins.length ⟨st,sl⟩ (some ⟨st++ts,sl⟩)) (A:Fin' c s (au o a (aA F v ks (au 1 1 s))))
    (hd:aG c m ⟨o,a⟩ ⟨st++ts,sl⟩=some r) (h1:st.length≤2100) (h2:r.st.length≤2100) (ho:o≠18∧o≠15∧o≠16):Flow c m s.ins.length (au o a (aA F v ks (au 1 1 s))).ins.length ⟨st,sl⟩ (some r):=by
 have e1:=fc F v ks (au 1 1 s);have e0:=ExtI.add 1 1 s;have e2:=ExtI.add o a (aA F v ks (au 1 1 s));have f0:=bS (c:=c) (m:=m) (s:=s) A (Nat.le_refl _) (e1.trans e2) (gJ (c:=c) (m:=m) (st:=st) (sl:=sl)) h1 (by decide);have f2:=bS (c:=c) (m:=m) (s:=aA F v ks (au 1 1 s)) A (e0.trans e1).len (ExtI.refl _) hd h2 ho;exact (f0.seq B e0.len e1.len).seq f2 (e0.trans e1).len e2.len
mutual
theorem fN (hE:EnvM m F G) (hV:KnS V v n sl) (hn:n≤c.slots):∀(x:Ex) (t:Int) (s:CS) (st:List Int),TyE G V x t→Fin' c s (bB F v x s)→(bB F v x s).texts.length≤m.texts.length→st.length+szE x≤2100 →
    Flow c m s.ins.length (bB F v x s).ins.length ⟨st,sl⟩ (some ⟨ja st t,sl⟩)
 | .mk op num text ks pos,t,s,st=>by
  intro ht A B H;rw [TyE] at ht;obtain ⟨ts,hr,hk⟩:=ht;rw [szE] at H;have E:=fun t ht=>kH hE (fun x p hx=>(hV x p hx).1) ks ts hk t ht;have O:=fun (s:CS) (h0:∀t,t∈ts→t≠0) (h1:Fin' c s (aA F v ks s)) (h2:(aA F v ks s).texts.length≤m.texts.length)=>jF hE hV hn ks ts s st hk h0 h1 h2 (by omega);have M:=hk.len;have push:∀t:Int,t≠0→ja st t=st++[t]:=fun t h=>if_neg h;have L:ts=[]→ks=[]:=fun h=>List.eq_nil_of_length_eq_zero (by rw [M,h];rfl)
  have go:∀{o a:Int} {r:List Int},bB F v (.mk op num text ks pos) s=au o a (aA F v ks (au 1 1 s))→(∀t,t∈ts→t≠0)→aG c m ⟨o,a⟩ ⟨st++ts,sl⟩=some ⟨r,sl⟩→r.length≤2100→o≠18∧o≠15∧o≠16 →
      Flow c m s.ins.length (bB F v (.mk op num text ks pos) s).ins.length ⟨st,sl⟩ (some ⟨r,sl⟩):=fun {o a r} e h0 hd hl ho=>by
   rw [e] at A B ⊢;exact sS (O _ h0 ((A.left (ExtI.add o a _)).right (ExtI.add 1 1 s).len) B) A hd (by omega) hl ho
  rcases hr with ⟨rfl,rfl,rfl⟩ | ⟨rfl,rfl,rfl⟩ | ⟨rfl,rfl,rfl⟩ | ⟨rfl,rfl,y,hy⟩ | ⟨rfl,fn,hf,rfl,rfl⟩ | ⟨rfl,a,rfl,hm⟩ | ⟨rfl,⟨hx,rfl,rfl⟩ | ⟨hx,rfl,rfl⟩⟩ | ⟨rfl,rfl,rfl⟩ | ⟨rfl,rfl,rfl⟩ | ⟨rfl,rfl,rfl⟩
  ·rw [push 1 (by decide)]
   exact go (o:=2) (a:=num) (by rw [bB];simp) (fun t h=>by cases h) (by rw [List.append_nil];exact qK num) (by simp;omega) (by decide)
  ·rw [push 2 (by decide)]
   refine go (o:=3) (a:=lZ num) (by rw [bB];simp) (fun t h=>by cases h) ?_ (by simp;omega) (by decide);rw [List.append_nil];refine kT ?_;unfold lZ;split
   ·exact .inr rfl
   ·exact .inl rfl
  ·rw [push 3 (by decide)]
   obtain rfl:=L rfl;have e:bB F v (.mk 3 num text [] pos) s=au 4 (dR (cR text (au 1 1 s)).texts text) (cR text (au 1 1 s)):=by rw [bB];simp [aA]
   rw [e] at A B ⊢;have x1:=ExtI.text text (au 1 1 s);have x2:=ExtI.add 4 (dR (cR text (au 1 1 s)).texts text) (cR text (au 1 1 s));have f0:=bS (c:=c) (m:=m) (s:=s) A (Nat.le_refl _) (x1.trans x2) (gJ (c:=c) (m:=m) (st:=st) (sl:=sl)) (by dsimp only;omega) (by decide);have P:dR (cR text (au 1 1 s)).texts text<m.texts.length:=Nat.lt_of_lt_of_le (yX _ _) B;have f1:=bS (c:=c) (m:=m) (s:=cR text (au 1 1 s)) A ((ExtI.add 1 1 s).trans x1).len (ExtI.refl _) (uN (c:=c) (st:=st) (sl:=sl) P) (by simp;omega) (by decide);have e2:(au 1 1 s).ins.length=(cR text (au 1 1 s)).ins.length:=(pO _ _).symm;rw [e2] at f0;exact f0.seq f1 (by rw [pO,bV];omega) x2.len
  ·obtain ⟨⟨g1,g2⟩,j,g3,g4,g5⟩:=hV _ _ hy
   dsimp only at g1 g2 g5;have N:t≠0:=by omega
   rw [push t N];refine go (o:=5) (a:=(j:Int)) (by rw [bB];simp [g3]) (fun t h=>by cases h) ?_ (by simp;omega) (by decide);rw [List.append_nil];exact jw (by omega) g5 N
  ·obtain ⟨g1,g2,g3,g4,g5⟩:=hE.fn hf
   refine go (o:=14) (a:=(ba F text:Int)) (by rw [bB];simp) (fun t h=>?_) (kJ g1 g2 g3) ?_ (by decide)
   ·obtain ⟨p,hp,rfl⟩:=List.mem_map.1 h
    have:=g4 p hp;omega
   ·unfold ja
    split
    ·omega
    ·simp;omega
  ·have ha:=E a (by simp)
   by_cases hs:text.toList=[38,38]∨text.toList=[124,124]
   ·obtain ⟨rfl,rfl⟩:a=2∧t=2:=by
      rcases hm with ⟨h,_,_⟩ | ⟨h,_,_⟩ | ⟨_,h1,h2⟩ | ⟨h,_⟩ | ⟨h,_⟩
      ·rcases hs with q | q<;>rw [q] at h<;>simp at h
      ·rcases hs with q | q<;>rw [q] at h<;>simp at h
      ·exact ⟨h1,h2⟩
      ·rcases hs with q | q<;>rw [q] at h<;>simp at h
      ·rcases hs with q | q<;>rw [q] at h<;>simp at h
    have e:bB F v (.mk 6 num text ks pos) s=cq F v (ms text.toList) ks (au 1 1 s):=by
     rw [bB];dsimp only;rw [if_pos (by rcases hs with q | q<;>rw [q]<;>rfl)]
    rw [push 2 (by decide),e];rw [e] at A B;have x1:=mH F v (ms text.toList) ks (au 1 1 s);have f0:=bS (c:=c) (m:=m) (s:=s) A (Nat.le_refl _) x1 (gJ (c:=c) (m:=m) (st:=st) (sl:=sl)) (by dsimp only;omega) (by decide);exact f0.seq (rD hE hV hn (ms text.toList) ks (au 1 1 s) st hk (A.right (ExtI.add 1 1 s).len) B (by omega)) (ExtI.add 1 1 s).len x1.len
   ·obtain ⟨h1,h2⟩:=uH hm hs ha
    rw [push t h2]
    have Q:a≠0:=fun h=>by
     subst h;rcases hm with ⟨_,h,_⟩ | ⟨_,h,_⟩ | ⟨_,h,_⟩ | ⟨_,h,_⟩ | ⟨_,h,_⟩
     ·cases h
     ·cases h
     ·cases h
     ·exact h rfl
     ·exact h rfl
    refine go (o:=7) (a:=cP text.toList) ?_ (fun t h=>by simp at h;rw [h];exact Q) (jm h1 h2) (by simp;omega) (by decide);rw [bB]
    have hq:(ms text.toList || orB text.toList)=false:=by
     unfold ms orB;simp only [Bool.or_eq_false_iff,beq_eq_false_iff_ne]
     exact ⟨fun q=>hs (.inl q),fun q=>hs (.inr q)⟩
    simp [hq]
  ·rw [push 1 (by decide)]
   exact go (o:=8) (a:=cP text.toList) (by rw [bB];simp) (fun t h=>by simp at h;rw [h];decide) (yc (by rw [hx];exact xK)) (by simp;omega) (by decide)
  ·rw [push 2 (by decide)]
   exact go (o:=8) (a:=cP text.toList) (by rw [bB];simp) (fun t h=>by simp at h;rw [h];decide) (wg (by rw [hx];exact wl)) (by simp;omega) (by decide)
  ·rw [push 3 (by decide)]
   exact go (o:=9) (a:=0) (by rw [bB];simp) (fun t h=>by simp at h;rw [h];decide) mz (by simp;omega) (by decide)
  ·rw [push 2 (by decide)]
   exact go (o:=10) (a:=0) (by rw [bB];simp) (fun t h=>by simp at h;rw [h];decide) mS (by simp;omega) (by decide)
  ·rw [push 1 (by decide)]
   exact go (o:=11) (a:=0) (by rw [bB];simp) (fun t h=>by simp at h;rw [h];decide) mF (by simp;omega) (by decide)
theorem jF (hE:EnvM m F G) (hV:KnS V v n sl) (hn:n≤c.slots):∀(l:List Ex) (ts:List Int) (s:CS) (st:List Int),TyEs G V l ts→(∀t,t∈ts→t≠0)→Fin' c s (aA F v l s)→(aA F v l s).texts.length≤m.texts.length→st.length+bP l≤2100 →
    Flow c m s.ins.length (aA F v l s).ins.length ⟨st,sl⟩ (some ⟨st++ts,sl⟩)
 | [],ts,s,st=>by
  intro ht _ _ _ _;rw [TyEs] at ht;rw [aA,ht,List.append_nil];exact Flow.nil (LeS.refl _)
 | x :: l,ts,s,st=>by
  intro ht h0 A B H;rw [TyEs] at ht;obtain ⟨t,r,rfl,h1,h2⟩:=ht;rw [aA] at A B ⊢;rw [bP] at H;have x1:=gh F v x s;have x2:=fc F v l (bB F v x s);have ht:=cL F v l (bB F v x s);have f1:=fN hE hV hn x t s st h1 (A.left x2) (Nat.le_trans ht.2.2.1 B) (by omega);have hp:ja st t=st++[t]:=if_neg (h0 t (List.mem_cons_self ..));rw [hp] at f1;have:=pz x;have f2:=jF hE hV hn l r (bB F v x s) (st++[t]) h2 (fun t ht=>h0 t (List.mem_cons_of_mem _ ht)) (A.right x1.len) B (by simp;omega);rw [List.append_assoc] at f2;exact f1.seq f2 x1.len x2.len
theorem rD (hE:EnvM m F G) (hV:KnS V v n sl) (hn:n≤c.slots) (isAnd:Bool):∀(l:List Ex) (s:CS) (st:List Int),TyEs G V l [2,2]→Fin' c s (cq F v isAnd l s)→(cq F v isAnd l s).texts.length≤m.texts.length→st.length+bP l≤2100 →
    Flow c m s.ins.length (cq F v isAnd l s).ins.length ⟨st,sl⟩ (some ⟨st++[2],sl⟩)
 | [],s,st=>fun h _ _ _=>by have:=h.len;simp at this
 | [_],s,st=>fun h _ _ _=>by have:=h.len;simp at this
 | x :: y :: l,s,st=>by
  intro ht A B H;rw [TyEs] at ht;obtain ⟨t,r,e,h1,h2⟩:=ht;injection e with e1 e2
  subst e1 e2;rw [TyEs] at h2;obtain ⟨t,r,e,h2,_⟩:=h2;injection e with e1 e2
  subst e1;rw [bP,bP] at H;have S:=pz x;have R:=pz y;have p2:ja st 2=st++[2]:=rfl;rw [cq] at A B ⊢;have x1:=gh F v x s
  cases isAnd with
  | true =>
   simp only [if_true] at A B ⊢
   have x2:=ExtI.add 16 0 (bB F v x s);have x3:=gh F v y (au 16 0 (bB F v x s));generalize D:bB F v x s=s1 at *;generalize K:bB F v y (au 16 0 s1)=s3 at *;have l2:=bV 16 0 s1;have l3:(au 16 0 s1).ins.length≤s3.ins.length:=x3.len;have l4:=bV 15 0 s3;have l5:=fK s1.ins.length (au 15 0 s3);have l6:=bV 3 0 (bW s1.ins.length (au 15 0 s3));have l7:=fK s3.ins.length (au 3 0 (bW s1.ins.length (au 15 0 s3)));have l1:=x1.len
   have c1:Fin' c s s1:=fun i q1 q2=>by
    rw [A i q1 (by omega),df (by omega),dJ (by omega),df (by omega),dJ (by omega),x3.same i (by omega),dJ q2]
   have c2:Fin' c (au 16 0 s1) s3:=fun i q1 q2=>by
    rw [A i (by omega) (by omega),df (by omega),dJ (by omega),df (by omega),dJ q2]
   have ip:c.ins.getD s1.ins.length default=⟨16,((s3.ins.length+1:Nat):Int)⟩:=by
    rw [A _ (by omega) (by omega),df (by omega),dJ (by omega),iO (by omega),dJ (by omega),x3.same _ (by omega),fX,l4]
   have ib:c.ins.getD s3.ins.length default=⟨15,((s3.ins.length+2:Nat):Int)⟩:=by
    rw [A _ (by omega) (by omega),iO (by omega),dJ (by omega),df (by omega),fX,l6,l5,l4]
   have ic:c.ins.getD (s3.ins.length+1) default=⟨3,0⟩:=by
    have e:s3.ins.length+1=(bW s1.ins.length (au 15 0 s3)).ins.length:=by omega
    rw [A _ (by omega) (by omega),df (by omega),e,fX]
   have tx:=cL F v [y] (au 16 0 s1);rw [aA,aA,K] at tx;have C:s3.texts.length≤m.texts.length:=B;have f1:=fN hE hV hn x 2 s st h1 (by rw [D];exact c1) (by rw [D];exact Nat.le_trans tx.2.2.1 C) (by omega);have f2:=fN hE hV hn y 2 (au 16 0 s1) st h2 (by rw [K];exact c2) (by rw [K];exact C) (by omega);rw [D,p2] at f1;rw [K,p2,l2] at f2;have f3:Flow c m (s3.ins.length+1) (s3.ins.length+2) ⟨st,sl⟩ (some ⟨st++[2],sl⟩):=Flow.one ic (kT (.inl rfl)) (by simp;omega) (by decide);have e9:(bW s3.ins.length (au 3 0 (bW s1.ins.length (au 15 0 s3)))).ins.length=s3.ins.length+2:=by omega
   rw [e9];refine f1.seq (Flow.fork ip rfl rfl (ei (st:=st) (sl:=sl)) (by dsimp only;omega) (by omega) (by omega) (by omega) f2 f3 fun r hr=>?_) l1 (by omega);injection hr with hr
   subst hr;exact ⟨by omega,by rw [ib],by rw [ib],by simp;omega,_,rfl,LeS.refl _⟩
  | false =>
   simp only [Bool.false_eq_true,if_false] at A B ⊢
   generalize D:bB F v x s=s1 at *;have l2:=bV 16 0 s1;have l3:=bV 3 1 (au 16 0 s1);have l4:=bV 15 0 (au 3 1 (au 16 0 s1));have l5:=fK s1.ins.length (au 15 0 (au 3 1 (au 16 0 s1)));have l1:=x1.len;have x6:=gh F v y (bW s1.ins.length (au 15 0 (au 3 1 (au 16 0 s1))));generalize I:bW s1.ins.length (au 15 0 (au 3 1 (au 16 0 s1)))=s5 at *;generalize J:bB F v y s5=s6 at *;have l6:=x6.len;have l7:=fK (au 3 1 (au 16 0 s1)).ins.length s6
   have c1:Fin' c s s1:=fun i q1 q2=>by
    rw [A i q1 (by omega),df (by omega),x6.same i (by omega),←I,df (by omega),dJ (by omega),dJ (by omega),dJ q2]
   have c2:Fin' c s5 s6:=fun i q1 q2=>by
    rw [A i (by omega) (by omega),df (by omega)]
   have ip:c.ins.getD s1.ins.length default=⟨16,((s1.ins.length+3:Nat):Int)⟩:=by
    rw [A _ (by omega) (by omega),df (by omega),x6.same _ (by omega),←I,iO (by omega),dJ (by omega),dJ (by omega),fX,l4,l3,l2]
   have ia:c.ins.getD (s1.ins.length+1) default=⟨3,1⟩:=by
    rw [A _ (by omega) (by omega),df (by omega),x6.same _ (by omega),←I,df (by omega),dJ (by omega),←l2,fX]
   have ib:c.ins.getD (s1.ins.length+2) default=⟨15,(s6.ins.length:Int)⟩:=by
    have e:s1.ins.length+2=(au 3 1 (au 16 0 s1)).ins.length:=by omega
    rw [A _ (by omega) (by omega),e,iO (by omega),x6.same _ (by omega),←I,df (by omega),fX]
   have C:s6.texts.length≤m.texts.length:=B;have tx:=cL F v [y] s5;rw [aA,aA,J] at tx;have tx5:s1.texts.length≤s5.texts.length:=by rw [←I];exact Nat.le_refl _
   have f1:=fN hE hV hn x 2 s st h1 (by rw [D];exact c1) (by rw [D];exact Nat.le_trans tx5 (Nat.le_trans tx.2.2.1 C)) (by omega);have f2:=fN hE hV hn y 2 s5 st h2 (by rw [J];exact c2) (by rw [J];exact C) (by omega);rw [D,p2] at f1;rw [J,p2] at f2;have e5:s5.ins.length=s1.ins.length+3:=by omega
   rw [e5] at f2;have f3:Flow c m (s1.ins.length+1) (s1.ins.length+2) ⟨st,sl⟩ (some ⟨st++[2],sl⟩):=Flow.one ia (kT (.inr rfl)) (by simp;omega) (by decide);rw [l7];refine f1.seq (Flow.fork ip rfl rfl (ei (st:=st) (sl:=sl)) (by dsimp only;omega) (by omega) (by omega) (by omega) f3 f2 fun r hr=>?_) l1 (by omega);injection hr with hr
   subst hr;exact ⟨by omega,by rw [ib],by rw [ib],by simp;omega,_,rfl,LeS.refl _⟩
end
end
end
end Go.Proofs.YtmlgbkomdhcaoaaGreatDoor
