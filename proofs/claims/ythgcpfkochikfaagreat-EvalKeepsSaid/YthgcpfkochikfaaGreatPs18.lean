/-
  EvalSigns: part 18 of its proof: see the last text.
-/
import Derived.Test.YthgcpfkochikfaaGreatPs17
import Derived.Test.YthgcpfkochikfaaGreatPs16
import Derived.Deep.LoopGhost
set_option maxRecDepth 100000
set_option maxHeartbeats 16000000
namespace Go.Proofs.YthgcpfkochikfaaGreat
section
open Go.RowKit
def Strict {α:Type} (p:Par α):Prop:=∀l x r,p l=.ok (x,r)→r.length<l.length
def Weak {α:Type} (p:Par α):Prop:=∀l x r,p l=.ok (x,r)→r.length≤l.length
theorem Strict.weak {α:Type} {p:Par α} (h:Strict p):Weak p:=fun l x r e=>Nat.le_of_lt (h l x r e)
theorem aK {α β:Type} {p:Par α} {f:α→Par β} {l r:List Tk} {y:β} (h:p.bind f l=.ok (y,r)):∃x q,p l=.ok (x,q)∧f x q=.ok (y,r):=by
 unfold Par.bind at h
 cases hp:p l with
 | error e=>rw [hp] at h;cases h
 | ok z =>
  obtain ⟨x,q⟩:=z;rw [hp] at h;exact ⟨x,q,rfl,h⟩
theorem Strict.bind {α β:Type} {p:Par α} {f:α→Par β} (h:Strict p) (hf:∀x,Weak (f x)):Strict (p.bind f):=fun l y r e=>by
 obtain ⟨x,q,h1,h2⟩:=aK e;exact Nat.lt_of_le_of_lt (hf x q y r h2) (h l x q h1)
theorem Weak.bind {α β:Type} {p:Par α} {f:α→Par β} (h:Weak p) (hf:∀x,Weak (f x)):Weak (p.bind f):=fun l y r e=>by
 obtain ⟨x,q,h1,h2⟩:=aK e;exact Nat.le_trans (hf x q y r h2) (h l x q h1)
theorem dj {α:Type} (x:α):Weak (okP x):=fun l y r e=>by cases e;exact Nat.le_refl _
theorem aT (en:Int) (s:ByteArray):Strict (bq en s):=fun l x r e=>by have:=pY e;omega
theorem qp (en k:Int):Strict (eD en k):=fun l x r e=>by
 unfold eD at e
 cases l with
 | nil=>cases e
 | cons t q =>
  dsimp only at e;split at e
  ·cases e;exact Nat.lt_succ_self _
  ·cases e
theorem dG (en:Int):Strict (ff en):=(qp en 1).bind fun _=>dj _
theorem bE {l:List Tk} {s:ByteArray} (h:atS l 0 s=true):l.tail.length<l.length:=by have:=tT h;omega
theorem nY (en:Int):Strict (lr en):=fun l x r e=>by
 unfold lr at e;split at e
 ·rename_i h;cases e;exact bE h
 ·split at e
  ·rename_i h;cases e;exact bE h
  ·exact (Strict.bind (aT en gZ) fun _=>dj (3:Int)) l x r e
theorem i9 {α:Type} (en:Int) (one:Par α) (h:Strict one):∀(f:Nat) (first:Bool) (A:List α),Strict (eL en one f first A)
 | 0,_,_=>fun l x r e=>by cases e
 | f+1,first,A=>fun l x r e=>by
  rw [iD] at e;split at e
  ·rename_i hq;cases e;exact bE hq
  ·obtain ⟨_,q,h1,h2⟩:=aK e
   obtain ⟨y,q2,h3,h4⟩:=aK h2;have g2:=h q y q2 h3;have g3:=i9 en one h f false (A++[y]) q2 x r h4
   have g1:q.length≤l.length:=by
    cases first
    ·have:=pY h1;omega
    ·cases h1;exact Nat.le_refl _
   omega
theorem oU (en:Int) (n:Nat) (N:Par Ex) (h:Weak N):∀(f:Nat) (x:Ex),Weak (ej en n N f x)
 | 0,x=>dj x
 | f+1,x=>fun l y r e=>by
  rw [jY] at e;split at e
  ·cases e;exact Nat.le_refl _
  ·rename_i s hs
   have hl:=bE (ju (bO n) 0 hs).choose_spec.2.2;obtain ⟨z,q,h1,h2⟩:=aK e;have g1:=h _ _ _ h1;split at h2
   ·cases h2;omega
   ·have:=oU en n N h f _ q y r h2;omega
theorem dc (en:Int) (one:Par Ex) (h:Strict one):∀j,Strict (dl en one j)
 | 0=>h
 | j+1=>fun l y r e=>by
  have hj:=dc en one h j;obtain ⟨x,q,h1,h2⟩:=aK (show ((dl en one j).bind fun x r=>ej en (4-j) (dl en one j) (r.length+1) x r) l=_ from e);have:=hj _ _ _ h1;have:=oU en (4-j) _ hj.weak _ _ _ _ _ h2;omega
theorem fG (en:Int) (E:Par Ex) (h:Strict E):Strict (dR en E):=
 (aT en cU).bind fun _=>h.weak.bind fun _=>(aT en cX).weak.bind fun _=>dj _
theorem kM (en:Int) (E:Par Ex) (h:Strict E):Strict (iC en E):=fun l x r e=>by
 unfold iC at e;split at e
 ·rename_i hq;cases e;exact bE hq
 ·split at e
  ·rename_i hq;cases e;exact bE hq
  ·split at e
   ·exact fG en E h l x r e
   ·split at e
    ·rename_i hq;exact Nat.lt_trans (((fG en E h).bind fun _=>dj _) _ _ _ e) (bE hq)
    ·split at e
     ·rename_i hq;exact Nat.lt_trans (((fG en E h).bind fun _=>dj _) _ _ _ e) (bE hq)
     ·exact ((aT en Ak).bind fun _=>((fG en E h).weak.bind fun _=>dj _)) l x r e
theorem mw (en:Int) (E:Par Ex) (h:Strict E):Strict (dQ en E):=fun l x r e=>by
 unfold dQ at e
 cases l with
 | nil=>exact kM en E h _ _ _ e
 | cons t q =>
  dsimp only at e;split at e
  ·cases e;exact Nat.lt_succ_self _
  ·split at e
   ·cases e;exact Nat.lt_succ_self _
   ·split at e
    ·split at e
     ·rename_i hq
      have h1:=((i9 en E h (q.length+1) true []).bind fun k=>dj (Ex.mk 5 0 t.text k t.pos)) _ _ _ e;have:=bE hq;simp only [List.length_cons]
      omega
     ·cases e;exact Nat.lt_succ_self _
    ·exact kM en E h _ _ _ e
theorem eA (en:Int):∀k,Strict (fX en k)
 | 0=>fun l x r e=>by cases e
 | k+1=>fun l x r e=>by
  have ih:=eA en k;unfold fX at e;split at e
  ·rename_i hq;exact Nat.lt_trans ((ih.bind fun _=>dj _) _ _ _ e) (bE hq)
  ·split at e
   ·rename_i hq;exact Nat.lt_trans ((ih.bind fun _=>dj _) _ _ _ e) (bE hq)
   ·exact mw en _ (dc en _ ih 5) l x r e
theorem iQ (en:Int) (k:Nat):Strict (jg en k):=dc en _ (eA en k) 5
theorem rU (rb:Nat) (en:Int):∀(k:Nat) (d:Int),d+k=33→0≤d→(1≤k→cw rb en 193 #[.pointer (some ⟨rb,0,none⟩),.int .i64 d] (fX en k))∧cw rb en 129 #[.pointer (some ⟨rb,0,none⟩),.int .i64 d] (jg en k)
 | 0,d,hd,h0=>⟨fun h=>absurd h (by omega),Ax rb d (by omega) en _ (rL en (fX en 0) _ (fun _=>rfl) 5)⟩
 | k+1,d,hd,h0=>by
  have ih:=rU rb en k (d+1) (by omega) (by omega)
  have h1:cw rb en 193 #[.pointer (some ⟨rb,0,none⟩),.int .i64 d] (fX en (k+1)):=by
   have h:=zR rb d h0 (by omega) en (fX en k) (dQ en (jg en k)) (fun A=>ih.1 (by omega)) (fun A l=>by
     obtain rfl:k=0:=by omega
     rfl) (rq rb d h0 (by omega) en (jg en k) ih.2 (iQ en k))
   have e:(fun l=>iM en (fX en k) (dQ en (jg en k)) l [fT,nh])=fX en (k+1):=by
    funext l
    rw [vJ];rfl
   rw [←e];exact h
  have h5:=sy rb d en _ h1;have s0:Strict (dl en (fX en (k+1)) 0):=dc en _ (eA en (k+1)) 0;have l4:=gP rb 4 (by omega) d en (dl en (fX en (k+1)) 0) h5 s0.weak;have l3:=gP rb 3 (by omega) d en (dl en (fX en (k+1)) 1) l4 (dc en _ (eA en (k+1)) 1).weak;have l2:=gP rb 2 (by omega) d en (dl en (fX en (k+1)) 2) l3 (dc en _ (eA en (k+1)) 2).weak;have l1:=gP rb 1 (by omega) d en (dl en (fX en (k+1)) 3) l2 (dc en _ (eA en (k+1)) 3).weak;have l0:=gP rb 0 (by omega) d en (dl en (fX en (k+1)) 4) l1 (dc en _ (eA en (k+1)) 4).weak;exact ⟨fun _=>h1,Be rb d (by omega) en (jg en (k+1)) l0⟩
end
section
open Go.RowKit
theorem Ca:∃i,Tryz.prog.info? 134=some i∧i.zero=some (.agg #[.int .i64 0,.string ⟨#[]⟩,.slice none 0 0,.slice none 0 0,.slice none 0 0,.int .i64 0])∧i.size=6∧i.bytes=104:=by
 have h:(Tryz.prog.info? 134).map (fun i=>(i.zero,i.size,i.bytes))=some (some (.agg #[.int .i64 0,.string ⟨#[]⟩,.slice none 0 0,.slice none 0 0,.slice none 0 0,.int .i64 0]),6,104):=by kernel_rfl
 obtain ⟨i,h1,h2⟩:=Option.map_eq_some_iff.1 h;simp only [Prod.mk.injEq] at h2
 exact ⟨i,h1,h2.1,h2.2.1,h2.2.2⟩
structure BlW (w:World) (rb:Nat) (en:Int) (W:World) (L:List Tk) (v:Value) (acc:List St):Prop where
 rd:RdAt W rb L en
 gr:GrowOf stK w.heap.size 134 6 W v acc
 on:On rb w W
 lt:rb<w.heap.size
theorem BlW.call {w W W':World} {rb:Nat} {en:Int} {L L':List Tk} {v:Value} {A:List St} (h:BlW w rb en W L v A) (ho:On rb W W') (hr:RdAt W' rb L' en):BlW w rb en W' L' v A:=
 ⟨hr,h.gr.keep (Stays.of_on ho h.lt),h.on.trans ho,h.lt⟩
theorem BlW.below {w W W':World} {rb:Nat} {en:Int} {L:List Tk} {v:Value} {A:List St} (h:BlW w rb en W L v A) (hb:Below W.heap.size W W'):BlW w rb en W' L v A:=
 ⟨h.rd.on hb,h.gr.keep (Stays.of_below hb),h.on.trans (On.of_below hb),h.lt⟩
theorem BlW.form {w W:World} {rb:Nat} {en:Int} {L:List Tk} {v:Value} {A:List St} (h:BlW w rb en W L v A):∃s c,v=.slice s A.length c:=by
 obtain ⟨cs,ho,_⟩:=h.gr;obtain ⟨s0,cap,h1,_⟩:=ba ho;exact ⟨s0,cap,h1⟩
theorem BlW.push {w W3 W9:World} {rb g cap:Nat} {en:Int} {L:List Tk} {v:Value} {A:List St} {new:List Value} {y:St} {cs:Nat→List Value} (h:BlW w rb en W3 L v A) (D:Items stK w.heap.size 6 W3 v A cs) (hn:new.length=6) (hy:RepSt (fun b=>w.heap.size≤b∧v.ownBlock≠some b) W3 new y)
    (hg:W3.grownBy W9 v.ownBlock) (E:v.ownBlock=some g∨g=W3.heap.size) (C:W9.ownsRow w.heap.size 134 6 (.slice (some ⟨g,0,none⟩) (A.length+1) cap) (A.length+1) (bG cs A.length++new)) :
    BlW w rb en W9 L (.slice (some ⟨g,0,none⟩) (A.length+1) cap) (A++[y]):=by
 have hT:OnS (fun b=>v.ownBlock=some b) W3 W9:=OnS.of_grown hg fun k hk=>hk
 have B:∀b,v.ownBlock=some b→w.heap.size≤b:=fun b hb=>by
  obtain ⟨cs',ho,_⟩:=h.gr;exact (aI ho hb).1
 refine ⟨?_,GrowOf.push D hn hy hg E C,On.of_onS h.on hT fun i hi=>.inr (B i hi),h.lt⟩;exact h.rd.offS hT fun b hb=>Nat.lt_of_lt_of_le h.lt (B b hb)
theorem gu (en:Int) (P:Par St) (f:Nat) (A:List St) (l:List Tk):ft en P (f+1) A l=if atS l 0 CU then .ok (A,l.tail) else (P.bind fun s=>ft en P f (A++[s])) l:=rfl
theorem tR (rb:Nat) (d en:Int) (hd:d≤32) (P:Par St) (HS:tV rb en 103 #[.pointer (some ⟨rb,0,none⟩),.int .i64 d] P) (hP:Strict P) :
    kN rb en 77 #[.pointer (some ⟨rb,0,none⟩),.int .i64 d] (fun l=>(bq en dN).bind (fun _ r=>ft en P (r.length+1) [] r) l):=by
 intro l w h;have c:=zh HS;have i:=zh hP;have s:=zh (fu rb 0 dN l en w h);have q:=zh (pD rb d w hd);have HH:=zh h;have HI:=zh Ca;change Calls _ _ _ _ (PSays _ _ _ _ ((bq en dN).bind (fun _ r=>ft en P (r.length+1) [] r) l))
 generalize hR:(bq en dN).bind (fun _ r=>ft en P (r.length+1) [] r) l=R;have HF:=zh hR.symm;have a:=zh (gu en P);clear HS hP hd h hR;go_enter Tryz.func77,Tryz.ntmps77
 go_wp2_with fail
 refine s.o.mono ?_;rintro e we ⟨rfl,rfl⟩;have HB:=zh (ag (Below.refl w.heap.size w) (.cells #[.string ⟨#[123]⟩] 9))
 cases hq:atS l 0 dN
 ·go_wp2_with fail
  refine (aV rb w.heap.size dN l en _ (HH.o.on HB.o) (aA _ _ _ _ _ _ rfl rfl)).mono ?_;rintro e w2 hp;rcases hp.cases with ⟨er,p,hm,rfl,ho⟩ | ⟨x,L,v,hm,rfl,hv,hr,ho⟩
  ·have HE:=zh (HF.o.trans (aD hm))
   have F:=zh ((On.of_below HB.o:On rb w _).trans ho);clear hp hm ho hq;unfold Pan;go_wp2_with fail
   exact ⟨rfl,PSays.err HE.o F.o⟩
  ·exfalso
   unfold bq at hm;rw [hq] at hm
   cases hm
 ·go_wp2_with fail
  refine q.o.mono ?_;rintro e we ⟨rfl,rfl⟩;clear hq;go_wp2_with fail
  refine (aV rb w.heap.size dN l en _ (HH.o.on HB.o) (aA _ _ _ _ _ _ rfl rfl)).mono ?_;rintro e w2 hp;rcases hp.cases with ⟨er,p,hm,rfl,ho⟩ | ⟨x,L,v,hm,rfl,hv,hr,ho⟩
  ·have HE:=zh (HF.o.trans (aD hm))
   have F:=zh ((On.of_below HB.o:On rb w _).trans ho);clear hp hm ho;unfold Pan;go_wp2_with fail
   exact ⟨rfl,PSays.err HE.o F.o⟩
  ·replace HF:=zh (HF.o.trans (aH hm))
   have W:Hd (BlW w rb en w2 L (.slice none 0 0) []):=zh ⟨hr,GrowOf.nil,(On.of_below HB.o:On rb w _).trans ho,HH.o.lt⟩;have G:=zh hr.few;subst hv;clear hp hm ho hr;have U:=zh (show R=ft en P (L.length+1) [] L from HF.o);clear HF;go_wp2_with fail
   go_loopg [5] (L.length+1) (fun g s5 wr=>∃(acc:List St) (lc:List Tk),R=ft en P g acc lc∧lc.length<g∧acc.length+g≤100001∧BlW w rb en wr lc s5 acc)
   case atStart=>exact ⟨[],L,U.o,Nat.lt_succ_self _,by have:=G.o;simp;omega,W.o⟩
   case round =>
    clear U W G;obtain ⟨acc,lc,hR,Q,S,K⟩:=hrel;obtain ⟨g,rfl⟩:∃g,gk=g+1:=⟨gk-1,by omega⟩
    have HF:=zh (hR.trans (a.o g acc lc));have m:=zh Q;have Y:=zh S;have HW:=zh K;obtain ⟨sv,cv,rfl⟩:=K.form;clear hR Q S K;go_wp2_with fail
    cases hq:atS lc 0 CU
    ·replace HF:=zh (HF.o.trans (if_neg (by rw [hq];decide)))
     refine (cV rb _ lc en _ HW.o.rd hq).mono ?_;rintro e w3 ⟨rfl,hr,ho⟩;replace HW:=zh (HW.o.call ho hr);clear hr ho hq;go_wp2_with fail
     refine (c.o lc _ HW.o.rd).mono ?_;rintro e w4 hp;rcases hp.cases with ⟨er,p,hm,rfl,ho⟩ | ⟨y,L4,v,hm,rfl,hv,hr,ho⟩
     ·have HE:=zh (HF.o.trans (aD hm))
      have F:=zh (HW.o.on.trans ho);clear hp hm ho;unfold Pan;go_wp2_with fail
      exact ⟨rfl,PSays.err HE.o F.o⟩
     ·replace HF:=zh (HF.o.trans (aH hm))
      have k:=zh (i.o _ _ _ hm);have V:=zh HW.o;replace HW:=zh (HW.o.call ho hr);obtain ⟨op,text,s1,n1,c1,s2,n2,c2,s3,n3,c3,pos,rfl,C⟩:=hv;have M:=zh C;clear hp hm ho hr C;have X:=zh (ag (Below.refl w4.heap.size w4) (.cells #[.int .i64 op,.string text,.slice s1 n1 c1,.slice s2 n2 c2,.slice s3 n3 c3,.int .i64 pos] 134));have T:=zh (HW.o.below X.o);obtain ⟨cs,D,H⟩:=T.o.gr;have N:=zh D;have n:=zh H
      have O:Hd (∀b,(Value.slice sv acc.length cv).ownBlock=some b→b<w3.heap.size):=zh (fun b hb=>by
        obtain ⟨cs',Z,_⟩:=V.o.gr;exact (aI Z hb).2)
      have HY:=zh ((M.o.keep (Stays.of_below X.o)).mono (S':=fun b=>w.heap.size≤b∧(Value.slice sv acc.length cv).ownBlock≠some b) fun b (hb:w3.heap.size≤b)=>⟨Nat.le_trans V.o.on.size hb,fun e=>absurd (O.o b e) (by omega)⟩);clear D H;have t:acc.length≤100000:=by have:=Y.o;omega
      go_wp2_with (refine wpList_append_lies _ rfl _ _ _ rfl w.heap.size 134 HI.o.choose (.agg #[.int .i64 0,.string ⟨#[]⟩,.slice none 0 0,.slice none 0 0,.slice none 0 0,.int .i64 0]) 6 104 Tryz.underlying74 HI.o.choose_spec.1 HI.o.choose_spec.2.1 HI.o.choose_spec.2.2.1 HI.o.choose_spec.2.2.2 rfl (by decide) _ acc.length (bG cs acc.length) rfl N.o ⟨w4.heap.size,0,none⟩ 1 1 [.int .i64 op,.string text,.slice s1 n1 c1,.slice s2 n2 c2,.slice s3 n3 c3,.int .i64 pos] rfl rfl (by intro j u hj;rw [Go.WideShapes.add_plain,Nat.zero_add];exact aA _ _ _ _ _ _ rfl (by simpa using hj)) (by intro u hu;simp at hu;rcases hu with rfl | rfl | rfl | rfl | rfl | rfl<;>rfl) (by decide) (by unfold maxLen;omega) (by omega) (by rw [ah];have:=HW.o.on.size;omega) _ rfl ?_;intro g9 cp9 w9 B A E J;have f:=zh (T.o.push n.o rfl HY.o A E B);clear B A E J)
      go_roundg g
      case measure=>exact Nat.lt_succ_self _
      case rel=>exact ⟨_,_,HF.o,by have:=m.o;have:=k.o;omega,by have:=Y.o;simp;omega,f.o⟩
    ·replace HF:=zh (HF.o.trans (if_pos hq))
     refine (de rb _ lc en _ HW.o.rd hq).mono ?_;rintro e w3 ⟨rfl,hr,ho⟩;replace HW:=zh (HW.o.call ho hr);clear hr ho hq;go_wp2_with fail
     go_ret
     obtain ⟨cs,I,H⟩:=HW.o.gr.row;exact PSays.ok HF.o ⟨cs,I,H⟩ HW.o.rd HW.o.on
theorem xZ (rb:Nat) (d en:Int) (hd:32<d):kN rb en 77 #[.pointer (some ⟨rb,0,none⟩),.int .i64 d] (dL en 0):=by
 intro l w h;have D:=zh (fu rb 0 dN l en w h);have C:=zh (pQ rb l en d w h hd);have HH:=zh h;generalize hR:dL en 0 l=R;have HF:=zh (show R=if atS l 0 dN then .error (42,aQ en l) else .error (41,aQ en l) from hR.symm);clear hd h hR;go_enter Tryz.func77,Tryz.ntmps77
 go_wp2_with fail
 refine D.o.mono ?_;rintro e we ⟨rfl,rfl⟩;have HB:=zh (ag (Below.refl w.heap.size w) (.cells #[.string ⟨#[123]⟩] 9))
 cases hq:atS l 0 dN
 ·replace HF:=zh (HF.o.trans (if_neg (by rw [hq];decide)))
  go_wp2_with fail
  refine (aV rb w.heap.size dN l en _ (HH.o.on HB.o) (aA _ _ _ _ _ _ rfl rfl)).mono ?_;rintro e w2 hp;have A:bq en dN l=.error (41,aQ en l):=by unfold bq;rw [hq];rfl
  rcases hp.cases with ⟨er,p,hm,rfl,ho⟩ | ⟨x,L,v,hm,rfl,hv,hr,ho⟩
  ·rw [A] at hm
   injection hm with hm
   injection hm with hm1 hm2
   subst hm1 hm2;have B:=zh ((On.of_below HB.o:On rb w _).trans ho);clear hp ho hq A;unfold Pan;go_wp2_with fail
   exact ⟨rfl,PSays.err HF.o B.o⟩
  ·exfalso
   rw [A] at hm
   cases hm
 ·replace HF:=zh (HF.o.trans (if_pos hq))
  go_wp2_with fail
  refine C.o.mono ?_;rintro e we ⟨rfl,rfl⟩;clear hq;unfold Pan;go_wp2_with fail
  exact ⟨rfl,PSays.err HF.o (On.refl _ _)⟩
theorem nO (en:Int) (P:Par St) (hP:Strict P):∀(f:Nat) (A:List St),Weak (ft en P f A)
 | 0,A=>fun l x r e=>by cases e
 | f+1,A=>fun l x r e=>by
  rw [gu] at e;split at e
  ·cases e;simp
  ·obtain ⟨y,q,h1,h2⟩:=aK e
   have:=hP _ _ _ h1;have:=nO en P hP f _ _ _ _ h2;omega
theorem dO (en:Int) (s:St):Strict (iK en s):=(aT en fm).bind fun _=>dj _
theorem lL (en:Int) (E:Par Ex) (B:Par (List St)) (hE:Strict E) (hB:Weak B):Strict (jn en E B):=fun l x r e=>by
 unfold jn at e;dsimp only at e;split at e
 ·rename_i h
  have:=bE h;have:=((dG en).bind fun n=>((aT en sEq).bind fun _=>(hE.bind fun x=>(dO en _).weak).weak).weak) _ _ _ e;omega
 split at e
 ·rename_i h
  have:=bE h
  have:=(hE.bind fun x=>hB.bind fun b=>(fun l x r e=>by
    split at e
    · rename_i h
      have:=bE h;have:=(hB.bind fun e=>dj _) _ _ _ e;omega
    · cases e;exact Nat.le_refl _:Weak _)) _ _ _ e
  omega
 split at e
 ·rename_i h
  have:=bE h;have:=((dG en).bind fun n=>((aT en sEq).bind fun _=>(hE.bind fun x=>((aT en sTo).bind fun _=>(hE.bind fun y=>hB.bind fun b=>dj _).weak).weak).weak).weak) _ _ _ e;omega
 split at e
 ·rename_i h
  have:=bE h;split at e
  ·have:=dO en _ _ _ _ e;omega
  ·have:=(hE.bind fun x=>(dO en _).weak) _ _ _ e
   omega
 split at e
 ·rename_i h
  have:=bE h;have:=((aT en cU).bind fun _=>(hE.bind fun x=>((aT en gI).bind fun _=>(hE.bind fun y=>((aT en cX).bind fun _=>(dO en _).weak).weak).weak).weak).weak) _ _ _ e;omega
 split at e
 ·rename_i h
  have:=bE h;have:=((aT en cU).bind fun _=>(hE.bind fun x=>((aT en cX).bind fun _=>(dO en _).weak).weak).weak) _ _ _ e;omega
 split at e<;>split at e<;>first
  | exact ((dG en).bind fun n=>((aT en sEq).bind fun _=>(hE.bind fun x=>(dO en _).weak).weak).weak) _ _ _ e
  | exact (hE.bind fun x=>(dO en _).weak) _ _ _ e
theorem iq (en:Int):∀k,Weak (dL en k)
 | 0=>fun l x r e=>by
  unfold dL at e;split at e<;>cases e
 | k+1=>fun l x r e=>by
  unfold dL at e;obtain ⟨y,q,h1,h2⟩:=aK e;have:=aT en dN _ _ _ h1;have:=nO en _ (lL en _ _ (iQ en k) (iq en k)) _ _ _ _ _ h2;omega
theorem lw (rb:Nat) (en:Int):∀(k:Nat) (d:Int),d+k=33→0≤d→kN rb en 77 #[.pointer (some ⟨rb,0,none⟩),.int .i64 d] (dL en k)
 | 0,d,h,_=>xZ rb d en (by omega)
 | k+1,d,h,h0=>tR rb d en (by omega) (jn en (jg en k) (dL en k))
     (ym rb d h0 (by omega) en (jg en k) (dL en k) (rU rb en k (d+1) (by omega) (by omega)).2 (lw rb en k (d+1) (by omega) (by omega)))
     (lL en _ _ (iQ en k) (iq en k))
end
end Go.Proofs.YthgcpfkochikfaaGreat
