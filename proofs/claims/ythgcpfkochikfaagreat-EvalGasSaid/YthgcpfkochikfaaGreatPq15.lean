/-
  EvalLoops: part 15 of its proof: see the last text.
-/
import Derived.Test.YthgcpfkochikfaaGreatPq14
import Derived.Test.YthgcpfkochikfaaGreatPq13
import Derived.Deep.LoopGhost
import Derived.Defers
import Derived.Recover
set_option maxRecDepth 100000
set_option maxHeartbeats 16000000
namespace Go.Proofs.YthgcpfkochikfaaGreat
section
open Go.RowKit
def Strict {α:Type} (p:Par α):Prop:=∀l x r,p l=.ok (x,r)→r.length<l.length
def Weak {α:Type} (p:Par α):Prop:=∀l x r,p l=.ok (x,r)→r.length≤l.length
theorem Strict.weak {α:Type} {p:Par α} (h:Strict p):Weak p:=fun l x r e=>Nat.le_of_lt (h l x r e)
theorem aK {α β:Type} {p:Par α} {f:α→Par β} {l r:List Tk} {y:β} (h:p.bind f l=.ok (y,r)):∃x q,p l=.ok (x,q)∧f x q=.ok (y,r):=by
 unfold Par.bind at h
 cases hp:p l with
 | error e=>rw [hp] at h;cases h
 | ok z =>
  obtain ⟨x,q⟩:=z;rw [hp] at h;exact ⟨x,q,rfl,h⟩
theorem Strict.bind {α β:Type} {p:Par α} {f:α→Par β} (h:Strict p) (hf:∀x,Weak (f x)):Strict (p.bind f):=fun l y r e=>by
 obtain ⟨x,q,h1,h2⟩:=aK e;exact Nat.lt_of_le_of_lt (hf x q y r h2) (h l x q h1)
theorem Weak.bind {α β:Type} {p:Par α} {f:α→Par β} (h:Weak p) (hf:∀x,Weak (f x)):Weak (p.bind f):=fun l y r e=>by
 obtain ⟨x,q,h1,h2⟩:=aK e;exact Nat.le_trans (hf x q y r h2) (h l x q h1)
theorem di {α:Type} (x:α):Weak (okP x):=fun l y r e=>by cases e;exact Nat.le_refl _
theorem aS (en:Int) (s:ByteArray):Strict (bh en s):=fun l x r e=>by have:=pA e;omega
theorem rR (en k:Int):Strict (eB en k):=fun l x r e=>by
 unfold eB at e
 cases l with
 | nil=>cases e
 | cons t q =>
  dsimp only at e;split at e
  ·cases e;exact Nat.lt_succ_self _
  ·cases e
theorem dM (en:Int):Strict (ft en):=(rR en 1).bind fun _=>di _
theorem bE {l:List Tk} {s:ByteArray} (h:atS l 0 s=true):l.tail.length<l.length:=by have:=uo h;omega
theorem mH (en:Int):Strict (lD en):=fun l x r e=>by
 unfold lD at e;split at e
 ·rename_i h;cases e;exact bE h
 ·split at e
  ·rename_i h;cases e;exact bE h
  ·exact (Strict.bind (aS en iw) fun _=>di (3:Int)) l x r e
theorem jm {α:Type} (en:Int) (one:Par α) (h:Strict one):∀(f:Nat) (first:Bool) (A:List α),Strict (eN en one f first A)
 | 0,_,_=>fun l x r e=>by cases e
 | f+1,first,A=>fun l x r e=>by
  rw [iG] at e;split at e
  ·rename_i hq;cases e;exact bE hq
  ·obtain ⟨_,q,h1,h2⟩:=aK e
   obtain ⟨y,q2,h3,h4⟩:=aK h2;have g2:=h q y q2 h3;have g3:=jm en one h f false (A++[y]) q2 x r h4
   have g1:q.length≤l.length:=by
    cases first
    ·have:=pA h1;omega
    ·cases h1;exact Nat.le_refl _
   omega
theorem oY (en:Int) (n:Nat) (N:Par Ex) (h:Weak N):∀(f:Nat) (x:Ex),Weak (eo en n N f x)
 | 0,x=>di x
 | f+1,x=>fun l y r e=>by
  rw [kf] at e;split at e
  ·cases e;exact Nat.le_refl _
  ·rename_i s hs
   have hl:=bE (jc (bO n) 0 hs).choose_spec.2.2;obtain ⟨z,q,h1,h2⟩:=aK e;have g1:=h _ _ _ h1;split at h2
   ·cases h2;omega
   ·have:=oY en n N h f _ q y r h2;omega
theorem df (en:Int) (one:Par Ex) (h:Strict one):∀j,Strict (dn en one j)
 | 0=>h
 | j+1=>fun l y r e=>by
  have hj:=df en one h j;obtain ⟨x,q,h1,h2⟩:=aK (show ((dn en one j).bind fun x r=>eo en (4-j) (dn en one j) (r.length+1) x r) l=_ from e);have:=hj _ _ _ h1;have:=oY en (4-j) _ hj.weak _ _ _ _ _ h2;omega
theorem fH (en:Int) (E:Par Ex) (h:Strict E):Strict (dI en E):=
 (aS en cV).bind fun _=>h.weak.bind fun _=>(aS en cZ).weak.bind fun _=>di _
theorem kB (en:Int) (E:Par Ex) (h:Strict E):Strict (iy en E):=fun l x r e=>by
 unfold iy at e;split at e
 ·rename_i hq;cases e;exact bE hq
 ·split at e
  ·rename_i hq;cases e;exact bE hq
  ·split at e
   ·exact fH en E h l x r e
   ·split at e
    ·rename_i hq;exact Nat.lt_trans (((fH en E h).bind fun _=>di _) _ _ _ e) (bE hq)
    ·split at e
     ·rename_i hq;exact Nat.lt_trans (((fH en E h).bind fun _=>di _) _ _ _ e) (bE hq)
     ·exact ((aS en zT).bind fun _=>((fH en E h).weak.bind fun _=>di _)) l x r e
theorem my (en:Int) (E:Par Ex) (h:Strict E):Strict (dL en E):=fun l x r e=>by
 unfold dL at e
 cases l with
 | nil=>exact kB en E h _ _ _ e
 | cons t q =>
  dsimp only at e;split at e
  ·cases e;exact Nat.lt_succ_self _
  ·split at e
   ·cases e;exact Nat.lt_succ_self _
   ·split at e
    ·split at e
     ·rename_i hq
      have h1:=((jm en E h (q.length+1) true []).bind fun k=>di (Ex.mk 5 0 t.text k t.pos)) _ _ _ e;have:=bE hq;simp only [List.length_cons]
      omega
     ·cases e;exact Nat.lt_succ_self _
    ·exact kB en E h _ _ _ e
theorem ez (en:Int):∀k,Strict (fQ en k)
 | 0=>fun l x r e=>by cases e
 | k+1=>fun l x r e=>by
  have ih:=ez en k;unfold fQ at e;split at e
  ·rename_i hq;exact Nat.lt_trans ((ih.bind fun _=>di _) _ _ _ e) (bE hq)
  ·split at e
   ·rename_i hq;exact Nat.lt_trans ((ih.bind fun _=>di _) _ _ _ e) (bE hq)
   ·exact my en _ (df en _ ih 5) l x r e
theorem jf (en:Int) (k:Nat):Strict (jj en k):=df en _ (ez en k) 5
theorem rJ (rb:Nat) (en:Int):∀(k:Nat) (d:Int),d+k=33→0≤d→(1≤k→cw rb en 193 #[.pointer (some ⟨rb,0,none⟩),.int .i64 d] (fQ en k))∧cw rb en 129 #[.pointer (some ⟨rb,0,none⟩),.int .i64 d] (jj en k)
 | 0,d,hd,h0=>⟨fun h=>absurd h (by omega),A6 rb d (by omega) en _ (qQ en (fQ en 0) _ (fun _=>rfl) 5)⟩
 | k+1,d,hd,h0=>by
  have ih:=rJ rb en k (d+1) (by omega) (by omega)
  have h1:cw rb en 193 #[.pointer (some ⟨rb,0,none⟩),.int .i64 d] (fQ en (k+1)):=by
   have h:=AH rb d h0 (by omega) en (fQ en k) (dL en (jj en k)) (fun A=>ih.1 (by omega)) (fun A l=>by
     obtain rfl:k=0:=by omega
     rfl) (rQ rb d h0 (by omega) en (jj en k) ih.2 (jf en k))
   have e:(fun l=>iK en (fQ en k) (dL en (jj en k)) l [fU,mF])=fQ en (k+1):=by
    funext l
    rw [vC];rfl
   rw [←e];exact h
  have h5:=tq rb d en _ h1;have s0:Strict (dn en (fQ en (k+1)) 0):=df en _ (ez en (k+1)) 0;have l4:=gR rb 4 (by omega) d en (dn en (fQ en (k+1)) 0) h5 s0.weak;have l3:=gR rb 3 (by omega) d en (dn en (fQ en (k+1)) 1) l4 (df en _ (ez en (k+1)) 1).weak;have l2:=gR rb 2 (by omega) d en (dn en (fQ en (k+1)) 2) l3 (df en _ (ez en (k+1)) 2).weak;have l1:=gR rb 1 (by omega) d en (dn en (fQ en (k+1)) 3) l2 (df en _ (ez en (k+1)) 3).weak;have l0:=gR rb 0 (by omega) d en (dn en (fQ en (k+1)) 4) l1 (df en _ (ez en (k+1)) 4).weak;exact ⟨fun _=>h1,zO rb d (by omega) en (jj en (k+1)) l0⟩
end
section
open Go.RowKit
theorem BH:∃i,Tryz.prog.info? 134=some i∧i.zero=some (.agg #[.int .i64 0,.string ⟨#[]⟩,.slice none 0 0,.slice none 0 0,.slice none 0 0,.int .i64 0])∧i.size=6∧i.bytes=104:=by
 have h:(Tryz.prog.info? 134).map (fun i=>(i.zero,i.size,i.bytes))=some (some (.agg #[.int .i64 0,.string ⟨#[]⟩,.slice none 0 0,.slice none 0 0,.slice none 0 0,.int .i64 0]),6,104):=by kernel_rfl
 obtain ⟨i,h1,h2⟩:=Option.map_eq_some_iff.1 h;simp only [Prod.mk.injEq] at h2
 exact ⟨i,h1,h2.1,h2.2.1,h2.2.2⟩
structure BlW (w:World) (rb:Nat) (en:Int) (W:World) (L:List Tk) (v:Value) (acc:List St):Prop where
 rd:RdAt W rb L en
 gr:GrowOf stK w.heap.size 134 6 W v acc
 on:On rb w W
 lt:rb<w.heap.size
theorem BlW.call {w W W':World} {rb:Nat} {en:Int} {L L':List Tk} {v:Value} {A:List St} (h:BlW w rb en W L v A) (ho:On rb W W') (hr:RdAt W' rb L' en):BlW w rb en W' L' v A:=
 ⟨hr,h.gr.keep (Stays.of_on ho h.lt),h.on.trans ho,h.lt⟩
theorem BlW.below {w W W':World} {rb:Nat} {en:Int} {L:List Tk} {v:Value} {A:List St} (h:BlW w rb en W L v A) (hb:Below W.heap.size W W'):BlW w rb en W' L v A:=
 ⟨h.rd.on hb,h.gr.keep (Stays.of_below hb),h.on.trans (On.of_below hb),h.lt⟩
theorem BlW.form {w W:World} {rb:Nat} {en:Int} {L:List Tk} {v:Value} {A:List St} (h:BlW w rb en W L v A):∃s c,v=.slice s A.length c:=by
 obtain ⟨cs,ho,_⟩:=h.gr;obtain ⟨s0,cap,h1,_⟩:=bC ho;exact ⟨s0,cap,h1⟩
theorem BlW.push {w W3 W9:World} {rb g cap:Nat} {en:Int} {L:List Tk} {v:Value} {A:List St} {new:List Value} {y:St} {cs:Nat→List Value} (h:BlW w rb en W3 L v A) (D:Items stK w.heap.size 6 W3 v A cs) (hn:new.length=6) (hy:RepSt (fun b=>w.heap.size≤b∧v.ownBlock≠some b) W3 new y)
    (hg:W3.grownBy W9 v.ownBlock) (E:v.ownBlock=some g∨g=W3.heap.size) (C:W9.ownsRow w.heap.size 134 6 (.slice (some ⟨g,0,none⟩) (A.length+1) cap) (A.length+1) (bH cs A.length++new)) :
    BlW w rb en W9 L (.slice (some ⟨g,0,none⟩) (A.length+1) cap) (A++[y]):=by
 have hT:OnS (fun b=>v.ownBlock=some b) W3 W9:=OnS.of_grown hg fun k hk=>hk
 have B:∀b,v.ownBlock=some b→w.heap.size≤b:=fun b hb=>by
  obtain ⟨cs',ho,_⟩:=h.gr;exact (aI ho hb).1
 refine ⟨?_,GrowOf.push D hn hy hg E C,On.of_onS h.on hT fun i hi=>.inr (B i hi),h.lt⟩;exact h.rd.offS hT fun b hb=>Nat.lt_of_lt_of_le h.lt (B b hb)
theorem gl (en:Int) (P:Par St) (f:Nat) (A:List St) (l:List Tk):fw en P (f+1) A l=if atS l 0 CG then .ok (A,l.tail) else (P.bind fun s=>fw en P f (A++[s])) l:=rfl
theorem tQ (rb:Nat) (d en:Int) (hd:d≤32) (P:Par St) (HS:tZ rb en 103 #[.pointer (some ⟨rb,0,none⟩),.int .i64 d] P) (hP:Strict P) :
    kR rb en 77 #[.pointer (some ⟨rb,0,none⟩),.int .i64 d] (fun l=>(bh en dE).bind (fun _ r=>fw en P (r.length+1) [] r) l):=by
 intro l w h;have c:=zh HS;have i:=zh hP;have s:=zh (fD rb 0 dE l en w h);have q:=zh (pB rb d w hd);have HH:=zh h;have HI:=zh BH;change Calls _ _ _ _ (PSays _ _ _ _ ((bh en dE).bind (fun _ r=>fw en P (r.length+1) [] r) l))
 generalize hR:(bh en dE).bind (fun _ r=>fw en P (r.length+1) [] r) l=R;have HF:=zh hR.symm;have a:=zh (gl en P);clear HS hP hd h hR;go_enter Tryz.func77,Tryz.ntmps77
 go_wp2_with fail
 refine s.o.mono ?_;rintro e we ⟨rfl,rfl⟩;have HB:=zh (ag (Below.refl w.heap.size w) (.cells #[.string ⟨#[123]⟩] 9))
 cases hq:atS l 0 dE
 ·go_wp2_with fail
  refine (aW rb w.heap.size dE l en _ (HH.o.on HB.o) (aA _ _ _ _ _ _ rfl rfl)).mono ?_;rintro e w2 hp;rcases hp.cases with ⟨er,p,hm,rfl,ho⟩ | ⟨x,L,v,hm,rfl,hv,hr,ho⟩
  ·have HE:=zh (HF.o.trans (aD hm))
   have F:=zh ((On.of_below HB.o:On rb w _).trans ho);clear hp hm ho hq;unfold Pan;go_wp2_with fail
   exact ⟨rfl,PSays.err HE.o F.o⟩
  ·exfalso
   unfold bh at hm;rw [hq] at hm
   cases hm
 ·go_wp2_with fail
  refine q.o.mono ?_;rintro e we ⟨rfl,rfl⟩;clear hq;go_wp2_with fail
  refine (aW rb w.heap.size dE l en _ (HH.o.on HB.o) (aA _ _ _ _ _ _ rfl rfl)).mono ?_;rintro e w2 hp;rcases hp.cases with ⟨er,p,hm,rfl,ho⟩ | ⟨x,L,v,hm,rfl,hv,hr,ho⟩
  ·have HE:=zh (HF.o.trans (aD hm))
   have F:=zh ((On.of_below HB.o:On rb w _).trans ho);clear hp hm ho;unfold Pan;go_wp2_with fail
   exact ⟨rfl,PSays.err HE.o F.o⟩
  ·replace HF:=zh (HF.o.trans (aG hm))
   have W:Hd (BlW w rb en w2 L (.slice none 0 0) []):=zh ⟨hr,GrowOf.nil,(On.of_below HB.o:On rb w _).trans ho,HH.o.lt⟩;have G:=zh hr.few;subst hv;clear hp hm ho hr;have U:=zh (show R=fw en P (L.length+1) [] L from HF.o);clear HF;go_wp2_with fail
   go_loopg [5] (L.length+1) (fun g s5 wr=>∃(acc:List St) (lc:List Tk),R=fw en P g acc lc∧lc.length<g∧acc.length+g≤100001∧BlW w rb en wr lc s5 acc)
   case atStart=>exact ⟨[],L,U.o,Nat.lt_succ_self _,by have:=G.o;simp;omega,W.o⟩
   case round =>
    clear U W G;obtain ⟨acc,lc,hR,Q,S,K⟩:=hrel;obtain ⟨g,rfl⟩:∃g,gk=g+1:=⟨gk-1,by omega⟩
    have HF:=zh (hR.trans (a.o g acc lc));have m:=zh Q;have Y:=zh S;have HW:=zh K;obtain ⟨sv,cv,rfl⟩:=K.form;clear hR Q S K;go_wp2_with fail
    cases hq:atS lc 0 CG
    ·replace HF:=zh (HF.o.trans (if_neg (by rw [hq];decide)))
     refine (cX rb _ lc en _ HW.o.rd hq).mono ?_;rintro e w3 ⟨rfl,hr,ho⟩;replace HW:=zh (HW.o.call ho hr);clear hr ho hq;go_wp2_with fail
     refine (c.o lc _ HW.o.rd).mono ?_;rintro e w4 hp;rcases hp.cases with ⟨er,p,hm,rfl,ho⟩ | ⟨y,L4,v,hm,rfl,hv,hr,ho⟩
     ·have HE:=zh (HF.o.trans (aD hm))
      have F:=zh (HW.o.on.trans ho);clear hp hm ho;unfold Pan;go_wp2_with fail
      exact ⟨rfl,PSays.err HE.o F.o⟩
     ·replace HF:=zh (HF.o.trans (aG hm))
      have k:=zh (i.o _ _ _ hm);have V:=zh HW.o;replace HW:=zh (HW.o.call ho hr);obtain ⟨op,text,s1,n1,c1,s2,n2,c2,s3,n3,c3,pos,rfl,C⟩:=hv;have M:=zh C;clear hp hm ho hr C;have X:=zh (ag (Below.refl w4.heap.size w4) (.cells #[.int .i64 op,.string text,.slice s1 n1 c1,.slice s2 n2 c2,.slice s3 n3 c3,.int .i64 pos] 134));have T:=zh (HW.o.below X.o);obtain ⟨cs,D,H⟩:=T.o.gr;have N:=zh D;have n:=zh H
      have O:Hd (∀b,(Value.slice sv acc.length cv).ownBlock=some b→b<w3.heap.size):=zh (fun b hb=>by
        obtain ⟨cs',Z,_⟩:=V.o.gr;exact (aI Z hb).2)
      have HY:=zh ((M.o.keep (Stays.of_below X.o)).mono (S':=fun b=>w.heap.size≤b∧(Value.slice sv acc.length cv).ownBlock≠some b) fun b (hb:w3.heap.size≤b)=>⟨Nat.le_trans V.o.on.size hb,fun e=>absurd (O.o b e) (by omega)⟩);clear D H;have t:acc.length≤100000:=by have:=Y.o;omega
      go_wp2_with (refine wpList_append_lies _ rfl _ _ _ rfl w.heap.size 134 HI.o.choose (.agg #[.int .i64 0,.string ⟨#[]⟩,.slice none 0 0,.slice none 0 0,.slice none 0 0,.int .i64 0]) 6 104 Tryz.underlying74 HI.o.choose_spec.1 HI.o.choose_spec.2.1 HI.o.choose_spec.2.2.1 HI.o.choose_spec.2.2.2 rfl (by decide) _ acc.length (bH cs acc.length) rfl N.o ⟨w4.heap.size,0,none⟩ 1 1 [.int .i64 op,.string text,.slice s1 n1 c1,.slice s2 n2 c2,.slice s3 n3 c3,.int .i64 pos] rfl rfl (by intro j u hj;rw [Go.WideShapes.add_plain,Nat.zero_add];exact aA _ _ _ _ _ _ rfl (by simpa using hj)) (by intro u hu;simp at hu;rcases hu with rfl | rfl | rfl | rfl | rfl | rfl<;>rfl) (by decide) (by unfold maxLen;omega) (by omega) (by rw [ah];have:=HW.o.on.size;omega) _ rfl ?_;intro g9 cp9 w9 B A E J;have f:=zh (T.o.push n.o rfl HY.o A E B);clear B A E J)
      go_roundg g
      case measure=>exact Nat.lt_succ_self _
      case rel=>exact ⟨_,_,HF.o,by have:=m.o;have:=k.o;omega,by have:=Y.o;simp;omega,f.o⟩
    ·replace HF:=zh (HF.o.trans (if_pos hq))
     refine (de rb _ lc en _ HW.o.rd hq).mono ?_;rintro e w3 ⟨rfl,hr,ho⟩;replace HW:=zh (HW.o.call ho hr);clear hr ho hq;go_wp2_with fail
     go_ret
     obtain ⟨cs,I,H⟩:=HW.o.gr.row;exact PSays.ok HF.o ⟨cs,I,H⟩ HW.o.rd HW.o.on
theorem xC (rb:Nat) (d en:Int) (hd:32<d):kR rb en 77 #[.pointer (some ⟨rb,0,none⟩),.int .i64 d] (dG en 0):=by
 intro l w h;have D:=zh (fD rb 0 dE l en w h);have C:=zh (pV rb l en d w h hd);have HH:=zh h;generalize hR:dG en 0 l=R;have HF:=zh (show R=if atS l 0 dE then .error (42,aQ en l) else .error (41,aQ en l) from hR.symm);clear hd h hR;go_enter Tryz.func77,Tryz.ntmps77
 go_wp2_with fail
 refine D.o.mono ?_;rintro e we ⟨rfl,rfl⟩;have HB:=zh (ag (Below.refl w.heap.size w) (.cells #[.string ⟨#[123]⟩] 9))
 cases hq:atS l 0 dE
 ·replace HF:=zh (HF.o.trans (if_neg (by rw [hq];decide)))
  go_wp2_with fail
  refine (aW rb w.heap.size dE l en _ (HH.o.on HB.o) (aA _ _ _ _ _ _ rfl rfl)).mono ?_;rintro e w2 hp;have A:bh en dE l=.error (41,aQ en l):=by unfold bh;rw [hq];rfl
  rcases hp.cases with ⟨er,p,hm,rfl,ho⟩ | ⟨x,L,v,hm,rfl,hv,hr,ho⟩
  ·rw [A] at hm
   injection hm with hm
   injection hm with hm1 hm2
   subst hm1 hm2;have B:=zh ((On.of_below HB.o:On rb w _).trans ho);clear hp ho hq A;unfold Pan;go_wp2_with fail
   exact ⟨rfl,PSays.err HF.o B.o⟩
  ·exfalso
   rw [A] at hm
   cases hm
 ·replace HF:=zh (HF.o.trans (if_pos hq))
  go_wp2_with fail
  refine C.o.mono ?_;rintro e we ⟨rfl,rfl⟩;clear hq;unfold Pan;go_wp2_with fail
  exact ⟨rfl,PSays.err HF.o (On.refl _ _)⟩
theorem nR (en:Int) (P:Par St) (hP:Strict P):∀(f:Nat) (A:List St),Weak (fw en P f A)
 | 0,A=>fun l x r e=>by cases e
 | f+1,A=>fun l x r e=>by
  rw [gl] at e;split at e
  ·cases e;simp
  ·obtain ⟨y,q,h1,h2⟩:=aK e
   have:=hP _ _ _ h1;have:=nR en P hP f _ _ _ _ h2;omega
theorem dJ (en:Int) (s:St):Strict (iL en s):=(aS en fq).bind fun _=>di _
theorem lT (en:Int) (E:Par Ex) (B:Par (List St)) (hE:Strict E) (hB:Weak B):Strict (jz en E B):=fun l x r e=>by
 unfold jz at e;dsimp only at e;split at e
 ·rename_i h
  have:=bE h;have:=((dM en).bind fun n=>((aS en sEq).bind fun _=>(hE.bind fun x=>(dJ en _).weak).weak).weak) _ _ _ e;omega
 split at e
 ·rename_i h
  have:=bE h
  have:=(hE.bind fun x=>hB.bind fun b=>(fun l x r e=>by
    split at e
    · rename_i h
      have:=bE h;have:=(hB.bind fun e=>di _) _ _ _ e;omega
    · cases e;exact Nat.le_refl _:Weak _)) _ _ _ e
  omega
 split at e
 ·rename_i h
  have:=bE h;have:=((dM en).bind fun n=>((aS en sEq).bind fun _=>(hE.bind fun x=>((aS en sTo).bind fun _=>(hE.bind fun y=>hB.bind fun b=>di _).weak).weak).weak).weak) _ _ _ e;omega
 split at e
 ·rename_i h
  have:=bE h;split at e
  ·have:=dJ en _ _ _ _ e;omega
  ·have:=(hE.bind fun x=>(dJ en _).weak) _ _ _ e
   omega
 split at e
 ·rename_i h
  have:=bE h;have:=((aS en cV).bind fun _=>(hE.bind fun x=>((aS en gD).bind fun _=>(hE.bind fun y=>((aS en cZ).bind fun _=>(dJ en _).weak).weak).weak).weak).weak) _ _ _ e;omega
 split at e
 ·rename_i h
  have:=bE h;have:=((aS en cV).bind fun _=>(hE.bind fun x=>((aS en cZ).bind fun _=>(dJ en _).weak).weak).weak) _ _ _ e;omega
 split at e<;>split at e<;>first
  | exact ((dM en).bind fun n=>((aS en sEq).bind fun _=>(hE.bind fun x=>(dJ en _).weak).weak).weak) _ _ _ e
  | exact (hE.bind fun x=>(dJ en _).weak) _ _ _ e
theorem iB (en:Int):∀k,Weak (dG en k)
 | 0=>fun l x r e=>by
  unfold dG at e;split at e<;>cases e
 | k+1=>fun l x r e=>by
  unfold dG at e;obtain ⟨y,q,h1,h2⟩:=aK e;have:=aS en dE _ _ _ h1;have:=nR en _ (lT en _ _ (jf en k) (iB en k)) _ _ _ _ _ h2;omega
theorem lE (rb:Nat) (en:Int):∀(k:Nat) (d:Int),d+k=33→0≤d→kR rb en 77 #[.pointer (some ⟨rb,0,none⟩),.int .i64 d] (dG en k)
 | 0,d,h,_=>xC rb d en (by omega)
 | k+1,d,h,h0=>tQ rb d en (by omega) (jz en (jj en k) (dG en k))
     (xg rb d h0 (by omega) en (jj en k) (dG en k) (rJ rb en k (d+1) (by omega) (by omega)).2 (lE rb en k (d+1) (by omega) (by omega)))
     (lT en _ _ (jf en k) (iB en k))
end
section
open Go.RowKit
instance:Inhabited (ByteArray×Int):=⟨(ByteArray.empty,0)⟩
def uf (_:Nat→Prop) (_:World) (cs:List Value) (p:ByteArray×Int):Prop:=cs=[.string p.1,.int .i64 p.2]
def Cx:Kind (ByteArray×Int):=⟨uf,fun h _=>h,fun h _=>h,fun h=>h⟩
theorem Cb:∃i,Tryz.prog.info? 80=some i∧i.zero=some (.agg #[.string ⟨#[]⟩,.int .i64 0])∧i.size=2∧i.bytes=24:=by
 have h:(Tryz.prog.info? 80).map (fun i=>(i.zero,i.size,i.bytes))=some (some (.agg #[.string ⟨#[]⟩,.int .i64 0]),2,24):=by kernel_rfl
 obtain ⟨i,h1,h2⟩:=Option.map_eq_some_iff.1 h;simp only [Prod.mk.injEq] at h2
 exact ⟨i,h1,h2.1,h2.2.1,h2.2.2⟩
structure FLay where
 rb:Nat
 BR:Nat
 FB:Nat
 base:Nat
 en:Int
 pl:Int
structure FLay.Ok (y:FLay):Prop where
 br:y.rb<y.BR∧y.BR<y.base
 fb:y.rb<y.FB∧y.FB<y.base
 ne:y.BR≠y.FB
structure FuF (y:FLay) (W:World) (nm:ByteArray) (vp:Value) (ps:List (ByteArray×Int)) (rs:Int) (vb:Value) (bs:List St):Prop where
 br:W.heap[y.BR]?=some (.cells #[.pointer (some ⟨y.rb,0,none⟩)] 108 (0,0))
 fb:W.heap[y.FB]?=some (.cells #[.string nm,vp,.int .i64 rs,vb,.int .i64 y.pl] 76 (0,0))
 ps:GrowOf Cx y.base 80 2 W vp ps
 bo:RepSts (bN y.base) W vb bs
 big:y.base≤W.heap.size
section
variable {W W':World} {y:FLay} {L L':List Tk} {nm:ByteArray} {vp vb:Value} {ps:List (ByteArray×Int)} {rs:Int} {bs:List St}
theorem FuF.call (h:FuF y W nm vp ps rs vb bs) (hy:y.Ok) (ho:On y.rb W W'):FuF y W' nm vp ps rs vb bs:=by
 have A:Stays (bN y.base) W W':=Stays.of_on ho (by have:=hy.br;omega);exact ⟨ho.obj (by have:=hy.br;omega) h.br,ho.obj (by have:=hy.fb;omega) h.fb,h.ps.keep A,h.bo.keep A,Nat.le_trans h.big ho.size⟩
theorem FuF.below (h:FuF y W nm vp ps rs vb bs) (hb:Below W.heap.size W W'):FuF y W' nm vp ps rs vb bs:=by
 have A:Stays (bN y.base) W W':=Stays.of_below hb;exact ⟨(hb.block _ (af h.br)).trans h.br,(hb.block _ (af h.fb)).trans h.fb,h.ps.keep A,h.bo.keep A,Nat.le_trans h.big hb.size⟩
theorem FuF.form (h:FuF y W nm vp ps rs vb bs):∃s c,vp=.slice s ps.length c∧ps.length≤c∧c≤maxLen:=by
 obtain ⟨cs,ho,_⟩:=h.ps;obtain ⟨s0,cap,h1,h2,h3,_⟩:=bC ho;exact ⟨s0,cap,h1,h2,h3⟩
theorem FuF.store (h:FuF y W nm vp ps rs vb bs) (hy:y.Ok) (j:Nat) (u:Value) {C:ByteArray} {B:Int} {A:Value} {E:List St}
    (ha:(#[.string nm,vp,.int .i64 rs,vb,.int .i64 y.pl]:Array Value).setIfInBounds j u=#[.string C,vp,.int .i64 B,A,.int .i64 y.pl]) (hb:RepSts (bN y.base) W A E) :
    FuF y (W.setCell ⟨y.FB,j,none⟩ u) C vp ps B A E:=by
 have ho:On y.FB W (W.setCell ⟨y.FB,j,none⟩ u):=(On.refl _ _).set j u;have D:Stays (bN y.base) W (W.setCell ⟨y.FB,j,none⟩ u):=Stays.of_on ho hy.fb.2;refine ⟨ho.obj hy.ne h.br,?_,h.ps.keep D,hb.keep D,Nat.le_trans h.big ho.size⟩;rw [←ha];exact au h.fb j u
theorem FuF.push {W9:World} {g cap:Nat} {new:List Value} {q:ByteArray×Int} {cs:Nat→List Value} (h:FuF y W nm vp ps rs (.slice none 0 0) []) (hy:y.Ok) (F:Items Cx y.base 2 W vp ps cs) (hn:new=[.string q.1,.int .i64 q.2])
    (hg:W.grownBy W9 vp.ownBlock) (G:vp.ownBlock=some g∨g=W.heap.size) (B:W9.ownsRow y.base 80 2 (.slice (some ⟨g,0,none⟩) (ps.length+1) cap) (ps.length+1) (bH cs ps.length++new)) :
    FuF y (W9.setCell ⟨y.FB,1,none⟩ (.slice (some ⟨g,0,none⟩) (ps.length+1) cap)) nm (.slice (some ⟨g,0,none⟩) (ps.length+1) cap) (ps++[q]) rs (.slice none 0 0) []∧OnS (fun b=>b=y.FB∨y.base≤b) W (W9.setCell ⟨y.FB,1,none⟩ (.slice (some ⟨g,0,none⟩) (ps.length+1) cap)):=by
 have A:∀b,vp.ownBlock=some b→y.base≤b:=fun b hb=>by
  obtain ⟨cs',ho,_⟩:=h.ps;exact (aI ho hb).1
 have hT:OnS (fun b=>vp.ownBlock=some b) W W9:=OnS.of_grown hg fun k hk=>hk;have ho:On y.FB W9 (W9.setCell ⟨y.FB,1,none⟩ (.slice (some ⟨g,0,none⟩) (ps.length+1) cap)):=(On.refl _ _).set 1 _;have E:Stays (bN y.base) W9 (W9.setCell ⟨y.FB,1,none⟩ (.slice (some ⟨g,0,none⟩) (ps.length+1) cap)):=Stays.of_on ho hy.fb.2;have C:W9.heap[y.FB]?=_:=hT.obj (fun e=>by have:=A _ e;have:=hy.fb;omega) h.fb;have D:W9.heap[y.BR]?=_:=hT.obj (fun e=>by have:=A _ e;have:=hy.br;omega) h.br;subst hn;exact ⟨⟨ho.obj hy.ne D,au C 1 _,(GrowOf.push (K:=Cx) F rfl rfl hg G B).keep E,RepSts.nil _ _,Nat.le_trans h.big (Nat.le_trans hg.size ho.size)⟩,(hT.mono fun i hi=>.inr (A i hi)).trans (OnS.of_on ho (.inl rfl))⟩
end
theorem AO (y:FLay) (hy:y.Ok) (rb BR FB base:Nat) (en pl:Int) (T:y=⟨rb,BR,FB,base,en,pl⟩) (l:List Tk) (w:World) (h:RdAt w rb l en) (nm:ByteArray) (vp:Value) (ps:List (ByteArray×Int)) (hf:FuF y w nm vp ps 0 (.slice none 0 0) []) (hn:ps.length≤100000) :
    Calls Tryz.prog 74 #[.pointer (some ⟨BR,0,none⟩),.pointer (some ⟨FB,0,none⟩)] w
     (PSaysT rb en (fun b=>b=rb∨b=FB∨base≤b) w (fun w' q r=>r=.tuple #[]∧∃v',FuF y w' nm v' (ps++[q]) 0 (.slice none 0 0) []) (lj en l)):=by
 subst T;have HY:=zh hy;have HW:=zh hf;have D:=zh h;have A:Hd (On rb w w):=zh (On.refl _ _);have HI:=zh Cb;have J:=zh (show rb<BR∧BR<base∧rb<FB∧FB<base∧BR≠FB from ⟨hy.br.1,hy.br.2,hy.fb.1,hy.fb.2,hy.ne⟩);generalize hR:lj en l=R;have HF:=zh hR.symm;clear hy hf h hR;have b0:w.cell? ⟨BR,0,none⟩=some (.pointer (some ⟨rb,0,none⟩)):=aa HW.o.br (j:=0) rfl;go_enter Tryz.func74,Tryz.ntmps74
 go_wp2_with fail
 clear b0;refine (gW rb l en _ D.o).mono ?_;rintro e w2 hp;rcases hp.cases with ⟨er,p,hm,rfl,ho⟩ | ⟨x2,L2,v,hm,rfl,hv,hr,ho⟩
 ·have HE:=zh (HF.o.trans (aD hm))
  replace A:=zh (A.o.trans ho);clear hp hm ho;unfold Pan;go_wp2_with fail
  exact ⟨rfl,PSaysT.err HE.o (OnS.of_on A.o (.inl rfl))⟩
 replace HF:=zh (HF.o.trans (aG hm));replace HW:=zh (HW.o.call HY.o ho);replace D:=zh hr;replace A:=zh (A.o.trans ho);subst hv;clear hp hm ho hr;have b0:w2.cell? ⟨BR,0,none⟩=some (.pointer (some ⟨rb,0,none⟩)):=aa HW.o.br (j:=0) rfl;go_wp2_with fail
 clear b0;have HB:=zh (ag (Below.refl w2.heap.size w2) (.cells #[.string ⟨#[58]⟩] 9));replace HW:=zh (HW.o.below HB.o);replace A:=zh (A.o.trans (On.of_below HB.o));refine (aW rb w2.heap.size kj L2 en _ (D.o.on HB.o) (aA _ _ _ _ _ _ rfl rfl)).mono ?_;rintro e w3 hp;rcases hp.cases with ⟨er,p,hm,rfl,ho⟩ | ⟨x3,L3,v,hm,rfl,hv,hr,ho⟩
 ·have HE:=zh (HF.o.trans (aD hm))
  replace A:=zh (A.o.trans ho);clear hp hm ho;unfold Pan;go_wp2_with fail
  exact ⟨rfl,PSaysT.err HE.o (OnS.of_on A.o (.inl rfl))⟩
 replace HF:=zh (HF.o.trans (aG hm));replace HW:=zh (HW.o.call HY.o ho);replace D:=zh hr;replace A:=zh (A.o.trans ho);subst hv;clear hp hm ho hr HB;obtain ⟨s0,cap,U,X,V⟩:=HW.o.form;subst U;have b0:w3.cell? ⟨BR,0,none⟩=some (.pointer (some ⟨rb,0,none⟩)):=aa HW.o.br (j:=0) rfl;have q0:w3.cell? ⟨FB,1,none⟩=some (.slice s0 ps.length cap):=aa HW.o.fb (j:=1) rfl;go_upto_region 2 with fail
 refine ay (S:=(fun w'=>w'.cell? ⟨FB,1,none⟩=some (.slice s0 ps.length cap)∧w'.cell? ⟨BR,0,none⟩=some (.pointer (some ⟨rb,0,none⟩)))) 7 (by kernel_rfl) (by kernel_rfl) (by (first | exact ⟨q0,b0⟩ | exact ⟨aq _ q0,aq _ b0⟩)) (fun hH=>?_);simp only [List.take_succ_cons,List.take_zero,List.drop_succ_cons,List.drop_zero]
 refine tkA 0 ?_;refine tkA 1 ?_;refine tkA 2 ?_;refine tkA 3 ?_;refine rd1 4 fun K hK=>?_;go_simp;go_at_call 75
 refine (uu rb L3 en _ (D.o.on (aw (Below.refl _ _)))).mono ?_;rintro e w4 hp;rcases hp.cases with ⟨er,p,hm,rfl,ho⟩ | ⟨x4,L4,v,hm,rfl,hv,hr,ho⟩
 ·have HE:=zh (HF.o.trans (aD hm))
  have E:=(On.of_below (aw (Below.refl _ _)):On rb w3 _).trans ho;replace A:=zh (A.o.trans E);clear hp hm ho E;unfold Pan
  (try go_wp2_with fail)
  exact ⟨rfl,PSaysT.err HE.o (OnS.of_on A.o (.inl rfl))⟩
 replace HF:=zh (HF.o.trans (aG hm));have E:=(On.of_below (aw (Below.refl _ _)):On rb w3 _).trans ho;replace HW:=zh (HW.o.call HY.o E);replace D:=zh hr;replace A:=zh (A.o.trans E);subst hv;replace b0:w4.cell? ⟨BR,0,none⟩=some (.pointer (some ⟨rb,0,none⟩)):=aa HW.o.br (j:=0) rfl;replace q0:w4.cell? ⟨FB,1,none⟩=some (.slice s0 ps.length cap):=aa HW.o.fb (j:=1) rfl;clear hp hm hr ho E;go_simp;refine hK.out _ _ ?_ (fun hH=>?_)
 ·(try dsimp only)
  (first | exact ⟨q0,b0⟩ | exact ⟨aq _ q0,aq _ b0⟩)
 clear hK K;try go_simp
 refine tkA 5 ?_;refine rd1 6 fun K hK=>?_;go_simp;refine hK.out _ _ ?_ (fun hH=>?_)
 ·(try dsimp only)
  (first | exact ⟨q0,b0⟩ | exact ⟨aq _ q0,aq _ b0⟩)
 clear hK K;try go_simp
 refine wpAnyH_done (by kernel_rfl) ?_ _;dsimp only [aP];have N:=zh (ag (Below.refl w4.heap.size w4) (.cells #[.string x2,.int .i64 x4] 80));have H:=zh (HW.o.below N.o);obtain ⟨cs,F,O⟩:=H.o.ps;have I:=zh F;have W:=zh O;have fz:(w4.alloc (.cells #[.string x2,.int .i64 x4] 80)).frozen? ⟨FB,1,none⟩=false:=ae H.o.fb 1;have Q:=zh H.o.fb;clear F O b0 q0;have P:=zh hn;unfold maxLen at V;refine wpList_append_lies _ rfl _ _ _ rfl base 80 HI.o.choose (.agg #[.string ⟨#[]⟩,.int .i64 0]) 2 24 Tryz.underlying73 HI.o.choose_spec.1 HI.o.choose_spec.2.1 HI.o.choose_spec.2.2.1 HI.o.choose_spec.2.2.2 rfl (by decide) _ ps.length (bH cs ps.length) rfl I.o ⟨w4.heap.size,0,none⟩ 1 1 [.string x2,.int .i64 x4] rfl rfl (by intro j u hj;rw [Go.WideShapes.add_plain,Nat.zero_add];exact aA _ _ _ _ _ _ rfl (by simpa using hj)) (by intro u hu;simp at hu;rcases hu with rfl | rfl<;>rfl) (by decide) (by have:=P.o;unfold maxLen;omega) (by have:=P.o;omega) H.o.big _ rfl ?_;intro g9 cp9 w9 C B G L;have M:=zh (H.o.push (q:=(x2,x4)) HY.o W.o rfl B G C);have z9:=(B.block FB (af Q.o) (fun e=>by have h1:base≤FB:=(aI I.o e.symm).1;have:=J.o;omega)).trans Q.o;have x9:w9.cell? ⟨FB,1,none⟩=some (.slice s0 ps.length cap):=aa z9 (j:=1) rfl;have y9:=ae z9 1;clear C B G L z9 fz;go_wp2_with fail
 go_end0
 exact PSaysT.ok (x:=(x2,x4)) (l:=L4) HF.o ⟨rfl,_,M.o.1⟩ ((D.o.on N.o).offS M.o.2 (fun b hb=>by have h1:=J.o;have Y:b=FB∨base≤b:=hb;omega)) (((OnS.of_on A.o (.inl rfl)).trans (OnS.of_below N.o)).trans (M.o.2.mono fun i hi=>.inr hi))
end
section
open Go.RowKit
def RepPas (S:Nat→Prop) (w:World) (v:Value) (l:List (ByteArray×Int)):Prop:=∃cs,RowOf S w v 2 l.length cs∧∀i,i<l.length→uf S w (cs i) (l.getD i default)
def RepFn (S:Nat→Prop) (w:World) (cs:List Value) (x:Fn):Prop:=∃vp vb,cs=[.string x.name,vp,.int .i64 x.result,vb,.int .i64 x.pos]∧RepPas S w vp x.params∧RepSts S w vb x.body
theorem RepPas.keep {S:Nat→Prop} {w w':World} {v:Value} {l:List (ByteArray×Int)} (h:RepPas S w v l) (hk:Stays S w w'):RepPas S w' v l:=by
 obtain ⟨cs,h1,h2⟩:=h;exact ⟨cs,h1.keep hk,h2⟩
theorem RepPas.mono {S S':Nat→Prop} {w:World} {v:Value} {l:List (ByteArray×Int)} (h:RepPas S w v l) (hb:∀b,S b→S' b):RepPas S' w v l:=by
 obtain ⟨cs,h1,h2⟩:=h;exact ⟨cs,h1.mono hb,h2⟩
theorem RepFn.keep {S:Nat→Prop} {w w':World} {cs:List Value} {x:Fn} (h:RepFn S w cs x) (hk:Stays S w w'):RepFn S w' cs x:=by
 obtain ⟨vp,vb,h1,h2,h3⟩:=h;exact ⟨vp,vb,h1,h2.keep hk,h3.keep hk⟩
theorem RepFn.mono {S S':Nat→Prop} {w:World} {cs:List Value} {x:Fn} (h:RepFn S w cs x) (hb:∀b,S b→S' b):RepFn S' w cs x:=by
 obtain ⟨vp,vb,h1,h2,h3⟩:=h;exact ⟨vp,vb,h1,h2.mono hb,h3.mono hb⟩
theorem RepFn.lies {S:Nat→Prop} {w:World} {cs:List Value} {x:Fn} (h:RepFn S w cs x):RepFn (fun b=>S b∧b<w.heap.size) w cs x:=by
 obtain ⟨vp,vb,h1,⟨c,h2,B⟩,⟨c',h3,A⟩⟩:=h;exact ⟨vp,vb,h1,⟨c,h2.lies,B⟩,⟨c',h3.lies,fun i hi=>(A i hi).lies⟩⟩
def fnK:Kind Fn:=⟨RepFn,RepFn.keep,RepFn.mono,RepFn.lies⟩
def RF (base:Nat) (w:World) (x:Fn) (v:Value):Prop:=∃nm s1 n1 c1 rs s2 n2 c2 pos,v=.agg #[.string nm,.slice s1 n1 c1,.int .i64 rs,.slice s2 n2 c2,.int .i64 pos]∧RepFn (bN base) w [.string nm,.slice s1 n1 c1,.int .i64 rs,.slice s2 n2 c2,.int .i64 pos] x
structure FuW (w:World) (y:FLay) (RES:Nat) (W:World) (L:List Tk) (nm:ByteArray) (vp:Value) (ps:List (ByteArray×Int)) (rs:Int) (vb:Value) (bs:List St):Prop where
 rd:RdAt W y.rb L y.en
 on:On y.rb w W
 res:W.heap[RES]?=some (.cells #[.string ⟨#[]⟩,.slice none 0 0,.int .i64 0,.slice none 0 0,.int .i64 0] 76 (0,0))
 f:FuF y W nm vp ps rs vb bs
structure FOk (w:World) (y:FLay) (RES:Nat):Prop where
 f:y.Ok
 res:w.heap.size≤RES∧RES≠y.FB
 br:w.heap.size≤y.BR
 rr:y.rb<RES∧RES<y.base
 fb:w.heap.size≤y.FB
section
variable {w W W':World} {y:FLay} {RES:Nat} {L L':List Tk} {nm:ByteArray} {vp vb:Value} {ps:List (ByteArray×Int)} {rs:Int} {bs:List St}
theorem FuW.call (h:FuW w y RES W L nm vp ps rs vb bs) (hy:FOk w y RES) (ho:On y.rb W W') (hr:RdAt W' y.rb L' y.en):FuW w y RES W' L' nm vp ps rs vb bs:=
 ⟨hr,h.on.trans ho,ho.obj (Nat.ne_of_gt hy.rr.1) h.res,h.f.call hy.f ho⟩
theorem FuW.below (h:FuW w y RES W L nm vp ps rs vb bs) (hb:Below W.heap.size W W'):FuW w y RES W' L nm vp ps rs vb bs:=
 ⟨h.rd.on hb,h.on.trans (On.of_below hb),(hb.block _ (af h.res)).trans h.res,h.f.below hb⟩
theorem FuW.store (h:FuW w y RES W L nm vp ps rs vb bs) (hy:FOk w y RES) (j:Nat) (u:Value) {C:ByteArray} {B:Int} {A:Value} {D:List St}
    (ha:(#[.string nm,vp,.int .i64 rs,vb,.int .i64 y.pl]:Array Value).setIfInBounds j u=#[.string C,vp,.int .i64 B,A,.int .i64 y.pl]) (hb:RepSts (bN y.base) W A D) :
    FuW w y RES (W.setCell ⟨y.FB,j,none⟩ u) L C vp ps B A D:=by
 have ho:On y.FB W (W.setCell ⟨y.FB,j,none⟩ u):=(On.refl _ _).set j u;exact ⟨h.rd.off ho hy.f.fb.1,h.on.new ho hy.fb,ho.obj hy.res.2 h.res,h.f.store hy.f j u ha hb⟩
theorem FuW.listed {A:Value} {B:List (ByteArray×Int)} (h:FuW w y RES W L nm vp ps rs vb bs) (hy:FOk w y RES) (ho:OnS (fun b=>b=y.rb∨b=y.FB∨y.base≤b) W W') (hr:RdAt W' y.rb L' y.en) (hf:FuF y W' nm A B rs (.slice none 0 0) []) :
    FuW w y RES W' L' nm A B rs (.slice none 0 0) []:=by
 have h1:=hy.f.fb;have h2:=hy.f.br;exact ⟨hr,On.of_onS h.on ho (fun i hi=>by have:=hy.br;have:=hy.fb;omega),ho.obj (by have:=hy.rr;have:=hy.res;omega) h.res,hf⟩
theorem FuW.done {s1 s2:Option Addr} {n1 c1 n2 c2:Nat} {R:Except (Int×Int) (Fn×List Tk)} (h:FuW w y RES W L nm (.slice s1 n1 c1) ps rs (.slice s2 n2 c2) bs) (hy:FOk w y RES) (hR:R=.ok (⟨nm,ps,rs,bs,y.pl⟩,L)) :
    PSays y.rb y.en w (RF w.heap.size) R (.returned (.agg #[.string nm,.slice s1 n1 c1,.int .i64 rs,.slice s2 n2 c2,.int .i64 y.pl])) (set5 W RES (.string nm) (.slice s1 n1 c1) (.int .i64 rs) (.slice s2 n2 c2) (.int .i64 y.pl)):=by
 have ho:On RES W (set5 W RES (.string nm) (.slice s1 n1 c1) (.int .i64 rs) (.slice s2 n2 c2) (.int .i64 y.pl)):=(On.refl _ _).set5 _ _ _ _ _;have B:Stays (bN y.base) W _:=Stays.of_on ho hy.rr.2;obtain ⟨cs,A,C⟩:=h.f.ps.row;refine PSays.ok hR ⟨_,_,_,_,_,_,_,_,_,rfl,?_⟩ (h.rd.off ho hy.rr.1) (h.on.new ho hy.res.1);refine RepFn.mono (S:=bN y.base) (RepFn.keep ⟨_,_,rfl,⟨cs,A,C⟩,h.f.bo⟩ B) fun b (hb:y.base≤b)=>(Nat.le_trans (by have:=hy.f.br;have:=hy.br;omega) hb:w.heap.size≤b)
end
theorem km (en:Int):Strict (lj en):=(dM en).bind fun _=>((aS en kj).bind fun _=>((mH en).bind fun _=>di _).weak).weak
theorem yF (rb:Nat) (en:Int):∀(l:List Tk) (w:World),RdAt w rb l en→Calls Tryz.prog 51 #[.pointer (some ⟨rb,0,none⟩)] w (PSays rb en w (RF w.heap.size) (gu en l)):=by
 intro l w h;have L:=zh h.lt;have H:=zh (ag (ag (Below.refl w.heap.size w) (.cells #[.pointer (some ⟨rb,0,none⟩)] 108)) (.cells #[.string ⟨#[]⟩,.slice none 0 0,.int .i64 0,.slice none 0 0,.int .i64 0] 76));have P:=zh (h.on H.o);generalize hR:gu en l=R;generalize I:aQ en l=pl at *;have V:=zh I;have G:=hR.symm;unfold gu at G;rw [I] at G;have HF:=zh G;have T:∀args W,Sem.run Tryz.prog (callFunc 74 args) W=.ok (.enter 74 args) W:=fun _ _=>Tryz.call74 _ _;clear hR I G;go_enter Tryz.func51,Tryz.ntmps51
 go_wp2_with fail
 refine (fK rb l en _ P.o).mono ?_;rintro e w1 ⟨rfl,rfl⟩;rw [V.o];go_upto_region 2 with fail
 have HW:Hd (FuW w ⟨rb,w.heap.size,w.heap.size+1+1,w.heap.size+1+1+1,en,pl⟩ (w.heap.size+1) (((w.alloc (.cells #[.pointer (some ⟨rb,0,none⟩)] 108)).alloc (.cells #[.string ⟨#[]⟩,.slice none 0 0,.int .i64 0,.slice none 0 0,.int .i64 0] 76)).alloc (.cells #[.string ⟨#[]⟩,.slice none 0 0,.int .i64 0,.slice none 0 0,.int .i64 pl] 76)) l ⟨#[]⟩ (.slice none 0 0) [] 0 (.slice none 0 0) []):=zh ⟨h.on (ag H.o _),On.of_below (ag H.o _),ax _ _ _ _ (aj _ _ _ (ah _ _)),⟨ax _ _ _ _ (ax _ _ _ _ (aj _ _ _ rfl)),aj _ _ _ (by simp only [ah]),GrowOf.nil,RepSts.nil _ _,by simp only [ah];exact Nat.le_refl _⟩⟩;have HY:Hd (FOk w ⟨rb,w.heap.size,w.heap.size+1+1,w.heap.size+1+1+1,en,pl⟩ (w.heap.size+1)):=zh (by have:=L.o;exact ⟨⟨⟨by dsimp only;omega,by dsimp only;omega⟩,⟨by dsimp only;omega,by dsimp only;omega⟩,by dsimp only;omega⟩,⟨by omega,by dsimp only;omega⟩,by dsimp only;omega,⟨by dsimp only;omega,by dsimp only;omega⟩,by dsimp only;omega⟩);have A:Hd (rb<w.heap.size∧w.heap.size<w.heap.size+1∧w.heap.size+1<w.heap.size+1+1∧w.heap.size+1+1<w.heap.size+1+1+1):=zh (by have:=L.o;omega);clear h P H;generalize (((w.alloc (.cells #[.pointer (some ⟨rb,0,none⟩)] 108)).alloc (.cells #[.string ⟨#[]⟩,.slice none 0 0,.int .i64 0,.slice none 0 0,.int .i64 0] 76)).alloc (.cells #[.string ⟨#[]⟩,.slice none 0 0,.int .i64 0,.slice none 0 0,.int .i64 pl] 76))=w1 at *;generalize C:w.heap.size+1+1+1=base at *;generalize U:w.heap.size+1+1=FB at *;generalize K:w.heap.size+1=RES at *;generalize O:w.heap.size=BR at *;replace A:Hd (w.heap.size=BR∧rb<BR∧BR<RES∧RES<FB∧FB<base):=zh ⟨O,A.o⟩;clear C U K O L;have a:¬BR=FB:=by have:=A.o;omega
 have Z:¬FB=BR:=by have:=A.o;omega
 have Y:¬RES=FB:=by have:=A.o;omega
 have X:¬FB=RES:=by have:=A.o;omega
 have b0:w1.cell? ⟨BR,0,none⟩=some (.pointer (some ⟨rb,0,none⟩)):=aa HW.o.f.br (j:=0) rfl;go_wp2_with fail
 clear b0;have HB:=zh (ag (Below.refl w1.heap.size w1) (.cells #[.string ⟨#[102,110]⟩] 9));replace HW:=zh (HW.o.below HB.o);refine (aW rb w1.heap.size sFn l en _ HW.o.rd (aA _ _ _ _ _ _ rfl rfl)).mono ?_;rintro e w2 hp;rcases hp.cases with ⟨er,p,hm,rfl,ho⟩ | ⟨x2,L2,v,hm,rfl,hv,hr,ho⟩
 ·have HE:=zh (HF.o.trans (aD hm))
  have B:=zh (HW.o.on.trans ho);clear hp hm ho;unfold Pan;go_wp2_with fail
  exact ⟨rfl,PSays.err HE.o B.o⟩
 replace HF:=zh (HF.o.trans (aG hm));replace HW:=zh (HW.o.call HY.o ho hr);subst hv;clear hp hm ho hr HB;have b0:w2.cell? ⟨BR,0,none⟩=some (.pointer (some ⟨rb,0,none⟩)):=aa HW.o.f.br (j:=0) rfl;go_wp2_with fail
 clear b0;refine (gW rb L2 en _ HW.o.rd).mono ?_;rintro e w3 hp;rcases hp.cases with ⟨er,p,hm,rfl,ho⟩ | ⟨x3,L3,v,hm,rfl,hv,hr,ho⟩
 ·have HE:=zh (HF.o.trans (aD hm))
  have B:=zh (HW.o.on.trans ho);clear hp hm ho;unfold Pan;go_wp2_with fail
  exact ⟨rfl,PSays.err HE.o B.o⟩
 replace HF:=zh (HF.o.trans (aG hm));replace HW:=zh (HW.o.call HY.o ho hr);subst hv;clear hp hm ho hr;have e0:w3.cell? ⟨FB,0,none⟩=some (.string ⟨#[]⟩):=aa HW.o.f.fb (j:=0) rfl;have g0:w3.frozen? ⟨FB,0,none⟩=false:=ae HW.o.f.fb 0;go_upto_region 4 with fail
 clear e0 g0;replace HW:=zh (HW.o.store HY.o 0 (.string x3) rfl HW.o.f.bo);generalize w3.setCell ⟨FB,0,none⟩ (.string x3)=w4 at *;have b0:w4.cell? ⟨BR,0,none⟩=some (.pointer (some ⟨rb,0,none⟩)):=aa HW.o.f.br (j:=0) rfl;go_wp2_with fail
 clear b0;have HB:=zh (ag (Below.refl w4.heap.size w4) (.cells #[.string ⟨#[40]⟩] 9));replace HW:=zh (HW.o.below HB.o);refine (aW rb w4.heap.size cV L3 en _ HW.o.rd (aA _ _ _ _ _ _ rfl rfl)).mono ?_;rintro e w5 hp;rcases hp.cases with ⟨er,p,hm,rfl,ho⟩ | ⟨x5,L5,v,hm,rfl,hv,hr,ho⟩
 ·have HE:=zh (HF.o.trans (aD hm))
  have B:=zh (HW.o.on.trans ho);clear hp hm ho;unfold Pan;go_wp2_with fail
  exact ⟨rfl,PSays.err HE.o B.o⟩
 replace HF:=zh (HF.o.trans (aG hm));replace HW:=zh (HW.o.call HY.o ho hr);subst hv;clear hp hm ho hr HB;have E:=zh HW.o.rd.few;have b0:w5.cell? ⟨BR,0,none⟩=some (.pointer (some ⟨rb,0,none⟩)):=aa HW.o.f.br (j:=0) rfl;have D:=zh (qU rb en (fun b=>b=rb∨b=FB∨base≤b) (Or.inl rfl) 74 #[.pointer (some ⟨BR,0,none⟩),.pointer (some ⟨FB,0,none⟩)] T (lj en) (fun W acc=>∃vp,FuF ⟨rb,BR,FB,base,en,pl⟩ W x3 vp acc 0 (.slice none 0 0) []) (fun W W' acc hi ho=>⟨hi.choose,hi.choose_spec.call HY.o.f ho⟩) (km en) (fun l' W acc J S hi=>(AO ⟨rb,BR,FB,base,en,pl⟩ HY.o.f rb BR FB base en pl rfl l' W S x3 hi.choose acc hi.choose_spec J)) (L5.length+1) L5 (Nat.lt_succ_self _) (by have:=E.o;omega) w5 HW.o.rd ⟨_,HW.o.f⟩);go_wp2_with fail
 clear b0;refine (D.o).mono ?_;rintro e w6 hp;rcases hp.cases with ⟨er,p,hm,rfl,ho⟩ | ⟨x6,L6,v,hm,rfl,hv,hr,ho⟩
 ·have HE:=zh (HF.o.trans (aD hm))
  have B:=zh (On.of_onS HW.o.on ho (fun i hi=>by have h1:=A.o;have h2:i=rb∨i=FB∨base≤i:=hi;show i=rb∨w.heap.size≤i;omega));clear hp hm ho;unfold Pan;go_wp2_with fail
  exact ⟨rfl,PSays.err HE.o B.o⟩
 replace HF:=zh (HF.o.trans (aG hm));obtain ⟨Q,vp,N⟩:=hv;subst Q;replace HW:=zh (HW.o.listed HY.o ho hr N);clear hp hm ho hr N D E;have b0:w6.cell? ⟨BR,0,none⟩=some (.pointer (some ⟨rb,0,none⟩)):=aa HW.o.f.br (j:=0) rfl;go_wp2_with fail
 clear b0
 cases hq:atS L6 0 kj
 ·replace HF:=zh (HF.o.trans (if_neg (by rw [hq];decide)))
  refine (cX rb _ L6 en _ HW.o.rd hq).mono ?_;rintro e w7 ⟨rfl,hr,ho⟩;replace HW:=zh (HW.o.call HY.o ho hr);clear hr ho hq;have b0:w7.cell? ⟨BR,0,none⟩=some (.pointer (some ⟨rb,0,none⟩)):=aa HW.o.f.br (j:=0) rfl;go_wp2_with fail
  clear b0;refine ((lE rb en 32 1 (by decide) (by decide)) L6 _ HW.o.rd).mono ?_;rintro e w8 hp;rcases hp.cases with ⟨er,p,hm,rfl,ho⟩ | ⟨x8,L8,v,hm,rfl,hv,hr,ho⟩
  ·have HE:=zh (HF.o.trans (aD hm))
   have B:=zh (HW.o.on.trans ho);clear hp hm ho;unfold Pan;go_wp2_with fail
   exact ⟨rfl,PSays.err HE.o B.o⟩
  replace HF:=zh (HF.o.trans (aG hm));have F:=zh HW.o.f.big;replace HW:=zh (HW.o.call HY.o ho hr);obtain ⟨s9,n9,k9,rfl⟩:=RepSts.form hv;have M:=zh (RepSts.mono (S':=bN base) hv fun b (hb:_≤b)=>Nat.le_trans F.o hb);clear hp hm ho hr hv F;have e3:w8.cell? ⟨FB,3,none⟩=some (.slice none 0 0):=aa HW.o.f.fb (j:=3) rfl;have g3:w8.frozen? ⟨FB,3,none⟩=false:=ae HW.o.f.fb 3;go_upto_region 9 with fail
  clear e3 g3;replace HW:=zh (HW.o.store HY.o 3 (.slice s9 n9 k9) rfl M.o);generalize w8.setCell ⟨FB,3,none⟩ (.slice s9 n9 k9)=w9 at *;obtain ⟨sP,kP,hP,_,_⟩:=HW.o.f.form;subst hP;obtain ⟨e0,e1,e2,e3,e4,-⟩:=css HW.o.f.fb;have c0:w9.cell? ⟨RES,0,none⟩=some (.string ⟨#[]⟩):=aa HW.o.res (j:=0) rfl;have f0:w9.frozen? ⟨RES,0,none⟩=false:=ae HW.o.res 0;have c1:w9.cell? ⟨RES,1,none⟩=some (.slice none 0 0):=aa HW.o.res (j:=1) rfl;have f1:w9.frozen? ⟨RES,1,none⟩=false:=ae HW.o.res 1;have c2:w9.cell? ⟨RES,2,none⟩=some (.int .i64 0):=aa HW.o.res (j:=2) rfl;have f2:w9.frozen? ⟨RES,2,none⟩=false:=ae HW.o.res 2;have c3:w9.cell? ⟨RES,3,none⟩=some (.slice none 0 0):=aa HW.o.res (j:=3) rfl;have f3:w9.frozen? ⟨RES,3,none⟩=false:=ae HW.o.res 3;have c4:w9.cell? ⟨RES,4,none⟩=some (.int .i64 0):=aa HW.o.res (j:=4) rfl;have f4:w9.frozen? ⟨RES,4,none⟩=false:=ae HW.o.res 4;go_wp2_with fail
  refine bodyPost_ret (v:=.agg #[.string x3,.slice sP x6.length kP,.int .i64 0,.slice s9 n9 k9,.int .i64 pl]) (by simp [results,Tryz.results51,go_sem,c0,c1,c2,c3,c4]) rfl ?_;have hq:=HW.o.done HY.o HF.o;rw [A.o.1] at hq;exact hq
 ·replace HF:=zh (HF.o.trans (if_pos hq))
  refine (de rb _ L6 en _ HW.o.rd hq).mono ?_;rintro e w7 ⟨rfl,hr,ho⟩;replace HW:=zh (HW.o.call HY.o ho hr);clear hr ho hq;generalize L6.tail=L7 at *;have b0:w7.cell? ⟨BR,0,none⟩=some (.pointer (some ⟨rb,0,none⟩)):=aa HW.o.f.br (j:=0) rfl;go_wp2_with fail
  clear b0;refine (uu rb L7 en _ HW.o.rd).mono ?_;rintro e w8 hp;rcases hp.cases with ⟨er,p,hm,rfl,ho⟩ | ⟨x8,L8,v,hm,rfl,hv,hr,ho⟩
  ·have HE:=zh (HF.o.trans (aD hm))
   have B:=zh (HW.o.on.trans ho);clear hp hm ho;unfold Pan;go_wp2_with fail
   exact ⟨rfl,PSays.err HE.o B.o⟩
  replace HF:=zh (HF.o.trans (aG hm));replace HW:=zh (HW.o.call HY.o ho hr);subst hv;clear hp hm ho hr;have e2:w8.cell? ⟨FB,2,none⟩=some (.int .i64 0):=aa HW.o.f.fb (j:=2) rfl;have g2:w8.frozen? ⟨FB,2,none⟩=false:=ae HW.o.f.fb 2;go_upto_region 8 with fail
  clear e2 g2;replace HW:=zh (HW.o.store HY.o 2 (.int .i64 x8) rfl HW.o.f.bo);generalize w8.setCell ⟨FB,2,none⟩ (.int .i64 x8)=w9 at *;have b0:w9.cell? ⟨BR,0,none⟩=some (.pointer (some ⟨rb,0,none⟩)):=aa HW.o.f.br (j:=0) rfl;go_wp2_with fail
  clear b0;refine ((lE rb en 32 1 (by decide) (by decide)) L8 _ HW.o.rd).mono ?_;rintro e w10 hp;rcases hp.cases with ⟨er,p,hm,rfl,ho⟩ | ⟨x10,L10,v,hm,rfl,hv,hr,ho⟩
  ·have HE:=zh (HF.o.trans (aD hm))
   have B:=zh (HW.o.on.trans ho);clear hp hm ho;unfold Pan;go_wp2_with fail
   exact ⟨rfl,PSays.err HE.o B.o⟩
  replace HF:=zh (HF.o.trans (aG hm));have F:=zh HW.o.f.big;replace HW:=zh (HW.o.call HY.o ho hr);obtain ⟨s9,n9,k9,rfl⟩:=RepSts.form hv;have M:=zh (RepSts.mono (S':=bN base) hv fun b (hb:_≤b)=>Nat.le_trans F.o hb);clear hp hm ho hr hv F;have e3:w10.cell? ⟨FB,3,none⟩=some (.slice none 0 0):=aa HW.o.f.fb (j:=3) rfl;have g3:w10.frozen? ⟨FB,3,none⟩=false:=ae HW.o.f.fb 3;go_upto_region 9 with fail
  clear e3 g3;replace HW:=zh (HW.o.store HY.o 3 (.slice s9 n9 k9) rfl M.o);generalize w10.setCell ⟨FB,3,none⟩ (.slice s9 n9 k9)=w11 at *;obtain ⟨sP,kP,hP,_,_⟩:=HW.o.f.form;subst hP;obtain ⟨e0,e1,e2,e3,e4,-⟩:=css HW.o.f.fb;have c0:w11.cell? ⟨RES,0,none⟩=some (.string ⟨#[]⟩):=aa HW.o.res (j:=0) rfl;have f0:w11.frozen? ⟨RES,0,none⟩=false:=ae HW.o.res 0;have c1:w11.cell? ⟨RES,1,none⟩=some (.slice none 0 0):=aa HW.o.res (j:=1) rfl;have f1:w11.frozen? ⟨RES,1,none⟩=false:=ae HW.o.res 1;have c2:w11.cell? ⟨RES,2,none⟩=some (.int .i64 0):=aa HW.o.res (j:=2) rfl;have f2:w11.frozen? ⟨RES,2,none⟩=false:=ae HW.o.res 2;have c3:w11.cell? ⟨RES,3,none⟩=some (.slice none 0 0):=aa HW.o.res (j:=3) rfl;have f3:w11.frozen? ⟨RES,3,none⟩=false:=ae HW.o.res 3;have c4:w11.cell? ⟨RES,4,none⟩=some (.int .i64 0):=aa HW.o.res (j:=4) rfl;have f4:w11.frozen? ⟨RES,4,none⟩=false:=ae HW.o.res 4;go_wp2_with fail
  refine bodyPost_ret (v:=.agg #[.string x3,.slice sP x6.length kP,.int .i64 x8,.slice s9 n9 k9,.int .i64 pl]) (by simp [results,Tryz.results51,go_sem,c0,c1,c2,c3,c4]) rfl ?_;have hq:=HW.o.done HY.o HF.o;rw [A.o.1] at hq;exact hq
end
section
section
open Go.RowKit
structure ResAt (w:World) (P E A:Nat) (v:Value) (e a:Int):Prop where
 p:w.heap[P]?=some (.cells #[v] 26 (0,0))
 e:w.heap[E]?=some (.cells #[.int .i64 e] 27 (0,0))
 a:w.heap[A]?=some (.cells #[.int .i64 a] 3 (0,0))
 ne:P≠E∧P≠A∧E≠A
def set3 (w:World) (P E A:Nat) (v:Value) (e a:Int):World:=((w.setCell ⟨P,0,none⟩ v).setCell ⟨E,0,none⟩ (.int .i64 e)).setCell ⟨A,0,none⟩ (.int .i64 a)
theorem re (P E A:Nat) (v:Value) (e0 a0 er pos:Int) (B:List PanicEntry) (w:World) (h:ResAt w P E A v e0 a0) :
    CallsD Tryz.prog 50 #[.pointer (some ⟨P,0,none⟩),.pointer (some ⟨E,0,none⟩),.pointer (some ⟨A,0,none⟩)] (.panicking ({ v:=.iface 106 (.agg #[.int .i64 er,.int .i64 pos]),recovered:=false } :: B)) w fun e u' w' =>
     e=.returned (.tuple #[])∧u'=.panicking ({ v:=.iface 106 (.agg #[.int .i64 er,.int .i64 pos]),recovered:=true } :: B)∧w'=((set3 w P E A (.slice none 0 0) er pos).alloc (.cells #[.int .i64 er,.int .i64 pos] 106)).drew:=by
 refine callsD_of_wpS Tryz.func50 rfl fun c₀ cs hu=>?_;apply wpS_seq;apply wpS_region;simp [wpOpsS,go_sem,recoverD,hu,Tryz.ntmps50,Exit.thenS]
 refine wpS_of_wp ?_;simp only [Array.replicate_succ,Array.replicate_zero,List.push_toArray,List.setIfInBounds_toArray,List.set_cons_succ,List.set_cons_zero,List.append_toArray,List.cons_append,List.nil_append]
 have p0:w.cell? ⟨P,0,none⟩=some v:=aa h.p (j:=0) rfl;have p1:w.cell? ⟨E,0,none⟩=some (.int .i64 e0):=aa h.e (j:=0) rfl;have p2:w.cell? ⟨A,0,none⟩=some (.int .i64 a0):=aa h.a (j:=0) rfl;have f0:w.frozen? ⟨P,0,none⟩=false:=ae h.p 0;have f1:w.frozen? ⟨E,0,none⟩=false:=ae h.e 0;have f2:w.frozen? ⟨A,0,none⟩=false:=ae h.a 0;obtain ⟨n0,n1,n2⟩:=h.ne;have l0:=af h.p;have l1:=af h.e;have l2:=af h.a;have HU:=zh hu;have C:∀W:World,(Instr.typeAssert (.iface 106 (.agg #[.int .i64 er,.int .i64 pos])) 20 106 true).run Tryz.prog W=.ok (.tuple #[.agg #[.int .i64 er,.int .i64 pos],.bool true]) W:=fun _=>by kernel_rfl
 clear h hu;go_wp2_with fail
 go_region
 go_wp2_with fail
 refine ⟨rfl,_,rfl,.tuple #[],by simp [results,Tryz.results50,go_sem],rfl,rfl,?_⟩;rfl
theorem ns (P E A:Nat) (w:World) :
    CallsD Tryz.prog 50 #[.pointer (some ⟨P,0,none⟩),.pointer (some ⟨E,0,none⟩),.pointer (some ⟨A,0,none⟩)] .returning w fun e u' w'=>e=.returned (.tuple #[])∧u'=.returning∧w'=w.alloc (.cells #[.int .i64 0,.int .i64 0] 106):=by
 refine callsD_of_wpS Tryz.func50 rfl fun c₀ cs hu=>?_;apply wpS_seq;apply wpS_region;simp [wpOpsS,go_sem,recoverD,hu,Tryz.ntmps50,Exit.thenS]
 refine wpS_of_wp ?_;simp only [Array.replicate_succ,Array.replicate_zero,List.push_toArray,List.setIfInBounds_toArray,List.set_cons_succ,List.set_cons_zero,List.append_toArray,List.cons_append,List.nil_append]
 have HU:=zh hu;have B:∀W:World,(Instr.typeAssert .nilIface 20 106 true).run Tryz.prog W=.ok (.tuple #[.agg #[.int .i64 0,.int .i64 0],.bool false]) W:=fun _=>by kernel_rfl
 have C:∀W:World,(binOp .neq 20 .nilIface .nilIface).run Tryz.prog W=.ok (.bool false) W:=fun _=>by kernel_rfl
 clear hu;go_wp2_with fail
 have hu:=HU.o
 cases c₀
 simp_all [bodyPostS,results,Tryz.results50]
theorem rO (s:List UInt8):∀(f a:Nat) (A l:List Tk),A.length≤2048→lq s f a A=.ok l→l.length≤2048
 | 0,a,A,l,h,e=>by
  have e':A=l:=by injection e
  rw [←e'];exact h
 | f+1,a,A,l,h,e=>by
  unfold lq at e;split at e
  ·split at e
   ·cases e
   ·split at e
    ·cases e
    ·exact rO s f _ _ l (by rw [List.length_append,List.length_singleton];omega) e
  ·have e':A=l:=by injection e
   rw [←e'];exact h
theorem ql {s:List UInt8} {l:List Tk} (h:iP s=.ok l):l.length≤2048:=by
 unfold iP at h;split at h
 ·cases h
 ·exact rO s _ _ _ l (by simp) h
def RepFns (S:Nat→Prop) (w:World) (v:Value) (l:List Fn):Prop:=∃cs,RowOf S w v 5 l.length cs∧∀i,i<l.length→RepFn S w (cs i) (l.getD i default)
theorem RepFns.nil (S:Nat→Prop) (w:World):RepFns S w (.slice none 0 0) []:=⟨fun _=>[],RowOf.nil _ _ _ _,fun i hi=>absurd hi (by simp)⟩
theorem RepFns.keep {S:Nat→Prop} {w w':World} {v:Value} {l:List Fn} (h:RepFns S w v l) (hk:Stays S w w'):RepFns S w' v l:=by
 obtain ⟨cs,h1,h2⟩:=h;exact ⟨cs,h1.keep hk,fun i hi=>(h2 i hi).keep hk⟩
theorem RepFns.mono {S S':Nat→Prop} {w:World} {v:Value} {l:List Fn} (h:RepFns S w v l) (hb:∀b,S b→S' b):RepFns S' w v l:=by
 obtain ⟨cs,h1,h2⟩:=h;exact ⟨cs,h1.mono hb,fun i hi=>(h2 i hi).mono hb⟩
def lm (w:World) (r:Except (Int×Int) (List Fn)) (e:Ending) (w':World):Prop:=
 (match r with
  | .error (er,p)=>er≠0∧e=.returned (.tuple #[.agg #[.slice none 0 0],.int .i64 er,.int .i64 p])
  | .ok l=>∃v,e=.returned (.tuple #[.agg #[v],.int .i64 0,.int .i64 0])∧RepFns (bN w.heap.size) w' v l)∧Below w.heap.size w w'
end
section
open Go.RowKit
def NoNil {α:Type} (p:Par α):Prop:=∀l er pos,p l=.error (er,pos)→er≠0
theorem NoNil.bind {α β:Type} {p:Par α} {f:α→Par β} (h:NoNil p) (hf:∀x,NoNil (f x)):NoNil (p.bind f):=fun l er pos e=>by
 unfold Par.bind at e;split at e
 ·rename_i e1 h1
  injection e with e
  subst e;exact h _ _ _ h1
 ·exact hf _ _ _ _ e
theorem eU {α:Type} (x:α):NoNil (okP x):=fun l er pos e=>by cases e
theorem cJ (en:Int) (s:ByteArray):NoNil (bh en s):=fun l er pos e=>by
 unfold bh at e;split at e
 ·cases e
 ·cases e;decide
theorem Ba (en k:Int):NoNil (eB en k):=fun l er pos e=>by
 unfold eB at e;split at e
 ·cases e;decide
 ·split at e
  ·cases e
  ·cases e;decide
theorem kS (en:Int):NoNil (ft en):=(Ba en 1).bind fun _=>eU _
theorem yU (en:Int):NoNil (lD en):=fun l er pos e=>by
 unfold lD at e;split at e
 ·cases e
 ·split at e
  ·cases e
  ·exact ((cJ en iw).bind fun _=>eU _) _ _ _ e
theorem qi {α:Type} (en:Int) (one:Par α) (h:NoNil one):∀(f:Nat) (first:Bool) (A:List α),NoNil (eN en one f first A)
 | 0,_,_=>fun l er pos e=>by cases e;decide
 | f+1,first,A=>fun l er pos e=>by
  rw [iG] at e;split at e
  ·cases e
  ·refine (NoNil.bind (p:=if first then okP () else bh en gD) ?_ fun _=>h.bind fun x=>qi en one h f false _) _ _ _ e
   split
   ·exact eU _
   ·exact cJ _ _
theorem ur (en:Int) (n:Nat) (N:Par Ex) (h:NoNil N):∀(f:Nat) (x:Ex),NoNil (eo en n N f x)
 | 0,x=>eU _
 | f+1,x=>fun l er pos e=>by
  unfold eo at e;split at e
  ·cases e
  ·refine (h.bind fun y=>?_) _ _ _ e
   split
   ·exact eU _
   ·exact ur en n N h f _
theorem ku (en:Int) (one:Par Ex) (h:NoNil one):∀j,NoNil (dn en one j)
 | 0=>h
 | j+1=>fun l er pos e=>by
  unfold dn at e;exact ((ku en one h j).bind fun x=>(fun r er pos e=>ur en _ _ (ku en one h j) _ _ _ _ _ e:NoNil _)) _ _ _ e
theorem kL (en:Int) (E:Par Ex) (h:NoNil E):NoNil (dI en E):=(cJ en cV).bind fun _=>h.bind fun _=>(cJ en cZ).bind fun _=>eU _
theorem qZ (en:Int) (E:Par Ex) (h:NoNil E):NoNil (iy en E):=fun l er pos e=>by
 unfold iy at e;split at e
 ·cases e
 split at e
 ·cases e
 split at e
 ·exact kL en E h _ _ _ e
 split at e
 ·exact ((kL en E h).bind fun _=>eU _) _ _ _ e
 split at e
 ·exact ((kL en E h).bind fun _=>eU _) _ _ _ e
 ·exact ((cJ en zT).bind fun _=>(kL en E h).bind fun _=>eU _) _ _ _ e
theorem tD (en:Int) (E:Par Ex) (h:NoNil E):NoNil (dL en E):=fun l er pos e=>by
 unfold dL at e;split at e
 ·exact qZ en E h _ _ _ e
 split at e
 ·cases e
 split at e
 ·cases e
 split at e
 ·split at e
  ·exact ((qi en E h _ _ _).bind fun _=>eU _) _ _ _ e
  ·cases e
 ·exact qZ en E h _ _ _ e
theorem pD (en:Int):∀k,NoNil (fQ en k)
 | 0=>fun l er pos e=>by cases e;decide
 | k+1=>fun l er pos e=>by
  unfold fQ at e;split at e
  ·exact ((pD en k).bind fun _=>eU _) _ _ _ e
  split at e
  ·exact ((pD en k).bind fun _=>eU _) _ _ _ e
  ·exact tD en _ (ku en _ (pD en k) 5) _ _ _ e
theorem AU (en:Int) (k:Nat):NoNil (jj en k):=ku en _ (pD en k) 5
theorem io (en:Int) (s:St):NoNil (iL en s):=(cJ en fq).bind fun _=>eU _
theorem zI (en:Int) (E:Par Ex) (B:Par (List St)) (hE:NoNil E) (hB:NoNil B):NoNil (jz en E B):=fun l er pos e=>by
 unfold jz at e;dsimp only at e;split at e
 ·exact ((kS en).bind fun n=>(cJ en sEq).bind fun _=>hE.bind fun x=>io en _) _ _ _ e
 split at e
 ·refine (hE.bind fun x=>hB.bind fun b=>(fun l er pos e=>?_:NoNil _)) _ _ _ e
  split at e
  ·exact (hB.bind fun e=>eU _) _ _ _ e
  ·cases e
 split at e
 ·exact ((kS en).bind fun n=>(cJ en sEq).bind fun _=>hE.bind fun x=>(cJ en sTo).bind fun _=>hE.bind fun y=>hB.bind fun b=>eU _) _ _ _ e
 split at e
 ·split at e
  ·exact io en _ _ _ _ e
  ·exact (hE.bind fun x=>io en _) _ _ _ e
 split at e
 ·exact ((cJ en cV).bind fun _=>hE.bind fun x=>(cJ en gD).bind fun _=>hE.bind fun y=>(cJ en cZ).bind fun _=>io en _) _ _ _ e
 split at e
 ·exact ((cJ en cV).bind fun _=>hE.bind fun x=>(cJ en cZ).bind fun _=>io en _) _ _ _ e
 split at e<;>split at e<;>first
  | exact ((kS en).bind fun n=>(cJ en sEq).bind fun _=>hE.bind fun x=>io en _) _ _ _ e
  | exact (hE.bind fun x=>io en _) _ _ _ e
theorem q8 (en:Int) (P:Par St) (hP:NoNil P):∀(f:Nat) (A:List St),NoNil (fw en P f A)
 | 0,A=>fun l er pos e=>by cases e;decide
 | f+1,A=>fun l er pos e=>by
  rw [gl] at e;split at e
  ·cases e
  ·exact (hP.bind fun s=>q8 en P hP f _) _ _ _ e
theorem mY (en:Int):∀k,NoNil (dG en k)
 | 0=>fun l er pos e=>by
  unfold dG at e;split at e<;>(cases e;decide)
 | k+1=>fun l er pos e=>by
  unfold dG at e;exact ((cJ en dE).bind fun _=>(fun r er pos e=>q8 en _ (zI en _ _ (AU en k) (mY en k)) _ _ _ _ _ e:NoNil _)) _ _ _ e
theorem Ak (en:Int):NoNil (gu en):=fun l er pos e=>by
 unfold gu at e;refine ((cJ en sFn).bind fun _=>(kS en).bind fun n=>(cJ en cV).bind fun _=>(fun r er pos e=>?_:NoNil _)) _ _ _ e;refine ((qi en _ ((kS en).bind fun n=>(cJ en kj).bind fun _=>(yU en).bind fun t=>eU _) _ _ _).bind fun ps=>(fun r er pos e=>?_:NoNil _)) _ _ _ e;split at e
 ·exact ((yU en).bind fun t=>(mY en 32).bind fun b=>eU _) _ _ _ e
 ·exact ((mY en 32).bind fun b=>eU _) _ _ _ e
theorem wO (en:Int) (f:Nat) (A:List Fn):gz en f A []=.ok (A,[]):=by
 cases f<;>rfl
theorem lL (en:Int):Strict (gu en):=fun l x r e=>by
 unfold gu at e;refine ((aS en sFn).bind fun _=>((dM en).bind fun n=>((aS en cV).bind fun _=>(fun l x r e=>?_:Weak _)).weak).weak) _ _ _ e;refine ((jm en _ (km en) _ _ _).bind fun ps=>(fun l x r e=>?_:Weak _)).weak _ _ _ e;split at e
 ·rename_i h
  have:=bE h;have:=((mH en).bind fun t=>(iB en 32).bind fun b=>di _) _ _ _ e;omega
 ·exact ((iB en 32).bind fun b=>di _) _ _ _ e
theorem qq (s:List UInt8):∀(f a:Nat) (A:List Tk) (er:Int) (p:Nat),lq s f a A=.error (er,p)→er≠0
 | 0,a,A,er,p,e=>by cases e
 | f+1,a,A,er,p,e=>by
  unfold lq at e;split at e
  ·split at e
   ·rename_i h
    injection e with e
    injection e with e1 e2
    subst e1;rcases oN h with q | q<;>omega
   ·split at e
    ·cases e;decide
    ·exact qq s f _ _ er p e
  ·cases e
theorem yW {s:List UInt8} {er:Int} {p:Nat} (h:iP s=.error (er,p)):er≠0:=by
 unfold iP at h;split at h
 ·cases h;decide
 ·exact qq s _ _ _ er p h
end
end
end Go.Proofs.YthgcpfkochikfaaGreat
