/-
  EvalSigns: part 11 of its proof: see the last text.
-/
import Derived.Test.YthgcpfkochikfaaGreatPs10
import Derived.Test.YthgcpfkochikfaaGreatPs00
set_option maxRecDepth 100000
set_option maxHeartbeats 16000000
namespace Go.Proofs.YthgcpfkochikfaaGreat
section
open Go.RowKit
theorem oE {s:List UInt8} {a:Nat} {er:Int} (h:cW s a=.error er):er=31∨er=32:=by
 unfold cW at h;dsimp only at h;repeat' split at h
 all_goals first
  | (injection h with h;omega)
  | (cases h;done)
theorem yO {s:List UInt8} {a:Nat} {t:Tk} {q:Nat} (ha:a<s.length) (h:cW s a=.ok (t,q)):a<q∧q≤s.length:=by
 have B:s.getD a 0=s[a]:=by rw [List.getD_eq_getElem?_getD,List.getElem?_eq_getElem ha];rfl
 have hq:∀p:UInt8→Bool,p s[a]=true→a<bg p s a∧bg p s a≤s.length:=fun p hp=>by
  refine ⟨?_,fj (by omega)⟩;rw [eW ha hp];have:=eR p s (a+1);omega
 unfold cW at h;rw [B] at h;dsimp only at h;split at h
 ·rename_i hl
  have:=hq cQ (by unfold cQ;rw [hl];rfl);split at h
  ·injection h with h;injection h with _ h;omega
  ·split at h
   ·cases h
   ·injection h with h;injection h with _ h;omega
 ·split at h
  ·rename_i hd
   have:=hq cP hd;split at h
   ·cases h
   ·injection h with h;injection h with _ h;omega
  ·split at h
   ·split at h
    ·cases h
    ·rename_i A
     split at h
     ·cases h
     ·injection h with h;injection h with _ h
      have h1:=eR dI s (a+1);have h2:=fj (p:=dI) (s:=s) (a:=a+1) (by omega);have h3:bg dI s (a+1)≠s.length:=fun e=>A (by simp [e]);omega
   ·split at h
    ·cases h
    ·rename_i A
     injection h with h;injection h with _ h
     have h1:0<(bP (cR s a (min (a+2) s.length))).length:=List.length_pos_iff.2 A
     have h2:(bP (cR s a (min (a+2) s.length))).length≤(cR s a (min (a+2) s.length)).length:=by
      generalize cR s a (min (a+2) s.length)=l;match l with
      | []=>simp [bP]
      | [x]=>simp only [bP];split<;>simp
      | x :: y :: r =>
       simp only [bP]
       split
       ·simp
       ·split<;>simp
     rw [fd (by omega)] at h2;omega
def lP (l:List Tk):List Value:=l.flatMap fun t=>[.int .i64 t.kind,.string t.text,.int .i64 t.num,.int .i64 t.pos]
theorem ws (l:List Tk) (t:Tk):lP (l++[t])=lP l++[.int .i64 t.kind,.string t.text,.int .i64 t.num,.int .i64 t.pos]:=by simp [lP]
theorem ud:∀(l:List Tk) (i:Nat),i<l.length→(lP l)[i * 4]?=some (.int .i64 (l.getD i default).kind)∧(lP l)[i * 4+1]?=some (.string (l.getD i default).text)∧(lP l)[i * 4+2]?=some (.int .i64 (l.getD i default).num)∧(lP l)[i * 4+3]?=some (.int .i64 (l.getD i default).pos)
 | [],i,h=>by simp at h
 | x :: l,i,h=>by
  have e:lP (x :: l)=.int .i64 x.kind :: .string x.text :: .int .i64 x.num :: .int .i64 x.pos :: lP l:=rfl;rw [e]
  cases i with
  | zero=>exact ⟨rfl,rfl,rfl,rfl⟩
  | succ i =>
   have:=ud l i (by simpa using h);rw [show (i+1)*4=i * 4+1+1+1+1 by omega];simpa using this
def RowTk (w:World) (s0:Option Addr) (l:List Tk):Prop:=
 0<l.length→∃b off,s0=some ⟨b,off,none⟩∧b<w.heap.size∧∀i,i<l.length→w.cell? ⟨b,off+i * 4,none⟩=some (.int .i64 (l.getD i default).kind)∧w.cell? ⟨b,off+i * 4+1,none⟩=some (.string (l.getD i default).text) ∧
  w.cell? ⟨b,off+i * 4+2,none⟩=some (.int .i64 (l.getD i default).num)∧w.cell? ⟨b,off+i * 4+3,none⟩=some (.int .i64 (l.getD i default).pos)
def Bt (w:World) (v:Value) (l:List Tk):Prop:=∃s0 cap,v=.slice s0 l.length cap∧l.length≤cap∧cap≤maxLen∧(s0=none→cap=0)∧RowTk w s0 l
theorem xj {w:World} {base:Nat} {v:Value} {l:List Tk} (h:w.ownsRow base 157 4 v l.length (lP l)):Bt w v l:=by
 obtain ⟨s0,cap,rfl,h1,h2,h3,h4⟩:=ba h;refine ⟨s0,cap,rfl,h1,h2,h3,fun h0=>?_⟩;obtain ⟨g,rfl,_,hg,hc⟩:=h4 h0;refine ⟨g,0,rfl,hg,fun i hi=>?_⟩;obtain ⟨a0,a1,a2,a3⟩:=ud l i hi;rw [Nat.zero_add];exact ⟨hc _ _ a0,hc _ _ a1,hc _ _ a2,hc _ _ a3⟩
theorem lB {W W':World} {base e s:Nat} {v:Value} {n:Nat} {xs:List Value} (h:W.ownsRow base e s v n xs) (hb:Below W.heap.size W W'):W'.ownsRow base e s v n xs:=
 h.kept (row:=none) ⟨hb.os,hb.tape,hb.output,hb.size,fun k hk _=>hb.block k hk⟩ (by cases hv:v.ownBlock<;>simp)
theorem ja {W:World} {g:Nat} {A:Array Value} {t:TypeId} {fz:Nat×Nat} (h:W.heap[g]?=some (.cells A t fz)):∀j u,A.toList[j]?=some u→W.cell? ((⟨g,0,none⟩:Addr).add j)=some u:=by
 intro j u hj;rw [Go.WideShapes.add_plain,Nat.zero_add];exact aa h (by simpa using hj)
def Ba (w:World) (r:Except (Int×Nat) (List Tk)) (e:Ending) (w':World):Prop:=
 (match r with
  | .error (er,p)=>e=.returned (.tuple #[.slice none 0 0,.int .i64 er,.int .i64 (p:Int)])
  | .ok l=>∃v,e=.returned (.tuple #[v,.int .i64 0,.int .i64 0])∧Bt w' v l)∧Below w.heap.size w w'
theorem CY:∃i,Tryz.prog.info? 157=some i∧i.zero=some (.agg #[.int .i64 0,.string ⟨#[]⟩,.int .i64 0,.int .i64 0])∧i.size=4∧i.bytes=40:=by
 have h:(Tryz.prog.info? 157).map (fun i=>(i.zero,i.size,i.bytes))=some (some (.agg #[.int .i64 0,.string ⟨#[]⟩,.int .i64 0,.int .i64 0]),4,40):=by kernel_rfl
 obtain ⟨i,h1,h2⟩:=Option.map_eq_some_iff.1 h;simp only [Prod.mk.injEq] at h2
 exact ⟨i,h1,h2.1,h2.2.1,h2.2.2⟩
theorem A5 (s0:Option Addr) (cap:Nat) (s:List UInt8) (w:World) (hs:SrcAt w s0 s) (hl:s.length≤1152921504606846976) (hc:s.length≤cap) :
    Calls Tryz.prog 49 #[.slice s0 s.length cap] w (Ba w (iP s)):=by
 have HS:=zh hs;by_cases C:4096<s.length
 ·have HF:Hd (iP s=.error (2,0)):=zh (by unfold iP;rw [if_pos C])
  have hb:(4096:Int)<(s.length:Int):=by omega
  clear hs C;go_enter Tryz.func49,Tryz.ntmps49
  go_wp2_with fail
  go_ret3
  rw [HF.o];exact ⟨rfl,Below.refl _ _⟩
 have hb:¬(4096:Int)<(s.length:Int):=by omega
 have HT:Hd (iP s=kY s (s.length+1) (bD s 0) []):=zh (by unfold iP;rw [if_neg C]);have h6:s.length≤4096:=by omega
 clear hs C hl;go_enter Tryz.func49,Tryz.ntmps49
 go_wp2_with fail
 refine (mA s0 cap s 0 w HS.o (by omega) (by omega)).mono ?_;rintro e w1 ⟨rfl,W⟩;have h2:=zh W;have j:=mr (s:=s) (a:=0) (by omega);clear W;obtain ⟨i0,T,f,d,c⟩:=CY;have h0:=zh T;clear T;go_wp2_with fail
 generalize hA:bD s 0=A0 at *;have HA:=zh hA;clear hA;go_loopg [5,6] (s.length+1) (fun g s5 s6 wr=>∃(a:Nat) (v:Value) (out:List Tk),s5=v∧s6=.int .i64 a∧a≤s.length∧s.length-a<g∧out.length≤2048∧iP s=kY s g a out∧wr.ownsRow w.heap.size 157 4 v out.length (lP out)∧Below w.heap.size w wr)
 case atStart=>exact ⟨A0,_,[],rfl,rfl,j,by omega,by simp,HT.o,gy,h2.o⟩
 case round =>
  obtain ⟨a,v,out,rfl,rfl,ha,hg,i,J,F,V⟩:=hrel;obtain ⟨g,rfl⟩:∃g,gk=g+1:=⟨gk-1,by omega⟩
  have X:Hd (iP s=if a<s.length then (match cW s a with | .error e=>.error (e,a) | .ok (t,q)=>if out.length=2048 then .error (2,a) else kY s g (bD s q) (out++[t])) else .ok out):=zh J;have M:=zh F;have O:=zh V;obtain ⟨sv,cv,hv,_⟩:=ba F;clear J F V;by_cases I:a<s.length
  ·obtain ⟨b,off,h,h8,P⟩:=HS.o (by omega)
   subst h;have N:=zh (yN b off cap s a wr (HS.o.later O.o) I (by omega) (by omega));have Y:Hd (∀r,cW s a=r→iP s=(match r with | .error e=>.error (e,a) | .ok (t,q)=>if out.length=2048 then .error (2,a) else kY s g (bD s q) (out++[t]))):=zh (fun r hr=>by rw [X.o,if_pos I,hr]);clear P
   cases hnx:cW s a with
   | error er =>
    have l:=oE hnx;rw [hnx] at N;have HF:=zh (Y.o _ hnx);have h7:(er==0)=false:=by simp;omega
    have m:(er !=0)=true:=by simp;omega
    clear hnx l;go_wp2_with fail
    refine N.o.mono ?_;rintro e w2 ⟨⟨k,t,n,p,rfl⟩,G⟩;have H:=zh (am O.o G);clear G;unfold tkV;go_wp2_with fail
    go_ret3
    rw [HF.o];exact ⟨rfl,ag H.o _⟩
   | ok r =>
    obtain ⟨t,q⟩:=r;obtain ⟨h4,h3⟩:=yO I hnx;rw [hnx] at N;have HF:=zh (Y.o _ hnx);clear hnx;go_wp2_with fail
    refine N.o.mono ?_;rintro e w2 ⟨U,G⟩;dsimp only at U;subst U;have H:=zh (am O.o G);unfold tkV;have E:=zh (lB M.o G);clear G;subst hv;by_cases A:out.length=2048
    ·have S:Hd (iP s=.error (2,a)):=zh (by rw [HF.o];exact if_pos A)
     have hd:((out.length:Int)==2048)=true:=by simp;omega
     clear A;go_wp2_with fail
     go_ret3
     rw [S.o];exact ⟨rfl,ag H.o _⟩
    have S:Hd (iP s=kY s g (bD s q) (out++[t])):=zh (by rw [HF.o];exact if_neg A);have hd:((out.length:Int)==2048)=false:=by simp;omega
    have h5:out.length<2048:=by omega
    clear A;go_wp2_with (at_builtin;refine wpList_append_own _ rfl _ _ _ rfl w.heap.size 157 i0 (.agg #[.int .i64 0,.string ⟨#[]⟩,.int .i64 0,.int .i64 0]) 4 40 Tryz.underlying102 h0.o f d c rfl (by decide) _ out.length (lP out) rfl ((E.o.alloc _).alloc _) ⟨w2.heap.size+1,0,none⟩ 1 1 [.int .i64 t.kind,.string t.text,.int .i64 t.num,.int .i64 t.pos] rfl rfl (ja (aj _ _ _ (ah _ _))) (by intro u hu;simp at hu;rcases hu with rfl | rfl | rfl | rfl<;>rfl) (by unfold maxLen;omega) (by omega) (by have:=H.o.size;rw [ah,ah];omega) ?_;intro v' w3 D B _)
    have Z:Hd (Below w.heap.size w w3):=zh ((ag (ag H.o _) _).grown B (ag (ag H.o _) _).size (fun k hk=>(E.o.lt k hk).1));have L:=zh D;clear D B;refine (mA _ cap s q w3 (HS.o.later Z.o) (by omega) (by omega)).mono ?_;rintro e w4 ⟨rfl,R⟩;have h1:=zh (am Z.o R);have K:=zh (lB L.o R);have Q:=mr (s:=s) (a:=q) (by omega);have x:=tE s q;clear R;go_wp2_with fail
    go_roundg g
    case measure=>omega
    case rel=>exact ⟨bD s q,_,out++[t],rfl,rfl,Q,by omega,by simp;omega,S.o,by rw [List.length_append,ws];exact K.o,h1.o⟩
  ·have HF:Hd (iP s=.ok out):=zh (by rw [X.o,if_neg I])
   have y:a=s.length:=by omega
   have z:=zh (xj M.o);subst y hv;clear I;go_wp2_with fail
   go_ret3
   rw [HF.o];exact ⟨⟨_,rfl,z.o⟩,O.o⟩
end
section
open Go.RowKit
structure RdAt (w:World) (rb:Nat) (l:List Tk) (en:Int):Prop where
 obj:∃arr,w.heap[rb]?=some (.cells arr 110 (0,0))
 rest:∃s0 cap,w.cell? ⟨rb,0,none⟩=some (.slice s0 l.length cap)∧l.length≤cap∧cap≤maxLen∧RowTk w s0 l∧∀b off,s0=some ⟨b,off,none⟩→b<rb
 fin:w.cell? ⟨rb,1,none⟩=some (.int .i64 en)
 few:l.length≤100000
theorem RdAt.on {w w':World} {rb:Nat} {l:List Tk} {en:Int} (h:RdAt w rb l en) (hb:Below w.heap.size w w'):RdAt w' rb l en:=by
 obtain ⟨arr,ho⟩:=h.obj;obtain ⟨s0,cap,h1,h2,h3,h4,h5⟩:=h.rest;refine ⟨⟨arr,(hb.block _ (af ho)).trans ho⟩,⟨s0,cap,(bh hb _ _ (af ho)).trans h1,h2,h3,fun h0=>?_,h5⟩,(bh hb _ _ (af ho)).trans h.fin,h.few⟩;obtain ⟨b,off,e,A,hc⟩:=h4 h0;refine ⟨b,off,e,Nat.lt_of_lt_of_le A hb.size,fun i hi=>?_⟩;obtain ⟨x0,x1,x2,x3⟩:=hc i hi;exact ⟨(bh hb _ _ A).trans x0,(bh hb _ _ A).trans x1,(bh hb _ _ A).trans x2,(bh hb _ _ A).trans x3⟩
theorem RdAt.lt {w:World} {rb:Nat} {l:List Tk} {en:Int} (h:RdAt w rb l en):rb<w.heap.size:=by
 obtain ⟨arr,ho⟩:=h.obj;exact af ho
theorem RdAt.off {w w':World} {rb k:Nat} {l:List Tk} {en:Int} (h:RdAt w rb l en) (ho:On k w w') (hk:rb<k):RdAt w' rb l en:=by
 obtain ⟨arr,A⟩:=h.obj;obtain ⟨s0,cap,h1,h2,h3,h4,h5⟩:=h.rest;refine ⟨⟨arr,ho.obj (Nat.ne_of_lt hk) A⟩,⟨s0,cap,ho.cell (Nat.ne_of_lt hk) h1,h2,h3,fun h0=>?_,h5⟩,ho.cell (Nat.ne_of_lt hk) h.fin,h.few⟩;obtain ⟨b,off,e,B,hc⟩:=h4 h0;have hb:=h5 b off e;refine ⟨b,off,e,Nat.lt_of_lt_of_le B ho.size,fun i hi=>?_⟩;obtain ⟨x0,x1,x2,x3⟩:=hc i hi;exact ⟨ho.cell (by omega) x0,ho.cell (by omega) x1,ho.cell (by omega) x2,ho.cell (by omega) x3⟩
theorem RdAt.set {w:World} {rb:Nat} {l r:List Tk} {en:Int} (h:RdAt w rb l en) {s0:Option Addr} {cap:Nat} (hf:r.length≤l.length) (h1:r.length≤cap) (h2:cap≤maxLen) (h3:RowTk w s0 r) (h4:∀b off,s0=some ⟨b,off,none⟩→b<rb):RdAt (w.setCell ⟨rb,0,none⟩ (.slice s0 r.length cap)) rb r en:=by
 obtain ⟨_,_,B,_⟩:=h.rest;refine ⟨qM h.obj,⟨s0,cap,dH _ B,h1,h2,fun h0=>?_,h4⟩,(aS _ _ (.inr (by omega))).trans h.fin,Nat.le_trans hf h.few⟩;obtain ⟨b,off,e,C,hc⟩:=h3 h0;have A:=Nat.ne_of_lt (h4 b off e);refine ⟨b,off,e,by rw [aC];exact C,fun i hi=>?_⟩;obtain ⟨x0,x1,x2,x3⟩:=hc i hi;exact ⟨(aS _ _ (.inl (Ne.symm A))).trans x0,(aS _ _ (.inl (Ne.symm A))).trans x1,(aS _ _ (.inl (Ne.symm A))).trans x2,(aS _ _ (.inl (Ne.symm A))).trans x3⟩
theorem RowTk.tail {w:World} {b off:Nat} {t:Tk} {r:List Tk} (h:RowTk w (some ⟨b,off,none⟩) (t :: r)):RowTk w (some ⟨b,off+4,none⟩) r:=fun _=>by
 obtain ⟨b',off',e,A,hc⟩:=h (by simp);injection e with e
 injection e with e1 e2
 subst e1 e2;refine ⟨b,off+4,rfl,A,fun i hi=>?_⟩;have:=hc (i+1) (by simpa using hi);rw [show off+(i+1)*4=off+4+i * 4 by omega] at this;simpa using this
def Pan (er p:Int):Ending:=.panicked [{ v:=.iface 106 (.agg #[.int .i64 er,.int .i64 p]),recovered:=false }]
def PSays {α:Type} (rb:Nat) (en:Int) (w:World) (R:World→α→Value→Prop) (r:Except (Int×Int) (α×List Tk)) (e:Ending) (w':World):Prop:=
 (match r with
  | .error (er,p)=>e=Pan er p
  | .ok (x,l)=>∃v,e=.returned v∧R w' x v∧RdAt w' rb l en)∧On rb w w'
theorem fH (rb:Nat) (l:List Tk) (en:Int) (w:World) (h:RdAt w rb l en):Calls Tryz.prog 70 #[.pointer (some ⟨rb,0,none⟩)] w fun e w'=>e=.returned (.int .i64 (aQ en l))∧w=w':=by
 obtain ⟨s0,cap,H,G,E,B,_⟩:=h.rest;have D:=h.fin;have HR:=zh B;clear h B;unfold maxLen at E
 cases l with
 | nil =>
  go_enter Tryz.func70,Tryz.ntmps70
  go_wp2_with fail
  go_ret
  exact ⟨rfl,rfl⟩
 | cons t r =>
  obtain ⟨b,off,hs,I,A⟩:=HR.o (by simp);subst hs;obtain ⟨_,_,_,t3⟩:=A 0 (by simp);have t3':w.cell? ⟨b,off+3,none⟩=some (.int .i64 t.pos):=by simpa using t3
  clear A t3;have hn:(((t :: r).length:Int)==0)=false:=by simp;omega
  have F:(0:Int)<((t :: r).length:Int):=by simp
  have C:aQ en (t :: r)=t.pos:=rfl;rw [C];generalize t.pos=ps at *;generalize (t :: r).length=n at *;go_enter Tryz.func70,Tryz.ntmps70
  go_wp2_with fail
  go_ret
  exact ⟨rfl,rfl⟩
theorem mE (rb:Nat) (l:List Tk) (en er:Int) (w:World) (h:RdAt w rb l en):Calls Tryz.prog 99 #[.pointer (some ⟨rb,0,none⟩),.int .i64 er] w fun e w'=>e=Pan er (aQ en l)∧w=w':=by
 go_enter Tryz.func99,Tryz.ntmps99
 go_wp2_with fail
 refine (fH rb l en _ h).mono ?_;rintro e w1 ⟨rfl,rfl⟩;go_wp2_with fail
 exact ⟨rfl,rfl,rfl⟩
theorem pD (rb:Nat) (d:Int) (w:World) (hd:d≤32):Calls Tryz.prog 102 #[.pointer (some ⟨rb,0,none⟩),.int .i64 d] w fun e w'=>e=.returned (.int .i64 d)∧w=w':=by
 go_enter Tryz.func102,Tryz.ntmps102
 go_wp2_with fail
 go_ret
 exact ⟨rfl,rfl⟩
theorem pQ (rb:Nat) (l:List Tk) (en d:Int) (w:World) (h:RdAt w rb l en) (hd:32<d):Calls Tryz.prog 102 #[.pointer (some ⟨rb,0,none⟩),.int .i64 d] w fun e w'=>e=Pan 42 (aQ en l)∧w=w':=by
 go_enter Tryz.func102,Tryz.ntmps102
 go_wp2_with fail
 refine (mE rb l en 42 _ h).mono ?_;rintro e w1 ⟨rfl,rfl⟩;unfold Pan;go_wp2_with fail
 exact ⟨rfl,rfl,rfl⟩
theorem fu (rb i:Nat) (s:ByteArray) (l:List Tk) (en:Int) (w:World) (h:RdAt w rb l en):Calls Tryz.prog 101 #[.pointer (some ⟨rb,0,none⟩),.int .i64 (i:Int),.string s] w fun e w'=>e=.returned (.bool (atS l i s))∧w=w':=by
 obtain ⟨s0,cap,G,E,D,B,_⟩:=h.rest;have HR:=zh B;clear h B;unfold maxLen at D;by_cases hi:i<l.length
 ·obtain ⟨b,off,hs,H,A⟩:=HR.o (by omega)
  subst hs;obtain ⟨t0,t1,_,_⟩:=A i hi
  have HA:Hd (∀z,((l.getD i default).kind==4)=z→atS l i s=(z&&(l.getD i default).text.toList==s.toList)):=zh (fun z hz=>by
    unfold atS;rw [List.getElem?_eq_getElem hi,List.getD_eq_getElem?_getD,List.getElem?_eq_getElem hi] at *;dsimp only [Option.getD_some] at *;rw [hz])
  have C:=zh (HA.o _ rfl);clear A;generalize (l.getD i default).kind=k at *;generalize (l.getD i default).text=tx at *;generalize atS l i s=q at *
  cases hk:(k==4)
  ·have HF:Hd (q=false):=zh (by rw [C.o,hk];rfl)
   clear HA C;go_enter Tryz.func101,Tryz.ntmps101
   go_wp2_with fail
   go_ret
   exact ⟨ew HF.o.symm,rfl⟩
  ·have HF:Hd (q=(tx.toList==s.toList)):=zh (by rw [C.o,hk];rfl)
   clear HA C;go_enter Tryz.func101,Tryz.ntmps101
   go_wp2_with fail
   go_ret
   exact ⟨ew HF.o.symm,rfl⟩
 ·have HF:Hd (atS l i s=false):=zh (by unfold atS;rw [List.getElem?_eq_none (by omega)])
  have F:¬((i:Int)<(l.length:Int)):=by omega
  generalize atS l i s=q at *;go_enter Tryz.func101,Tryz.ntmps101
  go_wp2_with fail
  go_ret
  exact ⟨ew HF.o.symm,rfl⟩
theorem lQ (i:Nat) (s:ByteArray):atS [] i s=false:=by unfold atS;simp
theorem uh {rb:Nat} {w:World} {t:Tk} {r:List Tk} {en:Int} {b off cap n:Nat} (h:RdAt w rb (t :: r) en) (D:w.cell? ⟨rb,0,none⟩=some (.slice (some ⟨b,off,none⟩) n cap)) (s0:Option Addr) (c k:Nat) (hk:k=r.length)
    (h1:k≤c) (h2:c≤maxLen) (h3:0<k→s0=some ⟨b,off+4,none⟩) (h4:∀b' o',s0=some ⟨b',o',none⟩→b'=b):RdAt (w.setCell ⟨rb,0,none⟩ (.slice s0 k c)) rb r en:=by
 obtain ⟨s0',cap',A,_,_,B,C⟩:=h.rest;rw [D] at A;injection A with e
 injection e with e1 e2 e3
 subst e1 hk;refine h.set (Nat.le_succ _) h1 h2 (fun h0=>?_) (fun b' o' e=>?_)
 ·have:=h3 h0
  subst this;exact B.tail h0
 ·rw [h4 b' o' e]
  exact C b off rfl
theorem jv (rb:Nat) (s:ByteArray) (l:List Tk) (en:Int) (w:World) (h:RdAt w rb l en) :
    Calls Tryz.prog 76 #[.pointer (some ⟨rb,0,none⟩),.string s] w fun e w'=>e=.returned (.bool (atS l 0 s))∧RdAt w' rb (if atS l 0 s then l.tail else l) en∧On rb w w':=by
 have HA:=zh (fu rb 0 s l en w h);have HH:=zh h
 cases l with
 | nil =>
  rw [lQ] at *;clear h;go_enter Tryz.func76,Tryz.ntmps76
  go_wp2_with fail
  refine HA.o.mono ?_;rintro e w1 ⟨rfl,rfl⟩;go_wp2_with fail
  go_ret
  exact ⟨rfl,HH.o,On.refl _ _⟩
 | cons t r =>
  obtain ⟨s0,cap,I,K,H,B,G⟩:=h.rest;obtain ⟨b,off,hs,M,_⟩:=B (by simp);subst hs;have HT:=zh (fun s0 c k=>uh (n:=(t :: r).length) (cap:=cap) h I s0 c k)
  have L:w.frozen? ⟨rb,0,none⟩=false:=by
   obtain ⟨_,ho⟩:=h.obj;exact ae ho 0
  have J:(1:Int)≤((t :: r).length:Int):=by simp;omega
  have A:(t :: r).length=r.length+1:=rfl;have C:=zh A;clear B h G;unfold maxLen at H
  cases hq:atS (t :: r) 0 s
  ·rw [hq] at HA
   clear hq A;generalize (t :: r).length=n at *;go_enter Tryz.func76,Tryz.ntmps76
   go_wp2_with fail
   refine HA.o.mono ?_;rintro e w1 ⟨rfl,rfl⟩;go_wp2_with fail
   go_ret
   exact ⟨rfl,HH.o,On.refl _ _⟩
  ·rw [hq] at HA
   clear hq A;generalize (t :: r).length=n at *;by_cases D:cap=1
   ·subst D
    have E:n=1:=by omega
    have N:=zh E;subst E;go_enter Tryz.func76,Tryz.ntmps76
    go_wp2_with fail
    refine HA.o.mono ?_;rintro e w1 ⟨rfl,rfl⟩;go_wp2_with fail
    go_ret
    exact ⟨rfl,HT.o _ 0 0 (by have:=C.o;omega) (Nat.le_refl _) (Nat.zero_le _) (fun h=>absurd h (by omega)) (fun b' o' e=>by injection e with e;injection e with e _;exact e.symm),(On.refl _ _).set 0 _⟩
   ·have F:(1:Int)<(cap:Int):=by omega
    go_enter Tryz.func76,Tryz.ntmps76
    go_wp2_with fail
    refine HA.o.mono ?_;rintro e w1 ⟨rfl,rfl⟩;go_wp2_with fail
    go_ret
    exact ⟨rfl,HT.o _ (cap-1) (n-1) (by have:=C.o;omega) (by omega) (by unfold maxLen;omega) (fun _=>rfl) (fun b' o' e=>by injection e with e;injection e with e _;exact e.symm),(On.refl _ _).set 0 _⟩
theorem aV (rb sb:Nat) (s:ByteArray) (l:List Tk) (en:Int) (w:World) (h:RdAt w rb l en) (hs:w.cell? ⟨sb,0,none⟩=some (.string s)) :
    Calls Tryz.prog 71 #[.pointer (some ⟨rb,0,none⟩),.slice (some ⟨sb,0,none⟩) 1 1] w (PSays rb en w (fun _ _ v=>v=.tuple #[]) (bq en s l)):=by
 have HA:=zh (jv rb s l en w h);have HF:=zh (fun (W:World) (hW:RdAt W rb l en)=>mE rb l en 41 W hW);have E:Hd (atS l 0 s=true→bq en s l=.ok ((),l.tail)):=zh (fun h=>by unfold bq;rw [if_pos h]);have F:Hd (atS l 0 s=false→bq en s l=.error (41,aQ en l)):=zh (fun h=>by unfold bq;rw [if_neg (by rw [h];decide)]);generalize bq en s l=m at *;generalize aQ en l=pl at *;have HH:=zh h;clear h;go_enter Tryz.func71,Tryz.ntmps71
 go_wp2_with fail
 cases hq:atS l 0 s
 ·rw [hq] at HA F E
  have HM:=zh (F.o rfl);clear hq;go_loopw [8] (fun s8 wr=>s8=.int .i64 0∧w=wr) (fun s8 _=>1-(intOf s8).toNat)
  case atStart=>exact ⟨rfl,rfl⟩
  case round =>
   obtain ⟨rfl,rfl⟩:=hrel;go_wp2_with fail
   refine HA.o.mono ?_;rintro e w1 ⟨rfl,A,B⟩;have C:=zh A;have D:=zh B;clear A B;go_wp2_with fail
   refine (HF.o w1 C.o).mono ?_;rintro e w2 ⟨rfl,rfl⟩;unfold Pan;go_wp2_with fail
   refine ⟨rfl,?_⟩;rw [HM.o];exact ⟨rfl,D.o⟩
 ·rw [hq] at HA F E
  have HM:=zh (E.o rfl);clear hq;go_loopw [8] (fun s8 wr=>(s8=.int .i64 0∧w=wr)∨(s8=.int .i64 1∧RdAt wr rb l.tail en∧On rb w wr)) (fun s8 _=>1-(intOf s8).toNat)
  case atStart=>exact .inl ⟨rfl,rfl⟩
  case round =>
   rcases hrel with ⟨rfl,rfl⟩ | ⟨rfl,A,B⟩
   ·go_wp2_with fail
    refine HA.o.mono ?_;rintro e w1 ⟨rfl,A,B⟩;have C:=zh A;have D:=zh B;clear A B;go_wp2_with fail
    go_roundw
    case rel=>exact .inr ⟨rfl,C.o,D.o⟩
    case measure=>simp [intOf]
   ·have C:=zh A
    have D:=zh B;clear A B;go_wp2_with fail
    go_end0
    rw [HM.o];exact ⟨⟨_,rfl,rfl,C.o⟩,D.o⟩
theorem qL (rb:Nat) (k:Int) (l:List Tk) (en:Int) (w:World) (h:RdAt w rb l en) :
    Calls Tryz.prog 100 #[.pointer (some ⟨rb,0,none⟩),.int .i64 k] w (PSays rb en w (fun _ t v=>v=tkV t.kind t.text t.num t.pos) (eD en k l)):=by
 have HF:=zh (fun (W:World) (hW:RdAt W rb l en)=>mE rb l en 41 W hW);have HH:=zh h;have D:Below w.heap.size w (w.alloc (.cells #[.int .i64 0,.string ⟨#[]⟩,.int .i64 0,.int .i64 0] 157)):=ag (Below.refl _ _) _;have J:=zh D;have I:=zh (h.on D);have S:=h.lt;obtain ⟨s0,cap,H,T,M,B,F⟩:=h.rest;unfold maxLen at M
 cases l with
 | nil =>
  have HM:Hd (eD en k []=.error (41,aQ en [])):=zh rfl;clear h B D F;go_enter Tryz.func100,Tryz.ntmps100
  go_wp2_with fail
  refine (HF.o _ I.o).mono ?_;rintro e w2 ⟨rfl,rfl⟩;unfold Pan;go_wp2_with fail
  refine ⟨rfl,?_⟩;rw [HM.o];exact ⟨rfl,On.of_below J.o⟩
 | cons t r =>
  obtain ⟨b,off,hs,V,A⟩:=B (by simp);subst hs;obtain ⟨x0,x1,x2,x3⟩:=A 0 (by simp);have y0:w.cell? ⟨b,off,none⟩=some (.int .i64 t.kind):=by simpa using x0
  have y1:w.cell? ⟨b,off+1,none⟩=some (.string t.text):=by simpa using x1
  have y2:w.cell? ⟨b,off+2,none⟩=some (.int .i64 t.num):=by simpa using x2
  have y3:w.cell? ⟨b,off+3,none⟩=some (.int .i64 t.pos):=by simpa using x3
  have HT:=zh (fun (W:World) (hW:RdAt W rb (t :: r) en) (N:W.cell? ⟨rb,0,none⟩=some (.slice (some ⟨b,off,none⟩) (t :: r).length cap)) s0 c k=>uh (n:=(t :: r).length) (cap:=cap) hW N s0 c k)
  have U:w.frozen? ⟨rb,0,none⟩=false:=by
   obtain ⟨_,ho⟩:=h.obj;exact ae ho 0
  have Q:(((t :: r).length:Int)==0)=false:=by simp;omega
  have R:(1:Int)≤((t :: r).length:Int):=by simp;omega
  have C:=zh (show (t :: r).length=r.length+1 from rfl);have O:Hd ((t.kind==k)=true→eD en k (t :: r)=.ok (t,r)):=zh (fun h=>by unfold eD;dsimp only;rw [if_pos h]);have P:Hd ((t.kind==k)=false→eD en k (t :: r)=.error (41,aQ en (t :: r))):=zh (fun h=>by unfold eD;dsimp only;rw [if_neg (by rw [h];decide)];rfl);clear h B D F A x0 x1 x2 x3;generalize eD en k (t :: r)=m at *;generalize aQ en (t :: r)=pl at *
  cases hq:(t.kind==k)
  ·have HM:=zh (P.o hq)
   have K:(t.kind !=k)=true:=by simp [bne,hq]
   clear hq;generalize (t :: r).length=n at *;go_enter Tryz.func100,Tryz.ntmps100
   go_wp2_with fail
   refine (HF.o _ I.o).mono ?_;rintro e w2 ⟨rfl,rfl⟩;unfold Pan;go_wp2_with fail
   refine ⟨rfl,?_⟩;rw [HM.o];exact ⟨rfl,On.of_below J.o⟩
  ·have HM:=zh (O.o hq)
   have K:(t.kind !=k)=false:=by simp [bne,hq]
   clear hq;generalize (t :: r).length=n at *;by_cases E:cap=1
   ·subst E
    have L:n=1:=by omega
    subst L;go_enter Tryz.func100,Tryz.ntmps100
    go_wp2_with fail
    refine bodyPost_ret (v:=tkV t.kind t.text t.num t.pos) (by simp [results,Tryz.results100,go_sem,tkV]) rfl ?_;rw [HM.o];exact ⟨⟨_,rfl,rfl,(HT.o w HH.o H _ 0 0 (by have:=C.o;omega) (Nat.le_refl _) (Nat.zero_le _) (fun h=>absurd h (by omega)) (fun b' o' e=>by injection e with e;injection e with e _;exact e.symm)).on (ag (ag (Below.refl _ _) _) _)⟩,(((On.refl _ _).set 0 _).alloc _).alloc _⟩
   ·have G:(1:Int)<(cap:Int):=by omega
    go_enter Tryz.func100,Tryz.ntmps100
    go_wp2_with fail
    refine bodyPost_ret (v:=tkV t.kind t.text t.num t.pos) (by simp [results,Tryz.results100,go_sem,tkV]) rfl ?_;rw [HM.o];exact ⟨⟨_,rfl,rfl,(HT.o w HH.o H _ (cap-1) (n-1) (by have:=C.o;omega) (by omega) (by unfold maxLen;omega) (fun _=>rfl) (fun b' o' e=>by injection e with e;injection e with e _;exact e.symm)).on (ag (ag (Below.refl _ _) _) _)⟩,(((On.refl _ _).set 0 _).alloc _).alloc _⟩
theorem ou (k n p:Int) (t:ByteArray) (W:World):(Instr.field 157 (.agg #[.int .i64 k,.string t,.int .i64 n,.int .i64 p]) 1).run Tryz.prog W=.ok (.string t) W:=by kernel_rfl
theorem gV (rb:Nat) (l:List Tk) (en:Int) (w:World) (h:RdAt w rb l en) :
    Calls Tryz.prog 72 #[.pointer (some ⟨rb,0,none⟩)] w (PSays rb en w (fun _ t v=>v=.string t) (ff en l)):=by
 have HK:=zh (qL rb 1 l en w h)
 have HN:Hd (∀m,eD en 1 l=m→ff en l=(match m with | .error e=>.error e | .ok (t,r)=>.ok (t.text,r))):=zh (fun m hm=>by
   unfold ff Par.bind;rw [hm]
   cases m with
   | error e=>rfl
   | ok x=>rfl)
 clear h
 cases hm:eD en 1 l with
 | error e =>
  obtain ⟨er,p⟩:=e;rw [hm] at HK;have A:=zh (HN.o _ hm);clear hm;go_enter Tryz.func72,Tryz.ntmps72
  go_wp2_with fail
  refine HK.o.mono ?_;rintro e w1 ⟨he,ho⟩;have B:e=Pan er p:=he;subst B;have HO:=zh ho;clear ho he;unfold Pan;go_wp2_with fail
  refine ⟨rfl,?_⟩;rw [A.o];exact ⟨rfl,HO.o⟩
 | ok x =>
  obtain ⟨t,r⟩:=x;rw [hm] at HK;have A:=zh (HN.o _ hm);clear hm;go_enter Tryz.func72,Tryz.ntmps72
  go_wp2_with fail
  refine HK.o.mono ?_;rintro e w1 ⟨⟨v,rfl,rfl,hr⟩,ho⟩;have HO:=zh ho;have HR:=zh hr;clear ho hr;unfold tkV;have C:=ou t.kind t.num t.pos t.text w1;go_wp2_with fail
  go_ret
  rw [A.o];exact ⟨⟨_,rfl,rfl,HR.o⟩,HO.o⟩
end
end Go.Proofs.YthgcpfkochikfaaGreat
