/-
  EvalLoops: part 10 of its proof: see the last text.
-/
import Derived.Test.YthgcpfkochikfaaGreatPq09
import Derived.Test.YthgcpfkochikfaaGreatPq00
set_option maxRecDepth 100000
set_option maxHeartbeats 16000000
namespace Go.Proofs.YthgcpfkochikfaaGreat
section
open Go.RowKit
theorem eR {a b:World} (h:Below a.heap.size a b) {k j:Nat} (hk:a.heap.size≤k) (u:Value):Below a.heap.size a (b.setCell ⟨k,j,none⟩ u):=dk h (p:=⟨k,j,none⟩) hk u
def tkV (k:Int) (t:ByteArray) (n p:Int):Value:=.agg #[.int .i64 k,.string t,.int .i64 n,.int .i64 p]
def xN (w:World) (r:Except Int (Tk×Nat)) (e:Ending) (w':World):Prop:=
 (match r with
  | .error er=>∃k t n p,e=.returned (.tuple #[tkV k t n p,.int .i64 0,.int .i64 er])
  | .ok (t,q)=>e=.returned (.tuple #[tkV t.kind t.text t.num t.pos,.int .i64 (q:Int),.int .i64 0]))∧Below w.heap.size w w'
theorem kY (lo hi:Int) (w:World):Calls Tryz.prog 93 #[.int .u8 lo,.int .u8 hi] w fun e w'=>e=.returned (.func (.func 124) #[] #[.pointer (some ⟨w.heap.size,0,none⟩),.pointer (some ⟨w.heap.size+1,0,none⟩)])∧Below w.heap.size w w' ∧
    w'.cell? ⟨w.heap.size,0,none⟩=some (.int .u8 lo)∧w'.cell? ⟨w.heap.size+1,0,none⟩=some (.int .u8 hi)∧w'.heap.size=w.heap.size+2:=by
 go_enter Tryz.func93,Tryz.ntmps93
 go_wp2_with fail
 go_ret
 exact ⟨rfl,ag (ag (Below.refl _ _) _) _,aq _ (aA _ _ _ _ _ _ rfl rfl),aA _ _ _ _ _ _ (ah _ _) rfl,by rw [ah,ah]⟩
theorem IsKind.two {w:World} {f:FuncId} {x y:Value} {p:UInt8→Bool} (h:IsKind w f #[x,y] p) (c:UInt8) (W:World) (hW:Below w.heap.size w W):Calls Tryz.prog f #[.int .u8 (c.toNat:Int),x,y] W fun e W'=>e=.returned (.bool (p c))∧Below W.heap.size W W':=h c W hW
theorem IsKind.cast {w:World} {f:FuncId} {A:Array Value} {p q:UInt8→Bool} (h:IsKind w f A p) (B:p=q):IsKind w f A q:=B▸h
theorem xD (s0:Option Addr) (n cap:Nat) (w:World):Calls Tryz.prog 94 #[.slice s0 n cap] w fun e w'=>e=.returned (.func (.func 125) #[] #[.pointer (some ⟨w.heap.size,0,none⟩)])∧Below w.heap.size w w'∧w'.cell? ⟨w.heap.size,0,none⟩=some (.slice s0 n cap):=
 (tB s0 n cap w).mono fun e w' ⟨h1,h2⟩=>⟨h1,by rw [h2];exact ag (Below.refl _ _) _,by rw [h2];exact aA _ _ _ _ _ _ rfl rfl⟩
theorem fn3 {w:World} {b:Nat} {k0 k1 k2:Array Value} {q0 q1 q2:UInt8→Bool} (h0:w.cell? ⟨b,0,none⟩=some (.func (.func 124) #[] k0)) (h1:w.cell? ⟨b,1,none⟩=some (.func (.func 124) #[] k1)) (h2:w.cell? ⟨b,2,none⟩=some (.func (.func 124) #[] k2))
    (g0:IsKind w 124 k0 q0) (g1:IsKind w 124 k1 q1) (g2:IsKind w 124 k2 q2):FnAt w b 3 (fun _=>124) (fun i=>if i=0 then k0 else if i=1 then k1 else k2) (fun i=>if i=0 then q0 else if i=1 then q1 else q2):=by
 refine ⟨fun i hi=>?_,fun i _ args W=>Tryz.call124 _ _,fun i hi=>?_⟩
 ·rcases (show i=0∨i=1∨i=2 by omega) with rfl | rfl | rfl
  ·exact h0
  ·exact h1
  ·exact h2
 ·rcases (show i=0∨i=1∨i=2 by omega) with rfl | rfl | rfl
  ·exact g0
  ·exact g1
  ·exact g2
theorem tK (l:List UInt8):(bQ l).length≤2:=by
 match l with
 | []=>simp [bQ]
 | [a] =>
  simp only [bQ]
  split<;>simp
 | a :: b :: t =>
  simp only [bQ]
  split
  ·simp
  ·split<;>simp
theorem oe (p:Nat→UInt8→Bool) (h0:p 0=gm) (h1:p 1=cT) (h2:p 2=nM):(fun c=>decide (0≤ey p c 3 0))=cS:=by
 funext c
 unfold cS;simp only [ey,h0,h1,h2]
 cases gm c<;>cases cT c<;>cases nM c<;>rfl
theorem yE (b off cap:Nat) (s:List UInt8) (a:Nat) (w:World) (hs:SrcAt w (some ⟨b,off,none⟩) s) (ha:a<s.length) (hl:s.length≤100000) (hc:s.length≤cap) :
    Calls Tryz.prog 69 #[.slice (some ⟨b,off,none⟩) s.length cap,.int .i64 a] w (xN w (cY s a)):=by
 have HS:=zh hs;obtain ⟨b',off',e,hy,C⟩:=hs (by omega);injection e with e
 injection e with e1 e2
 subst e1 e2;have y0:=C a ha;clear C hs;have h1:s.getD a 0=s[a]:=by rw [List.getD_eq_getElem?_getD,List.getElem?_eq_getElem ha];rfl
 have HC:Hd (s.getD a 0=s[a]):=zh h1
 have HQ:Hd (∀p:UInt8→Bool,p s[a]=true→a<bf p s a):=zh (fun p hp=>by
   rw [fd ha hp];have:=eK p s (a+1);omega)
 rw [h1] at y0;clear h1;generalize s[a]=c at *;have hQ:=u8i c;go_enter Tryz.func69,Tryz.ntmps69
 go_wp2_with fail
 have hg:Below w.heap.size w ((w.alloc (.cells #[.int .i64 0,.string ⟨#[]⟩,.int .i64 0,.int .i64 0] 157)).alloc (.cells #[.int .i64 0,.string ⟨#[]⟩,.int .i64 0,.int .i64 (a:Int)] 157)):=ag (ag (Below.refl _ _) _) _;refine (kY _ _ _).mono ?_;rintro e w1 ⟨rfl,m,d1,d2,he⟩;rw [ah,ah] at he d1 d2;have hN:=zh (am hg m);obtain ⟨ar,f⟩:∃arr,w1.heap[w.heap.size]?=some (.cells arr 157 (0,0))∧arr=#[.int .i64 0,.string ⟨#[]⟩,.int .i64 0,.int .i64 0]:=⟨_,(m.block _ (by rw [ah,ah];omega)).trans (ax _ _ _ _ (aj _ _ _ rfl)),rfl⟩
 obtain ⟨at_,Z⟩:∃arr,w1.heap[w.heap.size+1]?=some (.cells arr 157 (0,0))∧arr=#[.int .i64 0,.string ⟨#[]⟩,.int .i64 0,.int .i64 (a:Int)]:=⟨_,(m.block _ (by rw [ah,ah];omega)).trans (aj _ _ _ (ah _ _)),rfl⟩
 obtain ⟨f,rfl⟩:=f;obtain ⟨Z,rfl⟩:=Z;have hF:=zh f;have hC:=zh Z;clear f Z m hg;go_wp2_with fail
 refine (kY _ _ _).mono ?_;rintro e w2 ⟨rfl,R,l1,l2,hu⟩;have h9:=zh (am hN.o R);have hM:=zh ((bg R _ _ (by omega)).trans d1);have hL:=zh ((bg R _ _ (by omega)).trans d2);have ho:=zh l1;have hn:=zh l2;have hE:=zh ((R.block _ (by omega)).trans hF.o);have hB:=zh ((R.block _ (by omega)).trans hC.o);rw [he] at hu ho hn;have x0:=(bg h9.o _ _ hy).trans y0;have Y:=zh (fun (W:World) (hW:Below w2.heap.size w2 W)=>IsKind.cast (q:=gm) (iu 97 122 _ _ W ((bg hW _ _ (by omega)).trans ho.o) ((bg hW _ _ (by omega)).trans hn.o)) rfl);have P:=zh (fun (W:World) (hW:Below w2.heap.size w2 W)=>IsKind.cast (q:=cT) (iu 48 57 _ _ W ((bg hW _ _ (by omega)).trans hM.o) ((bg hW _ _ (by omega)).trans hL.o)) rfl);clear d1 d2 l1 l2 R y0;go_wp2_with fail
 refine ((Y.o w2 (Below.refl _ _)).two c w2 (Below.refl _ _)).mono ?_;rintro e w3 ⟨rfl,U⟩;have h8:=zh U;have hb:=U.size;have hm:=zh ((U.block _ (by omega)).trans hE.o);have hj:=zh ((U.block _ (by omega)).trans hB.o);clear U
 cases hlet:gm c
 ·have HN:Hd (∀d q:Bool,cT c=d→(c==34)=q→cY s a=if d then (match hZ (cR s a (bf cT s a)) 0 with
      | none=>.error 32
      | some n=>.ok (gf 2 [] n a,bf cT s a)) else if q then
        (if bf dF s (a+1)==s.length || s.getD (bf dF s (a+1)) 0 !=34 then .error 31
          else if 64<bf dF s (a+1)-a-1 then .error 32 else .ok (gf 3 (cR s (a+1) (bf dF s (a+1))) 0 a,bf dF s (a+1)+1))
      else (if bQ (cR s a (min (a+2) s.length))=[] then .error 31 else .ok (gf 4 (bQ (cR s a (min (a+2) s.length))) 0 a,a+(bQ (cR s a (min (a+2) s.length))).length))):=zh (fun d q hd hq=>by
    unfold cY;rw [HC.o];simp only [hlet,hd,hq]
    rfl)
  clear hlet x0;go_wp2_with fail
  refine ((P.o w3 h8.o).two c w3 (Below.refl _ _)).mono ?_;rintro e w4 ⟨rfl,M⟩;have r:=zh (h8.o.trans (M.mono hb));have E:=zh (am h9.o r.o);have u:=M.size;have J:=zh ((M.block _ (by omega)).trans hm.o);have H:=zh ((M.block _ (by omega)).trans hj.o);clear M
  cases hdig:cT c
  ·have hh:=tW c 34
   have V:((c.toNat:Int)==34)=(c==34):=hh;have N:=zh (HN.o _ (c==34) hdig rfl);clear hh hdig
   cases hq:(c==34)
   ·rw [hq] at V N
    have hD:=zh (xZ b off cap s a w4 (HS.o.later E.o) (by omega) (by omega) (by omega));have t0:=aa H.o (j:=0) rfl;have t1:=aa H.o (j:=1) rfl;have t2:=aa H.o (j:=2) rfl;have t3:=aa H.o (j:=3) rfl;have tf0:=ae H.o 0;have tf1:=ae H.o 1;have tf2:=ae H.o 2;have tf3:=ae H.o 3;have r0:=aa J.o (j:=0) rfl;have r1:=aa J.o (j:=1) rfl;have r2:=aa J.o (j:=2) rfl;have r3:=aa J.o (j:=3) rfl;have rf0:=ae J.o 0;have rf1:=ae J.o 1;have rf2:=ae J.o 2;have rf3:=ae J.o 3;have hO:((bQ (cR s a (min (a+2) s.length))).length:Int)≤2:=by have:=tK (cR s a (min (a+2) s.length));omega
    generalize bQ (cR s a (min (a+2) s.length))=l at *;have X:Hd (cY s a=if l=[] then .error 31 else .ok (gf 4 l 0 a,a+l.length)):=zh (by have h:=N.o;simp at h;exact h);have hS:Hd ((⟨l.toArray⟩:ByteArray).toList=l):=zh (by rw [ByteArray.toList_eq]);clear hq;go_wp2_with fail
    refine hD.o.mono ?_;rintro e w5 ⟨rfl,rfl⟩;by_cases T:l=[]
    ·have HF:Hd (cY s a=.error 31):=zh (by rw [X.o,if_pos T])
     subst T;go_wp2_with fail
     refine bodyPost_ret (v:=.tuple #[tkV 4 ⟨#[]⟩ 0 (a:Int),.int .i64 0,.int .i64 31]) (by simp [results,Tryz.results69,go_sem,tkV,r0,r1,r2,r3]) rfl ?_;rw [HF.o];refine ⟨⟨_,_,_,_,rfl⟩,?_⟩;repeat (with_reducible first | exact E.o | refine aw ?_ | refine dp ?_ _ | refine eR ?_ (by omega) _)
    ·have HF:Hd (cY s a=.ok (gf 4 l 0 a,a+l.length)):=zh (by rw [X.o,if_neg T])
     have hP:l.isEmpty=false:=by cases l with
      | nil=>exact absurd rfl T
      | cons x t=>rfl
     clear T;go_wp2_with fail
     go_region
     go_wp2_with fail
     refine bodyPost_ret (v:=.tuple #[tkV 4 ⟨l.toArray⟩ 0 (a:Int),.int .i64 ((a:Int)+(l.length:Int)),.int .i64 0]) (by simp [results,Tryz.results69,go_sem,tkV,r0,r1,r2,r3]) rfl ?_;rw [HF.o];refine ⟨rfl,?_⟩;repeat (with_reducible first | exact E.o | refine aw ?_ | refine dp ?_ _ | refine eR ?_ (by omega) _)
   ·rw [hq] at V N
    have X:Hd (cY s a=if bf dF s (a+1)==s.length || s.getD (bf dF s (a+1)) 0 !=34 then .error 31
          else if 64<bf dF s (a+1)-a-1 then .error 32 else .ok (gf 3 (cR s (a+1) (bf dF s (a+1))) 0 a,bf dF s (a+1)+1)):=zh (by have h:=N.o;simp only [Bool.false_eq_true,if_false,if_true] at h;exact h)
    clear hq;go_wp2_with fail
    refine (iV _ cap s (a+1) 97 _ dF w4 (HS.o.later E.o) (by omega) (by omega) (fun _ _=>Tryz.call97 _ _) (uU w4)).mono ?_;rintro e w5 ⟨rfl,B⟩;have L:=zh (am E.o B);have hr:=B.size;have I:=zh ((B.block _ (by omega)).trans J.o);have G:=zh ((B.block _ (by omega)).trans H.o);have O:=zh ((HS.o.later E.o).later B);have q1:=eK dF s (a+1);have q2:=fj (p:=dF) (show a+1≤s.length by omega);clear B;generalize bf dF s (a+1)=q at *;have t0:=aa G.o (j:=0) rfl;have t1:=aa G.o (j:=1) rfl;have t2:=aa G.o (j:=2) rfl;have t3:=aa G.o (j:=3) rfl;have tf0:=ae G.o 0;have tf1:=ae G.o 1;have tf2:=ae G.o 2;have tf3:=ae G.o 3;have r0:=aa I.o (j:=0) rfl;have r1:=aa I.o (j:=1) rfl;have r2:=aa I.o (j:=2) rfl;have r3:=aa I.o (j:=3) rfl;have rf0:=ae I.o 0;have rf1:=ae I.o 1;have rf2:=ae I.o 2;have rf3:=ae I.o 3;by_cases g:q=s.length
    ·have hd:((q:Int)==(s.length:Int))=true:=by simp [g]
     have HF:Hd (cY s a=.error 31):=zh (by rw [X.o,g];simp);clear g;go_wp2_with fail
     refine bodyPost_ret (v:=.tuple #[tkV 0 ⟨#[]⟩ 0 (a:Int),.int .i64 0,.int .i64 31]) (by simp [results,Tryz.results69,go_sem,tkV,r0,r1,r2,r3]) rfl ?_;rw [HF.o];refine ⟨⟨_,_,_,_,rfl⟩,?_⟩;repeat (with_reducible first | exact L.o | refine aw ?_ | refine dp ?_ _ | refine eR ?_ (by omega) _)
    have hd:((q:Int)==(s.length:Int))=false:=by simp;omega
    have hv:q<s.length:=by omega
    obtain ⟨b',off',e,_,C⟩:=O.o (by omega);injection e with e
    injection e with e1 e2
    subst e1 e2;have g0:=C q hv;generalize hx:s.getD q 0=ch at *;have g34:((ch.toNat:Int)==34)=(ch==34):=tW ch 34
    have hG:Hd (∀z,(ch==34)=z→cY s a=if !z then .error 31 else if 64<q-a-1 then .error 32 else .ok (gf 3 (cR s (a+1) q) 0 a,q+1)):=zh (fun z hz=>by
      rw [X.o];have:(q==s.length)=false:=by simp;omega
      simp only [this,Bool.false_or,bne,hz])
    have h5:=zh (hG.o _ rfl);have gn:((ch.toNat:Int) !=34)=!(ch==34):=by rw [←g34];rfl
    have hw:=u8i ch;clear C g hx g34;generalize (ch==34)=z at *;generalize ch.toNat=ch' at *
    cases z
    ·have gn':((ch':Int) !=34)=true:=gn
     have HF:Hd (cY s a=.error 31):=zh (by rw [h5.o];rfl);clear gn;go_wp2_with fail
     refine bodyPost_ret (v:=.tuple #[tkV 0 ⟨#[]⟩ 0 (a:Int),.int .i64 0,.int .i64 31]) (by simp [results,Tryz.results69,go_sem,tkV,r0,r1,r2,r3]) rfl ?_;rw [HF.o];refine ⟨⟨_,_,_,_,rfl⟩,?_⟩;repeat (with_reducible first | exact L.o | refine aw ?_ | refine dp ?_ _ | refine eR ?_ (by omega) _)
    have gn':((ch':Int) !=34)=false:=gn;clear gn;by_cases A:64<q-a-1
    ·have h2:(64:Int)<(q:Int)-(a:Int)-1:=by omega
     have HF:Hd (cY s a=.error 32):=zh (by rw [h5.o,if_neg (by decide),if_pos A]);clear A;go_wp2_with fail
     refine bodyPost_ret (v:=.tuple #[tkV 0 ⟨#[]⟩ 0 (a:Int),.int .i64 0,.int .i64 32]) (by simp [results,Tryz.results69,go_sem,tkV,r0,r1,r2,r3]) rfl ?_;rw [HF.o];refine ⟨⟨_,_,_,_,rfl⟩,?_⟩;repeat (with_reducible first | exact L.o | refine aw ?_ | refine dp ?_ _ | refine eR ?_ (by omega) _)
    have h2:¬(64:Int)<(q:Int)-(a:Int)-1:=by omega
    have HF:Hd (cY s a=.ok (gf 3 (cR s (a+1) q) 0 a,q+1)):=zh (by rw [h5.o,if_neg (by decide),if_neg A]);clear A
    have kd:∀(W:World),(∀k,k≠w.heap.size+1→W.heap[k]?=w5.heap[k]?)→(convert 30 9 (.slice (some ⟨b,off+(a+1),none⟩) (q-(a+1)) (cap-(a+1)))).run Tryz.prog W=.ok (.string ⟨(cR s (a+1) q).toArray⟩) W:=fun W hW=>mO (fun h0=>by
      obtain ⟨b',off',e,y,C⟩:=O.o h0;injection e with e
      injection e with e1 e2
      subst e1 e2;exact ⟨b,off,rfl,by have:=hW b (by omega);rw [Array.getElem?_eq_getElem y] at this;exact af this,fun i hi=>(World.cell?_of_block (w:=w5) (hW b (by omega))).trans (C i hi)⟩) (by omega) (cap-(a+1)) (q-(a+1)) rfl
    have kc1:=kd w5.drew (fun _ _=>rfl);have kc2:=kd (w5.setCell ⟨w.heap.size+1,0,none⟩ (.int .i64 3)).drew (fun k hk=>ak _ _ _ _ hk);generalize cR s (a+1) q=l at *;clear kd;go_wp2_with fail
    go_region
    clear kc1 kc2;go_wp2_with fail
    refine bodyPost_ret (v:=.tuple #[tkV 3 ⟨l.toArray⟩ 0 (a:Int),.int .i64 ((q:Int)+1),.int .i64 0]) (by simp [results,Tryz.results69,go_sem,tkV,r0,r1,r2,r3]) rfl ?_;rw [HF.o];refine ⟨rfl,?_⟩;repeat (with_reducible first | exact L.o | refine aw ?_ | refine dp ?_ _ | refine eR ?_ (by omega) _)
  ·have N:=zh (HN.o _ _ hdig rfl)
   have h4:=zh (HQ.o cT hdig);clear hdig;go_wp2_with fail
   refine (iV _ cap s a 124 _ cT w4 (HS.o.later E.o) (by omega) (by omega) (fun _ _=>Tryz.call124 _ _) (P.o w4 r.o)).mono ?_;rintro e w5 ⟨rfl,B⟩;have L:=zh (am E.o B);have hr:=B.size;have I:=zh ((B.block _ (by omega)).trans J.o);have G:=zh ((B.block _ (by omega)).trans H.o);have q2:=fj (p:=cT) (show a≤s.length by omega);have q3:=h4.o
   have hK:Hd (∀i,i<(cR s a (bf cT s a)).length→cT ((cR s a (bf cT s a)).getD i 0)=true):=zh (fun i hi=>by
     rw [fh q2] at hi;have hf:a+i<s.length:=by omega
     rw [pZ (by omega),List.getD_eq_getElem?_getD,List.getElem?_eq_getElem hf];exact oT (p:=cT) (a:=a) (i:=a+i) (by omega) (by omega) hf)
   clear B;generalize bf cT s a=q at *;go_wp2_with fail
   refine (xu _ _ _ (cR s a q) w5 (fh q2).symm ((HS.o.later L.o).cut q2) (by rw [fh q2];omega) hK.o).mono ?_;rintro e w6 ⟨rfl,K⟩;have S:=zh (am L.o K);have D:=zh ((K.block _ (by omega)).trans I.o);have F:=zh ((K.block _ (by omega)).trans G.o);have t0:=aa F.o (j:=0) rfl;have t1:=aa F.o (j:=1) rfl;have t2:=aa F.o (j:=2) rfl;have t3:=aa F.o (j:=3) rfl;have tf0:=ae F.o 0;have tf1:=ae F.o 1;have tf2:=ae F.o 2;have tf3:=ae F.o 3;have r0:=aa D.o (j:=0) rfl;have r1:=aa D.o (j:=1) rfl;have r2:=aa D.o (j:=2) rfl;have r3:=aa D.o (j:=3) rfl;have rf0:=ae D.o 0;have rf1:=ae D.o 1;have rf2:=ae D.o 2;have rf3:=ae D.o 3;clear K
   cases hnum:hZ (cR s a q) 0 with
   | none =>
    have HF:Hd (cY s a=.error 32):=zh (by have h:=N.o;simp [hnum] at h;exact h);clear hnum;unfold zv;go_wp2_with fail
    refine bodyPost_ret (v:=.tuple #[tkV 0 ⟨#[]⟩ 0 (a:Int),.int .i64 0,.int .i64 32]) (by simp [results,Tryz.results69,go_sem,tkV,r0,r1,r2,r3]) rfl ?_;rw [HF.o];refine ⟨⟨_,_,_,_,rfl⟩,?_⟩;repeat (with_reducible first | exact S.o | refine aw ?_ | refine dp ?_ _ | refine eR ?_ (by omega) _)
   | some n =>
    have HF:Hd (cY s a=.ok (gf 2 [] n a,q)):=zh (by have h:=N.o;simp [hnum] at h;exact h);clear hnum;unfold zv;go_wp2_with fail
    refine bodyPost_ret (v:=.tuple #[tkV 2 ⟨#[]⟩ (n:Int) (a:Int),.int .i64 (q:Int),.int .i64 0]) (by simp [results,Tryz.results69,go_sem,tkV,r0,r1,r2,r3]) rfl ?_;rw [HF.o];refine ⟨rfl,?_⟩;repeat (with_reducible first | exact S.o | refine aw ?_ | refine dp ?_ _ | refine eR ?_ (by omega) _)
 ·have HN:Hd (cY s a=if gU (cR s a (bf cS s a)) then .ok (gf 4 (cR s a (bf cS s a)) 0 a,bf cS s a) else if 16<(cR s a (bf cS s a)).length then .error 32 else .ok (gf 1 (cR s a (bf cS s a)) 0 a,bf cS s a)):=zh (by
    unfold cY;rw [HC.o];simp only [hlet,if_true])
  have h4:=zh (HQ.o cS (by unfold cS;rw [hlet];rfl));clear hlet x0;go_wp2_with fail
  refine (kY _ _ _).mono ?_;rintro e w4 ⟨rfl,M,u1,u2,u⟩;have r:=zh (h8.o.trans (M.mono hb));have HU:=zh (fun (W:World) (hW:Below w4.heap.size w4 W)=>IsKind.cast (q:=nM) (iu 95 95 _ _ W ((bg hW _ _ (by omega)).trans u1) ((bg hW _ _ (by omega)).trans u2)) rfl);have J:=zh ((M.block _ (by omega)).trans hm.o);have H:=zh ((M.block _ (by omega)).trans hj.o);have hR:=zh u;have ht:w3.heap.size+2≤w4.heap.size:=by omega
  clear M u1 u2 u;go_wp2_with fail
  refine (xD _ _ _ _).mono ?_;rintro e w5 ⟨rfl,B,v1⟩;have z5:=B.size;rw [ah] at z5 v1;have h7:=zh (am (ag (Below.refl w4.heap.size w4) _) B);have L:=zh (am (ag r.o _) B)
  have hI:Hd (FnAt w5 w4.heap.size 3 _ _ _):=zh (fn3 (q0:=gm) (q1:=cT) (q2:=nM) ((bg B _ _ (by rw [ah];omega)).trans (aA _ _ _ _ _ _ rfl rfl)) ((bg B _ _ (by rw [ah];omega)).trans (aA _ _ _ _ _ _ rfl rfl)) ((bg B _ _ (by rw [ah];omega)).trans (aA _ _ _ _ _ _ rfl rfl))
    (Y.o w5 L.o) (P.o w5 L.o) (HU.o w5 h7.o))
  have Q:=zh (am h9.o L.o);have hH:=zh (IsKind.cast (q:=cS) (rH (w4.heap.size+1) w4.heap.size 3 _ _ _ w5 (by omega) hI.o v1) (oe _ rfl rfl rfl));have I:=zh ((B.block _ (by rw [ah];omega)).trans (ax _ _ _ _ J.o));have G:=zh ((B.block _ (by rw [ah];omega)).trans (ax _ _ _ _ H.o));clear B v1;go_wp2_with fail
  refine (iV _ cap s a 125 _ cS w5 (HS.o.later Q.o) (by omega) (by omega) (fun _ _=>Tryz.call125 _ _) hH.o).mono ?_;rintro e w6 ⟨rfl,K⟩;have S:=zh (am Q.o K);have h6:=zh K;have z6:=K.size;have D:=zh ((K.block _ (by omega)).trans I.o);have F:=zh ((K.block _ (by omega)).trans G.o);have q1:=eK cS s a;have q2:=fj (p:=cS) (show a≤s.length by omega);have q3:=h4.o;clear K;generalize bf cS s a=q at *;have t0:=aa F.o (j:=0) rfl;have t1:=aa F.o (j:=1) rfl;have t2:=aa F.o (j:=2) rfl;have t3:=aa F.o (j:=3) rfl;have tf0:=ae F.o 0;have tf1:=ae F.o 1;have O:=zh (HS.o.later Q.o |>.later h6.o)
  have kd:∀(W:World),(∀k,k≠w.heap.size+1→W.heap[k]?=w6.heap[k]?)→(convert 30 9 (.slice (some ⟨b,off+a,none⟩) (q-a) (cap-a))).run Tryz.prog W=.ok (.string ⟨(cR s a q).toArray⟩) W:=fun W hW=>mO (fun h0=>by
    obtain ⟨b',off',e,y,C⟩:=O.o h0;injection e with e
    injection e with e1 e2
    subst e1 e2;exact ⟨b,off,rfl,by have:=hW b (by omega);rw [Array.getElem?_eq_getElem y] at this;exact af this,fun i hi=>(World.cell?_of_block (w:=w6) (hW b (by omega))).trans (C i hi)⟩) q2 (cap-a) (q-a) rfl
  have kc1:=kd w6.drew (fun _ _=>rfl);have kc2:=kd (w6.setCell ⟨w.heap.size+1,0,none⟩ (.int .i64 1)).drew (fun k hk=>ak _ _ _ _ hk);generalize cR s a q=l at *;clear kd;go_wp2_with fail
  go_region
  clear kc1 kc2;have hA:Hd (gU (⟨l.toArray⟩:ByteArray).toList=gU l):=zh (by rw [ByteArray.toList_eq]);have hT:Hd (((⟨l.toArray⟩:ByteArray).size:Nat)=l.length):=zh rfl;have r0:=aa D.o (j:=0) rfl;have r1:=aa D.o (j:=1) rfl;have r2:=aa D.o (j:=2) rfl;have r3:=aa D.o (j:=3) rfl;have rf0:=ae D.o 0;have rf1:=ae D.o 1;have rf2:=ae D.o 2;have rf3:=ae D.o 3;go_wp2_with fail
  refine (zq _ _).mono ?_;rintro e w7 ⟨rfl,rfl⟩;rw [hA.o]
  cases hwd:gU l
  ·have N:Hd (cY s a=if 16<l.length then .error 32 else .ok (gf 1 l 0 a,q)):=zh (by rw [HN.o,hwd];rfl)
   clear hwd;by_cases A:16<l.length
   ·have h3:(16:Int)<(l.length:Int):=by omega
    have HF:Hd (cY s a=.error 32):=zh (by rw [N.o,if_pos A]);clear A;go_wp2_with fail
    refine bodyPost_ret (v:=.tuple #[tkV 1 ⟨l.toArray⟩ 0 (a:Int),.int .i64 0,.int .i64 32]) (by simp [results,Tryz.results69,go_sem,tkV,r0,r1,r2,r3]) rfl ?_;rw [HF.o];refine ⟨⟨_,_,_,_,rfl⟩,?_⟩;repeat (with_reducible first | exact S.o | refine aw ?_ | refine dp ?_ _ | refine eR ?_ (by omega) _)
   ·have h3:¬(16:Int)<(l.length:Int):=by omega
    have HF:Hd (cY s a=.ok (gf 1 l 0 a,q)):=zh (by rw [N.o,if_neg A]);clear A;go_wp2_with fail
    refine bodyPost_ret (v:=.tuple #[tkV 1 ⟨l.toArray⟩ 0 (a:Int),.int .i64 (q:Int),.int .i64 0]) (by simp [results,Tryz.results69,go_sem,tkV,r0,r1,r2,r3]) rfl ?_;rw [HF.o];refine ⟨rfl,?_⟩;repeat (with_reducible first | exact S.o | refine aw ?_ | refine dp ?_ _ | refine eR ?_ (by omega) _)
  ·have HF:Hd (cY s a=.ok (gf 4 l 0 a,q)):=zh (by rw [HN.o,hwd];rfl)
   clear hwd;go_wp2_with fail
   refine bodyPost_ret (v:=.tuple #[tkV 4 ⟨l.toArray⟩ 0 a,.int .i64 q,.int .i64 0]) (by simp [results,Tryz.results69,go_sem,tkV,r0,r1,r2,r3]) rfl ?_;rw [HF.o];refine ⟨rfl,?_⟩;repeat (with_reducible first | exact S.o | refine aw ?_ | refine dp ?_ _ | refine eR ?_ (by omega) _)
end
section
open Go.RowKit
theorem oN {s:List UInt8} {a:Nat} {er:Int} (h:cY s a=.error er):er=31∨er=32:=by
 unfold cY at h;dsimp only at h;repeat' split at h
 all_goals first
  | (injection h with h;omega)
  | (cases h;done)
theorem yq {s:List UInt8} {a:Nat} {t:Tk} {q:Nat} (ha:a<s.length) (h:cY s a=.ok (t,q)):a<q∧q≤s.length:=by
 have B:s.getD a 0=s[a]:=by rw [List.getD_eq_getElem?_getD,List.getElem?_eq_getElem ha];rfl
 have hq:∀p:UInt8→Bool,p s[a]=true→a<bf p s a∧bf p s a≤s.length:=fun p hp=>by
  refine ⟨?_,fj (by omega)⟩;rw [fd ha hp];have:=eK p s (a+1);omega
 unfold cY at h;rw [B] at h;dsimp only at h;split at h
 ·rename_i hl
  have:=hq cS (by unfold cS;rw [hl];rfl);split at h
  ·injection h with h;injection h with _ h;omega
  ·split at h
   ·cases h
   ·injection h with h;injection h with _ h;omega
 ·split at h
  ·rename_i hd
   have:=hq cT hd;split at h
   ·cases h
   ·injection h with h;injection h with _ h;omega
  ·split at h
   ·split at h
    ·cases h
    ·rename_i A
     split at h
     ·cases h
     ·injection h with h;injection h with _ h
      have h1:=eK dF s (a+1);have h2:=fj (p:=dF) (s:=s) (a:=a+1) (by omega);have h3:bf dF s (a+1)≠s.length:=fun e=>A (by simp [e]);omega
   ·split at h
    ·cases h
    ·rename_i A
     injection h with h;injection h with _ h
     have h1:0<(bQ (cR s a (min (a+2) s.length))).length:=List.length_pos_iff.2 A
     have h2:(bQ (cR s a (min (a+2) s.length))).length≤(cR s a (min (a+2) s.length)).length:=by
      generalize cR s a (min (a+2) s.length)=l;match l with
      | []=>simp [bQ]
      | [x]=>simp only [bQ];split<;>simp
      | x :: y :: r =>
       simp only [bQ]
       split
       ·simp
       ·split<;>simp
     rw [fh (by omega)] at h2;omega
def lU (l:List Tk):List Value:=l.flatMap fun t=>[.int .i64 t.kind,.string t.text,.int .i64 t.num,.int .i64 t.pos]
theorem wP (l:List Tk) (t:Tk):lU (l++[t])=lU l++[.int .i64 t.kind,.string t.text,.int .i64 t.num,.int .i64 t.pos]:=by simp [lU]
theorem uc:∀(l:List Tk) (i:Nat),i<l.length→(lU l)[i * 4]?=some (.int .i64 (l.getD i default).kind)∧(lU l)[i * 4+1]?=some (.string (l.getD i default).text)∧(lU l)[i * 4+2]?=some (.int .i64 (l.getD i default).num)∧(lU l)[i * 4+3]?=some (.int .i64 (l.getD i default).pos)
 | [],i,h=>by simp at h
 | x :: l,i,h=>by
  have e:lU (x :: l)=.int .i64 x.kind :: .string x.text :: .int .i64 x.num :: .int .i64 x.pos :: lU l:=rfl;rw [e]
  cases i with
  | zero=>exact ⟨rfl,rfl,rfl,rfl⟩
  | succ i =>
   have:=uc l i (by simpa using h);rw [show (i+1)*4=i * 4+1+1+1+1 by omega];simpa using this
def RowTk (w:World) (s0:Option Addr) (l:List Tk):Prop:=
 0<l.length→∃b off,s0=some ⟨b,off,none⟩∧b<w.heap.size∧∀i,i<l.length→w.cell? ⟨b,off+i * 4,none⟩=some (.int .i64 (l.getD i default).kind)∧w.cell? ⟨b,off+i * 4+1,none⟩=some (.string (l.getD i default).text) ∧
  w.cell? ⟨b,off+i * 4+2,none⟩=some (.int .i64 (l.getD i default).num)∧w.cell? ⟨b,off+i * 4+3,none⟩=some (.int .i64 (l.getD i default).pos)
def BA (w:World) (v:Value) (l:List Tk):Prop:=∃s0 cap,v=.slice s0 l.length cap∧l.length≤cap∧cap≤maxLen∧(s0=none→cap=0)∧RowTk w s0 l
theorem xL {w:World} {base:Nat} {v:Value} {l:List Tk} (h:w.ownsRow base 157 4 v l.length (lU l)):BA w v l:=by
 obtain ⟨s0,cap,rfl,h1,h2,h3,h4⟩:=bC h;refine ⟨s0,cap,rfl,h1,h2,h3,fun h0=>?_⟩;obtain ⟨g,rfl,_,hg,hc⟩:=h4 h0;refine ⟨g,0,rfl,hg,fun i hi=>?_⟩;obtain ⟨a0,a1,a2,a3⟩:=uc l i hi;rw [Nat.zero_add];exact ⟨hc _ _ a0,hc _ _ a1,hc _ _ a2,hc _ _ a3⟩
theorem lu {W W':World} {base e s:Nat} {v:Value} {n:Nat} {xs:List Value} (h:W.ownsRow base e s v n xs) (hb:Below W.heap.size W W'):W'.ownsRow base e s v n xs:=
 h.kept (row:=none) ⟨hb.os,hb.tape,hb.output,hb.size,fun k hk _=>hb.block k hk⟩ (by cases hv:v.ownBlock<;>simp)
theorem jg {W:World} {g:Nat} {A:Array Value} {t:TypeId} {fz:Nat×Nat} (h:W.heap[g]?=some (.cells A t fz)):∀j u,A.toList[j]?=some u→W.cell? ((⟨g,0,none⟩:Addr).add j)=some u:=by
 intro j u hj;rw [Go.WideShapes.add_plain,Nat.zero_add];exact aa h (by simpa using hj)
def A3 (w:World) (r:Except (Int×Nat) (List Tk)) (e:Ending) (w':World):Prop:=
 (match r with
  | .error (er,p)=>e=.returned (.tuple #[.slice none 0 0,.int .i64 er,.int .i64 (p:Int)])
  | .ok l=>∃v,e=.returned (.tuple #[v,.int .i64 0,.int .i64 0])∧BA w' v l)∧Below w.heap.size w w'
theorem B6:∃i,Tryz.prog.info? 157=some i∧i.zero=some (.agg #[.int .i64 0,.string ⟨#[]⟩,.int .i64 0,.int .i64 0])∧i.size=4∧i.bytes=40:=by
 have h:(Tryz.prog.info? 157).map (fun i=>(i.zero,i.size,i.bytes))=some (some (.agg #[.int .i64 0,.string ⟨#[]⟩,.int .i64 0,.int .i64 0]),4,40):=by kernel_rfl
 obtain ⟨i,h1,h2⟩:=Option.map_eq_some_iff.1 h;simp only [Prod.mk.injEq] at h2
 exact ⟨i,h1,h2.1,h2.2.1,h2.2.2⟩
theorem zK (s0:Option Addr) (cap:Nat) (s:List UInt8) (w:World) (hs:SrcAt w s0 s) (hl:s.length≤1152921504606846976) (hc:s.length≤cap) :
    Calls Tryz.prog 49 #[.slice s0 s.length cap] w (A3 w (iP s)):=by
 have HS:=zh hs;by_cases C:4096<s.length
 ·have HF:Hd (iP s=.error (2,0)):=zh (by unfold iP;rw [if_pos C])
  have hb:(4096:Int)<(s.length:Int):=by omega
  clear hs C;go_enter Tryz.func49,Tryz.ntmps49
  go_wp2_with fail
  go_ret3
  rw [HF.o];exact ⟨rfl,Below.refl _ _⟩
 have hb:¬(4096:Int)<(s.length:Int):=by omega
 have HT:Hd (iP s=lq s (s.length+1) (bF s 0) []):=zh (by unfold iP;rw [if_neg C]);have h6:s.length≤4096:=by omega
 clear hs C hl;go_enter Tryz.func49,Tryz.ntmps49
 go_wp2_with fail
 refine (ny s0 cap s 0 w HS.o (by omega) (by omega)).mono ?_;rintro e w1 ⟨rfl,W⟩;have h2:=zh W;have j:=oc (s:=s) (a:=0) (by omega);clear W;obtain ⟨i0,T,f,d,c⟩:=B6;have h0:=zh T;clear T;go_wp2_with fail
 generalize hA:bF s 0=A0 at *;have HA:=zh hA;clear hA;go_loopg [5,6] (s.length+1) (fun g s5 s6 wr=>∃(a:Nat) (v:Value) (out:List Tk),s5=v∧s6=.int .i64 a∧a≤s.length∧s.length-a<g∧out.length≤2048∧iP s=lq s g a out∧wr.ownsRow w.heap.size 157 4 v out.length (lU out)∧Below w.heap.size w wr)
 case atStart=>exact ⟨A0,_,[],rfl,rfl,j,by omega,by simp,HT.o,gq,h2.o⟩
 case round =>
  obtain ⟨a,v,out,rfl,rfl,ha,hg,i,J,F,V⟩:=hrel;obtain ⟨g,rfl⟩:∃g,gk=g+1:=⟨gk-1,by omega⟩
  have X:Hd (iP s=if a<s.length then (match cY s a with | .error e=>.error (e,a) | .ok (t,q)=>if out.length=2048 then .error (2,a) else lq s g (bF s q) (out++[t])) else .ok out):=zh J;have M:=zh F;have O:=zh V;obtain ⟨sv,cv,hv,_⟩:=bC F;clear J F V;by_cases I:a<s.length
  ·obtain ⟨b,off,h,h8,P⟩:=HS.o (by omega)
   subst h;have N:=zh (yE b off cap s a wr (HS.o.later O.o) I (by omega) (by omega));have Y:Hd (∀r,cY s a=r→iP s=(match r with | .error e=>.error (e,a) | .ok (t,q)=>if out.length=2048 then .error (2,a) else lq s g (bF s q) (out++[t]))):=zh (fun r hr=>by rw [X.o,if_pos I,hr]);clear P
   cases hnx:cY s a with
   | error er =>
    have l:=oN hnx;rw [hnx] at N;have HF:=zh (Y.o _ hnx);have h7:(er==0)=false:=by simp;omega
    have m:(er !=0)=true:=by simp;omega
    clear hnx l;go_wp2_with fail
    refine N.o.mono ?_;rintro e w2 ⟨⟨k,t,n,p,rfl⟩,G⟩;have H:=zh (am O.o G);clear G;unfold tkV;go_wp2_with fail
    go_ret3
    rw [HF.o];exact ⟨rfl,ag H.o _⟩
   | ok r =>
    obtain ⟨t,q⟩:=r;obtain ⟨h4,h3⟩:=yq I hnx;rw [hnx] at N;have HF:=zh (Y.o _ hnx);clear hnx;go_wp2_with fail
    refine N.o.mono ?_;rintro e w2 ⟨U,G⟩;dsimp only at U;subst U;have H:=zh (am O.o G);unfold tkV;have E:=zh (lu M.o G);clear G;subst hv;by_cases A:out.length=2048
    ·have S:Hd (iP s=.error (2,a)):=zh (by rw [HF.o];exact if_pos A)
     have hd:((out.length:Int)==2048)=true:=by simp;omega
     clear A;go_wp2_with fail
     go_ret3
     rw [S.o];exact ⟨rfl,ag H.o _⟩
    have S:Hd (iP s=lq s g (bF s q) (out++[t])):=zh (by rw [HF.o];exact if_neg A);have hd:((out.length:Int)==2048)=false:=by simp;omega
    have h5:out.length<2048:=by omega
    clear A;go_wp2_with (at_builtin;refine wpList_append_own _ rfl _ _ _ rfl w.heap.size 157 i0 (.agg #[.int .i64 0,.string ⟨#[]⟩,.int .i64 0,.int .i64 0]) 4 40 Tryz.underlying102 h0.o f d c rfl (by decide) _ out.length (lU out) rfl ((E.o.alloc _).alloc _) ⟨w2.heap.size+1,0,none⟩ 1 1 [.int .i64 t.kind,.string t.text,.int .i64 t.num,.int .i64 t.pos] rfl rfl (jg (aj _ _ _ (ah _ _))) (by intro u hu;simp at hu;rcases hu with rfl | rfl | rfl | rfl<;>rfl) (by unfold maxLen;omega) (by omega) (by have:=H.o.size;rw [ah,ah];omega) ?_;intro v' w3 D B _)
    have Z:Hd (Below w.heap.size w w3):=zh ((ag (ag H.o _) _).grown B (ag (ag H.o _) _).size (fun k hk=>(E.o.lt k hk).1));have L:=zh D;clear D B;refine (ny _ cap s q w3 (HS.o.later Z.o) (by omega) (by omega)).mono ?_;rintro e w4 ⟨rfl,R⟩;have h1:=zh (am Z.o R);have K:=zh (lu L.o R);have Q:=oc (s:=s) (a:=q) (by omega);have x:=tf s q;clear R;go_wp2_with fail
    go_roundg g
    case measure=>omega
    case rel=>exact ⟨bF s q,_,out++[t],rfl,rfl,Q,by omega,by simp;omega,S.o,by rw [List.length_append,wP];exact K.o,h1.o⟩
  ·have HF:Hd (iP s=.ok out):=zh (by rw [X.o,if_neg I])
   have y:a=s.length:=by omega
   have z:=zh (xL M.o);subst y hv;clear I;go_wp2_with fail
   go_ret3
   rw [HF.o];exact ⟨⟨_,rfl,z.o⟩,O.o⟩
end
section
open Go.RowKit
structure RdAt (w:World) (rb:Nat) (l:List Tk) (en:Int):Prop where
 obj:∃arr,w.heap[rb]?=some (.cells arr 110 (0,0))
 rest:∃s0 cap,w.cell? ⟨rb,0,none⟩=some (.slice s0 l.length cap)∧l.length≤cap∧cap≤maxLen∧RowTk w s0 l∧∀b off,s0=some ⟨b,off,none⟩→b<rb
 fin:w.cell? ⟨rb,1,none⟩=some (.int .i64 en)
 few:l.length≤100000
theorem RdAt.on {w w':World} {rb:Nat} {l:List Tk} {en:Int} (h:RdAt w rb l en) (hb:Below w.heap.size w w'):RdAt w' rb l en:=by
 obtain ⟨arr,ho⟩:=h.obj;obtain ⟨s0,cap,h1,h2,h3,h4,h5⟩:=h.rest;refine ⟨⟨arr,(hb.block _ (af ho)).trans ho⟩,⟨s0,cap,(bg hb _ _ (af ho)).trans h1,h2,h3,fun h0=>?_,h5⟩,(bg hb _ _ (af ho)).trans h.fin,h.few⟩;obtain ⟨b,off,e,A,hc⟩:=h4 h0;refine ⟨b,off,e,Nat.lt_of_lt_of_le A hb.size,fun i hi=>?_⟩;obtain ⟨x0,x1,x2,x3⟩:=hc i hi;exact ⟨(bg hb _ _ A).trans x0,(bg hb _ _ A).trans x1,(bg hb _ _ A).trans x2,(bg hb _ _ A).trans x3⟩
theorem RdAt.lt {w:World} {rb:Nat} {l:List Tk} {en:Int} (h:RdAt w rb l en):rb<w.heap.size:=by
 obtain ⟨arr,ho⟩:=h.obj;exact af ho
theorem RdAt.off {w w':World} {rb k:Nat} {l:List Tk} {en:Int} (h:RdAt w rb l en) (ho:On k w w') (hk:rb<k):RdAt w' rb l en:=by
 obtain ⟨arr,A⟩:=h.obj;obtain ⟨s0,cap,h1,h2,h3,h4,h5⟩:=h.rest;refine ⟨⟨arr,ho.obj (Nat.ne_of_lt hk) A⟩,⟨s0,cap,ho.cell (Nat.ne_of_lt hk) h1,h2,h3,fun h0=>?_,h5⟩,ho.cell (Nat.ne_of_lt hk) h.fin,h.few⟩;obtain ⟨b,off,e,B,hc⟩:=h4 h0;have hb:=h5 b off e;refine ⟨b,off,e,Nat.lt_of_lt_of_le B ho.size,fun i hi=>?_⟩;obtain ⟨x0,x1,x2,x3⟩:=hc i hi;exact ⟨ho.cell (by omega) x0,ho.cell (by omega) x1,ho.cell (by omega) x2,ho.cell (by omega) x3⟩
theorem RdAt.set {w:World} {rb:Nat} {l r:List Tk} {en:Int} (h:RdAt w rb l en) {s0:Option Addr} {cap:Nat} (hf:r.length≤l.length) (h1:r.length≤cap) (h2:cap≤maxLen) (h3:RowTk w s0 r) (h4:∀b off,s0=some ⟨b,off,none⟩→b<rb):RdAt (w.setCell ⟨rb,0,none⟩ (.slice s0 r.length cap)) rb r en:=by
 obtain ⟨_,_,B,_⟩:=h.rest;refine ⟨rB h.obj,⟨s0,cap,dP _ B,h1,h2,fun h0=>?_,h4⟩,(aT _ _ (.inr (by omega))).trans h.fin,Nat.le_trans hf h.few⟩;obtain ⟨b,off,e,C,hc⟩:=h3 h0;have A:=Nat.ne_of_lt (h4 b off e);refine ⟨b,off,e,by rw [aC];exact C,fun i hi=>?_⟩;obtain ⟨x0,x1,x2,x3⟩:=hc i hi;exact ⟨(aT _ _ (.inl (Ne.symm A))).trans x0,(aT _ _ (.inl (Ne.symm A))).trans x1,(aT _ _ (.inl (Ne.symm A))).trans x2,(aT _ _ (.inl (Ne.symm A))).trans x3⟩
theorem RowTk.tail {w:World} {b off:Nat} {t:Tk} {r:List Tk} (h:RowTk w (some ⟨b,off,none⟩) (t :: r)):RowTk w (some ⟨b,off+4,none⟩) r:=fun _=>by
 obtain ⟨b',off',e,A,hc⟩:=h (by simp);injection e with e
 injection e with e1 e2
 subst e1 e2;refine ⟨b,off+4,rfl,A,fun i hi=>?_⟩;have:=hc (i+1) (by simpa using hi);rw [show off+(i+1)*4=off+4+i * 4 by omega] at this;simpa using this
def Pan (er p:Int):Ending:=.panicked [{ v:=.iface 106 (.agg #[.int .i64 er,.int .i64 p]),recovered:=false }]
def PSays {α:Type} (rb:Nat) (en:Int) (w:World) (R:World→α→Value→Prop) (r:Except (Int×Int) (α×List Tk)) (e:Ending) (w':World):Prop:=
 (match r with
  | .error (er,p)=>e=Pan er p
  | .ok (x,l)=>∃v,e=.returned v∧R w' x v∧RdAt w' rb l en)∧On rb w w'
theorem fK (rb:Nat) (l:List Tk) (en:Int) (w:World) (h:RdAt w rb l en):Calls Tryz.prog 70 #[.pointer (some ⟨rb,0,none⟩)] w fun e w'=>e=.returned (.int .i64 (aQ en l))∧w=w':=by
 obtain ⟨s0,cap,H,G,E,B,_⟩:=h.rest;have D:=h.fin;have HR:=zh B;clear h B;unfold maxLen at E
 cases l with
 | nil =>
  go_enter Tryz.func70,Tryz.ntmps70
  go_wp2_with fail
  go_ret
  exact ⟨rfl,rfl⟩
 | cons t r =>
  obtain ⟨b,off,hs,I,A⟩:=HR.o (by simp);subst hs;obtain ⟨_,_,_,t3⟩:=A 0 (by simp);have t3':w.cell? ⟨b,off+3,none⟩=some (.int .i64 t.pos):=by simpa using t3
  clear A t3;have hn:(((t :: r).length:Int)==0)=false:=by simp;omega
  have F:(0:Int)<((t :: r).length:Int):=by simp
  have C:aQ en (t :: r)=t.pos:=rfl;rw [C];generalize t.pos=ps at *;generalize (t :: r).length=n at *;go_enter Tryz.func70,Tryz.ntmps70
  go_wp2_with fail
  go_ret
  exact ⟨rfl,rfl⟩
theorem mJ (rb:Nat) (l:List Tk) (en er:Int) (w:World) (h:RdAt w rb l en):Calls Tryz.prog 99 #[.pointer (some ⟨rb,0,none⟩),.int .i64 er] w fun e w'=>e=Pan er (aQ en l)∧w=w':=by
 go_enter Tryz.func99,Tryz.ntmps99
 go_wp2_with fail
 refine (fK rb l en _ h).mono ?_;rintro e w1 ⟨rfl,rfl⟩;go_wp2_with fail
 exact ⟨rfl,rfl,rfl⟩
theorem pB (rb:Nat) (d:Int) (w:World) (hd:d≤32):Calls Tryz.prog 102 #[.pointer (some ⟨rb,0,none⟩),.int .i64 d] w fun e w'=>e=.returned (.int .i64 d)∧w=w':=by
 go_enter Tryz.func102,Tryz.ntmps102
 go_wp2_with fail
 go_ret
 exact ⟨rfl,rfl⟩
theorem pV (rb:Nat) (l:List Tk) (en d:Int) (w:World) (h:RdAt w rb l en) (hd:32<d):Calls Tryz.prog 102 #[.pointer (some ⟨rb,0,none⟩),.int .i64 d] w fun e w'=>e=Pan 42 (aQ en l)∧w=w':=by
 go_enter Tryz.func102,Tryz.ntmps102
 go_wp2_with fail
 refine (mJ rb l en 42 _ h).mono ?_;rintro e w1 ⟨rfl,rfl⟩;unfold Pan;go_wp2_with fail
 exact ⟨rfl,rfl,rfl⟩
theorem fD (rb i:Nat) (s:ByteArray) (l:List Tk) (en:Int) (w:World) (h:RdAt w rb l en):Calls Tryz.prog 101 #[.pointer (some ⟨rb,0,none⟩),.int .i64 (i:Int),.string s] w fun e w'=>e=.returned (.bool (atS l i s))∧w=w':=by
 obtain ⟨s0,cap,G,E,D,B,_⟩:=h.rest;have HR:=zh B;clear h B;unfold maxLen at D;by_cases hi:i<l.length
 ·obtain ⟨b,off,hs,H,A⟩:=HR.o (by omega)
  subst hs;obtain ⟨t0,t1,_,_⟩:=A i hi
  have HA:Hd (∀z,((l.getD i default).kind==4)=z→atS l i s=(z&&(l.getD i default).text.toList==s.toList)):=zh (fun z hz=>by
    unfold atS;rw [List.getElem?_eq_getElem hi,List.getD_eq_getElem?_getD,List.getElem?_eq_getElem hi] at *;dsimp only [Option.getD_some] at *;rw [hz])
  have C:=zh (HA.o _ rfl);clear A;generalize (l.getD i default).kind=k at *;generalize (l.getD i default).text=tx at *;generalize atS l i s=q at *
  cases hk:(k==4)
  ·have HF:Hd (q=false):=zh (by rw [C.o,hk];rfl)
   clear HA C;go_enter Tryz.func101,Tryz.ntmps101
   go_wp2_with fail
   go_ret
   exact ⟨ed HF.o.symm,rfl⟩
  ·have HF:Hd (q=(tx.toList==s.toList)):=zh (by rw [C.o,hk];rfl)
   clear HA C;go_enter Tryz.func101,Tryz.ntmps101
   go_wp2_with fail
   go_ret
   exact ⟨ed HF.o.symm,rfl⟩
 ·have HF:Hd (atS l i s=false):=zh (by unfold atS;rw [List.getElem?_eq_none (by omega)])
  have F:¬((i:Int)<(l.length:Int)):=by omega
  generalize atS l i s=q at *;go_enter Tryz.func101,Tryz.ntmps101
  go_wp2_with fail
  go_ret
  exact ⟨ed HF.o.symm,rfl⟩
theorem l8 (i:Nat) (s:ByteArray):atS [] i s=false:=by unfold atS;simp
theorem ud {rb:Nat} {w:World} {t:Tk} {r:List Tk} {en:Int} {b off cap n:Nat} (h:RdAt w rb (t :: r) en) (D:w.cell? ⟨rb,0,none⟩=some (.slice (some ⟨b,off,none⟩) n cap)) (s0:Option Addr) (c k:Nat) (hk:k=r.length)
    (h1:k≤c) (h2:c≤maxLen) (h3:0<k→s0=some ⟨b,off+4,none⟩) (h4:∀b' o',s0=some ⟨b',o',none⟩→b'=b):RdAt (w.setCell ⟨rb,0,none⟩ (.slice s0 k c)) rb r en:=by
 obtain ⟨s0',cap',A,_,_,B,C⟩:=h.rest;rw [D] at A;injection A with e
 injection e with e1 e2 e3
 subst e1 hk;refine h.set (Nat.le_succ _) h1 h2 (fun h0=>?_) (fun b' o' e=>?_)
 ·have:=h3 h0
  subst this;exact B.tail h0
 ·rw [h4 b' o' e]
  exact C b off rfl
theorem ja (rb:Nat) (s:ByteArray) (l:List Tk) (en:Int) (w:World) (h:RdAt w rb l en) :
    Calls Tryz.prog 76 #[.pointer (some ⟨rb,0,none⟩),.string s] w fun e w'=>e=.returned (.bool (atS l 0 s))∧RdAt w' rb (if atS l 0 s then l.tail else l) en∧On rb w w':=by
 have HA:=zh (fD rb 0 s l en w h);have HH:=zh h
 cases l with
 | nil =>
  rw [l8] at *;clear h;go_enter Tryz.func76,Tryz.ntmps76
  go_wp2_with fail
  refine HA.o.mono ?_;rintro e w1 ⟨rfl,rfl⟩;go_wp2_with fail
  go_ret
  exact ⟨rfl,HH.o,On.refl _ _⟩
 | cons t r =>
  obtain ⟨s0,cap,I,K,H,B,G⟩:=h.rest;obtain ⟨b,off,hs,M,_⟩:=B (by simp);subst hs;have HT:=zh (fun s0 c k=>ud (n:=(t :: r).length) (cap:=cap) h I s0 c k)
  have L:w.frozen? ⟨rb,0,none⟩=false:=by
   obtain ⟨_,ho⟩:=h.obj;exact ae ho 0
  have J:(1:Int)≤((t :: r).length:Int):=by simp;omega
  have A:(t :: r).length=r.length+1:=rfl;have C:=zh A;clear B h G;unfold maxLen at H
  cases hq:atS (t :: r) 0 s
  ·rw [hq] at HA
   clear hq A;generalize (t :: r).length=n at *;go_enter Tryz.func76,Tryz.ntmps76
   go_wp2_with fail
   refine HA.o.mono ?_;rintro e w1 ⟨rfl,rfl⟩;go_wp2_with fail
   go_ret
   exact ⟨rfl,HH.o,On.refl _ _⟩
  ·rw [hq] at HA
   clear hq A;generalize (t :: r).length=n at *;by_cases D:cap=1
   ·subst D
    have E:n=1:=by omega
    have N:=zh E;subst E;go_enter Tryz.func76,Tryz.ntmps76
    go_wp2_with fail
    refine HA.o.mono ?_;rintro e w1 ⟨rfl,rfl⟩;go_wp2_with fail
    go_ret
    exact ⟨rfl,HT.o _ 0 0 (by have:=C.o;omega) (Nat.le_refl _) (Nat.zero_le _) (fun h=>absurd h (by omega)) (fun b' o' e=>by injection e with e;injection e with e _;exact e.symm),(On.refl _ _).set 0 _⟩
   ·have F:(1:Int)<(cap:Int):=by omega
    go_enter Tryz.func76,Tryz.ntmps76
    go_wp2_with fail
    refine HA.o.mono ?_;rintro e w1 ⟨rfl,rfl⟩;go_wp2_with fail
    go_ret
    exact ⟨rfl,HT.o _ (cap-1) (n-1) (by have:=C.o;omega) (by omega) (by unfold maxLen;omega) (fun _=>rfl) (fun b' o' e=>by injection e with e;injection e with e _;exact e.symm),(On.refl _ _).set 0 _⟩
theorem aW (rb sb:Nat) (s:ByteArray) (l:List Tk) (en:Int) (w:World) (h:RdAt w rb l en) (hs:w.cell? ⟨sb,0,none⟩=some (.string s)) :
    Calls Tryz.prog 71 #[.pointer (some ⟨rb,0,none⟩),.slice (some ⟨sb,0,none⟩) 1 1] w (PSays rb en w (fun _ _ v=>v=.tuple #[]) (bh en s l)):=by
 have HA:=zh (ja rb s l en w h);have HF:=zh (fun (W:World) (hW:RdAt W rb l en)=>mJ rb l en 41 W hW);have E:Hd (atS l 0 s=true→bh en s l=.ok ((),l.tail)):=zh (fun h=>by unfold bh;rw [if_pos h]);have F:Hd (atS l 0 s=false→bh en s l=.error (41,aQ en l)):=zh (fun h=>by unfold bh;rw [if_neg (by rw [h];decide)]);generalize bh en s l=m at *;generalize aQ en l=pl at *;have HH:=zh h;clear h;go_enter Tryz.func71,Tryz.ntmps71
 go_wp2_with fail
 cases hq:atS l 0 s
 ·rw [hq] at HA F E
  have HM:=zh (F.o rfl);clear hq;go_loopw [8] (fun s8 wr=>s8=.int .i64 0∧w=wr) (fun s8 _=>1-(intOf s8).toNat)
  case atStart=>exact ⟨rfl,rfl⟩
  case round =>
   obtain ⟨rfl,rfl⟩:=hrel;go_wp2_with fail
   refine HA.o.mono ?_;rintro e w1 ⟨rfl,A,B⟩;have C:=zh A;have D:=zh B;clear A B;go_wp2_with fail
   refine (HF.o w1 C.o).mono ?_;rintro e w2 ⟨rfl,rfl⟩;unfold Pan;go_wp2_with fail
   refine ⟨rfl,?_⟩;rw [HM.o];exact ⟨rfl,D.o⟩
 ·rw [hq] at HA F E
  have HM:=zh (E.o rfl);clear hq;go_loopw [8] (fun s8 wr=>(s8=.int .i64 0∧w=wr)∨(s8=.int .i64 1∧RdAt wr rb l.tail en∧On rb w wr)) (fun s8 _=>1-(intOf s8).toNat)
  case atStart=>exact .inl ⟨rfl,rfl⟩
  case round =>
   rcases hrel with ⟨rfl,rfl⟩ | ⟨rfl,A,B⟩
   ·go_wp2_with fail
    refine HA.o.mono ?_;rintro e w1 ⟨rfl,A,B⟩;have C:=zh A;have D:=zh B;clear A B;go_wp2_with fail
    go_roundw
    case rel=>exact .inr ⟨rfl,C.o,D.o⟩
    case measure=>simp [intOf]
   ·have C:=zh A
    have D:=zh B;clear A B;go_wp2_with fail
    go_end0
    rw [HM.o];exact ⟨⟨_,rfl,rfl,C.o⟩,D.o⟩
theorem ru (rb:Nat) (k:Int) (l:List Tk) (en:Int) (w:World) (h:RdAt w rb l en) :
    Calls Tryz.prog 100 #[.pointer (some ⟨rb,0,none⟩),.int .i64 k] w (PSays rb en w (fun _ t v=>v=tkV t.kind t.text t.num t.pos) (eB en k l)):=by
 have HF:=zh (fun (W:World) (hW:RdAt W rb l en)=>mJ rb l en 41 W hW);have HH:=zh h;have D:Below w.heap.size w (w.alloc (.cells #[.int .i64 0,.string ⟨#[]⟩,.int .i64 0,.int .i64 0] 157)):=ag (Below.refl _ _) _;have J:=zh D;have I:=zh (h.on D);have S:=h.lt;obtain ⟨s0,cap,H,T,M,B,F⟩:=h.rest;unfold maxLen at M
 cases l with
 | nil =>
  have HM:Hd (eB en k []=.error (41,aQ en [])):=zh rfl;clear h B D F;go_enter Tryz.func100,Tryz.ntmps100
  go_wp2_with fail
  refine (HF.o _ I.o).mono ?_;rintro e w2 ⟨rfl,rfl⟩;unfold Pan;go_wp2_with fail
  refine ⟨rfl,?_⟩;rw [HM.o];exact ⟨rfl,On.of_below J.o⟩
 | cons t r =>
  obtain ⟨b,off,hs,V,A⟩:=B (by simp);subst hs;obtain ⟨x0,x1,x2,x3⟩:=A 0 (by simp);have y0:w.cell? ⟨b,off,none⟩=some (.int .i64 t.kind):=by simpa using x0
  have y1:w.cell? ⟨b,off+1,none⟩=some (.string t.text):=by simpa using x1
  have y2:w.cell? ⟨b,off+2,none⟩=some (.int .i64 t.num):=by simpa using x2
  have y3:w.cell? ⟨b,off+3,none⟩=some (.int .i64 t.pos):=by simpa using x3
  have HT:=zh (fun (W:World) (hW:RdAt W rb (t :: r) en) (N:W.cell? ⟨rb,0,none⟩=some (.slice (some ⟨b,off,none⟩) (t :: r).length cap)) s0 c k=>ud (n:=(t :: r).length) (cap:=cap) hW N s0 c k)
  have U:w.frozen? ⟨rb,0,none⟩=false:=by
   obtain ⟨_,ho⟩:=h.obj;exact ae ho 0
  have Q:(((t :: r).length:Int)==0)=false:=by simp;omega
  have R:(1:Int)≤((t :: r).length:Int):=by simp;omega
  have C:=zh (show (t :: r).length=r.length+1 from rfl);have O:Hd ((t.kind==k)=true→eB en k (t :: r)=.ok (t,r)):=zh (fun h=>by unfold eB;dsimp only;rw [if_pos h]);have P:Hd ((t.kind==k)=false→eB en k (t :: r)=.error (41,aQ en (t :: r))):=zh (fun h=>by unfold eB;dsimp only;rw [if_neg (by rw [h];decide)];rfl);clear h B D F A x0 x1 x2 x3;generalize eB en k (t :: r)=m at *;generalize aQ en (t :: r)=pl at *
  cases hq:(t.kind==k)
  ·have HM:=zh (P.o hq)
   have K:(t.kind !=k)=true:=by simp [bne,hq]
   clear hq;generalize (t :: r).length=n at *;go_enter Tryz.func100,Tryz.ntmps100
   go_wp2_with fail
   refine (HF.o _ I.o).mono ?_;rintro e w2 ⟨rfl,rfl⟩;unfold Pan;go_wp2_with fail
   refine ⟨rfl,?_⟩;rw [HM.o];exact ⟨rfl,On.of_below J.o⟩
  ·have HM:=zh (O.o hq)
   have K:(t.kind !=k)=false:=by simp [bne,hq]
   clear hq;generalize (t :: r).length=n at *;by_cases E:cap=1
   ·subst E
    have L:n=1:=by omega
    subst L;go_enter Tryz.func100,Tryz.ntmps100
    go_wp2_with fail
    refine bodyPost_ret (v:=tkV t.kind t.text t.num t.pos) (by simp [results,Tryz.results100,go_sem,tkV]) rfl ?_;rw [HM.o];exact ⟨⟨_,rfl,rfl,(HT.o w HH.o H _ 0 0 (by have:=C.o;omega) (Nat.le_refl _) (Nat.zero_le _) (fun h=>absurd h (by omega)) (fun b' o' e=>by injection e with e;injection e with e _;exact e.symm)).on (ag (ag (Below.refl _ _) _) _)⟩,(((On.refl _ _).set 0 _).alloc _).alloc _⟩
   ·have G:(1:Int)<(cap:Int):=by omega
    go_enter Tryz.func100,Tryz.ntmps100
    go_wp2_with fail
    refine bodyPost_ret (v:=tkV t.kind t.text t.num t.pos) (by simp [results,Tryz.results100,go_sem,tkV]) rfl ?_;rw [HM.o];exact ⟨⟨_,rfl,rfl,(HT.o w HH.o H _ (cap-1) (n-1) (by have:=C.o;omega) (by omega) (by unfold maxLen;omega) (fun _=>rfl) (fun b' o' e=>by injection e with e;injection e with e _;exact e.symm)).on (ag (ag (Below.refl _ _) _) _)⟩,(((On.refl _ _).set 0 _).alloc _).alloc _⟩
theorem o7 (k n p:Int) (t:ByteArray) (W:World):(Instr.field 157 (.agg #[.int .i64 k,.string t,.int .i64 n,.int .i64 p]) 1).run Tryz.prog W=.ok (.string t) W:=by kernel_rfl
theorem gW (rb:Nat) (l:List Tk) (en:Int) (w:World) (h:RdAt w rb l en) :
    Calls Tryz.prog 72 #[.pointer (some ⟨rb,0,none⟩)] w (PSays rb en w (fun _ t v=>v=.string t) (ft en l)):=by
 have HK:=zh (ru rb 1 l en w h)
 have HN:Hd (∀m,eB en 1 l=m→ft en l=(match m with | .error e=>.error e | .ok (t,r)=>.ok (t.text,r))):=zh (fun m hm=>by
   unfold ft Par.bind;rw [hm]
   cases m with
   | error e=>rfl
   | ok x=>rfl)
 clear h
 cases hm:eB en 1 l with
 | error e =>
  obtain ⟨er,p⟩:=e;rw [hm] at HK;have A:=zh (HN.o _ hm);clear hm;go_enter Tryz.func72,Tryz.ntmps72
  go_wp2_with fail
  refine HK.o.mono ?_;rintro e w1 ⟨he,ho⟩;have B:e=Pan er p:=he;subst B;have HO:=zh ho;clear ho he;unfold Pan;go_wp2_with fail
  refine ⟨rfl,?_⟩;rw [A.o];exact ⟨rfl,HO.o⟩
 | ok x =>
  obtain ⟨t,r⟩:=x;rw [hm] at HK;have A:=zh (HN.o _ hm);clear hm;go_enter Tryz.func72,Tryz.ntmps72
  go_wp2_with fail
  refine HK.o.mono ?_;rintro e w1 ⟨⟨v,rfl,rfl,hr⟩,ho⟩;have HO:=zh ho;have HR:=zh hr;clear ho hr;unfold tkV;have C:=o7 t.kind t.num t.pos t.text w1;go_wp2_with fail
  go_ret
  rw [A.o];exact ⟨⟨_,rfl,rfl,HR.o⟩,HO.o⟩
end
end Go.Proofs.YthgcpfkochikfaaGreat
