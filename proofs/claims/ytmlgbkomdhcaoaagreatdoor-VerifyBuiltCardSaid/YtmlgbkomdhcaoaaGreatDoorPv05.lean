/-
  VerifyBuilt: part 5 of its proof: see the last text.
-/
import Derived.Test.YtmlgbkomdhcaoaaGreatDoorPv04
set_option maxRecDepth 100000
set_option maxHeartbeats 16000000
namespace Go.Proofs.YtmlgbkomdhcaoaaGreatDoor
section
open Go.RowKit
theorem eP {a b:World} (h:Below a.heap.size a b) {k j:Nat} (hk:a.heap.size≤k) (u:Value):Below a.heap.size a (b.setCell ⟨k,j,none⟩ u):=Ak h (p:=⟨k,j,none⟩) hk u
def tkV (k:Int) (t:ByteArray) (n p:Int):Value:=.agg #[.int .i64 k,.string t,.int .i64 n,.int .i64 p]
def xy (w:World) (r:Except Int (Tk×Nat)) (e:Ending) (w':World):Prop:=
 (match r with
  | .error er=>∃k t n p,e=.returned (.tuple #[tkV k t n p,.int .i64 0,.int .i64 er])
  | .ok (t,q)=>e=.returned (.tuple #[tkV t.kind t.text t.num t.pos,.int .i64 (q:Int),.int .i64 0]))∧Below w.heap.size w w'
theorem kK (lo hi:Int) (w:World):Calls Tryz.prog 81 #[.int .u8 lo,.int .u8 hi] w fun e w'=>e=.returned (.func (.func 99) #[] #[.pointer (some ⟨w.heap.size,0,none⟩),.pointer (some ⟨w.heap.size+1,0,none⟩)])∧Below w.heap.size w w' ∧
    w'.cell? ⟨w.heap.size,0,none⟩=some (.int .u8 lo)∧w'.cell? ⟨w.heap.size+1,0,none⟩=some (.int .u8 hi)∧w'.heap.size=w.heap.size+2:=by
 go_enter Tryz.func81,Tryz.ntmps81
 go_wp2_with fail
 go_ret
 exact ⟨rfl,ag (ag (Below.refl _ _) _) _,ak _ (aw _ _ _ _ _ _ rfl rfl),aw _ _ _ _ _ _ (ah _ _) rfl,by rw [ah,ah]⟩
theorem IsKind.two {w:World} {f:FuncId} {x y:Value} {p:UInt8→Bool} (h:IsKind w f #[x,y] p) (c:UInt8) (W:World) (hW:Below w.heap.size w W):Calls Tryz.prog f #[.int .u8 (c.toNat:Int),x,y] W fun e W'=>e=.returned (.bool (p c))∧Below W.heap.size W W':=h c W hW
theorem IsKind.cast {w:World} {f:FuncId} {A:Array Value} {p q:UInt8→Bool} (h:IsKind w f A p) (B:p=q):IsKind w f A q:=B▸h
theorem vT (s0:Option Addr) (n cap:Nat) (w:World):Calls Tryz.prog 82 #[.slice s0 n cap] w fun e w'=>e=.returned (.func (.func 100) #[] #[.pointer (some ⟨w.heap.size,0,none⟩)])∧Below w.heap.size w w'∧w'.cell? ⟨w.heap.size,0,none⟩=some (.slice s0 n cap):=
 (sQ s0 n cap w).mono fun e w' ⟨h1,h2⟩=>⟨h1,by rw [h2];exact ag (Below.refl _ _) _,by rw [h2];exact aw _ _ _ _ _ _ rfl rfl⟩
theorem fn3 {w:World} {b:Nat} {k0 k1 k2:Array Value} {q0 q1 q2:UInt8→Bool} (h0:w.cell? ⟨b,0,none⟩=some (.func (.func 99) #[] k0)) (h1:w.cell? ⟨b,1,none⟩=some (.func (.func 99) #[] k1)) (h2:w.cell? ⟨b,2,none⟩=some (.func (.func 99) #[] k2))
    (g0:IsKind w 99 k0 q0) (g1:IsKind w 99 k1 q1) (g2:IsKind w 99 k2 q2):FnAt w b 3 (fun _=>99) (fun i=>if i=0 then k0 else if i=1 then k1 else k2) (fun i=>if i=0 then q0 else if i=1 then q1 else q2):=by
 refine ⟨fun i hi=>?_,fun i _ args W=>Tryz.call99 _ _,fun i hi=>?_⟩
 ·rcases (show i=0∨i=1∨i=2 by omega) with rfl | rfl | rfl
  ·exact h0
  ·exact h1
  ·exact h2
 ·rcases (show i=0∨i=1∨i=2 by omega) with rfl | rfl | rfl
  ·exact g0
  ·exact g1
  ·exact g2
theorem tE (l:List UInt8):(bX l).length≤2:=by
 match l with
 | []=>simp [bX]
 | [a] =>
  simp only [bX]
  split<;>simp
 | a :: b :: t =>
  simp only [bX]
  split
  ·simp
  ·split<;>simp
theorem nW (p:Nat→UInt8→Bool) (h0:p 0=gA) (h1:p 1=dp) (h2:p 2=nC):(fun c=>decide (0≤eD p c 3 0))=dn:=by
 funext c
 unfold dn;simp only [eD,h0,h1,h2]
 cases gA c<;>cases dp c<;>cases nC c<;>rfl
theorem wm (b off cap:Nat) (s:List UInt8) (a:Nat) (w:World) (hs:SrcAt w (some ⟨b,off,none⟩) s) (ha:a<s.length) (hl:s.length≤100000) (hc:s.length≤cap) :
    Calls Tryz.prog 50 #[.slice (some ⟨b,off,none⟩) s.length cap,.int .i64 a] w (xy w (dt s a)):=by
 have HS:=zh hs;obtain ⟨b',off',e,hy,C⟩:=hs (by omega);injection e with e
 injection e with e1 e2
 subst e1 e2;have y0:=C a ha;clear C hs;have h1:s.getD a 0=s[a]:=by rw [List.getD_eq_getElem?_getD,List.getElem?_eq_getElem ha];rfl
 have HC:Hd (s.getD a 0=s[a]):=zh h1
 have HQ:Hd (∀p:UInt8→Bool,p s[a]=true→a<bg p s a):=zh (fun p hp=>by
   rw [eX ha hp];have:=eS p s (a+1);omega)
 rw [h1] at y0;clear h1;generalize s[a]=c at *;have hQ:=u8i c;go_enter Tryz.func50,Tryz.ntmps50
 go_wp2_with fail
 have hg:Below w.heap.size w ((w.alloc (.cells #[.int .i64 0,.string ⟨#[]⟩,.int .i64 0,.int .i64 0] 120)).alloc (.cells #[.int .i64 0,.string ⟨#[]⟩,.int .i64 0,.int .i64 (a:Int)] 120)):=ag (ag (Below.refl _ _) _) _;refine (kK _ _ _).mono ?_;rintro e w1 ⟨rfl,m,d1,d2,he⟩;rw [ah,ah] at he d1 d2;have hN:=zh (ay hg m);obtain ⟨ar,f⟩:∃arr,w1.heap[w.heap.size]?=some (.cells arr 120 (0,0))∧arr=#[.int .i64 0,.string ⟨#[]⟩,.int .i64 0,.int .i64 0]:=⟨_,(m.block _ (by rw [ah,ah];omega)).trans (az _ _ _ _ (am _ _ _ rfl)),rfl⟩
 obtain ⟨at_,Z⟩:∃arr,w1.heap[w.heap.size+1]?=some (.cells arr 120 (0,0))∧arr=#[.int .i64 0,.string ⟨#[]⟩,.int .i64 0,.int .i64 (a:Int)]:=⟨_,(m.block _ (by rw [ah,ah];omega)).trans (am _ _ _ (ah _ _)),rfl⟩
 obtain ⟨f,rfl⟩:=f;obtain ⟨Z,rfl⟩:=Z;have hF:=zh f;have hC:=zh Z;clear f Z m hg;go_wp2_with fail
 refine (kK _ _ _).mono ?_;rintro e w2 ⟨rfl,R,l1,l2,hu⟩;have h9:=zh (ay hN.o R);have hM:=zh ((aM R _ _ (by omega)).trans d1);have hL:=zh ((aM R _ _ (by omega)).trans d2);have ho:=zh l1;have hn:=zh l2;have hE:=zh ((R.block _ (by omega)).trans hF.o);have hB:=zh ((R.block _ (by omega)).trans hC.o);rw [he] at hu ho hn;have x0:=(aM h9.o _ _ hy).trans y0;have Y:=zh (fun (W:World) (hW:Below w2.heap.size w2 W)=>IsKind.cast (q:=gA) (hJ 97 122 _ _ W ((aM hW _ _ (by omega)).trans ho.o) ((aM hW _ _ (by omega)).trans hn.o)) rfl);have P:=zh (fun (W:World) (hW:Below w2.heap.size w2 W)=>IsKind.cast (q:=dp) (hJ 48 57 _ _ W ((aM hW _ _ (by omega)).trans hM.o) ((aM hW _ _ (by omega)).trans hL.o)) rfl);clear d1 d2 l1 l2 R y0;go_wp2_with fail
 refine ((Y.o w2 (Below.refl _ _)).two c w2 (Below.refl _ _)).mono ?_;rintro e w3 ⟨rfl,U⟩;have h8:=zh U;have hb:=U.size;have hm:=zh ((U.block _ (by omega)).trans hE.o);have hj:=zh ((U.block _ (by omega)).trans hB.o);clear U
 cases hlet:gA c
 ·have HN:Hd (∀d q:Bool,dp c=d→(c==34)=q→dt s a=if d then (match io (dj s a (bg dp s a)) 0 with
      | none=>.error 32
      | some n=>.ok (fZ 2 [] n a,bg dp s a)) else if q then
        (if bg eh s (a+1)==s.length || s.getD (bg eh s (a+1)) 0 !=34 then .error 31
          else if 64<bg eh s (a+1)-a-1 then .error 32 else .ok (fZ 3 (dj s (a+1) (bg eh s (a+1))) 0 a,bg eh s (a+1)+1))
      else (if bX (dj s a (min (a+2) s.length))=[] then .error 31 else .ok (fZ 4 (bX (dj s a (min (a+2) s.length))) 0 a,a+(bX (dj s a (min (a+2) s.length))).length))):=zh (fun d q hd hq=>by
    unfold dt;rw [HC.o];simp only [hlet,hd,hq]
    rfl)
  clear hlet x0;go_wp2_with fail
  refine ((P.o w3 h8.o).two c w3 (Below.refl _ _)).mono ?_;rintro e w4 ⟨rfl,M⟩;have r:=zh (h8.o.trans (M.mono hb));have E:=zh (ay h9.o r.o);have u:=M.size;have J:=zh ((M.block _ (by omega)).trans hm.o);have H:=zh ((M.block _ (by omega)).trans hj.o);clear M
  cases hdig:dp c
  ·have hh:=r8 c 34
   have V:((c.toNat:Int)==34)=(c==34):=hh;have N:=zh (HN.o _ (c==34) hdig rfl);clear hh hdig
   cases hq:(c==34)
   ·rw [hq] at V N
    have hD:=zh (gU b off cap s a w4 (HS.o.later E.o) (by omega) (by omega) (by omega));have t0:=aa H.o (j:=0) rfl;have t1:=aa H.o (j:=1) rfl;have t2:=aa H.o (j:=2) rfl;have t3:=aa H.o (j:=3) rfl;have tf0:=af H.o 0;have tf1:=af H.o 1;have tf2:=af H.o 2;have tf3:=af H.o 3;have r0:=aa J.o (j:=0) rfl;have r1:=aa J.o (j:=1) rfl;have r2:=aa J.o (j:=2) rfl;have r3:=aa J.o (j:=3) rfl;have rf0:=af J.o 0;have rf1:=af J.o 1;have rf2:=af J.o 2;have rf3:=af J.o 3;have hO:((bX (dj s a (min (a+2) s.length))).length:Int)≤2:=by have:=tE (dj s a (min (a+2) s.length));omega
    generalize bX (dj s a (min (a+2) s.length))=l at *;have X:Hd (dt s a=if l=[] then .error 31 else .ok (fZ 4 l 0 a,a+l.length)):=zh (by have h:=N.o;simp at h;exact h);have hS:Hd ((⟨l.toArray⟩:ByteArray).toList=l):=zh (by rw [ByteArray.toList_eq]);clear hq;go_wp2_with fail
    refine hD.o.mono ?_;rintro e w5 ⟨rfl,rfl⟩;by_cases T:l=[]
    ·have HF:Hd (dt s a=.error 31):=zh (by rw [X.o,if_pos T])
     subst T;go_wp2_with fail
     refine bodyPost_ret (v:=.tuple #[tkV 4 ⟨#[]⟩ 0 (a:Int),.int .i64 0,.int .i64 31]) (by simp [results,Tryz.results50,go_sem,tkV,r0,r1,r2,r3]) rfl ?_;rw [HF.o];refine ⟨⟨_,_,_,_,rfl⟩,?_⟩;repeat (with_reducible first | exact E.o | refine aB ?_ | refine cQ ?_ _ | refine eP ?_ (by omega) _)
    ·have HF:Hd (dt s a=.ok (fZ 4 l 0 a,a+l.length)):=zh (by rw [X.o,if_neg T])
     have hP:l.isEmpty=false:=by cases l with
      | nil=>exact absurd rfl T
      | cons x t=>rfl
     clear T;go_wp2_with fail
     go_region
     go_wp2_with fail
     refine bodyPost_ret (v:=.tuple #[tkV 4 ⟨l.toArray⟩ 0 (a:Int),.int .i64 ((a:Int)+(l.length:Int)),.int .i64 0]) (by simp [results,Tryz.results50,go_sem,tkV,r0,r1,r2,r3]) rfl ?_;rw [HF.o];refine ⟨rfl,?_⟩;repeat (with_reducible first | exact E.o | refine aB ?_ | refine cQ ?_ _ | refine eP ?_ (by omega) _)
   ·rw [hq] at V N
    have X:Hd (dt s a=if bg eh s (a+1)==s.length || s.getD (bg eh s (a+1)) 0 !=34 then .error 31
          else if 64<bg eh s (a+1)-a-1 then .error 32 else .ok (fZ 3 (dj s (a+1) (bg eh s (a+1))) 0 a,bg eh s (a+1)+1)):=zh (by have h:=N.o;simp only [Bool.false_eq_true,if_false,if_true] at h;exact h)
    clear hq;go_wp2_with fail
    refine (i7 _ cap s (a+1) 85 _ eh w4 (HS.o.later E.o) (by omega) (by omega) (fun _ _=>Tryz.call85 _ _) (vu w4)).mono ?_;rintro e w5 ⟨rfl,B⟩;have L:=zh (ay E.o B);have hr:=B.size;have I:=zh ((B.block _ (by omega)).trans J.o);have G:=zh ((B.block _ (by omega)).trans H.o);have O:=zh ((HS.o.later E.o).later B);have q1:=eS eh s (a+1);have q2:=fm (p:=eh) (show a+1≤s.length by omega);clear B;generalize bg eh s (a+1)=q at *;have t0:=aa G.o (j:=0) rfl;have t1:=aa G.o (j:=1) rfl;have t2:=aa G.o (j:=2) rfl;have t3:=aa G.o (j:=3) rfl;have tf0:=af G.o 0;have tf1:=af G.o 1;have tf2:=af G.o 2;have tf3:=af G.o 3;have r0:=aa I.o (j:=0) rfl;have r1:=aa I.o (j:=1) rfl;have r2:=aa I.o (j:=2) rfl;have r3:=aa I.o (j:=3) rfl;have rf0:=af I.o 0;have rf1:=af I.o 1;have rf2:=af I.o 2;have rf3:=af I.o 3;by_cases g:q=s.length
    ·have hd:((q:Int)==(s.length:Int))=true:=by simp [g]
     have HF:Hd (dt s a=.error 31):=zh (by rw [X.o,g];simp);clear g;go_wp2_with fail
     refine bodyPost_ret (v:=.tuple #[tkV 0 ⟨#[]⟩ 0 (a:Int),.int .i64 0,.int .i64 31]) (by simp [results,Tryz.results50,go_sem,tkV,r0,r1,r2,r3]) rfl ?_;rw [HF.o];refine ⟨⟨_,_,_,_,rfl⟩,?_⟩;repeat (with_reducible first | exact L.o | refine aB ?_ | refine cQ ?_ _ | refine eP ?_ (by omega) _)
    have hd:((q:Int)==(s.length:Int))=false:=by simp;omega
    have hv:q<s.length:=by omega
    obtain ⟨b',off',e,_,C⟩:=O.o (by omega);injection e with e
    injection e with e1 e2
    subst e1 e2;have g0:=C q hv;generalize hx:s.getD q 0=ch at *;have g34:((ch.toNat:Int)==34)=(ch==34):=r8 ch 34
    have hG:Hd (∀z,(ch==34)=z→dt s a=if !z then .error 31 else if 64<q-a-1 then .error 32 else .ok (fZ 3 (dj s (a+1) q) 0 a,q+1)):=zh (fun z hz=>by
      rw [X.o];have:(q==s.length)=false:=by simp;omega
      simp only [this,Bool.false_or,bne,hz])
    have h5:=zh (hG.o _ rfl);have gn:((ch.toNat:Int) !=34)=!(ch==34):=by rw [←g34];rfl
    have hw:=u8i ch;clear C g hx g34;generalize (ch==34)=z at *;generalize ch.toNat=ch' at *
    cases z
    ·have gn':((ch':Int) !=34)=true:=gn
     have HF:Hd (dt s a=.error 31):=zh (by rw [h5.o];rfl);clear gn;go_wp2_with fail
     refine bodyPost_ret (v:=.tuple #[tkV 0 ⟨#[]⟩ 0 (a:Int),.int .i64 0,.int .i64 31]) (by simp [results,Tryz.results50,go_sem,tkV,r0,r1,r2,r3]) rfl ?_;rw [HF.o];refine ⟨⟨_,_,_,_,rfl⟩,?_⟩;repeat (with_reducible first | exact L.o | refine aB ?_ | refine cQ ?_ _ | refine eP ?_ (by omega) _)
    have gn':((ch':Int) !=34)=false:=gn;clear gn;by_cases A:64<q-a-1
    ·have h2:(64:Int)<(q:Int)-(a:Int)-1:=by omega
     have HF:Hd (dt s a=.error 32):=zh (by rw [h5.o,if_neg (by decide),if_pos A]);clear A;go_wp2_with fail
     refine bodyPost_ret (v:=.tuple #[tkV 0 ⟨#[]⟩ 0 (a:Int),.int .i64 0,.int .i64 32]) (by simp [results,Tryz.results50,go_sem,tkV,r0,r1,r2,r3]) rfl ?_;rw [HF.o];refine ⟨⟨_,_,_,_,rfl⟩,?_⟩;repeat (with_reducible first | exact L.o | refine aB ?_ | refine cQ ?_ _ | refine eP ?_ (by omega) _)
    have h2:¬(64:Int)<(q:Int)-(a:Int)-1:=by omega
    have HF:Hd (dt s a=.ok (fZ 3 (dj s (a+1) q) 0 a,q+1)):=zh (by rw [h5.o,if_neg (by decide),if_neg A]);clear A
    have kd:∀(W:World),(∀k,k≠w.heap.size+1→W.heap[k]?=w5.heap[k]?)→(convert 22 9 (.slice (some ⟨b,off+(a+1),none⟩) (q-(a+1)) (cap-(a+1)))).run Tryz.prog W=.ok (.string ⟨(dj s (a+1) q).toArray⟩) W:=fun W hW=>lX (fun h0=>by
      obtain ⟨b',off',e,y,C⟩:=O.o h0;injection e with e
      injection e with e1 e2
      subst e1 e2;exact ⟨b,off,rfl,by have:=hW b (by omega);rw [Array.getElem?_eq_getElem y] at this;exact ae this,fun i hi=>(World.cell?_of_block (w:=w5) (hW b (by omega))).trans (C i hi)⟩) (by omega) (cap-(a+1)) (q-(a+1)) rfl
    have kc1:=kd w5.drew (fun _ _=>rfl);have kc2:=kd (w5.setCell ⟨w.heap.size+1,0,none⟩ (.int .i64 3)).drew (fun k hk=>aj _ _ _ _ hk);generalize dj s (a+1) q=l at *;clear kd;go_wp2_with fail
    go_region
    clear kc1 kc2;go_wp2_with fail
    refine bodyPost_ret (v:=.tuple #[tkV 3 ⟨l.toArray⟩ 0 (a:Int),.int .i64 ((q:Int)+1),.int .i64 0]) (by simp [results,Tryz.results50,go_sem,tkV,r0,r1,r2,r3]) rfl ?_;rw [HF.o];refine ⟨rfl,?_⟩;repeat (with_reducible first | exact L.o | refine aB ?_ | refine cQ ?_ _ | refine eP ?_ (by omega) _)
  ·have N:=zh (HN.o _ _ hdig rfl)
   have h4:=zh (HQ.o dp hdig);clear hdig;go_wp2_with fail
   refine (i7 _ cap s a 99 _ dp w4 (HS.o.later E.o) (by omega) (by omega) (fun _ _=>Tryz.call99 _ _) (P.o w4 r.o)).mono ?_;rintro e w5 ⟨rfl,B⟩;have L:=zh (ay E.o B);have hr:=B.size;have I:=zh ((B.block _ (by omega)).trans J.o);have G:=zh ((B.block _ (by omega)).trans H.o);have q2:=fm (p:=dp) (show a≤s.length by omega);have q3:=h4.o
   have hK:Hd (∀i,i<(dj s a (bg dp s a)).length→dp ((dj s a (bg dp s a)).getD i 0)=true):=zh (fun i hi=>by
     rw [fd q2] at hi;have hf:a+i<s.length:=by omega
     rw [pL (by omega),List.getD_eq_getElem?_getD,List.getElem?_eq_getElem hf];exact oO (p:=dp) (a:=a) (i:=a+i) (by omega) (by omega) hf)
   clear B;generalize bg dp s a=q at *;go_wp2_with fail
   refine (wn _ _ _ (dj s a q) w5 (fd q2).symm ((HS.o.later L.o).cut q2) (by rw [fd q2];omega) hK.o).mono ?_;rintro e w6 ⟨rfl,K⟩;have S:=zh (ay L.o K);have D:=zh ((K.block _ (by omega)).trans I.o);have F:=zh ((K.block _ (by omega)).trans G.o);have t0:=aa F.o (j:=0) rfl;have t1:=aa F.o (j:=1) rfl;have t2:=aa F.o (j:=2) rfl;have t3:=aa F.o (j:=3) rfl;have tf0:=af F.o 0;have tf1:=af F.o 1;have tf2:=af F.o 2;have tf3:=af F.o 3;have r0:=aa D.o (j:=0) rfl;have r1:=aa D.o (j:=1) rfl;have r2:=aa D.o (j:=2) rfl;have r3:=aa D.o (j:=3) rfl;have rf0:=af D.o 0;have rf1:=af D.o 1;have rf2:=af D.o 2;have rf3:=af D.o 3;clear K
   cases hnum:io (dj s a q) 0 with
   | none =>
    have HF:Hd (dt s a=.error 32):=zh (by have h:=N.o;simp [hnum] at h;exact h);clear hnum;unfold zD;go_wp2_with fail
    refine bodyPost_ret (v:=.tuple #[tkV 0 ⟨#[]⟩ 0 (a:Int),.int .i64 0,.int .i64 32]) (by simp [results,Tryz.results50,go_sem,tkV,r0,r1,r2,r3]) rfl ?_;rw [HF.o];refine ⟨⟨_,_,_,_,rfl⟩,?_⟩;repeat (with_reducible first | exact S.o | refine aB ?_ | refine cQ ?_ _ | refine eP ?_ (by omega) _)
   | some n =>
    have HF:Hd (dt s a=.ok (fZ 2 [] n a,q)):=zh (by have h:=N.o;simp [hnum] at h;exact h);clear hnum;unfold zD;go_wp2_with fail
    refine bodyPost_ret (v:=.tuple #[tkV 2 ⟨#[]⟩ (n:Int) (a:Int),.int .i64 (q:Int),.int .i64 0]) (by simp [results,Tryz.results50,go_sem,tkV,r0,r1,r2,r3]) rfl ?_;rw [HF.o];refine ⟨rfl,?_⟩;repeat (with_reducible first | exact S.o | refine aB ?_ | refine cQ ?_ _ | refine eP ?_ (by omega) _)
 ·have HN:Hd (dt s a=if gT (dj s a (bg dn s a)) then .ok (fZ 4 (dj s a (bg dn s a)) 0 a,bg dn s a) else if 16<(dj s a (bg dn s a)).length then .error 32 else .ok (fZ 1 (dj s a (bg dn s a)) 0 a,bg dn s a)):=zh (by
    unfold dt;rw [HC.o];simp only [hlet,if_true])
  have h4:=zh (HQ.o dn (by unfold dn;rw [hlet];rfl));clear hlet x0;go_wp2_with fail
  refine (kK _ _ _).mono ?_;rintro e w4 ⟨rfl,M,u1,u2,u⟩;have r:=zh (h8.o.trans (M.mono hb));have HU:=zh (fun (W:World) (hW:Below w4.heap.size w4 W)=>IsKind.cast (q:=nC) (hJ 95 95 _ _ W ((aM hW _ _ (by omega)).trans u1) ((aM hW _ _ (by omega)).trans u2)) rfl);have J:=zh ((M.block _ (by omega)).trans hm.o);have H:=zh ((M.block _ (by omega)).trans hj.o);have hR:=zh u;have ht:w3.heap.size+2≤w4.heap.size:=by omega
  clear M u1 u2 u;go_wp2_with fail
  refine (vT _ _ _ _).mono ?_;rintro e w5 ⟨rfl,B,v1⟩;have z5:=B.size;rw [ah] at z5 v1;have h7:=zh (ay (ag (Below.refl w4.heap.size w4) _) B);have L:=zh (ay (ag r.o _) B)
  have hI:Hd (FnAt w5 w4.heap.size 3 _ _ _):=zh (fn3 (q0:=gA) (q1:=dp) (q2:=nC) ((aM B _ _ (by rw [ah];omega)).trans (aw _ _ _ _ _ _ rfl rfl)) ((aM B _ _ (by rw [ah];omega)).trans (aw _ _ _ _ _ _ rfl rfl)) ((aM B _ _ (by rw [ah];omega)).trans (aw _ _ _ _ _ _ rfl rfl))
    (Y.o w5 L.o) (P.o w5 L.o) (HU.o w5 h7.o))
  have Q:=zh (ay h9.o L.o);have hH:=zh (IsKind.cast (q:=dn) (qP (w4.heap.size+1) w4.heap.size 3 _ _ _ w5 (by omega) hI.o v1) (nW _ rfl rfl rfl));have I:=zh ((B.block _ (by rw [ah];omega)).trans (az _ _ _ _ J.o));have G:=zh ((B.block _ (by rw [ah];omega)).trans (az _ _ _ _ H.o));clear B v1;go_wp2_with fail
  refine (i7 _ cap s a 100 _ dn w5 (HS.o.later Q.o) (by omega) (by omega) (fun _ _=>Tryz.call100 _ _) hH.o).mono ?_;rintro e w6 ⟨rfl,K⟩;have S:=zh (ay Q.o K);have h6:=zh K;have z6:=K.size;have D:=zh ((K.block _ (by omega)).trans I.o);have F:=zh ((K.block _ (by omega)).trans G.o);have q1:=eS dn s a;have q2:=fm (p:=dn) (show a≤s.length by omega);have q3:=h4.o;clear K;generalize bg dn s a=q at *;have t0:=aa F.o (j:=0) rfl;have t1:=aa F.o (j:=1) rfl;have t2:=aa F.o (j:=2) rfl;have t3:=aa F.o (j:=3) rfl;have tf0:=af F.o 0;have tf1:=af F.o 1;have O:=zh (HS.o.later Q.o |>.later h6.o)
  have kd:∀(W:World),(∀k,k≠w.heap.size+1→W.heap[k]?=w6.heap[k]?)→(convert 22 9 (.slice (some ⟨b,off+a,none⟩) (q-a) (cap-a))).run Tryz.prog W=.ok (.string ⟨(dj s a q).toArray⟩) W:=fun W hW=>lX (fun h0=>by
    obtain ⟨b',off',e,y,C⟩:=O.o h0;injection e with e
    injection e with e1 e2
    subst e1 e2;exact ⟨b,off,rfl,by have:=hW b (by omega);rw [Array.getElem?_eq_getElem y] at this;exact ae this,fun i hi=>(World.cell?_of_block (w:=w6) (hW b (by omega))).trans (C i hi)⟩) q2 (cap-a) (q-a) rfl
  have kc1:=kd w6.drew (fun _ _=>rfl);have kc2:=kd (w6.setCell ⟨w.heap.size+1,0,none⟩ (.int .i64 1)).drew (fun k hk=>aj _ _ _ _ hk);generalize dj s a q=l at *;clear kd;go_wp2_with fail
  go_region
  clear kc1 kc2;have hA:Hd (gT (⟨l.toArray⟩:ByteArray).toList=gT l):=zh (by rw [ByteArray.toList_eq]);have hT:Hd (((⟨l.toArray⟩:ByteArray).size:Nat)=l.length):=zh rfl;have r0:=aa D.o (j:=0) rfl;have r1:=aa D.o (j:=1) rfl;have r2:=aa D.o (j:=2) rfl;have r3:=aa D.o (j:=3) rfl;have rf0:=af D.o 0;have rf1:=af D.o 1;have rf2:=af D.o 2;have rf3:=af D.o 3;go_wp2_with fail
  refine (xB _ _).mono ?_;rintro e w7 ⟨rfl,rfl⟩;rw [hA.o]
  cases hwd:gT l
  ·have N:Hd (dt s a=if 16<l.length then .error 32 else .ok (fZ 1 l 0 a,q)):=zh (by rw [HN.o,hwd];rfl)
   clear hwd;by_cases A:16<l.length
   ·have h3:(16:Int)<(l.length:Int):=by omega
    have HF:Hd (dt s a=.error 32):=zh (by rw [N.o,if_pos A]);clear A;go_wp2_with fail
    refine bodyPost_ret (v:=.tuple #[tkV 1 ⟨l.toArray⟩ 0 (a:Int),.int .i64 0,.int .i64 32]) (by simp [results,Tryz.results50,go_sem,tkV,r0,r1,r2,r3]) rfl ?_;rw [HF.o];refine ⟨⟨_,_,_,_,rfl⟩,?_⟩;repeat (with_reducible first | exact S.o | refine aB ?_ | refine cQ ?_ _ | refine eP ?_ (by omega) _)
   ·have h3:¬(16:Int)<(l.length:Int):=by omega
    have HF:Hd (dt s a=.ok (fZ 1 l 0 a,q)):=zh (by rw [N.o,if_neg A]);clear A;go_wp2_with fail
    refine bodyPost_ret (v:=.tuple #[tkV 1 ⟨l.toArray⟩ 0 (a:Int),.int .i64 (q:Int),.int .i64 0]) (by simp [results,Tryz.results50,go_sem,tkV,r0,r1,r2,r3]) rfl ?_;rw [HF.o];refine ⟨rfl,?_⟩;repeat (with_reducible first | exact S.o | refine aB ?_ | refine cQ ?_ _ | refine eP ?_ (by omega) _)
  ·have HF:Hd (dt s a=.ok (fZ 4 l 0 a,q)):=zh (by rw [HN.o,hwd];rfl)
   clear hwd;go_wp2_with fail
   refine bodyPost_ret (v:=.tuple #[tkV 4 ⟨l.toArray⟩ 0 a,.int .i64 q,.int .i64 0]) (by simp [results,Tryz.results50,go_sem,tkV,r0,r1,r2,r3]) rfl ?_;rw [HF.o];refine ⟨rfl,?_⟩;repeat (with_reducible first | exact S.o | refine aB ?_ | refine cQ ?_ _ | refine eP ?_ (by omega) _)
end
end Go.Proofs.YtmlgbkomdhcaoaaGreatDoor
