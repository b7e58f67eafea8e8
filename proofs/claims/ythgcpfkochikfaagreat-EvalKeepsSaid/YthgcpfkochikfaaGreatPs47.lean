/-
  EvalSigns: part 47 of its proof: see the last text.
-/
import Derived.Test.YthgcpfkochikfaaGreatPs46
import Derived.Deep.RegionLawGrows
import Derived.Great.BuildSlice
import Derived.Test.YthgcpfkochikfaaGreatPs00
import Derived.ProofKit
import Derived.ChangeOld
import Derived.ChangeArms
import Derived.SizedLaws
import Derived.Deep.Slices
import Derived.Test.YthgcpfkochikfaaGreatPs42
import Derived.Handed
import Derived.Test.YthgcpfkochikfaaGreatPs44
set_option maxRecDepth 100000
set_option maxHeartbeats 16000000
namespace Go.Proofs.YthgcpfkochikfaaGreat
section
open Go.RowKit
attribute [local go_sem ↓] Go.wp_at_zero Go.wp_at_succ
def srcQ:List UInt8:=[102,110,32,112,40,107,58,32,98,121,116,101,115,44,32,118,58,32,98,121,116,101,115,41,32,123,32,112,117,116,40,107,44,32,118,41,59,32,125,32,102,110,32,103,40,107,58,32,98,121,116,101,115,41,58,32,98,121,116,101,115,32,123,32,114,101,116,117,114,110,32,103,101,116,40,107,41,59,32,125,32,102,110,32,104,40,107,58,32,98,121,116,101,115,41,58,32,98,111,111,108,32,123,32,114,101,116,117,114,110,32,104,97,115,40,107,41,59,32,125,32,102,110,32,100,40,107,58,32,98,121,116,101,115,41,32,123,32,100,101,108,40,107,41,59,32,125]
theorem uA:cY srcQ=.ok eJ:=by kernel_rfl
def zsQ:List Int:=srcQ.map fun b=>(b.toNat:Int)
theorem DZ:(zsQ.map (Value.int .u8)).toArray=(srcQ.map fun b=>Value.int .u8 (b.toNat:Int)).toArray:=by unfold zsQ;rw [List.map_map];rfl
theorem Ae:∃F:List Fn,F=eJ∧cY srcQ=.ok F∧(gS F≤2048∧gC F∧(bL F).1=0):=⟨eJ,rfl,uA,jT uA⟩
theorem yD {w:World} {KB:Nat} {a b c:Value} {t:TypeId} (h:w.heap[KB]?=some (.cells #[a,b,c] t (0,0))):∀j u,([a,b,c]:List Value)[j]?=some u→w.cell? ((⟨KB,0,none⟩:Addr).add j)=some u:=fun j u hj=>by
 have e:(⟨KB,0,none⟩:Addr).add j=⟨KB,j,none⟩:=by simp [Addr.add];omega
 rw [e];exact aa h (by simpa using hj)
theorem tj {a b:World} (h:a.grownBy b none):Below a.heap.size a b:=⟨h.os,h.tape,h.output,h.size,fun i hi=>h.block i hi (by simp)⟩
theorem lY {ops:Array Oper} {o:Oper} {a:Act} {w:World} {K:Act→World→Prop} {Q:Exit→Act→World→Prop} {E:Prop} (hg:o.guard=none) (s x:Operand) (A:o.op=Op.call { callee:=Callee.builtin Builtin.append,args:=#[s,x],argTypes:=#[41,41] })
    {KB XB:Nat} {a1 b1 c1 a2 b2 c2:Value} (hs:a.eval s=.slice (some ⟨KB,0,none⟩) 1 1) (hx:a.eval x=.slice (some ⟨XB,0,none⟩) 1 1) (h1:w.heap[KB]?=some (.cells #[a1,b1,c1] 35 (0,0))) (h2:w.heap[XB]?=some (.cells #[a2,b2,c2] 35 (0,0))) (q1:a2.oneCell'=true) (q2:b2.oneCell'=true) (q3:c2.oneCell'=true)
    (hK:∀v' w',w'.ownsRow w.heap.size 35 3 v' 2 [a1,b1,c1,a2,b2,c2]→Below w.heap.size w w'→K (a.put o.dst v') w'):if Region.wanted o (yielded ops a.tmps)=true then Oper.wp Tryz.prog o a w K Q else E:=by
 obtain ⟨i0,hz⟩:=uB;refine step_append_grows hg s x 41 A 35 i0 (.agg #[.int .i64 0,.int .i64 0,.slice none 0 0]) 3 40 Tryz.underlying41 hz.1 hz.2.1 hz.2.2.1 hz.2.2.2 rfl (by decide) (some ⟨KB,0,none⟩) 1 1 [a1,b1,c1] hs (fun h=>by cases h) rfl ?_ ⟨XB,0,none⟩ 1 1 [a2,b2,c2] hx rfl (yD h2) ?_ (by decide) (by decide) (by decide) (fun v' w' h g=>hK v' w' h (tj g))
 ·rintro b e
  injection e with e
  subst e;exact yD h1
 ·intro u hu
  simp at hu
  rcases hu with rfl | rfl | rfl<;>assumption
section
variable {D U JB N PB OB:Nat} {w0 w w':World} {pv:Value} {F:List Fn} {j:Jo} {arr:Array Value}
theorem RnS.onto (h:RnS D U JB N w0 w PB pv F j) (ho:w.heap[OB]?=some (.cells arr 38 (0,0))) (hd:D≤OB) (A:On OB w w'):RnS D U JB N w0 w' PB pv F j:=by
 have B:OfTy w OB 38:=⟨_,_,ho⟩
 have hp:OfTy w PB 26:=⟨_,_,h.p⟩
 have hl:=h.low;have C:w.heap.size≤w'.heap.size:=A.size;refine ⟨A.obj (hp.ne B (by decide)) h.p,h.rep.keep (Stays.of_ne A fun q=>absurd q (Nat.not_lt_of_le hd)),?_,by omega,?_⟩
 ·refine h.jo.keep (Stays.of_ne A fun q=>?_) (A.block _ h.jo.ty.lt (fun e=>h.jo.ty.ne B (by decide) (by injection e))) (fun b _ hb=>A.block b hb.lt (fun e=>hb.ne B (by decide) (by injection e)))
  rcases q with q | q | q | q
  ·exact q.ne B (by decide) rfl
  ·exact q.ne B (by decide) rfl
  ·exact q.ne B (by decide) rfl
  ·exact q.ne B (by decide) rfl
 ·exact h.on.trans ⟨A.os,A.tape,A.output,A.size,fun i hi=>A.block i (Nat.lt_of_lt_of_le hi h.on.size) (fun e=>by injection e with e;omega)⟩
theorem AE {v:Value} {x:Vv} (h:VvAt (KS D w) w v x) (ho:w.heap[OB]?=some (.cells arr 38 (0,0))) (hd:D≤OB) (B:On OB w w'):VvAt (KS D w') w' v x:=h.stays (Stays.of_ne B fun q=>by
  have A:OfTy w OB 38:=⟨_,_,ho⟩
  rcases q with q | q
  · exact absurd q (Nat.not_lt_of_le hd)
  · exact q.ne A (by decide) rfl)
end
theorem zW {P:Prop} {G:Nat→Nat→Option Addr→Nat→Option Addr→Nat→Option Addr→Nat→World→Prop} (T:Nat→Option Addr→Nat→World→Prop) (h1:(∀a x b c d e f g w,T a b c w→G a x b c d e f g w)→P) (h2:∀a x b c d e f g w,T a b c w→G a x b c d e f g w):P:=h1 h2
theorem Cg {A B:List UInt8} (hk:A.length≤256) (hv:B.length≤256):∃tr us l un,bK eJ ⟨#[112]⟩ [aE A,aE B] 1000 ⟨[],[]⟩=(⟨noV,tr,us⟩,⟨l,un⟩)∧(64<A.length→tr=6∧l=[])∧(¬64<A.length→tr=0∧l=[(A,B)]):=by
 by_cases h:64<A.length
 ·obtain ⟨u,e⟩:=pG (v:=B) hk hv h
  exact ⟨6,u,[],[],e,fun _=>⟨rfl,rfl⟩,fun q=>absurd h q⟩
 ·obtain ⟨u,e⟩:=xR (k:=A) (v:=B) (by omega) hv
  exact ⟨0,u,_,_,e,fun q=>absurd q h,fun _=>⟨rfl,rfl⟩⟩
theorem sX {S1 S2:Nat→Prop} (kv xv:Value) (Q E:List UInt8) (w:World) (hk:TxtAt S1 w kv Q) (hx:TxtAt S2 w xv E):Calls Tryz.prog 9 #[kv,xv] w fun e w'=>e=.returned (.bool true)∧Below w.heap.size w w':=by
 obtain ⟨sk,ck,rfl,ki,hm,-⟩:=hk.form;obtain ⟨sx,cx,rfl,ke,HI,-⟩:=hx.form;have HK:=zh hk;have HX:=zh hx;have kz:(Q.length:Int)≤9223372036854775807:=by unfold maxLen at hm;omega
 have kx:(E.length:Int)≤9223372036854775807:=by unfold maxLen at HI;omega
 clear hk hx ki hm ke HI;obtain ⟨F,HV,HU,HT⟩:=Ae;have hV:=zh HV;have ha:=zh HT;have ks:=zh HU;clear HT HU HV;have kr:=zh (oC w);have kk:=fun w C n c=>Lib.run_convert_bytes_const (P:=Tryz.prog) w 30 5 C n c (by kernel_rfl) (by kernel_rfl);go_enter Tryz.func9,Tryz.ntmps9
 go_wp2_with fail
 refine kr.o.mono ?_;rintro e w0 ⟨rfl,k0⟩;have H4:=zh k0;clear k0;go_wp2_with (refine wpList_buildFlat rfl 30 5 147 _ rfl .u8 zsQ Tryz.underlying30 (by kernel_rfl) (by kernel_rfl) (by kernel_rfl) (by decide) (by decide) (by kernel_rfl) ?_)
 refine Calls.mono (oF srcQ 147 F w0 ks.o (by kernel_rfl) (by decide) DZ) ?_;rintro e w1 ⟨sv,cv,rfl,hu,H7⟩;have hF:=zh (hu.keep (Stays.of_below (ag (Below.refl w1.heap.size w1) (.cells #[.slice sv F.length cv] 26))));have hX:Hd ((w1.alloc (.cells #[.slice sv F.length cv] 26)).heap[w1.heap.size]?=some (.cells #[.slice sv F.length cv] 26 (0,0))):=zh (aj _ _ _ rfl);have kd:Hd (Below w.heap.size w (w1.alloc (.cells #[.slice sv F.length cv] 26))):=zh ((H4.o.trans (H7.mono H4.o.size)).alloc (Nat.le_trans H4.o.size H7.size) _);generalize F.length=hn at *;clear hu H7 kk;go_upto_region 3 with fail
 generalize w1.alloc (.cells #[.slice sv hn cv] 26)=w2 at *;generalize w1.heap.size=PB at *;have kb:=zh (me (S:=Any) (l:=[]) w2 PrsAt.nil (by decide));go_wp2_with fail
 refine kb.o.mono ?_;rintro e w3 ⟨HZ,HP⟩;rw [if_pos (show a8 []=true by rfl)] at HP;obtain ⟨JB,rfl,HS,hj⟩:=HP;have A:=zh (RnS.made hX.o hF.o kd.o HZ hj HS);generalize w2.heap.size=D at *;generalize w3.heap.size=U at *;clear HZ hj HS hF hX kd kb;by_cases HQ:256<Q.length
 ·have hm:(256:Int)<(Q.length:Int):=by omega
  clear HQ;go_wp2_with fail
  exact bodyPost_ret (v:=.bool true) (by simp [results,Tryz.results9,go_sem]) rfl ⟨rfl,A.o.on⟩
 have hm:¬(256:Int)<(Q.length:Int):=by omega
 by_cases HJ:256<E.length
 ·have H5:(256:Int)<(E.length:Int):=by omega
  clear HJ;go_wp2_with fail
  exact bodyPost_ret (v:=.bool true) (by simp [results,Tryz.results9,go_sem]) rfl ⟨rfl,A.o.on⟩
 have H5:¬(256:Int)<(E.length:Int):=by omega
 have hq:Hd (Q.length≤256):=zh (by omega);have Hr:Hd (E.length≤256):=zh (by omega);have k6:=zh (kX w3 (HK.o.below A.o.on) (by have:=hq.o;omega));clear HQ HJ;have dk:decide ((256:Int)<(Q.length:Int))=false:=decide_eq_false hm;have dv:decide ((256:Int)<(E.length:Int))=false:=decide_eq_false H5;clear hm H5;go_wp2_with fail
 refine k6.o.mono ?_;rintro e w4 ⟨p1,c1,rfl,hd,HY⟩;have k5:Hd (VvAt (KS D w4) w4 (.agg #[.int .i64 3,.int .i64 0,.slice p1 Q.length c1]) (aE Q)):=zh (VvAt.text (hd.mono fun b hb=>.inr hb.2));have k8:=zh (A.o.below HY);have H6:Below w4.heap.size w4 (w4.alloc (.cells #[.int .i64 3,.int .i64 0,.slice p1 Q.length c1] 35)):=ag (Below.refl _ _) _;have hQ:Hd ((w4.alloc (.cells #[.int .i64 3,.int .i64 0,.slice p1 Q.length c1] 35)).heap[w4.heap.size]?=some (.cells #[.int .i64 3,.int .i64 0,.slice p1 Q.length c1] 35 (0,0))):=zh (aj _ _ _ rfl);have kp:=zh (k8.o.below H6);have ko:=zh (k5.o.low H6);clear hd HY H6;go_upto_region 9 with fail
 generalize w4.alloc (.cells #[.int .i64 3,.int .i64 0,.slice p1 Q.length c1] 35)=w5 at *;generalize w4.heap.size=KB at *;clear k6 A H4;obtain ⟨tr,us,l,un,HW,hv,ht⟩:=Cg hq.o Hr.o;have hW:Hd (bK F ⟨#[112]⟩ [aE Q,aE E] 1000 ⟨[],[]⟩=(⟨noV,tr,us⟩,⟨l,un⟩)):=zh (by rw [hV.o];exact HW);have HG:=zh hv;have Hv:=zh ht;clear HW hv ht k5 k8;go_upto_region 9 with fail
 apply zW (fun OB rp rc w8=>RnS D U JB 100000 w w8 PB (.slice sv hn cv) F ⟨l,un⟩∧w8.heap[OB]?=some (.cells #[.int .i64 0,.int .i64 0,.slice none 0 0,.int .i64 0,.int .i64 0] 38 (0,0))∧D≤OB∧w8.heap[KB]?=some (.cells #[.int .i64 3,.int .i64 0,.slice p1 Q.length c1] 35 (0,0))∧VvAt (KS D w8) w8 (.agg #[.int .i64 3,.int .i64 0,.slice p1 Q.length c1]) (aE Q))
 ·intro HL
  have H0:Below w5.heap.size w5 w5.drew:=aw (Below.refl w5.heap.size w5);have hp:=zh (kp.o.below H0);have H3:=zh ((H0.block _ (af hQ.o)).trans hQ.o);have k2:=zh (ko.o.low H0);clear H0;refine ay (S:=(fun W=>W.cell? ⟨PB,0,none⟩=some (.slice sv hn cv))) 9 (by kernel_rfl) (by kernel_rfl) (by (try dsimp only);exact hp.o.cellp) (fun hH=>?_);simp only [List.take_succ_cons,List.take_zero,List.drop_succ_cons,List.drop_zero]
  generalize w5.drew=wd at *;refine tkA 0 ?_;refine tkA 1 ?_;refine tkA 2 ?_;refine tkA 6 ?_;try go_simp
  refine wpAnyH_ready (rs:=[3,8]) (by kernel_rfl) (by simp) ?_;refine (AllReadyH.cons rfl (fun K hK=>?_) (AllReadyH.cons rfl (fun K hK=>?_) AllReadyH.nil))
  ·go_simp
   go_at_call 26
   refine (kX wd (HX.o.below hp.o.on) (by have:=Hr.o;omega)).mono ?_;rintro e wt ⟨p2,c2,rfl,hd,h3⟩;have H1:=zh (VvAt.text (hd.mono (S':=KS D wt) fun b hb=>.inr hb.2));have h8:=zh (hp.o.below h3);have i:=zh ((h3.block _ (af H3.o)).trans H3.o);have m:=zh (k2.o.low h3);clear hd h3;try go_simp
   refine hK.out _ _ ?_ (fun hH=>?_)
   ·exact h8.o.cellp
   clear hK K;try go_simp
   refine wpAnyH_ready (rs:=[4,8]) (by kernel_rfl) (by simp) ?_;refine (AllReadyH.cons rfl (fun K hK=>?_) (AllReadyH.cons rfl (fun K hK=>?_) AllReadyH.nil))
   ·go_simp
    have Z:Below wt.heap.size wt (wt.alloc (.cells #[.int .i64 3,.int .i64 0,.slice p2 E.length c2] 35)):=ag (Below.refl _ _) _;have r:Hd ((wt.alloc (.cells #[.int .i64 3,.int .i64 0,.slice p2 E.length c2] 35)).heap[wt.heap.size]?=some (.cells #[.int .i64 3,.int .i64 0,.slice p2 E.length c2] 35 (0,0))):=zh (aj _ _ _ rfl);have h0:=zh (h8.o.below Z);have R:=zh ((Z.block _ (af i.o)).trans i.o);have Y:=zh (m.o.low Z);have k:=zh (H1.o.low Z);clear Z;generalize (wt.alloc (.cells #[.int .i64 3,.int .i64 0,.slice p2 E.length c2] 35))=wl at *;generalize wt.heap.size=XB at *;refine hK.out _ _ ?_ (fun hH=>?_)
    ·exact h0.o.cellp
    clear hK K;try go_simp
    refine wpAnyH_ready (rs:=[5,8]) (by kernel_rfl) (by simp) ?_;refine (AllReadyH.cons rfl (fun K hK=>?_) (AllReadyH.cons rfl (fun K hK=>?_) AllReadyH.nil))
    ·refine lY rfl (.tmp 43) (.tmp 46) rfl (by first | rfl | simp [Act.eval]) (by first | rfl | simp [Act.eval]) R.o r.o rfl rfl rfl ?_
     intro v5 w6 G I;obtain ⟨s5,cap5,rfl,_⟩:=ba G;have h:=zh G;have a:=zh (h0.o.below I);have H:=zh ((I.block _ (af R.o)).trans R.o);have s:=zh ((I.block _ (af r.o)).trans r.o);have J:=zh (Y.o.low I);have N:=zh (k.o.low I);have HA:=zh (ArAt.row2 (D:=D) h.o J.o (show bf 0 from ⟨by decide,by decide⟩) N.o (show bf 0 from ⟨by decide,by decide⟩));clear G I;try go_simp
     refine hK.out _ _ ?_ (fun hH=>?_)
     ·exact a.o.cellp
     clear hK K;try go_simp
     refine wpAnyH_ready (rs:=[7,8]) (by kernel_rfl) (by simp) ?_;refine (AllReadyH.cons rfl (fun K hK=>?_) (AllReadyH.cons rfl (fun K hK=>?_) AllReadyH.nil))
     ·go_simp
      have h9:=zh (a.o.calls ha.o ⟨#[112]⟩ 1000 (by constructor<;>decide) HA.o (by decide) hW.o);go_at_call 13
      refine h9.o.mono ?_;rintro e wr hs;have f:=zh (a.o.run hs);obtain ⟨rp,rc,he,_,_,_,ho⟩:=hs;subst he;try dsimp only [aB,noV,aW,aE,List.length_nil]
      have h4:=zh (bW ho a.o.jo H.o (by decide) (by decide));have h7:=zh (iG J.o a.o.jo ho ⟨a.o.low.2.1,a.o.low.2.2.1⟩);clear ho;try go_simp
      refine hK.out _ _ ?_ (fun hH=>?_)
      ·exact f.o.cellp
      clear hK K;try go_simp
      refine rd1 8 fun K hK=>?_;go_simp;have O:Below wr.heap.size wr (wr.alloc (.cells #[.int .i64 0,.int .i64 0,.slice none 0 0,.int .i64 0,.int .i64 0] 38)):=ag (Below.refl _ _) _;have hi:Hd ((wr.alloc (.cells #[.int .i64 0,.int .i64 0,.slice none 0 0,.int .i64 0,.int .i64 0] 38)).heap[wr.heap.size]?=some (.cells #[.int .i64 0,.int .i64 0,.slice none 0 0,.int .i64 0,.int .i64 0] 38 (0,0))):=zh (aj _ _ _ rfl);have hh:Hd (D≤wr.heap.size):=zh (Nat.le_trans f.o.low.2.2.1 f.o.low.2.2.2);have A:=zh (f.o.below O);have d:=zh ((O.block _ (af h4.o)).trans h4.o);have B:=zh (h7.o.low O);clear O;generalize (wr.alloc (.cells #[.int .i64 0,.int .i64 0,.slice none 0 0,.int .i64 0,.int .i64 0] 38))=wo3 at *;generalize wr.heap.size=OB at *;refine hK.out _ _ ?_ (fun hH=>?_)
      ·exact A.o.cellp
      clear hK K;try go_simp
      refine wpAnyH_done (by kernel_rfl) ?_ _;dsimp only [aP];exact HL OB XB rp rc p2 c2 s5 cap5 wo3 ⟨A.o,hi.o,hh.o,d.o,B.o⟩
     ·go_simp
      have O:Below w6.heap.size w6 (w6.alloc (.cells #[.int .i64 0,.int .i64 0,.slice none 0 0,.int .i64 0,.int .i64 0] 38)):=ag (Below.refl _ _) _;have hi:Hd ((w6.alloc (.cells #[.int .i64 0,.int .i64 0,.slice none 0 0,.int .i64 0,.int .i64 0] 38)).heap[w6.heap.size]?=some (.cells #[.int .i64 0,.int .i64 0,.slice none 0 0,.int .i64 0,.int .i64 0] 38 (0,0))):=zh (aj _ _ _ rfl);have hh:Hd (D≤w6.heap.size):=zh (Nat.le_trans a.o.low.2.2.1 a.o.low.2.2.2);have A:=zh (a.o.below O);have d:=zh ((O.block _ (af H.o)).trans H.o);have hl:=zh ((O.block _ (af s.o)).trans s.o);have B:=zh (J.o.low O);have X:=zh (N.o.low O);have kt:=zh (HA.o.low O);clear O;generalize (w6.alloc (.cells #[.int .i64 0,.int .i64 0,.slice none 0 0,.int .i64 0,.int .i64 0] 38))=wo3 at *;generalize w6.heap.size=OB at *;refine hK.out _ _ ?_ (fun hH=>?_)
      ·exact A.o.cellp
      clear hK K;try go_simp
      refine rd1 7 fun K hK=>?_;go_simp;have h9:=zh (A.o.calls ha.o ⟨#[112]⟩ 1000 (by constructor<;>decide) kt.o (by decide) hW.o);go_at_call 13
      refine h9.o.mono ?_;rintro e wr hs;have f:=zh (A.o.run hs);obtain ⟨rp,rc,he,_,_,_,ho⟩:=hs;subst he;try dsimp only [aB,noV,aW,aE,List.length_nil]
      have hg:=zh (bW ho A.o.jo hi.o (by decide) (by decide));have h4:=zh (bW ho A.o.jo d.o (by decide) (by decide));have h7:=zh (iG B.o A.o.jo ho ⟨A.o.low.2.1,A.o.low.2.2.1⟩);clear ho;try go_simp
      refine hK.out _ _ ?_ (fun hH=>?_)
      ·exact f.o.cellp
      clear hK K;try go_simp
      refine wpAnyH_done (by kernel_rfl) ?_ _;dsimp only [aP];exact HL OB XB rp rc p2 c2 s5 cap5 wr ⟨f.o,hg.o,hh.o,h4.o,h7.o⟩
    ·go_simp
     have q:Below wl.heap.size wl (wl.alloc (.cells #[.int .i64 0,.int .i64 0,.slice none 0 0,.int .i64 0,.int .i64 0] 38)):=ag (Below.refl _ _) _;have hI:Hd ((wl.alloc (.cells #[.int .i64 0,.int .i64 0,.slice none 0 0,.int .i64 0,.int .i64 0] 38)).heap[wl.heap.size]?=some (.cells #[.int .i64 0,.int .i64 0,.slice none 0 0,.int .i64 0,.int .i64 0] 38 (0,0))):=zh (aj _ _ _ rfl);have HB:Hd (D≤wl.heap.size):=zh (Nat.le_trans h0.o.low.2.2.1 h0.o.low.2.2.2);have a:=zh (h0.o.below q);have H:=zh ((q.block _ (af R.o)).trans R.o);have s:=zh ((q.block _ (af r.o)).trans r.o);have J:=zh (Y.o.low q);have N:=zh (k.o.low q);clear q;generalize (wl.alloc (.cells #[.int .i64 0,.int .i64 0,.slice none 0 0,.int .i64 0,.int .i64 0] 38))=wo2 at *;generalize wl.heap.size=OB at *;refine hK.out _ _ ?_ (fun hH=>?_)
     ·exact a.o.cellp
     clear hK K;try go_simp
     refine rd1 5 fun K hK=>?_;refine lY rfl (.tmp 43) (.tmp 46) rfl (by first | rfl | simp [Act.eval]) (by first | rfl | simp [Act.eval]) H.o s.o rfl rfl rfl ?_;intro v5 w6 G I;obtain ⟨s5,cap5,rfl,_⟩:=ba G;have h:=zh G;have A:=zh (a.o.below I);have hO:=zh ((I.block _ (af hI.o)).trans hI.o);have d:=zh ((I.block _ (af H.o)).trans H.o);have hl:=zh ((I.block _ (af s.o)).trans s.o);have B:=zh (J.o.low I);have X:=zh (N.o.low I);have HA:=zh (ArAt.row2 (D:=D) h.o B.o (show bf 0 from ⟨by decide,by decide⟩) X.o (show bf 0 from ⟨by decide,by decide⟩));clear G I;try go_simp
     refine hK.out _ _ ?_ (fun hH=>?_)
     ·exact A.o.cellp
     clear hK K;try go_simp
     refine rd1 7 fun K hK=>?_;go_simp;have h9:=zh (A.o.calls ha.o ⟨#[112]⟩ 1000 (by constructor<;>decide) HA.o (by decide) hW.o);go_at_call 13
     refine h9.o.mono ?_;rintro e wr hs;have f:=zh (A.o.run hs);obtain ⟨rp,rc,he,_,_,_,ho⟩:=hs;subst he;try dsimp only [aB,noV,aW,aE,List.length_nil]
     have hg:=zh (bW ho A.o.jo hO.o (by decide) (by decide));have h4:=zh (bW ho A.o.jo d.o (by decide) (by decide));have h7:=zh (iG B.o A.o.jo ho ⟨A.o.low.2.1,A.o.low.2.2.1⟩);clear ho;try go_simp
     refine hK.out _ _ ?_ (fun hH=>?_)
     ·exact f.o.cellp
     clear hK K;try go_simp
     refine wpAnyH_done (by kernel_rfl) ?_ _;dsimp only [aP];exact HL OB XB rp rc p2 c2 s5 cap5 wr ⟨f.o,hg.o,HB.o,h4.o,h7.o⟩
   ·go_simp
    have x:Below wt.heap.size wt (wt.alloc (.cells #[.int .i64 0,.int .i64 0,.slice none 0 0,.int .i64 0,.int .i64 0] 38)):=ag (Below.refl _ _) _;have hL:Hd ((wt.alloc (.cells #[.int .i64 0,.int .i64 0,.slice none 0 0,.int .i64 0,.int .i64 0] 38)).heap[wt.heap.size]?=some (.cells #[.int .i64 0,.int .i64 0,.slice none 0 0,.int .i64 0,.int .i64 0] 38 (0,0))):=zh (aj _ _ _ rfl);have HC:Hd (D≤wt.heap.size):=zh (Nat.le_trans h8.o.low.2.2.1 h8.o.low.2.2.2);have h0:=zh (h8.o.below x);have R:=zh ((x.block _ (af i.o)).trans i.o);have Y:=zh (m.o.low x);have k:=zh (H1.o.low x);clear x;generalize (wt.alloc (.cells #[.int .i64 0,.int .i64 0,.slice none 0 0,.int .i64 0,.int .i64 0] 38))=wo1 at *;generalize wt.heap.size=OB at *;refine hK.out _ _ ?_ (fun hH=>?_)
    ·exact h0.o.cellp
    clear hK K;try go_simp
    refine rd1 4 fun K hK=>?_;go_simp;have Z:Below wo1.heap.size wo1 (wo1.alloc (.cells #[.int .i64 3,.int .i64 0,.slice p2 E.length c2] 35)):=ag (Below.refl _ _) _;have r:Hd ((wo1.alloc (.cells #[.int .i64 3,.int .i64 0,.slice p2 E.length c2] 35)).heap[wo1.heap.size]?=some (.cells #[.int .i64 3,.int .i64 0,.slice p2 E.length c2] 35 (0,0))):=zh (aj _ _ _ rfl);have a:=zh (h0.o.below Z);have hP:=zh ((Z.block _ (af hL.o)).trans hL.o);have H:=zh ((Z.block _ (af R.o)).trans R.o);have J:=zh (Y.o.low Z);have N:=zh (k.o.low Z);clear Z;generalize (wo1.alloc (.cells #[.int .i64 3,.int .i64 0,.slice p2 E.length c2] 35))=wl at *;generalize wo1.heap.size=XB at *;refine hK.out _ _ ?_ (fun hH=>?_)
    ·exact a.o.cellp
    clear hK K;try go_simp
    refine rd1 5 fun K hK=>?_;refine lY rfl (.tmp 43) (.tmp 46) rfl (by first | rfl | simp [Act.eval]) (by first | rfl | simp [Act.eval]) H.o r.o rfl rfl rfl ?_;intro v5 w6 G I;obtain ⟨s5,cap5,rfl,_⟩:=ba G;have h:=zh G;have A:=zh (a.o.below I);have hO:=zh ((I.block _ (af hP.o)).trans hP.o);have d:=zh ((I.block _ (af H.o)).trans H.o);have hl:=zh ((I.block _ (af r.o)).trans r.o);have B:=zh (J.o.low I);have X:=zh (N.o.low I);have HA:=zh (ArAt.row2 (D:=D) h.o B.o (show bf 0 from ⟨by decide,by decide⟩) X.o (show bf 0 from ⟨by decide,by decide⟩));clear G I;try go_simp
    refine hK.out _ _ ?_ (fun hH=>?_)
    ·exact A.o.cellp
    clear hK K;try go_simp
    refine rd1 7 fun K hK=>?_;go_simp;have h9:=zh (A.o.calls ha.o ⟨#[112]⟩ 1000 (by constructor<;>decide) HA.o (by decide) hW.o);go_at_call 13
    refine h9.o.mono ?_;rintro e wr hs;have f:=zh (A.o.run hs);obtain ⟨rp,rc,he,_,_,_,ho⟩:=hs;subst he;try dsimp only [aB,noV,aW,aE,List.length_nil]
    have hg:=zh (bW ho A.o.jo hO.o (by decide) (by decide));have h4:=zh (bW ho A.o.jo d.o (by decide) (by decide));have h7:=zh (iG B.o A.o.jo ho ⟨A.o.low.2.1,A.o.low.2.2.1⟩);clear ho;try go_simp
    refine hK.out _ _ ?_ (fun hH=>?_)
    ·exact f.o.cellp
    clear hK K;try go_simp
    refine wpAnyH_done (by kernel_rfl) ?_ _;dsimp only [aP];exact HL OB XB rp rc p2 c2 s5 cap5 wr ⟨f.o,hg.o,HC.o,h4.o,h7.o⟩
  ·go_simp
   have h6:Below wd.heap.size wd (wd.alloc (.cells #[.int .i64 0,.int .i64 0,.slice none 0 0,.int .i64 0,.int .i64 0] 38)):=ag (Below.refl _ _) _;have hM:Hd ((wd.alloc (.cells #[.int .i64 0,.int .i64 0,.slice none 0 0,.int .i64 0,.int .i64 0] 38)).heap[wd.heap.size]?=some (.cells #[.int .i64 0,.int .i64 0,.slice none 0 0,.int .i64 0,.int .i64 0] 38 (0,0))):=zh (aj _ _ _ rfl);have HD:Hd (D≤wd.heap.size):=zh (Nat.le_trans hp.o.low.2.2.1 hp.o.low.2.2.2);have h8:=zh (hp.o.below h6);have i:=zh ((h6.block _ (af H3.o)).trans H3.o);have m:=zh (k2.o.low h6);clear h6;generalize (wd.alloc (.cells #[.int .i64 0,.int .i64 0,.slice none 0 0,.int .i64 0,.int .i64 0] 38))=wo0 at *;generalize wd.heap.size=OB at *;refine hK.out _ _ ?_ (fun hH=>?_)
   ·exact h8.o.cellp
   clear hK K;try go_simp
   refine rd1 3 fun K hK=>?_;go_simp;go_at_call 26
   refine (kX wo0 (HX.o.below h8.o.on) (by have:=Hr.o;omega)).mono ?_;rintro e wt ⟨p2,c2,rfl,hd,h3⟩;have H1:=zh (VvAt.text (hd.mono (S':=KS D wt) fun b hb=>.inr hb.2));have h0:=zh (h8.o.below h3);have ka:=zh ((h3.block _ (af hM.o)).trans hM.o);have R:=zh ((h3.block _ (af i.o)).trans i.o);have Y:=zh (m.o.low h3);clear hd h3;try go_simp
   refine hK.out _ _ ?_ (fun hH=>?_)
   ·exact h0.o.cellp
   clear hK K;try go_simp
   refine rd1 4 fun K hK=>?_;go_simp;have Z:Below wt.heap.size wt (wt.alloc (.cells #[.int .i64 3,.int .i64 0,.slice p2 E.length c2] 35)):=ag (Below.refl _ _) _;have r:Hd ((wt.alloc (.cells #[.int .i64 3,.int .i64 0,.slice p2 E.length c2] 35)).heap[wt.heap.size]?=some (.cells #[.int .i64 3,.int .i64 0,.slice p2 E.length c2] 35 (0,0))):=zh (aj _ _ _ rfl);have a:=zh (h0.o.below Z);have hP:=zh ((Z.block _ (af ka.o)).trans ka.o);have H:=zh ((Z.block _ (af R.o)).trans R.o);have J:=zh (Y.o.low Z);have N:=zh (H1.o.low Z);clear Z;generalize (wt.alloc (.cells #[.int .i64 3,.int .i64 0,.slice p2 E.length c2] 35))=wl at *;generalize wt.heap.size=XB at *;refine hK.out _ _ ?_ (fun hH=>?_)
   ·exact a.o.cellp
   clear hK K;try go_simp
   refine rd1 5 fun K hK=>?_;refine lY rfl (.tmp 43) (.tmp 46) rfl (by first | rfl | simp [Act.eval]) (by first | rfl | simp [Act.eval]) H.o r.o rfl rfl rfl ?_;intro v5 w6 G I;obtain ⟨s5,cap5,rfl,_⟩:=ba G;have h:=zh G;have A:=zh (a.o.below I);have hO:=zh ((I.block _ (af hP.o)).trans hP.o);have d:=zh ((I.block _ (af H.o)).trans H.o);have hl:=zh ((I.block _ (af r.o)).trans r.o);have B:=zh (J.o.low I);have X:=zh (N.o.low I);have HA:=zh (ArAt.row2 (D:=D) h.o B.o (show bf 0 from ⟨by decide,by decide⟩) X.o (show bf 0 from ⟨by decide,by decide⟩));clear G I;try go_simp
   refine hK.out _ _ ?_ (fun hH=>?_)
   ·exact A.o.cellp
   clear hK K;try go_simp
   refine rd1 7 fun K hK=>?_;go_simp;have h9:=zh (A.o.calls ha.o ⟨#[112]⟩ 1000 (by constructor<;>decide) HA.o (by decide) hW.o);go_at_call 13
   refine h9.o.mono ?_;rintro e wr hs;have f:=zh (A.o.run hs);obtain ⟨rp,rc,he,_,_,_,ho⟩:=hs;subst he;try dsimp only [aB,noV,aW,aE,List.length_nil]
   have hg:=zh (bW ho A.o.jo hO.o (by decide) (by decide));have h4:=zh (bW ho A.o.jo d.o (by decide) (by decide));have h7:=zh (iG B.o A.o.jo ho ⟨A.o.low.2.1,A.o.low.2.2.1⟩);clear ho;try go_simp
   refine hK.out _ _ ?_ (fun hH=>?_)
   ·exact f.o.cellp
   clear hK K;try go_simp
   refine wpAnyH_done (by kernel_rfl) ?_ _;dsimp only [aP];exact HL OB XB rp rc p2 c2 s5 cap5 wr ⟨f.o,hg.o,HD.o,h4.o,h7.o⟩
 ·intro OB XB rp rc p2 c2 s5 cap5 w8 hs
  obtain ⟨HN,t,HO,HR,HM⟩:=hs;have k7:=zh HN;have hN:=zh t;have k9:=zh HO;have HE:=zh HR;have k4:=zh HM;have o0:=aa t (j:=0) (u:=.int .i64 0) rfl;have o1:=aa t (j:=1) (u:=.int .i64 0) rfl;have o2:=aa t (j:=2) (u:=.slice none 0 0) rfl;have o3:=aa t (j:=3) (u:=.int .i64 0) rfl;have o4:=aa t (j:=4) (u:=.int .i64 0) rfl;have f0:=ae t 0;have f1:=ae t 1;have f2:=ae t 2;have f3:=ae t 3;have f4:=ae t 4;clear HN t HO HR HM;go_upto_region 10 with fail
  clear o0 o1 o2 o3 o4 f0 f1 f2 f3 f4;have H2:Hd (On OB w8 (((((w8.setCell ⟨OB,0,none⟩ (.int .i64 (0))).setCell ⟨OB,1,none⟩ (.int .i64 (0))).setCell ⟨OB,2,none⟩ (.slice rp (0) rc)).setCell ⟨OB,3,none⟩ (.int .i64 (tr))).setCell ⟨OB,4,none⟩ (.int .i64 (us)))):=zh (mS w8 OB 0 0 rp 0 rc tr us);have k1:Hd ((((((w8.setCell ⟨OB,0,none⟩ (.int .i64 (0))).setCell ⟨OB,1,none⟩ (.int .i64 (0))).setCell ⟨OB,2,none⟩ (.slice rp (0) rc)).setCell ⟨OB,3,none⟩ (.int .i64 (tr))).setCell ⟨OB,4,none⟩ (.int .i64 (us))).heap[OB]?=some (.cells #[.int .i64 (0),.int .i64 (0),.slice rp (0) rc,.int .i64 (tr),.int .i64 (us)] 38 (0,0))):=zh (fk hN.o 0 0 rp 0 rc tr us);have z:=zh (k7.o.onto hN.o k9.o H2.o);have kc:=zh (H2.o.obj (OfTy.ne (w:=w8) ⟨_,_,HE.o⟩ (show OfTy w8 OB _ from ⟨_,_,hN.o⟩) (by decide)) HE.o);have k3:=zh (AE k4.o hN.o k9.o H2.o);clear H2 k7 hN HE k4;generalize (((((w8.setCell ⟨OB,0,none⟩ (.int .i64 (0))).setCell ⟨OB,1,none⟩ (.int .i64 (0))).setCell ⟨OB,2,none⟩ (.slice rp (0) rc)).setCell ⟨OB,3,none⟩ (.int .i64 (tr))).setCell ⟨OB,4,none⟩ (.int .i64 (us)))=w9 at *;by_cases h5:64<Q.length
  ·obtain ⟨rfl,rfl⟩:=HG.o h5
   have dk6:decide ((64:Int)<(Q.length:Int))=true:=decide_eq_true (by omega);have x3:=aa k1.o (j:=3) (u:=.int .i64 6) rfl;have Hz:=zh (mV w9 z.o.jo);clear h5 HG Hv;go_wp2_with fail
   refine Hz.o.mono ?_;rintro e w10 ⟨v10,rfl,hr,y⟩;obtain ⟨_,⟨s10,c10,e10,_⟩,_⟩:=hr.1;obtain rfl:v10=.slice s10 0 c10:=e10;have HH:=zh (z.o.below y);clear hr y x3;go_wp2_with fail
   exact bodyPost_ret (v:=.bool true) (by simp [results,Tryz.results9,go_sem]) rfl ⟨rfl,HH.o.on⟩
  have dk6:decide ((64:Int)<(Q.length:Int))=false:=decide_eq_false (by omega);obtain ⟨rfl,rfl⟩:=Hv.o h5;clear h5 HG Hv;have h2:=zh (ArAt.row1 kc.o k3.o (show bf 0 from ⟨by decide,by decide⟩));have h1:=zh (z.o.calls ha.o ⟨#[103]⟩ 1000 (by constructor<;>decide) h2.o (by decide) (o:=(⟨aE E,0,5⟩,⟨[(Q,E)],un⟩)) (by rw [hV.o];exact yI hq.o un));have p0:=z.o.cellp;have g:=af z.o.p;go_wp2_with fail
  refine h1.o.mono ?_;rintro e w10 hs;have Hy:=zh (z.o.run hs);obtain ⟨p6,c6,he,hc,_,_,ho⟩:=hs;obtain rfl:e=.returned (.agg #[.int .i64 3,.int .i64 0,.slice p6 E.length c6,.int .i64 0,.int .i64 5]):=he;have hC:=zh (bW ho z.o.jo k1.o (by decide) (by decide));have hU:=zh (bW ho z.o.jo kc.o (by decide) (by decide));have Hu:=zh (iG k3.o z.o.jo ho ⟨z.o.low.2.1,z.o.low.2.2.1⟩);have Hq:=zh hc;clear hc ho h2 h1 p0 g;have T:Below w10.heap.size w10 (w10.alloc (.cells #[.int .i64 3,.int .i64 0,.slice p6 E.length c6,.int .i64 0,.int .i64 5] 38)):=ag (Below.refl _ _) _;have Hf:Hd ((w10.alloc (.cells #[.int .i64 3,.int .i64 0,.slice p6 E.length c6,.int .i64 0,.int .i64 5] 38)).heap[w10.heap.size]?=some (.cells #[.int .i64 3,.int .i64 0,.slice p6 E.length c6,.int .i64 0,.int .i64 5] 38 (0,0))):=zh (aj _ _ _ rfl);have M:=zh (Hy.o.below T);have Hj:=zh ((T.block _ (af hC.o)).trans hC.o);have hT:=zh ((T.block _ (af hU.o)).trans hU.o);have hE:=zh (Hu.o.low T);have Hp:=zh (Hq.o.low T);clear T;go_upto_region 13 with fail
  generalize (w10.alloc (.cells #[.int .i64 3,.int .i64 0,.slice p6 E.length c6,.int .i64 0,.int .i64 5] 38))=w11 at *;generalize w10.heap.size=YB at *;have h2:=zh (ArAt.row1 hT.o hE.o (show bf 0 from ⟨by decide,by decide⟩));have h1:=zh (M.o.calls ha.o ⟨#[104]⟩ 1000 (by constructor<;>decide) h2.o (by decide) (o:=(⟨aW true,0,5⟩,⟨[(Q,E)],un⟩)) (by rw [hV.o];refine (ru hq.o _ _).trans ?_;rw [rI];rfl));have p0:=M.o.cellp;have g:=af M.o.p;go_wp2_with fail
  refine h1.o.mono ?_;rintro e w12 hs;have Hx:=zh (M.o.run hs);obtain ⟨p7,c7,he,hc,_,_,ho⟩:=hs;obtain rfl:e=.returned (.agg #[.int .i64 2,.int .i64 1,.slice p7 0 c7,.int .i64 0,.int .i64 5]):=he;have hB:=zh (bW ho M.o.jo Hj.o (by decide) (by decide));have hS:=zh (bW ho M.o.jo hT.o (by decide) (by decide));have hz:=zh (bW ho M.o.jo Hf.o (by decide) (by decide));have Ht:=zh (iG hE.o M.o.jo ho ⟨M.o.low.2.1,M.o.low.2.2.1⟩);have Ho:=zh (iG Hp.o M.o.jo ho ⟨M.o.low.2.1,M.o.low.2.2.1⟩);clear hc ho h2 h1 p0 g;have T:Below w12.heap.size w12 (w12.alloc (.cells #[.int .i64 2,.int .i64 1,.slice p7 0 c7,.int .i64 0,.int .i64 5] 38)):=ag (Below.refl _ _) _;have Ha:Hd ((w12.alloc (.cells #[.int .i64 2,.int .i64 1,.slice p7 0 c7,.int .i64 0,.int .i64 5] 38)).heap[w12.heap.size]?=some (.cells #[.int .i64 2,.int .i64 1,.slice p7 0 c7,.int .i64 0,.int .i64 5] 38 (0,0))):=zh (aj _ _ _ rfl);have L:=zh (Hx.o.below T);have Hi:=zh ((T.block _ (af hB.o)).trans hB.o);have hR:=zh ((T.block _ (af hS.o)).trans hS.o);have He:=zh ((T.block _ (af hz.o)).trans hz.o);have hD:=zh (Ht.o.low T);have Hn:=zh (Ho.o.low T);clear T;go_upto_region 14 with fail
  generalize (w12.alloc (.cells #[.int .i64 2,.int .i64 1,.slice p7 0 c7,.int .i64 0,.int .i64 5] 38))=w13 at *;generalize w12.heap.size=ZB at *;have h2:=zh (ArAt.row1 hR.o hD.o (show bf 0 from ⟨by decide,by decide⟩));have h1:=zh (L.o.calls ha.o ⟨#[100]⟩ 1000 (by constructor<;>decide) h2.o (by decide) (o:=(⟨noV,0,6⟩,⟨[],un++[[(Q,E)]]⟩)) (by rw [hV.o];exact yE hq.o un));have p0:=L.o.cellp;have g:=af L.o.p;go_wp2_with fail
  refine h1.o.mono ?_;rintro e w14 hs;have V:=zh (L.o.run hs);obtain ⟨p8,c8,he,hc,_,_,ho⟩:=hs;obtain rfl:e=.returned (.agg #[.int .i64 0,.int .i64 0,.slice p8 0 c8,.int .i64 0,.int .i64 6]):=he;have Hh:=zh (bW ho L.o.jo Hi.o (by decide) (by decide));have HF:=zh (bW ho L.o.jo hR.o (by decide) (by decide));have Hc:=zh (bW ho L.o.jo He.o (by decide) (by decide));have H9:=zh (bW ho L.o.jo Ha.o (by decide) (by decide));have Hs:=zh (iG hD.o L.o.jo ho ⟨L.o.low.2.1,L.o.low.2.2.1⟩);have Hm:=zh (iG Hn.o L.o.jo ho ⟨L.o.low.2.1,L.o.low.2.2.1⟩);clear hc ho h2 h1 p0 g;have h2:=zh (ArAt.row1 HF.o Hs.o (show bf 0 from ⟨by decide,by decide⟩));have h1:=zh (V.o.calls ha.o ⟨#[104]⟩ 1000 (by constructor<;>decide) h2.o (by decide) (o:=(⟨aW false,0,5⟩,⟨[],un++[[(Q,E)]]⟩)) (by rw [hV.o];exact ru hq.o [] _));have p0:=V.o.cellp;have g:=af V.o.p;go_wp2_with fail
  refine h1.o.mono ?_;rintro e w15 hs;have Hw:=zh (V.o.run hs);obtain ⟨p9,c9,he,hc,_,_,ho⟩:=hs;obtain rfl:e=.returned (.agg #[.int .i64 2,.int .i64 0,.slice p9 0 c9,.int .i64 0,.int .i64 5]):=he;have hA:=zh (bW ho V.o.jo Hh.o (by decide) (by decide));have hy:=zh (bW ho V.o.jo Hc.o (by decide) (by decide));have hw:=zh (bW ho V.o.jo H9.o (by decide) (by decide));have Hl:=zh (iG Hm.o V.o.jo ho ⟨V.o.low.2.1,V.o.low.2.2.1⟩);clear hc ho h2 h1 p0 g;have T:Below w15.heap.size w15 (w15.alloc (.cells #[.int .i64 2,.int .i64 0,.slice p9 0 c9,.int .i64 0,.int .i64 5] 38)):=ag (Below.refl _ _) _;have hG:Hd ((w15.alloc (.cells #[.int .i64 2,.int .i64 0,.slice p9 0 c9,.int .i64 0,.int .i64 5] 38)).heap[w15.heap.size]?=some (.cells #[.int .i64 2,.int .i64 0,.slice p9 0 c9,.int .i64 0,.int .i64 5] 38 (0,0))):=zh (aj _ _ _ rfl);have hf:=zh (Hw.o.below T);have Hg:=zh ((T.block _ (af hA.o)).trans hA.o);have Hb:=zh ((T.block _ (af hy.o)).trans hy.o);have H8:=zh ((T.block _ (af hw.o)).trans hw.o);have Hk:=zh (Hl.o.low T);clear T;go_upto_region 16 with fail
  generalize (w15.alloc (.cells #[.int .i64 2,.int .i64 0,.slice p9 0 c9,.int .i64 0,.int .i64 5] 38))=w16 at *;generalize w15.heap.size=QB at *;have x3:=aa Hg.o (j:=3) (u:=.int .i64 0) rfl;have y2:=aa Hb.o (j:=2) (u:=.slice p6 E.length c6) rfl;have z1:=aa H8.o (j:=1) (u:=.int .i64 1) rfl;have u0:=aa hG.o (j:=0) (u:=.int .i64 2) rfl;have u1:=aa hG.o (j:=1) (u:=.int .i64 0) rfl;have kn:(convert 30 9 (.slice p6 E.length c6)).run Tryz.prog w16=.ok (.string ⟨E.toArray⟩) w16:=dM (VvAt.txt Hk.o);have kl:(convert 30 9 (.slice sx E.length cx)).run Tryz.prog w16=.ok (.string ⟨E.toArray⟩) w16:=dM (HX.o.below hf.o.on);have Hz:=zh (mV w16 hf.o.jo);go_wp2_with fail
  refine Hz.o.mono ?_;rintro e w17 ⟨v10,rfl,hr,y⟩;obtain ⟨_,⟨s10,c10,e10,_⟩,_⟩:=hr.1;obtain rfl:v10=.slice s10 0 c10:=e10;have HH:=zh (hf.o.below y);clear hr y x3 y2 z1 u0 u1 kn kl;go_wp2_with fail
  exact bodyPost_ret (v:=.bool true) (by simp [results,Tryz.results9,go_sem]) rfl ⟨rfl,HH.o.on⟩
end
section
open Go.ChangeShapes Go.WideShapes Go.ChangeAt Go.RowKit
def TZ (P:Program) (w:World) (n:Nat) (t:TypeId) (cs:List Value):Prop:=
 ∃(H:Type) (enc:TypeId×Value→H) (x:DataW H×List MemPlace),DataW.trod enc P w 0 (fun _=>true) true n t cs=some x∧∀k∈x.1.weights P t,k≤reachBytes
variable {P:Program} {w:World} {n:Nat} {t:TypeId} {cs:List Value}
theorem TZ.of {H:Type} {enc:TypeId×Value→H} {v:Value} {d:DataW H} {p:List MemPlace} {ts:List TypeId} {ds:List (DataW H)} (h:DataW.Trod enc P w 0 (fun _=>true) true t v d p)
    (hs:(DataW.weightsEach P ts ds).all (·≤reachBytes)=true) {j:Nat} (ht:ts[j]?=some t) (hd:ds[j]?=some d):∃n,TZ P w n t v.cells.toList:=by
 obtain ⟨m,hm⟩:=h;refine ⟨m,H,enc,_,hm,fun k hk=>?_⟩;have:=List.all_eq_true.1 hs k (DataW.weights_mem_each ht hd k hk);simpa using this
theorem TZ.int {k:IntKind} (ht:P.underlying t=some (.int k)) (h:TZ P w n t cs):∃i,cs=[.int k i]∧(Lit.int k i).wf=true:=by
 obtain ⟨H,enc,x,hx,_⟩:=h;obtain ⟨i,h1,_,h2⟩:=DataW.trod_int ht hx;exact ⟨i,h1,h2⟩
theorem TZ.bool (ht:P.underlying t=some .bool) (h:TZ P w n t cs):∃b,cs=[.bool b]:=by
 obtain ⟨H,enc,x,hx,_⟩:=h;obtain ⟨b,h1,_⟩:=DataW.trod_bool ht hx;exact ⟨b,h1⟩
theorem TZ.string (ht:P.underlying t=some .string) (h:TZ P w n t cs):∃s:ByteArray,cs=[.string s]∧s.size≤reachBytes:=by
 obtain ⟨H,enc,x,hx,hs⟩:=h;obtain ⟨s,h1,h2,_⟩:=DataW.trod_string ht hx;refine ⟨s,h1,?_⟩;rw [h2] at hs;have:=hs s.data.toList.length (by simp [DataW.weights]);simpa using this
theorem mC {H:Type} {e:TypeId} {ds:List (DataW H)} {i:Nat} {d:DataW H} (hd:ds[i]?=some d):∀k∈d.weights P e,k∈DataW.weightsAll P e ds:=by
 intro k hk;induction ds generalizing i with
 | nil=>simp at hd
 | cons x r ih =>
  simp only [DataW.weightsAll,List.mem_append]
  cases i with
  | zero=>simp at hd;subst hd;exact .inl hk
  | succ i=>exact .inr (ih (by simpa using hd))
theorem TZ.slice {e:TypeId} (ht:P.underlying t=some (.slice e)) (hc:0<P.cellsOf e) (h:TZ P w n t cs) :
    ∃a len cap,cs=[.slice a len cap]∧len≤cap∧cap≤maxLen∧cap * P.bytesOf e≤reachBytes∧(a=none→len=0∧cap=0)∧(0<cap→∃b off,a=some ⟨b,off,none⟩∧b<w.heap.size) ∧
     ∀b off,a=some ⟨b,off,none⟩→∀i,i<len→∃m cs',n=m+1∧cs'.length=P.cellsOf e∧(∀j,j<P.cellsOf e→w.cell? ⟨b,off+i * P.cellsOf e+j,none⟩=cs'[j]?)∧TZ P w m e cs':=by
 obtain ⟨H,enc,x,hx,hs⟩:=h;rcases DataW.trod_slice ht hx with ⟨rfl,_⟩ | ⟨a,len,cap,elems,rest,m,hm,rfl,E,_,hl,I,L,J,F,_⟩
 ·exact ⟨none,0,0,rfl,Nat.le_refl _,Nat.zero_le _,by simp,fun _=>⟨rfl,rfl⟩,fun h=>absurd h (by omega),fun b off h=>by cases h⟩
 ·obtain ⟨K,G⟩:=F rfl
  have A:∀k,k<cap→∃cs' y,w.cells? 0 (a.add (k * P.cellsOf e)) (P.cellsOf e)=some cs'∧DataW.trod enc P w 0 (fun _=>true) true m e cs'=some y∧(k<len→elems[k]?=some y):=fun k hk=>by
   by_cases D:k<len
   ·have h1:=J k D
    rw [List.getElem?_eq_getElem (by omega),Option.bind_eq_some_iff] at h1;obtain ⟨cs',h2,h3⟩:=h1;exact ⟨cs',_,h2,h3,fun _=>List.getElem?_eq_getElem (by omega)⟩
   ·have h1:=G (k-len) (by omega)
    rw [List.getElem?_eq_getElem (by omega),Option.bind_eq_some_iff] at h1;obtain ⟨cs',h2,h3⟩:=h1;rw [show len+(k-len)=k by omega] at h2;exact ⟨cs',_,h2,h3,fun h=>absurd h D⟩
  have hw:x.1.weights P t=(elems.length+rest.length)*P.bytesOf e :: (DataW.weightsAll P e (elems.map (·.1))++DataW.weightsAll P e (rest.map (·.1))):=by
   rw [E];simp only [DataW.weights,ht,List.length_map]
  have B:cap * P.bytesOf e≤reachBytes:=by
   have:=hs ((elems.length+rest.length)*P.bytesOf e) (by rw [hw];exact List.mem_cons_self ..);rwa [show elems.length+rest.length=cap by omega] at this
  refine ⟨some a,len,cap,rfl,hl,I,B,(fun h=>by cases h),fun h0=>?_,fun b off C i hi=>?_⟩
  ·obtain ⟨cs',y,h1,_⟩:=A 0 h0
   obtain ⟨_,h2,h3⟩:=World.cells?_some h1;have h4:=h3 0 hc;rw [List.getElem?_eq_getElem (by omega)] at h4;obtain ⟨b,off,spot⟩:=a;have hs:spot=none:=by simpa [Addr.add] using World.cell?_spot h4
   subst hs;refine ⟨b,off,rfl,?_⟩;rw [add_plain,add_plain] at h4;exact az h4
  ·injection C with C
   subst C;obtain ⟨cs',y,h1,h2,hy⟩:=A i (by omega);obtain ⟨_,h3,h4⟩:=World.cells?_some h1;refine ⟨m,cs',hm,h3,fun j hj=>?_,H,enc,y,h2,fun k hk=>hs k ?_⟩
   ·have h5:=h4 j hj
    rw [add_plain,add_plain] at h5;exact h5
   ·rw [hw]
    refine List.mem_cons_of_mem _ (List.mem_append_left _ ?_);exact mC (i:=i) (by simp [hy hi]) k hk
end
section
open Go.ChangeShapes Go.WideShapes Go.ChangeAt Go.RowKit
theorem o7 {H:Type} {enc:TypeId×Value→H} {a:Assume} {C:Checked} {os:Os} {f:FuncId} {fn:Func} {s:ChangeSpec} {E:List PathCond} {A D B F:Bool}
    (own:ownKnob C.prog.godebug=none) (started:os.Started) (noInit:C.prog.inits.idxOf? f=none) (M:C.prog.funcs[f]?=some fn)
    (witness:∃(w:World) (tape:Tape) (i:Input),w.os=os∧(w.forCall tape i).Shaped C.prog∧i.vars=[]∧Input.okWide C.prog (w.forCall tape i) .any w.heap.size f i ∧
      s.pre6 enc C.prog fn E A (w.forCall tape i).memory i.args∧a.holds C.prog (lone (Frame.enter C.prog f i.args .normal) [] (w.forCall tape i)))
    (contract:∀(W:World) (base:Nat) (args:Array Value) (ds gs:List (DataW H)) (before:List MemPlace),
      (∀(j:Nat) t v,fn.params[j]?=some t→args[j]?=some v→Value.okWide C.prog W .any base t v) →
      DataW.Whole enc C.prog fn.params.toList s.vars A W args.toList ds gs before →
      (DataW.weightsEach C.prog (fn.params.toList++s.plain.varTypes C.prog) (ds++gs)).all (·≤reachBytes)=true →
      Calls C.prog f args W fun e W'=>∃v,e=.returned v∧s.post enc C.prog fn A D B F W args v W') :
    ReturnsInHanded a C os f .any (s.pre6 enc C.prog fn E A) (s.post enc C.prog fn A D B F):=by
 refine returnsInHanded_of_calls own started noInit witness ?_;intro w tape i _ _ _ L I _;obtain ⟨_,_,_,fn',J,_,_,_,_,G⟩:=L;have e:fn'=fn:=Option.some.inj (J.symm.trans M);subst e;obtain ⟨⟨ds,gs,before,hw,_⟩,hz⟩:=I;have K:=DataW.Whole.of_heap (w':=w.forCall tape i) (by rfl) hw;refine (contract (w.forCall tape i) w.heap.size i.args ds gs before G K (hz.weights hw)).mono fun e W' ⟨v,he,hp⟩=>?_;subst he;exact ChangeSpec.post_blind hp
end
section
open Go.RowKit
theorem mi {P:Program} {w:World} {n:Nat} {cs:List Value} {t e:TypeId} {α:Type} (d:α) (sz:Nat) (R:List Value→α→Prop) (ht:P.underlying t=some (.slice e)) (hz:P.cellsOf e=sz) (h0:0<sz)
    (hR:∀(m:Nat) (cs':List Value),n=m+1→TZ P w m e cs'→∃x,R cs' x) (h:TZ P w n t cs) :
    ∃v l c,cs=[v]∧RowOf (fun _=>True) w v sz (List.length l) c∧∀i,i<l.length→R (c i) (l.getD i d):=by
 subst hz;obtain ⟨a,len,cap,rfl,hl,hc,_,hn,hb,hi⟩:=h.slice ht h0
 have A:∀i,∃p:List Value×α,i<len→(∃b off,a=some ⟨b,off,none⟩∧∀j,j<P.cellsOf e→w.cell? ⟨b,off+i * P.cellsOf e+j,none⟩=p.1[j]?)∧p.1.length=P.cellsOf e∧R p.1 p.2:=fun i=>by
  by_cases D:i<len
  ·obtain ⟨b,off,rfl,F⟩:=hb (by omega)
   obtain ⟨m,cs',hm,C,B,G⟩:=hi b off rfl i D;obtain ⟨x,hx⟩:=hR m cs' hm G;exact ⟨(cs',x),fun _=>⟨⟨b,off,rfl,B⟩,C,hx⟩⟩
  ·exact ⟨([],d),fun h=>absurd h D⟩
 refine ⟨_,(List.range len).map (fun i=>(Classical.choose (A i)).2),fun i=>(Classical.choose (A i)).1,rfl,⟨a,cap,by simp,by simpa using hl,hc,fun h=>(hn h).2,fun h1=>?_,fun i hi=>?_⟩,fun i hi=>?_⟩
 ·have h1:0<len:=by simpa using h1
  obtain ⟨b,off,rfl,F⟩:=hb (by omega);refine ⟨b,off,rfl,trivial,F,fun i hi j hj=>?_⟩;obtain ⟨⟨b',off',e,B⟩,_⟩:=Classical.choose_spec (A i) (by simpa using hi);injection e with e
  injection e with e1 e2
  subst e1 e2;exact B j hj
 ·exact (Classical.choose_spec (A i) (by simpa using hi)).2.1
 ·have E:i<len:=by simpa using hi
  have e:((List.range len).map (fun i=>(Classical.choose (A i)).2)).getD i d=(Classical.choose (A i)).2:=by
   rw [List.getD_eq_getElem?_getD];simp [E]
  rw [e];exact (Classical.choose_spec (A i) E).2.2
theorem zK:Tryz.prog.cellsOf 5=1:=by kernel_rfl
theorem i7 {w:World} {n:Nat} {cs:List Value} (h:TZ Tryz.prog w n 30 cs):∃p c s,cs=[.slice p s.length c]∧TxtAt Any w (.slice p s.length c) s:=by
 obtain ⟨v,l,c,rfl,⟨s0,cap,rfl,h1,h2,h3,h4,_⟩,B⟩:=mi (0:UInt8) 1 (fun cs' b=>cs'=[.int .u8 (b.toNat:Int)]) Tryz.underlying30 zK (by decide) (fun m cs' _ ht=>by
   obtain ⟨z,rfl,A⟩:=ht.int Tryz.underlying5;have hz:0≤z∧z≤255:=by simpa [Lit.wf,IntKind.min,IntKind.max,IntKind.signed,IntKind.bits] using A
   refine ⟨UInt8.ofNat z.toNat,?_⟩;have:(UInt8.ofNat z.toNat).toNat=z.toNat:=by simp;omega
   rw [this,show ((z.toNat:Nat):Int)=z by omega]) h
 refine ⟨s0,cap,l,rfl,TxtAt.of_cells h1 h2 h3 fun h0=>?_⟩;obtain ⟨b,off,e,_,_,hc⟩:=h4 h0;refine ⟨b,off,e,trivial,fun i hi=>?_⟩;have q:=hc i hi 0 (by decide);rw [B i hi,Nat.mul_one,Nat.add_zero] at q;exact q
end
end Go.Proofs.YthgcpfkochikfaaGreat
