/-
  EvalSigns: part 45 of its proof: see the last text.
-/
import Derived.Test.YthgcpfkochikfaaGreatPs42
import Derived.Test.YthgcpfkochikfaaGreatPs43
import Derived.Test.YthgcpfkochikfaaGreatPs44
set_option maxRecDepth 100000
set_option maxHeartbeats 16000000
namespace Go.Proofs.YthgcpfkochikfaaGreat
section
open Go.RowKit
attribute [local go_sem ↓] Go.wp_at_zero Go.wp_at_succ
def wT (s:ByteArray):ByteArray:=(⟨#[102,110,32,102,40,97,58,32,105,110,116,44,32,98,58,32,105,110,116,41,58,32,105,110,116,32,123,32,114,101,116,117,114,110,32,97,32]⟩:ByteArray)++s++(⟨#[32,98,59,32,125]⟩:ByteArray)
theorem uk {s:ByteArray} (h:sG s):cY (wT s).toList=.ok [gA s]∧(wT s).size=43:=by
 rcases h with rfl | rfl | rfl | rfl | rfl
 all_goals exact ⟨by kernel_rfl,by kernel_rfl⟩
theorem yq (s:ByteArray):sG s ↔ (s.toList==[43] || s.toList==[45] || s.toList==[42] || s.toList==[47] || s.toList==[37])=true:=by
 have key:∀c:UInt8,s.toList=[c] ↔ s=⟨#[c]⟩:=fun c=>by
  rw [ByteArray.toList_eq];constructor
  ·intro h
   obtain ⟨⟨l⟩⟩:=s;dsimp only at h;rw [h]
  ·rintro rfl
   rfl
 simp only [Bool.or_eq_true,beq_iff_eq,key]
 unfold sG;simp only [or_assoc]
theorem vP {s:ByteArray} (h:sG s):s.size≤1:=by
 rcases h with rfl | rfl | rfl | rfl | rfl<;>decide
theorem mL (n:Int):∃ty num t,inV n=(⟨ty,num,[]⟩,t):=by
 unfold inV;by_cases h:-9223372036854775808≤n∧n≤9223372036854775807
 ·rw [if_pos h];exact ⟨_,_,_,rfl⟩
 ·rw [if_neg h];exact ⟨_,_,_,rfl⟩
theorem oZ (f:Int→Int→Int) (a b:Int):∃ty num t,iz f a b=(⟨ty,num,[]⟩,t):=by
 unfold iz;by_cases h:b=0
 ·rw [if_pos h];exact ⟨_,_,_,rfl⟩
 rw [if_neg h];by_cases h:a=-9223372036854775808∧b=-1
 ·rw [if_pos h];exact ⟨_,_,_,rfl⟩
 ·rw [if_neg h];exact ⟨_,_,_,rfl⟩
theorem xW (c:UInt8) (a b:Int) (h:c=43∨c=45∨c=42∨c=47∨c=37):∃ty num t,cJ [c] (aB a) (aB b)=(⟨ty,num,[]⟩,t):=by
 rcases h with rfl | rfl | rfl | rfl | rfl
 ·exact mL (a+b)
 ·exact mL (a-b)
 ·exact mL (a * b)
 ·exact oZ Int.tdiv a b
 ·exact oZ Int.tmod a b
theorem AJ {s:ByteArray} (h:sG s) (a b:Int):∃(F:List Fn) (ty num t:Int),cY (wT s).toList=.ok F∧(gS F≤2048∧gC F∧(bL F).1=0)∧bK F ⟨#[102]⟩ [aB a,aB b] 100 ⟨[],[]⟩=(⟨⟨ty,num,[]⟩,t,4⟩,⟨[],[]⟩)∧cJ s.toList (aB a) (aB b)=(⟨ty,num,[]⟩,t):=by
 obtain ⟨hf,_⟩:=uk h;have hg:=jT hf
 have h5:∃c:UInt8,s.toList=[c]∧(c=43∨c=45∨c=42∨c=47∨c=37):=by
  rcases h with rfl | rfl | rfl | rfl | rfl
  ·exact ⟨43,by kernel_rfl,by decide⟩
  ·exact ⟨45,by kernel_rfl,by decide⟩
  ·exact ⟨42,by kernel_rfl,by decide⟩
  ·exact ⟨47,by kernel_rfl,by decide⟩
  ·exact ⟨37,by kernel_rfl,by decide⟩
 obtain ⟨c,hs,hc⟩:=h5;obtain ⟨ty,num,t,e⟩:=xW c a b hc;have A:=vy hs a b hg.2.2;rw [e] at A;exact ⟨_,ty,num,t,hf,hg,A,by rw [hs];exact e⟩
theorem vR {S:Nat→Prop} {p:Option Addr} {c:Nat} (t:ByteArray) (F:List Fn) (w:World) (hf:cY t.toList=.ok F) (h2:t.size≤100000) (h:TxtAt S w (.slice p t.size c) t.toList) :
    Calls Tryz.prog 11 #[.slice p t.size c] w fun e w'=>∃sv cv,e=.returned (.tuple #[.agg #[.slice sv F.length cv],.int .i64 0,.int .i64 0])∧RepFns Any w' (.slice sv F.length cv) F∧Below w.heap.size w w':=by
 have e:=eH t;obtain ⟨p',c',e',C,hm,hn,hc⟩:=h.form;simp only [Value.slice.injEq] at e'
 obtain ⟨rfl,_,rfl⟩:=e';rw [←e];refine (oY p c t.toList w (fun h0=>?_) (by omega) C).mono ?_
 ·obtain ⟨b,off,q1,_,q3,q4⟩:=hc h0
  exact ⟨b,off,q1,q3,q4⟩
 ·rintro e w1 ⟨A,D⟩
  rw [hf] at A;obtain ⟨v,rfl,B⟩:=A;obtain ⟨sv,cv,rfl⟩:=lu B;exact ⟨sv,cv,rfl,B.mono fun _ _=>trivial,D⟩
theorem sZ (s:ByteArray) (a b:Int) (w:World) (ha:bf a) (hb:bf b):Calls Tryz.prog 5 #[.string s,.int .i64 a,.int .i64 b] w fun e w'=>e=.returned (.bool true)∧Below w.heap.size w w':=by
 have hU:=zh (oC w);have hh:=zh ha;have hg:=zh hb;clear ha hb;go_enter Tryz.func5,Tryz.ntmps5
 go_wp2_with fail
 refine hU.o.mono ?_;rintro e w0 ⟨rfl,hN⟩;have hi:=zh hN;clear hN hU;go_upto_region 2 with fail
 have k:Hd (sG s ↔ (s.toList==[43] || s.toList==[45] || s.toList==[42] || s.toList==[47] || s.toList==[37])=true):=zh (yq s);generalize hq:(s.toList==[43] || s.toList==[45] || s.toList==[42] || s.toList==[47] || s.toList==[37])=q at *;have HQ:=zh hq;clear hq;go_cut [8] (fun t8 wx=>t8=.bool q∧wx=w0)
 case first =>
  have e:=HQ.o
  cases c1:(s.toList==[43])
  ·rw [c1] at e
   cases c2:(s.toList==[45])
   ·rw [c2] at e
    cases c3:(s.toList==[42])
    ·rw [c3] at e
     cases c4:(s.toList==[47])
     ·rw [c4] at e
      cases c5:(s.toList==[37])
      all_goals
       rw [c5] at e;obtain rfl:=e;clear HQ k;go_wp2_with fail
       go_meet
       exact ⟨rfl,rfl⟩
     ·rw [c4] at e
      obtain rfl:=e;clear HQ k;go_wp2_with fail
      go_meet
      exact ⟨rfl,rfl⟩
    ·rw [c3] at e
     obtain rfl:=e;clear HQ k;go_wp2_with fail
     go_meet
     exact ⟨rfl,rfl⟩
   ·rw [c2] at e
    obtain rfl:=e;clear HQ k;go_wp2_with fail
    go_meet
    exact ⟨rfl,rfl⟩
  ·rw [c1] at e
   obtain rfl:=e;clear HQ k;go_wp2_with fail
   go_meet
   exact ⟨rfl,rfl⟩
 case rest =>
  obtain ⟨rfl,rfl⟩:=hcut;clear HQ
  cases q
  ·go_wp2_with fail
   exact bodyPost_ret (v:=.bool true) (by simp [results,Tryz.results5,go_sem]) rfl ⟨rfl,hi.o⟩
  ·have h5:=k.o.2 rfl
   clear k;obtain ⟨F,ty,num,t,hI,hG,hL,hB⟩:=AJ h5 a b;have hd:=zh hG;have n:=zh hL;have H7:=zh hB;have H5:=zh h5;have hV:=zh hI;have ho:=zh (uk h5).2;clear hG hL hB h5 hI;have H1:s.size≤1:=vP H5.o;go_wp2_with fail
   clear H1;rw [show (⟨#[102,110,32,102,40,97,58,32,105,110,116,44,32,98,58,32,105,110,116,41,58,32,105,110,116,32,123,32,114,101,116,117,114,110,32,97,32]⟩:ByteArray)++s++(⟨#[32,98,59,32,125]⟩:ByteArray)=wT s from rfl];generalize wT s=X at *;have H3:=fun W=>Lib.run_convert_string_bytes (P:=Tryz.prog) W 9 30 5 X ji Tryz.underlying30 Tryz.underlying5;go_simp;go_wp2_with fail
   refine Calls.mono (vR X F (Lib.bytesWorld wc 5 X) hV.o (by rw [ho.o];decide) (oB wc X (by rw [ho.o];decide))) ?_;rintro e w1 ⟨sv,cv,rfl,p,h1⟩;have hl:=(jd wc X).trans (h1.mono (jd wc X).size);clear h1;have h4:=zh (p.keep (Stays.of_below (ag (Below.refl w1.heap.size w1) (.cells #[.slice sv F.length cv] 26))));have hf:Hd ((w1.alloc (.cells #[.slice sv F.length cv] 26)).heap[w1.heap.size]?=some (.cells #[.slice sv F.length cv] 26 (0,0))):=zh (aj _ _ _ rfl);have hX:Hd (Below w.heap.size w (w1.alloc (.cells #[.slice sv F.length cv] 26))):=zh ((hi.o.trans (hl.mono hi.o.size)).alloc (Nat.le_trans hi.o.size hl.size) _);generalize F.length=hn at *;clear p hl H3;go_upto_region 6 with fail
   generalize w1.alloc (.cells #[.slice sv hn cv] 26)=w2 at *;generalize w1.heap.size=PB at *;have hT:=zh (me (S:=Any) (l:=[]) w2 PrsAt.nil (by decide));go_wp2_with fail
   refine hT.o.mono ?_;rintro e w3 ⟨hM,hE⟩;rw [if_pos (show a8 []=true by rfl)] at hE;obtain ⟨JB,rfl,hF,hj⟩:=hE;have A:=zh (RnS.made hf.o h4.o hX.o hM hj hF);generalize w2.heap.size=D at *;generalize w3.heap.size=U at *;clear hM hj hF h4 hf hX hT;go_upto_region 9 with fail
   apply Bf (fun OB _ rp rc w8=>RnS D U JB 100000 w w8 PB (.slice sv hn cv) F ⟨[],[]⟩∧w8.heap[OB]?=some (.cells #[.int .i64 0,.int .i64 0,.slice none 0 0,.int .i64 0,.int .i64 0] 38 (0,0))∧D≤OB∧(VvAt (KS D w8) w8 (.agg #[.int .i64 ((⟨ty,num,[]⟩:Vv)).ty,.int .i64 ((⟨ty,num,[]⟩:Vv)).num,.slice rp ((⟨ty,num,[]⟩:Vv)).text.length rc]) ((⟨ty,num,[]⟩:Vv))∧OkV ((⟨ty,num,[]⟩:Vv))))
   ·intro HL
    have h3:=zh (A.o.below (aw (Below.refl w3.heap.size w3)));refine ay (S:=(fun W=>W.cell? ⟨PB,0,none⟩=some (.slice sv hn cv))) 9 (by kernel_rfl) (by kernel_rfl) (by (try dsimp only);exact h3.o.cellp) (fun hH=>?_);simp only [List.take_succ_cons,List.take_zero,List.drop_succ_cons,List.drop_zero]
    generalize w3.drew=wd at *;refine tkA 0 ?_;refine tkA 1 ?_;refine tkA 3 ?_;refine tkA 6 ?_;try go_simp
    refine wpAnyH_ready (rs:=[2,8]) (by kernel_rfl) (by simp) ?_;refine (AllReadyH.cons rfl (fun K hK=>?_) (AllReadyH.cons rfl (fun K hK=>?_) AllReadyH.nil))
    ·go_simp
     go_at_call 14
     refine (ed a _).mono ?_;rintro e wn0 ⟨rfl,z⟩;have V:=zh (h3.o.below z);clear z;try go_simp
     refine hK.out _ _ ?_ (fun hH=>?_)
     ·exact V.o.cellp
     clear hK K;try go_simp
     refine wpAnyH_ready (rs:=[4,8]) (by kernel_rfl) (by simp) ?_;refine (AllReadyH.cons rfl (fun K hK=>?_) (AllReadyH.cons rfl (fun K hK=>?_) AllReadyH.nil))
     ·go_simp
      go_at_call 14
      refine (ed b _).mono ?_;rintro e wn1 ⟨rfl,O⟩;have T:=zh (V.o.below O);clear O;try go_simp
      refine hK.out _ _ ?_ (fun hH=>?_)
      ·exact T.o.cellp
      clear hK K;try go_simp
      refine wpAnyH_ready (rs:=[5,8]) (by kernel_rfl) (by simp) ?_;refine (AllReadyH.cons rfl (fun K hK=>?_) (AllReadyH.cons rfl (fun K hK=>?_) AllReadyH.nil))
      ·go_simp
       have h0:Below wn1.heap.size wn1 (wn1.alloc (.cells #[.int .i64 1,.int .i64 a,.slice none 0 0,.int .i64 1,.int .i64 b,.slice none 0 0] 35)):=ag (Below.refl _ _) _;have H:=zh (T.o.below h0);have H0:=zh (ArAt.two (D:=D) wn1 a b hh.o hg.o);clear h0;generalize (wn1.alloc (.cells #[.int .i64 1,.int .i64 a,.slice none 0 0,.int .i64 1,.int .i64 b,.slice none 0 0] 35))=wl2 at *;generalize wn1.heap.size=AB at *;refine hK.out _ _ ?_ (fun hH=>?_)
       ·exact H.o.cellp
       clear hK K;try go_simp
       refine wpAnyH_ready (rs:=[7,8]) (by kernel_rfl) (by simp) ?_;refine (AllReadyH.cons rfl (fun K hK=>?_) (AllReadyH.cons rfl (fun K hK=>?_) AllReadyH.nil))
       ·go_simp
        have hr:=zh (H.o.calls hd.o ⟨#[102]⟩ 100 (by constructor<;>decide) H0.o (by decide) n.o);go_at_call 13
        refine hr.o.mono ?_;rintro e wr3 hs;have A:=zh (H.o.run hs);obtain ⟨rp,rc,he,J,L,_,H2⟩:=hs;subst he;try dsimp only [aB,noV,aW,aE,List.length_nil]
        have h2:=zh (And.intro J L);clear J L H2;try go_simp
        refine hK.out _ _ ?_ (fun hH=>?_)
        ·exact A.o.cellp
        clear hK K;try go_simp
        refine rd1 8 fun K hK=>?_;go_simp;have Y:Below wr3.heap.size wr3 (wr3.alloc (.cells #[.int .i64 0,.int .i64 0,.slice none 0 0,.int .i64 0,.int .i64 0] 38)):=ag (Below.refl _ _) _;have hy:Hd ((wr3.alloc (.cells #[.int .i64 0,.int .i64 0,.slice none 0 0,.int .i64 0,.int .i64 0] 38)).heap[wr3.heap.size]?=some (.cells #[.int .i64 0,.int .i64 0,.slice none 0 0,.int .i64 0,.int .i64 0] 38 (0,0))):=zh (aj _ _ _ rfl);have ht:Hd (D≤wr3.heap.size):=zh (Nat.le_trans A.o.low.2.2.1 A.o.low.2.2.2);have M:=zh (A.o.below Y);have H6:=zh (And.intro (h2.o.1.low Y) h2.o.2);clear Y;generalize (wr3.alloc (.cells #[.int .i64 0,.int .i64 0,.slice none 0 0,.int .i64 0,.int .i64 0] 38))=wo4 at *;generalize wr3.heap.size=OB at *;refine hK.out _ _ ?_ (fun hH=>?_)
        ·exact M.o.cellp
        clear hK K;try go_simp
        refine wpAnyH_done (by kernel_rfl) ?_ _;dsimp only [aP];exact HL OB AB rp rc wo4 ⟨M.o,hy.o,ht.o,H6.o⟩
       ·go_simp
        have Z:Below wl2.heap.size wl2 (wl2.alloc (.cells #[.int .i64 0,.int .i64 0,.slice none 0 0,.int .i64 0,.int .i64 0] 38)):=ag (Below.refl _ _) _;have hz:Hd ((wl2.alloc (.cells #[.int .i64 0,.int .i64 0,.slice none 0 0,.int .i64 0,.int .i64 0] 38)).heap[wl2.heap.size]?=some (.cells #[.int .i64 0,.int .i64 0,.slice none 0 0,.int .i64 0,.int .i64 0] 38 (0,0))):=zh (aj _ _ _ rfl);have hu:Hd (D≤wl2.heap.size):=zh (Nat.le_trans H.o.low.2.2.1 H.o.low.2.2.2);have A:=zh (H.o.below Z);have m:=zh (H0.o.low Z);clear Z;generalize (wl2.alloc (.cells #[.int .i64 0,.int .i64 0,.slice none 0 0,.int .i64 0,.int .i64 0] 38))=wo3 at *;generalize wl2.heap.size=OB at *;refine hK.out _ _ ?_ (fun hH=>?_)
        ·exact A.o.cellp
        clear hK K;try go_simp
        refine rd1 7 fun K hK=>?_;go_simp;have I:=zh (A.o.calls hd.o ⟨#[102]⟩ 100 (by constructor<;>decide) m.o (by decide) n.o);go_at_call 13
        refine I.o.mono ?_;rintro e wr4 hs;have M:=zh (A.o.run hs);obtain ⟨rp,rc,he,J,L,_,R⟩:=hs;subst he;try dsimp only [aB,noV,aW,aE,List.length_nil]
        have i:=zh (bW R A.o.jo hz.o (by decide) (by decide));have G:=zh (And.intro J L);clear J L R;try go_simp
        refine hK.out _ _ ?_ (fun hH=>?_)
        ·exact M.o.cellp
        clear hK K;try go_simp
        refine wpAnyH_done (by kernel_rfl) ?_ _;dsimp only [aP];exact HL OB AB rp rc wr4 ⟨M.o,i.o,hu.o,G.o⟩
      ·go_simp
       have r:Below wn1.heap.size wn1 (wn1.alloc (.cells #[.int .i64 0,.int .i64 0,.slice none 0 0,.int .i64 0,.int .i64 0] 38)):=ag (Below.refl _ _) _;have h6:Hd ((wn1.alloc (.cells #[.int .i64 0,.int .i64 0,.slice none 0 0,.int .i64 0,.int .i64 0] 38)).heap[wn1.heap.size]?=some (.cells #[.int .i64 0,.int .i64 0,.slice none 0 0,.int .i64 0,.int .i64 0] 38 (0,0))):=zh (aj _ _ _ rfl);have hv:Hd (D≤wn1.heap.size):=zh (Nat.le_trans T.o.low.2.2.1 T.o.low.2.2.2);have H:=zh (T.o.below r);clear r;generalize (wn1.alloc (.cells #[.int .i64 0,.int .i64 0,.slice none 0 0,.int .i64 0,.int .i64 0] 38))=wo2 at *;generalize wn1.heap.size=OB at *;refine hK.out _ _ ?_ (fun hH=>?_)
       ·exact H.o.cellp
       clear hK K;try go_simp
       refine rd1 5 fun K hK=>?_;go_simp;have B:Below wo2.heap.size wo2 (wo2.alloc (.cells #[.int .i64 1,.int .i64 a,.slice none 0 0,.int .i64 1,.int .i64 b,.slice none 0 0] 35)):=ag (Below.refl _ _) _;have A:=zh (H.o.below B);have h9:=zh ((B.block _ (af h6.o)).trans h6.o);have m:=zh (ArAt.two (D:=D) wo2 a b hh.o hg.o);clear B;generalize (wo2.alloc (.cells #[.int .i64 1,.int .i64 a,.slice none 0 0,.int .i64 1,.int .i64 b,.slice none 0 0] 35))=wl3 at *;generalize wo2.heap.size=AB at *;refine hK.out _ _ ?_ (fun hH=>?_)
       ·exact A.o.cellp
       clear hK K;try go_simp
       refine rd1 7 fun K hK=>?_;go_simp;have I:=zh (A.o.calls hd.o ⟨#[102]⟩ 100 (by constructor<;>decide) m.o (by decide) n.o);go_at_call 13
       refine I.o.mono ?_;rintro e wr4 hs;have M:=zh (A.o.run hs);obtain ⟨rp,rc,he,J,L,_,R⟩:=hs;subst he;try dsimp only [aB,noV,aW,aE,List.length_nil]
       have i:=zh (bW R A.o.jo h9.o (by decide) (by decide));have G:=zh (And.intro J L);clear J L R;try go_simp
       refine hK.out _ _ ?_ (fun hH=>?_)
       ·exact M.o.cellp
       clear hK K;try go_simp
       refine wpAnyH_done (by kernel_rfl) ?_ _;dsimp only [aP];exact HL OB AB rp rc wr4 ⟨M.o,i.o,hv.o,G.o⟩
     ·go_simp
      have x:Below wn0.heap.size wn0 (wn0.alloc (.cells #[.int .i64 0,.int .i64 0,.slice none 0 0,.int .i64 0,.int .i64 0] 38)):=ag (Below.refl _ _) _;have h7:Hd ((wn0.alloc (.cells #[.int .i64 0,.int .i64 0,.slice none 0 0,.int .i64 0,.int .i64 0] 38)).heap[wn0.heap.size]?=some (.cells #[.int .i64 0,.int .i64 0,.slice none 0 0,.int .i64 0,.int .i64 0] 38 (0,0))):=zh (aj _ _ _ rfl);have hw:Hd (D≤wn0.heap.size):=zh (Nat.le_trans V.o.low.2.2.1 V.o.low.2.2.2);have T:=zh (V.o.below x);clear x;generalize (wn0.alloc (.cells #[.int .i64 0,.int .i64 0,.slice none 0 0,.int .i64 0,.int .i64 0] 38))=wo1 at *;generalize wn0.heap.size=OB at *;refine hK.out _ _ ?_ (fun hH=>?_)
      ·exact T.o.cellp
      clear hK K;try go_simp
      refine rd1 4 fun K hK=>?_;go_simp;go_at_call 14
      refine (ed b _).mono ?_;rintro e wn2 ⟨rfl,E⟩;have H:=zh (T.o.below E);have hc:=zh ((E.block _ (af h7.o)).trans h7.o);clear E;try go_simp
      refine hK.out _ _ ?_ (fun hH=>?_)
      ·exact H.o.cellp
      clear hK K;try go_simp
      refine rd1 5 fun K hK=>?_;go_simp;have B:Below wn2.heap.size wn2 (wn2.alloc (.cells #[.int .i64 1,.int .i64 a,.slice none 0 0,.int .i64 1,.int .i64 b,.slice none 0 0] 35)):=ag (Below.refl _ _) _;have A:=zh (H.o.below B);have h9:=zh ((B.block _ (af hc.o)).trans hc.o);have m:=zh (ArAt.two (D:=D) wn2 a b hh.o hg.o);clear B;generalize (wn2.alloc (.cells #[.int .i64 1,.int .i64 a,.slice none 0 0,.int .i64 1,.int .i64 b,.slice none 0 0] 35))=wl3 at *;generalize wn2.heap.size=AB at *;refine hK.out _ _ ?_ (fun hH=>?_)
      ·exact A.o.cellp
      clear hK K;try go_simp
      refine rd1 7 fun K hK=>?_;go_simp;have I:=zh (A.o.calls hd.o ⟨#[102]⟩ 100 (by constructor<;>decide) m.o (by decide) n.o);go_at_call 13
      refine I.o.mono ?_;rintro e wr4 hs;have M:=zh (A.o.run hs);obtain ⟨rp,rc,he,J,L,_,R⟩:=hs;subst he;try dsimp only [aB,noV,aW,aE,List.length_nil]
      have i:=zh (bW R A.o.jo h9.o (by decide) (by decide));have G:=zh (And.intro J L);clear J L R;try go_simp
      refine hK.out _ _ ?_ (fun hH=>?_)
      ·exact M.o.cellp
      clear hK K;try go_simp
      refine wpAnyH_done (by kernel_rfl) ?_ _;dsimp only [aP];exact HL OB AB rp rc wr4 ⟨M.o,i.o,hw.o,G.o⟩
    ·go_simp
     have y:Below wd.heap.size wd (wd.alloc (.cells #[.int .i64 0,.int .i64 0,.slice none 0 0,.int .i64 0,.int .i64 0] 38)):=ag (Below.refl _ _) _;have h8:Hd ((wd.alloc (.cells #[.int .i64 0,.int .i64 0,.slice none 0 0,.int .i64 0,.int .i64 0] 38)).heap[wd.heap.size]?=some (.cells #[.int .i64 0,.int .i64 0,.slice none 0 0,.int .i64 0,.int .i64 0] 38 (0,0))):=zh (aj _ _ _ rfl);have hx:Hd (D≤wd.heap.size):=zh (Nat.le_trans h3.o.low.2.2.1 h3.o.low.2.2.2);have V:=zh (h3.o.below y);clear y;generalize (wd.alloc (.cells #[.int .i64 0,.int .i64 0,.slice none 0 0,.int .i64 0,.int .i64 0] 38))=wo0 at *;generalize wd.heap.size=OB at *;refine hK.out _ _ ?_ (fun hH=>?_)
     ·exact V.o.cellp
     clear hK K;try go_simp
     refine rd1 2 fun K hK=>?_;go_simp;go_at_call 14
     refine (ed a _).mono ?_;rintro e wn1 ⟨rfl,O⟩;have T:=zh (V.o.below O);have hS:=zh ((O.block _ (af h8.o)).trans h8.o);clear O;try go_simp
     refine hK.out _ _ ?_ (fun hH=>?_)
     ·exact T.o.cellp
     clear hK K;try go_simp
     refine rd1 4 fun K hK=>?_;go_simp;go_at_call 14
     refine (ed b _).mono ?_;rintro e wn2 ⟨rfl,E⟩;have H:=zh (T.o.below E);have hc:=zh ((E.block _ (af hS.o)).trans hS.o);clear E;try go_simp
     refine hK.out _ _ ?_ (fun hH=>?_)
     ·exact H.o.cellp
     clear hK K;try go_simp
     refine rd1 5 fun K hK=>?_;go_simp;have B:Below wn2.heap.size wn2 (wn2.alloc (.cells #[.int .i64 1,.int .i64 a,.slice none 0 0,.int .i64 1,.int .i64 b,.slice none 0 0] 35)):=ag (Below.refl _ _) _;have A:=zh (H.o.below B);have h9:=zh ((B.block _ (af hc.o)).trans hc.o);have m:=zh (ArAt.two (D:=D) wn2 a b hh.o hg.o);clear B;generalize (wn2.alloc (.cells #[.int .i64 1,.int .i64 a,.slice none 0 0,.int .i64 1,.int .i64 b,.slice none 0 0] 35))=wl3 at *;generalize wn2.heap.size=AB at *;refine hK.out _ _ ?_ (fun hH=>?_)
     ·exact A.o.cellp
     clear hK K;try go_simp
     refine rd1 7 fun K hK=>?_;go_simp;have I:=zh (A.o.calls hd.o ⟨#[102]⟩ 100 (by constructor<;>decide) m.o (by decide) n.o);go_at_call 13
     refine I.o.mono ?_;rintro e wr4 hs;have M:=zh (A.o.run hs);obtain ⟨rp,rc,he,J,L,_,R⟩:=hs;subst he;try dsimp only [aB,noV,aW,aE,List.length_nil]
     have i:=zh (bW R A.o.jo h9.o (by decide) (by decide));have G:=zh (And.intro J L);clear J L R;try go_simp
     refine hK.out _ _ ?_ (fun hH=>?_)
     ·exact M.o.cellp
     clear hK K;try go_simp
     refine wpAnyH_done (by kernel_rfl) ?_ _;dsimp only [aP];exact HL OB AB rp rc wr4 ⟨M.o,i.o,hx.o,G.o⟩
   ·intro OB AB rp rc w8 hs
    obtain ⟨hC,Q,hD,hA⟩:=hs;have hp:=zh hC;have hR:=zh Q;have hO:=zh hA;have hQ:=zh hD;have o0:=aa Q (j:=0) (u:=.int .i64 0) rfl;have o1:=aa Q (j:=1) (u:=.int .i64 0) rfl;have o2:=aa Q (j:=2) (u:=.slice none 0 0) rfl;have o3:=aa Q (j:=3) (u:=.int .i64 0) rfl;have o4:=aa Q (j:=4) (u:=.int .i64 0) rfl;have f0:=ae Q 0;have f1:=ae Q 1;have f2:=ae Q 2;have f3:=ae Q 3;have f4:=ae Q 4;clear hC Q hD hA;go_upto_region 10 with fail
    clear o0 o1 o2 o3 o4 f0 f1 f2 f3 f4;have hP:Hd ((((((w8.setCell ⟨OB,0,none⟩ (.int .i64 (ty))).setCell ⟨OB,1,none⟩ (.int .i64 (num))).setCell ⟨OB,2,none⟩ (.slice rp (0) rc)).setCell ⟨OB,3,none⟩ (.int .i64 (t))).setCell ⟨OB,4,none⟩ (.int .i64 (4))).heap[OB]?=some (.cells #[.int .i64 (ty),.int .i64 (num),.slice rp (0) rc,.int .i64 (t),.int .i64 (4)] 38 (0,0))):=zh (fk hR.o (ty) (num) rp (0) rc (t) (4));have hW:Hd (Below w.heap.size w (((((w8.setCell ⟨OB,0,none⟩ (.int .i64 (ty))).setCell ⟨OB,1,none⟩ (.int .i64 (num))).setCell ⟨OB,2,none⟩ (.slice rp (0) rc)).setCell ⟨OB,3,none⟩ (.int .i64 (t))).setCell ⟨OB,4,none⟩ (.int .i64 (4)))):=zh (gd hp.o.on (Nat.le_trans hp.o.low.1 hQ.o) (ty) (num) rp (0) rc (t) (4));generalize (((((w8.setCell ⟨OB,0,none⟩ (.int .i64 (ty))).setCell ⟨OB,1,none⟩ (.int .i64 (num))).setCell ⟨OB,2,none⟩ (.slice rp (0) rc)).setCell ⟨OB,3,none⟩ (.int .i64 (t))).setCell ⟨OB,4,none⟩ (.int .i64 (4)))=w9 at *
    have H8:Hd (∀W,TxtAt Any W (.slice rp 0 rc) []):=zh (by
      obtain ⟨p',c',e',q1,q2,q3,_⟩:=(VvAt.txt hO.o.1).form;simp only [Value.slice.injEq] at e'
      obtain ⟨rfl,_,rfl⟩:=e';exact fun W=>TxtAt.of_cells q1 q2 q3 fun h=>absurd h (Nat.lt_irrefl _))
    have N:Hd (Below w.heap.size w w9):=hW;have C:Hd (w9.heap[OB]?=some (.cells #[.int .i64 ty,.int .i64 num,.slice rp 0 rc,.int .i64 t,.int .i64 4] 38 (0,0))):=hP;clear hO hQ hR hp hP hW A n hV ho;go_wp2_with fail
    refine (ed a _).mono ?_;rintro e w10 ⟨rfl,g⟩;replace C:=zh ((g.block _ (af C.o)).trans C.o);replace N:=zh (N.o.trans (g.mono N.o.size));clear g;go_wp2_with fail
    refine (ed b _).mono ?_;rintro e w11 ⟨rfl,f⟩;replace C:=zh ((f.block _ (af C.o)).trans C.o);replace N:=zh (N.o.trans (f.mono N.o.size));clear f;go_wp2_with fail
    refine (wk H5.o a b _ hh.o hg.o).mono ?_;rintro e w12 ⟨he,d⟩;rw [H7.o] at he;obtain rfl:e=.returned (.tuple #[.agg #[.int .i64 ty,.int .i64 num,.slice none 0 0],.int .i64 t]):=he;replace C:=zh ((d.block _ (af C.o)).trans C.o);replace N:=zh (N.o.trans (d.mono N.o.size));clear d;have hm:Hd ((w12.alloc (.cells #[.int .i64 ty,.int .i64 num,.slice none 0 0] 35)).heap[w12.heap.size]?=some (.cells #[.int .i64 ty,.int .i64 num,.slice none 0 0] 35 (0,0))):=zh (aj _ _ _ rfl);have hk:Below w12.heap.size w12 (w12.alloc (.cells #[.int .i64 ty,.int .i64 num,.slice none 0 0] 35)):=ag (Below.refl _ _) _;replace C:=zh ((hk.block _ (af C.o)).trans C.o);replace N:=zh (N.o.trans (hk.mono N.o.size));clear hk;go_upto_region 11 with fail
    generalize w12.alloc (.cells #[.int .i64 ty,.int .i64 num,.slice none 0 0] 35)=w13 at *;generalize w12.heap.size=VB at *;have x0:=aa C.o (j:=0) (u:=.int .i64 ty) rfl;have x1:=aa C.o (j:=1) (u:=.int .i64 num) rfl;have x2:=aa C.o (j:=2) (u:=.slice rp 0 rc) rfl;have x3:=aa C.o (j:=3) (u:=.int .i64 t) rfl;have y0:=aa hm.o (j:=0) (u:=.int .i64 ty) rfl;have y1:=aa hm.o (j:=1) (u:=.int .i64 num) rfl;have y2:=aa hm.o (j:=2) (u:=.slice none 0 0) rfl;have H9:=zh (oD (s:=[]) ty num rp none rc 0 w13 (H8.o w13) (TxtAt.nil Any w13));go_wp2_with fail
    refine H9.o.mono ?_;rintro e w14 ⟨rfl,c⟩;have H4:=zh ((c.block _ (af C.o)).trans C.o);have Ha:=zh (N.o.trans (c.mono N.o.size));clear c x0 x1 x2 x3 y0 y1 y2;have z4:=aa H4.o (j:=4) (u:=.int .i64 4) rfl;go_wp2_with fail
    exact bodyPost_ret (v:=.bool true) (by simp [results,Tryz.results5,go_sem]) rfl ⟨rfl,Ha.o⟩
end
end Go.Proofs.YthgcpfkochikfaaGreat
