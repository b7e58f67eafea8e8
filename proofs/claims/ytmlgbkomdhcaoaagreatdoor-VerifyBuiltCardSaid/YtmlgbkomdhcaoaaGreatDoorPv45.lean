/-
  VerifyBuilt: part 45 of its proof: see the last text.
-/
import Derived.Test.YtmlgbkomdhcaoaaGreatDoorPv44
set_option maxRecDepth 100000
set_option maxHeartbeats 16000000
namespace Go.Proofs.YtmlgbkomdhcaoaaGreatDoor
section
open Go.RowKit
theorem xY (l:List Fn) (u:Value) (w:World) (hr:RepFns (fun b=>b<w.heap.size) w u l) (hn:Signs w) (Hw:eH l≤2048) (h7:∀f,f∈l→f.params.length≤100000) (h0:(bT l).1=0→tN (da l)) :
    Calls Tryz.prog 8 #[.agg #[u]] w (jh l w):=by
 have HL:=zh hr;obtain ⟨cs,⟨s0,cap,rfl,k8,HF,k5,hp,H1⟩,HA⟩:=hr;have Hi:=zh hp;have kk:=zh HA;have kd:=zh hn;have kc:=zh Hw;have HR:=zh h0;have kt:=zh h7;unfold maxLen at HF;have k7:l.length≤9223372036854775807:=by omega
 have HU:Hd ((bT l).1≠0→eW l=.error (bT l).1):=zh (fun h=>by unfold eW;rw [if_pos h]);have HT:Hd ((bT l).1=0→eu (da l)=true→eW l=.ok (da l)):=zh (fun h g=>by unfold eW;rw [if_neg (fun q=>q h),if_pos g]);have HS:Hd ((bT l).1=0→eu (da l)=false→eW l=.error 2):=zh (fun h g=>by unfold eW;rw [if_neg (fun q=>q h),if_neg (by rw [g];decide)]);have Hp:Hd ((bT l).1=0→l.length≤64∧∀f,f∈l→gi l f.body∧f.params.length≤16):=zh (fun h=>jr h);have hi:Hd (Below w.heap.size w ((w.alloc (.cells #[.slice s0 l.length cap] 43)).alloc (.cells #[.slice none 0 0,.slice none 0 0] 27))):=zh (ag (ag (Below.refl _ _) _) _);have h4:Hd (((w.alloc (.cells #[.slice s0 l.length cap] 43)).alloc (.cells #[.slice none 0 0,.slice none 0 0] 27)).heap[w.heap.size]?=some (.cells #[.slice s0 l.length cap] 43 (0,0))):=zh (az _ _ _ _ (am _ _ _ rfl));have J:Hd (((w.alloc (.cells #[.slice s0 l.length cap] 43)).alloc (.cells #[.slice none 0 0,.slice none 0 0] 27)).heap[w.heap.size+1]?=some (.cells #[.slice none 0 0,.slice none 0 0] 27 (0,0))):=zh (am _ _ _ (ah _ _));have Hs:=zh (qF l h7 ((w.alloc (.cells #[.slice s0 l.length cap] 43)).alloc (.cells #[.slice none 0 0,.slice none 0 0] 27)) (.slice s0 l.length cap) ((HL.o.keep (Stays.of_lt hi.o)).mono (fun _ _=>trivial)));have R:=@run_makeMap Tryz.prog;clear hp HA H1 k8 HF k5 hn Hw h0 h7;go_enter Tryz.func8,Tryz.ntmps8
 go_upto_region 1 with fail
 generalize ((w.alloc (.cells #[.slice s0 l.length cap] 43)).alloc (.cells #[.slice none 0 0,.slice none 0 0] 27))=w1 at *;generalize hA:w.heap.size+1=RB at *;have hB:=zh hA;clear hA;obtain ⟨PB,ha⟩:∃x,x=w.heap.size:=⟨_,rfl⟩
 rw [←ha] at h4 ⊢;have H:=zh ha;clear ha;generalize kr:bT l=q at *;obtain ⟨ce,ca⟩:=q;dsimp only at Hs HU HT HS HR Hp;have p0:w1.cell? ⟨PB,0,none⟩=some (.slice s0 l.length cap):=aa h4.o (j:=0) rfl;go_wp2_with fail
 refine Hs.o.mono ?_;rintro e w2 ⟨rfl,hT⟩;clear p0 Hs;replace J:=zh ((hT.block _ (ae J.o)).trans J.o);replace h4:=zh ((hT.block _ (ae h4.o)).trans h4.o);replace hi:=zh (hi.o.trans (hT.mono hi.o.size));clear hT;have H2:=ae J.o;have h6:=ae h4.o;by_cases hz:ce=0
 ·subst hz
  have HO:Hd (OutW w.heap.size PB RB w2.heap.size (w2.heap.size+2) (w2.heap.size+1) (.slice s0 l.length cap) l w (((w2.alloc (.cells #[.slice none 0 0,.slice none 0 0] 27)).alloc (.map #[] 0)).alloc (.cells #[.slice none 0 0,.map (some (w2.heap.size+1))] 56)) ([],[])):=zh (vj HL.o kd.o hi.o h4.o J.o);go_upto_region 6 with fail
  clear R;generalize (((w2.alloc (.cells #[.slice none 0 0,.slice none 0 0] 27)).alloc (.map #[] 0)).alloc (.cells #[.slice none 0 0,.map (some (w2.heap.size+1))] 56))=w3 at *;generalize w2.heap.size+2=TB at *;generalize w2.heap.size+1=NB at *;generalize w2.heap.size=MOB at *;clear h4 J hi H2 h6;rw [←H.o] at HO;have p0:w3.cell? ⟨PB,0,none⟩=some (.slice s0 l.length cap):=aa HO.o.pb (j:=0) rfl;go_wp2_with fail
  clear p0;go_loopg [30] l.length (fun g t30 wr=>∃i:Nat,i+g=l.length∧t30=.int .i64 (i:Int)∧OutW PB PB RB MOB TB NB (.slice s0 l.length cap) l w wr (bA l (l.take i) ([],[])))
  case atStart=>exact ⟨0,Nat.zero_add _,rfl,by rw [List.take_zero,bA];exact HO.o⟩
  case round =>
   clear HO;obtain ⟨wo,HY⟩:∃x,x=wr:=⟨_,rfl⟩
   subst HY;obtain ⟨i,kp,rfl,HC⟩:=hrel;have HO:=zh HC;clear HC;by_cases hx:i<l.length
   ·have g1:(i:Int)<(l.length:Int):=by omega
    have g3:(0:Int)≤(i:Int):=by omega
    obtain ⟨b,off,h5,E,ks,h2⟩:=Hi.o (by omega);subst h5;have d:=kk.o i hx;obtain ⟨s1,c1,s2,c2,Hc⟩:=me d;rw [Hc] at d;have h9:∀j,j<5→wo.cell? ⟨b,off+i * 5+j,none⟩=(cs i)[j]?:=fun j hj=>(HO.o.old.cell (p:=⟨b,_,none⟩) (by rw [H.o];exact E)).trans (h2 i hx j hj);rw [Hc] at h9;have x0:wo.cell? ⟨b,off+i * 5,none⟩=some (.string (l.getD i default).name):=h9 0 (by decide);have x1:wo.cell? ⟨b,off+i * 5+1,none⟩=some (.slice s1 (l.getD i default).params.length c1):=h9 1 (by decide);have x2:wo.cell? ⟨b,off+i * 5+2,none⟩=some (.int .i64 (l.getD i default).result):=h9 2 (by decide);have x3:wo.cell? ⟨b,off+i * 5+3,none⟩=some (.slice s2 (l.getD i default).body.length c2):=h9 3 (by decide);have x4:wo.cell? ⟨b,off+i * 5+4,none⟩=some (.int .i64 (l.getD i default).pos):=h9 4 (by decide);have HQ:=zh ((Hp.o (by simp)).2 _ (fU default hx));have hV:Hd ((bA l (l.take i) ([],[])).2.length≤2048∧bY (l.getD i default).body≤2048∧(l.getD i default).params.length≤16):=zh (by have q1:=hZ l (l.take i) ([],[]);have q2:=oA l i hx;have q3:=kc.o;have q4:=HQ.o.2;unfold szF at q2;dsimp only [List.length_nil] at q1;exact ⟨by omega,by omega,q4⟩);have hG:Hd ((bA l (l.take i) ([],[])).1.length≤2048):=zh (by have q1:=jC l (l.take i) ([],[]);have q2:=(Hp.o (by simp)).1;have q3:=List.length_take_le i l;dsimp only [List.length_nil] at q1;omega);have hU:=zh (lH l (l.take i) (l.getD i default) ([],[]));rw [←gP default l i hx] at hU;generalize l.getD i default=f at *;generalize bA l (l.take i) ([],[])=p at *;obtain ⟨cds,txs⟩:=p;dsimp only at hV hU hG;obtain ⟨ho,hq⟩:=yz d;have Hh:=zh ho;have Hj:=zh hq;clear ho hq d h9 Hc h2;obtain ⟨fa,HB⟩:∃x:Array Value,x=#[.string f.name,.slice s1 f.params.length c1,.int .i64 f.result,.slice s2 f.body.length c2,.int .i64 f.pos]:=⟨_,rfl⟩
    have kv:=zh HB;clear HB;have p0:wo.cell? ⟨PB,0,none⟩=some (.slice (some ⟨b,off,none⟩) l.length cap):=aa HO.o.pb (j:=0) rfl;have h6:=ae HO.o.pb;have R:=@run_makeMap Tryz.prog;have HP:=zh (uD HO.o #[.string f.name,.slice s1 f.params.length c1,.int .i64 f.result,.slice s2 f.body.length c2,.int .i64 f.pos] f);go_upto_region 12 with fail
    clear R p0 x0 x1 x2 x3 x4 h6;generalize ((((wo.alloc (.cells #[.string f.name,.slice s1 f.params.length c1,.int .i64 f.result,.slice s2 f.body.length c2,.int .i64 f.pos] 60)).alloc (.cells #[.pointer (some ⟨TB,0,none⟩),.slice (some ⟨b,off,none⟩) l.length cap,.slice none 0 0,.int .i64 0] 63)).alloc (.cells #[.string f.name,.slice none 0 0,.int .i64 f.result,.int .i64 0,.slice none 0 0] 40)).alloc (.map #[] 0))=w4 at *;generalize hM:wo.heap.size=M at *;generalize HH:M+3=IB at *;generalize HJ:M+2=CB at *;generalize HG:M+1=MB at *;have kn:=zh (And.intro hM (And.intro HG (And.intro HJ HH)));clear hM HH HJ HG;dsimp only at HP;have f1:w4.cell? ⟨M,1,none⟩=some (.slice s1 f.params.length c1):=aa HP.o.fb (j:=1) rfl;obtain ⟨pcs,⟨ps0,pcap,HZ,H8,hv,H7,z,H4⟩,ht⟩:=Hh.o;injection HZ with hpv1 hpv2 hpv3
    subst hpv1 hpv3;unfold maxLen at hv;have Hy:f.params.length≤9223372036854775807:=by omega
    have hC:=zh z;have Hl:=zh ht;clear hpv2 z ht H4 H7 H8 hv;go_wp2_with fail
    clear f1;go_loopg [48] f.params.length (fun g t48 wq=>∃j:Nat,j+g=f.params.length∧t48=.int .i64 (j:Int)∧ParW PB M MB TB NB M CB IB (.slice (some ⟨b,off,none⟩) l.length cap) l w wo wq f #[.string f.name,.slice s1 f.params.length c1,.int .i64 f.result,.slice s2 f.body.length c2,.int .i64 f.pos] ⟨[],(j:Int),txs⟩ (aF (f.params.take j) ([],0)).1 ((f.params.take j).map (·.2)))
    case atStart=>exact ⟨0,Nat.zero_add _,rfl,by rw [List.take_zero,aF];exact HP.o⟩
    case round =>
     clear HP;obtain ⟨wq,HW⟩:∃x,x=wr:=⟨_,rfl⟩
     subst HW;obtain ⟨j,ko,rfl,Hx⟩:=hrel;have HP:=zh Hx;clear Hx;by_cases Ha:j<f.params.length
     ·have h1:(j:Int)<(f.params.length:Int):=by omega
      have h3:(0:Int)≤(j:Int):=by omega
      obtain ⟨pb,poff,H5,H9,k2,Q⟩:=hC.o (by omega);subst H5;have P:=Hl.o j Ha;unfold rq at P;have hy:∀k,k<2→wq.cell? ⟨pb,poff+j * 2+k,none⟩=(pcs j)[k]?:=fun k hk=>(HP.o.c.old.cell (p:=⟨pb,_,none⟩) (by rw [H.o];exact H9)).trans (Q j Ha k hk);rw [P] at hy;have r:=zh (kG (f.params.take j) (f.params.getD j default) ([],0));have He:=zh (gP default f.params j Ha);rw [←He.o] at r;have HN:Hd ((aF (f.params.take j) ([],0)).2=(j:Int)):=zh (by rw [jd,List.length_take];simp;omega);rw [HN.o] at r;have Hk:Hd (((f.params.take j).map (·.2)).length=j∧j≤16):=zh (by rw [List.length_map,List.length_take];have:=hV.o;omega);have HM:Hd ((f.params.take (j+1)).map (·.2)=(f.params.take j).map (·.2)++[(f.params.getD j default).2]):=zh (by rw [He.o,List.map_append];rfl);generalize f.params.getD j default=q at *;obtain ⟨pn,pt⟩:=q;dsimp only at hy r HM;have y0:wq.cell? ⟨pb,poff+j * 2,none⟩=some (.string pn):=hy 0 (by decide);have y1:wq.cell? ⟨pb,poff+j * 2+1,none⟩=some (.int .i64 pt):=hy 1 (by decide);clear hy P Q He HN;generalize (aF (f.params.take j) ([],0)).1=vw at *;generalize (f.params.take j).map (·.2)=ps at *;go_upto_region 15 with fail
      clear y0 y1;have HX:Hd ((wq.alloc (.cells #[.string pn,.int .i64 pt] 65)).heap[wq.heap.size]?=some (.cells #[.string pn,.int .i64 pt] 65 (0,0))):=zh (am _ _ _ rfl);replace HP:=zh (HP.o.below (ag (Below.refl _ _) (.cells #[.string pn,.int .i64 pt] 65)));generalize (wq.alloc (.cells #[.string pn,.int .i64 pt] 65))=wx at *;generalize wq.heap.size=XB at *;have h5:wx.drew.cell? ⟨XB,0,none⟩=some (.string pn):=aa HX.o (j:=0) rfl;refine wp_region_held (S:=(fun w':World=>w'.cell? ⟨XB,0,none⟩=some (.string pn))) (by kernel_rfl) ?_;refine tkA 0 ?_;refine tkA 1 ?_;refine tkA 2 ?_;refine tkA 3 ?_;clear h5;replace HP:=zh (HP.o.below (aB (Below.refl _ _)));replace HX:Hd (wx.drew.heap[XB]?=some (.cells #[.string pn,.int .i64 pt] 65 (0,0))):=zh HX.o;have hc:=zh (ku PB M MB TB NB _ _ wx.drew HP.o.c.ma (by show (0:Int)≤(j:Int);omega) (by show (j:Int)≤1000000;have:=Hk.o;omega));dsimp only at hc;refine rd1 4 fun K hK=>?_;go_simp;go_at_call 13
      refine hc.o.mono ?_;rintro e wy ⟨rfl,hm,hf⟩;replace HX:=zh (hf.obj HX.o (aH HP.o.c.ma.n.noTy HX.o) (by decide) (by decide) (by decide) (by decide));replace HP:=zh (HP.o.fx hm hf);clear hm hf hc;go_simp;refine hK.out _ _ ?_ (fun hH=>?_)
      ·exact aa HX.o (j:=0) rfl
      clear hK K;try go_simp
      have H3:=(iP HP.o.v pn (j:Int)).1;have kb:Hd (XB≠IB):=zh (fun e=>MapAt.noTy HP.o.v 65 (by rw [←e];exact ⟨_,_,HX.o⟩));have Hz:=(iP HP.o.v pn (j:Int)).2.2;replace HX:=zh (Hz.obj kb.o HX.o);replace HP:=zh (HP.o.put pn (j:Int));clear Hz;generalize gI wy IB pn (.int .i64 (j:Int))=wz at *;refine rd1 5 fun K hK=>?_;go_simp;refine hK.out _ _ ?_ (fun hH=>?_)
      ·exact aa HX.o (j:=0) rfl
      clear hK K H3;refine wpAnyH_done (by kernel_rfl) ?_ _;obtain ⟨pv,F,D⟩:=HP.o.cb;obtain ⟨sp,cp,rfl,_,HD,_,_⟩:=bh D;have z1:wz.cell? ⟨CB,1,none⟩=some (.slice sp ps.length cp):=aa F (j:=1) rfl;have z2:wz.cell? ⟨XB,1,none⟩=some (.int .i64 pt):=aa HX.o (j:=1) rfl;have a:Hd (Below wz.heap.size wz (wz.alloc (.cells #[.int .i64 pt] 38))):=zh (ag (Below.refl _ _) _);have hN:=zh ((a.o.block _ (ae F)).trans F);have Hm:=zh (cS D (Stays.of_below a.o));have hF:=zh (am wz (.cells #[.int .i64 pt] 38) _ rfl);replace HP:=zh (HP.o.below a.o);clear F D;have hI:Hd (some CB≠(Value.slice sp ps.length cp).ownBlock):=zh fun e=>(bD Hm.o e.symm).ne (⟨_,_,hN.o⟩:OfTy _ CB 40) (by decide) rfl;have HI:=zh kS;have Y:M≤(wz.alloc (.cells #[.int .i64 pt] 38)).heap.size:=by have q:=ae hN.o;have:=kn.o;omega
      go_wp2_with (refine wpList_append_lies _ rfl _ _ _ rfl M 38 HI.o.choose (.int .i64 0) 1 8 Tryz.underlying37 HI.o.choose_spec.1 HI.o.choose_spec.2.1 HI.o.choose_spec.2.2.1 HI.o.choose_spec.2.2.2 rfl (by decide) _ ps.length (mG ps) rfl Hm.o ⟨wz.heap.size,0,none⟩ 1 1 [.int .i64 pt] rfl rfl (by intro j u hj;rw [Go.WideShapes.add_plain,Nat.zero_add];exact aa hF.o (by simpa using hj)) (by intro u hu;simp at hu;subst hu;rfl) (by decide) (by have:=Hk.o;unfold maxLen;omega) (by have:=Hk.o;omega) Y _ rfl ?_;intro g9 cp9 w9 C A U T;have q9:=(A.block CB (ae hN.o) hI.o).trans hN.o;have x9:=aa q9 (j:=1) rfl;have v9:=af q9 1;have hD:=zh C;have hL:=zh A;clear C A U T q9)
      replace HP:=zh (HP.o.push hN.o Hm.o hL.o hD.o);rw [←HM.o] at HP;go_roundg (f.params.length-j-1)
      case measure=>omega
      case rel=>exact ⟨j+1,by omega,by go_num,by rw [r.o];exact HP.o⟩
     ·obtain rfl:j=f.params.length:=by omega
      rw [List.take_of_length_le (Nat.le_refl _)] at HP;have kl:Hd (RepSts (fun b=>b<PB) w (.slice s2 f.body.length c2) f.body):=zh (by rw [H.o];exact Hj.o);have Hn:Hd (PB≤IB):=zh (Nat.le_trans HP.o.c.ma.mm HP.o.im);have Ho:=zh (jG PB M MB TB NB (.slice (some ⟨b,off,none⟩) l.length cap) l w f.body (.slice s2 f.body.length c2) kl.o HQ.o.1 wq _ IB _ HP.o.c HP.o.v HP.o.iN Hn.o (by have:=hV.o;unfold nU;dsimp only [List.length_nil];exact ⟨by omega,by omega,by omega,by omega⟩));obtain ⟨sb,hS⟩:∃x,x=(aJ l f.body ((aF f.params ([],0)).1,⟨[],(f.params.length:Int),txs⟩)).2:=⟨_,rfl⟩
      rw [←hS] at Ho;have ke:Hd (sb.ins.length≤100000):=zh (by have q:=aY l f.body (aF f.params ([],0)).1 ⟨[],(f.params.length:Int),txs⟩;rw [←hS] at q;obtain ⟨_,q,_⟩:=q;dsimp only [List.length_nil] at q;have:=hV.o;omega);have hl:=zh (wP l f txs sb hS);clear hS;generalize (aF f.params ([],0)).1=vw at *;have y3:wq.cell? ⟨M,3,none⟩=some (.slice s2 f.body.length c2):=aa HP.o.fb (j:=3) rfl;go_wp2_with fail
      refine Ho.o.mono ?_;rintro e w6 ⟨rfl,hm,hf⟩;replace HP:=zh (HP.o.fx hm hf);clear hm hf y3 Ho;have y2:w6.cell? ⟨M,2,none⟩=some (.int .i64 f.result):=aa HP.o.fb (j:=2) rfl;by_cases hR:f.result=0
      ·have ka:(f.result==0)=true:=beq_iff_eq.2 hR
       have Hg:=zh hR;clear hR;go_wp2_with fail
       refine (aU PB M MB TB NB _ sb 18 0 _ HP.o.c.ma (by have:=ke.o;omega)).mono ?_;rintro e w7 ⟨cl,rfl,_,hm,hf⟩;clear y2;replace HP:=zh (HP.o.fx hm hf);clear hm hf;replace hl:=zh (hl.o (au 18 0 sb) (by rw [if_pos Hg.o]));generalize au 18 0 sb=sf at *;go_upto_region 21 with fail
       generalize H6:f.params.map (·.2)=ps at *;clear H6;obtain ⟨iv,R,h8⟩:=HP.o.c.ma.m;obtain ⟨si,ci,rfl,_,_,_,_⟩:=bh h8;obtain ⟨pv,F,D⟩:=HP.o.cb;obtain ⟨sp,cp,rfl,_,HD,_,_⟩:=bh D;obtain ⟨-,-,m2,m3,-⟩:=css R;have y:Hd (CB≠MB):=zh (OfTy.ne (⟨_,_,F⟩:OfTy _ CB 40) (⟨_,_,R⟩:OfTy _ MB 63) (by decide));have he:=zh (oh (rH HO.o HP.o h8 F D));dsimp only at he;have k3:w7.drew.frozen? ⟨CB,3,none⟩=false:=af F 3;have l3:w7.drew.cell? ⟨CB,3,none⟩=some (.int .i64 0):=aa F (j:=3) rfl;have k4:w7.frozen? ⟨CB,4,none⟩=false:=af F 4;have l4:w7.cell? ⟨CB,4,none⟩=some (.slice none 0 0):=aa F (j:=4) rfl;clear R h8 F D;have h5:w7.drew.cell? ⟨MB,2,none⟩=some (.slice si sf.ins.length ci)∧w7.drew.cell? ⟨MB,3,none⟩=some (.int .i64 sf.slots):=⟨m2,m3⟩
       refine wp_region_held (S:=(fun w':World=>w'.cell? ⟨MB,2,none⟩=some (.slice si sf.ins.length ci)∧w'.cell? ⟨MB,3,none⟩=some (.int .i64 sf.slots))) (by kernel_rfl) ?_;refine tk (v:=?_) 0 (fun w B=>?_) ?_;rotate_left
       ·obtain ⟨G,E⟩:=B;go_simp;try with_reducible rfl
       refine tk (v:=?_) 1 (fun w B=>?_) ?_;rotate_left
       ·obtain ⟨G,E⟩:=B;go_simp;try with_reducible rfl
       refine tk (v:=?_) 2 (fun w B=>?_) ?_;rotate_left
       ·obtain ⟨G,E⟩:=B;go_simp;try with_reducible rfl
       refine tk (v:=?_) 3 (fun w B=>?_) ?_;rotate_left
       ·obtain ⟨G,E⟩:=B;go_simp;try with_reducible rfl
       refine tk (v:=?_) 4 (fun w B=>?_) ?_;rotate_left
       ·obtain ⟨G,E⟩:=B;go_simp;try with_reducible rfl
       refine tk (v:=?_) 5 (fun w B=>?_) ?_;rotate_left
       ·obtain ⟨G,E⟩:=B;go_simp;try with_reducible rfl
       refine tk (v:=?_) 6 (fun w B=>?_) ?_;rotate_left
       ·obtain ⟨G,E⟩:=B;go_simp;try with_reducible rfl
       refine tk (v:=?_) 7 (fun w B=>?_) ?_;rotate_left
       ·obtain ⟨G,E⟩:=B;go_simp;try with_reducible rfl
       refine tk (v:=?_) 8 (fun w B=>?_) ?_;rotate_left
       ·obtain ⟨G,E⟩:=B;go_simp;try with_reducible rfl
       clear h5;refine rd1 9 fun K hK=>?_;go_simp;refine hK.out _ _ ?_ (fun hH=>?_)
       ·exact ⟨(World.cell?_setCell_far _ _ _ _ y.o).trans m2,(World.cell?_setCell_far _ _ _ _ y.o).trans m3⟩
       clear hK K k3 l3;try go_simp
       refine tk (v:=?_) 10 (fun w B=>?_) ?_;rotate_left
       ·obtain ⟨G,E⟩:=B;go_simp;try with_reducible rfl
       refine rd1 11 fun K hK=>?_;go_simp;refine hK.out _ _ ?_ (fun N=>?_)
       ·exact ⟨(World.cell?_setCell_far _ _ _ _ y.o).trans hH.1,(World.cell?_setCell_far _ _ _ _ y.o).trans hH.2⟩
       clear hK K m2 m3 k4 l4 hH N;try go_simp
       refine wpAnyH_done (by kernel_rfl) ?_ _;have Hb:=he.o;generalize ((w7.setCell ⟨CB,3,none⟩ (.int .i64 sf.slots)).setCell ⟨CB,4,none⟩ (.slice si sf.ins.length ci)).drew=w8 at *;obtain ⟨hw,X,V⟩:=Hb;have hd:=zh hw;have hh:=zh X;have hg:=zh V;clear hw X V he;obtain ⟨cv,ccs,I,L,W⟩:=hd.o.cd;dsimp only at L W;obtain ⟨sc,cc,rfl,_,k9,_,_⟩:=bh L;have a0:w8.cell? ⟨MOB,0,none⟩=some (.slice sc cds.length cc):=aa I (j:=0) rfl;obtain ⟨b0,b1,b2,b3,b4,-⟩:=css hh.o;have s:=zh I;have Hr:=zh L;have Ht:=zh W;have a:Hd (Below w8.heap.size w8 (w8.alloc (.cells #[.string f.name,.slice sp ps.length cp,.int .i64 f.result,.int .i64 sf.slots,.slice si sf.ins.length ci] 40))):=zh (ag (Below.refl _ _) _);have O:=zh ((a.o.block _ (ae I)).trans I);have Z:=zh (cS L (Stays.of_below a.o));have hF:=zh (am w8 (.cells #[.string f.name,.slice sp ps.length cp,.int .i64 f.result,.int .i64 sf.slots,.slice si sf.ins.length ci] 40) _ rfl);clear I L W;have hI:Hd (some MOB≠(Value.slice sc cds.length cc).ownBlock):=zh fun e=>(bD Z.o e.symm).ne (⟨_,_,O.o⟩:OfTy _ MOB 27) (by decide) rfl;have HI:=zh wi;have Y:PB≤(w8.alloc (.cells #[.string f.name,.slice sp ps.length cp,.int .i64 f.result,.int .i64 sf.slots,.slice si sf.ins.length ci] 40)).heap.size:=Nat.le_trans hd.o.le a.o.size;go_wp2_with (refine wpList_append_lies _ rfl _ _ _ rfl PB 40 HI.o.choose _ 5 80 Tryz.underlying24 HI.o.choose_spec.1 HI.o.choose_spec.2.1 HI.o.choose_spec.2.2.1 HI.o.choose_spec.2.2.2 rfl (by decide) _ cds.length (dY ccs cds.length) rfl Z.o ⟨w8.heap.size,0,none⟩ 1 1 [.string f.name,.slice sp ps.length cp,.int .i64 f.result,.int .i64 sf.slots,.slice si sf.ins.length ci] rfl rfl (by intro j u hj;rw [Go.WideShapes.add_plain,Nat.zero_add];exact aa hF.o (by simpa using hj)) (by intro u hu;simp at hu;rcases hu with rfl | rfl | rfl | rfl | rfl<;>rfl) (by decide) (by have:=hG.o;unfold maxLen;omega) (by have:=hG.o;omega) Y _ rfl ?_;intro g9 cp9 w9 C A U T;have q9:=(A.block MOB (ae O.o) hI.o).trans O.o;have x9:=aa q9 (j:=0) rfl;have v9:=af q9 0;have hD:=zh C;have hL:=zh A;clear C A U T q9)
       have hE:=zh (pV hd.o s.o Hr.o Ht.o hg.o hL.o hD.o);dsimp only at hE;go_roundg (l.length-i-1)
       case measure=>omega
       case rel=>exact ⟨i+1,by omega,by go_num,by rw [hU.o,hl.o];exact hE.o⟩
      ·have ka:(f.result==0)=false:=beq_false_of_ne hR
       have Hg:=zh hR;clear hR;replace hl:=zh (hl.o sb (by rw [if_neg Hg.o]));go_upto_region 21 with fail
       clear y2;generalize H6:f.params.map (·.2)=ps at *;clear H6;obtain ⟨iv,R,h8⟩:=HP.o.c.ma.m;obtain ⟨si,ci,rfl,_,_,_,_⟩:=bh h8;obtain ⟨pv,F,D⟩:=HP.o.cb;obtain ⟨sp,cp,rfl,_,HD,_,_⟩:=bh D;obtain ⟨-,-,m2,m3,-⟩:=css R;have y:Hd (CB≠MB):=zh (OfTy.ne (⟨_,_,F⟩:OfTy _ CB 40) (⟨_,_,R⟩:OfTy _ MB 63) (by decide));have he:=zh (oh (rH HO.o HP.o h8 F D));dsimp only at he;have k3:w6.drew.frozen? ⟨CB,3,none⟩=false:=af F 3;have l3:w6.drew.cell? ⟨CB,3,none⟩=some (.int .i64 0):=aa F (j:=3) rfl;have k4:w6.frozen? ⟨CB,4,none⟩=false:=af F 4;have l4:w6.cell? ⟨CB,4,none⟩=some (.slice none 0 0):=aa F (j:=4) rfl;clear R h8 F D;have h5:w6.drew.cell? ⟨MB,2,none⟩=some (.slice si sb.ins.length ci)∧w6.drew.cell? ⟨MB,3,none⟩=some (.int .i64 sb.slots):=⟨m2,m3⟩
       refine wp_region_held (S:=(fun w':World=>w'.cell? ⟨MB,2,none⟩=some (.slice si sb.ins.length ci)∧w'.cell? ⟨MB,3,none⟩=some (.int .i64 sb.slots))) (by kernel_rfl) ?_;refine tk (v:=?_) 0 (fun w B=>?_) ?_;rotate_left
       ·obtain ⟨G,E⟩:=B;go_simp;try with_reducible rfl
       refine tk (v:=?_) 1 (fun w B=>?_) ?_;rotate_left
       ·obtain ⟨G,E⟩:=B;go_simp;try with_reducible rfl
       refine tk (v:=?_) 2 (fun w B=>?_) ?_;rotate_left
       ·obtain ⟨G,E⟩:=B;go_simp;try with_reducible rfl
       refine tk (v:=?_) 3 (fun w B=>?_) ?_;rotate_left
       ·obtain ⟨G,E⟩:=B;go_simp;try with_reducible rfl
       refine tk (v:=?_) 4 (fun w B=>?_) ?_;rotate_left
       ·obtain ⟨G,E⟩:=B;go_simp;try with_reducible rfl
       refine tk (v:=?_) 5 (fun w B=>?_) ?_;rotate_left
       ·obtain ⟨G,E⟩:=B;go_simp;try with_reducible rfl
       refine tk (v:=?_) 6 (fun w B=>?_) ?_;rotate_left
       ·obtain ⟨G,E⟩:=B;go_simp;try with_reducible rfl
       refine tk (v:=?_) 7 (fun w B=>?_) ?_;rotate_left
       ·obtain ⟨G,E⟩:=B;go_simp;try with_reducible rfl
       refine tk (v:=?_) 8 (fun w B=>?_) ?_;rotate_left
       ·obtain ⟨G,E⟩:=B;go_simp;try with_reducible rfl
       clear h5;refine rd1 9 fun K hK=>?_;go_simp;refine hK.out _ _ ?_ (fun hH=>?_)
       ·exact ⟨(World.cell?_setCell_far _ _ _ _ y.o).trans m2,(World.cell?_setCell_far _ _ _ _ y.o).trans m3⟩
       clear hK K k3 l3;try go_simp
       refine tk (v:=?_) 10 (fun w B=>?_) ?_;rotate_left
       ·obtain ⟨G,E⟩:=B;go_simp;try with_reducible rfl
       refine rd1 11 fun K hK=>?_;go_simp;refine hK.out _ _ ?_ (fun N=>?_)
       ·exact ⟨(World.cell?_setCell_far _ _ _ _ y.o).trans hH.1,(World.cell?_setCell_far _ _ _ _ y.o).trans hH.2⟩
       clear hK K m2 m3 k4 l4 hH N;try go_simp
       refine wpAnyH_done (by kernel_rfl) ?_ _;have Hb:=he.o;generalize ((w6.setCell ⟨CB,3,none⟩ (.int .i64 sb.slots)).setCell ⟨CB,4,none⟩ (.slice si sb.ins.length ci)).drew=w8 at *;obtain ⟨hw,X,V⟩:=Hb;have hd:=zh hw;have hh:=zh X;have hg:=zh V;clear hw X V he;obtain ⟨cv,ccs,I,L,W⟩:=hd.o.cd;dsimp only at L W;obtain ⟨sc,cc,rfl,_,k9,_,_⟩:=bh L;have a0:w8.cell? ⟨MOB,0,none⟩=some (.slice sc cds.length cc):=aa I (j:=0) rfl;obtain ⟨b0,b1,b2,b3,b4,-⟩:=css hh.o;have s:=zh I;have Hr:=zh L;have Ht:=zh W;have a:Hd (Below w8.heap.size w8 (w8.alloc (.cells #[.string f.name,.slice sp ps.length cp,.int .i64 f.result,.int .i64 sb.slots,.slice si sb.ins.length ci] 40))):=zh (ag (Below.refl _ _) _);have O:=zh ((a.o.block _ (ae I)).trans I);have Z:=zh (cS L (Stays.of_below a.o));have hF:=zh (am w8 (.cells #[.string f.name,.slice sp ps.length cp,.int .i64 f.result,.int .i64 sb.slots,.slice si sb.ins.length ci] 40) _ rfl);clear I L W;have hI:Hd (some MOB≠(Value.slice sc cds.length cc).ownBlock):=zh fun e=>(bD Z.o e.symm).ne (⟨_,_,O.o⟩:OfTy _ MOB 27) (by decide) rfl;have HI:=zh wi;have Y:PB≤(w8.alloc (.cells #[.string f.name,.slice sp ps.length cp,.int .i64 f.result,.int .i64 sb.slots,.slice si sb.ins.length ci] 40)).heap.size:=Nat.le_trans hd.o.le a.o.size;go_wp2_with (refine wpList_append_lies _ rfl _ _ _ rfl PB 40 HI.o.choose _ 5 80 Tryz.underlying24 HI.o.choose_spec.1 HI.o.choose_spec.2.1 HI.o.choose_spec.2.2.1 HI.o.choose_spec.2.2.2 rfl (by decide) _ cds.length (dY ccs cds.length) rfl Z.o ⟨w8.heap.size,0,none⟩ 1 1 [.string f.name,.slice sp ps.length cp,.int .i64 f.result,.int .i64 sb.slots,.slice si sb.ins.length ci] rfl rfl (by intro j u hj;rw [Go.WideShapes.add_plain,Nat.zero_add];exact aa hF.o (by simpa using hj)) (by intro u hu;simp at hu;rcases hu with rfl | rfl | rfl | rfl | rfl<;>rfl) (by decide) (by have:=hG.o;unfold maxLen;omega) (by have:=hG.o;omega) Y _ rfl ?_;intro g9 cp9 w9 C A U T;have q9:=(A.block MOB (ae O.o) hI.o).trans O.o;have x9:=aa q9 (j:=0) rfl;have v9:=af q9 0;have hD:=zh C;have hL:=zh A;clear C A U T q9)
       have hE:=zh (pV hd.o s.o Hr.o Ht.o hg.o hL.o hD.o);dsimp only at hE;go_roundg (l.length-i-1)
       case measure=>omega
       case rel=>exact ⟨i+1,by omega,by go_num,by rw [hU.o,hl.o];exact hE.o⟩
   ·obtain rfl:i=l.length:=by omega
    rw [List.take_of_length_le (Nat.le_refl _)] at HO;have hX:Hd (da l=⟨(bA l l ([],[])).1,(bA l l ([],[])).2.map dB⟩):=zh rfl;have Hq:=zh (HR.o (by simp));rw [hX.o] at Hq;generalize bA l l ([],[])=p at *;obtain ⟨cds,txs⟩:=p;dsimp only at hX Hq;obtain ⟨cv,ccs,I,L,W⟩:=HO.o.cd;dsimp only at L W;obtain ⟨sc,cc,rfl,_,_,_,_⟩:=bh L;obtain ⟨tv,vs,Hv,hP,H0⟩:=HO.o.tx.t;dsimp only at hP H0;obtain ⟨st,ct,rfl,_,_,_,_⟩:=bh hP;have t0:wo.cell? ⟨TB,0,none⟩=some (.slice st txs.length ct):=aa Hv (j:=0) rfl;have m1:wo.cell? ⟨MOB,1,none⟩=some (.slice none 0 0):=aa I (j:=1) rfl;have k1:wo.frozen? ⟨MOB,1,none⟩=false:=af I 1;have s:Hd ((wo.setCell ⟨MOB,1,none⟩ (.slice st txs.length ct)).heap[MOB]?=some (.cells #[.slice sc cds.length cc,.slice st txs.length ct] 27 (0,0))):=zh (aq I 1 _);have HK:Hd (Keeps (fun t=>t≠27) wo (wo.setCell ⟨MOB,1,none⟩ (.slice st txs.length ct))):=zh (Keeps.set ⟨_,_,I⟩ (fun h=>h rfl) 1 _);have J:Hd ((wo.setCell ⟨MOB,1,none⟩ (.slice st txs.length ct)).heap[RB]?=_):=zh ((aj _ _ _ _ HO.o.bm).trans HO.o.rb);have hO:Hd (Below PB w (wo.setCell ⟨MOB,1,none⟩ (.slice st txs.length ct))):=zh (HO.o.old.setCell (p:=⟨MOB,1,none⟩) HO.o.bb _);have HV:Hd (∀w1 w':World,Keeps (fun t=>t≠27) wo w1→Stays (bO PB) w1 w'→RepMdl w' (.agg #[.slice sc cds.length cc,.slice st txs.length ct]) ⟨cds,txs.map dB⟩):=zh (fun w1 w' hs hQ=>vZ hs hQ L W hP H0 (Nat.le_refl _) Hq.o);clear I L W Hv hP H0 HO;go_upto_region 25 with fail
    clear t0 m1 k1;generalize (wo.setCell ⟨MOB,1,none⟩ (.slice st txs.length ct))=w5 at *;have Hf:=zh (oU (HV.o _ _ HK.o (Stays.refl _ _)));rw [←hX.o] at Hf;obtain ⟨m0,m1,-⟩:=css s.o;go_wp2_with fail
    refine Hf.o.mono ?_;rintro e w6 ⟨rfl,hb⟩;clear m0 m1 Hf;replace s:=zh ((hb.block _ (ae s.o)).trans s.o);replace J:=zh ((hb.block _ (ae J.o)).trans J.o);replace HK:=zh (HK.o.trans (Keeps.below hb));replace hO:=zh (hO.o.trans (hb.mono (by rw [H.o];exact hO.o.size)));clear hb;have hW:Hd (PB≤RB):=zh (by have:=hB.o;have:=H.o;omega);obtain ⟨r0,r1,-⟩:=css J.o;obtain ⟨k0,k1,-⟩:=fzs J.o
    cases hrm:eu (da l)
    ·have HE:=zh (HS.o (by simp) hrm)
     clear hrm;go_wp2_with fail
     refine bodyPost_ret (v:=.tuple #[.agg #[.slice none 0 0,.slice none 0 0],.int .i64 2]) (by simp [results,Tryz.results8,go_sem,r0,r1]) rfl ?_;unfold jh;rw [HE.o];refine ⟨rfl,?_⟩;rw [←H.o];exact (hO.o.setCell (p:=⟨RB,0,none⟩) hW.o _).setCell (p:=⟨RB,1,none⟩) hW.o _
    ·have HE:=zh (HT.o (by simp) hrm)
     clear hrm;obtain ⟨m0,m1,-⟩:=css s.o;go_wp2_with fail
     refine bodyPost_ret (v:=.tuple #[.agg #[.slice sc cds.length cc,.slice st txs.length ct],.int .i64 0]) (by simp [results,Tryz.results8,go_sem,r0,r1]) rfl ?_;unfold jh;rw [HE.o];refine ⟨⟨_,rfl,?_⟩,?_⟩
     ·intro w9 hQ
      rw [hX.o];rw [←H.o] at hQ;exact HV.o _ _ ((HK.o.trans (Keeps.set ⟨_,_,J.o⟩ (fun h=>h rfl) 0 _)).trans (Keeps.set ⟨_,_,aq J.o 0 _⟩ (fun h=>h rfl) 1 _)) hQ
     ·rw [←H.o]
      exact (hO.o.setCell (p:=⟨RB,0,none⟩) hW.o _).setCell (p:=⟨RB,1,none⟩) hW.o _
 ·have r0:w2.cell? ⟨RB,0,none⟩=some (.slice none 0 0):=aa J.o (j:=0) rfl
  have r1:w2.cell? ⟨RB,1,none⟩=some (.slice none 0 0):=aa J.o (j:=1) rfl;obtain ⟨k0,k1,-⟩:=fzs J.o;have k6:(ce !=0)=true:=bne_iff_ne.2 hz;have ki:=zh hz;clear hz;go_wp2_with fail
  refine bodyPost_ret (v:=.tuple #[.agg #[.slice none 0 0,.slice none 0 0],.int .i64 ce]) (by simp [results,Tryz.results8,go_sem,r0,r1]) rfl ?_;have e:=HU.o ki.o;have Hu:w.heap.size≤RB:=by have:=hB.o;omega
  unfold jh;rw [e];exact ⟨rfl,(hi.o.setCell (p:=⟨RB,0,none⟩) Hu _).setCell (p:=⟨RB,1,none⟩) Hu _⟩
end
end Go.Proofs.YtmlgbkomdhcaoaaGreatDoor
