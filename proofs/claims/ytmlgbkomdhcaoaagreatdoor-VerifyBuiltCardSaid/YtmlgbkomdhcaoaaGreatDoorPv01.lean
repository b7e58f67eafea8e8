/-
  VerifyBuilt: part 1 of its proof: see the last text.
-/
import Derived.Test.YtmlgbkomdhcaoaaGreatDoorPv00
set_option maxRecDepth 100000
set_option maxHeartbeats 16000000
namespace Go.Proofs.YtmlgbkomdhcaoaaGreatDoor
section
open Go.RowKit
structure Ins where
 op:Int
 a:Int
structure Cd where
 name:ByteArray
 params:List Int
 result:Int
 slots:Int
 ins:List Ins
structure Mdl where
 codes:List Cd
 texts:List (List Int)
instance:Inhabited Ins:=⟨⟨0,0⟩⟩
instance:Inhabited Cd:=⟨⟨ByteArray.empty,[],0,0,[]⟩⟩
def i64 (x:Int):Prop:=-9223372036854775808≤x∧x≤9223372036854775807
def big (n:Nat):Prop:=n≤1152921504606846976
def gY (n:Nat):Prop:=n≤9223372036854775807
def RepTys (w:World) (v:Value) (l:List Int):Prop:=
 ∃s0 cap,v=.slice s0 l.length cap∧big l.length∧l.length≤cap∧gY cap∧(s0=none→cap=0)∧RowTy w s0 l.length (fun i=>.int .i64 (l.getD i 0))∧∀i,i64 (l.getD i 0)
def RepIns (w:World) (v:Value) (l:List Ins):Prop:=
 ∃s0 cap,v=.slice s0 l.length cap∧big l.length∧l.length≤cap∧gY cap∧(s0=none→cap=0)∧RowIn w s0 l.length (fun i=>.int .i64 (l.getD i default).op) (fun i=>.int .i64 (l.getD i default).a)∧∀i,i64 (l.getD i default).op∧i64 (l.getD i default).a
structure RepCd (w:World) (v0 v1 v2 v3 v4:Value) (c:Cd):Prop where
 name:v0=.string c.name
 nameLen:big c.name.size
 params:RepTys w v1 c.params
 result:v2=.int .i64 c.result
 slots:v3=.int .i64 c.slots
 ins:RepIns w v4 c.ins
 r1:i64 c.result
 r2:i64 c.slots
def RepCds (w:World) (v:Value) (l:List Cd):Prop:=
 ∃s0 cap c0 c1 c2 c3 c4,v=.slice s0 l.length cap∧big l.length∧l.length≤cap∧gY cap∧(s0=none→cap=0)∧RowCd w s0 l.length c0 c1 c2 c3 c4∧∀i,i<l.length→RepCd w (c0 i) (c1 i) (c2 i) (c3 i) (c4 i) (l.getD i default)
def RepBytes (w:World) (v:Value) (l:List Int):Prop:=
 ∃s0 cap,v=.slice s0 l.length cap∧big l.length∧l.length≤cap∧gY cap∧(s0=none→cap=0)∧(0<l.length→∃b off,s0=some ⟨b,off,none⟩∧b<w.heap.size∧∀i,i<l.length→w.cell? ⟨b,off+i,none⟩=some (.int .u8 (l.getD i 0)))∧∀i,0≤l.getD i 0∧l.getD i 0≤255
def RepTexts (w:World) (v:Value) (l:List (List Int)):Prop:=
 ∃s0 cap c0,v=.slice s0 l.length cap∧big l.length∧l.length≤cap∧gY cap∧(s0=none→cap=0)∧RowBy w s0 l.length c0∧∀i,i<l.length→RepBytes w (c0 i) (l.getD i [])
def RepMdl (w:World) (v:Value) (m:Mdl):Prop:=∃v0 v1,v=.agg #[v0,v1]∧RepCds w v0 m.codes∧RepTexts w v1 m.texts
theorem RepTys.later {w w':World} {v:Value} {l:List Int} (h:RepTys w v l) (hb:Below w.heap.size w w'):RepTys w' v l:=by
 obtain ⟨s0,cap,h1,h2,C,B,A,h3,h4⟩:=h;exact ⟨s0,cap,h1,h2,C,B,A,h3.later hb,h4⟩
theorem RepIns.later {w w':World} {v:Value} {l:List Ins} (h:RepIns w v l) (hb:Below w.heap.size w w'):RepIns w' v l:=by
 obtain ⟨s0,cap,h1,h2,C,B,A,h3,h4⟩:=h;exact ⟨s0,cap,h1,h2,C,B,A,h3.later hb,h4⟩
theorem RepCd.later {w w':World} {v0 v1 v2 v3 v4:Value} {c:Cd} (h:RepCd w v0 v1 v2 v3 v4 c) (hb:Below w.heap.size w w'):RepCd w' v0 v1 v2 v3 v4 c:=
 ⟨h.name,h.nameLen,h.params.later hb,h.result,h.slots,h.ins.later hb,h.r1,h.r2⟩
theorem RepCds.later {w w':World} {v:Value} {l:List Cd} (h:RepCds w v l) (hb:Below w.heap.size w w'):RepCds w' v l:=by
 obtain ⟨s0,cap,c0,c1,c2,c3,c4,h1,h2,C,B,A,h3,h4⟩:=h;exact ⟨s0,cap,c0,c1,c2,c3,c4,h1,h2,C,B,A,h3.later hb,fun i hi=>(h4 i hi).later hb⟩
theorem RepBytes.later {w w':World} {v:Value} {l:List Int} (h:RepBytes w v l) (hb:Below w.heap.size w w'):RepBytes w' v l:=by
 obtain ⟨s0,cap,h1,h2,C,B,A,h3,h4⟩:=h;refine ⟨s0,cap,h1,h2,C,B,A,fun h0=>?_,h4⟩;obtain ⟨b,off,h5,h6,h7⟩:=h3 h0;exact ⟨b,off,h5,Nat.lt_of_lt_of_le h6 hb.size,fun i hi=>(aM hb b _ h6).trans (h7 i hi)⟩
theorem RepTexts.later {w w':World} {v:Value} {l:List (List Int)} (h:RepTexts w v l) (hb:Below w.heap.size w w'):RepTexts w' v l:=by
 obtain ⟨s0,cap,c0,h1,h2,C,B,A,h3,h4⟩:=h;exact ⟨s0,cap,c0,h1,h2,C,B,A,h3.later hb,fun i hi=>(h4 i hi).later hb⟩
theorem RepMdl.later {w w':World} {v:Value} {m:Mdl} (h:RepMdl w v m) (hb:Below w.heap.size w w'):RepMdl w' v m:=by
 obtain ⟨v0,v1,h1,h2,h3⟩:=h;exact ⟨v0,v1,h1,h2.later hb,h3.later hb⟩
def fW (t:Int):Bool:=decide (1≤t∧t≤3)
def opB (i:Ins):Bool:=decide (1≤i.op∧i.op≤18)
def fJ (c:Cd):Bool:=
 decide (c.name.size≤16)&&decide (c.params.length≤16)&&gN (fun i=>fW (c.params.getD i 0)) c.params.length&&(decide (c.result=0) || fW c.result) &&
  decide ((c.params.length:Int)≤c.slots)&&decide (c.slots≤256)&&decide (c.ins.length≤16384)&&gN (fun i=>opB (c.ins.getD i default)) c.ins.length
def eu (m:Mdl):Bool:=
 decide (m.codes.length≤64)&&decide (m.texts.length≤1024)&&gN (fun i=>decide ((m.texts.getD i []).length≤64)) m.texts.length&&gN (fun i=>fJ (m.codes.getD i default)) m.codes.length
theorem uw (t:Int) (w:World) :
    Calls Tryz.prog 21 #[.int .i64 t] w fun e w'=>e=.returned (.bool (fW t))∧Below w.heap.size w w':=by
 go_enter Tryz.func21,Tryz.ntmps21
 go_wp2
 all_goals
  go_ret
  refine ⟨cg ?_,Below.refl _ _⟩;unfold fW;rw [Bool.eq_iff_iff];simp
  try omega
theorem xN (t:Int) (w:World) :
    Calls Tryz.prog 21 #[.int .i64 t] w fun e w'=>e=.returned (.bool (fW t))∧w=w':=by
 go_enter Tryz.func21,Tryz.ntmps21
 go_wp2
 all_goals
  go_ret
  refine ⟨cg ?_,rfl⟩;unfold fW;rw [Bool.eq_iff_iff];simp
  try omega
theorem zF (o a:Int) (w:World) :
    Calls Tryz.prog 23 #[.agg #[.int .i64 o,.int .i64 a]] w fun e w'=>e=.returned (.bool (opB ⟨o,a⟩))∧Below w.heap.size w w':=by
 go_enter Tryz.func23,Tryz.ntmps23
 go_wp2
 all_goals
  go_ret
  refine ⟨cg ?_,ag (Below.refl _ _) _⟩;unfold opB;rw [Bool.eq_iff_iff];simp
  try omega
theorem xj (s0:Option Addr) (n cap:Nat) (w:World) (hn:n≤9223372036854775807) :
    Calls Tryz.prog 17 #[.slice s0 n cap] w fun e w'=>e=.returned (.bool (decide (n≤64)))∧Below w.heap.size w w':=by
 go_enter Tryz.func17,Tryz.ntmps17
 go_wp2
 all_goals
  go_ret
  refine ⟨cg ?_,Below.refl _ _⟩;rw [Bool.eq_iff_iff];simp
  try omega
theorem qr {w:World} {v0 v1 v2 v3 v4:Value} {c:Cd} (hc:RepCd w v0 v1 v2 v3 v4 c) :
    Calls Tryz.prog 19 #[.agg #[v0,v1,v2,v3,v4]] w fun e w'=>e=.returned (.bool (fJ c))∧Below w.heap.size w w':=by
 obtain ⟨rfl,L,hp,rfl,rfl,A,I,H⟩:=hc;obtain ⟨s1,cap1,rfl,K,_,_,_,C,J⟩:=hp;obtain ⟨s4,cap4,rfl,O,_,_,_,D,N⟩:=A;unfold big at L K O;unfold i64 at I H;have F:Below w.heap.size w (w.alloc (Obj.cells #[.string c.name,.slice s1 c.params.length cap1,.int .i64 c.result,.int .i64 c.slots,.slice s4 c.ins.length cap4] 40)):=ag (Below.refl _ _) _;have K1:=zh (fun W (hW:Below w.heap.size w W)=>yQ s1 c.params.length cap1 _ (fun i=>fW (c.params.getD i 0)) W (by omega) (C.later hW) (fun i _ W1 _=>uw _ W1));have K2:=zh (fun W (hW:Below w.heap.size w W)=>yU s4 c.ins.length cap4 _ _ (fun i=>opB (c.ins.getD i default)) W (by omega) (D.later hW) (fun i _ W1 _=>zF _ _ W1))
 have R:Hd (fJ c=(decide (c.name.size≤16)&&decide (c.params.length≤16)&&gN (fun i=>fW (c.params.getD i 0)) c.params.length&&(decide (c.result=0) || fW c.result) &&
   decide ((c.params.length:Int)≤c.slots)&&decide (c.slots≤256)&&decide (c.ins.length≤16384)&&gN (fun i=>opB (c.ins.getD i default)) c.ins.length)):=zh rfl
 have G:=zh F;clear C J D N F;generalize gN (fun i=>fW (c.params.getD i 0)) c.params.length=t1 at *;generalize gN (fun i=>opB (c.ins.getD i default)) c.ins.length=t2 at *;generalize fJ c=rc at *;generalize c.params.length=n1 at *;generalize c.ins.length=n4 at *;generalize c.name=nm at *;generalize c.result=rs at *;generalize c.slots=sl at *
 cases t1
 all_goals
  cases t2
  all_goals
   go_enter Tryz.func19,Tryz.ntmps19
   go_wp2_with (first | (go_at_call 20;refine (K1.o _ G.o).mono ?_;rintro e w1 ⟨rfl,B⟩;obtain ⟨U,T,S⟩:=tH B;have E:=ay G.o B;have M:w.heap.size<w1.heap.size:=by have:=B.size;simp at this;omega) | (go_at_call 21;refine (xN _ _).mono ?_;rintro e w2 ⟨rfl,rfl⟩) | (go_at_call 22;refine (K2.o _ E).mono ?_;rintro e w3 ⟨rfl,Q⟩;have P:=ay E Q))
   all_goals
    go_ret
    refine ⟨cg ?_,?_⟩
    ·rw [R.o]
     unfold fW at *;rw [Bool.eq_iff_iff];simp at *
     try omega
    ·repeat (first | exact Below.refl _ _ | assumption | refine ag ?_ _ | refine ay ?_ (by assumption))
theorem oU {w:World} {v:Value} {m:Mdl} (hm:RepMdl w v m) :
    Calls Tryz.prog 9 #[v] w fun e w'=>e=.returned (.bool (eu m))∧Below w.heap.size w w':=by
 obtain ⟨v0,v1,rfl,h0,h1⟩:=hm;obtain ⟨s0,cap0,c0,c1,c2,c3,c4,rfl,n0,_,_,_,r0,rc⟩:=h0;obtain ⟨s1,cap1,d0,rfl,n1,_,_,_,r1,rt⟩:=h1;unfold big at n0 n1;have D:Hd (∀W,W=w.alloc (Obj.cells #[.slice s0 m.codes.length cap0,.slice s1 m.texts.length cap1] 27)→Below w.heap.size w W):=zh (fun W hW=>by rw [hW];exact ag (Below.refl _ _) _)
 have K1:=zh (fun W (hW:Below w.heap.size w W)=>yV s1 m.texts.length cap1 d0 (fun i=>decide ((m.texts.getD i []).length≤64)) W (by omega) (r1.later hW) (fun i hi W1 C=>by
   obtain ⟨a,cp,h1,h2,_⟩:=rt i hi;rw [h1];unfold big at h2;exact xj a _ cp W1 (by omega)))
 have K2:=zh (fun W (hW:Below w.heap.size w W)=>ym s0 m.codes.length cap0 c0 c1 c2 c3 c4 (fun i=>fJ (m.codes.getD i default)) W (by omega) (r0.later hW) (fun i hi W1 C=>qr ((rc i hi).later (ay hW C))));have H:Hd (eu m=(decide (m.codes.length≤64)&&decide (m.texts.length≤1024)&&gN (fun i=>decide ((m.texts.getD i []).length≤64)) m.texts.length&&gN (fun i=>fJ (m.codes.getD i default)) m.codes.length)):=zh rfl;clear r0 rc r1 rt;generalize gN (fun i=>decide ((m.texts.getD i []).length≤64)) m.texts.length=t1 at *;generalize gN (fun i=>fJ (m.codes.getD i default)) m.codes.length=t2 at *;generalize eu m=rm at *;generalize m.codes.length=k0 at *;generalize m.texts.length=k1 at *
 cases t1
 all_goals
  cases t2
  all_goals
   go_enter Tryz.func9,Tryz.ntmps9
   go_wp2_with (first | (go_at_call 16;refine (K1.o _ (D.o _ rfl)).mono ?_;rintro e w1 ⟨rfl,A⟩;obtain ⟨K,J,I⟩:=tH A;have B:=ay (D.o _ rfl) A;have E:w.heap.size<w1.heap.size:=by have:=A.size;simp at this;omega) | (go_at_call 18;refine (K2.o _ B).mono ?_;rintro e w3 ⟨rfl,G⟩;have F:=ay B G))
   all_goals
    go_ret
    refine ⟨cg ?_,?_⟩
    ·rw [H.o]
     rw [Bool.eq_iff_iff];simp at *
     try omega
    ·repeat (first | exact Below.refl _ _ | assumption | refine ag ?_ _ | refine ay ?_ (by assumption))
end
section
open Go.RowKit
def inB (a A:Int):Bool:=decide (0≤a)&&decide (a<A)
def jT (l:List UInt8) (a b:Int):Int:=
 if a=b then
  if l=[43] then (if a=1∨a=3 then a else 0)
  else if l=[45]∨l=[42]∨l=[47]∨l=[37] then (if a=1 then a else 0)
  else if l=[60]∨l=[60,61]∨l=[62]∨l=[62,61] then (if a=1 then 2 else 0)
  else if l=[61,61]∨l=[33,61] then (if 1≤a∧a≤3 then 2 else 0)
  else 0
 else 0
def signRow:List ByteArray:=[⟨#[]⟩,⟨#[43]⟩,⟨#[45]⟩,⟨#[42]⟩,⟨#[47]⟩,⟨#[37]⟩,⟨#[60]⟩,⟨#[60,61]⟩,⟨#[62]⟩,⟨#[62,61]⟩,⟨#[61,61]⟩,⟨#[33,61]⟩,⟨#[33]⟩]
def du (n:Int):ByteArray:=if 0≤n∧n<13 then signRow.getD n.toNat ⟨#[]⟩ else ⟨#[]⟩
def cT (A:Int) (i:Ins):List Int:=if i.op=18 then [] else if i.op=15 then [i.a] else if i.op=16 then [i.a,A+1] else [A+1]
def bN (st A:List Int):Bool:=decide (A.length≤st.length)&&decide (st.drop (st.length-A.length)=A)
def di (st A:List Int):List Int:=if bN st A then st.take (st.length-A.length) else st
structure Sta where
 st:List Int
 sl:Nat→Int
def dS (sl:Nat→Int) (j:Nat) (t:Int):Nat→Int:=fun i=>if i=j then t else sl i
def dH (A B:Int) (i:Ins) (s:Sta):Option Sta:=
 if i.op=2 then some ⟨s.st++[1],s.sl⟩
 else if i.op=3 then (if inB i.a 2 then some ⟨s.st++[2],s.sl⟩ else none)
 else if i.op=4 then (if inB i.a B then some ⟨s.st++[3],s.sl⟩ else none)
 else if i.op=5 then (if inB i.a A&&s.sl i.a.toNat !=0 then some ⟨s.st++[s.sl i.a.toNat],s.sl⟩ else none)
 else if i.op=6 then (if decide (1≤s.st.length)&&inB i.a A then some ⟨s.st.take (s.st.length-1),dS s.sl i.a.toNat (s.st.getD (s.st.length-1) 0)⟩ else none)
 else if 1≤s.st.length then some ⟨s.st.take (s.st.length-1),s.sl⟩ else none
def dL (A:List Int) (s:Sta):Option Sta:=if bN s.st A then some ⟨s.st.take (s.st.length-A.length),s.sl⟩ else none
def eO (t:Int) (s:Sta):Sta:=⟨s.st++[t],s.sl⟩
def sy (a:Int) (s:Sta):Option Sta:=
 if 2≤s.st.length then
  (if jT (du a).toList (s.st.getD (s.st.length-2) 0) (s.st.getD (s.st.length-1) 0)=0 then none
   else some ⟨s.st.take (s.st.length-2)++[jT (du a).toList (s.st.getD (s.st.length-2) 0) (s.st.getD (s.st.length-1) 0)],s.sl⟩)
 else none
def lM (a:Int) (s:Sta):Option Sta:=
 if du a=⟨#[45]⟩ then (dL [1] s).map (eO 1) else if du a=⟨#[33]⟩ then (dL [2] s).map (eO 2) else none
def nJ (m:Mdl) (a:Int) (s:Sta):Option Sta:=
 if inB a m.codes.length then (dL (m.codes.getD a.toNat default).params s).map (fun s=>if (m.codes.getD a.toNat default).result=0 then s else eO (m.codes.getD a.toNat default).result s) else none
def qD (c:Cd) (s:Sta):Option Sta:=
 (if c.result=0 then some s else dL [c.result] s).bind (fun s=>if s.st.length=0 then some s else none)
def aG (c:Cd) (m:Mdl) (i:Ins) (s:Sta):Option Sta:=
 if i.op=1 then (if inB i.a 100001 then some s else none)
 else if i.op=2∨i.op=3∨i.op=4∨i.op=5∨i.op=6∨i.op=17 then dH c.slots m.texts.length i s
 else if i.op=7 then sy i.a s
 else if i.op=8 then lM i.a s
 else if i.op=9 then (dL [3] s).map (eO 3)
 else if i.op=10 then (dL [3] s).map (eO 2)
 else if i.op=11 then (dL [3] s).map (eO 1)
 else if i.op=12 then dL [3,3] s
 else if i.op=13 then dL [3] s
 else if i.op=14 then nJ m i.a s
 else if i.op=16 then dL [2] s
 else if i.op=18 then qD c s
 else some s
abbrev Tab:=Nat→Option Sta
def upd (t:Tab) (i:Nat) (s:Sta):Tab:=fun j=>if j=i then some s else t j
def de (a b:Nat→Int):Nat→Int:=fun j=>if a j=b j then a j else 0
def gl (a b:Nat→Int):Bool:=(List.range 256).any fun j=>a j !=b j&&a j !=0
def ej (n:Nat) (s:Sta) (tg:Int) (x:Tab×List Nat):Option (Tab×List Nat):=
 if inB tg n then
  match x.1 tg.toNat with
  | none=>some (upd x.1 tg.toNat s,x.2++[tg.toNat])
  | some old=>if old.st=s.st then some (upd x.1 tg.toNat ⟨old.st,de old.sl s.sl⟩,if gl old.sl s.sl then x.2++[tg.toNat] else x.2) else none
 else none
def eJ (n:Nat) (s:Sta):List Int→Tab×List Nat→Option (Tab×List Nat)
 | [],x=>some x
 | t :: r,x=>(ej n s t x).bind (eJ n s r)
def fo (c:Cd) (m:Mdl) (x:Tab×List Nat):(Tab×List Nat) ⊕ Bool:=
 match x.2.getLast? with
 | none=>.inr false
 | some p =>
  match x.1 p with
  | none=>.inr false
  | some s =>
   match aG c m (c.ins.getD p default) s with
   | none=>.inr false
   | some s' =>
    if 2100<s'.st.length then .inr false
    else
     match eJ c.ins.length s' (cT p (c.ins.getD p default)) (x.1,x.2.dropLast) with
     | none=>.inr false
     | some y=>if y.2=[] then .inr true else .inl y
inductive Done (f:Tab×List Nat→(Tab×List Nat) ⊕ Bool):Tab×List Nat→Bool→Prop
 | stop {x b}:f x=.inr b→Done f x b
 | step {x y b}:f x=.inl y→Done f y b→Done f x b
theorem Done.same {f:Tab×List Nat→(Tab×List Nat) ⊕ Bool} {x:Tab×List Nat} {a b:Bool} (h:Done f x a) (g:Done f x b):a=b:=by
 induction h with
 | stop h =>
  cases g with
  | stop g=>rw [h] at g;injection g
  | step g _=>rw [h] at g;cases g
 | step h _ ih =>
  cases g with
  | stop g=>rw [h] at g;cases g
  | step g k=>rw [h] at g;injection g with g;subst g;exact ih k
def jM (c:Cd):Tab:=upd (fun _=>none) 0 ⟨[],fun j=>c.params.getD j 0⟩
def SafeIs (c:Cd) (m:Mdl) (b:Bool):Prop:=if c.ins.length=0 then b=false else Done (fo c m) (jM c,[0]) b
theorem SafeIs.same {c:Cd} {m:Mdl} {a b:Bool} (h:SafeIs c m a) (g:SafeIs c m b):a=b:=by
 unfold SafeIs at h g;split at h
 ·rename_i e;rw [if_pos e] at g;rw [h,g]
 ·rename_i e;rw [if_neg e] at g;exact h.same g
def cnt (f:Nat→Int):Nat→Nat
 | 0=>0
 | m+1=>cnt f m+(if f m=0 then 0 else 1)
theorem xQ (f:Nat→Int) (m:Nat):cnt f m≤m:=by
 induction m with
 | zero=>exact Nat.le_refl _
 | succ m ih=>unfold cnt;split<;>omega
theorem qk {f g:Nat→Int} (m:Nat) (h:∀j,j<m→f j≠0→g j≠0):cnt f m≤cnt g m:=by
 induction m with
 | zero=>exact Nat.le_refl _
 | succ m ih =>
  have h1:=ih (fun j hj=>h j (by omega));have h2:=h m (by omega);unfold cnt;by_cases e:f m=0
  ·rw [if_pos e];split<;>omega
  ·rw [if_neg e,if_neg (h2 e)];omega
theorem Aa {f g:Nat→Int} (m k:Nat) (hk:k<m) (h:∀j,j<m→f j≠0→g j≠0) (h1:f k=0) (h2:g k≠0):cnt f m<cnt g m:=by
 induction m with
 | zero=>omega
 | succ m ih =>
  have h3:=h m (by omega);unfold cnt;by_cases e:k=m
  ·subst e
   have:=qk k (fun j hj=>h j (by omega));rw [if_pos h1,if_neg h2];omega
  ·have:=ih (by omega) (fun j hj=>h j (by omega))
   by_cases e2:f m=0
   ·rw [if_pos e2];split<;>omega
   ·rw [if_neg e2,if_neg (h3 e2)];omega
def one (o:Option Sta):Nat:=match o with
 | none=>257
 | some s=>cnt s.sl 256
def pot (t:Tab):Nat→Nat
 | 0=>0
 | m+1=>pot t m+one (t m)
theorem rC (t:Tab) (i:Nat) (s:Sta) (m:Nat) (h:m≤i):pot (upd t i s) m=pot t m:=by
 induction m with
 | zero=>rfl
 | succ m ih =>
  unfold pot;rw [ih (by omega)];unfold upd;rw [if_neg (by omega)]
theorem tZ (t:Tab) (i:Nat) (s:Sta) (m:Nat) (h:i<m):pot (upd t i s) m+one (t i)=pot t m+one (some s):=by
 induction m with
 | zero=>omega
 | succ m ih =>
  unfold pot;by_cases e:i=m
  ·subst e
   rw [rC t i s i (Nat.le_refl _)];have:upd t i s i=some s:=by unfold upd;rw [if_pos rfl]
   rw [this];omega
  ·have h1:=ih (by omega)
   have h2:upd t i s m=t m:=by unfold upd;rw [if_neg (by omega)]
   rw [h2];omega
def mu (n:Nat) (x:Tab×List Nat):Nat:=pot x.1 n+x.2.length
theorem wR (a b:Nat→Int):cnt (de a b) 256≤cnt a 256:=qk 256 fun j _ h=>by
 unfold de at h;split at h
 ·exact h
 ·exact absurd rfl h
theorem xC {a b:Nat→Int} (h:gl a b=true):cnt (de a b) 256<cnt a 256:=by
 unfold gl at h;obtain ⟨j,hj,h2⟩:=List.any_eq_true.1 h;simp at hj h2
 refine Aa 256 j hj (fun j _ h=>?_) ?_ h2.2
 ·unfold de at h
  split at h
  ·exact h
  ·exact absurd rfl h
 ·unfold de;rw [if_neg h2.1]
theorem kO {n:Nat} {s:Sta} {tg:Int} {x y:Tab×List Nat} (h:ej n s tg x=some y):mu n y≤mu n x:=by
 unfold ej at h;split at h
 ·rename_i B
  have hb:0≤tg∧tg<n:=by simpa [inB] using B
  have A:tg.toNat<n:=by omega
  split at h
  ·rename_i hx
   injection h with h
   subst h;have:=tZ x.1 tg.toNat s n A;rw [hx] at this;have h2:=xQ s.sl 256;unfold mu;simp only [one,List.length_append,List.length_cons,List.length_nil] at *
   omega
  ·rename_i old hx
   split at h
   ·injection h with h
    subst h;have:=tZ x.1 tg.toNat ⟨old.st,de old.sl s.sl⟩ n A;rw [hx] at this;have h2:=wR old.sl s.sl;unfold mu;simp only [one] at *
    split
    ·rename_i hc
     have:=xC hc;simp only [List.length_append,List.length_cons,List.length_nil]
     omega
    ·omega
   ·cases h
 ·cases h
theorem oM {n:Nat} {s:Sta} (l:List Int):∀{x y:Tab×List Nat},eJ n s l x=some y→mu n y≤mu n x:=by
 induction l with
 | nil=>intro x y h;injection h with h;subst h;exact Nat.le_refl _
 | cons t r ih =>
  intro x y h;unfold eJ at h
  cases hq:ej n s t x with
  | none=>rw [hq] at h;cases h
  | some z =>
   rw [hq] at h;exact Nat.le_trans (ih h) (kO hq)
def rg (m:Mdl):Prop:=(∀j,j<m.codes.length→SafeIs (m.codes.getD j default) m true)∧(m.codes.map (·.name)).Nodup
def ff (m:Mdl) (x:Int):Prop:=(eu m=false∧x=111)∨(eu m=true∧((rg m∧x=0)∨(¬rg m∧x=131)))
end
end Go.Proofs.YtmlgbkomdhcaoaaGreatDoor
