/-
  EvalLoops: part 34 of its proof: see the last text.
-/
import Derived.Test.YthgcpfkochikfaaGreatPq22
import Derived.KernelRfl
set_option maxRecDepth 100000
set_option maxHeartbeats 16000000
namespace Go.Proofs.YthgcpfkochikfaaGreat
section
open Go.RowKit
def bK (r:Rst) (n:Int):Rst:={ r with used:=r.used+n }
theorem aZ (r:Rst) (a b:Int):bK (bK r a) b=bK r (a+b):=by unfold bK;simp [Int.add_assoc]
theorem dQ (r:Rst) (n:Int):(bK r n).used=r.used+n:=rfl
theorem eQ (r:Rst) (n:Int):(bK r n).lim=r.lim:=rfl
theorem dY {n:Int} {r:Rst} (h:r.used+n≤r.lim):dv n r=.ok () (bK r n):=if_pos (show n≤r.lim-r.used by omega)
theorem aN {α β:Type} {m:RM α} {f:α→RM β} {r q:Rst} {a:α} (h:m r=.ok a q):m.then f r=f a q:=by unfold RM.then;rw [h]
theorem dc {α β:Type} {m:RM α} {f:α→RM β} {r q:Rst} {t:Int} (h:m r=.trap t q):m.then f r=.trap t q:=by unfold RM.then;rw [h]
section
variable {call:bU} {σ:List Sc} {r q s:Rst} {x y:Ex} {a b:Vv}
theorem nY (n:Int) (t:ByteArray) (ks:List Ex) (p:Int) (h:r.used+1≤r.lim):bS call σ (.mk 1 n t ks p) r=.ok (aB n) (bK r 1):=by
 rw [bS,aN (dY h)];rfl
theorem eM (n:Int) (t:ByteArray) (ks:List Ex) (p:Int) (h:r.used+1≤r.lim):bS call σ (.mk 4 n t ks p) r=.ok (fY σ t) (bK r 1):=by
 rw [bS,aN (dY h)];rfl
theorem od (n:Int) (t:ByteArray) (ks:List Ex) (p:Int) (h:r.used+1≤r.lim) (hx:bS call σ x (bK r 1)=.ok a q) (hy:bS call σ y q=.ok b s) (h1:t.toList≠kq) (h2:t.toList≠cOr) (h3:¬(t.toList=[43]∧a.ty=3)) :
    bS call σ (.mk 6 n t (x :: y :: ks) p) r=bX (cQ t.toList a b) s:=by
 rw [bS,aN (dY h)]
 have e:iA call σ t (x :: y :: ks) (bK r 1)=bX (cQ t.toList a b) s:=by
  rw [iA,aN hx,if_neg (by simp [jk,h1,h2]),aN hy];unfold gN;rw [if_neg (by simp [h1,h2]),if_neg h3];rfl
 exact e
theorem Bh:bw call σ [] r=.ok [] r:=by rw [bw];rfl
theorem hY (h:bS call σ x r=.ok a q):bw call σ [x] r=.ok [a] q:=by
 rw [bw,aN h,aN Bh];rfl
theorem un (h:bS call σ x r=.ok a q) (g:bS call σ y q=.ok b s):bw call σ [x,y] r=.ok [a,b] s:=by
 rw [bw,aN h,aN (hY g)];rfl
theorem tA (t:ByteArray) (b e:List St) (p:Int) (h:r.used+1≤r.lim) (hx:bS call σ x (bK r 1)=.ok a q):bV call (.mk 5 t [x] b e p) σ r=.ok (some a,σ) q:=by
 rw [bV,aN (dY h),aN (hY hx)];rfl
theorem sW:aF call [] σ r=.ok (none,σ) r:=by rw [aF];rfl
theorem mG {z:St} {l:List St} {v:Vv} {σ':List Sc} (h:bV call z σ r=.ok (some v,σ') q):aF call (z :: l) σ r=.ok (some v,σ') q:=by
 rw [aF,aN h];rfl
theorem jM {z:St} {l:List St} {σ':List Sc} (h:bV call z σ r=.ok (none,σ') q):aF call (z :: l) σ r=aF call l σ' q:=by
 rw [aF,aN h];rfl
theorem pW {z:St} {l:List St} {t:Int} (h:bV call z σ r=.trap t q):aF call (z :: l) σ r=.trap t q:=by
 rw [aF,dc h]
end
def nA:ByteArray:=⟨#[97]⟩
def nB:ByteArray:=⟨#[98]⟩
def nS:ByteArray:=⟨#[115]⟩
def nI:ByteArray:=⟨#[105]⟩
def nF:ByteArray:=⟨#[102]⟩
def nN:ByteArray:=⟨#[110]⟩
def jh:St:=.mk 2 nS [.mk 6 0 ⟨#[43]⟩ [.mk 4 0 nS [] 60,.mk 4 0 nI [] 64] 62] [] [] 56
def loopFn:Fn:=⟨nF,[(nA,1),(nB,1)],1,[.mk 1 nS [.mk 1 0 ⟨#[]⟩ [] 36] [] [] 28,.mk 4 nI [.mk 4 0 nA [] 47,.mk 4 0 nB [] 52] [jh] [] 39,.mk 5 ⟨#[]⟩ [.mk 4 0 nS [] 76] [] [] 69],0⟩
def dh:Nat→Int→Int
 | 0,_=>0
 | n+1,i=>i+dh n (i+1)
def scL (a b s:Int):List Sc:=[[(nA,aB a),(nB,aB b),(nS,aB s)]]
def scI (i a b s:Int):List Sc:=[(nI,aB i)] :: scL a b s
theorem Bm (i a b s:Int):fY (scI i a b s) nS=aB s:=by
 have h1:gL [(nI,aB i)] nS=false:=rfl;unfold scI scL fY;rw [if_neg (by rw [h1];decide)];rfl
theorem C9 (i a b s:Int):fY (scI i a b s) nI=aB i:=by
 have h1:gL [(nI,aB i)] nI=true:=rfl;unfold scI scL fY;rw [if_pos h1];rfl
theorem zS (i a b s t:Int):nC (scI i a b s) nS (aB t)=scI i a b t:=by
 have h1:gL [(nI,aB i)] nS=false:=rfl;unfold scI scL nC;rw [if_neg (by rw [h1];decide)];rfl
theorem eX:(⟨#[43]⟩:ByteArray).toList=[43]:=by kernel_rfl
theorem uy {a b:Int} (h1:-9223372036854775808≤a+b) (h2:a+b≤9223372036854775807):cQ [43] (aB a) (aB b)=(aB (a+b),0):=by
 have e:cQ [43] (aB a) (aB b)=inV (a+b):=rfl;rw [e];unfold inV;rw [if_pos ⟨h1,h2⟩]
theorem wH (call:bU) {i a b s:Int} {r:Rst} (h:r.used+4≤r.lim) (h1:-9223372036854775808≤s+i) (h2:s+i≤9223372036854775807) :
    inM [(nI,aB i)] (aF call [jh]) (scL a b s) r=.ok (none,scL a b (s+i)) (bK r 4):=by
 have e0:bS call (scI i a b s) (.mk 6 0 ⟨#[43]⟩ [.mk 4 0 nS [] 60,.mk 4 0 nI [] 64] 62) (bK r 1)=.ok (aB (s+i)) (bK r 4):=by
  rw [od 0 ⟨#[43]⟩ [] 62 (by simp only [dQ,eQ];omega) (eM 0 nS [] 60 (by simp only [dQ,eQ];omega)) (eM 0 nI [] 64 (by simp only [dQ,eQ];omega)) (by rw [eX];decide) (by rw [eX];decide) (by rw [Bm];exact fun q=>absurd q.2 (show (1:Int)≠3 by decide)),Bm,C9];rw [eX,uy h1 h2,aZ,aZ,aZ];rfl
 have e1:bV call jh (scI i a b s) r=.ok (none,scI i a b (s+i)) (bK r 4):=by
  unfold jh;rw [bV,aN (dY (by omega)),aN (hY e0),←zS i a b s (s+i)];rfl
 have e2:aF call [jh] (scI i a b s) r=.ok (none,scI i a b (s+i)) (bK r 4):=by rw [jM e1,sW]
 have e3:inM [(nI,aB i)] (aF call [jh]) (scL a b s) r=((aF call [jh] (scI i a b s)).then fun p=>okM (p.1,p.2.tail)) r:=rfl;rw [e3,aN e2];rfl
theorem tC:∀(n:Nat) (i:Int),-1000≤i→i+n≤1000→-1000*(n:Int)≤dh n i∧dh n i≤1000*(n:Int)
 | 0,_,_,_=>by simp [dh]
 | n+1,i,h1,h2=>by
  have:=tC n (i+1) (by omega) (by omega);rw [dh];omega
theorem ya (call:bU) {a b:Int} (n:Nat):∀(i s:Int) (r:Rst),-1000≤i→i+n≤1000→-1000000+1000*(n:Int)≤s→s≤1000000-1000*(n:Int)→r.used+5*n≤r.lim →
    fF (fun i=>inM [(nI,aB i)] (aF call [jh])) n i (scL a b s) r=.ok (none,scL a b (s+dh n i)) (bK r (5*n)):=by
 induction n with
 | zero =>
  intro i s r _ _ _ _ _;have e:s+dh 0 i=s:=by simp [dh]
  have e2:bK r (5*((0:Nat):Int))=r:=by unfold bK;simp
  rw [fF,e,e2];rfl
 | succ n ih =>
  intro i s r h1 h2 h3 h4 h5;rw [fF,aN (dY (by omega)),aN (wH call (by simp only [dQ,eQ];omega) (by omega) (by omega))];have e:∀(σ:List Sc) (q:Rst),(if (none:Option Vv).isSome=true then okM (none,σ) else fF (fun i=>inM [(nI,aB i)] (aF call [jh])) n (i+1) σ) q=fF (fun i=>inM [(nI,aB i)] (aF call [jh])) n (i+1) σ q:=fun σ q=>rfl;rw [e,ih (i+1) (s+i) _ (by omega) (by omega) (by omega) (by omega) (by simp only [dQ,eQ];omega),aZ,aZ,dh];have e1:s+i+dh n (i+1)=s+(i+dh n (i+1)):=by omega
  have e2:1+(4+5*(n:Int))=5*((n+1:Nat):Int):=by omega
  rw [e1,e2]
theorem vx {a b:Int} (ha:-128≤a∧a≤127) (hb:-128≤b∧b≤127) :
    bA [loopFn] nF [aB a,aB b] 10000 ⟨[],[]⟩=(⟨aB (dh (b-a).toNat a),0,7+5*((b-a).toNat:Int)⟩,⟨[],[]⟩):=by
 have hc:(bL [loopFn]).1=0:=by kernel_rfl
 have hn:(((b-a).toNat:Nat):Int)≤255:=by omega
 have hs:=tC (b-a).toNat a (by omega) (by omega);have hf:eO [aB a,aB b] loopFn.params=true:=rfl;have hl:=ya (aE [loopFn] 15) (a:=a) (b:=b) (b-a).toNat a 0 (bK ⟨10000,0,[],[]⟩ 5) (by omega) (by omega) (by omega) (by omega) (by simp only [dQ,eQ];omega);have e1:bV (aE [loopFn] 15) (.mk 1 nS [.mk 1 0 ⟨#[]⟩ [] 36] [] [] 28) [dg loopFn.params [aB a,aB b] []] ⟨10000,0,[],[]⟩=.ok (none,scL a b 0) (bK ⟨10000,0,[],[]⟩ 2):=rfl
 have e2:bV (aE [loopFn] 15) (.mk 4 nI [.mk 4 0 nA [] 47,.mk 4 0 nB [] 52] [jh] [] 39) (scL a b 0) (bK ⟨10000,0,[],[]⟩ 2)=.ok (none,scL a b (0+dh (b-a).toNat a)) (bK (bK ⟨10000,0,[],[]⟩ 5) (5*((b-a).toNat:Int))):=by
  rw [←hl];rfl
 have e3:bV (aE [loopFn] 15) (.mk 5 ⟨#[]⟩ [.mk 4 0 nS [] 76] [] [] 69) (scL a b (0+dh (b-a).toNat a)) (bK (bK ⟨10000,0,[],[]⟩ 5) (5*((b-a).toNat:Int)))=.ok (some (aB (0+dh (b-a).toNat a)),scL a b (0+dh (b-a).toNat a)) (bK (bK (bK (bK ⟨10000,0,[],[]⟩ 5) (5*((b-a).toNat:Int))) 1) 1):=by
  refine tA _ _ _ _ (by simp only [dQ,eQ];omega) ?_;exact eM 0 nS [] 76 (by simp only [dQ,eQ];omega)
 have e4:aE [loopFn] 16 nF [aB a,aB b] ⟨10000,0,[],[]⟩=.ok (aB (dh (b-a).toNat a)) (bK ⟨10000,0,[],[]⟩ (7+5*((b-a).toNat:Int))):=by
  rw [aE];unfold tO;have ef:cE [loopFn] nF=some loopFn:=rfl;rw [ef]
  have e5:aF (aE [loopFn] 15) loopFn.body [dg loopFn.params [aB a,aB b] []] ⟨10000,0,[],[]⟩=.ok (some (aB (0+dh (b-a).toNat a)),scL a b (0+dh (b-a).toNat a)) (bK ⟨10000,0,[],[]⟩ (7+5*((b-a).toNat:Int))):=by
   unfold loopFn at e1 e2 e3 ⊢;rw [jM e1,jM e2,mG e3];simp only [aZ]
   have q:5+5*((b-a).toNat:Int)+1+1=7+5*((b-a).toNat:Int):=by omega
   rw [q]
  dsimp only;rw [aN e5];have q:0+dh (b-a).toNat a=dh (b-a).toNat a:=by omega
  rw [q];rfl
 unfold bA;have ef:cE [loopFn] nF=some loopFn:=rfl;rw [if_neg (by rw [hc];decide),ef];dsimp only;rw [if_pos hf];have em:max 0 (min (10000:Int) 100000)=10000:=rfl;rw [em,e4];simp [bK]
end
end Go.Proofs.YthgcpfkochikfaaGreat
