/-
  Runs of some programs, in plain words: a call of itself, a sign, keys that are kept.
-/
import Derived.Test.YthgcpfkochikfaaGreatPq34
set_option maxRecDepth 100000
set_option maxHeartbeats 16000000
namespace Go.Proofs.YthgcpfkochikfaaGreat
section
open Go.RowKit
def kh:St:=.mk 3 ⟨#[]⟩ [.mk 6 0 ⟨#[61,61]⟩ [.mk 4 0 nN [] 23,.mk 1 0 ⟨#[]⟩ [] 28] 25] [.mk 5 ⟨#[]⟩ [.mk 1 0 ⟨#[]⟩ [] 39] [] [] 32] [] 20
def jI:St:=.mk 5 ⟨#[]⟩ [.mk 6 0 ⟨#[43]⟩ [.mk 1 1 ⟨#[]⟩ [] 51,.mk 5 0 nF [.mk 6 0 ⟨#[45]⟩ [.mk 4 0 nN [] 57,.mk 1 1 ⟨#[]⟩ [] 61] 59] 55] 53] [] [] 44
def deepFn:Fn:=⟨nF,[(nN,1)],1,[kh,jI],0⟩
theorem mf:(⟨#[61,61]⟩:ByteArray).toList=[61,61]:=by kernel_rfl
theorem kK:(⟨#[45]⟩:ByteArray).toList=[45]:=by kernel_rfl
def scN (n:Int):List Sc:=[[(nN,aB n)]]
theorem uA (n:Int):¬(aB n).ty=3:=show ¬(1:Int)=3 by decide
theorem du {r:Rst} {a b:Int} (h:r.used+(a+b)≤r.lim):(bK r a).used+b≤(bK r a).lim:=by simp only [dQ,eQ];omega
section
variable {call:bU} {r q:Rst} {n:Int}
theorem oq (h:r.used+3≤r.lim):bS call (scN n) (.mk 6 0 ⟨#[61,61]⟩ [.mk 4 0 nN [] 23,.mk 1 0 ⟨#[]⟩ [] 28] 25) r=.ok (a8 (decide (n=0))) (bK r 3):=by
 rw [od 0 ⟨#[61,61]⟩ [] 25 (by omega) (eM 0 nN [] 23 (du (by omega))) (nY 0 ⟨#[]⟩ [] 28 (by simp only [aZ];exact du (by omega))) (by rw [mf];decide) (by rw [mf];decide) (by rw [mf];exact fun q=>absurd q.1 (by decide)),mf,aZ,aZ];rfl
theorem wg (h:r.used+6≤r.lim) (hn:n=0):bV call kh (scN n) r=.ok (some (aB 0),scN n) (bK r 6):=by
 unfold kh;rw [bV,aN (dY (by omega)),aN (hY (oq (du (by omega))))];have e:decide (n=0)=true:=by rw [hn];rfl
 rw [e,aZ]
 have e2:aF call [.mk 5 ⟨#[]⟩ [.mk 1 0 ⟨#[]⟩ [] 39] [] [] 32] ([] :: scN n) (bK r (1+3))=.ok (some (aB 0),[] :: scN n) (bK r 6):=by
  rw [mG (tA _ _ _ _ (du (by omega)) (nY 0 ⟨#[]⟩ [] 39 (by simp only [aZ];exact du (by omega)))),aZ,aZ];rfl
 have e3:inM [] (aF call [.mk 5 ⟨#[]⟩ [.mk 1 0 ⟨#[]⟩ [] 39] [] [] 32]) (scN n) (bK r (1+3))=.ok (some (aB 0),scN n) (bK r 6):=by
  unfold inM;rw [aN e2];rfl
 rw [←e3];rfl
theorem oX (h:r.used+4≤r.lim) (hn:n≠0):bV call kh (scN n) r=.ok (none,scN n) (bK r 4):=by
 unfold kh;rw [bV,aN (dY (by omega)),aN (hY (oq (du (by omega))))];have e:decide (n=0)=false:=by simp [hn]
 rw [e,aZ]
 have e3:inM [] (aF call []) (scN n) (bK r (1+3))=.ok (none,scN n) (bK r 4):=by
  unfold inM;rw [aN sW];rfl
 rw [←e3];rfl
theorem yS (h:r.used+3≤r.lim) (h1:-9223372036854775808≤n-1) (h2:n-1≤9223372036854775807):bS call (scN n) (.mk 6 0 ⟨#[45]⟩ [.mk 4 0 nN [] 57,.mk 1 1 ⟨#[]⟩ [] 61] 59) r=.ok (aB (n-1)) (bK r 3):=by
 rw [od 0 ⟨#[45]⟩ [] 59 (by omega) (eM 0 nN [] 57 (du (by omega))) (nY 1 ⟨#[]⟩ [] 61 (by simp only [aZ];exact du (by omega))) (by rw [kK];decide) (by rw [kK];decide) (by rw [kK];exact fun q=>absurd q.1 (by decide)),kK,aZ,aZ];have e:cQ [45] (fY (scN n) nN) (aB 1)=inV (n-1):=rfl;rw [e];unfold inV;rw [if_pos ⟨h1,h2⟩];rfl
theorem oZ (h:r.used+4≤r.lim) (h1:-9223372036854775808≤n-1) (h2:n-1≤9223372036854775807):bS call (scN n) (.mk 5 0 nF [.mk 6 0 ⟨#[45]⟩ [.mk 4 0 nN [] 57,.mk 1 1 ⟨#[]⟩ [] 61] 59] 55) r=call nF [aB (n-1)] (bK r 4):=by
 rw [bS,aN (dY (by omega))];have e:=hY (yS (call:=call) (r:=bK r 1) (du (by omega)) h1 h2);rw [aZ] at e
 have e2:(bw call (scN n) [.mk 6 0 ⟨#[45]⟩ [.mk 4 0 nN [] 57,.mk 1 1 ⟨#[]⟩ [] 61] 59]).then (fun vs=>jx call 5 nF vs) (bK r 1)=call nF [aB (n-1)] (bK r 4):=by
  rw [aN e];rfl
 rw [←e2];rfl
theorem rV {m:Int} (h:r.used+7≤r.lim) (h1:0≤n-1) (h2:n-1≤1000) (h3:0≤m) (h4:m≤1000) (hc:call nF [aB (n-1)] (bK r 7)=.ok (aB m) q):bV call jI (scN n) r=.ok (some (aB (1+m)),scN n) q:=by
 refine tA _ _ _ _ (by omega) ?_;rw [od 0 ⟨#[43]⟩ [] 53 (du (by omega)) (nY 1 ⟨#[]⟩ [] 51 (by simp only [aZ];exact du (by omega))) (by rw [aZ,aZ,oZ (du (by omega)) (by omega) (by omega),aZ];exact hc) (by rw [eX];decide) (by rw [eX];decide) (fun q=>uA _ q.2),eX,uy (by omega) (by omega)];rfl
theorem qv {t:Int} (h:r.used+7≤r.lim) (h1:0≤n-1) (h2:n-1≤1000) (hc:call nF [aB (n-1)] (bK r 7)=.trap t q):bV call jI (scN n) r=.trap t q:=by
 unfold jI;rw [bV,aN (dY (by omega))]
 have e:bS call (scN n) (.mk 6 0 ⟨#[43]⟩ [.mk 1 1 ⟨#[]⟩ [] 51,.mk 5 0 nF [.mk 6 0 ⟨#[45]⟩ [.mk 4 0 nN [] 57,.mk 1 1 ⟨#[]⟩ [] 61] 59] 55] 53) (bK r 1)=.trap t q:=by
  rw [bS,aN (dY (du (by omega)))]
  have e2:iA call (scN n) ⟨#[43]⟩ [.mk 1 1 ⟨#[]⟩ [] 51,.mk 5 0 nF [.mk 6 0 ⟨#[45]⟩ [.mk 4 0 nN [] 57,.mk 1 1 ⟨#[]⟩ [] 61] 59] 55] (bK (bK r 1) 1)=.trap t q:=by
   rw [iA,aN (nY 1 ⟨#[]⟩ [] 51 (by simp only [aZ];exact du (by omega)))];rw [if_neg (by rw [eX];decide)];refine dc ?_;rw [aZ,aZ,oZ (du (by omega)) (by omega) (by omega),aZ];exact hc
  exact e2
 have e3:bw call (scN n) [.mk 6 0 ⟨#[43]⟩ [.mk 1 1 ⟨#[]⟩ [] 51,.mk 5 0 nF [.mk 6 0 ⟨#[45]⟩ [.mk 4 0 nN [] 57,.mk 1 1 ⟨#[]⟩ [] 61] 59] 55] 53] (bK r 1)=.trap t q:=by
  rw [bw];exact dc e
 exact dc e3
end
theorem mE (k:Nat) (n:Int) (r:Rst):aE [deepFn] (k+1) nF [aB n] r=((aF (aE [deepFn] k) [kh,jI] (scN n)).then fun p=>okM (p.1.getD noV)) r:=by
 rw [aE];unfold tO;have ef:cE [deepFn] nF=some deepFn:=rfl;rw [ef];rfl
theorem xG (n:Nat) (hn:n≤500):∀(k:Nat) (r:Rst),n<k→r.used+(11*(n:Int)+6)≤r.lim→aE [deepFn] k nF [aB n] r=.ok (aB n) (bK r (11*(n:Int)+6)):=by
 induction n with
 | zero =>
  intro k r hk h;obtain ⟨k,rfl⟩:∃j,k=j+1:=⟨k-1,by omega⟩
  rw [mE,aN (mG (wg (n:=((0:Nat):Int)) (r:=r) (by omega) rfl))];rfl
 | succ n ih =>
  intro k r hk h;obtain ⟨k,rfl⟩:∃j,k=j+1:=⟨k-1,by omega⟩
  have A:((n+1:Nat):Int)≠0:=by omega
  have e1:=oX (call:=aE [deepFn] k) (r:=r) (n:=((n+1:Nat):Int)) (by omega) A;have e2:=ih (by omega) k (bK r 11) (by omega) (du (by omega));have e3:((n+1:Nat):Int)-1=n:=by omega
  have e4:=rV (call:=aE [deepFn] k) (r:=bK r 4) (n:=((n+1:Nat):Int)) (m:=n) (du (by omega)) (by omega) (by omega) (by omega) (by omega) (by rw [e3,aZ];exact e2);have e5:aF (aE [deepFn] k) [kh,jI] (scN ((n+1:Nat):Int)) r=.ok (some (aB (1+n)),scN ((n+1:Nat):Int)) (bK (bK r 11) (11*(n:Int)+6)):=by rw [jM e1,mG e4]
  rw [mE,aN e5,aZ];have q1:(1:Int)+n=((n+1:Nat):Int):=by omega
  have q2:11+(11*(n:Int)+6)=11*((n+1:Nat):Int)+6:=by omega
  rw [q1,q2];rfl
theorem za (k:Nat):∀(n:Nat) (r:Rst),k≤n→n≤500→r.used+11*(k:Int)≤r.lim→∃q,aE [deepFn] k nF [aB n] r=.trap 4 q:=by
 induction k with
 | zero=>intro n r _ _ _;exact ⟨r,rfl⟩
 | succ k ih =>
  intro n r hk hn h;obtain ⟨n,rfl⟩:∃j,n=j+1:=⟨n-1,by omega⟩
  have A:((n+1:Nat):Int)≠0:=by omega
  have e1:=oX (call:=aE [deepFn] k) (r:=r) (n:=((n+1:Nat):Int)) (by omega) A;obtain ⟨q,e2⟩:=ih n (bK r 11) (by omega) (by omega) (du (by omega));have e3:((n+1:Nat):Int)-1=n:=by omega
  have e4:=qv (call:=aE [deepFn] k) (r:=bK r 4) (n:=((n+1:Nat):Int)) (du (by omega)) (by omega) (by omega) (by rw [e3,aZ];exact e2);exact ⟨q,by rw [mE,dc (by rw [jM e1,pW e4])]⟩
theorem vH (n:Nat) (hn:n≤255):∃u,bA [deepFn] nF [aB n] 10000 ⟨[],[]⟩=if n<16 then (⟨aB n,0,u⟩,⟨[],[]⟩) else (⟨noV,4,u⟩,⟨[],[]⟩):=by
 have hc:(bL [deepFn]).1=0:=by kernel_rfl
 have hf:eO [aB n] deepFn.params=true:=rfl;have ef:cE [deepFn] nF=some deepFn:=rfl;unfold bA;rw [if_neg (by rw [hc];decide),ef];dsimp only;rw [if_pos hf];have em:max 0 (min (10000:Int) 100000)=10000:=rfl;rw [em];by_cases h:n<16
 ·simp only [if_pos h]
  rw [xG n (by omega) 16 _ h (by simp only;omega)];exact ⟨_,rfl⟩
 ·obtain ⟨q,e⟩:=za 16 n ⟨10000,0,[],[]⟩ (by omega) (by omega) (by simp only;omega)
  simp only [if_neg h]
  rw [e];exact ⟨_,rfl⟩
theorem nO {p:Vv×Int} {r:Rst} (h:p.2=0):bX p r=.ok p.1 r:=if_pos h
theorem mw {p:Vv×Int} {r:Rst} (h:¬p.2=0):bX p r=.trap p.2 r:=if_neg h
theorem yi {s:List UInt8} {a b:Int} (h:(cQ s (aB a) (aB b)).2≠0):(cQ s (aB a) (aB b)).1=noV:=by
 have e:cQ s (aB a) (aB b)=eH s a b:=rfl;rw [e] at h ⊢;unfold eH inV ju at h ⊢;repeat' split
 all_goals simp_all
def hJ (s:ByteArray):Fn:=⟨nF,[(nA,1),(nB,1)],1,[.mk 5 ⟨#[]⟩ [.mk 6 0 s [.mk 4 0 nA [] 35,.mk 4 0 nB [] 39] 37] [] [] 28],0⟩
theorem CX {s:ByteArray} {c:UInt8} (hs:s.toList=[c]) (a b:Int) (hc:(bL [hJ s]).1=0) :
    bA [hJ s] nF [aB a,aB b] 100 ⟨[],[]⟩=(⟨(cQ [c] (aB a) (aB b)).1,(cQ [c] (aB a) (aB b)).2,4⟩,⟨[],[]⟩):=by
 have hf:eO [aB a,aB b] (hJ s).params=true:=rfl;have ef:cE [hJ s] nF=some (hJ s):=rfl;unfold bA;rw [if_neg (by rw [hc];decide),ef];dsimp only;rw [if_pos hf];have em:max 0 (min (100:Int) 100000)=100:=rfl
 have e0:∀call:bU,bS call [[(nA,aB a),(nB,aB b)]] (.mk 6 0 s [.mk 4 0 nA [] 35,.mk 4 0 nB [] 39] 37) ⟨100,1,[],[]⟩=bX (cQ [c] (aB a) (aB b)) ⟨100,4,[],[]⟩:=fun call=>by
  have g:fY [[(nA,aB a),(nB,aB b)]] nA=aB a:=rfl;rw [od 0 s [] 37 (by decide) (eM 0 nA [] 35 (by decide)) (eM 0 nB [] 39 (by decide)) (by rw [hs];simp [kq]) (by rw [hs];simp [cOr]) (fun q=>by rw [g] at q;exact uA _ q.2),hs];rfl
 have e1:∀call:bU,bV call (.mk 5 ⟨#[]⟩ [.mk 6 0 s [.mk 4 0 nA [] 35,.mk 4 0 nB [] 39] 37] [] [] 28) [[(nA,aB a),(nB,aB b)]] ⟨100,0,[],[]⟩=((bX (cQ [c] (aB a) (aB b))).then fun v=>okM (some v,[[(nA,aB a),(nB,aB b)]])) ⟨100,4,[],[]⟩:=fun call=>by
  rw [bV,aN (dY (by decide))];have e2:bS call [[(nA,aB a),(nB,aB b)]] (.mk 6 0 s [.mk 4 0 nA [] 35,.mk 4 0 nB [] 39] 37) (bK ⟨100,0,[],[]⟩ 1)=bX (cQ [c] (aB a) (aB b)) ⟨100,4,[],[]⟩:=e0 call;by_cases h:(cQ [c] (aB a) (aB b)).2=0
  ·rw [nO h] at e2
   rw [aN (hY e2),aN (nO h)];rfl
  ·rw [mw h] at e2
   rw [dc (mw h)]
   have e3:bw call [[(nA,aB a),(nB,aB b)]] [.mk 6 0 s [.mk 4 0 nA [] 35,.mk 4 0 nB [] 39] 37] (bK ⟨100,0,[],[]⟩ 1)=.trap (cQ [c] (aB a) (aB b)).2 ⟨100,4,[],[]⟩:=by
    rw [bw];exact dc e2
   exact dc e3
 have e4:aE [hJ s] 16 nF [aB a,aB b] ⟨100,0,[],[]⟩=((aF (aE [hJ s] 15) [.mk 5 ⟨#[]⟩ [.mk 6 0 s [.mk 4 0 nA [] 35,.mk 4 0 nB [] 39] 37] [] [] 28] [[(nA,aB a),(nB,aB b)]]).then fun p=>okM (p.1.getD noV)) ⟨100,0,[],[]⟩:=rfl;rw [em,e4];by_cases h:(cQ [c] (aB a) (aB b)).2=0
 ·have e5:=e1 (aE [hJ s] 15)
  rw [aN (nO h)] at e5;rw [aN (mG e5),h];rfl
 ·have e5:=e1 (aE [hJ s] 15)
  rw [dc (mw h)] at e5;rw [dc (pW e5),yi h]
end
end Go.Proofs.YthgcpfkochikfaaGreat
