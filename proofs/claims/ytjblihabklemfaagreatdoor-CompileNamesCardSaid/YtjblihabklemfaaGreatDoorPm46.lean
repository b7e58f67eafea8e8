/-
  Compile: part 46 of its proof: see the last text.
-/
import Derived.Test.YtjblihabklemfaaGreatDoorPm40
import Derived.Test.YtjblihabklemfaaGreatDoorPm45
import Derived.Test.YtjblihabklemfaaGreatDoorPm43
import Derived.Test.YtjblihabklemfaaGreatDoorPm44
set_option maxRecDepth 100000
set_option maxHeartbeats 16000000
namespace Go.Proofs.YtjblihabklemfaaGreatDoor
section
open Go.RowKit
theorem lb {α : Type} (en : Int) (one : Par α) : ∀ (f : Nat) (first : Bool) (acc : List α) (l : List Tk) (xs : List α) (r : List Tk), dy en one f first acc l = .ok (xs, r) → xs.length ≤ acc.length + f
 | 0, _, _, _, _, _, e => by cases e
 | f + 1, first, acc, l, xs, r, e => by
  unfold dy at e
  split at e
  ·cases e; omega
  ·obtain ⟨_, q, _, e⟩ := aE e
   obtain ⟨x, q2, _, e⟩ := aE e
   have := lb en one f _ _ _ _ _ e
   simp at this
   omega
theorem pq (en : Int) (l : List Tk) (x : Fn) (r : List Tk) (e : ew en l = .ok (x, r)) : x.params.length ≤ l.length + 1 := by
 unfold ew at e
 obtain ⟨_, q1, h1, e⟩ := aE e
 obtain ⟨n, q2, h2, e⟩ := aE e
 obtain ⟨_, q3, h3, e⟩ := aE e
 obtain ⟨ps, q4, h4, e⟩ := aE e
 have a1 := aS _ _ _ _ _ h1
 have a2 := cZ _ _ _ _ h2
 have a3 := aS _ _ _ _ _ h3
 have a4 := lb _ _ _ _ _ _ _ _ h4
 have hx : x.params = ps := by
  split at e
  ·obtain ⟨t, q5, _, e⟩ := aE e
   obtain ⟨b, q6, _, e⟩ := aE e
   cases e
   rfl
  ·obtain ⟨b, q6, _, e⟩ := aE e
   cases e
   rfl
 rw [hx]
 simp at a4
 omega
theorem me (en : Int) (B : Nat) : ∀ (f : Nat) (acc : List Fn) (l : List Tk) (xs : List Fn) (r : List Tk), (∀ x, x ∈ acc → x.params.length ≤ B) → l.length + 1 ≤ B → eD en f acc l = .ok (xs, r) → ∀ x, x ∈ xs → x.params.length ≤ B
 | 0, acc, l, xs, r, ha, hl, e => by cases e; exact ha
 | f + 1, acc, l, xs, r, ha, hl, e => by
  unfold eD at e
  split at e
  ·cases e; exact ha
  ·rename_i tk tr
   obtain ⟨x, q, h1, e⟩ := aE e
   have a1 := iI _ _ _ _ h1
   have a2 := pq _ _ _ _ h1
   refine me en B f _ _ _ _ (fun y hy => ?_) (by omega) e
   rcases List.mem_append.1 hy with hy | hy
   ·exact ha y hy
   ·rw [List.mem_singleton] at hy
    subst hy
    omega
theorem nU {s : List UInt8} {l : List Fn} (h : dk s = .ok l) : ∀ f, f ∈ l → f.params.length ≤ 2049 := by
 unfold dk at h
 split at h
 ·cases h
 ·rename_i tk ht
  have hlen := lZ ht
  split at h
  ·cases h
  ·rename_i x r hp
   cases h
   exact me _ 2049 _ _ _ _ _ (fun x hx => by cases hx) (by omega) hp
theorem nw {s : List UInt8} {er p : Int} (h : dk s = .error (er, p)) : cW s = .error (er, p) := by
 unfold cW
 rw [h]
theorem oS {s : List UInt8} {l : List Fn} {ca : Int} (h : dk s = .ok l) (hq : bw l = (0, ca)) : cW s = .ok l := by
 unfold cW
 rw [h]
 simp [hq]
theorem nD {s : List UInt8} {l : List Fn} {ce ca : Int} (h : dk s = .ok l) (hq : bw l = (ce, ca)) (hz : ¬ ce = 0) : cW s = .error (ce, ca) := by
 unfold cW
 rw [h]
 simp [hq, hz]
theorem kk (s0 : Option Addr) (cap : Nat) (s : List UInt8) (w : World) (hs : SrcAt w s0 s) (hl : s.length ≤ 1152921504606846976) (hc : s.length ≤ cap) :
    Calls Tryz.prog 9 #[.slice s0 s.length cap] w (iw w (cW s)) := by
 have HRB : Hid ((w.alloc (.cells #[.slice none 0 0] 42)).heap[w.heap.size]? = some (.cells #[.slice none 0 0] 42 (0, 0))) := zh (ah _ _ _ rfl)
 have hb1 : Below w.heap.size w (w.alloc (.cells #[.slice none 0 0] 42)) := ae (Below.refl _ _) _
 have HPA := zh (nP s0 cap s _ (hs.later hb1) hl hc)
 have HB := zh hb1
 clear hb1 hs
 generalize hR : cW s = R
 have HR := zh hR.symm
 clear hR
 go_enter Tryz.func9, Tryz.ntmps9
 go_upto_region 1 with fail
 generalize (w.alloc (.cells #[.slice none 0 0] 42)) = w1 at *
 have HW1 : Hid (w.heap.size < w1.heap.size) := zh (ad HRB.out)
 have HSW : Hid (w.heap.size ≤ w1.heap.size) := zh HB.out.size
 generalize hRB : w.heap.size = RB at *
 go_wp2_with fail
 refine HPA.out.mono ?_
 rintro e w2 ⟨hres, hb2⟩
 replace HRB := zh ((hb2.block _ (ad HRB.out)).trans HRB.out)
 have HSZ := zh (Nat.le_of_lt (ad HRB.out))
 replace HB := zh (HB.out.trans (hb2.mono (by rw [← hRB]; exact HB.out.size)))
 have HB12 := zh hb2
 clear hb2
 cases hpt : dk s with
 | error er =>
  obtain ⟨er, p⟩ := er
  rw [hpt] at hres
  obtain ⟨hne, rfl⟩ := hres
  have hne2 : (er == 0) = false := beq_false_of_ne hne
  have HNE := zh hne
  have HPT := zh hpt
  clear hpt
  go_upto_region 2 with fail
  replace HRB : Hid ((w2.alloc (.cells #[.slice none 0 0] 42)).heap[RB]? = _) := zh (au _ _ _ _ HRB.out)
  replace HB : Hid (Below RB w (w2.alloc (.cells #[.slice none 0 0] 42))) := zh (HB.out.trans ((ae (Below.refl _ _) _).mono HSZ.out))
  clear HPA HSZ HB12
  generalize (w2.alloc (.cells #[.slice none 0 0] 42)) = w3 at *
  have HE := zh (HR.out.trans (nw HPT.out))
  have r0 : w3.cell? ⟨RB, 0, none⟩ = some (.slice none 0 0) := aa HRB.out (j := 0) rfl
  have k0 : w3.frozen? ⟨RB, 0, none⟩ = false := ab HRB.out 0
  go_wp2_with fail
  refine bodyPost_ret (v := .tuple #[.agg #[.slice none 0 0], .int .i64 er, .int .i64 p]) (by simp [results, Tryz.results9, go_sem, r0]) rfl ?_
  rw [HE.out]
  exact ⟨⟨HNE.out, rfl⟩, by rw [hRB]; exact HB.out.setCell (p := ⟨RB, 0, none⟩) (Nat.le_refl _) _⟩
 | ok l =>
  rw [hpt] at hres
  obtain ⟨v, rfl, hrep⟩ := hres
  have HPT := zh hpt
  have HREP := zh hrep
  clear hpt hrep
  obtain ⟨sv, nv, cv, rfl⟩ : ∃ s n c, v = .slice s n c := by obtain ⟨cs, ⟨a, b, e, _⟩, _⟩ := HREP.out; exact ⟨_, _, _, e⟩
  go_upto_region 2 with fail
  have hb3 : Below w2.heap.size w2 (w2.alloc (.cells #[.slice sv nv cv] 42)) := ae (Below.refl _ _) _
  have HPB : Hid ((w2.alloc (.cells #[.slice sv nv cv] 42)).heap[w2.heap.size]? = some (.cells #[.slice sv nv cv] 42 (0, 0))) := zh (ah _ _ _ rfl)
  replace HRB := zh ((hb3.block _ (ad HRB.out)).trans HRB.out)
  replace HREP := zh (HREP.out.keep (Stays.of_below hb3))
  replace HB := zh (HB.out.trans (hb3.mono HSZ.out))
  have HSZ3 := zh hb3.size
  clear hb3
  generalize (w2.alloc (.cells #[.slice sv nv cv] 42)) = w3 at *
  generalize w2.heap.size = PB at *
  have HCK := zh (kQ l (fun f hf => Nat.le_trans (nU HPT.out f hf) (by decide)) w3 (.slice sv nv cv) (HREP.out.mono (fun _ _ => trivial)))
  generalize hck : bw l = q at *
  obtain ⟨ce, ca⟩ := q
  have HQ := zh hck
  clear hck
  dsimp only at HCK
  have p0 : w3.cell? ⟨PB, 0, none⟩ = some (.slice sv nv cv) := aa HPB.out (j := 0) rfl
  go_wp2_with fail
  refine HCK.out.mono ?_
  rintro e w4 ⟨rfl, hb4⟩
  clear p0
  replace HRB := zh ((hb4.block _ (ad HRB.out)).trans HRB.out)
  replace HPB := zh ((hb4.block _ (ad HPB.out)).trans HPB.out)
  replace HREP := zh (HREP.out.keep (Stays.of_below hb4))
  replace HB := zh (HB.out.trans (hb4.mono (Nat.le_trans HSZ.out HSZ3.out)))
  have HLT := zh (ad HRB.out)
  clear hb4
  by_cases hz : ce = 0
  ·subst hz
   have HE := zh (HR.out.trans (oS HPT.out HQ.out))
   have p0 : w4.cell? ⟨PB, 0, none⟩ = some (.slice sv nv cv) := aa HPB.out (j := 0) rfl
   have r0 : w4.cell? ⟨RB, 0, none⟩ = some (.slice none 0 0) := aa HRB.out (j := 0) rfl
   have k0 : w4.frozen? ⟨RB, 0, none⟩ = false := ab HRB.out 0
   go_wp2_with fail
   refine bodyPost_ret (v := .tuple #[.agg #[.slice sv nv cv], .int .i64 0, .int .i64 0]) (by simp [results, Tryz.results9, go_sem, r0]) rfl ?_
   rw [HE.out]
   refine ⟨⟨_, rfl, ?_⟩, by rw [hRB]; exact HB.out.setCell (p := ⟨RB, 0, none⟩) (Nat.le_refl _) _⟩
   refine RepFns.mono (S := bA w1.heap.size) (HREP.out.keep (Stays.of_on ((On.refl RB w4).set 0 _) HW1.out)) (fun b hb => by show w.heap.size ≤ b; rw [hRB]; exact Nat.le_trans HSW.out hb)
  have hne2 : (ce == 0) = false := beq_false_of_ne hz
  have HNE := zh hz
  clear hz
  have HE := zh (HR.out.trans (nD HPT.out HQ.out HNE.out))
  have r0 : w4.cell? ⟨RB, 0, none⟩ = some (.slice none 0 0) := aa HRB.out (j := 0) rfl
  have k0 : w4.frozen? ⟨RB, 0, none⟩ = false := ab HRB.out 0
  go_wp2_with fail
  refine bodyPost_ret (v := .tuple #[.agg #[.slice none 0 0], .int .i64 ce, .int .i64 ca]) (by simp [results, Tryz.results9, go_sem, r0]) rfl ?_
  rw [HE.out]
  exact ⟨⟨HNE.out, rfl⟩, by rw [hRB]; exact HB.out.setCell (p := ⟨RB, 0, none⟩) (Nat.le_refl _) _⟩
end
section
open Go.RowKit
theorem hH : ∀ (l : List (ByteArray × Int)) (pos : Int) (v : aV), (cq pos l v).1.1 = 0 → ∀ p, p ∈ l → 1 ≤ p.2 ∧ p.2 ≤ 3
 | [], _, _, _, p, hp => by cases hp
 | q :: l, pos, v, h, p, hp => by
  rw [cq] at h
  split at h
  ·exact absurd h (by simp)
  ·split at h
   ·exact absurd h (by simp)
   ·rename_i h2
    rcases List.mem_cons.1 hp with rfl | hp
    ·omega
    ·exact hH l pos _ h p hp
theorem l7 {l : List Fn} (h : (bw l).1 = 0) : ∀ f, f ∈ l → (∀ p, p ∈ f.params → 1 ≤ p.2 ∧ p.2 ≤ 3) ∧ 0 ≤ f.result ∧ f.result ≤ 3 := by
 unfold bw at h
 by_cases c : 64 < l.length
 ·rw [if_pos c] at h
  exact absurd h (by decide)
 rw [if_neg c] at h
 by_cases d : (cD l []).1.1 ≠ 0
 ·rw [if_pos d] at h
  exact absurd h d
 rw [if_neg d] at h
 intro f hf
 have e := gz h f hf
 unfold dL at e
 dsimp only at e
 by_cases c1 : (cq f.pos f.params []).1.1 ≠ 0
 ·rw [if_pos c1] at e
  exact absurd e c1
 rw [if_neg c1] at e
 by_cases c2 : f.result < 0 ∨ 3 < f.result
 ·rw [if_pos c2] at e
  exact absurd e (by simp)
 exact ⟨hH _ _ _ (by simpa using c1), by omega, by omega⟩
theorem m8 : ∀ {l : List Fn}, ft l → ∀ f, f ∈ l → f.name.size ≤ 64 ∧ dH f.body ∧ ∀ p, p ∈ f.params → p.1.size ≤ 64
 | g :: l, h, f, hf => by
  rw [ft] at h
  rcases List.mem_cons.1 hf with rfl | hf
  ·exact h.1
  ·exact m8 h.2 f hf
theorem iU {F : List Fn} {P : Cd → Prop} : ∀ (l : List Fn) (p : List Cd × List ByteArray), (∀ f, f ∈ l → ∀ T : List ByteArray, (∀ t, t ∈ T → t.size ≤ 64) → T.length ≤ 2048 → (∀ t, t ∈ (cz F f T).2 → t.size ≤ 64) ∧ P (cz F f T).1) → (∀ t, t ∈ p.2 → t.size ≤ 64) → p.2.length + du l ≤ 2048 → (∀ c, c ∈ p.1 → P c) →
    (∀ t, t ∈ (a8 F l p).2 → t.size ≤ 64) ∧ ∀ c, c ∈ (a8 F l p).1 → P c
 | [], p, _, h2, _, h4 => by rw [a8]; exact ⟨h2, h4⟩
 | f :: l, p, h1, h2, h3, h4 => by
  rw [a8]
  rw [du] at h3
  obtain ⟨k1, k2⟩ := h1 f (List.mem_cons_self ..) p.2 h2 (by omega)
  have q := iO F f p.2
  refine iU l _ (fun g hg => h1 g (List.mem_cons_of_mem _ hg)) k1 (by dsimp only; omega) (fun c hc => ?_)
  rcases List.mem_append.1 hc with hc | hc
  ·exact h4 c hc
  ·rw [List.mem_singleton] at hc
   rw [hc]
   exact k2
theorem kz : ∀ {l : List Fn} {f : Fn}, f ∈ l → szF f ≤ du l
 | g :: l, f, hf => by
  rw [du]
  rcases List.mem_cons.1 hf with rfl | hf
  ·omega
  ·have := kz hf; omega
theorem jl {l : List Fn} (h1 : du l ≤ 2048) (h2 : ft l) (h3 : (bw l).1 = 0) : mY (cM l) := by
 have hlen := (dF h3).1
 have hpar := (dF h3).2
 have hcp := l7 h3
 have key := iU (F := l) (P := fun c => big c.name.size ∧ big c.params.length ∧ big c.ins.length ∧ i64 c.result ∧ i64 c.slots ∧ (∀ t, t ∈ c.params → i64 t) ∧ ∀ x, x ∈ c.ins → i64 x.op ∧ i64 x.a) l ([], []) (fun f hf T hT hl => ?_) (fun t ht => by cases ht) (by dsimp only [List.length_nil]; omega) (fun c hc => by cases hc)
 ·have hT := fl l l ([], [])
  have hC := fu l l ([], [])
  dsimp only [List.length_nil] at hT hC
  refine ⟨?_, key.2, ?_, fun t ht => ?_⟩
  ·show big (a8 l l ([], [])).1.length
   unfold big; omega
  ·show big ((a8 l l ([], [])).2.map cI).length
   rw [List.length_map]
   unfold big; omega
  ·obtain ⟨y, hy, rfl⟩ := List.mem_map.1 ht
   have e : (cI y).length = y.size := by unfold cI; rw [List.length_map, ByteArray.toList_eq]; rfl
   have := key.1 y hy
   rw [e]
   unfold big; omega
 ·have hok := m8 h2 f hf
  obtain ⟨g1, g2, g3, g4⟩ := qb (F := l) (by omega) f T hok.2.1 hT (Nat.le_trans (kz hf) h1) hl
  have hp := hpar f hf
  have hc := hcp f hf
  have en : (cz l f T).1.name = f.name ∧ (cz l f T).1.params = f.params.map (·.2) ∧ (cz l f T).1.result = f.result := ⟨rfl, rfl, rfl⟩
  refine ⟨g1, by rw [en.1]; have := hok.1; unfold big; omega, by rw [en.2.1, List.length_map]; have := hp.2; unfold big; omega, by unfold big; omega, by rw [en.2.2]; unfold i64; omega, g3, fun t ht => ?_, g4⟩
  rw [en.2.1] at ht
  obtain ⟨q, hq, rfl⟩ := List.mem_map.1 ht
  have := hc.1 q hq
  unfold i64; omega
def jt (s : List UInt8) : Except (Int × Int) Mdl :=
 match cW s with
 | .error q => .error q
 | .ok l => match dB l with
  | .error er => .error (er, 0)
  | .ok m => .ok m
def eS (s : List UInt8) (w : World) (e : Ending) (w' : World) : Prop :=
 (match jt s with
   | .error (er, p) => e = .returned (.tuple #[.agg #[.slice none 0 0, .slice none 0 0], .int .i64 er, .int .i64 p])
   | .ok m => ∃ v, e = .returned (.tuple #[v, .int .i64 0, .int .i64 0]) ∧ RepMdl w' v m) ∧ Below w.heap.size w w'
theorem RepFns.low {S : Nat → Prop} {w : World} {v : Value} {l : List Fn} (h : RepFns S w v l) : RepFns (fun b => b < w.heap.size) w v l := by
 obtain ⟨cs, h1, h2⟩ := h
 exact ⟨cs, h1.lies.mono (fun _ q => q.2), fun i hi => (h2 i hi).lies.mono (fun _ q => q.2)⟩
theorem oH (s0 : Option Addr) (cap : Nat) (s : List UInt8) (w : World) (hs : SrcAt w s0 s) (hl : s.length ≤ 1152921504606846976) (hc : s.length ≤ cap) (hsig : Signs w) :
    Calls Tryz.prog 8 #[.slice s0 s.length cap] w (eS s w) := by
 have HB : Hid (Below w.heap.size w (w.alloc (.cells #[.slice none 0 0, .slice none 0 0] 27))) := zh (ae (Below.refl _ _) _)
 have HRB : Hid ((w.alloc (.cells #[.slice none 0 0, .slice none 0 0] 27)).heap[w.heap.size]? = some (.cells #[.slice none 0 0, .slice none 0 0] 27 (0, 0))) := zh (ah _ _ _ rfl)
 have HFR := zh (kk s0 cap s _ (hs.later HB.out) hl hc)
 have HSG := zh (hsig.below HB.out hsig.lt)
 have HGD : Hid (∀ l, cW s = .ok l → du l ≤ 2048 ∧ ft l ∧ (bw l).1 = 0) := zh (fun l h => jI h)
 have HE : Hid (jt s = match cW s with | .error q => .error q | .ok l => match dB l with | .error er => .error (er, 0) | .ok m => .ok m) := zh rfl
 clear hs hsig
 generalize cW s = R at *
 go_enter Tryz.func8, Tryz.ntmps8
 go_upto_region 1 with fail
 generalize (w.alloc (.cells #[.slice none 0 0, .slice none 0 0] 27)) = w1 at *
 obtain ⟨RB, hRE⟩ : ∃ x, x = w.heap.size := ⟨_, rfl⟩
 rw [← hRE] at HRB ⊢
 have HRE := zh hRE
 clear hRE
 cases R with
 | error q =>
  obtain ⟨er, pos⟩ := q
  go_wp2_with fail
  refine HFR.out.mono ?_
  rintro e w2 ⟨⟨hne, rfl⟩, hb⟩
  replace HRB := zh ((hb.block _ (ad HRB.out)).trans HRB.out)
  replace HB := zh (HB.out.trans (hb.mono HB.out.size))
  have hne2 : (er != 0) = true := bne_iff_ne.2 hne
  clear hb hne
  go_upto_region 2 with fail
  have hb : Below w2.heap.size w2 (w2.alloc (.cells #[.slice none 0 0] 42)) := ae (Below.refl _ _) _
  replace HRB := zh ((hb.block _ (ad HRB.out)).trans HRB.out)
  replace HB := zh (HB.out.trans (hb.mono HB.out.size))
  clear hb
  generalize (w2.alloc (.cells #[.slice none 0 0] 42)) = w3 at *
  obtain ⟨r0, r1, -⟩ := css HRB.out
  obtain ⟨k0, k1, -⟩ := fzs HRB.out
  go_wp2_with fail
  refine bodyPost_ret (v := .tuple #[.agg #[.slice none 0 0, .slice none 0 0], .int .i64 er, .int .i64 pos]) (by simp [results, Tryz.results8, go_sem, r0, r1]) rfl ?_
  unfold eS
  rw [HE.out]
  refine ⟨rfl, ?_⟩
  exact (HB.out.setCell (p := ⟨RB, 0, none⟩) (by rw [HRE.out]; exact Nat.le_refl _) _).setCell (p := ⟨RB, 1, none⟩) (by rw [HRE.out]; exact Nat.le_refl _) _
 | ok l =>
  obtain ⟨g1, g2, g3⟩ := HGD.out l rfl
  have HG := zh (And.intro g1 (And.intro (fun f hf => Nat.le_trans ((dF g3).2 f hf).2 (by decide) : ∀ f, f ∈ l → f.params.length ≤ 100000) (jl g1 g2 g3)))
  clear g1 g2 g3 HGD
  go_wp2_with fail
  refine HFR.out.mono ?_
  rintro e w2 ⟨⟨v, rfl, hrep⟩, hb⟩
  have HREP := zh hrep
  obtain ⟨cs, ⟨s1, c1, rfl, _⟩, _⟩ := hrep
  replace HRB := zh ((hb.block _ (ad HRB.out)).trans HRB.out)
  replace HSG := zh (HSG.out.below hb HSG.out.lt)
  replace HB := zh (HB.out.trans (hb.mono HB.out.size))
  clear hb HFR
  go_upto_region 4 with fail
  have hb : Below w2.heap.size w2 (w2.alloc (.cells #[.slice s1 l.length c1] 42)) := ae (Below.refl _ _) _
  replace HRB := zh ((hb.block _ (ad HRB.out)).trans HRB.out)
  replace HSG := zh (HSG.out.below hb HSG.out.lt)
  replace HREP := zh (HREP.out.keep (Stays.of_below hb)).low
  replace HB := zh (HB.out.trans (hb.mono HB.out.size))
  have HPB : Hid ((w2.alloc (.cells #[.slice s1 l.length c1] 42)).heap[w2.heap.size]? = some (.cells #[.slice s1 l.length c1] 42 (0, 0))) := zh (ah _ _ _ rfl)
  clear hb
  generalize (w2.alloc (.cells #[.slice s1 l.length c1] 42)) = w3 at *
  generalize w2.heap.size = PB at *
  have HCM := zh (gS l _ w3 HREP.out HSG.out HG.out.1 HG.out.2.1 (fun _ => HG.out.2.2))
  have p0 : w3.cell? ⟨PB, 0, none⟩ = some (.slice s1 l.length c1) := aa HPB.out (j := 0) rfl
  go_wp2_with fail
  refine HCM.out.mono ?_
  rintro e w4 hq
  clear p0 HCM
  unfold d9 at hq
  have HL3 := zh (ad HRB.out)
  cases hK : dB l with
  | error er =>
   rw [hK] at hq
   obtain ⟨rfl, hb⟩ := hq
   replace HRB := zh ((hb.block _ (ad HRB.out)).trans HRB.out)
   replace HB := zh (HB.out.trans (hb.mono HB.out.size))
   clear hb
   go_upto_region 5 with fail
   have hb : Below w4.heap.size w4 (w4.alloc (.cells #[.slice none 0 0, .slice none 0 0] 27)) := ae (Below.refl _ _) _
   replace HRB := zh ((hb.block _ (ad HRB.out)).trans HRB.out)
   replace HB := zh (HB.out.trans (hb.mono HB.out.size))
   have HTB := zh (ah w4 (.cells #[.slice none 0 0, .slice none 0 0] 27) _ rfl)
   clear hb
   generalize (w4.alloc (.cells #[.slice none 0 0, .slice none 0 0] 27)) = w5 at *
   generalize w4.heap.size = TB at *
   obtain ⟨r0, r1, -⟩ := css HRB.out
   obtain ⟨k0, k1, -⟩ := fzs HRB.out
   obtain ⟨t0, t1, -⟩ := css HTB.out
   go_wp2_with fail
   refine bodyPost_ret (v := .tuple #[.agg #[.slice none 0 0, .slice none 0 0], .int .i64 er, .int .i64 0]) (by simp [results, Tryz.results8, go_sem, r0, r1]) rfl ?_
   have e1 : jt s = .error (er, 0) := by rw [HE.out, hK]
   unfold eS
   rw [e1]
   refine ⟨rfl, ?_⟩
   exact (HB.out.setCell (p := ⟨RB, 0, none⟩) (by rw [HRE.out]; exact Nat.le_refl _) _).setCell (p := ⟨RB, 1, none⟩) (by rw [HRE.out]; exact Nat.le_refl _) _
  | ok m =>
   rw [hK] at hq
   obtain ⟨⟨v, rfl, hrm⟩, hb⟩ := hq
   have HRM := zh hrm
   obtain ⟨v0, v1, rfl, ⟨a0, n0, _, _, _, _, _, rfl, _⟩, ⟨a1, n1, _, rfl, _⟩⟩ := hrm w4 (Stays.refl _ _)
   clear hrm
   replace HRB := zh ((hb.block _ (ad HRB.out)).trans HRB.out)
   replace HB := zh (HB.out.trans (hb.mono HB.out.size))
   clear hb
   go_upto_region 5 with fail
   have hb : Below w4.heap.size w4 (w4.alloc (.cells #[.slice a0 m.codes.length n0, .slice a1 m.texts.length n1] 27)) := ae (Below.refl _ _) _
   replace HRB := zh ((hb.block _ (ad HRB.out)).trans HRB.out)
   replace HB := zh (HB.out.trans (hb.mono HB.out.size))
   have HST := zh (Stays.of_below (S := bA w3.heap.size) hb)
   have HTB := zh (ah w4 (.cells #[.slice a0 m.codes.length n0, .slice a1 m.texts.length n1] 27) _ rfl)
   clear hb
   generalize (w4.alloc (.cells #[.slice a0 m.codes.length n0, .slice a1 m.texts.length n1] 27)) = w5 at *
   generalize w4.heap.size = TB at *
   obtain ⟨r0, r1, -⟩ := css HRB.out
   obtain ⟨k0, k1, -⟩ := fzs HRB.out
   obtain ⟨t0, t1, -⟩ := css HTB.out
   go_wp2_with fail
   refine bodyPost_ret (v := .tuple #[.agg #[.slice a0 m.codes.length n0, .slice a1 m.texts.length n1], .int .i64 0, .int .i64 0]) (by simp [results, Tryz.results8, go_sem, r0, r1]) rfl ?_
   have e1 : jt s = .ok m := by rw [HE.out, hK]
   unfold eS
   rw [e1]
   refine ⟨⟨_, rfl, HRM.out _ (HST.out.trans (Stays.of_on (((On.refl RB w5).set 0 _).set 1 _) HL3.out))⟩, ?_⟩
   exact (HB.out.setCell (p := ⟨RB, 0, none⟩) (by rw [HRE.out]; exact Nat.le_refl _) _).setCell (p := ⟨RB, 1, none⟩) (by rw [HRE.out]; exact Nat.le_refl _) _
end
end Go.Proofs.YtjblihabklemfaaGreatDoor
