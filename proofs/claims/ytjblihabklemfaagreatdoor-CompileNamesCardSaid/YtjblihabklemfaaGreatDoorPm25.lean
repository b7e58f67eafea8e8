/-
  Compile: part 25 of its proof: see the last text.
-/
import Derived.Test.YtjblihabklemfaaGreatDoorPm24
import Derived.Test.YtjblihabklemfaaGreatDoorPm20
set_option maxRecDepth 100000
set_option maxHeartbeats 16000000
namespace Go.Proofs.YtjblihabklemfaaGreatDoor
section
open Go.RowKit
theorem Stays.of_lt {w w' : World} {n : Nat} (h : Below n w w') : Stays (fun b => b < n) w w' := ⟨h.size, fun b hb _ => h.block b hb⟩
structure CoW (B M MB TB NB : Nat) (fv : Value) (F : List Fn) (w0 w : World) (s : CS) : Prop where
 old : Below B w0 w
 ma : MkAt B M w MB TB NB fv s
 sg : Signs w
 sb : 0 < B
 fn : RepFns (fun b => b < B) w fv F
 le : B ≤ w.heap.size
theorem CoW.step {B M MB TB NB : Nat} {fv : Value} {F : List Fn} {w0 w w' : World} {s s' : CS} (h : CoW B M MB TB NB fv F w0 w s) (hm : MkAt B M w' MB TB NB fv s') (hf : Fx B M NB w w') : CoW B M MB TB NB fv F w0 w' s' :=
 ⟨h.old.trans (hf.below h.le), hm, h.sg.below (hf.below h.le) h.sb, h.sb, h.fn.keep (Stays.of_lt (hf.below h.le)), Nat.le_trans h.le hf.size⟩
theorem CoW.below {B M MB TB NB : Nat} {fv : Value} {F : List Fn} {w0 w w' : World} {s : CS} (h : CoW B M MB TB NB fv F w0 w s) (hb : Below w.heap.size w w') : CoW B M MB TB NB fv F w0 w' s := h.step (h.ma.below hb) (Fx.of_below hb)
def qu (B M MB TB NB : Nat) (fv : Value) (s' : CS) (w : World) (e : Ending) (w' : World) : Prop := e = .returned (.tuple #[]) ∧ MkAt B M w' MB TB NB fv s' ∧ Fx B M NB w w'
def jD (B M MB TB NB : Nat) (fv : Value) (F : List Fn) (w0 : World) (cs : List Value) (x : Ex) : Prop := ∀ (w : World) (s : CS) (r : Nat) (v : bg), CoW B M MB TB NB fv F w0 w s → SlAt w r v → r ≠ NB → s.ins.length + 8 * szE x ≤ 1000000 → s.texts.length + szE x ≤ 1000000 →
 Calls Tryz.prog 57 #[.pointer (some ⟨MB, 0, none⟩), .agg cs.toArray, .map (some r)] w (qu B M MB TB NB fv (cE F v x s) w)
theorem aA {w : World} {NB k : Nat} {arr : Array Value} {t : TypeId} {fz : Nat × Nat} (hn : ∀ t, ¬ OfTy w NB t) (h : w.heap[k]? = some (.cells arr t fz)) : k ≠ NB := fun e => hn t ⟨arr, fz, by rw [← e]; exact h⟩
theorem shared {P : Prop} {G : Nat → Nat → World → Prop} (T : Nat → Nat → World → Prop) (h1 : (∀ a b w, T a b w → G a b w) → P) (h2 : ∀ a b w, T a b w → G a b w) : P := h1 h2
theorem lB (B M MB TB NB : Nat) (fv : Value) (F : List Fn) (num pos ao an ap bo bn bp : Int) (text att bt : ByteArray) (kb koff kc al ac bl bc : Nat) (ass bs : Option Addr) (a b : Ex) (isAnd : Bool) (htx : (text.toList == [38, 38]) = isAnd)
    (w0 : World) (ha : jD B M MB TB NB fv F w0 [.int .i64 ao, .int .i64 an, .string att, .slice ass al ac, .int .i64 ap] a) (hb : jD B M MB TB NB fv F w0 [.int .i64 bo, .int .i64 bn, .string bt, .slice bs bl bc, .int .i64 bp] b)
    (w : World) (s : CS) (r : Nat) (v : bg) (hc : CoW B M MB TB NB fv F w0 w s) (hsl : SlAt w r v) (hr : r ≠ NB) (hkb : kb < B)
    (hk : ∀ j, j < 10 → w.cell? ⟨kb, koff + j, none⟩ = ([.int .i64 ao, .int .i64 an, .string att, .slice ass al ac, .int .i64 ap, .int .i64 bo, .int .i64 bn, .string bt, .slice bs bl bc, .int .i64 bp] : List Value)[j]?)
    (hi : s.ins.length + 8 * (szE a + szE b) + 6 ≤ 1000000) (ht : s.texts.length + (szE a + szE b) ≤ 1000000) :
    Calls Tryz.prog 86 #[.pointer (some ⟨MB, 0, none⟩), .agg #[.int .i64 6, .int .i64 num, .string text, .slice (some ⟨kb, koff, none⟩) 2 kc, .int .i64 pos], .map (some r)] w (qu B M MB TB NB fv (cn F v isAnd [a, b] s) w) := by
 have HCW := zh hc
 have HSL := zh hsl
 have HA := zh ha
 have HB := zh hb
 have HK := zh hk
 have HBN := zh (And.intro hi ht)
 have HR := zh hr
 have HKB := zh (Nat.lt_of_lt_of_le hkb hc.le)
 have hlt := HKB.out
 have k0 : w.cell? ⟨kb, koff, none⟩ = some (.int .i64 ao) := hk 0 (by decide)
 have k1 : w.cell? ⟨kb, koff + 1, none⟩ = some (.int .i64 an) := hk 1 (by decide)
 have k2 : w.cell? ⟨kb, koff + 2, none⟩ = some (.string att) := hk 2 (by decide)
 have k3 : w.cell? ⟨kb, koff + 3, none⟩ = some (.slice ass al ac) := hk 3 (by decide)
 have k4 : w.cell? ⟨kb, koff + 4, none⟩ = some (.int .i64 ap) := hk 4 (by decide)
 have k5 : w.cell? ⟨kb, koff + 5, none⟩ = some (.int .i64 bo) := hk 5 (by decide)
 have k6 : w.cell? ⟨kb, koff + 6, none⟩ = some (.int .i64 bn) := hk 6 (by decide)
 have k7 : w.cell? ⟨kb, koff + 7, none⟩ = some (.string bt) := hk 7 (by decide)
 have k8 : w.cell? ⟨kb, koff + 8, none⟩ = some (.slice bs bl bc) := hk 8 (by decide)
 have k9 : w.cell? ⟨kb, koff + 9, none⟩ = some (.int .i64 bp) := hk 9 (by decide)
 generalize hE : cn F v isAnd [a, b] s = E
 have HE := zh hE.symm
 clear hc hsl ha hb hk hi ht hr hE hkb
 go_enter Tryz.func86, Tryz.ntmps86
 go_upto_region 1 with fail
 have HB1 : Hid (Below w.heap.size w (w.alloc (.cells #[.int .i64 6, .int .i64 num, .string text, .slice (some ⟨kb, koff, none⟩) 2 kc, .int .i64 pos] 65))) := zh (ae (Below.refl _ _) _)
 have HXB : Hid ((w.alloc (.cells #[.int .i64 6, .int .i64 num, .string text, .slice (some ⟨kb, koff, none⟩) 2 kc, .int .i64 pos] 65)).heap[w.heap.size]? = some (.cells #[.int .i64 6, .int .i64 num, .string text, .slice (some ⟨kb, koff, none⟩) 2 kc, .int .i64 pos] 65 (0, 0))) := zh (ah _ _ _ rfl)
 replace k0 : (w.alloc (.cells #[.int .i64 6, .int .i64 num, .string text, .slice (some ⟨kb, koff, none⟩) 2 kc, .int .i64 pos] 65)).cell? ⟨kb, koff, none⟩ = some (.int .i64 ao) := aj _ k0
 replace k1 : (w.alloc (.cells #[.int .i64 6, .int .i64 num, .string text, .slice (some ⟨kb, koff, none⟩) 2 kc, .int .i64 pos] 65)).cell? ⟨kb, koff + 1, none⟩ = some (.int .i64 an) := aj _ k1
 replace k2 : (w.alloc (.cells #[.int .i64 6, .int .i64 num, .string text, .slice (some ⟨kb, koff, none⟩) 2 kc, .int .i64 pos] 65)).cell? ⟨kb, koff + 2, none⟩ = some (.string att) := aj _ k2
 replace k3 : (w.alloc (.cells #[.int .i64 6, .int .i64 num, .string text, .slice (some ⟨kb, koff, none⟩) 2 kc, .int .i64 pos] 65)).cell? ⟨kb, koff + 3, none⟩ = some (.slice ass al ac) := aj _ k3
 replace k4 : (w.alloc (.cells #[.int .i64 6, .int .i64 num, .string text, .slice (some ⟨kb, koff, none⟩) 2 kc, .int .i64 pos] 65)).cell? ⟨kb, koff + 4, none⟩ = some (.int .i64 ap) := aj _ k4
 replace k5 : (w.alloc (.cells #[.int .i64 6, .int .i64 num, .string text, .slice (some ⟨kb, koff, none⟩) 2 kc, .int .i64 pos] 65)).cell? ⟨kb, koff + 5, none⟩ = some (.int .i64 bo) := aj _ k5
 replace k6 : (w.alloc (.cells #[.int .i64 6, .int .i64 num, .string text, .slice (some ⟨kb, koff, none⟩) 2 kc, .int .i64 pos] 65)).cell? ⟨kb, koff + 6, none⟩ = some (.int .i64 bn) := aj _ k6
 replace k7 : (w.alloc (.cells #[.int .i64 6, .int .i64 num, .string text, .slice (some ⟨kb, koff, none⟩) 2 kc, .int .i64 pos] 65)).cell? ⟨kb, koff + 7, none⟩ = some (.string bt) := aj _ k7
 replace k8 : (w.alloc (.cells #[.int .i64 6, .int .i64 num, .string text, .slice (some ⟨kb, koff, none⟩) 2 kc, .int .i64 pos] 65)).cell? ⟨kb, koff + 8, none⟩ = some (.slice bs bl bc) := aj _ k8
 replace k9 : (w.alloc (.cells #[.int .i64 6, .int .i64 num, .string text, .slice (some ⟨kb, koff, none⟩) 2 kc, .int .i64 pos] 65)).cell? ⟨kb, koff + 9, none⟩ = some (.int .i64 bp) := aj _ k9
 have HXL := zh (Nat.lt_succ_self w.heap.size)
 generalize (w.alloc (.cells #[.int .i64 6, .int .i64 num, .string text, .slice (some ⟨kb, koff, none⟩) 2 kc, .int .i64 pos] 65)) = w1 at *
 generalize hXB : w.heap.size = XB at *
 have HXE := zh hXB
 clear hXB
 have HSW : Hid ((fun w' : World => w'.cell? ⟨XB, 3, none⟩ = some (.slice (some ⟨kb, koff, none⟩) 2 kc) ∧ (w'.cell? ⟨kb, koff, none⟩ = some (.int .i64 ao)) ∧ (w'.cell? ⟨kb, koff + 1, none⟩ = some (.int .i64 an)) ∧ (w'.cell? ⟨kb, koff + 2, none⟩ = some (.string att)) ∧ (w'.cell? ⟨kb, koff + 3, none⟩ = some (.slice ass al ac)) ∧ (w'.cell? ⟨kb, koff + 4, none⟩ = some (.int .i64 ap)) ∧ (w'.cell? ⟨kb, koff + 5, none⟩ = some (.int .i64 bo)) ∧ (w'.cell? ⟨kb, koff + 6, none⟩ = some (.int .i64 bn)) ∧ (w'.cell? ⟨kb, koff + 7, none⟩ = some (.string bt)) ∧ (w'.cell? ⟨kb, koff + 8, none⟩ = some (.slice bs bl bc)) ∧ (w'.cell? ⟨kb, koff + 9, none⟩ = some (.int .i64 bp))) w1) := zh ⟨aa HXB.out (j := 3) rfl, k0, k1, k2, k3, k4, k5, k6, k7, k8, k9⟩
 have HS9 : Hid (∀ W, Below w1.heap.size w1 W → (fun w' : World => w'.cell? ⟨XB, 3, none⟩ = some (.slice (some ⟨kb, koff, none⟩) 2 kc) ∧ (w'.cell? ⟨kb, koff, none⟩ = some (.int .i64 ao)) ∧ (w'.cell? ⟨kb, koff + 1, none⟩ = some (.int .i64 an)) ∧ (w'.cell? ⟨kb, koff + 2, none⟩ = some (.string att)) ∧ (w'.cell? ⟨kb, koff + 3, none⟩ = some (.slice ass al ac)) ∧ (w'.cell? ⟨kb, koff + 4, none⟩ = some (.int .i64 ap)) ∧ (w'.cell? ⟨kb, koff + 5, none⟩ = some (.int .i64 bo)) ∧ (w'.cell? ⟨kb, koff + 6, none⟩ = some (.int .i64 bn)) ∧ (w'.cell? ⟨kb, koff + 7, none⟩ = some (.string bt)) ∧ (w'.cell? ⟨kb, koff + 8, none⟩ = some (.slice bs bl bc)) ∧ (w'.cell? ⟨kb, koff + 9, none⟩ = some (.int .i64 bp))) W) := zh (fun W hW => by have q := HSW.out; have x := fun (b o : Nat) (u : Value) (h : w1.cell? ⟨b, o, none⟩ = some u) => (hW.cell (p := ⟨b, o, none⟩) (am h)).trans h; exact ⟨x _ _ _ q.1, x _ _ _ q.2.1, x _ _ _ q.2.2.1, x _ _ _ q.2.2.2.1, x _ _ _ q.2.2.2.2.1, x _ _ _ q.2.2.2.2.2.1, x _ _ _ q.2.2.2.2.2.2.1, x _ _ _ q.2.2.2.2.2.2.2.1, x _ _ _ q.2.2.2.2.2.2.2.2.1, x _ _ _ q.2.2.2.2.2.2.2.2.2.1, x _ _ _ q.2.2.2.2.2.2.2.2.2.2⟩)
 clear k0 k1 k2 k3 k4 k5 k6 k7 k8 k9
 obtain ⟨N0, hN0⟩ : ∃ N, N = w1.heap.size := ⟨_, rfl⟩
 have HN0 := zh hN0
 clear hN0
 apply shared (fun LB RB w8 => Below N0 w1 w8 ∧ w8.heap[LB]? = some (.cells #[.int .i64 ao, .int .i64 an, .string att, .slice ass al ac, .int .i64 ap] 65 (0, 0)) ∧ w8.heap[RB]? = some (.cells #[.int .i64 bo, .int .i64 bn, .string bt, .slice bs bl bc, .int .i64 bp] 65 (0, 0)))
 intro HL
 have hs0 : (fun w' : World => w'.cell? ⟨XB, 3, none⟩ = some (.slice (some ⟨kb, koff, none⟩) 2 kc) ∧ (w'.cell? ⟨kb, koff, none⟩ = some (.int .i64 ao)) ∧ (w'.cell? ⟨kb, koff + 1, none⟩ = some (.int .i64 an)) ∧ (w'.cell? ⟨kb, koff + 2, none⟩ = some (.string att)) ∧ (w'.cell? ⟨kb, koff + 3, none⟩ = some (.slice ass al ac)) ∧ (w'.cell? ⟨kb, koff + 4, none⟩ = some (.int .i64 ap)) ∧ (w'.cell? ⟨kb, koff + 5, none⟩ = some (.int .i64 bo)) ∧ (w'.cell? ⟨kb, koff + 6, none⟩ = some (.int .i64 bn)) ∧ (w'.cell? ⟨kb, koff + 7, none⟩ = some (.string bt)) ∧ (w'.cell? ⟨kb, koff + 8, none⟩ = some (.slice bs bl bc)) ∧ (w'.cell? ⟨kb, koff + 9, none⟩ = some (.int .i64 bp))) w1.drew := HSW.out
 refine wp_region_held (S := (fun w' : World => w'.cell? ⟨XB, 3, none⟩ = some (.slice (some ⟨kb, koff, none⟩) 2 kc) ∧ (w'.cell? ⟨kb, koff, none⟩ = some (.int .i64 ao)) ∧ (w'.cell? ⟨kb, koff + 1, none⟩ = some (.int .i64 an)) ∧ (w'.cell? ⟨kb, koff + 2, none⟩ = some (.string att)) ∧ (w'.cell? ⟨kb, koff + 3, none⟩ = some (.slice ass al ac)) ∧ (w'.cell? ⟨kb, koff + 4, none⟩ = some (.int .i64 ap)) ∧ (w'.cell? ⟨kb, koff + 5, none⟩ = some (.int .i64 bo)) ∧ (w'.cell? ⟨kb, koff + 6, none⟩ = some (.int .i64 bn)) ∧ (w'.cell? ⟨kb, koff + 7, none⟩ = some (.string bt)) ∧ (w'.cell? ⟨kb, koff + 8, none⟩ = some (.slice bs bl bc)) ∧ (w'.cell? ⟨kb, koff + 9, none⟩ = some (.int .i64 bp)))) (by kernel_rfl) ?_
 refine tkA 0 ?_
 refine tkA 1 ?_
 refine tkA 2 ?_
 refine tkA 3 ?_
 refine tkA 4 ?_
 refine tkA 5 ?_
 refine tkA 6 ?_
 refine tkA 7 ?_
 have hs9 : ∀ W, Below w1.heap.size w1 W → (fun w' : World => w'.cell? ⟨XB, 3, none⟩ = some (.slice (some ⟨kb, koff, none⟩) 2 kc) ∧ (w'.cell? ⟨kb, koff, none⟩ = some (.int .i64 ao)) ∧ (w'.cell? ⟨kb, koff + 1, none⟩ = some (.int .i64 an)) ∧ (w'.cell? ⟨kb, koff + 2, none⟩ = some (.string att)) ∧ (w'.cell? ⟨kb, koff + 3, none⟩ = some (.slice ass al ac)) ∧ (w'.cell? ⟨kb, koff + 4, none⟩ = some (.int .i64 ap)) ∧ (w'.cell? ⟨kb, koff + 5, none⟩ = some (.int .i64 bo)) ∧ (w'.cell? ⟨kb, koff + 6, none⟩ = some (.int .i64 bn)) ∧ (w'.cell? ⟨kb, koff + 7, none⟩ = some (.string bt)) ∧ (w'.cell? ⟨kb, koff + 8, none⟩ = some (.slice bs bl bc)) ∧ (w'.cell? ⟨kb, koff + 9, none⟩ = some (.int .i64 bp))) W := HS9.out
 clear hs0
 refine wpAnyH_ready (rs := [8, 9]) (by kernel_rfl) (by simp) ?_
 refine (AllReadyH.cons rfl (fun K hK => ?_) (AllReadyH.cons rfl (fun K hK => ?_) AllReadyH.nil))
 ·go_simp
  have HB8 : Hid (Below w1.heap.size w1 (w1.drew.alloc (.cells #[.int .i64 0, .int .i64 0, .string ⟨#[]⟩, .slice none 0 0, .int .i64 0] 65))) := zh (ae (av (Below.refl _ _)) _)
  refine hK.out _ _ ?_ (fun hHeld => ?_)
  ·exact hs9 _ HB8.out
  clear hK K
  try go_simp
  refine rd1 9 fun K hK => ?_
  go_simp
  have HB9 : Hid (Below w1.heap.size w1 ((w1.drew.alloc (.cells #[.int .i64 0, .int .i64 0, .string ⟨#[]⟩, .slice none 0 0, .int .i64 0] 65)).alloc (.cells #[.int .i64 0, .int .i64 0, .string ⟨#[]⟩, .slice none 0 0, .int .i64 0] 65))) := zh (ae HB8.out _)
  refine hK.out _ _ ?_ (fun hHeld => ?_)
  ·exact hs9 _ HB9.out
  clear hK K
  try go_simp
  have HZ : Hid (((w1.drew.alloc (.cells #[.int .i64 0, .int .i64 0, .string ⟨#[]⟩, .slice none 0 0, .int .i64 0] 65)).alloc (.cells #[.int .i64 0, .int .i64 0, .string ⟨#[]⟩, .slice none 0 0, .int .i64 0] 65)).heap[w1.heap.size]? = some (.cells #[.int .i64 0, .int .i64 0, .string ⟨#[]⟩, .slice none 0 0, .int .i64 0] 65 (0, 0))) := zh (au _ _ _ _ (ah _ _ _ rfl))
  have z0 : ((w1.drew.alloc (.cells #[.int .i64 0, .int .i64 0, .string ⟨#[]⟩, .slice none 0 0, .int .i64 0] 65)).alloc (.cells #[.int .i64 0, .int .i64 0, .string ⟨#[]⟩, .slice none 0 0, .int .i64 0] 65)).cell? ⟨w1.heap.size, 0, none⟩ = some (.int .i64 0) := aa HZ.out (j := 0) rfl
  have fz0 : ((w1.drew.alloc (.cells #[.int .i64 0, .int .i64 0, .string ⟨#[]⟩, .slice none 0 0, .int .i64 0] 65)).alloc (.cells #[.int .i64 0, .int .i64 0, .string ⟨#[]⟩, .slice none 0 0, .int .i64 0] 65)).frozen? ⟨w1.heap.size, 0, none⟩ = false := ab HZ.out 0
  have z1 : ((w1.drew.alloc (.cells #[.int .i64 0, .int .i64 0, .string ⟨#[]⟩, .slice none 0 0, .int .i64 0] 65)).alloc (.cells #[.int .i64 0, .int .i64 0, .string ⟨#[]⟩, .slice none 0 0, .int .i64 0] 65)).cell? ⟨w1.heap.size, 1, none⟩ = some (.int .i64 0) := aa HZ.out (j := 1) rfl
  have fz1 : ((w1.drew.alloc (.cells #[.int .i64 0, .int .i64 0, .string ⟨#[]⟩, .slice none 0 0, .int .i64 0] 65)).alloc (.cells #[.int .i64 0, .int .i64 0, .string ⟨#[]⟩, .slice none 0 0, .int .i64 0] 65)).frozen? ⟨w1.heap.size, 1, none⟩ = false := ab HZ.out 1
  have z2 : ((w1.drew.alloc (.cells #[.int .i64 0, .int .i64 0, .string ⟨#[]⟩, .slice none 0 0, .int .i64 0] 65)).alloc (.cells #[.int .i64 0, .int .i64 0, .string ⟨#[]⟩, .slice none 0 0, .int .i64 0] 65)).cell? ⟨w1.heap.size, 2, none⟩ = some (.string ⟨#[]⟩) := aa HZ.out (j := 2) rfl
  have fz2 : ((w1.drew.alloc (.cells #[.int .i64 0, .int .i64 0, .string ⟨#[]⟩, .slice none 0 0, .int .i64 0] 65)).alloc (.cells #[.int .i64 0, .int .i64 0, .string ⟨#[]⟩, .slice none 0 0, .int .i64 0] 65)).frozen? ⟨w1.heap.size, 2, none⟩ = false := ab HZ.out 2
  have z3 : ((w1.drew.alloc (.cells #[.int .i64 0, .int .i64 0, .string ⟨#[]⟩, .slice none 0 0, .int .i64 0] 65)).alloc (.cells #[.int .i64 0, .int .i64 0, .string ⟨#[]⟩, .slice none 0 0, .int .i64 0] 65)).cell? ⟨w1.heap.size, 3, none⟩ = some (.slice none 0 0) := aa HZ.out (j := 3) rfl
  have fz3 : ((w1.drew.alloc (.cells #[.int .i64 0, .int .i64 0, .string ⟨#[]⟩, .slice none 0 0, .int .i64 0] 65)).alloc (.cells #[.int .i64 0, .int .i64 0, .string ⟨#[]⟩, .slice none 0 0, .int .i64 0] 65)).frozen? ⟨w1.heap.size, 3, none⟩ = false := ab HZ.out 3
  have z4 : ((w1.drew.alloc (.cells #[.int .i64 0, .int .i64 0, .string ⟨#[]⟩, .slice none 0 0, .int .i64 0] 65)).alloc (.cells #[.int .i64 0, .int .i64 0, .string ⟨#[]⟩, .slice none 0 0, .int .i64 0] 65)).cell? ⟨w1.heap.size, 4, none⟩ = some (.int .i64 0) := aa HZ.out (j := 4) rfl
  have fz4 : ((w1.drew.alloc (.cells #[.int .i64 0, .int .i64 0, .string ⟨#[]⟩, .slice none 0 0, .int .i64 0] 65)).alloc (.cells #[.int .i64 0, .int .i64 0, .string ⟨#[]⟩, .slice none 0 0, .int .i64 0] 65)).frozen? ⟨w1.heap.size, 4, none⟩ = false := ab HZ.out 4
  refine rd1 10 fun K hK => ?_
  go_simp
  have HBL : Hid (Below w1.heap.size w1 ((w1.alloc (.cells #[.int .i64 ao, .int .i64 an, .string att, .slice ass al ac, .int .i64 ap] 65)).alloc (.cells #[.int .i64 0, .int .i64 0, .string ⟨#[]⟩, .slice none 0 0, .int .i64 0] 65)).drew) := zh (av (ae (ae (Below.refl _ _) _) _))
  clear HZ z0 fz0 z1 fz1 z2 fz2 z3 fz3 z4 fz4
  refine hK.out _ _ ?_ (fun hHeld => ?_)
  ·exact hs9 _ HBL.out
  clear hK K
  try go_simp
  have HZ : Hid (((w1.alloc (.cells #[.int .i64 ao, .int .i64 an, .string att, .slice ass al ac, .int .i64 ap] 65)).alloc (.cells #[.int .i64 0, .int .i64 0, .string ⟨#[]⟩, .slice none 0 0, .int .i64 0] 65)).drew.heap[w1.heap.size + 1]? = some (.cells #[.int .i64 0, .int .i64 0, .string ⟨#[]⟩, .slice none 0 0, .int .i64 0] 65 (0, 0))) := zh (ah _ _ _ (ag _ _))
  have y0 : ((w1.alloc (.cells #[.int .i64 ao, .int .i64 an, .string att, .slice ass al ac, .int .i64 ap] 65)).alloc (.cells #[.int .i64 0, .int .i64 0, .string ⟨#[]⟩, .slice none 0 0, .int .i64 0] 65)).drew.cell? ⟨w1.heap.size + 1, 0, none⟩ = some (.int .i64 0) := aa HZ.out (j := 0) rfl
  have fy0 : ((w1.alloc (.cells #[.int .i64 ao, .int .i64 an, .string att, .slice ass al ac, .int .i64 ap] 65)).alloc (.cells #[.int .i64 0, .int .i64 0, .string ⟨#[]⟩, .slice none 0 0, .int .i64 0] 65)).drew.frozen? ⟨w1.heap.size + 1, 0, none⟩ = false := ab HZ.out 0
  have y1 : ((w1.alloc (.cells #[.int .i64 ao, .int .i64 an, .string att, .slice ass al ac, .int .i64 ap] 65)).alloc (.cells #[.int .i64 0, .int .i64 0, .string ⟨#[]⟩, .slice none 0 0, .int .i64 0] 65)).drew.cell? ⟨w1.heap.size + 1, 1, none⟩ = some (.int .i64 0) := aa HZ.out (j := 1) rfl
  have fy1 : ((w1.alloc (.cells #[.int .i64 ao, .int .i64 an, .string att, .slice ass al ac, .int .i64 ap] 65)).alloc (.cells #[.int .i64 0, .int .i64 0, .string ⟨#[]⟩, .slice none 0 0, .int .i64 0] 65)).drew.frozen? ⟨w1.heap.size + 1, 1, none⟩ = false := ab HZ.out 1
  have y2 : ((w1.alloc (.cells #[.int .i64 ao, .int .i64 an, .string att, .slice ass al ac, .int .i64 ap] 65)).alloc (.cells #[.int .i64 0, .int .i64 0, .string ⟨#[]⟩, .slice none 0 0, .int .i64 0] 65)).drew.cell? ⟨w1.heap.size + 1, 2, none⟩ = some (.string ⟨#[]⟩) := aa HZ.out (j := 2) rfl
  have fy2 : ((w1.alloc (.cells #[.int .i64 ao, .int .i64 an, .string att, .slice ass al ac, .int .i64 ap] 65)).alloc (.cells #[.int .i64 0, .int .i64 0, .string ⟨#[]⟩, .slice none 0 0, .int .i64 0] 65)).drew.frozen? ⟨w1.heap.size + 1, 2, none⟩ = false := ab HZ.out 2
  have y3 : ((w1.alloc (.cells #[.int .i64 ao, .int .i64 an, .string att, .slice ass al ac, .int .i64 ap] 65)).alloc (.cells #[.int .i64 0, .int .i64 0, .string ⟨#[]⟩, .slice none 0 0, .int .i64 0] 65)).drew.cell? ⟨w1.heap.size + 1, 3, none⟩ = some (.slice none 0 0) := aa HZ.out (j := 3) rfl
  have fy3 : ((w1.alloc (.cells #[.int .i64 ao, .int .i64 an, .string att, .slice ass al ac, .int .i64 ap] 65)).alloc (.cells #[.int .i64 0, .int .i64 0, .string ⟨#[]⟩, .slice none 0 0, .int .i64 0] 65)).drew.frozen? ⟨w1.heap.size + 1, 3, none⟩ = false := ab HZ.out 3
  have y4 : ((w1.alloc (.cells #[.int .i64 ao, .int .i64 an, .string att, .slice ass al ac, .int .i64 ap] 65)).alloc (.cells #[.int .i64 0, .int .i64 0, .string ⟨#[]⟩, .slice none 0 0, .int .i64 0] 65)).drew.cell? ⟨w1.heap.size + 1, 4, none⟩ = some (.int .i64 0) := aa HZ.out (j := 4) rfl
  have fy4 : ((w1.alloc (.cells #[.int .i64 ao, .int .i64 an, .string att, .slice ass al ac, .int .i64 ap] 65)).alloc (.cells #[.int .i64 0, .int .i64 0, .string ⟨#[]⟩, .slice none 0 0, .int .i64 0] 65)).drew.frozen? ⟨w1.heap.size + 1, 4, none⟩ = false := ab HZ.out 4
  refine rd1 11 fun K hK => ?_
  go_simp
  have HBR : Hid (Below w1.heap.size w1 ((w1.alloc (.cells #[.int .i64 ao, .int .i64 an, .string att, .slice ass al ac, .int .i64 ap] 65)).alloc (.cells #[.int .i64 bo, .int .i64 bn, .string bt, .slice bs bl bc, .int .i64 bp] 65)).drew) := zh (av (ae (ae (Below.refl _ _) _) _))
  clear HZ y0 fy0 y1 fy1 y2 fy2 y3 fy3 y4 fy4
  refine hK.out _ _ ?_ (fun hHeld => ?_)
  ·exact hs9 _ HBR.out
  clear hK K
  try go_simp
  refine wpAnyH_done (by kernel_rfl) ?_ _
  have f1 : Below N0 w1 ((w1.alloc (.cells #[.int .i64 ao, .int .i64 an, .string att, .slice ass al ac, .int .i64 ap] 65)).alloc (.cells #[.int .i64 bo, .int .i64 bn, .string bt, .slice bs bl bc, .int .i64 bp] 65)).drew := by rw [HN0.out]; exact HBR.out
  have f2 : ((w1.alloc (.cells #[.int .i64 ao, .int .i64 an, .string att, .slice ass al ac, .int .i64 ap] 65)).alloc (.cells #[.int .i64 bo, .int .i64 bn, .string bt, .slice bs bl bc, .int .i64 bp] 65)).drew.heap[w1.heap.size]? = some (.cells #[.int .i64 ao, .int .i64 an, .string att, .slice ass al ac, .int .i64 ap] 65 (0, 0)) := au _ _ _ _ (ah _ _ _ rfl)
  have f3 : ((w1.alloc (.cells #[.int .i64 ao, .int .i64 an, .string att, .slice ass al ac, .int .i64 ap] 65)).alloc (.cells #[.int .i64 bo, .int .i64 bn, .string bt, .slice bs bl bc, .int .i64 bp] 65)).drew.heap[w1.heap.size + 1]? = some (.cells #[.int .i64 bo, .int .i64 bn, .string bt, .slice bs bl bc, .int .i64 bp] 65 (0, 0)) := ah _ _ _ (ag _ _)
  generalize ((w1.alloc (.cells #[.int .i64 ao, .int .i64 an, .string att, .slice ass al ac, .int .i64 ap] 65)).alloc (.cells #[.int .i64 bo, .int .i64 bn, .string bt, .slice bs bl bc, .int .i64 bp] 65)).drew = W9 at f1 f2 f3 ⊢
  generalize w1.heap.size + 1 = RBv at f2 f3 ⊢
  generalize w1.heap.size = LBv at f2 f3 ⊢
  exact HL LBv RBv _ ⟨f1, f2, f3⟩
 ·go_simp
  have HB8 : Hid (Below w1.heap.size w1 (w1.drew.alloc (.cells #[.int .i64 0, .int .i64 0, .string ⟨#[]⟩, .slice none 0 0, .int .i64 0] 65))) := zh (ae (av (Below.refl _ _)) _)
  refine hK.out _ _ ?_ (fun hHeld => ?_)
  ·exact hs9 _ HB8.out
  clear hK K
  try go_simp
  refine rd1 8 fun K hK => ?_
  go_simp
  have HB9 : Hid (Below w1.heap.size w1 ((w1.drew.alloc (.cells #[.int .i64 0, .int .i64 0, .string ⟨#[]⟩, .slice none 0 0, .int .i64 0] 65)).alloc (.cells #[.int .i64 0, .int .i64 0, .string ⟨#[]⟩, .slice none 0 0, .int .i64 0] 65))) := zh (ae HB8.out _)
  refine hK.out _ _ ?_ (fun hHeld => ?_)
  ·exact hs9 _ HB9.out
  clear hK K
  try go_simp
  have HZ : Hid (((w1.drew.alloc (.cells #[.int .i64 0, .int .i64 0, .string ⟨#[]⟩, .slice none 0 0, .int .i64 0] 65)).alloc (.cells #[.int .i64 0, .int .i64 0, .string ⟨#[]⟩, .slice none 0 0, .int .i64 0] 65)).heap[w1.heap.size + 1]? = some (.cells #[.int .i64 0, .int .i64 0, .string ⟨#[]⟩, .slice none 0 0, .int .i64 0] 65 (0, 0))) := zh (ah _ _ _ (by rw [ag]; rfl))
  have z0 : ((w1.drew.alloc (.cells #[.int .i64 0, .int .i64 0, .string ⟨#[]⟩, .slice none 0 0, .int .i64 0] 65)).alloc (.cells #[.int .i64 0, .int .i64 0, .string ⟨#[]⟩, .slice none 0 0, .int .i64 0] 65)).cell? ⟨w1.heap.size + 1, 0, none⟩ = some (.int .i64 0) := aa HZ.out (j := 0) rfl
  have fz0 : ((w1.drew.alloc (.cells #[.int .i64 0, .int .i64 0, .string ⟨#[]⟩, .slice none 0 0, .int .i64 0] 65)).alloc (.cells #[.int .i64 0, .int .i64 0, .string ⟨#[]⟩, .slice none 0 0, .int .i64 0] 65)).frozen? ⟨w1.heap.size + 1, 0, none⟩ = false := ab HZ.out 0
  have z1 : ((w1.drew.alloc (.cells #[.int .i64 0, .int .i64 0, .string ⟨#[]⟩, .slice none 0 0, .int .i64 0] 65)).alloc (.cells #[.int .i64 0, .int .i64 0, .string ⟨#[]⟩, .slice none 0 0, .int .i64 0] 65)).cell? ⟨w1.heap.size + 1, 1, none⟩ = some (.int .i64 0) := aa HZ.out (j := 1) rfl
  have fz1 : ((w1.drew.alloc (.cells #[.int .i64 0, .int .i64 0, .string ⟨#[]⟩, .slice none 0 0, .int .i64 0] 65)).alloc (.cells #[.int .i64 0, .int .i64 0, .string ⟨#[]⟩, .slice none 0 0, .int .i64 0] 65)).frozen? ⟨w1.heap.size + 1, 1, none⟩ = false := ab HZ.out 1
  have z2 : ((w1.drew.alloc (.cells #[.int .i64 0, .int .i64 0, .string ⟨#[]⟩, .slice none 0 0, .int .i64 0] 65)).alloc (.cells #[.int .i64 0, .int .i64 0, .string ⟨#[]⟩, .slice none 0 0, .int .i64 0] 65)).cell? ⟨w1.heap.size + 1, 2, none⟩ = some (.string ⟨#[]⟩) := aa HZ.out (j := 2) rfl
  have fz2 : ((w1.drew.alloc (.cells #[.int .i64 0, .int .i64 0, .string ⟨#[]⟩, .slice none 0 0, .int .i64 0] 65)).alloc (.cells #[.int .i64 0, .int .i64 0, .string ⟨#[]⟩, .slice none 0 0, .int .i64 0] 65)).frozen? ⟨w1.heap.size + 1, 2, none⟩ = false := ab HZ.out 2
  have z3 : ((w1.drew.alloc (.cells #[.int .i64 0, .int .i64 0, .string ⟨#[]⟩, .slice none 0 0, .int .i64 0] 65)).alloc (.cells #[.int .i64 0, .int .i64 0, .string ⟨#[]⟩, .slice none 0 0, .int .i64 0] 65)).cell? ⟨w1.heap.size + 1, 3, none⟩ = some (.slice none 0 0) := aa HZ.out (j := 3) rfl
  have fz3 : ((w1.drew.alloc (.cells #[.int .i64 0, .int .i64 0, .string ⟨#[]⟩, .slice none 0 0, .int .i64 0] 65)).alloc (.cells #[.int .i64 0, .int .i64 0, .string ⟨#[]⟩, .slice none 0 0, .int .i64 0] 65)).frozen? ⟨w1.heap.size + 1, 3, none⟩ = false := ab HZ.out 3
  have z4 : ((w1.drew.alloc (.cells #[.int .i64 0, .int .i64 0, .string ⟨#[]⟩, .slice none 0 0, .int .i64 0] 65)).alloc (.cells #[.int .i64 0, .int .i64 0, .string ⟨#[]⟩, .slice none 0 0, .int .i64 0] 65)).cell? ⟨w1.heap.size + 1, 4, none⟩ = some (.int .i64 0) := aa HZ.out (j := 4) rfl
  have fz4 : ((w1.drew.alloc (.cells #[.int .i64 0, .int .i64 0, .string ⟨#[]⟩, .slice none 0 0, .int .i64 0] 65)).alloc (.cells #[.int .i64 0, .int .i64 0, .string ⟨#[]⟩, .slice none 0 0, .int .i64 0] 65)).frozen? ⟨w1.heap.size + 1, 4, none⟩ = false := ab HZ.out 4
  refine rd1 10 fun K hK => ?_
  go_simp
  have HBL : Hid (Below w1.heap.size w1 ((w1.alloc (.cells #[.int .i64 0, .int .i64 0, .string ⟨#[]⟩, .slice none 0 0, .int .i64 0] 65)).alloc (.cells #[.int .i64 ao, .int .i64 an, .string att, .slice ass al ac, .int .i64 ap] 65)).drew) := zh (av (ae (ae (Below.refl _ _) _) _))
  clear HZ z0 fz0 z1 fz1 z2 fz2 z3 fz3 z4 fz4
  refine hK.out _ _ ?_ (fun hHeld => ?_)
  ·exact hs9 _ HBL.out
  clear hK K
  try go_simp
  have HZ : Hid (((w1.alloc (.cells #[.int .i64 0, .int .i64 0, .string ⟨#[]⟩, .slice none 0 0, .int .i64 0] 65)).alloc (.cells #[.int .i64 ao, .int .i64 an, .string att, .slice ass al ac, .int .i64 ap] 65)).drew.heap[w1.heap.size]? = some (.cells #[.int .i64 0, .int .i64 0, .string ⟨#[]⟩, .slice none 0 0, .int .i64 0] 65 (0, 0))) := zh (au _ _ _ _ (ah _ _ _ rfl))
  have y0 : ((w1.alloc (.cells #[.int .i64 0, .int .i64 0, .string ⟨#[]⟩, .slice none 0 0, .int .i64 0] 65)).alloc (.cells #[.int .i64 ao, .int .i64 an, .string att, .slice ass al ac, .int .i64 ap] 65)).drew.cell? ⟨w1.heap.size, 0, none⟩ = some (.int .i64 0) := aa HZ.out (j := 0) rfl
  have fy0 : ((w1.alloc (.cells #[.int .i64 0, .int .i64 0, .string ⟨#[]⟩, .slice none 0 0, .int .i64 0] 65)).alloc (.cells #[.int .i64 ao, .int .i64 an, .string att, .slice ass al ac, .int .i64 ap] 65)).drew.frozen? ⟨w1.heap.size, 0, none⟩ = false := ab HZ.out 0
  have y1 : ((w1.alloc (.cells #[.int .i64 0, .int .i64 0, .string ⟨#[]⟩, .slice none 0 0, .int .i64 0] 65)).alloc (.cells #[.int .i64 ao, .int .i64 an, .string att, .slice ass al ac, .int .i64 ap] 65)).drew.cell? ⟨w1.heap.size, 1, none⟩ = some (.int .i64 0) := aa HZ.out (j := 1) rfl
  have fy1 : ((w1.alloc (.cells #[.int .i64 0, .int .i64 0, .string ⟨#[]⟩, .slice none 0 0, .int .i64 0] 65)).alloc (.cells #[.int .i64 ao, .int .i64 an, .string att, .slice ass al ac, .int .i64 ap] 65)).drew.frozen? ⟨w1.heap.size, 1, none⟩ = false := ab HZ.out 1
  have y2 : ((w1.alloc (.cells #[.int .i64 0, .int .i64 0, .string ⟨#[]⟩, .slice none 0 0, .int .i64 0] 65)).alloc (.cells #[.int .i64 ao, .int .i64 an, .string att, .slice ass al ac, .int .i64 ap] 65)).drew.cell? ⟨w1.heap.size, 2, none⟩ = some (.string ⟨#[]⟩) := aa HZ.out (j := 2) rfl
  have fy2 : ((w1.alloc (.cells #[.int .i64 0, .int .i64 0, .string ⟨#[]⟩, .slice none 0 0, .int .i64 0] 65)).alloc (.cells #[.int .i64 ao, .int .i64 an, .string att, .slice ass al ac, .int .i64 ap] 65)).drew.frozen? ⟨w1.heap.size, 2, none⟩ = false := ab HZ.out 2
  have y3 : ((w1.alloc (.cells #[.int .i64 0, .int .i64 0, .string ⟨#[]⟩, .slice none 0 0, .int .i64 0] 65)).alloc (.cells #[.int .i64 ao, .int .i64 an, .string att, .slice ass al ac, .int .i64 ap] 65)).drew.cell? ⟨w1.heap.size, 3, none⟩ = some (.slice none 0 0) := aa HZ.out (j := 3) rfl
  have fy3 : ((w1.alloc (.cells #[.int .i64 0, .int .i64 0, .string ⟨#[]⟩, .slice none 0 0, .int .i64 0] 65)).alloc (.cells #[.int .i64 ao, .int .i64 an, .string att, .slice ass al ac, .int .i64 ap] 65)).drew.frozen? ⟨w1.heap.size, 3, none⟩ = false := ab HZ.out 3
  have y4 : ((w1.alloc (.cells #[.int .i64 0, .int .i64 0, .string ⟨#[]⟩, .slice none 0 0, .int .i64 0] 65)).alloc (.cells #[.int .i64 ao, .int .i64 an, .string att, .slice ass al ac, .int .i64 ap] 65)).drew.cell? ⟨w1.heap.size, 4, none⟩ = some (.int .i64 0) := aa HZ.out (j := 4) rfl
  have fy4 : ((w1.alloc (.cells #[.int .i64 0, .int .i64 0, .string ⟨#[]⟩, .slice none 0 0, .int .i64 0] 65)).alloc (.cells #[.int .i64 ao, .int .i64 an, .string att, .slice ass al ac, .int .i64 ap] 65)).drew.frozen? ⟨w1.heap.size, 4, none⟩ = false := ab HZ.out 4
  refine rd1 11 fun K hK => ?_
  go_simp
  have HBR : Hid (Below w1.heap.size w1 ((w1.alloc (.cells #[.int .i64 bo, .int .i64 bn, .string bt, .slice bs bl bc, .int .i64 bp] 65)).alloc (.cells #[.int .i64 ao, .int .i64 an, .string att, .slice ass al ac, .int .i64 ap] 65)).drew) := zh (av (ae (ae (Below.refl _ _) _) _))
  clear HZ y0 fy0 y1 fy1 y2 fy2 y3 fy3 y4 fy4
  refine hK.out _ _ ?_ (fun hHeld => ?_)
  ·exact hs9 _ HBR.out
  clear hK K
  try go_simp
  refine wpAnyH_done (by kernel_rfl) ?_ _
  have f1 : Below N0 w1 ((w1.alloc (.cells #[.int .i64 bo, .int .i64 bn, .string bt, .slice bs bl bc, .int .i64 bp] 65)).alloc (.cells #[.int .i64 ao, .int .i64 an, .string att, .slice ass al ac, .int .i64 ap] 65)).drew := by rw [HN0.out]; exact HBR.out
  have f2 : ((w1.alloc (.cells #[.int .i64 bo, .int .i64 bn, .string bt, .slice bs bl bc, .int .i64 bp] 65)).alloc (.cells #[.int .i64 ao, .int .i64 an, .string att, .slice ass al ac, .int .i64 ap] 65)).drew.heap[w1.heap.size + 1]? = some (.cells #[.int .i64 ao, .int .i64 an, .string att, .slice ass al ac, .int .i64 ap] 65 (0, 0)) := ah _ _ _ (ag _ _)
  have f3 : ((w1.alloc (.cells #[.int .i64 bo, .int .i64 bn, .string bt, .slice bs bl bc, .int .i64 bp] 65)).alloc (.cells #[.int .i64 ao, .int .i64 an, .string att, .slice ass al ac, .int .i64 ap] 65)).drew.heap[w1.heap.size]? = some (.cells #[.int .i64 bo, .int .i64 bn, .string bt, .slice bs bl bc, .int .i64 bp] 65 (0, 0)) := au _ _ _ _ (ah _ _ _ rfl)
  generalize ((w1.alloc (.cells #[.int .i64 bo, .int .i64 bn, .string bt, .slice bs bl bc, .int .i64 bp] 65)).alloc (.cells #[.int .i64 ao, .int .i64 an, .string att, .slice ass al ac, .int .i64 ap] 65)).drew = W9 at f1 f2 f3 ⊢
  generalize w1.heap.size + 1 = RBv at f2 f3 ⊢
  generalize w1.heap.size = LBv at f2 f3 ⊢
  exact HL RBv LBv _ ⟨f1, f2, f3⟩
 rintro LB RB w8 ⟨hb8, hl8, hr8⟩
 have HB8 : Hid (Below w.heap.size w w8) := zh (by rw [HXE.out]; rw [HN0.out] at hb8; exact HB1.out.trans (hb8.mono (by rw [← HXE.out]; exact HB1.out.size)))
 have HBX : Hid (w8.heap[XB]? = some (.cells #[.int .i64 6, .int .i64 num, .string text, .slice (some ⟨kb, koff, none⟩) 2 kc, .int .i64 pos] 65 (0, 0))) := zh (by rw [HN0.out] at hb8; exact (hb8.block _ (ad HXB.out)).trans HXB.out)
 have HBL := zh hl8
 have HBR := zh hr8
 have HC := zh (HCW.out.below HB8.out)
 have HV := zh (SlAt.below HSL.out HB8.out)
 have HF : Hid (Fx B M NB w w8) := zh (Fx.of_below HB8.out)
 clear hb8 hl8 hr8 HXB HB1 HSW HS9 HSL hlt
 have HTX := zh htx
 clear htx
 cases isAnd
 ·have htx : (text.toList == [38, 38]) = false := HTX.out
  obtain ⟨s1, hs1⟩ : ∃ x, x = cE F v a s := ⟨_, rfl⟩
  have a1 := cR F v a s
  rw [← hs1] at a1
  obtain ⟨s2, hs2⟩ : ∃ x, x = aq 16 0 s1 := ⟨_, rfl⟩
  have a2 := aT 16 0 s1
  rw [← hs2] at a2
  obtain ⟨s3, hs3⟩ : ∃ x, x = aq 3 1 s2 := ⟨_, rfl⟩
  have a3 := aT 3 1 s2
  rw [← hs3] at a3
  obtain ⟨s4, hs4⟩ : ∃ x, x = aq 15 0 s3 := ⟨_, rfl⟩
  have a4 := aT 15 0 s3
  rw [← hs4] at a4
  obtain ⟨s5, hs5⟩ : ∃ x, x = cQ s1.ins.length s4 := ⟨_, rfl⟩
  have a5 := cO s1.ins.length s4
  rw [← hs5] at a5
  obtain ⟨s6, hs6⟩ : ∃ x, x = cE F v b s5 := ⟨_, rfl⟩
  have a6 := cR F v b s5
  rw [← hs6] at a6
  obtain ⟨s7, hs7⟩ : ∃ x, x = cQ s3.ins.length s6 := ⟨_, rfl⟩
  have a7 := cO s3.ins.length s6
  rw [← hs7] at a7
  obtain ⟨a11, a12, a13, a14, _⟩ := a1
  obtain ⟨a21, a22, a23, a24, _⟩ := a2
  obtain ⟨a31, a32, a33, a34, _⟩ := a3
  obtain ⟨a41, a42, a43, a44, _⟩ := a4
  obtain ⟨a51, a52, a53, a54, _⟩ := a5
  obtain ⟨a61, a62, a63, a64, _⟩ := a6
  obtain ⟨a71, a72, a73, a74, _⟩ := a7
  have e2 : s2.ins.length = s1.ins.length + 1 := by rw [hs2]; simp [aq]
  have e4 : s4.ins.length = s3.ins.length + 1 := by rw [hs4]; simp [aq]
  obtain ⟨q1, q2⟩ := HBN.out
  have HN : Hid (s.ins.length + 8 * szE a ≤ 1000000 ∧ s.texts.length + szE a ≤ 1000000 ∧ s1.ins.length ≤ 1000000 ∧ s2.ins.length ≤ 1000000 ∧ s3.ins.length ≤ 1000000 ∧ s4.ins.length ≤ 1000000 ∧ s5.ins.length ≤ 1000000 ∧ s6.ins.length ≤ 1000000 ∧ s1.ins.length < s4.ins.length ∧ s3.ins.length < s6.ins.length ∧ s5.ins.length + 8 * szE b ≤ 1000000 ∧ s5.texts.length + szE b ≤ 1000000) := zh (by refine ⟨?_, ?_, ?_, ?_, ?_, ?_, ?_, ?_, ?_, ?_, ?_, ?_⟩ <;> omega)
  have HEF : Hid (E = s7) := zh (by rw [HE.out, cn]; simp only [Bool.false_eq_true, if_false]; rw [hs7, hs6, hs5, hs4, hs3, hs2, hs1])
  have HS1 := zh hs1
  have HS2 := zh hs2
  have HS3 := zh hs3
  have HS4 := zh hs4
  have HS5 := zh hs5
  have HS6 := zh hs6
  have HS7 := zh hs7
  clear a11 a12 a13 a14 hs1 a21 a22 a23 a24 hs2 a31 a32 a33 a34 hs3 a41 a42 a43 a44 hs4 a51 a52 a53 a54 hs5 a61 a62 a63 a64 hs6 a71 a72 a73 a74 hs7 e2 e4 q1 q2
  obtain ⟨cL0, cL1, cL2, cL3, cL4, -⟩ := css HBL.out
  go_wp2_with fail
  refine (HA.out _ _ r v HC.out HV.out HR.out HN.out.1 HN.out.2.1).mono ?_
  rintro e v1 ⟨rfl, hm, hf⟩
  have hnt := HC.out.ma.n.noTy
  rw [← HS1.out] at hm
  replace HV := zh (SlAt.fx hf HV.out HR.out)
  replace HBX := zh (hf.obj HBX.out (aA hnt HBX.out) (by decide) (by decide) (by decide) (by decide))
  replace HBL := zh (hf.obj HBL.out (aA hnt HBL.out) (by decide) (by decide) (by decide) (by decide))
  replace HBR := zh (hf.obj HBR.out (aA hnt HBR.out) (by decide) (by decide) (by decide) (by decide))
  replace HF := zh (HF.out.trans hf)
  replace HC := zh (HC.out.step hm hf)
  clear hm hf hnt
  clear cL0 cL1 cL2 cL3 cL4
  go_wp2_with fail
  refine (aP B M MB TB NB fv _ 16 0 _ HC.out.ma HN.out.2.2.1).mono ?_
  rintro e v2 ⟨cl2, rfl, hled, hm, hf⟩
  have HLA0 := zh hled
  clear hled
  have hnt := HC.out.ma.n.noTy
  rw [← HS2.out] at hm
  replace HV := zh (SlAt.fx hf HV.out HR.out)
  replace HBX := zh (hf.obj HBX.out (aA hnt HBX.out) (by decide) (by decide) (by decide) (by decide))
  replace HBL := zh (hf.obj HBL.out (aA hnt HBL.out) (by decide) (by decide) (by decide) (by decide))
  replace HBR := zh (hf.obj HBR.out (aA hnt HBR.out) (by decide) (by decide) (by decide) (by decide))
  replace HF := zh (HF.out.trans hf)
  replace HC := zh (HC.out.step hm hf)
  clear hm hf hnt
  have HLA := zh HLA0.out
  clear HLA0
  have cX2 : v2.cell? ⟨XB, 2, none⟩ = some (.string text) := aa HBX.out (j := 2) rfl
  go_wp2_with fail
  refine (aP B M MB TB NB fv _ 3 1 _ HC.out.ma HN.out.2.2.2.1).mono ?_
  rintro e v3 ⟨cl3, rfl, hled, hm, hf⟩
  clear hled
  have hnt := HC.out.ma.n.noTy
  rw [← HS3.out] at hm
  replace HV := zh (SlAt.fx hf HV.out HR.out)
  replace HBX := zh (hf.obj HBX.out (aA hnt HBX.out) (by decide) (by decide) (by decide) (by decide))
  replace HBL := zh (hf.obj HBL.out (aA hnt HBL.out) (by decide) (by decide) (by decide) (by decide))
  replace HBR := zh (hf.obj HBR.out (aA hnt HBR.out) (by decide) (by decide) (by decide) (by decide))
  replace HLA := zh (HLA.out.fx hf hnt)
  replace HF := zh (HF.out.trans hf)
  replace HC := zh (HC.out.step hm hf)
  clear hm hf hnt
  clear cX2
  go_wp2_with fail
  refine (aP B M MB TB NB fv _ 15 0 _ HC.out.ma HN.out.2.2.2.2.1).mono ?_
  rintro e v4 ⟨cl4, rfl, hled, hm, hf⟩
  have HLB0 := zh hled
  clear hled
  have hnt := HC.out.ma.n.noTy
  rw [← HS4.out] at hm
  replace HV := zh (SlAt.fx hf HV.out HR.out)
  replace HBX := zh (hf.obj HBX.out (aA hnt HBX.out) (by decide) (by decide) (by decide) (by decide))
  replace HBL := zh (hf.obj HBL.out (aA hnt HBL.out) (by decide) (by decide) (by decide) (by decide))
  replace HBR := zh (hf.obj HBR.out (aA hnt HBR.out) (by decide) (by decide) (by decide) (by decide))
  replace HLA := zh (HLA.out.fx hf hnt)
  replace HF := zh (HF.out.trans hf)
  replace HC := zh (HC.out.step hm hf)
  clear hm hf hnt
  have HLB := zh HLB0.out
  clear HLB0
  obtain ⟨b1, b2, hcl, hl1, hl2⟩ := HLA.out
  subst hcl
  clear HLA
  have HL1 := zh hl1
  have HL2 := zh hl2
  clear hl1 hl2
  go_wp2_with fail
  refine (eC B M MB TB NB b1 b2 fv _ _ _ HC.out.ma HN.out.2.2.2.2.2.2.2.2.1 HN.out.2.2.2.2.2.1 HL1.out HL2.out).mono ?_
  rintro e v5 ⟨rfl, hm, hf⟩
  have hnt := HC.out.ma.n.noTy
  rw [← HS5.out] at hm
  replace HV := zh (SlAt.fx hf HV.out HR.out)
  replace HBX := zh (hf.obj HBX.out (aA hnt HBX.out) (by decide) (by decide) (by decide) (by decide))
  replace HBL := zh (hf.obj HBL.out (aA hnt HBL.out) (by decide) (by decide) (by decide) (by decide))
  replace HBR := zh (hf.obj HBR.out (aA hnt HBR.out) (by decide) (by decide) (by decide) (by decide))
  replace HLB := zh (HLB.out.fx hf hnt)
  replace HF := zh (HF.out.trans hf)
  replace HC := zh (HC.out.step hm hf)
  clear hm hf hnt
  clear HL1 HL2
  have cX2 : v5.cell? ⟨XB, 2, none⟩ = some (.string text) := aa HBX.out (j := 2) rfl
  obtain ⟨cR0, cR1, cR2, cR3, cR4, -⟩ := css HBR.out
  go_wp2_with fail
  refine (HB.out _ _ r v HC.out HV.out HR.out HN.out.2.2.2.2.2.2.2.2.2.2.1 HN.out.2.2.2.2.2.2.2.2.2.2.2).mono ?_
  rintro e v6 ⟨rfl, hm, hf⟩
  have hnt := HC.out.ma.n.noTy
  rw [← HS6.out] at hm
  replace HV := zh (SlAt.fx hf HV.out HR.out)
  replace HBX := zh (hf.obj HBX.out (aA hnt HBX.out) (by decide) (by decide) (by decide) (by decide))
  replace HBL := zh (hf.obj HBL.out (aA hnt HBL.out) (by decide) (by decide) (by decide) (by decide))
  replace HBR := zh (hf.obj HBR.out (aA hnt HBR.out) (by decide) (by decide) (by decide) (by decide))
  replace HLB := zh (HLB.out.fx hf hnt)
  replace HF := zh (HF.out.trans hf)
  replace HC := zh (HC.out.step hm hf)
  clear hm hf hnt
  clear cX2 cR0 cR1 cR2 cR3 cR4
  obtain ⟨b1, b2, hcl, hl1, hl2⟩ := HLB.out
  subst hcl
  clear HLB
  have HL1 := zh hl1
  have HL2 := zh hl2
  clear hl1 hl2
  go_wp2_with fail
  refine (eC B M MB TB NB b1 b2 fv _ _ _ HC.out.ma HN.out.2.2.2.2.2.2.2.2.2.1 HN.out.2.2.2.2.2.2.2.1 HL1.out HL2.out).mono ?_
  rintro e v7 ⟨rfl, hm, hf⟩
  have hnt := HC.out.ma.n.noTy
  rw [← HS7.out] at hm
  replace HV := zh (SlAt.fx hf HV.out HR.out)
  replace HBX := zh (hf.obj HBX.out (aA hnt HBX.out) (by decide) (by decide) (by decide) (by decide))
  replace HBL := zh (hf.obj HBL.out (aA hnt HBL.out) (by decide) (by decide) (by decide) (by decide))
  replace HBR := zh (hf.obj HBR.out (aA hnt HBR.out) (by decide) (by decide) (by decide) (by decide))
  replace HF := zh (HF.out.trans hf)
  replace HC := zh (HC.out.step hm hf)
  clear hm hf hnt
  clear HL1 HL2
  go_wp2_with fail
  go_end0
  exact ⟨rfl, by rw [HEF.out]; exact HC.out.ma, HF.out⟩
 ·have htx : (text.toList == [38, 38]) = true := HTX.out
  obtain ⟨s1, hs1⟩ : ∃ x, x = cE F v a s := ⟨_, rfl⟩
  have a1 := cR F v a s
  rw [← hs1] at a1
  obtain ⟨s2, hs2⟩ : ∃ x, x = aq 16 0 s1 := ⟨_, rfl⟩
  have a2 := aT 16 0 s1
  rw [← hs2] at a2
  obtain ⟨s3, hs3⟩ : ∃ x, x = cE F v b s2 := ⟨_, rfl⟩
  have a3 := cR F v b s2
  rw [← hs3] at a3
  obtain ⟨s4, hs4⟩ : ∃ x, x = aq 15 0 s3 := ⟨_, rfl⟩
  have a4 := aT 15 0 s3
  rw [← hs4] at a4
  obtain ⟨s5, hs5⟩ : ∃ x, x = cQ s1.ins.length s4 := ⟨_, rfl⟩
  have a5 := cO s1.ins.length s4
  rw [← hs5] at a5
  obtain ⟨s6, hs6⟩ : ∃ x, x = aq 3 0 s5 := ⟨_, rfl⟩
  have a6 := aT 3 0 s5
  rw [← hs6] at a6
  obtain ⟨s7, hs7⟩ : ∃ x, x = cQ s3.ins.length s6 := ⟨_, rfl⟩
  have a7 := cO s3.ins.length s6
  rw [← hs7] at a7
  obtain ⟨a11, a12, a13, a14, _⟩ := a1
  obtain ⟨a21, a22, a23, a24, _⟩ := a2
  obtain ⟨a31, a32, a33, a34, _⟩ := a3
  obtain ⟨a41, a42, a43, a44, _⟩ := a4
  obtain ⟨a51, a52, a53, a54, _⟩ := a5
  obtain ⟨a61, a62, a63, a64, _⟩ := a6
  obtain ⟨a71, a72, a73, a74, _⟩ := a7
  have e2 : s2.ins.length = s1.ins.length + 1 := by rw [hs2]; simp [aq]
  have e4 : s4.ins.length = s3.ins.length + 1 := by rw [hs4]; simp [aq]
  obtain ⟨q1, q2⟩ := HBN.out
  have HN : Hid (s.ins.length + 8 * szE a ≤ 1000000 ∧ s.texts.length + szE a ≤ 1000000 ∧ s1.ins.length ≤ 1000000 ∧ s2.ins.length ≤ 1000000 ∧ s3.ins.length ≤ 1000000 ∧ s4.ins.length ≤ 1000000 ∧ s5.ins.length ≤ 1000000 ∧ s6.ins.length ≤ 1000000 ∧ s1.ins.length < s4.ins.length ∧ s3.ins.length < s6.ins.length ∧ s2.ins.length + 8 * szE b ≤ 1000000 ∧ s2.texts.length + szE b ≤ 1000000) := zh (by refine ⟨?_, ?_, ?_, ?_, ?_, ?_, ?_, ?_, ?_, ?_, ?_, ?_⟩ <;> omega)
  have HEF : Hid (E = s7) := zh (by rw [HE.out, cn]; simp only [if_true]; rw [hs7, hs6, hs5, hs4, hs3, hs2, hs1])
  have HS1 := zh hs1
  have HS2 := zh hs2
  have HS3 := zh hs3
  have HS4 := zh hs4
  have HS5 := zh hs5
  have HS6 := zh hs6
  have HS7 := zh hs7
  clear a11 a12 a13 a14 hs1 a21 a22 a23 a24 hs2 a31 a32 a33 a34 hs3 a41 a42 a43 a44 hs4 a51 a52 a53 a54 hs5 a61 a62 a63 a64 hs6 a71 a72 a73 a74 hs7 e2 e4 q1 q2
  obtain ⟨cL0, cL1, cL2, cL3, cL4, -⟩ := css HBL.out
  go_wp2_with fail
  refine (HA.out _ _ r v HC.out HV.out HR.out HN.out.1 HN.out.2.1).mono ?_
  rintro e v1 ⟨rfl, hm, hf⟩
  have hnt := HC.out.ma.n.noTy
  rw [← HS1.out] at hm
  replace HV := zh (SlAt.fx hf HV.out HR.out)
  replace HBX := zh (hf.obj HBX.out (aA hnt HBX.out) (by decide) (by decide) (by decide) (by decide))
  replace HBL := zh (hf.obj HBL.out (aA hnt HBL.out) (by decide) (by decide) (by decide) (by decide))
  replace HBR := zh (hf.obj HBR.out (aA hnt HBR.out) (by decide) (by decide) (by decide) (by decide))
  replace HF := zh (HF.out.trans hf)
  replace HC := zh (HC.out.step hm hf)
  clear hm hf hnt
  clear cL0 cL1 cL2 cL3 cL4
  go_wp2_with fail
  refine (aP B M MB TB NB fv _ 16 0 _ HC.out.ma HN.out.2.2.1).mono ?_
  rintro e v2 ⟨cl2, rfl, hled, hm, hf⟩
  have HLA0 := zh hled
  clear hled
  have hnt := HC.out.ma.n.noTy
  rw [← HS2.out] at hm
  replace HV := zh (SlAt.fx hf HV.out HR.out)
  replace HBX := zh (hf.obj HBX.out (aA hnt HBX.out) (by decide) (by decide) (by decide) (by decide))
  replace HBL := zh (hf.obj HBL.out (aA hnt HBL.out) (by decide) (by decide) (by decide) (by decide))
  replace HBR := zh (hf.obj HBR.out (aA hnt HBR.out) (by decide) (by decide) (by decide) (by decide))
  replace HF := zh (HF.out.trans hf)
  replace HC := zh (HC.out.step hm hf)
  clear hm hf hnt
  have HLA := zh HLA0.out
  clear HLA0
  have cX2 : v2.cell? ⟨XB, 2, none⟩ = some (.string text) := aa HBX.out (j := 2) rfl
  obtain ⟨cR0, cR1, cR2, cR3, cR4, -⟩ := css HBR.out
  go_wp2_with fail
  refine (HB.out _ _ r v HC.out HV.out HR.out HN.out.2.2.2.2.2.2.2.2.2.2.1 HN.out.2.2.2.2.2.2.2.2.2.2.2).mono ?_
  rintro e v3 ⟨rfl, hm, hf⟩
  have hnt := HC.out.ma.n.noTy
  rw [← HS3.out] at hm
  replace HV := zh (SlAt.fx hf HV.out HR.out)
  replace HBX := zh (hf.obj HBX.out (aA hnt HBX.out) (by decide) (by decide) (by decide) (by decide))
  replace HBL := zh (hf.obj HBL.out (aA hnt HBL.out) (by decide) (by decide) (by decide) (by decide))
  replace HBR := zh (hf.obj HBR.out (aA hnt HBR.out) (by decide) (by decide) (by decide) (by decide))
  replace HLA := zh (HLA.out.fx hf hnt)
  replace HF := zh (HF.out.trans hf)
  replace HC := zh (HC.out.step hm hf)
  clear hm hf hnt
  clear cX2 cR0 cR1 cR2 cR3 cR4
  go_wp2_with fail
  refine (aP B M MB TB NB fv _ 15 0 _ HC.out.ma HN.out.2.2.2.2.1).mono ?_
  rintro e v4 ⟨cl4, rfl, hled, hm, hf⟩
  have HLB0 := zh hled
  clear hled
  have hnt := HC.out.ma.n.noTy
  rw [← HS4.out] at hm
  replace HV := zh (SlAt.fx hf HV.out HR.out)
  replace HBX := zh (hf.obj HBX.out (aA hnt HBX.out) (by decide) (by decide) (by decide) (by decide))
  replace HBL := zh (hf.obj HBL.out (aA hnt HBL.out) (by decide) (by decide) (by decide) (by decide))
  replace HBR := zh (hf.obj HBR.out (aA hnt HBR.out) (by decide) (by decide) (by decide) (by decide))
  replace HLA := zh (HLA.out.fx hf hnt)
  replace HF := zh (HF.out.trans hf)
  replace HC := zh (HC.out.step hm hf)
  clear hm hf hnt
  have HLB := zh HLB0.out
  clear HLB0
  obtain ⟨b1, b2, hcl, hl1, hl2⟩ := HLA.out
  subst hcl
  clear HLA
  have HL1 := zh hl1
  have HL2 := zh hl2
  clear hl1 hl2
  go_wp2_with fail
  refine (eC B M MB TB NB b1 b2 fv _ _ _ HC.out.ma HN.out.2.2.2.2.2.2.2.2.1 HN.out.2.2.2.2.2.1 HL1.out HL2.out).mono ?_
  rintro e v5 ⟨rfl, hm, hf⟩
  have hnt := HC.out.ma.n.noTy
  rw [← HS5.out] at hm
  replace HV := zh (SlAt.fx hf HV.out HR.out)
  replace HBX := zh (hf.obj HBX.out (aA hnt HBX.out) (by decide) (by decide) (by decide) (by decide))
  replace HBL := zh (hf.obj HBL.out (aA hnt HBL.out) (by decide) (by decide) (by decide) (by decide))
  replace HBR := zh (hf.obj HBR.out (aA hnt HBR.out) (by decide) (by decide) (by decide) (by decide))
  replace HLB := zh (HLB.out.fx hf hnt)
  replace HF := zh (HF.out.trans hf)
  replace HC := zh (HC.out.step hm hf)
  clear hm hf hnt
  clear HL1 HL2
  have cX2 : v5.cell? ⟨XB, 2, none⟩ = some (.string text) := aa HBX.out (j := 2) rfl
  go_wp2_with fail
  refine (aP B M MB TB NB fv _ 3 0 _ HC.out.ma HN.out.2.2.2.2.2.2.1).mono ?_
  rintro e v6 ⟨cl6, rfl, hled, hm, hf⟩
  clear hled
  have hnt := HC.out.ma.n.noTy
  rw [← HS6.out] at hm
  replace HV := zh (SlAt.fx hf HV.out HR.out)
  replace HBX := zh (hf.obj HBX.out (aA hnt HBX.out) (by decide) (by decide) (by decide) (by decide))
  replace HBL := zh (hf.obj HBL.out (aA hnt HBL.out) (by decide) (by decide) (by decide) (by decide))
  replace HBR := zh (hf.obj HBR.out (aA hnt HBR.out) (by decide) (by decide) (by decide) (by decide))
  replace HLB := zh (HLB.out.fx hf hnt)
  replace HF := zh (HF.out.trans hf)
  replace HC := zh (HC.out.step hm hf)
  clear hm hf hnt
  clear cX2
  obtain ⟨b1, b2, hcl, hl1, hl2⟩ := HLB.out
  subst hcl
  clear HLB
  have HL1 := zh hl1
  have HL2 := zh hl2
  clear hl1 hl2
  go_wp2_with fail
  refine (eC B M MB TB NB b1 b2 fv _ _ _ HC.out.ma HN.out.2.2.2.2.2.2.2.2.2.1 HN.out.2.2.2.2.2.2.2.1 HL1.out HL2.out).mono ?_
  rintro e v7 ⟨rfl, hm, hf⟩
  have hnt := HC.out.ma.n.noTy
  rw [← HS7.out] at hm
  replace HV := zh (SlAt.fx hf HV.out HR.out)
  replace HBX := zh (hf.obj HBX.out (aA hnt HBX.out) (by decide) (by decide) (by decide) (by decide))
  replace HBL := zh (hf.obj HBL.out (aA hnt HBL.out) (by decide) (by decide) (by decide) (by decide))
  replace HBR := zh (hf.obj HBR.out (aA hnt HBR.out) (by decide) (by decide) (by decide) (by decide))
  replace HF := zh (HF.out.trans hf)
  replace HC := zh (HC.out.step hm hf)
  clear hm hf hnt
  clear HL1 HL2
  go_wp2_with fail
  go_end0
  exact ⟨rfl, by rw [HEF.out]; exact HC.out.ma, HF.out⟩
end
end Go.Proofs.YtjblihabklemfaaGreatDoor
