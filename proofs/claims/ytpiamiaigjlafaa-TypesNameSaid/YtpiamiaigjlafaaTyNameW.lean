/-
  The walk through TypesName.
-/
import Derived.Test.YtpiamiaigjlafaaTySet
import Derived.Test.YtpiamiaigjlafaaTyMoreW
namespace Go.Proofs.Ytpiamiaigjlafaa
open Go.RowKit

theorem fews {a b : List Fn} {f : Fn} {st : St} {B : Nat} (h : ∀ q, q ∈ a ++ f :: b → q.params.length ≤ B) : ∀ q, q ∈ a ++ withB f st :: b → q.params.length ≤ B := fun q hq => by
  rcases List.mem_append.1 hq with hq | hq
  · exact h q (List.mem_append.2 (.inl hq))
  · rcases List.mem_cons.1 hq with rfl | hq
    · exact h f (List.mem_append.2 (.inr (List.mem_cons_self ..)))
    · exact h q (List.mem_append.2 (.inr (List.mem_cons_of_mem _ hq)))
set_option maxRecDepth 100000 in
set_option maxHeartbeats 8000000 in
theorem tname_any (a0 : Option Addr) (capA : Nat) (s : List UInt8) (x : Nat) (w : World) (hx : x ≤ 255) (hs : SrcAt w a0 s) (hsl : s.length ≤ 1152921504606846976) (hsc : s.length ≤ capA) :
    Calls Try.prog 5 #[.slice a0 s.length capA, .int .u8 (x : Int)] w fun e w' => e = .returned (.bool true) ∧ Below w.heap.size w w' := by
  have HFA := Lib.hid (fun W (hW : Below w.heap.size w W) => front_any a0 capA s W (hs.later hW) hsl hsc)
  clear hs
  go_enter Try.func5, Try.ntmps5
  go_wp2_with fail
  refine (head_any _).mono ?_
  rintro e w1 ⟨rfl, hb1⟩
  have HB1 := Lib.hid hb1
  clear hb1
  go_wp2_with fail
  refine (HFA.out _ HB1.out).mono ?_
  intro e w2 hres
  obtain ⟨sv, nv, cv, e1, p1, rfl, hb2, hc1⟩ := front_form hres
  have HC1 := Lib.hid hc1
  have HB2 := Lib.hid (HB1.out.trans (hb2.mono HB1.out.size))
  clear hres hb2 hc1
  go_upto_region 3 with fail
  have hb3 : Below w2.heap.size w2 (w2.alloc (.cells #[.slice sv nv cv] 26)) := up_alloc (Below.refl _ _) _
  have HPB : Hid ((w2.alloc (.cells #[.slice sv nv cv] 26)).heap[w2.heap.size]? = some (.cells #[.slice sv nv cv] 26 (0, 0))) := Lib.hid (new_heap _ _ _ rfl)
  have HR1 := Lib.hid (HC1.out.below hb3)
  have HB3 := Lib.hid (HB2.out.trans (hb3.mono HB2.out.size))
  clear hb3 HC1
  generalize (w2.alloc (.cells #[.slice sv nv cv] 26)) = w3 at *
  generalize w2.heap.size = PB at *
  have p0 : w3.cell? ⟨PB, 0, none⟩ = some (.slice sv nv cv) := cell_of HPB.out (j := 0) rfl
  by_cases hz1 : e1 ≠ 0
  · have hd1 : (e1 == 0) = false := beq_false_of_ne hz1
    go_wp2_with fail
    exact bodyPost_ret (v := .bool true) (by simp [results, Try.results5, go_sem]) rfl ⟨rfl, HB3.out⟩
  have hz1 : e1 = 0 := by simpa using hz1
  subst hz1
  obtain ⟨p, hfp, hrp⟩ : ∃ l, frontT s = .ok l ∧ RepFns Any w3 (.slice sv nv cv) l := HR1.out.elim (fun h => absurd rfl h) (fun h => h.2)
  obtain ⟨cs, hrow, hit⟩ := hrp
  obtain rfl : nv = p.length := by obtain ⟨_, _, e, _⟩ := hrow; injection e
  by_cases hn0 : p.length = 0
  · have hnz : (p.length : Int) = 0 := by omega
    go_wp2_with fail
    exact bodyPost_ret (v := .bool true) (by simp [results, Try.results5, go_sem]) rfl ⟨rfl, HB3.out⟩
  have HC0 := Lib.hid (front_right hfp)
  have hp64 := (check_zero HC0.out).1
  have HLOW := Lib.hid (front_low hfp)
  have HFEW := Lib.hid (front_few hfp)
  have HBOD := Lib.hid (front_body hfp)
  obtain ⟨k, hk⟩ : ∃ k, k = x % p.length := ⟨_, rfl⟩
  have hkl : k < p.length := by rw [hk]; exact Nat.mod_lt _ (by omega)
  obtain ⟨a, f, b, hsplit, hka⟩ : ∃ a f b, p = a ++ f :: b ∧ a.length = k := ⟨p.take k, p[k], p.drop (k + 1), by rw [← List.drop_eq_getElem_cons hkl, List.take_append_drop], by simp; omega⟩
  have HROW : Hid (RowOf (fun b => b < w3.heap.size) w3 (.slice sv p.length cv) 5 p.length cs) := Lib.hid (hrow.lies.mono (fun _ h => h.2))
  have HIT : Hid (∀ i, i < p.length → RepFn (fun b => b < w3.heap.size) w3 (cs i) (p.getD i default)) := Lib.hid (fun i hi => (hit i hi).lies.mono (fun _ h => h.2))
  have HO1 := Lib.hid (fn_one hit)
  obtain ⟨sb, soff, hsv, hbl, hcell⟩ : ∃ b off, sv = some ⟨b, off, none⟩ ∧ b < w3.heap.size ∧ ∀ i, i < p.length → ∀ j, j < 5 → w3.cell? ⟨b, off + i * 5 + j, none⟩ = (cs i)[j]? := by
    obtain ⟨s0, c0, e, _, _, _, hr, _⟩ := hrow
    injection e with e2 _ e4
    subst e2
    obtain ⟨b, off, e, _, h1, h2⟩ := hr (by omega)
    exact ⟨b, off, e, h1, h2⟩
  subst hsv
  obtain ⟨hcs, hcvm⟩ : p.length ≤ cv ∧ cv ≤ maxLen := by
    obtain ⟨s0, c0, e, h1, h2, _⟩ := hrow
    injection e with _ _ e4
    subst e4
    exact ⟨h1, h2⟩
  have HL5 : Hid (∀ i, i < p.length → (cs i).length = 5) := Lib.hid (by obtain ⟨_, _, _, _, _, _, _, h⟩ := hrow; exact h)
  have hf : p.getD k default = f := by subst hsplit hka; rw [List.getD_eq_getElem?_getD, List.getElem?_append_right (Nat.le_refl _), Nat.sub_self]; rfl
  have hfk := HIT.out k hkl
  rw [hf] at hfk
  obtain ⟨nm, s1, n1, c1, rs, s2, n2, c2, pos, hfc⟩ := fn_form hfk
  rw [hfc] at hfk
  have HFK := Lib.hid hfk
  have hbody : RepSts (fun b => b < w3.heap.size) w3 (.slice s2 n2 c2) f.body := by
    obtain ⟨vp, vb, e, _, h⟩ := hfk
    simp only [List.cons.injEq, and_true] at e
    rw [e.2.2.2.1]
    exact h
  obtain ⟨bs, hbrow, hbit⟩ := hbody
  obtain rfl : n2 = f.body.length := by obtain ⟨_, _, e, _⟩ := hbrow; injection e
  have HBROW := Lib.hid hbrow
  have HBIT := Lib.hid hbit
  have HBO := Lib.hid (st_one hbit)
  have HBL : Hid (∀ i, i < f.body.length → (bs i).length = 6) := Lib.hid (by obtain ⟨_, _, _, _, _, _, _, h⟩ := hbrow; exact h)
  have HBN : Hid (s2 = none → f.body.length = 0 ∧ c2 = 0) := Lib.hid (fun e => by obtain ⟨_, _, e2, hle, _, hn, _⟩ := hbrow; injection e2 with e3 _ e4; subst e3 e4; have := hn e; exact ⟨by omega, this⟩)
  have hbod := HBOD.out f (by rw [hsplit]; exact List.mem_append.2 (.inr (List.mem_cons_self ..)))
  have HK := Lib.hid (And.intro hkl (And.intro hp64 hbod))
  have HSP := Lib.hid (And.intro hsplit hka)
  have HCF : Hid (cs k = [.string nm, .slice s1 n1 c1, .int .i64 rs, .slice s2 f.body.length c2, .int .i64 pos]) := Lib.hid hfc
  have HXC : Hid (w3.cell? ⟨sb, soff + k * 5 + 3, none⟩ = some (.slice s2 f.body.length c2)) := Lib.hid (by rw [hcell k hkl 3 (by decide), hfc]; rfl)
  have HXB := Lib.hid hbl
  have hxk : (x : Int) % (p.length : Int) = (k : Int) := by rw [hk]; exact (Int.natCast_emod x p.length).symm
  have hnz : ¬ (p.length : Int) = 0 := by omega
  clear hrow hit hfp HR1 hsplit hka hf hfk hfc hbrow hbit hbod hcell hk HFA HBOD
  go_upto_region 6 with fail
  rw [hxk]
  clear hxk
  obtain ⟨inf, hi0, hi1, hi2, hi3⟩ := infoFn
  have hb4 : Below w3.heap.size w3 (w3.alloc (.cells #[.slice none 0 0] 26)) := up_alloc (Below.refl _ _) _
  have hnews : ∀ j u, (flat cs p.length)[j]? = some u → (w3.alloc (.cells #[.slice none 0 0] 26)).cell? ((⟨sb, soff, none⟩ : Addr).add j) = some u := row_news (by decide) (HROW.out.keep (Stays.of_below hb4)) _ rfl
  have hszr : w3.heap.size ≤ (w3.alloc (.cells #[.slice none 0 0] 26)).heap.size := hb4.size
  replace p0 : (w3.alloc (.cells #[.slice none 0 0] 26)).cell? ⟨PB, 0, none⟩ = some (.slice (some ⟨sb, soff, none⟩) p.length cv) := old_cell _ p0
  go_upto_region 8 with (refine wpList_append_lies _ rfl _ _ _ rfl (w3.alloc (.cells #[.slice none 0 0] 26)).heap.size 34 inf _ 5 80 (by kernel_rfl) hi0 hi1 hi2 hi3 rfl (by decide) (.slice none 0 0) 0 [] rfl own_nil ⟨sb, soff, none⟩ p.length cv (flat cs p.length) rfl (flat_len HL5.out) hnews HO1.out (by omega) (by have := HK.out; unfold maxLen; omega) (by have := HK.out; omega) (Nat.le_refl _) _ rfl ?_; intro g cap w9 h2 h3 _ _; rw [Nat.zero_add, List.nil_append] at h2; have hb9 := below_none h3; have HB9 := Lib.hid (hb4.trans (hb9.mono hb4.size)); have HQ9 : Hid (w9.heap[w3.heap.size]? = some (.cells #[.slice none 0 0] 26 (0, 0))) := Lib.hid ((hb9.block _ (by rw [size_alloc]; exact Nat.lt_succ_self _)).trans (new_heap _ _ _ rfl)); have HGO := Lib.hid h2; have q0 : w9.cell? ⟨w3.heap.size, 0, none⟩ = some (.slice none 0 0) := cell_of HQ9.out (j := 0) rfl; have k0 : w9.frozen? ⟨w3.heap.size, 0, none⟩ = false := frozen_of HQ9.out 0; clear h2 h3 hb9; simp only [Nat.zero_add])
  obtain ⟨hgb, hgo⟩ := own_obj HGO.out
  have HGQ : Hid (w3.heap.size < g) := Lib.hid (by rw [size_alloc] at hgb; omega)
  have HQA : Hid (QAt w9 g p.length cap cs) := Lib.hid ⟨hgo, row_own HGO.out HL5.out⟩
  clear HGO hb4 hszr hgb hgo hnews hi0 hi1 hi2 hi3 q0 k0 p0
  have HB7 : Hid (Below w3.heap.size w3 (w9.setCell ⟨w3.heap.size, 0, none⟩ (.slice (some ⟨g, 0, none⟩) p.length cap))) := Lib.hid (HB9.out.setCell (p := ⟨w3.heap.size, 0, none⟩) (Nat.le_refl _) _)
  have HQB : Hid ((w9.setCell ⟨w3.heap.size, 0, none⟩ (.slice (some ⟨g, 0, none⟩) p.length cap)).heap[w3.heap.size]? = some (.cells #[.slice (some ⟨g, 0, none⟩) p.length cap] 26 (0, 0))) := Lib.hid (setCell_obj HQ9.out 0 _)
  replace HQA : Hid (QAt (w9.setCell ⟨w3.heap.size, 0, none⟩ (.slice (some ⟨g, 0, none⟩) p.length cap)) g p.length cap cs) := Lib.hid (HQA.out.keep (by rw [setCell_size]; exact Nat.le_refl _) (setCell_heap _ _ _ _ (fun e => by have := HGQ.out; have e2 : g = w3.heap.size := e; omega)))
  generalize (w9.setCell ⟨w3.heap.size, 0, none⟩ (.slice (some ⟨g, 0, none⟩) p.length cap)) = w7 at *
  clear HB9 HQ9
  obtain ⟨N3, hN3⟩ : ∃ N, N = w3.heap.size := ⟨_, rfl⟩
  have HN3 := Lib.hid hN3
  clear hN3
  have HFEW2 : Hid (∀ st, ∀ q, q ∈ a ++ withB f st :: b → q.params.length ≤ 100000) := Lib.hid (fun st q hq => Nat.le_trans (fews (fun r hr => HFEW.out r (by rw [HSP.out.1]; exact hr)) q hq) (by decide))
  have gk1 : (k : Int) < (p.length : Int) := by have := HK.out; omega
  have gk0 : (0 : Int) ≤ (k : Int) := by omega
  clear HFEW
  have HSW : Hid (w7.cell? ⟨PB, 0, none⟩ = some (.slice (some ⟨sb, soff, none⟩) p.length cv) ∧ w7.cell? ⟨w3.heap.size, 0, none⟩ = some (.slice (some ⟨g, 0, none⟩) p.length cap) ∧ w7.cell? ⟨sb, soff + k * 5 + 3, none⟩ = some (.slice s2 f.body.length c2)) := Lib.hid ⟨(HB7.out.cell (p := ⟨PB, 0, none⟩) (lt_block HPB.out)).trans (cell_of HPB.out (j := 0) rfl), cell_of HQB.out (j := 0) rfl, (HB7.out.cell (p := ⟨sb, soff + k * 5 + 3, none⟩) HXB.out).trans HXC.out⟩
  have hs0 : w7.drew.cell? ⟨PB, 0, none⟩ = some (.slice (some ⟨sb, soff, none⟩) p.length cv) ∧ w7.drew.cell? ⟨w3.heap.size, 0, none⟩ = some (.slice (some ⟨g, 0, none⟩) p.length cap) ∧ w7.drew.cell? ⟨sb, soff + k * 5 + 3, none⟩ = some (.slice s2 f.body.length c2) := HSW.out
  refine wp_region_held (S := (fun w' : World => w'.cell? ⟨PB, 0, none⟩ = some (.slice (some ⟨sb, soff, none⟩) p.length cv) ∧ w'.cell? ⟨w3.heap.size, 0, none⟩ = some (.slice (some ⟨g, 0, none⟩) p.length cap) ∧ w'.cell? ⟨sb, soff + k * 5 + 3, none⟩ = some (.slice s2 f.body.length c2))) (by kernel_rfl) ?_
  refine wpAnyH_take (i := 0) (v := ?_) rfl (by kernel_rfl) (by kernel_rfl) (by kernel_rfl) (fun _ _ _ h => h) (Or.inl ⟨by rfl, ?_⟩) (by assumption) ?_
  rotate_left 1
  · (intro w hSw; (try dsimp only at hSw); go_simp; try with_reducible rfl)
  try simp only [Act.put, List.setIfInBounds_toArray, List.set_cons_zero, List.set_cons_succ, List.getElem_toArray, List.getElem_cons_zero]
  refine wpAnyH_take (i := 1) (v := ?_) rfl (by kernel_rfl) (by kernel_rfl) (by kernel_rfl) (fun _ _ _ h => h) (Or.inl ⟨by rfl, ?_⟩) (by assumption) ?_
  rotate_left 1
  · (intro w hSw; (try dsimp only at hSw); go_simp; try with_reducible rfl)
  try simp only [Act.put, List.setIfInBounds_toArray, List.set_cons_zero, List.set_cons_succ, List.getElem_toArray, List.getElem_cons_zero, List.getElem_cons_succ]
  refine wpAnyH_take (i := 2) (v := ?_) rfl (by kernel_rfl) (by kernel_rfl) (by kernel_rfl) (fun _ _ _ h => h) (Or.inl ⟨by rfl, ?_⟩) (by assumption) ?_
  rotate_left 1
  · (intro w hSw; (try dsimp only at hSw); go_simp; try with_reducible rfl)
  try simp only [Act.put, List.setIfInBounds_toArray, List.set_cons_zero, List.set_cons_succ, List.getElem_toArray, List.getElem_cons_zero, List.getElem_cons_succ]
  refine wpAnyH_take (i := 3) (v := ?_) rfl (by kernel_rfl) (by kernel_rfl) (by kernel_rfl) (fun _ _ _ h => h) (Or.inl ⟨by rfl, ?_⟩) (by assumption) ?_
  rotate_left 1
  · (intro w hSw; (try dsimp only at hSw); go_simp; try with_reducible rfl)
  try simp only [Act.put, List.setIfInBounds_toArray, List.set_cons_zero, List.set_cons_succ, List.getElem_toArray, List.getElem_cons_zero, List.getElem_cons_succ]
  refine wpAnyH_take (i := 7) (v := ?_) rfl (by kernel_rfl) (by kernel_rfl) (by kernel_rfl) (fun _ _ _ h => h) (Or.inl ⟨by rfl, ?_⟩) (by assumption) ?_
  rotate_left 1
  · (intro w hSw; (try dsimp only at hSw); go_simp; try with_reducible rfl)
  try simp only [Act.put, List.setIfInBounds_toArray, List.set_cons_zero, List.set_cons_succ, List.getElem_toArray, List.getElem_cons_zero, List.getElem_cons_succ]
  refine wpAnyH_take (i := 8) (v := ?_) rfl (by kernel_rfl) (by kernel_rfl) (by kernel_rfl) (fun _ _ _ h => h) (Or.inl ⟨by rfl, ?_⟩) (by assumption) ?_
  rotate_left 1
  · (intro w hSw; (try dsimp only at hSw); go_simp; try with_reducible rfl)
  try simp only [Act.put, List.setIfInBounds_toArray, List.set_cons_zero, List.set_cons_succ, List.getElem_toArray, List.getElem_cons_zero, List.getElem_cons_succ]
  refine wpAnyH_take (i := 9) (v := ?_) rfl (by kernel_rfl) (by kernel_rfl) (by kernel_rfl) (fun _ _ _ h => h) (Or.inl ⟨by rfl, ?_⟩) (by assumption) ?_
  rotate_left 1
  · (intro w hSw; (try dsimp only at hSw); go_simp; try with_reducible rfl)
  try simp only [Act.put, List.setIfInBounds_toArray, List.set_cons_zero, List.set_cons_succ, List.getElem_toArray, List.getElem_cons_zero, List.getElem_cons_succ]
  refine wpAnyH_take (i := 10) (v := ?_) rfl (by kernel_rfl) (by kernel_rfl) (by kernel_rfl) (fun _ _ _ h => h) (Or.inl ⟨by rfl, ?_⟩) (by assumption) ?_
  rotate_left 1
  · (intro w hSw; (try dsimp only at hSw); go_simp; try with_reducible rfl)
  try simp only [Act.put, List.setIfInBounds_toArray, List.set_cons_zero, List.set_cons_succ, List.getElem_toArray, List.getElem_cons_zero, List.getElem_cons_succ]
  refine wpAnyH_take (i := 11) (v := ?_) rfl (by kernel_rfl) (by kernel_rfl) (by kernel_rfl) (fun _ _ _ h => h) (Or.inl ⟨by rfl, ?_⟩) (by assumption) ?_
  rotate_left 1
  · (intro w hSw; (try dsimp only at hSw); go_simp; try with_reducible rfl)
  try simp only [Act.put, List.setIfInBounds_toArray, List.set_cons_zero, List.set_cons_succ, List.getElem_toArray, List.getElem_cons_zero, List.getElem_cons_succ]
  refine wpAnyH_take (i := 12) (v := ?_) rfl (by kernel_rfl) (by kernel_rfl) (by kernel_rfl) (fun _ _ _ h => h) (Or.inl ⟨by rfl, ?_⟩) (by assumption) ?_
  rotate_left 1
  · (intro w hSw; (try dsimp only at hSw); go_simp; try with_reducible rfl)
  try simp only [Act.put, List.setIfInBounds_toArray, List.set_cons_zero, List.set_cons_succ, List.getElem_toArray, List.getElem_cons_zero, List.getElem_cons_succ]
  clear hs0
  refine wpAnyH_ready (rs := [4]) (by kernel_rfl) (by simp) ?_
  refine (AllReadyH.cons rfl (fun K hK => ?_) AllReadyH.nil)
  go_simp
  have HA1 : Hid (Below w7.heap.size w7 (w7.drew.alloc (.cells #[.int .i64 1, .int .i64 0, .string ⟨#[]⟩, .slice none 0 0, .int .i64 0] 44))) := Lib.hid (up_alloc (up_drew (Below.refl _ _)) _)
  refine hK.out _ _ ?_ (fun hHeld => ?_)
  · have q := HSW.out
    exact ⟨(HA1.out.cell (lt_of_cell q.1)).trans q.1, (HA1.out.cell (lt_of_cell q.2.1)).trans q.2.1, (HA1.out.cell (lt_of_cell q.2.2)).trans q.2.2⟩
  clear hK K
  try simp only [Act.put, List.setIfInBounds_toArray, List.set_cons_zero, List.set_cons_succ, List.getElem_toArray, List.getElem_cons_zero, List.getElem_cons_succ]
  refine wpAnyH_take (i := 5) (v := ?_) rfl (by kernel_rfl) (by kernel_rfl) (by kernel_rfl) (fun _ _ _ h => h) (Or.inl ⟨by rfl, ?_⟩) (by assumption) ?_
  rotate_left 1
  · (intro w hSw; (try dsimp only at hSw); go_simp; try with_reducible rfl)
  try simp only [Act.put, List.setIfInBounds_toArray, List.set_cons_zero, List.set_cons_succ, List.getElem_toArray, List.getElem_cons_zero, List.getElem_cons_succ]
  refine wpAnyH_ready (rs := [6]) (by kernel_rfl) (by simp) ?_
  refine (AllReadyH.cons rfl (fun K hK => ?_) AllReadyH.nil)
  go_simp
  have HA2 : Hid (Below w7.heap.size w7 ((w7.drew.alloc (.cells #[.int .i64 1, .int .i64 0, .string ⟨#[]⟩, .slice none 0 0, .int .i64 0] 44)).alloc (.cells #[.int .i64 2, .string ⟨#[78, 79, 66, 79, 68, 89]⟩, .slice (some ⟨w7.heap.size, 0, none⟩) 1 1, .slice none 0 0, .slice none 0 0, .int .i64 5] 46))) := Lib.hid (up_alloc HA1.out _)
  have HEB : Hid (((w7.drew.alloc (.cells #[.int .i64 1, .int .i64 0, .string ⟨#[]⟩, .slice none 0 0, .int .i64 0] 44)).alloc (.cells #[.int .i64 2, .string ⟨#[78, 79, 66, 79, 68, 89]⟩, .slice (some ⟨w7.heap.size, 0, none⟩) 1 1, .slice none 0 0, .slice none 0 0, .int .i64 5] 46)).heap[w7.heap.size]? = some (.cells #[.int .i64 1, .int .i64 0, .string ⟨#[]⟩, .slice none 0 0, .int .i64 0] 44 (0, 0))) := Lib.hid (old_heap _ _ _ _ (new_heap _ _ _ rfl))
  have HOWN : Hid (((w7.drew.alloc (.cells #[.int .i64 1, .int .i64 0, .string ⟨#[]⟩, .slice none 0 0, .int .i64 0] 44)).alloc (.cells #[.int .i64 2, .string ⟨#[78, 79, 66, 79, 68, 89]⟩, .slice (some ⟨w7.heap.size, 0, none⟩) 1 1, .slice none 0 0, .slice none 0 0, .int .i64 5] 46)).ownsRow w7.heap.size 46 6 (.slice (some ⟨w7.heap.size + 1, 0, none⟩) 1 1) 1 [.int .i64 2, .string ⟨#[78, 79, 66, 79, 68, 89]⟩, .slice (some ⟨w7.heap.size, 0, none⟩) 1 1, .slice none 0 0, .slice none 0 0, .int .i64 5]) := Lib.hid (own_lit (new_heap _ _ _ (by rw [size_alloc]; rfl)) (by omega) rfl (by decide))
  refine hK.out _ _ ?_ (fun hHeld => ?_)
  · have q := HSW.out
    exact ⟨(HA2.out.cell (lt_of_cell q.1)).trans q.1, (HA2.out.cell (lt_of_cell q.2.1)).trans q.2.1, (HA2.out.cell (lt_of_cell q.2.2)).trans q.2.2⟩
  clear hK K
  try simp only [Act.put, List.setIfInBounds_toArray, List.set_cons_zero, List.set_cons_succ, List.getElem_toArray, List.getElem_cons_zero, List.getElem_cons_succ]
  refine wpAnyH_ready (rs := [13]) (by kernel_rfl) (by simp) ?_
  refine (AllReadyH.cons rfl (fun K hK => ?_) AllReadyH.nil)
  have hown := HOWN.out
  obtain ⟨ins, hi0, hi1, hi2, hi3⟩ := infoSt
  refine step_append_any rfl _ _ _ rfl w7.heap.size 46 ins _ 6 104 (by kernel_rfl) hi0 hi1 hi2 hi3 rfl (by decide) _ _ _ _ rfl hown _ _ _ (flat bs f.body.length) rfl HBN.out (flat_len HBL.out) (row_news (by decide) (HBROW.out.keep (Stays.of_below (HB7.out.trans (HA2.out.mono HB7.out.size))))) HBO.out (by have := HK.out; unfold maxLen; omega) (by have := HK.out; omega) HA2.out.size (fun h cap2 wA hown2 hg2 => ?_)
  have HA3 : Hid (Below w7.heap.size w7 wA) := Lib.hid (grown_keep hg2 HA2.out (by omega))
  replace HEB := Lib.hid (grown_heap hg2 (own_ne hown HEB.out (by decide)) HEB.out)
  replace HOWN := Lib.hid hown2
  clear hown hown2 hg2 hi0 hi1 hi2 hi3
  refine hK.out _ _ ?_ (fun hHeld => ?_)
  · have q := HSW.out
    exact ⟨(HA3.out.cell (lt_of_cell q.1)).trans q.1, (HA3.out.cell (lt_of_cell q.2.1)).trans q.2.1, (HA3.out.cell (lt_of_cell q.2.2)).trans q.2.2⟩
  clear hK K
  try simp only [Act.put, List.setIfInBounds_toArray, List.set_cons_zero, List.set_cons_succ, List.getElem_toArray, List.getElem_cons_zero, List.getElem_cons_succ]
  refine wpAnyH_take (i := 14) (v := ?_) rfl (by kernel_rfl) (by kernel_rfl) (by kernel_rfl) (fun _ _ _ h => h) (Or.inl ⟨by rfl, ?_⟩) (by assumption) ?_
  rotate_left 1
  · (intro w hSw; (try dsimp only at hSw); go_simp; try with_reducible rfl)
  try simp only [Act.put, List.setIfInBounds_toArray, List.set_cons_zero, List.set_cons_succ, List.getElem_toArray, List.getElem_cons_zero, List.getElem_cons_succ]
  refine wpAnyH_take (i := 15) (v := ?_) rfl (by kernel_rfl) (by kernel_rfl) (by kernel_rfl) (fun _ _ _ h => h) (Or.inl ⟨by rfl, ?_⟩) (by assumption) ?_
  rotate_left 1
  · (intro w hSw; (try dsimp only at hSw); go_simp; try with_reducible rfl)
  try simp only [Act.put, List.setIfInBounds_toArray, List.set_cons_zero, List.set_cons_succ, List.getElem_toArray, List.getElem_cons_zero, List.getElem_cons_succ]
  have HQ3 := Lib.hid (HQA.out.below HA3.out)
  have cz : wA.cell? ⟨g, k * 5 + 3, none⟩ = some (.slice s2 f.body.length c2) := (HQ3.out.cell HK.out.1 (by decide)).trans (by simp [HCF.out])
  have cy : wA.frozen? ⟨g, k * 5 + 3, none⟩ = false := by obtain ⟨arr, ha⟩ := HQ3.out.obj; exact frozen_of ha _
  refine wpAnyH_ready (rs := [16]) (by kernel_rfl) (by simp) ?_
  refine (AllReadyH.cons rfl (fun K hK => ?_) AllReadyH.nil)
  go_simp
  have HC1 : Hid (Below N3 w3 (wA.setCell ⟨g, k * 5 + 3, none⟩ (.slice (some ⟨h, 0, none⟩) (1 + f.body.length) cap2))) := Lib.hid ((by rw [HN3.out]; exact (HB7.out.trans (HA3.out.mono HB7.out.size)) : Below N3 w3 wA).setCell (p := ⟨g, k * 5 + 3, none⟩) (by rw [HN3.out]; exact Nat.le_of_lt HGQ.out) _)
  have HQ4 := Lib.hid (HQ3.out.set HK.out.1 (j0 := 3) (by decide) (.slice (some ⟨h, 0, none⟩) (1 + f.body.length) cap2))
  have hng : ∀ b o, wA.heap[b]? = some o → b ≠ g → (wA.setCell ⟨g, k * 5 + 3, none⟩ (.slice (some ⟨h, 0, none⟩) (1 + f.body.length) cap2)).heap[b]? = some o := fun b o ho hne => (setCell_heap _ _ _ _ hne).trans ho
  have HNG := Lib.hid hng
  have hqb := hng _ _ ((HA3.out.block _ (lt_block HQB.out)).trans HQB.out) (fun e => by have := HGQ.out; omega)
  obtain ⟨arr4, hga⟩ := HQ3.out.obj
  have heb := hng _ _ HEB.out (fun e => by have q := HEB.out; rw [e, hga] at q; injection q with q; injection q with _ q; exact absurd q (by decide))
  have hown := own_keep_ne (j := k * 5 + 3) (u := (.slice (some ⟨h, 0, none⟩) (1 + f.body.length) cap2)) HOWN.out (own_ne HOWN.out hga (by decide))
  have HEB2 := Lib.hid heb
  have HOWN2 := Lib.hid hown
  have HQB2 := Lib.hid hqb
  refine hK.out _ _ ?_ (fun hHeld => ?_)
  · have q := HSW.out
    have hx : Below w3.heap.size w3 (wA.setCell ⟨g, k * 5 + 3, none⟩ (.slice (some ⟨h, 0, none⟩) (1 + f.body.length) cap2)) := by rw [← HN3.out]; exact HC1.out
    exact ⟨(hx.cell (p := ⟨PB, 0, none⟩) (lt_block HPB.out)).trans (cell_of HPB.out (j := 0) rfl), cell_of HQB2.out (j := 0) rfl, (hx.cell (p := ⟨sb, soff + k * 5 + 3, none⟩) HXB.out).trans HXC.out⟩
  clear hK K cz cy hng heb hown hqb hga arr4 HEB HOWN HQB HQA HQ3 HA1 HA2 HA3 HSW HNG
  try simp only [Act.put, List.setIfInBounds_toArray, List.set_cons_zero, List.set_cons_succ, List.getElem_toArray, List.getElem_cons_zero, List.getElem_cons_succ]
  refine wpAnyH_done (by kernel_rfl) ?_ _
  generalize (wA.setCell ⟨g, k * 5 + 3, none⟩ (.slice (some ⟨h, 0, none⟩) (1 + f.body.length) cap2)) = wC at *
  generalize hEB : w7.heap.size = EB at *
  clear hEB
  have hbc : Below w3.heap.size w3 wC := by rw [← HN3.out]; exact HC1.out
  have HBC := Lib.hid hbc
  have hrp : RepFns Any wC (.slice (some ⟨g, 0, none⟩) p.length cap) (a ++ withB f setN :: b) := by
    have hsts : RepSts Any wC (.slice (some ⟨h, 0, none⟩) (1 + f.body.length) cap2) (setN :: f.body) := sts_own HOWN2.out rfl HBL.out (st_mk (exs_lit1 HEB2.out (RepExs.nil Any _)) (RepSts.nil Any _) (RepSts.nil Any _)) (fun i hi => (HBIT.out i hi).keep (Stays.of_below hbc))
    refine fns_upd (cs := cs) ?_ (fun i hi => ?_) hsts
    · have q := HQ4.out.row.mono (S' := Any) (fun _ _ => trivial)
      rw [← HSP.out.1, HSP.out.2]
      exact q
    · rw [← HSP.out.1] at hi ⊢
      exact ((HIT.out i hi).keep (Stays.of_below hbc)).mono (fun _ _ => trivial)
  have HCK := Lib.hid (check_ck _ (HFEW2.out setN) _ _ hrp)
  rw [name_set (by rw [← HSP.out.1]; exact HC0.out) (by rw [← HSP.out.1]; exact HLOW.out)] at HCK
  clear hbc hrp
  have q0 : wC.cell? ⟨w3.heap.size, 0, none⟩ = some (.slice (some ⟨g, 0, none⟩) p.length cap) := cell_of HQB2.out (j := 0) rfl
  go_wp2_with fail
  refine HCK.out.mono ?_
  rintro e w10 ⟨rfl, hbd⟩
  have HB7 := Lib.hid (HBC.out.trans (hbd.mono HBC.out.size))
  have HQB := Lib.hid ((hbd.block _ (lt_block HQB2.out)).trans HQB2.out)
  have HQA := Lib.hid (HQ4.out.below hbd)
  clear hbd q0 HCK HBC HQ4 HQB2 HOWN2 HEB2 HC1
  dsimp only
  obtain ⟨cs1, hcs1⟩ : ∃ c, c = (fun i => if i = k then (cs k).set 3 (.slice (some ⟨h, 0, none⟩) (1 + f.body.length) cap2) else cs i) := ⟨_, rfl⟩
  rw [← hcs1] at HQA
  have HCF1 : Hid (cs1 k = [.string nm, .slice s1 n1 c1, .int .i64 rs, .slice (some ⟨h, 0, none⟩) (1 + f.body.length) cap2, .int .i64 pos]) := Lib.hid (by rw [hcs1]; simp [HCF.out])
  have HTW : Hid (∀ u, (fun i => if i = k then (cs1 k).set 3 u else cs1 i) = fun i => if i = k then (cs k).set 3 u else cs i) := Lib.hid (fun u => by funext i; by_cases e : i = k <;> simp [hcs1, e])
  clear hcs1
  go_upto_region 10 with fail
  have HSW : Hid (w10.cell? ⟨PB, 0, none⟩ = some (.slice (some ⟨sb, soff, none⟩) p.length cv) ∧ w10.cell? ⟨w3.heap.size, 0, none⟩ = some (.slice (some ⟨g, 0, none⟩) p.length cap) ∧ w10.cell? ⟨sb, soff + k * 5 + 3, none⟩ = some (.slice s2 f.body.length c2)) := Lib.hid ⟨(HB7.out.cell (p := ⟨PB, 0, none⟩) (lt_block HPB.out)).trans (cell_of HPB.out (j := 0) rfl), cell_of HQB.out (j := 0) rfl, (HB7.out.cell (p := ⟨sb, soff + k * 5 + 3, none⟩) HXB.out).trans HXC.out⟩
  have hs0 : w10.drew.cell? ⟨PB, 0, none⟩ = some (.slice (some ⟨sb, soff, none⟩) p.length cv) ∧ w10.drew.cell? ⟨w3.heap.size, 0, none⟩ = some (.slice (some ⟨g, 0, none⟩) p.length cap) ∧ w10.drew.cell? ⟨sb, soff + k * 5 + 3, none⟩ = some (.slice s2 f.body.length c2) := HSW.out
  refine wp_region_held (S := (fun w' : World => w'.cell? ⟨PB, 0, none⟩ = some (.slice (some ⟨sb, soff, none⟩) p.length cv) ∧ w'.cell? ⟨w3.heap.size, 0, none⟩ = some (.slice (some ⟨g, 0, none⟩) p.length cap) ∧ w'.cell? ⟨sb, soff + k * 5 + 3, none⟩ = some (.slice s2 f.body.length c2))) (by kernel_rfl) ?_
  refine wpAnyH_take (i := 0) (v := ?_) rfl (by kernel_rfl) (by kernel_rfl) (by kernel_rfl) (fun _ _ _ h => h) (Or.inl ⟨by rfl, ?_⟩) (by assumption) ?_
  rotate_left 1
  · (intro w hSw; (try dsimp only at hSw); go_simp; try with_reducible rfl)
  try simp only [Act.put, List.setIfInBounds_toArray, List.set_cons_zero, List.set_cons_succ, List.getElem_toArray, List.getElem_cons_zero]
  refine wpAnyH_take (i := 1) (v := ?_) rfl (by kernel_rfl) (by kernel_rfl) (by kernel_rfl) (fun _ _ _ h => h) (Or.inl ⟨by rfl, ?_⟩) (by assumption) ?_
  rotate_left 1
  · (intro w hSw; (try dsimp only at hSw); go_simp; try with_reducible rfl)
  try simp only [Act.put, List.setIfInBounds_toArray, List.set_cons_zero, List.set_cons_succ, List.getElem_toArray, List.getElem_cons_zero, List.getElem_cons_succ]
  refine wpAnyH_take (i := 2) (v := ?_) rfl (by kernel_rfl) (by kernel_rfl) (by kernel_rfl) (fun _ _ _ h => h) (Or.inl ⟨by rfl, ?_⟩) (by assumption) ?_
  rotate_left 1
  · (intro w hSw; (try dsimp only at hSw); go_simp; try with_reducible rfl)
  try simp only [Act.put, List.setIfInBounds_toArray, List.set_cons_zero, List.set_cons_succ, List.getElem_toArray, List.getElem_cons_zero, List.getElem_cons_succ]
  refine wpAnyH_take (i := 3) (v := ?_) rfl (by kernel_rfl) (by kernel_rfl) (by kernel_rfl) (fun _ _ _ h => h) (Or.inl ⟨by rfl, ?_⟩) (by assumption) ?_
  rotate_left 1
  · (intro w hSw; (try dsimp only at hSw); go_simp; try with_reducible rfl)
  try simp only [Act.put, List.setIfInBounds_toArray, List.set_cons_zero, List.set_cons_succ, List.getElem_toArray, List.getElem_cons_zero, List.getElem_cons_succ]
  refine wpAnyH_take (i := 7) (v := ?_) rfl (by kernel_rfl) (by kernel_rfl) (by kernel_rfl) (fun _ _ _ h => h) (Or.inl ⟨by rfl, ?_⟩) (by assumption) ?_
  rotate_left 1
  · (intro w hSw; (try dsimp only at hSw); go_simp; try with_reducible rfl)
  try simp only [Act.put, List.setIfInBounds_toArray, List.set_cons_zero, List.set_cons_succ, List.getElem_toArray, List.getElem_cons_zero, List.getElem_cons_succ]
  refine wpAnyH_take (i := 8) (v := ?_) rfl (by kernel_rfl) (by kernel_rfl) (by kernel_rfl) (fun _ _ _ h => h) (Or.inl ⟨by rfl, ?_⟩) (by assumption) ?_
  rotate_left 1
  · (intro w hSw; (try dsimp only at hSw); go_simp; try with_reducible rfl)
  try simp only [Act.put, List.setIfInBounds_toArray, List.set_cons_zero, List.set_cons_succ, List.getElem_toArray, List.getElem_cons_zero, List.getElem_cons_succ]
  refine wpAnyH_take (i := 9) (v := ?_) rfl (by kernel_rfl) (by kernel_rfl) (by kernel_rfl) (fun _ _ _ h => h) (Or.inl ⟨by rfl, ?_⟩) (by assumption) ?_
  rotate_left 1
  · (intro w hSw; (try dsimp only at hSw); go_simp; try with_reducible rfl)
  try simp only [Act.put, List.setIfInBounds_toArray, List.set_cons_zero, List.set_cons_succ, List.getElem_toArray, List.getElem_cons_zero, List.getElem_cons_succ]
  refine wpAnyH_take (i := 10) (v := ?_) rfl (by kernel_rfl) (by kernel_rfl) (by kernel_rfl) (fun _ _ _ h => h) (Or.inl ⟨by rfl, ?_⟩) (by assumption) ?_
  rotate_left 1
  · (intro w hSw; (try dsimp only at hSw); go_simp; try with_reducible rfl)
  try simp only [Act.put, List.setIfInBounds_toArray, List.set_cons_zero, List.set_cons_succ, List.getElem_toArray, List.getElem_cons_zero, List.getElem_cons_succ]
  refine wpAnyH_take (i := 11) (v := ?_) rfl (by kernel_rfl) (by kernel_rfl) (by kernel_rfl) (fun _ _ _ h => h) (Or.inl ⟨by rfl, ?_⟩) (by assumption) ?_
  rotate_left 1
  · (intro w hSw; (try dsimp only at hSw); go_simp; try with_reducible rfl)
  try simp only [Act.put, List.setIfInBounds_toArray, List.set_cons_zero, List.set_cons_succ, List.getElem_toArray, List.getElem_cons_zero, List.getElem_cons_succ]
  refine wpAnyH_take (i := 12) (v := ?_) rfl (by kernel_rfl) (by kernel_rfl) (by kernel_rfl) (fun _ _ _ h => h) (Or.inl ⟨by rfl, ?_⟩) (by assumption) ?_
  rotate_left 1
  · (intro w hSw; (try dsimp only at hSw); go_simp; try with_reducible rfl)
  try simp only [Act.put, List.setIfInBounds_toArray, List.set_cons_zero, List.set_cons_succ, List.getElem_toArray, List.getElem_cons_zero, List.getElem_cons_succ]
  clear hs0
  refine wpAnyH_ready (rs := [4]) (by kernel_rfl) (by simp) ?_
  refine (AllReadyH.cons rfl (fun K hK => ?_) AllReadyH.nil)
  go_simp
  have HA1 : Hid (Below w10.heap.size w10 (w10.drew.alloc (.cells #[.int .i64 5, .int .i64 0, .string ⟨#[78, 79, 66, 79, 68, 89]⟩, .slice none 0 0, .int .i64 7] 44))) := Lib.hid (up_alloc (up_drew (Below.refl _ _)) _)
  refine hK.out _ _ ?_ (fun hHeld => ?_)
  · have q := HSW.out
    exact ⟨(HA1.out.cell (lt_of_cell q.1)).trans q.1, (HA1.out.cell (lt_of_cell q.2.1)).trans q.2.1, (HA1.out.cell (lt_of_cell q.2.2)).trans q.2.2⟩
  clear hK K
  try simp only [Act.put, List.setIfInBounds_toArray, List.set_cons_zero, List.set_cons_succ, List.getElem_toArray, List.getElem_cons_zero, List.getElem_cons_succ]
  refine wpAnyH_take (i := 5) (v := ?_) rfl (by kernel_rfl) (by kernel_rfl) (by kernel_rfl) (fun _ _ _ h => h) (Or.inl ⟨by rfl, ?_⟩) (by assumption) ?_
  rotate_left 1
  · (intro w hSw; (try dsimp only at hSw); go_simp; try with_reducible rfl)
  try simp only [Act.put, List.setIfInBounds_toArray, List.set_cons_zero, List.set_cons_succ, List.getElem_toArray, List.getElem_cons_zero, List.getElem_cons_succ]
  refine wpAnyH_ready (rs := [6]) (by kernel_rfl) (by simp) ?_
  refine (AllReadyH.cons rfl (fun K hK => ?_) AllReadyH.nil)
  go_simp
  have HA2 : Hid (Below w10.heap.size w10 ((w10.drew.alloc (.cells #[.int .i64 5, .int .i64 0, .string ⟨#[78, 79, 66, 79, 68, 89]⟩, .slice none 0 0, .int .i64 7] 44)).alloc (.cells #[.int .i64 8, .string ⟨#[]⟩, .slice (some ⟨w10.heap.size, 0, none⟩) 1 1, .slice none 0 0, .slice none 0 0, .int .i64 0] 46))) := Lib.hid (up_alloc HA1.out _)
  have HEB : Hid (((w10.drew.alloc (.cells #[.int .i64 5, .int .i64 0, .string ⟨#[78, 79, 66, 79, 68, 89]⟩, .slice none 0 0, .int .i64 7] 44)).alloc (.cells #[.int .i64 8, .string ⟨#[]⟩, .slice (some ⟨w10.heap.size, 0, none⟩) 1 1, .slice none 0 0, .slice none 0 0, .int .i64 0] 46)).heap[w10.heap.size]? = some (.cells #[.int .i64 5, .int .i64 0, .string ⟨#[78, 79, 66, 79, 68, 89]⟩, .slice none 0 0, .int .i64 7] 44 (0, 0))) := Lib.hid (old_heap _ _ _ _ (new_heap _ _ _ rfl))
  have HOWN : Hid (((w10.drew.alloc (.cells #[.int .i64 5, .int .i64 0, .string ⟨#[78, 79, 66, 79, 68, 89]⟩, .slice none 0 0, .int .i64 7] 44)).alloc (.cells #[.int .i64 8, .string ⟨#[]⟩, .slice (some ⟨w10.heap.size, 0, none⟩) 1 1, .slice none 0 0, .slice none 0 0, .int .i64 0] 46)).ownsRow w10.heap.size 46 6 (.slice (some ⟨w10.heap.size + 1, 0, none⟩) 1 1) 1 [.int .i64 8, .string ⟨#[]⟩, .slice (some ⟨w10.heap.size, 0, none⟩) 1 1, .slice none 0 0, .slice none 0 0, .int .i64 0]) := Lib.hid (own_lit (new_heap _ _ _ (by rw [size_alloc]; rfl)) (by omega) rfl (by decide))
  refine hK.out _ _ ?_ (fun hHeld => ?_)
  · have q := HSW.out
    exact ⟨(HA2.out.cell (lt_of_cell q.1)).trans q.1, (HA2.out.cell (lt_of_cell q.2.1)).trans q.2.1, (HA2.out.cell (lt_of_cell q.2.2)).trans q.2.2⟩
  clear hK K
  try simp only [Act.put, List.setIfInBounds_toArray, List.set_cons_zero, List.set_cons_succ, List.getElem_toArray, List.getElem_cons_zero, List.getElem_cons_succ]
  refine wpAnyH_ready (rs := [13]) (by kernel_rfl) (by simp) ?_
  refine (AllReadyH.cons rfl (fun K hK => ?_) AllReadyH.nil)
  have hown := HOWN.out
  obtain ⟨ins, hi0, hi1, hi2, hi3⟩ := infoSt
  refine step_append_any rfl _ _ _ rfl w10.heap.size 46 ins _ 6 104 (by kernel_rfl) hi0 hi1 hi2 hi3 rfl (by decide) _ _ _ _ rfl hown _ _ _ (flat bs f.body.length) rfl HBN.out (flat_len HBL.out) (row_news (by decide) (HBROW.out.keep (Stays.of_below (HB7.out.trans (HA2.out.mono HB7.out.size))))) HBO.out (by have := HK.out; unfold maxLen; omega) (by have := HK.out; omega) HA2.out.size (fun hh cap3 wA hown2 hg2 => ?_)
  have HA3 : Hid (Below w10.heap.size w10 wA) := Lib.hid (grown_keep hg2 HA2.out (by omega))
  replace HEB := Lib.hid (grown_heap hg2 (own_ne hown HEB.out (by decide)) HEB.out)
  replace HOWN := Lib.hid hown2
  clear hown hown2 hg2 hi0 hi1 hi2 hi3
  refine hK.out _ _ ?_ (fun hHeld => ?_)
  · have q := HSW.out
    exact ⟨(HA3.out.cell (lt_of_cell q.1)).trans q.1, (HA3.out.cell (lt_of_cell q.2.1)).trans q.2.1, (HA3.out.cell (lt_of_cell q.2.2)).trans q.2.2⟩
  clear hK K
  try simp only [Act.put, List.setIfInBounds_toArray, List.set_cons_zero, List.set_cons_succ, List.getElem_toArray, List.getElem_cons_zero, List.getElem_cons_succ]
  refine wpAnyH_take (i := 14) (v := ?_) rfl (by kernel_rfl) (by kernel_rfl) (by kernel_rfl) (fun _ _ _ h => h) (Or.inl ⟨by rfl, ?_⟩) (by assumption) ?_
  rotate_left 1
  · (intro w hSw; (try dsimp only at hSw); go_simp; try with_reducible rfl)
  try simp only [Act.put, List.setIfInBounds_toArray, List.set_cons_zero, List.set_cons_succ, List.getElem_toArray, List.getElem_cons_zero, List.getElem_cons_succ]
  refine wpAnyH_take (i := 15) (v := ?_) rfl (by kernel_rfl) (by kernel_rfl) (by kernel_rfl) (fun _ _ _ h => h) (Or.inl ⟨by rfl, ?_⟩) (by assumption) ?_
  rotate_left 1
  · (intro w hSw; (try dsimp only at hSw); go_simp; try with_reducible rfl)
  try simp only [Act.put, List.setIfInBounds_toArray, List.set_cons_zero, List.set_cons_succ, List.getElem_toArray, List.getElem_cons_zero, List.getElem_cons_succ]
  have HQ3 := Lib.hid (HQA.out.below HA3.out)
  have cz : wA.cell? ⟨g, k * 5 + 3, none⟩ = some (.slice (some ⟨h, 0, none⟩) (1 + f.body.length) cap2) := (HQ3.out.cell HK.out.1 (by decide)).trans (by simp [HCF1.out])
  have cy : wA.frozen? ⟨g, k * 5 + 3, none⟩ = false := by obtain ⟨arr, ha⟩ := HQ3.out.obj; exact frozen_of ha _
  refine wpAnyH_ready (rs := [16]) (by kernel_rfl) (by simp) ?_
  refine (AllReadyH.cons rfl (fun K hK => ?_) AllReadyH.nil)
  go_simp
  have HC1 : Hid (Below N3 w3 (wA.setCell ⟨g, k * 5 + 3, none⟩ (.slice (some ⟨hh, 0, none⟩) (1 + f.body.length) cap3))) := Lib.hid ((by rw [HN3.out]; exact (HB7.out.trans (HA3.out.mono HB7.out.size)) : Below N3 w3 wA).setCell (p := ⟨g, k * 5 + 3, none⟩) (by rw [HN3.out]; exact Nat.le_of_lt HGQ.out) _)
  have HQ4 := Lib.hid (HQ3.out.set HK.out.1 (j0 := 3) (by decide) (.slice (some ⟨hh, 0, none⟩) (1 + f.body.length) cap3))
  have hng : ∀ b o, wA.heap[b]? = some o → b ≠ g → (wA.setCell ⟨g, k * 5 + 3, none⟩ (.slice (some ⟨hh, 0, none⟩) (1 + f.body.length) cap3)).heap[b]? = some o := fun b o ho hne => (setCell_heap _ _ _ _ hne).trans ho
  have HNG := Lib.hid hng
  have hqb := hng _ _ ((HA3.out.block _ (lt_block HQB.out)).trans HQB.out) (fun e => by have := HGQ.out; omega)
  obtain ⟨arr4, hga⟩ := HQ3.out.obj
  have heb := hng _ _ HEB.out (fun e => by have q := HEB.out; rw [e, hga] at q; injection q with q; injection q with _ q; exact absurd q (by decide))
  have hown := own_keep_ne (j := k * 5 + 3) (u := (.slice (some ⟨hh, 0, none⟩) (1 + f.body.length) cap3)) HOWN.out (own_ne HOWN.out hga (by decide))
  have HEB2 := Lib.hid heb
  have HOWN2 := Lib.hid hown
  have HQB2 := Lib.hid hqb
  refine hK.out _ _ ?_ (fun hHeld => ?_)
  · have q := HSW.out
    have hx : Below w3.heap.size w3 (wA.setCell ⟨g, k * 5 + 3, none⟩ (.slice (some ⟨hh, 0, none⟩) (1 + f.body.length) cap3)) := by rw [← HN3.out]; exact HC1.out
    exact ⟨(hx.cell (p := ⟨PB, 0, none⟩) (lt_block HPB.out)).trans (cell_of HPB.out (j := 0) rfl), cell_of HQB2.out (j := 0) rfl, (hx.cell (p := ⟨sb, soff + k * 5 + 3, none⟩) HXB.out).trans HXC.out⟩
  clear hK K cz cy hng heb hown hqb hga arr4 HEB HOWN HQB HQA HQ3 HA1 HA2 HA3 HSW HNG
  try simp only [Act.put, List.setIfInBounds_toArray, List.set_cons_zero, List.set_cons_succ, List.getElem_toArray, List.getElem_cons_zero, List.getElem_cons_succ]
  refine wpAnyH_done (by kernel_rfl) ?_ _
  generalize (wA.setCell ⟨g, k * 5 + 3, none⟩ (.slice (some ⟨hh, 0, none⟩) (1 + f.body.length) cap3)) = wC at *
  generalize hEB : w10.heap.size = EB at *
  clear hEB
  have hbc : Below w3.heap.size w3 wC := by rw [← HN3.out]; exact HC1.out
  have HBC := Lib.hid hbc
  have hrp : RepFns Any wC (.slice (some ⟨g, 0, none⟩) p.length cap) (a ++ withB f doN :: b) := by
    have hsts : RepSts Any wC (.slice (some ⟨hh, 0, none⟩) (1 + f.body.length) cap3) (doN :: f.body) := sts_own HOWN2.out rfl HBL.out (st_mk (exs_lit1 HEB2.out (RepExs.nil Any _)) (RepSts.nil Any _) (RepSts.nil Any _)) (fun i hi => (HBIT.out i hi).keep (Stays.of_below hbc))
    refine fns_upd (cs := cs) ?_ (fun i hi => ?_) hsts
    · have q := HQ4.out.row.mono (S' := Any) (fun _ _ => trivial)
      rw [← HSP.out.1, HSP.out.2]
      rw [HTW.out] at q
      exact q
    · rw [← HSP.out.1] at hi ⊢
      exact ((HIT.out i hi).keep (Stays.of_below hbc)).mono (fun _ _ => trivial)
  have HCK := Lib.hid (check_ck _ (HFEW2.out doN) _ _ hrp)
  rw [name_do (by rw [← HSP.out.1]; exact HC0.out) (by rw [← HSP.out.1]; exact HLOW.out)] at HCK
  clear hbc hrp
  have q0 : wC.cell? ⟨w3.heap.size, 0, none⟩ = some (.slice (some ⟨g, 0, none⟩) p.length cap) := cell_of HQB2.out (j := 0) rfl
  go_wp2_with fail
  refine HCK.out.mono ?_
  rintro e w12 ⟨rfl, hbd⟩
  have HB7 := Lib.hid (HBC.out.trans (hbd.mono HBC.out.size))
  have HQB := Lib.hid ((hbd.block _ (lt_block HQB2.out)).trans HQB2.out)
  have HQA := Lib.hid (HQ4.out.below hbd)
  clear hbd q0 HCK HBC HQ4 HQB2 HOWN2 HEB2 HC1
  dsimp only
  go_wp2_with fail
  exact bodyPost_ret (v := .bool true) (by simp [results, Try.results5, go_sem]) rfl ⟨rfl, HB3.out.trans (HB7.out.mono HB3.out.size)⟩
end Go.Proofs.Ytpiamiaigjlafaa
