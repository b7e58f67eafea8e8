/-
  The right program that a text is: Front.
-/
import Derived.Test.YtpiamiaigjlafaaChkV
import Derived.Test.YtpiamiaigjlafaaParZ
namespace Go.Proofs.Ytpiamiaigjlafaa
open Go.RowKit

theorem list_len {α : Type} (en : Int) (one : Par α) : ∀ (f : Nat) (first : Bool) (acc : List α) (l : List Tk) (xs : List α) (r : List Tk), listP en one f first acc l = .ok (xs, r) → xs.length ≤ acc.length + f
  | 0, _, _, _, _, _, e => by cases e
  | f + 1, first, acc, l, xs, r, e => by
    unfold listP at e
    split at e
    · cases e; omega
    · obtain ⟨_, q, _, e⟩ := bind_inv e
      obtain ⟨x, q2, _, e⟩ := bind_inv e
      have := list_len en one f _ _ _ _ _ e
      simp at this
      omega
theorem func_len (en : Int) (l : List Tk) (x : Fn) (r : List Tk) (e : funcP en l = .ok (x, r)) : x.params.length ≤ l.length + 1 := by
  unfold funcP at e
  obtain ⟨_, q1, h1, e⟩ := bind_inv e
  obtain ⟨n, q2, h2, e⟩ := bind_inv e
  obtain ⟨_, q3, h3, e⟩ := bind_inv e
  obtain ⟨ps, q4, h4, e⟩ := bind_inv e
  have a1 := strict_must _ _ _ _ _ h1
  have a2 := strict_name _ _ _ _ h2
  have a3 := strict_must _ _ _ _ _ h3
  have a4 := list_len _ _ _ _ _ _ _ _ h4
  have hx : x.params = ps := by
    split at e
    · obtain ⟨t, q5, _, e⟩ := bind_inv e
      obtain ⟨b, q6, _, e⟩ := bind_inv e
      cases e
      rfl
    · obtain ⟨b, q6, _, e⟩ := bind_inv e
      cases e
      rfl
  rw [hx]
  simp at a4
  omega
theorem prog_len (en : Int) (B : Nat) : ∀ (f : Nat) (acc : List Fn) (l : List Tk) (xs : List Fn) (r : List Tk), (∀ x, x ∈ acc → x.params.length ≤ B) → l.length + 1 ≤ B → progP en f acc l = .ok (xs, r) → ∀ x, x ∈ xs → x.params.length ≤ B
  | 0, acc, l, xs, r, ha, hl, e => by cases e; exact ha
  | f + 1, acc, l, xs, r, ha, hl, e => by
    unfold progP at e
    split at e
    · cases e; exact ha
    · rename_i tk tr
      obtain ⟨x, q, h1, e⟩ := bind_inv e
      have a1 := strict_func _ _ _ _ h1
      have a2 := func_len _ _ _ _ h1
      refine prog_len en B f _ _ _ _ (fun y hy => ?_) (by omega) e
      rcases List.mem_append.1 hy with hy | hy
      · exact ha y hy
      · rw [List.mem_singleton] at hy
        subst hy
        omega
theorem parse_few {s : List UInt8} {l : List Fn} (h : parseT s = .ok l) : ∀ f, f ∈ l → f.params.length ≤ 2049 := by
  unfold parseT at h
  split at h
  · cases h
  · rename_i tk ht
    have hlen := lexT_len ht
    split at h
    · cases h
    · rename_i x r hp
      cases h
      exact prog_len _ 2049 _ _ _ _ _ (fun x hx => by cases hx) (by omega) hp
theorem front_err {s : List UInt8} {er p : Int} (h : parseT s = .error (er, p)) : frontT s = .error (er, p) := by
  unfold frontT
  rw [h]
theorem front_ok {s : List UInt8} {l : List Fn} {ca : Int} (h : parseT s = .ok l) (hq : checkC l = (0, ca)) : frontT s = .ok l := by
  unfold frontT
  rw [h]
  simp [hq]
theorem front_bad {s : List UInt8} {l : List Fn} {ce ca : Int} (h : parseT s = .ok l) (hq : checkC l = (ce, ca)) (hz : ¬ ce = 0) : frontT s = .error (ce, ca) := by
  unfold frontT
  rw [h]
  simp [hq, hz]
set_option maxRecDepth 100000 in
set_option maxHeartbeats 8000000 in
/-- Front: what the plain words say, whatever the text -/
theorem front_any (s0 : Option Addr) (cap : Nat) (s : List UInt8) (w : World) (hs : SrcAt w s0 s) (hl : s.length ≤ 1152921504606846976) (hc : s.length ≤ cap) :
    Calls Try.prog 9 #[.slice s0 s.length cap] w (ParseSays w (frontT s)) := by
  have HRB : Hid ((w.alloc (.cells #[.slice none 0 0] 26)).heap[w.heap.size]? = some (.cells #[.slice none 0 0] 26 (0, 0))) := Lib.hid (new_heap _ _ _ rfl)
  have hb1 : Below w.heap.size w (w.alloc (.cells #[.slice none 0 0] 26)) := up_alloc (Below.refl _ _) _
  have HPA := Lib.hid (parse_any s0 cap s _ (hs.later hb1) hl hc)
  have HB := Lib.hid hb1
  clear hb1 hs
  generalize hR : frontT s = R
  have HR := Lib.hid hR.symm
  clear hR
  go_enter Try.func9, Try.ntmps9
  go_upto_region 1 with fail
  generalize (w.alloc (.cells #[.slice none 0 0] 26)) = w1 at *
  have HW1 : Hid (w.heap.size < w1.heap.size) := Lib.hid (lt_block HRB.out)
  have HSW : Hid (w.heap.size ≤ w1.heap.size) := Lib.hid HB.out.size
  generalize hRB : w.heap.size = RB at *
  go_wp2_with fail
  refine HPA.out.mono ?_
  rintro e w2 ⟨hres, hb2⟩
  replace HRB := Lib.hid ((hb2.block _ (lt_block HRB.out)).trans HRB.out)
  have HSZ := Lib.hid (Nat.le_of_lt (lt_block HRB.out))
  replace HB := Lib.hid (HB.out.trans (hb2.mono (by rw [← hRB]; exact HB.out.size)))
  have HB12 := Lib.hid hb2
  clear hb2
  cases hpt : parseT s with
  | error er =>
    obtain ⟨er, p⟩ := er
    rw [hpt] at hres
    obtain ⟨hne, rfl⟩ := hres
    have hne2 : (er == 0) = false := beq_false_of_ne hne
    have HNE := Lib.hid hne
    have HPT := Lib.hid hpt
    clear hpt
    go_upto_region 2 with fail
    replace HRB : Hid ((w2.alloc (.cells #[.slice none 0 0] 26)).heap[RB]? = _) := Lib.hid (old_heap _ _ _ _ HRB.out)
    replace HB : Hid (Below RB w (w2.alloc (.cells #[.slice none 0 0] 26))) := Lib.hid (HB.out.trans ((up_alloc (Below.refl _ _) _).mono HSZ.out))
    clear HPA HSZ HB12
    generalize (w2.alloc (.cells #[.slice none 0 0] 26)) = w3 at *
    have HE := Lib.hid (HR.out.trans (front_err HPT.out))
    have r0 : w3.cell? ⟨RB, 0, none⟩ = some (.slice none 0 0) := cell_of HRB.out (j := 0) rfl
    have k0 : w3.frozen? ⟨RB, 0, none⟩ = false := frozen_of HRB.out 0
    go_wp2_with fail
    refine bodyPost_ret (v := .tuple #[.agg #[.slice none 0 0], .int .i64 er, .int .i64 p]) (by simp [results, Try.results9, go_sem, r0]) rfl ?_
    rw [HE.out]
    exact ⟨⟨HNE.out, rfl⟩, by rw [hRB]; exact HB.out.setCell (p := ⟨RB, 0, none⟩) (Nat.le_refl _) _⟩
  | ok l =>
    rw [hpt] at hres
    obtain ⟨v, rfl, hrep⟩ := hres
    have HPT := Lib.hid hpt
    have HREP := Lib.hid hrep
    clear hpt hrep
    obtain ⟨sv, nv, cv, rfl⟩ : ∃ s n c, v = .slice s n c := by obtain ⟨cs, ⟨a, b, e, _⟩, _⟩ := HREP.out; exact ⟨_, _, _, e⟩
    go_upto_region 2 with fail
    have hb3 : Below w2.heap.size w2 (w2.alloc (.cells #[.slice sv nv cv] 26)) := up_alloc (Below.refl _ _) _
    have HPB : Hid ((w2.alloc (.cells #[.slice sv nv cv] 26)).heap[w2.heap.size]? = some (.cells #[.slice sv nv cv] 26 (0, 0))) := Lib.hid (new_heap _ _ _ rfl)
    replace HRB := Lib.hid ((hb3.block _ (lt_block HRB.out)).trans HRB.out)
    replace HREP := Lib.hid (HREP.out.keep (Stays.of_below hb3))
    replace HB := Lib.hid (HB.out.trans (hb3.mono HSZ.out))
    have HSZ3 := Lib.hid hb3.size
    clear hb3
    generalize (w2.alloc (.cells #[.slice sv nv cv] 26)) = w3 at *
    generalize w2.heap.size = PB at *
    have HCK := Lib.hid (check_ck l (fun f hf => Nat.le_trans (parse_few HPT.out f hf) (by decide)) w3 (.slice sv nv cv) (HREP.out.mono (fun _ _ => trivial)))
    generalize hck : checkC l = q at *
    obtain ⟨ce, ca⟩ := q
    have HQ := Lib.hid hck
    clear hck
    dsimp only at HCK
    have p0 : w3.cell? ⟨PB, 0, none⟩ = some (.slice sv nv cv) := cell_of HPB.out (j := 0) rfl
    go_wp2_with fail
    refine HCK.out.mono ?_
    rintro e w4 ⟨rfl, hb4⟩
    clear p0
    replace HRB := Lib.hid ((hb4.block _ (lt_block HRB.out)).trans HRB.out)
    replace HPB := Lib.hid ((hb4.block _ (lt_block HPB.out)).trans HPB.out)
    replace HREP := Lib.hid (HREP.out.keep (Stays.of_below hb4))
    replace HB := Lib.hid (HB.out.trans (hb4.mono (Nat.le_trans HSZ.out HSZ3.out)))
    have HLT := Lib.hid (lt_block HRB.out)
    clear hb4
    by_cases hz : ce = 0
    · subst hz
      have HE := Lib.hid (HR.out.trans (front_ok HPT.out HQ.out))
      have p0 : w4.cell? ⟨PB, 0, none⟩ = some (.slice sv nv cv) := cell_of HPB.out (j := 0) rfl
      have r0 : w4.cell? ⟨RB, 0, none⟩ = some (.slice none 0 0) := cell_of HRB.out (j := 0) rfl
      have k0 : w4.frozen? ⟨RB, 0, none⟩ = false := frozen_of HRB.out 0
      go_wp2_with fail
      refine bodyPost_ret (v := .tuple #[.agg #[.slice sv nv cv], .int .i64 0, .int .i64 0]) (by simp [results, Try.results9, go_sem, r0]) rfl ?_
      rw [HE.out]
      refine ⟨⟨_, rfl, ?_⟩, by rw [hRB]; exact HB.out.setCell (p := ⟨RB, 0, none⟩) (Nat.le_refl _) _⟩
      refine RepFns.mono (S := From w1.heap.size) (HREP.out.keep (Stays.of_on ((On.refl RB w4).set 0 _) HW1.out)) (fun b hb => by show w.heap.size ≤ b; rw [hRB]; exact Nat.le_trans HSW.out hb)
    have hne2 : (ce == 0) = false := beq_false_of_ne hz
    have HNE := Lib.hid hz
    clear hz
    have HE := Lib.hid (HR.out.trans (front_bad HPT.out HQ.out HNE.out))
    have r0 : w4.cell? ⟨RB, 0, none⟩ = some (.slice none 0 0) := cell_of HRB.out (j := 0) rfl
    have k0 : w4.frozen? ⟨RB, 0, none⟩ = false := frozen_of HRB.out 0
    go_wp2_with fail
    refine bodyPost_ret (v := .tuple #[.agg #[.slice none 0 0], .int .i64 ce, .int .i64 ca]) (by simp [results, Try.results9, go_sem, r0]) rfl ?_
    rw [HE.out]
    exact ⟨⟨HNE.out, rfl⟩, by rw [hRB]; exact HB.out.setCell (p := ⟨RB, 0, none⟩) (Nat.le_refl _) _⟩
end Go.Proofs.Ytpiamiaigjlafaa
