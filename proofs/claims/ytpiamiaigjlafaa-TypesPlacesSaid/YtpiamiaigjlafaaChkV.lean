/-
  Is a program right: Check.
-/
import Derived.Test.YtpiamiaigjlafaaChkU
namespace Go.Proofs.Ytpiamiaigjlafaa
open Go.RowKit

theorem le_at {w wr : World} {P : Nat} (h : w.heap.size = P) (hb : Below P w wr) : P ≤ wr.heap.size := by rw [← h]; exact hb.size
theorem fn_form {S : Nat → Prop} {w : World} {cs : List Value} {f : Fn} (h : RepFn S w cs f) : ∃ nm s1 n1 c1 rs s2 n2 c2 pos, cs = [.string nm, .slice s1 n1 c1, .int .i64 rs, .slice s2 n2 c2, .int .i64 pos] := by
  obtain ⟨vp, vb, rfl, ⟨c, ⟨a1, a2, rfl, _⟩, _⟩, ⟨c', ⟨b1, b2, rfl, _⟩, _⟩⟩ := h
  exact ⟨_, _, _, _, _, _, _, _, _, rfl⟩
theorem fn_parts {S : Nat → Prop} {w : World} {f : Fn} {nm : ByteArray} {rs pos : Int} {s1 s2 : Option Addr} {n1 c1 n2 c2 : Nat} (h : RepFn S w [.string nm, .slice s1 n1 c1, .int .i64 rs, .slice s2 n2 c2, .int .i64 pos] f) : nm = f.name ∧ n1 = f.params.length ∧ rs = f.result ∧ n2 = f.body.length ∧ pos = f.pos := by
  obtain ⟨vp, vb, e, ⟨c, ⟨a1, a2, rfl, _⟩, _⟩, ⟨c', ⟨b1, b2, rfl, _⟩, _⟩⟩ := h
  simp only [List.cons.injEq, Value.int.injEq, Value.string.injEq, Value.slice.injEq, true_and, and_true] at e
  exact ⟨e.1, e.2.1.2.1, e.2.2.1, e.2.2.2.1.2.1, e.2.2.2.2⟩
theorem FunR.put {w : World} (k : ByteArray) {u : Value} {f : Fn} (hf : FnV w u f) : ∀ {m : List (ByteArray × Value)} {F : Funs}, FunR w m F → FunR w (putL m k u) (putL F k f)
  | [], [], _ => ⟨rfl, hf, trivial⟩
  | p :: m, q :: F, ⟨h1, h2, h3⟩ => by
    simp only [putL]
    rw [h1]
    split
    · exact ⟨rfl, hf, h3⟩
    · exact ⟨h1, h2, h3.put k hf⟩
theorem put_all {F : Funs} {k : ByteArray} {f : Fn} (h : ∀ p, p ∈ F → p.2.params.length ≤ 100000) (hf : f.params.length ≤ 100000) : ∀ p, p ∈ putL F k f → p.2.params.length ≤ 100000 := by
  induction F with
  | nil =>
    intro p hp
    simp only [putL, List.mem_singleton] at hp
    subst hp
    exact hf
  | cons q F ih =>
    intro p hp
    simp only [putL] at hp
    split at hp
    · rcases List.mem_cons.1 hp with rfl | hp
      · exact hf
      · exact h p (List.mem_cons_of_mem _ hp)
    · rcases List.mem_cons.1 hp with rfl | hp
      · exact h _ (List.mem_cons_self ..)
      · exact ih (fun p hp => h p (List.mem_cons_of_mem _ hp)) p hp
theorem funs_at (l : List Fn) (i : Nat) (hi : i < l.length) (F : Funs) : funsC (l.drop i) F = if (lookL F (l.getD i default).name).isSome then ((53, (l.getD i default).pos), F) else funsC (l.drop (i + 1)) (putL F (l.getD i default).name (l.getD i default)) := by
  rw [List.drop_eq_getElem_cons hi, funsC, List.getD_eq_getElem?_getD, List.getElem?_eq_getElem hi]
  rfl
theorem each_at (F : Funs) (l : List Fn) (i : Nat) (hi : i < l.length) : eachC F (l.drop i) = orF (funcC F (l.getD i default)) (eachC F (l.drop (i + 1))) := by
  rw [List.drop_eq_getElem_cons hi, eachC, List.getD_eq_getElem?_getD, List.getElem?_eq_getElem hi]
  rfl
theorem check_many {l : List Fn} (h : 64 < l.length) : checkC l = (2, 0) := by
  unfold checkC
  rw [if_pos h]
theorem check_few {l : List Fn} (h : ¬ 64 < l.length) : checkC l = if (funsC l []).1.1 ≠ 0 then (funsC l []).1 else eachC (funsC l []).2 l := by
  unfold checkC
  rw [if_neg h]
theorem check_twice {l : List Fn} {q : Flt} {G : Funs} (h : funsC l [] = (q, G)) (hq : ¬ q.1 = 0) : (if (funsC l []).1.1 ≠ 0 then (funsC l []).1 else eachC (funsC l []).2 l) = q := by
  rw [h, if_pos hq]
theorem check_each {l : List Fn} {G : Funs} (h : funsC l [] = (okF, G)) : (if (funsC l []).1.1 ≠ 0 then (funsC l []).1 else eachC (funsC l []).2 l) = eachC G l := by
  rw [h, if_neg (by simp [okF])]
set_option maxRecDepth 100000 in
set_option maxHeartbeats 8000000 in
/-- Check: what the plain words say, whatever the program -/
theorem check_ck (l : List Fn) (hp : ∀ f, f ∈ l → f.params.length ≤ 100000) (w : World) (u : Value) (hr : RepFns Any w u l) :
    Calls Try.prog 10 #[.agg #[u]] w fun e w' => e = .returned (.tuple #[.int .i64 (checkC l).1, .int .i64 (checkC l).2]) ∧ Below w.heap.size w w' := by
  obtain ⟨cs, ⟨s0, cap, rfl, hle, hcm, _, hrow, hsz⟩, hit⟩ := hr
  have HROW := Lib.hid hrow
  have HIT : Hid (∀ i, i < l.length → RepFn (fun b => b < w.heap.size) w (cs i) (l.getD i default)) := Lib.hid (fun i hi => (hit i hi).lies.mono (fun _ h => h.2))
  have HCM := Lib.hid (And.intro hle hcm)
  have HP := Lib.hid hp
  generalize hC : checkC l = C
  have HC := Lib.hid hC.symm
  clear hrow hit hsz hle hcm hC hp
  by_cases h64 : (64 : Int) < (l.length : Int)
  · have HCE := Lib.hid (HC.out.trans (check_many (by omega)))
    go_enter Try.func10, Try.ntmps10
    go_wp2_with fail
    refine bodyPost_ret (v := .tuple #[.int .i64 2, .int .i64 0]) (by simp [results, Try.results10, go_sem]) rfl ⟨by rw [HCE.out], up_alloc (Below.refl _ _) _⟩
  replace HC := Lib.hid (HC.out.trans (check_few (by omega)))
  have HB : Hid (Below w.heap.size w (((w.alloc (.cells #[.slice s0 l.length cap] 26)).alloc (.map #[] 0)).alloc (.cells #[.map (some (w.heap.size + 1)), .int .i64 0] 55))) := Lib.hid (up_alloc (up_alloc (up_alloc (Below.refl _ _) _) _) _)
  have HPB : Hid ((((w.alloc (.cells #[.slice s0 l.length cap] 26)).alloc (.map #[] 0)).alloc (.cells #[.map (some (w.heap.size + 1)), .int .i64 0] 55)).heap[w.heap.size]? = some (.cells #[.slice s0 l.length cap] 26 (0, 0))) := Lib.hid (old_heap _ _ _ _ (old_heap _ _ _ _ (new_heap _ _ _ rfl)))
  have HOB : Hid ((((w.alloc (.cells #[.slice s0 l.length cap] 26)).alloc (.map #[] 0)).alloc (.cells #[.map (some (w.heap.size + 1)), .int .i64 0] 55)).heap[w.heap.size + 2]? = some (.cells #[.map (some (w.heap.size + 1)), .int .i64 0] 55 (0, 0))) := Lib.hid (new_heap _ _ _ (by rw [size_alloc, size_alloc]))
  have HM : Hid (MapAt (((w.alloc (.cells #[.slice s0 l.length cap] 26)).alloc (.map #[] 0)).alloc (.cells #[.map (some (w.heap.size + 1)), .int .i64 0] 55)) (w.heap.size + 1) []) := Lib.hid ⟨#[], 0, old_heap _ _ _ _ (new_heap _ _ _ (size_alloc _ _)), rfl⟩
  have hmm := @run_makeMap Try.prog
  have H64 := Lib.hid h64
  obtain ⟨PF, hPF⟩ : ∃ PF, PF = funsC l [] := ⟨_, rfl⟩
  have HPF := Lib.hid hPF
  clear hPF
  go_enter Try.func10, Try.ntmps10
  go_upto_region 4 with fail
  clear hmm h64
  generalize (((w.alloc (.cells #[.slice s0 l.length cap] 26)).alloc (.map #[] 0)).alloc (.cells #[.map (some (w.heap.size + 1)), .int .i64 0] 55)) = w1 at *
  generalize hCB : w.heap.size + 2 = CB at *
  generalize hFR : w.heap.size + 1 = FR at *
  generalize hPB : w.heap.size = PB at *
  have HAD := Lib.hid (And.intro hPB (And.intro hFR hCB))
  clear hPB hFR hCB
  have p0 : w1.cell? ⟨PB, 0, none⟩ = some (.slice s0 l.length cap) := cell_of HPB.out (j := 0) rfl
  go_wp2_with fail
  clear p0
  go_loopg [22] l.length (fun g t22 wr => ∃ (i : Nat) (F : Funs) (m : List (ByteArray × Value)), i + g = l.length ∧ t22 = .int .i64 (i : Int) ∧ PF = funsC (l.drop i) F ∧ MapAt wr FR m ∧ (∀ W, Stays (fun b => b < PB) w W → FunR W m F) ∧ (∀ p, p ∈ F → p.2.params.length ≤ 100000) ∧ Below PB w wr ∧ wr.heap[PB]? = some (.cells #[.slice s0 l.length cap] 26 (0, 0)) ∧ wr.heap[CB]? = some (.cells #[.map (some FR), .int .i64 0] 55 (0, 0)))
  case atStart => exact ⟨0, [], [], Nat.zero_add _, rfl, HPF.out, HM.out, fun _ _ => trivial, fun _ h => (by cases h), HB.out, HPB.out, HOB.out⟩
  case round =>
    obtain ⟨i, F, m, hig, rfl, hpf, hm, hfr, hfp, hb, hpb, hob⟩ := hrel
    clear HB HPB HOB HM
    have HPFI := Lib.hid hpf
    have HM := Lib.hid hm
    have HFR := Lib.hid hfr
    have HFP := Lib.hid hfp
    have HB := Lib.hid hb
    have HPB := Lib.hid hpb
    have HOB := Lib.hid hob
    clear hpf hm hfr hfp hb hpb hob
    by_cases hil : i < l.length
    · obtain ⟨hle2, hcm2⟩ := HCM.out
      unfold maxLen at hcm2
      have g1 : (i : Int) < (l.length : Int) := by omega
      have g3 : (0 : Int) ≤ (i : Int) := by omega
      obtain ⟨b, off, hs0, hSb, hbl, hcell⟩ := HROW.out (by omega)
      subst hs0
      have hrep := HIT.out i hil
      obtain ⟨nm, s1, n1, c1, rs, s2, n2, c2, pos, hcs⟩ := fn_form hrep
      rw [hcs] at hrep
      have hc5 : ∀ j, j < 5 → wr.cell? ⟨b, off + i * 5 + j, none⟩ = (cs i)[j]? := fun j hj => (HB.out.cell (p := ⟨b, _, none⟩) hbl).trans (hcell i hil j hj)
      rw [hcs] at hc5
      have x0 : wr.cell? ⟨b, off + i * 5, none⟩ = some (.string nm) := hc5 0 (by decide)
      have x1 : wr.cell? ⟨b, off + i * 5 + 1, none⟩ = some (.slice s1 n1 c1) := hc5 1 (by decide)
      have x2 : wr.cell? ⟨b, off + i * 5 + 2, none⟩ = some (.int .i64 rs) := hc5 2 (by decide)
      have x3 : wr.cell? ⟨b, off + i * 5 + 3, none⟩ = some (.slice s2 n2 c2) := hc5 3 (by decide)
      have x4 : wr.cell? ⟨b, off + i * 5 + 4, none⟩ = some (.int .i64 pos) := hc5 4 (by decide)
      have hmem : l.getD i default ∈ l := by rw [List.getD_eq_getElem?_getD, List.getElem?_eq_getElem hil]; exact List.getElem_mem hil
      have hfp := HP.out _ hmem
      have hfn := fn_parts hrep
      have HAT := Lib.hid (HPFI.out.trans (funs_at l i hil F))
      generalize l.getD i default = f at *
      have HREP := Lib.hid hrep
      have HFN := Lib.hid hfn
      have HFP2 := Lib.hid hfp
      clear hc5 hrep hcell hcs hmem hfn hfp
      go_upto_region 7 with fail
      have hb2 : Below wr.heap.size wr (wr.alloc (.cells #[.string nm, .slice s1 n1 c1, .int .i64 rs, .slice s2 n2 c2, .int .i64 pos] 34)) := up_alloc (Below.refl _ _) _
      have HFB : Hid ((wr.alloc (.cells #[.string nm, .slice s1 n1 c1, .int .i64 rs, .slice s2 n2 c2, .int .i64 pos] 34)).heap[wr.heap.size]? = some (.cells #[.string nm, .slice s1 n1 c1, .int .i64 rs, .slice s2 n2 c2, .int .i64 pos] 34 (0, 0))) := Lib.hid (new_heap _ _ _ rfl)
      have HLT : Hid (PB ≤ wr.heap.size ∧ CB < wr.heap.size ∧ FR < wr.heap.size) := Lib.hid ⟨le_at HAD.out.1 HB.out, lt_block HOB.out, HM.out.lt⟩
      replace HPB := Lib.hid ((hb2.block _ (lt_block HPB.out)).trans HPB.out)
      replace HOB := Lib.hid ((hb2.block _ (lt_block HOB.out)).trans HOB.out)
      replace HM := Lib.hid (HM.out.below hb2)
      replace HB := Lib.hid (HB.out.trans (hb2.mono (le_at HAD.out.1 HB.out)))
      clear hb2 x0 x1 x2 x3 x4
      generalize (wr.alloc (.cells #[.string nm, .slice s1 n1 c1, .int .i64 rs, .slice s2 n2 c2, .int .i64 pos] 34)) = w3 at *
      generalize wr.heap.size = FB at *
      have hlk : ∃ qnm qs1 qn1 qc1 qrs qs2 qn2 qc2 qps bb, (∀ W : World, Below w3.heap.size w3 W → (Instr.lookup 53 (.map (some FR)) (.string nm) true).run Try.prog W = .ok (.tuple #[.agg #[.string qnm, .slice qs1 qn1 qc1, .int .i64 qrs, .slice qs2 qn2 qc2, .int .i64 qps], .bool bb]) W) ∧ bb = (lookL F nm).isSome := by
        have hfr := HFR.out w3 (Stays.of_below (by rw [HAD.out.1]; exact HB.out))
        rcases hfr.look nm with ⟨e1, e2⟩ | ⟨u, f, e1, e2, qnm, qs1, qn1, qc1, qrs, qs2, qn2, qc2, qps, rfl, _⟩
        · refine ⟨⟨#[]⟩, none, 0, 0, 0, none, 0, 0, 0, false, fun W hW => ?_, by rw [e2]; rfl⟩
          have q := run_lookS (HM.out.below hW) und_funs und_str (zero_fn W) nm
          rw [e1] at q
          exact q
        · refine ⟨qnm, qs1, qn1, qc1, qrs, qs2, qn2, qc2, qps, true, fun W hW => ?_, by rw [e2]; rfl⟩
          have q := run_lookS (HM.out.below hW) und_funs und_str (zero_fn W) nm
          rw [e1] at q
          exact q
      obtain ⟨qnm, qs1, qn1, qc1, qrs, qs2, qn2, qc2, qps, bb, hlk, hbb⟩ := hlk
      have HLK := Lib.hid hlk
      have HBB := Lib.hid hbb
      clear hlk hbb
      have hs0 : w3.drew.cell? ⟨CB, 0, none⟩ = some (.map (some FR)) ∧ w3.drew.cell? ⟨FB, 0, none⟩ = some (.string nm) ∧ (Instr.lookup 53 (.map (some FR)) (.string nm) true).run Try.prog w3.drew = .ok (.tuple #[.agg #[.string qnm, .slice qs1 qn1 qc1, .int .i64 qrs, .slice qs2 qn2 qc2, .int .i64 qps], .bool bb]) w3.drew := ⟨cell_of HOB.out (j := 0) rfl, cell_of HFB.out (j := 0) rfl, HLK.out _ (up_drew (Below.refl _ _))⟩
      refine wp_region_held (S := (fun w' : World => w'.cell? ⟨CB, 0, none⟩ = some (.map (some FR)) ∧ w'.cell? ⟨FB, 0, none⟩ = some (.string nm) ∧ (Instr.lookup 53 (.map (some FR)) (.string nm) true).run Try.prog w' = .ok (.tuple #[.agg #[.string qnm, .slice qs1 qn1 qc1, .int .i64 qrs, .slice qs2 qn2 qc2, .int .i64 qps], .bool bb]) w')) (by kernel_rfl) ?_
      refine wpAnyH_take (i := 0) (v := ?_) rfl (by kernel_rfl) (by kernel_rfl) (by kernel_rfl) (fun _ _ _ h => h) (Or.inl ⟨by rfl, ?_⟩) (by assumption) ?_
      rotate_left 1
      · (intro w hSw; (try dsimp only at hSw); go_simp; try with_reducible rfl)
      try simp only [Act.put, List.setIfInBounds_toArray, List.set_cons_zero, List.set_cons_succ, List.getElem_toArray, List.getElem_cons_zero]
      refine wpAnyH_take (i := 1) (v := ?_) rfl (by kernel_rfl) (by kernel_rfl) (by kernel_rfl) (fun _ _ _ h => h) (Or.inl ⟨by rfl, ?_⟩) (by assumption) ?_
      rotate_left 1
      · (intro w hSw; (try dsimp only at hSw); go_simp; try with_reducible rfl)
      try simp only [Act.put, List.setIfInBounds_toArray, List.set_cons_zero, List.set_cons_succ, List.getElem_toArray, List.getElem_cons_zero, List.getElem_cons_succ]
      refine wpAnyH_take (i := 2) (v := ?_) rfl (by kernel_rfl) (by kernel_rfl) (by kernel_rfl) (fun _ _ _ h => h) (Or.inl ⟨by rfl, ?_⟩) (by assumption) ?_
      rotate_left 1
      · (intro w hSw; (try dsimp only at hSw); go_simp; try with_reducible rfl)
      try simp only [Act.put, List.setIfInBounds_toArray, List.set_cons_zero, List.set_cons_succ, List.getElem_toArray, List.getElem_cons_zero, List.getElem_cons_succ]
      refine wpAnyH_take (i := 3) (v := ?_) rfl (by kernel_rfl) (by kernel_rfl) (by kernel_rfl) (fun _ _ _ h => h) (Or.inl ⟨by rfl, ?_⟩) (by assumption) ?_
      rotate_left 1
      · (intro w hSw; (try dsimp only at hSw); go_simp; try with_reducible rfl)
      try simp only [Act.put, List.setIfInBounds_toArray, List.set_cons_zero, List.set_cons_succ, List.getElem_toArray, List.getElem_cons_zero, List.getElem_cons_succ]
      refine wpAnyH_take (i := 4) (v := ?_) rfl (by kernel_rfl) (by kernel_rfl) (by kernel_rfl) (fun _ _ _ h => h) (Or.inl ⟨by rfl, ?_⟩) (by assumption) ?_
      rotate_left 1
      · (intro w hSw; (try dsimp only at hSw); go_simp; try with_reducible rfl)
      try simp only [Act.put, List.setIfInBounds_toArray, List.set_cons_zero, List.set_cons_succ, List.getElem_toArray, List.getElem_cons_zero, List.getElem_cons_succ]
      refine wpAnyH_take (i := 5) (v := ?_) rfl (by kernel_rfl) (by kernel_rfl) (by kernel_rfl) (fun _ _ _ h => h) (Or.inl ⟨by rfl, ?_⟩) (by assumption) ?_
      rotate_left 1
      · (intro w hSw; (try dsimp only at hSw); go_simp; try with_reducible rfl)
      try simp only [Act.put, List.setIfInBounds_toArray, List.set_cons_zero, List.set_cons_succ, List.getElem_toArray, List.getElem_cons_zero, List.getElem_cons_succ]
      refine wpAnyH_take (i := 6) (v := ?_) rfl (by kernel_rfl) (by kernel_rfl) (by kernel_rfl) (fun _ _ _ h => h) (Or.inl ⟨by rfl, ?_⟩) (by assumption) ?_
      rotate_left 1
      · (intro w hSw; (try dsimp only at hSw); go_simp; try with_reducible rfl)
      try simp only [Act.put, List.setIfInBounds_toArray, List.set_cons_zero, List.set_cons_succ, List.getElem_toArray, List.getElem_cons_zero, List.getElem_cons_succ]
      refine wpAnyH_take (i := 7) (v := ?_) rfl (by kernel_rfl) (by kernel_rfl) (by kernel_rfl) (fun _ _ _ h => h) (Or.inl ⟨by rfl, ?_⟩) (by assumption) ?_
      rotate_left 1
      · (intro w hSw; (try dsimp only at hSw); go_simp; try with_reducible rfl)
      try simp only [Act.put, List.setIfInBounds_toArray, List.set_cons_zero, List.set_cons_succ, List.getElem_toArray, List.getElem_cons_zero, List.getElem_cons_succ]
      refine wpAnyH_take (i := 8) (v := ?_) rfl (by kernel_rfl) (by kernel_rfl) (by kernel_rfl) (fun _ _ _ h => h) (Or.inl ⟨by rfl, ?_⟩) (by assumption) ?_
      rotate_left 1
      · (intro w hSw; (try dsimp only at hSw); go_simp; try with_reducible rfl)
      try simp only [Act.put, List.setIfInBounds_toArray, List.set_cons_zero, List.set_cons_succ, List.getElem_toArray, List.getElem_cons_zero, List.getElem_cons_succ]
      refine wpAnyH_take (i := 9) (v := ?_) rfl (by kernel_rfl) (by kernel_rfl) (by kernel_rfl) (fun _ _ _ h => h) (Or.inl ⟨by rfl, ?_⟩) (by assumption) ?_
      rotate_left 1
      · (intro w hSw; (try dsimp only at hSw); go_simp; try with_reducible rfl)
      try simp only [Act.put, List.setIfInBounds_toArray, List.set_cons_zero, List.set_cons_succ, List.getElem_toArray, List.getElem_cons_zero, List.getElem_cons_succ]
      refine wpAnyH_ready (rs := [10]) (by kernel_rfl) (by simp) ?_
      refine (AllReadyH.cons rfl (fun K hK => ?_) AllReadyH.nil)
      go_simp
      refine hK.out _ _ ?_ (fun hHeld => ?_)
      · exact ⟨old_cell _ hs0.1, old_cell _ hs0.2.1, HLK.out _ (up_alloc (up_drew (Below.refl _ _)) _)⟩
      clear hK K
      try simp only [Act.put, List.setIfInBounds_toArray, List.set_cons_zero, List.set_cons_succ, List.getElem_toArray, List.getElem_cons_zero, List.getElem_cons_succ]
      refine wpAnyH_ready (rs := [11]) (by kernel_rfl) (by simp) ?_
      refine (AllReadyH.cons rfl (fun K hK => ?_) AllReadyH.nil)
      go_simp
      refine hK.out _ _ ?_ (fun hHeld => ?_)
      · exact ⟨old_cell _ hs0.1, old_cell _ hs0.2.1, HLK.out _ (up_alloc (up_drew (Below.refl _ _)) _)⟩
      clear hK K
      try simp only [Act.put, List.setIfInBounds_toArray, List.set_cons_zero, List.set_cons_succ, List.getElem_toArray, List.getElem_cons_zero, List.getElem_cons_succ]
      refine wpAnyH_ready (rs := [12]) (by kernel_rfl) (by simp) ?_
      refine (AllReadyH.cons rfl (fun K hK => ?_) AllReadyH.nil)
      go_simp
      refine hK.out _ _ ?_ (fun hHeld => ?_)
      · exact ⟨old_cell _ hs0.1, old_cell _ hs0.2.1, HLK.out _ (up_alloc (up_drew (Below.refl _ _)) _)⟩
      clear hK K
      try simp only [Act.put, List.setIfInBounds_toArray, List.set_cons_zero, List.set_cons_succ, List.getElem_toArray, List.getElem_cons_zero, List.getElem_cons_succ]
      refine wpAnyH_done (by kernel_rfl) ?_ _
      clear hs0
      have hb4 : Below w3.heap.size w3 (w3.alloc (.cells #[.string qnm, .slice qs1 qn1 qc1, .int .i64 qrs, .slice qs2 qn2 qc2, .int .i64 qps] 34)).drew := up_drew (up_alloc (Below.refl _ _) _)
      replace HPB := Lib.hid ((hb4.block _ (lt_block HPB.out)).trans HPB.out)
      replace HOB := Lib.hid ((hb4.block _ (lt_block HOB.out)).trans HOB.out)
      replace HM := Lib.hid (HM.out.below hb4)
      replace HFB := Lib.hid ((hb4.block _ (lt_block HFB.out)).trans HFB.out)
      replace HB := Lib.hid (HB.out.trans (hb4.mono (le_at HAD.out.1 HB.out)))
      clear hb4 HLK
      generalize (w3.alloc (.cells #[.string qnm, .slice qs1 qn1 qc1, .int .i64 qrs, .slice qs2 qn2 qc2, .int .i64 qps] 34)).drew = w4 at *
      cases bb
      · replace HAT := Lib.hid (HAT.out.trans (if_neg (by rw [← HFN.out.1, ← HBB.out]; simp)))
        go_upto_region 10 with fail
        have hs0 : w4.drew.cell? ⟨CB, 0, none⟩ = some (.map (some FR)) ∧ w4.drew.cell? ⟨FB, 0, none⟩ = some (.string nm) ∧ w4.drew.cell? ⟨FB, 1, none⟩ = some (.slice s1 n1 c1) ∧ w4.drew.cell? ⟨FB, 2, none⟩ = some (.int .i64 rs) ∧ w4.drew.cell? ⟨FB, 3, none⟩ = some (.slice s2 n2 c2) ∧ w4.drew.cell? ⟨FB, 4, none⟩ = some (.int .i64 pos) := ⟨cell_of HOB.out (j := 0) rfl, cell_of HFB.out (j := 0) rfl, cell_of HFB.out (j := 1) rfl, cell_of HFB.out (j := 2) rfl, cell_of HFB.out (j := 3) rfl, cell_of HFB.out (j := 4) rfl⟩
        refine wp_region_split (S := (fun w' : World => w'.cell? ⟨CB, 0, none⟩ = some (.map (some FR)) ∧ w'.cell? ⟨FB, 0, none⟩ = some (.string nm) ∧ w'.cell? ⟨FB, 1, none⟩ = some (.slice s1 n1 c1) ∧ w'.cell? ⟨FB, 2, none⟩ = some (.int .i64 rs) ∧ w'.cell? ⟨FB, 3, none⟩ = some (.slice s2 n2 c2) ∧ w'.cell? ⟨FB, 4, none⟩ = some (.int .i64 pos))) 7 (by kernel_rfl) (by kernel_rfl) (by exact hs0) (fun hHeld => ?_)
        simp only [List.take_succ_cons, List.take_zero, List.drop_succ_cons, List.drop_zero]
        refine wpAnyH_take (i := 0) (v := ?_) rfl (by kernel_rfl) (by kernel_rfl) (by kernel_rfl) (fun _ _ _ h => h) (Or.inl ⟨by rfl, ?_⟩) (by assumption) ?_
        rotate_left 1
        · (intro w hSw; (try dsimp only at hSw); go_simp; try with_reducible rfl)
        try simp only [Act.put, List.setIfInBounds_toArray, List.set_cons_zero, List.set_cons_succ, List.getElem_toArray, List.getElem_cons_zero]
        refine wpAnyH_take (i := 1) (v := ?_) rfl (by kernel_rfl) (by kernel_rfl) (by kernel_rfl) (fun _ _ _ h => h) (Or.inl ⟨by rfl, ?_⟩) (by assumption) ?_
        rotate_left 1
        · (intro w hSw; (try dsimp only at hSw); go_simp; try with_reducible rfl)
        try simp only [Act.put, List.setIfInBounds_toArray, List.set_cons_zero, List.set_cons_succ, List.getElem_toArray, List.getElem_cons_zero, List.getElem_cons_succ]
        refine wpAnyH_take (i := 2) (v := ?_) rfl (by kernel_rfl) (by kernel_rfl) (by kernel_rfl) (fun _ _ _ h => h) (Or.inl ⟨by rfl, ?_⟩) (by assumption) ?_
        rotate_left 1
        · (intro w hSw; (try dsimp only at hSw); go_simp; try with_reducible rfl)
        try simp only [Act.put, List.setIfInBounds_toArray, List.set_cons_zero, List.set_cons_succ, List.getElem_toArray, List.getElem_cons_zero, List.getElem_cons_succ]
        refine wpAnyH_take (i := 3) (v := ?_) rfl (by kernel_rfl) (by kernel_rfl) (by kernel_rfl) (fun _ _ _ h => h) (Or.inl ⟨by rfl, ?_⟩) (by assumption) ?_
        rotate_left 1
        · (intro w hSw; (try dsimp only at hSw); go_simp; try with_reducible rfl)
        try simp only [Act.put, List.setIfInBounds_toArray, List.set_cons_zero, List.set_cons_succ, List.getElem_toArray, List.getElem_cons_zero, List.getElem_cons_succ]
        refine wpAnyH_take (i := 4) (v := ?_) rfl (by kernel_rfl) (by kernel_rfl) (by kernel_rfl) (fun _ _ _ h => h) (Or.inl ⟨by rfl, ?_⟩) (by assumption) ?_
        rotate_left 1
        · (intro w hSw; (try dsimp only at hSw); go_simp; try with_reducible rfl)
        try simp only [Act.put, List.setIfInBounds_toArray, List.set_cons_zero, List.set_cons_succ, List.getElem_toArray, List.getElem_cons_zero, List.getElem_cons_succ]
        refine wpAnyH_take (i := 5) (v := ?_) rfl (by kernel_rfl) (by kernel_rfl) (by kernel_rfl) (fun _ _ _ h => h) (Or.inl ⟨by rfl, ?_⟩) (by assumption) ?_
        rotate_left 1
        · (intro w hSw; (try dsimp only at hSw); go_simp; try with_reducible rfl)
        try simp only [Act.put, List.setIfInBounds_toArray, List.set_cons_zero, List.set_cons_succ, List.getElem_toArray, List.getElem_cons_zero, List.getElem_cons_succ]
        refine wpAnyH_take (i := 6) (v := ?_) rfl (by kernel_rfl) (by kernel_rfl) (by kernel_rfl) (fun _ _ _ h => h) (Or.inl ⟨by rfl, ?_⟩) (by assumption) ?_
        rotate_left 1
        · (intro w hSw; (try dsimp only at hSw); go_simp; try with_reducible rfl)
        try simp only [Act.put, List.setIfInBounds_toArray, List.set_cons_zero, List.set_cons_succ, List.getElem_toArray, List.getElem_cons_zero, List.getElem_cons_succ]
        refine wpAnyH_done (by kernel_rfl) ?_ _
        dsimp only [TailQ]
        clear hs0
        have HMD : Hid (MapAt w4.drew FR m) := Lib.hid (HM.out.keep rfl)
        have hp := run_putS HMD.out und_funs und_str nm (.agg #[.string nm, .slice s1 n1 c1, .int .i64 rs, .slice s2 n2 c2, .int .i64 pos])
        have HPV := Lib.hid (putW_at HMD.out nm (.agg #[.string nm, .slice s1 n1 c1, .int .i64 rs, .slice s2 n2 c2, .int .i64 pos]))
        have HPO := Lib.hid (putW_on w4.drew FR nm (.agg #[.string nm, .slice s1 n1 c1, .int .i64 rs, .slice s2 n2 c2, .int .i64 pos]))
        go_wp2_with fail
        go_roundg (l.length - i - 1)
        case measure => omega
        case rel =>
          have hne : PB ≠ FR ∧ CB ≠ FR := by have := HAD.out; omega
          refine ⟨i + 1, _, _, by omega, rfl, HAT.out, HPV.out, fun W hW => ?_, ?_, ?_, HPO.out.obj hne.1 HPB.out, HPO.out.obj hne.2 HOB.out⟩
          · rw [← HFN.out.1]
            exact (HFR.out W hW).put nm ⟨nm, s1, n1, c1, rs, s2, n2, c2, pos, rfl, (HREP.out.keep hW).mono (fun _ _ => trivial)⟩
          · exact put_all HFP.out HFP2.out
          · have q := HPO.out.base (B := w) (by rw [HAD.out.1]; exact HB.out.drew) (by have := HAD.out; omega)
            rw [HAD.out.1] at q
            exact q
      have HCE := Lib.hid (HC.out.trans (check_twice (q := (53, f.pos)) (G := F) (HPF.out.symm.trans (HAT.out.trans (if_pos (by rw [← HFN.out.1, ← HBB.out])))) (by simp)))
      go_upto_region 9 with fail
      have hs0 : w4.drew.cell? ⟨FB, 4, none⟩ = some (.int .i64 pos) := cell_of HFB.out (j := 4) rfl
      refine wp_region_held (S := (fun w' : World => w'.cell? ⟨FB, 4, none⟩ = some (.int .i64 pos))) (by kernel_rfl) ?_
      refine wpAnyH_take (i := 0) (v := ?_) rfl (by kernel_rfl) (by kernel_rfl) (by kernel_rfl) (fun _ _ _ h => h) (Or.inl ⟨by rfl, ?_⟩) (by assumption) ?_
      rotate_left 1
      · (intro w hSw; (try dsimp only at hSw); go_simp; try with_reducible rfl)
      try simp only [Act.put, List.setIfInBounds_toArray, List.set_cons_zero, List.set_cons_succ, List.getElem_toArray, List.getElem_cons_zero]
      refine wpAnyH_take (i := 1) (v := ?_) rfl (by kernel_rfl) (by kernel_rfl) (by kernel_rfl) (fun _ _ _ h => h) (Or.inl ⟨by rfl, ?_⟩) (by assumption) ?_
      rotate_left 1
      · (intro w hSw; (try dsimp only at hSw); go_simp; try with_reducible rfl)
      try simp only [Act.put, List.setIfInBounds_toArray, List.set_cons_zero, List.set_cons_succ, List.getElem_toArray, List.getElem_cons_zero, List.getElem_cons_succ]
      refine wpAnyH_ready (rs := [2]) (by kernel_rfl) (by simp) ?_
      refine (AllReadyH.cons rfl (fun K hK => ?_) AllReadyH.nil)
      go_simp
      refine hK.out _ _ ?_ (fun hHeld => ?_)
      · exact hs0
      clear hK K
      try simp only [Act.put, List.setIfInBounds_toArray, List.set_cons_zero, List.set_cons_succ, List.getElem_toArray, List.getElem_cons_zero, List.getElem_cons_succ]
      refine wpAnyH_ready (rs := [3]) (by kernel_rfl) (by simp) ?_
      refine (AllReadyH.cons rfl (fun K hK => ?_) AllReadyH.nil)
      go_simp
      refine hK.out _ _ ?_ (fun hHeld => ?_)
      · exact hs0
      clear hK K
      try simp only [Act.put, List.setIfInBounds_toArray, List.set_cons_zero, List.set_cons_succ, List.getElem_toArray, List.getElem_cons_zero, List.getElem_cons_succ]
      refine wpAnyH_done (by kernel_rfl) ?_ _
      go_wp2_with fail
      exact bodyPost_ret (v := .tuple #[.int .i64 53, .int .i64 pos]) (by simp [results, Try.results10, go_sem]) rfl ⟨by rw [HCE.out, HFN.out.2.2.2.2], by rw [HAD.out.1]; exact HB.out.drew⟩
    obtain rfl : i = l.length := by omega
    have g1 : ¬ (l.length : Int) < (l.length : Int) := by omega
    replace HPFI := Lib.hid (HPF.out.symm.trans (HPFI.out.trans (by rw [List.drop_eq_nil_of_le (Nat.le_refl _), funsC] : _ = (okF, F))))
    replace HC := Lib.hid (HC.out.trans (check_each HPFI.out))
    clear HPFI HPF
    have p0 : wr.cell? ⟨PB, 0, none⟩ = some (.slice s0 l.length cap) := cell_of HPB.out (j := 0) rfl
    go_wp2_with fail
    clear p0
    have hcr : C = eachC F (l.drop 0) := HC.out
    go_loopg [50] l.length (fun g t50 wr => ∃ (i : Nat) (r : Int), i + g = l.length ∧ t50 = .int .i64 (i : Int) ∧ C = eachC F (l.drop i) ∧ MapAt wr FR m ∧ Below PB w wr ∧ wr.heap[CB]? = some (.cells #[.map (some FR), .int .i64 r] 55 (0, 0)))
    case atStart => exact ⟨0, 0, Nat.zero_add _, rfl, hcr, HM.out, HB.out, HOB.out⟩
    case round =>
      obtain ⟨i, r, hig, rfl, hce, hm, hb, hob⟩ := hrel
      clear HB HM HOB hcr HC
      have HC := Lib.hid hce
      have HM := Lib.hid hm
      have HB := Lib.hid hb
      have HOB := Lib.hid hob
      clear hce hm hb hob
      by_cases hil : i < l.length
      · obtain ⟨hle2, hcm2⟩ := HCM.out
        unfold maxLen at hcm2
        have g1 : (i : Int) < (l.length : Int) := by omega
        have g3 : (0 : Int) ≤ (i : Int) := by omega
        obtain ⟨b, off, hs0, hSb, hbl, hcell⟩ := HROW.out (by omega)
        subst hs0
        have hrep := HIT.out i hil
        obtain ⟨nm, s1, n1, c1, rs, s2, n2, c2, pos, hcs⟩ := fn_form hrep
        rw [hcs] at hrep
        have hc5 : ∀ j, j < 5 → wr.cell? ⟨b, off + i * 5 + j, none⟩ = (cs i)[j]? := fun j hj => (HB.out.cell (p := ⟨b, _, none⟩) hbl).trans (hcell i hil j hj)
        rw [hcs] at hc5
        have x0 : wr.cell? ⟨b, off + i * 5, none⟩ = some (.string nm) := hc5 0 (by decide)
        have x1 : wr.cell? ⟨b, off + i * 5 + 1, none⟩ = some (.slice s1 n1 c1) := hc5 1 (by decide)
        have x2 : wr.cell? ⟨b, off + i * 5 + 2, none⟩ = some (.int .i64 rs) := hc5 2 (by decide)
        have x3 : wr.cell? ⟨b, off + i * 5 + 3, none⟩ = some (.slice s2 n2 c2) := hc5 3 (by decide)
        have x4 : wr.cell? ⟨b, off + i * 5 + 4, none⟩ = some (.int .i64 pos) := hc5 4 (by decide)
        have HAT := Lib.hid (HC.out.trans (each_at F l i hil))
        generalize l.getD i default = f at *
        have HREP := Lib.hid hrep
        clear hc5 hrep hcell hcs
        go_upto_region 15 with fail
        have hb2 : Below wr.heap.size wr (wr.alloc (.cells #[.string nm, .slice s1 n1 c1, .int .i64 rs, .slice s2 n2 c2, .int .i64 pos] 34)) := up_alloc (Below.refl _ _) _
        have HFB : Hid ((wr.alloc (.cells #[.string nm, .slice s1 n1 c1, .int .i64 rs, .slice s2 n2 c2, .int .i64 pos] 34)).heap[wr.heap.size]? = some (.cells #[.string nm, .slice s1 n1 c1, .int .i64 rs, .slice s2 n2 c2, .int .i64 pos] 34 (0, 0))) := Lib.hid (new_heap _ _ _ rfl)
        replace HOB := Lib.hid ((hb2.block _ (lt_block HOB.out)).trans HOB.out)
        replace HM := Lib.hid (HM.out.below hb2)
        replace HB := Lib.hid (HB.out.trans (hb2.mono (le_at HAD.out.1 HB.out)))
        clear hb2 x0 x1 x2 x3 x4
        generalize (wr.alloc (.cells #[.string nm, .slice s1 n1 c1, .int .i64 rs, .slice s2 n2 c2, .int .i64 pos] 34)) = w3 at *
        generalize wr.heap.size = FB at *
        have HST : Hid (Stays (fun b => b < PB) w w3) := Lib.hid (Stays.of_below (by rw [HAD.out.1]; exact HB.out))
        have HCK := Lib.hid (func_ck CB PB FR F HFP.out m f w3 r (by have := HAD.out; omega) (by have := HAD.out; omega) HOB.out HM.out (fun W hW => HFR.out W (HST.out.trans hW)) nm s1 n1 c1 rs s2 n2 c2 pos (HREP.out.keep HST.out))
        generalize funcC F f = q at *
        obtain ⟨fe, fa⟩ := q
        unfold fltV at HCK
        dsimp only at HCK
        have y0 : w3.cell? ⟨FB, 0, none⟩ = some (.string nm) := cell_of HFB.out (j := 0) rfl
        have y1 : w3.cell? ⟨FB, 1, none⟩ = some (.slice s1 n1 c1) := cell_of HFB.out (j := 1) rfl
        have y2 : w3.cell? ⟨FB, 2, none⟩ = some (.int .i64 rs) := cell_of HFB.out (j := 2) rfl
        have y3 : w3.cell? ⟨FB, 3, none⟩ = some (.slice s2 n2 c2) := cell_of HFB.out (j := 3) rfl
        have y4 : w3.cell? ⟨FB, 4, none⟩ = some (.int .i64 pos) := cell_of HFB.out (j := 4) rfl
        go_wp2_with fail
        refine HCK.out.mono ?_
        rintro e w4 ⟨rfl, ho, r2, hob⟩
        clear y0 y1 y2 y3 y4 HST HCK
        replace HM := Lib.hid (HM.out.keep (ho.block _ HM.out.lt (fun e => by injection e with e; have := HAD.out; omega)))
        replace HB : Hid (Below PB w w4) := Lib.hid (by have q := ho.base (B := w) (by rw [HAD.out.1]; exact HB.out) (by have := HAD.out; omega); rw [HAD.out.1] at q; exact q)
        replace HOB := Lib.hid hob
        clear ho hob HFB
        go_upto_region 16 with fail
        have hb2 : Below w4.heap.size w4 (w4.alloc (.cells #[.int .i64 fe, .int .i64 fa] 58)) := up_alloc (Below.refl _ _) _
        have HFB : Hid ((w4.alloc (.cells #[.int .i64 fe, .int .i64 fa] 58)).heap[w4.heap.size]? = some (.cells #[.int .i64 fe, .int .i64 fa] 58 (0, 0))) := Lib.hid (new_heap _ _ _ rfl)
        replace HOB := Lib.hid ((hb2.block _ (lt_block HOB.out)).trans HOB.out)
        replace HM := Lib.hid (HM.out.below hb2)
        replace HB := Lib.hid (HB.out.trans (hb2.mono (le_at HAD.out.1 HB.out)))
        clear hb2
        generalize (w4.alloc (.cells #[.int .i64 fe, .int .i64 fa] 58)) = w5 at *
        generalize w4.heap.size = EB at *
        by_cases he : fe = 0
        · subst he
          have z0 : w5.cell? ⟨EB, 0, none⟩ = some (.int .i64 0) := cell_of HFB.out (j := 0) rfl
          go_wp2_with fail
          go_roundg (l.length - i - 1)
          case measure => omega
          case rel => exact ⟨i + 1, r2, by omega, rfl, HAT.out.trans (by simp [orF]), HM.out, HB.out, HOB.out⟩
        have HCE := Lib.hid (HAT.out.trans (show orF (fe, fa) _ = (fe, fa) by simp [orF, he]))
        have z0 : w5.cell? ⟨EB, 0, none⟩ = some (.int .i64 fe) := cell_of HFB.out (j := 0) rfl
        go_upto_region 17 with fail
        have hs0 : w5.drew.cell? ⟨EB, 0, none⟩ = some (.int .i64 fe) ∧ w5.drew.cell? ⟨EB, 1, none⟩ = some (.int .i64 fa) := ⟨cell_of HFB.out (j := 0) rfl, cell_of HFB.out (j := 1) rfl⟩
        refine wp_region_held (S := (fun w' : World => w'.cell? ⟨EB, 0, none⟩ = some (.int .i64 fe) ∧ w'.cell? ⟨EB, 1, none⟩ = some (.int .i64 fa))) (by kernel_rfl) ?_
        refine wpAnyH_take (i := 0) (v := ?_) rfl (by kernel_rfl) (by kernel_rfl) (by kernel_rfl) (fun _ _ _ h => h) (Or.inl ⟨by rfl, ?_⟩) (by assumption) ?_
        rotate_left 1
        · (intro w hSw; (try dsimp only at hSw); go_simp; try with_reducible rfl)
        try simp only [Act.put, List.setIfInBounds_toArray, List.set_cons_zero, List.set_cons_succ, List.getElem_toArray, List.getElem_cons_zero]
        refine wpAnyH_take (i := 1) (v := ?_) rfl (by kernel_rfl) (by kernel_rfl) (by kernel_rfl) (fun _ _ _ h => h) (Or.inl ⟨by rfl, ?_⟩) (by assumption) ?_
        rotate_left 1
        · (intro w hSw; (try dsimp only at hSw); go_simp; try with_reducible rfl)
        try simp only [Act.put, List.setIfInBounds_toArray, List.set_cons_zero, List.set_cons_succ, List.getElem_toArray, List.getElem_cons_zero, List.getElem_cons_succ]
        refine wpAnyH_take (i := 2) (v := ?_) rfl (by kernel_rfl) (by kernel_rfl) (by kernel_rfl) (fun _ _ _ h => h) (Or.inl ⟨by rfl, ?_⟩) (by assumption) ?_
        rotate_left 1
        · (intro w hSw; (try dsimp only at hSw); go_simp; try with_reducible rfl)
        try simp only [Act.put, List.setIfInBounds_toArray, List.set_cons_zero, List.set_cons_succ, List.getElem_toArray, List.getElem_cons_zero, List.getElem_cons_succ]
        refine wpAnyH_take (i := 3) (v := ?_) rfl (by kernel_rfl) (by kernel_rfl) (by kernel_rfl) (fun _ _ _ h => h) (Or.inl ⟨by rfl, ?_⟩) (by assumption) ?_
        rotate_left 1
        · (intro w hSw; (try dsimp only at hSw); go_simp; try with_reducible rfl)
        try simp only [Act.put, List.setIfInBounds_toArray, List.set_cons_zero, List.set_cons_succ, List.getElem_toArray, List.getElem_cons_zero, List.getElem_cons_succ]
        refine wpAnyH_ready (rs := [4]) (by kernel_rfl) (by simp) ?_
        refine (AllReadyH.cons rfl (fun K hK => ?_) AllReadyH.nil)
        go_simp
        refine hK.out _ _ ?_ (fun hHeld => ?_)
        · exact hs0
        clear hK K
        try simp only [Act.put, List.setIfInBounds_toArray, List.set_cons_zero, List.set_cons_succ, List.getElem_toArray, List.getElem_cons_zero, List.getElem_cons_succ]
        refine wpAnyH_ready (rs := [5]) (by kernel_rfl) (by simp) ?_
        refine (AllReadyH.cons rfl (fun K hK => ?_) AllReadyH.nil)
        go_simp
        refine hK.out _ _ ?_ (fun hHeld => ?_)
        · exact hs0
        clear hK K
        try simp only [Act.put, List.setIfInBounds_toArray, List.set_cons_zero, List.set_cons_succ, List.getElem_toArray, List.getElem_cons_zero, List.getElem_cons_succ]
        refine wpAnyH_done (by kernel_rfl) ?_ _
        go_wp2_with fail
        exact bodyPost_ret (v := .tuple #[.int .i64 fe, .int .i64 fa]) (by simp [results, Try.results10, go_sem]) rfl ⟨by rw [HCE.out], by rw [HAD.out.1]; exact HB.out.drew⟩
      obtain rfl : i = l.length := by omega
      have g1 : ¬ (l.length : Int) < (l.length : Int) := by omega
      have HCE := Lib.hid (HC.out.trans (by rw [List.drop_eq_nil_of_le (Nat.le_refl _), eachC] : _ = okF))
      go_wp2_with fail
      exact bodyPost_ret (v := .tuple #[.int .i64 0, .int .i64 0]) (by simp [results, Try.results10, go_sem]) rfl ⟨by rw [HCE.out]; rfl, by rw [HAD.out.1]; exact HB.out⟩
end Go.Proofs.Ytpiamiaigjlafaa
